/- Parts of the proof, in one file. -/
import Derived.Test.YtekdgjajmennjaaGreatKa
open Option renaming some → ab, none → ae
open Bool renaming true → af, false → ag
open Decidable renaming decide → ah
open Array renaming length_toList → yby, getElem?_toList → ycf, toArray_toList → ycl, toList_map → ycu
open Bool renaming and_eq_true → yi
open Go renaming TypeId → yc, Program → yg, Value → yh, Operand → ym, FuncId → yq
open List renaming length_append → yl, getElem?_eq_some_iff → yo, replicate → yw, length_take → yx, length_map → yab, getElem?_eq_getElem → yac, append_assoc → yad, map_cons → yag, getElem?_map → yak, length_cons → yam, getElem?_append_right → yaq, mem_singleton → yas, mem_cons_self → yax, getElem?_cons_succ → yay, mem_cons_of_mem → yaz, length_set → yba, take_append_drop → ybd, getElem?_append_left → ybe, getElem_of_mem → ybg, eq_nil_of_length_eq_zero → ybh, ext_getElem? → ybj, getElem?_cons_zero → ybm, mem_of_mem_take → ybn, mem_cons → ybo, take_of_length_le → ybs, mem_of_getElem? → ybv, length_drop → ybw, getElem?_set → yca, mem_map → yci, getElem?_take → ycr, mem_of_mem_drop → ycy
open Nat renaming le_refl → yj, zero_add → yat, add_mul → yau, min_eq_left → ybc, le_trans → ybk, add_zero → ybu, eq_zero_or_pos → ycd, mul_le_mul_right → ycg
open Option renaming map_eq_some_iff → yn
open Option.some renaming injEq → yp, inj → yaw
open Prod.mk renaming injEq → yz
set_option linter.unusedVariables false
set_option linter.unusedSimpArgs false
section
namespace Go.Ev
theorem ZLb{xs:yL Pl}{i:Nat}{x y:Pl}(hx:xs[i]? =ab x)(hs:y.size=x.size):Pl.sizes (xs.set i y)=Pl.sizes xs:=by
 rw[ry,ry,List.map_set,hs];congr 1;apply ybj;intro j;rw[yca];split
 .rename_i h;subst h;have:=(yo.1 hx).1;rw[yak,hx];simp[this]
 .rfl
theorem Zzi{xs:yL Dv}{i:Nat}{x y:Dv}(hx:xs[i]? =ab x)(hs:y.size=x.size):Dv.sizes (xs.set i y)=Dv.sizes xs:=by
 rw[oR,oR,List.map_set,hs];congr 1;apply ybj;intro j;rw[yca];split
 .rename_i h;subst h;have:=(yo.1 hx).1;rw[yak,hx];simp[this]
 .rfl
theorem nC{α:Type}{xs:yL α}{i:Nat}{x y:α}(hx:xs[i]? =ab x):xs.set i y=xs.take i++(y::xs.drop (i+1)):=by
 rw[List.set_eq_take_append_cons_drop,yW (yo.1 hx).1]
theorem vn{α:Type}{Q:α->Prop}{xs:yL α}{i:Nat}{y:α}(h:∀x,x∈xs->Q x)(hy:Q y):∀x,x∈xs.set i y->Q x:=by
 intro x hx;rcases List.mem_or_eq_of_mem_set hx with h1|h1
 .exact h x h1
 .rw[h1];exact hy
theorem rA{σ:Sg}:∀{xs:yL Pl}{us:yL yh},aq σ.w σ.aU xs us->aI σ (xs.map Dv.p) us
 |[],us,h=>by simpa[aq,aI] using h
 |x::xs,us,h=>by
  simp only[aq]at h;obtain⟨a,b,h1,h2,h3⟩:=h;simp only[yag,aI];exact⟨a,b,h1,by simpa[yG] using h2,rA h3⟩
theorem lQ{σ:Sg}:∀(yM:yL Nat)(dd:Dv)(hs hs':yL ar)(C:yL Prop)(off:Nat)(sub:Dv)(us:yL yh),Yy dd yM hs=ab (C,off,sub,hs')->ba C->yG σ dd us->
 ∃x y z,us=x++(y++z)/\x.length=off/\yG σ sub y/\∀new dd' y',VS new dd yM hs=ab dd'->new.size=sub.size->yG σ new y'->yG σ dd' (x++(y'++z))/\dd'.size=dd.size
 |[],dd,hs,hs',C,off,sub,us,h,hc,hr=>by
  simp only[Yy,yp,yz]at h;obtain⟨rfl,rfl,rfl,rfl⟩:=h;refine⟨[],us,[],by simp,rfl,hr,λnew dd' y' hp hs hn=> ?_⟩;simp only[VS,yp]at hp;subst hp
  exact⟨by simpa using hn,hs⟩
 |i::yM,dd,hs,hs',C,off,sub,us,h,hc,hr=>by
  cases dd with
  |p q=>
   cases q with
   |agg xs=>
    simp only[Yy]at h;split at h
    .rename_i x hx;simp only[yn,yz]at h;obtain⟨⟨C1,off1,sub1,hs1⟩,h1,rfl,rfl,rfl,rfl⟩:=h;simp only[yG,aw]at hr;obtain⟨p1,p2,p3,rfl,h2,h3,_,h6,h7⟩:=kL hr hx;obtain⟨q1,q2,q3,rfl,h4,h5,h8⟩:=lQ yM (.p x) _ _ _ _ _ p2 h1 hc (by simpa[yG] using h3);refine⟨p1++q1,q2,q3++p3,by simp,by rw[yl,h2,h4],h5,λnew dd' y' hp hs hn=> ?_⟩;simp only[VS,hx]at hp;split at hp
     .rename_i y hy;cases hp;obtain⟨k1,k2⟩:=h8 new _ y' hy hs hn;have k3:y.size=x.size:=by simpa[Dv.size] using k2
      refine⟨?_,by simp only[Dv.size,Pl.size];exact ZLb hx k3⟩;simp only[yG,aw];rw[nC hx];have e:p1++q1++(y'++(q3++p3))=p1++((q1++(y'++q3))++p3):=by simp
      rw[e];refine Ym h6 ?_;simp only[aq];exact⟨_,_,rfl,by simpa[yG] using k1,h7⟩
     .rename_i y hy hne;cases hp;obtain⟨k1,k2⟩:=h8 new _ y' hne hs hn;have k3:y.size=x.size:=by simpa[Dv.size] using k2
      have hx':(xs.map Dv.p)[i]? =ab (.p x):=by rw[yak,hx];rfl
      refine⟨?_,by
       simp only[Dv.size,Pl.size];rw[Zzi hx' k3,oR,ry,List.map_map];rfl⟩
      simp only[yG];rw[nC hx'];have e:p1++q1++(y'++(q3++p3))=p1++((q1++(y'++q3))++p3):=by simp
      rw[e, <-List.map_take, <-List.map_drop];refine rj (rA h6) ?_;simp only[aI];exact⟨_,_,rfl,k1,rA h7⟩
     .cases hp
    .cases h
   |arr n s xs=>
    simp only[Yy]at h;split at h
    .rename_i y hs1;simp only[yn,yz]at h;obtain⟨⟨C1,off1,sub1,hs1⟩,h1,rfl,rfl,rfl,rfl⟩:=h;obtain⟨hx,hc⟩:=hc;simp only[yG,aw]at hr;obtain⟨hl,zO,hr⟩:=hr;obtain⟨p1,p2,p3,rfl,h2,h3,_,h6,h7⟩:=kL hr hx;obtain⟨q1,q2,q3,rfl,h4,h5,h8⟩:=lQ yM (.p y) _ _ _ _ _ p2 h1 hc (by simpa[yG] using h3);have hi:i < xs.length:=(yo.1 hx).1;refine⟨p1++q1,q2,q3++p3,by simp,by rw[yl,h2,h4,aM (QY zO i),yx,ybc (Nat.le_of_lt hi)],h5,λnew dd' y' hp hs hn=> ?_⟩;simp only[VS]at hp;split at hp
     .rename_i z hz;cases hp;obtain⟨k1,k2⟩:=h8 new _ y' hz hs hn;have k3:z.size=y.size:=by simpa[Dv.size] using k2
      have k4:z.size=s:=by rw[k3];exact zO y (ybv hx)
      refine⟨?_,rfl⟩;simp only[yG,aw];refine⟨by rw[yba];exact hl,vn zO (by rw[DU];exact k4), ?_⟩;rw[nC hx];have e:p1++q1++(y'++(q3++p3))=p1++((q1++(y'++q3))++p3):=by simp
      rw[e];refine Ym h6 ?_;simp only[aq];exact⟨_,_,rfl,(nu z).cW _ _ _ (by simpa[yG] using k1),h7⟩
     .rename_i z hz hne;cases hp;obtain⟨k1,k2⟩:=h8 new _ y' hne hs hn;have k3:z.size=y.size:=by simpa[Dv.size] using k2
      have k4:z.size=s:=by rw[k3];exact zO y (ybv hx)
      have hx':(xs.map Dv.p)[i]? =ab (.p y):=by rw[yak,hx];rfl
      refine⟨?_,rfl⟩;simp only[yG]
      refine⟨by rw[yba,yab];exact hl,vn (λq hq=>by
       obtain⟨q',hq',rfl⟩:=yci.1 hq;exact zO q' hq') k4, ?_⟩
      rw[nC hx'];have e:p1++q1++(y'++(q3++p3))=p1++((q1++(y'++q3))++p3):=by simp
      rw[e, <-List.map_take, <-List.map_drop];refine rj (rA h6) ?_;simp only[aI];exact⟨_,_,rfl,k1,rA h7⟩
     .cases hp
    .cases h
   |_=>simp[Yy]at h
  |agg xs=>
   simp only[Yy]at h;split at h
   .rename_i x hx;simp only[yn,yz]at h;obtain⟨⟨C1,off1,sub1,hs1⟩,h1,rfl,rfl,rfl,rfl⟩:=h;simp only[yG]at hr;obtain⟨p1,p2,p3,rfl,h2,h3,_,h6,h7⟩:=ni hr hx;obtain⟨q1,q2,q3,rfl,h4,h5,h8⟩:=lQ yM x _ _ _ _ _ p2 h1 hc h3;refine⟨p1++q1,q2,q3++p3,by simp,by rw[yl,h2,h4],h5,λnew dd' y' hp hs hn=> ?_⟩;simp only[VS,hx,yn]at hp;obtain⟨y,hy,rfl⟩:=hp;obtain⟨k1,k2⟩:=h8 new _ y' hy hs hn;refine⟨?_,by simp only[Dv.size];exact Zzi hx k2⟩;simp only[yG];rw[nC hx];have e:p1++q1++(y'++(q3++p3))=p1++((q1++(y'++q3))++p3):=by simp
    rw[e];refine rj h6 ?_;simp only[aI];exact⟨_,_,rfl,k1,h7⟩
   .cases h
  |arr n s xs=>
   simp only[Yy]at h;split at h
   .rename_i x hx;simp only[yn,yz]at h;obtain⟨⟨C1,off1,sub1,hs1⟩,h1,rfl,rfl,rfl,rfl⟩:=h;simp only[yG]at hr;obtain⟨hl,zO,hr⟩:=hr;obtain⟨p1,p2,p3,rfl,h2,h3,_,h6,h7⟩:=ni hr hx;obtain⟨q1,q2,q3,rfl,h4,h5,h8⟩:=lQ yM x _ _ _ _ _ p2 h1 hc h3;have hi:i < xs.length:=(yo.1 hx).1;refine⟨p1++q1,q2,q3++p3,by simp,by rw[yl,h2,h4,cQ (λy hy=>zO y (ybn hy)),yx,ybc (Nat.le_of_lt hi)],h5,λnew dd' y' hp hs hn=> ?_⟩;simp only[VS,hx,yn]at hp;obtain⟨y,hy,rfl⟩:=hp;obtain⟨k1,k2⟩:=h8 new _ y' hy hs hn;refine⟨?_,rfl⟩;simp only[yG];refine⟨by rw[yba];exact hl,vn zO (by rw[k2];exact zO x (ybv hx)), ?_⟩;rw[nC hx];have e:p1++q1++(y'++(q3++p3))=p1++((q1++(y'++q3))++p3):=by simp
    rw[e];refine rj h6 ?_;simp only[aI];exact⟨_,_,rfl,k1,h7⟩
   .cases h
  |_=>simp[Yy]at h
section
variable{P:yg}{o:Oper}{a:Act}{σ:Sg}{ts:yL Dv}{hs hs':yL ar}{C:yL Prop}{d:Dv}
theorem vo{σ':Sg}(hr:(execOp a.eval o).run P σ.w=.ok .skip σ'.w)(to:To σ σ')(ok:Ok σ'):XE P o a σ .aA σ'.H:=by
 intro K Q h;unfold Oper.wp;rw[hr];exact h undef σ' rfl to ok WT
theorem ZCk{v:Dv}{u:yh}(hr:yH σ v u):yH σ v.cw u:=by
 unfold Dv.cw;split
 .rename_i x h1;exact DQ h1 hr
 .exact hr
theorem Zzj{yM:yL Nat}{dd v new:Dv}{u:yh}(h:jm yM dd v=ab new)(hr:yH σ v u):yH σ new u:=by
 unfold jm at h;split at h
 .cases h;exact ZCk hr
 .split at h
  .cases h;exact ZCk hr
  .cases h;exact hr
theorem rB{x y z y':yL yh}{cs:Array yh}{n:Nat}(h:cs.toList.take n=x++(y++z))(hl:y'.length=y.length)(hn:n<=cs.size):
 (cs.toList.take x.length++y'++cs.toList.drop (x.length+y'.length)).take n=x++(y'++z)/\(cs.toList.take x.length++y'++cs.toList.drop (x.length+y'.length)).length=cs.size:=by
 have hnl:n=x.length+(y.length+z.length):=by
  have:=congrArg List.length h;simp only[yx,yby,yl]at this;omega
 have e:cs.toList=x++(y++z)++cs.toList.drop n:=by rw[<-h,ybd]
 have e1:cs.toList.take x.length=x:=by rw[e];simp
 have e2:cs.toList.drop (x.length+y'.length)=z++cs.toList.drop n:=by
  have hc:cs.toList=(x++y)++(z++cs.toList.drop n):=by
   have:x++y++(z++cs.toList.drop n)=x++(y++z)++cs.toList.drop n:=by simp
   rw[this];exact e
  have hle:x.length+y'.length=(x++y).length:=by rw[yl,hl]
  rw[hle];have:=congrArg (List.drop (x++y).length) hc;rw[List.drop_left]at this;exact this
 rw[e1,e2];constructor
 .have:x++y'++(z++cs.toList.drop n)=(x++(y'++z))++cs.toList.drop n:=by simp
  rw[this,hnl];have hle:x.length+(y.length+z.length)=(x++(y'++z)).length:=by simp[hl]
  rw[hle];exact List.take_left
 .simp only[yl,ybw,yby];omega
theorem ZPK(ok:Ok σ)(yK:aK σ ts a){t:yc}{x y:ym}{id off:Nat}{yM:yL Nat}{dd sub new dd':Dv}{C1:yL Prop}{off':Nat}(ho:o.op=.store t x y)(hx:ZB P ts 0 x=.am id off yM)
 (hH:σ.H[id]? =ab (.var dd af)) (hg:Yy dd yM hs=ab (C1,off',sub,hs')) (hc:ba C1) (he:off'=off) (hn:jm yM dd (ZB P ts t y)=ab new) (hp:VS new dd yM hs=ab dd')
 (hsol:new.bF=af) (hsz:new.size=sub.size) (ht:P.cellsOf t=new.size) (hi:(P.info? t).isSome=af):XE P o a σ .aA (σ.H.set id (.var dd' af)):=by
 subst he;have hxv:=Zs (P:=P) yK 0 x;have hyv:=Zzj hn (Zs (P:=P) yK t y);rw[hx]at hxv;obtain⟨b,hm,hv,hxv⟩:=lP hxv;obtain⟨b',cs,t',h1,h2,h3,h4⟩:=ok.cY id _ _ hH hm;cases h1;obtain⟨p1,p2,p3,h5,h6,h7,h8⟩:=lQ yM dd hs hs' C1 off' sub _ hg hc h3;have hcells:=nx hsol hyv;obtain⟨h9,h10⟩:=h8 new dd' _ hp hsz hcells;have hl1:(a.eval y).cells.toList.length=new.size:=Vf _ _ hcells;have hl2:p2.length=sub.size:=Vf _ _ h7;have hll:(a.eval y).cells.toList.length=p2.length:=by rw[hl1,hl2,hsz]
 obtain⟨k1,k2⟩:=rB h5 hll h4;rw[h6]at k1 k2
 have hnl:off'+(a.eval y).cells.toList.length<=cs.size:=by
  have:=congrArg List.length h5;simp only[yx,yby,yl]at this;omega
 have hone:∀u,u∈(a.eval y).cells.toList->u.oneCell'=af:=vg new _ hsol hcells;have hst:=run_storeCells_at P b off' t' (a.eval y).cells.toList 0 cs σ.w h2 (by simpa using hnl) hone;simp only[ybu]at hst;let ncs:Array yh:=(cs.toList.take off'++(a.eval y).cells.toList++cs.toList.drop (off'+(a.eval y).cells.toList.length)).toArray;let σ':Sg:={ σ with m:=σ.m.set id (ab b),H:=σ.H.set id (.var dd' af),w:=σ.w.setRow b ncs};have zB:σ'.w.heap[b]? =ab (.cells ncs t' (0,0)):=setRow_heap σ.w b cs _ t' _ h2;have hoth:∀j,b≠j->σ'.w.heap[j]? =σ.w.heap[j]? :=λj hj=>setRow_other σ.w b j _ (Ne.symm hj)
 obtain⟨to,ok'⟩:=Wg (σ':=σ') (mi:=ab b) (mi':=ab b) ok hH hm rfl rfl rfl rfl rfl rfl rfl (by simp[σ'])
  (λj hj hne=>hoth j (λhh=>hne (by rw[hh]))) (λb' o v _ hu _=>by cases hu) (λo _ hu=>by cases hu) (.inl rfl) (λ_=>⟨rfl,dd',af,rfl⟩) (λ⟨d,st,h⟩=>by cases h)
  (λs e xs h=>by cases h) (λleaf=>⟨b,ncs,t',rfl,zB,by rw[h10];show yG σ' dd' (ncs.toList.take dd.size);rw[show ncs.toList.take dd.size=p1++((a.eval y).cells.toList++p3) from k1];exact Yi leaf dd' _ h9,by
    rw[h10];show dd.size<=ncs.size;have:ncs.size=cs.size:=k2;omega⟩)
 refine vo (σ':=σ') ?_ to ok'
 cases hi':P.info? t with
 |none=>simp[hi']at hi
 |some i=>
  have hs:(a.eval y).cells.size=i.size:=by
   rw[<-yby,hl1, <-ht];simp[Program.cellsOf,hi']
  simp only[execOp,ho,hxv,Instr.storeAt,Instr.sureAddr,storeVar,sizeOf,typeInfo,Sem.run_bind,run_program,Result.andThen_ok,hi',Sem.run_pure,hs,ne_eq,not_true,if_false,hst];rfl
theorem ZRz(ok:Ok σ)(yK:aK σ ts a){t e:yc}{x:ym}{lo hi:yO ym}{id off n s:Nat}{yM:yL Nat}{dd:Dv}{st:Bool}{xs:yL Pl}{C1:yL Prop}{off':Nat}{l r:yO Int}
 (ho:o.op=.slice t x lo hi ae) (hu:P.underlying t=ab (.array n e)) (hx:ZB P ts t x=.am id off yM) (hl:fX P ts lo=ab l) (hr:fX P ts hi=ab r)
 (hH:σ.H[id]? =ab (.var dd st)) (hg:Yy dd yM hs=ab (C1,off',.p (.arr n s xs),hs')) (hc:ba C1) (he:off'=off) (hce:P.cellsOf e=s) (hi':(P.info? e).isSome=af) (hm':n<=maxLen)
 (hcut:ba (XD n l r)):XE P o a σ (.p (.sl (ab af) s (QX xs l r))) (σ.H.set id (.var dd ag)):=by
 have hxv:=Zs (P:=P) yK t x;rw[hx]at hxv;obtain⟨b,hm,hv,hxv⟩:=lP hxv;obtain⟨cs,t',p1,p2,p3,h2,h4,h5,h6,h7,h3,h8⟩:=vm ok hm hH hg hc he;simp only[yG,aw]at h7;obtain⟨h9,h10,h11⟩:=h7;subst h9;let σ':Sg:={ σ with m:=σ.m.set id (ab b),H:=σ.H.set id (.var dd ag)};have hmset:σ'.m[id]? =ab (ab b):=an hm;have hHset:σ'.H[id]? =ab (.var dd ag):=an hH
 obtain⟨to,ok'⟩:=Wg (σ':=σ') (mi:=ab b) (mi':=ab b) ok hH hm rfl rfl rfl rfl rfl rfl rfl (yj _)
  (λ_ _ _=>rfl) (λ_ _ _ _ _ h=>h) (λo _ hu=>rfl) (.inl rfl) (λ_=>⟨rfl,dd,ag,rfl⟩) (λ⟨d,st,h⟩=>by cases h)
  (λs e xs h=>by cases h) (λleaf=>⟨b,cs,t',rfl,h2,Yi leaf dd _ h3,h4⟩)
 have hcells:VJ σ'.w σ'.aU b off p2:=λj u hu=>by
  refine⟨h8 j u hu,.inr (ok.own id b hm),λj' e' g1 g2=> ?_⟩;have:j'=id:=ok'.inj j' id _ g1 hmset;subst this;rw[hHset]at g2;cases g2;rfl
 obtain⟨p,q,hb,k1,k2,rfl,rfl⟩:=nv (P:=P) (w:=σ.w) ag xs.length xs.length _ _ _ _ (YR yK hl) (YR yK hr) hcut (yj _);obtain⟨j1,j2,j3,j4,j5,j6,j7⟩:=vc (A:=ab ⟨b,off,ae⟩) (w:=σ'.w) (S:=σ'.aU) h10 (yj _) hm' (λhA=>by cases hA) (λ_=>⟨b,off,p2,rfl,aD to.leaf.cells _ _ h11,hcells⟩) k1 k2
 have zU:(Instr.sliceAt t (a.eval x) (lo.map a.eval) (hi.map a.eval) ae).run P σ.w=.ok (.slice (ab (if xs.length=(l.getD 0).toNat then(⟨b,off,ae⟩:Addr) else(⟨b,off,ae⟩:Addr).add ((l.getD 0).toNat*s))) ((r.getD (xs.length:Int)).toNat - (l.getD 0).toNat) (xs.length - (l.getD 0).toNat)) σ.w:=by
  rw[hxv];simp[Instr.sliceAt,Instr.sureAddr,run_underlying hu,hb,Z6 hi',hce]
 have hrun2:(execOp a.eval o).run P σ.w=.ok (.value (.slice (ab (if xs.length=(l.getD 0).toNat then(⟨b,off,ae⟩:Addr) else(⟨b,off,ae⟩:Addr).add ((l.getD 0).toNat*s))) ((r.getD (xs.length:Int)).toNat - (l.getD 0).toNat) (xs.length - (l.getD 0).toNat))) σ'.w:=by
  show _=Result.ok _ σ.w;simp only[execOp,ho,Option.map_none,Sem.run_bind,zU,Result.andThen_ok,Sem.run_pure]
 refine ZP hrun2 to ok' ?_;rw[ve xs l r hcut];have:=YM (σ:=σ') j1 (by rw[j2];exact j3) j4 (lK j5) j6 j7;rw[j2]at this;simpa[apply_ite] using this
end
theorem vp:∀{ids:yL Nat},once ids=af->∀(i j id:Nat),ids[i]? =ab id->ids[j]? =ab id->i=j
 |[],_,i,j,id,h,_=>by simp at h
 |x::r,ho,i,j,id,hi,hj=>by
  simp only[once,yi,Bool.not_eq_true']at ho;have hx:x ∉ r:=by simpa using ho.1
  cases i with
  |zero=>
   cases j with
   |zero=>rfl
   |succ j=>
    simp only[ybm,yp]at hi;simp only[yay]at hj;subst hi
    exact absurd (ybv hj) hx
  |succ i=>
   cases j with
   |zero=>
    simp only[ybm,yp]at hj;simp only[yay]at hi;subst hj
    exact absurd (ybv hi) hx
   |succ j=>
    simp only[yay]at hi hj;rw[vp ho.2 i j id hi hj]
theorem bQ{ids:yL Nat}{id j:Nat}(h:ids.idxOf? id=ab j):ids[j]? =ab id:=by
 induction ids generalizing j with
 |nil=>simp at h
 |cons x r ih=>
  rw[List.idxOf?_cons]at h;split at h
  .rename_i hx;cases h;have:x=id:=by simpa using hx
   simp[this]
  .simp only[yn]at h;obtain⟨k,hk,rfl⟩:=h;simpa using ih hk
theorem cy{ids:yL Nat}(ho:once ids=af){id j:Nat}(h:ids[j]? =ab id):ids.idxOf? id=ab j:=by
 cases hi:ids.idxOf? id with
 |none=>
  rw[List.idxOf?_eq_none_iff]at hi
  exact absurd (ybv h) hi
 |some k=>rw[vp ho k j id (bQ hi) h]
theorem vq{α:Type}:∀(H:yL α)(ids:yL Nat)(Hb:yL α),ids.length<=Hb.length->(au H ids Hb).length=H.length+(Hb.length - ids.length)
 |H,[],Hb,_=>by simp[au]
 |H,id::r,[],h=>by simp at h
 |H,id::r,e::Hb,h=>by
  simp only[yam]at h;rw[au,vq _ r Hb (by omega),yba];simp
theorem oV{α:Type}:∀(H:yL α)(ids:yL Nat)(Hb:yL α)(i:Nat),ids.length<=Hb.length->i < H.length->i ∉ ids->(au H ids Hb)[i]? =H[i]?
 |H,[],Hb,i,_,hi,_=>by simp only[au];rw[ybe hi]
 |H,id::r,[],i,h,_,_=>by simp at h
 |H,id::r,e::Hb,i,h,hi,hn=>by
  simp only[yam]at h;simp only[ybo,not_or]at hn;rw[au,oV _ r Hb i (by omega) (by simpa using hi) hn.2,yca,yX (Ne.symm hn.1)]
theorem rC{α:Type}:∀(H:yL α)(ids:yL Nat)(Hb:yL α)(j id:Nat),once ids=af->ids.length<=Hb.length->(∀i,i∈ids->i < H.length)->ids[j]? =ab id->(au H ids Hb)[id]? =Hb[j]?
 |H,[],Hb,j,id,_,_,_,h=>by simp at h
 |H,x::r,[],j,id,_,h,_,_=>by simp at h
 |H,x::r,e::Hb,j,id,ho,hl,hlt,h=>by
  simp only[once,yi,Bool.not_eq_true']at ho;have hx:x ∉ r:=by simpa using ho.1
  simp only[yam]at hl;rw[au]
  cases j with
  |zero=>
   simp only[ybm,yp]at h;subst h;have hxl:x < H.length:=hlt x (yax ..);rw[oV _ r Hb x (by omega) (by simpa using hxl) hx]
   simp[hxl]
  |succ j=>
   simp only[yay]at h ⊢;exact rC _ r Hb j id ho.2 (by omega) (λi hi=>by rw[yba];exact hlt i (yaz _ hi)) h
theorem vr{α:Type}:∀(H:yL α)(ids:yL Nat)(Hb:yL α)(j:Nat),ids.length<=Hb.length->ids.length<=j->(au H ids Hb)[H.length+(j - ids.length)]? =Hb[j]?
 |H,[],Hb,j,_,_=>by
  simp only[au,List.length_nil,Nat.sub_zero];rw[yaq (by omega)]
  simp
 |H,id::r,[],j,h,_=>by simp at h
 |H,id::r,e::Hb,j,h,hj=>by
  simp only[yam]at h hj
  cases j with
  |zero=>omega
  |succ j=>
   rw[au];have:=vr (H.set id e) r Hb j (by omega) (by omega);rw[yba]at this;simp only[yam,yay];rw[<-this];congr 1;omega
theorem rD{H:yL ay}{all:yL Nat}:∀{ids:yL Nat}{Hin:yL ay},aJ H all ids=ab Hin->Hin.length=ids.length
 |[],Hin,h=>by simp only[aJ,yp]at h;subst h;rfl
 |id::r,Hin,h=>by
  simp only[aJ]at h;split at h
  .rename_i e es _ h2;cases h;simp[rD h2]
  .cases h
theorem lR{H:yL ay}{all:yL Nat}:∀{ids:yL Nat}{Hin:yL ay}{j id:Nat},aJ H all ids=ab Hin->ids[j]? =ab id->
 ∃e e',H[id]? =ab e/\Hin[j]? =ab e'/\e.rn (aV all)=ab e'
 |[],Hin,j,id,_,hj=>by simp at hj
 |x::r,Hin,j,id,h,hj=>by
  simp only[aJ]at h;split at h
  .rename_i e es h1 h2;cases h
   cases j with
   |zero=>
    simp only[ybm,yp]at hj;subst hj;simp only[Option.bind_eq_some_iff]at h1;obtain⟨e0,h3,h4⟩:=h1
    exact⟨e0,e,h3,rfl,h4⟩
   |succ j=>
    simp only[yay]at hj ⊢;exact lR h2 hj
  .cases h
theorem Zom{f:Nat->yO Nat}:∀{H Hb:yL ay},ay.bt f H=ab Hb->Hb.length=H.length
 |[],Hb,h=>by simp only[ay.bt,yp]at h;subst h;rfl
 |e::H,Hb,h=>by
  simp only[ay.bt]at h;split at h
  .rename_i y ys _ h2;cases h;simp[Zom h2]
  .cases h
theorem vt{f:Nat->yO Nat}:∀{H Hb:yL ay}{j:Nat}{e:ay},ay.bt f H=ab Hb->H[j]? =ab e->∃e',Hb[j]? =ab e'/\e.rn f=ab e'
 |[],Hb,j,e,_,he=>by simp at he
 |x::H,Hb,j,e,h,he=>by
  simp only[ay.bt]at h;split at h
  .rename_i y ys h1 h2;cases h
   cases j with
   |zero=>
    simp only[ybm,yp]at he;subst he
    exact⟨y,rfl,h1⟩
   |succ j=>
    simp only[yay]at he ⊢;exact vt h2 he
  .cases h
theorem ZJD{f:Nat->yO Nat}{d d':Dv}{s:Nat}(h:d.rn f=ab d'):aY d' s=aY d s:=by
 cases d with
 |p x=>simp only[Dv.rn,yp]at h;subst h;rfl
 |arr n t xs=>simp only[Dv.rn,yn]at h;obtain⟨ys,_,rfl⟩:=h;rfl
 |elem x=>simp only[Dv.rn,yp]at h;subst h;rfl
 |aA=>simp only[Dv.rn,yp]at h;subst h;rfl
 |_=>simp only[Dv.rn,yn]at h;obtain⟨ys,_,rfl⟩:=h;rfl
theorem EG{f:Nat->yO Nat}{e e':ay}{o:Nat}(h:e.rn f=ab e'):e'.bp o↔e.bp o:=by
 cases e with
 |var d st=>
  simp only[ay.rn,yn]at h;obtain⟨d',_,rfl⟩:=h
  exact Iff.rfl
 |log s t xs=>simp only[ay.rn,yp]at h;subst h;exact Iff.rfl
 |map t bu=>simp only[ay.rn,yp]at h;subst h;exact Iff.rfl
 |row v s st e d=>
  simp only[ay.rn,yn]at h;obtain⟨d',h,rfl⟩:=h
  simp only[ay.bp,ZJD h]
 |gone=>simp only[ay.rn,yp]at h;subst h;exact Iff.rfl
theorem EH{f:Nat->yO Nat}{σ σ':Sg}(h:Rn f σ σ'){a:yO Nat}{e e':ay}(he:e.rn f=ab e')(hok:dc σ a e):dc σ' a e':=by
 cases e with
 |var d st=>
  simp only[ay.rn,yn]at he;obtain⟨d',hd,rfl⟩:=he;obtain⟨b,cs,t,rfl,h1,h2,h3⟩:=hok;have hs:=(kN d d' hd).1
  exact⟨b,cs,t,rfl,by rw[h.w];exact h1,by rw[hs];exact kO h d d' _ hd h2,by rw[hs];exact h3⟩
 |log s t xs=>
  simp only[ay.rn,yp]at he;subst he;rcases hok with⟨rfl,h1⟩|⟨b,cur,cap,rfl,h1,h2,h3,h4,h5,h6⟩
  .exact .inl ⟨rfl,h1⟩
  .exact .inr ⟨b,cur,cap,rfl,by rw[h.w];exact h1,h2,h3,h4,h5,aD h.cells xs _ h6⟩
 |map t bu=>
  simp only[ay.rn,yp]at he;subst he;obtain⟨b,es,clock,rfl,h1,h2,h3⟩:=hok;refine⟨b,es,clock,rfl,by rw[h.w];exact h1, ?_,h3⟩
  have key:∀(l:yL (Pl×Pl))(es:yL MapEntry),gr σ l es->gr σ' l es:=by
   intro l
   induction l with
   |nil=>intro es k;cases es <;> exact k
   |cons q r ih=>
    intro es k
    cases es with
    |nil=>exact k
    |cons e es=>exact⟨nk h rfl k.1,nk h rfl k.2.1,ih es k.2.2⟩
  obtain⟨l',p,nd,h2⟩:=h2
  exact⟨l',p,nd,key _ _ h2⟩
 |row v s st e d=>
  simp only[ay.rn,yn]at he;obtain⟨d',hd,rfl⟩:=he;obtain⟨N,h0,h1⟩:=hok;refine⟨N,by rw[ZJD hd];exact h0, ?_⟩;rcases h1 with h1|⟨b,cur,cap,rfl,h1,h2,h3,h4,h5⟩
  .exact .inl h1
  .exact .inr ⟨b,cur,cap,rfl,by rw[h.w];exact h1,h2,h3,h4,kO h d d' _ hd h5⟩
 |gone=>simp only[ay.rn,yp]at he;subst he;trivial
section
variable{P:yg}{o:Oper}{a:Act}{σ:Sg}{ts:yL Dv}
def callee(σ:Sg)(ids:yL Nat)(Hin:yL ay):Sg:=
 { F:=σ.aU,B:=λb=>σ.w.heap.size<=b\/∃j:Nat,(ids.map λid=>(σ.m[id]?).getD ae)[j]? =ab (ab b),m:=ids.map λid=>(σ.m[id]?).getD ae,H:=Hin,w:=σ.w}
theorem ZFD{ids:yL Nat}{Hin:yL ay}{j id:Nat}{x:yO Nat}(h:ids[j]? =ab id)(hm:σ.m[id]? =ab x):(callee σ ids Hin).m[j]? =ab x:=by
 show(ids.map λid=>(σ.m[id]?).getD ae)[j]? =ab x;rw[yak,h];simp[hm]
theorem W8{ids:yL Nat}{Hin:yL ay}{j b:Nat}(h:(callee σ ids Hin).m[j]? =ab (ab b)):∃id,ids[j]? =ab id/\σ.m[id]? =ab (ab b):=by
 have h':(ids.map λid=>(σ.m[id]?).getD ae)[j]? =ab (ab b):=h;rw[yak]at h';obtain⟨id,h1,h2⟩:=yn.1 h';refine⟨id,h1, ?_⟩
 cases hm:σ.m[id]? with
 |none=>rw[hm]at h2;cases h2
 |some x=>rw[hm]at h2;simp at h2;rw[h2]
theorem EI(ok:Ok σ){ids:yL Nat}{Hin:yL ay}(ho:once ids=af)(hin:aJ σ.H ids ids=ab Hin):Rn (aV ids) σ (callee σ ids Hin) where
 w:=rfl
 aU b o v _ h:=by
  refine⟨.inl h,λj e hj he=> ?_⟩;obtain⟨id,h1,h2⟩:=W8 hj;obtain⟨e0,e',h3,h4,h5⟩:=lR hin h1;have he':Hin[j]? =ab e:=he;rw[h4]at he';cases he';exact(EG h5).2 (h.2 id e0 h2 h3)
 m id j hj x hx:=ZFD (bQ hj) hx
 H id j hj e he:=by
   obtain⟨e0,e',h3,h4,h5⟩:=lR hin (bQ hj);rw[he]at h3;cases h3;exact⟨e',h4,h5⟩
theorem ZLc(ok:Ok σ){ids:yL Nat}{Hin:yL ay}(ho:once ids=af)(hin:aJ σ.H ids ids=ab Hin):Ok (callee σ ids Hin) where
 len:=by
  show(ids.map _).length=Hin.length;rw[yab,rD hin]
 inj i j b hi hj:=by
  obtain⟨x,h1,h2⟩:=W8 hi;obtain⟨y,h3,h4⟩:=W8 hj;have:=ok.inj x y b h2 h4;subst this;exact vp ho i j x h1 h3
 lt i b hi:=by
  obtain⟨x,h1,h2⟩:=W8 hi;exact ok.lt x b h2
 cY i e x he hx:=by
  have he':Hin[i]? =ab e:=he;have hi:i < ids.length:=by rw[<-rD hin];exact(yo.1 he').1
  obtain⟨e0,e',h3,h4,h5⟩:=lR hin (yac hi);rw[he']at h4;cases h4
  have hm:∃y,σ.m[ids[i]]? =ab y:=by
   have:ids[i] < σ.m.length:=by rw[ok.len];exact(yo.1 h3).1
   exact⟨_,yac this⟩
  obtain⟨y,hy⟩:=hm;have:=ZFD (Hin:=Hin) (yac hi) hy;rw[hx]at this;cases this;exact EH (EI ok ho hin) h5 (ok.cY _ _ _ h3 hy)
 new b hb:=.inl hb
 own i b hi:=.inr ⟨i,hi⟩
end
end Go.Ev
end
section
namespace Go.Ev
section
variable{P:yg}{o:Oper}{a:Act}{σ:Sg}{ts:yL Dv}
def kb(σ:Sg)(ids:yL Nat)(Hb:yL ay)(τ:Sg):Sg:=
 { F:=σ.F,B:=σ.B,m:=au σ.m ids τ.m,H:=au σ.H ids Hb,w:=τ.w}
theorem ZCl(ok:Ok σ){ids:yL Nat}{Hin Hb:yL ay}{τ:Sg}(ho:once ids=af)(hin:aJ σ.H ids ids=ab Hin)(to:To (callee σ ids Hin) τ)(okτ:Ok τ)(hle:ids.length<=τ.H.length)
 (hb:ay.bt (aO ids σ.H.length) τ.H=ab Hb):
 To σ (kb σ ids Hb τ)/\Ok (kb σ ids Hb τ)/\Rn (aO ids σ.H.length) τ (kb σ ids Hb τ):=by
 have hbl:Hb.length=τ.H.length:=Zom hb;have hml:τ.m.length=τ.H.length:=okτ.len
 have hidl:∀i,i∈ids->i < σ.H.length:=by
  intro i hi;obtain⟨j,hj,rfl⟩:=ybg hi;obtain⟨e0,_,h3,_⟩:=lR hin (yac hj);exact(yo.1 h3).1
 have hidm:∀i,i∈ids->i < σ.m.length:=λi hi=>by rw[ok.len];exact hidl i hi
 have mo:∀id,id < σ.H.length->id ∉ ids->(au σ.m ids τ.m)[id]? =σ.m[id]? :=λid h1 h2=>oV _ _ _ _ (by omega) (by rw[ok.len];exact h1) h2;have Ho:∀id,id < σ.H.length->id ∉ ids->(au σ.H ids Hb)[id]? =σ.H[id]? :=λid h1 h2=>oV _ _ _ _ (by omega) h1 h2;have ma:∀(j id:Nat),ids[j]? =ab id->(au σ.m ids τ.m)[id]? =τ.m[j]? :=λj id h=>rC _ _ _ _ _ ho (by omega) hidm h;have Ha:∀(j id:Nat),ids[j]? =ab id->(au σ.H ids Hb)[id]? =Hb[j]? :=λj id h=>rC _ _ _ _ _ ho (by omega) hidl h;have mn:∀j,ids.length<=j->(au σ.m ids τ.m)[σ.H.length+(j - ids.length)]? =τ.m[j]? :=λj h=>by rw[<-ok.len];exact vr _ _ _ _ (by omega) h
 have Hn:∀j,ids.length<=j->(au σ.H ids Hb)[σ.H.length+(j - ids.length)]? =Hb[j]? :=λj h=>vr _ _ _ _ (by omega) h
 have three:∀id,id < σ.H.length+(τ.H.length - ids.length)->(id < σ.H.length/\id ∉ ids)\/(∃j:Nat,ids[j]? =ab id)\/(∃j:Nat,ids.length<=j/\id=σ.H.length+(j - ids.length)):=by
  intro id h;by_cases h1:id < σ.H.length
  .by_cases h2:id∈ids
   .obtain⟨j,hj,rfl⟩:=ybg h2;exact .inr (.inl ⟨j,yac hj⟩)
   .exact .inl ⟨h1,h2⟩
  .exact .inr (.inr ⟨ids.length+(id - σ.H.length),by omega,by omega⟩)
 have mlen:(au σ.m ids τ.m).length=σ.H.length+(τ.H.length - ids.length):=by rw[vq _ _ _ (by omega),ok.len,hml]
 have fromAt:∀(j id:Nat),ids[j]? =ab id->aO ids σ.H.length j=ab id:=λj id h=>by
  have hj:j < ids.length:=(yo.1 h).1;unfold aO;rw[yW hj,h]
 have fromNew:∀j,ids.length<=j->aO ids σ.H.length j=ab (σ.H.length+(j - ids.length)):=λj h=>by
  unfold aO;rw[yX (by omega)]
 have back:∀(id b:Nat),(au σ.m ids τ.m)[id]? =ab (ab b)->(id < σ.H.length/\id ∉ ids/\σ.m[id]? =ab (ab b))\/(∃j:Nat,aO ids σ.H.length j=ab id/\τ.m[j]? =ab (ab b)/\(au σ.H ids Hb)[id]? =Hb[j]?):=by
  intro id b h;have hlt:id < σ.H.length+(τ.H.length - ids.length):=by rw[<-mlen];exact(yo.1 h).1
  rcases three id hlt with⟨h1,h2⟩|⟨j,h1⟩|⟨j,h1,rfl⟩
  .exact .inl ⟨h1,h2,by rw[<-mo id h1 h2];exact h⟩
  .exact .inr ⟨j,fromAt j id h1,by rw[<-ma j id h1];exact h,Ha j id h1⟩
  .exact .inr ⟨j,fromNew j h1,by rw[<-mn j h1];exact h,Hn j h1⟩
 have keep:∀(id b:Nat),id ∉ ids->σ.m[id]? =ab (ab b)->τ.w.heap[b]? =σ.w.heap[b]? :=λid b h1 h2=>
  to.block b (ok.lt id b h2) (λj hj=>by
    obtain⟨id',h3,h4⟩:=W8 hj;have:=ok.inj id id' b h2 h4;subst this;exact h1 (ybv h3))
 have mapped:∀(j b:Nat),τ.m[j]? =ab (ab b)->(∃id,ids[j]? =ab id/\σ.m[id]? =ab (ab b))\/σ.w.heap.size<=b:=by
  intro j b h;rcases to.same j b h with h1|h1
  .exact .inl (W8 h1)
  .exact .inr h1
 have stabτ:∀b o v,τ.w.cell? ⟨b,o,ae⟩=ab v->τ.aU b o->(kb σ ids Hb τ).aU b o:=by
  intro b o v hcell h;have hB:τ.B=(callee σ ids Hin).B:=to.B;have hF:τ.F=(callee σ ids Hin).F:=to.F
  have hfirst:σ.aU b o\/σ.B b:=by
   rcases h.1 with h1|h1
   .rw[hF]at h1;exact .inl h1
   .rw[hB]at h1;rcases h1 with h1|⟨j,hj⟩
    .exact .inr (ok.new b h1)
    .obtain⟨id,_,h3⟩:=W8 (σ:=σ) (Hin:=Hin) hj;exact .inr (ok.own id b h3)
  refine⟨?_,λid e hid he=> ?_⟩
  .rcases hfirst with h1|h1
   .exact h1.1
   .exact .inr h1
  .have hid':(au σ.m ids τ.m)[id]? =ab (ab b):=hid;have he':(au σ.H ids Hb)[id]? =ab e:=he;rcases back id b hid' with⟨h1,h2,h3⟩|⟨j,h1,h2,h3⟩
   .rw[Ho id h1 h2]at he';have hbs:=ok.lt id b h3;rcases h.1 with h4|h4
    .rw[hF]at h4;exact h4.2 id e h3 he'
    .rw[hB]at h4;rcases h4 with h4|⟨j,hj⟩
     .omega
     .obtain⟨id',h5,h6⟩:=W8 (σ:=σ) (Hin:=Hin) hj;have:=ok.inj id id' b h3 h6;subst this;exact absurd (ybv h5) h2
   .rw[h3]at he';have hj:j < τ.H.length:=by rw[<-hbl];exact(yo.1 he').1
    obtain⟨e',h4,h5⟩:=vt hb (yac hj);rw[he']at h4;cases h4;exact(EG h5).2 (h.2 j _ h2 (yac hj))
 have rn:Rn (aO ids σ.H.length) τ (kb σ ids Hb τ):=by
  refine⟨rfl,λb o v h1 h2=>stabτ b o v h1 h2,λj id hj x hx=> ?_,λj id hj e he=> ?_⟩
  .show(au σ.m ids τ.m)[id]? =ab x;unfold aO at hj;split at hj
   .rw[ma j id hj];exact hx
   .cases hj;rw[mn j (by omega)];exact hx
  .obtain⟨e',h4,h5⟩:=vt hb he;refine⟨e', ?_,h5⟩;show(au σ.H ids Hb)[id]? =ab e';unfold aO at hj;split at hj
   .rw[Ha j id hj];exact h4
   .cases hj;rw[Hn j (by omega)];exact h4
 have crn:=EI ok ho hin
 have leaf:cu σ (kb σ ids Hb τ):=by
  refine⟨λb o v h1 h2=> ?_,λid b h1 h2=> ?_,λid s len A c h1=> ?_,λid b h1 h2=> ?_,λid v s st e d h1=> ?_⟩
  .obtain⟨h3,h4⟩:=to.leaf.cells b o v h1 (crn.aU b o v h1 h2);exact⟨h3,stabτ b o v h3 h4⟩
  .have hlt:id < σ.H.length:=by rw[<-ok.len];exact(yo.1 h1).1
   by_cases hi:id∈ids
   .obtain⟨j,hj,rfl⟩:=ybg hi;have hj':=yac hj;have h3:aV ids ids[j]=ab j:=cy ho hj';obtain⟨h4,h5⟩:=to.leaf.var j b (crn.m _ _ h3 _ h1) (crn.var h3 h2);exact⟨rn.m _ _ (fromAt j _ hj') _ h4,rn.var (fromAt j _ hj') h5⟩
   .exact⟨(mo id hlt hi).trans h1,by
     obtain⟨d,st,h2⟩:=h2;exact⟨d,st,(Ho id hlt hi).trans h2⟩⟩
  .have h1':=h1;obtain⟨e,ys,h2,h3,h4⟩:=h1;have hlt:id < σ.H.length:=(yo.1 h2).1;by_cases hi:id∈ids
   .obtain⟨j,hj,rfl⟩:=ybg hi;have hj':=yac hj;have h5:aV ids ids[j]=ab j:=cy ho hj';exact rn.front (fromAt j _ hj') (to.leaf.front _ _ _ _ _ (crn.front h5 h1'))
   .refine⟨e,ys,(Ho id hlt hi).trans h2,h3,λhl=> ?_⟩;rcases h4 hl with⟨h5,h6⟩|⟨b,cur,h5,h6,h7,h8⟩
    .exact .inl ⟨(mo id hlt hi).trans h5,h6⟩
    .exact .inr ⟨b,cur,(mo id hlt hi).trans h5,h6,(keep id b hi h5).trans h7,h8⟩
  .have hlt:id < σ.H.length:=by rw[<-ok.len];exact(yo.1 h1).1
   by_cases hi:id∈ids
   .obtain⟨j,hj,rfl⟩:=ybg hi;have hj':=yac hj;have h3:aV ids ids[j]=ab j:=cy ho hj';obtain⟨h4,h5⟩:=to.leaf.map j b (crn.m _ _ h3 _ h1) (crn.map h3 h2);exact⟨rn.m _ _ (fromAt j _ hj') _ h4,rn.map (fromAt j _ hj') h5⟩
   .exact⟨(mo id hlt hi).trans h1,by
     obtain⟨d,st,h2⟩:=h2;exact⟨d,st,(Ho id hlt hi).trans h2⟩⟩
  .have hlt:id < σ.H.length:=(yo.1 h1).1;by_cases hi:id∈ids
   .obtain⟨j,hj,rfl⟩:=ybg hi;have hj':=yac hj;have h3:aV ids ids[j]=ab j:=cy ho hj';obtain⟨d1,h4⟩:=crn.row h3 h1;obtain⟨v',st',d',h5,h6,h7⟩:=to.leaf.row _ _ _ _ _ _ h4;obtain⟨d2,h8⟩:=rn.row (fromAt j _ hj') h5;refine⟨v',st',d2,h8,h6,λhv=> ?_⟩;obtain⟨h9,h10⟩:=h7 hv;have hmm:∃x,σ.m[ids[j]]? =ab x:=⟨_,yac (by rw[ok.len];exact hlt)⟩;obtain⟨x,hx⟩:=hmm;have hcx:=crn.m _ _ h3 _ hx;refine⟨by rw[hx];exact rn.m _ _ (fromAt j _ hj') _ (by rw[h9];exact hcx),λb cur hb hc=> ?_⟩;rw[hx]at hb;cases hb;exact h10 b cur hcx hc
   .exact⟨v,st,d,(Ho id hlt hi).trans h1,yj _,λ_=>⟨mo id hlt hi,λb cur hb hc=>⟨cur,(keep id b hi hb).trans hc,rfl⟩⟩⟩
 refine⟨⟨leaf,rfl,rfl,to.os,to.tape,to.output,to.size,λb hb hn=>to.block b hb (λj hj=> ?_),λid b h=> ?_, ?_⟩,⟨?_, ?_, ?_, ?_,λb h=>ok.new b (ybk to.size h), ?_⟩,rn⟩
 .obtain⟨id,_,h3⟩:=W8 (σ:=σ) (Hin:=Hin) hj;exact hn id h3
 .rcases back id b h with⟨_,_,h3⟩|⟨j,h1,h2,_⟩
  .exact .inl h3
  .rcases mapped j b h2 with⟨id',h3,h4⟩|h3
   .have:=fromAt j id' h3;rw[h1]at this;cases this;exact .inl h4
   .exact .inr h3
 .show σ.m.length<=(au σ.m ids τ.m).length;rw[mlen,ok.len];omega
 .show(au σ.m ids τ.m).length=(au σ.H ids Hb).length;rw[mlen,vq _ _ _ (by omega),hbl]
 .intro i j b hi hj;rcases back i b hi with⟨h1,h2,h3⟩|⟨k,h1,h2,_⟩ <;> rcases back j b hj with⟨h4,h5,h6⟩|⟨l,h4,h5,_⟩
  .exact ok.inj i j b h3 h6
  .have hbs:=ok.lt i b h3;rcases mapped l b h5 with⟨id',h7,h8⟩|h7
   .have:=ok.inj i id' b h3 h8;subst this;exact absurd (ybv h7) h2
   .omega
  .have hbs:=ok.lt j b h6;rcases mapped k b h2 with⟨id',h7,h8⟩|h7
   .have:=ok.inj j id' b h6 h8;subst this;exact absurd (ybv h7) h5
   .omega
  .have:=okτ.inj k l b h2 h5;subst this;rw[h1]at h4;exact yaw h4
 .intro i b hi;rcases back i b hi with⟨_,_,h3⟩|⟨k,_,h2,_⟩
  .exact Nat.lt_of_lt_of_le (ok.lt i b h3) to.size
  .exact okτ.lt k b h2
 .intro i e x he hx;have he':(au σ.H ids Hb)[i]? =ab e:=he;have hx':(au σ.m ids τ.m)[i]? =ab x:=hx;have hlt:i < σ.H.length+(τ.H.length - ids.length):=by rw[<-mlen];exact(yo.1 hx').1
  have viaτ:∀j,aO ids σ.H.length j=ab i->τ.m[j]? =ab x->Hb[j]? =ab e->dc (kb σ ids Hb τ) x e:=by
   intro j _ h2 h3;have hj:j < τ.H.length:=by rw[<-hbl];exact(yo.1 h3).1
   obtain⟨e',h4,h5⟩:=vt hb (yac hj);rw[h3]at h4;cases h4;exact EH rn h5 (okτ.cY j _ x (yac hj) h2)
  rcases three i hlt with⟨h1,h2⟩|⟨j,h1⟩|⟨j,h1,rfl⟩
  .rw[Ho i h1 h2]at he';rw[mo i h1 h2]at hx';exact oQ leaf (λb hb'=>keep i b h2 (by rw[hx',hb'])) (ok.cY i e x he' hx')
  .exact viaτ j (fromAt j i h1) (by rw[<-ma j i h1];exact hx') (by rw[<-Ha j i h1];exact he')
  .exact viaτ j (fromNew j h1) (by rw[<-mn j h1];exact hx') (by rw[<-Hn j h1];exact he')
 .intro i b hi;rcases back i b hi with⟨_,_,h3⟩|⟨k,_,h2,_⟩
  .exact ok.own i b h3
  .rcases mapped k b h2 with⟨id',_,h8⟩|h7
   .exact ok.own id' b h8
   .exact ok.new b h7
theorem lS{args:yL ym}{tys:yL yc}(yK:aK σ ts a)(ids:yL Nat)(hl:args.length=tys.length):aC σ ((args.zip tys).map λq=>(ZB P ts q.2 q.1).bL ids) (args.map a.eval):=by
 induction args generalizing tys with
 |nil=>simp[aC]
 |cons x args ih=>
  cases tys with
  |nil=>simp at hl
  |cons t tys=>
   simp only[List.zip_cons_cons,yag,aC];exact⟨_,_,rfl,DR ids (Zs yK t x),ih (by simpa using hl)⟩
theorem ZMH{cap:yL Dv}{cs:yL yh}(h:aC σ cap cs):aC σ (cap.map Dv.arg) cs:=by
 induction cap generalizing cs with
 |nil=>simpa using h
 |cons d cap ih=>
  simp only[aC]at h;obtain⟨v,vs',rfl,h1,h2⟩:=h;simp only[yag,aC];exact⟨v,vs',rfl,ZPF h1,ih h2⟩
theorem nD{cap:yL Dv}{cs:yL yh}(ids:yL Nat)(h:aC σ cap cs):aC σ (cap.map (Dv.bL ids)) cs:=by
 induction cap generalizing cs with
 |nil=>simpa using h
 |cons d cap ih=>
  simp only[aC]at h;obtain⟨v,vs',rfl,h1,h2⟩:=h;simp only[yag,aC];exact⟨v,vs',rfl,DR ids h1,ih h2⟩
theorem EJ{c:Call}{f:ym}{g:yq}{fs cs:Array yh}(w:World)(ho:o.op=.call c)(hc:c.callee=.value f)(hf:a.eval f=.func (.func g) fs cs)(hb:gv P g=af):
 (execOp a.eval o).run P w=.ok (.enter g (fs++c.args.map a.eval++cs)) w:=by
 unfold gv at hb;split at hb
 .rename_i fn hfn;simp only[yi,Bool.not_eq_true']at hb;have h1:¬fn.name= "runtime.NumGoroutine" :=by simpa using hb.2
  have h2:fn.body.isNone=ag:=by cases hh:fn.body <;> simp[hh]at hb ⊢
  simp only[execOp,ho,resolve,hc,hf,Deferred.ofValue,Sem.run_bind,Sem.run_pure,Result.andThen_ok,invoke,callFunc,run_program,hfn];simp[h1,h2]
 .cases hb
theorem ZMI{fn:Func}(h:fn.name= "internal/bytealg.Compare"):Extern.find fn=ab Extern.BytealgCompare.compare:=by
 have e1:Extern.allGenericRows.lookup "internal/bytealg.Compare" =ae:=by kernel_rfl
 have e2:Extern.allTypedRows.lookup "internal/bytealg.Compare" =ae:=by kernel_rfl
 have e3:Extern.allRows.lookup "internal/bytealg.Compare" =ab Extern.BytealgCompare.compare:=by kernel_rfl
 unfold Extern.find;dsimp only;rw[h,e1,e2,e3];rfl
theorem ZMJ{c:Call}{f:ym}{g:yq}{cs:Array yh}{v:yh}(w:World)(ho:o.op=.call c)(hc:c.callee=.value f)(hf:a.eval f=.func (.func g) #[] cs)(hb:mW P g=af)
 (hr:(Extern.BytealgCompare.compare (c.args.map a.eval++cs)).run P w=.ok v w):(execOp a.eval o).run P w=.ok (.value v) w:=by
 unfold mW at hb;rw[yi]at hb
 replace hb:=hb.2
 split at hb
 .rename_i fn hfn;simp only[yi,yT,Option.isNone_iff_eq_none]at hb;have hcl:=run_callFunc_extern (P:=P) hfn (by rw[hb.1.1];rfl) (by rw[hb.1.2];rfl) hb.2 (ZMI hb.1.1) (c.args.map a.eval++cs) w;rw[hr]at hcl;simp only[execOp,ho,resolve,hc,hf,Deferred.ofValue,Sem.run_bind,Sem.run_pure,Result.andThen_ok,invoke];rw[Array.empty_append];exact hcl
 .cases hb
theorem ZHV{g:yq}(w:World)(args:Array yh)(hb:gv P g=af):(callFunc g args).run P w=.ok (.enter g args) w:=by
 unfold gv at hb;split at hb
 .rename_i fn hfn;simp only[yi,Bool.not_eq_true']at hb;have h1:¬fn.name= "runtime.NumGoroutine" :=by simpa using hb.2
  have h2:fn.body.isNone=ag:=by cases hh:fn.body <;> simp[hh]at hb ⊢
  simp only[callFunc,Sem.run_bind,run_program,Result.andThen_ok,hfn];simp[h1,h2]
 .cases hb
theorem EK(ok:Ok σ){g:yq}{ds args':yL Dv}{av:Array yh}{ids:yL Nat}{Hin H' Hb:yL ay}{r r':Dv}(hx:(execOp a.eval o).run P σ.w=.ok (.enter g av) σ.w)(hav:aC σ ds av.toList)
 (honce:once ids=af) (hle:ids.length<=H'.length) (yQ:Dv.bt (aV ids) ds=ab args')
 (hin:aJ σ.H ids ids=ab Hin) (hr:r.rn (aO ids σ.H.length)=ab r') (hb:ay.bt (aO ids σ.H.length) H'=ab Hb) (hcon:cH P g args' Hin r H'):XE P o a σ r' (au σ.H ids Hb):=by
 have hc:=hcon (callee σ ids Hin) _ (ZLc ok honce hin) rfl (df (EI ok honce hin) _ _ _ yQ hav);intro K Q hK;unfold Oper.wp;rw[hx];simp only[Oper.upon];rw[ycl]at hc;refine hc.mono ?_;rintro e w' ⟨v,τ,rfl,rfl,hH,to,okτ,hv⟩;subst hH;obtain⟨to',ok',rn⟩:=ZCl ok honce hin to okτ hle hb;exact hK v (kb σ ids Hb τ) rfl to' ok' (nk rn hr hv)
theorem ZPL(yK:aK σ ts a){c:Call}{f:ym}{g:yq}{cap:yL Dv}(ids:yL Nat)(hf:ZB P ts 0 f=.fn g cap)(hsz:c.args.size=c.argTypes.size):
 ∃fs cs,a.eval f=.func (.func (dY g)) fs cs/\aC σ (Z5 P ids ts c g cap) (fs++c.args.map a.eval++cs).toList:=by
 have hfv:=Zs (P:=P) yK 0 f;rw[hf]at hfv;obtain⟨fs,cs,hfe,h0,hcs⟩:=rx hfv;refine⟨fs,cs,hfe, ?_⟩;unfold Z5;by_cases hg:g < big
 .rw[yW hg]at h0 ⊢;subst h0;rw[Array.empty_append]at hcs ⊢;rw[Array.toList_append,ycu];exact VU (lS yK ids (by simpa using hsz)) (nD ids hcs)
 .rw[yX hg]at h0 ⊢;subst h0;rw[Array.append_empty]at hcs ⊢;rw[Array.toList_append,ycu];exact VU (nD ids hcs) (lS yK ids (by simpa using hsz))
theorem Zzl(ok:Ok σ)(yK:aK σ ts a){c:Call}{f:ym}{g:yq}{cap args':yL Dv}{ids:yL Nat}{Hin H' Hb:yL ay}{r r':Dv}(ho:o.op=.call c)(yS:c.callee=.value f)
 (hf:ZB P ts 0 f=.fn g cap) (hbod:gv P (dY g)=af) (hsz:c.args.size=c.argTypes.size) (honce:once ids=af) (hle:ids.length<=H'.length) (yQ:Dv.bt (aV ids) (Z5 P ids ts c g cap)=ab args')
 (hin:aJ σ.H ids ids=ab Hin) (hr:r.rn (aO ids σ.H.length)=ab r') (hb:ay.bt (aO ids σ.H.length) H'=ab Hb) (hcon:cH P (dY g) args' Hin r H'):XE P o a σ r' (au σ.H ids Hb):=by
 have hfv:=Zs (P:=P) yK 0 f;rw[hf]at hfv;obtain⟨fs,cs,hfe,h0,hcs⟩:=rx hfv
 have hav:aC σ (Z5 P ids ts c g cap) (fs++c.args.map a.eval++cs).toList:=by
  unfold Z5;by_cases hg:g < big
  .rw[yW hg]at h0 ⊢;subst h0;rw[Array.empty_append]at hcs ⊢;rw[Array.toList_append,ycu];exact VU (lS yK ids (by simpa using hsz)) (nD ids hcs)
  .rw[yX hg]at h0 ⊢;subst h0;rw[Array.append_empty]at hcs ⊢;rw[Array.toList_append,ycu];exact VU (nD ids hcs) (lS yK ids (by simpa using hsz))
 exact EK ok (EJ σ.w ho yS hfe hbod) hav honce hle yQ hin hr hb hcon
theorem ZDD(ok:Ok σ)(yK:aK σ ts a){c:Call}{recv:ym}{name:String}{t:yc}{x:Dv}{g:yq}{args':yL Dv}{ids:yL Nat}{Hin H' Hb:yL ay}{r r':Dv}(ho:o.op=.call c)(yS:c.callee=.invoke recv name)
 (hf:ZB P ts 0 recv=.iface t x) (hbod:gv P g=af) (hsz:c.args.size=c.argTypes.size) (honce:once ids=af) (hle:ids.length<=H'.length) (yQ:Dv.bt (aV ids) (x.bL ids::Z5 P ids ts c 0 [])=ab args')
 (hin:aJ σ.H ids ids=ab Hin) (hr:r.rn (aO ids σ.H.length)=ab r') (hb:ay.bt (aO ids σ.H.length) H'=ab Hb) (hm:oI P t name g) (hcon:cH P g args' Hin r H'):XE P o a σ r' (au σ.H ids Hb):=by
 have hfv:=Zs (P:=P) yK 0 recv;rw[hf,Zi rfl]at hfv;simp only[yG]at hfv;obtain⟨v,hv,h1,h2⟩:=hfv;have hv:a.eval recv=.iface t v:=by simpa using hv
 have hxv:yH σ x v:=⟨h1,h2⟩
 have hav:aC σ (x.bL ids::Z5 P ids ts c 0 []) (#[v]++c.args.map a.eval).toList:=by
  rw[Array.toList_append,ycu];show aC σ _ (v::c.args.toList.map a.eval);rw[aC];refine⟨v,_,rfl,DR ids hxv, ?_⟩;unfold Z5;rw[yW (by decide),List.map_nil,List.append_nil];exact lS yK ids (by simpa using hsz)
 have hx:(execOp a.eval o).run P σ.w=.ok (.enter g (#[v]++c.args.map a.eval)) σ.w:=by
  have e:=hm v (c.args.map a.eval) σ.w;rw[ZHV σ.w _ hbod]at e;rw[<-e];have e1:(#[Value.iface t v]++c.args.map a.eval)[0]? =ab (.iface t v):=by simp[Array.getElem?_append]
  have e2:(#[Value.iface t v]++c.args.map a.eval).extract 1 (#[Value.iface t v]++c.args.map a.eval).size=c.args.map a.eval:=by
   apply Array.ext';simp;rw[ybs (by simp)]
  simp only[execOp,ho,resolve,yS,hv,Sem.run_bind,Sem.run_pure,Result.andThen_ok,invoke,e1,e2]
 exact EK ok hx hav honce hle yQ hin hr hb hcon
mutual
theorem EL{w w':World}{S S':Nat->Nat->Prop}:∀(x:Pl)(vs:yL yh),x.flat=af->aw w S x vs->aw w' S' x vs
 |.int _ _,_,_,h=>by simpa[aw] using h
 |.bool _,_,_,h=>by simpa[aw] using h
 |.agg xs,vs,hf,h=>by
  simp only[aw]at h ⊢
  exact dZ xs vs hf h
 |.arr n s xs,vs,hf,h=>by
  simp only[aw]at h ⊢
  exact⟨h.1,h.2.1,dZ xs vs hf h.2.2⟩
 |.str _,_,hf,_=>by cases hf
 |.bE,_,hf,_=>by cases hf
 |.fn0,_,hf,_=>by cases hf
 |.dE,_,hf,_=>by cases hf
 |.bU,_,hf,_=>by cases hf
 |.fS _,_,hf,_=>by cases hf
 |.sl _ _ _,_,hf,_=>by cases hf
 |.iface _ _,_,hf,_=>by cases hf
theorem dZ{w w':World}{S S':Nat->Nat->Prop}:∀(xs:yL Pl)(vs:yL yh),Pl.aP xs=af->aq w S xs vs->aq w' S' xs vs
 |[],_,_,h=>by simpa[aq] using h
 |x::xs,vs,hf,h=>by
  simp only[Pl.aP,yi]at hf;simp only[aq]at h ⊢;obtain⟨us,us',h1,h2,h3⟩:=h;exact⟨us,us',h1,EL x us hf.1 h2,dZ xs us' hf.2 h3⟩
end
theorem ZPM{σ σ':Sg}{x:Pl}{v:yh}(hf:x.flat=af)(h:yH σ (.p x) v):yH σ' (.p x) v:=by
 obtain⟨h1,h2⟩:=h;refine⟨λq=> ?_,λq=> ?_⟩
 .obtain⟨cs,e1,e2⟩:=h1 q;refine⟨cs,e1, ?_⟩;simp only[yG]at e2 ⊢;exact EL x _ hf e2
 .have:=h2 q;simp only[yG]at this ⊢;exact EL x _ hf this
theorem ZPN(ok:Ok σ):Ok (ir σ) where
 len:=rfl
 inj i j b h:=by simp[ir]at h
 lt i b h:=by simp[ir]at h
 cY i e a h:=by simp[ir]at h
 new b h:=h
 own i b h:=by simp[ir]at h
theorem ZLd(ok:Ok σ)(yK:aK σ ts a){c:Call}{f:ym}{g:yq}{cap:yL Dv}{ps:yL Pl}{r:Pl}(ho:o.op=.call c)(yS:c.callee=.value f)
 (hf:ZB P ts 0 f=.fn g cap) (hbod:gv P (dY g)=af) (hsz:c.args.size=c.argTypes.size) (hflat:r.flat=af) {id:Nat} (hl:kI id (cz (σ.H[id]?)) (Z5 P [] ts c g cap) ps)
 (hcon:cH P (dY g) (ps.map Dv.p) [] (.p r) []):XE P o a σ (.p r) σ.H:=by
 have hfv:=Zs (P:=P) yK 0 f;rw[hf]at hfv;obtain⟨fs,cs,hfe,h0,hcs⟩:=rx hfv
 have hav:aC σ (Z5 P [] ts c g cap) (fs++c.args.map a.eval++cs).toList:=by
  unfold Z5;by_cases hg:g < big
  .rw[yW hg]at h0 ⊢;subst h0;rw[Array.empty_append]at hcs ⊢;rw[Array.toList_append,ycu];exact VU (lS yK [] (by simpa using hsz)) (nD [] hcs)
  .rw[yX hg]at h0 ⊢;subst h0;rw[Array.append_empty]at hcs ⊢;rw[Array.toList_append,ycu];exact VU (nD [] hcs) (lS yK [] (by simpa using hsz))
 have hc:=hcon (ir σ) _ (ZPN ok) rfl (hl σ _ ok rfl hav);intro K Q hK;unfold Oper.wp;rw[EJ σ.w ho yS hfe hbod];simp only[Oper.upon];rw[ycl]at hc;refine hc.mono ?_;rintro e w' ⟨v,τ,rfl,rfl,hH,to,okτ,hv⟩
 have hlt:∀(b o:Nat)(v:yh),σ.w.cell? ⟨b,o,ae⟩=ab v->b < σ.w.heap.size:=λb o v h=>by
  rcases Nat.lt_or_ge b σ.w.heap.size with q|q
  .exact q
  .simp[World.cell?,Array.getElem?_eq_none q]at h
 have to':To (callee σ [] []) { callee σ [] [] with w:=τ.w}:={
  leaf:=⟨λb o v h1 h2=>⟨(to.leaf.cells b o v h1 ⟨.inl (hlt b o v h1),λid e q=>by simp[ir]at q⟩).1,h2⟩,
   λid b h=>by simp[callee]at h,λid s len A c h=>by obtain⟨e,ys,h1,_⟩:=h;simp[callee]at h1,λid b h=>by simp[callee]at h,λid v s st e d h=>by simp[callee]at h⟩
  F:=rfl
  B:=rfl
  os:=to.os
  tape:=to.tape
  output:=to.output
  size:=to.size
  block:=λb h _=>to.block b h (λid q=>by simp[ir]at q)
  same:=λid b h=>by simp[callee]at h
  len:=yj _}
 have ok':Ok { callee σ [] [] with w:=τ.w}:={
  len:=rfl
  inj:=λi j b h=>by simp[callee]at h
  lt:=λi b h=>by simp[callee]at h
  cY:=λi e a h=>by simp[callee]at h
  new:=λb h=>.inl (ybk to.size h)
  own:=λi b h=>by simp[callee]at h}
 obtain⟨to2,ok2,_⟩:=ZCl (ids:=[]) (Hin:=[]) (Hb:=[]) ok rfl rfl to' ok' (yj _) rfl;exact hK v (kb σ [] [] { callee σ [] [] with w:=τ.w}) (by simp[kb,au]) to2 ok2 (ZPM hflat hv)
theorem ZTT(ok:Ok σ)(yK:aK σ ts a){c:Call}{f:ym}{hs hs':yL ar}{C:yL Prop}{d:Dv}(ho:o.op=.call c)(yS:c.callee=.value f)(h:bB P o ts σ.H hs=ab (C,d,hs'))(hc:ba C):XE P o a σ d σ.H:=by
 simp only[bB,ho,yS]at h;split at h
 .rename_i g cap ps r hs2 hf;split at h
  .split at h
   .rename_i hk;simp only[yi,yT]at hk;cases h;exact ZLd ok yK ho yS hf hk.1.1 hk.1.2 hk.2 hc.1 hc.2.1
   .cases h
  .cases h
 .cases h
end
end Go.Ev
end
section
namespace Go.Ev
theorem EM{w:World}{S:Nat->Nat->Prop}{n s:Nat}{xs:yL Pl}{us:yL yh}(h:aw w S (.arr n s xs) us):xs.length=n/\aR s xs/\aq w S xs us:=by
 simpa[aw] using h
theorem ZwU{P:yg}{σ:Sg}{d n:Nat}{e:yc}{s:Nat}(hs:P.cellsOf e=s)(hs0:s≠0)(hi:(P.info? e).isSome=af)(hu:(P.underlying e).isSome=af)
 (ih:∀(x y:Pl)(a b:yh),bh P n e x->bh P n e y->yH σ (.p x) a->yH σ (.p y) b->∃r:Bool,(Op.equalIn d e a b).run P σ.w=.ok r σ.w/\(r=af↔x=y))
 {cs cs':Array yh} {m:Nat}:∀(xs ys:yL Pl)(i:Nat)(p p' us vs:yL yh),(∀y,y∈xs->bh P n e y/\y.size=s/\WS P e=y.isAgg)->(∀y,y∈ys->bh P n e y/\y.size=s/\WS P e=y.isAgg)->
  cs.toList=p++us->cs'.toList=p'++vs->p.length=i*s->p'.length=i*s->aq σ.w σ.aU xs us->aq σ.w σ.aU ys vs->xs.length=m->ys.length=m->
  ∃r:Bool,(Op.eqItems d e s cs cs' (List.range' i m)).run P σ.w=.ok r σ.w/\(r=af↔xs=ys)
 |[],ys,i,p,p',us,vs,_,_,_,_,_,_,_,_,h1,h2=>by
  subst h1;have:ys=[]:=ybh h2;subst this
  exact⟨af,by simp[Op.eqItems],by simp⟩
 |x::xs,[],_,_,_,_,_,_,_,_,_,_,_,_,_,h1,h2=>by simp at h1 h2;omega
 |x::xs,y::ys,i,p,p',us,vs,hx,hy,e1,e2,l1,l2,r1,r2,h1,h2=>by
  obtain⟨m',rfl⟩:∃m',m=m'+1:=⟨xs.length,by simpa using h1.symm⟩;simp only[aq]at r1 r2;obtain⟨u1,u2,rfl,q1,q2⟩:=r1;obtain⟨v1,v2,rfl,q3,q4⟩:=r2;obtain⟨f1,f2,f3⟩:=hx x (yax ..);obtain⟨g1,g2,g3⟩:=hy y (yax ..);obtain⟨a,ha,ra⟩:=kM (P:=P) (σ:=σ) (t:=e) (d:=.p x) e1 (by simpa[yG] using q1) (by rw[hs];exact f2.symm) hi hu f3 (by show x.size≠0;omega);obtain⟨b,hb,rb⟩:=kM (P:=P) (σ:=σ) (t:=e) (d:=.p y) e2 (by simpa[yG] using q3) (by rw[hs];exact g2.symm) hi hu g3 (by show y.size≠0;omega);rw[l1]at ha;rw[l2]at hb;obtain⟨r,hr,hiff⟩:=ih x y a b f1 g1 ra rb;have s1:=Ve _ _ q1;have s2:=Ve _ _ q3
  obtain⟨r',hr',hiff'⟩:=ZwU hs hs0 hi hu ih xs ys (i+1) (p++u1) (p'++v1) u2 v2 (λz hz=>hx z (yaz _ hz)) (λz hz=>hy z (yaz _ hz))
   (by rw[e1,yad]) (by rw[e2,yad]) (by rw[yl,l1,s1,f2,yau,Nat.one_mul]) (by rw[yl,l2,s2,g2,yau,Nat.one_mul]) q2 q4 (by simpa using h1) (by simpa using h2)
  rw[List.range'_succ];simp only[Op.eqItems,Sem.run_bind,ha,hb,hr,Result.andThen_ok];cases r
  .exact⟨ag,by simp,by simp;intro e;exact absurd (hiff.2 e) (by simp)⟩
  .refine⟨r',by simpa using hr', ?_⟩;rw[hiff'];simp[hiff.1 rfl]
theorem Zt2{P:yg}{σ:Sg}{d:Nat}{R:yc->Pl->Prop}
 (ih:∀(t:yc)(x y:Pl)(a b:yh),R t x->R t y->yH σ (.p x) a->yH σ (.p y) b->∃r:Bool,(Op.equalIn d t a b).run P σ.w=.ok r σ.w/\(r=af↔x=y))
 {cs cs':Array yh}:∀(fs:yL Field)(xs ys:yL Pl)(o:Nat)(p p' us vs:yL yh),io P R fs o xs->io P R fs o ys->
  cs.toList=p++us->cs'.toList=p'++vs->p.length=o->p'.length=o->aq σ.w σ.aU xs us->aq σ.w σ.aU ys vs->
  ∃r:Bool,(Op.eqFields d cs cs' fs).run P σ.w=.ok r σ.w/\(r=af↔xs=ys)
 |[],[],[],_,_,_,_,_,_,_,_,_,_,_,_,_=>⟨af,by simp[Op.eqFields],by simp⟩
 |[],_::_,_,_,_,_,_,_,h,_,_,_,_,_,_,_=>by simp[io]at h
 |[],[],_::_,_,_,_,_,_,_,h,_,_,_,_,_,_=>by simp[io]at h
 |_::_,[],_,_,_,_,_,_,h,_,_,_,_,_,_,_=>by simp[io]at h
 |_::_,_::_,[],_,_,_,_,_,_,h,_,_,_,_,_,_=>by simp[io]at h
 |f::fs,x::xs,y::ys,o,p,p',us,vs,hx,hy,e1,e2,l1,l2,r1,r2=>by
  simp only[io]at hx hy;obtain⟨a1,a2,a3,a4,a5,a6,a7,a8,a9⟩:=hx;obtain⟨_,_,b3,_,_,b6,b7,b8,b9⟩:=hy;simp only[aq]at r1 r2;obtain⟨u1,u2,rfl,q1,q2⟩:=r1;obtain⟨v1,v2,rfl,q3,q4⟩:=r2;obtain⟨a,ha,ra⟩:=kM (P:=P) (σ:=σ) (t:=f.type) (d:=.p x) e1 (by simpa[yG] using q1) a3 a4 a5 a6 a7;obtain⟨b,hb,rb⟩:=kM (P:=P) (σ:=σ) (t:=f.type) (d:=.p y) e2 (by simpa[yG] using q3) b3 a4 a5 b6 b7;rw[l1, <-a2]at ha;rw[l2, <-a2]at hb;obtain⟨r,hr,hiff⟩:=ih f.type x y a b a8 b8 ra rb;have s1:=Ve _ _ q1;have s2:=Ve _ _ q3;have hxy:x.size=y.size:=a3.symm.trans b3
  obtain⟨r',hr',hiff'⟩:=Zt2 ih fs xs ys (o+x.size) (p++u1) (p'++v1) u2 v2 a9 (by rw[hxy];exact b9)
   (by rw[e1,yad]) (by rw[e2,yad]) (by rw[yl,l1,s1]) (by rw[yl,l2,s2,hxy]) q2 q4
  simp only[Op.eqFields,a1,ne_eq,not_false_eq_true,if_true,Sem.run_bind,ha,hb,hr,Result.andThen_ok];cases r
  .exact⟨ag,by simp,by simp;intro e;exact absurd (hiff.2 e) (by simp)⟩
  .refine⟨r',by simpa using hr', ?_⟩;rw[hiff'];simp[hiff.1 rfl]
theorem EN{P:yg}{σ:Sg}:∀(n:Nat)(t:yc)(x y:Pl)(a b:yh),bh P n t x->bh P n t y->yH σ (.p x) a->yH σ (.p y) b->
 ∀d,∃r:Bool,(Op.equalIn (d+n) t a b).run P σ.w=.ok r σ.w/\(r=af↔x=y)
 |0,_,_,_,_,_,h,_,_,_,_=>by simp[bh]at h
 |n+1,t,x,y,a,b,hx,hy,ra,rb,d=>by
  unfold bh at hx hy;split at hx
  .rename_i hu;rw[hu]at hy;split at hy <;> rename_i e1 <;> simp only[reduceCtorEq,yp]at e1
   all_goals first
    |(rw[Y5 ra,Y5 rb]
      exact⟨_,run_equalIn_bool' σ.w (d+n) t _ _ hu,by simp⟩)
    |exact hy.elim
  .rename_i k k' z hu;rw[hu]at hy;split at hy <;> rename_i e1 <;> simp only[reduceCtorEq,yp,TypeDesc.int.injEq]at e1
   all_goals first
    |(subst hx;subst hy;subst e1
      rw[ZY ra,ZY rb]
      exact⟨_,run_equalIn_int σ.w (d+n) t _ _ _ _ hu,by simp⟩)
    |exact hy.elim
  .rename_i m e m' s xs hu;rw[hu]at hy;split at hy <;> rename_i e1 <;> simp only[reduceCtorEq,yp,TypeDesc.array.injEq]at e1
   .rename_i s2 ys;obtain⟨rfl,rfl⟩:=e1;obtain⟨rfl,h1,h2,h3,h4,h5⟩:=hx;obtain⟨rfl,g1,_,_,_,g5⟩:=hy;obtain rfl:s=s2:=h1.symm.trans g1;rw[Ye (by rfl)]at ra rb;obtain⟨cs,rfl,ra⟩:=ra;obtain⟨cs',rfl,rb⟩:=rb;simp only[yG]at ra rb;obtain⟨n1,_,ra⟩:=EM ra;obtain⟨n2,_,rb⟩:=EM rb;obtain⟨i,hi⟩:=Option.isSome_iff_exists.1 h3;obtain⟨r,hr,hiff⟩:=ZwU (P:=P) (σ:=σ) (d:=d+n) (n:=n) (e:=e) (s:=s) h1 h2 h3 h4 (λx y a b hx hy ra rb=>EN n e x y a b hx hy ra rb d) xs ys 0 [] [] cs.toList cs'.toList h5 g5 rfl rfl (by simp) (by simp) ra rb n1 n2;refine⟨r, ?_,by rw[hiff];simp⟩;rw[show d+(n+1)=(d+n)+1 from rfl,run_equalIn_array σ.w (d+n) cs cs' hu hi,List.range_eq_range',h1]
    exact hr
   all_goals first
    |exact hy.elim
  .rename_i fs xs hu;rw[hu]at hy;split at hy <;> rename_i e1 <;> simp only[reduceCtorEq,yp,TypeDesc.struct.injEq]at e1
   all_goals first
    |exact hy.elim
    |skip
   rename_i ys;subst e1;obtain⟨h1,h2⟩:=hx;obtain⟨_,g2⟩:=hy;rw[Ye (by rfl)]at ra rb;obtain⟨cs,rfl,ra⟩:=ra;obtain⟨cs',rfl,rb⟩:=rb;simp only[yG,aw]at ra rb;have hfs:P.fieldsOf t=fs:=by simp[Program.fieldsOf,hu]
   obtain⟨r,hr,hiff⟩:=Zt2 (P:=P) (σ:=σ) (d:=d+n) (R:=bh P n) (λt x y a b hx hy ra rb=>EN n t x y a b hx hy ra rb d) fs.toList xs ys 0 [] [] cs.toList cs'.toList h2 g2 rfl rfl rfl rfl ra rb;refine⟨r, ?_,by rw[hiff];simp⟩;rw[show d+(n+1)=(d+n)+1 from rfl,run_equalIn_struct σ.w (d+n) t cs cs' (by rw[hfs];exact hu) h1,hfs]
   exact hr
  .exact hx.elim
theorem EO{P:yg}{σ:Sg}{t:yc}{x y:Pl}{a b:yh}(hx:bh P 20 t x)(hy:bh P 20 t y)(ra:yH σ (.p x) a)(rb:yH σ (.p y) b){β:Bool}(h:β=af↔x=y):
 (Op.equal t a b).run P σ.w=.ok β σ.w:=by
 obtain⟨r,hr,hiff⟩:=EN 20 t x y a b hx hy ra rb 9980;have:r=β:=by rw[Bool.eq_iff_iff,hiff,h]
 subst this;exact hr
def nE:yh->Bool
 |.bool _|.pointer _|.slice _ _ _|.func _ _ _|.nilFunc=>af
 |_=>ag
theorem Zzo{op:BinOp}{t:yc}{x y:ym}{a b:yh}(h:nE a=af):eqGuard op t x y a b=pure ():=by
 cases op <;> cases a <;> first|rfl|(simp[nE]at h)
theorem ZDE{t:yc}{a b:yh}(h:nE a=af):binOp .eql t a b=(do pure (.bool (<-Op.equal t a b))):=by
 cases a <;> first|(simp[nE]at h;done)|(cases b <;> rfl)
theorem ZDF{t:yc}{a b:yh}(h:nE a=af):binOp .neq t a b=(do pure (.bool (!(<-Op.equal t a b)))):=by
 cases a <;> first|(simp[nE]at h;done)|(cases b <;> rfl)
theorem iS{P:yg}{t:yc}{a b:yh}{r:Bool}{w:World}(h:∀n,(Op.equalIn (n+1) t a b).run P w=.ok r w):(Op.equal t a b).run P w=.ok r w:=h 9999
theorem ZwV{P:yg}{t:yc}{x y:Dv}{hs hs':yL ar}{C:yL Prop}{r:Bool}(h:iL P t x y hs=ab (C,r,hs'))(hc:ba C){σ:Sg}{a b:yh}
 (ha:yH σ x a) (hb:yH σ y b):(Op.equal t a b).run P σ.w=.ok r σ.w/\(nE a=af\/((∃cs,a=.agg cs)/\(∃cs,b=.agg cs)/\P.eqGuardType P.depth t=ag)):=by
 unfold iL at h;have step:∀(d:TypeDesc),P.underlying t=ab d->(underlying t).run P σ.w=.ok d σ.w:=λd hd=>run_underlying hd σ.w;split at h
 all_goals first
  |(cases h;done)
  |skip
 rotate_right 2
 iterate 2
  .split at h
   .split at h
    .rename_i hg;cases h;obtain⟨c1,c2,c3,_⟩:=hc;refine⟨EO c1 c2 ha hb c3,.inr ⟨?_, ?_,hg⟩⟩
     .obtain⟨cs,e,_⟩:=(Ye (by rfl)).1 ha;exact⟨cs,e⟩
     .obtain⟨cs,e,_⟩:=(Ye (by rfl)).1 hb;exact⟨cs,e⟩
    .cases h
   .cases h
 case' h_9=>
  rename_i hu;split at h
  .cases h;obtain⟨_,A,c,rfl,_,_,_,_,h6⟩:=WY ha;obtain⟨_,B,c',rfl,_,_,hB,_⟩:=WY hb;have hB':B=ae:=by simpa using hB ag rfl
   subst hB';obtain⟨b0,o0,us,rfl,_⟩:=h6 hc.1;exact⟨iS λn=>by simp[Op.equalIn,step _ hu],.inl rfl⟩
  .cases h
 case' h_10=>
  rename_i hu;split at h
  .cases h;obtain⟨_,A,c,rfl,_,_,_,_,h6,_⟩:=lO ha;obtain⟨_,B,c',rfl,_,_,hB,_⟩:=WY hb;have hB':B=ae:=by simpa using hB ag rfl
   subst hB';obtain⟨b0,o0,us,rfl,_⟩:=h6 hc.1;exact⟨iS λn=>by simp[Op.equalIn,step _ hu],.inl rfl⟩
  .cases h
 all_goals
  rename_i hu;cases h;refine(λq:_/\_=>⟨q.1,.inl q.2⟩) ?_
 .rw[Y5 ha,Y5 hb];exact⟨iS λn=>by simp[Op.equalIn,step _ hu],rfl⟩
 .rw[rg hb];rw[Zi (by rfl)]at ha;simp only[yG,List.cons.injEq,and_true]at ha;obtain⟨b',_,_,rfl⟩:=ha;exact⟨iS λn=>by simp[Op.equalIn,step _ hu],rfl⟩
 .rw[rg hb];rw[Zi (by rfl)]at ha;simp only[yG,List.cons.injEq,and_true]at ha;obtain⟨b',o',us,rfl,_⟩:=ha;exact⟨iS λn=>by simp[Op.equalIn,step _ hu],rfl⟩
 .rw[rg hb];rw[Zi (by rfl)]at ha;simp only[yG,List.cons.injEq,and_true]at ha;obtain⟨b',o',rfl,_⟩:=ha;exact⟨iS λn=>by simp[Op.equalIn,step _ hu],rfl⟩
 .rw[rg ha,rg hb];exact⟨iS λn=>by simp[Op.equalIn,step _ hu],rfl⟩
 .obtain⟨_,A,c,rfl,_,_,hA,_⟩:=WY ha;obtain⟨_,B,c',rfl,_,_,hB,_⟩:=WY hb;have hB':B=ae:=by simpa using hB ag rfl
  subst hB';have hA2:=hA _ rfl;subst hA2;refine⟨?_,rfl⟩;cases A <;> (refine iS λn=> ?_;simp[Op.equalIn,step _ hu])
 .obtain⟨_,A,c,rfl,_,_,hA,_⟩:=lO ha;obtain⟨_,B,c',rfl,_,_,hB,_⟩:=WY hb;have hB':B=ae:=by simpa using hB ag rfl
  subst hB';have hA2:=hA _ rfl;subst hA2;refine⟨?_,rfl⟩;cases A <;> (refine iS λn=> ?_;simp[Op.equalIn,step _ hu])
 .rw[Zi (by rfl)]at ha;simp only[yG,List.cons.injEq,and_true]at ha;obtain⟨bb,cc,aa,_,_,rfl,_⟩:=ha;obtain⟨_,B,c',rfl,_,_,hB,_⟩:=WY hb;have hB':B=ae:=by simpa using hB ag rfl
  subst hB';exact⟨iS λn=>by simp[Op.equalIn,step _ hu],rfl⟩
 .rw[DN hb];rw[Zi (by rfl)]at ha;simp only[yG,List.cons.injEq,and_true]at ha;obtain⟨fs,cs,rfl,_⟩:=ha;exact⟨iS λn=>by simp[Op.equalIn,step _ hu],rfl⟩
 .rw[DN ha,DN hb];exact⟨iS λn=>by simp[Op.equalIn,step _ hu],rfl⟩
theorem ZFE{P:yg}{op:BinOp}{t:yc}{x y:Dv}{hs hs':yL ar}{C:yL Prop}{d:Dv}(h:gu P op t x y hs=ab (C,d,hs'))(hc:ba C){σ:Sg}{a b:yh}
 (ha:yH σ x a) (hb:yH σ y b) (ox oy:ym):
 ∃v,(eqGuard op t ox oy a b).run P σ.w=.ok () σ.w/\(binOp op t a b).run P σ.w=.ok v σ.w/\yH σ d v:=by
 unfold gu at h;split at h
 .have ea:=ZY ha;have eb:=ZY hb;subst ea;subst eb;split at h
  .rename_i ho;obtain⟨v,h1,h2⟩:=ZBu (P:=P) (yk:= ‹IntKind›) h hc σ;refine⟨v,by rw[eqGuard_at_int];rfl, ?_,h2⟩;cases op <;> first|(simp[DK]at ho;done)|exact h1
  .split at h
   .rename_i hk;subst hk;obtain⟨v,h1,h2⟩:=ZFw (P:=P) h hc σ t;exact⟨v,by rw[eqGuard_at_int];rfl,h1,h2⟩
   .cases h
 .rw[oN ha,oN hb];split at h
  .cases h;exact⟨_,rfl,by rw[<-ByteArray.toList_eq, <-ByteArray.toList_eq];rfl,Yr _⟩
  .cases h;exact⟨_,rfl,by rw[<-ByteArray.toList_eq, <-ByteArray.toList_eq];rfl,Yr _⟩
  .cases h
 .split at h
  .simp only[yn,yz]at h;obtain⟨⟨C',r,hs''⟩,h1,rfl,rfl,rfl⟩:=h;obtain⟨h2,h3⟩:=ZwV h1 hc ha hb;refine⟨.bool r, ?_, ?_,Yr _⟩
   .rcases h3 with h3|⟨⟨cs,rfl⟩,⟨cs',rfl⟩,h3⟩
    .rw[Zzo h3];rfl
    .exact run_eqGuard_agg _ _ _ _ _ _ _ h3
   .rcases h3 with h3|⟨⟨cs,rfl⟩,⟨cs',rfl⟩,h3⟩
    .rw[ZDE h3];simp[h2]
    .rw[show binOp .eql t (.agg cs) (.agg cs')=(do pure (.bool (<-Op.equal t (.agg cs) (.agg cs')))) from rfl];simp[h2]
  .simp only[yn,yz]at h;obtain⟨⟨C',r,hs''⟩,h1,rfl,rfl,rfl⟩:=h;obtain⟨h2,h3⟩:=ZwV h1 hc ha hb;refine⟨.bool (!r), ?_, ?_,Yr _⟩
   .rcases h3 with h3|⟨⟨cs,rfl⟩,⟨cs',rfl⟩,h3⟩
    .rw[Zzo h3];rfl
    .exact run_eqGuard_agg _ _ _ _ _ _ _ h3
   .rcases h3 with h3|⟨⟨cs,rfl⟩,⟨cs',rfl⟩,h3⟩
    .rw[ZDF h3];simp[h2]
    .rw[show binOp .neq t (.agg cs) (.agg cs')=(do pure (.bool (!(<-Op.equal t (.agg cs) (.agg cs'))))) from rfl];simp[h2]
  .cases h
end Go.Ev
end
section
namespace Go.Ev
section
variable{P:yg}{o:Oper}{a:Act}{σ:Sg}{ts:yL Dv}{hs hs':yL ar}{C:yL Prop}{d:Dv}
theorem ZwW(H:yL ay):au H [] []=H:=by simp[au]
theorem rE:(aV []:Nat->yO Nat)=λ_=>ae:=by
 funext i;simp[aV]
mutual
theorem nF{f:Nat->yO Nat}:∀(x y:Dv),x.rn (λ_=>ae)=ab y->x.rn f=ab x
 |.p x,_,_=>rfl
 |.elem x,_,_=>rfl
 |.am _ _ _,_,h=>by simp[Dv.rn]at h
 |.own _ _ _ _,_,h=>by simp[Dv.rn]at h
 |.view _ _ _ _ _ _,_,h=>by simp[Dv.rn]at h
 |.agg xs,_,h=>by
  simp only[Dv.rn,yn]at h ⊢;obtain⟨ys,h1,_⟩:=h
  exact⟨xs,bK xs ys h1,rfl⟩
 |.arr n s xs,_,h=>by
  simp only[Dv.rn,yn]at h ⊢;obtain⟨ys,h1,_⟩:=h
  exact⟨xs,bK xs ys h1,rfl⟩
 |.fn g xs,_,h=>by
  simp only[Dv.rn,yn]at h ⊢;obtain⟨ys,h1,_⟩:=h
  exact⟨xs,bK xs ys h1,rfl⟩
 |.iface t x,_,h=>by
  simp only[Dv.rn,yn]at h ⊢;obtain⟨y,h1,_⟩:=h
  exact⟨x,nF x y h1,rfl⟩
 |.bi xs,_,h=>by
  simp only[Dv.rn,yn]at h ⊢;obtain⟨ys,h1,_⟩:=h
  exact⟨xs,bK xs ys h1,rfl⟩
 |.mp _,_,h=>by simp[Dv.rn]at h
 |.rv _ _ _ _ _,_,h=>by simp[Dv.rn]at h
 |.aZ _ _ _ _,_,h=>by simp[Dv.rn]at h
 |.aA,_,_=>rfl
theorem bK{f:Nat->yO Nat}:∀(x y:yL Dv),Dv.bt (λ_=>ae) x=ab y->Dv.bt f x=ab x
 |[],_,_=>rfl
 |x::xs,_,h=>by
  simp only[Dv.bt]at h;split at h
  .rename_i y ys h1 h2;simp[Dv.bt,nF x y h1,bK xs ys h2]
  .cases h
end
theorem ZFF{src dst e:yc}{xs:yL Pl}{b:ByteArray}{nn:yO Bool}{v:yh}(hs:P.underlying src=ab (.slice e))(he:P.underlying e=ab (.int .u8))(hd:P.underlying dst=ab .string)
 (hv:yH σ (.p (.sl nn 1 xs)) v) (hx:xs=b.data.toList.map λx=>.int .u8 (x.toNat:Int)):(convert src dst v).run P σ.w=.ok (.string b) σ.w:=by
 obtain⟨h1,A,c,rfl,h2,h3,h4,h5,h6⟩:=WY hv;by_cases hne:xs=[]
 .have hb:b=⟨#[]⟩:=by
   rw[hne]at hx;have:b.data.toList=[]:=List.map_eq_nil_iff.1 hx.symm;apply ByteArray.ext;grind
  subst hb;subst hne
  cases A with
  |none=>exact Go.Lib.run_convert_nil_bytes σ.w src dst e c hs he hd
  |some A=>
   have hz:=run_convert_bytes_string (P:=P) σ.w src dst e (ab A) 0 c hs he hd;rw[List.length_nil,hz];simp[Conv.bytesToString,loadCells,loadCellsFrom];rfl
 .obtain⟨bl,o',us,rfl,h7,h8⟩:=h6 hne;have zV:xs.length=b.size:=by rw[hx];simp
  rw[zV];refine Go.Lib.run_convert_whole (P:=P) σ.w src e dst hs he hd bl o' b (λi hi=> ?_) c;have hi':i < xs.length:=by rw[zV];exact hi
  have hxi:xs[i]? =ab (.int .u8 (b[i].toNat:Int)):=by
   rw[hx,yak]
   have:b.data.toList[i]? =ab b[i]:=by
    rw[ycf];exact Array.getElem?_eq_getElem (by simpa using hi)
   rw[this];rfl
  obtain⟨uy,h9,h10⟩:=uX h1 h7 h8 hxi;simp only[aw]at h9;subst h9;have:=(h10 0 _ rfl).1;grind
theorem ZJE{t e:yc}{x:ym}{n s:Nat}{xs:yL Pl}{nn:yO Bool}(ok:Ok σ)(ho:o.op=.sliceToArrayPointer t x)(hu:P.underlying t=ab (.array n e))(hv:yH σ (.p (.sl nn s xs)) (a.eval x))(hn:n≠0)(hle:n<=xs.length):
 XE P o a σ (.elem (.arr n s (xs.take n))) σ.H:=by
 obtain⟨h1,A,c,hv,h2,h3,h4,h5,h6⟩:=WY hv
 have hne:xs≠[]:=by
  grind
 obtain⟨bl,o',us,rfl,h7,h8⟩:=h6 hne;have e0:xs=xs.take n++xs.drop n:=(ybd n xs).symm;rw[e0]at h7;obtain⟨u1,u2,rfl,h9,h10⟩:=Yh h7;refine Zl (v:=.pointer (ab ⟨bl,o',ae⟩)) ok ?_ ?_
 .have:(Instr.arrayAt t (.slice (ab ⟨bl,o',ae⟩) xs.length c)).run P σ.w=.ok (.pointer (ab ⟨bl,o',ae⟩)) σ.w:=by
   simp[Instr.arrayAt,run_underlying hu,show¬xs.length < n by omega]
  simp[execOp,ho,hv,this]
 .rw[Zi rfl];simp only[yG];refine⟨bl,o',u1,rfl, ?_,(VJ.append h8).1⟩;simp only[aw];exact⟨by rw[yx];omega,QY h1 n,h9⟩
theorem ZFG{xs:yL Pl}{b:ByteArray}{nn:yO Bool}{v:yh}(hv:yH σ (.p (.sl nn 1 xs)) v)(hx:xs=gC b):(Extern.Bytes.bytesOf v).run P σ.w=.ok b σ.w:=by
 obtain⟨h1,A,c,rfl,h2,h3,h4,h5,h6⟩:=WY hv;have zV:xs.length=b.size:=by rw[hx,gC,yab,yby];rfl
 have hem:xs=[]->b=.empty:=λh0=>by
  apply ByteArray.ext;apply Array.toList_inj.1;rw[h0]at hx;exact List.map_eq_nil_iff.1 hx.symm
 cases A with
 |none=>
  have hxe:xs=[]:=by
   all_goals grind
  rw[hem hxe]
  simp[Extern.Bytes.bytesOf]
 |some A=>
  by_cases hne:xs=[]
  .rw[hem hne,hne];simp[Extern.Bytes.bytesOf,Extern.Bytes.loadBytes]
  .obtain⟨bl,o',us,e,h7,h8⟩:=h6 hne;cases e
   have hl:=Go.Lib.run_loadBytesX (P:=P) σ.w (b.data.toList.map λx=>(x.toNat:Int)) ⟨bl,o',ae⟩ .empty (λj x hj=>by
    have e:(⟨bl,o',ae⟩:Addr).add j=⟨bl,o'+j,ae⟩:=by unfold Addr.add;split <;> simp_all
    rw[e]
    have hxj:xs[j]? =ab (.int .u8 x):=by
     rw[hx,gC,yak];grind
    obtain⟨uy,h9,h10⟩:=uX h1 h7 h8 hxj;simp only[aw]at h9;subst h9;have:=(h10 0 _ rfl).1;simpa using this)
   have e2:(b.data.toList.map λx=>(x.toNat:Int)).length=xs.length:=by rw[hx,gC,yab,yab]
   rw[e2]at hl;simp only[Extern.Bytes.bytesOf];rw[hl];congr 1;apply ByteArray.ext
   have e3:Go.Lib.bytesOf (b.data.toList.map λx=>(x.toNat:Int))=b.data.toList:=by
    unfold Go.Lib.bytesOf;rw[List.map_map]
    conv=>rhs;rw[<-List.map_id b.data.toList]
    exact List.map_congr_left λz _=>by simp
   rw[e3];show(#[]:Array yB)++b.data.toList.toArray=b.data;simp
theorem ZLe(ok:Ok σ)(yK:aK σ ts a){c:Call}{f:ym}{g:yq}{n1 n2:yO Bool}{xs ys:yL Pl}{x y:ByteArray}(ho:o.op=.call c)(yS:c.callee=.value f)(hf:ZB P ts 0 f=.fn g [])(hb:mW P g=af)
 (hsz:c.args.size=c.argTypes.size) (yQ:Z5 P [] ts c g []=[.p (.sl n1 1 xs),.p (.sl n2 1 ys)]) (hx:xs=gC x) (hy:ys=gC y):XE P o a σ (.p (.int .i64 (Go.Lib.compareBytes x.data.toList y.data.toList))) σ.H:=by
 have hfv:=Zs (P:=P) yK 0 f;rw[hf]at hfv
 have hg:g < big:=by
  unfold mW at hb;grind
 obtain⟨cs,hfe,hcs⟩:=ZR3 hg hfv
 have hav:aC σ (Z5 P [] ts c g []) (c.args.map a.eval++cs).toList:=by
  unfold Z5;rw[yW hg,Array.toList_append,ycu];exact VU (lS yK [] (by simpa using hsz)) (nD [] hcs)
 rw[yQ]at hav;simp only[aC]at hav;obtain⟨u,r1,e1,hu,v,r2,e2,hv,e3⟩:=hav;subst e2;subst e3;have e4:c.args.map a.eval++cs= #[u,v]:=Array.toList_inj.1 e1;refine Zl ok (ZMJ σ.w ho yS hfe hb ?_) (ZC _ _);rw[e4];have h1:=ZFG (P:=P) hu hx;have h2:=ZFG (P:=P) hv hy;change Sem.run P (do pure (goInt (Extern.BytealgCompare.cmp (<-Extern.Bytes.bytesOf u) (<-Extern.Bytes.bytesOf v)))) σ.w=_
 simp only[Sem.run_bind,h1,h2,Sem.run_pure,Result.andThen];rw[Go.Lib.cmp_eq];rfl
theorem ZHW(ok:Ok σ){src dst e:yc}{x:ym}{b:ByteArray}(ho:o.op=.convert src dst x)(hs:P.underlying src=ab .string)(hd:P.underlying dst=ab (.slice e))(he:P.underlying e=ab (.int .u8))
 (hv:a.eval x=.string b) (hb:b.size<=maxLen):XE P o a σ (.p (.sl (ab af) 1 (b.data.toList.map λx=>.int .u8 (x.toNat:Int)))) σ.H:=by
 have hg:σ.w.grownBy (Go.Lib.bytesWorld σ.w e b) ae:=⟨rfl,rfl,rfl,by rw[Go.Lib.bytesWorld_size];omega,λk hk _=>Go.Lib.bytesWorld_at_old σ.w e b k hk⟩;obtain⟨to,ok'⟩:=va ok hg;have zU:=Go.Lib.run_convert_string_bytes (P:=P) σ.w src dst e b hs hd he
 refine ZP (σ':={ σ with w:=Go.Lib.bytesWorld σ.w e b}) (v:=.slice (ab ⟨σ.w.heap.size,0,ae⟩) b.size (grownCap σ.w b.size 0 e)) (by
  have e1:execOp a.eval o=(do pure (.value (<-convert src dst (.string b)))):=by simp only[execOp,ho,hv]
  rw[e1];generalize Go.Lib.bytesWorld σ.w e b=w1 at zU;generalize grownCap σ.w b.size 0 e=n1 at zU;simp[zU]) to ok' ?_
 have hl:(b.data.toList.map λx=>Pl.int .u8 (x.toNat:Int)).length=b.size:=by rw[yab,yby];rfl
 have zO:aR 1 (b.data.toList.map λx=>Pl.int .u8 (x.toNat:Int)):=λy hy=>by
  obtain⟨z,_,rfl⟩:=yci.1 hy;rfl
 rw[<-hl];refine YM zO (by rw[hl];exact grownCap_ge ..) (by rw[hl];exact grownCap_le_maxLen _ _ _ _ hb) (lK rfl) (λh=>(by cases h)) (λ_=>⟨σ.w.heap.size,0,b.data.toList.map λx=>.int .u8 (x.toNat:Int),rfl, ?_,λj u hu=>⟨?_, ?_⟩⟩)
 .generalize b.data.toList=l
  induction l with
  |nil=>simp[aq]
  |cons z l ih=>exact⟨[_],_,rfl,by simp[aw],ih⟩
 .rw[yak]at hu;obtain⟨z,h1,rfl⟩:=yn.1 hu
  have hj:j < b.size:=by
   grind
  rw[yat];have:=Go.Lib.bytesWorld_cell σ.w e b j hj;grind
 .exact ZFy ok' (ok.new _ (yj _)) (EF ok)
theorem ZLf(ok:Ok σ)(yK:aK σ ts a)(h:be P o ts hs=ab (C,d,hs'))(hc:ba C):XE P o a σ d σ.H:=by
 have h0:=h;unfold be at h;split at h
 .rename_i x ho
  have main:d=ZB P ts o.type x->XE P o a σ d σ.H:=λe=>by
   subst e;exact Zl (v:=a.eval x) ok (by simp[execOp,ho]) (Zs yK _ _)
  all_goals grind
 .rename_i x ho
  have main:d=ZB P ts o.type x->XE P o a σ d σ.H:=λe=>by
   subst e;exact Zl (v:=a.eval x) ok (by simp[execOp,ho]) (Zs yK _ _)
  all_goals grind
 .rename_i c x y ho;split at h
  .rename_i t β hs1 hcv;cases h;have hb:=Zs (P:=P) yK 0 c;rw[hcv]at hb;have hb':=Y5 hb;have ht:t=β:=hc.1;subst ht;refine Zl (v:=if t then a.eval x else a.eval y) ok (by simp[execOp,ho,hb',asBool]) ?_
   cases t
   .exact Zs yK _ _
   .exact Zs yK _ _
  .cases h
 .rename_i x ho;split at h
  .rename_i i f p hx;cases h;have hv:=Zs (P:=P) yK 0 x;rw[hx]at hv;obtain⟨b,h1,h2,h3⟩:=lP hv;exact Zl (v:=a.eval x) ok (by simp[execOp,ho,h3]) hv
  .rename_i i v f p hx;cases h;have hv:=Zs (P:=P) yK 0 x;rw[hx]at hv;obtain⟨b,o',h3,_⟩:=vf hv;exact Zl (v:=a.eval x) ok (by simp[execOp,ho,h3]) hv
  .rename_i y hx;cases h;have hv:=Zs (P:=P) yK 0 x;rw[hx]at hv;obtain⟨b,o',us,h3,_⟩:=ru hv;exact Zl (v:=a.eval x) ok (by simp[execOp,ho,h3]) hv
  .rename_i f cap hx;cases h;have hv:=Zs (P:=P) yK 0 x;rw[hx]at hv;obtain⟨fs,cs,h3,_⟩:=rx hv;exact Zl (v:=a.eval x) ok (by simp[execOp,ho,h3]) hv
  .cases h
 .rename_i op t x y yt ho;obtain⟨v,h1,h2,h3⟩:=ZFE (P:=P) h hc (Zs yK t x) (Zs yK yt y) x y;exact Zl ok (by simp[execOp,ho,h1,h2]) h3
 .rename_i t x ho;split at h
  .rename_i b hx;cases h;have hv:=Zs (P:=P) yK 0 x;rw[hx]at hv;exact Zl (v:=.bool (!b)) ok (by simp[execOp,ho,Y5 hv,Op.unary]) (Yr _)
  .cases h
 .rename_i t x ho;split at h
  .rename_i k n hx;have hv:=Zs (P:=P) yK 0 x;rw[hx]at hv;exact Zl ok (by simp[execOp,ho,ZY hv,Op.unary,Op.intArith]) (ri h hc σ)
  .cases h
 .rename_i t x ho;split at h
  .rename_i k n hx;have hv:=Zs (P:=P) yK 0 x;rw[hx]at hv;split at h
   .cases h
   .rename_i hk;cases h;exact Zl ok (by simp[execOp,ho,ZY hv,Op.unary,hk,intBits_xor]) (ZC k _)
  .cases h
 .rename_i src dst x ho;split at h
  .rename_i d1 k k' n hs1 hd1 hx;have hv:=Zs (P:=P) yK src x;rw[hx]at hv;refine Zl ok ?_ (ri h hc σ);simp[execOp,ho,ZY hv,convert,run_underlying hs1,run_underlying hd1,Conv.intToInt]
  .rename_i e nn s xs hs1 hd1 hx;have hv:=Zs (P:=P) yK src x;rw[hx]at hv;split at h
   .rename_i b hs2 he;split at h
    .rename_i h1;subst h1;cases h;refine Zl (v:=.string b) ok ?_ (by simp[yH,Dv.isAgg,Pl.isAgg,yG,aw]);have zU:=ZFF (P:=P) hs1 he hd1 hv hc.1;simp[execOp,ho,zU]
    .cases h
   .cases h
  .rename_i e id nn s xs hs1 hd1 hx;have hv:=Zs (P:=P) yK src x;rw[hx]at hv;split at h
   .rename_i b hs2 he;split at h
    .rename_i h1;subst h1;cases h;refine Zl (v:=.string b) ok ?_ (by simp[yH,Dv.isAgg,Pl.isAgg,yG,aw]);have zU:=ZFF (P:=P) hs1 he hd1 (oO hv) hc.1;simp[execOp,ho,zU]
    .cases h
   .cases h
  .rename_i e b hs1 hd1 hx;have hv:=Zs (P:=P) yK src x;rw[hx]at hv;split at h
   .rename_i he;cases h;exact ZHW ok ho hs1 hd1 he (oN hv) hc.1
   .cases h
  .cases h
 .rename_i t x ho;have hv:=Zs (P:=P) yK 0 x;split at h
  .rename_i n e nn s xs hu hx;rw[hx]at hv;split at h
   .rename_i hn;cases h;exact ZJE ok ho hu hv (by simpa using hn) hc.1
   .cases h
  .rename_i n e id nn s xs hu hx;rw[hx]at hv;split at h
   .rename_i hn;cases h;exact ZJE ok ho hu (oO hv) (by simpa using hn) hc.1
   .cases h
  .cases h
 .rename_i f first captured ho
  split at h
  .rename_i hf;cases h;rw[yi,yP]at hf;obtain⟨hf,hlt⟩:=hf;have:first= #[]:=by simpa using hf
   subst this;refine Zl (v:=.func (.func f) #[] (captured.map a.eval)) ok (by simp[execOp,ho,Instr.makeFunc]) ?_;rw[Zi rfl];simp only[yG];refine⟨#[],captured.map a.eval, ?_,yW hlt,by rw[Array.empty_append,ycu];exact DX _ _ (λx=>Zs yK 0 x) _⟩;unfold dY;grind
  .split at h
   .rename_i hc2;cases h;have:captured= #[]:=by simpa using hc2
    subst this;have hge:¬f+big < big:=Nat.not_lt.2 (Nat.le_add_left big f);refine Zl (v:=.func (.func f) (first.map a.eval) #[]) ok (by simp[execOp,ho,Instr.makeFunc]) ?_
    rw[Zi rfl];simp only[yG];refine⟨first.map a.eval, #[], ?_,yX hge,by rw[Array.append_empty,ycu];exact DX _ _ (λx=>Zs yK 0 x) _⟩
    unfold dY;rw[yX hge,Nat.add_sub_cancel]
   .cases h
 .rename_i t x ho;split at h
  .cases h
  .rename_i u hu hne;cases h;obtain⟨h1,h2⟩:=Zs (P:=P) yK t x;refine Zl (v:=.iface t (a.eval x)) ok ?_ ?_
   .have e:(Instr.makeInterface t (a.eval x)).run P σ.w=.ok (.iface t (a.eval x)) σ.w:=by
     simp only[Instr.makeInterface,Sem.run_bind,run_underlying hne,Result.andThen_ok];rfl
    simp[execOp,ho,e]
   .rw[Zi rfl];simp only[yG];grind
  .cases h
 .rename_i t x i ho;simp only[yn,yz]at h;obtain⟨d1,h1,rfl,rfl,rfl⟩:=h;obtain⟨u,h2,h3⟩:=ZBv h1 (Zs (P:=P) yK t x);exact Zl ok (by simp[execOp,ho,h2]) h3
 .rename_i t x i ho;have hv:=Zs (P:=P) yK 0 x;split at h
  .rename_i fs id off yM hu hx;rw[hx]at hv;split at h
   .rename_i f hf;split at h
    .rename_i hk;simp only[yi,yE]at hk;cases h;obtain⟨b,h1,h2,h3⟩:=lP hv;refine Zl (v:=.pointer (ab ⟨b,off+f.offset,ae⟩)) ok ?_ ?_
     .have hs:=Z6 (P:=P) hk.2 σ.w
      have hr:(fieldPlace ⟨b,off,ae⟩ f).run P σ.w=.ok ⟨b,off+f.offset,ae⟩ σ.w:=by
       unfold fieldPlace;rw[Sem.run_bind,hs];simp only[Result.andThen_ok,hk.1,if_false,Sem.run_pure,Addr.bw]
      simp[execOp,ho,h3,Instr.fieldAt,run_underlying hu,hf,Instr.sureAddr,hr]
     .rw[Zi rfl];simp only[yG];grind
    .cases h
   .cases h
  .rename_i fs id v off yM hu hx;rw[hx]at hv;split at h
   .rename_i f hf;split at h
    .rename_i hk;simp only[yi,yE]at hk;cases h;obtain⟨b,o',h3,h4⟩:=vf hv;refine Zl (v:=.pointer (ab ⟨b,o'+f.offset,ae⟩)) ok ?_ (DY (DZ h4));have hs:=Z6 (P:=P) hk.2 σ.w
     have hr:(fieldPlace ⟨b,o',ae⟩ f).run P σ.w=.ok ⟨b,o'+f.offset,ae⟩ σ.w:=by
      unfold fieldPlace;rw[Sem.run_bind,hs];simp only[Result.andThen_ok,hk.1,if_false,Sem.run_pure,Addr.bw]
     simp[execOp,ho,h3,Instr.fieldAt,run_underlying hu,hf,Instr.sureAddr,hr]
    .cases h
   .cases h
  .rename_i fs y hu hx;rw[hx]at hv;split at h
   .rename_i z hz;cases h;obtain⟨b,off,us,h1,h2,h3⟩:=ru hv;unfold iM at hz;rw[hu]at hz;split at hz
    .rename_i fs' xs hfs hxs;cases hfs;cases hxs;split at hz
     .rename_i y' hy;split at hz
      .rename_i hok;cases hz;unfold lL at hok;split at hok
       .rename_i f hf;simp only[yi,yT,yE]at hok;obtain⟨⟨⟨⟨⟨k1,k2⟩,k3⟩,k4⟩,k5⟩,k6⟩:=hok;simp only[aw]at h2;obtain⟨p1,p2,p3,rfl,e1,e2,_⟩:=kL h2 hy;refine Zl (v:=.pointer (ab ⟨b,off+f.offset,ae⟩)) ok ?_ ?_
        .have hs:=Z6 (P:=P) k3 σ.w
         have hr:(fieldPlace ⟨b,off,ae⟩ f).run P σ.w=.ok ⟨b,off+f.offset,ae⟩ σ.w:=by
          unfold fieldPlace;rw[Sem.run_bind,hs];simp only[Result.andThen_ok,k2,k6,if_false,Sem.run_pure,Addr.bw]
         simp[execOp,ho,h1,Instr.fieldAt,run_underlying hu,hf,Instr.sureAddr,hr]
        .rw[Zi rfl];simp only[yG];refine⟨b,_,p2,rfl,e2, ?_⟩;have:=(VJ.append (VJ.append h3).2).1;grind
       .cases hok
      .cases hz
     .cases hz
    all_goals grind
   .cases h
  .cases h
 .rename_i t x ix ho;exact ZFz ok yK ho h0 hc
 .rename_i t x ix ho;have hv:=Zs (P:=P) yK t x;have hi:=Zs (P:=P) yK 0 ix;split at h
  .rename_i n e n' s xs k i hu hx hix;rw[hx]at hv;rw[hix]at hi;split at h
   .rename_i y hs1;split at h
    .rename_i hk;simp only[yi,yP,yT,yE]at hk;obtain⟨⟨⟨⟨⟨rfl,k1⟩,k2⟩,k3⟩,k4⟩,k5⟩:=hk;cases h;obtain⟨c1,c2,_⟩:=hc;obtain⟨cs,hcs,hr⟩:=(Ye rfl).1 hv;simp only[yG,aw]at hr;obtain⟨r1,r2,r3⟩:=hr;obtain⟨p1,p2,p3,ecs,e1,e2,_⟩:=kL r3 c2;have hlt:i.toNat < xs.length:=(yo.1 c2).1;have hys:y.size=s:=r2 y (ybv c2)
     have hpl:p1.length=i.toNat*s:=by
      rw[e1,aM (QY r2 _),yx,ybc (Nat.le_of_lt hlt)]
     obtain⟨v,h1,h2⟩:=kM (P:=P) (σ:=σ) (t:=e) (d:=.p y) ecs (by simpa[yG] using e2) (by rw[k1];exact hys.symm) k4 k3 k2 (by show y.size≠0;rw[hys];exact k5);refine Zl ok ?_ h2;have hb:0<=i/\i < (n:Int):=⟨c1,by omega⟩;rw[hpl, <-k1]at h1;simp[execOp,ho,hcs,ZY hi,Instr.index,asIntOf,run_underlying hu,hb,Z6 k4,h1]
    .cases h
   .cases h
  .rename_i s k i hu hx hix;rw[hx]at hv;rw[hix]at hi;split at h
   .rename_i b hs1;cases h;obtain⟨c1,c2,_⟩:=hc;obtain⟨x0,h1,rfl⟩:=yn.1 c2;refine Zl ok (v:=.int .u8 x0.toNat) ?_ (ZC _ _)
    have hg:s[i.toNat]? =ab x0:=by
     rw[<-h1];have hlt:i.toNat < s.data.toList.length:=(yo.1 h1).1;have hlt':i.toNat < s.size:=by simpa using hlt
     rw[getElem?_pos s i.toNat hlt',yac hlt];rfl
    simp[execOp,ho,oN hv,ZY hi,Instr.index,asIntOf,run_underlying hu,c1,hg]
   .cases h
  .cases h
 .rename_i t x lo hi ho;exact ZPG ok yK ho h0 hc
 .rename_i t x lo hi mx ho;exact ZME ok yK ho h0 hc
 .rename_i x i ho;split at h
  .rename_i ds hx;simp only[yn,yz]at h;obtain⟨d1,h1,rfl,rfl,rfl⟩:=h;have hv:=Zs (P:=P) yK 0 x;rw[hx,Zi rfl]at hv;simp only[yG,List.cons.injEq,and_true]at hv;obtain⟨cs,hv,hr⟩:=hv;obtain⟨v,h2,h3⟩:=DW hr h1;have h2':cs[i]? =ab v:=by simpa using h2
   exact Zl ok (by simp[execOp,ho,hv,Instr.extract,h2']) h3
  .cases h
 .rename_i t x ho;split at h
  .rename_i y hx;split at h
   .rename_i hk;simp only[yi,yT,yP]at hk;obtain⟨⟨⟨k1,k2⟩,k3⟩,k4⟩:=hk;cases h;have hv:=Zs (P:=P) yK 0 x;rw[hx]at hv;obtain⟨b,off,us,h1,h2,h3⟩:=ru hv;obtain⟨v,h4,h5⟩:=uZ (P:=P) (σ:=σ) (d:=.p y) (by simpa[yG] using h2) (λj u hu=>(h3 j u hu).1) k1 k4 k3 k2;exact Zl ok (by simp[execOp,ho,h1,Instr.loadAt,Instr.sureAddr,h4]) h5
   .cases h
  .cases h
 .rename_i t parts ho;exact ZPH ok yK ho h0
 .rename_i c ho;split at h
  .rename_i yS;split at h
   .rename_i x t yQ htys;have hv:=Zs (P:=P) yK t x;split at h
    .rename_i e nn s xs hu hx;rw[hx]at hv;cases h;obtain⟨_,A,cp,h1,_⟩:=WY hv;exact Zl ok (nB ho yS yQ htys (by rw[h1];simp[Builtin.len_,run_underlying hu];rfl)) (ZC _ _)
    .rename_i e id nn s xs hu hx;rw[hx]at hv;cases h;obtain⟨_,A,cp,h1,_⟩:=lO hv;exact Zl ok (nB ho yS yQ htys (by rw[h1];simp[Builtin.len_,run_underlying hu];rfl)) (ZC _ _)
    .rename_i e id off yM s lo n hu hx;rw[hx]at hv;cases h;obtain⟨b,cp,aa,_,_,h1,_⟩:=nw hv;exact Zl ok (nB ho yS yQ htys (by rw[h1];simp[Builtin.len_,run_underlying hu];rfl)) (ZC _ _)
    .rename_i e id v s lo n hu hx;rw[hx]at hv;cases h;obtain⟨A,cp,h1,_⟩:=jZ hv;exact Zl ok (nB ho yS yQ htys (by rw[h1];simp[Builtin.len_,run_underlying hu];rfl)) (ZC _ _)
    .rename_i dd n e hu;cases h;exact Zl ok (nB ho yS yQ htys (by simp[Builtin.len_,run_underlying hu];rfl)) (ZC _ _)
    .rename_i s hu hx;rw[hx]at hv;cases h;exact Zl ok (nB ho yS yQ htys (by rw[oN hv];simp[Builtin.len_,run_underlying hu];rfl)) (ZC _ _)
    .cases h
   .cases h
  .rename_i yS;split at h
   .rename_i x y t u hs1 yQ htys;split at h
    .rename_i e s hu hx;split at h
     .rename_i i ys hi hsrc;split at h
      .rename_i hk;simp only[yi,yE]at hk;cases h;exact ZBw ok yK ho yS yQ htys hu hx hi hk.1 hk.2 hsrc hc.1 hc.2.1
      .cases h
     .cases h
    .cases h
   .cases h
  .rename_i f yS;split at h
   .rename_i g cap r hs1 hf;split at h
    .rename_i hk;simp only[yi,yT]at hk;split at h
     .rename_i args' r1 yQ hr;simp only[yp,yz]at h;obtain⟨rfl,rfl,rfl⟩:=h
      have:=Zzl (P:=P) (ids:=[]) (Hin:=[]) (H':=[]) (Hb:=[]) (r:=r) (r':=r) ok yK ho yS hf hk.1 hk.2 rfl (yj _) (by rw[rE];exact yQ) rfl
       (nF r r1 hr) rfl hc.1
      rwa [ZwW]at this
     .cases h
    .cases h
   .rename_i g x y hs1 hf;split at h
    .rename_i hk;simp only[yi,yT]at hk;split at h
     .rename_i n1 s xs n2 s' ys yQ;split at h
      .rename_i h1;obtain⟨h1,h2⟩:=h1;subst h1;subst h2;cases h;exact ZLe ok yK ho yS hf hk.1 hk.2 yQ hc.1 hc.2.1
      .cases h
     .cases h
    .cases h
   .cases h
  .cases h
 .rename_i t len parts ho;split at h
  .rename_i hs1;split at h
   .rename_i e hu;split at h
    .rename_i i xs hi hl;split at h
     .rename_i hk;simp only[yi,yE,yP]at hk;cases h;exact vb (Zzh ok yK ho hu hi hk.1.1 hk.1.2 hk.2 hl) (Wk.p (bJ.rk (by rw[<-Pl.cj];exact cq _))) (cg.refl _)
     .cases h
    .cases h
   .cases h
  .rename_i hs1;split at h
   .rename_i e hu;split at h
    .rename_i i xs hi hl;split at h
     .rename_i hk;simp only[yi,yE,yP]at hk;cases h;exact Zzh ok yK ho hu hi hk.1.1 hk.1.2 hk.2 hl
     .cases h
    .cases h
   .cases h
  .cases h
 .cases h
theorem ZLg{x y:ym}{t u:yc}{c:Call}{w':World}(ho:o.op=.call c)(hc:c.callee=.builtin .copy)(yQ:c.args.toList=[x,y])(htys:c.argTypes.toList=[t,u]){v:yh}
 (h:(Builtin.copy_ #[t,u] o.type #[a.eval x,a.eval y]).run P σ.w=.ok v w'):(execOp a.eval o).run P σ.w=.ok (.value v) w':=by
 have h1:c.args= #[x,y]:=by rw[<-ycl (xs:=c.args),yQ]
 have h2:c.argTypes= #[t,u]:=by rw[<-ycl (xs:=c.argTypes),htys]
 simp[execOp,ho,resolve,hc,h1,h2,invoke,builtin,h]
theorem vu(ok:Ok σ){id v v' s lo n N:Nat}{st:Bool}{e:yc}{zs:yL Pl}{u:yh}(hx:yH σ (.rv id v s lo n) u)(hH:σ.H[id]? =ab (.row v' s st e (.p (.arr N s zs))))(hv:v'=v)(hle:lo+n<=N):
 ∃A c,u=.slice A n c/\n<=c/\c<=maxLen/\(A=ae->c=0)/\aR s ((zs.drop lo).take n)/\((zs.drop lo).take n).length=n/\∃q,aq σ.w σ.aU ((zs.drop lo).take n) q/\q.length=n*s/\
  (0 < n->∃b cur cap,A=ab ⟨b,lo*s,ae⟩/\σ.m[id]? =ab (ab b)/\σ.w.heap[b]? =ab (.cells cur e (0,0))/\cur.size=cap*s/\∀(j:Nat)(u:yh),q[j]? =ab u->σ.w.cell? ⟨b,lo*s+j,ae⟩=ab u):=by
 obtain⟨A,c,rfl,h2,h3,h4,h5,v2,s2,st2,e2,d2,h6,h7,h8⟩:=jZ hx;rw[hH]at h6;cases h6;obtain⟨_,h9⟩:=h8 hv;have hidlt:id < σ.m.length:=by rw[ok.len];exact(yo.1 hH).1
 have hmi:σ.m[id]? =ab σ.m[id]:=yac hidlt;obtain⟨N',hN',hent⟩:=ok.cY id _ _ hH hmi;simp only[aY,if_true,yp]at hN';subst hN';by_cases hn:n=0
 .subst hn;refine⟨A,c,rfl,h2,h3,h4, ?_,by simp,[],by simp[aq],by simp,λh=>absurd h (by omega)⟩;simp only[List.take_zero];intro x hx;cases hx
 have hpos:0 < n:=Nat.pos_of_ne_zero hn;rcases h9 with⟨_,_,hz⟩|⟨b,cur,k1,k2,k3,k4⟩
 .omega
 rw[hmi]at k1;rcases hent with⟨hh,_⟩|⟨b',cur',cap,hh,g2,g4,g5,g6,g7⟩
 .rw[hh]at k1;cases k1
 rw[hh]at k1;cases k1;rw[k2]at g2;cases g2;simp only[yG,aw]at g7;obtain⟨hxl,hxs,h7⟩:=g7
 have hsplit:zs=zs.take lo++((zs.drop lo).take n++zs.drop (lo+n)):=by
  have e1:zs.drop (lo+n)=(zs.drop lo).drop n:=by rw[List.drop_drop]
  rw[e1,ybd,ybd]
 rw[hsplit]at h7;obtain⟨q1,q23,e1,r1,r23⟩:=Yh h7;obtain⟨q2,q3,rfl,r2,r3⟩:=Yh r23;have hs1:aR s (zs.take lo):=λz hz=>hxs z (ybn hz);have hsy:aR s ((zs.drop lo).take n):=λz hz=>hxs z (ycy (ybn hz));have ly:((zs.drop lo).take n).length=n:=by rw[yx,ybw,ybc (by omega)]
 have l1:q1.length=lo*s:=by rw[aL _ _ r1,aM hs1,yx,ybc (by omega)]
 have l2:q2.length=n*s:=by rw[aL _ _ r2,aM hsy,ly]
 refine⟨A,c,rfl,h2,h3,h4,hsy,ly,q2,r2,l2,λ_=>⟨b,cur,cap,k4 (by omega),by rw[hmi,hh],k2,g4,λj u hu=> ?_⟩⟩;rw[cell_of_row σ.w b _ cur e (0,0) k2, <-ycf];have hj:j < q2.length:=(yo.1 hu).1
 have e2:(cur.toList.take (N*s))[lo*s+j]? =ab u:=by
  rw[e1,yaq (by omega),l1,Nat.add_sub_cancel_left,ybe hj];exact hu
 rw[ycr]at e2;split at e2
 .exact e2
 .cases e2
theorem vv(ok:Ok σ)(yK:aK σ ts a){s:Nat}{u ut:yc}{y:ym}{ys:yL Pl}{hs1:yL ar}{C1:yL Prop}(h:jn P s u σ.H hs (ZB P ts ut y)=ab (C1,ys,hs1))(hc:ba C1):
 ny P σ s u (a.eval y) ys:=by
 unfold jn at h;split at h
 .rename_i id off yM s' lo n hd;have hxv:=Zs (P:=P) yK ut y;rw[hd]at hxv;obtain⟨b,cap,A,hm,hv,hve,hcap,hcm,hA⟩:=nw hxv;split at h
  .rename_i e dd st hu hH;split at h
   .rename_i C2 off' N s2 zs hs2 hg;split at h
    .rename_i hk;simp only[yi,yP]at hk;obtain⟨rfl,rfl⟩:=hk;simp only[yp,yz]at h;obtain⟨rfl,rfl,rfl⟩:=h;obtain⟨c1,rfl,c2,_⟩:=Zr.1 hc;obtain⟨b',cs,t',h1,h2,h3,h4⟩:=ok.cY id _ _ hH hm;cases h1;obtain⟨p1,p2,p3,h5,h6,h7,_⟩:=lQ yM dd hs hs2 C2 off' (.p (.arr N s2 zs)) _ hg c1 h3;simp only[yG,aw]at h7;obtain⟨hxl,hxs,h7⟩:=h7
     have hsplit:zs=zs.take lo++((zs.drop lo).take n++zs.drop (lo+n)):=by
      have e1:zs.drop (lo+n)=(zs.drop lo).drop n:=by rw[List.drop_drop]
      rw[e1,ybd,ybd]
     rw[hsplit]at h7;obtain⟨q1,q23,rfl,r1,r23⟩:=Yh h7;obtain⟨q2,q3,rfl,r2,r3⟩:=Yh r23;have hs1:aR s2 (zs.take lo):=λz hz=>hxs z (ybn hz);have hsy:aR s2 ((zs.drop lo).take n):=λz hz=>hxs z (ycy (ybn hz));have ly:((zs.drop lo).take n).length=n:=by rw[yx,ybw,ybc (by omega)]
     have l1:q1.length=lo*s2:=by rw[aL _ _ r1,aM hs1,yx,ybc (by omega)]
     have l2:q2.length=n*s2:=by rw[aL _ _ r2,aM hsy,ly]
     rw[hve];refine⟨q2,⟨.inl ⟨_,hu⟩,λw'=>by rw[ly];rfl, ?_, ?_,by rw[ly];exact l2⟩,r2,λ_=>hsy⟩
     all_goals
      rw[ly];rcases ycd n with h0|h0
      .subst h0;have hz:q2=[]:=ybh (by rw[l2];simp);rw[hz];simp[Builtin.firstCells,loadCells,loadCellsFrom]
      .rw[hA h0];refine run_firstCells_some _ s2 _ ⟨b,off'+lo*s2,ae⟩ _ cap q2 l2 (λj v hv=> ?_);rw[Addr.bw];have hcell:σ.w.cell? ⟨b,off'+lo*s2+j,ae⟩=cs[off'+lo*s2+j]? :=cell_of_row σ.w b _ cs t' (0,0) h2
       first
        |(rw[hcell, <-ycf]
          have h5':cs.toList.take dd.size=(p1++q1)++(q2++(q3++p3)):=by rw[h5];simp
          have hpl:(p1++q1).length=off'+lo*s2:=by rw[yl,h6,l1]
          have hj:j < q2.length:=(yo.1 hv).1
          have e2:(cs.toList.take dd.size)[off'+lo*s2+j]? =ab v:=by
           rw[h5',yaq (by omega),hpl,Nat.add_sub_cancel_left,ybe hj];exact hv
          rw[ycr]at e2;split at e2
          .exact e2
          .cases e2)
        |(show σ.w.drew.cell? _=_
          have hcell2:σ.w.drew.cell? ⟨b,off'+lo*s2+j,ae⟩=σ.w.cell? ⟨b,off'+lo*s2+j,ae⟩:=rfl;rw[hcell2,hcell, <-ycf];have h5':cs.toList.take dd.size=(p1++q1)++(q2++(q3++p3)):=by rw[h5];simp
          have hpl:(p1++q1).length=off'+lo*s2:=by rw[yl,h6,l1]
          have hj:j < q2.length:=(yo.1 hv).1
          have e2:(cs.toList.take dd.size)[off'+lo*s2+j]? =ab v:=by
           rw[h5',yaq (by omega),hpl,Nat.add_sub_cancel_left,ybe hj];exact hv
          rw[ycr]at e2;split at e2
          .exact e2
          .cases e2)
    .cases h
   .cases h
  .cases h
 .rename_i id v s' lo n hd;have hxv:=Zs (P:=P) yK ut y;rw[hd]at hxv;split at h
  .rename_i e v' s2 st e' N s3 zs hu hH;split at h
   .rename_i hk;simp only[yi,yP,yT]at hk;obtain⟨⟨⟨rfl,rfl⟩,rfl⟩,hv⟩:=hk;simp only[yp,yz]at h;obtain⟨rfl,rfl,rfl⟩:=h;obtain⟨A,cap,hve,hcap,hcm,hA,hsy,ly,q2,r2,l2,hq⟩:=vu ok hxv hH hv hc.1;rw[hve];refine⟨q2,⟨.inl ⟨_,hu⟩,λw'=>by rw[ly];rfl, ?_, ?_,by rw[ly];exact l2⟩,r2,λ_=>hsy⟩
    all_goals
     rw[ly];rcases ycd n with h0|h0
     .subst h0;have hz:q2=[]:=ybh (by rw[l2];simp);rw[hz];cases A <;> simp[Builtin.firstCells,loadCells,loadCellsFrom]
     .obtain⟨b,cur,cp,rfl,_,_,_,hcell⟩:=hq h0;refine run_firstCells_some _ _ _ ⟨b,_,ae⟩ _ cap q2 l2 (λj v hv=> ?_);rw[Addr.bw];exact hcell j v hv
   .cases h
  .cases h
 .simp only[yn,yz]at h;obtain⟨zs,h1,rfl,rfl,rfl⟩:=h;exact rz (P:=P) yK h1
theorem ZR6(ok:Ok σ)(yK:aK σ ts a){c:Call}{x y:ym}{t u e:yc}{id off s lo n N:Nat}{yM:yL Nat}{dd dd':Dv}{xs ys:yL Pl}{C1:yL Prop}{off':Nat}(ho:o.op=.call c)(yS:c.callee=.builtin .copy)
 (yQ:c.args.toList=[x,y]) (htys:c.argTypes.toList=[t,u]) (ht:P.underlying t=ab (.slice e)) (hx:ZB P ts t x=.view id off yM s lo n) (hsrc:iO P s u (ZB P ts u y)=ab ys)
 (hH:σ.H[id]? =ab (.var dd af)) (hg:Yy dd yM hs=ab (C1,off',.p (.arr N s xs),hs')) (hc:ba C1) (he:off'=off) (hp:VS (.p (.arr N s (oL xs ys lo))) dd yM hs=ab dd')
 (hce:P.cellsOf e=s) (hi:(P.info? e).isSome=af) (hm':ys.length<=n) (hn:lo+n<=N):XE P o a σ (.p (.int .i64 (ys.length:Int))) (σ.H.set id (.var dd' af)):=by
 subst he;have hxv:=Zs (P:=P) yK t x;rw[hx]at hxv;obtain⟨b,cap,A,hm,hv,hxv,hcap,hcm,hA⟩:=nw hxv;obtain⟨zW,hS,hnr,zO⟩:=rz (P:=P) yK hsrc;obtain⟨b',cs,t',h1,h2,h3,h4⟩:=ok.cY id _ _ hH hm;cases h1;obtain⟨p1,p2,p3,h5,h6,h7,h8⟩:=lQ yM dd hs hs' C1 off' (.p (.arr N s xs)) _ hg hc h3;simp only[yG,aw]at h7;obtain⟨hxl,hxs,h7⟩:=h7;have hlo:lo+ys.length<=xs.length:=by omega
 have hsplit:xs=xs.take lo++((xs.drop lo).take ys.length++xs.drop (lo+ys.length)):=by
  have e1:xs.drop (lo+ys.length)=(xs.drop lo).drop ys.length:=by rw[List.drop_drop]
  rw[e1,ybd,ybd]
 rw[hsplit]at h7;obtain⟨q1,q23,rfl,r1,r23⟩:=Yh h7;obtain⟨q2,q3,rfl,r2,r3⟩:=Yh r23;have hs1:aR s (xs.take lo):=λz hz=>hxs z (ybn hz);have hs2:aR s ((xs.drop lo).take ys.length):=λz hz=>hxs z (ycy (ybn hz));have hs3:aR s (xs.drop (lo+ys.length)):=λz hz=>hxs z (ycy hz);have l1:q1.length=lo*s:=by rw[aL _ _ r1,aM hs1,yx,ybc (by omega)]
 have l2:q2.length=ys.length*s:=by rw[aL _ _ r2,aM hs2,yx,ybw,ybc (by omega)]
 have ln:zW.length=ys.length*s:=hS.cells
 have hys:aR s ys:=by
  by_cases h0:ys=[]
  .subst h0;intro z hz;cases hz
  .exact zO h0
 have hcells:yG σ (.p (.arr N s (oL xs ys lo))) (q1++(zW++q3)):=by
  simp only[yG,aw];refine⟨?_, ?_, ?_⟩
  .unfold oL;simp only[yl,yx,ybw];omega
  .exact VT hs1 (VT hys hs3)
  .exact Ym r1 (Ym hnr r3)
 obtain⟨h9,h10⟩:=h8 _ dd' _ hp rfl hcells;have h5':cs.toList.take dd.size=(p1++q1)++(q2++(q3++p3)):=by rw[h5];simp
 have hll:zW.length=q2.length:=by rw[ln,l2]
 obtain⟨k1,k2⟩:=rB h5' hll h4;have hpl:(p1++q1).length=off'+lo*s:=by rw[yl,h6,l1]
 rw[hpl]at k1 k2
 have hnl:off'+lo*s+zW.length<=cs.size:=by
  have:=congrArg List.length h5';simp only[yx,yby,yl]at this;omega
 have hone:∀v,v∈zW->v.oneCell'=af:=cf _ _ hnr;have hst:=run_storeCells_at P b (off'+lo*s) t' zW 0 cs σ.w h2 (by simpa using hnl) hone;simp only[ybu]at hst;let ncs:Array yh:=(cs.toList.take (off'+lo*s)++zW++cs.toList.drop (off'+lo*s+zW.length)).toArray
 have hstA:(storeCells A zW 0).run P σ.w=.ok () (σ.w.setRow b ncs):=by
  by_cases h0:ys.length=0
  .have hz:zW=[]:=ybh (by rw[ln,h0];simp)
   have e1:ncs=cs:=by
    simp only[ncs,hz,List.append_nil,List.length_nil,ybu,ybd,ycl]
   rw[e1,setRow_self σ.w b cs t' (0,0) h2,hz];simp[storeCells]
  .rw[hA (by omega)];exact hst
 let σ':Sg:={ σ with m:=σ.m.set id (ab b),H:=σ.H.set id (.var dd' af),w:=σ.w.setRow b ncs};have zB:σ'.w.heap[b]? =ab (.cells ncs t' (0,0)):=setRow_heap σ.w b cs _ t' _ h2;have hoth:∀j,b≠j->σ'.w.heap[j]? =σ.w.heap[j]? :=λj hj=>setRow_other σ.w b j _ (Ne.symm hj)
 obtain⟨to,ok'⟩:=Wg (σ':=σ') (mi:=ab b) (mi':=ab b) ok hH hm rfl rfl rfl rfl rfl rfl rfl (by simp[σ'])
  (λj hj hne=>hoth j (λhh=>hne (by rw[hh]))) (λb' o v _ hu _=>by cases hu) (λo _ hu=>by cases hu) (.inl rfl) (λ_=>⟨rfl,dd',af,rfl⟩) (λ⟨d,st,h⟩=>by cases h)
  (λs e xs h=>by cases h) (λleaf=>⟨b,ncs,t',rfl,zB,by rw[h10];show yG σ' dd' (ncs.toList.take dd.size);rw[show ncs.toList.take dd.size=p1++((q1++(zW++q3))++p3) from by rw[k1];simp];exact Yi leaf dd' _ h9,by
    rw[h10];show dd.size<=ncs.size;have:ncs.size=cs.size:=k2;omega⟩)
 refine ZP (σ':=σ') (v:=goInt ys.length) (ZLg ho yS yQ htys ?_) to ok' (by rw[Zi rfl];simp[yG,aw,goInt])
 cases hi':P.info? e with
 |none=>simp[hi']at hi
 |some i=>
  have hsz:i.size=s:=by rw[<-hce];simp[Program.cellsOf,hi']
  have hmin:Nat.min ys.length n=ys.length:=ybc hm';rw[hxv];simp[Builtin.copy_,run_underlying ht,hS.len,hmin,sizeOf,typeInfo,hi',hsz,hS.first,hstA,goInt,σ']
end
end Go.Ev
end
section
namespace Go.Ev
def rF:yh->Bool
 |.int _ _=>af
 |.bool _=>af
 |_=>ag
mutual
theorem rG{w w':World}{S S':Nat->Nat->Prop}:∀(x:Pl)(us vs:yL yh),x.flat=af->aw w S x us->aw w' S' x vs->us=vs/\∀u,u∈us->rF u=af
 |.int _ _,us,vs,_,h,k=>by simp only[aw]at h k;subst h;subst k;exact⟨rfl,λu hu=>by rw[yas.1 hu];rfl⟩
 |.bool _,us,vs,_,h,k=>by simp only[aw]at h k;subst h;subst k;exact⟨rfl,λu hu=>by rw[yas.1 hu];rfl⟩
 |.str _,_,_,h,_,_=>by simp[Pl.flat]at h
 |.bE,_,_,h,_,_=>by simp[Pl.flat]at h
 |.fn0,_,_,h,_,_=>by simp[Pl.flat]at h
 |.dE,_,_,h,_,_=>by simp[Pl.flat]at h
 |.bU,_,_,h,_,_=>by simp[Pl.flat]at h
 |.fS _,_,_,h,_,_=>by simp[Pl.flat]at h
 |.agg xs,us,vs,hf,h,k=>by
  simp only[Pl.flat]at hf;simp only[aw]at h k
  exact dg xs us vs hf h k
 |.arr n s xs,us,vs,hf,h,k=>by
  simp only[Pl.flat]at hf;simp only[aw]at h k
  exact dg xs us vs hf h.2.2 k.2.2
 |.sl _ _ _,_,_,h,_,_=>by simp[Pl.flat]at h
 |.iface _ _,_,_,h,_,_=>by simp[Pl.flat]at h
theorem dg{w w':World}{S S':Nat->Nat->Prop}:∀(xs:yL Pl)(us vs:yL yh),Pl.aP xs=af->aq w S xs us->aq w' S' xs vs->us=vs/\∀u,u∈us->rF u=af
 |[],us,vs,_,h,k=>by simp only[aq]at h k;subst h;subst k;exact⟨rfl,λu hu=>by cases hu⟩
 |x::xs,us,vs,hf,h,k=>by
  simp only[Pl.aP,yi]at hf;simp only[aq]at h k;obtain⟨a,b,rfl,h1,h2⟩:=h;obtain⟨c,d,rfl,k1,k2⟩:=k;obtain⟨rfl,e1⟩:=rG x a c hf.1 h1 k1;obtain⟨rfl,e2⟩:=dg xs b d hf.2 h2 k2;refine⟨rfl,λu hu=> ?_⟩;rcases List.mem_append.1 hu with hu|hu
  .exact e1 u hu
  .exact e2 u hu
end
theorem Zzp{σ σ':Sg}{x:Pl}{a b:yh}(hf:x.flat=af)(ha:yH σ (.p x) a)(hb:yH σ' (.p x) b):a=b:=by
 cases hx:x.isAgg with
 |true=>
  obtain⟨cs,rfl,h⟩:=(Ye (d:=.p x) hx).1 ha;obtain⟨ds,rfl,k⟩:=(Ye (d:=.p x) hx).1 hb;simp only[yG]at h k;obtain⟨e,_⟩:=rG x _ _ hf h k
  rw[show cs=ds from by cases cs;cases ds;simpa using e]
 |false=>
  have h:=(Zi (d:=.p x) hx).1 ha;have k:=(Zi (d:=.p x) hx).1 hb;simp only[yG]at h k;obtain⟨e,_⟩:=rG x _ _ hf h k;simpa using e
theorem Zzq(n:Nat):∀{u:yh},rF u=af->Instr.sameBits n u u=af:=by
 intro u h;cases u <;> first|(cases n <;> simp[Instr.sameBits];done)|(simp[rF]at h)
theorem ZLh{σ:Sg}{x:Pl}{a:yh}(hf:x.flat=af)(ha:yH σ (.p x) a):Instr.sameBits 10000 a a=af:=by
 cases hx:x.isAgg with
 |true=>
  obtain⟨cs,rfl,h⟩:=(Ye (d:=.p x) hx).1 ha;simp only[yG]at h;obtain⟨_,e⟩:=rG x _ _ hf h h;show(cs.size==cs.size&&(cs.toList.zip cs.toList).all λ(x,y)=>Instr.sameBits 9999 x y)=af;simp only[beq_self_eq_true,Bool.true_and,List.all_eq_true];intro p hp
  have key:∀(l:yL yh),(∀u,u∈l->rF u=af)->∀p,p∈l.zip l->Instr.sameBits 9999 p.1 p.2=af:=by
   intro l
   induction l with
   |nil=>intro _ p hp;cases hp
   |cons z r ih=>
    intro hz p hp;simp only[List.zip_cons_cons]at hp;rcases ybo.1 hp with rfl|hp
    .exact Zzq 9999 (hz z (yax ..))
    .exact ih (λu hu=>hz u (yaz _ hu)) p hp
  exact key _ e p hp
 |false=>
  have h:=(Zi (d:=.p x) hx).1 ha;simp only[yG]at h;obtain⟨_,e⟩:=rG x _ _ hf h h;exact Zzq 10000 (e a (yas.2 rfl))
theorem ZCm{P:yg}{n:Nat}(ih:∀(t:yc)(x:Pl),bh P n t x->x.flat=af):∀(fs:yL Field)(o:Nat)(xs:yL Pl),io P (bh P n) fs o xs->Pl.aP xs=af
 |[],_,[],_=>rfl
 |[],_,_::_,h=>h.elim
 |_::_,_,[],h=>h.elim
 |f::fs,o,y::ys,h=>by
  obtain⟨_,_,_,_,_,_,_,a,b⟩:=h;simp only[Pl.aP,ih _ _ a,ZCm ih fs _ ys b,Bool.and_self]
theorem ZCn:∀{xs:yL Pl},(∀y,y∈xs->y.flat=af)->Pl.aP xs=af
 |[],_=>rfl
 |x::xs,h=>by simp only[Pl.aP,h x (yax ..),ZCn λy hy=>h y (yaz _ hy),Bool.and_self]
theorem rH{P:yg}:∀(n:Nat)(t:yc)(x:Pl),bh P n t x->x.flat=af
 |0,_,_,h=>by simp[bh]at h
 |n+1,t,x,h=>by
  unfold bh at h;split at h
  .rfl
  .rfl
  .obtain⟨_,_,_,_,_,h⟩:=h;simp only[Pl.flat];exact ZCn λy hy=>rH n _ y (h y hy).1
  .simp only[Pl.flat];exact ZCm (rH n) _ _ _ h.2
  .exact h.elim
theorem oW{P:yg}{σ:Sg}{em:Bool}:∀(n:Nat)(t:yc)(x:Pl)(a:yh),bh P n t x->yH σ (.p x) a->∀d,(Instr.checkKey em (d+n) t a).run P σ.w=.ok () σ.w
 |0,_,_,_,h,_,_=>by simp[bh]at h
 |n+1,t,x,a,hx,ra,d=>by
  unfold bh at hx;rw[show d+(n+1)=(d+n)+1 from rfl]
  split at hx
  .rename_i hu;rw[Y5 ra];simp[Instr.checkKey,run_underlying hu]
  .rename_i k k' z hu;rw[ZY ra];simp[Instr.checkKey,run_underlying hu]
  .rename_i m e m' s xs hu;obtain⟨rfl,h1,h2,h3,h4,h5⟩:=hx;rw[Ye (by rfl)]at ra;obtain⟨cs,rfl,ra⟩:=ra;simp only[yG]at ra;obtain⟨n1,ra1,ra2⟩:=EM ra;clear ra ra1;subst n1;rw[Instr.checkKey];simp only[Sem.run_bind,run_underlying hu,Result.andThen_ok];simp only[Std.Legacy.Range.forIn_eq_forIn_range',Std.Legacy.Range.size,Nat.sub_zero,Nat.add_one_sub_one,Nat.div_one];obtain⟨i,p,us,xv,e1,l1,r1⟩:∃(i:Nat)(p us:yL yh),i=0/\cs.toList=p++us/\p.length=i*s/\aq σ.w σ.aU xs us:=⟨0,[],cs.toList,rfl,rfl,by simp,ra2⟩;rw[<-xv];clear xv ra2 hu
   induction xs generalizing i p us with
   |nil=>simp
   |cons x xs ih=>
    simp only[aq]at r1;obtain⟨u1,u2,rfl,q1,q2⟩:=r1;obtain⟨f1,f2,f3⟩:=h5 x (yax ..);obtain⟨a,ha,ra⟩:=kM (P:=P) (σ:=σ) (t:=e) (d:=.p x) e1 (by simpa[yG] using q1) (by rw[h1];exact f2.symm) h3 h4 f3 (by show x.size≠0;omega);rw[l1]at ha;have s1:=Ve _ _ q1;have hk:=oW (em:=em) n e x a f1 ra d;rw[yam,List.range'_succ];simp only[List.forIn_cons,Sem.run_bind,Z6 h3,h1,Result.andThen_ok,ha,hk,Sem.run_pure];exact ih (λy hy=>h5 y (yaz _ hy)) (i+1) (p++u1) u2 (by rw[e1,yad]) (by rw[yl,l1,s1,f2,yau,Nat.one_mul]) q2
  .rename_i fs xs hu;obtain⟨h1,h2⟩:=hx;rw[Ye (by rfl)]at ra;obtain⟨cs,rfl,ra⟩:=ra;simp only[yG,aw]at ra;rw[Instr.checkKey];simp only[Sem.run_bind,run_underlying hu,Result.andThen_ok];rw[<-Array.forIn_toList];obtain⟨o,p,us,ho,e1,l1,r1⟩:∃(o:Nat)(p us:yL yh),o=0/\cs.toList=p++us/\p.length=o/\aq σ.w σ.aU xs us:=⟨0,[],cs.toList,rfl,rfl,rfl,ra⟩;rw[<-ho]at h2;clear ho ra hu;generalize fs.toList=L at*
   induction L generalizing xs o p us with
   |nil=>simp
   |cons f L ih=>
    cases xs with
    |nil=>exact h2.elim
    |cons x xs=>
     obtain⟨a1,a2,a3,a4,a5,a6,a7,a8,a9⟩:=h2;simp only[aq]at r1;obtain⟨u1,u2,rfl,q1,q2⟩:=r1;obtain⟨a,ha,ra⟩:=kM (P:=P) (σ:=σ) (t:=f.type) (d:=.p x) e1 (by simpa[yG] using q1) a3 a4 a5 a6 a7;rw[l1, <-a2]at ha;have s1:=Ve _ _ q1;have hk:=oW (em:=em) n f.type x a a8 ra d;simp only[List.forIn_cons,a1,ne_eq,not_false_eq_true,if_true,Sem.run_bind,ha,Result.andThen_ok,hk,Sem.run_pure];exact ih xs (o+x.size) (p++u1) u2 (by rw[e1,yad]) (by rw[yl,l1,s1]) q2 a9
  grind
end Go.Ev
namespace Go.Ev
structure cR(P:yg)(σ:Sg)(kt:yc)(k:Pl)(F:List MapEntry->Nat->Option (Nat×yh)->Prop):Prop where
 nil:∀i,F [] i ae
 eq:∀(e:MapEntry)es i(q:Pl),bh P 20 kt q->yH σ (.p q) e.key->k=q->F (e::es) i (ab (i,e.val))
 ne:∀(e:MapEntry)es i(q:Pl)r,bh P 20 kt q->yH σ (.p q) e.key->k≠q->F es (i+1) r->F (e::es) i r
theorem Zzr{P:yg}{σ:Sg}{kt:yc}{k:Pl}{a:yh}(hk:bh P 20 kt k)(ra:yH σ (.p k) a):cR P σ kt k λes i r=>(Instr.findAsking kt a es i).run P σ.w=.ok r σ.w where
 nil i:=by simp[Instr.findAsking]
 eq e es i q hq rq h:=by
  have:=EO (β:=af) hk hq ra rq (by simp[h]);simp[Instr.findAsking,this]
 ne e es i q r hq rq h hr:=by
  have:=EO (β:=ag) hk hq ra rq (by simp[h]);simp[Instr.findAsking,this,hr]
theorem Zzs{P:yg}{σ:Sg}{kt:yc}{d:TypeDesc}{k:Pl}{a:yh}(hd:P.underlying kt=ab d)(hs:(∃q,d=.int q)\/d=.bool)(hk:bh P 20 kt k)(ra:yH σ (.p k) a):
 cR P σ kt k λes i r=>Instr.findNow d a es i=ab r where
 nil i:=rfl
 eq e es i q hq rq h:=by
  subst h;have hv:=Zzp (rH 20 kt k hk) ra rq;unfold bh at hk;rw[hd]at hk;rcases hs with⟨kk,rfl⟩|rfl
  .cases k <;> first|exact hk.elim|skip
   subst hk;have e1:=ZY rq;have e2:=ZY ra;simp[Instr.findNow,Instr.sameNow,e1,e2]
  .cases k <;> first|exact hk.elim|skip
   have e1:=Y5 rq;have e2:=Y5 ra;simp[Instr.findNow,Instr.sameNow,e1,e2]
 ne e es i q r hq rq h hr:=by
  unfold bh at hk hq;rw[hd]at hk hq;rcases hs with⟨kk,rfl⟩|rfl
  .cases k <;> first|exact hk.elim|skip
   cases q <;> first|exact hq.elim|skip
   subst hk;have hq':=hq;simp only at hq';subst hq';have e1:=ZY rq;have e2:=ZY ra;have h':¬(‹Int› :Int)=_:=λhh=>h (by rw[hh]);rw[e2]at hr ⊢;simp only[Instr.findNow,Instr.sameNow,e1,if_true];grind
  .cases k <;> first|exact hk.elim|skip
   cases q <;> first|exact hq.elim|skip
   have e1:=Y5 rq;have e2:=Y5 ra;have h':¬(‹Bool› :Bool)=_:=λhh=>h (by rw[hh]);rw[e2]at hr ⊢;simp only[Instr.findNow,Instr.sameNow,e1];grind
theorem ZFH{P:yg}{σ:Sg}{kt:yc}{k:Pl}{F:yL MapEntry->Nat->yO (Nat×yh)->Prop}(hF:cR P σ kt k F):∀(bu:yL (Pl×Pl))(es:yL MapEntry)(i:Nat)(r:yO Pl),gr σ bu es->fW P kt bu->QO bu k r->
 (r=ae->F es i ae)/\∀v,r=ab v->∃(j:Nat)(u:yh),F es i (ab (j,u))/\yH σ (.p v) u
 |[],[],i,r,_,_,h=>by
  simp only[QO]at h;subst h
  exact⟨λ_=>hF.nil i,λv hv=>by cases hv⟩
 |[],_::_,_,_,h,_,_=>h.elim
 |_::_,[],_,_,h,_,_=>h.elim
 |q::l,e::es,i,r,⟨r1,r2,r3⟩,hf,h=>by
  have hq:=hf q (yax ..);simp only[QO]at h;rcases h with⟨h1,rfl⟩|⟨h1,h2⟩
  .exact⟨λh=>(by cases h),λv hv=>⟨i,e.val,hF.eq e es i q.1 hq r1 h1,by cases hv;exact r2⟩⟩
  .obtain⟨a1,a2⟩:=ZFH hF l es (i+1) r r3 (λz hz=>hf z (yaz _ hz)) h2;refine⟨λh=>hF.ne e es i q.1 ae hq r1 h1 (a1 h),λv hv=> ?_⟩;obtain⟨j,u,b1,b2⟩:=a2 v hv;exact⟨j,u,hF.ne e es i q.1 _ hq r1 h1 b1,b2⟩
theorem ZFI{P:yg}{σ:Sg}{kt:yc}{k v:Pl}{F:yL MapEntry->Nat->yO (Nat×yh)->Prop}(hF:cR P σ kt k F):∀(bu:yL (Pl×Pl))(es:yL MapEntry)(i:Nat)(l:yL (Pl×Pl)),gr σ bu es->fW P kt bu->fU bu k v l->
 (∃(j:Nat)(e:MapEntry),F es i (ab (i+j,e.val))/\es[j]? =ab e/\yH σ (.p k) e.key/\∀e',yH σ (.p k) e'.key->yH σ (.p v) e'.val->gr σ l (es.set j e'))\/
 (F es i ae/\∀e',yH σ (.p k) e'.key->yH σ (.p v) e'.val->gr σ l (es++[e']))
 |[],[],i,l,_,_,h=>by
  simp only[fU]at h;subst h
  exact .inr ⟨hF.nil i,λe' h1 h2=>⟨h1,h2,ao⟩⟩
 |[],_::_,_,_,h,_,_=>h.elim
 |_::_,[],_,_,h,_,_=>h.elim
 |q::r,e::es,i,l,⟨r1,r2,r3⟩,hf,h=>by
  have hq:=hf q (yax ..);simp only[fU]at h;rcases h with⟨h1,rfl⟩|⟨h1,l',rfl,h2⟩
  .exact .inl ⟨0,e,hF.eq e es i q.1 hq r1 h1,rfl,by rw[h1];exact r1,λe' k1 k2=>⟨k1,k2,r3⟩⟩
  .rcases ZFI hF r es (i+1) l' r3 (λz hz=>hf z (yaz _ hz)) h2 with⟨j,e2,b1,b2,b3,b4⟩|⟨b1,b2⟩
   .exact .inl ⟨j+1,e2,by have:=hF.ne e es i q.1 _ hq r1 h1 b1;rwa [show i+1+j=i+(j+1) by omega]at this,by simpa using b2,b3,λe' k1 k2=>⟨r1,r2,b4 e' k1 k2⟩⟩
   .exact .inr ⟨hF.ne e es i q.1 _ hq r1 h1 b1,λe' k1 k2=>⟨r1,r2,b2 e' k1 k2⟩⟩
theorem ZFJ{P:yg}{σ:Sg}{kt:yc}{k:Pl}{F:yL MapEntry->Nat->yO (Nat×yh)->Prop}(hF:cR P σ kt k F):∀(bu:yL (Pl×Pl))(es:yL MapEntry)(i:Nat)(l:yL (Pl×Pl)),gr σ bu es->fW P kt bu->fV bu k l->
 (∃(j:Nat)(u:yh),F es i (ab (i+j,u))/\j < es.length/\gr σ l (es.eraseIdx j))\/(F es i ae/\gr σ l es)
 |[],[],i,l,_,_,h=>by
  simp only[fV]at h;subst h
  exact .inr ⟨hF.nil i,ao⟩
 |[],_::_,_,_,h,_,_=>h.elim
 |_::_,[],_,_,h,_,_=>h.elim
 |q::r,e::es,i,l,⟨r1,r2,r3⟩,hf,h=>by
  have hq:=hf q (yax ..);simp only[fV]at h;rcases h with⟨h1,rfl⟩|⟨h1,l',rfl,h2⟩
  .exact .inl ⟨0,e.val,hF.eq e es i q.1 hq r1 h1,by simp,r3⟩
  .rcases ZFJ hF r es (i+1) l' r3 (λz hz=>hf z (yaz _ hz)) h2 with⟨j,u,b1,b2,b3⟩|⟨b1,b2⟩
   .exact .inl ⟨j+1,u,by have:=hF.ne e es i q.1 _ hq r1 h1 b1;rwa [show i+1+j=i+(j+1) by omega]at this,by simpa using b2,⟨r1,r2,b3⟩⟩
   .exact .inr ⟨hF.ne e es i q.1 _ hq r1 h1 b1,⟨r1,r2,b2⟩⟩
theorem ZCo{k v:Pl}:∀{l:yL (Pl×Pl)},QO l k (ab v)->(k,v)∈l
 |[],h=>by simp[QO]at h
 |q::r,h=>by
  simp only[QO]at h;rcases h with⟨rfl,h⟩|⟨_,h⟩
  .grind
  .exact yaz _ (ZCo h)
theorem ZFK{k:Pl}:∀{l:yL (Pl×Pl)},QO l k ae->∀q,q∈l->q.1≠k
 |[],_,q,hq=>by cases hq
 |x::r,h,q,hq=>by
  simp only[QO]at h;rcases h with⟨_,h⟩|⟨h1,h⟩
  .cases h
  .rcases ybo.1 hq with rfl|hq
   .grind
   .exact ZFK h q hq
theorem ZFL{k v:Pl}:∀{l:yL (Pl×Pl)},(l.map (·.1)).Nodup->(k,v)∈l->QO l k (ab v)
 |[],_,h=>by cases h
 |q::r,nd,h=>by
  simp only[QO];rw[yag,List.nodup_cons]at nd;rcases ybo.1 h with rfl|h
  .grind
  .refine .inr ⟨λe=>nd.1 ?_,ZFL nd.2 h⟩;grind
theorem ZCp{k:Pl}:∀{l:yL (Pl×Pl)},(∀q,q∈l->q.1≠k)->QO l k ae
 |[],_=>by simp[QO]
 |q::r,h=>by
  simp only[QO];exact .inr ⟨λe=>h q (yax ..) e.symm,ZCp λx hx=>h x (yaz _ hx)⟩
theorem ZHX{k:Pl}{r:yO Pl}{l l':yL (Pl×Pl)}(p:l'.Perm l)(nd:(l.map (·.1)).Nodup)(h:QO l k r):QO l' k r:=by
 cases r with
 |none=>exact ZCp λq hq=>ZFK h q (p.mem_iff.1 hq)
 |some v=>exact ZFL ((p.map _).nodup_iff.2 nd) (p.mem_iff.2 (ZCo h))
section
open Classical
theorem Zzt{k:Pl}:∀{l:yL (Pl×Pl)},(∀q,q∈l->q.1≠k)->(l.filter λq=>ah (q.1≠k))=l:=λh=>List.filter_eq_self.2 λq hq=>yY (h q hq)
theorem EP{k v:Pl}:∀{l m:yL (Pl×Pl)},(l.map (·.1)).Nodup->fU l k v m->m.Perm ((k,v)::l.filter λq=>ah (q.1≠k))
 |[],m,_,h=>by
  simp only[fU]at h
  grind
 |q::r,m,nd,h=>by
  rw[yag,List.nodup_cons]at nd;simp only[fU]at h;rcases h with⟨rfl,rfl⟩|⟨h1,l',rfl,h⟩
  .rw[List.filter_cons_of_neg (by simp),Zzt (λx hx e=>nd.1 (by rw[<-e];exact yci.2 ⟨_,hx,rfl⟩))]
  .rw[List.filter_cons_of_pos (by simpa using λe:q.1=k=>h1 e.symm)];exact((EP nd.2 h).cons q).trans (.swap _ _ _)
theorem ZFM(k v:Pl):∀(l:yL (Pl×Pl)),∃m,fU l k v m
 |[]=>⟨_,rfl⟩
 |q::r=>by
  by_cases h:k=q.1
  .exact⟨_,.inl ⟨h,rfl⟩⟩
  .obtain⟨m,hm⟩:=ZFM k v r;exact⟨_,.inr ⟨h,m,rfl,hm⟩⟩
theorem EQ{k:Pl}:∀{l m:yL (Pl×Pl)},(l.map (·.1)).Nodup->fV l k m->m=l.filter λq=>ah (q.1≠k)
 |[],m,_,h=>by
  simp only[fV]at h;subst h
  rfl
 |q::r,m,nd,h=>by
  rw[yag,List.nodup_cons]at nd;simp only[fV]at h;rcases h with⟨rfl,rfl⟩|⟨h1,l',rfl,h⟩
  .rw[List.filter_cons_of_neg (by simp),Zzt (λx hx e=>nd.1 (by rw[<-e];exact yci.2 ⟨_,hx,rfl⟩))]
  .rw[List.filter_cons_of_pos (by simpa using λe:q.1=k=>h1 e.symm), <-EQ nd.2 h]
theorem ZFN(k:Pl):∀(l:yL (Pl×Pl)),∃m,fV l k m
 |[]=>⟨_,rfl⟩
 |q::r=>by
  by_cases h:k=q.1
  .exact⟨_,.inl ⟨h,rfl⟩⟩
  .obtain⟨m,hm⟩:=ZFN k r;exact⟨_,.inr ⟨h,m,rfl,hm⟩⟩
theorem ZMK{k:Pl}{l:yL (Pl×Pl)}(nd:(l.map (·.1)).Nodup):((l.filter λq=>ah (q.1≠k)).map (·.1)).Nodup:=nd.sublist ((List.filter_sublist (l:=l)).map _)
theorem ZHY{k v:Pl}{l l' m:yL (Pl×Pl)}(p:l'.Perm l)(nd:(l.map (·.1)).Nodup)(h:fU l k v m):(m.map (·.1)).Nodup/\∃m',fU l' k v m'/\m'.Perm m:=by
 have nd':=(p.map (·.1)).nodup_iff.2 nd;obtain⟨m',hm⟩:=ZFM k v l';have e:=EP nd h;refine⟨(e.map _).nodup_iff.2 ?_,m',hm,(EP nd' hm).trans ((List.Perm.cons _ (p.filter _)).trans e.symm)⟩;grind
theorem ZHZ{k:Pl}{l l' m:yL (Pl×Pl)}(p:l'.Perm l)(nd:(l.map (·.1)).Nodup)(h:fV l k m):(m.map (·.1)).Nodup/\∃m',fV l' k m'/\m'.Perm m:=by
 have nd':=(p.map (·.1)).nodup_iff.2 nd;obtain⟨m',hm⟩:=ZFN k l';rw[EQ nd h];exact⟨ZMK nd,m',hm,by rw[EQ nd' hm];exact p.filter _⟩
end
theorem ZJF{P:yg}{σ:Sg}{kt:yc}{k:Pl}{F:yL MapEntry->Nat->yO (Nat×yh)->Prop}(hF:cR P σ kt k F)(bu:yL (Pl×Pl))(es:yL MapEntry)(i:Nat)(r:yO Pl)(h:il σ bu es)(hf:fW P kt bu)(hg:QO bu k r):
 (r=ae->F es i ae)/\∀v,r=ab v->∃(j:Nat)(u:yh),F es i (ab (j,u))/\yH σ (.p v) u:=by
 obtain⟨l,p,nd,hr⟩:=h;exact ZFH hF l es i r hr (λq hq=>hf q (p.mem_iff.1 hq)) (ZHX p nd hg)
theorem ZPO{P:yg}{σ:Sg}{kt:yc}{k v:Pl}{F:yL MapEntry->Nat->yO (Nat×yh)->Prop}(hF:cR P σ kt k F)(bu:yL (Pl×Pl))(es:yL MapEntry)(i:Nat)(l:yL (Pl×Pl))(h:il σ bu es)(hf:fW P kt bu)(hp:fU bu k v l):
 (∃(j:Nat)(e:MapEntry),F es i (ab (i+j,e.val))/\es[j]? =ab e/\yH σ (.p k) e.key/\∀e',yH σ (.p k) e'.key->yH σ (.p v) e'.val->il σ l (es.set j e'))\/
 (F es i ae/\∀e',yH σ (.p k) e'.key->yH σ (.p v) e'.val->il σ l (es++[e'])):=by
 obtain⟨l',p,nd,hr⟩:=h;obtain⟨nd2,m',hm,p2⟩:=ZHY p nd hp;rcases ZFI hF l' es i m' hr (λq hq=>hf q (p.mem_iff.1 hq)) hm with⟨j,e,a1,a2,a3,a4⟩|⟨a1,a2⟩
 .exact .inl ⟨j,e,a1,a2,a3,λe' h1 h2=>⟨m',p2,nd2,a4 e' h1 h2⟩⟩
 .exact .inr ⟨a1,λe' h1 h2=>⟨m',p2,nd2,a2 e' h1 h2⟩⟩
theorem ZPP{P:yg}{σ:Sg}{kt:yc}{k:Pl}{F:yL MapEntry->Nat->yO (Nat×yh)->Prop}(hF:cR P σ kt k F)(bu:yL (Pl×Pl))(es:yL MapEntry)(i:Nat)(l:yL (Pl×Pl))(h:il σ bu es)(hf:fW P kt bu)(hp:fV bu k l):
 (∃(j:Nat)(u:yh),F es i (ab (i+j,u))/\j < es.length/\il σ l (es.eraseIdx j))\/(F es i ae/\il σ l es):=by
 obtain⟨l',p,nd,hr⟩:=h;obtain⟨nd2,m',hm,p2⟩:=ZHZ p nd hp;rcases ZFJ hF l' es i m' hr (λq hq=>hf q (p.mem_iff.1 hq)) hm with⟨j,u,a1,a2,a3⟩|⟨a1,a2⟩
 .exact .inl ⟨j,u,a1,a2,m',p2,nd2,a3⟩
 .exact .inr ⟨a1,m',p2,nd2,a2⟩
theorem vx{P:yg}{σ:Sg}{kt:yc}{k:Pl}{a:yh}(hkt:jT P kt=af)(hk:bh P 20 kt k)(ra:yH σ (.p k) a):
 ∃F,cR P σ kt k F/\∀es r,F es 0 r->(Instr.findKey kt a es).run P σ.w=.ok r σ.w:=by
 unfold jT at hkt;split at hkt
 .rename_i q hu;exact⟨_,Zzs hu (.inl ⟨_,rfl⟩) hk ra,λes r h=>Go.MapKept.run_findKey hu h⟩
 .rename_i hu;exact⟨_,Zzs hu (.inr rfl) hk ra,λes r h=>Go.MapKept.run_findKey hu h⟩
 .rename_i n e hu;exact⟨_,Zzr hk ra,λes r h=>by rw[run_findKey_eq σ.w (by rw[hu])];exact h⟩
 .rename_i fs hu;exact⟨_,Zzr hk ra,λes r h=>by rw[run_findKey_eq σ.w (by rw[hu])];exact h⟩
 .cases hkt
theorem vy{σ:Sg}{id:Nat}{v:yh}(h:yH σ (.mp id) v):∃b,σ.m[id]? =ab (ab b)/\v=.map (ab b):=by
 rw[Zi rfl]at h;simp only[yG]at h;obtain⟨b,h1,_,h2⟩:=h;exact⟨b,h1,by simpa using h2⟩
theorem ZCq{σ:Sg}:∀(l:yL (Pl×Pl))(es:yL MapEntry),gr σ l es->es.length=l.length
 |[],[],_=>rfl
 |[],_::_,h=>h.elim
 |_::_,[],h=>h.elim
 |_::l,_::es,h=>by rw[yam,yam,ZCq l es h.2.2]
theorem ZML{es:Array MapEntry}{clock:Nat}(h:kH es clock)(j:Nat){f:MapEntry->MapEntry}(hf:∀e,(f e).born=e.born):kH (es.modify j f) clock:=by
 have key:∀(q:Nat)en,(es.modify j f)[q]? =ab en->∃en0,es[q]? =ab en0/\en.born=en0.born:=by
  intro q en hq;rw[Array.getElem?_modify]at hq;split at hq
  .obtain⟨e0,h1,h2⟩:=yn.1 hq;exact⟨e0,h1,by rw[<-h2,hf]⟩
  .exact⟨en,hq,rfl⟩
 refine⟨λq en hq=> ?_,λq q' en en' hq hq' he=> ?_⟩
 .obtain⟨e0,h1,h2⟩:=key q en hq;rw[h2];exact h.1 q e0 h1
 .obtain⟨e0,h1,h2⟩:=key q en hq;obtain⟨e1,h3,h4⟩:=key q' en' hq';exact h.2 q q' e0 e1 h1 h3 (by rw[<-h2, <-h4,he])
theorem ZLi{es:Array MapEntry}{clock:Nat}(h:kH es clock){e:MapEntry}(he:e.born=clock):kH (es.push e) (clock+1):=by
 have key:∀(q:Nat)en,(es.push e)[q]? =ab en->(es[q]? =ab en/\en.born < clock)\/(q=es.size/\en.born=clock):=by
  intro q en hq;rw[Array.getElem?_push]at hq;split at hq
  .rename_i h0;cases hq;exact .inr ⟨h0,he⟩
  .exact .inl ⟨hq,h.1 q en hq⟩
 refine⟨λq en hq=> ?_,λq q' en en' hq hq' hb=> ?_⟩
 .rcases key q en hq with⟨_,h1⟩|⟨_,h1⟩ <;> omega
 .rcases key q en hq with⟨h1,h2⟩|⟨h1,h2⟩ <;> rcases key q' en' hq' with⟨h3,h4⟩|⟨h3,h4⟩
  .exact h.2 q q' en en' h1 h3 hb
  .omega
  .omega
  .omega
theorem ZH0{es:Array MapEntry}{clock:Nat}(h:kH es clock)(j:Nat):kH (es.eraseIdxIfInBounds j) clock:=by
 have key:∀(q:Nat)en,(es.eraseIdxIfInBounds j)[q]? =ab en->es[if q < j then q else q+1]? =ab en:=by
  intro q en hq;rw[<-ycf,Array.toList_eraseIdxIfInBounds,List.getElem?_eraseIdx]at hq;rw[<-ycf];split at hq <;> rename_i h0
  .rw[yW h0];exact hq
  .rw[yX h0];exact hq
 refine⟨λq en hq=>h.1 _ en (key q en hq),λq q' en en' hq hq' hb=> ?_⟩;have:=h.2 _ _ en en' (key q en hq) (key q' en' hq') hb;split at this <;> split at this <;> omega
theorem nG{P:yg}{w:World}{b:Nat}{es:Array MapEntry}{clock:Nat}(h:w.heap[b]? =ab (.map es clock)):(getObj b).run P w=.ok (.map es clock) w:=Go.MapKept.run_getObj_map h
section
variable{P:yg}{o:Oper}{a:Act}{σ:Sg}{ts:yL Dv}{hs hs':yL ar}{C:yL Prop}{d:Dv}{H':yL ay}
theorem ZCr{σ:Sg}{x y:Dv}{u v:yh}(h1:yH σ x u)(h2:yH σ y v):yH σ (.bi [x,y]) (.tuple #[u,v]):=by
 rw[Zi rfl];simp only[yG];exact⟨#[u,v],rfl,by simp only[aC];exact⟨u,[v],rfl,h1,v,[],rfl,h2,rfl⟩⟩
theorem ZMM(ok:Ok σ)(yK:aK σ ts a){t:yc}{x ix:ym}{comma:Bool}(ho:o.op=.lookup t x ix comma)(h:bB P o ts σ.H hs=ab (C,d,hs'))(hc:ba C):XE P o a σ d σ.H:=by
 simp only[bB,ho]at h;have hx:=Zs (P:=P) yK t x;split at h
 .rename_i kt et id hu hxa;rw[hxa]at hx;obtain⟨b,hm,hv⟩:=vy hx;have hix:=Zs (P:=P) yK kt ix;split at h
  .rename_i k t' bu v hs1 hk hH;rw[hk]at hix;obtain⟨b',es,clock,h1,h2,h3,h3b⟩:=ok.cY id _ _ hH hm;cases h1;split at h
   .rename_i hkt;cases h;obtain⟨c1,c2,c3,_⟩:=hc;obtain⟨F,hF,zU⟩:=vx (P:=P) hkt c1 hix;obtain⟨_,g2⟩:=ZJF hF bu es.toList 0 _ h3 c2 c3;obtain⟨j,u,g3,g4⟩:=g2 v rfl;have g5:=zU _ _ g3;have g6:=oW (em:=es.isEmpty) 20 kt k _ c1 hix 9980
    have hrunL:(Instr.lookup t (a.eval x) (a.eval ix) comma).run P σ.w=.ok (if comma then .tuple #[u,.bool af] else u) σ.w:=by
     simp only[Instr.lookup,Sem.run_bind,run_underlying hu,Result.andThen_ok,hv,nG h2,Sem.run_pure,g6,g5]
    refine Zl ok (by simp[execOp,ho,hrunL];rfl) ?_;cases comma
    .exact g4
    .exact ZCr g4 (Yr _)
   .cases h
  .rename_i k t' bu hs1 hk hH;rw[hk]at hix;obtain⟨b',es,clock,h1,h2,h3,h3b⟩:=ok.cY id _ _ hH hm;cases h1;split at h
   .rename_i hkt;simp only[yi]at hkt;cases h;obtain⟨c1,c2,c3,_⟩:=hc;obtain⟨F,hF,zU⟩:=vx (P:=P) hkt.1 c1 hix;obtain⟨g1,_⟩:=ZJF hF bu es.toList 0 _ h3 c2 c3;have g5:=zU _ _ (g1 rfl);have g6:=oW (em:=es.isEmpty) 20 kt k _ c1 hix 9980
    obtain⟨hz,hkt2⟩:∃z,(zeroValue et).run P σ.w=.ok z σ.w/\yH σ (WH P et) z:=by
     have h9:=hkt.2;unfold DJ at h9;split at h9
     .rename_i i hi
      cases hzz:i.zero with
      |none=>simp[hzz]at h9
      |some z=>
       refine⟨z,by simp[zeroValue,typeInfo,hi,hzz], ?_⟩;unfold WH;rw[hi];simp only[hzz];exact ng
     .cases h9
    have hrunL:(Instr.lookup t (a.eval x) (a.eval ix) comma).run P σ.w=.ok (if comma then .tuple #[hz,.bool ag] else hz) σ.w:=by
     simp only[Instr.lookup,Sem.run_bind,run_underlying hu,Result.andThen_ok,hv,nG h2,Sem.run_pure,g6,g5,hkt2.1]
    refine Zl ok (by simp[execOp,ho,hrunL];rfl) ?_;cases comma
    .exact hkt2.2
    .exact ZCr hkt2.2 (Yr _)
   .cases h
  .cases h
 .cases h
theorem ZMN(ok:Ok σ)(yK:aK σ ts a){c:Call}(ho:o.op=.call c)(yS:c.callee=.builtin .len)(h:bB P o ts σ.H hs=ab (C,d,hs'))(hc:ba C):XE P o a σ d σ.H:=by
 simp only[bB,ho,yS]at h;split at h
 .rename_i x t yQ htys;have hx:=Zs (P:=P) yK t x;split at h
  .rename_i kt et id hu hxa;rw[hxa]at hx;obtain⟨b,hm,hv⟩:=vy hx;split at h
   .rename_i t' bu hH;obtain⟨b',es,clock,h1,h2,h3,h3b⟩:=ok.cY id _ _ hH hm;cases h1;cases h
    have hl:es.toList.length=bu.length:=by
     obtain⟨l',p,_,hr⟩:=h3;rw[ZCq _ _ hr,p.length_eq]
    refine Zl ok (nB ho yS yQ htys (v:=goInt es.size) (by rw[hv];simp[Builtin.len_,run_underlying hu,nG h2])) ?_;rw[<-yby,hl];exact ZC _ _
   .cases h
  .cases h
 .cases h
theorem ZLj(ok:Ok σ){t:yc}(ho:o.op=.makeMap t ae):XE P o a σ (.mp σ.H.length) (σ.H++[.map t []]):=by
 let σ':Sg:={ σ with m:=σ.m++[ab σ.w.heap.size],H:=σ.H++[.map t []],w:=σ.w.alloc (.map #[] 0)};have zB:σ'.w.heap[σ.w.heap.size]? =ab (.map #[] 0):=heap_alloc_new σ.w _
 have hmlast:σ'.m[σ.H.length]? =ab (ab σ.w.heap.size):=by
  show(σ.m++[ab σ.w.heap.size])[σ.H.length]? =_;rw[yaq (by rw[ok.len];exact yj _),ok.len];simp
 obtain⟨to,ok'⟩:=VV (σ':=σ') ok rfl rfl rfl rfl (World.grownBy_alloc σ.w (.map #[] 0) ae) (.inr ⟨_,rfl,yj _,by simp[σ']⟩)
  (λleaf=>⟨σ.w.heap.size, #[],0,rfl,zB,⟨[],.refl _,List.nodup_nil,ao⟩,by simp[kH]⟩)
 refine ZP (σ':=σ') (v:=.map (ab σ.w.heap.size)) ?_ to ok' ?_
 .have:(Instr.makeMap t ae).run P σ.w=.ok (.map (ab σ.w.heap.size)) (σ.w.alloc (.map #[] 0)):=rfl;simp[execOp,ho,this,σ']
 .rw[Zi rfl];simp only[yG];exact⟨_,hmlast,⟨t,[],by simp[σ']⟩,rfl⟩
theorem vz(ok:Ok σ){id b:Nat}{t:yc}{bu l:yL (Pl×Pl)}{es es':Array MapEntry}{clock clock':Nat}(hH:σ.H[id]? =ab (.map t bu))(hm:σ.m[id]? =ab (ab b))(hb:σ.w.heap[b]? =ab (.map es clock))
 (hl:il σ l es'.toList) (hbo:kH es' clock'):
 let σ':Sg:={ σ with m:=σ.m.set id (ab b),H:=σ.H.set id (.map t l),w:={ σ.w with heap:=σ.w.heap.setIfInBounds b (.map es' clock')}}
 To σ σ'/\Ok σ':=by
 intro σ';obtain⟨g1,g2⟩:=Go.MapKept.heap_set (w:=σ.w) (o':=.map es' clock') hb
 exact Wg (σ':=σ') (mi:=ab b) (mi':=ab b) ok hH hm rfl rfl rfl rfl rfl rfl rfl (by simp[σ'])
  (λj hj hne=>g2 j (λhh=>hne (by rw[hh]))) (λb' o v hb' hu hc=>by
    cases hb';simp[World.cell?,hb]at hc) (λo _ hu=>by cases hu) (.inl rfl) (λ⟨d,st,h⟩=>by cases h) (λ_=>⟨rfl,t,l,rfl⟩)
  (λs e xs h=>by cases h) (λleaf=>⟨b,es',clock',rfl,g1,Zy3 leaf hl,hbo⟩)
theorem ZFO(ok:Ok σ)(yK:aK σ ts a){t kt et:yc}{m k x:ym}{id:Nat}{t':yc}{kk v:Pl}{bu l:yL (Pl×Pl)}(ho:o.op=.mapUpdate t m k x)(hu:P.underlying t=ab (.map kt et))
 (hx:ZB P ts t m=.mp id) (hk:ZB P ts kt k=.p kk) (hv:(ZB P ts et x).flat=ab v) (hH:σ.H[id]? =ab (.map t' bu)) (hkt:jT P kt=af) (c1:bh P 20 kt kk) (c2:fW P kt bu) (c3:fU bu kk v.soft l):
 XE P o a σ .aA (σ.H.set id (.map t' l)):=by
 have hxv:=Zs (P:=P) yK t m;rw[hx]at hxv;obtain⟨b,hm,hmv⟩:=vy hxv;have hkv:=Zs (P:=P) yK kt k;rw[hk]at hkv;have hvv:=(Wk.p (nu v)).dv (DQ hv (Zs (P:=P) yK et x));obtain⟨b',es,clock,h1,h2,h3,h3b⟩:=ok.cY id _ _ hH hm;cases h1;obtain⟨F,hF,zU⟩:=vx (P:=P) hkt c1 hkv;have g6:=oW (em:=ag) 20 kt kk _ c1 hkv 9980;rcases ZPO hF bu es.toList 0 l h3 c2 c3 with⟨j,e,f1,f2,f3,f4⟩|⟨f1,f2⟩
 .have g5:=zU _ _ f1;rw[yat]at g5;have he:es[j]? =ab e:=by rw[<-ycf];exact f2
  have hsame:e.key=a.eval k:=Zzp (rH 20 kt kk c1) f3 hkv
  have hbits:Instr.sameBits 10000 e.key (a.eval k)=af:=by
   rw[hsame];exact ZLh (rH 20 kt kk c1) hkv
  have hes:(es.modify j λe=>{ e with key:=a.eval k,val:=a.eval x}).toList=es.toList.set j { e with key:=a.eval k,val:=a.eval x}:=by
   apply ybj;intro i;rw[ycf,Array.getElem?_modify,yca,ycf];by_cases hij:j=i
   .subst hij;have hlt:j < es.toList.length:=by simpa using(Array.getElem?_eq_some_iff.1 he).1
    simp[he,hlt];exact(Array.getElem?_eq_some_iff.1 he).1
   .simp[hij]
  obtain⟨to,ok'⟩:=vz (es':=es.modify j λe=>{ e with key:=a.eval k,val:=a.eval x}) (clock':=clock) ok hH hm h2 (l:=l) (by rw[hes];exact f4 _ hkv hvv) (ZML h3b j λe=>rfl);refine vo ?_ to ok';simp only[execOp,ho,hmv,Instr.mapUpdate,Sem.run_bind,run_underlying hu,Result.andThen_ok,nG h2,g6,g5,Instr.keyThatStays,he,Option.map_some,Option.getD_some,hbits,if_true,Sem.run_pure,Go.MapKept.run_setObj_map _ h2]
 .have g5:=zU _ _ f1;obtain⟨to,ok'⟩:=vz (es':=es.push { key:=a.eval k,val:=a.eval x,born:=clock}) (clock':=clock+1) ok hH hm h2 (l:=l) (by rw[Array.toList_push];exact f2 _ hkv hvv) (ZLi h3b rfl);refine vo ?_ to ok';simp only[execOp,ho,hmv,Instr.mapUpdate,Sem.run_bind,run_underlying hu,Result.andThen_ok,nG h2,g6,g5,Sem.run_pure,Go.MapKept.run_setObj_map _ h2]
theorem ZwX{x y:ym}{t u:yc}{c:Call}{w':World}(ho:o.op=.call c)(hc:c.callee=.builtin .delete)(yQ:c.args.toList=[x,y])(htys:c.argTypes.toList=[t,u]){v:yh}
 (h:(Builtin.delete_ #[t,u] o.type #[a.eval x,a.eval y]).run P σ.w=.ok v w'):(execOp a.eval o).run P σ.w=.ok (.value v) w':=by
 have h1:c.args= #[x,y]:=by rw[<-ycl (xs:=c.args),yQ]
 have h2:c.argTypes= #[t,u]:=by rw[<-ycl (xs:=c.argTypes),htys]
 simp[execOp,ho,resolve,hc,h1,h2,invoke,builtin,h]
theorem ZMO(ok:Ok σ)(yK:aK σ ts a){c:Call}{t u kt et:yc}{m k:ym}{id:Nat}{t':yc}{kk:Pl}{bu l:yL (Pl×Pl)}(ho:o.op=.call c)(yS:c.callee=.builtin .delete)(yQ:c.args.toList=[m,k])(htys:c.argTypes.toList=[t,u])
 (hu:P.underlying t=ab (.map kt et)) (hx:ZB P ts t m=.mp id) (hk:ZB P ts u k=.p kk) (hH:σ.H[id]? =ab (.map t' bu)) (hkt:jT P kt=af) (c1:bh P 20 kt kk) (c2:fW P kt bu) (c3:fV bu kk l):
 XE P o a σ (.bi []) (σ.H.set id (.map t' l)):=by
 have hxv:=Zs (P:=P) yK t m;rw[hx]at hxv;obtain⟨b,hm,hmv⟩:=vy hxv;have hkv:=Zs (P:=P) yK u k;rw[hk]at hkv;obtain⟨b',es,clock,h1,h2,h3,h3b⟩:=ok.cY id _ _ hH hm;cases h1;obtain⟨F,hF,zU⟩:=vx (P:=P) hkt c1 hkv;have g6:=oW (em:=es.isEmpty) 20 kt kk _ c1 hkv 9980
 have hnil:∀{σ':Sg},yH σ' (.bi []) (.tuple #[]):=by
  intro σ';rw[Zi rfl];simp only[yG];exact⟨#[],rfl,by simp[aC]⟩
 rcases ZPP hF bu es.toList 0 l h3 c2 c3 with⟨j,q,f1,f2,f3⟩|⟨f1,f2⟩
 .have g5:=zU _ _ f1;rw[yat]at g5;obtain⟨to,ok'⟩:=vz (es':=es.eraseIdxIfInBounds j) (clock':=clock) ok hH hm h2 (l:=l) (by rw[Array.toList_eraseIdxIfInBounds];exact f3) (ZH0 h3b j);refine ZP (v:=.tuple #[]) (ZwX ho yS yQ htys ?_) to ok' hnil;simp[Builtin.delete_,run_underlying hu,hmv,nG h2,g6,g5,Go.MapKept.run_setObj_map _ h2]
 .have g5:=zU _ _ f1;obtain⟨to,ok'⟩:=vz (es':=es) (clock':=clock) ok hH hm h2 (l:=l) f2 h3b;refine ZP (v:=.tuple #[]) (ZwX ho yS yQ htys ?_) to ok' hnil;simp[Builtin.delete_,run_underlying hu,hmv,nG h2,g6,g5,Go.MapKept.run_setObj_map _ h2]
end
end Go.Ev
end
section
namespace Go.Ev
section
variable{P:yg}{o:Oper}{a:Act}{σ:Sg}{ts:yL Dv}{hs hs':yL ar}{C:yL Prop}{d:Dv}{H':yL ay}
theorem ER{P:yg}{w:World}{t e:yc}{i:TypeInfo}{z:yh}{n n':Int}(hu:P.underlying t=ab (.slice e))(hi:P.info? e=ab i)(hz:i.zero=ab z)(h0:0<=n)(h1:n<=n')(h2:n'.toNat*i.bytes<=Zv)(h3:n'.toNat<=maxLen):
 ∃cells:Array yh,(Instr.makeSlice t (.int .i64 n) (.int .i64 n')).run P w=.ok (.slice (ab ⟨w.heap.size,0,ae⟩) n.toNat n'.toNat) (w.alloc (.cells cells e))/\cells.size=n'.toNat*i.size/\
  (i.size=1->∀k,k < n'.toNat->cells[k]? =ab (z.cells[k % z.cells.size]!)):=by
 have hw:∀m:Int,0<=m->m.toNat<=maxLen->IntKind.i64.wrap m=m:=λm a b=>by
  refine nh ?_;simp[maxLen]at b;simp[QW,IntKind.min,IntKind.max,IntKind.signed,IntKind.bits];omega
 have hw1:=hw n h0 (by omega);have hw2:=hw n' (by omega) h3
 have hb:¬((281474976710656:Int) < (i.bytes:Int)*n'):=by
  have e:(i.bytes:Int)*n'=((n'.toNat*i.bytes:Nat):Int):=by
   rw[Int.natCast_mul,Int.toNat_of_nonneg (by omega),Int.mul_comm]
  rw[e];simp only[Zv]at h2;omega
 have hr:¬(n'.toNat*i.bytes > roomBytes):=by
  simp only[Zv]at h2;simp only[roomBytes];omega
 by_cases hn:n'.toNat*i.size=0
 .refine⟨(Array.range (n'.toNat*i.size)).map λ_=>default, ?_,by simp,λe k hk=> ?_⟩
  .simp[Instr.makeSlice,run_underlying hu,asInt,asIntOf,typeInfo,hi,hw1,hw2,askRoom,hr,sizeOf,hn,newRow,h0,show¬n' < 0 by omega,show¬n < 0 by omega,show¬n' < n by omega,hb]
  .rw[e,Nat.mul_one]at hn;omega
 .refine⟨(Array.range (n'.toNat*i.size)).map (z.cells[· % z.cells.size]!), ?_,by simp,λe k hk=> ?_⟩
  .simp[Instr.makeSlice,run_underlying hu,asInt,asIntOf,typeInfo,hi,hw1,hw2,askRoom,hr,sizeOf,hn,newRow,h0,show¬n' < 0 by omega,show¬n < 0 by omega,show¬n' < n by omega,hb,zeroValue,hz]
  .simp[e,hk]
theorem ZLk(ok:Ok σ){t e:yc}{l c:ym}{i:TypeInfo}{n n':Int}(yK:aK σ ts a)(ho:o.op=.makeSlice t l c)(hu:P.underlying t=ab (.slice e))(hl:ZB P ts 0 l=.p (.int .i64 n))(hcp:ZB P ts 0 c=.p (.int .i64 n'))
 (hi:P.info? e=ab i) (hz:ca i=af) (hs0:i.size≠0) (h0:n=0) (h1:0<=n') (h2:n'.toNat*i.bytes<=Zv) (h3:n'.toNat<=maxLen):
 XE P o a σ (.own σ.H.length (ab af) i.size []) (σ.H++[.log i.size e []]):=by
 subst h0;obtain⟨z,hzz,hzs⟩:=kQ hz;obtain⟨cells,zU,hcs,_⟩:=ER (w:=σ.w) (t:=t) hu hi hzz (Int.le_refl 0) h1 h2 h3;have hlv:=ZY (hl ▸ Zs (P:=P) yK 0 l);have hcv:=ZY (hcp ▸ Zs (P:=P) yK 0 c);let σ':Sg:={ σ with m:=σ.m++[ab σ.w.heap.size],H:=σ.H++[.log i.size e []],w:=σ.w.alloc (.cells cells e)};have zB:σ'.w.heap[σ.w.heap.size]? =ab (.cells cells e (0,0)):=heap_alloc_new σ.w _
 have hmlast:σ'.m[σ.H.length]? =ab (ab σ.w.heap.size):=by
  show(σ.m++[ab σ.w.heap.size])[σ.H.length]? =_;rw[yaq (by rw[ok.len];exact yj _),ok.len];simp
 obtain⟨to,ok'⟩:=VV (σ':=σ') ok rfl rfl rfl rfl (World.grownBy_alloc σ.w (.cells cells e) ae) (.inr ⟨_,rfl,yj _,by simp[σ']⟩)
  (λleaf=>.inr ⟨σ.w.heap.size,cells,n'.toNat,rfl,zB,hcs,Nat.zero_le _,h3,λ_ hx=>(by cases hx),by simp[aq]⟩)
 refine ZP (σ':=σ') (v:=.slice (ab ⟨σ.w.heap.size,0,ae⟩) 0 n'.toNat) ?_ to ok' ?_
 .have hrun':=zU;simp only[Int.toNat_zero]at hrun';simp[execOp,ho,hlv,hcv,hrun',σ']
 .rw[Zi rfl];simp only[yG];refine⟨λ_ hx=>(by cases hx),ab ⟨σ.w.heap.size,0,ae⟩,n'.toNat,rfl,Nat.zero_le _,h3, ?_,(λh=>by cases h),λh=>absurd rfl h,e,[],by simp[σ'],yj _,λ_=>.inr ?_⟩
  .simp[iK]
  .exact⟨σ.w.heap.size,cells,hmlast,rfl,zB,hcs⟩
theorem Zon{w:World}{S:Nat->Nat->Prop}{z:Pl}{v:yh}(h:aw w S z [v]):∀n,aq w S (yw n z) (yw n v)
 |0=>by simp[aq]
 |n+1=>by
  rw[List.replicate_succ,List.replicate_succ];simp only[aq];exact⟨[v],yw n v,rfl,h,Zon h n⟩
theorem ZH1(ok:Ok σ){t e:yc}{l c:ym}{i:TypeInfo}{z:Pl}{n n':Int}(yK:aK σ ts a)(ho:o.op=.makeSlice t l c)(hu:P.underlying t=ab (.slice e))(hl:ZB P ts 0 l=.p (.int .i64 n))(hcp:ZB P ts 0 c=.p (.int .i64 n'))
 (hi:P.info? e=ab i) (hz:ca i=af) (hs1:i.size=1) (hzp:WH P e=.p z) (hz1:z.size=1) (hza:z.isAgg=ag) (h0:n'=n) (h1:0<=n) (h2:n.toNat*i.bytes<=Zv) (h3:n.toNat<=maxLen):
 XE P o a σ (.view σ.H.length 0 [] 1 0 n.toNat) (σ.H++[.var (.p (.arr n.toNat 1 (yw n.toNat z))) af]):=by
 subst h0;obtain⟨zv,hzz,hzs⟩:=kQ hz;obtain⟨cells,zU,hcs,hck⟩:=ER (w:=σ.w) (t:=t) hu hi hzz h1 (Int.le_refl n') h2 h3;have hlv:=ZY (hl ▸ Zs (P:=P) yK 0 l);have hcv:=ZY (hcp ▸ Zs (P:=P) yK 0 c)
 have hr:yH σ (WH P e) zv:=by
  unfold WH;rw[hi];simp only[hzz];exact ng
 rw[hzp]at hr;have hr:=nx (d:=.p z) rfl hr
 obtain⟨c0,hc0⟩:∃c0,zv.cells.toList=[c0]:=by
  have h9:zv.cells.toList.length=1:=by rw[yby,hzs,hs1]
  match hq:zv.cells.toList,h9 with
  |[c0],_=>exact⟨c0,rfl⟩
 rw[hc0]at hr;have hzc:zv.cells= #[c0]:=by rw[<-ycl (xs:=zv.cells),hc0]
 have hcells:cells.toList=yw n'.toNat c0:=by
  apply ybj;intro k;rw[ycf,List.getElem?_replicate];by_cases hk:k < n'.toNat
  .rw[hck hs1 k hk,yW hk,hzc];simp[Nat.mod_one]
  .rw[yX hk];refine Array.getElem?_eq_none ?_;rw[hcs,hs1];omega
 let σ':Sg:={ σ with m:=σ.m++[ab σ.w.heap.size],H:=σ.H++[.var (.p (.arr n'.toNat 1 (yw n'.toNat z))) af],w:=σ.w.alloc (.cells cells e)};have zB:σ'.w.heap[σ.w.heap.size]? =ab (.cells cells e (0,0)):=heap_alloc_new σ.w _
 have hmlast:σ'.m[σ.H.length]? =ab (ab σ.w.heap.size):=by
  show(σ.m++[ab σ.w.heap.size])[σ.H.length]? =_;rw[yaq (by rw[ok.len];exact yj _),ok.len];simp
 have hcl:cells.toList.length=n'.toNat:=by rw[hcells];simp
 obtain⟨to,ok'⟩:=VV (σ':=σ') ok rfl rfl rfl rfl (World.grownBy_alloc σ.w (.cells cells e) ae) (.inr ⟨_,rfl,yj _,by simp[σ']⟩)
  (λleaf=>⟨σ.w.heap.size,cells,e,rfl,zB,by
    have hsz:Dv.size (.p (.arr n'.toNat 1 (yw n'.toNat z)))=n'.toNat:=by show n'.toNat*1=_;omega
    rw[hsz,ybs (by omega)];refine Yi leaf _ _ ?_;simp only[yG,aw];refine⟨by simp,λy hy=>by rw[(List.mem_replicate.1 hy).2];exact hz1, ?_⟩;rw[hcells];simp only[yG]at hr;exact Zon hr _,by
    have hsz:Dv.size (.p (.arr n'.toNat 1 (yw n'.toNat z)))=n'.toNat:=by show n'.toNat*1=_;omega
    rw[hsz, <-yby,hcl];exact yj _⟩)
 refine ZP (σ':=σ') (v:=.slice (ab ⟨σ.w.heap.size,0,ae⟩) n'.toNat n'.toNat) ?_ to ok' ?_
 .simp[execOp,ho,hlv,hcv,zU,σ']
 .rw[Zi rfl];simp only[yG];exact⟨σ.w.heap.size,n'.toNat,_,hmlast,⟨.p (.arr n'.toNat 1 (yw n'.toNat z)),af,by simp[σ']⟩,rfl,yj _,h3,λ_=>by simp⟩
theorem ZJG(ok:Ok σ)(yK:aK σ ts a){t:yc}{x:ym}(ho:∀w,(execOp a.eval o).run P w=.ok (.value (a.eval x)) w)(h:jo (ZB P ts t x) σ.H hs=ab (C,d,H',hs'))(hc:ba C):XE P o a σ d H':=by
 have hxv:=Zs (P:=P) yK t x;unfold jo at h;split at h
 .rename_i id off yM s lo n hx;rw[hx]at hxv;obtain⟨b,c,A,hm,hv,hve,hcap,hcm,hA⟩:=nw hxv;split at h
  .rename_i dd st hH;split at h
   .rename_i C1 off' n' s' xs hs1 hg;split at h
    .rename_i hs0;subst hs0;cases h;obtain⟨c1,c2,c3,_⟩:=Zr.1 hc;obtain⟨cs,t',p1,p2,p3,h2,h4,h5,h6,h7,h3,h8⟩:=vm ok hm hH hg c1 c2;simp only[yG,aw]at h7;obtain⟨h9,h10,h11⟩:=h7;subst h9;let σ':Sg:={ σ with m:=σ.m.set id (ab b),H:=σ.H.set id (.var dd ag)};have hmset:σ'.m[id]? =ab (ab b):=an hm;have hHset:σ'.H[id]? =ab (.var dd ag):=an hH
     obtain⟨to,ok'⟩:=Wg (σ':=σ') (mi:=ab b) (mi':=ab b) ok hH hm rfl rfl rfl rfl rfl rfl rfl (yj _)
      (λ_ _ _=>rfl) (λ_ _ _ _ _ h=>h) (λo _ hu=>rfl) (.inl rfl) (λ_=>⟨rfl,dd,ag,rfl⟩) (λ⟨d,st,h⟩=>by cases h)
      (λs e xs h=>by cases h) (λleaf=>⟨b,cs,t',rfl,h2,Yi leaf dd _ h3,h4⟩)
     have hcells:VJ σ'.w σ'.aU b off p2:=λj u hu=>by
      refine⟨h8 j u hu,.inr (ok.own id b hm),λj' e' g1 g2=> ?_⟩;have:j'=id:=ok'.inj j' id _ g1 hmset;subst this;rw[hHset]at g2;cases g2;rfl
     have h11':=aD to.leaf.cells _ _ h11
     have hsplit:xs=xs.take lo++((xs.drop lo).take n++xs.drop (lo+n)):=by
      have e1:xs.drop (lo+n)=(xs.drop lo).drop n:=by rw[List.drop_drop]
      rw[e1,ybd,ybd]
     have zV:((xs.drop lo).take n).length=n:=by rw[yx,ybw];omega
     have hsub:aR s' ((xs.drop lo).take n):=λz hz=>h10 z (ycy (ybn hz));have hr2:=ZP (P:=P) (o:=o) (a:=a) (σ:=σ) (σ':=σ') (v:=a.eval x) (d:=.p (.sl (ab af) s' ((xs.drop lo).take n))) (ho σ.w) to ok';refine hr2 ?_;rw[hve]
     have hmk:=YM (σ:=σ') (nn:=ab af) (A:=ab A) (c:=c) hsub (by rw[zV];exact hcap) hcm (lK rfl) (λh=>by cases h) (λhne=>by
      have hn:0 < n:=by
       rcases ycd n with h0|h0
       .subst h0;simp at hne
       .exact h0
      rw[hsplit]at h11';obtain⟨q1,q23,e1,r1,r23⟩:=Yh h11';obtain⟨q2,q3,e2,r2,r3⟩:=Yh r23
      have l1:q1.length=lo*s':=by
       rw[aL _ _ r1,aM (λz hz=>h10 z (ybn hz)),yx,ybc (by omega)]
      refine⟨b,off+lo*s',q2,by rw[hA hn],r2,λj u hu=> ?_⟩
      have hj:p2[lo*s'+j]? =ab u:=by
       rw[e1,yaq (by omega),l1,Nat.add_sub_cancel_left,e2,ybe (yo.1 hu).1];exact hu
      have:=hcells (lo*s'+j) u hj
      rwa [<-Nat.add_assoc]at this)
     rw[zV]at hmk;exact hmk
    .cases h
   .cases h
  .cases h
 .rename_i id v s lo n hx;rw[hx]at hxv;split at h
  .rename_i v' s' st e N s'' xs hH;split at h
   .rename_i hk;simp only[yi,yP,yT]at hk;obtain⟨⟨rfl,rfl⟩,hv⟩:=hk;subst hv;cases h;obtain⟨A,c,hve,hcap,hcm,hA,hsy,ly,q,hr,lq,hq⟩:=vu ok hxv hH rfl hc.1;have hidlt:id < σ.m.length:=by rw[ok.len];exact(yo.1 hH).1
    have hmi:σ.m[id]? =ab σ.m[id]:=yac hidlt;let σ':Sg:={ σ with m:=σ.m.set id σ.m[id],H:=σ.H.set id (.row v' s'' ag e (.p (.arr N s'' xs)))};have hmset:σ'.m[id]? =ab σ.m[id]:=an hmi;have hHset:σ'.H[id]? =ab (.row v' s'' ag e (.p (.arr N s'' xs))):=an hH
    obtain⟨to,ok'⟩:=Wg (σ':=σ') (mi:=σ.m[id]) (mi':=σ.m[id]) ok hH hmi rfl rfl rfl rfl rfl rfl rfl (yj _)
     (λ_ _ _=>rfl) (λ_ _ _ _ _ h=>h) (λo _ hu=>⟨rfl,hu.2⟩) (.inl rfl) (λ⟨d,st,h⟩=>by cases h) (λ⟨d,st,h⟩=>by cases h)
     (λs e xs h=>by cases h) (λleaf=>by
       obtain⟨N',h1,h2⟩:=ok.cY id _ _ hH hmi;refine⟨N',h1, ?_⟩;rcases h2 with h2|⟨b,cur,cap,g1,g2,g3,g4,g5,g6⟩
       .exact .inl h2
       .exact .inr ⟨b,cur,cap,g1,g2,g3,g4,g5,Yi leaf _ _ g6⟩)
     (λv s st e d h=>by cases h;exact⟨v',ag,_,rfl,yj _,λ_=>⟨rfl,λb cur _ hb=>⟨cur,hb,rfl⟩⟩⟩)
    refine ZP (P:=P) (o:=o) (a:=a) (σ:=σ) (σ':=σ') (v:=a.eval x) (d:=.p (.sl ae s'' ((xs.drop lo).take n))) (ho σ.w) to ok' ?_;rw[hve]
    have hmk:=YM (σ:=σ') (nn:=ae) (A:=A) (c:=c) hsy (by rw[ly];exact hcap) hcm (YE _) hA (λhne=>by
     have hn:0 < n:=by
      rcases ycd n with h0|h0
      .subst h0;simp at hne
      .exact h0
     obtain⟨b,cur,cap,rfl,hm,hb,hcs,hcell⟩:=hq hn;refine⟨b,_,q,rfl,aD to.leaf.cells _ _ hr,λj u hu=>⟨hcell j u hu,.inr (ok.own id b hm),λj' e' g1 g2=> ?_⟩⟩;have:j'=id:=ok'.inj j' id b g1 (by rw[hmset, <-hmi];exact hm);subst this;rw[hHset]at g2;cases g2;refine⟨rfl,N,yW rfl, ?_⟩;have h1:=(yo.1 hu).1;have h2:(lo+n)*s''<=N*s'':=ycg _ hc.1;rw[lq]at h1;rw[yau]at h2;omega)
    rw[ly]at hmk;exact hmk
   .cases h
  .cases h
 .cases h
end
end Go.Ev
end
section
namespace Go.Ev
theorem ES{σ:Sg}{x y:Dv}(hxy:∀a,yG σ x a->yG σ y a):∀(fs:yL Dv)(k:Nat)(us:yL yh),fs[k]? =ab x->aI σ fs us->aI σ (fs.set k y) us
 |[],_,_,h,_=>by simp at h
 |z::fs,0,us,h,hr=>by
  simp only[ybm,yp]at h;subst h;simp only[aI,List.set_cons_zero]at hr ⊢
  grind
 |z::fs,k+1,us,h,hr=>by
  simp only[yay]at h;simp only[aI,List.set_cons_succ]at hr ⊢;obtain⟨a,b,h1,h2,h3⟩:=hr;exact⟨a,b,h1,h2,ES hxy fs k b h h3⟩
theorem ZpE{fs:yL Dv}{k:Nat}{x y:Dv}(h:fs[k]? =ab x)(hs:y.size=x.size):Dv.sizes (fs.set k y)=Dv.sizes fs:=by
 induction fs generalizing k with
 |nil=>simp at h
 |cons z fs ih=>
  cases k with
  |zero=>
   simp only[ybm,yp]at h;subst h
   simp only[List.set_cons_zero,Dv.sizes,hs]
  |succ k=>
   simp only[yay]at h;simp only[List.set_cons_succ,Dv.sizes,ih h]
theorem ZFP:∀(xs:yL Pl),Dv.sizes (xs.map .p)=Pl.sizes xs
 |[]=>rfl
 |x::xs=>by simp only[yag,Dv.sizes,Pl.sizes,ZFP xs];rfl
theorem ZwY{d d':Dv}{s:Nat}{new:Dv}(h:WF d [] s new=ab d'):d=.p (.sl (ab ag) s [])/\d'=new:=by
 unfold WF at h
 all_goals grind
theorem Zt3{d d':Dv}{i:Nat}{r:yL Nat}{s:Nat}{new:Dv}(h:WF d (i::r) s new=ab d'):
 (∃xs x y,d=.p (.agg xs)/\xs[i]? =ab x/\WF (.p x) r s new=ab y/\d'=.agg ((xs.map Dv.p).set i y))\/∃xs x y,d=.agg xs/\xs[i]? =ab x/\WF x r s new=ab y/\d'=.agg (xs.set i y):=by
 cases d with
 |p q=>
  cases q with
  |agg xs=>
   simp only[WF]at h
   cases hx:xs[i]? with
   |none=>simp[hx]at h
   |some x=>
    simp only[hx]at h;obtain⟨y,hy,rfl⟩:=yn.1 h
    exact .inl ⟨xs,x,y,rfl,hx,hy,rfl⟩
  |_=>simp[WF]at h
 |agg xs=>
  simp only[WF]at h
  cases hx:xs[i]? with
  |none=>simp[hx]at h
  |some x=>
   simp only[hx]at h;obtain⟨y,hy,rfl⟩:=yn.1 h
   exact .inr ⟨xs,x,y,rfl,hx,hy,rfl⟩
 |_=>simp[WF]at h
theorem vA:∀(yM:yL Nat)(d d':Dv)(s:Nat)(new:Dv),new.size=1->WF d yM s new=ab d'->d'.size=d.size
 |[],d,d',s,new,hn,h=>by
  obtain⟨rfl,rfl⟩:=ZwY h;rw[hn]
  rfl
 |i::r,d,d',s,new,hn,h=>by
  rcases Zt3 h with⟨xs,x,y,rfl,hx,hy,rfl⟩|⟨xs,x,y,rfl,hx,hy,rfl⟩
  .have:=vA r (.p x) y s new hn hy;have hx':(xs.map Dv.p)[i]? =ab (.p x):=by rw[yak,hx];rfl
   simp only[Dv.size];rw[ZpE hx' this,ZFP];rfl
  .simp only[Dv.size];exact ZpE hx (vA r x y s new hn hy)
theorem vB{σ:Sg}:∀(yM:yL Nat)(d d':Dv)(s:Nat)(new:Dv),(∀a,yG σ (.p (.sl (ab ag) s [])) a->yG σ new a)->WF d yM s new=ab d'->∀us,yG σ d us->yG σ d' us
 |[],d,d',s,new,hn,h,us,hr=>by
  obtain⟨rfl,rfl⟩:=ZwY h
  exact hn us hr
 |i::r,d,d',s,new,hn,h,us,hr=>by
  rcases Zt3 h with⟨xs,x,y,rfl,hx,hy,rfl⟩|⟨xs,x,y,rfl,hx,hy,rfl⟩
  .have hx':(xs.map Dv.p)[i]? =ab (.p x):=by rw[yak,hx];rfl
   simp only[yG,aw]at hr ⊢;exact ES (vB r (.p x) y s new hn hy) _ i us hx' (nj.2 hr)
  .simp only[yG]at hr ⊢;exact ES (vB r x y s new hn hy) _ i us hx hr
theorem ZH2{σ:Sg}(ok:Ok σ){j s:Nat}{e:yc}{d d':Dv}{st:Bool}{yM:yL Nat}(hj:σ.H[j]? =ab (.var d st))(hg:WF d yM s (.own σ.H.length ae s [])=ab d'):
 ∃σ2:Sg,σ2.H=(σ.H++[ay.log s e []]).set j (.var d' st)/\σ2.w=σ.w/\To σ σ2/\Ok σ2:=by
 obtain⟨to1,ok1⟩:=VV (σ':={ σ with m:=σ.m++[ae],H:=σ.H++[.log s e []]}) ok rfl rfl rfl rfl (World.grownBy.refl σ.w ae) (.inl rfl) (λ_=>.inl ⟨rfl,rfl⟩);have hjl:j < σ.H.length:=(yo.1 hj).1
 obtain⟨mi,hm⟩:∃mi,σ.m[j]? =ab mi:=by
  have:j < σ.m.length:=by rw[ok.len];exact hjl
  simp_all
 obtain⟨b,cs,t,rfl,q2,q3,q4⟩:=ok.cY j _ _ hj hm;let σ1:Sg:={ σ with m:=σ.m++[ae],H:=σ.H++[.log s e []]};let σ2:Sg:={ σ1 with m:=σ1.m.set j (ab b),H:=σ1.H.set j (.var d' st)}
 have hH1:σ1.H[j]? =ab (.var d st):=by
  grind
 have hm1:σ1.m[j]? =ab (ab b):=by
  grind
 have hsz:=vA yM d d' s _ rfl hg
 obtain⟨to2,ok2⟩:=Wg (σ':=σ2) (mi:=ab b) (mi':=ab b) ok1 hH1 hm1 rfl rfl rfl rfl rfl rfl rfl (yj _)
  (λ_ _ _=>rfl) (λ_ _ _ _ _ h=>h) (λo _ hu=>hu) (.inl rfl) (λ_=>⟨rfl,_,_,rfl⟩) (λ⟨_,_,hh⟩=>by cases hh) (λ_ _ _ hh=>by cases hh)
  (λleaf=>by
    refine⟨b,cs,t,rfl,q2, ?_,by rw[hsz];exact q4⟩;rw[hsz];refine vB yM d d' s _ (λa ha=> ?_) hg _ (Yi (to1.leaf.trans leaf) _ _ q3);simp only[yG,aw]at ha ⊢;obtain⟨_,A,c,rfl,w1,w2,w3,w4,w5⟩:=ha
    have hA:A=ae:=by
     have:=w3 ag rfl;simp_all
    subst hA;have hc:=w4 rfl;subst hc;refine⟨λ_ hx=>(by cases hx),ae,0,rfl,yj _,by simp[maxLen],YE _,λ_=>rfl,λh=>absurd rfl h,e,[], ?_,yj _,λ_=>.inl ⟨?_,rfl,rfl⟩⟩
    .show(σ1.H.set j _)[σ.H.length]? =_;rw[yca,yX (by omega)];simp[σ1]
    .show(σ1.m.set j _)[σ.H.length]? =_;rw[yca,yX (by omega)];show(σ.m++[ae])[σ.H.length]? =_;rw[yaq (by rw[ok.len];exact yj _),ok.len];simp)
 exact⟨σ2,rfl,rfl,to1.trans to2,ok2⟩
theorem ET:∀(hs:yL ar)(d:Dv)(H0 L:yL ay){σ:Sg},Ok σ->σ.H=H0++.var d af::L->∃σ2:Sg,σ2.H=H0++.var (YL d (H0.length+1+L.length) hs).1 af::(L++(YL d (H0.length+1+L.length) hs).2.1)/\σ2.w=σ.w/\To σ σ2/\Ok σ2
 |[],d,H0,L,σ,ok,h=>⟨σ,by simp[YL,h],rfl,To.refl σ,ok⟩
 |x::hs,d,H0,L,σ,ok,h=>by
  have base:YL d (H0.length+1+L.length) (x::hs)=(d,[],x::hs)->∃σ2:Sg,σ2.H=H0++.var (YL d (H0.length+1+L.length) (x::hs)).1 af::(L++(YL d (H0.length+1+L.length) (x::hs)).2.1)/\σ2.w=σ.w/\To σ σ2/\Ok σ2:=λe=>by
   rw[e];exact⟨σ,by simp[h],rfl,To.refl σ,ok⟩
  cases x with
  |bP yM s e=>
   cases hg:WF d yM s (.own (H0.length+1+L.length) ae s []) with
   |none=>exact base (by simp[YL,hg])
   |some d'=>
    have hl:σ.H.length=H0.length+1+L.length:=by rw[h];simp;omega
    obtain⟨σ1,e1,e2,e3,e4⟩:=ZH2 (e:=e) ok (j:=H0.length) (s:=s) (d:=d) (d':=d') (st:=af) (yM:=yM) (by rw[h];simp) (by rw[hl];exact hg)
    have e1':σ1.H=H0++.var d' af::(L++[ay.log s e []]):=by
     grind
    obtain⟨σ2,f1,f2,f3,f4⟩:=ET hs d' H0 (L++[ay.log s e []]) e4 e1';refine⟨σ2, ?_,by rw[f2,e2],e3.trans f3,f4⟩;rw[f1];simp only[YL,hg,yl,yam,List.length_nil]
    simp[Nat.add_assoc]
  |_=>exact base (by simp[YL])
theorem ZCs{P:yg}{o:Oper}{a:Act}{σ:Sg}{d:Dv}{H1 H2:yL ay}(h:XE P o a σ d H1)(k:∀σ1:Sg,σ1.H=H1->Ok σ1->∃σ2:Sg,σ2.H=H2/\σ2.w=σ1.w/\To σ1 σ2/\Ok σ2):XE P o a σ d H2:=by
 intro K Q hK;refine h K Q λv σ1 e1 to1 ok1 hd=> ?_;obtain⟨σ2,f1,f2,f3,f4⟩:=k σ1 e1 ok1;rw[<-f2];exact hK v σ2 f1 (to1.trans f3) f4 (mT f3.leaf hd)
theorem ZwZ{P:yg}{o:Oper}{a:Act}{σ:Sg}{d dd:Dv}{H:yL ay}(h:XE P o a σ d (H++[.var dd af]))(hs:yL ar):XE P o a σ d (H++.var (YL dd (H.length+1) hs).1 af::(YL dd (H.length+1) hs).2.1):=by
 refine ZCs h λσ1 e1 ok1=> ?_;obtain⟨σ2,f1,f2,f3,f4⟩:=ET hs dd H [] ok1 e1;grind
theorem ZDH{P:yg}{o:Oper}{a:Act}{σ:Sg}{d dd:Dv}{H:yL ay}{id:Nat}{x:ay}(h:XE P o a σ d (H.set id (.var dd af)))(hid:H[id]? =ab x)(hs:yL ar):XE P o a σ d (H.set id (.var (YL dd H.length hs).1 af)++(YL dd H.length hs).2.1):=by
 have hlt:id < H.length:=(yo.1 hid).1;have e:∀v:ay,H.set id v=H.take id++v::H.drop (id+1):=λv=>List.set_eq_take_append_cons_drop.trans (yW hlt);refine ZCs h λσ1 e1 ok1=> ?_;rw[e]at e1;obtain⟨σ2,f1,f2,f3,f4⟩:=ET hs dd (H.take id) (H.drop (id+1)) ok1 e1;grind
end Go.Ev
end
section
namespace Go.Ev
section
variable{P:yg}{o:Oper}{a:Act}{σ:Sg}{ts:yL Dv}{hs hs':yL ar}{C:yL Prop}{d:Dv}{H':yL ay}
theorem ZFQ(ok:Ok σ)(yK:aK σ ts a){t:yc}{x y:ym}{id v v' s off:Nat}{yM:yL Nat}{e:yc}{dd sub new dd':Dv}{C1:yL Prop}{off':Nat}(ho:o.op=.store t x y)(hx:ZB P ts 0 x=.aZ id v off yM)
 (hH:σ.H[id]? =ab (.row v' s af e dd)) (hv:v'=v) (hg:Yy dd yM hs=ab (C1,off',sub,hs')) (hc:ba C1) (he:off'=off) (hn:jm yM dd (ZB P ts t y)=ab new) (hp:VS new dd yM hs=ab dd')
 (hsol:new.bF=af) (hsz:new.size=sub.size) (ht:P.cellsOf t=new.size) (hi:(P.info? t).isSome=af) (hN':aY dd' s=aY dd s):XE P o a σ .aA (σ.H.set id (.row v s af e dd')):=by
 subst he;subst hv;have hxv:=Zs (P:=P) yK 0 x;have hyv:=Zzj hn (Zs (P:=P) yK t y);rw[hx]at hxv;obtain⟨b,hxv,hm⟩:=ZFC hxv hH rfl;obtain⟨N,hN,hent⟩:=ok.cY id _ _ hH hm;rcases hent with⟨h1,_⟩|⟨b',cs,cap,h1,h2,hcs,hle,hcm,h3⟩
 .cases h1
 cases h1;have hsize:=ZCj hN;rw[<-hsize]at h3;have h4:dd.size<=cs.size:=by rw[hsize,hcs];exact ycg _ hle
 obtain⟨p1,p2,p3,h5,h6,h7,h8⟩:=lQ yM dd hs hs' C1 off' sub _ hg hc h3;have hcells:=nx hsol hyv;obtain⟨h9,h10⟩:=h8 new dd' _ hp hsz hcells;have hl1:(a.eval y).cells.toList.length=new.size:=Vf _ _ hcells;have hl2:p2.length=sub.size:=Vf _ _ h7;have hll:(a.eval y).cells.toList.length=p2.length:=by rw[hl1,hl2,hsz]
 obtain⟨k1,k2⟩:=rB h5 hll h4;rw[h6]at k1 k2
 have hnl:off'+(a.eval y).cells.toList.length<=cs.size:=by
  have:=congrArg List.length h5;grind
 have hone:∀u,u∈(a.eval y).cells.toList->u.oneCell'=af:=vg new _ hsol hcells;have hst:=run_storeCells_at P b off' e (a.eval y).cells.toList 0 cs σ.w h2 (by simpa using hnl) hone;simp only[ybu]at hst;let ncs:Array yh:=(cs.toList.take off'++(a.eval y).cells.toList++cs.toList.drop (off'+(a.eval y).cells.toList.length)).toArray;let σ':Sg:={ σ with m:=σ.m.set id (ab b),H:=σ.H.set id (.row v' s af e dd'),w:=σ.w.setRow b ncs};have hncs:ncs.size=cs.size:=k2;have zB:σ'.w.heap[b]? =ab (.cells ncs e (0,0)):=setRow_heap σ.w b cs _ e _ h2;have hoth:∀j,b≠j->σ'.w.heap[j]? =σ.w.heap[j]? :=λj hj=>setRow_other σ.w b j _ (Ne.symm hj)
 obtain⟨to,ok'⟩:=Wg (σ':=σ') (mi:=ab b) (mi':=ab b) ok hH hm rfl rfl rfl rfl rfl rfl rfl (by simp[σ'])
  (λj hj hne=>hoth j (λhh=>hne (by rw[hh]))) (λb' o v _ hu _=>by cases hu.1) (λo _ hu=>by cases hu.1) (.inl rfl) (λ⟨d,st,h⟩=>by cases h) (λ⟨d,st,h⟩=>by cases h)
  (λs e xs h=>by cases h) (λleaf=>⟨N,by rw[hN'];exact hN,.inr ⟨b,ncs,cap,rfl,zB,by rw[hncs];exact hcs,hle,hcm,by
    rw[<-hsize];show yG σ' dd' (ncs.toList.take dd.size);rw[show ncs.toList.take dd.size=p1++((a.eval y).cells.toList++p3) from k1]
    exact Yi leaf dd' _ h9⟩⟩)
  (λv s st e2 d h=>by cases h;exact⟨v',af,_,rfl,yj _,λ_=>⟨rfl,λb2 cur hb2 hcur=>by
    cases hb2;rw[h2]at hcur;cases hcur;exact⟨ncs,zB,hncs⟩⟩⟩)
 refine vo (σ':=σ') ?_ to ok'
 cases hi':P.info? t with
 |none=>simp[hi']at hi
 |some i=>
  have hs:(a.eval y).cells.size=i.size:=by
   rw[<-yby,hl1, <-ht];simp[Program.cellsOf,hi']
  simp only[execOp,ho,hxv,Instr.storeAt,Instr.sureAddr,storeVar,sizeOf,typeInfo,Sem.run_bind,run_program,Result.andThen_ok,hi',Sem.run_pure,hs,ne_eq,not_true,if_false,hst];rfl
theorem EU(ok:Ok σ){s:Nat}{e:yc}{dd:Dv}{N n cap:Nat}{cells:Array yh}{w':World}{v:yh}(hg:σ.w.grownBy w' ae)(zB:w'.heap[σ.w.heap.size]? =ab (.cells cells e (0,0)))(hcs:cells.size=cap*s)(hlt:σ.w.heap.size < w'.heap.size)
 (hN:aY dd s=ab N) (hle:N<=cap) (hcm:cap<=maxLen) (hn:n<=N) (hr:yG σ dd (cells.toList.take (N*s))) (hx:(execOp a.eval o).run P σ.w=.ok (.value (.slice (ab ⟨σ.w.heap.size,0,ae⟩) n cap)) w'):
 XE P o a σ (.rv σ.H.length 0 s 0 n) (σ.H++[.row 0 s af e dd]):=by
 let σ':Sg:={ σ with m:=σ.m++[ab σ.w.heap.size],H:=σ.H++[.row 0 s af e dd],w:=w'}
 have hmlast:σ'.m[σ.H.length]? =ab (ab σ.w.heap.size):=by
  show(σ.m++[ab σ.w.heap.size])[σ.H.length]? =_;rw[yaq (by rw[ok.len];exact yj _),ok.len];simp
 obtain⟨to,ok'⟩:=VV (σ':=σ') ok rfl rfl rfl rfl hg (.inr ⟨_,rfl,yj _,hlt⟩)
  (λleaf=>⟨N,hN,.inr ⟨σ.w.heap.size,cells,cap,rfl,zB,hcs,hle,hcm,Yi leaf _ _ hr⟩⟩)
 refine ZP (σ':=σ') hx to ok' ?_;rw[Zi rfl];simp only[yG];refine⟨_,_,rfl,by omega,hcm,λh=>(by cases h),λ_=>⟨_,_,rfl⟩,0,s,af,e,dd,by simp[σ'],yj _,λ_=>⟨rfl,.inr ⟨σ.w.heap.size,cells,hmlast,zB,by rw[hcs,yat],λ_=>by simp⟩⟩⟩
theorem ZLl(ok:Ok σ){t e:yc}{l c:ym}{i:TypeInfo}{n n':Int}(yK:aK σ ts a)(ho:o.op=.makeSlice t l c)(hu:P.underlying t=ab (.slice e))(hl:ZB P ts 0 l=.p (.int .i64 n))(hcp:ZB P ts 0 c=.p (.int .i64 n'))
 (hi:P.info? e=ab i) (hz:ca i=af) (h0:n=0) (h1:0<=n') (h2:n'.toNat*i.bytes<=Zv) (h3:n'.toNat<=maxLen):
 XE P o a σ (.rv σ.H.length 0 i.size 0 0) (σ.H++[.row 0 i.size af e (.p (.arr 0 i.size []))]):=by
 subst h0;obtain⟨z,hzz,hzs⟩:=kQ hz;obtain⟨cells,zU,hcs,_⟩:=ER (w:=σ.w) (t:=t) hu hi hzz (Int.le_refl 0) h1 h2 h3;have hlv:=ZY (hl ▸ Zs (P:=P) yK 0 l);have hcv:=ZY (hcp ▸ Zs (P:=P) yK 0 c);refine EU (N:=0) (cap:=n'.toNat) (w':=σ.w.alloc (.cells cells e)) (v:=.bool af) ok (World.grownBy_alloc σ.w (.cells cells e) ae) (heap_alloc_new σ.w _) hcs (by simp) (by simp[aY]) (Nat.zero_le _) h3 (yj _) ?_ ?_
 .simp[yG,aw,aq];intro x hx;cases hx
 .have hrun':=zU;simp only[Int.toNat_zero]at hrun';simp[execOp,ho,hlv,hcv,hrun']
theorem ZLm(ok:Ok σ)(yK:aK σ ts a){t e:yc}{i:TypeInfo}{len:Nat}{parts:Array (Nat×ym)}{xs:yL Pl}(ho:o.op=.buildSlice t len parts)(hu:P.underlying t=ab (.slice e))
 (hi:P.info? e=ab i) (hz:ca i=af) (hne:i.size≠0) (hsz:len*i.size<=16777216) (hl:VR P ts e (P.cellsOf e) len parts.toList=ab xs):
 XE P o a σ (.rv σ.H.length 0 i.size 0 len) (σ.H++[.row 0 i.size af e (.p (.arr len i.size (xs.map Pl.soft)))]):=by
 obtain⟨cells,zU,hr,zV,zO,hcs⟩:=vl (P:=P) yK hu hi hz hsz hl
 have hle:len<=maxLen:=by
  have:=Nat.le_mul_of_pos_right len (Nat.pos_of_ne_zero hne);simp only[maxLen];omega
 refine EU (N:=len) (cap:=len) (w':=σ.w.alloc (.cells cells e)) (v:=.bool af) ok (World.grownBy_alloc σ.w (.cells cells e) ae) (heap_alloc_new σ.w _) hcs (by simp) (by simp[aY]) (yj _) hle (yj _) ?_ (vk ho zU);rw[<-hcs, <-yby,List.take_length];simp only[yG,aw];refine⟨by rw[yab];exact zV,λy hy=> ?_, ?_⟩
 .obtain⟨x,hx,rfl⟩:=yci.1 hy;rw[DU];exact zO x hx
 .rw[<-Pl.cj];exact(cq xs).cW _ _ _ hr
theorem ZH3(ok:Ok σ)(yK:aK σ ts a){t e:yc}{i:TypeInfo}{len id v:Nat}{st:Bool}{dd:Dv}{parts:Array (Nat×ym)}{xs:yL Pl}(ho:o.op=.buildSlice t len parts)(hu:P.underlying t=ab (.slice e))
 (hi:P.info? e=ab i) (hz:ca i=af) (hne:i.size≠0) (hsz:len*i.size<=16777216) (hl:VR P ts e (P.cellsOf e) len parts.toList=ab xs) (hH:σ.H[id]? =ab (.row v i.size st e dd)):
 XE P o a σ (.rv id (v+1) i.size 0 len) (σ.H.set id (.row (v+1) i.size af e (.p (.arr len i.size (xs.map Pl.soft))))):=by
 obtain⟨cells,zU,hr,zV,zO,hcs⟩:=vl (P:=P) yK hu hi hz hsz hl
 have hle:len<=maxLen:=by
  have:=Nat.le_mul_of_pos_right len (Nat.pos_of_ne_zero hne);simp only[maxLen];omega
 have hlt:id < σ.m.length:=by rw[ok.len];exact(yo.1 hH).1
 have hm:σ.m[id]? =ab σ.m[id]:=yac hlt;let σ':Sg:={ σ with m:=σ.m.set id (ab σ.w.heap.size),H:=σ.H.set id (.row (v+1) i.size af e (.p (.arr len i.size (xs.map Pl.soft)))),w:=σ.w.alloc (.cells cells e)};have zB:σ'.w.heap[σ.w.heap.size]? =ab (.cells cells e (0,0)):=heap_alloc_new σ.w _;have hg:=World.grownBy_alloc σ.w (.cells cells e) ae;have hself:σ'.m[id]? =ab (ab σ.w.heap.size):=an hm;have hHself:σ'.H[id]? =ab (.row (v+1) i.size af e (.p (.arr len i.size (xs.map Pl.soft)))):=an hH
 obtain⟨to,ok'⟩:=Wg (σ':=σ') (mi:=σ.m[id]) (mi':=ab σ.w.heap.size) ok hH hm rfl rfl rfl rfl rfl rfl rfl hg.size
  (λj hj _=>hg.block j hj (by simp)) (λb o v hb _ hc=>by
    have hj:=ok.lt id b (by rw[hm,hb]);rw[World.cell?_of_block (w:=σ.w) (hg.block b hj (by simp))];exact hc) (λo he hu=>by
    have hj:=ok.lt id _ (by rw[hm, <-he]);omega) (.inr ⟨_,rfl,yj _,by simp[σ']⟩) (λ⟨d,st,h⟩=>by cases h) (λ⟨d,st,h⟩=>by cases h) (λs e xs h=>by cases h)
  (λleaf=>⟨len,by simp[aY],.inr ⟨_,cells,len,rfl,zB,hcs,yj _,hle,by
    rw[<-hcs, <-yby,List.take_length];simp only[yG,aw];refine⟨by rw[yab];exact zV,λy hy=> ?_, ?_⟩
    .obtain⟨x,hx,rfl⟩:=yci.1 hy;rw[DU];exact zO x hx
    .rw[<-Pl.cj];exact(cq xs).cW _ _ _ (aD leaf.cells _ _ hr)⟩⟩)
  (λv' s' st' e' d' h=>by cases h;exact⟨v+1,af,_,rfl,Nat.le_succ _,λhv=>absurd hv (by omega)⟩)
 refine ZP (σ':=σ') (vk ho zU) to ok' ?_;rw[Zi rfl];simp only[yG];refine⟨ab ⟨σ.w.heap.size,0,ae⟩,len,rfl,yj _,hle,λh=>(by cases h),λ_=>⟨_,_,rfl⟩,v+1,i.size,af,e,_,hHself,yj _,λ_=>⟨rfl,.inr ⟨_,cells,hself,zB,by rw[yat];exact hcs,λ_=>by rw[Nat.zero_mul]⟩⟩⟩
theorem ZBx(ok:Ok σ)(yK:aK σ ts a){c:Call}{x y:ym}{t u e:yc}{i:TypeInfo}{ys:yL Pl}(ho:o.op=.call c)(yS:c.callee=.builtin .append)(yQ:c.args.toList=[x,y])
 (htys:c.argTypes.toList=[t,u]) (ht:P.underlying t=ab (.slice e)) {s:Nat} (hx:ZB P ts t x=.p (.sl (ab ag) s [])) (hi:P.info? e=ab i) (hz:ca i=af) (hne:i.size≠0)
 (hsrc:ny P σ (P.cellsOf e) u (a.eval y) ys) (hb:ys.length*i.bytes<=Zv) (hm:ys.length<=maxLen):
 XE P o a σ (.rv σ.H.length 0 i.size 0 ys.length) (σ.H++[.row 0 i.size af e (.p (.arr ys.length i.size ys))]):=by
 have hxv:=Zs (P:=P) yK t x;rw[hx]at hxv;have hxn:=nA hxv;have hce:P.cellsOf e=i.size:=by simp[Program.cellsOf,hi]
 rcases vj (P:=P) (ty:=o.type) ok yK ht hi hz hne hsrc hb hm with⟨rfl,zU⟩|⟨zW,yJ,hys,zO,hr,hge,hcm,hcs,zU⟩
 .let σ':Sg:={ σ with m:=σ.m++[ae],H:=σ.H++[.row 0 i.size af e (.p (.arr 0 i.size []))]}
  have hmlast:σ'.m[σ.H.length]? =ab ae:=by
   show(σ.m++[ae])[σ.H.length]? =_;rw[yaq (by rw[ok.len];exact yj _),ok.len];simp
  obtain⟨to,ok'⟩:=VV (σ':=σ') ok rfl rfl rfl rfl (World.grownBy.refl σ.w ae) (.inl rfl) (λleaf=>⟨0,by simp[aY],.inl ⟨rfl,rfl⟩⟩);refine ZP (σ':=σ') (Yz ho yS yQ htys (by rw[hxn];exact zU)) to ok' ?_;rw[Zi rfl];simp only[yG];refine⟨ae,0,rfl,yj _,by simp[maxLen],λ_=>rfl,λh=>(by simp at h),0,i.size,af,e,.p (.arr 0 i.size []),by simp[σ'],yj _,λ_=>⟨rfl,.inl ⟨hmlast,rfl,rfl⟩⟩⟩
 .have zV:zW.length=ys.length*i.size:=by rw[aL _ _ hr,aM zO]
  refine EU (N:=ys.length) (cap:=grownCap σ.w ys.length 0 e) (w':=σ.w.drew.alloc (.cells (zW.toArray++yJ) e)) (v:=.bool af) ok (Wu σ.w (.cells (zW.toArray++yJ) e) ae) (heap_alloc_new σ.w.drew _) hcs (by simp) (by simp[aY]) hge hcm (yj _) ?_ (Yz ho yS yQ htys (by rw[hxn];exact zU));rw[<-zV];simp only[Array.toList_append,List.take_left',yG,aw];grind
theorem EV{w:World}{t u ty e:yc}{i:TypeInfo}{S:yh}{zW:yL yh}{A:yO Addr}{n c:Nat}(ht:P.underlying t=ab (.slice e))(hi:P.info? e=ab i)(hS:Src P w u i.size S 0 zW)(hn:n<=c)(hA:A=ae->c=0):
 (Builtin.append_ #[t,u] ty #[.slice A n c,S]).run P w=.ok (.slice A n c) w:=by
 obtain⟨hty,hl,hf,hfd,hc⟩:=hS;have hnews:zW=[]:=ybh (by rw[hc];simp);subst hnews
 rcases hty with⟨e'',hu⟩|hu <;>
  (cases A with
   |none=>
    have:=hA rfl;have hn0:n=0:=by omega
    subst this;subst hn0
    simp[Builtin.append_,run_underlying ht,run_underlying hu,sizeOf,typeInfo,hi,hl,hf]
   |some A=>
    simp[Builtin.append_,run_underlying ht,run_underlying hu,sizeOf,typeInfo,hi,hl,hf,hn,storeCells])
theorem ZBy(ok:Ok σ)(yK:aK σ ts a){c:Call}{x y:ym}{t u e:yc}{i:TypeInfo}{id v s lo n:Nat}(ho:o.op=.call c)(yS:c.callee=.builtin .append)(yQ:c.args.toList=[x,y])
 (htys:c.argTypes.toList=[t,u]) (ht:P.underlying t=ab (.slice e)) (hx:ZB P ts t x=.rv id v s lo n) (hi:P.info? e=ab i)
 (hsrc:ny P σ (P.cellsOf e) u (a.eval y) []):XE P o a σ (.rv id v s lo n) σ.H:=by
 have hxv:=Zs (P:=P) yK t x;rw[hx]at hxv;have hxv0:=hxv;obtain⟨A,cc,hv,h2,h3,h4,_⟩:=jZ hxv;have hce:P.cellsOf e=i.size:=by simp[Program.cellsOf,hi]
 rw[hce]at hsrc;obtain⟨zW,hS,_,_⟩:=hsrc;refine Zl (v:=a.eval x) ok (Yz ho yS yQ htys ?_) hxv0;rw[hv];exact EV (P:=P) (ty:=o.type) ht hi hS h2 h4
theorem ZJH{v s N o:Nat}{st:Bool}{e:yc}{xs:yL Pl}(hu:(ay.row v s st e (.p (.arr N s xs))).bp o):st=ag/\o < N*s:=by
 obtain⟨h1,N',h2,h3⟩:=hu;rw[show aY (.p (.arr N s xs)) s=ab N from yW rfl]at h2
 grind
theorem EW{v v' s n N m o:Nat}{st:Bool}{e:yc}{xs ys:yL Pl}(hst:st=af\/n=N)(hu:(ay.row v s st e (.p (.arr N s xs))).bp o):(ay.row v' s st e (.p (.arr (n+m) s ys))).bp o:=by
 obtain⟨h1,h2⟩:=ZJH hu;refine⟨h1,n+m,yW rfl, ?_⟩;rcases hst with h|h
 .grind
 .subst h;grind
theorem ZDJ(ok:Ok σ)(yK:aK σ ts a){c:Call}{x y:ym}{t u e:yc}{i:TypeInfo}{xs ys:yL Pl}{id v n N:Nat}{st:Bool}(hst:st=af\/n=N)(ho:o.op=.call c)(yS:c.callee=.builtin .append)
 (yQ:c.args.toList=[x,y]) (htys:c.argTypes.toList=[t,u]) (ht:P.underlying t=ab (.slice e)) (hx:ZB P ts t x=.rv id v i.size 0 n) (hi:P.info? e=ab i) (hz:ca i=af) (hne:i.size≠0)
 (hsrc:ny P σ i.size u (a.eval y) ys) (hH:σ.H[id]? =ab (.row v i.size st e (.p (.arr N i.size xs)))) (hnN:n<=N) (hb:(n+ys.length)*i.bytes<=Zv) (hm:n+ys.length<=maxLen):
 XE P o a σ (.rv id (v+1) i.size 0 (n+ys.length)) (σ.H.set id (.row (v+1) i.size st e (.p (.arr (n+ys.length) i.size (xs.take n++ys))))):=by
 have hxv:=Zs (P:=P) yK t x;rw[hx]at hxv;obtain⟨A0,c0,hv0,_,_,_,hpall,hplen,q,hq,hql,hqc⟩:=vu ok hxv hH rfl (by omega:0+n<=N);simp only[List.drop_zero]at hpall hplen hq;obtain⟨A,cp,hv,h2,h3,h4,h5,v2,s2,st2,e2,d2,h6,h7,h8⟩:=jZ hxv;rw[hv]at hv0;injection hv0 with e1 e2 e3;subst e1;subst e3;rw[hH]at h6;cases h6;obtain⟨_,h9⟩:=h8 rfl;have hsrc2:=hsrc;obtain⟨zW,hS,hr,zO⟩:=hsrc2;obtain⟨z,hzz,hzs⟩:=kQ hz;have hidlt:id < σ.m.length:=by rw[ok.len];exact(yo.1 hH).1
 have hmi:σ.m[id]? =ab σ.m[id]:=yac hidlt;have hnl:zW.length=ys.length*i.size:=hS.cells;have hone:∀v,v∈zW->v.oneCell'=af:=cf _ _ hr;have zV:(xs.take n++ys).length=n+ys.length:=by rw[yl,hplen]
 have hall':aR i.size (xs.take n++ys):=by
  by_cases hy:ys=[]
  .grind
  .exact VT hpall (zO hy)
 have hrowN:aY (.p (.arr (n+ys.length) i.size (xs.take n++ys))) i.size=ab (n+ys.length):=by simp[aY]
 have grow:cp < n+ys.length->XE P o a σ (.rv id (v+1) i.size 0 (n+ys.length)) (σ.H.set id (.row (v+1) i.size st e (.p (.arr (n+ys.length) i.size (xs.take n++ys))))):=by
  intro hgr
  have hold:(Builtin.firstCells i.size n (.slice A n cp)).run P σ.w.drew=.ok q.toArray σ.w.drew:=by
   rcases ycd n with h0|h0
   .subst h0;have:q=[]:=ybh (by rw[hql];simp);subst this;cases A <;> simp[Builtin.firstCells,loadCells,loadCellsFrom]
   .obtain⟨b,cur,cap,rfl,_,_,_,hcell⟩:=hqc h0;refine run_firstCells_some _ _ _ ⟨b,_,ae⟩ _ cp q hql (λj v hv=> ?_);rw[Addr.bw];simp_all
  have zU:=EE (P:=P) (ty:=o.type) ht hi hzz hS hold hgr hm hb;have hge:=grownCap_ge σ.w (n+ys.length) cp e;have hcm:=grownCap_le_maxLen σ.w (n+ys.length) cp e hm;let k:Nat:=grownCap σ.w (n+ys.length) cp e;let yJ:Array yh:=Builtin.zeroCells z.cells (k - (n+ys.length));let ncur:Array yh:=q.toArray++zW.toArray++yJ;let σ':Sg:={ σ with m:=σ.m.set id (ab σ.w.heap.size),H:=σ.H.set id (.row (v+1) i.size st e (.p (.arr (n+ys.length) i.size (xs.take n++ys)))),w:=σ.w.drew.alloc (.cells ncur e)}
  have hncs:ncur.size=k*i.size:=by
   simp only[ncur,yJ,Array.size_append,List.size_toArray,size_zeroCells,hzs,hql,hnl, <-yau];congr 1;omega
  have htk:ncur.toList.take ((n+ys.length)*i.size)=q++zW:=by
   have e1:(q++zW).length=(n+ys.length)*i.size:=by rw[yl,hql,hnl,yau]
   grind
  have zB:σ'.w.heap[σ.w.heap.size]? =ab (.cells ncur e (0,0)):=heap_alloc_new σ.w.drew _;have hg:=Wu σ.w (.cells ncur e) ae;have hblk':∀b,b < σ.w.heap.size->σ'.w.heap[b]? =σ.w.heap[b]? :=λb hb=>hg.block b hb (by simp);have hmset:σ'.m[id]? =ab (ab σ.w.heap.size):=an hmi;have hHset:σ'.H[id]? =ab (.row (v+1) i.size st e (.p (.arr (n+ys.length) i.size (xs.take n++ys)))):=an hH
  obtain⟨to,ok'⟩:=Wg (σ':=σ') (mi:=σ.m[id]) (mi':=ab σ.w.heap.size) ok hH hmi rfl rfl rfl rfl rfl rfl rfl hg.size
   (λb hb _=>hblk' b hb) (λb' o v hb' _ hcell=>by
     rw[World.cell?_of_block (w:=σ.w) (hblk' b' (Qd hcell))];exact hcell)
   (λo h _=>by
     have:=ok.lt id σ.w.heap.size (by rw[hmi, <-h]);omega) (.inr ⟨_,rfl,yj _,by simp[σ']⟩) (λ⟨d,st,h⟩=>by cases h) (λ⟨d,st,h⟩=>by cases h)
   (λs' e' xs' h=>by cases h)
   (λleaf=>⟨n+ys.length,hrowN,.inr ⟨σ.w.heap.size,ncur,k,rfl,zB,hncs,hge,hcm,by
     rw[htk];simp only[yG,aw];exact⟨zV,hall',Ym (aD leaf.cells _ _ hq) (aD leaf.cells _ _ hr)⟩⟩⟩)
   (λv2 s st e d h=>by cases h;exact⟨v+1,_,_,rfl,by omega,λhh=>absurd hh (by omega)⟩)
  refine ZP (σ':=σ') (Yz ho yS yQ htys (by rw[hv];exact zU)) to ok' ?_;rw[Zi rfl];simp only[yG];exact⟨_,_,rfl,hge,hcm,λh=>(by cases h),λ_=>⟨_,_,rfl⟩,v+1,i.size,st,e,_,hHset,yj _,λ_=>⟨rfl,.inr ⟨σ.w.heap.size,ncur,hmset,zB,by rw[hncs,yat],λ_=>by simp⟩⟩⟩
 rcases h9 with⟨k1,rfl,k2⟩|⟨b,cur,k1,k3,k4,k5⟩
 .have hc0:cp=0:=by omega
  subst hc0;have hn0:n=0:=by omega
  subst hn0;rcases ycd ys.length with h0|h0
  .have hys:ys=[]:=ybh h0;subst hys;have zU:=EV (P:=P) (ty:=o.type) (A:=ae) (n:=0) (c:=0) ht hi hS (yj _) (λ_=>rfl);let σ':Sg:={ σ with m:=σ.m.set id σ.m[id],H:=σ.H.set id (.row (v+1) i.size st e (.p (.arr (0+([]:yL Pl).length) i.size (xs.take 0++[]))))};have hmset:σ'.m[id]? =ab σ.m[id]:=an hmi;have hHset:σ'.H[id]? =ab (.row (v+1) i.size st e (.p (.arr (0+([]:yL Pl).length) i.size (xs.take 0++[])))):=an hH;have hmn:σ.m[id]=ae:=by rw[hmi]at k1;exact yaw k1
   obtain⟨to,ok'⟩:=Wg (σ':=σ') (mi:=σ.m[id]) (mi':=σ.m[id]) ok hH hmi rfl rfl rfl rfl rfl rfl rfl (yj _)
    (λ_ _ _=>rfl) (λ_ _ _ _ _ h=>h) (λo _ hu=>EW hst hu) (.inl rfl) (λ⟨d,st,h⟩=>by cases h) (λ⟨d,st,h⟩=>by cases h)
    (λs e xs h=>by cases h) (λleaf=>⟨0,by simp[aY],.inl ⟨hmn,rfl⟩⟩)
    (λv2 s st e d h=>by cases h;exact⟨v+1,_,_,rfl,by omega,λhh=>absurd hh (by omega)⟩)
   refine ZP (σ':=σ') (Yz ho yS yQ htys (by rw[hv];exact zU)) to ok' ?_;rw[Zi rfl];simp only[yG];exact⟨ae,0,rfl,yj _,by simp[maxLen],λ_=>rfl,λh=>(by simp at h),v+1,i.size,st,e,_,hHset,yj _,λ_=>⟨rfl,.inl ⟨by rw[hmset,hmn],rfl,rfl⟩⟩⟩
  grind
 .by_cases hroom:n+ys.length<=cp
  .have hmb:σ.m[id]=ab b:=by rw[hmi]at k1;exact yaw k1
   rw[yat]at k4;rcases ycd cp with hcp0|hcp0
   .have hn0:n=0:=by omega
    have hy0:ys.length=0:=by omega
    have hys:ys=[]:=ybh hy0;subst hys;have zU:=EV (P:=P) (ty:=o.type) ht hi hS h2 h4;let σ':Sg:={ σ with m:=σ.m.set id (ab b),H:=σ.H.set id (.row (v+1) i.size st e (.p (.arr (n+([]:yL Pl).length) i.size (xs.take n++[]))))};have hmset:σ'.m[id]? =ab (ab b):=an hmi;have hHset:σ'.H[id]? =ab (.row (v+1) i.size st e (.p (.arr (n+([]:yL Pl).length) i.size (xs.take n++[])))):=an hH
    obtain⟨to,ok'⟩:=Wg (σ':=σ') (mi:=ab b) (mi':=ab b) ok hH k1 rfl rfl rfl rfl rfl rfl rfl (yj _)
     (λ_ _ _=>rfl) (λ_ _ _ _ _ h=>h) (λo _ hu=>EW hst hu) (.inl rfl) (λ⟨d,st,h⟩=>by cases h) (λ⟨d,st,h⟩=>by cases h)
     (λs e xs h=>by cases h) (λleaf=>⟨n,by simp[aY],.inr ⟨b,cur,cp,rfl,k3,k4,h2,h3,by
       subst hn0;simp[yG,aw,aq];intro x hx;cases hx⟩⟩)
     (λv2 s st e d h=>by cases h;exact⟨v+1,_,_,rfl,by omega,λhh=>absurd hh (by omega)⟩)
    refine ZP (σ':=σ') (Yz ho yS yQ htys (by rw[hv];exact zU)) to ok' ?_;rw[Zi rfl];simp only[yG];exact⟨A,cp,rfl,h2,h3,h4,h5,v+1,i.size,st,e,_,hHset,yj _,λ_=>⟨rfl,.inr ⟨b,cur,hmset,k3,by rw[yat];exact k4,λh=>absurd h (by omega)⟩⟩⟩
   have hA:=k5 hcp0;rw[Nat.zero_mul]at hA;subst hA;have zU:=ED (P:=P) (ty:=o.type) ht hi hS hone k3 hroom k4
   have hus:(cur.toList.take (n*i.size)).length=n*i.size:=by
    simp_all
   have hqe:cur.toList.take (n*i.size)=q:=by
    rcases ycd n with h0|h0
    .grind
    .obtain⟨b2,cur2,cap2,hbb,hm2,hb2,hcs2,hcell⟩:=hqc h0
     have hbe:b=b2:=by
      grind
     subst hbe;apply ybj;intro j;rw[ycr];by_cases hj:j < n*i.size
     .rw[yW hj];have hjq:j < q.length:=by rw[hql];exact hj
      have:=hcell j q[j] (yac hjq);rw[Nat.zero_mul,yat,cell_of_row σ.w b j cur e (0,0) k3, <-ycf]at this;grind
     grind
   let ncur:Array yh:=(cur.toList.take (n*i.size)++zW++cur.toList.drop (n*i.size+zW.length)).toArray;let σ':Sg:={ σ with m:=σ.m.set id (ab b),H:=σ.H.set id (.row (v+1) i.size st e (.p (.arr (n+ys.length) i.size (xs.take n++ys)))),w:=σ.w.setRow b ncur};have hfit:n*i.size+zW.length<=cur.size:=by rw[hnl,k4, <-yau];exact ycg _ hroom
   have hncs:ncur.size=cp*i.size:=by
    grind
   have zB:σ'.w.heap[b]? =ab (.cells ncur e (0,0)):=setRow_heap σ.w b cur _ e _ k3;have hoth:∀j,b≠j->σ'.w.heap[j]? =σ.w.heap[j]? :=λj hj=>setRow_other σ.w b j _ (Ne.symm hj);have hmset:σ'.m[id]? =ab (ab b):=an hmi;have hHset:σ'.H[id]? =ab (.row (v+1) i.size st e (.p (.arr (n+ys.length) i.size (xs.take n++ys)))):=an hH
   have htk:ncur.toList.take ((n+ys.length)*i.size)=q++zW:=by
    have e1:(cur.toList.take (n*i.size)++zW).length=(n+ys.length)*i.size:=by rw[yl,hus,hnl,yau]
    grind
   obtain⟨to,ok'⟩:=Wg (σ':=σ') (mi:=ab b) (mi':=ab b) ok hH k1 rfl rfl rfl rfl rfl rfl rfl (by simp[σ'])
    (λj hj hne=>hoth j (λhh=>hne (by rw[hh]))) (λb' o v hb' hu hcell=>by
      cases hb'
      have ho':o < n*i.size:=by
       rcases hst with h|h
       .rw[h]at hu;cases hu.1
       .rw[h];exact(ZJH hu).2
      rw[cell_of_row σ'.w b o ncur e (0,0) zB];rw[cell_of_row σ.w b o cur e (0,0) k3, <-ycf]at hcell;rw[show ncur[o]? =(cur.toList.take (n*i.size)++zW++cur.toList.drop (n*i.size+zW.length))[o]? from by simp[ncur],yad,ybe (by rw[hus];exact ho'),ycr,yW ho']
      exact hcell)
    (λo _ hu=>EW hst hu) (.inl rfl) (λ⟨d,st,h⟩=>by cases h) (λ⟨d,st,h⟩=>by cases h)
    (λs' e' xs' h=>by cases h)
    (λleaf=>⟨n+ys.length,hrowN,.inr ⟨b,ncur,cp,rfl,zB,hncs,hroom,h3,by
      rw[htk];simp only[yG,aw];exact⟨zV,hall',Ym (aD leaf.cells _ _ hq) (aD leaf.cells _ _ hr)⟩⟩⟩)
    (λv2 s st e d h=>by cases h;exact⟨v+1,_,_,rfl,by omega,λhh=>absurd hh (by omega)⟩)
   refine ZP (σ':=σ') (Yz ho yS yQ htys (by rw[hv];exact zU)) to ok' ?_;rw[Zi rfl];simp only[yG];exact⟨_,_,rfl,hroom,h3,λh=>(by cases h),λ_=>⟨_,_,rfl⟩,v+1,i.size,st,e,_,hHset,yj _,λ_=>⟨rfl,.inr ⟨b,ncur,hmset,zB,by rw[hncs,yat],λ_=>by simp⟩⟩⟩
  grind
theorem ZBz(ok:Ok σ)(yK:aK σ ts a){c:Call}{x y:ym}{t u e:yc}{i:TypeInfo}{xs ys:yL Pl}{id v n N:Nat}(ho:o.op=.call c)(yS:c.callee=.builtin .append)
 (yQ:c.args.toList=[x,y]) (htys:c.argTypes.toList=[t,u]) (ht:P.underlying t=ab (.slice e)) (hx:ZB P ts t x=.rv id v i.size 0 n) (hi:P.info? e=ab i) (hz:ca i=af) (hne:i.size≠0)
 (hsrc:ny P σ i.size u (a.eval y) ys) (hH:σ.H[id]? =ab (.row v i.size af e (.p (.arr N i.size xs)))) (hpos:0 < N) (hroomN:n+ys.length<=N):
 XE P o a σ (.rv id v i.size 0 (n+ys.length)) (σ.H.set id (.row v i.size af e (.p (.arr N i.size (xs.take n++(ys++xs.drop (n+ys.length))))))):=by
 have hxv:=Zs (P:=P) yK t x;rw[hx]at hxv;obtain⟨A,cp,hv,h2,h3,h4,h5,v2,s2,st2,e2,d2,h6,h7,h8⟩:=jZ hxv;rw[hH]at h6;cases h6;obtain⟨_,h9⟩:=h8 rfl;have hsrc2:=hsrc;obtain⟨zW,hS,hr,zO⟩:=hsrc2;have hidlt:id < σ.m.length:=by rw[ok.len];exact(yo.1 hH).1
 have hmi:σ.m[id]? =ab σ.m[id]:=yac hidlt;have hnl:zW.length=ys.length*i.size:=hS.cells;have hone:∀v,v∈zW->v.oneCell'=af:=cf _ _ hr;obtain⟨N',hN',hent⟩:=ok.cY id _ _ hH hmi;simp only[aY,if_true,yp]at hN';subst hN';rcases hent with⟨_,h0⟩|⟨b,cur,cap,hh,g2,g4,g5,g6,g7⟩
 .omega
 simp only[yG,aw]at g7;obtain⟨hxl,hxs,g7⟩:=g7;rcases h9 with⟨k1,_,_⟩|⟨b',cur',k1,k3,k4,k5⟩
 .rw[hmi,hh]at k1;cases k1
 rw[hmi,hh]at k1;cases k1;rw[g2]at k3;cases k3;have hm:σ.m[id]? =ab (ab b):=by rw[hmi,hh]
 rw[yat]at k4;have hcc:cp=cap:=Nat.eq_of_mul_eq_mul_right (Nat.pos_of_ne_zero hne) (k4.symm.trans g4);subst hcc;have hroom:n+ys.length<=cp:=ybk hroomN g5;have hA:=k5 (by omega);rw[Nat.zero_mul]at hA;subst hA;have zU:=ED (P:=P) (ty:=o.type) ht hi hS hone g2 hroom k4
 have hsplit:xs=xs.take n++((xs.drop n).take ys.length++xs.drop (n+ys.length)):=by
  have e1:xs.drop (n+ys.length)=(xs.drop n).drop ys.length:=by rw[List.drop_drop]
  rw[e1,ybd,ybd]
 have g7':=g7;rw[hsplit]at g7';obtain⟨q1,q23,e1,r1,r23⟩:=Yh g7';obtain⟨q2,q3,rfl,r2,r3⟩:=Yh r23;have hs1:aR i.size (xs.take n):=QY hxs n;have hs2:aR i.size ((xs.drop n).take ys.length):=QY (uV hxs n) _;have ly:((xs.drop n).take ys.length).length=ys.length:=by rw[yx,ybw,ybc (by omega)]
 have l1:q1.length=n*i.size:=by rw[aL _ _ r1,aM hs1,yx,ybc (by omega)]
 have l2:q2.length=ys.length*i.size:=by rw[aL _ _ r2,aM hs2,ly]
 have hsz:N*i.size<=cur.size:=by rw[g4];exact ycg _ g5
 obtain⟨m1,m2⟩:=rB (y':=zW) e1 (by rw[hnl,l2]) hsz;rw[l1]at m1 m2;let ncur:Array yh:=(cur.toList.take (n*i.size)++zW++cur.toList.drop (n*i.size+zW.length)).toArray;let σ':Sg:={ σ with m:=σ.m.set id (ab b),H:=σ.H.set id (.row v i.size af e (.p (.arr N i.size (xs.take n++(ys++xs.drop (n+ys.length)))))),w:=σ.w.setRow b ncur};have hncs:ncur.size=cur.size:=m2;have zB:σ'.w.heap[b]? =ab (.cells ncur e (0,0)):=setRow_heap σ.w b cur _ e _ g2;have hoth:∀j,b≠j->σ'.w.heap[j]? =σ.w.heap[j]? :=λj hj=>setRow_other σ.w b j _ (Ne.symm hj);have hmset:σ'.m[id]? =ab (ab b):=an hm;have hHset:σ'.H[id]? =ab (.row v i.size af e (.p (.arr N i.size (xs.take n++(ys++xs.drop (n+ys.length)))))):=an hH
 have hall2:aR i.size (xs.take n++(ys++xs.drop (n+ys.length))):=by
  by_cases hy:ys=[]
  .subst hy;exact VT hs1 (VT (λz hz=>by cases hz) (uV hxs _))
  .exact VT hs1 (VT (zO hy) (uV hxs _))
 obtain⟨to,ok'⟩:=Wg (σ':=σ') (mi:=ab b) (mi':=ab b) ok hH hm rfl rfl rfl rfl rfl rfl rfl (by simp[σ'])
  (λj hj hne=>hoth j (λhh=>hne (by rw[hh]))) (λb' o v _ hu _=>by cases hu.1) (λo _ hu=>by cases hu.1) (.inl rfl) (λ⟨d,st,h⟩=>by cases h) (λ⟨d,st,h⟩=>by cases h)
  (λs e xs h=>by cases h) (λleaf=>⟨N,by simp[aY],.inr ⟨b,ncur,cp,rfl,zB,by rw[hncs];exact g4,g5,g6,by
    rw[show ncur.toList.take (N*i.size)=q1++(zW++q3) from m1]
    refine Yi leaf _ _ ?_;simp only[yG,aw];refine⟨by rw[yl,yl,yx,ybw];omega,hall2,Ym r1 (Ym hr r3)⟩⟩⟩)
  (λv2 s st e2 d h=>by cases h;exact⟨v,af,_,rfl,yj _,λ_=>⟨rfl,λb2 cur2 hb2 hcur=>by
    cases hb2;rw[g2]at hcur;cases hcur;exact⟨ncur,zB,hncs⟩⟩⟩)
 refine ZP (σ':=σ') (Yz ho yS yQ htys (by rw[hv];exact zU)) to ok' ?_;rw[Zi rfl];simp only[yG];exact⟨_,_,rfl,hroom,h3,λh=>(by cases h),λ_=>⟨_,_,rfl⟩,v,i.size,af,e,_,hHset,yj _,λ_=>⟨rfl,.inr ⟨b,ncur,hmset,zB,by rw[hncs,yat];exact k4,λ_=>by simp⟩⟩⟩
theorem ZBA(z:Array yh):(Builtin.zeroCells z 1).toList=z.toList:=by
 apply List.ext_getElem
 .simp[Builtin.zeroCells]
 .intro i h1 h2;have hi:i < z.size:=by simpa using h2
  simp[Builtin.zeroCells,Nat.mod_eq_of_lt hi,hi]
theorem ZFR(ok:Ok σ)(yK:aK σ ts a){c:Call}{x:ym}{t e e':yc}{i:TypeInfo}{z:Pl}{xs:yL Pl}{id v lo N:Nat}(ho:o.op=.call c)(yS:c.callee=.builtin .clear)
 (yQ:c.args.toList=[x]) (htys:c.argTypes.toList=[t]) (ht:P.underlying t=ab (.slice e)) (hx:ZB P ts t x=.rv id v i.size lo 1) (hi:P.info? e=ab i) (hz:ca i=af) (hne:i.size≠0) (hzp:WH P e=.p z) (hzs:z.size=i.size)
 (hH:σ.H[id]? =ab (.row v i.size af e' (.p (.arr N i.size xs)))) (hle:lo+1<=N):
 XE P o a σ (.bi []) (σ.H.set id (.row v i.size af e' (.p (.arr N i.size (xs.set lo z))))):=by
 have hxv:=Zs (P:=P) yK t x;rw[hx]at hxv;obtain⟨A,cc,hv,h2,h3,h4,hpall,hplen,q,hq,hql,hqc⟩:=vu ok hxv hH rfl hle;obtain⟨b,cur,cap,rfl,hm,hb,hcs,hcell⟩:=hqc (by omega);obtain⟨N',hN',hent⟩:=ok.cY id _ _ hH hm;simp only[aY,if_true,yp]at hN';subst hN';rcases hent with⟨h,_⟩|⟨b',cur',cap',h,g2,g4,g5,g6,g7⟩
 .cases h
 cases h;rw[hb]at g2;cases g2;obtain⟨zv,hzz,hzsz⟩:=kQ hz
 have hzr:yH σ (.p z) zv:=by
  rw[<-hzp];unfold WH;rw[hi];simp only[hzz];exact ng
 have hzc:=nx (d:=.p z) rfl hzr;simp only[yG]at hzc;have hzone:∀u,u∈zv.cells.toList->u.oneCell'=af:=DS _ _ hzc;have hzl:zv.cells.toList.length=i.size:=by rw[yby,hzsz]
 simp only[yG,aw]at g7;obtain⟨hxl,hxs,h7⟩:=g7;have hlo:lo < xs.length:=by omega
 have hxi:xs[lo]? =ab xs[lo]:=yac hlo;obtain⟨p1,p2,p3,e1,l1,r2,l2,r1,r3⟩:=kL h7 hxi;have l1':p1.length=lo*i.size:=by rw[l1,aM (λz hz=>hxs z (ybn hz)),yx,ybc (by omega)]
 have l2':p2.length=i.size:=by rw[l2];exact hxs _ (List.getElem_mem hlo)
 have hsz:N*i.size<=cur.size:=by rw[g4];exact ycg _ g5
 obtain⟨k1,k2⟩:=rB (y':=zv.cells.toList) e1 (by rw[hzl,l2']) hsz;rw[l1']at k1 k2
 have hnl:lo*i.size+zv.cells.toList.length<=cur.size:=by
  grind
 have hst:=run_storeCells_at P b (lo*i.size) e' zv.cells.toList 0 cur σ.w hb (by simpa using hnl) hzone;simp only[ybu]at hst;let ncs:Array yh:=(cur.toList.take (lo*i.size)++zv.cells.toList++cur.toList.drop (lo*i.size+zv.cells.toList.length)).toArray;let σ':Sg:={ σ with m:=σ.m.set id (ab b),H:=σ.H.set id (.row v i.size af e' (.p (.arr N i.size (xs.set lo z)))),w:=σ.w.setRow b ncs};have hncs:ncs.size=cur.size:=k2;have zB:σ'.w.heap[b]? =ab (.cells ncs e' (0,0)):=setRow_heap σ.w b cur _ e' _ hb;have hoth:∀j,b≠j->σ'.w.heap[j]? =σ.w.heap[j]? :=λj hj=>setRow_other σ.w b j _ (Ne.symm hj)
 obtain⟨to,ok'⟩:=Wg (σ':=σ') (mi:=ab b) (mi':=ab b) ok hH hm rfl rfl rfl rfl rfl rfl rfl (by simp[σ'])
  (λj hj hne=>hoth j (λhh=>hne (by rw[hh]))) (λb' o v _ hu _=>by cases hu.1) (λo _ hu=>by cases hu.1) (.inl rfl) (λ⟨d,st,h⟩=>by cases h) (λ⟨d,st,h⟩=>by cases h)
  (λs e xs h=>by cases h) (λleaf=>⟨N,by simp[aY],.inr ⟨b,ncs,cap',rfl,zB,by rw[hncs];exact g4,g5,g6,by
    rw[show ncs.toList.take (N*i.size)=p1++(zv.cells.toList++p3) from k1]
    refine Yi leaf _ _ ?_;simp only[yG,aw];refine⟨by rw[yba];exact hxl,vn hxs hzs, ?_⟩;rw[nC hxi];refine Ym r1 ?_;simp only[aq];exact⟨_,_,rfl,hzc,r3⟩⟩⟩)
  (λv2 s st e2 d h=>by cases h;exact⟨v,af,_,rfl,yj _,λ_=>⟨rfl,λb2 cur2 hb2 hcur=>by
    cases hb2;rw[hb]at hcur;cases hcur;exact⟨ncs,zB,hncs⟩⟩⟩)
 have h1:c.args= #[x]:=by rw[<-ycl (xs:=c.args),yQ]
 have h2':c.argTypes= #[t]:=by rw[<-ycl (xs:=c.argTypes),htys]
 have hzv:(zeroValue e).run P σ.w=.ok zv σ.w:=by simp[zeroValue,typeInfo,hi,hzz]
 have zU:(Builtin.clear_ #[t] o.type #[a.eval x]).run P σ.w=.ok (.tuple #[]) σ'.w:=by
  rw[hv];simp[Builtin.clear_,run_underlying ht,hzv,ZBA,hst,σ',ncs]
 refine ZP (σ':=σ') (v:=.tuple #[]) ?_ to ok' ?_
 .simp[execOp,ho,resolve,yS,h1,h2',invoke,builtin,zU]
 .rw[Zi rfl];simp only[yG];exact⟨#[],rfl,by simp[aC]⟩
theorem Zzv(ok:Ok σ)(yK:aK σ ts a){t:yc}{x:ym}{lo hi:yO ym}(ho:o.op=.slice t x lo hi ae)(h:bB P o ts σ.H hs=ab (C,d,hs'))(hc:ba C):XE P o a σ d σ.H:=by
 simp only[bB,ho]at h;have hx:=Zs (P:=P) yK t x;split at h
 .rename_i e id v s l0 n l r hs1 hu hdx hl hr;rw[hdx]at hx;split at h
  .rename_i v' s' st e' dd hH;split at h
   .rename_i N hN;split at h
    .rename_i hk;simp only[yi,yP,yT]at hk;simp only[yE]at hk;obtain⟨⟨⟨⟨k1,k2⟩,k3⟩,k4⟩,k5⟩:=hk;subst k3;subst k4;cases h;obtain⟨c1,c2,c3,_⟩:=hc;obtain⟨A,c,hx,h2,h3,h4,h5,h6⟩:=jZ hx
     have hcap:N<=l0+c/\(0 < c->∃b o',A=ab ⟨b,o',ae⟩):=by
      obtain⟨v2,s2,st2,e2,d2,g1,g2,g3⟩:=h6;rw[hH]at g1;cases g1;obtain⟨_,g4⟩:=g3 rfl;have hidlt:id < σ.m.length:=by rw[ok.len];exact(yo.1 hH).1
      have hmi:σ.m[id]? =ab σ.m[id]:=yac hidlt;obtain⟨N2,q1,q2⟩:=ok.cY id _ _ hH hmi;rw[hN]at q1;cases q1;rcases g4 with⟨g5,rfl,g6⟩|⟨b,cur,g5,g6,g7,g8⟩
      .all_goals grind
      .rw[hmi]at g5;have g5:=yaw g5;rcases q2 with⟨q2,_⟩|⟨b2,cur2,cap,q2,q3,q4,q5,q6,_⟩
       .grind
       .rw[q2]at g5;cases g5;rw[g6]at q3;cases q3;refine⟨?_,λh=>⟨b,_,g8 h⟩⟩;have:cap*s'=(l0+c)*s':=by rw[<-q4,g7]
        have:=Nat.eq_of_mul_eq_mul_right (Nat.pos_of_ne_zero k5) this;omega
     have hbd:∃p q,(Instr.sliceBounds af n c (lo.map a.eval) (hi.map a.eval) ae).run P σ.w=.ok (p,q,c) σ.w/\p=(l.getD 0).toNat/\q=r.toNat/\p<=q/\q<=c:=by
      rcases YR yK hr with⟨_,q⟩|⟨k2,i2,e2,q2⟩
      .cases q
      cases q2;have b2:0<=r/\r<=(c:Int):=⟨by omega,by omega⟩;rcases YR yK hl with⟨e1,q⟩|⟨k1,i1,e1,q1⟩
      .subst q;refine⟨0,r.toNat, ?_,rfl,rfl,Nat.zero_le _,by omega⟩;rw[e1,e2];simp[Instr.sliceBounds,Instr.sliceBound,asIntOf,b2]
      .subst q1;simp only[Option.getD_some]at c1 c2;have b1:0<=i1/\i1<=(r.toNat:Int):=⟨c1,by omega⟩;refine⟨i1.toNat,r.toNat, ?_,rfl,rfl,by omega,by omega⟩;rw[e1,e2];simp[Instr.sliceBounds,Instr.sliceBound,asIntOf,b1,b2];omega
     obtain⟨p,q,hb,rfl,rfl,hpq,hqc⟩:=hbd;refine Zl (v:=.slice (if c=(l.getD 0).toNat then A else A.map (·.add ((l.getD 0).toNat*s'))) (r.toNat - (l.getD 0).toNat) (c - (l.getD 0).toNat)) ok ?_ ?_
     .have zU:(Instr.sliceAt t (a.eval x) (lo.map a.eval) (hi.map a.eval) ae).run P σ.w=.ok (.slice (if c=(l.getD 0).toNat then A else A.map (·.add ((l.getD 0).toNat*s'))) (r.toNat - (l.getD 0).toNat) (c - (l.getD 0).toNat)) σ.w:=by
       rw[hx];simp[Instr.sliceAt,Instr.slice,run_underlying hu,hb,Z6 k2,k1]
      simp[execOp,ho,zU]
     .exact ZMD h2 h3 h4 hcap.2 h6 hpq hqc
    .cases h
   .cases h
  .cases h
 .rename_i n e id off yM l r hs1 hu hdx hl hr;split at h
  .rename_i dd hH;split at h
   .rename_i C1 off' n' s xs hs2 hg;split at h
    .rename_i hk;simp only[yi,yP]at hk;obtain⟨⟨⟨rfl,k2⟩,k3⟩,k4⟩:=hk;cases h;obtain⟨c1,c2⟩:=Zr.1 hc;obtain⟨c1,c3⟩:=Zr.1 c1;have:=ZRz ok yK ho hu hdx hl hr hH hg c1 c3.1 k2 k3 k4 c2
     have e1:σ.H.set id (.var dd ag)=σ.H:=by
      obtain⟨h1,h2⟩:=yo.1 hH;rw[<-h2,List.set_getElem_self]
     grind
    .cases h
   .cases h
  .cases h
 .cases h
theorem ZLn(ok:Ok σ)(yK:aK σ ts a)(h:cx P o ts σ.H hs=ab (C,d,H',hs'))(hc:ba C):XE P o a σ d H':=by
 unfold cx at h;split at h
 .rename_i x ho;have hv:=Zs (P:=P) yK o.type x;split at h
  .rename_i t' hs1;split at h
   .split at h
    .rename_i e s hu hx;rw[hx]at hv;split at h
     .rename_i i hi;split at h
      .cases h;obtain⟨to,ok'⟩:=VV (σ':={ σ with m:=σ.m++[ae],H:=σ.H++[.log i.size e []]}) ok rfl rfl rfl rfl (World.grownBy.refl σ.w ae) (.inl rfl) (λ_=>.inl ⟨rfl,rfl⟩);refine ZP (σ':={ σ with m:=σ.m++[ae],H:=σ.H++[.log i.size e []]}) (v:=.slice ae 0 0) (by simp[execOp,ho,nA hv]) to ok' ?_;rw[Zi rfl];simp only[yG];refine⟨λ_ hx=>(by cases hx),ae,0,rfl,yj _,by simp[maxLen],YE _,λ_=>rfl,λh=>absurd rfl h,e,[],by simp,yj _,λ_=>.inl ⟨?_,rfl,rfl⟩⟩;rw[yaq (by rw[ok.len];exact yj _),ok.len];simp
      .cases h
     .cases h
    .cases h
   .cases h
  .rename_i t' hs1;split at h
   .split at h
    .rename_i e s hu hx;rw[hx]at hv;split at h
     .rename_i i hi;split at h
      .cases h;let σ':Sg:={ σ with m:=σ.m++[ae],H:=σ.H++[.row 0 i.size af e (.p (.arr 0 i.size []))]}
       have hmlast:σ'.m[σ.H.length]? =ab ae:=by
        show(σ.m++[ae])[σ.H.length]? =_;rw[yaq (by rw[ok.len];exact yj _),ok.len];simp
       obtain⟨to,ok'⟩:=VV (σ':=σ') ok rfl rfl rfl rfl (World.grownBy.refl σ.w ae) (.inl rfl) (λ_=>⟨0,by simp[aY],.inl ⟨rfl,rfl⟩⟩);refine ZP (σ':=σ') (v:=.slice ae 0 0) (by simp[σ',execOp,ho,nA hv]) to ok' ?_;rw[Zi rfl];simp only[yG];exact⟨ae,0,rfl,yj _,by simp[maxLen],λ_=>rfl,λh=>absurd h (Nat.lt_irrefl _),0,i.size,af,e,.p (.arr 0 i.size []),by simp[σ'],yj _,λ_=>⟨rfl,.inl ⟨hmlast,rfl,rfl⟩⟩⟩
      .cases h
     .cases h
    .cases h
   .cases h
  .rename_i t' hs1;split at h
   .exact ZJG ok yK (by simp[execOp,ho]) h hc
   .cases h
  .cases h
 .rename_i x ho;split at h
  .rename_i t' hs1;split at h
   .exact ZJG ok yK (by simp[execOp,ho]) h hc
   .cases h
  .cases h
 .rename_i t l c ho;split at h
  .rename_i e n n' hu hl hcp;split at h
   .rename_i i hs1 hi;split at h
    .rename_i hk;simp only[yi,yE]at hk;cases h;exact ZLk ok yK ho hu hl hcp hi hk.1 hk.2 hc.1 hc.2.1 hc.2.2.1 hc.2.2.2.1
    .cases h
   .rename_i i hs1 hi;split at h
    .rename_i hk;simp only[yi,yE]at hk;cases h;exact ZLl ok yK ho hu hl hcp hi hk.1 hc.1 hc.2.1 hc.2.2.1 hc.2.2.2.1
    .cases h
   .rename_i i hs1 hi;split at h
    .rename_i z hz;split at h
     .rename_i hk;simp only[yi,yP,Bool.not_eq_true']at hk;cases h;exact ZH1 ok yK ho hu hl hcp hi hk.1.1.1 hk.1.1.2 hz hk.1.2 hk.2 hc.1 hc.2.1 hc.2.2.1 hc.2.2.2.1
     .cases h
    .cases h
   .cases h
  .cases h
 .rename_i t ho;cases h;exact ZLj ok ho
 .rename_i t m k x ho;split at h
  .rename_i kt et id hu hx;split at h
   .rename_i kk v t' bu l hs1 hk hv hH;split at h
    .rename_i hkt;cases h;exact ZFO ok yK ho hu hx hk hv hH hkt hc.1 hc.2.1 hc.2.2.1
    .cases h
   .cases h
  .cases h
 .rename_i t ho;split at h
  .rename_i i hi;split at h
   .split at h
    .rename_i hk;simp only[yi]at hk;cases h;exact ZwZ (ZPI ok ho hi (by obtain⟨z,hz,_⟩:=kQ hk.1.1;rw[hz];rfl) hk.1.2 hk.2) _
    .cases h
   .cases h
  .cases h
 .rename_i t x ho;have hv:=Zs (P:=P) yK t x;split at h
  .split at h
   .rename_i hk;cases h;refine ZwZ (ZTS ok ho hk ?_) _;unfold mX;split
    .rename_i y hy;exact ZK4 hy hv
    .exact hv
   .cases h
  .cases h
 .rename_i t x y ho;split at h
  .rename_i id off yM hx;split at h
   .rename_i dd hH;split at h
    .rename_i C1 off' sub hs1 hg;split at h
     .rename_i new hn;split at h
      .rename_i d' hp;split at h
       .rename_i hk;simp only[yi,yT]at hk;obtain⟨⟨⟨⟨k1,k2⟩,k3⟩,k4⟩,k5⟩:=hk;split at h
        .cases h;obtain⟨c1,c2⟩:=Zr.1 hc;exact ZDH (ZPK ok yK ho hx hH hg c1 c2.1 hn hp k1 k2 k3 k4) hH _
        .cases h
       .cases h
      .cases h
     .cases h
    .cases h
   .cases h
  .rename_i id v off yM hx;split at h
   .rename_i v' s e dd hH;split at h
    .rename_i C1 off' sub hs1 hg;split at h
     .rename_i new hn;split at h
      .rename_i d' hp;split at h
       .rename_i hk;simp only[yi,yT]at hk;obtain⟨⟨⟨⟨⟨⟨k1,k2⟩,k3⟩,k4⟩,k5⟩,k6⟩,k7⟩:=hk;cases h;obtain⟨c1,c2⟩:=Zr.1 hc;exact ZFQ ok yK ho hx hH k6 hg c1 c2.1 hn hp k1 k2 k3 k4 k7
       .cases h
      .cases h
     .cases h
    .cases h
   .cases h
  .cases h
 .rename_i t len parts ho;split at h
  .rename_i id hs1;split at h
   .rename_i e v s st e' dd hu hH;split at h
    .rename_i i xs hi hl;split at h
     .rename_i hk;simp only[yi,yE,yP,yT]at hk;obtain⟨⟨hk,rfl⟩,rfl⟩:=hk;cases h;exact ZH3 ok yK ho hu hi hk.1.1 hk.1.2 hk.2 hl hH
     .cases h
    .cases h
   .cases h
  .rename_i hs1;split at h
   .rename_i e hu;split at h
    .rename_i i xs hi hl;split at h
     .rename_i hk;simp only[yi,yE,yP]at hk;cases h;exact ZLm ok yK ho hu hi hk.1.1 hk.1.2 hk.2 hl
     .cases h
    .cases h
   .cases h
  .rename_i hs1;split at h
   .rename_i e hu;split at h
    .rename_i i xs hi hl;split at h
     .rename_i hk;simp only[yi,yE,yP]at hk;cases h;exact vb (ZK9 ok yK ho hu hi hk.1.1 hk.1.2 hk.2 hl) (Wk.nr (by rw[<-Pl.cj];exact cq _)) (cg.append (cg.refl _) (.cons (.log (by rw[<-Pl.cj];exact cq _)) .nil))
     .cases h
    .cases h
   .cases h
  .cases h
 .rename_i t x lo hi ho;split at h
  .rename_i n e id off yM l r hu hx hl hr;split at h
   .rename_i hs1;split at h
    .rename_i dd st hH;split at h
     .rename_i C1 off' n' s xs hs2 hg;split at h
      .rename_i hk;simp only[yi,yP]at hk;obtain⟨⟨⟨rfl,k2⟩,k3⟩,k4⟩:=hk;cases h;obtain⟨c1,c2⟩:=Zr.1 hc;obtain⟨c1,c3⟩:=Zr.1 c1;exact ZRz ok yK ho hu hx hl hr hH hg c1 c3.1 k2 k3 k4 c2
      .cases h
     .cases h
    .cases h
   .cases h
  .rename_i e id v s lo' n l r hu hx hl hr;split at h
   .rename_i hs1;split at h
    .rename_i v' s' e' N s2 xs hH;split at h
     .rename_i hk;simp only[yi,yT,yE,yP]at hk;obtain⟨⟨⟨⟨⟨⟨⟨k1,k2⟩,k3⟩,k4⟩,k5⟩,k6⟩,k7⟩,k8⟩:=hk;simp only[yp,yz]at h;obtain⟨rfl,rfl,rfl,rfl⟩:=h;subst k3;subst k4;subst k5;subst k7
      have hR:bB P o ts σ.H (.raw::hs1)=ab ([0<=l.getD 0,l.getD 0<=r,0+r.toNat<=N],.rv id v' s2 (0+(l.getD 0).toNat) (r.toNat - (l.getD 0).toNat),hs1):=by
       unfold bB;rw[ho];dsimp only;rw[hu,hx,hl,hr];dsimp only;rw[hH];simp[aY,k1,k2,k6]
      have:=Zzv ok yK ho hR ⟨by rw[k8];omega,by rw[k8];exact hc.1,by rw[yat];exact hc.2.1,ao⟩;rw[k8]at this;exact vb this (Wk.of_eq (by simp)) (cg.fG hH (.shr hc.2.1))
     .cases h
    .cases h
   .cases h
  .cases h
 .rename_i c ho;split at h
  .rename_i yS;split at h
   .rename_i x y t u yQ htys;split at h
    .rename_i e id nn s xs hu hx;split at h
     .rename_i i C1 ys hs1 s' e' zs hi hsrc hH;split at h
      .rename_i hk;simp only[yi,yE,yP]at hk;obtain⟨⟨⟨⟨k1,k2⟩,rfl⟩,rfl⟩,k5⟩:=hk;cases h;obtain⟨c1,rfl,c2,c3,_⟩:=Zr.1 hc;exact ZDC ok yK ho yS yQ htys hu hx hi k1 k2 k5 (vv ok yK hsrc c1) hH c2 c3
      .cases h
     .cases h
    .rename_i e s hu hx;split at h
     .rename_i hs1 i ys hi hsrc;split at h
      .rename_i hk;simp only[yi,yE]at hk;cases h;exact ZDB ok yK ho yS yQ htys hu hx hi hk.1 hk.2 hsrc hc.1 hc.2.1
      .cases h
     .rename_i hs1 i ys hi hsrc;split at h
      .rename_i hk;simp only[yi,yE]at hk;cases h;exact ZBx ok yK ho yS yQ htys hu hx hi hk.1 hk.2 (rz (P:=P) yK hsrc) hc.1 hc.2.1
      .cases h
     .cases h
    .rename_i e id v s lo n hu hx;split at h
     .rename_i hs0;split at h
      .rename_i i C1 ys hs1 hi hsrc;split at h
       .rename_i hk;cases h;obtain⟨c1,rfl,_⟩:=Zr.1 hc;exact ZBy ok yK ho yS yQ htys hu hx hi (vv ok yK hsrc c1)
       .cases h
      .cases h
     .rename_i hs0;split at h
      .rename_i i C1 ys hs1 v' s' st' e' N s'' xs hi hsrc hH;split at h
       .rename_i hk;simp only[yi,yE,yP,yT]at hk;obtain⟨⟨⟨⟨⟨⟨⟨k1,rfl⟩,rfl⟩,rfl⟩,rfl⟩,k5⟩,rfl⟩,rfl⟩:=hk;cases h;obtain⟨c1,cc⟩:=Zr.1 hc;have c2:=cc.1;have c3:=cc.2.1;have c4:=cc.2.2.1;have c5:=cc.2.2.2.1;exact ZDJ ok yK c5 ho yS yQ htys hu hx hi k1 k5 (vv ok yK hsrc c1) hH c2 c3 c4
       .cases h
      .cases h
     .rename_i hs0;split at h
      .rename_i i C1 ys hs1 v' s' e' N s'' xs hi hsrc hH;split at h
       .rename_i hk;simp only[yi,yE,yP,yT]at hk;obtain⟨⟨⟨⟨⟨⟨⟨k1,rfl⟩,rfl⟩,rfl⟩,rfl⟩,k5⟩,rfl⟩,rfl⟩:=hk;cases h;obtain⟨c1,cc⟩:=Zr.1 hc;exact ZBz ok yK ho yS yQ htys hu hx hi k1 k5 (vv ok yK hsrc c1) hH cc.1 cc.2.1
       .cases h
      .cases h
     .cases h
    .cases h
   .cases h
  .rename_i yS;split at h
   .rename_i x t yQ htys;split at h
    .rename_i e id v s lo n hu hx;split at h
     .rename_i i z v' s' e' N s'' xs hi hz hH;split at h
      .rename_i hk;simp only[yi,yE,yP,yT]at hk;obtain⟨⟨⟨⟨⟨⟨k1,rfl⟩,rfl⟩,rfl⟩,rfl⟩,k5⟩,k6⟩:=hk;cases h;obtain⟨rfl,hc1,_⟩:=hc;exact vb (ZFR ok yK ho yS yQ htys hu hx hi k1 k5 hz k6 hH hc1) (Wk.refl _) (cg.bq _ _ (.row ⟨Wk.p (bJ.jp (bm.bq (nu z) _ _)),rfl⟩))
      .cases h
     .cases h
    .cases h
   .cases h
  .rename_i yS;split at h
   .rename_i x y t u yQ htys;split at h
    .rename_i kt et id hu hx;split at h
     .rename_i kk t' bu l hs1 hk hH;split at h
      .rename_i hkt;cases h;exact ZMO ok yK ho yS yQ htys hu hx hk hH hkt hc.1 hc.2.1 hc.2.2.1
      .cases h
     .cases h
    .cases h
   .cases h
  .rename_i yS;split at h
   .rename_i x y t u yQ htys;split at h
    .rename_i e id off yM s lo n hu hx;split at h
     .rename_i ys dd hsrc hH;split at h
      .rename_i C1 off' N s' xs hs1 hg;split at h
       .rename_i dd' hp;split at h
        .rename_i hk;simp only[yi,yP]at hk;obtain⟨⟨rfl,k2⟩,k3⟩:=hk;cases h;obtain⟨c1,c2⟩:=Zr.1 hc;exact ZR6 ok yK ho yS yQ htys hu hx hsrc hH hg c1 c2.1 hp k2 k3 c2.2.1 c2.2.2.1
        .cases h
       .cases h
      .cases h
     .cases h
    .cases h
   .cases h
  .rename_i f yS;split at h
   .rename_i g cap r Hc ids hs1 hf;split at h
    .rename_i hk;simp only[yi,yT,yP]at hk;split at h
     .rename_i args' Hin r' Hb yQ hin hr hb;cases h;exact Zzl ok yK ho yS hf hk.1.1.1 hk.1.1.2 hk.1.2 hk.2 yQ hin hr hb hc.1
     .cases h
    .cases h
   .cases h
  .rename_i recv name yS;split at h
   .rename_i t x g r Hc ids hs1 hf;split at h
    .rename_i hk;simp only[yi,yT,yP]at hk;split at h
     .rename_i args' Hin r' Hb yQ hin hr hb;cases h;exact ZDD ok yK ho yS hf hk.1.1.1 hk.1.1.2 hk.1.2 hk.2 yQ hin hr hb hc.1 hc.2.1
     .cases h
    .cases h
   .cases h
  .cases h
 .cases h
theorem Zzw(ok:Ok σ)(yK:aK σ ts a)(h:eQ P o ts σ.H hs=ab (C,d,H',hs'))(hc:ba C):XE P o a σ d H':=by
 unfold eQ at h;split at h
 .rename_i C1 d1 hs1 h1;cases h;exact ZLf ok yK h1 hc
 .split at h
  .rename_i C1 d1 hs1 h1;cases h;have h2:=h1;unfold bB at h2;split at h2
   .rename_i t x ho;exact ZR5 ok yK ho h1 hc
   .rename_i t x lo hi ho;exact Zzv ok yK ho h1 hc
   .rename_i t x ix comma ho;exact ZMM ok yK ho h1 hc
   .rename_i c ho;split at h2
    .rename_i yS;exact ZMN ok yK ho yS h1 hc
    .rename_i f yS;exact ZTT ok yK ho yS h1 hc
    .cases h2
   .cases h2
  .exact ZLn ok yK h hc
theorem oX{σ':Sg}{v:yh}(yK:aK σ' ts a)(hd:yH σ' d v):aK σ' (fM ts o.dst d) (a.put o.dst v):=by
 unfold fM Act.put
 cases o.dst with
 |none=>exact yK
 |some t=>
  refine⟨by simpa using yK.size,λi e hi=> ?_,yK.defers⟩;rw[yca]at hi;split at hi
  .rename_i h;subst h;split at hi
   .rename_i hlt;cases hi;have:t < a.tmps.size:=by rw[yK.size];exact hlt
    simpa[Array.getD,this] using hd
   .cases hi
  .rename_i h;have:=yK.at_ i e hi;simpa[Array.getD_eq_getD_getElem?,Array.getElem?_setIfInBounds,h] using this
theorem ZFS{v:yh}{σ':Sg}{dst:yO Tmp}(hc:ba (iP dst d hs).1)(hd:yH σ' d v):yH σ' (iP dst d hs).2.1 v:=by
 exact hd
theorem Zw0{σ':Sg}:yH σ' (.bi []) undef:=by
 rw[Zi rfl];simp only[yG];exact⟨#[],rfl,by simp[aC]⟩
theorem EX{ops:Array Oper}(ok:Ok σ)(yK:aK σ ts a)(h:cN P ops o ts σ.H hs=ab (C,d,H',hs'))(hc:ba C)(K:Act->World->Prop)(Q:Exit->Act->World->Prop)
 (hK:∀v σ',σ'.H=H'->To σ σ'->Ok σ'->aK σ' (fM ts o.dst d) (a.put o.dst v)->K (a.put o.dst v) σ'.w):
 if Region.wanted o (yielded ops a.tmps) then o.wp P a σ.w K Q else K (a.put o.dst undef) σ.w:=by
 unfold cN at h;split at h
 .rename_i hg;simp only[yn,yz]at h;obtain⟨⟨C1,d1,H1,hs1⟩,h1,rfl,rfl,rfl,rfl⟩:=h;obtain⟨c1,c2⟩:=Zr.1 hc;have hw:Region.wanted o (yielded ops a.tmps)=af:=by simp[Region.wanted,hg]
  rw[yW hw];exact Zzw ok yK h1 c1 K Q λv σ' e1 to ok' hd=>hK v σ' e1 to ok' (oX (yK.to to.leaf) (ZFS c2 hd))
 .rename_i j want hg;split at h
  .rename_i t β hs1 ht
   have hy:yielded ops a.tmps j=ab t:=by
    unfold yielded;simp only[yn]at ht;obtain⟨tt,h1,h2⟩:=ht;rw[h1];simp only[Option.bind_some]
    have hlt:tt < ts.length:=by
     all_goals grind
    have h3:=yK.at_ tt (.p (.bool t)) (by
     have:=yac hlt;simp only[List.getD,this,Option.getD_some]at h2;rw[this,h2])
    have h4:=Y5 h3;have hlt':tt < a.tmps.size:=by rw[yK.size];exact hlt
    simp_all
   split at h
   .rename_i hb;simp only[yn,yz]at h;obtain⟨⟨C1,d1,H1,hs2⟩,h1,rfl,rfl,rfl,rfl⟩:=h;obtain⟨c0,hc'⟩:=hc;obtain⟨c1,c2⟩:=Zr.1 hc';have hw:Region.wanted o (yielded ops a.tmps)=af:=by simp[Region.wanted,hg,hy,c0,hb]
    rw[yW hw];exact Zzw ok yK h1 c1 K Q λv σ' e1 to ok' hd=>hK v σ' e1 to ok' (oX (yK.to to.leaf) (ZFS c2 hd))
   .rename_i hb;cases h;have c0:t=β:=hc.1
    have hw:Region.wanted o (yielded ops a.tmps)=ag:=by
     simp only[Region.wanted,hg,hy,c0];grind
    rw[hw];exact hK undef σ rfl (To.refl σ) ok (oX yK Zw0)
  .rename_i hs1 ht;cases h
   have hy:yielded ops a.tmps j=ae:=by
    unfold yielded;simp only[yn]at ht;obtain⟨tt,h1,h2⟩:=ht;rw[h1];simp only[Option.bind_some]
    have hlt:tt < ts.length:=by
     all_goals grind
    have h3:=yK.at_ tt (.bi []) (by
     have:=yac hlt;simp only[List.getD,this,Option.getD_some]at h2;rw[this,h2])
    have h4:=h3.2 rfl;simp only[yG]at h4;obtain⟨cs,h5,h6⟩:=h4;have hlt':tt < a.tmps.size:=by rw[yK.size];exact hlt
    simp_all
   have hw:Region.wanted o (yielded ops a.tmps)=ag:=by
    simp only[Region.wanted,hg,hy];grind
   rw[hw];exact hK undef σ rfl (To.refl σ) ok (oX yK Zw0)
  .cases h
theorem Zw1{ops:Array Oper}(Q:Exit->Act->World->Prop){ts':yL Dv}:∀(l:yL Oper)(k:Nat)(ts:yL Dv)(σ:Sg)(a:Act)(hs hs':yL ar)(C:yL Prop)(H':yL ay),
 (∀j,l[j]? =ops[k+j]?)->Ok σ->aK σ ts a->mY P ops l ts σ.H hs=ab (C,ts',H',hs')->ba C->
 (∀a' σ',σ'.H=H'->To σ σ'->Ok σ'->aK σ' ts' a'->Q .normal a' σ'.w)->wpOps P ops Q (List.range' k l.length) a σ.w
 |[],k,ts,σ,a,hs,hs',C,H',_,ok,yK,h,hc,hQ=>by
  simp only[mY,yp,yz]at h;obtain⟨rfl,rfl,rfl,rfl⟩:=h
  exact hQ a σ rfl (To.refl σ) ok yK
 |o::l,k,ts,σ,a,hs,hs',C,H',hl,ok,yK,h,hc,hQ=>by
  simp only[mY]at h;split at h
  .rename_i C1 d1 H1 hs1 h1;split at h
   .rename_i C2 ts2 H2 hs2 h2;cases h;obtain⟨c1,c2⟩:=Zr.1 hc;have h0:ops[k]? =ab o:=by simpa using(hl 0).symm
    simp only[yam,List.range'_succ,wpOps,h0]
    have key:=EX (P:=P) (ops:=ops) ok yK h1 c1 (wpOps P ops Q (List.range' (k+1) l.length)) Q (λv σ1 e1 to1 ok1 hrep1=>by
     subst e1
     exact Zw1 Q l (k+1) _ σ1 _ hs1 _ C2 _ (λj=>by have:=hl (j+1);simpa[Nat.add_assoc,Nat.add_comm 1 j] using this) ok1 hrep1 h2 c2
      (λa' σ' e2 to2 ok2 hrep2=>hQ a' σ' e2 (to1.trans to2) ok2 hrep2))
    all_goals grind
   .cases h
  .cases h
end
end Go.Ev
end
section
namespace Go.Ev
section
variable{P:yg}{o:Oper}{ts:yL Dv}{H H' H2:yL ay}{hs hs':yL ar}{C:yL Prop}{d:Dv}
theorem ZMP{id:Nat}(h:oM P o ts=ab id)(hx:jV o=ag)(e:cz (H[id]?)=cz (H2[id]?)):bB P o ts H2 hs=bB P o ts H hs:=by
 unfold oM at h;unfold bB
 cases ho:o.op with
 |load t a=>
  simp only[ho]at h ⊢
  cases ha:ZB P ts 0 a with
  |am i off yM=>
   simp only[ha,yp]at h;subst h;simp only
   cases h1:H[i]? with
   |none=>
    rw[h1]at e
    cases h2:H2[i]? with
    |none=>rfl
    |some x=>rw[h2]at e;cases x <;> simp[cz]at e
   |some y=>
    rw[h1]at e
    cases h2:H2[i]? with
    |none=>rw[h2]at e;cases y <;> simp[cz]at e
    |some x=>
     rw[h2]at e
     cases x <;> cases y <;> simp_all[cz]
  |aZ i v off yM=>
   simp only[ha,yp]at h;subst h;simp only
   cases h1:H[i]? with
   |none=>
    rw[h1]at e
    cases h2:H2[i]? with
    |none=>rfl
    |some x=>rw[h2]at e;cases x <;> simp[cz]at e
   |some y=>
    rw[h1]at e
    cases h2:H2[i]? with
    |none=>rw[h2]at e;cases y <;> simp[cz]at e
    |some x=>
     rw[h2]at e
     cases x <;> cases y <;> simp_all[cz]
  |_=>simp[ha]at h
 |call c=>
  simp only[ho]at h ⊢
  cases hc:c.callee with
  |value f=>
   simp only[hc]at h ⊢
   cases ha:ZB P ts 0 f with
   |fn g cap=>
    simp only[ha]at h;split
    .rename_i g' cap' ps r hs2 hh;cases hh;rw[h];dsimp only;rw[e]
    .rfl
   |_=>simp[ha]at h
  |_=>simp[hc]at h
 |lookup t x ix ok=>
  simp only[ho]at h ⊢
  cases ha:ZB P ts t x with
  |mp i=>
   simp only[ha,yp]at h;subst h
   have hk:H2[i]? =H[i]? \/((∃d1 s1,H[i]? =ab (.var d1 s1))/\∃d2 s2,H2[i]? =ab (.var d2 s2))\/((∃v1 s1 t1 e1 d1,H[i]? =ab (.row v1 s1 t1 e1 d1))/\∃v1 s1 t1 e1 d1,H2[i]? =ab (.row v1 s1 t1 e1 d1)):=by
    cases h1:H[i]? with
    |none=>
     rw[h1]at e
     cases h2:H2[i]? with
     |none=>exact .inl rfl
     |some x=>rw[h2]at e;cases x <;> simp[cz]at e
    |some y=>
     rw[h1]at e
     cases h2:H2[i]? with
     |none=>rw[h2]at e;cases y <;> simp[cz]at e
     |some x=>
      rw[h2]at e;cases x <;> cases y <;> simp_all[cz]
   cases P.underlying t with
   |none=>rfl
   |some u=>
    cases u with
    |map kt et=>
     dsimp only;rcases hk with hk|⟨⟨d1,s1,k1⟩,d2,s2,k2⟩|⟨⟨_,_,_,_,_,k1⟩,_,_,_,_,_,k2⟩
     .rw[hk]
     .rw[k1,k2];cases ZB P ts kt ix <;> rfl
     .rw[k1,k2]
      cases ZB P ts kt ix <;> rfl
    |_=>rfl
  |_=>simp[ha]at h
 |slice t x lo hi mx=>simp[jV,ho]at hx
 |_=>simp[ho]at h
def fy(o:Oper)(x:yO ay):yO ay:=if jV o=af then x else cz x
theorem ZR7{id:Nat}(h:oM P o ts=ab id)(e:fy o (H[id]?)=fy o (H2[id]?)):bB P o ts H2 hs=bB P o ts H hs:=by
 unfold fy at e
 cases hx:jV o with
 |false=>
  rw[hx]at e
  exact ZMP h hx (by simpa using e)
 |true=>
  rw[hx,yW rfl,yW rfl]at e;unfold jV at hx;split at hx
  .rename_i t x lo hi mx ho;unfold oM at h;rw[ho]at h;unfold bB;rw[ho]
   cases mx with
   |some m=>simp at h
   |none=>
    dsimp only at h ⊢;split at h
    .rename_i i off yM ha;cases h;rw[ha]
     cases P.underlying t with
     |none=>rfl
     |some u=>
      cases fX P ts lo with
      |none=>cases u <;> rfl
      |some l=>
       cases fX P ts hi with
       |none=>cases u <;> rfl
       |some h'=>
        cases hs with
        |nil=>cases u <;> rfl
        |cons hd tl=>cases u <;> cases hd <;> first|rfl|(dsimp only;rw[e])
    .cases h
  .cases hx
theorem ZLo{H:yL ay}{x:ay}{i:Nat}(hi:i < H.length):cz ((H++[x])[i]?)=cz (H[i]?):=by
 grind
theorem EY{H:yL ay}{x:ay}{i id:Nat}(h:¬id=i):cz ((H.set id x)[i]?)=cz (H[i]?):=by
 grind
theorem ZJI{H:yL ay}{dd:Dv}{i id:Nat}(hh:∃st,H[id]? =ab (.var dd st)):cz ((H.set id (.var dd ag))[i]?)=cz (H[i]?):=by
 obtain⟨st,h⟩:=hh;by_cases e:id=i
 .subst e;rw[yca,yW rfl,yW (yo.1 h).1,h];rfl
 grind
theorem ZMQ{H:yL ay}{dd:Dv}{v s:Nat}{e:yc}{i id:Nat}(hh:∃st,H[id]? =ab (.row v s st e dd)):cz ((H.set id (.row v s ag e dd))[i]?)=cz (H[i]?):=by
 obtain⟨st,h⟩:=hh;by_cases e:id=i
 .subst e;rw[yca,yW rfl,yW (yo.1 h).1,h];rfl
 grind
theorem Zzx:∀(ids:yL Nat)(H Hb:yL ay){i:Nat},i < H.length->ids.contains i=ag->cz ((au H ids Hb)[i]?)=cz (H[i]?)
 |[],H,Hb,i,hi,_=>by
  simp only[au]
  grind
 |_::_,H,[],i,hi,_=>by simp only[au]
 |id::r,H,e::Hb,i,hi,h=>by
  simp only[List.contains_cons,Bool.or_eq_false_iff,beq_eq_false_iff_ne]at h;simp only[au];rw[Zzx r (H.set id e) Hb (by simpa using hi) h.2];grind
theorem ZMR{dv:Dv}{i:Nat}(h:jo dv H hs=ab (C,d,H',hs')):cz (H'[i]?)=cz (H[i]?):=by
 unfold jo at h
 repeat' split at h
 all_goals first
  |(cases h;done)
  |(cases h
    first
     |exact ZJI ⟨_,by assumption⟩
     |(rename_i hk
       simp only[yi,yP,yT]at hk;obtain⟨⟨rfl,rfl⟩,rfl⟩:=hk;exact ZMQ ⟨_,by assumption⟩))
theorem ZCt{l:yL Nat}{i:Nat}(h:cx P o ts H hs=ab (C,d,H',hs'))(ht:jU P o ts hs=ab l)(hi:i < H.length)(hl:l.contains i=ag):cz (H'[i]?)=cz (H[i]?):=by
 unfold cx at h
 repeat' (first|split at h|(dsimp only at h;split at h))
 all_goals first
  |(cases h;done)
  |exact ZMR h
  |(cases h
    first
     |rfl
     |exact ZLo hi
     |(rw[ybe hi];done)
     |exact ZJI ⟨_,by assumption⟩
     |(rw[ybe (by simpa using hi)]
       refine EY ?_;rintro rfl;simp_all[jU]
       exact hl (by rw[<-ht];simp))
     |(refine Zzx _ _ _ hi ?_
       simp_all[jU])
     |(refine EY ?_
       simp_all[jU]
       done)
     |(refine EY ?_
       rintro rfl;simp_all[jU];exact hl (by rw[<-ht];simp)))
end
end Go.Ev
end
