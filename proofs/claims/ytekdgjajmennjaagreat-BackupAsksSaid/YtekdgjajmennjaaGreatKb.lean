/- Parts of the proof, in one file. -/
import Derived.Test.YtekdgjajmennjaaGreatKa
open Option renaming some → ab, none → ae
open Bool renaming true → af, false → ag
open Decidable renaming decide → ah
open Array renaming length_toList → yau, getElem?_toList → ybt, toArray_toList → ycb, getElem?_eq_getElem → yco, toList_map → ycq, getElem?_eq_some_iff → ycw
open Bool renaming and_eq_true → yi
open Go renaming TypeId → yc, Program → yg, Value → yh, Operand → yn, FuncId → yu, World → yz
open List renaming getElem?_eq_some_iff → yo, length_append → yr, length_map → yx, replicate → yy, getElem?_eq_getElem → yac, map_cons → yad, length_take → yae, length_cons → yah, getElem?_append_left → yai, getElem?_map → yaj, append_assoc → yak, getElem?_append_right → yam, getElem?_eq_none → yan, mem_cons_self → yao, mem_singleton → yar, mem_cons_of_mem → yas, getElem?_cons_succ → yat, mem_cons → yaw, length_set → yba, getElem?_cons_zero → ybb, take_length → ybd, ext_getElem? → ybe, eq_nil_of_length_eq_zero → ybf, take_append_drop → ybk, getElem?_set → ybl, mem_of_getElem? → ybp, length_drop → ybq, mem_of_mem_take → ybv, mem_map → yby, getElem?_take → ych, getElem_of_mem → ycm, length_nil → ycn, take_of_length_le → ycr, mem_of_mem_drop → ycy
open Nat renaming le_refl → ym, add_mul → yav, min_eq_left → yay, zero_add → yaz, lt_or_ge → ybr, le_trans → ybx, mul_le_mul_right → ycg, eq_zero_or_pos → ycj, add_assoc → yck
open Option renaming map_eq_some_iff → yp
open Option.some renaming injEq → yj, inj → yax
open Prod.mk renaming injEq → yl
set_option linter.unusedVariables false
set_option linter.unusedSimpArgs false
section
namespace Go.Ev
theorem ZHB{xs:yL Pl}{i:Nat}{x y:Pl}(hx:xs[i]? =ab x)(hs:y.size=x.size):Pl.sizes (xs.set i y)=Pl.sizes xs:=by
 rw[pS,pS,List.map_set,hs];congr 1;apply ybe;intro j;rw[ybl];split
 .rename_i h;subst h;have:=(yo.1 hx).1;rw[yaj,hx];simp[this]
 .rfl
theorem PS{xs:yL Dv}{i:Nat}{x y:Dv}(hx:xs[i]? =ab x)(hs:y.size=x.size):Dv.sizes (xs.set i y)=Dv.sizes xs:=by
 rw[nU,nU,List.map_set,hs];congr 1;apply ybe;intro j;rw[ybl];split
 .rename_i h;subst h;have:=(yo.1 hx).1;rw[yaj,hx];simp[this]
 .rfl
theorem mA{α:Type}{xs:yL α}{i:Nat}{x y:α}(hx:xs[i]? =ab x):xs.set i y=xs.take i++(y::xs.drop (i+1)):=by
 rw[List.set_eq_take_append_cons_drop,yW (yo.1 hx).1]
theorem tQ{α:Type}{Q:α->Prop}{xs:yL α}{i:Nat}{y:α}(h:∀x,x∈xs->Q x)(hy:Q y):∀x,x∈xs.set i y->Q x:=by
 intro x hx;rcases List.mem_or_eq_of_mem_set hx with h1|h1
 .exact h x h1
 .rw[h1];exact hy
theorem pV{J:Sg}:∀{xs:yL Pl}{us:yL yh},an J.w J.aV xs us->aG J (xs.map Dv.p) us
 |[],us,h=>by simpa[an,aG] using h
 |x::xs,us,h=>by
  simp only[an]at h;obtain⟨a,b,h1,h2,h3⟩:=h;simp only[yad,aG];exact⟨a,b,h1,by simpa[yH] using h2,pV h3⟩
theorem lc{J:Sg}:∀(yQ:yL Nat)(dd:Dv)(hs hs':yL al)(C:yL Prop)(off:Nat)(sub:Dv)(us:yL yh),Yf dd yQ hs=ab (C,off,sub,hs')->bc C->yH J dd us->
 ∃x y z,us=x++(y++z)/\x.length=off/\yH J sub y/\∀new dd' y',XW new dd yQ hs=ab dd'->new.size=sub.size->yH J new y'->yH J dd' (x++(y'++z))/\dd'.size=dd.size
 |[],dd,hs,hs',C,off,sub,us,h,hc,hr=>by
  simp only[Yf,yj,yl]at h;obtain⟨rfl,rfl,rfl,rfl⟩:=h;refine⟨[],us,[],by simp,rfl,hr,λnew dd' y' hp hs hn=> ?_⟩;simp only[XW,yj]at hp;subst hp
  exact⟨by simpa using hn,hs⟩
 |i::yQ,dd,hs,hs',C,off,sub,us,h,hc,hr=>by
  cases dd with
  |p q=>
   cases q with
   |agg xs=>
    simp only[Yf]at h;split at h
    .rename_i x hx;simp only[yp,yl]at h;obtain⟨⟨C1,off1,sub1,hs1⟩,h1,rfl,rfl,rfl,rfl⟩:=h;simp only[yH,aw]at hr;obtain⟨p1,p2,p3,rfl,h2,h3,_,h6,h7⟩:=kf hr hx;obtain⟨q1,q2,q3,rfl,h4,h5,h8⟩:=lc yQ (.p x) _ _ _ _ _ p2 h1 hc (by simpa[yH] using h3);refine⟨p1++q1,q2,q3++p3,by simp,by rw[yr,h2,h4],h5,λnew dd' y' hp hs hn=> ?_⟩;simp only[XW,hx]at hp;split at hp
     .rename_i y hy;cases hp;obtain⟨k1,k2⟩:=h8 new _ y' hy hs hn;have k3:y.size=x.size:=by simpa[Dv.size] using k2
      refine⟨?_,by simp only[Dv.size,Pl.size];exact ZHB hx k3⟩;simp only[yH,aw];rw[mA hx];have e:p1++q1++(y'++(q3++p3))=p1++((q1++(y'++q3))++p3):=by simp
      rw[e];refine Yh h6 ?_;simp only[an];exact⟨_,_,rfl,by simpa[yH] using k1,h7⟩
     .rename_i y hy hne;cases hp;obtain⟨k1,k2⟩:=h8 new _ y' hne hs hn;have k3:y.size=x.size:=by simpa[Dv.size] using k2
      have hx':(xs.map Dv.p)[i]? =ab (.p x):=by rw[yaj,hx];rfl
      refine⟨?_,by
       simp only[Dv.size,Pl.size];rw[PS hx' k3,nU,pS,List.map_map];rfl⟩
      simp only[yH];rw[mA hx'];have e:p1++q1++(y'++(q3++p3))=p1++((q1++(y'++q3))++p3):=by simp
      rw[e, <-List.map_take, <-List.map_drop];refine pM (pV h6) ?_;simp only[aG];exact⟨_,_,rfl,k1,pV h7⟩
     .cases hp
    .cases h
   |arr n s xs=>
    simp only[Yf]at h;split at h
    .rename_i y hs1;simp only[yp,yl]at h;obtain⟨⟨C1,off1,sub1,hs1⟩,h1,rfl,rfl,rfl,rfl⟩:=h;obtain⟨hx,hc⟩:=hc;simp only[yH,aw]at hr;obtain⟨hl,zU,hr⟩:=hr;obtain⟨p1,p2,p3,rfl,h2,h3,_,h6,h7⟩:=kf hr hx;obtain⟨q1,q2,q3,rfl,h4,h5,h8⟩:=lc yQ (.p y) _ _ _ _ _ p2 h1 hc (by simpa[yH] using h3);have hi:i < xs.length:=(yo.1 hx).1;refine⟨p1++q1,q2,q3++p3,by simp,by rw[yr,h2,h4,aL (WV zU i),yae,yay (Nat.le_of_lt hi)],h5,λnew dd' y' hp hs hn=> ?_⟩;simp only[XW]at hp;split at hp
     .rename_i z hz;cases hp;obtain⟨k1,k2⟩:=h8 new _ y' hz hs hn;have k3:z.size=y.size:=by simpa[Dv.size] using k2
      have k4:z.size=s:=by rw[k3];exact zU y (ybp hx)
      refine⟨?_,rfl⟩;simp only[yH,aw];refine⟨by rw[yba];exact hl,tQ zU (by rw[zf];exact k4), ?_⟩;rw[mA hx];have e:p1++q1++(y'++(q3++p3))=p1++((q1++(y'++q3))++p3):=by simp
      rw[e];refine Yh h6 ?_;simp only[an];exact⟨_,_,rfl,(kZ z).cY _ _ _ (by simpa[yH] using k1),h7⟩
     .rename_i z hz hne;cases hp;obtain⟨k1,k2⟩:=h8 new _ y' hne hs hn;have k3:z.size=y.size:=by simpa[Dv.size] using k2
      have k4:z.size=s:=by rw[k3];exact zU y (ybp hx)
      have hx':(xs.map Dv.p)[i]? =ab (.p y):=by rw[yaj,hx];rfl
      refine⟨?_,rfl⟩;simp only[yH]
      refine⟨by rw[yba,yx];exact hl,tQ (λq hq=>by
       obtain⟨q',hq',rfl⟩:=yby.1 hq;exact zU q' hq') k4, ?_⟩
      rw[mA hx'];have e:p1++q1++(y'++(q3++p3))=p1++((q1++(y'++q3))++p3):=by simp
      rw[e, <-List.map_take, <-List.map_drop];refine pM (pV h6) ?_;simp only[aG];exact⟨_,_,rfl,k1,pV h7⟩
     .cases hp
    .cases h
   |_=>simp[Yf]at h
  |agg xs=>
   simp only[Yf]at h;split at h
   .rename_i x hx;simp only[yp,yl]at h;obtain⟨⟨C1,off1,sub1,hs1⟩,h1,rfl,rfl,rfl,rfl⟩:=h;simp only[yH]at hr;obtain⟨p1,p2,p3,rfl,h2,h3,_,h6,h7⟩:=kY hr hx;obtain⟨q1,q2,q3,rfl,h4,h5,h8⟩:=lc yQ x _ _ _ _ _ p2 h1 hc h3;refine⟨p1++q1,q2,q3++p3,by simp,by rw[yr,h2,h4],h5,λnew dd' y' hp hs hn=> ?_⟩;simp only[XW,hx,yp]at hp;obtain⟨y,hy,rfl⟩:=hp;obtain⟨k1,k2⟩:=h8 new _ y' hy hs hn;refine⟨?_,by simp only[Dv.size];exact PS hx k2⟩;simp only[yH];rw[mA hx];have e:p1++q1++(y'++(q3++p3))=p1++((q1++(y'++q3))++p3):=by simp
    rw[e];refine pM h6 ?_;simp only[aG];exact⟨_,_,rfl,k1,h7⟩
   .cases h
  |arr n s xs=>
   simp only[Yf]at h;split at h
   .rename_i x hx;simp only[yp,yl]at h;obtain⟨⟨C1,off1,sub1,hs1⟩,h1,rfl,rfl,rfl,rfl⟩:=h;simp only[yH]at hr;obtain⟨hl,zU,hr⟩:=hr;obtain⟨p1,p2,p3,rfl,h2,h3,_,h6,h7⟩:=kY hr hx;obtain⟨q1,q2,q3,rfl,h4,h5,h8⟩:=lc yQ x _ _ _ _ _ p2 h1 hc h3;have hi:i < xs.length:=(yo.1 hx).1;refine⟨p1++q1,q2,q3++p3,by simp,by rw[yr,h2,h4,cM (λy hy=>zU y (ybv hy)),yae,yay (Nat.le_of_lt hi)],h5,λnew dd' y' hp hs hn=> ?_⟩;simp only[XW,hx,yp]at hp;obtain⟨y,hy,rfl⟩:=hp;obtain⟨k1,k2⟩:=h8 new _ y' hy hs hn;refine⟨?_,rfl⟩;simp only[yH];refine⟨by rw[yba];exact hl,tQ zU (by rw[k2];exact zU x (ybp hx)), ?_⟩;rw[mA hx];have e:p1++q1++(y'++(q3++p3))=p1++((q1++(y'++q3))++p3):=by simp
    rw[e];refine pM h6 ?_;simp only[aG];exact⟨_,_,rfl,k1,h7⟩
   .cases h
  |_=>simp[Yf]at h
section
variable{P:yg}{o:Oper}{a:Act}{J:Sg}{ts:yL Dv}{hs hs':yL al}{C:yL Prop}{d:Dv}
theorem nX{J':Sg}(hr:(execOp a.eval o).run P J.w=.ok .skip J'.w)(to:To J J')(ok:Ok J'):YH P o a J .ao J'.H:=by
 intro K Q h;unfold Oper.wp;rw[hr];exact h undef J' rfl to ok Xj
theorem PT{v:Dv}{u:yh}(hr:yJ J v u):yJ J v.cJ u:=by
 unfold Dv.cJ;split
 .rename_i x h1;exact tA h1 hr
 .exact hr
theorem PU{yQ:yL Nat}{dd v new:Dv}{u:yh}(h:ir yQ dd v=ab new)(hr:yJ J v u):yJ J new u:=by
 unfold ir at h;split at h
 .cases h;exact PT hr
 .split at h
  .cases h;exact PT hr
  .cases h;exact hr
theorem pW{x y z y':yL yh}{cs:Array yh}{n:Nat}(h:cs.toList.take n=x++(y++z))(hl:y'.length=y.length)(hn:n<=cs.size):
 (cs.toList.take x.length++y'++cs.toList.drop (x.length+y'.length)).take n=x++(y'++z)/\(cs.toList.take x.length++y'++cs.toList.drop (x.length+y'.length)).length=cs.size:=by
 have hnl:n=x.length+(y.length+z.length):=by
  have:=congrArg List.length h;simp only[yae,yau,yr]at this;omega
 have e:cs.toList=x++(y++z)++cs.toList.drop n:=by rw[<-h,ybk]
 have e1:cs.toList.take x.length=x:=by rw[e];simp
 have e2:cs.toList.drop (x.length+y'.length)=z++cs.toList.drop n:=by
  have hc:cs.toList=(x++y)++(z++cs.toList.drop n):=by
   have:x++y++(z++cs.toList.drop n)=x++(y++z)++cs.toList.drop n:=by simp
   rw[this];exact e
  have hle:x.length+y'.length=(x++y).length:=by rw[yr,hl]
  rw[hle];have:=congrArg (List.drop (x++y).length) hc;rw[List.drop_left]at this;exact this
 rw[e1,e2];constructor
 .have:x++y'++(z++cs.toList.drop n)=(x++(y'++z))++cs.toList.drop n:=by simp
  rw[this,hnl];have hle:x.length+(y.length+z.length)=(x++(y'++z)).length:=by simp[hl]
  rw[hle];exact List.take_left
 .simp only[yr,ybq,yau];omega
theorem ZL1(ok:Ok J)(yM:aD J ts a){t:yc}{x y:yn}{id off:Nat}{yQ:yL Nat}{dd sub new dd':Dv}{C1:yL Prop}{off':Nat}(ho:o.op=.store t x y)(hx:Zs P ts 0 x=.ak id off yQ)
 (hH:J.H[id]? =ab (.var dd af)) (hg:Yf dd yQ hs=ab (C1,off',sub,hs')) (hc:bc C1) (he:off'=off) (hn:ir yQ dd (Zs P ts t y)=ab new) (hp:XW new dd yQ hs=ab dd')
 (hsol:new.bE=af) (hsz:new.size=sub.size) (ht:P.cellsOf t=new.size) (hi:(P.info? t).isSome=af):YH P o a J .ao (J.H.set id (.var dd' af)):=by
 subst he;have hxv:=Zj (P:=P) yM 0 x;have hyv:=PU hn (Zj (P:=P) yM t y);rw[hx]at hxv;obtain⟨b,hm,hv,hxv⟩:=la hxv;obtain⟨b',cs,t',h1,h2,h3,h4⟩:=ok.dc id _ _ hH hm;cases h1;obtain⟨p1,p2,p3,h5,h6,h7,h8⟩:=lc yQ dd hs hs' C1 off' sub _ hg hc h3;have hcells:=WO hsol hyv;obtain⟨h9,h10⟩:=h8 new dd' _ hp hsz hcells;have hl1:(a.eval y).cells.toList.length=new.size:=XB _ _ hcells;have hl2:p2.length=sub.size:=XB _ _ h7;have hll:(a.eval y).cells.toList.length=p2.length:=by rw[hl1,hl2,hsz]
 obtain⟨k1,k2⟩:=pW h5 hll h4;rw[h6]at k1 k2
 have hnl:off'+(a.eval y).cells.toList.length<=cs.size:=by
  have:=congrArg List.length h5;simp only[yae,yau,yr]at this;omega
 have hone:∀u,u∈(a.eval y).cells.toList->u.oneCell'=af:=tH new _ hsol hcells;have hst:=run_storeCells_at P b off' t' (a.eval y).cells.toList 0 cs J.w h2 (by simpa using hnl) hone;simp only[Nat.add_zero]at hst;let ncs:Array yh:=(cs.toList.take off'++(a.eval y).cells.toList++cs.toList.drop (off'+(a.eval y).cells.toList.length)).toArray;let J':Sg:={ J with m:=J.m.set id (ab b),H:=J.H.set id (.var dd' af),w:=J.w.setRow b ncs};have zV:J'.w.heap[b]? =ab (.cells ncs t' (0,0)):=setRow_heap J.w b cs _ t' _ h2;have hoth:∀j,b≠j->J'.w.heap[j]? =J.w.heap[j]? :=λj hj=>setRow_other J.w b j _ (Ne.symm hj)
 obtain⟨to,ok'⟩:=YX (J':=J') (mi:=ab b) (mi':=ab b) ok hH hm rfl rfl rfl rfl rfl rfl rfl (by simp[J'])
  (λj hj hne=>hoth j (λhh=>hne (by rw[hh]))) (λb' o v _ hu _=>by cases hu) (λo _ hu=>by cases hu) (.inl rfl) (λ_=>⟨rfl,dd',af,rfl⟩) (λ⟨d,st,h⟩=>by cases h)
  (λs e xs h=>by cases h) (λleaf=>⟨b,ncs,t',rfl,zV,by rw[h10];show yH J' dd' (ncs.toList.take dd.size);rw[show ncs.toList.take dd.size=p1++((a.eval y).cells.toList++p3) from k1];exact ZZ leaf dd' _ h9,by
    rw[h10];show dd.size<=ncs.size;have:ncs.size=cs.size:=k2;omega⟩)
 refine nX (J':=J') ?_ to ok'
 cases hi':P.info? t with
 |none=>simp[hi']at hi
 |some i=>
  have hs:(a.eval y).cells.size=i.size:=by
   rw[<-yau,hl1, <-ht];simp[Program.cellsOf,hi']
  simp only[execOp,ho,hxv,Instr.storeAt,Instr.sureAddr,storeVar,sizeOf,typeInfo,Sem.run_bind,run_program,Result.andThen_ok,hi',Sem.run_pure,hs,ne_eq,not_true,if_false,hst];rfl
theorem PV(ok:Ok J)(yM:aD J ts a){t e:yc}{x:yn}{lo hi:yO yn}{id off n s:Nat}{yQ:yL Nat}{dd:Dv}{st:Bool}{xs:yL Pl}{C1:yL Prop}{off':Nat}{l r:yO Int}
 (ho:o.op=.slice t x lo hi ae) (hu:P.underlying t=ab (.array n e)) (hx:Zs P ts t x=.ak id off yQ) (hl:fT P ts lo=ab l) (hr:fT P ts hi=ab r)
 (hH:J.H[id]? =ab (.var dd st)) (hg:Yf dd yQ hs=ab (C1,off',.p (.arr n s xs),hs')) (hc:bc C1) (he:off'=off) (hce:P.cellsOf e=s) (hi':(P.info? e).isSome=af) (hm':n<=maxLen)
 (hcut:bc (YT n l r)):YH P o a J (.p (.sl (ab af) s (WU xs l r))) (J.H.set id (.var dd ag)):=by
 have hxv:=Zj (P:=P) yM t x;rw[hx]at hxv;obtain⟨b,hm,hv,hxv⟩:=la hxv;obtain⟨cs,t',p1,p2,p3,h2,h4,h5,h6,h7,h3,h8⟩:=tN ok hm hH hg hc he;simp only[yH,aw]at h7;obtain⟨h9,h10,h11⟩:=h7;subst h9;let J':Sg:={ J with m:=J.m.set id (ab b),H:=J.H.set id (.var dd ag)};have hmset:J'.m[id]? =ab (ab b):=aj hm;have hHset:J'.H[id]? =ab (.var dd ag):=aj hH
 obtain⟨to,ok'⟩:=YX (J':=J') (mi:=ab b) (mi':=ab b) ok hH hm rfl rfl rfl rfl rfl rfl rfl (ym _)
  (λ_ _ _=>rfl) (λ_ _ _ _ _ h=>h) (λo _ hu=>rfl) (.inl rfl) (λ_=>⟨rfl,dd,ag,rfl⟩) (λ⟨d,st,h⟩=>by cases h)
  (λs e xs h=>by cases h) (λleaf=>⟨b,cs,t',rfl,h2,ZZ leaf dd _ h3,h4⟩)
 have hcells:X7 J'.w J'.aV b off p2:=λj u hu=>by
  refine⟨h8 j u hu,.inr (ok.own id b hm),λj' e' g1 g2=> ?_⟩;have:j'=id:=ok'.inj j' id _ g1 hmset;subst this;rw[hHset]at g2;cases g2;rfl
 obtain⟨p,q,hb,k1,k2,rfl,rfl⟩:=QS (P:=P) (w:=J.w) ag xs.length xs.length _ _ _ _ (Yz yM hl) (Yz yM hr) hcut (ym _);obtain⟨j1,j2,j3,j4,j5,j6,j7⟩:=tE (A:=ab ⟨b,off,ae⟩) (w:=J'.w) (S:=J'.aV) h10 (ym _) hm' (λhA=>by cases hA) (λ_=>⟨b,off,p2,rfl,aC to.leaf.cells _ _ h11,hcells⟩) k1 k2
 have zB:(Instr.sliceAt t (a.eval x) (lo.map a.eval) (hi.map a.eval) ae).run P J.w=.ok (.slice (ab (if xs.length=(l.getD 0).toNat then(⟨b,off,ae⟩:Addr) else(⟨b,off,ae⟩:Addr).add ((l.getD 0).toNat*s))) ((r.getD (xs.length:Int)).toNat - (l.getD 0).toNat) (xs.length - (l.getD 0).toNat)) J.w:=by
  rw[hxv];simp[Instr.sliceAt,Instr.sureAddr,run_underlying hu,hb,ZV hi',hce]
 have hrun2:(execOp a.eval o).run P J.w=.ok (.value (.slice (ab (if xs.length=(l.getD 0).toNat then(⟨b,off,ae⟩:Addr) else(⟨b,off,ae⟩:Addr).add ((l.getD 0).toNat*s))) ((r.getD (xs.length:Int)).toNat - (l.getD 0).toNat) (xs.length - (l.getD 0).toNat))) J'.w:=by
  show _=Result.ok _ J.w;simp only[execOp,ho,Option.map_none,Sem.run_bind,zB,Result.andThen_ok,Sem.run_pure]
 refine ZK hrun2 to ok' ?_;rw[tF xs l r hcut];have:=Yl (J:=J') j1 (by rw[j2];exact j3) j4 (Q6 j5) j6 j7;rw[j2]at this;simpa[apply_ite] using this
end
theorem pX:∀{ids:yL Nat},once ids=af->∀(i j id:Nat),ids[i]? =ab id->ids[j]? =ab id->i=j
 |[],_,i,j,id,h,_=>by simp at h
 |x::r,ho,i,j,id,hi,hj=>by
  simp only[once,yi,Bool.not_eq_true']at ho;have hx:x ∉ r:=by simpa using ho.1
  cases i with
  |zero=>
   cases j with
   |zero=>rfl
   |succ j=>
    simp only[ybb,yj]at hi;simp only[yat]at hj;subst hi
    exact absurd (ybp hj) hx
  |succ i=>
   cases j with
   |zero=>
    simp only[ybb,yj]at hj;simp only[yat]at hi;subst hj
    exact absurd (ybp hi) hx
   |succ j=>
    simp only[yat]at hi hj;rw[pX ho.2 i j id hi hj]
theorem bW{ids:yL Nat}{id j:Nat}(h:ids.idxOf? id=ab j):ids[j]? =ab id:=by
 induction ids generalizing j with
 |nil=>simp at h
 |cons x r ih=>
  rw[List.idxOf?_cons]at h;split at h
  .rename_i hx;cases h;have:x=id:=by simpa using hx
   simp[this]
  .simp only[yp]at h;obtain⟨k,hk,rfl⟩:=h;simpa using ih hk
theorem cl{ids:yL Nat}(ho:once ids=af){id j:Nat}(h:ids[j]? =ab id):ids.idxOf? id=ab j:=by
 cases hi:ids.idxOf? id with
 |none=>
  rw[List.idxOf?_eq_none_iff]at hi
  exact absurd (ybp h) hi
 |some k=>rw[pX ho k j id (bW hi) h]
theorem tR{α:Type}:∀(H:yL α)(ids:yL Nat)(Hb:yL α),ids.length<=Hb.length->(ar H ids Hb).length=H.length+(Hb.length - ids.length)
 |H,[],Hb,_=>by simp[ar]
 |H,id::r,[],h=>by simp at h
 |H,id::r,e::Hb,h=>by
  simp only[yah]at h;rw[ar,tR _ r Hb (by omega),yba];simp
theorem Vi{α:Type}:∀(H:yL α)(ids:yL Nat)(Hb:yL α)(i:Nat),ids.length<=Hb.length->i < H.length->i ∉ ids->(ar H ids Hb)[i]? =H[i]?
 |H,[],Hb,i,_,hi,_=>by simp only[ar];rw[yai hi]
 |H,id::r,[],i,h,_,_=>by simp at h
 |H,id::r,e::Hb,i,h,hi,hn=>by
  simp only[yah]at h;simp only[yaw,not_or]at hn;rw[ar,Vi _ r Hb i (by omega) (by simpa using hi) hn.2,ybl,yX (Ne.symm hn.1)]
theorem pY{α:Type}:∀(H:yL α)(ids:yL Nat)(Hb:yL α)(j id:Nat),once ids=af->ids.length<=Hb.length->(∀i,i∈ids->i < H.length)->ids[j]? =ab id->(ar H ids Hb)[id]? =Hb[j]?
 |H,[],Hb,j,id,_,_,_,h=>by simp at h
 |H,x::r,[],j,id,_,h,_,_=>by simp at h
 |H,x::r,e::Hb,j,id,ho,hl,hlt,h=>by
  simp only[once,yi,Bool.not_eq_true']at ho;have hx:x ∉ r:=by simpa using ho.1
  simp only[yah]at hl;rw[ar]
  cases j with
  |zero=>
   simp only[ybb,yj]at h;subst h;have hxl:x < H.length:=hlt x (yao ..);rw[Vi _ r Hb x (by omega) (by simpa using hxl) hx]
   simp[hxl]
  |succ j=>
   simp only[yat]at h ⊢;exact pY _ r Hb j id ho.2 (by omega) (λi hi=>by rw[yba];exact hlt i (yas _ hi)) h
theorem tS{α:Type}:∀(H:yL α)(ids:yL Nat)(Hb:yL α)(j:Nat),ids.length<=Hb.length->ids.length<=j->(ar H ids Hb)[H.length+(j - ids.length)]? =Hb[j]?
 |H,[],Hb,j,_,_=>by
  simp only[ar,ycn,Nat.sub_zero];rw[yam (by omega)]
  simp
 |H,id::r,[],j,h,_=>by simp at h
 |H,id::r,e::Hb,j,h,hj=>by
  simp only[yah]at h hj
  cases j with
  |zero=>omega
  |succ j=>
   rw[ar];have:=tS (H.set id e) r Hb j (by omega) (by omega);rw[yba]at this;simp only[yah,yat];rw[<-this];congr 1;omega
theorem VH{H:yL ax}{all:yL Nat}:∀{ids:yL Nat}{Hin:yL ax},aJ H all ids=ab Hin->Hin.length=ids.length
 |[],Hin,h=>by simp only[aJ,yj]at h;subst h;rfl
 |id::r,Hin,h=>by
  simp only[aJ]at h;split at h
  .rename_i e es _ h2;cases h;simp[VH h2]
  .cases h
theorem VI{H:yL ax}{all:yL Nat}:∀{ids:yL Nat}{Hin:yL ax}{j id:Nat},aJ H all ids=ab Hin->ids[j]? =ab id->
 ∃e e',H[id]? =ab e/\Hin[j]? =ab e'/\e.rn (aT all)=ab e'
 |[],Hin,j,id,_,hj=>by simp at hj
 |x::r,Hin,j,id,h,hj=>by
  simp only[aJ]at h;split at h
  .rename_i e es h1 h2;cases h
   cases j with
   |zero=>
    simp only[ybb,yj]at hj;subst hj;simp only[Option.bind_eq_some_iff]at h1;obtain⟨e0,h3,h4⟩:=h1
    exact⟨e0,e,h3,rfl,h4⟩
   |succ j=>
    simp only[yat]at hj ⊢;exact VI h2 hj
  .cases h
theorem PW{f:Nat->yO Nat}:∀{H Hb:yL ax},ax.bz f H=ab Hb->Hb.length=H.length
 |[],Hb,h=>by simp only[ax.bz,yj]at h;subst h;rfl
 |e::H,Hb,h=>by
  simp only[ax.bz]at h;split at h
  .rename_i y ys _ h2;cases h;simp[PW h2]
  .cases h
theorem tT{f:Nat->yO Nat}:∀{H Hb:yL ax}{j:Nat}{e:ax},ax.bz f H=ab Hb->H[j]? =ab e->∃e',Hb[j]? =ab e'/\e.rn f=ab e'
 |[],Hb,j,e,_,he=>by simp at he
 |x::H,Hb,j,e,h,he=>by
  simp only[ax.bz]at h;split at h
  .rename_i y ys h1 h2;cases h
   cases j with
   |zero=>
    simp only[ybb,yj]at he;subst he
    exact⟨y,rfl,h1⟩
   |succ j=>
    simp only[yat]at he ⊢;exact tT h2 he
  .cases h
theorem PX{f:Nat->yO Nat}{d d':Dv}{s:Nat}(h:d.rn f=ab d'):aO d' s=aO d s:=by
 cases d with
 |p x=>simp only[Dv.rn,yj]at h;subst h;rfl
 |arr n t xs=>simp only[Dv.rn,yp]at h;obtain⟨ys,_,rfl⟩:=h;rfl
 |elem x=>simp only[Dv.rn,yj]at h;subst h;rfl
 |ao=>simp only[Dv.rn,yj]at h;subst h;rfl
 |_=>simp only[Dv.rn,yp]at h;obtain⟨ys,_,rfl⟩:=h;rfl
theorem zw{f:Nat->yO Nat}{e e':ax}{o:Nat}(h:e.rn f=ab e'):e'.bv o↔e.bv o:=by
 cases e with
 |var d st=>
  simp only[ax.rn,yp]at h;obtain⟨d',_,rfl⟩:=h
  exact Iff.rfl
 |log s t xs=>simp only[ax.rn,yj]at h;subst h;exact Iff.rfl
 |map t bw=>simp only[ax.rn,yj]at h;subst h;exact Iff.rfl
 |row v s st e d=>
  simp only[ax.rn,yp]at h;obtain⟨d',h,rfl⟩:=h
  simp only[ax.bv,PX h]
 |gone=>simp only[ax.rn,yj]at h;subst h;exact Iff.rfl
theorem zx{f:Nat->yO Nat}{J J':Sg}(h:Rn f J J'){a:yO Nat}{e e':ax}(he:e.rn f=ab e')(hok:dA J a e):dA J' a e':=by
 cases e with
 |var d st=>
  simp only[ax.rn,yp]at he;obtain⟨d',hd,rfl⟩:=he;obtain⟨b,cs,t,rfl,h1,h2,h3⟩:=hok;have hs:=(kg d d' hd).1
  exact⟨b,cs,t,rfl,by rw[h.w];exact h1,by rw[hs];exact kh h d d' _ hd h2,by rw[hs];exact h3⟩
 |log s t xs=>
  simp only[ax.rn,yj]at he;subst he;rcases hok with⟨rfl,h1⟩|⟨b,cur,cap,rfl,h1,h2,h3,h4,h5,h6⟩
  .exact .inl ⟨rfl,h1⟩
  .exact .inr ⟨b,cur,cap,rfl,by rw[h.w];exact h1,h2,h3,h4,h5,aC h.cells xs _ h6⟩
 |map t bw=>
  simp only[ax.rn,yj]at he;subst he;obtain⟨b,es,clock,rfl,h1,h2,h3⟩:=hok;refine⟨b,es,clock,rfl,by rw[h.w];exact h1, ?_,h3⟩
  have key:∀(l:yL (Pl×Pl))(es:yL MapEntry),fN J l es->fN J' l es:=by
   intro l
   induction l with
   |nil=>intro es k;cases es <;> exact k
   |cons q r ih=>
    intro es k
    cases es with
    |nil=>exact k
    |cons e es=>exact⟨mh h rfl k.1,mh h rfl k.2.1,ih es k.2.2⟩
  obtain⟨l',p,nd,h2⟩:=h2
  exact⟨l',p,nd,key _ _ h2⟩
 |row v s st e d=>
  simp only[ax.rn,yp]at he;obtain⟨d',hd,rfl⟩:=he;obtain⟨N,h0,h1⟩:=hok;refine⟨N,by rw[PX hd];exact h0, ?_⟩;rcases h1 with h1|⟨b,cur,cap,rfl,h1,h2,h3,h4,h5⟩
  .exact .inl h1
  .exact .inr ⟨b,cur,cap,rfl,by rw[h.w];exact h1,h2,h3,h4,kh h d d' _ hd h5⟩
 |gone=>simp only[ax.rn,yj]at he;subst he;trivial
section
variable{P:yg}{o:Oper}{a:Act}{J:Sg}{ts:yL Dv}
def callee(J:Sg)(ids:yL Nat)(Hin:yL ax):Sg:=
 { F:=J.aV,B:=λb=>J.w.heap.size<=b\/∃j:Nat,(ids.map λid=>(J.m[id]?).getD ae)[j]? =ab (ab b),m:=ids.map λid=>(J.m[id]?).getD ae,H:=Hin,w:=J.w}
theorem PY{ids:yL Nat}{Hin:yL ax}{j id:Nat}{x:yO Nat}(h:ids[j]? =ab id)(hm:J.m[id]? =ab x):(callee J ids Hin).m[j]? =ab x:=by
 show(ids.map λid=>(J.m[id]?).getD ae)[j]? =ab x;rw[yaj,h];simp[hm]
theorem XN{ids:yL Nat}{Hin:yL ax}{j b:Nat}(h:(callee J ids Hin).m[j]? =ab (ab b)):∃id,ids[j]? =ab id/\J.m[id]? =ab (ab b):=by
 have h':(ids.map λid=>(J.m[id]?).getD ae)[j]? =ab (ab b):=h;rw[yaj]at h';obtain⟨id,h1,h2⟩:=yp.1 h';refine⟨id,h1, ?_⟩
 cases hm:J.m[id]? with
 |none=>rw[hm]at h2;cases h2
 |some x=>rw[hm]at h2;simp at h2;rw[h2]
theorem zy(ok:Ok J){ids:yL Nat}{Hin:yL ax}(ho:once ids=af)(hin:aJ J.H ids ids=ab Hin):Rn (aT ids) J (callee J ids Hin) where
 w:=rfl
 aV b o v _ h:=by
  refine⟨.inl h,λj e hj he=> ?_⟩;obtain⟨id,h1,h2⟩:=XN hj;obtain⟨e0,e',h3,h4,h5⟩:=VI hin h1;have he':Hin[j]? =ab e:=he;rw[h4]at he';cases he';exact(zw h5).2 (h.2 id e0 h2 h3)
 m id j hj x hx:=PY (bW hj) hx
 H id j hj e he:=by
   obtain⟨e0,e',h3,h4,h5⟩:=VI hin (bW hj);rw[he]at h3;cases h3;exact⟨e',h4,h5⟩
theorem ZHC(ok:Ok J){ids:yL Nat}{Hin:yL ax}(ho:once ids=af)(hin:aJ J.H ids ids=ab Hin):Ok (callee J ids Hin) where
 len:=by
  show(ids.map _).length=Hin.length;rw[yx,VH hin]
 inj i j b hi hj:=by
  obtain⟨x,h1,h2⟩:=XN hi;obtain⟨y,h3,h4⟩:=XN hj;have:=ok.inj x y b h2 h4;subst this;exact pX ho i j x h1 h3
 lt i b hi:=by
  obtain⟨x,h1,h2⟩:=XN hi;exact ok.lt x b h2
 dc i e x he hx:=by
  have he':Hin[i]? =ab e:=he;have hi:i < ids.length:=by rw[<-VH hin];exact(yo.1 he').1
  obtain⟨e0,e',h3,h4,h5⟩:=VI hin (yac hi);rw[he']at h4;cases h4
  have hm:∃y,J.m[ids[i]]? =ab y:=by
   have:ids[i] < J.m.length:=by rw[ok.len];exact(yo.1 h3).1
   exact⟨_,yac this⟩
  obtain⟨y,hy⟩:=hm;have:=PY (Hin:=Hin) (yac hi) hy;rw[hx]at this;cases this;exact zx (zy ok ho hin) h5 (ok.dc _ _ _ h3 hy)
 new b hb:=.inl hb
 own i b hi:=.inr ⟨i,hi⟩
end
end Go.Ev
end
section
namespace Go.Ev
section
variable{P:yg}{o:Oper}{a:Act}{J:Sg}{ts:yL Dv}
def jC(J:Sg)(ids:yL Nat)(Hb:yL ax)(τ:Sg):Sg:=
 { F:=J.F,B:=J.B,m:=ar J.m ids τ.m,H:=ar J.H ids Hb,w:=τ.w}
theorem PZ(ok:Ok J){ids:yL Nat}{Hin Hb:yL ax}{τ:Sg}(ho:once ids=af)(hin:aJ J.H ids ids=ab Hin)(to:To (callee J ids Hin) τ)(okτ:Ok τ)(hle:ids.length<=τ.H.length)
 (hb:ax.bz (aP ids J.H.length) τ.H=ab Hb):
 To J (jC J ids Hb τ)/\Ok (jC J ids Hb τ)/\Rn (aP ids J.H.length) τ (jC J ids Hb τ):=by
 have hbl:Hb.length=τ.H.length:=PW hb;have hml:τ.m.length=τ.H.length:=okτ.len
 have hidl:∀i,i∈ids->i < J.H.length:=by
  intro i hi;obtain⟨j,hj,rfl⟩:=ycm hi;obtain⟨e0,_,h3,_⟩:=VI hin (yac hj);exact(yo.1 h3).1
 have hidm:∀i,i∈ids->i < J.m.length:=λi hi=>by rw[ok.len];exact hidl i hi
 have mo:∀id,id < J.H.length->id ∉ ids->(ar J.m ids τ.m)[id]? =J.m[id]? :=λid h1 h2=>Vi _ _ _ _ (by omega) (by rw[ok.len];exact h1) h2;have Ho:∀id,id < J.H.length->id ∉ ids->(ar J.H ids Hb)[id]? =J.H[id]? :=λid h1 h2=>Vi _ _ _ _ (by omega) h1 h2;have ma:∀(j id:Nat),ids[j]? =ab id->(ar J.m ids τ.m)[id]? =τ.m[j]? :=λj id h=>pY _ _ _ _ _ ho (by omega) hidm h;have Ha:∀(j id:Nat),ids[j]? =ab id->(ar J.H ids Hb)[id]? =Hb[j]? :=λj id h=>pY _ _ _ _ _ ho (by omega) hidl h;have mn:∀j,ids.length<=j->(ar J.m ids τ.m)[J.H.length+(j - ids.length)]? =τ.m[j]? :=λj h=>by rw[<-ok.len];exact tS _ _ _ _ (by omega) h
 have Hn:∀j,ids.length<=j->(ar J.H ids Hb)[J.H.length+(j - ids.length)]? =Hb[j]? :=λj h=>tS _ _ _ _ (by omega) h
 have three:∀id,id < J.H.length+(τ.H.length - ids.length)->(id < J.H.length/\id ∉ ids)\/(∃j:Nat,ids[j]? =ab id)\/(∃j:Nat,ids.length<=j/\id=J.H.length+(j - ids.length)):=by
  intro id h;by_cases h1:id < J.H.length
  .by_cases h2:id∈ids
   .obtain⟨j,hj,rfl⟩:=ycm h2;exact .inr (.inl ⟨j,yac hj⟩)
   .exact .inl ⟨h1,h2⟩
  .exact .inr (.inr ⟨ids.length+(id - J.H.length),by omega,by omega⟩)
 have mlen:(ar J.m ids τ.m).length=J.H.length+(τ.H.length - ids.length):=by rw[tR _ _ _ (by omega),ok.len,hml]
 have fromAt:∀(j id:Nat),ids[j]? =ab id->aP ids J.H.length j=ab id:=λj id h=>by
  have hj:j < ids.length:=(yo.1 h).1;unfold aP;rw[yW hj,h]
 have fromNew:∀j,ids.length<=j->aP ids J.H.length j=ab (J.H.length+(j - ids.length)):=λj h=>by
  unfold aP;rw[yX (by omega)]
 have back:∀(id b:Nat),(ar J.m ids τ.m)[id]? =ab (ab b)->(id < J.H.length/\id ∉ ids/\J.m[id]? =ab (ab b))\/(∃j:Nat,aP ids J.H.length j=ab id/\τ.m[j]? =ab (ab b)/\(ar J.H ids Hb)[id]? =Hb[j]?):=by
  intro id b h;have hlt:id < J.H.length+(τ.H.length - ids.length):=by rw[<-mlen];exact(yo.1 h).1
  rcases three id hlt with⟨h1,h2⟩|⟨j,h1⟩|⟨j,h1,rfl⟩
  .exact .inl ⟨h1,h2,by rw[<-mo id h1 h2];exact h⟩
  .exact .inr ⟨j,fromAt j id h1,by rw[<-ma j id h1];exact h,Ha j id h1⟩
  .exact .inr ⟨j,fromNew j h1,by rw[<-mn j h1];exact h,Hn j h1⟩
 have keep:∀(id b:Nat),id ∉ ids->J.m[id]? =ab (ab b)->τ.w.heap[b]? =J.w.heap[b]? :=λid b h1 h2=>
  to.block b (ok.lt id b h2) (λj hj=>by
    obtain⟨id',h3,h4⟩:=XN hj;have:=ok.inj id id' b h2 h4;subst this;exact h1 (ybp h3))
 have mapped:∀(j b:Nat),τ.m[j]? =ab (ab b)->(∃id,ids[j]? =ab id/\J.m[id]? =ab (ab b))\/J.w.heap.size<=b:=by
  intro j b h;rcases to.same j b h with h1|h1
  .exact .inl (XN h1)
  .exact .inr h1
 have stabτ:∀b o v,τ.w.cell? ⟨b,o,ae⟩=ab v->τ.aV b o->(jC J ids Hb τ).aV b o:=by
  intro b o v hcell h;have hB:τ.B=(callee J ids Hin).B:=to.B;have hF:τ.F=(callee J ids Hin).F:=to.F
  have hfirst:J.aV b o\/J.B b:=by
   rcases h.1 with h1|h1
   .rw[hF]at h1;exact .inl h1
   .rw[hB]at h1;rcases h1 with h1|⟨j,hj⟩
    .exact .inr (ok.new b h1)
    .obtain⟨id,_,h3⟩:=XN (J:=J) (Hin:=Hin) hj;exact .inr (ok.own id b h3)
  refine⟨?_,λid e hid he=> ?_⟩
  .rcases hfirst with h1|h1
   .exact h1.1
   .exact .inr h1
  .have hid':(ar J.m ids τ.m)[id]? =ab (ab b):=hid;have he':(ar J.H ids Hb)[id]? =ab e:=he;rcases back id b hid' with⟨h1,h2,h3⟩|⟨j,h1,h2,h3⟩
   .rw[Ho id h1 h2]at he';have hbs:=ok.lt id b h3;rcases h.1 with h4|h4
    .rw[hF]at h4;exact h4.2 id e h3 he'
    .rw[hB]at h4;rcases h4 with h4|⟨j,hj⟩
     .omega
     .obtain⟨id',h5,h6⟩:=XN (J:=J) (Hin:=Hin) hj;have:=ok.inj id id' b h3 h6;subst this;exact absurd (ybp h5) h2
   .rw[h3]at he';have hj:j < τ.H.length:=by rw[<-hbl];exact(yo.1 he').1
    obtain⟨e',h4,h5⟩:=tT hb (yac hj);rw[he']at h4;cases h4;exact(zw h5).2 (h.2 j _ h2 (yac hj))
 have rn:Rn (aP ids J.H.length) τ (jC J ids Hb τ):=by
  refine⟨rfl,λb o v h1 h2=>stabτ b o v h1 h2,λj id hj x hx=> ?_,λj id hj e he=> ?_⟩
  .show(ar J.m ids τ.m)[id]? =ab x;unfold aP at hj;split at hj
   .rw[ma j id hj];exact hx
   .cases hj;rw[mn j (by omega)];exact hx
  .obtain⟨e',h4,h5⟩:=tT hb he;refine⟨e', ?_,h5⟩;show(ar J.H ids Hb)[id]? =ab e';unfold aP at hj;split at hj
   .rw[Ha j id hj];exact h4
   .cases hj;rw[Hn j (by omega)];exact h4
 have crn:=zy ok ho hin
 have leaf:cD J (jC J ids Hb τ):=by
  refine⟨λb o v h1 h2=> ?_,λid b h1 h2=> ?_,λid s len A c h1=> ?_,λid b h1 h2=> ?_,λid v s st e d h1=> ?_⟩
  .obtain⟨h3,h4⟩:=to.leaf.cells b o v h1 (crn.aV b o v h1 h2);exact⟨h3,stabτ b o v h3 h4⟩
  .have hlt:id < J.H.length:=by rw[<-ok.len];exact(yo.1 h1).1
   by_cases hi:id∈ids
   .obtain⟨j,hj,rfl⟩:=ycm hi;have hj':=yac hj;have h3:aT ids ids[j]=ab j:=cl ho hj';obtain⟨h4,h5⟩:=to.leaf.var j b (crn.m _ _ h3 _ h1) (crn.var h3 h2);exact⟨rn.m _ _ (fromAt j _ hj') _ h4,rn.var (fromAt j _ hj') h5⟩
   .exact⟨(mo id hlt hi).trans h1,by
     obtain⟨d,st,h2⟩:=h2;exact⟨d,st,(Ho id hlt hi).trans h2⟩⟩
  .have h1':=h1;obtain⟨e,ys,h2,h3,h4⟩:=h1;have hlt:id < J.H.length:=(yo.1 h2).1;by_cases hi:id∈ids
   .obtain⟨j,hj,rfl⟩:=ycm hi;have hj':=yac hj;have h5:aT ids ids[j]=ab j:=cl ho hj';exact rn.front (fromAt j _ hj') (to.leaf.front _ _ _ _ _ (crn.front h5 h1'))
   .refine⟨e,ys,(Ho id hlt hi).trans h2,h3,λhl=> ?_⟩;rcases h4 hl with⟨h5,h6⟩|⟨b,cur,h5,h6,h7,h8⟩
    .exact .inl ⟨(mo id hlt hi).trans h5,h6⟩
    .exact .inr ⟨b,cur,(mo id hlt hi).trans h5,h6,(keep id b hi h5).trans h7,h8⟩
  .have hlt:id < J.H.length:=by rw[<-ok.len];exact(yo.1 h1).1
   by_cases hi:id∈ids
   .obtain⟨j,hj,rfl⟩:=ycm hi;have hj':=yac hj;have h3:aT ids ids[j]=ab j:=cl ho hj';obtain⟨h4,h5⟩:=to.leaf.map j b (crn.m _ _ h3 _ h1) (crn.map h3 h2);exact⟨rn.m _ _ (fromAt j _ hj') _ h4,rn.map (fromAt j _ hj') h5⟩
   .exact⟨(mo id hlt hi).trans h1,by
     obtain⟨d,st,h2⟩:=h2;exact⟨d,st,(Ho id hlt hi).trans h2⟩⟩
  .have hlt:id < J.H.length:=(yo.1 h1).1;by_cases hi:id∈ids
   .obtain⟨j,hj,rfl⟩:=ycm hi;have hj':=yac hj;have h3:aT ids ids[j]=ab j:=cl ho hj';obtain⟨d1,h4⟩:=crn.row h3 h1;obtain⟨v',st',d',h5,h6,h7⟩:=to.leaf.row _ _ _ _ _ _ h4;obtain⟨d2,h8⟩:=rn.row (fromAt j _ hj') h5;refine⟨v',st',d2,h8,h6,λhv=> ?_⟩;obtain⟨h9,h10⟩:=h7 hv;have hmm:∃x,J.m[ids[j]]? =ab x:=⟨_,yac (by rw[ok.len];exact hlt)⟩;obtain⟨x,hx⟩:=hmm;have hcx:=crn.m _ _ h3 _ hx;refine⟨by rw[hx];exact rn.m _ _ (fromAt j _ hj') _ (by rw[h9];exact hcx),λb cur hb hc=> ?_⟩;rw[hx]at hb;cases hb;exact h10 b cur hcx hc
   .exact⟨v,st,d,(Ho id hlt hi).trans h1,ym _,λ_=>⟨mo id hlt hi,λb cur hb hc=>⟨cur,(keep id b hi hb).trans hc,rfl⟩⟩⟩
 refine⟨⟨leaf,rfl,rfl,to.os,to.tape,to.output,to.size,λb hb hn=>to.block b hb (λj hj=> ?_),λid b h=> ?_, ?_⟩,⟨?_, ?_, ?_, ?_,λb h=>ok.new b (ybx to.size h), ?_⟩,rn⟩
 .obtain⟨id,_,h3⟩:=XN (J:=J) (Hin:=Hin) hj;exact hn id h3
 .rcases back id b h with⟨_,_,h3⟩|⟨j,h1,h2,_⟩
  .exact .inl h3
  .rcases mapped j b h2 with⟨id',h3,h4⟩|h3
   .have:=fromAt j id' h3;rw[h1]at this;cases this;exact .inl h4
   .exact .inr h3
 .show J.m.length<=(ar J.m ids τ.m).length;rw[mlen,ok.len];omega
 .show(ar J.m ids τ.m).length=(ar J.H ids Hb).length;rw[mlen,tR _ _ _ (by omega),hbl]
 .intro i j b hi hj;rcases back i b hi with⟨h1,h2,h3⟩|⟨k,h1,h2,_⟩ <;> rcases back j b hj with⟨h4,h5,h6⟩|⟨l,h4,h5,_⟩
  .exact ok.inj i j b h3 h6
  .have hbs:=ok.lt i b h3;rcases mapped l b h5 with⟨id',h7,h8⟩|h7
   .have:=ok.inj i id' b h3 h8;subst this;exact absurd (ybp h7) h2
   .omega
  .have hbs:=ok.lt j b h6;rcases mapped k b h2 with⟨id',h7,h8⟩|h7
   .have:=ok.inj j id' b h6 h8;subst this;exact absurd (ybp h7) h5
   .omega
  .have:=okτ.inj k l b h2 h5;subst this;rw[h1]at h4;exact yax h4
 .intro i b hi;rcases back i b hi with⟨_,_,h3⟩|⟨k,_,h2,_⟩
  .exact Nat.lt_of_lt_of_le (ok.lt i b h3) to.size
  .exact okτ.lt k b h2
 .intro i e x he hx;have he':(ar J.H ids Hb)[i]? =ab e:=he;have hx':(ar J.m ids τ.m)[i]? =ab x:=hx;have hlt:i < J.H.length+(τ.H.length - ids.length):=by rw[<-mlen];exact(yo.1 hx').1
  have viaτ:∀j,aP ids J.H.length j=ab i->τ.m[j]? =ab x->Hb[j]? =ab e->dA (jC J ids Hb τ) x e:=by
   intro j _ h2 h3;have hj:j < τ.H.length:=by rw[<-hbl];exact(yo.1 h3).1
   obtain⟨e',h4,h5⟩:=tT hb (yac hj);rw[h3]at h4;cases h4;exact zx rn h5 (okτ.dc j _ x (yac hj) h2)
  rcases three i hlt with⟨h1,h2⟩|⟨j,h1⟩|⟨j,h1,rfl⟩
  .rw[Ho i h1 h2]at he';rw[mo i h1 h2]at hx';exact nT leaf (λb hb'=>keep i b h2 (by rw[hx',hb'])) (ok.dc i e x he' hx')
  .exact viaτ j (fromAt j i h1) (by rw[<-ma j i h1];exact hx') (by rw[<-Ha j i h1];exact he')
  .exact viaτ j (fromNew j h1) (by rw[<-mn j h1];exact hx') (by rw[<-Hn j h1];exact he')
 .intro i b hi;rcases back i b hi with⟨_,_,h3⟩|⟨k,_,h2,_⟩
  .exact ok.own i b h3
  .rcases mapped k b h2 with⟨id',_,h8⟩|h7
   .exact ok.own id' b h8
   .exact ok.new b h7
theorem lf{args:yL yn}{tys:yL yc}(yM:aD J ts a)(ids:yL Nat)(hl:args.length=tys.length):aE J ((args.zip tys).map λq=>(Zs P ts q.2 q.1).bR ids) (args.map a.eval):=by
 induction args generalizing tys with
 |nil=>simp[aE]
 |cons x args ih=>
  cases tys with
  |nil=>simp at hl
  |cons t tys=>
   simp only[List.zip_cons_cons,yad,aE];exact⟨_,_,rfl,za ids (Zj yM t x),ih (by simpa using hl)⟩
theorem ZIO{cap:yL Dv}{cs:yL yh}(h:aE J cap cs):aE J (cap.map Dv.arg) cs:=by
 induction cap generalizing cs with
 |nil=>simpa using h
 |cons d cap ih=>
  simp only[aE]at h;obtain⟨v,vs',rfl,h1,h2⟩:=h;simp only[yad,aE];exact⟨v,vs',rfl,ZLW h1,ih h2⟩
theorem mB{cap:yL Dv}{cs:yL yh}(ids:yL Nat)(h:aE J cap cs):aE J (cap.map (Dv.bR ids)) cs:=by
 induction cap generalizing cs with
 |nil=>simpa using h
 |cons d cap ih=>
  simp only[aE]at h;obtain⟨v,vs',rfl,h1,h2⟩:=h;simp only[yad,aE];exact⟨v,vs',rfl,za ids h1,ih h2⟩
theorem zz{c:Call}{f:yn}{g:yu}{fs cs:Array yh}(w:yz)(ho:o.op=.call c)(hc:c.callee=.value f)(hf:a.eval f=.func (.func g) fs cs)(hb:Qt P g=af):
 (execOp a.eval o).run P w=.ok (.enter g (fs++c.args.map a.eval++cs)) w:=by
 unfold Qt at hb;split at hb
 .rename_i fn hfn;simp only[yi,Bool.not_eq_true']at hb;have h1:¬fn.name= "runtime.NumGoroutine" :=by simpa using hb.2
  have h2:fn.body.isNone=ag:=by cases hh:fn.body <;> simp[hh]at hb ⊢
  simp only[execOp,ho,resolve,hc,hf,Deferred.ofValue,Sem.run_bind,Sem.run_pure,Result.andThen_ok,invoke,callFunc,run_program,hfn];simp[h1,h2]
 .cases hb
theorem ZIP{fn:Func}(h:fn.name= "internal/bytealg.Compare"):Extern.find fn=ab Extern.BytealgCompare.compare:=by
 have e1:Extern.allGenericRows.lookup "internal/bytealg.Compare" =ae:=by kernel_rfl
 have e2:Extern.allTypedRows.lookup "internal/bytealg.Compare" =ae:=by kernel_rfl
 have e3:Extern.allRows.lookup "internal/bytealg.Compare" =ab Extern.BytealgCompare.compare:=by kernel_rfl
 unfold Extern.find;dsimp only;rw[h,e1,e2,e3];rfl
theorem ZIQ{c:Call}{f:yn}{g:yu}{cs:Array yh}{v:yh}(w:yz)(ho:o.op=.call c)(hc:c.callee=.value f)(hf:a.eval f=.func (.func g) #[] cs)(hb:lY P g=af)
 (hr:(Extern.BytealgCompare.compare (c.args.map a.eval++cs)).run P w=.ok v w):(execOp a.eval o).run P w=.ok (.value v) w:=by
 unfold lY at hb;rw[yi]at hb
 replace hb:=hb.2
 split at hb
 .rename_i fn hfn;simp only[yi,yT,Option.isNone_iff_eq_none]at hb;have hcl:=run_callFunc_extern (P:=P) hfn (by rw[hb.1.1];rfl) (by rw[hb.1.2];rfl) hb.2 (ZIP hb.1.1) (c.args.map a.eval++cs) w;rw[hr]at hcl;simp only[execOp,ho,resolve,hc,hf,Deferred.ofValue,Sem.run_bind,Sem.run_pure,Result.andThen_ok,invoke];rw[Array.empty_append];exact hcl
 .cases hb
theorem ZEc{g:yu}(w:yz)(args:Array yh)(hb:Qt P g=af):(callFunc g args).run P w=.ok (.enter g args) w:=by
 unfold Qt at hb;split at hb
 .rename_i fn hfn;simp only[yi,Bool.not_eq_true']at hb;have h1:¬fn.name= "runtime.NumGoroutine" :=by simpa using hb.2
  have h2:fn.body.isNone=ag:=by cases hh:fn.body <;> simp[hh]at hb ⊢
  simp only[callFunc,Sem.run_bind,run_program,Result.andThen_ok,hfn];simp[h1,h2]
 .cases hb
theorem zA(ok:Ok J){g:yu}{ds args':yL Dv}{av:Array yh}{ids:yL Nat}{Hin H' Hb:yL ax}{r r':Dv}(hx:(execOp a.eval o).run P J.w=.ok (.enter g av) J.w)(hav:aE J ds av.toList)
 (honce:once ids=af) (hle:ids.length<=H'.length) (yR:Dv.bz (aT ids) ds=ab args')
 (hin:aJ J.H ids ids=ab Hin) (hr:r.rn (aP ids J.H.length)=ab r') (hb:ax.bz (aP ids J.H.length) H'=ab Hb) (hcon:cR P g args' Hin r H'):YH P o a J r' (ar J.H ids Hb):=by
 have hc:=hcon (callee J ids Hin) _ (ZHC ok honce hin) rfl (dC (zy ok honce hin) _ _ _ yR hav);intro K Q hK;unfold Oper.wp;rw[hx];simp only[Oper.upon];rw[ycb]at hc;refine hc.mono ?_;rintro e w' ⟨v,τ,rfl,rfl,hH,to,okτ,hv⟩;subst hH;obtain⟨to',ok',rn⟩:=PZ ok honce hin to okτ hle hb;exact hK v (jC J ids Hb τ) rfl to' ok' (mh rn hr hv)
theorem ZL2(yM:aD J ts a){c:Call}{f:yn}{g:yu}{cap:yL Dv}(ids:yL Nat)(hf:Zs P ts 0 f=.fn g cap)(hsz:c.args.size=c.argTypes.size):
 ∃fs cs,a.eval f=.func (.func (eA g)) fs cs/\aE J (ZU P ids ts c g cap) (fs++c.args.map a.eval++cs).toList:=by
 have hfv:=Zj (P:=P) yM 0 f;rw[hf]at hfv;obtain⟨fs,cs,hfe,h0,hcs⟩:=pR hfv;refine⟨fs,cs,hfe, ?_⟩;unfold ZU;by_cases hg:g < big
 .rw[yW hg]at h0 ⊢;subst h0;rw[Array.empty_append]at hcs ⊢;rw[Array.toList_append,ycq];exact Wi (lf yM ids (by simpa using hsz)) (mB ids hcs)
 .rw[yX hg]at h0 ⊢;subst h0;rw[Array.append_empty]at hcs ⊢;rw[Array.toList_append,ycq];exact Wi (mB ids hcs) (lf yM ids (by simpa using hsz))
theorem RA(ok:Ok J)(yM:aD J ts a){c:Call}{f:yn}{g:yu}{cap args':yL Dv}{ids:yL Nat}{Hin H' Hb:yL ax}{r r':Dv}(ho:o.op=.call c)(zL:c.callee=.value f)
 (hf:Zs P ts 0 f=.fn g cap) (hbod:Qt P (eA g)=af) (hsz:c.args.size=c.argTypes.size) (honce:once ids=af) (hle:ids.length<=H'.length) (yR:Dv.bz (aT ids) (ZU P ids ts c g cap)=ab args')
 (hin:aJ J.H ids ids=ab Hin) (hr:r.rn (aP ids J.H.length)=ab r') (hb:ax.bz (aP ids J.H.length) H'=ab Hb) (hcon:cR P (eA g) args' Hin r H'):YH P o a J r' (ar J.H ids Hb):=by
 have hfv:=Zj (P:=P) yM 0 f;rw[hf]at hfv;obtain⟨fs,cs,hfe,h0,hcs⟩:=pR hfv
 have hav:aE J (ZU P ids ts c g cap) (fs++c.args.map a.eval++cs).toList:=by
  unfold ZU;by_cases hg:g < big
  .rw[yW hg]at h0 ⊢;subst h0;rw[Array.empty_append]at hcs ⊢;rw[Array.toList_append,ycq];exact Wi (lf yM ids (by simpa using hsz)) (mB ids hcs)
  .rw[yX hg]at h0 ⊢;subst h0;rw[Array.append_empty]at hcs ⊢;rw[Array.toList_append,ycq];exact Wi (mB ids hcs) (lf yM ids (by simpa using hsz))
 exact zA ok (zz J.w ho zL hfe hbod) hav honce hle yR hin hr hb hcon
theorem Zze(ok:Ok J)(yM:aD J ts a){c:Call}{recv:yn}{name:String}{t:yc}{x:Dv}{g:yu}{args':yL Dv}{ids:yL Nat}{Hin H' Hb:yL ax}{r r':Dv}(ho:o.op=.call c)(zL:c.callee=.invoke recv name)
 (hf:Zs P ts 0 recv=.iface t x) (hbod:Qt P g=af) (hsz:c.args.size=c.argTypes.size) (honce:once ids=af) (hle:ids.length<=H'.length) (yR:Dv.bz (aT ids) (x.bR ids::ZU P ids ts c 0 [])=ab args')
 (hin:aJ J.H ids ids=ab Hin) (hr:r.rn (aP ids J.H.length)=ab r') (hb:ax.bz (aP ids J.H.length) H'=ab Hb) (hm:nI P t name g) (hcon:cR P g args' Hin r H'):YH P o a J r' (ar J.H ids Hb):=by
 have hfv:=Zj (P:=P) yM 0 recv;rw[hf,Ze rfl]at hfv;simp only[yH]at hfv;obtain⟨v,hv,h1,h2⟩:=hfv;have hv:a.eval recv=.iface t v:=by simpa using hv
 have hxv:yJ J x v:=⟨h1,h2⟩
 have hav:aE J (x.bR ids::ZU P ids ts c 0 []) (#[v]++c.args.map a.eval).toList:=by
  rw[Array.toList_append,ycq];show aE J _ (v::c.args.toList.map a.eval);rw[aE];refine⟨v,_,rfl,za ids hxv, ?_⟩;unfold ZU;rw[yW (by decide),List.map_nil,List.append_nil];exact lf yM ids (by simpa using hsz)
 have hx:(execOp a.eval o).run P J.w=.ok (.enter g (#[v]++c.args.map a.eval)) J.w:=by
  have e:=hm v (c.args.map a.eval) J.w;rw[ZEc J.w _ hbod]at e;rw[<-e];have e1:(#[Value.iface t v]++c.args.map a.eval)[0]? =ab (.iface t v):=by simp[Array.getElem?_append]
  have e2:(#[Value.iface t v]++c.args.map a.eval).extract 1 (#[Value.iface t v]++c.args.map a.eval).size=c.args.map a.eval:=by
   apply Array.ext';simp;rw[ycr (by simp)]
  simp only[execOp,ho,resolve,zL,hv,Sem.run_bind,Sem.run_pure,Result.andThen_ok,invoke,e1,e2]
 exact zA ok hx hav honce hle yR hin hr hb hcon
mutual
theorem zC{w w':yz}{S S':Nat->Nat->Prop}:∀(x:Pl)(vs:yL yh),x.flat=af->aw w S x vs->aw w' S' x vs
 |.int _ _,_,_,h=>by simpa[aw] using h
 |.bool _,_,_,h=>by simpa[aw] using h
 |.agg xs,vs,hf,h=>by
  simp only[aw]at h ⊢
  exact eB xs vs hf h
 |.arr n s xs,vs,hf,h=>by
  simp only[aw]at h ⊢
  exact⟨h.1,h.2.1,eB xs vs hf h.2.2⟩
 |.str _,_,hf,_=>by cases hf
 |.bf,_,hf,_=>by cases hf
 |.fn0,_,hf,_=>by cases hf
 |.dN,_,hf,_=>by cases hf
 |.ci,_,hf,_=>by cases hf
 |.fQ _,_,hf,_=>by cases hf
 |.sl _ _ _,_,hf,_=>by cases hf
 |.iface _ _,_,hf,_=>by cases hf
theorem eB{w w':yz}{S S':Nat->Nat->Prop}:∀(xs:yL Pl)(vs:yL yh),Pl.aM xs=af->an w S xs vs->an w' S' xs vs
 |[],_,_,h=>by simpa[an] using h
 |x::xs,vs,hf,h=>by
  simp only[Pl.aM,yi]at hf;simp only[an]at h ⊢;obtain⟨us,us',h1,h2,h3⟩:=h;exact⟨us,us',h1,zC x us hf.1 h2,eB xs us' hf.2 h3⟩
end
theorem ZL3{J J':Sg}{x:Pl}{v:yh}(hf:x.flat=af)(h:yJ J (.p x) v):yJ J' (.p x) v:=by
 obtain⟨h1,h2⟩:=h;refine⟨λq=> ?_,λq=> ?_⟩
 .obtain⟨cs,e1,e2⟩:=h1 q;refine⟨cs,e1, ?_⟩;simp only[yH]at e2 ⊢;exact zC x _ hf e2
 .have:=h2 q;simp only[yH]at this ⊢;exact zC x _ hf this
theorem ZL4(ok:Ok J):Ok (gZ J) where
 len:=rfl
 inj i j b h:=by simp[gZ]at h
 lt i b h:=by simp[gZ]at h
 dc i e a h:=by simp[gZ]at h
 new b h:=h
 own i b h:=by simp[gZ]at h
theorem ZHD(ok:Ok J)(yM:aD J ts a){c:Call}{f:yn}{g:yu}{cap:yL Dv}{ps:yL Pl}{r:Pl}(ho:o.op=.call c)(zL:c.callee=.value f)
 (hf:Zs P ts 0 f=.fn g cap) (hbod:Qt P (eA g)=af) (hsz:c.args.size=c.argTypes.size) (hflat:r.flat=af) {id:Nat} (hl:jZ id (cL (J.H[id]?)) (ZU P [] ts c g cap) ps)
 (hcon:cR P (eA g) (ps.map Dv.p) [] (.p r) []):YH P o a J (.p r) J.H:=by
 have hfv:=Zj (P:=P) yM 0 f;rw[hf]at hfv;obtain⟨fs,cs,hfe,h0,hcs⟩:=pR hfv
 have hav:aE J (ZU P [] ts c g cap) (fs++c.args.map a.eval++cs).toList:=by
  unfold ZU;by_cases hg:g < big
  .rw[yW hg]at h0 ⊢;subst h0;rw[Array.empty_append]at hcs ⊢;rw[Array.toList_append,ycq];exact Wi (lf yM [] (by simpa using hsz)) (mB [] hcs)
  .rw[yX hg]at h0 ⊢;subst h0;rw[Array.append_empty]at hcs ⊢;rw[Array.toList_append,ycq];exact Wi (mB [] hcs) (lf yM [] (by simpa using hsz))
 have hc:=hcon (gZ J) _ (ZL4 ok) rfl (hl J _ ok rfl hav);intro K Q hK;unfold Oper.wp;rw[zz J.w ho zL hfe hbod];simp only[Oper.upon];rw[ycb]at hc;refine hc.mono ?_;rintro e w' ⟨v,τ,rfl,rfl,hH,to,okτ,hv⟩
 have hlt:∀(b o:Nat)(v:yh),J.w.cell? ⟨b,o,ae⟩=ab v->b < J.w.heap.size:=λb o v h=>by
  rcases ybr b J.w.heap.size with q|q
  .exact q
  .simp[World.cell?,Array.getElem?_eq_none q]at h
 have to':To (callee J [] []) { callee J [] [] with w:=τ.w}:={
  leaf:=⟨λb o v h1 h2=>⟨(to.leaf.cells b o v h1 ⟨.inl (hlt b o v h1),λid e q=>by simp[gZ]at q⟩).1,h2⟩,
   λid b h=>by simp[callee]at h,λid s len A c h=>by obtain⟨e,ys,h1,_⟩:=h;simp[callee]at h1,λid b h=>by simp[callee]at h,λid v s st e d h=>by simp[callee]at h⟩
  F:=rfl
  B:=rfl
  os:=to.os
  tape:=to.tape
  output:=to.output
  size:=to.size
  block:=λb h _=>to.block b h (λid q=>by simp[gZ]at q)
  same:=λid b h=>by simp[callee]at h
  len:=ym _}
 have ok':Ok { callee J [] [] with w:=τ.w}:={
  len:=rfl
  inj:=λi j b h=>by simp[callee]at h
  lt:=λi b h=>by simp[callee]at h
  dc:=λi e a h=>by simp[callee]at h
  new:=λb h=>.inl (ybx to.size h)
  own:=λi b h=>by simp[callee]at h}
 obtain⟨to2,ok2,_⟩:=PZ (ids:=[]) (Hin:=[]) (Hb:=[]) ok rfl rfl to' ok' (ym _) rfl;exact hK v (jC J [] [] { callee J [] [] with w:=τ.w}) (by simp[jC,ar]) to2 ok2 (ZL3 hflat hv)
theorem ZP2(ok:Ok J)(yM:aD J ts a){c:Call}{f:yn}{hs hs':yL al}{C:yL Prop}{d:Dv}(ho:o.op=.call c)(zL:c.callee=.value f)(h:bD P o ts J.H hs=ab (C,d,hs'))(hc:bc C):YH P o a J d J.H:=by
 simp only[bD,ho,zL]at h;split at h
 .rename_i g cap ps r hs2 hf;split at h
  .split at h
   .rename_i hk;simp only[yi,yT]at hk;simp only[yj,yl]at h;obtain⟨rfl,rfl,rfl⟩:=h;exact ZHD ok yM ho zL hf hk.1.1 hk.1.2 hk.2 hc.1 hc.2.1
   .cases h
  .cases h
 .cases h
end
end Go.Ev
end
section
namespace Go.Ev
theorem zO{w:yz}{S:Nat->Nat->Prop}{n s:Nat}{xs:yL Pl}{us:yL yh}(h:aw w S (.arr n s xs) us):xs.length=n/\aU s xs/\an w S xs us:=by
 simpa[aw] using h
theorem RB{P:yg}{J:Sg}{d n:Nat}{e:yc}{s:Nat}(hs:P.cellsOf e=s)(hs0:s≠0)(hi:(P.info? e).isSome=af)(hu:(P.underlying e).isSome=af)
 (ih:∀(x y:Pl)(a b:yh),bg P n e x->bg P n e y->yJ J (.p x) a->yJ J (.p y) b->∃r:Bool,(Op.equalIn d e a b).run P J.w=.ok r J.w/\(r=af↔x=y))
 {cs cs':Array yh} {m:Nat}:∀(xs ys:yL Pl)(i:Nat)(p p' us vs:yL yh),(∀y,y∈xs->bg P n e y/\y.size=s/\Xi P e=y.isAgg)->(∀y,y∈ys->bg P n e y/\y.size=s/\Xi P e=y.isAgg)->
  cs.toList=p++us->cs'.toList=p'++vs->p.length=i*s->p'.length=i*s->an J.w J.aV xs us->an J.w J.aV ys vs->xs.length=m->ys.length=m->
  ∃r:Bool,(Op.eqItems d e s cs cs' (List.range' i m)).run P J.w=.ok r J.w/\(r=af↔xs=ys)
 |[],ys,i,p,p',us,vs,_,_,_,_,_,_,_,_,h1,h2=>by
  subst h1;have:ys=[]:=ybf h2;subst this
  exact⟨af,by simp[Op.eqItems],by simp⟩
 |x::xs,[],_,_,_,_,_,_,_,_,_,_,_,_,_,h1,h2=>by simp at h1 h2;omega
 |x::xs,y::ys,i,p,p',us,vs,hx,hy,e1,e2,l1,l2,r1,r2,h1,h2=>by
  obtain⟨m',rfl⟩:∃m',m=m'+1:=⟨xs.length,by simpa using h1.symm⟩;simp only[an]at r1 r2;obtain⟨u1,u2,rfl,q1,q2⟩:=r1;obtain⟨v1,v2,rfl,q3,q4⟩:=r2;obtain⟨f1,f2,f3⟩:=hx x (yao ..);obtain⟨g1,g2,g3⟩:=hy y (yao ..);obtain⟨a,ha,ra⟩:=Qx (P:=P) (J:=J) (t:=e) (d:=.p x) e1 (by simpa[yH] using q1) (by rw[hs];exact f2.symm) hi hu f3 (by show x.size≠0;omega);obtain⟨b,hb,rb⟩:=Qx (P:=P) (J:=J) (t:=e) (d:=.p y) e2 (by simpa[yH] using q3) (by rw[hs];exact g2.symm) hi hu g3 (by show y.size≠0;omega);rw[l1]at ha;rw[l2]at hb;obtain⟨r,hr,hiff⟩:=ih x y a b f1 g1 ra rb;have s1:=XT _ _ q1;have s2:=XT _ _ q3
  obtain⟨r',hr',hiff'⟩:=RB hs hs0 hi hu ih xs ys (i+1) (p++u1) (p'++v1) u2 v2 (λz hz=>hx z (yas _ hz)) (λz hz=>hy z (yas _ hz))
   (by rw[e1,yak]) (by rw[e2,yak]) (by rw[yr,l1,s1,f2,yav,Nat.one_mul]) (by rw[yr,l2,s2,g2,yav,Nat.one_mul]) q2 q4 (by simpa using h1) (by simpa using h2)
  rw[List.range'_succ];simp only[Op.eqItems,Sem.run_bind,ha,hb,hr,Result.andThen_ok];cases r
  .exact⟨ag,by simp,by simp;intro e;exact absurd (hiff.2 e) (by simp)⟩
  .refine⟨r',by simpa using hr', ?_⟩;rw[hiff'];simp[hiff.1 rfl]
theorem RC{P:yg}{J:Sg}{d:Nat}{R:yc->Pl->Prop}
 (ih:∀(t:yc)(x y:Pl)(a b:yh),R t x->R t y->yJ J (.p x) a->yJ J (.p y) b->∃r:Bool,(Op.equalIn d t a b).run P J.w=.ok r J.w/\(r=af↔x=y))
 {cs cs':Array yh}:∀(fs:yL Field)(xs ys:yL Pl)(o:Nat)(p p' us vs:yL yh),gW P R fs o xs->gW P R fs o ys->
  cs.toList=p++us->cs'.toList=p'++vs->p.length=o->p'.length=o->an J.w J.aV xs us->an J.w J.aV ys vs->
  ∃r:Bool,(Op.eqFields d cs cs' fs).run P J.w=.ok r J.w/\(r=af↔xs=ys)
 |[],[],[],_,_,_,_,_,_,_,_,_,_,_,_,_=>⟨af,by simp[Op.eqFields],by simp⟩
 |[],_::_,_,_,_,_,_,_,h,_,_,_,_,_,_,_=>by simp[gW]at h
 |[],[],_::_,_,_,_,_,_,_,h,_,_,_,_,_,_=>by simp[gW]at h
 |_::_,[],_,_,_,_,_,_,h,_,_,_,_,_,_,_=>by simp[gW]at h
 |_::_,_::_,[],_,_,_,_,_,_,h,_,_,_,_,_,_=>by simp[gW]at h
 |f::fs,x::xs,y::ys,o,p,p',us,vs,hx,hy,e1,e2,l1,l2,r1,r2=>by
  simp only[gW]at hx hy;obtain⟨a1,a2,a3,a4,a5,a6,a7,a8,a9⟩:=hx;obtain⟨_,_,b3,_,_,b6,b7,b8,b9⟩:=hy;simp only[an]at r1 r2;obtain⟨u1,u2,rfl,q1,q2⟩:=r1;obtain⟨v1,v2,rfl,q3,q4⟩:=r2;obtain⟨a,ha,ra⟩:=Qx (P:=P) (J:=J) (t:=f.type) (d:=.p x) e1 (by simpa[yH] using q1) a3 a4 a5 a6 a7;obtain⟨b,hb,rb⟩:=Qx (P:=P) (J:=J) (t:=f.type) (d:=.p y) e2 (by simpa[yH] using q3) b3 a4 a5 b6 b7;rw[l1, <-a2]at ha;rw[l2, <-a2]at hb;obtain⟨r,hr,hiff⟩:=ih f.type x y a b a8 b8 ra rb;have s1:=XT _ _ q1;have s2:=XT _ _ q3;have hxy:x.size=y.size:=a3.symm.trans b3
  obtain⟨r',hr',hiff'⟩:=RC ih fs xs ys (o+x.size) (p++u1) (p'++v1) u2 v2 a9 (by rw[hxy];exact b9)
   (by rw[e1,yak]) (by rw[e2,yak]) (by rw[yr,l1,s1]) (by rw[yr,l2,s2,hxy]) q2 q4
  simp only[Op.eqFields,a1,ne_eq,not_false_eq_true,if_true,Sem.run_bind,ha,hb,hr,Result.andThen_ok];cases r
  .exact⟨ag,by simp,by simp;intro e;exact absurd (hiff.2 e) (by simp)⟩
  .refine⟨r',by simpa using hr', ?_⟩;rw[hiff'];simp[hiff.1 rfl]
theorem zY{P:yg}{J:Sg}:∀(n:Nat)(t:yc)(x y:Pl)(a b:yh),bg P n t x->bg P n t y->yJ J (.p x) a->yJ J (.p y) b->
 ∀d,∃r:Bool,(Op.equalIn (d+n) t a b).run P J.w=.ok r J.w/\(r=af↔x=y)
 |0,_,_,_,_,_,h,_,_,_,_=>by simp[bg]at h
 |n+1,t,x,y,a,b,hx,hy,ra,rb,d=>by
  unfold bg at hx hy;split at hx
  .rename_i hu;rw[hu]at hy;split at hy <;> rename_i e1 <;> simp only[reduceCtorEq,yj]at e1
   all_goals first
    |(rw[YD ra,YD rb]
      exact⟨_,run_equalIn_bool' J.w (d+n) t _ _ hu,by simp⟩)
    |exact hy.elim
  .rename_i k k' z hu;rw[hu]at hy;split at hy <;> rename_i e1 <;> simp only[reduceCtorEq,yj,TypeDesc.int.injEq]at e1
   all_goals first
    |(subst hx;subst hy;subst e1
      rw[ZI ra,ZI rb]
      exact⟨_,run_equalIn_int J.w (d+n) t _ _ _ _ hu,by simp⟩)
    |exact hy.elim
  .rename_i m e m' s xs hu;rw[hu]at hy;split at hy <;> rename_i e1 <;> simp only[reduceCtorEq,yj,TypeDesc.array.injEq]at e1
   .rename_i s2 ys;obtain⟨rfl,rfl⟩:=e1;obtain⟨rfl,h1,h2,h3,h4,h5⟩:=hx;obtain⟨rfl,g1,_,_,_,g5⟩:=hy;obtain rfl:s=s2:=h1.symm.trans g1;rw[Z2 (by rfl)]at ra rb;obtain⟨cs,rfl,ra⟩:=ra;obtain⟨cs',rfl,rb⟩:=rb;simp only[yH]at ra rb;obtain⟨n1,_,ra⟩:=zO ra;obtain⟨n2,_,rb⟩:=zO rb;obtain⟨i,hi⟩:=Option.isSome_iff_exists.1 h3;obtain⟨r,hr,hiff⟩:=RB (P:=P) (J:=J) (d:=d+n) (n:=n) (e:=e) (s:=s) h1 h2 h3 h4 (λx y a b hx hy ra rb=>zY n e x y a b hx hy ra rb d) xs ys 0 [] [] cs.toList cs'.toList h5 g5 rfl rfl (by simp) (by simp) ra rb n1 n2;refine⟨r, ?_,by rw[hiff];simp⟩;rw[show d+(n+1)=(d+n)+1 from rfl,run_equalIn_array J.w (d+n) cs cs' hu hi,List.range_eq_range',h1]
    exact hr
   all_goals first
    |exact hy.elim
  .rename_i fs xs hu;rw[hu]at hy;split at hy <;> rename_i e1 <;> simp only[reduceCtorEq,yj,TypeDesc.struct.injEq]at e1
   all_goals first
    |exact hy.elim
    |skip
   rename_i ys;subst e1;obtain⟨h1,h2⟩:=hx;obtain⟨_,g2⟩:=hy;rw[Z2 (by rfl)]at ra rb;obtain⟨cs,rfl,ra⟩:=ra;obtain⟨cs',rfl,rb⟩:=rb;simp only[yH,aw]at ra rb;have hfs:P.fieldsOf t=fs:=by simp[Program.fieldsOf,hu]
   obtain⟨r,hr,hiff⟩:=RC (P:=P) (J:=J) (d:=d+n) (R:=bg P n) (λt x y a b hx hy ra rb=>zY n t x y a b hx hy ra rb d) fs.toList xs ys 0 [] [] cs.toList cs'.toList h2 g2 rfl rfl rfl rfl ra rb;refine⟨r, ?_,by rw[hiff];simp⟩;rw[show d+(n+1)=(d+n)+1 from rfl,run_equalIn_struct J.w (d+n) t cs cs' (by rw[hfs];exact hu) h1,hfs]
   exact hr
  .exact hx.elim
theorem AA{P:yg}{J:Sg}{t:yc}{x y:Pl}{a b:yh}(hx:bg P 20 t x)(hy:bg P 20 t y)(ra:yJ J (.p x) a)(rb:yJ J (.p y) b){β:Bool}(h:β=af↔x=y):
 (Op.equal t a b).run P J.w=.ok β J.w:=by
 obtain⟨r,hr,hiff⟩:=zY 20 t x y a b hx hy ra rb 9980;have:r=β:=by rw[Bool.eq_iff_iff,hiff,h]
 subst this;exact hr
def mC:yh->Bool
 |.bool _|.pointer _|.slice _ _ _|.func _ _ _|.nilFunc=>af
 |_=>ag
theorem RD{op:BinOp}{t:yc}{x y:yn}{a b:yh}(h:mC a=af):eqGuard op t x y a b=pure ():=by
 cases op <;> cases a <;> first|rfl|(simp[mC]at h)
theorem Zzf{t:yc}{a b:yh}(h:mC a=af):binOp .eql t a b=(do pure (.bool (<-Op.equal t a b))):=by
 cases a <;> first|(simp[mC]at h;done)|(cases b <;> rfl)
theorem Zzg{t:yc}{a b:yh}(h:mC a=af):binOp .neq t a b=(do pure (.bool (!(<-Op.equal t a b)))):=by
 cases a <;> first|(simp[mC]at h;done)|(cases b <;> rfl)
theorem Vd{P:yg}{t:yc}{a b:yh}{r:Bool}{w:yz}(h:∀n,(Op.equalIn (n+1) t a b).run P w=.ok r w):(Op.equal t a b).run P w=.ok r w:=h 9999
theorem RE{P:yg}{t:yc}{x y:Dv}{hs hs':yL al}{C:yL Prop}{r:Bool}(h:iq P t x y hs=ab (C,r,hs'))(hc:bc C){J:Sg}{a b:yh}
 (ha:yJ J x a) (hb:yJ J y b):(Op.equal t a b).run P J.w=.ok r J.w/\(mC a=af\/((∃cs,a=.agg cs)/\(∃cs,b=.agg cs)/\P.eqGuardType P.depth t=ag)):=by
 unfold iq at h;have step:∀(d:TypeDesc),P.underlying t=ab d->(underlying t).run P J.w=.ok d J.w:=λd hd=>run_underlying hd J.w;split at h
 all_goals first
  |(cases h;done)
  |skip
 rotate_right 2
 iterate 2
  .split at h
   .split at h
    .rename_i hg;simp only[yj,yl]at h;obtain⟨rfl,rfl,rfl⟩:=h;obtain⟨c1,c2,c3,_⟩:=hc;refine⟨AA c1 c2 ha hb c3,.inr ⟨?_, ?_,hg⟩⟩
     .obtain⟨cs,e,_⟩:=(Z2 (by rfl)).1 ha;exact⟨cs,e⟩
     .obtain⟨cs,e,_⟩:=(Z2 (by rfl)).1 hb;exact⟨cs,e⟩
    .cases h
   .cases h
 case' h_9=>
  rename_i hu;split at h
  .simp only[yj,yl]at h;obtain⟨rfl,rfl,rfl⟩:=h;obtain⟨_,A,c,rfl,_,_,_,_,h6⟩:=XL ha;obtain⟨_,B,c',rfl,_,_,hB,_⟩:=XL hb;have hB':B=ae:=by simpa using hB ag rfl
   subst hB';obtain⟨b0,o0,us,rfl,_⟩:=h6 hc.1;exact⟨Vd λn=>by simp[Op.equalIn,step _ hu],.inl rfl⟩
  .cases h
 case' h_10=>
  rename_i hu;split at h
  .simp only[yj,yl]at h;obtain⟨rfl,rfl,rfl⟩:=h;obtain⟨_,A,c,rfl,_,_,_,_,h6,_⟩:=Q8 ha;obtain⟨_,B,c',rfl,_,_,hB,_⟩:=XL hb;have hB':B=ae:=by simpa using hB ag rfl
   subst hB';obtain⟨b0,o0,us,rfl,_⟩:=h6 hc.1;exact⟨Vd λn=>by simp[Op.equalIn,step _ hu],.inl rfl⟩
  .cases h
 all_goals
  rename_i hu;simp only[yj,yl]at h;obtain⟨rfl,rfl,rfl⟩:=h;refine(λq:_/\_=>⟨q.1,.inl q.2⟩) ?_
 .rw[YD ha,YD hb];exact⟨Vd λn=>by simp[Op.equalIn,step _ hu],rfl⟩
 .rw[pJ hb];rw[Ze (by rfl)]at ha;simp only[yH,List.cons.injEq,and_true]at ha;obtain⟨b',_,_,rfl⟩:=ha;exact⟨Vd λn=>by simp[Op.equalIn,step _ hu],rfl⟩
 .rw[pJ hb];rw[Ze (by rfl)]at ha;simp only[yH,List.cons.injEq,and_true]at ha;obtain⟨b',o',us,rfl,_⟩:=ha;exact⟨Vd λn=>by simp[Op.equalIn,step _ hu],rfl⟩
 .rw[pJ hb];rw[Ze (by rfl)]at ha;simp only[yH,List.cons.injEq,and_true]at ha;obtain⟨b',o',rfl,_⟩:=ha;exact⟨Vd λn=>by simp[Op.equalIn,step _ hu],rfl⟩
 .rw[pJ ha,pJ hb];exact⟨Vd λn=>by simp[Op.equalIn,step _ hu],rfl⟩
 .obtain⟨_,A,c,rfl,_,_,hA,_⟩:=XL ha;obtain⟨_,B,c',rfl,_,_,hB,_⟩:=XL hb;have hB':B=ae:=by simpa using hB ag rfl
  subst hB';have hA2:=hA _ rfl;subst hA2;refine⟨?_,rfl⟩;cases A <;> (refine Vd λn=> ?_;simp[Op.equalIn,step _ hu])
 .obtain⟨_,A,c,rfl,_,_,hA,_⟩:=Q8 ha;obtain⟨_,B,c',rfl,_,_,hB,_⟩:=XL hb;have hB':B=ae:=by simpa using hB ag rfl
  subst hB';have hA2:=hA _ rfl;subst hA2;refine⟨?_,rfl⟩;cases A <;> (refine Vd λn=> ?_;simp[Op.equalIn,step _ hu])
 .rw[Ze (by rfl)]at ha;simp only[yH,List.cons.injEq,and_true]at ha;obtain⟨bb,cc,aa,_,_,rfl,_⟩:=ha;obtain⟨_,B,c',rfl,_,_,hB,_⟩:=XL hb;have hB':B=ae:=by simpa using hB ag rfl
  subst hB';exact⟨Vd λn=>by simp[Op.equalIn,step _ hu],rfl⟩
 .rw[xZ hb];rw[Ze (by rfl)]at ha;simp only[yH,List.cons.injEq,and_true]at ha;obtain⟨fs,cs,rfl,_⟩:=ha;exact⟨Vd λn=>by simp[Op.equalIn,step _ hu],rfl⟩
 .rw[xZ ha,xZ hb];exact⟨Vd λn=>by simp[Op.equalIn,step _ hu],rfl⟩
theorem ZBK{P:yg}{op:BinOp}{t:yc}{x y:Dv}{hs hs':yL al}{C:yL Prop}{d:Dv}(h:gi P op t x y hs=ab (C,d,hs'))(hc:bc C){J:Sg}{a b:yh}
 (ha:yJ J x a) (hb:yJ J y b) (ox oy:yn):
 ∃v,(eqGuard op t ox oy a b).run P J.w=.ok () J.w/\(binOp op t a b).run P J.w=.ok v J.w/\yJ J d v:=by
 unfold gi at h;split at h
 .have ea:=ZI ha;have eb:=ZI hb;subst ea;subst eb;split at h
  .rename_i ho;obtain⟨v,h1,h2⟩:=ZwH (P:=P) (yk:= ‹IntKind›) h hc J;refine⟨v,by rw[eqGuard_at_int];rfl, ?_,h2⟩;cases op <;> first|(simp[xW]at ho;done)|exact h1
  .split at h
   .rename_i hk;subst hk;obtain⟨v,h1,h2⟩:=ZBD (P:=P) h hc J t;exact⟨v,by rw[eqGuard_at_int];rfl,h1,h2⟩
   .cases h
 .rw[nQ ha,nQ hb];split at h
  .simp only[yj,yl]at h;obtain⟨rfl,rfl,rfl⟩:=h;exact⟨_,rfl,by rw[<-ByteArray.toList_eq, <-ByteArray.toList_eq];rfl,Yk _⟩
  .simp only[yj,yl]at h;obtain⟨rfl,rfl,rfl⟩:=h;exact⟨_,rfl,by rw[<-ByteArray.toList_eq, <-ByteArray.toList_eq];rfl,Yk _⟩
  .cases h
 .split at h
  .simp only[yp,yl]at h;obtain⟨⟨C',r,hs''⟩,h1,rfl,rfl,rfl⟩:=h;obtain⟨h2,h3⟩:=RE h1 hc ha hb;refine⟨.bool r, ?_, ?_,Yk _⟩
   .rcases h3 with h3|⟨⟨cs,rfl⟩,⟨cs',rfl⟩,h3⟩
    .rw[RD h3];rfl
    .exact run_eqGuard_agg _ _ _ _ _ _ _ h3
   .rcases h3 with h3|⟨⟨cs,rfl⟩,⟨cs',rfl⟩,h3⟩
    .rw[Zzf h3];simp[h2]
    .rw[show binOp .eql t (.agg cs) (.agg cs')=(do pure (.bool (<-Op.equal t (.agg cs) (.agg cs')))) from rfl];simp[h2]
  .simp only[yp,yl]at h;obtain⟨⟨C',r,hs''⟩,h1,rfl,rfl,rfl⟩:=h;obtain⟨h2,h3⟩:=RE h1 hc ha hb;refine⟨.bool (!r), ?_, ?_,Yk _⟩
   .rcases h3 with h3|⟨⟨cs,rfl⟩,⟨cs',rfl⟩,h3⟩
    .rw[RD h3];rfl
    .exact run_eqGuard_agg _ _ _ _ _ _ _ h3
   .rcases h3 with h3|⟨⟨cs,rfl⟩,⟨cs',rfl⟩,h3⟩
    .rw[Zzg h3];simp[h2]
    .rw[show binOp .neq t (.agg cs) (.agg cs')=(do pure (.bool (!(<-Op.equal t (.agg cs) (.agg cs'))))) from rfl];simp[h2]
  .cases h
end Go.Ev
end
section
namespace Go.Ev
section
variable{P:yg}{o:Oper}{a:Act}{J:Sg}{ts:yL Dv}{hs hs':yL al}{C:yL Prop}{d:Dv}
theorem RF(H:yL ax):ar H [] []=H:=by simp[ar]
theorem pZ:(aT []:Nat->yO Nat)=λ_=>ae:=by
 funext i;simp[aT]
mutual
theorem QU{f:Nat->yO Nat}:∀(x y:Dv),x.rn (λ_=>ae)=ab y->x.rn f=ab x
 |.p x,_,_=>rfl
 |.elem x,_,_=>rfl
 |.ak _ _ _,_,h=>by simp[Dv.rn]at h
 |.own _ _ _ _,_,h=>by simp[Dv.rn]at h
 |.view _ _ _ _ _ _,_,h=>by simp[Dv.rn]at h
 |.agg xs,_,h=>by
  simp only[Dv.rn,yp]at h ⊢;obtain⟨ys,h1,_⟩:=h
  exact⟨xs,bQ xs ys h1,rfl⟩
 |.arr n s xs,_,h=>by
  simp only[Dv.rn,yp]at h ⊢;obtain⟨ys,h1,_⟩:=h
  exact⟨xs,bQ xs ys h1,rfl⟩
 |.fn g xs,_,h=>by
  simp only[Dv.rn,yp]at h ⊢;obtain⟨ys,h1,_⟩:=h
  exact⟨xs,bQ xs ys h1,rfl⟩
 |.iface t x,_,h=>by
  simp only[Dv.rn,yp]at h ⊢;obtain⟨y,h1,_⟩:=h
  exact⟨x,QU x y h1,rfl⟩
 |.bj xs,_,h=>by
  simp only[Dv.rn,yp]at h ⊢;obtain⟨ys,h1,_⟩:=h
  exact⟨xs,bQ xs ys h1,rfl⟩
 |.mp _,_,h=>by simp[Dv.rn]at h
 |.rv _ _ _ _ _,_,h=>by simp[Dv.rn]at h
 |.aY _ _ _ _,_,h=>by simp[Dv.rn]at h
 |.ao,_,_=>rfl
theorem bQ{f:Nat->yO Nat}:∀(x y:yL Dv),Dv.bz (λ_=>ae) x=ab y->Dv.bz f x=ab x
 |[],_,_=>rfl
 |x::xs,_,h=>by
  simp only[Dv.bz]at h;split at h
  .rename_i y ys h1 h2;simp[Dv.bz,QU x y h1,bQ xs ys h2]
  .cases h
end
theorem RG{src dst e:yc}{xs:yL Pl}{b:ByteArray}{nn:yO Bool}{v:yh}(hs:P.underlying src=ab (.slice e))(he:P.underlying e=ab (.int .u8))(hd:P.underlying dst=ab .string)
 (hv:yJ J (.p (.sl nn 1 xs)) v) (hx:xs=b.data.toList.map λx=>.int .u8 (x.toNat:Int)):(convert src dst v).run P J.w=.ok (.string b) J.w:=by
 obtain⟨h1,A,c,rfl,h2,h3,h4,h5,h6⟩:=XL hv;by_cases hne:xs=[]
 .have hb:b=⟨#[]⟩:=by
   rw[hne]at hx;have:b.data.toList=[]:=List.map_eq_nil_iff.1 hx.symm;apply ByteArray.ext;exact Array.toList_inj.1 this
  subst hb;subst hne
  cases A with
  |none=>exact Go.Lib.run_convert_nil_bytes J.w src dst e c hs he hd
  |some A=>
   have hz:=run_convert_bytes_string (P:=P) J.w src dst e (ab A) 0 c hs he hd;rw[ycn,hz];simp[Conv.bytesToString,loadCells,loadCellsFrom];rfl
 .obtain⟨bl,o',us,rfl,h7,h8⟩:=h6 hne;have zW:xs.length=b.size:=by rw[hx];simp
  rw[zW];refine Go.Lib.run_convert_whole (P:=P) J.w src e dst hs he hd bl o' b (λi hi=> ?_) c;have hi':i < xs.length:=by rw[zW];exact hi
  have hxi:xs[i]? =ab (.int .u8 (b[i].toNat:Int)):=by
   rw[hx,yaj]
   have:b.data.toList[i]? =ab b[i]:=by
    rw[ybt];exact yco (by simpa using hi)
   rw[this];rfl
  obtain⟨uy,h9,h10⟩:=tB h1 h7 h8 hxi;simp only[aw]at h9;subst h9;have:=(h10 0 _ rfl).1;simpa using this
theorem RH{t e:yc}{x:yn}{n s:Nat}{xs:yL Pl}{nn:yO Bool}(ok:Ok J)(ho:o.op=.sliceToArrayPointer t x)(hu:P.underlying t=ab (.array n e))(hv:yJ J (.p (.sl nn s xs)) (a.eval x))(hn:n≠0)(hle:n<=xs.length):
 YH P o a J (.elem (.arr n s (xs.take n))) J.H:=by
 obtain⟨h1,A,c,hv,h2,h3,h4,h5,h6⟩:=XL hv
 have hne:xs≠[]:=by
  rintro rfl;simp at hle;exact hn hle
 obtain⟨bl,o',us,rfl,h7,h8⟩:=h6 hne;have e0:xs=xs.take n++xs.drop n:=(ybk n xs).symm;rw[e0]at h7;obtain⟨u1,u2,rfl,h9,h10⟩:=Z9 h7;refine Zh (v:=.pointer (ab ⟨bl,o',ae⟩)) ok ?_ ?_
 .have:(Instr.arrayAt t (.slice (ab ⟨bl,o',ae⟩) xs.length c)).run P J.w=.ok (.pointer (ab ⟨bl,o',ae⟩)) J.w:=by
   simp[Instr.arrayAt,run_underlying hu,show¬xs.length < n by omega]
  simp[execOp,ho,hv,this]
 .rw[Ze rfl];simp only[yH];refine⟨bl,o',u1,rfl, ?_,(X7.append h8).1⟩;simp only[aw];exact⟨by rw[yae];omega,WV h1 n,h9⟩
theorem RI{xs:yL Pl}{b:ByteArray}{nn:yO Bool}{v:yh}(hv:yJ J (.p (.sl nn 1 xs)) v)(hx:xs=gr b):(Extern.Bytes.bytesOf v).run P J.w=.ok b J.w:=by
 obtain⟨h1,A,c,rfl,h2,h3,h4,h5,h6⟩:=XL hv;have zW:xs.length=b.size:=by rw[hx,gr,yx,yau];rfl
 have hem:xs=[]->b=.empty:=λh0=>by
  apply ByteArray.ext;apply Array.toList_inj.1;rw[h0]at hx;exact List.map_eq_nil_iff.1 hx.symm
 cases A with
 |none=>
  have hxe:xs=[]:=by
   rcases List.eq_nil_or_concat xs with h|⟨l,z,h⟩
   .exact h
   .obtain⟨_,_,_,q,_⟩:=h6 (by rw[h];simp);cases q
  rw[hem hxe]
  simp[Extern.Bytes.bytesOf]
 |some A=>
  by_cases hne:xs=[]
  .rw[hem hne,hne];simp[Extern.Bytes.bytesOf,Extern.Bytes.loadBytes]
  .obtain⟨bl,o',us,e,h7,h8⟩:=h6 hne;cases e
   have hl:=Go.Lib.run_loadBytesX (P:=P) J.w (b.data.toList.map λx=>(x.toNat:Int)) ⟨bl,o',ae⟩ .empty (λj x hj=>by
    have e:(⟨bl,o',ae⟩:Addr).add j=⟨bl,o'+j,ae⟩:=by unfold Addr.add;split <;> simp_all
    rw[e]
    have hxj:xs[j]? =ab (.int .u8 x):=by
     rw[hx,gr,yaj];rw[yaj]at hj;obtain⟨z,h9,rfl⟩:=yp.1 hj;rw[h9];rfl
    obtain⟨uy,h9,h10⟩:=tB h1 h7 h8 hxj;simp only[aw]at h9;subst h9;have:=(h10 0 _ rfl).1;simpa using this)
   have e2:(b.data.toList.map λx=>(x.toNat:Int)).length=xs.length:=by rw[hx,gr,yx,yx]
   rw[e2]at hl;simp only[Extern.Bytes.bytesOf];rw[hl];congr 1;apply ByteArray.ext
   have e3:Go.Lib.bytesOf (b.data.toList.map λx=>(x.toNat:Int))=b.data.toList:=by
    unfold Go.Lib.bytesOf;rw[List.map_map]
    conv=>rhs;rw[<-List.map_id b.data.toList]
    exact List.map_congr_left λz _=>by simp
   rw[e3];show(#[]:Array yB)++b.data.toList.toArray=b.data;simp
theorem ZHE(ok:Ok J)(yM:aD J ts a){c:Call}{f:yn}{g:yu}{n1 n2:yO Bool}{xs ys:yL Pl}{x y:ByteArray}(ho:o.op=.call c)(zL:c.callee=.value f)(hf:Zs P ts 0 f=.fn g [])(hb:lY P g=af)
 (hsz:c.args.size=c.argTypes.size) (yR:ZU P [] ts c g []=[.p (.sl n1 1 xs),.p (.sl n2 1 ys)]) (hx:xs=gr x) (hy:ys=gr y):YH P o a J (.p (.int .i64 (Go.Lib.compareBytes x.data.toList y.data.toList))) J.H:=by
 have hfv:=Zj (P:=P) yM 0 f;rw[hf]at hfv
 have hg:g < big:=by
  unfold lY at hb;rw[yi,yP]at hb;exact hb.1
 obtain⟨cs,hfe,hcs⟩:=ZOc hg hfv
 have hav:aE J (ZU P [] ts c g []) (c.args.map a.eval++cs).toList:=by
  unfold ZU;rw[yW hg,Array.toList_append,ycq];exact Wi (lf yM [] (by simpa using hsz)) (mB [] hcs)
 rw[yR]at hav;simp only[aE]at hav;obtain⟨u,r1,e1,hu,v,r2,e2,hv,e3⟩:=hav;subst e2;subst e3;have e4:c.args.map a.eval++cs= #[u,v]:=Array.toList_inj.1 e1;refine Zh ok (ZIQ J.w ho zL hfe hb ?_) (Zw _ _);rw[e4];have h1:=RI (P:=P) hu hx;have h2:=RI (P:=P) hv hy;change Sem.run P (do pure (goInt (Extern.BytealgCompare.cmp (<-Extern.Bytes.bytesOf u) (<-Extern.Bytes.bytesOf v)))) J.w=_
 simp only[Sem.run_bind,h1,h2,Sem.run_pure,Result.andThen];rw[Go.Lib.cmp_eq];rfl
theorem ZEd(ok:Ok J){src dst e:yc}{x:yn}{b:ByteArray}(ho:o.op=.convert src dst x)(hs:P.underlying src=ab .string)(hd:P.underlying dst=ab (.slice e))(he:P.underlying e=ab (.int .u8))
 (hv:a.eval x=.string b) (hb:b.size<=maxLen):YH P o a J (.p (.sl (ab af) 1 (b.data.toList.map λx=>.int .u8 (x.toNat:Int)))) J.H:=by
 have hg:J.w.grownBy (Go.Lib.bytesWorld J.w e b) ae:=⟨rfl,rfl,rfl,by rw[Go.Lib.bytesWorld_size];omega,λk hk _=>Go.Lib.bytesWorld_at_old J.w e b k hk⟩;obtain⟨to,ok'⟩:=pN ok hg;have zB:=Go.Lib.run_convert_string_bytes (P:=P) J.w src dst e b hs hd he
 refine ZK (J':={ J with w:=Go.Lib.bytesWorld J.w e b}) (v:=.slice (ab ⟨J.w.heap.size,0,ae⟩) b.size (grownCap J.w b.size 0 e)) (by
  have e1:execOp a.eval o=(do pure (.value (<-convert src dst (.string b)))):=by simp only[execOp,ho,hv]
  rw[e1];generalize Go.Lib.bytesWorld J.w e b=w1 at zB;generalize grownCap J.w b.size 0 e=n1 at zB;simp[zB]) to ok' ?_
 have hl:(b.data.toList.map λx=>Pl.int .u8 (x.toNat:Int)).length=b.size:=by rw[yx,yau];rfl
 have zU:aU 1 (b.data.toList.map λx=>Pl.int .u8 (x.toNat:Int)):=λy hy=>by
  obtain⟨z,_,rfl⟩:=yby.1 hy;rfl
 rw[<-hl];refine Yl zU (by rw[hl];exact grownCap_ge ..) (by rw[hl];exact grownCap_le_maxLen _ _ _ _ hb) (Q6 rfl) (λh=>(by cases h)) (λ_=>⟨J.w.heap.size,0,b.data.toList.map λx=>.int .u8 (x.toNat:Int),rfl, ?_,λj u hu=>⟨?_, ?_⟩⟩)
 .generalize b.data.toList=l
  induction l with
  |nil=>simp[an]
  |cons z l ih=>exact⟨[_],_,rfl,by simp[aw],ih⟩
 .rw[yaj]at hu;obtain⟨z,h1,rfl⟩:=yp.1 hu
  have hj:j < b.size:=by
   have:=(yo.1 h1).1;rw[yau]at this;exact this
  rw[yaz];have:=Go.Lib.bytesWorld_cell J.w e b j hj;rw[this,List.getD_eq_getElem?_getD,h1,Option.getD_some]
 .exact OX ok' (ok.new _ (ym _)) (tL ok)
theorem ZHF(ok:Ok J)(yM:aD J ts a)(h:aX P o ts hs=ab (C,d,hs'))(hc:bc C):YH P o a J d J.H:=by
 have h0:=h;unfold aX at h;split at h
 .rename_i x ho
  have main:d=Zs P ts o.type x->YH P o a J d J.H:=λe=>by
   subst e;exact Zh (v:=a.eval x) ok (by simp[execOp,ho]) (Zj yM _ _)
  split at h
  .simp only[yj,yl]at h;exact main h.2.1.symm
  .cases h
 .rename_i x ho
  have main:d=Zs P ts o.type x->YH P o a J d J.H:=λe=>by
   subst e;exact Zh (v:=a.eval x) ok (by simp[execOp,ho]) (Zj yM _ _)
  split at h
  .simp only[yj,yl]at h;exact main h.2.1.symm
  .cases h
 .rename_i c x y ho;split at h
  .rename_i t β hs1 hcv;simp only[yj,yl]at h;obtain⟨rfl,rfl,rfl⟩:=h;have hb:=Zj (P:=P) yM 0 c;rw[hcv]at hb;have hb':=YD hb;have ht:t=β:=hc.1;subst ht;refine Zh (v:=if t then a.eval x else a.eval y) ok (by simp[execOp,ho,hb',asBool]) ?_
   cases t
   .exact Zj yM _ _
   .exact Zj yM _ _
  .cases h
 .rename_i x ho;split at h
  .rename_i i f p hx;simp only[yj,yl]at h;obtain⟨rfl,rfl,rfl⟩:=h;have hv:=Zj (P:=P) yM 0 x;rw[hx]at hv;obtain⟨b,h1,h2,h3⟩:=la hv;exact Zh (v:=a.eval x) ok (by simp[execOp,ho,h3]) hv
  .rename_i i v f p hx;simp only[yj,yl]at h;obtain⟨rfl,rfl,rfl⟩:=h;have hv:=Zj (P:=P) yM 0 x;rw[hx]at hv;obtain⟨b,o',h3,_⟩:=tG hv;exact Zh (v:=a.eval x) ok (by simp[execOp,ho,h3]) hv
  .rename_i y hx;simp only[yj,yl]at h;obtain⟨rfl,rfl,rfl⟩:=h;have hv:=Zj (P:=P) yM 0 x;rw[hx]at hv;obtain⟨b,o',us,h3,_⟩:=pQ hv;exact Zh (v:=a.eval x) ok (by simp[execOp,ho,h3]) hv
  .rename_i f cap hx;simp only[yj,yl]at h;obtain⟨rfl,rfl,rfl⟩:=h;have hv:=Zj (P:=P) yM 0 x;rw[hx]at hv;obtain⟨fs,cs,h3,_⟩:=pR hv;exact Zh (v:=a.eval x) ok (by simp[execOp,ho,h3]) hv
  .cases h
 .rename_i op t x y yt ho;obtain⟨v,h1,h2,h3⟩:=ZBK (P:=P) h hc (Zj yM t x) (Zj yM yt y) x y;exact Zh ok (by simp[execOp,ho,h1,h2]) h3
 .rename_i t x ho;split at h
  .rename_i b hx;simp only[yj,yl]at h;obtain⟨rfl,rfl,rfl⟩:=h;have hv:=Zj (P:=P) yM 0 x;rw[hx]at hv;exact Zh (v:=.bool (!b)) ok (by simp[execOp,ho,YD hv,Op.unary]) (Yk _)
  .cases h
 .rename_i t x ho;split at h
  .rename_i k n hx;have hv:=Zj (P:=P) yM 0 x;rw[hx]at hv;exact Zh ok (by simp[execOp,ho,ZI hv,Op.unary,Op.intArith]) (pL h hc J)
  .cases h
 .rename_i t x ho;split at h
  .rename_i k n hx;have hv:=Zj (P:=P) yM 0 x;rw[hx]at hv;split at h
   .cases h
   .rename_i hk;simp only[yj,yl]at h;obtain⟨rfl,rfl,rfl⟩:=h;exact Zh ok (by simp[execOp,ho,ZI hv,Op.unary,hk,intBits_xor]) (Zw k _)
  .cases h
 .rename_i src dst x ho;split at h
  .rename_i d1 k k' n hs1 hd1 hx;have hv:=Zj (P:=P) yM src x;rw[hx]at hv;refine Zh ok ?_ (pL h hc J);simp[execOp,ho,ZI hv,convert,run_underlying hs1,run_underlying hd1,Conv.intToInt]
  .rename_i e nn s xs hs1 hd1 hx;have hv:=Zj (P:=P) yM src x;rw[hx]at hv;split at h
   .rename_i b hs2 he;split at h
    .rename_i h1;subst h1;simp only[yj,yl]at h;obtain⟨rfl,rfl,rfl⟩:=h;refine Zh (v:=.string b) ok ?_ (by simp[yJ,Dv.isAgg,Pl.isAgg,yH,aw]);have zB:=RG (P:=P) hs1 he hd1 hv hc.1;simp[execOp,ho,zB]
    .cases h
   .cases h
  .rename_i e id nn s xs hs1 hd1 hx;have hv:=Zj (P:=P) yM src x;rw[hx]at hv;split at h
   .rename_i b hs2 he;split at h
    .rename_i h1;subst h1;simp only[yj,yl]at h;obtain⟨rfl,rfl,rfl⟩:=h;refine Zh (v:=.string b) ok ?_ (by simp[yJ,Dv.isAgg,Pl.isAgg,yH,aw]);have zB:=RG (P:=P) hs1 he hd1 (V5 hv) hc.1;simp[execOp,ho,zB]
    .cases h
   .cases h
  .rename_i e b hs1 hd1 hx;have hv:=Zj (P:=P) yM src x;rw[hx]at hv;split at h
   .rename_i he;simp only[yj,yl]at h;obtain⟨rfl,rfl,rfl⟩:=h;exact ZEd ok ho hs1 hd1 he (nQ hv) hc.1
   .cases h
  .cases h
 .rename_i t x ho;have hv:=Zj (P:=P) yM 0 x;split at h
  .rename_i n e nn s xs hu hx;rw[hx]at hv;split at h
   .rename_i hn;simp only[yj,yl]at h;obtain⟨rfl,rfl,rfl⟩:=h;exact RH ok ho hu hv (by simpa using hn) hc.1
   .cases h
  .rename_i n e id nn s xs hu hx;rw[hx]at hv;split at h
   .rename_i hn;simp only[yj,yl]at h;obtain⟨rfl,rfl,rfl⟩:=h;exact RH ok ho hu (V5 hv) (by simpa using hn) hc.1
   .cases h
  .cases h
 .rename_i f first captured ho
  split at h
  .rename_i hf;simp only[yj,yl]at h;obtain⟨rfl,rfl,rfl⟩:=h;rw[yi,yP]at hf;obtain⟨hf,hlt⟩:=hf;have:first= #[]:=by simpa using hf
   subst this;refine Zh (v:=.func (.func f) #[] (captured.map a.eval)) ok (by simp[execOp,ho,Instr.makeFunc]) ?_;rw[Ze rfl];simp only[yH];refine⟨#[],captured.map a.eval, ?_,yW hlt,by rw[Array.empty_append,ycq];exact zi _ _ (λx=>Zj yM 0 x) _⟩;unfold eA;rw[yW hlt]
  .split at h
   .rename_i hc2;simp only[yj,yl]at h;obtain⟨rfl,rfl,rfl⟩:=h;have:captured= #[]:=by simpa using hc2
    subst this;have hge:¬f+big < big:=Nat.not_lt.2 (Nat.le_add_left big f);refine Zh (v:=.func (.func f) (first.map a.eval) #[]) ok (by simp[execOp,ho,Instr.makeFunc]) ?_
    rw[Ze rfl];simp only[yH];refine⟨first.map a.eval, #[], ?_,yX hge,by rw[Array.append_empty,ycq];exact zi _ _ (λx=>Zj yM 0 x) _⟩
    unfold eA;rw[yX hge,Nat.add_sub_cancel]
   .cases h
 .rename_i t x ho;split at h
  .cases h
  .rename_i u hu hne;simp only[yj,yl]at h;obtain⟨rfl,rfl,rfl⟩:=h;obtain⟨h1,h2⟩:=Zj (P:=P) yM t x;refine Zh (v:=.iface t (a.eval x)) ok ?_ ?_
   .have e:(Instr.makeInterface t (a.eval x)).run P J.w=.ok (.iface t (a.eval x)) J.w:=by
     simp only[Instr.makeInterface,Sem.run_bind,run_underlying hne,Result.andThen_ok];rfl
    simp[execOp,ho,e]
   .rw[Ze rfl];simp only[yH];exact⟨a.eval x,rfl,h1,h2⟩
  .cases h
 .rename_i t x i ho;simp only[yp,yl]at h;obtain⟨d1,h1,rfl,rfl,rfl⟩:=h;obtain⟨u,h2,h3⟩:=ZwI h1 (Zj (P:=P) yM t x);exact Zh ok (by simp[execOp,ho,h2]) h3
 .rename_i t x i ho;have hv:=Zj (P:=P) yM 0 x;split at h
  .rename_i fs id off yQ hu hx;rw[hx]at hv;split at h
   .rename_i f hf;split at h
    .rename_i hk;simp only[yi,yE]at hk;simp only[yj,yl]at h;obtain⟨rfl,rfl,rfl⟩:=h;obtain⟨b,h1,h2,h3⟩:=la hv;refine Zh (v:=.pointer (ab ⟨b,off+f.offset,ae⟩)) ok ?_ ?_
     .have hs:=ZV (P:=P) hk.2 J.w
      have hr:(fieldPlace ⟨b,off,ae⟩ f).run P J.w=.ok ⟨b,off+f.offset,ae⟩ J.w:=by
       unfold fieldPlace;rw[Sem.run_bind,hs];simp only[Result.andThen_ok,hk.1,if_false,Sem.run_pure,Addr.bI]
      simp[execOp,ho,h3,Instr.fieldAt,run_underlying hu,hf,Instr.sureAddr,hr]
     .rw[Ze rfl];simp only[yH];exact⟨b,h1,h2,rfl⟩
    .cases h
   .cases h
  .rename_i fs id v off yQ hu hx;rw[hx]at hv;split at h
   .rename_i f hf;split at h
    .rename_i hk;simp only[yi,yE]at hk;simp only[yj,yl]at h;obtain⟨rfl,rfl,rfl⟩:=h;obtain⟨b,o',h3,h4⟩:=tG hv;refine Zh (v:=.pointer (ab ⟨b,o'+f.offset,ae⟩)) ok ?_ (zj (zk h4));have hs:=ZV (P:=P) hk.2 J.w
     have hr:(fieldPlace ⟨b,o',ae⟩ f).run P J.w=.ok ⟨b,o'+f.offset,ae⟩ J.w:=by
      unfold fieldPlace;rw[Sem.run_bind,hs];simp only[Result.andThen_ok,hk.1,if_false,Sem.run_pure,Addr.bI]
     simp[execOp,ho,h3,Instr.fieldAt,run_underlying hu,hf,Instr.sureAddr,hr]
    .cases h
   .cases h
  .rename_i fs y hu hx;rw[hx]at hv;split at h
   .rename_i z hz;simp only[yj,yl]at h;obtain⟨rfl,rfl,rfl⟩:=h;obtain⟨b,off,us,h1,h2,h3⟩:=pQ hv;unfold QJ at hz;rw[hu]at hz;split at hz
    .rename_i fs' xs hfs hxs;cases hfs;cases hxs;split at hz
     .rename_i y' hy;split at hz
      .rename_i hok;cases hz;unfold kU at hok;split at hok
       .rename_i f hf;simp only[yi,yT,yE]at hok;obtain⟨⟨⟨⟨⟨k1,k2⟩,k3⟩,k4⟩,k5⟩,k6⟩:=hok;simp only[aw]at h2;obtain⟨p1,p2,p3,rfl,e1,e2,_⟩:=kf h2 hy;refine Zh (v:=.pointer (ab ⟨b,off+f.offset,ae⟩)) ok ?_ ?_
        .have hs:=ZV (P:=P) k3 J.w
         have hr:(fieldPlace ⟨b,off,ae⟩ f).run P J.w=.ok ⟨b,off+f.offset,ae⟩ J.w:=by
          unfold fieldPlace;rw[Sem.run_bind,hs];simp only[Result.andThen_ok,k2,k6,if_false,Sem.run_pure,Addr.bI]
         simp[execOp,ho,h1,Instr.fieldAt,run_underlying hu,hf,Instr.sureAddr,hr]
        .rw[Ze rfl];simp only[yH];refine⟨b,_,p2,rfl,e2, ?_⟩;have:=(X7.append (X7.append h3).2).1;rw[e1, <-k1]at this;exact this
       .cases hok
      .cases hz
     .cases hz
    .rename_i hxs;cases hxs
    .cases hz
   .cases h
  .cases h
 .rename_i t x ix ho;exact ZBG ok yM ho h0 hc
 .rename_i t x ix ho;have hv:=Zj (P:=P) yM t x;have hi:=Zj (P:=P) yM 0 ix;split at h
  .rename_i n e n' s xs k i hu hx hix;rw[hx]at hv;rw[hix]at hi;split at h
   .rename_i y hs1;split at h
    .rename_i hk;simp only[yi,yP,yT,yE]at hk;obtain⟨⟨⟨⟨⟨rfl,k1⟩,k2⟩,k3⟩,k4⟩,k5⟩:=hk;simp only[yj,yl]at h;obtain⟨rfl,rfl,rfl⟩:=h;obtain⟨c1,c2,_⟩:=hc;obtain⟨cs,hcs,hr⟩:=(Z2 rfl).1 hv;simp only[yH,aw]at hr;obtain⟨r1,r2,r3⟩:=hr;obtain⟨p1,p2,p3,ecs,e1,e2,_⟩:=kf r3 c2;have hlt:i.toNat < xs.length:=(yo.1 c2).1;have hys:y.size=s:=r2 y (ybp c2)
     have hpl:p1.length=i.toNat*s:=by
      rw[e1,aL (WV r2 _),yae,yay (Nat.le_of_lt hlt)]
     obtain⟨v,h1,h2⟩:=Qx (P:=P) (J:=J) (t:=e) (d:=.p y) ecs (by simpa[yH] using e2) (by rw[k1];exact hys.symm) k4 k3 k2 (by show y.size≠0;rw[hys];exact k5);refine Zh ok ?_ h2;have hb:0<=i/\i < (n:Int):=⟨c1,by omega⟩;rw[hpl, <-k1]at h1;simp[execOp,ho,hcs,ZI hi,Instr.index,asIntOf,run_underlying hu,hb,ZV k4,h1]
    .cases h
   .cases h
  .rename_i s k i hu hx hix;rw[hx]at hv;rw[hix]at hi;split at h
   .rename_i b hs1;simp only[yj,yl]at h;obtain⟨rfl,rfl,rfl⟩:=h;obtain⟨c1,c2,_⟩:=hc;obtain⟨x0,h1,rfl⟩:=yp.1 c2;refine Zh ok (v:=.int .u8 x0.toNat) ?_ (Zw _ _)
    have hg:s[i.toNat]? =ab x0:=by
     rw[<-h1];have hlt:i.toNat < s.data.toList.length:=(yo.1 h1).1;have hlt':i.toNat < s.size:=by simpa using hlt
     rw[getElem?_pos s i.toNat hlt',yac hlt];rfl
    simp[execOp,ho,nQ hv,ZI hi,Instr.index,asIntOf,run_underlying hu,c1,hg]
   .cases h
  .rename_i n e n' s xs k i hu hx hix;rw[hx]at hv;rw[hix]at hi;split at h
   .rename_i y c2;split at h
    .rename_i hk;simp only[yi,yP,yT,yE]at hk;obtain⟨⟨⟨⟨⟨rfl,k1⟩,k2⟩,k3⟩,k4⟩,k5⟩:=hk;simp only[yj,yl]at h;obtain⟨rfl,rfl,rfl⟩:=h;obtain⟨c1,_⟩:=hc;obtain⟨cs,hcs,hr⟩:=(Z2 rfl).1 hv;simp only[yH]at hr;obtain⟨r1,r2,r3⟩:=hr;obtain⟨p1,p2,p3,ecs,e1,e2,_⟩:=kY r3 c2;have hlt:i.toNat < xs.length:=(yo.1 c2).1;have hys:y.size=s:=r2 y (ybp c2)
     have hpl:p1.length=i.toNat*s:=by
      rw[e1,cM (λx hx=>r2 x (ybv hx)),yae,yay (Nat.le_of_lt hlt)]
     obtain⟨v,h1,h2⟩:=Qx (P:=P) (J:=J) (t:=e) (d:=y) ecs e2 (by rw[k1];exact hys.symm) k4 k3 k2 (by rw[hys];exact k5);refine Zh ok ?_ h2;have hb:0<=i/\i < (n:Int):=⟨c1,by omega⟩;rw[hpl, <-k1]at h1;simp[execOp,ho,hcs,ZI hi,Instr.index,asIntOf,run_underlying hu,hb,ZV k4,h1]
    .cases h
   .cases h
  .cases h
 .rename_i t x lo hi ho;exact ZLX ok yM ho h0 hc
 .rename_i t x lo hi mx ho;exact ZIL ok yM ho h0 hc
 .rename_i x i ho;split at h
  .rename_i ds hx;simp only[yp,yl]at h;obtain⟨d1,h1,rfl,rfl,rfl⟩:=h;have hv:=Zj (P:=P) yM 0 x;rw[hx,Ze rfl]at hv;simp only[yH,List.cons.injEq,and_true]at hv;obtain⟨cs,hv,hr⟩:=hv;obtain⟨v,h2,h3⟩:=zh hr h1;have h2':cs[i]? =ab v:=by simpa using h2
   exact Zh ok (by simp[execOp,ho,hv,Instr.extract,h2']) h3
  .cases h
 .rename_i t x ho;split at h
  .rename_i y hx;split at h
   .rename_i hk;simp only[yi,yT,yP]at hk;obtain⟨⟨⟨k1,k2⟩,k3⟩,k4⟩:=hk;simp only[yj,yl]at h;obtain⟨rfl,rfl,rfl⟩:=h;have hv:=Zj (P:=P) yM 0 x;rw[hx]at hv;obtain⟨b,off,us,h1,h2,h3⟩:=pQ hv;obtain⟨v,h4,h5⟩:=tC (P:=P) (J:=J) (d:=.p y) (by simpa[yH] using h2) (λj u hu=>(h3 j u hu).1) k1 k4 k3 k2;exact Zh ok (by simp[execOp,ho,h1,Instr.loadAt,Instr.sureAddr,h4]) h5
   .cases h
  .cases h
 .rename_i t parts ho;exact ZLY ok yM ho h0
 .rename_i c ho;split at h
  .rename_i zL;split at h
   .rename_i x t yR htys;have hv:=Zj (P:=P) yM t x;split at h
    .rename_i e nn s xs hu hx;rw[hx]at hv;simp only[yj,yl]at h;obtain⟨rfl,rfl,rfl⟩:=h;obtain⟨_,A,cp,h1,_⟩:=XL hv;exact Zh ok (mz ho zL yR htys (by rw[h1];simp[Builtin.len_,run_underlying hu];rfl)) (Zw _ _)
    .rename_i e id nn s xs hu hx;rw[hx]at hv;simp only[yj,yl]at h;obtain⟨rfl,rfl,rfl⟩:=h;obtain⟨_,A,cp,h1,_⟩:=Q8 hv;exact Zh ok (mz ho zL yR htys (by rw[h1];simp[Builtin.len_,run_underlying hu];rfl)) (Zw _ _)
    .rename_i e id off yQ s lo n hu hx;rw[hx]at hv;simp only[yj,yl]at h;obtain⟨rfl,rfl,rfl⟩:=h;obtain⟨b,cp,aa,_,_,h1,_⟩:=mw hv;exact Zh ok (mz ho zL yR htys (by rw[h1];simp[Builtin.len_,run_underlying hu];rfl)) (Zw _ _)
    .rename_i e id v s lo n hu hx;rw[hx]at hv;simp only[yj,yl]at h;obtain⟨rfl,rfl,rfl⟩:=h;obtain⟨A,cp,h1,_⟩:=jB hv;exact Zh ok (mz ho zL yR htys (by rw[h1];simp[Builtin.len_,run_underlying hu];rfl)) (Zw _ _)
    .rename_i dd n e hu;simp only[yj,yl]at h;obtain⟨rfl,rfl,rfl⟩:=h;exact Zh ok (mz ho zL yR htys (by simp[Builtin.len_,run_underlying hu];rfl)) (Zw _ _)
    .rename_i s hu hx;rw[hx]at hv;simp only[yj,yl]at h;obtain⟨rfl,rfl,rfl⟩:=h;exact Zh ok (mz ho zL yR htys (by rw[nQ hv];simp[Builtin.len_,run_underlying hu];rfl)) (Zw _ _)
    .cases h
   .cases h
  .rename_i zL;split at h
   .rename_i x y t u yR htys;have hv:=Zj (P:=P) yM t x;have hw:=Zj (P:=P) yM u y;split at h
    .rename_i m n hx hy;rw[hx]at hv;rw[hy]at hw;simp only[yj,yl]at h;obtain⟨rfl,rfl,rfl⟩:=h;exact Zh ok (ZIN ho zL yR htys (by rw[ZI hv,ZI hw];simp[Builtin.max_,Builtin.max2])) (Zw _ _)
    .cases h
   .cases h
  .rename_i zL;split at h
   .rename_i x y t u hs1 yR htys;split at h
    .rename_i e s hu hx;split at h
     .rename_i i ys hi hsrc;split at h
      .rename_i hk;simp only[yi,yE]at hk;simp only[yj,yl]at h;obtain⟨rfl,rfl,rfl⟩:=h;exact ZwJ ok yM ho zL yR htys hu hx hi hk.1 hk.2 hsrc hc.1 hc.2.1
      .cases h
     .cases h
    .cases h
   .cases h
  .rename_i f zL;split at h
   .rename_i g cap r hs1 hf;split at h
    .rename_i hk;simp only[yi,yT]at hk;split at h
     .rename_i args' r1 yR hr;simp only[yj,yl]at h;obtain⟨rfl,rfl,rfl⟩:=h
      have:=RA (P:=P) (ids:=[]) (Hin:=[]) (H':=[]) (Hb:=[]) (r:=r) (r':=r) ok yM ho zL hf hk.1 hk.2 rfl (ym _) (by rw[pZ];exact yR) rfl
       (QU r r1 hr) rfl hc.1
      rwa [RF]at this
     .cases h
    .cases h
   .rename_i g x y hs1 hf;split at h
    .rename_i hk;simp only[yi,yT]at hk;split at h
     .rename_i n1 s xs n2 s' ys yR;split at h
      .rename_i h1;obtain⟨h1,h2⟩:=h1;subst h1;subst h2;simp only[yj,yl]at h;obtain⟨rfl,rfl,rfl⟩:=h;exact ZHE ok yM ho zL hf hk.1 hk.2 yR hc.1 hc.2.1
      .cases h
     .cases h
    .cases h
   .cases h
  .cases h
 .rename_i t len parts ho;split at h
  .rename_i hs1;split at h
   .rename_i e hu;split at h
    .rename_i i xs hi hl;split at h
     .rename_i hk;simp only[yi,yE,yP]at hk;simp only[yj,yl]at h;obtain⟨rfl,rfl,rfl⟩:=h;exact tD (PO ok yM ho hu hi hk.1.1 hk.1.2 hk.2 hl) (Wk.p (bN.pO (by rw[<-Pl.cy];exact cA _))) (ct.refl _)
     .cases h
    .cases h
   .cases h
  .rename_i hs1;split at h
   .rename_i e hu;split at h
    .rename_i i xs hi hl;split at h
     .rename_i hk;simp only[yi,yE,yP]at hk;simp only[yj,yl]at h;obtain⟨rfl,rfl,rfl⟩:=h;exact PO ok yM ho hu hi hk.1.1 hk.1.2 hk.2 hl
     .cases h
    .cases h
   .cases h
  .cases h
 .cases h
theorem ZHG{x y:yn}{t u:yc}{c:Call}{w':yz}(ho:o.op=.call c)(hc:c.callee=.builtin .copy)(yR:c.args.toList=[x,y])(htys:c.argTypes.toList=[t,u]){v:yh}
 (h:(Builtin.copy_ #[t,u] o.type #[a.eval x,a.eval y]).run P J.w=.ok v w'):(execOp a.eval o).run P J.w=.ok (.value v) w':=by
 have h1:c.args= #[x,y]:=by rw[<-ycb (xs:=c.args),yR]
 have h2:c.argTypes= #[t,u]:=by rw[<-ycb (xs:=c.argTypes),htys]
 simp[execOp,ho,resolve,hc,h1,h2,invoke,builtin,h]
theorem tU(ok:Ok J){id v v' s lo n N:Nat}{st:Bool}{e:yc}{zs:yL Pl}{u:yh}(hx:yJ J (.rv id v s lo n) u)(hH:J.H[id]? =ab (.row v' s st e (.p (.arr N s zs))))(hv:v'=v)(hle:lo+n<=N):
 ∃A c,u=.slice A n c/\n<=c/\c<=maxLen/\(A=ae->c=0)/\aU s ((zs.drop lo).take n)/\((zs.drop lo).take n).length=n/\∃q,an J.w J.aV ((zs.drop lo).take n) q/\q.length=n*s/\
  (0 < n->∃b cur cap,A=ab ⟨b,lo*s,ae⟩/\J.m[id]? =ab (ab b)/\J.w.heap[b]? =ab (.cells cur e (0,0))/\cur.size=cap*s/\∀(j:Nat)(u:yh),q[j]? =ab u->J.w.cell? ⟨b,lo*s+j,ae⟩=ab u):=by
 obtain⟨A,c,rfl,h2,h3,h4,h5,v2,s2,st2,e2,d2,h6,h7,h8⟩:=jB hx;rw[hH]at h6;cases h6;obtain⟨_,h9⟩:=h8 hv;have hidlt:id < J.m.length:=by rw[ok.len];exact(yo.1 hH).1
 have hmi:J.m[id]? =ab J.m[id]:=yac hidlt;obtain⟨N',hN',hent⟩:=ok.dc id _ _ hH hmi;simp only[aO,if_true,yj]at hN';subst hN';by_cases hn:n=0
 .subst hn;refine⟨A,c,rfl,h2,h3,h4, ?_,by simp,[],by simp[an],by simp,λh=>absurd h (by omega)⟩;simp only[List.take_zero];intro x hx;cases hx
 have hpos:0 < n:=Nat.pos_of_ne_zero hn;rcases h9 with⟨_,_,hz⟩|⟨b,cur,k1,k2,k3,k4⟩
 .omega
 rw[hmi]at k1;rcases hent with⟨hh,_⟩|⟨b',cur',cap,hh,g2,g4,g5,g6,g7⟩
 .rw[hh]at k1;cases k1
 rw[hh]at k1;cases k1;rw[k2]at g2;cases g2;simp only[yH,aw]at g7;obtain⟨hxl,hxs,h7⟩:=g7
 have hsplit:zs=zs.take lo++((zs.drop lo).take n++zs.drop (lo+n)):=by
  have e1:zs.drop (lo+n)=(zs.drop lo).drop n:=by rw[List.drop_drop]
  rw[e1,ybk,ybk]
 rw[hsplit]at h7;obtain⟨q1,q23,e1,r1,r23⟩:=Z9 h7;obtain⟨q2,q3,rfl,r2,r3⟩:=Z9 r23;have hs1:aU s (zs.take lo):=λz hz=>hxs z (ybv hz);have hsy:aU s ((zs.drop lo).take n):=λz hz=>hxs z (ycy (ybv hz));have ly:((zs.drop lo).take n).length=n:=by rw[yae,ybq,yay (by omega)]
 have l1:q1.length=lo*s:=by rw[aK _ _ r1,aL hs1,yae,yay (by omega)]
 have l2:q2.length=n*s:=by rw[aK _ _ r2,aL hsy,ly]
 refine⟨A,c,rfl,h2,h3,h4,hsy,ly,q2,r2,l2,λ_=>⟨b,cur,cap,k4 (by omega),by rw[hmi,hh],k2,g4,λj u hu=> ?_⟩⟩;rw[cell_of_row J.w b _ cur e (0,0) k2, <-ybt];have hj:j < q2.length:=(yo.1 hu).1
 have e2:(cur.toList.take (N*s))[lo*s+j]? =ab u:=by
  rw[e1,yam (by omega),l1,Nat.add_sub_cancel_left,yai hj];exact hu
 rw[ych]at e2;split at e2
 .exact e2
 .cases e2
theorem tV(ok:Ok J)(yM:aD J ts a){s:Nat}{u ut:yc}{y:yn}{ys:yL Pl}{hs1:yL al}{C1:yL Prop}(h:hJ P s u J.H hs (Zs P ts ut y)=ab (C1,ys,hs1))(hc:bc C1):
 my P J s u (a.eval y) ys:=by
 unfold hJ at h;split at h
 .rename_i id off yQ s' lo n hd;have hxv:=Zj (P:=P) yM ut y;rw[hd]at hxv;obtain⟨b,cap,A,hm,hv,hve,hcap,hcm,hA⟩:=mw hxv;split at h
  .rename_i e dd st hu hH;split at h
   .rename_i C2 off' N s2 zs hs2 hg;split at h
    .rename_i hk;simp only[yi,yP]at hk;obtain⟨rfl,rfl⟩:=hk;simp only[yj,yl]at h;obtain⟨rfl,rfl,rfl⟩:=h;obtain⟨c1,rfl,c2,_⟩:=Zk.1 hc;obtain⟨b',cs,t',h1,h2,h3,h4⟩:=ok.dc id _ _ hH hm;cases h1;obtain⟨p1,p2,p3,h5,h6,h7,_⟩:=lc yQ dd hs hs2 C2 off' (.p (.arr N s2 zs)) _ hg c1 h3;simp only[yH,aw]at h7;obtain⟨hxl,hxs,h7⟩:=h7
     have hsplit:zs=zs.take lo++((zs.drop lo).take n++zs.drop (lo+n)):=by
      have e1:zs.drop (lo+n)=(zs.drop lo).drop n:=by rw[List.drop_drop]
      rw[e1,ybk,ybk]
     rw[hsplit]at h7;obtain⟨q1,q23,rfl,r1,r23⟩:=Z9 h7;obtain⟨q2,q3,rfl,r2,r3⟩:=Z9 r23;have hs1:aU s2 (zs.take lo):=λz hz=>hxs z (ybv hz);have hsy:aU s2 ((zs.drop lo).take n):=λz hz=>hxs z (ycy (ybv hz));have ly:((zs.drop lo).take n).length=n:=by rw[yae,ybq,yay (by omega)]
     have l1:q1.length=lo*s2:=by rw[aK _ _ r1,aL hs1,yae,yay (by omega)]
     have l2:q2.length=n*s2:=by rw[aK _ _ r2,aL hsy,ly]
     rw[hve];refine⟨q2,⟨.inl ⟨_,hu⟩,λw'=>by rw[ly];rfl, ?_, ?_,by rw[ly];exact l2⟩,r2,λ_=>hsy⟩
     all_goals
      rw[ly];rcases ycj n with h0|h0
      .subst h0;have hz:q2=[]:=ybf (by rw[l2];simp);rw[hz];simp[Builtin.firstCells,loadCells,loadCellsFrom]
      .rw[hA h0];refine run_firstCells_some _ s2 _ ⟨b,off'+lo*s2,ae⟩ _ cap q2 l2 (λj v hv=> ?_);rw[Addr.bI];have hcell:J.w.cell? ⟨b,off'+lo*s2+j,ae⟩=cs[off'+lo*s2+j]? :=cell_of_row J.w b _ cs t' (0,0) h2
       first
        |(rw[hcell, <-ybt]
          have h5':cs.toList.take dd.size=(p1++q1)++(q2++(q3++p3)):=by rw[h5];simp
          have hpl:(p1++q1).length=off'+lo*s2:=by rw[yr,h6,l1]
          have hj:j < q2.length:=(yo.1 hv).1
          have e2:(cs.toList.take dd.size)[off'+lo*s2+j]? =ab v:=by
           rw[h5',yam (by omega),hpl,Nat.add_sub_cancel_left,yai hj];exact hv
          rw[ych]at e2;split at e2
          .exact e2
          .cases e2)
        |(show J.w.drew.cell? _=_
          have hcell2:J.w.drew.cell? ⟨b,off'+lo*s2+j,ae⟩=J.w.cell? ⟨b,off'+lo*s2+j,ae⟩:=rfl;rw[hcell2,hcell, <-ybt];have h5':cs.toList.take dd.size=(p1++q1)++(q2++(q3++p3)):=by rw[h5];simp
          have hpl:(p1++q1).length=off'+lo*s2:=by rw[yr,h6,l1]
          have hj:j < q2.length:=(yo.1 hv).1
          have e2:(cs.toList.take dd.size)[off'+lo*s2+j]? =ab v:=by
           rw[h5',yam (by omega),hpl,Nat.add_sub_cancel_left,yai hj];exact hv
          rw[ych]at e2;split at e2
          .exact e2
          .cases e2)
    .cases h
   .cases h
  .cases h
 .rename_i id v s' lo n hd;have hxv:=Zj (P:=P) yM ut y;rw[hd]at hxv;split at h
  .rename_i e v' s2 st e' N s3 zs hu hH;split at h
   .rename_i hk;simp only[yi,yP,yT]at hk;obtain⟨⟨⟨rfl,rfl⟩,rfl⟩,hv⟩:=hk;simp only[yj,yl]at h;obtain⟨rfl,rfl,rfl⟩:=h;obtain⟨A,cap,hve,hcap,hcm,hA,hsy,ly,q2,r2,l2,hq⟩:=tU ok hxv hH hv hc.1;rw[hve];refine⟨q2,⟨.inl ⟨_,hu⟩,λw'=>by rw[ly];rfl, ?_, ?_,by rw[ly];exact l2⟩,r2,λ_=>hsy⟩
    all_goals
     rw[ly];rcases ycj n with h0|h0
     .subst h0;have hz:q2=[]:=ybf (by rw[l2];simp);rw[hz];cases A <;> simp[Builtin.firstCells,loadCells,loadCellsFrom]
     .obtain⟨b,cur,cp,rfl,_,_,_,hcell⟩:=hq h0;refine run_firstCells_some _ _ _ ⟨b,_,ae⟩ _ cap q2 l2 (λj v hv=> ?_);rw[Addr.bI];exact hcell j v hv
   .cases h
  .cases h
 .simp only[yp,yl]at h;obtain⟨zs,h1,rfl,rfl,rfl⟩:=h;exact Q9 (P:=P) yM h1
theorem ZOf(ok:Ok J)(yM:aD J ts a){c:Call}{x y:yn}{t u e:yc}{id off s lo n N:Nat}{yQ:yL Nat}{dd dd':Dv}{xs ys:yL Pl}{C1:yL Prop}{off':Nat}(ho:o.op=.call c)(zL:c.callee=.builtin .copy)
 (yR:c.args.toList=[x,y]) (htys:c.argTypes.toList=[t,u]) (ht:P.underlying t=ab (.slice e)) (hx:Zs P ts t x=.view id off yQ s lo n) (hsrc:gI P s u (Zs P ts u y)=ab ys)
 (hH:J.H[id]? =ab (.var dd af)) (hg:Yf dd yQ hs=ab (C1,off',.p (.arr N s xs),hs')) (hc:bc C1) (he:off'=off) (hp:XW (.p (.arr N s (nO xs ys lo))) dd yQ hs=ab dd')
 (hce:P.cellsOf e=s) (hi:(P.info? e).isSome=af) (hm':ys.length<=n) (hn:lo+n<=N):YH P o a J (.p (.int .i64 (ys.length:Int))) (J.H.set id (.var dd' af)):=by
 subst he;have hxv:=Zj (P:=P) yM t x;rw[hx]at hxv;obtain⟨b,cap,A,hm,hv,hxv,hcap,hcm,hA⟩:=mw hxv;obtain⟨zX,hS,hnr,zU⟩:=Q9 (P:=P) yM hsrc;obtain⟨b',cs,t',h1,h2,h3,h4⟩:=ok.dc id _ _ hH hm;cases h1;obtain⟨p1,p2,p3,h5,h6,h7,h8⟩:=lc yQ dd hs hs' C1 off' (.p (.arr N s xs)) _ hg hc h3;simp only[yH,aw]at h7;obtain⟨hxl,hxs,h7⟩:=h7;have hlo:lo+ys.length<=xs.length:=by omega
 have hsplit:xs=xs.take lo++((xs.drop lo).take ys.length++xs.drop (lo+ys.length)):=by
  have e1:xs.drop (lo+ys.length)=(xs.drop lo).drop ys.length:=by rw[List.drop_drop]
  rw[e1,ybk,ybk]
 rw[hsplit]at h7;obtain⟨q1,q23,rfl,r1,r23⟩:=Z9 h7;obtain⟨q2,q3,rfl,r2,r3⟩:=Z9 r23;have hs1:aU s (xs.take lo):=λz hz=>hxs z (ybv hz);have hs2:aU s ((xs.drop lo).take ys.length):=λz hz=>hxs z (ycy (ybv hz));have hs3:aU s (xs.drop (lo+ys.length)):=λz hz=>hxs z (ycy hz);have l1:q1.length=lo*s:=by rw[aK _ _ r1,aL hs1,yae,yay (by omega)]
 have l2:q2.length=ys.length*s:=by rw[aK _ _ r2,aL hs2,yae,ybq,yay (by omega)]
 have ln:zX.length=ys.length*s:=hS.cells
 have hys:aU s ys:=by
  by_cases h0:ys=[]
  .subst h0;intro z hz;cases hz
  .exact zU h0
 have hcells:yH J (.p (.arr N s (nO xs ys lo))) (q1++(zX++q3)):=by
  simp only[yH,aw];refine⟨?_, ?_, ?_⟩
  .unfold nO;simp only[yr,yae,ybq];omega
  .exact Wh hs1 (Wh hys hs3)
  .exact Yh r1 (Yh hnr r3)
 obtain⟨h9,h10⟩:=h8 _ dd' _ hp rfl hcells;have h5':cs.toList.take dd.size=(p1++q1)++(q2++(q3++p3)):=by rw[h5];simp
 have hll:zX.length=q2.length:=by rw[ln,l2]
 obtain⟨k1,k2⟩:=pW h5' hll h4;have hpl:(p1++q1).length=off'+lo*s:=by rw[yr,h6,l1]
 rw[hpl]at k1 k2
 have hnl:off'+lo*s+zX.length<=cs.size:=by
  have:=congrArg List.length h5';simp only[yae,yau,yr]at this;omega
 have hone:∀v,v∈zX->v.oneCell'=af:=cx _ _ hnr;have hst:=run_storeCells_at P b (off'+lo*s) t' zX 0 cs J.w h2 (by simpa using hnl) hone;simp only[Nat.add_zero]at hst;let ncs:Array yh:=(cs.toList.take (off'+lo*s)++zX++cs.toList.drop (off'+lo*s+zX.length)).toArray
 have hstA:(storeCells A zX 0).run P J.w=.ok () (J.w.setRow b ncs):=by
  by_cases h0:ys.length=0
  .have hz:zX=[]:=ybf (by rw[ln,h0];simp)
   have e1:ncs=cs:=by
    simp only[ncs,hz,List.append_nil,ycn,Nat.add_zero,ybk,ycb]
   rw[e1,setRow_self J.w b cs t' (0,0) h2,hz];simp[storeCells]
  .rw[hA (by omega)];exact hst
 let J':Sg:={ J with m:=J.m.set id (ab b),H:=J.H.set id (.var dd' af),w:=J.w.setRow b ncs};have zV:J'.w.heap[b]? =ab (.cells ncs t' (0,0)):=setRow_heap J.w b cs _ t' _ h2;have hoth:∀j,b≠j->J'.w.heap[j]? =J.w.heap[j]? :=λj hj=>setRow_other J.w b j _ (Ne.symm hj)
 obtain⟨to,ok'⟩:=YX (J':=J') (mi:=ab b) (mi':=ab b) ok hH hm rfl rfl rfl rfl rfl rfl rfl (by simp[J'])
  (λj hj hne=>hoth j (λhh=>hne (by rw[hh]))) (λb' o v _ hu _=>by cases hu) (λo _ hu=>by cases hu) (.inl rfl) (λ_=>⟨rfl,dd',af,rfl⟩) (λ⟨d,st,h⟩=>by cases h)
  (λs e xs h=>by cases h) (λleaf=>⟨b,ncs,t',rfl,zV,by rw[h10];show yH J' dd' (ncs.toList.take dd.size);rw[show ncs.toList.take dd.size=p1++((q1++(zX++q3))++p3) from by rw[k1];simp];exact ZZ leaf dd' _ h9,by
    rw[h10];show dd.size<=ncs.size;have:ncs.size=cs.size:=k2;omega⟩)
 refine ZK (J':=J') (v:=goInt ys.length) (ZHG ho zL yR htys ?_) to ok' (by rw[Ze rfl];simp[yH,aw,goInt])
 cases hi':P.info? e with
 |none=>simp[hi']at hi
 |some i=>
  have hsz:i.size=s:=by rw[<-hce];simp[Program.cellsOf,hi']
  have hmin:Nat.min ys.length n=ys.length:=yay hm';rw[hxv];simp[Builtin.copy_,run_underlying ht,hS.len,hmin,sizeOf,typeInfo,hi',hsz,hS.first,hstA,goInt,J']
end
end Go.Ev
end
section
namespace Go.Ev
def qa:yh->Bool
 |.int _ _=>af
 |.bool _=>af
 |_=>ag
mutual
theorem qb{w w':yz}{S S':Nat->Nat->Prop}:∀(x:Pl)(us vs:yL yh),x.flat=af->aw w S x us->aw w' S' x vs->us=vs/\∀u,u∈us->qa u=af
 |.int _ _,us,vs,_,h,k=>by simp only[aw]at h k;subst h;subst k;exact⟨rfl,λu hu=>by rw[yar.1 hu];rfl⟩
 |.bool _,us,vs,_,h,k=>by simp only[aw]at h k;subst h;subst k;exact⟨rfl,λu hu=>by rw[yar.1 hu];rfl⟩
 |.str _,_,_,h,_,_=>by simp[Pl.flat]at h
 |.bf,_,_,h,_,_=>by simp[Pl.flat]at h
 |.fn0,_,_,h,_,_=>by simp[Pl.flat]at h
 |.dN,_,_,h,_,_=>by simp[Pl.flat]at h
 |.ci,_,_,h,_,_=>by simp[Pl.flat]at h
 |.fQ _,_,_,h,_,_=>by simp[Pl.flat]at h
 |.agg xs,us,vs,hf,h,k=>by
  simp only[Pl.flat]at hf;simp only[aw]at h k
  exact dD xs us vs hf h k
 |.arr n s xs,us,vs,hf,h,k=>by
  simp only[Pl.flat]at hf;simp only[aw]at h k
  exact dD xs us vs hf h.2.2 k.2.2
 |.sl _ _ _,_,_,h,_,_=>by simp[Pl.flat]at h
 |.iface _ _,_,_,h,_,_=>by simp[Pl.flat]at h
theorem dD{w w':yz}{S S':Nat->Nat->Prop}:∀(xs:yL Pl)(us vs:yL yh),Pl.aM xs=af->an w S xs us->an w' S' xs vs->us=vs/\∀u,u∈us->qa u=af
 |[],us,vs,_,h,k=>by simp only[an]at h k;subst h;subst k;exact⟨rfl,λu hu=>by cases hu⟩
 |x::xs,us,vs,hf,h,k=>by
  simp only[Pl.aM,yi]at hf;simp only[an]at h k;obtain⟨a,b,rfl,h1,h2⟩:=h;obtain⟨c,d,rfl,k1,k2⟩:=k;obtain⟨rfl,e1⟩:=qb x a c hf.1 h1 k1;obtain⟨rfl,e2⟩:=dD xs b d hf.2 h2 k2;refine⟨rfl,λu hu=> ?_⟩;rcases List.mem_append.1 hu with hu|hu
  .exact e1 u hu
  .exact e2 u hu
end
theorem AB{J J':Sg}{x:Pl}{a b:yh}(hf:x.flat=af)(ha:yJ J (.p x) a)(hb:yJ J' (.p x) b):a=b:=by
 cases hx:x.isAgg with
 |true=>
  obtain⟨cs,rfl,h⟩:=(Z2 (d:=.p x) hx).1 ha;obtain⟨ds,rfl,k⟩:=(Z2 (d:=.p x) hx).1 hb;simp only[yH]at h k;obtain⟨e,_⟩:=qb x _ _ hf h k
  rw[show cs=ds from by cases cs;cases ds;simpa using e]
 |false=>
  have h:=(Ze (d:=.p x) hx).1 ha;have k:=(Ze (d:=.p x) hx).1 hb;simp only[yH]at h k;obtain⟨e,_⟩:=qb x _ _ hf h k;simpa using e
theorem RJ(n:Nat):∀{u:yh},qa u=af->Instr.sameBits n u u=af:=by
 intro u h;cases u <;> first|(cases n <;> simp[Instr.sameBits];done)|(simp[qa]at h)
theorem RK{J:Sg}{x:Pl}{a:yh}(hf:x.flat=af)(ha:yJ J (.p x) a):Instr.sameBits 10000 a a=af:=by
 cases hx:x.isAgg with
 |true=>
  obtain⟨cs,rfl,h⟩:=(Z2 (d:=.p x) hx).1 ha;simp only[yH]at h;obtain⟨_,e⟩:=qb x _ _ hf h h;show(cs.size==cs.size&&(cs.toList.zip cs.toList).all λ(x,y)=>Instr.sameBits 9999 x y)=af;simp only[beq_self_eq_true,Bool.true_and,List.all_eq_true];intro p hp
  have key:∀(l:yL yh),(∀u,u∈l->qa u=af)->∀p,p∈l.zip l->Instr.sameBits 9999 p.1 p.2=af:=by
   intro l
   induction l with
   |nil=>intro _ p hp;cases hp
   |cons z r ih=>
    intro hz p hp;simp only[List.zip_cons_cons]at hp;rcases yaw.1 hp with rfl|hp
    .exact RJ 9999 (hz z (yao ..))
    .exact ih (λu hu=>hz u (yas _ hu)) p hp
  exact key _ e p hp
 |false=>
  have h:=(Ze (d:=.p x) hx).1 ha;simp only[yH]at h;obtain⟨_,e⟩:=qb x _ _ hf h h;exact RJ 10000 (e a (yar.2 rfl))
theorem RL{P:yg}{n:Nat}(ih:∀(t:yc)(x:Pl),bg P n t x->x.flat=af):∀(fs:yL Field)(o:Nat)(xs:yL Pl),gW P (bg P n) fs o xs->Pl.aM xs=af
 |[],_,[],_=>rfl
 |[],_,_::_,h=>h.elim
 |_::_,_,[],h=>h.elim
 |f::fs,o,y::ys,h=>by
  obtain⟨_,_,_,_,_,_,_,a,b⟩:=h;simp only[Pl.aM,ih _ _ a,RL ih fs _ ys b,Bool.and_self]
theorem RM:∀{xs:yL Pl},(∀y,y∈xs->y.flat=af)->Pl.aM xs=af
 |[],_=>rfl
 |x::xs,h=>by simp only[Pl.aM,h x (yao ..),RM λy hy=>h y (yas _ hy),Bool.and_self]
theorem mD{P:yg}:∀(n:Nat)(t:yc)(x:Pl),bg P n t x->x.flat=af
 |0,_,_,h=>by simp[bg]at h
 |n+1,t,x,h=>by
  unfold bg at h;split at h
  .rfl
  .rfl
  .obtain⟨_,_,_,_,_,h⟩:=h;simp only[Pl.flat];exact RM λy hy=>mD n _ y (h y hy).1
  .simp only[Pl.flat];exact RL (mD n) _ _ _ h.2
  .exact h.elim
theorem Wl{P:yg}{J:Sg}{em:Bool}:∀(n:Nat)(t:yc)(x:Pl)(a:yh),bg P n t x->yJ J (.p x) a->∀d,(Instr.checkKey em (d+n) t a).run P J.w=.ok () J.w
 |0,_,_,_,h,_,_=>by simp[bg]at h
 |n+1,t,x,a,hx,ra,d=>by
  unfold bg at hx;rw[show d+(n+1)=(d+n)+1 from rfl]
  split at hx
  .rename_i hu;rw[YD ra];simp[Instr.checkKey,run_underlying hu]
  .rename_i k k' z hu;rw[ZI ra];simp[Instr.checkKey,run_underlying hu]
  .rename_i m e m' s xs hu;obtain⟨rfl,h1,h2,h3,h4,h5⟩:=hx;rw[Z2 (by rfl)]at ra;obtain⟨cs,rfl,ra⟩:=ra;simp only[yH]at ra;obtain⟨n1,ra1,ra2⟩:=zO ra;clear ra ra1;subst n1;rw[Instr.checkKey];simp only[Sem.run_bind,run_underlying hu,Result.andThen_ok];simp only[Std.Legacy.Range.forIn_eq_forIn_range',Std.Legacy.Range.size,Nat.sub_zero,Nat.add_one_sub_one,Nat.div_one];obtain⟨i,p,us,vI,e1,l1,r1⟩:∃(i:Nat)(p us:yL yh),i=0/\cs.toList=p++us/\p.length=i*s/\an J.w J.aV xs us:=⟨0,[],cs.toList,rfl,rfl,by simp,ra2⟩;rw[<-vI];clear vI ra2 hu
   induction xs generalizing i p us with
   |nil=>simp
   |cons x xs ih=>
    simp only[an]at r1;obtain⟨u1,u2,rfl,q1,q2⟩:=r1;obtain⟨f1,f2,f3⟩:=h5 x (yao ..);obtain⟨a,ha,ra⟩:=Qx (P:=P) (J:=J) (t:=e) (d:=.p x) e1 (by simpa[yH] using q1) (by rw[h1];exact f2.symm) h3 h4 f3 (by show x.size≠0;omega);rw[l1]at ha;have s1:=XT _ _ q1;have hk:=Wl (em:=em) n e x a f1 ra d;rw[yah,List.range'_succ];simp only[List.forIn_cons,Sem.run_bind,ZV h3,h1,Result.andThen_ok,ha,hk,Sem.run_pure];exact ih (λy hy=>h5 y (yas _ hy)) (i+1) (p++u1) u2 (by rw[e1,yak]) (by rw[yr,l1,s1,f2,yav,Nat.one_mul]) q2
  .rename_i fs xs hu;obtain⟨h1,h2⟩:=hx;rw[Z2 (by rfl)]at ra;obtain⟨cs,rfl,ra⟩:=ra;simp only[yH,aw]at ra;rw[Instr.checkKey];simp only[Sem.run_bind,run_underlying hu,Result.andThen_ok];rw[<-Array.forIn_toList];obtain⟨o,p,us,ho,e1,l1,r1⟩:∃(o:Nat)(p us:yL yh),o=0/\cs.toList=p++us/\p.length=o/\an J.w J.aV xs us:=⟨0,[],cs.toList,rfl,rfl,rfl,ra⟩;rw[<-ho]at h2;clear ho ra hu;generalize fs.toList=L at*
   induction L generalizing xs o p us with
   |nil=>simp
   |cons f L ih=>
    cases xs with
    |nil=>exact h2.elim
    |cons x xs=>
     obtain⟨a1,a2,a3,a4,a5,a6,a7,a8,a9⟩:=h2;simp only[an]at r1;obtain⟨u1,u2,rfl,q1,q2⟩:=r1;obtain⟨a,ha,ra⟩:=Qx (P:=P) (J:=J) (t:=f.type) (d:=.p x) e1 (by simpa[yH] using q1) a3 a4 a5 a6 a7;rw[l1, <-a2]at ha;have s1:=XT _ _ q1;have hk:=Wl (em:=em) n f.type x a a8 ra d;simp only[List.forIn_cons,a1,ne_eq,not_false_eq_true,if_true,Sem.run_bind,ha,Result.andThen_ok,hk,Sem.run_pure];exact ih xs (o+x.size) (p++u1) u2 (by rw[e1,yak]) (by rw[yr,l1,s1]) q2 a9
  .exact hx.elim
end Go.Ev
namespace Go.Ev
structure dg(P:yg)(J:Sg)(kt:yc)(k:Pl)(F:List MapEntry->Nat->Option (Nat×yh)->Prop):Prop where
 nil:∀i,F [] i ae
 eq:∀(e:MapEntry)es i(q:Pl),bg P 20 kt q->yJ J (.p q) e.key->k=q->F (e::es) i (ab (i,e.val))
 ne:∀(e:MapEntry)es i(q:Pl)r,bg P 20 kt q->yJ J (.p q) e.key->k≠q->F es (i+1) r->F (e::es) i r
theorem RN{P:yg}{J:Sg}{kt:yc}{k:Pl}{a:yh}(hk:bg P 20 kt k)(ra:yJ J (.p k) a):dg P J kt k λes i r=>(Instr.findAsking kt a es i).run P J.w=.ok r J.w where
 nil i:=by simp[Instr.findAsking]
 eq e es i q hq rq h:=by
  have:=AA (β:=af) hk hq ra rq (by simp[h]);simp[Instr.findAsking,this]
 ne e es i q r hq rq h hr:=by
  have:=AA (β:=ag) hk hq ra rq (by simp[h]);simp[Instr.findAsking,this,hr]
theorem RO{P:yg}{J:Sg}{kt:yc}{d:TypeDesc}{k:Pl}{a:yh}(hd:P.underlying kt=ab d)(hs:(∃q,d=.int q)\/d=.bool)(hk:bg P 20 kt k)(ra:yJ J (.p k) a):
 dg P J kt k λes i r=>Instr.findNow d a es i=ab r where
 nil i:=rfl
 eq e es i q hq rq h:=by
  subst h;have hv:=AB (mD 20 kt k hk) ra rq;unfold bg at hk;rw[hd]at hk;rcases hs with⟨kk,rfl⟩|rfl
  .cases k <;> first|exact hk.elim|skip
   subst hk;have e1:=ZI rq;have e2:=ZI ra;simp[Instr.findNow,Instr.sameNow,e1,e2]
  .cases k <;> first|exact hk.elim|skip
   have e1:=YD rq;have e2:=YD ra;simp[Instr.findNow,Instr.sameNow,e1,e2]
 ne e es i q r hq rq h hr:=by
  unfold bg at hk hq;rw[hd]at hk hq;rcases hs with⟨kk,rfl⟩|rfl
  .cases k <;> first|exact hk.elim|skip
   cases q <;> first|exact hq.elim|skip
   subst hk;have hq':=hq;simp only at hq';subst hq';have e1:=ZI rq;have e2:=ZI ra;have h':¬(‹Int› :Int)=_:=λhh=>h (by rw[hh]);rw[e2]at hr ⊢;simp only[Instr.findNow,Instr.sameNow,e1,if_true];rw[beq_eq_false_iff_ne.2 (λhh=>h' hh.symm)];exact hr
  .cases k <;> first|exact hk.elim|skip
   cases q <;> first|exact hq.elim|skip
   have e1:=YD rq;have e2:=YD ra;have h':¬(‹Bool› :Bool)=_:=λhh=>h (by rw[hh]);rw[e2]at hr ⊢;simp only[Instr.findNow,Instr.sameNow,e1];rw[beq_eq_false_iff_ne.2 (λhh=>h' hh.symm)];exact hr
theorem RP{P:yg}{J:Sg}{kt:yc}{k:Pl}{F:yL MapEntry->Nat->yO (Nat×yh)->Prop}(hF:dg P J kt k F):∀(bw:yL (Pl×Pl))(es:yL MapEntry)(i:Nat)(r:yO Pl),fN J bw es->Q7 P kt bw->WN bw k r->
 (r=ae->F es i ae)/\∀v,r=ab v->∃(j:Nat)(u:yh),F es i (ab (j,u))/\yJ J (.p v) u
 |[],[],i,r,_,_,h=>by
  simp only[WN]at h;subst h
  exact⟨λ_=>hF.nil i,λv hv=>by cases hv⟩
 |[],_::_,_,_,h,_,_=>h.elim
 |_::_,[],_,_,h,_,_=>h.elim
 |q::l,e::es,i,r,⟨r1,r2,r3⟩,hf,h=>by
  have hq:=hf q (yao ..);simp only[WN]at h;rcases h with⟨h1,rfl⟩|⟨h1,h2⟩
  .exact⟨λh=>(by cases h),λv hv=>⟨i,e.val,hF.eq e es i q.1 hq r1 h1,by cases hv;exact r2⟩⟩
  .obtain⟨a1,a2⟩:=RP hF l es (i+1) r r3 (λz hz=>hf z (yas _ hz)) h2;refine⟨λh=>hF.ne e es i q.1 ae hq r1 h1 (a1 h),λv hv=> ?_⟩;obtain⟨j,u,b1,b2⟩:=a2 v hv;exact⟨j,u,hF.ne e es i q.1 _ hq r1 h1 b1,b2⟩
theorem AC{P:yg}{J:Sg}{kt:yc}{k v:Pl}{F:yL MapEntry->Nat->yO (Nat×yh)->Prop}(hF:dg P J kt k F):∀(bw:yL (Pl×Pl))(es:yL MapEntry)(i:Nat)(l:yL (Pl×Pl)),fN J bw es->Q7 P kt bw->Qw bw k v l->
 (∃(j:Nat)(e:MapEntry),F es i (ab (i+j,e.val))/\es[j]? =ab e/\yJ J (.p k) e.key/\∀e',yJ J (.p k) e'.key->yJ J (.p v) e'.val->fN J l (es.set j e'))\/
 (F es i ae/\∀e',yJ J (.p k) e'.key->yJ J (.p v) e'.val->fN J l (es++[e']))
 |[],[],i,l,_,_,h=>by
  simp only[Qw]at h;subst h
  exact .inr ⟨hF.nil i,λe' h1 h2=>⟨h1,h2,au⟩⟩
 |[],_::_,_,_,h,_,_=>h.elim
 |_::_,[],_,_,h,_,_=>h.elim
 |q::r,e::es,i,l,⟨r1,r2,r3⟩,hf,h=>by
  have hq:=hf q (yao ..);simp only[Qw]at h;rcases h with⟨h1,rfl⟩|⟨h1,l',rfl,h2⟩
  .exact .inl ⟨0,e,hF.eq e es i q.1 hq r1 h1,rfl,by rw[h1];exact r1,λe' k1 k2=>⟨k1,k2,r3⟩⟩
  .rcases AC hF r es (i+1) l' r3 (λz hz=>hf z (yas _ hz)) h2 with⟨j,e2,b1,b2,b3,b4⟩|⟨b1,b2⟩
   .exact .inl ⟨j+1,e2,by have:=hF.ne e es i q.1 _ hq r1 h1 b1;rwa [show i+1+j=i+(j+1) by omega]at this,by simpa using b2,b3,λe' k1 k2=>⟨r1,r2,b4 e' k1 k2⟩⟩
   .exact .inr ⟨hF.ne e es i q.1 _ hq r1 h1 b1,λe' k1 k2=>⟨r1,r2,b2 e' k1 k2⟩⟩
theorem RQ{P:yg}{J:Sg}{kt:yc}{k:Pl}{F:yL MapEntry->Nat->yO (Nat×yh)->Prop}(hF:dg P J kt k F):∀(bw:yL (Pl×Pl))(es:yL MapEntry)(i:Nat)(l:yL (Pl×Pl)),fN J bw es->Q7 P kt bw->fS bw k l->
 (∃(j:Nat)(u:yh),F es i (ab (i+j,u))/\j < es.length/\fN J l (es.eraseIdx j))\/(F es i ae/\fN J l es)
 |[],[],i,l,_,_,h=>by
  simp only[fS]at h;subst h
  exact .inr ⟨hF.nil i,au⟩
 |[],_::_,_,_,h,_,_=>h.elim
 |_::_,[],_,_,h,_,_=>h.elim
 |q::r,e::es,i,l,⟨r1,r2,r3⟩,hf,h=>by
  have hq:=hf q (yao ..);simp only[fS]at h;rcases h with⟨h1,rfl⟩|⟨h1,l',rfl,h2⟩
  .exact .inl ⟨0,e.val,hF.eq e es i q.1 hq r1 h1,by simp,r3⟩
  .rcases RQ hF r es (i+1) l' r3 (λz hz=>hf z (yas _ hz)) h2 with⟨j,u,b1,b2,b3⟩|⟨b1,b2⟩
   .exact .inl ⟨j+1,u,by have:=hF.ne e es i q.1 _ hq r1 h1 b1;rwa [show i+1+j=i+(j+1) by omega]at this,by simpa using b2,⟨r1,r2,b3⟩⟩
   .exact .inr ⟨hF.ne e es i q.1 _ hq r1 h1 b1,⟨r1,r2,b2⟩⟩
theorem RR{J:Sg}{es:yL MapEntry}(h:gq J [] es):fN J [] es:=by
 obtain⟨l,p,_,r⟩:=h;rw[List.Perm.eq_nil p]at r;exact r
theorem RU{J:Sg}{q:Pl×Pl}{es:yL MapEntry}(h:fN J [q] es):gq J [q] es:=⟨_,.refl _,by simp,h⟩
theorem RV{k v:Pl}:∀{l:yL (Pl×Pl)},WN l k (ab v)->(k,v)∈l
 |[],h=>by simp[WN]at h
 |q::r,h=>by
  simp only[WN]at h;rcases h with⟨rfl,h⟩|⟨_,h⟩
  .cases h;exact yao ..
  .exact yas _ (RV h)
theorem RW{k:Pl}:∀{l:yL (Pl×Pl)},WN l k ae->∀q,q∈l->q.1≠k
 |[],_,q,hq=>by cases hq
 |x::r,h,q,hq=>by
  simp only[WN]at h;rcases h with⟨_,h⟩|⟨h1,h⟩
  .cases h
  .rcases yaw.1 hq with rfl|hq
   .exact λe=>h1 e.symm
   .exact RW h q hq
theorem RX{k v:Pl}:∀{l:yL (Pl×Pl)},(l.map (·.1)).Nodup->(k,v)∈l->WN l k (ab v)
 |[],_,h=>by cases h
 |q::r,nd,h=>by
  simp only[WN];rw[yad,List.nodup_cons]at nd;rcases yaw.1 h with rfl|h
  .exact .inl ⟨rfl,rfl⟩
  .refine .inr ⟨λe=>nd.1 ?_,RX nd.2 h⟩;rw[<-e];exact yby.2 ⟨_,h,rfl⟩
theorem RY{k:Pl}:∀{l:yL (Pl×Pl)},(∀q,q∈l->q.1≠k)->WN l k ae
 |[],_=>by simp[WN]
 |q::r,h=>by
  simp only[WN];exact .inr ⟨λe=>h q (yao ..) e.symm,RY λx hx=>h x (yas _ hx)⟩
theorem ZEe{k:Pl}{r:yO Pl}{l l':yL (Pl×Pl)}(p:l'.Perm l)(nd:(l.map (·.1)).Nodup)(h:WN l k r):WN l' k r:=by
 cases r with
 |none=>exact RY λq hq=>RW h q (p.mem_iff.1 hq)
 |some v=>exact RX ((p.map _).nodup_iff.2 nd) (p.mem_iff.2 (RV h))
section
open Classical
theorem RZ{k:Pl}:∀{l:yL (Pl×Pl)},(∀q,q∈l->q.1≠k)->(l.filter λq=>ah (q.1≠k))=l:=λh=>List.filter_eq_self.2 λq hq=>yY (h q hq)
theorem AD{k v:Pl}:∀{l m:yL (Pl×Pl)},(l.map (·.1)).Nodup->Qw l k v m->m.Perm ((k,v)::l.filter λq=>ah (q.1≠k))
 |[],m,_,h=>by
  simp only[Qw]at h;subst h
  exact .refl _
 |q::r,m,nd,h=>by
  rw[yad,List.nodup_cons]at nd;simp only[Qw]at h;rcases h with⟨rfl,rfl⟩|⟨h1,l',rfl,h⟩
  .rw[List.filter_cons_of_neg (by simp),RZ (λx hx e=>nd.1 (by rw[<-e];exact yby.2 ⟨_,hx,rfl⟩))]
  .rw[List.filter_cons_of_pos (by simpa using λe:q.1=k=>h1 e.symm)];exact((AD nd.2 h).cons q).trans (.swap _ _ _)
theorem SA(k v:Pl):∀(l:yL (Pl×Pl)),∃m,Qw l k v m
 |[]=>⟨_,rfl⟩
 |q::r=>by
  by_cases h:k=q.1
  .exact⟨_,.inl ⟨h,rfl⟩⟩
  .obtain⟨m,hm⟩:=SA k v r;exact⟨_,.inr ⟨h,m,rfl,hm⟩⟩
theorem AE{k:Pl}:∀{l m:yL (Pl×Pl)},(l.map (·.1)).Nodup->fS l k m->m=l.filter λq=>ah (q.1≠k)
 |[],m,_,h=>by
  simp only[fS]at h;subst h
  rfl
 |q::r,m,nd,h=>by
  rw[yad,List.nodup_cons]at nd;simp only[fS]at h;rcases h with⟨rfl,rfl⟩|⟨h1,l',rfl,h⟩
  .rw[List.filter_cons_of_neg (by simp),RZ (λx hx e=>nd.1 (by rw[<-e];exact yby.2 ⟨_,hx,rfl⟩))]
  .rw[List.filter_cons_of_pos (by simpa using λe:q.1=k=>h1 e.symm), <-AE nd.2 h]
theorem SB(k:Pl):∀(l:yL (Pl×Pl)),∃m,fS l k m
 |[]=>⟨_,rfl⟩
 |q::r=>by
  by_cases h:k=q.1
  .exact⟨_,.inl ⟨h,rfl⟩⟩
  .obtain⟨m,hm⟩:=SB k r;exact⟨_,.inr ⟨h,m,rfl,hm⟩⟩
theorem SC{k:Pl}{l:yL (Pl×Pl)}(nd:(l.map (·.1)).Nodup):((l.filter λq=>ah (q.1≠k)).map (·.1)).Nodup:=nd.sublist ((List.filter_sublist (l:=l)).map _)
theorem ZEf{k v:Pl}{l l' m:yL (Pl×Pl)}(p:l'.Perm l)(nd:(l.map (·.1)).Nodup)(h:Qw l k v m):(m.map (·.1)).Nodup/\∃m',Qw l' k v m'/\m'.Perm m:=by
 have nd':=(p.map (·.1)).nodup_iff.2 nd;obtain⟨m',hm⟩:=SA k v l';have e:=AD nd h;refine⟨(e.map _).nodup_iff.2 ?_,m',hm,(AD nd' hm).trans ((List.Perm.cons _ (p.filter _)).trans e.symm)⟩;rw[yad,List.nodup_cons];refine⟨λhk=> ?_,SC nd⟩;obtain⟨q,h1,h2⟩:=yby.1 hk;have:=(List.mem_filter.1 h1).2;simp at this;exact this h2
theorem ZEg{k:Pl}{l l' m:yL (Pl×Pl)}(p:l'.Perm l)(nd:(l.map (·.1)).Nodup)(h:fS l k m):(m.map (·.1)).Nodup/\∃m',fS l' k m'/\m'.Perm m:=by
 have nd':=(p.map (·.1)).nodup_iff.2 nd;obtain⟨m',hm⟩:=SB k l';rw[AE nd h];exact⟨SC nd,m',hm,by rw[AE nd' hm];exact p.filter _⟩
end
theorem SD{P:yg}{J:Sg}{kt:yc}{k:Pl}{F:yL MapEntry->Nat->yO (Nat×yh)->Prop}(hF:dg P J kt k F)(bw:yL (Pl×Pl))(es:yL MapEntry)(i:Nat)(r:yO Pl)(h:gq J bw es)(hf:Q7 P kt bw)(hg:WN bw k r):
 (r=ae->F es i ae)/\∀v,r=ab v->∃(j:Nat)(u:yh),F es i (ab (j,u))/\yJ J (.p v) u:=by
 obtain⟨l,p,nd,hr⟩:=h;exact RP hF l es i r hr (λq hq=>hf q (p.mem_iff.1 hq)) (ZEe p nd hg)
theorem SE{P:yg}{J:Sg}{kt:yc}{k v:Pl}{F:yL MapEntry->Nat->yO (Nat×yh)->Prop}(hF:dg P J kt k F)(bw:yL (Pl×Pl))(es:yL MapEntry)(i:Nat)(l:yL (Pl×Pl))(h:gq J bw es)(hf:Q7 P kt bw)(hp:Qw bw k v l):
 (∃(j:Nat)(e:MapEntry),F es i (ab (i+j,e.val))/\es[j]? =ab e/\yJ J (.p k) e.key/\∀e',yJ J (.p k) e'.key->yJ J (.p v) e'.val->gq J l (es.set j e'))\/
 (F es i ae/\∀e',yJ J (.p k) e'.key->yJ J (.p v) e'.val->gq J l (es++[e'])):=by
 obtain⟨l',p,nd,hr⟩:=h;obtain⟨nd2,m',hm,p2⟩:=ZEf p nd hp;rcases AC hF l' es i m' hr (λq hq=>hf q (p.mem_iff.1 hq)) hm with⟨j,e,a1,a2,a3,a4⟩|⟨a1,a2⟩
 .exact .inl ⟨j,e,a1,a2,a3,λe' h1 h2=>⟨m',p2,nd2,a4 e' h1 h2⟩⟩
 .exact .inr ⟨a1,λe' h1 h2=>⟨m',p2,nd2,a2 e' h1 h2⟩⟩
theorem ZL5{P:yg}{J:Sg}{kt:yc}{k:Pl}{F:yL MapEntry->Nat->yO (Nat×yh)->Prop}(hF:dg P J kt k F)(bw:yL (Pl×Pl))(es:yL MapEntry)(i:Nat)(l:yL (Pl×Pl))(h:gq J bw es)(hf:Q7 P kt bw)(hp:fS bw k l):
 (∃(j:Nat)(u:yh),F es i (ab (i+j,u))/\j < es.length/\gq J l (es.eraseIdx j))\/(F es i ae/\gq J l es):=by
 obtain⟨l',p,nd,hr⟩:=h;obtain⟨nd2,m',hm,p2⟩:=ZEg p nd hp;rcases RQ hF l' es i m' hr (λq hq=>hf q (p.mem_iff.1 hq)) hm with⟨j,u,a1,a2,a3⟩|⟨a1,a2⟩
 .exact .inl ⟨j,u,a1,a2,m',p2,nd2,a3⟩
 .exact .inr ⟨a1,m',p2,nd2,a2⟩
theorem nY{P:yg}{J:Sg}{kt:yc}{k:Pl}{a:yh}(hkt:gX P kt=af)(hk:bg P 20 kt k)(ra:yJ J (.p k) a):
 ∃F,dg P J kt k F/\∀es r,F es 0 r->(Instr.findKey kt a es).run P J.w=.ok r J.w:=by
 unfold gX at hkt;split at hkt
 .rename_i q hu;exact⟨_,RO hu (.inl ⟨_,rfl⟩) hk ra,λes r h=>Go.MapKept.run_findKey hu h⟩
 .rename_i hu;exact⟨_,RO hu (.inr rfl) hk ra,λes r h=>Go.MapKept.run_findKey hu h⟩
 .rename_i n e hu;exact⟨_,RN hk ra,λes r h=>by rw[run_findKey_eq J.w (by rw[hu])];exact h⟩
 .rename_i fs hu;exact⟨_,RN hk ra,λes r h=>by rw[run_findKey_eq J.w (by rw[hu])];exact h⟩
 .cases hkt
theorem mE{J:Sg}{id:Nat}{v:yh}(h:yJ J (.mp id) v):∃b,J.m[id]? =ab (ab b)/\v=.map (ab b):=by
 rw[Ze rfl]at h;simp only[yH]at h;obtain⟨b,h1,_,h2⟩:=h;exact⟨b,h1,by simpa using h2⟩
theorem AF{J:Sg}:∀(l:yL (Pl×Pl))(es:yL MapEntry),fN J l es->es.length=l.length
 |[],[],_=>rfl
 |[],_::_,h=>h.elim
 |_::_,[],h=>h.elim
 |_::l,_::es,h=>by rw[yah,yah,AF l es h.2.2]
theorem SF{es:Array MapEntry}{clock:Nat}(h:jY es clock)(j:Nat){f:MapEntry->MapEntry}(hf:∀e,(f e).born=e.born):jY (es.modify j f) clock:=by
 have key:∀(q:Nat)en,(es.modify j f)[q]? =ab en->∃en0,es[q]? =ab en0/\en.born=en0.born:=by
  intro q en hq;rw[Array.getElem?_modify]at hq;split at hq
  .obtain⟨e0,h1,h2⟩:=yp.1 hq;exact⟨e0,h1,by rw[<-h2,hf]⟩
  .exact⟨en,hq,rfl⟩
 refine⟨λq en hq=> ?_,λq q' en en' hq hq' he=> ?_⟩
 .obtain⟨e0,h1,h2⟩:=key q en hq;rw[h2];exact h.1 q e0 h1
 .obtain⟨e0,h1,h2⟩:=key q en hq;obtain⟨e1,h3,h4⟩:=key q' en' hq';exact h.2 q q' e0 e1 h1 h3 (by rw[<-h2, <-h4,he])
theorem tW{es:Array MapEntry}{clock:Nat}(h:jY es clock){e:MapEntry}(he:e.born=clock):jY (es.push e) (clock+1):=by
 have key:∀(q:Nat)en,(es.push e)[q]? =ab en->(es[q]? =ab en/\en.born < clock)\/(q=es.size/\en.born=clock):=by
  intro q en hq;rw[Array.getElem?_push]at hq;split at hq
  .rename_i h0;cases hq;exact .inr ⟨h0,he⟩
  .exact .inl ⟨hq,h.1 q en hq⟩
 refine⟨λq en hq=> ?_,λq q' en en' hq hq' hb=> ?_⟩
 .rcases key q en hq with⟨_,h1⟩|⟨_,h1⟩ <;> omega
 .rcases key q en hq with⟨h1,h2⟩|⟨h1,h2⟩ <;> rcases key q' en' hq' with⟨h3,h4⟩|⟨h3,h4⟩
  .exact h.2 q q' en en' h1 h3 hb
  .omega
  .omega
  .omega
theorem ZEh{es:Array MapEntry}{clock:Nat}(h:jY es clock)(j:Nat):jY (es.eraseIdxIfInBounds j) clock:=by
 have key:∀(q:Nat)en,(es.eraseIdxIfInBounds j)[q]? =ab en->es[if q < j then q else q+1]? =ab en:=by
  intro q en hq;rw[<-ybt,Array.toList_eraseIdxIfInBounds,List.getElem?_eraseIdx]at hq;rw[<-ybt];split at hq <;> rename_i h0
  .rw[yW h0];exact hq
  .rw[yX h0];exact hq
 refine⟨λq en hq=>h.1 _ en (key q en hq),λq q' en en' hq hq' hb=> ?_⟩;have:=h.2 _ _ en en' (key q en hq) (key q' en' hq') hb;split at this <;> split at this <;> omega
theorem XX{P:yg}{w:yz}{b:Nat}{es:Array MapEntry}{clock:Nat}(h:w.heap[b]? =ab (.map es clock)):(getObj b).run P w=.ok (.map es clock) w:=Go.MapKept.run_getObj_map h
section
variable{P:yg}{o:Oper}{a:Act}{J:Sg}{ts:yL Dv}{hs hs':yL al}{C:yL Prop}{d:Dv}{H':yL ax}
theorem SG{J:Sg}{x y:Dv}{u v:yh}(h1:yJ J x u)(h2:yJ J y v):yJ J (.bj [x,y]) (.tuple #[u,v]):=by
 rw[Ze rfl];simp only[yH];exact⟨#[u,v],rfl,by simp only[aE];exact⟨u,[v],rfl,h1,v,[],rfl,h2,rfl⟩⟩
theorem ZIR(ok:Ok J)(yM:aD J ts a){t:yc}{x ix:yn}{comma:Bool}(ho:o.op=.lookup t x ix comma)(h:bD P o ts J.H hs=ab (C,d,hs'))(hc:bc C):YH P o a J d J.H:=by
 simp only[bD,ho]at h;have hx:=Zj (P:=P) yM t x;split at h
 .rename_i kt et id hu hxa;rw[hxa]at hx;obtain⟨b,hm,hv⟩:=mE hx;have hix:=Zj (P:=P) yM kt ix;split at h
  .rename_i k t' bw v hs1 hk hH;rw[hk]at hix;obtain⟨b',es,clock,h1,h2,h3,h3b⟩:=ok.dc id _ _ hH hm;cases h1;split at h
   .rename_i hkt;simp only[yj,yl]at h;obtain⟨rfl,rfl,rfl⟩:=h;obtain⟨c1,c2,c3,_⟩:=hc;obtain⟨F,hF,zB⟩:=nY (P:=P) hkt c1 hix;obtain⟨_,g2⟩:=SD hF bw es.toList 0 _ h3 c2 c3;obtain⟨j,u,g3,g4⟩:=g2 v rfl;have g5:=zB _ _ g3;have g6:=Wl (em:=es.isEmpty) 20 kt k _ c1 hix 9980
    have hrunL:(Instr.lookup t (a.eval x) (a.eval ix) comma).run P J.w=.ok (if comma then .tuple #[u,.bool af] else u) J.w:=by
     simp only[Instr.lookup,Sem.run_bind,run_underlying hu,Result.andThen_ok,hv,XX h2,Sem.run_pure,g6,g5]
    refine Zh ok (by simp[execOp,ho,hrunL];rfl) ?_;cases comma
    .exact g4
    .exact SG g4 (Yk _)
   .cases h
  .rename_i k t' bw hs1 hk hH;rw[hk]at hix;obtain⟨b',es,clock,h1,h2,h3,h3b⟩:=ok.dc id _ _ hH hm;cases h1;split at h
   .rename_i hkt;simp only[yi]at hkt;simp only[yj,yl]at h;obtain⟨rfl,rfl,rfl⟩:=h;obtain⟨c1,c2,c3,_⟩:=hc;obtain⟨F,hF,zB⟩:=nY (P:=P) hkt.1 c1 hix;obtain⟨g1,_⟩:=SD hF bw es.toList 0 _ h3 c2 c3;have g5:=zB _ _ (g1 rfl);have g6:=Wl (em:=es.isEmpty) 20 kt k _ c1 hix 9980
    obtain⟨hz,hkt2⟩:∃z,(zeroValue et).run P J.w=.ok z J.w/\yJ J (YP P et) z:=by
     have h9:=hkt.2;unfold nL at h9;split at h9
     .rename_i i hi
      cases hzz:i.zero with
      |none=>simp[hzz]at h9
      |some z=>
       refine⟨z,by simp[zeroValue,typeInfo,hi,hzz], ?_⟩;unfold YP;rw[hi];simp only[hzz];exact WW
     .cases h9
    have hrunL:(Instr.lookup t (a.eval x) (a.eval ix) comma).run P J.w=.ok (if comma then .tuple #[hz,.bool ag] else hz) J.w:=by
     simp only[Instr.lookup,Sem.run_bind,run_underlying hu,Result.andThen_ok,hv,XX h2,Sem.run_pure,g6,g5,hkt2.1]
    refine Zh ok (by simp[execOp,ho,hrunL];rfl) ?_;cases comma
    .exact hkt2.2
    .exact SG hkt2.2 (Yk _)
   .cases h
  .cases h
 .cases h
theorem ZIS(ok:Ok J)(yM:aD J ts a){c:Call}(ho:o.op=.call c)(zL:c.callee=.builtin .len)(h:bD P o ts J.H hs=ab (C,d,hs'))(hc:bc C):YH P o a J d J.H:=by
 simp only[bD,ho,zL]at h;split at h
 .rename_i x t yR htys;have hx:=Zj (P:=P) yM t x;split at h
  .rename_i kt et id hu hxa;rw[hxa]at hx;obtain⟨b,hm,hv⟩:=mE hx;split at h
   .rename_i t' bw hH;obtain⟨b',es,clock,h1,h2,h3,h3b⟩:=ok.dc id _ _ hH hm;cases h1;simp only[yj,yl]at h;obtain⟨rfl,rfl,rfl⟩:=h
    have hl:es.toList.length=bw.length:=by
     obtain⟨l',p,_,hr⟩:=h3;rw[AF _ _ hr,p.length_eq]
    refine Zh ok (mz ho zL yR htys (v:=goInt es.size) (by rw[hv];simp[Builtin.len_,run_underlying hu,XX h2])) ?_;rw[<-yau,hl];exact Zw _ _
   .cases h
  .cases h
 .cases h
theorem ZHH(ok:Ok J){t:yc}(ho:o.op=.makeMap t ae):YH P o a J (.mp J.H.length) (J.H++[.map t []]):=by
 let J':Sg:={ J with m:=J.m++[ab J.w.heap.size],H:=J.H++[.map t []],w:=J.w.alloc (.map #[] 0)};have zV:J'.w.heap[J.w.heap.size]? =ab (.map #[] 0):=heap_alloc_new J.w _
 have hmlast:J'.m[J.H.length]? =ab (ab J.w.heap.size):=by
  show(J.m++[ab J.w.heap.size])[J.H.length]? =_;rw[yam (by rw[ok.len];exact ym _),ok.len];simp
 obtain⟨to,ok'⟩:=Wj (J':=J') ok rfl rfl rfl rfl (World.grownBy_alloc J.w (.map #[] 0) ae) (.inr ⟨_,rfl,ym _,by simp[J']⟩)
  (λleaf=>⟨J.w.heap.size, #[],0,rfl,zV,⟨[],.refl _,List.nodup_nil,au⟩,by simp[jY]⟩)
 refine ZK (J':=J') (v:=.map (ab J.w.heap.size)) ?_ to ok' ?_
 .have:(Instr.makeMap t ae).run P J.w=.ok (.map (ab J.w.heap.size)) (J.w.alloc (.map #[] 0)):=rfl;simp[execOp,ho,this,J']
 .rw[Ze rfl];simp only[yH];exact⟨_,hmlast,⟨t,[],by simp[J']⟩,rfl⟩
theorem lg(ok:Ok J){id b:Nat}{t:yc}{bw l:yL (Pl×Pl)}{es es':Array MapEntry}{clock clock':Nat}(hH:J.H[id]? =ab (.map t bw))(hm:J.m[id]? =ab (ab b))(hb:J.w.heap[b]? =ab (.map es clock))
 (hl:gq J l es'.toList) (hbo:jY es' clock'):
 let J':Sg:={ J with m:=J.m.set id (ab b),H:=J.H.set id (.map t l),w:={ J.w with heap:=J.w.heap.setIfInBounds b (.map es' clock')}}
 To J J'/\Ok J':=by
 intro J';obtain⟨g1,g2⟩:=Go.MapKept.heap_set (w:=J.w) (o':=.map es' clock') hb
 exact YX (J':=J') (mi:=ab b) (mi':=ab b) ok hH hm rfl rfl rfl rfl rfl rfl rfl (by simp[J'])
  (λj hj hne=>g2 j (λhh=>hne (by rw[hh]))) (λb' o v hb' hu hc=>by
    cases hb';simp[World.cell?,hb]at hc) (λo _ hu=>by cases hu) (.inl rfl) (λ⟨d,st,h⟩=>by cases h) (λ_=>⟨rfl,t,l,rfl⟩)
  (λs e xs h=>by cases h) (λleaf=>⟨b,es',clock',rfl,g1,OW leaf hl,hbo⟩)
theorem ZBV(ok:Ok J)(yM:aD J ts a){t kt et:yc}{m k x:yn}{id:Nat}{t':yc}{kk v:Pl}{bw l:yL (Pl×Pl)}(ho:o.op=.mapUpdate t m k x)(hu:P.underlying t=ab (.map kt et))
 (hx:Zs P ts t m=.mp id) (hk:Zs P ts kt k=.p kk) (hv:(Zs P ts et x).flat=ab v) (hH:J.H[id]? =ab (.map t' bw)) (hkt:gX P kt=af) (c1:bg P 20 kt kk) (c2:Q7 P kt bw) (c3:Qw bw kk v.soft l):
 YH P o a J .ao (J.H.set id (.map t' l)):=by
 have hxv:=Zj (P:=P) yM t m;rw[hx]at hxv;obtain⟨b,hm,hmv⟩:=mE hxv;have hkv:=Zj (P:=P) yM kt k;rw[hk]at hkv;have hvv:=(Wk.p (kZ v)).dv (tA hv (Zj (P:=P) yM et x));obtain⟨b',es,clock,h1,h2,h3,h3b⟩:=ok.dc id _ _ hH hm;cases h1;obtain⟨F,hF,zB⟩:=nY (P:=P) hkt c1 hkv;have g6:=Wl (em:=ag) 20 kt kk _ c1 hkv 9980;rcases SE hF bw es.toList 0 l h3 c2 c3 with⟨j,e,f1,f2,f3,f4⟩|⟨f1,f2⟩
 .have g5:=zB _ _ f1;rw[yaz]at g5;have he:es[j]? =ab e:=by rw[<-ybt];exact f2
  have hsame:e.key=a.eval k:=AB (mD 20 kt kk c1) f3 hkv
  have hbits:Instr.sameBits 10000 e.key (a.eval k)=af:=by
   rw[hsame];exact RK (mD 20 kt kk c1) hkv
  have hes:(es.modify j λe=>{ e with key:=a.eval k,val:=a.eval x}).toList=es.toList.set j { e with key:=a.eval k,val:=a.eval x}:=by
   apply ybe;intro i;rw[ybt,Array.getElem?_modify,ybl,ybt];by_cases hij:j=i
   .subst hij;have hlt:j < es.toList.length:=by simpa using(ycw.1 he).1
    simp[he,hlt];exact(ycw.1 he).1
   .simp[hij]
  obtain⟨to,ok'⟩:=lg (es':=es.modify j λe=>{ e with key:=a.eval k,val:=a.eval x}) (clock':=clock) ok hH hm h2 (l:=l) (by rw[hes];exact f4 _ hkv hvv) (SF h3b j λe=>rfl);refine nX ?_ to ok';simp only[execOp,ho,hmv,Instr.mapUpdate,Sem.run_bind,run_underlying hu,Result.andThen_ok,XX h2,g6,g5,Instr.keyThatStays,he,Option.map_some,Option.getD_some,hbits,if_true,Sem.run_pure,Go.MapKept.run_setObj_map _ h2]
 .have g5:=zB _ _ f1;obtain⟨to,ok'⟩:=lg (es':=es.push { key:=a.eval k,val:=a.eval x,born:=clock}) (clock':=clock+1) ok hH hm h2 (l:=l) (by rw[Array.toList_push];exact f2 _ hkv hvv) (tW h3b rfl);refine nX ?_ to ok';simp only[execOp,ho,hmv,Instr.mapUpdate,Sem.run_bind,run_underlying hu,Result.andThen_ok,XX h2,g6,g5,Sem.run_pure,Go.MapKept.run_setObj_map _ h2]
theorem ZIT(ok:Ok J)(yM:aD J ts a){t kt et:yc}{m k x:yn}{id:Nat}{t':yc}{kk v:Pl}{bw l:yL (Pl×Pl)}(ho:o.op=.insert t m k x)(hu:P.underlying t=ab (.map kt et))
 (hx:Zs P ts t m=.mp id) (hk:Zs P ts kt k=.p kk) (hv:(Zs P ts et x).flat=ab v) (hH:J.H[id]? =ab (.map t' bw)) (hkt:gX P kt=af) (c1:bg P 20 kt kk) (c2:Q7 P kt bw) (c3:Qw bw kk v.soft l):
 YH P o a J .ao (J.H.set id (.map t' l)):=by
 have hxv:=Zj (P:=P) yM t m;rw[hx]at hxv;obtain⟨b,hm,hmv⟩:=mE hxv;have hkv:=Zj (P:=P) yM kt k;rw[hk]at hkv;have hvv:=(Wk.p (kZ v)).dv (tA hv (Zj (P:=P) yM et x));obtain⟨b',es,clock,h1,h2,h3,h3b⟩:=ok.dc id _ _ hH hm;cases h1;obtain⟨F,hF,zB⟩:=nY (P:=P) hkt c1 hkv;have g6:=Wl (em:=ag) 20 kt kk _ c1 hkv 9980;rcases SE hF bw es.toList 0 l h3 c2 c3 with⟨j,e,f1,f2,f3,f4⟩|⟨f1,f2⟩
 .have g5:=zB _ _ f1;rw[yaz]at g5;have he:es[j]? =ab e:=by rw[<-ybt];exact f2
  have hsame:e.key=a.eval k:=AB (mD 20 kt kk c1) f3 hkv
  have hbits:Instr.sameBits 10000 e.key (a.eval k)=af:=by
   rw[hsame];exact RK (mD 20 kt kk c1) hkv
  have hes:(es.modify j λe=>{ e with key:=a.eval k,val:=a.eval x}).toList=es.toList.set j { e with key:=a.eval k,val:=a.eval x}:=by
   apply ybe;intro i;rw[ybt,Array.getElem?_modify,ybl,ybt];by_cases hij:j=i
   .subst hij;have hlt:j < es.toList.length:=by simpa using(ycw.1 he).1
    simp[he,hlt];exact(ycw.1 he).1
   .simp[hij]
  obtain⟨to,ok'⟩:=lg (es':=es.modify j λe=>{ e with key:=a.eval k,val:=a.eval x}) (clock':=clock) ok hH hm h2 (l:=l) (by rw[hes];exact f4 _ hkv hvv) (SF h3b j λe=>rfl);refine nX ?_ to ok';simp only[execOp,ho,hmv,Instr.mapUpdate,Sem.run_bind,run_underlying hu,Result.andThen_ok,XX h2,g6,g5,Instr.keyThatStays,he,Option.map_some,Option.getD_some,hbits,if_true,Sem.run_pure,Go.MapKept.run_setObj_map _ h2]
 .have g5:=zB _ _ f1;obtain⟨to,ok'⟩:=lg (es':=es.push { key:=a.eval k,val:=a.eval x,born:=clock}) (clock':=clock+1) ok hH hm h2 (l:=l) (by rw[Array.toList_push];exact f2 _ hkv hvv) (tW h3b rfl);refine nX ?_ to ok';simp only[execOp,ho,hmv,Instr.mapUpdate,Sem.run_bind,run_underlying hu,Result.andThen_ok,XX h2,g6,g5,Sem.run_pure,Go.MapKept.run_setObj_map _ h2]
theorem SH{x y:yn}{t u:yc}{c:Call}{w':yz}(ho:o.op=.call c)(hc:c.callee=.builtin .delete)(yR:c.args.toList=[x,y])(htys:c.argTypes.toList=[t,u]){v:yh}
 (h:(Builtin.delete_ #[t,u] o.type #[a.eval x,a.eval y]).run P J.w=.ok v w'):(execOp a.eval o).run P J.w=.ok (.value v) w':=by
 have h1:c.args= #[x,y]:=by rw[<-ycb (xs:=c.args),yR]
 have h2:c.argTypes= #[t,u]:=by rw[<-ycb (xs:=c.argTypes),htys]
 simp[execOp,ho,resolve,hc,h1,h2,invoke,builtin,h]
theorem ZIU(ok:Ok J)(yM:aD J ts a){c:Call}{t u kt et:yc}{m k:yn}{id:Nat}{t':yc}{kk:Pl}{bw l:yL (Pl×Pl)}(ho:o.op=.call c)(zL:c.callee=.builtin .delete)(yR:c.args.toList=[m,k])(htys:c.argTypes.toList=[t,u])
 (hu:P.underlying t=ab (.map kt et)) (hx:Zs P ts t m=.mp id) (hk:Zs P ts u k=.p kk) (hH:J.H[id]? =ab (.map t' bw)) (hkt:gX P kt=af) (c1:bg P 20 kt kk) (c2:Q7 P kt bw) (c3:fS bw kk l):
 YH P o a J (.bj []) (J.H.set id (.map t' l)):=by
 have hxv:=Zj (P:=P) yM t m;rw[hx]at hxv;obtain⟨b,hm,hmv⟩:=mE hxv;have hkv:=Zj (P:=P) yM u k;rw[hk]at hkv;obtain⟨b',es,clock,h1,h2,h3,h3b⟩:=ok.dc id _ _ hH hm;cases h1;obtain⟨F,hF,zB⟩:=nY (P:=P) hkt c1 hkv;have g6:=Wl (em:=es.isEmpty) 20 kt kk _ c1 hkv 9980
 have hnil:∀{J':Sg},yJ J' (.bj []) (.tuple #[]):=by
  intro J';rw[Ze rfl];simp only[yH];exact⟨#[],rfl,by simp[aE]⟩
 rcases ZL5 hF bw es.toList 0 l h3 c2 c3 with⟨j,q,f1,f2,f3⟩|⟨f1,f2⟩
 .have g5:=zB _ _ f1;rw[yaz]at g5;obtain⟨to,ok'⟩:=lg (es':=es.eraseIdxIfInBounds j) (clock':=clock) ok hH hm h2 (l:=l) (by rw[Array.toList_eraseIdxIfInBounds];exact f3) (ZEh h3b j);refine ZK (v:=.tuple #[]) (SH ho zL yR htys ?_) to ok' hnil;simp[Builtin.delete_,run_underlying hu,hmv,XX h2,g6,g5,Go.MapKept.run_setObj_map _ h2]
 .have g5:=zB _ _ f1;obtain⟨to,ok'⟩:=lg (es':=es) (clock':=clock) ok hH hm h2 (l:=l) f2 h3b;refine ZK (v:=.tuple #[]) (SH ho zL yR htys ?_) to ok' hnil;simp[Builtin.delete_,run_underlying hu,hmv,XX h2,g6,g5,Go.MapKept.run_setObj_map _ h2]
end
end Go.Ev
end
section
namespace Go.Ev
section
variable{P:yg}{o:Oper}{a:Act}{J:Sg}{ts:yL Dv}{hs hs':yL al}{C:yL Prop}{d:Dv}{H':yL ax}
theorem tX{P:yg}{w:yz}{t e:yc}{i:TypeInfo}{z:yh}{n n':Int}(hu:P.underlying t=ab (.slice e))(hi:P.info? e=ab i)(hz:i.zero=ab z)(h0:0<=n)(h1:n<=n')(h2:n'.toNat*i.bytes<=Zr)(h3:n'.toNat<=maxLen):
 ∃cells:Array yh,(Instr.makeSlice t (.int .i64 n) (.int .i64 n')).run P w=.ok (.slice (ab ⟨w.heap.size,0,ae⟩) n.toNat n'.toNat) (w.alloc (.cells cells e))/\cells.size=n'.toNat*i.size/\
  (i.size=1->∀k,k < n'.toNat->cells[k]? =ab (z.cells[k % z.cells.size]!)):=by
 have hw:∀m:Int,0<=m->m.toNat<=maxLen->IntKind.i64.wrap m=m:=λm a b=>by
  refine QR ?_;simp[maxLen]at b;simp[WT,IntKind.min,IntKind.max,IntKind.signed,IntKind.bits];omega
 have hw1:=hw n h0 (by omega);have hw2:=hw n' (by omega) h3
 have hb:¬((281474976710656:Int) < (i.bytes:Int)*n'):=by
  have e:(i.bytes:Int)*n'=((n'.toNat*i.bytes:Nat):Int):=by
   rw[Int.natCast_mul,Int.toNat_of_nonneg (by omega),Int.mul_comm]
  rw[e];simp only[Zr]at h2;omega
 have hr:¬(n'.toNat*i.bytes > roomBytes):=by
  simp only[Zr]at h2;simp only[roomBytes];omega
 by_cases hn:n'.toNat*i.size=0
 .refine⟨(Array.range (n'.toNat*i.size)).map λ_=>default, ?_,by simp,λe k hk=> ?_⟩
  .simp[Instr.makeSlice,run_underlying hu,asInt,asIntOf,typeInfo,hi,hw1,hw2,askRoom,hr,sizeOf,hn,newRow,h0,show¬n' < 0 by omega,show¬n < 0 by omega,show¬n' < n by omega,hb]
  .rw[e,Nat.mul_one]at hn;omega
 .refine⟨(Array.range (n'.toNat*i.size)).map (z.cells[· % z.cells.size]!), ?_,by simp,λe k hk=> ?_⟩
  .simp[Instr.makeSlice,run_underlying hu,asInt,asIntOf,typeInfo,hi,hw1,hw2,askRoom,hr,sizeOf,hn,newRow,h0,show¬n' < 0 by omega,show¬n < 0 by omega,show¬n' < n by omega,hb,zeroValue,hz]
  .simp[e,hk]
theorem ZHI(ok:Ok J){t e:yc}{l c:yn}{i:TypeInfo}{n n':Int}(yM:aD J ts a)(ho:o.op=.makeSlice t l c)(hu:P.underlying t=ab (.slice e))(hl:Zs P ts 0 l=.p (.int .i64 n))(hcp:Zs P ts 0 c=.p (.int .i64 n'))
 (hi:P.info? e=ab i) (hz:cf i=af) (hs0:i.size≠0) (h0:n=0) (h1:0<=n') (h2:n'.toNat*i.bytes<=Zr) (h3:n'.toNat<=maxLen):
 YH P o a J (.own J.H.length (ab af) i.size []) (J.H++[.log i.size e []]):=by
 subst h0;obtain⟨z,hzz,hzs⟩:=Qy hz;obtain⟨cells,zB,hcs,_⟩:=tX (w:=J.w) (t:=t) hu hi hzz (Int.le_refl 0) h1 h2 h3;have hlv:=ZI (hl ▸ Zj (P:=P) yM 0 l);have hcv:=ZI (hcp ▸ Zj (P:=P) yM 0 c);let J':Sg:={ J with m:=J.m++[ab J.w.heap.size],H:=J.H++[.log i.size e []],w:=J.w.alloc (.cells cells e)};have zV:J'.w.heap[J.w.heap.size]? =ab (.cells cells e (0,0)):=heap_alloc_new J.w _
 have hmlast:J'.m[J.H.length]? =ab (ab J.w.heap.size):=by
  show(J.m++[ab J.w.heap.size])[J.H.length]? =_;rw[yam (by rw[ok.len];exact ym _),ok.len];simp
 obtain⟨to,ok'⟩:=Wj (J':=J') ok rfl rfl rfl rfl (World.grownBy_alloc J.w (.cells cells e) ae) (.inr ⟨_,rfl,ym _,by simp[J']⟩)
  (λleaf=>.inr ⟨J.w.heap.size,cells,n'.toNat,rfl,zV,hcs,Nat.zero_le _,h3,λ_ hx=>(by cases hx),by simp[an]⟩)
 refine ZK (J':=J') (v:=.slice (ab ⟨J.w.heap.size,0,ae⟩) 0 n'.toNat) ?_ to ok' ?_
 .have hrun':=zB;simp only[Int.toNat_zero]at hrun';simp[execOp,ho,hlv,hcv,hrun',J']
 .rw[Ze rfl];simp only[yH];refine⟨λ_ hx=>(by cases hx),ab ⟨J.w.heap.size,0,ae⟩,n'.toNat,rfl,Nat.zero_le _,h3, ?_,(λh=>by cases h),λh=>absurd rfl h,e,[],by simp[J'],ym _,λ_=>.inr ?_⟩
  .simp[io]
  .exact⟨J.w.heap.size,cells,hmlast,rfl,zV,hcs⟩
theorem AG{w:yz}{S:Nat->Nat->Prop}{z:Pl}{v:yh}(h:aw w S z [v]):∀n,an w S (yy n z) (yy n v)
 |0=>by simp[an]
 |n+1=>by
  rw[List.replicate_succ,List.replicate_succ];simp only[an];exact⟨[v],yy n v,rfl,h,AG h n⟩
theorem ZEi(ok:Ok J){t e:yc}{l c:yn}{i:TypeInfo}{z:Pl}{n n':Int}(yM:aD J ts a)(ho:o.op=.makeSlice t l c)(hu:P.underlying t=ab (.slice e))(hl:Zs P ts 0 l=.p (.int .i64 n))(hcp:Zs P ts 0 c=.p (.int .i64 n'))
 (hi:P.info? e=ab i) (hz:cf i=af) (hs1:i.size=1) (hzp:YP P e=.p z) (hz1:z.size=1) (hza:z.isAgg=ag) (h0:n'=n) (h1:0<=n) (h2:n.toNat*i.bytes<=Zr) (h3:n.toNat<=maxLen):
 YH P o a J (.view J.H.length 0 [] 1 0 n.toNat) (J.H++[.var (.p (.arr n.toNat 1 (yy n.toNat z))) af]):=by
 subst h0;obtain⟨zv,hzz,hzs⟩:=Qy hz;obtain⟨cells,zB,hcs,hck⟩:=tX (w:=J.w) (t:=t) hu hi hzz h1 (Int.le_refl n') h2 h3;have hlv:=ZI (hl ▸ Zj (P:=P) yM 0 l);have hcv:=ZI (hcp ▸ Zj (P:=P) yM 0 c)
 have hr:yJ J (YP P e) zv:=by
  unfold YP;rw[hi];simp only[hzz];exact WW
 rw[hzp]at hr;have hr:=WO (d:=.p z) rfl hr
 obtain⟨c0,hc0⟩:∃c0,zv.cells.toList=[c0]:=by
  have h9:zv.cells.toList.length=1:=by rw[yau,hzs,hs1]
  match hq:zv.cells.toList,h9 with
  |[c0],_=>exact⟨c0,rfl⟩
 rw[hc0]at hr;have hzc:zv.cells= #[c0]:=by rw[<-ycb (xs:=zv.cells),hc0]
 have hcells:cells.toList=yy n'.toNat c0:=by
  apply ybe;intro k;rw[ybt,List.getElem?_replicate];by_cases hk:k < n'.toNat
  .rw[hck hs1 k hk,yW hk,hzc];simp[Nat.mod_one]
  .rw[yX hk];refine Array.getElem?_eq_none ?_;rw[hcs,hs1];omega
 let J':Sg:={ J with m:=J.m++[ab J.w.heap.size],H:=J.H++[.var (.p (.arr n'.toNat 1 (yy n'.toNat z))) af],w:=J.w.alloc (.cells cells e)};have zV:J'.w.heap[J.w.heap.size]? =ab (.cells cells e (0,0)):=heap_alloc_new J.w _
 have hmlast:J'.m[J.H.length]? =ab (ab J.w.heap.size):=by
  show(J.m++[ab J.w.heap.size])[J.H.length]? =_;rw[yam (by rw[ok.len];exact ym _),ok.len];simp
 have hcl:cells.toList.length=n'.toNat:=by rw[hcells];simp
 obtain⟨to,ok'⟩:=Wj (J':=J') ok rfl rfl rfl rfl (World.grownBy_alloc J.w (.cells cells e) ae) (.inr ⟨_,rfl,ym _,by simp[J']⟩)
  (λleaf=>⟨J.w.heap.size,cells,e,rfl,zV,by
    have hsz:Dv.size (.p (.arr n'.toNat 1 (yy n'.toNat z)))=n'.toNat:=by show n'.toNat*1=_;omega
    rw[hsz,ycr (by omega)];refine ZZ leaf _ _ ?_;simp only[yH,aw];refine⟨by simp,λy hy=>by rw[(List.mem_replicate.1 hy).2];exact hz1, ?_⟩;rw[hcells];simp only[yH]at hr;exact AG hr _,by
    have hsz:Dv.size (.p (.arr n'.toNat 1 (yy n'.toNat z)))=n'.toNat:=by show n'.toNat*1=_;omega
    rw[hsz, <-yau,hcl];exact ym _⟩)
 refine ZK (J':=J') (v:=.slice (ab ⟨J.w.heap.size,0,ae⟩) n'.toNat n'.toNat) ?_ to ok' ?_
 .simp[execOp,ho,hlv,hcv,zB,J']
 .rw[Ze rfl];simp only[yH];exact⟨J.w.heap.size,n'.toNat,_,hmlast,⟨.p (.arr n'.toNat 1 (yy n'.toNat z)),af,by simp[J']⟩,rfl,ym _,h3,λ_=>by simp⟩
theorem SI(ok:Ok J)(yM:aD J ts a){t:yc}{x:yn}(ho:∀w,(execOp a.eval o).run P w=.ok (.value (a.eval x)) w)(h:iM (Zs P ts t x) J.H hs=ab (C,d,H',hs'))(hc:bc C):YH P o a J d H':=by
 have hxv:=Zj (P:=P) yM t x;unfold iM at h;split at h
 .rename_i id off yQ s lo n hx;rw[hx]at hxv;obtain⟨b,c,A,hm,hv,hve,hcap,hcm,hA⟩:=mw hxv;split at h
  .rename_i dd st hH;split at h
   .rename_i C1 off' n' s' xs hs1 hg;split at h
    .rename_i hs0;subst hs0;simp only[yj,yl]at h;obtain⟨rfl,rfl,rfl,rfl⟩:=h;obtain⟨c1,c2,c3,_⟩:=Zk.1 hc;obtain⟨cs,t',p1,p2,p3,h2,h4,h5,h6,h7,h3,h8⟩:=tN ok hm hH hg c1 c2;simp only[yH,aw]at h7;obtain⟨h9,h10,h11⟩:=h7;subst h9;let J':Sg:={ J with m:=J.m.set id (ab b),H:=J.H.set id (.var dd ag)};have hmset:J'.m[id]? =ab (ab b):=aj hm;have hHset:J'.H[id]? =ab (.var dd ag):=aj hH
     obtain⟨to,ok'⟩:=YX (J':=J') (mi:=ab b) (mi':=ab b) ok hH hm rfl rfl rfl rfl rfl rfl rfl (ym _)
      (λ_ _ _=>rfl) (λ_ _ _ _ _ h=>h) (λo _ hu=>rfl) (.inl rfl) (λ_=>⟨rfl,dd,ag,rfl⟩) (λ⟨d,st,h⟩=>by cases h)
      (λs e xs h=>by cases h) (λleaf=>⟨b,cs,t',rfl,h2,ZZ leaf dd _ h3,h4⟩)
     have hcells:X7 J'.w J'.aV b off p2:=λj u hu=>by
      refine⟨h8 j u hu,.inr (ok.own id b hm),λj' e' g1 g2=> ?_⟩;have:j'=id:=ok'.inj j' id _ g1 hmset;subst this;rw[hHset]at g2;cases g2;rfl
     have h11':=aC to.leaf.cells _ _ h11
     have hsplit:xs=xs.take lo++((xs.drop lo).take n++xs.drop (lo+n)):=by
      have e1:xs.drop (lo+n)=(xs.drop lo).drop n:=by rw[List.drop_drop]
      rw[e1,ybk,ybk]
     have zW:((xs.drop lo).take n).length=n:=by rw[yae,ybq];omega
     have hsub:aU s' ((xs.drop lo).take n):=λz hz=>h10 z (ycy (ybv hz));have hr2:=ZK (P:=P) (o:=o) (a:=a) (J:=J) (J':=J') (v:=a.eval x) (d:=.p (.sl (ab af) s' ((xs.drop lo).take n))) (ho J.w) to ok';refine hr2 ?_;rw[hve]
     have hmk:=Yl (J:=J') (nn:=ab af) (A:=ab A) (c:=c) hsub (by rw[zW];exact hcap) hcm (Q6 rfl) (λh=>by cases h) (λhne=>by
      have hn:0 < n:=by
       rcases ycj n with h0|h0
       .subst h0;simp at hne
       .exact h0
      rw[hsplit]at h11';obtain⟨q1,q23,e1,r1,r23⟩:=Z9 h11';obtain⟨q2,q3,e2,r2,r3⟩:=Z9 r23
      have l1:q1.length=lo*s':=by
       rw[aK _ _ r1,aL (λz hz=>h10 z (ybv hz)),yae,yay (by omega)]
      refine⟨b,off+lo*s',q2,by rw[hA hn],r2,λj u hu=> ?_⟩
      have hj:p2[lo*s'+j]? =ab u:=by
       rw[e1,yam (by omega),l1,Nat.add_sub_cancel_left,e2,yai (yo.1 hu).1];exact hu
      have:=hcells (lo*s'+j) u hj
      rwa [<-yck]at this)
     rw[zW]at hmk;exact hmk
    .cases h
   .cases h
  .cases h
 .rename_i id v s lo n hx;rw[hx]at hxv;split at h
  .rename_i v' s' st e N s'' xs hH;split at h
   .rename_i hk;simp only[yi,yP,yT]at hk;obtain⟨⟨rfl,rfl⟩,hv⟩:=hk;subst hv;simp only[yj,yl]at h;obtain⟨rfl,rfl,rfl,rfl⟩:=h;obtain⟨A,c,hve,hcap,hcm,hA,hsy,ly,q,hr,lq,hq⟩:=tU ok hxv hH rfl hc.1;have hidlt:id < J.m.length:=by rw[ok.len];exact(yo.1 hH).1
    have hmi:J.m[id]? =ab J.m[id]:=yac hidlt;let J':Sg:={ J with m:=J.m.set id J.m[id],H:=J.H.set id (.row v' s'' ag e (.p (.arr N s'' xs)))};have hmset:J'.m[id]? =ab J.m[id]:=aj hmi;have hHset:J'.H[id]? =ab (.row v' s'' ag e (.p (.arr N s'' xs))):=aj hH
    obtain⟨to,ok'⟩:=YX (J':=J') (mi:=J.m[id]) (mi':=J.m[id]) ok hH hmi rfl rfl rfl rfl rfl rfl rfl (ym _)
     (λ_ _ _=>rfl) (λ_ _ _ _ _ h=>h) (λo _ hu=>⟨rfl,hu.2⟩) (.inl rfl) (λ⟨d,st,h⟩=>by cases h) (λ⟨d,st,h⟩=>by cases h)
     (λs e xs h=>by cases h) (λleaf=>by
       obtain⟨N',h1,h2⟩:=ok.dc id _ _ hH hmi;refine⟨N',h1, ?_⟩;rcases h2 with h2|⟨b,cur,cap,g1,g2,g3,g4,g5,g6⟩
       .exact .inl h2
       .exact .inr ⟨b,cur,cap,g1,g2,g3,g4,g5,ZZ leaf _ _ g6⟩)
     (λv s st e d h=>by cases h;exact⟨v',ag,_,rfl,ym _,λ_=>⟨rfl,λb cur _ hb=>⟨cur,hb,rfl⟩⟩⟩)
    refine ZK (P:=P) (o:=o) (a:=a) (J:=J) (J':=J') (v:=a.eval x) (d:=.p (.sl ae s'' ((xs.drop lo).take n))) (ho J.w) to ok' ?_;rw[hve]
    have hmk:=Yl (J:=J') (nn:=ae) (A:=A) (c:=c) hsy (by rw[ly];exact hcap) hcm (Z7 _) hA (λhne=>by
     have hn:0 < n:=by
      rcases ycj n with h0|h0
      .subst h0;simp at hne
      .exact h0
     obtain⟨b,cur,cap,rfl,hm,hb,hcs,hcell⟩:=hq hn;refine⟨b,_,q,rfl,aC to.leaf.cells _ _ hr,λj u hu=>⟨hcell j u hu,.inr (ok.own id b hm),λj' e' g1 g2=> ?_⟩⟩;have:j'=id:=ok'.inj j' id b g1 (by rw[hmset, <-hmi];exact hm);subst this;rw[hHset]at g2;cases g2;refine⟨rfl,N,yW rfl, ?_⟩;have h1:=(yo.1 hu).1;have h2:(lo+n)*s''<=N*s'':=ycg _ hc.1;rw[lq]at h1;rw[yav]at h2;omega)
    rw[ly]at hmk;exact hmk
   .cases h
  .cases h
 .cases h
end
end Go.Ev
end
section
namespace Go.Ev
theorem qc{J:Sg}{x y:Dv}(hxy:∀a,yH J x a->yH J y a):∀(fs:yL Dv)(k:Nat)(us:yL yh),fs[k]? =ab x->aG J fs us->aG J (fs.set k y) us
 |[],_,_,h,_=>by simp at h
 |z::fs,0,us,h,hr=>by
  simp only[ybb,yj]at h;subst h;simp only[aG,List.set_cons_zero]at hr ⊢;obtain⟨a,b,h1,h2,h3⟩:=hr
  exact⟨a,b,h1,hxy a h2,h3⟩
 |z::fs,k+1,us,h,hr=>by
  simp only[yat]at h;simp only[aG,List.set_cons_succ]at hr ⊢;obtain⟨a,b,h1,h2,h3⟩:=hr;exact⟨a,b,h1,h2,qc hxy fs k b h h3⟩
theorem SJ{fs:yL Dv}{k:Nat}{x y:Dv}(h:fs[k]? =ab x)(hs:y.size=x.size):Dv.sizes (fs.set k y)=Dv.sizes fs:=by
 induction fs generalizing k with
 |nil=>simp at h
 |cons z fs ih=>
  cases k with
  |zero=>
   simp only[ybb,yj]at h;subst h
   simp only[List.set_cons_zero,Dv.sizes,hs]
  |succ k=>
   simp only[yat]at h;simp only[List.set_cons_succ,Dv.sizes,ih h]
theorem SK:∀(xs:yL Pl),Dv.sizes (xs.map .p)=Pl.sizes xs
 |[]=>rfl
 |x::xs=>by simp only[yad,Dv.sizes,Pl.sizes,SK xs];rfl
theorem SL{d d':Dv}{s:Nat}{new:Dv}(h:YW d [] s new=ab d'):d=.p (.sl (ab ag) s [])/\d'=new:=by
 unfold YW at h;split at h
 .split at h
  .rename_i e;cases h;subst e;exact⟨rfl,rfl⟩
  .cases h
 .contradiction
 .contradiction
 .cases h
theorem SM{d d':Dv}{i:Nat}{r:yL Nat}{s:Nat}{new:Dv}(h:YW d (i::r) s new=ab d'):
 (∃xs x y,d=.p (.agg xs)/\xs[i]? =ab x/\YW (.p x) r s new=ab y/\d'=.agg ((xs.map Dv.p).set i y))\/∃xs x y,d=.agg xs/\xs[i]? =ab x/\YW x r s new=ab y/\d'=.agg (xs.set i y):=by
 cases d with
 |p q=>
  cases q with
  |agg xs=>
   simp only[YW]at h
   cases hx:xs[i]? with
   |none=>simp[hx]at h
   |some x=>
    simp only[hx]at h;obtain⟨y,hy,rfl⟩:=yp.1 h
    exact .inl ⟨xs,x,y,rfl,hx,hy,rfl⟩
  |_=>simp[YW]at h
 |agg xs=>
  simp only[YW]at h
  cases hx:xs[i]? with
  |none=>simp[hx]at h
  |some x=>
   simp only[hx]at h;obtain⟨y,hy,rfl⟩:=yp.1 h
   exact .inr ⟨xs,x,y,rfl,hx,hy,rfl⟩
 |_=>simp[YW]at h
theorem V6:∀(yQ:yL Nat)(d d':Dv)(s:Nat)(new:Dv),new.size=1->YW d yQ s new=ab d'->d'.size=d.size
 |[],d,d',s,new,hn,h=>by
  obtain⟨rfl,rfl⟩:=SL h;rw[hn]
  rfl
 |i::r,d,d',s,new,hn,h=>by
  rcases SM h with⟨xs,x,y,rfl,hx,hy,rfl⟩|⟨xs,x,y,rfl,hx,hy,rfl⟩
  .have:=V6 r (.p x) y s new hn hy;have hx':(xs.map Dv.p)[i]? =ab (.p x):=by rw[yaj,hx];rfl
   simp only[Dv.size];rw[SJ hx' this,SK];rfl
  .simp only[Dv.size];exact SJ hx (V6 r x y s new hn hy)
theorem nZ{J:Sg}:∀(yQ:yL Nat)(d d':Dv)(s:Nat)(new:Dv),(∀a,yH J (.p (.sl (ab ag) s [])) a->yH J new a)->YW d yQ s new=ab d'->∀us,yH J d us->yH J d' us
 |[],d,d',s,new,hn,h,us,hr=>by
  obtain⟨rfl,rfl⟩:=SL h
  exact hn us hr
 |i::r,d,d',s,new,hn,h,us,hr=>by
  rcases SM h with⟨xs,x,y,rfl,hx,hy,rfl⟩|⟨xs,x,y,rfl,hx,hy,rfl⟩
  .have hx':(xs.map Dv.p)[i]? =ab (.p x):=by rw[yaj,hx];rfl
   simp only[yH,aw]at hr ⊢;exact qc (nZ r (.p x) y s new hn hy) _ i us hx' (jz.2 hr)
  .simp only[yH]at hr ⊢;exact qc (nZ r x y s new hn hy) _ i us hx hr
theorem ZEj{J:Sg}(ok:Ok J){j s:Nat}{e:yc}{d d':Dv}{st:Bool}{yQ:yL Nat}(hj:J.H[j]? =ab (.var d st))(hg:YW d yQ s (.own J.H.length ae s [])=ab d'):
 ∃J2:Sg,J2.H=(J.H++[ax.log s e []]).set j (.var d' st)/\J2.w=J.w/\To J J2/\Ok J2:=by
 obtain⟨to1,ok1⟩:=Wj (J':={ J with m:=J.m++[ae],H:=J.H++[.log s e []]}) ok rfl rfl rfl rfl (World.grownBy.refl J.w ae) (.inl rfl) (λ_=>.inl ⟨rfl,rfl⟩);have hjl:j < J.H.length:=(yo.1 hj).1
 obtain⟨mi,hm⟩:∃mi,J.m[j]? =ab mi:=by
  have:j < J.m.length:=by rw[ok.len];exact hjl
  exact⟨_,yac this⟩
 obtain⟨b,cs,t,rfl,q2,q3,q4⟩:=ok.dc j _ _ hj hm;let J1:Sg:={ J with m:=J.m++[ae],H:=J.H++[.log s e []]};let J2:Sg:={ J1 with m:=J1.m.set j (ab b),H:=J1.H.set j (.var d' st)}
 have hH1:J1.H[j]? =ab (.var d st):=by
  show(J.H++[ax.log s e []])[j]? =_;rw[yai hjl];exact hj
 have hm1:J1.m[j]? =ab (ab b):=by
  show(J.m++[ae])[j]? =_;rw[yai (by rw[ok.len];exact hjl)];exact hm
 have hsz:=V6 yQ d d' s _ rfl hg
 obtain⟨to2,ok2⟩:=YX (J':=J2) (mi:=ab b) (mi':=ab b) ok1 hH1 hm1 rfl rfl rfl rfl rfl rfl rfl (ym _)
  (λ_ _ _=>rfl) (λ_ _ _ _ _ h=>h) (λo _ hu=>hu) (.inl rfl) (λ_=>⟨rfl,_,_,rfl⟩) (λ⟨_,_,hh⟩=>by cases hh) (λ_ _ _ hh=>by cases hh)
  (λleaf=>by
    refine⟨b,cs,t,rfl,q2, ?_,by rw[hsz];exact q4⟩;rw[hsz];refine nZ yQ d d' s _ (λa ha=> ?_) hg _ (ZZ (to1.leaf.trans leaf) _ _ q3);simp only[yH,aw]at ha ⊢;obtain⟨_,A,c,rfl,w1,w2,w3,w4,w5⟩:=ha
    have hA:A=ae:=by
     have:=w3 ag rfl
     cases A with
     |none=>rfl
     |some _=>cases this
    subst hA;have hc:=w4 rfl;subst hc;refine⟨λ_ hx=>(by cases hx),ae,0,rfl,ym _,by simp[maxLen],Z7 _,λ_=>rfl,λh=>absurd rfl h,e,[], ?_,ym _,λ_=>.inl ⟨?_,rfl,rfl⟩⟩
    .show(J1.H.set j _)[J.H.length]? =_;rw[ybl,yX (by omega)];simp[J1]
    .show(J1.m.set j _)[J.H.length]? =_;rw[ybl,yX (by omega)];show(J.m++[ae])[J.H.length]? =_;rw[yam (by rw[ok.len];exact ym _),ok.len];simp)
 exact⟨J2,rfl,rfl,to1.trans to2,ok2⟩
theorem AH:∀(hs:yL al)(d:Dv)(H0 L:yL ax){J:Sg},Ok J->J.H=H0++.var d af::L->∃J2:Sg,J2.H=H0++.var (Ys d (H0.length+1+L.length) hs).1 af::(L++(Ys d (H0.length+1+L.length) hs).2.1)/\J2.w=J.w/\To J J2/\Ok J2
 |[],d,H0,L,J,ok,h=>⟨J,by simp[Ys,h],rfl,To.refl J,ok⟩
 |x::hs,d,H0,L,J,ok,h=>by
  have base:Ys d (H0.length+1+L.length) (x::hs)=(d,[],x::hs)->∃J2:Sg,J2.H=H0++.var (Ys d (H0.length+1+L.length) (x::hs)).1 af::(L++(Ys d (H0.length+1+L.length) (x::hs)).2.1)/\J2.w=J.w/\To J J2/\Ok J2:=λe=>by
   rw[e];exact⟨J,by simp[h],rfl,To.refl J,ok⟩
  cases x with
  |cb yQ s e=>
   cases hg:YW d yQ s (.own (H0.length+1+L.length) ae s []) with
   |none=>exact base (by simp[Ys,hg])
   |some d'=>
    have hl:J.H.length=H0.length+1+L.length:=by rw[h];simp;omega
    obtain⟨J1,e1,e2,e3,e4⟩:=ZEj (e:=e) ok (j:=H0.length) (s:=s) (d:=d) (d':=d') (st:=af) (yQ:=yQ) (by rw[h];simp) (by rw[hl];exact hg)
    have e1':J1.H=H0++.var d' af::(L++[ax.log s e []]):=by
     rw[e1,h];simp[List.set_append]
    obtain⟨J2,f1,f2,f3,f4⟩:=AH hs d' H0 (L++[ax.log s e []]) e4 e1';refine⟨J2, ?_,by rw[f2,e2],e3.trans f3,f4⟩;rw[f1];simp only[Ys,hg,yr,yah,ycn]
    simp[yck]
  |_=>exact base (by simp[Ys])
theorem SN{P:yg}{o:Oper}{a:Act}{J:Sg}{d:Dv}{H1 H2:yL ax}(h:YH P o a J d H1)(k:∀J1:Sg,J1.H=H1->Ok J1->∃J2:Sg,J2.H=H2/\J2.w=J1.w/\To J1 J2/\Ok J2):YH P o a J d H2:=by
 intro K Q hK;refine h K Q λv J1 e1 to1 ok1 hd=> ?_;obtain⟨J2,f1,f2,f3,f4⟩:=k J1 e1 ok1;rw[<-f2];exact hK v J2 f1 (to1.trans f3) f4 (WS f3.leaf hd)
theorem SP{P:yg}{o:Oper}{a:Act}{J:Sg}{d dd:Dv}{H:yL ax}(h:YH P o a J d (H++[.var dd af]))(hs:yL al):YH P o a J d (H++.var (Ys dd (H.length+1) hs).1 af::(Ys dd (H.length+1) hs).2.1):=by
 refine SN h λJ1 e1 ok1=> ?_;obtain⟨J2,f1,f2,f3,f4⟩:=AH hs dd H [] ok1 e1;exact⟨J2,by simpa using f1,f2,f3,f4⟩
theorem Zzh{P:yg}{o:Oper}{a:Act}{J:Sg}{d dd:Dv}{H:yL ax}{id:Nat}{x:ax}(h:YH P o a J d (H.set id (.var dd af)))(hid:H[id]? =ab x)(hs:yL al):YH P o a J d (H.set id (.var (Ys dd H.length hs).1 af)++(Ys dd H.length hs).2.1):=by
 have hlt:id < H.length:=(yo.1 hid).1;have e:∀v:ax,H.set id v=H.take id++v::H.drop (id+1):=λv=>List.set_eq_take_append_cons_drop.trans (yW hlt);refine SN h λJ1 e1 ok1=> ?_;rw[e]at e1;obtain⟨J2,f1,f2,f3,f4⟩:=AH hs dd (H.take id) (H.drop (id+1)) ok1 e1;have hl:(H.take id).length+1+(H.drop (id+1)).length=H.length:=by simp;omega
 rw[hl]at f1;refine⟨J2, ?_,f2,f3,f4⟩;rw[f1,e];simp
end Go.Ev
end
section
namespace Go.Ev
section
variable{P:yg}{o:Oper}{a:Act}{J:Sg}{ts:yL Dv}{hs hs':yL al}{C:yL Prop}{d:Dv}{H':yL ax}
theorem ZBX(ok:Ok J)(yM:aD J ts a){t:yc}{x y:yn}{id v v' s off:Nat}{yQ:yL Nat}{e:yc}{dd sub new dd':Dv}{C1:yL Prop}{off':Nat}(ho:o.op=.store t x y)(hx:Zs P ts 0 x=.aY id v off yQ)
 (hH:J.H[id]? =ab (.row v' s af e dd)) (hv:v'=v) (hg:Yf dd yQ hs=ab (C1,off',sub,hs')) (hc:bc C1) (he:off'=off) (hn:ir yQ dd (Zs P ts t y)=ab new) (hp:XW new dd yQ hs=ab dd')
 (hsol:new.bE=af) (hsz:new.size=sub.size) (ht:P.cellsOf t=new.size) (hi:(P.info? t).isSome=af) (hN':aO dd' s=aO dd s):YH P o a J .ao (J.H.set id (.row v s af e dd')):=by
 subst he;subst hv;have hxv:=Zj (P:=P) yM 0 x;have hyv:=PU hn (Zj (P:=P) yM t y);rw[hx]at hxv;obtain⟨b,hxv,hm⟩:=PR hxv hH rfl;obtain⟨N,hN,hent⟩:=ok.dc id _ _ hH hm;rcases hent with⟨h1,_⟩|⟨b',cs,cap,h1,h2,hcs,hle,hcm,h3⟩
 .cases h1
 cases h1;have hsize:=PQ hN;rw[<-hsize]at h3;have h4:dd.size<=cs.size:=by rw[hsize,hcs];exact ycg _ hle
 obtain⟨p1,p2,p3,h5,h6,h7,h8⟩:=lc yQ dd hs hs' C1 off' sub _ hg hc h3;have hcells:=WO hsol hyv;obtain⟨h9,h10⟩:=h8 new dd' _ hp hsz hcells;have hl1:(a.eval y).cells.toList.length=new.size:=XB _ _ hcells;have hl2:p2.length=sub.size:=XB _ _ h7;have hll:(a.eval y).cells.toList.length=p2.length:=by rw[hl1,hl2,hsz]
 obtain⟨k1,k2⟩:=pW h5 hll h4;rw[h6]at k1 k2
 have hnl:off'+(a.eval y).cells.toList.length<=cs.size:=by
  have:=congrArg List.length h5;simp only[yae,yau,yr]at this;omega
 have hone:∀u,u∈(a.eval y).cells.toList->u.oneCell'=af:=tH new _ hsol hcells;have hst:=run_storeCells_at P b off' e (a.eval y).cells.toList 0 cs J.w h2 (by simpa using hnl) hone;simp only[Nat.add_zero]at hst;let ncs:Array yh:=(cs.toList.take off'++(a.eval y).cells.toList++cs.toList.drop (off'+(a.eval y).cells.toList.length)).toArray;let J':Sg:={ J with m:=J.m.set id (ab b),H:=J.H.set id (.row v' s af e dd'),w:=J.w.setRow b ncs};have hncs:ncs.size=cs.size:=k2;have zV:J'.w.heap[b]? =ab (.cells ncs e (0,0)):=setRow_heap J.w b cs _ e _ h2;have hoth:∀j,b≠j->J'.w.heap[j]? =J.w.heap[j]? :=λj hj=>setRow_other J.w b j _ (Ne.symm hj)
 obtain⟨to,ok'⟩:=YX (J':=J') (mi:=ab b) (mi':=ab b) ok hH hm rfl rfl rfl rfl rfl rfl rfl (by simp[J'])
  (λj hj hne=>hoth j (λhh=>hne (by rw[hh]))) (λb' o v _ hu _=>by cases hu.1) (λo _ hu=>by cases hu.1) (.inl rfl) (λ⟨d,st,h⟩=>by cases h) (λ⟨d,st,h⟩=>by cases h)
  (λs e xs h=>by cases h) (λleaf=>⟨N,by rw[hN'];exact hN,.inr ⟨b,ncs,cap,rfl,zV,by rw[hncs];exact hcs,hle,hcm,by
    rw[<-hsize];show yH J' dd' (ncs.toList.take dd.size);rw[show ncs.toList.take dd.size=p1++((a.eval y).cells.toList++p3) from k1]
    exact ZZ leaf dd' _ h9⟩⟩)
  (λv s st e2 d h=>by cases h;exact⟨v',af,_,rfl,ym _,λ_=>⟨rfl,λb2 cur hb2 hcur=>by
    cases hb2;rw[h2]at hcur;cases hcur;exact⟨ncs,zV,hncs⟩⟩⟩)
 refine nX (J':=J') ?_ to ok'
 cases hi':P.info? t with
 |none=>simp[hi']at hi
 |some i=>
  have hs:(a.eval y).cells.size=i.size:=by
   rw[<-yau,hl1, <-ht];simp[Program.cellsOf,hi']
  simp only[execOp,ho,hxv,Instr.storeAt,Instr.sureAddr,storeVar,sizeOf,typeInfo,Sem.run_bind,run_program,Result.andThen_ok,hi',Sem.run_pure,hs,ne_eq,not_true,if_false,hst];rfl
theorem qd(ok:Ok J){s:Nat}{e:yc}{dd:Dv}{N n cap:Nat}{cells:Array yh}{w':yz}{v:yh}(hg:J.w.grownBy w' ae)(zV:w'.heap[J.w.heap.size]? =ab (.cells cells e (0,0)))(hcs:cells.size=cap*s)(hlt:J.w.heap.size < w'.heap.size)
 (hN:aO dd s=ab N) (hle:N<=cap) (hcm:cap<=maxLen) (hn:n<=N) (hr:yH J dd (cells.toList.take (N*s))) (hx:(execOp a.eval o).run P J.w=.ok (.value (.slice (ab ⟨J.w.heap.size,0,ae⟩) n cap)) w'):
 YH P o a J (.rv J.H.length 0 s 0 n) (J.H++[.row 0 s af e dd]):=by
 let J':Sg:={ J with m:=J.m++[ab J.w.heap.size],H:=J.H++[.row 0 s af e dd],w:=w'}
 have hmlast:J'.m[J.H.length]? =ab (ab J.w.heap.size):=by
  show(J.m++[ab J.w.heap.size])[J.H.length]? =_;rw[yam (by rw[ok.len];exact ym _),ok.len];simp
 obtain⟨to,ok'⟩:=Wj (J':=J') ok rfl rfl rfl rfl hg (.inr ⟨_,rfl,ym _,hlt⟩)
  (λleaf=>⟨N,hN,.inr ⟨J.w.heap.size,cells,cap,rfl,zV,hcs,hle,hcm,ZZ leaf _ _ hr⟩⟩)
 refine ZK (J':=J') hx to ok' ?_;rw[Ze rfl];simp only[yH];refine⟨_,_,rfl,by omega,hcm,λh=>(by cases h),λ_=>⟨_,_,rfl⟩,0,s,af,e,dd,by simp[J'],ym _,λ_=>⟨rfl,.inr ⟨J.w.heap.size,cells,hmlast,zV,by rw[hcs,yaz],λ_=>by simp⟩⟩⟩
theorem ZHJ(ok:Ok J){t e:yc}{l c:yn}{i:TypeInfo}{n n':Int}(yM:aD J ts a)(ho:o.op=.makeSlice t l c)(hu:P.underlying t=ab (.slice e))(hl:Zs P ts 0 l=.p (.int .i64 n))(hcp:Zs P ts 0 c=.p (.int .i64 n'))
 (hi:P.info? e=ab i) (hz:cf i=af) (h0:n=0) (h1:0<=n') (h2:n'.toNat*i.bytes<=Zr) (h3:n'.toNat<=maxLen):
 YH P o a J (.rv J.H.length 0 i.size 0 0) (J.H++[.row 0 i.size af e (.p (.arr 0 i.size []))]):=by
 subst h0;obtain⟨z,hzz,hzs⟩:=Qy hz;obtain⟨cells,zB,hcs,_⟩:=tX (w:=J.w) (t:=t) hu hi hzz (Int.le_refl 0) h1 h2 h3;have hlv:=ZI (hl ▸ Zj (P:=P) yM 0 l);have hcv:=ZI (hcp ▸ Zj (P:=P) yM 0 c);refine qd (N:=0) (cap:=n'.toNat) (w':=J.w.alloc (.cells cells e)) (v:=.bool af) ok (World.grownBy_alloc J.w (.cells cells e) ae) (heap_alloc_new J.w _) hcs (by simp) (by simp[aO]) (Nat.zero_le _) h3 (ym _) ?_ ?_
 .simp[yH,aw,an];intro x hx;cases hx
 .have hrun':=zB;simp only[Int.toNat_zero]at hrun';simp[execOp,ho,hlv,hcv,hrun']
theorem ZEk(ok:Ok J){t e:yc}{l c:yn}{i:TypeInfo}{z:Pl}{n n':Int}(yM:aD J ts a)(ho:o.op=.makeSlice t l c)(hu:P.underlying t=ab (.slice e))(hl:Zs P ts 0 l=.p (.int .i64 n))(hcp:Zs P ts 0 c=.p (.int .i64 n'))
 (hi:P.info? e=ab i) (hz:cf i=af) (hs1:i.size=1) (hzp:YP P e=.p z) (hz1:z.size=1) (hza:z.isAgg=ag) (h0:n'=n) (h1:0<=n) (h2:n.toNat*i.bytes<=Zr) (h3:n.toNat<=maxLen):
 YH P o a J (.rv J.H.length 0 1 0 n.toNat) (J.H++[.row 0 1 af e (.p (.arr n.toNat 1 (yy n.toNat z)))]):=by
 subst h0;obtain⟨zv,hzz,hzs⟩:=Qy hz;obtain⟨cells,zB,hcs,hck⟩:=tX (w:=J.w) (t:=t) hu hi hzz h1 (Int.le_refl n') h2 h3;have hlv:=ZI (hl ▸ Zj (P:=P) yM 0 l);have hcv:=ZI (hcp ▸ Zj (P:=P) yM 0 c)
 have hr:yJ J (YP P e) zv:=by
  unfold YP;rw[hi];simp only[hzz];exact WW
 rw[hzp]at hr;have hr:=WO (d:=.p z) rfl hr
 obtain⟨c0,hc0⟩:∃c0,zv.cells.toList=[c0]:=by
  have h9:zv.cells.toList.length=1:=by rw[yau,hzs,hs1]
  match hq:zv.cells.toList,h9 with
  |[c0],_=>exact⟨c0,rfl⟩
 rw[hc0]at hr;have hzc:zv.cells= #[c0]:=by rw[<-ycb (xs:=zv.cells),hc0]
 have hcells:cells.toList=yy n'.toNat c0:=by
  apply ybe;intro k;rw[ybt,List.getElem?_replicate];by_cases hk:k < n'.toNat
  .rw[hck hs1 k hk,yW hk,hzc];simp[Nat.mod_one]
  .rw[yX hk];refine Array.getElem?_eq_none ?_;rw[hcs,hs1];omega
 have hcl:cells.toList.length=n'.toNat:=by rw[hcells];simp
 refine qd (N:=n'.toNat) (cap:=n'.toNat) (w':=J.w.alloc (.cells cells e)) (v:=.bool af) ok (World.grownBy_alloc J.w (.cells cells e) ae) (heap_alloc_new J.w _) (by rw[hcs,hs1]) (by simp) (by simp[aO]) (ym _) h3 (ym _) ?_ ?_
 .rw[Nat.mul_one,ycr (by omega),hcells];simp only[yH,aw];refine⟨by simp,λy hy=>by rw[(List.mem_replicate.1 hy).2];exact hz1, ?_⟩;simp only[yH]at hr;exact AG hr _
 .simp[execOp,ho,hlv,hcv,zB]
theorem ZHK(ok:Ok J)(yM:aD J ts a){t e:yc}{i:TypeInfo}{len:Nat}{parts:Array (Nat×yn)}{xs:yL Pl}(ho:o.op=.buildSlice t len parts)(hu:P.underlying t=ab (.slice e))
 (hi:P.info? e=ab i) (hz:cf i=af) (hne:i.size≠0) (hsz:len*i.size<=16777216) (hl:XK P ts e (P.cellsOf e) len parts.toList=ab xs):
 YH P o a J (.rv J.H.length 0 i.size 0 len) (J.H++[.row 0 i.size af e (.p (.arr len i.size (xs.map Pl.soft)))]):=by
 obtain⟨cells,zB,hr,zW,zU,hcs⟩:=tM (P:=P) yM hu hi hz hsz hl
 have hle:len<=maxLen:=by
  have:=Nat.le_mul_of_pos_right len (Nat.pos_of_ne_zero hne);simp only[maxLen];omega
 refine qd (N:=len) (cap:=len) (w':=J.w.alloc (.cells cells e)) (v:=.bool af) ok (World.grownBy_alloc J.w (.cells cells e) ae) (heap_alloc_new J.w _) hcs (by simp) (by simp[aO]) (ym _) hle (ym _) ?_ (pU ho zB);rw[<-hcs, <-yau,ybd];simp only[yH,aw];refine⟨by rw[yx];exact zW,λy hy=> ?_, ?_⟩
 .obtain⟨x,hx,rfl⟩:=yby.1 hy;rw[zf];exact zU x hx
 .rw[<-Pl.cy];exact(cA xs).cY _ _ _ hr
theorem ZEl(ok:Ok J)(yM:aD J ts a){t e:yc}{i:TypeInfo}{len id v:Nat}{st:Bool}{dd:Dv}{parts:Array (Nat×yn)}{xs:yL Pl}(ho:o.op=.buildSlice t len parts)(hu:P.underlying t=ab (.slice e))
 (hi:P.info? e=ab i) (hz:cf i=af) (hne:i.size≠0) (hsz:len*i.size<=16777216) (hl:XK P ts e (P.cellsOf e) len parts.toList=ab xs) (hH:J.H[id]? =ab (.row v i.size st e dd)):
 YH P o a J (.rv id (v+1) i.size 0 len) (J.H.set id (.row (v+1) i.size af e (.p (.arr len i.size (xs.map Pl.soft))))):=by
 obtain⟨cells,zB,hr,zW,zU,hcs⟩:=tM (P:=P) yM hu hi hz hsz hl
 have hle:len<=maxLen:=by
  have:=Nat.le_mul_of_pos_right len (Nat.pos_of_ne_zero hne);simp only[maxLen];omega
 have hlt:id < J.m.length:=by rw[ok.len];exact(yo.1 hH).1
 have hm:J.m[id]? =ab J.m[id]:=yac hlt;let J':Sg:={ J with m:=J.m.set id (ab J.w.heap.size),H:=J.H.set id (.row (v+1) i.size af e (.p (.arr len i.size (xs.map Pl.soft)))),w:=J.w.alloc (.cells cells e)};have zV:J'.w.heap[J.w.heap.size]? =ab (.cells cells e (0,0)):=heap_alloc_new J.w _;have hg:=World.grownBy_alloc J.w (.cells cells e) ae;have hself:J'.m[id]? =ab (ab J.w.heap.size):=aj hm;have hHself:J'.H[id]? =ab (.row (v+1) i.size af e (.p (.arr len i.size (xs.map Pl.soft)))):=aj hH
 obtain⟨to,ok'⟩:=YX (J':=J') (mi:=J.m[id]) (mi':=ab J.w.heap.size) ok hH hm rfl rfl rfl rfl rfl rfl rfl hg.size
  (λj hj _=>hg.block j hj (by simp)) (λb o v hb _ hc=>by
    have hj:=ok.lt id b (by rw[hm,hb]);rw[World.cell?_of_block (w:=J.w) (hg.block b hj (by simp))];exact hc) (λo he hu=>by
    have hj:=ok.lt id _ (by rw[hm, <-he]);omega) (.inr ⟨_,rfl,ym _,by simp[J']⟩) (λ⟨d,st,h⟩=>by cases h) (λ⟨d,st,h⟩=>by cases h) (λs e xs h=>by cases h)
  (λleaf=>⟨len,by simp[aO],.inr ⟨_,cells,len,rfl,zV,hcs,ym _,hle,by
    rw[<-hcs, <-yau,ybd];simp only[yH,aw];refine⟨by rw[yx];exact zW,λy hy=> ?_, ?_⟩
    .obtain⟨x,hx,rfl⟩:=yby.1 hy;rw[zf];exact zU x hx
    .rw[<-Pl.cy];exact(cA xs).cY _ _ _ (aC leaf.cells _ _ hr)⟩⟩)
  (λv' s' st' e' d' h=>by cases h;exact⟨v+1,af,_,rfl,Nat.le_succ _,λhv=>absurd hv (by omega)⟩)
 refine ZK (J':=J') (pU ho zB) to ok' ?_;rw[Ze rfl];simp only[yH];refine⟨ab ⟨J.w.heap.size,0,ae⟩,len,rfl,ym _,hle,λh=>(by cases h),λ_=>⟨_,_,rfl⟩,v+1,i.size,af,e,_,hHself,ym _,λ_=>⟨rfl,.inr ⟨_,cells,hself,zV,by rw[yaz];exact hcs,λ_=>by rw[Nat.zero_mul]⟩⟩⟩
theorem ZEm(ok:Ok J)(yM:aD J ts a){t e:yc}{i:TypeInfo}{len:Nat}{parts:Array (Nat×yn)}{ds:yL Dv}(ho:o.op=.buildSlice t len parts)(hu:P.underlying t=ab (.slice e))
 (hi:P.info? e=ab i) (hz:cf i=af) (hne:i.size≠0) (hsz:len*i.size<=16777216) (hl:nM P ts e (P.cellsOf e) len parts.toList=ab ds):
 YH P o a J (.rv J.H.length 0 i.size 0 len) (J.H++[.row 0 i.size af e (.arr len i.size ds)]):=by
 have hce:P.cellsOf e=i.size:=by simp[Program.cellsOf,hi]
 rw[hce]at hl
 obtain⟨cells,zB,hr,zW,zU⟩:=PM (P:=P) (t:=t) (parts:=parts.map λq=>(q.1,a.eval q.2)) (Q:=λcells=>aG J ds cells.toList/\ds.length=len/\∀x,x∈ds->x.size=i.size) J.w hu hi hz hsz (λZ hZ=>by
  obtain⟨cells,k1,k2⟩:=ZEa (P:=P) yM hl Z hZ;exact⟨cells,by rw[ycq];exact k1,k2⟩)
 have hrd:yH J (.arr len i.size ds) cells.toList:=by
  simp only[yH];exact⟨zW,zU,hr⟩
 have hcs:cells.size=len*i.size:=by rw[<-yau];exact XB _ _ hrd
 have hle:len<=maxLen:=by
  have:=Nat.le_mul_of_pos_right len (Nat.pos_of_ne_zero hne);simp only[maxLen];omega
 refine qd (N:=len) (cap:=len) (w':=J.w.alloc (.cells cells e)) (v:=.bool af) ok (World.grownBy_alloc J.w (.cells cells e) ae) (heap_alloc_new J.w _) hcs (by simp) (by simp[aO]) (ym _) hle (ym _) ?_ (pU ho zB);rw[<-hcs, <-yau,ybd];exact hrd
theorem ZwK(ok:Ok J)(yM:aD J ts a){c:Call}{x y:yn}{t u e:yc}{i:TypeInfo}{ys:yL Pl}(ho:o.op=.call c)(zL:c.callee=.builtin .append)(yR:c.args.toList=[x,y])
 (htys:c.argTypes.toList=[t,u]) (ht:P.underlying t=ab (.slice e)) {s:Nat} (hx:Zs P ts t x=.p (.sl (ab ag) s [])) (hi:P.info? e=ab i) (hz:cf i=af) (hne:i.size≠0)
 (hsrc:my P J (P.cellsOf e) u (a.eval y) ys) (hb:ys.length*i.bytes<=Zr) (hm:ys.length<=maxLen):
 YH P o a J (.rv J.H.length 0 i.size 0 ys.length) (J.H++[.row 0 i.size af e (.p (.arr ys.length i.size ys))]):=by
 have hxv:=Zj (P:=P) yM t x;rw[hx]at hxv;have hxn:=lb hxv;have hce:P.cellsOf e=i.size:=by simp[Program.cellsOf,hi]
 rcases Vc (P:=P) (ty:=o.type) ok yM ht hi hz hne hsrc hb hm with⟨rfl,zB⟩|⟨zX,yK,hys,zU,hr,hge,hcm,hcs,zB⟩
 .let J':Sg:={ J with m:=J.m++[ae],H:=J.H++[.row 0 i.size af e (.p (.arr 0 i.size []))]}
  have hmlast:J'.m[J.H.length]? =ab ae:=by
   show(J.m++[ae])[J.H.length]? =_;rw[yam (by rw[ok.len];exact ym _),ok.len];simp
  obtain⟨to,ok'⟩:=Wj (J':=J') ok rfl rfl rfl rfl (World.grownBy.refl J.w ae) (.inl rfl) (λleaf=>⟨0,by simp[aO],.inl ⟨rfl,rfl⟩⟩);refine ZK (J':=J') (Ya ho zL yR htys (by rw[hxn];exact zB)) to ok' ?_;rw[Ze rfl];simp only[yH];refine⟨ae,0,rfl,ym _,by simp[maxLen],λ_=>rfl,λh=>(by simp at h),0,i.size,af,e,.p (.arr 0 i.size []),by simp[J'],ym _,λ_=>⟨rfl,.inl ⟨hmlast,rfl,rfl⟩⟩⟩
 .have zW:zX.length=ys.length*i.size:=by rw[aK _ _ hr,aL zU]
  refine qd (N:=ys.length) (cap:=grownCap J.w ys.length 0 e) (w':=J.w.drew.alloc (.cells (zX.toArray++yK) e)) (v:=.bool af) ok (YU J.w (.cells (zX.toArray++yK) e) ae) (heap_alloc_new J.w.drew _) hcs (by simp) (by simp[aO]) hge hcm (ym _) ?_ (Ya ho zL yR htys (by rw[hxn];exact zB));rw[<-zW];simp only[Array.toList_append,List.take_left',yH,aw];exact⟨zP,zU,hr⟩
theorem AI{w:yz}{t u ty e:yc}{i:TypeInfo}{S:yh}{zX:yL yh}{A:yO Addr}{n c:Nat}(ht:P.underlying t=ab (.slice e))(hi:P.info? e=ab i)(hS:Src P w u i.size S 0 zX)(hn:n<=c)(hA:A=ae->c=0):
 (Builtin.append_ #[t,u] ty #[.slice A n c,S]).run P w=.ok (.slice A n c) w:=by
 obtain⟨hty,hl,hf,hfd,hc⟩:=hS;have hnews:zX=[]:=ybf (by rw[hc];simp);subst hnews
 rcases hty with⟨e'',hu⟩|hu <;>
  (cases A with
   |none=>
    have:=hA rfl;have hn0:n=0:=by omega
    subst this;subst hn0
    simp[Builtin.append_,run_underlying ht,run_underlying hu,sizeOf,typeInfo,hi,hl,hf]
   |some A=>
    simp[Builtin.append_,run_underlying ht,run_underlying hu,sizeOf,typeInfo,hi,hl,hf,hn,storeCells])
theorem ZwL(ok:Ok J)(yM:aD J ts a){c:Call}{x y:yn}{t u e:yc}{i:TypeInfo}{id v s lo n:Nat}(ho:o.op=.call c)(zL:c.callee=.builtin .append)(yR:c.args.toList=[x,y])
 (htys:c.argTypes.toList=[t,u]) (ht:P.underlying t=ab (.slice e)) (hx:Zs P ts t x=.rv id v s lo n) (hi:P.info? e=ab i)
 (hsrc:my P J (P.cellsOf e) u (a.eval y) []):YH P o a J (.rv id v s lo n) J.H:=by
 have hxv:=Zj (P:=P) yM t x;rw[hx]at hxv;have hxv0:=hxv;obtain⟨A,cc,hv,h2,h3,h4,_⟩:=jB hxv;have hce:P.cellsOf e=i.size:=by simp[Program.cellsOf,hi]
 rw[hce]at hsrc;obtain⟨zX,hS,_,_⟩:=hsrc;refine Zh (v:=a.eval x) ok (Ya ho zL yR htys ?_) hxv0;rw[hv];exact AI (P:=P) (ty:=o.type) ht hi hS h2 h4
theorem SQ{v s N o:Nat}{st:Bool}{e:yc}{xs:yL Pl}(hu:(ax.row v s st e (.p (.arr N s xs))).bv o):st=ag/\o < N*s:=by
 obtain⟨h1,N',h2,h3⟩:=hu;rw[show aO (.p (.arr N s xs)) s=ab N from yW rfl]at h2
 cases h2;exact⟨h1,h3⟩
theorem AJ{v v' s n N m o:Nat}{st:Bool}{e:yc}{xs ys:yL Pl}(hst:st=af\/n=N)(hu:(ax.row v s st e (.p (.arr N s xs))).bv o):(ax.row v' s st e (.p (.arr (n+m) s ys))).bv o:=by
 obtain⟨h1,h2⟩:=SQ hu;refine⟨h1,n+m,yW rfl, ?_⟩;rcases hst with h|h
 .rw[h]at h1;cases h1
 .subst h;rw[yav];omega
theorem Zzi(ok:Ok J)(yM:aD J ts a){c:Call}{x y:yn}{t u e:yc}{i:TypeInfo}{xs ys:yL Pl}{id v n N:Nat}{st:Bool}(hst:st=af\/n=N)(ho:o.op=.call c)(zL:c.callee=.builtin .append)
 (yR:c.args.toList=[x,y]) (htys:c.argTypes.toList=[t,u]) (ht:P.underlying t=ab (.slice e)) (hx:Zs P ts t x=.rv id v i.size 0 n) (hi:P.info? e=ab i) (hz:cf i=af) (hne:i.size≠0)
 (hsrc:my P J i.size u (a.eval y) ys) (hH:J.H[id]? =ab (.row v i.size st e (.p (.arr N i.size xs)))) (hnN:n<=N) (hb:(n+ys.length)*i.bytes<=Zr) (hm:n+ys.length<=maxLen):
 YH P o a J (.rv id (v+1) i.size 0 (n+ys.length)) (J.H.set id (.row (v+1) i.size st e (.p (.arr (n+ys.length) i.size (xs.take n++ys))))):=by
 have hxv:=Zj (P:=P) yM t x;rw[hx]at hxv;obtain⟨A0,c0,hv0,_,_,_,hpall,hplen,q,hq,hql,hqc⟩:=tU ok hxv hH rfl (by omega:0+n<=N);simp only[List.drop_zero]at hpall hplen hq;obtain⟨A,cp,hv,h2,h3,h4,h5,v2,s2,st2,e2,d2,h6,h7,h8⟩:=jB hxv;rw[hv]at hv0;injection hv0 with e1 e2 e3;subst e1;subst e3;rw[hH]at h6;cases h6;obtain⟨_,h9⟩:=h8 rfl;have hsrc2:=hsrc;obtain⟨zX,hS,hr,zU⟩:=hsrc2;obtain⟨z,hzz,hzs⟩:=Qy hz;have hidlt:id < J.m.length:=by rw[ok.len];exact(yo.1 hH).1
 have hmi:J.m[id]? =ab J.m[id]:=yac hidlt;have hnl:zX.length=ys.length*i.size:=hS.cells;have hone:∀v,v∈zX->v.oneCell'=af:=cx _ _ hr;have zW:(xs.take n++ys).length=n+ys.length:=by rw[yr,hplen]
 have hall':aU i.size (xs.take n++ys):=by
  by_cases hy:ys=[]
  .subst hy;simpa using hpall
  .exact Wh hpall (zU hy)
 have hrowN:aO (.p (.arr (n+ys.length) i.size (xs.take n++ys))) i.size=ab (n+ys.length):=by simp[aO]
 have grow:cp < n+ys.length->YH P o a J (.rv id (v+1) i.size 0 (n+ys.length)) (J.H.set id (.row (v+1) i.size st e (.p (.arr (n+ys.length) i.size (xs.take n++ys))))):=by
  intro hgr
  have hold:(Builtin.firstCells i.size n (.slice A n cp)).run P J.w.drew=.ok q.toArray J.w.drew:=by
   rcases ycj n with h0|h0
   .subst h0;have:q=[]:=ybf (by rw[hql];simp);subst this;cases A <;> simp[Builtin.firstCells,loadCells,loadCellsFrom]
   .obtain⟨b,cur,cap,rfl,_,_,_,hcell⟩:=hqc h0;refine run_firstCells_some _ _ _ ⟨b,_,ae⟩ _ cp q hql (λj v hv=> ?_);rw[Addr.bI];exact hcell j v hv
  have zB:=zr (P:=P) (ty:=o.type) ht hi hzz hS hold hgr hm hb;have hge:=grownCap_ge J.w (n+ys.length) cp e;have hcm:=grownCap_le_maxLen J.w (n+ys.length) cp e hm;let k:Nat:=grownCap J.w (n+ys.length) cp e;let yK:Array yh:=Builtin.zeroCells z.cells (k - (n+ys.length));let ncur:Array yh:=q.toArray++zX.toArray++yK;let J':Sg:={ J with m:=J.m.set id (ab J.w.heap.size),H:=J.H.set id (.row (v+1) i.size st e (.p (.arr (n+ys.length) i.size (xs.take n++ys)))),w:=J.w.drew.alloc (.cells ncur e)}
  have hncs:ncur.size=k*i.size:=by
   simp only[ncur,yK,Array.size_append,List.size_toArray,size_zeroCells,hzs,hql,hnl, <-yav];congr 1;omega
  have htk:ncur.toList.take ((n+ys.length)*i.size)=q++zX:=by
   have e1:(q++zX).length=(n+ys.length)*i.size:=by rw[yr,hql,hnl,yav]
   rw[<-e1];have:ncur.toList=(q++zX)++yK.toList:=by simp[ncur]
   rw[this];exact List.take_left
  have zV:J'.w.heap[J.w.heap.size]? =ab (.cells ncur e (0,0)):=heap_alloc_new J.w.drew _;have hg:=YU J.w (.cells ncur e) ae;have hblk':∀b,b < J.w.heap.size->J'.w.heap[b]? =J.w.heap[b]? :=λb hb=>hg.block b hb (by simp);have hmset:J'.m[id]? =ab (ab J.w.heap.size):=aj hmi;have hHset:J'.H[id]? =ab (.row (v+1) i.size st e (.p (.arr (n+ys.length) i.size (xs.take n++ys)))):=aj hH
  obtain⟨to,ok'⟩:=YX (J':=J') (mi:=J.m[id]) (mi':=ab J.w.heap.size) ok hH hmi rfl rfl rfl rfl rfl rfl rfl hg.size
   (λb hb _=>hblk' b hb) (λb' o v hb' _ hcell=>by
     rw[World.cell?_of_block (w:=J.w) (hblk' b' (Wu hcell))];exact hcell)
   (λo h _=>by
     have:=ok.lt id J.w.heap.size (by rw[hmi, <-h]);omega) (.inr ⟨_,rfl,ym _,by simp[J']⟩) (λ⟨d,st,h⟩=>by cases h) (λ⟨d,st,h⟩=>by cases h)
   (λs' e' xs' h=>by cases h)
   (λleaf=>⟨n+ys.length,hrowN,.inr ⟨J.w.heap.size,ncur,k,rfl,zV,hncs,hge,hcm,by
     rw[htk];simp only[yH,aw];exact⟨zW,hall',Yh (aC leaf.cells _ _ hq) (aC leaf.cells _ _ hr)⟩⟩⟩)
   (λv2 s st e d h=>by cases h;exact⟨v+1,_,_,rfl,by omega,λhh=>absurd hh (by omega)⟩)
  refine ZK (J':=J') (Ya ho zL yR htys (by rw[hv];exact zB)) to ok' ?_;rw[Ze rfl];simp only[yH];exact⟨_,_,rfl,hge,hcm,λh=>(by cases h),λ_=>⟨_,_,rfl⟩,v+1,i.size,st,e,_,hHset,ym _,λ_=>⟨rfl,.inr ⟨J.w.heap.size,ncur,hmset,zV,by rw[hncs,yaz],λ_=>by simp⟩⟩⟩
 rcases h9 with⟨k1,rfl,k2⟩|⟨b,cur,k1,k3,k4,k5⟩
 .have hc0:cp=0:=by omega
  subst hc0;have hn0:n=0:=by omega
  subst hn0;rcases ycj ys.length with h0|h0
  .have hys:ys=[]:=ybf h0;subst hys;have zB:=AI (P:=P) (ty:=o.type) (A:=ae) (n:=0) (c:=0) ht hi hS (ym _) (λ_=>rfl);let J':Sg:={ J with m:=J.m.set id J.m[id],H:=J.H.set id (.row (v+1) i.size st e (.p (.arr (0+([]:yL Pl).length) i.size (xs.take 0++[]))))};have hmset:J'.m[id]? =ab J.m[id]:=aj hmi;have hHset:J'.H[id]? =ab (.row (v+1) i.size st e (.p (.arr (0+([]:yL Pl).length) i.size (xs.take 0++[])))):=aj hH;have hmn:J.m[id]=ae:=by rw[hmi]at k1;exact yax k1
   obtain⟨to,ok'⟩:=YX (J':=J') (mi:=J.m[id]) (mi':=J.m[id]) ok hH hmi rfl rfl rfl rfl rfl rfl rfl (ym _)
    (λ_ _ _=>rfl) (λ_ _ _ _ _ h=>h) (λo _ hu=>AJ hst hu) (.inl rfl) (λ⟨d,st,h⟩=>by cases h) (λ⟨d,st,h⟩=>by cases h)
    (λs e xs h=>by cases h) (λleaf=>⟨0,by simp[aO],.inl ⟨hmn,rfl⟩⟩)
    (λv2 s st e d h=>by cases h;exact⟨v+1,_,_,rfl,by omega,λhh=>absurd hh (by omega)⟩)
   refine ZK (J':=J') (Ya ho zL yR htys (by rw[hv];exact zB)) to ok' ?_;rw[Ze rfl];simp only[yH];exact⟨ae,0,rfl,ym _,by simp[maxLen],λ_=>rfl,λh=>(by simp at h),v+1,i.size,st,e,_,hHset,ym _,λ_=>⟨rfl,.inl ⟨by rw[hmset,hmn],rfl,rfl⟩⟩⟩
  .exact grow (by omega)
 .by_cases hroom:n+ys.length<=cp
  .have hmb:J.m[id]=ab b:=by rw[hmi]at k1;exact yax k1
   rw[yaz]at k4;rcases ycj cp with hcp0|hcp0
   .have hn0:n=0:=by omega
    have hy0:ys.length=0:=by omega
    have hys:ys=[]:=ybf hy0;subst hys;have zB:=AI (P:=P) (ty:=o.type) ht hi hS h2 h4;let J':Sg:={ J with m:=J.m.set id (ab b),H:=J.H.set id (.row (v+1) i.size st e (.p (.arr (n+([]:yL Pl).length) i.size (xs.take n++[]))))};have hmset:J'.m[id]? =ab (ab b):=aj hmi;have hHset:J'.H[id]? =ab (.row (v+1) i.size st e (.p (.arr (n+([]:yL Pl).length) i.size (xs.take n++[])))):=aj hH
    obtain⟨to,ok'⟩:=YX (J':=J') (mi:=ab b) (mi':=ab b) ok hH k1 rfl rfl rfl rfl rfl rfl rfl (ym _)
     (λ_ _ _=>rfl) (λ_ _ _ _ _ h=>h) (λo _ hu=>AJ hst hu) (.inl rfl) (λ⟨d,st,h⟩=>by cases h) (λ⟨d,st,h⟩=>by cases h)
     (λs e xs h=>by cases h) (λleaf=>⟨n,by simp[aO],.inr ⟨b,cur,cp,rfl,k3,k4,h2,h3,by
       subst hn0;simp[yH,aw,an];intro x hx;cases hx⟩⟩)
     (λv2 s st e d h=>by cases h;exact⟨v+1,_,_,rfl,by omega,λhh=>absurd hh (by omega)⟩)
    refine ZK (J':=J') (Ya ho zL yR htys (by rw[hv];exact zB)) to ok' ?_;rw[Ze rfl];simp only[yH];exact⟨A,cp,rfl,h2,h3,h4,h5,v+1,i.size,st,e,_,hHset,ym _,λ_=>⟨rfl,.inr ⟨b,cur,hmset,k3,by rw[yaz];exact k4,λh=>absurd h (by omega)⟩⟩⟩
   have hA:=k5 hcp0;rw[Nat.zero_mul]at hA;subst hA;have zB:=zq (P:=P) (ty:=o.type) ht hi hS hone k3 hroom k4
   have hus:(cur.toList.take (n*i.size)).length=n*i.size:=by
    rw[yae,yau,k4];exact yay (ycg _ h2)
   have hqe:cur.toList.take (n*i.size)=q:=by
    rcases ycj n with h0|h0
    .subst h0;have:q=[]:=ybf (by rw[hql];simp);rw[this];simp
    .obtain⟨b2,cur2,cap2,hbb,hm2,hb2,hcs2,hcell⟩:=hqc h0
     have hbe:b=b2:=by
      injection hbb with hb';injection hb'
     subst hbe;apply ybe;intro j;rw[ych];by_cases hj:j < n*i.size
     .rw[yW hj];have hjq:j < q.length:=by rw[hql];exact hj
      have:=hcell j q[j] (yac hjq);rw[Nat.zero_mul,yaz,cell_of_row J.w b j cur e (0,0) k3, <-ybt]at this;rw[this,yac hjq]
     .rw[yX hj,yan (by rw[hql];omega)]
   let ncur:Array yh:=(cur.toList.take (n*i.size)++zX++cur.toList.drop (n*i.size+zX.length)).toArray;let J':Sg:={ J with m:=J.m.set id (ab b),H:=J.H.set id (.row (v+1) i.size st e (.p (.arr (n+ys.length) i.size (xs.take n++ys)))),w:=J.w.setRow b ncur};have hfit:n*i.size+zX.length<=cur.size:=by rw[hnl,k4, <-yav];exact ycg _ hroom
   have hncs:ncur.size=cp*i.size:=by
    simp only[ncur,List.size_toArray,yr,ybq,yau,hus];omega
   have zV:J'.w.heap[b]? =ab (.cells ncur e (0,0)):=setRow_heap J.w b cur _ e _ k3;have hoth:∀j,b≠j->J'.w.heap[j]? =J.w.heap[j]? :=λj hj=>setRow_other J.w b j _ (Ne.symm hj);have hmset:J'.m[id]? =ab (ab b):=aj hmi;have hHset:J'.H[id]? =ab (.row (v+1) i.size st e (.p (.arr (n+ys.length) i.size (xs.take n++ys)))):=aj hH
   have htk:ncur.toList.take ((n+ys.length)*i.size)=q++zX:=by
    have e1:(cur.toList.take (n*i.size)++zX).length=(n+ys.length)*i.size:=by rw[yr,hus,hnl,yav]
    rw[<-e1, <-hqe];exact List.take_left
   obtain⟨to,ok'⟩:=YX (J':=J') (mi:=ab b) (mi':=ab b) ok hH k1 rfl rfl rfl rfl rfl rfl rfl (by simp[J'])
    (λj hj hne=>hoth j (λhh=>hne (by rw[hh]))) (λb' o v hb' hu hcell=>by
      cases hb'
      have ho':o < n*i.size:=by
       rcases hst with h|h
       .rw[h]at hu;cases hu.1
       .rw[h];exact(SQ hu).2
      rw[cell_of_row J'.w b o ncur e (0,0) zV];rw[cell_of_row J.w b o cur e (0,0) k3, <-ybt]at hcell;rw[show ncur[o]? =(cur.toList.take (n*i.size)++zX++cur.toList.drop (n*i.size+zX.length))[o]? from by simp[ncur],yak,yai (by rw[hus];exact ho'),ych,yW ho']
      exact hcell)
    (λo _ hu=>AJ hst hu) (.inl rfl) (λ⟨d,st,h⟩=>by cases h) (λ⟨d,st,h⟩=>by cases h)
    (λs' e' xs' h=>by cases h)
    (λleaf=>⟨n+ys.length,hrowN,.inr ⟨b,ncur,cp,rfl,zV,hncs,hroom,h3,by
      rw[htk];simp only[yH,aw];exact⟨zW,hall',Yh (aC leaf.cells _ _ hq) (aC leaf.cells _ _ hr)⟩⟩⟩)
    (λv2 s st e d h=>by cases h;exact⟨v+1,_,_,rfl,by omega,λhh=>absurd hh (by omega)⟩)
   refine ZK (J':=J') (Ya ho zL yR htys (by rw[hv];exact zB)) to ok' ?_;rw[Ze rfl];simp only[yH];exact⟨_,_,rfl,hroom,h3,λh=>(by cases h),λ_=>⟨_,_,rfl⟩,v+1,i.size,st,e,_,hHset,ym _,λ_=>⟨rfl,.inr ⟨b,ncur,hmset,zV,by rw[hncs,yaz],λ_=>by simp⟩⟩⟩
  .exact grow (by omega)
theorem ZwM(ok:Ok J)(yM:aD J ts a){c:Call}{x y:yn}{t u e:yc}{i:TypeInfo}{xs ys:yL Pl}{id v n N:Nat}(ho:o.op=.call c)(zL:c.callee=.builtin .append)
 (yR:c.args.toList=[x,y]) (htys:c.argTypes.toList=[t,u]) (ht:P.underlying t=ab (.slice e)) (hx:Zs P ts t x=.rv id v i.size 0 n) (hi:P.info? e=ab i) (hz:cf i=af) (hne:i.size≠0)
 (hsrc:my P J i.size u (a.eval y) ys) (hH:J.H[id]? =ab (.row v i.size af e (.p (.arr N i.size xs)))) (hpos:0 < N) (hroomN:n+ys.length<=N):
 YH P o a J (.rv id v i.size 0 (n+ys.length)) (J.H.set id (.row v i.size af e (.p (.arr N i.size (xs.take n++(ys++xs.drop (n+ys.length))))))):=by
 have hxv:=Zj (P:=P) yM t x;rw[hx]at hxv;obtain⟨A,cp,hv,h2,h3,h4,h5,v2,s2,st2,e2,d2,h6,h7,h8⟩:=jB hxv;rw[hH]at h6;cases h6;obtain⟨_,h9⟩:=h8 rfl;have hsrc2:=hsrc;obtain⟨zX,hS,hr,zU⟩:=hsrc2;have hidlt:id < J.m.length:=by rw[ok.len];exact(yo.1 hH).1
 have hmi:J.m[id]? =ab J.m[id]:=yac hidlt;have hnl:zX.length=ys.length*i.size:=hS.cells;have hone:∀v,v∈zX->v.oneCell'=af:=cx _ _ hr;obtain⟨N',hN',hent⟩:=ok.dc id _ _ hH hmi;simp only[aO,if_true,yj]at hN';subst hN';rcases hent with⟨_,h0⟩|⟨b,cur,cap,hh,g2,g4,g5,g6,g7⟩
 .omega
 simp only[yH,aw]at g7;obtain⟨hxl,hxs,g7⟩:=g7;rcases h9 with⟨k1,_,_⟩|⟨b',cur',k1,k3,k4,k5⟩
 .rw[hmi,hh]at k1;cases k1
 rw[hmi,hh]at k1;cases k1;rw[g2]at k3;cases k3;have hm:J.m[id]? =ab (ab b):=by rw[hmi,hh]
 rw[yaz]at k4;have hcc:cp=cap:=Nat.eq_of_mul_eq_mul_right (Nat.pos_of_ne_zero hne) (k4.symm.trans g4);subst hcc;have hroom:n+ys.length<=cp:=ybx hroomN g5;have hA:=k5 (by omega);rw[Nat.zero_mul]at hA;subst hA;have zB:=zq (P:=P) (ty:=o.type) ht hi hS hone g2 hroom k4
 have hsplit:xs=xs.take n++((xs.drop n).take ys.length++xs.drop (n+ys.length)):=by
  have e1:xs.drop (n+ys.length)=(xs.drop n).drop ys.length:=by rw[List.drop_drop]
  rw[e1,ybk,ybk]
 have g7':=g7;rw[hsplit]at g7';obtain⟨q1,q23,e1,r1,r23⟩:=Z9 g7';obtain⟨q2,q3,rfl,r2,r3⟩:=Z9 r23;have hs1:aU i.size (xs.take n):=WV hxs n;have hs2:aU i.size ((xs.drop n).take ys.length):=WV (tz hxs n) _;have ly:((xs.drop n).take ys.length).length=ys.length:=by rw[yae,ybq,yay (by omega)]
 have l1:q1.length=n*i.size:=by rw[aK _ _ r1,aL hs1,yae,yay (by omega)]
 have l2:q2.length=ys.length*i.size:=by rw[aK _ _ r2,aL hs2,ly]
 have hsz:N*i.size<=cur.size:=by rw[g4];exact ycg _ g5
 obtain⟨m1,m2⟩:=pW (y':=zX) e1 (by rw[hnl,l2]) hsz;rw[l1]at m1 m2;let ncur:Array yh:=(cur.toList.take (n*i.size)++zX++cur.toList.drop (n*i.size+zX.length)).toArray;let J':Sg:={ J with m:=J.m.set id (ab b),H:=J.H.set id (.row v i.size af e (.p (.arr N i.size (xs.take n++(ys++xs.drop (n+ys.length)))))),w:=J.w.setRow b ncur};have hncs:ncur.size=cur.size:=m2;have zV:J'.w.heap[b]? =ab (.cells ncur e (0,0)):=setRow_heap J.w b cur _ e _ g2;have hoth:∀j,b≠j->J'.w.heap[j]? =J.w.heap[j]? :=λj hj=>setRow_other J.w b j _ (Ne.symm hj);have hmset:J'.m[id]? =ab (ab b):=aj hm;have hHset:J'.H[id]? =ab (.row v i.size af e (.p (.arr N i.size (xs.take n++(ys++xs.drop (n+ys.length)))))):=aj hH
 have hall2:aU i.size (xs.take n++(ys++xs.drop (n+ys.length))):=by
  by_cases hy:ys=[]
  .subst hy;exact Wh hs1 (Wh (λz hz=>by cases hz) (tz hxs _))
  .exact Wh hs1 (Wh (zU hy) (tz hxs _))
 obtain⟨to,ok'⟩:=YX (J':=J') (mi:=ab b) (mi':=ab b) ok hH hm rfl rfl rfl rfl rfl rfl rfl (by simp[J'])
  (λj hj hne=>hoth j (λhh=>hne (by rw[hh]))) (λb' o v _ hu _=>by cases hu.1) (λo _ hu=>by cases hu.1) (.inl rfl) (λ⟨d,st,h⟩=>by cases h) (λ⟨d,st,h⟩=>by cases h)
  (λs e xs h=>by cases h) (λleaf=>⟨N,by simp[aO],.inr ⟨b,ncur,cp,rfl,zV,by rw[hncs];exact g4,g5,g6,by
    rw[show ncur.toList.take (N*i.size)=q1++(zX++q3) from m1]
    refine ZZ leaf _ _ ?_;simp only[yH,aw];refine⟨by rw[yr,yr,yae,ybq];omega,hall2,Yh r1 (Yh hr r3)⟩⟩⟩)
  (λv2 s st e2 d h=>by cases h;exact⟨v,af,_,rfl,ym _,λ_=>⟨rfl,λb2 cur2 hb2 hcur=>by
    cases hb2;rw[g2]at hcur;cases hcur;exact⟨ncur,zV,hncs⟩⟩⟩)
 refine ZK (J':=J') (Ya ho zL yR htys (by rw[hv];exact zB)) to ok' ?_;rw[Ze rfl];simp only[yH];exact⟨_,_,rfl,hroom,h3,λh=>(by cases h),λ_=>⟨_,_,rfl⟩,v,i.size,af,e,_,hHset,ym _,λ_=>⟨rfl,.inr ⟨b,ncur,hmset,zV,by rw[hncs,yaz];exact k4,λ_=>by simp⟩⟩⟩
theorem ZwN(z:Array yh):(Builtin.zeroCells z 1).toList=z.toList:=by
 apply List.ext_getElem
 .simp[Builtin.zeroCells]
 .intro i h1 h2;have hi:i < z.size:=by simpa using h2
  simp[Builtin.zeroCells,Nat.mod_eq_of_lt hi,hi]
theorem ZBY(ok:Ok J)(yM:aD J ts a){c:Call}{x:yn}{t e e':yc}{i:TypeInfo}{z:Pl}{xs:yL Pl}{id v lo N:Nat}(ho:o.op=.call c)(zL:c.callee=.builtin .clear)
 (yR:c.args.toList=[x]) (htys:c.argTypes.toList=[t]) (ht:P.underlying t=ab (.slice e)) (hx:Zs P ts t x=.rv id v i.size lo 1) (hi:P.info? e=ab i) (hz:cf i=af) (hne:i.size≠0) (hzp:YP P e=.p z) (hzs:z.size=i.size)
 (hH:J.H[id]? =ab (.row v i.size af e' (.p (.arr N i.size xs)))) (hle:lo+1<=N):
 YH P o a J (.bj []) (J.H.set id (.row v i.size af e' (.p (.arr N i.size (xs.set lo z))))):=by
 have hxv:=Zj (P:=P) yM t x;rw[hx]at hxv;obtain⟨A,cc,hv,h2,h3,h4,hpall,hplen,q,hq,hql,hqc⟩:=tU ok hxv hH rfl hle;obtain⟨b,cur,cap,rfl,hm,hb,hcs,hcell⟩:=hqc (by omega);obtain⟨N',hN',hent⟩:=ok.dc id _ _ hH hm;simp only[aO,if_true,yj]at hN';subst hN';rcases hent with⟨h,_⟩|⟨b',cur',cap',h,g2,g4,g5,g6,g7⟩
 .cases h
 cases h;rw[hb]at g2;cases g2;obtain⟨zv,hzz,hzsz⟩:=Qy hz
 have hzr:yJ J (.p z) zv:=by
  rw[<-hzp];unfold YP;rw[hi];simp only[hzz];exact WW
 have hzc:=WO (d:=.p z) rfl hzr;simp only[yH]at hzc;have hzone:∀u,u∈zv.cells.toList->u.oneCell'=af:=zc _ _ hzc;have hzl:zv.cells.toList.length=i.size:=by rw[yau,hzsz]
 simp only[yH,aw]at g7;obtain⟨hxl,hxs,h7⟩:=g7;have hlo:lo < xs.length:=by omega
 have hxi:xs[lo]? =ab xs[lo]:=yac hlo;obtain⟨p1,p2,p3,e1,l1,r2,l2,r1,r3⟩:=kf h7 hxi;have l1':p1.length=lo*i.size:=by rw[l1,aL (λz hz=>hxs z (ybv hz)),yae,yay (by omega)]
 have l2':p2.length=i.size:=by rw[l2];exact hxs _ (List.getElem_mem hlo)
 have hsz:N*i.size<=cur.size:=by rw[g4];exact ycg _ g5
 obtain⟨k1,k2⟩:=pW (y':=zv.cells.toList) e1 (by rw[hzl,l2']) hsz;rw[l1']at k1 k2
 have hnl:lo*i.size+zv.cells.toList.length<=cur.size:=by
  rw[hzl, <-Nat.succ_mul];exact ybx (ycg _ hle) hsz
 have hst:=run_storeCells_at P b (lo*i.size) e' zv.cells.toList 0 cur J.w hb (by simpa using hnl) hzone;simp only[Nat.add_zero]at hst;let ncs:Array yh:=(cur.toList.take (lo*i.size)++zv.cells.toList++cur.toList.drop (lo*i.size+zv.cells.toList.length)).toArray;let J':Sg:={ J with m:=J.m.set id (ab b),H:=J.H.set id (.row v i.size af e' (.p (.arr N i.size (xs.set lo z)))),w:=J.w.setRow b ncs};have hncs:ncs.size=cur.size:=k2;have zV:J'.w.heap[b]? =ab (.cells ncs e' (0,0)):=setRow_heap J.w b cur _ e' _ hb;have hoth:∀j,b≠j->J'.w.heap[j]? =J.w.heap[j]? :=λj hj=>setRow_other J.w b j _ (Ne.symm hj)
 obtain⟨to,ok'⟩:=YX (J':=J') (mi:=ab b) (mi':=ab b) ok hH hm rfl rfl rfl rfl rfl rfl rfl (by simp[J'])
  (λj hj hne=>hoth j (λhh=>hne (by rw[hh]))) (λb' o v _ hu _=>by cases hu.1) (λo _ hu=>by cases hu.1) (.inl rfl) (λ⟨d,st,h⟩=>by cases h) (λ⟨d,st,h⟩=>by cases h)
  (λs e xs h=>by cases h) (λleaf=>⟨N,by simp[aO],.inr ⟨b,ncs,cap',rfl,zV,by rw[hncs];exact g4,g5,g6,by
    rw[show ncs.toList.take (N*i.size)=p1++(zv.cells.toList++p3) from k1]
    refine ZZ leaf _ _ ?_;simp only[yH,aw];refine⟨by rw[yba];exact hxl,tQ hxs hzs, ?_⟩;rw[mA hxi];refine Yh r1 ?_;simp only[an];exact⟨_,_,rfl,hzc,r3⟩⟩⟩)
  (λv2 s st e2 d h=>by cases h;exact⟨v,af,_,rfl,ym _,λ_=>⟨rfl,λb2 cur2 hb2 hcur=>by
    cases hb2;rw[hb]at hcur;cases hcur;exact⟨ncs,zV,hncs⟩⟩⟩)
 have h1:c.args= #[x]:=by rw[<-ycb (xs:=c.args),yR]
 have h2':c.argTypes= #[t]:=by rw[<-ycb (xs:=c.argTypes),htys]
 have hzv:(zeroValue e).run P J.w=.ok zv J.w:=by simp[zeroValue,typeInfo,hi,hzz]
 have zB:(Builtin.clear_ #[t] o.type #[a.eval x]).run P J.w=.ok (.tuple #[]) J'.w:=by
  rw[hv];simp[Builtin.clear_,run_underlying ht,hzv,ZwN,hst,J',ncs]
 refine ZK (J':=J') (v:=.tuple #[]) ?_ to ok' ?_
 .simp[execOp,ho,resolve,zL,h1,h2',invoke,builtin,zB]
 .rw[Ze rfl];simp only[yH];exact⟨#[],rfl,by simp[aE]⟩
theorem SR(ok:Ok J)(yM:aD J ts a){t:yc}{x:yn}{lo hi:yO yn}(ho:o.op=.slice t x lo hi ae)(h:bD P o ts J.H hs=ab (C,d,hs'))(hc:bc C):YH P o a J d J.H:=by
 simp only[bD,ho]at h;have hx:=Zj (P:=P) yM t x;split at h
 .rename_i e id v s l0 n l r hs1 hu hdx hl hr;rw[hdx]at hx;split at h
  .rename_i v' s' st e' dd hH;split at h
   .rename_i N hN;split at h
    .rename_i hk;simp only[yi,yP,yT]at hk;simp only[yE]at hk;obtain⟨⟨⟨⟨k1,k2⟩,k3⟩,k4⟩,k5⟩:=hk;subst k3;subst k4;simp only[yj,yl]at h;obtain⟨rfl,rfl,rfl⟩:=h;obtain⟨c1,c2,c3,_⟩:=hc;obtain⟨A,c,hx,h2,h3,h4,h5,h6⟩:=jB hx
     have hcap:N<=l0+c/\(0 < c->∃b o',A=ab ⟨b,o',ae⟩):=by
      obtain⟨v2,s2,st2,e2,d2,g1,g2,g3⟩:=h6;rw[hH]at g1;cases g1;obtain⟨_,g4⟩:=g3 rfl;have hidlt:id < J.m.length:=by rw[ok.len];exact(yo.1 hH).1
      have hmi:J.m[id]? =ab J.m[id]:=yac hidlt;obtain⟨N2,q1,q2⟩:=ok.dc id _ _ hH hmi;rw[hN]at q1;cases q1;rcases g4 with⟨g5,rfl,g6⟩|⟨b,cur,g5,g6,g7,g8⟩
      .rw[hmi]at g5;have g5:=yax g5;rcases q2 with⟨_,q2⟩|⟨b,cur,cap,q2,_⟩
       .exact⟨by omega,λh=>absurd h (by omega)⟩
       .rw[q2]at g5;cases g5
      .rw[hmi]at g5;have g5:=yax g5;rcases q2 with⟨q2,_⟩|⟨b2,cur2,cap,q2,q3,q4,q5,q6,_⟩
       .rw[q2]at g5;cases g5
       .rw[q2]at g5;cases g5;rw[g6]at q3;cases q3;refine⟨?_,λh=>⟨b,_,g8 h⟩⟩;have:cap*s'=(l0+c)*s':=by rw[<-q4,g7]
        have:=Nat.eq_of_mul_eq_mul_right (Nat.pos_of_ne_zero k5) this;omega
     have hbd:∃p q,(Instr.sliceBounds af n c (lo.map a.eval) (hi.map a.eval) ae).run P J.w=.ok (p,q,c) J.w/\p=(l.getD 0).toNat/\q=r.toNat/\p<=q/\q<=c:=by
      rcases Yz yM hr with⟨_,q⟩|⟨k2,i2,e2,q2⟩
      .cases q
      cases q2;have b2:0<=r/\r<=(c:Int):=⟨by omega,by omega⟩;rcases Yz yM hl with⟨e1,q⟩|⟨k1,i1,e1,q1⟩
      .subst q;refine⟨0,r.toNat, ?_,rfl,rfl,Nat.zero_le _,by omega⟩;rw[e1,e2];simp[Instr.sliceBounds,Instr.sliceBound,asIntOf,b2]
      .subst q1;simp only[Option.getD_some]at c1 c2;have b1:0<=i1/\i1<=(r.toNat:Int):=⟨c1,by omega⟩;refine⟨i1.toNat,r.toNat, ?_,rfl,rfl,by omega,by omega⟩;rw[e1,e2];simp[Instr.sliceBounds,Instr.sliceBound,asIntOf,b1,b2];omega
     obtain⟨p,q,hb,rfl,rfl,hpq,hqc⟩:=hbd;refine Zh (v:=.slice (if c=(l.getD 0).toNat then A else A.map (·.add ((l.getD 0).toNat*s'))) (r.toNat - (l.getD 0).toNat) (c - (l.getD 0).toNat)) ok ?_ ?_
     .have zB:(Instr.sliceAt t (a.eval x) (lo.map a.eval) (hi.map a.eval) ae).run P J.w=.ok (.slice (if c=(l.getD 0).toNat then A else A.map (·.add ((l.getD 0).toNat*s'))) (r.toNat - (l.getD 0).toNat) (c - (l.getD 0).toNat)) J.w:=by
       rw[hx];simp[Instr.sliceAt,Instr.slice,run_underlying hu,hb,ZV k2,k1]
      simp[execOp,ho,zB]
     .exact PC h2 h3 h4 hcap.2 h6 hpq hqc
    .cases h
   .cases h
  .cases h
 .rename_i n e id off yQ l r hs1 hu hdx hl hr;split at h
  .rename_i dd hH;split at h
   .rename_i C1 off' n' s xs hs2 hg;split at h
    .rename_i hk;simp only[yi,yP]at hk;obtain⟨⟨⟨rfl,k2⟩,k3⟩,k4⟩:=hk;simp only[yj,yl]at h;obtain⟨rfl,rfl,rfl⟩:=h;obtain⟨c1,c2⟩:=Zk.1 hc;obtain⟨c1,c3⟩:=Zk.1 c1;have:=PV ok yM ho hu hdx hl hr hH hg c1 c3.1 k2 k3 k4 c2
     have e1:J.H.set id (.var dd ag)=J.H:=by
      obtain⟨h1,h2⟩:=yo.1 hH;rw[<-h2,List.set_getElem_self]
     rw[e1]at this;exact this
    .cases h
   .cases h
  .cases h
 .cases h
theorem ZHL(ok:Ok J)(yM:aD J ts a)(h:cu P o ts J.H hs=ab (C,d,H',hs'))(hc:bc C):YH P o a J d H':=by
 unfold cu at h;split at h
 .rename_i x ho;have hv:=Zj (P:=P) yM o.type x;split at h
  .rename_i t' hs1;split at h
   .split at h
    .rename_i e s hu hx;rw[hx]at hv;split at h
     .rename_i i hi;split at h
      .simp only[yj,yl]at h;obtain⟨rfl,rfl,rfl,rfl⟩:=h;obtain⟨to,ok'⟩:=Wj (J':={ J with m:=J.m++[ae],H:=J.H++[.log i.size e []]}) ok rfl rfl rfl rfl (World.grownBy.refl J.w ae) (.inl rfl) (λ_=>.inl ⟨rfl,rfl⟩);refine ZK (J':={ J with m:=J.m++[ae],H:=J.H++[.log i.size e []]}) (v:=.slice ae 0 0) (by simp[execOp,ho,lb hv]) to ok' ?_;rw[Ze rfl];simp only[yH];refine⟨λ_ hx=>(by cases hx),ae,0,rfl,ym _,by simp[maxLen],Z7 _,λ_=>rfl,λh=>absurd rfl h,e,[],by simp,ym _,λ_=>.inl ⟨?_,rfl,rfl⟩⟩;rw[yam (by rw[ok.len];exact ym _),ok.len];simp
      .cases h
     .cases h
    .cases h
   .cases h
  .rename_i t' hs1;split at h
   .split at h
    .rename_i e s hu hx;rw[hx]at hv;split at h
     .rename_i i hi;split at h
      .simp only[yj,yl]at h;obtain⟨rfl,rfl,rfl,rfl⟩:=h;let J':Sg:={ J with m:=J.m++[ae],H:=J.H++[.row 0 i.size af e (.p (.arr 0 i.size []))]}
       have hmlast:J'.m[J.H.length]? =ab ae:=by
        show(J.m++[ae])[J.H.length]? =_;rw[yam (by rw[ok.len];exact ym _),ok.len];simp
       obtain⟨to,ok'⟩:=Wj (J':=J') ok rfl rfl rfl rfl (World.grownBy.refl J.w ae) (.inl rfl) (λ_=>⟨0,by simp[aO],.inl ⟨rfl,rfl⟩⟩);refine ZK (J':=J') (v:=.slice ae 0 0) (by simp[J',execOp,ho,lb hv]) to ok' ?_;rw[Ze rfl];simp only[yH];exact⟨ae,0,rfl,ym _,by simp[maxLen],λ_=>rfl,λh=>absurd h (Nat.lt_irrefl _),0,i.size,af,e,.p (.arr 0 i.size []),by simp[J'],ym _,λ_=>⟨rfl,.inl ⟨hmlast,rfl,rfl⟩⟩⟩
      .cases h
     .cases h
    .cases h
   .cases h
  .rename_i t' hs1;split at h
   .exact SI ok yM (by simp[execOp,ho]) h hc
   .cases h
  .cases h
 .rename_i x ho;split at h
  .rename_i t' hs1;split at h
   .exact SI ok yM (by simp[execOp,ho]) h hc
   .cases h
  .cases h
 .rename_i t l c ho;split at h
  .rename_i e n n' hu hl hcp;split at h
   .rename_i i hs1 hi;split at h
    .rename_i hk;simp only[yi,yE]at hk;simp only[yj,yl]at h;obtain⟨rfl,rfl,rfl,rfl⟩:=h;exact ZHI ok yM ho hu hl hcp hi hk.1 hk.2 hc.1 hc.2.1 hc.2.2.1 hc.2.2.2.1
    .cases h
   .rename_i i hs1 hi;split at h
    .rename_i hk;simp only[yi,yE]at hk;simp only[yj,yl]at h;obtain⟨rfl,rfl,rfl,rfl⟩:=h;exact ZHJ ok yM ho hu hl hcp hi hk.1 hc.1 hc.2.1 hc.2.2.1 hc.2.2.2.1
    .cases h
   .rename_i i hs1 hi;split at h
    .rename_i z hz;split at h
     .rename_i hk;simp only[yi,yP,Bool.not_eq_true']at hk;simp only[yj,yl]at h;obtain⟨rfl,rfl,rfl,rfl⟩:=h;exact ZEi ok yM ho hu hl hcp hi hk.1.1.1 hk.1.1.2 hz hk.1.2 hk.2 hc.1 hc.2.1 hc.2.2.1 hc.2.2.2.1
     .cases h
    .cases h
   .rename_i i hs1 hi;split at h
    .rename_i z hz;split at h
     .rename_i hk;simp only[yi,yP,Bool.not_eq_true']at hk;simp only[yj,yl]at h;obtain⟨rfl,rfl,rfl,rfl⟩:=h;exact ZEk ok yM ho hu hl hcp hi hk.1.1.1 hk.1.1.2 hz hk.1.2 hk.2 hc.1 hc.2.1 hc.2.2.1 hc.2.2.2.1
     .cases h
    .cases h
   .cases h
  .cases h
 .rename_i t ho;simp only[yj,yl]at h;obtain⟨rfl,rfl,rfl,rfl⟩:=h;exact ZHH ok ho
 .rename_i t m k x ho;split at h
  .rename_i kt et id hu hx;split at h
   .rename_i kk v t' bw l hs1 hk hv hH;split at h
    .rename_i hkt;simp only[yj,yl]at h;obtain⟨rfl,rfl,rfl,rfl⟩:=h;exact ZBV ok yM ho hu hx hk hv hH hkt hc.1 hc.2.1 hc.2.2.1
    .cases h
   .cases h
  .cases h
 .rename_i t m k x ho;split at h
  .rename_i kt et id hu hx;split at h
   .rename_i kk v t' bw l hs1 hk hv hH;split at h
    .rename_i hkt;simp only[yj,yl]at h;obtain⟨rfl,rfl,rfl,rfl⟩:=h;exact ZIT ok yM ho hu hx hk hv hH hkt hc.1 hc.2.1 hc.2.2.1
    .cases h
   .cases h
  .cases h
 .rename_i t ho;split at h
  .rename_i i hi;split at h
   .split at h
    .rename_i hk;simp only[yi]at hk;simp only[yj,yl]at h;obtain⟨rfl,rfl,rfl,rfl⟩:=h;exact SP (ZLZ ok ho hi (by obtain⟨z,hz,_⟩:=Qy hk.1.1;rw[hz];rfl) hk.1.2 hk.2) _
    .cases h
   .cases h
  .cases h
 .rename_i t x ho;have hv:=Zj (P:=P) yM t x;split at h
  .split at h
   .rename_i hk;simp only[yj,yl]at h;obtain⟨rfl,rfl,rfl,rfl⟩:=h;refine SP (ZP1 ok ho hk ?_) _;unfold lZ;split
    .rename_i y hy;exact ZHu hy hv
    .exact hv
   .cases h
  .cases h
 .rename_i t x y ho;split at h
  .rename_i id off yQ hx;split at h
   .rename_i dd hH;split at h
    .rename_i C1 off' sub hs1 hg;split at h
     .rename_i new hn;split at h
      .rename_i d' hp;split at h
       .rename_i hk;simp only[yi,yT]at hk;obtain⟨⟨⟨⟨k1,k2⟩,k3⟩,k4⟩,k5⟩:=hk;split at h
        .simp only[yj,yl]at h;obtain⟨rfl,rfl,rfl,rfl⟩:=h;obtain⟨c1,c2⟩:=Zk.1 hc;exact Zzh (ZL1 ok yM ho hx hH hg c1 c2.1 hn hp k1 k2 k3 k4) hH _
        .cases h
       .cases h
      .cases h
     .cases h
    .cases h
   .cases h
  .rename_i id v off yQ hx;split at h
   .rename_i v' s e dd hH;split at h
    .rename_i C1 off' sub hs1 hg;split at h
     .rename_i new hn;split at h
      .rename_i d' hp;split at h
       .rename_i hk;simp only[yi,yT]at hk;obtain⟨⟨⟨⟨⟨⟨k1,k2⟩,k3⟩,k4⟩,k5⟩,k6⟩,k7⟩:=hk;simp only[yj,yl]at h;obtain⟨rfl,rfl,rfl,rfl⟩:=h;obtain⟨c1,c2⟩:=Zk.1 hc;exact ZBX ok yM ho hx hH k6 hg c1 c2.1 hn hp k1 k2 k3 k4 k7
       .cases h
      .cases h
     .cases h
    .cases h
   .cases h
  .cases h
 .rename_i t len parts ho;split at h
  .rename_i id hs1;split at h
   .rename_i e v s st e' dd hu hH;split at h
    .rename_i i xs hi hl;split at h
     .rename_i hk;simp only[yi,yE,yP,yT]at hk;obtain⟨⟨hk,rfl⟩,rfl⟩:=hk;simp only[yj,yl]at h;obtain⟨rfl,rfl,rfl,rfl⟩:=h;exact ZEl ok yM ho hu hi hk.1.1 hk.1.2 hk.2 hl hH
     .cases h
    .cases h
   .cases h
  .rename_i hs1;split at h
   .rename_i e hu;split at h
    .rename_i i xs hi hl;split at h
     .rename_i hk;simp only[yi,yE,yP]at hk;simp only[yj,yl]at h;obtain⟨rfl,rfl,rfl,rfl⟩:=h;exact ZHK ok yM ho hu hi hk.1.1 hk.1.2 hk.2 hl
     .cases h
    .cases h
   .cases h
  .rename_i hs1;split at h
   .rename_i e hu;split at h
    .rename_i i xs hi hl;split at h
     .rename_i hk;simp only[yi,yE,yP]at hk;simp only[yj,yl]at h;obtain⟨rfl,rfl,rfl,rfl⟩:=h;exact ZEm ok yM ho hu hi hk.1.1 hk.1.2 hk.2 hl
     .cases h
    .cases h
   .cases h
  .rename_i hs1;split at h
   .rename_i e hu;split at h
    .rename_i i xs hi hl;split at h
     .rename_i hk;simp only[yi,yE,yP]at hk;simp only[yj,yl]at h;obtain⟨rfl,rfl,rfl,rfl⟩:=h;exact tD (ZHz ok yM ho hu hi hk.1.1 hk.1.2 hk.2 hl) (Wk.mr (by rw[<-Pl.cy];exact cA _)) (ct.append (ct.refl _) (.cons (.log (by rw[<-Pl.cy];exact cA _)) .nil))
     .cases h
    .cases h
   .cases h
  .cases h
 .rename_i t x lo hi ho;split at h
  .rename_i n e id off yQ l r hu hx hl hr;split at h
   .rename_i hs1;split at h
    .rename_i dd st hH;split at h
     .rename_i C1 off' n' s xs hs2 hg;split at h
      .rename_i hk;simp only[yi,yP]at hk;obtain⟨⟨⟨rfl,k2⟩,k3⟩,k4⟩:=hk;simp only[yj,yl]at h;obtain⟨rfl,rfl,rfl,rfl⟩:=h;obtain⟨c1,c2⟩:=Zk.1 hc;obtain⟨c1,c3⟩:=Zk.1 c1;exact PV ok yM ho hu hx hl hr hH hg c1 c3.1 k2 k3 k4 c2
      .cases h
     .cases h
    .cases h
   .cases h
  .rename_i e id v s lo' n l r hu hx hl hr;split at h
   .rename_i hs1;split at h
    .rename_i v' s' e' N s2 xs hH;split at h
     .rename_i hk;simp only[yi,yT,yE,yP]at hk;obtain⟨⟨⟨⟨⟨⟨⟨k1,k2⟩,k3⟩,k4⟩,k5⟩,k6⟩,k7⟩,k8⟩:=hk;simp only[yj,yl]at h;obtain⟨rfl,rfl,rfl,rfl⟩:=h;subst k3;subst k4;subst k5;subst k7
      have hR:bD P o ts J.H (.raw::hs1)=ab ([0<=l.getD 0,l.getD 0<=r,0+r.toNat<=N],.rv id v' s2 (0+(l.getD 0).toNat) (r.toNat - (l.getD 0).toNat),hs1):=by
       unfold bD;rw[ho];dsimp only;rw[hu,hx,hl,hr];dsimp only;rw[hH];simp[aO,k1,k2,k6]
      have:=SR ok yM ho hR ⟨by rw[k8];omega,by rw[k8];exact hc.1,by rw[yaz];exact hc.2.1,au⟩;rw[k8]at this;exact tD this (Wk.of_eq (by simp)) (ct.dR hH (.shr hc.2.1))
     .cases h
    .cases h
   .cases h
  .cases h
 .rename_i c ho;split at h
  .rename_i zL;split at h
   .rename_i x y t u yR htys;split at h
    .rename_i e id nn s xs hu hx;split at h
     .rename_i i C1 ys hs1 s' e' zs hi hsrc hH;split at h
      .rename_i hk;simp only[yi,yE,yP]at hk;obtain⟨⟨⟨⟨k1,k2⟩,rfl⟩,rfl⟩,k5⟩:=hk;simp only[yj,yl]at h;obtain⟨rfl,rfl,rfl,rfl⟩:=h;obtain⟨c1,rfl,c2,c3,_⟩:=Zk.1 hc;exact Zzd ok yM ho zL yR htys hu hx hi k1 k2 k5 (tV ok yM hsrc c1) hH c2 c3
      .cases h
     .cases h
    .rename_i e s hu hx;split at h
     .rename_i hs1 i ys hi hsrc;split at h
      .rename_i hk;simp only[yi,yE]at hk;simp only[yj,yl]at h;obtain⟨rfl,rfl,rfl,rfl⟩:=h;exact Zzc ok yM ho zL yR htys hu hx hi hk.1 hk.2 hsrc hc.1 hc.2.1
      .cases h
     .rename_i hs1 i ys hi hsrc;split at h
      .rename_i hk;simp only[yi,yE]at hk;simp only[yj,yl]at h;obtain⟨rfl,rfl,rfl,rfl⟩:=h;exact ZwK ok yM ho zL yR htys hu hx hi hk.1 hk.2 (Q9 (P:=P) yM hsrc) hc.1 hc.2.1
      .cases h
     .cases h
    .rename_i e id v s lo n hu hx;split at h
     .rename_i hs0;split at h
      .rename_i i C1 ys hs1 hi hsrc;split at h
       .rename_i hk;simp only[yj,yl]at h;obtain⟨rfl,rfl,rfl,rfl⟩:=h;obtain⟨c1,rfl,_⟩:=Zk.1 hc;exact ZwL ok yM ho zL yR htys hu hx hi (tV ok yM hsrc c1)
       .cases h
      .cases h
     .rename_i hs0;split at h
      .rename_i i C1 ys hs1 v' s' st' e' N s'' xs hi hsrc hH;split at h
       .rename_i hk;simp only[yi,yE,yP,yT]at hk;obtain⟨⟨⟨⟨⟨⟨⟨k1,rfl⟩,rfl⟩,rfl⟩,rfl⟩,k5⟩,rfl⟩,rfl⟩:=hk;simp only[yj,yl]at h;obtain⟨rfl,rfl,rfl,rfl⟩:=h;obtain⟨c1,cc⟩:=Zk.1 hc;have c2:=cc.1;have c3:=cc.2.1;have c4:=cc.2.2.1;have c5:=cc.2.2.2.1;exact Zzi ok yM c5 ho zL yR htys hu hx hi k1 k5 (tV ok yM hsrc c1) hH c2 c3 c4
       .cases h
      .cases h
     .rename_i hs0;split at h
      .rename_i i C1 ys hs1 v' s' e' N s'' xs hi hsrc hH;split at h
       .rename_i hk;simp only[yi,yE,yP,yT]at hk;obtain⟨⟨⟨⟨⟨⟨⟨k1,rfl⟩,rfl⟩,rfl⟩,rfl⟩,k5⟩,rfl⟩,rfl⟩:=hk;simp only[yj,yl]at h;obtain⟨rfl,rfl,rfl,rfl⟩:=h;obtain⟨c1,cc⟩:=Zk.1 hc;exact ZwM ok yM ho zL yR htys hu hx hi k1 k5 (tV ok yM hsrc c1) hH cc.1 cc.2.1
       .cases h
      .cases h
     .cases h
    .cases h
   .cases h
  .rename_i zL;split at h
   .rename_i x t yR htys;split at h
    .rename_i e id v s lo n hu hx;split at h
     .rename_i i z v' s' e' N s'' xs hi hz hH;split at h
      .rename_i hk;simp only[yi,yE,yP,yT]at hk;obtain⟨⟨⟨⟨⟨⟨k1,rfl⟩,rfl⟩,rfl⟩,rfl⟩,k5⟩,k6⟩:=hk;simp only[yj,yl]at h;obtain⟨rfl,rfl,rfl,rfl⟩:=h;obtain⟨rfl,hc1,_⟩:=hc;exact tD (ZBY ok yM ho zL yR htys hu hx hi k1 k5 hz k6 hH hc1) (Wk.refl _) (ct.bB _ _ (.row ⟨Wk.p (bN.iN (bq.bB (kZ z) _ _)),rfl⟩))
      .cases h
     .cases h
    .cases h
   .cases h
  .rename_i zL;split at h
   .rename_i x y t u yR htys;split at h
    .rename_i kt et id hu hx;split at h
     .rename_i kk t' bw l hs1 hk hH;split at h
      .rename_i hkt;simp only[yj,yl]at h;obtain⟨rfl,rfl,rfl,rfl⟩:=h;exact ZIU ok yM ho zL yR htys hu hx hk hH hkt hc.1 hc.2.1 hc.2.2.1
      .cases h
     .cases h
    .cases h
   .cases h
  .rename_i zL;split at h
   .rename_i x y t u yR htys;split at h
    .rename_i e id off yQ s lo n hu hx;split at h
     .rename_i ys dd hsrc hH;split at h
      .rename_i C1 off' N s' xs hs1 hg;split at h
       .rename_i dd' hp;split at h
        .rename_i hk;simp only[yi,yP]at hk;obtain⟨⟨rfl,k2⟩,k3⟩:=hk;simp only[yj,yl]at h;obtain⟨rfl,rfl,rfl,rfl⟩:=h;obtain⟨c1,c2⟩:=Zk.1 hc;exact ZOf ok yM ho zL yR htys hu hx hsrc hH hg c1 c2.1 hp k2 k3 c2.2.1 c2.2.2.1
        .cases h
       .cases h
      .cases h
     .cases h
    .cases h
   .cases h
  .rename_i f zL;split at h
   .rename_i g cap r Hc ids hs1 hf;split at h
    .rename_i hk;simp only[yi,yT,yP]at hk;split at h
     .rename_i args' Hin r' Hb yR hin hr hb;simp only[yj,yl]at h;obtain⟨rfl,rfl,rfl,rfl⟩:=h;exact RA ok yM ho zL hf hk.1.1.1 hk.1.1.2 hk.1.2 hk.2 yR hin hr hb hc.1
     .cases h
    .cases h
   .cases h
  .rename_i recv name zL;split at h
   .rename_i t x g r Hc ids hs1 hf;split at h
    .rename_i hk;simp only[yi,yT,yP]at hk;split at h
     .rename_i args' Hin r' Hb yR hin hr hb;simp only[yj,yl]at h;obtain⟨rfl,rfl,rfl,rfl⟩:=h;exact Zze ok yM ho zL hf hk.1.1.1 hk.1.1.2 hk.1.2 hk.2 yR hin hr hb hc.1 hc.2.1
     .cases h
    .cases h
   .cases h
  .cases h
 .cases h
theorem SS(ok:Ok J)(yM:aD J ts a)(h:eV P o ts J.H hs=ab (C,d,H',hs'))(hc:bc C):YH P o a J d H':=by
 unfold eV at h;split at h
 .rename_i C1 d1 hs1 h1;simp only[yj,yl]at h;obtain⟨rfl,rfl,rfl,rfl⟩:=h;exact ZHF ok yM h1 hc
 .split at h
  .rename_i C1 d1 hs1 h1;simp only[yj,yl]at h;obtain⟨rfl,rfl,rfl,rfl⟩:=h;have h2:=h1;unfold bD at h2;split at h2
   .rename_i t x ho;exact ZOe ok yM ho h1 hc
   .rename_i t x lo hi ho;exact SR ok yM ho h1 hc
   .rename_i t x ix comma ho;exact ZIR ok yM ho h1 hc
   .rename_i c ho;split at h2
    .rename_i zL;exact ZIS ok yM ho zL h1 hc
    .rename_i f zL;exact ZP2 ok yM ho zL h1 hc
    .cases h2
   .cases h2
  .exact ZHL ok yM h hc
theorem mF{J':Sg}{v:yh}(yM:aD J' ts a)(hd:yJ J' d v):aD J' (fO ts o.dst d) (a.put o.dst v):=by
 unfold fO Act.put
 cases o.dst with
 |none=>exact yM
 |some t=>
  refine⟨by simpa using yM.size,λi e hi=> ?_,yM.defers⟩;rw[ybl]at hi;split at hi
  .rename_i h;subst h;split at hi
   .rename_i hlt;cases hi;have:t < a.tmps.size:=by rw[yM.size];exact hlt
    simpa[Array.getD,this] using hd
   .cases hi
  .rename_i h;have:=yM.at_ i e hi;simpa[Array.getD_eq_getD_getElem?,Array.getElem?_setIfInBounds,h] using this
theorem ST{v:yh}{J':Sg}{dst:yO Tmp}(hc:bc (iu dst d hs).1)(hd:yJ J' d v):yJ J' (iu dst d hs).2.1 v:=by
 exact hd
theorem SU{J':Sg}:yJ J' (.bj []) undef:=by
 rw[Ze rfl];simp only[yH];exact⟨#[],rfl,by simp[aE]⟩
theorem tY{ops:Array Oper}(ok:Ok J)(yM:aD J ts a)(h:de P ops o ts J.H hs=ab (C,d,H',hs'))(hc:bc C)(K:Act->yz->Prop)(Q:Exit->Act->yz->Prop)
 (hK:∀v J',J'.H=H'->To J J'->Ok J'->aD J' (fO ts o.dst d) (a.put o.dst v)->K (a.put o.dst v) J'.w):
 if Region.wanted o (yielded ops a.tmps) then o.wp P a J.w K Q else K (a.put o.dst undef) J.w:=by
 unfold de at h;split at h
 .rename_i hg;simp only[yp,yl]at h;obtain⟨⟨C1,d1,H1,hs1⟩,h1,rfl,rfl,rfl,rfl⟩:=h;obtain⟨c1,c2⟩:=Zk.1 hc;have hw:Region.wanted o (yielded ops a.tmps)=af:=by simp[Region.wanted,hg]
  rw[yW hw];exact SS ok yM h1 c1 K Q λv J' e1 to ok' hd=>hK v J' e1 to ok' (mF (yM.to to.leaf) (ST c2 hd))
 .rename_i j want hg;split at h
  .rename_i t β hs1 ht
   have hy:yielded ops a.tmps j=ab t:=by
    unfold yielded;simp only[yp]at ht;obtain⟨tt,h1,h2⟩:=ht;rw[h1];simp only[Option.bind_some]
    have hlt:tt < ts.length:=by
     rcases ybr tt ts.length with h3|h3
     .exact h3
     .simp[List.getD,yan h3]at h2
    have h3:=yM.at_ tt (.p (.bool t)) (by
     have:=yac hlt;simp only[List.getD,this,Option.getD_some]at h2;rw[this,h2])
    have h4:=YD h3;have hlt':tt < a.tmps.size:=by rw[yM.size];exact hlt
    rw[yco hlt'];simp only[Array.getD,hlt',dif_pos]at h4;have h5:a.tmps[tt]=.bool t:=by simpa using h4
    rw[h5]
   split at h
   .rename_i hb;simp only[yp,yl]at h;obtain⟨⟨C1,d1,H1,hs2⟩,h1,rfl,rfl,rfl,rfl⟩:=h;obtain⟨c0,hc'⟩:=hc;obtain⟨c1,c2⟩:=Zk.1 hc';have hw:Region.wanted o (yielded ops a.tmps)=af:=by simp[Region.wanted,hg,hy,c0,hb]
    rw[yW hw];exact SS ok yM h1 c1 K Q λv J' e1 to ok' hd=>hK v J' e1 to ok' (mF (yM.to to.leaf) (ST c2 hd))
   .rename_i hb;simp only[yj,yl]at h;obtain⟨rfl,rfl,rfl,rfl⟩:=h;have c0:t=β:=hc.1
    have hw:Region.wanted o (yielded ops a.tmps)=ag:=by
     simp only[Region.wanted,hg,hy,c0];cases β <;> cases want <;> simp at hb ⊢
    rw[hw];exact hK undef J rfl (To.refl J) ok (mF yM SU)
  .rename_i hs1 ht;simp only[yj,yl]at h;obtain⟨rfl,rfl,rfl,rfl⟩:=h
   have hy:yielded ops a.tmps j=ae:=by
    unfold yielded;simp only[yp]at ht;obtain⟨tt,h1,h2⟩:=ht;rw[h1];simp only[Option.bind_some]
    have hlt:tt < ts.length:=by
     rcases ybr tt ts.length with h3|h3
     .exact h3
     .simp[List.getD,yan h3]at h2
    have h3:=yM.at_ tt (.bj []) (by
     have:=yac hlt;simp only[List.getD,this,Option.getD_some]at h2;rw[this,h2])
    have h4:=h3.2 rfl;simp only[yH]at h4;obtain⟨cs,h5,h6⟩:=h4;have hlt':tt < a.tmps.size:=by rw[yM.size];exact hlt
    rw[yco hlt'];simp only[Array.getD,hlt',dif_pos]at h5;have h7:a.tmps[tt]=.tuple cs:=by simpa using h5
    rw[h7]
   have hw:Region.wanted o (yielded ops a.tmps)=ag:=by
    simp only[Region.wanted,hg,hy];cases want <;> rfl
   rw[hw];exact hK undef J rfl (To.refl J) ok (mF yM SU)
  .cases h
theorem SV{ops:Array Oper}(Q:Exit->Act->yz->Prop){ts':yL Dv}:∀(l:yL Oper)(k:Nat)(ts:yL Dv)(J:Sg)(a:Act)(hs hs':yL al)(C:yL Prop)(H':yL ax),
 (∀j,l[j]? =ops[k+j]?)->Ok J->aD J ts a->ju P ops l ts J.H hs=ab (C,ts',H',hs')->bc C->
 (∀a' J',J'.H=H'->To J J'->Ok J'->aD J' ts' a'->Q .normal a' J'.w)->wpOps P ops Q (List.range' k l.length) a J.w
 |[],k,ts,J,a,hs,hs',C,H',_,ok,yM,h,hc,hQ=>by
  simp only[ju,yj,yl]at h;obtain⟨rfl,rfl,rfl,rfl⟩:=h
  exact hQ a J rfl (To.refl J) ok yM
 |o::l,k,ts,J,a,hs,hs',C,H',hl,ok,yM,h,hc,hQ=>by
  simp only[ju]at h;split at h
  .rename_i C1 d1 H1 hs1 h1;split at h
   .rename_i C2 ts2 H2 hs2 h2;simp only[yj,yl]at h;obtain⟨rfl,rfl,rfl,rfl⟩:=h;obtain⟨c1,c2⟩:=Zk.1 hc;have h0:ops[k]? =ab o:=by simpa using(hl 0).symm
    simp only[yah,List.range'_succ,wpOps,h0]
    have key:=tY (P:=P) (ops:=ops) ok yM h1 c1 (wpOps P ops Q (List.range' (k+1) l.length)) Q (λv J1 e1 to1 ok1 hrep1=>by
     subst e1
     exact SV Q l (k+1) _ J1 _ hs1 _ C2 _ (λj=>by have:=hl (j+1);simpa[yck,Nat.add_comm 1 j] using this) ok1 hrep1 h2 c2
      (λa' J' e2 to2 ok2 hrep2=>hQ a' J' e2 (to1.trans to2) ok2 hrep2))
    by_cases hw:Region.wanted o (yielded ops a.tmps)=af
    .rw[yW hw]at key ⊢;exact .inl key
    .rw[yX hw]at key ⊢;exact key
   .cases h
  .cases h
end
end Go.Ev
end
section
namespace Go.Ev
section
variable{P:yg}{o:Oper}{ts:yL Dv}{H H' H2:yL ax}{hs hs':yL al}{C:yL Prop}{d:Dv}
theorem ZIV{id:Nat}(h:nP P o ts=ab id)(hx:jw o=ag)(e:cL (H[id]?)=cL (H2[id]?)):bD P o ts H2 hs=bD P o ts H hs:=by
 unfold nP at h;unfold bD
 cases ho:o.op with
 |load t a=>
  simp only[ho]at h ⊢
  cases ha:Zs P ts 0 a with
  |ak i off yQ=>
   simp only[ha,yj]at h;subst h;simp only
   cases h1:H[i]? with
   |none=>
    rw[h1]at e
    cases h2:H2[i]? with
    |none=>rfl
    |some x=>rw[h2]at e;cases x <;> simp[cL]at e
   |some y=>
    rw[h1]at e
    cases h2:H2[i]? with
    |none=>rw[h2]at e;cases y <;> simp[cL]at e
    |some x=>
     rw[h2]at e
     cases x <;> cases y <;> simp_all[cL]
  |aY i v off yQ=>
   simp only[ha,yj]at h;subst h;simp only
   cases h1:H[i]? with
   |none=>
    rw[h1]at e
    cases h2:H2[i]? with
    |none=>rfl
    |some x=>rw[h2]at e;cases x <;> simp[cL]at e
   |some y=>
    rw[h1]at e
    cases h2:H2[i]? with
    |none=>rw[h2]at e;cases y <;> simp[cL]at e
    |some x=>
     rw[h2]at e
     cases x <;> cases y <;> simp_all[cL]
  |_=>simp[ha]at h
 |call c=>
  simp only[ho]at h ⊢
  cases hc:c.callee with
  |value f=>
   simp only[hc]at h ⊢
   cases ha:Zs P ts 0 f with
   |fn g cap=>
    simp only[ha]at h;split
    .rename_i g' cap' ps r hs2 hh;cases hh;rw[h];dsimp only;rw[e]
    .rfl
   |_=>simp[ha]at h
  |_=>simp[hc]at h
 |lookup t x ix ok=>
  simp only[ho]at h ⊢
  cases ha:Zs P ts t x with
  |mp i=>
   simp only[ha,yj]at h;subst h
   have hk:H2[i]? =H[i]? \/((∃d1 s1,H[i]? =ab (.var d1 s1))/\∃d2 s2,H2[i]? =ab (.var d2 s2))\/((∃v1 s1 t1 e1 d1,H[i]? =ab (.row v1 s1 t1 e1 d1))/\∃v1 s1 t1 e1 d1,H2[i]? =ab (.row v1 s1 t1 e1 d1)):=by
    cases h1:H[i]? with
    |none=>
     rw[h1]at e
     cases h2:H2[i]? with
     |none=>exact .inl rfl
     |some x=>rw[h2]at e;cases x <;> simp[cL]at e
    |some y=>
     rw[h1]at e
     cases h2:H2[i]? with
     |none=>rw[h2]at e;cases y <;> simp[cL]at e
     |some x=>
      rw[h2]at e;cases x <;> cases y <;> simp_all[cL]
   cases P.underlying t with
   |none=>rfl
   |some u=>
    cases u with
    |map kt et=>
     dsimp only;rcases hk with hk|⟨⟨d1,s1,k1⟩,d2,s2,k2⟩|⟨⟨_,_,_,_,_,k1⟩,_,_,_,_,_,k2⟩
     .rw[hk]
     .rw[k1,k2];cases Zs P ts kt ix <;> rfl
     .rw[k1,k2]
      cases Zs P ts kt ix <;> rfl
    |_=>rfl
  |_=>simp[ha]at h
 |slice t x lo hi mx=>simp[jw,ho]at hx
 |_=>simp[ho]at h
def fz(o:Oper)(x:yO ax):yO ax:=if jw o=af then x else cL x
theorem ZOg{id:Nat}(h:nP P o ts=ab id)(e:fz o (H[id]?)=fz o (H2[id]?)):bD P o ts H2 hs=bD P o ts H hs:=by
 unfold fz at e
 cases hx:jw o with
 |false=>
  rw[hx]at e
  exact ZIV h hx (by simpa using e)
 |true=>
  rw[hx,yW rfl,yW rfl]at e;unfold jw at hx;split at hx
  .rename_i t x lo hi mx ho;unfold nP at h;rw[ho]at h;unfold bD;rw[ho]
   cases mx with
   |some m=>simp at h
   |none=>
    dsimp only at h ⊢;split at h
    .rename_i i off yQ ha;cases h;rw[ha]
     cases P.underlying t with
     |none=>rfl
     |some u=>
      cases fT P ts lo with
      |none=>cases u <;> rfl
      |some l=>
       cases fT P ts hi with
       |none=>cases u <;> rfl
       |some h'=>
        cases hs with
        |nil=>cases u <;> rfl
        |cons hd tl=>cases u <;> cases hd <;> first|rfl|(dsimp only;rw[e])
    .cases h
  .cases hx
theorem ZHM{H:yL ax}{x:ax}{i:Nat}(hi:i < H.length):cL ((H++[x])[i]?)=cL (H[i]?):=by
 rw[yai hi]
theorem oa{H:yL ax}{x:ax}{i id:Nat}(h:¬id=i):cL ((H.set id x)[i]?)=cL (H[i]?):=by
 rw[ybl,yX h]
theorem SW{H:yL ax}{dd:Dv}{i id:Nat}(hh:∃st,H[id]? =ab (.var dd st)):cL ((H.set id (.var dd ag))[i]?)=cL (H[i]?):=by
 obtain⟨st,h⟩:=hh;by_cases e:id=i
 .subst e;rw[ybl,yW rfl,yW (yo.1 h).1,h];rfl
 .exact oa e
theorem ZIW{H:yL ax}{dd:Dv}{v s:Nat}{e:yc}{i id:Nat}(hh:∃st,H[id]? =ab (.row v s st e dd)):cL ((H.set id (.row v s ag e dd))[i]?)=cL (H[i]?):=by
 obtain⟨st,h⟩:=hh;by_cases e:id=i
 .subst e;rw[ybl,yW rfl,yW (yo.1 h).1,h];rfl
 .exact oa e
theorem SX:∀(ids:yL Nat)(H Hb:yL ax){i:Nat},i < H.length->ids.contains i=ag->cL ((ar H ids Hb)[i]?)=cL (H[i]?)
 |[],H,Hb,i,hi,_=>by
  simp only[ar]
  rw[yai hi]
 |_::_,H,[],i,hi,_=>by simp only[ar]
 |id::r,H,e::Hb,i,hi,h=>by
  simp only[List.contains_cons,Bool.or_eq_false_iff,beq_eq_false_iff_ne]at h;simp only[ar];rw[SX r (H.set id e) Hb (by simpa using hi) h.2];exact oa (λhh=>h.1 hh.symm)
theorem ZIX{dv:Dv}{i:Nat}(h:iM dv H hs=ab (C,d,H',hs')):cL (H'[i]?)=cL (H[i]?):=by
 unfold iM at h
 repeat' split at h
 all_goals first
  |(cases h;done)
  |(simp only[yj,yl]at h
    obtain⟨rfl,rfl,rfl,rfl⟩:=h
    first
     |exact SW ⟨_,by assumption⟩
     |(rename_i hk
       simp only[yi,yP,yT]at hk;obtain⟨⟨rfl,rfl⟩,rfl⟩:=hk;exact ZIW ⟨_,by assumption⟩))
theorem SY{l:yL Nat}{i:Nat}(h:cu P o ts H hs=ab (C,d,H',hs'))(ht:jv P o ts hs=ab l)(hi:i < H.length)(hl:l.contains i=ag):cL (H'[i]?)=cL (H[i]?):=by
 unfold cu at h
 repeat' (first|split at h|(dsimp only at h;split at h))
 all_goals first
  |(cases h;done)
  |exact ZIX h
  |(simp only[yj,yl]at h
    obtain⟨rfl,rfl,rfl,rfl⟩:=h
    first
     |rfl
     |exact ZHM hi
     |(rw[yai hi];done)
     |exact SW ⟨_,by assumption⟩
     |(rw[yai (by simpa using hi)]
       refine oa ?_;rintro rfl;simp_all[jv]
       exact hl (by rw[<-ht];simp))
     |(refine SX _ _ _ hi ?_
       simp_all[jv])
     |(refine oa ?_
       simp_all[jv]
       done)
     |(refine oa ?_
       rintro rfl;simp_all[jv];exact hl (by rw[<-ht];simp)))
end
end Go.Ev
end
