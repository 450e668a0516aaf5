/- Parts of the proof, in one file. -/
import Derived.Test.YtekdgjajmennjaaGreatKg
open Option renaming some → ab, none → ae
open Bool renaming true → af, false → ag
open Decidable renaming decide → ah
open Int renaming toNat_natCast → ybw
open List renaming getElem?_eq_some_iff → yo, length_append → yr, length_map → yx, replicate → yy, getElem?_eq_getElem → yac, map_append → yal, map_map → yaq, mem_singleton → yar, mem_cons → yaw, mem_append → ybs, not_mem_nil → ycd, getElem?_set_self → yci, getElem_of_mem → ycm
open Nat renaming le_trans → ybx
open Option renaming bind_some → ya
open UInt64 renaming ofNat → yaf, toNat_inj → ycp
set_option linter.unusedVariables false
set_option linter.unusedSimpArgs false
section
set_option maxRecDepth 4000
namespace Go.Proofs.YtekdgjajmennjaaGreat
open Go Go.Ev
def ZQU(own w:Int)(rev late ow pe:yU)(x:Zf):Prop:=gR x.1/\KO own w rev late ow pe x.1.2 x.2.1
theorem ZLI{ch:Chan}{s:yG}(r:xK ch s):∀c,c∈s.2.2.1->nE c:=λc hc=>by
 obtain⟨k,hk⟩:=List.getElem?_of_mem hc;exact(r.conds k (yo.1 hk).1 c hk).1
theorem ZPP{own:Int}{per:yU}{bo bp:bt}{to tp:bu}{a b:Int}{l:yL Cond}(ho:own=0\/own=1)(hd:bV tp)(hbo:fH bo)(hbp:fH bp)(ha:0<=a/\a<=1125899906842624)(hb:0<=b/\b<=1125899906842624)(hl:∀c,c∈l->nE c):
 ∀x,x∈lU own per bo bp to tp a b l->ZQU own tp.2.2.1 (fv bp.2.2.2.2 per) (dp bo.2.2.1 per) (dp bo.2.2.2.1 per) (dp bp.2.2.2.1 per) x:=by
 intro x hx
 have d0:0<=tp.2.2.1/\tp.2.2.1<=4096:=by
  obtain⟨_,h,_⟩:=hd;omega
 unfold lU at hx;rcases ybs.1 hx with hx|hx
 .rcases ybs.1 hx with hx|hx
  .rcases ybs.1 hx with hx|hx
   .split at hx
    .rw[yar.1 hx];obtain⟨q1,q2⟩:=ZPM d0.1 d0.2 (ZHh bp.2.2.2.2 per) (NW bo.2.2.1 per);exact⟨⟨ha.1,ha.2,q1,q2⟩,.inl ⟨rfl,rfl⟩⟩
    .cases hx
   .split at hx
    .rw[yar.1 hx];obtain⟨q1,q2⟩:=ZPN (hbp bp.2.1 (by simp[pts])).1;exact⟨⟨hb.1,hb.2,q1,q2⟩,.inr (.inl (.inl rfl))⟩
    .cases hx
  .simp only[yaw,ycd,or_false]at hx;rcases hx with rfl|rfl
   .obtain⟨q1,q2⟩:=ZLH (hbo bo.1 (by simp[pts])).1;exact⟨⟨show(0:Int)<=330 by decide,show(330:Int)<=1125899906842624 by decide,q1,q2⟩,.inr (.inl (.inr (.inl rfl)))⟩
   .obtain⟨q1,q2⟩:=ZLH (hbp bp.1 (by simp[pts])).1;exact⟨⟨show(0:Int)<=330 by decide,show(330:Int)<=1125899906842624 by decide,q1,q2⟩,.inr (.inl (.inr (.inr rfl)))⟩
 .obtain⟨c,hc,rfl⟩:=List.mem_map.1 hx;obtain⟨f1,f2,f3,f4,f5⟩:=hl c hc;obtain⟨q1,q2⟩:=ZPO (own:=own) d0.1 d0.2 (ZHh bp.2.2.2.2 per) (NW bo.2.2.2.1 per) (NW bp.2.2.2.1 per) (c:=c) f5.1 f4.1 f4.2;refine⟨⟨by show 0<=c.2.2.1;omega,f3.2,q1,q2⟩,.inr (.inr ⟨?_,rfl,f5,f4.1,f4.2⟩)⟩;by_cases h:c.1=own
  .left;exact⟨by show(if c.1=own then(5:Int) else 6)=5;rw[yW h],h⟩
  .right;exact⟨by show(if c.1=own then(5:Int) else 6)=6;rw[yX h],by show c.1=1 - own;omega⟩
theorem ZNv{own:Int}{per:yU}{bo bp:bt}{to tp:bu}{a b:Int}{l:yL Cond}(ha:0<=a)(hb:0<=b):((lU own per bo bp to tp a b l).map λx=>x.1.1).sum<=a+b+660+gH l:=by
 have e:((l.map (jq own tp.2.2.1 (fv bp.2.2.2.2 per) (dp bo.2.2.2.1 per) (dp bp.2.2.2.1 per))).map λx=>x.1.1).sum=gH l:=by
  rw[yaq];rfl
 unfold lU;rw[yal,yal,yal,List.sum_append,List.sum_append,List.sum_append,e]
 have h1:(List.map (λx:Zf=>x.1.1) (if a >= to.1 then[gp a (ij (fv bp.2.2.2.2 per) (dp bo.2.2.1 per) tp.2.2.1) (1,jX)] else[])).sum<=a:=by
  split
  .simp[gp]
  .simpa using ha
 have h2:(List.map (λx:Zf=>x.1.1) (if b >= to.1 then[gp b (iI bp.2.1) (2,jX)] else[])).sum<=b:=by
  split
  .simp[gp]
  .simpa using hb
 have h3:(List.map (λx:Zf=>x.1.1) [gp 330 (gU bo.1) (3,jX),gp 330 (gU bp.1) (4,jX)]).sum=660:=by simp[gp]
 omega
theorem ZNw{own:Int}{per:yU}{bo bp:bt}{to tp:bu}{a b:Int}{l:yL Cond}(hl:l.length<=16):(lU own per bo bp to tp a b l).length<=20:=by
 unfold lU;by_cases h1:a >= to.1
 .by_cases h2:b >= to.1
  .rw[yW h1,yW h2];simp;omega
  .rw[yW h1,yX h2];simp;omega
 .by_cases h2:b >= to.1
  .rw[yX h1,yW h2];simp;omega
  .rw[yX h1,yX h2];simp;omega
def lV:cS:=(([],[],0),[])
theorem ZLJ{ch:Chan}(w:fu ch){s:yG}(hs:s.2.1.length=2)(own:Int)(per:yU):
 ∃c e,aZ yD ch s own per=ab (c,e)/\(e=0->pB ch own per c)/\(e≠0->c=lV):=by
 obtain⟨rb,r1,r3⟩:=ZDQ w hs;by_cases ho:own=0\/own=1
 .by_cases hp:bn per.toNat
  .cases rb with
   |true=>
    have r:=r3 rfl;obtain⟨bo,bp,to,tp,hO,hP,d⟩:=Sd.all w r ho;refine⟨_,_,ZLE r1 r hp d,λ_=> ?_,λh=>absurd rfl h⟩
    have hside:bV to/\fH bo/\bV tp/\fH bp:=by
     have q1:=r.side own.toNat (by omega) to bo d.tO d.bO;have q2:=r.side (1 - own).toNat (by omega) tp bp d.tP d.bP;exact⟨q1.1,q1.2,q2.1,q2.2⟩
    have hfine:=ZLI r
    have hamt:∀c,c∈s.2.2.1->0<=c.2.2.1/\c.2.2.1<=1125899906842624:=λc hc=>by
     obtain⟨_,_,h,_⟩:=hfine c hc;omega
    have zW:=r.len;have hshl:=OA to s.2.2.1;have hq:=OB (r:=s.2.2.2) (n:=((ez to s.2.2.1).length:Int));have hqa:=OB (r:=s.2.2.2) (n:=(s.2.2.1.length:Int));have hmono:=ZLG (n:=(ez to s.2.2.1).length) (m:=s.2.2.1.length) r.rate.1 r.rate.2 hshl zW;have hc:=ZNu hamt;have hcf:gH (ez to s.2.2.1)<=gH s.2.2.1:=ZDZ _ hamt;obtain⟨p,q,e0,e1,e2,e3,e4,e5⟩:=r.gc;have hcost:wi (dj s.2.2.2 (s.2.2.1.length:Int)+660)=dj s.2.2.2 (s.2.2.1.length:Int)+660:=Yb (by omega) (by omega);rw[hcost]at e4 e5;rw[Yb (z:=p+q) (by omega) (by omega),ZHl _ _ hamt (by omega) (by omega)]at e3
    have hboth:hO+hP+gH s.2.2.1=ch.2.1/\(ch.2.2.2.2=own->hO >= dj s.2.2.2 (s.2.2.1.length:Int)+660)/\(ch.2.2.2.2=1 - own->hP >= dj s.2.2.2 (s.2.2.1.length:Int)+660):=by
     have v1:=d.vO;have v2:=d.vP;rw[e0]at v1 v2;rcases ho with rfl|rfl
     .cases v1;cases v2;exact⟨e3,e4,e5⟩
     .cases v1;cases v2;exact⟨by omega,e5,e4⟩
    obtain⟨b1,b2,b3⟩:=hboth;have am:=r.am;have o0:=d.o0;have p0:=d.p0;have o1:=d.o1;have p1:=d.p1
    have hA:0<=gG ch.2.2.2.2 s own hO (ez to s.2.2.1).length/\gG ch.2.2.2.2 s own hO (ez to s.2.2.1).length<=1125899906842624:=by
     unfold gG;split
     .rename_i h;have:=b2 h.symm;omega
     .omega
    have hB:0<=gG ch.2.2.2.2 s (1 - own) hP (ez to s.2.2.1).length/\gG ch.2.2.2.2 s (1 - own) hP (ez to s.2.2.1).length<=1125899906842624:=by
     unfold gG;split
     .rename_i h;have:=b3 h.symm;omega
     .omega
    have hAB:gG ch.2.2.2.2 s own hO (ez to s.2.2.1).length+gG ch.2.2.2.2 s (1 - own) hP (ez to s.2.2.1).length+660<=hO+hP:=by
     have hop:=r.op;unfold gG;by_cases h:own=ch.2.2.2.2
     .rw[yW h,yX (by omega)];omega
     .rw[yX h,yW (by omega)];omega
    have hitm:∀x,x∈nG ch s own per bo bp to tp hO hP->ZQU own tp.2.2.1 (fv bp.2.2.2.2 per) (dp bo.2.2.1 per) (dp bo.2.2.2.1 per) (dp bp.2.2.2.1 per) x:=
     ZPP ho hside.2.2.1 hside.2.1 hside.2.2.2 hA hB λc hc=>hfine c (ZLC hc)
    have hperm:(eu Q5 (nG ch s own per bo bp to tp hO hP)).Perm (nG ch s own per bo bp to tp hO hP):=ZID _;generalize hL:eu Q5 (nG ch s own per bo bp to tp hO hP)=L at hperm;have hno:=r.no
    have hnote:wi (wi (2*s.1)+own)=2*s.1+own:=by
     rw[Yb (z:=2*s.1) (by omega) (by omega),Yb (by omega) (by omega)]
    refine⟨rfl,r.at_, ?_, ?_, ?_, ?_, ?_,ho,hp,bo,bp,tp,d.bO,d.bP,hside.2.2.1, ?_⟩
    .unfold lT;dsimp only;rw[yx,yx,yx,yx]
    .unfold lT;dsimp only;rw[yx,yx,hperm.length_eq];exact ZNw (ybx hshl zW)
    .show 0<=wi (wi (2*s.1)+own)/\wi (wi (2*s.1)+own)<=9223372036854775807;rw[hnote];omega
    .intro o h;unfold lT at h;dsimp only at h;rw[yaq]at h;obtain⟨x,hx,rfl⟩:=List.mem_map.1 h;exact(hitm x (hperm.mem_iff.1 hx)).1
    .unfold ep lT;dsimp only;rw[yaq,yaq];show(L.map λx=>x.1.1).sum<=_;rw[ZLF (hperm.map _)];have:=ZNv (own:=own) (per:=per) (bo:=bo) (bp:=bp) (to:=to) (tp:=tp) (l:=ez to s.2.2.1) hA.1 hB.1;unfold nG;omega
    .intro k ou ro h1 h2;unfold lT at h1 h2;dsimp only at h1 h2;rw[yaq,List.getElem?_map]at h1 h2;obtain⟨x,hx,rfl⟩:=Option.map_eq_some_iff.1 h1;rw[hx]at h2;cases h2
     exact(hitm x (hperm.mem_iff.1 (List.mem_of_getElem? hx))).2
   |false=>
    refine⟨lV,14, ?_,λh=>absurd h (by decide),λ_=>rfl⟩;unfold aZ;rw[OC,ya,yY ho,yX (show¬(!true)=af by decide),Xh,ya,yY hp,yX (show¬(!true)=af by decide),r1,ya,yW (show(!false)=af by decide)];rfl
  .refine⟨lV,1, ?_,λh=>absurd h (by decide),λ_=>rfl⟩;unfold aZ;rw[OC,ya,yY ho,yX (show¬(!true)=af by decide),Xh,ya,yZ hp,yW (show(!false)=af by decide)];rfl
 .refine⟨lV,1, ?_,λh=>absurd h (by decide),λ_=>rfl⟩;unfold aZ;rw[OC,ya,yZ ho,yW (show(!false)=af by decide)];rfl
theorem Zy0{I X:Type}{step:I->yO (I⊕X)}(n:Nat)(st:Nat->I)(ok:Nat->Prop)(good:X)(bad:Nat->X)
 (h1:∀k,k < n->(∀j,j < k->ok j)->ok k->step (st k)=ab (.inl (st (k+1)))) (h2:∀k,k < n->(∀j,j < k->ok j)->¬ok k->step (st k)=ab (.inr (bad k))) (he:(∀j,j < n->ok j)->step (st n)=ab (.inr good)) (hn:n < 18446744073709551616):
 ∃x,Zc step yD (st 0)=ab x/\(cN n ok/\x=good\/¬cN n ok/\∃k,x=bad k):=by
 refine VF (step:=step) n (λk s=>s=st k/\∀j,j < k->ok j) _ (i:=st 0) ⟨rfl,λj h=>by omega⟩ hn ?_ ?_
 .rintro k _ hk ⟨rfl,hj⟩;by_cases h:ok k
  .left;refine⟨_,h1 k hk hj h,rfl,λj hjk=> ?_⟩;by_cases e:j=k
   .rw[e];exact h
   .exact hj j (by omega)
  .right;exact⟨_,h2 k hk hj h,.inr ⟨λq=>h (q k hk),k,rfl⟩⟩
 .rintro _ ⟨rfl,hj⟩;exact⟨_,he hj,.inl ⟨hj,rfl⟩⟩
theorem Zy1{K V:Type}[DecidableEq K](k:K)(v:V)(k':K):∀m:yL (K×V),fU (gv m k v) k'=if k'=k then ab v else fU m k'
 |[]=>rfl
 |q::m=>by
  have ih:=Zy1 k v k' m;unfold gv;by_cases h:k=q.1
  .rw[yW h];unfold fU;by_cases h2:k'=k
   .rw[yW h2,yW h2]
   .rw[yX h2,yX h2,yX (by rw[<-h];exact h2)]
  .rw[yX h];unfold fU;by_cases h3:k'=q.1
   .rw[yW h3,yW h3,yX (by rw[h3];exact λq=>h q.symm)]
   .rw[yX h3,yX h3,ih]
def jr(l:yL In):yL (Zo×Bool):=l.foldl (λm x=>gv m x.1 af) []
theorem ZHm{l:yL In}{k:Nat}{x:In}(h:l[k]? =ab x):jr (l.take (k+1))=gv (jr (l.take k)) x.1 af:=by
 rw[jn h,jr,List.foldl_append];rfl
theorem OD(l:yL In)(p:Zo):∀k,k<=l.length->(fU (jr (l.take k)) p=ab af/\(∃j y,j < k/\l[j]? =ab y/\y.1=p))\/(fU (jr (l.take k)) p=ae/\∀j y,j < k->l[j]? =ab y->y.1≠p)
 |0,_=>.inr ⟨rfl,λj y h=>by omega⟩
 |k+1,hk=>by
  obtain⟨x,hx,_⟩:=Zu (l:=l) (k:=k) (by omega);rw[ZHm hx,Zy1];by_cases h:p=x.1
  .rw[yW h];exact .inl ⟨rfl,k,x,by omega,hx,h.symm⟩
  .rw[yX h];rcases OD l p k (by omega) with⟨h1,j,y,h2,h3,h4⟩|⟨h1,h2⟩
   .exact .inl ⟨h1,j,y,by omega,h3,h4⟩
   .refine .inr ⟨h1,λj y h3 h4=> ?_⟩;by_cases e:j=k
    .subst e;rw[hx]at h4;cases h4;exact λq=>h q.symm
    .exact h2 j y (by omega) h4
def pC(w:jQ):Prop:=0<=w.1/\w.1 < 4/\w.2.1.length<=12
instance(w:jQ):Decidable (pC w):=by unfold pC;infer_instance
theorem ZLK(w:jQ):pb yD w=ab (ah (pC w)):=by
 unfold pb;refine(jW (q:=w.1 < 4/\(w.2.1.length:Int)<=12) (xJ _ _ rfl)).trans (congrArg ab (decide_eq_decide.2 ?_));unfold pC;omega
def kT(l:yL In)(k:Nat):Prop:=∀x,l[k]? =ab x->(0<=x.1.2/\x.1.2 < 64)/\pC x.2/\∀j y,j < k->l[j]? =ab y->y.1≠x.1
theorem ZIE(t:Tx)(hl:t.1.length<=100):∃x,Zc (Qd yD) yD (t.1,(t.1.length:Int),(0:Int),t,([]:yL (Zo×Bool)))=ab x/\(cN t.1.length (kT t.1)/\x=.inr (t,jr t.1)\/¬cN t.1.length (kT t.1)/\∃k:Nat,x=.inl (ag,t,jr (t.1.take k))):=by
 refine Zy0 t.1.length (λk:Nat=>(t.1,(t.1.length:Int),(k:Int),t,jr (t.1.take k))) (kT t.1) (Sum.inr (t,jr t.1)) (λk=>Sum.inl (ag,t,jr (t.1.take k))) ?_ ?_ ?_ (by omega)
 .intro k hk _ hok;obtain⟨x,hx,_⟩:=Zu hk;obtain⟨o1,o2,o3⟩:=hok x hx;unfold Qd;dsimp only;rw[yW (XA hk),Yg hx,ya];rcases OD t.1 x.1 k (by omega) with⟨_,j,y,h2,h3,h4⟩|⟨h1,_⟩
  .exact absurd h4 (o3 j y h2 h3)
  .rw[h1];unfold kE;dsimp only;rw[yX (show¬ah (x.1.2 < 0)=af by rw[yN];omega),yX (show¬ah (x.1.2 >= 64)=af by rw[yN];omega),ZLK,ya,yY o2,yX (by decide),ZO (by omega),ZHm hx]
 .intro k hk _ hno;obtain⟨x,hx,_⟩:=Zu hk;unfold Qd;dsimp only;rw[yW (XA hk),Yg hx,ya];rcases OD t.1 x.1 k (by omega) with⟨h1,_⟩|⟨h1,h2⟩
  .rw[h1];unfold kE;dsimp only;rw[yW rfl]
  .rw[h1];unfold kE;dsimp only;by_cases c1:x.1.2 < 0
   .rw[yW (yY c1)]
   .rw[yX (show¬ah (x.1.2 < 0)=af by rw[yN];exact c1)];by_cases c2:x.1.2 >= 64
    .rw[yW (yY c2)]
    .rw[yX (show¬ah (x.1.2 >= 64)=af by rw[yN];exact c2),ZLK,ya];by_cases c3:pC x.2
     .refine absurd ?_ hno;intro x' hx';rw[hx]at hx';cases hx';exact⟨⟨by omega,by omega⟩,c3,h2⟩
     .rw[yZ c3,yW (by decide)]
 .intro _;unfold Qd;dsimp only;rw[yX (by rw[YN];decide),List.take_length]
theorem ZD0(z:Int):sv yD z=ab (ah (0<=z/\z<=1125899906842624)):=xJ (z >= 0) (z<=1125899906842624) rfl
theorem ZD1{a b:Int}(h0:0<=a)(h1:a<=1125899906842624):nu yD a b=ab (if(0<=b/\b<=1125899906842624)/\a+b<=1125899906842624 then(a+b,af) else(0,ag)):=by
 unfold nu;rw[ZD0,ya,yY (p:=0<=a/\a<=1125899906842624) ⟨h0,h1⟩,yX (show¬(!true)=af by decide),ZD0,ya];by_cases hb:0<=b/\b<=1125899906842624
 .rw[yY hb,yX (show¬(!true)=af by decide),Yb (z:=1125899906842624 - b) (by omega) (by omega),Yb (z:=a+b) (by omega) (by omega)];by_cases h:a+b<=1125899906842624
  .rw[yX (show¬ah (a > 1125899906842624 - b)=af by rw[yN];omega),yW ⟨hb,h⟩]
  .rw[yW (show ah (a > 1125899906842624 - b)=af from yY (by omega)),yX λq=>h q.2]
 .rw[yZ hb,yW (show(!false)=af by decide),yX λq=>hb q.1]
structure td(t:Tx):Prop where
 ins:t.1.length<=70
 outs:t.2.1.length<=70
 lW:∀o,o∈t.2.1->dJ o.2
def ZLL(o:Out):Prop:=(0<=o.1/\o.1<=1125899906842624)/\V4 o.2/\ig o.2
def gf(l:yL Out)(k:Nat):Prop:=∀o,l[k]? =ab o->ZLL o/\ep (l.take (k+1))<=1125899906842624
def ZPQ(l:yL Out)(k:Nat):Prop:=∀o,l[k]? =ab o->ZLL o
theorem ZHn{l:yL Out}:∀k,k<=l.length->(∀j,j < k->ZPQ l j)->0<=ep (l.take k)/\ep (l.take k)<=k*1125899906842624
 |0,_,_=>by simp[ep]
 |k+1,hk,h=>by
  obtain⟨o,ho,_⟩:=Zu (l:=l) (k:=k) (by omega);have ih:=ZHn k (by omega) λj hj=>h j (by omega);have hc:=(h k (by omega) o ho).1;rw[xI ho];omega
theorem ZFT{t:Tx}(hl:td t)(m:yL (Zo×Bool)):∃x,Zc (Qe yD) yD ((0:Int),t.2.1,(t.2.1.length:Int),(0:Int),t,m)=ab x/\(cN t.2.1.length (gf t.2.1)/\x=.inr (t,m)\/¬cN t.2.1.length (gf t.2.1)/\∃k:Nat,x=.inl (ag,t,m)):=by
 have hw:=hl.outs
 have sm:∀k,k<=t.2.1.length->(∀j,j < k->gf t.2.1 j)->0<=ep (t.2.1.take k)/\ep (t.2.1.take k)<=1125899906842624:=by
  intro k hk h;refine⟨(ZHn k hk λj hj o ho=>(h j hj o ho).1).1, ?_⟩
  cases k with
  |zero=>simp[ep]
  |succ k=>
   obtain⟨o,ho,_⟩:=Zu (l:=t.2.1) (k:=k) (by omega);exact(h k (by omega) o ho).2
 refine Zy0 t.2.1.length (λk:Nat=>(ep (t.2.1.take k),t.2.1,(t.2.1.length:Int),(k:Int),t,m)) (gf t.2.1) (Sum.inr (t,m)) (λ_=>Sum.inl (ag,t,m)) ?_ ?_ ?_ (by omega)
 .intro k hk hj hok;obtain⟨o,ho,hm⟩:=Zu hk;obtain⟨⟨o1,o2⟩,o3⟩:=hok o ho;rw[xI ho]at o3;obtain⟨s0,s1⟩:=sm k (by omega) hj;obtain⟨b,b1,b2⟩:=NX (hl.lW o hm);unfold Qe;dsimp only;rw[yW (XA hk),Yg ho,ya,ZD1 s0 s1,yW ⟨o1,o3⟩,ya,yX (by simp),b1,ya,b2.2 o2,yX (by decide),ZO (by omega),xI ho]
 .intro k hk hj hno;obtain⟨o,ho,hm⟩:=Zu hk;obtain⟨s0,s1⟩:=sm k (by omega) hj;obtain⟨b,b1,b2⟩:=NX (hl.lW o hm);unfold Qe;dsimp only;rw[yW (XA hk),Yg ho,ya,ZD1 s0 s1,ya];by_cases c:(0<=o.1/\o.1<=1125899906842624)/\ep (t.2.1.take k)+o.1<=1125899906842624
  .rw[yW c,yX (by simp),b1,ya]
   cases b with
   |true=>
    refine absurd ?_ hno;intro o' ho';rw[ho]at ho';cases ho';rw[xI ho]
    exact⟨⟨c.1,b2.1 rfl⟩,c.2⟩
   |false=>rw[yW (by decide)]
  .rw[yX c,yW (by simp)]
 .intro _;unfold Qe;dsimp only;rw[yX (by rw[YN];decide)]
noncomputable def nmF(t:Tx):yL yB:=Sha.gP (jp ZN5 [nC t])
theorem ZIF{t:Tx}(h:(nC t).length<=40000):∀x,x∈[nC t]->x.length<=60000:=λx hx=>by
 rw[yar.1 hx];omega
theorem OE(p:yU):∃o,WQ yD p=ab o/\o.length=8:=by
 unfold WQ
 obtain⟨x,h1,h2⟩:=VF (step:=Y4 yD) 8 (λk s=>∃c,s=(p,(8:Int),(k:Int),c)/\c.length=8) (λx=>x.length=8) (i:=(p,(8:Int),(0:Int),([0,0,0,0,0,0,0,0]:yL yB))) ⟨_,rfl,rfl⟩ (by omega) (by
  rintro k _ hk ⟨c,rfl,hc⟩;left;obtain⟨e,he,_⟩:=Zu (l:=c) (k:=k) (by omega);unfold Y4;dsimp only;rw[yW (yY (by omega)),Yb (z:=8*(k:Int)) (by omega) (by omega),Yb (z:=56 - 8*(k:Int)) (by omega) (by omega),yW (yY (by omega)),yW (ZQ (by omega) (by omega)),ybw,Nat.zero_add,he,ya,ZO (by omega)];exact⟨_,rfl,_,rfl,by rw[List.length_set];exact hc⟩) (by
  rintro _ ⟨c,rfl,hc⟩;unfold Y4;dsimp only;rw[yX (fM (by omega))];exact⟨_,rfl,hc⟩)
 rw[h1,ya];exact⟨_,rfl,by simp[h2]⟩
theorem ZD2(r p:yU){m:yL yB}(hm:m.length=32):∃k,XG yD r p m=ab k:=by
 unfold XG;obtain⟨a,a1,a2⟩:=OE r;obtain⟨b,b1,b2⟩:=OE p
 obtain⟨c,c1,c2⟩:=ZHb (s:=KM) (ls:=[a,b,m]) (by decide) (by simp) (by
  intro l hl;simp only[yaw,ycd,or_false]at hl;rcases hl with rfl|rfl|rfl <;> omega)
 obtain⟨k,k1,k2⟩:=xH c2;rw[a1,ya,b1,ya,c1,ya,k1,ya];exact⟨_,rfl⟩
theorem xP:tk 1=1:=po vR
theorem ZLM(n:Nat):sc 1 n=1:=by
 rw[<-ycp,xE,xP,show(1:yU).toNat=1 from rfl,Nat.one_pow]
 rfl
theorem ZPR(p:yU)(h:bn p.toNat):ad p 1=p:=by
 rw[<-ycp,ZK6,po h,xP];show p.toNat*1 % dI=_;rw[Nat.mul_one,Nat.mod_eq_of_lt h.2.1]
instance(k:yU):Decidable (Key k):=by unfold Key;infer_instance
theorem ZHo(k:yU):wC yD k=ab (ah (Key k)):=by
 unfold wC;rw[sR,ya];by_cases h:k.toNat < cv
 .rw[yW (yY h)];congr 1;by_cases h0:k=0
  .subst h0;rw[yZ (by unfold Key;exact λh=>absurd h.1 (by decide))];rfl
  .have:0 < k.toNat:=by
    rcases Nat.eq_zero_or_pos k.toNat with h1|h1
    .exact absurd (ycp.1 h1) h0
    .exact h1
   rw[yY (p:=Key k) ⟨this,h⟩];exact bne_iff_ne.2 h0
 .rw[yX (by rw[yN];exact h),yZ (λhk=>h hk.2)]
theorem ZHp{k:yU}(hk:Key k){m:yL yB}(hm:m.length=32):∃s,Wy yD k m=ab s/\Xp yD (B k.toNat) m s=ab af:=by
 obtain⟨a,a1,a2⟩:=OE k
 obtain⟨c,c1,c2⟩:=ZHb (s:=ZN4) (ls:=[a,m]) (by decide) (by simp) (by
  intro l hl;simp only[yaw,ycd,or_false]at hl;rcases hl with rfl|rfl <;> omega)
 obtain⟨n,n1,n2⟩:=xH c2;obtain⟨x,x1⟩:=ZD2 (B n.toNat) (B k.toNat) hm;refine⟨(B n.toNat,yaf ((n.toNat+(yaf (x.toNat*k.toNat % cv)).toNat) % cv)), ?_, ?_⟩
 .unfold Wy;rw[ZHo,ya,yY hk,yX (by decide),a1,ya,c1,ya,n1,ya];unfold KP;rw[QQ,ya,NG,ZPR _ (nB _),ya,QQ,ya,x1,ya,ZNg,ya,ZNf,ya];rfl
 .unfold Xp Va
  have hr:Wn yD (yaf ((n.toNat+(yaf (x.toNat*k.toNat % cv)).toNat) % cv))=ab af:=by
   rw[sR,xG,yY sQ]
  dsimp only;rw[yX (by rw[yT];exact ZQT hk),Xh,yY (nB _),ya,yX (by decide),Xh,yY (show bn (1:yU).toNat from vR),ya,yX (by decide),Xh,yY (nB _),ya,yX (by decide),hr,ya,yX (by decide),x1,ya,pq,ya,NH,ya,xF (by simp),ya,QQ,ya,ya]
  refine congrArg ab ?_;rw[yT,ZQP,xG,ZRG, <-ycp,jT]
  have e1:(tk (sc 1 (cv - 1))).toNat=1:=by
   rw[ZLM,xP];rfl
  unfold ft ft ft ft;rw[sN (sO _),po (nB _),po (nB _),e1,Nat.one_mul,Nat.mul_one,jT,jT,Nat.mod_mod,Nat.mod_mod, <-Nat.mul_mod, <-Nat.pow_add];rw[Nat.mul_comm k.toNat, <-jT, <-jT, <-NF,Nat.add_mod_mod,NF]
theorem OF(k:yU){m:yL yB}(hm:m.length=32):∃s,Wy yD k m=ab s:=by
 by_cases hk:Key k
 .obtain⟨s,h1,_⟩:=ZHp hk hm;exact⟨s,h1⟩
 .unfold Wy;rw[ZHo,ya,yZ hk,yW (by decide)];exact⟨_,rfl⟩
theorem cZ{α:Type}{c:Prop}[Decidable c]{a b:yO α}(h1:∃x,a=ab x)(h2:∃x,b=ab x):∃x,(if c then a else b)=ab x:=by
 split
 .exact h1
 .exact h2
theorem ZFU(p:yU){m:yL yB}(hm:m.length=32)(s:cQ):∃b,Xp yD p m s=ab b:=by
 obtain⟨x,x1⟩:=ZD2 s.1 p hm
 have h:∃b,Va yD p m 1 s=ab b:=by
  unfold Va;rw[Xh,Xh,Xh,sR,ya,ya,ya,ya,x1,ya,pq,ya,NH,ya,xF (by simp),ya,QQ,ya];exact cZ ⟨_,rfl⟩ (cZ ⟨_,rfl⟩ (cZ ⟨_,rfl⟩ (cZ ⟨_,rfl⟩ (cZ ⟨_,rfl⟩ ⟨_,rfl⟩))))
 obtain⟨b,hb⟩:=h;unfold Xp;rw[hb,ya];exact⟨_,rfl⟩
theorem bB{α:Type}{l:yL α}{k:Nat}{e:α}(h:l[k]? =ab e):l.set k e=l:=by
 apply List.ext_getElem?;intro j;by_cases hj:j=k
 .subst hj;rw[yci (yo.1 h).1,h]
 .rw[List.getElem?_set_ne (Ne.symm hj)]
def bare(l:yL Zo):yL In:=l.map λx=>(x,((0:Int),([]:yL cQ),(0:yU)))
noncomputable def gg(k:cU):bt:=(B k.1.toNat,B k.2.1.toNat,B k.2.2.1.toNat,B k.2.2.2.1.toNat,B k.2.2.2.2.1.toNat)
theorem OG(k:cU):Qa yD k=ab (gg k):=by
 unfold Qa;rw[QQ,ya,QQ,ya,QQ,ya,QQ,ya,QQ,ya];rfl
structure RT(t:Tx):Prop where
 i0:0 < t.1.length
 i1:t.1.length<=64
 o1:t.2.1.length<=64
 n0:0<=t.2.2
 ins:cN t.1.length (kT t.1)
 outs:cN t.2.1.length (gf t.2.1)
theorem txr{t:Tx}(hl:td t):∃b,Vo yD t=ab b/\(b=af->RT t):=by
 obtain⟨x,x1,x2⟩:=ZIE t (by have:=hl.ins;omega);obtain⟨y,y1,y2⟩:=ZFT hl (jr t.1);unfold Vo;have no:∃b:Bool,ab ag=ab b/\(b=af->RT t):=⟨ag,rfl,λh=>by cases h⟩;by_cases c1:(t.1.length:Int) < 1
 .rw[yW (yY c1)];exact no
 by_cases c2:(t.1.length:Int) > 64
 .rw[yX (show¬ah ((t.1.length:Int) < 1)=af by rw[yN];exact c1),yW (yY c2)];exact no
 by_cases c3:(t.2.1.length:Int) > 64
 .rw[yX (show¬ah ((t.1.length:Int) < 1)=af by rw[yN];exact c1),yX (show¬ah ((t.1.length:Int) > 64)=af by rw[yN];exact c2),yW (yY c3)];exact no
 by_cases c4:t.2.2 < 0
 .rw[yX (show¬ah ((t.1.length:Int) < 1)=af by rw[yN];exact c1),yX (show¬ah ((t.1.length:Int) > 64)=af by rw[yN];exact c2),yX (show¬ah ((t.2.1.length:Int) > 64)=af by rw[yN];exact c3),yW (yY c4)];exact no
 rw[yX (show¬ah ((t.1.length:Int) < 1)=af by rw[yN];exact c1),yX (show¬ah ((t.1.length:Int) > 64)=af by rw[yN];exact c2),yX (show¬ah ((t.2.1.length:Int) > 64)=af by rw[yN];exact c3),yX (show¬ah (t.2.2 < 0)=af by rw[yN];exact c4),x1,ya];rcases x2 with⟨hI,rfl⟩|⟨_,k,rfl⟩
 .dsimp only;rw[y1,ya];rcases y2 with⟨hO,rfl⟩|⟨_,k,rfl⟩
  .exact⟨af,rfl,λ_=>⟨by omega,by omega,by omega,by omega,hI,hO⟩⟩
  .exact no
 .exact no
theorem RT.ok{t:Tx}(h:RT t):ZQS t:=by
 refine⟨h.i0,h.i1,h.o1,h.n0,λx hx=> ?_,λx hx=> ?_⟩
 .obtain⟨j,j1,j2⟩:=ycm hx;obtain⟨r1,r2,_⟩:=h.ins j j1 x (by rw[<-j2];exact yac j1);exact⟨r1.1,r1.2,r2.1,r2.2.1,r2.2.2⟩
 .obtain⟨j,j1,j2⟩:=ycm hx;obtain⟨r1,_⟩:=h.outs j j1 x (by rw[<-j2];exact yac j1);exact⟨r1.1.1,r1.1.2,r1.2.1,r1.2.2⟩
theorem RT.id{t:Tx}(h:RT t)(hw:sV t)(hr:Vo yD t=ab af):ck yD t=ab (nmF t)/\(nmF t).length=32:=by
 obtain⟨g1,g2⟩:=ZLi hw h.ok;refine⟨?_,Sha.lM _⟩;unfold ck;rw[hr,ya,yX (by decide),g1,ya,nD (by decide) (by simp) (ZIF g2),ya];rfl
theorem Zy3(a b:Int){l:yL Int}(hl:l.length<=100):VO yD a b l=ab (ah (∀x,x∈l->a<=x/\x<=b)):=by
 obtain⟨x,h1,h2⟩:=VF (step:=Yj yD) l.length (λk s=>s=(l,(l.length:Int),(k:Int),a,b)/\∀j x,j < k->l[j]? =ab x->a<=x/\x<=b)
  (λx=>(∃j:Nat,x=.inl ((j:Int),a,b))/\(¬∀x,x∈l->a<=x/\x<=b)\/x=.inr (a,b)/\∀x,x∈l->a<=x/\x<=b) (i:=(l,(l.length:Int),(0:Int),a,b)) ⟨rfl,λj x h=>by omega⟩ (by omega) (by
  rintro k _ hk ⟨rfl,hj⟩;obtain⟨x,hx,hm⟩:=Zu hk;unfold Yj IQ;dsimp only;rw[yW (XA hk),Yg hx,ya];by_cases c1:x < a
  .right;rw[yW (yY c1),ya];dsimp only;rw[yW rfl];exact⟨_,rfl,.inl ⟨⟨k,rfl⟩,λh=>by have:=h x hm;omega⟩⟩
  .rw[yX (show¬ah (x < a)=af by rw[yN];exact c1),ya];dsimp only;by_cases c2:x > b
   .right;rw[yW (yY c2)];exact⟨_,rfl,.inl ⟨⟨k,rfl⟩,λh=>by have:=h x hm;omega⟩⟩
   .left;rw[yX (show¬ah (x > b)=af by rw[yN];exact c2),ZO (by omega)];refine⟨_,rfl,rfl,λj y h hy=> ?_⟩;by_cases e:j=k
    .subst e;rw[hx]at hy;cases hy;omega
    .exact hj j y (by omega) hy) (by
  rintro _ ⟨rfl,hj⟩;unfold Yj;dsimp only;rw[yX (by rw[YN];decide)];refine⟨_,rfl,.inr ⟨rfl,λx hx=> ?_⟩⟩;obtain⟨j,j1,j2⟩:=ycm hx;exact hj j x j1 (by rw[<-j2];exact yac j1))
 unfold VO XF X9;rw[h1,ya];rcases h2 with⟨⟨j,rfl⟩,hn⟩|⟨rfl,h⟩
 .rw[yZ hn];show ab (!decide ((j:Int) >= 0))=_;rw[yY (show(j:Int) >= 0 by omega)];rfl
 .rw[yY h];rfl
def te(k:cU):yL yU:=[k.1,k.2.1,k.2.2.1,k.2.2.2.1,k.2.2.2.2.1]
theorem ZFV{l:yL yU}(hl:l.length=5)(k:ZD):∃x,Zc (XU yD) yD (l,(5:Int),(0:Int),k)=ab x/\(x=.inl (ag,k)/\(¬∀e,e∈l->e.toNat < cv)\/x=.inr k/\∀e,e∈l->e.toNat < cv):=by
 refine VF (step:=XU yD) 5 (λi s=>s=(l,(5:Int),(i:Int),k)/\∀j e,j < i->l[j]? =ab e->e.toNat < cv) _ (i:=(l,(5:Int),(0:Int),k)) ⟨rfl,λj e h=>by omega⟩ (by omega) ?_ ?_
 .rintro i _ hi ⟨rfl,hj⟩;obtain⟨e,he,hm⟩:=Zu (l:=l) (k:=i) (by omega);unfold XU;dsimp only;rw[yW (yY (by omega)),Yg he,ya,sR,ya];by_cases c:e.toNat < cv
  .left;rw[yY c,yX (by decide),ZO (by omega)];refine⟨_,rfl,rfl,λj y h hy=> ?_⟩;by_cases q:j=i
   .subst q;rw[he]at hy;cases hy;exact c
   .exact hj j y (by omega) hy
  .right;rw[yZ c,yW (by decide)];exact⟨_,rfl,.inl ⟨rfl,λh=>c (h e hm)⟩⟩
 .rintro _ ⟨rfl,hj⟩;unfold XU;dsimp only;rw[yX (show¬ah (((5:Nat):Int) < 5)=af by decide)];refine⟨_,rfl,.inr ⟨rfl,λe he=> ?_⟩⟩;obtain⟨j,j1,j2⟩:=ycm he;exact hj j e (by omega) (by rw[<-j2];exact yac j1)
open Classical in
noncomputable def xQ(k:ZD):Bool:=ah ((∀e,e∈te k.2.1->e.toNat < cv)/\bZ yD k.1=ab 0/\(0<=k.2.2.1/\k.2.2.1<=1)/\k.1.2.2.1[k.2.2.1.toNat]? =ab (gg k.2.1)/\(0<=k.2.2.2.1/\k.2.2.2.1<=1048576)/\0<=k.2.2.2.2/\k.2.2.2.2<=1048576)
theorem ZIG{k:ZD}(w:fu k.1):Ww yD k=ab (xQ k):=by
 obtain⟨x,h1,h2⟩:=ZFV (l:=te k.2.1) rfl k;unfold Ww;rw[show[k.2.1.1,k.2.1.2.1,k.2.1.2.2.1,k.2.1.2.2.2.1,k.2.1.2.2.2.2.1]=te k.2.1 from rfl,h1,ya]
 unfold xQ;rcases h2 with⟨rfl,hk⟩|⟨rfl,hk⟩
 .rw[yZ λh=>hk h.1]
 dsimp only;obtain⟨e,e1,_⟩:=NR w;rw[e1,ya];by_cases c0:e=0
 .rw[yW (beq_iff_eq.2 c0),Zy3 0 1 (by simp),ya];by_cases c2:0<=k.2.2.1/\k.2.2.1<=1
  .rw[yY (p:=∀x,x∈[k.2.2.1]->0<=x/\x<=1) λx hx=>by rw[yar.1 hx];exact c2,yW rfl,OG,ya,yW (ZQ (by omega) (by omega))];obtain⟨bs,hb,_⟩:=Zu (l:=k.1.2.2.1) (k:=k.2.2.1.toNat) (by rw[w.b];omega);rw[hb,ya];by_cases c1:gg k.2.1=bs
   .rw[yW (yY c1),Zy3 0 1048576 (by simp),ya];congr 1;rw[decide_eq_decide];constructor
    .intro h;exact⟨hk,by rw[c0],c2,by rw[c1],h _ (by simp),h _ (by simp)⟩
    .rintro⟨_,_,_,_,h3,h4⟩ x hx;rcases yaw.1 hx with rfl|hx
     .exact h3
     .rw[yar.1 hx];exact h4
   .rw[yX (show¬ah (gg k.2.1=bs)=af by rw[yN];exact c1),yZ λh=>c1 (Option.some.inj h.2.2.2.1).symm]
  .rw[yZ (p:=∀x,x∈[k.2.2.1]->0<=x/\x<=1) λh=>c2 (h _ (by simp)),yX (by decide),yZ λh=>c2 h.2.2.1]
 .rw[yX (by rw[yT];exact c0),yZ λh=>c0 (Option.some.inj h.2.1)]
theorem Zy4(p:yU):WQ yD p=ab (Vg p.toNat):=by
 unfold WQ
 have e:=ZT (step:=Y4 yD) 8 (λk:Nat=>(p,(8:Int),(k:Int),jo (Vg p.toNat) 8 k)) (x:=Vg p.toNat) (by
  intro k hk;have hb:(Vg p.toNat)[k]? =_:=ZLs p hk;have hl:(Vg p.toNat).length=8:=rfl;unfold Y4;dsimp only;have q1:min (56 - 8*(k:Int)).toNat 64=56 - 8*k:=by omega
  rw[yW (yY (by omega)),Yb (z:=8*(k:Int)) (by omega) (by omega),Yb (z:=56 - 8*(k:Int)) (by omega) (by omega),yW (yY (by omega)),yW (ZQ (by omega) (by omega)),ybw,Nat.zero_add,NK (by omega) (by omega),ya,ZO (by omega),q1,NL hb (by omega)]) (by
  unfold Y4;dsimp only;rw[yX (fM (by omega)),NM (n:=8) (Qk _)]) (by omega)
 have e:Zc (Y4 yD) yD (p,(8:Int),(0:Int),([0,0,0,0,0,0,0,0]:yL yB))=_:=e;rw[e,ya];rfl
noncomputable def OH(r p:yU)(m:yL yB):yU:=NQ (Sha.gP (jp KM [Vg r.toNat,Vg p.toNat,m]))
theorem ZNx(r p:yU){m:yL yB}(hm:m.length=32):XG yD r p m=ab (OH r p m):=by
 unfold XG
 rw[Zy4,ya,Zy4,ya,nD (by decide) (by simp) (by
  intro l hl;simp only[yaw,ycd,or_false]at hl;rcases hl with rfl|rfl|rfl
  .exact ybx (Nat.le_of_eq (Qk _)) (by decide)
  .exact ybx (Nat.le_of_eq (Qk _)) (by decide)
  .omega),ya,ZHf (Sha.lM _),ya]
 rfl
instance(n:Nat):Decidable (bn n):=by unfold bn;infer_instance
noncomputable def js(p:yU)(m:yL yB)(s:cQ):Bool:=ah (p≠1/\bn p.toNat/\bn s.1.toNat/\s.2.toNat < cv/\B s.2.toNat=ad s.1 (sc p (OH s.1 p m).toNat))
theorem ZNy(a b:yU):yaf (ft [a,b,sc 1 (cv - 1)] 1)=ad a b:=by
 rw[ZLM];unfold ft ft ft ft ad;rw[xP,show(1:yU).toNat=1 from rfl,Nat.one_mul,Nat.mul_one,Nat.mod_mod,Nat.mod_mul_mod]
theorem Zy5(p:yU){m:yL yB}(hm:m.length=32)(s:cQ):Xp yD p m s=ab (js p m s):=by
 have h:Va yD p m 1 s=ab (js p m s):=by
  unfold Va;rw[Xh,Xh,Xh,sR,ya,ya,ya,ya,ZNx _ _ hm,ya,pq,ya,NH,ya,xF (by simp),ya,QQ,ya,ZNy];unfold js;by_cases h0:p=1
  .rw[yW (beq_iff_eq.2 h0),yZ (λh=>h.1 h0)]
  rw[yX (by rw[yT];exact h0)];by_cases h1:bn p.toNat
  .rw[yY h1,yX (by decide),yY (show bn (1:yU).toNat from vR),yX (by decide)]
   by_cases h2:bn s.1.toNat
   .rw[yY h2,yX (by decide)];by_cases h3:s.2.toNat < cv
    .rw[yY h3,yX (by decide)];by_cases h4:B s.2.toNat=ad s.1 (sc p (OH s.1 p m).toNat)
     .rw[yY ⟨h0,h1,h2,h3,h4⟩,beq_iff_eq.2 h4]
     .rw[yZ (λh=>h4 h.2.2.2.2),beq_eq_false_iff_ne.2 h4]
    .rw[yZ h3,yW (by decide),yZ (λh=>h3 h.2.2.2.1)]
   .rw[yZ h2,yW (by decide),yZ (λh=>h2 h.2.2.1)]
  .rw[yZ h1,yW (by decide),yZ (λh=>h1 h.2.1)]
 unfold Xp;rw[h,ya]
theorem ZNz{p:yU}{m:yL yB}{r a b:yU}(h1:js p m (r,a)=af)(h2:js p m (r,b)=af):a=b:=by
 unfold js at h1 h2;rw[yN]at h1 h2;obtain⟨_,_,_,a1,a2⟩:=h1;obtain⟨_,_,_,b1,b2⟩:=h2;have e:B a.toNat=B b.toNat:=a2.trans b2.symm;have e2:=congrArg UInt64.toNat e;rw[jT,jT]at e2;exact ycp.1 (ZM3 a1 b1 e2)
theorem ZLN{seed:yL yB}(hs:seed.length=32)(z:cU):∃all,Zc (W8 yD) yD ((0:Int),seed,z,([0,0,0,0,0]:yL yU))=ab (seed,z,all)/\all.length=5/\∀e,e∈all->Key e:=by
 obtain⟨x,h1,all,rfl,h2,h3⟩:=VF (step:=W8 yD) 5 (λk s=>∃all,s=((k:Int),seed,z,all)/\all.length=5/\∀j e,j < k->all[j]? =ab e->Key e) (λx=>∃all,x=(seed,z,all)/\all.length=5/\∀e,e∈all->Key e)
  (i:=((0:Int),seed,z,([0,0,0,0,0]:yL yU))) ⟨_,rfl,rfl,λj e h=>by omega⟩ (by omega) (by
  rintro k _ hk ⟨all,rfl,hl,hj⟩;obtain⟨e0,he0,_⟩:=Zu (l:=all) (k:=k) (by omega);obtain⟨q,q1,q2⟩:=xH (h:=Sha.gP (jp sK [seed,[w8 (((k+1:Nat):Int))]])) (Sha.lM _);left;unfold W8;dsimp only
  rw[yW (yY (by omega)),ZO (by omega),nD (by decide) (by simp) (by
   intro l hl';simp only[yaw,ycd,or_false]at hl';rcases hl' with rfl|rfl
   .omega
   .simp),ya,q1,ya,yW (ZQ (by omega) (by omega)),ybw,he0,ya]
  refine⟨_,rfl,_,rfl,by rw[List.length_set];exact hl,λj e hj' he=> ?_⟩;by_cases c:j=k
  .subst c;rw[yci (by omega)]at he;cases he;exact q2
  .rw[List.getElem?_set_ne (Ne.symm c)]at he;exact hj j e (by omega) he) (by
  rintro _ ⟨all,rfl,hl,hj⟩;unfold W8;dsimp only;rw[yX (show¬ah (((5:Nat):Int) < 5)=af by decide)];refine⟨_,rfl,all,rfl,hl,λe he=> ?_⟩;obtain⟨j,j1,j2⟩:=ycm he;exact hj j e (by omega) (by rw[<-j2];exact yac j1))
 exact⟨all,h1,h2,h3⟩
structure il(k:cU):Prop where
 key:∀e,e∈te k->Key e
 len:k.2.2.2.2.2.length=32
theorem ZPS{seed:yL yB}(hs:seed.length=32):∃k,lN yD seed=ab k/\il k:=by
 obtain⟨all,h1,h2,h3⟩:=ZLN hs (0,0,0,0,0,yy 32 0)
 obtain⟨a,b,c,d,e,rfl⟩:∃a b c d e,all=[a,b,c,d,e]:=by
  match all,h2 with
  |[a,b,c,d,e],_=>exact⟨a,b,c,d,e,rfl⟩
 unfold lN;refine⟨(a,b,c,d,e,Sha.gP (jp sK [seed,[6]])), ?_,⟨h3,show(Sha.gP (jp sK [seed,[6]])).length=32 from Sha.lM _⟩⟩
 have h1:Zc (W8 yD) yD ((0:Int),seed,((0,0,0,0,0,dz):cU),([0,0,0,0,0]:yL yU))=_:=h1;rw[h1,ya];dsimp only
 rw[show([a,b,c,d,e]:yL yU)[0]? =ab a from rfl,ya,show([a,b,c,d,e]:yL yU)[1]? =ab b from rfl,ya,show([a,b,c,d,e]:yL yU)[2]? =ab c from rfl,ya,show([a,b,c,d,e]:yL yU)[3]? =ab d from rfl,ya,show([a,b,c,d,e]:yL yU)[4]? =ab e from rfl,ya,nD (by decide) (by simp) (by
  intro l hl';simp only[yaw,ycd,or_false]at hl';rcases hl' with rfl|rfl
  .omega
  .simp),ya]
theorem ZNA:∀k:Nat,k < 20->(0<=Int.tdiv (19 - (k:Int)) 8/\Int.tdiv (19 - (k:Int)) 8<=2)/\0<=Int.tmod (19 - (k:Int)) 8:=by decide
theorem ZNB{s:yL yB}(hs:s.length=32)(place:Int):∃r,wX yD s 20 place=ab r/\r.length=32:=by
 obtain⟨x,h1,r,rfl,h2⟩:=VF (step:=XD yD) 20 (λk t=>∃r:yL yB,t=((20:Int),place,(20:Int),(k:Int),r,yy 32 (0:yB))/\r.length=32) (λx=>∃r:yL yB,x=(r,yy 32 (0:yB))/\r.length=32)
  (i:=((20:Int),place,(20:Int),(0:Int),s,yy 32 (0:yB))) ⟨s,rfl,hs⟩ (by omega) (by
  rintro k _ hk ⟨r,rfl,hr⟩;left;obtain⟨⟨d0,d1⟩,m0⟩:=ZNA k hk
  have e1:wi (wi ((20:Int) - 1) - (k:Int))=19 - (k:Int):=by
   rw[Yb (z:=(20:Int) - 1) (by omega) (by omega),Yb (by omega) (by omega)];omega
  unfold XD;dsimp only;rw[yW (yY (by omega)),e1,yW (yY (by omega)),ZO (by omega),Yb (z:=Int.tdiv (19 - (k:Int)) 8) (by omega) (by omega)];split
  .obtain⟨b,hb,_⟩:=Zu (l:=r) (k:=(Int.tdiv (19 - (k:Int)) 8).toNat) (by omega);rw[yW (ZQ (by omega) (by omega)),hb,ya,yW (yY m0),yW (ZQ (by omega) (by omega)),ya];obtain⟨o,o1,o2⟩:=ZHa (l:=((r.set (Int.tdiv (19 - (k:Int)) 8).toNat (b^^^qv 1 (min (Int.tmod (19 - (k:Int)) 8).toNat 8))).drop 0).take 32) (by rw[List.length_take];omega);rw[o1,ya];exact⟨_,rfl,o,rfl,o2⟩
  .exact⟨_,rfl,r,rfl,hr⟩) (by
  rintro _ ⟨r,rfl,hr⟩;unfold XD;dsimp only;rw[yX (show¬ah (((20:Nat):Int) < 20)=af by decide)];exact⟨_,rfl,r,rfl,hr⟩)
 unfold wX;have h1:Zc (XD yD) yD ((20:Int),place,(20:Int),(0:Int),s,dz)=_:=h1;rw[h1,ya];exact⟨r,rfl,h2⟩
theorem tf{k:cU}(hk:il k){no:Int}(h0:0<=no)(h1:no < 1048576):∃p,be yD k no=ab (p,af)/\bn p.toNat:=by
 obtain⟨r,r1,r2⟩:=ZNB hk.len (wi (1048575 - no));obtain⟨q,q1,q2⟩:=xH r2;refine⟨B q.toNat, ?_,nB _⟩;unfold be LN LM;rw[yX (show¬ah (no < 0)=af by rw[yN];omega),yX (show¬ah (no >= 1048576)=af by rw[yN];omega),ya,r1,ya,ya];unfold LO;dsimp only;rw[yX (show¬(!true)=af by decide),q1,ya,QQ,ya,ya]
theorem ZwF{ch:Chan}{me:Int}(hi:ch.1.1.length=32)(n0:0<=ch.1.2)(n1:ch.1.2<=9223372036854775807)(m0:0<=me)(m1:me<=9223372036854775807):∃q,YL yD ch me=ab q/\q.length=32:=by
 have r1:=YJ (n:=ch.1.2.toNat) (by omega);have r2:=YJ (n:=me.toNat) (by omega);unfold YL
 rw[Zwo (by simp) (by omega),ya,List.nil_append,iH n0 n1 (by omega),ya,iH m0 m1 (by rw[yr];omega),ya,nD (by decide) (by simp) (λl hl=>by
  rw[yar.1 hl,yr,yr];omega),ya]
 exact⟨_,rfl,Sha.lM _⟩
def eI(ch:Chan)(kit:cU)(me:Int)(first:yG)(sig:cQ)(pers:yL yU)(kept:yL yB):aq:=
 (ch,kit,me,first,[[],[]],(0,[0,0]),(0,[0,0]),(0,[0,0]),ag,sig,pers,[[0,0]],kept)
theorem ZHq{i:Int}(h:i=0\/i=1){α:Type}(l:yL α)(hl:l.length=2):ba i 2=af/\ba (wi (1 - i)) 2=af/\∃a,l[i.toNat]? =ab a:=by
 refine⟨ZQ (by omega) (by omega), ?_, ?_⟩
 .rw[Yb (by omega) (by omega)];exact ZQ (by omega) (by omega)
 .obtain⟨a,ha,_⟩:=Zu (l:=l) (k:=i.toNat) (by omega);exact⟨a,ha⟩
theorem ZHr{i:Int}(h:i=0\/i=1):([[],[]]:yL (yL Ye))[i.toNat]? =ab []/\([[],[]]:yL (yL Ye))[(wi (1 - i)).toNat]? =ab []/\([0,0]:yL Int)[i.toNat]? =ab 0:=by
 rcases h with rfl|rfl <;> exact⟨rfl,rfl,rfl⟩
theorem ZFW{ch:Chan}{kit:cU}{me:Int}{first:yG}{sig:cQ}{pers:yL yU}{kept:yL yB}{i:Int}(h:i=0\/i=1):
 Yq yD i (eI ch kit me first sig pers kept)=ab ([],eI ch kit me first sig pers kept):=by
 obtain⟨a1,a2,_⟩:=ZHq h ([0,0]:yL Int) rfl;obtain⟨l1,l2,_⟩:=ZHr h;generalize hs:eI ch kit me first sig pers kept=s
 have hlog:s.2.2.2.2.1=[[],[]]:=by rw[<-hs];rfl
 have e0:=ZT (step:=ZX yD) 0 (λk:Nat=>(i,([]:yL Ye),(0:Int),(k:Int),s,([]:yL Unit),([]:yL Zt))) (x:=(i,s,([]:yL Unit),([]:yL Zt))) (λk hk=>absurd hk (Nat.not_lt_zero k)) (by
  unfold ZX;dsimp only;rw[yX (show¬ah (((0:Nat):Int) < 0)=af by decide)]) (by omega)
 have e1:=ZT (step:=ZY yD) 0 (λk:Nat=>(([]:yL Ye),(0:Int),(k:Int),s,([]:yL Unit),([]:yL Zt))) (x:=(s,([]:yL Unit),([]:yL Zt))) (λk hk=>absurd hk (Nat.not_lt_zero k)) (by
  unfold ZY;dsimp only;rw[yX (show¬ah (((0:Nat):Int) < 0)=af by decide)]) (by omega)
 have e0:Zc (ZX yD) yD (i,([]:yL Ye),((([]:yL Ye).length:Nat):Int),(0:Int),s,([]:yL Unit),([]:yL Zt))=_:=e0;have e1:Zc (ZY yD) yD (([]:yL Ye),((([]:yL Ye).length:Nat):Int),(0:Int),s,([]:yL Unit),([]:yL Zt))=_:=e1;unfold Yq;rw[yW a1,hlog,l1,ya,e0,ya];dsimp only;rw[yW a2,hlog,l2,ya,e1,ya]
theorem ZNC{ch:Chan}{kit:cU}{me:Int}{first:yG}{sig:cQ}{pers:yL yU}{kept:yL yB}(hop:ch.2.2.2.2=0\/ch.2.2.2.2=1):
 XJ yD (0,[0,0]) (eI ch kit me first sig pers kept)=ab ((0,first.2.1,[],first.2.2.2),eI ch kit me first sig pers kept):=by
 obtain⟨a1,_,_⟩:=ZHq hop ([0,0]:yL Int) rfl;obtain⟨l1,_,l3⟩:=ZHr hop;have hc:=λ(i:Int)h=>ZFW (ch:=ch) (kit:=kit) (me:=me) (first:=first) (sig:=sig) (pers:=pers) (kept:=kept) (i:=i) h
 have hs1:(eI ch kit me first sig pers kept).2.2.2.1=first:=rfl
 have hs2:(eI ch kit me first sig pers kept).1=ch:=rfl
 have hs3:(eI ch kit me first sig pers kept).2.2.2.2.1=[[],[]]:=rfl
 generalize eI ch kit me first sig pers kept=s at hc hs1 hs2 hs3 ⊢
 generalize hz:((0,[0,0],[],0):yG)=z
 have e0:=ZT (step:=Yi yD) 2 (λi:Nat=>((i:Int),s,((0,[0,0]):Z4),z,(0:Int),first.2.1,first.2.2.2,([]:yL Cond))) (x:=(s,((0,[0,0]):Z4),z,(0:Int),first.2.1,first.2.2.2,([]:yL Cond))) (by
  intro i hi
  have e1:=ZT (step:=YS yD) 0 (λk:Nat=>((i:Int),(i:Int),([]:yL Zt),(0:Int),(k:Int),s,((0,[0,0]):Z4),z,(0:Int),first.2.1,first.2.2.2,([]:yL Cond))) (x:=((i:Int),s,((0,[0,0]):Z4),z,(0:Int),first.2.1,first.2.2.2,([]:yL Cond))) (λk hk=>absurd hk (Nat.not_lt_zero k)) (by
   unfold YS;dsimp only;rw[yX (show¬ah (((0:Nat):Int) < 0)=af by decide)]) (by omega)
  have e1:Zc (YS yD) yD ((i:Int),(i:Int),([]:yL Zt),((([]:yL Zt).length:Nat):Int),(0:Int),s,((0,[0,0]):Z4),z,(0:Int),first.2.1,first.2.2.2,([]:yL Cond))=_:=e1
  unfold Yi;dsimp only;rw[yW (yY (by omega)),hc (i:Int) (by omega),ya];dsimp only;rw[e1,ya];dsimp only;rw[ZO (by omega)]) (by
  unfold Yi;dsimp only;rw[yX (show¬ah (((2:Nat):Int) < 2)=af by decide)]) (by omega)
 have e0:Zc (Yi yD) yD ((0:Int),s,((0,[0,0]):Z4),z,(0:Int),first.2.1,first.2.2.2,([]:yL Cond))=_:=e0
 have e2:=ZT (step:=Yx yD) 0 (λk:Nat=>(([]:yL Ye),(0:Int),(k:Int),s,((0,[0,0]):Z4),z,(0:Int),first.2.1,first.2.2.2,([]:yL Cond))) (x:=(s,((0,[0,0]):Z4),z,(0:Int),first.2.1,first.2.2.2,([]:yL Cond))) (λk hk=>absurd hk (Nat.not_lt_zero k)) (by
  unfold Yx;dsimp only;rw[yX (show¬ah (((0:Nat):Int) < 0)=af by decide)]) (by omega)
 have e2:Zc (Yx yD) yD (([]:yL Ye),((([]:yL Ye).length:Nat):Int),(0:Int),s,((0,[0,0]):Z4),z,(0:Int),first.2.1,first.2.2.2,([]:yL Cond))=_:=e2
 unfold XJ;rw[hs1];show(Zc (Yi yD) yD ((0:Int),s,((0,[0,0]):Z4),((0,[0,0],[],0):yG),(0:Int),first.2.1,first.2.2.2,([]:yL Cond))).bind _=_
 rw[hz,e0,ya];dsimp only;rw[hs2,yW a1,hs3,l1,ya,yW a1,l3,ya,yW (show ei ([]:yL Ye).length ae (ab 0)=af from rfl)]
 show(Zc (Yx yD) yD (([]:yL Ye),((([]:yL Ye).length:Nat):Int),(0:Int),s,((0,[0,0]):Z4),z,(0:Int),first.2.1,first.2.2.2,([]:yL Cond))).bind _=_
 rw[e2,ya]
theorem ZN8{ch:Chan}{kit:cU}{me:Int}{first:yG}{sig:cQ}{pers:yL yU}{kept:yL yB}(hop:ch.2.2.2.2=0\/ch.2.2.2.2=1):
 WK yD (0,[0,0]) (eI ch kit me first sig pers kept)=ab (0,first.2.1,[],first.2.2.2):=by
 unfold WK;rw[ZNC hop];rfl
theorem ZD3{t:Tx}(hl:td t)(hw:sV t):∃n,ck yD t=ab n/\n.length=32:=by
 obtain⟨b,b1,b2⟩:=txr hl
 cases b with
 |true=>
  obtain⟨h1,h2⟩:=(b2 rfl).id hw b1
  exact⟨_,h1,h2⟩
 |false=>
  unfold ck;rw[b1,ya];exact⟨_,rfl,rfl⟩
theorem pB.txl{ch:Chan}{own:Int}{per:yU}{c:cS}(h:pB ch own per c)(hh:ch.1.1.length=32):td c.1/\sV c.1:=by
 have h1:=h.ins;have h2:=h.outs;have h3:=h.ok;have h4:=h.note;refine⟨⟨by rw[h1];simp,by omega,λo ho=> ?_⟩,λx hx=> ?_,by omega⟩
 .have:=(h3 o ho).2.2.1;exact⟨by have:=this.2.1;omega,λb hb=>by have:=(this.2.2 b hb).1;omega⟩
 .rw[h1]at hx;rw[yar.1 hx];exact hh
theorem ZLO:td lV.1/\sV lV.1:=by
 have e:lV.1=(([],[],0):Tx):=rfl;rw[e];refine⟨⟨by simp,by simp,λo ho=> ?_⟩,λx hx=> ?_,by simp⟩
 .cases ho
 .cases hx
theorem OI{ch:Chan}(w:fu ch)(hh:ch.1.1.length=32){s:yG}(hs:s.2.1.length=2)(own:Int)(per:yU):
 ∃c e n,aZ yD ch s own per=ab (c,e)/\ck yD c.1=ab n/\n.length=32/\(e=0->pB ch own per c):=by
 obtain⟨c,e,h1,h2,h3⟩:=ZLJ w hs own per;by_cases he:e=0
 .obtain⟨a,b⟩:=(h2 he).txl hh;obtain⟨n,n1,n2⟩:=ZD3 a b;exact⟨c,e,n,h1,n1,n2,h2⟩
 .obtain⟨n,n1,n2⟩:=ZD3 ZLO.1 ZLO.2;rw[h3 he]at h1;exact⟨lV,e,n,h1,n1,n2,λh=>absurd h he⟩
structure fI(ch:Chan)(kit:cU)(me:Int)(first:yG)(sig:cQ)(pers:List UInt64)(s:aq):Prop where
 who:me=0\/me=1
 op:ch.2.2.2.2=0\/ch.2.2.2.2=1
 fit:bZ yD ch=ab 0
 num:0<=ch.1.2/\ch.1.2<=63
 bas:ch.2.2.1[me.toNat]? =ab (gg kit)
 is:∃kept,s=eI ch kit me first sig pers kept
 mak:∃p c n,be yD kit 0=ab (p,af)/\aZ yD ch (0,first.2.1,[],first.2.2.2) me p=ab (c,0)/\ck yD c.1=ab n/\n.length=32/\pB ch me p c
theorem ZLP{ch:Chan}(w:fu ch)(hh:ch.1.1.length=32){kit:cU}(hk:il kit){me:Int}(hme:me=0\/me=1){first:yG}(hf:first.2.1.length=2)(sig:cQ){p0 p1:yU}:
 ∃r,sM yD ch kit me first [p0,p1] sig=ab r/\((∃e,r=.inl e)\/∃s,r=.inr (0,s)/\fI ch kit me first sig [p0,p1] s):=by
 have no:∀e:Int,∃r:Int⊕(Int×aq),ab (.inl e)=ab r/\((∃e,r=.inl e)\/∃s,r=.inr (0,s)/\fI ch kit me first sig [p0,p1] s):=λe=>⟨_,rfl,.inl ⟨e,rfl⟩⟩
 obtain⟨b,hb,_⟩:=Zu (l:=ch.2.2.1) (k:=me.toNat) (by rw[w.b];omega);unfold sM;rw[ZyV (by omega) (by omega),yY (show 0<=me/\me<=1 by omega),yX (show¬(!true)=af by decide),OG,ya,yW (ZQ (by omega) (by omega)),hb,ya];by_cases c1:gg kit=b
 .rw[yY c1,yX (show¬(!true)=af by decide),show([p0,p1]:yL yU)[0]? =ab p0 from rfl,ya,Xh,ya]
  by_cases c2:bn p0.toNat
  .rw[yY c2,yX (show¬(!true)=af by decide),show([p0,p1]:yL yU)[1]? =ab p1 from rfl,ya,Xh,ya]
   by_cases c3:bn p1.toNat
   .rw[yY c3,yX (show¬(!true)=af by decide)];obtain⟨e,e1,e2⟩:=NR w;rw[e1,ya];by_cases c4:e=0
    .obtain⟨f1,f2,f3,f4⟩:=e2 c4;rw[yX (show¬(e !=0)=af by rw[yE];exact λh=>h c4)];obtain⟨r,r1,r2⟩:=ZDQ w hf;rw[r1,ya]
     cases r with
     |false=>exact no 1
     |true=>
      rw[yX (show¬(!true)=af by decide)];split
      .exact no 1
      split
      .exact no 1
      obtain⟨hv,hv1,_⟩:=Zu (l:=first.2.1) (k:=ch.2.2.2.2.toNat) (by rw[hf];omega)
      rw[yW (ZQ (by omega) (by omega)),hv1,ya];unfold MM;rw[NU,ya,ya];split
      .exact no 8
      unfold MO Vr;rw[ya,iH (by omega) (by omega) (by simp),ya,ya];dsimp only;obtain⟨p,q1,q2⟩:=tf hk (no:=0) (by omega) (by omega);obtain⟨c,ce,n,m1,m2,m3,m4⟩:=OI w hh (s:=(0,first.2.1,[],first.2.2.2)) hf me p
      obtain⟨k2,hk2⟩:∃k2,k2=([]:yL yB)++V3 (0:Int).toNat:=⟨_,rfl⟩;rw[<-hk2];have hat:=ZN8 (ch:=ch) (kit:=kit) (me:=me) (first:=first) (sig:=sig) (pers:=[p0,p1]) (kept:=k2) f3
      have hown:∃v,Qj yD (0,[0,0]) sig (eI ch kit me first sig [p0,p1] k2)=ab (v,eI ch kit me first sig [p0,p1] k2)/\(v=af->ce=0):=by
       unfold Qj;rw[show(eI ch kit me first sig [p0,p1] k2).2.1=kit from rfl,q1,ya,hat,ya,show(eI ch kit me first sig [p0,p1] k2).1=ch from rfl,show(eI ch kit me first sig [p0,p1] k2).2.2.1=me from rfl,m1,ya]
       by_cases c5:ce=0
       .rw[yW (beq_iff_eq.2 c5)];obtain⟨b2,hb2,_⟩:=Zu (l:=ch.2.2.1) (k:=(wi (1 - me)).toNat) (by rw[w.b,Yb (by omega) (by omega)];omega);obtain⟨v,hv⟩:=ZFU b2.1 m3 sig;rw[yW (by rw[Yb (by omega) (by omega)];exact ZQ (by omega) (by omega)),hb2,ya,m2,ya,hv,ya];exact⟨v,rfl,λ_=>c5⟩
       .rw[yX (by rw[yT];exact c5)];exact⟨ag,rfl,λh=>by cases h⟩
      obtain⟨v,v1,v2⟩:=hown;rw[show((ch,kit,me,first,[[],[]],(0,[0,0]),(0,[0,0]),(0,[0,0]),ag,sig,[p0,p1],[[0,0]],k2):aq)=eI ch kit me first sig [p0,p1] k2 from rfl,v1,ya]
      cases v with
      |false=>exact no 7
      |true=>
       rw[yX (show¬(!true)=af by decide)];have hce:=v2 rfl;rw[hce]at m1;exact⟨_,rfl,.inr ⟨_,rfl,hme,f3,by rw[e1,c4],f2,by rw[hb,c1],⟨k2,rfl⟩,p,c,n,q1,m1,m2,m3,m4 hce⟩⟩
    .rw[yW (bne_iff_ne.2 c4)];exact no e
   .rw[yZ c3];exact no 1
  .rw[yZ c2];exact no 1
 .rw[yZ c1];exact no 1
end Go.Proofs.YtekdgjajmennjaaGreat
end
section
set_option maxRecDepth 100000
namespace Go.Proofs.YtekdgjajmennjaaGreat
open Go Go.Ev
noncomputable section
def sd1:yL yB:=[1,0,0,0,0,0,0,0,0,0,0,0,0,0,0,0,0,0,0,0,0,0,0,0,0,0,0,0,0,0,0,0]
def pD:cU:=(2072101336324354433,1728786906511799908,2048662411413283118,1784403759221825084,1029399409459846816,[88,250,0,252,227,35,15,64,138,51,207,36,89,65,205,155,21,170,15,185,246,119,254,243,6,204,53,138,118,39,233,111])
theorem ZPT:lN 18446744073709551616 sd1=ab pD:=by kernel_rfl
theorem ZND:be 18446744073709551616 pD 0=ab (3457188808171160469,af):=by decide+kernel
theorem ZNE:be 18446744073709551616 pD 1=ab (3190203784800143504,af):=by decide+kernel
def sd2:yL yB:=[2,0,0,0,0,0,0,0,0,0,0,0,0,0,0,0,0,0,0,0,0,0,0,0,0,0,0,0,0,0,0,0]
def pE:cU:=(1305380350991396904,589199544144668201,578832145571974099,1103751915044840651,2186824319021734715,[60,208,91,221,147,190,4,197,114,171,83,133,192,106,205,166,183,68,218,15,86,245,183,42,13,249,45,114,246,59,218,167])
theorem ZPU:lN 18446744073709551616 sd2=ab pE:=by kernel_rfl
theorem ZNF:be 18446744073709551616 pE 0=ab (4185533516973979542,af):=by decide+kernel
theorem ZNG:be 18446744073709551616 pE 1=ab (3609844275354265494,af):=by decide+kernel
def OJ(F:Nat)(s:yL yB):yO cU:=if s=sd1 then ab pD else if s=sd2 then ab pE else lN F s
def OL(F:Nat)(k:cU)(n:Int):yO (yU×Bool):=if k=pD/\n=0 then ab (3457188808171160469,af) else if k=pD/\n=1 then ab (3190203784800143504,af) else if k=pE/\n=0 then ab (4185533516973979542,af) else if k=pE/\n=1 then ab (3609844275354265494,af) else be F k n
theorem ZNH(s:yL yB):OJ 18446744073709551616 s=lN 18446744073709551616 s:=by
 unfold OJ;split
 .next h=>rw[h,ZPT]
 split
 .next h=>rw[h,ZPU]
 rfl
theorem ZNI(k:cU)(n:Int):OL 18446744073709551616 k n=be 18446744073709551616 k n:=by
 unfold OL;split
 .next h=>rw[h.1,h.2,ZND]
 split
 .next h=>rw[h.1,h.2,ZNE]
 split
 .next h=>rw[h.1,h.2,ZNF]
 split
 .next h=>rw[h.1,h.2,ZNG]
 rfl
def xR(F:Nat):Fs Tryz.prog:=⟨79,[.v aOB],[],[aOB],(zN fk),λx=>OJ F x⟩
theorem ZBx:(xR 18446744073709551616).Ok:=by
 have e:xR 18446744073709551616=wW 18446744073709551616:=by
  unfold xR wW;congr;funext x;exact ZNH x
 rw[e];exact eE wW Zsp
def xS(F:Nat):Fs Tryz.prog:=⟨80,[.v fk,.v (.int .i64)],[],[fk,(.int .i64)],[⟨.ret,[(0,.bj [.v .u64,.v .bool])],[],[.u64,.bool]⟩],λx=>OL F x.1 x.2⟩
theorem ZBy:(xS 18446744073709551616).Ok:=by
 have e:xS 18446744073709551616=wY 18446744073709551616:=by
  unfold xS wY;congr;funext x;exact ZNI x.1 x.2
 rw[e];exact eE wY xa
end
end Go.Proofs.YtekdgjajmennjaaGreat
end
