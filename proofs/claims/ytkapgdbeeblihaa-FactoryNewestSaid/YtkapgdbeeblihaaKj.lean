/- Parts of the proof, in one file. -/
import Derived.Test.YtkapgdbeeblihaaKi
open Int renaming tdiv → yh, tmod → yy, tmod_eq_emod_of_nonneg → ydb
open List renaming getElem?_eq_some_iff → yp, map_cons → yaa, mem_singleton → yaf, mem_cons → yau, map_nil → yca
open Option renaming bind_some → ya
set_option linter.unusedVariables false
set_option linter.unusedSimpArgs false
section
set_option maxRecDepth 10000
namespace Go.Proofs.Ytkapgdbeeblihaa
open Go Go.Ev
theorem set_same{α:Type}{l:List α}{k:Nat}{e:α}(h:l[k]? =some e):l.set k e=l:=by
 apply List.ext_getElem?;intro i;rw[List.getElem?_set];split
 ·rename_i hi;subst hi;split
  ·exact h.symm
  ·rename_i hn;rw[List.getElem?_eq_none (by omega)]
 ·rfl
end Go.Proofs.Ytkapgdbeeblihaa
end
section
set_option maxRecDepth 10000
namespace Go.Proofs.Ytkapgdbeeblihaa
open Go Go.Ev
section
variable{K V:Type}[DecidableEq K]
def VX(m:List (K×V)):Prop:=(m.map (·.1)).Nodup
theorem Zrz(k:K)(v:V)(q:K):∀m:List (K×V),q∈(Zcz m k v).map (·.1)↔q=k∨q∈m.map (·.1)
 |[]=>by simp[Zcz]
 |x::m=>by
  have ih:=Zrz k v q m;unfold Zcz;by_cases h:k=x.1
  ·rw[if_pos h];simp only[yaa,yau];rw[h];constructor
   ·rintro(q1|q1)
    ·exact .inl q1
    ·exact .inr (.inr q1)
   ·rintro(q1|q1|q1)
    ·exact .inl q1
    ·exact .inl q1
    ·exact .inr q1
  ·rw[if_neg h];simp only[yaa,yau] at ih ⊢;rw[ih];constructor
   ·rintro(q1|q1|q1)
    ·exact .inr (.inl q1)
    ·exact .inl q1
    ·exact .inr (.inr q1)
   ·rintro(q1|q1|q1)
    ·exact .inr (.inl q1)
    ·exact .inl q1
    ·exact .inr (.inr q1)
theorem Zy7(k:K)(v:V):∀m:List (K×V),VX m→VX (Zcz m k v)
 |[],_=>by simp[Zcz,VX]
 |x::m,h=>by
  have h':x.1 ∉ m.map (·.1)∧(m.map (·.1)).Nodup:=by
   have:=h;unfold VX at this;rw[yaa,List.nodup_cons] at this;exact this
  have ih:=Zy7 k v m h'.2;unfold Zcz;by_cases hk:k=x.1
  ·rw[if_pos hk];show(k::m.map (·.1)).Nodup;rw[hk,List.nodup_cons];exact h'
  ·rw[if_neg hk];show(x.1::(Zcz m k v).map (·.1)).Nodup;rw[List.nodup_cons];refine⟨λq=> ?_,ih⟩;rcases (Zrz k v x.1 m).1 q with q|q
   ·exact hk q.symm
   ·exact h'.1 q
theorem ZrA(k:K)(q:K):∀m:List (K×V),q∈(Zbv m k).map (·.1)→q∈m.map (·.1)
 |[],h=>by simp[Zbv] at h
 |x::m,h=>by
  unfold Zbv at h;split at h
  ·exact List.mem_cons_of_mem _ h
  ·rcases yau.1 h with h|h
   ·exact yau.2 (.inl h)
   ·exact yau.2 (.inr (ZrA k q m h))
theorem Zy8(k:K):∀m:List (K×V),VX m→VX (Zbv m k)
 |[],_=>by simp[Zbv,VX]
 |x::m,h=>by
  have h':x.1 ∉ m.map (·.1)∧(m.map (·.1)).Nodup:=by
   have:=h;unfold VX at this;rw[yaa,List.nodup_cons] at this;exact this
  unfold Zbv;split
  ·exact h'.2
  ·show(x.1::(Zbv m k).map (·.1)).Nodup;rw[List.nodup_cons];exact⟨λq=>h'.1 (ZrA k _ m q),Zy8 k m h'.2⟩
theorem ZhN{k:K}:∀{m:List (K×V)},k ∉ m.map (·.1)→YZ m k=none
 |[],_=>rfl
 |x::m,h=>by
  unfold YZ;rw[if_neg λq=>h (by rw[q];exact List.mem_cons_self ..)];exact ZhN λq=>h (List.mem_cons_of_mem _ q)
theorem ZrB(k q:K):∀{m:List (K×V)},VX m→YZ (Zbv m k) q=if q=k then none else YZ m q
 |[],_=>by simp[Zbv,YZ]
 |x::m,h=>by
  have h':x.1 ∉ m.map (·.1)∧(m.map (·.1)).Nodup:=by
   have:=h;unfold VX at this;rw[yaa,List.nodup_cons] at this;exact this
  unfold Zbv;by_cases hk:k=x.1
  ·rw[if_pos hk];by_cases hq:q=k
   ·rw[if_pos hq,hq,hk,ZhN h'.1]
   ·rw[if_neg hq]
    conv=>rhs;unfold YZ
    rw[if_neg (by rw[←hk];exact hq)]
  ·rw[if_neg hk];have ih:=ZrB k q (m:=m) h'.2;unfold YZ;by_cases hq:q=x.1
   ·rw[if_pos hq,if_neg (by rw[hq];exact λe=>hk e.symm),if_pos hq]
   ·rw[if_neg hq,ih,if_neg hq]
end
theorem ZDj{o:Out}(h:Zde o.2):ZcG fuel o=some o:=by
 obtain⟨h0,h1,h2⟩:=h;unfold ZcG ZaC QU;rw[if_neg (by cases hh:o.2 with|nil=>rw[hh] at h0;simp at h0|cons _ _=>simp),if_pos (YO (by omega) (by omega)),ya];dsimp only
 have e:=Z7 (step:=VS fuel) o.2.length (λk:Nat=>((o.2.length:Int),(k:Int),o,(((0:Int),([]:XQ)):Out),[()],o.2)) (x:=(o,(((0:Int),([]:XQ)):Out),[()],o.2)) (by
  intro k hk;obtain⟨e,he,hm⟩:=Zu hk;have hb:=(h2 e hm).1;unfold VS V8;dsimp only;rw[if_pos (Yp hk),if_pos (Vo (by omega) (by omega)),Int.toNat_natCast,he,ya,if_pos (YO (by omega) (by omega)),ya,if_pos (Vo (by omega) (by omega)),ya,set_same (e:=(e.1,e.2.1,e.2.2.1,e.2.2.2)) he,ZF (by omega)]) (by
  unfold VS;dsimp only;rw[if_neg (by rw[ZU];decide)]) (by omega)
 have e0:((o.2.length:Int),(0:Int),o,(((0:Int),([]:XQ)):Out),[()],o.2)=(λk:Nat=>((o.2.length:Int),(k:Int),o,(((0:Int),([]:XQ)):Out),[()],o.2)) 0:=rfl;rw[e0,e,ya]
structure One(t:Tx):Prop where
 one:∃x,t.1=[x]
 wf:TxWf t
 ok:TxOk t
 sum:amts t.2.1≤1125899906842624
theorem One.is{t:Tx}(h:One t):∃x outs note,t=([x],outs,note):=by
 obtain⟨x,hx⟩:=h.one;obtain⟨a,b,c⟩:=t;exact⟨x,b,c,by rw[show a=[x] from hx]⟩
theorem One.right{t:Tx}(h:One t):Qo fuel t=some true:=by
 obtain⟨x,outs,note,rfl⟩:=h.is;exact ZvK h.ok h.sum
theorem One.id{t:Tx}(h:One t):ZY fuel t=some (idF t)∧(idF t).length=32:=by
 obtain⟨x,outs,note,rfl⟩:=h.is;exact ZyX h.wf h.ok h.sum
def X7(id:List UInt8)(n:Nat):List Zd:=(List.range n).map λ(i:Nat)=>((id,(i:Int)):Zd)
theorem Zy9(id:List UInt8){n i:Nat}(h:i < n):(X7 id n)[i]? =some (id,(i:Int)):=by simp[X7,h]
theorem ZkE(id:List UInt8)(n:Nat):(X7 id n).length=n:=by simp[X7]
theorem ZER(id:List UInt8)(n:Nat):X7 id (n+1)=X7 id n++[(id,(n:Int))]:=by
 unfold X7;rw[List.range_succ,List.map_append];rfl
theorem Zza{t:Tx}(h:One t):ZgV fuel t=some (X7 (idF t) t.2.1.length):=by
 have ho:=h.ok.2.2.1;unfold ZgV;rw[h.id.1,ya,h.right,ya,if_neg (by decide)]
 have e:=Z7 (step:=Zbl fuel) t.2.1.length (λk:Nat=>((t.2.1.length:Int),(k:Int),t,X7 (idF t) k,idF t)) (x:=(t,X7 (idF t) t.2.1.length,idF t)) (by
  intro k hk;unfold Zbl;dsimp only;rw[if_pos (Yp hk),if_pos (YO (by rw[ZkE];omega) (by rw[ZkE];omega)),ZF (by omega),ZER]) (by
  unfold Zbl;dsimp only;rw[if_neg (by rw[ZU];decide)]) (by omega)
 have e0:((t.2.1.length:Int),(0:Int),t,([]:List Zd),idF t)=(λk:Nat=>((t.2.1.length:Int),(k:Int),t,X7 (idF t) k,idF t)) 0:=rfl;rw[e0,e,ya]
theorem ZAl{x:In}{outs:List Out}{note:Int}(h:One ([x],outs,note)):Zft fuel ([x],outs,note)=some [x.1]:=by
 unfold Zft;rw[h.right,ya,if_neg (by decide)]
 have e:=Z7 (step:=W9 fuel) 1 (λk:Nat=>([x],(1:Int),(k:Int),(([x],outs,note):Tx),([x].take k).map (·.1))) (x:=(([x],outs,note),[x.1])) (by
  intro k hk;have:k=0:=by omega
  subst this;unfold W9;dsimp only;rw[if_pos (decide_eq_true (by omega)),Zx (show([x]:List In)[0]? =some x from rfl),ya,if_pos (YO (by simp) (by simp))]
  rfl) (by
  unfold W9;dsimp only;rw[if_neg (ynd (by omega))];rfl) (by omega)
 have e0:([x],((([x],outs,note):Tx).1.length:Int),(0:Int),(([x],outs,note):Tx),([]:List Zd))=(λk:Nat=>([x],(1:Int),(k:Int),(([x],outs,note):Tx),([x].take k).map (·.1))) 0:=rfl;show(Zi (W9 fuel) fuel ([x],((([x],outs,note):Tx).1.length:Int),(0:Int),(([x],outs,note):Tx),([]:List Zd))).bind _=_;rw[e0,e,ya]
def ZxA(ks:List UInt64)(id:List UInt8)(sg:List Sig):Prop:=∀k,k < ks.length→ZeY (ks.getD k 0) id (sg.getD k (0,0))=true
theorem ZAm{ks:List UInt64}{l:XQ}{w:ZaW}{id:List UInt8}{b:Z1}(hn:ks.length≤1000)(hw:w.2.1.length=ks.length)(hid:id.length=32)(hv:ZxA ks id w.2.1):
 Zi (Wa fuel) fuel (ks,(ks.length:Int),(0:Int),l,w,id,b)=some (.inr (l,w,id,b)):=by
 have e0:(ks,(ks.length:Int),(0:Int),l,w,id,b)=(λk:Nat=>(ks,(ks.length:Int),(k:Int),l,w,id,b)) 0:=rfl;rw[e0];refine Z7 (step:=Wa fuel) ks.length (λk:Nat=>(ks,(ks.length:Int),(k:Int),l,w,id,b)) ?_ ?_ (by omega)
 ·intro k hk;obtain⟨e,he,_⟩:=Zu hk;obtain⟨g,hg,_⟩:=Zu (l:=w.2.1) (k:=k) (by omega);have h1:=hv k hk;rw[X6 he,X6 hg] at h1;unfold Wa;dsimp only;rw[if_pos (Yp hk),Zx he,ya,Zx hg,ya,ZhK e hid,ya,h1,if_neg (by decide),ZF (by omega)]
 ·unfold Wa;dsimp only;rw[if_neg (by rw[ZU];decide)]
theorem Zpz{l:XQ}(hl:Zde l∧ZfB l){w:ZaW}{br:Nat}{b:Z1}(hbr:w.1=(br:Int))(hb:l[br]? =some b)(ha:b.2.1=0){id:List UInt8}{h a:Int}(hh:0≤h)(hd:a < b.2.2.1):
 WS fuel l w id h a=some 11:=by
 have hlt:=(yp.1 hb).1;unfold WS;rw[ZaM hl.1 hl.2,ya,if_neg (by decide),hbr,if_neg (ynd (by omega)),if_neg (ynd (by omega)),Zx hb,ya,ha,if_neg (ynd (by omega)),if_pos (decide_eq_true hd)]
theorem ZtA{l:XQ}(hl:Zde l∧ZfB l){w:ZaW}{br:Nat}{b:Z1}(hbr:w.1=(br:Int))(hb:l[br]? =some b)(ha:b.2.1=0)(hx:b.2.2.2=0){id:List UInt8}(hid:id.length=32){h a:Int}(hh:0≤h)(hd:b.2.2.1≤a)
 (hw:w.2.1.length=b.1.length) (hv:ZxA b.1 id w.2.1):WS fuel l w id h a=some 0:=by
 have hlt:=(yp.1 hb).1;have hkl:b.1.length≤12:=(hl.1.2.2 b (List.mem_of_getElem? hb)).1;unfold WS
 rw[ZaM hl.1 hl.2,ya,if_neg (by decide),hbr,if_neg (ynd (by omega)),if_neg (ynd (by omega)),Zx hb,ya,ha,if_neg (ynd (by omega)),if_neg (ynd (by omega)),hx,if_neg (by decide),
  if_neg (by rw[hw];simp),ZAm (by omega) hw hid hv,ya]
abbrev Wd:=List (Zd×Ww)
def Zem(id:List UInt8)(outs:List Out)(h:Int):Nat→Wd→Wd
 |0,m=>m
 |n+1,m=>Zcz (Zem id outs h n m) (id,(n:Int)) (outs.getD n (0,[]),h)
theorem ZrC(id:List UInt8)(outs:List Out)(h:Int):∀n(m:Wd),VX m→VX (Zem id outs h n m)
 |0,m,hm=>hm
 |n+1,m,hm=>Zy7 _ _ _ (ZrC id outs h n m hm)
theorem ZpA(id:List UInt8)(outs:List Out)(h:Int)(q:Zd)(m:Wd):∀n,(∀i:Nat,i < n→q≠(id,(i:Int)))→YZ (Zem id outs h n m) q=YZ m q
 |0,_=>rfl
 |n+1,hq=>by
  rw[Zem,ZhL,if_neg (hq n (by omega)),ZpA id outs h q m n λi hi=>hq i (by omega)]
theorem ZrD(id:List UInt8)(outs:List Out)(h:Int)(m:Wd)(i:Nat):∀n,i < n→YZ (Zem id outs h n m) (id,(i:Int))=some (outs.getD i (0,[]),h)
 |n+1,hi=>by
  rw[Zem,ZhL];by_cases e:i=n
  ·rw[if_pos (by rw[e]),e]
  ·rw[if_neg (by intro q;simp only[Prod.mk.injEq,true_and] at q;omega),ZrD id outs h m i n (by omega)]
noncomputable def goF(t:Tx)(h:Int)(m:Wd):Wd:=Zem (idF t) t.2.1 h t.2.1.length (Zbv m (t.1.headD ((([],0),(0,[],0)))).1)
theorem ZpB{x:In}{outs:List Out}{note:Int}(h1:One ([x],outs,note)){h:Int}(hh:1≤h∧h≤1048576){m:Wd}{st:List Zo}(hg:YZ m x.1=none):Zm fuel ([x],outs,note) h m st=some (5,m,st):=by
 have he:YE fuel ([x],outs,note) h m st=some (0,5,m,st):=by
  unfold YE;rw[h1.right,ya,if_neg (by decide),if_neg (ynd (by omega)),if_neg (ynd (by omega)),h1.id.1,ya]
  obtain⟨y,g1,rfl⟩:=Y6 (step:=ZI fuel) 1 (λk s=>k=0∧s=(h,(0:Int),[x],(1:Int),(0:Int),m,st,(([x],outs,note):Tx),idF ([x],outs,note))∨k=1∧False)
   (λy=>y=.inl (0,5,m,st,(([x],outs,note):Tx),idF ([x],outs,note))) (i:=(h,(0:Int),[x],(1:Int),(0:Int),m,st,(([x],outs,note):Tx),idF ([x],outs,note))) (.inl ⟨rfl,rfl⟩) (by omega) (by
   rintro k _ hk (⟨_,rfl⟩|⟨_,q⟩)
   ·right;unfold ZI;dsimp only;rw[if_pos (decide_eq_true (by omega)),show idx ([x]:List In) (0:Int)=some x from rfl,ya,hg]
    exact⟨_,rfl,rfl⟩
   ·exact q.elim) (by
   rintro _ (⟨q,_⟩|⟨_,q⟩)
   ·omega
   ·exact q.elim)
  show(Zi (ZI fuel) fuel (h,(0:Int),[x],(1:Int),(0:Int),m,st,(([x],outs,note):Tx),idF ([x],outs,note))).bind _=_;rw[g1,ya]
 unfold Zm;rw[he,ya];dsimp only;rw[if_pos (by decide)]
theorem ZrE{x:In}{outs:List Out}{note:Int}(h1:One ([x],outs,note)){h:Int}(hh:1≤h∧h≤1048576){m:Wd}{st:List Zo}{o:Out}{h0:Int}(hg:YZ m x.1=some (o,h0))(h00:0≤h0∧h0≤1048576){e:Int}(he0:e≠0)
 (ho:WS fuel o.2 x.2 (idF ([x],outs,note)) h (h - h0)=some e):Zm fuel ([x],outs,note) h m st=some (e,m,st):=by
 have he:YE fuel ([x],outs,note) h m st=some (0,e,m,st):=by
  unfold YE;rw[h1.right,ya,if_neg (by decide),if_neg (ynd (by omega)),if_neg (ynd (by omega)),h1.id.1,ya]
  obtain⟨y,g1,rfl⟩:=Y6 (step:=ZI fuel) 1 (λk s=>k=0∧s=(h,(0:Int),[x],(1:Int),(0:Int),m,st,(([x],outs,note):Tx),idF ([x],outs,note))∨k=1∧False)
   (λy=>y=.inl (0,e,m,st,(([x],outs,note):Tx),idF ([x],outs,note))) (i:=(h,(0:Int),[x],(1:Int),(0:Int),m,st,(([x],outs,note):Tx),idF ([x],outs,note))) (.inl ⟨rfl,rfl⟩) (by omega) (by
   rintro k _ hk (⟨_,rfl⟩|⟨_,q⟩)
   ·right;unfold ZI;dsimp only;rw[if_pos (decide_eq_true (by omega)),show idx ([x]:List In) (0:Int)=some x from rfl,ya,hg]
    unfold ZdC;dsimp only;rw[ZK (z:=h - h0) (by omega) (by omega),ho,ya,if_pos (bne_iff_ne.2 he0)];exact⟨_,rfl,rfl⟩
   ·exact q.elim) (by
   rintro _ (⟨q,_⟩|⟨_,q⟩)
   ·omega
   ·exact q.elim)
  show(Zi (ZI fuel) fuel (h,(0:Int),[x],(1:Int),(0:Int),m,st,(([x],outs,note):Tx),idF ([x],outs,note))).bind _=_;rw[g1,ya]
 unfold Zm;rw[he,ya];dsimp only;rw[if_pos (bne_iff_ne.2 he0)]
theorem ZDk{x:In}{outs:List Out}{note:Int}(h1:One ([x],outs,note)){h:Int}(hh:1≤h∧h≤1048576){m:Wd}{st:List Zo}{o:Out}{h0:Int}(hg:YZ m x.1=some (o,h0))(h00:0≤h0∧h0≤1048576)
 (ho:WS fuel o.2 x.2 (idF ([x],outs,note)) h (h - h0)=some 0) (hm:∀i:Nat,i < outs.length→YZ m (idF ([x],outs,note),(i:Int))=none) (hs:amts outs≤o.1∧o.1≤1125899906842624):
 YE fuel ([x],outs,note) h m st=some (o.1 - amts outs,0,m,st):=by
 have h0s:∀k,0≤amts (outs.take k)∧amts (outs.take k)≤amts outs:=λk=>Ztv h1.ok.2.2.2.2.2 k;have hall:=h0s outs.length;rw[List.take_length] at hall;have hlen:outs.length≤64:=h1.ok.2.2.1;unfold YE;rw[h1.right,ya,if_neg (by decide),if_neg (ynd (by omega)),if_neg (ynd (by omega)),h1.id.1,ya]
 have g1:=Z7 (step:=ZI fuel) 1 (λk:Nat=>(h,(if k=0 then 0 else o.1),[x],(1:Int),(k:Int),m,st,(([x],outs,note):Tx),idF ([x],outs,note))) (x:=.inr (o.1,m,st,(([x],outs,note):Tx),idF ([x],outs,note))) (by
  intro k hk;have:k=0:=by omega
  subst this;unfold ZI;dsimp only;rw[if_pos (decide_eq_true (by omega)),Zx (show([x]:List In)[0]? =some x from rfl),ya,hg]
  unfold ZdC;dsimp only;rw[ZK (z:=h - h0) (by omega) (by omega),ho,ya,if_neg (by decide),if_pos rfl,if_neg (by omega),Int.zero_add,ZK (by omega) (by omega),ZF (by omega)]) (by
  unfold ZI;dsimp only;rw[if_neg (ynd (by omega)),if_neg (by omega)]) (by omega)
 show(Zi (ZI fuel) fuel ((λk:Nat=>(h,(if k=0 then 0 else o.1),[x],(1:Int),(k:Int),m,st,(([x],outs,note):Tx),idF ([x],outs,note))) 0)).bind _=_
 rw[g1,ya];dsimp only;rw[Zza h1,ya]
 have g2:=Z7 (step:=YT fuel) outs.length (λk:Nat=>(o.1,X7 (idF ([x],outs,note)) outs.length,(outs.length:Int),(k:Int),m,st,(([x],outs,note):Tx),idF ([x],outs,note))) (x:=.inr (o.1,m,st,(([x],outs,note):Tx),idF ([x],outs,note))) (by
  intro k hk;unfold YT;dsimp only;rw[if_pos (Yp hk),Zx (Zy9 _ hk),ya,hm k hk];unfold ZdC;dsimp only;rw[ZF (by omega)]) (by
  unfold YT;dsimp only;rw[if_neg (by rw[ZU];decide)]) (by omega)
 have e2:(o.1,X7 (idF ([x],outs,note)) outs.length,((X7 (idF ([x],outs,note)) (([x],outs,note):Tx).2.1.length).length:Int),(0:Int),m,st,(([x],outs,note):Tx),idF ([x],outs,note))=(λk:Nat=>(o.1,X7 (idF ([x],outs,note)) outs.length,(outs.length:Int),(k:Int),m,st,(([x],outs,note):Tx),idF ([x],outs,note))) 0:=by
  rw[ZkE];rfl
 show(Zi (YT fuel) fuel (o.1,X7 (idF ([x],outs,note)) outs.length,((X7 (idF ([x],outs,note)) (([x],outs,note):Tx).2.1.length).length:Int),(0:Int),m,st,(([x],outs,note):Tx),idF ([x],outs,note))).bind _=_;rw[e2,g2,ya];dsimp only
 have g3:=Z7 (step:=Xm fuel) outs.length (λk:Nat=>(o.1 - amts (outs.take k),outs,(outs.length:Int),(k:Int),m,st,(([x],outs,note):Tx),idF ([x],outs,note))) (x:=(o.1 - amts outs,m,st,(([x],outs,note):Tx),idF ([x],outs,note))) (by
  intro k hk;obtain⟨e,he,_⟩:=Zu hk;have q1:=h0s k;have q2:=h0s (k+1);rw[ZhJ he] at q2;unfold Xm;dsimp only;rw[if_pos (Yp hk),Zx he,ya,ZK (z:=o.1 - amts (outs.take k) - e.1) (by omega) (by omega),ZF (by omega),ZhJ he,show o.1 - amts (outs.take k) - e.1=o.1 - (amts (outs.take k)+e.1) by omega]) (by
  unfold Xm;dsimp only;rw[if_neg (by rw[ZU];decide),List.take_length]) (by omega)
 have e3:(o.1,outs,(outs.length:Int),(0:Int),m,st,(([x],outs,note):Tx),idF ([x],outs,note))=(λk:Nat=>(o.1 - amts (outs.take k),outs,(outs.length:Int),(k:Int),m,st,(([x],outs,note):Tx),idF ([x],outs,note))) 0:=by
  show _=(o.1 - amts [],outs,(outs.length:Int),(0:Int),m,st,(([x],outs,note):Tx),idF ([x],outs,note));rw[show amts []=0 from rfl,Int.sub_zero]
 rw[e3,g3,ya];dsimp only;rw[if_neg (ynd (by omega))]
theorem ZpC{x:In}{outs:List Out}{note:Int}(h1:One ([x],outs,note)){h:Int}(hh:1≤h∧h≤1048576){m:Wd}{st:List Zo}(hst:st.length≤1000){o:Out}{h0:Int}(hg:YZ m x.1=some (o,h0))(h00:0≤h0∧h0≤1048576)
 (ho:WS fuel o.2 x.2 (idF ([x],outs,note)) h (h - h0)=some 0) (hm:∀i:Nat,i < outs.length→YZ m (idF ([x],outs,note),(i:Int))=none) (hs:amts outs≤o.1∧o.1≤1125899906842624):
 ∃st2,Zm fuel ([x],outs,note) h m st=some (0,goF ([x],outs,note) h m,st2)∧st2.length≤st.length+1:=by
 have hlen:outs.length≤64:=h1.ok.2.2.1;unfold Zm;rw[ZDk h1 hh hg h00 ho hm hs,ya];dsimp only;rw[if_neg (by decide),Zza h1,ya,ZAl h1,ya]
 have g1:=Z7 (step:=Xn fuel) 1 (λk:Nat=>(h,[x.1],(1:Int),(k:Int),(if k=0 then m else Zbv m x.1),st,(([x],outs,note):Tx),X7 (idF ([x],outs,note)) outs.length,(if k=0 then([]:List Yo) else[(x.1,(o,h0))])))
  (x:=(h,Zbv m x.1,st,(([x],outs,note):Tx),X7 (idF ([x],outs,note)) outs.length,([(x.1,(o,h0))]:List Yo))) (by
  intro k hk;have:k=0:=by omega
  subst this;unfold Xn;dsimp only;rw[if_pos (decide_eq_true (by omega)),Zx (show([x.1]:List Zd)[0]? =some x.1 from rfl),ya,if_pos rfl,hg]
  unfold ZdC;dsimp only;rw[if_pos rfl,if_pos (YO (by simp) (by simp)),ZF (by omega)];rfl) (by
  unfold Xn;dsimp only;rw[if_neg (ynd (by omega))];rfl) (by omega)
 have e1:(h,[x.1],(([x.1]:List Zd).length:Int),(0:Int),m,st,(([x],outs,note):Tx),X7 (idF ([x],outs,note)) (([x],outs,note):Tx).2.1.length,([]:List Yo))=(λk:Nat=>(h,[x.1],(1:Int),(k:Int),(if k=0 then m else Zbv m x.1),st,(([x],outs,note):Tx),X7 (idF ([x],outs,note)) outs.length,(if k=0 then([]:List Yo) else[(x.1,(o,h0))]))) 0:=rfl
 rw[e1,g1,ya];dsimp only
 have g2:=Z7 (step:=Xo fuel) outs.length (λk:Nat=>(h,X7 (idF ([x],outs,note)) outs.length,(outs.length:Int),(k:Int),Zem (idF ([x],outs,note)) outs h k (Zbv m x.1),st,(([x],outs,note):Tx),X7 (idF ([x],outs,note)) outs.length,([(x.1,(o,h0))]:List Yo)))
  (x:=(goF ([x],outs,note) h m,st,(([x],outs,note):Tx),X7 (idF ([x],outs,note)) outs.length,([(x.1,(o,h0))]:List Yo))) (by
  intro k hk;obtain⟨e,he,hme⟩:=Zu hk;have hok:ZvH e:=h1.ok.2.2.2.2.2 e hme;unfold Xo;dsimp only;rw[if_pos (Yp hk),Zx (Zy9 _ hk),ya,Zx he,ya,ZDj hok.2.2.1,ya,ZF (by omega),Zem,X6 he]) (by
  unfold Xo;dsimp only;rw[if_neg (by rw[ZU];decide)];rfl) (by omega)
 have e2:(h,X7 (idF ([x],outs,note)) outs.length,((X7 (idF ([x],outs,note)) outs.length).length:Int),(0:Int),Zbv m x.1,st,(([x],outs,note):Tx),X7 (idF ([x],outs,note)) outs.length,([(x.1,(o,h0))]:List Yo))=(λk:Nat=>(h,X7 (idF ([x],outs,note)) outs.length,(outs.length:Int),(k:Int),Zem (idF ([x],outs,note)) outs h k (Zbv m x.1),st,(([x],outs,note):Tx),X7 (idF ([x],outs,note)) outs.length,([(x.1,(o,h0))]:List Yo))) 0:=by
  rw[ZkE];rfl
 rw[e2,g2,ya];dsimp only;rw[if_pos (YO (by omega) (by omega))];exact⟨_,rfl,by rw[List.length_append];simp⟩
end Go.Proofs.Ytkapgdbeeblihaa
end
section
set_option maxRecDepth 10000
namespace Go.Proofs.Ytkapgdbeeblihaa
open Go Go.Ev
theorem ZtB{t:Tx}{x:In}(hx:t.1=[x])(l:List Sig):idF (ZbS t l)=idF t:=by
 obtain⟨a,b,c⟩:=t;have:a=[x]:=hx;subst this;rfl
theorem ZpD{t:Tx}{x:In}(hx:t.1=[x])(h:TxWf t∧TxOk t∧amts t.2.1≤1125899906842624){l:List Sig}(hl:l.length≤12):One (ZbS t l):=by
 obtain⟨a,b,c⟩:=t;have:a=[x]:=hx;subst this;obtain⟨h1,h2,h3⟩:=h;refine⟨⟨_,rfl⟩,⟨λy hy=> ?_,h1.2⟩,⟨by simp[ZbS],by simp[ZbS],h2.2.2.1,h2.2.2.2.1,λy hy=> ?_,h2.2.2.2.2.2⟩,h3⟩
 ·have:y=(x.1,(x.2.1,l,x.2.2.2)):=yaf.1 hy;subst this;exact h1.1 x (yaf.2 rfl)
 ·have:y=(x.1,(x.2.1,l,x.2.2.2)):=yaf.1 hy;subst this;obtain⟨q1,q2,q3,q4,q5⟩:=h2.2.2.2.2.1 x (yaf.2 rfl);exact⟨q1,q2,q3,q4,hl⟩
theorem ZhO(i:Nat)(l:List (List Sig)):(Yd i l).length=l.length:=List.length_map ..
theorem ZGW(i:Nat){l:List (List Sig)}{k:Nat}(hk:k < l.length):(Yd i l).getD k (0,0)=ZmY l k i:=by
 obtain⟨e,he,_⟩:=Zu hk;unfold ZmY Yd;rw[X6 he,X6 (l:=l.map λs=>s.getD i (0,0)) (e:=e.getD i (0,0)) (by rw[List.getElem?_map,he];rfl)]
theorem ZtC{p:FactoryPlan}{no:Int}{subs:List FactorySub}{sgs:List (List Sig)}(h:VW p no subs sgs){i:Nat}(hi:i < 3):ZxA (Ztz p no i) (ZGS p no subs i) (Yd i sgs):=λk hk=>by
 rw[Zxz] at hk;rw[ZGW i (by rw[h.1];exact hk)];exact h.2.2 i hi k (by rw[h.1];exact hk)
theorem ZpE{p:FactoryPlan}(hw:p.1.1.length=32){no:Int}{subs:List FactorySub}(hc:CutP p no subs){sgs:List (List Sig)}(hv:VW p no subs sgs):One (ZbS (tx1 p) (Yd 0 sgs))∧idF (ZbS (tx1 p) (Yd 0 sgs))=idF (tx1 p):=
 ⟨ZpD rfl (ZDc hw hc.right) (by rw[ZhO,hv.1];exact hc.right.len.2),ZtB rfl _⟩
theorem Zi9{p:FactoryPlan}(hw:p.1.1.length=32){no:Int}{subs:List FactorySub}(hc:CutP p no subs){sgs:List (List Sig)}(hv:VW p no subs sgs):One (ZbS (tx2 p (yh no 4)) (Yd 1 sgs))∧idF (ZbS (tx2 p (yh no 4)) (Yd 1 sgs))=idF (tx2 p (yh no 4)):=
 ⟨ZpD rfl (ZDd hw hc.right (WC hc.no).1) (by rw[ZhO,hv.1];exact hc.right.len.2),ZtB rfl _⟩
theorem Zly{p:FactoryPlan}(hw:p.1.1.length=32){no:Int}{subs:List FactorySub}(hc:CutP p no subs){sgs:List (List Sig)}(hv:VW p no subs sgs):One (ZbS (tx3 p no subs) (Yd 2 sgs))∧idF (ZbS (tx3 p no subs) (Yd 2 sgs))=idF (tx3 p no subs):=
 ⟨ZpD rfl (ZDe hw hc) (by rw[ZhO,hv.1];exact hc.right.len.2),ZtB rfl _⟩
theorem ZFi{x:In}{outs:List Out}{note:Int}(h:Int)(m:Wd){i:Nat}(hi:i < outs.length):YZ (goF ([x],outs,note) h m) (idF ([x],outs,note),(i:Int))=some (outs.getD i (0,[]),h):=ZrD _ _ _ _ _ _ hi
theorem ZxB{x:In}{outs:List Out}{note:Int}(h:Int){m:Wd}(hm:VX m){q:Zd}(hq:q.1≠idF ([x],outs,note)):YZ (goF ([x],outs,note) h m) q=if q=x.1 then none else YZ m q:=by
 unfold goF;rw[ZpA _ _ _ _ _ _ λi _ e=>hq (by rw[e])];exact ZrB _ _ hm
theorem ZFj(t:Tx)(h:Int){m:Wd}(hm:VX m):VX (goF t h m):=ZrC _ _ _ _ _ (Zy8 _ _ hm)
def m0F(p:FactoryPlan):Wd:=[((z32,0),((p.2.1,[(p.2.2.1,0,0,0)]),0))]
theorem ZFk(p:FactoryPlan):VX (m0F p):=by simp[VX,m0F]
theorem ZvN{p:FactoryPlan}(h:RightP p):Zde [(p.2.2.1,0,0,0)]∧ZfB [(p.2.2.1,0,0,0)]:=by
 refine⟨⟨by simp,by simp,λb hb=> ?_⟩,λb hb=> ?_⟩
 ·rw[yaf.1 hb];exact⟨h.len.2,z0,z1,z0,z1⟩
 ·rw[yaf.1 hb];exact⟨λq hq=>(h.keys.1 q hq).1,λq=>absurd rfl q⟩
theorem ZrF{p:FactoryPlan}(hk:p.2.2.1.length≤1000):(RightP p∧Xb fuel p=some (.inr (m0F p,[])))∨(¬RightP p∧Xb fuel p=some (.inl ())):=by
 unfold Xb Zej;rw[ZhM p hk,ya];by_cases c:RightP p
 ·left;refine⟨c, ?_⟩;have hl:=ZvN c;have ha:=c.amount;have hf:=c.fee;unfold M50 at ha hf;rw[decide_eq_true c,if_neg (by decide),ZDb hk,ya,ya];unfold Zfk;rw[if_neg (by simp)]
  have g1:=Z7 (step:=Xv fuel) 1 (λk:Nat=>((if k=0 then 0 else p.2.1),[(p.2.1,[(p.2.2.1,0,0,0)])],(1:Int),(k:Int),(if k=0 then([]:Wd) else m0F p),([]:List Zo))) (x:=.inr (m0F p,[])) (by
   intro k hk;have:k=0:=by omega
   subst this;unfold Xv;dsimp only;rw[if_pos (decide_eq_true (by omega)),Zx (show([(p.2.1,[(p.2.2.1,0,0,0)])]:List Out)[0]? =some (p.2.1,[(p.2.2.1,0,0,0)]) from rfl),ya,ZaM hl.1 hl.2,ya,if_neg (by decide),if_neg (ynd (by omega)),if_pos rfl,if_neg (by rw[decide_eq_true_iff,ZK (z:=1125899906842624 - 0) (by omega) (by omega)];omega),ZDj hl.1,ya,Int.zero_add,ZK (z:=p.2.1) (by omega) (by omega),ZF (by omega)]
   rfl) (by
   unfold Xv;dsimp only;rw[if_neg (ynd (by omega))];rfl) (by omega)
  have e0:((0:Int),([(p.2.1,[(p.2.2.1,0,0,0)])]:List Out),(([(p.2.1,[(p.2.2.1,0,0,0)])]:List Out).length:Int),(0:Int),([]:Wd),([]:List Zo))=(λk:Nat=>((if k=0 then 0 else p.2.1),([(p.2.1,[(p.2.2.1,0,0,0)])]:List Out),(1:Int),(k:Int),(if k=0 then([]:Wd) else m0F p),([]:List Zo))) 0:=rfl
  rw[e0,g1,ya];rfl
 ·right;refine⟨c, ?_⟩;rw[decide_eq_false c,if_pos (by decide),ya];unfold Zfk;rw[if_neg (by simp)];obtain⟨b,hb,hb2⟩:=Zpx (l:=[]) ⟨by simp,λb hb=>by simp at hb⟩
  have hbf:b=false:=by
   cases b with
   |false=>rfl
   |true=>have:=(hb2.1 rfl).1.1;simp at this
  subst hbf
  obtain⟨y,g1,g2⟩:=Y6 (step:=Xv fuel) 1 (λk s=>k=0∧s=((0:Int),([(p.2.1,[])]:List Out),(1:Int),(0:Int),([]:Wd),([]:List Zo))∨k=1∧False) (λy=>∃r,y=.inl r) (i:=((0:Int),([(p.2.1,[])]:List Out),(1:Int),(0:Int),([]:Wd),([]:List Zo))) (.inl ⟨rfl,rfl⟩) (by omega) (by
   rintro k _ hk (⟨_,rfl⟩|⟨_,q⟩)
   ·right;unfold Xv;dsimp only;rw[if_pos (decide_eq_true (by omega)),show idx ([(p.2.1,[])]:List Out) (0:Int)=some (p.2.1,[]) from rfl,ya,hb,ya,if_pos (by decide)]
    exact⟨_,rfl,_,rfl⟩
   ·exact q.elim) (by
   rintro _ (⟨q,_⟩|⟨_,q⟩)
   ·omega
   ·exact q.elim)
  obtain⟨r,rfl⟩:=g2;show((Zi (Xv fuel) fuel ((0:Int),([(p.2.1,[])]:List Out),(1:Int),(0:Int),([]:Wd),([]:List Zo))).bind _).bind _=_;rw[g1,ya];rfl
theorem Wv{c st:Int}(h0:0≤c)(h1:c≤3)(hs:1≤st∧st≤4096):0≤c*st∧c*st≤12288:=by
 refine⟨Int.mul_nonneg h0 (by omega), ?_⟩;have:c*st≤3*4096:=Int.mul_le_mul h1 hs.2 (by omega) (by omega);omega
theorem ZtD{p:FactoryPlan}(hk:p.2.2.1.length≤1000)(h:RightP p){no:Int}(hn:0≤no∧no≤15){ht:Int}(hh:0≤ht∧ht≤100000):
 Vb fuel p no ht=some (ht+(3 - yh no 4)*p.2.2.2.1,ht+(3 - yh no 4)*p.2.2.2.1+(3 - yy no 4)*p.2.2.2.1):=by
 have ha:=(WC hn).1;have hb:=(WC hn).2;have m1:=Wv (c:=3 - yh no 4) (by omega) (by omega) h.step;have m2:=Wv (c:=3 - yy no 4) (by omega) (by omega) h.step;unfold Vb;rw[ZhM p hk,ya,decide_eq_true h,if_neg (by decide),XC,ya,decide_eq_true hn,if_neg (by decide)];dsimp only
 rw[ZK (z:=yh no 4) (by omega) (by omega),ZK (z:=3 - yh no 4) (by omega) (by omega),ZK (z:=(3 - yh no 4)*p.2.2.2.1) (by omega) (by omega),ZK (z:=ht+(3 - yh no 4)*p.2.2.2.1) (by omega) (by omega),
  ZK (z:=3 - yy no 4) (by omega) (by omega),ZK (z:=(3 - yy no 4)*p.2.2.2.1) (by omega) (by omega),ZK (by omega) (by omega)]
theorem Zni{p:FactoryPlan}{row:List Int}{j:Int}(hj:0≤j∧j≤3):(Xi p row)[j.toNat]? =some (brG p row j):=by
 rcases (show j=0∨j=1∨j=2∨j=3 by omega) with rfl|rfl|rfl|rfl <;> rfl
section
variable{p:FactoryPlan}{no:Int}{subs:List FactorySub}{sgs:List (List Sig)}{m:Wd}{st:List Zo}{h h0:Int}
noncomputable abbrev tA(p:FactoryPlan)(sgs:List (List Sig)):Tx:=ZbS (tx1 p) (Yd 0 sgs)
noncomputable abbrev tB(p:FactoryPlan)(no:Int)(sgs:List (List Sig)):Tx:=ZbS (tx2 p (yh no 4)) (Yd 1 sgs)
noncomputable abbrev tC(p:FactoryPlan)(no:Int)(subs:List FactorySub)(sgs:List (List Sig)):Tx:=ZbS (tx3 p no subs) (Yd 2 sgs)
theorem ZAn(hw:p.1=(z32,0))(hc:CutP p no subs)(hv:VW p no subs sgs)(hh:1≤h∧h≤1048576)(hid:idF (tx1 p)≠z32):∃st2,Zm fuel (tA p sgs) h (m0F p) []=some (0,goF (tA p sgs) h (m0F p),st2)∧st2.length≤1:=by
 have hw':p.1.1.length=32:=by rw[hw];rfl
 obtain⟨o1,o2⟩:=ZpE hw' hc hv;have ha:=hc.right.amount;have hf:=hc.right.fee;unfold M50 at ha hf
 have hs:amts (tA p sgs).2.1≤p.2.1∧p.2.1≤1125899906842624:=by
  refine⟨?_,by omega⟩;show amts [(p.2.1 - p.2.2.2.2,Xi p [1])]≤_;simp only[amts,yaa,yca,List.sum_cons,List.sum_nil];omega
 have hg:YZ (m0F p) p.1=some ((p.2.1,[(p.2.2.1,0,0,0)]),0):=by
  rw[hw];unfold m0F YZ;rw[if_pos rfl]
 refine ZpC (x:=(p.1,(0,Yd 0 sgs,0))) (outs:=(tx1 p).2.1) (note:=0) o1 hh (by simp) hg ⟨by omega,by omega⟩ ?_ (λi hi=> ?_) hs
 ·refine ZtA (br:=0) (b:=(p.2.2.1,0,0,0)) (ZvN hc.right) rfl rfl rfl rfl (by rw[show idF ([(p.1,(0,Yd 0 sgs,0))],(tx1 p).2.1,0)=idF (tx1 p) from o2];exact(Zlv hw' hc.right).2) (by omega) (by show(0:Int)≤h - 0;omega) (by rw[ZhO,hv.1]) ?_
  rw[show idF ([(p.1,(0,Yd 0 sgs,0))],(tx1 p).2.1,0)=idF (tx1 p) from o2]
  exact ZtC hv (i:=0) (by omega)
 ·rw[show idF ([(p.1,(0,Yd 0 sgs,0))],(tx1 p).2.1,0)=idF (tx1 p) from o2]
  refine ZhN λq=> ?_;simp only[m0F,yaa,yca,yaf,Prod.mk.injEq] at q;exact hid q.1
theorem ZrG(hw:p.1.1.length=32)(hc:CutP p no subs)(hv:VW p no subs sgs)(hh:1≤h∧h≤1048576)(hst:st.length≤1000)(hg:YZ m (idF (tx1 p),0)=some ((p.2.1 - p.2.2.2.2,Xi p [1]),h0))(h00:0≤h0∧h0≤1048576)
 (hd:(3 - yh no 4)*p.2.2.2.1≤h - h0) (hm:YZ m (idF (tx2 p (yh no 4)),0)=none):∃st2,Zm fuel (tB p no sgs) h m st=some (0,goF (tB p no sgs) h m,st2)∧st2.length≤st.length+1:=by
 obtain⟨o1,o2⟩:=Zi9 hw hc hv;have ha:=hc.right.amount;have hf:=hc.right.fee;have hab:=(WC hc.no).1;unfold M50 at ha hf;have o2':idF ([((idF (tx1 p),0),(yh no 4,Yd 1 sgs,0))],(tx2 p (yh no 4)).2.1,yh no 4)=idF (tx2 p (yh no 4)):=o2;refine ZpC (x:=((idF (tx1 p),0),(yh no 4,Yd 1 sgs,0))) (outs:=(tx2 p (yh no 4)).2.1) (note:=yh no 4) o1 hh hst hg h00 ?_ (λi hi=> ?_) ⟨?_,by dsimp only;omega⟩
 ·refine ZtA (br:=(yh no 4).toNat) (b:=brG p [1] (yh no 4)) (Zd1 hc.right _) (by dsimp only;omega) (Zni hab) rfl rfl (by rw[o2'];exact(Zlw hw hc.right hab).2) (by omega) hd (by
   show(Yd 1 sgs).length=(Qr p ([1]++[yh no 4])).length;rw[ZhO,hv.1,ZaN]) ?_
  rw[o2'];exact ZtC hv (i:=1) (by omega)
 ·have:i=0:=by
   have:i < 1:=hi;omega
  subst this;rw[o2'];exact hm
 ·show amts [(p.2.1 - 2*p.2.2.2.2,Xi p [2,yh no 4])]≤_;simp only[amts,yaa,yca,List.sum_cons,List.sum_nil];omega
theorem ZtE(hw:p.1.1.length=32)(hc:CutP p no subs)(hv:VW p no subs sgs)(hh:1≤h∧h≤1048576)(hg:YZ m (idF (tx1 p),0)=some ((p.2.1 - p.2.2.2.2,Xi p [1]),h0))(h00:0≤h0∧h0≤1048576)
 (hd:h - h0 < (3 - yh no 4)*p.2.2.2.1):Zm fuel (tB p no sgs) h m st=some (11,m,st):=by
 obtain⟨o1,o2⟩:=Zi9 hw hc hv;have hab:=(WC hc.no).1
 exact ZrE (x:=((idF (tx1 p),0),(yh no 4,Yd 1 sgs,0))) (outs:=(tx2 p (yh no 4)).2.1) (note:=yh no 4) o1 hh hg h00 (by decide)
  (Zpz (br:=(yh no 4).toNat) (b:=brG p [1] (yh no 4)) (Zd1 hc.right _) (by dsimp only;omega) (Zni hab) rfl (by omega) hd)
theorem ZvO(hw:p.1.1.length=32)(hc:CutP p no subs)(hv:VW p no subs sgs)(hh:1≤h∧h≤1048576)(hg:YZ m (idF (tx1 p),0)=none):Zm fuel (tB p no sgs) h m st=some (5,m,st):=
 ZpB (x:=((idF (tx1 p),0),(yh no 4,Yd 1 sgs,0))) (outs:=(tx2 p (yh no 4)).2.1) (note:=yh no 4) (Zi9 hw hc hv).1 hh hg
theorem ZAo(hw:p.1.1.length=32)(hc:CutP p no subs)(hv:VW p no subs sgs)(hh:1≤h∧h≤1048576)(hst:st.length≤1000)(hg:YZ m (idF (tx2 p (yh no 4)),0)=some ((p.2.1 - 2*p.2.2.2.2,Xi p [2,yh no 4]),h0))(h00:0≤h0∧h0≤1048576)
 (hd:(3 - yy no 4)*p.2.2.2.1≤h - h0) (hm:∀i:Nat,i < subs.length→YZ m (idF (tx3 p no subs),(i:Int))=none):∃st2,Zm fuel (tC p no subs sgs) h m st=some (0,goF (tC p no subs sgs) h m,st2)∧st2.length≤st.length+1:=by
 obtain⟨o1,o2⟩:=Zly hw hc hv;have ha:=hc.right.amount;have hf:=hc.right.fee;have hab:=(WC hc.no).1;have hb:=(WC hc.no).2;have hsum:=hc.sum;unfold M50 at ha hf;have o2':idF ([((idF (tx2 p (yh no 4)),0),(yy no 4,Yd 2 sgs,0))],subs.map ZbN,no)=idF (tx3 p no subs):=o2;refine ZpC (x:=((idF (tx2 p (yh no 4)),0),(yy no 4,Yd 2 sgs,0))) (outs:=subs.map ZbN) (note:=no) o1 hh hst hg h00 ?_ (λi hi=> ?_) ⟨?_,by dsimp only;omega⟩
 ·refine ZtA (br:=(yy no 4).toNat) (b:=brG p [2,yh no 4] (yy no 4)) (Zd1 hc.right _) (by dsimp only;omega) (Zni hb) rfl rfl (by rw[o2'];exact(Zxy hw hc).2) (by omega) hd (by
   show(Yd 2 sgs).length=(Qr p ([2,yh no 4]++[yy no 4])).length;rw[ZhO,hv.1,ZaN]) ?_
  rw[o2'];exact ZtC hv (i:=2) (by omega)
 ·rw[List.length_map] at hi;rw[o2'];exact hm i hi
 ·rw[Zry];dsimp only;omega
theorem ZtF(hw:p.1.1.length=32)(hc:CutP p no subs)(hv:VW p no subs sgs)(hh:1≤h∧h≤1048576)(hg:YZ m (idF (tx2 p (yh no 4)),0)=some ((p.2.1 - 2*p.2.2.2.2,Xi p [2,yh no 4]),h0))(h00:0≤h0∧h0≤1048576)
 (hd:h - h0 < (3 - yy no 4)*p.2.2.2.1):Zm fuel (tC p no subs sgs) h m st=some (11,m,st):=by
 obtain⟨o1,o2⟩:=Zly hw hc hv;have hb:=(WC hc.no).2
 exact ZrE (x:=((idF (tx2 p (yh no 4)),0),(yy no 4,Yd 2 sgs,0))) (outs:=subs.map ZbN) (note:=no) o1 hh hg h00 (by decide)
  (Zpz (br:=(yy no 4).toNat) (b:=brG p [2,yh no 4] (yy no 4)) (Zd1 hc.right _) (by dsimp only;omega) (Zni hb) rfl (by omega) hd)
theorem ZvP(hw:p.1.1.length=32)(hc:CutP p no subs)(hv:VW p no subs sgs)(hh:1≤h∧h≤1048576)(hg:YZ m (idF (tx2 p (yh no 4)),0)=none):Zm fuel (tC p no subs sgs) h m st=some (5,m,st):=
 ZpB (x:=((idF (tx2 p (yh no 4)),0),(yy no 4,Yd 2 sgs,0))) (outs:=subs.map ZbN) (note:=no) (Zly hw hc hv).1 hh hg
end
theorem ZxC{l:List Tx}(h:∀t,t∈l→One t)(hl:l.length≤1000){k:Nat}{t:Tx}(hk:l[k]? =some t):∃x,Zi (Yf fuel) fuel (l,(k:Int),(0:Int))=some x∧((∃b,x=.inl b∧b=false)∨(x=.inr (l,(k:Int))∧∀(j:Nat)(u:Tx),j < k→l[j]? =some u→idF u≠idF t)):=by
 have hkl:=(yp.1 hk).1;refine Y6 (step:=Yf fuel) k (λj s=>s=(l,(k:Int),(j:Int))∧∀(i:Nat)(u:Tx),i < j→l[i]? =some u→idF u≠idF t) _ ⟨rfl,λi u hi=>by omega⟩ (by omega) ?_ ?_
 ·rintro j _ hj ⟨rfl,h1⟩;obtain⟨u,hu,hum⟩:=Zu (l:=l) (k:=j) (by omega);unfold Yf;dsimp only;rw[if_pos (Yp hj),Zx hu,ya,(h u hum).id.1,ya,Zx hk,ya,(h t (List.mem_of_getElem? hk)).id.1,ya];by_cases c:idF u=idF t
  ·right;rw[if_pos (decide_eq_true c)];exact⟨_,rfl,.inl ⟨_,rfl,rfl⟩⟩
  ·left;rw[if_neg (by rw[decide_eq_true_iff];exact c),ZF (by omega)];refine⟨_,rfl,rfl,λi w hi hw=> ?_⟩;by_cases hij:i=j
   ·rw[hij,hu] at hw;cases hw;exact c
   ·exact h1 i w (by omega) hw
 ·rintro _ ⟨rfl,h1⟩;unfold Yf;dsimp only;rw[if_neg (by rw[ZU];decide)];exact⟨_,rfl,.inr ⟨rfl,h1⟩⟩
theorem ZrH{l:List Tx}(h:∀t,t∈l→One t)(hl:l.length≤1000):∃b,Xc fuel l=some b∧(b=true→∀(k:Nat)(t:Tx),l[k]? =some t→idF t≠z32∧∀(j:Nat)(u:Tx),j < k→l[j]? =some u→idF u≠idF t):=by
 unfold Xc
 obtain⟨x,g1,g2⟩:=Y6 (step:=YH fuel) l.length (λk s=>s=(l,(k:Int))∧∀(i:Nat)(t:Tx),i < k→l[i]? =some t→idF t≠z32∧∀(j:Nat)(u:Tx),j < i→l[j]? =some u→idF u≠idF t)
  (λx=>x=.inl false∨(x=.inr ()∧∀(i:Nat)(t:Tx),l[i]? =some t→idF t≠z32∧∀(j:Nat)(u:Tx),j < i→l[j]? =some u→idF u≠idF t)) (i:=(l,(0:Int))) ⟨rfl,λi t hi=>by omega⟩ (by omega) (by
  rintro k _ hk ⟨rfl,h1⟩;obtain⟨t,ht,htm⟩:=Zu hk;unfold YH;dsimp only;rw[if_pos (Yp hk),Zx ht,ya,(h t htm).id.1,ya];by_cases c:idF t=z32
  ·right;rw[show decide (idF t=yzz)=true from decide_eq_true c,if_pos rfl]
   exact⟨_,rfl,.inl rfl⟩
  rw[show decide (idF t=yzz)=false from decide_eq_false c,if_neg Bool.false_ne_true]
  obtain⟨x,e1,⟨b,rfl,hb⟩|⟨rfl,e2⟩⟩:=ZxC h hl ht
  ·right;rw[e1,ya,hb];exact⟨_,rfl,.inl rfl⟩
  ·left;rw[e1,ya];dsimp only;rw[ZF (by omega)];refine⟨_,rfl,rfl,λi u hi hu=> ?_⟩;by_cases hik:i=k
   ·rw[hik] at hu ⊢;rw[ht] at hu;cases hu;exact⟨c,e2⟩
   ·exact h1 i u (by omega) hu) (by
  rintro _ ⟨rfl,h1⟩;unfold YH;dsimp only;rw[if_neg (by rw[ZU];decide)];exact⟨_,rfl,.inr ⟨rfl,λi t ht=>h1 i t (yp.1 ht).1 ht⟩⟩)
 rw[g1,ya];rcases g2 with rfl|⟨rfl,g3⟩
 ·exact⟨_,rfl,λq=>by cases q⟩
 ·exact⟨_,rfl,λ_=>g3⟩
theorem ZES(ks:List UInt64)(elder newer:List FactorySub)(no more step ht:Int):
 Z3 fuel (ks,elder,newer,no,more,step,ht,true)=some (.inl true)∨
 (Z3 fuel (ks,elder,newer,no,more,step,ht,true)=some (.inr (ks,elder,newer,no,more,step,ht,true))∧ks.length≤4∧elder.length≤5∧newer.length≤5∧(1≤ht∧ht≤1000)∧0≤no∧1≤more):=by
 unfold Z3;dsimp only;by_cases c1:(ks.length:Int) < 2
 ·rw[if_pos (decide_eq_true c1)];exact .inl rfl
 rw[if_neg (by rw[decide_eq_true_iff];exact c1)];by_cases c2:(ks.length:Int) > 4
 ·rw[if_pos (decide_eq_true c2)];exact .inl rfl
 rw[if_neg (by rw[decide_eq_true_iff];exact c2)];by_cases c3:(elder.length:Int) > 5
 ·rw[if_pos (decide_eq_true c3)];exact .inl rfl
 rw[if_neg (by rw[decide_eq_true_iff];exact c3)];by_cases c4:(newer.length:Int) > 5
 ·rw[if_pos (decide_eq_true c4)];exact .inl rfl
 rw[if_neg (by rw[decide_eq_true_iff];exact c4)];by_cases c5:ht < 1
 ·rw[if_pos (decide_eq_true c5)];exact .inl rfl
 rw[if_neg (by rw[decide_eq_true_iff];exact c5)];by_cases c6:ht > 1000
 ·rw[if_pos (decide_eq_true c6)];exact .inl rfl
 rw[if_neg (by rw[decide_eq_true_iff];exact c6)];by_cases c7:no < 0
 ·rw[if_pos (decide_eq_true c7)];exact .inl rfl
 rw[if_neg (by rw[decide_eq_true_iff];exact c7)];by_cases c8:more < 1
 ·rw[if_pos (decide_eq_true c8)];exact .inl rfl
 rw[if_neg (by rw[decide_eq_true_iff];exact c8)];split
 ·exact .inl rfl
 split
 ·exact .inl rfl
 split
 ·exact .inl rfl
 ·exact .inr ⟨rfl,by omega,by omega,by omega,⟨by omega,by omega⟩,by omega,by omega⟩
theorem ZET{ks:List UInt64}{elder newer:List FactorySub}{no more step ht:Int}(hl:elder.length≤1000)(z0 w:Int):∃x,Zi (ZP fuel) fuel (ks,elder,newer,no,more,step,ht,true,z0,w,0)=some x∧
 (x=.inl true∨∃z,x=.inr (ks,elder,newer,no,more,step,ht,true,z,w)):=by
 refine Y6 (step:=ZP fuel) elder.length (λk s=>∃z,s=(ks,elder,newer,no,more,step,ht,true,z,w,(k:Int))) _ ⟨z0,rfl⟩ (by omega) ?_ ?_
 ·rintro k _ hk ⟨z,rfl⟩;obtain⟨e,he,hm⟩:=Zu hk;unfold ZP Y3;dsimp only;rw[if_pos (Yp hk),Zx he,ya];by_cases c1:e.2.2 < 0
  ·right;rw[if_pos (decide_eq_true c1),ya];exact⟨_,rfl,.inl rfl⟩
  rw[if_neg (by rw[decide_eq_true_iff];exact c1),ya];by_cases c2:e.2.2 > 1099511627776
  ·right;rw[if_pos (decide_eq_true c2),ya];exact⟨_,rfl,.inl rfl⟩
  left;rw[if_neg (by rw[decide_eq_true_iff];exact c2),ya];dsimp only;rw[Zx he,ya,ZF (by omega)];exact⟨_,rfl,_,rfl⟩
 ·rintro _ ⟨z,rfl⟩;unfold ZP;dsimp only;rw[if_neg (by rw[ZU];decide)];exact⟨_,rfl,.inr ⟨_,rfl⟩⟩
theorem ZEU{ks:List UInt64}{elder newer:List FactorySub}{no more step ht:Int}(hl:newer.length≤1000)(w z0:Int):∃x,Zi (ZQ fuel) fuel (ks,elder,newer,no,more,step,ht,true,w,z0,0)=some x∧
 (x=.inl true∨∃z,x=.inr (ks,elder,newer,no,more,step,ht,true,w,z)):=by
 refine Y6 (step:=ZQ fuel) newer.length (λk s=>∃z,s=(ks,elder,newer,no,more,step,ht,true,w,z,(k:Int))) _ ⟨z0,rfl⟩ (by omega) ?_ ?_
 ·rintro k _ hk ⟨z,rfl⟩;obtain⟨e,he,hm⟩:=Zu hk;unfold ZQ YV;dsimp only;rw[if_pos (Yp hk),Zx he,ya];by_cases c1:e.2.2 < 0
  ·right;rw[if_pos (decide_eq_true c1),ya];exact⟨_,rfl,.inl rfl⟩
  rw[if_neg (by rw[decide_eq_true_iff];exact c1),ya];by_cases c2:e.2.2 > 1099511627776
  ·right;rw[if_pos (decide_eq_true c2),ya];exact⟨_,rfl,.inl rfl⟩
  left;rw[if_neg (by rw[decide_eq_true_iff];exact c2),ya];dsimp only;rw[Zx he,ya,ZF (by omega)];exact⟨_,rfl,_,rfl⟩
 ·rintro _ ⟨z,rfl⟩;unfold ZQ;dsimp only;rw[if_neg (by rw[ZU];decide)];exact⟨_,rfl,.inr ⟨_,rfl⟩⟩
theorem ZGX{x1 x2 x3 x4 b c:Int}{d e:Bool}{l1 l2:List Tx}{f g:Int}{p:FactoryPlan}(hf:f≠0):Yh fuel (x1,x2,x3,x4,true,b,c,d,e,l1,f,l2,g,p)=some (true,p):=by
 unfold Yh;dsimp only;have hb:(f !=0)=true:=bne_iff_ne.2 hf;rw[hb];cases d <;> cases e <;> by_cases h:(b !=c)=true <;> simp[h]
theorem ZDl{x1 x2 x3 x4 b c:Int}{d e:Bool}{l1 l2:List Tx}{f g:Int}{p:FactoryPlan}{m:Wd}{st:List Zo}:ZC fuel (x1,x2,x3,x4,true,b,c,d,e,l1,f,l2,g,p,m,st)=some (.inl (true,p,m,st))∨
 (f=0∧g=0∧ZC fuel (x1,x2,x3,x4,true,b,c,d,e,l1,f,l2,g,p,m,st)=some (.inr (x1,x2,x3,x4,true,l1,l2,p,m,st))):=by
 unfold ZC;dsimp only;by_cases hf:f=0
 ·have h1:(f !=0)=false:=by rw[hf];rfl
  rw[h1];by_cases hg:g=0
  ·have h2:(g !=0)=false:=by rw[hg];rfl
   rw[h2];cases d <;> cases e <;> by_cases h:(b !=c)=true <;> simp[h,hf,hg]
  ·have h2:(g !=0)=true:=bne_iff_ne.2 hg;rw[h2];cases d <;> cases e <;> by_cases h:(b !=c)=true <;> simp[h]
 ·have h1:(f !=0)=true:=bne_iff_ne.2 hf;rw[h1];cases d <;> cases e <;> by_cases h:(b !=c)=true <;> simp[h]
theorem ZEV{no more:Int}(h0:0≤no∧no≤15)(h1:1≤more)(h2:more≤9223372036854775807)(h3:0≤wi (no+more)):wi (no+more)=no+more:=by
 simp only[wi,IntKind.wrap,IntKind.signed,IntKind.bits] at h3 ⊢;simp at h3 ⊢;omega
theorem ZkF{a b st:Int}(h:a+1≤b)(hs:1≤st):(3 - b)*st+st≤(3 - a)*st:=by
 have:(3 - b+1)*st≤(3 - a)*st:=Int.mul_le_mul_of_nonneg_right (by omega) (by omega);rw[Int.add_mul,Int.one_mul] at this;exact this
theorem ZEW{no nm:Int}(h0:0≤no)(h:no < nm):yh no 4≤yh nm 4∧(yh no 4=yh nm 4→yy no 4+1≤yy nm 4):=by
 rw[Int.tdiv_eq_ediv_of_nonneg h0,Int.tdiv_eq_ediv_of_nonneg (by omega),ydb h0,ydb (by omega)];omega
section
variable{p:FactoryPlan}{no:Int}{subs:List FactorySub}{sgs:List (List Sig)}
theorem ZDm(i1:idF (tA p sgs)=idF (tx1 p))(h:Int):YZ (goF (tA p sgs) h (m0F p)) (idF (tx1 p),0)=some ((p.2.1 - p.2.2.2.2,Xi p [1]),h):=by
 have:=ZFi (x:=(p.1,(0,Yd 0 sgs,0))) (outs:=(tx1 p).2.1) (note:=0) h (m0F p) (i:=0) Nat.zero_lt_one;rw[show idF ([(p.1,(0,Yd 0 sgs,0))],(tx1 p).2.1,0)=idF (tx1 p) from i1] at this
 exact this
theorem ZtG(hw:p.1=(z32,0))(i1:idF (tA p sgs)=idF (tx1 p))(h:Int){q:Zd}(hq:q.1≠idF (tx1 p)):YZ (goF (tA p sgs) h (m0F p)) q=none:=by
 have:=ZxB (x:=(p.1,(0,Yd 0 sgs,0))) (outs:=(tx1 p).2.1) (note:=0) h (ZFk p) (q:=q) (by
  rw[show idF ([(p.1,(0,Yd 0 sgs,0))],(tx1 p).2.1,0)=idF (tx1 p) from i1]
  exact hq)
 rw[show goF (tA p sgs) h (m0F p)=goF ([(p.1,(0,Yd 0 sgs,0))],(tx1 p).2.1,0) h (m0F p) from rfl,this]
 dsimp only;split
 ·rfl
 ·rename_i c;refine ZhN λhm=>c ?_;simp only[m0F,yaa,yca,yaf] at hm;rw[hm,hw]
theorem ZDn(h:Int):VX (goF (tA p sgs) h (m0F p)):=ZFj _ _ (ZFk p)
theorem ZHG{m:Wd}(i2:idF (tB p no sgs)=idF (tx2 p (yh no 4)))(h:Int):YZ (goF (tB p no sgs) h m) (idF (tx2 p (yh no 4)),0)=some ((p.2.1 - 2*p.2.2.2.2,Xi p [2,yh no 4]),h):=by
 have:=ZFi (x:=((idF (tx1 p),0),(yh no 4,Yd 1 sgs,0))) (outs:=(tx2 p (yh no 4)).2.1) (note:=yh no 4) h m (i:=0) Nat.zero_lt_one;rw[show idF ([((idF (tx1 p),0),(yh no 4,Yd 1 sgs,0))],(tx2 p (yh no 4)).2.1,yh no 4)=idF (tx2 p (yh no 4)) from i2] at this
 exact this
theorem ZDo{m:Wd}(hm:VX m)(i2:idF (tB p no sgs)=idF (tx2 p (yh no 4)))(h:Int){q:Zd}(hq:q.1≠idF (tx2 p (yh no 4))):YZ (goF (tB p no sgs) h m) q=if q=(idF (tx1 p),0) then none else YZ m q:=
 ZxB (x:=((idF (tx1 p),0),(yh no 4,Yd 1 sgs,0))) (outs:=(tx2 p (yh no 4)).2.1) (note:=yh no 4) h hm (q:=q) (by
  rw[show idF ([((idF (tx1 p),0),(yh no 4,Yd 1 sgs,0))],(tx2 p (yh no 4)).2.1,yh no 4)=idF (tx2 p (yh no 4)) from i2]
  exact hq)
theorem ZGY{m:Wd}(hm:VX m)(i3:idF (tC p no subs sgs)=idF (tx3 p no subs))(h:Int){q:Zd}(hq:q.1≠idF (tx3 p no subs)):YZ (goF (tC p no subs sgs) h m) q=if q=(idF (tx2 p (yh no 4)),0) then none else YZ m q:=
 ZxB (x:=((idF (tx2 p (yh no 4)),0),(yy no 4,Yd 2 sgs,0))) (outs:=subs.map ZbN) (note:=no) h hm (q:=q) (by
  rw[show idF ([((idF (tx2 p (yh no 4)),0),(yy no 4,Yd 2 sgs,0))],subs.map ZbN,no)=idF (tx3 p no subs) from i3]
  exact hq)
end
section
variable{p:FactoryPlan}{no nm ht:Int}{subs subs2:List FactorySub}{sgs sgs2:List (List Sig)}
theorem ZIt(hw:p.1=(z32,0))(hc:CutP p no subs)(hv:VW p no subs sgs)(hc2:CutP p nm subs2)(hv2:VW p nm subs2 sgs2)(hh:1≤ht∧ht≤1000)(hab:yh no 4+1≤yh nm 4)(hne:idF (tx2 p (yh nm 4))≠idF (tx1 p)){st:List Zo}(hst:st.length≤1):
 Zm fuel (tB p no sgs) (ht+(3 - yh nm 4)*p.2.2.2.1) (goF (tA p sgs) ht (m0F p)) st=some (11,goF (tA p sgs) ht (m0F p),st)∧
 ∃m2 st2,Zm fuel (tB p nm sgs2) (ht+(3 - yh nm 4)*p.2.2.2.1) (goF (tA p sgs) ht (m0F p)) st=some (0,m2,st2)∧
  Zm fuel (tB p no sgs) (ht+(3 - yh no 4)*p.2.2.2.1) m2 st2=some (5,m2,st2):=by
 have hw':p.1.1.length=32:=by rw[hw];rfl
 have hs:=hc.right.step;have ha:=(WC hc.no).1;have ha2:=(WC hc2.no).1;have i1:=(ZpE hw' hc hv).2;have i2:=(Zi9 hw' hc2 hv2).2;have b1:=Wv (c:=3 - yh no 4) (by omega) (by omega) hs;have b2:=Wv (c:=3 - yh nm 4) (by omega) (by omega) hs;have gap:=ZkF hab hs.1;refine⟨ZtE hw' hc hv ⟨by omega,by omega⟩ (ZDm i1 ht) ⟨by omega,by omega⟩ (by omega), ?_⟩;obtain⟨st2,e1,_⟩:=ZrG (sgs:=sgs2) (st:=st) hw' hc2 hv2 (h:=ht+(3 - yh nm 4)*p.2.2.2.1) (h0:=ht) ⟨by omega,by omega⟩ (by omega) (ZDm i1 ht) ⟨by omega,by omega⟩ (by omega) (ZtG hw i1 ht hne);refine⟨_,_,e1,ZvO hw' hc hv ⟨by omega,by omega⟩ ?_⟩;rw[ZDo (ZDn ht) i2 _ (λe=>hne e.symm),if_pos rfl]
theorem ZIu(hw:p.1=(z32,0))(hc:CutP p no subs)(hv:VW p no subs sgs)(hc2:CutP p nm subs2)(hv2:VW p nm subs2 sgs2)(hh:1≤ht∧ht≤1000)(hab:yh nm 4=yh no 4)(hbb:yy no 4+1≤yy nm 4)
 (hn1:idF (tx2 p (yh no 4))≠idF (tx1 p)) (hn2:idF (tx3 p nm subs2)≠idF (tx1 p)) (hn3:idF (tx3 p nm subs2)≠idF (tx2 p (yh no 4))) {st:List Zo} (hst:st.length≤1):
 ∃m2 st2,Zm fuel (tB p no sgs) (ht+(3 - yh no 4)*p.2.2.2.1) (goF (tA p sgs) ht (m0F p)) st=some (0,m2,st2)∧
 Zm fuel (tC p no subs sgs) (ht+(3 - yh no 4)*p.2.2.2.1+(3 - yy nm 4)*p.2.2.2.1) m2 st2=some (11,m2,st2)∧
 ∃m3 st3,Zm fuel (tC p nm subs2 sgs2) (ht+(3 - yh no 4)*p.2.2.2.1+(3 - yy nm 4)*p.2.2.2.1) m2 st2=some (0,m3,st3)∧
  Zm fuel (tC p no subs sgs) (ht+(3 - yh no 4)*p.2.2.2.1+(3 - yy no 4)*p.2.2.2.1) m3 st3=some (5,m3,st3):=by
 have hw':p.1.1.length=32:=by rw[hw];rfl
 have hs:=hc.right.step;have ha:=(WC hc.no).1;have hb:=(WC hc.no).2;have hb2:=(WC hc2.no).2;have i1:=(ZpE hw' hc hv).2;have i2:=(Zi9 hw' hc hv).2;have i3:=(Zly hw' hc2 hv2).2;have b1:=Wv (c:=3 - yh no 4) (by omega) (by omega) hs;have b2:=Wv (c:=3 - yy no 4) (by omega) (by omega) hs;have b3:=Wv (c:=3 - yy nm 4) (by omega) (by omega) hs;have gap:=ZkF hbb hs.1;obtain⟨st2,e1,l1⟩:=ZrG (sgs:=sgs) (st:=st) hw' hc hv (h:=ht+(3 - yh no 4)*p.2.2.2.1) (h0:=ht) ⟨by omega,by omega⟩ (by omega) (ZDm i1 ht) ⟨by omega,by omega⟩ (by omega) (ZtG hw i1 ht hn1);have at2:=ZHG (m:=goF (tA p sgs) ht (m0F p)) i2 (ht+(3 - yh no 4)*p.2.2.2.1);have nd2:VX (goF (tB p no sgs) (ht+(3 - yh no 4)*p.2.2.2.1) (goF (tA p sgs) ht (m0F p))):=ZFj _ _ (ZDn ht);refine⟨_,_,e1,ZtF hw' hc hv ⟨by omega,by omega⟩ at2 ⟨by omega,by omega⟩ (by omega), ?_⟩
 obtain⟨st3,e2,_⟩:=ZAo (sgs:=sgs2) (st:=st2) hw' hc2 hv2 (m:=goF (tB p no sgs) (ht+(3 - yh no 4)*p.2.2.2.1) (goF (tA p sgs) ht (m0F p))) (h:=ht+(3 - yh no 4)*p.2.2.2.1+(3 - yy nm 4)*p.2.2.2.1) (h0:=ht+(3 - yh no 4)*p.2.2.2.1) ⟨by omega,by omega⟩ (by omega) (by rw[hab];exact at2) ⟨by omega,by omega⟩ (by omega) (λi hi=>by
  rw[ZDo (ZDn ht) i2 _ hn3,ZtG hw i1 ht hn2];split <;> rfl)
 refine⟨_,_,e2,ZvP hw' hc hv ⟨by omega,by omega⟩ ?_⟩;rw[ZGY nd2 i3 _ (λe=>hn3 e.symm),if_pos (by rw[hab])]
end
theorem ZxD{ks:List UInt64}{elder newer:List FactorySub}(hs1:∀s,s∈elder→Zhj s)(hs2:∀s,s∈newer→Zhj s)(no more step ht:Int)(hm:more≤9223372036854775807):Ye fuel ks elder newer no more step ht=some true:=by
 unfold Ye;rw[ya];rcases ZES ks elder newer no more step ht with e0|⟨e0,hk4,hl1,hl2,hht,hno,hmore⟩
 ·rw[e0,ya]
 rw[e0,ya];dsimp only;obtain⟨x,e1,rfl|⟨z,rfl⟩⟩:=ZET (ks:=ks) (elder:=elder) (newer:=newer) (no:=no) (more:=more) (step:=step) (ht:=ht) (by omega) 0 0
 ·rw[e1,ya]
 rw[e1,ya];dsimp only;obtain⟨x,e2,rfl|⟨w,rfl⟩⟩:=ZEU (ks:=ks) (elder:=elder) (newer:=newer) (no:=no) (more:=more) (step:=step) (ht:=ht) (by omega) z 0
 ·rw[e2,ya]
 rw[e2,ya];dsimp only;rw[ZEN (by omega),ya];generalize hp:ZDf ks z step 0=p;have hkl:p.2.2.1.length=ks.length:=by rw[←hp];exact ZAi ..
 have hw:p.1=(z32,0):=by rw[←hp];rfl
 have hst:p.2.2.2.1=step:=by rw[←hp];rfl
 have hw':p.1.1.length=32:=by rw[hw];rfl
 have hk:p.2.2.1.length≤1000:=by omega
 generalize hnm:wi (no+more)=nm;obtain⟨⟨sgs,ok1⟩,e3,hn1⟩:=Zpy hk hw' (no:=no) (subs:=elder) (by omega) hs1 (ks:=ks) (by omega);obtain⟨⟨sgs2,ok2⟩,e4,hn2⟩:=Zpy hk hw' (no:=nm) (subs:=newer) (by omega) hs2 (ks:=ks) (by omega);rw[e3,ya,e4,ya];dsimp only at hn1 hn2 ⊢
 have key1:(CutP p no elder∧VW p no elder sgs∧Ya fuel p no elder sgs=some (Xd p no elder sgs,0))∨∃(l:List Tx)(e:Int),e≠0∧Ya fuel p no elder sgs=some (l,e):=by
  rcases Zy6 hk hw' (no:=no) (subs:=elder) (by omega) hs1 (sgs:=sgs) (by omega) with⟨hc,⟨hv,e3⟩|⟨hv,e3⟩⟩|⟨hc,e,he,e3⟩
  ·exact .inl ⟨hc,hv,e3⟩
  ·exact .inr ⟨_,7,by decide,e3⟩
  ·exact .inr ⟨_,e,he,e3⟩
 have key2:(CutP p nm newer∧VW p nm newer sgs2∧Ya fuel p nm newer sgs2=some (Xd p nm newer sgs2,0))∨∃(l:List Tx)(e:Int),e≠0∧Ya fuel p nm newer sgs2=some (l,e):=by
  rcases Zy6 hk hw' (no:=nm) (subs:=newer) (by omega) hs2 (sgs:=sgs2) (by omega) with⟨hc,⟨hv,e3⟩|⟨hv,e3⟩⟩|⟨hc,e,he,e3⟩
  ·exact .inl ⟨hc,hv,e3⟩
  ·exact .inr ⟨_,7,by decide,e3⟩
  ·exact .inr ⟨_,e,he,e3⟩
 have nogo1:∀(l:List Tx)(e:Int),e≠0→∀(l2:List Tx)(e2:Int)(m:Wd)(st:List Zo),ZC fuel (no,more,step,ht,true,z,w,ok1,ok2,l,e,l2,e2,p,m,st)=some (.inl (true,p,m,st)):=λl e he l2 e2 m st=>by
  rcases ZDl (x1:=no) (x2:=more) (x3:=step) (x4:=ht) (b:=z) (c:=w) (d:=ok1) (e:=ok2) (l1:=l) (f:=e) (l2:=l2) (g:=e2) (p:=p) (m:=m) (st:=st) with h|⟨h,_⟩
  ·exact h
  ·exact absurd h he
 have nogo2:∀(l:List Tx)(e:Int),e≠0→∀(l2:List Tx)(e2:Int)(m:Wd)(st:List Zo),ZC fuel (no,more,step,ht,true,z,w,ok1,ok2,l2,e2,l,e,p,m,st)=some (.inl (true,p,m,st)):=λl e he l2 e2 m st=>by
  rcases ZDl (x1:=no) (x2:=more) (x3:=step) (x4:=ht) (b:=z) (c:=w) (d:=ok1) (e:=ok2) (l1:=l2) (f:=e2) (l2:=l) (g:=e) (p:=p) (m:=m) (st:=st) with h|⟨_,h,_⟩
  ·exact h
  ·exact absurd h he
 obtain⟨f2,e6⟩:∃o,Ya fuel p nm newer sgs2=some o:=by
  rcases key2 with⟨_,_,h⟩|⟨_,_,_,h⟩ <;> exact⟨_,h⟩
 rcases key1 with⟨hc,hv,e5⟩|⟨l,e,he,e5⟩
 rotate_left
 ·rw[e5,ya,e6,ya];dsimp only;rcases ZrF hk with⟨_,e7⟩|⟨_,e7⟩
  ·rw[e7,ya];dsimp only;rw[nogo1 _ _ he,ya]
  ·rw[e7,ya];dsimp only;rw[ZGX he,ya]
 rw[e5,ya];rcases ZrF hk with⟨hr,e7⟩|⟨hr,e7⟩
 rotate_left
 ·exact absurd hc.right hr
 rcases key2 with⟨hc2,hv2,e8⟩|⟨l,e,he,e8⟩
 rotate_left
 ·rw[e8,ya,e7,ya];dsimp only;rw[nogo2 _ _ he,ya]
 rw[e8,ya,e7,ya];dsimp only
 have hnn:nm=no+more:=by
  have:=hc2.no;rw[←hnm] at this ⊢;exact ZEV hc.no hmore hm this.1
 rcases ZDl (x1:=no) (x2:=more) (x3:=step) (x4:=ht) (b:=z) (c:=w) (d:=ok1) (e:=ok2) (l1:=Xd p no elder sgs) (f:=0) (l2:=Xd p nm newer sgs2) (g:=0) (p:=p) (m:=m0F p) (st:=[]) with h|⟨_,_,h⟩
 ·rw[h,ya]
 rw[h,ya];dsimp only;obtain⟨o1,i1⟩:=ZpE hw' hc hv;obtain⟨o1',i1'⟩:=ZpE hw' hc2 hv2;obtain⟨o2,i2⟩:=Zi9 hw' hc hv;obtain⟨o2',i2'⟩:=Zi9 hw' hc2 hv2;obtain⟨o3,i3⟩:=Zly hw' hc hv;obtain⟨o3',i3'⟩:=Zly hw' hc2 hv2;have t1:ZY fuel (tA p sgs)=some (idF (tx1 p)):=by rw[o1.id.1,i1]
 have t1':ZY fuel (tA p sgs2)=some (idF (tx1 p)):=by rw[o1'.id.1,i1']
 have t2:ZY fuel (tB p no sgs)=some (idF (tx2 p (yh no 4))):=by rw[o2.id.1,i2]
 have t2':ZY fuel (tB p nm sgs2)=some (idF (tx2 p (yh nm 4))):=by rw[o2'.id.1,i2']
 have x0:idx (Xd p no elder sgs) 0=some (tA p sgs):=rfl;have x1:idx (Xd p no elder sgs) 1=some (tB p no sgs):=rfl;have x2:idx (Xd p no elder sgs) 2=some (tC p no elder sgs):=rfl;have y0:idx (Xd p nm newer sgs2) 0=some (tA p sgs2):=rfl;have y1:idx (Xd p nm newer sgs2) 1=some (tB p nm sgs2):=rfl;have y2:idx (Xd p nm newer sgs2) 2=some (tC p nm newer sgs2):=rfl;rw[show YW fuel (no,more,step,ht,true,Xd p no elder sgs,Xd p nm newer sgs2,p,m0F p,[])=some (.inr (no,more,step,ht,true,Xd p no elder sgs,Xd p nm newer sgs2,p,m0F p,[])) from rfl,ya]
 dsimp only;rw[x0,ya,t1,ya];by_cases hz:idF (tx1 p)=z32
 ·rw[show decide (idF (tx1 p)=yzz)=true from decide_eq_true hz,if_pos rfl]
 rw[show decide (idF (tx1 p)=yzz)=false from decide_eq_false hz,if_neg Bool.false_ne_true]
 obtain⟨st,a1,l1⟩:=ZAn (sgs:=sgs) hw hc hv (h:=ht) ⟨by omega,by omega⟩ hz
 have s23:Yi fuel (no,more,step,ht,true,Xd p no elder sgs,Xd p nm newer sgs2,p,m0F p,[])=some (.inr (no,more,step,ht,true,Xd p no elder sgs,Xd p nm newer sgs2,p,goF (tA p sgs) ht (m0F p),st)):=by
  unfold Yi;dsimp only;rw[x0,ya,t1,ya,y0,ya,t1',ya,decide_eq_true (show idF (tx1 p)=idF (tx1 p) from rfl),if_neg (by decide),ya,a1,ya]
  rfl
 rw[s23,ya];dsimp only;rw[hnm,ZtD hk hc.right hc.no ⟨by omega,by omega⟩,ya,ZtD hk hc.right hc2.no ⟨by omega,by omega⟩,ya];dsimp only;obtain⟨lab,lbb⟩:=ZEW (no:=no) (nm:=nm) hno (by omega);have ha:=(WC hc.no).1;have ha2:=(WC hc2.no).1;have hb:=(WC hc.no).2;have hb2:=(WC hc2.no).2;have hsp:=hr.step;have b1:=Wv (c:=3 - yh no 4) (by omega) (by omega) hsp;have b2:=Wv (c:=3 - yh nm 4) (by omega) (by omega) hsp;have b3:=Wv (c:=3 - yy no 4) (by omega) (by omega) hsp;have b4:=Wv (c:=3 - yy nm 4) (by omega) (by omega) hsp;generalize hM:ht+(3 - yh no 4)*p.2.2.2.1=mm;generalize hN:ht+(3 - yh nm 4)*p.2.2.2.1=nn;by_cases cA:yh no 4=yh nm 4∨idF (tx2 p (yh no 4))≠idF (tx2 p (yh nm 4))
 rotate_left
 ·obtain⟨c1,c2⟩:=not_or.1 cA
  have s24:∀j,ZM fuel (no,more,step,ht,true,Xd p no elder sgs,Xd p nm newer sgs2,mm,nn,j,p,goF (tA p sgs) ht (m0F p),st)=some (.inl (true,p,goF (tA p sgs) ht (m0F p),st)):=λj=>by
   unfold ZM;dsimp only;rw[hnm,ZK (z:=yh no 4) (by omega) (by omega),ZK (z:=yh nm 4) (by omega) (by omega),if_pos (bne_iff_ne.2 c1),x1,ya,t2,ya,y1,ya,t2',ya,if_pos (decide_eq_true (Decidable.not_not.1 c2))]
  rw[s24,ya]
 have s24:∀j,ZM fuel (no,more,step,ht,true,Xd p no elder sgs,Xd p nm newer sgs2,mm,nn,j,p,goF (tA p sgs) ht (m0F p),st)=some (.inr (no,step,ht,true,Xd p no elder sgs,Xd p nm newer sgs2,mm,nn,j,p,goF (tA p sgs) ht (m0F p),st)):=λj=>by
  unfold ZM;dsimp only;rw[hnm,ZK (z:=yh no 4) (by omega) (by omega),ZK (z:=yh nm 4) (by omega) (by omega)];by_cases c:yh no 4=yh nm 4
  ·rw[if_neg (by rw[bne_iff_ne];exact λq=>q c)]
  ·rw[if_pos (bne_iff_ne.2 c),x1,ya,t2,ya,y1,ya,t2',ya,if_neg (by rw[decide_eq_true_iff];exact cA.resolve_left c)]
 rw[s24,ya];dsimp only;by_cases cB:idF (tx2 p (yh no 4))=idF (tx2 p (yh nm 4))
 rotate_left
 ·
  have hlt:yh no 4+1≤yh nm 4:=by
   have:yh no 4≠yh nm 4:=λq=>cB (by rw[q]);omega
  have gap:=ZkF hlt hsp.1;rw[hst] at gap hM hN b1 b2
  have s25:∀j,∃m2 st2,ZN fuel (no,step,ht,true,Xd p no elder sgs,Xd p nm newer sgs2,mm,nn,j,p,goF (tA p sgs) ht (m0F p),st)=some (.inl (true,p,m2,st2)):=λj=>by
   unfold ZN;dsimp only;rw[x1,ya,t2,ya,y1,ya,t2',ya,decide_eq_false cB,if_pos (by decide),x0,ya,ya,ya]
   obtain⟨b,hb1,hb2⟩:=ZrH (l:=[tA p sgs,tB p no sgs,tB p nm sgs2]) (λt ht=>by
    simp only[yau,List.not_mem_nil,or_false] at ht;rcases ht with rfl|rfl|rfl
    ·exact o1
    ·exact o2
    ·exact o2') (by simp)
   rw[hb1,ya]
   cases b with
   |false=>
    rw[if_pos (by decide)]
    exact⟨_,_,rfl⟩
   |true=>
    have d:=((hb2 rfl) 2 (tB p nm sgs2) rfl).2 0 (tA p sgs) (by omega) rfl;rw[i1,i2'] at d;obtain⟨q1,m2,st2,q2,q3⟩:=ZIt (ht:=ht) hw hc hv hc2 hv2 hht hlt (λq=>d q.symm) l1;rw[hst] at q1 q2 q3;rw[hN] at q1 q2;rw[hM] at q3;rw[if_neg (by decide),if_pos rfl,ZK (z:=nn+step) (by omega) (by omega),if_pos (decide_eq_true (by omega)),ya,q1,ya];dsimp only;rw[if_pos (by decide),ya,q2,ya];dsimp only;rw[if_pos (by decide),ya,q3,ya];exact⟨_,_,rfl⟩
  obtain⟨m2,st2,q⟩:=s25 (nn+(3 - yy nm 4)*p.2.2.2.1);rw[q,ya]
 have s25:∀j,ZN fuel (no,step,ht,true,Xd p no elder sgs,Xd p nm newer sgs2,mm,nn,j,p,goF (tA p sgs) ht (m0F p),st)=some (.inr (no,step,ht,true,Xd p no elder sgs,Xd p nm newer sgs2,mm,nn,j,p,goF (tA p sgs) ht (m0F p),st)):=λj=>by
  unfold ZN;dsimp only;rw[x1,ya,t2,ya,y1,ya,t2',ya,decide_eq_true cB,if_neg (by decide)]
 rw[s25,ya];dsimp only;have haa:yh no 4=yh nm 4:=cA.resolve_right λq=>q cB;have hmn:mm=nn:=by rw[←hM, ←hN,haa]
 have hb1':=lbb haa;have gap:=ZkF hb1' hsp.1;rw[x0,ya,x1,ya,x2,ya,y2,ya]
 obtain⟨b,hb1,hb2⟩:=ZrH (l:=[tA p sgs,tB p no sgs,tC p no elder sgs,tC p nm newer sgs2]) (λt ht=>by
  simp only[yau,List.not_mem_nil,or_false] at ht;rcases ht with rfl|rfl|rfl|rfl
  ·exact o1
  ·exact o2
  ·exact o3
  ·exact o3') (by simp)
 rw[hb1,ya]
 cases b with
 |false=>rw[if_pos (by decide)]
 |true=>
  have d1:=((hb2 rfl) 1 (tB p no sgs) rfl).2 0 (tA p sgs) (by omega) rfl;have d2:=((hb2 rfl) 3 (tC p nm newer sgs2) rfl).2 0 (tA p sgs) (by omega) rfl;have d3:=((hb2 rfl) 3 (tC p nm newer sgs2) rfl).2 1 (tB p no sgs) (by omega) rfl;rw[i1,i2] at d1;rw[i1,i3'] at d2;rw[i2,i3'] at d3;obtain⟨m2,st2,q1,q2,m3,st3,q3,q4⟩:=ZIu (ht:=ht) hw hc hv hc2 hv2 hht haa.symm hb1' (λq=>d1 q.symm) (λq=>d2 q.symm) (λq=>d3 q.symm) l1;rw[hM] at q1 q2 q3 q4;rw[if_neg (by decide)]
  have s28:∀j,Yj fuel (no,step,ht,true,Xd p no elder sgs,Xd p nm newer sgs2,mm,nn,j,p,goF (tA p sgs) ht (m0F p),st)=some (.inr (no,step,ht,true,Xd p no elder sgs,Xd p nm newer sgs2,j,p,m2,st2)):=λj=>by
   unfold Yj;dsimp only;rw[←hmn,if_neg (by rw[bne_iff_ne];exact λq=>q rfl),x1,ya,q1,ya];rfl
  rw[s28,ya];dsimp only;rw[ZtD hk hc.right hc.no ⟨by omega,by omega⟩,ya,if_pos rfl];dsimp only;rw[hM, ←hmn];rw[hst] at gap hM hN b1 b2 b3 b4 q2 q3 q4 ⊢;rw[ZK (z:=mm+(3 - yy nm 4)*step+step) (by omega) (by omega),if_pos (decide_eq_true (by omega)),x2,ya,q2,ya];dsimp only;rw[if_pos (by decide),y2,ya,q3,ya];dsimp only;rw[if_pos (by decide),ya,q4,ya];rfl
end Go.Proofs.Ytkapgdbeeblihaa
end
