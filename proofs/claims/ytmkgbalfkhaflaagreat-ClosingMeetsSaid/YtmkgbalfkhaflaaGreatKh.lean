/- Parts of the proof, in one file. -/
import Derived.Test.YtmkgbalfkhaflaaGreatKg
open Int renaming toNat_natCast → ybf
open List renaming mem_singleton → yan, getElem?_cons_succ → yaq, getElem?_cons_zero → yar
open Option renaming bind_some → ya, bind → ybc
set_option linter.unusedVariables false
set_option linter.unusedSimpArgs false
section
set_option maxRecDepth 4000
namespace Go.Proofs.YtmkgbalfkhaflaaGreat
open Go Go.Ev
namespace Cx
noncomputable section
theorem ZJa{x:Cx}(h:x.Ok){me:Int}(hme:me=0∨me=1):Ys fuel x.ch (x.kt me) me x.s (x.own me) (Xw x.op me x.n)=some (.inr (0,x.ch,x.kt me,me,x.s.1,x.s.2.1,x.s.2.2.2,x.lk me 0,x.fe me 0,(0,0),[],[],[])):=by
 have o:=x.own_ok me;have hw:ZBr (x.own me):=⟨by simp[own],λb hb=>by rw[yan.1 hb];simp⟩;obtain⟨r,r1,r2,r3⟩:=ZKN h.c h.s h.w hme hw (Xw x.op me x.n);have hr:r=true:=r2.2 o;unfold ch kt;rw[r3,if_neg (by rw[hr];decide),if_neg (by simp[h.e]),ZI9 h me,if_neg (by decide)]
 have e1:(([([]:Lock),([]:Lock)]:List Lock).set me.toNat (x.own me))=x.lk me 0∧x.fe me 0=Xw x.op me x.n:=by
  rcases hme with rfl|rfl <;> exact⟨rfl,rfl⟩
 rw[e1.1,e1.2]
theorem ZIM{p:Corsnedlaw21Play}(hp:PlayOk p){z:Int}(z0:0≤z)(z1:z≤65535):∃x:Cx,x.Ok∧V0 fuel p z=some (x.ch,x.s,x.n,true,x.ch,x.kt 0,0,x.s.1,x.s.2.1,x.s.2.2.2,x.lk 0 0,x.fe 0 0,(0,0),x.ch,x.kt 1,1,x.s.1,x.s.2.1,x.s.2.2.2,x.lk 1 0,x.fe 1 0,(0,0),[],[],[],[],[],[]):=by
 have hp2:PlayOk (p.1,p.2.1,p.2.2.1,p.2.2.2.1,p.2.2.2.2.1,([]:List W5),p.2.2.2.2.2.2.1,p.2.2.2.2.2.2.2):=⟨hp.sl,hp.ss,by simp,by simp,hp.n0,hp.n1,hp.per⟩;obtain⟨A,k0,k1,op,s,e1,c,⟨h0,h1,hs,w⟩,ho⟩:=ZMx hp2
 have e:s.2.2.1=[]:=by
  rw[List.eq_nil_iff_forall_not_mem];intro q hq;obtain⟨_,_,o,h,_⟩:=ho q hq;cases h
 have hc:=Zpc hs.r0 hs.r1 (n:=s.2.2.1.length) (by rw[e];decide);have hA:=c.hi;have ht:=hs.tot;rw[e,show amtC ([]:List Cond)=0 from rfl] at ht
 have p0:=hs.p0;have p1:=hs.p1
 have hh:660≤hav op h0 h1∧hav op h0 h1≤4300000000:=by
  refine⟨by omega, ?_⟩;unfold hav;split <;> omega
 have hm:=Int.emod_nonneg z (show hav op h0 h1 - 51≠0 by omega);have hm2:=Int.emod_lt_of_pos z (show 0 < hav op h0 h1 - 51 by omega);obtain⟨r,g0,g1,hx⟩:=ex c hs w e (n:=52+z % (hav op h0 h1 - 51)) (by omega) (by omega);refine⟨_,hx, ?_⟩;have n0:=ZJa hx (.inl rfl);have n1:=ZJa hx (.inr rfl);generalize hq:(⟨A,k0,k1,op,s,h0,h1,52+z % (hav op h0 h1 - 51),r,g0,g1⟩:Cx)=x at*;have q1:x.ch=Z7 A k0 k1 op:=by rw[←hq];rfl
 have q2:x.s=s:=by rw[←hq]
 have q3:x.kt 0=k0∧x.kt 1=k1:=by rw[←hq];exact⟨rfl,rfl⟩
 have q4:x.n=52+z % (hav op h0 h1 - 51):=by rw[←hq]
 have q5:x.own 0=[([B k0.2.1.toNat],0,0,0)]∧x.own 1=[([B k1.2.1.toNat],0,0,0)]:=by rw[←hq];exact⟨rfl,rfl⟩
 have q6:x.op=op:=by rw[←hq]
 rw[q1,q2,q3.1,q5.1,q6] at n0;rw[q1,q2,q3.2,q5.2,q6] at n1;have hO:(Z7 A k0 k1 op).2.2.2.2=op:=rfl;have hB:(Z7 A k0 k1 op).2.2.1=[ZY k0,ZY k1]:=rfl
 have hn:wi (52+Int.tmod (wi z) (wi (hav op h0 h1 - 51)))=x.n:=by
  rw[Zz (z:=hav op h0 h1 - 51) (by omega) (by omega),Zz (z:=z) (by omega) (by omega),Int.tmod_eq_emod_of_nonneg z0,q4,Zz (by omega) (by omega)]
 have hz:((wi (hav op h0 h1 - 51))!=0)=true:=by
  rw[Zz (by omega) (by omega),bne_iff_ne];omega
 have hw:Vr fuel p=some (Z7 A k0 k1 op,[k0,k1],s):=by
  unfold Vr;rw[e1,ya]
 unfold V0;rw[hw,ya];dsimp only;rw[hO,if_pos (YD c.o),hs.hv,Zdo c.o,ya,if_pos hz,hn,hB,q1,q2,q3.1,q3.2];have k0':∀k:Kit,(ZY k).2.1=B k.2.1.toNat:=λ_=>rfl;have r0:Xw op 0 x.n=if(0:Int)=op then x.n else 0:=rfl
 have r1:Xw op 1 x.n=if(1:Int)=op then x.n else 0:=rfl
 have hsv:(s.1,[h0,h1],s.2.2.1,s.2.2.2)=s:=by rw[←hs.hv]
 rcases c.o with rfl|rfl
 ·rw[r0,if_pos rfl] at n0;rw[r1,if_neg (by decide)] at n1;rw[if_pos (by rfl),yar,ya,yar,ya,k0',Zud,ya,n0,ya];dsimp only;rw[if_pos (by rfl),if_neg (by decide),yaq,yar,ya,yaq,yar,ya,k0',Zud,ya,n1,ya];dsimp only;rw[if_pos (by rfl)]
 ·rw[r0,if_neg (by decide)] at n0;rw[r1,if_pos rfl] at n1;rw[if_neg (by decide),yar,ya,yar,ya,k0',Zud,ya,n0,ya];dsimp only;rw[if_pos (by rfl),if_pos (by rfl),yaq,yar,ya,yaq,yar,ya,k0',Zud,ya,n1,ya];dsimp only;rw[if_pos (by rfl)]
abbrev tw(x:Cx)(a b:Nat):ZE×Kit×Int×Int×List Int×Int×List Lock×Int×Sig×ZE×Kit×Int×Int×List Int×Int×List Lock×Int×Sig×List Cond×List Msg×List Msg×List Cond×List Msg×List Msg×ZE×State:=
 (x.ch,x.kt 0,(0:Int),x.s.1,x.s.2.1,x.s.2.2.2,x.lk 0 a,x.fe 0 a,x.sn 0 a,x.ch,x.kt 1,(1:Int),x.s.1,x.s.2.1,x.s.2.2.2,x.lk 1 b,x.fe 1 b,x.sn 1 b,([]:List Cond),x.sa 0 a,x.hd 0 a,([]:List Cond),x.sa 1 b,x.hd 1 b,x.ch,x.s)
theorem ZxY{x:Cx}{i:Int}{a k:Nat}{m:Msg}(h:(x.sa i a)[k]? =some m):k=0∧m=x.cl i∨k=1∧m=x.sy i:=by
 unfold sa at h;split at h
 ·simp at h
 ·match k,h with
  |0,h=>cases h;exact .inl ⟨rfl,rfl⟩
  |k+1,h=>simp at h
 ·match k,h with
  |0,h=>cases h;exact .inl ⟨rfl,rfl⟩
  |1,h=>cases h;exact .inr ⟨rfl,rfl⟩
  |k+2,h=>simp at h
theorem Zue{a:Nat}(h:a≤3):st a≤3:=by
 unfold st;split <;> omega
theorem ZHc{a j:Nat}(h:a≤3):tk a j≤3:=by
 unfold tk;split <;> split <;> omega
theorem b18{x:Cx}(h:x.Ok){a b:Nat}(ha:a≤3)(hb:b≤3){o:List UInt8}{k:Nat}(hk:k < o.length)(ht:Int)(p:Corsnedlaw21Play):
 ∃a' b',a'≤3∧b'≤3∧YQ fuel (o,ht,true,x.n,(k:Int),p,x.tw a b)=some (o,ht,true,x.n,(k:Int),p,x.tw a' b'):=by
 obtain⟨e,he,_⟩:=Zk hk;unfold YQ;dsimp only[tw];rw[Zp he,ya];rcases ZBq e with hw|hw
 ·rw[hw,if_pos (by rfl),x.again_e 1 b,ya];dsimp only[en];rw[ya];by_cases hq:((e / 2).toNat:Int) ≥ ((x.sa 1 b).length:Int)
  ·rw[if_pos (decide_eq_true hq),x.start_e (.inl rfl) ha,ya];exact⟨st a,b,Zue ha,hb,rfl⟩
  ·obtain⟨m,hm,_⟩:=Zk (l:=x.sa 1 b) (k:=(e / 2).toNat) (by omega);obtain⟨r,q,hr⟩:=ZxX h (me:=0) (.inl rfl) ha (m:=m) (ZxY (i:=1) hm);rw[if_neg (by rw[decide_eq_true_iff];exact hq),Zp hm,ya,hr,ya];exact⟨_,b,ZHc ha,hb,rfl⟩
 ·rw[hw,if_neg (by decide),if_pos (by rfl),x.again_e 0 a,ya];dsimp only[en];rw[ya];by_cases hq:((e / 2).toNat:Int) ≥ ((x.sa 0 a).length:Int)
  ·rw[if_pos (decide_eq_true hq),x.start_e (.inr rfl) hb,ya];exact⟨a,st b,ha,Zue hb,rfl⟩
  ·obtain⟨m,hm,_⟩:=Zk (l:=x.sa 0 a) (k:=(e / 2).toNat) (by omega);obtain⟨r,q,hr⟩:=ZxX h (me:=1) (.inr rfl) hb (m:=m) (ZxY (i:=0) hm);rw[if_neg (by rw[decide_eq_true_iff];exact hq),Zp hm,ya,hr,ya];exact⟨a,_,ha,ZHc hb,rfl⟩
theorem l0{x:Cx}(h:x.Ok){o:List UInt8}(ho:o.length≤40)(ht:Int)(p:Corsnedlaw21Play):
 ∃a b,a≤3∧b≤3∧Zb (ZZ fuel) fuel (o,ht,true,x.n,(0:Int),p,x.tw 0 0)=some (ht,true,x.n,p,x.tw a b):=by
 obtain⟨q,q1,a,b,ha,hb,rfl⟩:=Yk (step:=ZZ fuel) o.length (λk s=>∃a b,a≤3∧b≤3∧s=(o,ht,true,x.n,(k:Int),p,x.tw a b)) (λs=>∃a b,a≤3∧b≤3∧s=(ht,true,x.n,p,x.tw a b)) (i:=(o,ht,true,x.n,(0:Int),p,x.tw 0 0)) ⟨0,0,by omega,by omega,rfl⟩ (by omega) (by
  rintro k _ hk ⟨a,b,ha,hb,rfl⟩;obtain⟨a',b',ha',hb',e⟩:=b18 h ha hb hk ht p;left;unfold ZZ;dsimp only[tw] at e ⊢;rw[if_pos (Z9 hk),e,ya];dsimp only;rw[Zs (by omega)];exact⟨_,rfl,a',b',ha',hb',rfl⟩) (by
  rintro _ ⟨a,b,ha,hb,rfl⟩;unfold ZZ;dsimp only[tw];rw[if_neg (by rw[ZW];decide)];exact⟨_,rfl,a,b,ha,hb,rfl⟩)
 exact⟨a,b,ha,hb,q1⟩
def tks(b:Nat):Nat→Nat
 |0=>b
 |k+1=>tk (tks b k) k
theorem ZnJ{b:Nat}(h:b≤3):∀k,tks b k≤3
 |0=>h
 |k+1=>ZHc (ZnJ h k)
def ln(a:Nat):Nat:=if a=0 then 0 else if a=1 then 1 else 2
theorem ZJb(x:Cx)(i:Int){a:Nat}(h:a≤3):(x.sa i a).length=ln a:=by
 match a,h with
 |0,_=>rfl
 |1,_=>rfl
 |2,_=>rfl
 |3,_=>rfl
theorem ZMT{x:Cx}(h:x.Ok){a b:Nat}(ha:a≤3)(hb:b≤3)(ht rd:Int)(p:Corsnedlaw21Play):
 Zb (Zx fuel) fuel (ht,true,x.n,rd,(0:Int),x.sa 0 a,(0:Int),p,x.tw a b)=some (ht,true,x.n,rd,(0:Int),p,x.tw a (tks b (ln a))):=by
 have hl:=ZJb x 0 ha;refine ZN (ln a) (λk:Nat=>(ht,true,x.n,rd,(0:Int),x.sa 0 a,(k:Int),p,x.tw a (tks b k))) ?_ ?_ (by rw[←hl];have:=x.sa_len 0 a;omega)
 ·intro k hk;rw[←hl] at hk;obtain⟨m,hm,_⟩:=Zk hk;obtain⟨r,q,hr⟩:=ZxX h (me:=1) (.inr rfl) (ZnJ hb k) (m:=m) (ZxY (i:=0) hm);unfold Zx;dsimp only[tw];rw[if_pos (Z9 hk),if_pos (by rfl),Zp hm,ya,hr,ya];dsimp only[en];rw[Zs (by have:=x.sa_len 0 a;omega)];rfl
 ·unfold Zx;dsimp only[tw];rw[hl,if_neg (by rw[ZW];decide)]
theorem ZMU{x:Cx}(h:x.Ok){a b:Nat}(ha:a≤3)(hb:b≤3)(ht rd:Int)(p:Corsnedlaw21Play):
 Zb (Zx fuel) fuel (ht,true,x.n,rd,(1:Int),x.sa 1 b,(0:Int),p,x.tw a b)=some (ht,true,x.n,rd,(1:Int),p,x.tw (tks a (ln b)) b):=by
 have hl:=ZJb x 1 hb;refine ZN (ln b) (λk:Nat=>(ht,true,x.n,rd,(1:Int),x.sa 1 b,(k:Int),p,x.tw (tks a k) b)) ?_ ?_ (by rw[←hl];have:=x.sa_len 1 b;omega)
 ·intro k hk;rw[←hl] at hk;obtain⟨m,hm,_⟩:=Zk hk;obtain⟨r,q,hr⟩:=ZxX h (me:=0) (.inl rfl) (ZnJ ha k) (m:=m) (ZxY (i:=1) hm);unfold Zx;dsimp only[tw];rw[if_pos (Z9 hk),if_neg (by decide),if_pos (by rfl),Zp hm,ya,hr,ya];dsimp only[en];rw[Zs (by have:=x.sa_len 1 b;omega)];rfl
 ·unfold Zx;dsimp only[tw];rw[hl,if_neg (by rw[ZW];decide)]
def rA(q:Nat×Nat):Nat×Nat:=(st q.1,tks q.2 (ln (st q.1)))
def rB(q:Nat×Nat):Nat×Nat:=(tks q.1 (ln (st q.2)),st q.2)
theorem rAB:∀a:Fin 4,∀b:Fin 4,rB (rA (rB (rA (a.1,b.1))))=(3,3):=by decide
theorem l2{x:Cx}(h:x.Ok){q:Nat×Nat}(ha:q.1≤3)(hb:q.2≤3)(ht rd:Int)(p:Corsnedlaw21Play):
 Zb (Yg fuel) fuel (ht,true,x.n,rd,(0:Int),p,x.tw q.1 q.2)=some (ht,true,x.n,rd,p,x.tw (rB (rA q)).1 (rB (rA q)).2):=by
 refine ZN 2 (λk:Nat=>(ht,true,x.n,rd,(k:Int),p,x.tw (if k=0 then q else if k=1 then rA q else rB (rA q)).1 (if k=0 then q else if k=1 then rA q else rB (rA q)).2)) ?_ ?_ (by omega)
 ·intro k hk;unfold Yg XL;rcases (show k=0∨k=1 by omega) with rfl|rfl
  ·have e:=ZMT h (Zue ha) hb ht rd p;dsimp only[tw] at e ⊢;rw[if_pos (by rfl),if_pos (by rfl),if_pos rfl,x.start_e (.inl rfl) ha,ya];dsimp only[en];rw[e,ya,ya];rfl
  ·have e:=ZMU h (a:=(rA q).1) (b:=st (rA q).2) (Zue ha) (Zue (ZnJ hb _)) ht rd p;dsimp only[tw] at e ⊢;rw[if_pos (by rfl),if_neg (by decide),if_pos (by rfl),if_neg (by decide),if_pos rfl,x.start_e (.inr rfl) (a:=(rA q).2) (ZnJ hb _),ya];dsimp only[en];rw[e,ya,ya];rfl
 ·unfold Yg;dsimp only[tw];rw[if_neg (by decide)];rfl
theorem l1{x:Cx}(h:x.Ok){a b:Nat}(ha:a≤3)(hb:b≤3)(ht:Int)(p:Corsnedlaw21Play):
 Zb (Yh fuel) fuel (ht,true,x.n,(0:Int),p,x.tw a b)=some (ht,true,x.n,p,x.tw 3 3):=by
 have h3:=rAB ⟨a,by omega⟩ ⟨b,by omega⟩;dsimp only at h3;have hA:(rB (rA (a,b))).1≤3:=ZnJ (Zue ha) _;have hB:(rB (rA (a,b))).2≤3:=Zue (ZnJ hb _);refine ZN 2 (λk:Nat=>(ht,true,x.n,(k:Int),p,x.tw (if k=0 then(a,b) else if k=1 then rB (rA (a,b)) else(3,3)).1 (if k=0 then(a,b) else if k=1 then rB (rA (a,b)) else(3,3)).2)) ?_ ?_ (by omega)
 ·intro k hk;unfold Yh;rcases (show k=0∨k=1 by omega) with rfl|rfl
  ·have e:=l2 h (q:=(a,b)) ha hb ht 0 p;dsimp only[tw] at e ⊢;rw[if_pos (by rfl),show(((0:Nat):Int))=0 from rfl,if_pos rfl,e,ya]
   rfl
  ·have e:=l2 h hA hB ht 1 p;rw[h3] at e;dsimp only[tw] at e ⊢;rw[if_pos (by rfl),show(((1:Nat):Int))=1 from rfl,if_neg (by decide),if_pos rfl,e,ya]
   rfl
 ·unfold Yh;dsimp only[tw];rw[if_neg (by decide)];rfl
end
end Cx
end Go.Proofs.YtmkgbalfkhaflaaGreat
end
section
set_option maxRecDepth 4000
namespace Go.Proofs.YtmkgbalfkhaflaaGreat
open Go Go.Ev
theorem ZIN{x:In}(hx:x.2.2.1.length≤12){outs:List Out}(h1:outs.length≤64)(ho:∀o,o∈outs→Wh o.2)(note:Int)(sa sb:Sig):VS fuel ([x],outs,note) sa sb=some ([(x.1,(0,[sa,sb],0))],outs,note):=by
 unfold VS Zb3 Zjc Zjb;dsimp only;rw[if_neg (by simp),if_pos (Z2 (by simp) (by simp)),ya];have e0:([x]:List In)[(0:Nat)]? =some x:=rfl
 have hs:Zb1 fuel x.2.2.1=some x.2.2.1:=by
  unfold Zb1;rw[if_pos (Z2 (by omega) (by omega))]
 by_cases he:outs.isEmpty=true
 ·have he':outs=[]:=List.isEmpty_iff.1 he;subst he'
  have hc:XJ fuel ([]:List Out)=some (.inr []):=by
   unfold XJ;rw[if_pos he];unfold Zb0;rw[if_pos (Z2 (by simp) (by simp))];rfl
  rw[hc,ya];dsimp only;generalize hz:(([]:List In),([]:List Out),(0:Int))=z
  have l0:Zb (Xo fuel) fuel ((([x]:List In).length:Int),(0:Int),([]:List Out),note,z,[()],[x])=some (([]:List Out),note,z,[()],[x]):=by
   refine ZN 1 (λk:Nat=>((([x]:List In).length:Int),(k:Int),([]:List Out),note,z,[()],[x])) ?_ ?_ (by omega)
   ·intro k hk;have:k=0:=by omega
    subst this;unfold Xo;dsimp only;rw[if_pos (decide_eq_true (by simp)),if_pos (Yf (by omega) (by simp)),ybf,e0,ya,hs,ya,if_pos (Yf (by omega) (by simp)),ya];rfl
   ·unfold Xo;dsimp only;rw[if_neg (by simp)]
  rw[l0,ya];dsimp only
  have l1:Zb (Wb fuel) fuel ((([]:List Out).length:Int),(0:Int),([]:List Out),note,z,[()],[x])=some (([]:List Out),note,z,[()],[x]):=by
   refine ZN 0 (λk:Nat=>((([]:List Out).length:Int),(k:Int),([]:List Out),note,z,[()],[x])) (λk hk=>absurd hk (by omega)) ?_ (by omega);unfold Wb;dsimp only;rw[if_neg (by simp)]
  rw[l1,ya,ya];dsimp only;rw[if_pos (by simp),if_pos (Yf (by omega) (by simp))];rfl
 ·have hc:XJ fuel outs=some (.inl ([()],outs)):=by
   unfold XJ Zb2 ZaS;rw[if_neg he,if_neg he,if_pos (Z2 (by omega) (by omega))];rfl
  rw[hc,ya];dsimp only;generalize hz:(([]:List In),([]:List Out),(0:Int))=z
  have l0:Zb (XQ fuel) fuel ((([x]:List In).length:Int),(0:Int),note,z,[()],[x],[()],outs)=some (note,z,[()],[x],[()],outs):=by
   refine ZN 1 (λk:Nat=>((([x]:List In).length:Int),(k:Int),note,z,[()],[x],[()],outs)) ?_ ?_ (by omega)
   ·intro k hk;have:k=0:=by omega
    subst this;have e0:([x]:List In)[(0:Nat)]? =some x:=rfl
    have hs:Zb1 fuel x.2.2.1=some x.2.2.1:=by
     unfold Zb1;rw[if_pos (Z2 (by omega) (by omega))]
    unfold XQ;dsimp only;rw[if_pos (decide_eq_true (by simp)),if_pos (Yf (by omega) (by simp)),ybf,e0,ya,hs,ya,if_pos (Yf (by omega) (by simp)),ya];rfl
   ·unfold XQ;dsimp only;rw[if_neg (by simp)]
  rw[l0,ya];dsimp only
  have l1:Zb (XS fuel) fuel ((outs.length:Int),(0:Int),note,z,[()],[x],[()],outs)=some (note,z,[()],[x],[()],outs):=by
   refine ZN outs.length (λk:Nat=>((outs.length:Int),(k:Int),note,z,[()],[x],[()],outs)) ?_ ?_ (by omega)
   ·intro k hk;obtain⟨o,hok,hom⟩:=Zk hk;obtain⟨g1,g2,g3⟩:=ho o hom
    have hbe:¬o.2.isEmpty=true:=by
     intro h;rw[List.isEmpty_iff] at h;rw[h] at g1;simp at g1
    have hbr:XK fuel o.2=some ([()],o.2):=by
     unfold XK QP;rw[if_neg hbe,if_pos (Z2 (by omega) (by omega))]
    unfold XS;dsimp only;rw[if_pos (Z9 hk),if_pos (Yf (by omega) (by omega)),ybf,hok,ya,hbr,ya];dsimp only
    have l2:Zb (XR fuel) fuel ((k:Int),(outs.length:Int),(k:Int),(o.2.length:Int),(0:Int),note,z,[()],[x],[()],outs,[()],o.2)=some ((k:Int),(outs.length:Int),(k:Int),note,z,[()],[x],[()],outs,[()],o.2):=by
     refine ZN o.2.length (λj:Nat=>((k:Int),(outs.length:Int),(k:Int),(o.2.length:Int),(j:Int),note,z,[()],[x],[()],outs,[()],o.2)) ?_ ?_ (by omega)
     ·intro j hj;obtain⟨b,hb,hbm⟩:=Zk hj;obtain⟨b1,_⟩:=g3 b hbm
      have hk9:Yc fuel b.1=some b.1:=by
       unfold Yc;rw[if_pos (Z2 (by omega) (by omega))]
      unfold XR;dsimp only;rw[if_pos (Z9 hj),if_pos (Yf (by omega) (by omega)),ybf,hb,ya,hk9,ya,if_pos (Yf (by omega) (by omega)),ya,Zs (by omega),show o.2.set j (b.1,b.2.1,b.2.2.1,b.2.2.2)=o.2 from set_same hb]
     ·unfold XR;dsimp only;rw[if_neg (by rw[ZW];decide)]
    rw[l2,ya];dsimp only;rw[if_pos (Yf (by omega) (by omega)),ybf,hok,ya,Zs (by omega),show outs.set k (o.1,o.2)=outs from set_same hok]
   ·unfold XS;dsimp only;rw[if_neg (by rw[ZW];decide)]
  rw[l1,ya,ya];dsimp only;rw[if_pos (by simp),if_pos (Yf (by omega) (by simp))];rfl
end Go.Proofs.YtmkgbalfkhaflaaGreat
end
section
set_option maxRecDepth 4000
namespace Go.Proofs.YtmkgbalfkhaflaaGreat
open Go Go.Ev
namespace Cx
noncomputable section
def F(x:Cx):Tx:=([((z32,0),(0,[x.g0,x.g1],0))],x.r,2097154)
theorem okF{x:Cx}(h:x.Ok):TxOk x.F∧TxWf x.F:=by
 obtain⟨q1,q2,q3,q4,q5,q6⟩:=h.ok;refine⟨⟨by simp[F],by simp[F],q3,q4, ?_,q6⟩, ?_,h.wf.2⟩
 ·intro y hy;rw[yan.1 hy];exact⟨show(0:Int)≤0 by decide,show(0:Int) < 64 by decide,show(0:Int)≤0 by decide,show(0:Int) < 4 by decide,by simp⟩
 ·intro y hy;rw[yan.1 hy];rfl
theorem idF{x:Cx}(h:x.Ok):Zf2 fuel x.F=some x.nm∧x.nm.length=32:=by
 obtain⟨a,b⟩:=okF h;exact ZCI b a h.am
theorem nltF(x:Cx):¬decide ((x.r.length:Int) < (x.F.2.1.length:Int))=true:=by
 rw[decide_eq_true_iff];show¬((x.r.length:Int) < (x.r.length:Int));omega
theorem ZHd{x:Cx}(h:x.Ok):Zbm fuel x.F=some true:=ZzF (okF h).1 h.am
theorem Zuf{x:Cx}(h:x.Ok):x.r.length≤2∧(∀o,o∈x.r→o.1 ≥ 100∧o.1≤4300000000∧Zt4 o)∧amts x.r=shn (Zel x.op x.h0 x.h1 x.n 0)+shn (Zel x.op x.h0 x.h1 x.n 1)∧x.h0+x.h1=x.A∧x.n≤4300000000:=by
 have hA:=h.c.hi;have ht:=h.s.tot;rw[h.e,show amtC ([]:List Cond)=0 from rfl] at ht
 have p0:=h.s.p0;have p1:=h.s.p1;have f1:=h.f1;obtain⟨q1,q2,q3,_⟩:=h.mkk.outs h.s.p0 h.s.p1 (by omega) h.f0 h.f1 (x.own_ok 0) (x.own_ok 1);refine⟨q1,q2,q3,by omega, ?_⟩;unfold hav at f1;split at f1 <;> omega
theorem ZHe{x:Cx}(h:x.Ok){me:Int}(hme:me=0∨me=1):W8 fuel x.ch (x.kt me) me x.s.1 x.s.2.1 x.s.2.2.2 (x.lk me 3) (x.fe me 3) (x.sn me 3) [] (x.sa me 3) (x.hd me 3)=some (x.F,true,x.en me 3):=by
 have hc:ZI fuel x.ch (x.kt me) me x.s.1 x.s.2.1 x.s.2.2.2 (x.lk me 3) (x.fe me 3) (x.sn me 3) [] (x.sa me 3) (x.hd me 3)=some x.T:=by
  unfold ZI YN;rw[show(x.s.1,x.s.2.1,([]:List Cond),x.s.2.2.2)=x.s by rw[←h.e],ZG4 hme (by omega),ZG5 (by omega),h.mm,ya];rfl
 have hl:=Zuf h;have hf:VS fuel x.T x.g0 x.g1=some x.F:=ZIN (x:=((z32,0),(0,[],0))) (by simp) (by omega) (λo ho=>(hl.2.1 o ho).2.2.2.2.1) 2097154 x.g0 x.g1;have hi:inB me 2=true:=YD hme;unfold W8;rw[Zl6 (by have:=x.hd_len me 3;omega),ya,show fnd (x.hd me 3) 13=some (x.sy (1 - me)) from rfl,if_neg (by simp),hc,ya,ZG3 h hme,ya,hi,if_pos rfl]
 rcases hme with rfl|rfl
 ·show ybc (VS fuel x.T x.g0 x.g1) _=_;rw[hf,ya]
 ·show ybc (VS fuel x.T x.g0 x.g1) _=_;rw[hf,ya]
def fu(x:Cx):Lock:=[([B x.k0.1.toNat,B x.k1.1.toNat],0,0,0)]
theorem fu_is(x:Cx):ZaT fuel x.ch=some x.fu:=by
 unfold ZaT;show ybc (some (ZY x.k0)) _=_;rw[ya];show ybc (some (ZY x.k1)) _=_;rw[ya];unfold ZnC Zig Yc;rw[if_pos (Z2 (by simp) (by simp)),ya,ya,ya];rfl
theorem fu_ok(x:Cx):Wh x.fu∧Vg x.fu:=by
 refine ZxW (by simp[fu]) (by simp[fu]) ?_;intro e he;rw[yan.1 he];refine⟨⟨by simp,show(0:Int)≤0 by decide,show(0:Int)≤1048576 by decide,show(0:Int)≤0 by decide,show(0:Int)≤1048576 by decide⟩,λr hr=> ?_,nox⟩;simp only[List.mem_cons,List.not_mem_nil,or_false] at hr;rcases hr with rfl|rfl
 ·exact Zo9 _
 ·exact Zo9 _
def mp(x:Cx):List (Zu×ZaC):=[((z32,0),((x.A,x.fu),0))]
theorem ZHf{x:Cx}(h:x.Ok):Zjw fuel [(x.A,x.fu)]=some (.inr ([],x.mp)):=by
 have h1:=h.c.lo;have h2:=h.c.hi
 have ho:Zjv fuel (x.A,x.fu)=some (x.A,x.fu):=by
  unfold Zjv XK QP;rw[if_neg (by simp[fu]),if_pos (Z2 (by simp[fu]) (by simp[fu])),ya]
  have l:Zb (ZaB fuel) fuel ((x.fu.length:Int),(0:Int),(x.A,x.fu),((0:Int),([]:Lock)),[()],x.fu)=some ((x.A,x.fu),((0:Int),([]:Lock)),[()],x.fu):=by
   refine ZN 1 (λk:Nat=>((x.fu.length:Int),(k:Int),(x.A,x.fu),((0:Int),([]:Lock)),[()],x.fu)) ?_ ?_ (by omega)
   ·intro k hk;have:k=0:=by omega
    subst this
    have hp:Yc fuel [B x.k0.1.toNat,B x.k1.1.toNat]=some [B x.k0.1.toNat,B x.k1.1.toNat]:=by
     unfold Yc;rw[if_pos (Z2 (by simp) (by simp))]
    unfold ZaB;dsimp only;rw[if_pos (by simp[fu]),if_pos (by rfl)];show ybc (some ([B x.k0.1.toNat,B x.k1.1.toNat],0,0,0)) _=_;rw[ya,hp,ya,if_pos (by rfl)];rfl
   ·unfold ZaB;dsimp only;rw[if_neg (by simp[fu])]
  rw[l,ya]
 unfold Zjw;rw[if_neg (by simp)]
 have l:Zb (ZaD fuel) fuel ((0:Int),[(x.A,x.fu)],(([(x.A,x.fu)]:List Out).length:Int),(0:Int),([]:List (Zu×ZaC)),([]:List ZG))=some (.inr (x.mp,[])):=by
  refine ZN 1 (λk:Nat=>(if k=0 then 0 else x.A,[(x.A,x.fu)],(([(x.A,x.fu)]:List Out).length:Int),(k:Int),(if k=0 then[] else x.mp),([]:List ZG))) ?_ ?_ (by omega)
  ·intro k hk;have:k=0:=by omega
   subst this;unfold ZaD;dsimp only;rw[if_pos (by simp),Zp (k:=0) (y:=(x.A,x.fu)) rfl,ya,Q0 x.fu_ok.1 x.fu_ok.2,ya,if_neg (by decide),if_neg (ynd (by omega)),if_pos rfl,if_neg (by rw[decide_eq_true_iff,Zz (by omega) (by omega)];omega),ho,ya,Zz (z:=0+x.A) (by omega) (by omega),Int.zero_add];rfl
  ·unfold ZaD;dsimp only;rw[if_neg (by simp)];rfl
 rw[l,ya]
def mds(x:Cx)(k:Nat):List Zu:=(List.range k).map λj:Nat=>(x.nm,(j:Int))
theorem ZIO{x:Cx}(h:x.Ok):Zo8 fuel x.F=some (x.mds x.r.length):=by
 obtain⟨q1,_⟩:=Zuf h;unfold Zo8;rw[(idF h).1,ya,ZHd h,ya,if_neg (by decide)]
 have l:Zb (Zd2 fuel) fuel ((x.F.2.1.length:Int),(0:Int),x.F,([]:List Zu),x.nm)=some (x.F,x.mds x.r.length,x.nm):=by
  refine ZN x.r.length (λk:Nat=>((x.F.2.1.length:Int),(k:Int),x.F,x.mds k,x.nm)) ?_ ?_ (by omega)
  ·intro k hk;unfold Zd2;dsimp only;rw[if_pos (Z9 (show k < x.F.2.1.length from hk)),if_pos (Z2 (by simp[mds];omega) (by simp[mds];omega)),Zs (by omega)]
   rw[show x.mds k++[(x.nm,(k:Int))]=x.mds (k+1) by unfold mds;rw[List.range_succ,List.map_append];rfl]
  ·unfold Zd2;dsimp only;rw[if_neg x.nltF]
 rw[l,ya]
theorem ZHg{x:Cx}(h:x.Ok){H:Int}(h0:1≤H)(h1:H≤100000):∃got er st m,Zad fuel x.F H [] x.mp=some (got,er,st,m)∧(x.nm≠z32→got=x.A - amts x.r∧er=0):=by
 obtain⟨q1,q2,q3,q4,q5⟩:=Zuf h;have hlo:=h.c.lo;have hhi:=h.c.hi;unfold Zad;rw[ZHd h,ya,if_neg (by decide),if_neg (ynd (by omega)),if_neg (ynd (by omega)),(idF h).1,ya];have hop:Zc6 fuel x.fu ((0:Int),[x.g0,x.g1],(0:UInt64)) x.nm H H=some 0:=ZG2 (Zo9 _) (Zo9 _) (idF h).2 (h.ve 0 (.inl rfl)) (h.ve 1 (.inr rfl)) (by omega)
 have l0:Zb (X7 fuel) fuel (H,(0:Int),x.F.1,(x.F.1.length:Int),(0:Int),([]:List ZG),x.mp,x.F,x.nm)=some (.inr (x.A,[],x.mp,x.F,x.nm)):=by
  refine ZN 1 (λk:Nat=>(H,if k=0 then 0 else x.A,x.F.1,(x.F.1.length:Int),(k:Int),([]:List ZG),x.mp,x.F,x.nm)) ?_ ?_ (by omega)
  ·intro k hk;have:k=0:=by omega
   subst this;have hm:Zky x.mp (z32,(0:Int))=some ((x.A,x.fu),0):=by simp[mp,Zky]
   unfold X7;dsimp only;rw[if_pos (by simp[F]),Zp (k:=0) (y:=((z32,0),(0,[x.g0,x.g1],0))) rfl,ya];dsimp only;rw[hm];show(ybc (Zc6 fuel x.fu ((0:Int),[x.g0,x.g1],(0:UInt64)) x.nm H (wi (H - 0))) _)=_;rw[Zz (z:=H - 0) (by omega) (by omega),Int.sub_zero,hop,ya,if_neg (by decide)];dsimp only;rw[if_pos rfl,Zz (z:=0+x.A) (by omega) (by omega),Int.zero_add];rfl
  ·unfold X7;dsimp only;rw[if_neg (by simp[F])];rfl
 rw[l0,ya];dsimp only;rw[ZIO h,ya];have hml:(x.mds x.r.length).length=x.r.length:=by simp[mds]
 obtain⟨y,y1,y2⟩:=Yk (step:=X8 fuel) x.r.length (λk s=>s=(x.A,x.mds x.r.length,((x.mds x.r.length).length:Int),(k:Int),([]:List ZG),x.mp,x.F,x.nm)) (λy=>(x.nm=z32∧∃a b c d e f,y=.inl (a,b,c,d,e,f))∨y=.inr (x.A,[],x.mp,x.F,x.nm)) (i:=(x.A,x.mds x.r.length,((x.mds x.r.length).length:Int),(0:Int),([]:List ZG),x.mp,x.F,x.nm)) rfl (by omega) (by
  rintro k _ hk rfl;have hg:(x.mds x.r.length)[k]? =some (x.nm,(k:Int)):=by simp[mds,hk]
  unfold X8;dsimp only;rw[if_pos (Z9 (by omega)),Zp hg,ya];by_cases hz:(x.nm,(k:Int))=(z32,(0:Int))
  ·rw[show Zky x.mp (x.nm,(k:Int))=some ((x.A,x.fu),0) by rw[hz];simp[mp,Zky]];right;exact⟨_,rfl,.inl ⟨congrArg Prod.fst hz,_,_,_,_,_,_,rfl⟩⟩
  ·rw[show Zky x.mp (x.nm,(k:Int))=none by unfold mp Zky;rw[if_neg hz];rfl];left;refine⟨_,rfl, ?_⟩;rw[Zs (by omega)]) (by
  rintro _ rfl;unfold X8;dsimp only;rw[hml,if_neg (by rw[ZW];decide)];exact⟨_,rfl,.inr rfl⟩)
 rw[y1,ya];rcases y2 with⟨hz,a,b,c,d,e,f,rfl⟩|rfl
 ·exact⟨_,_,_,_,rfl,λhn=>absurd hz hn⟩
 ·dsimp only
  have ham:∀k,0≤amts (x.r.take k)∧amts (x.r.take k)≤8600000000:=by
   intro k
   have key:∀(l:List Out),(∀o,o∈l→o.1 ≥ 100∧o.1≤4300000000)→0≤amts l∧amts l≤4300000000*(l.length:Int):=by
    intro l
    induction l with
    |nil=>intro _;exact⟨Int.le_refl _,Int.le_refl _⟩
    |cons a b ih=>
     intro h;have i1:=ih λo ho=>h o (List.mem_cons_of_mem _ ho);have i2:=h a (List.mem_cons_self ..);have e:amts (a::b)=a.1+amts b:=rfl;rw[e,List.length_cons];omega
   have:=key (x.r.take k) λo ho=>⟨(q2 o (List.mem_of_mem_take ho)).1,(q2 o (List.mem_of_mem_take ho)).2.1⟩;rw[List.length_take] at this;omega
  have l2:Zb (X9 fuel) fuel (x.A,x.F.2.1,(x.F.2.1.length:Int),(0:Int),([]:List ZG),x.mp,x.F,x.nm)=some (x.A - amts x.r,[],x.mp,x.F,x.nm):=by
   rw[show(x.A,x.F.2.1,(x.F.2.1.length:Int),(0:Int),([]:List ZG),x.mp,x.F,x.nm)=(λk:Nat=>(x.A - amts (x.r.take k),x.F.2.1,(x.F.2.1.length:Int),(k:Int),([]:List ZG),x.mp,x.F,x.nm)) 0 by simp[amts],
    ZN (x:=(x.A - amts x.r,[],x.mp,x.F,x.nm)) x.r.length (λk:Nat=>(x.A - amts (x.r.take k),x.F.2.1,(x.F.2.1.length:Int),(k:Int),([]:List ZG),x.mp,x.F,x.nm)) ?_ ?_ (by omega)]
   ·intro k hk;obtain⟨e,he,hm⟩:=Zk hk;have:=q2 e hm;have:=ham k;unfold X9;dsimp only;rw[if_pos (Z9 (show k < x.F.2.1.length from hk)),Zp (show x.F.2.1[k]? =some e from he),ya,Zqd he,Zs (by omega),Zz (z:=x.A - amts (x.r.take k) - e.1) (by omega) (by omega),Int.sub_sub]
   ·unfold X9;dsimp only;rw[if_neg x.nltF,List.take_length]
  rw[l2,ya];have p0:=Zfg h.s.p0 h.s.p1 (by omega) h.f0 h.f1 0;have p1:=Zfg h.s.p0 h.s.p1 (by omega) h.f0 h.f1 1;have ps:=ZzN (h0:=x.h0) (h1:=x.h1) (fee:=x.n) h.c.o
  have hle:amts x.r≤x.A:=by
   have hf0:=h.f0;rw[q3];unfold shn;split <;> split <;> omega
  rw[if_neg (ynd (by omega))];exact⟨_,_,_,_,rfl,λ_=>⟨rfl,rfl⟩⟩
def pd(x:Cx)(i:Int):Int:=Zel x.op x.h0 x.h1 x.n i
def pds(x:Cx):List Int:=[x.pd 0,x.pd 1]
abbrev tz(x:Cx):ZE×Kit×Int×Int×List Int×Int×List Lock×Int×Sig×ZE×Kit×Int×Int×List Int×Int×List Lock×Int×Sig×List Cond×List Msg×List Msg×List Cond×List Msg×List Msg×ZE×State×Tx×Tx×List ZG×List (Zu×ZaC)×List Int:=
 (x.ch,x.kt 0,(0:Int),x.s.1,x.s.2.1,x.s.2.2.2,x.lk 0 3,x.fe 0 3,x.sn 0 3,x.ch,x.kt 1,(1:Int),x.s.1,x.s.2.1,x.s.2.2.2,x.lk 1 3,x.fe 1 3,x.sn 1 3,([]:List Cond),x.sa 0 3,x.hd 0 3,([]:List Cond),x.sa 1 3,x.hd 1 3,x.ch,x.s,x.F,x.F,[],x.mp,x.pds)
theorem pds_get(x:Cx){i:Int}(hi:i=0∨i=1):x.pds[i.toNat]? =some (x.pd i):=by rcases hi with rfl|rfl <;> rfl
theorem bas_get(x:Cx){i:Int}(hi:i=0∨i=1):x.ch.2.2.1[i.toNat]? =some (ZY (x.kt i)):=by rcases hi with rfl|rfl <;> rfl
theorem l5{x:Cx}(h:x.Ok){i:Int}(hi:i=0∨i=1)(ht hid:Int)(b:Bool)(p:Corsnedlaw21Play):
 ∃c:Int,0≤c∧((x.pd i,x.own i)∈x.r→1≤c)∧Zb (ZM fuel) fuel (ht,true,x.n,hid,i,b,(0:Int),(0:Int),p,x.tz)=some (ht,true,x.n,hid,i,b,c,p,x.tz):=by
 obtain⟨q1,_⟩:=Zuf h
 obtain⟨y,y1,c,y2,y3,y4,rfl⟩:=Yk (step:=ZM fuel) x.r.length (λk s=>∃c:Int,0≤c∧c≤k∧(∀j:Nat,j < k→x.r[j]? =some (x.pd i,x.own i)→1≤c)∧s=(ht,true,x.n,hid,i,b,c,(k:Int),p,x.tz)) (λs=>∃c:Int,0≤c∧c≤x.r.length∧(∀j:Nat,j < x.r.length→x.r[j]? =some (x.pd i,x.own i)→1≤c)∧s=(ht,true,x.n,hid,i,b,c,p,x.tz)) (i:=(ht,true,x.n,hid,i,b,(0:Int),(0:Int),p,x.tz)) ⟨0,by omega,by omega,λj hj=>absurd hj (by omega),rfl⟩ (by omega) (by
  rintro k _ hk ⟨c,c0,c1,c2,rfl⟩;obtain⟨e,he,_⟩:=Zk hk;have he:x.F.2.1[k]? =some e:=he;left;unfold ZM Y4;dsimp only[tz];rw[if_pos (Z9 (show k < x.F.2.1.length from hk)),Zp he,ya,YD hi,if_pos rfl,x.pds_get hi,ya]
  have nxt:∀c':Int,c≤c'→(e=(x.pd i,x.own i)→1≤c')→∀j:Nat,j < k+1→x.r[j]? =some (x.pd i,x.own i)→1≤c':=by
   intro c' hc hq j hj hg;by_cases hjk:j < k
   ·have:=c2 j hjk hg;omega
   ·have:j=k:=by omega
    subst this;rw[show x.r[j]? =some e from he] at hg
    cases hg;exact hq rfl
  by_cases ha:e.1=x.pd i
  ·rw[if_pos (by rw[ha];exact beq_self_eq_true _),ya,if_pos rfl,x.bas_get hi,ya,show(ZY (x.kt i)).2.1=B (x.kt i).2.1.toNat from rfl,Zud,ya]
   obtain⟨r,r1,r2⟩:=ZL8 (a:=e.2) (x.own_ok i).1;rw[show([([B (x.kt i).2.1.toNat],0,0,0)]:Lock)=x.own i from rfl,r1,ya]
   cases r with
   |true=>
    rw[if_pos rfl,ya];dsimp only;rw[Zs (by omega),Zz (z:=c+1) (by omega) (by omega)]
    exact⟨_,rfl,c+1,by omega,by omega,nxt _ (by omega) (λ_=>by omega),rfl⟩
   |false=>
    rw[if_neg (by decide),ya];dsimp only;rw[Zs (by omega)];exact⟨_,rfl,c,c0,by omega,nxt _ (by omega) (λhq=>by rw[hq] at r2;have:=r2 rfl;cases this),rfl⟩
  ·rw[if_neg (by rw[beq_iff_eq];exact ha),ya];dsimp only;rw[Zs (by omega)];exact⟨_,rfl,c,c0,by omega,nxt _ (by omega) (λhq=>absurd (by rw[hq]) ha),rfl⟩) (by
  rintro _ ⟨c,c0,c1,c2,rfl⟩;unfold ZM;dsimp only[tz];rw[if_neg x.nltF];exact⟨_,rfl,c,c0,c1,c2,rfl⟩)
 refine⟨c,y2,λhm=> ?_,y1⟩;obtain⟨j,j1,j2⟩:=List.getElem_of_mem hm;exact y4 j j1 (by rw[List.getElem?_eq_getElem j1,j2])
theorem b48{x:Cx}(h:x.Ok){i:Int}(hi:i=0∨i=1)(ht:Int){hid:Int}(d0:0≤hid)(d1:hid≤100000000000)(p:Corsnedlaw21Play):
 YJ fuel (ht,true,x.n,hid,i,p,x.tz)=some (.inr (ht,true,x.n,hid+(x.pd i - shn (x.pd i)),i,p,x.tz)):=by
 obtain⟨q1,q2,q3,q4,q5⟩:=Zuf h;have hhi:=h.c.hi;have hp:=Zfg h.s.p0 h.s.p1 (by omega) h.f0 h.f1 i;have hp:0≤x.pd i∧x.pd i≤4300000000:=hp;have hT:x.ch.2.2.2.1=[Tm 5,Tm 6]:=rfl;obtain⟨c,c0,c1,c2⟩:=l5 h hi ht hid (decide (x.pd i ≥ 100)) p;dsimp only[tz] at c2;unfold YJ Ym;dsimp only[tz];rw[hT,yar,ya,YD hi,if_pos rfl,x.pds_get hi,ya,Zph,ya];by_cases hs:x.pd i ≥ 100
 ·have hm:(x.pd i,x.own i)∈x.r:=by
   refine h.mkk.pm.mem_iff.2 ?_;unfold outs0 Zqe;rw[List.mem_append];have hs:Zel x.op x.h0 x.h1 x.n i ≥ 100:=hs;rcases hi with rfl|rfl
   ·left;rw[if_pos hs];exact yan.2 rfl
   ·right;rw[if_pos hs];exact yan.2 rfl
  have hc:=c1 hm;rw[decide_eq_true hs] at c2;rw[decide_eq_true hs,if_pos rfl,yaq,yar,ya,if_pos rfl,ya,Zph,ya,decide_eq_true hs,c2,ya];dsimp only;rw[if_pos rfl,if_neg (ynd (by omega)),ya];dsimp only;rw[if_neg (by decide)];unfold shn;rw[if_pos hs,Int.sub_self,Int.add_zero]
 ·rw[decide_eq_false hs] at c2;rw[decide_eq_false hs,if_neg (by decide),c2,ya];dsimp only;rw[if_neg (by decide),ya];dsimp only;rw[if_pos (by decide),YD hi,if_pos rfl,x.pds_get hi,ya];unfold shn;rw[if_neg hs,Int.sub_zero,Zz (by omega) (by omega)]
theorem l4{x:Cx}(h:x.Ok)(ht:Int)(p:Corsnedlaw21Play):
 Zb (Yi fuel) fuel (ht,true,x.n,(0:Int),(0:Int),p,x.tz)=some (.inr (ht,true,x.n,(x.pd 0 - shn (x.pd 0))+(x.pd 1 - shn (x.pd 1)),p,x.tz)):=by
 obtain⟨q1,q2,q3,q4,q5⟩:=Zuf h;have hhi:=h.c.hi;have hp:0≤x.pd 0∧x.pd 0≤4300000000:=Zfg h.s.p0 h.s.p1 (by omega) h.f0 h.f1 0
 have hd:0≤x.pd 0 - shn (x.pd 0)∧x.pd 0 - shn (x.pd 0)≤4300000000:=by
  unfold shn;split <;> omega
 refine ZN 2 (λk:Nat=>(ht,true,x.n,(if k=0 then 0 else if k=1 then x.pd 0 - shn (x.pd 0) else(x.pd 0 - shn (x.pd 0))+(x.pd 1 - shn (x.pd 1))),(k:Int),p,x.tz)) ?_ ?_ (by omega)
 ·intro k hk;unfold Yi;rcases (show k=0∨k=1 by omega) with rfl|rfl
  ·have e:=b48 h (i:=0) (.inl rfl) ht (hid:=0) (by omega) (by omega) p;rw[Int.zero_add] at e;dsimp only[tz] at e ⊢;rw[if_pos (by rfl),if_pos rfl,show(((0:Nat):Int))=0 from rfl,e,ya]
   rfl
  ·have e:=b48 h (i:=1) (.inr rfl) ht hd.1 (by omega) p;dsimp only[tz] at e ⊢;rw[if_pos (by rfl),if_neg (by decide),if_pos rfl,show(((1:Nat):Int))=1 from rfl,e,ya]
   rfl
 ·unfold Yi;dsimp only[tz];rw[if_neg (by decide)];rfl
theorem meets{p:Corsnedlaw21Play}(hp:PlayOk p){z:Int}(z0:0≤z)(z1:z≤65535)(o:List UInt8){ht:Int}(t0:0≤ht)(t1:ht≤65535):YE fuel p z o ht=some true:=by
 obtain⟨x,h,hx⟩:=ZIM hp z0 z1;unfold YE;rw[ya,hx,ya];dsimp only;by_cases ho:(o.length:Int) > 40
 ·rw[if_pos (decide_eq_true ho)]
 rw[if_neg (by rw[decide_eq_true_iff];exact ho),if_neg (by decide)];obtain⟨a,b,ha,hb,e0⟩:=l0 h (o:=o) (by omega) ht p;dsimp only[tw] at e0;have e0':Zb (ZZ fuel) fuel (o,ht,true,x.n,(0:Int),p,x.ch,x.kt 0,0,x.s.1,x.s.2.1,x.s.2.2.2,x.lk 0 0,x.fe 0 0,(0,0),x.ch,x.kt 1,1,x.s.1,x.s.2.1,x.s.2.2.2,x.lk 1 0,x.fe 1 0,(0,0),[],[],[],[],[],[],x.ch,x.s)=some (ht,true,x.n,p,x.tw a b):=e0;have e1:=l1 h ha hb ht p;dsimp only[tw] at e0' e1;rw[e0',ya];dsimp only;rw[e1,ya];dsimp only;rw[ZHe h (.inl rfl),ya];dsimp only[en];rw[ZHe h (.inr rfl),ya];dsimp only[en];rw[x.fu_is,ya,show x.ch.2.1=x.A from rfl,ZHf h,ya]
 dsimp only;obtain⟨r,r1,r2⟩:=ZIL (a:=x.F) (okF h).2 (okF h).1
 have hb37:YI fuel (ht,true,x.n,true,true,p,x.ch,x.kt 0,0,x.s.1,x.s.2.1,x.s.2.2.2,x.lk 0 3,x.fe 0 3,x.sn 0 3,x.ch,x.kt 1,1,x.s.1,x.s.2.1,x.s.2.2.2,x.lk 1 3,x.fe 1 3,x.sn 1 3,[],x.sa 0 3,x.hd 0 3,[],x.sa 1 3,x.hd 1 3,x.ch,x.s,x.F,x.F,[],x.mp)=some (.inr (ht,true,x.n,p,x.ch,x.kt 0,0,x.s.1,x.s.2.1,x.s.2.2.2,x.lk 0 3,x.fe 0 3,x.sn 0 3,x.ch,x.kt 1,1,x.s.1,x.s.2.1,x.s.2.2.2,x.lk 1 3,x.fe 1 3,x.sn 1 3,[],x.sa 0 3,x.hd 0 3,[],x.sa 1 3,x.hd 1 3,x.ch,x.s,x.F,x.F,[],x.mp)):=by
  unfold YI;dsimp only;rw[if_neg (by decide),if_neg (by decide),r1,ya,r2 rfl,if_neg (by decide)]
 rw[hb37,ya];dsimp only;obtain⟨q1,q2,q3,q4,q5⟩:=Zuf h;have hhi:=h.c.hi;have hO:x.ch.2.2.2.2=x.op:=rfl;have p0:0≤x.pd 0∧x.pd 0≤4300000000:=Zfg h.s.p0 h.s.p1 (by omega) h.f0 h.f1 0;have p1:0≤x.pd 1∧x.pd 1≤4300000000:=Zfg h.s.p0 h.s.p1 (by omega) h.f0 h.f1 1;have ps:x.pd 0+x.pd 1=x.h0+x.h1 - x.n:=ZzN (h0:=x.h0) (h1:=x.h1) (fee:=x.n) h.c.o
 have hset:x.s.2.1.set x.op.toNat (wi (hav x.op x.h0 x.h1 - x.n))=x.pds:=by
  have f0:=h.f0;have f1:=h.f1;have s0:=h.s.p0;have s1:=h.s.p1
  have hw:wi (hav x.op x.h0 x.h1 - x.n)=hav x.op x.h0 x.h1 - x.n:=by
   unfold hav at f1 ⊢;rw[Zz (by split <;> omega) (by split <;> omega)]
  rw[hw,h.s.hv];unfold pds pd Zel;rcases h.c.o with ho|ho <;> rw[ho] <;> rfl
 rw[hO,YD h.c.o,if_pos rfl,show x.s.2.1[x.op.toNat]? =some (hav x.op x.h0 x.h1) by rw[h.s.hv];exact Zdo h.c.o,ya,if_pos rfl,ya,hset];have e4:=l4 h ht p;dsimp only[tz] at e4;rw[e4,ya];dsimp only;rw[Zz (z:=ht) (by omega) (by omega),Zz (z:=1+ht) (by omega) (by omega)];obtain⟨got,er,st,m,c1,c2⟩:=ZHg h (H:=1+ht) (by omega) (by omega);rw[c1,ya,(idF h).1,ya];by_cases hz:x.nm=z32
 ·unfold z32 at hz;rw[if_pos (decide_eq_true hz)]
 ·obtain⟨g1,g2⟩:=c2 hz;unfold z32 at hz;rw[if_neg (by rw[decide_eq_true_iff];exact hz),if_pos rfl];dsimp only;rw[g2,if_pos (by rfl),g1,q3]
  have d0:0≤x.pd 0 - shn (x.pd 0)∧x.pd 0 - shn (x.pd 0)≤4300000000:=by
   unfold shn;split <;> omega
  have d1:0≤x.pd 1 - shn (x.pd 1)∧x.pd 1 - shn (x.pd 1)≤4300000000:=by
   unfold shn;split <;> omega
  have f0:=h.f0;rw[Zz (by omega) (by omega)];rw[show x.A - (shn (Zel x.op x.h0 x.h1 x.n 0)+shn (Zel x.op x.h0 x.h1 x.n 1))=x.n+(x.pd 0 - shn (x.pd 0)+(x.pd 1 - shn (x.pd 1))) by unfold pd at ps ⊢;omega];exact congrArg some (beq_self_eq_true _)
end
end Cx
end Go.Proofs.YtmkgbalfkhaflaaGreat
end
