/- Parts of the proof, in one file. -/
import Derived.Test.YtekdgjajmennjaaGreatKg
open Option renaming some → ab, none → ae
open Bool renaming true → af, false → ag
open Decidable renaming decide → ah
open Int renaming toNat_natCast → yap
open List renaming getElem?_eq_some_iff → yo, length_take → yx, length_map → yab, getElem?_eq_getElem → yac, getElem?_map → yak, map_append → yao, mem_singleton → yas, getElem_of_mem → ybg, mem_of_getElem? → ybv, mem_map → yci
open Option renaming bind_some → ya, map_eq_some_iff → yn
set_option linter.unusedVariables false
set_option linter.unusedSimpArgs false
section
set_option maxRecDepth 4000
namespace Go.Proofs.YtekdgjajmennjaaGreat
open Go Go.Ev
theorem bq{α:Type}{l:yL α}{k:Nat}{e:α}(h:l[k]? =ab e):l.set k e=l:=by
 apply List.ext_getElem?;intro j;by_cases hj:j=k
 .subst hj;rw[List.getElem?_set_self (yo.1 h).1,h]
 .rw[List.getElem?_set_ne (Ne.symm hj)]
theorem ZJi{t:Tx}(hl:jQ t)(h1:0 < t.1.length)(h2:t.1.length<=64)(h3:t.2.1.length<=64)(h4:0<=t.2.2)(hI:cb t.1.length (fK t.1))(hO:cb t.2.1.length (eG t.2.1)):bc yD t=ab af:=by
 obtain⟨x,x1,x2⟩:=UE t (by omega);obtain⟨y,y1,y2⟩:=UF hl (gN t.1)
 have x3:x=.inr (t,gN t.1):=by
  rcases x2 with⟨_,h⟩|⟨h,_⟩
  .exact h
  .exact absurd hI h
 have y3:y=.inr (t,gN t.1):=by
  rcases y2 with⟨_,h⟩|⟨h,_⟩
  .exact h
  .exact absurd hO h
 rw[x3]at x1;rw[y3]at y1;unfold bc;rw[yX (show¬ah ((t.1.length:Int) < 1)=af by rw[yN];omega),yX (show¬ah ((t.1.length:Int) > 64)=af by rw[yN];omega),yX (show¬ah ((t.2.1.length:Int) > 64)=af by rw[yN];omega),yX (show¬ah (t.2.2 < 0)=af by rw[yN];omega),x1,ya];dsimp only;rw[y1,ya]
structure fe(l:List al):Prop where
 pos:0 < l.length
 len:l.length<=20
 idl:∀x,x∈l->x.1.length=32
 at_:∀x,x∈l->0<=x.2/\x.2 < 64
 ne:∀(i j:Nat)x y,i < j->l[i]? =ab x->l[j]? =ab y->x≠y
structure ft(l:List al)(o:Out)(t:Tx):Prop where
 out:t.2=([o],0)
 src:t.1.map (λx=>x.1)=l
 uz:∀x,x∈t.1->cV x.2
def bare(l:yL al):yL In:=l.map λx=>(x,((0:Int),([]:yL dQ),(0:yU)))
noncomputable def ff(l:yL al)(o:Out):yL yB:=gO (bare l,[o],(0:Int))
theorem ft.len{l:yL al}{o:Out}{t:Tx}(h:ft l o t):t.1.length=l.length:=by
 have:=congrArg List.length h.src
 rwa [yab]at this
theorem ft.at1{l:yL al}{o:Out}{t:Tx}(h:ft l o t){j:Nat}{x:In}(hx:t.1[j]? =ab x):∃y,l[j]? =ab y/\y=x.1:=by
 refine⟨x.1, ?_,rfl⟩;rw[<-h.src,yak,hx];rfl
theorem ft.at2{l:yL al}{o:Out}{t:Tx}(h:ft l o t){j:Nat}{y:al}(hy:l[j]? =ab y):∃x,t.1[j]? =ab x/\x.1=y:=by
 rw[<-h.src,yak]at hy;obtain⟨x,h1,h2⟩:=yn.1 hy;exact⟨x,h1,h2⟩
theorem ZKS{l:yL al}{o:Out}:ft l o (bare l,[o],0):=by
 refine⟨rfl, ?_, ?_⟩
 .unfold bare;rw[List.map_map];exact List.map_id _
 .intro x hx;unfold bare at hx;obtain⟨y,_,rfl⟩:=yci.1 hx;exact⟨show(0:Int)<=0 by decide,show(0:Int) < 4 by decide,by simp⟩
theorem ft.plain{l:yL al}{o:Out}{t:Tx}(h:ft l o t):iZ t=iZ (bare l,[o],0):=by
 obtain⟨ins,q⟩:=t;have h1:q=([o],0):=h.out;subst h1
 have e:∀a:yL In,bA fQ a=((a.map λx=>x.1).map λp:al=>p.1++Xa p.2.toNat).flatten:=λa=>by
  unfold bA
  rw[List.map_map];rfl
 have h2:ins.map (λx=>x.1)=l:=h.src;have h3:(bare l).map (λx=>x.1)=l:=(ZKS (o:=o)).src
 have h4:ins.length=(bare l).length:=by
  have:=h.len;unfold bare;rw[yab];exact this
 unfold iZ;dsimp only;rw[e,e,h2,h3,h4]
theorem CU{l:yL al}(hc:fe l){o:Out}(ho:iE o){t:Tx}(h:ft l o t):bc yD t=ab af/\jM yD t=ab (ff l o)/\(ff l o).length=32:=by
 have zV:=h.len;have hpl:=h.plain;have p0:=hc.pos;have p1:=hc.len;have q1:=λ{j:Nat}{x:In}(hx:t.1[j]? =ab x)=>h.at1 hx;have q2:=h.uz;have ho':=h.out;obtain⟨ins,q⟩:=t;have h1:q=([o],0):=ho';subst h1
 have hl:jQ (ins,[o],0):=⟨by dsimp only at zV ⊢;omega,by simp,λx hx=>by
  rw[yas.1 hx];exact⟨by have:=ho.2.1.2.1;omega,λb hb=>by have:=(ho.2.1.2.2 b hb).1;omega⟩⟩
 have hI:cb ins.length (fK ins):=by
  intro k hk x hx;obtain⟨y,y1,y2⟩:=q1 hx;have ha:=hc.at_ y (ybv y1);rw[y2]at ha;refine⟨ha,q2 x (ybv hx),λj z hj hz=> ?_⟩;obtain⟨v,v1,v2⟩:=q1 hz;rw[<-v2, <-y2];exact hc.ne j k v y hj v1 y1
 have hO:cb [o].length (eG [o]):=by
  intro k hk x hx;have:k=0:=by simp at hk;omega
  subst this;cases hx;refine⟨ho, ?_⟩;show QM [o]<=_;unfold QM;have:=ho.1;simp;omega
 dsimp only at zV;have hr:=ZJi hl (by dsimp only;omega) (by dsimp only;omega) (by simp) (by simp) hI hO
 have hw:kB (ins,[o],0):=⟨λx hx=>by
  obtain⟨j,j1,j2⟩:=ybg hx;obtain⟨y,y1,y2⟩:=q1 (j:=j) (x:=x) (by rw[<-j2];exact yac j1);rw[<-y2];exact hc.idl y (ybv y1),by dsimp only;omega⟩
 have hok:ur (ins,[o],0):=by
  refine⟨by dsimp only;omega,by dsimp only;omega,by simp,by simp,λx hx=> ?_,λx hx=> ?_⟩
  .obtain⟨j,j1,j2⟩:=ybg hx;obtain⟨r1,r2,_⟩:=hI j j1 x (by rw[<-j2];exact yac j1);exact⟨r1.1,r1.2,r2.1,r2.2.1,r2.2.2⟩
  .rw[yas.1 hx];exact⟨ho.1.1,ho.1.2,ho.2.1,ho.2.2⟩
 obtain⟨g1,g2⟩:=TU hw hok;refine⟨hr, ?_, ?_⟩
 .unfold jM;rw[hr,ya,yX (by decide),g1,ya,mP (by decide) (by simp) (CT g2),ya];unfold ff gO;rw[hpl]
 .unfold ff gO;exact Sha.iV _
theorem ZHw{ins:yL In}(i0:0 < ins.length)(i1:ins.length<=64)(hx:∀x,x∈ins->x.2.2.1.length<=12){outs:yL Out}(h0:0 < outs.length)(h1:outs.length<=64)(ho:∀o,o∈outs->iC o.2)(note:Int):∃u v,uc yD (ins,outs,note)=ab (note,u,ins,v,outs):=by
 unfold uc AR AQ AT AS;dsimp only
 have he:¬outs.isEmpty=af:=by
  intro h;rw[List.isEmpty_iff]at h;rw[h]at h0;simp at h0
 have hi:¬ins.isEmpty=af:=by
  intro h;rw[List.isEmpty_iff]at h;rw[h]at i0;simp at i0
 rw[yX hi,yW (ZL (by omega) (by omega)),ya,yX he,yW (ZL (by omega) (by omega)),ya];dsimp only;generalize hz:(([]:yL In),([]:yL Out),(0:Int))=z
 have l0:Zb (QF yD) yD ((ins.length:Int),(0:Int),note,z,[()],ins,[()],outs)=ab (note,z,[()],ins,[()],outs):=by
  refine Zu ins.length (λk:Nat=>((ins.length:Int),(k:Int),note,z,[()],ins,[()],outs)) ?_ ?_ (by omega)
  .intro k hk;obtain⟨x,e0,em⟩:=Zf hk
   have hs:kq yD x.2.2.1=ab x.2.2.1:=by
    have:=hx x em;unfold kq;rw[yW (ZL (by omega) (by omega))]
   unfold QF;dsimp only;rw[yW (ZE hk),yW (ZV (by omega) (by omega)),yap,e0,ya,hs,ya,yW (ZV (by omega) (by omega)),ya,Zn (by omega),show ins.set k (x.1,(x.2.1,x.2.2.1,x.2.2.2))=ins from bq e0]
  .unfold QF;dsimp only;rw[yX (by rw[ZA];decide)]
 rw[l0,ya];dsimp only
 have l1:Zb (QH yD) yD ((outs.length:Int),(0:Int),note,z,[()],ins,[()],outs)=ab (note,z,[()],ins,[()],outs):=by
  refine Zu outs.length (λk:Nat=>((outs.length:Int),(k:Int),note,z,[()],ins,[()],outs)) ?_ ?_ (by omega)
  .intro k hk;obtain⟨o,hok,hom⟩:=Zf hk;obtain⟨g1,g2,g3⟩:=ho o hom
   have hbe:¬o.2.isEmpty=af:=by
    intro h;rw[List.isEmpty_iff]at h;rw[h]at g1;simp at g1
   have hbr:XF yD o.2=ab ([()],o.2):=by
    unfold XF AU;rw[yX hbe,yW (ZL (by omega) (by omega))]
   unfold QH;dsimp only;rw[yW (ZE hk),yW (ZV (by omega) (by omega)),yap,hok,ya,hbr,ya];dsimp only
   have l2:Zb (QG yD) yD ((k:Int),(outs.length:Int),(k:Int),(o.2.length:Int),(0:Int),note,z,[()],ins,[()],outs,[()],o.2)=ab ((k:Int),(outs.length:Int),(k:Int),note,z,[()],ins,[()],outs,[()],o.2):=by
    refine Zu o.2.length (λj:Nat=>((k:Int),(outs.length:Int),(k:Int),(o.2.length:Int),(j:Int),note,z,[()],ins,[()],outs,[()],o.2)) ?_ ?_ (by omega)
    .intro j hj;obtain⟨b,hb,hbm⟩:=Zf hj;obtain⟨b1,_⟩:=g3 b hbm
     have hk9:ZU yD b.1=ab b.1:=by
      unfold ZU;rw[yW (ZL (by omega) (by omega))]
     unfold QG;dsimp only;rw[yW (ZE hj),yW (ZV (by omega) (by omega)),yap,hb,ya,hk9,ya,yW (ZV (by omega) (by omega)),ya,Zn (by omega),show o.2.set j (b.1,b.2.1,b.2.2.1,b.2.2.2)=o.2 from bq hb]
    .unfold QG;dsimp only;rw[yX (by rw[ZA];decide)]
   rw[l2,ya];dsimp only;rw[yW (ZV (by omega) (by omega)),yap,hok,ya,Zn (by omega),show outs.set k (o.1,o.2)=outs from bq hok]
  .unfold QH;dsimp only;rw[yX (by rw[ZA];decide)]
 rw[l1,ya];exact⟨_,_,rfl⟩
theorem ZPb{e:yU}(he:Key e):AW yD [e]=ab ag:=by
 have hz:(e==0)=ag:=by
  rw[beq_eq_false_iff_ne];rintro rfl;exact absurd he.1 (by decide)
 have h1:AM yD e=ab ag:=by
  unfold AM;rw[hz,yX (by decide),qq,ya,yY he.2];rfl
 have l0:Zb (Wz yD) yD ([e],(1:Int),(0:Int))=ab (.inr ()):=by
  refine Zu 1 (λk:Nat=>([e],(1:Int),(k:Int))) ?_ ?_ (by omega)
  .intro k hk;have:k=0:=by omega
   subst this;unfold Wz;dsimp only;rw[yW (yY (by decide)),Zj (k:=0) (show[e][0]? =ab e from rfl),ya,h1,ya,yX (by decide)]
   rfl
  .unfold Wz;dsimp only;rw[yX (show¬ah (((1:Nat):Int) < 1)=af by decide)]
 unfold AW PB;show((Zb (Wz yD) yD ([e],(1:Int),(0:Int))).bind _).bind _=_;rw[l0,ya];rfl
theorem ZMb{l:yL al}(hc:fe l){o:Out}(ho:iE o){t:Tx}(ht:ft l o t){k:Nat}{y:al}(hy:l[k]? =ab y){br:Int}(b0:0<=br)(b1:br < 4){e:yU}(he:Key e)(sec:yU):
 ∃sg,Q7 yD e (ff l o)=ab sg/\uk yD (B e.toNat) (ff l o) sg=ab af/\ud yD t (k:Int) br [e] sec=ab ((t.1.set k (y,(br,[sg],sec)),t.2),0):=by
 obtain⟨r1,r2,r3⟩:=CU hc ho ht;obtain⟨x,hx,hxy⟩:=ht.at2 hy;have hkl:k < t.1.length:=(yo.1 hx).1;have zV:=ht.len;have p0:=hc.pos;have p1:=hc.len;obtain⟨sg,s1,s2⟩:=ZQ5 he r3;refine⟨sg,s1,s2, ?_⟩;have hwit:cV (br,([]:yL dQ),sec):=⟨b0,b1,by simp⟩
 have l0:Zb (qj yD) yD ((k:Int),[e],(1:Int),(0:Int),t,(([]:yL In),([]:yL Out),(0:Int)),br,sec,([]:yL dQ),ff l o)=ab ((k:Int),t,(([]:yL In),([]:yL Out),(0:Int)),br,sec,[sg],ff l o):=by
  refine Zu 1 (λi:Nat=>((k:Int),[e],(1:Int),(i:Int),t,(([]:yL In),([]:yL Out),(0:Int)),br,sec,(if i=0 then([]:yL dQ) else[sg]),ff l o)) ?_ ?_ (by omega)
  .intro i hi;have:i=0:=by omega
   subst this;unfold qj;dsimp only;rw[yW (yY (by decide)),Zj (k:=0) (show[e][0]? =ab e from rfl),ya,s1,ya]
   rfl
  .unfold qj;dsimp only;rw[yX (show¬ah (((1:Nat):Int) < 1)=af by decide)];rfl
 obtain⟨u,v,hcp⟩:=ZHw (ins:=t.1) (by omega) (by omega) (λz hz=>(ht.uz z hz).2.2) (outs:=[o]) (by simp) (by simp) (λz hz=>by rw[yas.1 hz];exact ho.2.1) 0;have ht2:t=(t.1,[o],0):=by rw[<-ht.out]
 unfold ud;rw[r1,ya,yX (by decide),yX (show¬ah ((k:Int) < 0)=af by rw[yN];omega),yX (show¬ah ((k:Int) >= (t.1.length:Int))=af by rw[yN];omega),UD,ya,yY hwit,yX (by decide),yX (show¬ah ((([e]:yL yU).length:Int) > 12)=af by simp),ZPb he,ya,yX (by decide),r2,ya];show(Zb (qj yD) yD ((k:Int),[e],(1:Int),(0:Int),t,(([]:yL In),([]:yL Out),(0:Int)),br,sec,([]:yL dQ),ff l o)).bind _=_;rw[l0,ya];dsimp only;rw[show uc yD t=ab (0,u,t.1,v,[o]) by rw[ht2];exact hcp,ya];dsimp only;rw[yW (ZV (by omega) (by omega)),yap,hx,ya,hxy,ht.out]
theorem ZTD{l:yL al}{o:Out}{t:Tx}(ht:ft l o t){k:Nat}{y:al}(hy:l[k]? =ab y){w:XT}(hw:cV w):ft l o (t.1.set k (y,w),t.2):=by
 refine⟨ht.out, ?_, ?_⟩
 .show(t.1.set k (y,w)).map (λx=>x.1)=_;rw[List.map_set,ht.src];exact bq hy
 .intro x hx;rcases List.mem_or_eq_of_mem_set hx with h|rfl
  .exact ht.uz x h
  .exact hw
theorem ZDk(a b:Int){l:yL Int}(hl:l.length<=100):∃r,Vr yD a b l=ab r/\(r=af->∀x,x∈l->a<=x/\x<=b):=by
 obtain⟨x,h1,h2⟩:=Yn (step:=ZO yD) l.length (λk s=>s=(l,(l.length:Int),(k:Int),a,b)/\∀j x,j < k->l[j]? =ab x->a<=x/\x<=b)
  (λx=>(∃j:Nat,x=.inl ((j:Int),a,b))\/x=.inr (a,b)/\∀x,x∈l->a<=x/\x<=b) (i:=(l,(l.length:Int),(0:Int),a,b)) ⟨rfl,λj x h=>by omega⟩ (by omega) (by
  rintro k _ hk ⟨rfl,hj⟩;obtain⟨x,hx,_⟩:=Zf hk;unfold ZO xF;dsimp only;rw[yW (ZE hk),Zj hx,ya];by_cases c1:x < a
  .right;rw[yW (yY c1),ya];dsimp only;rw[yW rfl];exact⟨_,rfl,.inl ⟨k,rfl⟩⟩
  .rw[yX (show¬ah (x < a)=af by rw[yN];exact c1),ya];dsimp only;by_cases c2:x > b
   .right;rw[yW (yY c2)];exact⟨_,rfl,.inl ⟨k,rfl⟩⟩
   .left;rw[yX (show¬ah (x > b)=af by rw[yN];exact c2),Zn (by omega)];refine⟨_,rfl,rfl,λj y h hy=> ?_⟩;by_cases e:j=k
    .subst e;rw[hx]at hy;cases hy;omega
    .exact hj j y (by omega) hy) (by
  rintro _ ⟨rfl,hj⟩;unfold ZO;dsimp only;rw[yX (by rw[ZA];decide)];refine⟨_,rfl,.inr ⟨rfl,λx hx=> ?_⟩⟩;obtain⟨j,j1,j2⟩:=ybg hx;exact hj j x j1 (by rw[<-j2];exact yac j1))
 unfold Vr Xt Wh;rw[h1,ya];rcases h2 with⟨j,rfl⟩|⟨rfl,h⟩
 .refine⟨_,rfl,λh=> ?_⟩;have:(!decide ((j:Int) >= 0))=af:=h;rw[yY (show(j:Int) >= 0 by omega)]at this;cases this
 .exact⟨_,rfl,λ_=>h⟩
theorem ZMc{l:yL yU}(hl:l.length=5)(k:aj):∃x,Zb (Ys yD) yD (l,(5:Int),(0:Int),k)=ab x/\(x=.inl (ag,k)\/x=.inr k/\∀e,e∈l->e.toNat < bO):=by
 refine Yn (step:=Ys yD) 5 (λi s=>s=(l,(5:Int),(i:Int),k)/\∀j e,j < i->l[j]? =ab e->e.toNat < bO) _ (i:=(l,(5:Int),(0:Int),k)) ⟨rfl,λj e h=>by omega⟩ (by omega) ?_ ?_
 .rintro i _ hi ⟨rfl,hj⟩;obtain⟨e,he,_⟩:=Zf (l:=l) (k:=i) (by omega);unfold Ys;dsimp only;rw[yW (yY (by omega)),Zj he,ya,qq,ya];by_cases c:e.toNat < bO
  .left;rw[yY c,yX (by decide),Zn (by omega)];refine⟨_,rfl,rfl,λj y h hy=> ?_⟩;by_cases q:j=i
   .subst q;rw[he]at hy;cases hy;exact c
   .exact hj j y (by omega) hy
  .right;rw[yZ c,yW (by decide)];exact⟨_,rfl,.inl rfl⟩
 .rintro _ ⟨rfl,hj⟩;unfold Ys;dsimp only;rw[yX (show¬ah (((5:Nat):Int) < 5)=af by decide)];refine⟨_,rfl,.inr ⟨rfl,λe he=> ?_⟩⟩;obtain⟨j,j1,j2⟩:=ybg he;exact hj j e (by omega) (by rw[<-j2];exact yac j1)
noncomputable def dC(k:dV):aN:=(B k.1.toNat,B k.2.1.toNat,B k.2.2.1.toNat,B k.2.2.2.1.toNat,B k.2.2.2.2.1.toNat)
theorem ZDl(k:dV):xI yD k=ab (dC k):=by
 unfold xI;rw[kv,ya,kv,ya,kv,ya,kv,ya,kv,ya];rfl
structure jR(k:aj):Prop where
 me:k.2.2.1=0\/k.2.2.1=1
 bas:k.1.2.2.1[k.2.2.1.toNat]? =ab (dC k.2.1)
 key:Key k.2.1.2.1
theorem ZJj{k:aj}(w:dR k.1):∃b,XW yD k=ab b/\(b=af->jR k):=by
 obtain⟨x,h1,h2⟩:=ZMc (l:=[k.2.1.1,k.2.1.2.1,k.2.1.2.2.1,k.2.1.2.2.2.1,k.2.1.2.2.2.2.1]) rfl k;unfold XW;rw[h1,ya];rcases h2 with rfl|⟨rfl,hk⟩
 .exact⟨ag,rfl,λh=>by cases h⟩
 dsimp only;obtain⟨e,e1,e2⟩:=ZO8 w;rw[e1,ya];by_cases c0:e=0
 .rw[yW (beq_iff_eq.2 c0)];obtain⟨_,_,_,hside⟩:=e2 c0;obtain⟨r,r1,r2⟩:=ZDk 0 1 (l:=[k.2.2.1]) (by simp);rw[r1,ya]
  cases r with
  |false=>exact⟨ag,rfl,λh=>by cases h⟩
  |true=>
   obtain⟨m0,m1⟩:=r2 rfl k.2.2.1 (by simp);rw[yW rfl,ZDl,ya,yW (ZV (by omega) (by omega))];obtain⟨bs,hb,_⟩:=Zf (l:=k.1.2.2.1) (k:=k.2.2.1.toNat) (by rw[w.b];omega);rw[hb,ya];by_cases c1:dC k.2.1=bs
   .rw[yW (yY c1)];obtain⟨q,q1,_⟩:=ZDk 0 1048576 (l:=[k.2.2.2.1,k.2.2.2.2]) (by simp);rw[q1,ya];refine⟨q,rfl,λ_=>⟨by omega,by rw[hb,c1], ?_⟩⟩;obtain⟨t,ht,_⟩:=Zf (l:=k.1.2.2.2.1) (k:=k.2.2.1.toNat) (by rw[w.t];omega);obtain⟨_,hp⟩:=hside k.2.2.1.toNat (by omega) t bs ht hb;have hp1:=(hp bs.2.1 (by unfold pts;simp)).2;refine⟨?_,hk k.2.1.2.1 (by simp)⟩;rcases Nat.eq_zero_or_pos k.2.1.2.1.toNat with h|h
    .refine absurd ?_ hp1;rw[<-c1];show B k.2.1.2.1.toNat=1;rw[h];exact UInt64.toNat_inj.1 (by rw[lB];decide)
    .exact h
   .rw[yX (show¬ah (dC k.2.1=bs)=af by rw[yN];exact c1)];exact⟨ag,rfl,λh=>by cases h⟩
 .rw[yX (by rw[yT];exact c0)];exact⟨ag,rfl,λh=>by cases h⟩
structure RT(t:Tx):Prop where
 i0:0 < t.1.length
 i1:t.1.length<=64
 o1:t.2.1.length<=64
 n0:0<=t.2.2
 ins:cb t.1.length (fK t.1)
 outs:cb t.2.1.length (eG t.2.1)
theorem txr{t:Tx}(hl:jQ t):∃b,bc yD t=ab b/\(b=af->RT t):=by
 obtain⟨x,x1,x2⟩:=UE t (by have:=hl.ins;omega);obtain⟨y,y1,y2⟩:=UF hl (gN t.1);unfold bc;have no:∃b:Bool,ab ag=ab b/\(b=af->RT t):=⟨ag,rfl,λh=>by cases h⟩;by_cases c1:(t.1.length:Int) < 1
 .rw[yW (yY c1)];exact no
 by_cases c2:(t.1.length:Int) > 64
 .rw[yX (show¬ah ((t.1.length:Int) < 1)=af by rw[yN];exact c1),yW (yY c2)];exact no
 by_cases c3:(t.2.1.length:Int) > 64
 .rw[yX (show¬ah ((t.1.length:Int) < 1)=af by rw[yN];exact c1),yX (show¬ah ((t.1.length:Int) > 64)=af by rw[yN];exact c2),yW (yY c3)];exact no
 by_cases c4:t.2.2 < 0
 .rw[yX (show¬ah ((t.1.length:Int) < 1)=af by rw[yN];exact c1),yX (show¬ah ((t.1.length:Int) > 64)=af by rw[yN];exact c2),yX (show¬ah ((t.2.1.length:Int) > 64)=af by rw[yN];exact c3),yW (yY c4)];exact no
 rw[yX (show¬ah ((t.1.length:Int) < 1)=af by rw[yN];exact c1),yX (show¬ah ((t.1.length:Int) > 64)=af by rw[yN];exact c2),yX (show¬ah ((t.2.1.length:Int) > 64)=af by rw[yN];exact c3),yX (show¬ah (t.2.2 < 0)=af by rw[yN];exact c4),x1,ya];rcases x2 with⟨hI,rfl⟩|⟨_,k,rfl⟩
 .dsimp only;rw[y1,ya];rcases y2 with⟨hO,rfl⟩|⟨_,k,rfl⟩
  .exact⟨af,rfl,λ_=>⟨by omega,by omega,by omega,by omega,hI,hO⟩⟩
  .exact no
 .exact no
theorem RT.ok{t:Tx}(h:RT t):ur t:=by
 refine⟨h.i0,h.i1,h.o1,h.n0,λx hx=> ?_,λx hx=> ?_⟩
 .obtain⟨j,j1,j2⟩:=ybg hx;obtain⟨r1,r2,_⟩:=h.ins j j1 x (by rw[<-j2];exact yac j1);exact⟨r1.1,r1.2,r2.1,r2.2.1,r2.2.2⟩
 .obtain⟨j,j1,j2⟩:=ybg hx;obtain⟨r1,_⟩:=h.outs j j1 x (by rw[<-j2];exact yac j1);exact⟨r1.1.1,r1.1.2,r1.2.1,r1.2.2⟩
theorem RT.id{t:Tx}(h:RT t)(hw:kB t)(hr:bc yD t=ab af):jM yD t=ab (gO t)/\(gO t).length=32:=by
 obtain⟨g1,g2⟩:=TU hw h.ok;refine⟨?_,Sha.iV _⟩;unfold jM;rw[hr,ya,yX (by decide),g1,ya,mP (by decide) (by simp) (CT g2),ya];rfl
def iF(id:yL yB)(n:Nat):yL al:=(List.range n).map λ(i:Nat)=>((id,(i:Int)):al)
theorem ZQ6(id:yL yB){n i:Nat}(h:i < n):(iF id n)[i]? =ab (id,(i:Int)):=by simp[iF,h]
theorem ZHx(id:yL yB)(n:Nat):(iF id n).length=n:=by simp[iF]
theorem ZQ7(id:yL yB)(n:Nat):iF id (n+1)=iF id n++[(id,(n:Int))]:=by
 unfold iF;rw[List.range_succ,yao];rfl
theorem ZQ8{t:Tx}(h:RT t)(hw:kB t)(hr:bc yD t=ab af):qh yD t=ab (iF (gO t) t.2.1.length):=by
 have ho:=h.o1;unfold qh;rw[(h.id hw hr).1,ya,hr,ya,yX (by decide)]
 have e:=Zu (step:=ua yD) t.2.1.length (λk:Nat=>((t.2.1.length:Int),(k:Int),t,iF (gO t) k,gO t)) (x:=(t,iF (gO t) t.2.1.length,gO t)) (by
  intro k hk;unfold ua;dsimp only;rw[yW (ZE hk),yW (ZL (by rw[ZHx];omega) (by rw[ZHx];omega)),Zn (by omega),ZQ7]) (by
  unfold ua;dsimp only;rw[yX (by rw[ZA];decide)]) (by omega)
 have e0:((t.2.1.length:Int),(0:Int),t,([]:yL al),gO t)=(λk:Nat=>((t.2.1.length:Int),(k:Int),t,iF (gO t) k,gO t)) 0:=rfl;rw[e0,e,ya]
theorem ZMd{t:Tx}(hl:t.1.length<=64)(hr:bc yD t=ab af):tT yD t=ab (t.1.map (·.1)):=by
 unfold tT;rw[hr,ya,yX (by decide)]
 have e:=Zu (step:=tS yD) t.1.length (λk:Nat=>(t.1,(t.1.length:Int),(k:Int),t,(t.1.take k).map (·.1))) (x:=(t,t.1.map (·.1))) (by
  intro k hk;obtain⟨x,hx,_⟩:=Zf hk;unfold tS;dsimp only;rw[yW (ZE hk),Zj hx,ya,yW (ZL (by rw[yab,yx];omega) (by rw[yab,yx];omega)),Zn (by omega),XU hx,yao];rfl) (by
  unfold tS;dsimp only;rw[yX (by rw[ZA];decide),List.take_length]) (by omega)
 have e0:(t.1,(t.1.length:Int),(0:Int),t,([]:yL al))=(λk:Nat=>(t.1,(t.1.length:Int),(k:Int),t,(t.1.take k).map (·.1))) 0:=rfl;rw[e0,e,ya]
def dS(l:yL Nat):yL Int:=l.map λi:Nat=>(i:Int)
theorem jb(l:yL Nat):(dS l).length=l.length:=yab ..
structure CV(k:aj)(t:Tx)(l:List Nat):Prop where
 up:l.Pairwise (· < ·)
 lt:∀i,i∈l->i < t.2.1.length
 len:l.length<=t.2.1.length
 key:l≠[]->Key k.2.1.2.1/\bc yD t=ab af/\RT t/\k.1.1∈t.1.map (·.1)
def CW(t:Tx)(i:Nat):Int:=((t.2.1[i]?).map (·.1)).getD 0
def fR(t:Tx)(l:yL Nat):Int:=(l.map (CW t)).sum
theorem UL{t:Tx}{l:yL Nat}{k i:Nat}(h:l[k]? =ab i):fR t (l.take (k+1))=fR t (l.take k)+CW t i:=by
 unfold fR;rw[XU h,yao,List.sum_append];simp
theorem UM{t:Tx}{i:Nat}{o:Out}(h:t.2.1[i]? =ab o):CW t i=o.1:=by
 unfold CW;rw[h];rfl
theorem ZMe{l:yL Out}(h:∀o,o∈l->qt o){a b:Nat}(hab:a<=b):QM (l.take a)<=QM (l.take b):=by
 have:=(ZKO (l:=l.take b) (λo ho=>h o (List.mem_of_mem_take ho)) a).2;grind
theorem CX{t:Tx}(h:∀o,o∈t.2.1->qt o){l:yL Nat}(up:l.Pairwise (· < ·))(lt:∀i,i∈l->i < t.2.1.length):∀j,j<=l.length->0<=fR t (l.take j)/\∀m,(∀i,i∈l.take j->i < m)->fR t (l.take j)<=QM (t.2.1.take m)
 |0,_=>⟨Int.le_refl _,λm _=>(ZKO h m).1⟩
 |j+1,hj=>by
  obtain⟨x,hx,hxm⟩:=Zf (l:=l) (k:=j) (by omega);obtain⟨h0,h1⟩:=CX h up lt j (by omega);obtain⟨o,ho,hom⟩:=Zf (l:=t.2.1) (lt x hxm);have hn:=(h o hom).1;rw[UL hx,UM ho];refine⟨by omega,λm hm=> ?_⟩
  have hb:∀i,i∈l.take j->i < x:=by
   intro i hi;obtain⟨a,a1,a2⟩:=ybg hi;have a3:a < j:=by rw[yx]at a1;omega
   have a4:l[a]? =ab i:=by
    grind
   have hjl:j < l.length:=by omega
   have hal:a < l.length:=by omega
   have e1:l[a]=i:=by rw[yac hal]at a4;exact Option.some.inj a4
   have e2:l[j]=x:=by rw[yac hjl]at hx;exact Option.some.inj hx
   rw[<-e1, <-e2];exact List.pairwise_iff_getElem.1 up a j hal hjl a3
  have hxm2:x < m:=hm x (by rw[XU hx];simp);have k1:=h1 x hb;have k2:=ZMe h (show x+1<=m from hxm2)
  rw[qu ho]at k2;omega
def ii(id:yL yB)(l:yL Nat):yL al:=l.map λi:Nat=>((id,(i:Int)):al)
theorem kC(id:yL yB)(l:yL Nat):(ii id l).length=l.length:=yab ..
theorem ZKU{id:yL yB}{l:yL Nat}{k i:Nat}(h:l[k]? =ab i):bare (ii id (l.take (k+1)))=bare (ii id (l.take k))++[((id,(i:Int)),((0:Int),([]:yL dQ),(0:yU)))]:=by
 unfold bare ii;rw[XU h,yao,yao];rfl
theorem ZQ9{id:yL yB}(hid:id.length=32){t:Tx}{l:yL Nat}(up:l.Pairwise (· < ·))(lt:∀i,i∈l->i < t.2.1.length)(hl:l.length<=20)(ho:t.2.1.length<=64)(hne:l≠[]):fe (ii id l):=by
 refine⟨?_,by rw[kC];exact hl,λx hx=> ?_,λx hx=> ?_,λi j x y hij hx hy=> ?_⟩
 .rw[kC]
  all_goals grind
 .obtain⟨i,_,rfl⟩:=yci.1 hx;exact hid
 .obtain⟨i,hi,rfl⟩:=yci.1 hx;grind
 .unfold ii at hx hy;rw[yak]at hx hy;obtain⟨a,a1,rfl⟩:=yn.1 hx;obtain⟨b,b1,rfl⟩:=yn.1 hy;obtain⟨i1,i2⟩:=yo.1 a1;obtain⟨j1,j2⟩:=yo.1 b1;have:=List.pairwise_iff_getElem.1 up i j i1 j1 hij;grind
theorem ZPc{k:aj}{t:Tx}(rt:RT t){l:yL Nat}(fd:CV k t l)(fee:Int)(to:ZG)(id:yL yB):
 Zb (Vj yD) yD (fee,dS l,iF id t.2.1.length,(0:Int),dS l,((dS l).length:Int),(0:Int),k,t,to,(([]:yL In),([]:yL Out),(0:Int)),(0:Int),([]:yL In),([]:yL Out))=
  ab (fee,dS l,fR t l,k,t,to,(([]:yL In),([]:yL Out),(0:Int)),(0:Int),bare (ii id l),([]:yL Out)):=by
 have ho:=rt.o1;have hl:=fd.len;have hs:=CX (λo h=>rt.ok.2.2.2.2.2 o h) fd.up fd.lt
 have hb:∀m,QM (t.2.1.take m)<=64*1125899906842624:=λm=>by
  have:=(ux (l:=t.2.1) (t.2.1.take m).length (by rw[yx];omega) (λj hj o h=>(rt.outs j (by rw[yx]at hj;omega) o h).1)).2;grind
 have e:=Zu (step:=Vj yD) l.length (λj:Nat=>(fee,dS l,iF id t.2.1.length,fR t (l.take j),dS l,((dS l).length:Int),(j:Int),k,t,to,(([]:yL In),([]:yL Out),(0:Int)),(0:Int),bare (ii id (l.take j)),([]:yL Out)))
  (x:=(fee,dS l,fR t l,k,t,to,(([]:yL In),([]:yL Out),(0:Int)),(0:Int),bare (ii id l),([]:yL Out))) (by
  intro j hj;obtain⟨i,hi,him⟩:=Zf hj;have jK:(dS l)[j]? =ab (i:Int):=by unfold dS;rw[yak,hi];rfl
  obtain⟨o,hx,hom⟩:=Zf (l:=t.2.1) (fd.lt i him);obtain⟨s0,s1⟩:=hs j (by omega);have s1:=s1 t.2.1.length (λa ha=>fd.lt a (List.mem_of_mem_take ha));have s2:=hb t.2.1.length;have q:=rt.ok.2.2.2.2.2 o hom;have q0:=q.1;have q1:=q.2.1;unfold Vj;dsimp only;rw[jb,yW (ZE hj),Zj jK,ya,Zj hx,ya,Zj (ZQ6 id (fd.lt i him)),ya,yW (ZL (by unfold bare;rw[yab,kC,yx];omega) (by unfold bare;rw[yab,kC,yx];omega)),Zn (by omega),ZT (z:=fR t (l.take j)+o.1) (by omega) (by omega),UL hi,UM hx,ZKU hi]) (by
  unfold Vj;dsimp only;rw[jb,yX (by rw[ZA];decide),List.take_length]) (by omega)
 exact e
end Go.Proofs.YtekdgjajmennjaaGreat
end
section
set_option maxRecDepth 100000
namespace Go.Proofs.YtekdgjajmennjaaGreat
open Go Go.Ev
noncomputable section
def sd1:yL yB:=[1,0,0,0,0,0,0,0,0,0,0,0,0,0,0,0,0,0,0,0,0,0,0,0,0,0,0,0,0,0,0,0]
def qz:dV:=(2072101336324354433,1728786906511799908,2048662411413283118,1784403759221825084,1029399409459846816,[88,250,0,252,227,35,15,64,138,51,207,36,89,65,205,155,21,170,15,185,246,119,254,243,6,204,53,138,118,39,233,111])
theorem ZTE:ue 18446744073709551616 sd1=ab qz:=by kernel_rfl
theorem ZRa:oC 18446744073709551616 qz 0=ab (3457188808171160469,af):=by decide+kernel
theorem ZRb:oC 18446744073709551616 qz 1=ab (3190203784800143504,af):=by decide+kernel
def sd2:yL yB:=[2,0,0,0,0,0,0,0,0,0,0,0,0,0,0,0,0,0,0,0,0,0,0,0,0,0,0,0,0,0,0,0]
def qA:dV:=(1305380350991396904,589199544144668201,578832145571974099,1103751915044840651,2186824319021734715,[60,208,91,221,147,190,4,197,114,171,83,133,192,106,205,166,183,68,218,15,86,245,183,42,13,249,45,114,246,59,218,167])
theorem ZTF:ue 18446744073709551616 sd2=ab qA:=by kernel_rfl
theorem ZRc:oC 18446744073709551616 qA 0=ab (4185533516973979542,af):=by decide+kernel
theorem ZRd:oC 18446744073709551616 qA 1=ab (3609844275354265494,af):=by decide+kernel
def UN(F:Nat)(s:yL yB):yO dV:=if s=sd1 then ab qz else if s=sd2 then ab qA else ue F s
def UO(F:Nat)(k:dV)(n:Int):yO (yU×Bool):=if k=qz/\n=0 then ab (3457188808171160469,af) else if k=qz/\n=1 then ab (3190203784800143504,af) else if k=qA/\n=0 then ab (4185533516973979542,af) else if k=qA/\n=1 then ab (3609844275354265494,af) else oC F k n
theorem ZRe(s:yL yB):UN 18446744073709551616 s=ue 18446744073709551616 s:=by
 unfold UN;split
 .next h=>rw[h,ZTE]
 split
 .next h=>rw[h,ZTF]
 rfl
theorem ZRf(k:dV)(n:Int):UO 18446744073709551616 k n=oC 18446744073709551616 k n:=by
 unfold UO;split
 .next h=>rw[h.1,h.2,ZRa]
 split
 .next h=>rw[h.1,h.2,ZRb]
 split
 .next h=>rw[h.1,h.2,ZRc]
 split
 .next h=>rw[h.1,h.2,ZRd]
 rfl
def CY(F:Nat):Fs Tryz.prog:=⟨79,[.v aSn],[],[aSn],(zP fN),λx=>UN F x⟩
theorem ZFk:(CY 18446744073709551616).Ok:=by
 have e:CY 18446744073709551616=AZ 18446744073709551616:=by
  unfold CY AZ;congr;funext x;exact ZRe x
 rw[e];exact eu AZ ZG9
def CZ(F:Nat):Fs Tryz.prog:=⟨80,[.v fN,.v (.int .i64)],[],[fN,(.int .i64)],[⟨.ret,[(0,.bi [.v .u64,.v .bool])],[],[.u64,.bool]⟩],λx=>UO F x.1 x.2⟩
theorem ZFl:(CZ 18446744073709551616).Ok:=by
 have e:CZ 18446744073709551616=BA 18446744073709551616:=by
  unfold CZ BA;congr;funext x;exact ZRf x.1 x.2
 rw[e];exact eu BA ZHa
end
end Go.Proofs.YtekdgjajmennjaaGreat
end
