/- Parts of the proof, in one file. -/
import Derived.Test.YtekdgjajmennjaaGreatKi
open Option renaming some → ab, none → ae
open Bool renaming true → af, false → ag
open Decidable renaming decide → ah
open Go.Proofs.Tryz renaming prog → yb
open Int renaming toNat_natCast → ybw
open List renaming getElem?_set_self → yci
open Option renaming bind_some → ya
open Option.some renaming inj → yax
set_option linter.unusedVariables false
set_option linter.unusedSimpArgs false
section
set_option maxRecDepth 4000
namespace Go.Proofs.YtekdgjajmennjaaGreat
open Go Go.Ev
noncomputable section
def OM(F:Nat)(s0:aq):yO ((ZD×aq)):=
 ab ((s0.1,s0.2.1,s0.2.2.1,s0.2.2.2.2.2.1.1,s0.2.2.2.2.2.2.1.1),s0)
def ZBz(F:Nat):Fs yb:=⟨28,[.ak 0 []],[.var (.v Zi) af],[Zi],[⟨.ret,[(0,.v Zp)],[.var (.v Zi) af],[Zp,Zi]⟩],λx=>OM F x⟩
def Zsw:Fs yb:=ZBz yD
theorem ZBA:Zsw.Ok:=aR {} [] [] trivial
def WM(F:Nat)(s0:aq):yO ((yG×aq)):=
 (WK F s0.2.2.2.2.2.1 s0).bind λa=>
 ab (a,s0)
def Zn8(F:Nat):Fs yb:=⟨167,[.ak 0 []],[.var (.v Zi) af],[Zi],[⟨.ret,[(0,.v ZF)],[.var (.v Zi) af],[ZF,Zi]⟩],λx=>WM F x⟩
def ZpZ:Fs yb:=Zn8 yD
theorem Zn9:ZpZ.Ok:=lI (fi:={ hi:={ still:=[3,7]}}) (aA:={ l:=[],mt:=[],ro:=[MT]}) (FM trivial trivial ⟨Zdp,au⟩)
def VG(F:Nat)(x0:aq):yO (yG):=(WM F x0).map λo=>o.1
def Zgx:Rs yb:=⟨167,[.ak 0 []],[.var (.v Zi) af],[Zi],.v ZF,[ZF],λx=>VG yD x⟩
theorem Zk8:Zgx.Ok:=by
 rintro x0 o h;obtain⟨y,h1,h2⟩:=Zb (show(WM yD x0).map (λo=>o.1)=ab o from h)
 have hk:y=(y.1,x0):=by
  unfold WM at h1;obtain⟨z,g1,g2⟩:=Option.bind_eq_some_iff.1 h1;cases g2;rfl
 obtain⟨args,R,H,q1,q2,q3⟩:=Zn9 (x0) y h1;refine⟨args,R,H,q1,q2,λq hq=> ?_⟩;subst h2;obtain⟨r,e1,e2⟩:=q3 _ _ ([q.1],H) ⟨rfl,rfl⟩ (by rw[hk];cases q1;cases q2;cases hq;rfl);cases e1;exact e2
def Vb(F:Nat)(s0:aq):yO ((cS×cQ×aq)):=
 (be F s0.2.1 s0.2.2.2.2.2.1.1).bind λa=>
 (VG F s0).bind λb=>
 (aZ F s0.1 b s0.2.2.1 a.1).bind λc=>
 ab (c.1,s0.2.2.2.2.2.2.2.2.2.1,s0)
def Zk9(F:Nat):Fs yb:=⟨84,[.ak 0 []],[.var (.v Zi) af],[Zi],[⟨.ret,[(0,.bj [.v jR,.v Wr])],[.var (.v Zi) af],[jR,Wr,Zi]⟩],λx=>Vb F x⟩
def Zdy:Fs yb:=Zk9 yD
def ZRH:HI:={ still:=[12,17,25,26,27,31,32]}
theorem Zla:Zdy.Ok:=lI (fi:={ hi:=ZRH}) (aA:={ l:=[wZ,xt],mt:=[],ro:=[Zgx]}) (FM ⟨xa,xu,au⟩ trivial ⟨Zk8,au⟩)
def X6(F:Nat)(a1:go)(s0:aq):yO ((Tx×Int×aq)):=
 if(a1.1 !=12)=af then
  ab (([],[],0),1,s0)
 else
 if(!(ah (a1.2.2.2.2.2.2.2.2.1=s0.1.1.1)))=af then
  ab (([],[],0),1,s0)
 else
 if(a1.2.1 !=s0.1.1.2)=af then
  ab (([],[],0),1,s0)
 else
 if(a1.2.2.1 !=(wi (1 - s0.2.2.1)))=af then
  ab (([],[],0),1,s0)
 else
 if(ba a1.2.2.1 2)=af then
  (s0.1.2.2.1[a1.2.2.1.toNat]?).bind λa=>
  (YL F s0.1 a1.2.2.1).bind λb=>
  (Xp F a.1 b a1.2.2.2.2.2.2.2.1).bind λc=>
  if(!c)=af then
   ab (([],[],0),7,s0)
  else
  (Vb F s0).bind λd=>
  (MU F d.2.2.2.1 d.1.1).bind λe=>
  if(ba d.2.2.2.2.1 2)=af then
   (([d.2.1,d.2.1]:yL cQ)[d.2.2.2.2.1.toNat]?).bind λf=>
   let g:(yL cQ):=([d.2.1,d.2.1]:yL cQ).set d.2.2.2.2.1.toNat e
   (g[0]?).bind λh=>
   (g[1]?).bind λi=>
   (xA F d.1.1 h i).bind λj=>
   ab (j,0,d.2.2)
  else
  ae
 else
 ae
def Zrk(F:Nat):Fs yb:=⟨29,[.ak 0 [],.v iG],[.var (.v Zi) af],[iG,Zi],[⟨.ret,[(0,.bj [.v aS,.v yI])],[.var (.v Zi) af],[aS,yI,Zi]⟩],λx=>X6 F x.1 x.2⟩
def Zjp:Fs yb:=Zrk yD
def ZRI:HI:={ still:=[5,53,57,59,60,62,67,81,83,87,89,91]}
theorem Zrl:Zjp.Ok:=aR ZRI [] [KS,xw,Zdy,ZmM,ZmN] ⟨KT,xx,Zla,ZkZ,Zk1,au⟩
def YK(F:Nat)(a0:aH)(a1:go)(a2:yU):yO (Bool):=
 ((ab af)).bind λa=>
 (WD F a0).bind λb=>
 match b with
 |.inl c=>
  if(!c)=af then
   ab a
  else
  ae
 |.inr d=>
  if(!d.1)=af then
   ab a
  else
  (OM F d.2.2.2.1).bind λe=>
  (wH F e.1).bind λf=>
  (X6 F f d.2.2.2.2).bind λg=>
  (X6 F f e.2).bind λh=>
  (X6 F (f.1,f.2.1,f.2.2.1,f.2.2.2.1,f.2.2.2.2.1,f.2.2.2.2.2.1,f.2.2.2.2.2.2.1,(f.2.2.2.2.2.2.2.1.1,f.2.2.2.2.2.2.2.1.2+a2),f.2.2.2.2.2.2.2.2.1,f.2.2.2.2.2.2.2.2.2.1,f.2.2.2.2.2.2.2.2.2.2.1,f.2.2.2.2.2.2.2.2.2.2.2.1,f.2.2.2.2.2.2.2.2.2.2.2.2.1,f.2.2.2.2.2.2.2.2.2.2.2.2.2) g.2.2).bind λi=>
  (X6 F a1 i.2.2).bind λj=>
  if(a1.1==12)=af then
   let k:Bool:=ah (a1.2.2.2.2.2.2.2.2.1=f.2.2.2.2.2.2.2.2.1)
   if k=af then
    if(a1.2.1==f.2.1)=af then
     if a=af then
      if(g.2.1==0)=af then
       if(h.2.1==1)=af then
        if(a2==0)=af then
         if(a1.2.2.1==0)=af then
          if(j.2.1==0)=af then
           ab af
          else
          ab ((j.1.1.length:Int)==0)
         else
         if(j.2.1==1)=af then
          if(j.2.1==0)=af then
           ab af
          else
          ab ((j.1.1.length:Int)==0)
         else
         ab ag
        else
        if(i.2.1==7)=af then
         if(a1.2.2.1==0)=af then
          if(j.2.1==0)=af then
           ab af
          else
          ab ((j.1.1.length:Int)==0)
         else
         if(j.2.1==1)=af then
          if(j.2.1==0)=af then
           ab af
          else
          ab ((j.1.1.length:Int)==0)
         else
         ab ag
        else
        ab ag
       else
       ab ag
      else
      ab ag
     else
     ab ag
    else
    if a=af then
     if(g.2.1==0)=af then
      if(h.2.1==1)=af then
       if(a2==0)=af then
        if(j.2.1==1)=af then
         if(j.2.1==0)=af then
          ab af
         else
         ab ((j.1.1.length:Int)==0)
        else
        ab ag
       else
       if(i.2.1==7)=af then
        if(j.2.1==1)=af then
         if(j.2.1==0)=af then
          ab af
         else
         ab ((j.1.1.length:Int)==0)
        else
        ab ag
       else
       ab ag
      else
      ab ag
     else
     ab ag
    else
    ab ag
   else
   if a=af then
    if(g.2.1==0)=af then
     if(h.2.1==1)=af then
      if(a2==0)=af then
       if(j.2.1==1)=af then
        if(j.2.1==0)=af then
         ab af
        else
        ab ((j.1.1.length:Int)==0)
       else
       ab ag
      else
      if(i.2.1==7)=af then
       if(j.2.1==1)=af then
        if(j.2.1==0)=af then
         ab af
        else
        ab ((j.1.1.length:Int)==0)
       else
       ab ag
      else
      ab ag
     else
     ab ag
    else
    ab ag
   else
   ab ag
  else
  if a=af then
   if(g.2.1==0)=af then
    if(h.2.1==1)=af then
     if(a2==0)=af then
      if(j.2.1==1)=af then
       if(j.2.1==0)=af then
        ab af
       else
       ab ((j.1.1.length:Int)==0)
      else
      ab ag
     else
     if(i.2.1==7)=af then
      if(j.2.1==1)=af then
       if(j.2.1==0)=af then
        ab af
       else
       ab ((j.1.1.length:Int)==0)
      else
      ab ag
     else
     ab ag
    else
    ab ag
   else
   ab ag
  else
  ab ag
def Zfu(F:Nat):Fs yb:=⟨5,[.v ZA,.v iG,.v .u64],[],[ZA,iG,.u64],(zN .bool),λx=>YK F x.1 x.2.1 x.2.2⟩
def ZfC:Fs yb:=Zfu yD
def ZRJ:HI:={ still:=[6,23,34,35,42,43,52,53,70,71,80,81]}
theorem Zfv:ZfC.Ok:=aR ZRJ [] [ZN9,ZcP,Zsw,Zpm,Zjp] ⟨ZPZ,Zjz,ZBA,Zmm,Zrl,au⟩
end
end Go.Proofs.YtekdgjajmennjaaGreat
end
section
set_option maxRecDepth 4000
namespace Go.Proofs.YtekdgjajmennjaaGreat
open Go Go.Ev
theorem ZFX{x:In}(hx:x.2.2.1.length<=12){outs:yL Out}(h1:outs.length<=64)(ho:∀o,o∈outs->V4 o.2)(note:Int):
 ∃r,VE yD ([x],outs,note)=ab r/\((∃u v,r=.inl (note,u,[x],v,outs))\/∃u,r=.inr (.inl (outs,note,u,[x]))):=by
 have hi:xz yD [x]=ab (.inl ([()],[x])):=by
  unfold xz wS wR;rw[yX (by simp),yX (by simp),yW (X2 (by simp) (by simp))];rfl
 have e0:([x]:yL In)[(0:Nat)]? =ab x:=rfl
 have hs:QE yD x.2.2.1=ab x.2.2.1:=by
  unfold QE;rw[yW (X2 (by omega) (by omega))]
 unfold VE;dsimp only;rw[hi,ya];dsimp only;generalize hz:(([]:yL In),([]:yL Out),(0:Int))=z;by_cases he:outs.isEmpty=af
 .have he':outs=[]:=List.isEmpty_iff.1 he;subst he'
  have hc:X5 yD ([]:yL Out)=ab (.inr []):=by
   unfold X5;rw[yW he];unfold sI;rw[yW (X2 (by simp) (by simp))];rfl
  rw[hc,ya];dsimp only
  have l0:Zc (Y6 yD) yD ((([x]:yL In).length:Int),(0:Int),([]:yL Out),note,z,[()],[x])=ab (([]:yL Out),note,z,[()],[x]):=by
   refine ZT 1 (λk:Nat=>((([x]:yL In).length:Int),(k:Int),([]:yL Out),note,z,[()],[x])) ?_ ?_ (by omega)
   .intro k hk;have:k=0:=by omega
    subst this;unfold Y6;dsimp only;rw[yW (yY (by simp)),yW (ZQ (by omega) (by simp)),ybw,e0,ya,hs,ya,yW (ZQ (by omega) (by simp)),ya];rfl
   .unfold Y6;dsimp only;rw[yX (by simp)]
  rw[l0,ya];dsimp only
  have l1:Zc (XM yD) yD ((([]:yL Out).length:Int),(0:Int),([]:yL Out),note,z,[()],[x])=ab (([]:yL Out),note,z,[()],[x]):=by
   refine ZT 0 (λk:Nat=>((([]:yL Out).length:Int),(k:Int),([]:yL Out),note,z,[()],[x])) (λk hk=>absurd hk (by omega)) ?_ (by omega);unfold XM;dsimp only;rw[yX (by simp)]
  rw[l1,ya];exact⟨_,rfl,.inr ⟨_,rfl⟩⟩
 .have hc:X5 yD outs=ab (.inl ([()],outs)):=by
   unfold X5 wU wT;rw[yX he,yX he,yW (X2 (by omega) (by omega))];rfl
  rw[hc,ya];dsimp only
  have l0:Zc (Xx yD) yD ((([x]:yL In).length:Int),(0:Int),note,z,[()],[x],[()],outs)=ab (note,z,[()],[x],[()],outs):=by
   refine ZT 1 (λk:Nat=>((([x]:yL In).length:Int),(k:Int),note,z,[()],[x],[()],outs)) ?_ ?_ (by omega)
   .intro k hk;have:k=0:=by omega
    subst this;unfold Xx;dsimp only;rw[yW (yY (by simp)),yW (ZQ (by omega) (by simp)),ybw,e0,ya,hs,ya,yW (ZQ (by omega) (by simp)),ya];rfl
   .unfold Xx;dsimp only;rw[yX (by simp)]
  rw[l0,ya];dsimp only
  have l1:Zc (Xz yD) yD ((outs.length:Int),(0:Int),note,z,[()],[x],[()],outs)=ab (note,z,[()],[x],[()],outs):=by
   refine ZT outs.length (λk:Nat=>((outs.length:Int),(k:Int),note,z,[()],[x],[()],outs)) ?_ ?_ (by omega)
   .intro k hk;obtain⟨o,hok,hom⟩:=Zu hk;obtain⟨g1,g2,g3⟩:=ho o hom
    have hbe:¬o.2.isEmpty=af:=by
     intro h;rw[List.isEmpty_iff]at h;rw[h]at g1;simp at g1
    have hbr:Ym yD o.2=ab (.inl ([()],o.2)):=by
     unfold Ym Xw W6;rw[yX hbe,yX hbe,yW (X2 (by omega) (by omega))];rfl
    unfold Xz;dsimp only;rw[yW (XA hk),yW (ZQ (by omega) (by omega)),ybw,hok,ya,hbr,ya];dsimp only
    have l2:Zc (Xy yD) yD ((k:Int),(outs.length:Int),(k:Int),(o.2.length:Int),(0:Int),note,z,[()],[x],[()],outs,[()],o.2)=ab ((k:Int),(outs.length:Int),(k:Int),note,z,[()],[x],[()],outs,[()],o.2):=by
     refine ZT o.2.length (λj:Nat=>((k:Int),(outs.length:Int),(k:Int),(o.2.length:Int),(j:Int),note,z,[()],[x],[()],outs,[()],o.2)) ?_ ?_ (by omega)
     .intro j hj;obtain⟨b,hb,hbm⟩:=Zu hj;obtain⟨b1,_⟩:=g3 b hbm
      have hk9:ZN yD b.1=ab b.1:=by
       unfold ZN;rw[yW (X2 (by omega) (by omega))]
      unfold Xy;dsimp only;rw[yW (XA hj),yW (ZQ (by omega) (by omega)),ybw,hb,ya,hk9,ya,yW (ZQ (by omega) (by omega)),ya,ZO (by omega),show o.2.set j (b.1,b.2.1,b.2.2.1,b.2.2.2)=o.2 from bB hb]
     .unfold Xy;dsimp only;rw[yX (by rw[YN];decide)]
    rw[l2,ya];dsimp only;rw[yW (ZQ (by omega) (by omega)),ybw,hok,ya,ZO (by omega),show outs.set k (o.1,o.2)=outs from bB hok]
   .unfold Xz;dsimp only;rw[yX (by rw[YN];decide)]
  rw[l1,ya];exact⟨_,rfl,.inl ⟨_,_,rfl⟩⟩
theorem ZLR{x:In}(hx:x.2.2.1.length<=12){outs:yL Out}(h1:outs.length<=64)(ho:∀o,o∈outs->V4 o.2)(note:Int)(sa sb:cQ):∃t,xA yD ([x],outs,note) sa sb=ab t:=by
 obtain⟨r,r1,r2⟩:=ZFX hx h1 ho note;unfold xA;rw[r1,ya];rcases r2 with⟨u,v,rfl⟩|⟨u,rfl⟩
 .dsimp only;rw[yW (show ah ((([x]:yL In).length:Int) > 0)=af from rfl),yW (show ba 0 ([x]:yL In).length=af from rfl),show([x]:yL In)[0]? =ab x from rfl,ya]
  exact⟨_,rfl⟩
 .dsimp only;rw[yW (show ah ((([x]:yL In).length:Int) > 0)=af from rfl),yW (show ba 0 ([x]:yL In).length=af from rfl),show([x]:yL In)[0]? =ab x from rfl,ya]
  exact⟨_,rfl⟩
def xU(ch:Chan)(me:Int)(m:go):Prop:=m.1=12/\m.2.2.2.2.2.2.2.2.1=ch.1.1/\m.2.1=ch.1.2/\m.2.2.1=1 - me
theorem ZLS{ch:Chan}{kit:cU}{me:Int}{first:yG}{sig:cQ}{pers:yL yU}{s:aq}(N:fI ch kit me first sig pers s):
 ∃c n,Vb yD s=ab (c,sig,s)/\ck yD c.1=ab n/\n.length=32/\∃p,pB ch me p c:=by
 obtain⟨kept,rfl⟩:=N.is;obtain⟨p,c,n,h1,h2,h3,h4,h5⟩:=N.mak;refine⟨c,n, ?_,h3,h4,p,h5⟩;have hat:=ZN8 (ch:=ch) (kit:=kit) (me:=me) (first:=first) (sig:=sig) (pers:=pers) (kept:=kept) N.op
 have hown:VG yD (eI ch kit me first sig pers kept)=ab (0,first.2.1,[],first.2.2.2):=by
  unfold VG WM;rw[show(eI ch kit me first sig pers kept).2.2.2.2.2.1=(0,[0,0]) from rfl,hat]
  rfl
 unfold Vb;rw[show(eI ch kit me first sig pers kept).2.1=kit from rfl,show(eI ch kit me first sig pers kept).2.2.2.2.2.1=(0,[0,0]) from rfl]
 dsimp only;rw[h1,ya,hown,ya,show(eI ch kit me first sig pers kept).1=ch from rfl,show(eI ch kit me first sig pers kept).2.2.1=me from rfl,h2,ya]
 rfl
theorem xV{ch:Chan}(w:fu ch)(hh:ch.1.1.length=32){kit:cU}{me:Int}{first:yG}{sig:cQ}{pers:yL yU}{s:aq}(N:fI ch kit me first sig pers s)(m:go):
 ∃t e,X6 yD m s=ab (t,e,s)/\((¬xU ch me m/\e=1/\t=([],[],0))\/
  xU ch me m/\∃b q,ch.2.2.1[(1 - me).toNat]? =ab b/\YL yD ch (1 - me)=ab q/\q.length=32/\(js b.1 q m.2.2.2.2.2.2.2.1=af/\e=0\/js b.1 q m.2.2.2.2.2.2.2.1=ag/\e=7/\t=([],[],0))):=by
 have hme:=N.who;have hn:=N.num;obtain⟨c,n,g1,g2,g3,p,g4⟩:=ZLS N;obtain⟨kept,rfl⟩:=N.is;unfold X6;rw[show(eI ch kit me first sig pers kept).1=ch from rfl,show(eI ch kit me first sig pers kept).2.2.1=me from rfl]
 by_cases c1:m.1=12
 .rw[yX (show¬(m.1 !=12)=af by rw[yE];exact λh=>h c1)];by_cases c2:m.2.2.2.2.2.2.2.2.1=ch.1.1
  .rw[yY c2,yX (show¬(!true)=af by decide)];by_cases c3:m.2.1=ch.1.2
   .rw[yX (show¬(m.2.1 !=ch.1.2)=af by rw[yE];exact λh=>h c3),Yb (z:=1 - me) (by omega) (by omega)];by_cases c4:m.2.2.1=1 - me
    .rw[yX (show¬(m.2.2.1 !=1 - me)=af by rw[yE];exact λh=>h c4),c4];obtain⟨b,hb,_⟩:=Zu (l:=ch.2.2.1) (k:=(1 - me).toNat) (by rw[w.b];omega);obtain⟨q,q1,q2⟩:=ZwF (ch:=ch) (me:=1 - me) hh (by omega) (by omega) (by omega) (by omega);rw[yW (ZQ (by omega) (by omega)),hb,ya,q1,ya,Zy5 _ q2,ya]
     cases hv:js b.1 q m.2.2.2.2.2.2.2.1 with
     |false=>exact⟨_,_,rfl,.inr ⟨⟨c1,c2,c3,c4⟩,b,q,rfl,rfl,q2,.inr ⟨hv,rfl,rfl⟩⟩⟩
     |true=>
      rw[yX (show¬(!true)=af by decide),g1,ya];dsimp only;unfold MU;obtain⟨sg,s1⟩:=OF (eI ch kit me first sig pers kept).2.1.1 g3
      rw[g2,ya,s1,ya,ya,show(eI ch kit me first sig pers kept).2.2.1=me from rfl,yW (ZQ (by omega) (by omega))]
      obtain⟨x0,hx0,_⟩:=Zu (l:=([sig,sig]:yL cQ)) (k:=me.toNat) (by simp;omega);obtain⟨y0,hy0,_⟩:=Zu (l:=([sig,sig]:yL cQ).set me.toNat sg) (k:=0) (by simp);obtain⟨y1,hy1,_⟩:=Zu (l:=([sig,sig]:yL cQ).set me.toNat sg) (k:=1) (by simp);have hins:=g4.ins;obtain⟨t,ht⟩:=ZLR (x:=(ch.1,((0:Int),([]:yL cQ),(0:yU)))) (by simp) (outs:=c.1.2.1) (by have:=g4.outs;omega) (λo ho=>(g4.ok o ho).2.2.1) c.1.2.2 y0 y1;rw[hx0,ya,hy0,ya,hy1,ya,show c.1=([(ch.1,((0:Int),([]:yL cQ),(0:yU)))],c.1.2.1,c.1.2.2) by rw[<-hins],ht,ya];exact⟨t,0,rfl,.inr ⟨⟨c1,c2,c3,c4⟩,b,q,rfl,rfl,q2,.inl ⟨hv,rfl⟩⟩⟩
    .rw[yW (bne_iff_ne.2 c4)];exact⟨_,_,rfl,.inl ⟨λh=>c4 h.2.2.2,rfl,rfl⟩⟩
   .rw[yW (bne_iff_ne.2 c3)];exact⟨_,_,rfl,.inl ⟨λh=>c3 h.2.2.1,rfl,rfl⟩⟩
  .rw[yZ c2];exact⟨_,_,rfl,.inl ⟨λh=>c2 h.2.1,rfl,rfl⟩⟩
 .rw[yW (bne_iff_ne.2 c1)];exact⟨_,_,rfl,.inl ⟨λh=>c1 h.1,rfl,rfl⟩⟩
structure jt(x:aH):Prop where
 tg:x.1.length=2
 len:∀s,s∈x.1->s.length=32
 terms:x.2.1.length=2
 gc:x.2.2.1.length=2
 o0: -9223372036854775808<=x.2.2.2.1
 o1:x.2.2.2.1<=9223372036854775807
structure nH(x:aH)(k:Nat)(kits:List cU)(ch:Chan):Prop where
 kl:kits.length=2
 kk:∀j kt,j < k->kits[j]? =ab kt->il kt
 id:ch.1.1.length=32
 no:ch.1.2=0
 a0:0<=ch.2.1
 a1:ch.2.1<=k*1099511627776
 b:ch.2.2.1.length=2
 t:ch.2.2.2.1.length=2
 op:ch.2.2.2.2=x.2.2.2.1
theorem ZNL{x:aH}(hx:jt x){kits:yL cU}{ch:Chan}(h0:nH x 0 kits ch):
 ∃r,Zc (YC yD) yD ((0:Int),x,kits,ch)=ab r/\((∃y,r=.inl (ag,y))\/∃kits' ch',r=.inr (x,kits',ch')/\nH x 2 kits' ch'):=by
 refine VF (step:=YC yD) 2 (λk s=>∃kits ch,s=((k:Int),x,kits,ch)/\nH x k kits ch) _ ⟨kits,ch,rfl,h0⟩ (by omega) ?_ ?_
 .rintro k _ hk ⟨kits,ch,rfl,h⟩;have hin:ba (k:Int) 2=af:=ZQ (by omega) (by omega);obtain⟨sd,hs,hsm⟩:=Zu (l:=x.1) (k:=k) (by rw[hx.tg];omega);obtain⟨kt,k1,k2⟩:=ZPS (hx.len sd hsm);obtain⟨k0,hk0,_⟩:=Zu (l:=kits) (k:=k) (by rw[h.kl];omega);obtain⟨b0,hb0,_⟩:=Zu (l:=ch.2.2.1) (k:=k) (by rw[h.b];omega);obtain⟨v,hv,_⟩:=Zu (l:=x.2.2.1) (k:=k) (by rw[hx.gc];omega);have hkl:=h.kl;unfold YC;dsimp only;rw[yW (yY (by omega)),yW hin,ybw,hs,ya,k1,ya,yW hin,hk0,ya,yW hin,yci (by omega),ya,OG,ya,yW hin,hb0,ya,yW hin,hv,ya];by_cases c1:v < 0
  .rw[yW (yY c1)];exact .inr ⟨_,rfl,.inl ⟨_,rfl⟩⟩
  rw[yX (show¬ah (v < 0)=af by rw[yN];exact c1),yW hin,ya];by_cases c2:v > 1099511627776
  .rw[yW (yY c2)];exact .inr ⟨_,rfl,.inl ⟨_,rfl⟩⟩
  have ha0:=h.a0;have ha1:=h.a1;rw[yX (show¬ah (v > 1099511627776)=af by rw[yN];exact c2),yW hin,ya,ZO (by omega),Yb (z:=ch.2.1+v) (by omega) (by omega)];refine .inl ⟨_,rfl,_,_,rfl,by rw[List.length_set];exact h.kl,λj kt' hj hjk=> ?_,h.id,h.no,by show 0<=ch.2.1+v;omega,by show ch.2.1+v<=((k+1:Nat):Int)*1099511627776;push_cast;omega,by show(ch.2.2.1.set k (gg kt)).length=2;rw[List.length_set];exact h.b,h.t,h.op⟩;by_cases c:j=k
  .subst c;rw[yci (by omega)]at hjk;cases hjk;exact k2
  .rw[List.getElem?_set_ne (Ne.symm c)]at hjk;exact h.kk j kt' (by omega) hjk
 .rintro _ ⟨kits,ch,rfl,h⟩;unfold YC;dsimp only;rw[yX (show¬ah (((2:Nat):Int) < 2)=af by decide)];exact⟨_,rfl,.inr ⟨kits,ch,rfl,h⟩⟩
structure Two(ch:Chan)(k0 k1:cU)(s0 s1:aq):Prop where
 w:fu ch
 id:ch.1.1.length=32
 kk0:il k0
 kk1:il k1
 ss0:∃f g p,fI ch k0 0 f g p s0
 ss1:∃f g p,fI ch k1 1 f g p s1
theorem ZLT{x:aH}(hx:jt x):∃r,WD yD x=ab r/\(r=.inl ag\/∃s0 s1 ch k0 k1,r=.inr (af,[],[],s0,s1)/\Two ch k0 k1 s0 s1):=by
 have no:∃r:Bool⊕(Bool×(yL go)×(yL go)×aq×aq),ab (.inl ag)=ab r/\(r=.inl ag\/∃s0 s1 ch k0 k1,r=.inr (af,[],[],s0,s1)/\Two ch k0 k1 s0 s1):=⟨_,rfl,.inl rfl⟩;unfold WD;have pu:dz.length=32:=rfl;generalize dz=z at pu ⊢;obtain⟨r,r1,r2⟩:=ZNL hx (kits:=[(0,0,0,0,0,z),(0,0,0,0,0,z)]) (ch:=((z,0),0,[(0,0,0,0,0),(0,0,0,0,0)],x.2.1,x.2.2.2.1)) ⟨rfl,λj kt h=>by omega,pu,rfl,Int.le_refl _,by show(0:Int)<=_;omega,rfl,hx.terms,rfl⟩;rw[r1,ya];rcases r2 with⟨y,rfl⟩|⟨kits,ch,rfl,h⟩
 .exact no
 dsimp only;have hkl:=h.kl;obtain⟨k0,k1,rfl⟩:=pz hkl;have g0:=h.kk 0 k0 (by decide) rfl;have g1:=h.kk 1 k1 (by decide) rfl;have hop:=h.op;have ha0:=h.a0;have ha1:=h.a1;have hno:=h.no;have ho0:=hx.o0;have ho1:=hx.o1;have w:fu ch:=⟨h.b,h.t,by omega,by omega,by omega,by omega,by omega,by omega⟩;have hf:((0,x.2.2.1,[],x.2.2.2.2):yG).2.1.length=2:=hx.gc;obtain⟨p00,a1,_⟩:=tf g0 (no:=0) (by omega) (by omega);obtain⟨p10,b1,_⟩:=tf g1 (no:=0) (by omega) (by omega);obtain⟨p11,b2,_⟩:=tf g1 (no:=1) (by omega) (by omega);obtain⟨p01,a2,_⟩:=tf g0 (no:=1) (by omega) (by omega);obtain⟨c0,e0,n0,m1,m2,m3,_⟩:=OI w h.id (s:=(0,x.2.2.1,[],x.2.2.2.2)) hf 0 p00;obtain⟨c1,e1,n1,q1,q2,q3,_⟩:=OI w h.id (s:=(0,x.2.2.1,[],x.2.2.2.2)) hf 1 p10;obtain⟨gm,s1⟩:=OF k1.1 m3;obtain⟨sg1,s2⟩:=OF k0.1 q3;obtain⟨r0,n01,n02⟩:=ZLP w h.id g0 (me:=0) (.inl rfl) (first:=(0,x.2.2.1,[],x.2.2.2.2)) hf gm (p0:=p10) (p1:=p11)
 obtain⟨r3,n11,n12⟩:=ZLP w h.id g1 (me:=1) (.inr rfl) (first:=(0,x.2.2.1,[],x.2.2.2.2)) hf sg1 (p0:=p00) (p1:=p01)
 rw[show([k0,k1]:yL cU)[0]? =ab k0 from rfl,show([k0,k1]:yL cU)[1]? =ab k1 from rfl]
 simp only[ya,a1,b1,b2,m1,m2,s1,n01];rcases n02 with⟨e,rfl⟩|⟨sd,rfl,N0⟩
 .dsimp only;split <;> exact no
 dsimp only;rw[yX (show¬((0:Int)!=0)=af by decide)];simp only[a2,q1,q2,s2,n11,ya];rcases n12 with⟨e,rfl⟩|⟨sd',rfl,N1⟩
 .dsimp only;split <;> exact no
 dsimp only;rw[yX (show¬((0:Int)!=0)=af by decide)];exact⟨_,rfl,.inr ⟨sd,sd',ch,k0,k1,rfl,w,h.id,g0,g1,⟨_,_,_,N0⟩,⟨_,_,_,N1⟩⟩⟩
theorem ZP0{ch:Chan}{k0 k1:cU}{s0 s1:aq}(T:Two ch k0 k1 s0 s1):∃q sg,OM yD s0=ab ((ch,k0,0,0,0),s0)/\YL yD ch 0=ab q/\q.length=32/\js (B k0.1.toNat) q sg=af/\
 wH yD (ch,k0,0,0,0)=ab (12,ch.1.2,0,(0,0,0,0,0),0,[],0,sg,ch.1.1,0,([],[],0),(0,0,0,0,0),(0,0,0,0,0,0),[]):=by
 obtain⟨f,g,p,N⟩:=T.ss0;have hn:=N.num
 have hr:xQ (ch,k0,0,0,0)=af:=by
  unfold xQ;rw[yN];exact⟨λe he=>(T.kk0.key e he).2,N.fit,⟨by show(0:Int)<=0;omega,by show(0:Int)<=1;omega⟩,N.bas,⟨by show(0:Int)<=0;omega,by show(0:Int)<=1048576;omega⟩,by show(0:Int)<=0;omega,by show(0:Int)<=1048576;omega⟩
 obtain⟨q,q1,q2⟩:=ZwF (ch:=ch) (me:=0) T.id (by omega) (by omega) (by omega) (by omega);obtain⟨sg,g1,g2⟩:=ZHp (T.kk0.key k0.1 (by simp[te])) q2;rw[Zy5 _ q2]at g2;refine⟨q,sg, ?_,q1,q2,yax g2, ?_⟩
 .obtain⟨kept,rfl⟩:=N.is;rfl
 .unfold wH;rw[ZIG T.w,ya,hr,yX (show¬(!true)=af by decide)];dsimp only;rw[q1,ya,g1,ya]
theorem ZLU{x:aH}(hx:jt x)(m:go)(by_:yU):YK yD x m by_=ab af:=by
 unfold YK;rw[ya];obtain⟨r,r1,r2⟩:=ZLT hx;rw[r1,ya];rcases r2 with rfl|⟨s0,s1,ch,k0,k1,rfl,T⟩
 .rfl
 dsimp only;rw[yX (show¬(!true)=af by decide)];obtain⟨q,sg,o1,q1,q2,q3,q4⟩:=ZP0 T;obtain⟨f0,g0,p0,N0⟩:=T.ss0;obtain⟨f1,g1,p1,N1⟩:=T.ss1;rw[o1,ya];dsimp only;rw[q4,ya];dsimp only;have hb:=N0.bas;obtain⟨t1,e1,a1,a2⟩:=xV T.w T.id N1 (12,ch.1.2,0,(0,0,0,0,0),0,[],0,sg,ch.1.1,0,([],[],0),(0,0,0,0,0),(0,0,0,0,0,0),[])
 have he1:e1=0:=by
  rcases a2 with⟨h,_⟩|⟨_,b,q',h1,h2,_,h3⟩
  .exact absurd ⟨rfl,rfl,rfl,rfl⟩ h
  .have h1:ch.2.2.1[(0:Int).toNat]? =ab b:=h1;rw[hb]at h1;have h2:YL yD ch 0=ab q':=h2;rw[q1]at h2;have h1:=yax h1;have h2:=yax h2;subst h1;subst h2;rcases h3 with⟨_,h⟩|⟨h,_⟩
   .exact h
   .rw[show(gg k0).1=B k0.1.toNat from rfl]at h
    dsimp only at h;rw[q3]at h;cases h
 obtain⟨t2,e2,b1,b2⟩:=xV T.w T.id N0 (12,ch.1.2,0,(0,0,0,0,0),0,[],0,sg,ch.1.1,0,([],[],0),(0,0,0,0,0),(0,0,0,0,0,0),[])
 have he2:e2=1:=by
  rcases b2 with⟨_,h,_⟩|⟨h,_⟩
  .exact h
  .have h4:(0:Int)=1 - 0:=h.2.2.2;omega
 obtain⟨t3,e3,c1,c2⟩:=xV T.w T.id N1 (12,ch.1.2,0,(0,0,0,0,0),0,[],0,(sg.1,sg.2+by_),ch.1.1,0,([],[],0),(0,0,0,0,0),(0,0,0,0,0,0),[])
 have he3:by_≠0->e3=7:=by
  intro hby;rcases c2 with⟨h,_⟩|⟨_,b,q',h1,h2,_,h3⟩
  .exact absurd ⟨rfl,rfl,rfl,rfl⟩ h
  .have h1:ch.2.2.1[(0:Int).toNat]? =ab b:=h1;rw[hb]at h1;have h2:YL yD ch 0=ab q':=h2;rw[q1]at h2;have h1:=yax h1;have h2:=yax h2;subst h1;subst h2;rcases h3 with⟨h,_⟩|⟨_,h,_⟩
   .have h4:js (B k0.1.toNat) q (sg.1,sg.2)=af:=q3;have h5:=ZNz h4 h;refine absurd ?_ hby;have h6:sg.2+by_=sg.2+0:=by rw[<-h5,UInt64.add_zero]
    exact(UInt64.add_right_inj _).1 h6
   .exact h
 obtain⟨t4,e4,d1,d2⟩:=xV T.w T.id N1 m
 have hfit:xU ch 1 m↔m.1=12/\m.2.2.2.2.2.2.2.2.1=ch.1.1/\m.2.1=ch.1.2/\m.2.2.1=0:=by
  unfold xU;rw[show(1:Int) - 1=0 from rfl]
 rw[hfit]at d2
 have d3:(¬(m.1=12/\m.2.2.2.2.2.2.2.2.1=ch.1.1/\m.2.1=ch.1.2/\m.2.2.1=0)->e4=1)/\(e4≠0->t4=([],[],0)):=by
  rcases d2 with⟨h,h1,h2⟩|⟨h,b,q',_,_,_,h3⟩
  .exact⟨λ_=>h1,λ_=>h2⟩
  .refine⟨λk=>absurd h k,λk=> ?_⟩;rcases h3 with⟨_,h4⟩|⟨_,_,h4⟩
   .exact absurd h4 k
   .exact h4
 obtain⟨d4,d5⟩:=d3;rw[a1,ya,b1,ya];dsimp only;rw[c1,ya];dsimp only;rw[d1,ya];dsimp only
 have hlast:(if(e4==0)=af then ab af else ab ((t4.1.length:Int)==0))=ab af:=by
  by_cases h:e4=0
  .rw[yW (beq_iff_eq.2 h)]
  .rw[yX (λk=>h (beq_iff_eq.1 k)),d5 h];rfl
 rw[he1,he2];have k1:((0:Int)==0)=af:=rfl;have k2:((1:Int)==1)=af:=rfl;simp only[if_true,k1,k2]
 have hby:(if(by_==0)=af then(if(e4==1)=af then(if(e4==0)=af then ab af else ab ((t4.1.length:Int)==0)) else ab ag) else if(e3==7)=af then(if(e4==1)=af then(if(e4==0)=af then ab af else ab ((t4.1.length:Int)==0)) else ab ag) else ab ag)=ab af\/m.1=12/\m.2.2.2.2.2.2.2.2.1=ch.1.1/\m.2.1=ch.1.2/\m.2.2.1=0:=by
  by_cases hf:m.1=12/\m.2.2.2.2.2.2.2.2.1=ch.1.1/\m.2.1=ch.1.2/\m.2.2.1=0
  .exact .inr hf
  .left;rw[hlast,yW (beq_iff_eq.2 (d4 hf))];by_cases h:by_=0
   .rw[yW (beq_iff_eq.2 h)]
   .rw[yX (λk=>h (beq_iff_eq.1 k)),yW (beq_iff_eq.2 (he3 h))]
 have hyes:(if(by_==0)=af then(if(e4==0)=af then ab af else ab ((t4.1.length:Int)==0)) else if(e3==7)=af then(if(e4==0)=af then ab af else ab ((t4.1.length:Int)==0)) else ab ag)=ab af:=by
  rw[hlast];by_cases h:by_=0
  .rw[yW (beq_iff_eq.2 h)]
  .rw[yX (λk=>h (beq_iff_eq.1 k)),yW (beq_iff_eq.2 (he3 h))]
 by_cases f1:m.1=12
 .rw[yW (beq_iff_eq.2 f1)];by_cases f2:m.2.2.2.2.2.2.2.2.1=ch.1.1
  .rw[yW (yY f2)];by_cases f3:m.2.1=ch.1.2
   .rw[yW (beq_iff_eq.2 f3)];by_cases f4:m.2.2.1=0
    .simp only[beq_iff_eq.2 f4,if_true];exact hyes
    .rw[yX (λk=>f4 (beq_iff_eq.1 k))];exact hby.resolve_right λh=>f4 h.2.2.2
   .rw[yX (λk=>f3 (beq_iff_eq.1 k))];exact hby.resolve_right λh=>f3 h.2.2.1
  .rw[yX (λk=>f2 (yF k))];exact hby.resolve_right λh=>f2 h.2.1
 .rw[yX (λk=>f1 (beq_iff_eq.1 k))];exact hby.resolve_right λh=>f1 h.1
end Go.Proofs.YtekdgjajmennjaaGreat
end
