/- Parts of the proof, in one file. -/
import Derived.Test.YtdhclndplbopgaaGreatKi
open List renaming getElem?_eq_getElem → yab, getElem_of_mem → ybx
open Option renaming bind_some → ya
set_option linter.unusedVariables false
set_option linter.unusedSimpArgs false
section
set_option maxRecDepth 4000
namespace Go.Proofs.YtdhclndplbopgaaGreat
open Go Go.Ev
noncomputable section
def Y3(F:Nat)(a0:Chan)(a1:yG)(a2:Int)(a3:Int)(a4:yU)(a5:Kit)(a6:Tx)(a7:Sig)(a8:Sig):yO (Bool):=
 ((some true)).bind λo1432=>
 (Zak F a1 a6).bind λo1433=>
 if(!o1433)=true then
  some o1432
 else
 if(decide (a1.2.2.2 < (-1000)))=true then
  some o1432
 else
 if(decide (a1.2.2.2 > 2000))=true then
  some o1432
 else
 (WS F a0 a1 a2 a4).bind λo1434=>
 (Yk F a0 a1 a2 a4).bind λo1435=>
 (ZeH F a6).bind λo1436=>
 (Qd F a6).bind λo1437=>
 (QS F o1434.1 o1435.1).bind λo1438=>
 (Zg2 F a6 a7 a8).bind λo1439=>
 (QT F a6 a7 a8).bind λo1440=>
 (Wl F o1439 o1440).bind λo1441=>
 (ZbG F a0).bind λo1442=>
 (Vs F a0).bind λo1443=>
 (QU F o1442 o1443).bind λo1444=>
 if o1432=true then
  if o1438=true then
   if(o1434.2==o1435.2)=true then
    if o1441=true then
     if o1444=true then
      if(o1436.1==o1437.1)=true then
       if(o1436.2==o1437.2)=true then
        (Zg3 F a0 a1 a2 a3).bind λo1445=>
        (ZW F a0 a1 a2 a3).bind λo1446=>
        if(o1445==o1446)=true then
         (ZeK F a0 a1 a2 a4 a6).bind λo1447=>
         (Qh F a0 a1 a2 a4 a6).bind λo1448=>
         if(o1447==o1448)=true then
          (Zg6 F a5 a6).bind λo1449=>
          (QW F a5 a6).bind λo1450=>
          if(decide (o1449=o1450))=true then
           (Zg9 F o1434.1 o1435.1).bind λo1451=>
           some o1451
          else
          some false
         else
         some false
        else
        some false
       else
       some false
      else
      some false
     else
     some false
    else
    some false
   else
   some false
  else
  some false
 else
 some false
def Zhb(F:Nat):Fs Tryz.prog:=⟨3,[.v Zu,.v Zf,.v yI,.v yI,.v .u64,.v Zeq,.v yTx,.v X5,.v X5],[],[Zu,Zf,yI,yI,.u64,Zeq,yTx,X5,X5],(zN .bool),λx=>Y3 F x.1 x.2.1 x.2.2.1 x.2.2.2.1 x.2.2.2.2.1 x.2.2.2.2.2.1 x.2.2.2.2.2.2.1 x.2.2.2.2.2.2.2.1 x.2.2.2.2.2.2.2.2⟩
def Ziy:Fs Tryz.prog:=Zhb yD
def ZSA:HI:={ still:=[18,32,33,48,49,50,51,56,57,58,59,64,69,73,74,76,77,78,79,80,81,82,83,85,86,87,88,116,117,118,119,121,122,123,124,129,130,131,132,133,135,136,137,138,139,144,145,147,148,153,154]}
theorem Zhc:Ziy.Ok:=fnO ZSA [] [ZPo,Zik,Zjy,Zbm,Zol,ZfC,Zgr,ZqV,Zgs,Zbn,Zkz,Zc7,Zgt,ZqW,Zbj,Zos,ZfN,Zq0,Zgy,Zq6] ⟨ZQ3,Zqc,Zh5,ZfB,ZmK,Znm,ZoV,Zop,ZoX,ZfH,Zjc,Zk0,ZoZ,Zoq,Zfu,ZmN,Znu,Zou,Zo7,Zy1,ytt⟩
end
end Go.Proofs.YtdhclndplbopgaaGreat
end
section
set_option maxRecDepth 4000
namespace Go.Proofs.YtdhclndplbopgaaGreat
open Go Go.Ev
theorem ZF6(s:yG)(t:Tx)(i:Int){l:yL Zn}(hl:l.length<=6):∃x,Zb (YJ yD) yD (i,l,(0:Int),s,t)=some x/\((∀b,b∈l->b.1.length<=20)/\x=.inr (i,s,t)\/(¬∀b,b∈l->b.1.length<=20)/\x=.inl (false,s,t)):=by
 obtain⟨x,x1,x2⟩:=Zcn (step:=YJ yD) l.length (λk:Nat=>(i,l,(k:Int),s,t)) (λk=>∀b,l[k]? =some b->b.1.length<=20) (Sum.inr (i,s,t)) (λ_=>Sum.inl (false,s,t)) (by
  intro k hk _ hok;obtain⟨b,hb,_⟩:=Zg hk;have:=hok b hb;unfold YJ;dsimp only;rw[yW (ZF hk),Zp hb,ya,yX (ynd (by omega)),Zo (by omega)]) (by
  intro k hk _ hno;obtain⟨b,hb,_⟩:=Zg hk;unfold YJ;dsimp only;rw[yW (ZF hk),Zp hb,ya];by_cases c:(b.1.length:Int) > 20
  ·rw[yW (yY c)]
  ·refine absurd ?_ hno;intro b' hb';rw[hb] at hb';cases hb';omega) (by
  intro _;unfold YJ;dsimp only;rw[yX (by rw[Zz];decide)]) (by omega)
 refine⟨x,x1, ?_⟩;rcases x2 with⟨h,rfl⟩|⟨h,_,rfl⟩
 ·refine .inl ⟨λb hb=> ?_,rfl⟩;obtain⟨j,j1,j2⟩:=ybx hb;exact h j j1 b (by rw[yab j1,j2])
 ·exact .inr ⟨λq=>h λj hj b hb=>q b (List.mem_of_getElem? hb),rfl⟩
theorem ZQ4(s:yG)(t:Tx):∃b,Zak yD s t=some b/\(b=true->s.2.2.1.length<=20/\TxF t):=by
 unfold Zak;by_cases c1:(s.2.2.1.length:Int) > 20
 ·rw[yW (yY c1)];exact⟨_,rfl,λh=>by cases h⟩
 rw[yX (by rw[yN];exact c1)];by_cases c2:(t.1.length:Int) > 70
 ·rw[yW (yY c2)];exact⟨_,rfl,λh=>by cases h⟩
 rw[yX (by rw[yN];exact c2)];by_cases c3:(t.2.1.length:Int) > 70
 ·rw[yW (yY c3)];exact⟨_,rfl,λh=>by cases h⟩
 rw[yX (by rw[yN];exact c3)]
 obtain⟨x,x1,x2⟩:=Zcn (step:=YI yD) t.1.length (λk:Nat=>((k:Int),s,t)) (λk=>∀y,t.1[k]? =some y->y.2.2.1.length<=20) (Sum.inr (s,t)) (λ_=>Sum.inl (false,s,t)) (by
  intro k hk _ hok;obtain⟨y,hy,_⟩:=Zg hk;have:=hok y hy;unfold YI;dsimp only;rw[yW (ZF hk),Zp hy,ya,yX (ynd (by omega)),Zo (by omega)]) (by
  intro k hk _ hno;obtain⟨y,hy,_⟩:=Zg hk;unfold YI;dsimp only;rw[yW (ZF hk),Zp hy,ya];by_cases c:(y.2.2.1.length:Int) > 20
  ·rw[yW (yY c)]
  ·refine absurd ?_ hno;intro b' hb';rw[hy] at hb';cases hb';omega) (by
  intro _;unfold YI;dsimp only;rw[yX (by rw[Zz];decide)]) (by omega)
 have x1:Zb (YI yD) yD ((0:Int),s,t)=_:=x1;rw[x1,ya];rcases x2 with⟨h,rfl⟩|⟨_,_,rfl⟩
 ·dsimp only
  obtain⟨y,y1,y2⟩:=Zcn (step:=YK yD) t.2.1.length (λk:Nat=>((k:Int),s,t)) (λk=>∀o,t.2.1[k]? =some o->o.2.length<=6/\∀b,b∈o.2->b.1.length<=20) (Sum.inr (s,t)) (λ_=>Sum.inl (false,s,t)) (by
   intro k hk _ hok;obtain⟨o,ho,_⟩:=Zg hk;obtain⟨o1,o2⟩:=hok o ho;unfold YK;dsimp only;rw[yW (ZF hk),Zp ho,ya,yX (ynd (by omega))];obtain⟨x,x1,⟨_,rfl⟩|⟨q,_⟩⟩:=ZF6 s t (k:Int) o1
   ·rw[x1,ya];dsimp only;rw[Zo (by omega)]
   ·exact absurd o2 q) (by
   intro k hk _ hno;obtain⟨o,ho,_⟩:=Zg hk;unfold YK;dsimp only;rw[yW (ZF hk),Zp ho,ya];by_cases c:(o.2.length:Int) > 6
   ·rw[yW (yY c)]
   ·rw[yX (by rw[yN];exact c)];obtain⟨x,x1,⟨h,rfl⟩|⟨_,rfl⟩⟩:=ZF6 s t (k:Int) (l:=o.2) (by omega)
    ·refine absurd ?_ hno;intro o' ho';rw[ho] at ho';cases ho';exact⟨by omega,h⟩
    ·rw[x1,ya]) (by
   intro _;unfold YK;dsimp only;rw[yX (by rw[Zz];decide)]) (by omega)
  have y1:Zb (YK yD) yD ((0:Int),s,t)=_:=y1;rw[y1,ya];rcases y2 with⟨h',rfl⟩|⟨_,_,rfl⟩
  ·refine⟨_,rfl,λ_=>⟨by omega,by omega,by omega,λx hx=> ?_,λo ho=> ?_⟩⟩
   ·obtain⟨j,j1,j2⟩:=ybx hx;exact h j j1 x (by rw[yab j1,j2])
   ·obtain⟨j,j1,j2⟩:=ybx ho;exact h' j j1 o (by rw[yab j1,j2])
  ·exact⟨_,rfl,λh=>by cases h⟩
 ·exact⟨_,rfl,λh=>by cases h⟩
theorem ZKr{ch:Chan}(w:ChWf ch)(hh:ch.1.1.length=32){s:yG}(hs:s.2.1.length=2)(side of:Int)(per:yU)(k:Kit){t:Tx}(hw:ZFL t)(a b:Sig):Y3 yD ch s side of per k t a b=some true:=by
 obtain⟨f,f1,f2⟩:=ZQ4 s t;unfold Y3;rw[ya,f1,ya]
 cases f with
 |false=>rw[yW (by decide)]
 |true=>
  obtain⟨_,tf⟩:=f2 rfl;rw[yX (by decide)];by_cases c1:s.2.2.2 < (-1000)
  ·rw[yW (yY c1)]
  ·rw[yX (show¬decide (s.2.2.2 < (-1000))=true by rw[yN];exact c1)];by_cases c2:s.2.2.2 > 2000
   ·rw[yW (yY c2)]
   ·rw[yX (show¬decide (s.2.2.2 > 2000)=true by rw[yN];exact c2)];obtain⟨c,e,m1,m2,m3⟩:=ZBm w hs side per;obtain⟨p,p1,p2⟩:=ZHF t;obtain⟨z1,z2⟩:=ZNp m3;obtain⟨x,y,q1,q2⟩:=ZDK w;obtain⟨r,r1,r2⟩:=ZKi w hs side of;obtain⟨kn,k1,k2⟩:=ZHI w hh hs side per tf.txl hw;obtain⟨g,g1,g2⟩:=ZNj k tf.txl hw;rw[m1,m2,ya,ya,p1,p2,ya,ya,z1,ya,ZOW tf,ZNl tf,ya,ya,ZNq tf,ya,q1,q2,ya,ya,ZHL (by simp) (by intro b hb;rw[List.mem_singleton.1 hb];simp),ya];rw[yW rfl,yW rfl,yW (beq_self_eq_true _),yW rfl,yW rfl,yW (beq_self_eq_true _),yW (beq_self_eq_true _),r1,r2,ya,ya,yW (beq_self_eq_true _),k1,k2,ya,ya,yW (beq_self_eq_true _),g1,g2,ya,ya,yW (yY rfl),z2,ya]
end Go.Proofs.YtdhclndplbopgaaGreat
end
