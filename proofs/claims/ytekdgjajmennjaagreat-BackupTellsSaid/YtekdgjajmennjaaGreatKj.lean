/- Parts of the proof, in one file. -/
import Derived.Test.YtekdgjajmennjaaGreatKi
open Option renaming some → ab, none → ae
open Bool renaming true → af, false → ag
open Decidable renaming decide → ah
open Bool renaming and_eq_true → yi
open Go.Proofs.Tryz renaming prog → yb
open Int renaming toNat_natCast → yap
open List renaming length_append → yl, getElem?_eq_some_iff → yo, replicate → yw, length_take → yx, nil_append → yy, length_map → yab, getElem?_eq_getElem → yac, append_assoc → yad, take_length → yai, map_append → yao, append_nil → yar, mem_singleton → yas, length_set → yba, getElem_of_mem → ybg, getElem?_eq_none → ybl, getElem?_cons_zero → ybm, mem_cons → ybo, take_of_length_le → ybs, getElem?_set_self → ycj, not_mem_nil → ycm
open Nat renaming le_refl → yj, mod_eq_of_lt → yaf, mul_comm → ybi, le_trans → ybk, two_pow_add_eq_or_of_lt → ycw
open Option renaming bind_some → ya
open Option.some renaming inj → yaw
open UInt64 renaming ofNat → yv, toNat_ofNat' → yan
set_option linter.unusedVariables false
set_option linter.unusedSimpArgs false
section
set_option maxRecDepth 4000
namespace Go.Proofs.YtekdgjajmennjaaGreat
open Go Go.Ev
noncomputable section
def uA:HI:={ still:=[12,48,51,52,57,58,63,64,69,70,74,76,79,80,81,82,87,88,89,90,94,95,103,114,116,161,162,163,164,165,166,170,171]}
instance axn:DecidableEq (yU×yU×aSl):=inferInstance
instance axo:DecidableEq (yU×yU×yU×yU×aSl):=inferInstance
instance axp:DecidableEq dV:=inferInstance
instance axq:DecidableEq aN:=inferInstance
instance axr:DecidableEq aX:=inferInstance
instance axs:DecidableEq ((yL aX)×Int):=inferInstance
instance axt:DecidableEq ((yL aN)×(yL aX)×Int):=inferInstance
instance axu:DecidableEq Chan:=inferInstance
instance axv:DecidableEq (dV×Int×Int×Int):=inferInstance
instance axw:DecidableEq aj:=inferInstance
def Xu(F:Nat):(aSl×Int×Bool×aSl×aj×Tx×ZG)->yO (aSl×Int×Bool×Bool×aSl×aj×Tx×ZG)
 |(a,b,c,d,e,f,g)=>
 if(ah ((a.length:Int) > 1000))=af then
  ab (a,b,c,af,d,e,f,g)
 else
 if(ah ((f.2.1.length:Int) > 20))=af then
  ab (a,b,c,af,d,e,f,g)
 else
 ab (a,b,c,ah ((f.1.length:Int) > 20),d,e,f,g)
abbrev zQ:List bf:=[.var (.v aSn) af,.var (.v Zc) af,.var (.v ax) af,.var (.v Zk) af]
def Za3:Lp:=⟨[(2,.v aSm),(5,.v yI),(6,.am 0 []),(7,.am 1 []),(9,.am 2 []),(10,.am 3 []),(13,.v .bool)],zQ,[aSm,yI,.bool,aSn,Zc,ax,Zk],[⟨.normal,[(2,.v aSm),(5,.v yI),(6,.am 0 []),(7,.am 1 []),(9,.am 2 []),(10,.am 3 []),(13,.v .bool),(46,.v .bool)],zQ,[aSm,yI,.bool,.bool,aSn,Zc,ax,Zk]⟩],Xu yD⟩
theorem Zft:Za3.Is yb (gk yb 3) (oi (Q1 yb 3) 3):=xh 0 3 uA [] [] trivial
abbrev ZVJ:Type:=(Bool×aSl×Int×aSl×Int×Bool×Bool×Int×Int×aSl×aj×Tx×ZG×aj×aj×aj×fJ×fJ×Tx×Tx)
abbrev ZUT:Type:=(Bool×Int×Int×Bool×aSl×aj×Tx×ZG×aj×aj×aj×fJ×fJ×Tx×Tx)
def Xv(F:Nat):ZVJ->yO ZUT
 |(a,b,c,d,e,f,g,h,i,j,k,l,m,n,o,p,q,r,t,u)=>
 (Vz F b d).bind λs=>
 if s=af then
  if(c==e)=af then
   (BL F o).bind λv=>
   if(ah (v=p))=af then
    if(f==g)=af then
     (XW F k).bind λw=>
     (YA F n).bind λx=>
     ab (a,h,i,w==x,j,k,l,m,n,o,p,q,r,t,u)
    else
    ab (a,h,i,ag,j,k,l,m,n,o,p,q,r,t,u)
   else
   ab (a,h,i,ag,j,k,l,m,n,o,p,q,r,t,u)
  else
  ab (a,h,i,ag,j,k,l,m,n,o,p,q,r,t,u)
 else
 ab (a,h,i,ag,j,k,l,m,n,o,p,q,r,t,u)
def qC:yL bf:=[.var (.v aSn) af,.var (.v Zc) af,.var (.v ax) af,.var (.v Zk) af,.var (.v Zc) af,.var (.v Zc) af,.var (.v Zc) af,.var (.v iW) af,.var (.v iW) af,.var (.v ax) af,.var (.v ax) af]
abbrev ZUU:yL Ty:=[.bool,yI,yI,.bool,aSn,Zc,ax,Zk,Zc,Zc,Zc,iW,iW,ax,ax]
abbrev ZVK:yL Ty:=[.bool,aSm,yI,aSm,yI,.bool,.bool,yI,yI,aSn,Zc,ax,Zk,Zc,Zc,Zc,iW,iW,ax,ax]
def Za4:Lp:=⟨[(7,.am 1 []),(9,.am 2 []),(13,.v .bool),(14,.am 4 []),(15,.v aSm),(16,.v yI),(17,.v aSm),(18,.v yI),(19,.am 5 []),(20,.v .bool),(21,.am 6 []),(22,.v .bool),(23,.am 7 []),(24,.am 8 []),(25,.am 9 []),(26,.v yI),(27,.am 10 []),(28,.v yI)],qC,ZVK,[⟨.normal,[(7,.am 1 []),(9,.am 2 []),(13,.v .bool),(14,.am 4 []),(23,.am 7 []),(24,.am 8 []),(25,.am 9 []),(26,.v yI),(27,.am 10 []),(28,.v yI),(29,.v .bool)],qC,ZUU⟩],Xv yD⟩
theorem Zfu:Za4.Is yb (gk yb 3) (oi (Q1 yb 3) 14):=xh 0 3 uA [] [SN,RK,QA,XK] ⟨ZgC,ZjO,tE,Wl,ao⟩
abbrev ZUV:Type:=(Bool×Int×Int×Bool×Bool×aSl×aj×Tx×ZG×aj×aj×aj×fJ×fJ×Tx×Tx)
def Xw(F:Nat):ZUT->yO ZUV
 |(a,b,c,d,e,f,g,h,i,j,k,l,m,n,o)=>
 if(l.1==m.1)=af then
  if(l.2.1==m.2.1)=af then
   if(l.2.2.1==m.2.2.1)=af then
    let p:Bool:=ah (l.2.2.2.2.2.2.2.2.1=m.2.2.2.2.2.2.2.2.1)
    if p=af then
     let q:Bool:=ah (l.2.2.2.2.2.2.2.1=m.2.2.2.2.2.2.2.1)
     ab (a,b,c,d,q,e,f,g,h,i,j,k,l,m,n,o)
    else
    ab (a,b,c,d,ag,e,f,g,h,i,j,k,l,m,n,o)
   else
   ab (a,b,c,d,ag,e,f,g,h,i,j,k,l,m,n,o)
  else
  ab (a,b,c,d,ag,e,f,g,h,i,j,k,l,m,n,o)
 else
 ab (a,b,c,d,ag,e,f,g,h,i,j,k,l,m,n,o)
abbrev ZUW:yL Ty:=[.bool,yI,yI,.bool,.bool,aSn,Zc,ax,Zk,Zc,Zc,Zc,iW,iW,ax,ax]
def Za5:Lp:=⟨[(7,.am 1 []),(9,.am 2 []),(13,.v .bool),(14,.am 4 []),(23,.am 7 []),(24,.am 8 []),(25,.am 9 []),(26,.v yI),(27,.am 10 []),(28,.v yI),(29,.v .bool)],qC,ZUU,[⟨.normal,[(7,.am 1 []),(9,.am 2 []),(13,.v .bool),(14,.am 4 []),(25,.am 9 []),(26,.v yI),(27,.am 10 []),(28,.v yI),(29,.v .bool),(30,.v .bool)],qC,ZUW⟩],Xw yD⟩
theorem Zfv:Za5.Is yb (gk yb 3) (oi (Q1 yb 3) 15):=xh 0 3 uA [] [] trivial
abbrev ZVL:Type:=(Bool×aSl×aj×Tx×ZG×aj×aj×aj×fJ×fJ×Tx×Tx)
def Xx(F:Nat):ZUV->yO ZVL
 |(a,b,c,d,e,f,g,h,i,j,k,l,m,n,o,p)=>
 if a=af then
  if d=af then
   if e=af then
    (qg F g h).bind λq=>
    (Wc F j h).bind λr=>
    (CD F q r).bind λs=>
    if s=af then
     (WD F o p).bind λt=>
     if t=af then
      ab (b==c,f,g,h,i,j,k,l,m,n,o,p)
     else
     ab (ag,f,g,h,i,j,k,l,m,n,o,p)
    else
    ab (ag,f,g,h,i,j,k,l,m,n,o,p)
   else
   ab (ag,f,g,h,i,j,k,l,m,n,o,p)
  else
  ab (ag,f,g,h,i,j,k,l,m,n,o,p)
 else
 ab (ag,f,g,h,i,j,k,l,m,n,o,p)
abbrev ZVM:yL Ty:=[.bool,aSn,Zc,ax,Zk,Zc,Zc,Zc,iW,iW,ax,ax]
def Za6:Lp:=⟨[(7,.am 1 []),(9,.am 2 []),(13,.v .bool),(14,.am 4 []),(25,.am 9 []),(26,.v yI),(27,.am 10 []),(28,.v yI),(29,.v .bool),(30,.v .bool)],qC,ZUW,[⟨.normal,[(12,.v .bool)],qC,ZVM⟩],Xx yD⟩
theorem Zfw:Za6.Is yb (gk yb 3) (oi (Q1 yb 3) 16):=xh 0 3 uA [] [OS,SY,ZhO,ZhQ] ⟨ZoE,ZeT,Zq0,Zq2,ao⟩
def Y4(F:Nat)(a0:aSl)(a1:aj)(a2:aSl)(a3:Tx)(a4:ZG)(a5:Int):yO (Bool):=
 ((ab af)).bind λs=>
 (Xu F (a2,a5,s,a0,a1,a3,a4)).bind λ(M,P,J,I,L,K,N,O)=>
 if I=af then
  ab J
 else
 (BL F K).bind λQ=>
 (zn F L K).bind λR=>
 (BS F L Q).bind λS=>
 (zq F L M).bind λT=>
 (BV F L M).bind λU=>
 (AA F K).bind λV=>
 (BZ F Q).bind λW=>
 (AY F K N O P).bind λX=>
 (Qx F Q N O P).bind λY=>
 (Xv F (J,R.1,R.2,S.1,S.2,T.2,U.2,X.2,Y.2,L,K,N,O,Q,T.1,U.1,V,W,X.1,Y.1)).bind λ(r,t,u,v,w,x,y,z,A,B,C,D,E,G,H)=>
 (Xw F (r,t,u,v,w,x,y,z,A,B,C,D,E,G,H)).bind λ(b,c,d,e,f,g,h,i,j,k,l,m,n,o,p,q)=>
 (Xx F (b,c,d,e,f,g,h,i,j,k,l,m,n,o,p,q)).bind λ(a,_,_,_,_,_,_,_,_,_,_,_)=>
 ab a
def Zkc:Fs yb:=⟨3,[.v aSn,.v Zc,.v aSm,.v ax,.v Zk,.v yI],[],[aSn,Zc,aSm,ax,Zk,yI],(zP .bool),λx=>Y4 yD x.1 x.2.1 x.2.2.1 x.2.2.2.1 x.2.2.2.2.1 x.2.2.2.2.2⟩
theorem Zir:Zkc.Ok:=pI (fi:={ hi:=uA,bk:=[(3,Za3),(14,Za4),(15,Za5),(16,Za6)]}) (aB:={ l:=[ZRT,RK,Zsr,ZhG,Zss,ZhJ,ZuV,Zj1,Zqt,ZgQ]}) (iw ⟨ZTK,ZjO,Zp9,ZqT,Zqc,ZqW,Zsx,Zr7,ZoM,Zps,ao⟩) (hb:=⟨Zft,Zfu,Zfv,Zfw,ao⟩)
end
end Go.Proofs.YtekdgjajmennjaaGreat
end
section
set_option maxRecDepth 4000
namespace Go.Proofs.YtekdgjajmennjaaGreat
open Go Go.Ev
theorem ZDm(a b:Int){l:yL Int}(hl:l.length<=100):Vr yD a b l=ab (ah (∀x,x∈l->a<=x/\x<=b)):=by
 obtain⟨x,h1,h2⟩:=Yn (step:=ZO yD) l.length (λk s=>s=(l,(l.length:Int),(k:Int),a,b)/\∀j x,j < k->l[j]? =ab x->a<=x/\x<=b)
  (λx=>(∃j:Nat,x=.inl ((j:Int),a,b))/\(¬∀x,x∈l->a<=x/\x<=b)\/x=.inr (a,b)/\∀x,x∈l->a<=x/\x<=b) (i:=(l,(l.length:Int),(0:Int),a,b)) ⟨rfl,λj x h=>by omega⟩ (by omega) (by
  rintro k _ hk ⟨rfl,hj⟩;obtain⟨x,hx,hm⟩:=Zf hk;unfold ZO xF;dsimp only;rw[yW (ZE hk),Zj hx,ya];by_cases c1:x < a
  .right;rw[yW (yY c1),ya];dsimp only;rw[yW rfl];exact⟨_,rfl,.inl ⟨⟨k,rfl⟩,λh=>by have:=h x hm;omega⟩⟩
  .rw[yX (show¬ah (x < a)=af by rw[yN];exact c1),ya];dsimp only;by_cases c2:x > b
   .right;rw[yW (yY c2)];exact⟨_,rfl,.inl ⟨⟨k,rfl⟩,λh=>by have:=h x hm;omega⟩⟩
   .left;rw[yX (show¬ah (x > b)=af by rw[yN];exact c2),Zn (by omega)];refine⟨_,rfl,rfl,λj y h hy=> ?_⟩;by_cases e:j=k
    .subst e;rw[hx]at hy;cases hy;omega
    .exact hj j y (by omega) hy) (by
  rintro _ ⟨rfl,hj⟩;unfold ZO;dsimp only;rw[yX (by rw[ZA];decide)];refine⟨_,rfl,.inr ⟨rfl,λx hx=> ?_⟩⟩;obtain⟨j,j1,j2⟩:=ybg hx;exact hj j x j1 (by rw[<-j2];exact yac j1))
 unfold Vr Xt Wh;rw[h1,ya];rcases h2 with⟨⟨j,rfl⟩,hn⟩|⟨rfl,h⟩
 all_goals simp_all
def gB(k:dV):yL yU:=[k.1,k.2.1,k.2.2.1,k.2.2.2.1,k.2.2.2.2.1]
theorem ZJk{l:yL yU}(hl:l.length=5)(k:aj):∃x,Zb (Ys yD) yD (l,(5:Int),(0:Int),k)=ab x/\(x=.inl (ag,k)/\(¬∀e,e∈l->e.toNat < bO)\/x=.inr k/\∀e,e∈l->e.toNat < bO):=by
 refine Yn (step:=Ys yD) 5 (λi s=>s=(l,(5:Int),(i:Int),k)/\∀j e,j < i->l[j]? =ab e->e.toNat < bO) _ (i:=(l,(5:Int),(0:Int),k)) ⟨rfl,λj e h=>by omega⟩ (by omega) ?_ ?_
 .rintro i _ hi ⟨rfl,hj⟩;obtain⟨e,he,hm⟩:=Zf (l:=l) (k:=i) (by omega);unfold Ys;dsimp only;rw[yW (yY (by omega)),Zj he,ya,qq,ya];by_cases c:e.toNat < bO
  .left;rw[yY c,yX (by decide),Zn (by omega)]
   all_goals grind
  grind
 .rintro _ ⟨rfl,hj⟩;unfold Ys;dsimp only;rw[yX (show¬ah (((5:Nat):Int) < 5)=af by decide)];refine⟨_,rfl,.inr ⟨rfl,λe he=> ?_⟩⟩;obtain⟨j,j1,j2⟩:=ybg he;exact hj j e (by omega) (by rw[<-j2];exact yac j1)
open Classical in
noncomputable def jc(k:aj):Bool:=ah ((∀e,e∈gB k.2.1->e.toNat < bO)/\mH yD k.1=ab 0/\(0<=k.2.2.1/\k.2.2.1<=1)/\k.1.2.2.1[k.2.2.1.toNat]? =ab (dC k.2.1)/\(0<=k.2.2.2.1/\k.2.2.2.1<=1048576)/\0<=k.2.2.2.2/\k.2.2.2.2<=1048576)
theorem uB{k:aj}(w:dR k.1):XW yD k=ab (jc k):=by
 obtain⟨x,h1,h2⟩:=ZJk (l:=gB k.2.1) rfl k;unfold XW;rw[show[k.2.1.1,k.2.1.2.1,k.2.1.2.2.1,k.2.1.2.2.2.1,k.2.1.2.2.2.2.1]=gB k.2.1 from rfl,h1,ya]
 unfold jc;rcases h2 with⟨rfl,hk⟩|⟨rfl,hk⟩
 .grind
 dsimp only;obtain⟨e,e1,_⟩:=ZO8 w;rw[e1,ya];by_cases c0:e=0
 .rw[yW (beq_iff_eq.2 c0),ZDm 0 1 (by simp),ya];by_cases c2:0<=k.2.2.1/\k.2.2.1<=1
  .rw[yY (p:=∀x,x∈[k.2.2.1]->0<=x/\x<=1) λx hx=>by rw[yas.1 hx];exact c2,yW rfl,ZDl,ya,yW (ZV (by omega) (by omega))];obtain⟨bs,hb,_⟩:=Zf (l:=k.1.2.2.1) (k:=k.2.2.1.toNat) (by rw[w.b];omega);rw[hb,ya];by_cases c1:dC k.2.1=bs
   .rw[yW (yY c1),ZDm 0 1048576 (by simp),ya]
    all_goals simp_all
   .rw[yX (show¬ah (dC k.2.1=bs)=af by rw[yN];exact c1),yZ λh=>c1 (yaw h.2.2.2.1).symm]
  grind
 simp_all
def dW(l:yL yB):Nat->Nat
 |0=>0
 |k+1=>dW l k*256+((l[k]?).map UInt8.toNat).getD 0
theorem DA(l:yL yB):∀k,dW l k < 256 ^ k
 |0=>by simp[dW]
 |k+1=>by
  have:=DA l k
  have h:((l[k]?).map UInt8.toNat).getD 0 < 256:=by
   cases l[k]? with
   |none=>simp
   |some d=>exact d.toNat_lt
  rw[dW,Nat.pow_succ];omega
def QV(r:ai)(n:Nat):yL yB×ai:=if r.2=af\/r.1.length < n then([],([],af)) else(r.1.take n,(r.1.drop n,r.2))
theorem uC{n:Nat}{z:Int}(h0:0<=z)(h:z<=(n:Int)):Q0 n (ab z) ae=af:=by simp[Q0,h0,h]
theorem uD{n:Nat}{z:Int}(h0:0<=z)(h:z<=(n:Int)):Q0 n ae (ab z)=af:=by simp[Q0,h0,h]
theorem ZHy{l:yL yB}(h:l.length<=1000000000):Z2 yD l=ab l:=by
 unfold Z2;rw[yW (ZL (by omega) (by omega))]
theorem ZKV{z:Int}{r:ai}(h0:0<=z)(h:r.1.length<=2000000):V1 yD z r=ab (QV r z.toNat):=by
 obtain⟨b,no⟩:=r;obtain⟨n,rfl⟩:=Int.eq_ofNat_of_zero_le h0;unfold V1 QV V0;dsimp only at h ⊢;rw[yap];by_cases h1:no=af
 .grind
 by_cases h2:b.length < n
 .grind
 rw[yX h1,yX (cE (by omega)),yW (uD (by omega) (by omega)),ZHy (by rw[yx];omega),ya,yW (uC (by omega) (by omega)),yX (by rintro(h|h);exact h1 h;exact h2 h)]
theorem qG(r:ai)(n:Nat):(QV r n).1.length<=n/\(QV r n).2.1.length<=r.1.length:=by
 unfold QV
 all_goals grind
def QN(r:ai):yL yB×ai:=((QV r 32).1++yw (32 - (QV r 32).1.length) 0,(QV r 32).2)
theorem UP(r:ai):(QN r).1.length=32/\(QN r).2.1.length<=r.1.length:=by
 have hl:=qG r 32;unfold QN;grind
def Xy(r:ai):yU×ai:=(yv (dW (QV r 8).1 (QV r 8).1.length),(QV r 8).2)
theorem ZPf{l:yL yB}{k:Nat}{d:yB}(hk:k < 8)(hx:l[k]? =ab d):(QP (yv (dW l k)) 8)|||(yv d.toNat)=yv (dW l (k+1)):=by
 have h1:=DA l k;have h2:256 ^ k<=256 ^ 7:=Nat.pow_le_pow_right (by omega) (by omega);have h3:=d.toNat_lt;apply UInt64.toNat_inj.1;unfold QP
 rw[UInt64.toNat_or,yan,yan,yan,yan,yaf (a:=dW l k) (by omega),yaf (a:=d.toNat) (by omega),yaf (a:=dW l k*2 ^ 8) (by omega),dW,hx,
  ybi (dW l k) (2 ^ 8), <-ycw (by omega)]
 simp;omega
theorem ZRh{r:ai}(h:r.1.length<=2000000):ZW yD r=ab (Xy r):=by
 unfold ZW Xy;rw[ZKV (by omega) h,ya];have hl:=qG r 8;rw[show(8:Int).toNat=8 from rfl]
 generalize QV r 8=q at hl;obtain⟨l,s⟩:=q;dsimp only at hl ⊢
 rw[show((0:yU),l,(l.length:Int),(0:Int),s)=(λk:Nat=>(yv (dW l k),l,(l.length:Int),(k:Int),s)) 0 from rfl,
  Zu (x:=(yv (dW l l.length),s)) l.length (λk:Nat=>(yv (dW l k),l,(l.length:Int),(k:Int),s)) ?_ ?_ (by omega),ya]
 .intro k hk;obtain⟨e,he,_⟩:=Zf hk;unfold Qm;dsimp only;rw[yW (ZE hk),Zj he,ya,ZPf (by omega) he,Zn (by omega)]
 .unfold Qm;grind
theorem ZPg(r:ai):(Xy r).2.1.length<=r.1.length:=(qG r 8).2
def WE(b:yL yB):Nat->Nat->Nat->Bool×Nat×Nat
 |0,k,_=>(ag,0,k)
 |f+1,k,n=>match b[k]? with
  |none=>(ag,0,k)
  |some d=>if 8 < k\/(0 < k/\d.toNat=0) then(ag,0,k) else if d.toNat < 128 then(af,n+d.toNat % 128*128 ^ k,k+1) else WE b f (k+1) (n+d.toNat % 128*128 ^ k)
theorem uE{b:yL yB}{f k n:Nat}(h:b.length<=k):WE b (f+1) k n=(ag,0,k):=by
 simp[WE,ybl h]
theorem uF{b:yL yB}{f k n:Nat}{d:yB}(hx:b[k]? =ab d)(h:8 < k):WE b (f+1) k n=(ag,0,k):=by
 simp[WE,hx,h]
theorem uG{b:yL yB}{f k n:Nat}{d:yB}(hx:b[k]? =ab d)(_:¬8 < k)(h:0 < k/\d.toNat=0):WE b (f+1) k n=(ag,0,k):=by
 rw[WE,hx];grind
theorem uH{b:yL yB}{f k n:Nat}{d:yB}(hx:b[k]? =ab d)(h2:¬8 < k)(h3:¬(0 < k/\d.toNat=0))(h4:d.toNat < 128):WE b (f+1) k n=(af,n+d.toNat % 128*128 ^ k,k+1):=by
 rw[WE,hx];grind
theorem uI{b:yL yB}{f k n:Nat}{d:yB}(hx:b[k]? =ab d)(h2:¬8 < k)(h3:¬(0 < k/\d.toNat=0))(h4:¬d.toNat < 128):WE b (f+1) k n=WE b f (k+1) (n+d.toNat % 128*128 ^ k):=by
 rw[WE,hx];grind
theorem UQ(n k:Nat)(d:yB)(hn:n < 128 ^ k)(hk:k<=8):n+d.toNat % 128*128 ^ k < 9223372036854775808:=by
 have h1:d.toNat % 128*128 ^ k<=127*128 ^ k:=Nat.mul_le_mul_right _ (by omega);have h2:128 ^ (k+1)<=128 ^ 9:=Nat.pow_le_pow_right (by omega) (by omega);grind
theorem UR(n k:Nat)(d:yB)(hn:n < 128 ^ k):n+d.toNat % 128*128 ^ k < 128 ^ (k+1):=by
 have h1:d.toNat % 128*128 ^ k<=127*128 ^ k:=Nat.mul_le_mul_right _ (by omega);grind
theorem ZHz(b:yL yB):∀(f k n:Nat),(WE b f k n).1=af->(WE b f k n).2.2<=b.length
 |0,k,n,h=>by simp[WE]at h
 |f+1,k,n,h=>by
  by_cases h1:b.length<=k
  .rw[uE h1]at h;cases h
  have hx:=yac (Nat.lt_of_not_le h1);by_cases h2:8 < k
  .rw[uF hx h2]at h;cases h
  by_cases h3:0 < k/\b[k].toNat=0
  .rw[uG hx h2 h3]at h;cases h
  by_cases h4:b[k].toNat < 128
  .rw[uH hx h2 h3 h4];simp;omega
  .rw[uI hx h2 h3 h4]at h ⊢;exact ZHz b f _ _ h
theorem ZHA(b:yL yB):∀(f k n:Nat),n < 128 ^ k->k<=9->(WE b f k n).2.1<=9223372036854775807
 |0,k,n,h,_=>by simp[WE]
 |f+1,k,n,h,hk=>by
  by_cases h1:b.length<=k
  .rw[uE h1];simp
  have hx:=yac (Nat.lt_of_not_le h1);by_cases h2:8 < k
  .rw[uF hx h2];simp
  by_cases h3:0 < k/\b[k].toNat=0
  .rw[uG hx h2 h3];simp
  by_cases h4:b[k].toNat < 128
  .rw[uH hx h2 h3 h4];have:=UQ n k b[k] h (by omega);grind
  .rw[uI hx h2 h3 h4];exact ZHA b f _ _ (UR n k _ h) (by omega)
def ZZ(r:ai):Int×ai:=if(WE r.1 10 0 0).1=af then(((WE r.1 10 0 0).2.1:Int),(r.1.drop (WE r.1 10 0 0).2.2,r.2)) else(0,([],af))
theorem kD(r:ai):0<=(ZZ r).1/\(ZZ r).1<=9223372036854775807/\(ZZ r).2.1.length<=r.1.length:=by
 unfold ZZ;split
 .have:=ZHA r.1 10 0 0 (by omega) (by omega);grind
 .simp
theorem ZPh{n k:Nat}{d:yB}(hn:n < 128 ^ k)(hk:k<=8):bits .or .i64 (n:Int) (wi (((d % 128).toNat:Int)*2 ^ (min (wi (7*(k:Int))).toNat 64)))=((n+d.toNat % 128*128 ^ k:Nat):Int):=by
 have e0:(wi (7*(k:Int)))=((7*k:Nat):Int):=by rw[ZT (by omega) (by omega)];omega
 have e1:min ((7*k:Nat):Int).toNat 64=7*k:=by omega
 have e2:128 ^ k=2 ^ (7*k):=by rw[Nat.pow_mul]
 have h1:=UQ n k d hn hk
 have e3:((d % 128).toNat:Int)*2 ^ (7*k)=((d.toNat % 128*128 ^ k:Nat):Int):=by
  simp_all
 rw[e0,e1,e3,ZT (by omega) (by omega)];refine Go.Ev.uW (op:=.or) (k:=.i64) ?_ (by omega) ⟨by show-9223372036854775808<=_;omega,by show _<=9223372036854775807;omega⟩ (by omega) ⟨by show-9223372036854775808<=_;omega,by show _<=9223372036854775807;omega⟩ ⟨by show-9223372036854775808<=_;omega,by show _<=9223372036854775807;omega⟩;show ab _=ab _;congr 1;simp only[yap];rw[e2]at hn ⊢;have:=ycw hn (d.toNat % 128);grind
theorem DB{b:yL yB}{no:Bool}{k:Nat}(hb:b.length<=2000000)(h:b.length<=k\/8 < k\/(0 < k/\b[k]? =ab 0)):Wy yD (k:Int) (b,no)=ab (af,(k:Int),(b,no)):=by
 unfold Wy;dsimp only;by_cases h1:b.length<=k
 .grind
 rw[yX (cE (by omega))];by_cases h2:8 < k
 .grind
 rw[yX (cE (by omega))];rcases h with h|h|⟨h,h3⟩
 .grind
 .grind
 rw[yW (yY (by omega)),Zj h3,ya];rfl
theorem ZMg{b:yL yB}{no:Bool}{k:Nat}{d:yB}(hb:b.length<=2000000)(hx:b[k]? =ab d)(h2:¬8 < k)(h3:¬(0 < k/\d.toNat=0)):Wy yD (k:Int) (b,no)=ab (ag,(k:Int),(b,no)):=by
 unfold Wy;have h1:k < b.length:=(yo.1 hx).1;dsimp only;rw[yX (cE (by omega)),yX (cE (by omega))];by_cases h4:0 < k
 .rw[yW (yY (by omega)),Zj hx,ya]
  have:(d==0)=ag:=by
   rw[beq_eq_false_iff_ne];intro h;simp_all
  rw[this]
 grind
theorem ZHB{b:yL yB}{no:Bool}(hb:b.length<=2000000):∀(f k n m:Nat),k+f=10->f < m->n < 128 ^ k->
 Zb (W0 yD) m ((n:Int),(b,no),(k:Int))=ab (if(WE b f k n).1=af then .inr (((WE b f k n).2.1:Int),(b,no),((WE b f k n).2.2:Int)) else .inl ((0:Int),([],af),((WE b f k n).2.2:Int)))
 |f,k,n,0,_,h,_=>by omega
 |0,k,n,m+1,h,_,_=>by
  unfold Zb W0;dsimp only;rw[DB hb (.inr (.inl (by omega))),ya]
  rfl
 |f+1,k,n,m+1,h,hf,hn=>by
  unfold Zb W0;dsimp only;by_cases h1:b.length<=k
  .rw[uE h1,DB hb (.inl h1),ya];rfl
  obtain⟨d,hx,_⟩:=Zf (l:=b) (k:=k) (by omega);by_cases h2:8 < k
  .rw[uF hx h2,DB hb (.inr (.inl h2)),ya];rfl
  by_cases h3:0 < k/\d.toNat=0
  .rw[uG hx h2 h3,DB hb (.inr (.inr ⟨h3.1,by rw[hx,show d=0 from UInt8.toNat_inj.1 h3.2]⟩)),ya]
   rfl
  rw[ZMg hb hx h2 h3,ya];dsimp only
  rw[yX (by decide),Zj hx,ya,ZPh hn (by omega),
   yW (yY (by rw[ZT (by omega) (by omega)];omega)),Zn (by omega)]
  have hlt:ah (d < 128)=ah (d.toNat < 128):=by
   rw[Bool.eq_iff_iff,yN,yN,UInt8.lt_iff_toNat_lt];rfl
  rw[hlt];by_cases h4:d.toNat < 128
  .rw[uH hx h2 h3 h4,yW (yY h4)];rfl
  .rw[uI hx h2 h3 h4,yX (by rw[yN];exact h4)];exact ZHB hb f (k+1) _ m (by omega) (by omega) (UR n k d hn)
theorem ZTL{r:ai}(h:r.1.length<=2000000):ZN yD r=ab (ZZ r):=by
 obtain⟨b,no⟩:=r;unfold ZN ZZ;dsimp only at h ⊢;have:=ZHB (no:=no) h 10 0 0 yD (by omega) (by rw[lr];omega) (by omega);rw[show((0:Nat):Int)=0 from rfl]at this
 rw[this,ya];by_cases hg:(WE b 10 0 0).1=af
 .have hl:=ZHz b 10 0 0 hg;rw[yW hg,yW hg];dsimp only;rw[yW (uC (by omega) (by omega)),yap]
 grind
theorem ZRi{b:yL yB}(h:b.length<=2000000):zp yD b=ab (b,ag):=by
 unfold zp;rw[ZHy (by omega),ya]
theorem US{α:Type}{l:yL α}{k:Nat}{e:α}(h:l[k]? =ab e):l.drop k=e::l.drop (k+1):=by
 obtain⟨h1,h2⟩:=yo.1 h;rw[List.drop_eq_getElem_cons h1,h2]
theorem ZMh{b:yL yB}{no:Bool}(hb:b.length<=2000000){k n:Nat}{d:yB}(hx:b[k]? =ab d)(h2:k<=8)(h3:¬(0 < k/\d.toNat=0))(hn:n < 128 ^ k):
 ZK yD ((n:Int),((128 ^ k:Nat):Int),(k:Int),(b,no))=ab (if d.toNat < 128 then .inr (.inl (((n+d.toNat % 128*128 ^ k:Nat):Int),(b.drop (k+1),no))) else .inl (((n+d.toNat % 128*128 ^ k:Nat):Int),wi (128*((128 ^ k:Nat):Int)),((k+1:Nat):Int),(b,no))):=by
 have hk:k < b.length:=(yo.1 hx).1;have hd:=UQ n k d hn h2
 have e1:wi ((n:Int)+(wi ((Int.tmod (d.toNat:Int) 128)*((128 ^ k:Nat):Int))))=((n+d.toNat % 128*128 ^ k:Nat):Int):=by
  have e2:Int.tmod (d.toNat:Int) 128*((128 ^ k:Nat):Int)=((d.toNat % 128*128 ^ k:Nat):Int):=by
   grind
  rw[e2,ZT (z:=((d.toNat % 128*128 ^ k:Nat):Int)) (by omega) (by omega),ZT (by omega) (by omega)]
  push_cast
  rfl
 have hcut:Q0 b.length (ab ((k+1:Nat):Int)) ae=af:=uC (by omega) (by omega);unfold ZK;dsimp only;rw[yW (yY (by omega)),yW (yY (by omega)),Zj hx,ya,e1,Zn (by omega)]
 all_goals grind
theorem ZDn{b:yL yB}{no:Bool}(hb:b.length<=2000000):∀(f k n m:Nat)(z:Int),k+f=10->f < m->n < 128 ^ k->(k<=8->z=((128 ^ k:Nat):Int))->
 ∃o,Zb (ZK yD) m ((n:Int),z,(k:Int),(b,no))=ab o/\((WE b f k n).1=af->o=.inl (((WE b f k n).2.1:Int),(b.drop (WE b f k n).2.2,no)))/\((WE b f k n).1=ag->o=.inl ((0:Int),([],af))\/o=.inr (b,no))
 |f,k,n,0,_,_,h,_,_=>by omega
 |0,k,n,m+1,z,h,_,_,_=>by
  unfold Zb ZK;dsimp only;refine⟨.inr (b,no), ?_,λhg=>by simp[WE]at hg,λ_=>.inr rfl⟩
  all_goals grind
 |f+1,k,n,m+1,z,h,hf,hn,hz=>by
  by_cases h1:b.length<=k
  .rw[uE h1];unfold Zb ZK;grind
  obtain⟨d,hx,_⟩:=Zf (l:=b) (k:=k) (by omega);by_cases h2:8 < k
  .rw[uF hx h2];unfold Zb ZK;grind
  have hz:=hz (by omega);subst hz;by_cases h3:0 < k/\d.toNat=0
  .rw[uG hx h2 h3];unfold Zb ZK Z8;dsimp only;rw[yW (yY (by omega)),yW (yY (by omega)),Zj hx,ya,yW (by rw[h3.2];rfl),yW (yY (by omega))];grind
  unfold Zb;rw[ZMh hb hx (by omega) h3 hn,ya];by_cases h4:d.toNat < 128
  .rw[uH hx h2 h3 h4,yW h4];grind
  .rw[uI hx h2 h3 h4,yX h4];refine ZDn hb f (k+1) _ m _ (by omega) (by omega) (UR n k d hn) (λhk=> ?_);have h5:128 ^ (k+1)<=128 ^ 8:=Nat.pow_le_pow_right (by omega) hk
   have h6:(128:Int)*((128 ^ k:Nat):Int)=((128 ^ (k+1):Nat):Int):=by
    grind
   rw[h6,ZT (by omega) (by omega)]
theorem ZRj{r:ai}(h:r.1.length<=2000000):Zt yD r=ab (ZZ r):=by
 obtain⟨b,no⟩:=r;obtain⟨o,h1,h2,h3⟩:=ZDn (no:=no) h 10 0 0 yD 1 (by omega) (by rw[lr];omega) (by omega) (λ_=>rfl);unfold Zt ZZ;rw[show((0:Int),(1:Int),(0:Int),(b,no))=(((0:Nat):Int),(1:Int),((0:Nat):Int),(b,no)) from rfl,h1,ya]
 dsimp only
 cases hg:(WE b 10 0 0).1 with
 |true=>rw[h2 hg,yW rfl]
 |false=>
  rw[yX (by decide)];rcases h3 hg with rfl|rfl <;> rfl
theorem ZHC{z:Int}{r:ai}(h0:0<=z)(h:r.1.length<=2000000):Y3 yD z r=ab (QV r z.toNat):=by
 obtain⟨b,no⟩:=r;obtain⟨n,rfl⟩:=Int.eq_ofNat_of_zero_le h0;unfold Y3 QV Z8;dsimp only at h ⊢
 cases no with
 |true=>rw[yW rfl,yW (.inl rfl)];rfl
 |false=>
  rw[yX (by decide),yap];by_cases h1:b.length < n
  .rw[yW (yY (by omega)),yW (.inr h1)];rfl
  .rw[yX (cE (by omega)),yW (uD (by omega) (by omega)),yW (ZL (by rw[yx];omega) (by rw[yx];omega)),yW (uC (by omega) (by omega)),yX (by simp;omega)]
theorem ZRk{r:ai}(h:r.1.length<=2000000):Zx yD r=ab (Xy r):=by
 unfold Zx Xy;rw[ZHC (by omega) h,ya,show(8:Int).toNat=8 from rfl]
 have hl:=(qG r 8).1;generalize (QV r 8).1=l at hl;generalize (QV r 8).2=q
 have e:=Zu (step:=Yf yD) l.length (λk:Nat=>(l,yv (dW l k),(k:Int),q)) (x:=(yv (dW l l.length),q)) (by
  intro k hk;obtain⟨d,hx,_⟩:=Zf hk;unfold Yf;dsimp only;rw[yW (ZE hk),Zj hx,ya,Zn (by omega)]
  have e1:256*yv (dW l k)+yv d.toNat=yv (dW l (k+1)):=by
   have h1:=DA l k;have h2:256 ^ k<=256 ^ 7:=Nat.pow_le_pow_right (by omega) (by omega);have h3:=d.toNat_lt;apply UInt64.toNat_inj.1;rw[UInt64.toNat_add,UInt64.toNat_mul,yan,yan,yan,dW,hx];grind
  rw[e1]) (by
  unfold Yf;dsimp only;rw[yX (by rw[ZA];decide)]) (by omega)
 have e:Zb (Yf yD) yD (l,(0:yU),(0:Int),q)=_:=e;grind
theorem ZDo{r:ai}{n:Nat}(h:(QV r n).2.2=ag):r.2=ag/\r.1=(QV r n).1++(QV r n).2.1/\(QV r n).1.length=n:=by
 unfold QV at h ⊢;by_cases c:r.2=af\/r.1.length < n
 .grind
 .rw[yX c]at h ⊢;simp_all
theorem ZMi{r:ai}(h:(QN r).2.2=ag):r.2=ag/\r.1=(QN r).1++(QN r).2.1:=by
 obtain⟨h1,h2,h3⟩:=ZDo (r:=r) (n:=32) h;refine⟨h1, ?_⟩;unfold QN;simp_all
theorem ZPi:∀(l:yL yB),l.length<=8->∀k,k<=l.length->∀j,j < k->∃d,l[j]? =ab d/\dW l k / 256 ^ (k - 1 - j) % 256=d.toNat:=by
 intro l hl k
 induction k with
 |zero=>intro _ j hj;omega
 |succ k ih=>
  intro hk j hj;obtain⟨d,hd,_⟩:=Zf (l:=l) (k:=k) (by omega)
  have e:dW l (k+1)=dW l k*256+d.toNat:=by
   show dW l k*256+((l[k]?).map UInt8.toNat).getD 0=_;rw[hd];rfl
  have hd2:d.toNat < 256:=UInt8.toNat_lt d;by_cases hjk:j=k
  .subst hjk;refine⟨d,hd, ?_⟩;rw[e,show j+1 - 1 - j=0 by omega,Nat.pow_zero,Nat.div_one];omega
  .obtain⟨c,c1,c2⟩:=ih (by omega) j (by omega);refine⟨c,c1, ?_⟩;rw[e,show k+1 - 1 - j=(k - 1 - j)+1 by omega,Nat.pow_succ,ybi (256 ^ (k - 1 - j)), <-Nat.div_div_eq_div_mul,show(dW l k*256+d.toNat) / 256=dW l k by omega];exact c2
theorem ZPj{l:yL yB}(h:l.length=8):dx (dW l 8)=l:=by
 apply List.ext_getElem?;intro j;by_cases hj:j < 8
 .obtain⟨d,d1,d2⟩:=ZPi l (by omega) 8 (by omega) j hj;rw[uq _ hj,d1];refine congrArg ab (UInt8.toNat_inj.1 ?_);rw[UInt8.toNat_ofNat']
  rw[<-d2,show(2:Nat) ^ (56 - 8*j)=256 ^ (8 - 1 - j) by
   rw[show(256:Nat)=2 ^ 8 from rfl, <-Nat.pow_mul]
   congr 1;omega]
 .rw[ybl (by rw[QL];omega),ybl (by omega)]
theorem ZPk{r:ai}(h:(Xy r).2.2=ag):r.2=ag/\r.1=dx (Xy r).1.toNat++(Xy r).2.1:=by
 obtain⟨h1,h2,h3⟩:=ZDo (r:=r) (n:=8) h;refine⟨h1, ?_⟩;unfold Xy;dsimp only;rw[h3];have hb:=DA (QV r 8).1 8
 rw[show(yv (dW (QV r 8).1 8)).toNat=dW (QV r 8).1 8 by
  rw[yan];exact yaf (Nat.lt_of_lt_of_eq hb (by decide)),ZPj h3]
 exact h2
theorem ZDp(b:yL yB):∀(f k n:Nat),(WE b f k n).1=af->∃m,(WE b f k n).2.1=n+m*128 ^ k/\b.drop k=Xa m++b.drop (WE b f k n).2.2/\(0 < k->0 < m)
 |0,k,n,h=>by simp[WE]at h
 |f+1,k,n,h=>by
  by_cases h1:b.length<=k
  .rw[uE h1]at h;cases h
  have hx:=yac (Nat.lt_of_not_le h1);generalize b[k]=d at hx;have hd:=UInt8.toNat_lt d;by_cases h2:8 < k
  .rw[uF hx h2]at h;cases h
  by_cases h3:0 < k/\d.toNat=0
  .rw[uG hx h2 h3]at h;cases h
  by_cases h4:d.toNat < 128
  .rw[uH hx h2 h3 h4];refine⟨d.toNat,by dsimp only;rw[yaf h4], ?_,λhk=>by omega⟩;dsimp only;rw[qr h4,US hx];simp
  .rw[uI hx h2 h3 h4]at h ⊢;obtain⟨m,m1,m2,m3⟩:=ZDp b f (k+1) _ h;have m3:=m3 (by omega);refine⟨d.toNat % 128+m*128, ?_, ?_,λ_=>by omega⟩
   .grind
   .rw[CI (by omega),show(d.toNat % 128+m*128) / 128=m by omega,show(d.toNat % 128+m*128) % 128+128=d.toNat by omega,US hx,m2];simp
theorem ZPl{r:ai}(h:(ZZ r).2.2=ag):r.2=ag/\r.1=Xa (ZZ r).1.toNat++(ZZ r).2.1:=by
 unfold ZZ at h ⊢;by_cases c:(WE r.1 10 0 0).1=af
 .rw[yW c]at h ⊢;obtain⟨m,m1,m2,_⟩:=ZDp r.1 10 0 0 c;grind
 grind
theorem ZPm{r:ai}(h:r.1.length<=2000000):WN yD r=ab (QN r):=by
 unfold WN QN;rw[ZKV (by omega) h,ya];have hl:=qG r 32;rw[show(32:Int).toNat=32 from rfl,yW (by rw[yi];exact⟨yY hl.1,rfl⟩)]
 generalize (QV r 32).1=l at hl;rw[List.take_zero,yy,show ct=yw 32 0 from rfl,List.drop_replicate,Nat.zero_add]
def jd(r r':ai)(bs:yL yB):Prop:=r'.2=ag->r.2=ag/\r.1=bs++r'.1
theorem jd.trans{a b c:ai}{x y:yL yB}(h:jd a b x)(k:jd b c y):jd a c (x++y):=λq=>by
 obtain⟨k1,k2⟩:=k q;obtain⟨h1,h2⟩:=h k1;exact⟨h1,by rw[h2,k2,yad]⟩
theorem lH(r:ai):jd r (ZZ r).2 (Xa (ZZ r).1.toNat):=λh=>ZPl h
theorem ZHD(r:ai):jd r (QN r).2 (QN r).1:=λh=>ZMi h
theorem uJ(r:ai):jd r (Xy r).2 (dx (Xy r).1.toNat):=λh=>ZPk h
theorem DC{a b:yL yB}(ha:a.length<=60000)(hb:b.length<=60000):∀l,l∈[a,b]->l.length<=60000:=by
 grind
noncomputable def lI(key:yL yB)(i:Nat):yL yB:=Sha.fO (gz tF [key,dx i])
theorem UT(key:yL yB)(i:Nat):(lI key i).length=32:=Sha.iV _
noncomputable def dX(key:yL yB):Nat->yL yB
 |0=>[]
 |k+1=>dX key k++lI key k
theorem kE(key:yL yB):∀k,(dX key k).length=32*k
 |0=>rfl
 |k+1=>by
  show(dX key k++lI key k).length=_;rw[yl,kE key k,UT];omega
theorem ZKW(key:yL yB)(k:Nat):∀d,∃r,dX key (k+d)=dX key k++r
 |0=>⟨[],by simp⟩
 |d+1=>by
  obtain⟨r,h⟩:=ZKW key k d
  exact⟨r++lI key (k+d),by
   show dX key (k+d)++lI key (k+d)=_;rw[h,yad]⟩
theorem ZHE(key:yL yB){n k m:Nat}(h1:n<=32*k)(h2:n<=32*m):(dX key k).take n=(dX key m).take n:=by
 have one:∀a b,a<=b->n<=32*a->(dX key b).take n=(dX key a).take n:=by
  intro a b hab ha;obtain⟨r,hr⟩:=ZKW key a (b - a);rw[show a+(b - a)=b by omega]at hr;rw[hr,List.take_append_of_le_length (by rw[kE];exact ha)]
 all_goals grind
noncomputable def gp(key:yL yB)(n:Nat):yL yB:=(dX key n).take n
theorem oF(key:yL yB)(n:Nat):(gp key n).length=n:=by
 unfold gp;rw[yx,kE];omega
theorem ZRl{no:yU}{key:yL yB}(hk:key.length<=50000):yC yD no key=ab (lI key no.toNat,no+1,key):=by
 unfold yC;generalize ct=z
 rw[show((0:Int),no,key,z,([0,0,0,0,0,0,0,0]:yL yB))=(λk:Nat=>((k:Int),no,key,z,gn (dx no.toNat) 8 k)) 0 from rfl,
  Zu (x:=(no,key,z,dx no.toNat)) 8 (λk:Nat=>((k:Int),no,key,z,gn (dx no.toNat) 8 k)) ?_ ?_ (by omega),ya]
 .dsimp only;rw[mP (by decide) (by simp) (DC (by omega) (by rw[QL];omega)),ya];rfl
 .intro k hk;unfold Q6;dsimp only;have hl:=QL no.toNat
  rw[yW (yY (by omega)),ZT (z:=8*(k:Int)) (by omega) (by omega),ZT (z:=56 - 8*(k:Int)) (by omega) (by omega),yW (yY (by omega)),yW (ZV (by omega) (by omega)),
   yap,CK (by omega) (by omega),ya,Zn (by omega)]
  have e:min (56 - 8*(k:Int)).toNat 64=56 - 8*k:=by omega
  rw[e,CM,CL (uq _ hk) (by omega)]
 .unfold Q6;dsimp only;rw[yX (by simp),TN (QL _)]
theorem ZDq{key:yL yB}{n:Nat}(hk:key.length<=50000)(hn:n<=65536):∃v,tL yD key (n:Int)=ab (v,gp key n):=by
 unfold tL MG
 have hb:(af&&ju (wi ((n:Int)+32)) 1)=af:=by
  rw[ZT (by omega) (by omega),Bool.true_and];unfold ju lY;rw[yi,yi];exact⟨yY (by omega),yY (by unfold Zv;omega),yY (by unfold maxLen;omega)⟩
 rw[yX (cE (by omega)),yX (cE (by omega)),yW hb,ya];dsimp only
 obtain⟨x,h1,v,m,no,rfl,h2⟩:=Yn (step:=Vt yD) 2049 (λk s=>∃v,s=((n:Int),key,([]:yL Unit),([]:yL yB),v,dX key k,yv k,key)) (λx=>∃v m no,x=((n:Int),key,([]:yL Unit),([]:yL yB),v,dX key m,no,key)/\n<=32*m) (i:=((n:Int),key,([]:yL Unit),([]:yL yB),([]:yL Unit),([]:yL yB),(0:yU),key)) ⟨_,rfl⟩ (by omega) (by
  rintro k _ hk2 ⟨v,rfl⟩;have hl2:=kE key k;unfold Vt;dsimp only;by_cases hl:((dX key k).length:Int) < (n:Int)
  .left
   have e:(yv k).toNat=k:=by
    rw[yan];grind
   have e2:yv k+1=yv (k+1):=by
    simp_all
   rw[yW (yY hl),ZRl hk,ya,e,e2];dsimp only;rw[yW (ZL (by rw[UT];omega) (by rw[UT];omega))];exact⟨_,rfl,_,rfl⟩
  .right;rw[yX (by rw[yN];exact hl)];exact⟨_,rfl,_,_,_,rfl,by omega⟩) (by
  rintro _ ⟨v,rfl⟩;have hl2:=kE key 2049;unfold Vt;dsimp only;rw[yX (cE (by omega))];exact⟨_,rfl,_,_,_,rfl,by omega⟩)
 rw[h1,ya];dsimp only;have hl2:=kE key m;rw[yW (by rw[yi];exact⟨yY (by omega),yY (by omega)⟩),yap];refine⟨_,congrArg ab (congrArg (Prod.mk _) ?_)⟩;exact ZHE key h2 (by omega)
def dF(s b:yL yB):yL yB:=List.zipWith (· ^^^ ·) s b
def iH(s b:yL yB)(k:Nat):yL yB:=(dF s b).take k++s.drop k
theorem je{s b:yL yB}(h:s.length=b.length):(dF s b).length=b.length:=by unfold dF;rw[List.length_zipWith];omega
theorem ZHF{s b:yL yB}{k:Nat}{x:yB}(h:s.length=b.length)(hx:s[k]? =ab x):(iH s b k)[k]? =ab x:=by
 have hk:=(yo.1 hx).1;have hl:=je h;unfold iH;grind
theorem ZHG{s b:yL yB}{k:Nat}{x y:yB}(h:s.length=b.length)(hx:s[k]? =ab x)(hy:b[k]? =ab y):(iH s b k).set k (x^^^y)=iH s b (k+1):=by
 have hk:=(yo.1 hx).1;have hl:=je h
 have hz:(dF s b)[k]? =ab (x^^^y):=by
  unfold dF;grind
 unfold iH;rw[XU hz,List.set_append_right _ _ (by rw[yx];omega),yx,US hx,yad];congr 1;rw[show k - min k (dF s b).length=0 by omega];rfl
theorem DD{s b:yL yB}{k:Nat}(h:s.length=b.length):(iH s b k).length=b.length:=by
 have hl:=je h;unfold iH;grind
theorem ZBi:∀{s b:yL yB},s.length=b.length->dF s (dF s b)=b
 |[],[],_=>rfl
 |x::s,y::b,h=>by
  have ih:=ZBi (s:=s) (b:=b) (by simpa using h);unfold dF at ih ⊢;rw[List.zipWith_cons_cons,List.zipWith_cons_cons,ih];congr 1;rw[<-UInt8.xor_assoc,UInt8.xor_self,UInt8.zero_xor]
theorem ZRm{key b:yL yB}(hk:key.length<=50000)(hb:b.length<=65536):zb yD key b=ab (dF (gp key b.length) b):=by
 obtain⟨v,h⟩:=ZDq hk hb;have hl:=oF key b.length;generalize gp key b.length=s at h hl;unfold zb;rw[h,ya];dsimp only
 rw[show(b,(b.length:Int),(0:Int),key,v,s)=(λk:Nat=>(b,(b.length:Int),(k:Int),key,v,iH s b k)) 0 from rfl,
  Zu (x:=(key,v,dF s b)) b.length (λk:Nat=>(b,(b.length:Int),(k:Int),key,v,iH s b k)) ?_ ?_ (by omega),ya]
 .intro k hk;obtain⟨y,hy,_⟩:=Zf hk;obtain⟨x,hx,_⟩:=Zf (l:=s) (k:=k) (by omega);unfold za;dsimp only;rw[yW (ZE hk),yW (ZV (by omega) (by rw[DD hl];omega)),yap,ZHF hl hx,ya,Zj hy,ya,ya,Zn (by omega),ZHG hl hx hy,yW (ZV (by omega) (by rw[DD hl];omega))]
 .unfold za;dsimp only;rw[yX (by rw[ZA];decide)];unfold iH;rw[ybs (by rw[je hl];exact yj _),List.drop_of_length_le (by omega),yar]
noncomputable def lJ(key h:yL yB):yL yB:=(Sha.fO (gz NE [key,h])).take 8
theorem DE(key h:yL yB):(lJ key h).length=8:=by
 unfold lJ;rw[yx,Sha.iV];rfl
theorem ZBj{key h:yL yB}(hk:key.length<=50000)(hh:h.length<=60000):tM yD key h=ab (lJ key h):=by
 unfold tM;rw[mP (by decide) (by simp) (DC (by omega) hh),ya];have:=DE key h;unfold lJ at this ⊢;grind
noncomputable def fL(key b:yL yB):yL yB×Bool:=if 8<=b.length/\lJ key (b.take (b.length - 8))=b.drop (b.length - 8) then(dF (gp key (b.length - 8)) (b.take (b.length - 8)),af) else([],ag)
theorem UU(key b:yL yB):(fL key b).1.length<=b.length:=by
 unfold fL;split
 .rw[je (by rw[oF,yx];omega),yx];omega
 .simp
theorem ZRn{key b:yL yB}(hk:key.length<=50000)(hb:b.length<=50000):zo yD key b=ab (fL key b):=by
 unfold zo fL;rw[ZT (z:=(b.length:Int) - 8) (by omega) (by omega)];by_cases h1:(b.length:Int) - 8 < 0
 .grind
 have e:((b.length:Int) - 8).toNat=b.length - 8:=by omega
 rw[yX (by rw[yN];exact h1),yX (cE (by omega)),yW (uD (by omega) (by omega)),e,ZBj hk (by rw[yx];omega),ya,yW (uC (by omega) (by omega)),yW (yY (by rw[List.length_drop];omega)),ybs (l:=b.drop (b.length - 8)) (by rw[List.length_drop];omega)];dsimp only;by_cases h2:lJ key (b.take (b.length - 8))=b.drop (b.length - 8)
 .have hl:(b.take (b.length - 8)).length=b.length - 8:=by rw[yx];omega
  rw[yY h2,yX (by decide),yW (uD (by omega) (by omega)),ZRm hk (by omega),ya,yW ⟨by omega,h2⟩,hl]
 grind
theorem ZJl(a b:yL yB):((bytesOf a).data.toList==(bytesOf b).data.toList)=ah (a=b):=by
 have:(bytesOf a).data.toList=a/\(bytesOf b).data.toList=b:=⟨rfl,rfl⟩;rw[this.1,this.2];by_cases h:a=b
 .rw[yY h,beq_iff_eq.2 h]
 .rw[yZ h,beq_eq_false_iff_ne.2 h]
theorem ZPn{b:yL yB}(h:b.length<=2000000):BU yD b=ab (b,ag):=by
 unfold BU;rw[yW (ZL (by omega) (by omega))]
theorem ZMj{r:ai}(h:r.1.length<=2000000):Yl yD r=ab (QN r):=by
 unfold Yl QN;rw[ZHC (by omega) h,ya];have hl:=qG r 32;rw[show(32:Int).toNat=32 from rfl]
 generalize QV r 32=q at hl;obtain⟨l,r'⟩:=q;dsimp only at hl ⊢
 have e:=Zu (step:=Yp yD) l.length (λk:Nat=>(l,(k:Int),r',yw 32 (0:yB),gn l 32 k)) (x:=(r',yw 32 (0:yB),gn l 32 l.length)) (by
  intro k hk;obtain⟨e,he,_⟩:=Zf hk;unfold Yp;dsimp only;have zV:(gn l 32 k).length=32:=by unfold gn;rw[yl,yx,List.length_replicate];omega
  simp only[ZE hk,if_true,Zj he,ya,ZV (show(0:Int)<=(k:Int) by omega) (show(k:Int) < ((32:Nat):Int) by omega),yap,CK hk hl.1,Zn (show k < 9223372036854775807 by omega),CL he hl.1]) (by
  unfold Yp;dsimp only;rw[yX (by rw[ZA];decide)]) (by omega)
 refine(congrArg (Option.bind · _) e).trans ?_;unfold gn;rw[yai];rfl
theorem ZHH{a b:yL yB}(h:a.length<=1000000):Vz yD a b=ab (ah (a=b)):=by
 unfold Vz;by_cases hl:a.length=b.length
 .rw[yX (by simp[hl])]
  obtain⟨x,h1,h2⟩:=Yn (step:=Wq yD) a.length (λk s=>s=(a,b,(k:Int))/\a.take k=b.take k) (λx=>(x=.inl ag/\a≠b)\/(x=.inr ()/\a=b)) (i:=(a,b,(0:Int))) ⟨rfl,by rw[List.take_zero,List.take_zero]⟩ (by omega) (by
   rintro k _ hk ⟨rfl,h2⟩;obtain⟨x,hx,_⟩:=Zf (l:=a) (k:=k) hk;obtain⟨y,hy,_⟩:=Zf (l:=b) (k:=k) (by omega);unfold Wq;dsimp only;rw[yW (ZE hk),Zj hx,ya,Zj hy,ya];by_cases c:x=y
   .left;rw[yX (by simp[c]),Zn (by omega)];exact⟨_,rfl,rfl,by rw[XU hx,XU hy,h2,c]⟩
   .right;rw[yW (by simp[c])];exact⟨_,rfl,.inl ⟨rfl,λq=>c (by rw[q,hy]at hx;exact(yaw hx).symm)⟩⟩) (by
   rintro _ ⟨rfl,h2⟩;unfold Wq;dsimp only;rw[yX (by rw[ZA];decide)];rw[yai,hl,yai]at h2;exact⟨_,rfl,.inr ⟨rfl,h2⟩⟩)
  all_goals grind
 .rw[yW (by simp;omega),yZ λq=>hl (by rw[q])]
theorem UV:∀s b:yL yB,dF s b=dF b s
 |[],[]=>rfl
 |[],_::_=>rfl
 |_::_,[]=>rfl
 |x::s,y::b=>by
  have ih:=UV s b;unfold dF at ih ⊢;rw[List.zipWith_cons_cons,List.zipWith_cons_cons,ih,UInt8.xor_comm]
theorem ZHI{s b:yL yB}{k:Nat}{x y:yB}(hx:s[k]? =ab x)(hy:b[k]? =ab y):(dF s b)[k]? =ab (x^^^y):=by
 unfold dF;grind
theorem ZPo{a b:yL yB}(h:a.length=b.length)(hl:a.length<=1000000):BO yD a b=ab (dF a b):=by
 unfold BO;have hx:=je h
 have e:=Zu (step:=Wm yD) a.length (λk:Nat=>(a,b,(k:Int),(dF a b).take k)) (x:=dF a b) (by
  intro k hk;obtain⟨x,h1,_⟩:=Zf (l:=a) (k:=k) hk;obtain⟨y,h2,_⟩:=Zf (l:=b) (k:=k) (by omega);unfold Wm;dsimp only;rw[yW (ZE hk),Zj h1,ya,Zj h2,ya,yW (ZL (by rw[yx];omega) (by rw[yx];omega)),Zn (by omega),XU (ZHI h1 h2)]) (by
  unfold Wm;dsimp only;rw[yX (by rw[ZA];decide),ybs (by omega)]) (by omega)
 grind
theorem ZMk{a b:yL yB}(h:a.length=b.length)(hl:a.length<=1000000):VF yD a b=ab (dF a b):=by
 unfold VF;have hx:=je h
 have e:=Zu (step:=Xr yD) a.length (λk:Nat=>(a,b,(k:Int),([]:yL yB),(dF a b).take k)) (x:=(([]:yL yB),dF a b)) (by
  intro k hk;obtain⟨x,h1,_⟩:=Zf (l:=a) (k:=k) hk;obtain⟨y,h2,_⟩:=Zf (l:=b) (k:=k) (by omega);unfold Xr;dsimp only;rw[yW (ZE hk),Zj h1,ya,Zj h2,ya,yW (ZL (by rw[yx];omega) (by rw[yx];omega)),Zn (by omega),XU (ZHI h1 h2)]) (by
  unfold Xr;dsimp only;rw[yX (by rw[ZA];decide),ybs (by omega)]) (by omega)
 grind
theorem ZMl(n:yU):Qs yD n=ab (dx n.toNat):=by
 unfold Qs
 have e:=Zu (step:=X5 yD) 8 (λk:Nat=>(n,(k:Int),(dx n.toNat).take k)) (x:=dx n.toNat) (by
  intro k hk;unfold X5;dsimp only
  have q1:(min ((cD (wi (56 - wi (8*(k:Int))))).toNat:Int).toNat 64)=56 - 8*k:=by
   rw[ZT (z:=8*(k:Int)) (by omega) (by omega),ZT (z:=56 - 8*(k:Int)) (by omega) (by omega)]
   have:(cD (56 - 8*(k:Int))).toNat=56 - 8*k:=by
    unfold cD;rw[yan];omega
   omega
  rw[yW (yY (by omega)),yW (ZL (by rw[yx];omega) (by rw[yx];omega)),Zn (by omega),q1,CM,XU (uq _ hk)]) (by
  unfold X5;dsimp only;rw[yX (cE (by omega)),ybs (by rw[QL];exact yj _)]) (by omega)
 grind
theorem ZJm{n k:Nat}{key h:yL yB}{i:yU}(hn:n<=65536)(hk:32*k < n)(hh:h.length=32)(he:lI key k=h):
 ∃y,Zb (YH yD) yD ((n:Int),i,(0:Int),key,dX key k,h)=ab ((n:Int),i,key,(dX key (k+1)).take n,y):=by
 have hl:=kE key k
 have hs:dX key (k+1)=dX key k++h:=by
  show dX key k++lI key k=_;rw[he]
 have hl2:=kE key (k+1)
 obtain⟨x,h1,y,rfl⟩:=Yn (step:=YH yD) 32 (λj s=>s=((n:Int),i,(j:Int),key,(dX key (k+1)).take (32*k+j),h)/\32*k+j<=n) (λx=>∃y,x=((n:Int),i,key,(dX key (k+1)).take n,y))
  (i:=((n:Int),i,(0:Int),key,dX key k,h)) ⟨by rw[Nat.add_zero,hs, <-hl,List.take_left' rfl];rfl,by omega⟩ (by omega) (by
  rintro j _ hj ⟨rfl,hjn⟩;unfold YH;dsimp only;rw[yW (yY (by omega))];have hlt:((dX key (k+1)).take (32*k+j)).length=32*k+j:=by rw[yx];omega
  by_cases c:32*k+j < n
  .left;obtain⟨x,hx,_⟩:=Zf (l:=h) (k:=j) (by omega)
   have hx2:(dX key (k+1))[32*k+j]? =ab x:=by
    grind
   rw[hlt,yW (yY (by omega)),yW (ZV (by omega) (by omega)),yap,hx,ya,yW (ZL (by omega) (by omega)),Zn (by omega), <-XU hx2];exact⟨_,rfl,rfl,by omega⟩
  .right;rw[hlt,yX (cE (by omega)),show 32*k+j=n by omega];exact⟨_,rfl,_,rfl⟩) (by
  rintro _ ⟨rfl,hjn⟩;unfold YH;dsimp only;rw[yX (cE (by omega)),ybs (l:=dX key (k+1)) (i:=32*k+32) (by omega),ybs (l:=dX key (k+1)) (i:=n) (by omega)];exact⟨_,rfl,_,rfl⟩)
 exact⟨y,h1⟩
theorem ZBl{key:yL yB}{n:Nat}(hk:key.length<=50000)(hn:n<=65536):WL yD key (n:Int)=ab (gp key n):=by
 unfold WL;rw[yX (cE (by omega)),yX (cE (by omega))]
 obtain⟨x,h1,m,rfl,h2⟩:=Yn (step:=XN yD) 2049 (λk s=>s=((n:Int),yv k,key,(dX key k).take n)) (λx=>∃m,x=(key,(dX key m).take n)/\n<=32*m) (i:=((n:Int),(0:yU),key,([]:yL yB))) (by
  show _=((n:Int),(0:yU),key,([]:yL yB).take n);rw[List.take_nil]) (by omega) (by
  rintro k _ hk2 rfl;have hl:=kE key k;unfold XN;dsimp only;by_cases c:32*k < n
  .left
   have e:(yv k).toNat=k:=by
    rw[yan];grind
   have e2:yv k+1=yv (k+1):=by
    simp_all
   have hs:lI key k=Sha.fO (gz tF [key,dx k]):=rfl;obtain⟨y,q⟩:=ZJm (i:=yv k) hn c (Sha.iV (gz tF [key,dx k])) hs;rw[ybs (by omega),yW (yY (by omega)),ZMl,ya,e,qw (by decide) (by simp) (DC (by omega) (by rw[QL];omega)),ya,q,ya, <-e2];exact⟨_,rfl,rfl⟩
  .right;rw[yX (by rw[yN,yx];omega)];exact⟨_,rfl,_,rfl,by omega⟩) (by
  rintro _ rfl;have hl:=kE key 2049;unfold XN;dsimp only;rw[yX (by rw[yN,yx];omega)];exact⟨_,rfl,_,rfl,by omega⟩)
 rw[h1,ya];exact congrArg ab (ZHE key h2 (by omega))
noncomputable def qH(key plain:yL yB):yL yB:=dF (gp key plain.length) plain++lJ key (dF (gp key plain.length) plain)
theorem ZHJ{key plain:yL yB}(hk:key.length<=50000)(hp:plain.length<=59000):Vx yD key plain=ab (qH key plain):=by
 unfold Vx qH;have hl:=oF key plain.length;have hx:=je hl;rw[yX (cE (by omega)),ZBl hk (by omega),ya,ZMk hl.symm (by omega),ya,UV plain,qw (by decide) (by simp) (DC (by omega) (by omega)),ya];have h8:=DE key (dF (gp key plain.length) plain);unfold lJ at h8 ⊢;rw[yW (ZL (by omega) (by omega))]
theorem ZMm{key b:yL yB}(hk:key.length<=50000)(hb:b.length<=50000):BT yD key b=ab (fL key b):=by
 unfold BT fL;rw[ZT (z:=(b.length:Int) - 8) (by omega) (by omega)];by_cases h1:(b.length:Int) - 8 < 0
 .grind
 have e:((b.length:Int) - 8).toNat=b.length - 8:=by omega
 have e':(b.length:Int) - 8=((b.length - 8:Nat):Int):=by omega
 have hl:(b.take (b.length - 8)).length=b.length - 8:=by rw[yx];omega
 have hs:=oF key (b.length - 8);have hx:=je (s:=gp key (b.length - 8)) (b:=b.take (b.length - 8)) (by omega);have ht:dF (gp key (b.length - 8)) (dF (gp key (b.length - 8)) (b.take (b.length - 8)))=b.take (b.length - 8):=ZBi (by omega);rw[yX (by rw[yN];exact h1),yX (cE (by omega)),yW (uD (by omega) (by omega)),e,e',ZBl hk (by omega),ya,ZPo (by omega) (by omega),ya,UV (b.take (b.length - 8)),ZHJ hk (by omega),ya];dsimp only;rw[ZJl];unfold qH;rw[hx,hl,ht];by_cases h2:lJ key (b.take (b.length - 8))=b.drop (b.length - 8)
 .rw[h2,List.take_append_drop,yY rfl,yX (by decide),yW ⟨by omega,rfl⟩]
 grind
theorem ZTM(p:yU):(tk p).toNat < dw:=(um p).2.1
theorem ZPp(p q:yU):BX yD p q=ab (ad p q):=by
 unfold BX;rw[TI,ya,TI,ya];unfold Zy;rw[yW (show ah ((tk p).toNat < 4611686018427377339)=af from yY (ZTM p)),ya]
 rfl
theorem UW(p:yU):QT yD p=ab (dB p.toNat):=by
 unfold QT
 have e:=Zu (step:=XZ yD) 8 (λk:Nat=>(p,(8:Int),(k:Int),gn (dB p.toNat) 8 k)) (x:=dB p.toNat) (by
  intro k hk;have hb:(dB p.toNat)[k]? =_:=BP p hk;have hl:(dB p.toNat).length=8:=rfl;unfold XZ;dsimp only;have q1:min (56 - 8*(k:Int)).toNat 64=56 - 8*k:=by omega
  rw[yW (yY (by omega)),ZT (z:=8*(k:Int)) (by omega) (by omega),ZT (z:=56 - 8*(k:Int)) (by omega) (by omega),yW (yY (by omega)),yW (ZV (by omega) (by omega)),yap,Nat.zero_add,CK (by omega) (by omega),ya,Zn (by omega),q1,CL hb (by omega)]) (by
  unfold XZ;dsimp only;rw[yX (cE (by omega)),TN (n:=8) (WG _)]) (by omega)
 have e:Zb (XZ yD) yD (p,(8:Int),(0:Int),([0,0,0,0,0,0,0,0]:yL yB))=_:=e;rw[e,ya];rfl
noncomputable def UX(r p:yU)(m:yL yB):yU:=CN (Sha.fO (gz zy [dB r.toNat,dB p.toNat,m]))
theorem ZRo(r p:yU){m:yL yB}(hm:m.length=32):WU yD r p m=ab (UX r p m):=by
 unfold WU
 rw[UW,ya,UW,ya,mP (by decide) (by simp) (by
  intro l hl;simp only[ybo,ycm,or_false]at hl;rcases hl with rfl|rfl|rfl
  .exact ybk (Nat.le_of_eq (WG _)) (by decide)
  .exact ybk (Nat.le_of_eq (WG _)) (by decide)
  .omega),ya,ZKP (Sha.iV _),ya]
 rfl
noncomputable def UY(k:yU)(m:yL yB):yU:=CN (Sha.fO (gz zA [dB k.toNat,m]))
noncomputable def iI(k:yU)(m:yL yB):dQ:=
 if Key k then(B (UY k m).toNat,yv (((UY k m).toNat+(yv ((UX (B (UY k m).toNat) (B k.toNat) m).toNat*k.toNat % bO)).toNat) % bO)) else(0,0)
theorem ZKX(k:yU){m:yL yB}(hm:m.length=32):Q7 yD k m=ab (iI k m):=by
 unfold Q7 iI;rw[UK,ya];by_cases hk:Key k
 .rw[yY hk,yX (by decide),yW hk,UW,ya,mP (by decide) (by simp) (by
   intro l hl;simp only[ybo,ycm,or_false]at hl;rcases hl with rfl|rfl
   .exact ybk (Nat.le_of_eq (WG _)) (by decide)
   .omega),ya,ZKP (Sha.iV _),ya]
  unfold zz;rw[kv,ya,ZOZ,UJ _ (mO _),ya,kv,ya,ZRo _ _ hm,ya,ZKI,ya,TL,ya];rfl
 .rw[yZ hk,yW (by decide),yX hk]
theorem ZPq(r p:yU){m:yL yB}(hm:m.length=32):WR yD r p m=ab (UX r p m):=by
 unfold WR Qu
 rw[CP,CP,ya,ya,ya,ya,qw (by decide) (by simp) (by
  intro l hl;simp only[ybo,ycm,or_false]at hl;rcases hl with rfl|rfl|rfl
  .exact ybk (Nat.le_of_eq (WG _)) (by decide)
  .exact ybk (Nat.le_of_eq (WG _)) (by decide)
  .omega),ya,ZHl (Sha.iV _),ya]
 rfl
theorem ZRp(k:yU):BW yD k=ab (ah (Key k)):=by
 rw[<-UK];unfold BW tP;rw[ZBd,qq]
theorem ZHK(k:yU){m:yL yB}(hm:m.length=32):VC yD k m=ab (iI k m):=by
 unfold VC iI;rw[ZRp,ya];by_cases hk:Key k
 .rw[yY hk,yX (by decide),yW hk,CP,ya,qw (by decide) (by simp) (by
   intro l hl;simp only[ybo,ycm,or_false]at hl;rcases hl with rfl|rfl
   .exact ybk (Nat.le_of_eq (WG _)) (by decide)
   .omega),ya,ZHl (Sha.iV _),ya]
  unfold SS;rw[oE,ya,ZPp,UJ _ (mO _),ya,oE,ya,ZPq _ _ hm,ya,ZQ4,ya,ZQ2,ya];rw[ybi];rfl
 .rw[yZ hk,yW (by decide),yX hk]
theorem ZPr(z a b:Int):Yj yD z a b=ab (ah (a<=z/\z<=b)):=qx (z >= a) (z<=b) rfl
theorem ZMn(t:aX):Qn yD t=ab (ah (W7 t)):=by
 unfold Qn;simp only[ZPr,ya];refine(ja (ja (ja (ja (ja rfl))))).trans (congrArg ab (decide_eq_decide.2 ?_));constructor
 .rintro⟨h1,h2,h3,h4,h5,h6⟩;exact⟨h1,h3,h4,h2,h5,h6⟩
 .rintro⟨h1,h3,h4,h2,h5,h6⟩;exact⟨h1,h2,h3,h4,h5,h6⟩
theorem ZTN(p:yU):BM yD p=ab (ah (gA p)):=by
 unfold BM;rw[CF,ya];by_cases k:cZ p.toNat
 .rw[yY k,yW rfl];by_cases h:p=1
  .rw[yZ (p:=gA p) λq=>q.2 h,h];rfl
  .rw[yY (p:=gA p) ⟨k,h⟩];exact congrArg ab (bne_iff_ne.2 h)
 .rw[yZ k,yX (by decide),yZ (p:=gA p) λq=>k q.1]
theorem ZMo(i:Int)(ch:Chan)(b:aN):∃x,Zb (XI yD) yD (i,pts b,(0:Int),ch,b)=ab x/\(x=.inl (1,ch,b)/\¬eN b\/x=.inr (i,ch,b)/\eN b):=by
 refine Yn (step:=XI yD) 5 (λk s=>s=(i,pts b,(k:Int),ch,b)/\∀j p,j < k->(pts b)[j]? =ab p->gA p) _ (i:=(i,pts b,(0:Int),ch,b)) ⟨rfl,λj p hj=>by omega⟩ (by omega) ?_ ?_
 .rintro k _ hk ⟨rfl,hj⟩;obtain⟨p,hp,hm⟩:=Zf (l:=pts b) (k:=k) hk;unfold XI;dsimp only;rw[yW (yY (by omega)),Zj hp,ya,ZTN,ya,Zn (by omega)];by_cases h:gA p
  .left;rw[yY h,yX (by decide)];refine⟨_,rfl,rfl,λj q hjk hq=> ?_⟩;by_cases e:j=k
   .subst e;rw[hp]at hq;cases hq;exact h
   .exact hj j q (by omega) hq
  .right;rw[yZ h,yW (by decide)];exact⟨_,rfl,.inl ⟨rfl,λzO=>h (zO p hm)⟩⟩
 .rintro _ ⟨rfl,hj⟩;unfold XI;dsimp only;rw[yX (cE (by omega))];refine⟨_,rfl,.inr ⟨rfl,λp hp=> ?_⟩⟩;obtain⟨j,hj1,hj2⟩:=ybg hp;exact hj j p hj1 (by rw[yac hj1,hj2])
theorem ZDr(ch:Chan){k:Nat}(hk:k < 2){t:aX}{b:aN}(ht:ch.2.2.2.1[k]? =ab t)(hb:ch.2.2.1[k]? =ab b):
 XJ yD ((k:Int),ch)=ab (if W7 t/\eN b then .inl (((k+1:Nat):Int),ch) else .inr (.inl (1,ch))):=by
 unfold XJ;dsimp only;rw[yW (yY (by omega)),yW (ZV (by omega) (by omega)),yap,hb,ya,yW (ZV (by omega) (by omega)),ht,ya,ZMn,ya];obtain⟨x,h1,h2⟩:=ZMo (k:Int) ch b;rw[show([b.1,b.2.1,b.2.2.1,b.2.2.2.1,b.2.2.2.2]:yL yU)=pts b from rfl,h1,ya]
 by_cases q1:W7 t
 .rw[yY q1,yX (by decide)];rcases h2 with⟨rfl,h⟩|⟨rfl,h⟩
  .dsimp only;rw[yX λq=>h q.2]
  .dsimp only;rw[yW ⟨q1,h⟩,Zn (by omega)]
 .rw[yZ q1,yW (by decide),yX λh=>q1 h.1]
theorem ZJn(ch:Chan){t0 t1:aX}{b0 b1:aN}(ht:ch.2.2.2.1=[t0,t1])(hb:ch.2.2.1=[b0,b1]):
 Zb (XJ yD) yD ((0:Int),ch)=ab (if(W7 t0/\eN b0)/\W7 t1/\eN b1 then .inr ch else .inl (1,ch)):=by
 have s0:=ZDr ch (k:=0) (by omega) (t:=t0) (b:=b0) (by rw[ht];rfl) (by rw[hb];rfl);have s1:=ZDr ch (k:=1) (by omega) (t:=t1) (b:=b1) (by rw[ht];rfl) (by rw[hb];rfl);by_cases h0:W7 t0/\eN b0
 .rw[yW h0]at s0;by_cases h1:W7 t1/\eN b1
  .rw[yW h1]at s1;rw[yW ⟨h0,h1⟩];refine Zu 2 (λk:Nat=>((k:Int),ch)) ?_ ?_ (by omega)
   .intro k hk;rcases (show k=0\/k=1 by omega) with rfl|rfl
    .exact s0
    .exact s1
   .unfold XJ;rfl
  .rw[yX h1]at s1;rw[yX λh=>h1 h.2];exact Zu 1 (λk:Nat=>((k:Int),ch)) (λk hk=>by rw[show k=0 by omega];exact s0) s1 (by omega)
 .rw[yX h0]at s0;rw[yX λh=>h0 h.1];exact Zu 0 (λk:Nat=>((k:Int),ch)) (λk hk=>absurd hk (by omega)) s0 (by omega)
theorem ZHL{ch:Chan}(w:dR ch):∃e:Int,mH yD ch=ab e/\BN yD ch=ab e/\(e=0->(1<=ch.2.1/\ch.2.1<=1125899906842624)/\(0<=ch.1.2/\ch.1.2<=63)/\(ch.2.2.2.2=0\/ch.2.2.2.2=1)/\UA ch):=by
 obtain⟨b0,b1,hb⟩:=qy w.b;obtain⟨t0,t1,ht⟩:=qy w.t;have a0:=w.a0;have o0:=w.o0;have o1:=w.o1;obtain⟨⟨id,no⟩,A,bs,ts,op⟩:=ch;dsimp only at hb ht a0 o0 o1;subst hb;subst ht;have hop:=ZDg o0 o1;unfold mH BN;dsimp only;simp only[ZPr,ya];by_cases h1:1<=A/\A<=1125899906842624
 .rw[yX (show¬ah (A < 1)=af by rw[yN];omega),yX (show¬ah (A > 1125899906842624)=af by rw[yN];omega)];rw[yX (show¬(!decide (1<=A/\A<=1125899906842624))=af by rw[yY h1];decide)];by_cases h2:0<=no/\no<=63
  .rw[yX (show¬ah (no < 0)=af by rw[yN];omega),yX (show¬ah (no >= 64)=af by rw[yN];omega)];rw[yX (show¬(!decide (0<=no/\no<=63))=af by rw[yY h2];decide),hop];by_cases h3:0<=op/\op<=1
   .rw[yY h3,yX (by decide),yX (by decide),ZHp _ _ rfl rfl,ZJn _ rfl rfl,ya,ya];by_cases h4:(W7 t0/\eN b0)/\W7 t1/\eN b1
    .rw[yW h4];dsimp only;obtain⟨_,_,_,q0,_⟩:=h4.1.1;obtain⟨p0,_⟩:=h4.1.1;obtain⟨_,_,_,q1,_⟩:=h4.2.1;obtain⟨p1,_⟩:=h4.2.1
     have n0:lw yD t0.2.1 t1.2.1=if t0.2.1+t1.2.1<=1125899906842624 then ab (t0.2.1+t1.2.1,af) else ab (0,ag):=by
      unfold lw pQ;rw[yW (yY (show t0.2.1 >= 0 by omega)),yW (yY (show t1.2.1 >= 0 by omega)),ya,ya,yY (show t0.2.1<=1125899906842624 by omega),yY (show t1.2.1<=1125899906842624 by omega),yX (by decide),yX (by decide),ZT (z:=1125899906842624 - t1.2.1) (by omega) (by omega),ZT (z:=t0.2.1+t1.2.1) (by omega) (by omega)];by_cases h:t0.2.1+t1.2.1<=1125899906842624
      .rw[yX (cE (by omega)),yW h]
      .rw[yW (yY (by omega)),yX h]
     rw[ybm,List.getElem?_cons_succ,ybm,ya,ya,ya,ya,n0,ZT (z:=t0.2.1+t1.2.1) (by omega) (by omega)];refine⟨if t0.2.1+t1.2.1 > A then 10 else 0, ?_, ?_,λ_=>⟨h1,h2,by omega,ZHn.2 h4⟩⟩
     .by_cases h5:t0.2.1+t1.2.1<=1125899906842624
      .rw[yW h5,ya,yX (show¬(!true)=af by decide)];by_cases h6:t0.2.1+t1.2.1 > A
       .rw[yW (yY h6),yW h6]
       .rw[yX (by rw[yN];exact h6),yX h6]
      .rw[yX h5,ya,yW (show(!false)=af by decide),yW (by omega)]
     .by_cases h6:t0.2.1+t1.2.1 > A
      .rw[yW (yY h6),yW h6]
      .rw[yX (by rw[yN];exact h6),yX h6]
    .rw[yX h4];exact⟨1,rfl,rfl,λh=>absurd h (by decide)⟩
   .rw[yZ h3,yW (by decide),yW (by decide)];exact⟨1,rfl,rfl,λh=>absurd h (by decide)⟩
  .rw[yW (show(!decide (0<=no/\no<=63))=af by rw[yZ h2];rfl)];refine⟨1, ?_,rfl,λh=>absurd h (by decide)⟩;by_cases h:no < 0
   .rw[yW (yY h)]
   .rw[yX (by rw[yN];exact h),yW (yY (by omega))]
 .rw[yW (show(!decide (1<=A/\A<=1125899906842624))=af by rw[yZ h1];rfl)];refine⟨1, ?_,rfl,λh=>absurd h (by decide)⟩;by_cases h:A < 1
  .rw[yW (yY h)]
  .rw[yX (by rw[yN];exact h),yW (yY (by omega))]
theorem ZJo(k:dV):V5 yD k=ab (dC k):=by
 unfold V5;rw[oE,ya,oE,ya,oE,ya,oE,ya,oE,ya];rfl
theorem ZJp{l:yL yU}(hl:l.length=5)(k:aj):∃x,Zb (YS yD) yD (l,(0:Int),k)=ab x/\(x=.inl (ag,k)/\(¬∀e,e∈l->e.toNat < bO)\/x=.inr k/\∀e,e∈l->e.toNat < bO):=by
 refine Yn (step:=YS yD) 5 (λi s=>s=(l,(i:Int),k)/\∀j e,j < i->l[j]? =ab e->e.toNat < bO) _ (i:=(l,(0:Int),k)) ⟨rfl,λj e h=>by omega⟩ (by omega) ?_ ?_
 .rintro i _ hi ⟨rfl,hj⟩;obtain⟨e,he,hm⟩:=Zf (l:=l) (k:=i) (by omega);unfold YS;dsimp only;rw[yW (yY (by omega)),Zj he,ya,ZBd,ya];by_cases c:e.toNat < bO
  .left;rw[yY c,yX (by decide),Zn (by omega)]
   all_goals grind
  grind
 .rintro _ ⟨rfl,hj⟩;unfold YS;dsimp only;rw[yX (show¬ah (((5:Nat):Int) < 5)=af by decide)];refine⟨_,rfl,.inr ⟨rfl,λe he=> ?_⟩⟩;obtain⟨j,j1,j2⟩:=ybg he;exact hj j e (by omega) (by rw[<-j2];exact yac j1)
theorem uK{k:aj}(w:dR k.1):YA yD k=ab (jc k):=by
 obtain⟨e,e1,e2,_⟩:=ZHL w;unfold YA jc;rw[e2,ya,e1];by_cases c0:e=0
 .rw[yX (show¬(e !=0)=af by rw[yE];exact λh=>h c0)];by_cases c1:0<=k.2.2.1
  .rw[yX (show¬ah (k.2.2.1 < 0)=af by rw[yN];omega)];by_cases c2:k.2.2.1<=1
   .rw[yX (show¬ah (k.2.2.1 > 1)=af by rw[yN];omega)];by_cases c3:0<=k.2.2.2.1
    .rw[yX (show¬ah (k.2.2.2.1 < 0)=af by rw[yN];omega)];by_cases c4:k.2.2.2.1<=1048576
     .rw[yX (show¬ah (k.2.2.2.1 > 1048576)=af by rw[yN];omega)];by_cases c5:0<=k.2.2.2.2
      .rw[yX (show¬ah (k.2.2.2.2 < 0)=af by rw[yN];omega)];by_cases c6:k.2.2.2.2<=1048576
       .rw[yX (show¬ah (k.2.2.2.2 > 1048576)=af by rw[yN];omega)];obtain⟨x,h1,h2⟩:=ZJp (l:=gB k.2.1) rfl k;rw[show[k.2.1.1,k.2.1.2.1,k.2.1.2.2.1,k.2.1.2.2.2.1,k.2.1.2.2.2.2.1]=gB k.2.1 from rfl,h1,ya]
        rcases h2 with⟨rfl,hk⟩|⟨rfl,hk⟩
        .grind
        dsimp only;obtain⟨bs,hb,_⟩:=Zf (l:=k.1.2.2.1) (k:=k.2.2.1.toNat) (by rw[w.b];omega);rw[ZJo,ya,yW (ZV (by omega) (by omega)),hb,ya];exact congrArg ab (decide_eq_decide.2 ⟨λh=>⟨hk,by rw[c0],⟨c1,c2⟩,by rw[h],⟨c3,c4⟩,c5,c6⟩,λh=>(yaw h.2.2.2.1).symm⟩)
       grind
      grind
     grind
    grind
   grind
  grind
 simp_all
def dT(l:yL Int):yL yB:=bA (λz:Int=>Xa z.toNat) l
def gq(l:yL yU):yL yB:=bA (λx:yU=>dx x.toNat) l
def In64(l:yL Int):Prop:=∀z,z∈l->0<=z/\z<=9223372036854775807
theorem UZ{l:yL Int}(h:In64 l){n:Nat}(hn:l.length<=n)(k:Nat):(dT (l.take k)).length<=n*9:=jO (λz hz=>by have:=h z hz;exact Z4 (by omega)) hn k
theorem ZBn{l:yL yU}{n:Nat}(hn:l.length<=n)(k:Nat):(gq (l.take k)).length<=n*8:=jO (λz hz=>by rw[QL];exact yj _) hn k
theorem mQ{l:yL Int}(h:In64 l){n:Nat}(hn:l.length<=n):(dT l).length<=n*9:=by have:=UZ h hn l.length;rwa [yai]at this
theorem mR{l:yL yU}{n:Nat}(hn:l.length<=n):(gq l).length<=n*8:=by have:=ZBn hn l.length;rwa [yai]at this
theorem DF{l:yL Int}(h:In64 l)(hn:l.length<=10){b:yL yB}(hb:b.length<=10000):pV yD l b=ab (b++dT l):=by
 have e:=Zu (step:=Vg yD) l.length (λk:Nat=>(l,(l.length:Int),(k:Int),b++dT (l.take k))) (x:=b++dT l) (by
  intro k hk;obtain⟨z,hz,hm⟩:=Zf hk;obtain⟨z0,z1⟩:=h z hm;have hl:=UZ h hn k;unfold Vg;dsimp only;rw[yW (ZE hk),Zj hz,ya,iX z0 z1 (by rw[yl];omega),ya,Zn (by omega),yad,show dT (l.take (k+1))=dT (l.take k)++Xa z.toNat from Qc hz]) (by
  unfold Vg;dsimp only;rw[yX (by rw[ZA];decide),yai]) (by omega)
 have e:Zb (Vg yD) yD (l,(l.length:Int),(0:Int),b++[])=_:=e;rw[yar]at e;unfold pV;grind
theorem uL{l:yL Int}(h:In64 l)(hn:l.length<=10){b:yL yB}(hb:b.length<=10000):XC yD b l=ab (b++dT l):=by
 have e:=Zu (step:=Xc yD) l.length (λk:Nat=>(b++dT (l.take k),l,(k:Int))) (x:=b++dT l) (by
  intro k hk;obtain⟨z,hz,hm⟩:=Zf hk;obtain⟨z0,z1⟩:=h z hm;have hl:=UZ h hn k;unfold Xc;dsimp only;rw[yW (ZE hk),Zj hz,ya,jP z0 z1 (by rw[yl];omega),ya,Zn (by omega),yad,show dT (l.take (k+1))=dT (l.take k)++Xa z.toNat from Qc hz]) (by
  unfold Xc;dsimp only;rw[yX (by rw[ZA];decide),yai]) (by omega)
 have e:Zb (Xc yD) yD (b++[],l,(0:Int))=_:=e;rw[yar]at e;unfold XC;grind
theorem ZBo{l:yL yU}(hn:l.length<=10){b:yL yB}(hb:b.length<=10000):tO yD l b=ab (b++gq l):=by
 have e:=Zu (step:=Vh yD) l.length (λk:Nat=>(l,(l.length:Int),(k:Int),b++gq (l.take k))) (x:=b++gq l) (by
  intro k hk;obtain⟨z,hz,hm⟩:=Zf hk;have hl:=ZBn hn k;unfold Vh;dsimp only;rw[yW (ZE hk),Zj hz,ya,TO z (by rw[yl];omega),ya,Zn (by omega),yad,show gq (l.take (k+1))=gq (l.take k)++dx z.toNat from Qc hz]) (by
  unfold Vh;dsimp only;rw[yX (by rw[ZA];decide),yai]) (by omega)
 have e:Zb (Vh yD) yD (l,(l.length:Int),(0:Int),b++[])=_:=e;rw[yar]at e;unfold tO;grind
theorem ZwO{l:yL yU}(hn:l.length<=10){b:yL yB}(hb:b.length<=10000):Vy yD b l=ab (b++gq l):=by
 have e:=Zu (step:=Xd yD) l.length (λk:Nat=>(b++gq (l.take k),l,(k:Int))) (x:=b++gq l) (by
  intro k hk;obtain⟨z,hz,hm⟩:=Zf hk;have hl:=ZBn hn k;unfold Xd;dsimp only;rw[yW (ZE hk),Zj hz,ya,TY z (by rw[yl];omega),ya,Zn (by omega),yad,show gq (l.take (k+1))=gq (l.take k)++dx z.toNat from Qc hz]) (by
  unfold Xd;dsimp only;rw[yX (by rw[ZA];decide),yai]) (by omega)
 have e:Zb (Xd yD) yD (b++[],l,(0:Int))=_:=e;rw[yar]at e;unfold Vy;grind
def fm(b:aN):yL yU:=[b.1,b.2.1,b.2.2.1,b.2.2.2.1,b.2.2.2.2]
def fF(t:aX):yL Int:=[t.1,t.2.1,t.2.2.1,t.2.2.2.1,t.2.2.2.2.1,t.2.2.2.2.2]
def ij(b:aN)(t:aX):yL yB:=gq (fm b)++dT (fF t)
def ktB(k:dV):yL yB:=gq (gB k)++k.2.2.2.2.2
def gP(k:aj):yL yB:=dT [k.2.2.1,k.2.2.2.1,k.2.2.2.2]++k.1.1.1++dT [k.1.1.2,k.1.2.1,k.1.2.2.2.2]
def qI(k:aj)(b0 b1:aN)(t0 t1:aX):yL yB:=gP k++ij b0 t0++ij b1 t1++ktB k.2.1
structure iJ(k:aj)(b0 b1:aN)(t0 t1:aX):Prop where
 b:k.1.2.2.1=[b0,b1]
 t:k.1.2.2.2.1=[t0,t1]
 n1:In64 [k.2.2.1,k.2.2.2.1,k.2.2.2.2]
 n2:In64 [k.1.1.2,k.1.2.1,k.1.2.2.2.2]
 t0:In64 (fF t0)
 t1:In64 (fF t1)
 h1:k.1.1.1.length=32
 h2:k.2.1.2.2.2.2.2.length=32
theorem qJ{t:aX}(h:In64 (fF t))(b:aN):(ij b t).length<=94:=by
 have h1:=mQ h (n:=6) (by simp[fF]);have h2:=mR (l:=fm b) (n:=5) (by simp[fm]);unfold ij;grind
theorem ZFq{k:aj}{b0 b1:aN}{t0 t1:aX}(h:iJ k b0 b1 t0 t1):(gP k).length<=86:=by
 have h1:=mQ h.n1 (n:=3) (by simp);have h2:=mQ h.n2 (n:=3) (by simp);have h3:=h.h1;unfold gP;grind
theorem ZRq{k:aj}{b0 b1:aN}{t0 t1:aX}(h:iJ k b0 b1 t0 t1):(qI k b0 b1 t0 t1).length<=400:=by
 have h1:=ZFq h;have h2:=qJ h.t0 b0;have h3:=qJ h.t1 b1;have h4:=mR (l:=gB k.2.1) (n:=5) (by simp[gB]);have h5:=h.h2;unfold qI ktB;grind
theorem ZRr{k:aj}{b0 b1:aN}{t0 t1:aX}(h:iJ k b0 b1 t0 t1):zm yD k=ab (qI k b0 b1 t0 t1):=by
 have l1:=mQ h.n1 (n:=3) (by simp);have l2:=mQ h.n2 (n:=3) (by simp);have l3:=h.h1;have l4:=ZFq h;have l5:=qJ h.t0 b0;have l6:=qJ h.t1 b1;have l7:=mR (l:=gB k.2.1) (n:=5) (by simp[gB]);have l8:=h.h2;unfold zm;rw[DF h.n1 (by simp) (by simp),ya,yy,CJ (by omega) (by omega),ya,DF h.n2 (by simp) (by rw[yl];omega),ya]
 have e:=Zu (step:=Vu yD) 2 (λj:Nat=>([b0,b1],(j:Int),k,if j=0 then gP k else if j=1 then gP k++ij b0 t0 else gP k++ij b0 t0++ij b1 t1)) (x:=(k,gP k++ij b0 t0++ij b1 t1)) (by
  intro j hj;rcases (show j=0\/j=1 by omega) with rfl|rfl
  .unfold Vu;dsimp only;rw[yW (yY (by decide)),Zj (k:=0) (show[b0,b1][0]? =ab b0 from rfl),ya,yW rfl,show[b0.1,b0.2.1,b0.2.2.1,b0.2.2.2.1,b0.2.2.2.2]=fm b0 from rfl,ZBo (by simp[fm]) (by omega),ya,yW (ZV (by omega) (by omega)),h.t]
   show((ab t0).bind _)=_;have q:=mR (l:=fm b0) (n:=5) (by simp[fm]);rw[ya,show[t0.1,t0.2.1,t0.2.2.1,t0.2.2.2.1,t0.2.2.2.2.1,t0.2.2.2.2.2]=fF t0 from rfl,DF h.t0 (by simp[fF]) (by rw[yl];omega),ya,yad]
   rfl
  .unfold Vu;dsimp only;rw[yW (yY (by decide)),Zj (k:=1) (show[b0,b1][1]? =ab b1 from rfl),ya,yX (by decide),yW rfl,show[b1.1,b1.2.1,b1.2.2.1,b1.2.2.2.1,b1.2.2.2.2]=fm b1 from rfl,ZBo (by simp[fm]) (by rw[yl];omega),ya,yW (ZV (by omega) (by omega)),h.t]
   show((ab t1).bind _)=_;have q:=mR (l:=fm b1) (n:=5) (by simp[fm]);rw[ya,show[t1.1,t1.2.1,t1.2.2.1,t1.2.2.2.1,t1.2.2.2.2.1,t1.2.2.2.2.2]=fF t1 from rfl,DF h.t1 (by simp[fF]) (by rw[yl,yl];omega),ya,yad]
   rfl) (by
  unfold Vu;dsimp only;rw[yX (show¬ah (((2:Nat):Int) < 2)=af by decide)];rfl) (by omega)
 have e:Zb (Vu yD) yD ([b0,b1],(0:Int),k,gP k)=_:=e;rw[h.b,show dT [k.2.2.1,k.2.2.2.1,k.2.2.2.2]++k.1.1.1++dT [k.1.1.2,k.1.2.1,k.1.2.2.2.2]=gP k from rfl,e,ya]
 dsimp only;rw[show[k.2.1.1,k.2.1.2.1,k.2.1.2.2.1,k.2.1.2.2.2.1,k.2.1.2.2.2.2.1]=gB k.2.1 from rfl,ZBo (by simp[gB]) (by rw[yl,yl];omega),ya,CJ (by rw[yl,yl,yl];omega) (by omega),ya,yad]
 rfl
theorem ZHM{k:aj}{b0 b1:aN}{t0 t1:aX}(h:iJ k b0 b1 t0 t1):V8 yD k=ab (qI k b0 b1 t0 t1):=by
 have l1:=mQ h.n1 (n:=3) (by simp);have l2:=mQ h.n2 (n:=3) (by simp);have l3:=h.h1;have l4:=ZFq h;have l5:=qJ h.t0 b0;have l6:=qJ h.t1 b1;have l7:=mR (l:=gB k.2.1) (n:=5) (by simp[gB]);have l8:=h.h2;unfold V8;rw[uL h.n1 (by simp) (by simp),ya,yy,CR (by omega) (by omega),ya,uL h.n2 (by simp) (by rw[yl];omega),ya]
 have e:=Zu (step:=YQ yD) 2 (λj:Nat=>(if j=0 then gP k else if j=1 then gP k++ij b0 t0 else gP k++ij b0 t0++ij b1 t1,(j:Int),k)) (x:=(gP k++ij b0 t0++ij b1 t1,k)) (by
  intro j hj;rcases (show j=0\/j=1 by omega) with rfl|rfl
  .unfold YQ;dsimp only;rw[yW (yY (by decide)),yW (ZV (by omega) (by omega)),h.b,h.t];show((ab b0).bind λa=>_)=_;rw[ya,yW (ZV (by omega) (by omega))];show((ab t0).bind λc=>_)=_;have q:=mR (l:=fm b0) (n:=5) (by simp[fm]);rw[ya,yW rfl,show[b0.1,b0.2.1,b0.2.2.1,b0.2.2.2.1,b0.2.2.2.2]=fm b0 from rfl,ZwO (by simp[fm]) (by omega),ya,show[t0.1,t0.2.1,t0.2.2.1,t0.2.2.2.1,t0.2.2.2.2.1,t0.2.2.2.2.2]=fF t0 from rfl,uL h.t0 (by simp[fF]) (by rw[yl];omega),ya,yad]
   rfl
  .unfold YQ;dsimp only;rw[yW (yY (by decide)),yW (ZV (by omega) (by omega)),h.b,h.t];show((ab b1).bind λa=>_)=_;rw[ya,yW (ZV (by omega) (by omega))];show((ab t1).bind λc=>_)=_;have q:=mR (l:=fm b1) (n:=5) (by simp[fm]);rw[ya,yX (by decide),yW rfl,show[b1.1,b1.2.1,b1.2.2.1,b1.2.2.2.1,b1.2.2.2.2]=fm b1 from rfl,ZwO (by simp[fm]) (by rw[yl];omega),ya,show[t1.1,t1.2.1,t1.2.2.1,t1.2.2.2.1,t1.2.2.2.2.1,t1.2.2.2.2.2]=fF t1 from rfl,uL h.t1 (by simp[fF]) (by rw[yl,yl];omega),ya,yad]
   rfl) (by
  unfold YQ;dsimp only;rw[yX (show¬ah (((2:Nat):Int) < 2)=af by decide)];rfl) (by omega)
 have e:Zb (YQ yD) yD (gP k,(0:Int),k)=_:=e;rw[show dT [k.2.2.1,k.2.2.2.1,k.2.2.2.2]++k.1.1.1++dT [k.1.1.2,k.1.2.1,k.1.2.2.2.2]=gP k from rfl,e,ya]
 dsimp only;rw[show[k.2.1.1,k.2.1.2.1,k.2.1.2.2.1,k.2.1.2.2.2.1,k.2.1.2.2.2.2.1]=gB k.2.1 from rfl,ZwO (by simp[gB]) (by rw[yl,yl];omega),ya,CR (by rw[yl,yl,yl];omega) (by omega),ya,yad]
 rfl
theorem ZRU{k:aj}(w:dR k.1)(h1:k.1.1.1.length=32)(h2:k.2.1.2.2.2.2.2.length=32)(hr:jc k=af):∃b0 b1 t0 t1,iJ k b0 b1 t0 t1:=by
 unfold jc at hr;obtain⟨_,g1,g2,g3,g4,g5⟩:=yF hr;obtain⟨e,e1,_,e2⟩:=ZHL w;rw[e1]at g1;obtain⟨a1,a2,a3,a4⟩:=e2 (yaw g1);obtain⟨b0,b1,hb⟩:=qy w.b;obtain⟨t0,t1,ht⟩:=qy w.t;have q0:=(a4 0 (by decide) t0 b0 (by rw[ht];rfl) (by rw[hb];rfl)).1;have q1:=(a4 1 (by decide) t1 b1 (by rw[ht];rfl) (by rw[hb];rfl)).1
 have TZ:∀t:aX,W7 t->In64 (fF t):=by
  intro t q z hz;unfold W7 at q;simp only[fF,ybo,ycm,or_false]at hz;grind
 refine⟨b0,b1,t0,t1,hb,ht, ?_, ?_,TZ t0 q0,TZ t1 q1,h1,h2⟩
 .intro z hz;grind
 .intro z hz;grind
theorem ZPs{key b:yL yB}(hk:key.length<=50000)(hb:b.length<=60000):∃v,ze yD key b=ab (v,dF (gp key b.length) b):=by
 obtain⟨v,hv⟩:=ZDq hk (n:=b.length) (by omega);have hl:=oF key b.length;generalize hs:gp key b.length=s at hv hl ⊢;refine⟨v, ?_⟩;unfold ze;rw[hv,ya];dsimp only
 rw[show(b,(b.length:Int),(0:Int),key,([]:yL Unit),([]:yL yB),v,s)=(λk:Nat=>(b,(b.length:Int),(k:Int),key,([]:yL Unit),([]:yL yB),v,iH s b k)) 0 from rfl,
  Zu (x:=(key,([]:yL Unit),([]:yL yB),v,dF s b)) b.length (λk:Nat=>(b,(b.length:Int),(k:Int),key,([]:yL Unit),([]:yL yB),v,iH s b k)) ?_ ?_ (by omega),ya]
 .intro k hk;obtain⟨y,hy,_⟩:=Zf hk;obtain⟨x,hx,_⟩:=Zf (l:=s) (k:=k) (by omega);unfold zc;dsimp only;rw[yW (ZE hk),yW (ZV (by omega) (by rw[DD hl];omega)),yap,ZHF hl hx,ya,Zj hy,ya,ya,Zn (by omega),ZHG hl hx hy,yW (ZV (by omega) (by rw[DD hl];omega))]
 .unfold zc;dsimp only;rw[yX (by rw[ZA];decide)];unfold iH;rw[ybs (by rw[je hl];exact yj _),List.drop_of_length_le (by omega),yar]
theorem ZRs{key b:yL yB}(hk:key.length<=50000)(hb:b.length<=50000):zf yD key b=ab (qH key b):=by
 obtain⟨v,hv⟩:=ZPs hk (b:=b) (by omega);have hx:=je (oF key b.length);have h8:=DE key (dF (gp key b.length) b);unfold zf;rw[yX (cE (by omega)),hv,ya];dsimp only;rw[ZBj hk (by omega),ya,yW (ZL (by omega) (by omega))];rfl
theorem ZRt(key b:yL yB):(qH key b).length=b.length+8:=by
 have hx:=je (oF key b.length);have h8:=DE key (dF (gp key b.length) b);unfold qH;grind
theorem ZMp{key:yL yB}(hk:key.length=32){k:aj}(w:dR k.1)(h1:k.1.1.1.length=32)(h2:k.2.1.2.2.2.2.2.length=32):∃a e,zn yD key k=ab (a,e)/\BS yD key k=ab (a,e)/\a.length<=1000:=by
 unfold zn BS;rw[uB w,uK w,ya,ya]
 cases hr:jc k with
 |false=>exact⟨_,_,rfl,rfl,by simp⟩
 |true=>
  obtain⟨b0,b1,t0,t1,hk4⟩:=ZRU w h1 h2 hr;have hl:=ZRq hk4;rw[yX (by decide),yX (by decide),ZRr hk4,ZHM hk4];simp only[ya];rw[ZRs (by omega) (by omega),ZHJ (by omega) (by omega)];simp only[ya];exact⟨_,_,rfl,rfl,by rw[ZRt];omega⟩
noncomputable def rqF(id:yL yB)(n me:Int):yL yB:=Sha.fO (gz OE [id++dT [n,me]])
theorem ZKY(id:yL yB)(n me:Int):(rqF id n me).length=32:=Sha.iV _
theorem ZFr{ch:Chan}{me:Int}(hi:ch.1.1.length=32)(hn:In64 [ch.1.2,me]):zX yD ch me=ab (rqF ch.1.1 ch.1.2 me)/\VH yD ch me=ab (rqF ch.1.1 ch.1.2 me):=by
 have l1:=mQ hn (n:=2) (by simp);obtain⟨n0,n1⟩:=hn ch.1.2 (by simp);obtain⟨m0,m1⟩:=hn me (by simp);have r1:=Z4 (n:=ch.1.2.toNat) (by omega);have e:dT [ch.1.2,me]=Xa ch.1.2.toNat++Xa me.toNat:=by simp[dT,bA]
 have hone:∀l,l∈[ch.1.1++dT [ch.1.2,me]]->l.length<=60000:=λl hl=>by
  grind
 constructor
 .unfold zX;rw[CJ (by simp) (by omega),ya,yy,iX n0 n1 (by omega),ya,iX m0 m1 (by rw[yl];omega),ya,yad, <-e,mP (by decide) (by simp) hone,ya];rfl
 .unfold VH;rw[CR (by simp) (by omega),ya,yy,uL hn (by simp) (by omega),ya,qw (by decide) (by simp) hone,ya];rfl
theorem ZPt{k:aj}(w:dR k.1)(h1:k.1.1.1.length=32)(h2:k.2.1.2.2.2.2.2.length=32):∃m,AA yD k=ab m/\BZ yD k=ab m:=by
 unfold AA BZ;rw[uB w,uK w,ya,ya]
 cases hr:jc k with
 |false=>exact⟨_,rfl,rfl⟩
 |true=>
  obtain⟨b0,b1,t0,t1,hk4⟩:=ZRU w h1 h2 hr
  obtain⟨g1,g2⟩:=ZFr (ch:=k.1) (me:=k.2.2.1) h1 (λz hz=>by
   simp only[ybo,ycm,or_false]at hz;rcases hz with rfl|rfl
   .exact hk4.n2 _ (by simp)
   .exact hk4.n1 _ (by simp))
  rw[yX (by decide),yX (by decide),g1,g2,ya,ya,ZKX _ (ZKY _ _ _),ZHK _ (ZKY _ _ _)];simp only[ya];exact⟨_,rfl,rfl⟩
def Sm(r:ai):Prop:=r.1.length<=2000000
theorem XV{r:ai}(h:Sm r):Sm (ZZ r).2:=ybk (kD r).2.2 h
theorem WX{r:ai}(h:Sm r):Sm (Xy r).2:=ybk (ZPg r) h
theorem ZKZ{r:ai}(h:Sm r):Sm (QN r).2:=ybk (UP r).2 h
theorem jf{α:Type}{r:ai}(f:Int×ai->yO α)(h:Sm r):(ZN yD r).bind f=f (ZZ r):=by rw[ZTL h,ya]
theorem kF{α:Type}{r:ai}(f:yU×ai->yO α)(h:Sm r):(ZW yD r).bind f=f (Xy r):=by rw[ZRh h,ya]
theorem ZUX{α:Type}{r:ai}(f:yL yB×ai->yO α)(h:Sm r):(WN yD r).bind f=f (QN r):=by rw[ZPm h,ya]
theorem jg{α:Type}{r:ai}(f:Int×ai->yO α)(h:Sm r):(Zt yD r).bind f=f (ZZ r):=by rw[ZRj h,ya]
theorem kG{α:Type}{r:ai}(f:yU×ai->yO α)(h:Sm r):(Zx yD r).bind f=f (Xy r):=by rw[ZRk h,ya]
theorem ZRV{α:Type}{r:ai}(f:yL yB×ai->yO α)(h:Sm r):(Yl yD r).bind f=f (QN r):=by rw[ZMj h,ya]
def ik(r:ai):(Int×Int×Int)×ai:=(((ZZ r).1,(ZZ (ZZ r).2).1,(ZZ (ZZ (ZZ r).2).2).1),(ZZ (ZZ (ZZ r).2).2).2)
def cC(r:ai):aN×ai:=
 (((Xy r).1,(Xy (Xy r).2).1,(Xy (Xy (Xy r).2).2).1,(Xy (Xy (Xy (Xy r).2).2).2).1,(Xy (Xy (Xy (Xy (Xy r).2).2).2).2).1),(Xy (Xy (Xy (Xy (Xy r).2).2).2).2).2)
def dD(r:ai):aX×ai:=
 (((ZZ r).1,(ZZ (ZZ r).2).1,(ZZ (ZZ (ZZ r).2).2).1,(ZZ (ZZ (ZZ (ZZ r).2).2).2).1,(ZZ (ZZ (ZZ (ZZ (ZZ r).2).2).2).2).1,(ZZ (ZZ (ZZ (ZZ (ZZ (ZZ r).2).2).2).2).2).1),(ZZ (ZZ (ZZ (ZZ (ZZ (ZZ r).2).2).2).2).2).2)
def oG(r:ai):dV×ai:=
 (((cC r).1.1,(cC r).1.2.1,(cC r).1.2.2.1,(cC r).1.2.2.2.1,(cC r).1.2.2.2.2,(QN (cC r).2).1),(QN (cC r).2).2)
theorem qK{r:ai}{a b c:Int×ai}(ha:ZZ r=a)(hb:ZZ a.2=b)(hc:ZZ b.2=c):ik r=((a.1,b.1,c.1),c.2):=by
 subst ha hb hc;rfl
theorem uM{r:ai}{a b c d e:yU×ai}(ha:Xy r=a)(hb:Xy a.2=b)(hc:Xy b.2=c)(hd:Xy c.2=d)(he:Xy d.2=e):cC r=((a.1,b.1,c.1,d.1,e.1),e.2):=by
 subst ha hb hc hd he;rfl
theorem ZJq{r:ai}{a b c d e f:Int×ai}(ha:ZZ r=a)(hb:ZZ a.2=b)(hc:ZZ b.2=c)(hd:ZZ c.2=d)(he:ZZ d.2=e)(hf:ZZ e.2=f):dD r=((a.1,b.1,c.1,d.1,e.1,f.1),f.2):=by
 subst ha hb hc hd he hf;rfl
theorem ZJr{r:ai}{x:aN×ai}{h:yL yB×ai}(hx:cC r=x)(hh:QN x.2=h):oG r=((x.1.1,x.1.2.1,x.1.2.2.1,x.1.2.2.2.1,x.1.2.2.2.2,h.1),h.2):=by
 subst hx hh;rfl
theorem qM{r:ai}(h:Sm r):Sm (cC r).2:=WX (WX (WX (WX (WX h))))
theorem qQ{r:ai}(h:Sm r):Sm (dD r).2:=XV (XV (XV (XV (XV (XV h)))))
theorem ZPu(r:ai):jd r (ik r).2 (dT [(ik r).1.1,(ik r).1.2.1,(ik r).1.2.2]):=by
 obtain⟨a,ha⟩:∃a,ZZ r=a:=⟨_,rfl⟩;obtain⟨b,hb⟩:∃b,ZZ a.2=b:=⟨_,rfl⟩;obtain⟨c,hc⟩:∃c,ZZ b.2=c:=⟨_,rfl⟩;have h1:=lH r;have h2:=lH a.2;have h3:=lH b.2;rw[ha]at h1;rw[hb]at h2;rw[hc]at h3;rw[qK ha hb hc,show dT [a.1,b.1,c.1]=Xa a.1.toNat++Xa b.1.toNat++Xa c.1.toNat by simp[dT,bA]];exact(h1.trans h2).trans h3
theorem ZJs(r:ai):jd r (cC r).2 (gq (fm (cC r).1)):=by
 obtain⟨a,ha⟩:∃a,Xy r=a:=⟨_,rfl⟩;obtain⟨b,hb⟩:∃b,Xy a.2=b:=⟨_,rfl⟩;obtain⟨c,hc⟩:∃c,Xy b.2=c:=⟨_,rfl⟩;obtain⟨d,hd⟩:∃d,Xy c.2=d:=⟨_,rfl⟩;obtain⟨e,he⟩:∃e,Xy d.2=e:=⟨_,rfl⟩;have h1:=uJ r;have h2:=uJ a.2;have h3:=uJ b.2;have h4:=uJ c.2;have h5:=uJ d.2;rw[ha]at h1;rw[hb]at h2;rw[hc]at h3;rw[hd]at h4;rw[he]at h5;rw[uM ha hb hc hd he,show gq (fm (a.1,b.1,c.1,d.1,e.1))=dx a.1.toNat++dx b.1.toNat++dx c.1.toNat++dx d.1.toNat++dx e.1.toNat by simp[gq,bA,fm]];exact(((h1.trans h2).trans h3).trans h4).trans h5
theorem ZPv(r:ai):jd r (dD r).2 (dT (fF (dD r).1))/\In64 (fF (dD r).1):=by
 obtain⟨a,ha⟩:∃a,ZZ r=a:=⟨_,rfl⟩;obtain⟨b,hb⟩:∃b,ZZ a.2=b:=⟨_,rfl⟩;obtain⟨c,hc⟩:∃c,ZZ b.2=c:=⟨_,rfl⟩;obtain⟨d,hd⟩:∃d,ZZ c.2=d:=⟨_,rfl⟩;obtain⟨e,he⟩:∃e,ZZ d.2=e:=⟨_,rfl⟩;obtain⟨f,hf⟩:∃f,ZZ e.2=f:=⟨_,rfl⟩;have h1:=lH r;have h2:=lH a.2;have h3:=lH b.2;have h4:=lH c.2;have h5:=lH d.2;have h6:=lH e.2;have i1:=kD r;have i2:=kD a.2;have i3:=kD b.2;have i4:=kD c.2;have i5:=kD d.2;have i6:=kD e.2;rw[ha]at h1 i1;rw[hb]at h2 i2;rw[hc]at h3 i3;rw[hd]at h4 i4;rw[he]at h5 i5;rw[hf]at h6 i6;rw[ZJq ha hb hc hd he hf];refine⟨?_,λz hz=> ?_⟩
 .rw[show dT (fF (a.1,b.1,c.1,d.1,e.1,f.1))=Xa a.1.toNat++Xa b.1.toNat++Xa c.1.toNat++Xa d.1.toNat++Xa e.1.toNat++Xa f.1.toNat by simp[dT,bA,fF]];exact((((h1.trans h2).trans h3).trans h4).trans h5).trans h6
 .simp only[fF,ybo,ycm,or_false]at hz;grind
theorem ZRW(r:ai):In64 [(ik r).1.1,(ik r).1.2.1,(ik r).1.2.2]:=by
 obtain⟨a,ha⟩:∃a,ZZ r=a:=⟨_,rfl⟩;obtain⟨b,hb⟩:∃b,ZZ a.2=b:=⟨_,rfl⟩;obtain⟨c,hc⟩:∃c,ZZ b.2=c:=⟨_,rfl⟩;have i1:=kD r;have i2:=kD a.2;have i3:=kD b.2;rw[ha]at i1;rw[hb]at i2;rw[hc]at i3;rw[qK ha hb hc];intro z hz;grind
theorem ZTO(r:ai):jd r (oG r).2 (ktB (oG r).1)/\(oG r).1.2.2.2.2.2.length=32:=by
 have h1:=ZJs r;obtain⟨x,hx⟩:∃x,cC r=x:=⟨_,rfl⟩;obtain⟨h,hh⟩:∃h,QN x.2=h:=⟨_,rfl⟩;have h2:=ZHD x.2;have h3:=UP x.2;rw[hx]at h1;rw[hh]at h2 h3;rw[ZJr hx hh];exact⟨h1.trans h2,h3.1⟩
structure KpR(r:ai)(k:aj)(r':ai):Prop where
 ex:∃b0 b1 t0 t1,iJ k b0 b1 t0 t1/\jd r r' (qI k b0 b1 t0 t1)
 wf:dR k.1
def z5:aN:=(0,0,0,0,0)
def z6:aX:=(0,0,0,0,0,0)
def oH(x:Int×Int×Int)(h:yL yB)(y:Int×Int×Int)(b0:aN)(t0:aX)(b1:aN)(t1:aX)(kt:dV):aj:=(((h,y.1),y.2.1,[b0,b1],[t0,t1],y.2.2),kt,x.1,x.2.1,x.2.2)
def mS(r:ai):aj×ai:=
 let x:=ik r;let h:=QN x.2;let y:=ik h.2;let b0:=cC y.2;let t0:=dD b0.2;let b1:=cC t0.2;let t1:=dD b1.2;let kt:=oG t1.2
 (oH x.1 h.1 y.1 b0.1 t0.1 b1.1 t1.1 kt.1,kt.2)
theorem ZJt{r:ai}{x y:(Int×Int×Int)×ai}{h:yL yB×ai}{b0 b1:aN×ai}{t0 t1:aX×ai}{kt:dV×ai}
 (hx:ik r=x) (hh:QN x.2=h) (hy:ik h.2=y) (hb0:cC y.2=b0) (ht0:dD b0.2=t0) (hb1:cC t0.2=b1) (ht1:dD b1.2=t1) (hk:oG t1.2=kt):mS r=(oH x.1 h.1 y.1 b0.1 t0.1 b1.1 t1.1 kt.1,kt.2):=by
 subst hx hh hy hb0 ht0 hb1 ht1 hk;rfl
theorem ZPw(r:ai):KpR r (mS r).1 (mS r).2:=by
 obtain⟨x,hx⟩:∃x,ik r=x:=⟨_,rfl⟩;obtain⟨h,hh⟩:∃h,QN x.2=h:=⟨_,rfl⟩;obtain⟨y,hy⟩:∃y,ik h.2=y:=⟨_,rfl⟩;obtain⟨b0,hb0⟩:∃b0,cC y.2=b0:=⟨_,rfl⟩;obtain⟨t0,ht0⟩:∃t0,dD b0.2=t0:=⟨_,rfl⟩;obtain⟨b1,hb1⟩:∃b1,cC t0.2=b1:=⟨_,rfl⟩;obtain⟨t1,ht1⟩:∃t1,dD b1.2=t1:=⟨_,rfl⟩;obtain⟨kt,hk⟩:∃kt,oG t1.2=kt:=⟨_,rfl⟩;have q1:=ZPu r;have q2:=ZHD x.2;have q3:=ZPu h.2;have q4:=ZJs y.2;obtain⟨q5,j5⟩:=ZPv b0.2;have q6:=ZJs t0.2;obtain⟨q7,j7⟩:=ZPv b1.2;obtain⟨q8,j8⟩:=ZTO t1.2;have j1:=ZRW r;have j3:=ZRW h.2;have j2:=UP x.2;rw[hx]at q1 j1;rw[hh]at q2 j2;rw[hy]at q3 j3;rw[hb0]at q4;rw[ht0]at q5 j5;rw[hb1]at q6;rw[ht1]at q7 j7;rw[hk]at q8 j8;rw[ZJt hx hh hy hb0 ht0 hb1 ht1 hk];have g1:=j3 y.1.1 (by simp);have g2:=j3 y.1.2.1 (by simp);have g3:=j3 y.1.2.2 (by simp);exact⟨⟨b0.1,b1.1,t0.1,t1.1,⟨rfl,rfl,j1,j3,j5,j7,j2.1,j8⟩,(((((q1.trans q2).trans q3).trans (q4.trans q5)).trans (q6.trans q7)).trans q8)⟩,⟨rfl,rfl,by show(-9223372036854775808:Int)<=y.1.2.1;omega,g2.2,by show(-9223372036854775808:Int)<=y.1.1;omega,g1.2,by show(-9223372036854775808:Int)<=y.1.2.2;omega,g3.2⟩⟩
def jh(k:aj)(j:Nat)(b:aN)(t:aX):aj:=((k.1.1,k.1.2.1,k.1.2.2.1.set j b,k.1.2.2.2.1.set j t,k.1.2.2.2.2),k.2.1,k.2.2.1,k.2.2.2.1,k.2.2.2.2)
theorem ZK0{ok:Bool}{j:Nat}(hj:j < 2){key:yL yB}{k0:aj}{r:ai}(hr:Sm r){k:aj}(hbl:k.1.2.2.1.length=2)(htl:k.1.2.2.2.1.length=2):
 VP yD (ok,(j:Int),key,k0,r,k)=ab (.inl (ok,((j+1:Nat):Int),key,k0,(dD (cC r).2).2,jh k j (cC r).1 (dD (cC r).2).1)):=by
 obtain⟨bb,hb2,_⟩:=Zf (l:=k.1.2.2.1) (k:=j) (by omega);obtain⟨tt,ht2,_⟩:=Zf (l:=k.1.2.2.2.1) (k:=j) (by omega);obtain⟨a,ha⟩:∃x,Xy r=x:=⟨_,rfl⟩;obtain⟨b,hb⟩:∃x,Xy a.2=x:=⟨_,rfl⟩;obtain⟨c,hc⟩:∃x,Xy b.2=x:=⟨_,rfl⟩;obtain⟨d,hd⟩:∃x,Xy c.2=x:=⟨_,rfl⟩;obtain⟨e,he⟩:∃x,Xy d.2=x:=⟨_,rfl⟩;obtain⟨f,hf⟩:∃x,ZZ e.2=x:=⟨_,rfl⟩;obtain⟨g,hg⟩:∃x,ZZ f.2=x:=⟨_,rfl⟩;obtain⟨h,hh⟩:∃x,ZZ g.2=x:=⟨_,rfl⟩;obtain⟨i,hi⟩:∃x,ZZ h.2=x:=⟨_,rfl⟩;obtain⟨m,hm⟩:∃x,ZZ i.2=x:=⟨_,rfl⟩;obtain⟨n,hn⟩:∃x,ZZ m.2=x:=⟨_,rfl⟩;have sa:=WX hr;rw[ha]at sa;have sb:=WX sa;rw[hb]at sb;have sc:=WX sb;rw[hc]at sc;have sd:=WX sc;rw[hd]at sd;have se:=WX sd;rw[he]at se;have sf:=XV se;rw[hf]at sf;have sg:=XV sf;rw[hg]at sg;have sh:=XV sg;rw[hh]at sh;have si:=XV sh;rw[hi]at si;have sm:=XV si;rw[hm]at sm;have sn:=XV sm;rw[hn]at sn;unfold VP;dsimp only;rw[yW (yY (by omega)),kF _ hr,ha,kF _ sa,hb,kF _ sb,hc,kF _ sc,hd,kF _ sd,he,yW (ZV (by omega) (by omega)),yap,hb2,ya,jf _ se,hf,jf _ sf,hg,jf _ sg,hh,jf _ sh,hi,jf _ si,hm,jf _ sm,hn,yW (ZV (by omega) (by omega)),ht2,ya,Zn (by omega),uM ha hb hc hd he,ZJq hf hg hh hi hm hn];rfl
theorem ZHN{pl:yL yB}{ok:Bool}{j:Nat}(hj:j < 2){key:yL yB}{k0:aj}{r:ai}(hr:Sm r){k:aj}(hbl:k.1.2.2.1.length=2)(htl:k.1.2.2.2.1.length=2):
 Xe yD (pl,ok,(j:Int),key,k0,r,k)=ab (.inl (pl,ok,((j+1:Nat):Int),key,k0,(dD (cC r).2).2,jh k j (cC r).1 (dD (cC r).2).1)):=by
 obtain⟨bb,hb2,_⟩:=Zf (l:=k.1.2.2.1) (k:=j) (by omega);obtain⟨tt,ht2,_⟩:=Zf (l:=k.1.2.2.2.1) (k:=j) (by omega);obtain⟨a,ha⟩:∃x,Xy r=x:=⟨_,rfl⟩;obtain⟨b,hb⟩:∃x,Xy a.2=x:=⟨_,rfl⟩;obtain⟨c,hc⟩:∃x,Xy b.2=x:=⟨_,rfl⟩;obtain⟨d,hd⟩:∃x,Xy c.2=x:=⟨_,rfl⟩;obtain⟨e,he⟩:∃x,Xy d.2=x:=⟨_,rfl⟩;obtain⟨f,hf⟩:∃x,ZZ e.2=x:=⟨_,rfl⟩;obtain⟨g,hg⟩:∃x,ZZ f.2=x:=⟨_,rfl⟩;obtain⟨h,hh⟩:∃x,ZZ g.2=x:=⟨_,rfl⟩;obtain⟨i,hi⟩:∃x,ZZ h.2=x:=⟨_,rfl⟩;obtain⟨m,hm⟩:∃x,ZZ i.2=x:=⟨_,rfl⟩;obtain⟨n,hn⟩:∃x,ZZ m.2=x:=⟨_,rfl⟩;have sa:=WX hr;rw[ha]at sa;have sb:=WX sa;rw[hb]at sb;have sc:=WX sb;rw[hc]at sc;have sd:=WX sc;rw[hd]at sd;have se:=WX sd;rw[he]at se;have sf:=XV se;rw[hf]at sf;have sg:=XV sf;rw[hg]at sg;have sh:=XV sg;rw[hh]at sh;have si:=XV sh;rw[hi]at si;have sm:=XV si;rw[hm]at sm;have sn:=XV sm;rw[hn]at sn;have hin:aS (j:Int) 2=af:=ZV (by omega) (by omega);unfold Xe;dsimp only
 rw[yW (yY (by omega)),kG _ hr,ha,yW hin,yap,hb2,ya,kG _ sa,hb,yW hin,ycj (by omega),ya,kG _ sb,hc,yW hin,ycj (by simp only[yba];omega),ya,kG _ sc,hd,yW hin,ycj (by simp only[yba];omega),ya,kG _ sd,he,yW hin,ycj (by simp only[yba];omega),ya,
  jg _ se,hf,yW hin,ht2,ya,jg _ sf,hg,yW hin,ycj (by omega),ya,jg _ sg,hh,yW hin,ycj (by simp only[yba];omega),ya,jg _ sh,hi,yW hin,ycj (by simp only[yba];omega),ya,jg _ si,hm,yW hin,ycj (by simp only[yba];omega),ya,jg _ sm,hn,yW hin,ycj (by simp only[yba];omega),ya,Zn (by omega),uM ha hb hc hd he,ZJq hf hg hh hi hm hn]
 simp only[List.set_set];rfl
def k2(k:aj)(r:ai):aj:=jh (jh k 0 (cC r).1 (dD (cC r).2).1) 1 (cC (dD (cC r).2).2).1 (dD (cC (dD (cC r).2).2).2).1
def r2(r:ai):ai:=(dD (cC (dD (cC r).2).2).2).2
theorem ZRu{ok:Bool}{key:yL yB}{k0:aj}{r:ai}(hr:Sm r){k:aj}(hb:k.1.2.2.1.length=2)(ht:k.1.2.2.2.1.length=2):
 Zb (VP yD) yD (ok,(0:Int),key,k0,r,k)=ab (ok,key,k0,r2 r,k2 k r):=by
 refine Zu 2 (λj:Nat=>(ok,(j:Int),key,k0,(if j=0 then r else if j=1 then(dD (cC r).2).2 else r2 r),if j=0 then k else if j=1 then jh k 0 (cC r).1 (dD (cC r).2).1 else k2 k r)) ?_ ?_ (by omega)
 .intro j hj;rcases (show j=0\/j=1 by omega) with rfl|rfl
  .exact ZK0 (j:=0) (by decide) hr hb ht
  .exact ZK0 (j:=1) (by decide) (qQ (qM hr)) (by simp[jh,hb]) (by simp[jh,ht])
 .unfold VP;grind
theorem ZPx{pl:yL yB}{ok:Bool}{key:yL yB}{k0:aj}{r:ai}(hr:Sm r){k:aj}(hb:k.1.2.2.1.length=2)(ht:k.1.2.2.2.1.length=2):
 Zb (Xe yD) yD (pl,ok,(0:Int),key,k0,r,k)=ab (pl,ok,key,k0,r2 r,k2 k r):=by
 refine Zu 2 (λj:Nat=>(pl,ok,(j:Int),key,k0,(if j=0 then r else if j=1 then(dD (cC r).2).2 else r2 r),if j=0 then k else if j=1 then jh k 0 (cC r).1 (dD (cC r).2).1 else k2 k r)) ?_ ?_ (by omega)
 .intro j hj;rcases (show j=0\/j=1 by omega) with rfl|rfl
  .exact ZHN (j:=0) (by decide) hr hb ht
  .exact ZHN (j:=1) (by decide) (qQ (qM hr)) (by simp[jh,hb]) (by simp[jh,ht])
 .unfold Xe;grind
def noK:aj:=(((yw 32 0,0),0,[z5,z5],[z6,z6],0),(0,0,0,0,0,yw 32 0),0,0,0)
noncomputable def DG(key b:yL yB):aj×Bool:=
 if(fL key b).2=af/\(mS ((fL key b).1,ag)).2=([],ag)/\jc (mS ((fL key b).1,ag)).1=af then((mS ((fL key b).1,ag)).1,af) else(noK,ag)
theorem ZPy{key b:yL yB}(hb:b.length<=1000):Sm ((fL key b).1,ag):=by
 have:=UU key b;show(fL key b).1.length<=2000000;omega
theorem ZRX{r:ai}{b0 b1:aN×ai}{t0 t1:aX×ai}(hb0:cC r=b0)(ht0:dD b0.2=t0)(hb1:cC t0.2=b1)(ht1:dD b1.2=t1):r2 r=t1.2:=by
 subst hb0 ht0 hb1 ht1;rfl
theorem ZRY{r:ai}{k:aj}{b0 b1:aN×ai}{t0 t1:aX×ai}(hb0:cC r=b0)(ht0:dD b0.2=t0)(hb1:cC t0.2=b1)(ht1:dD b1.2=t1):k2 k r=jh (jh k 0 b0.1 t0.1) 1 b1.1 t1.1:=by
 subst hb0 ht0 hb1 ht1;rfl
theorem ZRv{key b:yL yB}(hk:key.length=32)(hb:b.length<=1000):zq yD key b=ab (DG key b):=by
 have hs:=ZPy (key:=key) hb;have hw:=(ZPw ((fL key b).1,ag)).wf;unfold zq;rw[ZRn (by omega) (by omega),ya,ZRi (by have:=UU key b;omega),ya];unfold DG;generalize (fL key b).2=ok;generalize (((fL key b).1,ag):ai)=r at hs hw ⊢;obtain⟨a,ha⟩:∃x,ZZ r=x:=⟨_,rfl⟩;obtain⟨b1,hb1⟩:∃x,ZZ a.2=x:=⟨_,rfl⟩;obtain⟨c,hc⟩:∃x,ZZ b1.2=x:=⟨_,rfl⟩;obtain⟨h,hh⟩:∃x,QN c.2=x:=⟨_,rfl⟩;obtain⟨d,hd⟩:∃x,ZZ h.2=x:=⟨_,rfl⟩;obtain⟨e,he⟩:∃x,ZZ d.2=x:=⟨_,rfl⟩;obtain⟨f,hf⟩:∃x,ZZ e.2=x:=⟨_,rfl⟩;obtain⟨p0,hp0⟩:∃x,cC f.2=x:=⟨_,rfl⟩;obtain⟨t0,ht0⟩:∃x,dD p0.2=x:=⟨_,rfl⟩;obtain⟨p1,hp1⟩:∃x,cC t0.2=x:=⟨_,rfl⟩;obtain⟨t1,ht1⟩:∃x,dD p1.2=x:=⟨_,rfl⟩;obtain⟨u1,hu1⟩:∃x,Xy t1.2=x:=⟨_,rfl⟩;obtain⟨u2,hu2⟩:∃x,Xy u1.2=x:=⟨_,rfl⟩;obtain⟨u3,hu3⟩:∃x,Xy u2.2=x:=⟨_,rfl⟩;obtain⟨u4,hu4⟩:∃x,Xy u3.2=x:=⟨_,rfl⟩;obtain⟨u5,hu5⟩:∃x,Xy u4.2=x:=⟨_,rfl⟩;obtain⟨q,hq⟩:∃x,QN u5.2=x:=⟨_,rfl⟩;have sa:=XV hs;rw[ha]at sa;have sb1:=XV sa;rw[hb1]at sb1;have sc:=XV sb1;rw[hc]at sc;have sh:=ZKZ sc;rw[hh]at sh;have sd:=XV sh;rw[hd]at sd;have se:=XV sd;rw[he]at se;have sf:=XV se;rw[hf]at sf;have sp0:=qM sf;rw[hp0]at sp0;have st0:=qQ sp0;rw[ht0]at st0;have sp1:=qM st0;rw[hp1]at sp1;have st1:=qQ sp1;rw[ht1]at st1;have su1:=WX st1;rw[hu1]at su1;have su2:=WX su1;rw[hu2]at su2;have su3:=WX su2;rw[hu3]at su3;have su4:=WX su3;rw[hu4]at su4;have su5:=WX su4;rw[hu5]at su5;rw[jf _ hs,ha,jf _ sa,hb1,jf _ sb1,hc,ZUX _ sc,hh,jf _ sh,hd,jf _ sd,he,jf _ se,hf,ZRu sf rfl rfl,ya,ZRX hp0 ht0 hp1 ht1,ZRY hp0 ht0 hp1 ht1];dsimp only;rw[kF _ st1,hu1,kF _ su1,hu2,kF _ su2,hu3,kF _ su3,hu4,kF _ su4,hu5,ZUX _ su5,hq];have hK:mS r=(oH (a.1,b1.1,c.1) h.1 (d.1,e.1,f.1) p0.1 t0.1 p1.1 t1.1 (u1.1,u2.1,u3.1,u4.1,u5.1,q.1),q.2):=ZJt (qK ha hb1 hc) hh (qK hd he hf) hp0 ht0 hp1 ht1 (ZJr (uM hu1 hu2 hu3 hu4 hu5) hq);rw[hK]at hw ⊢;obtain⟨q1,q2,q3⟩:=q;unfold NT NU
 cases ok with
 |false=>rw[yW (by decide),yX λh=>by cases h.1];rfl
 |true=>
  rw[yX (by decide),ya];dsimp only
  cases q3 with
  |true=>rw[yW (show(!(!true))=af from rfl),yX λh=>by have:=h.2.1;cases this];rfl
  |false=>
   rw[yX (by decide),ya];by_cases hl:q2=[]
   .subst hl;rw[yX (show¬ah (((([]:yL yB).length:Nat):Int) > 0)=af by decide)];refine(congrArg (Option.bind · _) (uB hw)).trans ?_;rw[ya];dsimp only
    cases hr:jc (oH (a.1,b1.1,c.1) h.1 (d.1,e.1,f.1) p0.1 t0.1 p1.1 t1.1 (u1.1,u2.1,u3.1,u4.1,u5.1,q1)) with
    |false=>rw[yW (by decide),yX λh=>by cases h.2.2];rfl
    |true=>rw[yX (by decide),yW ⟨rfl,rfl,rfl⟩];rfl
   .have h0:0 < q2.length:=List.length_pos_iff.2 hl;rw[yW (show ah ((q2.length:Int) > 0)=af from yY (by omega)),yX λh=>hl (congrArg Prod.fst h.2.1)];rfl
theorem ZPz{key b:yL yB}(hk:key.length=32)(hb:b.length<=1000):BV yD key b=ab (DG key b):=by
 have hs:=ZPy (key:=key) hb;have hw:=(ZPw ((fL key b).1,ag)).wf;obtain⟨b0,bb,t0',tt,hin,hred⟩:=(ZPw ((fL key b).1,ag)).ex;have zV:=UU key b;unfold BV;rw[ZMm (by omega) (by omega),ya,ZPn (by omega),ya];unfold DG;generalize (fL key b).2=ok;generalize (fL key b).1=pl at hs hw hin hred zV ⊢;generalize hr0:((pl,ag):ai)=r at hs hw hin hred ⊢;have hr1:r.1=pl:=by rw[<-hr0]
 obtain⟨a,ha⟩:∃x,ZZ r=x:=⟨_,rfl⟩;obtain⟨b1,hb1⟩:∃x,ZZ a.2=x:=⟨_,rfl⟩;obtain⟨c,hc⟩:∃x,ZZ b1.2=x:=⟨_,rfl⟩;obtain⟨h,hh⟩:∃x,QN c.2=x:=⟨_,rfl⟩;obtain⟨d,hd⟩:∃x,ZZ h.2=x:=⟨_,rfl⟩;obtain⟨e,he⟩:∃x,ZZ d.2=x:=⟨_,rfl⟩;obtain⟨f,hf⟩:∃x,ZZ e.2=x:=⟨_,rfl⟩;obtain⟨p0,hp0⟩:∃x,cC f.2=x:=⟨_,rfl⟩;obtain⟨t0,ht0⟩:∃x,dD p0.2=x:=⟨_,rfl⟩;obtain⟨p1,hp1⟩:∃x,cC t0.2=x:=⟨_,rfl⟩;obtain⟨t1,ht1⟩:∃x,dD p1.2=x:=⟨_,rfl⟩;obtain⟨u1,hu1⟩:∃x,Xy t1.2=x:=⟨_,rfl⟩;obtain⟨u2,hu2⟩:∃x,Xy u1.2=x:=⟨_,rfl⟩;obtain⟨u3,hu3⟩:∃x,Xy u2.2=x:=⟨_,rfl⟩;obtain⟨u4,hu4⟩:∃x,Xy u3.2=x:=⟨_,rfl⟩;obtain⟨u5,hu5⟩:∃x,Xy u4.2=x:=⟨_,rfl⟩;obtain⟨q,hq⟩:∃x,QN u5.2=x:=⟨_,rfl⟩;have sa:=XV hs;rw[ha]at sa;have sb1:=XV sa;rw[hb1]at sb1;have sc:=XV sb1;rw[hc]at sc;have sh:=ZKZ sc;rw[hh]at sh;have sd:=XV sh;rw[hd]at sd;have se:=XV sd;rw[he]at se;have sf:=XV se;rw[hf]at sf;have sp0:=qM sf;rw[hp0]at sp0;have st0:=qQ sp0;rw[ht0]at st0;have sp1:=qM st0;rw[hp1]at sp1;have st1:=qQ sp1;rw[ht1]at st1;have su1:=WX st1;rw[hu1]at su1;have su2:=WX su1;rw[hu2]at su2;have su3:=WX su2;rw[hu3]at su3;have su4:=WX su3;rw[hu4]at su4;have su5:=WX su4;rw[hu5]at su5;rw[jg _ hs,ha,jg _ sa,hb1,jg _ sb1,hc,ZRV _ sc,hh,jg _ sh,hd,jg _ sd,he,jg _ se,hf,ZPx sf rfl rfl,ya,ZRX hp0 ht0 hp1 ht1,ZRY hp0 ht0 hp1 ht1];dsimp only;rw[kG _ st1,hu1,kG _ su1,hu2,kG _ su2,hu3,kG _ su3,hu4,kG _ su4,hu5,ZRV _ su5,hq];have hK:mS r=(oH (a.1,b1.1,c.1) h.1 (d.1,e.1,f.1) p0.1 t0.1 p1.1 t1.1 (u1.1,u2.1,u3.1,u4.1,u5.1,q.1),q.2):=ZJt (qK ha hb1 hc) hh (qK hd he hf) hp0 ht0 hp1 ht1 (ZJr (uM hu1 hu2 hu3 hu4 hu5) hq);rw[hK]at hw hin hred ⊢;obtain⟨q1,q2,q3⟩:=q
 cases ok with
 |false=>rw[yW (by decide),yX λh=>by cases h.1];rfl
 |true=>
  rw[yX (by decide)];dsimp only
  cases q3 with
  |true=>rw[yW rfl,yX λh=>by have:=h.2.1;cases this];rfl
  |false=>
   rw[yX (by decide)];by_cases hl:q2=[]
   .subst hl
    have hrow:qI (oH (a.1,b1.1,c.1) h.1 (d.1,e.1,f.1) p0.1 t0.1 p1.1 t1.1 (u1.1,u2.1,u3.1,u4.1,u5.1,q1)) b0 bb t0' tt=pl:=by
     have:=(hred rfl).2;grind
    rw[yX (show¬ah (((([]:yL yB).length:Nat):Int) > 0)=af by decide)];refine(congrArg (Option.bind · _) (uK hw)).trans ?_;rw[ya];dsimp only
    cases hr:jc (oH (a.1,b1.1,c.1) h.1 (d.1,e.1,f.1) p0.1 t0.1 p1.1 t1.1 (u1.1,u2.1,u3.1,u4.1,u5.1,q1)) with
    |false=>rw[yW (by decide),yX λh=>by cases h.2.2];rfl
    |true=>
     rw[yX (by decide),yW ⟨rfl,rfl,rfl⟩];refine(congrArg (Option.bind · _) (ZHM hin)).trans ?_;rw[ya,hrow,ZHH (by omega),ya,yY rfl,yX (by decide)];rfl
   .have h0:0 < q2.length:=List.length_pos_iff.2 hl;rw[yW (show ah ((q2.length:Int) > 0)=af from yY (by omega)),yX λh=>hl (congrArg Prod.fst h.2.1)];rfl
theorem ZtT{α:Type}{a b:yL α}{k:Nat}{e g:α}(he:a[k]? =ab e)(hg:b[k]? =ab g)(h:a.take k=b.take k)(q:e=g):a.take (k+1)=b.take (k+1):=by
 rw[XU he,XU hg,h,q]
theorem ZHO{α I:Type}[DecidableEq α]{step:I->yO (I⊕(Bool⊕Unit))}(st:Nat->I)(a b:yL α)(eqM:α->α->yO Bool)(hl:a.length=b.length)(hn:a.length<=1000000)(hm:∀e g,g∈b->eqM e g=ab (ah (e=g)))
 (hs:∀k e g,k < a.length->a[k]? =ab e->b[k]? =ab g->step (st k)=(eqM e g).bind λo=>if(!o)=af then ab (.inr (.inl ag)) else ab (.inl (st (k+1))))
 (he:step (st a.length)=ab (.inr (.inr ()))):∃x,Zb step yD (st 0)=ab x/\(x=.inl ag/\a≠b\/x=.inr ()/\a=b):=by
 refine Yn (step:=step) a.length (λk s=>s=st k/\a.take k=b.take k) _ ⟨rfl,by rw[List.take_zero,List.take_zero]⟩ (by omega) ?_ ?_
 .rintro k _ hk ⟨rfl,ht⟩;obtain⟨e,he,hem⟩:=Zf hk;obtain⟨g,hg,hgm⟩:=Zf (l:=b) (k:=k) (by omega);rw[hs k e g hk he hg,hm e g hgm,ya];by_cases c:e=g
  .rw[yY c];exact .inl ⟨_,rfl,rfl,ZtT he hg ht c⟩
  grind
 grind
theorem ZRw{a b:yL yU}(h:b.length<=1000000):AC yD a b=ab (ah (a=b)):=by
 unfold AC;by_cases hl:a.length=b.length
 .rw[yX (by simp[hl])]
  obtain⟨x,h1,h2⟩:=ZHO (step:=QD yD) (λk:Nat=>(a,b,(a.length:Int),(k:Int))) a b (λe g=>ab (ah (e=g))) hl (by omega) (λe g _=>rfl) (by
   intro k e g hk he hg;unfold QD;dsimp only;rw[yW (ZE hk),Zj he,ya,Zj hg,ya,ya,Zn (by omega)];rfl) (by
   unfold QD;dsimp only;rw[yX (by rw[ZA];decide)])
  all_goals grind
 .rw[yW (by simp;omega),yZ λq=>hl (by rw[q])]
theorem uN{a b:Zq}:a=b↔a.1=b.1/\a.2.1=b.2.1/\a.2.2.1=b.2.2.1/\a.2.2.2=b.2.2.2:=by
 grind
theorem ZTP{a b:Zq}(h:b.1.length<=1000000):tU yD a b=ab (ah (a=b)):=by
 unfold tU;rw[ZRw h,ya];by_cases c1:a.1=b.1
 .rw[yW (yY c1)];by_cases c2:a.2.1=b.2.1
  .rw[yW (beq_iff_eq.2 c2)];by_cases c3:a.2.2.1=b.2.2.1
   .rw[yW (beq_iff_eq.2 c3)];by_cases c4:a.2.2.2=b.2.2.2
    .grind
    .rw[beq_eq_false_iff_ne.2 c4,yZ λq=>c4 (uN.1 q).2.2.2]
   .rw[yX (λq=>c3 (beq_iff_eq.1 q)),yZ λq=>c3 (uN.1 q).2.2.1]
  .rw[yX (λq=>c2 (beq_iff_eq.1 q)),yZ λq=>c2 (uN.1 q).2.1]
 .rw[yX (λq=>c1 (yF q)),yZ λq=>c1 (uN.1 q).1]
theorem ZPA{a b:ZG}(hb:b.length<=1000000)(hk:∀x,x∈b->x.1.length<=1000000):AD yD a b=ab (ah (a=b)):=by
 unfold AD OM;by_cases hl:a.length=b.length
 .rw[yX (by simp[hl])]
  obtain⟨x,h1,h2⟩:=ZHO (step:=tV yD) (λk:Nat=>(b,a,(a.length:Int),(k:Int))) a b (tU yD) hl (by omega) (λe g hg=>ZTP (hk g hg)) (by
   intro k e g hk he hg;unfold tV;dsimp only;rw[yW (ZE hk),Zj he,ya,Zj hg,ya,Zn (by omega)]) (by
   unfold tV;dsimp only;rw[yX (by rw[ZA];decide)])
  all_goals grind
 .rw[yW (by simp;omega),yZ λq=>hl (by rw[q])];rfl
theorem ZPB{i:Int}{l m:ZG}{a b:Zq}(hl:a.1.length=b.1.length)(hn:a.1.length<=1000000):
 ∃x,Zb (Xh yD) yD (i,(0:Int),l,m,a,b)=ab x/\(x=.inl (ag,l,m,a,b)/\a.1≠b.1\/x=.inr (i,l,m,a,b)/\a.1=b.1):=by
 refine Yn (step:=Xh yD) a.1.length (λk s=>s=(i,(k:Int),l,m,a,b)/\a.1.take k=b.1.take k) _ ⟨rfl,by rw[List.take_zero,List.take_zero]⟩ (by omega) ?_ ?_
 .rintro k _ hk ⟨rfl,ht⟩;obtain⟨e,he,hem⟩:=Zf hk;obtain⟨g,hg,hgm⟩:=Zf (l:=b.1) (k:=k) (by omega);unfold Xh;dsimp only;rw[yW (ZE hk),Zj he,ya,Zj hg,ya];by_cases c:e=g
  .rw[yX (show¬(e !=g)=af by rw[yE];exact λq=>q c),Zn (by omega)];exact .inl ⟨_,rfl,rfl,ZtT he hg ht c⟩
  grind
 .rintro _ ⟨rfl,ht⟩;unfold Xh;grind
theorem ZMq{a b:ZG}(hb:b.length<=1000000)(hk:∀x,x∈b->x.1.length<=1000000):CA yD a b=ab (ah (a=b)):=by
 unfold CA;by_cases hl:a.length=b.length
 .rw[yX (by simp[hl])]
  obtain⟨x,h1,h2⟩:=Yn (step:=Wr yD) a.length (λk s=>s=((k:Int),a,b)/\a.take k=b.take k) (λx=>x=.inl (ag,a,b)/\a≠b\/x=.inr (a,b)/\a=b) (i:=((0:Int),a,b)) ⟨rfl,by rw[List.take_zero,List.take_zero]⟩ (by omega) (by
   rintro k _ hk' ⟨rfl,ht⟩;obtain⟨e,he,hem⟩:=Zf hk';obtain⟨g,hg,hgm⟩:=Zf (l:=b) (k:=k) (by omega)
   have ne:e≠g->a≠b:=λc q=>by
    grind
   unfold Wr;dsimp only;rw[yW (ZE hk'),Zj he,ya,Zj hg,ya];by_cases c0:e.1.length=g.1.length
   .rw[yX (show¬((e.1.length:Int)!=(g.1.length:Int))=af by rw[yE];omega)];by_cases c2:e.2.1=g.2.1
    .rw[yX (show¬(e.2.1 !=g.2.1)=af by rw[yE];exact λq=>q c2)];by_cases c3:e.2.2.1=g.2.2.1
     .rw[yX (show¬(e.2.2.1 !=g.2.2.1)=af by rw[yE];exact λq=>q c3)];by_cases c4:e.2.2.2=g.2.2.2
      .rw[yX (show¬(e.2.2.2 !=g.2.2.2)=af by rw[yE];exact λq=>q c4)];obtain⟨y,y1,y2⟩:=ZPB (i:=(k:Int)) (l:=a) (m:=b) c0 (by have:=hk g hgm;omega);rw[y1,ya];rcases y2 with⟨rfl,y2⟩|⟨rfl,y2⟩
       .exact .inr ⟨_,rfl,.inl ⟨rfl,ne λq=>y2 (by rw[q])⟩⟩
       .refine .inl ⟨_,rfl, ?_,ZtT he hg ht (uN.2 ⟨y2,c2,c3,c4⟩)⟩;dsimp only;rw[Zn (by omega)]
      .rw[yW (bne_iff_ne.2 c4)];exact .inr ⟨_,rfl,.inl ⟨rfl,ne λq=>c4 (by rw[q])⟩⟩
     .rw[yW (bne_iff_ne.2 c3)];exact .inr ⟨_,rfl,.inl ⟨rfl,ne λq=>c3 (by rw[q])⟩⟩
    .rw[yW (bne_iff_ne.2 c2)];exact .inr ⟨_,rfl,.inl ⟨rfl,ne λq=>c2 (by rw[q])⟩⟩
   .rw[yW (bne_iff_ne.2 (by omega))];exact .inr ⟨_,rfl,.inl ⟨rfl,ne λq=>c0 (by rw[q])⟩⟩) (by
   rintro _ ⟨rfl,ht⟩;unfold Wr;dsimp only;rw[yX (by rw[ZA];decide)];rw[yai,hl,yai]at ht;exact⟨_,rfl,.inr ⟨rfl,ht⟩⟩)
  all_goals grind
 .rw[yW (show((a.length:Int)!=(b.length:Int))=af from bne_iff_ne.2 (by omega)),yZ λq=>hl (by rw[q])]
theorem ZTQ{l:yL al}(hl:l.length<=100)(p:al):AF yD l p=ab (ah (p∈l)):=by
 obtain⟨x,h1,h2⟩:=Yn (step:=QE yD) l.length (λk s=>s=(l,(l.length:Int),(k:Int),p)/\¬p∈l.take k) (λx=>(∃j:Nat,x=.inl ((j:Int),p)/\p∈l)\/x=.inr p/\¬p∈l) (i:=(l,(l.length:Int),(0:Int),p)) ⟨rfl,by simp⟩ (by omega) (by
  rintro k _ hk ⟨rfl,hn⟩;obtain⟨x,hx,hm⟩:=Zf hk;unfold QE;dsimp only;rw[yW (ZE hk),Zj hx,ya];by_cases c:p=x
  .right;rw[yW (yY c)];exact⟨_,rfl,.inl ⟨k,rfl,by rw[c];exact hm⟩⟩
  .left;rw[yX (show¬ah (p=x)=af by rw[yN];exact c),Zn (by omega)];refine⟨_,rfl,rfl, ?_⟩;rw[XU hx,List.mem_append,yas];exact λh=>h.elim hn c) (by
  rintro _ ⟨rfl,hn⟩;unfold QE;dsimp only;rw[yX (by rw[ZA];decide)];rw[yai]at hn;exact⟨_,rfl,.inr ⟨rfl,hn⟩⟩)
 unfold AF OR;rw[h1,ya];rcases h2 with⟨j,rfl,h⟩|⟨rfl,h⟩
 all_goals simp_all
theorem ZMr(k:aj)(t:Tx)(hl:t.1.length<=100):Zb (YV yD) yD (ag,(0:Int),k,t)=ab (ah (k.1.1∈t.1.map (·.1)),k,t):=by
 have e:=Zu (step:=YV yD) t.1.length (λj:Nat=>(ah (k.1.1∈(t.1.take j).map (·.1)),(j:Int),k,t)) (x:=(ah (k.1.1∈t.1.map (·.1)),k,t)) (by
  intro j hj;obtain⟨x,hx,_⟩:=Zf hj;unfold YV;dsimp only;rw[yW (ZE hj),Zn (by omega)]
  have hm:k.1.1∈(t.1.take (j+1)).map (·.1)↔k.1.1∈(t.1.take j).map (·.1)\/x.1=k.1.1:=by
   rw[XU hx,yao,List.mem_append,List.map_singleton,yas];grind
  by_cases c:k.1.1∈(t.1.take j).map (·.1)
  .rw[yW (yY c),yY (hm.2 (.inl c))]
  .rw[yX (λq=>c (yF q)),Zj hx,ya];by_cases d:x.1=k.1.1
   .rw[yY d,yY (hm.2 (.inr d))]
   .rw[yZ d,yZ λq=>(hm.1 q).elim c d]) (by
  unfold YV;dsimp only;rw[yX (by rw[ZA];decide),yai]) (by omega)
 exact e
def eO(p:yU):ZG:=[([p],0,0,0)]
theorem ZK1(p:yU):(eO p).length<=1000000:=by simp[eO]
theorem ZRZ(p:yU):∀x,x∈eO p->x.1.length<=1000000:=λx hx=>by rw[yas.1 hx];simp
theorem ZPC(p:yU):qf yD p=ab (eO p):=by
 unfold qf AE ZU;rw[yW (ZL (by simp) (by simp))];rfl
theorem ZMs(p:yU):CB yD p=ab (eO p):=by
 unfold CB SW;rw[yW (ZL (by simp) (by simp))];rfl
def ji(t:Tx)(l:ZG):Nat->yL Nat
 |0=>[]
 |n+1=>ji t l n++if(t.2.1[n]?).map (·.2)=ab l then[n] else[]
theorem ZFs(t:Tx)(l:ZG)(n:Nat):ji t l (n+1)=ji t l n++if(t.2.1[n]?).map (·.2)=ab l then[n] else[]:=rfl
theorem DH(t:Tx)(l:ZG):∀n,(∀i,i∈ji t l n->i < n)/\(ji t l n).Pairwise (· < ·)/\(ji t l n).length<=n
 |0=>⟨λi h=>absurd h ycm,List.Pairwise.nil,yj _⟩
 |n+1=>by
  obtain⟨h1,h2,h3⟩:=DH t l n;rw[ZFs]
  all_goals grind
theorem ZRx(k:aj){t:Tx}(ho:t.2.1.length<=64)(p:yU):
 Zb (Vi yD) yD (t.2.1,(t.2.1.length:Int),(0:Int),k,t,eO p,([]:yL Int))=ab (k,t,eO p,dS (ji t (eO p) t.2.1.length)):=by
 have e:=Zu (step:=Vi yD) t.2.1.length (λi:Nat=>(t.2.1,(t.2.1.length:Int),(i:Int),k,t,eO p,dS (ji t (eO p) i))) (x:=(k,t,eO p,dS (ji t (eO p) t.2.1.length))) (by
  intro i hi;obtain⟨o,hx,_⟩:=Zf hi;have hl:=(DH t (eO p) i).2.2;unfold Vi;dsimp only;rw[yW (ZE hi),Zj hx,ya,ZPA (ZK1 p) (ZRZ p),ya,Zn (by omega)];rw[ZFs,hx];by_cases c:o.2=eO p
  .rw[yY c,yW rfl,yW (ZL (by rw[jb];omega) (by rw[jb];omega)),yW (show(ab o).map (·.2)=ab (eO p) from congrArg ab c)]
   unfold dS;rw[yao];rfl
  .rw[yZ c,yX (by decide),yX (show¬(ab o).map (·.2)=ab (eO p) from λq=>c (yaw q)),yar]) (by
  unfold Vi;dsimp only;rw[yX (by rw[ZA];decide)]) (by omega)
 exact e
theorem ZPD{k:aj}(hk:jR k){t:Tx}(ho:t.2.1.length<=64):
 Zb (Yc yD) yD (af,(0:Int),k,t,([]:yL Int))=ab (k,t,dS (ji t (eO (dC k.2.1).2.1) t.2.1.length)):=by
 have hm:=hk.me
 have e:=Zu (step:=Yc yD) t.2.1.length (λi:Nat=>(af,(i:Int),k,t,dS (ji t (eO (dC k.2.1).2.1) i))) (x:=(k,t,dS (ji t (eO (dC k.2.1).2.1) t.2.1.length))) (by
  intro i hi;obtain⟨o,hx,_⟩:=Zf hi;have hl:=(DH t (eO (dC k.2.1).2.1) i).2.2;unfold Yc;dsimp only;rw[yW (ZE hi),yW rfl,Zj hx,ya,yW (ZV (by omega) (by omega)),hk.bas,ya,ZMs,ya,ZMq (ZK1 _) (ZRZ _),ya,Zn (by omega)];rw[ZFs,hx];by_cases c:o.2=eO (dC k.2.1).2.1
  .rw[yY c,yW rfl,yW (ZL (by rw[jb];omega) (by rw[jb];omega)),yW (show(ab o).map (·.2)=ab (eO (dC k.2.1).2.1) from congrArg ab c)]
   unfold dS;rw[yao];rfl
  .rw[yZ c,yX (by decide),yX (show¬(ab o).map (·.2)=ab (eO (dC k.2.1).2.1) from λq=>c (yaw q)),yar]) (by
  unfold Yc;dsimp only;rw[yX (by rw[ZA];decide)]) (by omega)
 exact e
theorem ZTR(k:aj)(t:Tx):Zb (Yc yD) yD (ag,(0:Int),k,t,([]:yL Int))=ab (k,t,([]:yL Int)):=by
 refine Zu 0 (λi:Nat=>(ag,(i:Int),k,t,([]:yL Int))) (λj hj=>absurd hj (Nat.not_lt_zero j)) ?_ (by omega);unfold Yc
 all_goals grind
theorem ZBr{k:aj}{t:Tx}(w:dR k.1)(hl:jQ t):∃l,qg yD k t=ab (dS l)/\Wc yD k t=ab (dS l)/\CV k t l:=by
 have nf:CV k t []:=⟨.nil,(λi h=>by cases h),Nat.zero_le _,λh=>absurd rfl h⟩;have b1:=uB w;obtain⟨b,b0,b2⟩:=ZJj w;rw[b1]at b0;have b0:=yaw b0;obtain⟨r,r1,r2⟩:=txr hl;obtain⟨r',g1,g2,_⟩:=UG hl;rw[r1]at g1;have g1:=yaw g1;subst g1;unfold qg Wc;rw[b1,uK w,ya,ya,g2,ya]
 cases hr:jc k with
 |false=>exact⟨[],rfl,rfl,nf⟩
 |true=>
  rw[yX (show¬(!true)=af by decide),yX (show¬(!true)=af by decide),r1,ya]
  cases r with
  |false=>exact⟨[],rfl,rfl,nf⟩
  |true=>
   have hk:=b2 (by rw[<-b0,hr]);have ht:=r2 rfl;have tH:=ht.i1;have ho1:=ht.o1;have hm:=hk.me;rw[yX (show¬(!true)=af by decide),yX (show¬(!true)=af by decide),ZMd ht.i1 r1,ya,ZTQ (by rw[yab];omega),ya,ZMr k t (by omega),ya];dsimp only;by_cases c:k.1.1∈t.1.map (·.1)
   .rw[yY c,yX (show¬(!true)=af by decide),yW (ZV (by omega) (by omega)),hk.bas,ya,ZPC,ya,ZRx k ht.o1,ya,ZPD hk ht.o1,ya];obtain⟨q1,q2,q3⟩:=DH t (eO (dC k.2.1).2.1) t.2.1.length;exact⟨_,rfl,rfl,q2,q1,q3,λ_=>⟨hk.key,r1,ht,c⟩⟩
   .rw[yZ c,yW (by decide),ZTR,ya];exact⟨[],rfl,rfl,nf⟩
theorem ZJu{ins:yL In}(i1:ins.length<=64)(hx:∀x,x∈ins->x.2.2.1.length<=12){outs:yL Out}(h1:outs.length<=64)(ho:∀o,o∈outs->iC o.2)(note:Int):∃u,Ws yD (ins,outs,note)=ab (note,u,ins,outs):=by
 unfold Ws;dsimp only;generalize hz:(([]:yL In),([]:yL Out),(0:Int))=z
 have l0:=Zu (step:=Yu yD) ins.length (λk:Nat=>((k:Int),(ins,outs,note),z,note,([]:yL Out),yw k (),ins.take k)) (x:=((ins,outs,note),z,note,([]:yL Out),yw ins.length (),ins)) (by
  intro k hk;obtain⟨x,e0,em⟩:=Zf hk;have hs:=hx x em;unfold Yu;dsimp only;rw[yW (ZE hk),Zj e0,ya,yW (ZL (by omega) (by omega)),yW (ZL (by rw[yx];omega) (by rw[yx];omega)),Zn (by omega),XU e0];rfl) (by
  unfold Yu;dsimp only;rw[yX (by rw[ZA];decide),yai]) (by omega)
 have l0:Zb (Yu yD) yD ((0:Int),(ins,outs,note),z,note,([]:yL Out),([]:yL Unit),([]:yL In))=_:=l0;rw[l0,ya];dsimp only;generalize yw ins.length ()=u
 have l1:=Zu (step:=Xs yD) outs.length (λk:Nat=>((k:Int),(ins,outs,note),z,note,outs.take k,u,ins)) (x:=((ins,outs,note),z,note,outs,u,ins)) (by
  intro k hk;obtain⟨o,e0,em⟩:=Zf hk;obtain⟨g1,g2,g3⟩:=ho o em;unfold Xs;dsimp only;rw[yW (ZE hk),Zj e0,ya]
  have l2:=Zu (step:=Yw yD) o.2.length (λj:Nat=>((k:Int),(j:Int),(ins,outs,note),z,note,outs.take k,u,ins,o.1,o.2.take j)) (x:=((k:Int),(ins,outs,note),z,note,outs.take k,u,ins,o.1,o.2)) (by
   intro j hj;obtain⟨b,hb,hbm⟩:=Zf hj;obtain⟨b1,_⟩:=g3 b hbm;unfold Yw;dsimp only;rw[Zj e0,ya,yW (ZE hj),ya,Zj hb,ya,yW (ZL (by omega) (by omega)),yW (ZL (by rw[yx];omega) (by rw[yx];omega)),Zn (by omega),XU hb]) (by
   unfold Yw;dsimp only;rw[Zj e0,ya,yX (by rw[ZA];decide),yai]) (by omega)
  have l2:Zb (Yw yD) yD ((k:Int),(0:Int),(ins,outs,note),z,note,outs.take k,u,ins,o.1,([]:yL Zq))=_:=l2;rw[l2,ya];dsimp only;rw[yW (ZL (by rw[yx];omega) (by rw[yx];omega)),Zn (by omega),XU e0]) (by
  unfold Xs;dsimp only;rw[yX (by rw[ZA];decide),yai]) (by omega)
 simp_all
theorem ZVN{l:yL al}(hc:fe l){o:Out}(ho:iE o){t:Tx}(h:ft l o t):jQ t/\kB t:=by
 have zV:=h.len;have p1:=hc.len;have h1:=h.out;obtain⟨ins,q⟩:=t;have h2:q=([o],0):=h1;subst h2
 refine⟨⟨by dsimp only at zV ⊢;omega,by simp,λx hx=>by
  rw[yas.1 hx];exact⟨by have:=ho.2.1.2.1;omega,λb hb=>by have:=(ho.2.1.2.2 b hb).1;omega⟩⟩,λx hx=> ?_,by dsimp only;omega⟩
 obtain⟨j,j1,j2⟩:=ybg hx;obtain⟨y,y1,y2⟩:=h.at1 (j:=j) (x:=x) (by rw[<-j2];exact yac j1);rw[<-y2];exact hc.idl y (List.mem_of_getElem? y1)
theorem ZMt{l:yL al}(hc:fe l){o:Out}(ho:iE o){t:Tx}(h:ft l o t):Y9 yD t=ab af/\WC yD t=ab (ff l o):=by
 obtain⟨r1,r2,_⟩:=CU hc ho h;obtain⟨g1,g2⟩:=ZVN hc ho h;obtain⟨b,b1,b2,_⟩:=UG g1;obtain⟨n,n1,n2,_⟩:=ZDj g1 g2;grind
theorem ZMu{l:yL al}(hc:fe l){o:Out}(ho:iE o){t:Tx}(ht:ft l o t){k:Nat}{y:al}(hy:l[k]? =ab y){e:yU}(he:Key e):
 ud yD t (k:Int) 0 [e] 0=ab ((t.1.set k (y,(0,[iI e (ff l o)],0)),t.2),0):=by
 obtain⟨sg,s1,_,s3⟩:=ZMb hc ho ht hy (br:=0) (by decide) (by decide) he 0;rw[ZKX _ (CU hc ho ht).2.2]at s1;grind
theorem ZJv{l:yL al}(hc:fe l){o:Out}(ho:iE o){t:Tx}(ht:ft l o t){k:Nat}{y:al}(hy:l[k]? =ab y){e:yU}(he:Key e):
 CC yD t (k:Int) 0 [e] 0=ab ((t.1.set k (y,(0,[iI e (ff l o)],0)),t.2),0):=by
 obtain⟨r1,r2⟩:=ZMt hc ho ht;have r3:=(CU hc ho ht).2.2;obtain⟨x,hx,hxy⟩:=ht.at2 hy;have hkl:k < t.1.length:=(yo.1 hx).1;have zV:=ht.len;have p1:=hc.len
 have hz:¬(e==0)=af:=by
  rw[yT];rintro rfl;exact absurd he.1 (by decide)
 have hord:¬ah (e >= 2305843009213688669)=af:=by
  rw[yN];intro h;have h1:(2305843009213688669:yU).toNat<=e.toNat:=UInt64.le_iff_toNat_le.1 h;have h2:e.toNat < 2305843009213688669:=he.2;grind
 have l0:Zb (Wt yD) yD ((k:Int),[e],(0:Int),t,(([]:yL In),([]:yL Out),(0:Int)),(0:Int),(0:yU),([]:yL dQ),ff l o)=ab (.inr ((k:Int),t,(([]:yL In),([]:yL Out),(0:Int)),(0:Int),(0:yU),[iI e (ff l o)],ff l o)):=by
  refine Zu 1 (λi:Nat=>((k:Int),[e],(i:Int),t,(([]:yL In),([]:yL Out),(0:Int)),(0:Int),(0:yU),(if i=0 then([]:yL dQ) else[iI e (ff l o)]),ff l o)) ?_ ?_ (by omega)
  .intro i hi;have:i=0:=by omega
   subst this;unfold Wt;dsimp only;rw[yW (show ah (((0:Nat):Int) < (([e]:yL yU).length:Int))=af from rfl),Zj (k:=0) (show[e][0]? =ab e from rfl),ya,yX hz,ya,yX hord,ya,ZHK _ r3,ya]
   rfl
  .unfold Wt;grind
 obtain⟨u,hcp⟩:=ZJu (ins:=t.1) (by omega) (λz hz=>(ht.uz z hz).2.2) (outs:=[o]) (by simp) (λz hz=>by rw[yas.1 hz];exact ho.2.1) 0;have ht2:t=(t.1,[o],0):=by rw[<-ht.out]
 unfold CC;rw[r1,ya,yX (by decide),yX (show¬ah ((k:Int) < 0)=af by rw[yN];omega),yX (show¬ah ((k:Int) >= (t.1.length:Int))=af by rw[yN];omega),yX (by decide),yX (by decide),yX (show¬ah ((([e]:yL yU).length:Int) > 12)=af by simp),r2,ya,l0,ya];dsimp only;rw[show Ws yD t=ab (0,u,t.1,[o]) by rw[ht2];exact hcp,ya];dsimp only;rw[yW (ZV (by omega) (by omega)),yap,hx,ya,hxy,ht.out]
noncomputable def gQ(e:yU)(l:yL al)(o:Out):Nat->Tx
 |0=>(bare l,[o],0)
 |j+1=>((gQ e l o j).1.set j ((l[j]?).getD ([],0),(0,[iI e (ff l o)],0)),(gQ e l o j).2)
theorem DI(e:yU){l:yL al}{o:Out}:∀j,j<=l.length->ft l o (gQ e l o j)
 |0,_=>ZKS
 |j+1,h=>by
  obtain⟨y,hy,_⟩:=Zf (l:=l) (k:=j) (by omega);have:=ZTD (DI e (o:=o) j (by omega)) hy (w:=((0:Int),[iI e (ff l o)],(0:yU))) ⟨Int.le_refl 0,(show(0:Int) < 4 by decide),by simp⟩;show ft l o ((gQ e l o j).1.set j ((l[j]?).getD ([],0),(0,[iI e (ff l o)],0)),(gQ e l o j).2);grind
theorem ZMv{k:aj}{l:yL al}(hc:fe l){o:Out}(ho:iE o)(hk:Key k.2.1.2.1)(t:Tx)(to:ZG)(z:Tx)(q:yL In):
 Zb (Vk yD) yD ((l.length:Int),(0:Int),k,t,to,z,(bare l,[o],0),q,([]:yL Out))=ab (k,t,to,z,gQ k.2.1.2.1 l o l.length,q,([]:yL Out)):=by
 have p1:=hc.len
 have e:=Zu (step:=Vk yD) l.length (λj:Nat=>((l.length:Int),(j:Int),k,t,to,z,gQ k.2.1.2.1 l o j,q,([]:yL Out))) (x:=(k,t,to,z,gQ k.2.1.2.1 l o l.length,q,([]:yL Out))) (by
  intro j hj;obtain⟨y,hy,_⟩:=Zf hj;unfold Vk;dsimp only;rw[yW (ZE hj),ZMu hc ho (DI _ j (by omega)) hy hk,ya,Zn (by omega)];show _=ab (Sum.inl ((l.length:Int),((j+1:Nat):Int),k,t,to,z,((gQ k.2.1.2.1 l o j).1.set j ((l[j]?).getD ([],0),(0,[iI k.2.1.2.1 (ff l o)],0)),(gQ k.2.1.2.1 l o j).2),q,([]:yL Out)));rw[hy];rfl) (by
  unfold Vk;dsimp only;rw[yX (by rw[ZA];decide)]) (by omega)
 exact e
theorem ZJw{k:aj}{l:yL al}(hc:fe l){o:Out}(ho:iE o)(hk:Key k.2.1.2.1)(t:Tx)(to:ZG)(z:Tx)(q:yL In){li:yL Int}(hli:li.length=l.length):
 Zb (Y2 yD) yD (li,(0:Int),k,t,to,z,(bare l,[o],0),q,([]:yL Out))=ab (k,t,to,z,gQ k.2.1.2.1 l o l.length,q,([]:yL Out)):=by
 have p1:=hc.len
 have e:=Zu (step:=Y2 yD) l.length (λj:Nat=>(li,(j:Int),k,t,to,z,gQ k.2.1.2.1 l o j,q,([]:yL Out))) (x:=(k,t,to,z,gQ k.2.1.2.1 l o l.length,q,([]:yL Out))) (by
  intro j hj;obtain⟨y,hy,_⟩:=Zf hj;unfold Y2;dsimp only;rw[hli,yW (ZE hj),ZJv hc ho (DI _ j (by omega)) hy hk,ya,Zn (by omega)];show _=ab (Sum.inl (li,((j+1:Nat):Int),k,t,to,z,((gQ k.2.1.2.1 l o j).1.set j ((l[j]?).getD ([],0),(0,[iI k.2.1.2.1 (ff l o)],0)),(gQ k.2.1.2.1 l o j).2),q,([]:yL Out)));rw[hy];rfl) (by
  unfold Y2;dsimp only;rw[hli,yX (by rw[ZA];decide)]) (by omega)
 exact e
theorem ZMw{k:aj}{t:Tx}(rt:RT t){l:yL Nat}(fd:CV k t l)(fee:Int)(to:ZG){id:yL yB}(hid:WC yD t=ab id):
 Zb (YZ yD) yD (fee,dS l,(0:Int),(0:Int),k,t,to,(([]:yL In),([]:yL Out),(0:Int)),(0:Int),([]:yL In),([]:yL Out))=
  ab (fee,dS l,fR t l,k,t,to,(([]:yL In),([]:yL Out),(0:Int)),(0:Int),bare (ii id l),([]:yL Out)):=by
 have ho:=rt.o1;have hl:=fd.len;have hs:=CX (λo h=>rt.ok.2.2.2.2.2 o h) fd.up fd.lt
 have hb:∀m,QM (t.2.1.take m)<=64*1125899906842624:=λm=>by
  have:=(ux (l:=t.2.1) (t.2.1.take m).length (by rw[yx];omega) (λj hj o h=>(rt.outs j (by rw[yx]at hj;omega) o h).1)).2;grind
 have e:=Zu (step:=YZ yD) l.length (λj:Nat=>(fee,dS l,fR t (l.take j),(j:Int),k,t,to,(([]:yL In),([]:yL Out),(0:Int)),(0:Int),bare (ii id (l.take j)),([]:yL Out)))
  (x:=(fee,dS l,fR t l,k,t,to,(([]:yL In),([]:yL Out),(0:Int)),(0:Int),bare (ii id l),([]:yL Out))) (by
  intro j hj;obtain⟨i,hi,him⟩:=Zf hj;have jK:(dS l)[j]? =ab (i:Int):=by unfold dS;rw[List.getElem?_map,hi];rfl
  obtain⟨o,hx,hom⟩:=Zf (l:=t.2.1) (fd.lt i him);obtain⟨s0,s1⟩:=hs j (by omega);have s1:=s1 t.2.1.length (λa ha=>fd.lt a (List.mem_of_mem_take ha));have s2:=hb t.2.1.length;have q:=rt.ok.2.2.2.2.2 o hom;have q0:=q.1;have q1:=q.2.1;unfold YZ;dsimp only;rw[jb,yW (ZE hj),Zj jK,ya,Zj hx,ya,hid,ya,ya,yW (ZL (by unfold bare;rw[yab,kC,yx];omega) (by unfold bare;rw[yab,kC,yx];omega)),Zn (by omega),ZT (z:=fR t (l.take j)+o.1) (by omega) (by omega),UL hi,UM hx,ZKU hi]) (by
  unfold YZ;dsimp only;rw[jb,yX (by rw[ZA];decide),yai]) (by omega)
 exact e
theorem ZJx{k:aj}{t:Tx}{to:ZG}{fee:Int}(w:dR k.1)(hl:jQ t)(hw:kB t)(hto:dq to)(h20:t.2.1.length<=20):
 ∃r,AY yD k t to fee=ab r/\Qx yD k t to fee=ab r/\(r.1=([],[],0)\/∃l o,fe l/\iE o/\ft l o r.1):=by
 obtain⟨b,b1,b2⟩:=UB hto;obtain⟨c,c1,c2⟩:=CS hto
 have hbc:c=b:=by
  grind
 subst hbc;unfold AY Qx;rw[b1,c1,ya,ya]
 cases c with
 |false=>exact⟨_,rfl,rfl,.inl rfl⟩
 |true=>
  rw[yX (show¬(!true)=af by decide),yX (show¬(!true)=af by decide)];by_cases f0:fee < 0
  .rw[yW (yY f0),yW (yY f0)];exact⟨_,rfl,rfl,.inl rfl⟩
  rw[yX (show¬ah (fee < 0)=af by rw[yN];exact f0),yX (show¬ah (fee < 0)=af by rw[yN];exact f0)];obtain⟨l,l1,l2,fd⟩:=ZBr w hl;rw[l1,l2,ya,ya];by_cases hne:l=[]
  .subst hne;exact⟨_,rfl,rfl,.inl rfl⟩
  have hl0:0 < l.length:=List.length_pos_iff.2 hne;have hln:¬(((dS l).length:Int)==0)=af:=by rw[yT,jb];omega
  rw[yX hln,yX hln];obtain⟨hk,hr,rt,_⟩:=fd.key hne;obtain⟨i1,i2⟩:=rt.id hw hr;obtain⟨n,n1,n2,_⟩:=ZDj hl hw;rw[i1]at n1;rw[<-yaw n1]at n2;rw[ZQ8 rt hw hr,ya,ZPc rt fd fee to,ya,ZMw rt fd fee to n2,ya];dsimp only;by_cases f1:fR t l < fee
  .rw[yW (yY f1),yW (yY f1)];exact⟨_,rfl,rfl,.inl rfl⟩
  rw[yX (show¬ah (fR t l < fee)=af by rw[yN];exact f1),yX (show¬ah (fR t l < fee)=af by rw[yN];exact f1)];have hs:=CX (λo h=>rt.ok.2.2.2.2.2 o h) fd.up fd.lt l.length (yj _);rw[yai]at hs;have hs2:=hs.2 t.2.1.length fd.lt
  have hcap:QM t.2.1<=1125899906842624:=by
   rcases Nat.eq_zero_or_pos t.2.1.length with h|h
   .rw[List.eq_nil_of_length_eq_zero h];decide
   .obtain⟨o,hx,_⟩:=Zf (l:=t.2.1) (k:=t.2.1.length - 1) (by omega);have:=(rt.outs (t.2.1.length - 1) (by omega) o hx).2;grind
  rw[yai]at hs2;have hco:iE (fR t l - fee,to):=⟨⟨by dsimp only;omega,by dsimp only;omega⟩,b2.1 rfl⟩;have hcl:=ZQ9 i2 fd.up fd.lt (by have:=fd.len;omega) rt.o1 hne;rw[ZT (z:=fR t l - fee) (by omega) (by omega)];have T1:=ZMv hcl hco hk t to (([]:yL In),([]:yL Out),(0:Int)) (bare (ii (gO t) l));have T2:=ZJw hcl hco hk t to (([]:yL In),([]:yL Out),(0:Int)) (bare (ii (gO t) l)) (li:=dS l) (by rw[jb,kC]);rw[kC]at T1;rw[kC]at T2;rw[jb,T1,T2,ya];exact⟨_,rfl,rfl,.inr ⟨_,_,hcl,hco,DI _ _ (Nat.le_of_eq (kC _ _).symm)⟩⟩
theorem ZMx{w:XT}(hl:w.2.1.length<=1000000):VI yD w w=ab af:=by
 unfold VI
 have q:=Zu (step:=Yx yD) w.2.1.length (λk:Nat=>((k:Int),w,w)) (x:=.inr (w,w)) (by
  intro k hk;obtain⟨e,he,_⟩:=Zf hk;unfold Yx;dsimp only;rw[yW (ZE hk),Zj he,ya,ya,yX (by simp),Zn (by omega)]) (by
  unfold Yx;dsimp only;rw[yX (by rw[ZA];decide)]) (by omega)
 have q:Zb (Yx yD) yD ((0:Int),w,w)=_:=q;rw[yX (by simp),yX (by simp),yX (by simp),q,ya]
theorem ZJy{l:ZG}(hl:l.length<=1000000)(hk:∀b,b∈l->b.1.length<=1000000):CE yD l l=ab af:=by
 unfold CE
 have q:=Zu (step:=Xk yD) l.length (λk:Nat=>((k:Int),l,l)) (x:=.inr (l,l)) (by
  intro k hk2;obtain⟨e,he,hm⟩:=Zf hk2;have hb:=hk e hm
  have p:=Zu (step:=Xj yD) e.1.length (λj:Nat=>((k:Int),(j:Int),l,l,e,e)) (x:=.inr ((k:Int),l,l,e,e)) (by
   intro j hj;obtain⟨d,hd,_⟩:=Zf hj;unfold Xj;dsimp only;rw[yW (ZE hj),Zj hd,ya,ya,yX (by simp),Zn (by omega)]) (by
   unfold Xj;dsimp only;rw[yX (by rw[ZA];decide)]) (by omega)
  have p:Zb (Xj yD) yD ((k:Int),(0:Int),l,l,e,e)=_:=p;unfold Xk;dsimp only;rw[yW (ZE hk2),Zj he,ya,ya,yX (by simp),yX (by simp),yX (by simp),yX (by simp),p,ya];dsimp only;rw[Zn (by omega)]) (by
  unfold Xk;dsimp only;rw[yX (by rw[ZA];decide)]) (by omega)
 have q:Zb (Xk yD) yD ((0:Int),l,l)=_:=q;rw[yX (by simp),q,ya]
theorem ZBs{t:Tx}(h1:t.1.length<=1000000)(h2:t.2.1.length<=1000000)(h3:∀x,x∈t.1->x.2.2.1.length<=1000000)(h4:∀o,o∈t.2.1->o.2.length<=1000000/\∀b,b∈o.2->b.1.length<=1000000):WD yD t t=ab af:=by
 unfold WD
 have q:=Zu (step:=Xl yD) t.1.length (λk:Nat=>((k:Int),t,t)) (x:=.inr (t,t)) (by
  intro k hk;obtain⟨e,he,hm⟩:=Zf hk;unfold Xl;dsimp only;rw[yW (ZE hk),Zj he,ya,ya,yX (by simp),ya,ya,ZMx (h3 e hm),ya,yX (by decide),Zn (by omega)]) (by
  unfold Xl;dsimp only;rw[yX (by rw[ZA];decide)]) (by omega)
 have q:Zb (Xl yD) yD ((0:Int),t,t)=_:=q
 have p:=Zu (step:=Xm yD) t.2.1.length (λk:Nat=>((k:Int),t,t)) (x:=.inr (t,t)) (by
  intro k hk;obtain⟨e,he,hm⟩:=Zf hk;obtain⟨g1,g2⟩:=h4 e hm;unfold Xm;dsimp only;rw[yW (ZE hk),Zj he,ya,ya,yX (by simp),ya,ya,ZJy g1 g2,ya,yX (by decide),Zn (by omega)]) (by
  unfold Xm;dsimp only;rw[yX (by rw[ZA];decide)]) (by omega)
 have p:Zb (Xm yD) yD ((0:Int),t,t)=_:=p;rw[yX (by simp),yX (by simp),yX (by simp),q,ya];dsimp only;rw[p,ya]
theorem ZMy{l:yL Int}(hl:l.length<=1000):CD yD l l=ab af:=by
 have e:=Zu (step:=Xi yD) l.length (λk:Nat=>(l,l,(k:Int))) (x:=(.inr ():Bool⊕Unit)) (by
  intro k hk;obtain⟨z,hz,_⟩:=Zf hk;unfold Xi;dsimp only;rw[yW (ZE hk),Zj hz,ya,ya,yX (show¬(z !=z)=af by simp),Zn (by omega)]) (by
  unfold Xi;dsimp only;rw[yX (by rw[ZA];decide)]) (by omega)
 have e:Zb (Xi yD) yD (l,l,(0:Int))=_:=e;unfold CD;rw[yX (show¬((l.length:Int)!=(l.length:Int))=af by simp),e,ya]
theorem ZR0(k:aj):BL yD k=ab k:=rfl
theorem ZJz{T:Tx}(h:T=([],[],0)\/∃l o,fe l/\iE o/\ft l o T):WD yD T T=ab af:=by
 rcases h with rfl|⟨l,o,hc,ho,ht⟩
 .exact ZBs (by simp) (by simp) (λx hx=>by cases hx) (λx hx=>by cases hx)
 .have zV:=ht.len;have p1:=hc.len;have h1:=ht.out;refine ZBs (by omega) (by rw[h1];simp) (λx hx=>by have:=(ht.uz x hx).2.2;omega) (λx hx=> ?_);rw[h1]at hx;rw[yas.1 hx];exact⟨by have:=ho.2.1.2.1;omega,λb hb=>by have:=(ho.2.1.2.2 b hb).1;omega⟩
theorem ZUY{a:yL yB}(ha:a.length<=1000000)(e:Int)(ok:Bool)(h:Int)(key:yL yB){k:aj}(w:dR k.1)(t:Tx)(to:ZG)(K:aj)(m:fJ)(T:Tx):
 Xv yD (af,a,e,a,e,ok,ok,h,h,key,k,t,to,k,K,K,m,m,T,T)=ab (af,h,h,af,key,k,t,to,k,K,K,m,m,T,T):=by
 unfold Xv;dsimp only;rw[ZHH ha,ya,yW (yY rfl),yW (beq_self_eq_true e),ZR0,ya,yW (yY rfl),yW (beq_self_eq_true ok),uB w,uK w,ya,ya,beq_self_eq_true]
theorem ZUZ(h:Int)(key:yL yB)(k:aj)(t:Tx)(to:ZG)(K:aj)(m:fJ)(T:Tx):
 Xw yD (af,h,h,af,key,k,t,to,k,K,K,m,m,T,T)=ab (af,h,h,af,af,key,k,t,to,k,K,K,m,m,T,T):=by
 unfold Xw;dsimp only;rw[yW (beq_self_eq_true m.1),yW (beq_self_eq_true m.2.1),yW (beq_self_eq_true m.2.2.1),yW (yY rfl),yY rfl]
theorem ZU0(h:Int)(key:yL yB){k:aj}{t:Tx}{l:yL Int}(l1:qg yD k t=ab l)(l2:Wc yD k t=ab l)(hl:l.length<=1000)(to:ZG)(K:aj)(m:fJ){T:Tx}(hT:WD yD T T=ab af):
 Xx yD (af,h,h,af,af,key,k,t,to,k,K,K,m,m,T,T)=ab (af,key,k,t,to,k,K,K,m,m,T,T):=by
 unfold Xx;dsimp only;rw[yW rfl,yW rfl,yW rfl,l1,l2,ya,ya,ZMy hl,ya,yW rfl,hT,ya,yW rfl,beq_self_eq_true]
theorem ZMz{key:yL yB}{k:aj}{b:yL yB}{t:Tx}{to:ZG}{fee:Int}(hk:key.length=32)(w:dR k.1)(h1:k.1.1.1.length=32)(h2:k.2.1.2.2.2.2.2.length=32)(hw:kB t)(hlk:∀o,o∈t.2.1->dq o.2)(hto:dq to):
 Y4 yD key k b t to fee=ab af:=by
 unfold Y4;rw[ya]
 have e2:(∃r:Bool,Xu yD (b,fee,af,key,k,t,to)=ab (b,fee,af,r,key,k,t,to)/\(r=ag->b.length<=1000/\t.2.1.length<=20/\t.1.length<=20)):=by
  unfold Xu;dsimp only;by_cases c0:(b.length:Int) > 1000
  .exact⟨af,yW (yY c0),λh=>by cases h⟩
  rw[yX (show¬ah ((b.length:Int) > 1000)=af by rw[yN];exact c0)];by_cases c1:(t.2.1.length:Int) > 20
  .exact⟨af,yW (yY c1),λh=>by cases h⟩
  rw[yX (show¬ah ((t.2.1.length:Int) > 20)=af by rw[yN];exact c1)];exact⟨_,rfl,λh=>by have:=of_decide_eq_false h;omega⟩
 obtain⟨r,e2,e3⟩:=e2;rw[e2,ya];dsimp only
 cases r with
 |true=>rw[yW rfl]
 |false=>
  obtain⟨c0,c1,c2⟩:=e3 rfl;have hl:jQ t:=⟨by omega,by omega,hlk⟩;obtain⟨a,e,m1,m2,m3⟩:=ZMp hk w h1 h2;obtain⟨q,q1,q2⟩:=ZPt w h1 h2;obtain⟨r,r1,r2,r3⟩:=ZJx (fee:=fee) w hl hw hto (by omega);obtain⟨l,l1,l2,fd⟩:=ZBr w hl;have hfl:=fd.len;rw[yX (by decide),ZR0,ya,m1,ya,m2,ya,ZRv hk c0,ya,ZPz hk c0,ya,q1,ya,q2,ya,r1,ya,r2,ya,ZUY (show a.length<=1000000 by omega) _ _ _ _ w,ya];dsimp only;rw[ZUZ,ya];dsimp only;rw[ZU0 _ _ l1 l2 (by rw[jb];omega) _ _ _ (ZJz r3),ya]
end Go.Proofs.YtekdgjajmennjaaGreat
end
