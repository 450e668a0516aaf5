/- Parts of the proof, in one file. -/
import Derived.Test.YtekdgjajmennjaaGreatKe
open Option renaming some → ab, none → ae
open Bool renaming true → af, false → ag
open Decidable renaming decide → ah
open Bool renaming and_eq_true → yi
open Go.Proofs.Tryz renaming prog → yb
open List renaming length_append → yl, replicate → yw, length_take → yx, length_map → yab, append_assoc → yad, getElem?_map → yak, map_append → yao, length_set → yba, take_append_drop → ybd, length_drop → ybw, getElem?_set_self → ycj, length_replicate → ycs
open Nat renaming add → yr, mod_eq_of_lt → yaf, mod_lt → ybb, add_zero → ybu, two_pow_add_eq_or_of_lt → ycw
open Option renaming bind_some → ya
open UInt32 renaming toNat → yal, toNat_ofNat' → ycq
open UInt64 renaming ofNat → yv, toNat_ofNat' → yan, toNat_inj → ybz, lt_iff_toNat_lt → ycc
open UInt8 renaming toNat → yaj, ofNat → yav
set_option linter.unusedVariables false
set_option linter.unusedSimpArgs false
section
set_option maxRecDepth 4000
namespace Go.Proofs.YtekdgjajmennjaaGreat
open Go Go.Ev Go.Sha
theorem kp(x:yV)(n k:Nat)(h:n+k=32)(hn:0 < n){z:Int}(hz:((cD z)&&&31).toNat=k):∃o,ZR yD x z=ab o/\o.toNat=lo (Nat.shiftRight (ew x.toNat) n):=by
 refine⟨_,rfl, ?_⟩;have e1:((((cD z)&&&31).toNat:Int)).toNat=k:=by rw[hz];rfl
 have e2:(32 - ((cD z)&&&31)).toNat=n:=by
  have h1:((cD z)&&&31)=yv k:=ybz.1 (by rw[hz,yan];omega);rw[h1,UInt64.toNat_sub,yan];grind
 rw[e1,show((((32 - ((cD z)&&&31)).toNat:Nat):Int)).toNat=n by rw[e2];rfl,Nat.min_eq_left (by omega),Nat.min_eq_left (by omega)];exact ZRM x h hn
theorem ZS9{l:yL yB}{a b c d:yB}(ha:l[0]? =ab a)(hb:l[1]? =ab b)(hc:l[2]? =ab c)(hd:l[3]? =ab d):∃o,xL yD l=ab o/\o.toNat=((a.toNat*256+b.toNat)*256+c.toNat)*256+d.toNat:=by
 unfold xL;rw[pM (i:=0) (by omega) ha,pM (i:=1) (by omega) hb,pM (i:=2) (by omega) hc,pM (i:=3) (by omega) hd];refine⟨_,rfl, ?_⟩;have h1:=a.toNat_lt;have h2:=b.toNat_lt;have h3:=c.toNat_lt;have h4:=d.toNat_lt
 have hs:∀(x:yB)(n:Nat),n<=24->(fB (UInt32.ofNat x.toNat) n).toNat=x.toNat*2 ^ n:=by
  intro x n hn;have hx:=x.toNat_lt;unfold fB;rw[ycq,ycq,yaf (a:=x.toNat) (by omega)];refine yaf ?_
  calc x.toNat*2 ^ n < 2 ^ 8*2 ^ n:=Nat.mul_lt_mul_of_pos_right hx (Nat.two_pow_pos n)
   _=2 ^ (8+n):=(Nat.pow_add ..).symm
   _<=2 ^ 32:=Nat.pow_le_pow_right (by omega) (by omega)
 rw[lx,lx,lx,hs _ _ (by omega),hs _ _ (by omega),hs _ _ (by omega),ycq,yaf (a:=d.toNat) (by omega)]
 have k1:Nat.lor (a.toNat*2 ^ 24) (b.toNat*2 ^ 16)=2 ^ 16*(a.toNat*256+b.toNat):=by
  rw[Nat.mul_comm a.toNat,show Nat.lor (2 ^ 24*a.toNat) (b.toNat*2 ^ 16)=2 ^ 24*a.toNat|||b.toNat*2 ^ 16 from rfl, <-ycw (by omega)]
  omega
 have k2:Nat.lor (2 ^ 16*(a.toNat*256+b.toNat)) (c.toNat*2 ^ 8)=2 ^ 8*((a.toNat*256+b.toNat)*256+c.toNat):=by
  rw[show Nat.lor (2 ^ 16*(a.toNat*256+b.toNat)) (c.toNat*2 ^ 8)=2 ^ 16*(a.toNat*256+b.toNat)|||c.toNat*2 ^ 8 from rfl, <-ycw (by omega)]
  omega
 rw[k1,k2,show Nat.lor (2 ^ 8*((a.toNat*256+b.toNat)*256+c.toNat)) d.toNat=2 ^ 8*((a.toNat*256+b.toNat)*256+c.toNat)|||d.toNat from rfl, <-ycw (by omega)]
 omega
theorem ZOI{l:yL yB}(h:l.length=64):∃o,xN yD l=ab o/\o.length=64/\∀(i:Nat)x,i < 64->o[i]? =ab x->x.toNat=wd (Yk (l.map yaj)) i:=by
 unfold xN;generalize hz:([0,0,0,0,0,0,0,0,0,0,0,0,0,0,0,0,0,0,0,0,0,0,0,0,0,0,0,0,0,0,0,0,0,0,0,0,0,0,0,0,0,0,0,0,0,0,0,0,0,0,0,0,0,0,0,0,0,0,0,0,0,0,0,0]:yL yV)=z;have hzl:z.length=64:=by rw[<-hz];rfl
 refine Exists.elim (VO (step:=xM yD) (λs=>s.1=l/\0<=s.2.1/\s.2.1<=64/\s.2.2.length=64/\∀(j:Nat)x,(j:Int) < s.2.1->s.2.2[j]? =ab x->x.toNat=wd (Yk (l.map yaj)) j) (λs=>(64 - s.2.1).toNat)
  (λo=>o.length=64/\∀(j:Nat)x,j < 64->o[j]? =ab x->x.toNat=wd (Yk (l.map yaj)) j) ?_ (l,(0:Int),z) ⟨rfl,Int.le_refl _,by dsimp only;omega,hzl,λj x hj=>by dsimp only at hj;omega⟩ (by dsimp only;omega)) ?_
 rotate_left
 .grind
 .rintro⟨b,i,w⟩ ⟨hb,h0,h64,hw,hv⟩;dsimp only at hb h0 h64 hw hv;subst hb;unfold xM;dsimp only
  have hset:∀(y:yV),y.toNat=wd (Yk (b.map yaj)) i.toNat->i < 64->∀(j:Nat)x,(j:Int) < i+1->(w.set i.toNat y)[j]? =ab x->x.toNat=wd (Yk (b.map yaj)) j:=by
   all_goals grind
  by_cases hi:i < 64
  .left;rw[yW (yY hi)];obtain⟨e,he⟩:=iA (l:=w) (i:=i.toNat) (by omega);by_cases h16:i < 16
   .rw[yW (yY h16),ZT (z:=4*i) (by omega) (by omega),yW (by simp only[Q0,yi,yP];omega)];have g:∀k:Nat,k < 4->∃x,b[4*i.toNat+k]? =ab x:=λk hk=>iA (by omega);obtain⟨x0,g0⟩:=g 0 (by omega);obtain⟨x1,g1⟩:=g 1 (by omega);obtain⟨x2,g2⟩:=g 2 (by omega);obtain⟨x3,g3⟩:=g 3 (by omega);have e4:(4*i).toNat=4*i.toNat:=by omega
    obtain⟨o,ho,hoe⟩:=ZS9 (l:=b.drop (4*i).toNat) (by rw[List.getElem?_drop,e4];exact g0) (by rw[List.getElem?_drop,e4];exact g1) (by rw[List.getElem?_drop,e4];exact g2) (by rw[List.getElem?_drop,e4];exact g3);rw[ho,ya,yW (ZV h0 (by omega)),he,ya,ZT (z:=i+1) (by omega) (by omega)];refine⟨_,rfl,⟨rfl,by dsimp only;omega,by dsimp only;omega,by dsimp only;rw[yba];exact hw,hset o ?_ hi⟩,by dsimp only;omega⟩;have mg:∀(k:Nat)(x:yB),b[k]? =ab x->(b.map yaj)[k]? =ab x.toNat:=λk x hx=>by rw[yak,hx];rfl
    have hwg:=MY i.toNat (b.map yaj) _ _ _ _ (mg _ _ g0) (mg _ _ g1) (mg _ _ g2) (mg _ _ g3);rw[hoe];have b0:=x0.toNat_lt;have b1:=x1.toNat_lt;have b2:=x2.toNat_lt;have b3:=x3.toNat_lt;exact(ZG1 _ (by omega) hwg (by omega)).symm
   .rw[yX (by simpa using h16)];rw[ZT (z:=i - 15) (by omega) (by omega),ZT (z:=i - 2) (by omega) (by omega),ZT (z:=i - 16) (by omega) (by omega),ZT (z:=i - 7) (by omega) (by omega),ZT (z:=i+1) (by omega) (by omega)];obtain⟨e1,he1⟩:=iA (l:=w) (i:=(i - 15).toNat) (by omega);obtain⟨e2,he2⟩:=iA (l:=w) (i:=(i - 2).toNat) (by omega);obtain⟨e3,he3⟩:=iA (l:=w) (i:=(i - 16).toNat) (by omega);obtain⟨e4,he4⟩:=iA (l:=w) (i:=(i - 7).toNat) (by omega);have v1:=hv _ _ (by omega) he1;have v2:=hv _ _ (by omega) he2;have v3:=hv _ _ (by omega) he3;have v4:=hv _ _ (by omega) he4;rw[yW (ZV (by omega) (by omega)),he1,ya,yW (ZV (by omega) (by omega)),he2,ya];obtain⟨o1,ho1,p1⟩:=kp e1 7 25 rfl (by omega) (z:= -7) rfl;obtain⟨o2,ho2,p2⟩:=kp e1 18 14 rfl (by omega) (z:= -18) rfl;obtain⟨o3,ho3,p3⟩:=kp e2 17 15 rfl (by omega) (z:= -17) rfl;obtain⟨o4,ho4,p4⟩:=kp e2 19 13 rfl (by omega) (z:= -19) rfl;rw[ho1,ya,ho2,ya,ho3,ya,ho4,ya];rw[yW (ZV (by omega) (by omega)),he3,ya,yW (ZV (by omega) (by omega)),he4,ya]
    try dsimp only
    rw[yW (ZV h0 (by omega)),he,ya];refine⟨_,rfl,⟨rfl,by dsimp only;omega,by dsimp only;omega,by dsimp only;rw[yba];exact hw,hset _ ?_ hi⟩,by dsimp only;omega⟩;have hn:=MV (Yk (b.map yaj)) (i - 16).toNat
    rw[show(i - 16).toNat+16=i.toNat by omega,show(i - 16).toNat+1=(i - 15).toNat by omega,show(i - 16).toNat+9=(i - 7).toNat by omega,show(i - 16).toNat+14=(i - 2).toNat by omega, <-v1, <-v2, <-v3, <-v4]at hn;rw[hn];rw[fl,fl,fl,ZUb e1 p1 p2,ZUc e2 p3 p4];exact ZUh ..
  grind
theorem ZOJ{st:yL yV}{l:yL yB}(hs:st.length=8)(h:l.length=64):∃o,tI yD st l=ab o/\o.map yal=fI (st.map yal) (Yk (l.map yaj)):=by
 unfold tI;obtain⟨w,hw,hwl,hwv⟩:=ZOI h;obtain⟨k,hk,hkv⟩:∃k,MK yD=ab k/\k.map yal=ks:=⟨_,rfl,rfl⟩;have hkl:k.length=64:=by rw[<-yab (f:=yal),hkv];rfl
 generalize hws:Yk (l.map yaj)=ws at hwv;rw[hw,ya,hk,ya]
 refine Exists.elim (VO (step:=Q4 yD) (λs=>0<=s.1/\s.1<=64/\s.2.1=st/\s.2.2.2.1=w/\s.2.2.2.2.1=k/\s.2.2.2.2.2.length=8/\s.2.2.2.2.2.map yal=rs ws (st.map yal) s.1.toNat) (λs=>(64 - s.1).toNat)
  (λo=>o.1=st/\o.2.2.2.2.length=8/\o.2.2.2.2.map yal=rs ws (st.map yal) 64) ?_ ((0:Int),st,([0,0,0,0,0,0,0,0]:yL yV),w,k,st) ⟨Int.le_refl _,by dsimp only;omega,rfl,rfl,rfl,hs,rfl⟩ (by dsimp only;omega)) ?_
 rotate_left
 .rintro o ⟨h1,p0,p1,p2⟩;rw[h1,ya];have hml:(fI (st.map yal) ws).length=8:=ov (by rw[yab];exact hs)
  refine Exists.elim (VO (step:=Q5 yD) (λs=>0<=s.1/\s.1<=8/\s.2.1=st/\s.2.2.2.2.2.length=8/\(∀(j:Nat)x,s.2.2.2.2.2[j]? =ab x->if(j:Int) < s.1 then(fI (st.map yal) ws)[j]? =ab x.toNat else(rs ws (st.map yal) 64)[j]? =ab x.toNat)) (λs=>(8 - s.1).toNat)
   (λo=>o.2.2.2.2.map yal=fI (st.map yal) ws) ?_ ((0:Int),o.1,o.2.1,o.2.2.1,o.2.2.2.1,o.2.2.2.2) ⟨Int.le_refl _,by dsimp only;omega,p0,p1,λj x hx=>by
     dsimp only at hx ⊢;rw[yX (by omega), <-p2,yak,hx];rfl⟩ (by dsimp only;omega)) ?_
  rotate_left
  .grind
  .rintro⟨i,a,b,c,d,e⟩ ⟨h0,h8,ha,he,hv⟩;dsimp only at h0 h8 ha he hv;subst ha;unfold Q5;dsimp only;by_cases hi:i < 8
   .left;obtain⟨e1,he1⟩:=iA (l:=e) (i:=i.toNat) (by omega);obtain⟨e2,he2⟩:=iA (l:=a) (i:=i.toNat) (by omega);simp only[yY hi,if_true,ZV h0 (show i < ((8:Nat):Int) by omega),he1,he2,ya];rw[ZT (z:=i+1) (by omega) (by omega)];refine⟨_,rfl,⟨by dsimp only;omega,by dsimp only;omega,rfl,by dsimp only;rw[yba];exact he, ?_⟩,by dsimp only;omega⟩;intro j x hx;dsimp only at hx ⊢;by_cases hji:j=i.toNat
    .subst hji;rw[ycj (by omega)]at hx;cases hx;rw[yW (by omega),fl];have k1:=hv _ _ he1;rw[yX (by omega)]at k1;unfold fI;grind
    grind
   .right;rw[yX (by simpa using hi)];refine⟨_,rfl, ?_⟩;dsimp only;apply List.ext_getElem?
    all_goals grind
 .rintro⟨i,a,b,c,d,e⟩ ⟨h0,h64,ha,hc,hd,he,hv⟩;dsimp only at h0 h64 ha hc hd he hv;subst ha hc hd;unfold Q4;dsimp only;by_cases hi:i < 64
  .left
   match e,he,hv with
   |[x0,x1,x2,x3,x4,x5,x6,x7],_,hv=>
    obtain⟨e1,he1⟩:=iA (l:=d) (i:=i.toNat) (by omega);obtain⟨e2,he2⟩:=iA (l:=c) (i:=i.toNat) (by omega);obtain⟨o1,ho1,p1⟩:=kp x4 6 26 rfl (by omega) (z:= -6) rfl;obtain⟨o2,ho2,p2⟩:=kp x4 11 21 rfl (by omega) (z:= -11) rfl;obtain⟨o3,ho3,p3⟩:=kp x4 25 7 rfl (by omega) (z:= -25) rfl;obtain⟨o4,ho4,p4⟩:=kp x0 2 30 rfl (by omega) (z:= -2) rfl;obtain⟨o5,ho5,p5⟩:=kp x0 13 19 rfl (by omega) (z:= -13) rfl;obtain⟨o6,ho6,p6⟩:=kp x0 22 10 rfl (by omega) (z:= -22) rfl;generalize ZR yD=R at ho1 ho2 ho3 ho4 ho5 ho6 ⊢;rw[yW (yY hi)];simp only[List.getElem?_cons_zero,List.getElem?_cons_succ];rw[ya,ho1,ya,ya,ho2,ya,ya,ho3,ya,ya,ya,ya,ya,ya];rw[yW (ZV h0 (show i < ((64:Nat):Int) by omega)),he1,ya,yW (ZV h0 (show i < ((64:Nat):Int) by omega)),he2,ya,ya,ho4,ya,ya,ho5,ya,ya,ho6];rw[ya,ya,ya,ya,ya,ya];rw[ya,ya,ya,ya,ya,ya,ya];rw[ZT (z:=i+1) (by omega) (by omega)];refine⟨_,rfl,⟨by dsimp only;omega,by dsimp only;omega,rfl,rfl,rfl,rfl, ?_⟩,by dsimp only;omega⟩;dsimp only;rw[show(i+1).toNat=i.toNat+1 by omega,show rs ws (a.map yal) (i.toNat+1)=ou (rs ws (a.map yal) i.toNat) (ks.getD i.toNat 0) (wd ws i.toNat) from rfl, <-hv]
    have hk1:ks.getD i.toNat 0=e1.toNat:=by
     grind
    rw[hk1, <-hwv i.toNat e2 (by omega) he2];simp only[List.map_cons,List.map_nil];rw[MX]
    have kt:((x7+((o1^^^o2)^^^o3))+(x6^^^(x4&&&(x5^^^x6)))+e1+e2).toNat=lo (yr (yr (yr (yr x7.toNat (S1 x4.toNat)) (ch x4.toNat x5.toNat x6.toNat)) e1.toNat) e2.toNat):=by
     rw[fl,fl,fl,fl,ZUe x4 p1 p2 p3,ZUf];exact ZUi ..
    have ka:((x7+((o1^^^o2)^^^o3))+(x6^^^(x4&&&(x5^^^x6)))+e1+e2+((o4^^^o5)^^^o6)+((x0&&&x1)|||(x2&&&(x0|||x1)))).toNat=lo (yr (yr (yr (yr (yr (yr x7.toNat (S1 x4.toNat)) (ch x4.toNat x5.toNat x6.toNat)) e1.toNat) e2.toNat) (S0 x0.toNat)) (mj x0.toNat x1.toNat x2.toNat)):=by
     rw[fl,fl,kt,ZUd x0 p4 p5 p6,ZUg];exact ZUj ..
    have ke:(x3+(((x7+((o1^^^o2)^^^o3))+(x6^^^(x4&&&(x5^^^x6))))+e1+e2)).toNat=lo (yr x3.toNat (yr (yr (yr (yr x7.toNat (S1 x4.toNat)) (ch x4.toNat x5.toNat x6.toNat)) e1.toNat) e2.toNat)):=by
     rw[fl,kt];exact ZUk ..
    rw[ka,ke]
  .right;rw[yX (by simpa using hi)];grind
def dB(n:Nat):yL yB:=(ic n).map yav
theorem yA{n:Nat}{b:yL yB}(h:b.length<=1000000000000):mI yD (n:Int) b=ab (b++dB n):=by
 unfold mI
 obtain⟨o,h1,h2⟩:=VO (step:=xJ yD) (λs=>∃k:Nat,k<=8/\s.1=(n:Int)/\s.2.1=56 - 8*(k:Int)/\s.2.2.1=b++(dB n).take k) (λs=>(s.2.1+8).toNat) (λo=>o.1=b++dB n) (by
  rintro⟨a,i,c,d⟩ ⟨k,hk,ha,hi,hc⟩;dsimp only at ha hi hc;subst ha;unfold xJ;dsimp only;have hcl:c.length<=b.length+8:=by rw[hc,yl,yx];omega
  by_cases h0:i >= 0
  .left;rw[yW (yY h0),yW (yY h0),yW (ZL (by omega) (by omega)),ZT (z:=i - 8) (by omega) (by omega)];refine⟨_,rfl,⟨k+1,by omega,rfl,by dsimp only;omega, ?_⟩,by dsimp only;omega⟩;dsimp only
   have hw:∀m:Nat,w8 (Int.fdiv (n:Int) (2 ^ m))=yav (n / 2 ^ m % 256):=by
    intro m;unfold w8;grind
   have hmin:min i.toNat 64=56 - 8*k:=by omega
   rw[hmin,hw,hc,yad];congr 1;have hk8:k < 8:=by omega
   match k,hk8 with
   |0,_=>rfl
   |1,_=>rfl
   |2,_=>rfl
   |3,_=>rfl
   |4,_=>rfl
   |5,_=>rfl
   |6,_=>rfl
   |7,_=>
    show _++[yav (n / 2 ^ 0 % 256)]=_;rw[Nat.pow_zero,Nat.div_one];rfl
  .right;rw[yX (by simpa using h0)];have hk8:k=8:=by omega
   subst hk8;exact⟨_,rfl,hc⟩) (((n:Int),(56:Int),b,([]:yL yB))) ⟨0,by omega,rfl,by simp,by simp⟩ (by dsimp only;omega)
 grind
theorem ZTa{l:yL yB}(h:l.length<=4294967296):tJ yD l=ab (fO l):=by
 unfold tJ
 have hm:Int.tmod (l.length:Int) 64=((l.length % 64:Nat):Int):=by
  grind
 have hlt:l.length % 64 < 64:=ybb _ (by omega);have hle:l.length % 64<=l.length:=Nat.mod_le _ _;rw[hm,ZT (z:=(l.length:Int) - ((l.length % 64:Nat):Int)) (by omega) (by omega)];dsimp only;rw[yW (by simp only[Q0,yi,yP];omega)];have hq:((l.length:Int) - ((l.length % 64:Nat):Int)).toNat=64*(l.length / 64):=by omega
 rw[hq]
 have hdl:(l.drop (64*(l.length / 64))).length=l.length % 64:=by
  grind
 generalize ht:l.drop (64*(l.length / 64))=t at hdl
 have hcl:YG yD t=ab t:=by
  unfold YG;rw[yW (ZL (by omega) (by omega))]
 rw[hcl,ya,yW (ZL (by omega) (by omega))];generalize hz:ct=z;have hzl:z.length=32:=by rw[<-hz];rfl
 have hzs:zs l.length=(119 - t.length) % 64:=by unfold zs;rw[hdl]
 obtain⟨o,h1,p1,p2,p3⟩:=VO (step:=xK yD) (λs=>s.1=l/\s.2.1=z/\∃j,j<=zs l.length/\s.2.2=t++([128]:yL yB)++yw j 0) (λs=>184 - s.2.2.length)
  (λo=>o.1=l/\o.2.1=z/\o.2.2=t++([128]:yL yB)++yw (zs l.length) 0) (by
  rintro⟨a,b,c⟩ ⟨k1,k2,j,k3,k4⟩;dsimp only at k1 k2 k3 k4;have hcl:c.length=t.length+1+j:=by rw[k4,yl,yl,ycs];rfl
  unfold xK;dsimp only
  have hm:Int.tmod (c.length:Int) 64=((c.length % 64:Nat):Int):=by
   grind
  rw[hm];by_cases hi:c.length % 64=56
  .right;rw[yX (by simp;omega)];have:j=zs l.length:=by omega
   subst this;exact⟨_,rfl,k1,k2,k4⟩
  .left;rw[yW (by simp;omega),yW (ZL (by omega) (by omega))];have hj:j≠zs l.length:=λe=>hi (by omega);refine⟨_,rfl,⟨k1,k2,j+1,by omega, ?_⟩, ?_⟩
   .dsimp only;rw[k4,yad,List.replicate_succ',yad]
   .dsimp only;rw[yl,List.length_singleton];omega) (l,z,t++([128]:yL yB)) ⟨rfl,rfl,0,Nat.zero_le _,by simp⟩ (by dsimp only;omega)
 rw[h1,ya,p1,p2,p3,ZT (z:=8*(l.length:Int)) (by omega) (by omega),show 8*(l.length:Int)=((8*l.length:Nat):Int) by omega,yA (by
  rw[yl,yl,ycs];simp;omega),ya]
 obtain⟨f,hf,hfl⟩:∃f,MI yD=ab f/\f.map yal=iB:=⟨_,rfl,rfl⟩;have hf8:f.length=8:=by rw[<-yab (f:=yal),hfl];rfl
 rw[hf,ya];generalize hE:t++([128]:yL yB)++yw (zs l.length) 0++dB (8*l.length)=E
 have hEl:E.length=64*((t.length+72) / 64):=by
  rw[<-hE];simp only[yl,ycs,List.length_singleton,dB,yab,ic,List.length_cons,List.length_nil];omega
 obtain⟨o3,h3,r1,r2,r3,r4⟩:=VO (step:=xP yD) (λs=>s.2.1=z/\s.2.2.1=E/\s.2.2.2.length=8/\∃c,c<=l.length / 64/\s.1=l.drop (64*c)/\s.2.2.2.map yal=fb c (l.map yaj) iB) (λs=>s.1.length)
  (λx=>x.1=z/\x.2.1=E/\x.2.2.length=8/\x.2.2.map yal=fb (l.length / 64) (l.map yaj) iB) (by
  rintro⟨a,b,c,d⟩ ⟨k1,k2,k3,j,k4,k5,k6⟩;dsimp only at k1 k2 k3 k4 k5 k6;have hal:a.length=l.length - 64*j:=by rw[k5,ybw]
  unfold xP;dsimp only;by_cases hi:(a.length:Int) >= 64
  .left;obtain⟨m,hm1,hm2⟩:=ZOJ (st:=d) (l:=a.take 64) k3 (by rw[yx];omega);rw[yW (yY hi),yW (by simp only[Q0,yi,yP];omega),hm1,ya,yW (by simp only[Q0,yi,yP];omega)];refine⟨_,rfl,⟨k1,k2, ?_,j+1,by omega, ?_, ?_⟩,by dsimp only;rw[ybw];omega⟩
   .dsimp only;rw[<-yab (f:=yal),hm2];exact ov (by rw[yab];exact k3)
   .dsimp only;rw[k5,List.drop_drop];congr 1
   .dsimp only;rw[hm2,xZ,k6,k5,List.map_take,List.map_drop]
  .right;rw[yX (by simpa using hi)];have:j=l.length / 64:=by omega
   subst this;exact⟨_,rfl,k1,k2,k3,k6⟩) (l,z,E,f) ⟨rfl,rfl,hf8,0,Nat.zero_le _,by simp,hfl⟩ (by dsimp only;omega)
 rw[h3,ya,r1,r2];generalize hv1:fb (l.length / 64) (l.map yaj) iB=v1 at r4
 obtain⟨o4,h4,s1,s2,s3⟩:=VO (step:=xQ yD) (λs=>s.2.1=z/\s.2.2.2.length=8/\∃c,c<=E.length / 64/\s.1=E.drop (64*c)/\s.2.2.2.map yal=fb c (E.map yaj) v1) (λs=>s.1.length)
  (λx=>x.1=z/\x.2.2.length=8/\x.2.2.map yal=fb (E.length / 64) (E.map yaj) v1) (by
  rintro⟨a,b,c,d⟩ ⟨k1,k3,j,k4,k5,k6⟩;dsimp only at k1 k3 k4 k5 k6;have hal:a.length=E.length - 64*j:=by rw[k5,ybw]
  unfold xQ;dsimp only;by_cases hi:(a.length:Int) > 0
  .left;obtain⟨m,hm1,hm2⟩:=ZOJ (st:=d) (l:=a.take 64) k3 (by rw[yx];omega);rw[yW (yY hi),yW (by simp only[Q0,yi,yP];omega),hm1,ya,yW (by simp only[Q0,yi,yP];omega)];refine⟨_,rfl,⟨k1, ?_,j+1,by omega, ?_, ?_⟩,by dsimp only;rw[ybw];omega⟩
   .dsimp only;rw[<-yab (f:=yal),hm2];exact ov (by rw[yab];exact k3)
   .dsimp only;rw[k5,List.drop_drop];congr 1
   .dsimp only;rw[hm2,xZ,k6,k5,List.map_take,List.map_drop]
  .right;rw[yX (by simpa using hi)];have:j=E.length / 64:=by omega
   subst this;exact⟨_,rfl,k1,k3,k6⟩) (E,z,E,o3.2.2) ⟨rfl,r3,0,Nat.zero_le _,by simp,r4⟩ (by dsimp only;omega)
 rw[h4,ya];generalize hv2:fb (E.length / 64) (E.map yaj) v1=v2 at s3
 obtain⟨o5,h5,t1,t2⟩:=VO (step:=xR yD) (λs=>0<=s.1/\s.1<=32/\s.2.1.length=32/\s.2.2.2=o4.2.2/\∀(j:Nat),(j:Int) < s.1->s.2.1[j]? =ab (Go.Sha.mL v2 j)) (λs=>(32 - s.1).toNat)
  (λx=>x.1.length=32/\∀(j:Nat),j < 32->x.1[j]? =ab (Go.Sha.mL v2 j)) (by
  rintro⟨i,a,b,c⟩ ⟨h0,h32,ha,hc,hv⟩;dsimp only at h0 h32 ha hc hv;subst hc;unfold xR;dsimp only;by_cases hi:i < 32
  .left;rw[yW (yY hi)];have e1:Int.tdiv i 4=i / 4:=Int.tdiv_eq_ediv_of_nonneg h0;have e2:Int.tmod i 4=i % 4:=Int.tmod_eq_emod_of_nonneg h0;rw[e1,e2,ZT (z:=i / 4) (by omega) (by omega),ZT (z:=8*(i % 4)) (by omega) (by omega),ZT (z:=24 - 8*(i % 4)) (by omega) (by omega),ZT (z:=i+1) (by omega) (by omega)];obtain⟨x1,hx1⟩:=iA (l:=o4.2.2) (i:=(i / 4).toNat) (by omega);obtain⟨x2,hx2⟩:=iA (l:=a) (i:=i.toNat) (by omega);rw[yW (ZV (by omega) (by omega)),hx1,ya,yW (yY (by omega))]
   try dsimp only
   rw[yW (ZV (by omega) (by omega)),hx2,ya];refine⟨_,rfl,⟨by dsimp only;omega,by dsimp only;omega,by dsimp only;rw[yba];exact ha,rfl, ?_⟩,by dsimp only;omega⟩;intro j hj;dsimp only at hj ⊢;by_cases hji:j=i.toNat
   .subst hji;rw[ycj (by omega)];congr 1;unfold Go.Sha.mL
    have hx:v2.getD (i.toNat / 4) 0=x1.toNat:=by
     rw[<-s3,List.getD_eq_getElem?_getD,yak,show i.toNat / 4=(i / 4).toNat by omega,hx1];rfl
    rw[hx,show min (24 - 8*(i % 4)).toNat 32=24 - 8*(i.toNat % 4) by omega,pU];unfold w8;have e3:∀m:Nat,(((m:Nat):Int) % 256).toNat=m % 256:=λm=>by omega
    rw[e3,show Nat.shiftRight x1.toNat (24 - 8*(i.toNat % 4))=x1.toNat >>> (24 - 8*(i.toNat % 4)) from rfl,Nat.shiftRight_eq_div_pow]
    exact UInt8.toNat_inj.1 (by simp)
   .rw[List.getElem?_set_ne (Ne.symm hji)];exact hv j (by omega)
  .right;rw[yX (by simpa using hi)];exact⟨_,rfl,ha,λj hj=>hv j (by omega)⟩) ((0:Int),o4.1,o4.2.1,o4.2.2) ⟨Int.le_refl _,by dsimp only;omega,by dsimp only;rw[s1];exact hzl,rfl,λj hj=>by dsimp only at hj;omega⟩ (by dsimp only;omega)
 rw[h5,ya,NA];congr 1
 have hpad:jL l=(l.take (64*(l.length / 64))).map yaj++E.map yaj:=by
  unfold jL;rw[<-hE, <-ht];simp only[yao,List.map_replicate,List.map_cons,List.map_nil,dB,List.map_map];rw[<-yad, <-yad, <-yad, <-yao,ybd]
  have:ic (8*l.length)=(ic (8*l.length)).map (yaj ∘ yav):=by
   simp[ic]
  grind
 have hw:((l.take (64*(l.length / 64))).map yaj).length=64*(l.length / 64):=by
  grind
 have hv:v2=fb ((l.length+72) / 64) (jL l) iB:=by
  rw[hpad,show(l.length+72) / 64=l.length / 64+E.length / 64 by omega,MZ _ _ _ _ _ hw, <-hv2, <-hv1];congr 1;have:=MZ (l.length / 64) 0 _ ((l.drop (64*(l.length / 64))).map yaj) iB hw;rw[<-yao,ybd,ybu]at this;exact this
 rw[<-hv];apply List.ext_getElem?
 all_goals grind
noncomputable def ow(F:Nat)(a0:yL yB):yO aSl:=if ah (a0.length<=4294967296)=af then ab (fO a0) else tJ F a0
noncomputable def ZG2(F:Nat):Fs yb:={ MM F with M:=λx=>ow F x}
noncomputable def NB:Fs yb:=ZG2 yD
theorem Zxn:NB.Ok:=ot (s:=MM yD) ZEH λx=>by
 show ow yD x=tJ yD x;unfold ow;split
 .rename_i h;exact(ZTa (yF h)).symm
 .rfl
theorem ZKC{l:yL yB}(h:l.length<=4294967296):ow yD l=ab (fO l):=yW (yY h)
end Go.Proofs.YtekdgjajmennjaaGreat
end
section
set_option maxRecDepth 4000
namespace Go.Proofs.YtekdgjajmennjaaGreat
open Go Go.Ev
noncomputable section
def Ww(F:Nat)(a0:ByteArray)(a1:aSM):yO (aSl):=
 (mI F (a0.size:Int) []).bind λa=>
 if(bN a.length ((fg a0).length) 1)=af then
  (Zb (VZ F) F (a1,(a1.length:Int),0,ct,a++(fg a0))).bind λb=>
  (ow F b.2).bind λc=>
  ab c
 else
 ae
def Vs:Fs yb:=⟨114,[.v .str,.v aSL],[],[.str,aSL],(zP aSn),λx=>Ww yD x.1 x.2⟩
theorem Vb:Vs.Ok:=aF tH [(0,Zxl)] [Zsn,NB] ⟨ZAu,Zxn,ao⟩ ⟨ZAv,ao⟩
def Q6(F:Nat)(s:(Int×yU×aSl×aSl×aSl)):yO ((Int×yU×aSl×aSl×aSl)⊕(yU×aSl×aSl×aSl)):=
 if(ah (s.1 < 8))=af then
  if(ah (0<=wi (56 - (wi (8*s.1)))))=af then
   let a:yU:=ZJ s.2.1 (min (wi (56 - (wi (8*s.1)))).toNat 64)
   if(aS s.1 8)=af then
    (s.2.2.2.2[s.1.toNat]?).bind λb=>
    ab (.inl (wi (s.1+1),s.2.1,s.2.2.1,s.2.2.2.1,s.2.2.2.2.set s.1.toNat (w8 (a.toNat:Int))))
   else
   ae
  else
  ae
 else
 ab (.inr (s.2.1,s.2.2.1,s.2.2.2.1,s.2.2.2.2))
abbrev _root_.aSH:Go.Ev.Ty:=.arr 8 .u8
abbrev zG:List bf:=[.var (.v .u64) af,.var (.v aSn) ag,.var (.v aSn) af,.var (.v aSH) af]
def ZkQ:Lp:=⟨[(0,.am 0 []),(1,.am 1 []),(2,.am 2 []),(3,.am 3 []),(5,.v yI)],zG,[yI,.u64,aSn,aSn,aSH],[⟨.exit 0,[(0,.am 0 []),(1,.am 1 []),(2,.am 2 []),(3,.am 3 [])],zG,[.u64,aSn,aSn,aSH]⟩],Zb (Q6 yD) yD⟩
theorem Zp4:ZkQ.aT yb 248 0:=Zm { still:=[21],cK:=[19,20]} [] [] trivial
def yC(F:Nat)(s0:yU)(s1:aSl):yO ((aSl×yU×aSl)):=
 (Zb (Q6 F) F (0,s0,s1,ct,[0,0,0,0,0,0,0,0])).bind λa=>
 (Ww F tF [a.2.1,a.2.2.2]).bind λb=>
 ab (b,a.1+1,a.2.1)
def Zmp:Fs yb:=⟨248,[.am 0 [],.am 1 []],[.var (.v .u64) af,.var (.v aSn) ag],[.u64,aSn],[⟨.ret,[(0,.v aSn)],[.var (.v .u64) af,.var (.v aSn) ag],[aSn,.u64,aSn]⟩],λx=>yC yD x.1 x.2⟩
theorem ZuL:Zmp.Ok:=aF { still:=[21],cK:=[19,20]} [(0,ZkQ)] [Vs] ⟨Vb,ao⟩ ⟨Zp4,ao⟩
abbrev NC:Type:=(Int×aSl×aSp×aSl×aSp×aSl×yU×aSl)
def Vt(F:Nat)(s:NC):yO (NC⊕NC):=
 if(ah ((s.2.2.2.2.2.1.length:Int) < s.1))=af then
  (yC F s.2.2.2.2.2.2.1 s.2.2.2.2.2.2.2).bind λa=>
  if(bN s.2.2.2.2.2.1.length a.1.length 1)=af then
   ab (.inl (s.1,s.2.1,s.2.2.1,s.2.2.2.1,()::s.2.2.2.2.1,s.2.2.2.2.2.1++a.1,a.2.1,a.2.2))
  else
  ae
 else
 ab (.inr (s.1,s.2.1,s.2.2.1,s.2.2.2.1,s.2.2.2.2.1,s.2.2.2.2.2.1,s.2.2.2.2.2.2.1,s.2.2.2.2.2.2.2))
abbrev tL0:yL Ty:=[yI,aSn,aSo,aSm,aSo,aSm,.u64,aSn]
abbrev zE:List bf:=[.var (.v aSn) af,.row .u8 af 5,.row .u8 af 5,.var (.v .u64) af,.var (.v aSn) ag]
def ZkR:Lp:=⟨[(1,.v yI),(5,.rw 2),(6,.fn 248 [.am 3 [],.am 4 []])],zE,tL0,[⟨.exit 0,[(1,.v yI),(5,.rw 2)],zE,tL0⟩],Zb (Vt yD) yD⟩
def hi5:HI:={ own:=[5,16,25,27],still:=[17],bM:=[4,5,16,25,27,28,30],cK:=[26]}
theorem Zp5:ZkR.aT yb 174 0:=Zm hi5 [] [Zmp] ⟨ZuL,ao⟩
def tL(F:Nat)(a0:aSl)(a1:Int):yO ((aSp×aSl)):=
 if(ah (a1 < 0))=af then
  ab ([],[])
 else
 if(ah (a1 > 65536))=af then
  ab ([],[])
 else
 if(af&&(ju (wi (a1+32)) 1))=af then
  (MG F a0).bind λa=>
  (Zb (Vt F) F (a1,a0,[],[],[],[],a.1,a.2)).bind λb=>
  if(ah (0<=b.1)&&ah (b.1.toNat<=b.2.2.2.2.2.1.length))=af then
   ab (b.2.2.2.2.1,b.2.2.2.2.2.1.take b.1.toNat)
  else
  ae
 else
 ae
def ND:Fs yb:=⟨174,[.v aSn,.v yI],[],[aSn,yI],[⟨.ret,[(0,.rw 0)],[.row .u8 af 5],[aSo,aSm]⟩],λx=>tL yD x.1 x.2⟩
theorem ZkS:ND.Ok:=aF hi5 [(0,ZkR)] [Zxk] ⟨ZEG,ao⟩ ⟨Zp5,ao⟩
def za(F:Nat)(s:(aSl×Int×Int×aSl×aSp×aSl)):yO ((aSl×Int×Int×aSl×aSp×aSl)⊕(aSl×aSp×aSl)):=
 if(ah (s.2.2.1 < s.2.1))=af then
  if(aS s.2.2.1 s.2.2.2.2.2.length)=af then
   (s.2.2.2.2.2[s.2.2.1.toNat]?).bind λa=>
   (idx s.1 s.2.2.1).bind λb=>
   if(aS s.2.2.1 s.2.2.2.2.2.length)=af then
    (s.2.2.2.2.2[s.2.2.1.toNat]?).bind λc=>
    ab (.inl (s.1,s.2.1,wi (s.2.2.1+1),s.2.2.2.1,s.2.2.2.2.1,s.2.2.2.2.2.set s.2.2.1.toNat (a^^^b)))
   else
   ae
  else
  ae
 else
 ab (.inr (s.2.2.2.1,s.2.2.2.2.1,s.2.2.2.2.2))
def ZuM:Lp:=⟨[(1,.v aSm),(5,.rw 1),(12,.v yI),(13,.v yI)],[.var (.v aSn) af,.row .u8 af 5],[aSm,yI,yI,aSn,aSo,aSm],[⟨.exit 0,[(5,.rw 1)],[.var (.v aSn) af,.row .u8 af 5],[aSn,aSo,aSm]⟩],Zb (za yD) yD⟩
def hi6:HI:={ still:=[4,7,9],bM:=[5,10,16]}
theorem Zx4:ZuM.aT yb 92 0:=Zm hi6 [] [] trivial
def zb(F:Nat)(a0:aSl)(a1:aSl):yO (aSl):=
 (tL F a0 (a1.length:Int)).bind λa=>
 (Zb (za F) F (a1,(a1.length:Int),0,a0,a.1,a.2)).bind λb=>
 ab b.2.2
def Zxo:Fs yb:=⟨92,[.v aSn,.v aSm],[],[aSn,aSm],(zP aSm),λx=>zb yD x.1 x.2⟩
theorem ZEL:Zxo.Ok:=aF hi6 [(0,ZuM)] [ND] ⟨ZkS,ao⟩ ⟨Zx4,ao⟩
def Z2(F:Nat)(a0:aSl):yO (aSl):=
 if(bN 0 a0.length 1)=af then
  ab a0
 else
 ae
def Zh7:Fs yb:=⟨105,[.sl af .u8],[],[aSm],(zP aSm),λx=>Z2 yD x⟩
theorem Zg2:Zh7.Ok:=aF { own:=[5,7],still:=[2]} [] [] trivial
def Zbk(F:Nat):yO (aSl):=
 ab []
def Zh8:Fs yb:=⟨105,[.nil .u8],[],[],(zP aSm),λx=>Zbk yD⟩
theorem Zg3:Zh8.Ok:=aF { own:=[5,7],still:=[2]} [] [] trivial
def WJ:Fs yb:=⟨105,[.v aSm],[],[aSm],(zP aSm),λx=>Z2 yD x⟩
theorem QB:WJ.Ok:=ol (t:=.u8) (xs:=(zP aSm)) (MA:=λ(x:aSl)=>Z2 yD x) (MB:=λ_=>Zbk yD) Zg2 Zg3 rfl
def NE:ByteArray:=⟨#[115,101,97,108]⟩
def tM(F:Nat)(a0:aSl)(a1:aSl):yO (aSl):=
 (Ww F NE [a0,a1]).bind λa=>
 if(ah (8<=(a.take 8).length))=af then
  ab ((a.take 8).take 8)
 else
 ae
def NF:Fs yb:=⟨93,[.v aSn,.v aSm],[],[aSn,aSm],(zP aSH),λx=>tM yD x.1 x.2⟩
theorem Zxp:NF.Ok:=aF { still:=[8],cK:=[6,10]} [] [Vs] ⟨Vb,ao⟩
def zc(F:Nat)(s:(aSl×Int×Int×aSl×aSp×aSl×aSp×aSl)):yO ((aSl×Int×Int×aSl×aSp×aSl×aSp×aSl)⊕(aSl×aSp×aSl×aSp×aSl)):=
 if(ah (s.2.2.1 < s.2.1))=af then
  if(aS s.2.2.1 s.2.2.2.2.2.2.2.length)=af then
   (s.2.2.2.2.2.2.2[s.2.2.1.toNat]?).bind λa=>
   (idx s.1 s.2.2.1).bind λb=>
   if(aS s.2.2.1 s.2.2.2.2.2.2.2.length)=af then
    (s.2.2.2.2.2.2.2[s.2.2.1.toNat]?).bind λc=>
    let d:aSl:=s.2.2.2.2.2.2.2.set s.2.2.1.toNat (a^^^b)
    ab (.inl (s.1,s.2.1,wi (s.2.2.1+1),s.2.2.2.1,s.2.2.2.2.1,s.2.2.2.2.2.1,s.2.2.2.2.2.2.1,d))
   else
   ae
  else
  ae
 else
 ab (.inr (s.2.2.2.1,s.2.2.2.2.1,s.2.2.2.2.2.1,s.2.2.2.2.2.2.1,s.2.2.2.2.2.2.2))
abbrev tL1:yL Ty:=[aSm,yI,yI,aSn,aSo,aSm,aSo,aSm]
def Zov:Lp:=⟨[(1,.v aSm),(5,.rw 2),(12,.v yI),(13,.v yI)],[.var (.v aSn) af,.row .u8 af 5,.row .u8 af 5],tL1,[⟨.exit 0,[(5,.rw 2)],[.var (.v aSn) af,.row .u8 af 5,.row .u8 af 5],[aSn,aSo,aSm,aSo,aSm]⟩],Zb (zc yD) yD⟩
def hi7:HI:={ still:=[7,9],bM:=[4,5,10,16,27]}
theorem Ztp:Zov.aT yb 92 0:=Zm hi7 [] [] trivial
def ze(F:Nat)(a0:aSl)(a1:aSl):yO ((aSp×aSl)):=
 (tL F a0 (a1.length:Int)).bind λa=>
 (Zb (zc F) F (a1,(a1.length:Int),0,a0,[],[],a.1,a.2)).bind λb=>
 ab (b.2.2.2.1,b.2.2.2.2)
def Zp6:Fs yb:=⟨92,[.v aSn,.v aSm],[],[aSn,aSm],[⟨.ret,[(0,.rw 0)],[.row .u8 af 5],[aSo,aSm]⟩],λx=>ze yD x.1 x.2⟩
theorem Zx5:Zp6.Ok:=aF hi7 [(0,Zov)] [ND] ⟨ZkS,ao⟩ ⟨Ztp,ao⟩
def zf(F:Nat)(a0:aSl)(a1:aSl):yO (aSl):=
 if(ah ((a1.length:Int) > 65536))=af then
  ab []
 else
 (ze F a0 a1).bind λa=>
 (tM F a0 a.2).bind λb=>
 if(bN a.2.length b.length 1)=af then
  ab (a.2++b)
 else
 ae
def Zxq:Fs yb:=⟨36,[.v aSn,.v aSm],[],[aSn,aSm],(zP aSm),λx=>zf yD x.1 x.2⟩
def hi8:HI:={ own:=[5,12,16,18],still:=[4,10,11,13,14],cK:=[17]}
theorem ZEM:Zxq.Ok:=aF hi8 [] [Zp6,NF] ⟨Zx5,Zxp,ao⟩
def XR(F:Nat)(s:(aSM×Int×aSM×Int×Int)):yO ((aSM×Int×aSM×Int×Int)⊕(aSM×Int)):=
 if(ah (s.2.2.2.2 < s.2.2.2.1))=af then
  (idx s.2.2.1 s.2.2.2.2).bind λa=>
  if(ah ((wi (s.2.1+(a.length:Int))) < 0))=af then
   ae
  else
  ab (.inl (s.1,wi (s.2.1+(a.length:Int)),s.2.2.1,s.2.2.2.1,wi (s.2.2.2.2+1)))
 else
 ab (.inr (s.1,s.2.1))
def Zbl:Lp:=⟨[(0,.v aSL),(3,.v yI),(9,.v aSL),(10,.v yI),(11,.v yI)],[],[aSL,yI,aSL,yI,yI],[⟨.exit 0,[(0,.v aSL),(3,.v yI)],[],[aSL,yI]⟩],Zb (XR yD) yD⟩
def NG:HI:={ own:=[6,24,31,33],still:=[2,23]}
theorem Zgb:Zbl.aT yb 225 0:=Zm NG [] [] trivial
def Zc4:Fs yb:=⟨249,[.nil .u8,.v yI],[],[.int .i64],[⟨.ret,[(0,.own 0 .u8)],[.log .u8 5],[.sl .u8]⟩],om⟩
theorem Zlt:Zc4.Ok:=ZQD ZOp
def XS(F:Nat)(s:(aSM×Int×Int×aSl)):yO ((aSM×Int×Int×aSl)⊕aSl):=
 if(ah (s.2.2.1 < s.2.1))=af then
  (idx s.1 s.2.2.1).bind λa=>
  if(bN s.2.2.2.length a.length 1)=af then
   ab (.inl (s.1,s.2.1,wi (s.2.2.1+1),s.2.2.2++a))
  else
  ae
 else
 ab (.inr s.2.2.2)
def Zbm:Lp:=⟨[(6,.own 0 .u8),(25,.v aSL),(26,.v yI),(27,.v yI)],[.log .u8 5],[aSL,yI,yI,aSm],[⟨.exit 2,[(6,.own 0 .u8)],[.log .u8 5],[aSm]⟩],Zb (XS yD) yD⟩
theorem Zgc:Zbm.aT yb 225 1:=Zm NG [] [] trivial
def Xo(F:Nat)(a0:aSM):yO (aSl):=
 (Zb (XR F) F (a0,0,a0,(a0.length:Int),0)).bind λa=>
 (om a.2).bind λb=>
 (Zb (XS F) F (a.1,(a.1.length:Int),0,b)).bind λc=>
 ab c
def VK:Fs yb:=⟨225,[.v aSL],[],[aSL],(zP aSm),λx=>Xo yD x⟩
theorem Zbn:VK.Ok:=aF NG [(0,Zbl),(1,Zbm)] [Zc4] ⟨Zlt,ao⟩ ⟨Zgb,Zgc,ao⟩
def oz(F:Nat)(a0:aSl)(a1:aSl):yO (aSl):=
 (Xo F [a0,a1]).bind λa=>
 ab a
def zg:Fs yb:=⟨175,[.v aSm,.v aSm],[],[aSm,aSm],(zP aSm),λx=>oz yD x.1 x.2⟩
theorem NH:zg.Ok:=aF { still:=[4,7]} [] [VK] ⟨Zbn,ao⟩
def Qh(F:Nat)(a0:aSl)(a1:aSl):yO (aSl):=
 (oz F a0 a1).bind λa=>
 ab a
def NI(F:Nat):Fs yb:=⟨98,[.v aSm,.v aSn],[],[aSm,aSn],(zP aSm),λx=>Qh F x.1 x.2⟩
def zh:Fs yb:=NI yD
theorem zi:zh.Ok:=aF { still:=[4,5,6],cK:=[6]} [] [zg] ⟨NH,ao⟩
def zj(F:Nat)(s:(Int×aSl)):yO ((Int×aSl)⊕(Int×aSl)):=
 if(ah (s.1 >= 128))=af then
  if(bN s.2.length 1 1)=af then
   let a:aSl:=s.2++([w8 (wi ((Int.tmod s.1 128)+128))]:yL yB)
   ab (.inl (wi (Int.tdiv s.1 128),a))
  else
  ae
 else
 ab (.inr (s.1,s.2))
def Zxr:Lp:=⟨[(0,.v yI),(3,.own 0 .u8)],[.log .u8 5],[yI,aSm],[⟨.exit 0,[(0,.v yI),(3,.own 0 .u8)],[.log .u8 5],[yI,aSm]⟩],Zb (zj yD) yD⟩
def ZUm:HI:={ own:=[3,8,14,15,19],still:=[2]}
theorem ZAB:Zxr.aT yb 176 0:=Zm ZUm [] [] trivial
def tN(F:Nat)(a0:Int):yO (aSl):=
 (Zb (zj F) F (a0,[])).bind λa=>
 if(bN a.2.length 1 1)=af then
  ab (a.2++([w8 a.1]:yL yB))
 else
 ae
def NJ:Fs yb:=⟨176,[.v yI],[],[yI],(zP aSm),λx=>tN yD x⟩
theorem Zxs:NJ.Ok:=aF ZUm [(0,Zxr)] [] trivial ⟨ZAB,ao⟩
def Wx(F:Nat)(a0:aSl)(a1:Int):yO (aSl):=
 if(ah (a1 < 0))=af then
  (oz F a0 []).bind λa=>
  ab a
 else
 (tN F a1).bind λb=>
 (oz F a0 b).bind λc=>
 ab c
def NK(F:Nat):Fs yb:=⟨95,[.v aSm,.v yI],[],[aSm,yI],(zP aSm),λx=>Wx F x.1 x.2⟩
def mM:Fs yb:=NK yD
theorem QS:mM.Ok:=aF { still:=[4,7,9,10,11]} [] [zg,NJ] ⟨NH,Zxs,ao⟩
def Vg(F:Nat)(s:(aSA×Int×Int×aSl)):yO ((aSA×Int×Int×aSl)⊕aSl):=
 if(ah (s.2.2.1 < s.2.1))=af then
  (idx s.1 s.2.2.1).bind λa=>
  (Wx F s.2.2.2 a).bind λb=>
  ab (.inl (s.1,s.2.1,wi (s.2.2.1+1),b))
 else
 ab (.inr s.2.2.2)
def Zow:Lp:=⟨[(1,.am 0 []),(5,.v aSz),(6,.v yI),(7,.v yI)],[.var (.v aSm) af],[aSz,yI,yI,aSm],[⟨.exit 0,[],[.var (.v aSm) af],[aSm]⟩],Zb (Vg yD) yD⟩
theorem Ztr:Zow.aT yb 94 0:=Zm { still:=[11,12]} [] [mM] ⟨QS,ao⟩
def pV(F:Nat)(a0:aSA)(s0:aSl):yO (aSl):=
 (Zb (Vg F) F (a0,(a0.length:Int),0,s0)).bind λa=>
 ab a
def NL:Fs yb:=⟨94,[.v aSz,.am 0 []],[.var (.v aSm) af],[aSz,aSm],[⟨.ret,[(0,.bi [])],[.var (.v aSm) af],[aSm]⟩],λx=>pV yD x.1 x.2⟩
theorem Zox:NL.Ok:=aF { still:=[11,12]} [(0,Zow)] [] trivial ⟨Ztr,ao⟩
def zk(F:Nat)(s:(aSl×yU×Int×aSl)):yO ((aSl×yU×Int×aSl)⊕(aSl×aSl)):=
 if(ah (s.2.2.1 < 8))=af then
  if(ah (0<=wi (56 - (wi (8*s.2.2.1)))))=af then
   let a:yU:=ZJ s.2.1 (min (wi (56 - (wi (8*s.2.2.1)))).toNat 64)
   if(aS s.2.2.1 8)=af then
    (s.2.2.2[s.2.2.1.toNat]?).bind λb=>
    let c:aSl:=s.2.2.2.set s.2.2.1.toNat (w8 (a.toNat:Int))
    ab (.inl (s.1,s.2.1,wi (s.2.2.1+1),c))
   else
   ae
  else
  ae
 else
 ab (.inr (s.1,s.2.2.2))
def Zp8:Lp:=⟨[(0,.v aSm),(1,.v .u64),(5,.am 0 []),(7,.v yI)],[.var (.v aSH) af],[aSm,.u64,yI,aSH],[⟨.exit 0,[(0,.v aSm),(5,.am 0 [])],[.var (.v aSH) af],[aSm,aSH]⟩],Zb (zk yD) yD⟩
theorem ZuN:Zp8.aT yb 97 0:=Zm { still:=[4,19,20],cK:=[20]} [] [] trivial
def pW(F:Nat)(a0:aSl)(a1:yU):yO (aSl):=
 (Zb (zk F) F (a0,a1,0,[0,0,0,0,0,0,0,0])).bind λa=>
 (oz F a.1 a.2).bind λb=>
 ab b
def zl:Fs yb:=⟨97,[.v aSm,.v .u64],[],[aSm,.u64],(zP aSm),λx=>pW yD x.1 x.2⟩
theorem NM:zl.Ok:=aF { still:=[4,19,20],cK:=[20]} [(0,Zp8)] [zg] ⟨NH,ao⟩ ⟨ZuN,ao⟩
def Vh(F:Nat)(s:(aSy×Int×Int×aSl)):yO ((aSy×Int×Int×aSl)⊕aSl):=
 if(ah (s.2.2.1 < s.2.1))=af then
  (idx s.1 s.2.2.1).bind λa=>
  (pW F s.2.2.2 a).bind λb=>
  ab (.inl (s.1,s.2.1,wi (s.2.2.1+1),b))
 else
 ab (.inr s.2.2.2)
def Zoy:Lp:=⟨[(1,.am 0 []),(5,.v aSt),(6,.v yI),(7,.v yI)],[.var (.v aSm) af],[aSt,yI,yI,aSm],[⟨.exit 0,[],[.var (.v aSm) af],[aSm]⟩],Zb (Vh yD) yD⟩
theorem Zts:Zoy.aT yb 96 0:=Zm { still:=[11,12]} [] [zl] ⟨NM,ao⟩
def tO(F:Nat)(a0:aSy)(s0:aSl):yO (aSl):=
 (Zb (Vh F) F (a0,(a0.length:Int),0,s0)).bind λa=>
 ab a
def NN:Fs yb:=⟨96,[.v aSt,.am 0 []],[.var (.v aSm) af],[aSt,aSm],[⟨.ret,[(0,.bi [])],[.var (.v aSm) af],[aSm]⟩],λx=>tO yD x.1 x.2⟩
theorem Zoz:NN.Ok:=aF { still:=[11,12]} [(0,Zoy)] [] trivial ⟨Zts,ao⟩
def Vu(F:Nat)(s:((yL aN)×Int×aj×aSl)):yO (((yL aN)×Int×aj×aSl)⊕(aj×aSl)):=
 if(ah (s.2.1 < 2))=af then
  (idx s.1 s.2.1).bind λa=>
  (tO F [a.1,a.2.1,a.2.2.1,a.2.2.2.1,a.2.2.2.2] s.2.2.2).bind λb=>
  if(aS s.2.1 2)=af then
   (s.2.2.1.1.2.2.2.1[s.2.1.toNat]?).bind λc=>
   (pV F [c.1,c.2.1,c.2.2.1,c.2.2.2.1,c.2.2.2.2.1,c.2.2.2.2.2] b).bind λd=>
   ab (.inl (s.1,wi (s.2.1+1),s.2.2.1,d))
  else
  ae
 else
 ab (.inr (s.2.2.1,s.2.2.2))
def Zsq:Lp:=⟨[(1,.am 0 []),(3,.am 1 []),(4,.fn 94 [.am 1 []]),(5,.fn 96 [.am 1 []]),(41,.v (.arr 2 VX)),(42,.v yI)],[.var (.v Zc) af,.var (.v aSm) af],[(.arr 2 VX),yI,Zc,aSm],[⟨.exit 0,[(1,.am 0 []),(3,.am 1 []),(5,.fn 96 [.am 1 []])],[.var (.v Zc) af,.var (.v aSm) af],[Zc,aSm]⟩],Zb (Vu yD) yD⟩
def ZUn:HI:={ still:=[2,18,20,24,37,57,77,96,98,101]}
theorem Zwf:Zsq.aT yb 37 0:=Zm ZUn [] [NN,NL] ⟨Zoz,Zox,ao⟩
def zm(F:Nat)(a0:aj):yO (aSl):=
 (pV F [a0.2.2.1,a0.2.2.2.1,a0.2.2.2.2] []).bind λa=>
 (Qh F a a0.1.1.1).bind λb=>
 (pV F [a0.1.1.2,a0.1.2.1,a0.1.2.2.2.2] b).bind λc=>
 (Zb (Vu F) F (a0.1.2.2.1,0,a0,c)).bind λd=>
 (tO F [d.1.2.1.1,d.1.2.1.2.1,d.1.2.1.2.2.1,d.1.2.1.2.2.2.1,d.1.2.1.2.2.2.2.1] d.2).bind λe=>
 (Qh F e d.1.2.1.2.2.2.2.2).bind λf=>
 ab f
def ZuO:Fs yb:=⟨37,[.v Zc],[],[Zc],(zP aSm),λx=>zm yD x⟩
theorem ZBU:ZuO.Ok:=aF ZUn [(0,Zsq)] [NL,zh,NN] ⟨Zox,zi,Zoz,ao⟩ ⟨Zwf,ao⟩
def zn(F:Nat)(a0:aSl)(a1:aj):yO ((aSl×Int)):=
 (XW F a1).bind λa=>
 if(!a)=af then
  ab ([],1)
 else
 (zm F a1).bind λb=>
 (zf F a0 b).bind λc=>
 ab (c,0)
def NO(F:Nat):Fs yb:=⟨8,[.v aSn,.v Zc],[],[aSn,Zc],[⟨.ret,[(0,.bi [.v aSm,.v yI])],[],[aSm,yI]⟩],λx=>zn F x.1 x.2⟩
def Zsr:Fs yb:=NO yD
theorem Zp9:Zsr.Ok:=aF { still:=[4,5,6,9,10,11]} [] [QA,ZuO,Zxq] ⟨tE,ZBU,ZEM,ao⟩
def zo(F:Nat)(a0:aSl)(a1:aSl):yO ((aSl×Bool)):=
 if(ah ((wi ((a1.length:Int) - 8)) < 0))=af then
  ab ([],ag)
 else
 if(ah ((wi ((a1.length:Int) - 8)) > 65536))=af then
  ab ([],ag)
 else
 if(Q0 a1.length ae (ab (wi ((a1.length:Int) - 8))))=af then
  (tM F a0 (a1.take ((wi ((a1.length:Int) - 8)).toNat))).bind λa=>
  if(Q0 a1.length (ab (wi ((a1.length:Int) - 8))) ae)=af then
   if(ah (8<=(a1.drop ((wi ((a1.length:Int) - 8)).toNat)).length))=af then
    let b:Bool:= !(ah (a=(a1.drop ((wi ((a1.length:Int) - 8)).toNat)).take 8))
    if b=af then
     ab ([],ag)
    else
    if(Q0 a1.length ae (ab (wi ((a1.length:Int) - 8))))=af then
     (zb F a0 (a1.take ((wi ((a1.length:Int) - 8)).toNat))).bind λc=>
     ab (c,af)
    else
    ae
   else
   ae
  else
  ae
 else
 ae
def Zxt:Fs yb:=⟨40,[.v aSn,.v aSm],[],[aSn,aSm],[⟨.ret,[(0,.bi [.v aSm,.v .bool])],[],[aSm,.bool]⟩],λx=>zo yD x.1 x.2⟩
theorem ZEN:Zxt.Ok:=aF { still:=[4,5,17,20,29,32]} [] [NF,Zxo] ⟨Zxp,ZEL,ao⟩
abbrev Ze:Ty:=(.st [aSm,.bool])
abbrev ai:Type:=(aSl×Bool)
abbrev ai.b(x:ai):aSl:=x.1
abbrev ai.no(x:ai):Bool:=x.2
def zp(F:Nat)(a0:aSl):yO (ai):=
 (Z2 F a0).bind λa=>
 ab (a,ag)
def Zxu:Fs yb:=⟨41,[.v aSm],[],[aSm],[⟨.ret,[(0,.am 0 [])],[.var (.v Ze) af],[Ze]⟩],λx=>zp yD x⟩
theorem ZEO:Zxu.Ok:=aF { still:=[2,3]} [] [WJ] ⟨QB,ao⟩
def Wy(F:Nat)(s0:Int)(s2:ai):yO ((Bool×Int×ai)):=
 if(ah (s0 >= (s2.1.length:Int)))=af then
  ab (af,s0,s2)
 else
 if(ah (s0 > 8))=af then
  ab (af,s0,s2)
 else
 if(ah (s0 > 0))=af then
  (idx s2.1 s0).bind λa=>
  ab (a==0,s0,s2)
 else
 ab (ag,s0,s2)
def Zhh:Fs yb:=⟨106,[.am 0 [],.am 1 []],[.var (.v yI) af,.var (.am 2 []) af,.var (.v Ze) af],[yI,Ze],[⟨.ret,[(0,.v .bool)],[.var (.v yI) af,.var (.am 2 []) af,.var (.v Ze) af],[.bool,yI,Ze]⟩],λx=>Wy yD x.1 x.2⟩
theorem Zqa:Zhh.Ok:=aF { still:=[2]} [] [] trivial
def V0(F:Nat)(s0:ai):yO (ai):=
 ab ([],af)
def NP:Fs yb:=⟨107,[.am 0 []],[.var (.v Ze) af],[Ze],[⟨.ret,[(0,.bi [])],[.var (.v Ze) af],[Ze]⟩],λx=>V0 yD x⟩
theorem Zhi:NP.Ok:=aF {} [] [] trivial
def W0(F:Nat)(s:(Int×ai×Int)):yO ((Int×ai×Int)⊕((Int×ai×Int)⊕(Int×ai×Int))):=
 (Wy F s.2.2 s.2.1).bind λa=>
 if a.1=af then
  (V0 F a.2.2).bind λb=>
  ab (.inr (.inl (0,b,a.2.1)))
 else
 (idx a.2.2.1 a.2.1).bind λc=>
 if(ah (0<=wi (7*a.2.1)))=af then
  let d:Int:=wi (((c % 128).toNat:Int)*2 ^ (min (wi (7*a.2.1)).toNat 64))
  if(ah (c < 128))=af then
   ab (.inr (.inr (bits .or .i64 s.1 d,a.2.2,wi (a.2.1+1))))
  else
  ab (.inl (bits .or .i64 s.1 d,a.2.2,wi (a.2.1+1)))
 else
 ae
abbrev qW:List bf:=[.var (.v Ze) af,.var (.am 0 []) af,.var (.v yI) af]
def Zjd:Lp:=⟨[(1,.am 1 []),(3,.v yI),(4,.am 2 []),(5,.fn 106 [.am 2 [],.am 1 []])],qW,[yI,Ze,yI],[⟨.ret,[(2,.v yI)],qW,[yI,Ze,yI]⟩,⟨.exit 0,[(1,.am 1 []),(3,.v yI),(4,.am 2 [])],qW,[yI,Ze,yI]⟩],Zb (W0 yD) yD⟩
theorem Zo2:Zjd.aT yb 42 0:=Zm { still:=[2,10]} [] [Zhh,NP] ⟨Zqa,Zhi,ao⟩
def ZN(F:Nat)(s0:ai):yO ((Int×ai)):=
 (Zb (W0 F) F (0,s0,0)).bind λa=>
 match a with
 |.inl b=>
  ab (b.1,b.2.1)
 |.inr c=>
  if(Q0 c.2.1.1.length (ab c.2.2) ae)=af then
   ab (c.1,(c.2.1.1.drop c.2.2.toNat,c.2.1.2))
  else
  ae
def NQ:Fs yb:=⟨42,[.am 0 []],[.var (.v Ze) af],[Ze],[⟨.ret,[(0,.v yI)],[.var (.v Ze) af],[yI,Ze]⟩],λx=>ZN yD x⟩
theorem Zje:NQ.Ok:=aF { still:=[2,10]} [(0,Zjd)] [] trivial ⟨Zo2,ao⟩
def V1(F:Nat)(a1:Int)(s0:ai):yO ((aSl×ai)):=
 if s0.2=af then
  (V0 F s0).bind λa=>
  ab ([],a)
 else
 if(ah (a1 > (s0.1.length:Int)))=af then
  (V0 F s0).bind λb=>
  ab ([],b)
 else
 if(Q0 s0.1.length ae (ab a1))=af then
  (Z2 F (s0.1.take a1.toNat)).bind λc=>
  if(Q0 s0.1.length (ab a1) ae)=af then
   ab (c,(s0.1.drop a1.toNat,s0.2))
  else
  ae
 else
 ae
def NR:Fs yb:=⟨108,[.am 0 [],.v yI],[.var (.v Ze) af],[yI,Ze],[⟨.ret,[(0,.v aSm)],[.var (.v Ze) af],[aSm,Ze]⟩],λx=>V1 yD x.1 x.2⟩
theorem Zhj:NR.Ok:=aF { still:=[4,19,26]} [] [NP,WJ] ⟨Zhi,QB,ao⟩
def WN(F:Nat)(s0:ai):yO ((aSl×ai)):=
 (V1 F 32 s0).bind λa=>
 if(ah (a.1.length<=32)&&ah (0+32<=32))=af then
  let b:aSl:=ct.take 0++(a.1++ct.drop (0+a.1.length))
  ab (b,a.2)
 else
 ae
def Zjf:Fs yb:=⟨44,[.am 0 []],[.var (.v Ze) af],[Ze],[⟨.ret,[(0,.v aSn)],[.var (.v Ze) af],[aSn,Ze]⟩],λx=>WN yD x⟩
theorem ZrN:Zjf.Ok:=aF { still:=[5]} [] [NR] ⟨Zhj,ao⟩
def Qm(F:Nat)(s:(yU×aSl×Int×Int×ai)):yO ((yU×aSl×Int×Int×ai)⊕(yU×ai)):=
 if(ah (s.2.2.2.1 < s.2.2.1))=af then
  (idx s.2.1 s.2.2.2.1).bind λa=>
  ab (.inl ((QP s.1 8)|||(yv a.toNat),s.2.1,s.2.2.1,wi (s.2.2.2.1+1),s.2.2.2.2))
 else
 ab (.inr (s.1,s.2.2.2.2))
def Zjg:Lp:=⟨[(3,.v .u64),(7,.v aSm),(8,.v yI),(9,.v yI)],[.var (.v Ze) af],[.u64,aSm,yI,yI,Ze],[⟨.exit 0,[(3,.v .u64)],[.var (.v Ze) af],[.u64,Ze]⟩],Zb (Qm yD) yD⟩
theorem Zo3:Zjg.aT yb 43 0:=Zm { still:=[2,6]} [] [] trivial
def ZW(F:Nat)(s0:ai):yO ((yU×ai)):=
 (V1 F 8 s0).bind λa=>
 (Zb (Qm F) F (0,a.1,(a.1.length:Int),0,a.2)).bind λb=>
 ab (b.1,b.2)
def NS:Fs yb:=⟨43,[.am 0 []],[.var (.v Ze) af],[Ze],[⟨.ret,[(0,.v .u64)],[.var (.v Ze) af],[.u64,Ze]⟩],λx=>ZW yD x⟩
theorem Zjh:NS.Ok:=aF { still:=[2,6]} [(0,Zjg)] [NR] ⟨Zhj,ao⟩ ⟨Zo3,ao⟩
def VP(F:Nat):(Bool×Int×aSl×aj×ai×aj)->yO ((Bool×Int×aSl×aj×ai×aj)⊕(Bool×aSl×aj×ai×aj))
 |(d,a,e,f,b,c)=>
 if(ah (a < 2))=af then
  (ZW F b).bind λg=>
  (ZW F g.2).bind λh=>
  (ZW F h.2).bind λi=>
  (ZW F i.2).bind λj=>
  (ZW F j.2).bind λk=>
  if(aS a 2)=af then
   (c.1.2.2.1[a.toNat]?).bind λl=>
   (ZN F k.2).bind λm=>
   (ZN F m.2).bind λn=>
   (ZN F n.2).bind λo=>
   (ZN F o.2).bind λp=>
   (ZN F p.2).bind λq=>
   (ZN F q.2).bind λr=>
   if(aS a 2)=af then
    (c.1.2.2.2.1[a.toNat]?).bind λs=>
    ab (.inl (d,wi (a+1),e,f,r.2,((c.1.1,c.1.2.1,c.1.2.2.1.set a.toNat (g.1,h.1,i.1,j.1,k.1),c.1.2.2.2.1.set a.toNat (m.1,n.1,o.1,p.1,q.1,r.1),c.1.2.2.2.2),c.2.1,c.2.2.1,c.2.2.2.1,c.2.2.2.2)))
   else
   ae
  else
  ae
 else
 ab (.inr (d,e,f,b,c))
abbrev zR:List bf:=[.var (.v aSn) af,.var (.v Zc) af,.var (.v Ze) af,.var (.v Zc) af]
def Zqb:Lp:=⟨[(4,.am 1 []),(7,.v .bool),(8,.am 2 []),(9,.fn 4294967338 [.am 2 []]),(10,.fn 4294967339 [.am 2 []]),(11,.am 3 []),(50,.v yI)],zR,[.bool,yI,aSn,Zc,Ze,Zc],[⟨.exit 0,[(4,.am 1 []),(7,.v .bool),(8,.am 2 []),(10,.fn 4294967339 [.am 2 []]),(11,.am 3 [])],zR,[.bool,aSn,Zc,Ze,Zc]⟩],Zb (VP yD) yD⟩
def ZUo:HI:={ still:=[5,14,15,19,32,96,103,108,113]}
theorem ZuP:Zqb.aT yb 10 0:=Zm ZUo [] [NS,NQ] ⟨Zjh,Zje,ao⟩
def NT(F:Nat)(s0:ai):yO ((Bool×ai)):=
 ab (!s0.2,s0)
def Zms:Fs yb:=⟨45,[.am 0 []],[.var (.v Ze) af],[Ze],[⟨.ret,[(0,.v .bool)],[.var (.v Ze) af],[.bool,Ze]⟩],λx=>NT yD x⟩
theorem ZuQ:Zms.Ok:=aF { still:=[2]} [] [] trivial
def NU(F:Nat)(s0:ai):yO ((Int×ai)):=
 ab ((s0.1.length:Int),s0)
def Zji:Fs yb:=⟨46,[.am 0 []],[.var (.v Ze) af],[Ze],[⟨.ret,[(0,.v yI)],[.var (.v Ze) af],[yI,Ze]⟩],λx=>NU yD x⟩
theorem ZrO:Zji.Ok:=aF { still:=[2]} [] [] trivial
def zq(F:Nat)(a0:aSl)(a1:aSl):yO ((aj×Bool)):=
 (zo F a0 a1).bind λd=>
 (zp F d.1).bind λe=>
 (ZN F e).bind λf=>
 (ZN F f.2).bind λg=>
 (ZN F g.2).bind λh=>
 (WN F h.2).bind λi=>
 (ZN F i.2).bind λj=>
 (ZN F j.2).bind λk=>
 (ZN F k.2).bind λl=>
 (Zb (VP F) F (d.2,0,a0,(((ct,0),0,[(0,0,0,0,0),(0,0,0,0,0)],[(0,0,0,0,0,0),(0,0,0,0,0,0)],0),(0,0,0,0,0,ct),0,0,0),l.2,(((i.1,j.1),k.1,[(0,0,0,0,0),(0,0,0,0,0)],[(0,0,0,0,0,0),(0,0,0,0,0,0)],l.1),(0,0,0,0,0,ct),f.1,g.1,h.1))).bind λ(b,_,_,a,c)=>
 (ZW F a).bind λm=>
 (ZW F m.2).bind λn=>
 (ZW F n.2).bind λo=>
 (ZW F o.2).bind λp=>
 (ZW F p.2).bind λq=>
 (WN F q.2).bind λr=>
 if(!b)=af then
  ab ((((ct,0),0,[(0,0,0,0,0),(0,0,0,0,0)],[(0,0,0,0,0,0),(0,0,0,0,0,0)],0),(0,0,0,0,0,ct),0,0,0),ag)
 else
 (NT F r.2).bind λs=>
 if(!s.1)=af then
  ab ((((ct,0),0,[(0,0,0,0,0),(0,0,0,0,0)],[(0,0,0,0,0,0),(0,0,0,0,0,0)],0),(0,0,0,0,0,ct),0,0,0),ag)
 else
 (NU F s.2).bind λt=>
 if(ah (t.1 > 0))=af then
  ab ((((ct,0),0,[(0,0,0,0,0),(0,0,0,0,0)],[(0,0,0,0,0,0),(0,0,0,0,0,0)],0),(0,0,0,0,0,ct),0,0,0),ag)
 else
 (XW F (c.1,(m.1,n.1,o.1,p.1,q.1,r.1),c.2.2.1,c.2.2.2.1,c.2.2.2.2)).bind λu=>
 if(!u)=af then
  ab ((((ct,0),0,[(0,0,0,0,0),(0,0,0,0,0)],[(0,0,0,0,0,0),(0,0,0,0,0,0)],0),(0,0,0,0,0,ct),0,0,0),ag)
 else
 ab ((c.1,(m.1,n.1,o.1,p.1,q.1,r.1),c.2.2.1,c.2.2.2.1,c.2.2.2.2),af)
def NV(F:Nat):Fs yb:=⟨10,[.v aSn,.v aSm],[],[aSn,aSm],[⟨.ret,[(0,.bi [.v Zc,.v .bool])],[],[Zc,.bool]⟩],λx=>zq F x.1 x.2⟩
def Zss:Fs yb:=NV yD
theorem Zqc:Zss.Ok:=aF ZUo [(0,Zqb)] [Zxt,Zxu,NQ,Zjf,NS,Zms,Zji,QA] ⟨ZEN,ZEO,Zje,ZrN,Zjh,ZuQ,ZrO,tE,ao⟩ ⟨ZuP,ao⟩
def tP(F:Nat)(a0:yU):yO (Bool):=
 (VW F a0).bind λa=>
 if a=af then
  ab (a0 !=0)
 else
 ab ag
def ZAC:Fs yb:=⟨111,[.v .u64],[],[.u64],(zP .bool),λx=>tP yD x⟩
theorem ZG3:ZAC.Ok:=aF { still:=[2,3]} [] [tw] ⟨xt,ao⟩
def zr(F:Nat)(s:(yU×aSy×Int×Int)):yO ((yU×aSy×Int×Int)⊕yU):=
 if(ah (s.2.2.2 < s.2.2.1))=af then
  (idx s.2.1 s.2.2.2).bind λa=>
  (pS F a).bind λb=>
  (YC F s.1 b).bind λc=>
  ab (.inl (c,s.2.1,s.2.2.1,wi (s.2.2.2+1)))
 else
 ab (.inr s.1)
def ZuR:Lp:=⟨[(3,.v .u64),(6,.v aSt),(7,.v yI),(8,.v yI)],[],[.u64,aSt,yI,yI],[⟨.exit 0,[(3,.v .u64)],[],[.u64]⟩],Zb (zr yD) yD⟩
theorem Zx6:ZuR.aT yb 221 0:=Zm { still:=[2,12,13,14]} [] [xG,LH] ⟨MC,ZpT,ao⟩
def tQ(F:Nat)(a0:aSy):yO (yU):=
 (Zb (zr F) F (1,a0,(a0.length:Int),0)).bind λa=>
 ab a
def NW:Fs yb:=⟨221,[.v aSt],[],[aSt],(zP .u64),λx=>tQ yD x⟩
theorem ZuS:NW.Ok:=aF { still:=[2,12,13,14]} [(0,ZuR)] [] trivial ⟨Zx6,ao⟩
def pX(F:Nat)(a0:yU)(a1:yU):yO (yU):=
 (tQ F [a0,a1]).bind λa=>
 ab a
def zu:Fs yb:=⟨181,[.v .u64,.v .u64],[],[.u64,.u64],(zP .u64),λx=>pX yD x.1 x.2⟩
theorem NX:zu.Ok:=aF { still:=[4,7]} [] [NW] ⟨ZuS,ao⟩
def oA(F:Nat)(a0:yU):yO (yU):=
 ab (a0 % 2305843009213688669)
def NY:Fs yb:=⟨230,[.v .u64],[],[.u64],(zP .u64),λx=>oA yD x⟩
theorem Zxv:NY.Ok:=aF { still:=[2]} [] [] trivial
def NZ(F:Nat)(a0:yU)(a1:yU):yO (yU):=
 ab ((a0+a1) % 2305843009213688669)
def Zmu:Fs yb:=⟨231,[.v .u64,.v .u64],[],[.u64,.u64],(zP .u64),λx=>NZ yD x.1 x.2⟩
theorem ZuT:Zmu.Ok:=aF { still:=[4]} [] [] trivial
def zw(F:Nat)(a0:yU)(a1:yU):yO (yU):=
 (oA F a0).bind λa=>
 (oA F a1).bind λb=>
 (NZ F a b).bind λc=>
 ab c
def Zxw:Fs yb:=⟨182,[.v .u64,.v .u64],[],[.u64,.u64],(zP .u64),λx=>zw yD x.1 x.2⟩
theorem ZEP:Zxw.Ok:=aF { still:=[4,5,6,7,8]} [] [NY,Zmu] ⟨Zxv,ZuT,ao⟩
def OA(F:Nat)(a0:yU)(a1:yU):yO (yU):=
 (tC F a0 a1).bind λa=>
 (Va F a.1 a.2 2305843009213688669).bind λb=>
 ab b
def ZkW:Fs yb:=⟨232,[.v .u64,.v .u64],[],[.u64,.u64],(zP .u64),λx=>OA yD x.1 x.2⟩
theorem Ztu:ZkW.Ok:=aF { still:=[4,8,9,13,14]} [] [LG,xy] ⟨Zsl,LD,ao⟩
def zx(F:Nat)(a0:yU)(a1:yU):yO (yU):=
 (oA F a0).bind λa=>
 (oA F a1).bind λb=>
 (OA F a b).bind λc=>
 ab c
def Zxx:Fs yb:=⟨183,[.v .u64,.v .u64],[],[.u64,.u64],(zP .u64),λx=>zx yD x.1 x.2⟩
theorem ZEQ:Zxx.Ok:=aF { still:=[4,5,6,7,8]} [] [NY,ZkW] ⟨Zxv,Ztu,ao⟩
def XY(F:Nat)(s:(yU×aSl×Int×aSl)):yO ((yU×aSl×Int×aSl)⊕(yU×aSl)):=
 if(ah (s.2.2.1 < 32))=af then
  (idx s.2.1 s.2.2.1).bind λa=>
  (Va F (ZJ s.1 56) ((QP s.1 8)|||(yv a.toNat)) 2305843009213688668).bind λb=>
  ab (.inl (b,s.2.1,wi (s.2.2.1+1),s.2.2.2))
 else
 ab (.inr (s.1,s.2.2.2))
def Zst:Lp:=⟨[(3,.v .u64),(6,.v aSn),(7,.v yI)],[.var (.v aSn) af],[.u64,aSn,yI,aSn],[⟨.exit 0,[(3,.v .u64)],[.var (.v aSn) af],[.u64,aSn]⟩],Zb (XY yD) yD⟩
theorem Zwg:Zst.aT yb 113 0:=Zm { still:=[2,11,16]} [] [xy] ⟨LD,ao⟩
def Vc(F:Nat)(a0:aSl):yO (yU):=
 (Zb (XY F) F (0,a0,0,a0)).bind λa=>
 ab (a.1+1)
def pY:Fs yb:=⟨113,[.v aSn],[],[aSn],(zP .u64),λx=>Vc yD x⟩
theorem tR:pY.Ok:=aF { still:=[2,11,16]} [(0,Zst)] [] trivial ⟨Zwg,ao⟩
def XZ(F:Nat)(s:(yU×Int×Int×aSl)):yO ((yU×Int×Int×aSl)⊕aSl):=
 if(ah (s.2.2.1 < s.2.1))=af then
  if(ah (0<=wi (56 - (wi (8*s.2.2.1)))))=af then
   let a:yU:=ZJ s.1 (min (wi (56 - (wi (8*s.2.2.1)))).toNat 64)
   if(aS s.2.2.1 8)=af then
    (s.2.2.2[(0+s.2.2.1.toNat)]?).bind λb=>
    let c:aSl:=s.2.2.2.set (0+s.2.2.1.toNat) (w8 (a.toNat:Int))
    ab (.inl (s.1,s.2.1,wi (s.2.2.1+1),c))
   else
   ae
  else
  ae
 else
 ab (.inr s.2.2.2)
def Zsu:Lp:=⟨[(0,.v .u64),(3,.view 0 [] 1 0 8),(7,.v yI),(8,.v yI)],[.var (.v aSH) af],[.u64,yI,yI,aSH],[⟨.exit 0,[(3,.view 0 [] 1 0 8)],[.var (.v aSH) af],[aSH]⟩],Zb (XZ yD) yD⟩
theorem Zwh:Zsu.aT yb 115 0:=Zm { still:=[2]} [] [] trivial
def QT(F:Nat)(a0:yU):yO (aSl):=
 (Zb (XZ F) F (a0,8,0,[0,0,0,0,0,0,0,0])).bind λa=>
 ab ((a.drop 0).take 8)
def OB:Fs yb:=⟨115,[.v .u64],[],[.u64],(zP aSm),λx=>QT yD x⟩
theorem Zsv:OB.Ok:=aF { still:=[2]} [(0,Zsu)] [] trivial ⟨Zwh,ao⟩
def zy:ByteArray:=⟨#[115,105,103]⟩
def WU(F:Nat)(a0:yU)(a1:yU)(a2:aSl):yO (yU):=
 (QT F a0).bind λa=>
 (QT F a1).bind λb=>
 (Ww F zy [a,b,a2]).bind λc=>
 (Vc F c).bind λd=>
 ab d
def OC:Fs yb:=⟨184,[.v .u64,.v .u64,.v aSn],[],[.u64,.u64,aSn],(zP .u64),λx=>WU yD x.1 x.2.1 x.2.2⟩
def ZUp:HI:={ still:=[6,7,9,12,13],cK:=[11]}
theorem ZkX:OC.Ok:=aF ZUp [] [OB,Vs,pY] ⟨Zsv,Vb,tR,ao⟩
abbrev WV:Ty:=(.st [.u64,.u64])
abbrev dQ:Type:=(yU×yU)
def zz(F:Nat)(a0:yU)(a1:yU)(a2:aSl)(a3:yU):yO (dQ):=
 (Xb F a1).bind λa=>
 (pX F a a3).bind λb=>
 (Xb F a0).bind λc=>
 (WU F b c a2).bind λd=>
 (zx F d a0).bind λe=>
 (zw F a1 e).bind λf=>
 ab (b,f)
def Zsw:Fs yb:=⟨112,[.v .u64,.v .u64,.v aSn,.v .u64],[],[.u64,.u64,aSn,.u64],(zP WV),λx=>zz yD x.1 x.2.1 x.2.2.1 x.2.2.2⟩
def ZU6:HI:={ still:=[9,10,11,14,16,17,18,19,20,21,22]}
theorem ZAD:Zsw.Ok:=aF ZU6 [] [Q3,zu,OC,Zxx,Zxw] ⟨Qg,NX,ZkX,ZEQ,ZEP,ao⟩
def zA:ByteArray:=⟨#[110,111,110,99,101]⟩
def Q7(F:Nat)(a0:yU)(a1:aSl):yO (dQ):=
 (tP F a0).bind λa=>
 if(!a)=af then
  ab (0,0)
 else
 (QT F a0).bind λb=>
 (Ww F zA [b,a1]).bind λc=>
 (Vc F c).bind λd=>
 (zz F a0 d a1 1).bind λe=>
 ab e
def OD(F:Nat):Fs yb:=⟨52,[.v .u64,.v aSn],[],[.u64,aSn],(zP WV),λx=>Q7 F x.1 x.2⟩
def zC:Fs yb:=OD yD
def ZU7:HI:={ still:=[5,9,10,13,14,15,16],cK:=[12]}
theorem zL:zC.Ok:=aF ZU7 [] [ZAC,OB,Vs,pY,Zsw] ⟨ZG3,Zsv,Vb,tR,ZAD,ao⟩
def OE:ByteArray:=⟨#[97,115,107]⟩
def zX(F:Nat)(a0:Chan)(a1:Int):yO (aSl):=
 (Qh F [] a0.1.1).bind λa=>
 (Wx F a a0.1.2).bind λb=>
 (Wx F b a1).bind λc=>
 (Ww F OE [c]).bind λd=>
 ab d
def OF(F:Nat):Fs yb:=⟨53,[.v Z0,.v yI],[],[Z0,yI],(zP aSn),λx=>zX F x.1 x.2⟩
def Zmv:Fs yb:=OF yD
theorem ZkZ:Zmv.Ok:=aF { still:=[7,8,11,12,13,15]} [] [zh,mM,Vs] ⟨zi,QS,Vb,ao⟩
abbrev QC:Ty:=(.st [yI,yI,yI,.u64,yI])
abbrev Cond:Type:=(Int×Int×Int×yU×Int)
abbrev _root_.aSK:Go.Ev.Ty:=.sl WV
abbrev Ya:Ty:=(.st [yI,aSK,.u64])
abbrev XT:Type:=(Int×(yL dQ)×yU)
abbrev bj:Ty:=(.st [Zh,Ya])
abbrev In:Type:=(al×XT)
abbrev Zg:Ty:=(.st [aSt,yI,yI,.u64])
abbrev Zq:Type:=(aSy×Int×Int×yU)
abbrev _root_.aSw:Go.Ev.Ty:=.sl Zg
abbrev Zk:Ty:=(.st [aSw])
abbrev _root_.aSx:=yL Zq
abbrev ZG:Type:=aSx
abbrev Zw:Ty:=(.st [yI,Zk])
abbrev Out:Type:=(Int×ZG)
abbrev _root_.aSq:Go.Ev.Ty:=.sl Zw
abbrev _root_.aSs:Go.Ev.Ty:=.sl bj
abbrev ax:Ty:=(.st [aSs,aSq,yI])
abbrev _root_.aSu:=yL In
abbrev _root_.aSv:=yL Out
abbrev Tx:Type:=(aSu×aSv×Int)
abbrev iW:Ty:=(.st [yI,yI,yI,QC,.u64,aSm,yI,WV,aSn,.u64,ax,VX,ib,aSm])
abbrev fJ:Type:=(Int×Int×Int×Cond×yU×aSl×Int×dQ×aSl×yU×Tx×aN×aX×aSl)
abbrev fJ.Cond(x:fJ):Cond:=x.2.2.2.1
abbrev fJ.aN(x:fJ):aN:=x.2.2.2.2.2.2.2.2.2.2.2.1
abbrev fJ.aX(x:fJ):aX:=x.2.2.2.2.2.2.2.2.2.2.2.2.1
def AA(F:Nat)(a0:aj):yO (fJ):=
 (XW F a0).bind λa=>
 if(!a)=af then
  ab (0,0,0,(0,0,0,0,0),0,[],0,(0,0),ct,0,([],[],0),(0,0,0,0,0),(0,0,0,0,0,0),[])
 else
 (zX F a0.1 a0.2.2.1).bind λb=>
 (Q7 F a0.2.1.1 b).bind λc=>
 ab (12,a0.1.1.2,a0.2.2.1,(0,0,0,0,0),0,[],0,c,a0.1.1.1,0,([],[],0),(0,0,0,0,0),(0,0,0,0,0,0),[])
def OG(F:Nat):Fs yb:=⟨12,[.v Zc],[],[Zc],(zP iW),λx=>AA F x⟩
def ZuV:Fs yb:=OG yD
def ZU8:HI:={ still:=[3,19,21,23,24],eJ:=[(2,[([10,0],bj,131),([10,1],Zw,83)])]}
theorem Zsx:ZuV.Ok:=aF ZU8 [] [QA,Zmv,zC] ⟨tE,ZkZ,zL,ao⟩
def pZ(F:Nat)(a0:yU):yO (Bool):=
 (XX F a0).bind λa=>
 ab (!a)
def OH:Fs yb:=⟨120,[.v .u64],[],[.u64],(zP .bool),λx=>pZ yD x⟩
theorem ZoA:OH.Ok:=aF { still:=[2,3]} [] [Qf] ⟨Vq,ao⟩
def Q8(F:Nat)(a0:Int):yO (Bool):=
 if(ah (a0 >= 0))=af then
  ab (ah (a0<=1048576))
 else
 ab ag
def Zsy:Fs yb:=⟨123,[.v yI],[],[yI],(zP .bool),λx=>Q8 yD x⟩
theorem ZAE:Zsy.Ok:=aF { still:=[2]} [] [] trivial
def YO(F:Nat)(s:(aSy×Int×Int)):yO ((aSy×Int×Int)⊕(Int⊕Unit)):=
 if(ah (s.2.2 < s.2.1))=af then
  (idx s.1 s.2.2).bind λa=>
  (pZ F a).bind λb=>
  if b=af then
   ab (.inr (.inl s.2.2))
  else
  ab (.inl (s.1,s.2.1,wi (s.2.2+1)))
 else
 ab (.inr (.inr ()))
def Zhk:Lp:=⟨[(0,.v aSt),(1,.fn 120 []),(7,.v yI),(8,.v yI)],[],[aSt,yI,yI],[⟨.ret,[(4,.v yI)],[],[yI]⟩,⟨.exit 0,[],[],[]⟩],Zb (YO yD) yD⟩
theorem ZnO:Zhk.aT yb 192 0:=Zm { still:=[4,15]} [] [OH] ⟨ZoA,ao⟩
def AB(F:Nat)(a0:aSy):yO (Int):=
 (Zb (YO F) F (a0,(a0.length:Int),0)).bind λa=>
 match a with
 |.inl b=>
  ab b
 |.inr c=>
  ab (-1)
def Zjm:Fs yb:=⟨192,[.v aSt,.fn 120 []],[],[aSt],(zP yI),λx=>AB yD x⟩
theorem ZrP:Zjm.Ok:=aF { still:=[4,15]} [(0,Zhk)] [] trivial ⟨ZnO,ao⟩
def qa(F:Nat)(a0:aSy):yO (Bool):=
 (AB F a0).bind λa=>
 ab (ah (a >= 0))
def Zqe:Fs yb:=⟨122,[.v aSt,.fn 120 []],[],[aSt],(zP .bool),λx=>qa yD x⟩
theorem Zx7:Zqe.Ok:=aF { still:=[4,5,6]} [] [Zjm] ⟨ZrP,ao⟩
def Vv(F:Nat)(s:(aSx×Int×Int×ZG)):yO ((aSx×Int×Int×ZG)⊕((Bool×ZG)⊕ZG)):=
 if(ah (s.2.2.1 < s.2.1))=af then
  (idx s.1 s.2.2.1).bind λa=>
  if(ah ((a.1.length:Int) > 12))=af then
   ab (.inr (.inl (ag,s.2.2.2)))
  else
  (qa F a.1).bind λb=>
  if b=af then
   ab (.inr (.inl (ag,s.2.2.2)))
  else
  (Q8 F a.2.1).bind λc=>
  if(!c)=af then
   ab (.inr (.inl (ag,s.2.2.2)))
  else
  (Q8 F a.2.2.1).bind λd=>
  if(!d)=af then
   ab (.inr (.inl (ag,s.2.2.2)))
  else
  if(a.2.2.2 !=0)=af then
   (pZ F a.2.2.2).bind λe=>
   if e=af then
    ab (.inr (.inl (ag,s.2.2.2)))
   else
   ab (.inl (s.1,s.2.1,wi (s.2.2.1+1),s.2.2.2))
  else
  ab (.inl (s.1,s.2.1,wi (s.2.2.1+1),s.2.2.2))
 else
 ab (.inr (.inr s.2.2.2))
def Zsz:Lp:=⟨[(1,.am 0 []),(3,.fn 120 []),(7,.v aSw),(8,.v yI),(9,.v yI)],[.var (.v Zk) af],[aSw,yI,yI,Zk],[⟨.ret,[(2,.v .bool)],[.var (.v Zk) af],[.bool,Zk]⟩,⟨.exit 0,[(1,.am 0 [])],[.var (.v Zk) af],[Zk]⟩],Zb (Vv yD) yD⟩
theorem Zwi:Zsz.aT yb 56 0:=Zm { still:=[2,19,20,25,31,42]} [] [Zqe,Zsy,OH] ⟨Zx7,ZAE,ZoA,ao⟩
def Wd(F:Nat)(a0:ZG):yO (Bool):=
 (Zb (Vv F) F (a0,(a0.length:Int),0,a0)).bind λa=>
 match a with
 |.inl b=>
  ab b.1
 |.inr c=>
  if(ah ((c.length:Int) > 0))=af then
   ab (ah ((c.length:Int)<=4))
  else
  ab ag
def OI(F:Nat):Fs yb:=⟨56,[.v Zk],[],[Zk],(zP .bool),λx=>Wd F x⟩
def Q9:Fs yb:=OI yD
theorem Qi:Q9.Ok:=aF { still:=[2,19,20,25,31,42]} [(0,Zsz)] [] trivial ⟨Zwi,ao⟩
def qb(F:Nat)(a0:XT):yO (Bool):=
 if(ah (a0.1 >= 0))=af then
  if(ah (a0.1 < 4))=af then
   ab (ah ((a0.2.1.length:Int)<=12))
  else
  ab ag
 else
 ab ag
def OJ:Fs yb:=⟨125,[.v Ya],[],[Ya],(zP .bool),λx=>qb yD x⟩
theorem ZsA:OJ.Ok:=aF { still:=[2]} [] [] trivial
def qc(F:Nat)(s:(aSu×Int×Int×Tx×(yL (al×Bool)))):yO ((aSu×Int×Int×Tx×(yL (al×Bool)))⊕((Bool×Tx×(yL (al×Bool)))⊕(Tx×(yL (al×Bool))))):=
 if(ah (s.2.2.1 < s.2.1))=af then
  (idx s.1 s.2.2.1).bind λa=>
  lb (fY s.2.2.2.2 a.1) (λb=>
   if b=af then
    ab (.inr (.inl (ag,s.2.2.2.1,s.2.2.2.2)))
   else
   if(ah (a.1.2 < 0))=af then
    ab (.inr (.inl (ag,s.2.2.2.1,s.2.2.2.2)))
   else
   if(ah (a.1.2 >= 64))=af then
    ab (.inr (.inl (ag,s.2.2.2.1,s.2.2.2.2)))
   else
   (qb F a.2).bind λc=>
   if(!c)=af then
    ab (.inr (.inl (ag,s.2.2.2.1,s.2.2.2.2)))
   else
   ab (.inl (s.1,s.2.1,wi (s.2.2.1+1),s.2.2.2.1,gU s.2.2.2.2 a.1 af))) (
   if(ah (a.1.2 < 0))=af then
    ab (.inr (.inl (ag,s.2.2.2.1,s.2.2.2.2)))
   else
   if(ah (a.1.2 >= 64))=af then
    ab (.inr (.inl (ag,s.2.2.2.1,s.2.2.2.2)))
   else
   (qb F a.2).bind λd=>
   if(!d)=af then
    ab (.inr (.inl (ag,s.2.2.2.1,s.2.2.2.2)))
   else
   ab (.inl (s.1,s.2.1,wi (s.2.2.1+1),s.2.2.2.1,gU s.2.2.2.2 a.1 af)))
 else
 ab (.inr (.inr (s.2.2.2.1,s.2.2.2.2)))
def Zxy:Lp:=⟨[(1,.am 0 []),(3,.mp 1),(33,.v aSs),(34,.v yI),(35,.v yI)],[.var (.v ax) af,.map 228 Zh .bool],[aSs,yI,yI,ax,(dL Zh .bool)],[⟨.ret,[(2,.v .bool)],[.var (.v ax) af,.map 228 Zh .bool],[.bool,ax,(dL Zh .bool)]⟩,⟨.exit 0,[(1,.am 0 [])],[.var (.v ax) af,.map 228 Zh .bool],[ax,(dL Zh .bool)]⟩],Zb (qc yD) yD⟩
theorem ZAF:Zxy.aT yb 68 0:=Zm { still:=[2,57,73,75,83]} [] [OJ] ⟨ZsA,ao⟩
def qd(F:Nat)(s:(Int×aSv×Int×Int×Tx×(yL (al×Bool)))):yO ((Int×aSv×Int×Int×Tx×(yL (al×Bool)))⊕((Bool×Tx×(yL (al×Bool)))⊕(Tx×(yL (al×Bool))))):=
 if(ah (s.2.2.2.1 < s.2.2.1))=af then
  (idx s.2.1 s.2.2.2.1).bind λa=>
  (lw F s.1 a.1).bind λb=>
  if(!b.2)=af then
   ab (.inr (.inl (ag,s.2.2.2.2.1,s.2.2.2.2.2)))
  else
  (Wd F a.2).bind λc=>
  if(!c)=af then
   ab (.inr (.inl (ag,s.2.2.2.2.1,s.2.2.2.2.2)))
  else
  ab (.inl (b.1,s.2.1,s.2.2.1,wi (s.2.2.2.1+1),s.2.2.2.2.1,s.2.2.2.2.2))
 else
 ab (.inr (.inr (s.2.2.2.2.1,s.2.2.2.2.2)))
def Zxz:Lp:=⟨[(6,.v yI),(66,.v aSq),(67,.v yI),(68,.v yI)],[.var (.v ax) af,.map 228 Zh .bool],[yI,aSq,yI,yI,ax,(dL Zh .bool)],[⟨.ret,[(2,.v .bool)],[.var (.v ax) af,.map 228 Zh .bool],[.bool,ax,(dL Zh .bool)]⟩,⟨.exit 2,[],[.var (.v ax) af,.map 228 Zh .bool],[ax,(dL Zh .bool)]⟩],Zb (qd yD) yD⟩
theorem ZAG:Zxz.aT yb 68 1:=Zm { still:=[2,57,73,75,83]} [] [LW,Q9] ⟨ZAt,Qi,ao⟩
def bc(F:Nat)(a0:Tx):yO (Bool):=
 if(ah ((a0.1.length:Int) < 1))=af then
  ab ag
 else
 if(ah ((a0.1.length:Int) > 64))=af then
  ab ag
 else
 if(ah ((a0.2.1.length:Int) > 64))=af then
  ab ag
 else
 if(ah (a0.2.2 < 0))=af then
  ab ag
 else
 (Zb (qc F) F (a0.1,(a0.1.length:Int),0,a0,([]:yL (al×Bool)))).bind λa=>
 match a with
 |.inl b=>
  ab b.1
 |.inr c=>
  (Zb (qd F) F (0,c.1.2.1,(c.1.2.1.length:Int),0,c.1,c.2)).bind λd=>
  match d with
  |.inl e=>
   ab e.1
  |.inr f=>
   ab af
def oB:Fs yb:=⟨68,[.v ax],[],[ax],(zP .bool),λx=>bc yD x⟩
theorem qe:oB.Ok:=aF { still:=[2,57,73,75,83]} [(0,Zxy),(1,Zxz)] [] trivial ⟨ZAF,ZAG,ao⟩
abbrev _root_.aSE:=yL al
def tS(F:Nat)(s:(aSu×Int×Int×Tx×aSE)):yO ((aSu×Int×Int×Tx×aSE)⊕(Tx×aSE)):=
 if(ah (s.2.2.1 < s.2.1))=af then
  (idx s.1 s.2.2.1).bind λa=>
  if(bN s.2.2.2.2.length 1 40)=af then
   ab (.inl (s.1,s.2.1,wi (s.2.2.1+1),s.2.2.2.1,s.2.2.2.2++([a.1]:yL al)))
  else
  ae
 else
 ab (.inr (s.2.2.2.1,s.2.2.2.2))
abbrev _root_.aSC:Go.Ev.Ty:=.sl Zh
def ZuW:Lp:=⟨[(2,.own 1 Zh),(9,.v aSs),(10,.v yI),(11,.v yI)],[.var (.v ax) af,.log Zh 25],[aSs,yI,yI,ax,aSC],[⟨.exit 0,[(2,.own 1 Zh)],[.var (.v ax) af,.log Zh 25],[ax,aSC]⟩],Zb (tS yD) yD⟩
def ZUq:HI:={ own:=[2,15,19,21],still:=[2,5]}
theorem Zx8:ZuW.aT yb 23 0:=Zm ZUq [] [] trivial
def tT(F:Nat)(a0:Tx):yO (aSE):=
 (bc F a0).bind λa=>
 if(!a)=af then
  ab []
 else
 (Zb (tS F) F (a0.1,(a0.1.length:Int),0,a0,[])).bind λb=>
 ab b.2
def OL:Fs yb:=⟨23,[.v ax],[],[ax],(zP aSC),λx=>tT yD x⟩
theorem ZuX:OL.Ok:=aF ZUq [(0,ZuW)] [oB] ⟨qe,ao⟩ ⟨Zx8,ao⟩
def QD(F:Nat)(s:(aSy×aSy×Int×Int)):yO ((aSy×aSy×Int×Int)⊕(Bool⊕Unit)):=
 if(ah (s.2.2.2 < s.2.2.1))=af then
  (idx s.1 s.2.2.2).bind λa=>
  (idx s.2.1 s.2.2.2).bind λb=>
  if(a !=b)=af then
   ab (.inr (.inl ag))
  else
  ab (.inl (s.1,s.2.1,s.2.2.1,wi (s.2.2.2+1)))
 else
 ab (.inr (.inr ()))
def ZoB:Lp:=⟨[(0,.v aSt),(1,.v aSt),(12,.v yI),(13,.v yI)],[],[aSt,aSt,yI,yI],[⟨.ret,[(4,.v .bool)],[],[.bool]⟩,⟨.exit 0,[],[],[]⟩],Zb (QD yD) yD⟩
theorem Ztv:ZoB.aT yb 78 0:=Zm { still:=[4]} [] [] trivial
def AC(F:Nat)(a0:aSy)(a1:aSy):yO (Bool):=
 if((a0.length:Int)!=(a1.length:Int))=af then
  ab ag
 else
 (Zb (QD F) F (a0,a1,(a0.length:Int),0)).bind λa=>
 match a with
 |.inl b=>
  ab b
 |.inr c=>
  ab af
def Zqg:Fs yb:=⟨78,[.v aSt,.v aSt],[],[aSt,aSt],(zP .bool),λx=>AC yD x.1 x.2⟩
theorem Zx9:Zqg.Ok:=aF { still:=[4]} [(0,ZoB)] [] trivial ⟨Ztv,ao⟩
def tU(F:Nat)(a0:Zq)(a1:Zq):yO (Bool):=
 (AC F a0.1 a1.1).bind λa=>
 if a=af then
  if(a0.2.1==a1.2.1)=af then
   if(a0.2.2.1==a1.2.2.1)=af then
    ab (a0.2.2.2==a1.2.2.2)
   else
   ab ag
  else
  ab ag
 else
 ab ag
def ZsB:Fs yb:=⟨77,[.v Zg,.v Zg],[],[Zg,Zg],(zP .bool),λx=>tU yD x.1 x.2⟩
theorem ZAH:ZsB.Ok:=aF { still:=[4,6,8]} [] [Zqg] ⟨Zx9,ao⟩
def tV(F:Nat)(s:(aSx×aSx×Int×Int)):yO ((aSx×aSx×Int×Int)⊕(Bool⊕Unit)):=
 if(ah (s.2.2.2 < s.2.2.1))=af then
  (idx s.2.1 s.2.2.2).bind λa=>
  (idx s.1 s.2.2.2).bind λb=>
  (tU F a b).bind λc=>
  if(!c)=af then
   ab (.inr (.inl ag))
  else
  ab (.inl (s.1,s.2.1,s.2.2.1,wi (s.2.2.2+1)))
 else
 ab (.inr (.inr ()))
def ZsC:Lp:=⟨[(1,.v aSw),(2,.fn 77 []),(15,.v aSw),(16,.v yI),(17,.v yI)],[],[aSw,aSw,yI,yI],[⟨.ret,[(6,.v .bool)],[],[.bool]⟩,⟨.exit 0,[],[],[]⟩],Zb (tV yD) yD⟩
theorem Zwj:ZsC.aT yb 76 0:=Zm { still:=[6,27,28]} [] [ZsB] ⟨ZAH,ao⟩
def OM(F:Nat)(a0:aSx)(a1:aSx):yO (Bool):=
 if((a0.length:Int)!=(a1.length:Int))=af then
  ab ag
 else
 (Zb (tV F) F (a1,a0,(a0.length:Int),0)).bind λa=>
 match a with
 |.inl b=>
  ab b
 |.inr c=>
  ab af
def ZuY:Fs yb:=⟨76,[.v aSw,.v aSw,.fn 77 []],[],[aSw,aSw],(zP .bool),λx=>OM yD x.1 x.2⟩
theorem ZBV:ZuY.Ok:=aF { still:=[6,27,28]} [(0,ZsC)] [] trivial ⟨Zwj,ao⟩
def AD(F:Nat)(a0:ZG)(a1:ZG):yO (Bool):=
 (OM F a0 a1).bind λa=>
 ab a
def ZxA:Fs yb:=⟨26,[.v Zk,.v Zk],[],[Zk,Zk],(zP .bool),λx=>AD yD x.1 x.2⟩
theorem ZER:ZxA.Ok:=aF { still:=[4,6,8]} [] [ZuY] ⟨ZBV,ao⟩
def ZU(F:Nat)(a0:aSy):yO (aSy):=
 if(bN 0 a0.length 8)=af then
  ab a0
 else
 ae
def Zya:Fs yb:=⟨169,[.sl af .u64],[],[aSt],(zP aSt),λx=>ZU yD x⟩
theorem Zwk:Zya.Ok:=aF { own:=[5,7],still:=[2]} [] [] trivial
def Zk1(F:Nat):yO (aSy):=
 ab []
def Ztw:Fs yb:=⟨169,[.nil .u64],[],[],(zP aSt),λx=>Zk1 yD⟩
theorem ZrQ:Ztw.Ok:=aF { own:=[5,7],still:=[2]} [] [] trivial
def Z1:Fs yb:=⟨169,[.v aSt],[],[aSt],(zP aSt),λx=>ZU yD x⟩
theorem Z3:Z1.Ok:=ol (t:=.u64) (xs:=(zP aSt)) (MA:=λ(x:aSy)=>ZU yD x) (MB:=λ_=>Zk1 yD) Zwk ZrQ rfl
def AE(F:Nat)(a0:aSy):yO (ZG):=
 (ZU F a0).bind λa=>
 ab [(a,0,0,0)]
def ON:Fs yb:=⟨87,[.v aSt],[],[aSt],(zP Zk),λx=>AE yD x⟩
theorem ZxB:ON.Ok:=aF { still:=[3]} [] [Z1] ⟨Z3,ao⟩
def qf(F:Nat)(a0:yU):yO (ZG):=
 (AE F [a0]).bind λa=>
 ab a
def OO(F:Nat):Fs yb:=⟨31,[.v .u64],[],[.u64],(zP Zk),λx=>qf F x⟩
def OP:Fs yb:=OO yD
theorem OQ:OP.Ok:=aF { still:=[4]} [] [ON] ⟨ZxB,ao⟩
def QE(F:Nat)(s:(aSE×Int×Int×al)):yO ((aSE×Int×Int×al)⊕((Int×al)⊕al)):=
 if(ah (s.2.2.1 < s.2.1))=af then
  (idx s.1 s.2.2.1).bind λa=>
  if(ah (s.2.2.2=a))=af then
   ab (.inr (.inl (s.2.2.1,s.2.2.2)))
  else
  ab (.inl (s.1,s.2.1,wi (s.2.2.1+1),s.2.2.2))
 else
 ab (.inr (.inr s.2.2.2))
def ZoC:Lp:=⟨[(0,.v aSC),(3,.am 0 []),(7,.v yI),(8,.v yI)],[.var (.v Zh) af],[aSC,yI,yI,Zh],[⟨.ret,[(4,.v yI)],[.var (.v Zh) af],[yI,Zh]⟩,⟨.exit 0,[],[.var (.v Zh) af],[Zh]⟩],Zb (QE yD) yD⟩
theorem Ztz:ZoC.aT yb 140 0:=Zm { still:=[4]} [] [] trivial
def OR(F:Nat)(a0:aSE)(a1:al):yO (Int):=
 (Zb (QE F) F (a0,(a0.length:Int),0,a1)).bind λa=>
 match a with
 |.inl b=>
  ab b.1
 |.inr c=>
  ab (-1)
def Zqk:Fs yb:=⟨140,[.v aSC,.v Zh],[],[aSC,Zh],(zP yI),λx=>OR yD x.1 x.2⟩
theorem Zyb:Zqk.Ok:=aF { still:=[4]} [(0,ZoC)] [] trivial ⟨Ztz,ao⟩
def AF(F:Nat)(a0:aSE)(a1:al):yO (Bool):=
 (OR F a0 a1).bind λa=>
 ab (ah (a >= 0))
def Zk2:Fs yb:=⟨69,[.v aSC,.v Zh],[],[aSC,Zh],(zP .bool),λx=>AF yD x.1 x.2⟩
theorem ZtA:Zk2.Ok:=aF { still:=[4,5,6]} [] [Zqk] ⟨Zyb,ao⟩
def Vi(F:Nat):(aSv×Int×Int×aj×Tx×ZG×aSA)->yO ((aSv×Int×Int×aj×Tx×ZG×aSA)⊕(aj×Tx×ZG×aSA))
 |(c,b,a,f,g,d,e)=>
 if(ah (a < b))=af then
  (idx c a).bind λh=>
  (AD F h.2 d).bind λi=>
  if i=af then
   if(bN e.length 1 8)=af then
    ab (.inl (c,b,wi (a+1),f,g,d,e++([a]:yL Int)))
   else
   ae
  else
  ab (.inl (c,b,wi (a+1),f,g,d,e))
 else
 ab (.inr (f,g,d,e))
def ZoD:Lp:=⟨[(5,.am 2 []),(6,.own 3 yI),(35,.v aSq),(36,.v yI),(37,.v yI)],[.var (.v Zc) af,.var (.v ax) af,.var (.v Zk) af,.log yI 3],[aSq,yI,yI,Zc,ax,Zk,aSz],[⟨.exit 0,[(6,.own 3 yI)],[.var (.v Zc) af,.var (.v ax) af,.var (.v Zk) af,.log yI 3],[Zc,ax,Zk,aSz]⟩],Zb (Vi yD) yD⟩
def ZUr:HI:={ own:=[6,46,49],still:=[4,9,13,18,19,22,32,43,44]}
theorem ZtB:ZoD.aT yb 20 0:=Zm ZUr [] [ZxA] ⟨ZER,ao⟩
def qg(F:Nat)(a0:aj)(a1:Tx):yO (aSA):=
 (XW F a0).bind λa=>
 if(!a)=af then
  ab []
 else
 (bc F a1).bind λb=>
 if(!b)=af then
  ab []
 else
 (tT F a1).bind λc=>
 (AF F c a0.1.1).bind λd=>
 if(!d)=af then
  ab []
 else
 if(aS a0.2.2.1 2)=af then
  (a0.1.2.2.1[a0.2.2.1.toNat]?).bind λe=>
  (qf F e.2.1).bind λf=>
  (Zb (Vi F) F (a1.2.1,(a1.2.1.length:Int),0,a0,a1,f,[])).bind λg=>
  ab g.2.2.2
 else
 ae
def OS:Fs yb:=⟨20,[.v Zc,.v ax],[],[Zc,ax],(zP aSz),λx=>qg yD x.1 x.2⟩
theorem ZoE:OS.Ok:=aF ZUr [(0,ZoD)] [QA,oB,OL,Zk2,OP] ⟨tE,qe,ZuX,ZtA,OQ,ao⟩ ⟨ZtB,ao⟩
def AG(F:Nat)(a0:aSl)(a1:aSl):yO (aSl):=
 (tN F (a1.length:Int)).bind λa=>
 (Xo F [a0,a,a1]).bind λb=>
 ab b
def ZoF:Fs yb:=⟨205,[.v aSm,.v aSm],[],[aSm,aSm],(zP aSm),λx=>AG yD x.1 x.2⟩
theorem Zwl:ZoF.Ok:=aF { still:=[4,7,10]} [] [NJ,VK] ⟨Zxs,Zbn,ao⟩
def tW(F:Nat)(s:(aSl×aSx×Int×Int×aSy×Int×Int×ZG×Zq)):yO ((aSl×aSx×Int×Int×aSy×Int×Int×ZG×Zq)⊕(aSl×aSx×Int×Int×ZG×Zq)):=
 if(ah (s.2.2.2.2.2.2.1 < s.2.2.2.2.2.1))=af then
  (idx s.2.2.2.2.1 s.2.2.2.2.2.2.1).bind λa=>
  (pW F s.1 a).bind λb=>
  ab (.inl (b,s.2.1,s.2.2.1,s.2.2.2.1,s.2.2.2.2.1,s.2.2.2.2.2.1,wi (s.2.2.2.2.2.2.1+1),s.2.2.2.2.2.2.2.1,s.2.2.2.2.2.2.2.2))
 else
 ab (.inr (s.1,s.2.1,s.2.2.1,s.2.2.2.1,s.2.2.2.2.2.2.2.1,s.2.2.2.2.2.2.2.2))
abbrev tL2:yL Ty:=[aSm,aSw,yI,yI,aSt,yI,yI,Zk,Zg]
def ZsD:Lp:=⟨[(3,.v aSm),(5,.am 1 []),(16,.v aSw),(17,.v yI),(18,.v yI),(28,.v aSt),(29,.v yI),(30,.v yI)],[.var (.v Zk) af,.var (.v Zg) af],tL2,[⟨.exit 2,[(3,.v aSm),(5,.am 1 []),(16,.v aSw),(17,.v yI),(18,.v yI)],[.var (.v Zk) af,.var (.v Zg) af],[aSm,aSw,yI,yI,Zk,Zg]⟩],Zb (tW yD) yD⟩
def OT:HI:={ still:=[2,8,13,22,25,34,35,38,40,41,43,44,46]}
theorem Zwm:ZsD.aT yb 206 1:=Zm OT [] [zl] ⟨NM,ao⟩
def AH(F:Nat)(s:(aSl×aSx×Int×Int×ZG)):yO ((aSl×aSx×Int×Int×ZG)⊕(aSl×ZG)):=
 if(ah (s.2.2.2.1 < s.2.2.1))=af then
  (idx s.2.1 s.2.2.2.1).bind λa=>
  (Wx F s.1 (a.1.length:Int)).bind λb=>
  (Zb (tW F) F (b,s.2.1,s.2.2.1,s.2.2.2.1,a.1,(a.1.length:Int),0,s.2.2.2.2,a)).bind λc=>
  (Wx F c.1 c.2.2.2.2.2.2.1).bind λd=>
  (Wx F d c.2.2.2.2.2.2.2.1).bind λe=>
  (pW F e c.2.2.2.2.2.2.2.2).bind λf=>
  ab (.inl (f,c.2.1,c.2.2.1,wi (c.2.2.2.1+1),c.2.2.2.2.1))
 else
 ab (.inr (s.1,s.2.2.2.2))
def ZsE:Lp:=⟨[(3,.v aSm),(16,.v aSw),(17,.v yI),(18,.v yI)],[.var (.v Zk) af],[aSm,aSw,yI,yI,Zk],[⟨.exit 0,[(3,.v aSm)],[.var (.v Zk) af],[aSm,Zk]⟩],Zb (AH yD) yD⟩
theorem Zwn:ZsE.aT yb 206 0:=Zm OT [(1,ZsD)] [mM,zl] ⟨QS,NM,ao⟩ ⟨Zwm,ao⟩
def tX(F:Nat)(a0:ZG):yO (aSl):=
 (Wd F a0).bind λa=>
 if(!a)=af then
  ab []
 else
 (Wx F [] (a0.length:Int)).bind λb=>
 (Zb (AH F) F (b,a0,(a0.length:Int),0,a0)).bind λc=>
 ab c.1
def OU:Fs yb:=⟨206,[.v Zk],[],[Zk],(zP aSm),λx=>tX yD x⟩
theorem ZsF:OU.Ok:=aF OT [(0,ZsE)] [Q9,mM] ⟨Qi,QS,ao⟩ ⟨Zwn,ao⟩
def AI(F:Nat)(s:(aSl×aSu×Int×Int×Tx)):yO ((aSl×aSu×Int×Int×Tx)⊕(aSl×Tx)):=
 if(ah (s.2.2.2.1 < s.2.2.1))=af then
  (idx s.2.1 s.2.2.2.1).bind λa=>
  (Qh F s.1 a.1.1).bind λb=>
  (Wx F b a.1.2).bind λc=>
  ab (.inl (c,s.2.1,s.2.2.1,wi (s.2.2.2.1+1),s.2.2.2.2))
 else
 ab (.inr (s.1,s.2.2.2.2))
def ZxC:Lp:=⟨[(1,.am 0 []),(3,.v aSm),(13,.v aSs),(14,.v yI),(15,.v yI)],[.var (.v ax) af],[aSm,aSs,yI,yI,ax],[⟨.exit 0,[(1,.am 0 []),(3,.v aSm)],[.var (.v ax) af],[aSm,ax]⟩],Zb (AI yD) yD⟩
def OV:HI:={ still:=[2,10,19,22,23,26,29,32,41,43,44,46,47,50,52]}
theorem ZAI:ZxC.aT yb 143 0:=Zm OV [] [zh,mM] ⟨zi,QS,ao⟩
def AJ(F:Nat)(s:(aSl×aSv×Int×Int×Tx)):yO ((aSl×aSv×Int×Int×Tx)⊕(aSl×Tx)):=
 if(ah (s.2.2.2.1 < s.2.2.1))=af then
  (idx s.2.1 s.2.2.2.1).bind λa=>
  (Wx F s.1 a.1).bind λb=>
  (tX F a.2).bind λc=>
  (AG F b c).bind λd=>
  ab (.inl (d,s.2.1,s.2.2.1,wi (s.2.2.2.1+1),s.2.2.2.2))
 else
 ab (.inr (s.1,s.2.2.2.2))
def ZxD:Lp:=⟨[(1,.am 0 []),(3,.v aSm),(35,.v aSq),(36,.v yI),(37,.v yI)],[.var (.v ax) af],[aSm,aSq,yI,yI,ax],[⟨.exit 2,[(1,.am 0 []),(3,.v aSm)],[.var (.v ax) af],[aSm,ax]⟩],Zb (AJ yD) yD⟩
theorem ZAJ:ZxD.aT yb 143 1:=Zm OV [] [mM,OU,ZoF] ⟨QS,ZsF,Zwl,ao⟩
def AK(F:Nat)(a0:Tx):yO (aSl):=
 (Wx F [] (a0.1.length:Int)).bind λa=>
 (Zb (AI F) F (a,a0.1,(a0.1.length:Int),0,a0)).bind λb=>
 (Wx F b.1 (b.2.2.1.length:Int)).bind λc=>
 (Zb (AJ F) F (c,b.2.2.1,(b.2.2.1.length:Int),0,b.2)).bind λd=>
 (Wx F d.1 d.2.2.2).bind λe=>
 ab e
def ZAK:Fs yb:=⟨143,[.v ax],[],[ax],(zP aSm),λx=>AK yD x⟩
theorem ZG4:ZAK.Ok:=aF OV [(0,ZxC),(1,ZxD)] [mM] ⟨QS,ao⟩ ⟨ZAI,ZAJ,ao⟩
def OW:ByteArray:=⟨#[116,120]⟩
def jM(F:Nat)(a0:Tx):yO (aSl):=
 (bc F a0).bind λa=>
 if(!a)=af then
  ab ct
 else
 (AK F a0).bind λb=>
 (Ww F OW [b]).bind λc=>
 ab c
def OX(F:Nat):Fs yb:=⟨75,[.v ax],[],[ax],(zP aSn),λx=>jM F x⟩
def tY:Fs yb:=OX yD
theorem tZ:tY.Ok:=aF { still:=[3,7,9]} [] [oB,ZAK,Vs] ⟨qe,ZG4,Vb,ao⟩
def ua(F:Nat)(s:(Int×Int×Tx×aSE×aSl)):yO ((Int×Int×Tx×aSE×aSl)⊕(Tx×aSE×aSl)):=
 if(ah (s.2.1 < s.1))=af then
  if(bN s.2.2.2.1.length 1 40)=af then
   let a:aSE:=s.2.2.2.1++([(s.2.2.2.2,s.2.1)]:yL al)
   ab (.inl (s.1,wi (s.2.1+1),s.2.2.1,a,s.2.2.2.2))
  else
  ae
 else
 ab (.inr (s.2.2.1,s.2.2.2.1,s.2.2.2.2))
def ZAM:Lp:=⟨[(2,.own 1 Zh),(3,.am 2 []),(12,.v yI),(13,.v yI)],[.var (.v ax) af,.log Zh 25,.var (.v aSn) af],[yI,yI,ax,aSC,aSn],[⟨.exit 0,[(2,.own 1 Zh)],[.var (.v ax) af,.log Zh 25,.var (.v aSn) af],[ax,aSC,aSn]⟩],Zb (ua yD) yD⟩
def ZUs:HI:={ own:=[2,16,21,23],still:=[2,5,7]}
theorem ZBW:ZAM.aT yb 24 0:=Zm ZUs [] [] trivial
def qh(F:Nat)(a0:Tx):yO (aSE):=
 (jM F a0).bind λa=>
 (bc F a0).bind λb=>
 if(!b)=af then
  ab []
 else
 (Zb (ua F) F ((a0.2.1.length:Int),0,a0,[],a)).bind λc=>
 ab c.2.1
def AL:Fs yb:=⟨24,[.v ax],[],[ax],(zP aSC),λx=>qh yD x⟩
theorem OY:AL.Ok:=aF ZUs [(0,ZAM)] [tY,oB] ⟨tZ,qe,ao⟩ ⟨ZBW,ao⟩
def AM(F:Nat)(a0:yU):yO (Bool):=
 if(a0==0)=af then
  ab af
 else
 (VW F a0).bind λa=>
 ab (!a)
def ZxE:Fs yb:=⟨124,[.v .u64],[],[.u64],(zP .bool),λx=>AM yD x⟩
theorem ZES:ZxE.Ok:=aF { still:=[2,6]} [] [tw] ⟨xt,ao⟩
def AN(F:Nat)(a0:aSx):yO (aSx):=
 if(bN 0 a0.length 48)=af then
  ab a0
 else
 ae
def Zwo:Fs yb:=⟨172,[.sl af Zg],[],[aSw],(zP aSw),λx=>AN yD x⟩
theorem Zu0:Zwo.Ok:=aF { own:=[5,7],still:=[2]} [] [] trivial
def Zjq(F:Nat):yO (aSx):=
 ab []
def ZrR:Fs yb:=⟨172,[.nil Zg],[],[],(zP aSw),λx=>Zjq yD⟩
theorem Zqm:ZrR.Ok:=aF { own:=[5,7],still:=[2]} [] [] trivial
def ZtD:Fs yb:=⟨172,[.v aSw],[],[aSw],(zP aSw),λx=>AN yD x⟩
theorem ZrS:ZtD.Ok:=ol (t:=Zg) (xs:=(zP aSw)) (MA:=λ(x:aSx)=>AN yD x) (MB:=λ_=>Zjq yD) Zu0 Zqm rfl
def AO(F:Nat)(a0:aSu):yO (aSu):=
 if(bN 0 a0.length 80)=af then
  ab a0
 else
 ae
def ZON:Fs yb:=⟨194,[.sl af bj],[],[aSs],(zP aSs),λx=>AO yD x⟩
theorem ZLY:ZON.Ok:=aF { own:=[5,7],still:=[2]} [] [] trivial
def ZAN(F:Nat):yO (aSu):=
 ab []
def ZG5:Fs yb:=⟨194,[.nil bj],[],[],(zP aSs),λx=>ZAN yD⟩
theorem ZET:ZG5.Ok:=aF { own:=[5,7],still:=[2]} [] [] trivial
def ZI2:Fs yb:=⟨194,[.v aSs],[],[aSs],(zP aSs),λx=>AO yD x⟩
theorem ZG6:ZI2.Ok:=ol (t:=bj) (xs:=(zP aSs)) (MA:=λ(x:aSu)=>AO yD x) (MB:=λ_=>ZAN yD) ZLY ZET rfl
def AP(F:Nat)(a0:aSv):yO (aSv):=
 if(bN 0 a0.length 32)=af then
  ab a0
 else
 ae
def ZLZ:Fs yb:=⟨195,[.sl af Zw],[],[aSq],(zP aSq),λx=>AP yD x⟩
theorem ZI3:ZLZ.Ok:=aF { own:=[5,7],still:=[2]} [] [] trivial
def ZxF(F:Nat):yO (aSv):=
 ab []
def ZEU:Fs yb:=⟨195,[.nil Zw],[],[],(zP aSq),λx=>ZxF yD⟩
theorem ZBX:ZEU.Ok:=aF { own:=[5,7],still:=[2]} [] [] trivial
def ZG7:Fs yb:=⟨195,[.v aSq],[],[aSq],(zP aSq),λx=>AP yD x⟩
theorem ZEV:ZG7.Ok:=ol (t:=Zw) (xs:=(zP aSq)) (MA:=λ(x:aSv)=>AP yD x) (MB:=λ_=>ZxF yD) ZI3 ZBX rfl
def kq(F:Nat)(a0:(yL dQ)):yO ((yL dQ)):=
 if(bN 0 a0.length 16)=af then
  ab a0
 else
 ae
def ZL0:Fs yb:=⟨196,[.sl af WV],[],[aSK],(zP aSK),λx=>kq yD x⟩
theorem ZI4:ZL0.Ok:=aF { own:=[5,7],still:=[2]} [] [] trivial
def ZxG(F:Nat):yO ((yL dQ)):=
 ab []
def ZEW:Fs yb:=⟨196,[.nil WV],[],[],(zP aSK),λx=>ZxG yD⟩
theorem ZBY:ZEW.Ok:=aF { own:=[5,7],still:=[2]} [] [] trivial
def qi:Fs yb:=⟨196,[.v aSK],[],[aSK],(zP aSK),λx=>kq yD x⟩
theorem ub:qi.Ok:=ol (t:=WV) (xs:=(zP aSK)) (MA:=λ(x:(yL dQ))=>kq yD x) (MB:=λ_=>ZxG yD) ZI4 ZBY rfl
def AQ(F:Nat)(a0:aSu):yO ((aSp×aSu)):=
 if(bN 0 a0.length 80)=af then
  ab ([()],a0)
 else
 ae
def ZG8:Fs yb:=⟨194,[.sl af bj],[],[aSs],[⟨.ret,[(0,.rw 0)],[.row bj af 131],[aSo,aSs]⟩],λx=>AQ yD x⟩
theorem ZEX:ZG8.Ok:=aF { own:=[5,7],bM:=[2,5,7]} [] [] trivial
def AR(F:Nat)(a0:aSu):yO ((aSp×aSu)):=if a0.isEmpty=af then ae else AQ F a0
def ZsG:Fs yb:=⟨194,[.v aSs],[],[aSs],[⟨.ret,[(0,.rw 0)],[.row bj af 131],[aSo,aSs]⟩],λx=>AR yD x⟩
theorem Zqn:ZsG.Ok:=KX (t:=bj) (xs:=[⟨.ret,[(0,.rw 0)],[.row bj af 131],[aSo,aSs]⟩]) (MA:=λ(x:aSu)=>AQ yD x) ZEX rfl (λ_ _=>rfl)
def AS(F:Nat)(a0:aSv):yO ((aSp×aSv)):=
 if(bN 0 a0.length 32)=af then
  ab ([()],a0)
 else
 ae
def ZEY:Fs yb:=⟨195,[.sl af Zw],[],[aSq],[⟨.ret,[(0,.rw 0)],[.row Zw af 83],[aSo,aSq]⟩],λx=>AS yD x⟩
theorem ZBZ:ZEY.Ok:=aF { own:=[5,7],bM:=[2,5,7]} [] [] trivial
def AT(F:Nat)(a0:aSv):yO ((aSp×aSv)):=if a0.isEmpty=af then ae else AS F a0
def Zqo:Fs yb:=⟨195,[.v aSq],[],[aSq],[⟨.ret,[(0,.rw 0)],[.row Zw af 83],[aSo,aSq]⟩],λx=>AT yD x⟩
theorem ZoG:Zqo.Ok:=KX (t:=Zw) (xs:=[⟨.ret,[(0,.rw 0)],[.row Zw af 83],[aSo,aSq]⟩]) (MA:=λ(x:aSv)=>AS yD x) ZBZ rfl (λ_ _=>rfl)
def fr:HI:={ still:=[8,11,30,48,61,69],bM:=[5,9,12,22,49,55,67]}
def AU(F:Nat)(a0:aSx):yO ((aSp×aSx)):=
 if(bN 0 a0.length 48)=af then
  ab ([()],a0)
 else
 ae
def ZrT:Fs yb:=⟨172,[.sl af Zg],[],[aSw],[⟨.ret,[(0,.rw 0)],[.row Zg af 145],[aSo,aSw]⟩],λx=>AU yD x⟩
theorem Zqp:ZrT.Ok:=aF { own:=[5,7],bM:=[2,5,7]} [] [] trivial
def XF(F:Nat)(a0:aSx):yO ((aSp×aSx)):=if a0.isEmpty=af then ae else AU F a0
def OZ:Fs yb:=⟨172,[.v aSw],[],[aSw],[⟨.ret,[(0,.rw 0)],[.row Zg af 145],[aSo,aSw]⟩],λx=>XF yD x⟩
theorem PA:OZ.Ok:=KX (t:=Zg) (xs:=[⟨.ret,[(0,.rw 0)],[.row Zg af 145],[aSo,aSw]⟩]) (MA:=λ(x:aSx)=>AU yD x) Zqp rfl (λ_ _=>rfl)
abbrev AV:Type:=(Int×Int×Int×Int×Int×Int×Tx×aSp×aSu×aSp×aSv×aSp×aSx)
abbrev dT2:Type:=(Int×Int×Int×Int×Tx×aSp×aSu×aSp×aSv×aSp×aSx)
abbrev tL3:yL Ty:=[yI,yI,yI,yI,ax,aSo,aSs,aSo,aSq,aSo,aSw]
abbrev tL4:yL Ty:=[yI,yI,yI,yI,yI,yI,ax,aSo,aSs,aSo,aSq,aSo,aSw]
def Wz(F:Nat)(s:(aSy×Int×Int)):yO ((aSy×Int×Int)⊕(Int⊕Unit)):=
 if(ah (s.2.2 < s.2.1))=af then
  (idx s.1 s.2.2).bind λa=>
  (AM F a).bind λb=>
  if b=af then
   ab (.inr (.inl s.2.2))
  else
  ab (.inl (s.1,s.2.1,wi (s.2.2+1)))
 else
 ab (.inr (.inr ()))
def Zk4:Lp:=⟨[(0,.v aSt),(1,.fn 124 []),(7,.v yI),(8,.v yI)],[],[aSt,yI,yI],[⟨.ret,[(4,.v yI)],[],[yI]⟩,⟨.exit 0,[],[],[]⟩],Zb (Wz yD) yD⟩
theorem Zqq:Zk4.aT yb 193 0:=Zm { still:=[4,15]} [] [ZxE] ⟨ZES,ao⟩
def PB(F:Nat)(a0:aSy):yO (Int):=
 (Zb (Wz F) F (a0,(a0.length:Int),0)).bind λa=>
 match a with
 |.inl b=>
  ab b
 |.inr c=>
  ab (-1)
def Zmx:Fs yb:=⟨193,[.v aSt,.fn 124 []],[],[aSt],(zP yI),λx=>PB yD x⟩
theorem Zu2:Zmx.Ok:=aF { still:=[4,15]} [(0,Zk4)] [] trivial ⟨Zqq,ao⟩
def AW(F:Nat)(a0:aSy):yO (Bool):=
 (PB F a0).bind λa=>
 ab (ah (a >= 0))
def Zu3:Fs yb:=⟨126,[.v aSt,.fn 124 []],[],[aSt],(zP .bool),λx=>AW yD x⟩
theorem ZB0:Zu3.Ok:=aF { still:=[4,5,6]} [] [Zmx] ⟨Zu2,ao⟩
abbrev tL5:yL Ty:=[yI,aSt,yI,yI,ax,ax,yI,.u64,aSK,aSn]
abbrev qZ:=Int×Tx×aSp×aSu×aSp×aSv
def QF(F:Nat)(s:(Int×Int×qZ)):yO ((Int×Int×qZ)⊕(qZ)):=
 if(ah (s.2.1 < s.1))=af then
  if(aS s.2.1 s.2.2.2.2.2.1.length)=af then
   (s.2.2.2.2.2.1[s.2.1.toNat]?).bind λa=>
   (kq F a.2.2.1).bind λb=>
   if(aS s.2.1 s.2.2.2.2.2.1.length)=af then
    (s.2.2.2.2.2.1[s.2.1.toNat]?).bind λc=>
    let d:aSu:=s.2.2.2.2.2.1.set s.2.1.toNat (c.1,(c.2.1,b,c.2.2.2))
    ab (.inl (s.1,wi (s.2.1+1),s.2.2.1,s.2.2.2.1,s.2.2.2.2.1,d,s.2.2.2.2.2.2.1,s.2.2.2.2.2.2.2))
   else
   ae
  else
  ae
 else
 ab (.inr (s.2.2.1,s.2.2.2.1,s.2.2.2.2.1,s.2.2.2.2.2.1,s.2.2.2.2.2.2.1,s.2.2.2.2.2.2.2))
abbrev zK:List bf:=[.var (.agg [.rw 2,.rw 3,.v yI]) af,.var (.v ax) af,.row bj af 131,.row Zw af 83]
def ZoH:Lp:=⟨[(1,.am 0 []),(2,.am 1 []),(17,.v yI),(18,.v yI)],zK,[yI,yI,yI,ax,aSo,aSs,aSo,aSq],[⟨.exit 0,[(1,.am 0 []),(2,.am 1 [])],zK,[yI,ax,aSo,aSs,aSo,aSq]⟩],Zb (QF yD) yD⟩
theorem ZtE:ZoH.aT yb 127 0:=Zm fr [] [qi] ⟨ub,ao⟩
def QG(F:Nat)(s:AV):yO (AV⊕dT2):=
 if(ah (s.2.2.2.2.1 < s.2.2.2.1))=af then
  if(aS s.2.2.2.2.1 s.2.2.2.2.2.2.2.2.2.2.2.2.length)=af then
   (s.2.2.2.2.2.2.2.2.2.2.2.2[s.2.2.2.2.1.toNat]?).bind λa=>
   (ZU F a.1).bind λb=>
   if(aS s.2.2.2.2.1 s.2.2.2.2.2.2.2.2.2.2.2.2.length)=af then
    (s.2.2.2.2.2.2.2.2.2.2.2.2[s.2.2.2.2.1.toNat]?).bind λc=>
    let d:aSx:=s.2.2.2.2.2.2.2.2.2.2.2.2.set s.2.2.2.2.1.toNat (b,c.2.1,c.2.2.1,c.2.2.2)
    ab (.inl (s.1,s.2.1,s.2.2.1,s.2.2.2.1,wi (s.2.2.2.2.1+1),s.2.2.2.2.2.1,s.2.2.2.2.2.2.1,s.2.2.2.2.2.2.2.1,s.2.2.2.2.2.2.2.2.1,s.2.2.2.2.2.2.2.2.2.1,s.2.2.2.2.2.2.2.2.2.2.1,s.2.2.2.2.2.2.2.2.2.2.2.1,d))
   else
   ae
  else
  ae
 else
 ab (.inr (s.1,s.2.1,s.2.2.1,s.2.2.2.2.2.1,s.2.2.2.2.2.2.1,s.2.2.2.2.2.2.2.1,s.2.2.2.2.2.2.2.2.1,s.2.2.2.2.2.2.2.2.2.1,s.2.2.2.2.2.2.2.2.2.2.1,s.2.2.2.2.2.2.2.2.2.2.2.1,s.2.2.2.2.2.2.2.2.2.2.2.2))
abbrev zH:List bf:=[.var (.agg [.rw 2,.rw 3,.v yI]) af,.var (.v ax) af,.row bj af 131,.row Zw af 83,.row Zg af 145]
def ZoI:Lp:=⟨[(1,.am 0 []),(2,.am 1 []),(4,.v yI),(5,.rw 4),(38,.v yI),(39,.v yI),(51,.v yI),(52,.v yI)],zH,tL4,[⟨.exit 4,[(1,.am 0 []),(2,.am 1 []),(4,.v yI),(5,.rw 4),(38,.v yI),(39,.v yI)],zH,tL3⟩],Zb (QG yD) yD⟩
theorem ZtF:ZoI.aT yb 127 2:=Zm fr [] [Z1] ⟨Z3,ao⟩
def QH(F:Nat)(s:(Int×Int×qZ)):yO ((Int×Int×qZ)⊕(qZ)):=
 if(ah (s.2.1 < s.1))=af then
  if(aS s.2.1 s.2.2.2.2.2.2.2.length)=af then
   (s.2.2.2.2.2.2.2[s.2.1.toNat]?).bind λa=>
   (XF F a.2).bind λb=>
   (Zb (QG F) F (s.2.1,s.1,s.2.1,(b.2.length:Int),0,s.2.2.1,s.2.2.2.1,s.2.2.2.2.1,s.2.2.2.2.2.1,s.2.2.2.2.2.2.1,s.2.2.2.2.2.2.2,b.1,b.2)).bind λc=>
   if(aS c.1 c.2.2.2.2.2.2.2.2.1.length)=af then
    (c.2.2.2.2.2.2.2.2.1[c.1.toNat]?).bind λd=>
    let e:aSv:=c.2.2.2.2.2.2.2.2.1.set c.1.toNat (d.1,c.2.2.2.2.2.2.2.2.2.2)
    ab (.inl (c.2.1,wi (c.2.2.1+1),c.2.2.2.1,c.2.2.2.2.1,c.2.2.2.2.2.1,c.2.2.2.2.2.2.1,c.2.2.2.2.2.2.2.1,e))
   else
   ae
  else
  ae
 else
 ab (.inr (s.2.2.1,s.2.2.2.1,s.2.2.2.2.1,s.2.2.2.2.2.1,s.2.2.2.2.2.2.1,s.2.2.2.2.2.2.2))
def ZoJ:Lp:=⟨[(1,.am 0 []),(2,.am 1 []),(38,.v yI),(39,.v yI)],zK,[yI,yI,yI,ax,aSo,aSs,aSo,aSq],[⟨.exit 2,[(1,.am 0 []),(2,.am 1 [])],zK,[yI,ax,aSo,aSs,aSo,aSq]⟩],Zb (QH yD) yD⟩
theorem ZtG:ZoJ.aT yb 127 1:=Zm fr [(2,ZoI)] [OZ] ⟨PA,ao⟩ ⟨ZtF,ao⟩
def uc(F:Nat)(a0:Tx):yO ((Int×aSp×aSu×aSp×aSv)):=
 (AR F a0.1).bind λa=>
 (AT F a0.2.1).bind λb=>
 (Zb (QF F) F ((a.2.length:Int),0,a0.2.2,([],[],0),a.1,a.2,b.1,b.2)).bind λc=>
 (Zb (QH F) F ((c.2.2.2.2.2.length:Int),0,c.1,c.2.1,c.2.2.1,c.2.2.2.1,c.2.2.2.2.1,c.2.2.2.2.2)).bind λd=>
 ab (d.1,d.2.2.1,d.2.2.2.1,d.2.2.2.2.1,d.2.2.2.2.2)
def Zqr:Fs yb:=⟨127,[.v ax],[],[ax],[⟨.ret,[(0,.agg [.rw 0,.rw 1,.v yI])],[.row bj af 131,.row Zw af 83],[yI,aSo,aSs,aSo,aSq]⟩],λx=>uc yD x⟩
theorem Zyc:Zqr.Ok:=aF fr [(0,ZoH),(1,ZoJ)] [ZsG,Zqo] ⟨Zqn,ZoG,ao⟩ ⟨ZtE,ZtG,ao⟩
abbrev qF:=Int×Tx×Tx×Int×yU×(yL dQ)×aSl
def qj(F:Nat)(s:(Int×aSy×Int×qF)):yO ((Int×aSy×Int×qF)⊕(qF)):=
 if(ah (s.2.2.2.1 < s.2.2.1))=af then
  (idx s.2.1 s.2.2.2.1).bind λa=>
  (Q7 F a s.2.2.2.2.2.2.2.2.2).bind λb=>
  if(bN s.2.2.2.2.2.2.2.2.1.length 1 16)=af then
   ab (.inl (s.1,s.2.1,s.2.2.1,wi (s.2.2.2.1+1),s.2.2.2.2.1,s.2.2.2.2.2.1,s.2.2.2.2.2.2.1,s.2.2.2.2.2.2.2.1,s.2.2.2.2.2.2.2.2.1++([b]:yL dQ),s.2.2.2.2.2.2.2.2.2))
  else
  ae
 else
 ab (.inr (s.1,s.2.2.2.2.1,s.2.2.2.2.2.1,s.2.2.2.2.2.2.1,s.2.2.2.2.2.2.2.1,s.2.2.2.2.2.2.2.2.1,s.2.2.2.2.2.2.2.2.2))
abbrev zN:List bf:=[.var (.v ax) af,.var (.v ax) af,.var (.agg [.v yI,.own 3 WV,.v .u64]) af,.log WV 63,.var (.v aSn) af]
def ZAO:Lp:=⟨[(1,.v yI),(5,.am 0 []),(10,.am 1 []),(13,.am 2 []),(14,.am 4 []),(52,.v aSt),(53,.v yI),(54,.v yI)],zN,tL5,[⟨.exit 0,[(1,.v yI),(5,.am 0 []),(10,.am 1 []),(13,.am 2 [])],zN,[yI,ax,ax,yI,.u64,aSK,aSn]⟩],Zb (qj yD) yD⟩
def ZUt:HI:={ own:=[59,64],still:=[11,20,35,45,46,50,60,61,67],bM:=[70],deep:=[45,52],eJ:=[(13,[([1],WV,63)])]}
theorem ZB1:ZAO.aT yb 57 0:=Zm ZUt [] [zC] ⟨zL,ao⟩
def ud(F:Nat)(a0:Tx)(a1:Int)(a2:Int)(a3:aSy)(a4:yU):yO ((Tx×Int)):=
 (bc F a0).bind λa=>
 if(!a)=af then
  ab (([],[],0),1)
 else
 if(ah (a1 < 0))=af then
  ab (([],[],0),1)
 else
 if(ah (a1 >= (a0.1.length:Int)))=af then
  ab (([],[],0),1)
 else
 (qb F (a2,[],a4)).bind λb=>
 if(!b)=af then
  ab (([],[],0),1)
 else
 if(ah ((a3.length:Int) > 12))=af then
  ab (([],[],0),1)
 else
 (AW F a3).bind λc=>
 if c=af then
  ab (([],[],0),1)
 else
 (jM F a0).bind λd=>
 (Zb (qj F) F (a1,a3,(a3.length:Int),0,a0,([],[],0),a2,a4,[],d)).bind λe=>
 (uc F e.2.1).bind λf=>
 if(aS e.1 f.2.2.1.length)=af then
  (f.2.2.1[e.1.toNat]?).bind λg=>
  let h:aSu:=f.2.2.1.set e.1.toNat (g.1,(e.2.2.2.1,e.2.2.2.2.2.1,e.2.2.2.2.1))
  ab ((h,f.2.2.2.2,f.1),0)
 else
 ae
def ZC8:Fs yb:=⟨57,[.v ax,.v yI,.v yI,.v aSt,.v .u64],[],[ax,yI,yI,aSt,.u64],[⟨.ret,[(0,.bi [.v ax,.v yI])],[],[ax,yI]⟩],λx=>ud yD x.1 x.2.1 x.2.2.1 x.2.2.2.1 x.2.2.2.2⟩
theorem ZI5:ZC8.Ok:=xn (fi:={ hi:=ZUt,lp:=[(0,ZAO)]}) (aB:={ l:=[oB,OJ,Zu3,tY,Zqr]}) (iw ⟨qe,ZsA,ZB0,tZ,Zyc,ao⟩) ⟨ZB1,ao⟩
abbrev dT3:Type:=(Int×aSA×aSE×Int×aSA×Int×Int×aj×Tx×ZG×Tx×Int×aSu×aSv)
def Vj(F:Nat):dT3->yO (dT3⊕(Int×aSA×Int×aj×Tx×ZG×Tx×Int×aSu×aSv))
 |(g,h,e,i,c,b,a,j,d,k,l,m,f,n)=>
 if(ah (a < b))=af then
  (idx c a).bind λo=>
  (idx d.2.1 o).bind λp=>
  (idx e o).bind λq=>
  if(bN f.length 1 80)=af then
   let r:aSu:=f++([(q,(0,[],0))]:yL In)
   ab (.inl (g,h,e,wi (i+p.1),c,b,wi (a+1),j,d,k,l,m,r,n))
  else
  ae
 else
 ab (.inr (g,h,i,j,d,k,l,m,f,n))
def AX:yL bf:=[.var (.v Zc) af,.var (.v ax) af,.var (.v Zk) af,.var (.v ax) af,.var (.agg [.own 5 bj,.own 6 Zw,.v yI]) af,.log bj 131,.log Zw 83]
abbrev tL6:yL Ty:=[yI,aSz,yI,Zc,ax,Zk,ax,yI,aSs,aSq]
abbrev tL7:yL Ty:=[yI,aSz,aSC,yI,aSz,yI,yI,Zc,ax,Zk,ax,yI,aSs,aSq]
def ZoK:Lp:=⟨[(3,.v yI),(4,.am 0 []),(5,.am 1 []),(6,.am 2 []),(8,.am 3 []),(10,.v aSz),(11,.v aSC),(12,.v yI),(13,.am 4 []),(34,.v aSz),(35,.v yI),(36,.v yI)],AX,tL7,[⟨.exit 0,[(3,.v yI),(4,.am 0 []),(6,.am 2 []),(8,.am 3 []),(10,.v aSz),(12,.v yI),(13,.am 4 [])],AX,tL6⟩],Zb (Vj yD) yD⟩
def PC:HI:={ own:=[49,56],still:=[9,17,25,26,32,76,77,81],bP:=[(13,[([0],bj,131),([1],Zw,83)])]}
theorem ZtH:ZoK.aT yb 14 0:=Zm PC [] [] trivial
abbrev qD:=aj×Tx×ZG×Tx×Tx×aSu×aSv
def Vk(F:Nat):(Int×Int×qD)->yO ((Int×Int×qD)⊕(qD))
 |(b,a,d,e,f,g,c,h,i)=>
 if(ah (a < b))=af then
  (ud F c a 0 [d.2.1.2.1] 0).bind λj=>
  ab (.inl (b,wi (a+1),d,e,f,g,j.1,h,i))
 else
 ab (.inr (d,e,f,g,c,h,i))
abbrev zT:List bf:=[.var (.v Zc) af,.var (.v ax) af,.var (.v Zk) af,.var (.v ax) af,.var (.v ax) af,.log bj 131,.log Zw 83]
def ZoL:Lp:=⟨[(4,.am 0 []),(8,.am 3 []),(13,.am 4 []),(71,.v yI),(72,.v yI)],zT,[yI,yI,Zc,ax,Zk,ax,ax,aSs,aSq],[⟨.exit 2,[(8,.am 3 []),(13,.am 4 [])],zT,[Zc,ax,Zk,ax,ax,aSs,aSq]⟩],Zb (Vk yD) yD⟩
theorem ZtI:ZoL.aT yb 14 1:=Zm PC [] [ZC8] ⟨ZI5,ao⟩
def AY(F:Nat)(a0:aj)(a1:Tx)(a2:ZG)(a3:Int):yO ((Tx×Int)):=
 (Wd F a2).bind λl=>
 if(!l)=af then
  ab (([],[],0),1)
 else
 if(ah (a3 < 0))=af then
  ab (([],[],0),1)
 else
 (qg F a0 a1).bind λm=>
 if((m.length:Int)==0)=af then
  ab (([],[],0),5)
 else
 (qh F a1).bind λn=>
 (Zb (Vj F) F (a3,m,n,0,m,(m.length:Int),0,a0,a1,a2,([],[],0),0,[],[])).bind λ(c,d,b,e,f,g,h,j,i,k)=>
 if(ah (b < c))=af then
  ab (([],[],0),8)
 else
 (Zb (Vk F) F ((d.length:Int),0,e,f,g,h,(i,[(wi (b - c),g)],j),i,k)).bind λ(_,_,_,_,a,_,_)=>
 ab (a,0)
def PD(F:Nat):Fs yb:=⟨14,[.v Zc,.v ax,.v Zk,.v yI],[],[Zc,ax,Zk,yI],[⟨.ret,[(0,.bi [.v ax,.v yI])],[],[ax,yI]⟩],λx=>AY F x.1 x.2.1 x.2.2.1 x.2.2.2⟩
def Zqt:Fs yb:=PD yD
theorem ZoM:Zqt.Ok:=pI (fi:={ hi:=PC,lp:=[(0,ZoK),(1,ZoL)],gh:=[(22,.flat 13)]}) (aB:={ l:=[Q9,OS,AL]}) (iw ⟨Qi,ZoE,OY,ao⟩) ⟨ZtH,ZtI,ao⟩
def ZRQ:ByteArray:=⟨#[107,105,116]⟩
def Zu4(F:Nat)(s:(Int×aSl×dV×aSy)):yO ((Int×aSl×dV×aSy)⊕(aSl×dV×aSy)):=
 if(ah (s.1 < 5))=af then
  (Ww F ZRQ [s.2.1,[w8 (wi (s.1+1))]]).bind λa=>
  (Vc F a).bind λb=>
  if(aS s.1 5)=af then
   (s.2.2.2[s.1.toNat]?).bind λc=>
   ab (.inl (wi (s.1+1),s.2.1,s.2.2.1,s.2.2.2.set s.1.toNat b))
  else
  ae
 else
 ab (.inr (s.2.1,s.2.2.1,s.2.2.2))
def ZxH:Lp:=⟨[(1,.am 0 []),(2,.am 1 []),(3,.am 2 []),(5,.v yI)],[.var (.v aSn) ag,.var (.v fN) af,.var (.v (.arr 5 .u64)) af],[yI,aSn,fN,(.arr 5 .u64)],[⟨.exit 0,[(1,.am 0 []),(2,.am 1 []),(3,.am 2 [])],[.var (.v aSn) ag,.var (.v fN) af,.var (.v (.arr 5 .u64)) af],[aSn,fN,(.arr 5 .u64)]⟩],Zb (Zu4 yD) yD⟩
def ZUu:HI:={ still:=[14,15,31],cK:=[9,29]}
theorem ZAP:ZxH.aT yb 79 0:=Zm ZUu [] [Vs,pY] ⟨Vb,tR,ao⟩
def ue(F:Nat)(a0:aSl):yO (dV):=
 (Zb (Zu4 F) F (0,a0,(0,0,0,0,0,ct),[0,0,0,0,0])).bind λa=>
 (a.2.2[0]?).bind λb=>
 (a.2.2[1]?).bind λc=>
 (a.2.2[2]?).bind λd=>
 (a.2.2[3]?).bind λe=>
 (a.2.2[4]?).bind λf=>
 (Ww F ZRQ [a.1,[6]]).bind λg=>
 ab (b,c,d,e,f,g)
def AZ(F:Nat):Fs yb:=⟨79,[.v aSn],[],[aSn],(zP fN),λx=>ue F x⟩
def ZI6:Fs yb:=AZ yD
theorem ZG9:ZI6.Ok:=aF ZUu [(0,ZxH)] [Vs] ⟨Vb,ao⟩ ⟨ZAP,ao⟩
def Zk7(F:Nat):(Int×Int×Int×Int×aSl×aSl)->yO ((Int×Int×Int×Int×aSl×aSl)⊕(aSl×aSl))
 |(c,d,b,a,e,f)=>
 if(ah (a < b))=af then
  if(ah (0<=wi ((wi (c - 1)) - a)))=af then
   let g:Int:=Int.fdiv d (2 ^ (min (wi ((wi (c - 1)) - a)).toNat 64))
   if((bits .and .i64 g 1)==1)=af then
    let h:Int:=wi (Int.tdiv (wi ((wi (c - 1)) - a)) 8)
    if(aS h 32)=af then
     (e[h.toNat]?).bind λi=>
     if(ah (0<=Int.tmod (wi ((wi (c - 1)) - a)) 8))=af then
      let j:yB:=wb 1 (min (Int.tmod (wi ((wi (c - 1)) - a)) 8).toNat 8)
      if(aS h 32)=af then
       (e[h.toNat]?).bind λk=>
       (ow F (((e.set h.toNat (i^^^j)).drop 0).take 32)).bind λl=>
       ab (.inl (c,d,b,wi (a+1),l,f))
      else
      ae
     else
     ae
    else
    ae
   else
   ab (.inl (c,d,b,wi (a+1),e,f))
  else
  ae
 else
 ab (.inr (e,f))
abbrev qX:List bf:=[.var (.v aSn) af,.var (.v aSn) af]
def Zmz:Lp:=⟨[(1,.v yI),(2,.v yI),(3,.am 0 []),(6,.am 1 []),(8,.v yI),(9,.v yI)],qX,[yI,yI,yI,yI,aSn,aSn],[⟨.exit 0,[(3,.am 0 []),(6,.am 1 [])],qX,[aSn,aSn]⟩],Zb (Zk7 yD) yD⟩
theorem ZrU:Zmz.aT yb 207 0:=Zm { still:=[30]} [] [NB] ⟨Zxn,ao⟩
def Zqu(F:Nat)(a0:aSl)(a1:Int)(a2:Int):yO (aSl):=
 (Zb (Zk7 F) F (a1,a2,a1,0,a0,ct)).bind λa=>
 ab a.1
def ZoN:Fs yb:=⟨207,[.v aSn,.v yI,.v yI],[],[aSn,yI,yI],(zP aSn),λx=>Zqu yD x.1 x.2.1 x.2.2⟩
theorem Zwp:ZoN.Ok:=aF { still:=[30]} [(0,Zmz)] [] trivial ⟨ZrU,ao⟩
def ZmA(F:Nat)(a0:Int):yO (Int):=
 ab (wi (1048575 - a0))
def Zk8:Fs yb:=⟨208,[.v yI],[],[yI],(zP yI),λx=>ZmA yD x⟩
theorem ZtJ:Zk8.Ok:=aF { still:=[2]} [] [] trivial
def ZmB(F:Nat)(a0:aSl)(a1:Int):yO ((aSl×Bool)):=
 if(ah (a1 < 0))=af then
  ab (ct,ag)
 else
 if(ah (a1 >= 1048576))=af then
  ab (ct,ag)
 else
 (ZmA F a1).bind λa=>
 (Zqu F a0 20 a).bind λb=>
 ab (b,af)
def Zk9:Fs yb:=⟨144,[.v aSn,.v yI],[],[aSn,yI],[⟨.ret,[(0,.bi [.v aSn,.v .bool])],[],[aSn,.bool]⟩],λx=>ZmB yD x.1 x.2⟩
theorem ZtK:Zk9.Ok:=aF { still:=[5,13,14,15]} [] [Zk8,ZoN] ⟨ZtJ,Zwp,ao⟩
def ZxI(F:Nat)(a0:aSl):yO (yU):=
 (Vc F a0).bind λa=>
 (Xb F a).bind λb=>
 ab b
def Zu5:Fs yb:=⟨145,[.v aSn],[],[aSn],(zP .u64),λx=>ZxI yD x⟩
theorem ZB2:Zu5.Ok:=aF { still:=[2,3,4]} [] [pY,Q3] ⟨tR,Qg,ao⟩
def oC(F:Nat)(a0:dV)(a1:Int):yO ((yU×Bool)):=
 (ZmB F a0.2.2.2.2.2 a1).bind λa=>
 if(!a.2)=af then
  ab (0,ag)
 else
 (ZxI F a.1).bind λb=>
 ab (b,af)
def BA(F:Nat):Fs yb:=⟨80,[.v fN,.v yI],[],[fN,yI],[⟨.ret,[(0,.bi [.v .u64,.v .bool])],[],[.u64,.bool]⟩],λx=>oC F x.1 x.2⟩
def ZI7:Fs yb:=BA yD
theorem ZHa:ZI7.Ok:=aF { still:=[4,5,10,11,17]} [] [Zk9,Zu5] ⟨ZtK,ZB2,ao⟩
def Zu6(F:Nat)(a0:Int):yO (Bool):=
 if(a0==0)=af then
  ab af
 else
 ab (a0==1)
def ZsH:Fs yb:=⟨146,[.v yI],[],[yI],(zP .bool),λx=>Zu6 yD x⟩
theorem ZAQ:ZsH.Ok:=aF { still:=[2]} [] [] trivial
def PE(F:Nat)(a0:Int)(s0:Int)(s1:Int):yO ((Bool×Int×Int)):=
 if(ah (a0 < s0))=af then
  ab (af,s0,s1)
 else
 ab (ah (a0 > s1),s0,s1)
def ZmC:Fs yb:=⟨241,[.v yI,.am 0 [],.am 1 []],[.var (.v yI) af,.var (.v yI) af],[yI,yI,yI],[⟨.ret,[(0,.v .bool)],[.var (.v yI) af,.var (.v yI) af],[.bool,yI,yI]⟩],λx=>PE yD x.1 x.2.1 x.2.2⟩
theorem Zu7:ZmC.Ok:=aF { still:=[4]} [] [] trivial
def YK(F:Nat)(s:(aSA×Int×Int×Int×Int)):yO ((aSA×Int×Int×Int×Int)⊕((Int×Int×Int)⊕(Int×Int))):=
 if(ah (s.2.2.1 < s.2.1))=af then
  (idx s.1 s.2.2.1).bind λa=>
  (PE F a s.2.2.2.1 s.2.2.2.2).bind λb=>
  if b.1=af then
   ab (.inr (.inl (s.2.2.1,b.2.1,b.2.2)))
  else
  ab (.inl (s.1,s.2.1,wi (s.2.2.1+1),b.2.1,b.2.2))
 else
 ab (.inr (.inr (s.2.2.2.1,s.2.2.2.2)))
def QI:Lp:=⟨[(0,.v aSz),(1,.fn 241 [.am 0 [],.am 1 []]),(7,.v yI),(8,.v yI)],[.var (.v yI) af,.var (.v yI) af],[aSz,yI,yI,yI,yI],[⟨.ret,[(4,.v yI)],[.var (.v yI) af,.var (.v yI) af],[yI,yI,yI]⟩,⟨.exit 0,[],[.var (.v yI) af,.var (.v yI) af],[yI,yI]⟩],Zb (YK yD) yD⟩
theorem Zdi:QI.aT yb 203 0:=Zm { still:=[4,15]} [] [ZmC] ⟨Zu7,ao⟩
def WW(F:Nat)(a0:aSA)(s0:Int)(s1:Int):yO ((Int×Int×Int)):=
 (Zb (YK F) F (a0,(a0.length:Int),0,s0,s1)).bind λa=>
 match a with
 |.inl b=>
  ab (b.1,b.2.1,b.2.2)
 |.inr c=>
  ab ((-1),c.1,c.2)
def QU:Fs yb:=⟨203,[.v aSz,.fn 241 [.am 0 [],.am 1 []]],[.var (.v yI) af,.var (.v yI) af],[aSz,yI,yI],[⟨.ret,[(0,.v yI)],[.var (.v yI) af,.var (.v yI) af],[yI,yI,yI]⟩],λx=>WW yD x.1 x.2.1 x.2.2⟩
theorem Zfn:QU.Ok:=aF { still:=[4,15]} [(0,QI)] [] trivial ⟨Zdi,ao⟩
def We(F:Nat)(a0:aSA)(s0:Int)(s1:Int):yO ((Bool×Int×Int)):=
 (WW F a0 s0 s1).bind λa=>
 ab (ah (a.1 >= 0),a.2.1,a.2.2)
def V2:Fs yb:=⟨134,[.v aSz,.fn 241 [.am 0 [],.am 1 []]],[.var (.v yI) af,.var (.v yI) af],[aSz,yI,yI],[⟨.ret,[(0,.v .bool)],[.var (.v yI) af,.var (.v yI) af],[.bool,yI,yI]⟩],λx=>We yD x.1 x.2.1 x.2.2⟩
theorem Zdj:V2.Ok:=aF { still:=[4,5,6]} [] [QU] ⟨Zfn,ao⟩
def Xp(F:Nat)(a0:Int)(a1:Int)(a2:aSA):yO (Bool):=
 (We F a2 a0 a1).bind λa=>
 ab (!a.1)
def PF:Fs yb:=⟨209,[.v yI,.v yI,.v aSz],[],[yI,yI,aSz],(zP .bool),λx=>Xp yD x.1 x.2.1 x.2.2⟩
theorem ZoO:PF.Ok:=aF { still:=[6,7,8]} [] [V2] ⟨Zdj,ao⟩
def ZxJ(F:Nat)(a0:Cond):yO (Bool):=
 (Xp F 0 1 [a0.1]).bind λa=>
 if a=af then
  (Xp F 1 1048576 [a0.2.1]).bind λb=>
  if b=af then
   (Xp F 1 1125899906842624 [a0.2.2.1]).bind λc=>
   if c=af then
    (Xp F 1 1048576 [a0.2.2.2.2]).bind λd=>
    if d=af then
     (XX F a0.2.2.2.1).bind λe=>
     if e=af then
      ab (a0.2.2.2.1 !=1)
     else
     ab ag
    else
    ab ag
   else
   ab ag
  else
  ab ag
 else
 ab ag
def Zu8:Fs yb:=⟨210,[.v QC],[],[QC],(zP .bool),λx=>ZxJ yD x⟩
theorem ZB3:Zu8.Ok:=aF { still:=[2,5,10,16,22,27]} [] [PF,Qf] ⟨ZoO,Vq,ao⟩
def Zqv(F:Nat)(s:(Int×aSA×Int×Int)):yO ((Int×aSA×Int×Int)⊕(Int⊕Int)):=
 if(ah (s.2.2.2 < s.2.2.1))=af then
  (idx s.2.1 s.2.2.2).bind λa=>
  if(a !=s.1)=af then
   ab (.inr (.inl a))
  else
  ab (.inl (s.1,s.2.1,s.2.2.1,wi (s.2.2.2+1)))
 else
 ab (.inr (.inr s.1))
def ZsI:Lp:=⟨[(3,.v yI),(6,.v aSz),(7,.v yI),(8,.v yI)],[],[yI,aSz,yI,yI],[⟨.ret,[(2,.v yI)],[],[yI]⟩,⟨.exit 0,[(3,.v yI)],[],[yI]⟩],Zb (Zqv yD) yD⟩
theorem Zwq:ZsI.aT yb 159 0:=Zm { still:=[2]} [] [] trivial
def PG(F:Nat)(a0:aSA):yO (Int):=
 (Zb (Zqv F) F (0,a0,(a0.length:Int),0)).bind λa=>
 match a with
 |.inl b=>
  ab b
 |.inr c=>
  ab c
def PH:Fs yb:=⟨159,[.v aSz],[],[aSz],(zP yI),λx=>PG yD x⟩
theorem ZsJ:PH.Ok:=aF { still:=[2]} [(0,ZsI)] [] trivial ⟨Zwq,ao⟩
def PI(F:Nat)(a0:Int):yO (Bool):=
 ab (a0 !=a0)
def ZoP:Fs yb:=⟨218,[.v yI],[],[yI],(zP .bool),λx=>PI yD x⟩
theorem Zwr:ZoP.Ok:=aF { still:=[2]} [] [] trivial
def WA(F:Nat)(a0:Int)(a1:Int):yO (Int):=
 (PI F a0).bind λa=>
 (PI F a1).bind λb=>
 if a=af then
  if b=af then
   ab 0
  else
  ab (-1)
 else
 if b=af then
  ab 1
 else
 if(ah (a0 < a1))=af then
  ab (-1)
 else
 if(ah (a0 > a1))=af then
  ab 1
 else
 ab 0
def PJ:Fs yb:=⟨160,[.v yI,.v yI],[],[yI,yI],(zP yI),λx=>WA yD x.1 x.2⟩
theorem Zjt:PJ.Ok:=aF { still:=[4,7,9]} [] [ZoP] ⟨Zwr,ao⟩
def Zu9(F:Nat)(a0:Cond)(a1:Cond):yO (Int):=
 (WA F a0.1 a1.1).bind λa=>
 (WA F a0.2.1 a1.2.1).bind λb=>
 (PG F [a,b]).bind λc=>
 ab c
def ZsK:Fs yb:=⟨211,[.v QC,.v QC],[],[QC,QC],(zP yI),λx=>Zu9 yD x.1 x.2⟩
theorem ZAR:ZsK.Ok:=aF { still:=[4,6,8,11,13,15]} [] [PJ,PH] ⟨Zjt,ZsJ,ao⟩
abbrev _root_.aSI:Go.Ev.Ty:=.sl QC
abbrev Z7:Ty:=(.st [yI,(.arr 2 yI),aSI,yI])
abbrev _root_.aSJ:=yL Cond
abbrev Qk:Type:=(Int×aSA×aSJ×Int)
def Zlb(F:Nat):(Int×Int×Int×aSJ×Int×Int×Qk)->yO ((Int×Int×Int×aSJ×Int×Int×Qk)⊕(Int×Int×Qk))
 |(d,e,f,c,b,a,g)=>
 if(ah (a < b))=af then
  (idx c a).bind λh=>
  if(h.1==(wi (1 - d)))=af then
   ab (.inl (d,wi (e+1),wi (f+h.2.2.1),c,b,wi (a+1),g))
  else
  ab (.inl (d,e,f,c,b,wi (a+1),g))
 else
 ab (.inr (e,f,g))
def ZmD:Lp:=⟨[(1,.v yI),(6,.v yI),(7,.v yI),(11,.v aSI),(12,.v yI),(13,.v yI)],[.var (.v Z7) af],[yI,yI,yI,aSI,yI,yI,Z7],[⟨.exit 0,[(6,.v yI),(7,.v yI)],[.var (.v Z7) af],[yI,yI,Z7]⟩],Zb (Zlb yD) yD⟩
theorem ZrV:ZmD.aT yb 212 0:=Zm { still:=[4,5]} [] [] trivial
def Zqx(F:Nat)(a0:Qk)(a1:Int):yO ((Int×Int)):=
 (Zb (Zlb F) F (a1,0,0,a0.2.2.1,(a0.2.2.1.length:Int),0,a0)).bind λa=>
 ab (a.1,a.2.1)
def ZoQ:Fs yb:=⟨212,[.v Z7,.v yI],[],[Z7,yI],[⟨.ret,[(0,.bi [.v yI,.v yI])],[],[yI,yI]⟩],λx=>Zqx yD x.1 x.2⟩
theorem Zws:ZoQ.Ok:=aF { still:=[4,5]} [(0,ZmD)] [] trivial ⟨ZrV,ao⟩
def ZoR(F:Nat):(Int×aSJ×Int×Int×Qk)->yO ((Int×aSJ×Int×Int×Qk)⊕(Int×Qk))
 |(d,c,b,a,e)=>
 if(ah (a < b))=af then
  (idx c a).bind λf=>
  ab (.inl (wi (d+f.2.2.1),c,b,wi (a+1),e))
 else
 ab (.inr (d,e))
def Zqy:Lp:=⟨[(3,.v yI),(14,.v aSI),(15,.v yI),(16,.v yI)],[.var (.v Z7) af],[yI,aSI,yI,yI,Z7],[⟨.exit 0,[(3,.v yI)],[.var (.v Z7) af],[yI,Z7]⟩],Zb (ZoR yD) yD⟩
theorem Zva:Zqy.aT yb 213 0:=Zm { still:=[2]} [] [] trivial
def Zvb(F:Nat)(a0:Qk):yO (Int):=
 (a0.2.1[0]?).bind λa=>
 (a0.2.1[1]?).bind λb=>
 (Zb (ZoR F) F (wi (a+b),a0.2.2.1,(a0.2.2.1.length:Int),0,a0)).bind λc=>
 ab c.1
def ZsL:Fs yb:=⟨213,[.v Z7],[],[Z7],(zP yI),λx=>Zvb yD x⟩
theorem ZAS:ZsL.Ok:=aF { still:=[2]} [(0,Zqy)] [] trivial ⟨Zva,ao⟩
def ZsM(F:Nat)(a0:Int):yO (Int):=
 if(ah (a0 < 0))=af then
  ab 0
 else
 if(ah (a0 > 16))=af then
  ab 0
 else
 ab (wi (68+(wi (8*a0))))
def Zqz:Fs yb:=⟨243,[.v yI],[],[yI],(zP yI),λx=>ZsM yD x⟩
theorem Zyd:Zqz.Ok:=aF { still:=[2]} [] [] trivial
def BB(F:Nat)(a0:Int)(a1:Int):yO (Int):=
 if(ah (a0 < 0))=af then
  ab 0
 else
 if(ah (a0 > 1000))=af then
  ab 0
 else
 (ZsM F a1).bind λa=>
 ab (wi (a0*a))
def BC:Fs yb:=⟨216,[.v yI,.v yI],[],[yI,yI],(zP yI),λx=>BB yD x.1 x.2⟩
theorem PK:BC.Ok:=aF { still:=[4,12]} [] [Zqz] ⟨Zyd,ao⟩
def ZxK(F:Nat)(a0:Chan)(a1:Qk):yO (Int):=
 (BB F a1.2.2.2 (a1.2.2.1.length:Int)).bind λa=>
 ab (wi (a+660))
def Zvc:Fs yb:=⟨214,[.v Z0,.v Z7],[],[Z0,Z7],(zP yI),λx=>ZxK yD x.1 x.2⟩
theorem ZB4:Zvc.Ok:=aF { still:=[4,6,9]} [] [BC] ⟨PK,ao⟩
def ZoS(F:Nat):(aSJ×Int×Int×Chan×Qk)->yO ((aSJ×Int×Int×Chan×Qk)⊕((Bool×Chan×Qk)⊕(Chan×Qk)))
 |(c,b,a,d,e)=>
 if(ah (a < b))=af then
  (idx c a).bind λf=>
  (ZxJ F f).bind λg=>
  if(!g)=af then
   ab (.inr (.inl (ag,d,e)))
  else
  if(aS (wi (1 - f.1)) 2)=af then
   (d.2.2.2.1[(wi (1 - f.1)).toNat]?).bind λh=>
   if(ah (f.2.2.1 < h.2.2.2.2.1))=af then
    ab (.inr (.inl (ag,d,e)))
   else
   if(ah (a > 0))=af then
    (idx e.2.2.1 (wi (a - 1))).bind λi=>
    (Zu9 F i f).bind λj=>
    if(ah (j >= 0))=af then
     ab (.inr (.inl (ag,d,e)))
    else
    ab (.inl (c,b,wi (a+1),d,e))
   else
   ab (.inl (c,b,wi (a+1),d,e))
  else
  ae
 else
 ab (.inr (.inr (d,e)))
def ZqA:Lp:=⟨[(2,.am 0 []),(3,.am 1 []),(46,.v aSI),(47,.v yI),(48,.v yI)],[.var (.v Z0) af,.var (.v Z7) af],[aSI,yI,yI,Z0,Z7],[⟨.ret,[(4,.v .bool)],[.var (.v Z0) af,.var (.v Z7) af],[.bool,Z0,Z7]⟩,⟨.exit 0,[(2,.am 0 []),(3,.am 1 [])],[.var (.v Z0) af,.var (.v Z7) af],[Z0,Z7]⟩],Zb (ZoS yD) yD⟩
def PL:HI:={ still:=[4,11,17,28,35,53,77,78,91,92,107,118,119]}
theorem Zvd:ZqA.aT yb 147 0:=Zm PL [] [Zu8,ZsK] ⟨ZB3,ZAR,ao⟩
def ZoT(F:Nat)(s:((yL aX)×Int×Chan×Qk)):yO (((yL aX)×Int×Chan×Qk)⊕((Bool×Chan×Qk)⊕(Chan×Qk))):=
 if(ah (s.2.1 < 2))=af then
  (idx s.1 s.2.1).bind λa=>
  (Zqx F s.2.2.2 s.2.1).bind λb=>
  if(ah (b.1 > a.2.2.2.1))=af then
   ab (.inr (.inl (ag,s.2.2.1,s.2.2.2)))
  else
  if(ah (b.2 > a.2.2.2.2.2))=af then
   ab (.inr (.inl (ag,s.2.2.1,s.2.2.2)))
  else
  ab (.inl (s.1,wi (s.2.1+1),s.2.2.1,s.2.2.2))
 else
 ab (.inr (.inr (s.2.2.1,s.2.2.2)))
def ZqB:Lp:=⟨[(2,.am 0 []),(3,.am 1 []),(85,.v (.arr 2 ib)),(86,.v yI)],[.var (.v Z0) af,.var (.v Z7) af],[(.arr 2 ib),yI,Z0,Z7],[⟨.ret,[(4,.v .bool)],[.var (.v Z0) af,.var (.v Z7) af],[.bool,Z0,Z7]⟩,⟨.exit 2,[(2,.am 0 []),(3,.am 1 [])],[.var (.v Z0) af,.var (.v Z7) af],[Z0,Z7]⟩],Zb (ZoT yD) yD⟩
theorem Zve:ZqB.aT yb 147 1:=Zm PL [] [ZoQ] ⟨Zws,ao⟩
def Zvf(F:Nat)(a0:Chan)(a1:Qk):yO (Bool):=
 (mH F a0).bind λa=>
 if(a !=0)=af then
  ab ag
 else
 (Xp F 0 1048576 [a1.1]).bind λb=>
 if(!b)=af then
  ab ag
 else
 (a1.2.1[0]?).bind λc=>
 (a1.2.1[1]?).bind λd=>
 (Xp F 0 1125899906842624 [c,d]).bind λe=>
 if(!e)=af then
  ab ag
 else
 (Xp F 0 1000 [a1.2.2.2]).bind λf=>
 if(!f)=af then
  ab ag
 else
 if(ah ((a1.2.2.1.length:Int) > 16))=af then
  ab ag
 else
 (Zb (ZoS F) F (a1.2.2.1,(a1.2.2.1.length:Int),0,a0,a1)).bind λg=>
 match g with
 |.inl h=>
  ab h.1
 |.inr i=>
  (Zb (ZoT F) F (i.1.2.2.2.1,0,i.1,i.2)).bind λj=>
  match j with
  |.inl k=>
   ab k.1
  |.inr l=>
   (Zvb F l.2).bind λm=>
   if(m==l.1.2.1)=af then
    if(aS l.1.2.2.2.2 2)=af then
     (l.2.2.1[l.1.2.2.2.2.toNat]?).bind λn=>
     (ZxK F l.1 l.2).bind λo=>
     ab (ah (n >= o))
    else
    ae
   else
   ab ag
def PM(F:Nat):Fs yb:=⟨147,[.v Z0,.v Z7],[],[Z0,Z7],(zP .bool),λx=>Zvf F x.1 x.2⟩
def ZsN:Fs yb:=PM yD
theorem ZqC:ZsN.Ok:=aF PL [(0,ZqA),(1,ZqB)] [LY,PF,ZsL,Zvc] ⟨LZ,ZoO,ZAS,ZB4,ao⟩ ⟨Zvd,Zve,ao⟩
def ZqD(F:Nat)(s:(yU×Int×aSl)):yO ((yU×Int×aSl)⊕aSl):=
 if(ah (s.2.1 < 8))=af then
  if(ah (0<=wi (56 - (wi (8*s.2.1)))))=af then
   let a:yU:=ZJ s.1 (min (wi (56 - (wi (8*s.2.1)))).toNat 64)
   if(aS s.2.1 8)=af then
    (s.2.2[s.2.1.toNat]?).bind λb=>
    ab (.inl (s.1,wi (s.2.1+1),s.2.2.set s.2.1.toNat (w8 (a.toNat:Int))))
   else
   ae
  else
  ae
 else
 ab (.inr s.2.2)
def ZsO:Lp:=⟨[(0,.v .u64),(3,.am 0 []),(5,.v yI)],[.var (.v aSH) af],[.u64,yI,aSH],[⟨.exit 0,[(3,.am 0 [])],[.var (.v aSH) af],[aSH]⟩],Zb (ZqD yD) yD⟩
theorem Zwt:ZsO.aT yb 242 0:=Zm { still:=[2]} [] [] trivial
def ZxL(F:Nat)(a0:yU):yO (aSl):=
 (Zb (ZqD F) F (a0,0,[0,0,0,0,0,0,0,0])).bind λa=>
 ab ((a.drop 0).take 8)
def Zvg:Fs yb:=⟨242,[.v .u64],[],[.u64],(zP aSm),λx=>ZxL yD x⟩
theorem ZB5:Zvg.Ok:=aF { still:=[2]} [(0,ZsO)] [] trivial ⟨Zwt,ao⟩
def ZoU(F:Nat)(s:(ByteArray×aSy×Int×Int×aSM)):yO ((ByteArray×aSy×Int×Int×aSM)⊕(ByteArray×aSM)):=
 if(ah (s.2.2.2.1 < s.2.2.1))=af then
  (idx s.2.1 s.2.2.2.1).bind λa=>
  (ZxL F a).bind λb=>
  if(bN s.2.2.2.2.length 1 24)=af then
   ab (.inl (s.1,s.2.1,s.2.2.1,wi (s.2.2.2.1+1),s.2.2.2.2++([b]:yL aSl)))
  else
  ae
 else
 ab (.inr (s.1,s.2.2.2.2))
def ZqE:Lp:=⟨[(0,.v .str),(5,.own 0 aSm),(8,.v aSt),(9,.v yI),(10,.v yI)],[.log aSm 41],[.str,aSt,yI,yI,aSL],[⟨.exit 0,[(0,.v .str),(5,.own 0 aSm)],[.log aSm 41],[.str,aSL]⟩],Zb (ZoU yD) yD⟩
def ZUv:HI:={ own:=[5,14,18],still:=[4,15,20,21,22]}
theorem Zvh:ZqE.aT yb 215 0:=Zm ZUv [] [Zvg] ⟨ZB5,ao⟩
def BD(F:Nat)(a0:ByteArray)(a1:aSy):yO (yU):=
 (Zb (ZoU F) F (a0,a1,(a1.length:Int),0,[])).bind λa=>
 (Ww F a.1 a.2).bind λb=>
 (Vc F b).bind λc=>
 ab c
def PN:Fs yb:=⟨215,[.v .str,.v aSt],[],[.str,aSt],(zP .u64),λx=>BD yD x.1 x.2⟩
theorem ZqF:PN.Ok:=aF ZUv [(0,ZqE)] [Vs,pY] ⟨Vb,tR,ao⟩ ⟨Zvh,ao⟩
def ZOO:ByteArray:=⟨#[114,101,118,111,107,101]⟩
def Zvi(F:Nat)(a0:yU)(a1:yU):yO (yU):=
 (BD F ZOO [a0,a1]).bind λa=>
 (Q2 F a0 a).bind λb=>
 (BD F ZOO [a1,a0]).bind λc=>
 (Q2 F a1 c).bind λd=>
 (pX F b d).bind λe=>
 ab e
def ZsP:Fs yb:=⟨148,[.v .u64,.v .u64],[],[.u64,.u64],(zP .u64),λx=>Zvi yD x.1 x.2⟩
def ZU9:HI:={ still:=[4,5,8,9,10,11,14,15,16]}
theorem ZAT:ZsP.Ok:=aF ZU9 [] [PN,xH,zu] ⟨ZqF,MD,NX,ao⟩
def ZTf:ByteArray:=⟨#[109,105,120]⟩
def BE(F:Nat)(a0:yU)(a1:yU):yO (yU):=
 (BD F ZTf [a1,a0]).bind λa=>
 (Xb F a).bind λb=>
 (pX F a0 b).bind λc=>
 ab c
def ZAU:Fs yb:=⟨149,[.v .u64,.v .u64],[],[.u64,.u64],(zP .u64),λx=>BE yD x.1 x.2⟩
theorem ZHb:ZAU.Ok:=aF { still:=[4,5,8,9,10]} [] [PN,Q3,zu] ⟨ZqF,Qg,NX,ao⟩
def uf(F:Nat)(a0:aX)(a1:Int):yO (Bool):=
 ab (ah (a1 >= a0.1))
def PO:Fs yb:=⟨153,[.v ib,.v yI],[],[ib,yI],(zP .bool),λx=>uf yD x.1 x.2⟩
theorem ZqG:PO.Ok:=aF { still:=[4]} [] [] trivial
def ZmE(F:Nat):(Int×aSJ×Int×Int×Chan×Qk×aSJ)->yO ((Int×aSJ×Int×Int×Chan×Qk×aSJ)⊕(Chan×Qk×aSJ))
 |(d,c,b,a,e,g,f)=>
 if(ah (a < b))=af then
  (idx c a).bind λh=>
  if(aS d 2)=af then
   (e.2.2.2.1[d.toNat]?).bind λi=>
   (uf F i h.2.2.1).bind λj=>
   if j=af then
    if(bN f.length 1 40)=af then
     ab (.inl (d,c,b,wi (a+1),e,g,f++([h]:yL Cond)))
    else
    ae
   else
   ab (.inl (d,c,b,wi (a+1),e,g,f))
  else
  ae
 else
 ab (.inr (e,g,f))
def ZoV:Lp:=⟨[(2,.v yI),(3,.am 0 []),(7,.own 2 QC),(11,.v aSI),(12,.v yI),(13,.v yI)],[.var (.v Z0) af,.var (.v Z7) af,.log QC 61],[yI,aSI,yI,yI,Z0,Z7,aSI],[⟨.exit 0,[(7,.own 2 QC)],[.var (.v Z0) af,.var (.v Z7) af,.log QC 61],[Z0,Z7,aSI]⟩],Zb (ZmE yD) yD⟩
def ZUw:HI:={ own:=[7,24,27],still:=[6,20,22]}
theorem ZtL:ZoV.aT yb 156 0:=Zm ZUw [] [PO] ⟨ZqG,ao⟩
def qk(F:Nat)(a0:Chan)(a1:Qk)(a2:Int):yO (aSJ):=
 (Zb (ZmE F) F (a2,a1.2.2.1,(a1.2.2.1.length:Int),0,a0,a1,[])).bind λa=>
 ab a.2.2
def PP:Fs yb:=⟨156,[.v Z0,.v Z7,.v yI],[],[Z0,Z7,yI],(zP aSI),λx=>qk yD x.1 x.2.1 x.2.2⟩
theorem ZoW:PP.Ok:=aF ZUw [(0,ZoV)] [] trivial ⟨ZtL,ao⟩
def BF(F:Nat)(a0:Chan)(a1:Qk)(a2:Int)(a3:Int):yO (Int):=
 if(aS a3 2)=af then
  (a1.2.1[a3.toNat]?).bind λa=>
  if(a3==a0.2.2.2.2)=af then
   (qk F a0 a1 a2).bind λb=>
   (BB F a1.2.2.2 (b.length:Int)).bind λc=>
   ab (wi (a - (wi (c+660))))
  else
  ab a
 else
 ae
def ZsQ:Fs yb:=⟨152,[.v Z0,.v Z7,.v yI,.v yI],[],[Z0,Z7,yI,yI],(zP yI),λx=>BF yD x.1 x.2.1 x.2.2.1 x.2.2.2⟩
theorem ZAV:ZsQ.Ok:=aF { still:=[8,20,21,22,23,25]} [] [PP,BC] ⟨ZoW,PK,ao⟩
def ZAW(F:Nat)(a0:yU)(a1:yU)(a2:Int):yO (ZG):=
 ab [([a1],0,0,0),([a0],0,a2,0)]
def ZxM:Fs yb:=⟨154,[.v .u64,.v .u64,.v yI],[],[.u64,.u64,yI],(zP Zk),λx=>ZAW yD x.1 x.2.1 x.2.2⟩
theorem ZEZ:ZxM.Ok:=aF {} [] [] trivial
def W2(F:Nat)(a0:yU):yO (ZG):=
 ab [([a0],0,0,0),([],0,16,0)]
def ZsR:Fs yb:=⟨155,[.v .u64],[],[.u64],(zP Zk),λx=>W2 yD x⟩
theorem ZAX:ZsR.Ok:=aF {} [] [] trivial
def ZqH(F:Nat)(a0:aSl)(a1:aSl):yO (Int):=
 ab (Go.Lib.compareBytes a0 a1)
def ZoX:Fs yb:=⟨161,[.v aSm,.v aSm],[],[aSm,aSm],(zP yI),λx=>ZqH yD x.1 x.2⟩
theorem Zwu:ZoX.Ok:=aF { still:=[4,5,6]} [] [] trivial
abbrev lz:Ty:=(.st [yI,QC])
abbrev lA:Type:=(Int×Cond)
abbrev lA.Cond(x:lA):Cond:=x.2
abbrev Zo:Ty:=(.st [Zw,lz,aSn])
abbrev ZD:Type:=(Out×lA×aSl)
abbrev ZD.out(x:ZD):Out:=x.1
def ZqI(F:Nat)(a0:ZD)(a1:ZD):yO (Int):=
 (WA F a0.1.1 a1.1.1).bind λa=>
 (ZqH F a0.2.2 a1.2.2).bind λb=>
 (WA F a0.2.1.1 a1.2.1.1).bind λc=>
 (WA F a0.2.1.2.1 a1.2.1.2.1).bind λd=>
 (WA F a0.2.1.2.2.1 a1.2.1.2.2.1).bind λe=>
 (PG F [a,b,c,d,e]).bind λf=>
 ab f
def ZoY:Fs yb:=⟨158,[.v Zo,.v Zo],[],[Zo,Zo],(zP yI),λx=>ZqI yD x.1 x.2⟩
def ZVa:HI:={ still:=[4,7,10,13,15,19,22,27,31,36,40,42],cK:=[13,15]}
theorem Zwv:ZoY.Ok:=aF ZVa [] [PJ,ZoX,PH] ⟨Zjt,Zwu,ZsJ,ao⟩
abbrev mN:Ty:=(.st [ax,(.sl lz)])
abbrev ug:Type:=(Tx×(yL lA))
def ZTg:ByteArray:=⟨#[108,111,99,107]⟩
def ZC9(F:Nat)(a0:ZG):yO (aSl):=
 (Wd F a0).bind λa=>
 if(!a)=af then
  ab ct
 else
 (tX F a0).bind λb=>
 (Ww F ZTg [b]).bind λc=>
 ab c
def ZAZ:Fs yb:=⟨151,[.v Zk],[],[Zk],(zP aSn),λx=>ZC9 yD x⟩
theorem ZHc:ZAZ.Ok:=aF { still:=[3,7,9]} [] [Q9,OU,Vs] ⟨Qi,ZsF,Vb,ao⟩
abbrev _root_.aSB:=yL ZD
def Yb(F:Nat)(a0:Int)(a1:ZG)(a2:lA)(s1_0:aSp)(s1_1:aSB):yO ((aSp×aSB)):=
 (ZC9 F a1).bind λa=>
 if(bN s1_1.length 1 112)=af then
  let b:aSB:=s1_1++([((a0,a1),a2,a)]:yL ZD)
  ab (()::s1_0,b)
 else
 ae
abbrev _root_.aSD:Go.Ev.Ty:=.sl Zo
def PQ:Fs yb:=⟨150,[.v yI,.v Zk,.v lz,.am 0 []],[.var (.rw 1) af,.row Zo af 241],[yI,Zk,lz,aSo,aSD],[⟨.ret,[(0,.bi [])],[.var (.rw 1) af,.row Zo af 241],[aSo,aSD]⟩],λx=>Yb yD x.1 x.2.1 x.2.2.1 x.2.2.2.1 x.2.2.2.2⟩
theorem ZmF:PQ.Ok:=aF { own:=[7,16],still:=[12]} [] [ZAZ] ⟨ZHc,ao⟩
abbrev dT4:Type:=(Int×Int×yU×yU×yU×aSJ×Int×Int×Chan×Qk×ug×aSp×aSB)
abbrev tL8:yL Ty:=[yI,yI,.u64,.u64,.u64,aSI,yI,yI,Z0,Z7,mN,aSo,aSD]
def Zhl(F:Nat):(Int×Int×Int×Int×aSp×aSB)->yO ((Int×Int×Int×Int×aSp×aSB)⊕(Int×Int×Int×aSp×aSB))
 |(b,d,e,a,f,c)=>
 if(ah (a > b))=af then
  if(aS a c.length)=af then
   (c[a.toNat]?).bind λg=>
   if(aS (wi (a - 1)) c.length)=af then
    (c[(wi (a - 1)).toNat]?).bind λh=>
    (ZqI F g h).bind λi=>
    if(ah (i < 0))=af then
     if(aS (wi (a - 1)) c.length)=af then
      (c[(wi (a - 1)).toNat]?).bind λj=>
      if(aS a c.length)=af then
       (c[a.toNat]?).bind λk=>
       if(aS a c.length)=af then
        (c[a.toNat]?).bind λl=>
        if(aS (wi (a - 1)) ((c.set a.toNat j).length))=af then
         ((c.set a.toNat j)[(wi (a - 1)).toNat]?).bind λm=>
         let n:aSB:=(c.set a.toNat j).set ((wi (a - 1)).toNat) k
         ab (.inl (b,d,e,wi (a - 1),f,n))
        else
        ae
       else
       ae
      else
      ae
     else
     ae
    else
    ab (.inr (b,d,e,f,c))
   else
   ae
  else
  ae
 else
 ab (.inr (b,d,e,f,c))
def Zjw:Lp:=⟨[(0,.rw 0),(1,.v yI),(2,.v yI),(3,.fn 158 []),(8,.v yI),(9,.v yI)],[.row Zo af 241],[yI,yI,yI,yI,aSo,aSD],[⟨.exit 2,[(0,.rw 0),(1,.v yI),(2,.v yI),(3,.fn 158 []),(8,.v yI)],[.row Zo af 241],[yI,yI,yI,aSo,aSD]⟩],Zb (Zhl yD) yD⟩
def PR:HI:={ still:=[26,31],bM:=[0,37,39]}
theorem Zo4:Zjw.aT yb 244 1:=Zm PR [] [ZoY] ⟨Zwv,ao⟩
def Zhm(F:Nat):(Int×Int×Int×aSp×aSB)->yO ((Int×Int×Int×aSp×aSB)⊕(aSp×aSB))
 |(h,g,f,i,j)=>
 if(ah (f < g))=af then
  (Zb (Zhl F) F (h,g,f,f,i,j)).bind λ(a,b,c,d,e)=>
  ab (.inl (a,b,wi (c+1),d,e))
 else
 ab (.inr (i,j))
def Zjx:Lp:=⟨[(0,.rw 0),(1,.v yI),(2,.v yI),(3,.fn 158 []),(8,.v yI)],[.row Zo af 241],[yI,yI,yI,aSo,aSD],[⟨.exit 0,[],[.row Zo af 241],[aSo,aSD]⟩],Zb (Zhm yD) yD⟩
theorem Zo5:Zjx.aT yb 244 0:=Zm PR [(1,Zjw)] [] trivial ⟨Zo4,ao⟩
def PS(F:Nat)(a1:Int)(a2:Int)(s0_0:aSp)(s0_1:aSB):yO ((aSp×aSB)):=
 (Zb (Zhm F) F (a1,a2,wi (a1+1),s0_0,s0_1)).bind λa=>
 ab (a.1,a.2)
def PT:Fs yb:=⟨244,[.rw 0,.v yI,.v yI,.fn 158 []],[.row Zo af 241],[yI,yI,aSo,aSD],[⟨.ret,[(0,.bi [])],[.row Zo af 241],[aSo,aSD]⟩],λx=>PS yD x.1 x.2.1 x.2.2.1 x.2.2.2⟩
theorem Zjy:PT.Ok:=aF PR [(0,Zjx)] [] trivial ⟨Zo5,ao⟩
def Zhn(F:Nat):(Int×Int×Int×Int×aSp×aSB)->yO ((Int×Int×Int×Int×aSp×aSB)⊕(Int×Int×Int×aSp×aSB))
 |(b,f,c,a,d,e)=>
 if(ah (a<=b))=af then
  (PS F c a d e).bind λg=>
  if(ah (d.length=g.1.length)&&(ah (40=40)&&ah ((yw e.length ()).length=g.2.length)))=af then
   ab (.inl (b,f,a,wi (a+f),g.1,g.2))
  else
  ae
 else
 ab (.inr (b,f,c,d,e))
def Zjz:Lp:=⟨[(0,.rw 0),(1,.v yI),(2,.fn 158 []),(6,.v yI),(7,.v yI),(8,.v yI)],[.row Zo af 241],[yI,yI,yI,yI,aSo,aSD],[⟨.exit 0,[(0,.rw 0),(1,.v yI),(2,.fn 158 []),(6,.v yI),(7,.v yI)],[.row Zo af 241],[yI,yI,yI,aSo,aSD]⟩],Zb (Zhn yD) yD⟩
def BG:HI:={ still:=[15,16,17,24,25,26,37,40,41,42,56,57,58,59],bM:=[0,14,23,36,55]}
theorem Zo6:Zjz.aT yb 217 0:=ZKk (fi:={ hi:=BG,gh:=[(3,.gK 0)]}) (aB:={ l:=[PT]}) (iw ⟨Zjy,ao⟩)
def Zho(F:Nat):(Int×Int×Int×Int×aSp×aSB)->yO ((Int×Int×Int×Int×aSp×aSB)⊕(Int×Int×Int×aSp×aSB))
 |(b,c,d,a,e,f)=>
 if(ah (a<=b))=af then
  ae
 else
 ab (.inr (b,c,d,e,f))
def ZjA:Lp:=⟨[(1,.v yI),(2,.fn 158 []),(6,.v yI),(7,.v yI),(8,.v yI)],[.row Zo af 241],[yI,yI,yI,yI,aSo,aSD],[⟨.exit 4,[(1,.v yI),(2,.fn 158 []),(6,.v yI),(7,.v yI)],[.row Zo af 241],[yI,yI,yI,aSo,aSD]⟩],Zb (Zho yD) yD⟩
theorem Zo7:ZjA.aT yb 217 2:=Zm BG [] [] trivial
def Zhp(F:Nat)(s:(Int×Int×aSp×aSB)):yO ((Int×Int×aSp×aSB)⊕(aSp×aSB)):=
 if(ah (s.2.1 < s.1))=af then
  (Zb (Zho F) F (s.1,s.2.1,0,wi (2*s.2.1),s.2.2.1,s.2.2.2)).bind λ(c,b,a,d,e)=>
  if(ah ((wi (a+b)) < c))=af then
   ae
  else
  ab (.inl (c,wi (b*2),d,e))
 else
 ab (.inr (s.2.2.1,s.2.2.2))
def ZjB:Lp:=⟨[(0,.aA),(1,.v yI),(2,.fn 158 []),(6,.v yI)],[.row Zo af 241],[yI,yI,aSo,aSD],[⟨.exit 2,[],[.row Zo af 241],[aSo,aSD]⟩],Zb (Zhp yD) yD⟩
theorem Zo8:ZjB.aT yb 217 1:=Zm BG [(2,ZjA)] [] trivial ⟨Zo7,ao⟩
def ZmG(F:Nat)(a1:Int)(s0_0:aSp)(s0_1:aSB):yO ((aSp×aSB)):=
 (Zb (Zhn F) F (a1,20,0,20,s0_0,s0_1)).bind λ(b,e,a,c,d)=>
 (PS F a b c d).bind λf=>
 (Zb (Zhp F) F (b,e,f.1,f.2)).bind λg=>
 ab (g.1,g.2)
def Zld:Fs yb:=⟨217,[.rw 0,.v yI,.fn 158 []],[.row Zo af 241],[yI,aSo,aSD],[⟨.ret,[(0,.bi [])],[.row Zo af 241],[aSo,aSD]⟩],λx=>ZmG yD x.1 x.2.1 x.2.2⟩
theorem ZtM:Zld.Ok:=aF BG [(0,Zjz),(1,ZjB)] [PT] ⟨Zjy,ao⟩ ⟨Zo6,Zo8,ao⟩
def uh(F:Nat)(s0_0:aSp)(s0_1:aSB):yO ((aSp×aSB)):=
 (ZmG F (s0_1.length:Int) s0_0 s0_1).bind λa=>
 ab (a.1,a.2)
def ZsS:Fs yb:=⟨157,[.rw 0,.fn 158 []],[.row Zo af 241],[aSo,aSD],[⟨.ret,[(0,.bi [])],[.row Zo af 241],[aSo,aSD]⟩],λx=>uh yD x.1 x.2⟩
theorem ZA0:ZsS.Ok:=aF { still:=[6,7],bM:=[0,4]} [] [Zld] ⟨ZtM,ao⟩
abbrev dT5:Type:=(Int×Int×Chan×Qk×ug×aSp×aSB×aSu×Int×(yL lA)×aSv)
abbrev dT6:Type:=(Chan×Qk×ug×aSp×aSB×aSu×Int×(yL lA)×aSv)
def ZUx:yL bf:=[.var (.v Z0) af,.var (.v Z7) af,.var (.v mN) af,.var (.rw 4) af,.row Zo af 241,.var (.agg [.agg [.v aSs,.own 7 Zw,.v yI],.own 6 lz]) af,.log lz 238,.log Zw 83]
abbrev tL9:yL Ty:=[Z0,Z7,mN,aSo,aSD,aSs,yI,(.sl lz),aSq]
abbrev ZVb:yL Ty:=[yI,yI,Z0,Z7,mN,aSo,aSD,aSs,yI,(.sl lz),aSq]
def ui(F:Nat):dT4->yO (dT4⊕(Int×Chan×Qk×ug×aSp×aSB))
 |(d,h,e,g,f,c,b,a,k,l,m,i,j)=>
 if(ah (a < b))=af then
  (idx c a).bind λn=>
  if(n.1==d)=af then
   (Yb F n.2.2.1 [([e],0,0,0),([f],0,0,n.2.2.2.1),([g],n.2.2.2.2,h,0)] (5,n) i j).bind λo=>
   ab (.inl (d,h,e,g,f,c,b,wi (a+1),k,l,m,o.1,o.2))
  else
  (Yb F n.2.2.1 [([e],0,0,0),([g],0,h,n.2.2.2.1),([f],n.2.2.2.2,0,0)] (6,n) i j).bind λp=>
  ab (.inl (d,h,e,g,f,c,b,wi (a+1),k,l,m,p.1,p.2))
 else
 ab (.inr (d,k,l,m,i,j))
abbrev zM:List bf:=[.var (.v Z0) af,.var (.v Z7) af,.var (.v mN) af,.var (.rw 4) af,.row Zo af 241]
def ZqJ:Lp:=⟨[(2,.v yI),(4,.am 0 []),(5,.am 1 []),(8,.am 2 []),(11,.v yI),(12,.v .u64),(13,.v .u64),(14,.v .u64),(15,.am 3 []),(16,.fn 150 [.am 3 []]),(139,.v aSI),(140,.v yI),(141,.v yI)],zM,tL8,[⟨.exit 1,[(2,.v yI),(4,.am 0 []),(5,.am 1 []),(8,.am 2 []),(15,.am 3 [])],zM,[yI,Z0,Z7,mN,aSo,aSD]⟩],Zb (ui yD) yD⟩
def ZVc:HI:={ own:=[208,212,216,220],still:=[9,28,32,38,39,54,55,61,62,68,69,72,73,74,75,80,81,84,89,90,91,92,93,94,95,97,98,99,100,105,106,109,114,115,116,123,124,125,132,133,134,136,137,138,176,183,184],bM:=[187]}
theorem Zvk:ZqJ.aT yb 81 0:=Zm ZVc [] [PQ] ⟨ZmF,ao⟩
def uj(F:Nat):dT5->yO (dT5⊕dT6)
 |(b,a,f,g,h,i,c,j,k,e,d)=>
 if(ah (a < b))=af then
  if(aS a c.length)=af then
   (c[a.toNat]?).bind λl=>
   if(bN d.length 1 32)=af then
    if(bN e.length 1 48)=af then
     let m:(yL lA):=e++([l.2.1]:yL lA)
     ab (.inl (b,wi (a+1),f,g,h,i,c,j,k,m,d++([l.1]:yL Out)))
    else
    ae
   else
   ae
  else
  ae
 else
 ab (.inr (f,g,h,i,c,j,k,e,d))
def ZqK:Lp:=⟨[(8,.am 2 []),(24,.am 5 []),(200,.rw 4),(201,.v yI),(202,.v yI)],ZUx,ZVb,[⟨.exit 3,[(8,.am 2 []),(24,.am 5 [])],ZUx,tL9⟩],Zb (uj yD) yD⟩
def ZUy:HI:={ own:=[208,212,216,220],still:=[9,28,32,38,39,54,55,61,62,68,69,72,73,74,75,80,81,84,89,90,91,92,93,94,95,97,98,99,100,105,106,109,114,115,116,123,124,125,132,133,134,136,137,138,176,183,184],bM:=[187],eJ:=[(24,[([1],lz,238),([0,1],Zw,83)])]}
theorem Zvl:ZqK.aT yb 81 1:=Zm ZUy [] [] trivial
def ZE1(F:Nat)(a0:Chan)(a1:Qk)(a2:Int)(a3:yU):yO ((ug×Int)):=
 (Zu6 F a2).bind λk=>
 if(!k)=af then
  ab ((([],[],0),[]),1)
 else
 (XX F a3).bind λl=>
 if(!l)=af then
  ab ((([],[],0),[]),1)
 else
 (Zvf F a0 a1).bind λm=>
 if(!m)=af then
  ab ((([],[],0),[]),14)
 else
 if(aS (wi (1 - a2)) 2)=af then
  (a0.2.2.2.1[(wi (1 - a2)).toNat]?).bind λn=>
  if(aS (wi (1 - a2)) 2)=af then
   (a0.2.2.1[(wi (1 - a2)).toNat]?).bind λo=>
   (Zvi F o.2.2.2.2 a3).bind λp=>
   if(aS a2 2)=af then
    (a0.2.2.1[a2.toNat]?).bind λq=>
    (BE F q.2.2.2.1 a3).bind λr=>
    if(aS (wi (1 - a2)) 2)=af then
     (a0.2.2.1[(wi (1 - a2)).toNat]?).bind λs=>
     (BE F s.2.2.2.1 a3).bind λt=>
     (BF F a0 a1 a2 a2).bind λu=>
     if(aS a2 2)=af then
      (a0.2.2.2.1[a2.toNat]?).bind λv=>
      (uf F v u).bind λw=>
      if w=af then
       if(aS a2 2)=af then
        (a0.2.2.1[a2.toNat]?).bind λx=>
        (BE F x.2.2.1 a3).bind λy=>
        (ZAW F y p n.2.2.1).bind λz=>
        (Yb F u z (1,(0,0,0,0,0)) [] []).bind λA=>
        (BF F a0 a1 a2 (wi (1 - a2))).bind λB=>
        if(aS a2 2)=af then
         (a0.2.2.2.1[a2.toNat]?).bind λC=>
         (uf F C B).bind λD=>
         if D=af then
          if(aS (wi (1 - a2)) 2)=af then
           (a0.2.2.1[(wi (1 - a2)).toNat]?).bind λE=>
           (qf F E.2.1).bind λG=>
           (Yb F B G (2,(0,0,0,0,0)) A.1 A.2).bind λH=>
           if(aS a2 2)=af then
            (a0.2.2.1[a2.toNat]?).bind λI=>
            (W2 F I.1).bind λJ=>
            (Yb F 330 J (3,(0,0,0,0,0)) H.1 H.2).bind λK=>
            if(aS (wi (1 - a2)) 2)=af then
             (a0.2.2.1[(wi (1 - a2)).toNat]?).bind λL=>
             (W2 F L.1).bind λM=>
             (Yb F 330 M (4,(0,0,0,0,0)) K.1 K.2).bind λN=>
             (qk F a0 a1 a2).bind λO=>
             (Zb (ui F) F (a2,n.2.2.1,p,r,t,O,(O.length:Int),0,a0,a1,(([],[],0),[]),N.1,N.2)).bind λ(j,g,h,i,e,f)=>
             (uh F e f).bind λP=>
             if(ah (e.length=P.1.length)&&(ah (40=40)&&ah ((yw f.length ()).length=P.2.length)))=af then
              (Zb (uj F) F ((P.2.length:Int),0,g,h,i,P.1,P.2,[(g.1,(0,[],0))],wi ((wi (2*h.1))+j),[],[])).bind λ(_,_,_,_,_,a,c,d,b)=>
              ab (((a,b,c),d),0)
             else
             ae
            else
            ae
           else
           ae
          else
          ae
         else
         if(aS a2 2)=af then
          (a0.2.2.1[a2.toNat]?).bind λQ=>
          (W2 F Q.1).bind λR=>
          (Yb F 330 R (3,(0,0,0,0,0)) A.1 A.2).bind λS=>
          if(aS (wi (1 - a2)) 2)=af then
           (a0.2.2.1[(wi (1 - a2)).toNat]?).bind λT=>
           (W2 F T.1).bind λU=>
           (Yb F 330 U (4,(0,0,0,0,0)) S.1 S.2).bind λV=>
           (qk F a0 a1 a2).bind λW=>
           (Zb (ui F) F (a2,n.2.2.1,p,r,t,W,(W.length:Int),0,a0,a1,(([],[],0),[]),V.1,V.2)).bind λ(j,g,h,i,e,f)=>
           (uh F e f).bind λX=>
           if(ah (e.length=X.1.length)&&(ah (40=40)&&ah ((yw f.length ()).length=X.2.length)))=af then
            (Zb (uj F) F ((X.2.length:Int),0,g,h,i,X.1,X.2,[(g.1,(0,[],0))],wi ((wi (2*h.1))+j),[],[])).bind λ(_,_,_,_,_,a,c,d,b)=>
            ab (((a,b,c),d),0)
           else
           ae
          else
          ae
         else
         ae
        else
        ae
       else
       ae
      else
      (BF F a0 a1 a2 (wi (1 - a2))).bind λY=>
      if(aS a2 2)=af then
       (a0.2.2.2.1[a2.toNat]?).bind λZ=>
       (uf F Z Y).bind λei=>
       if ei=af then
        if(aS (wi (1 - a2)) 2)=af then
         (a0.2.2.1[(wi (1 - a2)).toNat]?).bind λej=>
         (qf F ej.2.1).bind λep=>
         (Yb F Y ep (2,(0,0,0,0,0)) [] []).bind λeu=>
         if(aS a2 2)=af then
          (a0.2.2.1[a2.toNat]?).bind λew=>
          (W2 F ew.1).bind λez=>
          (Yb F 330 ez (3,(0,0,0,0,0)) eu.1 eu.2).bind λeA=>
          if(aS (wi (1 - a2)) 2)=af then
           (a0.2.2.1[(wi (1 - a2)).toNat]?).bind λeB=>
           (W2 F eB.1).bind λeC=>
           (Yb F 330 eC (4,(0,0,0,0,0)) eA.1 eA.2).bind λeD=>
           (qk F a0 a1 a2).bind λeE=>
           (Zb (ui F) F (a2,n.2.2.1,p,r,t,eE,(eE.length:Int),0,a0,a1,(([],[],0),[]),eD.1,eD.2)).bind λ(j,g,h,i,e,f)=>
           (uh F e f).bind λeG=>
           if(ah (e.length=eG.1.length)&&(ah (40=40)&&ah ((yw f.length ()).length=eG.2.length)))=af then
            (Zb (uj F) F ((eG.2.length:Int),0,g,h,i,eG.1,eG.2,[(g.1,(0,[],0))],wi ((wi (2*h.1))+j),[],[])).bind λ(_,_,_,_,_,a,c,d,b)=>
            ab (((a,b,c),d),0)
           else
           ae
          else
          ae
         else
         ae
        else
        ae
       else
       if(aS a2 2)=af then
        (a0.2.2.1[a2.toNat]?).bind λeI=>
        (W2 F eI.1).bind λeJ=>
        (Yb F 330 eJ (3,(0,0,0,0,0)) [] []).bind λeK=>
        if(aS (wi (1 - a2)) 2)=af then
         (a0.2.2.1[(wi (1 - a2)).toNat]?).bind λeL=>
         (W2 F eL.1).bind λeM=>
         (Yb F 330 eM (4,(0,0,0,0,0)) eK.1 eK.2).bind λeN=>
         (qk F a0 a1 a2).bind λeO=>
         (Zb (ui F) F (a2,n.2.2.1,p,r,t,eO,(eO.length:Int),0,a0,a1,(([],[],0),[]),eN.1,eN.2)).bind λ(j,g,h,i,e,f)=>
         (uh F e f).bind λeP=>
         if(ah (e.length=eP.1.length)&&(ah (40=40)&&ah ((yw f.length ()).length=eP.2.length)))=af then
          (Zb (uj F) F ((eP.2.length:Int),0,g,h,i,eP.1,eP.2,[(g.1,(0,[],0))],wi ((wi (2*h.1))+j),[],[])).bind λ(_,_,_,_,_,a,c,d,b)=>
          ab (((a,b,c),d),0)
         else
         ae
        else
        ae
       else
       ae
      else
      ae
     else
     ae
    else
    ae
   else
   ae
  else
  ae
 else
 ae
def PU(F:Nat):Fs yb:=⟨81,[.v Z0,.v Z7,.v yI,.v .u64],[],[Z0,Z7,yI,.u64],[⟨.ret,[(0,.bi [.v mN,.v yI])],[],[mN,yI]⟩],λx=>ZE1 F x.1 x.2.1 x.2.2.1 x.2.2.2⟩
def ZB6:Fs yb:=PU yD
theorem ZA1:ZB6.Ok:=pI (fi:={ hi:=ZUy,lp:=[(0,ZqJ),(1,ZqK)],gh:=[(11,.bM 15 [] Zo 241),(31,.gL 15)]}) (aB:={ l:=[ZsH,Qf,ZsN,ZsP,ZAU,ZsQ,PO,ZxM,PQ,OP,ZsR,PP,ZsS]}) (iw ⟨ZAQ,Vq,ZqC,ZAT,ZHb,ZAV,ZqG,ZEZ,ZmF,OQ,ZAX,ZoW,ZA0,ao⟩) ⟨Zvk,Zvl,ao⟩
def Zye(F:Nat)(a0:Int):yO (Int):=
 (BB F a0 16).bind λa=>
 ab (wi (a+660))
def PV(F:Nat):Fs yb:=⟨162,[.v yI],[],[yI],(zP yI),λx=>Zye F x⟩
def Zww:Fs yb:=PV yD
theorem Zvm:Zww.Ok:=aF { still:=[2,3]} [] [BC] ⟨PK,ao⟩
def BH(F:Nat)(a0:yU):yO (yU):=
 (pS F a0).bind λa=>
 (pP F a 2305843009213688668).bind λb=>
 ab b
def ZxN:Fs yb:=⟨222,[.v .u64],[],[.u64],(zP .u64),λx=>BH yD x⟩
theorem ZE2:ZxN.Ok:=aF { still:=[2,3,4]} [] [xG,xC] ⟨MC,LR,ao⟩
def PW(F:Nat)(a0:yU)(a1:aSl)(a2:yU)(a3:dQ):yO (Bool):=
 if(a0==1)=af then
  ab ag
 else
 (XX F a0).bind λa=>
 if(!a)=af then
  ab ag
 else
 (XX F a2).bind λb=>
 if(!b)=af then
  ab ag
 else
 (XX F a3.1).bind λc=>
 if(!c)=af then
  ab ag
 else
 (VW F a3.2).bind λd=>
 if(!d)=af then
  ab ag
 else
 (WU F a3.1 a0 a1).bind λe=>
 (Q2 F a0 e).bind λf=>
 (BH F a2).bind λg=>
 (tQ F [a3.1,f,g]).bind λh=>
 (Xb F a3.2).bind λi=>
 ab (i==h)
def ZsT:Fs yb:=⟨166,[.v .u64,.v aSn,.v .u64,.v WV],[],[.u64,aSn,.u64,WV],(zP .bool),λx=>PW yD x.1 x.2.1 x.2.2.1 x.2.2.2⟩
def ZVd:HI:={ still:=[8,13,18,24,30,36,38,39,40,41,43,45,48]}
theorem ZA2:ZsT.Ok:=aF ZVd [] [Qf,tw,OC,xH,ZxN,NW,Q3] ⟨Vq,xt,ZkX,MD,ZE2,ZuS,Qg,ao⟩
def uk(F:Nat)(a0:yU)(a1:aSl)(a2:dQ):yO (Bool):=
 (PW F a0 a1 1 a2).bind λa=>
 ab a
def PX(F:Nat):Fs yb:=⟨83,[.v .u64,.v aSn,.v WV],[],[.u64,aSn,WV],(zP .bool),λx=>uk F x.1 x.2.1 x.2.2⟩
def ZsU:Fs yb:=PX yD
theorem ZqL:ZsU.Ok:=aF { still:=[6,7,8,9]} [] [ZsT] ⟨ZA2,ao⟩
abbrev ZjE:Ty:=(.st [(.arr 2 aSn),(.arr 2 ib),(.arr 2 yI),yI,yI])
abbrev PY:Type:=(aSM×(yL aX)×aSA×Int×Int)
abbrev PY.aX(x:PY):(yL aX):=x.2.1
def ZE3(F:Nat)(a0:dV)(a1:Tx):yO (dQ):=
 (jM F a1).bind λa=>
 (Q7 F a0.1 a).bind λb=>
 ab b
def PZ(F:Nat):Fs yb:=⟨85,[.v fN,.v ax],[],[fN,ax],(zP WV),λx=>ZE3 F x.1 x.2⟩
def ZB7:Fs yb:=PZ yD
theorem ZA3:ZB7.Ok:=aF { still:=[6,7,8]} [] [tY,zC] ⟨tZ,zL,ao⟩
def ZsV(F:Nat)(a0:aSu):yO ((aSp×aSu)⊕aSu):=if a0.isEmpty=af then(AO F a0).map Sum.inr else(AR F a0).map Sum.inl
def ZqM:Fs yb:=⟨194,[.v aSs],[],[aSs],[⟨.ret,[(0,.rw 0)],[.row bj af 131],[aSo,aSs]⟩,⟨.ret,[(0,.v aSs)],[],[aSs]⟩],λx=>ZsV yD x⟩
theorem Zyf:ZqM.Ok:=KY (ins:=[aSs]) (λx:aSu=>x.isEmpty) Zqn ZG6
def RA(F:Nat)(a0:aSv):yO ((aSp×aSv)⊕aSv):=if a0.isEmpty=af then(AP F a0).map Sum.inr else(AT F a0).map Sum.inl
def ZoZ:Fs yb:=⟨195,[.v aSq],[],[aSq],[⟨.ret,[(0,.rw 0)],[.row Zw af 83],[aSo,aSq]⟩,⟨.ret,[(0,.v aSq)],[],[aSq]⟩],λx=>RA yD x⟩
theorem Zwx:ZoZ.Ok:=KY (ins:=[aSq]) (λx:aSv=>x.isEmpty) ZoG ZEV
def Wi(F:Nat)(a0:aSx):yO ((aSp×aSx)⊕aSx):=if a0.isEmpty=af then(AN F a0).map Sum.inr else(XF F a0).map Sum.inl
def X0:Fs yb:=⟨172,[.v aSw],[],[aSw],[⟨.ret,[(0,.rw 0)],[.row Zg af 145],[aSo,aSw]⟩,⟨.ret,[(0,.v aSw)],[],[aSw]⟩],λx=>Wi yD x⟩
theorem WO:X0.Ok:=KY (ins:=[aSw]) (λx:aSx=>x.isEmpty) PA ZrS
abbrev dT7:Type:=(Int×aSx×Int×Int×Int×Int×qZ)
abbrev ZVe:yL Ty:=[yI,aSw,yI,yI,yI,ax,aSo,aSs,aSo,aSq]
abbrev ZVf:yL Ty:=[yI,aSw,yI,yI,yI,yI,yI,ax,aSo,aSs,aSo,aSq]
abbrev dT8:Type:=(Int×Int×Int×Int×Int×aSv×Int×Tx×aSp×aSu×aSp×aSx)
abbrev ZVg:yL Ty:=[yI,yI,yI,aSq,yI,ax,aSo,aSs,aSo,aSw]
abbrev ZVh:yL Ty:=[yI,yI,yI,yI,yI,aSq,yI,ax,aSo,aSs,aSo,aSw]
abbrev ZVi:yL Ty:=[yI,aSw,yI,yI,aSq,yI,ax,aSo,aSs]
abbrev ZVj:yL Ty:=[yI,aSw,yI,yI,yI,yI,aSq,yI,ax,aSo,aSs]
abbrev dT9:Type:=(Int×Int×Int×Int×Int×aSu×Int×Tx×aSp×aSv×aSp×aSx)
abbrev ZVk:yL Ty:=[yI,yI,yI,aSs,yI,ax,aSo,aSq,aSo,aSw]
abbrev ZVl:yL Ty:=[yI,yI,yI,yI,yI,aSs,yI,ax,aSo,aSq,aSo,aSw]
abbrev ZVm:yL Ty:=[yI,aSw,yI,yI,aSs,yI,ax,aSo,aSq]
abbrev ZVn:yL Ty:=[yI,aSw,yI,yI,yI,yI,aSs,yI,ax,aSo,aSq]
abbrev ZVo:yL Ty:=[yI,yI,yI,yI,yI,ax,ax,aSo,aSw]
def Zgf(F:Nat):(Int×Int×qZ)->yO ((Int×Int×qZ)⊕(qZ))
 |(b,a,d,e,f,c,g,h)=>
 if(ah (a < b))=af then
  if(aS a c.length)=af then
   (c[a.toNat]?).bind λi=>
   (kq F i.2.2.1).bind λj=>
   if(aS a c.length)=af then
    (c[a.toNat]?).bind λk=>
    let l:aSu:=c.set a.toNat (k.1,(k.2.1,j,k.2.2.2))
    ab (.inl (b,wi (a+1),d,e,f,l,g,h))
   else
   ae
  else
  ae
 else
 ab (.inr (d,e,f,c,g,h))
def Zhq:Lp:=⟨[(1,.am 0 []),(2,.am 1 []),(17,.v yI),(18,.v yI)],zK,[yI,yI,yI,ax,aSo,aSs,aSo,aSq],[⟨.exit 0,[(1,.am 0 []),(2,.am 1 [])],zK,[yI,ax,aSo,aSs,aSo,aSq]⟩],Zb (Zgf yD) yD⟩
theorem ZnZ:Zhq.aT yb 168 0:=Zm fr [] [qi] ⟨ub,ao⟩
def Zgg(F:Nat):AV->yO (AV⊕dT2)
 |(d,e,f,b,a,g,h,i,j,k,l,m,c)=>
 if(ah (a < b))=af then
  if(aS a c.length)=af then
   (c[a.toNat]?).bind λn=>
   (ZU F n.1).bind λo=>
   if(aS a c.length)=af then
    (c[a.toNat]?).bind λp=>
    let q:aSx:=c.set a.toNat (o,p.2.1,p.2.2.1,p.2.2.2)
    ab (.inl (d,e,f,b,wi (a+1),g,h,i,j,k,l,m,q))
   else
   ae
  else
  ae
 else
 ab (.inr (d,e,f,g,h,i,j,k,l,m,c))
def Zhr:Lp:=⟨[(1,.am 0 []),(2,.am 1 []),(4,.v yI),(5,.rw 4),(38,.v yI),(39,.v yI),(51,.v yI),(52,.v yI)],zH,tL4,[⟨.exit 4,[(1,.am 0 []),(2,.am 1 []),(4,.v yI),(5,.rw 4),(38,.v yI),(39,.v yI)],zH,tL3⟩],Zb (Zgg yD) yD⟩
theorem Zn0:Zhr.aT yb 168 2:=Zm fr [] [Z1] ⟨Z3,ao⟩
def ZdU(F:Nat):dT7->yO (dT7⊕(Int×aSx×Int×Int×qZ))
 |(d,c,e,f,b,a,g,h,i,j,k,l)=>
 if(ah (a < b))=af then
  (idx c a).bind λm=>
  (ZU F m.1).bind λn=>
  (idx c a).bind λo=>
  ae
 else
 ab (.inr (d,c,e,f,g,h,i,j,k,l))
def Zes:Lp:=⟨[(1,.am 0 []),(2,.am 1 []),(4,.v yI),(5,.v aSw),(38,.v yI),(39,.v yI),(51,.v yI),(52,.v yI)],zK,ZVf,[⟨.exit 4,[(1,.am 0 []),(2,.am 1 []),(4,.v yI),(5,.v aSw),(38,.v yI),(39,.v yI)],zK,ZVe⟩],Zb (ZdU yD) yD⟩
theorem ZlA:Zes.aT yb 168 2:=Zm fr [] [Z1] ⟨Z3,ao⟩
def Zgh(F:Nat):(Int×Int×qZ)->yO ((Int×Int×qZ)⊕(qZ))
 |(l,k,n,o,p,q,r,m)=>
 if(ah (k < l))=af then
  if(aS k m.length)=af then
   (m[k.toNat]?).bind λs=>
   (Wi F s.2).bind λt=>
   match t with
   |.inl u=>
    (Zb (Zgg F) F (k,l,k,(u.2.length:Int),0,n,o,p,q,r,m,u.1,u.2)).bind λ(a,d,e,f,g,h,i,j,b,_,c)=>
    if(aS a b.length)=af then
     (b[a.toNat]?).bind λv=>
     let w:aSv:=b.set a.toNat (v.1,c)
     ab (.inl (d,wi (e+1),f,g,h,i,j,w))
    else
    ae
   |.inr x=>
    (Zb (ZdU F) F (k,x,l,k,(x.length:Int),0,n,o,p,q,r,m)).bind λ(a,c,d,e,f,g,h,i,j,b)=>
    if(aS a b.length)=af then
     (b[a.toNat]?).bind λy=>
     let z:aSv:=b.set a.toNat (y.1,c)
     ab (.inl (d,wi (e+1),f,g,h,i,j,z))
    else
    ae
  else
  ae
 else
 ab (.inr (n,o,p,q,r,m))
def Zhs:Lp:=⟨[(1,.am 0 []),(2,.am 1 []),(38,.v yI),(39,.v yI)],zK,[yI,yI,yI,ax,aSo,aSs,aSo,aSq],[⟨.exit 2,[(1,.am 0 []),(2,.am 1 [])],zK,[yI,ax,aSo,aSs,aSo,aSq]⟩],Zb (Zgh yD) yD⟩
theorem Zn1:Zhs.aT yb 168 1:=Zm fr [(2,Zhr),(2,Zes)] [X0] ⟨WO,ao⟩ ⟨Zn0,ZlA,ao⟩
abbrev qN:=Int×Int×aSv×Int×Tx×aSp×aSu
def ZdV(F:Nat):(qN)->yO ((qN)⊕(aSv×Int×Tx×aSp×aSu))
 |(b,a,d,e,f,g,c)=>
 if(ah (a < b))=af then
  if(aS a c.length)=af then
   (c[a.toNat]?).bind λh=>
   (kq F h.2.2.1).bind λi=>
   if(aS a c.length)=af then
    (c[a.toNat]?).bind λj=>
    let k:aSu:=c.set a.toNat (j.1,(j.2.1,i,j.2.2.2))
    ab (.inl (b,wi (a+1),d,e,f,g,k))
   else
   ae
  else
  ae
 else
 ab (.inr (d,e,f,g,c))
abbrev qL:List bf:=[.var (.agg [.rw 2,.v aSq,.v yI]) af,.var (.v ax) af,.row bj af 131]
def Zet:Lp:=⟨[(1,.am 0 []),(2,.am 1 []),(17,.v yI),(18,.v yI)],qL,[yI,yI,aSq,yI,ax,aSo,aSs],[⟨.exit 0,[(1,.am 0 []),(2,.am 1 [])],qL,[aSq,yI,ax,aSo,aSs]⟩],Zb (ZdV yD) yD⟩
theorem ZlB:Zet.aT yb 168 0:=Zm fr [] [qi] ⟨ub,ao⟩
def ZbY(F:Nat):dT8->yO (dT8⊕(Int×Int×Int×aSv×Int×Tx×aSp×aSu×aSp×aSx))
 |(d,e,f,b,a,g,h,i,j,k,l,c)=>
 if(ah (a < b))=af then
  if(aS a c.length)=af then
   (c[a.toNat]?).bind λm=>
   (ZU F m.1).bind λn=>
   if(aS a c.length)=af then
    (c[a.toNat]?).bind λo=>
    let p:aSx:=c.set a.toNat (n,o.2.1,o.2.2.1,o.2.2.2)
    ab (.inl (d,e,f,b,wi (a+1),g,h,i,j,k,l,p))
   else
   ae
  else
  ae
 else
 ab (.inr (d,e,f,g,h,i,j,k,l,c))
abbrev zI:List bf:=[.var (.agg [.rw 2,.v aSq,.v yI]) af,.var (.v ax) af,.row bj af 131,.row Zg af 145]
def Zcj:Lp:=⟨[(1,.am 0 []),(2,.am 1 []),(4,.v yI),(5,.rw 3),(38,.v yI),(39,.v yI),(51,.v yI),(52,.v yI)],zI,ZVh,[⟨.exit 4,[(1,.am 0 []),(2,.am 1 []),(4,.v yI),(5,.rw 3),(38,.v yI),(39,.v yI)],zI,ZVg⟩],Zb (ZbY yD) yD⟩
theorem Zik:Zcj.aT yb 168 2:=Zm fr [] [Z1] ⟨Z3,ao⟩
def ZaP(F:Nat):(Int×aSx×Int×Int×qN)->yO ((Int×aSx×Int×Int×qN)⊕(Int×aSx×qN))
 |(d,c,e,f,b,a,g,h,i,j,k)=>
 if(ah (a < b))=af then
  (idx c a).bind λl=>
  (ZU F l.1).bind λm=>
  (idx c a).bind λn=>
  ae
 else
 ab (.inr (d,c,e,f,g,h,i,j,k))
def Zbr:Lp:=⟨[(1,.am 0 []),(2,.am 1 []),(4,.v yI),(5,.v aSw),(38,.v yI),(39,.v yI),(51,.v yI),(52,.v yI)],qL,ZVj,[⟨.exit 4,[(1,.am 0 []),(2,.am 1 []),(4,.v yI),(5,.v aSw),(38,.v yI),(39,.v yI)],qL,ZVi⟩],Zb (ZaP yD) yD⟩
theorem Zgi:Zbr.aT yb 168 2:=Zm fr [] [Z1] ⟨Z3,ao⟩
def ZdW(F:Nat):(qN)->yO ((qN)⊕(aSv×Int×Tx×aSp×aSu))
 |(d,c,e,f,g,h,i)=>
 if(ah (c < d))=af then
  (idx e c).bind λj=>
  (Wi F j.2).bind λk=>
  match k with
  |.inl l=>
   (Zb (ZbY F) F (c,d,c,(l.2.length:Int),0,e,f,g,h,i,l.1,l.2)).bind λ(b,_,_,a,_,_,_,_,_,_)=>
   (idx a b).bind λm=>
   ae
  |.inr n=>
   (Zb (ZaP F) F (c,n,d,c,(n.length:Int),0,e,f,g,h,i)).bind λ(b,_,_,_,a,_,_,_,_)=>
   (idx a b).bind λo=>
   ae
 else
 ab (.inr (e,f,g,h,i))
def Zeu:Lp:=⟨[(1,.am 0 []),(2,.am 1 []),(38,.v yI),(39,.v yI)],qL,[yI,yI,aSq,yI,ax,aSo,aSs],[⟨.exit 2,[(1,.am 0 []),(2,.am 1 [])],qL,[aSq,yI,ax,aSo,aSs]⟩],Zb (ZdW yD) yD⟩
theorem ZlC:Zeu.aT yb 168 1:=Zm fr [(2,Zcj),(2,Zbr)] [X0] ⟨WO,ao⟩ ⟨Zik,Zgi,ao⟩
abbrev qT:=Int×Int×aSu×Int×Tx×aSp×aSv
def ZdX(F:Nat):(qT)->yO ((qT)⊕(aSu×Int×Tx×aSp×aSv))
 |(b,a,c,d,e,f,g)=>
 if(ah (a < b))=af then
  (idx c a).bind λh=>
  (kq F h.2.2.1).bind λi=>
  (idx c a).bind λj=>
  ae
 else
 ab (.inr (c,d,e,f,g))
abbrev qO:List bf:=[.var (.agg [.v aSs,.rw 2,.v yI]) af,.var (.v ax) af,.row Zw af 83]
def Zev:Lp:=⟨[(1,.am 0 []),(2,.am 1 []),(17,.v yI),(18,.v yI)],qO,[yI,yI,aSs,yI,ax,aSo,aSq],[⟨.exit 0,[(1,.am 0 []),(2,.am 1 [])],qO,[aSs,yI,ax,aSo,aSq]⟩],Zb (ZdX yD) yD⟩
theorem ZlD:Zev.aT yb 168 0:=Zm fr [] [qi] ⟨ub,ao⟩
def ZbZ(F:Nat):dT9->yO (dT9⊕(Int×Int×Int×aSu×Int×Tx×aSp×aSv×aSp×aSx))
 |(d,e,f,b,a,g,h,i,j,k,l,c)=>
 if(ah (a < b))=af then
  if(aS a c.length)=af then
   (c[a.toNat]?).bind λm=>
   (ZU F m.1).bind λn=>
   if(aS a c.length)=af then
    (c[a.toNat]?).bind λo=>
    let p:aSx:=c.set a.toNat (n,o.2.1,o.2.2.1,o.2.2.2)
    ab (.inl (d,e,f,b,wi (a+1),g,h,i,j,k,l,p))
   else
   ae
  else
  ae
 else
 ab (.inr (d,e,f,g,h,i,j,k,l,c))
abbrev zJ:List bf:=[.var (.agg [.v aSs,.rw 2,.v yI]) af,.var (.v ax) af,.row Zw af 83,.row Zg af 145]
def Zck:Lp:=⟨[(1,.am 0 []),(2,.am 1 []),(4,.v yI),(5,.rw 3),(38,.v yI),(39,.v yI),(51,.v yI),(52,.v yI)],zJ,ZVl,[⟨.exit 4,[(1,.am 0 []),(2,.am 1 []),(4,.v yI),(5,.rw 3),(38,.v yI),(39,.v yI)],zJ,ZVk⟩],Zb (ZbZ yD) yD⟩
theorem Zil:Zck.aT yb 168 2:=Zm fr [] [Z1] ⟨Z3,ao⟩
def ZaQ(F:Nat):(Int×aSx×Int×Int×qT)->yO ((Int×aSx×Int×Int×qT)⊕(Int×aSx×qT))
 |(d,c,e,f,b,a,g,h,i,j,k)=>
 if(ah (a < b))=af then
  (idx c a).bind λl=>
  (ZU F l.1).bind λm=>
  (idx c a).bind λn=>
  ae
 else
 ab (.inr (d,c,e,f,g,h,i,j,k))
def Zbs:Lp:=⟨[(1,.am 0 []),(2,.am 1 []),(4,.v yI),(5,.v aSw),(38,.v yI),(39,.v yI),(51,.v yI),(52,.v yI)],qO,ZVn,[⟨.exit 4,[(1,.am 0 []),(2,.am 1 []),(4,.v yI),(5,.v aSw),(38,.v yI),(39,.v yI)],qO,ZVm⟩],Zb (ZaQ yD) yD⟩
theorem Zgj:Zbs.aT yb 168 2:=Zm fr [] [Z1] ⟨Z3,ao⟩
def ZdY(F:Nat):(qT)->yO ((qT)⊕(aSu×Int×Tx×aSp×aSv))
 |(k,j,m,n,o,p,l)=>
 if(ah (j < k))=af then
  if(aS j l.length)=af then
   (l[j.toNat]?).bind λq=>
   (Wi F q.2).bind λr=>
   match r with
   |.inl s=>
    (Zb (ZbZ F) F (j,k,j,(s.2.length:Int),0,m,n,o,p,l,s.1,s.2)).bind λ(a,d,e,f,g,h,i,b,_,c)=>
    if(aS a b.length)=af then
     (b[a.toNat]?).bind λt=>
     let u:aSv:=b.set a.toNat (t.1,c)
     ab (.inl (d,wi (e+1),f,g,h,i,u))
    else
    ae
   |.inr v=>
    (Zb (ZaQ F) F (j,v,k,j,(v.length:Int),0,m,n,o,p,l)).bind λ(a,c,d,e,f,g,h,i,b)=>
    if(aS a b.length)=af then
     (b[a.toNat]?).bind λw=>
     let x:aSv:=b.set a.toNat (w.1,c)
     ab (.inl (d,wi (e+1),f,g,h,i,x))
    else
    ae
  else
  ae
 else
 ab (.inr (m,n,o,p,l))
def Zew:Lp:=⟨[(1,.am 0 []),(2,.am 1 []),(38,.v yI),(39,.v yI)],qO,[yI,yI,aSs,yI,ax,aSo,aSq],[⟨.exit 2,[(1,.am 0 []),(2,.am 1 [])],qO,[aSs,yI,ax,aSo,aSq]⟩],Zb (ZdY yD) yD⟩
theorem ZlE:Zew.aT yb 168 1:=Zm fr [(2,Zck),(2,Zbs)] [X0] ⟨WO,ao⟩ ⟨Zil,Zgj,ao⟩
def ZdZ(F:Nat)(s:(Int×Int×Tx×Tx)):yO ((Int×Int×Tx×Tx)⊕(Tx×Tx)):=
 if(ah (s.2.1 < s.1))=af then
  (idx s.2.2.1.1 s.2.1).bind λa=>
  (kq F a.2.2.1).bind λb=>
  (idx s.2.2.1.1 s.2.1).bind λc=>
  ae
 else
 ab (.inr (s.2.2.1,s.2.2.2))
def Zex:Lp:=⟨[(1,.am 0 []),(2,.am 1 []),(17,.v yI),(18,.v yI)],[.var (.v ax) af,.var (.v ax) af],[yI,yI,ax,ax],[⟨.exit 0,[(1,.am 0 []),(2,.am 1 [])],[.var (.v ax) af,.var (.v ax) af],[ax,ax]⟩],Zb (ZdZ yD) yD⟩
theorem ZlF:Zex.aT yb 168 0:=Zm fr [] [qi] ⟨ub,ao⟩
def Zb0(F:Nat):(Int×Int×Int×Int×Int×Tx×Tx×aSp×aSx)->yO ((Int×Int×Int×Int×Int×Tx×Tx×aSp×aSx)⊕(Int×Int×Int×Tx×Tx×aSp×aSx))
 |(d,e,f,b,a,g,h,i,c)=>
 if(ah (a < b))=af then
  if(aS a c.length)=af then
   (c[a.toNat]?).bind λj=>
   (ZU F j.1).bind λk=>
   if(aS a c.length)=af then
    (c[a.toNat]?).bind λl=>
    let m:aSx:=c.set a.toNat (k,l.2.1,l.2.2.1,l.2.2.2)
    ab (.inl (d,e,f,b,wi (a+1),g,h,i,m))
   else
   ae
  else
  ae
 else
 ab (.inr (d,e,f,g,h,i,c))
def Zcl:Lp:=⟨[(1,.am 0 []),(2,.am 1 []),(4,.v yI),(5,.rw 2),(38,.v yI),(39,.v yI),(51,.v yI),(52,.v yI)],[.var (.v ax) af,.var (.v ax) af,.row Zg af 145],ZVo,[⟨.exit 4,[(1,.am 0 []),(2,.am 1 []),(4,.v yI),(5,.rw 2),(38,.v yI),(39,.v yI)],[.var (.v ax) af,.var (.v ax) af,.row Zg af 145],[yI,yI,yI,ax,ax,aSo,aSw]⟩],Zb (Zb0 yD) yD⟩
theorem Zim:Zcl.aT yb 168 2:=Zm fr [] [Z1] ⟨Z3,ao⟩
def ZaR(F:Nat):(Int×aSx×Int×Int×Int×Int×Tx×Tx)->yO ((Int×aSx×Int×Int×Int×Int×Tx×Tx)⊕(Int×aSx×Int×Int×Tx×Tx))
 |(d,c,e,f,b,a,g,h)=>
 if(ah (a < b))=af then
  (idx c a).bind λi=>
  (ZU F i.1).bind λj=>
  (idx c a).bind λk=>
  ae
 else
 ab (.inr (d,c,e,f,g,h))
def Zbt:Lp:=⟨[(1,.am 0 []),(2,.am 1 []),(4,.v yI),(5,.v aSw),(38,.v yI),(39,.v yI),(51,.v yI),(52,.v yI)],[.var (.v ax) af,.var (.v ax) af],[yI,aSw,yI,yI,yI,yI,ax,ax],[⟨.exit 4,[(1,.am 0 []),(2,.am 1 []),(4,.v yI),(5,.v aSw),(38,.v yI),(39,.v yI)],[.var (.v ax) af,.var (.v ax) af],[yI,aSw,yI,yI,ax,ax]⟩],Zb (ZaR yD) yD⟩
theorem Zgk:Zbt.aT yb 168 2:=Zm fr [] [Z1] ⟨Z3,ao⟩
def Zd0(F:Nat)(s:(Int×Int×Tx×Tx)):yO ((Int×Int×Tx×Tx)⊕(Tx×Tx)):=
 if(ah (s.2.1 < s.1))=af then
  (idx s.2.2.1.2.1 s.2.1).bind λc=>
  (Wi F c.2).bind λd=>
  match d with
  |.inl e=>
   (Zb (Zb0 F) F (s.2.1,s.1,s.2.1,(e.2.length:Int),0,s.2.2.1,s.2.2.2,e.1,e.2)).bind λ(b,_,_,a,_,_,_)=>
   (idx a.2.1 b).bind λf=>
   ae
  |.inr g=>
   (Zb (ZaR F) F (s.2.1,g,s.1,s.2.1,(g.length:Int),0,s.2.2.1,s.2.2.2)).bind λ(b,_,_,_,a,_)=>
   (idx a.2.1 b).bind λh=>
   ae
 else
 ab (.inr (s.2.2.1,s.2.2.2))
def Zey:Lp:=⟨[(1,.am 0 []),(2,.am 1 []),(38,.v yI),(39,.v yI)],[.var (.v ax) af,.var (.v ax) af],[yI,yI,ax,ax],[⟨.exit 2,[(1,.am 0 []),(2,.am 1 [])],[.var (.v ax) af,.var (.v ax) af],[ax,ax]⟩],Zb (Zd0 yD) yD⟩
theorem ZlG:Zey.aT yb 168 1:=Zm fr [(2,Zcl),(2,Zbt)] [X0] ⟨WO,ao⟩ ⟨Zim,Zgk,ao⟩
def Zle(F:Nat)(a0:Tx):yO ((Int×aSp×aSu×aSp×aSv)⊕(aSv×Int×aSp×aSu)⊕(aSu×Int×aSp×aSv)⊕Tx):=
 (ZsV F a0.1).bind λl=>
 match l with
 |.inl m=>
  (RA F a0.2.1).bind λn=>
  match n with
  |.inl o=>
   (Zb (Zgf F) F ((m.2.length:Int),0,a0.2.2,([],[],0),m.1,m.2,o.1,o.2)).bind λ(g,h,i,j,k,f)=>
   (Zb (Zgh F) F ((f.length:Int),0,g,h,i,j,k,f)).bind λ(a,_,b,c,d,e)=>
   ab (.inl (a,b,c,d,e))
  |.inr p=>
   (Zb (ZdV F) F ((m.2.length:Int),0,p,a0.2.2,([],[],0),m.1,m.2)).bind λ(e,f,g,h,i)=>
   (Zb (ZdW F) F ((e.length:Int),0,e,f,g,h,i)).bind λ(a,b,_,c,d)=>
   ab (.inr (.inl (a,b,c,d)))
 |.inr q=>
  (RA F a0.2.1).bind λr=>
  match r with
  |.inl s=>
   (Zb (ZdX F) F ((q.length:Int),0,q,a0.2.2,([],[],0),s.1,s.2)).bind λ(f,g,h,i,e)=>
   (Zb (ZdY F) F ((e.length:Int),0,f,g,h,i,e)).bind λ(a,b,_,c,d)=>
   ab (.inr (.inr (.inl (a,b,c,d))))
  |.inr t=>
   (Zb (ZdZ F) F ((q.length:Int),0,(q,t,a0.2.2),([],[],0))).bind λu=>
   (Zb (Zd0 F) F ((u.1.2.1.length:Int),0,u.1,u.2)).bind λv=>
   ab (.inr (.inr (.inr v.1)))
def ZjH:Fs yb:=⟨168,[.v ax],[],[ax],[⟨.ret,[(0,.agg [.rw 0,.rw 1,.v yI])],[.row bj af 131,.row Zw af 83],[yI,aSo,aSs,aSo,aSq]⟩,⟨.ret,[(0,.agg [.rw 0,.v aSq,.v yI])],[.row bj af 131],[aSq,yI,aSo,aSs]⟩,⟨.ret,[(0,.agg [.v aSs,.rw 0,.v yI])],[.row Zw af 83],[aSs,yI,aSo,aSq]⟩,⟨.ret,[(0,.v ax)],[],[ax]⟩],λx=>Zle yD x⟩
theorem ZrW:ZjH.Ok:=aF fr [(0,Zhq),(0,Zet),(0,Zev),(0,Zex),(1,Zhs),(1,Zeu),(1,Zew),(1,Zey)] [ZqM,ZoZ] ⟨Zyf,Zwx,ao⟩ ⟨ZnZ,ZlB,ZlD,ZlF,Zn1,ZlC,ZlE,ZlG,ao⟩
def ZE4(F:Nat)(a0:Tx)(a1:dQ)(a2:dQ):yO (Tx):=
 (Zle F a0).bind λd=>
 match d with
 |.inl (c,_,a,_,b)=>
  if(ah ((a.length:Int) > 0))=af then
   if(aS 0 a.length)=af then
    (a[0]?).bind λe=>
    let f:aSu:=a.set 0 (e.1,((0:Int),([a1,a2]:yL dQ),(0:yU)))
    ab (f,b,c)
   else
   ae
  else
  ab (a,b,c)
 |.inr (.inl g)=>
  if(ah ((g.2.2.2.length:Int) > 0))=af then
   if(aS 0 g.2.2.2.length)=af then
    (g.2.2.2[0]?).bind λh=>
    let i:aSu:=g.2.2.2.set 0 (h.1,((0:Int),([a1,a2]:yL dQ),(0:yU)))
    ab (i,g.1,g.2.1)
   else
   ae
  else
  ab (g.2.2.2,g.1,g.2.1)
 |.inr (.inr (.inl j))=>
  if(ah ((j.1.length:Int) > 0))=af then
   (idx j.1 0).bind λk=>
   ae
  else
  ab (j.1,j.2.2.2,j.2.1)
 |.inr (.inr (.inr l))=>
  if(ah ((l.1.length:Int) > 0))=af then
   (idx l.1 0).bind λm=>
   ae
  else
  ab l
def RB(F:Nat):Fs yb:=⟨86,[.v ax,.v WV,.v WV],[],[ax,WV,WV],(zP ax),λx=>ZE4 F x.1 x.2.1 x.2.2⟩
def ZB8:Fs yb:=RB yD
def ZVp:HI:={ still:=[7],bM:=[14],deep:=[45]}
theorem ZA4:ZB8.Ok:=xn (fi:={ hi:=ZVp}) (aB:={ l:=[ZjH]}) (iw ⟨ZrW,ao⟩)
def ZrX(F:Nat):yO (PY):=
 ab ([[1,0,0,0,0,0,0,0,0,0,0,0,0,0,0,0,0,0,0,0,0,0,0,0,0,0,0,0,0,0,0,0],[2,0,0,0,0,0,0,0,0,0,0,0,0,0,0,0,0,0,0,0,0,0,0,0,0,0,0,0,0,0,0,0]],[(100,500,10,4,5,9000),(100,500,10,4,5,9000)],[9000,1000],0,2)
def RC(F:Nat):Fs yb:=⟨30,[],[],[],(zP ZjE),λx=>ZrX F⟩
def ZqN:Fs yb:=RC yD
theorem Zo9:ZqN.Ok:=aF {} [] [] trivial
def ZsW(F:Nat):(Int×Int×Out×Out×aSp×aSx)->yO ((Int×Int×Out×Out×aSp×aSx)⊕(Out×Out×aSp×aSx))
 |(b,a,d,e,f,c)=>
 if(ah (a < b))=af then
  if(aS a c.length)=af then
   (c[a.toNat]?).bind λg=>
   (ZU F g.1).bind λh=>
   if(aS a c.length)=af then
    (c[a.toNat]?).bind λi=>
    let j:aSx:=c.set a.toNat (h,i.2.1,i.2.2.1,i.2.2.2)
    ab (.inl (b,wi (a+1),d,e,f,j))
   else
   ae
  else
  ae
 else
 ab (.inr (d,e,f,c))
def Zvn:Lp:=⟨[(1,.am 0 []),(2,.am 1 []),(3,.rw 2),(10,.rw 2),(11,.v yI),(12,.v yI)],[.var (.v Zw) af,.var (.v Zw) af,.row Zg af 145],[yI,yI,Zw,Zw,aSo,aSw],[⟨.exit 0,[(1,.am 0 []),(2,.am 1 []),(3,.rw 2)],[.var (.v Zw) af,.var (.v Zw) af,.row Zg af 145],[Zw,Zw,aSo,aSw]⟩],Zb (ZsW yD) yD⟩
def ZUz:HI:={ still:=[8,20],bM:=[3,9,17],deep:=[83]}
theorem Zyg:Zvn.aT yb 89 0:=Zm ZUz [] [Z1] ⟨Z3,ao⟩
def RD(F:Nat)(a0:Out):yO (Out):=
 (XF F a0.2).bind λa=>
 (Zb (ZsW F) F ((a.2.length:Int),0,a0,(0,[]),a.1,a.2)).bind λb=>
 ab (b.1.1,b.2.2.2)
def RE:Fs yb:=⟨89,[.v Zw],[],[Zw],(zP Zw),λx=>RD yD x⟩
theorem Zvo:RE.Ok:=xn (fi:={ hi:=ZUz,lp:=[(0,Zvn)]}) (aB:={ l:=[OZ]}) (iw ⟨PA,ao⟩) ⟨Zyg,ao⟩
abbrev Wj:Ty:=(.st [Zw,yI])
abbrev fE:Type:=(Out×Int)
abbrev oD:Ty:=(.st [Zh,Wj])
abbrev QJ:Type:=(al×fE)
abbrev QJ.c(x:QJ):fE:=x.2
abbrev Zp:Ty:=(.st [(.sl oD),aSC])
abbrev Z9:Type:=((yL QJ)×aSE)
abbrev Z9.gone(x:Z9):(yL QJ):=x.1
abbrev _root_.aSG:=yL Z9
def ZsX(F:Nat):(Int×aSv×Int×Int×(yL (al×fE))×aSG)->yO ((Int×aSv×Int×Int×(yL (al×fE))×aSG)⊕(((yL (al×fE))×aSG)⊕((yL (al×fE))×aSG)))
 |(f,c,b,a,d,e)=>
 if(ah (a < b))=af then
  (idx c a).bind λg=>
  (Wd F g.2).bind λh=>
  if(!h)=af then
   ab (.inr (.inl (d,e)))
  else
  if(ah (g.1 < 0))=af then
   ab (.inr (.inl (d,e)))
  else
  if(ah (g.1 > (wi (1125899906842624 - f))))=af then
   ab (.inr (.inl (d,e)))
  else
  (RD F g).bind λi=>
  let j:(yL (al×fE)):=gU d (ct,a) (i,(0:Int))
  ab (.inl (wi (f+g.1),c,b,wi (a+1),j,e))
 else
 ab (.inr (.inr (d,e)))
abbrev _root_.aSF:Go.Ev.Ty:=.sl Zp
def Zvp:Lp:=⟨[(3,.am 1 []),(4,.v yI),(13,.v aSq),(14,.v yI),(15,.v yI)],[.map 178 Zh Wj,.var (.agg [.mp 0,.own 2 Zp]) af,.log Zp 190],[yI,aSq,yI,yI,(dL Zh Wj),aSF],[⟨.ret,[(2,.bE)],[.map 178 Zh Wj,.var (.agg [.mp 0,.own 2 Zp]) af,.log Zp 190],[(dL Zh Wj),aSF]⟩,⟨.exit 0,[(3,.am 1 [])],[.map 178 Zh Wj,.var (.agg [.mp 0,.own 2 Zp]) af,.log Zp 190],[(dL Zh Wj),aSF]⟩],Zb (ZsX yD) yD⟩
def ZUA:HI:={ still:=[2,21,46],bP:=[(12,[([1],Zp,190)])]}
theorem Zyh:Zvp.aT yb 33 0:=Zm ZUA [] [Q9,RE] ⟨Qi,Zvo,ao⟩
def ZI8(F:Nat)(a0:aSv):yO (Unit⊕((yL (al×fE))×aSG)):=
 if(ah ((a0.length:Int) > 256))=af then
  ab (.inl ())
 else
 (Zb (ZsX F) F (0,a0,(a0.length:Int),0,([]:yL (al×fE)),[])).bind λa=>
 match a with
 |.inl b=>
  ab (.inl ())
 |.inr c=>
  ab (.inr (c.1,c.2))
abbrev qV:List bf:=[.var (.agg [.mp 1,.own 2 Zp]) af,.map 178 Zh Wj,.log Zp 190]
def RF(F:Nat):Fs yb:=⟨33,[.v aSq],[],[aSq],[⟨.ret,[(0,.bE)],[],[]⟩,⟨.ret,[(0,.am 0 [])],qV,[(dL Zh Wj),aSF]⟩],λx=>ZI8 F x⟩
def ZHd:Fs yb:=RF yD
theorem ZE5:ZHd.Ok:=aF ZUA [(0,Zvp)] [] trivial ⟨Zyh,ao⟩
def ZA5(F:Nat)(a0:yU)(a1:yU):yO (ZG):=
 (AE F [a0,a1]).bind λa=>
 ab a
def ZxO:Fs yb:=⟨90,[.v .u64,.v .u64],[],[.u64,.u64],(zP Zk),λx=>ZA5 yD x.1 x.2⟩
theorem ZE6:ZxO.Ok:=aF { still:=[7]} [] [ON] ⟨ZxB,ao⟩
def Zyi(F:Nat)(a0:Chan):yO (ZG):=
 (a0.2.2.1[0]?).bind λa=>
 (a0.2.2.1[1]?).bind λb=>
 (ZA5 F a.1 b.1).bind λc=>
 ab c
def RG(F:Nat):Fs yb:=⟨34,[.v Z0],[],[Z0],(zP Zk),λx=>Zyi F x⟩
def Zwy:Fs yb:=RG yD
theorem Zvq:Zwy.Ok:=aF { still:=[6,10]} [] [ZxO] ⟨ZE6,ao⟩
def RH(F:Nat)(s:(aSy×Int×Int×ZG×XT×aSl×Zq)):yO ((aSy×Int×Int×ZG×XT×aSl×Zq)⊕((Int×ZG×XT×aSl×Zq)⊕(ZG×XT×aSl×Zq))):=
 if(ah (s.2.2.1 < s.2.1))=af then
  (idx s.1 s.2.2.1).bind λa=>
  (idx s.2.2.2.2.1.2.1 s.2.2.1).bind λb=>
  (uk F a s.2.2.2.2.2.1 b).bind λc=>
  if(!c)=af then
   ab (.inr (.inl (7,s.2.2.2.1,s.2.2.2.2.1,s.2.2.2.2.2.1,s.2.2.2.2.2.2)))
  else
  ab (.inl (s.1,s.2.1,wi (s.2.2.1+1),s.2.2.2.1,s.2.2.2.2.1,s.2.2.2.2.2.1,s.2.2.2.2.2.2))
 else
 ab (.inr (.inr (s.2.2.2.1,s.2.2.2.2.1,s.2.2.2.2.2.1,s.2.2.2.2.2.2)))
abbrev zS:List bf:=[.var (.v Zk) af,.var (.v Ya) af,.var (.v aSn) af,.var (.v Zg) af]
def Zvr:Lp:=⟨[(6,.am 1 []),(7,.am 2 []),(68,.v aSt),(69,.v yI),(70,.v yI)],zS,[aSt,yI,yI,Zk,Ya,aSn,Zg],[⟨.ret,[(10,.v yI)],zS,[yI,Zk,Ya,aSn,Zg]⟩,⟨.exit 1,[],zS,[Zk,Ya,aSn,Zg]⟩],Zb (RH yD) yD⟩
theorem Zyj:Zvr.aT yb 173 0:=Zm { still:=[10,14,53,75,76,81]} [] [ZsU] ⟨ZqL,ao⟩
def ZA6(F:Nat)(a0:ZG)(a1:XT)(a2:aSl)(a3:Int)(a4:Int):yO (Int):=
 (Wd F a0).bind λa=>
 if(!a)=af then
  ab 1
 else
 if(ah (a1.1 < 0))=af then
  ab 1
 else
 if(ah (a1.1 >= (a0.length:Int)))=af then
  ab 1
 else
 (idx a0 a1.1).bind λb=>
 if(ah (a3 < b.2.1))=af then
  ab 11
 else
 if(ah (a4 < b.2.2.1))=af then
  ab 11
 else
 if(b.2.2.2 !=0)=af then
  (Xb F a1.2.2).bind λc=>
  if(c !=b.2.2.2)=af then
   ab 23
  else
  if((a1.2.1.length:Int)!=(b.1.length:Int))=af then
   ab 7
  else
  (Zb (RH F) F (b.1,(b.1.length:Int),0,a0,a1,a2,b)).bind λd=>
  match d with
  |.inl e=>
   ab e.1
  |.inr f=>
   ab 0
 else
 if((a1.2.1.length:Int)!=(b.1.length:Int))=af then
  ab 7
 else
 (Zb (RH F) F (b.1,(b.1.length:Int),0,a0,a1,a2,b)).bind λg=>
 match g with
 |.inl h=>
  ab h.1
 |.inr i=>
  ab 0
def ZxP:Fs yb:=⟨173,[.v Zk,.v Ya,.v aSn,.v yI,.v yI],[],[Zk,Ya,aSn,yI,yI],(zP yI),λx=>ZA6 yD x.1 x.2.1 x.2.2.1 x.2.2.2.1 x.2.2.2.2⟩
theorem ZE7:ZxP.Ok:=aF { still:=[10,14,53,75,76,81]} [(0,Zvr)] [Q9,Q3] ⟨Qi,Qg,ao⟩ ⟨Zyj,ao⟩
abbrev qE:=Int×Int×(yL (al×fE))×aSG×Tx×aSl
abbrev ZUB:Type:=(Int×Int×aSu×qE)
abbrev ZVq:yL Ty:=[yI,yI,aSs,yI,yI,(dL Zh Wj),aSF,ax,aSn]
def BI:HI:={ still:=[6,7,21,32,55,57,58,59,63,74]}
def Zht(F:Nat):ZUB->yO (ZUB⊕((qE)⊕(Int×(yL (al×fE))×aSG×Tx×aSl)))
 |(f,i,c,b,a,d,g,h,e)=>
 if(ah (a < b))=af then
  (idx c a).bind λj=>
  lb (fY d j.1) (λk=>
   (ZA6 F k.1.2 j.2 e f (wi (f - k.2))).bind λl=>
   if(l !=0)=af then
    ab (.inr (.inl (0,l,d,g,h,e)))
   else
   ab (.inl (f,wi (i+k.1.1),c,b,wi (a+1),d,g,h,e))) (
   ab (.inr (.inl (0,5,d,g,h,e))))
 else
 ab (.inr (.inr (i,d,g,h,e)))
abbrev zF:List bf:=[.var (.agg [.mp 1,.own 2 Zp]) af,.map 178 Zh Wj,.log Zp 190,.var (.v ax) af,.var (.v aSn) af]
def ZjJ:Lp:=⟨[(0,.am 0 []),(2,.v yI),(4,.am 3 []),(8,.am 4 []),(9,.v yI),(35,.v aSs),(36,.v yI),(37,.v yI)],zF,ZVq,[⟨.ret,[(6,.v yI),(7,.v yI)],zF,[yI,yI,(dL Zh Wj),aSF,ax,aSn]⟩,⟨.exit 0,[(0,.am 0 []),(4,.am 3 []),(9,.v yI)],zF,[yI,(dL Zh Wj),aSF,ax,aSn]⟩],Zb (Zht yD) yD⟩
theorem Zpa:ZjJ.aT yb 91 0:=Zm BI [] [ZxP] ⟨ZE7,ao⟩
abbrev ZUC:Type:=(Int×aSE×qE)
def Zhu(F:Nat):ZUC->yO (ZUC⊕((qE)⊕(Int×(yL (al×fE))×aSG×Tx×aSl)))
 |(h,c,b,a,d,e,f,g)=>
 if(ah (a < b))=af then
  (idx c a).bind λi=>
  lb (fY d i) (λj=>
   ab (.inr (.inl (0,4,d,e,f,g)))) (
   ab (.inl (h,c,b,wi (a+1),d,e,f,g)))
 else
 ab (.inr (.inr (h,d,e,f,g)))
abbrev ZVr:yL Ty:=[yI,aSC,yI,yI,(dL Zh Wj),aSF,ax,aSn]
def ZjK:Lp:=⟨[(0,.am 0 []),(4,.am 3 []),(9,.v yI),(75,.v aSC),(76,.v yI),(77,.v yI)],zF,ZVr,[⟨.ret,[(6,.v yI),(7,.v yI)],zF,[yI,yI,(dL Zh Wj),aSF,ax,aSn]⟩,⟨.exit 2,[(4,.am 3 []),(9,.v yI)],zF,[yI,(dL Zh Wj),aSF,ax,aSn]⟩],Zb (Zhu yD) yD⟩
theorem Zpb:ZjK.aT yb 91 1:=Zm BI [] [] trivial
def Zhv(F:Nat):(Int×aSv×qE)->yO ((Int×aSv×qE)⊕(Int×(yL (al×fE))×aSG×Tx×aSl))
 |(d,c,b,a,e,f,g,h)=>
 if(ah (a < b))=af then
  (idx c a).bind λi=>
  ab (.inl (wi (d - i.1),c,b,wi (a+1),e,f,g,h))
 else
 ab (.inr (d,e,f,g,h))
abbrev ZVs:yL Ty:=[yI,aSq,yI,yI,(dL Zh Wj),aSF,ax,aSn]
def ZjL:Lp:=⟨[(9,.v yI),(93,.v aSq),(94,.v yI),(95,.v yI)],zF,ZVs,[⟨.exit 4,[(9,.v yI)],zF,[yI,(dL Zh Wj),aSF,ax,aSn]⟩],Zb (Zhv yD) yD⟩
theorem Zpc:ZjL.aT yb 91 2:=Zm BI [] [] trivial
def ZmH(F:Nat)(a1:Tx)(a2:Int)(s1:(yL (al×fE)))(s2:aSG):yO ((Int×Int×(yL (al×fE))×aSG)):=
 (bc F a1).bind λn=>
 if(!n)=af then
  ab (0,1,s1,s2)
 else
 if(ah (a2 < 1))=af then
  ab (0,1,s1,s2)
 else
 if(ah (a2 > 1048576))=af then
  ab (0,1,s1,s2)
 else
 (jM F a1).bind λo=>
 (Zb (Zht F) F (a2,0,a1.1,(a1.1.length:Int),0,s1,s2,a1,o)).bind λp=>
 match p with
 |.inl (a,b,c,d,_,_)=>
  ab (a,b,c,d)
 |.inr (j,k,l,i,m)=>
  (qh F i).bind λq=>
  (Zb (Zhu F) F (j,q,(q.length:Int),0,k,l,i,m)).bind λr=>
  match r with
  |.inl (a,b,c,d,_,_)=>
   ab (a,b,c,d)
  |.inr (d,f,g,e,h)=>
   (Zb (Zhv F) F (d,e.2.1,(e.2.1.length:Int),0,f,g,e,h)).bind λ(a,b,c,_,_)=>
   if(ah (a < 0))=af then
    ab (0,8,b,c)
   else
   ab (a,0,b,c)
def Zlf:Fs yb:=⟨91,[.am 0 [],.v ax,.v yI],qV,[ax,yI,(dL Zh Wj),aSF],[⟨.ret,[(0,.bi [.v yI,.v yI])],qV,[yI,yI,(dL Zh Wj),aSF]⟩],λx=>ZmH yD x.1 x.2.1 x.2.2.1 x.2.2.2⟩
theorem ZtO:Zlf.Ok:=aF BI [(0,ZjJ),(1,ZjK),(2,ZjL)] [oB,tY,AL] ⟨qe,tZ,OY,ao⟩ ⟨Zpa,Zpb,Zpc,ao⟩
abbrev BJ:Type:=(Int×aSE×Int×Int×(yL (al×fE))×aSG×Tx×aSE×(yL QJ))
def Zhw(F:Nat):BJ->yO (BJ⊕(Int×(yL (al×fE))×aSG×Tx×aSE×(yL QJ)))
 |(f,c,b,a,d,g,h,i,e)=>
 if(ah (a < b))=af then
  (idx c a).bind λj=>
  lb (fY d j) (λk=>
   if(bN e.length 1 80)=af then
    let l:(yL QJ):=e++([(j,k)]:yL QJ)
    ab (.inl (f,c,b,wi (a+1),lU d j,g,h,i,l))
   else
   ae) (
   if(bN e.length 1 80)=af then
    let m:(yL QJ):=e++([(j,((0,[]),0))]:yL QJ)
    ab (.inl (f,c,b,wi (a+1),lU d j,g,h,i,m))
   else
   ae)
 else
 ab (.inr (f,d,g,h,i,e))
def BK:yL bf:=[.var (.agg [.mp 1,.own 2 Zp]) af,.map 178 Zh Wj,.log Zp 190,.var (.v ax) af,.var (.agg [.own 5 oD,.v aSC]) af,.log oD 192]
abbrev ZUD:yL Ty:=[yI,aSC,yI,yI,(dL Zh Wj),aSF,ax,aSC,(.sl oD)]
def ZjM:Lp:=⟨[(0,.am 0 []),(2,.v yI),(4,.am 3 []),(9,.am 4 []),(28,.v aSC),(29,.v yI),(30,.v yI)],BK,ZUD,[⟨.exit 0,[(0,.am 0 []),(2,.v yI),(4,.am 3 []),(9,.am 4 [])],BK,[yI,(dL Zh Wj),aSF,ax,aSC,(.sl oD)]⟩],Zb (Zhw yD) yD⟩
def RI:HI:={ own:=[35,45,79,82],still:=[6,15,16,17,24,27,70],eJ:=[(9,[([0],oD,192)])]}
theorem Zpd:ZjM.aT yb 35 0:=Zm RI [] [] trivial
def Zhx(F:Nat):BJ->yO (BJ⊕((yL (al×fE))×aSG×Tx×aSE×(yL QJ)))
 |(e,c,b,a,f,g,d,h,i)=>
 if(ah (a < b))=af then
  (idx c a).bind λj=>
  (idx d.2.1 a).bind λk=>
  (RD F k).bind λl=>
  ab (.inl (e,c,b,wi (a+1),gU f j (l,e),g,d,h,i))
 else
 ab (.inr (f,g,d,h,i))
def ZjN:Lp:=⟨[(0,.am 0 []),(2,.v yI),(4,.am 3 []),(9,.am 4 []),(54,.v aSC),(55,.v yI),(56,.v yI)],BK,ZUD,[⟨.exit 2,[(0,.am 0 []),(9,.am 4 [])],BK,[(dL Zh Wj),aSF,ax,aSC,(.sl oD)]⟩],Zb (Zhx yD) yD⟩
theorem Zpe:ZjN.aT yb 35 1:=Zm RI [] [RE] ⟨Zvo,ao⟩
def Zwz(F:Nat)(a1:Tx)(a2:Int)(s1:(yL (al×fE)))(s2:aSG):yO ((Int×(yL (al×fE))×aSG)):=
 (ZmH F a1 a2 s1 s2).bind λk=>
 if(k.2.1 !=0)=af then
  ab (k.2.1,k.2.2.1,k.2.2.2)
 else
 (qh F a1).bind λl=>
 (tT F a1).bind λm=>
 (Zb (Zhw F) F (a2,m,(m.length:Int),0,k.2.2.1,k.2.2.2,a1,l,[])).bind λ(e,g,h,i,f,j)=>
 (Zb (Zhx F) F (e,f,(f.length:Int),0,g,h,i,f,j)).bind λ(d,a,_,c,b)=>
 if(bN a.length 1 48)=af then
  let n:aSG:=a++([(b,c)]:yL Z9)
  ab (0,d,n)
 else
 ae
def RJ(F:Nat):Fs yb:=⟨35,[.am 0 [],.v ax,.v yI],qV,[ax,yI,(dL Zh Wj),aSF],[⟨.ret,[(0,.v yI)],qV,[yI,(dL Zh Wj),aSF]⟩],λx=>Zwz F x.1 x.2.1 x.2.2.1 x.2.2.2⟩
def Zvs:Fs yb:=RJ yD
theorem ZtP:Zvs.Ok:=aF RI [(0,ZjM),(1,ZjN)] [Zlf,AL,OL] ⟨ZtO,OY,ZuX,ao⟩ ⟨Zpd,Zpe,ao⟩
def BL(F:Nat)(a0:aj):yO (aj):=
 ab (a0.1,a0.2.1,a0.2.2.1,a0.2.2.2.1,a0.2.2.2.2)
def RK:Fs yb:=⟨7,[.v Zc],[],[Zc],(zP Zc),λx=>BL yD x⟩
theorem ZjO:RK.Ok:=aF {} [] [] trivial
def Yj(F:Nat)(a0:Int)(a1:Int)(a2:Int):yO (Bool):=
 if(ah (a0 >= a1))=af then
  ab (ah (a0<=a2))
 else
 ab ag
def RL:Fs yb:=⟨136,[.v yI,.v yI,.v yI],[],[yI,yI,yI],(zP .bool),λx=>Yj yD x.1 x.2.1 x.2.2⟩
theorem ZjP:RL.Ok:=aF { still:=[6]} [] [] trivial
def Qn(F:Nat)(a0:aX):yO (Bool):=
 (Yj F a0.1 0 65536).bind λa=>
 if a=af then
  (Yj F a0.2.1 a0.1 1125899906842624).bind λb=>
  if b=af then
   (Yj F a0.2.2.1 1 4096).bind λc=>
   if c=af then
    (Yj F a0.2.2.2.1 0 16).bind λd=>
    if d=af then
     (Yj F a0.2.2.2.2.1 1 1125899906842624).bind λe=>
     if e=af then
      (Yj F a0.2.2.2.2.2 0 1125899906842624).bind λf=>
      ab f
     else
     ab ag
    else
    ab ag
   else
   ab ag
  else
  ab ag
 else
 ab ag
def Zgl:Fs yb:=⟨137,[.v ib],[],[ib],(zP .bool),λx=>Qn yD x⟩
def ZVt:HI:={ still:=[2,5,9,11,16,22,27,32]}
theorem Zpf:Zgl.Ok:=aF ZVt [] [RL] ⟨ZjP,ao⟩
def XG(F:Nat)(s:(yU×yU×yU)):yO ((yU×yU×yU)⊕yU):=
 if(ah (s.2.1 > 0))=af then
  if((s.2.1 % 2)==1)=af then
   ab (.inl ((s.1+s.1) % 4611686018427377339,s.2.1 / 2,(s.2.2+s.1) % 4611686018427377339))
  else
  ab (.inl ((s.1+s.1) % 4611686018427377339,s.2.1 / 2,s.2.2))
 else
 ab (.inr s.2.2)
def Zd4:Lp:=⟨[(0,.v .u64),(1,.v .u64),(5,.v .u64)],[],[.u64,.u64,.u64],[⟨.exit 0,[(5,.v .u64)],[],[.u64]⟩],Zb (XG yD) yD⟩
theorem Zkl:Zd4.aT yb 236 0:=Zm { still:=[4]} [] [] trivial
def V3(F:Nat)(a0:yU)(a1:yU):yO (yU):=
 (Zb (XG F) F (a0,a1,0)).bind λa=>
 ab a
def RM(F:Nat):Fs yb:=⟨236,[.v .u64,.v .u64],[],[.u64,.u64],(zP .u64),λx=>V3 F x.1 x.2⟩
def Zpg:Fs yb:=RM yD
theorem Zn3:Zpg.Ok:=aF { still:=[4]} [(0,Zd4)] [] trivial ⟨Zkl,ao⟩
end
end Go.Proofs.YtekdgjajmennjaaGreat
end
section
set_option maxRecDepth 4000
namespace Go.Proofs.YtekdgjajmennjaaGreat
open Go Go.Ev
theorem ql{z:Nat}:(yv (z % 4611686018427377339)).toNat=z % 4611686018427377339:=by
 rw[yan,yaf];exact Nat.lt_trans (ybb _ (by decide)) (by decide)
theorem ZOP{a b:yU}(ha:a.toNat < 4611686018427377339)(hb:b.toNat < 4611686018427377339):((a+b) % 4611686018427377339).toNat=(a.toNat+b.toNat) % 4611686018427377339:=by
 rw[UInt64.toNat_mod,UInt64.toNat_add,show(4611686018427377339:yU).toNat=4611686018427377339 from rfl,yaf (a:=a.toNat+b.toNat) (by omega)]
theorem RN:∀(k m:Nat)(A B O:yU),A.toNat < 4611686018427377339->O.toNat < 4611686018427377339->B.toNat < 2 ^ k->k < m->
 Zb (XG yD) m (A,B,O)=ab (yv ((O.toNat+A.toNat*B.toNat) % 4611686018427377339))
 |k,0,_,_,_,_,_,_,h=>by omega
 |0,m+1,A,B,O,hA,hO,h,_=>by
  have h0:B.toNat=0:=by rw[Nat.pow_zero]at h;omega
  have hn:¬B > 0:=by
   intro h2;have h3:0 < B.toNat:=ycc.1 h2;omega
  have hs:XG yD (A,B,O)=if ah (B > 0)=af then(if((B % 2)==1)=af then ab (.inl ((A+A) % 4611686018427377339,B / 2,(O+A) % 4611686018427377339)) else ab (.inl ((A+A) % 4611686018427377339,B / 2,O))) else ab (.inr O):=rfl
  unfold Zb;rw[hs]
  rw[yX (by rw[yN];exact hn),ya,h0,Nat.mul_zero,ybu,yaf hO,UInt64.ofNat_toNat]
 |k+1,m+1,A,B,O,hA,hO,h,hm=>by
  have hs:XG yD (A,B,O)=if ah (B > 0)=af then(if((B % 2)==1)=af then ab (.inl ((A+A) % 4611686018427377339,B / 2,(O+A) % 4611686018427377339)) else ab (.inl ((A+A) % 4611686018427377339,B / 2,O))) else ab (.inr O):=rfl
  unfold Zb;rw[hs];by_cases h2:B > 0
  .have h3:0 < B.toNat:=ycc.1 h2;have hsh:(B / 2).toNat=B.toNat / 2:=by rw[UInt64.toNat_div];rfl
   have hlt:(B / 2).toNat < 2 ^ k:=by
    rw[hsh];rw[Nat.pow_succ]at h;omega
   have hand:((B % 2)==1)=ah (B.toNat % 2=1):=by
    rw[Bool.eq_iff_iff,yT,yN, <-ybz,UInt64.toNat_mod];rfl
   have hA2:=ZOP hA hA;have hAl:((A+A) % 4611686018427377339).toNat < 4611686018427377339:=by rw[hA2];exact ybb _ (by decide)
   have hB:B.toNat=2*(B.toNat / 2)+B.toNat % 2:=by omega
   rw[yW (yY h2),hand];by_cases h4:B.toNat % 2=1
   .have hO2:=ZOP hO hA;have hOl:((O+A) % 4611686018427377339).toNat < 4611686018427377339:=by rw[hO2];exact ybb _ (by decide)
    rw[yW (yY h4),ya];dsimp only;rw[RN k m _ _ _ hAl hOl hlt (by omega),hA2,hO2,hsh];congr 2;rw[Nat.add_mod,Nat.mod_mod,Nat.mod_mul_mod, <-Nat.add_mod];congr 1
    conv=>rhs;rw[hB,h4,Nat.mul_add,Nat.mul_one, <-Nat.mul_assoc]
    rw[Nat.mul_two];omega
   .rw[yX (by rw[yN];exact h4),ya];dsimp only;rw[RN k m _ _ _ hAl hO hlt (by omega),hA2,hsh];congr 2;rw[Nat.add_mod,Nat.mod_mul_mod, <-Nat.add_mod];congr 1
    conv=>rhs;rw[hB,show B.toNat % 2=0 by omega,ybu, <-Nat.mul_assoc]
    rw[Nat.mul_two]
  .have h3:B.toNat=0:=by
    rcases Nat.eq_zero_or_pos B.toNat with h5|h5
    .exact h5
    .exact absurd (show(0:yU) < B from ycc.2 h5) h2
   rw[yX (by rw[yN];exact h2),ya,h3,Nat.mul_zero,ybu,yaf hO,UInt64.ofNat_toNat]
noncomputable def Zy(F:Nat)(a0:yU)(a1:yU):yO yU:=if ah (a0.toNat < 4611686018427377339)=af then ab (yv (a0.toNat*a1.toNat % 4611686018427377339)) else V3 F a0 a1
theorem ZL1(a b:yU):V3 yD a b=Zy yD a b:=by
 unfold Zy;split
 .rename_i h;unfold V3;rw[RN 64 yD a b 0 (yF h) (by decide) (UInt64.toNat_lt _) (by rw[lr];omega),ya,show(0:yU).toNat=0 from rfl,Nat.zero_add]
 .rfl
noncomputable def Zph(F:Nat):Fs yb:={ RM F with M:=λx=>Zy F x.1 x.2}
noncomputable def RO:Fs yb:=Zph yD
theorem Zez:RO.Ok:=ot (s:=RM yD) Zn3 λx=>(ZL1 x.1 x.2).symm
end Go.Proofs.YtekdgjajmennjaaGreat
end
section
set_option maxRecDepth 4000
namespace Go.Proofs.YtekdgjajmennjaaGreat
open Go Go.Ev
noncomputable section
def XH(F:Nat)(s:(yU×yU×yU)):yO ((yU×yU×yU)⊕yU):=
 if(ah (s.2.1 > 0))=af then
  if((s.2.1 % 2)==1)=af then
   (Zy F s.2.2 s.1).bind λa=>
   (Zy F s.1 s.1).bind λb=>
   ab (.inl (b,s.2.1 / 2,a))
  else
  (Zy F s.1 s.1).bind λc=>
  ab (.inl (c,s.2.1 / 2,s.2.2))
 else
 ab (.inr s.2.2)
def Zd5:Lp:=⟨[(0,.v .u64),(1,.v .u64),(5,.v .u64)],[],[.u64,.u64,.u64],[⟨.exit 0,[(5,.v .u64)],[],[.u64]⟩],Zb (XH yD) yD⟩
theorem Zkm:Zd5.aT yb 240 0:=Zm { still:=[4,11,12,14,15]} [] [RO] ⟨Zez,ao⟩
def V4(F:Nat)(a0:yU)(a1:yU):yO (yU):=
 (Zb (XH F) F (a0,a1,1)).bind λa=>
 ab a
def RP(F:Nat):Fs yb:=⟨240,[.v .u64,.v .u64],[],[.u64,.u64],(zP .u64),λx=>V4 F x.1 x.2⟩
def Zpi:Fs yb:=RP yD
theorem Zn4:Zpi.Ok:=aF { still:=[4,11,12,14,15]} [(0,Zd5)] [] trivial ⟨Zkm,ao⟩
end
end Go.Proofs.YtekdgjajmennjaaGreat
end
section
set_option maxRecDepth 4000
namespace Go.Proofs.YtekdgjajmennjaaGreat
open Go Go.Ev
theorem RQ:∀(k m:Nat)(A N O:yU),A.toNat < 4611686018427377339->O.toNat < 4611686018427377339->N.toNat < 2 ^ k->k < m->Zb (XH yD) m (A,N,O)=ab (yv (fa 4611686018427377339 k A.toNat N.toNat O.toNat))
 |k,0,_,_,_,_,_,_,h=>by omega
 |0,m+1,A,N,O,hA,hO,h,_=>by
  have hn:¬N > 0:=by
   intro h2;have h3:0 < N.toNat:=ycc.1 h2;rw[Nat.pow_zero]at h;omega
  have hs:XH yD (A,N,O)=if ah (N > 0)=af then(if((N % 2)==1)=af then(Zy yD O A).bind λo1=>(Zy yD A A).bind λo2=>ab (.inl (o2,N / 2,o1)) else(Zy yD A A).bind λo2=>ab (.inl (o2,N / 2,O))) else ab (.inr O):=rfl
  unfold Zb;rw[hs]
  rw[yX (by rw[yN];exact hn),ya,fa,UInt64.ofNat_toNat]
 |k+1,m+1,A,N,O,hA,hO,h,hm=>by
  have hs:XH yD (A,N,O)=if ah (N > 0)=af then(if((N % 2)==1)=af then(Zy yD O A).bind λo1=>(Zy yD A A).bind λo2=>ab (.inl (o2,N / 2,o1)) else(Zy yD A A).bind λo2=>ab (.inl (o2,N / 2,O))) else ab (.inr O):=rfl
  unfold Zb;rw[hs];by_cases h2:N > 0
  .have hp:0 < N.toNat->fa 4611686018427377339 (k+1) A.toNat N.toNat O.toNat=fa 4611686018427377339 k (A.toNat*A.toNat % 4611686018427377339) (N.toNat / 2) (if N.toNat % 2=1 then O.toNat*A.toNat % 4611686018427377339 else O.toNat):=λh=>by
    rw[fa,yX (by omega)]
   have h3:0 < N.toNat:=ycc.1 h2;have hsh:(N / 2).toNat=N.toNat / 2:=by rw[UInt64.toNat_div];rfl
   have hlt:(N / 2).toNat < 2 ^ k:=by
    rw[hsh];rw[Nat.pow_succ]at h;omega
   have hand:((N % 2)==1)=ah (N.toNat % 2=1):=by
    rw[Bool.eq_iff_iff,yT,yN, <-ybz,UInt64.toNat_mod];rfl
   have ml:∀z:Nat,z % 4611686018427377339 < 4611686018427377339:=λz=>ybb _ (by decide)
   have e1:Zy yD A A=ab (yv (A.toNat*A.toNat % 4611686018427377339)):=by
    unfold Zy;rw[yW (yY hA)]
   have e2:Zy yD O A=ab (yv (O.toNat*A.toNat % 4611686018427377339)):=by
    unfold Zy;rw[yW (yY hO)]
   rw[yW (yY h2),hand,hp h3,e1,e2];by_cases h4:N.toNat % 2=1
   .rw[yW (yY h4),yW h4,ya,ya,ya];dsimp only;rw[RQ k m _ _ _ (by rw[ql];exact ml _) (by rw[ql];exact ml _) hlt (by omega),ql,ql,hsh]
   .rw[yX (by rw[yN];exact h4),yX h4,ya,ya];dsimp only;rw[RQ k m _ _ _ (by rw[ql];exact ml _) hO hlt (by omega),ql,hsh]
  .have h3:N.toNat=0:=by
    rcases Nat.eq_zero_or_pos N.toNat with h5|h5
    .exact h5
    .exact absurd (show(0:yU) < N from ycc.2 h5) h2
   rw[yX (by rw[yN];exact h2),ya,fa,yW h3,UInt64.ofNat_toNat]
noncomputable def Y6(F:Nat)(a0:yU)(a1:yU):yO yU:=if ah (a0.toNat < 4611686018427377339)=af then ab (yv (fa 4611686018427377339 64 a0.toNat a1.toNat 1)) else V4 F a0 a1
theorem ZL2(a n:yU):V4 yD a n=Y6 yD a n:=by
 unfold Y6;split
 .rename_i h;unfold V4;rw[RQ 64 yD a n 1 (yF h) (by decide) (UInt64.toNat_lt _) (by rw[lr];omega),ya];rfl
 .rfl
noncomputable def Zpj(F:Nat):Fs yb:={ RP F with M:=λx=>Y6 F x.1 x.2}
noncomputable def RR:Fs yb:=Zpj yD
theorem ZeA:RR.Ok:=ot (s:=RP yD) Zn4 λx=>(ZL2 x.1 x.2).symm
end Go.Proofs.YtekdgjajmennjaaGreat
end
