/- Parts of the proof, in one file. -/
import Derived.Test.YtdhclndplbopgaaGreatKe
open Bool renaming and_eq_true → yi, eq_iff_iff → ycm
open Go.Proofs.Tryz renaming prog → yb
open Int renaming toNat_natCast → yar, tmod → yav
open List renaming length_append → yl, replicate → yy, length_map → yac, append_assoc → yad, length_take → yah, map_cons → yaj, getElem?_map → yan, getElem?_eq_none → yap, getElem?_cons_succ → yaq, getElem?_cons_zero → yau, map_append → ybb, length_set → ybn, ext_getElem? → ybs, take_append_drop → ybx, length_drop → yby, map_take → yck, length_replicate → ycq, getElem?_set_self → ycx, getD_eq_getElem?_getD → yda, getElem?_set_ne → ydb
open Nat renaming add → yr, mod_eq_of_lt → yaf, shiftRight → yag, mod_lt → ybc, add_zero → yce, two_pow_add_eq_or_of_lt → ycy, shiftRight_eq_div_pow → ydd
open Option renaming bind_some → ya
open UInt32 renaming toNat → yal, ofNat → ybp, toNat_ofNat' → ycp
open UInt64 renaming ofNat → yx, toNat_ofNat' → yaw, toNat_lt → ybo, toNat_inj → ybz, lt_iff_toNat_lt → yca, toNat_mod → ycr, le_iff_toNat_le → ycs
open UInt8 renaming toNat → yak, ofNat → yas
set_option linter.unusedVariables false
set_option linter.unusedSimpArgs false
section
set_option maxRecDepth 4000
namespace Go.Proofs.YtdhclndplbopgaaGreat
open Go Go.Ev Go.Sha
theorem Zj2(x:yV)(n k:Nat)(h:n+k=32)(hn:0 < n){z:Int}(hz:((w64 z)&&&31).toNat=k):∃o,ZX yD x z=some o/\o.toNat=lo (yag (dbl x.toNat) n):=by
 refine⟨_,rfl, ?_⟩;have e1:((((w64 z)&&&31).toNat:Int)).toNat=k:=by rw[hz];rfl
 have e2:(32 - ((w64 z)&&&31)).toNat=n:=by
  have h1:((w64 z)&&&31)=yx k:=ybz.1 (by rw[hz,yaw];omega);rw[h1,UInt64.toNat_sub,yaw];show(2 ^ 64 - k % 2 ^ 64+32) % 2 ^ 64=n;omega
 rw[e1,show((((32 - ((w64 z)&&&31)).toNat:Nat):Int)).toNat=n by rw[e2];rfl,Nat.min_eq_left (by omega),Nat.min_eq_left (by omega)];exact ZL4 x h hn
theorem ZNl{l:yL yB}{a b c d:yB}(ha:l[0]? =some a)(hb:l[1]? =some b)(hc:l[2]? =some c)(hd:l[3]? =some d):∃o,Zho yD l=some o/\o.toNat=((a.toNat*256+b.toNat)*256+c.toNat)*256+d.toNat:=by
 unfold Zho;rw[Zjv (i:=0) (by omega) ha,Zjv (i:=1) (by omega) hb,Zjv (i:=2) (by omega) hc,Zjv (i:=3) (by omega) hd];refine⟨_,rfl, ?_⟩;have h1:=a.toNat_lt;have h2:=b.toNat_lt;have h3:=c.toNat_lt;have h4:=d.toNat_lt
 have hs:∀(x:yB)(n:Nat),n<=24->(ZcO (ybp x.toNat) n).toNat=x.toNat*2 ^ n:=by
  intro x n hn;have hx:=x.toNat_lt;unfold ZcO;rw[ycp,ycp,yaf (a:=x.toNat) (by omega)];refine yaf ?_
  calc x.toNat*2 ^ n < 2 ^ 8*2 ^ n:=Nat.mul_lt_mul_of_pos_right hx (Nat.two_pow_pos n)
   _=2 ^ (8+n):=(Nat.pow_add ..).symm
   _<=2 ^ 32:=Nat.pow_le_pow_right (by omega) (by omega)
 rw[ZAi,ZAi,ZAi,hs _ _ (by omega),hs _ _ (by omega),hs _ _ (by omega),ycp,yaf (a:=d.toNat) (by omega)]
 have k1:Nat.lor (a.toNat*2 ^ 24) (b.toNat*2 ^ 16)=2 ^ 16*(a.toNat*256+b.toNat):=by
  rw[Nat.mul_comm a.toNat,show Nat.lor (2 ^ 24*a.toNat) (b.toNat*2 ^ 16)=2 ^ 24*a.toNat|||b.toNat*2 ^ 16 from rfl, <-ycy (by omega)]
  omega
 have k2:Nat.lor (2 ^ 16*(a.toNat*256+b.toNat)) (c.toNat*2 ^ 8)=2 ^ 8*((a.toNat*256+b.toNat)*256+c.toNat):=by
  rw[show Nat.lor (2 ^ 16*(a.toNat*256+b.toNat)) (c.toNat*2 ^ 8)=2 ^ 16*(a.toNat*256+b.toNat)|||c.toNat*2 ^ 8 from rfl, <-ycy (by omega)]
  omega
 rw[k1,k2,show Nat.lor (2 ^ 8*((a.toNat*256+b.toNat)*256+c.toNat)) d.toNat=2 ^ 8*((a.toNat*256+b.toNat)*256+c.toNat)|||d.toNat from rfl, <-ycy (by omega)]
 omega
theorem ZJy{l:yL yB}(h:l.length=64):∃o,Zdv yD l=some o/\o.length=64/\∀(i:Nat)x,i < 64->o[i]? =some x->x.toNat=wd (YG (l.map yak)) i:=by
 unfold Zdv;generalize hz:([0,0,0,0,0,0,0,0,0,0,0,0,0,0,0,0,0,0,0,0,0,0,0,0,0,0,0,0,0,0,0,0,0,0,0,0,0,0,0,0,0,0,0,0,0,0,0,0,0,0,0,0,0,0,0,0,0,0,0,0,0,0,0,0]:yL yV)=z;have hzl:z.length=64:=by rw[<-hz];rfl
 refine Exists.elim (V2 (step:=ZaR yD) (λs=>s.1=l/\0<=s.2.1/\s.2.1<=64/\s.2.2.length=64/\∀(j:Nat)x,(j:Int) < s.2.1->s.2.2[j]? =some x->x.toNat=wd (YG (l.map yak)) j) (λs=>(64 - s.2.1).toNat)
  (λo=>o.length=64/\∀(j:Nat)x,j < 64->o[j]? =some x->x.toNat=wd (YG (l.map yak)) j) ?_ (l,(0:Int),z) ⟨rfl,Int.le_refl _,by dsimp only;omega,hzl,λj x hj=>by dsimp only at hj;omega⟩ (by dsimp only;omega)) ?_
 rotate_left
 ·rintro o ⟨h1,h2⟩;exact⟨o,by rw[h1];rfl,h2⟩
 ·rintro⟨b,i,w⟩ ⟨hb,h0,h64,hw,hv⟩;dsimp only at hb h0 h64 hw hv;subst hb;unfold ZaR;dsimp only
  have hset:∀(y:yV),y.toNat=wd (YG (b.map yak)) i.toNat->i < 64->∀(j:Nat)x,(j:Int) < i+1->(w.set i.toNat y)[j]? =some x->x.toNat=wd (YG (b.map yak)) j:=by
   intro y hy hi j x hj hx;by_cases hji:j=i.toNat
   ·subst hji;rw[ycx (by omega)] at hx;cases hx;exact hy
   ·rw[ydb (Ne.symm hji)] at hx;exact hv j x (by omega) hx
  by_cases hi:i < 64
  ·left;rw[yW (yY hi)];obtain⟨e,he⟩:=Zdg (l:=w) (i:=i.toNat) (by omega);by_cases h16:i < 16
   ·rw[yW (yY h16),ZG (z:=4*i) (by omega) (by omega),yW (by simp only[ZaE,yi,yP];omega)];have g:∀k:Nat,k < 4->∃x,b[4*i.toNat+k]? =some x:=λk hk=>Zdg (by omega);obtain⟨x0,g0⟩:=g 0 (by omega);obtain⟨x1,g1⟩:=g 1 (by omega);obtain⟨x2,g2⟩:=g 2 (by omega);obtain⟨x3,g3⟩:=g 3 (by omega);have e4:(4*i).toNat=4*i.toNat:=by omega
    obtain⟨o,ho,hoe⟩:=ZNl (l:=b.drop (4*i).toNat) (by rw[List.getElem?_drop,e4];exact g0) (by rw[List.getElem?_drop,e4];exact g1) (by rw[List.getElem?_drop,e4];exact g2) (by rw[List.getElem?_drop,e4];exact g3);rw[ho,ya,yW (Yz h0 (by omega)),he,ya,ZG (z:=i+1) (by omega) (by omega)];refine⟨_,rfl,⟨rfl,by dsimp only;omega,by dsimp only;omega,by dsimp only;rw[ybn];exact hw,hset o ?_ hi⟩,by dsimp only;omega⟩;have mg:∀(k:Nat)(x:yB),b[k]? =some x->(b.map yak)[k]? =some x.toNat:=λk x hx=>by rw[yan,hx];rfl
    have hwg:=ZnW i.toNat (b.map yak) _ _ _ _ (mg _ _ g0) (mg _ _ g1) (mg _ _ g2) (mg _ _ g3);rw[hoe];have b0:=x0.toNat_lt;have b1:=x1.toNat_lt;have b2:=x2.toNat_lt;have b3:=x3.toNat_lt;exact(ZCm _ (by omega) hwg (by omega)).symm
   ·rw[yX (by simpa using h16)];rw[ZG (z:=i - 15) (by omega) (by omega),ZG (z:=i - 2) (by omega) (by omega),ZG (z:=i - 16) (by omega) (by omega),ZG (z:=i - 7) (by omega) (by omega),ZG (z:=i+1) (by omega) (by omega)];obtain⟨e1,he1⟩:=Zdg (l:=w) (i:=(i - 15).toNat) (by omega);obtain⟨e2,he2⟩:=Zdg (l:=w) (i:=(i - 2).toNat) (by omega);obtain⟨e3,he3⟩:=Zdg (l:=w) (i:=(i - 16).toNat) (by omega);obtain⟨e4,he4⟩:=Zdg (l:=w) (i:=(i - 7).toNat) (by omega);have v1:=hv _ _ (by omega) he1;have v2:=hv _ _ (by omega) he2;have v3:=hv _ _ (by omega) he3;have v4:=hv _ _ (by omega) he4;rw[yW (Yz (by omega) (by omega)),he1,ya,yW (Yz (by omega) (by omega)),he2,ya];obtain⟨o1,ho1,p1⟩:=Zj2 e1 7 25 rfl (by omega) (z:= -7) rfl;obtain⟨o2,ho2,p2⟩:=Zj2 e1 18 14 rfl (by omega) (z:= -18) rfl;obtain⟨o3,ho3,p3⟩:=Zj2 e2 17 15 rfl (by omega) (z:= -17) rfl;obtain⟨o4,ho4,p4⟩:=Zj2 e2 19 13 rfl (by omega) (z:= -19) rfl;rw[ho1,ya,ho2,ya,ho3,ya,ho4,ya];rw[yW (Yz (by omega) (by omega)),he3,ya,yW (Yz (by omega) (by omega)),he4,ya]
    try dsimp only
    rw[yW (Yz h0 (by omega)),he,ya];refine⟨_,rfl,⟨rfl,by dsimp only;omega,by dsimp only;omega,by dsimp only;rw[ybn];exact hw,hset _ ?_ hi⟩,by dsimp only;omega⟩;have hn:=ZAj (YG (b.map yak)) (i - 16).toNat
    rw[show(i - 16).toNat+16=i.toNat by omega,show(i - 16).toNat+1=(i - 15).toNat by omega,show(i - 16).toNat+9=(i - 7).toNat by omega,show(i - 16).toNat+14=(i - 2).toNat by omega, <-v1, <-v2, <-v3, <-v4] at hn;rw[hn];rw[ZbT,ZbT,ZbT,ZOk e1 p1 p2,ZOl e2 p3 p4];exact ZOq ..
  ·right;rw[yX (by simpa using hi)];exact⟨_,rfl,hw,λj x hj hx=>hv j x (by omega) hx⟩
theorem ZJz{st:yL yV}{l:yL yB}(hs:st.length=8)(h:l.length=64):∃o,Zav yD st l=some o/\o.map yal=ZlN (st.map yal) (YG (l.map yak)):=by
 unfold Zav;obtain⟨w,hw,hwl,hwv⟩:=ZJy h;obtain⟨k,hk,hkv⟩:∃k,ZnS yD=some k/\k.map yal=ks:=⟨_,rfl,rfl⟩;have hkl:k.length=64:=by rw[<-yac (f:=yal),hkv];rfl
 generalize hws:YG (l.map yak)=ws at hwv;rw[hw,ya,hk,ya]
 refine Exists.elim (V2 (step:=Zac yD) (λs=>0<=s.1/\s.1<=64/\s.2.1=st/\s.2.2.2.1=w/\s.2.2.2.2.1=k/\s.2.2.2.2.2.length=8/\s.2.2.2.2.2.map yal=rs ws (st.map yal) s.1.toNat) (λs=>(64 - s.1).toNat)
  (λo=>o.1=st/\o.2.2.2.2.length=8/\o.2.2.2.2.map yal=rs ws (st.map yal) 64) ?_ ((0:Int),st,([0,0,0,0,0,0,0,0]:yL yV),w,k,st) ⟨Int.le_refl _,by dsimp only;omega,rfl,rfl,rfl,hs,rfl⟩ (by dsimp only;omega)) ?_
 rotate_left
 ·rintro o ⟨h1,p0,p1,p2⟩;rw[h1,ya];have hml:(ZlN (st.map yal) ws).length=8:=Zit (by rw[yac];exact hs)
  refine Exists.elim (V2 (step:=Zad yD) (λs=>0<=s.1/\s.1<=8/\s.2.1=st/\s.2.2.2.2.2.length=8/\(∀(j:Nat)x,s.2.2.2.2.2[j]? =some x->if(j:Int) < s.1 then(ZlN (st.map yal) ws)[j]? =some x.toNat else(rs ws (st.map yal) 64)[j]? =some x.toNat)) (λs=>(8 - s.1).toNat)
   (λo=>o.2.2.2.2.map yal=ZlN (st.map yal) ws) ?_ ((0:Int),o.1,o.2.1,o.2.2.1,o.2.2.2.1,o.2.2.2.2) ⟨Int.le_refl _,by dsimp only;omega,p0,p1,λj x hx=>by
     dsimp only at hx ⊢;rw[yX (by omega), <-p2,yan,hx];rfl⟩ (by dsimp only;omega)) ?_
  rotate_left
  ·rintro q ⟨h2,q2⟩;rw[h2,ya];exact⟨_,rfl,q2⟩
  ·rintro⟨i,a,b,c,d,e⟩ ⟨h0,h8,ha,he,hv⟩;dsimp only at h0 h8 ha he hv;subst ha;unfold Zad;dsimp only;by_cases hi:i < 8
   ·left;obtain⟨e1,he1⟩:=Zdg (l:=e) (i:=i.toNat) (by omega);obtain⟨e2,he2⟩:=Zdg (l:=a) (i:=i.toNat) (by omega);simp only[yY hi,if_true,Yz h0 (show i < ((8:Nat):Int) by omega),he1,he2,ya];rw[ZG (z:=i+1) (by omega) (by omega)];refine⟨_,rfl,⟨by dsimp only;omega,by dsimp only;omega,rfl,by dsimp only;rw[ybn];exact he, ?_⟩,by dsimp only;omega⟩;intro j x hx;dsimp only at hx ⊢;by_cases hji:j=i.toNat
    ·subst hji;rw[ycx (by omega)] at hx;cases hx;rw[yW (by omega),ZbT];have k1:=hv _ _ he1;rw[yX (by omega)] at k1;unfold ZlN;rw[List.getElem?_zipWith,k1,yan,he2];rfl
    ·rw[ydb (Ne.symm hji)] at hx;have k1:=hv j x hx;by_cases hj:(j:Int) < i
     ·rw[yW hj] at k1;rw[yW (by omega)];exact k1
     ·rw[yX hj] at k1;rw[yX (by omega)];exact k1
   ·right;rw[yX (by simpa using hi)];refine⟨_,rfl, ?_⟩;dsimp only;apply ybs;intro j;rw[yan];by_cases hj:j < 8
    ·obtain⟨x,hx⟩:=Zdg (l:=e) (i:=j) (by omega);have:=hv j x hx;rw[yW (by omega)] at this;rw[hx,this];rfl
    ·rw[yap (by omega),yap (by omega)];rfl
 ·rintro⟨i,a,b,c,d,e⟩ ⟨h0,h64,ha,hc,hd,he,hv⟩;dsimp only at h0 h64 ha hc hd he hv;subst ha hc hd;unfold Zac;dsimp only;by_cases hi:i < 64
  ·left
   match e,he,hv with
   |[x0,x1,x2,x3,x4,x5,x6,x7],_,hv=>
    obtain⟨e1,he1⟩:=Zdg (l:=d) (i:=i.toNat) (by omega);obtain⟨e2,he2⟩:=Zdg (l:=c) (i:=i.toNat) (by omega);obtain⟨o1,ho1,p1⟩:=Zj2 x4 6 26 rfl (by omega) (z:= -6) rfl;obtain⟨o2,ho2,p2⟩:=Zj2 x4 11 21 rfl (by omega) (z:= -11) rfl;obtain⟨o3,ho3,p3⟩:=Zj2 x4 25 7 rfl (by omega) (z:= -25) rfl;obtain⟨o4,ho4,p4⟩:=Zj2 x0 2 30 rfl (by omega) (z:= -2) rfl;obtain⟨o5,ho5,p5⟩:=Zj2 x0 13 19 rfl (by omega) (z:= -13) rfl;obtain⟨o6,ho6,p6⟩:=Zj2 x0 22 10 rfl (by omega) (z:= -22) rfl;generalize ZX yD=R at ho1 ho2 ho3 ho4 ho5 ho6 ⊢;rw[yW (yY hi)];simp only[yau,yaq];rw[ya,ho1,ya,ya,ho2,ya,ya,ho3,ya,ya,ya,ya,ya,ya];rw[yW (Yz h0 (show i < ((64:Nat):Int) by omega)),he1,ya,yW (Yz h0 (show i < ((64:Nat):Int) by omega)),he2,ya,ya,ho4,ya,ya,ho5,ya,ya,ho6];rw[ya,ya,ya,ya,ya,ya];rw[ya,ya,ya,ya,ya,ya,ya];rw[ZG (z:=i+1) (by omega) (by omega)];refine⟨_,rfl,⟨by dsimp only;omega,by dsimp only;omega,rfl,rfl,rfl,rfl, ?_⟩,by dsimp only;omega⟩;dsimp only;rw[show(i+1).toNat=i.toNat+1 by omega,show rs ws (a.map yal) (i.toNat+1)=rnd (rs ws (a.map yal) i.toNat) (ks.getD i.toNat 0) (wd ws i.toNat) from rfl, <-hv]
    have hk1:ks.getD i.toNat 0=e1.toNat:=by
     rw[<-hkv,yda,yan,he1];rfl
    rw[hk1, <-hwv i.toNat e2 (by omega) he2];simp only[yaj,List.map_nil];rw[Zwt]
    have kt:((x7+((o1^^^o2)^^^o3))+(x6^^^(x4&&&(x5^^^x6)))+e1+e2).toNat=lo (yr (yr (yr (yr x7.toNat (S1 x4.toNat)) (ch x4.toNat x5.toNat x6.toNat)) e1.toNat) e2.toNat):=by
     rw[ZbT,ZbT,ZbT,ZbT,ZOn x4 p1 p2 p3,ZOo];exact ZOr ..
    have ka:((x7+((o1^^^o2)^^^o3))+(x6^^^(x4&&&(x5^^^x6)))+e1+e2+((o4^^^o5)^^^o6)+((x0&&&x1)|||(x2&&&(x0|||x1)))).toNat=lo (yr (yr (yr (yr (yr (yr x7.toNat (S1 x4.toNat)) (ch x4.toNat x5.toNat x6.toNat)) e1.toNat) e2.toNat) (S0 x0.toNat)) (mj x0.toNat x1.toNat x2.toNat)):=by
     rw[ZbT,ZbT,kt,ZOm x0 p4 p5 p6,ZOp];exact ZOs ..
    have ke:(x3+(((x7+((o1^^^o2)^^^o3))+(x6^^^(x4&&&(x5^^^x6))))+e1+e2)).toNat=lo (yr x3.toNat (yr (yr (yr (yr x7.toNat (S1 x4.toNat)) (ch x4.toNat x5.toNat x6.toNat)) e1.toNat) e2.toNat)):=by
     rw[ZbT,kt];exact ZOt ..
    rw[ka,ke]
  ·right;rw[yX (by simpa using hi)];have e64:i=64:=by omega
   subst e64;exact⟨_,rfl,rfl,he,hv⟩
def Zb2(n:Nat):yL yB:=(be8 n).map yas
theorem ZuH{n:Nat}{b:yL yB}(h:b.length<=1000000000000):Vr yD (n:Int) b=some (b++Zb2 n):=by
 unfold Vr
 obtain⟨o,h1,h2⟩:=V2 (step:=ZbL yD) (λs=>∃k:Nat,k<=8/\s.1=(n:Int)/\s.2.1=56 - 8*(k:Int)/\s.2.2.1=b++(Zb2 n).take k) (λs=>(s.2.1+8).toNat) (λo=>o.1=b++Zb2 n) (by
  rintro⟨a,i,c,d⟩ ⟨k,hk,ha,hi,hc⟩;dsimp only at ha hi hc;subst ha;unfold ZbL;dsimp only;have hcl:c.length<=b.length+8:=by rw[hc,yl,yah];omega
  by_cases h0:i >= 0
  ·left;rw[yW (yY h0),yW (yY h0),yW (ZD (by omega) (by omega)),ZG (z:=i - 8) (by omega) (by omega)];refine⟨_,rfl,⟨k+1,by omega,rfl,by dsimp only;omega, ?_⟩,by dsimp only;omega⟩;dsimp only
   have hw:∀m:Nat,w8 (Int.fdiv (n:Int) (2 ^ m))=yas (n / 2 ^ m % 256):=by
    intro m;unfold w8;rw[Int.fdiv_eq_ediv_of_nonneg _ (by exact Int.le_of_lt (Int.pow_pos (by omega)))];congr 1
   have hmin:min i.toNat 64=56 - 8*k:=by omega
   rw[hmin,hw,hc,yad];congr 1;have hk8:k < 8:=by omega
   match k,hk8 with
   |0,_=>rfl
   |1,_=>rfl
   |2,_=>rfl
   |3,_=>rfl
   |4,_=>rfl
   |5,_=>rfl
   |6,_=>rfl
   |7,_=>
    show _++[yas (n / 2 ^ 0 % 256)]=_;rw[Nat.pow_zero,Nat.div_one];rfl
  ·right;rw[yX (by simpa using h0)];have hk8:k=8:=by omega
   subst hk8;exact⟨_,rfl,hc⟩) (((n:Int),(56:Int),b,([]:yL yB))) ⟨0,by omega,rfl,by simp,by simp⟩ (by dsimp only;omega)
 rw[h1,ya,h2]
theorem ZNm{l:yL yB}(h:l.length<=4294967296):Zis yD l=some (sha l):=by
 unfold Zis
 have hm:yav (l.length:Int) 64=((l.length % 64:Nat):Int):=by
  rw[Int.tmod_eq_emod_of_nonneg (by omega)];omega
 have hlt:l.length % 64 < 64:=ybc _ (by omega);have hle:l.length % 64<=l.length:=Nat.mod_le _ _;rw[hm,ZG (z:=(l.length:Int) - ((l.length % 64:Nat):Int)) (by omega) (by omega)];dsimp only;rw[yW (by simp only[ZaE,yi,yP];omega)];have hq:((l.length:Int) - ((l.length % 64:Nat):Int)).toNat=64*(l.length / 64):=by omega
 rw[hq]
 have hdl:(l.drop (64*(l.length / 64))).length=l.length % 64:=by
  rw[yby];omega
 generalize ht:l.drop (64*(l.length / 64))=t at hdl
 have hcl:YB yD t=some t:=by
  unfold YB;rw[yW (ZD (by omega) (by omega))]
 rw[hcl,ya,yW (ZD (by omega) (by omega))];generalize hz:yzz=z;have hzl:z.length=32:=by rw[<-hz];rfl
 have hzs:zs l.length=(119 - t.length) % 64:=by unfold zs;rw[hdl]
 obtain⟨o,h1,p1,p2,p3⟩:=V2 (step:=Zfd yD) (λs=>s.1=l/\s.2.1=z/\∃j,j<=zs l.length/\s.2.2=t++([128]:yL yB)++yy j 0) (λs=>184 - s.2.2.length)
  (λo=>o.1=l/\o.2.1=z/\o.2.2=t++([128]:yL yB)++yy (zs l.length) 0) (by
  rintro⟨a,b,c⟩ ⟨k1,k2,j,k3,k4⟩;dsimp only at k1 k2 k3 k4;have hcl:c.length=t.length+1+j:=by rw[k4,yl,yl,ycq];rfl
  unfold Zfd;dsimp only
  have hm:yav (c.length:Int) 64=((c.length % 64:Nat):Int):=by
   rw[Int.tmod_eq_emod_of_nonneg (by omega)];omega
  rw[hm];by_cases hi:c.length % 64=56
  ·right;rw[yX (by simp;omega)];have:j=zs l.length:=by omega
   subst this;exact⟨_,rfl,k1,k2,k4⟩
  ·left;rw[yW (by simp;omega),yW (ZD (by omega) (by omega))];have hj:j≠zs l.length:=λe=>hi (by omega);refine⟨_,rfl,⟨k1,k2,j+1,by omega, ?_⟩, ?_⟩
   ·dsimp only;rw[k4,yad,List.replicate_succ',yad]
   ·dsimp only;rw[yl,List.length_singleton];omega) (l,z,t++([128]:yL yB)) ⟨rfl,rfl,0,Nat.zero_le _,by simp⟩ (by dsimp only;omega)
 rw[h1,ya,p1,p2,p3,ZG (z:=8*(l.length:Int)) (by omega) (by omega),show 8*(l.length:Int)=((8*l.length:Nat):Int) by omega,ZuH (by
  rw[yl,yl,ycq];simp;omega),ya]
 obtain⟨f,hf,hfl⟩:∃f,ZnR yD=some f/\f.map yal=ZeU:=⟨_,rfl,rfl⟩;have hf8:f.length=8:=by rw[<-yac (f:=yal),hfl];rfl
 rw[hf,ya];generalize hE:t++([128]:yL yB)++yy (zs l.length) 0++Zb2 (8*l.length)=E
 have hEl:E.length=64*((t.length+72) / 64):=by
  rw[<-hE];simp only[yl,ycq,List.length_singleton,Zb2,yac,be8,List.length_cons,List.length_nil];omega
 obtain⟨o3,h3,r1,r2,r3,r4⟩:=V2 (step:=Zfe yD) (λs=>s.2.1=z/\s.2.2.1=E/\s.2.2.2.length=8/\∃c,c<=l.length / 64/\s.1=l.drop (64*c)/\s.2.2.2.map yal=Ziu c (l.map yak) ZeU) (λs=>s.1.length)
  (λx=>x.1=z/\x.2.1=E/\x.2.2.length=8/\x.2.2.map yal=Ziu (l.length / 64) (l.map yak) ZeU) (by
  rintro⟨a,b,c,d⟩ ⟨k1,k2,k3,j,k4,k5,k6⟩;dsimp only at k1 k2 k3 k4 k5 k6;have hal:a.length=l.length - 64*j:=by rw[k5,yby]
  unfold Zfe;dsimp only;by_cases hi:(a.length:Int) >= 64
  ·left;obtain⟨m,hm1,hm2⟩:=ZJz (st:=d) (l:=a.take 64) k3 (by rw[yah];omega);rw[yW (yY hi),yW (by simp only[ZaE,yi,yP];omega),hm1,ya,yW (by simp only[ZaE,yi,yP];omega)];refine⟨_,rfl,⟨k1,k2, ?_,j+1,by omega, ?_, ?_⟩,by dsimp only;rw[yby];omega⟩
   ·dsimp only;rw[<-yac (f:=yal),hm2];exact Zit (by rw[yac];exact k3)
   ·dsimp only;rw[k5,List.drop_drop];congr 1
   ·dsimp only;rw[hm2,ZoT,k6,k5,yck,List.map_drop]
  ·right;rw[yX (by simpa using hi)];have:j=l.length / 64:=by omega
   subst this;exact⟨_,rfl,k1,k2,k3,k6⟩) (l,z,E,f) ⟨rfl,rfl,hf8,0,Nat.zero_le _,by simp,hfl⟩ (by dsimp only;omega)
 rw[h3,ya,r1,r2];generalize hv1:Ziu (l.length / 64) (l.map yak) ZeU=v1 at r4
 obtain⟨o4,h4,s1,s2,s3⟩:=V2 (step:=Zff yD) (λs=>s.2.1=z/\s.2.2.2.length=8/\∃c,c<=E.length / 64/\s.1=E.drop (64*c)/\s.2.2.2.map yal=Ziu c (E.map yak) v1) (λs=>s.1.length)
  (λx=>x.1=z/\x.2.2.length=8/\x.2.2.map yal=Ziu (E.length / 64) (E.map yak) v1) (by
  rintro⟨a,b,c,d⟩ ⟨k1,k3,j,k4,k5,k6⟩;dsimp only at k1 k3 k4 k5 k6;have hal:a.length=E.length - 64*j:=by rw[k5,yby]
  unfold Zff;dsimp only;by_cases hi:(a.length:Int) > 0
  ·left;obtain⟨m,hm1,hm2⟩:=ZJz (st:=d) (l:=a.take 64) k3 (by rw[yah];omega);rw[yW (yY hi),yW (by simp only[ZaE,yi,yP];omega),hm1,ya,yW (by simp only[ZaE,yi,yP];omega)];refine⟨_,rfl,⟨k1, ?_,j+1,by omega, ?_, ?_⟩,by dsimp only;rw[yby];omega⟩
   ·dsimp only;rw[<-yac (f:=yal),hm2];exact Zit (by rw[yac];exact k3)
   ·dsimp only;rw[k5,List.drop_drop];congr 1
   ·dsimp only;rw[hm2,ZoT,k6,k5,yck,List.map_drop]
  ·right;rw[yX (by simpa using hi)];have:j=E.length / 64:=by omega
   subst this;exact⟨_,rfl,k1,k3,k6⟩) (E,z,E,o3.2.2) ⟨rfl,r3,0,Nat.zero_le _,by simp,r4⟩ (by dsimp only;omega)
 rw[h4,ya];generalize hv2:Ziu (E.length / 64) (E.map yak) v1=v2 at s3
 obtain⟨o5,h5,t1,t2⟩:=V2 (step:=Zfg yD) (λs=>0<=s.1/\s.1<=32/\s.2.1.length=32/\s.2.2.2=o4.2.2/\∀(j:Nat),(j:Int) < s.1->s.2.1[j]? =some (Go.Sha.ZJx v2 j)) (λs=>(32 - s.1).toNat)
  (λx=>x.1.length=32/\∀(j:Nat),j < 32->x.1[j]? =some (Go.Sha.ZJx v2 j)) (by
  rintro⟨i,a,b,c⟩ ⟨h0,h32,ha,hc,hv⟩;dsimp only at h0 h32 ha hc hv;subst hc;unfold Zfg;dsimp only;by_cases hi:i < 32
  ·left;rw[yW (yY hi)];have e1:Int.tdiv i 4=i / 4:=Int.tdiv_eq_ediv_of_nonneg h0;have e2:yav i 4=i % 4:=Int.tmod_eq_emod_of_nonneg h0;rw[e1,e2,ZG (z:=i / 4) (by omega) (by omega),ZG (z:=8*(i % 4)) (by omega) (by omega),ZG (z:=24 - 8*(i % 4)) (by omega) (by omega),ZG (z:=i+1) (by omega) (by omega)];obtain⟨x1,hx1⟩:=Zdg (l:=o4.2.2) (i:=(i / 4).toNat) (by omega);obtain⟨x2,hx2⟩:=Zdg (l:=a) (i:=i.toNat) (by omega);rw[yW (Yz (by omega) (by omega)),hx1,ya,yW (yY (by omega))]
   try dsimp only
   rw[yW (Yz (by omega) (by omega)),hx2,ya];refine⟨_,rfl,⟨by dsimp only;omega,by dsimp only;omega,by dsimp only;rw[ybn];exact ha,rfl, ?_⟩,by dsimp only;omega⟩;intro j hj;dsimp only at hj ⊢;by_cases hji:j=i.toNat
   ·subst hji;rw[ycx (by omega)];congr 1;unfold Go.Sha.ZJx
    have hx:v2.getD (i.toNat / 4) 0=x1.toNat:=by
     rw[<-s3,yda,yan,show i.toNat / 4=(i / 4).toNat by omega,hx1];rfl
    rw[hx,show min (24 - 8*(i % 4)).toNat 32=24 - 8*(i.toNat % 4) by omega,Zyw];unfold w8;have e3:∀m:Nat,(((m:Nat):Int) % 256).toNat=m % 256:=λm=>by omega
    rw[e3,show yag x1.toNat (24 - 8*(i.toNat % 4))=x1.toNat >>> (24 - 8*(i.toNat % 4)) from rfl,ydd]
    exact UInt8.toNat_inj.1 (by simp)
   ·rw[ydb (Ne.symm hji)];exact hv j (by omega)
  ·right;rw[yX (by simpa using hi)];exact⟨_,rfl,ha,λj hj=>hv j (by omega)⟩) ((0:Int),o4.1,o4.2.1,o4.2.2) ⟨Int.le_refl _,by dsimp only;omega,by dsimp only;rw[s1];exact hzl,rfl,λj hj=>by dsimp only at hj;omega⟩ (by dsimp only;omega)
 rw[h5,ya,ZEo];congr 1
 have hpad:Ziv l=(l.take (64*(l.length / 64))).map yak++E.map yak:=by
  unfold Ziv;rw[<-hE, <-ht];simp only[ybb,List.map_replicate,yaj,List.map_nil,Zb2,List.map_map];rw[<-yad, <-yad, <-yad, <-ybb,ybx]
  have:be8 (8*l.length)=(be8 (8*l.length)).map (yak ∘ yas):=by
   simp[be8]
  rw[<-this];simp
 have hw:((l.take (64*(l.length / 64))).map yak).length=64*(l.length / 64):=by
  rw[yac,yah];omega
 have hv:v2=Ziu ((l.length+72) / 64) (Ziv l) ZeU:=by
  rw[hpad,show(l.length+72) / 64=l.length / 64+E.length / 64 by omega,Zwv _ _ _ _ _ hw, <-hv2, <-hv1];congr 1;have:=Zwv (l.length / 64) 0 _ ((l.drop (64*(l.length / 64))).map yak) ZeU hw;rw[<-ybb,ybx,yce] at this;exact this
 rw[<-hv];apply ybs;intro j;by_cases hj:j < 32
 ·rw[t2 j hj,yan,List.getElem?_range hj];rfl
 ·rw[yap (by omega),yap (by simp;omega)]
noncomputable def ZhK(F:Nat)(a0:yL yB):yO (yL yB):=if decide (a0.length<=4294967296)=true then some (sha a0) else Zis F a0
noncomputable def ZCn(F:Nat):Fs yb:={ ZlM F with M:=λx=>ZhK F x}
noncomputable def Zwx:Fs yb:=ZCn yD
theorem ZCo:Zwx.Ok:=Zqq (s:=ZlM yD) ZAh λx=>by
 show ZhK yD x=Zis yD x;unfold ZhK;split
 ·rename_i h;exact(ZNm (yF h)).symm
 ·rfl
theorem ZFL{l:yL yB}(h:l.length<=4294967296):ZhK yD l=some (sha l):=yW (yY h)
end Go.Proofs.YtdhclndplbopgaaGreat
end
section
set_option maxRecDepth 4000
namespace Go.Proofs.YtdhclndplbopgaaGreat
open Go Go.Ev
noncomputable section
def Zk1:Fs yb:=⟨201,[.nil .u8,.v yI],[],[yI],Zbk.xs,λx=>Zbk.M (x,([]:yL yB))⟩
theorem ZrF:Zk1.Ok:=ZM0 (i1:=[yI]) (i2:=[yI,(.sl .u8)]) (λx=>(x,([]:yL yB))) Zgv (λ_=>rfl) (λ_=>⟨_,rfl⟩)
def Qc(F:Nat)(s:((yL (yL yB))×Int×Int×(yL yB)×(yL yB))):yO (((yL (yL yB))×Int×Int×(yL yB)×(yL yB))⊕((yL yB)×(yL yB))):=
 if(decide (s.2.2.1 < s.2.1))=true then
  (idx s.1 s.2.2.1).bind λe409=>
  (Vr F (e409.length:Int) s.2.2.2.2).bind λo410=>
  if(apB o410.length e409.length 1)=true then
   some (.inl (s.1,s.2.1,wi (s.2.2.1+1),s.2.2.2.1,o410++e409))
  else
  none
 else
 some (.inr (s.2.2.2.1,s.2.2.2.2))
def ZtP:Lp:=⟨[(4,.ref 0 []),(5,.own 1 .u8),(13,.v (.sl (.sl .u8))),(14,.v yI),(15,.v yI)],zR,[(.sl (.sl .u8)),yI,yI,(.arr 32 .u8),(.sl .u8)],[⟨.exit 0,[(4,.ref 0 []),(5,.own 1 .u8)],zR,[(.arr 32 .u8),(.sl .u8)]⟩],Zb (Qc yD) yD⟩
def ZOv:HI:={ own:=[5,10,12,19,22,24],still:=[9,19,21,26]}
theorem Zwy:ZtP.okA yb 117 0:=Zx ZOv [] [Zbk] ⟨Zgv,ytt⟩
def ZbM(F:Nat)(a0:ByteArray)(a1:(yL (yL yB))):yO ((yL yB)):=
 (Vr F (a0.size:Int) []).bind λo408=>
 if(apB o408.length ((Zi6 a0).length) 1)=true then
  (Zb (Qc F) F (a1,(a1.length:Int),0,yzz,o408++(Zi6 a0))).bind λo411=>
  (ZhK F o411.2).bind λo412=>
  some o412
 else
 none
def ZlO:Fs yb:=⟨117,[.v .str,.v (.sl (.sl .u8))],[],[.str,(.sl (.sl .u8))],(zE (.arr 32 .u8)),λx=>ZbM yD x.1 x.2⟩
theorem ZnX:ZlO.Ok:=fnO ZOv [(0,ZtP)] [Zk1,Zwx] ⟨ZrF,ZCo,ytt⟩ ⟨Zwy,ytt⟩
def Zfh(F:Nat)(a0:(yL yB))(a1:(yL yB)):yO ((yL yB)):=
 (ZcB F a0 a1).bind λo413=>
 some o413
def ZnY:Fs yb:=⟨203,[.v (.sl .u8),.v (.arr 32 .u8)],[],[(.sl .u8),(.arr 32 .u8)],(zE (.sl .u8)),λx=>Zfh yD x.1 x.2⟩
theorem Zul:ZnY.Ok:=fnO { still:=[4,5,6],frz:=[6]} [] [ZjB] ⟨ZlI,ytt⟩
def Zdw(F:Nat)(a0:(yL yB))(a1:(yL yB)):yO ((yL yB)):=
 (ZkW F (a1.length:Int)).bind λo414=>
 (XE F [a0,o414,a1]).bind λo415=>
 some o415
def ZmG:Fs yb:=⟨204,[.v (.sl .u8),.v (.sl .u8)],[],[(.sl .u8),(.sl .u8)],(zE (.sl .u8)),λx=>Zdw yD x.1 x.2⟩
theorem ZsL:ZmG.Ok:=fnO { still:=[4,7,10]} [] [Zqu,VS] ⟨ZtJ,Zbf,ytt⟩
def Zhr(F:Nat)(s:((yL yB)×(yL In)×Int×Int×Tx)):yO (((yL yB)×(yL In)×Int×Int×Tx)⊕((yL yB)×Tx)):=
 if(decide (s.2.2.2.1 < s.2.2.1))=true then
  (idx s.2.1 s.2.2.2.1).bind λe417=>
  (Zfh F s.1 e417.1.1).bind λo418=>
  (V3 F o418 e417.1.2).bind λo419=>
  some (.inl (o419,s.2.1,s.2.2.1,wi (s.2.2.2.1+1),s.2.2.2.2))
 else
 some (.inr (s.1,s.2.2.2.2))
def ZtQ:Lp:=⟨[(1,.ref 0 []),(3,.v (.sl .u8)),(13,.v (.sl yIn)),(14,.v yI),(15,.v yI)],[.var (.v yTx) true],[(.sl .u8),(.sl yIn),yI,yI,yTx],[⟨.exit 0,[(1,.ref 0 []),(3,.v (.sl .u8))],[.var (.v yTx) true],[(.sl .u8),yTx]⟩],Zb (Zhr yD) yD⟩
def ZNn:HI:={ still:=[2,10,19,22,23,26,29,32,41,43,44,46,47,50,52]}
theorem Zwz:ZtQ.okA yb 118 0:=Zx ZNn [] [ZnY,ZeP] ⟨Zul,ZfD,ytt⟩
def Zhs(F:Nat)(s:((yL yB)×(yL Out)×Int×Int×Tx)):yO (((yL yB)×(yL Out)×Int×Int×Tx)⊕((yL yB)×Tx)):=
 if(decide (s.2.2.2.1 < s.2.2.1))=true then
  (idx s.2.1 s.2.2.2.1).bind λe422=>
  (V3 F s.1 e422.1).bind λo423=>
  (Q6 F e422.2).bind λo424=>
  (Zdw F o423 o424).bind λo425=>
  some (.inl (o425,s.2.1,s.2.2.1,wi (s.2.2.2.1+1),s.2.2.2.2))
 else
 some (.inr (s.1,s.2.2.2.2))
def ZtR:Lp:=⟨[(1,.ref 0 []),(3,.v (.sl .u8)),(35,.v (.sl ZR)),(36,.v yI),(37,.v yI)],[.var (.v yTx) true],[(.sl .u8),(.sl ZR),yI,yI,yTx],[⟨.exit 2,[(1,.ref 0 []),(3,.v (.sl .u8))],[.var (.v yTx) true],[(.sl .u8),yTx]⟩],Zb (Zhs yD) yD⟩
theorem ZwA:ZtR.okA yb 118 1:=Zx ZNn [] [ZeP,Zdq,ZmG] ⟨ZfD,Zcb,ZsL,ytt⟩
def ZoU(F:Nat)(a0:Tx):yO ((yL yB)):=
 (V3 F [] (a0.1.length:Int)).bind λo416=>
 (Zb (Zhr F) F (o416,a0.1,(a0.1.length:Int),0,a0)).bind λo420=>
 (V3 F o420.1 (o420.2.2.1.length:Int)).bind λo421=>
 (Zb (Zhs F) F (o421,o420.2.2.1,(o420.2.2.1.length:Int),0,o420.2)).bind λo426=>
 (V3 F o426.1 o426.2.2.2).bind λo427=>
 some o427
def ZwB:Fs yb:=⟨118,[.v yTx],[],[yTx],(zE (.sl .u8)),λx=>ZoU yD x⟩
theorem ZCp:ZwB.Ok:=fnO ZNn [(0,ZtQ),(1,ZtR)] [ZeP] ⟨ZfD,ytt⟩ ⟨Zwz,ZwA,ytt⟩
def ZFM:ByteArray:=⟨#[116,120]⟩
def ZsM(F:Nat)(a0:Tx):yO ((yL yB)):=
 (ZkZ F a0).bind λo428=>
 if(!o428)=true then
  some yzz
 else
 (ZoU F a0).bind λo429=>
 (ZbM F ZFM [o429]).bind λo430=>
 some o430
def ZwC(F:Nat):Fs yb:=⟨43,[.v yTx],[],[yTx],(zE (.arr 32 .u8)),λx=>ZsM F x⟩
def ZAl:Fs yb:=ZwC yD
theorem ZwD:ZAl.Ok:=fnO { still:=[3,7,9]} [] [Zqw,ZwB,ZlO] ⟨ZtN,ZCp,ZnX,ytt⟩
def QX(F:Nat)(s:(yU×(yL yB)×Int×(yL yB))):yO ((yU×(yL yB)×Int×(yL yB))⊕(yU×(yL yB))):=
 if(decide (s.2.2.1 < 32))=true then
  (idx s.2.1 s.2.2.1).bind λe431=>
  (V9 F (ZO s.1 56) ((Q3 s.1 8)|||(yx e431.toNat)) 2305843009213688668).bind λo432=>
  some (.inl (o432,s.2.1,wi (s.2.2.1+1),s.2.2.2))
 else
 some (.inr (s.1,s.2.2.2))
def ZpN:Lp:=⟨[(3,.v .u64),(6,.v (.arr 32 .u8)),(7,.v yI)],[.var (.v (.arr 32 .u8)) true],[.u64,(.arr 32 .u8),yI,(.arr 32 .u8)],[⟨.exit 0,[(3,.v .u64)],[.var (.v (.arr 32 .u8)) true],[.u64,(.arr 32 .u8)]⟩],Zb (QX yD) yD⟩
theorem ZsN:ZpN.okA yb 115 0:=Zx { still:=[2,11,16]} [] [Zhe] ⟨ZjR,ytt⟩
def ZfH(F:Nat)(a0:(yL yB)):yO (yU):=
 (Zb (QX F) F (0,a0,0,a0)).bind λo433=>
 some (o433.1+1)
def ZlP:Fs yb:=⟨115,[.v (.arr 32 .u8)],[],[(.arr 32 .u8)],(zE .u64),λx=>ZfH yD x⟩
theorem ZpO:ZlP.Ok:=fnO { still:=[2,11,16]} [(0,ZpN)] [] trivial ⟨ZsN,ytt⟩
def Zdx(F:Nat)(a0:yU):yO (Bool):=
 some (decide (a0 < 2305843009213688669))
def Zj3:Fs yb:=⟨225,[.v .u64],[],[.u64],(zE .bool),λx=>Zdx yD x⟩
theorem ZnZ:Zj3.Ok:=fnO { still:=[2]} [] [] trivial
def Zk2(F:Nat)(a0:yU):yO (Bool):=
 (Zdx F a0).bind λo434=>
 if o434=true then
  some (a0 !=0)
 else
 some false
def ZwE:Fs yb:=⟨159,[.v .u64],[],[.u64],(zE .bool),λx=>Zk2 yD x⟩
theorem ZCq:ZwE.Ok:=fnO { still:=[2,3]} [] [Zj3] ⟨ZnZ,ytt⟩
def ZbN(F:Nat)(a0:yU):yO (yU):=
 (WJ F a0).bind λo435=>
 if o435=true then
  some a0
 else
 some 1
def Zfi:Fs yb:=⟨211,[.v .u64],[],[.u64],(zE .u64),λx=>ZbN yD x⟩
theorem Ziw:Zfi.Ok:=fnO { still:=[2,3]} [] [ZaA] ⟨Zbb,ytt⟩
def Zdy(F:Nat)(a0:yU)(a1:yU):yO (yU):=
 (ZbN F a0).bind λo436=>
 (ZbJ F o436 (a1 % 2305843009213688669)).bind λo437=>
 some o437
def Zj4:Fs yb:=⟨128,[.v .u64,.v .u64],[],[.u64,.u64],(zE .u64),λx=>Zdy yD x.1 x.2⟩
theorem Zn0:Zj4.Ok:=fnO { still:=[4,5,6,8]} [] [Zfi,Zfa] ⟨Ziw,Zic,ytt⟩
def Wr(F:Nat)(a0:yU):yO (yU):=
 (Zdy F 4 a0).bind λo438=>
 some o438
def Zdz:Fs yb:=⟨89,[.v .u64],[],[.u64],(zE .u64),λx=>Wr yD x⟩
theorem Zfj:Zdz.Ok:=fnO { still:=[2,3]} [] [Zj4] ⟨Zn0,ytt⟩
def Zfk(F:Nat)(s:(yU×(yL yU)×Int×Int)):yO ((yU×(yL yU)×Int×Int)⊕yU):=
 if(decide (s.2.2.2 < s.2.2.1))=true then
  (idx s.2.1 s.2.2.2).bind λe439=>
  (ZbN F e439).bind λo440=>
  (YU F s.1 o440).bind λo441=>
  some (.inl (o441,s.2.1,s.2.2.1,wi (s.2.2.2+1)))
 else
 some (.inr s.1)
def ZrG:Lp:=⟨[(3,.v .u64),(6,.v (.sl .u64)),(7,.v yI),(8,.v yI)],[],[.u64,(.sl .u64),yI,yI],[⟨.exit 0,[(3,.v .u64)],[],[.u64]⟩],Zb (Zfk yD) yD⟩
theorem Zum:ZrG.okA yb 210 0:=Zx { still:=[2,12,13,14]} [] [Zfi,ZjS] ⟨Ziw,Znx,ytt⟩
def Zix(F:Nat)(a0:(yL yU)):yO (yU):=
 (Zb (Zfk F) F (1,a0,(a0.length:Int),0)).bind λo442=>
 some o442
def Zn1:Fs yb:=⟨210,[.v (.sl .u64)],[],[(.sl .u64)],(zE .u64),λx=>Zix yD x⟩
theorem ZrH:Zn1.Ok:=fnO { still:=[2,12,13,14]} [(0,ZrG)] [] trivial ⟨Zum,ytt⟩
def ZlQ(F:Nat)(a0:yU)(a1:yU):yO (yU):=
 (Zix F [a0,a1]).bind λo443=>
 some o443
def ZtS:Fs yb:=⟨127,[.v .u64,.v .u64],[],[.u64,.u64],(zE .u64),λx=>ZlQ yD x.1 x.2⟩
theorem ZAm:ZtS.Ok:=fnO { still:=[4,7]} [] [Zn1] ⟨ZrH,ytt⟩
def ZeV(F:Nat)(a0:yU):yO (yU):=
 some (a0 % 2305843009213688669)
def Zqy:Fs yb:=⟨259,[.v .u64],[],[.u64],(zE .u64),λx=>ZeV yD x⟩
theorem ZtT:Zqy.Ok:=fnO { still:=[2]} [] [] trivial
def Zgw(F:Nat)(a0:yU)(a1:yU):yO (yU):=
 some ((a0+a1) % 2305843009213688669)
def Zk3:Fs yb:=⟨260,[.v .u64,.v .u64],[],[.u64,.u64],(zE .u64),λx=>Zgw yD x.1 x.2⟩
theorem ZrI:Zk3.Ok:=fnO { still:=[4]} [] [] trivial
def ZlR(F:Nat)(a0:yU)(a1:yU):yO (yU):=
 (ZeV F a0).bind λo444=>
 (ZeV F a1).bind λo445=>
 (Zgw F o444 o445).bind λo446=>
 some o446
def ZtU:Fs yb:=⟨226,[.v .u64,.v .u64],[],[.u64,.u64],(zE .u64),λx=>ZlR yD x.1 x.2⟩
theorem ZAn:ZtU.Ok:=fnO { still:=[4,5,6,7,8]} [] [Zqy,Zk3] ⟨ZtT,ZrI,ytt⟩
def ZeW(F:Nat)(a0:yU)(a1:yU):yO (yU):=
 (ZfA F a0 a1).bind λo447=>
 (V9 F o447.1 o447.2 2305843009213688669).bind λo448=>
 some o448
def ZjH:Fs yb:=⟨261,[.v .u64,.v .u64],[],[.u64,.u64],(zE .u64),λx=>ZeW yD x.1 x.2⟩
theorem Zqz:ZjH.Ok:=fnO { still:=[4,8,9,13,14]} [] [ZlE,Zhe] ⟨ZpB,ZjR,ytt⟩
def ZlS(F:Nat)(a0:yU)(a1:yU):yO (yU):=
 (ZeV F a0).bind λo449=>
 (ZeV F a1).bind λo450=>
 (ZeW F o449 o450).bind λo451=>
 some o451
def ZtV:Fs yb:=⟨227,[.v .u64,.v .u64],[],[.u64,.u64],(zE .u64),λx=>ZlS yD x.1 x.2⟩
theorem ZAo:ZtV.Ok:=fnO { still:=[4,5,6,7,8]} [] [Zqy,ZjH] ⟨ZtT,Zqz,ytt⟩
def QY(F:Nat)(s:(yU×Int×Int×(yL yB))):yO ((yU×Int×Int×(yL yB))⊕(yL yB)):=
 if(decide (s.2.2.1 < s.2.1))=true then
  if(decide (0<=wi (56 - (wi (8*s.2.2.1)))))=true then
   let y452:yU:=ZO s.1 (min (wi (56 - (wi (8*s.2.2.1)))).toNat 64)
   if(inB s.2.2.1 8)=true then
    (s.2.2.2[(0+s.2.2.1.toNat)]?).bind λe453=>
    let y454:(yL yB):=s.2.2.2.set (0+s.2.2.1.toNat) (w8 (y452.toNat:Int))
    some (.inl (s.1,s.2.1,wi (s.2.2.1+1),y454))
   else
   none
  else
  none
 else
 some (.inr s.2.2.2)
def ZpP:Lp:=⟨[(0,.v .u64),(3,.view 0 [] 1 0 8),(7,.v yI),(8,.v yI)],[.var (.v (.arr 8 .u8)) true],[.u64,yI,yI,(.arr 8 .u8)],[⟨.exit 0,[(3,.view 0 [] 1 0 8)],[.var (.v (.arr 8 .u8)) true],[(.arr 8 .u8)]⟩],Zb (QY yD) yD⟩
theorem ZsO:ZpP.okA yb 161 0:=Zx { still:=[2]} [] [] trivial
def ZcS(F:Nat)(a0:yU):yO ((yL yB)):=
 (Zb (QY F) F (a0,8,0,[0,0,0,0,0,0,0,0])).bind λo455=>
 some ((o455.drop 0).take 8)
def ZlT:Fs yb:=⟨161,[.v .u64],[],[.u64],(zE (.sl .u8)),λx=>ZcS yD x⟩
theorem ZpQ:ZlT.Ok:=fnO { still:=[2]} [(0,ZpP)] [] trivial ⟨ZsO,ytt⟩
def ZJA:ByteArray:=⟨#[115,105,103]⟩
def Zaw(F:Nat)(a0:yU)(a1:yU)(a2:(yL yB)):yO (yU):=
 (ZcS F a0).bind λo456=>
 (ZcS F a1).bind λo457=>
 (ZbM F ZJA [o456,o457,a2]).bind λo458=>
 (ZfH F o458).bind λo459=>
 some o459
def ZeX:Fs yb:=⟨228,[.v .u64,.v .u64,.v (.arr 32 .u8)],[],[.u64,.u64,(.arr 32 .u8)],(zE .u64),λx=>Zaw yD x.1 x.2.1 x.2.2⟩
def ZOw:HI:={ still:=[6,7,9,12,13],frz:=[11]}
theorem ZjI:ZeX.Ok:=fnO ZOw [] [ZlT,ZlO,ZlP] ⟨ZpQ,ZnX,ZpO,ytt⟩
def ZlU(F:Nat)(a0:yU)(a1:yU)(a2:(yL yB))(a3:yU):yO (Sig):=
 (Wr F a1).bind λo460=>
 (ZlQ F o460 a3).bind λo461=>
 (Wr F a0).bind λo462=>
 (Zaw F o461 o462 a2).bind λo463=>
 (ZlS F o463 a0).bind λo464=>
 (ZlR F a1 o464).bind λo465=>
 some (o461,o465)
def ZpR:Fs yb:=⟨160,[.v .u64,.v .u64,.v (.arr 32 .u8),.v .u64],[],[.u64,.u64,(.arr 32 .u8),.u64],(zE Zy),λx=>ZlU yD x.1 x.2.1 x.2.2.1 x.2.2.2⟩
def ZPf:HI:={ still:=[9,10,11,14,16,17,18,19,20,21,22]}
theorem ZwF:ZpR.Ok:=fnO ZPf [] [Zdz,ZtS,ZeX,ZtV,ZtU] ⟨Zfj,ZAm,ZjI,ZAo,ZAn,ytt⟩
def ZJB:ByteArray:=⟨#[110,111,110,99,101]⟩
def ZlV(F:Nat)(a0:yU)(a1:(yL yB)):yO (Sig):=
 (Zk2 F a0).bind λo466=>
 if(!o466)=true then
  some (0,0)
 else
 (ZcS F a0).bind λo467=>
 (ZbM F ZJB [o467,a1]).bind λo468=>
 (ZfH F o468).bind λo469=>
 (ZlU F a0 o469 a1 1).bind λo470=>
 some o470
def ZtW:Fs yb:=⟨81,[.v .u64,.v (.arr 32 .u8)],[],[.u64,(.arr 32 .u8)],(zE Zy),λx=>ZlV yD x.1 x.2⟩
def ZPg:HI:={ still:=[5,9,10,13,14,15,16],frz:=[12]}
theorem ZAp:ZtW.Ok:=fnO ZPg [] [ZwE,ZlT,ZlO,ZlP,ZpR] ⟨ZCq,ZpQ,ZnX,ZpO,ZwF,ytt⟩
abbrev ZF:Ty:=(.st [.u64,.u64,.u64,.u64,.u64,(.arr 32 .u8)])
abbrev Kit:Type:=(yU×yU×yU×yU×yU×(yL yB))
abbrev Kit.Cond(x:Kit):yU:=x.2.2.2.1
def Xd(F:Nat)(a0:Kit)(a1:Tx):yO (Sig):=
 (ZsM F a1).bind λo471=>
 (ZlV F a0.1 o471).bind λo472=>
 some o472
def Ziy(F:Nat):Fs yb:=⟨22,[.v ZF,.v yTx],[],[ZF,yTx],(zE Zy),λx=>Xd F x.1 x.2⟩
def Zj5:Fs yb:=Ziy yD
theorem Ziz:Zj5.Ok:=fnO { still:=[6,7,8]} [] [ZAl,ZtW] ⟨ZwD,ZAp,ytt⟩
def Zht(F:Nat)(a0:(yL yB))(a1:(yL yB)):yO (Bool):=
 let y473:Bool:=(WX a0).data.toList==(WX a1).data.toList
 some y473
def ZiA(F:Nat):Fs yb:=⟨109,[.v (.sl .u8),.v (.sl .u8)],[],[(.sl .u8),(.sl .u8)],(zE .bool),λx=>Zht F x.1 x.2⟩
def ZpS:Fs yb:=ZiA yD
theorem Zn2:ZpS.Ok:=fnO { still:=[4]} [] [] trivial
def ZlW(F:Nat)(a0:yU):yO (yU):=
 (ZbN F a0).bind λo474=>
 (ZbJ F o474 2305843009213688668).bind λo475=>
 some o475
def ZtX:Fs yb:=⟨243,[.v .u64],[],[.u64],(zE .u64),λx=>ZlW yD x⟩
theorem ZAq:ZtX.Ok:=fnO { still:=[2,3,4]} [] [Zfi,Zfa] ⟨Ziw,Zic,ytt⟩
def Zhu(F:Nat)(a0:yU)(a1:(yL yB))(a2:yU)(a3:Sig):yO (Bool):=
 if(a0==1)=true then
  some false
 else
 (WJ F a0).bind λo476=>
 if(!o476)=true then
  some false
 else
 (WJ F a2).bind λo477=>
 if(!o477)=true then
  some false
 else
 (WJ F a3.1).bind λo478=>
 if(!o478)=true then
  some false
 else
 (Zdx F a3.2).bind λo479=>
 if(!o479)=true then
  some false
 else
 (Zaw F a3.1 a0 a1).bind λo480=>
 (Zdy F a0 o480).bind λo481=>
 (ZlW F a2).bind λo482=>
 (Zix F [a3.1,o481,o482]).bind λo483=>
 (Wr F a3.2).bind λo484=>
 some (o484==o483)
def ZpT:Fs yb:=⟨194,[.v .u64,.v (.arr 32 .u8),.v .u64,.v Zy],[],[.u64,(.arr 32 .u8),.u64,Zy],(zE .bool),λx=>Zhu yD x.1 x.2.1 x.2.2.1 x.2.2.2⟩
def ZPh:HI:={ still:=[8,13,18,24,30,36,38,39,40,41,43,45,48]}
theorem ZwG:ZpT.Ok:=fnO ZPh [] [ZaA,Zj3,ZeX,Zj4,ZtX,Zn1,Zdz] ⟨Zbb,ZnZ,ZjI,Zn0,ZAq,ZrH,Zfj,ytt⟩
def Zhv(F:Nat)(a0:yU)(a1:(yL yB))(a2:Sig):yO (Bool):=
 (Zhu F a0 a1 1 a2).bind λo485=>
 some o485
def ZiB(F:Nat):Fs yb:=⟨111,[.v .u64,.v (.arr 32 .u8),.v Zy],[],[.u64,(.arr 32 .u8),Zy],(zE .bool),λx=>Zhv F x.1 x.2.1 x.2.2⟩
def ZpU:Fs yb:=ZiB yD
theorem Zn3:ZpU.Ok:=fnO { still:=[6,7,8,9]} [] [ZpT] ⟨ZwG,ytt⟩
def ZdA(F:Nat)(a0:(yL Out)):yO ((yL Out)):=
 if(apB 0 a0.length 32)=true then
  some a0
 else
 none
def ZxA:Fs yb:=⟨150,[.sl true ZR],[],[(.sl ZR)],(zE (.sl ZR)),λx=>ZdA yD x⟩
theorem ZwH:ZxA.Ok:=fnO { own:=[5,7],still:=[2]} [] [] trivial
def ZmH(F:Nat):yO ((yL Out)):=
 some []
def ZsP:Fs yb:=⟨150,[.nil ZR],[],[],(zE (.sl ZR)),λx=>ZmH yD⟩
theorem ZrJ:ZsP.Ok:=fnO { own:=[5,7],still:=[2]} [] [] trivial
def Zun:Fs yb:=⟨150,[.v (.sl ZR)],[],[(.sl ZR)],(zE (.sl ZR)),λx=>ZdA yD x⟩
theorem ZsQ:Zun.Ok:=Zsx (t:=ZR) (xs:=(zE (.sl ZR))) (MA:=λ(x:(yL Out))=>ZdA yD x) (MB:=λ_=>ZmH yD) ZwH ZrJ rfl
def ZdB(F:Nat)(a0:(yL Sig)):yO ((yL Sig)):=
 if(apB 0 a0.length 16)=true then
  some a0
 else
 none
def ZG9:Fs yb:=⟨151,[.sl true Zy],[],[(.sl Zy)],(zE (.sl Zy)),λx=>ZdB yD x⟩
theorem ZEp:ZG9.Ok:=fnO { own:=[5,7],still:=[2]} [] [] trivial
def ZtY(F:Nat):yO ((yL Sig)):=
 some []
def ZAr:Fs yb:=⟨151,[.nil Zy],[],[],(zE (.sl Zy)),λx=>ZtY yD⟩
theorem ZxB:ZAr.Ok:=fnO { own:=[5,7],still:=[2]} [] [] trivial
def Zn4:Fs yb:=⟨151,[.v (.sl Zy)],[],[(.sl Zy)],(zE (.sl Zy)),λx=>ZdB yD x⟩
theorem ZrK:Zn4.Ok:=Zsx (t:=Zy) (xs:=(zE (.sl Zy))) (MA:=λ(x:(yL Sig))=>ZdB yD x) (MB:=λ_=>ZtY yD) ZEp ZxB rfl
def WP(F:Nat)(a0:(yL yU)):yO ((yL yU)):=
 if(apB 0 a0.length 8)=true then
  some a0
 else
 none
def Zuo:Fs yb:=⟨153,[.sl true .u64],[],[(.sl .u64)],(zE (.sl .u64)),λx=>WP yD x⟩
theorem ZsR:Zuo.Ok:=fnO { own:=[5,7],still:=[2]} [] [] trivial
def ZjJ(F:Nat):yO ((yL yU)):=
 some []
def ZqA:Fs yb:=⟨153,[.nil .u64],[],[],(zE (.sl .u64)),λx=>ZjJ yD⟩
theorem Zo7:ZqA.Ok:=fnO { own:=[5,7],still:=[2]} [] [] trivial
def ZaS:Fs yb:=⟨153,[.v (.sl .u64)],[],[(.sl .u64)],(zE (.sl .u64)),λx=>WP yD x⟩
theorem ZcD:ZaS.Ok:=Zsx (t:=.u64) (xs:=(zE (.sl .u64))) (MA:=λ(x:(yL yU))=>WP yD x) (MB:=λ_=>ZjJ yD) ZsR Zo7 rfl
def ZlX(F:Nat)(a0:(yL In)):yO (((yL Unit)×(yL In))):=
 if(apB 0 a0.length 80)=true then
  some ([()],a0)
 else
 none
def ZCr:Fs yb:=⟨149,[.sl true yIn],[],[(.sl yIn)],[⟨.ret,[(0,.rw 0)],[.row yIn true 120],[(.sl (.st [])),(.sl yIn)]⟩],λx=>ZlX yD x⟩
theorem ZAs:ZCr.Ok:=fnO { own:=[5,7],rowt:=[2,5,7]} [] [] trivial
def ZlY(F:Nat)(a0:(yL In)):yO (((yL Unit)×(yL In))):=if a0.isEmpty=true then none else ZlX F a0
def ZpV:Fs yb:=⟨149,[.v (.sl yIn)],[],[(.sl yIn)],[⟨.ret,[(0,.rw 0)],[.row yIn true 120],[(.sl (.st [])),(.sl yIn)]⟩],λx=>ZlY yD x⟩
theorem ZwI:ZpV.Ok:=Zz8 (t:=yIn) (xs:=[⟨.ret,[(0,.rw 0)],[.row yIn true 120],[(.sl (.st [])),(.sl yIn)]⟩]) (MA:=λ(x:(yL In))=>ZlX yD x) ZAs rfl (λ_ _=>rfl)
def Zcs(F:Nat)(a0:(yL Out)):yO (((yL Unit)×(yL Out))):=
 if(apB 0 a0.length 32)=true then
  some ([()],a0)
 else
 none
def ZsS:Fs yb:=⟨150,[.sl true ZR],[],[(.sl ZR)],[⟨.ret,[(0,.rw 0)],[.row ZR true 112],[(.sl (.st [])),(.sl ZR)]⟩],λx=>Zcs yD x⟩
theorem ZrL:ZsS.Ok:=fnO { own:=[5,7],rowt:=[2,5,7]} [] [] trivial
def ZdC(F:Nat)(a0:(yL Out)):yO (((yL Unit)×(yL Out))):=if a0.isEmpty=true then none else Zcs F a0
def ZqB:Fs yb:=⟨150,[.v (.sl ZR)],[],[(.sl ZR)],[⟨.ret,[(0,.rw 0)],[.row ZR true 112],[(.sl (.st [])),(.sl ZR)]⟩],λx=>ZdC yD x⟩
theorem Zo8:ZqB.Ok:=Zz8 (t:=ZR) (xs:=[⟨.ret,[(0,.rw 0)],[.row ZR true 112],[(.sl (.st [])),(.sl ZR)]⟩]) (MA:=λ(x:(yL Out))=>Zcs yD x) ZrL rfl (λ_ _=>rfl)
def WD(F:Nat)(a0:(yL Out)):yO (((yL Unit)×(yL Out))⊕(yL Out)):=if a0.isEmpty=true then(ZdA F a0).map Sum.inr else(ZdC F a0).map Sum.inl
def ZgI:Fs yb:=⟨150,[.v (.sl ZR)],[],[(.sl ZR)],[⟨.ret,[(0,.rw 0)],[.row ZR true 112],[(.sl (.st [])),(.sl ZR)]⟩,⟨.ret,[(0,.v (.sl ZR))],[],[(.sl ZR)]⟩],λx=>WD yD x⟩
theorem Zn5:ZgI.Ok:=ZOd (ins:=[(.sl ZR)]) (λx:(yL Out)=>x.isEmpty) Zo8 ZsQ
def ZEq:HI:={ still:=[8,11,30,48,61,69],rowt:=[5,9,12,22,49,55,67]}
def ZdD(F:Nat)(a0:(yL ZC)):yO (((yL Unit)×(yL ZC))):=
 if(apB 0 a0.length 48)=true then
  some ([()],a0)
 else
 none
def Zup:Fs yb:=⟨152,[.sl true Zm],[],[(.sl Zm)],[⟨.ret,[(0,.rw 0)],[.row Zm true 124],[(.sl (.st [])),(.sl Zm)]⟩],λx=>ZdD yD x⟩
theorem ZsT:Zup.Ok:=fnO { own:=[5,7],rowt:=[2,5,7]} [] [] trivial
def QZ(F:Nat)(a0:(yL ZC)):yO (((yL Unit)×(yL ZC))):=if a0.isEmpty=true then none else ZdD F a0
def ZdE:Fs yb:=⟨152,[.v (.sl Zm)],[],[(.sl Zm)],[⟨.ret,[(0,.rw 0)],[.row Zm true 124],[(.sl (.st [])),(.sl Zm)]⟩],λx=>QZ yD x⟩
theorem ZiC:ZdE.Ok:=Zz8 (t:=Zm) (xs:=[⟨.ret,[(0,.rw 0)],[.row Zm true 124],[(.sl (.st [])),(.sl Zm)]⟩]) (MA:=λ(x:(yL ZC))=>ZdD yD x) ZsT rfl (λ_ _=>rfl)
abbrev dT2:Type:=(Int×Int×Int×Int×Int×Int×Tx×(yL Unit)×(yL In)×(yL Unit)×(yL Out)×(yL Unit)×(yL ZC))
abbrev dT3:Type:=(Int×Int×Int×Int×Tx×(yL Unit)×(yL In)×(yL Unit)×(yL Out)×(yL Unit)×(yL ZC))
abbrev tL4:yL Ty:=[yI,yI,yI,yI,yTx,(.sl (.st [])),(.sl yIn),(.sl (.st [])),(.sl ZR),(.sl (.st [])),(.sl Zm)]
abbrev tL5:yL Ty:=[yI,yI,yI,yI,yI,yI,yTx,(.sl (.st [])),(.sl yIn),(.sl (.st [])),(.sl ZR),(.sl (.st [])),(.sl Zm)]
abbrev dT4:Type:=(Int×Int×Int×Int×Int×(yL Out)×Int×Tx×(yL Unit)×(yL In)×(yL Unit)×(yL ZC))
abbrev tL6:yL Ty:=[yI,yI,yI,(.sl ZR),yI,yTx,(.sl (.st [])),(.sl yIn),(.sl (.st [])),(.sl Zm)]
abbrev tL7:yL Ty:=[yI,yI,yI,yI,yI,(.sl ZR),yI,yTx,(.sl (.st [])),(.sl yIn),(.sl (.st [])),(.sl Zm)]
abbrev qW:=Int×Tx×(yL Unit)×(yL In)×(yL Unit)×(yL Out)
def WQ(F:Nat)(s:(Int×Int×qW)):yO ((Int×Int×qW)⊕(qW)):=
 if(decide (s.2.1 < s.1))=true then
  if(inB s.2.1 s.2.2.2.2.2.1.length)=true then
   (s.2.2.2.2.2.1[s.2.1.toNat]?).bind λe540=>
   (ZdB F e540.2.2.1).bind λo541=>
   if(inB s.2.1 s.2.2.2.2.2.1.length)=true then
    (s.2.2.2.2.2.1[s.2.1.toNat]?).bind λe542=>
    let y543:(yL In):=s.2.2.2.2.2.1.set s.2.1.toNat (e542.1,(e542.2.1,o541,e542.2.2.2))
    some (.inl (s.1,wi (s.2.1+1),s.2.2.1,s.2.2.2.1,s.2.2.2.2.1,y543,s.2.2.2.2.2.2.1,s.2.2.2.2.2.2.2))
   else
   none
  else
  none
 else
 some (.inr (s.2.2.1,s.2.2.2.1,s.2.2.2.2.1,s.2.2.2.2.2.1,s.2.2.2.2.2.2.1,s.2.2.2.2.2.2.2))
abbrev zI:List ESh:=[.var (.agg [.rw 2,.rw 3,.v yI]) true,.var (.v yTx) true,.row yIn true 120,.row ZR true 112]
def ZgJ:Lp:=⟨[(1,.ref 0 []),(2,.ref 1 []),(17,.v yI),(18,.v yI)],zI,[yI,yI,yI,yTx,(.sl (.st [])),(.sl yIn),(.sl (.st [])),(.sl ZR)],[⟨.exit 0,[(1,.ref 0 []),(2,.ref 1 [])],zI,[yI,yTx,(.sl (.st [])),(.sl yIn),(.sl (.st [])),(.sl ZR)]⟩],Zb (WQ yD) yD⟩
theorem ZlZ:ZgJ.okA yb 76 0:=Zx ZEq [] [Zn4] ⟨ZrK,ytt⟩
def WR(F:Nat)(s:dT2):yO (dT2⊕dT3):=
 if(decide (s.2.2.2.2.1 < s.2.2.2.1))=true then
  if(inB s.2.2.2.2.1 s.2.2.2.2.2.2.2.2.2.2.2.2.length)=true then
   (s.2.2.2.2.2.2.2.2.2.2.2.2[s.2.2.2.2.1.toNat]?).bind λe547=>
   (WP F e547.1).bind λo548=>
   if(inB s.2.2.2.2.1 s.2.2.2.2.2.2.2.2.2.2.2.2.length)=true then
    (s.2.2.2.2.2.2.2.2.2.2.2.2[s.2.2.2.2.1.toNat]?).bind λe549=>
    let y550:(yL ZC):=s.2.2.2.2.2.2.2.2.2.2.2.2.set s.2.2.2.2.1.toNat (o548,e549.2.1,e549.2.2.1,e549.2.2.2)
    some (.inl (s.1,s.2.1,s.2.2.1,s.2.2.2.1,wi (s.2.2.2.2.1+1),s.2.2.2.2.2.1,s.2.2.2.2.2.2.1,s.2.2.2.2.2.2.2.1,s.2.2.2.2.2.2.2.2.1,s.2.2.2.2.2.2.2.2.2.1,s.2.2.2.2.2.2.2.2.2.2.1,s.2.2.2.2.2.2.2.2.2.2.2.1,y550))
   else
   none
  else
  none
 else
 some (.inr (s.1,s.2.1,s.2.2.1,s.2.2.2.2.2.1,s.2.2.2.2.2.2.1,s.2.2.2.2.2.2.2.1,s.2.2.2.2.2.2.2.2.1,s.2.2.2.2.2.2.2.2.2.1,s.2.2.2.2.2.2.2.2.2.2.1,s.2.2.2.2.2.2.2.2.2.2.2.1,s.2.2.2.2.2.2.2.2.2.2.2.2))
abbrev zG:List ESh:=[.var (.agg [.rw 2,.rw 3,.v yI]) true,.var (.v yTx) true,.row yIn true 120,.row ZR true 112,.row Zm true 124]
def ZgK:Lp:=⟨[(1,.ref 0 []),(2,.ref 1 []),(4,.v yI),(5,.rw 4),(38,.v yI),(39,.v yI),(51,.v yI),(52,.v yI)],zG,tL5,[⟨.exit 4,[(1,.ref 0 []),(2,.ref 1 []),(4,.v yI),(5,.rw 4),(38,.v yI),(39,.v yI)],zG,tL4⟩],Zb (WR yD) yD⟩
theorem Zl0:ZgK.okA yb 76 2:=Zx ZEq [] [ZaS] ⟨ZcD,ytt⟩
def WS(F:Nat)(s:(Int×Int×qW)):yO ((Int×Int×qW)⊕(qW)):=
 if(decide (s.2.1 < s.1))=true then
  if(inB s.2.1 s.2.2.2.2.2.2.2.length)=true then
   (s.2.2.2.2.2.2.2[s.2.1.toNat]?).bind λe545=>
   (QZ F e545.2).bind λo546=>
   (Zb (WR F) F (s.2.1,s.1,s.2.1,(o546.2.length:Int),0,s.2.2.1,s.2.2.2.1,s.2.2.2.2.1,s.2.2.2.2.2.1,s.2.2.2.2.2.2.1,s.2.2.2.2.2.2.2,o546.1,o546.2)).bind λo551=>
   if(inB o551.1 o551.2.2.2.2.2.2.2.2.1.length)=true then
    (o551.2.2.2.2.2.2.2.2.1[o551.1.toNat]?).bind λe552=>
    let y553:(yL Out):=o551.2.2.2.2.2.2.2.2.1.set o551.1.toNat (e552.1,o551.2.2.2.2.2.2.2.2.2.2)
    some (.inl (o551.2.1,wi (o551.2.2.1+1),o551.2.2.2.1,o551.2.2.2.2.1,o551.2.2.2.2.2.1,o551.2.2.2.2.2.2.1,o551.2.2.2.2.2.2.2.1,y553))
   else
   none
  else
  none
 else
 some (.inr (s.2.2.1,s.2.2.2.1,s.2.2.2.2.1,s.2.2.2.2.2.1,s.2.2.2.2.2.2.1,s.2.2.2.2.2.2.2))
def ZgL:Lp:=⟨[(1,.ref 0 []),(2,.ref 1 []),(38,.v yI),(39,.v yI)],zI,[yI,yI,yI,yTx,(.sl (.st [])),(.sl yIn),(.sl (.st [])),(.sl ZR)],[⟨.exit 2,[(1,.ref 0 []),(2,.ref 1 [])],zI,[yI,yTx,(.sl (.st [])),(.sl yIn),(.sl (.st [])),(.sl ZR)]⟩],Zb (WS yD) yD⟩
theorem Zl1:ZgL.okA yb 76 1:=Zx ZEq [(2,ZgK)] [ZdE] ⟨ZiC,ytt⟩ ⟨Zl0,ytt⟩
def X9(F:Nat)(s:(Int×Int×(yL Out)×Int×Tx×(yL Unit)×(yL In))):yO ((Int×Int×(yL Out)×Int×Tx×(yL Unit)×(yL In))⊕((yL Out)×Int×Tx×(yL Unit)×(yL In))):=
 if(decide (s.2.1 < s.1))=true then
  if(inB s.2.1 s.2.2.2.2.2.2.length)=true then
   (s.2.2.2.2.2.2[s.2.1.toNat]?).bind λe556=>
   (ZdB F e556.2.2.1).bind λo557=>
   if(inB s.2.1 s.2.2.2.2.2.2.length)=true then
    (s.2.2.2.2.2.2[s.2.1.toNat]?).bind λe558=>
    let y559:(yL In):=s.2.2.2.2.2.2.set s.2.1.toNat (e558.1,(e558.2.1,o557,e558.2.2.2))
    some (.inl (s.1,wi (s.2.1+1),s.2.2.1,s.2.2.2.1,s.2.2.2.2.1,s.2.2.2.2.2.1,y559))
   else
   none
  else
  none
 else
 some (.inr (s.2.2.1,s.2.2.2.1,s.2.2.2.2.1,s.2.2.2.2.2.1,s.2.2.2.2.2.2))
abbrev zJ:List ESh:=[.var (.agg [.rw 2,.v (.sl ZR),.v yI]) true,.var (.v yTx) true,.row yIn true 120]
def Zd9:Lp:=⟨[(1,.ref 0 []),(2,.ref 1 []),(17,.v yI),(18,.v yI)],zJ,[yI,yI,(.sl ZR),yI,yTx,(.sl (.st [])),(.sl yIn)],[⟨.exit 0,[(1,.ref 0 []),(2,.ref 1 [])],zJ,[(.sl ZR),yI,yTx,(.sl (.st [])),(.sl yIn)]⟩],Zb (X9 yD) yD⟩
theorem Zj6:Zd9.okA yb 76 0:=Zx ZEq [] [Zn4] ⟨ZrK,ytt⟩
def ZbU(F:Nat)(s:dT4):yO (dT4⊕(Int×Int×Int×(yL Out)×Int×Tx×(yL Unit)×(yL In)×(yL Unit)×(yL ZC))):=
 if(decide (s.2.2.2.2.1 < s.2.2.2.1))=true then
  if(inB s.2.2.2.2.1 s.2.2.2.2.2.2.2.2.2.2.2.length)=true then
   (s.2.2.2.2.2.2.2.2.2.2.2[s.2.2.2.2.1.toNat]?).bind λe563=>
   (WP F e563.1).bind λo564=>
   if(inB s.2.2.2.2.1 s.2.2.2.2.2.2.2.2.2.2.2.length)=true then
    (s.2.2.2.2.2.2.2.2.2.2.2[s.2.2.2.2.1.toNat]?).bind λe565=>
    let y566:(yL ZC):=s.2.2.2.2.2.2.2.2.2.2.2.set s.2.2.2.2.1.toNat (o564,e565.2.1,e565.2.2.1,e565.2.2.2)
    some (.inl (s.1,s.2.1,s.2.2.1,s.2.2.2.1,wi (s.2.2.2.2.1+1),s.2.2.2.2.2.1,s.2.2.2.2.2.2.1,s.2.2.2.2.2.2.2.1,s.2.2.2.2.2.2.2.2.1,s.2.2.2.2.2.2.2.2.2.1,s.2.2.2.2.2.2.2.2.2.2.1,y566))
   else
   none
  else
  none
 else
 some (.inr (s.1,s.2.1,s.2.2.1,s.2.2.2.2.2.1,s.2.2.2.2.2.2.1,s.2.2.2.2.2.2.2.1,s.2.2.2.2.2.2.2.2.1,s.2.2.2.2.2.2.2.2.2.1,s.2.2.2.2.2.2.2.2.2.2.1,s.2.2.2.2.2.2.2.2.2.2.2))
abbrev zH:List ESh:=[.var (.agg [.rw 2,.v (.sl ZR),.v yI]) true,.var (.v yTx) true,.row yIn true 120,.row Zm true 124]
def Zce:Lp:=⟨[(1,.ref 0 []),(2,.ref 1 []),(4,.v yI),(5,.rw 3),(38,.v yI),(39,.v yI),(51,.v yI),(52,.v yI)],zH,tL7,[⟨.exit 4,[(1,.ref 0 []),(2,.ref 1 []),(4,.v yI),(5,.rw 3),(38,.v yI),(39,.v yI)],zH,tL6⟩],Zb (ZbU yD) yD⟩
theorem Zhw:Zce.okA yb 76 2:=Zx ZEq [] [ZaS] ⟨ZcD,ytt⟩
def Vh(F:Nat)(s:(Int×Int×(yL Out)×Int×Tx×(yL Unit)×(yL In))):yO ((Int×Int×(yL Out)×Int×Tx×(yL Unit)×(yL In))⊕((yL Out)×Int×Tx×(yL Unit)×(yL In))):=
 if(decide (s.2.1 < s.1))=true then
  (idx s.2.2.1 s.2.1).bind λe561=>
  (QZ F e561.2).bind λo562=>
  (Zb (ZbU F) F (s.2.1,s.1,s.2.1,(o562.2.length:Int),0,s.2.2.1,s.2.2.2.1,s.2.2.2.2.1,s.2.2.2.2.2.1,s.2.2.2.2.2.2,o562.1,o562.2)).bind λo567=>
  (idx o567.2.2.2.1 o567.1).bind λe568=>
  none
 else
 some (.inr (s.2.2.1,s.2.2.2.1,s.2.2.2.2.1,s.2.2.2.2.2.1,s.2.2.2.2.2.2))
def Zea:Lp:=⟨[(1,.ref 0 []),(2,.ref 1 []),(38,.v yI),(39,.v yI)],zJ,[yI,yI,(.sl ZR),yI,yTx,(.sl (.st [])),(.sl yIn)],[⟨.exit 2,[(1,.ref 0 []),(2,.ref 1 [])],zJ,[(.sl ZR),yI,yTx,(.sl (.st [])),(.sl yIn)]⟩],Zb (Vh yD) yD⟩
theorem Zj7:Zea.okA yb 76 1:=Zx ZEq [(2,Zce)] [ZdE] ⟨ZiC,ytt⟩ ⟨Zhw,ytt⟩
def ZdF(F:Nat)(a0:Tx):yO ((Int×(yL Unit)×(yL In)×(yL Unit)×(yL Out))⊕((yL Out)×Int×(yL Unit)×(yL In))):=
 (ZlY F a0.1).bind λo537=>
 (WD F a0.2.1).bind λo538=>
 match o538 with
 |.inl o539=>
  (Zb (WQ F) F ((o537.2.length:Int),0,a0.2.2,([],[],0),o537.1,o537.2,o539.1,o539.2)).bind λo544=>
  (Zb (WS F) F ((o544.2.2.2.2.2.length:Int),0,o544.1,o544.2.1,o544.2.2.1,o544.2.2.2.1,o544.2.2.2.2.1,o544.2.2.2.2.2)).bind λo554=>
  some (.inl (o554.1,o554.2.2.1,o554.2.2.2.1,o554.2.2.2.2.1,o554.2.2.2.2.2))
 |.inr o555=>
  (Zb (X9 F) F ((o537.2.length:Int),0,o555,a0.2.2,([],[],0),o537.1,o537.2)).bind λo560=>
  (Zb (Vh F) F ((o560.1.length:Int),0,o560.1,o560.2.1,o560.2.2.1,o560.2.2.2.1,o560.2.2.2.2)).bind λo569=>
  some (.inr (o569.1,o569.2.1,o569.2.2.2.1,o569.2.2.2.2))
def ZiD:Fs yb:=⟨76,[.v yTx],[],[yTx],[⟨.ret,[(0,.agg [.rw 0,.rw 1,.v yI])],[.row yIn true 120,.row ZR true 112],[yI,(.sl (.st [])),(.sl yIn),(.sl (.st [])),(.sl ZR)]⟩,⟨.ret,[(0,.agg [.rw 0,.v (.sl ZR),.v yI])],[.row yIn true 120],[(.sl ZR),yI,(.sl (.st [])),(.sl yIn)]⟩],λx=>ZdF yD x⟩
theorem Zo9:ZiD.Ok:=fnO ZEq [(0,ZgJ),(0,Zd9),(1,ZgL),(1,Zea)] [ZpV,ZgI] ⟨ZwI,Zn5,ytt⟩ ⟨ZlZ,Zj6,Zl1,Zj7,ytt⟩
def ZdG(F:Nat)(a0:Tx)(a1:Sig)(a2:Sig):yO (Tx):=
 (ZdF F a0).bind λo574=>
 match o574 with
 |.inl o575=>
  if(decide ((o575.2.2.1.length:Int) > 0))=true then
   if(inB 0 o575.2.2.1.length)=true then
    (o575.2.2.1[0]?).bind λe576=>
    let y577:(yL In):=o575.2.2.1.set 0 (e576.1,((0:Int),([a1,a2]:yL Sig),(0:yU)))
    some (y577,o575.2.2.2.2,o575.1)
   else
   none
  else
  some (o575.2.2.1,o575.2.2.2.2,o575.1)
 |.inr o578=>
  if(decide ((o578.2.2.2.length:Int) > 0))=true then
   if(inB 0 o578.2.2.2.length)=true then
    (o578.2.2.2[0]?).bind λe579=>
    let y580:(yL In):=o578.2.2.2.set 0 (e579.1,((0:Int),([a1,a2]:yL Sig),(0:yU)))
    some (y580,o578.1,o578.2.1)
   else
   none
  else
  some (o578.2.2.2,o578.1,o578.2.1)
def ZiE(F:Nat):Fs yb:=⟨13,[.v yTx,.v Zy,.v Zy],[],[yTx,Zy,Zy],(zE yTx),λx=>ZdG F x.1 x.2.1 x.2.2⟩
def ZpW:Fs yb:=ZiE yD
def ZPi:HI:={ still:=[7],rowt:=[14],deep:=[46]}
theorem Zn6:ZpW.Ok:=ZLf (fi:={ hi:=ZPi}) (specs:={ l:=[ZiD]}) (okS ⟨Zo9,ytt⟩)
def Zyx(F:Nat)(a0:(yL yU)):yO (yG):=
 (WP F a0).bind λo581=>
 some [(o581,0,0,0)]
def ZwJ:Fs yb:=⟨131,[.v (.sl .u64)],[],[(.sl .u64)],(zE Ze),λx=>Zyx yD x⟩
theorem ZCs:ZwJ.Ok:=fnO { still:=[3]} [] [ZaS] ⟨ZcD,ytt⟩
def ZHa(F:Nat)(a0:yU):yO (yG):=
 (Zyx F [a0]).bind λo582=>
 some o582
def Zn7(F:Nat):Fs yb:=⟨54,[.v .u64],[],[.u64],(zE Ze),λx=>ZHa F x⟩
def ZEr:Fs yb:=Zn7 yD
theorem ZCt:ZEr.Ok:=fnO { still:=[4]} [] [ZwJ] ⟨ZCs,ytt⟩
def ZmI(F:Nat)(s:((yL Sig)×(yL Sig)×Int×Int)):yO (((yL Sig)×(yL Sig)×Int×Int)⊕(Bool⊕Unit)):=
 if(decide (s.2.2.2 < s.2.2.1))=true then
  (idx s.1 s.2.2.2).bind λe583=>
  (idx s.2.1 s.2.2.2).bind λe584=>
  if(!(decide (e583=e584)))=true then
   some (.inr (.inl false))
  else
  some (.inl (s.1,s.2.1,s.2.2.1,wi (s.2.2.2+1)))
 else
 some (.inr (.inr ()))
def Zn8:Lp:=⟨[(0,.v (.sl Zy)),(1,.v (.sl Zy)),(12,.v yI),(13,.v yI)],[],[(.sl Zy),(.sl Zy),yI,yI],[⟨.ret,[(4,.v .bool)],[],[.bool]⟩,⟨.exit 0,[],[],[]⟩],Zb (ZmI yD) yD⟩
theorem ZrM:Zn8.okA yb 167 0:=Zx { still:=[4]} [] [] trivial
def ZrN(F:Nat)(a0:(yL Sig))(a1:(yL Sig)):yO (Bool):=
 if((a0.length:Int)!=(a1.length:Int))=true then
  some false
 else
 (Zb (ZmI F) F (a0,a1,(a0.length:Int),0)).bind λo585=>
 match o585 with
 |.inl o586=>
  some o586
 |.inr o587=>
  some true
def ZpX:Fs yb:=⟨167,[.v (.sl Zy),.v (.sl Zy)],[],[(.sl Zy),(.sl Zy)],(zE .bool),λx=>ZrN yD x.1 x.2⟩
theorem ZwK:ZpX.Ok:=fnO { still:=[4]} [(0,Zn8)] [] trivial ⟨ZrM,ytt⟩
def ZwL(F:Nat)(a0:In)(a1:In):yO (Bool):=
 if(decide (a0.1=a1.1))=true then
  if(a0.2.1==a1.2.1)=true then
   if(a0.2.2.2==a1.2.2.2)=true then
    (ZrN F a0.2.2.1 a1.2.2.1).bind λo588=>
    some o588
   else
   some false
  else
  some false
 else
 some false
def ZtZ:Fs yb:=⟨166,[.v yIn,.v yIn],[],[yIn,yIn],(zE .bool),λx=>ZwL yD x.1 x.2⟩
theorem ZAt:ZtZ.Ok:=fnO { still:=[4,31,34]} [] [ZpX] ⟨ZwK,ytt⟩
def ZjK(F:Nat)(s:((yL yU)×(yL yU)×Int×Int)):yO (((yL yU)×(yL yU)×Int×Int)⊕(Bool⊕Unit)):=
 if(decide (s.2.2.2 < s.2.2.1))=true then
  (idx s.1 s.2.2.2).bind λe589=>
  (idx s.2.1 s.2.2.2).bind λe590=>
  if(e589 !=e590)=true then
   some (.inr (.inl false))
  else
  some (.inl (s.1,s.2.1,s.2.2.1,wi (s.2.2.2+1)))
 else
 some (.inr (.inr ()))
def Zk4:Lp:=⟨[(0,.v (.sl .u64)),(1,.v (.sl .u64)),(12,.v yI),(13,.v yI)],[],[(.sl .u64),(.sl .u64),yI,yI],[⟨.ret,[(4,.v .bool)],[],[.bool]⟩,⟨.exit 0,[],[],[]⟩],Zb (ZjK yD) yD⟩
theorem Zpa:Zk4.okA yb 169 0:=Zx { still:=[4]} [] [] trivial
def Zn9(F:Nat)(a0:(yL yU))(a1:(yL yU)):yO (Bool):=
 if((a0.length:Int)!=(a1.length:Int))=true then
  some false
 else
 (Zb (ZjK F) F (a0,a1,(a0.length:Int),0)).bind λo591=>
 match o591 with
 |.inl o592=>
  some o592
 |.inr o593=>
  some true
def ZmJ:Fs yb:=⟨169,[.v (.sl .u64),.v (.sl .u64)],[],[(.sl .u64),(.sl .u64)],(zE .bool),λx=>Zn9 yD x.1 x.2⟩
theorem ZsU:ZmJ.Ok:=fnO { still:=[4]} [(0,Zk4)] [] trivial ⟨Zpa,ytt⟩
def ZwM(F:Nat)(a0:ZC)(a1:ZC):yO (Bool):=
 if(a0.2.1==a1.2.1)=true then
  if(a0.2.2.1==a1.2.2.1)=true then
   if(a0.2.2.2==a1.2.2.2)=true then
    (Zn9 F a0.1 a1.1).bind λo594=>
    some o594
   else
   some false
  else
  some false
 else
 some false
def Zt0:Fs yb:=⟨168,[.v Zm,.v Zm],[],[Zm,Zm],(zE .bool),λx=>ZwM yD x.1 x.2⟩
theorem ZAu:Zt0.Ok:=fnO { still:=[4,26,28]} [] [ZmJ] ⟨ZsU,ytt⟩
def Zoa(F:Nat)(s:((yL In)×(yL In)×Int×Int)):yO (((yL In)×(yL In)×Int×Int)⊕(Bool⊕Unit)):=
 if(decide (s.2.2.2 < s.2.2.1))=true then
  (idx s.2.1 s.2.2.2).bind λe595=>
  (idx s.1 s.2.2.2).bind λe596=>
  (ZwL F e595 e596).bind λo597=>
  if(!o597)=true then
   some (.inr (.inl false))
  else
  some (.inl (s.1,s.2.1,s.2.2.1,wi (s.2.2.2+1)))
 else
 some (.inr (.inr ()))
def ZpY:Lp:=⟨[(1,.v (.sl yIn)),(2,.fn 166 []),(15,.v (.sl yIn)),(16,.v yI),(17,.v yI)],[],[(.sl yIn),(.sl yIn),yI,yI],[⟨.ret,[(6,.v .bool)],[],[.bool]⟩,⟨.exit 0,[],[],[]⟩],Zb (Zoa yD) yD⟩
theorem ZsV:ZpY.okA yb 172 0:=Zx { still:=[6,27,28]} [] [ZtZ] ⟨ZAt,ytt⟩
def Zt1(F:Nat)(a0:(yL In))(a1:(yL In)):yO (Bool):=
 if((a0.length:Int)!=(a1.length:Int))=true then
  some false
 else
 (Zb (Zoa F) F (a1,a0,(a0.length:Int),0)).bind λo598=>
 match o598 with
 |.inl o599=>
  some o599
 |.inr o600=>
  some true
def ZrO:Fs yb:=⟨172,[.v (.sl yIn),.v (.sl yIn),.fn 166 []],[],[(.sl yIn),(.sl yIn)],(zE .bool),λx=>Zt1 yD x.1 x.2⟩
theorem ZxC:ZrO.Ok:=fnO { still:=[6,27,28]} [(0,ZpY)] [] trivial ⟨ZsV,ytt⟩
def ZiF(F:Nat)(s:((yL ZC)×(yL ZC)×Int×Int)):yO (((yL ZC)×(yL ZC)×Int×Int)⊕(Bool⊕Unit)):=
 if(decide (s.2.2.2 < s.2.2.1))=true then
  (idx s.2.1 s.2.2.2).bind λe604=>
  (idx s.1 s.2.2.2).bind λe605=>
  (ZwM F e604 e605).bind λo606=>
  if(!o606)=true then
   some (.inr (.inl false))
  else
  some (.inl (s.1,s.2.1,s.2.2.1,wi (s.2.2.2+1)))
 else
 some (.inr (.inr ()))
def ZjL:Lp:=⟨[(1,.v (.sl Zm)),(2,.fn 168 []),(15,.v (.sl Zm)),(16,.v yI),(17,.v yI)],[],[(.sl Zm),(.sl Zm),yI,yI],[⟨.ret,[(6,.v .bool)],[],[.bool]⟩,⟨.exit 0,[],[],[]⟩],Zb (ZiF yD) yD⟩
theorem Zob:ZjL.okA yb 171 0:=Zx { still:=[6,27,28]} [] [Zt0] ⟨ZAu,ytt⟩
def ZmK(F:Nat)(a0:(yL ZC))(a1:(yL ZC)):yO (Bool):=
 if((a0.length:Int)!=(a1.length:Int))=true then
  some false
 else
 (Zb (ZiF F) F (a1,a0,(a0.length:Int),0)).bind λo607=>
 match o607 with
 |.inl o608=>
  some o608
 |.inr o609=>
  some true
def Zk5:Fs yb:=⟨171,[.v (.sl Zm),.v (.sl Zm),.fn 168 []],[],[(.sl Zm),(.sl Zm)],(zE .bool),λx=>ZmK yD x.1 x.2⟩
theorem ZrP:Zk5.Ok:=fnO { still:=[6,27,28]} [(0,ZjL)] [] trivial ⟨Zob,ytt⟩
def ZwN(F:Nat)(a0:Out)(a1:Out):yO (Bool):=
 if(a0.1==a1.1)=true then
  (ZmK F a0.2 a1.2).bind λo610=>
  some o610
 else
 some false
def Zt2:Fs yb:=⟨170,[.v ZR,.v ZR,.ref 0 []],[.var (.fn 168 []) true],[ZR,ZR],[⟨.ret,[(0,.v .bool)],[.var (.fn 168 []) true],[.bool]⟩],λx=>ZwN yD x.1 x.2⟩
theorem ZAv:Zt2.Ok:=fnO { still:=[5,14,17,18]} [] [Zk5] ⟨ZrP,ytt⟩
def ZmL(F:Nat)(s:((yL Out)×(yL Out)×Int×Int)):yO (((yL Out)×(yL Out)×Int×Int)⊕(Bool⊕Unit)):=
 if(decide (s.2.2.2 < s.2.2.1))=true then
  (idx s.2.1 s.2.2.2).bind λe602=>
  (idx s.1 s.2.2.2).bind λe603=>
  (ZwN F e602 e603).bind λo611=>
  if(!o611)=true then
   some (.inr (.inl false))
  else
  some (.inl (s.1,s.2.1,s.2.2.1,wi (s.2.2.2+1)))
 else
 some (.inr (.inr ()))
def Zoc:Lp:=⟨[(1,.v (.sl ZR)),(2,.fn 170 [.ref 0 []]),(15,.v (.sl ZR)),(16,.v yI),(17,.v yI)],[.var (.fn 168 []) true],[(.sl ZR),(.sl ZR),yI,yI],[⟨.ret,[(6,.v .bool)],[.var (.fn 168 []) true],[.bool]⟩,⟨.exit 0,[],[.var (.fn 168 []) true],[]⟩],Zb (ZmL yD) yD⟩
theorem ZrQ:Zoc.okA yb 173 0:=Zx { still:=[6,27,28]} [] [Zt2] ⟨ZAv,ytt⟩
def ZrR(F:Nat)(a0:(yL Out))(a1:(yL Out)):yO (Bool):=
 if((a0.length:Int)!=(a1.length:Int))=true then
  some false
 else
 (Zb (ZmL F) F (a1,a0,(a0.length:Int),0)).bind λo612=>
 match o612 with
 |.inl o613=>
  some o613
 |.inr o614=>
  some true
def ZpZ:Fs yb:=⟨173,[.v (.sl ZR),.v (.sl ZR),.fn 170 [.ref 0 []]],[.var (.fn 168 []) true],[(.sl ZR),(.sl ZR)],[⟨.ret,[(0,.v .bool)],[.var (.fn 168 []) true],[.bool]⟩],λx=>ZrR yD x.1 x.2⟩
theorem ZwO:ZpZ.Ok:=fnO { still:=[6,27,28]} [(0,Zoc)] [] trivial ⟨ZrQ,ytt⟩
def ZJC(F:Nat)(a0:Tx)(a1:Tx):yO (Bool):=
 if(a0.2.2==a1.2.2)=true then
  (Zt1 F a0.1 a1.1).bind λo601=>
  if o601=true then
   (ZrR F a0.2.1 a1.2.1).bind λo615=>
   some o615
  else
  some false
 else
 some false
def ZqC(F:Nat):Fs yb:=⟨83,[.v yTx,.v yTx],[],[yTx,yTx],(zE .bool),λx=>ZJC F x.1 x.2⟩
def ZHb:Fs yb:=ZqC yD
def ZPj:HI:={ still:=[4,16,18,19,24,26,27]}
theorem ZEs:ZHb.Ok:=fnO ZPj [] [ZrO,ZpZ] ⟨ZxC,ZwO,ytt⟩
def Zhx(F:Nat)(a0:Kit):yO (Zb0):=
 (Wr F a0.1).bind λo616=>
 (Wr F a0.2.1).bind λo617=>
 (Wr F a0.2.2.1).bind λo618=>
 (Wr F a0.2.2.2.1).bind λo619=>
 (Wr F a0.2.2.2.2.1).bind λo620=>
 some (o616,o617,o618,o619,o620)
def ZiG(F:Nat):Fs yb:=⟨101,[.v ZF],[],[ZF],(zE ZaL),λx=>Zhx F x⟩
def Zp0:Fs yb:=ZiG yD
theorem Zod:Zp0.Ok:=fnO { still:=[4,7,10,13,16]} [] [Zdz] ⟨Zfj,ytt⟩
abbrev qO:=Zz×Kit×Int×Int×(yL Int)×Int×(yL yG)×Int×Sig×(yL Cond)×(yL Msg)×(yL Msg)
def YV(F:Nat)(a0:Zz)(a1:Kit)(a2:Int)(a3:yH)(a4:yG)(a5:Int):yO (Int⊕(Int×qO)):=
 if(decide (a2 < 0))=true then
  some (.inl 1)
 else
 if(decide (a2 > 1))=true then
  some (.inl 1)
 else
 (XV F a4).bind λo621=>
 if(!o621)=true then
  some (.inl 1)
 else
 (Zhx F a1).bind λo622=>
 if(inB a2 2)=true then
  (a0.2.2.1[a2.toNat]?).bind λe623=>
  if(!(decide (o622=e623)))=true then
   some (.inl 1)
  else
  (Zdm F a0 a3).bind λo624=>
  if(!o624)=true then
   some (.inl 14)
  else
  (XD F a0 a3 a2 a5).bind λo625=>
  if(!o625)=true then
   some (.inl 13)
  else
  (Qw F a4).bind λo626=>
  if(inB a2 2)=true then
   (([([]:yG),([]:yG)]:yL yG)[a2.toNat]?).bind λe627=>
   some (.inr (0,a0,a1,a2,a3.1,a3.2.1,a3.2.2.2,([([]:yG),([]:yG)]:yL yG).set a2.toNat o626,a5,(0,0),[],[],[]))
  else
  none
 else
 none
abbrev zF:List ESh:=[.var (.agg [.v Zh,.v ZF,.v yI,.agg [.v yI,.v (.arr 2 yI),.own 1 ZE,.v yI],.v (.arr 2 Ze),.v yI,.own 2 Zc,.own 3 Zc,.v Zy]) true,.log ZE 97,.log Zc 99,.log Zc 99]
def Zp1:Fs yb:=⟨30,[.v Zh,.v ZF,.v yI,.v Zf,.v Ze,.v yI],[],[Zh,ZF,yI,Zf,Ze,yI],[⟨.ret,[(0,.tup [.ptr0,.v yI])],[],[yI]⟩,⟨.ret,[(0,.tup [.ref 0 [],.v yI])],zF,[yI,Zh,ZF,yI,yI,(.arr 2 yI),yI,(.arr 2 Ze),yI,Zy,(.sl ZE),(.sl Zc),(.sl Zc)]⟩],λx=>YV yD x.1 x.2.1 x.2.2.1 x.2.2.2.1 x.2.2.2.2.1 x.2.2.2.2.2⟩
def ZPk:HI:={ still:=[12,13,23,28,37,38,42,43,44,45,58],ghost:=[(55,[([6],Zc,99),([7],Zc,99)])],gst:=[(48,[([2],ZE,97)])]}
theorem ZwP:Zp1.Ok:=Ztx (fi:={ hi:=ZPk,gh:=[(10,.any 14 4 (.arr 2 Ze))]}) (specs:={ l:=[ZbK,Zp0,ZjV,Zdn,Zio]}) (okS ⟨ZaD,Zod,Zig,Zcq,Zgn,ytt⟩)
def Z5(F:Nat)(a0:Int)(a1:Int)(a2:Int):yO (Bool):=
 if(decide (a0 >= a1))=true then
  some (decide (a0<=a2))
 else
 some false
def Qe:Fs yb:=⟨154,[.v yI,.v yI,.v yI],[],[yI,yI,yI],(zE .bool),λx=>Z5 yD x.1 x.2.1 x.2.2⟩
theorem Zae:Qe.Ok:=fnO { still:=[6]} [] [] trivial
def QB(F:Nat)(a0:ZcQ):yO (Bool):=
 (Z5 F a0.1 0 65536).bind λo628=>
 if o628=true then
  (Z5 F a0.2.1 a0.1 1125899906842624).bind λo629=>
  if o629=true then
   (Z5 F a0.2.2.1 1 4096).bind λo630=>
   if o630=true then
    (Z5 F a0.2.2.2.1 0 16).bind λo631=>
    if o631=true then
     (Z5 F a0.2.2.2.2.1 1 1125899906842624).bind λo632=>
     if o632=true then
      (Z5 F a0.2.2.2.2.2 0 1125899906842624).bind λo633=>
      some o633
     else
     some false
    else
    some false
   else
   some false
  else
  some false
 else
 some false
def ZfI:Fs yb:=⟨217,[.v Zdi],[],[Zdi],(zE .bool),λx=>QB yD x⟩
def ZPl:HI:={ still:=[2,5,9,11,16,22,27,32]}
theorem ZmQ:ZfI.Ok:=fnO ZPl [] [Qe] ⟨Zae,ytt⟩
def XW(F:Nat)(s:(yU×yU×yU)):yO ((yU×yU×yU)⊕yU):=
 if(decide (s.2.1 > 0))=true then
  if((s.2.1 % 2)==1)=true then
   some (.inl ((s.1+s.1) % 4611686018427377339,s.2.1 / 2,(s.2.2+s.1) % 4611686018427377339))
  else
  some (.inl ((s.1+s.1) % 4611686018427377339,s.2.1 / 2,s.2.2))
 else
 some (.inr s.2.2)
def ZdH:Lp:=⟨[(0,.v .u64),(1,.v .u64),(5,.v .u64)],[],[.u64,.u64,.u64],[⟨.exit 0,[(5,.v .u64)],[],[.u64]⟩],Zb (XW yD) yD⟩
theorem Zi8:ZdH.okA yb 216 0:=Zx { still:=[4]} [] [] trivial
def Qf(F:Nat)(a0:yU)(a1:yU):yO (yU):=
 (Zb (XW F) F (a0,a1,0)).bind λo634=>
 some o634
def Zaf(F:Nat):Fs yb:=⟨216,[.v .u64,.v .u64],[],[.u64,.u64],(zE .u64),λx=>Qf F x.1 x.2⟩
def ZmR:Fs yb:=Zaf yD
theorem Zl2:ZmR.Ok:=fnO { still:=[4]} [(0,ZdH)] [] trivial ⟨Zi8,ytt⟩
end
end Go.Proofs.YtdhclndplbopgaaGreat
end
section
set_option maxRecDepth 4000
namespace Go.Proofs.YtdhclndplbopgaaGreat
open Go Go.Ev
theorem ZsW{z:Nat}:(yx (z % 4611686018427377339)).toNat=z % 4611686018427377339:=by
 rw[yaw,yaf];exact Nat.lt_trans (ybc _ (by decide)) (by decide)
theorem ZJD{a b:yU}(ha:a.toNat < 4611686018427377339)(hb:b.toNat < 4611686018427377339):((a+b) % 4611686018427377339).toNat=(a.toNat+b.toNat) % 4611686018427377339:=by
 rw[ycr,UInt64.toNat_add,show(4611686018427377339:yU).toNat=4611686018427377339 from rfl,yaf (a:=a.toNat+b.toNat) (by omega)]
theorem Zoe:∀(k m:Nat)(A B O:yU),A.toNat < 4611686018427377339->O.toNat < 4611686018427377339->B.toNat < 2 ^ k->k < m->
 Zb (XW yD) m (A,B,O)=some (yx ((O.toNat+A.toNat*B.toNat) % 4611686018427377339))
 |k,0,_,_,_,_,_,_,h=>by omega
 |0,m+1,A,B,O,hA,hO,h,_=>by
  have h0:B.toNat=0:=by rw[Nat.pow_zero] at h;omega
  have hn:¬B > 0:=by
   intro h2;have h3:0 < B.toNat:=yca.1 h2;omega
  have hs:XW yD (A,B,O)=if decide (B > 0)=true then(if((B % 2)==1)=true then some (.inl ((A+A) % 4611686018427377339,B / 2,(O+A) % 4611686018427377339)) else some (.inl ((A+A) % 4611686018427377339,B / 2,O))) else some (.inr O):=rfl
  unfold Zb;rw[hs]
  rw[yX (by rw[yN];exact hn),ya,h0,Nat.mul_zero,yce,yaf hO,UInt64.ofNat_toNat]
 |k+1,m+1,A,B,O,hA,hO,h,hm=>by
  have hs:XW yD (A,B,O)=if decide (B > 0)=true then(if((B % 2)==1)=true then some (.inl ((A+A) % 4611686018427377339,B / 2,(O+A) % 4611686018427377339)) else some (.inl ((A+A) % 4611686018427377339,B / 2,O))) else some (.inr O):=rfl
  unfold Zb;rw[hs];by_cases h2:B > 0
  ·have h3:0 < B.toNat:=yca.1 h2;have hsh:(B / 2).toNat=B.toNat / 2:=by rw[UInt64.toNat_div];rfl
   have hlt:(B / 2).toNat < 2 ^ k:=by
    rw[hsh];rw[Nat.pow_succ] at h;omega
   have hand:((B % 2)==1)=decide (B.toNat % 2=1):=by
    rw[ycm,yT,yN, <-ybz,ycr];rfl
   have hA2:=ZJD hA hA;have hAl:((A+A) % 4611686018427377339).toNat < 4611686018427377339:=by rw[hA2];exact ybc _ (by decide)
   have hB:B.toNat=2*(B.toNat / 2)+B.toNat % 2:=by omega
   rw[yW (yY h2),hand];by_cases h4:B.toNat % 2=1
   ·have hO2:=ZJD hO hA;have hOl:((O+A) % 4611686018427377339).toNat < 4611686018427377339:=by rw[hO2];exact ybc _ (by decide)
    rw[yW (yY h4),ya];dsimp only;rw[Zoe k m _ _ _ hAl hOl hlt (by omega),hA2,hO2,hsh];congr 2;rw[Nat.add_mod,Nat.mod_mod,Nat.mod_mul_mod, <-Nat.add_mod];congr 1
    conv=>rhs;rw[hB,h4,Nat.mul_add,Nat.mul_one, <-Nat.mul_assoc]
    rw[Nat.mul_two];omega
   ·rw[yX (by rw[yN];exact h4),ya];dsimp only;rw[Zoe k m _ _ _ hAl hO hlt (by omega),hA2,hsh];congr 2;rw[Nat.add_mod,Nat.mod_mul_mod, <-Nat.add_mod];congr 1
    conv=>rhs;rw[hB,show B.toNat % 2=0 by omega,yce, <-Nat.mul_assoc]
    rw[Nat.mul_two]
  ·have h3:B.toNat=0:=by
    rcases Nat.eq_zero_or_pos B.toNat with h5|h5
    ·exact h5
    ·exact absurd (show(0:yU) < B from yca.2 h5) h2
   rw[yX (by rw[yN];exact h2),ya,h3,Nat.mul_zero,yce,yaf hO,UInt64.ofNat_toNat]
noncomputable def ZA(F:Nat)(a0:yU)(a1:yU):yO yU:=if decide (a0.toNat < 4611686018427377339)=true then some (yx (a0.toNat*a1.toNat % 4611686018427377339)) else Qf F a0 a1
theorem ZHc(a b:yU):Qf yD a b=ZA yD a b:=by
 unfold ZA;split
 ·rename_i h;unfold Qf;rw[Zoe 64 yD a b 0 (yF h) (by decide) (ybo _) (by rw[Zdf];omega),ya,show(0:yU).toNat=0 from rfl,Nat.zero_add]
 ·rfl
noncomputable def ZmS(F:Nat):Fs yb:={ Zaf F with M:=λx=>ZA F x.1 x.2}
noncomputable def Zbl:Fs yb:=ZmS yD
theorem Zeb:Zbl.Ok:=Zqq (s:=Zaf yD) Zl2 λx=>(ZHc x.1 x.2).symm
end Go.Proofs.YtdhclndplbopgaaGreat
end
section
set_option maxRecDepth 4000
namespace Go.Proofs.YtdhclndplbopgaaGreat
open Go Go.Ev
noncomputable section
def XX(F:Nat)(s:(yU×yU×yU)):yO ((yU×yU×yU)⊕yU):=
 if(decide (s.2.1 > 0))=true then
  if((s.2.1 % 2)==1)=true then
   (ZA F s.2.2 s.1).bind λo635=>
   (ZA F s.1 s.1).bind λo636=>
   some (.inl (o636,s.2.1 / 2,o635))
  else
  (ZA F s.1 s.1).bind λo637=>
  some (.inl (o637,s.2.1 / 2,s.2.2))
 else
 some (.inr s.2.2)
def ZdI:Lp:=⟨[(0,.v .u64),(1,.v .u64),(5,.v .u64)],[],[.u64,.u64,.u64],[⟨.exit 0,[(5,.v .u64)],[],[.u64]⟩],Zb (XX yD) yD⟩
theorem Zi9:ZdI.okA yb 135 0:=Zx { still:=[4,11,12,14,15]} [] [Zbl] ⟨Zeb,ytt⟩
def Qg(F:Nat)(a0:yU)(a1:yU):yO (yU):=
 (Zb (XX F) F (a0,a1,1)).bind λo638=>
 some o638
def Zag(F:Nat):Fs yb:=⟨135,[.v .u64,.v .u64],[],[.u64,.u64],(zE .u64),λx=>Qg F x.1 x.2⟩
def ZmT:Fs yb:=Zag yD
theorem Zl3:ZmT.Ok:=fnO { still:=[4,11,12,14,15]} [(0,ZdI)] [] trivial ⟨Zi9,ytt⟩
end
end Go.Proofs.YtdhclndplbopgaaGreat
end
section
set_option maxRecDepth 4000
namespace Go.Proofs.YtdhclndplbopgaaGreat
open Go Go.Ev
theorem ZsX:∀(k m:Nat)(A N O:yU),A.toNat < 4611686018427377339->O.toNat < 4611686018427377339->N.toNat < 2 ^ k->k < m->Zb (XX yD) m (A,N,O)=some (yx (pwm 4611686018427377339 k A.toNat N.toNat O.toNat))
 |k,0,_,_,_,_,_,_,h=>by omega
 |0,m+1,A,N,O,hA,hO,h,_=>by
  have hn:¬N > 0:=by
   intro h2;have h3:0 < N.toNat:=yca.1 h2;rw[Nat.pow_zero] at h;omega
  have hs:XX yD (A,N,O)=if decide (N > 0)=true then(if((N % 2)==1)=true then(ZA yD O A).bind λo1=>(ZA yD A A).bind λo2=>some (.inl (o2,N / 2,o1)) else(ZA yD A A).bind λo2=>some (.inl (o2,N / 2,O))) else some (.inr O):=rfl
  unfold Zb;rw[hs]
  rw[yX (by rw[yN];exact hn),ya,pwm,UInt64.ofNat_toNat]
 |k+1,m+1,A,N,O,hA,hO,h,hm=>by
  have hs:XX yD (A,N,O)=if decide (N > 0)=true then(if((N % 2)==1)=true then(ZA yD O A).bind λo1=>(ZA yD A A).bind λo2=>some (.inl (o2,N / 2,o1)) else(ZA yD A A).bind λo2=>some (.inl (o2,N / 2,O))) else some (.inr O):=rfl
  unfold Zb;rw[hs];by_cases h2:N > 0
  ·have hp:0 < N.toNat->pwm 4611686018427377339 (k+1) A.toNat N.toNat O.toNat=pwm 4611686018427377339 k (A.toNat*A.toNat % 4611686018427377339) (N.toNat / 2) (if N.toNat % 2=1 then O.toNat*A.toNat % 4611686018427377339 else O.toNat):=λh=>by
    rw[pwm,yX (by omega)]
   have h3:0 < N.toNat:=yca.1 h2;have hsh:(N / 2).toNat=N.toNat / 2:=by rw[UInt64.toNat_div];rfl
   have hlt:(N / 2).toNat < 2 ^ k:=by
    rw[hsh];rw[Nat.pow_succ] at h;omega
   have hand:((N % 2)==1)=decide (N.toNat % 2=1):=by
    rw[ycm,yT,yN, <-ybz,ycr];rfl
   have ml:∀z:Nat,z % 4611686018427377339 < 4611686018427377339:=λz=>ybc _ (by decide)
   have e1:ZA yD A A=some (yx (A.toNat*A.toNat % 4611686018427377339)):=by
    unfold ZA;rw[yW (yY hA)]
   have e2:ZA yD O A=some (yx (O.toNat*A.toNat % 4611686018427377339)):=by
    unfold ZA;rw[yW (yY hO)]
   rw[yW (yY h2),hand,hp h3,e1,e2];by_cases h4:N.toNat % 2=1
   ·rw[yW (yY h4),yW h4,ya,ya,ya];dsimp only;rw[ZsX k m _ _ _ (by rw[ZsW];exact ml _) (by rw[ZsW];exact ml _) hlt (by omega),ZsW,ZsW,hsh]
   ·rw[yX (by rw[yN];exact h4),yX h4,ya,ya];dsimp only;rw[ZsX k m _ _ _ (by rw[ZsW];exact ml _) hO hlt (by omega),ZsW,hsh]
  ·have h3:N.toNat=0:=by
    rcases Nat.eq_zero_or_pos N.toNat with h5|h5
    ·exact h5
    ·exact absurd (show(0:yU) < N from yca.2 h5) h2
   rw[yX (by rw[yN];exact h2),ya,pwm,yW h3,UInt64.ofNat_toNat]
noncomputable def Xn(F:Nat)(a0:yU)(a1:yU):yO yU:=if decide (a0.toNat < 4611686018427377339)=true then some (yx (pwm 4611686018427377339 64 a0.toNat a1.toNat 1)) else Qg F a0 a1
theorem ZHd(a n:yU):Qg yD a n=Xn yD a n:=by
 unfold Xn;split
 ·rename_i h;unfold Qg;rw[ZsX 64 yD a n 1 (yF h) (by decide) (ybo _) (by rw[Zdf];omega),ya];rfl
 ·rfl
noncomputable def ZmU(F:Nat):Fs yb:={ Zag F with M:=λx=>Xn F x.1 x.2}
noncomputable def Zbm:Fs yb:=ZmU yD
theorem Zec:Zbm.Ok:=Zqq (s:=Zag yD) Zl3 λx=>(ZHd x.1 x.2).symm
end Go.Proofs.YtdhclndplbopgaaGreat
end
section
set_option maxRecDepth 4000
namespace Go.Proofs.YtdhclndplbopgaaGreat
open Go Go.Ev
noncomputable section
def Yc(F:Nat)(a0:yU):yO (Bool):=
 if(decide (a0 >= 1))=true then
  if(decide (a0 < 4611686018427377339))=true then
   (Xn F a0 2305843009213688669).bind λo639=>
   some (o639==1)
  else
  some false
 else
 some false
def Y8:Fs yb:=⟨62,[.v .u64],[],[.u64],(zE .bool),λx=>Yc yD x⟩
theorem Xy:Y8.Ok:=fnO { still:=[2,10]} [] [Zbm] ⟨Zec,ytt⟩
def ZaT(F:Nat)(a0:yU):yO (Bool):=
 (Yc F a0).bind λo640=>
 if o640=true then
  some (a0 !=1)
 else
 some false
def ZiH:Fs yb:=⟨218,[.v .u64],[],[.u64],(zE .bool),λx=>ZaT yD x⟩
theorem Zpb:ZiH.Ok:=fnO { still:=[2,3]} [] [Y8] ⟨Xy,ytt⟩
def WT(F:Nat)(s:(Int×(yL yU)×Int×Zz×Zb0)):yO ((Int×(yL yU)×Int×Zz×Zb0)⊕((Int×Zz×Zb0)⊕(Int×Zz×Zb0))):=
 if(decide (s.2.2.1 < 5))=true then
  (idx s.2.1 s.2.2.1).bind λe647=>
  (ZaT F e647).bind λo648=>
  if(!o648)=true then
   some (.inr (.inl (1,s.2.2.2.1,s.2.2.2.2)))
  else
  some (.inl (s.1,s.2.1,wi (s.2.2.1+1),s.2.2.2.1,s.2.2.2.2))
 else
 some (.inr (.inr (s.1,s.2.2.2.1,s.2.2.2.2)))
def ZgM:Lp:=⟨[(1,.ref 0 []),(3,.v yI),(5,.v (.sl .u64)),(6,.v yI)],[.var (.v Zh) true,.var (.v ZaL) true],[yI,(.sl .u64),yI,Zh,ZaL],[⟨.ret,[(2,.v yI)],[.var (.v Zh) true,.var (.v ZaL) true],[yI,Zh,ZaL]⟩,⟨.exit 2,[(1,.ref 0 []),(3,.v yI)],[.var (.v Zh) true,.var (.v ZaL) true],[yI,Zh,ZaL]⟩],Zb (WT yD) yD⟩
theorem Zl4:ZgM.okA yb 136 1:=Zx { still:=[2,8,14,20,46,56]} [] [ZiH] ⟨Zpb,ytt⟩
def Qh(F:Nat)(s:(Int×Zz)):yO ((Int×Zz)⊕((Int×Zz)⊕Zz)):=
 if(decide (s.1 < 2))=true then
  if(inB s.1 2)=true then
   (s.2.2.2.1[s.1.toNat]?).bind λe644=>
   if(inB s.1 2)=true then
    (s.2.2.2.2.1[s.1.toNat]?).bind λe645=>
    (QB F e645).bind λo646=>
    if(!o646)=true then
     some (.inr (.inl (1,s.2)))
    else
    (Zb (WT F) F (s.1,[e644.1,e644.2.1,e644.2.2.1,e644.2.2.2.1,e644.2.2.2.2],0,s.2,e644)).bind λo649=>
    match o649 with
    |.inl o650=>
     some (.inr (.inl (o650.1,o650.2.1)))
    |.inr o651=>
     some (.inl (wi (o651.1+1),o651.2.1))
   else
   none
  else
  none
 else
 some (.inr (.inr s.2))
def ZgN:Lp:=⟨[(1,.ref 0 []),(3,.v yI)],[.var (.v Zh) true],[yI,Zh],[⟨.ret,[(2,.v yI)],[.var (.v Zh) true],[yI,Zh]⟩,⟨.exit 0,[(1,.ref 0 [])],[.var (.v Zh) true],[Zh]⟩],Zb (Qh yD) yD⟩
theorem Zl5:ZgN.okA yb 136 0:=Zx { still:=[2,8,14,20,46,56]} [(1,ZgM)] [ZfI] ⟨ZmQ,ytt⟩ ⟨Zl4,ytt⟩
def ZaU(F:Nat)(a0:Zz):yO (Int):=
 (Z5 F a0.2.1 1 1125899906842624).bind λo641=>
 if(!o641)=true then
  some 1
 else
 (Z5 F a0.1.2 0 63).bind λo642=>
 if(!o642)=true then
  some 1
 else
 (Z5 F a0.2.2.2.2 0 1).bind λo643=>
 if(!o643)=true then
  some 1
 else
 (Zb (Qh F) F (0,a0)).bind λo652=>
 match o652 with
 |.inl o653=>
  some o653.1
 |.inr o654=>
  (o654.2.2.2.1[0]?).bind λe655=>
  (o654.2.2.2.1[1]?).bind λe656=>
  if(decide ((wi (e655.2.1+e656.2.1)) > o654.2.1))=true then
   some 10
  else
  some 0
def ZiI:Fs yb:=⟨136,[.v Zh],[],[Zh],(zE yI),λx=>ZaU yD x⟩
theorem Zpc:ZiI.Ok:=fnO { still:=[2,8,14,20,46,56]} [(0,ZgN)] [Qe] ⟨Zae,ytt⟩ ⟨Zl5,ytt⟩
def YC(F:Nat)(a0:Int)(a1:Int)(a2:Int):yO (Bool):=
 if(decide (a0 >= a1))=true then
  some (decide (a0<=a2))
 else
 some false
def ZdJ:Fs yb:=⟨137,[.v yI,.v yI,.v yI],[],[yI,yI,yI],(zE .bool),λx=>YC yD x.1 x.2.1 x.2.2⟩
theorem ZiJ:ZdJ.Ok:=fnO { still:=[6]} [] [] trivial
def VG(F:Nat)(a0:Cond):yO (Bool):=
 (Yc F a0.2.2.2.1).bind λo657=>
 if o657=true then
  if(a0.2.2.2.1 !=1)=true then
   (YC F a0.1 0 1).bind λo658=>
   if o658=true then
    (YC F a0.2.1 1 1048576).bind λo659=>
    if o659=true then
     (YC F a0.2.2.1 1 1125899906842624).bind λo660=>
     if o660=true then
      (YC F a0.2.2.2.2 1 1048576).bind λo661=>
      some o661
     else
     some false
    else
    some false
   else
   some false
  else
  some false
 else
 some false
def Zb3:Fs yb:=⟨138,[.v ZE],[],[ZE],(zE .bool),λx=>VG yD x⟩
theorem ZfJ:Zb3.Ok:=fnO { still:=[2,5,15,20,25,30]} [] [Y8,ZdJ] ⟨Xy,ZiJ,ytt⟩
def W8(F:Nat)(a0:Cond)(a1:Cond):yO (Bool):=
 if(decide (a0.1 < a1.1))=true then
  some true
 else
 if(a0.1==a1.1)=true then
  some (decide (a0.2.1 < a1.2.1))
 else
 some false
def Zbn:Fs yb:=⟨139,[.v ZE,.v ZE],[],[ZE,ZE],(zE .bool),λx=>W8 yD x.1 x.2⟩
theorem Zed:Zbn.Ok:=fnO { still:=[4]} [] [] trivial
def XF(F:Nat)(s:(Int×Int×Int×Int×yH)):yO ((Int×Int×Int×Int×yH)⊕(Int×Int×yH)):=
 let y662:Bool:=decide (s.2.2.2.1 < (s.2.2.2.2.2.2.1.length:Int))
 if y662=true then
  (idx s.2.2.2.2.2.2.1 s.2.2.2.1).bind λe663=>
  if(e663.1==(wi (1 - s.1)))=true then
   (idx s.2.2.2.2.2.2.1 s.2.2.2.1).bind λe664=>
   some (.inl (s.1,wi (s.2.1+1),wi (s.2.2.1+e664.2.2.1),wi (s.2.2.2.1+1),s.2.2.2.2))
  else
  some (.inl (s.1,s.2.1,s.2.2.1,wi (s.2.2.2.1+1),s.2.2.2.2))
 else
 some (.inr (s.2.1,s.2.2.1,s.2.2.2.2))
def ZcT:Lp:=⟨[(1,.v yI),(2,.ref 0 []),(6,.v yI),(7,.v yI),(8,.v yI)],[.var (.v Zf) true],[yI,yI,yI,yI,Zf],[⟨.exit 0,[(6,.v yI),(7,.v yI)],[.var (.v Zf) true],[yI,yI,Zf]⟩],Zb (XF yD) yD⟩
theorem ZiK:ZcT.okA yb 140 0:=Zx { still:=[4,5]} [] [] trivial
def Wu(F:Nat)(a0:yH)(a1:Int):yO ((Int×Int)):=
 (Zb (XF F) F (a1,0,0,0,a0)).bind λo665=>
 some (o665.1,o665.2.1)
def Zah:Fs yb:=⟨140,[.v Zf,.v yI],[],[Zf,yI],[⟨.ret,[(0,.tup [.v yI,.v yI])],[],[yI,yI]⟩],λx=>Wu yD x.1 x.2⟩
theorem ZcU:Zah.Ok:=fnO { still:=[4,5]} [(0,ZcT)] [] trivial ⟨ZiK,ytt⟩
def Vi(F:Nat)(s:(Int×Int×yH)):yO ((Int×Int×yH)⊕(Int×yH)):=
 if(decide (s.2.1 < (s.2.2.2.2.1.length:Int)))=true then
  (idx s.2.2.2.2.1 s.2.1).bind λe668=>
  some (.inl (wi (s.1+e668.2.2.1),wi (s.2.1+1),s.2.2))
 else
 some (.inr (s.1,s.2.2))
def Zee:Lp:=⟨[(1,.ref 0 []),(3,.v yI),(4,.v yI)],[.var (.v Zf) true],[yI,yI,Zf],[⟨.exit 0,[(3,.v yI)],[.var (.v Zf) true],[yI,Zf]⟩],Zb (Vi yD) yD⟩
theorem Zj8:Zee.okA yb 141 0:=Zx { still:=[2]} [] [] trivial
def QC(F:Nat)(a0:yH):yO (Int):=
 (a0.2.1[0]?).bind λe666=>
 (a0.2.1[1]?).bind λe667=>
 (Zb (Vi F) F (wi (e666+e667),0,a0)).bind λo669=>
 some o669.1
def ZfK:Fs yb:=⟨141,[.v Zf],[],[Zf],(zE yI),λx=>QC yD x⟩
theorem ZmV:ZfK.Ok:=fnO { still:=[2]} [(0,Zee)] [] trivial ⟨Zj8,ytt⟩
def Zbo(F:Nat)(a0:Int):yO (Int):=
 (Z5 F a0 0 16).bind λo670=>
 if(!o670)=true then
  some 0
 else
 some (wi (36+(wi ((wi (4+a0))*8))))
def Zef:Fs yb:=⟨155,[.v yI],[],[yI],(zE yI),λx=>Zbo yD x⟩
theorem Zl6:Zef.Ok:=fnO { still:=[2,3]} [] [Qe] ⟨Zae,ytt⟩
def ZaV(F:Nat)(a0:Int)(a1:Int):yO (Int):=
 (Z5 F a0 0 1000).bind λo671=>
 if(!o671)=true then
  some 0
 else
 (Zbo F a1).bind λo672=>
 some (wi (a0*o672))
def ZiL:Fs yb:=⟨79,[.v yI,.v yI],[],[yI,yI],(zE yI),λx=>ZaV yD x.1 x.2⟩
theorem Zpd:ZiL.Ok:=fnO { still:=[4,5,9]} [] [Qe,Zef] ⟨Zae,Zl6,ytt⟩
def XR(F:Nat)(a0:Zz)(a1:yH):yO (Int):=
 (ZaV F a1.2.2.2 (a1.2.2.1.length:Int)).bind λo673=>
 some (wi (o673+660))
def Zb4:Fs yb:=⟨142,[.v Zh,.v Zf],[],[Zh,Zf],(zE yI),λx=>XR yD x.1 x.2⟩
theorem ZfL:Zb4.Ok:=fnO { still:=[4,6,9]} [] [ZiL] ⟨Zpd,ytt⟩
def Vj(F:Nat)(s:(Int×Zz×yH)):yO ((Int×Zz×yH)⊕((Bool×Zz×yH)⊕(Zz×yH))):=
 if(decide (s.1 < (s.2.2.2.2.1.length:Int)))=true then
  (idx s.2.2.2.2.1 s.1).bind λe681=>
  (VG F e681).bind λo682=>
  if(!o682)=true then
   some (.inr (.inl (false,s.2.1,s.2.2)))
  else
  if(decide (s.1 > 0))=true then
   (idx s.2.2.2.2.1 (wi (s.1 - 1))).bind λe683=>
   (idx s.2.2.2.2.1 s.1).bind λe684=>
   (W8 F e683 e684).bind λo685=>
   if(!o685)=true then
    some (.inr (.inl (false,s.2.1,s.2.2)))
   else
   (idx s.2.2.2.2.1 s.1).bind λe686=>
   (idx s.2.2.2.2.1 s.1).bind λe687=>
   if(inB (wi (1 - e687.1)) 2)=true then
    (s.2.1.2.2.2.1[(wi (1 - e687.1)).toNat]?).bind λe688=>
    if(decide (e686.2.2.1 < e688.2.2.2.2.1))=true then
     some (.inr (.inl (false,s.2.1,s.2.2)))
    else
    some (.inl (wi (s.1+1),s.2.1,s.2.2))
   else
   none
  else
  (idx s.2.2.2.2.1 s.1).bind λe689=>
  (idx s.2.2.2.2.1 s.1).bind λe690=>
  if(inB (wi (1 - e690.1)) 2)=true then
   (s.2.1.2.2.2.1[(wi (1 - e690.1)).toNat]?).bind λe691=>
   if(decide (e689.2.2.1 < e691.2.2.2.2.1))=true then
    some (.inr (.inl (false,s.2.1,s.2.2)))
   else
   some (.inl (wi (s.1+1),s.2.1,s.2.2))
  else
  none
 else
 some (.inr (.inr (s.2.1,s.2.2)))
def Zeg:Lp:=⟨[(2,.ref 0 []),(3,.ref 1 []),(5,.v yI)],[.var (.v Zh) true,.var (.v Zf) true],[yI,Zh,Zf],[⟨.ret,[(4,.v .bool)],[.var (.v Zh) true,.var (.v Zf) true],[.bool,Zh,Zf]⟩,⟨.exit 0,[(2,.ref 0 []),(3,.ref 1 [])],[.var (.v Zh) true,.var (.v Zf) true],[Zh,Zf]⟩],Zb (Vj yD) yD⟩
def ZNo:HI:={ still:=[4,10,15,22,29,35,56,69,74,104,105,125,136,137]}
theorem Zj9:Zeg.okA yb 63 0:=Zx ZNo [] [Zb3,Zbn] ⟨ZfJ,Zed,ytt⟩
def Vk(F:Nat)(s:(Int×Zz×yH)):yO ((Int×Zz×yH)⊕((Bool×Zz×yH)⊕(Zz×yH))):=
 if(decide (s.1 < 2))=true then
  (Wu F s.2.2 s.1).bind λo695=>
  if(inB s.1 2)=true then
   (s.2.1.2.2.2.1[s.1.toNat]?).bind λe696=>
   if(decide (o695.1 > e696.2.2.2.1))=true then
    some (.inr (.inl (false,s.2.1,s.2.2)))
   else
   if(inB s.1 2)=true then
    (s.2.1.2.2.2.1[s.1.toNat]?).bind λe697=>
    if(decide (o695.2 > e697.2.2.2.2.2))=true then
     some (.inr (.inl (false,s.2.1,s.2.2)))
    else
    some (.inl (wi (s.1+1),s.2.1,s.2.2))
   else
   none
  else
  none
 else
 some (.inr (.inr (s.2.1,s.2.2)))
def Zeh:Lp:=⟨[(2,.ref 0 []),(3,.ref 1 []),(7,.v yI)],[.var (.v Zh) true,.var (.v Zf) true],[yI,Zh,Zf],[⟨.ret,[(4,.v .bool)],[.var (.v Zh) true,.var (.v Zf) true],[.bool,Zh,Zf]⟩,⟨.exit 2,[(2,.ref 0 []),(3,.ref 1 [])],[.var (.v Zh) true,.var (.v Zf) true],[Zh,Zf]⟩],Zb (Vk yD) yD⟩
theorem Zka:Zeh.okA yb 63 1:=Zx ZNo [] [Zah] ⟨ZcU,ytt⟩
def Xo(F:Nat)(a0:Zz)(a1:yH):yO (Bool):=
 (ZaU F a0).bind λo674=>
 if(o674 !=0)=true then
  some false
 else
 (YC F a1.1 0 1048576).bind λo675=>
 if(!o675)=true then
  some false
 else
 (a1.2.1[0]?).bind λe676=>
 (YC F e676 0 1125899906842624).bind λo677=>
 if(!o677)=true then
  some false
 else
 (a1.2.1[1]?).bind λe678=>
 (YC F e678 0 1125899906842624).bind λo679=>
 if(!o679)=true then
  some false
 else
 (YC F a1.2.2.2 0 1000).bind λo680=>
 if(!o680)=true then
  some false
 else
 if(decide ((a1.2.2.1.length:Int) > 16))=true then
  some false
 else
 (Zb (Vj F) F (0,a0,a1)).bind λo692=>
 match o692 with
 |.inl o693=>
  some o693.1
 |.inr o694=>
  (Zb (Vk F) F (0,o694.1,o694.2)).bind λo698=>
  match o698 with
  |.inl o699=>
   some o699.1
  |.inr o700=>
   (QC F o700.2).bind λo701=>
   if(o701==o700.1.2.1)=true then
    if(inB o700.1.2.2.2.2 2)=true then
     (o700.2.2.1[o700.1.2.2.2.2.toNat]?).bind λe702=>
     (XR F o700.1 o700.2).bind λo703=>
     some (decide (e702 >= o703))
    else
    none
   else
   some false
def Qi:Fs yb:=⟨63,[.v Zh,.v Zf],[],[Zh,Zf],(zE .bool),λx=>Xo yD x.1 x.2⟩
theorem ZaF:Qi.Ok:=fnO ZNo [(0,Zeg),(1,Zeh)] [ZiI,ZdJ,ZfK,Zb4] ⟨Zpc,ZiJ,ZmV,ZfL,ytt⟩ ⟨Zj9,Zka,ytt⟩
def Yj(F:Nat)(s:(yU×Int×Int×(yL yB))):yO ((yU×Int×Int×(yL yB))⊕(yU×Int×(yL yB))):=
 if(decide (s.2.2.1 >= 0))=true then
  if(inB s.2.1 32)=true then
   (s.2.2.2[s.2.1.toNat]?).bind λe704=>
   let y705:yU:=ZO (yx e704.toNat) (min ((w64 s.2.2.1).toNat:Int).toNat 64)
   some (.inl (((2*s.1)+(y705&&&1)) % 2305843009213688668,s.2.1,wi (s.2.2.1 - 1),s.2.2.2))
  else
  none
 else
 some (.inr (s.1,s.2.1,s.2.2.2))
def ZfM:Lp:=⟨[(1,.ref 0 []),(3,.v .u64),(4,.v yI),(5,.v yI)],[.var (.v (.arr 32 .u8)) true],[.u64,yI,yI,(.arr 32 .u8)],[⟨.exit 2,[(1,.ref 0 []),(3,.v .u64),(4,.v yI)],[.var (.v (.arr 32 .u8)) true],[.u64,yI,(.arr 32 .u8)]⟩],Zb (Yj yD) yD⟩
theorem Zk6:ZfM.okA yb 163 1:=Zx { still:=[2]} [] [] trivial
def Yk(F:Nat)(s:(yU×Int×(yL yB))):yO ((yU×Int×(yL yB))⊕(yU×(yL yB))):=
 if(decide (s.2.1 < 32))=true then
  (Zb (Yj F) F (s.1,s.2.1,7,s.2.2)).bind λo706=>
  some (.inl (o706.1,wi (o706.2.1+1),o706.2.2))
 else
 some (.inr (s.1,s.2.2))
def ZfN:Lp:=⟨[(1,.ref 0 []),(3,.v .u64),(4,.v yI)],[.var (.v (.arr 32 .u8)) true],[.u64,yI,(.arr 32 .u8)],[⟨.exit 0,[(3,.v .u64)],[.var (.v (.arr 32 .u8)) true],[.u64,(.arr 32 .u8)]⟩],Zb (Yk yD) yD⟩
theorem Zk7:ZfN.okA yb 163 0:=Zx { still:=[2]} [(1,ZfM)] [] trivial ⟨Zk6,ytt⟩
def Ya(F:Nat)(a0:(yL yB)):yO (yU):=
 (Zb (Yk F) F (0,0,a0)).bind λo707=>
 some (o707.1+1)
def QD:Fs yb:=⟨163,[.v (.arr 32 .u8)],[],[(.arr 32 .u8)],(zE .u64),λx=>Ya yD x⟩
theorem Zbp:QD.Ok:=fnO { still:=[2]} [(0,ZfN)] [] trivial ⟨Zk7,ytt⟩
def Yl(F:Nat)(s:(yU×Int×(yL yB))):yO ((yU×Int×(yL yB))⊕(yL yB)):=
 if(decide (s.2.1 >= 0))=true then
  if(decide (0<=s.2.1))=true then
   let y708:yB:=w8 ((ZO s.1 (min s.2.1.toNat 64)).toNat:Int)
   if(apB s.2.2.length 1 1)=true then
    some (.inl (s.1,wi (s.2.1 - 8),s.2.2++([y708]:yL yB)))
   else
   none
  else
  none
 else
 some (.inr s.2.2)
def ZfO:Lp:=⟨[(0,.v .u64),(3,.own 0 .u8),(4,.v yI)],[.log .u8 5],[.u64,yI,(.sl .u8)],[⟨.exit 0,[(3,.own 0 .u8)],[.log .u8 5],[(.sl .u8)]⟩],Zb (Yl yD) yD⟩
theorem Zk8:ZfO.okA yb 164 0:=Zx { own:=[3,9,15],still:=[2]} [] [] trivial
def Y9(F:Nat)(a0:yU):yO ((yL yB)):=
 (Zb (Yl F) F (a0,56,[])).bind λo709=>
 some o709
def QE:Fs yb:=⟨164,[.v .u64],[],[.u64],(zE (.sl .u8)),λx=>Y9 yD x⟩
theorem Zbq:QE.Ok:=fnO { own:=[3,9,15],still:=[2]} [(0,ZfO)] [] trivial ⟨Zk8,ytt⟩
def XY(F:Nat)(s:((yL yB)×(yL yB))):yO (((yL yB)×(yL yB))⊕((yL yB)×(yL yB))):=
 if((yav (s.2.length:Int) 64)!=56)=true then
  if(apB s.2.length 1 1)=true then
   some (.inl (s.1,s.2++([0]:yL yB)))
  else
  none
 else
 some (.inr (s.1,s.2))
def ZdK:Lp:=⟨[(0,.v (.sl .u8)),(3,.own 0 .u8)],[.log .u8 5],[(.sl .u8),(.sl .u8)],[⟨.exit 0,[(0,.v (.sl .u8)),(3,.own 0 .u8)],[.log .u8 5],[(.sl .u8),(.sl .u8)]⟩],Zb (XY yD) yD⟩
def ZNp:HI:={ own:=[3,6,8,9,11,16,18,27,33],still:=[2]}
theorem Zja:ZdK.okA yb 256 0:=Zx ZNp [] [] trivial
def XZ(F:Nat)(s:(yU×Int×(yL yB))):yO ((yU×Int×(yL yB))⊕(yL yB)):=
 if(decide (s.2.1 >= 0))=true then
  if(decide (0<=s.2.1))=true then
   let y711:yB:=w8 ((ZO s.1 (min s.2.1.toNat 64)).toNat:Int)
   if(apB s.2.2.length 1 1)=true then
    some (.inl (s.1,wi (s.2.1 - 8),s.2.2++([y711]:yL yB)))
   else
   none
  else
  none
 else
 some (.inr s.2.2)
def ZdL:Lp:=⟨[(3,.own 0 .u8),(4,.v .u64),(5,.v yI)],[.log .u8 5],[.u64,yI,(.sl .u8)],[⟨.exit 2,[(3,.own 0 .u8)],[.log .u8 5],[(.sl .u8)]⟩],Zb (XZ yD) yD⟩
theorem Zjb:ZdL.okA yb 256 1:=Zx ZNp [] [] trivial
def Qj(F:Nat)(a0:(yL yB)):yO ((yL yB)):=
 if(apB 0 a0.length 1)=true then
  if(apB a0.length 1 1)=true then
   (Zb (XY F) F (a0,a0++([128]:yL yB))).bind λo710=>
   (Zb (XZ F) F (8*(w64 (o710.1.length:Int)),56,o710.2)).bind λo712=>
   some o712
  else
  none
 else
 none
def Zei:Fs yb:=⟨256,[.v (.sl .u8)],[],[(.sl .u8)],(zE (.sl .u8)),λx=>Qj yD x⟩
theorem Zl7:Zei.Ok:=fnO ZNp [(0,ZdK),(1,ZdL)] [] trivial ⟨Zja,Zjb,ytt⟩
def Zbr(F:Nat):yO ((yL yV)):=
 some [1779033703,3144134277,1013904242,2773480762,1359893119,2600822924,528734635,1541459225]
def Zej:Fs yb:=⟨257,[],[],[],(zE (.sl .u32)),λx=>Zbr yD⟩
theorem Zl8:Zej.Ok:=fnO { still:=[0]} [] [] trivial
def ZU(F:Nat)(a0:yV)(a1:Int):yO (yV):=
 if(decide (0<=a1))=true then
  if(decide (0<=wi (32 - a1)))=true then
   let y713:yV:=(ZgC a0 (min a1.toNat 32))|||(ZcO a0 (min (wi (32 - a1)).toNat 32))
   some y713
  else
  none
 else
 none
def Zb5:Fs yb:=⟨275,[.v .u32,.v yI],[],[.u32,yI],(zE .u32),λx=>ZU yD x.1 x.2⟩
theorem ZfP:Zb5.Ok:=fnO { still:=[4]} [] [] trivial
def Wa(F:Nat)(s:((yL yB)×Int×(yL yV))):yO (((yL yB)×Int×(yL yV))⊕(yL yV)):=
 if(decide (s.2.1 < 16))=true then
  (idx s.1 (wi (4*s.2.1))).bind λe714=>
  (idx s.1 (wi ((wi (4*s.2.1))+1))).bind λe715=>
  let y716:yV:=(ZcO (ybp e714.toNat) 24)|||(ZcO (ybp e715.toNat) 16)
  (idx s.1 (wi ((wi (4*s.2.1))+2))).bind λe717=>
  (idx s.1 (wi ((wi (4*s.2.1))+3))).bind λe718=>
  let y719:yV:=(y716|||(ZcO (ybp e717.toNat) 8))|||(ybp e718.toNat)
  if(apB s.2.2.length 1 4)=true then
   some (.inl (s.1,wi (s.2.1+1),s.2.2++([y719]:yL yV)))
  else
  none
 else
 some (.inr s.2.2)
def Zek:Lp:=⟨[(0,.v (.sl .u8)),(3,.own 0 .u32),(4,.v yI)],[.log .u32 72],[(.sl .u8),yI,(.sl .u32)],[⟨.exit 0,[(3,.own 0 .u32)],[.log .u32 72],[(.sl .u32)]⟩],Zb (Wa yD) yD⟩
def ZNq:HI:={ own:=[3,14,49,80,97],still:=[2,64,66,72,74]}
theorem Zkb:Zek.okA yb 273 0:=Zx ZNq [] [] trivial
def Wb(F:Nat)(s:(Int×(yL yV))):yO ((Int×(yL yV))⊕(yL yV)):=
 if(decide (s.1 < 64))=true then
  (idx s.2 (wi (s.1 - 15))).bind λe721=>
  (idx s.2 (wi (s.1 - 2))).bind λe722=>
  (ZU F e721 7).bind λo723=>
  (ZU F e721 18).bind λo724=>
  (ZU F e722 17).bind λo725=>
  (ZU F e722 19).bind λo726=>
  (idx s.2 (wi (s.1 - 16))).bind λe727=>
  (idx s.2 (wi (s.1 - 7))).bind λe728=>
  let y729:yV:=(e727+((o723^^^o724)^^^(ZgC e721 3)))+e728
  if(apB s.2.length 1 4)=true then
   let y730:(yL yV):=s.2++([y729+((o725^^^o726)^^^(ZgC e722 10))]:yL yV)
   some (.inl (wi (s.1+1),y730))
  else
  none
 else
 some (.inr s.2)
def Zel:Lp:=⟨[(3,.own 0 .u32),(5,.v yI)],[.log .u32 72],[yI,(.sl .u32)],[⟨.exit 2,[(3,.own 0 .u32)],[.log .u32 72],[(.sl .u32)]⟩],Zb (Wb yD) yD⟩
theorem Zkc:Zel.okA yb 273 1:=Zx ZNq [] [Zb5] ⟨ZfP,ytt⟩
def QF(F:Nat)(a0:(yL yB)):yO ((yL yV)):=
 (Zb (Wa F) F (a0,0,[])).bind λo720=>
 (Zb (Wb F) F (16,o720)).bind λo731=>
 some o731
def ZfQ:Fs yb:=⟨273,[.v (.sl .u8)],[],[(.sl .u8)],(zE (.sl .u32)),λx=>QF yD x⟩
theorem ZmW:ZfQ.Ok:=fnO ZNq [(0,Zek),(1,Zel)] [] trivial ⟨Zkb,Zkc,ytt⟩
def ZcE(F:Nat):yO ((yL yV)):=
 some [1116352408,1899447441,3049323471,3921009573,961987163,1508970993,2453635748,2870763221,3624381080,310598401,607225278,1426881987,1925078388,2162078206,2614888103,3248222580,3835390401,4022224774,264347078,604807628,770255983,1249150122,1555081692,1996064986,2554220882,2821834349,2952996808,3210313671,3336571891,3584528711,113926993,338241895,666307205,773529912,1294757372,1396182291,1695183700,1986661051,2177026350,2456956037,2730485921,2820302411,3259730800,3345764771,3516065817,3600352804,4094571909,275423344,430227734,506948616,659060556,883997877,958139571,1322822218,1537002063,1747873779,1955562222,2024104815,2227730452,2361852424,2428436474,2756734187,3204031479,3329325298]
def ZgO:Fs yb:=⟨274,[],[],[],(zE (.sl .u32)),λx=>ZcE yD⟩
theorem Zof:ZgO.Ok:=fnO { still:=[0]} [] [] trivial
def Wc(F:Nat)(s:((yL yV)×(yL yV)×(yL yV)×Int×(yL Unit)×(yL yV))):yO (((yL yV)×(yL yV)×(yL yV)×Int×(yL Unit)×(yL yV))⊕((yL yV)×(yL Unit)×(yL yV))):=
 if(decide (s.2.2.2.1 < 64))=true then
  if(inB 4 s.2.2.2.2.2.length)=true then
   (s.2.2.2.2.2[4]?).bind λe734=>
   (ZU F e734 6).bind λo735=>
   if(inB 4 s.2.2.2.2.2.length)=true then
    (s.2.2.2.2.2[4]?).bind λe736=>
    (ZU F e736 11).bind λo737=>
    if(inB 4 s.2.2.2.2.2.length)=true then
     (s.2.2.2.2.2[4]?).bind λe738=>
     (ZU F e738 25).bind λo739=>
     if(inB 4 s.2.2.2.2.2.length)=true then
      (s.2.2.2.2.2[4]?).bind λe740=>
      if(inB 5 s.2.2.2.2.2.length)=true then
       (s.2.2.2.2.2[5]?).bind λe741=>
       if(inB 4 s.2.2.2.2.2.length)=true then
        (s.2.2.2.2.2[4]?).bind λe742=>
        if(inB 6 s.2.2.2.2.2.length)=true then
         (s.2.2.2.2.2[6]?).bind λe743=>
         let y744:yV:=(e740&&&e741)^^^((4294967295^^^e742)&&&e743)
         if(inB 7 s.2.2.2.2.2.length)=true then
          (s.2.2.2.2.2[7]?).bind λe745=>
          (idx s.2.2.1 s.2.2.2.1).bind λe746=>
          let y747:yV:=((e745+((o735^^^o737)^^^o739))+y744)+e746
          (idx s.2.1 s.2.2.2.1).bind λe748=>
          if(inB 0 s.2.2.2.2.2.length)=true then
           (s.2.2.2.2.2[0]?).bind λe749=>
           (ZU F e749 2).bind λo750=>
           if(inB 0 s.2.2.2.2.2.length)=true then
            (s.2.2.2.2.2[0]?).bind λe751=>
            (ZU F e751 13).bind λo752=>
            if(inB 0 s.2.2.2.2.2.length)=true then
             (s.2.2.2.2.2[0]?).bind λe753=>
             (ZU F e753 22).bind λo754=>
             if(inB 0 s.2.2.2.2.2.length)=true then
              (s.2.2.2.2.2[0]?).bind λe755=>
              if(inB 1 s.2.2.2.2.2.length)=true then
               (s.2.2.2.2.2[1]?).bind λe756=>
               if(inB 0 s.2.2.2.2.2.length)=true then
                (s.2.2.2.2.2[0]?).bind λe757=>
                if(inB 2 s.2.2.2.2.2.length)=true then
                 (s.2.2.2.2.2[2]?).bind λe758=>
                 if(inB 1 s.2.2.2.2.2.length)=true then
                  (s.2.2.2.2.2[1]?).bind λe759=>
                  if(inB 2 s.2.2.2.2.2.length)=true then
                   (s.2.2.2.2.2[2]?).bind λe760=>
                   let y761:yV:=((e755&&&e756)^^^(e757&&&e758))^^^(e759&&&e760);let y762:yV:=((y747+e748)+((o750^^^o752)^^^o754))+y761
                   if(inB 0 s.2.2.2.2.2.length)=true then
                    (s.2.2.2.2.2[0]?).bind λe763=>
                    if(inB 1 s.2.2.2.2.2.length)=true then
                     (s.2.2.2.2.2[1]?).bind λe764=>
                     if(inB 2 s.2.2.2.2.2.length)=true then
                      (s.2.2.2.2.2[2]?).bind λe765=>
                      if(inB 3 s.2.2.2.2.2.length)=true then
                       (s.2.2.2.2.2[3]?).bind λe766=>
                       if(inB 4 s.2.2.2.2.2.length)=true then
                        (s.2.2.2.2.2[4]?).bind λe767=>
                        if(inB 5 s.2.2.2.2.2.length)=true then
                         (s.2.2.2.2.2[5]?).bind λe768=>
                         if(inB 6 s.2.2.2.2.2.length)=true then
                          (s.2.2.2.2.2[6]?).bind λe769=>
                          some (.inl (s.1,s.2.1,s.2.2.1,wi (s.2.2.2.1+1),()::s.2.2.2.2.1,[y762,e763,e764,e765,e766+(y747+e748),e767,e768,e769]))
                         else
                         none
                        else
                        none
                       else
                       none
                      else
                      none
                     else
                     none
                    else
                    none
                   else
                   none
                  else
                  none
                 else
                 none
                else
                none
               else
               none
              else
              none
             else
             none
            else
            none
           else
           none
          else
          none
         else
         none
        else
        none
       else
       none
      else
      none
     else
     none
    else
    none
   else
   none
  else
  none
 else
 some (.inr (s.1,s.2.2.2.2.1,s.2.2.2.2.2))
def Zem:Lp:=⟨[(0,.v (.sl .u32)),(5,.v (.sl .u32)),(6,.v (.sl .u32)),(7,.rw 0),(8,.v yI)],[.row .u32 true 72],[(.sl .u32),(.sl .u32),(.sl .u32),yI,(.sl (.st [])),(.sl .u32)],[⟨.exit 0,[(0,.v (.sl .u32)),(7,.rw 0)],[.row .u32 true 72],[(.sl .u32),(.sl (.st [])),(.sl .u32)]⟩],Zb (Wc yD) yD⟩
def ZNr:HI:={ own:=[18,20],still:=[4,15,27,31,36,74,78,83],rowt:=[7,18,20,137,142],rew:=[(137,7)]}
theorem Zkd:Zem.okA yb 258 0:=Zx ZNr [] [Zb5] ⟨ZfP,ytt⟩
def Wd(F:Nat)(s:((yL yV)×Int×(yL Unit)×(yL yV))):yO (((yL yV)×Int×(yL Unit)×(yL yV))⊕((yL Unit)×(yL yV))):=
 if(decide (s.2.1 < 8))=true then
  if(inB s.2.1 s.2.2.2.length)=true then
   (s.2.2.2[s.2.1.toNat]?).bind λe771=>
   (idx s.1 s.2.1).bind λe772=>
   if(inB s.2.1 s.2.2.2.length)=true then
    (s.2.2.2[s.2.1.toNat]?).bind λe773=>
    some (.inl (s.1,wi (s.2.1+1),s.2.2.1,s.2.2.2.set s.2.1.toNat (e771+e772)))
   else
   none
  else
  none
 else
 some (.inr (s.2.2.1,s.2.2.2))
def Zen:Lp:=⟨[(0,.v (.sl .u32)),(7,.rw 0),(14,.v yI)],[.row .u32 true 72],[(.sl .u32),yI,(.sl (.st [])),(.sl .u32)],[⟨.exit 2,[(7,.rw 0)],[.row .u32 true 72],[(.sl (.st [])),(.sl .u32)]⟩],Zb (Wd yD) yD⟩
theorem Zke:Zen.okA yb 258 1:=Zx ZNr [] [] trivial
def QG(F:Nat)(a0:(yL yV))(a1:(yL yB)):yO ((yL yV)):=
 (QF F a1).bind λo732=>
 (ZcE F).bind λo733=>
 if(apB 0 a0.length 4)=true then
  (Zb (Wc F) F (a0,o732,o733,0,[()],a0)).bind λo770=>
  (Zb (Wd F) F (o770.1,0,o770.2.1,o770.2.2)).bind λo774=>
  some o774.2
 else
 none
def ZfR:Fs yb:=⟨258,[.v (.sl .u32),.v (.sl .u8)],[],[(.sl .u32),(.sl .u8)],(zE (.sl .u32)),λx=>QG yD x.1 x.2⟩
theorem ZmX:ZfR.Ok:=fnO ZNr [(0,Zem),(1,Zen)] [ZfQ,ZgO] ⟨ZmW,Zof,ytt⟩ ⟨Zkd,Zke,ytt⟩
def Wv(F:Nat)(s:((yL yB)×(yL yV)×Int×(yL yB))):yO (((yL yB)×(yL yV)×Int×(yL yB))⊕((yL yV)×(yL yB))):=
 if(decide (s.2.2.1 < (s.1.length:Int)))=true then
  if(ZaE s.1.length (some s.2.2.1) (some (wi (s.2.2.1+64))))=true then
   let y777:(yL yB):=(s.1.take ((wi (s.2.2.1+64)).toNat)).drop s.2.2.1.toNat
   (QG F s.2.1 y777).bind λo778=>
   some (.inl (s.1,o778,wi (s.2.2.1+64),s.2.2.2))
  else
  none
 else
 some (.inr (s.2.1,s.2.2.2))
def ZfS:Lp:=⟨[(2,.ref 0 []),(3,.v (.sl .u8)),(4,.v (.sl .u32)),(5,.v yI)],[.var (.v (.arr 32 .u8)) true],[(.sl .u8),(.sl .u32),yI,(.arr 32 .u8)],[⟨.exit 0,[(2,.ref 0 []),(4,.v (.sl .u32))],[.var (.v (.arr 32 .u8)) true],[(.sl .u32),(.arr 32 .u8)]⟩],Zb (Wv yD) yD⟩
theorem Zk9:ZfS.okA yb 222 0:=Zx { still:=[8,17,22]} [] [ZfR] ⟨ZmX,ytt⟩
def Ww(F:Nat)(s:((yL yV)×Int×(yL yB)×(yL yB))):yO (((yL yV)×Int×(yL yB)×(yL yB))⊕((yL yB)×(yL yB))):=
 if(decide (s.2.1 < 32))=true then
  (idx s.1 (wi (Int.tdiv s.2.1 4))).bind λe780=>
  if(decide (0<=wi (24 - (wi (8*(yav s.2.1 4))))))=true then
   let y781:yV:=ZgC e780 (min (wi (24 - (wi (8*(yav s.2.1 4))))).toNat 32)
   if(inB s.2.1 32)=true then
    (s.2.2.2[s.2.1.toNat]?).bind λe782=>
    some (.inl (s.1,wi (s.2.1+1),s.2.2.1,s.2.2.2.set s.2.1.toNat (w8 (y781.toNat:Int))))
   else
   none
  else
  none
 else
 some (.inr (s.2.2.1,s.2.2.2))
def ZfT:Lp:=⟨[(2,.ref 0 []),(4,.v (.sl .u32)),(6,.ref 1 []),(7,.v yI)],[.var (.v (.arr 32 .u8)) true,.var (.v (.arr 32 .u8)) true],[(.sl .u32),yI,(.arr 32 .u8),(.arr 32 .u8)],[⟨.exit 2,[(2,.ref 0 []),(6,.ref 1 [])],[.var (.v (.arr 32 .u8)) true,.var (.v (.arr 32 .u8)) true],[(.arr 32 .u8),(.arr 32 .u8)]⟩],Zb (Ww yD) yD⟩
theorem Zla:ZfT.okA yb 222 1:=Zx { still:=[8,17,22]} [] [] trivial
def VH(F:Nat)(a0:(yL yB)):yO ((yL yB)):=
 (Qj F a0).bind λo775=>
 (Zbr F).bind λo776=>
 (Zb (Wv F) F (o775,o776,0,yzz)).bind λo779=>
 (Zb (Ww F) F (o779.1,0,o779.2,yzz)).bind λo783=>
 some o783.2
def Zbs(F:Nat):Fs yb:=⟨222,[.v (.sl .u8)],[],[(.sl .u8)],(zE (.arr 32 .u8)),λx=>VH F x⟩
def Zpe:Fs yb:=Zbs yD
theorem Zog:Zpe.Ok:=fnO { still:=[8,17,22]} [(0,ZfS),(1,ZfT)] [Zei,Zej] ⟨Zl7,Zl8,ytt⟩ ⟨Zk9,Zla,ytt⟩
end
end Go.Proofs.YtdhclndplbopgaaGreat
end
section
set_option maxRecDepth 4000
namespace Go.Ev
theorem ZFN{I X:Type}{step:I->yO (I⊕X)}{st:Nat->I}{x:X}(n:Nat)(hs:∀k,k < n->step (st k)=some (.inl (st (k+1))))(he:step (st n)=some (.inr x)):∀(d k f:Nat),k+d=n->d < f->Zb step f (st k)=some x
 |0,k,f+1,h,_=>by
  have e:k=n:=by omega
  subst e;unfold Zb
  rw[he,ya]
 |d+1,k,f+1,h,hf=>by
  unfold Zb;rw[hs k (by omega),ya];exact ZFN n hs he d (k+1) f (by omega) (by omega)
theorem Zt{I X:Type}{step:I->yO (I⊕X)}(n:Nat)(st:Nat->I){x:X}(hs:∀k,k < n->step (st k)=some (.inl (st (k+1))))(he:step (st n)=some (.inr x))(hn:n < 18446744073709551616):
 Zb step yD (st 0)=some x:=ZFN n hs he n 0 yD (by omega) (by rw[Zdf];exact hn)
theorem ZCu{I X:Type}{step:I->yO (I⊕X)}{Post:X->Prop}(n:Nat)(S:Nat->I->Prop)(hs:∀k s,k < n->S k s->(∃t,step s=some (.inl t)/\S (k+1) t)\/∃x,step s=some (.inr x)/\Post x)
 (he:∀s,S n s->∃x,step s=some (.inr x)/\Post x):∀(d k f:Nat)(s:I),k+d=n->d < f->S k s->∃x,Zb step f s=some x/\Post x
 |0,k,f+1,s,h,_,hS=>by
  have e:k=n:=by omega
  subst e;obtain⟨x,h1,h2⟩:=he s hS;unfold Zb;rw[h1,ya]
  exact⟨x,rfl,h2⟩
 |d+1,k,f+1,s,h,hf,hS=>by
  unfold Zb;rcases hs k s (by omega) hS with⟨t,h1,h2⟩|⟨x,h1,h2⟩
  ·rw[h1,ya];exact ZCu n S hs he d (k+1) f t (by omega) (by omega) h2
  ·rw[h1,ya];exact⟨x,rfl,h2⟩
theorem Ym{I X:Type}{step:I->yO (I⊕X)}(n:Nat)(S:Nat->I->Prop)(Post:X->Prop){i:I}(h0:S 0 i)(hn:n < 18446744073709551616)
 (hs:∀k s,k < n->S k s->(∃t,step s=some (.inl t)/\S (k+1) t)\/∃x,step s=some (.inr x)/\Post x)
 (he:∀s,S n s->∃x,step s=some (.inr x)/\Post x):∃x,Zb step yD i=some x/\Post x:=ZCu n S hs he n 0 yD i (by omega) (by rw[Zdf];exact hn) h0
theorem ZV{a b:Nat}(h:a < b):decide ((a:Int) < (b:Int))=true:=yY (by omega)
theorem ZH{a:Nat}:decide ((a:Int) < (a:Int))=false:=yZ (by omega)
theorem Zn{k:Nat}(h:k < 9223372036854775807):wi ((k:Int)+1)=((k+1:Nat):Int):=by
 rw[ZG (by omega) (by omega)];omega
theorem Zq{α:Type}{l:yL α}{k:Nat}{y:α}(h:l[k]? =some y):idx l (k:Int)=some y:=Zjv (by omega) (by simpa using h)
theorem Zyy{α:Type}{ls:yL (yL α)}{k:Nat}{e:yL α}(h:ls[k]? =some e):(ls.take (k+1)).flatten=(ls.take k).flatten++e:=by
 rw[List.take_add_one,h];simp
theorem ZFO{α:Type}(ls:yL (yL α))(k:Nat):(ls.take k).flatten.length<=ls.flatten.length:=by
 have h:=congrArg (λl=>(List.flatten l).length) (ybx k ls);simp only[List.flatten_append,yl] at h;omega
theorem ZdM{α:Type}{l:yL α}{k:Nat}{e:α}(h:l[k]? =some e):l.take (k+1)=l.take k++[e]:=by
 rw[List.take_add_one,h];rfl
theorem Zk{α:Type}{l:yL α}{k:Nat}(h:k < l.length):∃e,l[k]? =some e/\e∈l:=⟨l[k],List.getElem?_eq_getElem h,List.getElem_mem h⟩
end Go.Ev
end
section
set_option maxRecDepth 4000
namespace Go.Proofs.YtdhclndplbopgaaGreat
open Go Go.Ev Go.Sha
theorem Zfl(x:yV)(n k:Nat)(h:n+k=32)(hn:0 < n){z:Int}(hz:z=(n:Int)):∃o,ZU yD x z=some o/\o.toNat=lo (yag (dbl x.toNat) n):=by
 subst hz;unfold ZU;rw[ZG (z:=32 - (n:Int)) (by omega) (by omega),yW (yY (by omega)),yW (yY (by omega))];refine⟨_,rfl, ?_⟩;have e1:min ((n:Int)).toNat 32=n:=by omega
 have e2:min (32 - (n:Int)).toNat 32=k:=by omega
 rw[e1,e2,UInt32.or_comm];exact ZL4 x h hn
theorem ZNs(a b c d:yB):((((ZcO (ybp a.toNat) 24)|||(ZcO (ybp b.toNat) 16))|||(ZcO (ybp c.toNat) 8))|||(ybp d.toNat)).toNat=((a.toNat*256+b.toNat)*256+c.toNat)*256+d.toNat:=by
 have h1:=a.toNat_lt;have h2:=b.toNat_lt;have h3:=c.toNat_lt;have h4:=d.toNat_lt
 have hs:∀(x:yB)(n:Nat),n<=24->(ZcO (ybp x.toNat) n).toNat=x.toNat*2 ^ n:=by
  intro x n hn;have hx:=x.toNat_lt;unfold ZcO;rw[ycp,ycp,yaf (a:=x.toNat) (by omega)];refine yaf ?_
  calc x.toNat*2 ^ n < 2 ^ 8*2 ^ n:=Nat.mul_lt_mul_of_pos_right hx (Nat.two_pow_pos n)
   _=2 ^ (8+n):=(Nat.pow_add ..).symm
   _<=2 ^ 32:=Nat.pow_le_pow_right (by omega) (by omega)
 rw[ZAi,ZAi,ZAi,hs _ _ (by omega),hs _ _ (by omega),hs _ _ (by omega),ycp,yaf (a:=d.toNat) (by omega)]
 have k1:Nat.lor (a.toNat*2 ^ 24) (b.toNat*2 ^ 16)=2 ^ 16*(a.toNat*256+b.toNat):=by
  rw[Nat.mul_comm a.toNat,show Nat.lor (2 ^ 24*a.toNat) (b.toNat*2 ^ 16)=2 ^ 24*a.toNat|||b.toNat*2 ^ 16 from rfl, <-ycy (by omega)]
  omega
 have k2:Nat.lor (2 ^ 16*(a.toNat*256+b.toNat)) (c.toNat*2 ^ 8)=2 ^ 8*((a.toNat*256+b.toNat)*256+c.toNat):=by
  rw[show Nat.lor (2 ^ 16*(a.toNat*256+b.toNat)) (c.toNat*2 ^ 8)=2 ^ 16*(a.toNat*256+b.toNat)|||c.toNat*2 ^ 8 from rfl, <-ycy (by omega)]
  omega
 rw[k1,k2,show Nat.lor (2 ^ 8*((a.toNat*256+b.toNat)*256+c.toNat)) d.toNat=2 ^ 8*((a.toNat*256+b.toNat)*256+c.toNat)|||d.toNat from rfl, <-ycy (by omega)]
 omega
theorem ZOx(e f g:yV):((e&&&f)^^^((4294967295^^^e)&&&g)).toNat=ch e.toNat f.toNat g.toNat:=by
 rw[<-ZOo];congr 1;apply UInt32.toBitVec_inj.1;apply BitVec.eq_of_getLsbD_eq;intro i hi
 have h1:(4294967295:yV).toBitVec.getLsbD i=true:=by
  rw[show(4294967295:yV).toBitVec=BitVec.allOnes 32 from rfl,BitVec.getLsbD_allOnes]
  exact yY hi
 simp only[UInt32.toBitVec_xor,UInt32.toBitVec_and,BitVec.getLsbD_xor,BitVec.getLsbD_and,h1];cases e.toBitVec.getLsbD i <;> cases f.toBitVec.getLsbD i <;> cases g.toBitVec.getLsbD i <;> rfl
theorem ZOy(a b c:yV):(((a&&&b)^^^(a&&&c))^^^(b&&&c)).toNat=mj a.toNat b.toNat c.toNat:=by
 rw[<-ZOp];congr 1;apply UInt32.toBitVec_inj.1;apply BitVec.eq_of_getLsbD_eq;intro i hi;simp only[UInt32.toBitVec_xor,UInt32.toBitVec_and,UInt32.toBitVec_or,BitVec.getLsbD_xor,BitVec.getLsbD_and,BitVec.getLsbD_or];cases a.toBitVec.getLsbD i <;> cases b.toBitVec.getLsbD i <;> cases c.toBitVec.getLsbD i <;> rfl
theorem ZJE{l:yL yB}(h:l.length=64):∃o,QF yD l=some o/\o.length=64/\∀(i:Nat)x,o[i]? =some x->x.toNat=wd (YG (l.map yak)) i:=by
 unfold QF
 have hset:∀(w:yL yV)(y:yV),y.toNat=wd (YG (l.map yak)) w.length->(∀(j:Nat)x,w[j]? =some x->x.toNat=wd (YG (l.map yak)) j)->∀(j:Nat)x,(w++[y])[j]? =some x->x.toNat=wd (YG (l.map yak)) j:=by
  intro w y hy hw j x hx;by_cases hj:j < w.length
  ·rw[List.getElem?_append_left hj] at hx;exact hw j x hx
  ·rw[List.getElem?_append_right (by omega)] at hx
   have:j=w.length:=by
    have:=(List.getElem?_eq_some_iff.1 hx).1;simp at this;omega
   subst this;rw[Nat.sub_self] at hx;cases hx;exact hy
 obtain⟨w0,g1,g2,g3⟩:=Ym (step:=Wa yD) 16 (λk s=>∃w,s=(l,(k:Int),w)/\w.length=k/\∀(j:Nat)x,w[j]? =some x->x.toNat=wd (YG (l.map yak)) j) (λw=>w.length=16/\∀(j:Nat)x,w[j]? =some x->x.toNat=wd (YG (l.map yak)) j) (i:=(l,(0:Int),([]:yL yV))) ⟨_,rfl,rfl,λj x hx=>by simp at hx⟩ (by omega) (by
  rintro k _ hk ⟨w,rfl,hw,hv⟩;left;obtain⟨x0,q0,_⟩:=Zk (l:=l) (k:=4*k) (by omega);obtain⟨x1,q1,_⟩:=Zk (l:=l) (k:=4*k+1) (by omega);obtain⟨x2,q2,_⟩:=Zk (l:=l) (k:=4*k+2) (by omega);obtain⟨x3,q3,_⟩:=Zk (l:=l) (k:=4*k+3) (by omega);unfold Wa;dsimp only;rw[ZG (z:=4*(k:Int)) (by omega) (by omega),ZG (z:=4*(k:Int)+1) (by omega) (by omega),ZG (z:=4*(k:Int)+2) (by omega) (by omega),ZG (z:=4*(k:Int)+3) (by omega) (by omega)]
  rw[yW (yY (by omega)),show 4*(k:Int)=((4*k:Nat):Int) by omega,show((4*k:Nat):Int)+1=((4*k+1:Nat):Int) by omega,show((4*k:Nat):Int)+2=((4*k+2:Nat):Int) by omega,show((4*k:Nat):Int)+3=((4*k+3:Nat):Int) by omega,
   Zq q0,ya,Zq q1,ya,Zq q2,ya,Zq q3,ya,yW (ZD (by omega) (by omega)),Zn (by omega)]
  refine⟨_,rfl,_,rfl,by rw[yl,List.length_singleton];omega,hset w _ ?_ hv⟩;have mg:∀(k:Nat)(x:yB),l[k]? =some x->(l.map yak)[k]? =some x.toNat:=λk x hx=>by rw[yan,hx];rfl
  have hwg:=ZnW k (l.map yak) _ _ _ _ (mg _ _ q0) (mg _ _ q1) (mg _ _ q2) (mg _ _ q3);rw[ZNs,hw];have b0:=x0.toNat_lt;have b1:=x1.toNat_lt;have b2:=x2.toNat_lt;have b3:=x3.toNat_lt;exact(ZCm _ (by omega) hwg (by omega)).symm) (by
  rintro _ ⟨w,rfl,hw,hv⟩;unfold Wa;dsimp only;rw[yX (ynd (by omega))];exact⟨_,rfl,hw,hv⟩)
 rw[g1,ya]
 obtain⟨w1,k1,k2,k3⟩:=Ym (step:=Wb yD) 48 (λk s=>∃w,s=(((16+k:Nat):Int),w)/\w.length=16+k/\∀(j:Nat)x,w[j]? =some x->x.toNat=wd (YG (l.map yak)) j) (λw=>w.length=64/\∀(j:Nat)x,w[j]? =some x->x.toNat=wd (YG (l.map yak)) j) (i:=((16:Int),w0)) ⟨_,rfl,g2,g3⟩ (by omega) (by
  rintro k _ hk ⟨w,rfl,hw,hv⟩;left;obtain⟨e1,he1,_⟩:=Zk (l:=w) (k:=k+1) (by omega);obtain⟨e2,he2,_⟩:=Zk (l:=w) (k:=k+14) (by omega);obtain⟨e3,he3,_⟩:=Zk (l:=w) (k:=k) (by omega);obtain⟨e4,he4,_⟩:=Zk (l:=w) (k:=k+9) (by omega);obtain⟨o1,ho1,p1⟩:=Zfl e1 7 25 rfl (by omega) (z:=7) rfl;obtain⟨o2,ho2,p2⟩:=Zfl e1 18 14 rfl (by omega) (z:=18) rfl;obtain⟨o3,ho3,p3⟩:=Zfl e2 17 15 rfl (by omega) (z:=17) rfl;obtain⟨o4,ho4,p4⟩:=Zfl e2 19 13 rfl (by omega) (z:=19) rfl;unfold Wb;dsimp only;rw[yW (yY (by omega)),ZG (z:=((16+k:Nat):Int) - 15) (by omega) (by omega),ZG (z:=((16+k:Nat):Int) - 2) (by omega) (by omega),ZG (z:=((16+k:Nat):Int) - 16) (by omega) (by omega),ZG (z:=((16+k:Nat):Int) - 7) (by omega) (by omega)];rw[show((16+k:Nat):Int) - 15=((k+1:Nat):Int) by omega,show((16+k:Nat):Int) - 2=((k+14:Nat):Int) by omega,show((16+k:Nat):Int) - 16=(k:Int) by omega,show((16+k:Nat):Int) - 7=((k+9:Nat):Int) by omega]
  rw[Zq he1,ya,Zq he2,ya,ho1,ya,ho2,ya,ho3,ya,ho4,ya,Zq he3,ya,Zq he4,ya,
   yW (ZD (by omega) (by omega)),Zn (by omega)]
  refine⟨_,rfl,_,rfl,by rw[yl,List.length_singleton];omega,hset w _ ?_ hv⟩;have hn:=ZAj (YG (l.map yak)) k;rw[<-hv _ _ he1, <-hv _ _ he2, <-hv _ _ he3, <-hv _ _ he4] at hn;rw[hw,Nat.add_comm 16 k,hn,ZbT,ZbT,ZbT,ZOk e1 p1 p2,ZOl e2 p3 p4];exact ZOq ..) (by
  rintro _ ⟨w,rfl,hw,hv⟩;unfold Wb;dsimp only;rw[yX (ynd (by omega))];exact⟨_,rfl,hw,hv⟩)
 rw[k1,ya];exact⟨_,rfl,k2,k3⟩
theorem ZJF{st:yL yV}{l:yL yB}(hs:st.length=8)(h:l.length=64):∃o,QG yD st l=some o/\o.map yal=ZlN (st.map yal) (YG (l.map yak)):=by
 unfold QG;obtain⟨w,hw,hwl,hwv⟩:=ZJE h;obtain⟨k,hk,hkv⟩:∃k,ZcE yD=some k/\k.map yal=ks:=⟨_,rfl,rfl⟩;have hkl:k.length=64:=by rw[<-yac (f:=yal),hkv];rfl
 generalize hws:YG (l.map yak)=ws at hwv;rw[hw,ya,hk,ya,yW (ZD (by omega) (by omega))]
 obtain⟨x,g1,u,v,rfl,g2,g3⟩:=Ym (step:=Wc yD) 64 (λi s=>∃u v,s=(st,w,k,(i:Int),u,v)/\v.length=8/\v.map yal=rs ws (st.map yal) i) (λx=>∃u v,x=(st,u,v)/\v.length=8/\v.map yal=rs ws (st.map yal) 64) (i:=(st,w,k,(0:Int),([()]:yL Unit),st)) ⟨_,_,rfl,hs,rfl⟩ (by omega) (by
  rintro i _ hi ⟨u,v,rfl,he,hv⟩;left
  match v,he,hv with
  |[x0,x1,x2,x3,x4,x5,x6,x7],_,hv=>
   obtain⟨e1,he1,_⟩:=Zk (l:=k) (k:=i) (by omega);obtain⟨e2,he2,_⟩:=Zk (l:=w) (k:=i) (by omega);obtain⟨o1,ho1,p1⟩:=Zfl x4 6 26 rfl (by omega) (z:=6) rfl;obtain⟨o2,ho2,p2⟩:=Zfl x4 11 21 rfl (by omega) (z:=11) rfl;obtain⟨o3,ho3,p3⟩:=Zfl x4 25 7 rfl (by omega) (z:=25) rfl;obtain⟨o4,ho4,p4⟩:=Zfl x0 2 30 rfl (by omega) (z:=2) rfl;obtain⟨o5,ho5,p5⟩:=Zfl x0 13 19 rfl (by omega) (z:=13) rfl;obtain⟨o6,ho6,p6⟩:=Zfl x0 22 10 rfl (by omega) (z:=22) rfl;have hb:∀n:Nat,n < 8->inB (n:Int) ([x0,x1,x2,x3,x4,x5,x6,x7]:yL yV).length=true:=λn hn=>Yz (by omega) (by simp;omega);have b0:=hb 0 (by omega);have b1:=hb 1 (by omega);have b2:=hb 2 (by omega);have b3:=hb 3 (by omega);have b4:=hb 4 (by omega);have b5:=hb 5 (by omega);have b6:=hb 6 (by omega);have b7:=hb 7 (by omega);unfold Wc;dsimp only;generalize ZU yD=R at ho1 ho2 ho3 ho4 ho5 ho6 ⊢;rw[yW (yY (by omega))];have c0:inB 0 ([x0,x1,x2,x3,x4,x5,x6,x7]:yL yV).length=true:=b0;have c1:inB 1 ([x0,x1,x2,x3,x4,x5,x6,x7]:yL yV).length=true:=b1;have c2:inB 2 ([x0,x1,x2,x3,x4,x5,x6,x7]:yL yV).length=true:=b2;have c3:inB 3 ([x0,x1,x2,x3,x4,x5,x6,x7]:yL yV).length=true:=b3;have c4:inB 4 ([x0,x1,x2,x3,x4,x5,x6,x7]:yL yV).length=true:=b4;have c5:inB 5 ([x0,x1,x2,x3,x4,x5,x6,x7]:yL yV).length=true:=b5;have c6:inB 6 ([x0,x1,x2,x3,x4,x5,x6,x7]:yL yV).length=true:=b6;have c7:inB 7 ([x0,x1,x2,x3,x4,x5,x6,x7]:yL yV).length=true:=b7;simp only[c0,c1,c2,c3,c4,c5,c6,c7,if_true,yau,yaq,ya,ho1,ho2,ho3,ho4,ho5,ho6,Zq he1,Zq he2];rw[Zn (by omega)];refine⟨_,rfl,_,_,rfl,rfl, ?_⟩;rw[show rs ws (st.map yal) (i+1)=rnd (rs ws (st.map yal) i) (ks.getD i 0) (wd ws i) from rfl, <-hv]
   have hk1:ks.getD i 0=e1.toNat:=by
    rw[<-hkv,yda,yan,he1];rfl
   rw[hk1, <-hwv i e2 he2];simp only[yaj,List.map_nil];rw[Zwt]
   have kt:((x7+((o1^^^o2)^^^o3))+((x4&&&x5)^^^((4294967295^^^x4)&&&x6))+e1+e2).toNat=lo (yr (yr (yr (yr x7.toNat (S1 x4.toNat)) (ch x4.toNat x5.toNat x6.toNat)) e1.toNat) e2.toNat):=by
    rw[ZbT,ZbT,ZbT,ZbT,ZOn x4 p1 p2 p3,ZOx];exact ZOr ..
   have ka:((x7+((o1^^^o2)^^^o3))+((x4&&&x5)^^^((4294967295^^^x4)&&&x6))+e1+e2+((o4^^^o5)^^^o6)+(((x0&&&x1)^^^(x0&&&x2))^^^(x1&&&x2))).toNat=lo (yr (yr (yr (yr (yr (yr x7.toNat (S1 x4.toNat)) (ch x4.toNat x5.toNat x6.toNat)) e1.toNat) e2.toNat) (S0 x0.toNat)) (mj x0.toNat x1.toNat x2.toNat)):=by
    rw[ZbT,ZbT,kt,ZOm x0 p4 p5 p6,ZOy];exact ZOs ..
   have ke:(x3+(((x7+((o1^^^o2)^^^o3))+((x4&&&x5)^^^((4294967295^^^x4)&&&x6)))+e1+e2)).toNat=lo (yr x3.toNat (yr (yr (yr (yr x7.toNat (S1 x4.toNat)) (ch x4.toNat x5.toNat x6.toNat)) e1.toNat) e2.toNat)):=by
    rw[ZbT,kt];exact ZOt ..
   rw[ka,ke]) (by
  rintro _ ⟨u,v,rfl,he,hv⟩;unfold Wc;dsimp only;rw[yX (ynd (by omega))];exact⟨_,rfl,_,_,rfl,he,hv⟩)
 rw[g1,ya];have hml:(ZlN (st.map yal) ws).length=8:=Zit (by rw[yac];exact hs)
 obtain⟨x,q1,q2⟩:=Ym (step:=Wd yD) 8 (λi s=>∃e,s=(st,(i:Int),u,e)/\e.length=8/\∀(j:Nat)x,e[j]? =some x->if j < i then(ZlN (st.map yal) ws)[j]? =some x.toNat else(rs ws (st.map yal) 64)[j]? =some x.toNat) (λx=>x.2.map yal=ZlN (st.map yal) ws) (i:=(st,(0:Int),u,v)) ⟨_,rfl,g2,λj x hx=>by
  rw[yX (by omega), <-g3,yan,hx];rfl⟩ (by omega) (by
  rintro i _ hi ⟨e,rfl,he,hv⟩;left;obtain⟨e1,he1,_⟩:=Zk (l:=e) (k:=i) (by omega);obtain⟨e2,he2,_⟩:=Zk (l:=st) (k:=i) (by omega);unfold Wd;dsimp only;rw[yW (yY (by omega)),yW (Yz (by omega) (by omega)),yar,he1,ya,Zq he2,ya,yW (Yz (by omega) (by omega)),ya,Zn (by omega)];refine⟨_,rfl,_,rfl,by rw[ybn];exact he, ?_⟩;intro j x hx;by_cases hji:j=i
  ·subst hji;rw[ycx (by omega)] at hx;cases hx;rw[yW (by omega),ZbT];have k1:=hv _ _ he1;rw[yX (by omega)] at k1;unfold ZlN;rw[List.getElem?_zipWith,k1,yan,he2];rfl
  ·rw[ydb (Ne.symm hji)] at hx;have k1:=hv j x hx;by_cases hj:j < i
   ·rw[yW hj] at k1;rw[yW (by omega)];exact k1
   ·rw[yX hj] at k1;rw[yX (by omega)];exact k1) (by
  rintro _ ⟨e,rfl,he,hv⟩;unfold Wd;dsimp only;rw[yX (ynd (by omega))];refine⟨_,rfl, ?_⟩;dsimp only;apply ybs;intro j;rw[yan];by_cases hj:j < 8
  ·obtain⟨x,hx,_⟩:=Zk (l:=e) (k:=j) (by omega);have:=hv j x hx;rw[yW hj] at this;rw[hx,this];rfl
  ·rw[yap (by omega),yap (by omega)];rfl)
 dsimp only;rw[q1,ya];exact⟨_,rfl,q2⟩
def rb8(n:Nat):yL yB:=(be8 n).map yas
theorem ZAw(n:yU){k:Nat}(hk:k < 8):(rb8 n.toNat)[k]? =some (w8 ((ZO n (56 - 8*k)).toNat:Int)):=by
 have h:∀m:Nat,w8 ((ZO n m).toNat:Int)=yas (n.toNat / 2 ^ m % 256):=by
  intro m;unfold w8 ZO;rw[yaw,yaf (Nat.lt_of_le_of_lt (Nat.div_le_self _ _) (ybo n))];congr 1
 rw[h]
 match k,hk with
 |0,_=>rfl
 |1,_=>rfl
 |2,_=>rfl
 |3,_=>rfl
 |4,_=>rfl
 |5,_=>rfl
 |6,_=>rfl
 |7,_=>
  show some (yas (n.toNat % 256))=some (yas (n.toNat / 2 ^ 0 % 256));rw[Nat.pow_zero,Nat.div_one]
theorem ZNt{l:yL yB}(h:l.length<=4294967296):Qj yD l=some (l++([128]:yL yB)++yy (zs l.length) 0++rb8 (8*l.length)):=by
 unfold Qj;have hlt:l.length % 64 < 64:=ybc _ (by omega);rw[yW (ZD (by omega) (by omega)),yW (ZD (by omega) (by omega))]
 obtain⟨x,h1,h2⟩:=Ym (step:=XY yD) (zs l.length) (λj s=>s=(l,l++([128]:yL yB)++yy j 0)) (λx=>x=(l,l++([128]:yL yB)++yy (zs l.length) 0)) (i:=(l,l++([128]:yL yB))) (by simp) (by unfold zs;omega) (by
  rintro j _ hj rfl;left;unfold XY;dsimp only;have hl:(l++([128]:yL yB)++yy j 0).length=l.length+1+j:=by rw[yl,yl,ycq];rfl
  have hm:yav ((l++([128]:yL yB)++yy j 0).length:Int) 64=(((l.length+1+j) % 64:Nat):Int):=by rw[hl];rfl
  rw[hm];unfold zs at hj;rw[yW (by simp;omega),yW (ZD (by omega) (by omega))];exact⟨_,rfl,by rw[yad,List.replicate_succ']⟩) (by
  rintro _ rfl;unfold XY;dsimp only;have hl:(l++([128]:yL yB)++yy (zs l.length) 0).length=l.length+1+zs l.length:=by rw[yl,yl,ycq];rfl
  have hm:yav ((l++([128]:yL yB)++yy (zs l.length) 0).length:Int) 64=(((l.length+1+zs l.length) % 64:Nat):Int):=by rw[hl];rfl
  rw[hm,yX (by simp;unfold zs;omega)];exact⟨_,rfl,rfl⟩)
 rw[h1,ya,h2];dsimp only;generalize hp:l++([128]:yL yB)++yy (zs l.length) 0=p
 have hpl:p.length<=l.length+65:=by
  rw[<-hp,yl,yl,ycq];unfold zs;simp;omega
 have hn:(8*w64 (l.length:Int)).toNat=8*l.length:=by
  rw[UInt64.toNat_mul];unfold w64;rw[yaw];show 8*((((l.length:Nat):Int) % 18446744073709551616).toNat % 2 ^ 64) % 2 ^ 64=_;omega
 generalize hN:8*w64 (l.length:Int)=N at hn
 obtain⟨x,g1,g2⟩:=Ym (step:=XZ yD) 8 (λk s=>s=(N,56 - 8*(k:Int),p++(rb8 N.toNat).take k)) (λx=>x=p++rb8 N.toNat) (i:=(N,(56:Int),p)) (by simp) (by omega) (by
  rintro k _ hk rfl;left;unfold XZ;dsimp only;rw[yW (yY (by omega)),yW (yY (by omega)),yW (ZD (by simp;omega) (by simp;omega)),ZG (z:=56 - 8*(k:Int) - 8) (by omega) (by omega)];refine⟨_,rfl, ?_⟩;rw[ZdM (ZAw N hk),show min (56 - 8*(k:Int)).toNat 64=56 - 8*k by omega,yad,show 56 - 8*((k+1:Nat):Int)=56 - 8*(k:Int) - 8 by omega]) (by
  rintro _ rfl;unfold XZ;dsimp only;rw[yX (ynd (by omega))];exact⟨_,rfl,rfl⟩)
 rw[g1,ya,g2,hn]
theorem ZNu{l:yL yB}(h:l.length<=4294967296):VH yD l=some (sha l):=by
 unfold VH;obtain⟨f,hf,hfl⟩:∃f,Zbr yD=some f/\f.map yal=ZeU:=⟨_,rfl,rfl⟩;have hf8:f.length=8:=by rw[<-yac (f:=yal),hfl];rfl
 rw[ZNt h,ya,hf,ya];generalize hE:l++([128]:yL yB)++yy (zs l.length) 0++rb8 (8*l.length)=E
 have hEm:E.map yak=Ziv l:=by
  unfold Ziv;rw[<-hE];simp only[ybb,List.map_replicate,yaj,List.map_nil,rb8,List.map_map,yad,List.singleton_append]
  have:be8 (8*l.length)=(be8 (8*l.length)).map (yak ∘ yas):=by
   simp[be8]
  rw[<-this];simp
 have hEl:E.length=64*((l.length+72) / 64):=by rw[<-yac (f:=yak),hEm,Zww]
 generalize hz:yzz=z;have hzl:z.length=32:=by rw[<-hz];rfl
 obtain⟨x,h1,v,rfl,g1,g2⟩:=Ym (step:=Wv yD) ((l.length+72) / 64) (λc s=>∃d,s=(E,d,((64*c:Nat):Int),z)/\d.length=8/\d.map yal=Ziu c (E.map yak) ZeU) (λx=>∃v,x=(v,z)/\v.length=8/\v.map yal=Ziu ((l.length+72) / 64) (E.map yak) ZeU) (i:=(E,f,(0:Int),z)) ⟨_,rfl,hf8,hfl⟩ (by omega) (by
  rintro c _ hc ⟨d,rfl,hd,hv⟩;left;unfold Wv;dsimp only;obtain⟨m,hm1,hm2⟩:=ZJF (st:=d) (l:=(E.take (64*c+64)).drop (64*c)) hd (by rw[yby,yah];omega);rw[yW (yY (by omega)),ZG (z:=((64*c:Nat):Int)+64) (by omega) (by omega),yW (by simp only[ZaE,yi,yP];omega),show(((64*c:Nat):Int)+64).toNat=64*c+64 by omega,yar,hm1,ya];refine⟨_,rfl,_,by rw[show((64*c:Nat):Int)+64=((64*(c+1):Nat):Int) by omega], ?_, ?_⟩
  ·rw[<-yac (f:=yal),hm2];exact Zit (by rw[yac];exact hd)
  ·rw[hm2,ZoT,hv, <-List.map_drop, <-yck];congr 3;rw[List.drop_take];congr 1;omega) (by
  rintro _ ⟨d,rfl,hd,hv⟩;unfold Wv;dsimp only;rw[yX (ynd (by omega))];exact⟨_,rfl,_,rfl,hd,hv⟩)
 rw[h1,ya];dsimp only;generalize hv2:Ziu ((l.length+72) / 64) (E.map yak) ZeU=v2 at g2
 obtain⟨x,k1,o,rfl,k2,k3⟩:=Ym (step:=Ww yD) 32 (λi s=>∃o,s=(v,(i:Int),z,o)/\o.length=32/\∀(j:Nat),j < i->o[j]? =some (Go.Sha.ZJx v2 j)) (λx=>∃o,x=(z,o)/\o.length=32/\∀(j:Nat),j < 32->o[j]? =some (Go.Sha.ZJx v2 j)) (i:=(v,(0:Int),z,z)) ⟨_,rfl,hzl,λj hj=>by omega⟩ (by omega) (by
  rintro i _ hi ⟨o,rfl,ho,hv⟩;left;unfold Ww;dsimp only;have e1:Int.tdiv (i:Int) 4=((i / 4:Nat):Int):=rfl;have e2:yav (i:Int) 4=((i % 4:Nat):Int):=rfl;obtain⟨x1,hx1,_⟩:=Zk (l:=v) (k:=i / 4) (by omega);obtain⟨x2,hx2,_⟩:=Zk (l:=o) (k:=i) (by omega);rw[yW (yY (by omega)),e1,e2,ZG (z:=((i / 4:Nat):Int)) (by omega) (by omega),ZG (z:=8*((i % 4:Nat):Int)) (by omega) (by omega),ZG (z:=24 - 8*((i % 4:Nat):Int)) (by omega) (by omega),Zq hx1,ya,yW (yY (by omega)),yW (Yz (by omega) (by omega)),yar,hx2,ya,Zn (by omega)];refine⟨_,rfl,_,rfl,by rw[ybn];exact ho, ?_⟩;intro j hj;by_cases hji:j=i
  ·subst hji;rw[ycx (by omega)];congr 1;unfold Go.Sha.ZJx
   have hx:v2.getD (j / 4) 0=x1.toNat:=by
    rw[<-g2,yda,yan,hx1];rfl
   rw[hx,show min (24 - 8*((j % 4:Nat):Int)).toNat 32=24 - 8*(j % 4) by omega,Zyw];unfold w8;have e3:∀m:Nat,(((m:Nat):Int) % 256).toNat=m % 256:=λm=>by omega
   rw[e3,show yag x1.toNat (24 - 8*(j % 4))=x1.toNat >>> (24 - 8*(j % 4)) from rfl,ydd]
   exact UInt8.toNat_inj.1 (by simp)
  ·rw[ydb (Ne.symm hji)];exact hv j (by omega)) (by
  rintro _ ⟨o,rfl,ho,hv⟩;unfold Ww;dsimp only;rw[yX (ynd (by omega))];exact⟨_,rfl,_,rfl,ho,hv⟩)
 rw[k1,ya,ZEo, <-hEm,hv2];congr 1;apply ybs;intro j;by_cases hj:j < 32
 ·rw[k3 j hj,yan,List.getElem?_range hj];rfl
 ·rw[yap (by show o.length<=j;omega),yap (by simp;omega)]
noncomputable def We(F:Nat)(a0:yL yB):yO (yL yB):=if decide (a0.length<=4294967296)=true then some (sha a0) else VH F a0
noncomputable def Zpf(F:Nat):Fs yb:={ Zbs F with M:=λx=>We F x}
noncomputable def ZiM:Fs yb:=Zpf yD
theorem Zpg:ZiM.Ok:=Zqq (s:=Zbs yD) Zog λx=>by
 show We yD x=VH yD x;unfold We;split
 ·rename_i h;exact(ZNu (yF h)).symm
 ·rfl
theorem ZCv{l:yL yB}(h:l.length<=4294967296):We yD l=some (sha l):=yW (yY h)
end Go.Proofs.YtdhclndplbopgaaGreat
end
section
set_option maxRecDepth 4000
namespace Go.Proofs.YtdhclndplbopgaaGreat
open Go Go.Ev
noncomputable section
def ZZ(F:Nat)(s:(yU×Int×(yL yB)×(yL yB))):yO ((yU×Int×(yL yB)×(yL yB))⊕((yL yB)×(yL yB))):=
 if(decide (s.2.1 >= 0))=true then
  if(decide (0<=s.2.1))=true then
   let y784:yB:=w8 ((ZO s.1 (min s.2.1.toNat 64)).toNat:Int)
   if(apB s.2.2.2.length 1 1)=true then
    some (.inl (s.1,wi (s.2.1 - 8),s.2.2.1,s.2.2.2++([y784]:yL yB)))
   else
   none
  else
  none
 else
 some (.inr (s.2.2.1,s.2.2.2))
def ZcV:Lp:=⟨[(0,.v .u64),(3,.own 1 .u8),(4,.v yI)],[.log .u8 5,.log .u8 5],[.u64,yI,(.sl .u8),(.sl .u8)],[⟨.exit 0,[(3,.own 1 .u8)],[.log .u8 5,.log .u8 5],[(.sl .u8),(.sl .u8)]⟩],Zb (ZZ yD) yD⟩
theorem ZiN:ZcV.okA yb 164 0:=Zx { own:=[2,3,9,15,16]} [] [] trivial
def Xz(F:Nat)(a0:yU):yO ((yL yB)):=
 (Zb (ZZ F) F (a0,56,[],[])).bind λo785=>
 some o785.2
def ZdN:Fs yb:=⟨164,[.v .u64],[],[.u64],[⟨.ret,[(0,.own 0 .u8)],[.log .u8 5],[(.sl .u8)]⟩],λx=>Xz yD x⟩
theorem Zlb:ZdN.Ok:=fnO { own:=[2,3,9,15,16]} [(0,ZcV)] [] trivial ⟨ZiN,ytt⟩
def Z1(F:Nat)(s:((yL (yL yB))×Int×(yL yB)×(yL yB))):yO (((yL (yL yB))×Int×(yL yB)×(yL yB))⊕((yL yB)×(yL yB))):=
 if(decide (s.2.1 < (s.1.length:Int)))=true then
  (idx s.1 s.2.1).bind λe787=>
  (Y9 F (w64 (e787.length:Int))).bind λo788=>
  if(apB s.2.2.2.length o788.length 1)=true then
   (idx s.1 s.2.1).bind λe789=>
   if(apB ((s.2.2.2++o788).length) e789.length 1)=true then
    some (.inl (s.1,wi (s.2.1+1),s.2.2.1,(s.2.2.2++o788)++e789))
   else
   none
  else
  none
 else
 some (.inr (s.2.2.1,s.2.2.2))
def ZgP:Lp:=⟨[(1,.v (.sl (.sl .u8))),(4,.ref 0 []),(5,.own 1 .u8),(6,.v yI)],zR,[(.sl (.sl .u8)),yI,(.arr 32 .u8),(.sl .u8)],[⟨.exit 0,[(4,.ref 0 []),(5,.own 1 .u8)],zR,[(.arr 32 .u8),(.sl .u8)]⟩],Zb (Z1 yD) yD⟩
def ZOz:HI:={ own:=[5,11,14,28,30,31,36],still:=[10,26,37]}
theorem Zl9:ZgP.okA yb 157 0:=Zx ZOz [] [QE] ⟨Zbq,ytt⟩
def YW(F:Nat)(a0:ByteArray)(a1:(yL (yL yB))):yO ((yL yB)):=
 (Xz F (w64 (a0.size:Int))).bind λo786=>
 if(decide (a0.size<=maxLen))=true then
  if(apB o786.length a0.data.toList.length 1)=true then
   (Zb (Z1 F) F (a1,0,yzz,o786++a0.data.toList)).bind λo790=>
   (We F o790.2).bind λo791=>
   some o791
  else
  none
 else
 none
def VI:Fs yb:=⟨157,[.v .str,.v (.sl (.sl .u8))],[],[.str,(.sl (.sl .u8))],(zE (.arr 32 .u8)),λx=>YW yD x.1 x.2⟩
theorem QH:VI.Ok:=fnO ZOz [(0,ZgP)] [ZdN,ZiM] ⟨Zlb,Zpg,ytt⟩ ⟨Zl9,ytt⟩
def Z0(F:Nat)(s:(Int×(yL yB)×(yL yB))):yO ((Int×(yL yB)×(yL yB))⊕((yL yB)×(yL yB))):=
 if(decide (s.1 < 32))=true then
  if(inB s.1 32)=true then
   (s.2.1[s.1.toNat]?).bind λe792=>
   if(apB s.2.2.length 1 1)=true then
    some (.inl (wi (s.1+1),s.2.1,s.2.2++([e792]:yL yB)))
   else
   none
  else
  none
 else
 some (.inr (s.2.1,s.2.2))
def ZcW:Lp:=⟨[(3,.ref 0 []),(5,.own 1 .u8),(6,.v yI)],zR,[yI,(.arr 32 .u8),(.sl .u8)],[⟨.exit 0,[(5,.own 1 .u8)],zR,[(.arr 32 .u8),(.sl .u8)]⟩],Zb (Z0 yD) yD⟩
def ZOA:HI:={ own:=[5,7,9,14,19],still:=[4]}
theorem ZiO:ZcW.okA yb 223 0:=Zx ZOA [] [] trivial
def YS(F:Nat)(a0:(yL yB))(a1:(yL yB)):yO ((yL yB)):=
 if(apB 0 a0.length 1)=true then
  (Zb (Z0 F) F (0,a1,a0)).bind λo793=>
  some o793.2
 else
 none
def Zai:Fs yb:=⟨223,[.v (.sl .u8),.v (.arr 32 .u8)],[],[(.sl .u8),(.arr 32 .u8)],(zE (.sl .u8)),λx=>YS yD x.1 x.2⟩
theorem ZcX:Zai.Ok:=fnO ZOA [(0,ZcW)] [] trivial ⟨ZiO,ytt⟩
def ZL8:ByteArray:=⟨#[107,105,116]⟩
def YK(F:Nat)(a0:(yL yB))(a1:yB):yO ((yL yB)):=
 (YS F [] a0).bind λo794=>
 (YW F ZL8 [o794,[a1]]).bind λo795=>
 some o795
def ZgQ:Fs yb:=⟨175,[.v (.arr 32 .u8),.v .u8],[],[(.arr 32 .u8),.u8],(zE (.arr 32 .u8)),λx=>YK yD x.1 x.2⟩
theorem Zoh:ZgQ.Ok:=fnO { still:=[5,6,10]} [] [Zai,VI] ⟨ZcX,QH,ytt⟩
def Qk(F:Nat)(a0:(yL yB)):yO (Kit):=
 (YK F a0 1).bind λo796=>
 (Ya F o796).bind λo797=>
 (YK F a0 2).bind λo798=>
 (Ya F o798).bind λo799=>
 (YK F a0 3).bind λo800=>
 (Ya F o800).bind λo801=>
 (YK F a0 4).bind λo802=>
 (Ya F o802).bind λo803=>
 (YK F a0 5).bind λo804=>
 (Ya F o804).bind λo805=>
 (YK F a0 6).bind λo806=>
 some (o797,o799,o801,o803,o805,o806)
def ZiP:Fs yb:=⟨87,[.v (.arr 32 .u8)],[],[(.arr 32 .u8)],(zE ZF),λx=>Qk yD x⟩
def ZPm:HI:={ still:=[3,4,6,7,9,10,12,13,15,16,18]}
theorem Zph:ZiP.Ok:=fnO ZPm [] [ZgQ,QD] ⟨Zoh,Zbp,ytt⟩
def Wp(F:Nat)(a0:yU):yO (yU):=
 (Yc F a0).bind λo807=>
 if o807=true then
  some a0
 else
 some 1
def Zbt:Fs yb:=⟨219,[.v .u64],[],[.u64],(zE .u64),λx=>Wp yD x⟩
theorem Zeo:Zbt.Ok:=fnO { still:=[2,3]} [] [Y8] ⟨Xy,ytt⟩
def W9(F:Nat)(a0:yU)(a1:yU):yO (yU):=
 (Wp F a0).bind λo808=>
 (Xn F o808 (a1 % 2305843009213688669)).bind λo809=>
 some o809
def Zbu:Fs yb:=⟨146,[.v .u64,.v .u64],[],[.u64,.u64],(zE .u64),λx=>W9 yD x.1 x.2⟩
theorem Zep:Zbu.Ok:=fnO { still:=[4,5,6,8]} [] [Zbt,Zbm] ⟨Zeo,Zec,ytt⟩
def Yh(F:Nat)(a0:yU):yO (yU):=
 (W9 F 4 a0).bind λo810=>
 some o810
def QI:Fs yb:=⟨144,[.v .u64],[],[.u64],(zE .u64),λx=>Yh yD x⟩
theorem Zbv:QI.Ok:=fnO { still:=[2,3]} [] [Zbu] ⟨Zep,ytt⟩
def YI(F:Nat)(a0:Kit):yO (Zb0):=
 (Yh F a0.1).bind λo811=>
 (Yh F a0.2.1).bind λo812=>
 (Yh F a0.2.2.1).bind λo813=>
 (Yh F a0.2.2.2.1).bind λo814=>
 (Yh F a0.2.2.2.2.1).bind λo815=>
 some (o811,o812,o813,o814,o815)
def ZaG:Fs yb:=⟨88,[.v ZF],[],[ZF],(zE ZaL),λx=>YI yD x⟩
theorem ZdO:ZaG.Ok:=fnO { still:=[4,7,10,13,16]} [] [QI] ⟨Zbv,ytt⟩
abbrev VJ:Ty:=(.st [.u8,(.int .u16),(.int .u16),.u64])
abbrev ZaW:Type:=(yB×Int×Int×yU)
def Zbw(F:Nat)(a0:ZaW):yO (yU):=
 some (1+(a0.2.2.2 % 2305843009213688668))
def Zeq:Fs yb:=⟨90,[.v VJ],[],[VJ],(zE .u64),λx=>Zbw yD x⟩
theorem Zma:Zeq.Ok:=fnO { still:=[2]} [] [] trivial
def Wg(F:Nat)(s:(Int×Int×Int×yH)):yO ((Int×Int×Int×yH)⊕((Int×yH)⊕yH)):=
 if(decide (s.2.2.1 < (s.2.2.2.2.2.1.length:Int)))=true then
  (idx s.2.2.2.2.2.1 s.2.2.1).bind λe816=>
  if(e816.1==s.1)=true then
   (idx s.2.2.2.2.2.1 s.2.2.1).bind λe817=>
   if(e817.2.1==s.2.1)=true then
    some (.inr (.inl (s.2.2.1,s.2.2.2)))
   else
   some (.inl (s.1,s.2.1,wi (s.2.2.1+1),s.2.2.2))
  else
  some (.inl (s.1,s.2.1,wi (s.2.2.1+1),s.2.2.2))
 else
 some (.inr (.inr s.2.2.2))
def Zer:Lp:=⟨[(1,.v yI),(2,.v yI),(3,.ref 0 []),(7,.v yI)],[.var (.v Zf) true],[yI,yI,yI,Zf],[⟨.ret,[(6,.v yI)],[.var (.v Zf) true],[yI,Zf]⟩,⟨.exit 0,[],[.var (.v Zf) true],[Zf]⟩],Zb (Wg yD) yD⟩
theorem Zkf:Zer.okA yb 176 0:=Zx { still:=[6]} [] [] trivial
def QJ(F:Nat)(a0:yH)(a1:Int)(a2:Int):yO (Int):=
 (Zb (Wg F) F (a1,a2,0,a0)).bind λo818=>
 match o818 with
 |.inl o819=>
  some o819.1
 |.inr o820=>
  some (-1)
def ZfU:Fs yb:=⟨176,[.v Zf,.v yI,.v yI],[],[Zf,yI,yI],(zE yI),λx=>QJ yD x.1 x.2.1 x.2.2⟩
theorem ZmY:ZfU.Ok:=fnO { still:=[6]} [(0,Zer)] [] trivial ⟨Zkf,ytt⟩
def Wx(F:Nat)(s:(Bool×Int×yH×Cond×yH×Int×(yL Int)×Int×(yL Cond))):yO ((Bool×Int×yH×Cond×yH×Int×(yL Int)×Int×(yL Cond))⊕(Bool×yH×Cond×yH×Int×(yL Int)×Int×(yL Cond))):=
 if(decide (s.2.1 < (s.2.2.1.2.2.1.length:Int)))=true then
  if(!s.1)=true then
   (idx s.2.2.1.2.2.1 s.2.1).bind λe821=>
   (W8 F s.2.2.2.1 e821).bind λo822=>
   if o822=true then
    if(apB s.2.2.2.2.2.2.2.2.length 1 40)=true then
     (idx s.2.2.1.2.2.1 s.2.1).bind λe823=>
     if(apB ((s.2.2.2.2.2.2.2.2++([s.2.2.2.1]:yL Cond)).length) 1 40)=true then
      let y824:(yL Cond):=(s.2.2.2.2.2.2.2.2++([s.2.2.2.1]:yL Cond))++([e823]:yL Cond)
      some (.inl (true,wi (s.2.1+1),s.2.2.1,s.2.2.2.1,s.2.2.2.2.1,s.2.2.2.2.2.1,s.2.2.2.2.2.2.1,s.2.2.2.2.2.2.2.1,y824))
     else
     none
    else
    none
   else
   (idx s.2.2.1.2.2.1 s.2.1).bind λe825=>
   if(apB s.2.2.2.2.2.2.2.2.length 1 40)=true then
    some (.inl (s.1,wi (s.2.1+1),s.2.2.1,s.2.2.2.1,s.2.2.2.2.1,s.2.2.2.2.2.1,s.2.2.2.2.2.2.1,s.2.2.2.2.2.2.2.1,s.2.2.2.2.2.2.2.2++([e825]:yL Cond)))
   else
   none
  else
  (idx s.2.2.1.2.2.1 s.2.1).bind λe826=>
  if(apB s.2.2.2.2.2.2.2.2.length 1 40)=true then
   some (.inl (s.1,wi (s.2.1+1),s.2.2.1,s.2.2.2.1,s.2.2.2.2.1,s.2.2.2.2.2.1,s.2.2.2.2.2.2.1,s.2.2.2.2.2.2.2.1,s.2.2.2.2.2.2.2.2++([e826]:yL Cond)))
  else
  none
 else
 some (.inr (s.1,s.2.2.1,s.2.2.2.1,s.2.2.2.2.1,s.2.2.2.2.2.1,s.2.2.2.2.2.2.1,s.2.2.2.2.2.2.2.1,s.2.2.2.2.2.2.2.2))
def ZOB:yL ESh:=[.var (.v Zf) true,.var (.v ZE) true,.var (.v Zf) true,.var (.agg [.v yI,.v (.arr 2 yI),.own 4 ZE,.v yI]) true,.log ZE 97]
abbrev tL8:yL Ty:=[.bool,yI,Zf,ZE,Zf,yI,(.arr 2 yI),yI,(.sl ZE)]
def ZfV:Lp:=⟨[(2,.ref 0 []),(3,.ref 1 []),(4,.ref 2 []),(5,.ref 3 []),(6,.v .bool),(7,.v yI)],ZOB,tL8,[⟨.exit 0,[(3,.ref 1 []),(4,.ref 2 []),(5,.ref 3 []),(6,.v .bool)],ZOB,[.bool,Zf,ZE,Zf,yI,(.arr 2 yI),yI,(.sl ZE)]⟩],Zb (Wx yD) yD⟩
def ZOC:HI:={ own:=[29,32,35,42,47,50],still:=[20,25],gst:=[(9,[([2],ZE,97)])]}
theorem Zlc:ZfV.okA yb 177 0:=Zx ZOC [] [Zbn] ⟨Zed,ytt⟩
def Zaj(F:Nat)(a0:yH)(a1:Cond):yO (yH):=
 (Zb (Wx F) F (false,0,a0,a1,(0,[0,0],[],0),a0.1,a0.2.1,a0.2.2.2,[])).bind λo827=>
 if(!o827.1)=true then
  if(apB o827.2.2.2.2.2.2.2.length 1 40)=true then
   if(inB o827.2.2.1.1 2)=true then
    (o827.2.2.2.2.2.1[o827.2.2.1.1.toNat]?).bind λe828=>
    if(inB o827.2.2.1.1 2)=true then
     (o827.2.2.2.2.2.1[o827.2.2.1.1.toNat]?).bind λe829=>
     some (o827.2.2.2.2.1,o827.2.2.2.2.2.1.set o827.2.2.1.1.toNat (wi (e828 - o827.2.2.1.2.2.1)),o827.2.2.2.2.2.2.2++([o827.2.2.1]:yL Cond),o827.2.2.2.2.2.2.1)
    else
    none
   else
   none
  else
  none
 else
 if(inB o827.2.2.1.1 2)=true then
  (o827.2.2.2.2.2.1[o827.2.2.1.1.toNat]?).bind λe830=>
  if(inB o827.2.2.1.1 2)=true then
   (o827.2.2.2.2.2.1[o827.2.2.1.1.toNat]?).bind λe831=>
   some (o827.2.2.2.2.1,o827.2.2.2.2.2.1.set o827.2.2.1.1.toNat (wi (e830 - o827.2.2.1.2.2.1)),o827.2.2.2.2.2.2.2,o827.2.2.2.2.2.2.1)
  else
  none
 else
 none
def ZgR:Fs yb:=⟨177,[.v Zf,.v ZE],[],[Zf,ZE],(zE Zf),λx=>Zaj yD x.1 x.2⟩
theorem Zoi:ZgR.Ok:=fnO ZOC [(0,ZfV)] [] trivial ⟨Zlc,ytt⟩
def ZaX(F:Nat)(a0:Zz)(a1:yH)(a2:Cond):yO ((yH×Int)):=
 (Xo F a0 a1).bind λo843=>
 (VG F a2).bind λo844=>
 if(!o843)=true then
  some ((0,[0,0],[],0),1)
 else
 if(!o844)=true then
  some ((0,[0,0],[],0),1)
 else
 (QJ F a1 a2.1 a2.2.1).bind λo845=>
 if(decide (o845 >= 0))=true then
  some ((0,[0,0],[],0),4)
 else
 if(inB (wi (1 - a2.1)) 2)=true then
  (a0.2.2.2.1[(wi (1 - a2.1)).toNat]?).bind λe846=>
  (Wu F a1 (wi (1 - a2.1))).bind λo847=>
  if(decide (a2.2.2.1 < e846.2.2.2.2.1))=true then
   some ((0,[0,0],[],0),9)
  else
  if((a1.2.2.1.length:Int)==16)=true then
   some ((0,[0,0],[],0),3)
  else
  if(decide (o847.1 >= e846.2.2.2.1))=true then
   some ((0,[0,0],[],0),3)
  else
  let y848:Bool:=decide ((wi (o847.2+a2.2.2.1)) > e846.2.2.2.2.2)
  if y848=true then
   some ((0,[0,0],[],0),6)
  else
  (Zaj F a1 a2).bind λo849=>
  (XR F a0 o849).bind λo850=>
  if(inB a2.1 2)=true then
   (o849.2.1[a2.1.toNat]?).bind λe851=>
   if(decide (e851 < 0))=true then
    some ((0,[0,0],[],0),8)
   else
   if(inB a0.2.2.2.2 2)=true then
    (o849.2.1[a0.2.2.2.2.toNat]?).bind λe852=>
    if(decide (e852 < o850))=true then
     some ((0,[0,0],[],0),8)
    else
    if(inB a2.1 2)=true then
     (o849.2.1[a2.1.toNat]?).bind λe853=>
     if(a2.1==a0.2.2.2.2)=true then
      if(decide ((wi (e853 - o850)) < e846.2.1))=true then
       some ((0,[0,0],[],0),10)
      else
      some (o849,0)
     else
     if(decide (e853 < e846.2.1))=true then
      some ((0,[0,0],[],0),10)
     else
     some (o849,0)
    else
    none
   else
   none
  else
  none
 else
 none
def ZiQ:Fs yb:=⟨91,[.v Zh,.v Zf,.v ZE],[],[Zh,Zf,ZE],[⟨.ret,[(0,.tup [.v Zf,.v yI])],[],[Zf,yI]⟩],λx=>ZaX yD x.1 x.2.1 x.2.2⟩
def ZPn:HI:={ still:=[7,16,17,19,28,30,32,43,46,75,76,78,79]}
theorem Zpi:ZiQ.Ok:=fnO ZPn [] [Qi,Zb3,ZfU,Zah,ZgR,Zb4] ⟨ZaF,ZfJ,ZmY,ZcU,Zoi,ZfL,ytt⟩
abbrev Zv:Ty:=(.st [(.arr 2 (.arr 32 .u8)),.u32,.u32,.u8,.u8,(.sl VJ),(.int .u16),(.arr 32 .u8)])
abbrev yM:Type:=((yL (yL yB))×yV×yV×yB×yB×(yL ZaW)×Int×(yL yB))
def ZOD:yL ESh:=[.var (.v Zv) true,.var (.v Zh) true,.var (.v (.arr 2 ZF)) true,.var (.v Zf) true,.var (.v (.arr 2 ZF)) true,.var (.v Zh) true]
def ZNv:HI:={ still:=[17,21,40,75,76,117,118,126,127,128]}
def Wy(F:Nat)(s:(Int×yM×Zz×(yL Kit)×yH×(yL Kit)×Zz)):yO ((Int×yM×Zz×(yL Kit)×yH×(yL Kit)×Zz)⊕(yM×Zz×(yL Kit)×yH×(yL Kit)×Zz)):=
 if(decide (s.1 < 2))=true then
  if(inB s.1 2)=true then
   (s.2.2.2.2.2.1[s.1.toNat]?).bind λe875=>
   (YI F e875).bind λo876=>
   if(inB s.1 2)=true then
    (s.2.2.2.2.2.2.2.2.1[s.1.toNat]?).bind λe877=>
    if(inB s.1 2)=true then
     (s.2.2.2.2.2.2.2.2.2.1[s.1.toNat]?).bind λe878=>
     some (.inl (wi (s.1+1),s.2.1,s.2.2.1,s.2.2.2.1,s.2.2.2.2.1,s.2.2.2.2.2.1,(s.2.2.2.2.2.2.1,s.2.2.2.2.2.2.2.1,s.2.2.2.2.2.2.2.2.1.set s.1.toNat o876,s.2.2.2.2.2.2.2.2.2.1.set s.1.toNat ((100:Int),(200:Int),wi (5+s.1),(16:Int),(1:Int),(1125899906842624:Int)),s.2.2.2.2.2.2.2.2.2.2)))
    else
    none
   else
   none
  else
  none
 else
 some (.inr (s.2.1,s.2.2.1,s.2.2.2.1,s.2.2.2.2.1,s.2.2.2.2.2.1,s.2.2.2.2.2.2))
def ZfW:Lp:=⟨[(1,.ref 0 []),(2,.ref 1 []),(3,.ref 2 []),(4,.ref 3 []),(5,.ref 4 []),(6,.ref 5 []),(7,.v yI)],ZOD,[yI,Zv,Zh,(.arr 2 ZF),Zf,(.arr 2 ZF),Zh],[⟨.exit 0,[(1,.ref 0 []),(2,.ref 1 []),(3,.ref 2 []),(4,.ref 3 []),(5,.ref 4 []),(6,.ref 5 [])],ZOD,[Zv,Zh,(.arr 2 ZF),Zf,(.arr 2 ZF),Zh]⟩],Zb (Wy yD) yD⟩
theorem Zld:ZfW.okA yb 27 0:=Zx ZNv [] [ZaG] ⟨ZdO,ytt⟩
def YT(F:Nat)(s:(Int×yM×Zz×(yL Kit)×yH×(yL Kit)×Zz×yH)):yO ((Int×yM×Zz×(yL Kit)×yH×(yL Kit)×Zz×yH)⊕(yM×Zz×(yL Kit)×yH×(yL Kit)×Zz×yH)):=
 if(decide (s.1 < (s.2.1.2.2.2.2.2.1.length:Int)))=true then
  if(decide (s.1 < 20))=true then
   (idx s.2.1.2.2.2.2.2.1 s.1).bind λe884=>
   (Zbw F e884).bind λo885=>
   (Wr F o885).bind λo886=>
   (ZaX F s.2.2.2.2.2.2.1 s.2.2.2.2.2.2.2 (((e884.1 % 2).toNat:Int),wi (s.1+1),wi (1+(wi e884.2.1)),o886,wi (1+(wi e884.2.2.1)))).bind λo887=>
   if(o887.2==0)=true then
    some (.inl (wi (s.1+1),s.2.1,s.2.2.1,s.2.2.2.1,s.2.2.2.2.1,s.2.2.2.2.2.1,s.2.2.2.2.2.2.1,o887.1))
   else
   some (.inl (wi (s.1+1),s.2.1,s.2.2.1,s.2.2.2.1,s.2.2.2.2.1,s.2.2.2.2.2.1,s.2.2.2.2.2.2.1,s.2.2.2.2.2.2.2))
  else
  some (.inr (s.2.1,s.2.2.1,s.2.2.2.1,s.2.2.2.2.1,s.2.2.2.2.2.1,s.2.2.2.2.2.2.1,s.2.2.2.2.2.2.2))
 else
 some (.inr (s.2.1,s.2.2.1,s.2.2.2.1,s.2.2.2.2.1,s.2.2.2.2.2.1,s.2.2.2.2.2.2.1,s.2.2.2.2.2.2.2))
def ZOE:yL ESh:=[.var (.v Zv) true,.var (.v Zh) true,.var (.v (.arr 2 ZF)) true,.var (.v Zf) true,.var (.v (.arr 2 ZF)) true,.var (.v Zh) true,.var (.v Zf) true]
def ZfX:Lp:=⟨[(1,.ref 0 []),(2,.ref 1 []),(3,.ref 2 []),(4,.ref 3 []),(5,.ref 4 []),(6,.ref 5 []),(8,.ref 6 []),(10,.v yI)],ZOE,[yI,Zv,Zh,(.arr 2 ZF),Zf,(.arr 2 ZF),Zh,Zf],[⟨.exit 2,[(2,.ref 1 []),(3,.ref 2 []),(4,.ref 3 []),(5,.ref 4 []),(6,.ref 5 []),(8,.ref 6 [])],ZOE,[Zv,Zh,(.arr 2 ZF),Zf,(.arr 2 ZF),Zh,Zf]⟩],Zb (YT yD) yD⟩
theorem Zle:ZfX.okA yb 27 1:=Zx ZNv [] [Zeq,Zdz,ZiQ] ⟨Zma,Zfj,Zpi,ytt⟩
def Zak(F:Nat)(a0:yM):yO ((Zz×(yL Kit)×yH)):=
 (a0.1[0]?).bind λe871=>
 (Qk F e871).bind λo872=>
 (a0.1[1]?).bind λe873=>
 (Qk F e873).bind λo874=>
 (Zb (Wy F) F (0,a0,((yzz,0),0,[(0,0,0,0,0),(0,0,0,0,0)],[(0,0,0,0,0,0),(0,0,0,0,0,0)],0),[(0,0,0,0,0,yzz),(0,0,0,0,0,yzz)],(0,[0,0],[],0),[o872,o874],((yzz,0),wi (20000+(a0.2.1.toNat:Int)),[(0,0,0,0,0),(0,0,0,0,0)],[(0,0,0,0,0,0),(0,0,0,0,0,0)],((a0.2.2.2.2.1 % 2).toNat:Int)))).bind λo879=>
 if((wi (o879.2.2.2.2.2.2.1+1))!=0)=true then
  let y880:Int:=yav (o879.1.2.2.1.toNat:Int) (wi (o879.2.2.2.2.2.2.1+1))
  (Xo F o879.2.2.2.2.2 (wi o879.1.2.2.2.2.2.2.1,[y880,wi (o879.2.2.2.2.2.2.1 - y880)],[],((o879.1.2.2.2.1 % 8).toNat:Int))).bind λo881=>
  if(!o881)=true then
   if(inB o879.2.2.2.2.2.2.2.2.2 2)=true then
    (([y880,wi (o879.2.2.2.2.2.2.1 - y880)]:yL Int)[o879.2.2.2.2.2.2.2.2.2.toNat]?).bind λe882=>
    if(inB (wi (1 - o879.2.2.2.2.2.2.2.2.2)) 2)=true then
     ((([y880,wi (o879.2.2.2.2.2.2.1 - y880)]:yL Int).set o879.2.2.2.2.2.2.2.2.2.toNat o879.2.2.2.2.2.2.1)[(wi (1 - o879.2.2.2.2.2.2.2.2.2)).toNat]?).bind λe883=>
     (Zb (YT F) F (0,o879.1,o879.2.1,o879.2.2.1,o879.2.2.2.1,o879.2.2.2.2.1,o879.2.2.2.2.2,(wi o879.1.2.2.2.2.2.2.1,(([y880,wi (o879.2.2.2.2.2.2.1 - y880)]:yL Int).set o879.2.2.2.2.2.2.2.2.2.toNat o879.2.2.2.2.2.2.1).set ((wi (1 - o879.2.2.2.2.2.2.2.2.2)).toNat) (0:Int),[],((o879.1.2.2.2.1 % 8).toNat:Int)))).bind λo888=>
     some (o888.2.2.2.2.2.1,o888.2.2.2.2.1,o888.2.2.2.2.2.2)
    else
    none
   else
   none
  else
  (Zb (YT F) F (0,o879.1,o879.2.1,o879.2.2.1,o879.2.2.2.1,o879.2.2.2.2.1,o879.2.2.2.2.2,(wi o879.1.2.2.2.2.2.2.1,[y880,wi (o879.2.2.2.2.2.2.1 - y880)],[],((o879.1.2.2.2.1 % 8).toNat:Int)))).bind λo889=>
  some (o889.2.2.2.2.2.1,o889.2.2.2.2.1,o889.2.2.2.2.2.2)
 else
 none
def Zbx(F:Nat):Fs yb:=⟨27,[.v Zv],[],[Zv],[⟨.ret,[(0,.tup [.v Zh,.v (.arr 2 ZF),.v Zf])],[],[Zh,(.arr 2 ZF),Zf]⟩],λx=>Zak F x⟩
def ZgS:Fs yb:=Zbx yD
theorem ZfY:ZgS.Ok:=fnO ZNv [(0,ZfW),(1,ZfX)] [ZiP,Qi] ⟨Zph,ZaF,ytt⟩ ⟨Zld,Zle,ytt⟩
def Zp2(F:Nat)(s:(Int×(yL In)×Int×Int×Tx)):yO ((Int×(yL In)×Int×Int×Tx)⊕(Int×Tx)):=
 if(decide (s.2.2.2.1 < s.2.2.1))=true then
  (idx s.2.1 s.2.2.2.1).bind λe954=>
  let y955:Int:=wi (s.1+(wi (10+(wi (8*(e954.2.2.1.length:Int))))))
  if(e954.2.2.2 !=0)=true then
   some (.inl (wi (y955+4),s.2.1,s.2.2.1,wi (s.2.2.2.1+1),s.2.2.2.2))
  else
  some (.inl (y955,s.2.1,s.2.2.1,wi (s.2.2.2.1+1),s.2.2.2.2))
 else
 some (.inr (s.1,s.2.2.2.2))
def ZrS:Lp:=⟨[(3,.v yI),(15,.v (.sl yIn)),(16,.v yI),(17,.v yI)],[.var (.v yTx) true],[yI,(.sl yIn),yI,yI,yTx],[⟨.exit 0,[(3,.v yI)],[.var (.v yTx) true],[yI,yTx]⟩],Zb (Zp2 yD) yD⟩
theorem Zuq:ZrS.okA yb 86 0:=Zx { still:=[2,6]} [] [] trivial
def ZEt(F:Nat)(a0:Tx):yO (Int):=
 (ZkZ F a0).bind λo953=>
 if(!o953)=true then
  some 0
 else
 (Zb (Zp2 F) F (wi (10+(wi (8*(a0.2.1.length:Int)))),a0.1,(a0.1.length:Int),0,a0)).bind λo956=>
 some o956.1
def Zmb(F:Nat):Fs yb:=⟨86,[.v yTx],[],[yTx],(zE yI),λx=>ZEt F x⟩
def ZCw:Fs yb:=Zmb yD
theorem ZAx:ZCw.Ok:=fnO { still:=[2,6]} [(0,ZrS)] [Zqw] ⟨ZtN,ytt⟩ ⟨Zuq,ytt⟩
def WU(F:Nat)(s:(Int×yG)):yO ((Int×yG)⊕((Bool×yG)⊕yG)):=
 if(decide (s.1 < (s.2.length:Int)))=true then
  if(decide (s.1 < 7))=true then
   (idx s.2 s.1).bind λe957=>
   if(decide ((e957.1.length:Int) > 20))=true then
    some (.inr (.inl (false,s.2)))
   else
   some (.inl (wi (s.1+1),s.2))
  else
  some (.inr (.inr s.2))
 else
 some (.inr (.inr s.2))
def ZgT:Lp:=⟨[(1,.ref 0 []),(3,.v yI)],[.var (.v Ze) true],[yI,Ze],[⟨.ret,[(2,.v .bool)],[.var (.v Ze) true],[.bool,Ze]⟩,⟨.exit 0,[(1,.ref 0 [])],[.var (.v Ze) true],[Ze]⟩],Zb (WU yD) yD⟩
theorem Zmc:ZgT.okA yb 26 0:=Zx { still:=[2]} [] [] trivial
def WZ(F:Nat)(a0:yG):yO (Bool):=
 (Zb (WU F) F (0,a0)).bind λo958=>
 match o958 with
 |.inl o959=>
  some o959.1
 |.inr o960=>
  some (decide ((o960.length:Int)<=6))
def ZiR:Fs yb:=⟨26,[.v Ze],[],[Ze],(zE .bool),λx=>WZ yD x⟩
theorem Zpj:ZiR.Ok:=fnO { still:=[2]} [(0,ZgT)] [] trivial ⟨Zmc,ytt⟩
def QK(F:Nat)(a0:ZcQ)(a1:Int):yO (Bool):=
 some (decide (a1 >= a0.1))
def ZfZ:Fs yb:=⟨64,[.v Zdi,.v yI],[],[Zdi,yI],(zE .bool),λx=>QK yD x.1 x.2⟩
theorem ZmZ:ZfZ.Ok:=fnO { still:=[4]} [] [] trivial
def W0(F:Nat)(a0:Zz)(a1:yH):yO (Bool):=
 (Xo F a0 a1).bind λo961=>
 if o961=true then
  some ((a1.2.2.1.length:Int)==0)
 else
 some false
def ZcF:Fs yb:=⟨98,[.v Zh,.v Zf],[],[Zh,Zf],(zE .bool),λx=>W0 yD x.1 x.2⟩
theorem ZgU:ZcF.Ok:=fnO { still:=[4,6,7]} [] [Qi] ⟨ZaF,ytt⟩
def X0(F:Nat)(s:(Int×ZC)):yO ((Int×ZC)⊕((Bool×ZC)⊕ZC)):=
 if(decide (s.1 < (s.2.1.length:Int)))=true then
  (idx s.2.1 s.1).bind λe962=>
  (Yc F e962).bind λo963=>
  if(!o963)=true then
   some (.inr (.inl (false,s.2)))
  else
  some (.inl (wi (s.1+1),s.2))
 else
 some (.inr (.inr s.2))
def ZdP:Lp:=⟨[(1,.ref 0 []),(3,.v yI)],[.var (.v Zm) true],[yI,Zm],[⟨.ret,[(2,.v .bool)],[.var (.v Zm) true],[.bool,Zm]⟩,⟨.exit 0,[(1,.ref 0 [])],[.var (.v Zm) true],[Zm]⟩],Zb (X0 yD) yD⟩
theorem Zjc:ZdP.okA yb 182 0:=Zx { still:=[2,41,46]} [] [Y8] ⟨Xy,ytt⟩
def Ql(F:Nat)(a0:ZC):yO (Bool):=
 if(decide ((a0.1.length:Int) > 12))=true then
  some false
 else
 if(decide (a0.2.1 < 0))=true then
  some false
 else
 if(decide (a0.2.1 > 1048576))=true then
  some false
 else
 if(decide (a0.2.2.1 < 0))=true then
  some false
 else
 if(decide (a0.2.2.1 > 1048576))=true then
  some false
 else
 (Zb (X0 F) F (0,a0)).bind λo964=>
 match o964 with
 |.inl o965=>
  some o965.1
 |.inr o966=>
  (Yc F o966.2.2.2).bind λo967=>
  if(o966.2.2.2==0)=true then
   some true
  else
  some o967
def Zes:Fs yb:=⟨182,[.v Zm],[],[Zm],(zE .bool),λx=>Ql yD x⟩
theorem Zmd:Zes.Ok:=fnO { still:=[2,41,46]} [(0,ZdP)] [Y8] ⟨Xy,ytt⟩ ⟨Zjc,ytt⟩
def Wh(F:Nat)(s:(Int×yG)):yO ((Int×yG)⊕((Bool×yG)⊕yG)):=
 if(decide (s.1 < (s.2.length:Int)))=true then
  (idx s.2 s.1).bind λe968=>
  (Ql F e968).bind λo969=>
  if(!o969)=true then
   some (.inr (.inl (false,s.2)))
  else
  some (.inl (wi (s.1+1),s.2))
 else
 some (.inr (.inr s.2))
def Zet:Lp:=⟨[(1,.ref 0 []),(3,.v yI)],[.var (.v Ze) true],[yI,Ze],[⟨.ret,[(2,.v .bool)],[.var (.v Ze) true],[.bool,Ze]⟩,⟨.exit 0,[],[.var (.v Ze) true],[Ze]⟩],Zb (Wh yD) yD⟩
theorem Zkg:Zet.okA yb 99 0:=Zx { still:=[2,25]} [] [Zes] ⟨Zmd,ytt⟩
def Yp(F:Nat)(a0:yG):yO (Bool):=
 if(decide ((a0.length:Int) < 1))=true then
  some false
 else
 if(decide ((a0.length:Int) > 4))=true then
  some false
 else
 (Zb (Wh F) F (0,a0)).bind λo970=>
 match o970 with
 |.inl o971=>
  some o971.1
 |.inr o972=>
  some true
def X1:Fs yb:=⟨99,[.v Ze],[],[Ze],(zE .bool),λx=>Yp yD x⟩
theorem Wz:X1.Ok:=fnO { still:=[2,25]} [(0,Zet)] [] trivial ⟨Zkg,ytt⟩
def Xt(F:Nat)(a0:Zz)(a1:yH)(a2:Int):yO (Bool):=
 if(decide (a2 >= 52))=true then
  if(inB a0.2.2.2.2 2)=true then
   (a1.2.1[a0.2.2.2.2.toNat]?).bind λe973=>
   some (decide (a2<=e973))
  else
  none
 else
 some false
def Zal:Fs yb:=⟨100,[.v Zh,.v Zf,.v yI],[],[Zh,Zf,yI],(zE .bool),λx=>Xt yD x.1 x.2.1 x.2.2⟩
theorem Zb6:Zal.Ok:=fnO { still:=[6]} [] [] trivial
def ZOF:yL ESh:=[.var (.v Zh) true,.var (.v Zf) true,.var (.v (.arr 2 Ze)) true,.var (.v yTx) true,.var (.v (.arr 2 yI)) true,.var (.agg [.v (.sl yIn),.own 6 ZR,.v yI]) true,.log ZR 112]
abbrev tL9:yL Ty:=[yI,yI,Zh,Zf,(.arr 2 Ze),yTx,(.arr 2 yI),(.sl yIn),yI,(.sl ZR)]
def Yn(F:Nat)(s:(Int×Int×Zz×yH×(yL yG)×Tx×(yL Int)×(yL In)×Int×(yL Out))):yO ((Int×Int×Zz×yH×(yL yG)×Tx×(yL Int)×(yL In)×Int×(yL Out))⊕(Zz×yH×(yL yG)×Tx×(yL Int)×(yL In)×Int×(yL Out))):=
 if(decide (s.2.1 < 2))=true then
  (s.2.2.1.2.2.2.1[0]?).bind λe1004=>
  if(inB (yav (wi (s.1+s.2.1)) 2) 2)=true then
   (s.2.2.2.2.2.2.1[(yav (wi (s.1+s.2.1)) 2).toNat]?).bind λe1005=>
   (QK F e1004 e1005).bind λo1006=>
   (s.2.2.1.2.2.2.1[1]?).bind λe1007=>
   if(inB (yav (wi (s.1+s.2.1)) 2) 2)=true then
    (s.2.2.2.2.2.2.1[(yav (wi (s.1+s.2.1)) 2).toNat]?).bind λe1008=>
    (QK F e1007 e1008).bind λo1009=>
    if o1006=true then
     if o1009=true then
      if(inB (yav (wi (s.1+s.2.1)) 2) 2)=true then
       (s.2.2.2.2.2.2.1[(yav (wi (s.1+s.2.1)) 2).toNat]?).bind λe1010=>
       if(inB (yav (wi (s.1+s.2.1)) 2) 2)=true then
        (s.2.2.2.2.1[(yav (wi (s.1+s.2.1)) 2).toNat]?).bind λe1011=>
        if(apB s.2.2.2.2.2.2.2.2.2.length 1 32)=true then
         let y1012:(yL Out):=s.2.2.2.2.2.2.2.2.2++([(e1010,e1011)]:yL Out)
         some (.inl (s.1,wi (s.2.1+1),s.2.2.1,s.2.2.2.1,s.2.2.2.2.1,s.2.2.2.2.2.1,s.2.2.2.2.2.2.1,s.2.2.2.2.2.2.2.1,s.2.2.2.2.2.2.2.2.1,y1012))
        else
        none
       else
       none
      else
      none
     else
     some (.inl (s.1,wi (s.2.1+1),s.2.2.1,s.2.2.2.1,s.2.2.2.2.1,s.2.2.2.2.2.1,s.2.2.2.2.2.2.1,s.2.2.2.2.2.2.2.1,s.2.2.2.2.2.2.2.2.1,s.2.2.2.2.2.2.2.2.2))
    else
    some (.inl (s.1,wi (s.2.1+1),s.2.2.1,s.2.2.2.1,s.2.2.2.2.1,s.2.2.2.2.2.1,s.2.2.2.2.2.2.1,s.2.2.2.2.2.2.2.1,s.2.2.2.2.2.2.2.2.1,s.2.2.2.2.2.2.2.2.2))
   else
   none
  else
  none
 else
 some (.inr (s.2.2.1,s.2.2.2.1,s.2.2.2.2.1,s.2.2.2.2.2.1,s.2.2.2.2.2.2.1,s.2.2.2.2.2.2.2.1,s.2.2.2.2.2.2.2.2.1,s.2.2.2.2.2.2.2.2.2))
def Zf0:Lp:=⟨[(4,.ref 0 []),(6,.ref 2 []),(8,.ref 3 []),(12,.ref 4 []),(13,.ref 5 []),(14,.v yI),(15,.v yI)],ZOF,tL9,[⟨.exit 0,[(8,.ref 3 []),(13,.ref 5 [])],ZOF,[Zh,Zf,(.arr 2 Ze),yTx,(.arr 2 yI),(.sl yIn),yI,(.sl ZR)]⟩],Zb (Yn yD) yD⟩
def ZOG:HI:={ own:=[91,100],still:=[9,19,20,25,28,37,38,39,74,77,81,84],gst:=[(13,[([1],ZR,112)])]}
theorem Zlf:Zf0.okA yb 29 0:=Zx ZOG [] [ZfZ] ⟨ZmZ,ytt⟩
def YL(F:Nat)(a0:Zz)(a1:yH)(a2:(yL yG))(a3:Int):yO ((Tx×Int)):=
 (W0 F a0 a1).bind λo994=>
 if(!o994)=true then
  some (([],[],0),14)
 else
 (a2[0]?).bind λe995=>
 (Yp F e995).bind λo996=>
 (a2[1]?).bind λe997=>
 (Yp F e997).bind λo998=>
 if(!o996)=true then
  some (([],[],0),1)
 else
 if(!o998)=true then
  some (([],[],0),1)
 else
 (Xt F a0 a1 a3).bind λo999=>
 if(!o999)=true then
  some (([],[],0),13)
 else
 if(inB a0.2.2.2.2 2)=true then
  (a1.2.1[a0.2.2.2.2.toNat]?).bind λe1000=>
  if(inB a0.2.2.2.2 2)=true then
   (a1.2.1[a0.2.2.2.2.toNat]?).bind λe1001=>
   ((a1.2.1.set a0.2.2.2.2.toNat (wi (e1000 - a3)))[1]?).bind λe1002=>
   ((a1.2.1.set a0.2.2.2.2.toNat (wi (e1000 - a3)))[0]?).bind λe1003=>
   if(decide (e1002 < e1003))=true then
    (Zb (Yn F) F (1,0,a0,a1,a2,([],[],0),a1.2.1.set a0.2.2.2.2.toNat (wi (e1000 - a3)),[(a0.1,(0,[],0))],2097154,[])).bind λo1013=>
    some ((o1013.2.2.2.2.2.1,o1013.2.2.2.2.2.2.2,o1013.2.2.2.2.2.2.1),0)
   else
   (Zb (Yn F) F (0,0,a0,a1,a2,([],[],0),a1.2.1.set a0.2.2.2.2.toNat (wi (e1000 - a3)),[(a0.1,(0,[],0))],2097154,[])).bind λo1014=>
   some ((o1014.2.2.2.2.2.1,o1014.2.2.2.2.2.2.2,o1014.2.2.2.2.2.2.1),0)
  else
  none
 else
 none
def Va:Fs yb:=⟨29,[.v Zh,.v Zf,.v (.arr 2 Ze),.v yI],[],[Zh,Zf,(.arr 2 Ze),yI],[⟨.ret,[(0,.tup [.v yTx,.v yI])],[],[yTx,yI]⟩],λx=>YL yD x.1 x.2.1 x.2.2.1 x.2.2.2⟩
theorem Qm:Va.Ok:=fnO ZOG [(0,Zf0)] [ZcF,X1,Zal] ⟨ZgU,Wz,Zb6,ytt⟩ ⟨Zlf,ytt⟩
abbrev qL:=Zz×Kit×Int×yH×(yL yG)×Int×Sig×(yL Msg)×(yL Msg)
def ZK(F:Nat)(a0:Zz)(a1:Kit)(a2:Int)(a3:yH)(a4:yG)(a5:Int):yO (Int⊕(Int×qL)):=
 (Yp F a4).bind λo1015=>
 if(a2 !=0)=true then
  if(a2 !=1)=true then
   some (.inl 1)
  else
  if(!o1015)=true then
   some (.inl 1)
  else
  (YI F a1).bind λo1016=>
  if(inB a2 2)=true then
   (a0.2.2.1[a2.toNat]?).bind λe1017=>
   if(!(decide (o1016=e1017)))=true then
    some (.inl 1)
   else
   (W0 F a0 a3).bind λo1018=>
   if(!o1018)=true then
    some (.inl 14)
   else
   if(a2==a0.2.2.2.2)=true then
    (Xt F a0 a3 a5).bind λo1019=>
    if(!o1019)=true then
     some (.inl 13)
    else
    if(a2 !=a0.2.2.2.2)=true then
     if(a5 !=0)=true then
      some (.inl 13)
     else
     if(inB a2 2)=true then
      (([([]:yG),([]:yG)]:yL yG)[a2.toNat]?).bind λe1020=>
      some (.inr (0,a0,a1,a2,a3,([([]:yG),([]:yG)]:yL yG).set a2.toNat a4,a5,(0,0),[],[]))
     else
     none
    else
    if(inB a2 2)=true then
     (([([]:yG),([]:yG)]:yL yG)[a2.toNat]?).bind λe1021=>
     some (.inr (0,a0,a1,a2,a3,([([]:yG),([]:yG)]:yL yG).set a2.toNat a4,a5,(0,0),[],[]))
    else
    none
   else
   if(a2 !=a0.2.2.2.2)=true then
    if(a5 !=0)=true then
     some (.inl 13)
    else
    if(inB a2 2)=true then
     (([([]:yG),([]:yG)]:yL yG)[a2.toNat]?).bind λe1022=>
     some (.inr (0,a0,a1,a2,a3,([([]:yG),([]:yG)]:yL yG).set a2.toNat a4,a5,(0,0),[],[]))
    else
    none
   else
   if(inB a2 2)=true then
    (([([]:yG),([]:yG)]:yL yG)[a2.toNat]?).bind λe1023=>
    some (.inr (0,a0,a1,a2,a3,([([]:yG),([]:yG)]:yL yG).set a2.toNat a4,a5,(0,0),[],[]))
   else
   none
  else
  none
 else
 if(!o1015)=true then
  some (.inl 1)
 else
 (YI F a1).bind λo1024=>
 if(inB a2 2)=true then
  (a0.2.2.1[a2.toNat]?).bind λe1025=>
  if(!(decide (o1024=e1025)))=true then
   some (.inl 1)
  else
  (W0 F a0 a3).bind λo1026=>
  if(!o1026)=true then
   some (.inl 14)
  else
  if(a2==a0.2.2.2.2)=true then
   (Xt F a0 a3 a5).bind λo1027=>
   if(!o1027)=true then
    some (.inl 13)
   else
   if(a2 !=a0.2.2.2.2)=true then
    if(a5 !=0)=true then
     some (.inl 13)
    else
    if(inB a2 2)=true then
     (([([]:yG),([]:yG)]:yL yG)[a2.toNat]?).bind λe1028=>
     some (.inr (0,a0,a1,a2,a3,([([]:yG),([]:yG)]:yL yG).set a2.toNat a4,a5,(0,0),[],[]))
    else
    none
   else
   if(inB a2 2)=true then
    (([([]:yG),([]:yG)]:yL yG)[a2.toNat]?).bind λe1029=>
    some (.inr (0,a0,a1,a2,a3,([([]:yG),([]:yG)]:yL yG).set a2.toNat a4,a5,(0,0),[],[]))
   else
   none
  else
  if(a2 !=a0.2.2.2.2)=true then
   if(a5 !=0)=true then
    some (.inl 13)
   else
   if(inB a2 2)=true then
    (([([]:yG),([]:yG)]:yL yG)[a2.toNat]?).bind λe1030=>
    some (.inr (0,a0,a1,a2,a3,([([]:yG),([]:yG)]:yL yG).set a2.toNat a4,a5,(0,0),[],[]))
   else
   none
  else
  if(inB a2 2)=true then
   (([([]:yG),([]:yG)]:yL yG)[a2.toNat]?).bind λe1031=>
   some (.inr (0,a0,a1,a2,a3,([([]:yG),([]:yG)]:yL yG).set a2.toNat a4,a5,(0,0),[],[]))
  else
  none
 else
 none
abbrev zD:List ESh:=[.var (.agg [.v Zh,.v ZF,.v yI,.v Zf,.v (.arr 2 Ze),.v yI,.own 1 Zc,.own 2 Zc,.v Zy]) true,.log Zc 99,.log Zc 99]
def ZiS:Fs yb:=⟨31,[.v Zh,.v ZF,.v yI,.v Zf,.v Ze,.v yI],[],[Zh,ZF,yI,Zf,Ze,yI],[⟨.ret,[(0,.tup [.ptr0,.v yI])],[],[yI]⟩,⟨.ret,[(0,.tup [.ref 0 [],.v yI])],zD,[yI,Zh,ZF,yI,Zf,(.arr 2 Ze),yI,Zy,(.sl Zc),(.sl Zc)]⟩],λx=>ZK yD x.1 x.2.1 x.2.2.1 x.2.2.2.1 x.2.2.2.2.1 x.2.2.2.2.2⟩
def ZPo:HI:={ still:=[12,13,16,28,35,36,44,45,46],ghost:=[(66,[([6],Zc,99),([7],Zc,99)])]}
theorem Zpk:ZiS.Ok:=Ztx (fi:={ hi:=ZPo,gh:=[(15,.any 15 4 (.arr 2 Ze))]}) (specs:={ l:=[X1,ZaG,ZcF,Zal]}) (okS ⟨Wz,ZdO,ZgU,Zb6,ytt⟩)
def XA(F:Nat)(s:((yL Msg)×(yL Msg)×Int)):yO (((yL Msg)×(yL Msg)×Int)⊕(Bool⊕Unit)):=
 if(decide (s.2.2 < (s.1.length:Int)))=true then
  (idx s.1 s.2.2).bind λe1032=>
  (idx s.2.1 s.2.2).bind λe1033=>
  if(e1032.1 !=e1033.1)=true then
   some (.inr (.inl false))
  else
  (idx s.1 s.2.2).bind λe1034=>
  (idx s.2.1 s.2.2).bind λe1035=>
  let y1036:Bool:= !((WX e1034.2.2.2.2.2.2.2.2.2.2.2.2.2).data.toList==(WX e1035.2.2.2.2.2.2.2.2.2.2.2.2.2).data.toList)
  if y1036=true then
   some (.inr (.inl false))
  else
  (idx s.1 s.2.2).bind λe1037=>
  (idx s.2.1 s.2.2).bind λe1038=>
  if(e1037.2.2.2.2.2.2.1 !=e1038.2.2.2.2.2.2.1)=true then
   some (.inr (.inl false))
  else
  (idx s.1 s.2.2).bind λe1039=>
  (idx s.2.1 s.2.2).bind λe1040=>
  let y1041:Bool:= !(decide (e1039.2.2.2.2.2.2.2.1=e1040.2.2.2.2.2.2.2.1))
  if y1041=true then
   some (.inr (.inl false))
  else
  some (.inl (s.1,s.2.1,wi (s.2.2+1)))
 else
 some (.inr (.inr ()))
def Zf1:Lp:=⟨[(0,.v (.sl Zc)),(1,.v (.sl Zc)),(5,.v yI)],[],[(.sl Zc),(.sl Zc),yI],[⟨.ret,[(4,.v .bool)],[],[.bool]⟩,⟨.exit 0,[],[],[]⟩],Zb (XA yD) yD⟩
theorem Zlg:Zf1.okA yb 33 0:=Zx { still:=[4]} [] [] trivial
def YM(F:Nat)(a0:(yL Msg))(a1:(yL Msg)):yO (Bool):=
 if((a0.length:Int)!=(a1.length:Int))=true then
  some false
 else
 (Zb (XA F) F (a0,a1,0)).bind λo1042=>
 match o1042 with
 |.inl o1043=>
  some o1043
 |.inr o1044=>
  some true
def Zb7:Fs yb:=⟨33,[.v (.sl Zc),.v (.sl Zc)],[],[(.sl Zc),(.sl Zc)],(zE .bool),λx=>YM yD x.1 x.2⟩
theorem Zf2:Zb7.Ok:=fnO { still:=[4]} [(0,Zf1)] [] trivial ⟨Zlg,ytt⟩
def W1(F:Nat)(rc:Int->yO ((yL yB)))(a0:Int):yO ((yL yB)):=
 if(decide (a0 < 128))=true then
  some [w8 a0]
 else
 (rc (wi (Int.tdiv a0 128))).bind λo1045=>
 if(apB 1 o1045.length 1)=true then
  let y1046:(yL yB):=([(w8 (yav a0 128))+128]:yL yB)++o1045
  some y1046
 else
 none
def Zam(rc:Int->yO ((yL yB))):Fs yb:=⟨238,[.v yI],[],[yI],(zE (.sl .u8)),λx=>rc x⟩
def ZPp:HI:={ own:=[3,13,14,18],still:=[2,16]}
theorem Zm0(rc:Int->yO ((yL yB)))(hr:(Zam rc).Ok):(Zam (W1 yD rc)).Ok:=fnO ZPp [] [(Zam rc)] ⟨hr,ytt⟩
def Qn(F k:Nat):Int->yO ((yL yB)):=Nat.rec (motive:=λ_=>Int->yO ((yL yB))) (λ_=>none) (λ_ ih=>W1 F ih) k
theorem Zf3:∀k,(Zam (Qn yD k)).Ok
 |0=>λx o h=>by cases (show none=some o from h)
 |k+1=>Zm0 _ (Zf3 k)
def ZaY(F:Nat)(a0:Int):yO ((yL yB)):=Qn F 12 a0
def ZcG:Fs yb:=⟨238,[.v yI],[],[yI],(zE (.sl .u8)),λx=>ZaY yD x⟩
theorem ZgV:ZcG.Ok:=Zf3 12
def Yg(F:Nat)(a0:(yL yB))(a1:Int):yO ((yL yB)):=
 if(apB 0 a0.length 1)=true then
  if(decide (a1 >= 0))=true then
   (ZaY F a1).bind λo1047=>
   if(apB a0.length o1047.length 1)=true then
    some (a0++o1047)
   else
   none
  else
  some a0
 else
 none
def WE:Fs yb:=⟨186,[.v (.sl .u8),.v yI],[],[(.sl .u8),yI],(zE (.sl .u8)),λx=>Yg yD x.1 x.2⟩
def ZPq:HI:={ own:=[5,6,8,11,14],still:=[4,12]}
theorem Vb:WE.Ok:=fnO ZPq [] [ZcG] ⟨ZgV,ytt⟩
def YZ(F:Nat)(s:(yU×Int×(yL yB))):yO ((yU×Int×(yL yB))⊕(yL yB)):=
 if(decide (s.2.1 >= 0))=true then
  let y1048:yU:=ZO s.1 (min ((w64 (wi (8*s.2.1))).toNat:Int).toNat 64)
  if(apB s.2.2.length 1 1)=true then
   some (.inl (s.1,wi (s.2.1 - 1),s.2.2++([w8 (y1048.toNat:Int)]:yL yB)))
  else
  none
 else
 some (.inr s.2.2)
def ZdQ:Lp:=⟨[(1,.v .u64),(5,.own 0 .u8),(6,.v yI)],[.log .u8 5],[.u64,yI,(.sl .u8)],[⟨.exit 0,[(5,.own 0 .u8)],[.log .u8 5],[(.sl .u8)]⟩],Zb (YZ yD) yD⟩
def ZOH:HI:={ own:=[5,7,9,14,22],still:=[4]}
theorem Zjd:ZdQ.okA yb 187 0:=Zx ZOH [] [] trivial
def WV(F:Nat)(a0:(yL yB))(a1:yU):yO ((yL yB)):=
 if(apB 0 a0.length 1)=true then
  (Zb (YZ F) F (a1,7,a0)).bind λo1049=>
  some o1049
 else
 none
def ZaH:Fs yb:=⟨187,[.v (.sl .u8),.v .u64],[],[(.sl .u8),.u64],(zE (.sl .u8)),λx=>WV yD x.1 x.2⟩
theorem ZdR:ZaH.Ok:=fnO ZOH [(0,ZdQ)] [] trivial ⟨Zjd,ytt⟩
def Xe(F:Nat)(s:((yL yB)×Int×Int×yG×ZC)):yO (((yL yB)×Int×Int×yG×ZC)⊕((yL yB)×Int×yG×ZC)):=
 if(decide (s.2.2.1 < (s.2.2.2.2.1.length:Int)))=true then
  (idx s.2.2.2.2.1 s.2.2.1).bind λe1054=>
  (WV F s.1 e1054).bind λo1055=>
  some (.inl (o1055,s.2.1,wi (s.2.2.1+1),s.2.2.2.1,s.2.2.2.2))
 else
 some (.inr (s.1,s.2.1,s.2.2.2.1,s.2.2.2.2))
def Zeu:Lp:=⟨[(1,.ref 0 []),(3,.v (.sl .u8)),(4,.v yI),(5,.ref 1 []),(6,.v yI)],[.var (.v Ze) true,.var (.v Zm) true],[(.sl .u8),yI,yI,Ze,Zm],[⟨.exit 2,[(1,.ref 0 []),(3,.v (.sl .u8)),(4,.v yI),(5,.ref 1 [])],[.var (.v Ze) true,.var (.v Zm) true],[(.sl .u8),yI,Ze,Zm]⟩],Zb (Xe yD) yD⟩
def ZNw:HI:={ still:=[2,7,12,26,29,38,43,45,47,49,51,53,55]}
theorem Zkh:Zeu.okA yb 106 1:=Zx ZNw [] [ZaH] ⟨ZdR,ytt⟩
def Xf(F:Nat)(s:((yL yB)×Int×yG)):yO (((yL yB)×Int×yG)⊕((yL yB)×yG)):=
 if(decide (s.2.1 < (s.2.2.length:Int)))=true then
  (idx s.2.2 s.2.1).bind λe1052=>
  (Yg F s.1 (e1052.1.length:Int)).bind λo1053=>
  (Zb (Xe F) F (o1053,s.2.1,0,s.2.2,e1052)).bind λo1056=>
  (Yg F o1056.1 o1056.2.2.2.2.1).bind λo1057=>
  (Yg F o1057 o1056.2.2.2.2.2.1).bind λo1058=>
  (WV F o1058 o1056.2.2.2.2.2.2).bind λo1059=>
  some (.inl (o1059,wi (o1056.2.1+1),o1056.2.2.1))
 else
 some (.inr (s.1,s.2.2))
def Zev:Lp:=⟨[(1,.ref 0 []),(3,.v (.sl .u8)),(4,.v yI)],[.var (.v Ze) true],[(.sl .u8),yI,Ze],[⟨.exit 0,[(3,.v (.sl .u8))],[.var (.v Ze) true],[(.sl .u8),Ze]⟩],Zb (Xf yD) yD⟩
theorem Zki:Zev.okA yb 106 0:=Zx ZNw [(1,Zeu)] [WE,ZaH] ⟨Vb,ZdR,ytt⟩ ⟨Zkh,ytt⟩
def Xp(F:Nat)(a0:yG):yO ((yL yB)):=
 (Yp F a0).bind λo1050=>
 if(!o1050)=true then
  some []
 else
 (Yg F [] (a0.length:Int)).bind λo1051=>
 (Zb (Xf F) F (o1051,0,a0)).bind λo1060=>
 some o1060.1
def Qo:Fs yb:=⟨106,[.v Ze],[],[Ze],(zE (.sl .u8)),λx=>Xp yD x⟩
theorem ZaI:Qo.Ok:=fnO ZNw [(0,Zev)] [X1,WE] ⟨Wz,Vb,ytt⟩ ⟨Zki,ytt⟩
def Zan(F:Nat)(a0:ZaK):yO (Bool):=
 if(decide (a0.1 >= 0))=true then
  if(decide (a0.1<=3))=true then
   some (decide ((a0.2.1.length:Int)<=12))
  else
  some false
 else
 some false
def ZcY:Fs yb:=⟨221,[.v XB],[],[XB],(zE .bool),λx=>Zan yD x⟩
theorem Zkj:ZcY.Ok:=fnO { still:=[2]} [] [] trivial
def Vl(F:Nat)(s:(Int×Int×Tx×In)):yO ((Int×Int×Tx×In)⊕((Bool×Tx×In)⊕(Int×Tx×In))):=
 if(decide (s.2.1 < s.1))=true then
  (idx s.2.2.1.1 s.2.1).bind λe1063=>
  if(decide (e1063.1=s.2.2.2.1))=true then
   some (.inr (.inl (false,s.2.2.1,s.2.2.2)))
  else
  some (.inl (s.1,wi (s.2.1+1),s.2.2.1,s.2.2.2))
 else
 some (.inr (.inr (s.1,s.2.2.1,s.2.2.2)))
def Zew:Lp:=⟨[(1,.ref 0 []),(3,.v yI),(4,.ref 1 []),(5,.v yI)],[.var (.v yTx) true,.var (.v yIn) true],[yI,yI,yTx,yIn],[⟨.ret,[(2,.v .bool)],[.var (.v yTx) true,.var (.v yIn) true],[.bool,yTx,yIn]⟩,⟨.exit 2,[(1,.ref 0 []),(3,.v yI)],[.var (.v yTx) true,.var (.v yIn) true],[yI,yTx,yIn]⟩],Zb (Vl yD) yD⟩
theorem Zkk:Zew.okA yb 156 1:=Zx { still:=[2,54,94]} [] [] trivial
def Xg(F:Nat)(s:(Int×Tx)):yO ((Int×Tx)⊕((Bool×Tx)⊕Tx)):=
 if(decide (s.1 < (s.2.1.length:Int)))=true then
  (idx s.2.1 s.1).bind λe1061=>
  if(decide (e1061.1.2 < 0))=true then
   some (.inr (.inl (false,s.2)))
  else
  if(decide (e1061.1.2 > 63))=true then
   some (.inr (.inl (false,s.2)))
  else
  (Zan F e1061.2).bind λo1062=>
  if(!o1062)=true then
   some (.inr (.inl (false,s.2)))
  else
  (Zb (Vl F) F (s.1,0,s.2,e1061)).bind λo1064=>
  match o1064 with
  |.inl o1065=>
   some (.inr (.inl (o1065.1,o1065.2.1)))
  |.inr o1066=>
   some (.inl (wi (o1066.1+1),o1066.2.1))
 else
 some (.inr (.inr s.2))
def Zex:Lp:=⟨[(1,.ref 0 []),(3,.v yI)],[.var (.v yTx) true],[yI,yTx],[⟨.ret,[(2,.v .bool)],[.var (.v yTx) true],[.bool,yTx]⟩,⟨.exit 0,[(1,.ref 0 [])],[.var (.v yTx) true],[yTx]⟩],Zb (Xg yD) yD⟩
theorem Zkl:Zex.okA yb 156 0:=Zx { still:=[2,54,94]} [(1,Zew)] [ZcY] ⟨Zkj,ytt⟩ ⟨Zkk,ytt⟩
def Xh(F:Nat)(s:(Int×Int×Tx)):yO ((Int×Int×Tx)⊕((Bool×Tx)⊕(Int×Tx))):=
 if(decide (s.2.1 < (s.2.2.2.1.length:Int)))=true then
  (idx s.2.2.2.1 s.2.1).bind λe1070=>
  if(decide (e1070.1 < 0))=true then
   some (.inr (.inl (false,s.2.2)))
  else
  if(decide (e1070.1 > 1125899906842624))=true then
   some (.inr (.inl (false,s.2.2)))
  else
  (Yp F e1070.2).bind λo1071=>
  if(!o1071)=true then
   some (.inr (.inl (false,s.2.2)))
  else
  some (.inl (wi (s.1+e1070.1),wi (s.2.1+1),s.2.2))
 else
 some (.inr (.inr (s.1,s.2.2)))
def Zey:Lp:=⟨[(1,.ref 0 []),(6,.v yI),(7,.v yI)],[.var (.v yTx) true],[yI,yI,yTx],[⟨.ret,[(2,.v .bool)],[.var (.v yTx) true],[.bool,yTx]⟩,⟨.exit 4,[(6,.v yI)],[.var (.v yTx) true],[yI,yTx]⟩],Zb (Xh yD) yD⟩
theorem Zkm:Zey.okA yb 156 2:=Zx { still:=[2,54,94]} [] [X1] ⟨Wz,ytt⟩
def QL(F:Nat)(a0:Tx):yO (Bool):=
 if(decide ((a0.1.length:Int) < 1))=true then
  some false
 else
 if(decide ((a0.1.length:Int) > 64))=true then
  some false
 else
 if(decide ((a0.2.1.length:Int) > 64))=true then
  some false
 else
 if(decide (a0.2.2 < 0))=true then
  some false
 else
 (Zb (Xg F) F (0,a0)).bind λo1067=>
 match o1067 with
 |.inl o1068=>
  some o1068.1
 |.inr o1069=>
  (Zb (Xh F) F (0,0,o1069)).bind λo1072=>
  match o1072 with
  |.inl o1073=>
   some o1073.1
  |.inr o1074=>
   some (decide (o1074.1<=1125899906842624))
def Zf4:Fs yb:=⟨156,[.v yTx],[],[yTx],(zE .bool),λx=>QL yD x⟩
theorem Zm1:Zf4.Ok:=fnO { still:=[2,54,94]} [(0,Zex),(2,Zey)] [] trivial ⟨Zkl,Zkm,ytt⟩
def Zby(F:Nat)(a0:(yL yB))(a1:Int):yO ((yL yB)):=
 if(apB 0 a0.length 1)=true then
  if(decide (a1 >= 0))=true then
   (ZaY F a1).bind λo1075=>
   if(apB a0.length o1075.length 1)=true then
    some (a0++o1075)
   else
   none
  else
  some a0
 else
 none
def Zez:Fs yb:=⟨186,[.v (.sl .u8),.v yI],[],[(.sl .u8),yI],[⟨.ret,[(0,.own 0 .u8)],[.log .u8 5],[(.sl .u8)]⟩],λx=>Zby yD x.1 x.2⟩
def ZPr:HI:={ own:=[4,5,6,8,11,14,15],still:=[12]}
theorem Zme:Zez.Ok:=fnO ZPr [] [ZcG] ⟨ZgV,ytt⟩
def Vm(F:Nat)(a0:(yL yB))(a1:(yL yB)):yO ((yL yB)):=
 (Zby F a0 (a1.length:Int)).bind λo1076=>
 if(apB o1076.length a1.length 1)=true then
  some (o1076++a1)
 else
 none
def ZcZ:Fs yb:=⟨224,[.v (.sl .u8),.v (.sl .u8)],[],[(.sl .u8),(.sl .u8)],(zE (.sl .u8)),λx=>Vm yD x.1 x.2⟩
def ZPs:HI:={ own:=[5,9,10,12],still:=[4,6,8]}
theorem Zkn:ZcZ.Ok:=fnO ZPs [] [Zez] ⟨Zme,ytt⟩
def Xi(F:Nat)(s:((yL yB)×Int×Tx)):yO (((yL yB)×Int×Tx)⊕((yL yB)×Tx)):=
 if(decide (s.2.1 < (s.2.2.1.length:Int)))=true then
  (idx s.2.2.1 s.2.1).bind λe1078=>
  (YS F s.1 e1078.1.1).bind λo1079=>
  (idx s.2.2.1 s.2.1).bind λe1080=>
  (Yg F o1079 e1080.1.2).bind λo1081=>
  some (.inl (o1081,wi (s.2.1+1),s.2.2))
 else
 some (.inr (s.1,s.2.2))
def ZeA:Lp:=⟨[(1,.ref 0 []),(3,.v (.sl .u8)),(4,.v yI)],[.var (.v yTx) true],[(.sl .u8),yI,yTx],[⟨.exit 0,[(1,.ref 0 []),(3,.v (.sl .u8))],[.var (.v yTx) true],[(.sl .u8),yTx]⟩],Zb (Xi yD) yD⟩
def ZNx:HI:={ still:=[2,8,17,24,26,33,35,38,47,53,55,61,62,64,66]}
theorem Zko:ZeA.okA yb 158 0:=Zx ZNx [] [Zai,WE] ⟨ZcX,Vb,ytt⟩
def Xj(F:Nat)(s:((yL yB)×Int×Tx)):yO (((yL yB)×Int×Tx)⊕((yL yB)×Tx)):=
 if(decide (s.2.1 < (s.2.2.2.1.length:Int)))=true then
  (idx s.2.2.2.1 s.2.1).bind λe1084=>
  (Yg F s.1 e1084.1).bind λo1085=>
  (idx s.2.2.2.1 s.2.1).bind λe1086=>
  (Xp F e1086.2).bind λo1087=>
  (Vm F o1085 o1087).bind λo1088=>
  some (.inl (o1088,wi (s.2.1+1),s.2.2))
 else
 some (.inr (s.1,s.2.2))
def ZeB:Lp:=⟨[(1,.ref 0 []),(3,.v (.sl .u8)),(5,.v yI)],[.var (.v yTx) true],[(.sl .u8),yI,yTx],[⟨.exit 2,[(1,.ref 0 []),(3,.v (.sl .u8))],[.var (.v yTx) true],[(.sl .u8),yTx]⟩],Zb (Xj yD) yD⟩
theorem Zkp:ZeB.okA yb 158 1:=Zx ZNx [] [WE,Qo,ZcZ] ⟨Vb,ZaI,Zkn,ytt⟩
def QM(F:Nat)(a0:Tx):yO ((yL yB)):=
 (Yg F [] (a0.1.length:Int)).bind λo1077=>
 (Zb (Xi F) F (o1077,0,a0)).bind λo1082=>
 (Yg F o1082.1 (o1082.2.2.1.length:Int)).bind λo1083=>
 (Zb (Xj F) F (o1083,0,o1082.2)).bind λo1089=>
 (Yg F o1089.1 o1089.2.2.2).bind λo1090=>
 some o1090
def Zf5:Fs yb:=⟨158,[.v yTx],[],[yTx],(zE (.sl .u8)),λx=>QM yD x⟩
theorem Zm2:Zf5.Ok:=fnO ZNx [(0,ZeA),(1,ZeB)] [WE] ⟨Vb,ytt⟩ ⟨Zko,Zkp,ytt⟩
def Vw(F:Nat)(a0:Tx):yO ((yL yB)):=
 (QL F a0).bind λo1091=>
 if(!o1091)=true then
  some yzz
 else
 (QM F a0).bind λo1092=>
 (YW F ZFM [o1092]).bind λo1093=>
 some o1093
def ZdS:Fs yb:=⟨80,[.v yTx],[],[yTx],(zE (.arr 32 .u8)),λx=>Vw yD x⟩
theorem ZiT:ZdS.Ok:=fnO { still:=[3,7,9]} [] [Zf4,Zf5,VI] ⟨Zm1,Zm2,QH,ytt⟩
def Vc(F:Nat)(a0:yU):yO (Bool):=
 some (decide (a0 < 2305843009213688669))
def Zbz:Fs yb:=⟨229,[.v .u64],[],[.u64],(zE .bool),λx=>Vc yD x⟩
theorem ZeC:Zbz.Ok:=fnO { still:=[2]} [] [] trivial
def ZaZ(F:Nat)(a0:yU):yO (Bool):=
 (Vc F a0).bind λo1094=>
 if o1094=true then
  some (a0 !=0)
 else
 some false
def ZiU:Fs yb:=⟨162,[.v .u64],[],[.u64],(zE .bool),λx=>ZaZ yD x⟩
theorem Zpl:ZiU.Ok:=fnO { still:=[2,3]} [] [Zbz] ⟨ZeC,ytt⟩
def W2(F:Nat)(a0:yU)(a1:yU):yO (yU):=
 (Wp F a0).bind λo1095=>
 (Wp F a1).bind λo1096=>
 (ZA F o1095 o1096).bind λo1097=>
 some o1097
def ZcH:Fs yb:=⟨143,[.v .u64,.v .u64],[],[.u64,.u64],(zE .u64),λx=>W2 yD x.1 x.2⟩
theorem ZgW:ZcH.Ok:=fnO { still:=[4,5,6,7,8]} [] [Zbt,Zbl] ⟨Zeo,Zeb,ytt⟩
def QN(F:Nat)(a0:yU):yO ((yL yB)):=
 (Y9 F a0).bind λo1098=>
 some o1098
def Zf6:Fs yb:=⟨262,[.v .u64],[],[.u64],(zE (.sl .u8)),λx=>QN yD x⟩
theorem Zm3:Zf6.Ok:=fnO { still:=[2,3]} [] [QE] ⟨Zbq,ytt⟩
def X2(F:Nat)(a0:yU)(a1:yU)(a2:(yL yB)):yO (yU):=
 (QN F a0).bind λo1099=>
 (QN F a1).bind λo1100=>
 (YW F ZJA [o1099,o1100,a2]).bind λo1101=>
 (Ya F o1101).bind λo1102=>
 some o1102
def Qy:Fs yb:=⟨230,[.v .u64,.v .u64,.v (.arr 32 .u8)],[],[.u64,.u64,(.arr 32 .u8)],(zE .u64),λx=>X2 yD x.1 x.2.1 x.2.2⟩
theorem ZbV:Qy.Ok:=fnO ZOw [] [Zf6,VI,QD] ⟨Zm3,QH,Zbp,ytt⟩
def Vx(F:Nat)(a0:yU):yO (yU):=
 some (a0 % 2305843009213688669)
def ZdT:Fs yb:=⟨263,[.v .u64],[],[.u64],(zE .u64),λx=>Vx yD x⟩
theorem ZiV:ZdT.Ok:=fnO { still:=[2]} [] [] trivial
def ZdU(F:Nat)(a0:yU)(a1:yU):yO (yU):=
 (Vx F a0).bind λo1103=>
 (Vx F a1).bind λo1104=>
 some ((o1103+o1104) % 2305843009213688669)
def ZiW:Fs yb:=⟨231,[.v .u64,.v .u64],[],[.u64,.u64],(zE .u64),λx=>ZdU yD x.1 x.2⟩
theorem Zpm:ZiW.Ok:=fnO { still:=[4,5,7]} [] [ZdT] ⟨ZiV,ytt⟩
def WW(F:Nat)(s:(yU×yU×yU)):yO ((yU×yU×yU)⊕yU):=
 if(decide (s.2.1 > 0))=true then
  if((s.2.1 % 2)==1)=true then
   some (.inl ((s.1+s.1) % 2305843009213688669,s.2.1 / 2,(s.2.2+s.1) % 2305843009213688669))
  else
  some (.inl ((s.1+s.1) % 2305843009213688669,s.2.1 / 2,s.2.2))
 else
 some (.inr s.2.2)
def ZgX:Lp:=⟨[(5,.v .u64),(6,.v .u64),(7,.v .u64)],[],[.u64,.u64,.u64],[⟨.exit 0,[(7,.v .u64)],[],[.u64]⟩],Zb (WW yD) yD⟩
theorem Zmf:ZgX.okA yb 232 0:=Zx { still:=[4,8,10]} [] [] trivial
def Za0(F:Nat)(a0:yU)(a1:yU):yO (yU):=
 (Vx F a0).bind λo1105=>
 (Vx F a1).bind λo1106=>
 (Zb (WW F) F (o1105,o1106,0)).bind λo1107=>
 some o1107
def ZiX:Fs yb:=⟨232,[.v .u64,.v .u64],[],[.u64,.u64],(zE .u64),λx=>Za0 yD x.1 x.2⟩
theorem Zpn:ZiX.Ok:=fnO { still:=[4,8,10]} [(0,ZgX)] [ZdT] ⟨ZiV,ytt⟩ ⟨Zmf,ytt⟩
def ZcI(F:Nat)(a0:yU)(a1:yU)(a2:(yL yB))(a3:yU):yO (Sig):=
 (Yh F a1).bind λo1108=>
 (W2 F o1108 a3).bind λo1109=>
 (Yh F a0).bind λo1110=>
 (X2 F o1109 o1110 a2).bind λo1111=>
 (Za0 F a0 o1111).bind λo1112=>
 (ZdU F a1 o1112).bind λo1113=>
 some (o1109,o1113)
def ZgY:Fs yb:=⟨165,[.v .u64,.v .u64,.v (.arr 32 .u8),.v .u64],[],[.u64,.u64,(.arr 32 .u8),.u64],(zE Zy),λx=>ZcI yD x.1 x.2.1 x.2.2.1 x.2.2.2⟩
def ZPt:HI:={ still:=[11,12,13,15,16,17,18,21,22,23,24]}
theorem Zoj:ZgY.Ok:=fnO ZPt [] [QI,ZcH,Qy,ZiX,ZiW] ⟨Zbv,ZgW,ZbV,Zpn,Zpm,ytt⟩
def Zao(F:Nat)(a0:yU)(a1:(yL yB)):yO (Sig):=
 (ZaZ F a0).bind λo1114=>
 if(!o1114)=true then
  some (0,0)
 else
 (Y9 F a0).bind λo1115=>
 (YW F ZJB [o1115,a1]).bind λo1116=>
 (Ya F o1116).bind λo1117=>
 (ZcI F a0 o1117 a1 1).bind λo1118=>
 some o1118
def ZgZ:Fs yb:=⟨82,[.v .u64,.v (.arr 32 .u8)],[],[.u64,(.arr 32 .u8)],(zE Zy),λx=>Zao yD x.1 x.2⟩
def ZPu:HI:={ still:=[6,10,13,14,16,17,18],frz:=[12]}
theorem Zok:ZgZ.Ok:=fnO ZPu [] [ZiU,QE,VI,QD,ZgY] ⟨Zpl,Zbq,QH,Zbp,Zoj,ytt⟩
def XS(F:Nat)(a0:Kit)(a1:Tx):yO (Sig):=
 (Vw F a1).bind λo1119=>
 (Zao F a0.1 o1119).bind λo1120=>
 some o1120
def Zb8:Fs yb:=⟨23,[.v ZF,.v yTx],[],[ZF,yTx],(zE Zy),λx=>XS yD x.1 x.2⟩
theorem Zf7:Zb8.Ok:=fnO { still:=[6,7,8]} [] [ZdS,ZgZ] ⟨ZiT,Zok,ytt⟩
def Zap(F:Nat)(a0:(yL yB)):yO (Zi):=
 if(apB 0 a0.length 1)=true then
  some (a0,false)
 else
 none
def Zg0:Fs yb:=⟨196,[.v (.sl .u8)],[],[(.sl .u8)],[⟨.ret,[(0,.ref 0 [])],[.var (.v Zg) true],[Zg]⟩],λx=>Zap yD x⟩
theorem Zol:Zg0.Ok:=fnO { own:=[3,5],still:=[2]} [] [] trivial
def Yr(F:Nat)(s0:Zi):yO (Zi):=
 some ([],true)
def Wi:Fs yb:=⟨265,[.ref 0 []],[.var (.v Zg) true],[Zg],[⟨.ret,[(0,.tup [])],[.var (.v Zg) true],[Zg]⟩],λx=>Yr yD x⟩
theorem Vn:Wi.Ok:=fnO {} [] [] trivial
def ZP(F:Nat)(s:(Int×Int×Int×Zi)):yO ((Int×Int×Int×Zi)⊕((Int×Zi)⊕Zi)):=
 if(decide (s.2.2.1 < (s.2.2.2.1.length:Int)))=true then
  if(decide (s.2.2.1 < 9))=true then
   (idx s.2.2.2.1 s.2.2.1).bind λe1122=>
   if((e1122.toNat:Int)==0)=true then
    if(decide (s.2.2.1 > 0))=true then
     (Yr F s.2.2.2).bind λo1123=>
     some (.inr (.inl (0,o1123)))
    else
    let y1124:Int:=wi (s.1+(wi ((yav (e1122.toNat:Int) 128)*s.2.1)))
    if(decide ((e1122.toNat:Int) < 128))=true then
     if(ZaE s.2.2.2.1.length (some (wi (s.2.2.1+1))) none)=true then
      some (.inr (.inl (y1124,(s.2.2.2.1.drop ((wi (s.2.2.1+1)).toNat),s.2.2.2.2))))
     else
     none
    else
    some (.inl (y1124,wi (128*s.2.1),wi (s.2.2.1+1),s.2.2.2))
   else
   let y1125:Int:=wi (s.1+(wi ((yav (e1122.toNat:Int) 128)*s.2.1)))
   if(decide ((e1122.toNat:Int) < 128))=true then
    if(ZaE s.2.2.2.1.length (some (wi (s.2.2.1+1))) none)=true then
     some (.inr (.inl (y1125,(s.2.2.2.1.drop ((wi (s.2.2.1+1)).toNat),s.2.2.2.2))))
    else
    none
   else
   some (.inl (y1125,wi (128*s.2.1),wi (s.2.2.1+1),s.2.2.2))
  else
  some (.inr (.inr s.2.2.2))
 else
 some (.inr (.inr s.2.2.2))
def ZbA:Lp:=⟨[(0,.ref 0 []),(3,.v yI),(4,.v yI),(5,.v yI)],[.var (.v Zg) true],[yI,yI,yI,Zg],[⟨.ret,[(2,.v yI)],[.var (.v Zg) true],[yI,Zg]⟩,⟨.exit 0,[(0,.ref 0 [])],[.var (.v Zg) true],[Zg]⟩],Zb (ZP yD) yD⟩
theorem Zf8:ZbA.okA yb 244 0:=Zx { still:=[2,34,57]} [] [Wi] ⟨Vn,ytt⟩
def Yu(F:Nat)(s0:Zi):yO ((Int×Zi)):=
 (Zb (ZP F) F (0,1,0,s0)).bind λo1126=>
 match o1126 with
 |.inl o1127=>
  some (o1127.1,o1127.2)
 |.inr o1128=>
  (Yr F o1128).bind λo1129=>
  some (0,o1129)
def VV:Fs yb:=⟨244,[.ref 0 []],[.var (.v Zg) true],[Zg],[⟨.ret,[(0,.v yI)],[.var (.v Zg) true],[yI,Zg]⟩],λx=>Yu yD x⟩
theorem ZbB:VV.Ok:=fnO { still:=[2,34,57]} [(0,ZbA)] [Wi] ⟨Vn,ytt⟩ ⟨Zf8,ytt⟩
def Wt(F:Nat)(a1:Int)(s0:Zi):yO (((yL yB)×Zi)):=
 if s0.2=true then
  (Yr F s0).bind λo1132=>
  some ([],o1132)
 else
 if(decide (a1 > (s0.1.length:Int)))=true then
  (Yr F s0).bind λo1133=>
  some ([],o1133)
 else
 if(ZaE s0.1.length none (some a1))=true then
  if(apB 0 ((s0.1.take a1.toNat).length) 1)=true then
   if(ZaE s0.1.length (some a1) none)=true then
    some (s0.1.take a1.toNat,(s0.1.drop a1.toNat,s0.2))
   else
   none
  else
  none
 else
 none
def ZbC:Fs yb:=⟨266,[.ref 0 [],.v yI],[.var (.v Zg) true],[yI,Zg],[⟨.ret,[(0,.v (.sl .u8))],[.var (.v Zg) true],[(.sl .u8),Zg]⟩],λx=>Wt yD x.1 x.2⟩
theorem Zhy:ZbC.Ok:=fnO { own:=[21,28],still:=[4,19]} [] [Wi] ⟨Vn,ytt⟩
def Yx(F:Nat)(s:((yL yB)×yU×Int×Zi)):yO (((yL yB)×yU×Int×Zi)⊕(yU×Zi)):=
 if(decide (s.2.2.1 < (s.1.length:Int)))=true then
  (idx s.1 s.2.2.1).bind λe1135=>
  some (.inl (s.1,(256*s.2.1)+(yx e1135.toNat),wi (s.2.2.1+1),s.2.2.2))
 else
 some (.inr (s.2.1,s.2.2.2))
def ZbD:Lp:=⟨[(3,.v (.sl .u8)),(4,.v .u64),(5,.v yI)],[.var (.v Zg) true],[(.sl .u8),.u64,yI,Zg],[⟨.exit 0,[(4,.v .u64)],[.var (.v Zg) true],[.u64,Zg]⟩],Zb (Yx yD) yD⟩
theorem Zf9:ZbD.okA yb 245 0:=Zx { still:=[2,6]} [] [] trivial
def XG(F:Nat)(s0:Zi):yO ((yU×Zi)):=
 (Wt F 8 s0).bind λo1134=>
 (Zb (Yx F) F (o1134.1,0,0,o1134.2)).bind λo1136=>
 some (o1136.1,o1136.2)
def VW:Fs yb:=⟨245,[.ref 0 []],[.var (.v Zg) true],[Zg],[⟨.ret,[(0,.v .u64)],[.var (.v Zg) true],[.u64,Zg]⟩],λx=>XG yD x⟩
theorem ZbE:VW.Ok:=fnO { still:=[2,6]} [(0,ZbD)] [ZbC] ⟨Zhy,ytt⟩ ⟨Zf9,ytt⟩
def Z6(F:Nat)(s:(Int×Int×Int×Int×Zi×yG×(yL ZC)×Int×Int×yU×(yL yU))):yO ((Int×Int×Int×Int×Zi×yG×(yL ZC)×Int×Int×yU×(yL yU))⊕(Int×Int×Zi×yG×(yL ZC)×Int×Int×yU×(yL yU))):=
 if(decide (s.2.2.2.1 < s.2.2.1))=true then
  if(decide (s.2.2.2.1 < 13))=true then
   (XG F s.2.2.2.2.1).bind λo1137=>
   if(apB s.2.2.2.2.2.2.2.2.2.2.length 1 8)=true then
    let y1138:(yL yU):=s.2.2.2.2.2.2.2.2.2.2++([o1137.1]:yL yU)
    some (.inl (s.1,s.2.1,s.2.2.1,wi (s.2.2.2.1+1),o1137.2,s.2.2.2.2.2.1,s.2.2.2.2.2.2.1,s.2.2.2.2.2.2.2.1,s.2.2.2.2.2.2.2.2.1,s.2.2.2.2.2.2.2.2.2.1,y1138))
   else
   none
  else
  some (.inr (s.1,s.2.1,s.2.2.2.2.1,s.2.2.2.2.2.1,s.2.2.2.2.2.2.1,s.2.2.2.2.2.2.2.1,s.2.2.2.2.2.2.2.2.1,s.2.2.2.2.2.2.2.2.2.1,s.2.2.2.2.2.2.2.2.2.2))
 else
 some (.inr (s.1,s.2.1,s.2.2.2.2.1,s.2.2.2.2.2.1,s.2.2.2.2.2.2.1,s.2.2.2.2.2.2.2.1,s.2.2.2.2.2.2.2.2.1,s.2.2.2.2.2.2.2.2.2.1,s.2.2.2.2.2.2.2.2.2.2))
def ZOI:yL ESh:=[.var (.v Zg) true,.var (.v Ze) true,.var (.agg [.own 3 Zm]) true,.log Zm 124,.var (.agg [.own 5 .u64,.v yI,.v yI,.v .u64]) true,.log .u64 27]
abbrev ZPv:yL Ty:=[yI,yI,Zg,Ze,(.sl Zm),yI,yI,.u64,(.sl .u64)]
abbrev ZPw:yL Ty:=[yI,yI,yI,yI,Zg,Ze,(.sl Zm),yI,yI,.u64,(.sl .u64)]
def ZdV:Lp:=⟨[(0,.ref 0 []),(2,.ref 1 []),(3,.ref 2 []),(4,.v yI),(5,.v yI),(6,.ref 4 []),(7,.v yI),(8,.v yI)],ZOI,ZPw,[⟨.exit 2,[(0,.ref 0 []),(2,.ref 1 []),(3,.ref 2 []),(4,.v yI),(5,.v yI),(6,.ref 4 [])],ZOI,ZPv⟩],Zb (Z6 yD) yD⟩
def ZNy:HI:={ own:=[32,36,48,51],still:=[9,20,33,38,41,44],ghost:=[(3,[([0],Zm,124)]),(6,[([0],.u64,27)])]}
theorem Zje:ZdV.okA yb 195 1:=Zx ZNy [] [VW] ⟨ZbE,ytt⟩
def YD(F:Nat)(s:(Int×Int×Zi×yG×(yL ZC))):yO ((Int×Int×Zi×yG×(yL ZC))⊕(Zi×yG×(yL ZC))):=
 if(decide (s.2.1 < s.1))=true then
  if(decide (s.2.1 < 5))=true then
   (Yu F s.2.2.1).bind λo1131=>
   (Zb (Z6 F) F (s.1,s.2.1,o1131.1,0,o1131.2,s.2.2.2.1,s.2.2.2.2,0,0,0,[])).bind λo1139=>
   (Yu F o1139.2.2.1).bind λo1140=>
   (Yu F o1140.2).bind λo1141=>
   (XG F o1141.2).bind λo1142=>
   if(apB o1139.2.2.2.2.1.length 1 48)=true then
    let y1143:(yL ZC):=o1139.2.2.2.2.1++([(o1139.2.2.2.2.2.2.2.2,o1140.1,o1141.1,o1142.1)]:yL ZC)
    some (.inl (o1139.1,wi (o1139.2.1+1),o1142.2,o1139.2.2.2.1,y1143))
   else
   none
  else
  some (.inr (s.2.2.1,s.2.2.2.1,s.2.2.2.2))
 else
 some (.inr (s.2.2.1,s.2.2.2.1,s.2.2.2.2))
def ZdW:Lp:=⟨[(0,.ref 0 []),(2,.ref 1 []),(3,.ref 2 []),(4,.v yI),(5,.v yI)],[.var (.v Zg) true,.var (.v Ze) true,.var (.agg [.own 3 Zm]) true,.log Zm 124],[yI,yI,Zg,Ze,(.sl Zm)],[⟨.exit 0,[(2,.ref 1 []),(3,.ref 2 [])],[.var (.v Zg) true,.var (.v Ze) true,.var (.agg [.own 3 Zm]) true,.log Zm 124],[Zg,Ze,(.sl Zm)]⟩],Zb (YD yD) yD⟩
theorem Zjf:ZdW.okA yb 195 0:=Zx ZNy [(1,ZdV)] [VV,VW] ⟨ZbB,ZbE,ytt⟩ ⟨Zje,ytt⟩
def X3(F:Nat)(s0:Zi):yO ((yG×Zi)):=
 (Yu F s0).bind λo1130=>
 (Zb (YD F) F (o1130.1,0,o1130.2,[],[])).bind λo1144=>
 some (o1144.2.2,o1144.1)
def ZeD:Fs yb:=⟨195,[.ref 0 []],[.var (.v Zg) true],[Zg],[⟨.ret,[(0,.v Ze)],[.var (.v Zg) true],[Ze,Zg]⟩],λx=>X3 yD x⟩
theorem Zmg:ZeD.Ok:=fnO ZNy [(0,ZdW)] [VV] ⟨ZbB,ytt⟩ ⟨Zjf,ytt⟩
def WF(F:Nat)(a0:(yL yB)):yO ((yG×Bool)):=
 (Zap F a0).bind λo1149=>
 (X3 F o1149).bind λo1150=>
 (Yp F o1150.1).bind λo1151=>
 if(!o1151)=true then
  some ([],false)
 else
 (Xp F o1150.1).bind λo1152=>
 let y1153:Bool:= !((WX o1152).data.toList==(WX a0).data.toList)
 if y1153=true then
  some ([],false)
 else
 some (o1150.1,true)
def Zg1:Fs yb:=⟨113,[.v (.sl .u8)],[],[(.sl .u8)],[⟨.ret,[(0,.tup [.v Ze,.v .bool])],[],[Ze,.bool]⟩],λx=>WF yD x⟩
theorem Zom:Zg1.Ok:=fnO { still:=[3,5,6,8,12]} [] [Zg0,ZeD,X1,Qo] ⟨Zol,Zmg,Wz,ZaI,ytt⟩
def QO(F:Nat)(a0:yU)(a1:(yL yB))(a2:yU)(a3:Sig):yO (Bool):=
 (Yc F a0).bind λo1154=>
 (Yc F a2).bind λo1155=>
 (Yc F a3.1).bind λo1156=>
 (Vc F a3.2).bind λo1157=>
 if(!o1154)=true then
  some false
 else
 if(!o1155)=true then
  some false
 else
 if(!o1156)=true then
  some false
 else
 if(!o1157)=true then
  some false
 else
 if(a0==1)=true then
  some false
 else
 (Yh F a3.2).bind λo1158=>
 (W2 F o1158 a2).bind λo1159=>
 (X2 F a3.1 a0 a1).bind λo1160=>
 (W9 F a0 o1160).bind λo1161=>
 (W2 F a3.1 o1161).bind λo1162=>
 some (o1159==o1162)
def Zga:Fs yb:=⟨197,[.v .u64,.v (.arr 32 .u8),.v .u64,.v Zy],[],[.u64,(.arr 32 .u8),.u64,Zy],(zE .bool),λx=>QO yD x.1 x.2.1 x.2.2.1 x.2.2.2⟩
def ZPx:HI:={ still:=[8,15,17,20,23,44,45,46,49,50,52,53,54,55,56]}
theorem Zm4:Zga.Ok:=fnO ZPx [] [Y8,Zbz,QI,ZcH,Qy,Zbu] ⟨Xy,ZeC,Zbv,ZgW,ZbV,Zep,ytt⟩
def Qp(F:Nat)(a0:yU)(a1:(yL yB))(a2:Sig):yO (Bool):=
 (QO F a0 a1 1 a2).bind λo1163=>
 some o1163
def ZeE:Fs yb:=⟨114,[.v .u64,.v (.arr 32 .u8),.v Zy],[],[.u64,(.arr 32 .u8),Zy],(zE .bool),λx=>Qp yD x.1 x.2.1 x.2.2⟩
theorem Zmh:ZeE.Ok:=fnO { still:=[6,7,8,9]} [] [Zga] ⟨Zm4,ytt⟩
def WG(F:Nat)(a0:Tx)(a1:Sig)(a2:Sig):yO (Tx):=
 if((a0.1.length:Int)==0)=true then
  some a0
 else
 (idx a0.1 0).bind λe1164=>
 if(ZaE a0.1.length (some 1) none)=true then
  if(apB 1 ((a0.1.drop 1).length) 80)=true then
   let y1165:(yL In):=([(e1164.1,(0,[a1,a2],0))]:yL In)++(a0.1.drop 1)
   some (y1165,a0.2.1,a0.2.2)
  else
  none
 else
 none
def Zg2:Fs yb:=⟨14,[.v yTx,.v Zy,.v Zy],[],[yTx,Zy,Zy],(zE yTx),λx=>WG yD x.1 x.2.1 x.2.2⟩
theorem Zon:Zg2.Ok:=fnO { own:=[26,30]} [] [] trivial
end
end Go.Proofs.YtdhclndplbopgaaGreat
end
section
set_option maxRecDepth 4000
namespace Go.Proofs.YtdhclndplbopgaaGreat
open Go Go.Ev
theorem ZJG{m:Nat}(hm:0 < m):∀(f a n o:Nat),o < m->pwm m f a n o < m
 |0,_,_,o,h=>h
 |f+1,a,n,o,h=>by
  rw[pwm];split
  ·exact h
  ·refine ZJG hm f _ _ _ ?_;split
   ·exact ybc _ hm
   ·exact h
theorem ZJH{m:Nat}(hm:1 < m)(k a n:Nat)(h:n < 2 ^ k):pwm m k a n 1=a ^ n % m:=by
 rw[<-yaf (ZJG (by omega) k a n 1 hm),ZAb k a n 1 h,Nat.one_mul]
instance(a:Nat):Decidable (Qu a):=by unfold Qu;infer_instance
theorem ZNz{z:Nat}(h:z < mdl):z < 18446744073709551616:=Nat.lt_trans h (by decide)
theorem ZAy{z:Nat}(h:z < mdl):(yx z).toNat=z:=by
 rw[yaw,yaf (ZNz h)]
theorem ZrT(z:Nat):z % mdl < mdl:=ybc _ (by decide)
theorem ZwQ(a n:yU):ZbJ yD a n=some (yx (a.toNat ^ n.toNat % mdl)):=by
 unfold ZbJ;rw[ZJH (by decide) 64 a.toNat n.toNat (ybo n)];rfl
theorem Zyz{a n:yU}(h:a.toNat < mdl):Xn yD a n=some (yx (a.toNat ^ n.toNat % mdl)):=by
 unfold Xn;rw[yW (yY (show a.toNat < 4611686018427377339 from h)),ZJH (by decide) 64 a.toNat n.toNat (ybo n)]
 rfl
theorem ZJI{z:Nat}(h:z < mdl):(yx z==1)=decide (z=1):=by
 rw[ycm,yT,yN, <-ybz,ZAy h];rfl
theorem ZiY(p:yU):WJ yD p=some (decide (Qu p.toNat)):=by
 unfold WJ;by_cases h1:0 < p.toNat
 ·rw[yW (yY (show p > 0 from yca.2 h1))]
  by_cases h2:p.toNat < mdl
  ·rw[yW (yY (show p < 4611686018427377339 from yca.2 h2)),ZwQ,ya,ZJI (ZrT _)]
   congr 1;rw[decide_eq_decide];exact⟨λh=>⟨h1,h2,h⟩,λh=>h.2.2⟩
  ·rw[yX (by rw[yN];exact λh=>h2 (yca.1 h)),yZ (λh=>h2 h.2.1)]
 ·rw[yX (by rw[yN];exact λh=>h1 (yca.1 h)),yZ (λh=>h1 h.1)]
theorem Zc0(p:yU):Yc yD p=some (decide (Qu p.toNat)):=by
 unfold Yc;by_cases h1:0 < p.toNat
 ·rw[yW (yY (show p >= 1 from ycs.2 h1))]
  by_cases h2:p.toNat < mdl
  ·rw[yW (yY (show p < 4611686018427377339 from yca.2 h2)),Zyz h2,ya,ZJI (ZrT _)]
   congr 1;rw[decide_eq_decide];exact⟨λh=>⟨h1,h2,h⟩,λh=>h.2.2⟩
  ·rw[yX (by rw[yN];exact λh=>h2 (yca.1 h)),yZ (λh=>h2 h.2.1)]
 ·rw[yX (by rw[yN];exact λh=>h1 (ycs.1 h)),yZ (λh=>h1 h.1)]
def tk(p:yU):yU:=if Qu p.toNat then p else 1
theorem ZCx(p:yU):Qu (tk p).toNat:=by
 unfold tk;split
 ·assumption
 ·exact ZAc
theorem ZJJ{p:yU}(h:Qu p.toNat):tk p=p:=yW h
theorem ZwR(p:yU):ZbN yD p=some (tk p):=by
 unfold ZbN tk;rw[ZiY,ya];by_cases h:Qu p.toNat
 ·rw[yW (yY h),yW h]
 ·rw[yX (by rw[yN];exact h),yX h]
theorem ZsY(p:yU):Wp yD p=some (tk p):=by
 unfold Wp tk;rw[Zc0,ya];by_cases h:Qu p.toNat
 ·rw[yW (yY h),yW h]
 ·rw[yX (by rw[yN];exact h),yX h]
def sc(p:yU)(n:Nat):yU:=yx ((tk p).toNat ^ n % mdl)
theorem ZEu(p:yU)(n:Nat):(sc p n).toNat=(tk p).toNat ^ n % mdl:=ZAy (ZrT _)
theorem ZOJ(p:yU)(n:Nat):Qu (sc p n).toNat:=by
 rw[ZEu];exact ZNd (ZCx p) n
theorem ZJK(p:yU)(n:Nat):sc p (n % ord)=sc p n:=by
 unfold sc;rw[ZLj (ZCx p)]
theorem Zoo(k:yU):(k % 2305843009213688669).toNat=k.toNat % ord:=by
 rw[ycr];rfl
theorem ZCy(p k:yU):Zdy yD p k=some (sc p k.toNat):=by
 unfold Zdy;rw[ZwR,ya,ZwQ,ya,Zoo, <-ZJK];rfl
theorem ZyA(p k:yU):W9 yD p k=some (sc p k.toNat):=by
 unfold W9;rw[ZsY,ya,Zyz (ZCx p).2.1,ya,Zoo, <-ZJK];rfl
def B(n:Nat):yU:=sc 4 n
theorem tk4:tk 4=4:=ZJJ ZJo
theorem ZOK(n:Nat):(B n).toNat=4 ^ n % mdl:=by
 unfold B;rw[ZEu,tk4];rfl
theorem ZHe(n:Nat):Qu (B n).toNat:=ZOJ 4 n
theorem ZPy{n:Nat}(h0:0 < n)(h1:n < ord):B n≠1:=λe=>ZNe h0 h1 (by rw[<-ZOK,e];rfl)
theorem Zhz(k:yU):Wr yD k=some (B k.toNat):=by
 unfold Wr;rw[ZCy,ya];rfl
theorem Q0(k:yU):Yh yD k=some (B k.toNat):=by
 unfold Yh;rw[ZyA,ya];rfl
def ad(p q:yU):yU:=yx ((tk p).toNat*(tk q).toNat % mdl)
theorem ZNA(p q:yU):(ad p q).toNat=(tk p).toNat*(tk q).toNat % mdl:=ZAy (ZrT _)
theorem ZJL(a b:yU):YU yD a b=some (yx (a.toNat*b.toNat % mdl)):=ZCi a b
def Zop:yL yU->Nat->Nat
 |[],o=>o
 |p::r,o=>Zop r (o*(tk p).toNat % mdl)
theorem ZFP:∀(l:yL yU)(o:Nat),o < mdl->Zop l o < mdl
 |[],o,h=>h
 |p::r,o,h=>ZFP r _ (ZrT _)
theorem ZJM{l:yL yU}(hl:l.length<=1000):Zix yD l=some (yx (Zop l 1)):=by
 have key:∀(k:Nat),k<=l.length->Zop (l.take k) 1 < mdl:=λk _=>ZFP _ _ (by decide)
 have app:∀(l:yL yU)(p:yU)(o:Nat),Zop (l++[p]) o=Zop l o*(tk p).toNat % mdl:=by
  intro l
  induction l with
  |nil=>intro p o;rfl
  |cons q r ih=>intro p o;exact ih p _
 unfold Zix
 rw[show((1:yU),l,(l.length:Int),(0:Int))=(λk:Nat=>(yx (Zop (l.take k) 1),l,(l.length:Int),(k:Int))) 0 from rfl,
  Zt (x:=yx (Zop l 1)) l.length (λk:Nat=>(yx (Zop (l.take k) 1),l,(l.length:Int),(k:Int))) ?_ ?_ (by omega),ya]
 ·intro k hk;obtain⟨e,he,_⟩:=Zk hk;unfold Zfk;dsimp only;rw[yW (ZV hk),Zq he,ya,ZwR,ya,ZJL,ya,Zn (by omega),ZdM he,app,ZAy (key k (by omega))]
 ·unfold Zfk;dsimp only;rw[yX (by rw[ZH];decide),List.take_length]
theorem ZNB(p q:yU):ZlQ yD p q=some (ad p q):=by
 unfold ZlQ;rw[ZJM (by simp),ya];unfold ad Zop Zop Zop;rw[Nat.one_mul,yaf (ZCx p).2.1]
theorem ZNC(p:yU):ZlW yD p=some (sc p (ord - 1)):=by
 unfold ZlW;rw[ZwR,ya,ZwQ,ya];rfl
theorem ZJN{z:Nat}:(yx (z % ord)).toNat=z % ord:=by
 rw[yaw,yaf (Nat.lt_trans (ybc _ (by decide)) (by decide))]
theorem Zmi{z:Nat}:z % ord < ord:=ybc _ (by decide)
theorem ZFQ(a b:yU):ZlR yD a b=some (yx ((a.toNat+b.toNat) % ord)):=by
 unfold ZlR ZeV Zgw;rw[ya,ya,ya];congr 1;have ha:a.toNat % ord < ord:=Zmi;have hb:b.toNat % ord < ord:=Zmi;rw[<-ybz,Zoo,UInt64.toNat_add,Zoo,Zoo,ZJN,yaf (a:=a.toNat % ord+b.toNat % ord) (by unfold ord at*;omega), <-Nat.add_mod]
theorem ZLq(a b:yU):ZlS yD a b=some (yx (a.toNat*b.toNat % ord)):=by
 unfold ZlS ZeV ZeW ZfA;rw[ya,ya,ya];dsimp only;unfold V9;rw[yW (by decide),ya,ya,yaw,yaw,Zoo,Zoo];have h:a.toNat % ord*(b.toNat % ord) < 18446744073709551616*18446744073709551616:=Nat.mul_lt_mul'' (Nat.lt_trans Zmi (by decide)) (Nat.lt_trans Zmi (by decide));have hz:a.toNat % ord*(b.toNat % ord) % ord=a.toNat*b.toNat % ord:=(Nat.mul_mod ..).symm;generalize a.toNat % ord*(b.toNat % ord)=z at*;have h2:z / 18446744073709551616 < 18446744073709551616:=(Nat.div_lt_iff_lt_mul (by decide)).2 h;rw[show(2305843009213688669:yU).toNat=ord from rfl]
 have e:z / 18446744073709551616 % 2 ^ 64*18446744073709551616+z % 18446744073709551616 % 2 ^ 64=z:=by omega
 rw[e,hz]
theorem ZsZ(a:yU):Zdx yD a=some (decide (a.toNat < ord)):=by
 unfold Zdx;congr 1
def Key(k:yU):Prop:=0 < k.toNat/\k.toNat < ord
theorem Zoq{h:yL yB}(hl:h.length=32):∃k,Ya yD h=some k/\Key k:=by
 unfold Ya
 obtain⟨x,h1,h2⟩:=Ym (step:=Yk yD) 32 (λk s=>∃n:yU,s=(n,(k:Int),h)/\n.toNat < 2305843009213688668) (λx=>x.1.toNat < 2305843009213688668) (i:=((0:yU),(0:Int),h)) ⟨0,rfl,by decide⟩ (by omega) (by
  rintro k _ hk ⟨n,rfl,hn⟩;left;obtain⟨e,he,_⟩:=Zk (l:=h) (k:=k) (by omega);unfold Yk;dsimp only;rw[yW (yY (by omega))]
  obtain⟨y,g1,n2,rfl,g2⟩:=Ym (step:=Yj yD) 8 (λj s=>∃n:yU,s=(n,(k:Int),7 - (j:Int),h)/\n.toNat < 2305843009213688668) (λx=>∃n:yU,x=(n,(k:Int),h)/\n.toNat < 2305843009213688668) (i:=(n,(k:Int),(7:Int),h)) ⟨n,rfl,hn⟩ (by omega) (by
   rintro j _ hj ⟨n,rfl,hn⟩;left;unfold Yj;dsimp only;rw[yW (yY (by omega)),yW (Yz (by omega) (by omega)),yar,he,ya,ZG (z:=7 - (j:Int) - 1) (by omega) (by omega)];refine⟨_,rfl,_,by rw[show(7:Int) - (j:Int) - 1=7 - ((j+1:Nat):Int) by omega], ?_⟩;rw[ycr];exact ybc _ (by decide)) (by
   rintro _ ⟨n,rfl,hn⟩;unfold Yj;dsimp only;rw[yX (ynd (by omega))];exact⟨_,rfl,_,rfl,hn⟩)
  rw[g1,ya,Zn (by omega)];exact⟨_,rfl,_,rfl,g2⟩) (by
  rintro _ ⟨n,rfl,hn⟩;unfold Yk;dsimp only;rw[yX (ynd (by omega))];exact⟨_,rfl,hn⟩)
 rw[h1,ya];have e:(x.1+1).toNat=x.1.toNat+1:=by rw[UInt64.toNat_add,yaf (by show x.1.toNat+1 < _;omega)];rfl
 exact⟨_,rfl,by rw[e];omega,by rw[e];unfold ord;omega⟩
theorem ZCz{n:Nat}{b:yL yB}(h:b.length<=1000000):∃o,Vr yD (n:Int) b=some o/\o.length=b.length+8:=
 ⟨_,ZuH (by omega),by rw[yl];rfl⟩
theorem ZLr{l:yL yB}(h:l.length<=900000):∃o,ZhK yD l=some o/\o.length=32:=⟨_,ZFL (by omega),Sha.ZO8 l⟩
theorem ZLs{s:ByteArray}{ls:yL (yL yB)}(h1:s.size<=100)(h2:ls.length<=10)(h3:∀l,l∈ls->l.length<=60000):∃o,ZbM yD s ls=some o/\o.length=32:=by
 unfold ZbM;obtain⟨o,p1,p2⟩:=ZCz (n:=s.size) (b:=[]) (by simp)
 have hsl:(Zi6 s).length=s.size:=by
  unfold Zi6;rw[Array.length_toList];rfl
 rw[p1,ya,yW (ZD (by rw[hsl,p2];simp;omega) (by rw[hsl,p2];simp;omega))];refine Exists.elim (V2 (step:=Qc yD) (λx=>x.1=ls/\x.2.1=(ls.length:Int)/\0<=x.2.2.1/\x.2.2.1<=(ls.length:Int)/\x.2.2.2.2.length<=200+60100*x.2.2.1.toNat) (λx=>((ls.length:Int) - x.2.2.1).toNat) (λx=>x.2.length<=700000) ?_ (ls,(ls.length:Int),(0:Int),yzz,o++Zi6 s) ⟨rfl,rfl,Int.le_refl _,by dsimp only;omega,by dsimp only;rw[yl,p2,hsl];simp;omega⟩ (by dsimp only;omega)) ?_
 rotate_left
 ·rintro q ⟨q1,q2⟩;rw[q1,ya];obtain⟨r,r1,r2⟩:=ZLr (l:=q.2) (by omega);rw[r1,ya];exact⟨_,rfl,r2⟩
 ·rintro⟨a,n,i,c,d⟩ ⟨k1,k2,k3,k4,k5⟩;dsimp only at k1 k2 k3 k4 k5;subst k1;subst k2;unfold Qc;dsimp only;by_cases hi:i < (a.length:Int)
  ·left;obtain⟨e,he⟩:=Zdg (l:=a) (i:=i.toNat) (by omega);have hel:=h3 e (List.mem_of_getElem? he);obtain⟨x,x1,x2⟩:=ZCz (n:=e.length) (b:=d) (by omega);rw[yW (yY hi),Zjv k3 he,ya,x1,ya,yW (ZD (by omega) (by omega)),ZG (z:=i+1) (by omega) (by omega)];exact⟨_,rfl,⟨rfl,rfl,by dsimp only;omega,by dsimp only;omega,by dsimp only;rw[yl];omega⟩,by dsimp only;omega⟩
  ·right;rw[yX (by simpa using hi)];exact⟨_,rfl,by dsimp only;omega⟩
end Go.Proofs.YtdhclndplbopgaaGreat
end
