/- Parts of the proof, in one file. -/
import Derived.Test.YtghfiijgklnflaaGreatKe
open Bool renaming and_eq_true → yi, eq_iff_iff → ycq
open Go.Proofs.Tryz renaming prog → yc
open Int renaming toNat_natCast → yaj
open List renaming length_append → yj, length_take → yv, append_assoc → yx, length_map → yaa, replicate → yac, map_cons → yah, getElem?_map → yal, length_set → yan, map_append → yau, getElem?_cons_succ → ybb, length_drop → ybf, getElem?_eq_none → ybi, ext_getElem? → ybk, take_append_drop → ybl, getElem?_cons_zero → ybx, map_take → ycj, getElem?_set_self → ycw, length_replicate → ycx, getElem?_set_ne → ycy, getD_eq_getElem?_getD → ydf
open Nat renaming add → yr, shiftRight → yak, mod_eq_of_lt → yap, mul_comm → ybt, add_zero → ycf, eq_zero_or_pos → yco, lt_of_le_of_lt → ydb, two_pow_add_eq_or_of_lt → ydc, shiftRight_eq_div_pow → ydg
open Option renaming bind_some → ya
open UInt32 renaming toNat → yaq, ofNat → ybv, toNat_ofNat' → ycr
open UInt64 renaming ofNat → yai, toNat_ofNat' → yax, toNat_lt → ybu, lt_iff_toNat_lt → yca, toNat_inj → yct, le_iff_toNat_le → ycu
open UInt8 renaming toNat → yam, ofNat → yav
set_option linter.unusedVariables false
set_option linter.unusedSimpArgs false
section
set_option maxRecDepth 4000
namespace Go.Proofs.YtghfiijgklnflaaGreat
open Go Go.Ev Go.Sha
theorem ZhZ(x:yV)(n k:Nat)(h:n+k=32)(hn:0 < n){z:Int}(hz:((w64 z)&&&31).toNat=k):∃o,ZS yD x z=some o/\o.toNat=lo (yak (dbl x.toNat) n):=by
 refine⟨_,rfl, ?_⟩;have e1:((((w64 z)&&&31).toNat:Int)).toNat=k:=by rw[hz];rfl
 have e2:(32 - ((w64 z)&&&31)).toNat=n:=by
  have h1:((w64 z)&&&31)=yai k:=yct.1 (by rw[hz,yax];omega);rw[h1,UInt64.toNat_sub,yax];show(2 ^ 64 - k % 2 ^ 64+32) % 2 ^ 64=n;omega
 rw[e1,show((((32 - ((w64 z)&&&31)).toNat:Nat):Int)).toNat=n by rw[e2];rfl,Nat.min_eq_left (by omega),Nat.min_eq_left (by omega)];exact ZIJ x h hn
theorem ZJV{l:yL yB}{a b c d:yB}(ha:l[0]? =some a)(hb:l[1]? =some b)(hc:l[2]? =some c)(hd:l[3]? =some d):∃o,ZfK yD l=some o/\o.toNat=((a.toNat*256+b.toNat)*256+c.toNat)*256+d.toNat:=by
 unfold ZfK;rw[Zof (i:=0) (by omega) ha,Zof (i:=1) (by omega) hb,Zof (i:=2) (by omega) hc,Zof (i:=3) (by omega) hd];refine⟨_,rfl, ?_⟩;have h1:=a.toNat_lt;have h2:=b.toNat_lt;have h3:=c.toNat_lt;have h4:=d.toNat_lt
 have hs:∀(x:yB)(n:Nat),n<=24->(ZbK (ybv x.toNat) n).toNat=x.toNat*2 ^ n:=by
  intro x n hn;have hx:=x.toNat_lt;unfold ZbK;rw[ycr,ycr,yap (a:=x.toNat) (by omega)];refine yap ?_
  calc x.toNat*2 ^ n < 2 ^ 8*2 ^ n:=Nat.mul_lt_mul_of_pos_right hx (Nat.two_pow_pos n)
   _=2 ^ (8+n):=(Nat.pow_add ..).symm
   _<=2 ^ 32:=Nat.pow_le_pow_right (by omega) (by omega)
 rw[ZwQ,ZwQ,ZwQ,hs _ _ (by omega),hs _ _ (by omega),hs _ _ (by omega),ycr,yap (a:=d.toNat) (by omega)]
 have k1:Nat.lor (a.toNat*2 ^ 24) (b.toNat*2 ^ 16)=2 ^ 16*(a.toNat*256+b.toNat):=by
  rw[ybt a.toNat,show Nat.lor (2 ^ 24*a.toNat) (b.toNat*2 ^ 16)=2 ^ 24*a.toNat|||b.toNat*2 ^ 16 from rfl, <-ydc (by omega)]
  omega
 have k2:Nat.lor (2 ^ 16*(a.toNat*256+b.toNat)) (c.toNat*2 ^ 8)=2 ^ 8*((a.toNat*256+b.toNat)*256+c.toNat):=by
  rw[show Nat.lor (2 ^ 16*(a.toNat*256+b.toNat)) (c.toNat*2 ^ 8)=2 ^ 16*(a.toNat*256+b.toNat)|||c.toNat*2 ^ 8 from rfl, <-ydc (by omega)]
  omega
 rw[k1,k2,show Nat.lor (2 ^ 8*((a.toNat*256+b.toNat)*256+c.toNat)) d.toNat=2 ^ 8*((a.toNat*256+b.toNat)*256+c.toNat)|||d.toNat from rfl, <-ydc (by omega)]
 omega
theorem ZF7{l:yL yB}(h:l.length=64):∃o,Zcn yD l=some o/\o.length=64/\∀(i:Nat)x,i < 64->o[i]? =some x->x.toNat=wd (Yz (l.map yam)) i:=by
 unfold Zcn;generalize hz:([0,0,0,0,0,0,0,0,0,0,0,0,0,0,0,0,0,0,0,0,0,0,0,0,0,0,0,0,0,0,0,0,0,0,0,0,0,0,0,0,0,0,0,0,0,0,0,0,0,0,0,0,0,0,0,0,0,0,0,0,0,0,0,0]:yL yV)=z;have hzl:z.length=64:=by rw[<-hz];rfl
 refine Exists.elim (Qa (step:=QZ yD) (λs=>s.1=l/\0<=s.2.1/\s.2.1<=64/\s.2.2.length=64/\∀(j:Nat)x,(j:Int) < s.2.1->s.2.2[j]? =some x->x.toNat=wd (Yz (l.map yam)) j) (λs=>(64 - s.2.1).toNat)
  (λo=>o.length=64/\∀(j:Nat)x,j < 64->o[j]? =some x->x.toNat=wd (Yz (l.map yam)) j) ?_ (l,(0:Int),z) ⟨rfl,Int.le_refl _,by dsimp only;omega,hzl,λj x hj=>by dsimp only at hj;omega⟩ (by dsimp only;omega)) ?_
 rotate_left
 ·rintro o ⟨h1,h2⟩;exact⟨o,by rw[h1];rfl,h2⟩
 ·rintro⟨b,i,w⟩ ⟨hb,h0,h64,hw,hv⟩;dsimp only at hb h0 h64 hw hv;subst hb;unfold QZ;dsimp only
  have hset:∀(y:yV),y.toNat=wd (Yz (b.map yam)) i.toNat->i < 64->∀(j:Nat)x,(j:Int) < i+1->(w.set i.toNat y)[j]? =some x->x.toNat=wd (Yz (b.map yam)) j:=by
   intro y hy hi j x hj hx;by_cases hji:j=i.toNat
   ·subst hji;rw[ycw (by omega)] at hx;cases hx;exact hy
   ·rw[ycy (Ne.symm hji)] at hx;exact hv j x (by omega) hx
  by_cases hi:i < 64
  ·left;rw[yW (yY hi)];obtain⟨e,he⟩:=ZdI (l:=w) (i:=i.toNat) (by omega);by_cases h16:i < 16
   ·rw[yW (yY h16),Yj (z:=4*i) (by omega) (by omega),yW (by simp only[VZ,yi,yP];omega)];have g:∀k:Nat,k < 4->∃x,b[4*i.toNat+k]? =some x:=λk hk=>ZdI (by omega);obtain⟨x0,g0⟩:=g 0 (by omega);obtain⟨x1,g1⟩:=g 1 (by omega);obtain⟨x2,g2⟩:=g 2 (by omega);obtain⟨x3,g3⟩:=g 3 (by omega);have e4:(4*i).toNat=4*i.toNat:=by omega
    obtain⟨o,ho,hoe⟩:=ZJV (l:=b.drop (4*i).toNat) (by rw[List.getElem?_drop,e4];exact g0) (by rw[List.getElem?_drop,e4];exact g1) (by rw[List.getElem?_drop,e4];exact g2) (by rw[List.getElem?_drop,e4];exact g3);rw[ho,ya,yW (Xr h0 (by omega)),he,ya,Yj (z:=i+1) (by omega) (by omega)];refine⟨_,rfl,⟨rfl,by dsimp only;omega,by dsimp only;omega,by dsimp only;rw[yan];exact hw,hset o ?_ hi⟩,by dsimp only;omega⟩;have mg:∀(k:Nat)(x:yB),b[k]? =some x->(b.map yam)[k]? =some x.toNat:=λk x hx=>by rw[yal,hx];rfl
    have hwg:=Zlc i.toNat (b.map yam) _ _ _ _ (mg _ _ g0) (mg _ _ g1) (mg _ _ g2) (mg _ _ g3);rw[hoe];have b0:=x0.toNat_lt;have b1:=x1.toNat_lt;have b2:=x2.toNat_lt;have b3:=x3.toNat_lt;exact(ZyO _ (by omega) hwg (by omega)).symm
   ·rw[yX (by simpa using h16)];rw[Yj (z:=i - 15) (by omega) (by omega),Yj (z:=i - 2) (by omega) (by omega),Yj (z:=i - 16) (by omega) (by omega),Yj (z:=i - 7) (by omega) (by omega),Yj (z:=i+1) (by omega) (by omega)];obtain⟨e1,he1⟩:=ZdI (l:=w) (i:=(i - 15).toNat) (by omega);obtain⟨e2,he2⟩:=ZdI (l:=w) (i:=(i - 2).toNat) (by omega);obtain⟨e3,he3⟩:=ZdI (l:=w) (i:=(i - 16).toNat) (by omega);obtain⟨e4,he4⟩:=ZdI (l:=w) (i:=(i - 7).toNat) (by omega);have v1:=hv _ _ (by omega) he1;have v2:=hv _ _ (by omega) he2;have v3:=hv _ _ (by omega) he3;have v4:=hv _ _ (by omega) he4;rw[yW (Xr (by omega) (by omega)),he1,ya,yW (Xr (by omega) (by omega)),he2,ya];obtain⟨o1,ho1,p1⟩:=ZhZ e1 7 25 rfl (by omega) (z:= -7) rfl;obtain⟨o2,ho2,p2⟩:=ZhZ e1 18 14 rfl (by omega) (z:= -18) rfl;obtain⟨o3,ho3,p3⟩:=ZhZ e2 17 15 rfl (by omega) (z:= -17) rfl;obtain⟨o4,ho4,p4⟩:=ZhZ e2 19 13 rfl (by omega) (z:= -19) rfl;rw[ho1,ya,ho2,ya,ho3,ya,ho4,ya];rw[yW (Xr (by omega) (by omega)),he3,ya,yW (Xr (by omega) (by omega)),he4,ya]
    try dsimp only
    rw[yW (Xr h0 (by omega)),he,ya];refine⟨_,rfl,⟨rfl,by dsimp only;omega,by dsimp only;omega,by dsimp only;rw[yan];exact hw,hset _ ?_ hi⟩,by dsimp only;omega⟩;have hn:=ZwR (Yz (b.map yam)) (i - 16).toNat
    rw[show(i - 16).toNat+16=i.toNat by omega,show(i - 16).toNat+1=(i - 15).toNat by omega,show(i - 16).toNat+9=(i - 7).toNat by omega,show(i - 16).toNat+14=(i - 2).toNat by omega, <-v1, <-v2, <-v3, <-v4] at hn;rw[hn];rw[Za1,Za1,Za1,ZKR e1 p1 p2,ZKS e2 p3 p4];exact ZKX ..
  ·right;rw[yX (by simpa using hi)];exact⟨_,rfl,hw,λj x hj hx=>hv j x (by omega) hx⟩
theorem ZF8{st:yL yV}{l:yL yB}(hs:st.length=8)(h:l.length=64):∃o,QK yD st l=some o/\o.map yaq=ZjG (st.map yaq) (Yz (l.map yam)):=by
 unfold QK;obtain⟨w,hw,hwl,hwv⟩:=ZF7 h;obtain⟨k,hk,hkv⟩:∃k,Zk8 yD=some k/\k.map yaq=ks:=⟨_,rfl,rfl⟩;have hkl:k.length=64:=by rw[<-yaa (f:=yaq),hkv];rfl
 generalize hws:Yz (l.map yam)=ws at hwv;rw[hw,ya,hk,ya]
 refine Exists.elim (Qa (step:=Qq yD) (λs=>0<=s.1/\s.1<=64/\s.2.1=st/\s.2.2.2.1=w/\s.2.2.2.2.1=k/\s.2.2.2.2.2.length=8/\s.2.2.2.2.2.map yaq=rs ws (st.map yaq) s.1.toNat) (λs=>(64 - s.1).toNat)
  (λo=>o.1=st/\o.2.2.2.2.length=8/\o.2.2.2.2.map yaq=rs ws (st.map yaq) 64) ?_ ((0:Int),st,([0,0,0,0,0,0,0,0]:yL yV),w,k,st) ⟨Int.le_refl _,by dsimp only;omega,rfl,rfl,rfl,hs,rfl⟩ (by dsimp only;omega)) ?_
 rotate_left
 ·rintro o ⟨h1,p0,p1,p2⟩;rw[h1,ya];have hml:(ZjG (st.map yaq) ws).length=8:=Zgx (by rw[yaa];exact hs)
  refine Exists.elim (Qa (step:=Qr yD) (λs=>0<=s.1/\s.1<=8/\s.2.1=st/\s.2.2.2.2.2.length=8/\(∀(j:Nat)x,s.2.2.2.2.2[j]? =some x->if(j:Int) < s.1 then(ZjG (st.map yaq) ws)[j]? =some x.toNat else(rs ws (st.map yaq) 64)[j]? =some x.toNat)) (λs=>(8 - s.1).toNat)
   (λo=>o.2.2.2.2.map yaq=ZjG (st.map yaq) ws) ?_ ((0:Int),o.1,o.2.1,o.2.2.1,o.2.2.2.1,o.2.2.2.2) ⟨Int.le_refl _,by dsimp only;omega,p0,p1,λj x hx=>by
     dsimp only at hx ⊢;rw[yX (by omega), <-p2,yal,hx];rfl⟩ (by dsimp only;omega)) ?_
  rotate_left
  ·rintro q ⟨h2,q2⟩;rw[h2,ya];exact⟨_,rfl,q2⟩
  ·rintro⟨i,a,b,c,d,e⟩ ⟨h0,h8,ha,he,hv⟩;dsimp only at h0 h8 ha he hv;subst ha;unfold Qr;dsimp only;by_cases hi:i < 8
   ·left;obtain⟨e1,he1⟩:=ZdI (l:=e) (i:=i.toNat) (by omega);obtain⟨e2,he2⟩:=ZdI (l:=a) (i:=i.toNat) (by omega);simp only[yY hi,if_true,Xr h0 (show i < ((8:Nat):Int) by omega),he1,he2,ya];rw[Yj (z:=i+1) (by omega) (by omega)];refine⟨_,rfl,⟨by dsimp only;omega,by dsimp only;omega,rfl,by dsimp only;rw[yan];exact he, ?_⟩,by dsimp only;omega⟩;intro j x hx;dsimp only at hx ⊢;by_cases hji:j=i.toNat
    ·subst hji;rw[ycw (by omega)] at hx;cases hx;rw[yW (by omega),Za1];have k1:=hv _ _ he1;rw[yX (by omega)] at k1;unfold ZjG;rw[List.getElem?_zipWith,k1,yal,he2];rfl
    ·rw[ycy (Ne.symm hji)] at hx;have k1:=hv j x hx;by_cases hj:(j:Int) < i
     ·rw[yW hj] at k1;rw[yW (by omega)];exact k1
     ·rw[yX hj] at k1;rw[yX (by omega)];exact k1
   ·right;rw[yX (by simpa using hi)];refine⟨_,rfl, ?_⟩;dsimp only;apply ybk;intro j;rw[yal];by_cases hj:j < 8
    ·obtain⟨x,hx⟩:=ZdI (l:=e) (i:=j) (by omega);have:=hv j x hx;rw[yW (by omega)] at this;rw[hx,this];rfl
    ·rw[ybi (by omega),ybi (by omega)];rfl
 ·rintro⟨i,a,b,c,d,e⟩ ⟨h0,h64,ha,hc,hd,he,hv⟩;dsimp only at h0 h64 ha hc hd he hv;subst ha hc hd;unfold Qq;dsimp only;by_cases hi:i < 64
  ·left
   match e,he,hv with
   |[x0,x1,x2,x3,x4,x5,x6,x7],_,hv=>
    obtain⟨e1,he1⟩:=ZdI (l:=d) (i:=i.toNat) (by omega);obtain⟨e2,he2⟩:=ZdI (l:=c) (i:=i.toNat) (by omega);obtain⟨o1,ho1,p1⟩:=ZhZ x4 6 26 rfl (by omega) (z:= -6) rfl;obtain⟨o2,ho2,p2⟩:=ZhZ x4 11 21 rfl (by omega) (z:= -11) rfl;obtain⟨o3,ho3,p3⟩:=ZhZ x4 25 7 rfl (by omega) (z:= -25) rfl;obtain⟨o4,ho4,p4⟩:=ZhZ x0 2 30 rfl (by omega) (z:= -2) rfl;obtain⟨o5,ho5,p5⟩:=ZhZ x0 13 19 rfl (by omega) (z:= -13) rfl;obtain⟨o6,ho6,p6⟩:=ZhZ x0 22 10 rfl (by omega) (z:= -22) rfl;generalize ZS yD=R at ho1 ho2 ho3 ho4 ho5 ho6 ⊢;rw[yW (yY hi)];simp only[ybx,ybb];rw[ya,ho1,ya,ya,ho2,ya,ya,ho3,ya,ya,ya,ya,ya,ya];rw[yW (Xr h0 (show i < ((64:Nat):Int) by omega)),he1,ya,yW (Xr h0 (show i < ((64:Nat):Int) by omega)),he2,ya,ya,ho4,ya,ya,ho5,ya,ya,ho6];rw[ya,ya,ya,ya,ya,ya];rw[ya,ya,ya,ya,ya,ya,ya];rw[Yj (z:=i+1) (by omega) (by omega)];refine⟨_,rfl,⟨by dsimp only;omega,by dsimp only;omega,rfl,rfl,rfl,rfl, ?_⟩,by dsimp only;omega⟩;dsimp only;rw[show(i+1).toNat=i.toNat+1 by omega,show rs ws (a.map yaq) (i.toNat+1)=rnd (rs ws (a.map yaq) i.toNat) (ks.getD i.toNat 0) (wd ws i.toNat) from rfl, <-hv]
    have hk1:ks.getD i.toNat 0=e1.toNat:=by
     rw[<-hkv,ydf,yal,he1];rfl
    rw[hk1, <-hwv i.toNat e2 (by omega) he2];simp only[yah,List.map_nil];rw[ZsF]
    have kt:((x7+((o1^^^o2)^^^o3))+(x6^^^(x4&&&(x5^^^x6)))+e1+e2).toNat=lo (yr (yr (yr (yr x7.toNat (S1 x4.toNat)) (ch x4.toNat x5.toNat x6.toNat)) e1.toNat) e2.toNat):=by
     rw[Za1,Za1,Za1,Za1,ZKU x4 p1 p2 p3,ZKV];exact ZKY ..
    have ka:((x7+((o1^^^o2)^^^o3))+(x6^^^(x4&&&(x5^^^x6)))+e1+e2+((o4^^^o5)^^^o6)+((x0&&&x1)|||(x2&&&(x0|||x1)))).toNat=lo (yr (yr (yr (yr (yr (yr x7.toNat (S1 x4.toNat)) (ch x4.toNat x5.toNat x6.toNat)) e1.toNat) e2.toNat) (S0 x0.toNat)) (mj x0.toNat x1.toNat x2.toNat)):=by
     rw[Za1,Za1,kt,ZKT x0 p4 p5 p6,ZKW];exact ZKZ ..
    have ke:(x3+(((x7+((o1^^^o2)^^^o3))+(x6^^^(x4&&&(x5^^^x6))))+e1+e2)).toNat=lo (yr x3.toNat (yr (yr (yr (yr x7.toNat (S1 x4.toNat)) (ch x4.toNat x5.toNat x6.toNat)) e1.toNat) e2.toNat)):=by
     rw[Za1,kt];exact ZK0 ..
    rw[ka,ke]
  ·right;rw[yX (by simpa using hi)];have e64:i=64:=by omega
   subst e64;exact⟨_,rfl,rfl,he,hv⟩
def Ze9(n:Nat):yL yB:=(be8 n).map yav
theorem ZwT{n:Nat}{b:yL yB}(h:b.length<=1000000000000):VW yD (n:Int) b=some (b++Ze9 n):=by
 unfold VW
 obtain⟨o,h1,h2⟩:=Qa (step:=ZaU yD) (λs=>∃k:Nat,k<=8/\s.1=(n:Int)/\s.2.1=56 - 8*(k:Int)/\s.2.2.1=b++(Ze9 n).take k) (λs=>(s.2.1+8).toNat) (λo=>o.1=b++Ze9 n) (by
  rintro⟨a,i,c,d⟩ ⟨k,hk,ha,hi,hc⟩;dsimp only at ha hi hc;subst ha;unfold ZaU;dsimp only;have hcl:c.length<=b.length+8:=by rw[hc,yj,yv];omega
  by_cases h0:i >= 0
  ·left;rw[yW (yY h0),yW (yY h0),yW (ZF (by omega) (by omega)),Yj (z:=i - 8) (by omega) (by omega)];refine⟨_,rfl,⟨k+1,by omega,rfl,by dsimp only;omega, ?_⟩,by dsimp only;omega⟩;dsimp only
   have hw:∀m:Nat,w8 (Int.fdiv (n:Int) (2 ^ m))=yav (n / 2 ^ m % 256):=by
    intro m;unfold w8;rw[Int.fdiv_eq_ediv_of_nonneg _ (by exact Int.le_of_lt (Int.pow_pos (by omega)))];congr 1
   have hmin:min i.toNat 64=56 - 8*k:=by omega
   rw[hmin,hw,hc,yx];congr 1;have hk8:k < 8:=by omega
   match k,hk8 with
   |0,_=>rfl
   |1,_=>rfl
   |2,_=>rfl
   |3,_=>rfl
   |4,_=>rfl
   |5,_=>rfl
   |6,_=>rfl
   |7,_=>
    show _++[yav (n / 2 ^ 0 % 256)]=_;rw[Nat.pow_zero,Nat.div_one];rfl
  ·right;rw[yX (by simpa using h0)];have hk8:k=8:=by omega
   subst hk8;exact⟨_,rfl,hc⟩) (((n:Int),(56:Int),b,([]:yL yB))) ⟨0,by omega,rfl,by simp,by simp⟩ (by dsimp only;omega)
 rw[h1,ya,h2]
theorem ZJW{l:yL yB}(h:l.length<=4294967296):Zgw yD l=some (sha l):=by
 unfold Zgw
 have hm:Int.tmod (l.length:Int) 64=((l.length % 64:Nat):Int):=by
  rw[Int.tmod_eq_emod_of_nonneg (by omega)];omega
 have hlt:l.length % 64 < 64:=Nat.mod_lt _ (by omega);have hle:l.length % 64<=l.length:=Nat.mod_le _ _;rw[hm,Yj (z:=(l.length:Int) - ((l.length % 64:Nat):Int)) (by omega) (by omega)];dsimp only;rw[yW (by simp only[VZ,yi,yP];omega)];have hq:((l.length:Int) - ((l.length % 64:Nat):Int)).toNat=64*(l.length / 64):=by omega
 rw[hq]
 have hdl:(l.drop (64*(l.length / 64))).length=l.length % 64:=by
  rw[ybf];omega
 generalize ht:l.drop (64*(l.length / 64))=t at hdl
 have hcl:Yx yD t=some t:=by
  unfold Yx;rw[yW (ZF (by omega) (by omega))]
 rw[hcl,ya,yW (ZF (by omega) (by omega))];generalize hz:yzz=z;have hzl:z.length=32:=by rw[<-hz];rfl
 have hzs:zs l.length=(119 - t.length) % 64:=by unfold zs;rw[hdl]
 obtain⟨o,h1,p1,p2,p3⟩:=Qa (step:=Zd2 yD) (λs=>s.1=l/\s.2.1=z/\∃j,j<=zs l.length/\s.2.2=t++([128]:yL yB)++yac j 0) (λs=>184 - s.2.2.length)
  (λo=>o.1=l/\o.2.1=z/\o.2.2=t++([128]:yL yB)++yac (zs l.length) 0) (by
  rintro⟨a,b,c⟩ ⟨k1,k2,j,k3,k4⟩;dsimp only at k1 k2 k3 k4;have hcl:c.length=t.length+1+j:=by rw[k4,yj,yj,ycx];rfl
  unfold Zd2;dsimp only
  have hm:Int.tmod (c.length:Int) 64=((c.length % 64:Nat):Int):=by
   rw[Int.tmod_eq_emod_of_nonneg (by omega)];omega
  rw[hm];by_cases hi:c.length % 64=56
  ·right;rw[yX (by simp;omega)];have:j=zs l.length:=by omega
   subst this;exact⟨_,rfl,k1,k2,k4⟩
  ·left;rw[yW (by simp;omega),yW (ZF (by omega) (by omega))];have hj:j≠zs l.length:=λe=>hi (by omega);refine⟨_,rfl,⟨k1,k2,j+1,by omega, ?_⟩, ?_⟩
   ·dsimp only;rw[k4,yx,List.replicate_succ',yx]
   ·dsimp only;rw[yj,List.length_singleton];omega) (l,z,t++([128]:yL yB)) ⟨rfl,rfl,0,Nat.zero_le _,by simp⟩ (by dsimp only;omega)
 rw[h1,ya,p1,p2,p3,Yj (z:=8*(l.length:Int)) (by omega) (by omega),show 8*(l.length:Int)=((8*l.length:Nat):Int) by omega,ZwT (by
  rw[yj,yj,ycx];simp;omega),ya]
 obtain⟨f,hf,hfl⟩:∃f,Zk7 yD=some f/\f.map yaq=ZdL:=⟨_,rfl,rfl⟩;have hf8:f.length=8:=by rw[<-yaa (f:=yaq),hfl];rfl
 rw[hf,ya];generalize hE:t++([128]:yL yB)++yac (zs l.length) 0++Ze9 (8*l.length)=E
 have hEl:E.length=64*((t.length+72) / 64):=by
  rw[<-hE];simp only[yj,ycx,List.length_singleton,Ze9,yaa,be8,List.length_cons,List.length_nil];omega
 obtain⟨o3,h3,r1,r2,r3,r4⟩:=Qa (step:=Zd3 yD) (λs=>s.2.1=z/\s.2.2.1=E/\s.2.2.2.length=8/\∃c,c<=l.length / 64/\s.1=l.drop (64*c)/\s.2.2.2.map yaq=Zgy c (l.map yam) ZdL) (λs=>s.1.length)
  (λx=>x.1=z/\x.2.1=E/\x.2.2.length=8/\x.2.2.map yaq=Zgy (l.length / 64) (l.map yam) ZdL) (by
  rintro⟨a,b,c,d⟩ ⟨k1,k2,k3,j,k4,k5,k6⟩;dsimp only at k1 k2 k3 k4 k5 k6;have hal:a.length=l.length - 64*j:=by rw[k5,ybf]
  unfold Zd3;dsimp only;by_cases hi:(a.length:Int) >= 64
  ·left;obtain⟨m,hm1,hm2⟩:=ZF8 (st:=d) (l:=a.take 64) k3 (by rw[yv];omega);rw[yW (yY hi),yW (by simp only[VZ,yi,yP];omega),hm1,ya,yW (by simp only[VZ,yi,yP];omega)];refine⟨_,rfl,⟨k1,k2, ?_,j+1,by omega, ?_, ?_⟩,by dsimp only;rw[ybf];omega⟩
   ·dsimp only;rw[<-yaa (f:=yaq),hm2];exact Zgx (by rw[yaa];exact k3)
   ·dsimp only;rw[k5,List.drop_drop];congr 1
   ·dsimp only;rw[hm2,Zmf,k6,k5,ycj,List.map_drop]
  ·right;rw[yX (by simpa using hi)];have:j=l.length / 64:=by omega
   subst this;exact⟨_,rfl,k1,k2,k3,k6⟩) (l,z,E,f) ⟨rfl,rfl,hf8,0,Nat.zero_le _,by simp,hfl⟩ (by dsimp only;omega)
 rw[h3,ya,r1,r2];generalize hv1:Zgy (l.length / 64) (l.map yam) ZdL=v1 at r4
 obtain⟨o4,h4,s1,s2,s3⟩:=Qa (step:=Zd4 yD) (λs=>s.2.1=z/\s.2.2.2.length=8/\∃c,c<=E.length / 64/\s.1=E.drop (64*c)/\s.2.2.2.map yaq=Zgy c (E.map yam) v1) (λs=>s.1.length)
  (λx=>x.1=z/\x.2.2.length=8/\x.2.2.map yaq=Zgy (E.length / 64) (E.map yam) v1) (by
  rintro⟨a,b,c,d⟩ ⟨k1,k3,j,k4,k5,k6⟩;dsimp only at k1 k3 k4 k5 k6;have hal:a.length=E.length - 64*j:=by rw[k5,ybf]
  unfold Zd4;dsimp only;by_cases hi:(a.length:Int) > 0
  ·left;obtain⟨m,hm1,hm2⟩:=ZF8 (st:=d) (l:=a.take 64) k3 (by rw[yv];omega);rw[yW (yY hi),yW (by simp only[VZ,yi,yP];omega),hm1,ya,yW (by simp only[VZ,yi,yP];omega)];refine⟨_,rfl,⟨k1, ?_,j+1,by omega, ?_, ?_⟩,by dsimp only;rw[ybf];omega⟩
   ·dsimp only;rw[<-yaa (f:=yaq),hm2];exact Zgx (by rw[yaa];exact k3)
   ·dsimp only;rw[k5,List.drop_drop];congr 1
   ·dsimp only;rw[hm2,Zmf,k6,k5,ycj,List.map_drop]
  ·right;rw[yX (by simpa using hi)];have:j=E.length / 64:=by omega
   subst this;exact⟨_,rfl,k1,k3,k6⟩) (E,z,E,o3.2.2) ⟨rfl,r3,0,Nat.zero_le _,by simp,r4⟩ (by dsimp only;omega)
 rw[h4,ya];generalize hv2:Zgy (E.length / 64) (E.map yam) v1=v2 at s3
 obtain⟨o5,h5,t1,t2⟩:=Qa (step:=Zd5 yD) (λs=>0<=s.1/\s.1<=32/\s.2.1.length=32/\s.2.2.2=o4.2.2/\∀(j:Nat),(j:Int) < s.1->s.2.1[j]? =some (Go.Sha.ZF6 v2 j)) (λs=>(32 - s.1).toNat)
  (λx=>x.1.length=32/\∀(j:Nat),j < 32->x.1[j]? =some (Go.Sha.ZF6 v2 j)) (by
  rintro⟨i,a,b,c⟩ ⟨h0,h32,ha,hc,hv⟩;dsimp only at h0 h32 ha hc hv;subst hc;unfold Zd5;dsimp only;by_cases hi:i < 32
  ·left;rw[yW (yY hi)];have e1:Int.tdiv i 4=i / 4:=Int.tdiv_eq_ediv_of_nonneg h0;have e2:Int.tmod i 4=i % 4:=Int.tmod_eq_emod_of_nonneg h0;rw[e1,e2,Yj (z:=i / 4) (by omega) (by omega),Yj (z:=8*(i % 4)) (by omega) (by omega),Yj (z:=24 - 8*(i % 4)) (by omega) (by omega),Yj (z:=i+1) (by omega) (by omega)];obtain⟨x1,hx1⟩:=ZdI (l:=o4.2.2) (i:=(i / 4).toNat) (by omega);obtain⟨x2,hx2⟩:=ZdI (l:=a) (i:=i.toNat) (by omega);rw[yW (Xr (by omega) (by omega)),hx1,ya,yW (yY (by omega))]
   try dsimp only
   rw[yW (Xr (by omega) (by omega)),hx2,ya];refine⟨_,rfl,⟨by dsimp only;omega,by dsimp only;omega,by dsimp only;rw[yan];exact ha,rfl, ?_⟩,by dsimp only;omega⟩;intro j hj;dsimp only at hj ⊢;by_cases hji:j=i.toNat
   ·subst hji;rw[ycw (by omega)];congr 1;unfold Go.Sha.ZF6
    have hx:v2.getD (i.toNat / 4) 0=x1.toNat:=by
     rw[<-s3,ydf,yal,show i.toNat / 4=(i / 4).toNat by omega,hx1];rfl
    rw[hx,show min (24 - 8*(i % 4)).toNat 32=24 - 8*(i.toNat % 4) by omega,Zvd];unfold w8;have e3:∀m:Nat,(((m:Nat):Int) % 256).toNat=m % 256:=λm=>by omega
    rw[e3,show yak x1.toNat (24 - 8*(i.toNat % 4))=x1.toNat >>> (24 - 8*(i.toNat % 4)) from rfl,ydg]
    exact UInt8.toNat_inj.1 (by simp)
   ·rw[ycy (Ne.symm hji)];exact hv j (by omega)
  ·right;rw[yX (by simpa using hi)];exact⟨_,rfl,ha,λj hj=>hv j (by omega)⟩) ((0:Int),o4.1,o4.2.1,o4.2.2) ⟨Int.le_refl _,by dsimp only;omega,by dsimp only;rw[s1];exact hzl,rfl,λj hj=>by dsimp only at hj;omega⟩ (by dsimp only;omega)
 rw[h5,ya,ZAN];congr 1
 have hpad:Zgz l=(l.take (64*(l.length / 64))).map yam++E.map yam:=by
  unfold Zgz;rw[<-hE, <-ht];simp only[yau,List.map_replicate,yah,List.map_nil,Ze9,List.map_map];rw[<-yx, <-yx, <-yx, <-yau,ybl]
  have:be8 (8*l.length)=(be8 (8*l.length)).map (yam ∘ yav):=by
   simp[be8]
  rw[<-this];simp
 have hw:((l.take (64*(l.length / 64))).map yam).length=64*(l.length / 64):=by
  rw[yaa,yv];omega
 have hv:v2=Zgy ((l.length+72) / 64) (Zgz l) ZdL:=by
  rw[hpad,show(l.length+72) / 64=l.length / 64+E.length / 64 by omega,ZsH _ _ _ _ _ hw, <-hv2, <-hv1];congr 1;have:=ZsH (l.length / 64) 0 _ ((l.drop (64*(l.length / 64))).map yam) ZdL hw;rw[<-yau,ybl,ycf] at this;exact this
 rw[<-hv];apply ybk;intro j;by_cases hj:j < 32
 ·rw[t2 j hj,yal,List.getElem?_range hj];rfl
 ·rw[ybi (by omega),ybi (by simp;omega)]
noncomputable def Zf6(F:Nat)(a0:yL yB):yO (yL yB):=if decide (a0.length<=4294967296)=true then some (sha a0) else Zgw F a0
noncomputable def Zld(F:Nat):Fs yc:={ ZjF F with M:=λx=>Zf6 F x}
noncomputable def Znj:Fs yc:=Zld yD
theorem Zle:Znj.Ok:=Zng (s:=ZjF yD) ZwP λx=>by
 show Zf6 yD x=Zgw yD x;unfold Zf6;split
 ·rename_i h;exact(ZJW (yF h)).symm
 ·rfl
theorem ZCh{l:yL yB}(h:l.length<=4294967296):Zf6 yD l=some (sha l):=yW (yY h)
end Go.Proofs.YtghfiijgklnflaaGreat
end
section
set_option maxRecDepth 4000
namespace Go.Proofs.YtghfiijgklnflaaGreat
open Go Go.Ev
noncomputable section
def ZiC:Fs yc:=⟨103,[.nil .u8,.v yI],[],[yI],Zal.xs,λx=>Zal.M (x,([]:yL yB))⟩
theorem Zoo:ZiC.Ok:=ZJC (i1:=[yI]) (i2:=[yI,(.sl .u8)]) (λx=>(x,([]:yL yB))) Ze8 (λ_=>rfl) (λ_=>⟨_,rfl⟩)
def ZaV(F:Nat)(s:((yL (yL yB))×Int×Int×(yL yB)×(yL yB))):yO (((yL (yL yB))×Int×Int×(yL yB)×(yL yB))⊕((yL yB)×(yL yB))):=
 if(decide (s.2.2.1 < s.2.1))=true then
  (idx s.1 s.2.2.1).bind λe80=>
  (VW F (e80.length:Int) s.2.2.2.2).bind λo81=>
  if(apB o81.length e80.length 1)=true then
   some (.inl (s.1,s.2.1,wi (s.2.2.1+1),s.2.2.2.1,o81++e80))
  else
  none
 else
 some (.inr (s.2.2.2.1,s.2.2.2.2))
def Zqc:Lp:=⟨[(4,.ref 0 []),(5,.own 1 .u8),(13,.v (.sl (.sl .u8))),(14,.v yI),(15,.v yI)],zS,[(.sl (.sl .u8)),yI,yI,(.arr 32 .u8),(.sl .u8)],[⟨.exit 0,[(4,.ref 0 []),(5,.own 1 .u8)],zS,[(.arr 32 .u8),(.sl .u8)]⟩],Zf (ZaV yD) yD⟩
def hi2:HI:={ own:=[5,10,12,19,22,24],still:=[9,19,21,26]}
theorem ZsJ:Zqc.okA yc 61 0:=Zy hi2 [] [Zal] ⟨Ze8,ytt⟩
def QP(F:Nat)(a0:ByteArray)(a1:(yL (yL yB))):yO ((yL yB)):=
 (VW F (a0.size:Int) []).bind λo79=>
 if(apB o79.length ((Zju a0).length) 1)=true then
  (Zf (ZaV F) F (a1,(a1.length:Int),0,yzz,o79++(Zju a0))).bind λo82=>
  (Zf6 F o82.2).bind λo83=>
  some o83
 else
 none
def Zlf(F:Nat):Fs yc:=⟨61,[.v .str,.v (.sl (.sl .u8))],[],[.str,(.sl (.sl .u8))],(zZ (.arr 32 .u8)),λx=>QP F x.1 x.2⟩
def Zam:Fs yc:=Zlf yD
theorem Qi:Zam.Ok:=fnO hi2 [(0,Zqc)] [ZiC,Znj] ⟨Zoo,Zle,ytt⟩ ⟨ZsJ,ytt⟩
def ZF9:ByteArray:=⟨#[112,114,111,118,101]⟩
def ZaW(F:Nat)(a0:(yL yB))(a1:Ze):yO ((yL yB)):=
 (QP F ZF9 [a0,a1.2]).bind λo84=>
 some o84
def ZgA(F:Nat):Fs yc:=⟨16,[.v (.arr 32 .u8),.v Zd],[],[(.arr 32 .u8),Zd],(zZ (.arr 32 .u8)),λx=>ZaW F x.1 x.2⟩
def Zh0:Fs yc:=ZgA yD
theorem ZgB:Zh0.Ok:=fnO { still:=[8],frz:=[5]} [] [Zam] ⟨Qi,ytt⟩
def ZfN:Fs yc:=⟨64,[.rw 0,.v yI,.v yI],[.row Zd true 36],[yI,yI,(.sl (.st [])),(.sl Zd)],[⟨.ret,[(0,.rw 0)],[.row Zd true 36],[(.sl (.st [])),(.sl Zd)]⟩],λx=>ZAG (t:=Zd) x.1 x.2.1 x.2.2.1 x.2.2.2⟩
def ZmL(F:Nat):Fs yc:=ZfN
theorem Zh1:ZfN.Ok:=ZJL (z:=.agg [.arr 16 1 (yac 16 (.int .u8 0)),.sl none 1 []]) (λi N xs=>by kernel_rfl)
def ZaX(F:Nat)(a0:(yL yB)):yO ((yL yB)):=
 if(apB 0 a0.length 1)=true then
  some a0
 else
 none
def ZgC(F:Nat):Fs yc:=⟨74,[.sl true .u8],[],[(.sl .u8)],(zZ (.sl .u8)),λx=>ZaX F x⟩
def ZtV:Fs yc:=ZgC yD
theorem Zlg:ZtV.Ok:=fnO { own:=[5,7],still:=[2]} [] [] trivial
def Zkh(F:Nat):yO ((yL yB)):=
 some []
def Zco(F:Nat):Fs yc:=⟨74,[.nil .u8],[],[],(zZ (.sl .u8)),λx=>Zkh F⟩
def Zpp:Fs yc:=Zco yD
theorem ZhK:Zpp.Ok:=fnO { own:=[5,7],still:=[2]} [] [] trivial
def ZdM(F:Nat):Fs yc:=⟨74,[.v (.sl .u8)],[],[(.sl .u8)],(zZ (.sl .u8)),λx=>ZaX F x⟩
def Zfa:Fs yc:=ZdM yD
theorem ZdN:Zfa.Ok:=ZwI (t:=.u8) (xs:=(zZ (.sl .u8))) (MA:=λ(x:(yL yB))=>ZaX yD x) (MB:=λ_=>Zkh yD) Zlg ZhK rfl
abbrev ZgD:Ty:=(.st [.u64,.u64])
abbrev Sig:Type:=(yU×yU)
abbrev Sig.R(x:Sig):yU:=x.1
def Zqd(F:Nat)(s:((yL Sig)×(yL Sig)×Int×Int)):yO (((yL Sig)×(yL Sig)×Int×Int)⊕(Bool⊕Unit)):=
 if(decide (s.2.2.2 < s.2.2.1))=true then
  (idx s.1 s.2.2.2).bind λe85=>
  (idx s.2.1 s.2.2.2).bind λe86=>
  if(!(decide (e85=e86)))=true then
   some (.inr (.inl false))
  else
  some (.inl (s.1,s.2.1,s.2.2.1,wi (s.2.2.2+1)))
 else
 some (.inr (.inr ()))
def ZsK:Lp:=⟨[(0,.v (.sl ZgD)),(1,.v (.sl ZgD)),(12,.v yI),(13,.v yI)],[],[(.sl ZgD),(.sl ZgD),yI,yI],[⟨.ret,[(4,.v .bool)],[],[.bool]⟩,⟨.exit 0,[],[],[]⟩],Zf (Zqd yD) yD⟩
theorem ZtW:ZsK.okA yc 88 0:=Zy { still:=[4]} [] [] trivial
def ZyP(F:Nat)(a0:(yL Sig))(a1:(yL Sig)):yO (Bool):=
 if((a0.length:Int)!=(a1.length:Int))=true then
  some false
 else
 (Zf (Zqd F) F (a0,a1,(a0.length:Int),0)).bind λo87=>
 match o87 with
 |.inl o88=>
  some o88
 |.inr o89=>
  some true
def Zve:Fs yc:=⟨88,[.v (.sl ZgD),.v (.sl ZgD)],[],[(.sl ZgD),(.sl ZgD)],(zZ .bool),λx=>ZyP yD x.1 x.2⟩
theorem ZAO:Zve.Ok:=fnO { still:=[4]} [(0,ZsK)] [] trivial ⟨ZtW,ytt⟩
abbrev XG:Ty:=(.st [(.arr 32 .u8),yI])
abbrev Xs:Type:=((yL yB)×Int)
abbrev Xs.N(x:Xs):Int:=x.2
abbrev Z6:Ty:=(.st [yI,(.sl ZgD),.u64])
abbrev XA:Type:=(Int×(yL Sig)×yU)
abbrev yIn:Ty:=(.st [XG,Z6])
abbrev In:Type:=(Xs×XA)
def ZsL(F:Nat)(a0:In)(a1:In):yO (Bool):=
 if(decide (a0.1=a1.1))=true then
  if(a0.2.1==a1.2.1)=true then
   if(a0.2.2.2==a1.2.2.2)=true then
    (ZyP F a0.2.2.1 a1.2.2.1).bind λo90=>
    some o90
   else
   some false
  else
  some false
 else
 some false
def Zqe:Fs yc:=⟨87,[.v yIn,.v yIn],[],[yIn,yIn],(zZ .bool),λx=>ZsL yD x.1 x.2⟩
theorem ZwU:Zqe.Ok:=fnO { still:=[4,31,34]} [] [Zve] ⟨ZAO,ytt⟩
def ZmM(F:Nat)(s:((yL yU)×(yL yU)×Int×Int)):yO (((yL yU)×(yL yU)×Int×Int)⊕(Bool⊕Unit)):=
 if(decide (s.2.2.2 < s.2.2.1))=true then
  (idx s.1 s.2.2.2).bind λe91=>
  (idx s.2.1 s.2.2.2).bind λe92=>
  if(e91 !=e92)=true then
   some (.inr (.inl false))
  else
  some (.inl (s.1,s.2.1,s.2.2.1,wi (s.2.2.2+1)))
 else
 some (.inr (.inr ()))
def Zop:Lp:=⟨[(0,.v (.sl .u64)),(1,.v (.sl .u64)),(12,.v yI),(13,.v yI)],[],[(.sl .u64),(.sl .u64),yI,yI],[⟨.ret,[(4,.v .bool)],[],[.bool]⟩,⟨.exit 0,[],[],[]⟩],Zf (ZmM yD) yD⟩
theorem ZqO:Zop.okA yc 90 0:=Zy { still:=[4]} [] [] trivial
def ZsM(F:Nat)(a0:(yL yU))(a1:(yL yU)):yO (Bool):=
 if((a0.length:Int)!=(a1.length:Int))=true then
  some false
 else
 (Zf (ZmM F) F (a0,a1,(a0.length:Int),0)).bind λo93=>
 match o93 with
 |.inl o94=>
  some o94
 |.inr o95=>
  some true
def Zqf:Fs yc:=⟨90,[.v (.sl .u64),.v (.sl .u64)],[],[(.sl .u64),(.sl .u64)],(zZ .bool),λx=>ZsM yD x.1 x.2⟩
theorem ZwV:Zqf.Ok:=fnO { still:=[4]} [(0,Zop)] [] trivial ⟨ZqO,ytt⟩
abbrev Zr:Ty:=(.st [(.sl .u64),yI,yI,.u64])
abbrev ZH:Type:=((yL yU)×Int×Int×yU)
def ZsN(F:Nat)(a0:ZH)(a1:ZH):yO (Bool):=
 if(a0.2.1==a1.2.1)=true then
  if(a0.2.2.1==a1.2.2.1)=true then
   if(a0.2.2.2==a1.2.2.2)=true then
    (ZsM F a0.1 a1.1).bind λo96=>
    some o96
   else
   some false
  else
  some false
 else
 some false
def Zqg:Fs yc:=⟨89,[.v Zr,.v Zr],[],[Zr,Zr],(zZ .bool),λx=>ZsN yD x.1 x.2⟩
theorem ZwW:Zqg.Ok:=fnO { still:=[4,26,28]} [] [Zqf] ⟨ZwV,ytt⟩
abbrev ZE:Ty:=(.st [(.sl Zr)])
abbrev Z8:Type:=(yL ZH)
abbrev Wr:Ty:=(.st [yI,ZE])
abbrev Out:Type:=(Int×Z8)
abbrev yTx:Ty:=(.st [(.sl yIn),(.sl Wr),yI])
abbrev Tx:Type:=((yL In)×(yL Out)×Int)
def ZsO(F:Nat)(s:((yL In)×(yL In)×Int×Int)):yO (((yL In)×(yL In)×Int×Int)⊕(Bool⊕Unit)):=
 if(decide (s.2.2.2 < s.2.2.1))=true then
  (idx s.2.1 s.2.2.2).bind λe97=>
  (idx s.1 s.2.2.2).bind λe98=>
  (ZsL F e97 e98).bind λo99=>
  if(!o99)=true then
   some (.inr (.inl false))
  else
  some (.inl (s.1,s.2.1,s.2.2.1,wi (s.2.2.2+1)))
 else
 some (.inr (.inr ()))
def Zvf:Lp:=⟨[(1,.v (.sl yIn)),(2,.fn 87 []),(15,.v (.sl yIn)),(16,.v yI),(17,.v yI)],[],[(.sl yIn),(.sl yIn),yI,yI],[⟨.ret,[(6,.v .bool)],[],[.bool]⟩,⟨.exit 0,[],[],[]⟩],Zf (ZsO yD) yD⟩
theorem ZwX:Zvf.okA yc 93 0:=Zy { still:=[6,27,28]} [] [Zqe] ⟨ZwU,ytt⟩
def ZCi(F:Nat)(a0:(yL In))(a1:(yL In)):yO (Bool):=
 if((a0.length:Int)!=(a1.length:Int))=true then
  some false
 else
 (Zf (ZsO F) F (a1,a0,(a0.length:Int),0)).bind λo100=>
 match o100 with
 |.inl o101=>
  some o101
 |.inr o102=>
  some true
def ZyQ:Fs yc:=⟨93,[.v (.sl yIn),.v (.sl yIn),.fn 87 []],[],[(.sl yIn),(.sl yIn)],(zZ .bool),λx=>ZCi yD x.1 x.2⟩
theorem ZDF:ZyQ.Ok:=fnO { still:=[6,27,28]} [(0,Zvf)] [] trivial ⟨ZwX,ytt⟩
def Zlh(F:Nat)(s:((yL ZH)×(yL ZH)×Int×Int)):yO (((yL ZH)×(yL ZH)×Int×Int)⊕(Bool⊕Unit)):=
 if(decide (s.2.2.2 < s.2.2.1))=true then
  (idx s.2.1 s.2.2.2).bind λe106=>
  (idx s.1 s.2.2.2).bind λe107=>
  (ZsN F e106 e107).bind λo108=>
  if(!o108)=true then
   some (.inr (.inl false))
  else
  some (.inl (s.1,s.2.1,s.2.2.1,wi (s.2.2.2+1)))
 else
 some (.inr (.inr ()))
def ZmN:Lp:=⟨[(1,.v (.sl Zr)),(2,.fn 89 []),(15,.v (.sl Zr)),(16,.v yI),(17,.v yI)],[],[(.sl Zr),(.sl Zr),yI,yI],[⟨.ret,[(6,.v .bool)],[],[.bool]⟩,⟨.exit 0,[],[],[]⟩],Zf (Zlh yD) yD⟩
theorem Zpq:ZmN.okA yc 92 0:=Zy { still:=[6,27,28]} [] [Zqg] ⟨ZwW,ytt⟩
def Zqh(F:Nat)(a0:(yL ZH))(a1:(yL ZH)):yO (Bool):=
 if((a0.length:Int)!=(a1.length:Int))=true then
  some false
 else
 (Zf (Zlh F) F (a1,a0,(a0.length:Int),0)).bind λo109=>
 match o109 with
 |.inl o110=>
  some o110
 |.inr o111=>
  some true
def Zoq:Fs yc:=⟨92,[.v (.sl Zr),.v (.sl Zr),.fn 89 []],[],[(.sl Zr),(.sl Zr)],(zZ .bool),λx=>Zqh yD x.1 x.2⟩
theorem ZtX:Zoq.Ok:=fnO { still:=[6,27,28]} [(0,ZmN)] [] trivial ⟨Zpq,ytt⟩
def ZsP(F:Nat)(a0:Out)(a1:Out):yO (Bool):=
 if(a0.1==a1.1)=true then
  (Zqh F a0.2 a1.2).bind λo112=>
  some o112
 else
 some false
def Zqi:Fs yc:=⟨91,[.v Wr,.v Wr,.ref 0 []],[.var (.fn 89 []) true],[Wr,Wr],[⟨.ret,[(0,.v .bool)],[.var (.fn 89 []) true],[.bool]⟩],λx=>ZsP yD x.1 x.2⟩
theorem ZwY:Zqi.Ok:=fnO { still:=[5,14,17,18]} [] [Zoq] ⟨ZtX,ytt⟩
def Zqj(F:Nat)(s:((yL Out)×(yL Out)×Int×Int)):yO (((yL Out)×(yL Out)×Int×Int)⊕(Bool⊕Unit)):=
 if(decide (s.2.2.2 < s.2.2.1))=true then
  (idx s.2.1 s.2.2.2).bind λe104=>
  (idx s.1 s.2.2.2).bind λe105=>
  (ZsP F e104 e105).bind λo113=>
  if(!o113)=true then
   some (.inr (.inl false))
  else
  some (.inl (s.1,s.2.1,s.2.2.1,wi (s.2.2.2+1)))
 else
 some (.inr (.inr ()))
def ZsQ:Lp:=⟨[(1,.v (.sl Wr)),(2,.fn 91 [.ref 0 []]),(15,.v (.sl Wr)),(16,.v yI),(17,.v yI)],[.var (.fn 89 []) true],[(.sl Wr),(.sl Wr),yI,yI],[⟨.ret,[(6,.v .bool)],[.var (.fn 89 []) true],[.bool]⟩,⟨.exit 0,[],[.var (.fn 89 []) true],[]⟩],Zf (Zqj yD) yD⟩
theorem ZtY:ZsQ.okA yc 94 0:=Zy { still:=[6,27,28]} [] [Zqi] ⟨ZwY,ytt⟩
def ZyR(F:Nat)(a0:(yL Out))(a1:(yL Out)):yO (Bool):=
 if((a0.length:Int)!=(a1.length:Int))=true then
  some false
 else
 (Zf (Zqj F) F (a1,a0,(a0.length:Int),0)).bind λo114=>
 match o114 with
 |.inl o115=>
  some o115
 |.inr o116=>
  some true
def Zvg:Fs yc:=⟨94,[.v (.sl Wr),.v (.sl Wr),.fn 91 [.ref 0 []]],[.var (.fn 89 []) true],[(.sl Wr),(.sl Wr)],[⟨.ret,[(0,.v .bool)],[.var (.fn 89 []) true],[.bool]⟩],λx=>ZyR yD x.1 x.2⟩
theorem ZAP:Zvg.Ok:=fnO { still:=[6,27,28]} [(0,ZsQ)] [] trivial ⟨ZtY,ytt⟩
def ZGa(F:Nat)(a0:Tx)(a1:Tx):yO (Bool):=
 if(a0.2.2==a1.2.2)=true then
  (ZCi F a0.1 a1.1).bind λo103=>
  if o103=true then
   (ZyR F a0.2.1 a1.2.1).bind λo117=>
   some o117
  else
  some false
 else
 some false
def Znk(F:Nat):Fs yc:=⟨37,[.v yTx,.v yTx],[],[yTx,yTx],(zZ .bool),λx=>ZGa F x.1 x.2⟩
def ZDG:Fs yc:=Znk yD
def hi3:HI:={ still:=[4,16,18,19,24,26,27]}
theorem ZAQ:ZDG.Ok:=fnO hi3 [] [ZyQ,Zvg] ⟨ZDF,ZAP,ytt⟩
def Zcp(F:Nat)(a0:(yL yU)):yO ((yL yU)):=
 if(apB 0 a0.length 8)=true then
  some a0
 else
 none
def ZqP:Fs yc:=⟨174,[.sl true .u64],[],[(.sl .u64)],(zZ (.sl .u64)),λx=>Zcp yD x⟩
theorem Zpr:ZqP.Ok:=fnO { own:=[5,7],still:=[2]} [] [] trivial
def ZhL(F:Nat):yO ((yL yU)):=
 some []
def Znl:Fs yc:=⟨174,[.nil .u64],[],[],(zZ (.sl .u64)),λx=>ZhL yD⟩
theorem Zmq:Znl.Ok:=fnO { own:=[5,7],still:=[2]} [] [] trivial
def ZhM:Fs yc:=⟨174,[.v (.sl .u64)],[],[(.sl .u64)],(zZ (.sl .u64)),λx=>Zcp yD x⟩
theorem Znm:ZhM.Ok:=ZwI (t:=.u64) (xs:=(zZ (.sl .u64))) (MA:=λ(x:(yL yU))=>Zcp yD x) (MB:=λ_=>ZhL yD) Zpr Zmq rfl
def Zvh(F:Nat)(a0:(yL yU)):yO (Z8):=
 (Zcp F a0).bind λo118=>
 some [(o118,0,0,0)]
def ZsR:Fs yc:=⟨132,[.v (.sl .u64)],[],[(.sl .u64)],(zZ ZE),λx=>Zvh yD x⟩
theorem ZyS:ZsR.Ok:=fnO { still:=[3]} [] [ZhM] ⟨Znm,ytt⟩
def Zvi(F:Nat)(a0:yU):yO (Z8):=
 (Zvh F [a0]).bind λo119=>
 some o119
def ZsS:Fs yc:=⟨76,[.v .u64],[],[.u64],(zZ ZE),λx=>Zvi yD x⟩
theorem ZyT:ZsS.Ok:=fnO { still:=[4]} [] [ZsR] ⟨ZyS,ytt⟩
def ZfO(F:Nat)(a0:yU)(a1:yU):yO ((yU×yU)):=
 let y120:yU:=ZI ((a0&&&4294967295)*(a1&&&4294967295)) 32;let y121:yU:=(((ZI a0 32)*(a1&&&4294967295))+y120)&&&4294967295;let y122:yU:=ZI (((ZI a0 32)*(a1&&&4294967295))+y120) 32;let y123:yU:=ZI (y121+((a0&&&4294967295)*(ZI a1 32))) 32
 some ((((ZI a0 32)*(ZI a1 32))+y122)+y123,a0*a1)
def ZgE(F:Nat):Fs yc:=⟨203,[.v .u64,.v .u64],[],[.u64,.u64],[⟨.ret,[(0,.tup [.v .u64,.v .u64])],[],[.u64,.u64]⟩],λx=>ZfO F x.1 x.2⟩
def ZtZ:Fs yc:=ZgE yD
theorem ZsT:ZtZ.Ok:=fnO { still:=[4,5]} [] [] trivial
end
end Go.Proofs.YtghfiijgklnflaaGreat
end
section
namespace Go.Ev
theorem Zrc(a m:yU):(a - a / m*m).toNat=a.toNat % m.toNat:=by
 have h1:a.toNat / m.toNat*m.toNat<=a.toNat:=Nat.div_mul_le_self _ _;have h2:=ybu a
 have h3:(a / m*m).toNat=a.toNat / m.toNat*m.toNat:=by
  rw[UInt64.toNat_mul,UInt64.toNat_div,yap (by omega)]
 have h4:(a / m*m)<=a:=by rw[ycu,h3];exact h1
 rw[UInt64.toNat_sub_of_le _ _ h4,h3];have:=Nat.div_add_mod a.toNat m.toNat
 rw[ybt] at this;omega
theorem Zli(x:yU):(x&&&4294967295).toNat=x.toNat % 4294967296:=by
 rw[UInt64.toNat_and];exact Nat.and_two_pow_sub_one_eq_mod x.toNat 32
theorem Zbs(x:yU)(n:Nat):(ZI x n).toNat=x.toNat / 2 ^ n:=by
 unfold ZI;rw[yax,yap (ydb (Nat.div_le_self ..) (ybu _))]
theorem Zmg{x y:yU}(h:x.toNat+y.toNat < 18446744073709551616):(x+y).toNat=x.toNat+y.toNat:=by
 rw[UInt64.toNat_add,yap h]
theorem Zmh{x y:yU}(h:x.toNat*y.toNat < 18446744073709551616):(x*y).toNat=x.toNat*y.toNat:=by
 rw[UInt64.toNat_mul,yap h]
theorem Zlj{a b:Nat}(ha:a < 4294967296)(hb:b < 4294967296):a*b<=18446744065119617025:=Nat.mul_le_mul (Nat.le_of_lt_succ ha) (Nat.le_of_lt_succ hb)
end Go.Ev
end
section
set_option maxRecDepth 4000
namespace Go.Proofs.YtghfiijgklnflaaGreat
open Go Go.Ev
theorem ZGb(x y:yU):∃h l,ZfO yD x y=some (h,l)/\h.toNat*18446744073709551616+l.toNat=x.toNat*y.toNat:=by
 unfold ZfO;refine⟨_,_,rfl, ?_⟩;have hx:=ybu x;have hy:=ybu y;have x0l:x.toNat % 4294967296 < 4294967296:=Nat.mod_lt _ (by decide);have y0l:y.toNat % 4294967296 < 4294967296:=Nat.mod_lt _ (by decide);have x1l:x.toNat / 4294967296 < 4294967296:=by omega
 have y1l:y.toNat / 4294967296 < 4294967296:=by omega
 have xe:x.toNat=x.toNat / 4294967296*4294967296+x.toNat % 4294967296:=by omega
 have ye:y.toNat=y.toNat / 4294967296*4294967296+y.toNat % 4294967296:=by omega
 generalize hX1:x.toNat / 4294967296=x1 at*;generalize hX0:x.toNat % 4294967296=x0 at*;generalize hY1:y.toNat / 4294967296=y1 at*;generalize hY0:y.toNat % 4294967296=y0 at*;have p00:=Zlj x0l y0l;have p10:=Zlj x1l y0l;have p01:=Zlj x0l y1l;have p11:=Zlj x1l y1l
 have prod:x.toNat*y.toNat=x1*y1*18446744073709551616+(x1*y0+x0*y1)*4294967296+x0*y0:=by
  rw[xe,ye,Nat.add_mul,Nat.mul_add,Nat.mul_add]
  have e1:x1*4294967296*(y1*4294967296)=x1*y1*18446744073709551616:=by
   rw[Nat.mul_assoc,Nat.mul_left_comm 4294967296 y1, <-Nat.mul_assoc]
  have e2:x1*4294967296*y0=x1*y0*4294967296:=by rw[Nat.mul_right_comm]
  have e3:x0*(y1*4294967296)=x0*y1*4294967296:=by rw[Nat.mul_assoc]
  rw[e1,e2,e3];omega
 have q00:((x&&&4294967295)*(y&&&4294967295)).toNat=x0*y0:=by
  rw[Zmh (by rw[Zli,Zli,hX0,hY0];omega),Zli,Zli,hX0,hY0]
 have q10:((ZI x 32)*(y&&&4294967295)).toNat=x1*y0:=by
  rw[Zmh (by rw[Zbs,Zli,show(2:Nat) ^ 32=4294967296 from rfl,hX1,hY0];omega),Zbs,Zli,show(2:Nat) ^ 32=4294967296 from rfl,hX1,hY0]
 have q01:((x&&&4294967295)*(ZI y 32)).toNat=x0*y1:=by
  rw[Zmh (by rw[Zbs,Zli,show(2:Nat) ^ 32=4294967296 from rfl,hX0,hY1];omega),Zbs,Zli,show(2:Nat) ^ 32=4294967296 from rfl,hX0,hY1]
 have q11:((ZI x 32)*(ZI y 32)).toNat=x1*y1:=by
  rw[Zmh (by rw[Zbs,Zbs,show(2:Nat) ^ 32=4294967296 from rfl,hX1,hY1];omega),Zbs,Zbs,show(2:Nat) ^ 32=4294967296 from rfl,hX1,hY1]
 generalize hA:((x&&&4294967295)*(y&&&4294967295):yU)=A at*;generalize hB:((ZI x 32)*(y&&&4294967295):yU)=B at*;generalize hC:((x&&&4294967295)*(ZI y 32):yU)=C at*;generalize hD:((ZI x 32)*(ZI y 32):yU)=D at*;have s1:(ZI A 32).toNat=x0*y0 / 4294967296:=by rw[Zbs,q00]
 have s2:(B+ZI A 32).toNat=x1*y0+x0*y0 / 4294967296:=by rw[Zmg (by rw[q10,s1];omega),q10,s1]
 have s3:((B+ZI A 32)&&&4294967295).toNat=(x1*y0+x0*y0 / 4294967296) % 4294967296:=by rw[Zli,s2]
 have s4:(ZI (B+ZI A 32) 32).toNat=(x1*y0+x0*y0 / 4294967296) / 4294967296:=by rw[Zbs,s2]
 have s5:(((B+ZI A 32)&&&4294967295)+C).toNat=(x1*y0+x0*y0 / 4294967296) % 4294967296+x0*y1:=by rw[Zmg (by rw[s3,q01];omega),s3,q01]
 have s6:(ZI (((B+ZI A 32)&&&4294967295)+C) 32).toNat=((x1*y0+x0*y0 / 4294967296) % 4294967296+x0*y1) / 4294967296:=by rw[Zbs,s5]
 have s7:(D+ZI (B+ZI A 32) 32).toNat=x1*y1+(x1*y0+x0*y0 / 4294967296) / 4294967296:=by rw[Zmg (by rw[q11,s4];omega),q11,s4]
 have s8:(x*y).toNat=x.toNat*y.toNat % 18446744073709551616:=UInt64.toNat_mul ..
 have s9:((D+ZI (B+ZI A 32) 32)+ZI (((B+ZI A 32)&&&4294967295)+C) 32).toNat=x1*y1+(x1*y0+x0*y0 / 4294967296) / 4294967296+((x1*y0+x0*y0 / 4294967296) % 4294967296+x0*y1) / 4294967296:=by
  rw[Zmg (by rw[s7,s6];omega),s7,s6]
 rw[s9,s8,prod];generalize x0*y0=a at*;generalize x1*y0=b at*;generalize x0*y1=c at*;generalize x1*y1=d at*;omega
theorem ZGc(x y:yU):ZfO yD x y=some (yai (x.toNat*y.toNat / 18446744073709551616),yai (x.toNat*y.toNat % 18446744073709551616)):=by
 obtain⟨h,l,e,k⟩:=ZGb x y;have hl:=ybu l;rw[e, <-k,show(h.toNat*18446744073709551616+l.toNat) / 18446744073709551616=h.toNat by omega,show(h.toNat*18446744073709551616+l.toNat) % 18446744073709551616=l.toNat by omega,UInt64.ofNat_toNat,UInt64.ofNat_toNat]
noncomputable def Zlk(F:Nat)(a0:yU)(a1:yU):yO (yU×yU):=some (yai (a0.toNat*a1.toNat / 18446744073709551616),yai (a0.toNat*a1.toNat % 18446744073709551616))
noncomputable def Zt0(F:Nat):Fs yc:={ ZgE F with M:=λx=>Zlk F x.1 x.2}
noncomputable def Zor:Fs yc:=Zt0 yD
theorem Zt1:Zor.Ok:=Zng (s:=ZgE yD) ZsT λx=>(ZGc x.1 x.2).symm
end Go.Proofs.YtghfiijgklnflaaGreat
end
section
set_option maxRecDepth 4000
namespace Go.Proofs.YtghfiijgklnflaaGreat
open Go Go.Ev
noncomputable section
def Zqk:ByteArray:=⟨#[0,1,2,2,3,3,3,3,4,4,4,4,4,4,4,4,5,5,5,5,5,5,5,5,5,5,5,5,5,5,5,5,6,6,6,6,6,6,6,6,6,6,6,6,6,6,6,6,6,6,6,6,6,6,6,6,6,6,6,6,6,6,6,6,7,7,7,7,7,7,7,7,7,7,7,7,7,7,7,7,7,7,7,7,7,7,7,7,7,7,7,7,7,7,7,7,7,7,7,7,7,7,7,7,7,7,7,7,7,7,7,7,7,7,7,7,7,7,7,7,7,7,7,7,7,7,7,7,8,8,8,8,8,8,8,8,8,8,8,8,8,8,8,8,8,8,8,8,8,8,8,8,8,8,8,8,8,8,8,8,8,8,8,8,8,8,8,8,8,8,8,8,8,8,8,8,8,8,8,8,8,8,8,8,8,8,8,8,8,8,8,8,8,8,8,8,8,8,8,8,8,8,8,8,8,8,8,8,8,8,8,8,8,8,8,8,8,8,8,8,8,8,8,8,8,8,8,8,8,8,8,8,8,8,8,8,8,8,8,8,8,8,8,8,8,8,8,8,8,8,8,8,8,8,8,8]⟩
def Zql(F:Nat)(a0:yU):yO (Int):=
 if(decide (a0 >= 4294967296))=true then
  if(decide ((ZI a0 32) >= 65536))=true then
   if(decide ((ZI (ZI a0 32) 16) >= 256))=true then
    let y124:yB:=w8 ((ZI (ZI (ZI a0 32) 16) 8).toNat:Int)
    (idx (Zju Zqk) (y124.toNat:Int)).bind λe125=>
    some (wi (56+(e125.toNat:Int)))
   else
   (idx (Zju Zqk) ((w8 ((ZI (ZI a0 32) 16).toNat:Int)).toNat:Int)).bind λe126=>
   some (wi (48+(e126.toNat:Int)))
  else
  if(decide ((ZI a0 32) >= 256))=true then
   (idx (Zju Zqk) ((w8 ((ZI (ZI a0 32) 8).toNat:Int)).toNat:Int)).bind λe127=>
   some (wi (40+(e127.toNat:Int)))
  else
  (idx (Zju Zqk) ((w8 ((ZI a0 32).toNat:Int)).toNat:Int)).bind λe128=>
  some (wi (32+(e128.toNat:Int)))
 else
 if(decide (a0 >= 65536))=true then
  if(decide ((ZI a0 16) >= 256))=true then
   (idx (Zju Zqk) ((w8 ((ZI (ZI a0 16) 8).toNat:Int)).toNat:Int)).bind λe129=>
   some (wi (24+(e129.toNat:Int)))
  else
  (idx (Zju Zqk) ((w8 ((ZI a0 16).toNat:Int)).toNat:Int)).bind λe130=>
  some (wi (16+(e130.toNat:Int)))
 else
 if(decide (a0 >= 256))=true then
  (idx (Zju Zqk) ((w8 ((ZI a0 8).toNat:Int)).toNat:Int)).bind λe131=>
  some (wi (8+(e131.toNat:Int)))
 else
 (idx (Zju Zqk) ((w8 (a0.toNat:Int)).toNat:Int)).bind λe132=>
 some (wi (0+(e132.toNat:Int)))
def Zos:Fs yc:=⟨208,[.v .u64],[],[.u64],(zZ yI),λx=>Zql yD x⟩
theorem Zt2:Zos.Ok:=fnO { still:=[2]} [] [] trivial
def YY(F:Nat)(a0:yU):yO (Int):=
 (Zql F a0).bind λo133=>
 some (wi (64 - o133))
def Zc2:Fs yc:=⟨207,[.v .u64],[],[.u64],(zZ yI),λx=>YY yD x⟩
theorem ZjH:Zc2.Ok:=fnO { still:=[2,3]} [] [Zos] ⟨Zt2,ytt⟩
abbrev qU:=yU×yU×yU×yU×yU×yU×yU×yU
def Zan(F:Nat)(s:(yU×qU)):yO ((yU×qU)⊕(qU)):=
 if(decide (s.2.2.2.2.2.2.2.1 >= 4294967296))=true then
  let y141:Bool:=decide ((s.2.2.2.2.2.2.2.2+s.2.2.1) >= 4294967296)
  if y141=true then
   some (.inr (s.1,s.2.1,s.2.2.1,s.2.2.2.1,s.2.2.2.2.1,s.2.2.2.2.2.1,s.2.2.2.2.2.2.1,s.2.2.2.2.2.2.2.1 - 1))
  else
  some (.inl (s.1,s.2.1,s.2.2.1,s.2.2.2.1,s.2.2.2.2.1,s.2.2.2.2.2.1,s.2.2.2.2.2.2.1,s.2.2.2.2.2.2.2.1 - 1,s.2.2.2.2.2.2.2.2+s.2.2.1))
 else
 let y142:Bool:=decide ((s.2.2.2.2.2.2.2.1*s.2.2.2.1) > ((4294967296*s.2.2.2.2.2.2.2.2)+s.2.2.2.2.2.1))
 if y142=true then
  let y143:Bool:=decide ((s.2.2.2.2.2.2.2.2+s.2.2.1) >= 4294967296)
  if y143=true then
   some (.inr (s.1,s.2.1,s.2.2.1,s.2.2.2.1,s.2.2.2.2.1,s.2.2.2.2.2.1,s.2.2.2.2.2.2.1,s.2.2.2.2.2.2.2.1 - 1))
  else
  some (.inl (s.1,s.2.1,s.2.2.1,s.2.2.2.1,s.2.2.2.2.1,s.2.2.2.2.2.1,s.2.2.2.2.2.2.1,s.2.2.2.2.2.2.2.1 - 1,s.2.2.2.2.2.2.2.2+s.2.2.1))
 else
 some (.inr (s.1,s.2.1,s.2.2.1,s.2.2.2.1,s.2.2.2.2.1,s.2.2.2.2.2.1,s.2.2.2.2.2.2.1,s.2.2.2.2.2.2.2.1))
def ZmO:Lp:=⟨[(2,.v .u64),(8,.v .u64),(9,.v .u64),(10,.v .u64),(11,.v .u64),(13,.v .u64),(14,.v .u64),(15,.v .u64),(16,.v .u64)],[],[.u64,.u64,.u64,.u64,.u64,.u64,.u64,.u64,.u64],[⟨.exit 0,[(2,.v .u64),(8,.v .u64),(9,.v .u64),(10,.v .u64),(11,.v .u64),(13,.v .u64),(14,.v .u64),(15,.v .u64)],[],[.u64,.u64,.u64,.u64,.u64,.u64,.u64,.u64]⟩],Zf (Zan yD) yD⟩
theorem Zps:ZmO.okA yc 206 0:=Zy { still:=[6,7,34]} [] [] trivial
def Zao(F:Nat)(s:(yU×qU)):yO ((yU×qU)⊕(yU×yU×yU×yU×yU×yU)):=
 if(decide (s.2.2.2.2.2.2.2.2 >= 4294967296))=true then
  let y146:Bool:=decide ((s.2.2.2.2.2.2.1+s.2.2.1) >= 4294967296)
  if y146=true then
   some (.inr (s.1,s.2.1,s.2.2.2.2.1,s.2.2.2.2.2.1,s.2.2.2.2.2.2.2.1,s.2.2.2.2.2.2.2.2 - 1))
  else
  some (.inl (s.1,s.2.1,s.2.2.1,s.2.2.2.1,s.2.2.2.2.1,s.2.2.2.2.2.1,s.2.2.2.2.2.2.1+s.2.2.1,s.2.2.2.2.2.2.2.1,s.2.2.2.2.2.2.2.2 - 1))
 else
 let y147:Bool:=decide ((s.2.2.2.2.2.2.2.2*s.2.2.2.1) > ((4294967296*s.2.2.2.2.2.2.1)+s.2.2.2.2.1))
 if y147=true then
  let y148:Bool:=decide ((s.2.2.2.2.2.2.1+s.2.2.1) >= 4294967296)
  if y148=true then
   some (.inr (s.1,s.2.1,s.2.2.2.2.1,s.2.2.2.2.2.1,s.2.2.2.2.2.2.2.1,s.2.2.2.2.2.2.2.2 - 1))
  else
  some (.inl (s.1,s.2.1,s.2.2.1,s.2.2.2.1,s.2.2.2.2.1,s.2.2.2.2.2.1,s.2.2.2.2.2.2.1+s.2.2.1,s.2.2.2.2.2.2.2.1,s.2.2.2.2.2.2.2.2 - 1))
 else
 some (.inr (s.1,s.2.1,s.2.2.2.2.1,s.2.2.2.2.2.1,s.2.2.2.2.2.2.2.1,s.2.2.2.2.2.2.2.2))
def ZmP:Lp:=⟨[(2,.v .u64),(8,.v .u64),(9,.v .u64),(10,.v .u64),(14,.v .u64),(15,.v .u64),(16,.v .u64),(17,.v .u64),(18,.v .u64)],[],[.u64,.u64,.u64,.u64,.u64,.u64,.u64,.u64,.u64],[⟨.exit 2,[(2,.v .u64),(8,.v .u64),(14,.v .u64),(15,.v .u64),(17,.v .u64),(18,.v .u64)],[],[.u64,.u64,.u64,.u64,.u64,.u64]⟩],Zf (Zao yD) yD⟩
theorem Zpt:ZmP.okA yc 206 1:=Zy { still:=[6,7,34]} [] [] trivial
def ZhN(F:Nat)(a0:yU)(a1:yU)(a2:yU):yO ((yU×yU)):=
 if(a2==0)=true then
  none
 else
 if(decide (a2<=a0))=true then
  none
 else
 if(a0==0)=true then
  if(a2 !=0)=true then
   if(a2 !=0)=true then
    some (a1 / a2,a1 % a2)
   else
   none
  else
  none
 else
 (YY F a2).bind λo134=>
 let y135:yU:=ZI (Zag a2 (min ((w64 o134).toNat:Int).toNat 64)) 32;let y136:yU:=(Zag a2 (min ((w64 o134).toNat:Int).toNat 64))&&&4294967295;let y137:yU:=ZI a1 (min ((64 - (w64 o134)).toNat:Int).toNat 64);let y138:yU:=(Zag a0 (min ((w64 o134).toNat:Int).toNat 64))|||y137;let y139:yU:=ZI (Zag a1 (min ((w64 o134).toNat:Int).toNat 64)) 32;let y140:yU:=(Zag a1 (min ((w64 o134).toNat:Int).toNat 64))&&&4294967295
 if(y135 !=0)=true then
  (Zf (Zan F) F (Zag a2 (min ((w64 o134).toNat:Int).toNat 64),w64 o134,y135,y136,y138,y139,y140,y138 / y135,y138 - ((y138 / y135)*y135))).bind λo144=>
  let y145:yU:=((o144.2.2.2.2.1*4294967296)+o144.2.2.2.2.2.1) - (o144.2.2.2.2.2.2.2*o144.1)
  if(o144.2.2.1 !=0)=true then
   (Zf (Zao F) F (o144.1,o144.2.1,o144.2.2.1,o144.2.2.2.1,o144.2.2.2.2.2.2.1,o144.2.2.2.2.2.2.2,y145 - ((y145 / o144.2.2.1)*o144.2.2.1),y145,y145 / o144.2.2.1)).bind λo149=>
   let y150:yU:=((o149.2.2.2.2.1*4294967296)+o149.2.2.1) - (o149.2.2.2.2.2*o149.1)
   some ((o149.2.2.2.1*4294967296)+o149.2.2.2.2.2,ZI y150 (min (o149.2.1.toNat:Int).toNat 64))
  else
  none
 else
 none
def Zot:Fs yc:=⟨206,[.v .u64,.v .u64,.v .u64],[],[.u64,.u64,.u64],[⟨.ret,[(0,.tup [.v .u64,.v .u64])],[],[.u64,.u64]⟩],λx=>ZhN yD x.1 x.2.1 x.2.2⟩
theorem Zt3:Zot.Ok:=fnO { still:=[6,7,34]} [(0,ZmO),(1,ZmP)] [Zc2] ⟨ZjH,ytt⟩ ⟨Zps,Zpt,ytt⟩
def Zcq(F:Nat)(a0:yU)(a1:yU)(a2:yU):yO (yU):=
 if(a2 !=0)=true then
  (ZhN F (a0 % a2) a1 a2).bind λo151=>
  some o151.2
 else
 none
def ZgF(F:Nat):Fs yc:=⟨204,[.v .u64,.v .u64,.v .u64],[],[.u64,.u64,.u64],(zZ .u64),λx=>Zcq F x.1 x.2.1 x.2.2⟩
def Zt4:Fs yc:=ZgF yD
theorem ZsU:Zt4.Ok:=fnO { still:=[6,12,13,14]} [] [Zot] ⟨Zt3,ytt⟩
end
end Go.Proofs.YtghfiijgklnflaaGreat
end
section
set_option maxRecDepth 4000
namespace Go.Proofs.YtghfiijgklnflaaGreat
open Go Go.Ev
section
variable{y1 y0 u d q r:Nat}
theorem ZK2(h:q*y1+r=u)(hc:4294967296*r+d < q*y0):u*4294967296+d < q*(y1*4294967296+y0):=by
 have e:q*(y1*4294967296+y0)=q*y1*4294967296+q*y0:=by rw[Nat.mul_add,Nat.mul_assoc]
 rw[e];omega
theorem ZGd(h:q*y1+r=u)(hc:q*y0<=4294967296*r+d):q*(y1*4294967296+y0)<=u*4294967296+d:=by
 have e:q*(y1*4294967296+y0)=q*y1*4294967296+q*y0:=by rw[Nat.mul_add,Nat.mul_assoc]
 rw[e];omega
theorem ZJX(hu:u < y1*4294967296+y0)(hd:d < 4294967296):(u*4294967296+d) / (y1*4294967296+y0) < 4294967296:=by
 rw[Nat.div_lt_iff_lt_mul (by omega)];omega
theorem ZCj(h:q*y1+r=u)(hq:1<=q):(q - 1)*y1+(r+y1)=u:=by
 have e:q*y1=(q - 1)*y1+y1:=by
  rw[<-Nat.succ_mul];congr 1;omega
 omega
theorem ZGe(hu:u < y1*4294967296+y0)(h0:y0 < 4294967296)(h:q*y1+r=u)(hr:4294967296<=r):q*y0<=4294967296*r+d:=by
 by_cases hq:q < 4294967296
 ·have:q*y0<=4294967295*4294967295:=Nat.mul_le_mul (by omega) (by omega);omega
 ·have:4294967296*y1<=q*y1:=Nat.mul_le_mul_right _ (by omega);omega
end
theorem ZAR{q T Y:Nat}(hY:0 < Y)(h1:T / Y<=q)(h2:q*Y<=T):q=T / Y:=Nat.le_antisymm ((Nat.le_div_iff_mul_le hY).2 h2) h1
theorem ZyU{y1 y0 u d:Nat}{Q R Y0 Y1 D:yU}(hY1:Y1.toNat=y1)(hY0:Y0.toNat=y0)(hD:D.toNat=d)(h1:y1 < 4294967296)(h0:y0 < 4294967296)(hd:d < 4294967296)(hu:u < y1*4294967296+y0)
 (e:Q.toNat*y1+R.toNat=u) (hr:R.toNat < 4294967296) (hge:(u*4294967296+d) / (y1*4294967296+y0)<=Q.toNat):
 ((Q >= 4294967296\/(Q*Y0 > (4294967296*R)+D))/\(u*4294967296+d) / (y1*4294967296+y0)<=(Q - 1).toNat/\(Q - 1).toNat*y1+(R+Y1).toNat=u/\(R+Y1).toNat=R.toNat+y1)\/
 (¬Q >= 4294967296/\¬(Q*Y0 > (4294967296*R)+D)/\Q.toNat=(u*4294967296+d) / (y1*4294967296+y0)):=by
 have hadd:(R+Y1).toNat=R.toNat+y1:=by rw[Zmg (by omega),hY1]
 have hrd:((4294967296*R)+D).toNat=4294967296*R.toNat+d:=by
  have m:(4294967296*R:yU).toNat=4294967296*R.toNat:=by
   rw[Zmh (by show 4294967296*R.toNat < _;omega)];rfl
  rw[Zmg (by rw[m];omega),m,hD]
 have dec:1<=Q.toNat->(Q - 1).toNat=Q.toNat - 1:=λh=>by
  rw[UInt64.toNat_sub_of_le _ _ (by rw[ycu];exact h)];rfl
 by_cases c1:Q >= 4294967296
 ·left
  have hq:4294967296<=Q.toNat:=by
   rw[ge_iff_le,ycu] at c1;exact c1
  have:=ZJX hu hd;refine⟨.inl c1,by rw[dec (by omega)];omega, ?_,hadd⟩;rw[dec (by omega),hadd];exact ZCj e (by omega)
 have hq:Q.toNat < 4294967296:=by
  rw[ge_iff_le,ycu] at c1;exact Nat.lt_of_not_le c1
 have hmul:(Q*Y0).toNat=Q.toNat*y0:=by
  have:=Zlj hq h0;rw[Zmh (by rw[hY0];omega),hY0]
 by_cases c2:Q*Y0 > (4294967296*R)+D
 ·left
  have c3:4294967296*R.toNat+d < Q.toNat*y0:=by
   have:=yca.1 c2;rw[hmul,hrd] at this;exact this
  have q1:1<=Q.toNat:=by
   rcases yco Q.toNat with h|h
   ·rw[h,Nat.zero_mul] at c3;omega
   ·exact h
  have hg:=ZK2 (d:=d) e c3;have hlt:(u*4294967296+d) / (y1*4294967296+y0) < Q.toNat:=(Nat.div_lt_iff_lt_mul (by omega)).2 hg;refine⟨.inr c2,by rw[dec q1];omega, ?_,hadd⟩;rw[dec q1,hadd];exact ZCj e q1
 ·right
  have c3:Q.toNat*y0<=4294967296*R.toNat+d:=by
   have:¬(((4294967296*R)+D).toNat < (Q*Y0).toNat):=λh=>c2 (yca.2 h);rw[hmul,hrd] at this;omega
  exact⟨c1,c2,ZAR (by omega) hge (ZGd e c3)⟩
theorem ZK3{y1 y0 u d:Nat}{Yv N Y1 Y0 U D E Q R:yU}(hY1:Y1.toNat=y1)(hY0:Y0.toNat=y0)(hD:D.toNat=d)(h1:y1 < 4294967296)(h3:0 < y1)(h0:y0 < 4294967296)(hd:d < 4294967296)(hu:u < y1*4294967296+y0)
 (e:Q.toNat*y1+R.toNat=u) (hr:R.toNat < 4294967296) (hge:(u*4294967296+d) / (y1*4294967296+y0)<=Q.toNat):
 ∃q:yU,Zf (Zan yD) yD (Yv,N,Y1,Y0,U,D,E,Q,R)=some (Yv,N,Y1,Y0,U,D,E,q)/\q.toNat=(u*4294967296+d) / (y1*4294967296+y0):=by
 obtain⟨x,hx,q,rfl,hq⟩:=Qa (step:=Zan yD) (λs=>∃Q R:yU,s=(Yv,N,Y1,Y0,U,D,E,Q,R)/\Q.toNat*y1+R.toNat=u/\R.toNat < 4294967296/\(u*4294967296+d) / (y1*4294967296+y0)<=Q.toNat)
  (λs=>4294967296 - s.2.2.2.2.2.2.2.2.toNat) (λx=>∃q:yU,x=(Yv,N,Y1,Y0,U,D,E,q)/\q.toNat=(u*4294967296+d) / (y1*4294967296+y0)) (by
  rintro _ ⟨Q,R,rfl,e,hr,hge⟩;unfold Zan;dsimp only;rcases ZyU hY1 hY0 hD h1 h0 hd hu e hr hge with⟨c,k1,k2,k3⟩|⟨c1,c2,k⟩
  ·have key:(∃j,(if decide (R+Y1 >= 4294967296)=true then some (Sum.inr (Yv,N,Y1,Y0,U,D,E,Q - 1)) else some (Sum.inl (Yv,N,Y1,Y0,U,D,E,Q - 1,R+Y1)):yO ((yU×qU)⊕(qU)))=some (.inl j)/\
    (∃Q R:yU,j=(Yv,N,Y1,Y0,U,D,E,Q,R)/\Q.toNat*y1+R.toNat=u/\R.toNat < 4294967296/\(u*4294967296+d) / (y1*4294967296+y0)<=Q.toNat)/\4294967296 - j.2.2.2.2.2.2.2.2.toNat < 4294967296 - R.toNat)\/
    (∃x,(if decide (R+Y1 >= 4294967296)=true then some (Sum.inr (Yv,N,Y1,Y0,U,D,E,Q - 1)) else some (Sum.inl (Yv,N,Y1,Y0,U,D,E,Q - 1,R+Y1)):yO ((yU×qU)⊕(qU)))=some (.inr x)/\
    ∃q:yU,x=(Yv,N,Y1,Y0,U,D,E,q)/\q.toNat=(u*4294967296+d) / (y1*4294967296+y0)):=by
    by_cases hb:R+Y1 >= 4294967296
    ·right;rw[yW (yY hb)]
     have hb2:4294967296<=(R+Y1).toNat:=by
      rw[ge_iff_le,ycu] at hb;exact hb
     exact⟨_,rfl,_,rfl,ZAR (by omega) k1 (ZGd k2 (ZGe hu h0 k2 hb2))⟩
    ·left;rw[yX (by rw[yN];exact hb)]
     have hb2:(R+Y1).toNat < 4294967296:=by
      rw[ge_iff_le,ycu] at hb;exact Nat.lt_of_not_le hb
     exact⟨_,rfl,⟨_,_,rfl,k2,hb2,k1⟩,by dsimp only;omega⟩
   rcases c with c|c
   ·rw[yW (yY c)];exact key
   ·by_cases c1:Q >= 4294967296
    ·rw[yW (yY c1)];exact key
    ·rw[yX (by rw[yN];exact c1),yW (yY c)];exact key
  ·right;rw[yX (by rw[yN];exact c1),yX (by rw[yN];exact c2)];exact⟨_,rfl,_,rfl,k⟩) (Yv,N,Y1,Y0,U,D,E,Q,R) ⟨Q,R,rfl,e,hr,hge⟩ (by dsimp only;omega)
 exact⟨q,hx,hq⟩
theorem ZK4{y1 y0 u d:Nat}{Yv N Y1 Y0 U D E Q R:yU}(hY1:Y1.toNat=y1)(hY0:Y0.toNat=y0)(hD:D.toNat=d)(h1:y1 < 4294967296)(h3:0 < y1)(h0:y0 < 4294967296)(hd:d < 4294967296)(hu:u < y1*4294967296+y0)
 (e:Q.toNat*y1+R.toNat=u) (hr:R.toNat < 4294967296) (hge:(u*4294967296+d) / (y1*4294967296+y0)<=Q.toNat):
 ∃q:yU,Zf (Zao yD) yD (Yv,N,Y1,Y0,D,E,R,U,Q)=some (Yv,N,D,E,U,q)/\q.toNat=(u*4294967296+d) / (y1*4294967296+y0):=by
 obtain⟨x,hx,q,rfl,hq⟩:=Qa (step:=Zao yD) (λs=>∃Q R:yU,s=(Yv,N,Y1,Y0,D,E,R,U,Q)/\Q.toNat*y1+R.toNat=u/\R.toNat < 4294967296/\(u*4294967296+d) / (y1*4294967296+y0)<=Q.toNat)
  (λs=>4294967296 - s.2.2.2.2.2.2.1.toNat) (λx=>∃q:yU,x=(Yv,N,D,E,U,q)/\q.toNat=(u*4294967296+d) / (y1*4294967296+y0)) (by
  rintro _ ⟨Q,R,rfl,e,hr,hge⟩;unfold Zao;dsimp only;rcases ZyU hY1 hY0 hD h1 h0 hd hu e hr hge with⟨c,k1,k2,k3⟩|⟨c1,c2,k⟩
  ·have key:(∃j,(if decide (R+Y1 >= 4294967296)=true then some (Sum.inr (Yv,N,D,E,U,Q - 1)) else some (Sum.inl (Yv,N,Y1,Y0,D,E,R+Y1,U,Q - 1)):yO ((yU×qU)⊕(yU×yU×yU×yU×yU×yU)))=some (.inl j)/\
    (∃Q R:yU,j=(Yv,N,Y1,Y0,D,E,R,U,Q)/\Q.toNat*y1+R.toNat=u/\R.toNat < 4294967296/\(u*4294967296+d) / (y1*4294967296+y0)<=Q.toNat)/\4294967296 - j.2.2.2.2.2.2.1.toNat < 4294967296 - R.toNat)\/
    (∃x,(if decide (R+Y1 >= 4294967296)=true then some (Sum.inr (Yv,N,D,E,U,Q - 1)) else some (Sum.inl (Yv,N,Y1,Y0,D,E,R+Y1,U,Q - 1)):yO ((yU×qU)⊕(yU×yU×yU×yU×yU×yU)))=some (.inr x)/\
    ∃q:yU,x=(Yv,N,D,E,U,q)/\q.toNat=(u*4294967296+d) / (y1*4294967296+y0)):=by
    by_cases hb:R+Y1 >= 4294967296
    ·right;rw[yW (yY hb)]
     have hb2:4294967296<=(R+Y1).toNat:=by
      rw[ge_iff_le,ycu] at hb;exact hb
     exact⟨_,rfl,_,rfl,ZAR (by omega) k1 (ZGd k2 (ZGe hu h0 k2 hb2))⟩
    ·left;rw[yX (by rw[yN];exact hb)]
     have hb2:(R+Y1).toNat < 4294967296:=by
      rw[ge_iff_le,ycu] at hb;exact Nat.lt_of_not_le hb
     exact⟨_,rfl,⟨_,_,rfl,k2,hb2,k1⟩,by dsimp only;omega⟩
   rcases c with c|c
   ·rw[yW (yY c)];exact key
   ·by_cases c1:Q >= 4294967296
    ·rw[yW (yY c1)];exact key
    ·rw[yX (by rw[yN];exact c1),yW (yY c)];exact key
  ·right;rw[yX (by rw[yN];exact c1),yX (by rw[yN];exact c2)];exact⟨_,rfl,_,rfl,k⟩) (Yv,N,Y1,Y0,D,E,R,U,Q) ⟨Q,R,rfl,e,hr,hge⟩ (by dsimp only;omega)
 exact⟨q,hx,hq⟩
theorem ZCk{A B:yU}{a b:Nat}(hA:A.toNat=a % 18446744073709551616)(hB:B.toNat=b % 18446744073709551616)(h:b<=a)(hd:a - b < 18446744073709551616):(A - B).toNat=a - b:=by
 rw[UInt64.toNat_sub,hA,hB];omega
theorem Zqm(u y1:Nat):u / y1*y1+u % y1=u:=by
 have:=Nat.div_add_mod u y1;rw[ybt] at this;exact this
theorem ZGf{u y1 y0 d:Nat}(h1:0 < y1)(hd:d < 4294967296):(u*4294967296+d) / (y1*4294967296+y0)<=u / y1:=by
 have h:(u*4294967296+d) / (y1*4294967296+y0)<=(u*4294967296+d) / (y1*4294967296):=Nat.div_le_div_left (by omega) (by omega)
 have e:(u*4294967296+d) / (y1*4294967296)=u / y1:=by
  rw[ybt y1, <-Nat.div_div_eq_div_mul];congr 1;omega
 omega
theorem ZGg{a b y:yU}{s:Nat}{Y:yU}(hy:y≠0)(hs:YY yD y=some (s:Int))(s0:0 < s)(s1:s < 64)(hY:Zag y s=Y)(hYn:Y.toNat=y.toNat*2 ^ s)(hY63:9223372036854775808<=Y.toNat)(ha:a.toNat < y.toNat):
 ∃q r,ZhN yD a b y=some (q,r)/\r.toNat=(a.toNat*18446744073709551616+b.toNat) % y.toNat:=by
 have ha2:¬(y<=a):=by
  rw[ycu];omega
 unfold ZhN;rw[yX (by rw[yT];exact hy),yX (by rw[yN];exact ha2)];by_cases h0:a=0
 ·subst h0;rw[yW (by decide),yW (by rw[yE];exact hy),yW (by rw[yE];exact hy)];refine⟨_,_,rfl, ?_⟩;rw[UInt64.toNat_mod];simp
 rw[yX (by rw[yT];exact h0),hs,ya];dsimp only
 have w:w64 (s:Int)=yai s:=by
  unfold w64;congr 1;omega
 have ws:(w64 (s:Int)).toNat=s:=by rw[w,yax,yap (by omega)]
 have e1:min ((w64 (s:Int)).toNat:Int).toNat 64=s:=by rw[ws];omega
 have e2:(64 - w64 (s:Int)).toNat=64 - s:=by
  rw[UInt64.toNat_sub_of_le _ _ (by rw[ycu,ws];show s<=64;omega),ws];rfl
 have e3:min ((64 - w64 (s:Int)).toNat:Int).toNat 64=64 - s:=by rw[e2];omega
 rw[e1,e3,hY];have hYl:=ybu Y;have hb:=ybu b
 have p64:2 ^ (64 - s)*2 ^ s=18446744073709551616:=by
  rw[<-Nat.pow_add];have:64 - s+s=64:=by omega
  rw[this]
 have hp:0 < 2 ^ s:=Nat.pow_pos (by decide);obtain⟨y1,hy1⟩:∃y1,y1=Y.toNat / 4294967296:=⟨_,rfl⟩;obtain⟨y0,hy0⟩:∃y0,y0=Y.toNat % 4294967296:=⟨_,rfl⟩;have hYd:Y.toNat=y1*4294967296+y0:=by omega
 have ty1:(ZI Y 32).toNat=y1:=by rw[Zbs,hy1]
 have ty0:(Y&&&4294967295).toNat=y0:=by rw[Zli,hy0]
 have l1:y1 < 4294967296:=by omega
 have g1:2147483648<=y1:=by omega
 have l0:y0 < 4294967296:=by omega
 have hash:a.toNat*2 ^ s < Y.toNat:=by rw[hYn];exact Nat.mul_lt_mul_of_pos_right ha hp
 have bd:b.toNat / 2 ^ (64 - s) < 2 ^ s:=by
  rw[Nat.div_lt_iff_lt_mul (Nat.pow_pos (by decide)),ybt,p64];exact hb
 have tu:((Zag a s)|||(ZI b (64 - s))).toNat=a.toNat*2 ^ s+b.toNat / 2 ^ (64 - s):=by
  rw[UInt64.toNat_or,Zbs];unfold Zag;rw[yax,yap (by omega),ybt, <-ydc bd]
 have t10:(Zag b s).toNat=b.toNat*2 ^ s % 18446744073709551616:=by
  unfold Zag;rw[yax]
 obtain⟨u,hu⟩:∃u,u=a.toNat*2 ^ s+b.toNat / 2 ^ (64 - s):=⟨_,rfl⟩;obtain⟨v,hv⟩:∃v,v=b.toNat*2 ^ s % 18446744073709551616:=⟨_,rfl⟩;rw[<-hu] at tu;rw[<-hv] at t10
 have hbs:b.toNat*2 ^ s=b.toNat / 2 ^ (64 - s)*18446744073709551616+v:=by
  have h1:=Nat.div_add_mod (b.toNat*2 ^ s) 18446744073709551616
  have h2:b.toNat*2 ^ s / 18446744073709551616=b.toNat / 2 ^ (64 - s):=by
   rw[<-p64];exact Nat.mul_div_mul_right _ _ hp
  rw[h2, <-hv] at h1;omega
 have hN:(a.toNat*18446744073709551616+b.toNat)*2 ^ s=u*18446744073709551616+v:=by
  rw[Nat.add_mul,hbs,hu,Nat.mul_right_comm];omega
 have uY:u < y1*4294967296+y0:=by
  rw[<-hYd,hu,hYn];have h1:(a.toNat+1)*2 ^ s<=y.toNat*2 ^ s:=Nat.mul_le_mul_right _ ha;rw[Nat.add_mul,Nat.one_mul] at h1;omega
 have hvl:v < 18446744073709551616:=by rw[hv];exact Nat.mod_lt _ (by decide)
 obtain⟨d1,hd1⟩:∃d1,d1=v / 4294967296:=⟨_,rfl⟩;obtain⟨d0,hd0⟩:∃d0,d0=v % 4294967296:=⟨_,rfl⟩;have td1:(ZI (Zag b s) 32).toNat=d1:=by rw[Zbs,t10,hd1]
 have td0:((Zag b s)&&&4294967295).toNat=d0:=by rw[Zli,t10,hd0]
 generalize ((Zag a s)|||(ZI b (64 - s)):yU)=U at tu ⊢;generalize (ZI (Zag b s) 32:yU)=D1 at td1 ⊢;generalize ((Zag b s)&&&4294967295:yU)=D0 at td0 ⊢;generalize (ZI Y 32:yU)=Y1 at ty1 ⊢;generalize (Y&&&4294967295:yU)=Y0 at ty0 ⊢
 have y1ne:(Y1 !=0)=true:=by
  rw[yE];intro h;rw[h] at ty1;have:(0:yU).toNat=0:=rfl;omega
 rw[yW y1ne]
 have f1:(U / Y1).toNat*y1+(U - U / Y1*Y1).toNat=u:=by
  rw[Zrc,UInt64.toNat_div,tu,ty1];exact Zqm u y1
 have f2:(U - U / Y1*Y1).toNat < 4294967296:=by
  rw[Zrc,tu,ty1];exact Nat.lt_trans (Nat.mod_lt _ (by omega)) l1
 have f3:(u*4294967296+d1) / (y1*4294967296+y0)<=(U / Y1).toNat:=by
  rw[UInt64.toNat_div,tu,ty1];exact ZGf (by omega) (by omega)
 obtain⟨q1,k1,k2⟩:=ZK3 (Yv:=Y) (N:=w64 (s:Int)) (U:=U) (E:=D0) ty1 ty0 td1 l1 (by omega) l0 (by omega) uY f1 f2 f3;rw[k1,ya];dsimp only;rw[yW y1ne];have m1:=Nat.div_add_mod (u*4294967296+d1) Y.toNat
 have m2:(u*4294967296+d1) % Y.toNat < Y.toNat:=Nat.mod_lt _ (by omega);rw[<-hYd] at k2
 have tv:(((U*4294967296)+D1) - (q1*Y)).toNat=(u*4294967296+d1) % Y.toNat:=by
  rw[ZCk (a:=u*4294967296+d1) (b:=q1.toNat*Y.toNat) ?_ ?_ ?_ ?_]
  ·rw[k2,ybt ((u*4294967296+d1) / Y.toNat)];omega
  ·rw[UInt64.toNat_add,UInt64.toNat_mul,tu,td1,show(4294967296:yU).toNat=4294967296 from rfl]
   omega
  ·rw[UInt64.toNat_mul]
  ·rw[k2,ybt ((u*4294967296+d1) / Y.toNat)];omega
  ·rw[k2,ybt ((u*4294967296+d1) / Y.toNat)];omega
 obtain⟨u2,hu2⟩:∃u2,u2=(u*4294967296+d1) % Y.toNat:=⟨_,rfl⟩;rw[<-hu2] at tv m2 m1;generalize (((U*4294967296)+D1) - (q1*Y):yU)=V at tv ⊢
 have f4:(V / Y1).toNat*y1+(V - V / Y1*Y1).toNat=u2:=by
  rw[Zrc,UInt64.toNat_div,tv,ty1];exact Zqm u2 y1
 have f5:(V - V / Y1*Y1).toNat < 4294967296:=by
  rw[Zrc,tv,ty1];exact Nat.lt_trans (Nat.mod_lt _ (by omega)) l1
 have f6:(u2*4294967296+d0) / (y1*4294967296+y0)<=(V / Y1).toNat:=by
  rw[UInt64.toNat_div,tv,ty1];exact ZGf (by omega) (by omega)
 obtain⟨q0,k3,k4⟩:=ZK4 (Yv:=Y) (N:=w64 (s:Int)) (U:=V) (E:=q1) ty1 ty0 td0 l1 (by omega) l0 (by omega) (by rw[<-hYd];exact m2) f4 f5 f6;rw[k3,ya];refine⟨_,_,rfl, ?_⟩;dsimp only;rw[e1,Zbs];rw[<-hYd] at k4;have m3:=Nat.div_add_mod (u2*4294967296+d0) Y.toNat
 have m4:(u2*4294967296+d0) % Y.toNat < Y.toNat:=Nat.mod_lt _ (by omega)
 have tr:(((V*4294967296)+D0) - (q0*Y)).toNat=(u2*4294967296+d0) % Y.toNat:=by
  rw[ZCk (a:=u2*4294967296+d0) (b:=q0.toNat*Y.toNat) ?_ ?_ ?_ ?_]
  ·rw[k4,ybt ((u2*4294967296+d0) / Y.toNat)];omega
  ·rw[UInt64.toNat_add,UInt64.toNat_mul,tv,td0,show(4294967296:yU).toNat=4294967296 from rfl]
   omega
  ·rw[UInt64.toNat_mul]
  ·rw[k4,ybt ((u2*4294967296+d0) / Y.toNat)];omega
  ·rw[k4,ybt ((u2*4294967296+d0) / Y.toNat)];omega
 rw[tr]
 have hNm:((a.toNat*18446744073709551616+b.toNat)*2 ^ s) % Y.toNat=(u2*4294967296+d0) % Y.toNat:=by
  have e:(a.toNat*18446744073709551616+b.toNat)*2 ^ s=u2*4294967296+d0+Y.toNat*((u*4294967296+d1) / Y.toNat*4294967296):=by
   rw[hN, <-Nat.mul_assoc];omega
  rw[e,Nat.add_mul_mod_self_left]
 rw[<-hNm,hYn,Nat.mul_mod_mul_right,Nat.mul_div_cancel _ hp]
theorem ZwZ{y Y:yU}{s:Nat}(a b:yU)(hy:y≠0)(hs:YY yD y=some (s:Int))(s0:0 < s)(s1:s < 64)(hY:Zag y s=Y)(hYn:Y.toNat=y.toNat*2 ^ s)(hY63:9223372036854775808<=Y.toNat):
 Zcq yD a b y=some (yai ((a.toNat*18446744073709551616+b.toNat) % y.toNat)):=by
 have hp:0 < y.toNat:=by
  rcases yco y.toNat with h|h
  ·exact absurd (yct.1 h) hy
  ·exact h
 obtain⟨q,r,h1,h2⟩:=ZGg (a:=a % y) (b:=b) hy hs s0 s1 hY hYn hY63 (by rw[UInt64.toNat_mod];exact Nat.mod_lt _ hp);unfold Zcq;rw[yW (by rw[yE];exact hy),h1,ya];dsimp only;rw[UInt64.toNat_mod,Nat.add_mod,Nat.mod_mul_mod, <-Nat.add_mod] at h2;rw[<-h2,UInt64.ofNat_toNat]
theorem ZJY:YY yD 4611686018427377339=some ((2:Nat):Int):=by kernel_rfl
theorem ZJZ:YY yD 2305843009213688669=some ((3:Nat):Int):=by kernel_rfl
theorem ZJ0:YY yD 2305843009213688668=some ((3:Nat):Int):=by kernel_rfl
noncomputable def Zen(F:Nat)(a0:yU)(a1:yU)(a2:yU):yO yU:=
 if(a2==4611686018427377339 || (a2==2305843009213688669 || a2==2305843009213688668))=true then some (yai ((a0.toNat*18446744073709551616+a1.toNat) % a2.toNat)) else Zcq F a0 a1 a2
theorem ZGh(a b y:yU):Zcq yD a b y=Zen yD a b y:=by
 unfold Zen;split
 ·rename_i h;simp only[Bool.or_eq_true,yT] at h;rcases h with rfl|rfl|rfl
  ·exact ZwZ (Y:=18446744073709509356) (s:=2) a b (by decide) ZJY (by decide) (by decide) (by kernel_rfl) (by decide) (by decide)
  ·exact ZwZ (Y:=18446744073709509352) (s:=3) a b (by decide) ZJZ (by decide) (by decide) (by kernel_rfl) (by decide) (by decide)
  ·exact ZwZ (Y:=18446744073709509344) (s:=3) a b (by decide) ZJ0 (by decide) (by decide) (by kernel_rfl) (by decide) (by decide)
 ·rfl
noncomputable def Zt5(F:Nat):Fs yc:={ ZgF F with M:=λx=>Zen F x.1 x.2.1 x.2.2}
noncomputable def Zou:Fs yc:=Zt5 yD
theorem Zt6:Zou.Ok:=Zng (s:=ZgF yD) ZsU λx=>(ZGh x.1 x.2.1 x.2.2).symm
end Go.Proofs.YtghfiijgklnflaaGreat
end
section
set_option maxRecDepth 4000
namespace Go.Proofs.YtghfiijgklnflaaGreat
open Go Go.Ev
noncomputable section
def XB(F:Nat)(a0:yU)(a1:yU):yO (yU):=
 (Zlk F a0 a1).bind λo152=>
 (Zen F o152.1 o152.2 4611686018427377339).bind λo153=>
 some o153
def ZmQ:Fs yc:=⟨198,[.v .u64,.v .u64],[],[.u64,.u64],(zZ .u64),λx=>XB yD x.1 x.2⟩
theorem ZsV:ZmQ.Ok:=fnO { still:=[4,8,9,13,14]} [] [Zor,Zou] ⟨Zt1,Zt6,ytt⟩
def Qb(F:Nat)(s:(yU×yU×yU)):yO ((yU×yU×yU)⊕yU):=
 if(decide (s.2.1 > 0))=true then
  if((s.2.1&&&1)==1)=true then
   (XB F s.2.2 s.1).bind λo154=>
   (XB F s.1 s.1).bind λo155=>
   some (.inl (o155,ZI s.2.1 1,o154))
  else
  (XB F s.1 s.1).bind λo156=>
  some (.inl (o156,ZI s.2.1 1,s.2.2))
 else
 some (.inr s.2.2)
def Zki:Lp:=⟨[(0,.v .u64),(1,.v .u64),(5,.v .u64)],[],[.u64,.u64,.u64],[⟨.exit 0,[(5,.v .u64)],[],[.u64]⟩],Zf (Qb yD) yD⟩
theorem Znn:Zki.okA yc 190 0:=Zy { still:=[4,13,14,16,17]} [] [ZmQ] ⟨ZsV,ytt⟩
def Zh2(F:Nat)(a0:yU)(a1:yU):yO (yU):=
 (Zf (Qb F) F (a0,a1,1)).bind λo157=>
 some o157
def Zfb(F:Nat):Fs yc:=⟨190,[.v .u64,.v .u64],[],[.u64,.u64],(zZ .u64),λx=>Zh2 F x.1 x.2⟩
def ZsW:Fs yc:=Zfb yD
theorem ZqQ:ZsW.Ok:=fnO { still:=[4,13,14,16,17]} [(0,Zki)] [] trivial ⟨Znn,ytt⟩
end
end Go.Proofs.YtghfiijgklnflaaGreat
end
section
namespace Go.Ev
def pwm(m:Nat):Nat->Nat->Nat->Nat->Nat
 |0,_,_,o=>o
 |f+1,a,n,o=>if n=0 then o else pwm m f (a*a % m) (n / 2) (if n % 2=1 then o*a % m else o)
theorem ZCl{m:Nat}:∀(k a n o:Nat),n < 2 ^ k->pwm m k a n o % m=o*a ^ n % m
 |0,a,n,o,h=>by
  have:n=0:=by rw[Nat.pow_zero] at h;omega
  subst this
  rw[pwm,Nat.pow_zero,Nat.mul_one]
 |k+1,a,n,o,h=>by
  rw[pwm];by_cases h0:n=0
  ·rw[yW h0,h0,Nat.pow_zero,Nat.mul_one]
  rw[yX h0,ZCl k _ _ _ (by rw[Nat.pow_succ] at h;omega)]
  have e:a ^ n=(a*a) ^ (n / 2)*a ^ (n % 2):=by
   rw[<-Nat.pow_two, <-Nat.pow_mul, <-Nat.pow_add];congr 1;omega
  have e2:(a*a % m) ^ (n / 2) % m=(a*a) ^ (n / 2) % m:=(Nat.pow_mod ..).symm;rw[e];split
  ·rename_i h1;rw[h1,Nat.pow_one,Nat.mul_mod,e2, <-Nat.mul_mod,Nat.mul_mod,Nat.mod_mod, <-Nat.mul_mod];congr 1;rw[Nat.mul_assoc,ybt a]
  ·rename_i h1;have:n % 2=0:=by omega
   rw[this,Nat.pow_zero,Nat.mul_one,Nat.mul_mod,e2, <-Nat.mul_mod]
def ord:Nat:=2305843009213688669
def mdl:Nat:=4611686018427377339
def Zkt(a:Nat):Prop:=0 < a/\a < mdl/\a ^ ord % mdl=1
end Go.Ev
end
section
set_option maxRecDepth 4000
namespace Go.Proofs.YtghfiijgklnflaaGreat
open Go Go.Ev
theorem ZGi{z:Nat}:(yai (z % 4611686018427377339)).toNat=z % 4611686018427377339:=by
 rw[yax,yap];exact Nat.lt_trans (Nat.mod_lt _ (by decide)) (by decide)
theorem ZGj(a b:yU):XB yD a b=some (yai (a.toNat*b.toNat % 4611686018427377339)):=by
 unfold XB Zlk;rw[ya];dsimp only;unfold Zen;rw[yW (by decide),ya,yax,yax];have h:a.toNat*b.toNat < 18446744073709551616*18446744073709551616:=Nat.mul_lt_mul'' (ybu a) (ybu b);have h2:a.toNat*b.toNat / 18446744073709551616 < 18446744073709551616:=(Nat.div_lt_iff_lt_mul (by decide)).2 h;generalize a.toNat*b.toNat=z at*;rw[show(4611686018427377339:yU).toNat=4611686018427377339 from rfl]
 have e:z / 18446744073709551616 % 2 ^ 64*18446744073709551616+z % 18446744073709551616 % 2 ^ 64=z:=by omega
 rw[e]
theorem ZsX:∀(k m:Nat)(A N O:yU),N.toNat < 2 ^ k->k < m->Zf (Qb yD) m (A,N,O)=some (yai (pwm 4611686018427377339 k A.toNat N.toNat O.toNat))
 |k,0,_,_,_,_,h=>by omega
 |0,m+1,A,N,O,h,_=>by
  have hn:¬N > 0:=by
   intro h2;have h3:0 < N.toNat:=yca.1 h2;rw[Nat.pow_zero] at h;omega
  have hs:Qb yD (A,N,O)=if decide (N > 0)=true then(if((N&&&1)==1)=true then(XB yD O A).bind λo1=>(XB yD A A).bind λo2=>some (.inl (o2,ZI N 1,o1)) else(XB yD A A).bind λo2=>some (.inl (o2,ZI N 1,O))) else some (.inr O):=rfl
  unfold Zf;rw[hs]
  rw[yX (by rw[yN];exact hn),ya,pwm,UInt64.ofNat_toNat]
 |k+1,m+1,A,N,O,h,hm=>by
  have hs:Qb yD (A,N,O)=if decide (N > 0)=true then(if((N&&&1)==1)=true then(XB yD O A).bind λo1=>(XB yD A A).bind λo2=>some (.inl (o2,ZI N 1,o1)) else(XB yD A A).bind λo2=>some (.inl (o2,ZI N 1,O))) else some (.inr O):=rfl
  unfold Zf;rw[hs];by_cases h2:N > 0
  ·have hp:0 < N.toNat->pwm 4611686018427377339 (k+1) A.toNat N.toNat O.toNat=pwm 4611686018427377339 k (A.toNat*A.toNat % 4611686018427377339) (N.toNat / 2) (if N.toNat % 2=1 then O.toNat*A.toNat % 4611686018427377339 else O.toNat):=λh=>by
    rw[pwm,yX (by omega)]
   have h3:0 < N.toNat:=yca.1 h2
   have hsh:(ZI N 1).toNat=N.toNat / 2:=by
    unfold ZI;rw[yax,yap (ydb (Nat.div_le_self ..) (ybu _))]
   have hlt:(ZI N 1).toNat < 2 ^ k:=by
    rw[hsh];rw[Nat.pow_succ] at h;omega
   have hand:((N&&&1)==1)=decide (N.toNat % 2=1):=by
    rw[ycq,yT,yN, <-yct,UInt64.toNat_and];exact Iff.of_eq (congrArg (· =1) (Nat.and_one_is_mod _))
   rw[yW (yY h2),hand,hp h3];simp only[ZGj];by_cases h4:N.toNat % 2=1
   ·rw[yW (yY h4),yW h4,ya,ya,ya];dsimp only;rw[ZsX k m _ _ _ hlt (by omega),ZGi,ZGi,hsh]
   ·rw[yX (by rw[yN];exact h4),yX h4,ya,ya];dsimp only;rw[ZsX k m _ _ _ hlt (by omega),ZGi,hsh]
  ·have h3:N.toNat=0:=by
    rcases yco N.toNat with h5|h5
    ·exact h5
    ·exact absurd (show(0:yU) < N from yca.2 h5) h2
   rw[yX (by rw[yN];exact h2),ya,pwm,yW h3,UInt64.ofNat_toNat]
theorem ZGk(a n:yU):Zh2 yD a n=some (yai (pwm 4611686018427377339 64 a.toNat n.toNat 1)):=by
 unfold Zh2;rw[ZsX 64 yD a n 1 (ybu _) (by rw[ZfI];omega),ya];rfl
noncomputable def Zcr(F:Nat)(a0:yU)(a1:yU):yO yU:=some (yai (pwm 4611686018427377339 64 a0.toNat a1.toNat 1))
noncomputable def ZsY(F:Nat):Fs yc:={ Zfb F with M:=λx=>Zcr F x.1 x.2}
noncomputable def Zh3:Fs yc:=ZsY yD
theorem Zll:Zh3.Ok:=Zng (s:=Zfb yD) ZqQ λx=>(ZGk x.1 x.2).symm
end Go.Proofs.YtghfiijgklnflaaGreat
end
section
set_option maxRecDepth 4000
namespace Go.Proofs.YtghfiijgklnflaaGreat
open Go Go.Ev
noncomputable section
def Zcs(F:Nat)(a0:yU):yO (Bool):=
 if(decide (a0 > 0))=true then
  if(decide (a0 < 4611686018427377339))=true then
   (Zcr F a0 2305843009213688669).bind λo158=>
   some (o158==1)
  else
  some false
 else
 some false
def Zh4:Fs yc:=⟨180,[.v .u64],[],[.u64],(zZ .bool),λx=>Zcs yD x⟩
theorem Zlm:Zh4.Ok:=fnO { still:=[2,10]} [] [Zh3] ⟨Zll,ytt⟩
def Zov(F:Nat)(a0:yU):yO (yU):=
 (Zcs F a0).bind λo159=>
 if o159=true then
  some a0
 else
 some 1
def ZmR:Fs yc:=⟨191,[.v .u64],[],[.u64],(zZ .u64),λx=>Zov yD x⟩
theorem ZsZ:ZmR.Ok:=fnO { still:=[2,3]} [] [Zh4] ⟨Zlm,ytt⟩
def Zow(F:Nat)(a0:yU)(a1:yU):yO (yU):=
 (Zov F a0).bind λo160=>
 (Zcr F o160 (a1 % 2305843009213688669)).bind λo161=>
 some o161
def ZmS:Fs yc:=⟨157,[.v .u64,.v .u64],[],[.u64,.u64],(zZ .u64),λx=>Zow yD x.1 x.2⟩
theorem Zs0:ZmS.Ok:=fnO { still:=[4,5,6,8]} [] [ZmR,Zh3] ⟨ZsZ,Zll,ytt⟩
def Zqn(F:Nat)(a0:yU):yO (yU):=
 (Zow F 4 a0).bind λo162=>
 some o162
def Zox:Fs yc:=⟨110,[.v .u64],[],[.u64],(zZ .u64),λx=>Zqn yD x⟩
theorem Zt7:Zox.Ok:=fnO { still:=[2,3]} [] [ZmS] ⟨Zs0,ytt⟩
def Zno(F:Nat)(a0:Int):yO (Tx):=
 (Zqn F 3).bind λo163=>
 (Zvi F o163).bind λo164=>
 some ([((yzz,0),(0,[],0))],[(5,o164)],a0)
def Zap(F:Nat):Fs yc:=⟨58,[.v yI],[],[yI],(zZ yTx),λx=>Zno F x⟩
def Zmr:Fs yc:=Zap yD
theorem Zln:Zmr.Ok:=fnO { still:=[5]} [] [Zox,ZsS] ⟨Zt7,ZyT,ytt⟩
def ZyV:ByteArray:=⟨#[104,105,110,116]⟩
def ZbN(F:Nat)(a0:(yL yB)):yO ((yL yB)):=
 (QP F ZyV [a0]).bind λo165=>
 if(decide (16<=(o165.take 16).length))=true then
  some ((o165.take 16).take 16)
 else
 none
def Zh5(F:Nat):Fs yc:=⟨12,[.v (.arr 32 .u8)],[],[(.arr 32 .u8)],(zZ (.arr 16 .u8)),λx=>ZbN F x⟩
def ZfP:Fs yc:=Zh5 yD
theorem Zd6:ZfP.Ok:=fnO { still:=[5],frz:=[4,7]} [] [Zam] ⟨Qi,ytt⟩
def ZGl:ByteArray:=⟨#[116,111,119,101,114]⟩
def ZdO(F:Nat)(a0:(yL yB)):yO ((yL yB)):=
 (QP F ZGl [a0]).bind λo166=>
 some o166
def ZjI(F:Nat):Fs yc:=⟨14,[.v (.arr 32 .u8)],[],[(.arr 32 .u8)],(zZ (.arr 32 .u8)),λx=>ZdO F x⟩
def ZhO:Fs yc:=ZjI yD
theorem ZfQ:ZhO.Ok:=fnO { still:=[4],frz:=[3]} [] [Zam] ⟨Qi,ytt⟩
def Znp(F:Nat)(a0:(yL yB)):yO ((yU×(yL yB))):=
 some (0,a0)
def Zqo:Fs yc:=⟨195,[.v (.arr 32 .u8)],[],[(.arr 32 .u8)],[⟨.ret,[(0,.fn 201 [.ref 0 [],.ref 1 []])],[.var (.v .u64) true,.var (.v (.arr 32 .u8)) true],[.u64,(.arr 32 .u8)]⟩],λx=>Znp yD x⟩
theorem Zw0:Zqo.Ok:=fnO { still:=[2]} [] [] trivial
def ZyW:ByteArray:=⟨#[115,116,114,101,97,109]⟩
def Qs(F:Nat)(s:(Int×yU×(yL yB)×(yL yB)×(yL yB))):yO ((Int×yU×(yL yB)×(yL yB)×(yL yB))⊕(yU×(yL yB)×(yL yB)×(yL yB))):=
 if(decide (s.1 < 8))=true then
  if(decide (0<=wi (56 - (wi (8*s.1)))))=true then
   let y173:yU:=ZI s.2.1 (min (wi (56 - (wi (8*s.1)))).toNat 64)
   if(inB s.1 8)=true then
    (s.2.2.2.2[s.1.toNat]?).bind λe174=>
    some (.inl (wi (s.1+1),s.2.1,s.2.2.1,s.2.2.2.1,s.2.2.2.2.set s.1.toNat (w8 (y173.toNat:Int))))
   else
   none
  else
  none
 else
 some (.inr (s.2.1,s.2.2.1,s.2.2.2.1,s.2.2.2.2))
abbrev zF:List ESh:=[.var (.v .u64) true,.var (.v (.arr 32 .u8)) false,.var (.v (.arr 32 .u8)) true,.var (.v (.arr 8 .u8)) true]
def ZhP:Lp:=⟨[(0,.ref 0 []),(1,.ref 1 []),(2,.ref 2 []),(3,.ref 3 []),(5,.v yI)],zF,[yI,.u64,(.arr 32 .u8),(.arr 32 .u8),(.arr 8 .u8)],[⟨.exit 0,[(0,.ref 0 []),(1,.ref 1 []),(2,.ref 2 []),(3,.ref 3 [])],zF,[.u64,(.arr 32 .u8),(.arr 32 .u8),(.arr 8 .u8)]⟩],Zf (Qs yD) yD⟩
theorem Zlo:ZhP.okA yc 201 0:=Zy { still:=[21],frz:=[19,20]} [] [] trivial
def Zbk(F:Nat)(s0:yU)(s1:(yL yB)):yO (((yL yB)×yU×(yL yB))):=
 (Zf (Qs F) F (0,s0,s1,yzz,[0,0,0,0,0,0,0,0])).bind λo175=>
 (QP F ZyW [o175.2.1,o175.2.2.2]).bind λo176=>
 some (o176,o175.1+1,o175.2.1)
def ZiD:Fs yc:=⟨201,[.ref 0 [],.ref 1 []],[.var (.v .u64) true,.var (.v (.arr 32 .u8)) false],[.u64,(.arr 32 .u8)],[⟨.ret,[(0,.v (.arr 32 .u8))],[.var (.v .u64) true,.var (.v (.arr 32 .u8)) false],[(.arr 32 .u8),.u64,(.arr 32 .u8)]⟩],λx=>Zbk yD x.1 x.2⟩
theorem Zoy:ZiD.Ok:=fnO { still:=[21],frz:=[19,20]} [(0,ZhP)] [Zam] ⟨Qi,ytt⟩ ⟨Zlo,ytt⟩
abbrev dT0:Type:=(Int×(yL yB)×(yL Unit)×(yL yB)×(yL Unit)×(yL yB)×yU×(yL yB))
def Vc(F:Nat)(s:dT0):yO (dT0⊕dT0):=
 if(decide ((s.2.2.2.2.2.1.length:Int) < s.1))=true then
  (Zbk F s.2.2.2.2.2.2.1 s.2.2.2.2.2.2.2).bind λo181=>
  if(apB s.2.2.2.2.2.1.length o181.1.length 1)=true then
   some (.inl (s.1,s.2.1,s.2.2.1,s.2.2.2.1,()::s.2.2.2.2.1,s.2.2.2.2.2.1++o181.1,o181.2.1,o181.2.2))
  else
  none
 else
 some (.inr (s.1,s.2.1,s.2.2.1,s.2.2.2.1,s.2.2.2.2.1,s.2.2.2.2.2.1,s.2.2.2.2.2.2.1,s.2.2.2.2.2.2.2))
abbrev tL0:yL Ty:=[yI,(.arr 32 .u8),(.sl (.st [])),(.sl .u8),(.sl (.st [])),(.sl .u8),.u64,(.arr 32 .u8)]
abbrev zT:List ESh:=[.var (.v (.arr 32 .u8)) true,.row .u8 true 5,.row .u8 true 5,.var (.v .u64) true,.var (.v (.arr 32 .u8)) false]
def ZhQ:Lp:=⟨[(1,.v yI),(5,.rw 2),(6,.fn 201 [.ref 3 [],.ref 4 []])],zT,tL0,[⟨.exit 0,[(1,.v yI),(5,.rw 2)],zT,tL0⟩],Zf (Vc yD) yD⟩
def hi5:HI:={ own:=[5,16,25,27],still:=[17],rowt:=[4,5,16,25,27,28,30],frz:=[26]}
theorem Zlp:ZhQ.okA yc 175 0:=Zy hi5 [] [ZiD] ⟨Zoy,ytt⟩
def QL(F:Nat)(a0:(yL yB))(a1:Int):yO (((yL Unit)×(yL yB))):=
 if(decide (a1 < 0))=true then
  some ([],[])
 else
 if(decide (a1 > 65536))=true then
  some ([],[])
 else
 if(true&&(Zn6 (wi (a1+32)) 1))=true then
  (Znp F a0).bind λo179=>
  (Zf (Vc F) F (a1,a0,[],[],[],[],o179.1,o179.2)).bind λo182=>
  if(decide (0<=o182.1)&&decide (o182.1.toNat<=o182.2.2.2.2.2.1.length))=true then
   some (o182.2.2.2.2.1,o182.2.2.2.2.2.1.take o182.1.toNat)
  else
  none
 else
 none
def ZdP:Fs yc:=⟨175,[.v (.arr 32 .u8),.v yI],[],[(.arr 32 .u8),yI],[⟨.ret,[(0,.rw 0)],[.row .u8 true 5],[(.sl (.st [])),(.sl .u8)]⟩],λx=>QL yD x.1 x.2⟩
theorem ZhR:ZdP.Ok:=fnO hi5 [(0,ZhQ)] [Zqo] ⟨Zw0,ytt⟩ ⟨Zlp,ytt⟩
def Zd7(F:Nat)(s:((yL yB)×Int×Int×(yL yB)×(yL Unit)×(yL yB))):yO (((yL yB)×Int×Int×(yL yB)×(yL Unit)×(yL yB))⊕((yL yB)×(yL Unit)×(yL yB))):=
 if(decide (s.2.2.1 < s.2.1))=true then
  if(inB s.2.2.1 s.2.2.2.2.2.length)=true then
   (s.2.2.2.2.2[s.2.2.1.toNat]?).bind λe184=>
   (idx s.1 s.2.2.1).bind λe185=>
   if(inB s.2.2.1 s.2.2.2.2.2.length)=true then
    (s.2.2.2.2.2[s.2.2.1.toNat]?).bind λe186=>
    some (.inl (s.1,s.2.1,wi (s.2.2.1+1),s.2.2.2.1,s.2.2.2.2.1,s.2.2.2.2.2.set s.2.2.1.toNat (e184^^^e185)))
   else
   none
  else
  none
 else
 some (.inr (s.2.2.2.1,s.2.2.2.2.1,s.2.2.2.2.2))
def Zoz:Lp:=⟨[(1,.v (.sl .u8)),(5,.rw 1),(12,.v yI),(13,.v yI)],[.var (.v (.arr 32 .u8)) true,.row .u8 true 5],[(.sl .u8),yI,yI,(.arr 32 .u8),(.sl (.st [])),(.sl .u8)],[⟨.exit 0,[(5,.rw 1)],[.var (.v (.arr 32 .u8)) true,.row .u8 true 5],[(.arr 32 .u8),(.sl (.st [])),(.sl .u8)]⟩],Zf (Zd7 yD) yD⟩
def hi6:HI:={ still:=[4,7,9],rowt:=[5,10,16]}
theorem ZqR:Zoz.okA yc 133 0:=Zy hi6 [] [] trivial
def ZjJ(F:Nat)(a0:(yL yB))(a1:(yL yB)):yO ((yL yB)):=
 (QL F a0 (a1.length:Int)).bind λo183=>
 (Zf (Zd7 F) F (a1,(a1.length:Int),0,a0,o183.1,o183.2)).bind λo187=>
 some o187.2.2
def Zqp:Fs yc:=⟨133,[.v (.arr 32 .u8),.v (.sl .u8)],[],[(.arr 32 .u8),(.sl .u8)],(zZ (.sl .u8)),λx=>ZjJ yD x.1 x.2⟩
theorem Zw1:Zqp.Ok:=fnO hi6 [(0,Zoz)] [ZdP] ⟨ZhR,ytt⟩ ⟨ZqR,ytt⟩
def ZGm:ByteArray:=⟨#[115,101,97,108]⟩
def ZiE(F:Nat)(a0:(yL yB))(a1:(yL yB)):yO ((yL yB)):=
 (QP F ZGm [a0,a1]).bind λo188=>
 if(decide (8<=(o188.take 8).length))=true then
  some ((o188.take 8).take 8)
 else
 none
def Znq:Fs yc:=⟨134,[.v (.arr 32 .u8),.v (.sl .u8)],[],[(.arr 32 .u8),(.sl .u8)],(zZ (.arr 8 .u8)),λx=>ZiE yD x.1 x.2⟩
theorem Zqq:Znq.Ok:=fnO { still:=[8],frz:=[6,10]} [] [Zam] ⟨Qi,ytt⟩
def ZiF(F:Nat)(s:((yL yB)×Int×Int×(yL yB)×(yL Unit)×(yL yB)×(yL Unit)×(yL yB))):yO (((yL yB)×Int×Int×(yL yB)×(yL Unit)×(yL yB)×(yL Unit)×(yL yB))⊕((yL yB)×(yL Unit)×(yL yB)×(yL Unit)×(yL yB))):=
 if(decide (s.2.2.1 < s.2.1))=true then
  if(inB s.2.2.1 s.2.2.2.2.2.2.2.length)=true then
   (s.2.2.2.2.2.2.2[s.2.2.1.toNat]?).bind λe190=>
   (idx s.1 s.2.2.1).bind λe191=>
   if(inB s.2.2.1 s.2.2.2.2.2.2.2.length)=true then
    (s.2.2.2.2.2.2.2[s.2.2.1.toNat]?).bind λe192=>
    let y193:(yL yB):=s.2.2.2.2.2.2.2.set s.2.2.1.toNat (e190^^^e191)
    some (.inl (s.1,s.2.1,wi (s.2.2.1+1),s.2.2.2.1,s.2.2.2.2.1,s.2.2.2.2.2.1,s.2.2.2.2.2.2.1,y193))
   else
   none
  else
  none
 else
 some (.inr (s.2.2.2.1,s.2.2.2.2.1,s.2.2.2.2.2.1,s.2.2.2.2.2.2.1,s.2.2.2.2.2.2.2))
abbrev tL1:yL Ty:=[(.sl .u8),yI,yI,(.arr 32 .u8),(.sl (.st [])),(.sl .u8),(.sl (.st [])),(.sl .u8)]
def Zkj:Lp:=⟨[(1,.v (.sl .u8)),(5,.rw 2),(12,.v yI),(13,.v yI)],[.var (.v (.arr 32 .u8)) true,.row .u8 true 5,.row .u8 true 5],tL1,[⟨.exit 0,[(5,.rw 2)],[.var (.v (.arr 32 .u8)) true,.row .u8 true 5,.row .u8 true 5],[(.arr 32 .u8),(.sl (.st [])),(.sl .u8),(.sl (.st [])),(.sl .u8)]⟩],Zf (ZiF yD) yD⟩
def hi7:HI:={ still:=[7,9],rowt:=[4,5,10,16,27]}
theorem Znr:Zkj.okA yc 133 0:=Zy hi7 [] [] trivial
def ZmT(F:Nat)(a0:(yL yB))(a1:(yL yB)):yO (((yL Unit)×(yL yB))):=
 (QL F a0 (a1.length:Int)).bind λo189=>
 (Zf (ZiF F) F (a1,(a1.length:Int),0,a0,[],[],o189.1,o189.2)).bind λo194=>
 some (o194.2.2.2.1,o194.2.2.2.2)
def Zlq:Fs yc:=⟨133,[.v (.arr 32 .u8),.v (.sl .u8)],[],[(.arr 32 .u8),(.sl .u8)],[⟨.ret,[(0,.rw 0)],[.row .u8 true 5],[(.sl (.st [])),(.sl .u8)]⟩],λx=>ZmT yD x.1 x.2⟩
theorem ZqS:Zlq.Ok:=fnO hi7 [(0,Zkj)] [ZdP] ⟨ZhR,ytt⟩ ⟨Znr,ytt⟩
def Zs1(F:Nat)(a0:(yL yB))(a1:(yL yB)):yO ((yL yB)):=
 if(decide ((a1.length:Int) > 65536))=true then
  some []
 else
 (ZmT F a0 a1).bind λo195=>
 (ZiE F a0 o195.2).bind λo196=>
 if(apB o195.2.length o196.length 1)=true then
  some (o195.2++o196)
 else
 none
def Zqr:Fs yc:=⟨77,[.v (.arr 32 .u8),.v (.sl .u8)],[],[(.arr 32 .u8),(.sl .u8)],(zZ (.sl .u8)),λx=>Zs1 yD x.1 x.2⟩
def hi8:HI:={ own:=[5,12,16,18],still:=[4,10,11,13,14],frz:=[17]}
theorem Zw2:Zqr.Ok:=fnO hi8 [] [Zlq,Znq] ⟨ZqS,Zqq,ytt⟩
def Zeo(F:Nat)(a0:XA):yO (Bool):=
 if(decide (a0.1 >= 0))=true then
  if(decide (a0.1 < 4))=true then
   some (decide ((a0.2.1.length:Int)<=12))
  else
  some false
 else
 some false
def ZoA:Fs yc:=⟨137,[.v Z6],[],[Z6],(zZ .bool),λx=>Zeo yD x⟩
theorem Zt8:ZoA.Ok:=fnO { still:=[2]} [] [] trivial
def ZjK(F:Nat)(a0:Int):yO (Bool):=
 if(decide (a0 >= 0))=true then
  some (decide (a0<=1125899906842624))
 else
 some false
def Zqs:Fs yc:=⟨178,[.v yI],[],[yI],(zZ .bool),λx=>ZjK yD x⟩
theorem Zw3:Zqs.Ok:=fnO { still:=[2]} [] [] trivial
def ZoB(F:Nat)(a0:Int)(a1:Int):yO ((Int×Bool)):=
 (ZjK F a0).bind λo197=>
 if(!o197)=true then
  some (0,false)
 else
 (ZjK F a1).bind λo198=>
 if(!o198)=true then
  some (0,false)
 else
 if(decide (a0 > (wi (1125899906842624 - a1))))=true then
  some (0,false)
 else
 some (wi (a0+a1),true)
def Zvj:Fs yc:=⟨138,[.v yI,.v yI],[],[yI,yI],[⟨.ret,[(0,.tup [.v yI,.v .bool])],[],[yI,.bool]⟩],λx=>ZoB yD x.1 x.2⟩
theorem ZAS:Zvj.Ok:=fnO { still:=[4,5,6,10]} [] [Zqs] ⟨Zw3,ytt⟩
def QQ(F:Nat)(a0:yU):yO (Bool):=
 (Zcs F a0).bind λo199=>
 some (!o199)
def ZgG:Fs yc:=⟨179,[.v .u64],[],[.u64],(zZ .bool),λx=>QQ yD x⟩
theorem Zkk:ZgG.Ok:=fnO { still:=[2,3]} [] [Zh4] ⟨Zlm,ytt⟩
def Qt(F:Nat)(a0:Int):yO (Bool):=
 if(decide (a0 >= 0))=true then
  some (decide (a0<=1048576))
 else
 some false
def ZmU:Fs yc:=⟨182,[.v yI],[],[yI],(zZ .bool),λx=>Qt yD x⟩
theorem Zs2:ZmU.Ok:=fnO { still:=[2]} [] [] trivial
def XW(F:Nat)(s:((yL yU)×Int×Int)):yO (((yL yU)×Int×Int)⊕(Int⊕Unit)):=
 if(decide (s.2.2 < s.2.1))=true then
  (idx s.1 s.2.2).bind λe201=>
  (QQ F e201).bind λo202=>
  if o202=true then
   some (.inr (.inl s.2.2))
  else
  some (.inl (s.1,s.2.1,wi (s.2.2+1)))
 else
 some (.inr (.inr ()))
def ZiG:Lp:=⟨[(0,.v (.sl .u64)),(1,.fn 179 []),(7,.v yI),(8,.v yI)],[],[(.sl .u64),yI,yI],[⟨.ret,[(4,.v yI)],[],[yI]⟩,⟨.exit 0,[],[],[]⟩],Zf (XW yD) yD⟩
theorem Zms:ZiG.okA yc 196 0:=Zy { still:=[4,15]} [] [ZgG] ⟨Zkk,ytt⟩
def Zct(F:Nat)(a0:(yL yU)):yO (Int):=
 (Zf (XW F) F (a0,(a0.length:Int),0)).bind λo203=>
 match o203 with
 |.inl o204=>
  some o204
 |.inr o205=>
  some (-1)
def Zkl:Fs yc:=⟨196,[.v (.sl .u64),.fn 179 []],[],[(.sl .u64)],(zZ yI),λx=>Zct yD x⟩
theorem Zpu:Zkl.Ok:=fnO { still:=[4,15]} [(0,ZiG)] [] trivial ⟨Zms,ytt⟩
def Qc(F:Nat)(a0:(yL yU)):yO (Bool):=
 (Zct F a0).bind λo206=>
 some (decide (o206 >= 0))
def Zkm:Fs yc:=⟨181,[.v (.sl .u64),.fn 179 []],[],[(.sl .u64)],(zZ .bool),λx=>Qc yD x⟩
theorem Zpv:Zkm.Ok:=fnO { still:=[4,5,6]} [] [Zkl] ⟨Zpu,ytt⟩
def Vd(F:Nat)(s:((yL ZH)×Int×Int×Z8)):yO (((yL ZH)×Int×Int×Z8)⊕((Bool×Z8)⊕Z8)):=
 if(decide (s.2.2.1 < s.2.1))=true then
  (idx s.1 s.2.2.1).bind λe200=>
  if(decide ((e200.1.length:Int) > 12))=true then
   some (.inr (.inl (false,s.2.2.2)))
  else
  (Qc F e200.1).bind λo207=>
  if o207=true then
   some (.inr (.inl (false,s.2.2.2)))
  else
  (Qt F e200.2.1).bind λo208=>
  if(!o208)=true then
   some (.inr (.inl (false,s.2.2.2)))
  else
  (Qt F e200.2.2.1).bind λo209=>
  if(!o209)=true then
   some (.inr (.inl (false,s.2.2.2)))
  else
  if(e200.2.2.2 !=0)=true then
   (QQ F e200.2.2.2).bind λo210=>
   if o210=true then
    some (.inr (.inl (false,s.2.2.2)))
   else
   some (.inl (s.1,s.2.1,wi (s.2.2.1+1),s.2.2.2))
  else
  some (.inl (s.1,s.2.1,wi (s.2.2.1+1),s.2.2.2))
 else
 some (.inr (.inr s.2.2.2))
def ZmV:Lp:=⟨[(1,.ref 0 []),(3,.fn 179 []),(7,.v (.sl Zr)),(8,.v yI),(9,.v yI)],[.var (.v ZE) true],[(.sl Zr),yI,yI,ZE],[⟨.ret,[(2,.v .bool)],[.var (.v ZE) true],[.bool,ZE]⟩,⟨.exit 0,[(1,.ref 0 [])],[.var (.v ZE) true],[ZE]⟩],Zf (Vd yD) yD⟩
theorem Zpw:ZmV.okA yc 139 0:=Zy { still:=[2,19,20,25,31,42]} [] [Zkm,ZmU,ZgG] ⟨Zpv,Zs2,Zkk,ytt⟩
def VC(F:Nat)(a0:Z8):yO (Bool):=
 (Zf (Vd F) F (a0,(a0.length:Int),0,a0)).bind λo211=>
 match o211 with
 |.inl o212=>
  some o212.1
 |.inr o213=>
  if(decide ((o213.length:Int) > 0))=true then
   some (decide ((o213.length:Int)<=4))
  else
  some false
def ZfR:Fs yc:=⟨139,[.v ZE],[],[ZE],(zZ .bool),λx=>VC yD x⟩
theorem Zh6:ZfR.Ok:=fnO { still:=[2,19,20,25,31,42]} [(0,ZmV)] [] trivial ⟨Zpw,ytt⟩
def ZaY(F:Nat):((yL In)×Int×Int×Tx×(yL (Xs×Bool)))->yO (((yL In)×Int×Int×Tx×(yL (Xs×Bool)))⊕((Bool×Tx×(yL (Xs×Bool)))⊕(Tx×(yL (Xs×Bool)))))
 |(c,b,a,e,d)=>
 if(decide (a < b))=true then
  (idx c a).bind λe214=>
  Zk0 (Zek d e214.1) (λe215=>
   if e215=true then
    some (.inr (.inl (false,e,d)))
   else
   if(decide (e214.1.2 < 0))=true then
    some (.inr (.inl (false,e,d)))
   else
   if(decide (e214.1.2 >= 64))=true then
    some (.inr (.inl (false,e,d)))
   else
   (Zeo F e214.2).bind λo216=>
   if(!o216)=true then
    some (.inr (.inl (false,e,d)))
   else
   some (.inl (c,b,wi (a+1),e,Zkq d e214.1 true))) (
   if(decide (e214.1.2 < 0))=true then
    some (.inr (.inl (false,e,d)))
   else
   if(decide (e214.1.2 >= 64))=true then
    some (.inr (.inl (false,e,d)))
   else
   (Zeo F e214.2).bind λo217=>
   if(!o217)=true then
    some (.inr (.inl (false,e,d)))
   else
   some (.inl (c,b,wi (a+1),e,Zkq d e214.1 true)))
 else
 some (.inr (.inr (e,d)))
def Zqt:Lp:=⟨[(1,.ref 0 []),(3,.mp 1),(33,.v (.sl yIn)),(34,.v yI),(35,.v yI)],[.var (.v yTx) true,.map 195 XG .bool],[(.sl yIn),yI,yI,yTx,(Zks XG .bool)],[⟨.ret,[(2,.v .bool)],[.var (.v yTx) true,.map 195 XG .bool],[.bool,yTx,(Zks XG .bool)]⟩,⟨.exit 0,[(1,.ref 0 [])],[.var (.v yTx) true,.map 195 XG .bool],[yTx,(Zks XG .bool)]⟩],Zf (ZaY yD) yD⟩
theorem Zs3:Zqt.okA yc 79 0:=Zy { still:=[2,57,73,75,83]} [] [ZoA] ⟨Zt8,ytt⟩
def ZaZ(F:Nat):(Int×(yL Out)×Int×Int×Tx×(yL (Xs×Bool)))->yO ((Int×(yL Out)×Int×Int×Tx×(yL (Xs×Bool)))⊕((Bool×Tx×(yL (Xs×Bool)))⊕(Tx×(yL (Xs×Bool)))))
 |(d,c,b,a,e,f)=>
 if(decide (a < b))=true then
  (idx c a).bind λe221=>
  (ZoB F d e221.1).bind λo222=>
  if(!o222.2)=true then
   some (.inr (.inl (false,e,f)))
  else
  (VC F e221.2).bind λo223=>
  if(!o223)=true then
   some (.inr (.inl (false,e,f)))
  else
  some (.inl (o222.1,c,b,wi (a+1),e,f))
 else
 some (.inr (.inr (e,f)))
def Zqu:Lp:=⟨[(6,.v yI),(66,.v (.sl Wr)),(67,.v yI),(68,.v yI)],[.var (.v yTx) true,.map 195 XG .bool],[yI,(.sl Wr),yI,yI,yTx,(Zks XG .bool)],[⟨.ret,[(2,.v .bool)],[.var (.v yTx) true,.map 195 XG .bool],[.bool,yTx,(Zks XG .bool)]⟩,⟨.exit 2,[],[.var (.v yTx) true,.map 195 XG .bool],[yTx,(Zks XG .bool)]⟩],Zf (ZaZ yD) yD⟩
theorem Zs4:Zqu.okA yc 79 1:=Zy { still:=[2,57,73,75,83]} [] [Zvj,ZfR] ⟨ZAS,Zh6,ytt⟩
def Qd(F:Nat)(a0:Tx):yO (Bool):=
 if(decide ((a0.1.length:Int) < 1))=true then
  some false
 else
 if(decide ((a0.1.length:Int) > 64))=true then
  some false
 else
 if(decide ((a0.2.1.length:Int) > 64))=true then
  some false
 else
 if(decide (a0.2.2 < 0))=true then
  some false
 else
 (Zf (ZaY F) F (a0.1,(a0.1.length:Int),0,a0,([]:yL (Xs×Bool)))).bind λo218=>
 match o218 with
 |.inl o219=>
  some o219.1
 |.inr o220=>
  (Zf (ZaZ F) F (0,o220.1.2.1,(o220.1.2.1.length:Int),0,o220.1,o220.2)).bind λo224=>
  match o224 with
  |.inl o225=>
   some o225.1
  |.inr o226=>
   some true
def Zlr(F:Nat):Fs yc:=⟨79,[.v yTx],[],[yTx],(zZ .bool),λx=>Qd F x⟩
def ZgH:Fs yc:=Zlr yD
theorem Zep:ZgH.Ok:=fnO { still:=[2,57,73,75,83]} [(0,Zqt),(1,Zqu)] [] trivial ⟨Zs3,Zs4,ytt⟩
def XS(F:Nat)(s:((yL (yL yB))×Int×(yL (yL yB))×Int×Int)):yO (((yL (yL yB))×Int×(yL (yL yB))×Int×Int)⊕((yL (yL yB))×Int)):=
 if(decide (s.2.2.2.2 < s.2.2.2.1))=true then
  (idx s.2.2.1 s.2.2.2.2).bind λe227=>
  if(decide ((wi (s.2.1+(e227.length:Int))) < 0))=true then
   none
  else
  some (.inl (s.1,wi (s.2.1+(e227.length:Int)),s.2.2.1,s.2.2.2.1,wi (s.2.2.2.2+1)))
 else
 some (.inr (s.1,s.2.1))
def Zaq:Lp:=⟨[(0,.v (.sl (.sl .u8))),(3,.v yI),(9,.v (.sl (.sl .u8))),(10,.v yI),(11,.v yI)],[],[(.sl (.sl .u8)),yI,(.sl (.sl .u8)),yI,yI],[⟨.exit 0,[(0,.v (.sl (.sl .u8))),(3,.v yI)],[],[(.sl (.sl .u8)),yI]⟩],Zf (XS yD) yD⟩
def hi9:HI:={ own:=[6,24,31,33],still:=[2,23]}
theorem Zeq:Zaq.okA yc 192 0:=Zy hi9 [] [] trivial
def ZbO:Fs yc:=⟨199,[.nil .u8,.v yI],[],[.int .i64],[⟨.ret,[(0,.own 0 .u8)],[.log .u8 5],[.sl .u8]⟩],Zsy⟩
theorem Zh7:ZbO.Ok:=ZH5 ZF0
def XT(F:Nat)(s:((yL (yL yB))×Int×Int×(yL yB))):yO (((yL (yL yB))×Int×Int×(yL yB))⊕(yL yB)):=
 if(decide (s.2.2.1 < s.2.1))=true then
  (idx s.1 s.2.2.1).bind λe230=>
  if(apB s.2.2.2.length e230.length 1)=true then
   some (.inl (s.1,s.2.1,wi (s.2.2.1+1),s.2.2.2++e230))
  else
  none
 else
 some (.inr s.2.2.2)
def Zar:Lp:=⟨[(6,.own 0 .u8),(25,.v (.sl (.sl .u8))),(26,.v yI),(27,.v yI)],[.log .u8 5],[(.sl (.sl .u8)),yI,yI,(.sl .u8)],[⟨.exit 2,[(6,.own 0 .u8)],[.log .u8 5],[(.sl .u8)]⟩],Zf (XT yD) yD⟩
theorem Zer:Zar.okA yc 192 1:=Zy hi9 [] [] trivial
def Xt(F:Nat)(a0:(yL (yL yB))):yO ((yL yB)):=
 (Zf (XS F) F (a0,0,a0,(a0.length:Int),0)).bind λo228=>
 (Zsy o228.2).bind λo229=>
 (Zf (XT F) F (o228.1,(o228.1.length:Int),0,o229)).bind λo231=>
 some o231
def Vw:Fs yc:=⟨192,[.v (.sl (.sl .u8))],[],[(.sl (.sl .u8))],(zZ (.sl .u8)),λx=>Xt yD x⟩
theorem Zas:Vw.Ok:=fnO hi9 [(0,Zaq),(1,Zar)] [ZbO] ⟨Zh7,ytt⟩ ⟨Zeq,Zer,ytt⟩
def Zbt(F:Nat)(a0:(yL yB))(a1:(yL yB)):yO ((yL yB)):=
 (Xt F [a0,a1]).bind λo232=>
 some o232
def ZhS:Fs yc:=⟨176,[.v (.sl .u8),.v (.sl .u8)],[],[(.sl .u8),(.sl .u8)],(zZ (.sl .u8)),λx=>Zbt yD x.1 x.2⟩
theorem ZjL:ZhS.Ok:=fnO { still:=[4,7]} [] [Vw] ⟨Zas,ytt⟩
def ZfS(F:Nat)(s:(Int×(yL yB))):yO ((Int×(yL yB))⊕(Int×(yL yB))):=
 if(decide (s.1 >= 128))=true then
  if(apB s.2.length 1 1)=true then
   let y233:(yL yB):=s.2++([w8 (wi ((Int.tmod s.1 128)+128))]:yL yB)
   some (.inl (wi (Int.tdiv s.1 128),y233))
  else
  none
 else
 some (.inr (s.1,s.2))
def Zqv:Lp:=⟨[(0,.v yI),(3,.own 0 .u8)],[.log .u8 5],[yI,(.sl .u8)],[⟨.exit 0,[(0,.v yI),(3,.own 0 .u8)],[.log .u8 5],[yI,(.sl .u8)]⟩],Zf (ZfS yD) yD⟩
def ZK5:HI:={ own:=[3,8,14,15,19],still:=[2]}
theorem Zs5:Zqv.okA yc 177 0:=Zy ZK5 [] [] trivial
def ZiH(F:Nat)(a0:Int):yO ((yL yB)):=
 (Zf (ZfS F) F (a0,[])).bind λo234=>
 if(apB o234.2.length 1 1)=true then
  some (o234.2++([w8 o234.1]:yL yB))
 else
 none
def Zns:Fs yc:=⟨177,[.v yI],[],[yI],(zZ (.sl .u8)),λx=>ZiH yD x⟩
theorem Zqw:Zns.Ok:=fnO ZK5 [(0,Zqv)] [] trivial ⟨Zs5,ytt⟩
def WG(F:Nat)(a0:(yL yB))(a1:Int):yO ((yL yB)):=
 if(decide (a1 < 0))=true then
  (Zbt F a0 []).bind λo235=>
  some o235
 else
 (ZiH F a1).bind λo236=>
 (Zbt F a0 o236).bind λo237=>
 some o237
def Zbu:Fs yc:=⟨135,[.v (.sl .u8),.v yI],[],[(.sl .u8),yI],(zZ (.sl .u8)),λx=>WG yD x.1 x.2⟩
theorem ZbP:Zbu.Ok:=fnO { still:=[4,7,9,10,11]} [] [ZhS,Zns] ⟨ZjL,Zqw,ytt⟩
def Zd8(F:Nat)(a0:(yL yB))(a1:(yL yB)):yO ((yL yB)):=
 (Zbt F a0 a1).bind λo238=>
 some o238
def Zls:Fs yc:=⟨158,[.v (.sl .u8),.v (.arr 32 .u8)],[],[(.sl .u8),(.arr 32 .u8)],(zZ (.sl .u8)),λx=>Zd8 yD x.1 x.2⟩
theorem ZqT:Zls.Ok:=fnO { still:=[4,5,6],frz:=[6]} [] [ZhS] ⟨ZjL,ytt⟩
def Zcu(F:Nat)(a0:(yL yB))(a1:(yL yB)):yO ((yL yB)):=
 (ZiH F (a1.length:Int)).bind λo239=>
 (Xt F [a0,o239,a1]).bind λo240=>
 some o240
def Zkn:Fs yc:=⟨159,[.v (.sl .u8),.v (.sl .u8)],[],[(.sl .u8),(.sl .u8)],(zZ (.sl .u8)),λx=>Zcu yD x.1 x.2⟩
theorem Zpx:Zkn.Ok:=fnO { still:=[4,7,10]} [] [Zns,Vw] ⟨Zqw,Zas,ytt⟩
def Zbl(F:Nat)(s:((yL yB)×yU×Int×(yL yB))):yO (((yL yB)×yU×Int×(yL yB))⊕((yL yB)×(yL yB))):=
 if(decide (s.2.2.1 < 8))=true then
  if(decide (0<=wi (56 - (wi (8*s.2.2.1)))))=true then
   let y241:yU:=ZI s.2.1 (min (wi (56 - (wi (8*s.2.2.1)))).toNat 64)
   if(inB s.2.2.1 8)=true then
    (s.2.2.2[s.2.2.1.toNat]?).bind λe242=>
    let y243:(yL yB):=s.2.2.2.set s.2.2.1.toNat (w8 (y241.toNat:Int))
    some (.inl (s.1,s.2.1,wi (s.2.2.1+1),y243))
   else
   none
  else
  none
 else
 some (.inr (s.1,s.2.2.2))
def Zlt:Lp:=⟨[(0,.v (.sl .u8)),(1,.v .u64),(5,.ref 0 []),(7,.v yI)],[.var (.v (.arr 8 .u8)) true],[(.sl .u8),.u64,yI,(.arr 8 .u8)],[⟨.exit 0,[(0,.v (.sl .u8)),(5,.ref 0 [])],[.var (.v (.arr 8 .u8)) true],[(.sl .u8),(.arr 8 .u8)]⟩],Zf (Zbl yD) yD⟩
theorem ZoC:Zlt.okA yc 136 0:=Zy { still:=[4,19,20],frz:=[20]} [] [] trivial
def VD(F:Nat)(a0:(yL yB))(a1:yU):yO ((yL yB)):=
 (Zf (Zbl F) F (a0,a1,0,[0,0,0,0,0,0,0,0])).bind λo244=>
 (Zbt F o244.1 o244.2).bind λo245=>
 some o245
def Zbe:Fs yc:=⟨136,[.v (.sl .u8),.v .u64],[],[(.sl .u8),.u64],(zZ (.sl .u8)),λx=>VD yD x.1 x.2⟩
theorem Zcv:Zbe.Ok:=fnO { still:=[4,19,20],frz:=[20]} [(0,Zlt)] [ZhS] ⟨ZjL,ytt⟩ ⟨ZoC,ytt⟩
def Zat(F:Nat):((yL yB)×(yL ZH)×Int×Int×(yL yU)×Int×Int×Z8×ZH)->yO (((yL yB)×(yL ZH)×Int×Int×(yL yU)×Int×Int×Z8×ZH)⊕((yL yB)×(yL ZH)×Int×Int×Z8×ZH))
 |(d,e,f,g,c,b,a,h,i)=>
 if(decide (a < b))=true then
  (idx c a).bind λe250=>
  (VD F d e250).bind λo251=>
  some (.inl (o251,e,f,g,c,b,wi (a+1),h,i))
 else
 some (.inr (d,e,f,g,h,i))
abbrev tL2:yL Ty:=[(.sl .u8),(.sl Zr),yI,yI,(.sl .u64),yI,yI,ZE,Zr]
def ZmW:Lp:=⟨[(3,.v (.sl .u8)),(5,.ref 1 []),(16,.v (.sl Zr)),(17,.v yI),(18,.v yI),(28,.v (.sl .u64)),(29,.v yI),(30,.v yI)],[.var (.v ZE) true,.var (.v Zr) true],tL2,[⟨.exit 2,[(3,.v (.sl .u8)),(5,.ref 1 []),(16,.v (.sl Zr)),(17,.v yI),(18,.v yI)],[.var (.v ZE) true,.var (.v Zr) true],[(.sl .u8),(.sl Zr),yI,yI,ZE,Zr]⟩],Zf (Zat yD) yD⟩
def ZJ1:HI:={ still:=[2,8,13,22,25,34,35,38,40,41,43,44,46]}
theorem Zpy:ZmW.okA yc 160 1:=Zy ZJ1 [] [Zbe] ⟨Zcv,ytt⟩
def Zcw(F:Nat):((yL yB)×(yL ZH)×Int×Int×Z8)->yO (((yL yB)×(yL ZH)×Int×Int×Z8)⊕((yL yB)×Z8))
 |(j,i,h,g,k)=>
 if(decide (g < h))=true then
  (idx i g).bind λe248=>
  (WG F j (e248.1.length:Int)).bind λo249=>
  (Zf (Zat F) F (o249,i,h,g,e248.1,(e248.1.length:Int),0,k,e248)).bind λ(a,c,d,e,f,b)=>
  (WG F a b.2.1).bind λo253=>
  (WG F o253 b.2.2.1).bind λo254=>
  (VD F o254 b.2.2.2).bind λo255=>
  some (.inl (o255,c,d,wi (e+1),f))
 else
 some (.inr (j,k))
def ZmX:Lp:=⟨[(3,.v (.sl .u8)),(16,.v (.sl Zr)),(17,.v yI),(18,.v yI)],[.var (.v ZE) true],[(.sl .u8),(.sl Zr),yI,yI,ZE],[⟨.exit 0,[(3,.v (.sl .u8))],[.var (.v ZE) true],[(.sl .u8),ZE]⟩],Zf (Zcw yD) yD⟩
theorem Zpz:ZmX.okA yc 160 0:=Zy ZJ1 [(1,ZmW)] [Zbu,Zbe] ⟨ZbP,Zcv,ytt⟩ ⟨Zpy,ytt⟩
def Zes(F:Nat)(a0:Z8):yO ((yL yB)):=
 (VC F a0).bind λo246=>
 if(!o246)=true then
  some []
 else
 (WG F [] (a0.length:Int)).bind λo247=>
 (Zf (Zcw F) F (o247,a0,(a0.length:Int),0,a0)).bind λo256=>
 some o256.1
def ZjM:Fs yc:=⟨160,[.v ZE],[],[ZE],(zZ (.sl .u8)),λx=>Zes yD x⟩
theorem ZmY:ZjM.Ok:=fnO ZJ1 [(0,ZmX)] [ZfR,Zbu] ⟨Zh6,ZbP,ytt⟩ ⟨Zpz,ytt⟩
def ZfT(F:Nat)(s:((yL yB)×(yL In)×Int×Int×Tx)):yO (((yL yB)×(yL In)×Int×Int×Tx)⊕((yL yB)×Tx)):=
 if(decide (s.2.2.2.1 < s.2.2.1))=true then
  (idx s.2.1 s.2.2.2.1).bind λe258=>
  (Zd8 F s.1 e258.1.1).bind λo259=>
  (WG F o259 e258.1.2).bind λo260=>
  some (.inl (o260,s.2.1,s.2.2.1,wi (s.2.2.2.1+1),s.2.2.2.2))
 else
 some (.inr (s.1,s.2.2.2.2))
def Zqx:Lp:=⟨[(1,.ref 0 []),(3,.v (.sl .u8)),(13,.v (.sl yIn)),(14,.v yI),(15,.v yI)],[.var (.v yTx) true],[(.sl .u8),(.sl yIn),yI,yI,yTx],[⟨.exit 0,[(1,.ref 0 []),(3,.v (.sl .u8))],[.var (.v yTx) true],[(.sl .u8),yTx]⟩],Zf (ZfT yD) yD⟩
def ZJ2:HI:={ still:=[2,10,19,22,23,26,29,32,41,43,44,46,47,50,52]}
theorem Zs6:Zqx.okA yc 111 0:=Zy ZJ2 [] [Zls,Zbu] ⟨ZqT,ZbP,ytt⟩
def ZfU(F:Nat)(s:((yL yB)×(yL Out)×Int×Int×Tx)):yO (((yL yB)×(yL Out)×Int×Int×Tx)⊕((yL yB)×Tx)):=
 if(decide (s.2.2.2.1 < s.2.2.1))=true then
  (idx s.2.1 s.2.2.2.1).bind λe263=>
  (WG F s.1 e263.1).bind λo264=>
  (Zes F e263.2).bind λo265=>
  (Zcu F o264 o265).bind λo266=>
  some (.inl (o266,s.2.1,s.2.2.1,wi (s.2.2.2.1+1),s.2.2.2.2))
 else
 some (.inr (s.1,s.2.2.2.2))
def Zqy:Lp:=⟨[(1,.ref 0 []),(3,.v (.sl .u8)),(35,.v (.sl Wr)),(36,.v yI),(37,.v yI)],[.var (.v yTx) true],[(.sl .u8),(.sl Wr),yI,yI,yTx],[⟨.exit 2,[(1,.ref 0 []),(3,.v (.sl .u8))],[.var (.v yTx) true],[(.sl .u8),yTx]⟩],Zf (ZfU yD) yD⟩
theorem Zs7:Zqy.okA yc 111 1:=Zy ZJ2 [] [Zbu,ZjM,Zkn] ⟨ZbP,ZmY,Zpx,ytt⟩
def ZiI(F:Nat)(a0:Tx):yO ((yL yB)):=
 (WG F [] (a0.1.length:Int)).bind λo257=>
 (Zf (ZfT F) F (o257,a0.1,(a0.1.length:Int),0,a0)).bind λo261=>
 (WG F o261.1 (o261.2.2.1.length:Int)).bind λo262=>
 (Zf (ZfU F) F (o262,o261.2.2.1,(o261.2.2.1.length:Int),0,o261.2)).bind λo267=>
 (WG F o267.1 o267.2.2.2).bind λo268=>
 some o268
def Znt:Fs yc:=⟨111,[.v yTx],[],[yTx],(zZ (.sl .u8)),λx=>ZiI yD x⟩
theorem Zqz:Znt.Ok:=fnO ZJ2 [(0,Zqx),(1,Zqy)] [Zbu] ⟨ZbP,ytt⟩ ⟨Zs6,Zs7,ytt⟩
def ZoD(F:Nat):((yL yB)×(yL In)×Int×Int×(yL Sig)×Int×Int×Tx×In)->yO (((yL yB)×(yL In)×Int×Int×(yL Sig)×Int×Int×Tx×In)⊕((yL yB)×(yL In)×Int×Int×Tx×In))
 |(d,e,f,g,c,b,a,h,i)=>
 if(decide (a < b))=true then
  (idx c a).bind λe274=>
  (VD F d e274.1).bind λo275=>
  (VD F o275 e274.2).bind λo276=>
  some (.inl (o276,e,f,g,c,b,wi (a+1),h,i))
 else
 some (.inr (d,e,f,g,h,i))
def ZqA:Lp:=⟨[(3,.v (.sl .u8)),(5,.ref 1 []),(14,.v (.sl yIn)),(15,.v yI),(16,.v yI),(32,.v (.sl ZgD)),(33,.v yI),(34,.v yI)],[.var (.v yTx) true,.var (.v yIn) true],[(.sl .u8),(.sl yIn),yI,yI,(.sl ZgD),yI,yI,yTx,yIn],[⟨.exit 2,[(3,.v (.sl .u8)),(5,.ref 1 []),(14,.v (.sl yIn)),(15,.v yI),(16,.v yI)],[.var (.v yTx) true,.var (.v yIn) true],[(.sl .u8),(.sl yIn),yI,yI,yTx,yIn]⟩],Zf (ZoD yD) yD⟩
def ZJ3:HI:={ still:=[2,8,11,20,23,24,28,38,40,41,43,46,49]}
theorem Zs8:ZqA.okA yc 78 1:=Zy ZJ3 [] [Zbe] ⟨Zcv,ytt⟩
def ZoE(F:Nat):((yL yB)×(yL In)×Int×Int×Tx)->yO (((yL yB)×(yL In)×Int×Int×Tx)⊕((yL yB)×Tx))
 |(j,i,h,g,k)=>
 if(decide (g < h))=true then
  (idx i g).bind λe271=>
  (WG F j e271.2.1).bind λo272=>
  (WG F o272 (e271.2.2.1.length:Int)).bind λo273=>
  (Zf (ZoD F) F (o273,i,h,g,e271.2.2.1,(e271.2.2.1.length:Int),0,k,e271)).bind λ(a,c,d,e,f,b)=>
  (VD F a b.2.2.2).bind λo278=>
  some (.inl (o278,c,d,wi (e+1),f))
 else
 some (.inr (j,k))
def ZqB:Lp:=⟨[(3,.v (.sl .u8)),(14,.v (.sl yIn)),(15,.v yI),(16,.v yI)],[.var (.v yTx) true],[(.sl .u8),(.sl yIn),yI,yI,yTx],[⟨.exit 0,[(3,.v (.sl .u8))],[.var (.v yTx) true],[(.sl .u8),yTx]⟩],Zf (ZoE yD) yD⟩
theorem Zs9:ZqB.okA yc 78 0:=Zy ZJ3 [(1,ZqA)] [Zbu,Zbe] ⟨ZbP,Zcv,ytt⟩ ⟨Zs8,ytt⟩
def Zvk(F:Nat)(a0:Tx):yO ((yL yB)):=
 (Qd F a0).bind λo269=>
 if(!o269)=true then
  some []
 else
 (ZiI F a0).bind λo270=>
 (Zf (ZoE F) F (o270,a0.1,(a0.1.length:Int),0,a0)).bind λo279=>
 some o279.1
def Zta:Fs yc:=⟨78,[.v yTx],[],[yTx],(zZ (.sl .u8)),λx=>Zvk yD x⟩
theorem ZyX:Zta.Ok:=fnO ZJ3 [(0,ZqB)] [ZgH,Znt] ⟨Zep,Zqz,ytt⟩ ⟨Zs9,ytt⟩
def Zku(F:Nat)(a0:Tx)(a1:(yL yB)):yO (Ze):=
 (ZbN F a1).bind λo280=>
 (ZdO F a1).bind λo281=>
 (Zvk F a0).bind λo282=>
 (Zs1 F o281 o282).bind λo283=>
 some (o280,o283)
def Qe(F:Nat):Fs yc:=⟨59,[.v yTx,.v (.arr 32 .u8)],[],[yTx,(.arr 32 .u8)],(zZ Zd),λx=>Zku F x.1 x.2⟩
def ZjN:Fs yc:=Qe yD
theorem ZiJ:ZjN.Ok:=fnO { still:=[5,7,8,9,10]} [] [ZfP,ZhO,Zta,Zqr] ⟨Zd6,ZfQ,ZyX,Zw2,ytt⟩
def ZIN:ByteArray:=⟨#[116,120]⟩
def Ztb(F:Nat)(a0:Tx):yO ((yL yB)):=
 (Qd F a0).bind λo284=>
 if(!o284)=true then
  some yzz
 else
 (ZiI F a0).bind λo285=>
 (QP F ZIN [o285]).bind λo286=>
 some o286
def Ztc(F:Nat):Fs yc:=⟨60,[.v yTx],[],[yTx],(zZ (.arr 32 .u8)),λx=>Ztb F x⟩
def ZCm:Fs yc:=Ztc yD
theorem ZyY:ZCm.Ok:=fnO { still:=[3,7,9]} [] [ZgH,Znt,Zam] ⟨Zep,Zqz,Qi,ytt⟩
abbrev ZT:Ty:=(.st [yI,Zd,yI,yI,(.sl yTx),(.arr 32 .u8),(.arr 32 .u8)])
abbrev Corsnedlaw42Act:Type:=(Int×Ze×Int×Int×(yL Tx)×(yL yB)×(yL yB))
abbrev Corsnedlaw42Act.N(x:Corsnedlaw42Act):Int:=x.2.2.2.1
def WA(F:Nat)(s:((yL Corsnedlaw42Act)×Int)):yO (((yL Corsnedlaw42Act)×Int)⊕(Bool⊕(yL Corsnedlaw42Act))):=
 if(decide (s.2 < (s.1.length:Int)))=true then
  (idx s.1 s.2).bind λe287=>
  if(decide ((e287.2.1.2.length:Int) > 9000))=true then
   some (.inr (.inl false))
  else
  (idx s.1 s.2).bind λe288=>
  if(decide ((e288.2.2.2.2.1.length:Int) > 5))=true then
   some (.inr (.inl false))
  else
  some (.inl (s.1,wi (s.2+1)))
 else
 some (.inr (.inr s.1))
def Zfi:Lp:=⟨[(0,.v (.sl ZT)),(3,.v yI)],[],[(.sl ZT),yI],[⟨.ret,[(2,.v .bool)],[],[.bool]⟩,⟨.exit 0,[(0,.v (.sl ZT))],[],[(.sl ZT)]⟩],Zf (WA yD) yD⟩
theorem ZjO:Zfi.okA yc 9 0:=Zy { still:=[2]} [] [] trivial
def Q0(F:Nat)(a0:(yL Corsnedlaw42Act)):yO (Bool):=
 (Zf (WA F) F (a0,0)).bind λo289=>
 match o289 with
 |.inl o290=>
  some o290
 |.inr o291=>
  some (decide ((o291.length:Int)<=30))
def ZgI:Fs yc:=⟨9,[.v (.sl ZT)],[],[(.sl ZT)],(zZ .bool),λx=>Q0 yD x⟩
theorem Zmt:ZgI.Ok:=fnO { still:=[2]} [(0,Zfi)] [] trivial ⟨ZjO,ytt⟩
def WH(F:Nat)(a0:Int)(a1:Int):yO (Unit⊕(Int×Int×Bool)):=
 if(decide (a0 < 0))=true then
  some (.inl ())
 else
 if(decide (a1 < 0))=true then
  some (.inl ())
 else
 if(decide (a1 > 4096))=true then
  some (.inl ())
 else
 some (.inr (a0,a1,false))
def ZgJ:Fs yc:=⟨11,[.v yI,.v yI],[],[yI,yI],[⟨.ret,[(0,.ptr0)],[],[]⟩,⟨.ret,[(0,.ref 0 [])],[.var (.agg [.v yI,.v yI,.nil Zd,.v .bool]) true],[yI,yI,.bool]⟩],λx=>WH yD x.1 x.2⟩
theorem Zmu:ZgJ.Ok:=fnO { still:=[4]} [] [] trivial
def XH(F:Nat)(s:((yL yB)×(yL yB))):yO (((yL yB)×(yL yB))⊕((yL yB)×(yL yB))):=
 if((Int.tmod (s.2.length:Int) 64)!=56)=true then
  if(apB s.2.length 1 1)=true then
   some (.inl (s.1,s.2++([0]:yL yB)))
  else
  none
 else
 some (.inr (s.1,s.2))
def Zcx:Lp:=⟨[(0,.v (.sl .u8)),(3,.own 0 .u8)],[.log .u8 5],[(.sl .u8),(.sl .u8)],[⟨.exit 0,[(0,.v (.sl .u8)),(3,.own 0 .u8)],[.log .u8 5],[(.sl .u8),(.sl .u8)]⟩],Zf (XH yD) yD⟩
def ZJ4:HI:={ own:=[3,6,8,9,11,16,18,27,33],still:=[2]}
theorem Zhb:Zcx.okA yc 128 0:=Zy ZJ4 [] [] trivial
def XI(F:Nat)(s:(yU×Int×(yL yB))):yO ((yU×Int×(yL yB))⊕(yL yB)):=
 if(decide (s.2.1 >= 0))=true then
  if(decide (0<=s.2.1))=true then
   let y293:yB:=w8 ((ZI s.1 (min s.2.1.toNat 64)).toNat:Int)
   if(apB s.2.2.length 1 1)=true then
    some (.inl (s.1,wi (s.2.1 - 8),s.2.2++([y293]:yL yB)))
   else
   none
  else
  none
 else
 some (.inr s.2.2)
def Zcy:Lp:=⟨[(3,.own 0 .u8),(4,.v .u64),(5,.v yI)],[.log .u8 5],[.u64,yI,(.sl .u8)],[⟨.exit 2,[(3,.own 0 .u8)],[.log .u8 5],[(.sl .u8)]⟩],Zf (XI yD) yD⟩
theorem Zhc:Zcy.okA yc 128 1:=Zy ZJ4 [] [] trivial
def VE(F:Nat)(a0:(yL yB)):yO ((yL yB)):=
 if(apB 0 a0.length 1)=true then
  if(apB a0.length 1 1)=true then
   (Zf (XH F) F (a0,a0++([128]:yL yB))).bind λo292=>
   (Zf (XI F) F (8*(w64 (o292.1.length:Int)),56,o292.2)).bind λo294=>
   some o294
  else
  none
 else
 none
def Zc3:Fs yc:=⟨128,[.v (.sl .u8)],[],[(.sl .u8)],(zZ (.sl .u8)),λx=>VE yD x⟩
theorem ZjP:Zc3.Ok:=fnO ZJ4 [(0,Zcx),(1,Zcy)] [] trivial ⟨Zhb,Zhc,ytt⟩
def Zau(F:Nat):yO ((yL yV)):=
 some [1779033703,3144134277,1013904242,2773480762,1359893119,2600822924,528734635,1541459225]
def Zc4:Fs yc:=⟨129,[],[],[],(zZ (.sl .u32)),λx=>Zau yD⟩
theorem ZjQ:Zc4.Ok:=fnO { still:=[0]} [] [] trivial
def ZM(F:Nat)(a0:yV)(a1:Int):yO (yV):=
 if(decide (0<=a1))=true then
  if(decide (0<=wi (32 - a1)))=true then
   let y295:yV:=(Zfh a0 (min a1.toNat 32))|||(ZbK a0 (min (wi (32 - a1)).toNat 32))
   some y295
  else
  none
 else
 none
def Za7:Fs yc:=⟨173,[.v .u32,.v yI],[],[.u32,yI],(zZ .u32),λx=>ZM yD x.1 x.2⟩
theorem Zet:Za7.Ok:=fnO { still:=[4]} [] [] trivial
def XX(F:Nat)(s:((yL yB)×Int×(yL yV))):yO (((yL yB)×Int×(yL yV))⊕(yL yV)):=
 if(decide (s.2.1 < 16))=true then
  (idx s.1 (wi (4*s.2.1))).bind λe296=>
  (idx s.1 (wi ((wi (4*s.2.1))+1))).bind λe297=>
  let y298:yV:=(ZbK (ybv e296.toNat) 24)|||(ZbK (ybv e297.toNat) 16)
  (idx s.1 (wi ((wi (4*s.2.1))+2))).bind λe299=>
  (idx s.1 (wi ((wi (4*s.2.1))+3))).bind λe300=>
  let y301:yV:=(y298|||(ZbK (ybv e299.toNat) 8))|||(ybv e300.toNat)
  if(apB s.2.2.length 1 4)=true then
   some (.inl (s.1,wi (s.2.1+1),s.2.2++([y301]:yL yV)))
  else
  none
 else
 some (.inr s.2.2)
def Zc5:Lp:=⟨[(0,.v (.sl .u8)),(3,.own 0 .u32),(4,.v yI)],[.log .u32 160],[(.sl .u8),yI,(.sl .u32)],[⟨.exit 0,[(3,.own 0 .u32)],[.log .u32 160],[(.sl .u32)]⟩],Zf (XX yD) yD⟩
def ZJ5:HI:={ own:=[3,14,49,80,97],still:=[2,64,66,72,74]}
theorem Zh8:Zc5.okA yc 171 0:=Zy ZJ5 [] [] trivial
def XY(F:Nat)(s:(Int×(yL yV))):yO ((Int×(yL yV))⊕(yL yV)):=
 if(decide (s.1 < 64))=true then
  (idx s.2 (wi (s.1 - 15))).bind λe303=>
  (idx s.2 (wi (s.1 - 2))).bind λe304=>
  (ZM F e303 7).bind λo305=>
  (ZM F e303 18).bind λo306=>
  (ZM F e304 17).bind λo307=>
  (ZM F e304 19).bind λo308=>
  (idx s.2 (wi (s.1 - 16))).bind λe309=>
  (idx s.2 (wi (s.1 - 7))).bind λe310=>
  let y311:yV:=(e309+((o305^^^o306)^^^(Zfh e303 3)))+e310
  if(apB s.2.length 1 4)=true then
   let y312:(yL yV):=s.2++([y311+((o307^^^o308)^^^(Zfh e304 10))]:yL yV)
   some (.inl (wi (s.1+1),y312))
  else
  none
 else
 some (.inr s.2)
def Zc6:Lp:=⟨[(3,.own 0 .u32),(5,.v yI)],[.log .u32 160],[yI,(.sl .u32)],[⟨.exit 2,[(3,.own 0 .u32)],[.log .u32 160],[(.sl .u32)]⟩],Zf (XY yD) yD⟩
theorem Zh9:Zc6.okA yc 171 1:=Zy ZJ5 [] [Za7] ⟨Zet,ytt⟩
def V2(F:Nat)(a0:(yL yB)):yO ((yL yV)):=
 (Zf (XX F) F (a0,0,[])).bind λo302=>
 (Zf (XY F) F (16,o302)).bind λo313=>
 some o313
def Zeu:Fs yc:=⟨171,[.v (.sl .u8)],[],[(.sl .u8)],(zZ (.sl .u32)),λx=>V2 yD x⟩
theorem Zkv:Zeu.Ok:=fnO ZJ5 [(0,Zc5),(1,Zc6)] [] trivial ⟨Zh8,Zh9,ytt⟩
def Zbv(F:Nat):yO ((yL yV)):=
 some [1116352408,1899447441,3049323471,3921009573,961987163,1508970993,2453635748,2870763221,3624381080,310598401,607225278,1426881987,1925078388,2162078206,2614888103,3248222580,3835390401,4022224774,264347078,604807628,770255983,1249150122,1555081692,1996064986,2554220882,2821834349,2952996808,3210313671,3336571891,3584528711,113926993,338241895,666307205,773529912,1294757372,1396182291,1695183700,1986661051,2177026350,2456956037,2730485921,2820302411,3259730800,3345764771,3516065817,3600352804,4094571909,275423344,430227734,506948616,659060556,883997877,958139571,1322822218,1537002063,1747873779,1955562222,2024104815,2227730452,2361852424,2428436474,2756734187,3204031479,3329325298]
def Zfj:Fs yc:=⟨172,[],[],[],(zZ (.sl .u32)),λx=>Zbv yD⟩
theorem Zlu:Zfj.Ok:=fnO { still:=[0]} [] [] trivial
def XZ(F:Nat)(s:((yL yV)×(yL yV)×(yL yV)×Int×(yL Unit)×(yL yV))):yO (((yL yV)×(yL yV)×(yL yV)×Int×(yL Unit)×(yL yV))⊕((yL yV)×(yL Unit)×(yL yV))):=
 if(decide (s.2.2.2.1 < 64))=true then
  if(inB 4 s.2.2.2.2.2.length)=true then
   (s.2.2.2.2.2[4]?).bind λe316=>
   (ZM F e316 6).bind λo317=>
   if(inB 4 s.2.2.2.2.2.length)=true then
    (s.2.2.2.2.2[4]?).bind λe318=>
    (ZM F e318 11).bind λo319=>
    if(inB 4 s.2.2.2.2.2.length)=true then
     (s.2.2.2.2.2[4]?).bind λe320=>
     (ZM F e320 25).bind λo321=>
     if(inB 4 s.2.2.2.2.2.length)=true then
      (s.2.2.2.2.2[4]?).bind λe322=>
      if(inB 5 s.2.2.2.2.2.length)=true then
       (s.2.2.2.2.2[5]?).bind λe323=>
       if(inB 4 s.2.2.2.2.2.length)=true then
        (s.2.2.2.2.2[4]?).bind λe324=>
        if(inB 6 s.2.2.2.2.2.length)=true then
         (s.2.2.2.2.2[6]?).bind λe325=>
         let y326:yV:=(e322&&&e323)^^^((4294967295^^^e324)&&&e325)
         if(inB 7 s.2.2.2.2.2.length)=true then
          (s.2.2.2.2.2[7]?).bind λe327=>
          (idx s.2.2.1 s.2.2.2.1).bind λe328=>
          let y329:yV:=((e327+((o317^^^o319)^^^o321))+y326)+e328
          (idx s.2.1 s.2.2.2.1).bind λe330=>
          if(inB 0 s.2.2.2.2.2.length)=true then
           (s.2.2.2.2.2[0]?).bind λe331=>
           (ZM F e331 2).bind λo332=>
           if(inB 0 s.2.2.2.2.2.length)=true then
            (s.2.2.2.2.2[0]?).bind λe333=>
            (ZM F e333 13).bind λo334=>
            if(inB 0 s.2.2.2.2.2.length)=true then
             (s.2.2.2.2.2[0]?).bind λe335=>
             (ZM F e335 22).bind λo336=>
             if(inB 0 s.2.2.2.2.2.length)=true then
              (s.2.2.2.2.2[0]?).bind λe337=>
              if(inB 1 s.2.2.2.2.2.length)=true then
               (s.2.2.2.2.2[1]?).bind λe338=>
               if(inB 0 s.2.2.2.2.2.length)=true then
                (s.2.2.2.2.2[0]?).bind λe339=>
                if(inB 2 s.2.2.2.2.2.length)=true then
                 (s.2.2.2.2.2[2]?).bind λe340=>
                 if(inB 1 s.2.2.2.2.2.length)=true then
                  (s.2.2.2.2.2[1]?).bind λe341=>
                  if(inB 2 s.2.2.2.2.2.length)=true then
                   (s.2.2.2.2.2[2]?).bind λe342=>
                   let y343:yV:=((e337&&&e338)^^^(e339&&&e340))^^^(e341&&&e342);let y344:yV:=((y329+e330)+((o332^^^o334)^^^o336))+y343
                   if(inB 0 s.2.2.2.2.2.length)=true then
                    (s.2.2.2.2.2[0]?).bind λe345=>
                    if(inB 1 s.2.2.2.2.2.length)=true then
                     (s.2.2.2.2.2[1]?).bind λe346=>
                     if(inB 2 s.2.2.2.2.2.length)=true then
                      (s.2.2.2.2.2[2]?).bind λe347=>
                      if(inB 3 s.2.2.2.2.2.length)=true then
                       (s.2.2.2.2.2[3]?).bind λe348=>
                       if(inB 4 s.2.2.2.2.2.length)=true then
                        (s.2.2.2.2.2[4]?).bind λe349=>
                        if(inB 5 s.2.2.2.2.2.length)=true then
                         (s.2.2.2.2.2[5]?).bind λe350=>
                         if(inB 6 s.2.2.2.2.2.length)=true then
                          (s.2.2.2.2.2[6]?).bind λe351=>
                          some (.inl (s.1,s.2.1,s.2.2.1,wi (s.2.2.2.1+1),()::s.2.2.2.2.1,[y344,e345,e346,e347,e348+(y329+e330),e349,e350,e351]))
                         else
                         none
                        else
                        none
                       else
                       none
                      else
                      none
                     else
                     none
                    else
                    none
                   else
                   none
                  else
                  none
                 else
                 none
                else
                none
               else
               none
              else
              none
             else
             none
            else
            none
           else
           none
          else
          none
         else
         none
        else
        none
       else
       none
      else
      none
     else
     none
    else
    none
   else
   none
  else
  none
 else
 some (.inr (s.1,s.2.2.2.2.1,s.2.2.2.2.2))
def Zc7:Lp:=⟨[(0,.v (.sl .u32)),(5,.v (.sl .u32)),(6,.v (.sl .u32)),(7,.rw 0),(8,.v yI)],[.row .u32 true 160],[(.sl .u32),(.sl .u32),(.sl .u32),yI,(.sl (.st [])),(.sl .u32)],[⟨.exit 0,[(0,.v (.sl .u32)),(7,.rw 0)],[.row .u32 true 160],[(.sl .u32),(.sl (.st [])),(.sl .u32)]⟩],Zf (XZ yD) yD⟩
def ZJ6:HI:={ own:=[18,20],still:=[4,15,27,31,36,74,78,83],rowt:=[7,18,20,137,142],rew:=[(137,7)]}
theorem Zia:Zc7.okA yc 130 0:=Zy ZJ6 [] [Za7] ⟨Zet,ytt⟩
def X0(F:Nat)(s:((yL yV)×Int×(yL Unit)×(yL yV))):yO (((yL yV)×Int×(yL Unit)×(yL yV))⊕((yL Unit)×(yL yV))):=
 if(decide (s.2.1 < 8))=true then
  if(inB s.2.1 s.2.2.2.length)=true then
   (s.2.2.2[s.2.1.toNat]?).bind λe353=>
   (idx s.1 s.2.1).bind λe354=>
   if(inB s.2.1 s.2.2.2.length)=true then
    (s.2.2.2[s.2.1.toNat]?).bind λe355=>
    some (.inl (s.1,wi (s.2.1+1),s.2.2.1,s.2.2.2.set s.2.1.toNat (e353+e354)))
   else
   none
  else
  none
 else
 some (.inr (s.2.2.1,s.2.2.2))
def Zc8:Lp:=⟨[(0,.v (.sl .u32)),(7,.rw 0),(14,.v yI)],[.row .u32 true 160],[(.sl .u32),yI,(.sl (.st [])),(.sl .u32)],[⟨.exit 2,[(7,.rw 0)],[.row .u32 true 160],[(.sl (.st [])),(.sl .u32)]⟩],Zf (X0 yD) yD⟩
theorem Zib:Zc8.okA yc 130 1:=Zy ZJ6 [] [] trivial
def V3(F:Nat)(a0:(yL yV))(a1:(yL yB)):yO ((yL yV)):=
 (V2 F a1).bind λo314=>
 (Zbv F).bind λo315=>
 if(apB 0 a0.length 4)=true then
  (Zf (XZ F) F (a0,o314,o315,0,[()],a0)).bind λo352=>
  (Zf (X0 F) F (o352.1,0,o352.2.1,o352.2.2)).bind λo356=>
  some o356.2
 else
 none
def Zev:Fs yc:=⟨130,[.v (.sl .u32),.v (.sl .u8)],[],[(.sl .u32),(.sl .u8)],(zZ (.sl .u32)),λx=>V3 yD x.1 x.2⟩
theorem Zkw:Zev.Ok:=fnO ZJ6 [(0,Zc7),(1,Zc8)] [Zeu,Zfj] ⟨Zkv,Zlu,ytt⟩ ⟨Zia,Zib,ytt⟩
def Wi(F:Nat)(s:((yL yB)×(yL yV)×Int×(yL yB))):yO (((yL yB)×(yL yV)×Int×(yL yB))⊕((yL yV)×(yL yB))):=
 if(decide (s.2.2.1 < (s.1.length:Int)))=true then
  if(VZ s.1.length (some s.2.2.1) (some (wi (s.2.2.1+64))))=true then
   let y359:(yL yB):=(s.1.take ((wi (s.2.2.1+64)).toNat)).drop s.2.2.1.toNat
   (V3 F s.2.1 y359).bind λo360=>
   some (.inl (s.1,o360,wi (s.2.2.1+64),s.2.2.2))
  else
  none
 else
 some (.inr (s.2.1,s.2.2.2))
def Zew:Lp:=⟨[(2,.ref 0 []),(3,.v (.sl .u8)),(4,.v (.sl .u32)),(5,.v yI)],[.var (.v (.arr 32 .u8)) true],[(.sl .u8),(.sl .u32),yI,(.arr 32 .u8)],[⟨.exit 0,[(2,.ref 0 []),(4,.v (.sl .u32))],[.var (.v (.arr 32 .u8)) true],[(.sl .u32),(.arr 32 .u8)]⟩],Zf (Wi yD) yD⟩
theorem ZiK:Zew.okA yc 70 0:=Zy { still:=[8,17,22]} [] [Zev] ⟨Zkw,ytt⟩
def Wj(F:Nat)(s:((yL yV)×Int×(yL yB)×(yL yB))):yO (((yL yV)×Int×(yL yB)×(yL yB))⊕((yL yB)×(yL yB))):=
 if(decide (s.2.1 < 32))=true then
  (idx s.1 (wi (Int.tdiv s.2.1 4))).bind λe362=>
  if(decide (0<=wi (24 - (wi (8*(Int.tmod s.2.1 4))))))=true then
   let y363:yV:=Zfh e362 (min (wi (24 - (wi (8*(Int.tmod s.2.1 4))))).toNat 32)
   if(inB s.2.1 32)=true then
    (s.2.2.2[s.2.1.toNat]?).bind λe364=>
    some (.inl (s.1,wi (s.2.1+1),s.2.2.1,s.2.2.2.set s.2.1.toNat (w8 (y363.toNat:Int))))
   else
   none
  else
  none
 else
 some (.inr (s.2.2.1,s.2.2.2))
def Zex:Lp:=⟨[(2,.ref 0 []),(4,.v (.sl .u32)),(6,.ref 1 []),(7,.v yI)],[.var (.v (.arr 32 .u8)) true,.var (.v (.arr 32 .u8)) true],[(.sl .u32),yI,(.arr 32 .u8),(.arr 32 .u8)],[⟨.exit 2,[(2,.ref 0 []),(6,.ref 1 [])],[.var (.v (.arr 32 .u8)) true,.var (.v (.arr 32 .u8)) true],[(.arr 32 .u8),(.arr 32 .u8)]⟩],Zf (Wj yD) yD⟩
theorem ZiL:Zex.okA yc 70 1:=Zy { still:=[8,17,22]} [] [] trivial
def Ve(F:Nat)(a0:(yL yB)):yO ((yL yB)):=
 (VE F a0).bind λo357=>
 (Zau F).bind λo358=>
 (Zf (Wi F) F (o357,o358,0,yzz)).bind λo361=>
 (Zf (Wj F) F (o361.1,0,o361.2,yzz)).bind λo365=>
 some o365.2
def Zav(F:Nat):Fs yc:=⟨70,[.v (.sl .u8)],[],[(.sl .u8)],(zZ (.arr 32 .u8)),λx=>Ve F x⟩
def Zmv:Fs yc:=Zav yD
theorem Zlv:Zmv.Ok:=fnO { still:=[8,17,22]} [(0,Zew),(1,Zex)] [Zc3,Zc4] ⟨ZjP,ZjQ,ytt⟩ ⟨ZiK,ZiL,ytt⟩
end
end Go.Proofs.YtghfiijgklnflaaGreat
end
section
set_option maxRecDepth 4000
namespace Go.Ev
theorem ZCn{I X:Type}{step:I->yO (I⊕X)}{st:Nat->I}{x:X}(n:Nat)(hs:∀k,k < n->step (st k)=some (.inl (st (k+1))))(he:step (st n)=some (.inr x)):∀(d k f:Nat),k+d=n->d < f->Zf step f (st k)=some x
 |0,k,f+1,h,_=>by
  have e:k=n:=by omega
  subst e;unfold Zf
  rw[he,ya]
 |d+1,k,f+1,h,hf=>by
  unfold Zf;rw[hs k (by omega),ya];exact ZCn n hs he d (k+1) f (by omega) (by omega)
theorem ZC{I X:Type}{step:I->yO (I⊕X)}(n:Nat)(st:Nat->I){x:X}(hs:∀k,k < n->step (st k)=some (.inl (st (k+1))))(he:step (st n)=some (.inr x))(hn:n < 18446744073709551616):
 Zf step yD (st 0)=some x:=ZCn n hs he n 0 yD (by omega) (by rw[ZfI];exact hn)
theorem ZyZ{I X:Type}{step:I->yO (I⊕X)}{Post:X->Prop}(n:Nat)(S:Nat->I->Prop)(hs:∀k s,k < n->S k s->(∃t,step s=some (.inl t)/\S (k+1) t)\/∃x,step s=some (.inr x)/\Post x)
 (he:∀s,S n s->∃x,step s=some (.inr x)/\Post x):∀(d k f:Nat)(s:I),k+d=n->d < f->S k s->∃x,Zf step f s=some x/\Post x
 |0,k,f+1,s,h,_,hS=>by
  have e:k=n:=by omega
  subst e;obtain⟨x,h1,h2⟩:=he s hS;unfold Zf;rw[h1,ya]
  exact⟨x,rfl,h2⟩
 |d+1,k,f+1,s,h,hf,hS=>by
  unfold Zf;rcases hs k s (by omega) hS with⟨t,h1,h2⟩|⟨x,h1,h2⟩
  ·rw[h1,ya];exact ZyZ n S hs he d (k+1) f t (by omega) (by omega) h2
  ·rw[h1,ya];exact⟨x,rfl,h2⟩
theorem Z9{I X:Type}{step:I->yO (I⊕X)}(n:Nat)(S:Nat->I->Prop)(Post:X->Prop){i:I}(h0:S 0 i)(hn:n < 18446744073709551616)
 (hs:∀k s,k < n->S k s->(∃t,step s=some (.inl t)/\S (k+1) t)\/∃x,step s=some (.inr x)/\Post x)
 (he:∀s,S n s->∃x,step s=some (.inr x)/\Post x):∃x,Zf step yD i=some x/\Post x:=ZyZ n S hs he n 0 yD i (by omega) (by rw[ZfI];exact hn) h0
theorem ZD{a b:Nat}(h:a < b):decide ((a:Int) < (b:Int))=true:=yY (by omega)
theorem Zx{a:Nat}:decide ((a:Int) < (a:Int))=false:=yZ (by omega)
theorem Zj{k:Nat}(h:k < 9223372036854775807):wi ((k:Int)+1)=((k+1:Nat):Int):=by
 rw[Yj (by omega) (by omega)];omega
theorem Zs{α:Type}{l:yL α}{k:Nat}{y:α}(h:l[k]? =some y):idx l (k:Int)=some y:=Zof (by omega) (by simpa using h)
theorem Zvl{α:Type}{ls:yL (yL α)}{k:Nat}{e:yL α}(h:ls[k]? =some e):(ls.take (k+1)).flatten=(ls.take k).flatten++e:=by
 rw[List.take_add_one,h];simp
theorem ZCo{α:Type}(ls:yL (yL α))(k:Nat):(ls.take k).flatten.length<=ls.flatten.length:=by
 have h:=congrArg (λl=>(List.flatten l).length) (ybl k ls);simp only[List.flatten_append,yj] at h;omega
theorem YW{α:Type}{l:yL α}{k:Nat}{e:α}(h:l[k]? =some e):l.take (k+1)=l.take k++[e]:=by
 rw[List.take_add_one,h];rfl
theorem Zh{α:Type}{l:yL α}{k:Nat}(h:k < l.length):∃e,l[k]? =some e/\e∈l:=⟨l[k],List.getElem?_eq_getElem h,List.getElem_mem h⟩
end Go.Ev
end
section
set_option maxRecDepth 4000
namespace Go.Proofs.YtghfiijgklnflaaGreat
open Go Go.Ev Go.Sha
theorem Zd9(x:yV)(n k:Nat)(h:n+k=32)(hn:0 < n){z:Int}(hz:z=(n:Int)):∃o,ZM yD x z=some o/\o.toNat=lo (yak (dbl x.toNat) n):=by
 subst hz;unfold ZM;rw[Yj (z:=32 - (n:Int)) (by omega) (by omega),yW (yY (by omega)),yW (yY (by omega))];refine⟨_,rfl, ?_⟩;have e1:min ((n:Int)).toNat 32=n:=by omega
 have e2:min (32 - (n:Int)).toNat 32=k:=by omega
 rw[e1,e2,UInt32.or_comm];exact ZIJ x h hn
theorem ZJ7(a b c d:yB):((((ZbK (ybv a.toNat) 24)|||(ZbK (ybv b.toNat) 16))|||(ZbK (ybv c.toNat) 8))|||(ybv d.toNat)).toNat=((a.toNat*256+b.toNat)*256+c.toNat)*256+d.toNat:=by
 have h1:=a.toNat_lt;have h2:=b.toNat_lt;have h3:=c.toNat_lt;have h4:=d.toNat_lt
 have hs:∀(x:yB)(n:Nat),n<=24->(ZbK (ybv x.toNat) n).toNat=x.toNat*2 ^ n:=by
  intro x n hn;have hx:=x.toNat_lt;unfold ZbK;rw[ycr,ycr,yap (a:=x.toNat) (by omega)];refine yap ?_
  calc x.toNat*2 ^ n < 2 ^ 8*2 ^ n:=Nat.mul_lt_mul_of_pos_right hx (Nat.two_pow_pos n)
   _=2 ^ (8+n):=(Nat.pow_add ..).symm
   _<=2 ^ 32:=Nat.pow_le_pow_right (by omega) (by omega)
 rw[ZwQ,ZwQ,ZwQ,hs _ _ (by omega),hs _ _ (by omega),hs _ _ (by omega),ycr,yap (a:=d.toNat) (by omega)]
 have k1:Nat.lor (a.toNat*2 ^ 24) (b.toNat*2 ^ 16)=2 ^ 16*(a.toNat*256+b.toNat):=by
  rw[ybt a.toNat,show Nat.lor (2 ^ 24*a.toNat) (b.toNat*2 ^ 16)=2 ^ 24*a.toNat|||b.toNat*2 ^ 16 from rfl, <-ydc (by omega)]
  omega
 have k2:Nat.lor (2 ^ 16*(a.toNat*256+b.toNat)) (c.toNat*2 ^ 8)=2 ^ 8*((a.toNat*256+b.toNat)*256+c.toNat):=by
  rw[show Nat.lor (2 ^ 16*(a.toNat*256+b.toNat)) (c.toNat*2 ^ 8)=2 ^ 16*(a.toNat*256+b.toNat)|||c.toNat*2 ^ 8 from rfl, <-ydc (by omega)]
  omega
 rw[k1,k2,show Nat.lor (2 ^ 8*((a.toNat*256+b.toNat)*256+c.toNat)) d.toNat=2 ^ 8*((a.toNat*256+b.toNat)*256+c.toNat)|||d.toNat from rfl, <-ydc (by omega)]
 omega
theorem ZK6(e f g:yV):((e&&&f)^^^((4294967295^^^e)&&&g)).toNat=ch e.toNat f.toNat g.toNat:=by
 rw[<-ZKV];congr 1;apply UInt32.toBitVec_inj.1;apply BitVec.eq_of_getLsbD_eq;intro i hi
 have h1:(4294967295:yV).toBitVec.getLsbD i=true:=by
  rw[show(4294967295:yV).toBitVec=BitVec.allOnes 32 from rfl,BitVec.getLsbD_allOnes]
  exact yY hi
 simp only[UInt32.toBitVec_xor,UInt32.toBitVec_and,BitVec.getLsbD_xor,BitVec.getLsbD_and,h1];cases e.toBitVec.getLsbD i <;> cases f.toBitVec.getLsbD i <;> cases g.toBitVec.getLsbD i <;> rfl
theorem ZK7(a b c:yV):(((a&&&b)^^^(a&&&c))^^^(b&&&c)).toNat=mj a.toNat b.toNat c.toNat:=by
 rw[<-ZKW];congr 1;apply UInt32.toBitVec_inj.1;apply BitVec.eq_of_getLsbD_eq;intro i hi;simp only[UInt32.toBitVec_xor,UInt32.toBitVec_and,UInt32.toBitVec_or,BitVec.getLsbD_xor,BitVec.getLsbD_and,BitVec.getLsbD_or];cases a.toBitVec.getLsbD i <;> cases b.toBitVec.getLsbD i <;> cases c.toBitVec.getLsbD i <;> rfl
theorem ZGn{l:yL yB}(h:l.length=64):∃o,V2 yD l=some o/\o.length=64/\∀(i:Nat)x,o[i]? =some x->x.toNat=wd (Yz (l.map yam)) i:=by
 unfold V2
 have hset:∀(w:yL yV)(y:yV),y.toNat=wd (Yz (l.map yam)) w.length->(∀(j:Nat)x,w[j]? =some x->x.toNat=wd (Yz (l.map yam)) j)->∀(j:Nat)x,(w++[y])[j]? =some x->x.toNat=wd (Yz (l.map yam)) j:=by
  intro w y hy hw j x hx;by_cases hj:j < w.length
  ·rw[List.getElem?_append_left hj] at hx;exact hw j x hx
  ·rw[List.getElem?_append_right (by omega)] at hx
   have:j=w.length:=by
    have:=(List.getElem?_eq_some_iff.1 hx).1;simp at this;omega
   subst this;rw[Nat.sub_self] at hx;cases hx;exact hy
 obtain⟨w0,g1,g2,g3⟩:=Z9 (step:=XX yD) 16 (λk s=>∃w,s=(l,(k:Int),w)/\w.length=k/\∀(j:Nat)x,w[j]? =some x->x.toNat=wd (Yz (l.map yam)) j) (λw=>w.length=16/\∀(j:Nat)x,w[j]? =some x->x.toNat=wd (Yz (l.map yam)) j) (i:=(l,(0:Int),([]:yL yV))) ⟨_,rfl,rfl,λj x hx=>by simp at hx⟩ (by omega) (by
  rintro k _ hk ⟨w,rfl,hw,hv⟩;left;obtain⟨x0,q0,_⟩:=Zh (l:=l) (k:=4*k) (by omega);obtain⟨x1,q1,_⟩:=Zh (l:=l) (k:=4*k+1) (by omega);obtain⟨x2,q2,_⟩:=Zh (l:=l) (k:=4*k+2) (by omega);obtain⟨x3,q3,_⟩:=Zh (l:=l) (k:=4*k+3) (by omega);unfold XX;dsimp only;rw[Yj (z:=4*(k:Int)) (by omega) (by omega),Yj (z:=4*(k:Int)+1) (by omega) (by omega),Yj (z:=4*(k:Int)+2) (by omega) (by omega),Yj (z:=4*(k:Int)+3) (by omega) (by omega)]
  rw[yW (yY (by omega)),show 4*(k:Int)=((4*k:Nat):Int) by omega,show((4*k:Nat):Int)+1=((4*k+1:Nat):Int) by omega,show((4*k:Nat):Int)+2=((4*k+2:Nat):Int) by omega,show((4*k:Nat):Int)+3=((4*k+3:Nat):Int) by omega,
   Zs q0,ya,Zs q1,ya,Zs q2,ya,Zs q3,ya,yW (ZF (by omega) (by omega)),Zj (by omega)]
  refine⟨_,rfl,_,rfl,by rw[yj,List.length_singleton];omega,hset w _ ?_ hv⟩;have mg:∀(k:Nat)(x:yB),l[k]? =some x->(l.map yam)[k]? =some x.toNat:=λk x hx=>by rw[yal,hx];rfl
  have hwg:=Zlc k (l.map yam) _ _ _ _ (mg _ _ q0) (mg _ _ q1) (mg _ _ q2) (mg _ _ q3);rw[ZJ7,hw];have b0:=x0.toNat_lt;have b1:=x1.toNat_lt;have b2:=x2.toNat_lt;have b3:=x3.toNat_lt;exact(ZyO _ (by omega) hwg (by omega)).symm) (by
  rintro _ ⟨w,rfl,hw,hv⟩;unfold XX;dsimp only;rw[yX (ynd (by omega))];exact⟨_,rfl,hw,hv⟩)
 rw[g1,ya]
 obtain⟨w1,k1,k2,k3⟩:=Z9 (step:=XY yD) 48 (λk s=>∃w,s=(((16+k:Nat):Int),w)/\w.length=16+k/\∀(j:Nat)x,w[j]? =some x->x.toNat=wd (Yz (l.map yam)) j) (λw=>w.length=64/\∀(j:Nat)x,w[j]? =some x->x.toNat=wd (Yz (l.map yam)) j) (i:=((16:Int),w0)) ⟨_,rfl,g2,g3⟩ (by omega) (by
  rintro k _ hk ⟨w,rfl,hw,hv⟩;left;obtain⟨e1,he1,_⟩:=Zh (l:=w) (k:=k+1) (by omega);obtain⟨e2,he2,_⟩:=Zh (l:=w) (k:=k+14) (by omega);obtain⟨e3,he3,_⟩:=Zh (l:=w) (k:=k) (by omega);obtain⟨e4,he4,_⟩:=Zh (l:=w) (k:=k+9) (by omega);obtain⟨o1,ho1,p1⟩:=Zd9 e1 7 25 rfl (by omega) (z:=7) rfl;obtain⟨o2,ho2,p2⟩:=Zd9 e1 18 14 rfl (by omega) (z:=18) rfl;obtain⟨o3,ho3,p3⟩:=Zd9 e2 17 15 rfl (by omega) (z:=17) rfl;obtain⟨o4,ho4,p4⟩:=Zd9 e2 19 13 rfl (by omega) (z:=19) rfl;unfold XY;dsimp only;rw[yW (yY (by omega)),Yj (z:=((16+k:Nat):Int) - 15) (by omega) (by omega),Yj (z:=((16+k:Nat):Int) - 2) (by omega) (by omega),Yj (z:=((16+k:Nat):Int) - 16) (by omega) (by omega),Yj (z:=((16+k:Nat):Int) - 7) (by omega) (by omega)];rw[show((16+k:Nat):Int) - 15=((k+1:Nat):Int) by omega,show((16+k:Nat):Int) - 2=((k+14:Nat):Int) by omega,show((16+k:Nat):Int) - 16=(k:Int) by omega,show((16+k:Nat):Int) - 7=((k+9:Nat):Int) by omega]
  rw[Zs he1,ya,Zs he2,ya,ho1,ya,ho2,ya,ho3,ya,ho4,ya,Zs he3,ya,Zs he4,ya,
   yW (ZF (by omega) (by omega)),Zj (by omega)]
  refine⟨_,rfl,_,rfl,by rw[yj,List.length_singleton];omega,hset w _ ?_ hv⟩;have hn:=ZwR (Yz (l.map yam)) k;rw[<-hv _ _ he1, <-hv _ _ he2, <-hv _ _ he3, <-hv _ _ he4] at hn;rw[hw,Nat.add_comm 16 k,hn,Za1,Za1,Za1,ZKR e1 p1 p2,ZKS e2 p3 p4];exact ZKX ..) (by
  rintro _ ⟨w,rfl,hw,hv⟩;unfold XY;dsimp only;rw[yX (ynd (by omega))];exact⟨_,rfl,hw,hv⟩)
 rw[k1,ya];exact⟨_,rfl,k2,k3⟩
theorem ZGo{st:yL yV}{l:yL yB}(hs:st.length=8)(h:l.length=64):∃o,V3 yD st l=some o/\o.map yaq=ZjG (st.map yaq) (Yz (l.map yam)):=by
 unfold V3;obtain⟨w,hw,hwl,hwv⟩:=ZGn h;obtain⟨k,hk,hkv⟩:∃k,Zbv yD=some k/\k.map yaq=ks:=⟨_,rfl,rfl⟩;have hkl:k.length=64:=by rw[<-yaa (f:=yaq),hkv];rfl
 generalize hws:Yz (l.map yam)=ws at hwv;rw[hw,ya,hk,ya,yW (ZF (by omega) (by omega))]
 obtain⟨x,g1,u,v,rfl,g2,g3⟩:=Z9 (step:=XZ yD) 64 (λi s=>∃u v,s=(st,w,k,(i:Int),u,v)/\v.length=8/\v.map yaq=rs ws (st.map yaq) i) (λx=>∃u v,x=(st,u,v)/\v.length=8/\v.map yaq=rs ws (st.map yaq) 64) (i:=(st,w,k,(0:Int),([()]:yL Unit),st)) ⟨_,_,rfl,hs,rfl⟩ (by omega) (by
  rintro i _ hi ⟨u,v,rfl,he,hv⟩;left
  match v,he,hv with
  |[x0,x1,x2,x3,x4,x5,x6,x7],_,hv=>
   obtain⟨e1,he1,_⟩:=Zh (l:=k) (k:=i) (by omega);obtain⟨e2,he2,_⟩:=Zh (l:=w) (k:=i) (by omega);obtain⟨o1,ho1,p1⟩:=Zd9 x4 6 26 rfl (by omega) (z:=6) rfl;obtain⟨o2,ho2,p2⟩:=Zd9 x4 11 21 rfl (by omega) (z:=11) rfl;obtain⟨o3,ho3,p3⟩:=Zd9 x4 25 7 rfl (by omega) (z:=25) rfl;obtain⟨o4,ho4,p4⟩:=Zd9 x0 2 30 rfl (by omega) (z:=2) rfl;obtain⟨o5,ho5,p5⟩:=Zd9 x0 13 19 rfl (by omega) (z:=13) rfl;obtain⟨o6,ho6,p6⟩:=Zd9 x0 22 10 rfl (by omega) (z:=22) rfl;have hb:∀n:Nat,n < 8->inB (n:Int) ([x0,x1,x2,x3,x4,x5,x6,x7]:yL yV).length=true:=λn hn=>Xr (by omega) (by simp;omega);have b0:=hb 0 (by omega);have b1:=hb 1 (by omega);have b2:=hb 2 (by omega);have b3:=hb 3 (by omega);have b4:=hb 4 (by omega);have b5:=hb 5 (by omega);have b6:=hb 6 (by omega);have b7:=hb 7 (by omega);unfold XZ;dsimp only;generalize ZM yD=R at ho1 ho2 ho3 ho4 ho5 ho6 ⊢;rw[yW (yY (by omega))];have c0:inB 0 ([x0,x1,x2,x3,x4,x5,x6,x7]:yL yV).length=true:=b0;have c1:inB 1 ([x0,x1,x2,x3,x4,x5,x6,x7]:yL yV).length=true:=b1;have c2:inB 2 ([x0,x1,x2,x3,x4,x5,x6,x7]:yL yV).length=true:=b2;have c3:inB 3 ([x0,x1,x2,x3,x4,x5,x6,x7]:yL yV).length=true:=b3;have c4:inB 4 ([x0,x1,x2,x3,x4,x5,x6,x7]:yL yV).length=true:=b4;have c5:inB 5 ([x0,x1,x2,x3,x4,x5,x6,x7]:yL yV).length=true:=b5;have c6:inB 6 ([x0,x1,x2,x3,x4,x5,x6,x7]:yL yV).length=true:=b6;have c7:inB 7 ([x0,x1,x2,x3,x4,x5,x6,x7]:yL yV).length=true:=b7;simp only[c0,c1,c2,c3,c4,c5,c6,c7,if_true,ybx,ybb,ya,ho1,ho2,ho3,ho4,ho5,ho6,Zs he1,Zs he2];rw[Zj (by omega)];refine⟨_,rfl,_,_,rfl,rfl, ?_⟩;rw[show rs ws (st.map yaq) (i+1)=rnd (rs ws (st.map yaq) i) (ks.getD i 0) (wd ws i) from rfl, <-hv]
   have hk1:ks.getD i 0=e1.toNat:=by
    rw[<-hkv,ydf,yal,he1];rfl
   rw[hk1, <-hwv i e2 he2];simp only[yah,List.map_nil];rw[ZsF]
   have kt:((x7+((o1^^^o2)^^^o3))+((x4&&&x5)^^^((4294967295^^^x4)&&&x6))+e1+e2).toNat=lo (yr (yr (yr (yr x7.toNat (S1 x4.toNat)) (ch x4.toNat x5.toNat x6.toNat)) e1.toNat) e2.toNat):=by
    rw[Za1,Za1,Za1,Za1,ZKU x4 p1 p2 p3,ZK6];exact ZKY ..
   have ka:((x7+((o1^^^o2)^^^o3))+((x4&&&x5)^^^((4294967295^^^x4)&&&x6))+e1+e2+((o4^^^o5)^^^o6)+(((x0&&&x1)^^^(x0&&&x2))^^^(x1&&&x2))).toNat=lo (yr (yr (yr (yr (yr (yr x7.toNat (S1 x4.toNat)) (ch x4.toNat x5.toNat x6.toNat)) e1.toNat) e2.toNat) (S0 x0.toNat)) (mj x0.toNat x1.toNat x2.toNat)):=by
    rw[Za1,Za1,kt,ZKT x0 p4 p5 p6,ZK7];exact ZKZ ..
   have ke:(x3+(((x7+((o1^^^o2)^^^o3))+((x4&&&x5)^^^((4294967295^^^x4)&&&x6)))+e1+e2)).toNat=lo (yr x3.toNat (yr (yr (yr (yr x7.toNat (S1 x4.toNat)) (ch x4.toNat x5.toNat x6.toNat)) e1.toNat) e2.toNat)):=by
    rw[Za1,kt];exact ZK0 ..
   rw[ka,ke]) (by
  rintro _ ⟨u,v,rfl,he,hv⟩;unfold XZ;dsimp only;rw[yX (ynd (by omega))];exact⟨_,rfl,_,_,rfl,he,hv⟩)
 rw[g1,ya];have hml:(ZjG (st.map yaq) ws).length=8:=Zgx (by rw[yaa];exact hs)
 obtain⟨x,q1,q2⟩:=Z9 (step:=X0 yD) 8 (λi s=>∃e,s=(st,(i:Int),u,e)/\e.length=8/\∀(j:Nat)x,e[j]? =some x->if j < i then(ZjG (st.map yaq) ws)[j]? =some x.toNat else(rs ws (st.map yaq) 64)[j]? =some x.toNat) (λx=>x.2.map yaq=ZjG (st.map yaq) ws) (i:=(st,(0:Int),u,v)) ⟨_,rfl,g2,λj x hx=>by
  rw[yX (by omega), <-g3,yal,hx];rfl⟩ (by omega) (by
  rintro i _ hi ⟨e,rfl,he,hv⟩;left;obtain⟨e1,he1,_⟩:=Zh (l:=e) (k:=i) (by omega);obtain⟨e2,he2,_⟩:=Zh (l:=st) (k:=i) (by omega);unfold X0;dsimp only;rw[yW (yY (by omega)),yW (Xr (by omega) (by omega)),yaj,he1,ya,Zs he2,ya,yW (Xr (by omega) (by omega)),ya,Zj (by omega)];refine⟨_,rfl,_,rfl,by rw[yan];exact he, ?_⟩;intro j x hx;by_cases hji:j=i
  ·subst hji;rw[ycw (by omega)] at hx;cases hx;rw[yW (by omega),Za1];have k1:=hv _ _ he1;rw[yX (by omega)] at k1;unfold ZjG;rw[List.getElem?_zipWith,k1,yal,he2];rfl
  ·rw[ycy (Ne.symm hji)] at hx;have k1:=hv j x hx;by_cases hj:j < i
   ·rw[yW hj] at k1;rw[yW (by omega)];exact k1
   ·rw[yX hj] at k1;rw[yX (by omega)];exact k1) (by
  rintro _ ⟨e,rfl,he,hv⟩;unfold X0;dsimp only;rw[yX (ynd (by omega))];refine⟨_,rfl, ?_⟩;dsimp only;apply ybk;intro j;rw[yal];by_cases hj:j < 8
  ·obtain⟨x,hx,_⟩:=Zh (l:=e) (k:=j) (by omega);have:=hv j x hx;rw[yW hj] at this;rw[hx,this];rfl
  ·rw[ybi (by omega),ybi (by omega)];rfl)
 dsimp only;rw[q1,ya];exact⟨_,rfl,q2⟩
def rb8(n:Nat):yL yB:=(be8 n).map yav
theorem ZAT(n:yU){k:Nat}(hk:k < 8):(rb8 n.toNat)[k]? =some (w8 ((ZI n (56 - 8*k)).toNat:Int)):=by
 have h:∀m:Nat,w8 ((ZI n m).toNat:Int)=yav (n.toNat / 2 ^ m % 256):=by
  intro m;unfold w8 ZI;rw[yax,yap (ydb (Nat.div_le_self _ _) (ybu n))];congr 1
 rw[h]
 match k,hk with
 |0,_=>rfl
 |1,_=>rfl
 |2,_=>rfl
 |3,_=>rfl
 |4,_=>rfl
 |5,_=>rfl
 |6,_=>rfl
 |7,_=>
  show some (yav (n.toNat % 256))=some (yav (n.toNat / 2 ^ 0 % 256));rw[Nat.pow_zero,Nat.div_one]
theorem ZJ8{l:yL yB}(h:l.length<=4294967296):VE yD l=some (l++([128]:yL yB)++yac (zs l.length) 0++rb8 (8*l.length)):=by
 unfold VE;have hlt:l.length % 64 < 64:=Nat.mod_lt _ (by omega);rw[yW (ZF (by omega) (by omega)),yW (ZF (by omega) (by omega))]
 obtain⟨x,h1,h2⟩:=Z9 (step:=XH yD) (zs l.length) (λj s=>s=(l,l++([128]:yL yB)++yac j 0)) (λx=>x=(l,l++([128]:yL yB)++yac (zs l.length) 0)) (i:=(l,l++([128]:yL yB))) (by simp) (by unfold zs;omega) (by
  rintro j _ hj rfl;left;unfold XH;dsimp only;have hl:(l++([128]:yL yB)++yac j 0).length=l.length+1+j:=by rw[yj,yj,ycx];rfl
  have hm:Int.tmod ((l++([128]:yL yB)++yac j 0).length:Int) 64=(((l.length+1+j) % 64:Nat):Int):=by rw[hl];rfl
  rw[hm];unfold zs at hj;rw[yW (by simp;omega),yW (ZF (by omega) (by omega))];exact⟨_,rfl,by rw[yx,List.replicate_succ']⟩) (by
  rintro _ rfl;unfold XH;dsimp only;have hl:(l++([128]:yL yB)++yac (zs l.length) 0).length=l.length+1+zs l.length:=by rw[yj,yj,ycx];rfl
  have hm:Int.tmod ((l++([128]:yL yB)++yac (zs l.length) 0).length:Int) 64=(((l.length+1+zs l.length) % 64:Nat):Int):=by rw[hl];rfl
  rw[hm,yX (by simp;unfold zs;omega)];exact⟨_,rfl,rfl⟩)
 rw[h1,ya,h2];dsimp only;generalize hp:l++([128]:yL yB)++yac (zs l.length) 0=p
 have hpl:p.length<=l.length+65:=by
  rw[<-hp,yj,yj,ycx];unfold zs;simp;omega
 have hn:(8*w64 (l.length:Int)).toNat=8*l.length:=by
  rw[UInt64.toNat_mul];unfold w64;rw[yax];show 8*((((l.length:Nat):Int) % 18446744073709551616).toNat % 2 ^ 64) % 2 ^ 64=_;omega
 generalize hN:8*w64 (l.length:Int)=N at hn
 obtain⟨x,g1,g2⟩:=Z9 (step:=XI yD) 8 (λk s=>s=(N,56 - 8*(k:Int),p++(rb8 N.toNat).take k)) (λx=>x=p++rb8 N.toNat) (i:=(N,(56:Int),p)) (by simp) (by omega) (by
  rintro k _ hk rfl;left;unfold XI;dsimp only;rw[yW (yY (by omega)),yW (yY (by omega)),yW (ZF (by simp;omega) (by simp;omega)),Yj (z:=56 - 8*(k:Int) - 8) (by omega) (by omega)];refine⟨_,rfl, ?_⟩;rw[YW (ZAT N hk),show min (56 - 8*(k:Int)).toNat 64=56 - 8*k by omega,yx,show 56 - 8*((k+1:Nat):Int)=56 - 8*(k:Int) - 8 by omega]) (by
  rintro _ rfl;unfold XI;dsimp only;rw[yX (ynd (by omega))];exact⟨_,rfl,rfl⟩)
 rw[g1,ya,g2,hn]
theorem ZJ9{l:yL yB}(h:l.length<=4294967296):Ve yD l=some (sha l):=by
 unfold Ve;obtain⟨f,hf,hfl⟩:∃f,Zau yD=some f/\f.map yaq=ZdL:=⟨_,rfl,rfl⟩;have hf8:f.length=8:=by rw[<-yaa (f:=yaq),hfl];rfl
 rw[ZJ8 h,ya,hf,ya];generalize hE:l++([128]:yL yB)++yac (zs l.length) 0++rb8 (8*l.length)=E
 have hEm:E.map yam=Zgz l:=by
  unfold Zgz;rw[<-hE];simp only[yau,List.map_replicate,yah,List.map_nil,rb8,List.map_map,yx,List.singleton_append]
  have:be8 (8*l.length)=(be8 (8*l.length)).map (yam ∘ yav):=by
   simp[be8]
  rw[<-this];simp
 have hEl:E.length=64*((l.length+72) / 64):=by rw[<-yaa (f:=yam),hEm,ZsI]
 generalize hz:yzz=z;have hzl:z.length=32:=by rw[<-hz];rfl
 obtain⟨x,h1,v,rfl,g1,g2⟩:=Z9 (step:=Wi yD) ((l.length+72) / 64) (λc s=>∃d,s=(E,d,((64*c:Nat):Int),z)/\d.length=8/\d.map yaq=Zgy c (E.map yam) ZdL) (λx=>∃v,x=(v,z)/\v.length=8/\v.map yaq=Zgy ((l.length+72) / 64) (E.map yam) ZdL) (i:=(E,f,(0:Int),z)) ⟨_,rfl,hf8,hfl⟩ (by omega) (by
  rintro c _ hc ⟨d,rfl,hd,hv⟩;left;unfold Wi;dsimp only;obtain⟨m,hm1,hm2⟩:=ZGo (st:=d) (l:=(E.take (64*c+64)).drop (64*c)) hd (by rw[ybf,yv];omega);rw[yW (yY (by omega)),Yj (z:=((64*c:Nat):Int)+64) (by omega) (by omega),yW (by simp only[VZ,yi,yP];omega),show(((64*c:Nat):Int)+64).toNat=64*c+64 by omega,yaj,hm1,ya];refine⟨_,rfl,_,by rw[show((64*c:Nat):Int)+64=((64*(c+1):Nat):Int) by omega], ?_, ?_⟩
  ·rw[<-yaa (f:=yaq),hm2];exact Zgx (by rw[yaa];exact hd)
  ·rw[hm2,Zmf,hv, <-List.map_drop, <-ycj];congr 3;rw[List.drop_take];congr 1;omega) (by
  rintro _ ⟨d,rfl,hd,hv⟩;unfold Wi;dsimp only;rw[yX (ynd (by omega))];exact⟨_,rfl,_,rfl,hd,hv⟩)
 rw[h1,ya];dsimp only;generalize hv2:Zgy ((l.length+72) / 64) (E.map yam) ZdL=v2 at g2
 obtain⟨x,k1,o,rfl,k2,k3⟩:=Z9 (step:=Wj yD) 32 (λi s=>∃o,s=(v,(i:Int),z,o)/\o.length=32/\∀(j:Nat),j < i->o[j]? =some (Go.Sha.ZF6 v2 j)) (λx=>∃o,x=(z,o)/\o.length=32/\∀(j:Nat),j < 32->o[j]? =some (Go.Sha.ZF6 v2 j)) (i:=(v,(0:Int),z,z)) ⟨_,rfl,hzl,λj hj=>by omega⟩ (by omega) (by
  rintro i _ hi ⟨o,rfl,ho,hv⟩;left;unfold Wj;dsimp only;have e1:Int.tdiv (i:Int) 4=((i / 4:Nat):Int):=rfl;have e2:Int.tmod (i:Int) 4=((i % 4:Nat):Int):=rfl;obtain⟨x1,hx1,_⟩:=Zh (l:=v) (k:=i / 4) (by omega);obtain⟨x2,hx2,_⟩:=Zh (l:=o) (k:=i) (by omega);rw[yW (yY (by omega)),e1,e2,Yj (z:=((i / 4:Nat):Int)) (by omega) (by omega),Yj (z:=8*((i % 4:Nat):Int)) (by omega) (by omega),Yj (z:=24 - 8*((i % 4:Nat):Int)) (by omega) (by omega),Zs hx1,ya,yW (yY (by omega)),yW (Xr (by omega) (by omega)),yaj,hx2,ya,Zj (by omega)];refine⟨_,rfl,_,rfl,by rw[yan];exact ho, ?_⟩;intro j hj;by_cases hji:j=i
  ·subst hji;rw[ycw (by omega)];congr 1;unfold Go.Sha.ZF6
   have hx:v2.getD (j / 4) 0=x1.toNat:=by
    rw[<-g2,ydf,yal,hx1];rfl
   rw[hx,show min (24 - 8*((j % 4:Nat):Int)).toNat 32=24 - 8*(j % 4) by omega,Zvd];unfold w8;have e3:∀m:Nat,(((m:Nat):Int) % 256).toNat=m % 256:=λm=>by omega
   rw[e3,show yak x1.toNat (24 - 8*(j % 4))=x1.toNat >>> (24 - 8*(j % 4)) from rfl,ydg]
   exact UInt8.toNat_inj.1 (by simp)
  ·rw[ycy (Ne.symm hji)];exact hv j (by omega)) (by
  rintro _ ⟨o,rfl,ho,hv⟩;unfold Wj;dsimp only;rw[yX (ynd (by omega))];exact⟨_,rfl,_,rfl,ho,hv⟩)
 rw[k1,ya,ZAN, <-hEm,hv2];congr 1;apply ybk;intro j;by_cases hj:j < 32
 ·rw[k3 j hj,yal,List.getElem?_range hj];rfl
 ·rw[ybi (by show o.length<=j;omega),ybi (by simp;omega)]
noncomputable def X1(F:Nat)(a0:yL yB):yO (yL yB):=if decide (a0.length<=4294967296)=true then some (sha a0) else Ve F a0
noncomputable def Zmw(F:Nat):Fs yc:={ Zav F with M:=λx=>X1 F x}
noncomputable def Zbw:Fs yc:=Zmw yD
theorem Zfk:Zbw.Ok:=Zng (s:=Zav yD) Zlv λx=>by
 show X1 yD x=Ve yD x;unfold X1;split
 ·rename_i h;exact(ZJ9 (yF h)).symm
 ·rfl
theorem Zy0{l:yL yB}(h:l.length<=4294967296):X1 yD l=some (sha l):=yW (yY h)
end Go.Proofs.YtghfiijgklnflaaGreat
end
section
set_option maxRecDepth 4000
namespace Go.Proofs.YtghfiijgklnflaaGreat
open Go Go.Ev
noncomputable section
def Xl(F:Nat)(s:(yU×Int×(yL yB))):yO ((yU×Int×(yL yB))⊕(yL yB)):=
 if(decide (s.2.1 >= 0))=true then
  if(decide (0<=s.2.1))=true then
   let y366:yB:=w8 ((ZI s.1 (min s.2.1.toNat 64)).toNat:Int)
   if(apB s.2.2.length 1 1)=true then
    some (.inl (s.1,wi (s.2.1 - 8),s.2.2++([y366]:yL yB)))
   else
   none
  else
  none
 else
 some (.inr s.2.2)
def Zey:Lp:=⟨[(0,.v .u64),(3,.own 0 .u8),(4,.v yI)],[.log .u8 5],[.u64,yI,(.sl .u8)],[⟨.exit 0,[(3,.own 0 .u8)],[.log .u8 5],[(.sl .u8)]⟩],Zf (Xl yD) yD⟩
theorem ZiM:Zey.okA yc 112 0:=Zy { own:=[3,9,15],still:=[2]} [] [] trivial
def Qu(F:Nat)(a0:yU):yO ((yL yB)):=
 (Zf (Xl F) F (a0,56,[])).bind λo367=>
 some o367
def Zfl:Fs yc:=⟨112,[.v .u64],[],[.u64],(zZ (.sl .u8)),λx=>Qu yD x⟩
theorem Zlw:Zfl.Ok:=fnO { own:=[3,9,15],still:=[2]} [(0,Zey)] [] trivial ⟨ZiM,ytt⟩
def YI(F:Nat)(s:(yU×Int×(yL yB)×(yL yB))):yO ((yU×Int×(yL yB)×(yL yB))⊕((yL yB)×(yL yB))):=
 if(decide (s.2.1 >= 0))=true then
  if(decide (0<=s.2.1))=true then
   let y368:yB:=w8 ((ZI s.1 (min s.2.1.toNat 64)).toNat:Int)
   if(apB s.2.2.2.length 1 1)=true then
    some (.inl (s.1,wi (s.2.1 - 8),s.2.2.1,s.2.2.2++([y368]:yL yB)))
   else
   none
  else
  none
 else
 some (.inr (s.2.2.1,s.2.2.2))
def ZbQ:Lp:=⟨[(0,.v .u64),(3,.own 1 .u8),(4,.v yI)],[.log .u8 5,.log .u8 5],[.u64,yI,(.sl .u8),(.sl .u8)],[⟨.exit 0,[(3,.own 1 .u8)],[.log .u8 5,.log .u8 5],[(.sl .u8),(.sl .u8)]⟩],Zf (YI yD) yD⟩
theorem ZgK:ZbQ.okA yc 112 0:=Zy { own:=[2,3,9,15,16]} [] [] trivial
def Vn(F:Nat)(a0:yU):yO ((yL yB)):=
 (Zf (YI F) F (a0,56,[],[])).bind λo369=>
 some o369.2
def Zcz:Fs yc:=⟨112,[.v .u64],[],[.u64],[⟨.ret,[(0,.own 0 .u8)],[.log .u8 5],[(.sl .u8)]⟩],λx=>Vn yD x⟩
theorem ZiN:Zcz.Ok:=fnO { own:=[2,3,9,15,16]} [(0,ZbQ)] [] trivial ⟨ZgK,ytt⟩
def YZ(F:Nat)(s:((yL (yL yB))×Int×(yL yB)×(yL yB))):yO (((yL (yL yB))×Int×(yL yB)×(yL yB))⊕((yL yB)×(yL yB))):=
 if(decide (s.2.1 < (s.1.length:Int)))=true then
  (idx s.1 s.2.1).bind λe371=>
  (Qu F (w64 (e371.length:Int))).bind λo372=>
  if(apB s.2.2.2.length o372.length 1)=true then
   (idx s.1 s.2.1).bind λe373=>
   if(apB ((s.2.2.2++o372).length) e373.length 1)=true then
    some (.inl (s.1,wi (s.2.1+1),s.2.2.1,(s.2.2.2++o372)++e373))
   else
   none
  else
  none
 else
 some (.inr (s.2.2.1,s.2.2.2))
def Zfm:Lp:=⟨[(1,.v (.sl (.sl .u8))),(4,.ref 0 []),(5,.own 1 .u8),(6,.v yI)],zS,[(.sl (.sl .u8)),yI,(.arr 32 .u8),(.sl .u8)],[⟨.exit 0,[(4,.ref 0 []),(5,.own 1 .u8)],zS,[(.arr 32 .u8),(.sl .u8)]⟩],Zf (YZ yD) yD⟩
def ZK8:HI:={ own:=[5,11,14,28,30,31,36],still:=[10,26,37]}
theorem ZjR:Zfm.okA yc 62 0:=Zy ZK8 [] [Zfl] ⟨Zlw,ytt⟩
def YA(F:Nat)(a0:ByteArray)(a1:(yL (yL yB))):yO ((yL yB)):=
 (Vn F (w64 (a0.size:Int))).bind λo370=>
 if(decide (a0.size<=maxLen))=true then
  if(apB o370.length a0.data.toList.length 1)=true then
   (Zf (YZ F) F (a1,0,yzz,o370++a0.data.toList)).bind λo374=>
   (X1 F o374.2).bind λo375=>
   some o375
  else
  none
 else
 none
def Y2:Fs yc:=⟨62,[.v .str,.v (.sl (.sl .u8))],[],[.str,(.sl (.sl .u8))],(zZ (.arr 32 .u8)),λx=>YA yD x.1 x.2⟩
theorem Xj:Y2.Ok:=fnO ZK8 [(0,Zfm)] [Zcz,Zbw] ⟨ZiN,Zfk,ytt⟩ ⟨ZjR,ytt⟩
def YJ(F:Nat)(s:(Int×(yL yB)×(yL yB))):yO ((Int×(yL yB)×(yL yB))⊕((yL yB)×(yL yB))):=
 if(decide (s.1 < 32))=true then
  if(inB s.1 32)=true then
   (s.2.1[s.1.toNat]?).bind λe376=>
   if(apB s.2.2.length 1 1)=true then
    some (.inl (wi (s.1+1),s.2.1,s.2.2++([e376]:yL yB)))
   else
   none
  else
  none
 else
 some (.inr (s.2.1,s.2.2))
def ZbR:Lp:=⟨[(3,.ref 0 []),(5,.own 1 .u8),(6,.v yI)],zS,[yI,(.arr 32 .u8),(.sl .u8)],[⟨.exit 0,[(5,.own 1 .u8)],zS,[(.arr 32 .u8),(.sl .u8)]⟩],Zf (YJ yD) yD⟩
def ZK9:HI:={ own:=[5,7,9,14,19],still:=[4]}
theorem ZgL:ZbR.okA yc 63 0:=Zy ZK9 [] [] trivial
def Ys(F:Nat)(a0:(yL yB))(a1:(yL yB)):yO ((yL yB)):=
 if(apB 0 a0.length 1)=true then
  (Zf (YJ F) F (0,a1,a0)).bind λo377=>
  some o377.2
 else
 none
def Y9:Fs yc:=⟨63,[.v (.sl .u8),.v (.arr 32 .u8)],[],[(.sl .u8),(.arr 32 .u8)],(zZ (.sl .u8)),λx=>Ys yD x.1 x.2⟩
theorem XJ:Y9.Ok:=fnO ZK9 [(0,ZbR)] [] trivial ⟨ZgL,ytt⟩
def Wl(F:Nat)(s:(Int×(yL yB)×(yL yB)×(yL yB)×(yL yB))):yO ((Int×(yL yB)×(yL yB)×(yL yB)×(yL yB))⊕((yL yB)×(yL yB)×(yL yB)×(yL yB))):=
 if(decide (s.1 < 16))=true then
  if(inB s.1 32)=true then
   (s.2.2.2.1[s.1.toNat]?).bind λe380=>
   if(inB s.1 16)=true then
    (s.2.2.2.2[s.1.toNat]?).bind λe381=>
    some (.inl (wi (s.1+1),s.2.1,s.2.2.1,s.2.2.2.1,s.2.2.2.2.set s.1.toNat e380))
   else
   none
  else
  none
 else
 some (.inr (s.2.1,s.2.2.1,s.2.2.2.1,s.2.2.2.2))
abbrev zN:List ESh:=[.var (.v (.arr 32 .u8)) true,.var (.v (.arr 16 .u8)) true,.var (.v (.arr 32 .u8)) true,.var (.v (.arr 16 .u8)) true]
def Zez:Lp:=⟨[(2,.ref 1 []),(3,.ref 2 []),(4,.ref 3 []),(5,.v yI)],zN,[yI,(.arr 32 .u8),(.arr 16 .u8),(.arr 32 .u8),(.arr 16 .u8)],[⟨.exit 0,[(2,.ref 1 []),(4,.ref 3 [])],zN,[(.arr 32 .u8),(.arr 16 .u8),(.arr 32 .u8),(.arr 16 .u8)]⟩],Zf (Wl yD) yD⟩
theorem ZiO:Zez.okA yc 13 0:=Zy { still:=[6,7,9]} [] [] trivial
def Vf(F:Nat)(a0:(yL yB)):yO ((yL yB)):=
 (Ys F [] a0).bind λo378=>
 (YA F ZyV [o378]).bind λo379=>
 (Zf (Wl F) F (0,a0,[0,0,0,0,0,0,0,0,0,0,0,0,0,0,0,0],o379,[0,0,0,0,0,0,0,0,0,0,0,0,0,0,0,0])).bind λo382=>
 some o382.2.2.2
def Za8:Fs yc:=⟨13,[.v (.arr 32 .u8)],[],[(.arr 32 .u8)],(zZ (.arr 16 .u8)),λx=>Vf yD x⟩
theorem ZeA:Za8.Ok:=fnO { still:=[6,7,9]} [(0,Zez)] [Y9,Y2] ⟨XJ,Xj,ytt⟩ ⟨ZiO,ytt⟩
def VF(F:Nat)(a0:(yL yB)):yO ((yL yB)):=
 (Ys F [] a0).bind λo383=>
 (YA F ZGl [o383]).bind λo384=>
 some o384
def Zbx:Fs yc:=⟨15,[.v (.arr 32 .u8)],[],[(.arr 32 .u8)],(zZ (.arr 32 .u8)),λx=>VF yD x⟩
theorem Zfn:Zbx.Ok:=fnO { still:=[3,4,6]} [] [Y9,Y2] ⟨XJ,Xj,ytt⟩
def Wa(F:Nat)(a0:(yL yB))(a1:Ze):yO ((yL yB)):=
 (Ys F [] a0).bind λo385=>
 (YA F ZF9 [o385,a1.2]).bind λo386=>
 some o386
def Zaw:Fs yc:=⟨17,[.v (.arr 32 .u8),.v Zd],[],[(.arr 32 .u8),Zd],(zZ (.arr 32 .u8)),λx=>Wa yD x.1 x.2⟩
theorem Zc9:Zaw.Ok:=fnO { still:=[5,6,10]} [] [Y9,Y2] ⟨XJ,Xj,ytt⟩
def YK(F:Nat)(s:(Int×XA×XA)):yO ((Int×XA×XA)⊕((Bool×XA×XA)⊕(XA×XA))):=
 if(decide (s.1 < (s.2.1.2.1.length:Int)))=true then
  (idx s.2.1.2.1 s.1).bind λe387=>
  (idx s.2.2.2.1 s.1).bind λe388=>
  if(!(decide (e387=e388)))=true then
   some (.inr (.inl (false,s.2.1,s.2.2)))
  else
  some (.inl (wi (s.1+1),s.2.1,s.2.2))
 else
 some (.inr (.inr (s.2.1,s.2.2)))
def ZbS:Lp:=⟨[(2,.ref 0 []),(3,.ref 1 []),(5,.v yI)],[.var (.v Z6) true,.var (.v Z6) true],[yI,Z6,Z6],[⟨.ret,[(4,.v .bool)],[.var (.v Z6) true,.var (.v Z6) true],[.bool,Z6,Z6]⟩,⟨.exit 0,[],[.var (.v Z6) true,.var (.v Z6) true],[Z6,Z6]⟩],Zf (YK yD) yD⟩
theorem ZgM:ZbS.okA yc 85 0:=Zy { still:=[4]} [] [] trivial
def Vo(F:Nat)(a0:XA)(a1:XA):yO (Bool):=
 if(a0.1 !=a1.1)=true then
  some false
 else
 if(a0.2.2 !=a1.2.2)=true then
  some false
 else
 if((a0.2.1.length:Int)!=(a1.2.1.length:Int))=true then
  some false
 else
 (Zf (YK F) F (0,a0,a1)).bind λo389=>
 match o389 with
 |.inl o390=>
  some o390.1
 |.inr o391=>
  some true
def ZcA:Fs yc:=⟨85,[.v Z6,.v Z6],[],[Z6,Z6],(zZ .bool),λx=>Vo yD x.1 x.2⟩
theorem ZiP:ZcA.Ok:=fnO { still:=[4]} [(0,ZbS)] [] trivial ⟨ZgM,ytt⟩
def Xm(F:Nat)(s:(Int×Int×Z8×Z8×ZH×ZH)):yO ((Int×Int×Z8×Z8×ZH×ZH)⊕((Bool×Z8×Z8×ZH×ZH)⊕(Int×Z8×Z8×ZH×ZH))):=
 if(decide (s.2.1 < (s.2.2.2.2.1.1.length:Int)))=true then
  (idx s.2.2.2.2.1.1 s.2.1).bind λe394=>
  (idx s.2.2.2.2.2.1 s.2.1).bind λe395=>
  if(e394 !=e395)=true then
   some (.inr (.inl (false,s.2.2.1,s.2.2.2.1,s.2.2.2.2.1,s.2.2.2.2.2)))
  else
  some (.inl (s.1,wi (s.2.1+1),s.2.2.1,s.2.2.2.1,s.2.2.2.2.1,s.2.2.2.2.2))
 else
 some (.inr (.inr (s.1,s.2.2.1,s.2.2.2.1,s.2.2.2.2.1,s.2.2.2.2.2)))
abbrev zK:List ESh:=[.var (.v ZE) true,.var (.v ZE) true,.var (.v Zr) true,.var (.v Zr) true]
def ZeB:Lp:=⟨[(2,.ref 0 []),(3,.ref 1 []),(5,.v yI),(6,.ref 2 []),(7,.ref 3 []),(8,.v yI)],zK,[yI,yI,ZE,ZE,Zr,Zr],[⟨.ret,[(4,.v .bool)],zK,[.bool,ZE,ZE,Zr,Zr]⟩,⟨.exit 2,[(2,.ref 0 []),(3,.ref 1 []),(5,.v yI)],zK,[yI,ZE,ZE,Zr,Zr]⟩],Zf (Xm yD) yD⟩
theorem ZiQ:ZeB.okA yc 86 1:=Zy { still:=[4]} [] [] trivial
def Xn(F:Nat)(s:(Int×Z8×Z8)):yO ((Int×Z8×Z8)⊕((Bool×Z8×Z8)⊕(Z8×Z8))):=
 if(decide (s.1 < (s.2.1.length:Int)))=true then
  (idx s.2.1 s.1).bind λe392=>
  (idx s.2.2 s.1).bind λe393=>
  if(e392.2.1 !=e393.2.1)=true then
   some (.inr (.inl (false,s.2.1,s.2.2)))
  else
  if(e392.2.2.1 !=e393.2.2.1)=true then
   some (.inr (.inl (false,s.2.1,s.2.2)))
  else
  if(e392.2.2.2 !=e393.2.2.2)=true then
   some (.inr (.inl (false,s.2.1,s.2.2)))
  else
  if((e392.1.length:Int)!=(e393.1.length:Int))=true then
   some (.inr (.inl (false,s.2.1,s.2.2)))
  else
  (Zf (Xm F) F (s.1,0,s.2.1,s.2.2,e392,e393)).bind λo396=>
  match o396 with
  |.inl o397=>
   some (.inr (.inl (o397.1,o397.2.1,o397.2.2.1)))
  |.inr o398=>
   some (.inl (wi (o398.1+1),o398.2.1,o398.2.2.1))
 else
 some (.inr (.inr (s.2.1,s.2.2)))
def ZeC:Lp:=⟨[(2,.ref 0 []),(3,.ref 1 []),(5,.v yI)],[.var (.v ZE) true,.var (.v ZE) true],[yI,ZE,ZE],[⟨.ret,[(4,.v .bool)],[.var (.v ZE) true,.var (.v ZE) true],[.bool,ZE,ZE]⟩,⟨.exit 0,[],[.var (.v ZE) true,.var (.v ZE) true],[ZE,ZE]⟩],Zf (Xn yD) yD⟩
theorem ZiR:ZeC.okA yc 86 0:=Zy { still:=[4]} [(1,ZeB)] [] trivial ⟨ZiQ,ytt⟩
def Qv(F:Nat)(a0:Z8)(a1:Z8):yO (Bool):=
 if((a0.length:Int)!=(a1.length:Int))=true then
  some false
 else
 (Zf (Xn F) F (0,a0,a1)).bind λo399=>
 match o399 with
 |.inl o400=>
  some o400.1
 |.inr o401=>
  some true
def Zfo:Fs yc:=⟨86,[.v ZE,.v ZE],[],[ZE,ZE],(zZ .bool),λx=>Qv yD x.1 x.2⟩
theorem Zlx:Zfo.Ok:=fnO { still:=[4]} [(0,ZeC)] [] trivial ⟨ZiR,ytt⟩
def Xo(F:Nat)(s:(Int×Tx×Tx)):yO ((Int×Tx×Tx)⊕((Bool×Tx×Tx)⊕(Tx×Tx))):=
 if(decide (s.1 < (s.2.1.1.length:Int)))=true then
  (idx s.2.1.1 s.1).bind λe402=>
  (idx s.2.2.1 s.1).bind λe403=>
  if(!(decide (e402.1=e403.1)))=true then
   some (.inr (.inl (false,s.2.1,s.2.2)))
  else
  (idx s.2.1.1 s.1).bind λe404=>
  (idx s.2.2.1 s.1).bind λe405=>
  (Vo F e404.2 e405.2).bind λo406=>
  if(!o406)=true then
   some (.inr (.inl (false,s.2.1,s.2.2)))
  else
  some (.inl (wi (s.1+1),s.2.1,s.2.2))
 else
 some (.inr (.inr (s.2.1,s.2.2)))
def ZeD:Lp:=⟨[(2,.ref 0 []),(3,.ref 1 []),(5,.v yI)],[.var (.v yTx) true,.var (.v yTx) true],[yI,yTx,yTx],[⟨.ret,[(4,.v .bool)],[.var (.v yTx) true,.var (.v yTx) true],[.bool,yTx,yTx]⟩,⟨.exit 0,[(2,.ref 0 []),(3,.ref 1 [])],[.var (.v yTx) true,.var (.v yTx) true],[yTx,yTx]⟩],Zf (Xo yD) yD⟩
theorem ZiS:ZeD.okA yc 36 0:=Zy { still:=[4,56,62,92,98]} [] [ZcA] ⟨ZiP,ytt⟩
def Xp(F:Nat)(s:(Int×Tx×Tx)):yO ((Int×Tx×Tx)⊕((Bool×Tx×Tx)⊕(Tx×Tx))):=
 if(decide (s.1 < (s.2.1.2.1.length:Int)))=true then
  (idx s.2.1.2.1 s.1).bind λe410=>
  (idx s.2.2.2.1 s.1).bind λe411=>
  if(e410.1 !=e411.1)=true then
   some (.inr (.inl (false,s.2.1,s.2.2)))
  else
  (idx s.2.1.2.1 s.1).bind λe412=>
  (idx s.2.2.2.1 s.1).bind λe413=>
  (Qv F e412.2 e413.2).bind λo414=>
  if(!o414)=true then
   some (.inr (.inl (false,s.2.1,s.2.2)))
  else
  some (.inl (wi (s.1+1),s.2.1,s.2.2))
 else
 some (.inr (.inr (s.2.1,s.2.2)))
def ZeE:Lp:=⟨[(2,.ref 0 []),(3,.ref 1 []),(6,.v yI)],[.var (.v yTx) true,.var (.v yTx) true],[yI,yTx,yTx],[⟨.ret,[(4,.v .bool)],[.var (.v yTx) true,.var (.v yTx) true],[.bool,yTx,yTx]⟩,⟨.exit 2,[],[.var (.v yTx) true,.var (.v yTx) true],[yTx,yTx]⟩],Zf (Xp yD) yD⟩
theorem ZiT:ZeE.okA yc 36 1:=Zy { still:=[4,56,62,92,98]} [] [Zfo] ⟨Zlx,ytt⟩
def Qw(F:Nat)(a0:Tx)(a1:Tx):yO (Bool):=
 if(a0.2.2 !=a1.2.2)=true then
  some false
 else
 if((a0.1.length:Int)!=(a1.1.length:Int))=true then
  some false
 else
 if((a0.2.1.length:Int)!=(a1.2.1.length:Int))=true then
  some false
 else
 (Zf (Xo F) F (0,a0,a1)).bind λo407=>
 match o407 with
 |.inl o408=>
  some o408.1
 |.inr o409=>
  (Zf (Xp F) F (0,o409.1,o409.2)).bind λo415=>
  match o415 with
  |.inl o416=>
   some o416.1
  |.inr o417=>
   some true
def Zfp:Fs yc:=⟨36,[.v yTx,.v yTx],[],[yTx,yTx],(zZ .bool),λx=>Qw yD x.1 x.2⟩
theorem Zly:Zfp.Ok:=fnO { still:=[4,56,62,92,98]} [(0,ZeD),(1,ZeE)] [] trivial ⟨ZiS,ZiT,ytt⟩
def Xu(F:Nat)(s:((yL Tx)×(yL Tx)×Int)):yO (((yL Tx)×(yL Tx)×Int)⊕(Bool⊕Unit)):=
 if(decide (s.2.2 < (s.1.length:Int)))=true then
  (idx s.1 s.2.2).bind λe418=>
  (idx s.2.1 s.2.2).bind λe419=>
  (Qw F e418 e419).bind λo420=>
  if(!o420)=true then
   some (.inr (.inl false))
  else
  some (.inl (s.1,s.2.1,wi (s.2.2+1)))
 else
 some (.inr (.inr ()))
def ZbT:Lp:=⟨[(0,.v (.sl yTx)),(1,.v (.sl yTx)),(5,.v yI)],[],[(.sl yTx),(.sl yTx),yI],[⟨.ret,[(4,.v .bool)],[],[.bool]⟩,⟨.exit 0,[],[],[]⟩],Zf (Xu yD) yD⟩
theorem ZgN:ZbT.okA yc 21 0:=Zy { still:=[4,21,25]} [] [Zfp] ⟨Zly,ytt⟩
def Wm(F:Nat)(a0:(yL Tx))(a1:(yL Tx)):yO (Bool):=
 if((a0.length:Int)!=(a1.length:Int))=true then
  some false
 else
 (Zf (Xu F) F (a0,a1,0)).bind λo421=>
 match o421 with
 |.inl o422=>
  some o422
 |.inr o423=>
  some true
def ZcB:Fs yc:=⟨21,[.v (.sl yTx),.v (.sl yTx)],[],[(.sl yTx),(.sl yTx)],(zZ .bool),λx=>Wm yD x.1 x.2⟩
theorem ZiU:ZcB.Ok:=fnO { still:=[4,21,25]} [(0,ZbT)] [] trivial ⟨ZgN,ytt⟩
def WW(F:Nat)(a0:XA):yO (Bool):=
 if(decide (a0.1 >= 0))=true then
  if(decide (a0.1<=3))=true then
   some (decide ((a0.2.1.length:Int)<=12))
  else
  some false
 else
 some false
def ZbU:Fs yc:=⟨113,[.v Z6],[],[Z6],(zZ .bool),λx=>WW yD x⟩
theorem Zic:ZbU.Ok:=fnO { still:=[2]} [] [] trivial
def XK(F:Nat)(s:(yU×yU×yU)):yO ((yU×yU×yU)⊕yU):=
 if(decide (s.2.1 > 0))=true then
  if((s.2.1 % 2)==1)=true then
   some (.inl ((s.1+s.1) % 4611686018427377339,s.2.1 / 2,(s.2.2+s.1) % 4611686018427377339))
  else
  some (.inl ((s.1+s.1) % 4611686018427377339,s.2.1 / 2,s.2.2))
 else
 some (.inr s.2.2)
def ZcC:Lp:=⟨[(0,.v .u64),(1,.v .u64),(5,.v .u64)],[],[.u64,.u64,.u64],[⟨.exit 0,[(5,.v .u64)],[],[.u64]⟩],Zf (XK yD) yD⟩
theorem Zhd:ZcC.okA yc 205 0:=Zy { still:=[4]} [] [] trivial
def VG(F:Nat)(a0:yU)(a1:yU):yO (yU):=
 (Zf (XK F) F (a0,a1,0)).bind λo424=>
 some o424
def Qx(F:Nat):Fs yc:=⟨205,[.v .u64,.v .u64],[],[.u64,.u64],(zZ .u64),λx=>VG F x.1 x.2⟩
def Zkx:Fs yc:=Qx yD
theorem ZjS:Zkx.Ok:=fnO { still:=[4]} [(0,ZcC)] [] trivial ⟨Zhd,ytt⟩
end
end Go.Proofs.YtghfiijgklnflaaGreat
end
section
set_option maxRecDepth 4000
namespace Go.Proofs.YtghfiijgklnflaaGreat
open Go Go.Ev
theorem ZpA{z:Nat}:(yai (z % 4611686018427377339)).toNat=z % 4611686018427377339:=by
 rw[yax,yap];exact Nat.lt_trans (Nat.mod_lt _ (by decide)) (by decide)
theorem ZGp{a b:yU}(ha:a.toNat < 4611686018427377339)(hb:b.toNat < 4611686018427377339):((a+b) % 4611686018427377339).toNat=(a.toNat+b.toNat) % 4611686018427377339:=by
 rw[UInt64.toNat_mod,UInt64.toNat_add,show(4611686018427377339:yU).toNat=4611686018427377339 from rfl,yap (a:=a.toNat+b.toNat) (by omega)]
theorem Zlz:∀(k m:Nat)(A B O:yU),A.toNat < 4611686018427377339->O.toNat < 4611686018427377339->B.toNat < 2 ^ k->k < m->
 Zf (XK yD) m (A,B,O)=some (yai ((O.toNat+A.toNat*B.toNat) % 4611686018427377339))
 |k,0,_,_,_,_,_,_,h=>by omega
 |0,m+1,A,B,O,hA,hO,h,_=>by
  have h0:B.toNat=0:=by rw[Nat.pow_zero] at h;omega
  have hn:¬B > 0:=by
   intro h2;have h3:0 < B.toNat:=yca.1 h2;omega
  have hs:XK yD (A,B,O)=if decide (B > 0)=true then(if((B % 2)==1)=true then some (.inl ((A+A) % 4611686018427377339,B / 2,(O+A) % 4611686018427377339)) else some (.inl ((A+A) % 4611686018427377339,B / 2,O))) else some (.inr O):=rfl
  unfold Zf;rw[hs]
  rw[yX (by rw[yN];exact hn),ya,h0,Nat.mul_zero,ycf,yap hO,UInt64.ofNat_toNat]
 |k+1,m+1,A,B,O,hA,hO,h,hm=>by
  have hs:XK yD (A,B,O)=if decide (B > 0)=true then(if((B % 2)==1)=true then some (.inl ((A+A) % 4611686018427377339,B / 2,(O+A) % 4611686018427377339)) else some (.inl ((A+A) % 4611686018427377339,B / 2,O))) else some (.inr O):=rfl
  unfold Zf;rw[hs];by_cases h2:B > 0
  ·have h3:0 < B.toNat:=yca.1 h2;have hsh:(B / 2).toNat=B.toNat / 2:=by rw[UInt64.toNat_div];rfl
   have hlt:(B / 2).toNat < 2 ^ k:=by
    rw[hsh];rw[Nat.pow_succ] at h;omega
   have hand:((B % 2)==1)=decide (B.toNat % 2=1):=by
    rw[ycq,yT,yN, <-yct,UInt64.toNat_mod];rfl
   have hA2:=ZGp hA hA;have hAl:((A+A) % 4611686018427377339).toNat < 4611686018427377339:=by rw[hA2];exact Nat.mod_lt _ (by decide)
   have hB:B.toNat=2*(B.toNat / 2)+B.toNat % 2:=by omega
   rw[yW (yY h2),hand];by_cases h4:B.toNat % 2=1
   ·have hO2:=ZGp hO hA;have hOl:((O+A) % 4611686018427377339).toNat < 4611686018427377339:=by rw[hO2];exact Nat.mod_lt _ (by decide)
    rw[yW (yY h4),ya];dsimp only;rw[Zlz k m _ _ _ hAl hOl hlt (by omega),hA2,hO2,hsh];congr 2;rw[Nat.add_mod,Nat.mod_mod,Nat.mod_mul_mod, <-Nat.add_mod];congr 1
    conv=>rhs;rw[hB,h4,Nat.mul_add,Nat.mul_one, <-Nat.mul_assoc]
    rw[Nat.mul_two];omega
   ·rw[yX (by rw[yN];exact h4),ya];dsimp only;rw[Zlz k m _ _ _ hAl hO hlt (by omega),hA2,hsh];congr 2;rw[Nat.add_mod,Nat.mod_mul_mod, <-Nat.add_mod];congr 1
    conv=>rhs;rw[hB,show B.toNat % 2=0 by omega,ycf, <-Nat.mul_assoc]
    rw[Nat.mul_two]
  ·have h3:B.toNat=0:=by
    rcases yco B.toNat with h5|h5
    ·exact h5
    ·exact absurd (show(0:yU) < B from yca.2 h5) h2
   rw[yX (by rw[yN];exact h2),ya,h3,Nat.mul_zero,ycf,yap hO,UInt64.ofNat_toNat]
noncomputable def ZA(F:Nat)(a0:yU)(a1:yU):yO yU:=if decide (a0.toNat < 4611686018427377339)=true then some (yai (a0.toNat*a1.toNat % 4611686018427377339)) else VG F a0 a1
theorem ZDH(a b:yU):VG yD a b=ZA yD a b:=by
 unfold ZA;split
 ·rename_i h;unfold VG;rw[Zlz 64 yD a b 0 (yF h) (by decide) (ybu _) (by rw[ZfI];omega),ya,show(0:yU).toNat=0 from rfl,Nat.zero_add]
 ·rfl
noncomputable def Zky(F:Nat):Fs yc:={ Qx F with M:=λx=>ZA F x.1 x.2}
noncomputable def ZeF:Fs yc:=Zky yD
theorem Zkz:ZeF.Ok:=Zng (s:=Qx yD) ZjS λx=>(ZDH x.1 x.2).symm
end Go.Proofs.YtghfiijgklnflaaGreat
end
section
set_option maxRecDepth 4000
namespace Go.Proofs.YtghfiijgklnflaaGreat
open Go Go.Ev
noncomputable section
def XL(F:Nat)(s:(yU×yU×yU)):yO ((yU×yU×yU)⊕yU):=
 if(decide (s.2.1 > 0))=true then
  if((s.2.1 % 2)==1)=true then
   (ZA F s.2.2 s.1).bind λo425=>
   (ZA F s.1 s.1).bind λo426=>
   some (.inl (o426,s.2.1 / 2,o425))
  else
  (ZA F s.1 s.1).bind λo427=>
  some (.inl (o427,s.2.1 / 2,s.2.2))
 else
 some (.inr s.2.2)
def ZcD:Lp:=⟨[(0,.v .u64),(1,.v .u64),(5,.v .u64)],[],[.u64,.u64,.u64],[⟨.exit 0,[(5,.v .u64)],[],[.u64]⟩],Zf (XL yD) yD⟩
theorem Zhe:ZcD.okA yc 200 0:=Zy { still:=[4,11,12,14,15]} [] [ZeF] ⟨Zkz,ytt⟩
def VH(F:Nat)(a0:yU)(a1:yU):yO (yU):=
 (Zf (XL F) F (a0,a1,1)).bind λo428=>
 some o428
def Qy(F:Nat):Fs yc:=⟨200,[.v .u64,.v .u64],[],[.u64,.u64],(zZ .u64),λx=>VH F x.1 x.2⟩
def ZkA:Fs yc:=Qy yD
theorem ZjT:ZkA.Ok:=fnO { still:=[4,11,12,14,15]} [(0,ZcD)] [] trivial ⟨Zhe,ytt⟩
end
end Go.Proofs.YtghfiijgklnflaaGreat
end
section
set_option maxRecDepth 4000
namespace Go.Proofs.YtghfiijgklnflaaGreat
open Go Go.Ev
theorem ZpB:∀(k m:Nat)(A N O:yU),A.toNat < 4611686018427377339->O.toNat < 4611686018427377339->N.toNat < 2 ^ k->k < m->Zf (XL yD) m (A,N,O)=some (yai (pwm 4611686018427377339 k A.toNat N.toNat O.toNat))
 |k,0,_,_,_,_,_,_,h=>by omega
 |0,m+1,A,N,O,hA,hO,h,_=>by
  have hn:¬N > 0:=by
   intro h2;have h3:0 < N.toNat:=yca.1 h2;rw[Nat.pow_zero] at h;omega
  have hs:XL yD (A,N,O)=if decide (N > 0)=true then(if((N % 2)==1)=true then(ZA yD O A).bind λo1=>(ZA yD A A).bind λo2=>some (.inl (o2,N / 2,o1)) else(ZA yD A A).bind λo2=>some (.inl (o2,N / 2,O))) else some (.inr O):=rfl
  unfold Zf;rw[hs]
  rw[yX (by rw[yN];exact hn),ya,pwm,UInt64.ofNat_toNat]
 |k+1,m+1,A,N,O,hA,hO,h,hm=>by
  have hs:XL yD (A,N,O)=if decide (N > 0)=true then(if((N % 2)==1)=true then(ZA yD O A).bind λo1=>(ZA yD A A).bind λo2=>some (.inl (o2,N / 2,o1)) else(ZA yD A A).bind λo2=>some (.inl (o2,N / 2,O))) else some (.inr O):=rfl
  unfold Zf;rw[hs];by_cases h2:N > 0
  ·have hp:0 < N.toNat->pwm 4611686018427377339 (k+1) A.toNat N.toNat O.toNat=pwm 4611686018427377339 k (A.toNat*A.toNat % 4611686018427377339) (N.toNat / 2) (if N.toNat % 2=1 then O.toNat*A.toNat % 4611686018427377339 else O.toNat):=λh=>by
    rw[pwm,yX (by omega)]
   have h3:0 < N.toNat:=yca.1 h2;have hsh:(N / 2).toNat=N.toNat / 2:=by rw[UInt64.toNat_div];rfl
   have hlt:(N / 2).toNat < 2 ^ k:=by
    rw[hsh];rw[Nat.pow_succ] at h;omega
   have hand:((N % 2)==1)=decide (N.toNat % 2=1):=by
    rw[ycq,yT,yN, <-yct,UInt64.toNat_mod];rfl
   have ml:∀z:Nat,z % 4611686018427377339 < 4611686018427377339:=λz=>Nat.mod_lt _ (by decide)
   have e1:ZA yD A A=some (yai (A.toNat*A.toNat % 4611686018427377339)):=by
    unfold ZA;rw[yW (yY hA)]
   have e2:ZA yD O A=some (yai (O.toNat*A.toNat % 4611686018427377339)):=by
    unfold ZA;rw[yW (yY hO)]
   rw[yW (yY h2),hand,hp h3,e1,e2];by_cases h4:N.toNat % 2=1
   ·rw[yW (yY h4),yW h4,ya,ya,ya];dsimp only;rw[ZpB k m _ _ _ (by rw[ZpA];exact ml _) (by rw[ZpA];exact ml _) hlt (by omega),ZpA,ZpA,hsh]
   ·rw[yX (by rw[yN];exact h4),yX h4,ya,ya];dsimp only;rw[ZpB k m _ _ _ (by rw[ZpA];exact ml _) hO hlt (by omega),ZpA,hsh]
  ·have h3:N.toNat=0:=by
    rcases yco N.toNat with h5|h5
    ·exact h5
    ·exact absurd (show(0:yU) < N from yca.2 h5) h2
   rw[yX (by rw[yN];exact h2),ya,pwm,yW h3,UInt64.ofNat_toNat]
noncomputable def Wb(F:Nat)(a0:yU)(a1:yU):yO yU:=if decide (a0.toNat < 4611686018427377339)=true then some (yai (pwm 4611686018427377339 64 a0.toNat a1.toNat 1)) else VH F a0 a1
theorem ZDI(a n:yU):VH yD a n=Wb yD a n:=by
 unfold Wb;split
 ·rename_i h;unfold VH;rw[ZpB 64 yD a n 1 (yF h) (by decide) (ybu _) (by rw[ZfI];omega),ya];rfl
 ·rfl
noncomputable def ZkB(F:Nat):Fs yc:={ Qy F with M:=λx=>Wb F x.1 x.2}
noncomputable def ZeG:Fs yc:=ZkB yD
theorem ZkC:ZeG.Ok:=Zng (s:=Qy yD) ZjT λx=>(ZDI x.1 x.2).symm
end Go.Proofs.YtghfiijgklnflaaGreat
end
section
set_option maxRecDepth 4000
namespace Go.Proofs.YtghfiijgklnflaaGreat
open Go Go.Ev
noncomputable section
def WN(F:Nat)(a0:yU):yO (Bool):=
 if(decide (a0 >= 1))=true then
  if(decide (a0 < 4611686018427377339))=true then
   (Wb F a0 2305843009213688669).bind λo429=>
   some (o429==1)
  else
  some false
 else
 some false
def Zax:Fs yc:=⟨193,[.v .u64],[],[.u64],(zZ .bool),λx=>WN yD x⟩
theorem Zda:Zax.Ok:=fnO { still:=[2,10]} [] [ZeG] ⟨ZkC,ytt⟩
def XM(F:Nat)(s:(Int×ZH)):yO ((Int×ZH)⊕((Bool×ZH)⊕ZH)):=
 if(decide (s.1 < (s.2.1.length:Int)))=true then
  (idx s.2.1 s.1).bind λe430=>
  (WN F e430).bind λo431=>
  if(!o431)=true then
   some (.inr (.inl (false,s.2)))
  else
  some (.inl (wi (s.1+1),s.2))
 else
 some (.inr (.inr s.2))
def ZcE:Lp:=⟨[(1,.ref 0 []),(3,.v yI)],[.var (.v Zr) true],[yI,Zr],[⟨.ret,[(2,.v .bool)],[.var (.v Zr) true],[.bool,Zr]⟩,⟨.exit 0,[(1,.ref 0 [])],[.var (.v Zr) true],[Zr]⟩],Zf (XM yD) yD⟩
theorem Zhf:ZcE.okA yc 161 0:=Zy { still:=[2,41,46]} [] [Zax] ⟨Zda,ytt⟩
def VI(F:Nat)(a0:ZH):yO (Bool):=
 if(decide ((a0.1.length:Int) > 12))=true then
  some false
 else
 if(decide (a0.2.1 < 0))=true then
  some false
 else
 if(decide (a0.2.1 > 1048576))=true then
  some false
 else
 if(decide (a0.2.2.1 < 0))=true then
  some false
 else
 if(decide (a0.2.2.1 > 1048576))=true then
  some false
 else
 (Zf (XM F) F (0,a0)).bind λo432=>
 match o432 with
 |.inl o433=>
  some o433.1
 |.inr o434=>
  (WN F o434.2.2.2).bind λo435=>
  if(o434.2.2.2==0)=true then
   some true
  else
  some o435
def Zdb:Fs yc:=⟨161,[.v Zr],[],[Zr],(zZ .bool),λx=>VI yD x⟩
theorem ZjU:Zdb.Ok:=fnO { still:=[2,41,46]} [(0,ZcE)] [Zax] ⟨Zda,ytt⟩ ⟨Zhf,ytt⟩
def X2(F:Nat)(s:(Int×Z8)):yO ((Int×Z8)⊕((Bool×Z8)⊕Z8)):=
 if(decide (s.1 < (s.2.length:Int)))=true then
  (idx s.2 s.1).bind λe436=>
  (VI F e436).bind λo437=>
  if(!o437)=true then
   some (.inr (.inl (false,s.2)))
  else
  some (.inl (wi (s.1+1),s.2))
 else
 some (.inr (.inr s.2))
def Zdc:Lp:=⟨[(1,.ref 0 []),(3,.v yI)],[.var (.v ZE) true],[yI,ZE],[⟨.ret,[(2,.v .bool)],[.var (.v ZE) true],[.bool,ZE]⟩,⟨.exit 0,[],[.var (.v ZE) true],[ZE]⟩],Zf (X2 yD) yD⟩
theorem Zid:Zdc.okA yc 114 0:=Zy { still:=[2,25]} [] [Zdb] ⟨ZjU,ytt⟩
def Xk(F:Nat)(a0:Z8):yO (Bool):=
 if(decide ((a0.length:Int) < 1))=true then
  some false
 else
 if(decide ((a0.length:Int) > 4))=true then
  some false
 else
 (Zf (X2 F) F (0,a0)).bind λo438=>
 match o438 with
 |.inl o439=>
  some o439.1
 |.inr o440=>
  some true
def VJ:Fs yc:=⟨114,[.v ZE],[],[ZE],(zZ .bool),λx=>Xk yD x⟩
theorem QR:VJ.Ok:=fnO { still:=[2,25]} [(0,Zdc)] [] trivial ⟨Zid,ytt⟩
def YD(F:Nat)(s:(Int×Int×Tx×In)):yO ((Int×Int×Tx×In)⊕((Bool×Tx×In)⊕(Int×Tx×In))):=
 if(decide (s.2.1 < s.1))=true then
  (idx s.2.2.1.1 s.2.1).bind λe443=>
  if(decide (e443.1=s.2.2.2.1))=true then
   some (.inr (.inl (false,s.2.2.1,s.2.2.2)))
  else
  some (.inl (s.1,wi (s.2.1+1),s.2.2.1,s.2.2.2))
 else
 some (.inr (.inr (s.1,s.2.2.1,s.2.2.2)))
def Zdd:Lp:=⟨[(1,.ref 0 []),(3,.v yI),(4,.ref 1 []),(5,.v yI)],[.var (.v yTx) true,.var (.v yIn) true],[yI,yI,yTx,yIn],[⟨.ret,[(2,.v .bool)],[.var (.v yTx) true,.var (.v yIn) true],[.bool,yTx,yIn]⟩,⟨.exit 2,[(1,.ref 0 []),(3,.v yI)],[.var (.v yTx) true,.var (.v yIn) true],[yI,yTx,yIn]⟩],Zf (YD yD) yD⟩
theorem Zie:Zdd.okA yc 66 1:=Zy { still:=[2,54,94]} [] [] trivial
def Xa(F:Nat)(s:(Int×Tx)):yO ((Int×Tx)⊕((Bool×Tx)⊕Tx)):=
 if(decide (s.1 < (s.2.1.length:Int)))=true then
  (idx s.2.1 s.1).bind λe441=>
  if(decide (e441.1.2 < 0))=true then
   some (.inr (.inl (false,s.2)))
  else
  if(decide (e441.1.2 > 63))=true then
   some (.inr (.inl (false,s.2)))
  else
  (WW F e441.2).bind λo442=>
  if(!o442)=true then
   some (.inr (.inl (false,s.2)))
  else
  (Zf (YD F) F (s.1,0,s.2,e441)).bind λo444=>
  match o444 with
  |.inl o445=>
   some (.inr (.inl (o445.1,o445.2.1)))
  |.inr o446=>
   some (.inl (wi (o446.1+1),o446.2.1))
 else
 some (.inr (.inr s.2))
def Zde:Lp:=⟨[(1,.ref 0 []),(3,.v yI)],[.var (.v yTx) true],[yI,yTx],[⟨.ret,[(2,.v .bool)],[.var (.v yTx) true],[.bool,yTx]⟩,⟨.exit 0,[(1,.ref 0 [])],[.var (.v yTx) true],[yTx]⟩],Zf (Xa yD) yD⟩
theorem Zif:Zde.okA yc 66 0:=Zy { still:=[2,54,94]} [(1,Zdd)] [ZbU] ⟨Zic,ytt⟩ ⟨Zie,ytt⟩
def Xb(F:Nat)(s:(Int×Int×Tx)):yO ((Int×Int×Tx)⊕((Bool×Tx)⊕(Int×Tx))):=
 if(decide (s.2.1 < (s.2.2.2.1.length:Int)))=true then
  (idx s.2.2.2.1 s.2.1).bind λe450=>
  if(decide (e450.1 < 0))=true then
   some (.inr (.inl (false,s.2.2)))
  else
  if(decide (e450.1 > 1125899906842624))=true then
   some (.inr (.inl (false,s.2.2)))
  else
  (Xk F e450.2).bind λo451=>
  if(!o451)=true then
   some (.inr (.inl (false,s.2.2)))
  else
  some (.inl (wi (s.1+e450.1),wi (s.2.1+1),s.2.2))
 else
 some (.inr (.inr (s.1,s.2.2)))
def Zdf:Lp:=⟨[(1,.ref 0 []),(6,.v yI),(7,.v yI)],[.var (.v yTx) true],[yI,yI,yTx],[⟨.ret,[(2,.v .bool)],[.var (.v yTx) true],[.bool,yTx]⟩,⟨.exit 4,[(6,.v yI)],[.var (.v yTx) true],[yI,yTx]⟩],Zf (Xb yD) yD⟩
theorem Zig:Zdf.okA yc 66 2:=Zy { still:=[2,54,94]} [] [VJ] ⟨QR,ytt⟩
def Z0(F:Nat)(a0:Tx):yO (Bool):=
 if(decide ((a0.1.length:Int) < 1))=true then
  some false
 else
 if(decide ((a0.1.length:Int) > 64))=true then
  some false
 else
 if(decide ((a0.2.1.length:Int) > 64))=true then
  some false
 else
 if(decide (a0.2.2 < 0))=true then
  some false
 else
 (Zf (Xa F) F (0,a0)).bind λo447=>
 match o447 with
 |.inl o448=>
  some o448.1
 |.inr o449=>
  (Zf (Xb F) F (0,0,o449)).bind λo452=>
  match o452 with
  |.inl o453=>
   some o453.1
  |.inr o454=>
   some (decide (o454.1<=1125899906842624))
def WB:Fs yc:=⟨66,[.v yTx],[],[yTx],(zZ .bool),λx=>Z0 yD x⟩
theorem Vp:WB.Ok:=fnO { still:=[2,54,94]} [(0,Zde),(2,Zdf)] [] trivial ⟨Zif,Zig,ytt⟩
def WI(F:Nat)(rc:Int->yO ((yL yB)))(a0:Int):yO ((yL yB)):=
 if(decide (a0 < 128))=true then
  some [w8 a0]
 else
 (rc (wi (Int.tdiv a0 128))).bind λo455=>
 if(apB 1 o455.length 1)=true then
  let y456:(yL yB):=([(w8 (Int.tmod a0 128))+128]:yL yB)++o455
  some y456
 else
 none
def Qz(rc:Int->yO ((yL yB))):Fs yc:=⟨194,[.v yI],[],[yI],(zZ (.sl .u8)),λx=>rc x⟩
def ZLz:HI:={ own:=[3,13,14,18],still:=[2,16]}
theorem ZkD(rc:Int->yO ((yL yB)))(hr:(Qz rc).Ok):(Qz (WI yD rc)).Ok:=fnO ZLz [] [(Qz rc)] ⟨hr,ytt⟩
def VK(F k:Nat):Int->yO ((yL yB)):=Nat.rec (motive:=λ_=>Int->yO ((yL yB))) (λ_=>none) (λ_ ih=>WI F ih) k
theorem ZeH:∀k,(Qz (VK yD k)).Ok
 |0=>λx o h=>by cases (show none=some o from h)
 |k+1=>ZkD _ (ZeH k)
def Q1(F:Nat)(a0:Int):yO ((yL yB)):=VK F 12 a0
def Zby:Fs yc:=⟨194,[.v yI],[],[yI],(zZ (.sl .u8)),λx=>Q1 yD x⟩
theorem Zfq:Zby.Ok:=ZeH 12
def ZQ(F:Nat)(a0:(yL yB))(a1:Int):yO ((yL yB)):=
 if(apB 0 a0.length 1)=true then
  if(decide (a1 >= 0))=true then
   (Q1 F a1).bind λo457=>
   if(apB a0.length o457.length 1)=true then
    some (a0++o457)
   else
   none
  else
  some a0
 else
 none
def XD:Fs yc:=⟨162,[.v (.sl .u8),.v yI],[],[(.sl .u8),yI],(zZ (.sl .u8)),λx=>ZQ yD x.1 x.2⟩
def ZLA:HI:={ own:=[5,6,8,11,14],still:=[4,12]}
theorem Wc:XD.Ok:=fnO ZLA [] [Zby] ⟨Zfq,ytt⟩
def Zay(F:Nat)(a0:(yL yB))(a1:Int):yO ((yL yB)):=
 if(apB 0 a0.length 1)=true then
  if(decide (a1 >= 0))=true then
   (Q1 F a1).bind λo458=>
   if(apB a0.length o458.length 1)=true then
    some (a0++o458)
   else
   none
  else
  some a0
 else
 none
def Zdg:Fs yc:=⟨162,[.v (.sl .u8),.v yI],[],[(.sl .u8),yI],[⟨.ret,[(0,.own 0 .u8)],[.log .u8 5],[(.sl .u8)]⟩],λx=>Zay yD x.1 x.2⟩
def ZLB:HI:={ own:=[4,5,6,8,11,14,15],still:=[12]}
theorem ZjV:Zdg.Ok:=fnO ZLB [] [Zby] ⟨Zfq,ytt⟩
def WX(F:Nat)(a0:(yL yB))(a1:(yL yB)):yO ((yL yB)):=
 (Zay F a0 (a1.length:Int)).bind λo459=>
 if(apB o459.length a1.length 1)=true then
  some (o459++a1)
 else
 none
def ZbV:Fs yc:=⟨163,[.v (.sl .u8),.v (.sl .u8)],[],[(.sl .u8),(.sl .u8)],(zZ (.sl .u8)),λx=>WX yD x.1 x.2⟩
def ZLC:HI:={ own:=[5,9,10,12],still:=[4,6,8]}
theorem Zih:ZbV.Ok:=fnO ZLC [] [Zdg] ⟨ZjV,ytt⟩
def YT(F:Nat)(s:(yU×Int×(yL yB))):yO ((yU×Int×(yL yB))⊕(yL yB)):=
 if(decide (s.2.1 >= 0))=true then
  let y460:yU:=ZI s.1 (min ((w64 (wi (8*s.2.1))).toNat:Int).toNat 64)
  if(apB s.2.2.length 1 1)=true then
   some (.inl (s.1,wi (s.2.1 - 1),s.2.2++([w8 (y460.toNat:Int)]:yL yB)))
  else
  none
 else
 some (.inr s.2.2)
def ZcF:Lp:=⟨[(1,.v .u64),(5,.own 0 .u8),(6,.v yI)],[.log .u8 5],[.u64,yI,(.sl .u8)],[⟨.exit 0,[(5,.own 0 .u8)],[.log .u8 5],[(.sl .u8)]⟩],Zf (YT yD) yD⟩
def ZLa:HI:={ own:=[5,7,9,14,22],still:=[4]}
theorem Zhg:ZcF.okA yc 170 0:=Zy ZLa [] [] trivial
def YB(F:Nat)(a0:(yL yB))(a1:yU):yO ((yL yB)):=
 if(apB 0 a0.length 1)=true then
  (Zf (YT F) F (a1,7,a0)).bind λo461=>
  some o461
 else
 none
def Wn:Fs yc:=⟨170,[.v (.sl .u8),.v .u64],[],[(.sl .u8),.u64],(zZ (.sl .u8)),λx=>YB yD x.1 x.2⟩
theorem WY:Wn.Ok:=fnO ZLa [(0,ZcF)] [] trivial ⟨Zhg,ytt⟩
def Xc(F:Nat):((yL yB)×Int×Int×Z8×ZH)->yO (((yL yB)×Int×Int×Z8×ZH)⊕((yL yB)×Int×Z8×ZH))
 |(c,d,a,e,b)=>
 if(decide (a < (b.1.length:Int)))=true then
  (idx b.1 a).bind λe466=>
  (YB F c e466).bind λo467=>
  some (.inl (o467,d,wi (a+1),e,b))
 else
 some (.inr (c,d,e,b))
def Zdh:Lp:=⟨[(1,.ref 0 []),(3,.v (.sl .u8)),(4,.v yI),(5,.ref 1 []),(6,.v yI)],[.var (.v ZE) true,.var (.v Zr) true],[(.sl .u8),yI,yI,ZE,Zr],[⟨.exit 2,[(1,.ref 0 []),(3,.v (.sl .u8)),(4,.v yI),(5,.ref 1 [])],[.var (.v ZE) true,.var (.v Zr) true],[(.sl .u8),yI,ZE,Zr]⟩],Zf (Xc yD) yD⟩
def ZKa:HI:={ still:=[2,7,12,26,29,38,43,45,47,49,51,53,55]}
theorem Zii:Zdh.okA yc 164 1:=Zy ZKa [] [Wn] ⟨WY,ytt⟩
def Xd(F:Nat)(s:((yL yB)×Int×Z8)):yO (((yL yB)×Int×Z8)⊕((yL yB)×Z8)):=
 if(decide (s.2.1 < (s.2.2.length:Int)))=true then
  (idx s.2.2 s.2.1).bind λe464=>
  (ZQ F s.1 (e464.1.length:Int)).bind λo465=>
  (Zf (Xc F) F (o465,s.2.1,0,s.2.2,e464)).bind λo468=>
  (ZQ F o468.1 o468.2.2.2.2.1).bind λo469=>
  (ZQ F o469 o468.2.2.2.2.2.1).bind λo470=>
  (YB F o470 o468.2.2.2.2.2.2).bind λo471=>
  some (.inl (o471,wi (o468.2.1+1),o468.2.2.1))
 else
 some (.inr (s.1,s.2.2))
def Zdi:Lp:=⟨[(1,.ref 0 []),(3,.v (.sl .u8)),(4,.v yI)],[.var (.v ZE) true],[(.sl .u8),yI,ZE],[⟨.exit 0,[(3,.v (.sl .u8))],[.var (.v ZE) true],[(.sl .u8),ZE]⟩],Zf (Xd yD) yD⟩
theorem Zij:Zdi.okA yc 164 0:=Zy ZKa [(1,Zdh)] [XD,Wn] ⟨Wc,WY,ytt⟩ ⟨Zii,ytt⟩
def WO(F:Nat)(a0:Z8):yO ((yL yB)):=
 (Xk F a0).bind λo462=>
 if(!o462)=true then
  some []
 else
 (ZQ F [] (a0.length:Int)).bind λo463=>
 (Zf (Xd F) F (o463,0,a0)).bind λo472=>
 some o472.1
def Zaz:Fs yc:=⟨164,[.v ZE],[],[ZE],(zZ (.sl .u8)),λx=>WO yD x⟩
theorem Zdj:Zaz.Ok:=fnO ZKa [(0,Zdi)] [VJ,XD] ⟨QR,Wc,ytt⟩ ⟨Zij,ytt⟩
def Xe(F:Nat)(s:((yL yB)×Int×Tx)):yO (((yL yB)×Int×Tx)⊕((yL yB)×Tx)):=
 if(decide (s.2.1 < (s.2.2.1.length:Int)))=true then
  (idx s.2.2.1 s.2.1).bind λe474=>
  (Ys F s.1 e474.1.1).bind λo475=>
  (idx s.2.2.1 s.2.1).bind λe476=>
  (ZQ F o475 e476.1.2).bind λo477=>
  some (.inl (o477,wi (s.2.1+1),s.2.2))
 else
 some (.inr (s.1,s.2.2))
def Zdk:Lp:=⟨[(1,.ref 0 []),(3,.v (.sl .u8)),(4,.v yI)],[.var (.v yTx) true],[(.sl .u8),yI,yTx],[⟨.exit 0,[(1,.ref 0 []),(3,.v (.sl .u8))],[.var (.v yTx) true],[(.sl .u8),yTx]⟩],Zf (Xe yD) yD⟩
def ZKb:HI:={ still:=[2,8,17,24,26,33,35,38,47,53,55,61,62,64,66]}
theorem Zik:Zdk.okA yc 115 0:=Zy ZKb [] [Y9,XD] ⟨XJ,Wc,ytt⟩
def Xf(F:Nat)(s:((yL yB)×Int×Tx)):yO (((yL yB)×Int×Tx)⊕((yL yB)×Tx)):=
 if(decide (s.2.1 < (s.2.2.2.1.length:Int)))=true then
  (idx s.2.2.2.1 s.2.1).bind λe480=>
  (ZQ F s.1 e480.1).bind λo481=>
  (idx s.2.2.2.1 s.2.1).bind λe482=>
  (WO F e482.2).bind λo483=>
  (WX F o481 o483).bind λo484=>
  some (.inl (o484,wi (s.2.1+1),s.2.2))
 else
 some (.inr (s.1,s.2.2))
def Zdl:Lp:=⟨[(1,.ref 0 []),(3,.v (.sl .u8)),(5,.v yI)],[.var (.v yTx) true],[(.sl .u8),yI,yTx],[⟨.exit 2,[(1,.ref 0 []),(3,.v (.sl .u8))],[.var (.v yTx) true],[(.sl .u8),yTx]⟩],Zf (Xf yD) yD⟩
theorem Zil:Zdl.okA yc 115 1:=Zy ZKb [] [XD,Zaz,ZbV] ⟨Wc,Zdj,Zih,ytt⟩
def WP(F:Nat)(a0:Tx):yO ((yL yB)):=
 (ZQ F [] (a0.1.length:Int)).bind λo473=>
 (Zf (Xe F) F (o473,0,a0)).bind λo478=>
 (ZQ F o478.1 (o478.2.2.1.length:Int)).bind λo479=>
 (Zf (Xf F) F (o479,0,o478.2)).bind λo485=>
 (ZQ F o485.1 o485.2.2.2).bind λo486=>
 some o486
def ZaA:Fs yc:=⟨115,[.v yTx],[],[yTx],(zZ (.sl .u8)),λx=>WP yD x⟩
theorem Zdm:ZaA.Ok:=fnO ZKb [(0,Zdk),(1,Zdl)] [XD] ⟨Wc,ytt⟩ ⟨Zik,Zil,ytt⟩
def Za0(F:Nat)(a0:Tx):yO ((yL yB)):=
 (Z0 F a0).bind λo487=>
 if(!o487)=true then
  some yzz
 else
 (WP F a0).bind λo488=>
 (YA F ZIN [o488]).bind λo489=>
 some o489
def ZhT:Fs yc:=⟨67,[.v yTx],[],[yTx],(zZ (.arr 32 .u8)),λx=>Za0 yD x⟩
theorem Znu:ZhT.Ok:=fnO { still:=[3,7,9]} [] [WB,ZaA,Y2] ⟨Vp,Zdm,Xj,ytt⟩
def Wo(F:Nat)(s:((yL yB)×(yL yB)×Int×(yL yB))):yO (((yL yB)×(yL yB)×Int×(yL yB))⊕(yL yB)):=
 if(decide (s.2.2.1 < (s.1.length:Int)))=true then
  (idx s.1 s.2.2.1).bind λe490=>
  (idx s.2.1 s.2.2.1).bind λe491=>
  if(apB s.2.2.2.length 1 1)=true then
   some (.inl (s.1,s.2.1,wi (s.2.2.1+1),s.2.2.2++([e490^^^e491]:yL yB)))
  else
  none
 else
 some (.inr s.2.2.2)
def ZeI:Lp:=⟨[(0,.v (.sl .u8)),(1,.v (.sl .u8)),(5,.own 0 .u8),(6,.v yI)],[.log .u8 5],[(.sl .u8),(.sl .u8),yI,(.sl .u8)],[⟨.exit 0,[(5,.own 0 .u8)],[.log .u8 5],[(.sl .u8)]⟩],Zf (Wo yD) yD⟩
theorem ZiV:ZeI.okA yc 116 0:=Zy { own:=[5,13,24],still:=[4]} [] [] trivial
def QA(F:Nat)(a0:(yL yB))(a1:(yL yB)):yO ((yL yB)):=
 (Zf (Wo F) F (a0,a1,0,[])).bind λo492=>
 some o492
def Zfr:Fs yc:=⟨116,[.v (.sl .u8),.v (.sl .u8)],[],[(.sl .u8),(.sl .u8)],(zZ (.sl .u8)),λx=>QA yD x.1 x.2⟩
theorem ZlA:Zfr.Ok:=fnO { own:=[5,13,24],still:=[4]} [(0,ZeI)] [] trivial ⟨ZiV,ytt⟩
def X3(F:Nat)(s:(yU×Int×(yL yB))):yO ((yU×Int×(yL yB))⊕(yL yB)):=
 if(decide (s.2.1 < 8))=true then
  let y493:yU:=ZI s.1 (min ((w64 (wi (56 - (wi (8*s.2.1))))).toNat:Int).toNat 64)
  if(apB s.2.2.length 1 1)=true then
   some (.inl (s.1,wi (s.2.1+1),s.2.2++([w8 (y493.toNat:Int)]:yL yB)))
  else
  none
 else
 some (.inr s.2.2)
def Zdn:Lp:=⟨[(0,.v .u64),(3,.own 0 .u8),(4,.v yI)],[.log .u8 5],[.u64,yI,(.sl .u8)],[⟨.exit 0,[(3,.own 0 .u8)],[.log .u8 5],[(.sl .u8)]⟩],Zf (X3 yD) yD⟩
theorem Zim:Zdn.okA yc 165 0:=Zy { own:=[3,9,18],still:=[2]} [] [] trivial
def V4(F:Nat)(a0:yU):yO ((yL yB)):=
 (Zf (X3 F) F (a0,0,[])).bind λo494=>
 some o494
def ZeJ:Fs yc:=⟨165,[.v .u64],[],[.u64],(zZ (.sl .u8)),λx=>V4 yD x⟩
theorem ZkE:ZeJ.Ok:=fnO { own:=[3,9,18],still:=[2]} [(0,Zdn)] [] trivial ⟨Zim,ytt⟩
def ZKc:HI:={ own:=[5,36,41],still:=[4,22,24],frz:=[21]}
def YU(F:Nat)(s:(Int×yU×Int×(yL yB)×(yL yB)×(yL yB))):yO ((Int×yU×Int×(yL yB)×(yL yB)×(yL yB))⊕(Int×yU×(yL yB)×(yL yB)×(yL yB))):=
 if(decide (s.2.2.1 < 32))=true then
  if(decide ((s.2.2.2.2.1.length:Int) < s.1))=true then
   if(inB s.2.2.1 32)=true then
    (s.2.2.2.2.2[s.2.2.1.toNat]?).bind λe501=>
    if(apB s.2.2.2.2.1.length 1 1)=true then
     some (.inl (s.1,s.2.1,wi (s.2.2.1+1),s.2.2.2.1,s.2.2.2.2.1++([e501]:yL yB),s.2.2.2.2.2))
    else
    none
   else
   none
  else
  some (.inr (s.1,s.2.1,s.2.2.2.1,s.2.2.2.2.1,s.2.2.2.2.2))
 else
 some (.inr (s.1,s.2.1,s.2.2.2.1,s.2.2.2.2.1,s.2.2.2.2.2))
def ZcG:Lp:=⟨[(1,.v yI),(2,.ref 0 []),(5,.own 1 .u8),(6,.v .u64),(7,.ref 2 []),(8,.v yI)],[.var (.v (.arr 32 .u8)) false,.log .u8 5,.var (.v (.arr 32 .u8)) true],[yI,.u64,yI,(.arr 32 .u8),(.sl .u8),(.arr 32 .u8)],[⟨.exit 2,[(1,.v yI),(2,.ref 0 []),(5,.own 1 .u8),(6,.v .u64)],[.var (.v (.arr 32 .u8)) false,.log .u8 5,.var (.v (.arr 32 .u8)) true],[yI,.u64,(.arr 32 .u8),(.sl .u8),(.arr 32 .u8)]⟩],Zf (YU yD) yD⟩
theorem Zhh:ZcG.okA yc 117 1:=Zy ZKc [] [] trivial
def XN(F:Nat)(s:(Int×yU×(yL yB)×(yL yB))):yO ((Int×yU×(yL yB)×(yL yB))⊕((yL yB)×(yL yB))):=
 if(decide ((s.2.2.2.length:Int) < s.1))=true then
  (V4 F s.2.1).bind λo499=>
  (YA F ZyW [s.2.2.1,o499]).bind λo500=>
  (Zf (YU F) F (s.1,s.2.1,0,s.2.2.1,s.2.2.2,o500)).bind λo502=>
  some (.inl (o502.1,o502.2.1+1,o502.2.2.1,o502.2.2.2.1))
 else
 some (.inr (s.2.2.1,s.2.2.2))
def ZcH:Lp:=⟨[(1,.v yI),(2,.ref 0 []),(5,.own 1 .u8),(6,.v .u64)],[.var (.v (.arr 32 .u8)) false,.log .u8 5],[yI,.u64,(.arr 32 .u8),(.sl .u8)],[⟨.exit 0,[(5,.own 1 .u8)],[.var (.v (.arr 32 .u8)) false,.log .u8 5],[(.arr 32 .u8),(.sl .u8)]⟩],Zf (XN yD) yD⟩
theorem Zhi:ZcH.okA yc 117 0:=Zy ZKc [(1,ZcG)] [ZeJ,Y2] ⟨ZkE,Xj,ytt⟩ ⟨Zhh,ytt⟩
def WC(F:Nat)(a0:(yL yB))(a1:Int):yO ((yL yB)):=
 if(decide (a1 < 0))=true then
  some []
 else
 if(decide (a1 > 65536))=true then
  some []
 else
 (Zf (XN F) F (a1,0,a0,[])).bind λo503=>
 some o503.2
def QS:Fs yc:=⟨117,[.v (.arr 32 .u8),.v yI],[],[(.arr 32 .u8),yI],(zZ (.sl .u8)),λx=>WC yD x.1 x.2⟩
theorem ZcI:QS.Ok:=fnO ZKc [(0,ZcH)] [] trivial ⟨Zhi,ytt⟩
def Xv(F:Nat)(s:((yL yB)×(yL yB)×Int×(yL yB)×(yL yB))):yO (((yL yB)×(yL yB)×Int×(yL yB)×(yL yB))⊕((yL yB)×(yL yB))):=
 if(decide (s.2.2.1 < (s.1.length:Int)))=true then
  (idx s.1 s.2.2.1).bind λe505=>
  (idx s.2.1 s.2.2.1).bind λe506=>
  if(apB s.2.2.2.2.length 1 1)=true then
   some (.inl (s.1,s.2.1,wi (s.2.2.1+1),s.2.2.2.1,s.2.2.2.2++([e505^^^e506]:yL yB)))
  else
  none
 else
 some (.inr (s.2.2.2.1,s.2.2.2.2))
def ZbW:Lp:=⟨[(0,.v (.sl .u8)),(1,.v (.sl .u8)),(5,.own 1 .u8),(6,.v yI)],[.log .u8 5,.log .u8 5],[(.sl .u8),(.sl .u8),yI,(.sl .u8),(.sl .u8)],[⟨.exit 0,[(5,.own 1 .u8)],[.log .u8 5,.log .u8 5],[(.sl .u8),(.sl .u8)]⟩],Zf (Xv yD) yD⟩
theorem ZgO:ZbW.okA yc 116 0:=Zy { own:=[4,5,13,24,25]} [] [] trivial
def Vq(F:Nat)(a0:(yL yB))(a1:(yL yB)):yO ((yL yB)):=
 (Zf (Xv F) F (a0,a1,0,[],[])).bind λo507=>
 some o507.2
def ZcJ:Fs yc:=⟨116,[.v (.sl .u8),.v (.sl .u8)],[],[(.sl .u8),(.sl .u8)],[⟨.ret,[(0,.own 0 .u8)],[.log .u8 5],[(.sl .u8)]⟩],λx=>Vq yD x.1 x.2⟩
theorem ZiW:ZcJ.Ok:=fnO { own:=[4,5,13,24,25]} [(0,ZbW)] [] trivial ⟨ZgO,ytt⟩
def QB(F:Nat)(a0:(yL yB))(a1:(yL yB)):yO ((yL yB)):=
 if(decide ((a1.length:Int) > 65536))=true then
  some []
 else
 (WC F a0 (a1.length:Int)).bind λo504=>
 (Vq F a1 o504).bind λo508=>
 (YA F ZGm [a0,o508]).bind λo509=>
 if(apB o508.length ((o509.take 8).length) 1)=true then
  some (o508++(o509.take 8))
 else
 none
def Zfs:Fs yc:=⟨118,[.v (.arr 32 .u8),.v (.sl .u8)],[],[(.arr 32 .u8),(.sl .u8)],(zZ (.sl .u8)),λx=>QB yD x.1 x.2⟩
def ZLD:HI:={ own:=[5,15,20,22],still:=[4,10,11,13,14,18],frz:=[16,21]}
theorem ZlB:Zfs.Ok:=fnO ZLD [] [QS,ZcJ,Y2] ⟨ZcI,ZiW,Xj,ytt⟩
def QC(F:Nat)(a0:(yL yB))(a1:(yL yB)):yO (((yL yB)×Bool)):=
 if(decide ((wi ((a1.length:Int) - 8)) < 0))=true then
  some ([],false)
 else
 if(decide ((wi ((a1.length:Int) - 8)) > 65536))=true then
  some ([],false)
 else
 if(VZ a1.length none (some (wi ((a1.length:Int) - 8))))=true then
  (WC F a0 (wi ((a1.length:Int) - 8))).bind λo510=>
  (QA F (a1.take ((wi ((a1.length:Int) - 8)).toNat)) o510).bind λo511=>
  (QB F a0 o511).bind λo512=>
  let y513:Bool:= !((V1 o512).data.toList==(V1 a1).data.toList)
  if y513=true then
   some ([],false)
  else
  some (o511,true)
 else
 none
def Zft:Fs yc:=⟨68,[.v (.arr 32 .u8),.v (.sl .u8)],[],[(.arr 32 .u8),(.sl .u8)],[⟨.ret,[(0,.tup [.v (.sl .u8),.v .bool])],[],[(.sl .u8),.bool]⟩],λx=>QC yD x.1 x.2⟩
def ZLE:HI:={ still:=[4,5,19,20,21,22,24,25]}
theorem ZlC:Zft.Ok:=fnO ZLE [] [QS,Zfr,Zfs] ⟨ZcI,ZlA,ZlB,ytt⟩
abbrev Za:Ty:=(.st [(.sl .u8),.bool])
abbrev Zb:Type:=((yL yB)×Bool)
def Vg(F:Nat)(a0:(yL yB)):yO (Zb):=
 if(apB 0 a0.length 1)=true then
  some (a0,false)
 else
 none
def Za9:Fs yc:=⟨119,[.v (.sl .u8)],[],[(.sl .u8)],[⟨.ret,[(0,.ref 0 [])],[.var (.v Za) true],[Za]⟩],λx=>Vg yD x⟩
theorem ZeK:Za9.Ok:=fnO { own:=[3,5],still:=[2]} [] [] trivial
def Yh(F:Nat)(s0:Zb):yO (Zb):=
 some ([],true)
def X4:Fs yc:=⟨166,[.ref 0 []],[.var (.v Za) true],[Za],[⟨.ret,[(0,.tup [])],[.var (.v Za) true],[Za]⟩],λx=>Yh yD x⟩
theorem WZ:X4.Ok:=fnO {} [] [] trivial
def ZJ(F:Nat)(s:(Int×Int×Int×Zb)):yO ((Int×Int×Int×Zb)⊕((Int×Zb)⊕Zb)):=
 if(decide (s.2.2.1 < (s.2.2.2.1.length:Int)))=true then
  if(decide (s.2.2.1 < 9))=true then
   (idx s.2.2.2.1 s.2.2.1).bind λe515=>
   if((e515.toNat:Int)==0)=true then
    if(decide (s.2.2.1 > 0))=true then
     (Yh F s.2.2.2).bind λo516=>
     some (.inr (.inl (0,o516)))
    else
    let y517:Int:=wi (s.1+(wi ((Int.tmod (e515.toNat:Int) 128)*s.2.1)))
    if(decide ((e515.toNat:Int) < 128))=true then
     if(VZ s.2.2.2.1.length (some (wi (s.2.2.1+1))) none)=true then
      some (.inr (.inl (y517,(s.2.2.2.1.drop ((wi (s.2.2.1+1)).toNat),s.2.2.2.2))))
     else
     none
    else
    some (.inl (y517,wi (128*s.2.1),wi (s.2.2.1+1),s.2.2.2))
   else
   let y518:Int:=wi (s.1+(wi ((Int.tmod (e515.toNat:Int) 128)*s.2.1)))
   if(decide ((e515.toNat:Int) < 128))=true then
    if(VZ s.2.2.2.1.length (some (wi (s.2.2.1+1))) none)=true then
     some (.inr (.inl (y518,(s.2.2.2.1.drop ((wi (s.2.2.1+1)).toNat),s.2.2.2.2))))
    else
    none
   else
   some (.inl (y518,wi (128*s.2.1),wi (s.2.2.1+1),s.2.2.2))
  else
  some (.inr (.inr s.2.2.2))
 else
 some (.inr (.inr s.2.2.2))
def ZaB:Lp:=⟨[(0,.ref 0 []),(3,.v yI),(4,.v yI),(5,.v yI)],[.var (.v Za) true],[yI,yI,yI,Za],[⟨.ret,[(2,.v yI)],[.var (.v Za) true],[yI,Za]⟩,⟨.exit 0,[(0,.ref 0 [])],[.var (.v Za) true],[Za]⟩],Zf (ZJ yD) yD⟩
theorem ZeL:ZaB.okA yc 120 0:=Zy { still:=[2,34,57]} [] [X4] ⟨WZ,ytt⟩
def Zu(F:Nat)(s0:Zb):yO ((Int×Zb)):=
 (Zf (ZJ F) F (0,1,0,s0)).bind λo519=>
 match o519 with
 |.inl o520=>
  some (o520.1,o520.2)
 |.inr o521=>
  (Yh F o521).bind λo522=>
  some (0,o522)
def ZZ:Fs yc:=⟨120,[.ref 0 []],[.var (.v Za) true],[Za],[⟨.ret,[(0,.v yI)],[.var (.v Za) true],[yI,Za]⟩],λx=>Zu yD x⟩
theorem Z7:ZZ.Ok:=fnO { still:=[2,34,57]} [(0,ZaB)] [X4] ⟨WZ,ytt⟩ ⟨ZeL,ytt⟩
def YC(F:Nat)(a1:Int)(s0:Zb):yO (((yL yB)×Zb)):=
 if s0.2=true then
  (Yh F s0).bind λo525=>
  some ([],o525)
 else
 if(decide (a1 > (s0.1.length:Int)))=true then
  (Yh F s0).bind λo526=>
  some ([],o526)
 else
 if(VZ s0.1.length none (some a1))=true then
  if(apB 0 ((s0.1.take a1.toNat).length) 1)=true then
   if(VZ s0.1.length (some a1) none)=true then
    some (s0.1.take a1.toNat,(s0.1.drop a1.toNat,s0.2))
   else
   none
  else
  none
 else
 none
def X5:Fs yc:=⟨167,[.ref 0 [],.v yI],[.var (.v Za) true],[yI,Za],[⟨.ret,[(0,.v (.sl .u8))],[.var (.v Za) true],[(.sl .u8),Za]⟩],λx=>YC yD x.1 x.2⟩
theorem W0:X5.Ok:=fnO { own:=[21,28],still:=[4,19]} [] [X4] ⟨WZ,ytt⟩
def Yr(F:Nat)(s:((yL yB)×yU×Int×Zb)):yO (((yL yB)×yU×Int×Zb)⊕(yU×Zb)):=
 if(decide (s.2.2.1 < (s.1.length:Int)))=true then
  (idx s.1 s.2.2.1).bind λe528=>
  some (.inl (s.1,(256*s.2.1)+(yai e528.toNat),wi (s.2.2.1+1),s.2.2.2))
 else
 some (.inr (s.2.1,s.2.2.2))
def ZaC:Lp:=⟨[(3,.v (.sl .u8)),(4,.v .u64),(5,.v yI)],[.var (.v Za) true],[(.sl .u8),.u64,yI,Za],[⟨.exit 0,[(4,.v .u64)],[.var (.v Za) true],[.u64,Za]⟩],Zf (Yr yD) yD⟩
theorem ZeM:ZaC.okA yc 169 0:=Zy { still:=[2,6]} [] [] trivial
def Z3(F:Nat)(s0:Zb):yO ((yU×Zb)):=
 (YC F 8 s0).bind λo527=>
 (Zf (Yr F) F (o527.1,0,0,o527.2)).bind λo529=>
 some (o529.1,o529.2)
def Xg:Fs yc:=⟨169,[.ref 0 []],[.var (.v Za) true],[Za],[⟨.ret,[(0,.v .u64)],[.var (.v Za) true],[.u64,Za]⟩],λx=>Z3 yD x⟩
theorem X6:Xg.Ok:=fnO { still:=[2,6]} [(0,ZaC)] [X5] ⟨W0,ytt⟩ ⟨ZeM,ytt⟩
abbrev dT1:Type:=(Int×Int×Int×Int×Zb×Z8×(yL ZH)×Int×Int×yU×(yL yU))
def ZY(F:Nat)(s:dT1):yO (dT1⊕(Int×Int×Zb×Z8×(yL ZH)×Int×Int×yU×(yL yU))):=
 if(decide (s.2.2.2.1 < s.2.2.1))=true then
  if(decide (s.2.2.2.1 < 13))=true then
   (Z3 F s.2.2.2.2.1).bind λo530=>
   if(apB s.2.2.2.2.2.2.2.2.2.2.length 1 8)=true then
    let y531:(yL yU):=s.2.2.2.2.2.2.2.2.2.2++([o530.1]:yL yU)
    some (.inl (s.1,s.2.1,s.2.2.1,wi (s.2.2.2.1+1),o530.2,s.2.2.2.2.2.1,s.2.2.2.2.2.2.1,s.2.2.2.2.2.2.2.1,s.2.2.2.2.2.2.2.2.1,s.2.2.2.2.2.2.2.2.2.1,y531))
   else
   none
  else
  some (.inr (s.1,s.2.1,s.2.2.2.2.1,s.2.2.2.2.2.1,s.2.2.2.2.2.2.1,s.2.2.2.2.2.2.2.1,s.2.2.2.2.2.2.2.2.1,s.2.2.2.2.2.2.2.2.2.1,s.2.2.2.2.2.2.2.2.2.2))
 else
 some (.inr (s.1,s.2.1,s.2.2.2.2.1,s.2.2.2.2.2.1,s.2.2.2.2.2.2.1,s.2.2.2.2.2.2.2.1,s.2.2.2.2.2.2.2.2.1,s.2.2.2.2.2.2.2.2.2.1,s.2.2.2.2.2.2.2.2.2.2))
def ZLb:yL ESh:=[.var (.v Za) true,.var (.v ZE) true,.var (.agg [.own 3 Zr]) true,.log Zr 133,.var (.agg [.own 5 .u64,.v yI,.v yI,.v .u64]) true,.log .u64 128]
abbrev tL3:yL Ty:=[yI,yI,Za,ZE,(.sl Zr),yI,yI,.u64,(.sl .u64)]
abbrev tL4:yL Ty:=[yI,yI,yI,yI,Za,ZE,(.sl Zr),yI,yI,.u64,(.sl .u64)]
def ZcK:Lp:=⟨[(0,.ref 0 []),(2,.ref 1 []),(3,.ref 2 []),(4,.v yI),(5,.v yI),(6,.ref 4 []),(7,.v yI),(8,.v yI)],ZLb,tL4,[⟨.exit 2,[(0,.ref 0 []),(2,.ref 1 []),(3,.ref 2 []),(4,.v yI),(5,.v yI),(6,.ref 4 [])],ZLb,tL3⟩],Zf (ZY yD) yD⟩
def ZKd:HI:={ own:=[32,36,48,51],still:=[9,20,33,38,41,44],ghost:=[(3,[([0],Zr,133)]),(6,[([0],.u64,128)])]}
theorem Zhj:ZcK.okA yc 168 1:=Zy ZKd [] [Xg] ⟨X6,ytt⟩
def Yy(F:Nat)(s:(Int×Int×Zb×Z8×(yL ZH))):yO ((Int×Int×Zb×Z8×(yL ZH))⊕(Zb×Z8×(yL ZH))):=
 if(decide (s.2.1 < s.1))=true then
  if(decide (s.2.1 < 5))=true then
   (Zu F s.2.2.1).bind λo524=>
   (Zf (ZY F) F (s.1,s.2.1,o524.1,0,o524.2,s.2.2.2.1,s.2.2.2.2,0,0,0,[])).bind λo532=>
   (Zu F o532.2.2.1).bind λo533=>
   (Zu F o533.2).bind λo534=>
   (Z3 F o534.2).bind λo535=>
   if(apB o532.2.2.2.2.1.length 1 48)=true then
    let y536:(yL ZH):=o532.2.2.2.2.1++([(o532.2.2.2.2.2.2.2.2,o533.1,o534.1,o535.1)]:yL ZH)
    some (.inl (o532.1,wi (o532.2.1+1),o535.2,o532.2.2.2.1,y536))
   else
   none
  else
  some (.inr (s.2.2.1,s.2.2.2.1,s.2.2.2.2))
 else
 some (.inr (s.2.2.1,s.2.2.2.1,s.2.2.2.2))
def ZcL:Lp:=⟨[(0,.ref 0 []),(2,.ref 1 []),(3,.ref 2 []),(4,.v yI),(5,.v yI)],[.var (.v Za) true,.var (.v ZE) true,.var (.agg [.own 3 Zr]) true,.log Zr 133],[yI,yI,Za,ZE,(.sl Zr)],[⟨.exit 0,[(2,.ref 1 []),(3,.ref 2 [])],[.var (.v Za) true,.var (.v ZE) true,.var (.agg [.own 3 Zr]) true,.log Zr 133],[Za,ZE,(.sl Zr)]⟩],Zf (Yy yD) yD⟩
theorem Zhk:ZcL.okA yc 168 0:=Zy ZKd [(1,ZcK)] [ZZ,Xg] ⟨Z7,X6,ytt⟩ ⟨Zhj,ytt⟩
def XO(F:Nat)(s0:Zb):yO ((Z8×Zb)):=
 (Zu F s0).bind λo523=>
 (Zf (Yy F) F (o523.1,0,o523.2,[],[])).bind λo537=>
 some (o537.2.2,o537.1)
def Zdo:Fs yc:=⟨168,[.ref 0 []],[.var (.v Za) true],[Za],[⟨.ret,[(0,.v ZE)],[.var (.v Za) true],[ZE,Za]⟩],λx=>XO yD x⟩
theorem ZjW:Zdo.Ok:=fnO ZKd [(0,ZcL)] [ZZ] ⟨Z7,ytt⟩ ⟨Zhk,ytt⟩
def Vh(F:Nat)(a0:(yL yB)):yO ((Z8×Bool)):=
 (Vg F a0).bind λo542=>
 (XO F o542).bind λo543=>
 (Xk F o543.1).bind λo544=>
 if(!o544)=true then
  some ([],false)
 else
 (WO F o543.1).bind λo545=>
 let y546:Bool:= !((V1 o545).data.toList==(V1 a0).data.toList)
 if y546=true then
  some ([],false)
 else
 some (o543.1,true)
def Zfu:Fs yc:=⟨123,[.v (.sl .u8)],[],[(.sl .u8)],[⟨.ret,[(0,.tup [.v ZE,.v .bool])],[],[ZE,.bool]⟩],λx=>Vh yD x⟩
theorem ZlD:Zfu.Ok:=fnO { still:=[3,5,6,8,12]} [] [Za9,Zdo,VJ,Zaz] ⟨ZeK,ZjW,QR,Zdj,ytt⟩
def W1(F:Nat):((yL yB)×Int×Int×Tx×XA)->yO (((yL yB)×Int×Int×Tx×XA)⊕((yL yB)×Int×Tx×XA))
 |(c,d,a,e,b)=>
 if(decide (a < (b.2.1.length:Int)))=true then
  (idx b.2.1 a).bind λe552=>
  (YB F c e552.1).bind λo553=>
  (idx b.2.1 a).bind λe554=>
  (YB F o553 e554.2).bind λo555=>
  some (.inl (o555,d,wi (a+1),e,b))
 else
 some (.inr (c,d,e,b))
def Zdp:Lp:=⟨[(1,.ref 0 []),(3,.v (.sl .u8)),(4,.v yI),(5,.ref 1 []),(6,.v yI)],[.var (.v yTx) true,.var (.v Z6) true],[(.sl .u8),yI,yI,yTx,Z6],[⟨.exit 2,[(1,.ref 0 []),(3,.v (.sl .u8)),(4,.v yI),(5,.ref 1 [])],[.var (.v yTx) true,.var (.v Z6) true],[(.sl .u8),yI,yTx,Z6]⟩],Zf (W1 yD) yD⟩
def ZKe:HI:={ still:=[2,7,10,25,27,29,32,41,47,49,55,57,59]}
theorem Zin:Zdp.okA yc 127 1:=Zy ZKe [] [Wn] ⟨WY,ytt⟩
def W2(F:Nat)(s:((yL yB)×Int×Tx)):yO (((yL yB)×Int×Tx)⊕((yL yB)×Tx)):=
 if(decide (s.2.1 < (s.2.2.1.length:Int)))=true then
  (idx s.2.2.1 s.2.1).bind λe549=>
  (ZQ F s.1 e549.2.1).bind λo550=>
  (ZQ F o550 (e549.2.2.1.length:Int)).bind λo551=>
  (Zf (W1 F) F (o551,s.2.1,0,s.2.2,e549.2)).bind λo556=>
  (YB F o556.1 o556.2.2.2.2.2).bind λo557=>
  some (.inl (o557,wi (o556.2.1+1),o556.2.2.1))
 else
 some (.inr (s.1,s.2.2))
def Zdq:Lp:=⟨[(1,.ref 0 []),(3,.v (.sl .u8)),(4,.v yI)],[.var (.v yTx) true],[(.sl .u8),yI,yTx],[⟨.exit 0,[(3,.v (.sl .u8))],[.var (.v yTx) true],[(.sl .u8),yTx]⟩],Zf (W2 yD) yD⟩
theorem Zio:Zdq.okA yc 127 0:=Zy ZKe [(1,Zdp)] [XD,Wn] ⟨Wc,WY,ytt⟩ ⟨Zin,ytt⟩
def V5(F:Nat)(a0:Tx):yO ((yL yB)):=
 (Z0 F a0).bind λo547=>
 if(!o547)=true then
  some []
 else
 (WP F a0).bind λo548=>
 (Zf (W2 F) F (o548,0,a0)).bind λo558=>
 some o558.1
def ZeN:Fs yc:=⟨127,[.v yTx],[],[yTx],(zZ (.sl .u8)),λx=>V5 yD x⟩
theorem ZkF:ZeN.Ok:=fnO ZKe [(0,Zdq)] [WB,ZaA] ⟨Vp,Zdm,ytt⟩ ⟨Zio,ytt⟩
def Zt(F:Nat)(s0:Zb):yO ((Bool×Zb)):=
 some (!s0.2,s0)
def YL:Fs yc:=⟨121,[.ref 0 []],[.var (.v Za) true],[Za],[⟨.ret,[(0,.v .bool)],[.var (.v Za) true],[.bool,Za]⟩],λx=>Zt yD x⟩
theorem Xh:YL.Ok:=fnO { still:=[2]} [] [] trivial
def YF(F:Nat):((yL yB)×Int×Zb×(yL yB)×(yL yB))->yO (((yL yB)×Int×Zb×(yL yB)×(yL yB))⊕(Zb×(yL yB)×(yL yB)))
 |(b,a,d,e,c)=>
 if(decide (a < (b.length:Int)))=true then
  (idx b a).bind λe563=>
  if(inB a 32)=true then
   (c[a.toNat]?).bind λe564=>
   some (.inl (b,wi (a+1),d,e,c.set a.toNat e563))
  else
  none
 else
 some (.inr (d,e,c))
def Q2:Lp:=⟨[(2,.ref 1 []),(3,.v (.sl .u8)),(4,.ref 2 []),(5,.v yI)],[.var (.v Za) true,.var (.v (.arr 32 .u8)) true,.var (.v (.arr 32 .u8)) true],[(.sl .u8),yI,Za,(.arr 32 .u8),(.arr 32 .u8)],[⟨.exit 0,[(2,.ref 1 []),(4,.ref 2 [])],[.var (.v Za) true,.var (.v (.arr 32 .u8)) true,.var (.v (.arr 32 .u8)) true],[Za,(.arr 32 .u8),(.arr 32 .u8)]⟩],Zf (YF yD) yD⟩
theorem ZdQ:Q2.okA yc 122 0:=Zy { still:=[6]} [] [] trivial
def Wg(F:Nat)(s0:Zb):yO (((yL yB)×Zb)):=
 (YC F 32 s0).bind λo562=>
 (Zf (YF F) F (o562.1,0,o562.2,yzz,yzz)).bind λo565=>
 some (o565.2.2,o565.1)
def ZaD:Fs yc:=⟨122,[.ref 0 []],[.var (.v Za) true],[Za],[⟨.ret,[(0,.v (.arr 32 .u8))],[.var (.v Za) true],[(.arr 32 .u8),Za]⟩],λx=>Wg yD x⟩
theorem ZfV:ZaD.Ok:=fnO { still:=[6]} [(0,Q2)] [X5] ⟨W0,ytt⟩ ⟨ZdQ,ytt⟩
abbrev qO:=Tx×Zb×Int×(yL Out)×(yL Unit)×(yL In)
def Ya(F:Nat):((yL yB)×Int×Int×qO)->yO (((yL yB)×Int×Int×qO)⊕((yL yB)×qO))
 |(e,b,a,f,c,g,h,i,d)=>
 if(decide (a < b))=true then
  if(decide (a < 65))=true then
   (Zt F c).bind λo561=>
   if o561.1=true then
    (Wg F o561.2).bind λo566=>
    (Zu F o566.2).bind λo567=>
    if(apB d.length 1 80)=true then
     let y568:(yL In):=d++([((o566.1,o567.1),(0,[],0))]:yL In)
     some (.inl (e,b,wi (a+1),f,o567.2,g,h,()::i,y568))
    else
    none
   else
   some (.inr (e,f,o561.2,g,h,i,d))
  else
  some (.inr (e,f,c,g,h,i,d))
 else
 some (.inr (e,f,c,g,h,i,d))
abbrev tL5:yL Ty:=[(.sl .u8),yI,yI,yTx,Za,yI,(.sl Wr),(.sl (.st [])),(.sl yIn)]
abbrev zE:List ESh:=[.var (.v yTx) true,.var (.v Za) true,.var (.agg [.rw 4,.own 3 Wr,.v yI]) true,.log Wr 130,.row yIn true 123]
def ZeO:Lp:=⟨[(0,.v (.sl .u8)),(2,.ref 0 []),(4,.ref 1 []),(5,.ref 2 []),(6,.v yI),(7,.v yI)],zE,tL5,[⟨.exit 0,[(0,.v (.sl .u8)),(2,.ref 0 []),(4,.ref 1 []),(5,.ref 2 [])],zE,[(.sl .u8),yTx,Za,yI,(.sl Wr),(.sl (.st [])),(.sl yIn)]⟩],Zf (Ya yD) yD⟩
def ZLF:HI:={ own:=[33,41,73,76],still:=[3,14,17,27,34,36,43,53,58,62,63,78,87,95,99,103,108,113],rowt:=[33,41,93],gst:=[(5,[([1],Wr,130)])]}
theorem ZiX:ZeO.okA yc 69 0:=Zy ZLF [] [YL,ZaD,ZZ] ⟨Xh,ZfV,Z7,ytt⟩
end
end Go.Proofs.YtghfiijgklnflaaGreat
end
