/- Parts of the proof, in one file. -/
import Derived.Test.YtehgcchjaamddaaGreatKe
set_option linter.unusedVariables false
set_option linter.unusedSimpArgs false
section
set_option maxRecDepth 4000
namespace Go.Proofs.YtehgcchjaamddaaGreat
open Go Go.Ev Go.Sha
theorem Zc8 (x:UInt32) (n k:Nat) (h:n+k=32) (hn:0 < n) {z:Int} (hz:((w64 z)&&&31).toNat=k):∃o,Zx fuel x z=some o∧o.toNat=lo (Nat.shiftRight (dbl x.toNat) n):=by
 refine ⟨_,rfl, ?_⟩
 have e1:((((w64 z)&&&31).toNat:Int)).toNat=k:=by rw [hz];rfl
 have e2:(32 - ((w64 z)&&&31)).toNat=n:=by
  have h1:((w64 z)&&&31)=UInt64.ofNat k:=UInt64.toNat_inj.1 (by rw [hz,UInt64.toNat_ofNat'];omega)
  rw [h1,UInt64.toNat_sub,UInt64.toNat_ofNat']
  show (2 ^ 64 - k % 2 ^ 64+32) % 2 ^ 64=n
  omega
 rw [e1,show ((((32 - ((w64 z)&&&31)).toNat:Nat):Int)).toNat=n by rw [e2];rfl,Nat.min_eq_left (by omega),Nat.min_eq_left (by omega)]
 exact ZB9 x h hn
theorem ZBL {l:List UInt8} {a b c d:UInt8} (ha:l[0]? =some a) (hb:l[1]? =some b) (hc:l[2]? =some c) (hd:l[3]? =some d):∃o,Zbh fuel l=some o∧o.toNat=((a.toNat*256+b.toNat)*256+c.toNat)*256+d.toNat:=by
 unfold Zbh
 rw [Zac (i:=0) (by omega) ha,Zac (i:=1) (by omega) hb,Zac (i:=2) (by omega) hc,Zac (i:=3) (by omega) hd]
 refine ⟨_,rfl, ?_⟩
 have h1:=a.toNat_lt
 have h2:=b.toNat_lt
 have h3:=c.toNat_lt
 have h4:=d.toNat_lt
 have hs:∀(x:UInt8) (n:Nat),n≤24→(ZfJ (UInt32.ofNat x.toNat) n).toNat=x.toNat*2 ^ n:=by
  intro x n hn
  have hx:=x.toNat_lt
  unfold ZfJ
  rw [UInt32.toNat_ofNat',UInt32.toNat_ofNat',Nat.mod_eq_of_lt (a:=x.toNat) (by omega)]
  refine Nat.mod_eq_of_lt ?_
  calc x.toNat*2 ^ n < 2 ^ 8*2 ^ n:=Nat.mul_lt_mul_of_pos_right hx (Nat.two_pow_pos n)
   _=2 ^ (8+n):=(Nat.pow_add ..).symm
   _≤2 ^ 32:=Nat.pow_le_pow_right (by omega) (by omega)
 rw [Zwr,Zwr,Zwr,hs _ _ (by omega),hs _ _ (by omega),hs _ _ (by omega),UInt32.toNat_ofNat',Nat.mod_eq_of_lt (a:=d.toNat) (by omega)]
 have k1:Nat.lor (a.toNat*2 ^ 24) (b.toNat*2 ^ 16)=2 ^ 16*(a.toNat*256+b.toNat):=by
  rw [Nat.mul_comm a.toNat,show Nat.lor (2 ^ 24*a.toNat) (b.toNat*2 ^ 16)=2 ^ 24*a.toNat|||b.toNat*2 ^ 16 from rfl, ←Nat.two_pow_add_eq_or_of_lt (by omega)]
  omega
 have k2:Nat.lor (2 ^ 16*(a.toNat*256+b.toNat)) (c.toNat*2 ^ 8)=2 ^ 8*((a.toNat*256+b.toNat)*256+c.toNat):=by
  rw [show Nat.lor (2 ^ 16*(a.toNat*256+b.toNat)) (c.toNat*2 ^ 8)=2 ^ 16*(a.toNat*256+b.toNat)|||c.toNat*2 ^ 8 from rfl, ←Nat.two_pow_add_eq_or_of_lt (by omega)]
  omega
 rw [k1,k2,show Nat.lor (2 ^ 8*((a.toNat*256+b.toNat)*256+c.toNat)) d.toNat=2 ^ 8*((a.toNat*256+b.toNat)*256+c.toNat)|||d.toNat from rfl, ←Nat.two_pow_add_eq_or_of_lt (by omega)]
 omega
theorem ZyF {l:List UInt8} (h:l.length=64):∃o,Qp fuel l=some o∧o.length=64∧∀(i:Nat) x,i < 64→o[i]? =some x→x.toNat=wd (YK (l.map UInt8.toNat)) i:=by
 unfold Qp
 generalize hz:([0,0,0,0,0,0,0,0,0,0,0,0,0,0,0,0,0,0,0,0,0,0,0,0,0,0,0,0,0,0,0,0,0,0,0,0,0,0,0,0,0,0,0,0,0,0,0,0,0,0,0,0,0,0,0,0,0,0,0,0,0,0,0,0]:List UInt32)=z
 have hzl:z.length=64:=by rw [←hz];rfl
 refine Exists.elim (Z3 (step:=WK fuel) (fun s=>s.1=l∧0≤s.2.1∧s.2.1≤64∧s.2.2.length=64∧∀(j:Nat) x,(j:Int) < s.2.1→s.2.2[j]? =some x→x.toNat=wd (YK (l.map UInt8.toNat)) j) (fun s=>(64 - s.2.1).toNat)
  (fun o=>o.length=64∧∀(j:Nat) x,j < 64→o[j]? =some x→x.toNat=wd (YK (l.map UInt8.toNat)) j) ?_ (l,(0:Int),z) ⟨rfl,Int.le_refl _,by dsimp only;omega,hzl,fun j x hj=>by dsimp only at hj;omega⟩ (by dsimp only;omega)) ?_
 rotate_left
 ·rintro o ⟨h1,h2⟩
  exact ⟨o,by rw [h1];rfl,h2⟩
 ·rintro ⟨b,i,w⟩ ⟨hb,h0,h64,hw,hv⟩
  dsimp only at hb h0 h64 hw hv
  subst hb
  unfold WK
  dsimp only
  have hset:∀(y:UInt32),y.toNat=wd (YK (b.map UInt8.toNat)) i.toNat→i < 64→∀(j:Nat) x,(j:Int) < i+1→(w.set i.toNat y)[j]? =some x→x.toNat=wd (YK (b.map UInt8.toNat)) j:=by
   intro y hy hi j x hj hx
   by_cases hji:j=i.toNat
   ·subst hji
    rw [List.getElem?_set_self (by omega)] at hx
    cases hx
    exact hy
   ·rw [List.getElem?_set_ne (Ne.symm hji)] at hx
    exact hv j x (by omega) hx
  by_cases hi:i < 64
  ·left
   rw [if_pos (decide_eq_true hi)]
   obtain ⟨e,he⟩:=WG (l:=w) (i:=i.toNat) (by omega)
   by_cases h16:i < 16
   ·rw [if_pos (decide_eq_true h16),Yp (z:=4*i) (by omega) (by omega),if_pos (by simp only [Vw,Bool.and_eq_true,decide_eq_true_eq];omega)]
    have g:∀k:Nat,k < 4→∃x,b[4*i.toNat+k]? =some x:=fun k hk=>WG (by omega)
    obtain ⟨x0,g0⟩:=g 0 (by omega)
    obtain ⟨x1,g1⟩:=g 1 (by omega)
    obtain ⟨x2,g2⟩:=g 2 (by omega)
    obtain ⟨x3,g3⟩:=g 3 (by omega)
    have e4:(4*i).toNat=4*i.toNat:=by omega
    obtain ⟨o,ho,hoe⟩:=ZBL (l:=b.drop (4*i).toNat) (by rw [List.getElem?_drop,e4];exact g0) (by rw [List.getElem?_drop,e4];exact g1) (by rw [List.getElem?_drop,e4];exact g2) (by rw [List.getElem?_drop,e4];exact g3)
    rw [ho,Option.bind_some,if_pos (XR h0 (by omega)),he,Option.bind_some,Yp (z:=i+1) (by omega) (by omega)]
    refine ⟨_,rfl,⟨rfl,by dsimp only;omega,by dsimp only;omega,by dsimp only;rw [List.length_set];exact hw,hset o ?_ hi⟩,by dsimp only;omega⟩
    have mg:∀(k:Nat) (x:UInt8),b[k]? =some x→(b.map UInt8.toNat)[k]? =some x.toNat:=fun k x hx=>by rw [List.getElem?_map,hx];rfl
    have hwg:=ZkV i.toNat (b.map UInt8.toNat) _ _ _ _ (mg _ _ g0) (mg _ _ g1) (mg _ _ g2) (mg _ _ g3)
    rw [hoe]
    have b0:=x0.toNat_lt
    have b1:=x1.toNat_lt
    have b2:=x2.toNat_lt
    have b3:=x3.toNat_lt
    exact (ZyC _ (by omega) hwg (by omega)).symm
   ·rw [if_neg (by simpa using h16)]
    rw [Yp (z:=i - 15) (by omega) (by omega),Yp (z:=i - 2) (by omega) (by omega),Yp (z:=i - 16) (by omega) (by omega),Yp (z:=i - 7) (by omega) (by omega),Yp (z:=i+1) (by omega) (by omega)]
    obtain ⟨e1,he1⟩:=WG (l:=w) (i:=(i - 15).toNat) (by omega)
    obtain ⟨e2,he2⟩:=WG (l:=w) (i:=(i - 2).toNat) (by omega)
    obtain ⟨e3,he3⟩:=WG (l:=w) (i:=(i - 16).toNat) (by omega)
    obtain ⟨e4,he4⟩:=WG (l:=w) (i:=(i - 7).toNat) (by omega)
    have v1:=hv _ _ (by omega) he1
    have v2:=hv _ _ (by omega) he2
    have v3:=hv _ _ (by omega) he3
    have v4:=hv _ _ (by omega) he4
    rw [if_pos (XR (by omega) (by omega)),he1,Option.bind_some,if_pos (XR (by omega) (by omega)),he2,Option.bind_some]
    obtain ⟨o1,ho1,p1⟩:=Zc8 e1 7 25 rfl (by omega) (z:= -7) rfl
    obtain ⟨o2,ho2,p2⟩:=Zc8 e1 18 14 rfl (by omega) (z:= -18) rfl
    obtain ⟨o3,ho3,p3⟩:=Zc8 e2 17 15 rfl (by omega) (z:= -17) rfl
    obtain ⟨o4,ho4,p4⟩:=Zc8 e2 19 13 rfl (by omega) (z:= -19) rfl
    rw [ho1,Option.bind_some,ho2,Option.bind_some,ho3,Option.bind_some,ho4,Option.bind_some]
    rw [if_pos (XR (by omega) (by omega)),he3,Option.bind_some,if_pos (XR (by omega) (by omega)),he4,Option.bind_some]
    try dsimp only
    rw [if_pos (XR h0 (by omega)),he,Option.bind_some]
    refine ⟨_,rfl,⟨rfl,by dsimp only;omega,by dsimp only;omega,by dsimp only;rw [List.length_set];exact hw,hset _ ?_ hi⟩,by dsimp only;omega⟩
    have hn:=Zvd (YK (b.map UInt8.toNat)) (i - 16).toNat
    rw [show (i - 16).toNat+16=i.toNat by omega,show (i - 16).toNat+1=(i - 15).toNat by omega,show (i - 16).toNat+9=(i - 7).toNat by omega,show (i - 16).toNat+14=(i - 2).toNat by omega, ←v1, ←v2, ←v3, ←v4] at hn
    rw [hn]
    rw [ZfV,ZfV,ZfV,ZCe e1 p1 p2,ZCf e2 p3 p4]
    exact ZCk ..
  ·right
   rw [if_neg (by simpa using hi)]
   exact ⟨_,rfl,hw,fun j x hj hx=>hv j x (by omega) hx⟩
theorem Zt3 {st:List UInt32} {l:List UInt8} (hs:st.length=8) (h:l.length=64):∃o,Xz fuel st l=some o∧o.map UInt32.toNat=Zjf (st.map UInt32.toNat) (YK (l.map UInt8.toNat)):=by
 unfold Xz
 obtain ⟨w,hw,hwl,hwv⟩:=ZyF h
 obtain ⟨k,hk,hkv⟩:∃k,ZfS fuel=some k∧k.map UInt32.toNat=ks:=⟨_,rfl,rfl⟩
 have hkl:k.length=64:=by rw [←List.length_map (f:=UInt32.toNat),hkv];rfl
 generalize hws:YK (l.map UInt8.toNat)=ws at hwv
 rw [hw,Option.bind_some,hk,Option.bind_some]
 refine Exists.elim (Z3 (step:=Wh fuel) (fun s=>0≤s.1∧s.1≤64∧s.2.1=st∧s.2.2.2.1=w∧s.2.2.2.2.1=k∧s.2.2.2.2.2.length=8∧s.2.2.2.2.2.map UInt32.toNat=rs ws (st.map UInt32.toNat) s.1.toNat) (fun s=>(64 - s.1).toNat)
  (fun o=>o.1=st∧o.2.2.2.2.length=8∧o.2.2.2.2.map UInt32.toNat=rs ws (st.map UInt32.toNat) 64) ?_ ((0:Int),st,([0,0,0,0,0,0,0,0]:List UInt32),w,k,st) ⟨Int.le_refl _,by dsimp only;omega,rfl,rfl,rfl,hs,rfl⟩ (by dsimp only;omega)) ?_
 rotate_left
 ·rintro o ⟨h1,p0,p1,p2⟩
  rw [h1,Option.bind_some]
  have hml:(Zjf (st.map UInt32.toNat) ws).length=8:=ZdJ (by rw [List.length_map];exact hs)
  refine Exists.elim (Z3 (step:=Wi fuel) (fun s=>0≤s.1∧s.1≤8∧s.2.1=st∧s.2.2.2.2.2.length=8∧(∀(j:Nat) x,s.2.2.2.2.2[j]? =some x→if (j:Int) < s.1 then (Zjf (st.map UInt32.toNat) ws)[j]? =some x.toNat else (rs ws (st.map UInt32.toNat) 64)[j]? =some x.toNat)) (fun s=>(8 - s.1).toNat)
   (fun o=>o.2.2.2.2.map UInt32.toNat=Zjf (st.map UInt32.toNat) ws) ?_ ((0:Int),o.1,o.2.1,o.2.2.1,o.2.2.2.1,o.2.2.2.2) ⟨Int.le_refl _,by dsimp only;omega,p0,p1,fun j x hx=>by
     dsimp only at hx ⊢
     rw [if_neg (by omega), ←p2,List.getElem?_map,hx]
     rfl⟩ (by dsimp only;omega)) ?_
  rotate_left
  ·rintro q ⟨h2,q2⟩
   rw [h2,Option.bind_some]
   exact ⟨_,rfl,q2⟩
  ·rintro ⟨i,a,b,c,d,e⟩ ⟨h0,h8,ha,he,hv⟩
   dsimp only at h0 h8 ha he hv
   subst ha
   unfold Wi
   dsimp only
   by_cases hi:i < 8
   ·left
    obtain ⟨e1,he1⟩:=WG (l:=e) (i:=i.toNat) (by omega)
    obtain ⟨e2,he2⟩:=WG (l:=a) (i:=i.toNat) (by omega)
    simp only [decide_eq_true hi,if_true,XR h0 (show i < ((8:Nat):Int) by omega),he1,he2,Option.bind_some]
    rw [Yp (z:=i+1) (by omega) (by omega)]
    refine ⟨_,rfl,⟨by dsimp only;omega,by dsimp only;omega,rfl,by dsimp only;rw [List.length_set];exact he, ?_⟩,by dsimp only;omega⟩
    intro j x hx
    dsimp only at hx ⊢
    by_cases hji:j=i.toNat
    ·subst hji
     rw [List.getElem?_set_self (by omega)] at hx
     cases hx
     rw [if_pos (by omega),ZfV]
     have k1:=hv _ _ he1
     rw [if_neg (by omega)] at k1
     unfold Zjf
     rw [List.getElem?_zipWith,k1,List.getElem?_map,he2]
     rfl
    ·rw [List.getElem?_set_ne (Ne.symm hji)] at hx
     have k1:=hv j x hx
     by_cases hj:(j:Int) < i
     ·rw [if_pos hj] at k1
      rw [if_pos (by omega)]
      exact k1
     ·rw [if_neg hj] at k1
      rw [if_neg (by omega)]
      exact k1
   ·right
    rw [if_neg (by simpa using hi)]
    refine ⟨_,rfl, ?_⟩
    dsimp only
    apply List.ext_getElem?
    intro j
    rw [List.getElem?_map]
    by_cases hj:j < 8
    ·obtain ⟨x,hx⟩:=WG (l:=e) (i:=j) (by omega)
     have:=hv j x hx
     rw [if_pos (by omega)] at this
     rw [hx,this]
     rfl
    ·rw [List.getElem?_eq_none (by omega),List.getElem?_eq_none (by omega)]
     rfl
 ·rintro ⟨i,a,b,c,d,e⟩ ⟨h0,h64,ha,hc,hd,he,hv⟩
  dsimp only at h0 h64 ha hc hd he hv
  subst ha hc hd
  unfold Wh
  dsimp only
  by_cases hi:i < 64
  ·left
   match e,he,hv with
   |[x0,x1,x2,x3,x4,x5,x6,x7],_,hv=>
    obtain ⟨e1,he1⟩:=WG (l:=d) (i:=i.toNat) (by omega)
    obtain ⟨e2,he2⟩:=WG (l:=c) (i:=i.toNat) (by omega)
    obtain ⟨o1,ho1,p1⟩:=Zc8 x4 6 26 rfl (by omega) (z:= -6) rfl
    obtain ⟨o2,ho2,p2⟩:=Zc8 x4 11 21 rfl (by omega) (z:= -11) rfl
    obtain ⟨o3,ho3,p3⟩:=Zc8 x4 25 7 rfl (by omega) (z:= -25) rfl
    obtain ⟨o4,ho4,p4⟩:=Zc8 x0 2 30 rfl (by omega) (z:= -2) rfl
    obtain ⟨o5,ho5,p5⟩:=Zc8 x0 13 19 rfl (by omega) (z:= -13) rfl
    obtain ⟨o6,ho6,p6⟩:=Zc8 x0 22 10 rfl (by omega) (z:= -22) rfl
    generalize Zx fuel=R at ho1 ho2 ho3 ho4 ho5 ho6 ⊢
    rw [if_pos (decide_eq_true hi)]
    simp only [List.getElem?_cons_zero,List.getElem?_cons_succ]
    rw [Option.bind_some,ho1,Option.bind_some,Option.bind_some,ho2,Option.bind_some,Option.bind_some,ho3,Option.bind_some,Option.bind_some,Option.bind_some,Option.bind_some,Option.bind_some,Option.bind_some]
    rw [if_pos (XR h0 (show i < ((64:Nat):Int) by omega)),he1,Option.bind_some,if_pos (XR h0 (show i < ((64:Nat):Int) by omega)),he2,Option.bind_some,Option.bind_some,ho4,Option.bind_some,Option.bind_some,ho5,Option.bind_some,Option.bind_some,ho6]
    rw [Option.bind_some,Option.bind_some,Option.bind_some,Option.bind_some,Option.bind_some,Option.bind_some]
    rw [Option.bind_some,Option.bind_some,Option.bind_some,Option.bind_some,Option.bind_some,Option.bind_some,Option.bind_some]
    rw [Yp (z:=i+1) (by omega) (by omega)]
    refine ⟨_,rfl,⟨by dsimp only;omega,by dsimp only;omega,rfl,rfl,rfl,rfl, ?_⟩,by dsimp only;omega⟩
    dsimp only
    rw [show (i+1).toNat=i.toNat+1 by omega,show rs ws (a.map UInt32.toNat) (i.toNat+1)=rnd (rs ws (a.map UInt32.toNat) i.toNat) (ks.getD i.toNat 0) (wd ws i.toNat) from rfl, ←hv]
    have hk1:ks.getD i.toNat 0=e1.toNat:=by
     rw [←hkv,List.getD_eq_getElem?_getD,List.getElem?_map,he1]
     rfl
    rw [hk1, ←hwv i.toNat e2 (by omega) he2]
    simp only [List.map_cons,List.map_nil]
    rw [Zss]
    have kt:((x7+((o1^^^o2)^^^o3))+(x6^^^(x4&&&(x5^^^x6)))+e1+e2).toNat=lo (Nat.add (Nat.add (Nat.add (Nat.add x7.toNat (S1 x4.toNat)) (ch x4.toNat x5.toNat x6.toNat)) e1.toNat) e2.toNat):=by
     rw [ZfV,ZfV,ZfV,ZfV,ZCh x4 p1 p2 p3,ZCi]
     exact ZCl ..
    have ka:((x7+((o1^^^o2)^^^o3))+(x6^^^(x4&&&(x5^^^x6)))+e1+e2+((o4^^^o5)^^^o6)+((x0&&&x1)|||(x2&&&(x0|||x1)))).toNat=lo (Nat.add (Nat.add (Nat.add (Nat.add (Nat.add (Nat.add x7.toNat (S1 x4.toNat)) (ch x4.toNat x5.toNat x6.toNat)) e1.toNat) e2.toNat) (S0 x0.toNat)) (mj x0.toNat x1.toNat x2.toNat)):=by
     rw [ZfV,ZfV,kt,ZCg x0 p4 p5 p6,ZCj]
     exact ZCm ..
    have ke:(x3+(((x7+((o1^^^o2)^^^o3))+(x6^^^(x4&&&(x5^^^x6))))+e1+e2)).toNat=lo (Nat.add x3.toNat (Nat.add (Nat.add (Nat.add (Nat.add x7.toNat (S1 x4.toNat)) (ch x4.toNat x5.toNat x6.toNat)) e1.toNat) e2.toNat)):=by
     rw [ZfV,kt]
     exact ZCn ..
    rw [ka,ke]
  ·right
   rw [if_neg (by simpa using hi)]
   have e64:i=64:=by omega
   subst e64
   exact ⟨_,rfl,rfl,he,hv⟩
def Zwt (n:Nat):List UInt8:=(be8 n).map UInt8.ofNat
theorem Zvj {n:Nat} {b:List UInt8} (h:b.length≤1000000000000):YJ fuel (n:Int) b=some (b++Zwt n):=by
 unfold YJ
 obtain ⟨o,h1,h2⟩:=Z3 (step:=YD fuel) (fun s=>∃k:Nat,k≤8∧s.1=(n:Int)∧s.2.1=56 - 8*(k:Int)∧s.2.2.1=b++(Zwt n).take k) (fun s=>(s.2.1+8).toNat) (fun o=>o.1=b++Zwt n) (by
  rintro ⟨a,i,c,d⟩ ⟨k,hk,ha,hi,hc⟩
  dsimp only at ha hi hc
  subst ha
  unfold YD
  dsimp only
  have hcl:c.length≤b.length+8:=by rw [hc,List.length_append,List.length_take];omega
  by_cases h0:i ≥ 0
  ·left
   rw [if_pos (decide_eq_true h0),if_pos (decide_eq_true h0),if_pos (Yb (by omega) (by omega)),Yp (z:=i - 8) (by omega) (by omega)]
   refine ⟨_,rfl,⟨k+1,by omega,rfl,by dsimp only;omega, ?_⟩,by dsimp only;omega⟩
   dsimp only
   have hw:∀m:Nat,w8 (Int.fdiv (n:Int) (2 ^ m))=UInt8.ofNat (n / 2 ^ m % 256):=by
    intro m
    unfold w8
    rw [Int.fdiv_eq_ediv_of_nonneg _ (by exact Int.le_of_lt (Int.pow_pos (by omega)))]
    congr 1
   have hmin:min i.toNat 64=56 - 8*k:=by omega
   rw [hmin,hw,hc,List.append_assoc]
   congr 1
   have hk8:k < 8:=by omega
   match k,hk8 with
   |0,_=>rfl
   |1,_=>rfl
   |2,_=>rfl
   |3,_=>rfl
   |4,_=>rfl
   |5,_=>rfl
   |6,_=>rfl
   |7,_=>
    show _++[UInt8.ofNat (n / 2 ^ 0 % 256)]=_
    rw [Nat.pow_zero,Nat.div_one]
    rfl
  ·right
   rw [if_neg (by simpa using h0)]
   have hk8:k=8:=by omega
   subst hk8
   exact ⟨_,rfl,hc⟩) (((n:Int),(56:Int),b,([]:List UInt8))) ⟨0,by omega,rfl,by simp,by simp⟩ (by dsimp only;omega)
 rw [h1,Option.bind_some,h2]
theorem ZBM {l:List UInt8} (h:l.length≤4294967296):VO fuel l=some (sha l):=by
 unfold VO
 have hm:Int.tmod (l.length:Int) 64=((l.length % 64:Nat):Int):=by
  rw [Int.tmod_eq_emod_of_nonneg (by omega)]
  omega
 have hlt:l.length % 64 < 64:=Nat.mod_lt _ (by omega)
 have hle:l.length % 64≤l.length:=Nat.mod_le _ _
 rw [hm,Yp (z:=(l.length:Int) - ((l.length % 64:Nat):Int)) (by omega) (by omega)]
 dsimp only
 rw [if_pos (by simp only [Vw,Bool.and_eq_true,decide_eq_true_eq];omega)]
 have hq:((l.length:Int) - ((l.length % 64:Nat):Int)).toNat=64*(l.length / 64):=by omega
 rw [hq]
 have hdl:(l.drop (64*(l.length / 64))).length=l.length % 64:=by
  rw [List.length_drop]
  omega
 generalize ht:l.drop (64*(l.length / 64))=t at hdl
 have hcl:Zy fuel t=some t:=by
  unfold Zy
  rw [if_pos (Yb (by omega) (by omega))]
 rw [hcl,Option.bind_some,if_pos (Yb (by omega) (by omega))]
 generalize hz:([0,0,0,0,0,0,0,0,0,0,0,0,0,0,0,0,0,0,0,0,0,0,0,0,0,0,0,0,0,0,0,0]:List UInt8)=z
 have hzl:z.length=32:=by rw [←hz];rfl
 have hzs:zs l.length=(119 - t.length) % 64:=by unfold zs;rw [hdl]
 obtain ⟨o,h1,p1,p2,p3⟩:=Z3 (step:=WC fuel) (fun s=>s.1=l∧s.2.1=z∧∃j,j≤zs l.length∧s.2.2=t++([128]:List UInt8)++List.replicate j 0) (fun s=>184 - s.2.2.length)
  (fun o=>o.1=l∧o.2.1=z∧o.2.2=t++([128]:List UInt8)++List.replicate (zs l.length) 0) (by
  rintro ⟨a,b,c⟩ ⟨k1,k2,j,k3,k4⟩
  dsimp only at k1 k2 k3 k4
  have hcl:c.length=t.length+1+j:=by rw [k4,List.length_append,List.length_append,List.length_replicate];rfl
  unfold WC
  dsimp only
  have hm:Int.tmod (c.length:Int) 64=((c.length % 64:Nat):Int):=by
   rw [Int.tmod_eq_emod_of_nonneg (by omega)]
   omega
  rw [hm]
  by_cases hi:c.length % 64=56
  ·right
   rw [if_neg (by simp;omega)]
   have:j=zs l.length:=by omega
   subst this
   exact ⟨_,rfl,k1,k2,k4⟩
  ·left
   rw [if_pos (by simp;omega),if_pos (Yb (by omega) (by omega))]
   have hj:j≠zs l.length:=fun e=>hi (by omega)
   refine ⟨_,rfl,⟨k1,k2,j+1,by omega, ?_⟩, ?_⟩
   ·dsimp only
    rw [k4,List.append_assoc,List.replicate_succ',List.append_assoc]
   ·dsimp only
    rw [List.length_append,List.length_singleton]
    omega) (l,z,t++([128]:List UInt8)) ⟨rfl,rfl,0,Nat.zero_le _,by simp⟩ (by dsimp only;omega)
 rw [h1,Option.bind_some,p1,p2,p3,Yp (z:=8*(l.length:Int)) (by omega) (by omega),show 8*(l.length:Int)=((8*l.length:Nat):Int) by omega,Zvj (by
  rw [List.length_append,List.length_append,List.length_replicate]
  simp
  omega),Option.bind_some]
 obtain ⟨f,hf,hfl⟩:∃f,ZcO fuel=some f∧f.map UInt32.toNat=Zev:=⟨_,rfl,rfl⟩
 have hf8:f.length=8:=by rw [←List.length_map (f:=UInt32.toNat),hfl];rfl
 rw [hf,Option.bind_some]
 generalize hE:t++([128]:List UInt8)++List.replicate (zs l.length) 0++Zwt (8*l.length)=E
 have hEl:E.length=64*((t.length+72) / 64):=by
  rw [←hE]
  simp only [List.length_append,List.length_replicate,List.length_singleton,Zwt,List.length_map,be8,List.length_cons,List.length_nil]
  omega
 obtain ⟨o3,h3,r1,r2,r3,r4⟩:=Z3 (step:=WD fuel) (fun s=>s.2.1=z∧s.2.2.1=E∧s.2.2.2.length=8∧∃c,c≤l.length / 64∧s.1=l.drop (64*c)∧s.2.2.2.map UInt32.toNat=ZdK c (l.map UInt8.toNat) Zev) (fun s=>s.1.length)
  (fun x=>x.1=z∧x.2.1=E∧x.2.2.length=8∧x.2.2.map UInt32.toNat=ZdK (l.length / 64) (l.map UInt8.toNat) Zev) (by
  rintro ⟨a,b,c,d⟩ ⟨k1,k2,k3,j,k4,k5,k6⟩
  dsimp only at k1 k2 k3 k4 k5 k6
  have hal:a.length=l.length - 64*j:=by rw [k5,List.length_drop]
  unfold WD
  dsimp only
  by_cases hi:(a.length:Int) ≥ 64
  ·left
   obtain ⟨m,hm1,hm2⟩:=Zt3 (st:=d) (l:=a.take 64) k3 (by rw [List.length_take];omega)
   rw [if_pos (decide_eq_true hi),if_pos (by simp only [Vw,Bool.and_eq_true,decide_eq_true_eq];omega),hm1,Option.bind_some,if_pos (by simp only [Vw,Bool.and_eq_true,decide_eq_true_eq];omega)]
   refine ⟨_,rfl,⟨k1,k2, ?_,j+1,by omega, ?_, ?_⟩,by dsimp only;rw [List.length_drop];omega⟩
   ·dsimp only
    rw [←List.length_map (f:=UInt32.toNat),hm2]
    exact ZdJ (by rw [List.length_map];exact k3)
   ·dsimp only
    rw [k5,List.drop_drop]
    congr 1
   ·dsimp only
    rw [hm2,Zki,k6,k5,List.map_take,List.map_drop]
  ·right
   rw [if_neg (by simpa using hi)]
   have:j=l.length / 64:=by omega
   subst this
   exact ⟨_,rfl,k1,k2,k3,k6⟩) (l,z,E,f) ⟨rfl,rfl,hf8,0,Nat.zero_le _,by simp,hfl⟩ (by dsimp only;omega)
 rw [h3,Option.bind_some,r1,r2]
 generalize hv1:ZdK (l.length / 64) (l.map UInt8.toNat) Zev=v1 at r4
 obtain ⟨o4,h4,s1,s2,s3⟩:=Z3 (step:=WE fuel) (fun s=>s.2.1=z∧s.2.2.2.length=8∧∃c,c≤E.length / 64∧s.1=E.drop (64*c)∧s.2.2.2.map UInt32.toNat=ZdK c (E.map UInt8.toNat) v1) (fun s=>s.1.length)
  (fun x=>x.1=z∧x.2.2.length=8∧x.2.2.map UInt32.toNat=ZdK (E.length / 64) (E.map UInt8.toNat) v1) (by
  rintro ⟨a,b,c,d⟩ ⟨k1,k3,j,k4,k5,k6⟩
  dsimp only at k1 k3 k4 k5 k6
  have hal:a.length=E.length - 64*j:=by rw [k5,List.length_drop]
  unfold WE
  dsimp only
  by_cases hi:(a.length:Int) > 0
  ·left
   obtain ⟨m,hm1,hm2⟩:=Zt3 (st:=d) (l:=a.take 64) k3 (by rw [List.length_take];omega)
   rw [if_pos (decide_eq_true hi),if_pos (by simp only [Vw,Bool.and_eq_true,decide_eq_true_eq];omega),hm1,Option.bind_some,if_pos (by simp only [Vw,Bool.and_eq_true,decide_eq_true_eq];omega)]
   refine ⟨_,rfl,⟨k1, ?_,j+1,by omega, ?_, ?_⟩,by dsimp only;rw [List.length_drop];omega⟩
   ·dsimp only
    rw [←List.length_map (f:=UInt32.toNat),hm2]
    exact ZdJ (by rw [List.length_map];exact k3)
   ·dsimp only
    rw [k5,List.drop_drop]
    congr 1
   ·dsimp only
    rw [hm2,Zki,k6,k5,List.map_take,List.map_drop]
  ·right
   rw [if_neg (by simpa using hi)]
   have:j=E.length / 64:=by omega
   subst this
   exact ⟨_,rfl,k1,k3,k6⟩) (E,z,E,o3.2.2) ⟨rfl,r3,0,Nat.zero_le _,by simp,r4⟩ (by dsimp only;omega)
 rw [h4,Option.bind_some]
 generalize hv2:ZdK (E.length / 64) (E.map UInt8.toNat) v1=v2 at s3
 obtain ⟨o5,h5,t1,t2⟩:=Z3 (step:=XS fuel) (fun s=>0≤s.1∧s.1≤32∧s.2.1.length=32∧s.2.2.2=o4.2.2∧∀(j:Nat),(j:Int) < s.1→s.2.1[j]? =some (Go.Sha.ZyD v2 j)) (fun s=>(32 - s.1).toNat)
  (fun x=>x.1.length=32∧∀(j:Nat),j < 32→x.1[j]? =some (Go.Sha.ZyD v2 j)) (by
  rintro ⟨i,a,b,c⟩ ⟨h0,h32,ha,hc,hv⟩
  dsimp only at h0 h32 ha hc hv
  subst hc
  unfold XS
  dsimp only
  by_cases hi:i < 32
  ·left
   rw [if_pos (decide_eq_true hi)]
   have e1:Int.tdiv i 4=i / 4:=Int.tdiv_eq_ediv_of_nonneg h0
   have e2:Int.tmod i 4=i % 4:=Int.tmod_eq_emod_of_nonneg h0
   rw [e1,e2,Yp (z:=i / 4) (by omega) (by omega),Yp (z:=8*(i % 4)) (by omega) (by omega),Yp (z:=24 - 8*(i % 4)) (by omega) (by omega),Yp (z:=i+1) (by omega) (by omega)]
   obtain ⟨x1,hx1⟩:=WG (l:=o4.2.2) (i:=(i / 4).toNat) (by omega)
   obtain ⟨x2,hx2⟩:=WG (l:=a) (i:=i.toNat) (by omega)
   rw [if_pos (XR (by omega) (by omega)),hx1,Option.bind_some,if_pos (decide_eq_true (by omega))]
   try dsimp only
   rw [if_pos (XR (by omega) (by omega)),hx2,Option.bind_some]
   refine ⟨_,rfl,⟨by dsimp only;omega,by dsimp only;omega,by dsimp only;rw [List.length_set];exact ha,rfl, ?_⟩,by dsimp only;omega⟩
   intro j hj
   dsimp only at hj ⊢
   by_cases hji:j=i.toNat
   ·subst hji
    rw [List.getElem?_set_self (by omega)]
    congr 1
    unfold Go.Sha.ZyD
    have hx:v2.getD (i.toNat / 4) 0=x1.toNat:=by
     rw [←s3,List.getD_eq_getElem?_getD,List.getElem?_map,show i.toNat / 4=(i / 4).toNat by omega,hx1]
     rfl
    rw [hx,show min (24 - 8*(i % 4)).toNat 32=24 - 8*(i.toNat % 4) by omega,Zsr]
    unfold w8
    have e3:∀m:Nat,(((m:Nat):Int) % 256).toNat=m % 256:=fun m=>by omega
    rw [e3,show Nat.shiftRight x1.toNat (24 - 8*(i.toNat % 4))=x1.toNat >>> (24 - 8*(i.toNat % 4)) from rfl,Nat.shiftRight_eq_div_pow]
    exact UInt8.toNat_inj.1 (by simp)
   ·rw [List.getElem?_set_ne (Ne.symm hji)]
    exact hv j (by omega)
  ·right
   rw [if_neg (by simpa using hi)]
   exact ⟨_,rfl,ha,fun j hj=>hv j (by omega)⟩) ((0:Int),o4.1,o4.2.1,o4.2.2) ⟨Int.le_refl _,by dsimp only;omega,by dsimp only;rw [s1];exact hzl,rfl,fun j hj=>by dsimp only at hj;omega⟩ (by dsimp only;omega)
 rw [h5,Option.bind_some,ZyE]
 congr 1
 have hpad:Zeu l=(l.take (64*(l.length / 64))).map UInt8.toNat++E.map UInt8.toNat:=by
  unfold Zeu
  rw [←hE, ←ht]
  simp only [List.map_append,List.map_replicate,List.map_cons,List.map_nil,Zwt,List.map_map]
  rw [←List.append_assoc, ←List.append_assoc, ←List.append_assoc, ←List.map_append,List.take_append_drop]
  have:be8 (8*l.length)=(be8 (8*l.length)).map (UInt8.toNat ∘ UInt8.ofNat):=by
   simp [be8]
  rw [←this]
  simp
 have hw:((l.take (64*(l.length / 64))).map UInt8.toNat).length=64*(l.length / 64):=by
  rw [List.length_map,List.length_take]
  omega
 have hv:v2=ZdK ((l.length+72) / 64) (Zeu l) Zev:=by
  rw [hpad,show (l.length+72) / 64=l.length / 64+E.length / 64 by omega,Znf _ _ _ _ _ hw, ←hv2, ←hv1]
  congr 1
  have:=Znf (l.length / 64) 0 _ ((l.drop (64*(l.length / 64))).map UInt8.toNat) Zev hw
  rw [←List.map_append,List.take_append_drop,Nat.add_zero] at this
  exact this
 rw [←hv]
 apply List.ext_getElem?
 intro j
 by_cases hj:j < 32
 ·rw [t2 j hj,List.getElem?_map,List.getElem?_range hj]
  rfl
 ·rw [List.getElem?_eq_none (by omega),List.getElem?_eq_none (by simp;omega)]
noncomputable def ZJ (F:Nat) (a0:List UInt8):Option (List UInt8):=if decide (a0.length≤4294967296)=true then some (sha a0) else VO F a0
noncomputable def ZfX (F:Nat):Fs Tryz.prog:={ Zet F with M:=fun x=>ZJ F x}
noncomputable def ZbS:Fs Tryz.prog:=ZfX fuel
theorem Zau:ZbS.Ok:=ZBB (s:=Zet fuel) ZqH fun x=>by
 show ZJ fuel x=VO fuel x
 unfold ZJ
 split
 ·rename_i h
  exact (ZBM (of_decide_eq_true h)).symm
 ·rfl
theorem ZAf {l:List UInt8} (h:l.length≤4294967296):ZJ fuel l=some (sha l):=if_pos (decide_eq_true h)
end Go.Proofs.YtehgcchjaamddaaGreat
end
section
set_option maxRecDepth 4000
namespace Go.Proofs.YtehgcchjaamddaaGreat
open Go Go.Ev
noncomputable section
def Qs (F:Nat):Fs Tryz.prog:=⟨67,[.nil .u8,.v (.int .i64)],[],[(.int .i64)],(Wz F).xs,fun x=>(Wz F).M (x,([]:List UInt8))⟩
def ZdL:Fs Tryz.prog:=Qs fuel
theorem ZcS:ZdL.Ok:=ZBr (i1:=[(.int .i64)]) (i2:=[(.int .i64),(.sl .u8)]) (fun x=>(x,([]:List UInt8))) VF (fun _=>rfl) (fun _=>⟨_,rfl⟩)
def Zbk (F:Nat) (s:((List (List UInt8))×Int×Int×(List UInt8)×(List UInt8))):Option (((List (List UInt8))×Int×Int×(List UInt8)×(List UInt8))⊕((List UInt8)×(List UInt8))):=
 if (decide (s.2.2.1 < s.2.1))=true then
  (idx s.1 s.2.2.1).bind fun e80=>
  (YJ F (e80.length:Int) s.2.2.2.2).bind fun o81=>
  if (apB o81.length e80.length 1)=true then
   some (.inl (s.1,s.2.1,wi (s.2.2.1+1),s.2.2.2.1,o81++e80))
  else
  none
 else
 some (.inr (s.2.2.2.1,s.2.2.2.2))
def ZkW:Lp:=⟨[(4,.ref 0 []),(5,.own 1 .u8),(13,.v (.sl (.sl .u8))),(14,.v (.int .i64)),(15,.v (.int .i64))],[.var (.v (.arr 32 .u8)) true,.log .u8 5],[(.sl (.sl .u8)),(.int .i64),(.int .i64),(.arr 32 .u8),(.sl .u8)],[⟨.exit 0,[(4,.ref 0 []),(5,.own 1 .u8)],[.var (.v (.arr 32 .u8)) true,.log .u8 5],[(.arr 32 .u8),(.sl .u8)]⟩],Zj (Zbk fuel) fuel⟩
theorem Zng:ZkW.Ok Tryz.prog (Zr Tryz.prog 35) (Zp Tryz.prog 35 0):=Zo (fi:={ hi:={ own:=[5,10,12,19,22,24],still:=[9,19,21,26]},lp:=[]}) (specs:={ l:=[ZbR]}) (okS ⟨VF,trivial⟩) trivial (by kernel_rfl) (fun v=>by kernel_rfl)
def WF (F:Nat) (a0:ByteArray) (a1:(List (List UInt8))):Option ((List UInt8)):=
 (YJ F (a0.size:Int) ([]:List UInt8)).bind fun o79=>
 if (apB o79.length ((Zg4 a0).length) 1)=true then
  (Zj (Zbk F) F (a1,(a1.length:Int),(0:Int),([0,0,0,0,0,0,0,0,0,0,0,0,0,0,0,0,0,0,0,0,0,0,0,0,0,0,0,0,0,0,0,0]:List UInt8),o79++(Zg4 a0))).bind fun o82=>
  (ZJ F o82.2).bind fun o83=>
  some o83
 else
 none
def ZfY (F:Nat):Fs Tryz.prog:=⟨35,[.v .str,.v (.sl (.sl .u8))],[],[.str,(.sl (.sl .u8))],[⟨.ret,[(0,.v (.arr 32 .u8))],[],[(.arr 32 .u8)]⟩],fun x=>WF F x.1 x.2⟩
def W0:Fs Tryz.prog:=ZfY fuel
theorem Wa:W0.Ok:=Zn (fi:={ hi:={ own:=[5,10,12,19,22,24],still:=[9,19,21,26]},lp:=[(0,ZkW)]}) (specs:={ l:=[ZdL,ZbS]}) (okS ⟨ZcS,Zau,trivial⟩) ⟨Zng,trivial⟩ (by decide+kernel) (fun x=>by kernel_rfl)
def ZAB:ByteArray:=⟨#[112,114,111,118,101]⟩
def Wj (F:Nat) (a0:(List UInt8)) (a1:Zf):Option ((List UInt8)):=
 (WF F ZAB ([a0,a1.2]:List (List UInt8))).bind fun o84=>
 some o84
def ZbT (F:Nat):Fs Tryz.prog:=⟨14,[.v (.arr 32 .u8),.v Zb],[],[(.arr 32 .u8),Zb],[⟨.ret,[(0,.v (.arr 32 .u8))],[],[(.arr 32 .u8)]⟩],fun x=>Wj F x.1 x.2⟩
def Zc9:Fs Tryz.prog:=ZbT fuel
theorem ZbU:Zc9.Ok:=Zn (fi:={ hi:={ still:=[8],frz:=[5]},lp:=[]}) (specs:={ l:=[W0]}) (okS ⟨Wa,trivial⟩) trivial (by decide+kernel) (fun x=>by kernel_rfl)
def XG (F:Nat) (a0:(List UInt8)):Option ((List UInt8)):=
 if (apB 0 a0.length 1)=true then
  some a0
 else
 none
def ZbV (F:Nat):Fs Tryz.prog:=⟨49,[.sl true .u8],[],[(.sl .u8)],[⟨.ret,[(0,.v (.sl .u8))],[],[(.sl .u8)]⟩],fun x=>XG F x⟩
def Zoe:Fs Tryz.prog:=ZbV fuel
theorem ZfZ:Zoe.Ok:=Zn (fi:={ hi:={ own:=[5,7],still:=[2]},lp:=[]}) (specs:={ l:=[]}) (okS trivial) trivial (by decide+kernel) (fun x=>by kernel_rfl)
def Ze6 (F:Nat):Option ((List UInt8)):=
 some ([]:List UInt8)
def Qt (F:Nat):Fs Tryz.prog:=⟨49,[.nil .u8],[],[],[⟨.ret,[(0,.v (.sl .u8))],[],[(.sl .u8)]⟩],fun x=>Ze6 F⟩
def Zkj:Fs Tryz.prog:=Qt fuel
theorem ZcT:Zkj.Ok:=Zn (fi:={ hi:={ own:=[5,7],still:=[2]},lp:=[]}) (specs:={ l:=[]}) (okS trivial) trivial (by decide+kernel) (fun x=>by kernel_rfl)
def Q0 (F:Nat):Fs Tryz.prog:=⟨49,[.v (.sl .u8)],[],[(.sl .u8)],[⟨.ret,[(0,.v (.sl .u8))],[],[(.sl .u8)]⟩],fun x=>XG F x⟩
def Ze7:Fs Tryz.prog:=Q0 fuel
theorem ZdM:Ze7.Ok:=ZqB (t:=.u8) (xs:=[⟨.ret,[(0,.v (.sl .u8))],[],[(.sl .u8)]⟩]) (MA:=fun (x:(List UInt8))=>XG fuel x) (MB:=fun _=>Ze6 fuel) ZfZ ZcT rfl
def ZAC:ByteArray:=⟨#[104,105,110,116]⟩
def Xd (F:Nat) (a0:(List UInt8)):Option ((List UInt8)):=
 (WF F ZAC ([a0]:List (List UInt8))).bind fun o85=>
 if (decide (16≤(o85.take 16).length))=true then
  some ((o85.take 16).take 16)
 else
 none
def Zda (F:Nat):Fs Tryz.prog:=⟨10,[.v (.arr 32 .u8)],[],[(.arr 32 .u8)],[⟨.ret,[(0,.v (.arr 16 .u8))],[],[(.arr 16 .u8)]⟩],fun x=>Xd F x⟩
def Zew:Fs Tryz.prog:=Zda fuel
theorem Zdb:Zew.Ok:=Zn (fi:={ hi:={ still:=[5],frz:=[4,7]},lp:=[]}) (specs:={ l:=[W0]}) (okS ⟨Wa,trivial⟩) trivial (by decide+kernel) (fun x=>by kernel_rfl)
def ZAD:ByteArray:=⟨#[116,111,119,101,114]⟩
def Y1 (F:Nat) (a0:(List UInt8)):Option ((List UInt8)):=
 (WF F ZAD ([a0]:List (List UInt8))).bind fun o86=>
 some o86
def Zex (F:Nat):Fs Tryz.prog:=⟨12,[.v (.arr 32 .u8)],[],[(.arr 32 .u8)],[⟨.ret,[(0,.v (.arr 32 .u8))],[],[(.arr 32 .u8)]⟩],fun x=>Y1 F x⟩
def Zf0:Fs Tryz.prog:=Zex fuel
theorem Zey:Zf0.Ok:=Zn (fi:={ hi:={ still:=[4],frz:=[3]},lp:=[]}) (specs:={ l:=[W0]}) (okS ⟨Wa,trivial⟩) trivial (by decide+kernel) (fun x=>by kernel_rfl)
abbrev Zfm:Ty:=(.st [.u64,.u64])
abbrev Sig:Type:=(UInt64×UInt64)
abbrev Sig.R (x:Sig):UInt64:=x.1
abbrev Sig.S (x:Sig):UInt64:=x.2
abbrev Znh:Ty:=(.st [(.int .i64),(.sl Zfm),.u64])
abbrev Zjg:Type:=(Int×(List Sig)×UInt64)
abbrev Zjg.Branch (x:Zjg):Int:=x.1
def Zav (F:Nat) (a0:Zjg):Option (Bool):=
 if (decide (a0.1 ≥ 0))=true then
  if (decide (a0.1 < 4))=true then
   some (decide ((a0.2.1.length:Int)≤12))
  else
  some false
 else
 some false
def Zdc (F:Nat):Fs Tryz.prog:=⟨51,[.v Znh],[],[Znh],[⟨.ret,[(0,.v .bool)],[],[.bool]⟩],fun x=>Zav F x⟩
def Zjh:Fs Tryz.prog:=Zdc fuel
theorem Zhx:Zjh.Ok:=Zn (fi:={ hi:={ still:=[2]},lp:=[]}) (specs:={ l:=[]}) (okS trivial) trivial (by decide+kernel) (fun x=>by kernel_rfl)
def ZbW (F:Nat) (a0:Int):Option (Bool):=
 if (decide (a0 ≥ 0))=true then
  some (decide (a0≤1125899906842624))
 else
 some false
def Zez (F:Nat):Fs Tryz.prog:=⟨94,[.v (.int .i64)],[],[(.int .i64)],[⟨.ret,[(0,.v .bool)],[],[.bool]⟩],fun x=>ZbW F x⟩
def ZkX:Fs Tryz.prog:=Zez fuel
theorem Zji:ZkX.Ok:=Zn (fi:={ hi:={ still:=[2]},lp:=[]}) (specs:={ l:=[]}) (okS trivial) trivial (by decide+kernel) (fun x=>by kernel_rfl)
def Zjj (F:Nat) (a0:Int) (a1:Int):Option ((Int×Bool)):=
 (ZbW F a0).bind fun o87=>
 if (!o87)=true then
  some ((0:Int),false)
 else
 (ZbW F a1).bind fun o88=>
 if (!o88)=true then
  some ((0:Int),false)
 else
 if (decide (a0 > (wi (1125899906842624 - a1))))=true then
  some ((0:Int),false)
 else
 some (wi (a0+a1),true)
def Zib (F:Nat):Fs Tryz.prog:=⟨52,[.v (.int .i64),.v (.int .i64)],[],[(.int .i64),(.int .i64)],[⟨.ret,[(0,.tup [.v (.int .i64),.v .bool])],[],[(.int .i64),.bool]⟩],fun x=>Zjj F x.1 x.2⟩
def Zpe:Fs Tryz.prog:=Zib fuel
theorem Zni:Zpe.Ok:=Zn (fi:={ hi:={ still:=[4,5,6,10]},lp:=[]}) (specs:={ l:=[ZkX]}) (okS ⟨Zji,trivial⟩) trivial (by decide+kernel) (fun x=>by kernel_rfl)
def Zf1 (F:Nat) (a0:UInt64) (a1:UInt64):Option ((UInt64×UInt64)):=
 let y89:UInt64:=Ye ((a0&&&4294967295)*(a1&&&4294967295)) 32
 let y90:UInt64:=(((Ye a0 32)*(a1&&&4294967295))+y89)&&&4294967295
 let y91:UInt64:=Ye (((Ye a0 32)*(a1&&&4294967295))+y89) 32
 let y92:UInt64:=Ye (y90+((a0&&&4294967295)*(Ye a1 32))) 32
 some ((((Ye a0 32)*(Ye a1 32))+y91)+y92,a0*a1)
def Zdd (F:Nat):Fs Tryz.prog:=⟨137,[.v .u64,.v .u64],[],[.u64,.u64],[⟨.ret,[(0,.tup [.v .u64,.v .u64])],[],[.u64,.u64]⟩],fun x=>Zf1 F x.1 x.2⟩
def Zjk:Fs Tryz.prog:=Zdd fuel
theorem Zhy:Zjk.Ok:=Zn (fi:={ hi:={ still:=[4,5]},lp:=[]}) (specs:={ l:=[]}) (okS trivial) trivial (by decide+kernel) (fun x=>by kernel_rfl)
def ZkY:ByteArray:=⟨#[0,1,2,2,3,3,3,3,4,4,4,4,4,4,4,4,5,5,5,5,5,5,5,5,5,5,5,5,5,5,5,5,6,6,6,6,6,6,6,6,6,6,6,6,6,6,6,6,6,6,6,6,6,6,6,6,6,6,6,6,6,6,6,6,7,7,7,7,7,7,7,7,7,7,7,7,7,7,7,7,7,7,7,7,7,7,7,7,7,7,7,7,7,7,7,7,7,7,7,7,7,7,7,7,7,7,7,7,7,7,7,7,7,7,7,7,7,7,7,7,7,7,7,7,7,7,7,7,8,8,8,8,8,8,8,8,8,8,8,8,8,8,8,8,8,8,8,8,8,8,8,8,8,8,8,8,8,8,8,8,8,8,8,8,8,8,8,8,8,8,8,8,8,8,8,8,8,8,8,8,8,8,8,8,8,8,8,8,8,8,8,8,8,8,8,8,8,8,8,8,8,8,8,8,8,8,8,8,8,8,8,8,8,8,8,8,8,8,8,8,8,8,8,8,8,8,8,8,8,8,8,8,8,8,8,8,8,8,8,8,8,8,8,8,8,8,8,8,8,8,8,8,8,8,8,8]⟩
def ZkZ (F:Nat) (a0:UInt64):Option (Int):=
 if (decide (a0 ≥ 4294967296))=true then
  if (decide ((Ye a0 32) ≥ 65536))=true then
   if (decide ((Ye (Ye a0 32) 16) ≥ 256))=true then
    let y93:UInt8:=w8 ((Ye (Ye (Ye a0 32) 16) 8).toNat:Int)
    (idx (Zg4 ZkY) (y93.toNat:Int)).bind fun e94=>
    some (wi (56+(e94.toNat:Int)))
   else
   (idx (Zg4 ZkY) ((w8 ((Ye (Ye a0 32) 16).toNat:Int)).toNat:Int)).bind fun e95=>
   some (wi (48+(e95.toNat:Int)))
  else
  if (decide ((Ye a0 32) ≥ 256))=true then
   (idx (Zg4 ZkY) ((w8 ((Ye (Ye a0 32) 8).toNat:Int)).toNat:Int)).bind fun e96=>
   some (wi (40+(e96.toNat:Int)))
  else
  (idx (Zg4 ZkY) ((w8 ((Ye a0 32).toNat:Int)).toNat:Int)).bind fun e97=>
  some (wi (32+(e97.toNat:Int)))
 else
 if (decide (a0 ≥ 65536))=true then
  if (decide ((Ye a0 16) ≥ 256))=true then
   (idx (Zg4 ZkY) ((w8 ((Ye (Ye a0 16) 8).toNat:Int)).toNat:Int)).bind fun e98=>
   some (wi (24+(e98.toNat:Int)))
  else
  (idx (Zg4 ZkY) ((w8 ((Ye a0 16).toNat:Int)).toNat:Int)).bind fun e99=>
  some (wi (16+(e99.toNat:Int)))
 else
 if (decide (a0 ≥ 256))=true then
  (idx (Zg4 ZkY) ((w8 ((Ye a0 8).toNat:Int)).toNat:Int)).bind fun e100=>
  some (wi (8+(e100.toNat:Int)))
 else
 (idx (Zg4 ZkY) ((w8 (a0.toNat:Int)).toNat:Int)).bind fun e101=>
 some (wi (0+(e101.toNat:Int)))
def Zde (F:Nat):Fs Tryz.prog:=⟨143,[.v .u64],[],[.u64],[⟨.ret,[(0,.v (.int .i64))],[],[(.int .i64)]⟩],fun x=>ZkZ F x⟩
def Zjl:Fs Tryz.prog:=Zde fuel
theorem Zhz:Zjl.Ok:=Zn (fi:={ hi:={ still:=[2]},lp:=[]}) (specs:={ l:=[]}) (okS trivial) trivial (by decide+kernel) (fun x=>by kernel_rfl)
def W1 (F:Nat) (a0:UInt64):Option (Int):=
 (ZkZ F a0).bind fun o102=>
 some (wi (64 - o102))
def Wl (F:Nat):Fs Tryz.prog:=⟨142,[.v .u64],[],[.u64],[⟨.ret,[(0,.v (.int .i64))],[],[(.int .i64)]⟩],fun x=>W1 F x⟩
def QN:Fs Tryz.prog:=Wl fuel
theorem Qu:QN.Ok:=Zn (fi:={ hi:={ still:=[2,3]},lp:=[]}) (specs:={ l:=[Zjl]}) (okS ⟨Zhz,trivial⟩) trivial (by decide+kernel) (fun x=>by kernel_rfl)
def W2 (F:Nat) (s:(UInt64×UInt64×UInt64×UInt64×UInt64×UInt64×UInt64×UInt64×UInt64)):Option ((UInt64×UInt64×UInt64×UInt64×UInt64×UInt64×UInt64×UInt64×UInt64)⊕(UInt64×UInt64×UInt64×UInt64×UInt64×UInt64×UInt64×UInt64)):=
 if (decide (s.2.2.2.2.2.2.2.1 ≥ 4294967296))=true then
  let y110:Bool:=decide ((s.2.2.2.2.2.2.2.2+s.2.2.1) ≥ 4294967296)
  if y110=true then
   some (.inr (s.1,s.2.1,s.2.2.1,s.2.2.2.1,s.2.2.2.2.1,s.2.2.2.2.2.1,s.2.2.2.2.2.2.1,s.2.2.2.2.2.2.2.1 - 1))
  else
  some (.inl (s.1,s.2.1,s.2.2.1,s.2.2.2.1,s.2.2.2.2.1,s.2.2.2.2.2.1,s.2.2.2.2.2.2.1,s.2.2.2.2.2.2.2.1 - 1,s.2.2.2.2.2.2.2.2+s.2.2.1))
 else
 let y111:Bool:=decide ((s.2.2.2.2.2.2.2.1*s.2.2.2.1) > ((4294967296*s.2.2.2.2.2.2.2.2)+s.2.2.2.2.2.1))
 if y111=true then
  let y112:Bool:=decide ((s.2.2.2.2.2.2.2.2+s.2.2.1) ≥ 4294967296)
  if y112=true then
   some (.inr (s.1,s.2.1,s.2.2.1,s.2.2.2.1,s.2.2.2.2.1,s.2.2.2.2.2.1,s.2.2.2.2.2.2.1,s.2.2.2.2.2.2.2.1 - 1))
  else
  some (.inl (s.1,s.2.1,s.2.2.1,s.2.2.2.1,s.2.2.2.2.1,s.2.2.2.2.2.1,s.2.2.2.2.2.2.1,s.2.2.2.2.2.2.2.1 - 1,s.2.2.2.2.2.2.2.2+s.2.2.1))
 else
 some (.inr (s.1,s.2.1,s.2.2.1,s.2.2.2.1,s.2.2.2.2.1,s.2.2.2.2.2.1,s.2.2.2.2.2.2.1,s.2.2.2.2.2.2.2.1))
def ZhA:Lp:=⟨[(2,.v .u64),(8,.v .u64),(9,.v .u64),(10,.v .u64),(11,.v .u64),(13,.v .u64),(14,.v .u64),(15,.v .u64),(16,.v .u64)],[],[.u64,.u64,.u64,.u64,.u64,.u64,.u64,.u64,.u64],[⟨.exit 0,[(2,.v .u64),(8,.v .u64),(9,.v .u64),(10,.v .u64),(11,.v .u64),(13,.v .u64),(14,.v .u64),(15,.v .u64)],[],[.u64,.u64,.u64,.u64,.u64,.u64,.u64,.u64]⟩],Zj (W2 fuel) fuel⟩
theorem Zkk:ZhA.Ok Tryz.prog (Zr Tryz.prog 141) (Zp Tryz.prog 141 0):=Zo (fi:={ hi:={ still:=[6,7,34]},lp:=[]}) (specs:={ l:=[]}) (okS trivial) trivial (by kernel_rfl) (fun v=>by kernel_rfl)
def W3 (F:Nat) (s:(UInt64×UInt64×UInt64×UInt64×UInt64×UInt64×UInt64×UInt64×UInt64)):Option ((UInt64×UInt64×UInt64×UInt64×UInt64×UInt64×UInt64×UInt64×UInt64)⊕(UInt64×UInt64×UInt64×UInt64×UInt64×UInt64)):=
 if (decide (s.2.2.2.2.2.2.2.2 ≥ 4294967296))=true then
  let y115:Bool:=decide ((s.2.2.2.2.2.2.1+s.2.2.1) ≥ 4294967296)
  if y115=true then
   some (.inr (s.1,s.2.1,s.2.2.2.2.1,s.2.2.2.2.2.1,s.2.2.2.2.2.2.2.1,s.2.2.2.2.2.2.2.2 - 1))
  else
  some (.inl (s.1,s.2.1,s.2.2.1,s.2.2.2.1,s.2.2.2.2.1,s.2.2.2.2.2.1,s.2.2.2.2.2.2.1+s.2.2.1,s.2.2.2.2.2.2.2.1,s.2.2.2.2.2.2.2.2 - 1))
 else
 let y116:Bool:=decide ((s.2.2.2.2.2.2.2.2*s.2.2.2.1) > ((4294967296*s.2.2.2.2.2.2.1)+s.2.2.2.2.1))
 if y116=true then
  let y117:Bool:=decide ((s.2.2.2.2.2.2.1+s.2.2.1) ≥ 4294967296)
  if y117=true then
   some (.inr (s.1,s.2.1,s.2.2.2.2.1,s.2.2.2.2.2.1,s.2.2.2.2.2.2.2.1,s.2.2.2.2.2.2.2.2 - 1))
  else
  some (.inl (s.1,s.2.1,s.2.2.1,s.2.2.2.1,s.2.2.2.2.1,s.2.2.2.2.2.1,s.2.2.2.2.2.2.1+s.2.2.1,s.2.2.2.2.2.2.2.1,s.2.2.2.2.2.2.2.2 - 1))
 else
 some (.inr (s.1,s.2.1,s.2.2.2.2.1,s.2.2.2.2.2.1,s.2.2.2.2.2.2.2.1,s.2.2.2.2.2.2.2.2))
def ZhB:Lp:=⟨[(2,.v .u64),(8,.v .u64),(9,.v .u64),(10,.v .u64),(14,.v .u64),(15,.v .u64),(16,.v .u64),(17,.v .u64),(18,.v .u64)],[],[.u64,.u64,.u64,.u64,.u64,.u64,.u64,.u64,.u64],[⟨.exit 2,[(2,.v .u64),(8,.v .u64),(14,.v .u64),(15,.v .u64),(17,.v .u64),(18,.v .u64)],[],[.u64,.u64,.u64,.u64,.u64,.u64]⟩],Zj (W3 fuel) fuel⟩
theorem Zkl:ZhB.Ok Tryz.prog (Zr Tryz.prog 141) (Zp Tryz.prog 141 1):=Zo (fi:={ hi:={ still:=[6,7,34]},lp:=[]}) (specs:={ l:=[]}) (okS trivial) trivial (by kernel_rfl) (fun v=>by kernel_rfl)
def ZcU (F:Nat) (a0:UInt64) (a1:UInt64) (a2:UInt64):Option ((UInt64×UInt64)):=
 if (a2==0)=true then
  none
 else
 if (decide (a2≤a0))=true then
  none
 else
 if (a0==0)=true then
  if (a2 !=0)=true then
   if (a2 !=0)=true then
    some (a1 / a2,a1 % a2)
   else
   none
  else
  none
 else
 (W1 F a2).bind fun o103=>
 let y104:UInt64:=Ye (ZaV a2 (min ((w64 o103).toNat:Int).toNat 64)) 32
 let y105:UInt64:=(ZaV a2 (min ((w64 o103).toNat:Int).toNat 64))&&&4294967295
 let y106:UInt64:=Ye a1 (min ((64 - (w64 o103)).toNat:Int).toNat 64)
 let y107:UInt64:=(ZaV a0 (min ((w64 o103).toNat:Int).toNat 64))|||y106
 let y108:UInt64:=Ye (ZaV a1 (min ((w64 o103).toNat:Int).toNat 64)) 32
 let y109:UInt64:=(ZaV a1 (min ((w64 o103).toNat:Int).toNat 64))&&&4294967295
 if (y104 !=0)=true then
  (Zj (W2 F) F (ZaV a2 (min ((w64 o103).toNat:Int).toNat 64),w64 o103,y104,y105,y107,y108,y109,y107 / y104,y107 - ((y107 / y104)*y104))).bind fun o113=>
  let y114:UInt64:=((o113.2.2.2.2.1*4294967296)+o113.2.2.2.2.2.1) - (o113.2.2.2.2.2.2.2*o113.1)
  if (o113.2.2.1 !=0)=true then
   (Zj (W3 F) F (o113.1,o113.2.1,o113.2.2.1,o113.2.2.2.1,o113.2.2.2.2.2.2.1,o113.2.2.2.2.2.2.2,y114 - ((y114 / o113.2.2.1)*o113.2.2.1),y114,y114 / o113.2.2.1)).bind fun o118=>
   let y119:UInt64:=((o118.2.2.2.2.1*4294967296)+o118.2.2.1) - (o118.2.2.2.2.2*o118.1)
   some ((o118.2.2.2.1*4294967296)+o118.2.2.2.2.2,Ye y119 (min (o118.2.1.toNat:Int).toNat 64))
  else
  none
 else
 none
def Zdf (F:Nat):Fs Tryz.prog:=⟨141,[.v .u64,.v .u64,.v .u64],[],[.u64,.u64,.u64],[⟨.ret,[(0,.tup [.v .u64,.v .u64])],[],[.u64,.u64]⟩],fun x=>ZcU F x.1 x.2.1 x.2.2⟩
def Zjm:Fs Tryz.prog:=Zdf fuel
theorem ZhC:Zjm.Ok:=Zn (fi:={ hi:={ still:=[6,7,34]},lp:=[(0,ZhA),(1,ZhB)]}) (specs:={ l:=[QN]}) (okS ⟨Qu,trivial⟩) ⟨Zkk,Zkl,trivial⟩ (by decide+kernel) (fun x=>by kernel_rfl)
def ZcV (F:Nat) (a0:UInt64) (a1:UInt64) (a2:UInt64):Option (UInt64):=
 if (a2 !=0)=true then
  (ZcU F (a0 % a2) a1 a2).bind fun o120=>
  some o120.2
 else
 none
def Zdg (F:Nat):Fs Tryz.prog:=⟨138,[.v .u64,.v .u64,.v .u64],[],[.u64,.u64,.u64],[⟨.ret,[(0,.v .u64)],[],[.u64]⟩],fun x=>ZcV F x.1 x.2.1 x.2.2⟩
def Zjn:Fs Tryz.prog:=Zdg fuel
theorem ZhD:Zjn.Ok:=Zn (fi:={ hi:={ still:=[6,12,13,14]},lp:=[]}) (specs:={ l:=[Zjm]}) (okS ⟨ZhC,trivial⟩) trivial (by decide+kernel) (fun x=>by kernel_rfl)
def Vl (F:Nat) (a0:UInt64) (a1:UInt64):Option (UInt64):=
 (Zf1 F a0 a1).bind fun o121=>
 (ZcV F o121.1 o121.2 (4611686018427377339:UInt64)).bind fun o122=>
 some o122
def ZbX (F:Nat):Fs Tryz.prog:=⟨133,[.v .u64,.v .u64],[],[.u64,.u64],[⟨.ret,[(0,.v .u64)],[],[.u64]⟩],fun x=>Vl F x.1 x.2⟩
def ZhE:Fs Tryz.prog:=ZbX fuel
theorem Zf2:ZhE.Ok:=Zn (fi:={ hi:={ still:=[4,8,9,13,14]},lp:=[]}) (specs:={ l:=[Zjk,Zjn]}) (okS ⟨Zhy,ZhD,trivial⟩) trivial (by decide+kernel) (fun x=>by kernel_rfl)
def VG (F:Nat) (s:(UInt64×UInt64×UInt64)):Option ((UInt64×UInt64×UInt64)⊕UInt64):=
 if (decide (s.2.1 > 0))=true then
  if ((s.2.1&&&1)==1)=true then
   (Vl F s.2.2 s.1).bind fun o123=>
   (Vl F s.1 s.1).bind fun o124=>
   some (.inl (o124,Ye s.2.1 1,o123))
  else
  (Vl F s.1 s.1).bind fun o125=>
  some (.inl (o125,Ye s.2.1 1,s.2.2))
 else
 some (.inr s.2.2)
def Zf3:Lp:=⟨[(0,.v .u64),(1,.v .u64),(5,.v .u64)],[],[.u64,.u64,.u64],[⟨.exit 0,[(5,.v .u64)],[],[.u64]⟩],Zj (VG fuel) fuel⟩
theorem Zjo:Zf3.Ok Tryz.prog (Zr Tryz.prog 124) (Zp Tryz.prog 124 0):=Zo (fi:={ hi:={ still:=[4,13,14,16,17]},lp:=[]}) (specs:={ l:=[ZhE]}) (okS ⟨Zf2,trivial⟩) trivial (by kernel_rfl) (fun v=>by kernel_rfl)
def Qv (F:Nat) (a0:UInt64) (a1:UInt64):Option (UInt64):=
 (Zj (VG F) F (a0,a1,(1:UInt64))).bind fun o126=>
 some o126
def ZbY (F:Nat):Fs Tryz.prog:=⟨124,[.v .u64,.v .u64],[],[.u64,.u64],[⟨.ret,[(0,.v .u64)],[],[.u64]⟩],fun x=>Qv F x.1 x.2⟩
def Zdh:Fs Tryz.prog:=ZbY fuel
theorem ZbZ:Zdh.Ok:=Zn (fi:={ hi:={ still:=[4,13,14,16,17]},lp:=[(0,Zf3)]}) (specs:={ l:=[]}) (okS trivial) ⟨Zjo,trivial⟩ (by decide+kernel) (fun x=>by kernel_rfl)
def Qw (F:Nat) (a0:UInt64):Option (Bool):=
 if (decide (a0 > 0))=true then
  if (decide (a0 < 4611686018427377339))=true then
   (Qv F a0 (2305843009213688669:UInt64)).bind fun o127=>
   some (o127==1)
  else
  some false
 else
 some false
def Zb0 (F:Nat):Fs Tryz.prog:=⟨96,[.v .u64],[],[.u64],[⟨.ret,[(0,.v .bool)],[],[.bool]⟩],fun x=>Qw F x⟩
def Zdi:Fs Tryz.prog:=Zb0 fuel
theorem Zb1:Zdi.Ok:=Zn (fi:={ hi:={ still:=[2,10]},lp:=[]}) (specs:={ l:=[Zdh]}) (okS ⟨ZbZ,trivial⟩) trivial (by decide+kernel) (fun x=>by kernel_rfl)
def Vy (F:Nat) (a0:UInt64):Option (Bool):=
 (Qw F a0).bind fun o128=>
 some (!o128)
def ZaN (F:Nat):Fs Tryz.prog:=⟨95,[.v .u64],[],[.u64],[⟨.ret,[(0,.v .bool)],[],[.bool]⟩],fun x=>Vy F x⟩
def Zb2:Fs Tryz.prog:=ZaN fuel
theorem ZaO:Zb2.Ok:=Zn (fi:={ hi:={ still:=[2,3]},lp:=[]}) (specs:={ l:=[Zdi]}) (okS ⟨Zb1,trivial⟩) trivial (by decide+kernel) (fun x=>by kernel_rfl)
def Qx (F:Nat) (a0:Int):Option (Bool):=
 if (decide (a0 ≥ 0))=true then
  some (decide (a0≤1048576))
 else
 some false
def Zb3 (F:Nat):Fs Tryz.prog:=⟨98,[.v (.int .i64)],[],[(.int .i64)],[⟨.ret,[(0,.v .bool)],[],[.bool]⟩],fun x=>Qx F x⟩
def ZhF:Fs Tryz.prog:=Zb3 fuel
theorem Zf4:ZhF.Ok:=Zn (fi:={ hi:={ still:=[2]},lp:=[]}) (specs:={ l:=[]}) (okS trivial) trivial (by decide+kernel) (fun x=>by kernel_rfl)
abbrev Zu:Ty:=(.st [(.sl .u64),(.int .i64),(.int .i64),.u64])
abbrev ZT:Type:=((List UInt64)×Int×Int×UInt64)
abbrev YS:Ty:=(.st [(.sl Zu)])
abbrev Xn:Type:=(List ZT)
def XH (F:Nat) (s:((List UInt64)×Int×Int)):Option (((List UInt64)×Int×Int)⊕(Int⊕Unit)):=
 if (decide (s.2.2 < s.2.1))=true then
  (idx s.1 s.2.2).bind fun e130=>
  (Vy F e130).bind fun o131=>
  if o131=true then
   some (.inr (.inl s.2.2))
  else
  some (.inl (s.1,s.2.1,wi (s.2.2+1)))
 else
 some (.inr (.inr ()))
def ZdN:Lp:=⟨[(0,.v (.sl .u64)),(1,.fn 95 []),(7,.v (.int .i64)),(8,.v (.int .i64))],[],[(.sl .u64),(.int .i64),(.int .i64)],[⟨.ret,[(4,.v (.int .i64))],[],[(.int .i64)]⟩,⟨.exit 0,[],[],[]⟩],Zj (XH fuel) fuel⟩
theorem Zg7:ZdN.Ok Tryz.prog (Zr Tryz.prog 125) (Zp Tryz.prog 125 0):=Zo (fi:={ hi:={ still:=[4,15]},lp:=[]}) (specs:={ l:=[Zb2]}) (okS ⟨ZaO,trivial⟩) trivial (by kernel_rfl) (fun v=>by kernel_rfl)
def Zb4 (F:Nat) (a0:(List UInt64)):Option (Int):=
 (Zj (XH F) F (a0,(a0.length:Int),(0:Int))).bind fun o132=>
 match o132 with
 |.inl o133=>
  some o133
 |.inr o134=>
  some (-1:Int)
def Q1 (F:Nat):Fs Tryz.prog:=⟨125,[.v (.sl .u64),.fn 95 []],[],[(.sl .u64)],[⟨.ret,[(0,.v (.int .i64))],[],[(.int .i64)]⟩],fun x=>Zb4 F x⟩
def Ze8:Fs Tryz.prog:=Q1 fuel
theorem ZdO:Ze8.Ok:=Zn (fi:={ hi:={ still:=[4,15]},lp:=[(0,ZdN)]}) (specs:={ l:=[]}) (okS trivial) ⟨Zg7,trivial⟩ (by decide+kernel) (fun x=>by kernel_rfl)
def ZeA (F:Nat) (a0:(List UInt64)):Option (Bool):=
 (Zb4 F a0).bind fun o135=>
 some (decide (o135 ≥ 0))
def ZeB (F:Nat):Fs Tryz.prog:=⟨97,[.v (.sl .u64),.fn 95 []],[],[(.sl .u64)],[⟨.ret,[(0,.v .bool)],[],[.bool]⟩],fun x=>ZeA F x⟩
def Zk0:Fs Tryz.prog:=ZeB fuel
theorem Zjp:Zk0.Ok:=Zn (fi:={ hi:={ still:=[4,5,6]},lp:=[]}) (specs:={ l:=[Ze8]}) (okS ⟨ZdO,trivial⟩) trivial (by decide+kernel) (fun x=>by kernel_rfl)
def W4 (F:Nat) (s:((List ZT)×Int×Int×Xn)):Option (((List ZT)×Int×Int×Xn)⊕((Bool×Xn)⊕Xn)):=
 if (decide (s.2.2.1 < s.2.1))=true then
  (idx s.1 s.2.2.1).bind fun e129=>
  if (decide ((e129.1.length:Int) > 12))=true then
   some (.inr (.inl (false,s.2.2.2)))
  else
  (ZeA F e129.1).bind fun o136=>
  if o136=true then
   some (.inr (.inl (false,s.2.2.2)))
  else
  (Qx F e129.2.1).bind fun o137=>
  if (!o137)=true then
   some (.inr (.inl (false,s.2.2.2)))
  else
  (Qx F e129.2.2.1).bind fun o138=>
  if (!o138)=true then
   some (.inr (.inl (false,s.2.2.2)))
  else
  if (e129.2.2.2 !=0)=true then
   (Vy F e129.2.2.2).bind fun o139=>
   if o139=true then
    some (.inr (.inl (false,s.2.2.2)))
   else
   some (.inl (s.1,s.2.1,wi (s.2.2.1+1),s.2.2.2))
  else
  some (.inl (s.1,s.2.1,wi (s.2.2.1+1),s.2.2.2))
 else
 some (.inr (.inr s.2.2.2))
def ZhG:Lp:=⟨[(1,.ref 0 []),(3,.fn 95 []),(7,.v (.sl Zu)),(8,.v (.int .i64)),(9,.v (.int .i64))],[.var (.v YS) true],[(.sl Zu),(.int .i64),(.int .i64),YS],[⟨.ret,[(2,.v .bool)],[.var (.v YS) true],[.bool,YS]⟩,⟨.exit 0,[(1,.ref 0 [])],[.var (.v YS) true],[YS]⟩],Zj (W4 fuel) fuel⟩
theorem Zkm:ZhG.Ok Tryz.prog (Zr Tryz.prog 53) (Zp Tryz.prog 53 0):=Zo (fi:={ hi:={ still:=[2,19,20,25,31,42]},lp:=[]}) (specs:={ l:=[Zk0,ZhF,Zb2]}) (okS ⟨Zjp,Zf4,ZaO,trivial⟩) trivial (by kernel_rfl) (fun v=>by kernel_rfl)
def Xe (F:Nat) (a0:Xn):Option (Bool):=
 (Zj (W4 F) F (a0,(a0.length:Int),(0:Int),a0)).bind fun o140=>
 match o140 with
 |.inl o141=>
  some o141.1
 |.inr o142=>
  if (decide ((o142.length:Int) > 0))=true then
   some (decide ((o142.length:Int)≤4))
  else
  some false
def Zdj (F:Nat):Fs Tryz.prog:=⟨53,[.v YS],[],[YS],[⟨.ret,[(0,.v .bool)],[],[.bool]⟩],fun x=>Xe F x⟩
def Zbl:Fs Tryz.prog:=Zdj fuel
theorem Zad:Zbl.Ok:=Zn (fi:={ hi:={ still:=[2,19,20,25,31,42]},lp:=[(0,ZhG)]}) (specs:={ l:=[]}) (okS trivial) ⟨Zkm,trivial⟩ (by decide+kernel) (fun x=>by kernel_rfl)
abbrev Yd:Ty:=(.st [(.arr 32 .u8),(.int .i64)])
abbrev Yv:Type:=((List UInt8)×Int)
abbrev Yv.N (x:Yv):Int:=x.2
abbrev yIn:Ty:=(.st [Yd,Znh])
abbrev In:Type:=(Yv×Zjg)
abbrev YE:Ty:=(.st [(.int .i64),YS])
abbrev Out:Type:=(Int×Xn)
abbrev Out.Lock (x:Out):Xn:=x.2
abbrev yTx:Ty:=(.st [(.sl yIn),(.sl YE),(.int .i64)])
abbrev Tx:Type:=((List In)×(List Out)×Int)
def Qy (F:Nat) (s:((List In)×Int×Int×Tx×(List (Yv×Bool)))):Option (((List In)×Int×Int×Tx×(List (Yv×Bool)))⊕((Bool×Tx×(List (Yv×Bool)))⊕(Tx×(List (Yv×Bool))))):=
 if (decide (s.2.2.1 < s.2.1))=true then
  (idx s.1 s.2.2.1).bind fun e143=>
  ZmH (V6 s.2.2.2.2 e143.1) (fun e144=>
   if e144=true then
    some (.inr (.inl (false,s.2.2.2.1,s.2.2.2.2)))
   else
   if (decide (e143.1.2 < 0))=true then
    some (.inr (.inl (false,s.2.2.2.1,s.2.2.2.2)))
   else
   if (decide (e143.1.2 ≥ 64))=true then
    some (.inr (.inl (false,s.2.2.2.1,s.2.2.2.2)))
   else
   (Zav F e143.2).bind fun o145=>
   if (!o145)=true then
    some (.inr (.inl (false,s.2.2.2.1,s.2.2.2.2)))
   else
   some (.inl (s.1,s.2.1,wi (s.2.2.1+1),s.2.2.2.1,ZfH s.2.2.2.2 e143.1 true))) (
   if (decide (e143.1.2 < 0))=true then
    some (.inr (.inl (false,s.2.2.2.1,s.2.2.2.2)))
   else
   if (decide (e143.1.2 ≥ 64))=true then
    some (.inr (.inl (false,s.2.2.2.1,s.2.2.2.2)))
   else
   (Zav F e143.2).bind fun o146=>
   if (!o146)=true then
    some (.inr (.inl (false,s.2.2.2.1,s.2.2.2.2)))
   else
   some (.inl (s.1,s.2.1,wi (s.2.2.1+1),s.2.2.2.1,ZfH s.2.2.2.2 e143.1 true)))
 else
 some (.inr (.inr (s.2.2.2.1,s.2.2.2.2)))
def Zk1:Lp:=⟨[(1,.ref 0 []),(3,.mp 1),(33,.v (.sl yIn)),(34,.v (.int .i64)),(35,.v (.int .i64))],[.var (.v yTx) true,.map 89 Yd .bool],[(.sl yIn),(.int .i64),(.int .i64),yTx,(Zfl Yd .bool)],[⟨.ret,[(2,.v .bool)],[.var (.v yTx) true,.map 89 Yd .bool],[.bool,yTx,(Zfl Yd .bool)]⟩,⟨.exit 0,[(1,.ref 0 [])],[.var (.v yTx) true,.map 89 Yd .bool],[yTx,(Zfl Yd .bool)]⟩],Zj (Qy fuel) fuel⟩
theorem Znj:Zk1.Ok Tryz.prog (Zr Tryz.prog 27) (Zp Tryz.prog 27 0):=Zo (fi:={ hi:={ still:=[2,57,73,75,83]},lp:=[]}) (specs:={ l:=[Zjh]}) (okS ⟨Zhx,trivial⟩) trivial (by kernel_rfl) (fun v=>by kernel_rfl)
def Qz (F:Nat) (s:(Int×(List Out)×Int×Int×Tx×(List (Yv×Bool)))):Option ((Int×(List Out)×Int×Int×Tx×(List (Yv×Bool)))⊕((Bool×Tx×(List (Yv×Bool)))⊕(Tx×(List (Yv×Bool))))):=
 if (decide (s.2.2.2.1 < s.2.2.1))=true then
  (idx s.2.1 s.2.2.2.1).bind fun e150=>
  (Zjj F s.1 e150.1).bind fun o151=>
  if (!o151.2)=true then
   some (.inr (.inl (false,s.2.2.2.2.1,s.2.2.2.2.2)))
  else
  (Xe F e150.2).bind fun o152=>
  if (!o152)=true then
   some (.inr (.inl (false,s.2.2.2.2.1,s.2.2.2.2.2)))
  else
  some (.inl (o151.1,s.2.1,s.2.2.1,wi (s.2.2.2.1+1),s.2.2.2.2.1,s.2.2.2.2.2))
 else
 some (.inr (.inr (s.2.2.2.2.1,s.2.2.2.2.2)))
def Zk2:Lp:=⟨[(6,.v (.int .i64)),(66,.v (.sl YE)),(67,.v (.int .i64)),(68,.v (.int .i64))],[.var (.v yTx) true,.map 89 Yd .bool],[(.int .i64),(.sl YE),(.int .i64),(.int .i64),yTx,(Zfl Yd .bool)],[⟨.ret,[(2,.v .bool)],[.var (.v yTx) true,.map 89 Yd .bool],[.bool,yTx,(Zfl Yd .bool)]⟩,⟨.exit 2,[],[.var (.v yTx) true,.map 89 Yd .bool],[yTx,(Zfl Yd .bool)]⟩],Zj (Qz fuel) fuel⟩
theorem Znk:Zk2.Ok Tryz.prog (Zr Tryz.prog 27) (Zp Tryz.prog 27 1):=Zo (fi:={ hi:={ still:=[2,57,73,75,83]},lp:=[]}) (specs:={ l:=[Zpe,Zbl]}) (okS ⟨Zni,Zad,trivial⟩) trivial (by kernel_rfl) (fun v=>by kernel_rfl)
def Yu (F:Nat) (a0:Tx):Option (Bool):=
 if (decide ((a0.1.length:Int) < 1))=true then
  some false
 else
 if (decide ((a0.1.length:Int) > 64))=true then
  some false
 else
 if (decide ((a0.2.1.length:Int) > 64))=true then
  some false
 else
 if (decide (a0.2.2 < 0))=true then
  some false
 else
 (Zj (Qy F) F (a0.1,(a0.1.length:Int),(0:Int),a0,([]:List (Yv×Bool)))).bind fun o147=>
 match o147 with
 |.inl o148=>
  some o148.1
 |.inr o149=>
  (Zj (Qz F) F ((0:Int),o149.1.2.1,(o149.1.2.1.length:Int),(0:Int),o149.1,o149.2)).bind fun o153=>
  match o153 with
  |.inl o154=>
   some o154.1
  |.inr o155=>
   some true
def Zf5 (F:Nat):Fs Tryz.prog:=⟨27,[.v yTx],[],[yTx],[⟨.ret,[(0,.v .bool)],[],[.bool]⟩],fun x=>Yu F x⟩
def Q2:Fs Tryz.prog:=Zf5 fuel
theorem V3:Q2.Ok:=Zn (fi:={ hi:={ still:=[2,57,73,75,83]},lp:=[(0,Zk1),(1,Zk2)]}) (specs:={ l:=[]}) (okS trivial) ⟨Znj,Znk,trivial⟩ (by decide+kernel) (fun x=>by kernel_rfl)
def Yn (F:Nat) (s:((List (List UInt8))×Int×(List (List UInt8))×Int×Int)):Option (((List (List UInt8))×Int×(List (List UInt8))×Int×Int)⊕((List (List UInt8))×Int)):=
 if (decide (s.2.2.2.2 < s.2.2.2.1))=true then
  (idx s.2.2.1 s.2.2.2.2).bind fun e156=>
  if (decide ((wi (s.2.1+(e156.length:Int))) < 0))=true then
   none
  else
  some (.inl (s.1,wi (s.2.1+(e156.length:Int)),s.2.2.1,s.2.2.2.1,wi (s.2.2.2.2+1)))
 else
 some (.inr (s.1,s.2.1))
def W5:Lp:=⟨[(0,.v (.sl (.sl .u8))),(3,.v (.int .i64)),(9,.v (.sl (.sl .u8))),(10,.v (.int .i64)),(11,.v (.int .i64))],[],[(.sl (.sl .u8)),(.int .i64),(.sl (.sl .u8)),(.int .i64),(.int .i64)],[⟨.exit 0,[(0,.v (.sl (.sl .u8))),(3,.v (.int .i64))],[],[(.sl (.sl .u8)),(.int .i64)]⟩],Zj (Yn fuel) fuel⟩
theorem Zaw:W5.Ok Tryz.prog (Zr Tryz.prog 126) (Zp Tryz.prog 126 0):=Zo (fi:={ hi:={ own:=[6,24,31,33],still:=[2,23]},lp:=[]}) (specs:={ l:=[]}) (okS trivial) trivial (by kernel_rfl) (fun v=>by kernel_rfl)
def X1:Fs Tryz.prog:=⟨134,[.nil .u8,.v (.int .i64)],[],[.int .i64],[⟨.ret,[(0,.own 0 .u8)],[.log .u8 5],[.sl .u8]⟩],Zm5⟩
def Vz (F:Nat):Fs Tryz.prog:=X1
theorem VA:X1.Ok:=ZzY Zyw
def Yo (F:Nat) (s:((List (List UInt8))×Int×Int×(List UInt8))):Option (((List (List UInt8))×Int×Int×(List UInt8))⊕(List UInt8)):=
 if (decide (s.2.2.1 < s.2.1))=true then
  (idx s.1 s.2.2.1).bind fun e159=>
  if (apB s.2.2.2.length e159.length 1)=true then
   some (.inl (s.1,s.2.1,wi (s.2.2.1+1),s.2.2.2++e159))
  else
  none
 else
 some (.inr s.2.2.2)
def W6:Lp:=⟨[(6,.own 0 .u8),(25,.v (.sl (.sl .u8))),(26,.v (.int .i64)),(27,.v (.int .i64))],[.log .u8 5],[(.sl (.sl .u8)),(.int .i64),(.int .i64),(.sl .u8)],[⟨.exit 2,[(6,.own 0 .u8)],[.log .u8 5],[(.sl .u8)]⟩],Zj (Yo fuel) fuel⟩
theorem Zax:W6.Ok Tryz.prog (Zr Tryz.prog 126) (Zp Tryz.prog 126 1):=Zo (fi:={ hi:={ own:=[6,24,31,33],still:=[2,23]},lp:=[]}) (specs:={ l:=[]}) (okS trivial) trivial (by kernel_rfl) (fun v=>by kernel_rfl)
def Yf (F:Nat) (a0:(List (List UInt8))):Option ((List UInt8)):=
 (Zj (Yn F) F (a0,(0:Int),a0,(a0.length:Int),(0:Int))).bind fun o157=>
 (Zm5 o157.2).bind fun o158=>
 (Zj (Yo F) F (o157.1,(o157.1.length:Int),(0:Int),o158)).bind fun o160=>
 some o160
def Xo (F:Nat):Fs Tryz.prog:=⟨126,[.v (.sl (.sl .u8))],[],[(.sl (.sl .u8))],[⟨.ret,[(0,.v (.sl .u8))],[],[(.sl .u8)]⟩],fun x=>Yf F x⟩
def Xx:Fs Tryz.prog:=Xo fuel
theorem Xp:Xx.Ok:=Zn (fi:={ hi:={ own:=[6,24,31,33],still:=[2,23]},lp:=[(0,W5),(1,W6)]}) (specs:={ l:=[X1]}) (okS ⟨VA,trivial⟩) ⟨Zaw,Zax,trivial⟩ (by decide+kernel) (fun x=>by kernel_rfl)
def VP (F:Nat) (a0:(List UInt8)) (a1:(List UInt8)):Option ((List UInt8)):=
 (Yf F ([a0,a1]:List (List UInt8))).bind fun o161=>
 some o161
def ZeC (F:Nat):Fs Tryz.prog:=⟨102,[.v (.sl .u8),.v (.sl .u8)],[],[(.sl .u8),(.sl .u8)],[⟨.ret,[(0,.v (.sl .u8))],[],[(.sl .u8)]⟩],fun x=>VP F x.1 x.2⟩
def ZcW:Fs Tryz.prog:=ZeC fuel
theorem Zbm:ZcW.Ok:=Zn (fi:={ hi:={ still:=[4,7]},lp:=[]}) (specs:={ l:=[Xx]}) (okS ⟨Xp,trivial⟩) trivial (by decide+kernel) (fun x=>by kernel_rfl)
def Zbn (F:Nat) (s:(Int×(List UInt8))):Option ((Int×(List UInt8))⊕(Int×(List UInt8))):=
 if (decide (s.1 ≥ 128))=true then
  if (apB s.2.length 1 1)=true then
   let y162:(List UInt8):=s.2++([w8 (wi ((Int.tmod s.1 128)+128))]:List UInt8)
   some (.inl (wi (Int.tdiv s.1 128),y162))
  else
  none
 else
 some (.inr (s.1,s.2))
def Zk3:Lp:=⟨[(0,.v (.int .i64)),(3,.own 0 .u8)],[.log .u8 5],[(.int .i64),(.sl .u8)],[⟨.exit 0,[(0,.v (.int .i64)),(3,.own 0 .u8)],[.log .u8 5],[(.int .i64),(.sl .u8)]⟩],Zj (Zbn fuel) fuel⟩
theorem Znl:Zk3.Ok Tryz.prog (Zr Tryz.prog 103) (Zp Tryz.prog 103 0):=Zo (fi:={ hi:={ own:=[3,8,14,15,19],still:=[2]},lp:=[]}) (specs:={ l:=[]}) (okS trivial) trivial (by kernel_rfl) (fun v=>by kernel_rfl)
def ZdP (F:Nat) (a0:Int):Option ((List UInt8)):=
 (Zj (Zbn F) F (a0,([]:List UInt8))).bind fun o163=>
 if (apB o163.2.length 1 1)=true then
  some (o163.2++([w8 o163.1]:List UInt8))
 else
 none
def Zf6 (F:Nat):Fs Tryz.prog:=⟨103,[.v (.int .i64)],[],[(.int .i64)],[⟨.ret,[(0,.v (.sl .u8))],[],[(.sl .u8)]⟩],fun x=>ZdP F x⟩
def Zic:Fs Tryz.prog:=Zf6 fuel
theorem Zf7:Zic.Ok:=Zn (fi:={ hi:={ own:=[3,8,14,15,19],still:=[2]},lp:=[(0,Zk3)]}) (specs:={ l:=[]}) (okS trivial) ⟨Znl,trivial⟩ (by decide+kernel) (fun x=>by kernel_rfl)
def YT (F:Nat) (a0:(List UInt8)) (a1:Int):Option ((List UInt8)):=
 if (decide (a1 < 0))=true then
  (VP F a0 ([]:List UInt8)).bind fun o164=>
  some o164
 else
 (ZdP F a1).bind fun o165=>
 (VP F a0 o165).bind fun o166=>
 some o166
def Zf8 (F:Nat):Fs Tryz.prog:=⟨55,[.v (.sl .u8),.v (.int .i64)],[],[(.sl .u8),(.int .i64)],[⟨.ret,[(0,.v (.sl .u8))],[],[(.sl .u8)]⟩],fun x=>YT F x.1 x.2⟩
def VQ:Fs Tryz.prog:=Zf8 fuel
theorem W7:VQ.Ok:=Zn (fi:={ hi:={ still:=[4,7,9,10,11]},lp:=[]}) (specs:={ l:=[ZcW,Zic]}) (okS ⟨Zbm,Zf7,trivial⟩) trivial (by decide+kernel) (fun x=>by kernel_rfl)
def Zae (F:Nat) (a0:(List UInt8)) (a1:(List UInt8)):Option ((List UInt8)):=
 (VP F a0 a1).bind fun o167=>
 some o167
def ZaP (F:Nat):Fs Tryz.prog:=⟨99,[.v (.sl .u8),.v (.arr 32 .u8)],[],[(.sl .u8),(.arr 32 .u8)],[⟨.ret,[(0,.v (.sl .u8))],[],[(.sl .u8)]⟩],fun x=>Zae F x.1 x.2⟩
def Zf9:Fs Tryz.prog:=ZaP fuel
theorem Ze9:Zf9.Ok:=Zn (fi:={ hi:={ still:=[4,5,6],frz:=[6]},lp:=[]}) (specs:={ l:=[ZcW]}) (okS ⟨Zbm,trivial⟩) trivial (by decide+kernel) (fun x=>by kernel_rfl)
def QA (F:Nat) (a0:(List UInt8)) (a1:(List UInt8)):Option ((List UInt8)):=
 (ZdP F (a1.length:Int)).bind fun o168=>
 (Yf F ([a0,o168,a1]:List (List UInt8))).bind fun o169=>
 some o169
def Q3 (F:Nat):Fs Tryz.prog:=⟨100,[.v (.sl .u8),.v (.sl .u8)],[],[(.sl .u8),(.sl .u8)],[⟨.ret,[(0,.v (.sl .u8))],[],[(.sl .u8)]⟩],fun x=>QA F x.1 x.2⟩
def Zfa:Fs Tryz.prog:=Q3 fuel
theorem ZdQ:Zfa.Ok:=Zn (fi:={ hi:={ still:=[4,7,10]},lp:=[]}) (specs:={ l:=[Zic,Xx]}) (okS ⟨Zf7,Xp,trivial⟩) trivial (by decide+kernel) (fun x=>by kernel_rfl)
def VH (F:Nat) (s:((List UInt8)×UInt64×Int×(List UInt8))):Option (((List UInt8)×UInt64×Int×(List UInt8))⊕((List UInt8)×(List UInt8))):=
 if (decide (s.2.2.1 < 8))=true then
  if (decide (0≤wi (56 - (wi (8*s.2.2.1)))))=true then
   let y170:UInt64:=Ye s.2.1 (min (wi (56 - (wi (8*s.2.2.1)))).toNat 64)
   if (inB s.2.2.1 8)=true then
    (s.2.2.2[s.2.2.1.toNat]?).bind fun e171=>
    let y172:(List UInt8):=s.2.2.2.set s.2.2.1.toNat (w8 (y170.toNat:Int))
    some (.inl (s.1,s.2.1,wi (s.2.2.1+1),y172))
   else
   none
  else
  none
 else
 some (.inr (s.1,s.2.2.2))
def Zga:Lp:=⟨[(0,.v (.sl .u8)),(1,.v .u64),(5,.ref 0 []),(7,.v (.int .i64))],[.var (.v (.arr 8 .u8)) true],[(.sl .u8),.u64,(.int .i64),(.arr 8 .u8)],[⟨.exit 0,[(0,.v (.sl .u8)),(5,.ref 0 [])],[.var (.v (.arr 8 .u8)) true],[(.sl .u8),(.arr 8 .u8)]⟩],Zj (VH fuel) fuel⟩
theorem Zjq:Zga.Ok Tryz.prog (Zr Tryz.prog 56) (Zp Tryz.prog 56 0):=Zo (fi:={ hi:={ still:=[4,19,20],frz:=[20]},lp:=[]}) (specs:={ l:=[]}) (okS trivial) trivial (by kernel_rfl) (fun v=>by kernel_rfl)
def XI (F:Nat) (a0:(List UInt8)) (a1:UInt64):Option ((List UInt8)):=
 (Zj (VH F) F (a0,a1,(0:Int),([0,0,0,0,0,0,0,0]:List UInt8))).bind fun o173=>
 (VP F o173.1 o173.2).bind fun o174=>
 some o174
def Zb5 (F:Nat):Fs Tryz.prog:=⟨56,[.v (.sl .u8),.v .u64],[],[(.sl .u8),.u64],[⟨.ret,[(0,.v (.sl .u8))],[],[(.sl .u8)]⟩],fun x=>XI F x.1 x.2⟩
def VB:Fs Tryz.prog:=Zb5 fuel
theorem W8:VB.Ok:=Zn (fi:={ hi:={ still:=[4,19,20],frz:=[20]},lp:=[(0,Zga)]}) (specs:={ l:=[ZcW]}) (okS ⟨Zbm,trivial⟩) ⟨Zjq,trivial⟩ (by decide+kernel) (fun x=>by kernel_rfl)
def W9 (F:Nat) (s:((List UInt8)×(List ZT)×Int×Int×(List UInt64)×Int×Int×Xn×ZT)):Option (((List UInt8)×(List ZT)×Int×Int×(List UInt64)×Int×Int×Xn×ZT)⊕((List UInt8)×(List ZT)×Int×Int×Xn×ZT)):=
 if (decide (s.2.2.2.2.2.2.1 < s.2.2.2.2.2.1))=true then
  (idx s.2.2.2.2.1 s.2.2.2.2.2.2.1).bind fun e179=>
  (XI F s.1 e179).bind fun o180=>
  some (.inl (o180,s.2.1,s.2.2.1,s.2.2.2.1,s.2.2.2.2.1,s.2.2.2.2.2.1,wi (s.2.2.2.2.2.2.1+1),s.2.2.2.2.2.2.2.1,s.2.2.2.2.2.2.2.2))
 else
 some (.inr (s.1,s.2.1,s.2.2.1,s.2.2.2.1,s.2.2.2.2.2.2.2.1,s.2.2.2.2.2.2.2.2))
def ZhH:Lp:=⟨[(3,.v (.sl .u8)),(5,.ref 1 []),(16,.v (.sl Zu)),(17,.v (.int .i64)),(18,.v (.int .i64)),(28,.v (.sl .u64)),(29,.v (.int .i64)),(30,.v (.int .i64))],[.var (.v YS) true,.var (.v Zu) true],[(.sl .u8),(.sl Zu),(.int .i64),(.int .i64),(.sl .u64),(.int .i64),(.int .i64),YS,Zu],[⟨.exit 2,[(3,.v (.sl .u8)),(5,.ref 1 []),(16,.v (.sl Zu)),(17,.v (.int .i64)),(18,.v (.int .i64))],[.var (.v YS) true,.var (.v Zu) true],[(.sl .u8),(.sl Zu),(.int .i64),(.int .i64),YS,Zu]⟩],Zj (W9 fuel) fuel⟩
theorem Zkn:ZhH.Ok Tryz.prog (Zr Tryz.prog 101) (Zp Tryz.prog 101 1):=Zo (fi:={ hi:={ still:=[2,8,13,22,25,34,35,38,40,41,43,44,46]},lp:=[]}) (specs:={ l:=[VB]}) (okS ⟨W8,trivial⟩) trivial (by kernel_rfl) (fun v=>by kernel_rfl)
def QB (F:Nat) (s:((List UInt8)×(List ZT)×Int×Int×Xn)):Option (((List UInt8)×(List ZT)×Int×Int×Xn)⊕((List UInt8)×Xn)):=
 if (decide (s.2.2.2.1 < s.2.2.1))=true then
  (idx s.2.1 s.2.2.2.1).bind fun e177=>
  (YT F s.1 (e177.1.length:Int)).bind fun o178=>
  (Zj (W9 F) F (o178,s.2.1,s.2.2.1,s.2.2.2.1,e177.1,(e177.1.length:Int),(0:Int),s.2.2.2.2,e177)).bind fun o181=>
  (YT F o181.1 o181.2.2.2.2.2.2.1).bind fun o182=>
  (YT F o182 o181.2.2.2.2.2.2.2.1).bind fun o183=>
  (XI F o183 o181.2.2.2.2.2.2.2.2).bind fun o184=>
  some (.inl (o184,o181.2.1,o181.2.2.1,wi (o181.2.2.2.1+1),o181.2.2.2.2.1))
 else
 some (.inr (s.1,s.2.2.2.2))
def ZhI:Lp:=⟨[(3,.v (.sl .u8)),(16,.v (.sl Zu)),(17,.v (.int .i64)),(18,.v (.int .i64))],[.var (.v YS) true],[(.sl .u8),(.sl Zu),(.int .i64),(.int .i64),YS],[⟨.exit 0,[(3,.v (.sl .u8))],[.var (.v YS) true],[(.sl .u8),YS]⟩],Zj (QB fuel) fuel⟩
theorem Zko:ZhI.Ok Tryz.prog (Zr Tryz.prog 101) (Zp Tryz.prog 101 0):=Zo (fi:={ hi:={ still:=[2,8,13,22,25,34,35,38,40,41,43,44,46]},lp:=[(1,ZhH)]}) (specs:={ l:=[VQ,VB]}) (okS ⟨W7,W8,trivial⟩) ⟨Zkn,trivial⟩ (by kernel_rfl) (fun v=>by kernel_rfl)
end
end Go.Proofs.YtehgcchjaamddaaGreat
end
section
set_option maxRecDepth 4000
namespace Go.Proofs.YtehgcchjaamddaaGreat
open Go Go.Ev
noncomputable section
def Zay (F:Nat) (a0:Xn):Option ((List UInt8)):=
 (Xe F a0).bind fun o175=>
 if (!o175)=true then
  some ([]:List UInt8)
 else
 (YT F ([]:List UInt8) (a0.length:Int)).bind fun o176=>
 (Zj (QB F) F (o176,a0,(a0.length:Int),(0:Int),a0)).bind fun o185=>
 some o185.1
def Zdk (F:Nat):Fs Tryz.prog:=⟨101,[.v YS],[],[YS],[⟨.ret,[(0,.v (.sl .u8))],[],[(.sl .u8)]⟩],fun x=>Zay F x⟩
def ZeD:Fs Tryz.prog:=Zdk fuel
theorem Zdl:ZeD.Ok:=Zn (fi:={ hi:={ still:=[2,8,13,22,25,34,35,38,40,41,43,44,46]},lp:=[(0,ZhI)]}) (specs:={ l:=[Zbl,VQ]}) (okS ⟨Zad,W7,trivial⟩) ⟨Zko,trivial⟩ (by decide+kernel) (fun x=>by kernel_rfl)
def Zbo (F:Nat) (s:((List UInt8)×(List In)×Int×Int×Tx)):Option (((List UInt8)×(List In)×Int×Int×Tx)⊕((List UInt8)×Tx)):=
 if (decide (s.2.2.2.1 < s.2.2.1))=true then
  (idx s.2.1 s.2.2.2.1).bind fun e187=>
  (Zae F s.1 e187.1.1).bind fun o188=>
  (YT F o188 e187.1.2).bind fun o189=>
  some (.inl (o189,s.2.1,s.2.2.1,wi (s.2.2.2.1+1),s.2.2.2.2))
 else
 some (.inr (s.1,s.2.2.2.2))
def Zk4:Lp:=⟨[(1,.ref 0 []),(3,.v (.sl .u8)),(13,.v (.sl yIn)),(14,.v (.int .i64)),(15,.v (.int .i64))],[.var (.v yTx) true],[(.sl .u8),(.sl yIn),(.int .i64),(.int .i64),yTx],[⟨.exit 0,[(1,.ref 0 []),(3,.v (.sl .u8))],[.var (.v yTx) true],[(.sl .u8),yTx]⟩],Zj (Zbo fuel) fuel⟩
theorem Znm:Zk4.Ok Tryz.prog (Zr Tryz.prog 54) (Zp Tryz.prog 54 0):=Zo (fi:={ hi:={ still:=[2,10,19,22,23,26,29,32,41,43,44,46,47,50,52]},lp:=[]}) (specs:={ l:=[Zf9,VQ]}) (okS ⟨Ze9,W7,trivial⟩) trivial (by kernel_rfl) (fun v=>by kernel_rfl)
def Zbp (F:Nat) (s:((List UInt8)×(List Out)×Int×Int×Tx)):Option (((List UInt8)×(List Out)×Int×Int×Tx)⊕((List UInt8)×Tx)):=
 if (decide (s.2.2.2.1 < s.2.2.1))=true then
  (idx s.2.1 s.2.2.2.1).bind fun e192=>
  (YT F s.1 e192.1).bind fun o193=>
  (Zay F e192.2).bind fun o194=>
  (QA F o193 o194).bind fun o195=>
  some (.inl (o195,s.2.1,s.2.2.1,wi (s.2.2.2.1+1),s.2.2.2.2))
 else
 some (.inr (s.1,s.2.2.2.2))
def Zk5:Lp:=⟨[(1,.ref 0 []),(3,.v (.sl .u8)),(35,.v (.sl YE)),(36,.v (.int .i64)),(37,.v (.int .i64))],[.var (.v yTx) true],[(.sl .u8),(.sl YE),(.int .i64),(.int .i64),yTx],[⟨.exit 2,[(1,.ref 0 []),(3,.v (.sl .u8))],[.var (.v yTx) true],[(.sl .u8),yTx]⟩],Zj (Zbp fuel) fuel⟩
theorem Znn:Zk5.Ok Tryz.prog (Zr Tryz.prog 54) (Zp Tryz.prog 54 1):=Zo (fi:={ hi:={ still:=[2,10,19,22,23,26,29,32,41,43,44,46,47,50,52]},lp:=[]}) (specs:={ l:=[VQ,ZeD,Zfa]}) (okS ⟨W7,Zdl,ZdQ,trivial⟩) trivial (by kernel_rfl) (fun v=>by kernel_rfl)
def ZdR (F:Nat) (a0:Tx):Option ((List UInt8)):=
 (YT F ([]:List UInt8) (a0.1.length:Int)).bind fun o186=>
 (Zj (Zbo F) F (o186,a0.1,(a0.1.length:Int),(0:Int),a0)).bind fun o190=>
 (YT F o190.1 (o190.2.2.1.length:Int)).bind fun o191=>
 (Zj (Zbp F) F (o191,o190.2.2.1,(o190.2.2.1.length:Int),(0:Int),o190.2)).bind fun o196=>
 (YT F o196.1 o196.2.2.2).bind fun o197=>
 some o197
def Zgb (F:Nat):Fs Tryz.prog:=⟨54,[.v yTx],[],[yTx],[⟨.ret,[(0,.v (.sl .u8))],[],[(.sl .u8)]⟩],fun x=>ZdR F x⟩
def Zid:Fs Tryz.prog:=Zgb fuel
theorem Zgc:Zid.Ok:=Zn (fi:={ hi:={ still:=[2,10,19,22,23,26,29,32,41,43,44,46,47,50,52]},lp:=[(0,Zk4),(1,Zk5)]}) (specs:={ l:=[VQ]}) (okS ⟨W7,trivial⟩) ⟨Znm,Znn,trivial⟩ (by decide+kernel) (fun x=>by kernel_rfl)
def Zbq (F:Nat) (s:((List UInt8)×(List In)×Int×Int×(List Sig)×Int×Int×Tx×In)):Option (((List UInt8)×(List In)×Int×Int×(List Sig)×Int×Int×Tx×In)⊕((List UInt8)×(List In)×Int×Int×Tx×In)):=
 if (decide (s.2.2.2.2.2.2.1 < s.2.2.2.2.2.1))=true then
  (idx s.2.2.2.2.1 s.2.2.2.2.2.2.1).bind fun e203=>
  (XI F s.1 e203.1).bind fun o204=>
  (XI F o204 e203.2).bind fun o205=>
  some (.inl (o205,s.2.1,s.2.2.1,s.2.2.2.1,s.2.2.2.2.1,s.2.2.2.2.2.1,wi (s.2.2.2.2.2.2.1+1),s.2.2.2.2.2.2.2.1,s.2.2.2.2.2.2.2.2))
 else
 some (.inr (s.1,s.2.1,s.2.2.1,s.2.2.2.1,s.2.2.2.2.2.2.2.1,s.2.2.2.2.2.2.2.2))
def Zk6:Lp:=⟨[(3,.v (.sl .u8)),(5,.ref 1 []),(14,.v (.sl yIn)),(15,.v (.int .i64)),(16,.v (.int .i64)),(32,.v (.sl Zfm)),(33,.v (.int .i64)),(34,.v (.int .i64))],[.var (.v yTx) true,.var (.v yIn) true],[(.sl .u8),(.sl yIn),(.int .i64),(.int .i64),(.sl Zfm),(.int .i64),(.int .i64),yTx,yIn],[⟨.exit 2,[(3,.v (.sl .u8)),(5,.ref 1 []),(14,.v (.sl yIn)),(15,.v (.int .i64)),(16,.v (.int .i64))],[.var (.v yTx) true,.var (.v yIn) true],[(.sl .u8),(.sl yIn),(.int .i64),(.int .i64),yTx,yIn]⟩],Zj (Zbq fuel) fuel⟩
theorem Zno:Zk6.Ok Tryz.prog (Zr Tryz.prog 28) (Zp Tryz.prog 28 1):=Zo (fi:={ hi:={ still:=[2,8,11,20,23,24,28,38,40,41,43,46,49]},lp:=[]}) (specs:={ l:=[VB]}) (okS ⟨W8,trivial⟩) trivial (by kernel_rfl) (fun v=>by kernel_rfl)
def Zbr (F:Nat) (s:((List UInt8)×(List In)×Int×Int×Tx)):Option (((List UInt8)×(List In)×Int×Int×Tx)⊕((List UInt8)×Tx)):=
 if (decide (s.2.2.2.1 < s.2.2.1))=true then
  (idx s.2.1 s.2.2.2.1).bind fun e200=>
  (YT F s.1 e200.2.1).bind fun o201=>
  (YT F o201 (e200.2.2.1.length:Int)).bind fun o202=>
  (Zj (Zbq F) F (o202,s.2.1,s.2.2.1,s.2.2.2.1,e200.2.2.1,(e200.2.2.1.length:Int),(0:Int),s.2.2.2.2,e200)).bind fun o206=>
  (XI F o206.1 o206.2.2.2.2.2.2.2.2).bind fun o207=>
  some (.inl (o207,o206.2.1,o206.2.2.1,wi (o206.2.2.2.1+1),o206.2.2.2.2.1))
 else
 some (.inr (s.1,s.2.2.2.2))
def Zk7:Lp:=⟨[(3,.v (.sl .u8)),(14,.v (.sl yIn)),(15,.v (.int .i64)),(16,.v (.int .i64))],[.var (.v yTx) true],[(.sl .u8),(.sl yIn),(.int .i64),(.int .i64),yTx],[⟨.exit 0,[(3,.v (.sl .u8))],[.var (.v yTx) true],[(.sl .u8),yTx]⟩],Zj (Zbr fuel) fuel⟩
theorem Znp:Zk7.Ok Tryz.prog (Zr Tryz.prog 28) (Zp Tryz.prog 28 0):=Zo (fi:={ hi:={ still:=[2,8,11,20,23,24,28,38,40,41,43,46,49]},lp:=[(1,Zk6)]}) (specs:={ l:=[VQ,VB]}) (okS ⟨W7,W8,trivial⟩) ⟨Zno,trivial⟩ (by kernel_rfl) (fun v=>by kernel_rfl)
def ZdS (F:Nat) (a0:Tx):Option ((List UInt8)):=
 (Yu F a0).bind fun o198=>
 if (!o198)=true then
  some ([]:List UInt8)
 else
 (ZdR F a0).bind fun o199=>
 (Zj (Zbr F) F (o199,a0.1,(a0.1.length:Int),(0:Int),a0)).bind fun o208=>
 some o208.1
def Zgd (F:Nat):Fs Tryz.prog:=⟨28,[.v yTx],[],[yTx],[⟨.ret,[(0,.v (.sl .u8))],[],[(.sl .u8)]⟩],fun x=>ZdS F x⟩
def Zie:Fs Tryz.prog:=Zgd fuel
theorem Zge:Zie.Ok:=Zn (fi:={ hi:={ still:=[2,8,11,20,23,24,28,38,40,41,43,46,49]},lp:=[(0,Zk7)]}) (specs:={ l:=[Q2,Zid]}) (okS ⟨V3,Zgc,trivial⟩) ⟨Znp,trivial⟩ (by decide+kernel) (fun x=>by kernel_rfl)
def ZeE (F:Nat) (a0:(List UInt8)):Option ((UInt64×(List UInt8))):=
 some ((0:UInt64),a0)
def ZeF (F:Nat):Fs Tryz.prog:=⟨135,[.v (.arr 32 .u8)],[],[(.arr 32 .u8)],[⟨.ret,[(0,.fn 139 [.ref 0 [],.ref 1 []])],[.var (.v .u64) true,.var (.v (.arr 32 .u8)) true],[.u64,(.arr 32 .u8)]⟩],fun x=>ZeE F x⟩
def Zgf:Fs Tryz.prog:=ZeF fuel
theorem ZeG:Zgf.Ok:=Zn (fi:={ hi:={ still:=[2]},lp:=[]}) (specs:={ l:=[]}) (okS trivial) trivial (by decide+kernel) (fun x=>by kernel_rfl)
def Zfb (F:Nat) (s:(Int×UInt64×(List UInt8)×(List UInt8)×(List UInt8))):Option ((Int×UInt64×(List UInt8)×(List UInt8)×(List UInt8))⊕(UInt64×(List UInt8)×(List UInt8)×(List UInt8))):=
 if (decide (s.1 < 8))=true then
  if (decide (0≤wi (56 - (wi (8*s.1)))))=true then
   let y210:UInt64:=Ye s.2.1 (min (wi (56 - (wi (8*s.1)))).toNat 64)
   if (inB s.1 8)=true then
    (s.2.2.2.2[s.1.toNat]?).bind fun e211=>
    some (.inl (wi (s.1+1),s.2.1,s.2.2.1,s.2.2.2.1,s.2.2.2.2.set s.1.toNat (w8 (y210.toNat:Int))))
   else
   none
  else
  none
 else
 some (.inr (s.2.1,s.2.2.1,s.2.2.2.1,s.2.2.2.2))
def Zgg:Lp:=⟨[(0,.ref 0 []),(1,.ref 1 []),(2,.ref 2 []),(3,.ref 3 []),(5,.v (.int .i64))],[.var (.v .u64) true,.var (.v (.arr 32 .u8)) true,.var (.v (.arr 32 .u8)) true,.var (.v (.arr 8 .u8)) true],[(.int .i64),.u64,(.arr 32 .u8),(.arr 32 .u8),(.arr 8 .u8)],[⟨.exit 0,[(0,.ref 0 []),(1,.ref 1 []),(2,.ref 2 []),(3,.ref 3 [])],[.var (.v .u64) true,.var (.v (.arr 32 .u8)) true,.var (.v (.arr 32 .u8)) true,.var (.v (.arr 8 .u8)) true],[.u64,(.arr 32 .u8),(.arr 32 .u8),(.arr 8 .u8)]⟩],Zj (Zfb fuel) fuel⟩
theorem Zjr:Zgg.Ok Tryz.prog (Zr Tryz.prog 139) (Zp Tryz.prog 139 0):=Zo (fi:={ hi:={ still:=[21],frz:=[19,20]},lp:=[]}) (specs:={ l:=[]}) (okS trivial) trivial (by kernel_rfl) (fun v=>by kernel_rfl)
def ZyG:ByteArray:=⟨#[115,116,114,101,97,109]⟩
def ZqJ (F:Nat) (s0:UInt64) (s1:(List UInt8)):Option (((List UInt8)×UInt64×(List UInt8))):=
 (Zj (Zfb F) F ((0:Int),s0,s1,([0,0,0,0,0,0,0,0,0,0,0,0,0,0,0,0,0,0,0,0,0,0,0,0,0,0,0,0,0,0,0,0]:List UInt8),([0,0,0,0,0,0,0,0]:List UInt8))).bind fun o212=>
 (WF F ZyG ([o212.2.1,o212.2.2.2]:List (List UInt8))).bind fun o213=>
 some (o213,o212.1+1,o212.2.1)
def Zb6 (F:Nat):Fs Tryz.prog:=⟨139,[.ref 0 [],.ref 1 []],[.var (.v .u64) true,.var (.v (.arr 32 .u8)) true],[.u64,(.arr 32 .u8)],[⟨.ret,[(0,.v (.arr 32 .u8))],[.var (.v .u64) true,.var (.v (.arr 32 .u8)) false],[(.arr 32 .u8),.u64,(.arr 32 .u8)]⟩],fun x=>ZqJ F x.1 x.2⟩
def Zof:Fs Tryz.prog:=Zb6 fuel
theorem Znq:Zof.Ok:=Zn (fi:={ hi:={ still:=[21],frz:=[19,20]},lp:=[(0,Zgg)]}) (specs:={ l:=[W0]}) (okS ⟨Wa,trivial⟩) ⟨Zjr,trivial⟩ (by decide+kernel) (fun x=>by kernel_rfl)
def Xq (F:Nat) (s:(Int×UInt64×(List UInt8)×(List UInt8)×(List UInt8))):Option ((Int×UInt64×(List UInt8)×(List UInt8)×(List UInt8))⊕(UInt64×(List UInt8)×(List UInt8)×(List UInt8))):=
 if (decide (s.1 < 8))=true then
  if (decide (0≤wi (56 - (wi (8*s.1)))))=true then
   let y215:UInt64:=Ye s.2.1 (min (wi (56 - (wi (8*s.1)))).toNat 64)
   if (inB s.1 8)=true then
    (s.2.2.2.2[s.1.toNat]?).bind fun e216=>
    some (.inl (wi (s.1+1),s.2.1,s.2.2.1,s.2.2.2.1,s.2.2.2.2.set s.1.toNat (w8 (y215.toNat:Int))))
   else
   none
  else
  none
 else
 some (.inr (s.2.1,s.2.2.1,s.2.2.2.1,s.2.2.2.2))
def ZcX:Lp:=⟨[(0,.ref 0 []),(1,.ref 1 []),(2,.ref 2 []),(3,.ref 3 []),(5,.v (.int .i64))],[.var (.v .u64) true,.var (.v (.arr 32 .u8)) false,.var (.v (.arr 32 .u8)) true,.var (.v (.arr 8 .u8)) true],[(.int .i64),.u64,(.arr 32 .u8),(.arr 32 .u8),(.arr 8 .u8)],[⟨.exit 0,[(0,.ref 0 []),(1,.ref 1 []),(2,.ref 2 []),(3,.ref 3 [])],[.var (.v .u64) true,.var (.v (.arr 32 .u8)) false,.var (.v (.arr 32 .u8)) true,.var (.v (.arr 8 .u8)) true],[.u64,(.arr 32 .u8),(.arr 32 .u8),(.arr 8 .u8)]⟩],Zj (Xq fuel) fuel⟩
theorem Zgh:ZcX.Ok Tryz.prog (Zr Tryz.prog 139) (Zp Tryz.prog 139 0):=Zo (fi:={ hi:={ still:=[21],frz:=[19,20]},lp:=[]}) (specs:={ l:=[]}) (okS trivial) trivial (by kernel_rfl) (fun v=>by kernel_rfl)
def WA (F:Nat) (s0:UInt64) (s1:(List UInt8)):Option (((List UInt8)×UInt64×(List UInt8))):=
 (Zj (Xq F) F ((0:Int),s0,s1,([0,0,0,0,0,0,0,0,0,0,0,0,0,0,0,0,0,0,0,0,0,0,0,0,0,0,0,0,0,0,0,0]:List UInt8),([0,0,0,0,0,0,0,0]:List UInt8))).bind fun o217=>
 (WF F ZyG ([o217.2.1,o217.2.2.2]:List (List UInt8))).bind fun o218=>
 some (o218,o217.1+1,o217.2.1)
def QC (F:Nat):Fs Tryz.prog:=⟨139,[.ref 0 [],.ref 1 []],[.var (.v .u64) true,.var (.v (.arr 32 .u8)) false],[.u64,(.arr 32 .u8)],[⟨.ret,[(0,.v (.arr 32 .u8))],[.var (.v .u64) true,.var (.v (.arr 32 .u8)) false],[(.arr 32 .u8),.u64,(.arr 32 .u8)]⟩],fun x=>WA F x.1 x.2⟩
def Q4:Fs Tryz.prog:=QC fuel
theorem QD:Q4.Ok:=Zn (fi:={ hi:={ still:=[21],frz:=[19,20]},lp:=[(0,ZcX)]}) (specs:={ l:=[W0]}) (okS ⟨Wa,trivial⟩) ⟨Zgh,trivial⟩ (by decide+kernel) (fun x=>by kernel_rfl)
def Zfc (F:Nat) (s:(Int×(List UInt8)×(List UInt8)×UInt64×(List UInt8))):Option ((Int×(List UInt8)×(List UInt8)×UInt64×(List UInt8))⊕(Int×(List UInt8)×(List UInt8)×UInt64×(List UInt8))):=
 if (decide ((s.2.2.1.length:Int) < s.1))=true then
  (WA F s.2.2.2.1 s.2.2.2.2).bind fun o219=>
  if (apB s.2.2.1.length o219.1.length 1)=true then
   some (.inl (s.1,s.2.1,s.2.2.1++o219.1,o219.2.1,o219.2.2))
  else
  none
 else
 some (.inr (s.1,s.2.1,s.2.2.1,s.2.2.2.1,s.2.2.2.2))
def Zgi:Lp:=⟨[(1,.v (.int .i64)),(5,.own 1 .u8),(6,.fn 139 [.ref 2 [],.ref 3 []])],[.var (.v (.arr 32 .u8)) true,.log .u8 5,.var (.v .u64) true,.var (.v (.arr 32 .u8)) false],[(.int .i64),(.arr 32 .u8),(.sl .u8),.u64,(.arr 32 .u8)],[⟨.exit 0,[(1,.v (.int .i64)),(5,.own 1 .u8)],[.var (.v (.arr 32 .u8)) true,.log .u8 5,.var (.v .u64) true,.var (.v (.arr 32 .u8)) false],[(.int .i64),(.arr 32 .u8),(.sl .u8),.u64,(.arr 32 .u8)]⟩],Zj (Zfc fuel) fuel⟩
theorem Zjs:Zgi.Ok Tryz.prog (Zr Tryz.prog 127) (Zp Tryz.prog 127 0):=Zo (fi:={ hi:={ own:=[5,16,25,27],still:=[4,17],frz:=[26]},lp:=[]}) (specs:={ l:=[Q4]}) (okS ⟨QD,trivial⟩) trivial (by kernel_rfl) (fun v=>by kernel_rfl)
def ZqK (F:Nat) (a0:(List UInt8)) (a1:Int):Option ((List UInt8)):=
 if (decide (a1 < 0))=true then
  some ([]:List UInt8)
 else
 if (decide (a1 > 65536))=true then
  some ([]:List UInt8)
 else
 if (true&&(Ze2 (wi (a1+32)) 1))=true then
  (ZeE F a0).bind fun o209=>
  (Zj (Zfc F) F (a1,a0,([]:List UInt8),o209.1,o209.2)).bind fun o220=>
  if (Vw o220.2.2.1.length none (some o220.1))=true then
   some (o220.2.2.1.take o220.1.toNat)
  else
  none
 else
 none
def Zb7 (F:Nat):Fs Tryz.prog:=⟨127,[.v (.arr 32 .u8),.v (.int .i64)],[],[(.arr 32 .u8),(.int .i64)],[⟨.ret,[(0,.v (.sl .u8))],[],[(.sl .u8)]⟩],fun x=>ZqK F x.1 x.2⟩
def Zog:Fs Tryz.prog:=Zb7 fuel
theorem Znr:Zog.Ok:=Zn (fi:={ hi:={ own:=[5,16,25,27],still:=[4,17],frz:=[26]},lp:=[(0,Zgi)]}) (specs:={ l:=[Zgf]}) (okS ⟨ZeG,trivial⟩) ⟨Zjs,trivial⟩ (by decide+kernel) (fun x=>by kernel_rfl)
def Wm (F:Nat) (s:(Int×(List UInt8)×(List Unit)×(List UInt8)×(List Unit)×(List UInt8)×UInt64×(List UInt8))):Option ((Int×(List UInt8)×(List Unit)×(List UInt8)×(List Unit)×(List UInt8)×UInt64×(List UInt8))⊕(Int×(List UInt8)×(List Unit)×(List UInt8)×(List Unit)×(List UInt8)×UInt64×(List UInt8))):=
 if (decide ((s.2.2.2.2.2.1.length:Int) < s.1))=true then
  (WA F s.2.2.2.2.2.2.1 s.2.2.2.2.2.2.2).bind fun o223=>
  if (apB s.2.2.2.2.2.1.length o223.1.length 1)=true then
   some (.inl (s.1,s.2.1,s.2.2.1,s.2.2.2.1,()::s.2.2.2.2.1,s.2.2.2.2.2.1++o223.1,o223.2.1,o223.2.2))
  else
  none
 else
 some (.inr (s.1,s.2.1,s.2.2.1,s.2.2.2.1,s.2.2.2.2.1,s.2.2.2.2.2.1,s.2.2.2.2.2.2.1,s.2.2.2.2.2.2.2))
def ZcY:Lp:=⟨[(1,.v (.int .i64)),(5,.rw 2),(6,.fn 139 [.ref 3 [],.ref 4 []])],[.var (.v (.arr 32 .u8)) true,.row .u8 true 5,.row .u8 true 5,.var (.v .u64) true,.var (.v (.arr 32 .u8)) false],[(.int .i64),(.arr 32 .u8),(.sl (.st [])),(.sl .u8),(.sl (.st [])),(.sl .u8),.u64,(.arr 32 .u8)],[⟨.exit 0,[(1,.v (.int .i64)),(5,.rw 2)],[.var (.v (.arr 32 .u8)) true,.row .u8 true 5,.row .u8 true 5,.var (.v .u64) true,.var (.v (.arr 32 .u8)) false],[(.int .i64),(.arr 32 .u8),(.sl (.st [])),(.sl .u8),(.sl (.st [])),(.sl .u8),.u64,(.arr 32 .u8)]⟩],Zj (Wm fuel) fuel⟩
theorem Zgj:ZcY.Ok Tryz.prog (Zr Tryz.prog 127) (Zp Tryz.prog 127 0):=Zo (fi:={ hi:={ own:=[5,16,25,27],still:=[17],rowt:=[4,5,16,25,27,28,30],frz:=[26]},lp:=[]}) (specs:={ l:=[Q4]}) (okS ⟨QD,trivial⟩) trivial (by kernel_rfl) (fun v=>by kernel_rfl)
def Y2 (F:Nat) (a0:(List UInt8)) (a1:Int):Option (((List Unit)×(List UInt8))):=
 if (decide (a1 < 0))=true then
  some (([]:List Unit),([]:List UInt8))
 else
 if (decide (a1 > 65536))=true then
  some (([]:List Unit),([]:List UInt8))
 else
 if (true&&(Ze2 (wi (a1+32)) 1))=true then
  (ZeE F a0).bind fun o221=>
  (Zj (Wm F) F (a1,a0,([]:List Unit),([]:List UInt8),([]:List Unit),([]:List UInt8),o221.1,o221.2)).bind fun o224=>
  if (decide (0≤o224.1)&&decide (o224.1.toNat≤o224.2.2.2.2.2.1.length))=true then
   some (o224.2.2.2.2.1,o224.2.2.2.2.2.1.take o224.1.toNat)
  else
  none
 else
 none
def QE (F:Nat):Fs Tryz.prog:=⟨127,[.v (.arr 32 .u8),.v (.int .i64)],[],[(.arr 32 .u8),(.int .i64)],[⟨.ret,[(0,.rw 0)],[.row .u8 true 5],[(.sl (.st [])),(.sl .u8)]⟩],fun x=>Y2 F x.1 x.2⟩
def Q5:Fs Tryz.prog:=QE fuel
theorem QF:Q5.Ok:=Zn (fi:={ hi:={ own:=[5,16,25,27],still:=[17],rowt:=[4,5,16,25,27,28,30],frz:=[26]},lp:=[(0,ZcY)]}) (specs:={ l:=[Zgf]}) (okS ⟨ZeG,trivial⟩) ⟨Zgj,trivial⟩ (by decide+kernel) (fun x=>by kernel_rfl)
def Zaf (F:Nat) (s:((List UInt8)×Int×Int×(List UInt8)×(List Unit)×(List UInt8))):Option (((List UInt8)×Int×Int×(List UInt8)×(List Unit)×(List UInt8))⊕((List UInt8)×(List Unit)×(List UInt8))):=
 if (decide (s.2.2.1 < s.2.1))=true then
  if (inB s.2.2.1 s.2.2.2.2.2.length)=true then
   (s.2.2.2.2.2[s.2.2.1.toNat]?).bind fun e226=>
   (idx s.1 s.2.2.1).bind fun e227=>
   if (inB s.2.2.1 s.2.2.2.2.2.length)=true then
    (s.2.2.2.2.2[s.2.2.1.toNat]?).bind fun e228=>
    some (.inl (s.1,s.2.1,wi (s.2.2.1+1),s.2.2.2.1,s.2.2.2.2.1,s.2.2.2.2.2.set s.2.2.1.toNat (e226^^^e227)))
   else
   none
  else
  none
 else
 some (.inr (s.2.2.2.1,s.2.2.2.2.1,s.2.2.2.2.2))
def Zjt:Lp:=⟨[(1,.v (.sl .u8)),(5,.rw 1),(12,.v (.int .i64)),(13,.v (.int .i64))],[.var (.v (.arr 32 .u8)) true,.row .u8 true 5],[(.sl .u8),(.int .i64),(.int .i64),(.arr 32 .u8),(.sl (.st [])),(.sl .u8)],[⟨.exit 0,[(5,.rw 1)],[.var (.v (.arr 32 .u8)) true,.row .u8 true 5],[(.arr 32 .u8),(.sl (.st [])),(.sl .u8)]⟩],Zj (Zaf fuel) fuel⟩
theorem Zlw:Zjt.Ok Tryz.prog (Zr Tryz.prog 104) (Zp Tryz.prog 104 0):=Zo (fi:={ hi:={ still:=[4,7,9],rowt:=[5,10,16]},lp:=[]}) (specs:={ l:=[]}) (okS trivial) trivial (by kernel_rfl) (fun v=>by kernel_rfl)
def ZeH (F:Nat) (a0:(List UInt8)) (a1:(List UInt8)):Option ((List UInt8)):=
 (Y2 F a0 (a1.length:Int)).bind fun o225=>
 (Zj (Zaf F) F (a1,(a1.length:Int),(0:Int),a0,o225.1,o225.2)).bind fun o229=>
 some o229.2.2
def ZeI (F:Nat):Fs Tryz.prog:=⟨104,[.v (.arr 32 .u8),.v (.sl .u8)],[],[(.arr 32 .u8),(.sl .u8)],[⟨.ret,[(0,.v (.sl .u8))],[],[(.sl .u8)]⟩],fun x=>ZeH F x.1 x.2⟩
def Zk8:Fs Tryz.prog:=ZeI fuel
theorem Zju:Zk8.Ok:=Zn (fi:={ hi:={ still:=[4,7,9],rowt:=[5,10,16]},lp:=[(0,Zjt)]}) (specs:={ l:=[Q5]}) (okS ⟨QF,trivial⟩) ⟨Zlw,trivial⟩ (by decide+kernel) (fun x=>by kernel_rfl)
def ZAE:ByteArray:=⟨#[115,101,97,108]⟩
def ZdT (F:Nat) (a0:(List UInt8)) (a1:(List UInt8)):Option ((List UInt8)):=
 (WF F ZAE ([a0,a1]:List (List UInt8))).bind fun o230=>
 if (decide (8≤(o230.take 8).length))=true then
  some ((o230.take 8).take 8)
 else
 none
def Zgk (F:Nat):Fs Tryz.prog:=⟨105,[.v (.arr 32 .u8),.v (.sl .u8)],[],[(.arr 32 .u8),(.sl .u8)],[⟨.ret,[(0,.v (.arr 8 .u8))],[],[(.arr 8 .u8)]⟩],fun x=>ZdT F x.1 x.2⟩
def Zif:Fs Tryz.prog:=Zgk fuel
theorem Zgl:Zif.Ok:=Zn (fi:={ hi:={ still:=[8],frz:=[6,10]},lp:=[]}) (specs:={ l:=[W0]}) (okS ⟨Wa,trivial⟩) trivial (by decide+kernel) (fun x=>by kernel_rfl)
def Vm (F:Nat) (s:((List UInt8)×Int×Int×(List UInt8)×(List Unit)×(List UInt8)×(List Unit)×(List UInt8))):Option (((List UInt8)×Int×Int×(List UInt8)×(List Unit)×(List UInt8)×(List Unit)×(List UInt8))⊕((List UInt8)×(List Unit)×(List UInt8)×(List Unit)×(List UInt8))):=
 if (decide (s.2.2.1 < s.2.1))=true then
  if (inB s.2.2.1 s.2.2.2.2.2.2.2.length)=true then
   (s.2.2.2.2.2.2.2[s.2.2.1.toNat]?).bind fun e232=>
   (idx s.1 s.2.2.1).bind fun e233=>
   if (inB s.2.2.1 s.2.2.2.2.2.2.2.length)=true then
    (s.2.2.2.2.2.2.2[s.2.2.1.toNat]?).bind fun e234=>
    let y235:(List UInt8):=s.2.2.2.2.2.2.2.set s.2.2.1.toNat (e232^^^e233)
    some (.inl (s.1,s.2.1,wi (s.2.2.1+1),s.2.2.2.1,s.2.2.2.2.1,s.2.2.2.2.2.1,s.2.2.2.2.2.2.1,y235))
   else
   none
  else
  none
 else
 some (.inr (s.2.2.2.1,s.2.2.2.2.1,s.2.2.2.2.2.1,s.2.2.2.2.2.2.1,s.2.2.2.2.2.2.2))
def Zfd:Lp:=⟨[(1,.v (.sl .u8)),(5,.rw 2),(12,.v (.int .i64)),(13,.v (.int .i64))],[.var (.v (.arr 32 .u8)) true,.row .u8 true 5,.row .u8 true 5],[(.sl .u8),(.int .i64),(.int .i64),(.arr 32 .u8),(.sl (.st [])),(.sl .u8),(.sl (.st [])),(.sl .u8)],[⟨.exit 0,[(5,.rw 2)],[.var (.v (.arr 32 .u8)) true,.row .u8 true 5,.row .u8 true 5],[(.arr 32 .u8),(.sl (.st [])),(.sl .u8),(.sl (.st [])),(.sl .u8)]⟩],Zj (Vm fuel) fuel⟩
theorem Zig:Zfd.Ok Tryz.prog (Zr Tryz.prog 104) (Zp Tryz.prog 104 0):=Zo (fi:={ hi:={ still:=[7,9],rowt:=[4,5,10,16,27]},lp:=[]}) (specs:={ l:=[]}) (okS trivial) trivial (by kernel_rfl) (fun v=>by kernel_rfl)
def Zag (F:Nat) (a0:(List UInt8)) (a1:(List UInt8)):Option (((List Unit)×(List UInt8))):=
 (Y2 F a0 (a1.length:Int)).bind fun o231=>
 (Zj (Vm F) F (a1,(a1.length:Int),(0:Int),a0,([]:List Unit),([]:List UInt8),o231.1,o231.2)).bind fun o236=>
 some (o236.2.2.2.1,o236.2.2.2.2)
def ZaQ (F:Nat):Fs Tryz.prog:=⟨104,[.v (.arr 32 .u8),.v (.sl .u8)],[],[(.arr 32 .u8),(.sl .u8)],[⟨.ret,[(0,.rw 0)],[.row .u8 true 5],[(.sl (.st [])),(.sl .u8)]⟩],fun x=>Zag F x.1 x.2⟩
def Zgm:Fs Tryz.prog:=ZaQ fuel
theorem Zfe:Zgm.Ok:=Zn (fi:={ hi:={ still:=[7,9],rowt:=[4,5,10,16,27]},lp:=[(0,Zfd)]}) (specs:={ l:=[Q5]}) (okS ⟨QF,trivial⟩) ⟨Zig,trivial⟩ (by decide+kernel) (fun x=>by kernel_rfl)
def ZeJ (F:Nat) (a0:(List UInt8)) (a1:(List UInt8)):Option ((List UInt8)):=
 if (decide ((a1.length:Int) > 65536))=true then
  some ([]:List UInt8)
 else
 (Zag F a0 a1).bind fun o237=>
 (ZdT F a0 o237.2).bind fun o238=>
 if (apB o237.2.length o238.length 1)=true then
  some (o237.2++o238)
 else
 none
def ZeK (F:Nat):Fs Tryz.prog:=⟨57,[.v (.arr 32 .u8),.v (.sl .u8)],[],[(.arr 32 .u8),(.sl .u8)],[⟨.ret,[(0,.v (.sl .u8))],[],[(.sl .u8)]⟩],fun x=>ZeJ F x.1 x.2⟩
def Zk9:Fs Tryz.prog:=ZeK fuel
theorem Zjv:Zk9.Ok:=Zn (fi:={ hi:={ own:=[5,12,16,18],still:=[4,10,11,13,14],frz:=[17]},lp:=[]}) (specs:={ l:=[Zgm,Zif]}) (okS ⟨Zfe,Zgl,trivial⟩) trivial (by decide+kernel) (fun x=>by kernel_rfl)
def Xr (F:Nat) (a0:Tx) (a1:(List UInt8)):Option (Zf):=
 (Xd F a1).bind fun o239=>
 (Y1 F a1).bind fun o240=>
 (ZdS F a0).bind fun o241=>
 (ZeJ F o240 o241).bind fun o242=>
 some (o239,o242)
def X2 (F:Nat):Fs Tryz.prog:=⟨29,[.v yTx,.v (.arr 32 .u8)],[],[yTx,(.arr 32 .u8)],[⟨.ret,[(0,.v Zb)],[],[Zb]⟩],fun x=>Xr F x.1 x.2⟩
def QG:Fs Tryz.prog:=X2 fuel
theorem V4:QG.Ok:=Zn (fi:={ hi:={ still:=[5,7,8,9,10]},lp:=[]}) (specs:={ l:=[Zew,Zf0,Zie,Zk9]}) (okS ⟨Zdb,Zey,Zge,Zjv,trivial⟩) trivial (by decide+kernel) (fun x=>by kernel_rfl)
def ZAF:ByteArray:=⟨#[116,120]⟩
def Zdm (F:Nat) (a0:Tx):Option ((List UInt8)):=
 (Yu F a0).bind fun o243=>
 if (!o243)=true then
  some ([0,0,0,0,0,0,0,0,0,0,0,0,0,0,0,0,0,0,0,0,0,0,0,0,0,0,0,0,0,0,0,0]:List UInt8)
 else
 (ZdR F a0).bind fun o244=>
 (WF F ZAF ([o244]:List (List UInt8))).bind fun o245=>
 some o245
def Zns (F:Nat):Fs Tryz.prog:=⟨30,[.v yTx],[],[yTx],[⟨.ret,[(0,.v (.arr 32 .u8))],[],[(.arr 32 .u8)]⟩],fun x=>Zdm F x⟩
def ZqL:Fs Tryz.prog:=Zns fuel
theorem Znt:ZqL.Ok:=Zn (fi:={ hi:={ still:=[3,7,9]},lp:=[]}) (specs:={ l:=[Q2,Zid,W0]}) (okS ⟨V3,Zgc,Wa,trivial⟩) trivial (by decide+kernel) (fun x=>by kernel_rfl)
def Zaz (F:Nat) (s:((List Sig)×(List Sig)×Int×Int)):Option (((List Sig)×(List Sig)×Int×Int)⊕(Bool⊕Unit)):=
 if (decide (s.2.2.2 < s.2.2.1))=true then
  (idx s.1 s.2.2.2).bind fun e246=>
  (idx s.2.1 s.2.2.2).bind fun e247=>
  if (!(decide (e246=e247)))=true then
   some (.inr (.inl false))
  else
  some (.inl (s.1,s.2.1,s.2.2.1,wi (s.2.2.2+1)))
 else
 some (.inr (.inr ()))
def Znu:Lp:=⟨[(0,.v (.sl Zfm)),(1,.v (.sl Zfm)),(12,.v (.int .i64)),(13,.v (.int .i64))],[],[(.sl Zfm),(.sl Zfm),(.int .i64),(.int .i64)],[⟨.ret,[(4,.v .bool)],[],[.bool]⟩,⟨.exit 0,[],[],[]⟩],Zj (Zaz fuel) fuel⟩
theorem Zoh:Znu.Ok Tryz.prog (Zr Tryz.prog 59) (Zp Tryz.prog 59 0):=Zo (fi:={ hi:={ still:=[4]},lp:=[]}) (specs:={ l:=[]}) (okS trivial) trivial (by kernel_rfl) (fun v=>by kernel_rfl)
def Zjw (F:Nat) (a0:(List Sig)) (a1:(List Sig)):Option (Bool):=
 if ((a0.length:Int)!=(a1.length:Int))=true then
  some false
 else
 (Zj (Zaz F) F (a0,a1,(a0.length:Int),(0:Int))).bind fun o248=>
 match o248 with
 |.inl o249=>
  some o249
 |.inr o250=>
  some true
def Zih (F:Nat):Fs Tryz.prog:=⟨59,[.v (.sl Zfm),.v (.sl Zfm)],[],[(.sl Zfm),(.sl Zfm)],[⟨.ret,[(0,.v .bool)],[],[.bool]⟩],fun x=>Zjw F x.1 x.2⟩
def Zpf:Fs Tryz.prog:=Zih fuel
theorem Znv:Zpf.Ok:=Zn (fi:={ hi:={ still:=[4]},lp:=[(0,Znu)]}) (specs:={ l:=[]}) (okS trivial) ⟨Zoh,trivial⟩ (by decide+kernel) (fun x=>by kernel_rfl)
def Zb8 (F:Nat) (a0:In) (a1:In):Option (Bool):=
 if (decide (a0.1=a1.1))=true then
  if (a0.2.1==a1.2.1)=true then
   if (a0.2.2.2==a1.2.2.2)=true then
    (Zjw F a0.2.2.1 a1.2.2.1).bind fun o251=>
    some o251
   else
   some false
  else
  some false
 else
 some false
def ZeL (F:Nat):Fs Tryz.prog:=⟨58,[.v yIn,.v yIn],[],[yIn,yIn],[⟨.ret,[(0,.v .bool)],[],[.bool]⟩],fun x=>Zb8 F x.1 x.2⟩
def Zla:Fs Tryz.prog:=ZeL fuel
theorem Zjx:Zla.Ok:=Zn (fi:={ hi:={ still:=[4,31,34]},lp:=[]}) (specs:={ l:=[Zpf]}) (okS ⟨Znv,trivial⟩) trivial (by decide+kernel) (fun x=>by kernel_rfl)
def X3 (F:Nat) (s:((List UInt64)×(List UInt64)×Int×Int)):Option (((List UInt64)×(List UInt64)×Int×Int)⊕(Bool⊕Unit)):=
 if (decide (s.2.2.2 < s.2.2.1))=true then
  (idx s.1 s.2.2.2).bind fun e252=>
  (idx s.2.1 s.2.2.2).bind fun e253=>
  if (e252 !=e253)=true then
   some (.inr (.inl false))
  else
  some (.inl (s.1,s.2.1,s.2.2.1,wi (s.2.2.2+1)))
 else
 some (.inr (.inr ()))
def Zff:Lp:=⟨[(0,.v (.sl .u64)),(1,.v (.sl .u64)),(12,.v (.int .i64)),(13,.v (.int .i64))],[],[(.sl .u64),(.sl .u64),(.int .i64),(.int .i64)],[⟨.ret,[(4,.v .bool)],[],[.bool]⟩,⟨.exit 0,[],[],[]⟩],Zj (X3 fuel) fuel⟩
theorem Zii:Zff.Ok Tryz.prog (Zr Tryz.prog 61) (Zp Tryz.prog 61 0):=Zo (fi:={ hi:={ still:=[4]},lp:=[]}) (specs:={ l:=[]}) (okS trivial) trivial (by kernel_rfl) (fun v=>by kernel_rfl)
def Zah (F:Nat) (a0:(List UInt64)) (a1:(List UInt64)):Option (Bool):=
 if ((a0.length:Int)!=(a1.length:Int))=true then
  some false
 else
 (Zj (X3 F) F (a0,a1,(a0.length:Int),(0:Int))).bind fun o254=>
 match o254 with
 |.inl o255=>
  some o255
 |.inr o256=>
  some true
def ZaR (F:Nat):Fs Tryz.prog:=⟨61,[.v (.sl .u64),.v (.sl .u64)],[],[(.sl .u64),(.sl .u64)],[⟨.ret,[(0,.v .bool)],[],[.bool]⟩],fun x=>Zah F x.1 x.2⟩
def Zgn:Fs Tryz.prog:=ZaR fuel
theorem Zfg:Zgn.Ok:=Zn (fi:={ hi:={ still:=[4]},lp:=[(0,Zff)]}) (specs:={ l:=[]}) (okS trivial) ⟨Zii,trivial⟩ (by decide+kernel) (fun x=>by kernel_rfl)
def Zb9 (F:Nat) (a0:ZT) (a1:ZT):Option (Bool):=
 if (a0.2.1==a1.2.1)=true then
  if (a0.2.2.1==a1.2.2.1)=true then
   if (a0.2.2.2==a1.2.2.2)=true then
    (Zah F a0.1 a1.1).bind fun o257=>
    some o257
   else
   some false
  else
  some false
 else
 some false
def ZeM (F:Nat):Fs Tryz.prog:=⟨60,[.v Zu,.v Zu],[],[Zu,Zu],[⟨.ret,[(0,.v .bool)],[],[.bool]⟩],fun x=>Zb9 F x.1 x.2⟩
def Zlb:Fs Tryz.prog:=ZeM fuel
theorem Zjy:Zlb.Ok:=Zn (fi:={ hi:={ still:=[4,26,28]},lp:=[]}) (specs:={ l:=[Zgn]}) (okS ⟨Zfg,trivial⟩) trivial (by decide+kernel) (fun x=>by kernel_rfl)
def Zca (F:Nat) (s:((List In)×(List In)×Int×Int)):Option (((List In)×(List In)×Int×Int)⊕(Bool⊕Unit)):=
 if (decide (s.2.2.2 < s.2.2.1))=true then
  (idx s.2.1 s.2.2.2).bind fun e258=>
  (idx s.1 s.2.2.2).bind fun e259=>
  (Zb8 F e258 e259).bind fun o260=>
  if (!o260)=true then
   some (.inr (.inl false))
  else
  some (.inl (s.1,s.2.1,s.2.2.1,wi (s.2.2.2+1)))
 else
 some (.inr (.inr ()))
def Zpg:Lp:=⟨[(1,.v (.sl yIn)),(2,.fn 58 []),(15,.v (.sl yIn)),(16,.v (.int .i64)),(17,.v (.int .i64))],[],[(.sl yIn),(.sl yIn),(.int .i64),(.int .i64)],[⟨.ret,[(6,.v .bool)],[],[.bool]⟩,⟨.exit 0,[],[],[]⟩],Zj (Zca fuel) fuel⟩
theorem ZqM:Zpg.Ok Tryz.prog (Zr Tryz.prog 64) (Zp Tryz.prog 64 0):=Zo (fi:={ hi:={ still:=[6,27,28]},lp:=[]}) (specs:={ l:=[Zla]}) (okS ⟨Zjx,trivial⟩) trivial (by kernel_rfl) (fun v=>by kernel_rfl)
def ZlR (F:Nat) (a0:(List In)) (a1:(List In)):Option (Bool):=
 if ((a0.length:Int)!=(a1.length:Int))=true then
  some false
 else
 (Zj (Zca F) F (a1,a0,(a0.length:Int),(0:Int))).bind fun o261=>
 match o261 with
 |.inl o262=>
  some o262
 |.inr o263=>
  some true
def Zkp (F:Nat):Fs Tryz.prog:=⟨64,[.v (.sl yIn),.v (.sl yIn),.fn 58 []],[],[(.sl yIn),(.sl yIn)],[⟨.ret,[(0,.v .bool)],[],[.bool]⟩],fun x=>ZlR F x.1 x.2⟩
def Zsv:Fs Tryz.prog:=Zkp fuel
theorem Zph:Zsv.Ok:=Zn (fi:={ hi:={ still:=[6,27,28]},lp:=[(0,Zpg)]}) (specs:={ l:=[]}) (okS trivial) ⟨ZqM,trivial⟩ (by decide+kernel) (fun x=>by kernel_rfl)
def Va (F:Nat) (s:((List ZT)×(List ZT)×Int×Int)):Option (((List ZT)×(List ZT)×Int×Int)⊕(Bool⊕Unit)):=
 if (decide (s.2.2.2 < s.2.2.1))=true then
  (idx s.2.1 s.2.2.2).bind fun e267=>
  (idx s.1 s.2.2.2).bind fun e268=>
  (Zb9 F e267 e268).bind fun o269=>
  if (!o269)=true then
   some (.inr (.inl false))
  else
  some (.inl (s.1,s.2.1,s.2.2.1,wi (s.2.2.2+1)))
 else
 some (.inr (.inr ()))
def ZhJ:Lp:=⟨[(1,.v (.sl Zu)),(2,.fn 60 []),(15,.v (.sl Zu)),(16,.v (.int .i64)),(17,.v (.int .i64))],[],[(.sl Zu),(.sl Zu),(.int .i64),(.int .i64)],[⟨.ret,[(6,.v .bool)],[],[.bool]⟩,⟨.exit 0,[],[],[]⟩],Zj (Va fuel) fuel⟩
theorem Zkq:ZhJ.Ok Tryz.prog (Zr Tryz.prog 63) (Zp Tryz.prog 63 0):=Zo (fi:={ hi:={ still:=[6,27,28]},lp:=[]}) (specs:={ l:=[Zlb]}) (okS ⟨Zjy,trivial⟩) trivial (by kernel_rfl) (fun v=>by kernel_rfl)
def ZcZ (F:Nat) (a0:(List ZT)) (a1:(List ZT)):Option (Bool):=
 if ((a0.length:Int)!=(a1.length:Int))=true then
  some false
 else
 (Zj (Va F) F (a1,a0,(a0.length:Int),(0:Int))).bind fun o270=>
 match o270 with
 |.inl o271=>
  some o271
 |.inr o272=>
  some true
def Zdn (F:Nat):Fs Tryz.prog:=⟨63,[.v (.sl Zu),.v (.sl Zu),.fn 60 []],[],[(.sl Zu),(.sl Zu)],[⟨.ret,[(0,.v .bool)],[],[.bool]⟩],fun x=>ZcZ F x.1 x.2⟩
def Zjz:Fs Tryz.prog:=Zdn fuel
theorem ZhK:Zjz.Ok:=Zn (fi:={ hi:={ still:=[6,27,28]},lp:=[(0,ZhJ)]}) (specs:={ l:=[]}) (okS trivial) ⟨Zkq,trivial⟩ (by decide+kernel) (fun x=>by kernel_rfl)
def Zcb (F:Nat) (a0:Out) (a1:Out):Option (Bool):=
 if (a0.1==a1.1)=true then
  (ZcZ F a0.2 a1.2).bind fun o273=>
  some o273
 else
 some false
def ZeN (F:Nat):Fs Tryz.prog:=⟨62,[.v YE,.v YE,.ref 0 []],[.var (.fn 60 []) true],[YE,YE],[⟨.ret,[(0,.v .bool)],[.var (.fn 60 []) true],[.bool]⟩],fun x=>Zcb F x.1 x.2⟩
def Zlc:Fs Tryz.prog:=ZeN fuel
theorem ZjA:Zlc.Ok:=Zn (fi:={ hi:={ still:=[5,14,17,18]},lp:=[]}) (specs:={ l:=[Zjz]}) (okS ⟨ZhK,trivial⟩) trivial (by decide+kernel) (fun x=>by kernel_rfl)
def ZaA (F:Nat) (s:((List Out)×(List Out)×Int×Int)):Option (((List Out)×(List Out)×Int×Int)⊕(Bool⊕Unit)):=
 if (decide (s.2.2.2 < s.2.2.1))=true then
  (idx s.2.1 s.2.2.2).bind fun e265=>
  (idx s.1 s.2.2.2).bind fun e266=>
  (Zcb F e265 e266).bind fun o274=>
  if (!o274)=true then
   some (.inr (.inl false))
  else
  some (.inl (s.1,s.2.1,s.2.2.1,wi (s.2.2.2+1)))
 else
 some (.inr (.inr ()))
def Znw:Lp:=⟨[(1,.v (.sl YE)),(2,.fn 62 [.ref 0 []]),(15,.v (.sl YE)),(16,.v (.int .i64)),(17,.v (.int .i64))],[.var (.fn 60 []) true],[(.sl YE),(.sl YE),(.int .i64),(.int .i64)],[⟨.ret,[(6,.v .bool)],[.var (.fn 60 []) true],[.bool]⟩,⟨.exit 0,[],[.var (.fn 60 []) true],[]⟩],Zj (ZaA fuel) fuel⟩
theorem Zoi:Znw.Ok Tryz.prog (Zr Tryz.prog 65) (Zp Tryz.prog 65 0):=Zo (fi:={ hi:={ still:=[6,27,28]},lp:=[]}) (specs:={ l:=[Zlc]}) (okS ⟨ZjA,trivial⟩) trivial (by kernel_rfl) (fun v=>by kernel_rfl)
def ZjB (F:Nat) (a0:(List Out)) (a1:(List Out)):Option (Bool):=
 if ((a0.length:Int)!=(a1.length:Int))=true then
  some false
 else
 (Zj (ZaA F) F (a1,a0,(a0.length:Int),(0:Int))).bind fun o275=>
 match o275 with
 |.inl o276=>
  some o276
 |.inr o277=>
  some true
def Zij (F:Nat):Fs Tryz.prog:=⟨65,[.v (.sl YE),.v (.sl YE),.fn 62 [.ref 0 []]],[.var (.fn 60 []) true],[(.sl YE),(.sl YE)],[⟨.ret,[(0,.v .bool)],[.var (.fn 60 []) true],[.bool]⟩],fun x=>ZjB F x.1 x.2⟩
def Zpi:Fs Tryz.prog:=Zij fuel
theorem Znx:Zpi.Ok:=Zn (fi:={ hi:={ still:=[6,27,28]},lp:=[(0,Znw)]}) (specs:={ l:=[]}) (okS trivial) ⟨Zoi,trivial⟩ (by decide+kernel) (fun x=>by kernel_rfl)
def ZjC (F:Nat) (a0:Tx) (a1:Tx):Option (Bool):=
 if (a0.2.2==a1.2.2)=true then
  (ZlR F a0.1 a1.1).bind fun o264=>
  if o264=true then
   (ZjB F a0.2.1 a1.2.1).bind fun o278=>
   some o278
  else
  some false
 else
 some false
def Zik (F:Nat):Fs Tryz.prog:=⟨32,[.v yTx,.v yTx],[],[yTx,yTx],[⟨.ret,[(0,.v .bool)],[],[.bool]⟩],fun x=>ZjC F x.1 x.2⟩
def Zpj:Fs Tryz.prog:=Zik fuel
theorem Zny:Zpj.Ok:=Zn (fi:={ hi:={ still:=[4,16,18,19,24,26,27]},lp:=[]}) (specs:={ l:=[Zsv,Zpi]}) (okS ⟨Zph,Znx,trivial⟩) trivial (by decide+kernel) (fun x=>by kernel_rfl)
def QH (F:Nat) (a0:(List UInt64)):Option ((List UInt64)):=
 if (apB 0 a0.length 8)=true then
  some a0
 else
 none
def Q6 (F:Nat):Fs Tryz.prog:=⟨129,[.sl true .u64],[],[(.sl .u64)],[⟨.ret,[(0,.v (.sl .u64))],[],[(.sl .u64)]⟩],fun x=>QH F x⟩
def Zlx:Fs Tryz.prog:=Q6 fuel
theorem ZdU:Zlx.Ok:=Zn (fi:={ hi:={ own:=[5,7],still:=[2]},lp:=[]}) (specs:={ l:=[]}) (okS trivial) trivial (by decide+kernel) (fun x=>by kernel_rfl)
def Zc0 (F:Nat):Option ((List UInt64)):=
 some ([]:List UInt64)
def Vr (F:Nat):Fs Tryz.prog:=⟨129,[.nil .u64],[],[],[⟨.ret,[(0,.v (.sl .u64))],[],[(.sl .u64)]⟩],fun x=>Zc0 F⟩
def Zil:Fs Tryz.prog:=Vr fuel
theorem ZaZ:Zil.Ok:=Zn (fi:={ hi:={ own:=[5,7],still:=[2]},lp:=[]}) (specs:={ l:=[]}) (okS trivial) trivial (by decide+kernel) (fun x=>by kernel_rfl)
def VR (F:Nat):Fs Tryz.prog:=⟨129,[.v (.sl .u64)],[],[(.sl .u64)],[⟨.ret,[(0,.v (.sl .u64))],[],[(.sl .u64)]⟩],fun x=>QH F x⟩
def Zc1:Fs Tryz.prog:=VR fuel
theorem Zcc:Zc1.Ok:=ZqB (t:=.u64) (xs:=[⟨.ret,[(0,.v (.sl .u64))],[],[(.sl .u64)]⟩]) (MA:=fun (x:(List UInt64))=>QH fuel x) (MB:=fun _=>Zc0 fuel) ZdU ZaZ rfl
def Zpk (F:Nat) (a0:(List UInt64)):Option (Xn):=
 (QH F a0).bind fun o279=>
 some ([(o279,0,0,0)]:Xn)
def Zgo (F:Nat):Fs Tryz.prog:=⟨109,[.v (.sl .u64)],[],[(.sl .u64)],[⟨.ret,[(0,.v YS)],[],[YS]⟩],fun x=>Zpk F x⟩
def Znz:Fs Tryz.prog:=Zgo fuel
theorem Zld:Znz.Ok:=Zn (fi:={ hi:={ still:=[3]},lp:=[]}) (specs:={ l:=[Zc1]}) (okS ⟨Zcc,trivial⟩) trivial (by decide+kernel) (fun x=>by kernel_rfl)
def Zpl (F:Nat) (a0:UInt64):Option (Xn):=
 (Zpk F ([a0]:List UInt64)).bind fun o280=>
 some o280
def Zgp (F:Nat):Fs Tryz.prog:=⟨70,[.v .u64],[],[.u64],[⟨.ret,[(0,.v YS)],[],[YS]⟩],fun x=>Zpl F x⟩
def ZnA:Fs Tryz.prog:=Zgp fuel
theorem Zle:ZnA.Ok:=Zn (fi:={ hi:={ still:=[4]},lp:=[]}) (specs:={ l:=[Znz]}) (okS ⟨Zld,trivial⟩) trivial (by decide+kernel) (fun x=>by kernel_rfl)
def ZjD (F:Nat) (a0:UInt64):Option (UInt64):=
 (Qw F a0).bind fun o281=>
 if o281=true then
  some a0
 else
 some (1:UInt64)
def Zcd (F:Nat):Fs Tryz.prog:=⟨130,[.v .u64],[],[.u64],[⟨.ret,[(0,.v .u64)],[],[.u64]⟩],fun x=>ZjD F x⟩
def ZhL:Fs Tryz.prog:=Zcd fuel
theorem Zgq:ZhL.Ok:=Zn (fi:={ hi:={ still:=[2,3]},lp:=[]}) (specs:={ l:=[Zdi]}) (okS ⟨Zb1,trivial⟩) trivial (by decide+kernel) (fun x=>by kernel_rfl)
def ZjE (F:Nat) (a0:UInt64) (a1:UInt64):Option (UInt64):=
 (ZjD F a0).bind fun o282=>
 (Qv F o282 (a1 % 2305843009213688669)).bind fun o283=>
 some o283
def Zce (F:Nat):Fs Tryz.prog:=⟨110,[.v .u64,.v .u64],[],[.u64,.u64],[⟨.ret,[(0,.v .u64)],[],[.u64]⟩],fun x=>ZjE F x.1 x.2⟩
def ZhM:Fs Tryz.prog:=Zce fuel
theorem Zgr:ZhM.Ok:=Zn (fi:={ hi:={ still:=[4,5,6,8]},lp:=[]}) (specs:={ l:=[ZhL,Zdh]}) (okS ⟨Zgq,ZbZ,trivial⟩) trivial (by decide+kernel) (fun x=>by kernel_rfl)
def Zlf (F:Nat) (a0:UInt64):Option (UInt64):=
 (ZjE F (4:UInt64) a0).bind fun o284=>
 some o284
def Zdo (F:Nat):Fs Tryz.prog:=⟨71,[.v .u64],[],[.u64],[⟨.ret,[(0,.v .u64)],[],[.u64]⟩],fun x=>Zlf F x⟩
def ZjF:Fs Tryz.prog:=Zdo fuel
theorem ZhN:ZjF.Ok:=Zn (fi:={ hi:={ still:=[2,3]},lp:=[]}) (specs:={ l:=[ZhM]}) (okS ⟨Zgr,trivial⟩) trivial (by decide+kernel) (fun x=>by kernel_rfl)
def Zim (F:Nat) (a0:Int):Option (Tx):=
 (Zlf F (3:UInt64)).bind fun o285=>
 (Zpl F o285).bind fun o286=>
 some (([(([0,0,0,0,0,0,0,0,0,0,0,0,0,0,0,0,0,0,0,0,0,0,0,0,0,0,0,0,0,0,0,0],0),(0,[],0))]:List In),([(5,o286)]:List Out),a0)
def Vb (F:Nat):Fs Tryz.prog:=⟨34,[.v (.int .i64)],[],[(.int .i64)],[⟨.ret,[(0,.v yTx)],[],[yTx]⟩],fun x=>Zim F x⟩
def Zg8:Fs Tryz.prog:=Vb fuel
theorem Zgs:Zg8.Ok:=Zn (fi:={ hi:={ still:=[5]},lp:=[]}) (specs:={ l:=[ZjF,ZnA]}) (okS ⟨ZhN,Zle,trivial⟩) trivial (by decide+kernel) (fun x=>by kernel_rfl)
def Xs (F:Nat) (s:((List UInt8)×(List UInt8)×Int)):Option (((List UInt8)×(List UInt8)×Int)⊕(Bool⊕Unit)):=
 if (decide (s.2.2 < (s.1.length:Int)))=true then
  (idx s.1 s.2.2).bind fun e287=>
  (idx s.2.1 s.2.2).bind fun e288=>
  if (e287 !=e288)=true then
   some (.inr (.inl false))
  else
  some (.inl (s.1,s.2.1,wi (s.2.2+1)))
 else
 some (.inr (.inr ()))
def ZaB:Lp:=⟨[(0,.v (.sl .u8)),(1,.v (.sl .u8)),(5,.v (.int .i64))],[],[(.sl .u8),(.sl .u8),(.int .i64)],[⟨.ret,[(4,.v .bool)],[],[.bool]⟩,⟨.exit 0,[],[],[]⟩],Zj (Xs fuel) fuel⟩
theorem ZdV:ZaB.Ok Tryz.prog (Zr Tryz.prog 50) (Zp Tryz.prog 50 0):=Zo (fi:={ hi:={ still:=[4]},lp:=[]}) (specs:={ l:=[]}) (okS trivial) trivial (by kernel_rfl) (fun v=>by kernel_rfl)
def Wn (F:Nat) (a0:(List UInt8)) (a1:(List UInt8)):Option (Bool):=
 if ((a0.length:Int)!=(a1.length:Int))=true then
  some false
 else
 (Zj (Xs F) F (a0,a1,(0:Int))).bind fun o289=>
 match o289 with
 |.inl o290=>
  some o290
 |.inr o291=>
  some true
def Vc (F:Nat):Fs Tryz.prog:=⟨50,[.v (.sl .u8),.v (.sl .u8)],[],[(.sl .u8),(.sl .u8)],[⟨.ret,[(0,.v .bool)],[],[.bool]⟩],fun x=>Wn F x.1 x.2⟩
def Za0:Fs Tryz.prog:=Vc fuel
theorem ZaC:Za0.Ok:=Zn (fi:={ hi:={ still:=[4]},lp:=[(0,ZaB)]}) (specs:={ l:=[]}) (okS trivial) ⟨ZdV,trivial⟩ (by decide+kernel) (fun x=>by kernel_rfl)
def YU (F:Nat) (s:((List Zf)×Int×Zf)):Option (((List Zf)×Int×Zf)⊕((Bool×Zf)⊕Zf)):=
 if (decide (s.2.1 < (s.1.length:Int)))=true then
  (idx s.1 s.2.1).bind fun e292=>
  if (decide (e292.1=s.2.2.1))=true then
   (idx s.1 s.2.1).bind fun e293=>
   (ZJ F e293.2).bind fun o294=>
   (ZJ F s.2.2.2).bind fun o295=>
   if (decide (o294=o295))=true then
    (idx s.1 s.2.1).bind fun e296=>
    (Wn F e296.2 s.2.2.2).bind fun o297=>
    if (!o297)=true then
     some (.inr (.inl (false,s.2.2)))
    else
    some (.inl (s.1,wi (s.2.1+1),s.2.2))
   else
   some (.inl (s.1,wi (s.2.1+1),s.2.2))
  else
  some (.inl (s.1,wi (s.2.1+1),s.2.2))
 else
 some (.inr (.inr s.2.2))
def QI:Lp:=⟨[(0,.v (.sl Zb)),(3,.ref 0 []),(5,.v (.int .i64))],[.var (.v Zb) true],[(.sl Zb),(.int .i64),Zb],[⟨.ret,[(4,.v .bool)],[.var (.v Zb) true],[.bool,Zb]⟩,⟨.exit 0,[],[.var (.v Zb) true],[Zb]⟩],Zj (YU fuel) fuel⟩
theorem Zcr:QI.Ok Tryz.prog (Zr Tryz.prog 31) (Zp Tryz.prog 31 0):=Zo (fi:={ hi:={ still:=[4,25,28,37,39]},lp:=[]}) (specs:={ l:=[ZbS,Za0]}) (okS ⟨Zau,ZaC,trivial⟩) trivial (by kernel_rfl) (fun v=>by kernel_rfl)
def XJ (F:Nat) (a0:(List Zf)) (a1:Zf):Option (Bool):=
 (Zj (YU F) F (a0,(0:Int),a1)).bind fun o298=>
 match o298 with
 |.inl o299=>
  some o299.1
 |.inr o300=>
  some true
def Wo (F:Nat):Fs Tryz.prog:=⟨31,[.v (.sl Zb),.v Zb],[],[(.sl Zb),Zb],[⟨.ret,[(0,.v .bool)],[],[.bool]⟩],fun x=>XJ F x.1 x.2⟩
def QO:Fs Tryz.prog:=Wo fuel
theorem QJ:QO.Ok:=Zn (fi:={ hi:={ still:=[4,25,28,37,39]},lp:=[(0,QI)]}) (specs:={ l:=[]}) (okS trivial) ⟨Zcr,trivial⟩ (by decide+kernel) (fun x=>by kernel_rfl)
end
end Go.Proofs.YtehgcchjaamddaaGreat
end
section
set_option maxRecDepth 100000
namespace Go.Proofs.YtehgcchjaamddaaGreat
open Go Go.Ev
noncomputable section
def his:FuncId→HI
 |6=>{ eqs:=true,own:=[],still:=[0,20,21,22,24,25,27,28,30,31,33,36,39,40,42,44,45,49,51,53,55,57,60,61,63,65,66,88,89,97,98,115],row:=[],deep:=[],frz:=[],ghost:=[],gst:=[]}
 |16=>{ eqs:=true,own:=[],still:=[],row:=[],deep:=[],frz:=[],ghost:=[],gst:=[]}
 |18=>{ eqs:=true,own:=[],still:=[],row:=[],deep:=[],frz:=[],ghost:=[],gst:=[]}
 |20=>{ eqs:=true,own:=[],still:=[4],row:=[],deep:=[],frz:=[],ghost:=[],gst:=[]}
 |22=>{ eqs:=true,own:=[],still:=[9],row:=[],deep:=[],frz:=[],ghost:=[],gst:=[]}
 |24=>{ eqs:=true,own:=[47,55],still:=[6,29,30,51],row:=[],deep:=[],frz:=[],ghost:=[],gst:=[]}
 |26=>{ eqs:=true,own:=[],still:=[2],row:=[],deep:=[],frz:=[],ghost:=[],gst:=[]}
 |29=>{ eqs:=true,own:=[],still:=[5,7,8,9,10],row:=[],deep:=[],frz:=[],ghost:=[],gst:=[]}
 |32=>{ eqs:=true,own:=[],still:=[4,16,18,19,24,26,27],row:=[],deep:=[],frz:=[],ghost:=[],gst:=[]}
 |38=>{ eqs:=true,own:=[],still:=[],row:=[],deep:=[],frz:=[],ghost:=[],gst:=[]}
 |39=>{ eqs:=true,own:=[],still:=[],row:=[5],deep:=[],frz:=[],ghost:=[],gst:=[]}
 |46=>{ eqs:=true,own:=[],still:=[4,5,6],row:=[],deep:=[],frz:=[],ghost:=[],gst:=[]}
 |47=>{ eqs:=true,own:=[],still:=[3,11,13],row:=[],deep:=[],frz:=[],ghost:=[],gst:=[]}
 |57=>{ eqs:=true,own:=[],still:=[],row:=[],deep:=[34],frz:=[17],ghost:=[],gst:=[]}
 |58=>{ eqs:=true,own:=[],still:=[4,31,34],row:=[],deep:=[],frz:=[],ghost:=[],gst:=[]}
 |60=>{ eqs:=true,own:=[],still:=[4,26,28],row:=[],deep:=[],frz:=[],ghost:=[],gst:=[]}
 |62=>{ eqs:=true,own:=[],still:=[5,14,17,18],row:=[],deep:=[],frz:=[],ghost:=[],gst:=[]}
 |63=>{ eqs:=true,own:=[],still:=[6,27,28],row:=[],deep:=[],frz:=[],ghost:=[],gst:=[]}
 |64=>{ eqs:=true,own:=[],still:=[6,27,28],row:=[],deep:=[],frz:=[],ghost:=[],gst:=[]}
 |65=>{ eqs:=true,own:=[],still:=[6,27,28],row:=[],deep:=[],frz:=[],ghost:=[],gst:=[]}
 |93=>{ eqs:=true,own:=[],still:=[4,15],row:=[],deep:=[],frz:=[],ghost:=[],gst:=[]}
 |104=>{ eqs:=true,own:=[],still:=[],row:=[],deep:=[],frz:=[],ghost:=[],gst:=[]}
 |127=>{ eqs:=true,own:=[],still:=[],row:=[16],deep:=[],frz:=[26],ghost:=[],gst:=[]}
 |159=>{ eqs:=true,own:=[10,33,37,76,79],still:=[6,46,49,52,61,62,64,71],row:=[],deep:=[],frz:=[],ghost:=[],gst:=[]}
 |160=>{ eqs:=true,own:=[],still:=[11,29,34,35],row:=[],deep:=[],frz:=[],ghost:=[],gst:=[]}
 |161=>{ eqs:=true,own:=[],still:=[],row:=[],deep:=[34,4],frz:=[],ghost:=[],gst:=[]}
 |162=>{ eqs:=true,own:=[],still:=[],row:=[32,99],deep:=[57,4],frz:=[],ghost:=[(4,[([1],YE,104)])],gst:=[]}
 |164=>{ eqs:=true,own:=[],still:=[3,5],row:=[],deep:=[],frz:=[],ghost:=[],gst:=[]}
 |167=>{ eqs:=true,own:=[],still:=[],row:=[],deep:=[],frz:=[],ghost:=[(8,[([0],.u64,109)]),(5,[([0],Zu,118)])],gst:=[]}
 |176=>{ eqs:=true,own:=[],still:=[6],row:=[],deep:=[],frz:=[],ghost:=[],gst:=[]}
 |177=>{ eqs:=true,own:=[],still:=[11,13],row:=[],deep:=[],frz:=[12],ghost:=[],gst:=[]}
 |27=>{ eqs:=true,own:=[],still:=[2,57,73,75,83],row:=[],deep:=[],frz:=[],ghost:=[],gst:=[]}
 |28=>{ eqs:=true,own:=[],still:=[2,8,11,20,23,24,28,38,40,41,43,46,49],row:=[],deep:=[],frz:=[],ghost:=[],gst:=[]}
 |30=>{ eqs:=true,own:=[],still:=[3,7,9],row:=[],deep:=[],frz:=[],ghost:=[],gst:=[]}
 |54=>{ eqs:=true,own:=[],still:=[2,10,19,22,23,26,29,32,41,43,44,46,47,50,52],row:=[],deep:=[],frz:=[],ghost:=[],gst:=[]}
 |51=>{ eqs:=true,own:=[],still:=[2],row:=[],deep:=[],frz:=[],ghost:=[],gst:=[]}
 |139=>{ eqs:=true,own:=[],still:=[21],row:=[],deep:=[],frz:=[19,20],ghost:=[],gst:=[]}
 |135=>{ eqs:=true,own:=[],still:=[2],row:=[],deep:=[],frz:=[],ghost:=[],gst:=[]}
 |53=>{ eqs:=true,own:=[],still:=[2,19,20,25,31,42],row:=[],deep:=[],frz:=[],ghost:=[],gst:=[]}
 |94=>{ eqs:=true,own:=[],still:=[2],row:=[],deep:=[],frz:=[],ghost:=[],gst:=[]}
 |95=>{ eqs:=true,own:=[],still:=[2,3],row:=[],deep:=[],frz:=[],ghost:=[],gst:=[]}
 |96=>{ eqs:=true,own:=[],still:=[2,10],row:=[],deep:=[],frz:=[],ghost:=[],gst:=[]}
 |97=>{ eqs:=true,own:=[],still:=[4,5,6],row:=[],deep:=[],frz:=[],ghost:=[],gst:=[]}
 |98=>{ eqs:=true,own:=[],still:=[2],row:=[],deep:=[],frz:=[],ghost:=[],gst:=[]}
 |101=>{ eqs:=true,own:=[],still:=[2,8,13,22,25,34,35,38,40,41,43,44,46],row:=[],deep:=[],frz:=[],ghost:=[],gst:=[]}
 |102=>{ eqs:=true,own:=[],still:=[4,7],row:=[],deep:=[],frz:=[],ghost:=[],gst:=[]}
 |103=>{ eqs:=true,own:=[3,8,14,15,19],still:=[2],row:=[],deep:=[],frz:=[],ghost:=[],gst:=[]}
 |99=>{ eqs:=true,own:=[],still:=[4,5,6],row:=[],deep:=[],frz:=[6],ghost:=[],gst:=[]}
 |100=>{ eqs:=true,own:=[],still:=[4,7,10],row:=[],deep:=[],frz:=[],ghost:=[],gst:=[]}
 |55=>{ eqs:=true,own:=[],still:=[4,7,9,10,11],row:=[],deep:=[],frz:=[],ghost:=[],gst:=[]}
 |56=>{ eqs:=true,own:=[],still:=[4,19,20],row:=[],deep:=[],frz:=[20],ghost:=[],gst:=[]}
 |125=>{ eqs:=true,own:=[],still:=[4,15],row:=[],deep:=[],frz:=[],ghost:=[],gst:=[]}
 |109=>{ eqs:=true,own:=[],still:=[3],row:=[],deep:=[],frz:=[],ghost:=[],gst:=[]}
 |59=>{ eqs:=true,own:=[],still:=[4],row:=[],deep:=[],frz:=[],ghost:=[],gst:=[]}
 |61=>{ eqs:=true,own:=[],still:=[4],row:=[],deep:=[],frz:=[],ghost:=[],gst:=[]}
 |163=>{ eqs:=true,own:=[],still:=[2,3],row:=[],deep:=[],frz:=[],ghost:=[],gst:=[]}
 |165=>{ eqs:=true,own:=[],still:=[2,10],row:=[],deep:=[],frz:=[],ghost:=[],gst:=[]}
 |166=>{ eqs:=true,own:=[],still:=[5],row:=[],deep:=[],frz:=[],ghost:=[],gst:=[]}
 |168=>{ eqs:=true,own:=[],still:=[2,4,10,11],row:=[],deep:=[],frz:=[],ghost:=[],gst:=[]}
 |169=>{ eqs:=true,own:=[],still:=[2,6],row:=[],deep:=[],frz:=[],ghost:=[],gst:=[]}
 |170=>{ eqs:=true,own:=[],still:=[2],row:=[],deep:=[],frz:=[],ghost:=[],gst:=[]}
 |171=>{ eqs:=true,own:=[],still:=[2],row:=[],deep:=[],frz:=[],ghost:=[],gst:=[]}
 |172=>{ eqs:=true,own:=[],still:=[2],row:=[],deep:=[],frz:=[],ghost:=[],gst:=[]}
 |173=>{ eqs:=true,own:=[],still:=[],row:=[],deep:=[],frz:=[],ghost:=[],gst:=[]}
 |174=>{ eqs:=true,own:=[],still:=[4,19,26],row:=[],deep:=[],frz:=[],ghost:=[],gst:=[]}
 |175=>{ eqs:=true,own:=[],still:=[4],row:=[],deep:=[],frz:=[],ghost:=[],gst:=[]}
 |105=>{ eqs:=true,own:=[],still:=[],row:=[8],deep:=[],frz:=[6,10],ghost:=[],gst:=[]}
 |35=>{ eqs:=true,own:=[5,10,12,19,22,24],still:=[9,19,21,26],row:=[],deep:=[],frz:=[],ghost:=[],gst:=[]}
 |33=>{ eqs:=true,own:=[3,14,16,21,23,24,28,43],still:=[13,24,27,35,37,44,46],row:=[],deep:=[],frz:=[],ghost:=[],gst:=[]}
 |67=>{ eqs:=true,own:=[0,10,16],still:=[4],row:=[],deep:=[],frz:=[],ghost:=[],gst:=[]}
 |10=>{ eqs:=true,own:=[],still:=[5],row:=[],deep:=[],frz:=[4,7],ghost:=[],gst:=[]}
 |12=>{ eqs:=true,own:=[],still:=[4],row:=[],deep:=[],frz:=[3],ghost:=[],gst:=[]}
 |14=>{ eqs:=true,own:=[],still:=[8],row:=[],deep:=[],frz:=[5],ghost:=[],gst:=[]}
 |49=>{ eqs:=true,own:=[5,7],still:=[2],row:=[],deep:=[],frz:=[],ghost:=[],gst:=[]}
 |66=>{ eqs:=true,own:=[5,7],still:=[2],row:=[],deep:=[],frz:=[],ghost:=[],gst:=[]}
 |_=>{}
def ZBN:List (Fs Tryz.prog):=[Zes 18446744073709551616,Xw 18446744073709551616,YY 18446744073709551616,Y8 18446744073709551616,Zc6 18446744073709551616,WX 18446744073709551616,ZbQ 18446744073709551616,QY 18446744073709551616,Zc7 18446744073709551616,Qq 18446744073709551616,YZ 18446744073709551616,Y0 18446744073709551616,YC 18446744073709551616,Wz 18446744073709551616,ZfX 18446744073709551616,Qs 18446744073709551616,ZfY 18446744073709551616,ZbT 18446744073709551616,ZbV 18446744073709551616,Qt 18446744073709551616,Q0 18446744073709551616,Zda 18446744073709551616,Zex 18446744073709551616,Zdc 18446744073709551616,Zez 18446744073709551616,Zib 18446744073709551616,Zdd 18446744073709551616,Zde 18446744073709551616,Wl 18446744073709551616,Zdf 18446744073709551616,Zdg 18446744073709551616,ZbX 18446744073709551616,ZbY 18446744073709551616,Zb0 18446744073709551616,ZaN 18446744073709551616,Zb3 18446744073709551616,Q1 18446744073709551616,ZeB 18446744073709551616,Zdj 18446744073709551616,Zf5 18446744073709551616,Vz 18446744073709551616,Xo 18446744073709551616,ZeC 18446744073709551616,Zf6 18446744073709551616,Zf8 18446744073709551616,ZaP 18446744073709551616,Q3 18446744073709551616,Zb5 18446744073709551616,Zdk 18446744073709551616,Zgb 18446744073709551616,Zgd 18446744073709551616,ZeF 18446744073709551616,Zb6 18446744073709551616,QC 18446744073709551616,Zb7 18446744073709551616,QE 18446744073709551616,ZeI 18446744073709551616,Zgk 18446744073709551616,ZaQ 18446744073709551616,ZeK 18446744073709551616,X2 18446744073709551616,Zns 18446744073709551616,Zih 18446744073709551616,ZeL 18446744073709551616,ZaR 18446744073709551616,ZeM 18446744073709551616,Zkp 18446744073709551616,Zdn 18446744073709551616,ZeN 18446744073709551616,Zij 18446744073709551616,Zik 18446744073709551616,Q6 18446744073709551616,Vr 18446744073709551616,VR 18446744073709551616,Zgo 18446744073709551616,Zgp 18446744073709551616,Zcd 18446744073709551616,Zce 18446744073709551616,Zdo 18446744073709551616,Vb 18446744073709551616,Vc 18446744073709551616,Wo 18446744073709551616]
def specs:=ZBN.map Fs.fo
def ZCb:List (TypeId×String×FuncId):=[(69, "corsned/tower.look",159),(69, "corsned/tower.prove",160),(78, "corsned/tower.look",176),(78, "corsned/tower.prove",177)]
theorem ZyH:AllOk specs:=Zsg ⟨okN Zes Zi7,okN Xw Vn,okN YY Ww,okN Y8 Y9,okN Zc6 Zht,okN WX WY,okN ZbQ ZfR,okN QY ZdI,okN Zc7 Zhv,okN Qq Qr,okN YZ Wx,okN Y0 Wy,okN YC X0,okN Wz VF,okN ZfX Zau,okN Qs ZcS,okN ZfY Wa,okN ZbT ZbU,okN ZbV ZfZ,okN Qt ZcT,okN Q0 ZdM,okN Zda Zdb,okN Zex Zey,okN Zdc Zhx,okN Zez Zji,okN Zib Zni,okN Zdd Zhy,okN Zde Zhz,okN Wl Qu,okN Zdf ZhC,okN Zdg ZhD,okN ZbX Zf2,okN ZbY ZbZ,okN Zb0 Zb1,okN ZaN ZaO,okN Zb3 Zf4,okN Q1 ZdO,okN ZeB Zjp,okN Zdj Zad,okN Zf5 V3,okN Vz VA,okN Xo Xp,okN ZeC Zbm,okN Zf6 Zf7,okN Zf8 W7,okN ZaP Ze9,okN Q3 ZdQ,okN Zb5 W8,okN Zdk Zdl,okN Zgb Zgc,okN Zgd Zge,okN ZeF ZeG,okN Zb6 Znq,okN QC QD,okN Zb7 Znr,okN QE QF,okN ZeI Zju,okN Zgk Zgl,okN ZaQ Zfe,okN ZeK Zjv,okN X2 V4,okN Zns Znt,okN Zih Znv,okN ZeL Zjx,okN ZaR Zfg,okN ZeM Zjy,okN Zkp Zph,okN Zdn ZhK,okN ZeN ZjA,okN Zij Znx,okN Zik Zny,okN Q6 ZdU,okN Vr ZaZ,okN VR Zcc,okN Zgo Zld,okN Zgp Zle,okN Zcd Zgq,okN Zce Zgr,okN Zdo ZhN,okN Vb Zgs,okN Vc ZaC,okN Wo QJ,trivial⟩
theorem Zsw:Zln Tryz.prog 69 "corsned/tower.look" 159:=fun v args w=>by kernel_rfl
theorem Zsx:Zln Tryz.prog 69 "corsned/tower.prove" 160:=fun v args w=>by kernel_rfl
theorem Zsy:Zln Tryz.prog 78 "corsned/tower.look" 176:=fun v args w=>by kernel_rfl
theorem Zsz:Zln Tryz.prog 78 "corsned/tower.prove" 177:=fun v args w=>by kernel_rfl
theorem ZAg:MtOk Tryz.prog ZCb:=⟨Zsw,Zsx,Zsy,Zsz,trivial⟩
theorem ran:ZBv Tryz.prog his specs ZCb 100 6=some true:=by decide+kernel
def ZBO (F:Nat):Fs Tryz.prog:=⟨6,[],[],[],[⟨.ret,[(0,.v .bool)],[],[.bool]⟩],fun _=>some true⟩
def ZAG:Fs Tryz.prog:=ZBO fuel
theorem ZBP:ZAG.Ok:=ZBw ZyH ZAg ran
end
end Go.Proofs.YtehgcchjaamddaaGreat
end
section
set_option maxRecDepth 4000
namespace Go.Proofs.YtehgcchjaamddaaGreat
open Go Go.Ev
noncomputable section
def ZeO (F:Nat) (a0:(List UInt8)) (a1:(List UInt8)):Option (Bool):=
 let y313:Bool:=(Zel a0).data.toList==(Zel a1).data.toList
 some y313
def ZnB (F:Nat):Fs Tryz.prog:=⟨48,[.v (.sl .u8),.v (.sl .u8)],[],[(.sl .u8),(.sl .u8)],[⟨.ret,[(0,.v .bool)],[],[.bool]⟩],fun x=>ZeO F x.1 x.2⟩
def ZhO:Fs Tryz.prog:=ZnB fuel
theorem ZnC:ZhO.Ok:=Zn (fi:={ hi:={ still:=[4]},lp:=[]}) (specs:={ l:=[]}) (okS trivial) trivial (by decide+kernel) (fun x=>by kernel_rfl)
def XV (F:Nat) (a0:Zf) (s0:Zf):Option ((Bool×Zf)):=
 if (decide (a0.1=s0.1))=true then
  (ZeO F a0.2 s0.2).bind fun o314=>
  some (o314,s0)
 else
 some (false,s0)
def Zfn (F:Nat):Fs Tryz.prog:=⟨47,[.v Zb,.ref 0 []],[.var (.v Zb) true],[Zb,Zb],[⟨.ret,[(0,.v .bool)],[.var (.v Zb) true],[.bool,Zb]⟩],fun x=>XV F x.1 x.2⟩
def ZaD:Fs Tryz.prog:=Zfn fuel
theorem Zfo:ZaD.Ok:=Zn (fi:={ hi:={ still:=[3,11,13]},lp:=[]}) (specs:={ l:=[ZhO]}) (okS ⟨ZnC,trivial⟩) trivial (by decide+kernel) (fun x=>by kernel_rfl)
def WL (F:Nat) (s:((List Zf)×Int×Int×Zf)):Option (((List Zf)×Int×Int×Zf)⊕((Int×Zf)⊕Zf)):=
 if (decide (s.2.2.1 < s.2.1))=true then
  (idx s.1 s.2.2.1).bind fun e312=>
  (XV F e312 s.2.2.2).bind fun o315=>
  if o315.1=true then
   some (.inr (.inl (s.2.2.1,o315.2)))
  else
  some (.inl (s.1,s.2.1,wi (s.2.2.1+1),o315.2))
 else
 some (.inr (.inr s.2.2.2))
def ZdW:Lp:=⟨[(0,.v (.sl Zb)),(1,.fn 47 [.ref 0 []]),(7,.v (.int .i64)),(8,.v (.int .i64))],[.var (.v Zb) true],[(.sl Zb),(.int .i64),(.int .i64),Zb],[⟨.ret,[(4,.v (.int .i64))],[.var (.v Zb) true],[(.int .i64),Zb]⟩,⟨.exit 0,[],[.var (.v Zb) true],[Zb]⟩],Zj (WL fuel) fuel⟩
theorem Zg9:ZdW.Ok Tryz.prog (Zr Tryz.prog 93) (Zp Tryz.prog 93 0):=Zo (fi:={ hi:={ still:=[4,15]},lp:=[]}) (specs:={ l:=[ZaD]}) (okS ⟨Zfo,trivial⟩) trivial (by kernel_rfl) (fun v=>by kernel_rfl)
def Zcf (F:Nat) (a0:(List Zf)) (s0:Zf):Option ((Int×Zf)):=
 (Zj (WL F) F (a0,(a0.length:Int),(0:Int),s0)).bind fun o316=>
 match o316 with
 |.inl o317=>
  some (o317.1,o317.2)
 |.inr o318=>
  some ((-1:Int),o318)
def Zkr (F:Nat):Fs Tryz.prog:=⟨93,[.v (.sl Zb),.fn 47 [.ref 0 []]],[.var (.v Zb) true],[(.sl Zb),Zb],[⟨.ret,[(0,.v (.int .i64))],[.var (.v Zb) true],[(.int .i64),Zb]⟩],fun x=>Zcf F x.1 x.2⟩
def Zfh:Fs Tryz.prog:=Zkr fuel
theorem Zks:Zfh.Ok:=Zn (fi:={ hi:={ still:=[4,15]},lp:=[(0,ZdW)]}) (specs:={ l:=[]}) (okS trivial) ⟨Zg9,trivial⟩ (by decide+kernel) (fun x=>by kernel_rfl)
def QK (F:Nat) (a0:(List Zf)) (s0:Zf):Option ((Bool×Zf)):=
 (Zcf F a0 s0).bind fun o319=>
 some (decide (o319.1 ≥ 0),o319.2)
def Zkt (F:Nat):Fs Tryz.prog:=⟨46,[.v (.sl Zb),.fn 47 [.ref 0 []]],[.var (.v Zb) true],[(.sl Zb),Zb],[⟨.ret,[(0,.v .bool)],[.var (.v Zb) true],[.bool,Zb]⟩],fun x=>QK F x.1 x.2⟩
def Zfi:Fs Tryz.prog:=Zkt fuel
theorem Zku:Zfi.Ok:=Zn (fi:={ hi:={ still:=[4,5,6]},lp:=[]}) (specs:={ l:=[Zfh]}) (okS ⟨Zks,trivial⟩) trivial (by decide+kernel) (fun x=>by kernel_rfl)
def ZP (F:Nat) (a1:Zf) (a2:Int) (s0_0:Int) (s0_1:Int) (s0_2:Unit) (s1:(List Zf)):Option ((Int×Int×Int×Unit×(List Zf))):=
 if ((a1.2.length:Int)==0)=true then
  some ((2:Int),s0_0,s0_1,s0_2,s1)
 else
 if (decide ((a1.2.length:Int) > 8192))=true then
  some ((2:Int),s0_0,s0_1,s0_2,s1)
 else
 if (decide (a2 < s0_0))=true then
  some ((8:Int),s0_0,s0_1,s0_2,s1)
 else
 (QK F s1 a1).bind fun o320=>
 if o320.1=true then
  some ((4:Int),s0_0,s0_1,s0_2,s1)
 else
 if (decide ((s1.length:Int) ≥ s0_1))=true then
  some ((3:Int),s0_0,s0_1,s0_2,s1)
 else
 (XG F o320.2.2).bind fun o321=>
 if (apB s1.length 1 40)=true then
  some ((0:Int),s0_0,s0_1,s0_2,s1++([(o320.2.1,o321)]:List Zf))
 else
 none
def Zha (F:Nat):Fs Tryz.prog:=⟨24,[.ref 0 [],.v Zb,.v (.int .i64)],[.var (.agg [.v (.int .i64),.v (.int .i64),.own 1 Zb,.iface 69 (.v (.st []))]) true,.log Zb 36],[Zb,(.int .i64),(.int .i64),(.int .i64),(.st []),(.sl Zb)],[⟨.ret,[(0,.v (.int .i64))],[.var (.agg [.v (.int .i64),.v (.int .i64),.own 1 Zb,.iface 69 (.v (.st []))]) true,.log Zb 36],[(.int .i64),(.int .i64),(.int .i64),(.st []),(.sl Zb)]⟩],fun x=>ZP F x.1 x.2.1 x.2.2.1 x.2.2.2.1 x.2.2.2.2.1 x.2.2.2.2.2⟩
def Wp:Fs Tryz.prog:=Zha fuel
theorem Vs:Wp.Ok:=Zn (fi:={ hi:={ own:=[47,55],still:=[6,29,30,51]},lp:=[]}) (specs:={ l:=[Zfi,Ze7]}) (okS ⟨Zku,ZdM,trivial⟩) trivial (by decide+kernel) (fun x=>by kernel_rfl)
def Z0 (F:Nat) (s:((List Zf)×(List Zf)×(List Tx)×Bool×Int×Tx×Tx×(List UInt8)×Int×Int×Unit×(List Zf)×Zf)):Option (((List Zf)×(List Zf)×(List Tx)×Bool×Int×Tx×Tx×(List UInt8)×Int×Int×Unit×(List Zf)×Zf)⊕((List Zf)×(List Tx)×Bool×Tx×Tx×(List UInt8)×Int×Int×Unit×(List Zf)×Zf)):=
 if (decide (s.2.2.2.2.1 < (s.1.length:Int)))=true then
  (idx s.1 s.2.2.2.2.1).bind fun e311=>
  (ZP F e311 (1:Int) s.2.2.2.2.2.2.2.2.1 s.2.2.2.2.2.2.2.2.2.1 s.2.2.2.2.2.2.2.2.2.2.1 s.2.2.2.2.2.2.2.2.2.2.2.1).bind fun o322=>
  some (.inl (s.1,s.2.1,s.2.2.1,s.2.2.2.1,wi (s.2.2.2.2.1+1),s.2.2.2.2.2.1,s.2.2.2.2.2.2.1,s.2.2.2.2.2.2.2.1,o322.2.1,o322.2.2.1,o322.2.2.2.1,o322.2.2.2.2,s.2.2.2.2.2.2.2.2.2.2.2.2))
 else
 some (.inr (s.2.1,s.2.2.1,s.2.2.2.1,s.2.2.2.2.2.1,s.2.2.2.2.2.2.1,s.2.2.2.2.2.2.2.1,s.2.2.2.2.2.2.2.2.1,s.2.2.2.2.2.2.2.2.2.1,s.2.2.2.2.2.2.2.2.2.2.1,s.2.2.2.2.2.2.2.2.2.2.2.1,s.2.2.2.2.2.2.2.2.2.2.2.2))
def Vd:Lp:=⟨[(0,.v (.sl Zb)),(1,.v (.sl Zb)),(4,.v (.sl yTx)),(8,.ref 0 []),(9,.ref 1 []),(11,.ref 2 []),(13,.v .bool),(14,.ref 3 []),(15,.ref 5 []),(16,.v (.int .i64))],[.var (.v yTx) true,.var (.v yTx) true,.var (.v (.arr 32 .u8)) true,.var (.agg [.v (.int .i64),.v (.int .i64),.own 4 Zb,.iface 69 (.v (.st []))]) true,.log Zb 36,.var (.v Zb) true],[(.sl Zb),(.sl Zb),(.sl yTx),.bool,(.int .i64),yTx,yTx,(.arr 32 .u8),(.int .i64),(.int .i64),(.st []),(.sl Zb),Zb],[⟨.exit 0,[(1,.v (.sl Zb)),(4,.v (.sl yTx)),(8,.ref 0 []),(9,.ref 1 []),(11,.ref 2 []),(13,.v .bool),(14,.ref 3 []),(15,.ref 5 [])],[.var (.v yTx) true,.var (.v yTx) true,.var (.v (.arr 32 .u8)) true,.var (.agg [.v (.int .i64),.v (.int .i64),.own 4 Zb,.iface 69 (.v (.st []))]) true,.log Zb 36,.var (.v Zb) true],[(.sl Zb),(.sl yTx),.bool,yTx,yTx,(.arr 32 .u8),(.int .i64),(.int .i64),(.st []),(.sl Zb),Zb]⟩],Zj (Z0 fuel) fuel⟩
theorem ZaE:Vd.Ok Tryz.prog (Zr Tryz.prog 4) (Zp Tryz.prog 4 0):=Zo (fi:={ hi:={ own:=[101,103,106],still:=[12,39,44,49,58,59,60,62,63,73,77,79,80,88,92,100,106,119,120,124,125,127,129,130,143,144]},lp:=[]}) (specs:={ l:=[Wp]}) (okS ⟨Vs,trivial⟩) trivial (by kernel_rfl) (fun v=>by kernel_rfl)
def Z1 (F:Nat) (s:((List Zf)×(List Tx)×Bool×Int×Int×Tx×Tx×(List UInt8)×Int×Int×Unit×(List Zf)×Zf)):Option (((List Zf)×(List Tx)×Bool×Int×Int×Tx×Tx×(List UInt8)×Int×Int×Unit×(List Zf)×Zf)⊕((List Tx)×Bool×Int×Tx×Tx×(List UInt8)×Int×Int×Unit×(List Zf)×Zf)):=
 if (decide (s.2.2.2.2.1 < (s.1.length:Int)))=true then
  (idx s.1 s.2.2.2.2.1).bind fun e325=>
  (ZP F e325 (1:Int) s.2.2.2.2.2.2.2.2.1 s.2.2.2.2.2.2.2.2.2.1 s.2.2.2.2.2.2.2.2.2.2.1 s.2.2.2.2.2.2.2.2.2.2.2.1).bind fun o326=>
  some (.inl (s.1,s.2.1,s.2.2.1,s.2.2.2.1,wi (s.2.2.2.2.1+1),s.2.2.2.2.2.1,s.2.2.2.2.2.2.1,s.2.2.2.2.2.2.2.1,o326.2.1,o326.2.2.1,o326.2.2.2.1,o326.2.2.2.2,s.2.2.2.2.2.2.2.2.2.2.2.2))
 else
 some (.inr (s.2.1,s.2.2.1,s.2.2.2.1,s.2.2.2.2.2.1,s.2.2.2.2.2.2.1,s.2.2.2.2.2.2.2.1,s.2.2.2.2.2.2.2.2.1,s.2.2.2.2.2.2.2.2.2.1,s.2.2.2.2.2.2.2.2.2.2.1,s.2.2.2.2.2.2.2.2.2.2.2.1,s.2.2.2.2.2.2.2.2.2.2.2.2))
def Ve:Lp:=⟨[(1,.v (.sl Zb)),(4,.v (.sl yTx)),(8,.ref 0 []),(9,.ref 1 []),(11,.ref 2 []),(13,.v .bool),(14,.ref 3 []),(15,.ref 5 []),(17,.v (.int .i64)),(18,.v (.int .i64))],[.var (.v yTx) true,.var (.v yTx) true,.var (.v (.arr 32 .u8)) true,.var (.agg [.v (.int .i64),.v (.int .i64),.own 4 Zb,.iface 69 (.v (.st []))]) true,.log Zb 36,.var (.v Zb) true],[(.sl Zb),(.sl yTx),.bool,(.int .i64),(.int .i64),yTx,yTx,(.arr 32 .u8),(.int .i64),(.int .i64),(.st []),(.sl Zb),Zb],[⟨.exit 2,[(4,.v (.sl yTx)),(8,.ref 0 []),(9,.ref 1 []),(11,.ref 2 []),(13,.v .bool),(14,.ref 3 []),(15,.ref 5 []),(17,.v (.int .i64))],[.var (.v yTx) true,.var (.v yTx) true,.var (.v (.arr 32 .u8)) true,.var (.agg [.v (.int .i64),.v (.int .i64),.own 4 Zb,.iface 69 (.v (.st []))]) true,.log Zb 36,.var (.v Zb) true],[(.sl yTx),.bool,(.int .i64),yTx,yTx,(.arr 32 .u8),(.int .i64),(.int .i64),(.st []),(.sl Zb),Zb]⟩],Zj (Z1 fuel) fuel⟩
theorem ZaF:Ve.Ok Tryz.prog (Zr Tryz.prog 4) (Zp Tryz.prog 4 1):=Zo (fi:={ hi:={ own:=[101,103,106],still:=[12,39,44,49,58,59,60,62,63,73,77,79,80,88,92,100,106,119,120,124,125,127,129,130,143,144]},lp:=[]}) (specs:={ l:=[Wp]}) (okS ⟨Vs,trivial⟩) trivial (by kernel_rfl) (fun v=>by kernel_rfl)
theorem Zt4:Zln Tryz.prog 69 "corsned/tower.look" 159:=fun v args w=>by kernel_rfl
noncomputable def VC (s:((List Tx)×Int×Int×Int×Int×Unit×(List Zf)×Unit×(List ((List UInt8)×(List Zf))))):((List Tx)×Int×Int×Unit×(List Zf)×Unit×(List ((List UInt8)×(List Zf)))):=(s.1,s.2.2.2.1,s.2.2.2.2.1,s.2.2.2.2.2.1,s.2.2.2.2.2.2.1,s.2.2.2.2.2.2.2.1,(@Zbf (List UInt8) Zf (Ty.deq (.arr 16 .u8)) (fun p:Zf=>p.1) s.2.2.2.2.2.2.1))
noncomputable def Xt (s:((List Tx)×Int×Int×Int×Int×Unit×(List Zf)×Unit×(List ((List UInt8)×(List Zf))))):Option ((List Tx)×Int×Int×Unit×(List Zf)×Unit×(List ((List UInt8)×(List Zf)))):=@Zyv (List UInt8) Zf ((List Tx)×Int×Int×Unit×(List Zf)×Unit×(List ((List UInt8)×(List Zf)))) s.2.2.1 s.2.1 s.2.2.2.2.2.2.1 s.2.2.2.2.2.2.2.2 40 (VC s)
noncomputable def YP:Lp:=⟨[(2,.v (.sl yTx)),(7,.mp 3),(24,.own 1 Zb),(25,.v (.int .i64)),(26,.v (.int .i64))],[.var (.agg [.v (.int .i64),.v (.int .i64),.own 1 Zb,.iface 69 (.v (.st []))]) true,.log Zb 36,.var (.v (.st [])) true,.map 198 (.arr 16 .u8) (.sl Zb)],[(.sl yTx),(.int .i64),(.int .i64),(.int .i64),(.int .i64),(.st []),(.sl Zb),(.st []),(Zfl (.arr 16 .u8) (.sl Zb))],[⟨.exit 0,[(2,.v (.sl yTx)),(7,.mp 3)],[.var (.agg [.v (.int .i64),.v (.int .i64),.own 1 Zb,.iface 69 (.v (.st []))]) true,.log Zb 36,.var (.v (.st [])) true,.map 198 (.arr 16 .u8) (.sl Zb)],[(.sl yTx),(.int .i64),(.int .i64),(.st []),(.sl Zb),(.st []),(Zfl (.arr 16 .u8) (.sl Zb))]⟩],Xt⟩
noncomputable def Zl:Code:=Zp Tryz.prog 159 0
noncomputable def X4 (s:((List Tx)×Int×Int×Int×Int×Unit×(List Zf)×Unit×(List ((List UInt8)×(List Zf))))):List TD×List TEnt:=(X7 83 YP.sl YP.es (ofD YP.I s)).getD ([],[])
noncomputable def Wq (s:((List Tx)×Int×Int×Int×Int×Unit×(List Zf)×Unit×(List ((List UInt8)×(List Zf))))):List TEnt:=(X4 s).2.set 3 .gone
noncomputable def Yk:HI:={ own:=[10,33,37,76,79],still:=[6,46,49,52,61,62,64,71]}
noncomputable def X5 (s:((List Tx)×Int×Int×Int×Int×Unit×(List Zf)×Unit×(List ((List UInt8)×(List Zf))))) (z:Int):List TD:=((Zod Tryz.prog Yk (gA Zl) (gA Zl).toList (((X4 s).1.set 7 .junk).set 26 (.p (.v (.int .i64) z))) (Wq s)).getD ([],[])).1
noncomputable def X6 (s:((List Tx)×Int×Int×Int×Int×Unit×(List Zf)×Unit×(List ((List UInt8)×(List Zf))))) (z:Int) (p:Zf):List TD:=(((X5 s z).set 28 (.elem (.v Zb p))).set 29 (.p (.v Zb p))).set 9 (.ref 4 [])
noncomputable def YV (s:((List Tx)×Int×Int×Int×Int×Unit×(List Zf)×Unit×(List ((List UInt8)×(List Zf))))) (z:Int) (p:Zf):List TEnt:=Wq s++[.var (.p (.v Zb p)) true]
noncomputable def V5 (s:((List Tx)×Int×Int×Int×Int×Unit×(List Zf)×Unit×(List ((List UInt8)×(List Zf))))) (z:Int) (p:Zf):List TD:=((Zod Tryz.prog Yk (gC Zl) (((gC Zl).toList.take 5).drop 1) ((X6 s z p).set 30 .junk) (YV s z p)).getD ([],[])).1
noncomputable def ZdX (s:((List Tx)×Int×Int×Int×Int×Unit×(List Zf)×Unit×(List ((List UInt8)×(List Zf))))) (z:Int) (p:Zf):List TD:=((Zod Tryz.prog Yk (gD Zl) (gD Zl).toList (((((V5 s z p).set 36 .junk).set 33 .junk).set 37 .junk).set 38 .junk) (YV s z p)).getD ([],[])).1
theorem ZdY:YP.Ok Tryz.prog (Zr Tryz.prog 159) (Zp Tryz.prog 159 0):=
 ZBF (P:=Tryz.prog) (N:=83) 3 4 5 6 0 1 27 7 30 26 36 33 37 38 3 4 (gA Zl) (gB Zl) (gC Zl) (gD Zl) (by kernel_rfl) (K:=(.arr 16 .u8)) (T:=Zb) (tid:=198) (e:=36) (kt:=31) (t:=198) (tt:=43) (u:=43) (t5:=198) (et:=43) Yk [2,24,25,26] [2] X4
  (fun s:((List Tx)×Int×Int×Int×Int×Unit×(List Zf)×Unit×(List ((List UInt8)×(List Zf))))=>s.2.2.2.2.2.2.1) (fun p:Zf=>p.1) (fun s:((List Tx)×Int×Int×Int×Int×Unit×(List Zf)×Unit×(List ((List UInt8)×(List Zf))))=>s.2.2.1) (fun s:((List Tx)×Int×Int×Int×Int×Unit×(List Zf)×Unit×(List ((List UInt8)×(List Zf))))=>s.2.1) (fun s:((List Tx)×Int×Int×Int×Int×Unit×(List Zf)×Unit×(List ((List UInt8)×(List Zf))))=>s.2.2.2.2.2.2.2.2) VC (Znd (gC Zl) 5) (Znd (gC Zl) 6) (Znd (gC Zl) 7) (Znd (gC Zl) 8) (Znd (gC Zl) 9) (.tmp 32) (.tmp 35) (ZBD (Znd (gC Zl) 7)) 17 (ZBE Tryz.prog 36) X5 X6 V5 ZdX YV
  (fun s=>by kernel_rfl) (fun s=>by kernel_rfl) (fun s=>by kernel_rfl) (fun s=>⟨by kernel_rfl,by kernel_rfl,by kernel_rfl,by kernel_rfl,by kernel_rfl⟩) (fun s=>⟨by kernel_rfl,by kernel_rfl⟩) (fun s z=>by kernel_rfl) (fun s z=>by kernel_rfl)
  (fun s j p hp=>by
  have h1:Zod Tryz.prog Yk (gB Zl) (gB Zl).toList (X5 s (j:Int)) (Wq s)=(idx (s.2.2.2.2.2.2.1) (j:Int)).bind fun p=>some (X6 s (j:Int) p,YV s (j:Int) p):=by kernel_rfl
  exact h1.trans (by rw [ZBC hp];rfl))
  (fun s z p=>by kernel_rfl) (fun s z p=>by kernel_rfl) (fun s z p=>by kernel_rfl) (fun s z p=>by kernel_rfl) (fun s z p=>⟨by kernel_rfl,by kernel_rfl⟩) (by kernel_rfl) (by kernel_rfl) ⟨by kernel_rfl,by kernel_rfl,by kernel_rfl⟩ (by kernel_rfl) (by decide)
  ⟨by kernel_rfl,by kernel_rfl,by kernel_rfl,by kernel_rfl,by kernel_rfl,by kernel_rfl,by kernel_rfl,by kernel_rfl,by kernel_rfl,by kernel_rfl,by kernel_rfl,by kernel_rfl,by kernel_rfl,by kernel_rfl,by kernel_rfl,by kernel_rfl,by kernel_rfl,by kernel_rfl,by kernel_rfl,by kernel_rfl,by kernel_rfl,by kernel_rfl,by kernel_rfl⟩ ⟨by kernel_rfl,by kernel_rfl,by kernel_rfl,by kernel_rfl,by kernel_rfl⟩ (by kernel_rfl) (by kernel_rfl) (by decide)
def Yc (F:Nat) (a0:(List UInt8)) (a1:(List UInt8)):Option (((List UInt8)×Bool)):=
 if (decide ((wi ((a1.length:Int) - 8)) < 0))=true then
  some (([]:List UInt8),false)
 else
 if (decide ((wi ((a1.length:Int) - 8)) > 65536))=true then
  some (([]:List UInt8),false)
 else
 if (Vw a1.length none (some (wi ((a1.length:Int) - 8))))=true then
  (ZdT F a0 (a1.take ((wi ((a1.length:Int) - 8)).toNat))).bind fun o336=>
  if (Vw a1.length (some (wi ((a1.length:Int) - 8))) none)=true then
   if (decide (8≤(a1.drop ((wi ((a1.length:Int) - 8)).toNat)).length))=true then
    let y337:Bool:= !(decide (o336=(a1.drop ((wi ((a1.length:Int) - 8)).toNat)).take 8))
    if y337=true then
     some (([]:List UInt8),false)
    else
    if (Vw a1.length none (some (wi ((a1.length:Int) - 8))))=true then
     (ZeH F a0 (a1.take ((wi ((a1.length:Int) - 8)).toNat))).bind fun o338=>
     some (o338,true)
    else
    none
   else
   none
  else
  none
 else
 none
def ZqN (F:Nat):Fs Tryz.prog:=⟨161,[.v (.arr 32 .u8),.v (.sl .u8)],[],[(.arr 32 .u8),(.sl .u8)],[⟨.ret,[(0,.tup [.v (.sl .u8),.v .bool])],[],[(.sl .u8),.bool]⟩],fun x=>Yc F x.1 x.2⟩
def Zlg:Fs Tryz.prog:=ZqN fuel
theorem ZqO:Zlg.Ok:=Zn (fi:={ hi:={ still:=[4,5,17,20,29,32]},lp:=[]}) (specs:={ l:=[Zif,Zk8]}) (okS ⟨Zgl,Zju,trivial⟩) trivial (by decide+kernel) (fun x=>by kernel_rfl)
abbrev Zd:Ty:=(.st [(.sl .u8),.bool])
abbrev Ze:Type:=((List UInt8)×Bool)
abbrev Ze.b (x:Ze):(List UInt8):=x.1
abbrev Ze.no (x:Ze):Bool:=x.2
def Zcg (F:Nat) (a0:(List UInt8)):Option (Ze):=
 (ZO F a0).bind fun o340=>
 some (o340,false)
def ZqP (F:Nat):Fs Tryz.prog:=⟨163,[.v (.sl .u8)],[],[(.sl .u8)],[⟨.ret,[(0,.ref 0 [])],[.var (.v Zd) true],[Zd]⟩],fun x=>Zcg F x⟩
def Zgt:Fs Tryz.prog:=ZqP fuel
theorem ZjG:Zgt.Ok:=Zn (fi:={ hi:={ still:=[2,3]},lp:=[]}) (specs:={ l:=[Xm]}) (okS ⟨Y9,trivial⟩) trivial (by decide+kernel) (fun x=>by kernel_rfl)
def YF (F:Nat) (s0:Int) (s2:Ze):Option ((Bool×Int×Ze)):=
 if (decide (s0 ≥ (s2.1.length:Int)))=true then
  some (true,s0,s2)
 else
 if (decide (s0 > 8))=true then
  some (true,s0,s2)
 else
 if (decide (s0 > 0))=true then
  (idx s2.1 s0).bind fun e342=>
  some (e342==0,s0,s2)
 else
 some (false,s0,s2)
def Zgu (F:Nat):Fs Tryz.prog:=⟨172,[.ref 0 [],.ref 1 []],[.var (.v (.int .i64)) true,.var (.ref 2 []) true,.var (.v Zd) true],[(.int .i64),Zd],[⟨.ret,[(0,.v .bool)],[.var (.v (.int .i64)) true,.var (.ref 2 []) true,.var (.v Zd) true],[.bool,(.int .i64),Zd]⟩],fun x=>YF F x.1 x.2⟩
def Za1:Fs Tryz.prog:=Zgu fuel
theorem Zgv:Za1.Ok:=Zn (fi:={ hi:={ still:=[2]},lp:=[]}) (specs:={ l:=[]}) (okS trivial) trivial (by decide+kernel) (fun x=>by kernel_rfl)
def XK (F:Nat) (s0:Ze):Option (Ze):=
 some (([]:List UInt8),true)
def Zhb (F:Nat):Fs Tryz.prog:=⟨173,[.ref 0 []],[.var (.v Zd) true],[Zd],[⟨.ret,[(0,.tup [])],[.var (.v Zd) true],[Zd]⟩],fun x=>XK F x⟩
def VS:Fs Tryz.prog:=Zhb fuel
theorem Za2:VS.Ok:=Zn (fi:={ hi:={},lp:=[]}) (specs:={ l:=[]}) (okS trivial) trivial (by decide+kernel) (fun x=>by kernel_rfl)
def Y3 (F:Nat) (s:(Int×Ze×Int)):Option ((Int×Ze×Int)⊕((Int×Ze×Int)⊕(Int×Ze×Int))):=
 (YF F s.2.2 s.2.1).bind fun o343=>
 if o343.1=true then
  (XK F o343.2.2).bind fun o344=>
  some (.inr (.inl ((0:Int),o344,o343.2.1)))
 else
 (idx o343.2.2.1 o343.2.1).bind fun e345=>
 if (decide (0≤wi (7*o343.2.1)))=true then
  let y346:Int:=wi (((e345 % 128).toNat:Int)*2 ^ (min (wi (7*o343.2.1)).toNat 64))
  if (decide (e345 < 128))=true then
   some (.inr (.inr (bits .or .i64 s.1 y346,o343.2.2,wi (o343.2.1+1))))
  else
  some (.inl (bits .or .i64 s.1 y346,o343.2.2,wi (o343.2.1+1)))
 else
 none
def Zch:Lp:=⟨[(1,.ref 1 []),(3,.v (.int .i64)),(4,.ref 2 []),(5,.fn 172 [.ref 2 [],.ref 1 []])],[.var (.v Zd) true,.var (.ref 0 []) true,.var (.v (.int .i64)) true],[(.int .i64),Zd,(.int .i64)],[⟨.ret,[(2,.v (.int .i64))],[.var (.v Zd) true,.var (.ref 0 []) true,.var (.v (.int .i64)) true],[(.int .i64),Zd,(.int .i64)]⟩,⟨.exit 0,[(1,.ref 1 []),(3,.v (.int .i64)),(4,.ref 2 [])],[.var (.v Zd) true,.var (.ref 0 []) true,.var (.v (.int .i64)) true],[(.int .i64),Zd,(.int .i64)]⟩],Zj (Y3 fuel) fuel⟩
theorem Zfp:Zch.Ok Tryz.prog (Zr Tryz.prog 165) (Zp Tryz.prog 165 0):=Zo (fi:={ hi:={ still:=[2,10]},lp:=[]}) (specs:={ l:=[Za1,VS]}) (okS ⟨Zgv,Za2,trivial⟩) trivial (by kernel_rfl) (fun v=>by kernel_rfl)
def ZD (F:Nat) (s0:Ze):Option ((Int×Ze)):=
 (Zj (Y3 F) F ((0:Int),s0,(0:Int))).bind fun o347=>
 match o347 with
 |.inl o348=>
  some (o348.1,o348.2.1)
 |.inr o349=>
  if (Vw o349.2.1.1.length (some o349.2.2) none)=true then
   some (o349.1,(o349.2.1.1.drop o349.2.2.toNat,o349.2.1.2))
  else
  none
def Zin (F:Nat):Fs Tryz.prog:=⟨165,[.ref 0 []],[.var (.v Zd) true],[Zd],[⟨.ret,[(0,.v (.int .i64))],[.var (.v Zd) true],[(.int .i64),Zd]⟩],fun x=>ZD F x⟩
def Z2:Fs Tryz.prog:=Zin fuel
theorem Z8:Z2.Ok:=Zn (fi:={ hi:={ still:=[2,10]},lp:=[(0,Zch)]}) (specs:={ l:=[]}) (okS trivial) ⟨Zfp,trivial⟩ (by decide+kernel) (fun x=>by kernel_rfl)
def Q7 (F:Nat) (a0:Int) (s1:Ze):Option ((Int×Ze)):=
 (ZD F s1).bind fun o350=>
 if (decide (o350.1 > a0))=true then
  some ((-1:Int),o350.2)
 else
 some (o350.1,o350.2)
def ZqQ (F:Nat):Fs Tryz.prog:=⟨164,[.v (.int .i64),.ref 0 []],[.var (.ref 1 []) true,.var (.v Zd) true],[(.int .i64),Zd],[⟨.ret,[(0,.v (.int .i64))],[.var (.ref 1 []) true,.var (.v Zd) true],[(.int .i64),Zd]⟩],fun x=>Q7 F x.1 x.2⟩
def Zgw:Fs Tryz.prog:=ZqQ fuel
theorem ZjH:Zgw.Ok:=Zn (fi:={ hi:={ still:=[3,5]},lp:=[]}) (specs:={ l:=[Z2]}) (okS ⟨Z8,trivial⟩) trivial (by decide+kernel) (fun x=>by kernel_rfl)
def YW (F:Nat) (a1:Int) (s0:Ze):Option (((List UInt8)×Ze)):=
 if s0.2=true then
  (XK F s0).bind fun o352=>
  some (([]:List UInt8),o352)
 else
 if (decide (a1 > (s0.1.length:Int)))=true then
  (XK F s0).bind fun o353=>
  some (([]:List UInt8),o353)
 else
 if (Vw s0.1.length none (some a1))=true then
  (ZO F (s0.1.take a1.toNat)).bind fun o354=>
  if (Vw s0.1.length (some a1) none)=true then
   some (o354,(s0.1.drop a1.toNat,s0.2))
  else
  none
 else
 none
def Zhc (F:Nat):Fs Tryz.prog:=⟨174,[.ref 0 [],.v (.int .i64)],[.var (.v Zd) true],[(.int .i64),Zd],[⟨.ret,[(0,.v (.sl .u8))],[.var (.v Zd) true],[(.sl .u8),Zd]⟩],fun x=>YW F x.1 x.2⟩
def Wr:Fs Tryz.prog:=Zhc fuel
theorem Vt:Wr.Ok:=Zn (fi:={ hi:={ still:=[4,19,26]},lp:=[]}) (specs:={ l:=[VS,Xm]}) (okS ⟨Za2,Y9,trivial⟩) trivial (by decide+kernel) (fun x=>by kernel_rfl)
def WM (F:Nat) (s0:Ze):Option (((List UInt8)×Ze)):=
 (YW F (32:Int) s0).bind fun o355=>
 if (decide (o355.1.length≤32)&&decide (0+32≤32))=true then
  let y356:(List UInt8):=([0,0,0,0,0,0,0,0,0,0,0,0,0,0,0,0,0,0,0,0,0,0,0,0,0,0,0,0,0,0,0,0]:List UInt8).take 0++(o355.1++([0,0,0,0,0,0,0,0,0,0,0,0,0,0,0,0,0,0,0,0,0,0,0,0,0,0,0,0,0,0,0,0]:List UInt8).drop (0+o355.1.length))
  some (y356,o355.2)
 else
 none
def Zhd (F:Nat):Fs Tryz.prog:=⟨166,[.ref 0 []],[.var (.v Zd) true],[Zd],[⟨.ret,[(0,.v (.arr 32 .u8))],[.var (.v Zd) true],[(.arr 32 .u8),Zd]⟩],fun x=>WM F x⟩
def Zci:Fs Tryz.prog:=Zhd fuel
theorem Zhe:Zci.Ok:=Zn (fi:={ hi:={ still:=[5]},lp:=[]}) (specs:={ l:=[Wr]}) (okS ⟨Vt,trivial⟩) trivial (by decide+kernel) (fun x=>by kernel_rfl)
def XL (F:Nat) (s:(Int×Int×Int×Tx×Int×(List Out)×(List Unit)×(List In)×(List In)×Ze)):Option ((Int×Int×Int×Tx×Int×(List Out)×(List Unit)×(List In)×(List In)×Ze)⊕(Int×Tx×Int×(List Out)×(List Unit)×(List In)×(List In)×Ze)):=
 if (decide (s.2.2.1 < s.2.1))=true then
  (WM F s.2.2.2.2.2.2.2.2.2).bind fun o357=>
  (ZD F o357.2).bind fun o358=>
  if (apB (s.2.2.2.2.2.2.2.1.length+s.2.2.2.2.2.2.2.2.1.length) 1 80)=true then
   let y359:(List In):=s.2.2.2.2.2.2.2.2.1++([((o357.1,o358.1),(0,[],0))]:List In)
   some (.inl (s.1,s.2.1,wi (s.2.2.1+1),s.2.2.2.1,s.2.2.2.2.1,s.2.2.2.2.2.1,()::s.2.2.2.2.2.2.1,s.2.2.2.2.2.2.2.1,y359,o358.2))
  else
  none
 else
 some (.inr (s.1,s.2.2.2.1,s.2.2.2.2.1,s.2.2.2.2.2.1,s.2.2.2.2.2.2.1,s.2.2.2.2.2.2.2.1,s.2.2.2.2.2.2.2.2.1,s.2.2.2.2.2.2.2.2.2))
def ZnD:Lp:=⟨[(2,.ref 0 []),(4,.ref 1 []),(5,.ref 5 []),(6,.fn 164 [.ref 5 []]),(7,.v (.int .i64)),(20,.v (.int .i64)),(21,.v (.int .i64))],[.var (.v yTx) true,.var (.agg [.rw 3,.own 2 YE,.v (.int .i64)]) true,.log YE 104,.rowN yIn [1,1] true 98,.var (.v Zd) true,.var (.ref 4 []) true],[(.int .i64),(.int .i64),(.int .i64),yTx,(.int .i64),(.sl YE),(.sl (.st [])),(.sl yIn),(.sl yIn),Zd],[⟨.exit 0,[(2,.ref 0 []),(4,.ref 1 []),(5,.ref 5 []),(6,.fn 164 [.ref 5 []]),(7,.v (.int .i64))],[.var (.v yTx) true,.var (.agg [.rw 3,.own 2 YE,.v (.int .i64)]) true,.log YE 104,.rowN yIn [1,1] true 98,.var (.v Zd) true,.var (.ref 4 []) true],[(.int .i64),yTx,(.int .i64),(.sl YE),(.sl (.st [])),(.sl yIn),(.sl yIn),Zd]⟩],Zj (XL fuel) fuel⟩
theorem Zoj:ZnD.Ok Tryz.prog (Zr Tryz.prog 162) (Zp Tryz.prog 162 0):=Zo (fi:={ hi:={ own:=[24,32,55,58,92,99],still:=[3,15,25,27,40,44,45,61,76,93,95,104,116,121,126],rowt:=[24,32,71],ghost:=[(4,[([1],YE,104)])],lits:=[31]},lp:=[]}) (specs:={ l:=[Zci,Z2]}) (okS ⟨Zhe,Z8,trivial⟩) trivial (by kernel_rfl) (fun v=>by kernel_rfl)
def Ws (F:Nat) (s0:Ze):Option (((List UInt8)×Ze)):=
 (ZD F s0).bind fun o363=>
 if o363.2.2=true then
  some (([]:List UInt8),o363.2)
 else
 (YW F o363.1 o363.2).bind fun o364=>
 some (o364.1,o364.2)
def Zgx (F:Nat):Fs Tryz.prog:=⟨168,[.ref 0 []],[.var (.v Zd) true],[Zd],[⟨.ret,[(0,.v (.sl .u8))],[.var (.v Zd) true],[(.sl .u8),Zd]⟩],fun x=>Ws F x⟩
def Za3:Fs Tryz.prog:=Zgx fuel
theorem Zgy:Za3.Ok:=Zn (fi:={ hi:={ still:=[2,4,10,11]},lp:=[]}) (specs:={ l:=[Z2,Wr]}) (okS ⟨Z8,Vt,trivial⟩) trivial (by decide+kernel) (fun x=>by kernel_rfl)
def XW (F:Nat) (s:(UInt64×(List UInt8)×Int×Int×Ze)):Option ((UInt64×(List UInt8)×Int×Int×Ze)⊕(UInt64×Ze)):=
 if (decide (s.2.2.2.1 < s.2.2.1))=true then
  (idx s.2.1 s.2.2.2.1).bind fun e370=>
  some (.inl ((ZaV s.1 8)|||(UInt64.ofNat e370.toNat),s.2.1,s.2.2.1,wi (s.2.2.2.1+1),s.2.2.2.2))
 else
 some (.inr (s.1,s.2.2.2.2))
def Zcj:Lp:=⟨[(3,.v .u64),(7,.v (.sl .u8)),(8,.v (.int .i64)),(9,.v (.int .i64))],[.var (.v Zd) true],[.u64,(.sl .u8),(.int .i64),(.int .i64),Zd],[⟨.exit 0,[(3,.v .u64)],[.var (.v Zd) true],[.u64,Zd]⟩],Zj (XW fuel) fuel⟩
theorem Zfq:Zcj.Ok Tryz.prog (Zr Tryz.prog 169) (Zp Tryz.prog 169 0):=Zo (fi:={ hi:={ still:=[2,6]},lp:=[]}) (specs:={ l:=[]}) (okS trivial) trivial (by kernel_rfl) (fun v=>by kernel_rfl)
def Yl (F:Nat) (s0:Ze):Option ((UInt64×Ze)):=
 (YW F (8:Int) s0).bind fun o369=>
 (Zj (XW F) F ((0:UInt64),o369.1,(o369.1.length:Int),(0:Int),o369.2)).bind fun o371=>
 some (o371.1,o371.2)
def Zio (F:Nat):Fs Tryz.prog:=⟨169,[.ref 0 []],[.var (.v Zd) true],[Zd],[⟨.ret,[(0,.v .u64)],[.var (.v Zd) true],[.u64,Zd]⟩],fun x=>Yl F x⟩
def XM:Fs Tryz.prog:=Zio fuel
theorem Wt:XM.Ok:=Zn (fi:={ hi:={ still:=[2,6]},lp:=[(0,Zcj)]}) (specs:={ l:=[Wr]}) (okS ⟨Vt,trivial⟩) ⟨Zfq,trivial⟩ (by decide+kernel) (fun x=>by kernel_rfl)
def ZF (F:Nat) (s:((List UInt8)×(List UInt8)×Int×Int)):Option (((List UInt8)×(List UInt8)×Int×Int)⊕(Bool⊕Unit)):=
 if (decide (s.2.2.2 < s.2.2.1))=true then
  (idx s.1 s.2.2.2).bind fun e382=>
  (idx s.2.1 s.2.2.2).bind fun e383=>
  if (e382 !=e383)=true then
   some (.inr (.inl false))
  else
  some (.inl (s.1,s.2.1,s.2.2.1,wi (s.2.2.2+1)))
 else
 some (.inr (.inr ()))
def Vo:Lp:=⟨[(0,.v (.sl .u8)),(1,.v (.sl .u8)),(12,.v (.int .i64)),(13,.v (.int .i64))],[],[(.sl .u8),(.sl .u8),(.int .i64),(.int .i64)],[⟨.ret,[(4,.v .bool)],[],[.bool]⟩,⟨.exit 0,[],[],[]⟩],Zj (ZF fuel) fuel⟩
theorem ZaS:Vo.Ok Tryz.prog (Zr Tryz.prog 175) (Zp Tryz.prog 175 0):=Zo (fi:={ hi:={ still:=[4]},lp:=[]}) (specs:={ l:=[]}) (okS trivial) trivial (by kernel_rfl) (fun v=>by kernel_rfl)
def Z4 (F:Nat) (a0:(List UInt8)) (a1:(List UInt8)):Option (Bool):=
 if ((a0.length:Int)!=(a1.length:Int))=true then
  some false
 else
 (Zj (ZF F) F (a0,a1,(a0.length:Int),(0:Int))).bind fun o384=>
 match o384 with
 |.inl o385=>
  some o385
 |.inr o386=>
  some true
def Zcs (F:Nat):Fs Tryz.prog:=⟨175,[.v (.sl .u8),.v (.sl .u8)],[],[(.sl .u8),(.sl .u8)],[⟨.ret,[(0,.v .bool)],[],[.bool]⟩],fun x=>Z4 F x.1 x.2⟩
def VD:Fs Tryz.prog:=Zcs fuel
theorem Zct:VD.Ok:=Zn (fi:={ hi:={ still:=[4]},lp:=[(0,Vo)]}) (specs:={ l:=[]}) (okS trivial) ⟨ZaS,trivial⟩ (by decide+kernel) (fun x=>by kernel_rfl)
def YL (F:Nat) (s:((List UInt8)×Int×Int×Int×Int×Xn×Ze×(List ZT)×Int×Int×UInt64×(List UInt64))):Option (((List UInt8)×Int×Int×Int×Int×Xn×Ze×(List ZT)×Int×Int×UInt64×(List UInt64))⊕((List UInt8)×Int×Int×Xn×Ze×(List ZT)×Int×Int×UInt64×(List UInt64))):=
 if (decide (s.2.2.2.2.1 < s.2.2.2.1))=true then
  (Yl F s.2.2.2.2.2.2.1).bind fun o391=>
  if (apB s.2.2.2.2.2.2.2.2.2.2.2.length 1 8)=true then
   let y392:(List UInt64):=s.2.2.2.2.2.2.2.2.2.2.2++([o391.1]:List UInt64)
   some (.inl (s.1,s.2.1,s.2.2.1,s.2.2.2.1,wi (s.2.2.2.2.1+1),s.2.2.2.2.2.1,o391.2,s.2.2.2.2.2.2.2.1,s.2.2.2.2.2.2.2.2.1,s.2.2.2.2.2.2.2.2.2.1,s.2.2.2.2.2.2.2.2.2.2.1,y392))
  else
  none
 else
 some (.inr (s.1,s.2.1,s.2.2.1,s.2.2.2.2.2.1,s.2.2.2.2.2.2.1,s.2.2.2.2.2.2.2.1,s.2.2.2.2.2.2.2.2.1,s.2.2.2.2.2.2.2.2.2.1,s.2.2.2.2.2.2.2.2.2.2.1,s.2.2.2.2.2.2.2.2.2.2.2))
def ZjI:Lp:=⟨[(0,.v (.sl .u8)),(2,.ref 0 []),(4,.ref 1 []),(5,.ref 2 []),(6,.v (.int .i64)),(7,.v (.int .i64)),(8,.ref 4 []),(27,.v (.int .i64)),(28,.v (.int .i64))],[.var (.v YS) true,.var (.v Zd) true,.var (.agg [.own 3 Zu]) true,.log Zu 118,.var (.agg [.own 5 .u64,.v (.int .i64),.v (.int .i64),.v .u64]) true,.log .u64 109],[(.sl .u8),(.int .i64),(.int .i64),(.int .i64),(.int .i64),YS,Zd,(.sl Zu),(.int .i64),(.int .i64),.u64,(.sl .u64)],[⟨.exit 2,[(0,.v (.sl .u8)),(2,.ref 0 []),(4,.ref 1 []),(5,.ref 2 []),(6,.v (.int .i64)),(7,.v (.int .i64)),(8,.ref 4 [])],[.var (.v YS) true,.var (.v Zd) true,.var (.agg [.own 3 Zu]) true,.log Zu 118,.var (.agg [.own 5 .u64,.v (.int .i64),.v (.int .i64),.v .u64]) true,.log .u64 109],[(.sl .u8),(.int .i64),(.int .i64),YS,Zd,(.sl Zu),(.int .i64),(.int .i64),.u64,(.sl .u64)]⟩],Zj (YL fuel) fuel⟩
theorem Zly:ZjI.Ok Tryz.prog (Zr Tryz.prog 167) (Zp Tryz.prog 167 1):=Zo (fi:={ hi:={ own:=[31,35,48,51],still:=[3,10,12,19,32,38,40,44,53,57,58,59],ghost:=[(5,[([0],Zu,118)]),(8,[([0],.u64,109)])]},lp:=[]}) (specs:={ l:=[XM]}) (okS ⟨Wt,trivial⟩) trivial (by kernel_rfl) (fun v=>by kernel_rfl)
def XT (F:Nat) (s:((List UInt8)×Int×Int×Xn×Ze×(List ZT))):Option (((List UInt8)×Int×Int×Xn×Ze×(List ZT))⊕((List UInt8)×Xn×Ze×(List ZT))):=
 if (decide (s.2.2.1 < s.2.1))=true then
  (ZD F s.2.2.2.2.1).bind fun o390=>
  if (s.2.2.1==4)=true then
   some (.inr (s.1,s.2.2.2.1,o390.2,s.2.2.2.2.2))
  else
  if (decide (o390.1 > 12))=true then
   some (.inr (s.1,s.2.2.2.1,o390.2,s.2.2.2.2.2))
  else
  (Zj (YL F) F (s.1,s.2.1,s.2.2.1,o390.1,(0:Int),s.2.2.2.1,o390.2,s.2.2.2.2.2,(0:Int),(0:Int),(0:UInt64),([]:List UInt64))).bind fun o393=>
  (ZD F o393.2.2.2.2.1).bind fun o394=>
  (ZD F o394.2).bind fun o395=>
  (Yl F o395.2).bind fun o396=>
  if (apB o393.2.2.2.2.2.1.length 1 48)=true then
   let y397:(List ZT):=o393.2.2.2.2.2.1++([(o393.2.2.2.2.2.2.2.2.2,o394.1,o395.1,o396.1)]:List ZT)
   some (.inl (o393.1,o393.2.1,wi (o393.2.2.1+1),o393.2.2.2.1,o396.2,y397))
  else
  none
 else
 some (.inr (s.1,s.2.2.2.1,s.2.2.2.2.1,s.2.2.2.2.2))
def ZjJ:Lp:=⟨[(0,.v (.sl .u8)),(2,.ref 0 []),(4,.ref 1 []),(5,.ref 2 []),(6,.v (.int .i64)),(7,.v (.int .i64))],[.var (.v YS) true,.var (.v Zd) true,.var (.agg [.own 3 Zu]) true,.log Zu 118],[(.sl .u8),(.int .i64),(.int .i64),YS,Zd,(.sl Zu)],[⟨.exit 0,[(0,.v (.sl .u8)),(2,.ref 0 []),(5,.ref 2 [])],[.var (.v YS) true,.var (.v Zd) true,.var (.agg [.own 3 Zu]) true,.log Zu 118],[(.sl .u8),YS,Zd,(.sl Zu)]⟩],Zj (XT fuel) fuel⟩
theorem Zlz:ZjJ.Ok Tryz.prog (Zr Tryz.prog 167) (Zp Tryz.prog 167 0):=Zo (fi:={ hi:={ own:=[31,35,48,51],still:=[3,10,12,19,32,38,40,44,53,57,58,59],ghost:=[(5,[([0],Zu,118)]),(8,[([0],.u64,109)])]},lp:=[(1,ZjI)]}) (specs:={ l:=[Z2,XM]}) (okS ⟨Z8,Wt,trivial⟩) ⟨Zly,trivial⟩ (by kernel_rfl) (fun v=>by kernel_rfl)
def Q8 (F:Nat) (a0:(List UInt8)):Option ((Xn×Bool)):=
 (Zcg F a0).bind fun o388=>
 (ZD F o388).bind fun o389=>
 (Zj (XT F) F (a0,o389.1,(0:Int),([]:Xn),o389.2,([]:List ZT))).bind fun o398=>
 (Xe F o398.2.2.2).bind fun o399=>
 if (!o399)=true then
  some (([]:Xn),false)
 else
 (Zay F o398.2.2.2).bind fun o400=>
 (Z4 F o400 o398.1).bind fun o401=>
 if (!o401)=true then
  some (([]:Xn),false)
 else
 some (o398.2.2.2,true)
def ZqR (F:Nat):Fs Tryz.prog:=⟨167,[.v (.sl .u8)],[],[(.sl .u8)],[⟨.ret,[(0,.tup [.v YS,.v .bool])],[],[YS,.bool]⟩],fun x=>Q8 F x⟩
def Zlh:Fs Tryz.prog:=ZqR fuel
theorem ZqS:Zlh.Ok:=Zn (fi:={ hi:={ own:=[31,35,48,51],still:=[3,10,12,19,32,38,40,44,53,57,58,59],ghost:=[(5,[([0],Zu,118)]),(8,[([0],.u64,109)])]},lp:=[(0,ZjJ)]}) (specs:={ l:=[Zgt,Z2,Zbl,ZeD,VD]}) (okS ⟨ZjG,Z8,Zad,Zdl,Zct,trivial⟩) ⟨Zlz,trivial⟩ (by decide+kernel) (fun x=>by kernel_rfl)
def XN (F:Nat) (s:(Int×Int×Int×Int×Tx×Int×(List Out)×(List Unit)×(List In)×(List In)×Ze)):Option ((Int×Int×Int×Int×Tx×Int×(List Out)×(List Unit)×(List In)×(List In)×Ze)⊕((Bool×Tx×Int×(List Out)×(List Unit)×(List In)×(List In)×Ze)⊕(Int×Int×Tx×Int×(List Out)×(List Unit)×(List In)×(List In)×Ze))):=
 if (decide (s.2.2.2.1 < s.2.2.1))=true then
  (ZD F s.2.2.2.2.2.2.2.2.2.2).bind fun o362=>
  (Ws F o362.2).bind fun o365=>
  (Q8 F o365.1).bind fun o402=>
  if (!o402.2)=true then
   some (.inr (.inl (false,(([]:List In),([]:List Out),(0:Int)),s.2.2.2.2.2.1,s.2.2.2.2.2.2.1,s.2.2.2.2.2.2.2.1,s.2.2.2.2.2.2.2.2.1,s.2.2.2.2.2.2.2.2.2.1,o365.2)))
  else
  if (apB s.2.2.2.2.2.2.1.length 1 32)=true then
   let y403:(List Out):=s.2.2.2.2.2.2.1++([(o362.1,o402.1)]:List Out)
   some (.inl (s.1,s.2.1,s.2.2.1,wi (s.2.2.2.1+1),s.2.2.2.2.1,s.2.2.2.2.2.1,y403,s.2.2.2.2.2.2.2.1,s.2.2.2.2.2.2.2.2.1,s.2.2.2.2.2.2.2.2.2.1,o365.2))
  else
  none
 else
 some (.inr (.inr (s.1,s.2.1,s.2.2.2.2.1,s.2.2.2.2.2.1,s.2.2.2.2.2.2.1,s.2.2.2.2.2.2.2.1,s.2.2.2.2.2.2.2.2.1,s.2.2.2.2.2.2.2.2.2.1,s.2.2.2.2.2.2.2.2.2.2)))
def ZnE:Lp:=⟨[(2,.ref 0 []),(4,.ref 1 []),(5,.ref 5 []),(6,.fn 164 [.ref 5 []]),(7,.v (.int .i64)),(8,.v (.int .i64)),(37,.v (.int .i64)),(38,.v (.int .i64))],[.var (.v yTx) true,.var (.agg [.rw 3,.own 2 YE,.v (.int .i64)]) true,.log YE 104,.rowN yIn [1,1] true 98,.var (.v Zd) true,.var (.ref 4 []) true],[(.int .i64),(.int .i64),(.int .i64),(.int .i64),yTx,(.int .i64),(.sl YE),(.sl (.st [])),(.sl yIn),(.sl yIn),Zd],[⟨.ret,[(2,.ref 0 []),(3,.v .bool)],[.var (.v yTx) true,.var (.agg [.rw 3,.own 2 YE,.v (.int .i64)]) true,.log YE 104,.rowN yIn [1,1] true 98,.var (.v Zd) true,.var (.ref 4 []) true],[.bool,yTx,(.int .i64),(.sl YE),(.sl (.st [])),(.sl yIn),(.sl yIn),Zd]⟩,⟨.exit 2,[(2,.ref 0 []),(4,.ref 1 []),(5,.ref 5 []),(6,.fn 164 [.ref 5 []]),(7,.v (.int .i64)),(8,.v (.int .i64))],[.var (.v yTx) true,.var (.agg [.rw 3,.own 2 YE,.v (.int .i64)]) true,.log YE 104,.rowN yIn [1,1] true 98,.var (.v Zd) true,.var (.ref 4 []) true],[(.int .i64),(.int .i64),yTx,(.int .i64),(.sl YE),(.sl (.st [])),(.sl yIn),(.sl yIn),Zd]⟩],Zj (XN fuel) fuel⟩
theorem Zok:ZnE.Ok Tryz.prog (Zr Tryz.prog 162) (Zp Tryz.prog 162 1):=Zo (fi:={ hi:={ own:=[24,32,55,58,92,99],still:=[3,15,25,27,40,44,45,61,76,93,95,104,116,121,126],rowt:=[24,32,71],ghost:=[(4,[([1],YE,104)])],gst:=[(9,[([1,0],Zu,118)])],lits:=[31]},lp:=[]}) (specs:={ l:=[Z2,Za3,Zlh]}) (okS ⟨Z8,Zgy,ZqS,trivial⟩) trivial (by kernel_rfl) (fun v=>by kernel_rfl)
def XO (F:Nat) (s:(Int×Int×Int×Int×Int×Int×Int×Tx×Int×(List Out)×(List Unit)×(List In)×(List In)×Yv×Int×UInt64×Ze×(List Sig))):Option ((Int×Int×Int×Int×Int×Int×Int×Tx×Int×(List Out)×(List Unit)×(List In)×(List In)×Yv×Int×UInt64×Ze×(List Sig))⊕(Int×Int×Int×Int×Int×Tx×Int×(List Out)×(List Unit)×(List In)×(List In)×Yv×Int×UInt64×Ze×(List Sig))):=
 if (decide (s.2.2.2.2.2.2.1 < s.2.2.2.2.2.1))=true then
  if (decide (s.2.2.1.toNat=s.2.2.2.2.2.2.2.2.2.2.2.1.length))=true then
   (Yl F s.2.2.2.2.2.2.2.2.2.2.2.2.2.2.2.2.1).bind fun o413=>
   (Yl F o413.2).bind fun o414=>
   if (apB s.2.2.2.2.2.2.2.2.2.2.2.2.2.2.2.2.2.length 1 16)=true then
    let y415:(List Sig):=s.2.2.2.2.2.2.2.2.2.2.2.2.2.2.2.2.2++([(o413.1,o414.1)]:List Sig)
    if (decide (s.2.2.1.toNat=s.2.2.2.2.2.2.2.2.2.2.2.1.length))=true then
     some (.inl (s.1,s.2.1,(s.2.2.1.toNat:Int),s.2.2.2.1,s.2.2.2.2.1,s.2.2.2.2.2.1,wi (s.2.2.2.2.2.2.1+1),s.2.2.2.2.2.2.2.1,s.2.2.2.2.2.2.2.2.1,s.2.2.2.2.2.2.2.2.2.1,s.2.2.2.2.2.2.2.2.2.2.1,s.2.2.2.2.2.2.2.2.2.2.2.1,s.2.2.2.2.2.2.2.2.2.2.2.2.1,s.2.2.2.2.2.2.2.2.2.2.2.2.2.1,s.2.2.2.2.2.2.2.2.2.2.2.2.2.2.1,s.2.2.2.2.2.2.2.2.2.2.2.2.2.2.2.1,o414.2,y415))
    else
    none
   else
   none
  else
  none
 else
 some (.inr (s.1,s.2.1,(s.2.2.1.toNat:Int),s.2.2.2.1,s.2.2.2.2.1,s.2.2.2.2.2.2.2.1,s.2.2.2.2.2.2.2.2.1,s.2.2.2.2.2.2.2.2.2.1,s.2.2.2.2.2.2.2.2.2.2.1,s.2.2.2.2.2.2.2.2.2.2.2.1,s.2.2.2.2.2.2.2.2.2.2.2.2.1,s.2.2.2.2.2.2.2.2.2.2.2.2.2.1,s.2.2.2.2.2.2.2.2.2.2.2.2.2.2.1,s.2.2.2.2.2.2.2.2.2.2.2.2.2.2.2.1,s.2.2.2.2.2.2.2.2.2.2.2.2.2.2.2.2.1,s.2.2.2.2.2.2.2.2.2.2.2.2.2.2.2.2.2))
def ZnF:Lp:=⟨[(2,.ref 0 []),(4,.ref 1 []),(5,.ref 5 []),(6,.fn 164 [.ref 5 []]),(7,.v (.int .i64)),(8,.v (.int .i64)),(13,.rp 3 36 [.fld 1 33]),(66,.v (.int .i64)),(67,.v (.int .i64)),(85,.v (.int .i64)),(86,.v (.int .i64))],[.var (.v yTx) true,.var (.agg [.rw 3,.own 2 YE,.v (.int .i64)]) true,.log YE 104,.rowM yIn [1,1] true 98 (.agg [.v Yd,.agg [.v (.int .i64),.own 6 Zfm,.v .u64]]),.var (.v Zd) true,.var (.ref 4 []) true,.log Zfm 111],[(.int .i64),(.int .i64),(.int .i64),(.int .i64),(.int .i64),(.int .i64),(.int .i64),yTx,(.int .i64),(.sl YE),(.sl (.st [])),(.sl yIn),(.sl yIn),Yd,(.int .i64),.u64,Zd,(.sl Zfm)],[⟨.exit 6,[(2,.ref 0 []),(4,.ref 1 []),(5,.ref 5 []),(6,.fn 164 [.ref 5 []]),(7,.v (.int .i64)),(8,.v (.int .i64)),(13,.rp 3 36 [.fld 1 33]),(66,.v (.int .i64)),(67,.v (.int .i64))],[.var (.v yTx) true,.var (.agg [.rw 3,.own 2 YE,.v (.int .i64)]) true,.log YE 104,.rowM yIn [1,1] true 98 (.agg [.v Yd,.agg [.v (.int .i64),.own 6 Zfm,.v .u64]]),.var (.v Zd) true,.var (.ref 4 []) true,.log Zfm 111],[(.int .i64),(.int .i64),(.int .i64),(.int .i64),(.int .i64),yTx,(.int .i64),(.sl YE),(.sl (.st [])),(.sl yIn),(.sl yIn),Yd,(.int .i64),.u64,Zd,(.sl Zfm)]⟩],Zj (XO fuel) fuel⟩
theorem Zol:ZnF.Ok Tryz.prog (Zr Tryz.prog 162) (Zp Tryz.prog 162 3):=Zo (fi:={ hi:={ own:=[24,32,55,58,92,99],still:=[3,15,25,27,40,44,45,61,76,93,95,104,116,121,126],rowt:=[24,32,71],ghost:=[(4,[([1],YE,104)])],gst:=[(9,[([1,0],Zu,118)])],lits:=[31]},lp:=[]}) (specs:={ l:=[XM]}) (okS ⟨Wt,trivial⟩) trivial (by kernel_rfl) (fun v=>by kernel_rfl)
def XP (F:Nat) (s:(Int×Int×Int×Int×Tx×Int×(List Out)×(List Unit)×(List In)×(List In)×Ze)):Option ((Int×Int×Int×Int×Tx×Int×(List Out)×(List Unit)×(List In)×(List In)×Ze)⊕((Bool×Tx×Int×(List Out)×(List Unit)×(List In)×(List In)×Ze)⊕(Int×Int×Tx×Int×(List Out)×(List Unit)×(List In)×(List In)×Ze))):=
 if (decide (s.2.2.2.1 < s.2.2.1))=true then
  if (decide (s.2.2.2.1=(s.2.2.2.2.2.2.2.2.1.length:Int)))=true then
   Zqw s.2.2.2.2.2.2.2.2.2.1 fun x409 r410=>
    if (inB s.2.2.2.1 (s.2.2.2.2.2.2.2.2.1.length+(r410.length+1)))=true then
     (ZD F s.2.2.2.2.2.2.2.2.2.2).bind fun o411=>
     if (decide (s.2.2.2.1.toNat=s.2.2.2.2.2.2.2.2.1.length))=true then
      (Q7 F (12:Int) o411.2).bind fun o412=>
      if (decide (o412.1 < 0))=true then
       some (.inr (.inl (false,(([]:List In),([]:List Out),(0:Int)),s.2.2.2.2.2.1,s.2.2.2.2.2.2.1,s.2.2.2.2.2.2.2.1,s.2.2.2.2.2.2.2.2.1++([(x409.1,(o411.1,[],x409.2.2.2))]:List In),r410,o412.2)))
      else
      (Zj (XO F) F (s.1,s.2.1,(s.2.2.2.1.toNat:Int),s.2.2.1,s.2.2.2.1,o412.1,(0:Int),s.2.2.2.2.1,s.2.2.2.2.2.1,s.2.2.2.2.2.2.1,s.2.2.2.2.2.2.2.1,s.2.2.2.2.2.2.2.2.1,r410,x409.1,o411.1,x409.2.2.2,o412.2,([]:List Sig))).bind fun o416=>
      (Yl F o416.2.2.2.2.2.2.2.2.2.2.2.2.2.2.1).bind fun o417=>
      if (decide (o416.2.2.1.toNat=o416.2.2.2.2.2.2.2.2.2.1.length))=true then
       some (.inl (o416.1,o416.2.1,o416.2.2.2.1,wi (o416.2.2.2.2.1+1),o416.2.2.2.2.2.1,o416.2.2.2.2.2.2.1,o416.2.2.2.2.2.2.2.1,o416.2.2.2.2.2.2.2.2.1,o416.2.2.2.2.2.2.2.2.2.1++([(o416.2.2.2.2.2.2.2.2.2.2.2.1,(o416.2.2.2.2.2.2.2.2.2.2.2.2.1,o416.2.2.2.2.2.2.2.2.2.2.2.2.2.2.2,o417.1))]:List In),o416.2.2.2.2.2.2.2.2.2.2.1,o417.2))
      else
      none
     else
     none
    else
    none
  else
  none
 else
 some (.inr (.inr (s.1,s.2.1,s.2.2.2.2.1,s.2.2.2.2.2.1,s.2.2.2.2.2.2.1,s.2.2.2.2.2.2.2.1,s.2.2.2.2.2.2.2.2.1,s.2.2.2.2.2.2.2.2.2.1,s.2.2.2.2.2.2.2.2.2.2)))
def ZnG:Lp:=⟨[(2,.ref 0 []),(4,.ref 1 []),(5,.ref 5 []),(6,.fn 164 [.ref 5 []]),(7,.v (.int .i64)),(8,.v (.int .i64)),(66,.v (.int .i64)),(67,.v (.int .i64))],[.var (.v yTx) true,.var (.agg [.rw 3,.own 2 YE,.v (.int .i64)]) true,.log YE 104,.rowN yIn [1,1] true 98,.var (.v Zd) true,.var (.ref 4 []) true],[(.int .i64),(.int .i64),(.int .i64),(.int .i64),yTx,(.int .i64),(.sl YE),(.sl (.st [])),(.sl yIn),(.sl yIn),Zd],[⟨.ret,[(2,.ref 0 []),(3,.v .bool)],[.var (.v yTx) true,.var (.agg [.rw 3,.own 2 YE,.v (.int .i64)]) true,.log YE 104,.rowN yIn [1,1] true 98,.var (.v Zd) true,.var (.ref 4 []) true],[.bool,yTx,(.int .i64),(.sl YE),(.sl (.st [])),(.sl yIn),(.sl yIn),Zd]⟩,⟨.exit 4,[(2,.ref 0 []),(4,.ref 1 []),(5,.ref 5 []),(7,.v (.int .i64)),(8,.v (.int .i64))],[.var (.v yTx) true,.var (.agg [.rw 3,.own 2 YE,.v (.int .i64)]) true,.log YE 104,.rowN yIn [1,1] true 98,.var (.v Zd) true,.var (.ref 4 []) true],[(.int .i64),(.int .i64),yTx,(.int .i64),(.sl YE),(.sl (.st [])),(.sl yIn),(.sl yIn),Zd]⟩],Zj (XP fuel) fuel⟩
theorem Zom:ZnG.Ok Tryz.prog (Zr Tryz.prog 162) (Zp Tryz.prog 162 2):=Zo (fi:={ hi:={ own:=[24,32,55,58,92,99],still:=[3,15,25,27,40,44,45,61,76,93,95,104,116,121,126],rowt:=[24,32,71],ghost:=[(4,[([1],YE,104)])],gst:=[(9,[([1,0],Zu,118)])],lits:=[31]},lp:=[(3,ZnF)],gh:=[(4,.focus 12 Zfm 111)]}) (specs:={ l:=[Z2,Zgw,XM]}) (okS ⟨Z8,ZjH,Wt,trivial⟩) ⟨Zol,trivial⟩ (by kernel_rfl) (fun v=>by kernel_rfl)
end
end Go.Proofs.YtehgcchjaamddaaGreat
end
section
set_option maxRecDepth 4000
namespace Go.Proofs.YtehgcchjaamddaaGreat
open Go Go.Ev
noncomputable section
def VI (F:Nat) (s0:Ze):Option ((Bool×Ze)):=
 some (!s0.2,s0)
def ZjK (F:Nat):Fs Tryz.prog:=⟨170,[.ref 0 []],[.var (.v Zd) true],[Zd],[⟨.ret,[(0,.v .bool)],[.var (.v Zd) true],[.bool,Zd]⟩],fun x=>VI F x⟩
def ZdZ:Fs Tryz.prog:=ZjK fuel
theorem ZjL:ZdZ.Ok:=Zn (fi:={ hi:={ still:=[2]},lp:=[]}) (specs:={ l:=[]}) (okS trivial) trivial (by decide+kernel) (fun x=>by kernel_rfl)
def WN (F:Nat) (s0:Ze):Option ((Int×Ze)):=
 some ((s0.1.length:Int),s0)
def Zhf (F:Nat):Fs Tryz.prog:=⟨171,[.ref 0 []],[.var (.v Zd) true],[Zd],[⟨.ret,[(0,.v (.int .i64))],[.var (.v Zd) true],[(.int .i64),Zd]⟩],fun x=>WN F x⟩
def Zck:Fs Tryz.prog:=Zhf fuel
theorem Zhg:Zck.Ok:=Zn (fi:={ hi:={ still:=[2]},lp:=[]}) (specs:={ l:=[]}) (okS trivial) trivial (by decide+kernel) (fun x=>by kernel_rfl)
def Y4 (F:Nat) (a0:(List UInt8)):Option ((Tx×Bool)):=
 (Zcg F a0).bind fun o341=>
 (Q7 F (64:Int) o341).bind fun o351=>
 (Zj (XL F) F (o351.1,o351.1,(0:Int),(([]:List In),([]:List Out),(0:Int)),(0:Int),([]:List Out),([]:List Unit),([]:List In),([]:List In),o351.2)).bind fun o360=>
 (Q7 F (64:Int) o360.2.2.2.2.2.2.2).bind fun o361=>
 (Zj (XN F) F (o360.1,o361.1,o361.1,(0:Int),o360.2.1,o360.2.2.1,o360.2.2.2.1,o360.2.2.2.2.1,o360.2.2.2.2.2.1,o360.2.2.2.2.2.2.1,o361.2)).bind fun o404=>
 match o404 with
 |.inl o405=>
  some (o405.2.1,o405.1)
 |.inr o406=>
  (ZD F o406.2.2.2.2.2.2.2.2).bind fun o407=>
  let y408:Int:=(((o406.2.2.2.2.2.2.1.length+o406.2.2.2.2.2.2.2.1.length):Nat):Int)
  (Zj (XP F) F (o406.1,o406.2.1,y408,(0:Int),o406.2.2.1,o407.1,o406.2.2.2.2.1,o406.2.2.2.2.2.1,o406.2.2.2.2.2.2.1,o406.2.2.2.2.2.2.2.1,o407.2)).bind fun o418=>
  match o418 with
  |.inl o419=>
   some (o419.2.1,o419.1)
  |.inr o420=>
   if o420.2.2.2.2.2.2.2.1.isEmpty=true then
    if (decide (o420.1 < 0))=true then
     some ((([]:List In),([]:List Out),(0:Int)),false)
    else
    if (decide (o420.2.1 < 0))=true then
     some ((([]:List In),([]:List Out),(0:Int)),false)
    else
    (VI F o420.2.2.2.2.2.2.2.2).bind fun o421=>
    if (!o421.1)=true then
     some ((([]:List In),([]:List Out),(0:Int)),false)
    else
    (WN F o421.2).bind fun o422=>
    if (decide (o422.1 > 0))=true then
     some ((([]:List In),([]:List Out),(0:Int)),false)
    else
    (Yu F (o420.2.2.2.2.2.2.1,o420.2.2.2.2.1,o420.2.2.2.1)).bind fun o423=>
    if (!o423)=true then
     some ((([]:List In),([]:List Out),(0:Int)),false)
    else
    some ((o420.2.2.2.2.2.2.1,o420.2.2.2.2.1,o420.2.2.2.1),true)
   else
   none
def Zt5 (F:Nat):Fs Tryz.prog:=⟨162,[.v (.sl .u8)],[],[(.sl .u8)],[⟨.ret,[(0,.tup [.v yTx,.v .bool])],[],[yTx,.bool]⟩],fun x=>Y4 F x⟩
def Zpm:Fs Tryz.prog:=Zt5 fuel
theorem Zt6:Zpm.Ok:=Zn (fi:={ hi:={ own:=[24,32,55,58,92,99],still:=[3,15,25,27,40,44,45,61,76,93,95,104,116,121,126],rowt:=[24,32,71],ghost:=[(4,[([1],YE,104)])],gst:=[(9,[([1,0],Zu,118)])],lits:=[31]},lp:=[(0,ZnD),(1,ZnE),(2,ZnG)],gh:=[(2,.rows 4 [0] yIn 98 [1,1]),(41,.done 4)]}) (specs:={ l:=[Zgt,Zgw,Z2,ZdZ,Zck,Q2]}) (okS ⟨ZjG,ZjH,Z8,ZjL,Zhg,V3,trivial⟩) ⟨Zoj,Zok,Zom,trivial⟩ (by decide+kernel) (fun x=>by kernel_rfl)
def ZZ (F:Nat) (s:((List Tx)×Int×Int×(List Zf)×Int×Int×Int×Int×Unit×(List Zf)×Unit×(List ((List UInt8)×(List Zf)))×(List Tx)×Tx×(List UInt8))):Option (((List Tx)×Int×Int×(List Zf)×Int×Int×Int×Int×Unit×(List Zf)×Unit×(List ((List UInt8)×(List Zf)))×(List Tx)×Tx×(List UInt8))⊕((List Tx)×Int×Int×Int×Int×Unit×(List Zf)×Unit×(List ((List UInt8)×(List Zf)))×(List Tx)×Tx×(List UInt8))):=
 if (decide (s.2.2.2.2.2.1 < s.2.2.2.2.1))=true then
  (idx s.2.2.2.1 s.2.2.2.2.2.1).bind fun e334=>
  (Y1 F s.2.2.2.2.2.2.2.2.2.2.2.2.2.2).bind fun o335=>
  (Yc F o335 e334.2).bind fun o339=>
  if (!o339.2)=true then
   some (.inl (s.1,s.2.1,s.2.2.1,s.2.2.2.1,s.2.2.2.2.1,wi (s.2.2.2.2.2.1+1),s.2.2.2.2.2.2.1,s.2.2.2.2.2.2.2.1,s.2.2.2.2.2.2.2.2.1,s.2.2.2.2.2.2.2.2.2.1,s.2.2.2.2.2.2.2.2.2.2.1,s.2.2.2.2.2.2.2.2.2.2.2.1,s.2.2.2.2.2.2.2.2.2.2.2.2.1,s.2.2.2.2.2.2.2.2.2.2.2.2.2.1,s.2.2.2.2.2.2.2.2.2.2.2.2.2.2))
  else
  (Y4 F o339.1).bind fun o424=>
  if o424.2=true then
   if (apB s.2.2.2.2.2.2.2.2.2.2.2.2.1.length 1 56)=true then
    let y425:(List Tx):=s.2.2.2.2.2.2.2.2.2.2.2.2.1++([o424.1]:List Tx)
    some (.inl (s.1,s.2.1,s.2.2.1,s.2.2.2.1,s.2.2.2.2.1,wi (s.2.2.2.2.2.1+1),s.2.2.2.2.2.2.1,s.2.2.2.2.2.2.2.1,s.2.2.2.2.2.2.2.2.1,s.2.2.2.2.2.2.2.2.2.1,s.2.2.2.2.2.2.2.2.2.2.1,s.2.2.2.2.2.2.2.2.2.2.2.1,y425,s.2.2.2.2.2.2.2.2.2.2.2.2.2.1,s.2.2.2.2.2.2.2.2.2.2.2.2.2.2))
   else
   none
  else
  some (.inl (s.1,s.2.1,s.2.2.1,s.2.2.2.1,s.2.2.2.2.1,wi (s.2.2.2.2.2.1+1),s.2.2.2.2.2.2.1,s.2.2.2.2.2.2.2.1,s.2.2.2.2.2.2.2.2.1,s.2.2.2.2.2.2.2.2.2.1,s.2.2.2.2.2.2.2.2.2.2.1,s.2.2.2.2.2.2.2.2.2.2.2.1,s.2.2.2.2.2.2.2.2.2.2.2.2.1,s.2.2.2.2.2.2.2.2.2.2.2.2.2.1,s.2.2.2.2.2.2.2.2.2.2.2.2.2.2))
 else
 some (.inr (s.1,s.2.1,s.2.2.1,s.2.2.2.2.2.2.1,s.2.2.2.2.2.2.2.1,s.2.2.2.2.2.2.2.2.1,s.2.2.2.2.2.2.2.2.2.1,s.2.2.2.2.2.2.2.2.2.2.1,s.2.2.2.2.2.2.2.2.2.2.2.1,s.2.2.2.2.2.2.2.2.2.2.2.2.1,s.2.2.2.2.2.2.2.2.2.2.2.2.2.1,s.2.2.2.2.2.2.2.2.2.2.2.2.2.2))
def ZaG:Lp:=⟨[(7,.mp 3),(10,.own 4 yTx),(13,.ref 6 []),(40,.v (.sl yTx)),(41,.v (.int .i64)),(42,.v (.int .i64)),(54,.v (.sl Zb)),(55,.v (.int .i64)),(56,.v (.int .i64))],[.var (.agg [.v (.int .i64),.v (.int .i64),.own 1 Zb,.iface 69 (.v (.st []))]) true,.log Zb 36,.var (.v (.st [])) true,.map 198 (.arr 16 .u8) (.sl Zb),.log yTx 57,.var (.v yTx) true,.var (.v (.arr 32 .u8)) true],[(.sl yTx),(.int .i64),(.int .i64),(.sl Zb),(.int .i64),(.int .i64),(.int .i64),(.int .i64),(.st []),(.sl Zb),(.st []),(Zfl (.arr 16 .u8) (.sl Zb)),(.sl yTx),yTx,(.arr 32 .u8)],[⟨.exit 4,[(7,.mp 3),(10,.own 4 yTx),(40,.v (.sl yTx)),(41,.v (.int .i64)),(42,.v (.int .i64))],[.var (.agg [.v (.int .i64),.v (.int .i64),.own 1 Zb,.iface 69 (.v (.st []))]) true,.log Zb 36,.var (.v (.st [])) true,.map 198 (.arr 16 .u8) (.sl Zb),.log yTx 57,.var (.v yTx) true,.var (.v (.arr 32 .u8)) true],[(.sl yTx),(.int .i64),(.int .i64),(.int .i64),(.int .i64),(.st []),(.sl Zb),(.st []),(Zfl (.arr 16 .u8) (.sl Zb)),(.sl yTx),yTx,(.arr 32 .u8)]⟩],Zj (ZZ fuel) fuel⟩
theorem Zd0:ZaG.Ok Tryz.prog (Zr Tryz.prog 159) (Zp Tryz.prog 159 2):=Zo (fi:={ hi:={ own:=[10,33,37,76,79],still:=[6,46,49,52,61,62,64,71]},lp:=[]}) (specs:={ l:=[Zf0,Zlg,Zpm]}) (okS ⟨Zey,ZqO,Zt6,trivial⟩) trivial (by kernel_rfl) (fun v=>by kernel_rfl)
def Yw (F:Nat) (s:((List Tx)×Int×Int×Int×Int×Unit×(List Zf)×Unit×(List ((List UInt8)×(List Zf)))×(List Tx))):Option (((List Tx)×Int×Int×Int×Int×Unit×(List Zf)×Unit×(List ((List UInt8)×(List Zf)))×(List Tx))⊕(Int×Int×Unit×(List Zf)×Unit×(List ((List UInt8)×(List Zf)))×(List Tx))):=
 if (decide (s.2.2.1 < s.2.1))=true then
  (idx s.1 s.2.2.1).bind fun e329=>
  (Yu F e329).bind fun o330=>
  if (!o330)=true then
   some (.inl (s.1,s.2.1,wi (s.2.2.1+1),s.2.2.2.1,s.2.2.2.2.1,s.2.2.2.2.2.1,s.2.2.2.2.2.2.1,s.2.2.2.2.2.2.2.1,s.2.2.2.2.2.2.2.2.1,s.2.2.2.2.2.2.2.2.2))
  else
  (Zdm F e329).bind fun o331=>
  (Xd F o331).bind fun o332=>
  ZmH (V6 s.2.2.2.2.2.2.2.2.1 o332) (fun e333=>
   (Zj (ZZ F) F (s.1,s.2.1,s.2.2.1,e333,(e333.length:Int),(0:Int),s.2.2.2.1,s.2.2.2.2.1,s.2.2.2.2.2.1,s.2.2.2.2.2.2.1,s.2.2.2.2.2.2.2.1,s.2.2.2.2.2.2.2.2.1,s.2.2.2.2.2.2.2.2.2,e329,o331)).bind fun o426=>
   some (.inl (o426.1,o426.2.1,wi (o426.2.2.1+1),o426.2.2.2.1,o426.2.2.2.2.1,o426.2.2.2.2.2.1,o426.2.2.2.2.2.2.1,o426.2.2.2.2.2.2.2.1,o426.2.2.2.2.2.2.2.2.1,o426.2.2.2.2.2.2.2.2.2.1))) (
   (Zj (ZZ F) F (s.1,s.2.1,s.2.2.1,([]:List Zf),(0:Int),(0:Int),s.2.2.2.1,s.2.2.2.2.1,s.2.2.2.2.2.1,s.2.2.2.2.2.2.1,s.2.2.2.2.2.2.2.1,s.2.2.2.2.2.2.2.2.1,s.2.2.2.2.2.2.2.2.2,e329,o331)).bind fun o427=>
   some (.inl (o427.1,o427.2.1,wi (o427.2.2.1+1),o427.2.2.2.1,o427.2.2.2.2.1,o427.2.2.2.2.2.1,o427.2.2.2.2.2.2.1,o427.2.2.2.2.2.2.2.1,o427.2.2.2.2.2.2.2.2.1,o427.2.2.2.2.2.2.2.2.2.1)))
 else
 some (.inr (s.2.2.2.1,s.2.2.2.2.1,s.2.2.2.2.2.1,s.2.2.2.2.2.2.1,s.2.2.2.2.2.2.2.1,s.2.2.2.2.2.2.2.2.1,s.2.2.2.2.2.2.2.2.2))
def ZaH:Lp:=⟨[(7,.mp 3),(10,.own 4 yTx),(40,.v (.sl yTx)),(41,.v (.int .i64)),(42,.v (.int .i64))],[.var (.agg [.v (.int .i64),.v (.int .i64),.own 1 Zb,.iface 69 (.v (.st []))]) true,.log Zb 36,.var (.v (.st [])) true,.map 198 (.arr 16 .u8) (.sl Zb),.log yTx 57],[(.sl yTx),(.int .i64),(.int .i64),(.int .i64),(.int .i64),(.st []),(.sl Zb),(.st []),(Zfl (.arr 16 .u8) (.sl Zb)),(.sl yTx)],[⟨.exit 2,[(10,.own 4 yTx)],[.var (.agg [.v (.int .i64),.v (.int .i64),.own 1 Zb,.iface 69 (.v (.st []))]) true,.log Zb 36,.var (.v (.st [])) true,.map 198 (.arr 16 .u8) (.sl Zb),.log yTx 57],[(.int .i64),(.int .i64),(.st []),(.sl Zb),(.st []),(Zfl (.arr 16 .u8) (.sl Zb)),(.sl yTx)]⟩],Zj (Yw fuel) fuel⟩
theorem Zd1:ZaH.Ok Tryz.prog (Zr Tryz.prog 159) (Zp Tryz.prog 159 1):=Zo (fi:={ hi:={ own:=[10,33,37,76,79],still:=[6,46,49,52,61,62,64,71]},lp:=[(2,ZaG)]}) (specs:={ l:=[Q2,ZqL,Zew]}) (okS ⟨V3,Znt,Zdb,trivial⟩) ⟨Zd0,trivial⟩ (by kernel_rfl) (fun v=>by kernel_rfl)
def VT (F:Nat) (a0:Unit) (a2:(List Tx)) (s0_0:Int) (s0_1:Int) (s0_2:Unit) (s1:(List Zf)):Option (((List Tx)×Int×Int×Unit×(List Zf))):=
 (Xt (a2,(s1.length:Int),(0:Int),s0_0,s0_1,s0_2,s1,a0,([]:List ((List UInt8)×(List Zf))))).bind fun o328=>
 (Zj (Yw F) F (o328.1,(o328.1.length:Int),(0:Int),o328.2.1,o328.2.2.1,o328.2.2.2.1,o328.2.2.2.2.1,o328.2.2.2.2.2.1,o328.2.2.2.2.2.2,([]:List Tx))).bind fun o428=>
 some (o428.2.2.2.2.2.2,o428.1,o428.2.1,o428.2.2.1,o428.2.2.2.1)
def Zgz (F:Nat):Fs Tryz.prog:=⟨159,[.v (.st []),.ref 0 [],.v (.sl yTx)],[.var (.agg [.v (.int .i64),.v (.int .i64),.own 1 Zb,.iface 69 (.v (.st []))]) true,.log Zb 36],[(.st []),(.sl yTx),(.int .i64),(.int .i64),(.st []),(.sl Zb)],[⟨.ret,[(0,.v (.sl yTx))],[.var (.agg [.v (.int .i64),.v (.int .i64),.own 1 Zb,.iface 69 (.v (.st []))]) true,.log Zb 36],[(.sl yTx),(.int .i64),(.int .i64),(.st []),(.sl Zb)]⟩],fun x=>VT F x.1 x.2.1 x.2.2.1 x.2.2.2.1 x.2.2.2.2.1 x.2.2.2.2.2⟩
def Za4:Fs Tryz.prog:=Zgz fuel
theorem ZgA:Za4.Ok:=Zn (fi:={ hi:={ own:=[10,33,37,76,79],still:=[6,46,49,52,61,62,64,71]},lp:=[(0,YP),(1,ZaH)]}) (specs:={ l:=[]}) (okS trivial) ⟨ZdY,Zd1,trivial⟩ (by decide+kernel) (fun x=>by kernel_rfl)
def XQ (F:Nat) (a1:(List Tx)) (s0_0:Int) (s0_1:Int) (s0_2:Unit) (s1:(List Zf)):Option (((List Tx)×Int×Int×Unit×(List Zf))):=
 (VT F s0_2 a1 s0_0 s0_1 s0_2 s1).bind fun o429=>
 some (o429.1,o429.2.1,o429.2.2.1,o429.2.2.2.1,o429.2.2.2.2)
def Zhh (F:Nat):Fs Tryz.prog:=⟨20,[.ref 0 [],.v (.sl yTx)],[.var (.agg [.v (.int .i64),.v (.int .i64),.own 1 Zb,.iface 69 (.v (.st []))]) true,.log Zb 36],[(.sl yTx),(.int .i64),(.int .i64),(.st []),(.sl Zb)],[⟨.ret,[(0,.v (.sl yTx))],[.var (.agg [.v (.int .i64),.v (.int .i64),.own 1 Zb,.iface 69 (.v (.st []))]) true,.log Zb 36],[(.sl yTx),(.int .i64),(.int .i64),(.st []),(.sl Zb)]⟩],fun x=>XQ F x.1 x.2.1 x.2.2.1 x.2.2.2.1 x.2.2.2.2⟩
def Zcl:Fs Tryz.prog:=Zhh fuel
theorem Zhi:Zcl.Ok:=Zn (fi:={ hi:={ still:=[4]},lp:=[]}) (specs:={ l:=[Za4],mt:=[(69, "corsned/tower.look",159)]}) (okM ⟨ZgA,trivial⟩ ⟨Zt4,trivial⟩) trivial (by decide+kernel) (fun x=>by kernel_rfl)
def ZB (F:Nat) (s:(Bool×(List Tx)×Bool×Int×Tx×Tx×(List UInt8)×Int×Int×Unit×(List Zf)×Zf×(List Tx))):Option ((Bool×(List Tx)×Bool×Int×Tx×Tx×(List UInt8)×Int×Int×Unit×(List Zf)×Zf×(List Tx))⊕(Bool×Bool×Tx×Tx×(List UInt8)×Int×Int×Unit×(List Zf)×Zf×(List Tx))):=
 if (decide (s.2.2.2.1 < (s.2.1.length:Int)))=true then
  if s.2.2.1=true then
   some (.inl (s.1,s.2.1,true,wi (s.2.2.2.1+1),s.2.2.2.2.1,s.2.2.2.2.2.1,s.2.2.2.2.2.2.1,s.2.2.2.2.2.2.2.1,s.2.2.2.2.2.2.2.2.1,s.2.2.2.2.2.2.2.2.2.1,s.2.2.2.2.2.2.2.2.2.2.1,s.2.2.2.2.2.2.2.2.2.2.2.1,s.2.2.2.2.2.2.2.2.2.2.2.2))
  else
  (idx s.2.1 s.2.2.2.1).bind fun e431=>
  (ZjC F e431 s.2.2.2.2.2.1).bind fun o432=>
  some (.inl (s.1,s.2.1,o432,wi (s.2.2.2.1+1),s.2.2.2.2.1,s.2.2.2.2.2.1,s.2.2.2.2.2.2.1,s.2.2.2.2.2.2.2.1,s.2.2.2.2.2.2.2.2.1,s.2.2.2.2.2.2.2.2.2.1,s.2.2.2.2.2.2.2.2.2.2.1,s.2.2.2.2.2.2.2.2.2.2.2.1,s.2.2.2.2.2.2.2.2.2.2.2.2))
 else
 some (.inr (s.1,s.2.2.1,s.2.2.2.2.1,s.2.2.2.2.2.1,s.2.2.2.2.2.2.1,s.2.2.2.2.2.2.2.1,s.2.2.2.2.2.2.2.2.1,s.2.2.2.2.2.2.2.2.2.1,s.2.2.2.2.2.2.2.2.2.2.1,s.2.2.2.2.2.2.2.2.2.2.2.1,s.2.2.2.2.2.2.2.2.2.2.2.2))
def Vf:Lp:=⟨[(9,.ref 1 []),(11,.ref 2 []),(13,.v .bool),(14,.ref 3 []),(15,.ref 5 []),(19,.v (.sl yTx)),(20,.v .bool),(21,.v (.int .i64))],[.var (.v yTx) true,.var (.v yTx) true,.var (.v (.arr 32 .u8)) true,.var (.agg [.v (.int .i64),.v (.int .i64),.own 4 Zb,.iface 69 (.v (.st []))]) true,.log Zb 36,.var (.v Zb) true,.log yTx 57],[.bool,(.sl yTx),.bool,(.int .i64),yTx,yTx,(.arr 32 .u8),(.int .i64),(.int .i64),(.st []),(.sl Zb),Zb,(.sl yTx)],[⟨.exit 4,[(11,.ref 2 []),(13,.v .bool),(14,.ref 3 []),(15,.ref 5 []),(20,.v .bool)],[.var (.v yTx) true,.var (.v yTx) true,.var (.v (.arr 32 .u8)) true,.var (.agg [.v (.int .i64),.v (.int .i64),.own 4 Zb,.iface 69 (.v (.st []))]) true,.log Zb 36,.var (.v Zb) true,.log yTx 57],[.bool,.bool,yTx,yTx,(.arr 32 .u8),(.int .i64),(.int .i64),(.st []),(.sl Zb),Zb,(.sl yTx)]⟩],Zj (ZB fuel) fuel⟩
theorem ZaI:Vf.Ok Tryz.prog (Zr Tryz.prog 4) (Zp Tryz.prog 4 2):=Zo (fi:={ hi:={ own:=[101,103,106],still:=[12,39,44,49,58,59,60,62,63,73,77,79,80,88,92,100,106,119,120,124,125,127,129,130,143,144]},lp:=[]}) (specs:={ l:=[Zpj]}) (okS ⟨Zny,trivial⟩) trivial (by kernel_rfl) (fun v=>by kernel_rfl)
theorem Zt7:Zln Tryz.prog 69 "corsned/tower.prove" 160:=fun v args w=>by kernel_rfl
def Xa (F:Nat) (s:(Int×Int×Int×Int×Unit×(List Zf)×Unit×(List UInt8)×(List UInt8)×(List UInt8)×(List UInt8))):Option ((Int×Int×Int×Int×Unit×(List Zf)×Unit×(List UInt8)×(List UInt8)×(List UInt8)×(List UInt8))⊕((Bool×Int×Int×Unit×(List Zf)×Unit×(List UInt8)×(List UInt8)×(List UInt8)×(List UInt8))⊕(Int×Int×Unit×(List Zf)×Unit×(List UInt8)×(List UInt8)×(List UInt8)×(List UInt8)))):=
 if (decide (s.2.1 < s.1))=true then
  (idx s.2.2.2.2.2.1 s.2.1).bind fun e435=>
  if (decide (e435.1=s.2.2.2.2.2.2.2.2.1))=true then
   (ZJ F e435.2).bind fun o436=>
   if (decide (o436=s.2.2.2.2.2.2.2.2.2.1))=true then
    (Wj F s.2.2.2.2.2.2.2.1 e435).bind fun o437=>
    some (.inr (.inl (true,s.2.2.1,s.2.2.2.1,s.2.2.2.2.1,s.2.2.2.2.2.1,s.2.2.2.2.2.2.1,s.2.2.2.2.2.2.2.1,s.2.2.2.2.2.2.2.2.1,s.2.2.2.2.2.2.2.2.2.1,o437)))
   else
   some (.inl (s.1,wi (s.2.1+1),s.2.2.1,s.2.2.2.1,s.2.2.2.2.1,s.2.2.2.2.2.1,s.2.2.2.2.2.2.1,s.2.2.2.2.2.2.2.1,s.2.2.2.2.2.2.2.2.1,s.2.2.2.2.2.2.2.2.2.1,s.2.2.2.2.2.2.2.2.2.2))
  else
  some (.inl (s.1,wi (s.2.1+1),s.2.2.1,s.2.2.2.1,s.2.2.2.2.1,s.2.2.2.2.2.1,s.2.2.2.2.2.2.1,s.2.2.2.2.2.2.2.1,s.2.2.2.2.2.2.2.2.1,s.2.2.2.2.2.2.2.2.2.1,s.2.2.2.2.2.2.2.2.2.2))
 else
 some (.inr (.inr (s.2.2.1,s.2.2.2.1,s.2.2.2.2.1,s.2.2.2.2.2.1,s.2.2.2.2.2.2.1,s.2.2.2.2.2.2.2.1,s.2.2.2.2.2.2.2.2.1,s.2.2.2.2.2.2.2.2.2.1,s.2.2.2.2.2.2.2.2.2.2)))
def QP:Lp:=⟨[(7,.ref 3 []),(8,.ref 4 []),(9,.ref 5 []),(10,.ref 6 []),(17,.own 1 Zb),(18,.v (.int .i64)),(19,.v (.int .i64))],[.var (.agg [.v (.int .i64),.v (.int .i64),.own 1 Zb,.iface 69 (.v (.st []))]) true,.log Zb 36,.var (.v (.st [])) true,.var (.v (.arr 32 .u8)) true,.var (.v (.arr 16 .u8)) true,.var (.v (.arr 32 .u8)) true,.var (.v (.arr 32 .u8)) true],[(.int .i64),(.int .i64),(.int .i64),(.int .i64),(.st []),(.sl Zb),(.st []),(.arr 32 .u8),(.arr 16 .u8),(.arr 32 .u8),(.arr 32 .u8)],[⟨.ret,[(10,.ref 6 []),(11,.v .bool)],[.var (.agg [.v (.int .i64),.v (.int .i64),.own 1 Zb,.iface 69 (.v (.st []))]) true,.log Zb 36,.var (.v (.st [])) true,.var (.v (.arr 32 .u8)) true,.var (.v (.arr 16 .u8)) true,.var (.v (.arr 32 .u8)) true,.var (.v (.arr 32 .u8)) true],[.bool,(.int .i64),(.int .i64),(.st []),(.sl Zb),(.st []),(.arr 32 .u8),(.arr 16 .u8),(.arr 32 .u8),(.arr 32 .u8)]⟩,⟨.exit 0,[(10,.ref 6 [])],[.var (.agg [.v (.int .i64),.v (.int .i64),.own 1 Zb,.iface 69 (.v (.st []))]) true,.log Zb 36,.var (.v (.st [])) true,.var (.v (.arr 32 .u8)) true,.var (.v (.arr 16 .u8)) true,.var (.v (.arr 32 .u8)) true,.var (.v (.arr 32 .u8)) true],[(.int .i64),(.int .i64),(.st []),(.sl Zb),(.st []),(.arr 32 .u8),(.arr 16 .u8),(.arr 32 .u8),(.arr 32 .u8)]⟩],Zj (Xa fuel) fuel⟩
theorem Zdp:QP.Ok Tryz.prog (Zr Tryz.prog 160) (Zp Tryz.prog 160 0):=Zo (fi:={ hi:={ still:=[11,29,34,35]},lp:=[]}) (specs:={ l:=[ZbS,Zc9]}) (okS ⟨Zau,ZbU,trivial⟩) trivial (by kernel_rfl) (fun v=>by kernel_rfl)
def Vu (F:Nat) (a0:Unit) (a2:(List UInt8)) (a3:(List UInt8)) (a4:(List UInt8)) (s0_0:Int) (s0_1:Int) (s0_2:Unit) (s1:(List Zf)):Option (((List UInt8)×Bool×Int×Int×Unit×(List Zf))):=
 (Zj (Xa F) F ((s1.length:Int),(0:Int),s0_0,s0_1,s0_2,s1,a0,a2,a3,a4,([0,0,0,0,0,0,0,0,0,0,0,0,0,0,0,0,0,0,0,0,0,0,0,0,0,0,0,0,0,0,0,0]:List UInt8))).bind fun o438=>
 match o438 with
 |.inl o439=>
  some (o439.2.2.2.2.2.2.2.2.2,o439.1,o439.2.1,o439.2.2.1,o439.2.2.2.1,o439.2.2.2.2.1)
 |.inr o440=>
  some (([0,0,0,0,0,0,0,0,0,0,0,0,0,0,0,0,0,0,0,0,0,0,0,0,0,0,0,0,0,0,0,0]:List UInt8),false,o440.1,o440.2.1,o440.2.2.1,o440.2.2.2.1)
def Zfr (F:Nat):Fs Tryz.prog:=⟨160,[.v (.st []),.ref 0 [],.v (.arr 32 .u8),.v (.arr 16 .u8),.v (.arr 32 .u8)],[.var (.agg [.v (.int .i64),.v (.int .i64),.own 1 Zb,.iface 69 (.v (.st []))]) true,.log Zb 36],[(.st []),(.arr 32 .u8),(.arr 16 .u8),(.arr 32 .u8),(.int .i64),(.int .i64),(.st []),(.sl Zb)],[⟨.ret,[(0,.tup [.v (.arr 32 .u8),.v .bool])],[.var (.agg [.v (.int .i64),.v (.int .i64),.own 1 Zb,.iface 69 (.v (.st []))]) true,.log Zb 36],[(.arr 32 .u8),.bool,(.int .i64),(.int .i64),(.st []),(.sl Zb)]⟩],fun x=>Vu F x.1 x.2.1 x.2.2.1 x.2.2.2.1 x.2.2.2.2.1 x.2.2.2.2.2.1 x.2.2.2.2.2.2.1 x.2.2.2.2.2.2.2⟩
def ZaJ:Fs Tryz.prog:=Zfr fuel
theorem Zfs:ZaJ.Ok:=Zn (fi:={ hi:={ still:=[11,29,34,35]},lp:=[(0,QP)]}) (specs:={ l:=[]}) (okS trivial) ⟨Zdp,trivial⟩ (by decide+kernel) (fun x=>by kernel_rfl)
def YG (F:Nat) (a1:(List UInt8)) (a2:(List UInt8)) (a3:(List UInt8)) (s0_0:Int) (s0_1:Int) (s0_2:Unit) (s1:(List Zf)):Option (((List UInt8)×Bool×Int×Int×Unit×(List Zf))):=
 (Vu F s0_2 a1 a2 a3 s0_0 s0_1 s0_2 s1).bind fun o441=>
 some (o441.1,o441.2.1,o441.2.2.1,o441.2.2.2.1,o441.2.2.2.2.1,o441.2.2.2.2.2)
def ZgB (F:Nat):Fs Tryz.prog:=⟨22,[.ref 0 [],.v (.arr 32 .u8),.v (.arr 16 .u8),.v (.arr 32 .u8)],[.var (.agg [.v (.int .i64),.v (.int .i64),.own 1 Zb,.iface 69 (.v (.st []))]) true,.log Zb 36],[(.arr 32 .u8),(.arr 16 .u8),(.arr 32 .u8),(.int .i64),(.int .i64),(.st []),(.sl Zb)],[⟨.ret,[(0,.tup [.v (.arr 32 .u8),.v .bool])],[.var (.agg [.v (.int .i64),.v (.int .i64),.own 1 Zb,.iface 69 (.v (.st []))]) true,.log Zb 36],[(.arr 32 .u8),.bool,(.int .i64),(.int .i64),(.st []),(.sl Zb)]⟩],fun x=>YG F x.1 x.2.1 x.2.2.1 x.2.2.2.1 x.2.2.2.2.1 x.2.2.2.2.2.1 x.2.2.2.2.2.2⟩
def Za5:Fs Tryz.prog:=ZgB fuel
theorem ZgC:Za5.Ok:=Zn (fi:={ hi:={ still:=[9]},lp:=[]}) (specs:={ l:=[ZaJ],mt:=[(69, "corsned/tower.prove",160)]}) (okM ⟨Zfs,trivial⟩ ⟨Zt7,trivial⟩) trivial (by decide+kernel) (fun x=>by kernel_rfl)
def Yg (F:Nat) (a0:(List Zf)) (a1:(List Zf)) (a2:Tx) (a3:Tx) (a4:(List Tx)) (a5:(List UInt8)):Option (Bool):=
 ((some true)).bind fun o301=>
 if (decide ((a0.length:Int) > 30))=true then
  some o301
 else
 if (decide ((a1.length:Int) > 30))=true then
  some o301
 else
 if (decide ((a4.length:Int) > 5))=true then
  some o301
 else
 (Yu F a2).bind fun o302=>
 if (!o302)=true then
  some o301
 else
 (Yu F a3).bind fun o303=>
 if (!o303)=true then
  some o301
 else
 (ZdS F a3).bind fun o304=>
 if (decide ((o304.length:Int) > 8000))=true then
  some o301
 else
 (Zh9 F (1:Int) (100:Int)).bind fun o305=>
 match o305 with
 |.inl o306=>
  some false
 |.inr o307=>
  (Zdm F a2).bind fun o308=>
  (Xr F a3 o308).bind fun o309=>
  (XJ F a0 o309).bind fun o310=>
  if (!o310)=true then
   some o301
  else
  (Zj (Z0 F) F (a0,a1,a4,o301,(0:Int),a2,a3,a5,o307.1,o307.2.1,o307.2.2.1,o307.2.2.2,o309)).bind fun o323=>
  (ZP F o323.2.2.2.2.2.2.2.2.2.2 (1:Int) o323.2.2.2.2.2.2.1 o323.2.2.2.2.2.2.2.1 o323.2.2.2.2.2.2.2.2.1 o323.2.2.2.2.2.2.2.2.2.1).bind fun o324=>
  (Zj (Z1 F) F (o323.1,o323.2.1,o323.2.2.1,o324.1,(0:Int),o323.2.2.2.1,o323.2.2.2.2.1,o323.2.2.2.2.2.1,o324.2.1,o324.2.2.1,o324.2.2.2.1,o324.2.2.2.2,o323.2.2.2.2.2.2.2.2.2.2)).bind fun o327=>
  if (o327.2.2.1 !=0)=true then
   if (o327.2.2.1 !=4)=true then
    some false
   else
   if (apB 0 o327.1.length 56)=true then
    if (apB o327.1.length 1 56)=true then
     (XQ F (o327.1++([o327.2.2.2.1]:List Tx)) o327.2.2.2.2.2.2.1 o327.2.2.2.2.2.2.2.1 o327.2.2.2.2.2.2.2.2.1 o327.2.2.2.2.2.2.2.2.2.1).bind fun o430=>
     (Zj (ZB F) F (o327.2.1,o430.1,false,(0:Int),o327.2.2.2.1,o327.2.2.2.2.1,o327.2.2.2.2.2.1,o430.2.1,o430.2.2.1,o430.2.2.2.1,o430.2.2.2.2,o327.2.2.2.2.2.2.2.2.2.2,o327.1++([o327.2.2.2.1]:List Tx))).bind fun o433=>
     (ZJ F o433.2.2.2.2.2.2.2.2.2.1.2).bind fun o434=>
     (YG F o433.2.2.2.2.1 o433.2.2.2.2.2.2.2.2.2.1.1 o434 o433.2.2.2.2.2.1 o433.2.2.2.2.2.2.1 o433.2.2.2.2.2.2.2.1 o433.2.2.2.2.2.2.2.2.1).bind fun o442=>
     if o433.1=true then
      if o433.2.1=true then
       if o442.2.1=true then
        (Wj F o433.2.2.2.2.1 o433.2.2.2.2.2.2.2.2.2.1).bind fun o443=>
        some (decide (o442.1=o443))
       else
       some false
      else
      some false
     else
     some false
    else
    none
   else
   none
  else
  if (apB 0 o327.1.length 56)=true then
   if (apB o327.1.length 1 56)=true then
    (XQ F (o327.1++([o327.2.2.2.1]:List Tx)) o327.2.2.2.2.2.2.1 o327.2.2.2.2.2.2.2.1 o327.2.2.2.2.2.2.2.2.1 o327.2.2.2.2.2.2.2.2.2.1).bind fun o444=>
    (Zj (ZB F) F (o327.2.1,o444.1,false,(0:Int),o327.2.2.2.1,o327.2.2.2.2.1,o327.2.2.2.2.2.1,o444.2.1,o444.2.2.1,o444.2.2.2.1,o444.2.2.2.2,o327.2.2.2.2.2.2.2.2.2.2,o327.1++([o327.2.2.2.1]:List Tx))).bind fun o445=>
    (ZJ F o445.2.2.2.2.2.2.2.2.2.1.2).bind fun o446=>
    (YG F o445.2.2.2.2.1 o445.2.2.2.2.2.2.2.2.2.1.1 o446 o445.2.2.2.2.2.1 o445.2.2.2.2.2.2.1 o445.2.2.2.2.2.2.2.1 o445.2.2.2.2.2.2.2.2.1).bind fun o447=>
    if o445.1=true then
     if o445.2.1=true then
      if o447.2.1=true then
       (Wj F o445.2.2.2.2.1 o445.2.2.2.2.2.2.2.2.2.1).bind fun o448=>
       some (decide (o447.1=o448))
      else
      some false
     else
     some false
    else
    some false
   else
   none
  else
  none
def Zcm (F:Nat):Fs Tryz.prog:=⟨4,[.v (.sl Zb),.v (.sl Zb),.v yTx,.v yTx,.v (.sl yTx),.v (.arr 32 .u8)],[],[(.sl Zb),(.sl Zb),yTx,yTx,(.sl yTx),(.arr 32 .u8)],[⟨.ret,[(0,.v .bool)],[],[.bool]⟩],fun x=>Yg F x.1 x.2.1 x.2.2.1 x.2.2.2.1 x.2.2.2.2.1 x.2.2.2.2.2⟩
def Zcu:Fs Tryz.prog:=Zcm fuel
theorem Zcn:Zcu.Ok:=Zn (fi:={ hi:={ own:=[101,103,106],still:=[12,39,44,49,58,59,60,62,63,73,77,79,80,88,92,100,106,119,120,124,125,127,129,130,143,144]},lp:=[(0,Vd),(1,Ve),(2,Vf)]}) (specs:={ l:=[ZAG,Q2,Zie,ZkT,ZqL,QG,QO,Wp,Zcl,ZbS,Za5,Zc9]}) (okS ⟨ZBP,V3,Zge,Zi7,Znt,V4,QJ,Vs,Zhi,Zau,ZgC,ZbU,trivial⟩) ⟨ZaE,ZaF,ZaI,trivial⟩ (by decide+kernel) (fun x=>by kernel_rfl)
end
end Go.Proofs.YtehgcchjaamddaaGreat
end
section
set_option maxRecDepth 4000
namespace Go.Proofs.YtehgcchjaamddaaGreat
open Go Go.Ev
theorem Zvk {I X:Type} {step:I→Option (I⊕X)} {st:Nat→I} {x:X} (n:Nat) (hs:∀k,k < n→step (st k)=some (.inl (st (k+1)))) (he:step (st n)=some (.inr x)):∀(d k f:Nat),k+d=n→d < f→Zj step f (st k)=some x
 |0,k,f+1,h,_=>by
  have e:k=n:=by omega
  subst e
  unfold Zj
  rw [he,Option.bind_some]
 |d+1,k,f+1,h,hf=>by
  unfold Zj
  rw [hs k (by omega),Option.bind_some]
  exact Zvk n hs he d (k+1) f (by omega) (by omega)
theorem Xb {I X:Type} {step:I→Option (I⊕X)} (n:Nat) (st:Nat→I) {x:X} (hs:∀k,k < n→step (st k)=some (.inl (st (k+1)))) (he:step (st n)=some (.inr x)) (hn:n < 18446744073709551616):
 Zj step fuel (st 0)=some x:=Zvk n hs he n 0 fuel (by omega) (by rw [Zi5];exact hn)
theorem ZsA {I X:Type} {step:I→Option (I⊕X)} {Post:X→Prop} (n:Nat) (S:Nat→I→Prop) (hs:∀k s,k < n→S k s→(∃t,step s=some (.inl t)∧S (k+1) t)∨∃x,step s=some (.inr x)∧Post x)
 (he:∀s,S n s→∃x,step s=some (.inr x)∧Post x):∀(d k f:Nat) (s:I),k+d=n→d < f→S k s→∃x,Zj step f s=some x∧Post x
 |0,k,f+1,s,h,_,hS=>by
  have e:k=n:=by omega
  subst e
  obtain ⟨x,h1,h2⟩:=he s hS
  unfold Zj
  rw [h1,Option.bind_some]
  exact ⟨x,rfl,h2⟩
 |d+1,k,f+1,s,h,hf,hS=>by
  unfold Zj
  rcases hs k s (by omega) hS with ⟨t,h1,h2⟩|⟨x,h1,h2⟩
  ·rw [h1,Option.bind_some]
   exact ZsA n S hs he d (k+1) f t (by omega) (by omega) h2
  ·rw [h1,Option.bind_some]
   exact ⟨x,rfl,h2⟩
theorem YM {I X:Type} {step:I→Option (I⊕X)} (n:Nat) (S:Nat→I→Prop) (Post:X→Prop) {i:I} (h0:S 0 i) (hn:n < 18446744073709551616)
 (hs:∀k s,k < n→S k s→(∃t,step s=some (.inl t)∧S (k+1) t)∨∃x,step s=some (.inr x)∧Post x)
 (he:∀s,S n s→∃x,step s=some (.inr x)∧Post x):∃x,Zj step fuel i=some x∧Post x:=ZsA n S hs he n 0 fuel i (by omega) (by rw [Zi5];exact hn) h0
theorem Ys {a b:Nat} (h:a < b):decide ((a:Int) < (b:Int))=true:=decide_eq_true (by omega)
theorem ZM {a:Nat}:decide ((a:Int) < (a:Int))=false:=decide_eq_false (by omega)
theorem Zv {k:Nat} (h:k < 9223372036854775807):wi ((k:Int)+1)=((k+1:Nat):Int):=by
 rw [Yp (by omega) (by omega)]
 omega
theorem ZH {α:Type} {l:List α} {k:Nat} {y:α} (h:l[k]? =some y):idx l (k:Int)=some y:=Zac (by omega) (by simpa using h)
theorem Zpn {α:Type} {ls:List (List α)} {k:Nat} {e:List α} (h:ls[k]? =some e):(ls.take (k+1)).flatten=(ls.take k).flatten++e:=by
 rw [List.take_add_one,h]
 simp
theorem Zvl {α:Type} (ls:List (List α)) (k:Nat):(ls.take k).flatten.length≤ls.flatten.length:=by
 have h:=congrArg (fun l=>(List.flatten l).length) (List.take_append_drop k ls)
 simp only [List.flatten_append,List.length_append] at h
 omega
theorem Zai {α:Type} {l:List α} {k:Nat} {e:α} (h:l[k]? =some e):l.take (k+1)=l.take k++[e]:=by
 rw [List.take_add_one,h]
 rfl
theorem Zw {α:Type} {l:List α} {k:Nat} (h:k < l.length):∃e,l[k]? =some e∧e∈l:=⟨l[k],List.getElem?_eq_getElem h,List.getElem_mem h⟩
theorem Zpo {ls:List (List UInt8)} (h:ls.flatten.length≤1000000000) (hn:ls.length≤1000):Yf fuel ls=some ls.flatten:=by
 unfold Yf
 rw [show (ls,(0:Int),ls,(ls.length:Int),(0:Int))=(fun k:Nat=>(ls,((ls.take k).flatten.length:Int),ls,(ls.length:Int),(k:Int))) 0 from rfl,
  Xb (x:=(ls,(ls.flatten.length:Int))) ls.length (fun k:Nat=>(ls,((ls.take k).flatten.length:Int),ls,(ls.length:Int),(k:Int))) ?_ ?_ (by omega),Option.bind_some]
 ·have hg:Zm5 (ls.flatten.length:Int)=some []:=by
   unfold Zm5
   rw [if_pos]
   rw [Bool.and_eq_true]
   exact ⟨decide_eq_true (by omega),decide_eq_true (by unfold bytesBound;omega)⟩
  dsimp only
  rw [hg,Option.bind_some,show (ls,(ls.length:Int),(0:Int),([]:List UInt8))=(fun k:Nat=>(ls,(ls.length:Int),(k:Int),(ls.take k).flatten)) 0 from rfl,
   Xb (x:=ls.flatten) ls.length (fun k:Nat=>(ls,(ls.length:Int),(k:Int),(ls.take k).flatten)) ?_ ?_ (by omega),Option.bind_some]
  ·intro k hk
   obtain ⟨e,he,_⟩:=Zw hk
   have hf:=Zpn he
   have hl:=Zvl ls (k+1)
   rw [hf,List.length_append] at hl
   unfold Yo
   dsimp only
   rw [if_pos (Ys hk),ZH he,Option.bind_some,if_pos (Yb (by omega) (by omega)),Zv (by omega),hf]
  ·unfold Yo
   dsimp only
   rw [if_neg (by rw [ZM];decide),List.take_length]
 ·intro k hk
  obtain ⟨e,he,_⟩:=Zw hk
  have hf:=Zpn he
  have hl:=Zvl ls (k+1)
  rw [hf,List.length_append] at hl
  unfold Yn
  dsimp only
  rw [if_pos (Ys hk),ZH he,Option.bind_some,Yp (z:=((ls.take k).flatten.length:Int)+(e.length:Int)) (by omega) (by omega),if_neg (by rw [decide_eq_true_iff];omega),Zv (by omega),hf,List.length_append]
  rfl
 ·unfold Yn
  dsimp only
  rw [if_neg (by rw [ZM];decide),List.take_length]
theorem ZqT {a b:List UInt8} (h:a.length+b.length≤1000000000):VP fuel a b=some (a++b):=by
 unfold VP
 rw [Zpo (by simp;omega) (by simp),Option.bind_some]
 simp
def YQ (n:Nat):List UInt8:=if h:n < 128 then [UInt8.ofNat n] else UInt8.ofNat (n % 128+128)::YQ (n / 128)
termination_by n
decreasing_by omega
theorem ZeP {n:Nat} (h:n < 128):YQ n=[UInt8.ofNat n]:=by rw [YQ,dif_pos h]
theorem ZnH {n:Nat} (h:¬n < 128):YQ n=UInt8.ofNat (n % 128+128)::YQ (n / 128):=by rw [YQ,dif_neg h]
theorem Zvm:∀(j n:Nat),n < 128 ^ (j+1)→(YQ n).length≤j+1
 |0,n,h=>by rw [ZeP (by omega)];exact Nat.le_refl _
 |j+1,n,h=>by
  by_cases h0:n < 128
  ·rw [ZeP h0,List.length_singleton];omega
  ·rw [ZnH h0]
   have:=Zvm j (n / 128) (by rw [Nat.pow_succ] at h;omega)
   simp only [List.length_cons]
   omega
theorem ZG {n:Nat} (h:n≤9223372036854775807):(YQ n).length≤9:=Zvm 8 n (by omega)
theorem ZAh (n:Nat):YQ n≠[]:=by
 rw [YQ]
 split <;> simp
theorem ZyI {n:Nat} (h:n≤9223372036854775807):ZdP fuel (n:Int)=some (YQ n):=by
 unfold ZdP
 refine Exists.elim (Z3 (step:=Zbn fuel) (fun s=>∃m:Nat,s.1=(m:Int)∧m≤n∧s.2++YQ m=YQ n) (fun s=>s.1.toNat) (fun x=>∃m:Nat,x.1=(m:Int)∧m < 128∧x.2++YQ m=YQ n) ?_ ((n:Int),([]:List UInt8)) ⟨n,rfl,Nat.le_refl _,rfl⟩ (by dsimp only;omega)) ?_
 ·rintro ⟨_,o⟩ ⟨m,rfl,hm,ho⟩
  unfold Zbn
  dsimp only at ho ⊢
  have hr:=congrArg List.length ho
  have hl:=ZG h
  rw [List.length_append] at hr
  by_cases h1:m < 128
  ·right
   rw [if_neg (by rw [decide_eq_true_iff];omega)]
   exact ⟨_,rfl,m,rfl,h1,ho⟩
  ·left
   rw [if_pos (decide_eq_true (by omega)),if_pos (Yb (by omega) (by omega))]
   have e1:Int.tmod (m:Int) 128=((m % 128:Nat):Int):=rfl
   have e2:Int.tdiv (m:Int) 128=((m / 128:Nat):Int):=rfl
   rw [e1,e2,Yp (z:=((m % 128:Nat):Int)+128) (by omega) (by omega),Yp (z:=((m / 128:Nat):Int)) (by omega) (by omega)]
   refine ⟨_,rfl,⟨m / 128,rfl,by omega, ?_⟩,by dsimp only;omega⟩
   dsimp only
   rw [←ho,ZnH h1,List.append_assoc]
   congr 1
   rw [List.singleton_append]
   congr 1
   unfold w8
   congr 1
   omega
 ·rintro ⟨_,o⟩ ⟨h1,m,rfl,h2,h3⟩
  dsimp only at h3 ⊢
  have hr:=congrArg List.length h3
  have hl:=ZG h
  rw [List.length_append] at hr
  rw [h1,Option.bind_some]
  dsimp only
  rw [if_pos (Yb (by omega) (by omega)), ←h3,ZeP h2]
  congr 3
  unfold w8
  congr 1
  omega
theorem Zco {b:List UInt8} {z:Int} (h0:0≤z) (h:z≤9223372036854775807) (hb:b.length≤1000000):YT fuel b z=some (b++YQ z.toNat):=by
 obtain ⟨n,rfl⟩:=Int.eq_ofNat_of_zero_le h0
 have:=ZG (n:=n) (by omega)
 unfold YT
 rw [if_neg (by rw [decide_eq_true_iff];omega),ZyI (by omega),Option.bind_some,ZqT (by omega),Option.bind_some,Int.toNat_natCast]
theorem Zt8 {b h:List UInt8} (hb:b.length≤1000000) (hh:h.length≤1000000):Zae fuel b h=some (b++h):=by
 unfold Zae
 rw [ZqT (by omega),Option.bind_some]
theorem ZsB {b c:List UInt8} (hb:b.length≤1000000) (hc:c.length≤1000000):QA fuel b c=some (b++(YQ c.length++c)):=by
 have:=ZG (n:=c.length) (by omega)
 unfold QA
 rw [ZyI (by omega),Option.bind_some,Zpo (by simp;omega) (by simp),Option.bind_some]
 simp
end Go.Proofs.YtehgcchjaamddaaGreat
end
section
set_option maxRecDepth 4000
namespace Go.Proofs.YtehgcchjaamddaaGreat
open Go Go.Ev
def ZjM (l:List UInt8) (n k:Nat):List UInt8:=l.take k++List.replicate (n - k) 0
theorem Zwu {l:List UInt8} {n k:Nat} (h:k < l.length) (h2:l.length≤n):(ZjM l n k)[k]? =some 0:=by
 unfold ZjM
 have h3:(l.take k).length=k:=by simp;omega
 rw [List.getElem?_append_right (by omega),h3,List.getElem?_replicate]
 simp
 omega
theorem Zwv {l:List UInt8} {n k:Nat} {d:UInt8} (hx:l[k]? =some d) (h2:l.length≤n):(ZjM l n k).set k d=ZjM l n (k+1):=by
 have h:k < l.length:=(List.getElem?_eq_some_iff.1 hx).1
 have h3:(l.take k).length=k:=by simp;omega
 unfold ZjM
 rw [Zai hx,List.set_append_right _ _ (by omega),h3,Nat.sub_self]
 have e:n - k=(n - (k+1))+1:=by omega
 rw [e,List.replicate_succ]
 simp
theorem Zww {l:List UInt8} {n:Nat} (h:l.length=n):ZjM l n n=l:=by
 unfold ZjM
 rw [←h]
 simp
def ZgD (n:Nat):List UInt8:=(List.range 8).map fun i=>UInt8.ofNat (n / 2 ^ (56 - 8*i))
theorem Yx (n:Nat):(ZgD n).length=8:=by simp [ZgD]
theorem ZsC (n:Nat) {k:Nat} (hk:k < 8):(ZgD n)[k]? =some (UInt8.ofNat (n / 2 ^ (56 - 8*k))):=by simp [ZgD,hk]
theorem ZyJ (x:UInt64) {m:Nat}:w8 ((Ye x m).toNat:Int)=UInt8.ofNat (x.toNat / 2 ^ m):=by
 unfold w8 Ye
 have h:x.toNat / 2 ^ m < 18446744073709551616:=Nat.lt_of_le_of_lt (Nat.div_le_self ..) (UInt64.toNat_lt _)
 rw [UInt64.toNat_ofNat',Nat.mod_eq_of_lt h]
 apply UInt8.toNat_inj.1
 rw [UInt8.toNat_ofNat',UInt8.toNat_ofNat']
 omega
theorem Zd2 {b:List UInt8} (x:UInt64) (hb:b.length≤1000000):XI fuel b x=some (b++ZgD x.toNat):=by
 unfold XI
 rw [show (b,x,(0:Int),([0,0,0,0,0,0,0,0]:List UInt8))=(fun k:Nat=>(b,x,(k:Int),ZjM (ZgD x.toNat) 8 k)) 0 from rfl,
  Xb (x:=(b,ZgD x.toNat)) 8 (fun k:Nat=>(b,x,(k:Int),ZjM (ZgD x.toNat) 8 k)) ?_ ?_ (by omega),Option.bind_some]
 ·dsimp only
  rw [ZqT (by rw [Yx];omega),Option.bind_some]
 ·intro k hk
  unfold VH
  dsimp only
  have hl:=Yx x.toNat
  rw [if_pos (decide_eq_true (by omega)),Yp (z:=8*(k:Int)) (by omega) (by omega),Yp (z:=56 - 8*(k:Int)) (by omega) (by omega),if_pos (decide_eq_true (by omega)),if_pos (XR (by omega) (by omega)),
   Int.toNat_natCast,Zwu (by omega) (by omega),Option.bind_some,Zv (by omega)]
  have e:min (56 - 8*(k:Int)).toNat 64=56 - 8*k:=by omega
  rw [e,ZyJ,Zwv (ZsC _ hk) (by omega)]
 ·unfold VH
  dsimp only
  rw [if_neg (by simp),Zww (Yx _)]
def beF (l:List UInt8):Nat→Nat
 |0=>0
 |k+1=>beF l k*256+((l[k]?).map UInt8.toNat).getD 0
theorem ZyK (l:List UInt8):∀k,beF l k < 256 ^ k
 |0=>by simp [beF]
 |k+1=>by
  have:=ZyK l k
  have h:((l[k]?).map UInt8.toNat).getD 0 < 256:=by
   cases l[k]? with
   |none=>simp
   |some d=>exact d.toNat_lt
  rw [beF,Nat.pow_succ]
  omega
theorem Zvn (n:Nat):∀k,k≤8→n < 18446744073709551616→beF (ZgD n) k=n / 2 ^ (64 - 8*k)
 |0,_,h=>by rw [beF,Nat.div_eq_of_lt (by omega)]
 |k+1,hk,h=>by
  rw [beF,Zvn n k (by omega) h,ZsC n (by omega)]
  have e:(64 - 8*k)=(56 - 8*k)+8:=by omega
  have e2:64 - 8*(k+1)=56 - 8*k:=by omega
  rw [e,e2,Nat.pow_add, ←Nat.div_div_eq_div_mul]
  simp
  omega
def ZaK (r:Ze) (n:Nat):List UInt8×Ze:=if r.2=true∨r.1.length < n then ([],([],true)) else (r.1.take n,(r.1.drop n,r.2))
theorem ZeQ {n:Nat} {z:Int} (h0:0≤z) (h:z≤(n:Int)):Vw n (some z) none=true:=by simp [Vw,h0,h]
theorem ZeR {n:Nat} {z:Int} (h0:0≤z) (h:z≤(n:Int)):Vw n none (some z)=true:=by simp [Vw,h0,h]
theorem ZsD {l:List UInt8} (h:l.length≤1000000000):ZO fuel l=some l:=by
 unfold ZO
 rw [if_pos (Yb (by omega) (by omega))]
theorem ZqU {z:Int} {r:Ze} (h0:0≤z) (h:r.1.length≤1000000):YW fuel z r=some (ZaK r z.toNat):=by
 obtain ⟨b,no⟩:=r
 obtain ⟨n,rfl⟩:=Int.eq_ofNat_of_zero_le h0
 unfold YW ZaK XK
 dsimp only at h ⊢
 rw [Int.toNat_natCast]
 by_cases h1:no=true
 ·rw [if_pos h1,Option.bind_some,if_pos (.inl h1)]
 by_cases h2:b.length < n
 ·rw [if_neg h1,if_pos (decide_eq_true (by omega)),Option.bind_some,if_pos (.inr h2)]
 rw [if_neg h1,if_neg (by rw [decide_eq_true_iff];omega),if_pos (ZeR (by omega) (by omega)),ZsD (by rw [List.length_take];omega),Option.bind_some,if_pos (ZeQ (by omega) (by omega)),if_neg (by rintro (h|h);exact h1 h;exact h2 h)]
theorem Zd3 (r:Ze) (n:Nat):(ZaK r n).1.length≤n∧(ZaK r n).2.1.length≤r.1.length:=by
 unfold ZaK
 split
 ·simp
 ·simp;omega
theorem ZnI {b r:List UInt8} {n:Nat} (h:b.length=n):ZaK (b++r,false) n=(b,(r,false)):=by
 subst h
 unfold ZaK
 rw [if_neg (by simp)]
 simp
def Zli (r:Ze):List UInt8×Ze:=((ZaK r 32).1++List.replicate (32 - (ZaK r 32).1.length) 0,(ZaK r 32).2)
theorem ZsE {r:Ze} (h:r.1.length≤1000000):WM fuel r=some (Zli r):=by
 unfold WM Zli
 rw [ZqU (by omega) h,Option.bind_some]
 have hl:=Zd3 r 32
 rw [show (32:Int).toNat=32 from rfl,if_pos (by rw [Bool.and_eq_true];exact ⟨decide_eq_true hl.1,rfl⟩)]
 generalize (ZaK r 32).1=l at hl
 rw [List.take_zero,List.nil_append,show ([0,0,0,0,0,0,0,0,0,0,0,0,0,0,0,0,0,0,0,0,0,0,0,0,0,0,0,0,0,0,0,0]:List UInt8)=List.replicate 32 0 from rfl,List.drop_replicate,Nat.zero_add]
theorem Zwx (r:Ze):(Zli r).1.length=32∧(Zli r).2.1.length≤r.1.length:=by
 have hl:=Zd3 r 32
 unfold Zli
 rw [List.length_append,List.length_replicate]
 exact ⟨by omega,hl.2⟩
theorem ZyL {b r:List UInt8} (h:b.length=32):Zli (b++r,false)=(b,(r,false)):=by
 unfold Zli
 rw [ZnI h,h]
 simp
def Zwy (r:Ze):UInt64×Ze:=(UInt64.ofNat (beF (ZaK r 8).1 (ZaK r 8).1.length),(ZaK r 8).2)
theorem ZyM {l:List UInt8} {k:Nat} {d:UInt8} (hk:k < 8) (hx:l[k]? =some d):(ZaV (UInt64.ofNat (beF l k)) 8)|||(UInt64.ofNat d.toNat)=UInt64.ofNat (beF l (k+1)):=by
 have h1:=ZyK l k
 have h2:256 ^ k≤256 ^ 7:=Nat.pow_le_pow_right (by omega) (by omega)
 have h3:=d.toNat_lt
 apply UInt64.toNat_inj.1
 unfold ZaV
 rw [UInt64.toNat_or,UInt64.toNat_ofNat',UInt64.toNat_ofNat',UInt64.toNat_ofNat',UInt64.toNat_ofNat',Nat.mod_eq_of_lt (a:=beF l k) (by omega),Nat.mod_eq_of_lt (a:=d.toNat) (by omega),Nat.mod_eq_of_lt (a:=beF l k*2 ^ 8) (by omega),beF,hx,
  Nat.mul_comm (beF l k) (2 ^ 8), ←Nat.two_pow_add_eq_or_of_lt (by omega)]
 simp
 omega
theorem Zaj {r:Ze} (h:r.1.length≤1000000):Yl fuel r=some (Zwy r):=by
 unfold Yl Zwy
 rw [ZqU (by omega) h,Option.bind_some]
 have hl:=Zd3 r 8
 rw [show (8:Int).toNat=8 from rfl]
 generalize ZaK r 8=q at hl
 obtain ⟨l,s⟩:=q
 dsimp only at hl ⊢
 rw [show ((0:UInt64),l,(l.length:Int),(0:Int),s)=(fun k:Nat=>(UInt64.ofNat (beF l k),l,(l.length:Int),(k:Int),s)) 0 from rfl,
  Xb (x:=(UInt64.ofNat (beF l l.length),s)) l.length (fun k:Nat=>(UInt64.ofNat (beF l k),l,(l.length:Int),(k:Int),s)) ?_ ?_ (by omega),Option.bind_some]
 ·intro k hk
  obtain ⟨e,he,_⟩:=Zw hk
  unfold XW
  dsimp only
  rw [if_pos (Ys hk),ZH he,Option.bind_some,ZyM (by omega) he,Zv (by omega)]
 ·unfold XW
  dsimp only
  rw [if_neg (by rw [ZM];decide)]
theorem ZgE (r:Ze):(Zwy r).2.1.length≤r.1.length:=(Zd3 r 8).2
theorem ZjN (x:UInt64) (r:List UInt8):Zwy (ZgD x.toNat++r,false)=(x,(r,false)):=by
 unfold Zwy
 rw [ZnI (Yx _),Yx]
 dsimp only
 rw [Zvn _ 8 (by omega) (UInt64.toNat_lt _)]
 simp
def Wb (b:List UInt8):Nat→Nat→Nat→Bool×Nat×Nat
 |0,k,_=>(false,0,k)
 |f+1,k,n=>match b[k]? with
  |none=>(false,0,k)
  |some d=>if 8 < k∨(0 < k∧d.toNat=0) then (false,0,k) else if d.toNat < 128 then (true,n+d.toNat % 128*128 ^ k,k+1) else Wb b f (k+1) (n+d.toNat % 128*128 ^ k)
theorem Zip {b:List UInt8} {f k n:Nat} (h:b.length≤k):Wb b (f+1) k n=(false,0,k):=by
 simp [Wb,List.getElem?_eq_none h]
theorem Zkv {b:List UInt8} {f k n:Nat} {d:UInt8} (hx:b[k]? =some d) (h:8 < k):Wb b (f+1) k n=(false,0,k):=by
 simp [Wb,hx,h]
theorem ZeS {b:List UInt8} {f k n:Nat} {d:UInt8} (hx:b[k]? =some d) (_:¬8 < k) (h:0 < k∧d.toNat=0):Wb b (f+1) k n=(false,0,k):=by
 rw [Wb,hx]
 exact if_pos (.inr h)
theorem ZeT {b:List UInt8} {f k n:Nat} {d:UInt8} (hx:b[k]? =some d) (h2:¬8 < k) (h3:¬(0 < k∧d.toNat=0)) (h4:d.toNat < 128):Wb b (f+1) k n=(true,n+d.toNat % 128*128 ^ k,k+1):=by
 rw [Wb,hx]
 show (if 8 < k∨(0 < k∧d.toNat=0) then _ else _)=_
 rw [if_neg (by rintro (h|h);exact h2 h;exact h3 h),if_pos h4]
theorem ZeU {b:List UInt8} {f k n:Nat} {d:UInt8} (hx:b[k]? =some d) (h2:¬8 < k) (h3:¬(0 < k∧d.toNat=0)) (h4:¬d.toNat < 128):Wb b (f+1) k n=Wb b f (k+1) (n+d.toNat % 128*128 ^ k):=by
 rw [Wb,hx]
 show (if 8 < k∨(0 < k∧d.toNat=0) then _ else _)=_
 rw [if_neg (by rintro (h|h);exact h2 h;exact h3 h),if_neg h4]
theorem ZsF (n k:Nat) (d:UInt8) (hn:n < 128 ^ k) (hk:k≤8):n+d.toNat % 128*128 ^ k < 9223372036854775808:=by
 have h1:d.toNat % 128*128 ^ k≤127*128 ^ k:=Nat.mul_le_mul_right _ (by omega)
 have h2:128 ^ (k+1)≤128 ^ 9:=Nat.pow_le_pow_right (by omega) (by omega)
 rw [Nat.pow_succ] at h2
 omega
theorem Zpp (n k:Nat) (d:UInt8) (hn:n < 128 ^ k):n+d.toNat % 128*128 ^ k < 128 ^ (k+1):=by
 have h1:d.toNat % 128*128 ^ k≤127*128 ^ k:=Nat.mul_le_mul_right _ (by omega)
 rw [Nat.pow_succ]
 omega
theorem ZsG (b:List UInt8):∀(f k n:Nat),(Wb b f k n).1=true→(Wb b f k n).2.2≤b.length
 |0,k,n,h=>by simp [Wb] at h
 |f+1,k,n,h=>by
  by_cases h1:b.length≤k
  ·rw [Zip h1] at h;cases h
  have hx:=List.getElem?_eq_getElem (Nat.lt_of_not_le h1)
  by_cases h2:8 < k
  ·rw [Zkv hx h2] at h;cases h
  by_cases h3:0 < k∧b[k].toNat=0
  ·rw [ZeS hx h2 h3] at h;cases h
  by_cases h4:b[k].toNat < 128
  ·rw [ZeT hx h2 h3 h4];simp;omega
  ·rw [ZeU hx h2 h3 h4] at h ⊢
   exact ZsG b f _ _ h
theorem ZsH (b:List UInt8):∀(f k n:Nat),n < 128 ^ k→k≤9→(Wb b f k n).2.1≤9223372036854775807
 |0,k,n,h,_=>by simp [Wb]
 |f+1,k,n,h,hk=>by
  by_cases h1:b.length≤k
  ·rw [Zip h1];simp
  have hx:=List.getElem?_eq_getElem (Nat.lt_of_not_le h1)
  by_cases h2:8 < k
  ·rw [Zkv hx h2];simp
  by_cases h3:0 < k∧b[k].toNat=0
  ·rw [ZeS hx h2 h3];simp
  by_cases h4:b[k].toNat < 128
  ·rw [ZeT hx h2 h3 h4]
   have:=ZsF n k b[k] h (by omega)
   show n+b[k].toNat % 128*128 ^ k≤_
   omega
  ·rw [ZeU hx h2 h3 h4]
   exact ZsH b f _ _ (Zpp n k _ h) (by omega)
theorem Zvo {a:List UInt8} {k:Nat} {x:UInt8} {r:List UInt8} (h:a.length=k):(a++x::r)[k]? =some x:=by
 rw [List.getElem?_append_right (by omega),h,Nat.sub_self];rfl
theorem ZjO {n:Nat} (h:n < 256):(UInt8.ofNat n).toNat=n:=by simp [Nat.mod_eq_of_lt h]
theorem Zpq:∀(f n:Nat) (pre rest:List UInt8) (k acc:Nat),pre.length=k→k+(YQ n).length≤9→(YQ n).length≤f→(0 < k→0 < n)→
 Wb (pre++(YQ n++rest)) f k acc=(true,acc+n*128 ^ k,k+(YQ n).length)
 |0,n,pre,rest,k,acc,_,_,hf,_=>by
  have:=List.length_pos_iff.2 (ZAh n);omega
 |f+1,n,pre,rest,k,acc,hp,hk,hf,h0=>by
  by_cases h:n < 128
  ·rw [ZeP h] at hk ⊢
   have hx:(pre++([UInt8.ofNat n]++rest))[k]? =some (UInt8.ofNat n):=Zvo hp
   have e:(UInt8.ofNat n).toNat=n:=ZjO (by omega)
   simp at hk
   rw [ZeT hx (by omega) (by rw [e];omega) (by rw [e];exact h),e,Nat.mod_eq_of_lt h]
   rfl
  ·rw [ZnH h] at hk hf ⊢
   have hx:(pre++((UInt8.ofNat (n % 128+128)::YQ (n / 128))++rest))[k]? =some (UInt8.ofNat (n % 128+128)):=Zvo hp
   have e:(UInt8.ofNat (n % 128+128)).toNat=n % 128+128:=ZjO (by omega)
   simp only [List.length_cons] at hk hf ⊢
   rw [ZeU hx (by omega) (by rw [e];omega) (by rw [e];omega),e]
   have:=Zpq f (n / 128) (pre++[UInt8.ofNat (n % 128+128)]) rest (k+1) (acc+(n % 128+128) % 128*128 ^ k) (by simp [hp]) (by omega) (by omega) (by omega)
   rw [List.append_assoc] at this
   simp only [List.cons_append,List.nil_append] at this ⊢
   rw [this]
   have e2:n=n % 128+128*(n / 128):=by omega
   have e3:(n % 128+128) % 128=n % 128:=by omega
   rw [e3,Nat.pow_succ]
   refine Prod.ext rfl (Prod.ext ?_ (by simp;omega))
   show acc+n % 128*128 ^ k+n / 128*(128 ^ k*128)=acc+n*128 ^ k
   rw [show n / 128*(128 ^ k*128)=128*(n / 128)*128 ^ k by rw [Nat.mul_comm (128 ^ k) 128, ←Nat.mul_assoc,Nat.mul_comm (n / 128) 128],Nat.add_assoc, ←Nat.add_mul, ←e2]
def WH (r:Ze):Int×Ze:=if (Wb r.1 10 0 0).1=true then (((Wb r.1 10 0 0).2.1:Int),(r.1.drop (Wb r.1 10 0 0).2.2,r.2)) else (0,([],true))
theorem Zak {z:Int} (h0:0≤z) (hz:z≤9223372036854775807) (rest:List UInt8):WH (YQ z.toNat++rest,false)=(z,(rest,false)):=by
 obtain ⟨n,rfl⟩:=Int.eq_ofNat_of_zero_le h0
 have hl:=ZG (n:=n) (by omega)
 have:=Zpq 10 n [] rest 0 0 rfl (by omega) (by omega) (by omega)
 simp only [List.nil_append,Nat.zero_add,Nat.pow_zero,Nat.mul_one] at this
 unfold WH
 rw [Int.toNat_natCast]
 dsimp only
 rw [this]
 simp
theorem Vg (r:Ze):0≤(WH r).1∧(WH r).1≤9223372036854775807∧(WH r).2.1.length≤r.1.length:=by
 unfold WH
 split
 ·have:=ZsH r.1 10 0 0 (by omega) (by omega)
  refine ⟨by dsimp only;omega,by dsimp only;omega, ?_⟩
  rw [List.length_drop]
  omega
 ·simp
theorem ZyN {n k:Nat} {d:UInt8} (hn:n < 128 ^ k) (hk:k≤8):bits .or .i64 (n:Int) (wi (((d % 128).toNat:Int)*2 ^ (min (wi (7*(k:Int))).toNat 64)))=((n+d.toNat % 128*128 ^ k:Nat):Int):=by
 have e0:(wi (7*(k:Int)))=((7*k:Nat):Int):=by rw [Yp (by omega) (by omega)];omega
 have e1:min ((7*k:Nat):Int).toNat 64=7*k:=by omega
 have e2:128 ^ k=2 ^ (7*k):=by rw [Nat.pow_mul]
 have h1:=ZsF n k d hn hk
 have e3:((d % 128).toNat:Int)*2 ^ (7*k)=((d.toNat % 128*128 ^ k:Nat):Int):=by
  rw [e2,UInt8.toNat_mod]
  push_cast
  rfl
 rw [e0,e1,e3,Yp (by omega) (by omega)]
 refine Go.Ev.Zl1 (op:=.or) (k:=.i64) ?_ (by omega) ⟨by show -9223372036854775808≤_;omega,by show _≤9223372036854775807;omega⟩ (by omega) ⟨by show -9223372036854775808≤_;omega,by show _≤9223372036854775807;omega⟩ ⟨by show -9223372036854775808≤_;omega,by show _≤9223372036854775807;omega⟩
 show some _=some _
 congr 1
 simp only [Int.toNat_natCast]
 rw [e2] at hn ⊢
 have:=Nat.two_pow_add_eq_or_of_lt hn (d.toNat % 128)
 rw [Nat.mul_comm,Nat.or_comm, ←this]
 omega
theorem ZjP {b:List UInt8} {no:Bool} {k:Nat} (hb:b.length≤1000000) (h:b.length≤k∨8 < k∨(0 < k∧b[k]? =some 0)):YF fuel (k:Int) (b,no)=some (true,(k:Int),(b,no)):=by
 unfold YF
 dsimp only
 by_cases h1:b.length≤k
 ·rw [if_pos (decide_eq_true (by omega))]
 rw [if_neg (by rw [decide_eq_true_iff];omega)]
 by_cases h2:8 < k
 ·rw [if_pos (decide_eq_true (by omega))]
 rw [if_neg (by rw [decide_eq_true_iff];omega)]
 rcases h with h|h|⟨h,h3⟩
 ·exact absurd h h1
 ·exact absurd h h2
 rw [if_pos (decide_eq_true (by omega)),ZH h3,Option.bind_some]
 rfl
theorem Zwz {b:List UInt8} {no:Bool} {k:Nat} {d:UInt8} (hb:b.length≤1000000) (hx:b[k]? =some d) (h2:¬8 < k) (h3:¬(0 < k∧d.toNat=0)):YF fuel (k:Int) (b,no)=some (false,(k:Int),(b,no)):=by
 unfold YF
 have h1:k < b.length:=(List.getElem?_eq_some_iff.1 hx).1
 dsimp only
 rw [if_neg (by rw [decide_eq_true_iff];omega),if_neg (by rw [decide_eq_true_iff];omega)]
 by_cases h4:0 < k
 ·rw [if_pos (decide_eq_true (by omega)),ZH hx,Option.bind_some]
  have:(d==0)=false:=by
   rw [beq_eq_false_iff_ne]
   intro h
   exact h3 ⟨h4,by rw [h];rfl⟩
  rw [this]
 ·rw [if_neg (by rw [decide_eq_true_iff];omega)]
theorem ZsI {b:List UInt8} {no:Bool} (hb:b.length≤1000000):∀(f k n m:Nat),k+f=10→f < m→n < 128 ^ k→
 Zj (Y3 fuel) m ((n:Int),(b,no),(k:Int))=some (if (Wb b f k n).1=true then .inr (((Wb b f k n).2.1:Int),(b,no),((Wb b f k n).2.2:Int)) else .inl ((0:Int),([],true),((Wb b f k n).2.2:Int)))
 |f,k,n,0,_,h,_=>by omega
 |0,k,n,m+1,h,_,_=>by
  unfold Zj Y3
  dsimp only
  rw [ZjP hb (.inr (.inl (by omega))),Option.bind_some]
  rfl
 |f+1,k,n,m+1,h,hf,hn=>by
  unfold Zj Y3
  dsimp only
  by_cases h1:b.length≤k
  ·rw [Zip h1,ZjP hb (.inl h1),Option.bind_some]
   rfl
  obtain ⟨d,hx,_⟩:=Zw (l:=b) (k:=k) (by omega)
  by_cases h2:8 < k
  ·rw [Zkv hx h2,ZjP hb (.inr (.inl h2)),Option.bind_some]
   rfl
  by_cases h3:0 < k∧d.toNat=0
  ·rw [ZeS hx h2 h3,ZjP hb (.inr (.inr ⟨h3.1,by rw [hx,show d=0 from UInt8.toNat_inj.1 h3.2]⟩)),Option.bind_some]
   rfl
  rw [Zwz hb hx h2 h3,Option.bind_some]
  dsimp only
  rw [if_neg (by decide),ZH hx,Option.bind_some,ZyN hn (by omega),
   if_pos (decide_eq_true (by rw [Yp (by omega) (by omega)];omega)),Zv (by omega)]
  have hlt:decide (d < 128)=decide (d.toNat < 128):=by
   rw [Bool.eq_iff_iff,decide_eq_true_iff,decide_eq_true_iff,UInt8.lt_iff_toNat_lt]
   rfl
  rw [hlt]
  by_cases h4:d.toNat < 128
  ·rw [ZeT hx h2 h3 h4,if_pos (decide_eq_true h4)]
   rfl
  ·rw [ZeU hx h2 h3 h4,if_neg (by rw [decide_eq_true_iff];exact h4)]
   exact ZsI hb f (k+1) _ m (by omega) (by omega) (Zpp n k d hn)
theorem Wu {r:Ze} (h:r.1.length≤1000000):ZD fuel r=some (WH r):=by
 obtain ⟨b,no⟩:=r
 unfold ZD WH
 dsimp only at h ⊢
 have:=ZsI (no:=no) h 10 0 0 fuel (by omega) (by rw [Zi5];omega) (by omega)
 rw [show ((0:Nat):Int)=0 from rfl] at this
 rw [this,Option.bind_some]
 by_cases hg:(Wb b 10 0 0).1=true
 ·have hl:=ZsG b 10 0 0 hg
  rw [if_pos hg,if_pos hg]
  dsimp only
  rw [if_pos (ZeQ (by omega) (by omega)),Int.toNat_natCast]
 ·rw [if_neg hg,if_neg hg]
def ZgF (r:Ze):List UInt8×Ze:=if (WH r).2.2=true then ([],(WH r).2) else ZaK (WH r).2 (WH r).1.toNat
theorem ZsJ {r:Ze} (h:r.1.length≤1000000):Ws fuel r=some (ZgF r):=by
 unfold Ws ZgF
 have hl:=Vg r
 rw [Wu h,Option.bind_some]
 by_cases h1:(WH r).2.2=true
 ·rw [if_pos h1,if_pos h1]
 ·rw [if_neg h1,if_neg h1,ZqU hl.1 (by omega),Option.bind_some]
theorem Zt9 (r:Ze):(ZgF r).1.length≤r.1.length∧(ZgF r).2.1.length≤r.1.length:=by
 unfold ZgF
 have hl:=Vg r
 split
 ·exact ⟨by simp,hl.2.2⟩
 ·have h2:=Zd3 (WH r).2 (WH r).1.toNat
  refine ⟨?_,by omega⟩
  unfold ZaK
  split
  ·simp
  ·simp only [List.length_take];omega
theorem ZwA {c:List UInt8} (hc:c.length≤1000000) (rest:List UInt8):ZgF (YQ c.length++(c++rest),false)=(c,(rest,false)):=by
 unfold ZgF
 have:=Zak (z:=(c.length:Int)) (by omega) (by omega) (c++rest)
 rw [Int.toNat_natCast] at this
 rw [this,if_neg (by simp),Int.toNat_natCast,ZnI rfl]
theorem ZlS {b:List UInt8} (h:b.length≤1000000):Zcg fuel b=some (b,false):=by
 unfold Zcg
 rw [ZsD (by omega),Option.bind_some]
end Go.Proofs.YtehgcchjaamddaaGreat
end
section
set_option maxRecDepth 4000
namespace Go.Proofs.YtehgcchjaamddaaGreat
open Go Go.Ev
theorem Zvp (a m:UInt64):(a - a / m*m).toNat=a.toNat % m.toNat:=by
 have h1:a.toNat / m.toNat*m.toNat≤a.toNat:=Nat.div_mul_le_self _ _
 have h2:=UInt64.toNat_lt a
 have h3:(a / m*m).toNat=a.toNat / m.toNat*m.toNat:=by
  rw [UInt64.toNat_mul,UInt64.toNat_div,Nat.mod_eq_of_lt (by omega)]
 have h4:(a / m*m)≤a:=by rw [UInt64.le_iff_toNat_le,h3];exact h1
 rw [UInt64.toNat_sub_of_le _ _ h4,h3]
 have:=Nat.div_add_mod a.toNat m.toNat
 rw [Nat.mul_comm] at this
 omega
theorem ZsK {r y:UInt64} (hr:r.toNat < 4294967296) (hy:y.toNat < 4294967296) (h:¬(r+y ≥ 4294967296)):(r+y).toNat=r.toNat+y.toNat∧(r+y).toNat < 4294967296:=by
 have e:(r+y).toNat=r.toNat+y.toNat:=by
  rw [UInt64.toNat_add,Nat.mod_eq_of_lt (by omega)]
 refine ⟨e, ?_⟩
 rw [ge_iff_le,UInt64.le_iff_toNat_le] at h
 exact Nat.lt_of_not_le h
theorem ZBQ {yn1:UInt64} (h1:2147483648≤yn1.toNat) (h2:yn1.toNat < 4294967296) (i) (hi:i.2.2.1=yn1) (hr:i.2.2.2.2.2.2.2.2.toNat < 4294967296):∃x,Zj (W2 fuel) fuel i=some x∧x.2.2.1=yn1:=by
 refine Z3 (step:=W2 fuel) (fun s=>s.2.2.1=yn1∧s.2.2.2.2.2.2.2.2.toNat < 4294967296) (fun s=>4294967296 - s.2.2.2.2.2.2.2.2.toNat) (fun x=>x.2.2.1=yn1) ?_ i ⟨hi,hr⟩ (by omega)
 rintro ⟨a,b,c,d,e,f,g,q,r⟩ ⟨k1,k2⟩
 dsimp only at k1 k2
 subst k1
 unfold W2
 dsimp only
 have key:(∃j,(if decide (r+c ≥ 4294967296)=true then some (Sum.inr (a,b,c,d,e,f,g,q - 1)) else some (Sum.inl (a,b,c,d,e,f,g,q - 1,r+c)):Option ((UInt64×UInt64×UInt64×UInt64×UInt64×UInt64×UInt64×UInt64×UInt64)⊕(UInt64×UInt64×UInt64×UInt64×UInt64×UInt64×UInt64×UInt64)))=some (.inl j)∧(j.2.2.1=c∧j.2.2.2.2.2.2.2.2.toNat < 4294967296)∧4294967296 - j.2.2.2.2.2.2.2.2.toNat < 4294967296 - r.toNat)∨
  (∃x,(if decide (r+c ≥ 4294967296)=true then some (Sum.inr (a,b,c,d,e,f,g,q - 1)) else some (Sum.inl (a,b,c,d,e,f,g,q - 1,r+c)):Option ((UInt64×UInt64×UInt64×UInt64×UInt64×UInt64×UInt64×UInt64×UInt64)⊕(UInt64×UInt64×UInt64×UInt64×UInt64×UInt64×UInt64×UInt64)))=some (.inr x)∧x.2.2.1=c):=by
  by_cases h:r+c ≥ 4294967296
  ·right
   rw [if_pos (decide_eq_true h)]
   exact ⟨_,rfl,rfl⟩
  ·left
   rw [if_neg (by rw [decide_eq_true_iff];exact h)]
   obtain ⟨m1,m2⟩:=ZsK k2 h2 h
   exact ⟨_,rfl,⟨rfl,m2⟩,by dsimp only;omega⟩
 split
 ·exact key
 ·split
  ·exact key
  ·right
   exact ⟨_,rfl,rfl⟩
theorem ZBR {yn1:UInt64} (h1:2147483648≤yn1.toNat) (h2:yn1.toNat < 4294967296) (i) (hi:i.2.2.1=yn1) (hr:i.2.2.2.2.2.2.1.toNat < 4294967296):∃x,Zj (W3 fuel) fuel i=some x∧True:=by
 refine Z3 (step:=W3 fuel) (fun s=>s.2.2.1=yn1∧s.2.2.2.2.2.2.1.toNat < 4294967296) (fun s=>4294967296 - s.2.2.2.2.2.2.1.toNat) (fun _=>True) ?_ i ⟨hi,hr⟩ (by omega)
 rintro ⟨a,b,c,d,e,f,r,g,q⟩ ⟨k1,k2⟩
 dsimp only at k1 k2
 subst k1
 unfold W3
 dsimp only
 have key:(∃j,(if decide (r+c ≥ 4294967296)=true then some (Sum.inr (a,b,e,f,g,q - 1)) else some (Sum.inl (a,b,c,d,e,f,r+c,g,q - 1)):Option ((UInt64×UInt64×UInt64×UInt64×UInt64×UInt64×UInt64×UInt64×UInt64)⊕(UInt64×UInt64×UInt64×UInt64×UInt64×UInt64)))=some (.inl j)∧(j.2.2.1=c∧j.2.2.2.2.2.2.1.toNat < 4294967296)∧4294967296 - j.2.2.2.2.2.2.1.toNat < 4294967296 - r.toNat)∨
  (∃x,(if decide (r+c ≥ 4294967296)=true then some (Sum.inr (a,b,e,f,g,q - 1)) else some (Sum.inl (a,b,c,d,e,f,r+c,g,q - 1)):Option ((UInt64×UInt64×UInt64×UInt64×UInt64×UInt64×UInt64×UInt64×UInt64)⊕(UInt64×UInt64×UInt64×UInt64×UInt64×UInt64)))=some (.inr x)∧True):=by
  by_cases h:r+c ≥ 4294967296
  ·right
   rw [if_pos (decide_eq_true h)]
   exact ⟨_,rfl,trivial⟩
  ·left
   rw [if_neg (by rw [decide_eq_true_iff];exact h)]
   obtain ⟨m1,m2⟩:=ZsK k2 h2 h
   exact ⟨_,rfl,⟨rfl,m2⟩,by dsimp only;omega⟩
 split
 ·exact key
 ·split
  ·exact key
  ·right
   exact ⟨_,rfl,trivial⟩
theorem ZBS:W1 fuel 4611686018427377339=some 2:=by kernel_rfl
theorem ZAi {a b:UInt64} (h:a.toNat < 4611686018427377339):∃o,ZcU fuel a b 4611686018427377339=some o:=by
 unfold ZcU
 rw [if_neg (by decide),if_neg (by rw [decide_eq_true_iff,UInt64.le_iff_toNat_le];exact Nat.not_le.2 h)]
 split
 ·rw [if_pos (by decide),if_pos (by decide)]
  exact ⟨_,rfl⟩
 rw [ZBS,Option.bind_some]
 dsimp only
 have e1:(ZaV 4611686018427377339 (min ((w64 2).toNat:Int).toNat 64))=18446744073709509356:=by kernel_rfl
 have e2:Ye 18446744073709509356 32=(4294967295:UInt64):=by kernel_rfl
 rw [e1,e2,if_pos (by decide)]
 generalize ((ZaV a (min ((w64 2).toNat:Int).toNat 64))|||_:UInt64)=u
 obtain ⟨x,x1,x2⟩:=ZBQ (yn1:=4294967295) (by decide) (by decide) (18446744073709509356,w64 2,4294967295,18446744073709509356&&&4294967295,u,Ye (ZaV b (min ((w64 2).toNat:Int).toNat 64)) 32,(ZaV b (min ((w64 2).toNat:Int).toNat 64))&&&4294967295,u / 4294967295,u - u / 4294967295*4294967295) rfl (by
  dsimp only
  rw [Zvp]
  exact Nat.lt_trans (Nat.mod_lt _ (by decide)) (by decide))
 rw [x1,Option.bind_some,x2,if_pos (by decide)]
 generalize (x.2.2.2.2.1*4294967296+x.2.2.2.2.2.1 - x.2.2.2.2.2.2.2*x.1:UInt64)=v
 obtain ⟨z,z1,_⟩:=ZBR (yn1:=4294967295) (by decide) (by decide) (x.1,x.2.1,4294967295,x.2.2.2.1,x.2.2.2.2.2.2.1,x.2.2.2.2.2.2.2,v - v / 4294967295*4294967295,v,v / 4294967295) rfl (by
  dsimp only
  rw [Zvp]
  exact Nat.lt_trans (Nat.mod_lt _ (by decide)) (by decide))
 rw [z1,Option.bind_some]
 exact ⟨_,rfl⟩
theorem ZAj (a b:UInt64):∃o,ZcV fuel a b 4611686018427377339=some o:=by
 unfold ZcV
 obtain ⟨o,h⟩:=ZAi (a:=a % 4611686018427377339) (b:=b) (by
  rw [UInt64.toNat_mod]
  exact Nat.mod_lt _ (by decide))
 rw [if_pos (by decide),h,Option.bind_some]
 exact ⟨_,rfl⟩
theorem Zpr (a b:UInt64):∃o,Vl fuel a b=some o:=by
 unfold Vl
 obtain ⟨q,hq⟩:∃q,Zf1 fuel a b=some q:=⟨_,rfl⟩
 obtain ⟨o,h⟩:=ZAj q.1 q.2
 rw [hq,Option.bind_some,h,Option.bind_some]
 exact ⟨_,rfl⟩
theorem ZwB (a n:UInt64):∃o,Qv fuel a n=some o:=by
 unfold Qv
 obtain ⟨x,h1,_⟩:=Z3 (step:=VG fuel) (fun _=>True) (fun s=>s.2.1.toNat) (fun _=>True) (by
  rintro ⟨a,n,o⟩ _
  unfold VG
  dsimp only
  by_cases h:n > 0
  ·left
   have hn:(Ye n 1).toNat < n.toNat:=by
    unfold Ye
    have h0:0 < n.toNat:=UInt64.lt_iff_toNat_lt.1 h
    rw [UInt64.toNat_ofNat']
    have:=UInt64.toNat_lt n
    omega
   obtain ⟨p,hp⟩:=Zpr o a
   obtain ⟨q,hq⟩:=Zpr a a
   rw [if_pos (decide_eq_true h),hp,hq,Option.bind_some,Option.bind_some]
   split
   ·exact ⟨_,rfl,trivial,hn⟩
   ·exact ⟨_,rfl,trivial,hn⟩
  ·right
   rw [if_neg (by rw [decide_eq_true_iff];exact h)]
   exact ⟨_,rfl,trivial⟩) (a,n,(1:UInt64)) trivial (UInt64.toNat_lt _)
 rw [h1,Option.bind_some]
 exact ⟨_,rfl⟩
theorem ZwC (p:UInt64):∃b,Qw fuel p=some b:=by
 unfold Qw
 split
 ·split
  ·obtain ⟨o,h⟩:=ZwB p 2305843009213688669
   rw [h,Option.bind_some]
   exact ⟨_,rfl⟩
  ·exact ⟨_,rfl⟩
 ·exact ⟨_,rfl⟩
theorem Zvq (p:UInt64):∃b,Vy fuel p=some b:=by
 unfold Vy
 obtain ⟨o,h⟩:=ZwC p
 rw [h,Option.bind_some]
 exact ⟨_,rfl⟩
theorem Zua {l:List UInt64} (hl:l.length≤9223372036854775807):∃b,ZeA fuel l=some b:=by
 unfold ZeA Zb4
 obtain ⟨x,h1,_⟩:=YM (step:=XH fuel) l.length (fun k s=>s=(l,(l.length:Int),(k:Int))) (fun _=>True) (i:=(l,(l.length:Int),(0:Int))) rfl (by omega) (by
  rintro k _ hk rfl
  obtain ⟨e,he,_⟩:=Zw hk
  obtain ⟨b,hb⟩:=Zvq e
  unfold XH
  dsimp only
  rw [if_pos (Ys hk),ZH he,Option.bind_some,hb,Option.bind_some,Zv (by omega)]
  cases b with
  |true=>right;exact ⟨_,rfl,trivial⟩
  |false=>left;exact ⟨_,rfl,rfl⟩) (by
  rintro _ rfl
  unfold XH
  dsimp only
  rw [if_neg (by rw [ZM];decide)]
  exact ⟨_,rfl,trivial⟩)
 rw [h1,Option.bind_some]
 cases x with
 |inl y=>exact ⟨_,rfl⟩
 |inr y=>exact ⟨_,rfl⟩
def ZaT (l:Xn):Prop:=l.length≤9223372036854775807∧∀b,b∈l→b.1.length≤9223372036854775807
def ZnJ (l:Xn):Prop:=0 < l.length∧l.length≤4∧∀b,b∈l→b.1.length≤12∧0≤b.2.1∧b.2.1≤1048576∧0≤b.2.2.1∧b.2.2.1≤1048576
theorem Zlj (z:Int):∃b,Qx fuel z=some b∧(b=true→0≤z∧z≤1048576):=by
 unfold Qx
 by_cases h:z ≥ 0
 ·rw [if_pos (decide_eq_true h)]
  exact ⟨_,rfl,fun h2=>⟨h,of_decide_eq_true h2⟩⟩
 ·rw [if_neg (by rw [decide_eq_true_iff];exact h)]
  exact ⟨_,rfl,fun h2=>by cases h2⟩
theorem Ziq {l:Xn} (hl:ZaT l):∃b,Xe fuel l=some b∧(b=true→ZnJ l):=by
 unfold Xe
 obtain ⟨h0,h1⟩:=hl
 obtain ⟨x,hx,hp⟩:=YM (step:=W4 fuel) l.length (fun k s=>s=(l,(l.length:Int),(k:Int),l)∧∀j b,j < k→l[j]? =some b→b.1.length≤12∧0≤b.2.1∧b.2.1≤1048576∧0≤b.2.2.1∧b.2.2.1≤1048576)
  (fun x=>x=.inl (false,l)∨(x=.inr l∧∀b,b∈l→b.1.length≤12∧0≤b.2.1∧b.2.1≤1048576∧0≤b.2.2.1∧b.2.2.1≤1048576)) (i:=(l,(l.length:Int),(0:Int),l)) ⟨rfl,fun j b hj=>by omega⟩ (by omega) (by
  rintro k _ hk ⟨rfl,hj⟩
  obtain ⟨e,he,hm⟩:=Zw hk
  have hnext:(e.1.length≤12∧0≤e.2.1∧e.2.1≤1048576∧0≤e.2.2.1∧e.2.2.1≤1048576)→∀j b,j < k+1→l[j]? =some b→b.1.length≤12∧0≤b.2.1∧b.2.1≤1048576∧0≤b.2.2.1∧b.2.2.1≤1048576:=by
   intro hE j b h2 h3
   by_cases h4:j < k
   ·exact hj j b h4 h3
   ·have:j=k:=by omega
    subst this
    rw [he] at h3
    cases h3
    exact hE
  unfold W4
  dsimp only
  rw [if_pos (Ys hk),ZH he,Option.bind_some]
  by_cases k1:(e.1.length:Int) > 12
  ·right
   rw [if_pos (decide_eq_true k1)]
   exact ⟨_,rfl,.inl rfl⟩
  rw [if_neg (by rw [decide_eq_true_iff];exact k1)]
  obtain ⟨b,hb⟩:=Zua (h1 e hm)
  rw [hb,Option.bind_some]
  cases b with
  |true=>right;exact ⟨_,rfl,.inl rfl⟩
  |false=>
   obtain ⟨c,hc,hc2⟩:=Zlj e.2.1
   obtain ⟨d,hd,hd2⟩:=Zlj e.2.2.1
   rw [if_neg (by decide),hc,Option.bind_some,hd,Option.bind_some]
   cases c with
   |false=>right;exact ⟨_,rfl,.inl rfl⟩
   |true=>
    cases d with
    |false=>right;exact ⟨_,rfl,.inl rfl⟩
    |true=>
     have hn:=hnext ⟨by omega,(hc2 rfl).1,(hc2 rfl).2,(hd2 rfl).1,(hd2 rfl).2⟩
     rw [if_neg (by decide),if_neg (by decide),Zv (by omega)]
     split
     ·obtain ⟨f,hf⟩:=Zvq e.2.2.2
      rw [hf,Option.bind_some]
      cases f with
      |true=>right;exact ⟨_,rfl,.inl rfl⟩
      |false=>left;exact ⟨_,rfl,rfl,hn⟩
     ·left;exact ⟨_,rfl,rfl,hn⟩) (by
  rintro _ ⟨rfl,hj⟩
  unfold W4
  dsimp only
  rw [if_neg (by rw [ZM];decide)]
  refine ⟨_,rfl,.inr ⟨rfl,fun b hb=> ?_⟩⟩
  obtain ⟨j,hj1,hj2⟩:=List.getElem_of_mem hb
  exact hj j b hj1 (by rw [List.getElem?_eq_getElem hj1,hj2]))
 rw [hx,Option.bind_some]
 rcases hp with rfl|⟨rfl,hp⟩
 ·exact ⟨_,rfl,fun h=>by cases h⟩
 ·dsimp only
  by_cases h2:(l.length:Int) > 0
  ·rw [if_pos (decide_eq_true h2)]
   refine ⟨_,rfl,fun h3=>⟨by omega, ?_,hp⟩⟩
   have:=of_decide_eq_true h3
   omega
  ·rw [if_neg (by rw [decide_eq_true_iff];exact h2)]
   exact ⟨_,rfl,fun h=>by cases h⟩
def ZlA (t:Tx):Prop:=(∀o,o∈t.2.1→ZaT o.2)∧(∀x,x∈t.1→x.1.1.length=32)∧t.2.2≤9223372036854775807
def ZqV (x:In):Prop:=0≤x.1.2∧x.1.2 < 64∧0≤x.2.1∧x.2.1 < 4∧x.2.2.1.length≤12
def ZnK (o:Out):Prop:=0≤o.1∧o.1≤1125899906842624∧Xe fuel o.2=some true
def ZwD (t:Tx):Prop:=0 < t.1.length∧t.1.length≤64∧t.2.1.length≤64∧0≤t.2.2∧(∀x,x∈t.1→ZqV x)∧∀o,o∈t.2.1→ZnK o
theorem ZqW (w:Zjg):∃b,Zav fuel w=some b∧(b=true→0≤w.1∧w.1 < 4∧w.2.1.length≤12):=by
 unfold Zav
 by_cases h:w.1 ≥ 0
 ·rw [if_pos (decide_eq_true h)]
  by_cases h2:w.1 < 4
  ·rw [if_pos (decide_eq_true h2)]
   exact ⟨_,rfl,fun h3=>⟨h,h2,by have:=of_decide_eq_true h3;omega⟩⟩
  ·rw [if_neg (by rw [decide_eq_true_iff];exact h2)]
   exact ⟨_,rfl,fun h2=>by cases h2⟩
 ·rw [if_neg (by rw [decide_eq_true_iff];exact h)]
  exact ⟨_,rfl,fun h2=>by cases h2⟩
theorem ZnL (z:Int):∃b,ZbW fuel z=some b∧(b=true→0≤z∧z≤1125899906842624):=by
 unfold ZbW
 by_cases h:z ≥ 0
 ·rw [if_pos (decide_eq_true h)]
  exact ⟨_,rfl,fun h2=>⟨h,of_decide_eq_true h2⟩⟩
 ·rw [if_neg (by rw [decide_eq_true_iff];exact h)]
  exact ⟨_,rfl,fun h2=>by cases h2⟩
theorem ZyO (a b:Int):∃r,Zjj fuel a b=some r∧(r.2=true→0≤b∧b≤1125899906842624):=by
 unfold Zjj
 obtain ⟨c,hc,_⟩:=ZnL a
 obtain ⟨d,hd,hd2⟩:=ZnL b
 rw [hc,Option.bind_some,hd,Option.bind_some]
 cases c with
 |false=>exact ⟨_,rfl,fun h=>by cases h⟩
 |true=>
  rw [if_neg (by decide)]
  cases d with
  |false=>exact ⟨_,rfl,fun h=>by cases h⟩
  |true=>
   rw [if_neg (by decide)]
   split
   ·exact ⟨_,rfl,fun h=>by cases h⟩
   ·exact ⟨_,rfl,fun _=>hd2 rfl⟩
theorem ZgG {t:Tx} (hw:ZlA t):∃b,Yu fuel t=some b∧(b=true→ZwD t):=by
 obtain ⟨ins,outs,note⟩:=t
 unfold Yu
 dsimp only
 have hw:∀o,o∈outs→ZaT o.2:=hw.1
 by_cases h1:(ins.length:Int) < 1
 ·rw [if_pos (decide_eq_true h1)]
  exact ⟨_,rfl,fun h=>by cases h⟩
 rw [if_neg (by rw [decide_eq_true_iff];exact h1)]
 by_cases h2:(ins.length:Int) > 64
 ·rw [if_pos (decide_eq_true h2)]
  exact ⟨_,rfl,fun h=>by cases h⟩
 rw [if_neg (by rw [decide_eq_true_iff];exact h2)]
 by_cases h3:(outs.length:Int) > 64
 ·rw [if_pos (decide_eq_true h3)]
  exact ⟨_,rfl,fun h=>by cases h⟩
 rw [if_neg (by rw [decide_eq_true_iff];exact h3)]
 by_cases h4:note < 0
 ·rw [if_pos (decide_eq_true h4)]
  exact ⟨_,rfl,fun h=>by cases h⟩
 rw [if_neg (by rw [decide_eq_true_iff];exact h4)]
 obtain ⟨x,hx,hp⟩:=YM (step:=Qy fuel) ins.length (fun k s=>(∃m,s=(ins,(ins.length:Int),(k:Int),(ins,outs,note),m))∧∀j x,j < k→ins[j]? =some x→ZqV x)
  (fun x=>(∃m,x=.inl (false,(ins,outs,note),m))∨((∃m,x=.inr ((ins,outs,note),m))∧∀x,x∈ins→ZqV x)) (i:=(ins,(ins.length:Int),(0:Int),(ins,outs,note),([]:List (Yv×Bool)))) ⟨⟨_,rfl⟩,fun j b hj=>by omega⟩ (by omega) (by
  rintro k _ hk ⟨⟨m,rfl⟩,hj⟩
  obtain ⟨e,he,hm⟩:=Zw hk
  have hnext:ZqV e→∀j b,j < k+1→ins[j]? =some b→ZqV b:=by
   intro hE j b h2 h3
   by_cases h4:j < k
   ·exact hj j b h4 h3
   ·have:j=k:=by omega
    subst this
    rw [he] at h3
    cases h3
    exact hE
  unfold Qy
  dsimp only
  rw [if_pos (Ys hk),ZH he,Option.bind_some]
  obtain ⟨w,hw1,hw2⟩:=ZqW e.2
  generalize V6 m e.1=mo
  unfold ZmH
  rcases mo with _|b
  rotate_left
  ·dsimp only
   split
   ·right;exact ⟨_,rfl,.inl ⟨_,rfl⟩⟩
   by_cases k1:e.1.2 < 0
   ·right
    rw [if_pos (decide_eq_true k1)]
    exact ⟨_,rfl,.inl ⟨_,rfl⟩⟩
   rw [if_neg (by rw [decide_eq_true_iff];exact k1)]
   by_cases k2:e.1.2 ≥ 64
   ·right
    rw [if_pos (decide_eq_true k2)]
    exact ⟨_,rfl,.inl ⟨_,rfl⟩⟩
   rw [if_neg (by rw [decide_eq_true_iff];exact k2),hw1,Option.bind_some]
   cases w with
   |false=>right;exact ⟨_,rfl,.inl ⟨_,rfl⟩⟩
   |true=>
    left
    rw [Zv (by omega)]
    exact ⟨_,rfl,⟨_,rfl⟩,hnext ⟨by omega,by omega,hw2 rfl⟩⟩
  ·by_cases k1:e.1.2 < 0
   ·right
    rw [if_pos (decide_eq_true k1)]
    exact ⟨_,rfl,.inl ⟨_,rfl⟩⟩
   rw [if_neg (by rw [decide_eq_true_iff];exact k1)]
   by_cases k2:e.1.2 ≥ 64
   ·right
    rw [if_pos (decide_eq_true k2)]
    exact ⟨_,rfl,.inl ⟨_,rfl⟩⟩
   rw [if_neg (by rw [decide_eq_true_iff];exact k2),hw1,Option.bind_some]
   cases w with
   |false=>right;exact ⟨_,rfl,.inl ⟨_,rfl⟩⟩
   |true=>
    left
    rw [Zv (by omega)]
    exact ⟨_,rfl,⟨_,rfl⟩,hnext ⟨by omega,by omega,hw2 rfl⟩⟩) (by
  rintro _ ⟨⟨m,rfl⟩,hj⟩
  unfold Qy
  dsimp only
  rw [if_neg (by rw [ZM];decide)]
  refine ⟨_,rfl,.inr ⟨⟨_,rfl⟩,fun b hb=> ?_⟩⟩
  obtain ⟨j,hj1,hj2⟩:=List.getElem_of_mem hb
  exact hj j b hj1 (by rw [List.getElem?_eq_getElem hj1,hj2]))
 rw [hx,Option.bind_some]
 rcases hp with ⟨m,rfl⟩|⟨⟨m,rfl⟩,hp⟩
 ·exact ⟨_,rfl,fun h=>by cases h⟩
 dsimp only
 obtain ⟨y,hy,hq⟩:=YM (step:=Qz fuel) outs.length (fun k s=>(∃z,s=(z,outs,(outs.length:Int),(k:Int),(ins,outs,note),m))∧∀j x,j < k→outs[j]? =some x→ZnK x)
  (fun x=>x=.inl (false,(ins,outs,note),m)∨(x=.inr ((ins,outs,note),m)∧∀x,x∈outs→ZnK x)) (i:=((0:Int),outs,(outs.length:Int),(0:Int),(ins,outs,note),m)) ⟨⟨_,rfl⟩,fun j b hj=>by omega⟩ (by omega) (by
  rintro k _ hk ⟨⟨z,rfl⟩,hj⟩
  obtain ⟨e,he,hm⟩:=Zw hk
  have hnext:ZnK e→∀j b,j < k+1→outs[j]? =some b→ZnK b:=by
   intro hE j b h2 h3
   by_cases h4:j < k
   ·exact hj j b h4 h3
   ·have:j=k:=by omega
    subst this
    rw [he] at h3
    cases h3
    exact hE
  unfold Qz
  dsimp only
  obtain ⟨r,hr1,hr2⟩:=ZyO z e.1
  obtain ⟨w,hw1,hw2⟩:=Ziq (hw e hm)
  rw [if_pos (Ys hk),ZH he,Option.bind_some,hr1,Option.bind_some,hw1,Option.bind_some]
  obtain ⟨r1,r2⟩:=r
  cases r2 with
  |false=>right;exact ⟨_,rfl,.inl rfl⟩
  |true=>
   cases w with
   |false=>right;exact ⟨_,rfl,.inl rfl⟩
   |true=>
    left
    rw [Zv (by omega)]
    exact ⟨_,rfl,⟨_,rfl⟩,hnext ⟨(hr2 rfl).1,(hr2 rfl).2,hw1⟩⟩) (by
  rintro _ ⟨⟨z,rfl⟩,hj⟩
  unfold Qz
  dsimp only
  rw [if_neg (by rw [ZM];decide)]
  refine ⟨_,rfl,.inr ⟨rfl,fun b hb=> ?_⟩⟩
  obtain ⟨j,hj1,hj2⟩:=List.getElem_of_mem hb
  exact hj j b hj1 (by rw [List.getElem?_eq_getElem hj1,hj2]))
 rw [hy,Option.bind_some]
 rcases hq with rfl|⟨rfl,hq⟩
 ·exact ⟨_,rfl,fun h=>by cases h⟩
 ·exact ⟨_,rfl,fun _=>⟨by dsimp only;omega,by dsimp only;omega,by dsimp only;omega,by dsimp only;omega,hp,hq⟩⟩
end Go.Proofs.YtehgcchjaamddaaGreat
end
section
set_option maxRecDepth 4000
namespace Go.Proofs.YtehgcchjaamddaaGreat
open Go Go.Ev
theorem ZsL {n:Nat} {b:List UInt8} (h:b.length≤1000000):∃o,YJ fuel (n:Int) b=some o∧o.length=b.length+8:=
 ⟨_,Zvj (by omega),by rw [List.length_append];rfl⟩
theorem ZqX {l:List UInt8} (h:l.length≤900000):∃o,ZJ fuel l=some o∧o.length=32:=⟨_,ZAf (by omega),Sha.ZCc l⟩
theorem Zg1 {s:ByteArray} {ls:List (List UInt8)} (h1:s.size≤100) (h2:ls.length≤10) (h3:∀l,l∈ls→l.length≤60000):∃o,WF fuel s ls=some o∧o.length=32:=by
 unfold WF
 obtain ⟨o,p1,p2⟩:=ZsL (n:=s.size) (b:=[]) (by simp)
 have hsl:(Zg4 s).length=s.size:=by
  unfold Zg4
  rw [Array.length_toList]
  rfl
 rw [p1,Option.bind_some,if_pos (Yb (by rw [hsl,p2];simp;omega) (by rw [hsl,p2];simp;omega))]
 refine Exists.elim (Z3 (step:=Zbk fuel) (fun x=>x.1=ls∧x.2.1=(ls.length:Int)∧0≤x.2.2.1∧x.2.2.1≤(ls.length:Int)∧x.2.2.2.2.length≤200+60100*x.2.2.1.toNat) (fun x=>((ls.length:Int) - x.2.2.1).toNat) (fun x=>x.2.length≤700000) ?_ (ls,(ls.length:Int),(0:Int),([0,0,0,0,0,0,0,0,0,0,0,0,0,0,0,0,0,0,0,0,0,0,0,0,0,0,0,0,0,0,0,0]:List UInt8),o++Zg4 s) ⟨rfl,rfl,Int.le_refl _,by dsimp only;omega,by dsimp only;rw [List.length_append,p2,hsl];simp;omega⟩ (by dsimp only;omega)) ?_
 rotate_left
 ·rintro q ⟨q1,q2⟩
  rw [q1,Option.bind_some]
  obtain ⟨r,r1,r2⟩:=ZqX (l:=q.2) (by omega)
  rw [r1,Option.bind_some]
  exact ⟨_,rfl,r2⟩
 ·rintro ⟨a,n,i,c,d⟩ ⟨k1,k2,k3,k4,k5⟩
  dsimp only at k1 k2 k3 k4 k5
  subst k1
  subst k2
  unfold Zbk
  dsimp only
  by_cases hi:i < (a.length:Int)
  ·left
   obtain ⟨e,he⟩:=WG (l:=a) (i:=i.toNat) (by omega)
   have hel:=h3 e (List.mem_of_getElem? he)
   obtain ⟨x,x1,x2⟩:=ZsL (n:=e.length) (b:=d) (by omega)
   rw [if_pos (decide_eq_true hi),Zac k3 he,Option.bind_some,x1,Option.bind_some,if_pos (Yb (by omega) (by omega)),Yp (z:=i+1) (by omega) (by omega)]
   exact ⟨_,rfl,⟨rfl,rfl,by dsimp only;omega,by dsimp only;omega,by dsimp only;rw [List.length_append];omega⟩,by dsimp only;omega⟩
  ·right
   rw [if_neg (by simpa using hi)]
   exact ⟨_,rfl,by dsimp only;omega⟩
end Go.Proofs.YtehgcchjaamddaaGreat
end
