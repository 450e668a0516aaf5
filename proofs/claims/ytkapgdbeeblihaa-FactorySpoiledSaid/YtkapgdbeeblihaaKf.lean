/- Parts of the proof, in one file. -/
import Derived.Test.YtkapgdbeeblihaaKe
open Bool renaming and_eq_true → yh
open Int renaming tdiv → yn, tmod → yag
open List renaming length_append → yp, length_map → yx, replicate → yab, map_cons → yac, length_take → yaf, map_append → yaj, length_cons → yak, append_assoc → yam, getElem?_map → yan, getElem?_eq_none → yap, getElem?_cons_succ → yaw, length_set → yba, mem_cons → ybd, take_append_drop → ybj, length_drop → ybr, not_mem_nil → yci, getElem?_set_self → ycl, length_replicate → ycq, getD_eq_getElem?_getD → ycw
open Nat renaming le_refl → yl, add → yv, shiftRight → yah, mod_eq_of_lt → yao, add_mul → yau, zero_add → yay, mod_lt → ybp, mul_comm → ybs, lt_or_ge → ybt, mul_le_mul_right → ycb, eq_zero_or_pos → ych
open Option renaming bind_some → yb
open UInt32 renaming toNat → ybm, toNat_ofNat' → yct
open UInt64 renaming ofNat → yae, toNat_ofNat' → ybe, toNat_lt → yby, toNat_inj → yca, le_iff_toNat_le → ycs, lt_iff_toNat_lt → ycv
open UInt8 renaming ofNat → ybc, toNat → ybi
set_option linter.unusedVariables false
set_option linter.unusedSimpArgs false
section
set_option maxRecDepth 4000
namespace Go.Proofs.Ytkapgdbeeblihaa
open Go Go.Ev
section
variable{y1 y0 u d q r:Nat}
theorem ZFt(h:q*y1+r=u)(hc:4294967296*r+d < q*y0):u*4294967296+d < q*(y1*4294967296+y0):=by
 have e:q*(y1*4294967296+y0)=q*y1*4294967296+q*y0:=by rw[Nat.mul_add,Nat.mul_assoc]
 rw[e];omega
theorem ZAM(h:q*y1+r=u)(hc:q*y0≤4294967296*r+d):q*(y1*4294967296+y0)≤u*4294967296+d:=by
 have e:q*(y1*4294967296+y0)=q*y1*4294967296+q*y0:=by rw[Nat.mul_add,Nat.mul_assoc]
 rw[e];omega
theorem ZEz(hu:u < y1*4294967296+y0)(hd:d < 4294967296):(u*4294967296+d) / (y1*4294967296+y0) < 4294967296:=by
 rw[Nat.div_lt_iff_lt_mul (by omega)];omega
theorem Zxa(h:q*y1+r=u)(hq:1≤q):(q - 1)*y1+(r+y1)=u:=by
 have e:q*y1=(q - 1)*y1+y1:=by
  rw[←Nat.succ_mul];congr 1;omega
 omega
theorem ZAN(hu:u < y1*4294967296+y0)(h0:y0 < 4294967296)(h:q*y1+r=u)(hr:4294967296≤r):q*y0≤4294967296*r+d:=by
 by_cases hq:q < 4294967296
 ·have:q*y0≤4294967295*4294967295:=Nat.mul_le_mul (by omega) (by omega);omega
 ·have:4294967296*y1≤q*y1:=ycb _ (by omega);omega
end
theorem ZvO{q T Y:Nat}(hY:0 < Y)(h1:T / Y≤q)(h2:q*Y≤T):q=T / Y:=Nat.le_antisymm ((Nat.le_div_iff_mul_le hY).2 h2) h1
theorem ZtX{y1 y0 u d:Nat}{Q R Y0 Y1 D:UInt64}(hY1:Y1.toNat=y1)(hY0:Y0.toNat=y0)(hD:D.toNat=d)(h1:y1 < 4294967296)(h0:y0 < 4294967296)(hd:d < 4294967296)(hu:u < y1*4294967296+y0)
 (e:Q.toNat*y1+R.toNat=u) (hr:R.toNat < 4294967296) (hge:(u*4294967296+d) / (y1*4294967296+y0)≤Q.toNat):
 ((Q ≥ 4294967296∨(Q*Y0 > (4294967296*R)+D))∧(u*4294967296+d) / (y1*4294967296+y0)≤(Q - 1).toNat∧(Q - 1).toNat*y1+(R+Y1).toNat=u∧(R+Y1).toNat=R.toNat+y1)∨
 (¬Q ≥ 4294967296∧¬(Q*Y0 > (4294967296*R)+D)∧Q.toNat=(u*4294967296+d) / (y1*4294967296+y0)):=by
 have hadd:(R+Y1).toNat=R.toNat+y1:=by rw[Zgl (by omega),hY1]
 have hrd:((4294967296*R)+D).toNat=4294967296*R.toNat+d:=by
  have m:(4294967296*R:UInt64).toNat=4294967296*R.toNat:=by
   rw[Zgm (by show 4294967296*R.toNat < _;omega)];rfl
  rw[Zgl (by rw[m];omega),m,hD]
 have dec:1≤Q.toNat→(Q - 1).toNat=Q.toNat - 1:=λh=>by
  rw[UInt64.toNat_sub_of_le _ _ (by rw[ycs];exact h)];rfl
 by_cases c1:Q ≥ 4294967296
 ·left
  have hq:4294967296≤Q.toNat:=by
   rw[ge_iff_le,ycs] at c1;exact c1
  have:=ZEz hu hd;refine⟨.inl c1,by rw[dec (by omega)];omega, ?_,hadd⟩;rw[dec (by omega),hadd];exact Zxa e (by omega)
 have hq:Q.toNat < 4294967296:=by
  rw[ge_iff_le,ycs] at c1;exact Nat.lt_of_not_le c1
 have hmul:(Q*Y0).toNat=Q.toNat*y0:=by
  have:=Zfq hq h0;rw[Zgm (by rw[hY0];omega),hY0]
 by_cases c2:Q*Y0 > (4294967296*R)+D
 ·left
  have c3:4294967296*R.toNat+d < Q.toNat*y0:=by
   have:=ycv.1 c2;rw[hmul,hrd] at this;exact this
  have q1:1≤Q.toNat:=by
   rcases ych Q.toNat with h|h
   ·rw[h,Nat.zero_mul] at c3;omega
   ·exact h
  have hg:=ZFt (d:=d) e c3;have hlt:(u*4294967296+d) / (y1*4294967296+y0) < Q.toNat:=(Nat.div_lt_iff_lt_mul (by omega)).2 hg;refine⟨.inr c2,by rw[dec q1];omega, ?_,hadd⟩;rw[dec q1,hadd];exact Zxa e q1
 ·right
  have c3:Q.toNat*y0≤4294967296*R.toNat+d:=by
   have:¬(((4294967296*R)+D).toNat < (Q*Y0).toNat):=λh=>c2 (ycv.2 h);rw[hmul,hrd] at this;omega
  exact⟨c1,c2,ZvO (by omega) hge (ZAM e c3)⟩
theorem ZFu{y1 y0 u d:Nat}{Yv N Y1 Y0 U D E Q R:UInt64}(hY1:Y1.toNat=y1)(hY0:Y0.toNat=y0)(hD:D.toNat=d)(h1:y1 < 4294967296)(h3:0 < y1)(h0:y0 < 4294967296)(hd:d < 4294967296)(hu:u < y1*4294967296+y0)
 (e:Q.toNat*y1+R.toNat=u) (hr:R.toNat < 4294967296) (hge:(u*4294967296+d) / (y1*4294967296+y0)≤Q.toNat):
 ∃q:UInt64,Zk (Wv fuel) fuel (Yv,N,Y1,Y0,U,D,E,Q,R)=some (Yv,N,Y1,Y0,U,D,E,q)∧q.toNat=(u*4294967296+d) / (y1*4294967296+y0):=by
 obtain⟨x,hx,q,rfl,hq⟩:=Xi (step:=Wv fuel) (λs=>∃Q R:UInt64,s=(Yv,N,Y1,Y0,U,D,E,Q,R)∧Q.toNat*y1+R.toNat=u∧R.toNat < 4294967296∧(u*4294967296+d) / (y1*4294967296+y0)≤Q.toNat)
  (λs=>4294967296 - s.2.2.2.2.2.2.2.2.toNat) (λx=>∃q:UInt64,x=(Yv,N,Y1,Y0,U,D,E,q)∧q.toNat=(u*4294967296+d) / (y1*4294967296+y0)) (by
  rintro _ ⟨Q,R,rfl,e,hr,hge⟩;unfold Wv;dsimp only;rcases ZtX hY1 hY0 hD h1 h0 hd hu e hr hge with⟨c,k1,k2,k3⟩|⟨c1,c2,k⟩
  ·have key:(∃j,(if decide (R+Y1 ≥ 4294967296)=true then some (Sum.inr (Yv,N,Y1,Y0,U,D,E,Q - 1)) else some (Sum.inl (Yv,N,Y1,Y0,U,D,E,Q - 1,R+Y1)):Option ((UInt64×UInt64×UInt64×UInt64×UInt64×UInt64×UInt64×UInt64×UInt64)⊕(UInt64×UInt64×UInt64×UInt64×UInt64×UInt64×UInt64×UInt64)))=some (.inl j)∧
    (∃Q R:UInt64,j=(Yv,N,Y1,Y0,U,D,E,Q,R)∧Q.toNat*y1+R.toNat=u∧R.toNat < 4294967296∧(u*4294967296+d) / (y1*4294967296+y0)≤Q.toNat)∧4294967296 - j.2.2.2.2.2.2.2.2.toNat < 4294967296 - R.toNat)∨
    (∃x,(if decide (R+Y1 ≥ 4294967296)=true then some (Sum.inr (Yv,N,Y1,Y0,U,D,E,Q - 1)) else some (Sum.inl (Yv,N,Y1,Y0,U,D,E,Q - 1,R+Y1)):Option ((UInt64×UInt64×UInt64×UInt64×UInt64×UInt64×UInt64×UInt64×UInt64)⊕(UInt64×UInt64×UInt64×UInt64×UInt64×UInt64×UInt64×UInt64)))=some (.inr x)∧
    ∃q:UInt64,x=(Yv,N,Y1,Y0,U,D,E,q)∧q.toNat=(u*4294967296+d) / (y1*4294967296+y0)):=by
    by_cases hb:R+Y1 ≥ 4294967296
    ·right;rw[if_pos (decide_eq_true hb)]
     have hb2:4294967296≤(R+Y1).toNat:=by
      rw[ge_iff_le,ycs] at hb;exact hb
     exact⟨_,rfl,_,rfl,ZvO (by omega) k1 (ZAM k2 (ZAN hu h0 k2 hb2))⟩
    ·left;rw[if_neg (by rw[decide_eq_true_iff];exact hb)]
     have hb2:(R+Y1).toNat < 4294967296:=by
      rw[ge_iff_le,ycs] at hb;exact Nat.lt_of_not_le hb
     exact⟨_,rfl,⟨_,_,rfl,k2,hb2,k1⟩,by dsimp only;omega⟩
   rcases c with c|c
   ·rw[if_pos (decide_eq_true c)];exact key
   ·by_cases c1:Q ≥ 4294967296
    ·rw[if_pos (decide_eq_true c1)];exact key
    ·rw[if_neg (by rw[decide_eq_true_iff];exact c1),if_pos (decide_eq_true c)];exact key
  ·right;rw[if_neg (by rw[decide_eq_true_iff];exact c1),if_neg (by rw[decide_eq_true_iff];exact c2)];exact⟨_,rfl,_,rfl,k⟩) (Yv,N,Y1,Y0,U,D,E,Q,R) ⟨Q,R,rfl,e,hr,hge⟩ (by dsimp only;omega)
 exact⟨q,hx,hq⟩
theorem ZFv{y1 y0 u d:Nat}{Yv N Y1 Y0 U D E Q R:UInt64}(hY1:Y1.toNat=y1)(hY0:Y0.toNat=y0)(hD:D.toNat=d)(h1:y1 < 4294967296)(h3:0 < y1)(h0:y0 < 4294967296)(hd:d < 4294967296)(hu:u < y1*4294967296+y0)
 (e:Q.toNat*y1+R.toNat=u) (hr:R.toNat < 4294967296) (hge:(u*4294967296+d) / (y1*4294967296+y0)≤Q.toNat):
 ∃q:UInt64,Zk (Ww fuel) fuel (Yv,N,Y1,Y0,D,E,R,U,Q)=some (Yv,N,D,E,U,q)∧q.toNat=(u*4294967296+d) / (y1*4294967296+y0):=by
 obtain⟨x,hx,q,rfl,hq⟩:=Xi (step:=Ww fuel) (λs=>∃Q R:UInt64,s=(Yv,N,Y1,Y0,D,E,R,U,Q)∧Q.toNat*y1+R.toNat=u∧R.toNat < 4294967296∧(u*4294967296+d) / (y1*4294967296+y0)≤Q.toNat)
  (λs=>4294967296 - s.2.2.2.2.2.2.1.toNat) (λx=>∃q:UInt64,x=(Yv,N,D,E,U,q)∧q.toNat=(u*4294967296+d) / (y1*4294967296+y0)) (by
  rintro _ ⟨Q,R,rfl,e,hr,hge⟩;unfold Ww;dsimp only;rcases ZtX hY1 hY0 hD h1 h0 hd hu e hr hge with⟨c,k1,k2,k3⟩|⟨c1,c2,k⟩
  ·have key:(∃j,(if decide (R+Y1 ≥ 4294967296)=true then some (Sum.inr (Yv,N,D,E,U,Q - 1)) else some (Sum.inl (Yv,N,Y1,Y0,D,E,R+Y1,U,Q - 1)):Option ((UInt64×UInt64×UInt64×UInt64×UInt64×UInt64×UInt64×UInt64×UInt64)⊕(UInt64×UInt64×UInt64×UInt64×UInt64×UInt64)))=some (.inl j)∧
    (∃Q R:UInt64,j=(Yv,N,Y1,Y0,D,E,R,U,Q)∧Q.toNat*y1+R.toNat=u∧R.toNat < 4294967296∧(u*4294967296+d) / (y1*4294967296+y0)≤Q.toNat)∧4294967296 - j.2.2.2.2.2.2.1.toNat < 4294967296 - R.toNat)∨
    (∃x,(if decide (R+Y1 ≥ 4294967296)=true then some (Sum.inr (Yv,N,D,E,U,Q - 1)) else some (Sum.inl (Yv,N,Y1,Y0,D,E,R+Y1,U,Q - 1)):Option ((UInt64×UInt64×UInt64×UInt64×UInt64×UInt64×UInt64×UInt64×UInt64)⊕(UInt64×UInt64×UInt64×UInt64×UInt64×UInt64)))=some (.inr x)∧
    ∃q:UInt64,x=(Yv,N,D,E,U,q)∧q.toNat=(u*4294967296+d) / (y1*4294967296+y0)):=by
    by_cases hb:R+Y1 ≥ 4294967296
    ·right;rw[if_pos (decide_eq_true hb)]
     have hb2:4294967296≤(R+Y1).toNat:=by
      rw[ge_iff_le,ycs] at hb;exact hb
     exact⟨_,rfl,_,rfl,ZvO (by omega) k1 (ZAM k2 (ZAN hu h0 k2 hb2))⟩
    ·left;rw[if_neg (by rw[decide_eq_true_iff];exact hb)]
     have hb2:(R+Y1).toNat < 4294967296:=by
      rw[ge_iff_le,ycs] at hb;exact Nat.lt_of_not_le hb
     exact⟨_,rfl,⟨_,_,rfl,k2,hb2,k1⟩,by dsimp only;omega⟩
   rcases c with c|c
   ·rw[if_pos (decide_eq_true c)];exact key
   ·by_cases c1:Q ≥ 4294967296
    ·rw[if_pos (decide_eq_true c1)];exact key
    ·rw[if_neg (by rw[decide_eq_true_iff];exact c1),if_pos (decide_eq_true c)];exact key
  ·right;rw[if_neg (by rw[decide_eq_true_iff];exact c1),if_neg (by rw[decide_eq_true_iff];exact c2)];exact⟨_,rfl,_,rfl,k⟩) (Yv,N,Y1,Y0,D,E,R,U,Q) ⟨Q,R,rfl,e,hr,hge⟩ (by dsimp only;omega)
 exact⟨q,hx,hq⟩
theorem Zxb{A B:UInt64}{a b:Nat}(hA:A.toNat=a % 18446744073709551616)(hB:B.toNat=b % 18446744073709551616)(h:b≤a)(hd:a - b < 18446744073709551616):(A - B).toNat=a - b:=by
 rw[UInt64.toNat_sub,hA,hB];omega
theorem ZkT(u y1:Nat):u / y1*y1+u % y1=u:=by
 have:=Nat.div_add_mod u y1;rw[ybs] at this;exact this
theorem ZAO{u y1 y0 d:Nat}(h1:0 < y1)(hd:d < 4294967296):(u*4294967296+d) / (y1*4294967296+y0)≤u / y1:=by
 have h:(u*4294967296+d) / (y1*4294967296+y0)≤(u*4294967296+d) / (y1*4294967296):=Nat.div_le_div_left (by omega) (by omega)
 have e:(u*4294967296+d) / (y1*4294967296)=u / y1:=by
  rw[ybs y1, ←Nat.div_div_eq_div_mul];congr 1;omega
 omega
theorem ZAP{a b y:UInt64}{s:Nat}{Y:UInt64}(hy:y≠0)(hs:Z6 fuel y=some (s:Int))(s0:0 < s)(s1:s < 64)(hY:Wu y s=Y)(hYn:Y.toNat=y.toNat*2 ^ s)(hY63:9223372036854775808≤Y.toNat)(ha:a.toNat < y.toNat):
 ∃q r,ZcB fuel a b y=some (q,r)∧r.toNat=(a.toNat*18446744073709551616+b.toNat) % y.toNat:=by
 have ha2:¬(y≤a):=by
  rw[ycs];omega
 unfold ZcB;rw[if_neg (by rw[beq_iff_eq];exact hy),if_neg (by rw[decide_eq_true_iff];exact ha2)];by_cases h0:a=0
 ·subst h0;rw[if_pos (by decide),if_pos (by rw[bne_iff_ne];exact hy),if_pos (by rw[bne_iff_ne];exact hy)];refine⟨_,_,rfl, ?_⟩;rw[UInt64.toNat_mod];simp
 rw[if_neg (by rw[beq_iff_eq];exact h0),hs,yb];dsimp only
 have w:w64 (s:Int)=yae s:=by
  unfold w64;congr 1;omega
 have ws:(w64 (s:Int)).toNat=s:=by rw[w,ybe,yao (by omega)]
 have e1:min ((w64 (s:Int)).toNat:Int).toNat 64=s:=by rw[ws];omega
 have e2:(64 - w64 (s:Int)).toNat=64 - s:=by
  rw[UInt64.toNat_sub_of_le _ _ (by rw[ycs,ws];show s≤64;omega),ws];rfl
 have e3:min ((64 - w64 (s:Int)).toNat:Int).toNat 64=64 - s:=by rw[e2];omega
 rw[e1,e3,hY];have hYl:=yby Y;have hb:=yby b
 have p64:2 ^ (64 - s)*2 ^ s=18446744073709551616:=by
  rw[←Nat.pow_add];have:64 - s+s=64:=by omega
  rw[this]
 have hp:0 < 2 ^ s:=Nat.pow_pos (by decide);obtain⟨y1,hy1⟩:∃y1,y1=Y.toNat / 4294967296:=⟨_,rfl⟩;obtain⟨y0,hy0⟩:∃y0,y0=Y.toNat % 4294967296:=⟨_,rfl⟩;have hYd:Y.toNat=y1*4294967296+y0:=by omega
 have ty1:(Zx Y 32).toNat=y1:=by rw[WV,hy1]
 have ty0:(Y&&&4294967295).toNat=y0:=by rw[Zfp,hy0]
 have l1:y1 < 4294967296:=by omega
 have g1:2147483648≤y1:=by omega
 have l0:y0 < 4294967296:=by omega
 have hash:a.toNat*2 ^ s < Y.toNat:=by rw[hYn];exact Nat.mul_lt_mul_of_pos_right ha hp
 have bd:b.toNat / 2 ^ (64 - s) < 2 ^ s:=by
  rw[Nat.div_lt_iff_lt_mul (Nat.pow_pos (by decide)),ybs,p64];exact hb
 have tu:((Wu a s)|||(Zx b (64 - s))).toNat=a.toNat*2 ^ s+b.toNat / 2 ^ (64 - s):=by
  rw[UInt64.toNat_or,WV];unfold Wu;rw[ybe,yao (by omega),ybs, ←Nat.two_pow_add_eq_or_of_lt bd]
 have t10:(Wu b s).toNat=b.toNat*2 ^ s % 18446744073709551616:=by
  unfold Wu;rw[ybe]
 obtain⟨u,hu⟩:∃u,u=a.toNat*2 ^ s+b.toNat / 2 ^ (64 - s):=⟨_,rfl⟩;obtain⟨v,hv⟩:∃v,v=b.toNat*2 ^ s % 18446744073709551616:=⟨_,rfl⟩;rw[←hu] at tu;rw[←hv] at t10
 have hbs:b.toNat*2 ^ s=b.toNat / 2 ^ (64 - s)*18446744073709551616+v:=by
  have h1:=Nat.div_add_mod (b.toNat*2 ^ s) 18446744073709551616
  have h2:b.toNat*2 ^ s / 18446744073709551616=b.toNat / 2 ^ (64 - s):=by
   rw[←p64];exact Nat.mul_div_mul_right _ _ hp
  rw[h2, ←hv] at h1;omega
 have hN:(a.toNat*18446744073709551616+b.toNat)*2 ^ s=u*18446744073709551616+v:=by
  rw[yau,hbs,hu,Nat.mul_right_comm];omega
 have uY:u < y1*4294967296+y0:=by
  rw[←hYd,hu,hYn];have h1:(a.toNat+1)*2 ^ s≤y.toNat*2 ^ s:=ycb _ ha;rw[yau,Nat.one_mul] at h1;omega
 have hvl:v < 18446744073709551616:=by rw[hv];exact ybp _ (by decide)
 obtain⟨d1,hd1⟩:∃d1,d1=v / 4294967296:=⟨_,rfl⟩;obtain⟨d0,hd0⟩:∃d0,d0=v % 4294967296:=⟨_,rfl⟩;have td1:(Zx (Wu b s) 32).toNat=d1:=by rw[WV,t10,hd1]
 have td0:((Wu b s)&&&4294967295).toNat=d0:=by rw[Zfp,t10,hd0]
 generalize ((Wu a s)|||(Zx b (64 - s)):UInt64)=U at tu ⊢;generalize (Zx (Wu b s) 32:UInt64)=D1 at td1 ⊢;generalize ((Wu b s)&&&4294967295:UInt64)=D0 at td0 ⊢;generalize (Zx Y 32:UInt64)=Y1 at ty1 ⊢;generalize (Y&&&4294967295:UInt64)=Y0 at ty0 ⊢
 have y1ne:(Y1 !=0)=true:=by
  rw[bne_iff_ne];intro h;rw[h] at ty1;have:(0:UInt64).toNat=0:=rfl;omega
 rw[if_pos y1ne]
 have f1:(U / Y1).toNat*y1+(U - U / Y1*Y1).toNat=u:=by
  rw[Zl2,UInt64.toNat_div,tu,ty1];exact ZkT u y1
 have f2:(U - U / Y1*Y1).toNat < 4294967296:=by
  rw[Zl2,tu,ty1];exact Nat.lt_trans (ybp _ (by omega)) l1
 have f3:(u*4294967296+d1) / (y1*4294967296+y0)≤(U / Y1).toNat:=by
  rw[UInt64.toNat_div,tu,ty1];exact ZAO (by omega) (by omega)
 obtain⟨q1,k1,k2⟩:=ZFu (Yv:=Y) (N:=w64 (s:Int)) (U:=U) (E:=D0) ty1 ty0 td1 l1 (by omega) l0 (by omega) uY f1 f2 f3;rw[k1,yb];dsimp only;rw[if_pos y1ne];have m1:=Nat.div_add_mod (u*4294967296+d1) Y.toNat
 have m2:(u*4294967296+d1) % Y.toNat < Y.toNat:=ybp _ (by omega);rw[←hYd] at k2
 have tv:(((U*4294967296)+D1) - (q1*Y)).toNat=(u*4294967296+d1) % Y.toNat:=by
  rw[Zxb (a:=u*4294967296+d1) (b:=q1.toNat*Y.toNat) ?_ ?_ ?_ ?_]
  ·rw[k2,ybs ((u*4294967296+d1) / Y.toNat)];omega
  ·rw[UInt64.toNat_add,UInt64.toNat_mul,tu,td1,show(4294967296:UInt64).toNat=4294967296 from rfl]
   omega
  ·rw[UInt64.toNat_mul]
  ·rw[k2,ybs ((u*4294967296+d1) / Y.toNat)];omega
  ·rw[k2,ybs ((u*4294967296+d1) / Y.toNat)];omega
 obtain⟨u2,hu2⟩:∃u2,u2=(u*4294967296+d1) % Y.toNat:=⟨_,rfl⟩;rw[←hu2] at tv m2 m1;generalize (((U*4294967296)+D1) - (q1*Y):UInt64)=V at tv ⊢
 have f4:(V / Y1).toNat*y1+(V - V / Y1*Y1).toNat=u2:=by
  rw[Zl2,UInt64.toNat_div,tv,ty1];exact ZkT u2 y1
 have f5:(V - V / Y1*Y1).toNat < 4294967296:=by
  rw[Zl2,tv,ty1];exact Nat.lt_trans (ybp _ (by omega)) l1
 have f6:(u2*4294967296+d0) / (y1*4294967296+y0)≤(V / Y1).toNat:=by
  rw[UInt64.toNat_div,tv,ty1];exact ZAO (by omega) (by omega)
 obtain⟨q0,k3,k4⟩:=ZFv (Yv:=Y) (N:=w64 (s:Int)) (U:=V) (E:=q1) ty1 ty0 td0 l1 (by omega) l0 (by omega) (by rw[←hYd];exact m2) f4 f5 f6;rw[k3,yb];refine⟨_,_,rfl, ?_⟩;dsimp only;rw[e1,WV];rw[←hYd] at k4;have m3:=Nat.div_add_mod (u2*4294967296+d0) Y.toNat
 have m4:(u2*4294967296+d0) % Y.toNat < Y.toNat:=ybp _ (by omega)
 have tr:(((V*4294967296)+D0) - (q0*Y)).toNat=(u2*4294967296+d0) % Y.toNat:=by
  rw[Zxb (a:=u2*4294967296+d0) (b:=q0.toNat*Y.toNat) ?_ ?_ ?_ ?_]
  ·rw[k4,ybs ((u2*4294967296+d0) / Y.toNat)];omega
  ·rw[UInt64.toNat_add,UInt64.toNat_mul,tv,td0,show(4294967296:UInt64).toNat=4294967296 from rfl]
   omega
  ·rw[UInt64.toNat_mul]
  ·rw[k4,ybs ((u2*4294967296+d0) / Y.toNat)];omega
  ·rw[k4,ybs ((u2*4294967296+d0) / Y.toNat)];omega
 rw[tr]
 have hNm:((a.toNat*18446744073709551616+b.toNat)*2 ^ s) % Y.toNat=(u2*4294967296+d0) % Y.toNat:=by
  have e:(a.toNat*18446744073709551616+b.toNat)*2 ^ s=u2*4294967296+d0+Y.toNat*((u*4294967296+d1) / Y.toNat*4294967296):=by
   rw[hN, ←Nat.mul_assoc];omega
  rw[e,Nat.add_mul_mod_self_left]
 rw[←hNm,hYn,Nat.mul_mod_mul_right,Nat.mul_div_cancel _ hp]
theorem ZrS{y Y:UInt64}{s:Nat}(a b:UInt64)(hy:y≠0)(hs:Z6 fuel y=some (s:Int))(s0:0 < s)(s1:s < 64)(hY:Wu y s=Y)(hYn:Y.toNat=y.toNat*2 ^ s)(hY63:9223372036854775808≤Y.toNat):
 VQ fuel a b y=some (yae ((a.toNat*18446744073709551616+b.toNat) % y.toNat)):=by
 have hp:0 < y.toNat:=by
  rcases ych y.toNat with h|h
  ·exact absurd (yca.1 h) hy
  ·exact h
 obtain⟨q,r,h1,h2⟩:=ZAP (a:=a % y) (b:=b) hy hs s0 s1 hY hYn hY63 (by rw[UInt64.toNat_mod];exact ybp _ hp);unfold VQ;rw[if_pos (by rw[bne_iff_ne];exact hy),h1,yb];dsimp only;rw[UInt64.toNat_mod,Nat.add_mod,Nat.mod_mul_mod, ←Nat.add_mod] at h2;rw[←h2,UInt64.ofNat_toNat]
theorem ZEA:Z6 fuel 4611686018427377339=some ((2:Nat):Int):=by kernel_rfl
theorem ZEB:Z6 fuel 2305843009213688669=some ((3:Nat):Int):=by kernel_rfl
theorem ZEC:Z6 fuel 2305843009213688668=some ((3:Nat):Int):=by kernel_rfl
noncomputable def YX(F:Nat)(a0:UInt64)(a1:UInt64)(a2:UInt64):Option UInt64:=
 if(a2==4611686018427377339 || (a2==2305843009213688669 || a2==2305843009213688668))=true then some (yae ((a0.toNat*18446744073709551616+a1.toNat) % a2.toNat)) else VQ F a0 a1 a2
theorem ZAQ(a b y:UInt64):VQ fuel a b y=YX fuel a b y:=by
 unfold YX;split
 ·rename_i h;simp only[Bool.or_eq_true,beq_iff_eq] at h;rcases h with rfl|rfl|rfl
  ·exact ZrS (Y:=18446744073709509356) (s:=2) a b (by decide) ZEA (by decide) (by decide) (by kernel_rfl) (by decide) (by decide)
  ·exact ZrS (Y:=18446744073709509352) (s:=3) a b (by decide) ZEB (by decide) (by decide) (by kernel_rfl) (by decide) (by decide)
  ·exact ZrS (Y:=18446744073709509344) (s:=3) a b (by decide) ZEC (by decide) (by decide) (by kernel_rfl) (by decide) (by decide)
 ·rfl
noncomputable def ZoT(F:Nat):Fs Try.prog:={ ZbE F with M:=λx=>YX F x.1 x.2.1 x.2.2}
noncomputable def ZaZ:Fs Try.prog:=ZoT fuel
theorem Zc2:ZaZ.Ok:=ZrN (s:=ZbE fuel) Zny λx=>(ZAQ x.1 x.2.1 x.2.2).symm
end Go.Proofs.Ytkapgdbeeblihaa
end
section
set_option maxRecDepth 4000
namespace Go.Proofs.Ytkapgdbeeblihaa
open Go Go.Ev
noncomputable section
def Za0(F:Nat)(a0:UInt64)(a1:UInt64):Option ((UInt64×UInt64)):=
 let y41:UInt64:=Zx ((a0&&&4294967295)*(a1&&&4294967295)) 32;let y42:UInt64:=(((Zx a0 32)*(a1&&&4294967295))+y41)&&&4294967295;let y43:UInt64:=Zx (((Zx a0 32)*(a1&&&4294967295))+y41) 32;let y44:UInt64:=Zx (y42+((a0&&&4294967295)*(Zx a1 32))) 32
 some ((((Zx a0 32)*(Zx a1 32))+y43)+y44,a0*a1)
def ZbF(F:Nat):Fs Try.prog:=⟨100,[.v .u64,.v .u64],[],[.u64,.u64],[⟨.ret,[(0,.tup [.v .u64,.v .u64])],[],[.u64,.u64]⟩],λx=>Za0 F x.1 x.2⟩
def ZoU:Fs Try.prog:=ZbF fuel
theorem Znz:ZoU.Ok:=fnO { still:=[4,5]} [] [] trivial
end
end Go.Proofs.Ytkapgdbeeblihaa
end
section
set_option maxRecDepth 4000
namespace Go.Proofs.Ytkapgdbeeblihaa
open Go Go.Ev
theorem ZAR(x y:UInt64):∃h l,Za0 fuel x y=some (h,l)∧h.toNat*18446744073709551616+l.toNat=x.toNat*y.toNat:=by
 unfold Za0;refine⟨_,_,rfl, ?_⟩;have hx:=yby x;have hy:=yby y;have x0l:x.toNat % 4294967296 < 4294967296:=ybp _ (by decide);have y0l:y.toNat % 4294967296 < 4294967296:=ybp _ (by decide);have x1l:x.toNat / 4294967296 < 4294967296:=by omega
 have y1l:y.toNat / 4294967296 < 4294967296:=by omega
 have xe:x.toNat=x.toNat / 4294967296*4294967296+x.toNat % 4294967296:=by omega
 have ye:y.toNat=y.toNat / 4294967296*4294967296+y.toNat % 4294967296:=by omega
 generalize hX1:x.toNat / 4294967296=x1 at*;generalize hX0:x.toNat % 4294967296=x0 at*;generalize hY1:y.toNat / 4294967296=y1 at*;generalize hY0:y.toNat % 4294967296=y0 at*;have p00:=Zfq x0l y0l;have p10:=Zfq x1l y0l;have p01:=Zfq x0l y1l;have p11:=Zfq x1l y1l
 have prod:x.toNat*y.toNat=x1*y1*18446744073709551616+(x1*y0+x0*y1)*4294967296+x0*y0:=by
  rw[xe,ye,yau,Nat.mul_add,Nat.mul_add]
  have e1:x1*4294967296*(y1*4294967296)=x1*y1*18446744073709551616:=by
   rw[Nat.mul_assoc,Nat.mul_left_comm 4294967296 y1, ←Nat.mul_assoc]
  have e2:x1*4294967296*y0=x1*y0*4294967296:=by rw[Nat.mul_right_comm]
  have e3:x0*(y1*4294967296)=x0*y1*4294967296:=by rw[Nat.mul_assoc]
  rw[e1,e2,e3];omega
 have q00:((x&&&4294967295)*(y&&&4294967295)).toNat=x0*y0:=by
  rw[Zgm (by rw[Zfp,Zfp,hX0,hY0];omega),Zfp,Zfp,hX0,hY0]
 have q10:((Zx x 32)*(y&&&4294967295)).toNat=x1*y0:=by
  rw[Zgm (by rw[WV,Zfp,show(2:Nat) ^ 32=4294967296 from rfl,hX1,hY0];omega),WV,Zfp,show(2:Nat) ^ 32=4294967296 from rfl,hX1,hY0]
 have q01:((x&&&4294967295)*(Zx y 32)).toNat=x0*y1:=by
  rw[Zgm (by rw[WV,Zfp,show(2:Nat) ^ 32=4294967296 from rfl,hX0,hY1];omega),WV,Zfp,show(2:Nat) ^ 32=4294967296 from rfl,hX0,hY1]
 have q11:((Zx x 32)*(Zx y 32)).toNat=x1*y1:=by
  rw[Zgm (by rw[WV,WV,show(2:Nat) ^ 32=4294967296 from rfl,hX1,hY1];omega),WV,WV,show(2:Nat) ^ 32=4294967296 from rfl,hX1,hY1]
 generalize hA:((x&&&4294967295)*(y&&&4294967295):UInt64)=A at*;generalize hB:((Zx x 32)*(y&&&4294967295):UInt64)=B at*;generalize hC:((x&&&4294967295)*(Zx y 32):UInt64)=C at*;generalize hD:((Zx x 32)*(Zx y 32):UInt64)=D at*;have s1:(Zx A 32).toNat=x0*y0 / 4294967296:=by rw[WV,q00]
 have s2:(B+Zx A 32).toNat=x1*y0+x0*y0 / 4294967296:=by rw[Zgl (by rw[q10,s1];omega),q10,s1]
 have s3:((B+Zx A 32)&&&4294967295).toNat=(x1*y0+x0*y0 / 4294967296) % 4294967296:=by rw[Zfp,s2]
 have s4:(Zx (B+Zx A 32) 32).toNat=(x1*y0+x0*y0 / 4294967296) / 4294967296:=by rw[WV,s2]
 have s5:(((B+Zx A 32)&&&4294967295)+C).toNat=(x1*y0+x0*y0 / 4294967296) % 4294967296+x0*y1:=by rw[Zgl (by rw[s3,q01];omega),s3,q01]
 have s6:(Zx (((B+Zx A 32)&&&4294967295)+C) 32).toNat=((x1*y0+x0*y0 / 4294967296) % 4294967296+x0*y1) / 4294967296:=by rw[WV,s5]
 have s7:(D+Zx (B+Zx A 32) 32).toNat=x1*y1+(x1*y0+x0*y0 / 4294967296) / 4294967296:=by rw[Zgl (by rw[q11,s4];omega),q11,s4]
 have s8:(x*y).toNat=x.toNat*y.toNat % 18446744073709551616:=UInt64.toNat_mul ..
 have s9:((D+Zx (B+Zx A 32) 32)+Zx (((B+Zx A 32)&&&4294967295)+C) 32).toNat=x1*y1+(x1*y0+x0*y0 / 4294967296) / 4294967296+((x1*y0+x0*y0 / 4294967296) % 4294967296+x0*y1) / 4294967296:=by
  rw[Zgl (by rw[s7,s6];omega),s7,s6]
 rw[s9,s8,prod];generalize x0*y0=a at*;generalize x1*y0=b at*;generalize x0*y1=c at*;generalize x1*y1=d at*;omega
theorem ZAS(x y:UInt64):Za0 fuel x y=some (yae (x.toNat*y.toNat / 18446744073709551616),yae (x.toNat*y.toNat % 18446744073709551616)):=by
 obtain⟨h,l,e,k⟩:=ZAR x y;have hl:=yby l;rw[e, ←k,show(h.toNat*18446744073709551616+l.toNat) / 18446744073709551616=h.toNat by omega,show(h.toNat*18446744073709551616+l.toNat) % 18446744073709551616=l.toNat by omega,UInt64.ofNat_toNat,UInt64.ofNat_toNat]
noncomputable def Q9(F:Nat)(a0:UInt64)(a1:UInt64):Option (UInt64×UInt64):=some (yae (a0.toNat*a1.toNat / 18446744073709551616),yae (a0.toNat*a1.toNat % 18446744073709551616))
noncomputable def ZoV(F:Nat):Fs Try.prog:={ ZbF F with M:=λx=>Q9 F x.1 x.2}
noncomputable def Zeb:Fs Try.prog:=ZoV fuel
theorem ZgK:Zeb.Ok:=ZrN (s:=ZbF fuel) Znz λx=>(ZAS x.1 x.2).symm
end Go.Proofs.Ytkapgdbeeblihaa
end
section
set_option maxRecDepth 4000
namespace Go.Proofs.Ytkapgdbeeblihaa
open Go Go.Ev
noncomputable section
def Z2(F:Nat)(a0:UInt64)(a1:UInt64):Option (UInt64):=
 (Q9 F a0 a1).bind λo45=>
 (YX F o45.1 o45.2 4611686018427377339).bind λo46=>
 some o46
def ZnA(F:Nat):Fs Try.prog:=⟨93,[.v .u64,.v .u64],[],[.u64,.u64],[⟨.ret,[(0,.v .u64)],[],[.u64]⟩],λx=>Z2 F x.1 x.2⟩
def Zc3:Fs Try.prog:=ZnA fuel
theorem Zfr:Zc3.Ok:=fnO { still:=[4,8,9,13,14]} [] [Zeb,ZaZ] ⟨ZgK,Zc2,ytt⟩
def XA(F:Nat)(s:(UInt64×UInt64×UInt64)):Option ((UInt64×UInt64×UInt64)⊕UInt64):=
 if(decide (s.2.1 > 0))=true then
  if((s.2.1&&&1)==1)=true then
   (Z2 F s.2.2 s.1).bind λo47=>
   (Z2 F s.1 s.1).bind λo48=>
   some (.inl (o48,Zx s.2.1 1,o47))
  else
  (Z2 F s.1 s.1).bind λo49=>
  some (.inl (o49,Zx s.2.1 1,s.2.2))
 else
 some (.inr s.2.2)
def Zex:Lp:=⟨[(0,.v .u64),(1,.v .u64),(5,.v .u64)],[],[.u64,.u64,.u64],[⟨.exit 0,[(5,.v .u64)],[],[.u64]⟩],Zk (XA fuel) fuel⟩
theorem Zhw:Zex.okA Try.prog 72 0:=ZV { still:=[4,13,14,16,17]} [] [Zc3] ⟨Zfr,ytt⟩
def Zc4(F:Nat)(a0:UInt64)(a1:UInt64):Option (UInt64):=
 (Zk (XA F) F (a0,a1,1)).bind λo50=>
 some o50
def Zap(F:Nat):Fs Try.prog:=⟨72,[.v .u64,.v .u64],[],[.u64,.u64],[⟨.ret,[(0,.v .u64)],[],[.u64]⟩],λx=>Zc4 F x.1 x.2⟩
def ZnB:Fs Try.prog:=Zap fuel
theorem Zlm:ZnB.Ok:=fnO { still:=[4,13,14,16,17]} [(0,Zex)] [] trivial ⟨Zhw,ytt⟩
end
end Go.Proofs.Ytkapgdbeeblihaa
end
section
namespace Go.Ev
def Pr(r:Nat):Prop:=1 < r∧∀k,0 < k→k < r→Nat.gcd k r=1
theorem php:∀(n:Nat)(f:Nat→Nat),(∀i,i≤n→f i < n)→∃i j,i < j∧j≤n∧f i=f j
 |0,f,h=>absurd (h 0 (yl _)) (Nat.not_lt_zero _)
 |n+1,f,h=>by
  by_cases hc:∃i,i≤n∧f i=f (n+1)
  ·obtain⟨i,h1,h2⟩:=hc;exact⟨i,n+1,by omega,yl _,h2⟩
  have hne:∀i,i≤n→f i≠f (n+1):=λi hi e=>hc ⟨i,hi,e⟩;have hv:=h (n+1) (yl _)
  obtain⟨i,j,h1,h2,h3⟩:=php n (λi=>if f i > f (n+1) then f i - 1 else f i) (λi hi=>by
   have a:=h i (by omega);have b:=hne i hi;show(if f i > f (n+1) then f i - 1 else f i) < n
   split <;> omega)
  refine⟨i,j,h1,by omega, ?_⟩;have a:=hne i (by omega);have b:=hne j (by omega);have h3:(if f i > f (n+1) then f i - 1 else f i)=(if f j > f (n+1) then f j - 1 else f j):=h3
  split at h3 <;> split at h3 <;> omega
theorem Zfs{h a m:Nat}(ha:h ^ a % m=1 % m)(k:Nat):h ^ (a*k) % m=1 % m:=by
 rw[Nat.pow_mul,Nat.pow_mod,ha, ←Nat.pow_mod,Nat.one_pow]
theorem ZtY{h a b m:Nat}(ha:h ^ a % m=1 % m)(hb:h ^ b % m=1 % m):h ^ (a % b) % m=1 % m:=by
 have e:a=b*(a / b)+a % b:=(Nat.div_add_mod a b).symm;rw[e,Nat.pow_add,Nat.mul_mod,Zfs hb, ←Nat.mul_mod,Nat.one_mul] at ha;exact ha
theorem ZkU{h m:Nat}(a b:Nat)(ha:h ^ a % m=1 % m)(hb:h ^ b % m=1 % m):h ^ (Nat.gcd a b) % m=1 % m:=by
 induction a,b using Nat.gcd.induction with
 |H0 n=>rw[Nat.gcd_zero_left];exact hb
 |H1 a b h0 ih=>
  rw[Nat.gcd_rec];exact ih (ZtY hb ha) ha
theorem ZnC{h r m i j:Nat}(hr:h ^ r % m=1 % m)(hi:i < j)(hj:j < r)(e:h ^ i % m=h ^ j % m):h ^ (j - i) % m=1 % m:=by
 have h1:h ^ i*h ^ (r - i)=h ^ r:=by rw[←Nat.pow_add];congr 1;omega
 have h2:h ^ j*h ^ (r - i)=h ^ (j - i)*h ^ r:=by rw[←Nat.pow_add, ←Nat.pow_add];congr 1;omega
 have h3:h ^ j*h ^ (r - i) % m=1 % m:=by rw[Nat.mul_mod, ←e, ←Nat.mul_mod,h1,hr]
 rw[h2,Nat.mul_mod,hr, ←Nat.mul_mod,Nat.mul_one] at h3;exact h3
theorem ZvP{h r m i:Nat}(hm:1 < m)(hr:h ^ r % m=1 % m)(hi:i≤r):h ^ i % m≠0:=by
 intro e;have h1:h ^ i*h ^ (r - i)=h ^ r:=by rw[←Nat.pow_add];congr 1;omega
 rw[←h1,Nat.mul_mod,e,Nat.zero_mul,Nat.zero_mod,yao hm] at hr;omega
theorem ZvQ{h r c:Nat}(hr:Pr r)(hc:1 < c)(h1:h ^ r % c=1 % c)(h2:h % c≠1 % c):r < c:=by
 rcases ybt r c with k|k
 ·exact k
 exfalso
 obtain⟨i,j,a,b,e⟩:=php (c - 1) (λi=>h ^ i % c - 1) (λi hi=>by
  have:=ybp (h ^ i) (show c > 0 by omega);have:=ZvP hc h1 (i:=i) (by omega);show h ^ i % c - 1 < c - 1;omega)
 have q1:=ZvP hc h1 (i:=i) (by omega);have q2:=ZvP hc h1 (i:=j) (by omega);have e:h ^ i % c - 1=h ^ j % c - 1:=e;have h3:=ZnC h1 a (by omega) (show h ^ i % c=h ^ j % c by omega);have h4:=ZkU _ _ h3 h1;rw[hr.2 (j - i) (by omega) (by omega),Nat.pow_one] at h4;exact h2 h4
theorem Zxc{n r:Nat}(h:Nat)(hr:Pr r)(hn:1 < n)(hs:n≤r*r)(h1:h ^ r % n=1 % n)(h0:0 < h)(h2:Nat.gcd (h - 1) n=1):Pr n:=by
 refine⟨hn,λk k0 kn=> ?_⟩;have dn:Nat.gcd k n ∣ n:=Nat.gcd_dvd_right k n;have dk:Nat.gcd k n ∣ k:=Nat.gcd_dvd_left k n;have d0:0 < Nat.gcd k n:=Nat.gcd_pos_of_pos_left _ k0;have dl:Nat.gcd k n≤k:=Nat.le_of_dvd k0 dk;generalize Nat.gcd k n=d at*;by_cases d1:d=1
 ·exact d1
 exfalso
 have great:∀c,1 < c→c ∣ n→r < c:=λc c1 cn=>by
  refine ZvQ (h:=h) hr c1 ?_ λe=> ?_
  ·obtain⟨q,rfl⟩:=cn;have:=congrArg (· % c) h1;simp only[Nat.mod_mul_right_mod] at this;exact this
  ·have k1:c ∣ h - 1:=Nat.dvd_of_mod_eq_zero (Nat.sub_mod_eq_zero_of_mod_eq e);have:=Nat.dvd_gcd k1 cn;rw[h2] at this;have:=Nat.le_of_dvd (by omega) this;omega
 obtain⟨e,rfl⟩:=dn
 have e1:1 < e:=by
  rcases ybt 1 e with h|h
  ·exact h
  ·have:d*e≤d*1:=Nat.mul_le_mul_left _ h;omega
 have a:=great d (by omega) (Nat.dvd_mul_right ..);have b:=great e e1 (Nat.dvd_mul_left ..);have:=Nat.mul_le_mul (show r+1≤d from a) (show r+1≤e from b)
 rw[yau,Nat.mul_add] at this;omega
def Zxd(n:Nat):Nat→Bool
 |0=>true
 |k+1=>(decide (k < 1) || !(n % (k+1)==0))&&Zxd n k
theorem ZnD{n:Nat}:∀{k:Nat},Zxd n k=true→∀d,1 < d→d≤k→¬d ∣ n
 |0,_,d,h1,h2=>by omega
 |k+1,h,d,h1,h2=>by
  simp only[Zxd,yh,Bool.or_eq_true,decide_eq_true_eq,Bool.not_eq_true',beq_eq_false_iff_ne] at h;rcases ybt d (k+1) with c|c
  ·exact ZnD h.2 d h1 (by omega)
  ·have:d=k+1:=by omega
   subst this;rcases h.1 with h|h
   ·omega
   ·intro q;exact h (Nat.mod_eq_zero_of_dvd q)
theorem ZAT{n s:Nat}(hn:1 < n)(hs:n < (s+1)*(s+1))(h:Zxd n s=true):Pr n:=by
 refine⟨hn,λk k0 kn=> ?_⟩;have dn:Nat.gcd k n ∣ n:=Nat.gcd_dvd_right k n;have d0:0 < Nat.gcd k n:=Nat.gcd_pos_of_pos_left _ k0;have dl:Nat.gcd k n≤k:=Nat.le_of_dvd k0 (Nat.gcd_dvd_left k n);generalize Nat.gcd k n=d at*;by_cases d1:d=1
 ·exact d1
 exfalso;obtain⟨e,rfl⟩:=dn
 have e1:1 < e:=by
  rcases ybt 1 e with h|h
  ·exact h
  ·have:d*e≤d*1:=Nat.mul_le_mul_left _ h;omega
 rcases ybt s d with a|a
 ·rcases ybt s e with b|b
  ·have:=Nat.mul_le_mul (show s+1≤d from a) (show s+1≤e from b)
   omega
  ·exact ZnD h e e1 b (Nat.dvd_mul_left ..)
 ·exact ZnD h d (by omega) a (Nat.dvd_mul_right ..)
def pwm(m:Nat):Nat→Nat→Nat→Nat→Nat
 |0,_,_,o=>o
 |f+1,a,n,o=>if n=0 then o else pwm m f (a*a % m) (n / 2) (if n % 2=1 then o*a % m else o)
theorem ZrT{m:Nat}:∀(k a n o:Nat),n < 2 ^ k→pwm m k a n o % m=o*a ^ n % m
 |0,a,n,o,h=>by
  have:n=0:=by rw[Nat.pow_zero] at h;omega
  subst this
  rw[pwm,Nat.pow_zero,Nat.mul_one]
 |k+1,a,n,o,h=>by
  rw[pwm];by_cases h0:n=0
  ·rw[if_pos h0,h0,Nat.pow_zero,Nat.mul_one]
  rw[if_neg h0,ZrT k _ _ _ (by rw[Nat.pow_succ] at h;omega)]
  have e:a ^ n=(a*a) ^ (n / 2)*a ^ (n % 2):=by
   rw[←Nat.pow_two, ←Nat.pow_mul, ←Nat.pow_add];congr 1;omega
  have e2:(a*a % m) ^ (n / 2) % m=(a*a) ^ (n / 2) % m:=(Nat.pow_mod ..).symm;rw[e];split
  ·rename_i h1;rw[h1,Nat.pow_one,Nat.mul_mod,e2, ←Nat.mul_mod,Nat.mul_mod,Nat.mod_mod, ←Nat.mul_mod];congr 1;rw[Nat.mul_assoc,ybs a]
  ·rename_i h1;have:n % 2=0:=by omega
   rw[this,Nat.pow_zero,Nat.mul_one,Nat.mul_mod,e2, ←Nat.mul_mod]
theorem ZnE{m a n z:Nat}(k:Nat)(h:n < 2 ^ k)(e:pwm m k a n 1 % m=z):a ^ n % m=z:=by
 have:=ZrT (m:=m) k a n 1 h;rw[Nat.one_mul] at this;rw[←this,e]
def pc0:Nat:=7930907
def pc1:Nat:=11864636873
def pc2:Nat:=1732236983459
def pc3:Nat:=249442125618097
def ord:Nat:=2305843009213688669
def mdl:Nat:=4611686018427377339
theorem pr0:Pr pc0:=ZAT (s:=2816) (by decide) (by decide) (by decide+kernel)
theorem pr1:Pr pc1:=Zxc 409113128 pr0 (by decide) (by decide) (ZnE 23 (by decide) (by decide+kernel)) (by decide) (by decide+kernel)
theorem pr2:Pr pc2:=Zxc 353522539148 pr1 (by decide) (by decide) (ZnE 34 (by decide) (by decide+kernel)) (by decide) (by decide+kernel)
theorem pr3:Pr pc3:=Zxc 117107719143424 pr2 (by decide) (by decide) (ZnE 41 (by decide) (by decide+kernel)) (by decide) (by decide+kernel)
theorem pr4:Pr ord:=Zxc 732368710688439132 pr3 (by decide) (by decide) (ZnE 48 (by decide) (by decide+kernel)) (by decide) (by decide+kernel)
def Wp(a:Nat):Prop:=0 < a∧a < mdl∧a ^ ord % mdl=1
theorem ZDo{a:Nat}(h:a < mdl)(e:a ^ ord % mdl=1):Wp a:=by
 refine⟨?_,h,e⟩;rcases ych a with h0|h0
 ·subst h0;rw[Nat.zero_pow (by decide)] at e;cases e
 ·exact h0
theorem ZrU:Wp 1:=⟨by decide,by decide,by rw[Nat.one_pow];decide⟩
theorem ZrV:Wp 4:=⟨by decide,by decide,ZnE 61 (by decide) (by decide+kernel)⟩
theorem ZED{a b:Nat}(ha:Wp a)(hb:Wp b):Wp (a*b % mdl):=by
 refine ZDo (ybp _ (by decide)) ?_;rw[←Nat.pow_mod,Nat.mul_pow,Nat.mul_mod,ha.2.2,hb.2.2];decide
theorem ZEE{a:Nat}(ha:Wp a)(n:Nat):Wp (a ^ n % mdl):=by
 refine ZDo (ybp _ (by decide)) ?_;rw[←Nat.pow_mod, ←Nat.pow_mul,ybs];exact Zfs (m:=mdl) ha.2.2 n
theorem ZCM{a:Nat}(ha:Wp a)(n:Nat):a ^ (n % ord) % mdl=a ^ n % mdl:=by
 have e:n=ord*(n / ord)+n % ord:=(Nat.div_add_mod n _).symm;have h:=Zfs (m:=mdl) (k:=n / ord) ha.2.2
 conv=>rhs;rw[e]
 rw[Nat.pow_add,Nat.mul_mod,h, ←Nat.mul_mod,Nat.one_mul]
theorem ZvR{k:Nat}(h0:0 < k)(h1:k < ord):4 ^ k % mdl≠1:=by
 intro e;have:=ZkU (h:=4) (m:=mdl) k _ e ZrV.2.2;rw[pr4.2 k h0 h1] at this;revert this;decide
theorem ZCN{i j:Nat}(hi:i < ord)(hj:j < ord)(e:4 ^ i % mdl=4 ^ j % mdl):i=j:=by
 rcases Nat.lt_trichotomy i j with h|h|h
 ·exact absurd (ZnC (m:=mdl) ZrV.2.2 h hj e) (ZvR (by omega) (by omega))
 ·exact h
 ·exact absurd (ZnC (m:=mdl) ZrV.2.2 h hi e.symm) (ZvR (by omega) (by omega))
end Go.Ev
end
section
set_option maxRecDepth 4000
namespace Go.Proofs.Ytkapgdbeeblihaa
open Go Go.Ev
theorem ZAU{z:Nat}:(yae (z % 4611686018427377339)).toNat=z % 4611686018427377339:=by
 rw[ybe,yao];exact Nat.lt_trans (ybp _ (by decide)) (by decide)
theorem ZtZ(a b:UInt64):Z2 fuel a b=some (yae (a.toNat*b.toNat % 4611686018427377339)):=by
 unfold Z2 Q9;rw[yb];dsimp only;unfold YX;rw[if_pos (by decide),yb,ybe,ybe];have h:a.toNat*b.toNat < 18446744073709551616*18446744073709551616:=Nat.mul_lt_mul'' (yby a) (yby b);have h2:a.toNat*b.toNat / 18446744073709551616 < 18446744073709551616:=(Nat.div_lt_iff_lt_mul (by decide)).2 h;generalize a.toNat*b.toNat=z at*;rw[show(4611686018427377339:UInt64).toNat=4611686018427377339 from rfl]
 have e:z / 18446744073709551616 % 2 ^ 64*18446744073709551616+z % 18446744073709551616 % 2 ^ 64=z:=by omega
 rw[e]
theorem ZnF:∀(k m:Nat)(A N O:UInt64),N.toNat < 2 ^ k→k < m→Zk (XA fuel) m (A,N,O)=some (yae (pwm 4611686018427377339 k A.toNat N.toNat O.toNat))
 |k,0,_,_,_,_,h=>by omega
 |0,m+1,A,N,O,h,_=>by
  have hn:¬N > 0:=by
   intro h2;have h3:0 < N.toNat:=ycv.1 h2;rw[Nat.pow_zero] at h;omega
  have hs:XA fuel (A,N,O)=if decide (N > 0)=true then(if((N&&&1)==1)=true then(Z2 fuel O A).bind λo1=>(Z2 fuel A A).bind λo2=>some (.inl (o2,Zx N 1,o1)) else(Z2 fuel A A).bind λo2=>some (.inl (o2,Zx N 1,O))) else some (.inr O):=rfl
  unfold Zk;rw[hs]
  rw[if_neg (by rw[decide_eq_true_iff];exact hn),yb,pwm,UInt64.ofNat_toNat]
 |k+1,m+1,A,N,O,h,hm=>by
  have hs:XA fuel (A,N,O)=if decide (N > 0)=true then(if((N&&&1)==1)=true then(Z2 fuel O A).bind λo1=>(Z2 fuel A A).bind λo2=>some (.inl (o2,Zx N 1,o1)) else(Z2 fuel A A).bind λo2=>some (.inl (o2,Zx N 1,O))) else some (.inr O):=rfl
  unfold Zk;rw[hs];by_cases h2:N > 0
  ·have hp:0 < N.toNat→pwm 4611686018427377339 (k+1) A.toNat N.toNat O.toNat=pwm 4611686018427377339 k (A.toNat*A.toNat % 4611686018427377339) (N.toNat / 2) (if N.toNat % 2=1 then O.toNat*A.toNat % 4611686018427377339 else O.toNat):=λh=>by
    rw[pwm,if_neg (by omega)]
   have h3:0 < N.toNat:=ycv.1 h2
   have hsh:(Zx N 1).toNat=N.toNat / 2:=by
    unfold Zx;rw[ybe,yao (Nat.lt_of_le_of_lt (Nat.div_le_self ..) (yby _))]
   have hlt:(Zx N 1).toNat < 2 ^ k:=by
    rw[hsh];rw[Nat.pow_succ] at h;omega
   have hand:((N&&&1)==1)=decide (N.toNat % 2=1):=by
    rw[Bool.eq_iff_iff,beq_iff_eq,decide_eq_true_iff, ←yca,UInt64.toNat_and];exact Iff.of_eq (congrArg (· =1) (Nat.and_one_is_mod _))
   rw[if_pos (decide_eq_true h2),hand,hp h3];simp only[ZtZ];by_cases h4:N.toNat % 2=1
   ·rw[if_pos (decide_eq_true h4),if_pos h4,yb,yb,yb];dsimp only;rw[ZnF k m _ _ _ hlt (by omega),ZAU,ZAU,hsh]
   ·rw[if_neg (by rw[decide_eq_true_iff];exact h4),if_neg h4,yb,yb];dsimp only;rw[ZnF k m _ _ _ hlt (by omega),ZAU,hsh]
  ·have h3:N.toNat=0:=by
    rcases ych N.toNat with h5|h5
    ·exact h5
    ·exact absurd (show(0:UInt64) < N from ycv.2 h5) h2
   rw[if_neg (by rw[decide_eq_true_iff];exact h2),yb,pwm,if_pos h3,UInt64.ofNat_toNat]
theorem ZAV(a n:UInt64):Zc4 fuel a n=some (yae (pwm 4611686018427377339 64 a.toNat n.toNat 1)):=by
 unfold Zc4;rw[ZnF 64 fuel a n 1 (yby _) (by rw[ZiG];omega),yb];rfl
noncomputable def WK(F:Nat)(a0:UInt64)(a1:UInt64):Option UInt64:=some (yae (pwm 4611686018427377339 64 a0.toNat a1.toNat 1))
noncomputable def ZnG(F:Nat):Fs Try.prog:={ Zap F with M:=λx=>WK F x.1 x.2}
noncomputable def QN:Fs Try.prog:=ZnG fuel
theorem ZbG:QN.Ok:=ZrN (s:=Zap fuel) Zlm λx=>(ZAV x.1 x.2).symm
end Go.Proofs.Ytkapgdbeeblihaa
end
section
set_option maxRecDepth 4000
namespace Go.Proofs.Ytkapgdbeeblihaa
open Go Go.Ev
noncomputable section
def YU(F:Nat)(a0:UInt64):Option (Bool):=
 if(decide (a0 > 0))=true then
  if(decide (a0 < 4611686018427377339))=true then
   (WK F a0 2305843009213688669).bind λo51=>
   some (o51==1)
  else
  some false
 else
 some false
def ZnH(F:Nat):Fs Try.prog:=⟨69,[.v .u64],[],[.u64],[⟨.ret,[(0,.v .bool)],[],[.bool]⟩],λx=>YU F x⟩
def W2:Fs Try.prog:=ZnH fuel
theorem VR:W2.Ok:=fnO { still:=[2,10]} [] [QN] ⟨ZbG,ytt⟩
def X9(F:Nat)(a0:UInt64):Option (Bool):=
 (YU F a0).bind λo52=>
 some (!o52)
def Zln(F:Nat):Fs Try.prog:=⟨68,[.v .u64],[],[.u64],[⟨.ret,[(0,.v .bool)],[],[.bool]⟩],λx=>X9 F x⟩
def ZbH:Fs Try.prog:=Zln fuel
theorem Zey:ZbH.Ok:=fnO { still:=[2,3]} [] [W2] ⟨VR,ytt⟩
def VS(F:Nat)(a0:Int):Option (Bool):=
 if(decide (a0 ≥ 0))=true then
  some (decide (a0≤1048576))
 else
 some false
def ZnI(F:Nat):Fs Try.prog:=⟨71,[.v yI],[],[yI],[⟨.ret,[(0,.v .bool)],[],[.bool]⟩],λx=>VS F x⟩
def ZgL:Fs Try.prog:=ZnI fuel
theorem ZnJ:ZgL.Ok:=fnO { still:=[2]} [] [] trivial
def WL(F:Nat)(s:((List UInt64)×Int×Int)):Option (((List UInt64)×Int×Int)⊕(Int⊕Unit)):=
 if(decide (s.2.2 < s.2.1))=true then
  (idx s.1 s.2.2).bind λe54=>
  (X9 F e54).bind λo55=>
  if o55=true then
   some (.inr (.inl s.2.2))
  else
  some (.inl (s.1,s.2.1,wi (s.2.2+1)))
 else
 some (.inr (.inr ()))
def Zez:Lp:=⟨[(0,.v (.sl .u64)),(1,.fn 68 []),(7,.v yI),(8,.v yI)],[],[(.sl .u64),yI,yI],[⟨.ret,[(4,.v yI)],[],[yI]⟩,⟨.exit 0,[],[],[]⟩],Zk (WL fuel) fuel⟩
theorem Zhx:Zez.okA Try.prog 92 0:=ZV { still:=[4,15]} [] [ZbH] ⟨Zey,ytt⟩
def Zc5(F:Nat)(a0:(List UInt64)):Option (Int):=
 (Zk (WL F) F (a0,(a0.length:Int),0)).bind λo56=>
 match o56 with
 |.inl o57=>
  some o57
 |.inr o58=>
  some (-1)
def Zlo(F:Nat):Fs Try.prog:=⟨92,[.v (.sl .u64),.fn 68 []],[],[(.sl .u64)],[⟨.ret,[(0,.v yI)],[],[yI]⟩],λx=>Zc5 F x⟩
def Zft:Fs Try.prog:=Zlo fuel
theorem Zlp:Zft.Ok:=fnO { still:=[4,15]} [(0,Zez)] [] trivial ⟨Zhx,ytt⟩
def QO(F:Nat)(a0:(List UInt64)):Option (Bool):=
 (Zc5 F a0).bind λo59=>
 some (decide (o59 ≥ 0))
def Zlq(F:Nat):Fs Try.prog:=⟨70,[.v (.sl .u64),.fn 68 []],[],[(.sl .u64)],[⟨.ret,[(0,.v .bool)],[],[.bool]⟩],λx=>QO F x⟩
def Zfu:Fs Try.prog:=Zlq fuel
theorem Zlr:Zfu.Ok:=fnO { still:=[4,5,6]} [] [Zft] ⟨Zlp,ytt⟩
def VT(F:Nat)(s:((List ZW)×Int×Int×Wh)):Option (((List ZW)×Int×Int×Wh)⊕((Bool×Wh)⊕Wh)):=
 if(decide (s.2.2.1 < s.2.1))=true then
  (idx s.1 s.2.2.1).bind λe53=>
  if(decide ((e53.1.length:Int) > 12))=true then
   some (.inr (.inl (false,s.2.2.2)))
  else
  (QO F e53.1).bind λo60=>
  if o60=true then
   some (.inr (.inl (false,s.2.2.2)))
  else
  (VS F e53.2.1).bind λo61=>
  if(!o61)=true then
   some (.inr (.inl (false,s.2.2.2)))
  else
  (VS F e53.2.2.1).bind λo62=>
  if(!o62)=true then
   some (.inr (.inl (false,s.2.2.2)))
  else
  if(e53.2.2.2 !=0)=true then
   (X9 F e53.2.2.2).bind λo63=>
   if o63=true then
    some (.inr (.inl (false,s.2.2.2)))
   else
   some (.inl (s.1,s.2.1,wi (s.2.2.1+1),s.2.2.2))
  else
  some (.inl (s.1,s.2.1,wi (s.2.2.1+1),s.2.2.2))
 else
 some (.inr (.inr s.2.2.2))
def ZgM:Lp:=⟨[(1,.ref 0 []),(3,.fn 68 []),(7,.v (.sl ZF)),(8,.v yI),(9,.v yI)],[.var (.v Yu) true],[(.sl ZF),yI,yI,Yu],[⟨.ret,[(2,.v .bool)],[.var (.v Yu) true],[.bool,Yu]⟩,⟨.exit 0,[(1,.ref 0 [])],[.var (.v Yu) true],[Yu]⟩],Zk (VT fuel) fuel⟩
theorem Zj6:ZgM.okA Try.prog 45 0:=ZV { still:=[2,19,20,25,31,42]} [] [Zfu,ZgL,ZbH] ⟨Zlr,ZnJ,Zey,ytt⟩
def Wx(F:Nat)(a0:Wh):Option (Bool):=
 (Zk (VT F) F (a0,(a0.length:Int),0,a0)).bind λo64=>
 match o64 with
 |.inl o65=>
  some o65.1
 |.inr o66=>
  if(decide ((o66.length:Int) > 0))=true then
   some (decide ((o66.length:Int)≤4))
  else
  some false
def ZoW(F:Nat):Fs Try.prog:=⟨45,[.v Yu],[],[Yu],[⟨.ret,[(0,.v .bool)],[],[.bool]⟩],λx=>Wx F x⟩
def VU:Fs Try.prog:=ZoW fuel
theorem QP:VU.Ok:=fnO { still:=[2,19,20,25,31,42]} [(0,ZgM)] [] trivial ⟨Zj6,ytt⟩
abbrev Zb:Ty:=(.st [(.arr 32 .u8),yI])
abbrev Ze:Type:=((List UInt8)×Int)
abbrev Yl:Ty:=(.st [Zr,yI])
abbrev Qv:Type:=(Out×Int)
abbrev Ve:Ty:=(.st [Zb,Yl])
abbrev XB:Type:=(Ze×Qv)
abbrev XB.c(x:XB):Qv:=x.2
abbrev Zg:Ty:=(.st [(.sl Ve),(.sl Zb)])
abbrev ZG:Type:=((List XB)×(List Ze))
abbrev ZG.gone(x:ZG):(List XB):=x.1
def ZgN(F:Nat)(s:(Int×(List Out)×Int×Int×(List (Ze×Qv))×(List ZG))):Option ((Int×(List Out)×Int×Int×(List (Ze×Qv))×(List ZG))⊕(((List (Ze×Qv))×(List ZG))⊕((List (Ze×Qv))×(List ZG)))):=
 if(decide (s.2.2.2.1 < s.2.2.1))=true then
  (idx s.2.1 s.2.2.2.1).bind λe67=>
  (Wx F e67.2).bind λo68=>
  if(!o68)=true then
   some (.inr (.inl (s.2.2.2.2.1,s.2.2.2.2.2)))
  else
  if(decide (e67.1 < 0))=true then
   some (.inr (.inl (s.2.2.2.2.1,s.2.2.2.2.2)))
  else
  if(decide (e67.1 > (wi (1125899906842624 - s.1))))=true then
   some (.inr (.inl (s.2.2.2.2.1,s.2.2.2.2.2)))
  else
  (Zhv F e67).bind λo69=>
  let y70:(List (Ze×Qv)):=Zhf s.2.2.2.2.1 (yzz,s.2.2.2.1) (o69,(0:Int))
  some (.inl (wi (s.1+e67.1),s.2.1,s.2.2.1,wi (s.2.2.2.1+1),y70,s.2.2.2.2.2))
 else
 some (.inr (.inr (s.2.2.2.2.1,s.2.2.2.2.2)))
def ZiP:Lp:=⟨[(3,.ref 1 []),(4,.v yI),(13,.v (.sl Zr)),(14,.v yI),(15,.v yI)],[.map 104 Zb Yl,.var (.agg [.mp 0,.own 2 Zg]) true,.log Zg 101],[yI,(.sl Zr),yI,yI,(YT Zb Yl),(.sl Zg)],[⟨.ret,[(2,.ptr0)],[.map 104 Zb Yl,.var (.agg [.mp 0,.own 2 Zg]) true,.log Zg 101],[(YT Zb Yl),(.sl Zg)]⟩,⟨.exit 0,[(3,.ref 1 [])],[.map 104 Zb Yl,.var (.agg [.mp 0,.own 2 Zg]) true,.log Zg 101],[(YT Zb Yl),(.sl Zg)]⟩],Zk (ZgN fuel) fuel⟩
def hi2:HI:={ still:=[2,21,46],ghost:=[(12,[([1],Zg,101)])]}
theorem Zls:ZiP.okA Try.prog 18 0:=ZV hi2 [] [VU,Zfo] ⟨QP,ZiM,ytt⟩
def ZvS(F:Nat)(a0:(List Out)):Option (Unit⊕((List (Ze×Qv))×(List ZG))):=
 if(decide ((a0.length:Int) > 256))=true then
  some (.inl ())
 else
 (Zk (ZgN F) F (0,a0,(a0.length:Int),0,([]:List (Ze×Qv)),[])).bind λo71=>
 match o71 with
 |.inl o72=>
  some (.inl ())
 |.inr o73=>
  some (.inr (o73.1,o73.2))
def Zec(F:Nat):Fs Try.prog:=⟨18,[.v (.sl Zr)],[],[(.sl Zr)],[⟨.ret,[(0,.ptr0)],[],[]⟩,⟨.ret,[(0,.ref 0 [])],[.var (.agg [.mp 1,.own 2 Zg]) true,.map 104 Zb Yl,.log Zg 101],[(YT Zb Yl),(.sl Zg)]⟩],λx=>ZvS F x⟩
def Zt0:Fs Try.prog:=Zec fuel
theorem ZrW:Zt0.Ok:=fnO hi2 [(0,ZiP)] [] trivial ⟨Zls,ytt⟩
abbrev Zu:Ty:=(.st [.u64,.u64])
abbrev Sig:Type:=(UInt64×UInt64)
abbrev Wy:Ty:=(.st [yI,(.sl Zu),.u64])
abbrev Zed:Type:=(Int×(List Sig)×UInt64)
def Zaa(F:Nat)(a0:Zed):Option (Bool):=
 if(decide (a0.1 ≥ 0))=true then
  if(decide (a0.1 < 4))=true then
   some (decide ((a0.2.1.length:Int)≤12))
  else
  some false
 else
 some false
def ZoX(F:Nat):Fs Try.prog:=⟨54,[.v Wy],[],[Wy],[⟨.ret,[(0,.v .bool)],[],[.bool]⟩],λx=>Zaa F x⟩
def ZiQ:Fs Try.prog:=ZoX fuel
theorem ZoY:ZiQ.Ok:=fnO { still:=[2]} [] [] trivial
def ZbI(F:Nat)(a0:Int):Option (Bool):=
 if(decide (a0 ≥ 0))=true then
  some (decide (a0≤1125899906842624))
 else
 some false
def ZrX(F:Nat):Fs Try.prog:=⟨84,[.v yI],[],[yI],[⟨.ret,[(0,.v .bool)],[],[.bool]⟩],λx=>ZbI F x⟩
def ZkV:Fs Try.prog:=ZrX fuel
theorem ZrY:ZkV.Ok:=fnO { still:=[2]} [] [] trivial
def ZiR(F:Nat)(a0:Int)(a1:Int):Option ((Int×Bool)):=
 (ZbI F a0).bind λo74=>
 if(!o74)=true then
  some (0,false)
 else
 (ZbI F a1).bind λo75=>
 if(!o75)=true then
  some (0,false)
 else
 if(decide (a0 > (wi (1125899906842624 - a1))))=true then
  some (0,false)
 else
 some (wi (a0+a1),true)
def ZvT(F:Nat):Fs Try.prog:=⟨55,[.v yI,.v yI],[],[yI,yI],[⟨.ret,[(0,.tup [.v yI,.v .bool])],[],[yI,.bool]⟩],λx=>ZiR F x.1 x.2⟩
def Zqe:Fs Try.prog:=ZvT fuel
theorem ZvU:Zqe.Ok:=fnO { still:=[4,5,6,10]} [] [ZkV] ⟨ZrY,ytt⟩
abbrev yIn:Ty:=(.st [Zb,Wy])
abbrev In:Type:=(Ze×Zed)
abbrev yTx:Ty:=(.st [(.sl yIn),(.sl Zr),yI])
abbrev Tx:Type:=((List In)×(List Out)×Int)
def VV(F:Nat)(s:((List In)×Int×Int×Tx×(List (Ze×Bool)))):Option (((List In)×Int×Int×Tx×(List (Ze×Bool)))⊕((Bool×Tx×(List (Ze×Bool)))⊕(Tx×(List (Ze×Bool))))):=
 if(decide (s.2.2.1 < s.2.1))=true then
  (idx s.1 s.2.2.1).bind λe76=>
  ZgB (Zd1 s.2.2.2.2 e76.1) (λe77=>
   if e77=true then
    some (.inr (.inl (false,s.2.2.2.1,s.2.2.2.2)))
   else
   if(decide (e76.1.2 < 0))=true then
    some (.inr (.inl (false,s.2.2.2.1,s.2.2.2.2)))
   else
   if(decide (e76.1.2 ≥ 64))=true then
    some (.inr (.inl (false,s.2.2.2.1,s.2.2.2.2)))
   else
   (Zaa F e76.2).bind λo78=>
   if(!o78)=true then
    some (.inr (.inl (false,s.2.2.2.1,s.2.2.2.2)))
   else
   some (.inl (s.1,s.2.1,wi (s.2.2.1+1),s.2.2.2.1,Zhf s.2.2.2.2 e76.1 true))) (
   if(decide (e76.1.2 < 0))=true then
    some (.inr (.inl (false,s.2.2.2.1,s.2.2.2.2)))
   else
   if(decide (e76.1.2 ≥ 64))=true then
    some (.inr (.inl (false,s.2.2.2.1,s.2.2.2.2)))
   else
   (Zaa F e76.2).bind λo79=>
   if(!o79)=true then
    some (.inr (.inl (false,s.2.2.2.1,s.2.2.2.2)))
   else
   some (.inl (s.1,s.2.1,wi (s.2.2.1+1),s.2.2.2.1,Zhf s.2.2.2.2 e76.1 true)))
 else
 some (.inr (.inr (s.2.2.2.1,s.2.2.2.2)))
def ZkW:Lp:=⟨[(1,.ref 0 []),(3,.mp 1),(33,.v (.sl yIn)),(34,.v yI),(35,.v yI)],[.var (.v yTx) true,.map 129 Zb .bool],[(.sl yIn),yI,yI,yTx,(YT Zb .bool)],[⟨.ret,[(2,.v .bool)],[.var (.v yTx) true,.map 129 Zb .bool],[.bool,yTx,(YT Zb .bool)]⟩,⟨.exit 0,[(1,.ref 0 [])],[.var (.v yTx) true,.map 129 Zb .bool],[yTx,(YT Zb .bool)]⟩],Zk (VV fuel) fuel⟩
theorem ZnK:ZkW.okA Try.prog 29 0:=ZV { still:=[2,57,73,75,83]} [] [ZiQ] ⟨ZoY,ytt⟩
def Za1(F:Nat)(s:(Int×(List Out)×Int×Int×Tx×(List (Ze×Bool)))):Option ((Int×(List Out)×Int×Int×Tx×(List (Ze×Bool)))⊕((Bool×Tx×(List (Ze×Bool)))⊕(Tx×(List (Ze×Bool))))):=
 if(decide (s.2.2.2.1 < s.2.2.1))=true then
  (idx s.2.1 s.2.2.2.1).bind λe83=>
  (ZiR F s.1 e83.1).bind λo84=>
  if(!o84.2)=true then
   some (.inr (.inl (false,s.2.2.2.2.1,s.2.2.2.2.2)))
  else
  (Wx F e83.2).bind λo85=>
  if(!o85)=true then
   some (.inr (.inl (false,s.2.2.2.2.1,s.2.2.2.2.2)))
  else
  some (.inl (o84.1,s.2.1,s.2.2.1,wi (s.2.2.2.1+1),s.2.2.2.2.1,s.2.2.2.2.2))
 else
 some (.inr (.inr (s.2.2.2.2.1,s.2.2.2.2.2)))
def ZkX:Lp:=⟨[(6,.v yI),(66,.v (.sl Zr)),(67,.v yI),(68,.v yI)],[.var (.v yTx) true,.map 129 Zb .bool],[yI,(.sl Zr),yI,yI,yTx,(YT Zb .bool)],[⟨.ret,[(2,.v .bool)],[.var (.v yTx) true,.map 129 Zb .bool],[.bool,yTx,(YT Zb .bool)]⟩,⟨.exit 2,[],[.var (.v yTx) true,.map 129 Zb .bool],[yTx,(YT Zb .bool)]⟩],Zk (Za1 fuel) fuel⟩
theorem ZnL:ZkX.okA Try.prog 29 1:=ZV { still:=[2,57,73,75,83]} [] [Zqe,VU] ⟨ZvU,QP,ytt⟩
def Qw(F:Nat)(a0:Tx):Option (Bool):=
 if(decide ((a0.1.length:Int) < 1))=true then
  some false
 else
 if(decide ((a0.1.length:Int) > 64))=true then
  some false
 else
 if(decide ((a0.2.1.length:Int) > 64))=true then
  some false
 else
 if(decide (a0.2.2 < 0))=true then
  some false
 else
 (Zk (VV F) F (a0.1,(a0.1.length:Int),0,a0,([]:List (Ze×Bool)))).bind λo80=>
 match o80 with
 |.inl o81=>
  some o81.1
 |.inr o82=>
  (Zk (Za1 F) F (0,o82.1.2.1,(o82.1.2.1.length:Int),0,o82.1,o82.2)).bind λo86=>
  match o86 with
  |.inl o87=>
   some o87.1
  |.inr o88=>
   some true
def Zt1(F:Nat):Fs Try.prog:=⟨29,[.v yTx],[],[yTx],[⟨.ret,[(0,.v .bool)],[],[.bool]⟩],λx=>Qw F x⟩
def ZbJ:Fs Try.prog:=Zt1 fuel
theorem ZcC:ZbJ.Ok:=fnO { still:=[2,57,73,75,83]} [(0,ZkW),(1,ZkX)] [] trivial ⟨ZnK,ZnL,ytt⟩
def Zfv(F:Nat):Option ((List UInt32)):=
 some [1779033703,3144134277,1013904242,2773480762,1359893119,2600822924,528734635,1541459225]
def ZoZ(F:Nat):Fs Try.prog:=⟨86,[],[],[],[⟨.ret,[(0,.v (.arr 8 .u32))],[],[(.arr 8 .u32)]⟩],λx=>Zfv F⟩
def ZiS:Fs Try.prog:=ZoZ fuel
theorem Zo0:ZiS.Ok:=fnO {} [] [] trivial
def ZB(F:Nat)(a0:UInt32)(a1:Int):Option (UInt32):=
 let y90:UInt32:=Zff a0 (min (((w64 a1)&&&31).toNat:Int).toNat 32);let y91:UInt32:=Zet a0 (min ((32 - ((w64 a1)&&&31)).toNat:Int).toNat 32)
 some (y90|||y91)
def Zfw(F:Nat):Fs Try.prog:=⟨98,[.v .u32,.v yI],[],[.u32,yI],[⟨.ret,[(0,.v .u32)],[],[.u32]⟩],λx=>ZB F x.1 x.2⟩
def WW:Fs Try.prog:=Zfw fuel
theorem Zab:WW.Ok:=fnO { still:=[4]} [] [] trivial
def Za2(F:Nat)(a0:(List UInt8)):Option (UInt32):=
 (idx a0 0).bind λe92=>
 (idx a0 1).bind λe93=>
 let y94:UInt32:=(Zff (UInt32.ofNat e92.toNat) 24)|||(Zff (UInt32.ofNat e93.toNat) 16)
 (idx a0 2).bind λe95=>
 (idx a0 3).bind λe96=>
 let y97:UInt32:=(y94|||(Zff (UInt32.ofNat e95.toNat) 8))|||(UInt32.ofNat e96.toNat)
 some y97
def ZnM(F:Nat):Fs Try.prog:=⟨103,[.v (.sl .u8)],[],[(.sl .u8)],[⟨.ret,[(0,.v .u32)],[],[.u32]⟩],λx=>Za2 F x⟩
def ZgO:Fs Try.prog:=ZnM fuel
theorem ZnN:ZgO.Ok:=fnO { still:=[2]} [] [] trivial
def Wm(F:Nat)(s:((List UInt8)×Int×(List UInt32))):Option (((List UInt8)×Int×(List UInt32))⊕(List UInt32)):=
 if(decide (s.2.1 < 64))=true then
  if(decide (s.2.1 < 16))=true then
   if(ZaW s.1.length (some (wi (4*s.2.1))) none)=true then
    (Za2 F (s.1.drop ((wi (4*s.2.1)).toNat))).bind λo98=>
    if(inB s.2.1 64)=true then
     (s.2.2[s.2.1.toNat]?).bind λe99=>
     some (.inl (s.1,wi (s.2.1+1),s.2.2.set s.2.1.toNat o98))
    else
    none
   else
   none
  else
  if(inB (wi (s.2.1 - 15)) 64)=true then
   (s.2.2[(wi (s.2.1 - 15)).toNat]?).bind λe100=>
   if(inB (wi (s.2.1 - 2)) 64)=true then
    (s.2.2[(wi (s.2.1 - 2)).toNat]?).bind λe101=>
    (ZB F e100 (-7)).bind λo102=>
    (ZB F e100 (-18)).bind λo103=>
    (ZB F e101 (-17)).bind λo104=>
    (ZB F e101 (-19)).bind λo105=>
    if(inB (wi (s.2.1 - 16)) 64)=true then
     (s.2.2[(wi (s.2.1 - 16)).toNat]?).bind λe106=>
     if(inB (wi (s.2.1 - 7)) 64)=true then
      (s.2.2[(wi (s.2.1 - 7)).toNat]?).bind λe107=>
      let y108:UInt32:=(e106+((o102^^^o103)^^^(Zet e100 3)))+e107
      if(inB s.2.1 64)=true then
       (s.2.2[s.2.1.toNat]?).bind λe109=>
       let y110:(List UInt32):=s.2.2.set s.2.1.toNat (y108+((o104^^^o105)^^^(Zet e101 10)))
       some (.inl (s.1,wi (s.2.1+1),y110))
      else
      none
     else
     none
    else
    none
   else
   none
  else
  none
 else
 some (.inr s.2.2)
def ZdA:Lp:=⟨[(0,.v (.sl .u8)),(2,.ref 0 []),(8,.v yI)],[.var (.v (.arr 64 .u32)) true],[(.sl .u8),yI,(.arr 64 .u32)],[⟨.exit 0,[(2,.ref 0 [])],[.var (.v (.arr 64 .u32)) true],[(.arr 64 .u32)]⟩],Zk (Wm fuel) fuel⟩
theorem Zgr:ZdA.okA Try.prog 96 0:=ZV { still:=[17,28,30,36,38]} [] [ZgO,WW] ⟨ZnN,Zab,ytt⟩
def VW(F:Nat)(a0:(List UInt8)):Option ((List UInt32)):=
 (Zk (Wm F) F (a0,0,[0,0,0,0,0,0,0,0,0,0,0,0,0,0,0,0,0,0,0,0,0,0,0,0,0,0,0,0,0,0,0,0,0,0,0,0,0,0,0,0,0,0,0,0,0,0,0,0,0,0,0,0,0,0,0,0,0,0,0,0,0,0,0,0])).bind λo111=>
 some o111
def Zj7(F:Nat):Fs Try.prog:=⟨96,[.v (.sl .u8)],[],[(.sl .u8)],[⟨.ret,[(0,.v (.arr 64 .u32))],[],[(.arr 64 .u32)]⟩],λx=>VW F x⟩
def ZeA:Fs Try.prog:=Zj7 fuel
theorem Zj8:ZeA.Ok:=fnO { still:=[17,28,30,36,38]} [(0,ZdA)] [] trivial ⟨Zgr,ytt⟩
def Zfx(F:Nat):Option ((List UInt32)):=
 some [1116352408,1899447441,3049323471,3921009573,961987163,1508970993,2453635748,2870763221,3624381080,310598401,607225278,1426881987,1925078388,2162078206,2614888103,3248222580,3835390401,4022224774,264347078,604807628,770255983,1249150122,1555081692,1996064986,2554220882,2821834349,2952996808,3210313671,3336571891,3584528711,113926993,338241895,666307205,773529912,1294757372,1396182291,1695183700,1986661051,2177026350,2456956037,2730485921,2820302411,3259730800,3345764771,3516065817,3600352804,4094571909,275423344,430227734,506948616,659060556,883997877,958139571,1322822218,1537002063,1747873779,1955562222,2024104815,2227730452,2361852424,2428436474,2756734187,3204031479,3329325298]
def Zo1(F:Nat):Fs Try.prog:=⟨97,[],[],[],[⟨.ret,[(0,.v (.arr 64 .u32))],[],[(.arr 64 .u32)]⟩],λx=>Zfx F⟩
def ZiT:Fs Try.prog:=Zo1 fuel
theorem Zo2:ZiT.Ok:=fnO {} [] [] trivial
def XS(F:Nat)(s:(Int×(List UInt32)×(List UInt32)×(List UInt32)×(List UInt32)×(List UInt32))):Option ((Int×(List UInt32)×(List UInt32)×(List UInt32)×(List UInt32)×(List UInt32))⊕((List UInt32)×(List UInt32)×(List UInt32)×(List UInt32)×(List UInt32))):=
 if(decide (s.1 < 64))=true then
  (s.2.2.2.2.2[4]?).bind λe114=>
  (ZB F e114 (-6)).bind λo115=>
  (s.2.2.2.2.2[4]?).bind λe116=>
  (ZB F e116 (-11)).bind λo117=>
  (s.2.2.2.2.2[4]?).bind λe118=>
  (ZB F e118 (-25)).bind λo119=>
  (s.2.2.2.2.2[7]?).bind λe120=>
  (s.2.2.2.2.2[6]?).bind λe121=>
  (s.2.2.2.2.2[4]?).bind λe122=>
  (s.2.2.2.2.2[5]?).bind λe123=>
  (s.2.2.2.2.2[6]?).bind λe124=>
  let y125:UInt32:=(e120+((o115^^^o117)^^^o119))+(e121^^^(e122&&&(e123^^^e124)))
  if(inB s.1 64)=true then
   (s.2.2.2.2.1[s.1.toNat]?).bind λe126=>
   if(inB s.1 64)=true then
    (s.2.2.2.1[s.1.toNat]?).bind λe127=>
    (s.2.2.2.2.2[0]?).bind λe128=>
    (ZB F e128 (-2)).bind λo129=>
    (s.2.2.2.2.2[0]?).bind λe130=>
    (ZB F e130 (-13)).bind λo131=>
    (s.2.2.2.2.2[0]?).bind λe132=>
    (ZB F e132 (-22)).bind λo133=>
    (s.2.2.2.2.2[0]?).bind λe134=>
    (s.2.2.2.2.2[1]?).bind λe135=>
    (s.2.2.2.2.2[2]?).bind λe136=>
    (s.2.2.2.2.2[0]?).bind λe137=>
    (s.2.2.2.2.2[1]?).bind λe138=>
    let y139:UInt32:=((y125+e126)+e127)+((o129^^^o131)^^^o133);let y140:UInt32:=y139+((e134&&&e135)|||(e136&&&(e137|||e138)))
    (s.2.2.2.2.2[0]?).bind λe141=>
    (s.2.2.2.2.2[1]?).bind λe142=>
    (s.2.2.2.2.2[2]?).bind λe143=>
    (s.2.2.2.2.2[3]?).bind λe144=>
    (s.2.2.2.2.2[4]?).bind λe145=>
    (s.2.2.2.2.2[5]?).bind λe146=>
    (s.2.2.2.2.2[6]?).bind λe147=>
    some (.inl (wi (s.1+1),s.2.1,s.2.2.1,s.2.2.2.1,s.2.2.2.2.1,[y140,e141,e142,e143,e144+((y125+e126)+e127),e145,e146,e147]))
   else
   none
  else
  none
 else
 some (.inr (s.2.1,s.2.2.1,s.2.2.2.1,s.2.2.2.2.1,s.2.2.2.2.2))
def ZCO:List ESh:=[.var (.v (.arr 8 .u32)) true,.var (.v (.arr 8 .u32)) true,.var (.v (.arr 64 .u32)) true,.var (.v (.arr 64 .u32)) true,.var (.v (.arr 8 .u32)) true]
def ZcD:Lp:=⟨[(2,.ref 0 []),(4,.ref 1 []),(5,.ref 2 []),(6,.ref 3 []),(7,.ref 4 []),(18,.v yI)],ZCO,[yI,(.arr 8 .u32),(.arr 8 .u32),(.arr 64 .u32),(.arr 64 .u32),(.arr 8 .u32)],[⟨.exit 0,[(2,.ref 0 []),(4,.ref 1 []),(7,.ref 4 [])],ZCO,[(.arr 8 .u32),(.arr 8 .u32),(.arr 64 .u32),(.arr 64 .u32),(.arr 8 .u32)]⟩],Zk (XS fuel) fuel⟩
def hi3:HI:={ still:=[14,22,25,29,57,60,64]}
theorem Zfy:ZcD.okA Try.prog 87 0:=ZV hi3 [] [WW] ⟨Zab,ytt⟩
def XT(F:Nat)(s:(Int×(List UInt32)×(List UInt32)×(List UInt32)×(List UInt32)×(List UInt32))):Option ((Int×(List UInt32)×(List UInt32)×(List UInt32)×(List UInt32)×(List UInt32))⊕((List UInt32)×(List UInt32)×(List UInt32)×(List UInt32)×(List UInt32))):=
 if(decide (s.1 < 8))=true then
  if(inB s.1 8)=true then
   (s.2.2.2.2.2[s.1.toNat]?).bind λe149=>
   if(inB s.1 8)=true then
    (s.2.1[s.1.toNat]?).bind λe150=>
    if(inB s.1 8)=true then
     (s.2.2.2.2.2[s.1.toNat]?).bind λe151=>
     some (.inl (wi (s.1+1),s.2.1,s.2.2.1,s.2.2.2.1,s.2.2.2.2.1,s.2.2.2.2.2.set s.1.toNat (e149+e150)))
    else
    none
   else
   none
  else
  none
 else
 some (.inr (s.2.1,s.2.2.1,s.2.2.2.1,s.2.2.2.2.1,s.2.2.2.2.2))
def ZcE:Lp:=⟨[(2,.ref 0 []),(4,.ref 1 []),(7,.ref 4 []),(104,.v yI)],ZCO,[yI,(.arr 8 .u32),(.arr 8 .u32),(.arr 64 .u32),(.arr 64 .u32),(.arr 8 .u32)],[⟨.exit 2,[(4,.ref 1 []),(7,.ref 4 [])],ZCO,[(.arr 8 .u32),(.arr 8 .u32),(.arr 64 .u32),(.arr 64 .u32),(.arr 8 .u32)]⟩],Zk (XT fuel) fuel⟩
theorem Zfz:ZcE.okA Try.prog 87 1:=ZV hi3 [] [] trivial
def X0(F:Nat)(a0:(List UInt32))(a1:(List UInt8)):Option ((List UInt32)):=
 (VW F a1).bind λo112=>
 (Zfx F).bind λo113=>
 (Zk (XS F) F (0,a0,[0,0,0,0,0,0,0,0],o112,o113,a0)).bind λo148=>
 (Zk (XT F) F (0,o148.1,o148.2.1,o148.2.2.1,o148.2.2.2.1,o148.2.2.2.2)).bind λo152=>
 some o152.2.2.2.2
def ZiU(F:Nat):Fs Try.prog:=⟨87,[.v (.arr 8 .u32),.v (.sl .u8)],[],[(.arr 8 .u32),(.sl .u8)],[⟨.ret,[(0,.v (.arr 8 .u32))],[],[(.arr 8 .u32)]⟩],λx=>X0 F x.1 x.2⟩
def Qx:Fs Try.prog:=ZiU fuel
theorem ZcF:Qx.Ok:=fnO hi3 [(0,ZcD),(1,ZcE)] [ZeA,ZiT] ⟨Zj8,Zo2,ytt⟩ ⟨Zfy,Zfz,ytt⟩
def ZQ(F:Nat)(a0:(List UInt8)):Option ((List UInt8)):=
 if(apB 0 a0.length 1)=true then
  some a0
 else
 none
def Zaq(F:Nat):Fs Try.prog:=⟨85,[.sl true .u8],[],[(.sl .u8)],[⟨.ret,[(0,.own 0 .u8)],[.log .u8 5],[(.sl .u8)]⟩],λx=>ZQ F x⟩
def Za3:Fs Try.prog:=Zaq fuel
theorem Zar:Za3.Ok:=fnO { own:=[2,5,7]} [] [] trivial
def Wz(F:Nat):Option ((List UInt8)):=
 some []
def Zas(F:Nat):Fs Try.prog:=⟨85,[.nil .u8],[],[],[⟨.ret,[(0,.own 0 .u8)],[.log .u8 5],[(.sl .u8)]⟩],λx=>Wz F⟩
def Za4:Fs Try.prog:=Zas fuel
theorem Zat:Za4.Ok:=fnO { own:=[2,5,7]} [] [] trivial
def Qy(F:Nat):Fs Try.prog:=⟨85,[.v (.sl .u8)],[],[(.sl .u8)],[⟨.ret,[(0,.own 0 .u8)],[.log .u8 5],[(.sl .u8)]⟩],λx=>ZQ F x⟩
def XJ:Fs Try.prog:=Qy fuel
theorem Qz:XJ.Ok:=ZvK (t:=.u8) (xs:=[⟨.ret,[(0,.own 0 .u8)],[.log .u8 5],[(.sl .u8)]⟩]) (MA:=λ(x:(List UInt8))=>ZQ fuel x) (MB:=λ_=>Wz fuel) Zar Zat rfl
def QQ(F:Nat)(s:((List UInt8)×(List UInt8)×(List UInt8))):Option (((List UInt8)×(List UInt8)×(List UInt8))⊕((List UInt8)×(List UInt8)×(List UInt8))):=
 if((yag (s.2.2.length:Int) 64)!=56)=true then
  if(apB s.2.2.length 1 1)=true then
   some (.inl (s.1,s.2.1,s.2.2++([0]:List UInt8)))
  else
  none
 else
 some (.inr (s.1,s.2.1,s.2.2))
def ZiV:Lp:=⟨[(0,.v (.sl .u8)),(2,.ref 0 []),(3,.own 1 .u8)],[.var (.v (.arr 32 .u8)) true,.log .u8 5],[(.sl .u8),(.arr 32 .u8),(.sl .u8)],[⟨.exit 0,[(0,.v (.sl .u8)),(2,.ref 0 []),(3,.own 1 .u8)],[.var (.v (.arr 32 .u8)) true,.log .u8 5],[(.sl .u8),(.arr 32 .u8),(.sl .u8)]⟩],Zk (QQ fuel) fuel⟩
def hi4:HI:={ own:=[3,14,16,21,23,24,28,43],still:=[13,24,27,35,37,44,46]}
theorem Zlt:ZiV.okA Try.prog 57 0:=ZV hi4 [] [] trivial
def WM(F:Nat)(s:(Int×Int×(List UInt8)×(List UInt8))):Option ((Int×Int×(List UInt8)×(List UInt8))⊕((List UInt8)×(List UInt8))):=
 if(decide (s.2.1 ≥ 0))=true then
  if(decide (0≤s.2.1))=true then
   if(apB s.2.2.1.length 1 1)=true then
    let y156:(List UInt8):=s.2.2.1++([w8 (Int.fdiv s.1 (2 ^ (min s.2.1.toNat 64)))]:List UInt8)
    some (.inl (s.1,wi (s.2.1 - 8),y156,s.2.2.2))
   else
   none
  else
  none
 else
 some (.inr (s.2.2.1,s.2.2.2))
def ZeB:Lp:=⟨[(0,.own 0 .u8),(1,.v yI),(5,.v yI)],[.log .u8 5,.log .u8 5],[yI,yI,(.sl .u8),(.sl .u8)],[⟨.exit 0,[(0,.own 0 .u8)],[.log .u8 5,.log .u8 5],[(.sl .u8),(.sl .u8)]⟩],Zk (WM fuel) fuel⟩
theorem Zhy:ZeB.okA Try.prog 56 0:=ZV { own:=[0,4,10,16,17]} [] [] trivial
def YY(F:Nat)(a1:Int)(s0:(List UInt8)):Option ((List UInt8)):=
 (Zk (WM F) F (a1,56,s0,[])).bind λo157=>
 some o157.1
def Zau(F:Nat):Fs Try.prog:=⟨56,[.own 0 .u8,.v yI],[.log .u8 5],[yI,(.sl .u8)],[⟨.ret,[(0,.own 0 .u8)],[.log .u8 5],[(.sl .u8)]⟩],λx=>YY F x.1 x.2⟩
def ZbK:Fs Try.prog:=Zau fuel
theorem Zav:ZbK.Ok:=fnO { own:=[0,4,10,16,17]} [(0,ZeB)] [] trivial ⟨Zhy,ytt⟩
def QR(F:Nat)(s:((List UInt8)×(List UInt8)×(List UInt8)×(List UInt32))):Option (((List UInt8)×(List UInt8)×(List UInt8)×(List UInt32))⊕((List UInt8)×(List UInt8)×(List UInt32))):=
 if(decide ((s.1.length:Int) ≥ 64))=true then
  if(ZaW s.1.length none (some 64))=true then
   (X0 F s.2.2.2 (s.1.take 64)).bind λo160=>
   if(ZaW s.1.length (some 64) none)=true then
    some (.inl (s.1.drop 64,s.2.1,s.2.2.1,o160))
   else
   none
  else
  none
 else
 some (.inr (s.2.1,s.2.2.1,s.2.2.2))
def ZiW:Lp:=⟨[(0,.v (.sl .u8)),(2,.ref 0 []),(3,.own 1 .u8),(4,.ref 2 [])],[.var (.v (.arr 32 .u8)) true,.log .u8 5,.var (.v (.arr 8 .u32)) true],[(.sl .u8),(.arr 32 .u8),(.sl .u8),(.arr 8 .u32)],[⟨.exit 2,[(2,.ref 0 []),(3,.own 1 .u8),(4,.ref 2 [])],[.var (.v (.arr 32 .u8)) true,.log .u8 5,.var (.v (.arr 8 .u32)) true],[(.arr 32 .u8),(.sl .u8),(.arr 8 .u32)]⟩],Zk (QR fuel) fuel⟩
theorem Zlu:ZiW.okA Try.prog 57 1:=ZV hi4 [] [Qx] ⟨ZcF,ytt⟩
def QS(F:Nat)(s:((List UInt8)×(List UInt8)×(List UInt8)×(List UInt32))):Option (((List UInt8)×(List UInt8)×(List UInt8)×(List UInt32))⊕((List UInt8)×(List UInt8)×(List UInt32))):=
 if(decide ((s.1.length:Int) > 0))=true then
  if(ZaW s.1.length none (some 64))=true then
   (X0 F s.2.2.2 (s.1.take 64)).bind λo163=>
   if(ZaW s.1.length (some 64) none)=true then
    some (.inl (s.1.drop 64,s.2.1,s.2.2.1,o163))
   else
   none
  else
  none
 else
 some (.inr (s.2.1,s.2.2.1,s.2.2.2))
def ZiX:Lp:=⟨[(2,.ref 0 []),(3,.v (.sl .u8)),(4,.ref 2 [])],[.var (.v (.arr 32 .u8)) true,.log .u8 5,.var (.v (.arr 8 .u32)) true],[(.sl .u8),(.arr 32 .u8),(.sl .u8),(.arr 8 .u32)],[⟨.exit 4,[(2,.ref 0 []),(4,.ref 2 [])],[.var (.v (.arr 32 .u8)) true,.log .u8 5,.var (.v (.arr 8 .u32)) true],[(.arr 32 .u8),(.sl .u8),(.arr 8 .u32)]⟩],Zk (QS fuel) fuel⟩
theorem Zlv:ZiX.okA Try.prog 57 2:=ZV hi4 [] [Qx] ⟨ZcF,ytt⟩
def QT(F:Nat)(s:(Int×(List UInt8)×(List UInt8)×(List UInt32))):Option ((Int×(List UInt8)×(List UInt8)×(List UInt32))⊕((List UInt8)×(List UInt8)×(List UInt32))):=
 if(decide (s.1 < 32))=true then
  if(inB (wi (yn s.1 4)) 8)=true then
   (s.2.2.2[(wi (yn s.1 4)).toNat]?).bind λe165=>
   if(decide (0≤wi (24 - (wi (8*(yag s.1 4))))))=true then
    let y166:UInt32:=Zet e165 (min (wi (24 - (wi (8*(yag s.1 4))))).toNat 32)
    if(inB s.1 32)=true then
     (s.2.1[s.1.toNat]?).bind λe167=>
     some (.inl (wi (s.1+1),s.2.1.set s.1.toNat (w8 (y166.toNat:Int)),s.2.2.1,s.2.2.2))
    else
    none
   else
   none
  else
  none
 else
 some (.inr (s.2.1,s.2.2.1,s.2.2.2))
def ZiY:Lp:=⟨[(2,.ref 0 []),(4,.ref 2 []),(48,.v yI)],[.var (.v (.arr 32 .u8)) true,.log .u8 5,.var (.v (.arr 8 .u32)) true],[yI,(.arr 32 .u8),(.sl .u8),(.arr 8 .u32)],[⟨.exit 6,[(2,.ref 0 [])],[.var (.v (.arr 32 .u8)) true,.log .u8 5,.var (.v (.arr 8 .u32)) true],[(.arr 32 .u8),(.sl .u8),(.arr 8 .u32)]⟩],Zk (QT fuel) fuel⟩
theorem Zlw:ZiY.okA Try.prog 57 3:=ZV hi4 [] [] trivial
def ZbL(F:Nat)(a0:(List UInt8)):Option ((List UInt8)):=
 let y153:Int:=wi ((a0.length:Int) - (yag (a0.length:Int) 64))
 if(ZaW a0.length (some y153) none)=true then
  (ZQ F (a0.drop y153.toNat)).bind λo154=>
  if(apB o154.length 1 1)=true then
   (Zk (QQ F) F (a0,yzz,o154++([128]:List UInt8))).bind λo155=>
   (YY F (wi (8*(o155.1.length:Int))) o155.2.2).bind λo158=>
   (Zfv F).bind λo159=>
   (Zk (QR F) F (o155.1,o155.2.1,o158,o159)).bind λo161=>
   (Zk (QS F) F (o161.2.1,o161.1,o161.2.1,o161.2.2)).bind λo164=>
   (Zk (QT F) F (0,o164.1,o164.2.1,o164.2.2)).bind λo168=>
   some o168.1
  else
  none
 else
 none
def Zee(F:Nat):Fs Try.prog:=⟨57,[.v (.sl .u8)],[],[(.sl .u8)],[⟨.ret,[(0,.v (.arr 32 .u8))],[],[(.arr 32 .u8)]⟩],λx=>ZbL F x⟩
def Zt2:Fs Try.prog:=Zee fuel
theorem ZrZ:Zt2.Ok:=fnO hi4 [(0,ZiV),(1,ZiW),(2,ZiX),(3,ZiY)] [ZbK,XJ,ZiS] ⟨Zav,Qz,Zo0,ytt⟩ ⟨Zlt,Zlu,Zlv,Zlw,ytt⟩
end
end Go.Proofs.Ytkapgdbeeblihaa
end
section
namespace Go.Sha
open Go.Ev
noncomputable def W3{α:Type}(n:Nat)(k:Nat→α):α:=Nat.rec (motive:=λ_=>α) (k 0) (λm _=>k (Nat.succ m)) n
theorem YI{α:Type}(n:Nat)(k:Nat→α):W3 n k=k n:=by cases n <;> rfl
def dbl(x:Nat):Nat:=Nat.mul x 4294967297
def s0(x:Nat):Nat:=Nat.xor (Nat.xor (yah (dbl x) 7) (yah (dbl x) 18)) (yah x 3)
def s1(x:Nat):Nat:=Nat.xor (Nat.xor (yah (dbl x) 17) (yah (dbl x) 19)) (yah x 10)
def S0(x:Nat):Nat:=Nat.xor (Nat.xor (yah (dbl x) 2) (yah (dbl x) 13)) (yah (dbl x) 22)
def S1(x:Nat):Nat:=Nat.xor (Nat.xor (yah (dbl x) 6) (yah (dbl x) 11)) (yah (dbl x) 25)
def ch(e f g:Nat):Nat:=Nat.xor g (Nat.land e (Nat.xor f g))
def mj(a b c:Nat):Nat:=Nat.lor (Nat.land a b) (Nat.land c (Nat.lor a b))
def lo(x:Nat):Nat:=Nat.mod x 4294967296
def kw(W:Nat):Nat:=lo (yv (yv (yv (yah W 480) (s0 (lo (yah W 448)))) (lo (yah W 192))) (s1 (lo (yah W 32))))
def kn(W:Nat):Nat:=Nat.mod (yv (Nat.mul W 4294967296) (kw W)) (Nat.pow 2 512)
noncomputable def kst(k:Nat)(ih:Nat→Nat→Nat→Nat→Nat→Nat→Nat→Nat→Nat→Nat)(W a b c d e f g h:Nat):Nat:=
 W3 (yv (yv (yv (yv h (S1 e)) (ch e f g)) k) (yah W 480)) λt=>
     W3 (lo (yv (yv t (S0 a)) (mj a b c))) λa'=>W3 (lo (yv d t)) λe'=>W3 (kn W) λW'=>ih W' a' a b c e' e f g
noncomputable def kgo(ks:List Nat)(K:Nat→Nat→Nat→Nat→Nat→Nat→Nat→Nat→Nat):Nat→Nat→Nat→Nat→Nat→Nat→Nat→Nat→Nat→Nat:=
 List.rec (motive:=λ_=>Nat→Nat→Nat→Nat→Nat→Nat→Nat→Nat→Nat→Nat) (λ_=>K) (λk _ ih=>kst k ih) ks
def ks:List Nat:=[1116352408,1899447441,3049323471,3921009573,961987163,1508970993,2453635748,2870763221,3624381080,310598401,607225278,1426881987,1925078388,2162078206,2614888103,3248222580,3835390401,4022224774,264347078,604807628,770255983,1249150122,1555081692,1996064986,2554220882,2821834349,2952996808,3210313671,3336571891,3584528711,113926993,338241895,666307205,773529912,1294757372,1396182291,1695183700,1986661051,2177026350,2456956037,2730485921,2820302411,3259730800,3345764771,3516065817,3600352804,4094571909,275423344,430227734,506948616,659060556,883997877,958139571,1322822218,1537002063,1747873779,1955562222,2024104815,2227730452,2361852424,2428436474,2756734187,3204031479,3329325298]
def w32(H i:Nat):Nat:=lo (yah H i)
def cat(H x:Nat):Nat:=yv (Nat.mul H 4294967296) (lo x)
noncomputable def ZCP(H B:Nat):Nat:=
 W3 (w32 H 224) λa=>W3 (w32 H 192) λb=>W3 (w32 H 160) λc=>W3 (w32 H 128) λd=>W3 (w32 H 96) λe=>W3 (w32 H 64) λf=>W3 (w32 H 32) λg=>W3 (w32 H 0) λh=>
  kgo ks (λa' b' c' d' e' f' g' h'=>cat (cat (cat (cat (cat (cat (cat (cat 0 (yv a' a)) (yv b' b)) (yv c' c)) (yv d' d)) (yv e' e)) (yv f' f)) (yv g' g)) (yv h' h)) B a b c d e f g h
noncomputable def pk(l:List Nat)(n:Nat):Nat:=List.rec (motive:=λ_=>Nat→Nat) (λn=>n) (λx _ ih n=>W3 (yv (Nat.mul n 256) x) ih) l n
noncomputable def ZEF(n:Nat)(l:List Nat)(H:Nat):Nat:=
 Nat.rec (motive:=λ_=>List Nat→Nat→Nat) (λ_ H=>H) (λ_ ih l H=>W3 (ZCP H (pk (l.take 64) 0)) λH'=>ih (l.drop 64) H') n l H
noncomputable def YE(H:Nat)(l:List Nat):List UInt8:=List.rec (motive:=λ_=>List UInt8) [] (λs _ ih=>W3 (Nat.mod (yah H s) 256) λx=>ybc x::ih) l
def ZvV:List Nat:=[248,240,232,224,216,208,200,192,184,176,168,160,152,144,136,128,120,112,104,96,88,80,72,64,56,48,40,32,24,16,8,0]
def be8(n:Nat):List Nat:=[n / 2 ^ 56 % 256,n / 2 ^ 48 % 256,n / 2 ^ 40 % 256,n / 2 ^ 32 % 256,n / 2 ^ 24 % 256,n / 2 ^ 16 % 256,n / 2 ^ 8 % 256,n % 256]
def zs(n:Nat):Nat:=(119 - n % 64) % 64
def H0:Nat:=cat (cat (cat (cat (cat (cat (cat (cat 0 1779033703) 3144134277) 1013904242) 2773480762) 1359893119) 2600822924) 528734635) 1541459225
noncomputable def sha(l:List UInt8):List UInt8:=
 W3 l.length λn=>W3 (ZEF (Nat.div (yv n 72) 64) (l.map ybi++(128::(yab (zs n) 0++be8 (8*n)))) H0) λH=>YE H ZvV
theorem ZfA(x y:UInt32):(x+y).toNat=lo (x.toNat+y.toNat):=by rw[UInt32.toNat_add];rfl
theorem ZgP(x y:UInt32):(x^^^y).toNat=Nat.xor x.toNat y.toNat:=UInt32.toNat_xor ..
theorem ZAW(x y:UInt32):(x&&&y).toNat=Nat.land x.toNat y.toNat:=UInt32.toNat_and ..
theorem ZyD(x y:UInt32):(x|||y).toNat=Nat.lor x.toNat y.toNat:=UInt32.toNat_or ..
theorem ZEG(x:UInt32):x.toNat < 4294967296:=x.toNat_lt
theorem Zt3(x:UInt32)(n:Nat):(Zet x n).toNat=yah x.toNat n:=by
 unfold Zet;rw[yct,show yah x.toNat n=x.toNat >>> n from rfl,Nat.shiftRight_eq_div_pow]
 exact yao (Nat.lt_of_le_of_lt (Nat.div_le_self _ _) (ZEG x))
theorem ZDp(x:Nat):lo x < 4294967296:=ybp _ (by omega)
theorem Qa{x:Nat}(h:x < 4294967296):lo x=x:=yao h
theorem ZFw(x:UInt32){n k:Nat}(h:n+k=32)(hn:0 < n):(Zff x k|||Zet x n).toNat=lo (yah (dbl x.toNat) n):=by
 rw[ZyD,Zt3];unfold Zff;have hx:=ZEG x;generalize x.toNat=m at hx;have hp:2 ^ n*2 ^ k=4294967296:=by rw[←Nat.pow_add,h]
 rw[yct,show yah m n=m >>> n from rfl,Nat.shiftRight_eq_div_pow,show yah (dbl m) n=(dbl m) >>> n from rfl,Nat.shiftRight_eq_div_pow]
 have e1:m*2 ^ k % 2 ^ 32=2 ^ k*(m % 2 ^ n):=by
  rw[show(2:Nat) ^ 32=2 ^ n*2 ^ k from hp.symm,Nat.mul_mod_mul_right]
  exact ybs ..
 have hd:m / 2 ^ n < 2 ^ k:=by
  rw[Nat.div_lt_iff_lt_mul (Nat.two_pow_pos n),ybs,hp];exact hx
 rw[e1,show Nat.lor (2 ^ k*(m % 2 ^ n)) (m / 2 ^ n)=2 ^ k*(m % 2 ^ n)|||m / 2 ^ n from rfl, ←Nat.two_pow_add_eq_or_of_lt hd]
 have e2:dbl m=2 ^ n*(m*2 ^ k)+m:=by
  unfold dbl;rw[Nat.mul_left_comm,hp,show Nat.mul m 4294967297=m*4294967297 from rfl]
  omega
 rw[e2,Nat.mul_add_div (Nat.two_pow_pos n)];unfold lo;rw[show Nat.mod (m*2 ^ k+m / 2 ^ n) 4294967296=(m*2 ^ k+m / 2 ^ n) % 4294967296 from rfl,Nat.add_mod,show m*2 ^ k % 4294967296=2 ^ k*(m % 2 ^ n) from e1,yao (a:=m / 2 ^ n) (b:=4294967296) (by rw[←hp];exact Nat.lt_of_lt_of_le hd (Nat.le_mul_of_pos_left _ (Nat.two_pow_pos n)))]
 refine(yao ?_).symm;have hm:m % 2 ^ n < 2 ^ n:=ybp _ (Nat.two_pow_pos n)
 calc 2 ^ k*(m % 2 ^ n)+m / 2 ^ n < 2 ^ k*(m % 2 ^ n)+2 ^ k:=by omega
  _=2 ^ k*(m % 2 ^ n+1):=by rw[Nat.mul_add,Nat.mul_one]
  _≤2 ^ k*2 ^ n:=Nat.mul_le_mul_left _ hm
  _=4294967296:=by rw[ybs,hp]
theorem ZfB(x y:Nat):lo (Nat.xor x y)=Nat.xor (lo x) (lo y):=Nat.xor_mod_two_pow (n:=32)
theorem ZAX(x:UInt32)(n:Nat):lo (yah x.toNat n)=yah x.toNat n:=by
 rw[←Zt3];exact Qa (ZEG _)
theorem ZFX(x:UInt32){a b:UInt32}(ha:a.toNat=lo (yah (dbl x.toNat) 7))(hb:b.toNat=lo (yah (dbl x.toNat) 18)):((a^^^b)^^^Zet x 3).toNat=lo (s0 x.toNat):=by
 unfold s0;rw[ZgP,ZgP,Zt3,ha,hb,ZfB,ZfB,ZAX]
theorem ZFY(x:UInt32){a b:UInt32}(ha:a.toNat=lo (yah (dbl x.toNat) 17))(hb:b.toNat=lo (yah (dbl x.toNat) 19)):((a^^^b)^^^Zet x 10).toNat=lo (s1 x.toNat):=by
 unfold s1;rw[ZgP,ZgP,Zt3,ha,hb,ZfB,ZfB,ZAX]
theorem ZFZ(x:UInt32){a b c:UInt32}(ha:a.toNat=lo (yah (dbl x.toNat) 2))(hb:b.toNat=lo (yah (dbl x.toNat) 13))(hc:c.toNat=lo (yah (dbl x.toNat) 22)):((a^^^b)^^^c).toNat=lo (S0 x.toNat):=by
 unfold S0;rw[ZgP,ZgP,ha,hb,hc,ZfB,ZfB]
theorem ZF0(x:UInt32){a b c:UInt32}(ha:a.toNat=lo (yah (dbl x.toNat) 6))(hb:b.toNat=lo (yah (dbl x.toNat) 11))(hc:c.toNat=lo (yah (dbl x.toNat) 25)):((a^^^b)^^^c).toNat=lo (S1 x.toNat):=by
 unfold S1;rw[ZgP,ZgP,ha,hb,hc,ZfB,ZfB]
theorem ZF1(e f g:UInt32):(g^^^(e&&&(f^^^g))).toNat=ch e.toNat f.toNat g.toNat:=by
 unfold ch;rw[ZgP,ZAW,ZgP]
theorem ZF2(a b c:UInt32):((a&&&b)|||(c&&&(a|||b))).toNat=mj a.toNat b.toNat c.toNat:=by
 unfold mj;rw[ZyD,ZAW,ZAW,ZyD]
theorem ZF3(a b c d:Nat):lo (lo (lo (a+lo b)+c)+lo d)=lo (a+b+c+d):=by
 show(((a+b % 4294967296) % 4294967296+c) % 4294967296+d % 4294967296) % 4294967296=(a+b+c+d) % 4294967296;omega
theorem ZF4(a b c d e:Nat):lo (lo (lo (lo (a+lo b)+c)+d)+e)=lo (yv (yv (yv (yv a b) c) d) e):=by
 show((((a+b % 4294967296) % 4294967296+c) % 4294967296+d) % 4294967296+e) % 4294967296=(a+b+c+d+e) % 4294967296;omega
theorem ZF5(t s m:Nat):lo (lo (lo t+lo s)+m)=lo (yv (yv t s) m):=by
 show((t % 4294967296+s % 4294967296) % 4294967296+m) % 4294967296=(t+s+m) % 4294967296;omega
theorem ZF6(d t:Nat):lo (d+lo t)=lo (yv d t):=by
 show(d+t % 4294967296) % 4294967296=(d+t) % 4294967296;omega
def pw(n:Nat)(l:List Nat):Nat:=l.foldl (λn x=>n*4294967296+x) n
theorem ZvW:∀(l:List Nat)(n:Nat),(∀x,x∈l→x < 4294967296)→pw n l / 2 ^ (32*l.length)=n
 |[],n,_=>by simp[pw]
 |x::r,n,h=>by
  have ih:=ZvW r (n*4294967296+x) (λy hy=>h y (List.mem_cons_of_mem _ hy));have hx:=h x (List.mem_cons_self ..);rw[show pw n (x::r)=pw (n*4294967296+x) r from rfl,yak,show 32*(r.length+1)=32*r.length+32 by omega,Nat.pow_add, ←Nat.div_div_eq_div_mul,ih]
  omega
theorem ZiZ:∀(l:List Nat)(n:Nat),pw n l=n*2 ^ (32*l.length)+pw 0 l
 |[],n=>by simp[pw]
 |x::r,n=>by
  rw[show pw n (x::r)=pw (n*4294967296+x) r from rfl,show pw 0 (x::r)=pw (0*4294967296+x) r from rfl,ZiZ r (n*4294967296+x),ZiZ r (0*4294967296+x),yak,show 32*(r.length+1)=32+32*r.length by omega,Nat.pow_add,Nat.zero_mul,
   yay,yau, ←Nat.mul_assoc,Nat.add_assoc]
theorem ZDq:∀(l:List Nat),(∀x,x∈l→x < 4294967296)→pw 0 l < 2 ^ (32*l.length)
 |[],_=>by simp[pw]
 |x::r,h=>by
  have ih:=ZDq r (λy hy=>h y (List.mem_cons_of_mem _ hy));have hx:=h x (List.mem_cons_self ..);rw[show pw 0 (x::r)=pw (0*4294967296+x) r from rfl,ZiZ,yak,show 32*(r.length+1)=32+32*r.length by omega,Nat.pow_add,Nat.zero_mul,yay]
  have:(x+1)*2 ^ (32*r.length)≤2 ^ 32*2 ^ (32*r.length):=ycb _ (by omega);rw[yau,Nat.one_mul] at this;omega
theorem ZDr{n x s:Nat}{r:List Nat}(h:∀y,y∈r→y < 4294967296)(hs:s=32*r.length):yah (pw n (x::r)) s=n*4294967296+x:=by
 subst hs;rw[show yah (pw n (x::r)) (32*r.length)=pw n (x::r) >>> (32*r.length) from rfl,Nat.shiftRight_eq_div_pow]
 exact ZvW r (n*4294967296+x) h
theorem ZDs{n x s:Nat}{r:List Nat}(hx:x < 4294967296)(h:∀y,y∈r→y < 4294967296)(hs:s=32*r.length):lo (yah (pw n (x::r)) s)=x:=by
 rw[ZDr h hs];show(n*4294967296+x) % 4294967296=x;omega
theorem ZvX(n:Nat)(l r:List Nat):pw n (l++r)=pw (pw n l) r:=List.foldl_append ..
theorem Zxe(n x:Nat)(r:List Nat):pw n (x::r)=pw (n*4294967296+x) r:=rfl
theorem ZcG{v l r:List Nat}{x s:Nat}(e:v=l++x::r)(h:∀y,y∈v→y < 4294967296)(hs:s=32*r.length):lo (yah (pw 0 v) s)=x:=by
 rw[e] at h ⊢;rw[ZvX];exact ZDs (h x (by simp)) (λy hy=>h y (by simp[hy])) hs
def wd(ws:List Nat)(n:Nat):Nat:=if h:n < 16 then lo (ws.getD n 0) else lo (wd ws (n - 16)+s0 (wd ws (n - 15))+wd ws (n - 7)+s1 (wd ws (n - 2)))
termination_by n
decreasing_by all_goals omega
theorem ZFx(ws:List Nat)(n:Nat):wd ws n < 4294967296:=by
 rw[wd];split <;> exact ZDp _
theorem Zxf(ws:List Nat)(n:Nat):wd ws (n+16)=lo (wd ws n+s0 (wd ws (n+1))+wd ws (n+9)+s1 (wd ws (n+14))):=by
 rw[wd,dif_neg (by omega)];simp only[Nat.add_sub_cancel,show n+16 - 15=n+1 by omega,show n+16 - 7=n+9 by omega,show n+16 - 2=n+14 by omega]
def win(ws:List Nat)(i:Nat):List Nat:=[wd ws i,wd ws (i+1),wd ws (i+2),wd ws (i+3),wd ws (i+4),wd ws (i+5),wd ws (i+6),wd ws (i+7),wd ws (i+8),wd ws (i+9),wd ws (i+10),wd ws (i+11),wd ws (i+12),wd ws (i+13),wd ws (i+14),wd ws (i+15)]
theorem ZvY{ws:List Nat}{i:Nat}{l:List Nat}(h:∀x,x∈l→∃j,x=wd ws j):∀x,x∈l→x < 4294967296:=λx hx=>by
 obtain⟨j,rfl⟩:=h x hx;exact ZFx _ _
theorem Zxg(ws:List Nat)(i:Nat):yah (pw 0 (win ws i)) 480=wd ws i:=by
 have h:=ZDr (n:=0) (x:=wd ws i) (s:=480) (r:=(win ws i).tail) (ZvY (ws:=ws) (i:=i) (λx hx=>by
  simp only[win,List.tail_cons,ybd,yci,or_false] at hx;rcases hx with h|h|h|h|h|h|h|h|h|h|h|h|h|h|h <;> exact⟨_,h⟩)) rfl
 rw[Nat.zero_mul,yay] at h;exact h
theorem ZEH(ws:List Nat)(i:Nat):kw (pw 0 (win ws i))=wd ws (i+16):=by
 have key:∀(l r:List Nat)(x s:Nat),win ws i=l++x::r→s=32*r.length→lo (yah (pw 0 (win ws i)) s)=x:=by
  intro l r x s e hs
  have hall:∀y,y∈win ws i→y < 4294967296:=ZvY (i:=i) λx hx=>by
   simp only[win,ybd,yci,or_false] at hx;rcases hx with h|h|h|h|h|h|h|h|h|h|h|h|h|h|h|h <;> exact⟨_,h⟩
  rw[e] at hall ⊢;rw[ZvX];exact ZDs (hall x (by simp)) (λy hy=>hall y (by simp[hy])) hs
 unfold kw;rw[Zxg,key [_] _ (wd ws (i+1)) 448 rfl rfl,key [_,_,_,_,_,_,_,_,_] _ (wd ws (i+9)) 192 rfl rfl,key [_,_,_,_,_,_,_,_,_,_,_,_,_,_] _ (wd ws (i+14)) 32 rfl rfl,Zxf];rfl
theorem ZCQ(a b m:Nat)(h:b < 2 ^ m):Nat.mod (a*2 ^ m+b) (Nat.pow 2 m)=b:=by
 show(a*2 ^ m+b) % 2 ^ m=b;rw[ybs,Nat.mul_add_mod];exact yao h
theorem ZEI(ws:List Nat)(i:Nat):kn (pw 0 (win ws i))=pw 0 (win ws (i+1)):=by
 have e:yv (Nat.mul (pw 0 (win ws i)) 4294967296) (kw (pw 0 (win ws i)))=pw (wd ws i) (win ws (i+1)):=by
  rw[ZEH];show pw 0 (win ws i)*4294967296+wd ws (i+16)=pw (wd ws i) (win ws (i+1));rw[show wd ws i=0*4294967296+wd ws i by omega];rfl
 unfold kn;rw[e,ZiZ];have hl:(win ws (i+1)).length=16:=rfl
 have hlt:=ZDq (win ws (i+1)) (ZvY (i:=i+1) λx hx=>by
  simp only[win,ybd,yci,or_false] at hx;rcases hx with h|h|h|h|h|h|h|h|h|h|h|h|h|h|h|h <;> exact⟨_,h⟩)
 rw[show 512=32*(win ws (i+1)).length by rw[hl]];exact ZCQ _ _ _ hlt
def rnd(v:List Nat)(k w:Nat):List Nat:=match v with
 |[a,b,c,d,e,f,g,h]=>[lo (yv (yv (yv (yv (yv (yv h (S1 e)) (ch e f g)) k) w) (S0 a)) (mj a b c)),a,b,c,lo (yv d (yv (yv (yv (yv h (S1 e)) (ch e f g)) k) w)),e,f,g]
 |_=>[]
def rs(ws v:List Nat):Nat→List Nat
 |0=>v
 |i+1=>rnd (rs ws v i) (ks.getD i 0) (wd ws i)
theorem ZCR{v:List Nat}(h:v.length=8)(k w:Nat):(rnd v k w).length=8:=by
 match v,h with
 |[a,b,c,d,e,f,g,h],_=>rfl
theorem Zr0{ws v:List Nat}(h:v.length=8):∀i,(rs ws v i).length=8
 |0=>h
 |i+1=>ZCR (Zr0 h i) _ _
noncomputable def ZAY(f:Nat→Nat→Nat→Nat→Nat→Nat→Nat→Nat→Nat)(v:List Nat):Nat:=match v with
 |[a,b,c,d,e,f',g,h]=>f a b c d e f' g h
 |_=>0
theorem Zgn{F:Nat→Nat→Nat→Nat→Nat→Nat→Nat→Nat→Nat}{a b c d e f g h:Nat}:ZAY F [a,b,c,d,e,f,g,h]=F a b c d e f g h:=rfl
theorem ZAZ(k:Nat)(l:List Nat)(K:Nat→Nat→Nat→Nat→Nat→Nat→Nat→Nat→Nat):kgo (k::l) K=kst k (kgo l K):=rfl
theorem Zt4(a b c d e f g h k w:Nat):rnd [a,b,c,d,e,f,g,h] k w=[lo (yv (yv (yv (yv (yv (yv h (S1 e)) (ch e f g)) k) w) (S0 a)) (mj a b c)),a,b,c,lo (yv d (yv (yv (yv (yv h (S1 e)) (ch e f g)) k) w)),e,f,g]:=rfl
theorem ZEJ(k:Nat)(ih:Nat→Nat→Nat→Nat→Nat→Nat→Nat→Nat→Nat→Nat)(W a b c d e f g h:Nat):kst k ih W a b c d e f g h=
 ih (kn W) (lo (yv (yv (yv (yv (yv (yv h (S1 e)) (ch e f g)) k) (yah W 480)) (S0 a)) (mj a b c))) a b c (lo (yv d (yv (yv (yv (yv h (S1 e)) (ch e f g)) k) (yah W 480)))) e f g:=by
 unfold kst;rw[YI,YI,YI,YI]
theorem ZA0{ws v:List Nat}{K:Nat→Nat→Nat→Nat→Nat→Nat→Nat→Nat→Nat}{k w:Nat}{l:List Nat}(hv:v.length=8){W:Nat}(hW:yah W 480=w):ZAY (kgo (k::l) K W) v=ZAY (kgo l K (kn W)) (rnd v k w):=by
 match v,hv with
 |[a,b,c,d,e,f,g,h],_=>
  rw[ZAZ,Zgn,ZEJ,hW,Zt4,Zgn]
theorem Zxh{ws v:List Nat}{K:Nat→Nat→Nat→Nat→Nat→Nat→Nat→Nat→Nat}(hv:v.length=8):∀(m i:Nat),i+m=64→ZAY (kgo (ks.drop i) K (pw 0 (win ws i))) (rs ws v i)=ZAY K (rs ws v 64)
 |0,i,h=>by
  have e:i=64:=by omega
  subst e;rw[show ks.drop 64=[] from rfl]
  generalize pw 0 (win ws 64)=W
  rfl
 |m+1,i,h=>by
  have hi:i < ks.length:=by show i < 64;omega
  rw[List.drop_eq_getElem_cons hi,ZA0 (ws:=ws) (Zr0 hv i) (Zxg ws i),ZEI];have:=Zxh (ws:=ws) (K:=K) hv m (i+1) (by omega);rw[show rs ws v (i+1)=rnd (rs ws v i) (ks.getD i 0) (wd ws i) from rfl,show ks.getD i 0=ks[i] by rw[ycw,List.getElem?_eq_getElem hi];rfl] at this
  exact this
def Zi0(v ws:List Nat):List Nat:=List.zipWith (λx y=>lo (x+y)) (rs ws v 64) v
theorem ZfC{v ws:List Nat}(h:v.length=8):(Zi0 v ws).length=8:=by
 rw[Zi0,List.length_zipWith,Zr0 h,h];rfl
theorem Zxi{v ws:List Nat}:∀x,x∈Zi0 v ws→x < 4294967296:=by
 intro x hx;unfold Zi0 at hx;rw[List.mem_iff_getElem] at hx;obtain⟨i,hi,rfl⟩:=hx;rw[List.getElem_zipWith];exact ZDp _
theorem ZCS{v ws:List Nat}(hv:v.length=8)(hlt:∀x,x∈v→x < 4294967296)(hw:ws.length=16)(hwl:∀x,x∈ws→x < 4294967296):ZCP (pw 0 v) (pw 0 ws)=pw 0 (Zi0 v ws):=by
 have e0:ws=win ws 0:=by
  match ws,hw with
  |[a0,a1,a2,a3,a4,a5,a6,a7,a8,a9,a10,a11,a12,a13,a14,a15],_=>
   simp only[ybd,yci,or_false,forall_eq_or_imp,forall_eq] at hwl;obtain⟨h0,h1,h2,h3,h4,h5,h6,h7,h8,h9,h10,h11,h12,h13,h14,h15⟩:=hwl;have hs:∀n,n < 16→wd [a0,a1,a2,a3,a4,a5,a6,a7,a8,a9,a10,a11,a12,a13,a14,a15] n=lo ([a0,a1,a2,a3,a4,a5,a6,a7,a8,a9,a10,a11,a12,a13,a14,a15].getD n 0):=λn hn=>by rw[wd,dif_pos hn]
   unfold win;rw[hs 0 (by omega),hs (0+1) (by omega),hs (0+2) (by omega),hs (0+3) (by omega),hs (0+4) (by omega),hs (0+5) (by omega),hs (0+6) (by omega),hs (0+7) (by omega),hs (0+8) (by omega),hs (0+9) (by omega),hs (0+10) (by omega),hs (0+11) (by omega),hs (0+12) (by omega),hs (0+13) (by omega),hs (0+14) (by omega),hs (0+15) (by omega)];show _=[lo a0,lo a1,lo a2,lo a3,lo a4,lo a5,lo a6,lo a7,lo a8,lo a9,lo a10,lo a11,lo a12,lo a13,lo a14,lo a15];rw[Qa h0,Qa h1,Qa h2,Qa h3,Qa h4,Qa h5,Qa h6,Qa h7,Qa h8,Qa h9,Qa h10,Qa h11,Qa h12,Qa h13,Qa h14,Qa h15]
 match v,hv with
 |[a,b,c,d,e,f,g,h],hv=>
  have ea:w32 (pw 0 [a,b,c,d,e,f,g,h]) 224=a:=ZcG (l:=[]) (r:=[b,c,d,e,f,g,h]) rfl hlt rfl;have eb:w32 (pw 0 [a,b,c,d,e,f,g,h]) 192=b:=ZcG (l:=[a]) (r:=[c,d,e,f,g,h]) rfl hlt rfl;have ec:w32 (pw 0 [a,b,c,d,e,f,g,h]) 160=c:=ZcG (l:=[a,b]) (r:=[d,e,f,g,h]) rfl hlt rfl;have ed:w32 (pw 0 [a,b,c,d,e,f,g,h]) 128=d:=ZcG (l:=[a,b,c]) (r:=[e,f,g,h]) rfl hlt rfl;have ee:w32 (pw 0 [a,b,c,d,e,f,g,h]) 96=e:=ZcG (l:=[a,b,c,d]) (r:=[f,g,h]) rfl hlt rfl;have ef:w32 (pw 0 [a,b,c,d,e,f,g,h]) 64=f:=ZcG (l:=[a,b,c,d,e]) (r:=[g,h]) rfl hlt rfl;have eg:w32 (pw 0 [a,b,c,d,e,f,g,h]) 32=g:=ZcG (l:=[a,b,c,d,e,f]) (r:=[h]) rfl hlt rfl;have eh:w32 (pw 0 [a,b,c,d,e,f,g,h]) 0=h:=ZcG (l:=[a,b,c,d,e,f,g]) (r:=[]) rfl hlt rfl;unfold ZCP;rw[ea,eb,ec,ed,ee,ef,eg,eh,YI,YI,YI,YI,YI,YI,YI,YI];have hr:=Zxh (ws:=ws) (v:=[a,b,c,d,e,f,g,h]) (K:=λa' b' c' d' e' f' g' h'=>cat (cat (cat (cat (cat (cat (cat (cat 0 (yv a' a)) (yv b' b)) (yv c' c)) (yv d' d)) (yv e' e)) (yv f' f)) (yv g' g)) (yv h' h)) rfl 64 0 rfl;rw[←e0,show ks.drop 0=ks from rfl,show rs ws [a,b,c,d,e,f,g,h] 0=[a,b,c,d,e,f,g,h] from rfl,Zgn] at hr
  rw[hr];unfold Zi0;generalize rs ws [a,b,c,d,e,f,g,h] 64=q,Zr0 (ws:=ws) hv 64=hq
  match q,hq with
  |[a',b',c',d',e',f',g',h'],_=>
   rw[Zgn];simp only[List.zipWith_cons_cons,List.zipWith_nil_right,Zxe,cat];rfl
theorem Zl3(x:Nat)(l:List Nat)(n:Nat):pk (x::l) n=pk l (n*256+x):=by
 show W3 (yv (Nat.mul n 256) x) (pk l)=_;rw[YI];rfl
def YF:List Nat→List Nat
 |a::b::c::d::r=>(((a*256+b)*256+c)*256+d)::YF r
 |_=>[]
theorem Zt5:∀(m:Nat)(l:List Nat)(n:Nat),l.length=4*m→pk l n=pw n (YF l)
 |0,[],n,_=>rfl
 |0,_::_,_,h=>by simp at h
 |m+1,[],_,h=>by simp at h
 |m+1,[_],_,h=>by simp at h;omega
 |m+1,[_,_],_,h=>by simp at h;omega
 |m+1,[_,_,_],_,h=>by simp at h;omega
 |m+1,a::b::c::d::r,n,h=>by
  rw[Zl3,Zl3,Zl3,Zl3,YF];rw[Zt5 m r _ (by simp at h;omega),Zxe];have e:(((n*256+a)*256+b)*256+c)*256+d=n*4294967296+(((a*256+b)*256+c)*256+d):=by omega
  rw[e]
theorem ZkY:∀(m:Nat)(l:List Nat),l.length=4*m→(YF l).length=m
 |0,[],_=>rfl
 |0,_::_,h=>by simp at h
 |m+1,[],h=>by simp at h
 |m+1,[_],h=>by simp at h;omega
 |m+1,[_,_],h=>by simp at h;omega
 |m+1,[_,_,_],h=>by simp at h;omega
 |m+1,a::b::c::d::r,h=>by
  rw[YF,yak,ZkY m r (by simp at h;omega)]
theorem ZnO:∀(m:Nat)(l:List Nat),l.length=4*m→(∀x,x∈l→x < 256)→∀x,x∈YF l→x < 4294967296
 |0,[],_,_,x,hx=>by simp[YF] at hx
 |0,_::_,h,_,_,_=>by simp at h
 |m+1,[],h,_,_,_=>by simp at h
 |m+1,[_],h,_,_,_=>by simp at h;omega
 |m+1,[_,_],h,_,_,_=>by simp at h;omega
 |m+1,[_,_,_],h,_,_,_=>by simp at h;omega
 |m+1,a::b::c::d::r,h,hl,x,hx=>by
  rw[YF] at hx;have h1:=hl a (by simp);have h2:=hl b (by simp);have h3:=hl c (by simp);have h4:=hl d (by simp);rcases ybd.1 hx with rfl|hx
  ·omega
  ·exact ZnO m r (by simp at h;omega) (λy hy=>hl y (by simp[hy])) x hx
theorem ZkZ:∀(i:Nat)(l:List Nat)(a b c d:Nat),l[4*i]? =some a→l[4*i+1]? =some b→l[4*i+2]? =some c→l[4*i+3]? =some d→(YF l)[i]? =some (((a*256+b)*256+c)*256+d)
 |0,[],_,_,_,_,h,_,_,_=>by simp at h
 |0,[_],_,_,_,_,_,h,_,_=>by simp at h
 |0,[_,_],_,_,_,_,_,_,h,_=>by simp at h
 |0,[_,_,_],_,_,_,_,_,_,_,h=>by simp at h
 |0,a::b::c::d::r,_,_,_,_,h1,h2,h3,h4=>by
  simp at h1 h2 h3 h4;subst h1 h2 h3 h4
  rfl
 |i+1,[],_,_,_,_,h,_,_,_=>by simp at h
 |i+1,[_],_,_,_,_,h,_,_,_=>by simp[show 4*(i+1)=4*i+3+1 by omega] at h
 |i+1,[_,_],_,_,_,_,h,_,_,_=>by simp[show 4*(i+1)=4*i+2+1+1 by omega] at h
 |i+1,[_,_,_],_,_,_,_,h,_,_,_=>by simp[show 4*(i+1)=4*i+1+1+1+1 by omega] at h
 |i+1,a::b::c::d::r,_,_,_,_,h1,h2,h3,h4=>by
  rw[YF,yaw]
  exact ZkZ i r _ _ _ _ (by simpa[show 4*(i+1)=4*i+1+1+1+1 by omega] using h1) (by simpa[show 4*(i+1)+1=4*i+1+1+1+1+1 by omega] using h2)
   (by simpa[show 4*(i+1)+2=4*i+2+1+1+1+1 by omega] using h3) (by simpa[show 4*(i+1)+3=4*i+3+1+1+1+1 by omega] using h4)
def ZdB:Nat→List Nat→List Nat→List Nat
 |0,_,v=>v
 |n+1,l,v=>ZdB n (l.drop 64) (Zi0 v (YF (l.take 64)))
theorem Zxj:∀(n:Nat)(l v:List Nat),l.length=64*n→(∀x,x∈l→x < 256)→v.length=8→(∀x,x∈v→x < 4294967296)→ZEF n l (pw 0 v)=pw 0 (ZdB n l v)
 |0,l,v,_,_,_,_=>rfl
 |n+1,l,v,h1,h2,h3,h4=>by
  show W3 (ZCP (pw 0 v) (pk (l.take 64) 0)) (ZEF n (l.drop 64))=_;have hl:(l.take 64).length=4*16:=by rw[yaf];omega
  rw[YI,Zt5 16 _ 0 hl,ZCS h3 h4 (ZkY 16 _ hl) (ZnO 16 _ hl λx hx=>h2 x (List.mem_of_mem_take hx))];exact Zxj n (l.drop 64) _ (by rw[ybr];omega) (λx hx=>h2 x (List.mem_of_mem_drop hx)) (ZfC h3) Zxi
theorem Zt6:∀(n:Nat)(l v:List Nat),v.length=8→(ZdB n l v).length=8
 |0,_,_,h=>h
 |n+1,l,v,h=>Zt6 n _ _ (ZfC h)
theorem Zxk:∀(n:Nat)(l v:List Nat),(∀x,x∈v→x < 4294967296)→∀x,x∈ZdB n l v→x < 4294967296
 |0,_,_,h=>h
 |n+1,l,v,h=>Zxk n _ _ Zxi
theorem ZnP:∀(n m:Nat)(l r v:List Nat),l.length=64*n→ZdB (n+m) (l++r) v=ZdB m r (ZdB n l v)
 |0,m,l,r,v,h=>by
  have:l=[]:=List.length_eq_zero_iff.1 (by omega);subst this;rw[yay]
  rfl
 |n+1,m,l,r,v,h=>by
  rw[show n+1+m=(n+m)+1 by omega,ZdB,List.drop_append_of_le_length (by omega),List.take_append_of_le_length (by omega),ZnP n m _ r _ (by rw[ybr];omega)];rfl
theorem Zj9:∀(c:Nat)(l v:List Nat),ZdB (c+1) l v=Zi0 (ZdB c l v) (YF ((l.drop (64*c)).take 64))
 |0,l,v=>by rw[Nat.mul_zero,List.drop_zero];rfl
 |c+1,l,v=>by
  rw[show ZdB (c+1+1) l v=ZdB (c+1) (l.drop 64) (Zi0 v (YF (l.take 64))) from rfl,Zj9 c,List.drop_drop,show 64+64*c=64*(c+1) by omega]
  rfl
theorem ZA1(ws:List Nat){n x:Nat}(hn:n < 16)(h:ws[n]? =some x)(hx:x < 4294967296):wd ws n=x:=by
 rw[wd,dif_pos hn,ycw,h];exact Qa hx
def ZA2(v:List Nat)(k:Nat):UInt8:=ybc (v.getD (k / 4) 0 / 2 ^ (24 - 8*(k % 4)))
theorem ZCT{v:List Nat}(hv:v.length=8)(hlt:∀x,x∈v→x < 4294967296):YE (pw 0 v) ZvV=(List.range 32).map (ZA2 v):=by
 have hgo:∀(H:Nat)(l:List Nat),YE H l=l.map λs=>ybc (H / 2 ^ s % 256):=by
  intro H l
  induction l with
  |nil=>rfl
  |cons s r ih=>
   show W3 (Nat.mod (yah H s) 256) (λx=>ybc x::YE H r)=_;rw[YI,ih,yac,show yah H s=H >>> s from rfl,Nat.shiftRight_eq_div_pow]
   rfl
 have hb:∀(l r:List Nat)(x j s:Nat),v=l++x::r→j≤24→s=32*r.length+j→ybc (pw 0 v / 2 ^ s % 256)=ybc (x / 2 ^ j):=by
  intro l r x j s e hj hs;have hall:=hlt;rw[e] at hall
  have h1:pw 0 v / 2 ^ (32*r.length)=pw 0 l*4294967296+x:=by
   rw[e,ZvX];exact ZvW r _ (λy hy=>hall y (by simp[hy]))
  rw[hs,Nat.pow_add, ←Nat.div_div_eq_div_mul,h1]
  have h2:pw 0 l*4294967296+x=2 ^ j*(pw 0 l*2 ^ (24 - j)*256)+x:=by
   rw[show(4294967296:Nat)=2 ^ j*2 ^ (24 - j)*256 by rw[←Nat.pow_add,show j+(24 - j)=24 by omega]];congr 1;ac_rfl
  rw[h2,Nat.mul_add_div (Nat.two_pow_pos j),ybs (pw 0 l*2 ^ (24 - j)) 256,Nat.mul_add_mod];exact UInt8.toNat_inj.1 (by simp)
 match v,hv with
 |[a,b,c,d,e,f,g,h],_=>
  rw[hgo];simp only[ZvV,yac,List.map_nil]
  rw[hb [] [b,c,d,e,f,g,h] a 24 248 rfl (by omega) rfl,hb [] [b,c,d,e,f,g,h] a 16 240 rfl (by omega) rfl,hb [] [b,c,d,e,f,g,h] a 8 232 rfl (by omega) rfl,hb [] [b,c,d,e,f,g,h] a 0 224 rfl (by omega) rfl,
   hb [a] [c,d,e,f,g,h] b 24 216 rfl (by omega) rfl,hb [a] [c,d,e,f,g,h] b 16 208 rfl (by omega) rfl,hb [a] [c,d,e,f,g,h] b 8 200 rfl (by omega) rfl,hb [a] [c,d,e,f,g,h] b 0 192 rfl (by omega) rfl,
   hb [a,b] [d,e,f,g,h] c 24 184 rfl (by omega) rfl,hb [a,b] [d,e,f,g,h] c 16 176 rfl (by omega) rfl,hb [a,b] [d,e,f,g,h] c 8 168 rfl (by omega) rfl,hb [a,b] [d,e,f,g,h] c 0 160 rfl (by omega) rfl,
   hb [a,b,c] [e,f,g,h] d 24 152 rfl (by omega) rfl,hb [a,b,c] [e,f,g,h] d 16 144 rfl (by omega) rfl,hb [a,b,c] [e,f,g,h] d 8 136 rfl (by omega) rfl,hb [a,b,c] [e,f,g,h] d 0 128 rfl (by omega) rfl,
   hb [a,b,c,d] [f,g,h] e 24 120 rfl (by omega) rfl,hb [a,b,c,d] [f,g,h] e 16 112 rfl (by omega) rfl,hb [a,b,c,d] [f,g,h] e 8 104 rfl (by omega) rfl,hb [a,b,c,d] [f,g,h] e 0 96 rfl (by omega) rfl,
   hb [a,b,c,d,e] [g,h] f 24 88 rfl (by omega) rfl,hb [a,b,c,d,e] [g,h] f 16 80 rfl (by omega) rfl,hb [a,b,c,d,e] [g,h] f 8 72 rfl (by omega) rfl,hb [a,b,c,d,e] [g,h] f 0 64 rfl (by omega) rfl,
   hb [a,b,c,d,e,f] [h] g 24 56 rfl (by omega) rfl,hb [a,b,c,d,e,f] [h] g 16 48 rfl (by omega) rfl,hb [a,b,c,d,e,f] [h] g 8 40 rfl (by omega) rfl,hb [a,b,c,d,e,f] [h] g 0 32 rfl (by omega) rfl,
   hb [a,b,c,d,e,f,g] [] h 24 24 rfl (by omega) rfl,hb [a,b,c,d,e,f,g] [] h 16 16 rfl (by omega) rfl,hb [a,b,c,d,e,f,g] [] h 8 8 rfl (by omega) rfl,hb [a,b,c,d,e,f,g] [] h 0 0 rfl (by omega) rfl]
  rfl
def Zef(l:List UInt8):List Nat:=l.map ybi++(128::(yab (zs l.length) 0++be8 (8*l.length)))
def Zeg:List Nat:=[1779033703,3144134277,1013904242,2773480762,1359893119,2600822924,528734635,1541459225]
theorem ZvZ(l:List UInt8):(Zef l).length=64*((l.length+72) / 64):=by
 unfold Zef;simp only[yp,yx,yak,ycq,be8,List.length_nil,zs];omega
theorem ZyE(l:List UInt8):∀x,x∈Zef l→x < 256:=by
 intro x hx;unfold Zef at hx;simp only[List.mem_append,List.mem_map,ybd,List.mem_replicate,be8,yci,or_false] at hx;rcases hx with⟨y,_,rfl⟩|rfl|⟨_,rfl⟩|h
 ·exact y.toNat_lt
 ·omega
 ·omega
 ·rcases h with h|h|h|h|h|h|h|h <;> rw[h] <;> exact ybp _ (by omega)
theorem ZA3(l:List UInt8):sha l=(List.range 32).map (ZA2 (ZdB ((l.length+72) / 64) (Zef l) Zeg)):=by
 unfold sha
 rw[YI,YI,show H0=pw 0 Zeg from rfl,show l.map ybi++(128::(yab (zs l.length) 0++be8 (8*l.length)))=Zef l from rfl,
  show Nat.div (yv l.length 72) 64=(l.length+72) / 64 from rfl]
 have hf:∀x,x∈Zeg→x < 4294967296:=by decide
 rw[Zxj _ _ _ (ZvZ l) (ZyE l) rfl hf];exact ZCT (Zt6 _ _ _ rfl) (Zxk _ _ _ hf)
theorem ZFT(l:List UInt8):(sha l).length=32:=by rw[ZA3];simp
end Go.Sha
end
section
set_option maxRecDepth 4000
namespace Go.Proofs.Ytkapgdbeeblihaa
open Go Go.Ev Go.Sha
theorem Zc6(x:UInt32)(n k:Nat)(h:n+k=32)(hn:0 < n){z:Int}(hz:((w64 z)&&&31).toNat=k):∃o,ZB fuel x z=some o∧o.toNat=lo (yah (dbl x.toNat) n):=by
 refine⟨_,rfl, ?_⟩;have e1:((((w64 z)&&&31).toNat:Int)).toNat=k:=by rw[hz];rfl
 have e2:(32 - ((w64 z)&&&31)).toNat=n:=by
  have h1:((w64 z)&&&31)=yae k:=yca.1 (by rw[hz,ybe];omega);rw[h1,UInt64.toNat_sub,ybe];show(2 ^ 64 - k % 2 ^ 64+32) % 2 ^ 64=n;omega
 rw[e1,show((((32 - ((w64 z)&&&31)).toNat:Nat):Int)).toNat=n by rw[e2];rfl,Nat.min_eq_left (by omega),Nat.min_eq_left (by omega)];exact ZFw x h hn
theorem ZEK{l:List UInt8}{a b c d:UInt8}(ha:l[0]? =some a)(hb:l[1]? =some b)(hc:l[2]? =some c)(hd:l[3]? =some d):∃o,Za2 fuel l=some o∧o.toNat=((a.toNat*256+b.toNat)*256+c.toNat)*256+d.toNat:=by
 unfold Za2;rw[Zd8 (i:=0) (by omega) ha,Zd8 (i:=1) (by omega) hb,Zd8 (i:=2) (by omega) hc,Zd8 (i:=3) (by omega) hd];refine⟨_,rfl, ?_⟩;have h1:=a.toNat_lt;have h2:=b.toNat_lt;have h3:=c.toNat_lt;have h4:=d.toNat_lt
 have hs:∀(x:UInt8)(n:Nat),n≤24→(Zff (UInt32.ofNat x.toNat) n).toNat=x.toNat*2 ^ n:=by
  intro x n hn;have hx:=x.toNat_lt;unfold Zff;rw[yct,yct,yao (a:=x.toNat) (by omega)];refine yao ?_
  calc x.toNat*2 ^ n < 2 ^ 8*2 ^ n:=Nat.mul_lt_mul_of_pos_right hx (Nat.two_pow_pos n)
   _=2 ^ (8+n):=(Nat.pow_add ..).symm
   _≤2 ^ 32:=Nat.pow_le_pow_right (by omega) (by omega)
 rw[ZyD,ZyD,ZyD,hs _ _ (by omega),hs _ _ (by omega),hs _ _ (by omega),yct,yao (a:=d.toNat) (by omega)]
 have k1:Nat.lor (a.toNat*2 ^ 24) (b.toNat*2 ^ 16)=2 ^ 16*(a.toNat*256+b.toNat):=by
  rw[ybs a.toNat,show Nat.lor (2 ^ 24*a.toNat) (b.toNat*2 ^ 16)=2 ^ 24*a.toNat|||b.toNat*2 ^ 16 from rfl, ←Nat.two_pow_add_eq_or_of_lt (by omega)]
  omega
 have k2:Nat.lor (2 ^ 16*(a.toNat*256+b.toNat)) (c.toNat*2 ^ 8)=2 ^ 8*((a.toNat*256+b.toNat)*256+c.toNat):=by
  rw[show Nat.lor (2 ^ 16*(a.toNat*256+b.toNat)) (c.toNat*2 ^ 8)=2 ^ 16*(a.toNat*256+b.toNat)|||c.toNat*2 ^ 8 from rfl, ←Nat.two_pow_add_eq_or_of_lt (by omega)]
  omega
 rw[k1,k2,show Nat.lor (2 ^ 8*((a.toNat*256+b.toNat)*256+c.toNat)) d.toNat=2 ^ 8*((a.toNat*256+b.toNat)*256+c.toNat)|||d.toNat from rfl, ←Nat.two_pow_add_eq_or_of_lt (by omega)]
 omega
theorem ZA4{l:List UInt8}(h:l.length=64):∃o,VW fuel l=some o∧o.length=64∧∀(i:Nat)x,i < 64→o[i]? =some x→x.toNat=wd (YF (l.map ybi)) i:=by
 unfold VW;generalize hz:([0,0,0,0,0,0,0,0,0,0,0,0,0,0,0,0,0,0,0,0,0,0,0,0,0,0,0,0,0,0,0,0,0,0,0,0,0,0,0,0,0,0,0,0,0,0,0,0,0,0,0,0,0,0,0,0,0,0,0,0,0,0,0,0]:List UInt32)=z;have hzl:z.length=64:=by rw[←hz];rfl
 refine Exists.elim (Xi (step:=Wm fuel) (λs=>s.1=l∧0≤s.2.1∧s.2.1≤64∧s.2.2.length=64∧∀(j:Nat)x,(j:Int) < s.2.1→s.2.2[j]? =some x→x.toNat=wd (YF (l.map ybi)) j) (λs=>(64 - s.2.1).toNat)
  (λo=>o.length=64∧∀(j:Nat)x,j < 64→o[j]? =some x→x.toNat=wd (YF (l.map ybi)) j) ?_ (l,(0:Int),z) ⟨rfl,Int.le_refl _,by dsimp only;omega,hzl,λj x hj=>by dsimp only at hj;omega⟩ (by dsimp only;omega)) ?_
 rotate_left
 ·rintro o ⟨h1,h2⟩;exact⟨o,by rw[h1];rfl,h2⟩
 ·rintro⟨b,i,w⟩ ⟨hb,h0,h64,hw,hv⟩;dsimp only at hb h0 h64 hw hv;subst hb;unfold Wm;dsimp only
  have hset:∀(y:UInt32),y.toNat=wd (YF (b.map ybi)) i.toNat→i < 64→∀(j:Nat)x,(j:Int) < i+1→(w.set i.toNat y)[j]? =some x→x.toNat=wd (YF (b.map ybi)) j:=by
   intro y hy hi j x hj hx;by_cases hji:j=i.toNat
   ·subst hji;rw[ycl (by omega)] at hx;cases hx;exact hy
   ·rw[List.getElem?_set_ne (Ne.symm hji)] at hx;exact hv j x (by omega) hx
  by_cases hi:i < 64
  ·left;rw[if_pos (decide_eq_true hi)];obtain⟨e,he⟩:=VP (l:=w) (i:=i.toNat) (by omega);by_cases h16:i < 16
   ·rw[if_pos (decide_eq_true h16),ZR (z:=4*i) (by omega) (by omega),if_pos (by simp only[ZaW,yh,decide_eq_true_eq];omega)];have g:∀k:Nat,k < 4→∃x,b[4*i.toNat+k]? =some x:=λk hk=>VP (by omega);obtain⟨x0,g0⟩:=g 0 (by omega);obtain⟨x1,g1⟩:=g 1 (by omega);obtain⟨x2,g2⟩:=g 2 (by omega);obtain⟨x3,g3⟩:=g 3 (by omega);have e4:(4*i).toNat=4*i.toNat:=by omega
    obtain⟨o,ho,hoe⟩:=ZEK (l:=b.drop (4*i).toNat) (by rw[List.getElem?_drop,e4];exact g0) (by rw[List.getElem?_drop,e4];exact g1) (by rw[List.getElem?_drop,e4];exact g2) (by rw[List.getElem?_drop,e4];exact g3);rw[ho,yb,if_pos (Wg h0 (by omega)),he,yb,ZR (z:=i+1) (by omega) (by omega)];refine⟨_,rfl,⟨rfl,by dsimp only;omega,by dsimp only;omega,by dsimp only;rw[yba];exact hw,hset o ?_ hi⟩,by dsimp only;omega⟩;have mg:∀(k:Nat)(x:UInt8),b[k]? =some x→(b.map ybi)[k]? =some x.toNat:=λk x hx=>by rw[yan,hx];rfl
    have hwg:=ZkZ i.toNat (b.map ybi) _ _ _ _ (mg _ _ g0) (mg _ _ g1) (mg _ _ g2) (mg _ _ g3);rw[hoe];have b0:=x0.toNat_lt;have b1:=x1.toNat_lt;have b2:=x2.toNat_lt;have b3:=x3.toNat_lt;exact(ZA1 _ (by omega) hwg (by omega)).symm
   ·rw[if_neg (by simpa using h16)];rw[ZR (z:=i - 15) (by omega) (by omega),ZR (z:=i - 2) (by omega) (by omega),ZR (z:=i - 16) (by omega) (by omega),ZR (z:=i - 7) (by omega) (by omega),ZR (z:=i+1) (by omega) (by omega)];obtain⟨e1,he1⟩:=VP (l:=w) (i:=(i - 15).toNat) (by omega);obtain⟨e2,he2⟩:=VP (l:=w) (i:=(i - 2).toNat) (by omega);obtain⟨e3,he3⟩:=VP (l:=w) (i:=(i - 16).toNat) (by omega);obtain⟨e4,he4⟩:=VP (l:=w) (i:=(i - 7).toNat) (by omega);have v1:=hv _ _ (by omega) he1;have v2:=hv _ _ (by omega) he2;have v3:=hv _ _ (by omega) he3;have v4:=hv _ _ (by omega) he4;rw[if_pos (Wg (by omega) (by omega)),he1,yb,if_pos (Wg (by omega) (by omega)),he2,yb];obtain⟨o1,ho1,p1⟩:=Zc6 e1 7 25 rfl (by omega) (z:= -7) rfl;obtain⟨o2,ho2,p2⟩:=Zc6 e1 18 14 rfl (by omega) (z:= -18) rfl;obtain⟨o3,ho3,p3⟩:=Zc6 e2 17 15 rfl (by omega) (z:= -17) rfl;obtain⟨o4,ho4,p4⟩:=Zc6 e2 19 13 rfl (by omega) (z:= -19) rfl;rw[ho1,yb,ho2,yb,ho3,yb,ho4,yb];rw[if_pos (Wg (by omega) (by omega)),he3,yb,if_pos (Wg (by omega) (by omega)),he4,yb]
    try dsimp only
    rw[if_pos (Wg h0 (by omega)),he,yb];refine⟨_,rfl,⟨rfl,by dsimp only;omega,by dsimp only;omega,by dsimp only;rw[yba];exact hw,hset _ ?_ hi⟩,by dsimp only;omega⟩;have hn:=Zxf (YF (b.map ybi)) (i - 16).toNat
    rw[show(i - 16).toNat+16=i.toNat by omega,show(i - 16).toNat+1=(i - 15).toNat by omega,show(i - 16).toNat+9=(i - 7).toNat by omega,show(i - 16).toNat+14=(i - 2).toNat by omega, ←v1, ←v2, ←v3, ←v4] at hn;rw[hn];rw[ZfA,ZfA,ZfA,ZFX e1 p1 p2,ZFY e2 p3 p4];exact ZF3 ..
  ·right;rw[if_neg (by simpa using hi)];exact⟨_,rfl,hw,λj x hj hx=>hv j x (by omega) hx⟩
theorem ZA5{st:List UInt32}{l:List UInt8}(hs:st.length=8)(h:l.length=64):∃o,X0 fuel st l=some o∧o.map ybm=Zi0 (st.map ybm) (YF (l.map ybi)):=by
 unfold X0;obtain⟨w,hw,hwl,hwv⟩:=ZA4 h;obtain⟨k,hk,hkv⟩:∃k,Zfx fuel=some k∧k.map ybm=ks:=⟨_,rfl,rfl⟩;have hkl:k.length=64:=by rw[←yx (f:=ybm),hkv];rfl
 generalize hws:YF (l.map ybi)=ws at hwv;rw[hw,yb,hk,yb]
 refine Exists.elim (Xi (step:=XS fuel) (λs=>0≤s.1∧s.1≤64∧s.2.1=st∧s.2.2.2.1=w∧s.2.2.2.2.1=k∧s.2.2.2.2.2.length=8∧s.2.2.2.2.2.map ybm=rs ws (st.map ybm) s.1.toNat) (λs=>(64 - s.1).toNat)
  (λo=>o.1=st∧o.2.2.2.2.length=8∧o.2.2.2.2.map ybm=rs ws (st.map ybm) 64) ?_ ((0:Int),st,([0,0,0,0,0,0,0,0]:List UInt32),w,k,st) ⟨Int.le_refl _,by dsimp only;omega,rfl,rfl,rfl,hs,rfl⟩ (by dsimp only;omega)) ?_
 rotate_left
 ·rintro o ⟨h1,p0,p1,p2⟩;rw[h1,yb];have hml:(Zi0 (st.map ybm) ws).length=8:=ZfC (by rw[yx];exact hs)
  refine Exists.elim (Xi (step:=XT fuel) (λs=>0≤s.1∧s.1≤8∧s.2.1=st∧s.2.2.2.2.2.length=8∧(∀(j:Nat)x,s.2.2.2.2.2[j]? =some x→if(j:Int) < s.1 then(Zi0 (st.map ybm) ws)[j]? =some x.toNat else(rs ws (st.map ybm) 64)[j]? =some x.toNat)) (λs=>(8 - s.1).toNat)
   (λo=>o.2.2.2.2.map ybm=Zi0 (st.map ybm) ws) ?_ ((0:Int),o.1,o.2.1,o.2.2.1,o.2.2.2.1,o.2.2.2.2) ⟨Int.le_refl _,by dsimp only;omega,p0,p1,λj x hx=>by
     dsimp only at hx ⊢;rw[if_neg (by omega), ←p2,yan,hx];rfl⟩ (by dsimp only;omega)) ?_
  rotate_left
  ·rintro q ⟨h2,q2⟩;rw[h2,yb];exact⟨_,rfl,q2⟩
  ·rintro⟨i,a,b,c,d,e⟩ ⟨h0,h8,ha,he,hv⟩;dsimp only at h0 h8 ha he hv;subst ha;unfold XT;dsimp only;by_cases hi:i < 8
   ·left;obtain⟨e1,he1⟩:=VP (l:=e) (i:=i.toNat) (by omega);obtain⟨e2,he2⟩:=VP (l:=a) (i:=i.toNat) (by omega);simp only[decide_eq_true hi,if_true,Wg h0 (show i < ((8:Nat):Int) by omega),he1,he2,yb];rw[ZR (z:=i+1) (by omega) (by omega)];refine⟨_,rfl,⟨by dsimp only;omega,by dsimp only;omega,rfl,by dsimp only;rw[yba];exact he, ?_⟩,by dsimp only;omega⟩;intro j x hx;dsimp only at hx ⊢;by_cases hji:j=i.toNat
    ·subst hji;rw[ycl (by omega)] at hx;cases hx;rw[if_pos (by omega),ZfA];have k1:=hv _ _ he1;rw[if_neg (by omega)] at k1;unfold Zi0;rw[List.getElem?_zipWith,k1,yan,he2];rfl
    ·rw[List.getElem?_set_ne (Ne.symm hji)] at hx;have k1:=hv j x hx;by_cases hj:(j:Int) < i
     ·rw[if_pos hj] at k1;rw[if_pos (by omega)];exact k1
     ·rw[if_neg hj] at k1;rw[if_neg (by omega)];exact k1
   ·right;rw[if_neg (by simpa using hi)];refine⟨_,rfl, ?_⟩;dsimp only;apply List.ext_getElem?;intro j;rw[yan];by_cases hj:j < 8
    ·obtain⟨x,hx⟩:=VP (l:=e) (i:=j) (by omega);have:=hv j x hx;rw[if_pos (by omega)] at this;rw[hx,this];rfl
    ·rw[yap (by omega),yap (by omega)];rfl
 ·rintro⟨i,a,b,c,d,e⟩ ⟨h0,h64,ha,hc,hd,he,hv⟩;dsimp only at h0 h64 ha hc hd he hv;subst ha hc hd;unfold XS;dsimp only;by_cases hi:i < 64
  ·left
   match e,he,hv with
   |[x0,x1,x2,x3,x4,x5,x6,x7],_,hv=>
    obtain⟨e1,he1⟩:=VP (l:=d) (i:=i.toNat) (by omega);obtain⟨e2,he2⟩:=VP (l:=c) (i:=i.toNat) (by omega);obtain⟨o1,ho1,p1⟩:=Zc6 x4 6 26 rfl (by omega) (z:= -6) rfl;obtain⟨o2,ho2,p2⟩:=Zc6 x4 11 21 rfl (by omega) (z:= -11) rfl;obtain⟨o3,ho3,p3⟩:=Zc6 x4 25 7 rfl (by omega) (z:= -25) rfl;obtain⟨o4,ho4,p4⟩:=Zc6 x0 2 30 rfl (by omega) (z:= -2) rfl;obtain⟨o5,ho5,p5⟩:=Zc6 x0 13 19 rfl (by omega) (z:= -13) rfl;obtain⟨o6,ho6,p6⟩:=Zc6 x0 22 10 rfl (by omega) (z:= -22) rfl;generalize ZB fuel=R at ho1 ho2 ho3 ho4 ho5 ho6 ⊢;rw[if_pos (decide_eq_true hi)];simp only[List.getElem?_cons_zero,yaw];rw[yb,ho1,yb,yb,ho2,yb,yb,ho3,yb,yb,yb,yb,yb,yb];rw[if_pos (Wg h0 (show i < ((64:Nat):Int) by omega)),he1,yb,if_pos (Wg h0 (show i < ((64:Nat):Int) by omega)),he2,yb,yb,ho4,yb,yb,ho5,yb,yb,ho6];rw[yb,yb,yb,yb,yb,yb];rw[yb,yb,yb,yb,yb,yb,yb];rw[ZR (z:=i+1) (by omega) (by omega)];refine⟨_,rfl,⟨by dsimp only;omega,by dsimp only;omega,rfl,rfl,rfl,rfl, ?_⟩,by dsimp only;omega⟩;dsimp only;rw[show(i+1).toNat=i.toNat+1 by omega,show rs ws (a.map ybm) (i.toNat+1)=rnd (rs ws (a.map ybm) i.toNat) (ks.getD i.toNat 0) (wd ws i.toNat) from rfl, ←hv]
    have hk1:ks.getD i.toNat 0=e1.toNat:=by
     rw[←hkv,ycw,yan,he1];rfl
    rw[hk1, ←hwv i.toNat e2 (by omega) he2];simp only[yac,List.map_nil];rw[Zt4]
    have kt:((x7+((o1^^^o2)^^^o3))+(x6^^^(x4&&&(x5^^^x6)))+e1+e2).toNat=lo (yv (yv (yv (yv x7.toNat (S1 x4.toNat)) (ch x4.toNat x5.toNat x6.toNat)) e1.toNat) e2.toNat):=by
     rw[ZfA,ZfA,ZfA,ZfA,ZF0 x4 p1 p2 p3,ZF1];exact ZF4 ..
    have ka:((x7+((o1^^^o2)^^^o3))+(x6^^^(x4&&&(x5^^^x6)))+e1+e2+((o4^^^o5)^^^o6)+((x0&&&x1)|||(x2&&&(x0|||x1)))).toNat=lo (yv (yv (yv (yv (yv (yv x7.toNat (S1 x4.toNat)) (ch x4.toNat x5.toNat x6.toNat)) e1.toNat) e2.toNat) (S0 x0.toNat)) (mj x0.toNat x1.toNat x2.toNat)):=by
     rw[ZfA,ZfA,kt,ZFZ x0 p4 p5 p6,ZF2];exact ZF5 ..
    have ke:(x3+(((x7+((o1^^^o2)^^^o3))+(x6^^^(x4&&&(x5^^^x6))))+e1+e2)).toNat=lo (yv x3.toNat (yv (yv (yv (yv x7.toNat (S1 x4.toNat)) (ch x4.toNat x5.toNat x6.toNat)) e1.toNat) e2.toNat)):=by
     rw[ZfA,kt];exact ZF6 ..
    rw[ka,ke]
  ·right;rw[if_neg (by simpa using hi)];have e64:i=64:=by omega
   subst e64;exact⟨_,rfl,rfl,he,hv⟩
def Zeh(n:Nat):List UInt8:=(be8 n).map ybc
theorem Zl4{n:Nat}{b:List UInt8}(h:b.length≤1000000000000):YY fuel (n:Int) b=some (b++Zeh n):=by
 unfold YY
 obtain⟨o,h1,h2⟩:=Xi (step:=WM fuel) (λs=>∃k:Nat,k≤8∧s.1=(n:Int)∧s.2.1=56 - 8*(k:Int)∧s.2.2.1=b++(Zeh n).take k) (λs=>(s.2.1+8).toNat) (λo=>o.1=b++Zeh n) (by
  rintro⟨a,i,c,d⟩ ⟨k,hk,ha,hi,hc⟩;dsimp only at ha hi hc;subst ha;unfold WM;dsimp only;have hcl:c.length≤b.length+8:=by rw[hc,yp,yaf];omega
  by_cases h0:i ≥ 0
  ·left;rw[if_pos (decide_eq_true h0),if_pos (decide_eq_true h0),if_pos (YH (by omega) (by omega)),ZR (z:=i - 8) (by omega) (by omega)];refine⟨_,rfl,⟨k+1,by omega,rfl,by dsimp only;omega, ?_⟩,by dsimp only;omega⟩;dsimp only
   have hw:∀m:Nat,w8 (Int.fdiv (n:Int) (2 ^ m))=ybc (n / 2 ^ m % 256):=by
    intro m;unfold w8;rw[Int.fdiv_eq_ediv_of_nonneg _ (by exact Int.le_of_lt (Int.pow_pos (by omega)))];congr 1
   have hmin:min i.toNat 64=56 - 8*k:=by omega
   rw[hmin,hw,hc,yam];congr 1;have hk8:k < 8:=by omega
   match k,hk8 with
   |0,_=>rfl
   |1,_=>rfl
   |2,_=>rfl
   |3,_=>rfl
   |4,_=>rfl
   |5,_=>rfl
   |6,_=>rfl
   |7,_=>
    show _++[ybc (n / 2 ^ 0 % 256)]=_;rw[Nat.pow_zero,Nat.div_one];rfl
  ·right;rw[if_neg (by simpa using h0)];have hk8:k=8:=by omega
   subst hk8;exact⟨_,rfl,hc⟩) (((n:Int),(56:Int),b,([]:List UInt8))) ⟨0,by omega,rfl,by simp,by simp⟩ (by dsimp only;omega)
 rw[h1,yb,h2]
theorem ZEL{l:List UInt8}(h:l.length≤4294967296):ZbL fuel l=some (sha l):=by
 unfold ZbL
 have hm:yag (l.length:Int) 64=((l.length % 64:Nat):Int):=by
  rw[Int.tmod_eq_emod_of_nonneg (by omega)];omega
 have hlt:l.length % 64 < 64:=ybp _ (by omega);have hle:l.length % 64≤l.length:=Nat.mod_le _ _;rw[hm,ZR (z:=(l.length:Int) - ((l.length % 64:Nat):Int)) (by omega) (by omega)];dsimp only;rw[if_pos (by simp only[ZaW,yh,decide_eq_true_eq];omega)];have hq:((l.length:Int) - ((l.length % 64:Nat):Int)).toNat=64*(l.length / 64):=by omega
 rw[hq]
 have hdl:(l.drop (64*(l.length / 64))).length=l.length % 64:=by
  rw[ybr];omega
 generalize ht:l.drop (64*(l.length / 64))=t at hdl
 have hcl:ZQ fuel t=some t:=by
  unfold ZQ;rw[if_pos (YH (by omega) (by omega))]
 rw[hcl,yb,if_pos (YH (by omega) (by omega))];generalize hz:yzz=z;have hzl:z.length=32:=by rw[←hz];rfl
 have hzs:zs l.length=(119 - t.length) % 64:=by unfold zs;rw[hdl]
 obtain⟨o,h1,p1,p2,p3⟩:=Xi (step:=QQ fuel) (λs=>s.1=l∧s.2.1=z∧∃j,j≤zs l.length∧s.2.2=t++([128]:List UInt8)++yab j 0) (λs=>184 - s.2.2.length)
  (λo=>o.1=l∧o.2.1=z∧o.2.2=t++([128]:List UInt8)++yab (zs l.length) 0) (by
  rintro⟨a,b,c⟩ ⟨k1,k2,j,k3,k4⟩;dsimp only at k1 k2 k3 k4;have hcl:c.length=t.length+1+j:=by rw[k4,yp,yp,ycq];rfl
  unfold QQ;dsimp only
  have hm:yag (c.length:Int) 64=((c.length % 64:Nat):Int):=by
   rw[Int.tmod_eq_emod_of_nonneg (by omega)];omega
  rw[hm];by_cases hi:c.length % 64=56
  ·right;rw[if_neg (by simp;omega)];have:j=zs l.length:=by omega
   subst this;exact⟨_,rfl,k1,k2,k4⟩
  ·left;rw[if_pos (by simp;omega),if_pos (YH (by omega) (by omega))];have hj:j≠zs l.length:=λe=>hi (by omega);refine⟨_,rfl,⟨k1,k2,j+1,by omega, ?_⟩, ?_⟩
   ·dsimp only;rw[k4,yam,List.replicate_succ',yam]
   ·dsimp only;rw[yp,List.length_singleton];omega) (l,z,t++([128]:List UInt8)) ⟨rfl,rfl,0,Nat.zero_le _,by simp⟩ (by dsimp only;omega)
 rw[h1,yb,p1,p2,p3,ZR (z:=8*(l.length:Int)) (by omega) (by omega),show 8*(l.length:Int)=((8*l.length:Nat):Int) by omega,Zl4 (by
  rw[yp,yp,ycq];simp;omega),yb]
 obtain⟨f,hf,hfl⟩:∃f,Zfv fuel=some f∧f.map ybm=Zeg:=⟨_,rfl,rfl⟩;have hf8:f.length=8:=by rw[←yx (f:=ybm),hfl];rfl
 rw[hf,yb];generalize hE:t++([128]:List UInt8)++yab (zs l.length) 0++Zeh (8*l.length)=E
 have hEl:E.length=64*((t.length+72) / 64):=by
  rw[←hE];simp only[yp,ycq,List.length_singleton,Zeh,yx,be8,yak,List.length_nil];omega
 obtain⟨o3,h3,r1,r2,r3,r4⟩:=Xi (step:=QR fuel) (λs=>s.2.1=z∧s.2.2.1=E∧s.2.2.2.length=8∧∃c,c≤l.length / 64∧s.1=l.drop (64*c)∧s.2.2.2.map ybm=ZdB c (l.map ybi) Zeg) (λs=>s.1.length)
  (λx=>x.1=z∧x.2.1=E∧x.2.2.length=8∧x.2.2.map ybm=ZdB (l.length / 64) (l.map ybi) Zeg) (by
  rintro⟨a,b,c,d⟩ ⟨k1,k2,k3,j,k4,k5,k6⟩;dsimp only at k1 k2 k3 k4 k5 k6;have hal:a.length=l.length - 64*j:=by rw[k5,ybr]
  unfold QR;dsimp only;by_cases hi:(a.length:Int) ≥ 64
  ·left;obtain⟨m,hm1,hm2⟩:=ZA5 (st:=d) (l:=a.take 64) k3 (by rw[yaf];omega);rw[if_pos (decide_eq_true hi),if_pos (by simp only[ZaW,yh,decide_eq_true_eq];omega),hm1,yb,if_pos (by simp only[ZaW,yh,decide_eq_true_eq];omega)];refine⟨_,rfl,⟨k1,k2, ?_,j+1,by omega, ?_, ?_⟩,by dsimp only;rw[ybr];omega⟩
   ·dsimp only;rw[←yx (f:=ybm),hm2];exact ZfC (by rw[yx];exact k3)
   ·dsimp only;rw[k5,List.drop_drop];congr 1
   ·dsimp only;rw[hm2,Zj9,k6,k5,List.map_take,List.map_drop]
  ·right;rw[if_neg (by simpa using hi)];have:j=l.length / 64:=by omega
   subst this;exact⟨_,rfl,k1,k2,k3,k6⟩) (l,z,E,f) ⟨rfl,rfl,hf8,0,Nat.zero_le _,by simp,hfl⟩ (by dsimp only;omega)
 rw[h3,yb,r1,r2];generalize hv1:ZdB (l.length / 64) (l.map ybi) Zeg=v1 at r4
 obtain⟨o4,h4,s1,s2,s3⟩:=Xi (step:=QS fuel) (λs=>s.2.1=z∧s.2.2.2.length=8∧∃c,c≤E.length / 64∧s.1=E.drop (64*c)∧s.2.2.2.map ybm=ZdB c (E.map ybi) v1) (λs=>s.1.length)
  (λx=>x.1=z∧x.2.2.length=8∧x.2.2.map ybm=ZdB (E.length / 64) (E.map ybi) v1) (by
  rintro⟨a,b,c,d⟩ ⟨k1,k3,j,k4,k5,k6⟩;dsimp only at k1 k3 k4 k5 k6;have hal:a.length=E.length - 64*j:=by rw[k5,ybr]
  unfold QS;dsimp only;by_cases hi:(a.length:Int) > 0
  ·left;obtain⟨m,hm1,hm2⟩:=ZA5 (st:=d) (l:=a.take 64) k3 (by rw[yaf];omega);rw[if_pos (decide_eq_true hi),if_pos (by simp only[ZaW,yh,decide_eq_true_eq];omega),hm1,yb,if_pos (by simp only[ZaW,yh,decide_eq_true_eq];omega)];refine⟨_,rfl,⟨k1, ?_,j+1,by omega, ?_, ?_⟩,by dsimp only;rw[ybr];omega⟩
   ·dsimp only;rw[←yx (f:=ybm),hm2];exact ZfC (by rw[yx];exact k3)
   ·dsimp only;rw[k5,List.drop_drop];congr 1
   ·dsimp only;rw[hm2,Zj9,k6,k5,List.map_take,List.map_drop]
  ·right;rw[if_neg (by simpa using hi)];have:j=E.length / 64:=by omega
   subst this;exact⟨_,rfl,k1,k3,k6⟩) (E,z,E,o3.2.2) ⟨rfl,r3,0,Nat.zero_le _,by simp,r4⟩ (by dsimp only;omega)
 rw[h4,yb];generalize hv2:ZdB (E.length / 64) (E.map ybi) v1=v2 at s3
 obtain⟨o5,h5,t1,t2⟩:=Xi (step:=QT fuel) (λs=>0≤s.1∧s.1≤32∧s.2.1.length=32∧s.2.2.2=o4.2.2∧∀(j:Nat),(j:Int) < s.1→s.2.1[j]? =some (Go.Sha.ZA2 v2 j)) (λs=>(32 - s.1).toNat)
  (λx=>x.1.length=32∧∀(j:Nat),j < 32→x.1[j]? =some (Go.Sha.ZA2 v2 j)) (by
  rintro⟨i,a,b,c⟩ ⟨h0,h32,ha,hc,hv⟩;dsimp only at h0 h32 ha hc hv;subst hc;unfold QT;dsimp only;by_cases hi:i < 32
  ·left;rw[if_pos (decide_eq_true hi)];have e1:yn i 4=i / 4:=Int.tdiv_eq_ediv_of_nonneg h0;have e2:yag i 4=i % 4:=Int.tmod_eq_emod_of_nonneg h0;rw[e1,e2,ZR (z:=i / 4) (by omega) (by omega),ZR (z:=8*(i % 4)) (by omega) (by omega),ZR (z:=24 - 8*(i % 4)) (by omega) (by omega),ZR (z:=i+1) (by omega) (by omega)];obtain⟨x1,hx1⟩:=VP (l:=o4.2.2) (i:=(i / 4).toNat) (by omega);obtain⟨x2,hx2⟩:=VP (l:=a) (i:=i.toNat) (by omega);rw[if_pos (Wg (by omega) (by omega)),hx1,yb,if_pos (decide_eq_true (by omega))]
   try dsimp only
   rw[if_pos (Wg (by omega) (by omega)),hx2,yb];refine⟨_,rfl,⟨by dsimp only;omega,by dsimp only;omega,by dsimp only;rw[yba];exact ha,rfl, ?_⟩,by dsimp only;omega⟩;intro j hj;dsimp only at hj ⊢;by_cases hji:j=i.toNat
   ·subst hji;rw[ycl (by omega)];congr 1;unfold Go.Sha.ZA2
    have hx:v2.getD (i.toNat / 4) 0=x1.toNat:=by
     rw[←s3,ycw,yan,show i.toNat / 4=(i / 4).toNat by omega,hx1];rfl
    rw[hx,show min (24 - 8*(i % 4)).toNat 32=24 - 8*(i.toNat % 4) by omega,Zt3];unfold w8;have e3:∀m:Nat,(((m:Nat):Int) % 256).toNat=m % 256:=λm=>by omega
    rw[e3,show yah x1.toNat (24 - 8*(i.toNat % 4))=x1.toNat >>> (24 - 8*(i.toNat % 4)) from rfl,Nat.shiftRight_eq_div_pow]
    exact UInt8.toNat_inj.1 (by simp)
   ·rw[List.getElem?_set_ne (Ne.symm hji)];exact hv j (by omega)
  ·right;rw[if_neg (by simpa using hi)];exact⟨_,rfl,ha,λj hj=>hv j (by omega)⟩) ((0:Int),o4.1,o4.2.1,o4.2.2) ⟨Int.le_refl _,by dsimp only;omega,by dsimp only;rw[s1];exact hzl,rfl,λj hj=>by dsimp only at hj;omega⟩ (by dsimp only;omega)
 rw[h5,yb,ZA3];congr 1
 have hpad:Zef l=(l.take (64*(l.length / 64))).map ybi++E.map ybi:=by
  unfold Zef;rw[←hE, ←ht];simp only[yaj,List.map_replicate,yac,List.map_nil,Zeh,List.map_map];rw[←yam, ←yam, ←yam, ←yaj,ybj]
  have:be8 (8*l.length)=(be8 (8*l.length)).map (ybi ∘ ybc):=by
   simp[be8]
  rw[←this];simp
 have hw:((l.take (64*(l.length / 64))).map ybi).length=64*(l.length / 64):=by
  rw[yx,yaf];omega
 have hv:v2=ZdB ((l.length+72) / 64) (Zef l) Zeg:=by
  rw[hpad,show(l.length+72) / 64=l.length / 64+E.length / 64 by omega,ZnP _ _ _ _ _ hw, ←hv2, ←hv1];congr 1;have:=ZnP (l.length / 64) 0 _ ((l.drop (64*(l.length / 64))).map ybi) Zeg hw;rw[←yaj,ybj,Nat.add_zero] at this;exact this
 rw[←hv];apply List.ext_getElem?;intro j;by_cases hj:j < 32
 ·rw[t2 j hj,yan,List.getElem?_range hj];rfl
 ·rw[yap (by omega),yap (by simp;omega)]
noncomputable def Zbg(F:Nat)(a0:List UInt8):Option (List UInt8):=if decide (a0.length≤4294967296)=true then some (sha a0) else ZbL F a0
noncomputable def Zt7(F:Nat):Fs Try.prog:={ Zee F with M:=λx=>Zbg F x}
noncomputable def ZnQ:Fs Try.prog:=Zt7 fuel
theorem Zt8:ZnQ.Ok:=ZrN (s:=Zee fuel) ZrZ λx=>by
 show Zbg fuel x=ZbL fuel x;unfold Zbg;split
 ·rename_i h;exact(ZEL (of_decide_eq_true h)).symm
 ·rfl
theorem Zxl{l:List UInt8}(h:l.length≤4294967296):Zbg fuel l=some (sha l):=if_pos (decide_eq_true h)
end Go.Proofs.Ytkapgdbeeblihaa
end
section
set_option maxRecDepth 4000
namespace Go.Proofs.Ytkapgdbeeblihaa
open Go Go.Ev
noncomputable section
def Zi1(F:Nat):Fs Try.prog:=⟨56,[.nil .u8,.v yI],[],[yI],(Zau F).xs,λx=>(Zau F).M (x,([]:List UInt8))⟩
def ZdC:Fs Try.prog:=Zi1 fuel
theorem Zi2:ZdC.Ok:=ZEp (i1:=[yI]) (i2:=[yI,(.sl .u8)]) (λx=>(x,([]:List UInt8))) Zav (λ_=>rfl) (λ_=>⟨_,rfl⟩)
def Xs(F:Nat)(s:((List (List UInt8))×Int×Int×(List UInt8)×(List UInt8))):Option (((List (List UInt8))×Int×Int×(List UInt8)×(List UInt8))⊕((List UInt8)×(List UInt8))):=
 if(decide (s.2.2.1 < s.2.1))=true then
  (idx s.1 s.2.2.1).bind λe170=>
  (YY F (e170.length:Int) s.2.2.2.2).bind λo171=>
  if(apB o171.length e170.length 1)=true then
   some (.inl (s.1,s.2.1,wi (s.2.2.1+1),s.2.2.2.1,o171++e170))
  else
  none
 else
 some (.inr (s.2.2.2.1,s.2.2.2.2))
def Zk0:Lp:=⟨[(4,.ref 0 []),(5,.own 1 .u8),(13,.v (.sl (.sl .u8))),(14,.v yI),(15,.v yI)],[.var (.v (.arr 32 .u8)) true,.log .u8 5],[(.sl (.sl .u8)),yI,yI,(.arr 32 .u8),(.sl .u8)],[⟨.exit 0,[(4,.ref 0 []),(5,.own 1 .u8)],[.var (.v (.arr 32 .u8)) true,.log .u8 5],[(.arr 32 .u8),(.sl .u8)]⟩],Zk (Xs fuel) fuel⟩
def hi5:HI:={ own:=[5,10,12,19,22,24],still:=[9,19,21,26]}
theorem ZnR:Zk0.okA Try.prog 30 0:=ZV hi5 [] [ZbK] ⟨Zav,ytt⟩
def Wa(F:Nat)(a0:ByteArray)(a1:(List (List UInt8))):Option ((List UInt8)):=
 (YY F (a0.size:Int) []).bind λo169=>
 if(apB o169.length ((Zc0 a0).length) 1)=true then
  (Zk (Xs F) F (a1,(a1.length:Int),0,yzz,o169++(Zc0 a0))).bind λo172=>
  (Zbg F o172.2).bind λo173=>
  some o173
 else
 none
def Zt9(F:Nat):Fs Try.prog:=⟨30,[.v .str,.v (.sl (.sl .u8))],[],[.str,(.sl (.sl .u8))],[⟨.ret,[(0,.v (.arr 32 .u8))],[],[(.arr 32 .u8)]⟩],λx=>Wa F x.1 x.2⟩
def ZbM:Fs Try.prog:=Zt9 fuel
theorem ZcH:ZbM.Ok:=fnO hi5 [(0,Zk0)] [ZdC,ZnQ] ⟨Zi2,Zt8,ytt⟩ ⟨ZnR,ytt⟩
def Yr(F:Nat)(s:((List (List UInt8))×Int×(List (List UInt8))×Int×Int)):Option (((List (List UInt8))×Int×(List (List UInt8))×Int×Int)⊕((List (List UInt8))×Int)):=
 if(decide (s.2.2.2.2 < s.2.2.2.1))=true then
  (idx s.2.2.1 s.2.2.2.2).bind λe174=>
  if(decide ((wi (s.2.1+(e174.length:Int))) < 0))=true then
   none
  else
  some (.inl (s.1,wi (s.2.1+(e174.length:Int)),s.2.2.1,s.2.2.2.1,wi (s.2.2.2.2+1)))
 else
 some (.inr (s.1,s.2.1))
def WA:Lp:=⟨[(0,.v (.sl (.sl .u8))),(3,.v yI),(9,.v (.sl (.sl .u8))),(10,.v yI),(11,.v yI)],[],[(.sl (.sl .u8)),yI,(.sl (.sl .u8)),yI,yI],[⟨.exit 0,[(0,.v (.sl (.sl .u8))),(3,.v yI)],[],[(.sl (.sl .u8)),yI]⟩],Zk (Yr fuel) fuel⟩
def hi6:HI:={ own:=[6,24,31,33],still:=[2,23]}
theorem Zac:WA.okA Try.prog 90 0:=ZV hi6 [] [] trivial
def Vt:Fs Try.prog:=⟨99,[.nil .u8,.v yI],[],[.int .i64],[⟨.ret,[(0,.own 0 .u8)],[.log .u8 5],[.sl .u8]⟩],Znq⟩
theorem Zc7:Vt.Ok:=ZCB ZAL
def Ys(F:Nat)(s:((List (List UInt8))×Int×Int×(List UInt8))):Option (((List (List UInt8))×Int×Int×(List UInt8))⊕(List UInt8)):=
 if(decide (s.2.2.1 < s.2.1))=true then
  (idx s.1 s.2.2.1).bind λe177=>
  if(apB s.2.2.2.length e177.length 1)=true then
   some (.inl (s.1,s.2.1,wi (s.2.2.1+1),s.2.2.2++e177))
  else
  none
 else
 some (.inr s.2.2.2)
def WB:Lp:=⟨[(6,.own 0 .u8),(25,.v (.sl (.sl .u8))),(26,.v yI),(27,.v yI)],[.log .u8 5],[(.sl (.sl .u8)),yI,yI,(.sl .u8)],[⟨.exit 2,[(6,.own 0 .u8)],[.log .u8 5],[(.sl .u8)]⟩],Zk (Ys fuel) fuel⟩
theorem Zad:WB.okA Try.prog 90 1:=ZV hi6 [] [] trivial
def Yb(F:Nat)(a0:(List (List UInt8))):Option ((List UInt8)):=
 (Zk (Yr F) F (a0,0,a0,(a0.length:Int),0)).bind λo175=>
 (Znq o175.2).bind λo176=>
 (Zk (Ys F) F (o175.1,(o175.1.length:Int),0,o176)).bind λo178=>
 some o178
def ZbN(F:Nat):Fs Try.prog:=⟨90,[.v (.sl (.sl .u8))],[],[(.sl (.sl .u8))],[⟨.ret,[(0,.v (.sl .u8))],[],[(.sl .u8)]⟩],λx=>Yb F x⟩
def Xg:Fs Try.prog:=ZbN fuel
theorem WC:Xg.Ok:=fnO hi6 [(0,WA),(1,WB)] [Vt] ⟨Zc7,ytt⟩ ⟨Zac,Zad,ytt⟩
def Vf(F:Nat)(a0:(List UInt8))(a1:(List UInt8)):Option ((List UInt8)):=
 (Yb F [a0,a1]).bind λo179=>
 some o179
def Zr1(F:Nat):Fs Try.prog:=⟨88,[.v (.sl .u8),.v (.sl .u8)],[],[(.sl .u8),(.sl .u8)],[⟨.ret,[(0,.v (.sl .u8))],[],[(.sl .u8)]⟩],λx=>Vf F x.1 x.2⟩
def ZcI:Fs Try.prog:=Zr1 fuel
theorem Zei:ZcI.Ok:=fnO { still:=[4,7]} [] [Xg] ⟨WC,ytt⟩
def Za5(F:Nat)(s:(Int×(List UInt8))):Option ((Int×(List UInt8))⊕(Int×(List UInt8))):=
 if(decide (s.1 ≥ 128))=true then
  if(apB s.2.length 1 1)=true then
   let y180:(List UInt8):=s.2++([w8 (wi ((yag s.1 128)+128))]:List UInt8)
   some (.inl (wi (yn s.1 128),y180))
  else
  none
 else
 some (.inr (s.1,s.2))
def Zk1:Lp:=⟨[(0,.v yI),(3,.own 0 .u8)],[.log .u8 5],[yI,(.sl .u8)],[⟨.exit 0,[(0,.v yI),(3,.own 0 .u8)],[.log .u8 5],[yI,(.sl .u8)]⟩],Zk (Za5 fuel) fuel⟩
def hi7:HI:={ own:=[3,8,14,15,19],still:=[2]}
theorem ZnS:Zk1.okA Try.prog 89 0:=ZV hi7 [] [] trivial
def ZdD(F:Nat)(a0:Int):Option ((List UInt8)):=
 (Zk (Za5 F) F (a0,[])).bind λo181=>
 if(apB o181.2.length 1 1)=true then
  some (o181.2++([w8 o181.1]:List UInt8))
 else
 none
def Zua(F:Nat):Fs Try.prog:=⟨89,[.v yI],[],[yI],[⟨.ret,[(0,.v (.sl .u8))],[],[(.sl .u8)]⟩],λx=>ZdD F x⟩
def Zhz:Fs Try.prog:=Zua fuel
theorem Zk2:Zhz.Ok:=fnO hi7 [(0,Zk1)] [] trivial ⟨ZnS,ytt⟩
def Y4(F:Nat)(a0:(List UInt8))(a1:Int):Option ((List UInt8)):=
 if(decide (a1 < 0))=true then
  (Vf F a0 []).bind λo182=>
  some o182
 else
 (ZdD F a1).bind λo183=>
 (Vf F a0 o183).bind λo184=>
 some o184
def Zub(F:Nat):Fs Try.prog:=⟨58,[.v (.sl .u8),.v yI],[],[(.sl .u8),yI],[⟨.ret,[(0,.v (.sl .u8))],[],[(.sl .u8)]⟩],λx=>Y4 F x.1 x.2⟩
def Vg:Fs Try.prog:=Zub fuel
theorem Vu:Vg.Ok:=fnO { still:=[4,7,9,10,11]} [] [ZcI,Zhz] ⟨Zei,Zk2,ytt⟩
def QU(F:Nat)(a0:(List UInt8))(a1:(List UInt8)):Option ((List UInt8)):=
 (Vf F a0 a1).bind λo185=>
 some o185
def Zlx(F:Nat):Fs Try.prog:=⟨59,[.v (.sl .u8),.v (.arr 32 .u8)],[],[(.sl .u8),(.arr 32 .u8)],[⟨.ret,[(0,.v (.sl .u8))],[],[(.sl .u8)]⟩],λx=>QU F x.1 x.2⟩
def ZfD:Fs Try.prog:=Zlx fuel
theorem Zly:ZfD.Ok:=fnO { still:=[4,5,6],frz:=[6]} [] [ZcI] ⟨Zei,ytt⟩
def VX(F:Nat)(a0:(List UInt8))(a1:(List UInt8)):Option ((List UInt8)):=
 (ZdD F (a1.length:Int)).bind λo186=>
 (Yb F [a0,o186,a1]).bind λo187=>
 some o187
def Zka(F:Nat):Fs Try.prog:=⟨60,[.v (.sl .u8),.v (.sl .u8)],[],[(.sl .u8),(.sl .u8)],[⟨.ret,[(0,.v (.sl .u8))],[],[(.sl .u8)]⟩],λx=>VX F x.1 x.2⟩
def ZeC:Fs Try.prog:=Zka fuel
theorem Zkb:ZeC.Ok:=fnO { still:=[4,7,10]} [] [Zhz,Xg] ⟨Zk2,WC,ytt⟩
def W7(F:Nat)(s:((List UInt8)×UInt64×Int×(List UInt8))):Option (((List UInt8)×UInt64×Int×(List UInt8))⊕((List UInt8)×(List UInt8))):=
 if(decide (s.2.2.1 < 8))=true then
  if(decide (0≤wi (56 - (wi (8*s.2.2.1)))))=true then
   let y188:UInt64:=Zx s.2.1 (min (wi (56 - (wi (8*s.2.2.1)))).toNat 64)
   if(inB s.2.2.1 8)=true then
    (s.2.2.2[s.2.2.1.toNat]?).bind λe189=>
    let y190:(List UInt8):=s.2.2.2.set s.2.2.1.toNat (w8 (y188.toNat:Int))
    some (.inl (s.1,s.2.1,wi (s.2.2.1+1),y190))
   else
   none
  else
  none
 else
 some (.inr (s.1,s.2.2.2))
def ZfE:Lp:=⟨[(0,.v (.sl .u8)),(1,.v .u64),(5,.ref 0 []),(7,.v yI)],[.var (.v (.arr 8 .u8)) true],[(.sl .u8),.u64,yI,(.arr 8 .u8)],[⟨.exit 0,[(0,.v (.sl .u8)),(5,.ref 0 [])],[.var (.v (.arr 8 .u8)) true],[(.sl .u8),(.arr 8 .u8)]⟩],Zk (W7 fuel) fuel⟩
theorem Zi3:ZfE.okA Try.prog 91 0:=ZV { still:=[4,19,20],frz:=[20]} [] [] trivial
def VY(F:Nat)(a0:(List UInt8))(a1:UInt64):Option ((List UInt8)):=
 (Zk (W7 F) F (a0,a1,0,[0,0,0,0,0,0,0,0])).bind λo191=>
 (Vf F o191.1 o191.2).bind λo192=>
 some o192
def ZnT(F:Nat):Fs Try.prog:=⟨91,[.v (.sl .u8),.v .u64],[],[(.sl .u8),.u64],[⟨.ret,[(0,.v (.sl .u8))],[],[(.sl .u8)]⟩],λx=>VY F x.1 x.2⟩
def Zc8:Fs Try.prog:=ZnT fuel
theorem ZfF:Zc8.Ok:=fnO { still:=[4,19,20],frz:=[20]} [(0,ZfE)] [ZcI] ⟨Zei,ytt⟩ ⟨Zi3,ytt⟩
def WD(F:Nat)(s:((List UInt8)×(List ZW)×Int×Int×(List UInt64)×Int×Int×Wh×ZW)):Option (((List UInt8)×(List ZW)×Int×Int×(List UInt64)×Int×Int×Wh×ZW)⊕((List UInt8)×(List ZW)×Int×Int×Wh×ZW)):=
 if(decide (s.2.2.2.2.2.2.1 < s.2.2.2.2.2.1))=true then
  (idx s.2.2.2.2.1 s.2.2.2.2.2.2.1).bind λe197=>
  (VY F s.1 e197).bind λo198=>
  some (.inl (o198,s.2.1,s.2.2.1,s.2.2.2.1,s.2.2.2.2.1,s.2.2.2.2.2.1,wi (s.2.2.2.2.2.2.1+1),s.2.2.2.2.2.2.2.1,s.2.2.2.2.2.2.2.2))
 else
 some (.inr (s.1,s.2.1,s.2.2.1,s.2.2.2.1,s.2.2.2.2.2.2.2.1,s.2.2.2.2.2.2.2.2))
abbrev tL0:List Ty:=[(.sl .u8),(.sl ZF),yI,yI,(.sl .u64),yI,yI,Yu,ZF]
def ZgQ:Lp:=⟨[(3,.v (.sl .u8)),(5,.ref 1 []),(16,.v (.sl ZF)),(17,.v yI),(18,.v yI),(28,.v (.sl .u64)),(29,.v yI),(30,.v yI)],[.var (.v Yu) true,.var (.v ZF) true],tL0,[⟨.exit 2,[(3,.v (.sl .u8)),(5,.ref 1 []),(16,.v (.sl ZF)),(17,.v yI),(18,.v yI)],[.var (.v Yu) true,.var (.v ZF) true],[(.sl .u8),(.sl ZF),yI,yI,Yu,ZF]⟩],Zk (WD fuel) fuel⟩
def hi8:HI:={ still:=[2,8,13,22,25,34,35,38,40,41,43,44,46]}
theorem Zkc:ZgQ.okA Try.prog 61 1:=ZV hi8 [] [Zc8] ⟨ZfF,ytt⟩
def VZ(F:Nat)(s:((List UInt8)×(List ZW)×Int×Int×Wh)):Option (((List UInt8)×(List ZW)×Int×Int×Wh)⊕((List UInt8)×Wh)):=
 if(decide (s.2.2.2.1 < s.2.2.1))=true then
  (idx s.2.1 s.2.2.2.1).bind λe195=>
  (Y4 F s.1 (e195.1.length:Int)).bind λo196=>
  (Zk (WD F) F (o196,s.2.1,s.2.2.1,s.2.2.2.1,e195.1,(e195.1.length:Int),0,s.2.2.2.2,e195)).bind λo199=>
  (Y4 F o199.1 o199.2.2.2.2.2.2.1).bind λo200=>
  (Y4 F o200 o199.2.2.2.2.2.2.2.1).bind λo201=>
  (VY F o201 o199.2.2.2.2.2.2.2.2).bind λo202=>
  some (.inl (o202,o199.2.1,o199.2.2.1,wi (o199.2.2.2.1+1),o199.2.2.2.2.1))
 else
 some (.inr (s.1,s.2.2.2.2))
def ZgR:Lp:=⟨[(3,.v (.sl .u8)),(16,.v (.sl ZF)),(17,.v yI),(18,.v yI)],[.var (.v Yu) true],[(.sl .u8),(.sl ZF),yI,yI,Yu],[⟨.exit 0,[(3,.v (.sl .u8))],[.var (.v Yu) true],[(.sl .u8),Yu]⟩],Zk (VZ fuel) fuel⟩
theorem Zkd:ZgR.okA Try.prog 61 0:=ZV hi8 [(1,ZgQ)] [Vg,Zc8] ⟨Vu,ZfF,ytt⟩ ⟨Zkc,ytt⟩
def ZcJ(F:Nat)(a0:Wh):Option ((List UInt8)):=
 (Wx F a0).bind λo193=>
 if(!o193)=true then
  some []
 else
 (Y4 F [] (a0.length:Int)).bind λo194=>
 (Zk (VZ F) F (o194,a0,(a0.length:Int),0,a0)).bind λo203=>
 some o203.1
def Zo3(F:Nat):Fs Try.prog:=⟨61,[.v Yu],[],[Yu],[⟨.ret,[(0,.v (.sl .u8))],[],[(.sl .u8)]⟩],λx=>ZcJ F x⟩
def Zi4:Fs Try.prog:=Zo3 fuel
theorem Zo4:Zi4.Ok:=fnO hi8 [(0,ZgR)] [VU,Vg] ⟨QP,Vu,ytt⟩ ⟨Zkd,ytt⟩
def Za6(F:Nat)(s:((List UInt8)×(List In)×Int×Int×Tx)):Option (((List UInt8)×(List In)×Int×Int×Tx)⊕((List UInt8)×Tx)):=
 if(decide (s.2.2.2.1 < s.2.2.1))=true then
  (idx s.2.1 s.2.2.2.1).bind λe205=>
  (QU F s.1 e205.1.1).bind λo206=>
  (Y4 F o206 e205.1.2).bind λo207=>
  some (.inl (o207,s.2.1,s.2.2.1,wi (s.2.2.2.1+1),s.2.2.2.2))
 else
 some (.inr (s.1,s.2.2.2.2))
def Zk3:Lp:=⟨[(1,.ref 0 []),(3,.v (.sl .u8)),(13,.v (.sl yIn)),(14,.v yI),(15,.v yI)],[.var (.v yTx) true],[(.sl .u8),(.sl yIn),yI,yI,yTx],[⟨.exit 0,[(1,.ref 0 []),(3,.v (.sl .u8))],[.var (.v yTx) true],[(.sl .u8),yTx]⟩],Zk (Za6 fuel) fuel⟩
def hi9:HI:={ still:=[2,10,19,22,23,26,29,32,41,43,44,46,47,50,52]}
theorem ZnU:Zk3.okA Try.prog 31 0:=ZV hi9 [] [ZfD,Vg] ⟨Zly,Vu,ytt⟩
def Za7(F:Nat)(s:((List UInt8)×(List Out)×Int×Int×Tx)):Option (((List UInt8)×(List Out)×Int×Int×Tx)⊕((List UInt8)×Tx)):=
 if(decide (s.2.2.2.1 < s.2.2.1))=true then
  (idx s.2.1 s.2.2.2.1).bind λe210=>
  (Y4 F s.1 e210.1).bind λo211=>
  (ZcJ F e210.2).bind λo212=>
  (VX F o211 o212).bind λo213=>
  some (.inl (o213,s.2.1,s.2.2.1,wi (s.2.2.2.1+1),s.2.2.2.2))
 else
 some (.inr (s.1,s.2.2.2.2))
def Zk4:Lp:=⟨[(1,.ref 0 []),(3,.v (.sl .u8)),(35,.v (.sl Zr)),(36,.v yI),(37,.v yI)],[.var (.v yTx) true],[(.sl .u8),(.sl Zr),yI,yI,yTx],[⟨.exit 2,[(1,.ref 0 []),(3,.v (.sl .u8))],[.var (.v yTx) true],[(.sl .u8),yTx]⟩],Zk (Za7 fuel) fuel⟩
theorem ZnV:Zk4.okA Try.prog 31 1:=ZV hi9 [] [Vg,Zi4,ZeC] ⟨Vu,Zo4,Zkb,ytt⟩
def Zgo(F:Nat)(a0:Tx):Option ((List UInt8)):=
 (Y4 F [] (a0.1.length:Int)).bind λo204=>
 (Zk (Za6 F) F (o204,a0.1,(a0.1.length:Int),0,a0)).bind λo208=>
 (Y4 F o208.1 (o208.2.2.1.length:Int)).bind λo209=>
 (Zk (Za7 F) F (o209,o208.2.2.1,(o208.2.2.1.length:Int),0,o208.2)).bind λo214=>
 (Y4 F o214.1 o214.2.2.2).bind λo215=>
 some o215
def Zuc(F:Nat):Fs Try.prog:=⟨31,[.v yTx],[],[yTx],[⟨.ret,[(0,.v (.sl .u8))],[],[(.sl .u8)]⟩],λx=>Zgo F x⟩
def ZnW:Fs Try.prog:=Zuc fuel
theorem Zud:ZnW.Ok:=fnO hi9 [(0,Zk3),(1,Zk4)] [Vg] ⟨Vu,ytt⟩ ⟨ZnU,ZnV,ytt⟩
def ZA6:ByteArray:=⟨#[116,120]⟩
def YC(F:Nat)(a0:Tx):Option ((List UInt8)):=
 (Qw F a0).bind λo216=>
 if(!o216)=true then
  some yzz
 else
 (Zgo F a0).bind λo217=>
 (Wa F ZA6 [o217]).bind λo218=>
 some o218
def ZA7(F:Nat):Fs Try.prog:=⟨10,[.v yTx],[],[yTx],[⟨.ret,[(0,.v (.arr 32 .u8))],[],[(.arr 32 .u8)]⟩],λx=>YC F x⟩
def Za8:Fs Try.prog:=ZA7 fuel
theorem Zae:Za8.Ok:=fnO { still:=[3,7,9]} [] [ZbJ,ZnW,ZbM] ⟨ZcC,Zud,ZcH,ytt⟩
def Zk5(F:Nat)(s:(Int×Int×Tx×(List Ze)×(List UInt8))):Option ((Int×Int×Tx×(List Ze)×(List UInt8))⊕(Tx×(List Ze)×(List UInt8))):=
 if(decide (s.2.1 < s.1))=true then
  if(apB s.2.2.2.1.length 1 40)=true then
   let y221:(List Ze):=s.2.2.2.1++([(s.2.2.2.2,s.2.1)]:List Ze)
   some (.inl (s.1,wi (s.2.1+1),s.2.2.1,y221,s.2.2.2.2))
  else
  none
 else
 some (.inr (s.2.2.1,s.2.2.2.1,s.2.2.2.2))
def ZnX:Lp:=⟨[(2,.own 1 Zb),(3,.ref 2 []),(12,.v yI),(13,.v yI)],[.var (.v yTx) true,.log Zb 34,.var (.v (.arr 32 .u8)) true],[yI,yI,yTx,(.sl Zb),(.arr 32 .u8)],[⟨.exit 0,[(2,.own 1 Zb)],[.var (.v yTx) true,.log Zb 34,.var (.v (.arr 32 .u8)) true],[yTx,(.sl Zb),(.arr 32 .u8)]⟩],Zk (Zk5 fuel) fuel⟩
def ZFy:HI:={ own:=[2,16,21,23],still:=[2,5,7]}
theorem Zo5:ZnX.okA Try.prog 33 0:=ZV ZFy [] [] trivial
def ZnY(F:Nat)(a0:Tx):Option ((List Ze)):=
 (YC F a0).bind λo219=>
 (Qw F a0).bind λo220=>
 if(!o220)=true then
  some []
 else
 (Zk (Zk5 F) F ((a0.2.1.length:Int),0,a0,[],o219)).bind λo222=>
 some o222.2.1
def Zv0(F:Nat):Fs Try.prog:=⟨33,[.v yTx],[],[yTx],[⟨.ret,[(0,.v (.sl Zb))],[],[(.sl Zb)]⟩],λx=>ZnY F x⟩
def Zke:Fs Try.prog:=Zv0 fuel
theorem ZnZ:Zke.Ok:=fnO ZFy [(0,ZnX)] [Za8,ZbJ] ⟨Zae,ZcC,ytt⟩ ⟨Zo5,ytt⟩
def WN(F:Nat)(a0:UInt64):Option (UInt64):=
 (YU F a0).bind λo223=>
 if o223=true then
  some a0
 else
 some 1
def Zn0(F:Nat):Fs Try.prog:=⟨73,[.v .u64],[],[.u64],[⟨.ret,[(0,.v .u64)],[],[.u64]⟩],λx=>WN F x⟩
def QV:Fs Try.prog:=Zn0 fuel
theorem ZbO:QV.Ok:=fnO { still:=[2,3]} [] [W2] ⟨VR,ytt⟩
def V0(F:Nat)(a0:UInt64)(a1:UInt64):Option (UInt64):=
 (WN F a0).bind λo224=>
 (WK F o224 (a1 % 2305843009213688669)).bind λo225=>
 some o225
def Zn1(F:Nat):Fs Try.prog:=⟨47,[.v .u64,.v .u64],[],[.u64,.u64],[⟨.ret,[(0,.v .u64)],[],[.u64]⟩],λx=>V0 F x.1 x.2⟩
def Zc9:Fs Try.prog:=Zn1 fuel
theorem ZfG:Zc9.Ok:=fnO { still:=[4,5,6,8]} [] [QV,QN] ⟨ZbO,ZbG,ytt⟩
def YZ(F:Nat)(a0:UInt64):Option (UInt64):=
 (V0 F 4 a0).bind λo226=>
 some o226
def Zo6(F:Nat):Fs Try.prog:=⟨22,[.v .u64],[],[.u64],[⟨.ret,[(0,.v .u64)],[],[.u64]⟩],λx=>YZ F x⟩
def XU:Fs Try.prog:=Zo6 fuel
theorem Wb:XU.Ok:=fnO { still:=[2,3]} [] [Zc9] ⟨ZfG,ytt⟩
def QW(F:Nat)(s:(UInt64×(List UInt64)×Int×Int)):Option ((UInt64×(List UInt64)×Int×Int)⊕UInt64):=
 if(decide (s.2.2.2 < s.2.2.1))=true then
  (idx s.2.1 s.2.2.2).bind λe227=>
  (WN F e227).bind λo228=>
  (Z2 F s.1 o228).bind λo229=>
  some (.inl (o229,s.2.1,s.2.2.1,wi (s.2.2.2+1)))
 else
 some (.inr s.1)
def Zi5:Lp:=⟨[(3,.v .u64),(6,.v (.sl .u64)),(7,.v yI),(8,.v yI)],[],[.u64,(.sl .u64),yI,yI],[⟨.exit 0,[(3,.v .u64)],[],[.u64]⟩],Zk (QW fuel) fuel⟩
theorem Zlz:Zi5.okA Try.prog 80 0:=ZV { still:=[2,12,13,14]} [] [QV,Zc3] ⟨ZbO,Zfr,ytt⟩
def ZbP(F:Nat)(a0:(List UInt64)):Option (UInt64):=
 (Zk (QW F) F (1,a0,(a0.length:Int),0)).bind λo230=>
 some o230
def Zr2(F:Nat):Fs Try.prog:=⟨80,[.v (.sl .u64)],[],[(.sl .u64)],[⟨.ret,[(0,.v .u64)],[],[.u64]⟩],λx=>ZbP F x⟩
def ZfH:Fs Try.prog:=Zr2 fuel
theorem Zi6:ZfH.Ok:=fnO { still:=[2,12,13,14]} [(0,Zi5)] [] trivial ⟨Zlz,ytt⟩
def WO(F:Nat)(a0:UInt64):Option (Bool):=
 some (decide (a0 < 2305843009213688669))
def Zn2(F:Nat):Fs Try.prog:=⟨81,[.v .u64],[],[.u64],[⟨.ret,[(0,.v .bool)],[],[.bool]⟩],λx=>WO F x⟩
def Zda:Fs Try.prog:=Zn2 fuel
theorem ZfI:Zda.Ok:=fnO { still:=[2]} [] [] trivial
def Yw(F:Nat)(s:(UInt64×(List UInt8)×Int×(List UInt8))):Option ((UInt64×(List UInt8)×Int×(List UInt8))⊕(UInt64×(List UInt8))):=
 if(decide (s.2.2.1 < 32))=true then
  (idx s.2.1 s.2.2.1).bind λe231=>
  (YX F (Zx s.1 56) ((Wu s.1 8)|||(yae e231.toNat)) 2305843009213688668).bind λo232=>
  some (.inl (o232,s.2.1,wi (s.2.2.1+1),s.2.2.2))
 else
 some (.inr (s.1,s.2.2.2))
def ZgS:Lp:=⟨[(3,.v .u64),(6,.v (.arr 32 .u8)),(7,.v yI)],[.var (.v (.arr 32 .u8)) true],[.u64,(.arr 32 .u8),yI,(.arr 32 .u8)],[⟨.exit 0,[(3,.v .u64)],[.var (.v (.arr 32 .u8)) true],[.u64,(.arr 32 .u8)]⟩],Zk (Yw fuel) fuel⟩
theorem Zkf:ZgS.okA Try.prog 76 0:=ZV { still:=[2,11,16]} [] [ZaZ] ⟨Zc2,ytt⟩
def XK(F:Nat)(a0:(List UInt8)):Option (UInt64):=
 (Zk (Yw F) F (0,a0,0,a0)).bind λo233=>
 some (o233.1+1)
def Zo7(F:Nat):Fs Try.prog:=⟨76,[.v (.arr 32 .u8)],[],[(.arr 32 .u8)],[⟨.ret,[(0,.v .u64)],[],[.u64]⟩],λx=>XK F x⟩
def Za9:Fs Try.prog:=Zo7 fuel
theorem Zdb:Za9.Ok:=fnO { still:=[2,11,16]} [(0,ZgS)] [] trivial ⟨Zkf,ytt⟩
def Yx(F:Nat)(s:(UInt64×Int×Int×(List UInt8))):Option ((UInt64×Int×Int×(List UInt8))⊕(List UInt8)):=
 if(decide (s.2.2.1 < s.2.1))=true then
  if(decide (0≤wi (56 - (wi (8*s.2.2.1)))))=true then
   let y234:UInt64:=Zx s.1 (min (wi (56 - (wi (8*s.2.2.1)))).toNat 64)
   if(inB s.2.2.1 8)=true then
    (s.2.2.2[(0+s.2.2.1.toNat)]?).bind λe235=>
    let y236:(List UInt8):=s.2.2.2.set (0+s.2.2.1.toNat) (w8 (y234.toNat:Int))
    some (.inl (s.1,s.2.1,wi (s.2.2.1+1),y236))
   else
   none
  else
  none
 else
 some (.inr s.2.2.2)
def ZgT:Lp:=⟨[(0,.v .u64),(3,.view 0 [] 1 0 8),(7,.v yI),(8,.v yI)],[.var (.v (.arr 8 .u8)) true],[.u64,yI,yI,(.arr 8 .u8)],[⟨.exit 0,[(3,.view 0 [] 1 0 8)],[.var (.v (.arr 8 .u8)) true],[(.arr 8 .u8)]⟩],Zk (Yx fuel) fuel⟩
theorem Zkg:ZgT.okA Try.prog 77 0:=ZV { still:=[2]} [] [] trivial
def XL(F:Nat)(a0:UInt64):Option ((List UInt8)):=
 (Zk (Yx F) F (a0,8,0,[0,0,0,0,0,0,0,0])).bind λo237=>
 some ((o237.drop 0).take 8)
def Zo8(F:Nat):Fs Try.prog:=⟨77,[.v .u64],[],[.u64],[⟨.ret,[(0,.v (.sl .u8))],[],[(.sl .u8)]⟩],λx=>XL F x⟩
def Zej:Fs Try.prog:=Zo8 fuel
theorem ZgU:Zej.Ok:=fnO { still:=[2]} [(0,ZgT)] [] trivial ⟨Zkg,ytt⟩
def ZA8:ByteArray:=⟨#[115,105,103]⟩
def YP(F:Nat)(a0:UInt64)(a1:UInt64)(a2:(List UInt8)):Option (UInt64):=
 (XL F a0).bind λo238=>
 (XL F a1).bind λo239=>
 (Wa F ZA8 [o238,o239,a2]).bind λo240=>
 (XK F o240).bind λo241=>
 some o241
def Zi7(F:Nat):Fs Try.prog:=⟨82,[.v .u64,.v .u64,.v (.arr 32 .u8)],[],[.u64,.u64,(.arr 32 .u8)],[⟨.ret,[(0,.v .u64)],[],[.u64]⟩],λx=>YP F x.1 x.2.1 x.2.2⟩
def QA:Fs Try.prog:=Zi7 fuel
def ZF7:HI:={ still:=[6,7,9,12,13],frz:=[11]}
theorem ZcK:QA.Ok:=fnO ZF7 [] [Zej,ZbM,Za9] ⟨ZgU,ZcH,Zdb,ytt⟩
def Zek(F:Nat)(a0:UInt64):Option (UInt64):=
 (WN F a0).bind λo242=>
 (WK F o242 2305843009213688668).bind λo243=>
 some o243
def Zr3(F:Nat):Fs Try.prog:=⟨83,[.v .u64],[],[.u64],[⟨.ret,[(0,.v .u64)],[],[.u64]⟩],λx=>Zek F x⟩
def Zk6:Fs Try.prog:=Zr3 fuel
theorem Zr4:Zk6.Ok:=fnO { still:=[2,3,4]} [] [QV,QN] ⟨ZbO,ZbG,ytt⟩
def V1(F:Nat)(a0:UInt64)(a1:(List UInt8))(a2:UInt64)(a3:Sig):Option (Bool):=
 if(a0==1)=true then
  some false
 else
 (YU F a0).bind λo244=>
 if(!o244)=true then
  some false
 else
 (YU F a2).bind λo245=>
 if(!o245)=true then
  some false
 else
 (YU F a3.1).bind λo246=>
 if(!o246)=true then
  some false
 else
 (WO F a3.2).bind λo247=>
 if(!o247)=true then
  some false
 else
 (YP F a3.1 a0 a1).bind λo248=>
 (V0 F a0 o248).bind λo249=>
 (Zek F a2).bind λo250=>
 (ZbP F [a3.1,o249,o250]).bind λo251=>
 (YZ F a3.2).bind λo252=>
 some (o252==o251)
def Zn3(F:Nat):Fs Try.prog:=⟨53,[.v .u64,.v (.arr 32 .u8),.v .u64,.v Zu],[],[.u64,(.arr 32 .u8),.u64,Zu],[⟨.ret,[(0,.v .bool)],[],[.bool]⟩],λx=>V1 F x.1 x.2.1 x.2.2.1 x.2.2.2⟩
def ZgV:Fs Try.prog:=Zn3 fuel
def ZF8:HI:={ still:=[8,13,18,24,30,36,38,39,40,41,43,45,48]}
theorem Zn4:ZgV.Ok:=fnO ZF8 [] [W2,Zda,QA,Zc9,Zk6,ZfH,XU] ⟨VR,ZfI,ZcK,ZfG,Zr4,Zi6,Wb,ytt⟩
def Ye(F:Nat)(a0:UInt64)(a1:(List UInt8))(a2:Sig):Option (Bool):=
 (V1 F a0 a1 1 a2).bind λo253=>
 some o253
def Zn5(F:Nat):Fs Try.prog:=⟨28,[.v .u64,.v (.arr 32 .u8),.v Zu],[],[.u64,(.arr 32 .u8),Zu],[⟨.ret,[(0,.v .bool)],[],[.bool]⟩],λx=>Ye F x.1 x.2.1 x.2.2⟩
def QX:Fs Try.prog:=Zn5 fuel
theorem ZbQ:QX.Ok:=fnO { still:=[6,7,8,9]} [] [ZgV] ⟨Zn4,ytt⟩
def Zdc(F:Nat)(s:((List UInt64)×Int×Int×Wh×Zed×(List UInt8)×ZW)):Option (((List UInt64)×Int×Int×Wh×Zed×(List UInt8)×ZW)⊕((Int×Wh×Zed×(List UInt8)×ZW)⊕(Wh×Zed×(List UInt8)×ZW))):=
 if(decide (s.2.2.1 < s.2.1))=true then
  (idx s.1 s.2.2.1).bind λe257=>
  (idx s.2.2.2.2.1.2.1 s.2.2.1).bind λe258=>
  (Ye F e257 s.2.2.2.2.2.1 e258).bind λo259=>
  if(!o259)=true then
   some (.inr (.inl (7,s.2.2.2.1,s.2.2.2.2.1,s.2.2.2.2.2.1,s.2.2.2.2.2.2)))
  else
  some (.inl (s.1,s.2.1,wi (s.2.2.1+1),s.2.2.2.1,s.2.2.2.2.1,s.2.2.2.2.2.1,s.2.2.2.2.2.2))
 else
 some (.inr (.inr (s.2.2.2.1,s.2.2.2.2.1,s.2.2.2.2.2.1,s.2.2.2.2.2.2)))
def Zi8:Lp:=⟨[(6,.ref 1 []),(7,.ref 2 []),(68,.v (.sl .u64)),(69,.v yI),(70,.v yI)],[.var (.v Yu) true,.var (.v Wy) true,.var (.v (.arr 32 .u8)) true,.var (.v ZF) true],[(.sl .u64),yI,yI,Yu,Wy,(.arr 32 .u8),ZF],[⟨.ret,[(10,.v yI)],[.var (.v Yu) true,.var (.v Wy) true,.var (.v (.arr 32 .u8)) true,.var (.v ZF) true],[yI,Yu,Wy,(.arr 32 .u8),ZF]⟩,⟨.exit 1,[],[.var (.v Yu) true,.var (.v Wy) true,.var (.v (.arr 32 .u8)) true,.var (.v ZF) true],[Yu,Wy,(.arr 32 .u8),ZF]⟩],Zk (Zdc fuel) fuel⟩
theorem ZlA:Zi8.okA Try.prog 62 0:=ZV { still:=[10,14,53,75,76,81]} [] [QX] ⟨ZbQ,ytt⟩
def Zn6(F:Nat)(a0:Wh)(a1:Zed)(a2:(List UInt8))(a3:Int)(a4:Int):Option (Int):=
 (Wx F a0).bind λo254=>
 if(!o254)=true then
  some 1
 else
 if(decide (a1.1 < 0))=true then
  some 1
 else
 if(decide (a1.1 ≥ (a0.length:Int)))=true then
  some 1
 else
 (idx a0 a1.1).bind λe255=>
 if(decide (a3 < e255.2.1))=true then
  some 11
 else
 if(decide (a4 < e255.2.2.1))=true then
  some 11
 else
 if(e255.2.2.2 !=0)=true then
  (YZ F a1.2.2).bind λo256=>
  if(o256 !=e255.2.2.2)=true then
   some 23
  else
  if((a1.2.1.length:Int)!=(e255.1.length:Int))=true then
   some 7
  else
  (Zk (Zdc F) F (e255.1,(e255.1.length:Int),0,a0,a1,a2,e255)).bind λo260=>
  match o260 with
  |.inl o261=>
   some o261.1
  |.inr o262=>
   some 0
 else
 if((a1.2.1.length:Int)!=(e255.1.length:Int))=true then
  some 7
 else
 (Zk (Zdc F) F (e255.1,(e255.1.length:Int),0,a0,a1,a2,e255)).bind λo263=>
 match o263 with
 |.inl o264=>
  some o264.1
 |.inr o265=>
  some 0
def Zr5(F:Nat):Fs Try.prog:=⟨62,[.v Yu,.v Wy,.v (.arr 32 .u8),.v yI,.v yI],[],[Yu,Wy,(.arr 32 .u8),yI,yI],[⟨.ret,[(0,.v yI)],[],[yI]⟩],λx=>Zn6 F x.1 x.2.1 x.2.2.1 x.2.2.2.1 x.2.2.2.2⟩
def Zk7:Fs Try.prog:=Zr5 fuel
theorem Zr6:Zk7.Ok:=fnO { still:=[10,14,53,75,76,81]} [(0,Zi8)] [VU,XU] ⟨QP,Wb,ytt⟩ ⟨ZlA,ytt⟩
def ZgW(F:Nat)(s:((List In)×Int×Int×Tx×(List Ze))):Option (((List In)×Int×Int×Tx×(List Ze))⊕(Tx×(List Ze))):=
 if(decide (s.2.2.1 < s.2.1))=true then
  (idx s.1 s.2.2.1).bind λe267=>
  if(apB s.2.2.2.2.length 1 40)=true then
   some (.inl (s.1,s.2.1,wi (s.2.2.1+1),s.2.2.2.1,s.2.2.2.2++([e267.1]:List Ze)))
  else
  none
 else
 some (.inr (s.2.2.2.1,s.2.2.2.2))
def Zi9:Lp:=⟨[(2,.own 1 Zb),(9,.v (.sl yIn)),(10,.v yI),(11,.v yI)],[.var (.v yTx) true,.log Zb 34],[(.sl yIn),yI,yI,yTx,(.sl Zb)],[⟨.exit 0,[(2,.own 1 Zb)],[.var (.v yTx) true,.log Zb 34],[yTx,(.sl Zb)]⟩],Zk (ZgW fuel) fuel⟩
def ZFz:HI:={ own:=[2,15,19,21],still:=[2,5]}
theorem ZlB:Zi9.okA Try.prog 34 0:=ZV ZFz [] [] trivial
def Zn7(F:Nat)(a0:Tx):Option ((List Ze)):=
 (Qw F a0).bind λo266=>
 if(!o266)=true then
  some []
 else
 (Zk (ZgW F) F (a0.1,(a0.1.length:Int),0,a0,[])).bind λo268=>
 some o268.2
def Zr7(F:Nat):Fs Try.prog:=⟨34,[.v yTx],[],[yTx],[⟨.ret,[(0,.v (.sl Zb))],[],[(.sl Zb)]⟩],λx=>Zn7 F x⟩
def Zk8:Fs Try.prog:=Zr7 fuel
theorem Zr8:Zk8.Ok:=fnO ZFz [(0,Zi9)] [ZbJ] ⟨ZcC,ytt⟩ ⟨ZlB,ytt⟩
abbrev dT0:Type:=(Int×Int×(List In)×Int×Int×(List (Ze×Qv))×(List ZG)×Tx×(List UInt8))
def ZaI(F:Nat)(s:dT0):Option (dT0⊕((Int×Int×(List (Ze×Qv))×(List ZG)×Tx×(List UInt8))⊕(Int×(List (Ze×Qv))×(List ZG)×Tx×(List UInt8)))):=
 if(decide (s.2.2.2.2.1 < s.2.2.2.1))=true then
  (idx s.2.2.1 s.2.2.2.2.1).bind λe271=>
  ZgB (Zd1 s.2.2.2.2.2.1 e271.1) (λe272=>
   (Zn6 F e272.1.2 e271.2 s.2.2.2.2.2.2.2.2 s.1 (wi (s.1 - e272.2))).bind λo273=>
   if(o273 !=0)=true then
    some (.inr (.inl (0,o273,s.2.2.2.2.2.1,s.2.2.2.2.2.2.1,s.2.2.2.2.2.2.2.1,s.2.2.2.2.2.2.2.2)))
   else
   some (.inl (s.1,wi (s.2.1+e272.1.1),s.2.2.1,s.2.2.2.1,wi (s.2.2.2.2.1+1),s.2.2.2.2.2.1,s.2.2.2.2.2.2.1,s.2.2.2.2.2.2.2.1,s.2.2.2.2.2.2.2.2))) (
   some (.inr (.inl (0,5,s.2.2.2.2.2.1,s.2.2.2.2.2.2.1,s.2.2.2.2.2.2.2.1,s.2.2.2.2.2.2.2.2))))
 else
 some (.inr (.inr (s.2.1,s.2.2.2.2.2.1,s.2.2.2.2.2.2.1,s.2.2.2.2.2.2.2.1,s.2.2.2.2.2.2.2.2)))
abbrev tL1:List Ty:=[yI,yI,(.sl yIn),yI,yI,(YT Zb Yl),(.sl Zg),yTx,(.arr 32 .u8)]
def ZbR:Lp:=⟨[(0,.ref 0 []),(2,.v yI),(4,.ref 3 []),(8,.ref 4 []),(9,.v yI),(35,.v (.sl yIn)),(36,.v yI),(37,.v yI)],[.var (.agg [.mp 1,.own 2 Zg]) true,.map 104 Zb Yl,.log Zg 101,.var (.v yTx) true,.var (.v (.arr 32 .u8)) true],tL1,[⟨.ret,[(6,.v yI),(7,.v yI)],[.var (.agg [.mp 1,.own 2 Zg]) true,.map 104 Zb Yl,.log Zg 101,.var (.v yTx) true,.var (.v (.arr 32 .u8)) true],[yI,yI,(YT Zb Yl),(.sl Zg),yTx,(.arr 32 .u8)]⟩,⟨.exit 0,[(0,.ref 0 []),(4,.ref 3 []),(9,.v yI)],[.var (.agg [.mp 1,.own 2 Zg]) true,.map 104 Zb Yl,.log Zg 101,.var (.v yTx) true,.var (.v (.arr 32 .u8)) true],[yI,(YT Zb Yl),(.sl Zg),yTx,(.arr 32 .u8)]⟩],Zk (ZaI fuel) fuel⟩
def ZCU:HI:={ still:=[6,7,21,32,55,57,58,59,63,74]}
theorem ZeW:ZbR.okA Try.prog 32 0:=ZV ZCU [] [Zk7] ⟨Zr6,ytt⟩
abbrev dT1:Type:=(Int×(List Ze)×Int×Int×(List (Ze×Qv))×(List ZG)×Tx×(List UInt8))
def ZaJ(F:Nat)(s:dT1):Option (dT1⊕((Int×Int×(List (Ze×Qv))×(List ZG)×Tx×(List UInt8))⊕(Int×(List (Ze×Qv))×(List ZG)×Tx×(List UInt8)))):=
 if(decide (s.2.2.2.1 < s.2.2.1))=true then
  (idx s.2.1 s.2.2.2.1).bind λe278=>
  ZgB (Zd1 s.2.2.2.2.1 e278) (λe279=>
   some (.inr (.inl (0,4,s.2.2.2.2.1,s.2.2.2.2.2.1,s.2.2.2.2.2.2.1,s.2.2.2.2.2.2.2)))) (
   some (.inl (s.1,s.2.1,s.2.2.1,wi (s.2.2.2.1+1),s.2.2.2.2.1,s.2.2.2.2.2.1,s.2.2.2.2.2.2.1,s.2.2.2.2.2.2.2)))
 else
 some (.inr (.inr (s.1,s.2.2.2.2.1,s.2.2.2.2.2.1,s.2.2.2.2.2.2.1,s.2.2.2.2.2.2.2)))
abbrev tL2:List Ty:=[yI,(.sl Zb),yI,yI,(YT Zb Yl),(.sl Zg),yTx,(.arr 32 .u8)]
def ZbS:Lp:=⟨[(0,.ref 0 []),(4,.ref 3 []),(9,.v yI),(75,.v (.sl Zb)),(76,.v yI),(77,.v yI)],[.var (.agg [.mp 1,.own 2 Zg]) true,.map 104 Zb Yl,.log Zg 101,.var (.v yTx) true,.var (.v (.arr 32 .u8)) true],tL2,[⟨.ret,[(6,.v yI),(7,.v yI)],[.var (.agg [.mp 1,.own 2 Zg]) true,.map 104 Zb Yl,.log Zg 101,.var (.v yTx) true,.var (.v (.arr 32 .u8)) true],[yI,yI,(YT Zb Yl),(.sl Zg),yTx,(.arr 32 .u8)]⟩,⟨.exit 2,[(4,.ref 3 []),(9,.v yI)],[.var (.agg [.mp 1,.own 2 Zg]) true,.map 104 Zb Yl,.log Zg 101,.var (.v yTx) true,.var (.v (.arr 32 .u8)) true],[yI,(YT Zb Yl),(.sl Zg),yTx,(.arr 32 .u8)]⟩],Zk (ZaJ fuel) fuel⟩
theorem ZeX:ZbS.okA Try.prog 32 1:=ZV ZCU [] [] trivial
def ZaK(F:Nat)(s:(Int×(List Out)×Int×Int×(List (Ze×Qv))×(List ZG)×Tx×(List UInt8))):Option ((Int×(List Out)×Int×Int×(List (Ze×Qv))×(List ZG)×Tx×(List UInt8))⊕(Int×(List (Ze×Qv))×(List ZG)×Tx×(List UInt8))):=
 if(decide (s.2.2.2.1 < s.2.2.1))=true then
  (idx s.2.1 s.2.2.2.1).bind λe283=>
  some (.inl (wi (s.1 - e283.1),s.2.1,s.2.2.1,wi (s.2.2.2.1+1),s.2.2.2.2.1,s.2.2.2.2.2.1,s.2.2.2.2.2.2.1,s.2.2.2.2.2.2.2))
 else
 some (.inr (s.1,s.2.2.2.2.1,s.2.2.2.2.2.1,s.2.2.2.2.2.2.1,s.2.2.2.2.2.2.2))
abbrev tL3:List Ty:=[yI,(.sl Zr),yI,yI,(YT Zb Yl),(.sl Zg),yTx,(.arr 32 .u8)]
def ZbT:Lp:=⟨[(9,.v yI),(93,.v (.sl Zr)),(94,.v yI),(95,.v yI)],[.var (.agg [.mp 1,.own 2 Zg]) true,.map 104 Zb Yl,.log Zg 101,.var (.v yTx) true,.var (.v (.arr 32 .u8)) true],tL3,[⟨.exit 4,[(9,.v yI)],[.var (.agg [.mp 1,.own 2 Zg]) true,.map 104 Zb Yl,.log Zg 101,.var (.v yTx) true,.var (.v (.arr 32 .u8)) true],[yI,(YT Zb Yl),(.sl Zg),yTx,(.arr 32 .u8)]⟩],Zk (ZaK fuel) fuel⟩
theorem ZeY:ZbT.okA Try.prog 32 2:=ZV ZCU [] [] trivial
def ZdE(F:Nat)(a1:Tx)(a2:Int)(s1:(List (Ze×Qv)))(s2:(List ZG)):Option ((Int×Int×(List (Ze×Qv))×(List ZG))):=
 (Qw F a1).bind λo269=>
 if(!o269)=true then
  some (0,1,s1,s2)
 else
 if(decide (a2 < 1))=true then
  some (0,1,s1,s2)
 else
 if(decide (a2 > 1048576))=true then
  some (0,1,s1,s2)
 else
 (YC F a1).bind λo270=>
 (Zk (ZaI F) F (a2,0,a1.1,(a1.1.length:Int),0,s1,s2,a1,o270)).bind λo274=>
 match o274 with
 |.inl o275=>
  some (o275.1,o275.2.1,o275.2.2.1,o275.2.2.2.1)
 |.inr o276=>
  (ZnY F o276.2.2.2.1).bind λo277=>
  (Zk (ZaJ F) F (o276.1,o277,(o277.length:Int),0,o276.2.1,o276.2.2.1,o276.2.2.2.1,o276.2.2.2.2)).bind λo280=>
  match o280 with
  |.inl o281=>
   some (o281.1,o281.2.1,o281.2.2.1,o281.2.2.2.1)
  |.inr o282=>
   (Zk (ZaK F) F (o282.1,o282.2.2.2.1.2.1,(o282.2.2.2.1.2.1.length:Int),0,o282.2.1,o282.2.2.1,o282.2.2.2.1,o282.2.2.2.2)).bind λo284=>
   if(decide (o284.1 < 0))=true then
    some (0,8,o284.2.1,o284.2.2.1)
   else
   some (o284.1,0,o284.2.1,o284.2.2.1)
def ZhA(F:Nat):Fs Try.prog:=⟨32,[.ref 0 [],.v yTx,.v yI],[.var (.agg [.mp 1,.own 2 Zg]) true,.map 104 Zb Yl,.log Zg 101],[yTx,yI,(YT Zb Yl),(.sl Zg)],[⟨.ret,[(0,.tup [.v yI,.v yI])],[.var (.agg [.mp 1,.own 2 Zg]) true,.map 104 Zb Yl,.log Zg 101],[yI,yI,(YT Zb Yl),(.sl Zg)]⟩],λx=>ZdE F x.1 x.2.1 x.2.2.1 x.2.2.2⟩
def ZcL:Fs Try.prog:=ZhA fuel
theorem ZhB:ZcL.Ok:=fnO ZCU [(0,ZbR),(1,ZbS),(2,ZbT)] [ZbJ,Za8,Zke] ⟨ZcC,Zae,ZnZ,ytt⟩ ⟨ZeW,ZeX,ZeY,ytt⟩
abbrev dT2:Type:=(Int×(List Ze)×Int×Int×(List (Ze×Qv))×(List ZG)×Tx×(List Ze)×(List XB))
def ZaL(F:Nat)(s:dT2):Option (dT2⊕(Int×(List (Ze×Qv))×(List ZG)×Tx×(List Ze)×(List XB))):=
 if(decide (s.2.2.2.1 < s.2.2.1))=true then
  (idx s.2.1 s.2.2.2.1).bind λe288=>
  ZgB (Zd1 s.2.2.2.2.1 e288) (λe289=>
   if(apB s.2.2.2.2.2.2.2.2.length 1 80)=true then
    let y290:(List XB):=s.2.2.2.2.2.2.2.2++([(e288,e289)]:List XB)
    some (.inl (s.1,s.2.1,s.2.2.1,wi (s.2.2.2.1+1),ZsT s.2.2.2.2.1 e288,s.2.2.2.2.2.1,s.2.2.2.2.2.2.1,s.2.2.2.2.2.2.2.1,y290))
   else
   none) (
   if(apB s.2.2.2.2.2.2.2.2.length 1 80)=true then
    let y291:(List XB):=s.2.2.2.2.2.2.2.2++([(e288,((0,[]),0))]:List XB)
    some (.inl (s.1,s.2.1,s.2.2.1,wi (s.2.2.2.1+1),ZsT s.2.2.2.2.1 e288,s.2.2.2.2.2.1,s.2.2.2.2.2.2.1,s.2.2.2.2.2.2.2.1,y291))
   else
   none)
 else
 some (.inr (s.1,s.2.2.2.2.1,s.2.2.2.2.2.1,s.2.2.2.2.2.2.1,s.2.2.2.2.2.2.2.1,s.2.2.2.2.2.2.2.2))
def ZCV:List ESh:=[.var (.agg [.mp 1,.own 2 Zg]) true,.map 104 Zb Yl,.log Zg 101,.var (.v yTx) true,.var (.agg [.own 5 Ve,.v (.sl Zb)]) true,.log Ve 109]
abbrev tL4:List Ty:=[yI,(.sl Zb),yI,yI,(YT Zb Yl),(.sl Zg),yTx,(.sl Zb),(.sl Ve)]
def ZbU:Lp:=⟨[(0,.ref 0 []),(2,.v yI),(4,.ref 3 []),(9,.ref 4 []),(28,.v (.sl Zb)),(29,.v yI),(30,.v yI)],ZCV,tL4,[⟨.exit 0,[(0,.ref 0 []),(2,.v yI),(4,.ref 3 []),(9,.ref 4 [])],ZCV,[yI,(YT Zb Yl),(.sl Zg),yTx,(.sl Zb),(.sl Ve)]⟩],Zk (ZaL fuel) fuel⟩
def ZEM:HI:={ own:=[35,45,79,82],still:=[6,15,16,17,24,27,70],gst:=[(9,[([0],Ve,109)])]}
theorem ZeZ:ZbU.okA Try.prog 11 0:=ZV ZEM [] [] trivial
def ZaM(F:Nat)(s:dT2):Option (dT2⊕((List (Ze×Qv))×(List ZG)×Tx×(List Ze)×(List XB))):=
 if(decide (s.2.2.2.1 < s.2.2.1))=true then
  (idx s.2.1 s.2.2.2.1).bind λe293=>
  (idx s.2.2.2.2.2.2.1.2.1 s.2.2.2.1).bind λe294=>
  (Zhv F e294).bind λo295=>
  some (.inl (s.1,s.2.1,s.2.2.1,wi (s.2.2.2.1+1),Zhf s.2.2.2.2.1 e293 (o295,s.1),s.2.2.2.2.2.1,s.2.2.2.2.2.2.1,s.2.2.2.2.2.2.2.1,s.2.2.2.2.2.2.2.2))
 else
 some (.inr (s.2.2.2.2.1,s.2.2.2.2.2.1,s.2.2.2.2.2.2.1,s.2.2.2.2.2.2.2.1,s.2.2.2.2.2.2.2.2))
def ZbV:Lp:=⟨[(0,.ref 0 []),(2,.v yI),(4,.ref 3 []),(9,.ref 4 []),(54,.v (.sl Zb)),(55,.v yI),(56,.v yI)],ZCV,tL4,[⟨.exit 2,[(0,.ref 0 []),(9,.ref 4 [])],ZCV,[(YT Zb Yl),(.sl Zg),yTx,(.sl Zb),(.sl Ve)]⟩],Zk (ZaM fuel) fuel⟩
theorem Ze0:ZbV.okA Try.prog 11 1:=ZV ZEM [] [Zfo] ⟨ZiM,ytt⟩
def Zkh(F:Nat)(a1:Tx)(a2:Int)(s1:(List (Ze×Qv)))(s2:(List ZG)):Option ((Int×(List (Ze×Qv))×(List ZG))):=
 (ZdE F a1 a2 s1 s2).bind λo285=>
 if(o285.2.1 !=0)=true then
  some (o285.2.1,o285.2.2.1,o285.2.2.2)
 else
 (ZnY F a1).bind λo286=>
 (Zn7 F a1).bind λo287=>
 (Zk (ZaL F) F (a2,o287,(o287.length:Int),0,o285.2.2.1,o285.2.2.2,a1,o286,[])).bind λo292=>
 (Zk (ZaM F) F (o292.1,o292.2.2.2.2.1,(o292.2.2.2.2.1.length:Int),0,o292.2.1,o292.2.2.1,o292.2.2.2.1,o292.2.2.2.2.1,o292.2.2.2.2.2)).bind λo296=>
 if(apB o296.2.1.length 1 48)=true then
  let y297:(List ZG):=o296.2.1++([(o296.2.2.2.2,o296.2.2.2.1)]:List ZG)
  some (0,o296.1,y297)
 else
 none
def Vh(F:Nat):Fs Try.prog:=⟨11,[.ref 0 [],.v yTx,.v yI],[.var (.agg [.mp 1,.own 2 Zg]) true,.map 104 Zb Yl,.log Zg 101],[yTx,yI,(YT Zb Yl),(.sl Zg)],[⟨.ret,[(0,.v yI)],[.var (.agg [.mp 1,.own 2 Zg]) true,.map 104 Zb Yl,.log Zg 101],[yI,(YT Zb Yl),(.sl Zg)]⟩],λx=>Zkh F x.1 x.2.1 x.2.2.1 x.2.2.2⟩
def Zja:Fs Try.prog:=Vh fuel
theorem ZhC:Zja.Ok:=fnO ZEM [(0,ZbU),(1,ZbV)] [ZcL,Zke,Zk8] ⟨ZhB,ZnZ,Zr8,ytt⟩ ⟨ZeZ,Ze0,ytt⟩
def ZD(F:Nat)(a0:Int)(a1:Int)(a2:Int):Option (Bool):=
 if(decide (a0 ≥ a1))=true then
  some (decide (a0≤a2))
 else
 some false
def Zjb(F:Nat):Fs Try.prog:=⟨37,[.v yI,.v yI,.v yI],[],[yI,yI,yI],[⟨.ret,[(0,.v .bool)],[],[.bool]⟩],λx=>ZD F x.1 x.2.1 x.2.2⟩
def Ym:Fs Try.prog:=Zjb fuel
theorem Yy:Ym.Ok:=fnO { still:=[6]} [] [] trivial
def Wc(F:Nat)(a0:UInt64):Option (Bool):=
 (YU F a0).bind λo298=>
 if o298=true then
  some (a0 !=1)
 else
 some false
def ZlC(F:Nat):Fs Try.prog:=⟨65,[.v .u64],[],[.u64],[⟨.ret,[(0,.v .bool)],[],[.bool]⟩],λx=>Wc F x⟩
def ZbW:Fs Try.prog:=ZlC fuel
theorem ZeD:ZbW.Ok:=fnO { still:=[2,3]} [] [W2] ⟨VR,ytt⟩
abbrev Zc:Ty:=(.st [Zb,yI,(.sl .u64),yI,yI])
abbrev FactoryPlan:Type:=(Ze×Int×(List UInt64)×Int×Int)
def YM(F:Nat)(s:((List UInt64)×Int×Int×FactoryPlan×(List (UInt64×Bool)))):Option (((List UInt64)×Int×Int×FactoryPlan×(List (UInt64×Bool)))⊕((Bool×FactoryPlan×(List (UInt64×Bool)))⊕(FactoryPlan×(List (UInt64×Bool))))):=
 if(decide (s.2.2.1 < s.2.1))=true then
  (idx s.1 s.2.2.1).bind λe299=>
  (Wc F e299).bind λo300=>
  if(!o300)=true then
   some (.inr (.inl (false,s.2.2.2.1,s.2.2.2.2)))
  else
  ZgB (Zd1 s.2.2.2.2 e299) (λe301=>
   if e301=true then
    some (.inr (.inl (false,s.2.2.2.1,s.2.2.2.2)))
   else
   some (.inl (s.1,s.2.1,wi (s.2.2.1+1),s.2.2.2.1,Zhf s.2.2.2.2 e299 true))) (
   some (.inl (s.1,s.2.1,wi (s.2.2.1+1),s.2.2.2.1,Zhf s.2.2.2.2 e299 true)))
 else
 some (.inr (.inr (s.2.2.2.1,s.2.2.2.2)))
def ZdF:Lp:=⟨[(1,.ref 0 []),(3,.mp 1),(8,.v (.sl .u64)),(9,.v yI),(10,.v yI)],[.var (.v Zc) true,.map 144 .u64 .bool],[(.sl .u64),yI,yI,Zc,(YT .u64 .bool)],[⟨.ret,[(2,.v .bool)],[.var (.v Zc) true,.map 144 .u64 .bool],[.bool,Zc,(YT .u64 .bool)]⟩,⟨.exit 0,[(1,.ref 0 [])],[.var (.v Zc) true,.map 144 .u64 .bool],[Zc,(YT .u64 .bool)]⟩],Zk (YM fuel) fuel⟩
def ZFA:HI:={ still:=[2,14,27,32,37,42,47,51]}
theorem Zgs:ZdF.okA Try.prog 36 0:=ZV ZFA [] [ZbW] ⟨ZeD,ytt⟩
def YJ(F:Nat)(a0:FactoryPlan):Option (Bool):=
 (Zk (YM F) F (a0.2.2.1,(a0.2.2.1.length:Int),0,a0,([]:List (UInt64×Bool)))).bind λo302=>
 match o302 with
 |.inl o303=>
  some o303.1
 |.inr o304=>
  (ZD F o304.1.1.2 0 63).bind λo305=>
  if o305=true then
   (ZD F (o304.1.2.2.1.length:Int) 2 12).bind λo306=>
   if o306=true then
    (ZD F o304.1.2.2.2.1 1 4096).bind λo307=>
    if o307=true then
     (ZD F o304.1.2.2.2.2 0 1125899906842624).bind λo308=>
     if o308=true then
      (ZD F o304.1.2.1 (wi ((wi (3*o304.1.2.2.2.2))+1)) 1125899906842624).bind λo309=>
      some o309
     else
     some false
    else
    some false
   else
   some false
  else
  some false
def Zki(F:Nat):Fs Try.prog:=⟨36,[.v Zc],[],[Zc],[⟨.ret,[(0,.v .bool)],[],[.bool]⟩],λx=>YJ F x⟩
def Xj:Fs Try.prog:=Zki fuel
theorem XC:Xj.Ok:=fnO ZFA [(0,ZdF)] [Ym] ⟨Yy,ytt⟩ ⟨Zgs,ytt⟩
def Zo9(F:Nat)(a0:FactoryPlan)(a1:Int)(a2:Int):Option ((Int×Int)):=
 (YJ F a0).bind λo310=>
 if(!o310)=true then
  some (0,0)
 else
 (ZD F a1 0 15).bind λo311=>
 if(!o311)=true then
  some (0,0)
 else
 let y312:Int:=wi ((wi (3 - (wi (yn a1 4))))*a0.2.2.2.1);let y313:Int:=wi ((wi (a2+y312))+(wi ((wi (3 - (yag a1 4)))*a0.2.2.2.1)))
 some (wi (a2+y312),y313)
def Zaw(F:Nat):Fs Try.prog:=⟨12,[.v Zc,.v yI,.v yI],[],[Zc,yI,yI],[⟨.ret,[(0,.tup [.v yI,.v yI])],[],[yI,yI]⟩],λx=>Zo9 F x.1 x.2.1 x.2.2⟩
def Zn8:Fs Try.prog:=Zaw fuel
theorem ZlD:Zn8.Ok:=fnO { still:=[6,7,9,13]} [] [Xj,Ym] ⟨XC,Yy,ytt⟩
def Zkj(F:Nat)(m:(List (Ze×Qv)))(l:(List ZG)):Option (Int×(List (Ze×Qv))×(List ZG)):=some (Zj1 m,m,l)
def Vi(F:Nat):Fs Try.prog:=⟨20,[.ref 0 []],[.var (.agg [.mp 1,.own 2 Zg]) true,.map 104 Zb Yl,.log Zg 101],[(YT Zb Yl),(.sl Zg)],[⟨.ret,[(0,.v yI)],[.var (.agg [.mp 1,.own 2 Zg]) true,.map 104 Zb Yl,.log Zg 101],[yI,(YT Zb Yl),(.sl Zg)]⟩],λx=>Zkj F x.1 x.2⟩
def Zjc:Fs Try.prog:=Vi fuel
theorem ZhD:Zjc.Ok:=ZEy Zb ZF Zg 104 101
def Z9(F:Nat)(s:((List UInt64)×Int×FactoryPlan×Ze×Int×Int×Int×(List UInt64))):Option (((List UInt64)×Int×FactoryPlan×Ze×Int×Int×Int×(List UInt64))⊕(FactoryPlan×Ze×Int×Int×Int×(List UInt64))):=
 if(decide (s.2.1 < (s.1.length:Int)))=true then
  (idx s.1 s.2.1).bind λe314=>
  (YZ F e314).bind λo315=>
  if(apB s.2.2.2.2.2.2.2.length 1 8)=true then
   some (.inl (s.1,wi (s.2.1+1),s.2.2.1,s.2.2.2.1,s.2.2.2.2.1,s.2.2.2.2.2.1,s.2.2.2.2.2.2.1,s.2.2.2.2.2.2.2++([o315]:List UInt64)))
  else
  none
 else
 some (.inr (s.2.2.1,s.2.2.2.1,s.2.2.2.2.1,s.2.2.2.2.2.1,s.2.2.2.2.2.2.1,s.2.2.2.2.2.2.2))
abbrev tL5:List Ty:=[(.sl .u64),yI,Zc,Zb,yI,yI,yI,(.sl .u64)]
def Zaf:Lp:=⟨[(0,.v (.sl .u64)),(8,.ref 0 []),(9,.ref 1 []),(10,.v yI)],[.var (.v Zc) true,.var (.agg [.v Zb,.v yI,.own 2 .u64,.v yI,.v yI]) true,.log .u64 27],tL5,[⟨.exit 0,[(8,.ref 0 []),(9,.ref 1 [])],[.var (.v Zc) true,.var (.agg [.v Zb,.v yI,.own 2 .u64,.v yI,.v yI]) true,.log .u64 27],[Zc,Zb,yI,yI,yI,(.sl .u64)]⟩],Zk (Z9 fuel) fuel⟩
def ZFB:HI:={ own:=[22,29],still:=[26],gst:=[(9,[([2],.u64,27)])]}
theorem ZdG:Zaf.okA Try.prog 6 0:=ZV ZFB [] [XU] ⟨Wb,ytt⟩
def XV(F:Nat)(a0:(List UInt64))(a1:Int)(a2:Int)(a3:Int):Option (FactoryPlan):=
 (Zk (Z9 F) F (a0,0,((yzz,0),0,[],0,0),(yzz,0),a1,a2,a3,[])).bind λo316=>
 some (o316.2.1,o316.2.2.1,o316.2.2.2.2.2,o316.2.2.2.1,o316.2.2.2.2.1)
def WE(F:Nat):Fs Try.prog:=⟨6,[.v (.sl .u64),.v yI,.v yI,.v yI],[],[(.sl .u64),yI,yI,yI],[⟨.ret,[(0,.v Zc)],[],[Zc]⟩],λx=>XV F x.1 x.2.1 x.2.2.1 x.2.2.2⟩
def ZaN:Fs Try.prog:=WE fuel
theorem Zag:ZaN.Ok:=fnO ZFB [(0,Zaf)] [] trivial ⟨ZdG,ytt⟩
abbrev Zl:Ty:=(.st [(.arr 2 yI),(.arr 2 .u64),yI])
abbrev FactorySub:Type:=((List Int)×(List UInt64)×Int)
def Y5(F:Nat)(s:((List FactorySub)×Int×(List FactorySub)×Int×Int×FactoryPlan)):Option (((List FactorySub)×Int×(List FactorySub)×Int×Int×FactoryPlan)⊕((Int×Bool×FactoryPlan)⊕((List FactorySub)×Int×FactoryPlan))):=
 if(decide (s.2.2.2.2.1 < s.2.2.2.1))=true then
  (idx s.2.2.1 s.2.2.2.2.1).bind λe317=>
  (e317.1[0]?).bind λe318=>
  (ZD F e318 0 (wi ((s.2.2.2.2.2.2.2.1.length:Int) - 1))).bind λo319=>
  if(!o319)=true then
   some (.inr (.inl (0,false,s.2.2.2.2.2)))
  else
  (e317.1[1]?).bind λe320=>
  (ZD F e320 0 (wi ((s.2.2.2.2.2.2.2.1.length:Int) - 1))).bind λo321=>
  if(!o321)=true then
   some (.inr (.inl (0,false,s.2.2.2.2.2)))
  else
  (e317.1[0]?).bind λe322=>
  (e317.1[1]?).bind λe323=>
  if(e322==e323)=true then
   some (.inr (.inl (0,false,s.2.2.2.2.2)))
  else
  (e317.2.1[0]?).bind λe324=>
  (Wc F e324).bind λo325=>
  if(!o325)=true then
   some (.inr (.inl (0,false,s.2.2.2.2.2)))
  else
  (e317.2.1[1]?).bind λe326=>
  (Wc F e326).bind λo327=>
  if(!o327)=true then
   some (.inr (.inl (0,false,s.2.2.2.2.2)))
  else
  (ZD F e317.2.2 1 1125899906842624).bind λo328=>
  if(!o328)=true then
   some (.inr (.inl (0,false,s.2.2.2.2.2)))
  else
  some (.inl (s.1,wi (s.2.1+e317.2.2),s.2.2.1,s.2.2.2.1,wi (s.2.2.2.2.1+1),s.2.2.2.2.2))
 else
 some (.inr (.inr (s.1,s.2.1,s.2.2.2.2.2)))
def ZeE:Lp:=⟨[(1,.v (.sl Zl)),(2,.ref 0 []),(6,.v yI),(9,.v (.sl Zl)),(10,.v yI),(11,.v yI)],[.var (.v Zc) true],[(.sl Zl),yI,(.sl Zl),yI,yI,Zc],[⟨.ret,[(4,.v yI),(5,.v .bool)],[.var (.v Zc) true],[yI,.bool,Zc]⟩,⟨.exit 0,[(1,.v (.sl Zl)),(6,.v yI)],[.var (.v Zc) true],[(.sl Zl),yI,Zc]⟩],Zk (Y5 fuel) fuel⟩
def ZFC:HI:={ still:=[4,5,17,21,27,31,47,54,60,71]}
theorem ZhE:ZeE.okA Try.prog 39 0:=ZV ZFC [] [Ym,ZbW] ⟨Yy,ZeD,ytt⟩
def Wd(F:Nat)(a0:FactoryPlan)(a1:(List FactorySub)):Option ((Int×Bool)):=
 (Zk (Y5 F) F (a1,0,a1,(a1.length:Int),0,a0)).bind λo329=>
 match o329 with
 |.inl o330=>
  some (o330.1,o330.2.1)
 |.inr o331=>
  (ZD F (o331.1.length:Int) 1 64).bind λo332=>
  some (o331.2.1,o332)
def ZlE(F:Nat):Fs Try.prog:=⟨39,[.v Zc,.v (.sl Zl)],[],[Zc,(.sl Zl)],[⟨.ret,[(0,.tup [.v yI,.v .bool])],[],[yI,.bool]⟩],λx=>Wd F x.1 x.2⟩
def ZbX:Fs Try.prog:=ZlE fuel
theorem ZeF:ZbX.Ok:=fnO ZFC [(0,ZeE)] [Ym] ⟨Yy,ytt⟩ ⟨ZhE,ytt⟩
def QY(F:Nat)(a0:Ze)(a1:Int)(a2:Int)(a3:(List Out)):Option (Tx):=
 some ([(a0,(a1,[],0))],a3,a2)
def ZlF(F:Nat):Fs Try.prog:=⟨40,[.v Zb,.v yI,.v yI,.v (.sl Zr)],[],[Zb,yI,yI,(.sl Zr)],[⟨.ret,[(0,.v yTx)],[],[yTx]⟩],λx=>QY F x.1 x.2.1 x.2.2.1 x.2.2.2⟩
def ZfJ:Fs Try.prog:=ZlF fuel
theorem ZlG:ZfJ.Ok:=fnO {} [] [] trivial
def X1(F:Nat)(s:((List UInt8)×(List Int)×Int×Int)):Option (((List UInt8)×(List Int)×Int×Int)⊕(List UInt8)):=
 if(decide (s.2.2.2 < s.2.2.1))=true then
  (idx s.2.1 s.2.2.2).bind λe333=>
  (Y4 F s.1 e333).bind λo334=>
  some (.inl (o334,s.2.1,s.2.2.1,wi (s.2.2.2+1)))
 else
 some (.inr s.1)
def ZfK:Lp:=⟨[(3,.v (.sl .u8)),(6,.v (.sl yI)),(7,.v yI),(8,.v yI)],[],[(.sl .u8),(.sl yI),yI,yI],[⟨.exit 0,[(3,.v (.sl .u8))],[],[(.sl .u8)]⟩],Zk (X1 fuel) fuel⟩
theorem Zjd:ZfK.okA Try.prog 50 0:=ZV { still:=[2,12,13,17,18]} [] [Vg] ⟨Vu,ytt⟩
def ZDt:ByteArray:=⟨#[103,97,116,101]⟩
def V2(F:Nat)(a0:(List Int)):Option (UInt64):=
 (Zk (X1 F) F ([],a0,(a0.length:Int),0)).bind λo335=>
 (Wa F ZDt [o335]).bind λo336=>
 (XK F o336).bind λo337=>
 some o337
def Zn9(F:Nat):Fs Try.prog:=⟨50,[.v (.sl yI)],[],[(.sl yI)],[⟨.ret,[(0,.v .u64)],[],[.u64]⟩],λx=>V2 F x⟩
def Zdd:Fs Try.prog:=Zn9 fuel
theorem ZfL:Zdd.Ok:=fnO { still:=[2,12,13,17,18]} [(0,ZfK)] [ZbM,Za9] ⟨ZcH,Zdb,ytt⟩ ⟨Zjd,ytt⟩
def ZbY(F:Nat)(a0:UInt64)(a1:UInt64):Option (UInt64):=
 (ZbP F [a0,a1]).bind λo338=>
 some o338
def Zr9(F:Nat):Fs Try.prog:=⟨52,[.v .u64,.v .u64],[],[.u64,.u64],[⟨.ret,[(0,.v .u64)],[],[.u64]⟩],λx=>ZbY F x.1 x.2⟩
def ZfM:Fs Try.prog:=Zr9 fuel
theorem Zje:ZfM.Ok:=fnO { still:=[4,7]} [] [ZfH] ⟨Zi6,ytt⟩
def XD(F:Nat)(s:(UInt64×(List UInt64)×Int×Int×FactoryPlan×(List UInt64))):Option ((UInt64×(List UInt64)×Int×Int×FactoryPlan×(List UInt64))⊕(FactoryPlan×(List UInt64))):=
 if(decide (s.2.2.2.1 < s.2.2.1))=true then
  (idx s.2.1 s.2.2.2.1).bind λe341=>
  (ZbY F e341 s.1).bind λo342=>
  if(apB s.2.2.2.2.2.length 1 8)=true then
   some (.inl (s.1,s.2.1,s.2.2.1,wi (s.2.2.2.1+1),s.2.2.2.2.1,s.2.2.2.2.2++([o342]:List UInt64)))
  else
  none
 else
 some (.inr (s.2.2.2.2.1,s.2.2.2.2.2))
def ZeG:Lp:=⟨[(5,.v .u64),(6,.own 1 .u64),(13,.v (.sl .u64)),(14,.v yI),(15,.v yI)],[.var (.v Zc) true,.log .u64 27],[.u64,(.sl .u64),yI,yI,Zc,(.sl .u64)],[⟨.exit 0,[(6,.own 1 .u64)],[.var (.v Zc) true,.log .u64 27],[Zc,(.sl .u64)]⟩],Zk (XD fuel) fuel⟩
def ZFD:HI:={ own:=[6,19,24],still:=[4,9,10,20,21]}
theorem ZhF:ZeG.okA Try.prog 27 0:=ZV ZFD [] [ZfM] ⟨Zje,ytt⟩
def Y2(F:Nat)(a0:FactoryPlan)(a1:(List Int)):Option ((List UInt64)):=
 (V2 F a1).bind λo339=>
 (YZ F o339).bind λo340=>
 (Zk (XD F) F (o340,a0.2.2.1,(a0.2.2.1.length:Int),0,a0,[])).bind λo343=>
 some o343.2
def ZlH(F:Nat):Fs Try.prog:=⟨27,[.v Zc,.v (.sl yI)],[],[Zc,(.sl yI)],[⟨.ret,[(0,.v (.sl .u64))],[],[(.sl .u64)]⟩],λx=>Y2 F x.1 x.2⟩
def ZbZ:Fs Try.prog:=ZlH fuel
theorem ZeH:ZbZ.Ok:=fnO ZFD [(0,ZeG)] [Zdd,XU] ⟨ZfL,Wb,ytt⟩ ⟨ZhF,ytt⟩
def Yc(F:Nat)(a0:(List Int)):Option ((List Int)):=
 if(apB 0 a0.length 8)=true then
  some a0
 else
 none
def Zb0(F:Nat):Fs Try.prog:=⟨66,[.sl true yI],[],[(.sl yI)],[⟨.ret,[(0,.own 0 yI)],[.log yI 3],[(.sl yI)]⟩],λx=>Yc F x⟩
def Zcg:Fs Try.prog:=Zb0 fuel
theorem Zb1:Zcg.Ok:=fnO { own:=[2,5,7]} [] [] trivial
def W4(F:Nat):Option ((List Int)):=
 some []
def Zb2(F:Nat):Fs Try.prog:=⟨66,[.nil yI],[],[],[⟨.ret,[(0,.own 0 yI)],[.log yI 3],[(.sl yI)]⟩],λx=>W4 F⟩
def Zch:Fs Try.prog:=Zb2 fuel
theorem Zb3:Zch.Ok:=fnO { own:=[2,5,7]} [] [] trivial
def Zax(F:Nat):Fs Try.prog:=⟨66,[.v (.sl yI)],[],[(.sl yI)],[⟨.ret,[(0,.own 0 yI)],[.log yI 3],[(.sl yI)]⟩],λx=>Yc F x⟩
def Wn:Fs Try.prog:=Zax fuel
theorem Zay:Wn.Ok:=ZvK (t:=yI) (xs:=[⟨.ret,[(0,.own 0 yI)],[.log yI 3],[(.sl yI)]⟩]) (MA:=λ(x:(List Int))=>Yc fuel x) (MB:=λ_=>W4 fuel) Zb1 Zb3 rfl
def XE(F:Nat)(s:((List Int)×Int×FactoryPlan×Wh×(List ZW))):Option (((List Int)×Int×FactoryPlan×Wh×(List ZW))⊕(FactoryPlan×Wh×(List ZW))):=
 if(decide (s.2.1 < 4))=true then
  (Yc F s.1).bind λo344=>
  if(apB o344.length 1 8)=true then
   (Y2 F s.2.2.1 (o344++([s.2.1]:List Int))).bind λo345=>
   if(inB s.2.1 4)=true then
    (s.2.2.2.2[s.2.1.toNat]?).bind λe346=>
    let y347:(List ZW):=s.2.2.2.2.set s.2.1.toNat (o345,(0:Int),wi ((wi (3 - s.2.1))*s.2.2.1.2.2.2.1),(0:UInt64))
    some (.inl (s.1,wi (s.2.1+1),s.2.2.1,s.2.2.2.1,y347))
   else
   none
  else
  none
 else
 some (.inr (s.2.2.1,s.2.2.2.1,s.2.2.2.2))
def ZeI:Lp:=⟨[(1,.v (.sl yI)),(2,.ref 0 []),(4,.ref 1 []),(5,.ref 2 []),(7,.v yI)],[.var (.v Zc) true,.var (.v Yu) true,.var (.v (.arr 4 ZF)) true],[(.sl yI),yI,Zc,Yu,(.arr 4 ZF)],[⟨.exit 0,[(4,.ref 1 []),(5,.ref 2 [])],[.var (.v Zc) true,.var (.v Yu) true,.var (.v (.arr 4 ZF)) true],[Zc,Yu,(.arr 4 ZF)]⟩],Zk (XE fuel) fuel⟩
def ZFE:HI:={ own:=[13,16],still:=[11,12,16],frz:=[26]}
theorem ZhG:ZeI.okA Try.prog 41 0:=ZV ZFE [] [Wn,ZbZ] ⟨Zay,ZeH,ytt⟩
def Xx(F:Nat)(a0:FactoryPlan)(a1:(List Int)):Option (Wh):=
 (Zk (XE F) F (a1,0,a0,[],[([],0,0,0),([],0,0,0),([],0,0,0),([],0,0,0)])).bind λo348=>
 some o348.2.2
def ZlI(F:Nat):Fs Try.prog:=⟨41,[.v Zc,.v (.sl yI)],[],[Zc,(.sl yI)],[⟨.ret,[(0,.v Yu)],[],[Yu]⟩],λx=>Xx F x.1 x.2⟩
def Zb4:Fs Try.prog:=ZlI fuel
theorem ZeJ:Zb4.Ok:=fnO ZFE [(0,ZeI)] [] trivial ⟨ZhG,ytt⟩
def ZdH(F:Nat)(a0:(List UInt64)):Option (Wh):=
 (Qu F a0).bind λo349=>
 some [(o349,0,0,0)]
def Zue(F:Nat):Fs Try.prog:=⟨46,[.v (.sl .u64)],[],[(.sl .u64)],[⟨.ret,[(0,.v Yu)],[],[Yu]⟩],λx=>ZdH F x⟩
def ZhH:Fs Try.prog:=Zue fuel
theorem Zk9:ZhH.Ok:=fnO { still:=[3]} [] [Zc1] ⟨Zfn,ytt⟩
def Zb5(F:Nat)(a0:UInt64)(a1:UInt64):Option (Wh):=
 (ZdH F [a0,a1]).bind λo350=>
 some o350
def Zsa(F:Nat):Fs Try.prog:=⟨42,[.v .u64,.v .u64],[],[.u64,.u64],[⟨.ret,[(0,.v Yu)],[],[Yu]⟩],λx=>Zb5 F x.1 x.2⟩
def ZfN:Fs Try.prog:=Zsa fuel
theorem Zjf:ZfN.Ok:=fnO { still:=[7]} [] [ZhH] ⟨Zk9,ytt⟩
def QB(F:Nat)(a0:Ze)(a1:Int)(a2:Int):Option (((List In)×Int)):=
 some ([(a0,(a1,[],0))],a2)
def ZhI(F:Nat):Fs Try.prog:=⟨40,[.v Zb,.v yI,.v yI,.nil Zr],[],[Zb,yI,yI],[⟨.ret,[(0,.agg [.v (.sl yIn),.nil Zr,.v yI])],[],[(.sl yIn),yI]⟩],λx=>QB F x.1 x.2.1 x.2.2⟩
def ZcM:Fs Try.prog:=ZhI fuel
theorem ZhJ:ZcM.Ok:=fnO {} [] [] trivial
def X2(F:Nat)(s:((List FactorySub)×Int×Int×FactoryPlan×Tx×Tx×(List In)×Int×(List Out))):Option (((List FactorySub)×Int×Int×FactoryPlan×Tx×Tx×(List In)×Int×(List Out))⊕(FactoryPlan×Tx×Tx×(List In)×Int×(List Out))):=
 if(decide (s.2.2.1 < s.2.1))=true then
  (idx s.1 s.2.2.1).bind λe361=>
  (e361.2.1[0]?).bind λe362=>
  (e361.2.1[1]?).bind λe363=>
  (Zb5 F e362 e363).bind λo364=>
  if(apB s.2.2.2.2.2.2.2.2.length 1 32)=true then
   let y365:(List Out):=s.2.2.2.2.2.2.2.2++([(e361.2.2,o364)]:List Out)
   some (.inl (s.1,s.2.1,wi (s.2.2.1+1),s.2.2.2.1,s.2.2.2.2.1,s.2.2.2.2.2.1,s.2.2.2.2.2.2.1,s.2.2.2.2.2.2.2.1,y365))
  else
  none
 else
 some (.inr (s.2.2.2.1,s.2.2.2.2.1,s.2.2.2.2.2.1,s.2.2.2.2.2.2.1,s.2.2.2.2.2.2.2.1,s.2.2.2.2.2.2.2.2))
abbrev tL6:List Ty:=[(.sl Zl),yI,yI,Zc,yTx,yTx,(.sl yIn),yI,(.sl Zr)]
def ZfO:Lp:=⟨[(12,.ref 1 []),(13,.ref 2 []),(14,.ref 3 []),(84,.v (.sl Zl)),(85,.v yI),(86,.v yI)],[.var (.v Zc) true,.var (.v yTx) true,.var (.v yTx) true,.var (.agg [.v (.sl yIn),.own 4 Zr,.v yI]) true,.log Zr 73],tL6,[⟨.exit 1,[(12,.ref 1 []),(13,.ref 2 []),(14,.ref 3 [])],[.var (.v Zc) true,.var (.v yTx) true,.var (.v yTx) true,.var (.agg [.v (.sl yIn),.own 4 Zr,.v yI]) true,.log Zr 73],[Zc,yTx,yTx,(.sl yIn),yI,(.sl Zr)]⟩],Zk (X2 fuel) fuel⟩
def ZFF:HI:={ own:=[91,103],still:=[6,7,17,21,26,27,48,54,55,58,60,62,63,64,71,73,76,78,80,81,82,96,99],gst:=[(14,[([1],Zr,73)])]}
theorem Zjg:ZfO.okA Try.prog 16 0:=ZV ZFF [] [ZfN] ⟨Zjf,ytt⟩
def V3(F:Nat)(a0:FactoryPlan)(a1:Int)(a2:(List FactorySub)):Option (((List Tx)×Int)):=
 (YJ F a0).bind λo351=>
 if(!o351)=true then
  some ([],1)
 else
 (ZD F a1 0 15).bind λo352=>
 if(!o352)=true then
  some ([],1)
 else
 (Wd F a0 a2).bind λo353=>
 if(!o353.2)=true then
  some ([],1)
 else
 if(o353.1 !=(wi (a0.2.1 - (wi (3*a0.2.2.2.2)))))=true then
  some ([],8)
 else
 (Xx F a0 [1]).bind λo354=>
 (QY F a0.1 0 0 [(wi (a0.2.1 - a0.2.2.2.2),o354)]).bind λo355=>
 (YC F o355).bind λo356=>
 (Xx F a0 [2,wi (yn a1 4)]).bind λo357=>
 (QY F (o356,0) (wi (yn a1 4)) (wi (yn a1 4)) [(wi (a0.2.1 - (wi (2*a0.2.2.2.2))),o357)]).bind λo358=>
 (YC F o358).bind λo359=>
 (QB F (o359,0) (yag a1 4) a1).bind λo360=>
 (Zk (X2 F) F (a2,(a2.length:Int),0,a0,o355,o358,o360.1,o360.2,[])).bind λo366=>
 some ([o366.2.1,o366.2.2.1,(o366.2.2.2.1,o366.2.2.2.2.2,o366.2.2.2.2.1)],0)
def Zb6(F:Nat):Fs Try.prog:=⟨16,[.v Zc,.v yI,.v (.sl Zl)],[],[Zc,yI,(.sl Zl)],[⟨.ret,[(0,.tup [.v (.sl yTx),.v yI])],[],[(.sl yTx),yI]⟩],λx=>V3 F x.1 x.2.1 x.2.2⟩
def ZgX:Fs Try.prog:=Zb6 fuel
theorem ZfP:ZgX.Ok:=fnO ZFF [(0,ZfO)] [ZcM,Xj,Ym,ZbX,Zb4,ZfJ,Za8] ⟨ZhJ,XC,Yy,ZeF,ZeJ,ZlG,Zae,ytt⟩ ⟨Zjg,ytt⟩
def We(F:Nat)(a0:Int):Option ((List (List Int))):=
 some [[1,wi (yn a0 4)],[2,wi (yn a0 4),yag a0 4]]
def ZlJ(F:Nat):Fs Try.prog:=⟨26,[.v yI],[],[yI],[⟨.ret,[(0,.v (.arr 2 (.sl yI)))],[],[(.arr 2 (.sl yI))]⟩],λx=>We F x⟩
def Zb7:Fs Try.prog:=ZlJ fuel
theorem ZeK:Zb7.Ok:=fnO {} [] [] trivial
def Zgp(F:Nat)(a0:UInt64):Option (Bool):=
 (WO F a0).bind λo367=>
 if o367=true then
  some (a0 !=0)
 else
 some false
def Zuf(F:Nat):Fs Try.prog:=⟨74,[.v .u64],[],[.u64],[⟨.ret,[(0,.v .bool)],[],[.bool]⟩],λx=>Zgp F x⟩
def Zoa:Fs Try.prog:=Zuf fuel
theorem Zug:Zoa.Ok:=fnO { still:=[2,3]} [] [Zda] ⟨ZfI,ytt⟩
def QC(F:Nat)(a0:UInt64):Option (UInt64):=
 some (a0 % 2305843009213688669)
def Zuh(F:Nat):Fs Try.prog:=⟨78,[.v .u64],[],[.u64],[⟨.ret,[(0,.v .u64)],[],[.u64]⟩],λx=>QC F x⟩
def ZhK:Fs Try.prog:=Zuh fuel
theorem Zla:ZhK.Ok:=fnO { still:=[2]} [] [] trivial
def Zaz(F:Nat)(a0:UInt64)(a1:UInt64):Option (UInt64):=
 some ((a0+a1) % 2305843009213688669)
def Zjh(F:Nat):Fs Try.prog:=⟨79,[.v .u64,.v .u64],[],[.u64,.u64],[⟨.ret,[(0,.v .u64)],[],[.u64]⟩],λx=>Zaz F x.1 x.2⟩
def ZdI:Fs Try.prog:=Zjh fuel
theorem Zji:ZdI.Ok:=fnO { still:=[4]} [] [] trivial
def QD(F:Nat)(a0:UInt64)(a1:UInt64):Option (UInt64):=
 (QC F a0).bind λo368=>
 (QC F a1).bind λo369=>
 (Zaz F o368 o369).bind λo370=>
 some o370
def Zsb(F:Nat):Fs Try.prog:=⟨49,[.v .u64,.v .u64],[],[.u64,.u64],[⟨.ret,[(0,.v .u64)],[],[.u64]⟩],λx=>QD F x.1 x.2⟩
def ZcN:Fs Try.prog:=Zsb fuel
theorem Zel:ZcN.Ok:=fnO { still:=[4,5,6,7,8]} [] [ZhK,ZdI] ⟨Zla,Zji,ytt⟩
def QE(F:Nat)(a0:UInt64)(a1:UInt64):Option (UInt64):=
 (Q9 F a0 a1).bind λo371=>
 (YX F o371.1 o371.2 2305843009213688669).bind λo372=>
 some o372
def ZhL(F:Nat):Fs Try.prog:=⟨101,[.v .u64,.v .u64],[],[.u64,.u64],[⟨.ret,[(0,.v .u64)],[],[.u64]⟩],λx=>QE F x.1 x.2⟩
def ZcO:Fs Try.prog:=ZhL fuel
theorem ZhM:ZcO.Ok:=fnO { still:=[4,8,9,13,14]} [] [Zeb,ZaZ] ⟨ZgK,Zc2,ytt⟩
def Zem(F:Nat)(a0:UInt64)(a1:UInt64):Option (UInt64):=
 (QC F a0).bind λo373=>
 (QC F a1).bind λo374=>
 (QE F o373 o374).bind λo375=>
 some o375
def Zsc(F:Nat):Fs Try.prog:=⟨94,[.v .u64,.v .u64],[],[.u64,.u64],[⟨.ret,[(0,.v .u64)],[],[.u64]⟩],λx=>Zem F x.1 x.2⟩
def Zlb:Fs Try.prog:=Zsc fuel
theorem Zsd:Zlb.Ok:=fnO { still:=[4,5,6,7,8]} [] [ZhK,ZcO] ⟨Zla,ZhM,ytt⟩
def Zen(F:Nat)(a0:UInt64)(a1:UInt64)(a2:(List UInt8))(a3:UInt64):Option (Sig):=
 (YZ F a1).bind λo376=>
 (ZbY F o376 a3).bind λo377=>
 (YZ F a0).bind λo378=>
 (YP F o377 o378 a2).bind λo379=>
 (Zem F o379 a0).bind λo380=>
 (QD F a1 o380).bind λo381=>
 some (o377,o381)
def Zob(F:Nat):Fs Try.prog:=⟨75,[.v .u64,.v .u64,.v (.arr 32 .u8),.v .u64],[],[.u64,.u64,(.arr 32 .u8),.u64],[⟨.ret,[(0,.v Zu)],[],[Zu]⟩],λx=>Zen F x.1 x.2.1 x.2.2.1 x.2.2.2⟩
def ZgY:Fs Try.prog:=Zob fuel
def ZF9:HI:={ still:=[9,10,11,14,16,17,18,19,20,21,22]}
theorem Zoc:ZgY.Ok:=fnO ZF9 [] [XU,ZfM,QA,Zlb,ZcN] ⟨Wb,Zje,ZcK,Zsd,Zel,ytt⟩
def ZDu:ByteArray:=⟨#[110,111,110,99,101]⟩
def Vj(F:Nat)(a0:UInt64)(a1:(List UInt8)):Option (Sig):=
 (Zgp F a0).bind λo382=>
 if(!o382)=true then
  some (0,0)
 else
 (XL F a0).bind λo383=>
 (Wa F ZDu [o383,a1]).bind λo384=>
 (XK F o384).bind λo385=>
 (Zen F a0 o385 a1 1).bind λo386=>
 some o386
def Zse(F:Nat):Fs Try.prog:=⟨48,[.v .u64,.v (.arr 32 .u8)],[],[.u64,(.arr 32 .u8)],[⟨.ret,[(0,.v Zu)],[],[Zu]⟩],λx=>Vj F x.1 x.2⟩
def ZfQ:Fs Try.prog:=Zse fuel
def ZGa:HI:={ still:=[5,9,10,13,14,15,16],frz:=[12]}
theorem Zjj:ZfQ.Ok:=fnO ZGa [] [Zoa,Zej,ZbM,Za9,ZgY] ⟨Zug,ZgU,ZcH,Zdb,Zoc,ytt⟩
def XF(F:Nat)(s:(UInt64×(List Tx)×(List (List Int))×Int×FactoryPlan×(List Sig))):Option ((UInt64×(List Tx)×(List (List Int))×Int×FactoryPlan×(List Sig))⊕(FactoryPlan×(List Sig))):=
 if(decide (s.2.2.2.1 < 2))=true then
  (idx s.2.2.1 s.2.2.2.1).bind λe396=>
  (V2 F e396).bind λo397=>
  (QD F s.1 o397).bind λo398=>
  (idx s.2.1 (wi (s.2.2.2.1+1))).bind λe399=>
  (YC F e399).bind λo400=>
  (Vj F o398 o400).bind λo401=>
  if(apB s.2.2.2.2.2.length 1 16)=true then
   some (.inl (s.1,s.2.1,s.2.2.1,wi (s.2.2.2.1+1),s.2.2.2.2.1,s.2.2.2.2.2++([o401]:List Sig)))
  else
  none
 else
 some (.inr (s.2.2.2.2.1,s.2.2.2.2.2))
def ZeL:Lp:=⟨[(4,.v .u64),(12,.v (.sl yTx)),(14,.own 1 Zu),(54,.v (.arr 2 (.sl yI))),(55,.v yI)],[.var (.v Zc) true,.log Zu 62],[.u64,(.sl yTx),(.arr 2 (.sl yI)),yI,Zc,(.sl Zu)],[⟨.exit 1,[(14,.own 1 Zu)],[.var (.v Zc) true,.log Zu 62],[Zc,(.sl Zu)]⟩],Zk (XF fuel) fuel⟩
def ZFG:HI:={ own:=[14,52,59,72],still:=[10,11,18,19,20,29,33,37,45,46,49,50,53,60,61,62,63,68,69]}
theorem ZhN:ZeL.okA Try.prog 23 0:=ZV ZFG [] [Zdd,ZcN,Za8,ZfQ] ⟨ZfL,Zel,Zae,Zjj,ytt⟩
def QZ(F:Nat)(a0:FactoryPlan)(a1:Int)(a2:(List FactorySub))(a3:Int)(a4:UInt64):Option (((List Sig)×Int)):=
 (V3 F a0 a1 a2).bind λo387=>
 if(o387.2 !=0)=true then
  some ([],o387.2)
 else
 (ZD F a3 0 (wi ((a0.2.2.1.length:Int) - 1))).bind λo388=>
 if(!o388)=true then
  some ([],5)
 else
 (YZ F a4).bind λo389=>
 (idx a0.2.2.1 a3).bind λe390=>
 if(o389 !=e390)=true then
  some ([],7)
 else
 (QD F a4 0).bind λo391=>
 (idx o387.1 0).bind λe392=>
 (YC F e392).bind λo393=>
 (Vj F o391 o393).bind λo394=>
 (We F a1).bind λo395=>
 (Zk (XF F) F (a4,o387.1,o395,0,a0,[o394])).bind λo402=>
 some (o402.2,0)
def ZlK(F:Nat):Fs Try.prog:=⟨23,[.v Zc,.v yI,.v (.sl Zl),.v yI,.v .u64],[],[Zc,yI,(.sl Zl),yI,.u64],[⟨.ret,[(0,.tup [.v (.sl Zu),.v yI])],[],[(.sl Zu),yI]⟩],λx=>QZ F x.1 x.2.1 x.2.2.1 x.2.2.2.1 x.2.2.2.2⟩
def ZfR:Fs Try.prog:=ZlK fuel
theorem ZlL:ZfR.Ok:=fnO ZFG [(0,ZeL)] [ZgX,Ym,XU,ZcN,Za8,ZfQ,Zb7] ⟨ZfP,Yy,Wb,Zel,Zae,Zjj,ZeK,ytt⟩ ⟨ZhN,ytt⟩
def Yn(F:Nat)(s:(Int×(List FactorySub)×(List UInt64)×Int×FactoryPlan×(List (List Sig)))):Option ((Int×(List FactorySub)×(List UInt64)×Int×FactoryPlan×(List (List Sig)))⊕(((List (List Sig))×Bool×FactoryPlan×(List (List Sig)))⊕(FactoryPlan×(List (List Sig))))):=
 if(decide (s.2.2.2.1 < (s.2.2.1.length:Int)))=true then
  (idx s.2.2.1 s.2.2.2.1).bind λe403=>
  (QZ F s.2.2.2.2.1 s.1 s.2.1 s.2.2.2.1 e403).bind λo404=>
  if(o404.2 !=0)=true then
   some (.inr (.inl ([],false,s.2.2.2.2.1,s.2.2.2.2.2)))
  else
  if(apB s.2.2.2.2.2.length 1 24)=true then
   some (.inl (s.1,s.2.1,s.2.2.1,wi (s.2.2.2.1+1),s.2.2.2.2.1,s.2.2.2.2.2++([o404.1]:List (List Sig))))
  else
  none
 else
 some (.inr (.inr (s.2.2.2.2.1,s.2.2.2.2.2)))
def V4:Lp:=⟨[(1,.v yI),(2,.v (.sl Zl)),(3,.v (.sl .u64)),(4,.ref 0 []),(10,.own 1 (.sl Zu)),(11,.v yI)],[.var (.v Zc) true,.log (.sl Zu) 59],[yI,(.sl Zl),(.sl .u64),yI,Zc,(.sl (.sl Zu))],[⟨.ret,[(8,.v (.sl (.sl Zu))),(9,.v .bool)],[.var (.v Zc) true,.log (.sl Zu) 59],[(.sl (.sl Zu)),.bool,Zc,(.sl (.sl Zu))]⟩,⟨.exit 0,[(10,.own 1 (.sl Zu))],[.var (.v Zc) true,.log (.sl Zu) 59],[Zc,(.sl (.sl Zu))]⟩],Zk (Yn fuel) fuel⟩
def ZFH:HI:={ own:=[10,34,37],still:=[8,9,21,22,23,24,28]}
theorem Zci:V4.okA Try.prog 7 0:=ZV ZFH [] [ZfR] ⟨ZlL,ytt⟩
def Xt(F:Nat)(a0:FactoryPlan)(a1:Int)(a2:(List FactorySub))(a3:(List UInt64)):Option (((List (List Sig))×Bool)):=
 (Zk (Yn F) F (a1,a2,a3,0,a0,[])).bind λo405=>
 match o405 with
 |.inl o406=>
  some (o406.1,o406.2.1)
 |.inr o407=>
  some (o407.2,true)
def XW(F:Nat):Fs Try.prog:=⟨7,[.v Zc,.v yI,.v (.sl Zl),.v (.sl .u64)],[],[Zc,yI,(.sl Zl),(.sl .u64)],[⟨.ret,[(0,.tup [.v (.sl (.sl Zu)),.v .bool])],[],[(.sl (.sl Zu)),.bool]⟩],λx=>Xt F x.1 x.2.1 x.2.2.1 x.2.2.2⟩
def Qb:Fs Try.prog:=XW fuel
theorem V5:Qb.Ok:=fnO ZFH [(0,V4)] [] trivial ⟨Zci,ytt⟩
def WP(F:Nat)(a0:Ze)(a1:Int)(a2:Int)(a3:(List Out)):Option (((List Out)×Int×Ze×Int×UInt64)):=
 some (a3,a2,a0,a1,0)
def ZhO(F:Nat):Fs Try.prog:=⟨40,[.v Zb,.v yI,.v yI,.v (.sl Zr)],[],[Zb,yI,yI,(.sl Zr)],[⟨.ret,[(0,.agg [.rv 0 0 36 0 1,.v (.sl Zr),.v yI])],[.rowD 0 36 true 90 1 [.agg [.v Zb,.agg [.v yI,.nil Zu,.v .u64]]]],[(.sl Zr),yI,Zb,yI,.u64]⟩],λx=>WP F x.1 x.2.1 x.2.2.1 x.2.2.2⟩
def ZcP:Fs Try.prog:=ZhO fuel
theorem ZhP:ZcP.Ok:=fnO { row:=[13],own:=[13]} [] [] trivial
def QF(F:Nat)(a0:Ze)(a1:Int)(a2:Int):Option ((Int×Ze×Int×UInt64)):=
 some (a2,a0,a1,0)
def ZhQ(F:Nat):Fs Try.prog:=⟨40,[.v Zb,.v yI,.v yI,.nil Zr],[],[Zb,yI,yI],[⟨.ret,[(0,.agg [.rv 0 0 36 0 1,.nil Zr,.v yI])],[.rowD 0 36 true 90 1 [.agg [.v Zb,.agg [.v yI,.nil Zu,.v .u64]]]],[yI,Zb,yI,.u64]⟩],λx=>QF F x.1 x.2.1 x.2.2⟩
def ZcQ:Fs Try.prog:=ZhQ fuel
theorem ZhR:ZcQ.Ok:=fnO { row:=[13],own:=[13]} [] [] trivial
abbrev dT3:Type:=((List FactorySub)×Int×Int×FactoryPlan×Ze×Int×UInt64×(List Out)×Int×Ze×Int×UInt64×(List Out)×Int×Ze×Int×UInt64×Int×(List Out))
abbrev dT4:Type:=(FactoryPlan×Ze×Int×UInt64×(List Out)×Int×Ze×Int×UInt64×(List Out)×Int×Ze×Int×UInt64×Int×(List Out))
def Xd(F:Nat)(s:dT3):Option (dT3⊕dT4):=
 if(decide (s.2.2.1 < s.2.1))=true then
  (idx s.1 s.2.2.1).bind λe418=>
  (e418.2.1[0]?).bind λe419=>
  (e418.2.1[1]?).bind λe420=>
  (Zb5 F e419 e420).bind λo421=>
  if(apB s.2.2.2.2.2.2.2.2.2.2.2.2.2.2.2.2.2.2.length 1 32)=true then
   let y422:(List Out):=s.2.2.2.2.2.2.2.2.2.2.2.2.2.2.2.2.2.2++([(e418.2.2,o421)]:List Out)
   some (.inl (s.1,s.2.1,wi (s.2.2.1+1),s.2.2.2.1,s.2.2.2.2.1,s.2.2.2.2.2.1,s.2.2.2.2.2.2.1,s.2.2.2.2.2.2.2.1,s.2.2.2.2.2.2.2.2.1,s.2.2.2.2.2.2.2.2.2.1,s.2.2.2.2.2.2.2.2.2.2.1,s.2.2.2.2.2.2.2.2.2.2.2.1,s.2.2.2.2.2.2.2.2.2.2.2.2.1,s.2.2.2.2.2.2.2.2.2.2.2.2.2.1,s.2.2.2.2.2.2.2.2.2.2.2.2.2.2.1,s.2.2.2.2.2.2.2.2.2.2.2.2.2.2.2.1,s.2.2.2.2.2.2.2.2.2.2.2.2.2.2.2.2.1,s.2.2.2.2.2.2.2.2.2.2.2.2.2.2.2.2.2.1,y422))
  else
  none
 else
 some (.inr (s.2.2.2.1,s.2.2.2.2.1,s.2.2.2.2.2.1,s.2.2.2.2.2.2.1,s.2.2.2.2.2.2.2.1,s.2.2.2.2.2.2.2.2.1,s.2.2.2.2.2.2.2.2.2.1,s.2.2.2.2.2.2.2.2.2.2.1,s.2.2.2.2.2.2.2.2.2.2.2.1,s.2.2.2.2.2.2.2.2.2.2.2.2.1,s.2.2.2.2.2.2.2.2.2.2.2.2.2.1,s.2.2.2.2.2.2.2.2.2.2.2.2.2.2.1,s.2.2.2.2.2.2.2.2.2.2.2.2.2.2.2.1,s.2.2.2.2.2.2.2.2.2.2.2.2.2.2.2.2.1,s.2.2.2.2.2.2.2.2.2.2.2.2.2.2.2.2.2.1,s.2.2.2.2.2.2.2.2.2.2.2.2.2.2.2.2.2.2))
def ZFI:List ESh:=[.var (.v Zc) true,.rowD 0 36 true 90 1 [.agg [.v Zb,.agg [.v yI,.nil Zu,.v .u64]]],.var (.agg [.rv 1 0 36 0 1,.v (.sl Zr),.v yI]) true,.rowD 0 36 true 90 1 [.agg [.v Zb,.agg [.v yI,.nil Zu,.v .u64]]],.var (.agg [.rv 3 0 36 0 1,.v (.sl Zr),.v yI]) true,.rowD 0 36 true 90 1 [.agg [.v Zb,.agg [.v yI,.nil Zu,.v .u64]]],.var (.agg [.rv 5 0 36 0 1,.own 7 Zr,.v yI]) true,.log Zr 73]
abbrev tL7:List Ty:=[Zc,Zb,yI,.u64,(.sl Zr),yI,Zb,yI,.u64,(.sl Zr),yI,Zb,yI,.u64,yI,(.sl Zr)]
abbrev tL8:List Ty:=[(.sl Zl),yI,yI,Zc,Zb,yI,.u64,(.sl Zr),yI,Zb,yI,.u64,(.sl Zr),yI,Zb,yI,.u64,yI,(.sl Zr)]
def ZcR:Lp:=⟨[(12,.ref 2 []),(13,.ref 4 []),(14,.ref 6 []),(84,.v (.sl Zl)),(85,.v yI),(86,.v yI)],ZFI,tL8,[⟨.exit 1,[(12,.ref 2 []),(13,.ref 4 []),(14,.ref 6 [])],ZFI,tL7⟩],Zk (Xd fuel) fuel⟩
def ZFJ:HI:={ row:=[109],own:=[91,103,109],still:=[17,21,26,27,48,54,55,58,60,62,63,64,71,73,76,78,80,81,82,96,99],gst:=[(14,[([1],Zr,73)])]}
theorem ZfS:ZcR.okA Try.prog 16 0:=ZV ZFJ [] [ZfN] ⟨Zjf,ytt⟩
def X3(F:Nat)(a0:FactoryPlan)(a1:Int)(a2:(List FactorySub)):Option (Int⊕(Int×(List Out)×Int×(List Out)×Int×Int×Ze×Int×UInt64×Ze×Int×UInt64×Ze×Int×UInt64×(List Out))):=
 (YJ F a0).bind λo408=>
 if(!o408)=true then
  some (.inl 1)
 else
 (ZD F a1 0 15).bind λo409=>
 if(!o409)=true then
  some (.inl 1)
 else
 (Wd F a0 a2).bind λo410=>
 if(!o410.2)=true then
  some (.inl 1)
 else
 if(o410.1 !=(wi (a0.2.1 - (wi (3*a0.2.2.2.2)))))=true then
  some (.inl 8)
 else
 (Xx F a0 [1]).bind λo411=>
 (WP F a0.1 0 0 [(wi (a0.2.1 - a0.2.2.2.2),o411)]).bind λo412=>
 (YC F ([(o412.2.2.1,(o412.2.2.2.1,[],o412.2.2.2.2))],o412.1,o412.2.1)).bind λo413=>
 (Xx F a0 [2,wi (yn a1 4)]).bind λo414=>
 (WP F (o413,0) (wi (yn a1 4)) (wi (yn a1 4)) [(wi (a0.2.1 - (wi (2*a0.2.2.2.2))),o414)]).bind λo415=>
 (YC F ([(o415.2.2.1,(o415.2.2.2.1,[],o415.2.2.2.2))],o415.1,o415.2.1)).bind λo416=>
 (QF F (o416,0) (yag a1 4) a1).bind λo417=>
 (Zk (Xd F) F (a2,(a2.length:Int),0,a0,o412.2.2.1,o412.2.2.2.1,o412.2.2.2.2,o412.1,o412.2.1,o415.2.2.1,o415.2.2.2.1,o415.2.2.2.2,o415.1,o415.2.1,o417.2.1,o417.2.2.1,o417.2.2.2,o417.1,[])).bind λo423=>
 some (.inr (0,o423.2.2.2.2.1,o423.2.2.2.2.2.1,o423.2.2.2.2.2.2.2.2.2.1,o423.2.2.2.2.2.2.2.2.2.2.1,o423.2.2.2.2.2.2.2.2.2.2.2.2.2.2.1,o423.2.1,o423.2.2.1,o423.2.2.2.1,o423.2.2.2.2.2.2.1,o423.2.2.2.2.2.2.2.1,o423.2.2.2.2.2.2.2.2.1,o423.2.2.2.2.2.2.2.2.2.2.2.1,o423.2.2.2.2.2.2.2.2.2.2.2.2.1,o423.2.2.2.2.2.2.2.2.2.2.2.2.2.1,o423.2.2.2.2.2.2.2.2.2.2.2.2.2.2.2))
def Zjk(F:Nat):Fs Try.prog:=⟨16,[.v Zc,.v yI,.v (.sl Zl)],[],[Zc,yI,(.sl Zl)],[⟨.ret,[(0,.tup [.nil yTx,.v yI])],[],[yI]⟩,⟨.ret,[(0,.tup [.rv 0 0 3 0 3,.v yI])],[.rowD 0 3 true 52 3 [.agg [.rv 1 0 36 0 1,.v (.sl Zr),.v yI],.agg [.rv 2 0 36 0 1,.v (.sl Zr),.v yI],.agg [.rv 3 0 36 0 1,.own 4 Zr,.v yI]],.rowD 0 36 true 90 1 [.agg [.v Zb,.agg [.v yI,.nil Zu,.v .u64]]],.rowD 0 36 true 90 1 [.agg [.v Zb,.agg [.v yI,.nil Zu,.v .u64]]],.rowD 0 36 true 90 1 [.agg [.v Zb,.agg [.v yI,.nil Zu,.v .u64]]],.log Zr 73],[yI,(.sl Zr),yI,(.sl Zr),yI,yI,Zb,yI,.u64,Zb,yI,.u64,Zb,yI,.u64,(.sl Zr)]⟩],λx=>X3 F x.1 x.2.1 x.2.2⟩
def ZdJ:Fs Try.prog:=Zjk fuel
theorem Zjl:ZdJ.Ok:=fnO ZFJ [(0,ZcR)] [ZcQ,Xj,Ym,ZbX,Zb4,ZcP,Za8] ⟨ZhR,XC,Yy,ZeF,ZeJ,ZhP,Zae,ytt⟩ ⟨ZfS,ytt⟩
def ZeM(F:Nat)(a0:(List Sig))(s0:(List Tx)):Option ((Bool×(List Tx))):=
 some ((a0.length:Int)!=(s0.length:Int),s0)
def Zjm(F:Nat):Fs Try.prog:=⟨25,[.v (.sl Zu),.ref 0 []],[.var (.v (.sl yTx)) true],[(.sl Zu),(.sl yTx)],[⟨.ret,[(0,.v .bool)],[.var (.v (.sl yTx)) true],[.bool,(.sl yTx)]⟩],λx=>ZeM F x.1 x.2⟩
def ZdK:Fs Try.prog:=Zjm fuel
theorem Zjn:ZdK.Ok:=fnO { still:=[3]} [] [] trivial
def ZfT(F:Nat)(s:((List (List Sig))×Int×Int×(List Tx))):Option (((List (List Sig))×Int×Int×(List Tx))⊕((Int×(List Tx))⊕(List Tx))):=
 if(decide (s.2.2.1 < s.2.1))=true then
  (idx s.1 s.2.2.1).bind λe426=>
  (ZeM F e426 s.2.2.2).bind λo427=>
  if o427.1=true then
   some (.inr (.inl (s.2.2.1,o427.2)))
  else
  some (.inl (s.1,s.2.1,wi (s.2.2.1+1),o427.2))
 else
 some (.inr (.inr s.2.2.2))
def ZgZ:Lp:=⟨[(0,.v (.sl (.sl Zu))),(1,.fn 25 [.ref 0 []]),(7,.v yI),(8,.v yI)],[.var (.v (.sl yTx)) true],[(.sl (.sl Zu)),yI,yI,(.sl yTx)],[⟨.ret,[(4,.v yI)],[.var (.v (.sl yTx)) true],[yI,(.sl yTx)]⟩,⟨.exit 0,[],[.var (.v (.sl yTx)) true],[(.sl yTx)]⟩],Zk (ZfT fuel) fuel⟩
theorem Zkk:ZgZ.okA Try.prog 51 0:=ZV { still:=[4,15]} [] [ZdK] ⟨Zjn,ytt⟩
def Zlc(F:Nat)(a0:(List (List Sig)))(s0:(List Tx)):Option ((Int×(List Tx))):=
 (Zk (ZfT F) F (a0,(a0.length:Int),0,s0)).bind λo428=>
 match o428 with
 |.inl o429=>
  some (o429.1,o429.2)
 |.inr o430=>
  some ((-1),o430)
def Zpa(F:Nat):Fs Try.prog:=⟨51,[.v (.sl (.sl Zu)),.fn 25 [.ref 0 []]],[.var (.v (.sl yTx)) true],[(.sl (.sl Zu)),(.sl yTx)],[⟨.ret,[(0,.v yI)],[.var (.v (.sl yTx)) true],[yI,(.sl yTx)]⟩],λx=>Zlc F x.1 x.2⟩
def Zjo:Fs Try.prog:=Zpa fuel
theorem Zpb:Zjo.Ok:=fnO { still:=[4,15]} [(0,ZgZ)] [] trivial ⟨Zkk,ytt⟩
def Zui(F:Nat)(a0:(List (List Sig)))(s0:(List Tx)):Option ((Bool×(List Tx))):=
 (Zlc F a0 s0).bind λo431=>
 some (decide (o431.1 ≥ 0),o431.2)
def Zv1(F:Nat):Fs Try.prog:=⟨24,[.v (.sl (.sl Zu)),.fn 25 [.ref 0 []]],[.var (.v (.sl yTx)) true],[(.sl (.sl Zu)),(.sl yTx)],[⟨.ret,[(0,.v .bool)],[.var (.v (.sl yTx)) true],[.bool,(.sl yTx)]⟩],λx=>Zui F x.1 x.2⟩
def Zqf:Fs Try.prog:=Zv1 fuel
theorem Zv2:Zqf.Ok:=fnO { still:=[4,5,6]} [] [Zjo] ⟨Zpb,ytt⟩
abbrev dT5:Type:=((List (List Sig))×(List (List UInt64))×Int×Int×Int×(List (List Sig))×Int×Int×FactoryPlan×(List Tx)×(List (List Int))×(List UInt8))
abbrev dT6:Type:=((List (List Sig))×(List (List UInt64))×Int×Int×FactoryPlan×(List Tx)×(List (List Int))×(List UInt8))
abbrev tL9:List Ty:=[(.sl (.sl Zu)),(.sl (.sl .u64)),yI,yI,Zc,(.sl yTx),(.arr 2 (.sl yI)),(.arr 32 .u8)]
abbrev ZGb:List Ty:=[(.sl (.sl Zu)),(.sl (.sl .u64)),yI,yI,yI,(.sl (.sl Zu)),yI,yI,Zc,(.sl yTx),(.arr 2 (.sl yI)),(.arr 32 .u8)]
abbrev dT7:Type:=((List (List Sig))×(List (List UInt64))×Int×Int×FactoryPlan×(List Tx)×(List (List Int)))
abbrev ZGc:List Ty:=[(.sl (.sl Zu)),(.sl (.sl .u64)),yI,yI,Zc,(.sl yTx),(.arr 2 (.sl yI))]
def Vk(F:Nat)(a0:(List Sig))(s1_0:(List Out))(s1_1:Int)(s1_2:(List Out))(s1_3:Int)(s1_4:Int)(s2_0:Ze)(s2_1:Int)(s2_2:UInt64)(s3_0:Ze)(s3_1:Int)(s3_2:UInt64)(s4_0:Ze)(s4_1:Int)(s4_2:UInt64)(s5:(List Out)):Option ((Bool×(List Out)×Int×(List Out)×Int×Int×Ze×Int×UInt64×Ze×Int×UInt64×Ze×Int×UInt64×(List Out))):=
 some ((a0.length:Int)!=3,s1_0,s1_1,s1_2,s1_3,s1_4,s2_0,s2_1,s2_2,s3_0,s3_1,s3_2,s4_0,s4_1,s4_2,s5)
def ZfU(F:Nat):Fs Try.prog:=⟨25,[.v (.sl Zu),.ref 0 []],[.var (.rv 1 0 3 0 3) true,.rowD 0 3 true 52 3 [.agg [.rv 2 0 36 0 1,.v (.sl Zr),.v yI],.agg [.rv 3 0 36 0 1,.v (.sl Zr),.v yI],.agg [.rv 4 0 36 0 1,.own 5 Zr,.v yI]],.rowD 0 36 true 90 1 [.agg [.v Zb,.agg [.v yI,.nil Zu,.v .u64]]],.rowD 0 36 true 90 1 [.agg [.v Zb,.agg [.v yI,.nil Zu,.v .u64]]],.rowD 0 36 true 90 1 [.agg [.v Zb,.agg [.v yI,.nil Zu,.v .u64]]],.log Zr 73],[(.sl Zu),(.sl Zr),yI,(.sl Zr),yI,yI,Zb,yI,.u64,Zb,yI,.u64,Zb,yI,.u64,(.sl Zr)],[⟨.ret,[(0,.v .bool)],[.var (.rv 1 0 3 0 3) true,.rowD 0 3 true 52 3 [.agg [.rv 2 0 36 0 1,.v (.sl Zr),.v yI],.agg [.rv 3 0 36 0 1,.v (.sl Zr),.v yI],.agg [.rv 4 0 36 0 1,.own 5 Zr,.v yI]],.rowD 0 36 true 90 1 [.agg [.v Zb,.agg [.v yI,.nil Zu,.v .u64]]],.rowD 0 36 true 90 1 [.agg [.v Zb,.agg [.v yI,.nil Zu,.v .u64]]],.rowD 0 36 true 90 1 [.agg [.v Zb,.agg [.v yI,.nil Zu,.v .u64]]],.log Zr 73],[.bool,(.sl Zr),yI,(.sl Zr),yI,yI,Zb,yI,.u64,Zb,yI,.u64,Zb,yI,.u64,(.sl Zr)]⟩],λx=>Vk F x.1 x.2.1 x.2.2.1 x.2.2.2.1 x.2.2.2.2.1 x.2.2.2.2.2.1 x.2.2.2.2.2.2.1 x.2.2.2.2.2.2.2.1 x.2.2.2.2.2.2.2.2.1 x.2.2.2.2.2.2.2.2.2.1 x.2.2.2.2.2.2.2.2.2.2.1 x.2.2.2.2.2.2.2.2.2.2.2.1 x.2.2.2.2.2.2.2.2.2.2.2.2.1 x.2.2.2.2.2.2.2.2.2.2.2.2.2.1 x.2.2.2.2.2.2.2.2.2.2.2.2.2.2.1 x.2.2.2.2.2.2.2.2.2.2.2.2.2.2.2⟩
def ZaO:Fs Try.prog:=ZfU fuel
theorem ZfV:ZaO.Ok:=fnO { still:=[3]} [] [] trivial
abbrev dT8:Type:=((List (List Sig))×Int×Int×(List Out)×Int×(List Out)×Int×Int×Ze×Int×UInt64×Ze×Int×UInt64×Ze×Int×UInt64×(List Out))
abbrev dT9:Type:=(Int×(List Out)×Int×(List Out)×Int×Int×Ze×Int×UInt64×Ze×Int×UInt64×Ze×Int×UInt64×(List Out))
abbrev ZFK:Type:=((List Out)×Int×(List Out)×Int×Int×Ze×Int×UInt64×Ze×Int×UInt64×Ze×Int×UInt64×(List Out))
def YN(F:Nat)(s:dT8):Option (dT8⊕(dT9⊕ZFK)):=
 if(decide (s.2.2.1 < s.2.1))=true then
  (idx s.1 s.2.2.1).bind λe484=>
  (Vk F e484 s.2.2.2.1 s.2.2.2.2.1 s.2.2.2.2.2.1 s.2.2.2.2.2.2.1 s.2.2.2.2.2.2.2.1 s.2.2.2.2.2.2.2.2.1 s.2.2.2.2.2.2.2.2.2.1 s.2.2.2.2.2.2.2.2.2.2.1 s.2.2.2.2.2.2.2.2.2.2.2.1 s.2.2.2.2.2.2.2.2.2.2.2.2.1 s.2.2.2.2.2.2.2.2.2.2.2.2.2.1 s.2.2.2.2.2.2.2.2.2.2.2.2.2.2.1 s.2.2.2.2.2.2.2.2.2.2.2.2.2.2.2.1 s.2.2.2.2.2.2.2.2.2.2.2.2.2.2.2.2.1 s.2.2.2.2.2.2.2.2.2.2.2.2.2.2.2.2.2).bind λo485=>
  if o485.1=true then
   some (.inr (.inl (s.2.2.1,o485.2.1,o485.2.2.1,o485.2.2.2.1,o485.2.2.2.2.1,o485.2.2.2.2.2.1,o485.2.2.2.2.2.2.1,o485.2.2.2.2.2.2.2.1,o485.2.2.2.2.2.2.2.2.1,o485.2.2.2.2.2.2.2.2.2.1,o485.2.2.2.2.2.2.2.2.2.2.1,o485.2.2.2.2.2.2.2.2.2.2.2.1,o485.2.2.2.2.2.2.2.2.2.2.2.2.1,o485.2.2.2.2.2.2.2.2.2.2.2.2.2.1,o485.2.2.2.2.2.2.2.2.2.2.2.2.2.2.1,o485.2.2.2.2.2.2.2.2.2.2.2.2.2.2.2)))
  else
  some (.inl (s.1,s.2.1,wi (s.2.2.1+1),o485.2.1,o485.2.2.1,o485.2.2.2.1,o485.2.2.2.2.1,o485.2.2.2.2.2.1,o485.2.2.2.2.2.2.1,o485.2.2.2.2.2.2.2.1,o485.2.2.2.2.2.2.2.2.1,o485.2.2.2.2.2.2.2.2.2.1,o485.2.2.2.2.2.2.2.2.2.2.1,o485.2.2.2.2.2.2.2.2.2.2.2.1,o485.2.2.2.2.2.2.2.2.2.2.2.2.1,o485.2.2.2.2.2.2.2.2.2.2.2.2.2.1,o485.2.2.2.2.2.2.2.2.2.2.2.2.2.2.1,o485.2.2.2.2.2.2.2.2.2.2.2.2.2.2.2))
 else
 some (.inr (.inr (s.2.2.2.1,s.2.2.2.2.1,s.2.2.2.2.2.1,s.2.2.2.2.2.2.1,s.2.2.2.2.2.2.2.1,s.2.2.2.2.2.2.2.2.1,s.2.2.2.2.2.2.2.2.2.1,s.2.2.2.2.2.2.2.2.2.2.1,s.2.2.2.2.2.2.2.2.2.2.2.1,s.2.2.2.2.2.2.2.2.2.2.2.2.1,s.2.2.2.2.2.2.2.2.2.2.2.2.2.1,s.2.2.2.2.2.2.2.2.2.2.2.2.2.2.1,s.2.2.2.2.2.2.2.2.2.2.2.2.2.2.2.1,s.2.2.2.2.2.2.2.2.2.2.2.2.2.2.2.2.1,s.2.2.2.2.2.2.2.2.2.2.2.2.2.2.2.2.2)))
def ZEN:List ESh:=[.var (.rv 1 0 3 0 3) true,.rowD 0 3 true 52 3 [.agg [.rv 2 0 36 0 1,.v (.sl Zr),.v yI],.agg [.rv 3 0 36 0 1,.v (.sl Zr),.v yI],.agg [.rv 4 0 36 0 1,.own 5 Zr,.v yI]],.rowD 0 36 true 90 1 [.agg [.v Zb,.agg [.v yI,.nil Zu,.v .u64]]],.rowD 0 36 true 90 1 [.agg [.v Zb,.agg [.v yI,.nil Zu,.v .u64]]],.rowD 0 36 true 90 1 [.agg [.v Zb,.agg [.v yI,.nil Zu,.v .u64]]],.log Zr 73]
abbrev ZGd:List Ty:=[yI,(.sl Zr),yI,(.sl Zr),yI,yI,Zb,yI,.u64,Zb,yI,.u64,Zb,yI,.u64,(.sl Zr)]
abbrev ZGe:List Ty:=[(.sl Zr),yI,(.sl Zr),yI,yI,Zb,yI,.u64,Zb,yI,.u64,Zb,yI,.u64,(.sl Zr)]
abbrev ZGf:List Ty:=[(.sl (.sl Zu)),yI,yI,(.sl Zr),yI,(.sl Zr),yI,yI,Zb,yI,.u64,Zb,yI,.u64,Zb,yI,.u64,(.sl Zr)]
def ZdL:Lp:=⟨[(0,.v (.sl (.sl Zu))),(1,.fn 25 [.ref 0 []]),(7,.v yI),(8,.v yI)],ZEN,ZGf,[⟨.ret,[(4,.v yI)],ZEN,ZGd⟩,⟨.exit 0,[],ZEN,ZGe⟩],Zk (YN fuel) fuel⟩
theorem Zgt:ZdL.okA Try.prog 51 0:=ZV { still:=[4,15]} [] [ZaO] ⟨ZfV,ytt⟩
end
end Go.Proofs.Ytkapgdbeeblihaa
end
