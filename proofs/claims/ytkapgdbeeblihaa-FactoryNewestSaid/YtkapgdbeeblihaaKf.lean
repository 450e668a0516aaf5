/- Parts of the proof, in one file. -/
import Derived.Test.YtkapgdbeeblihaaKe
open Bool renaming and_eq_true → yi
open Int renaming tdiv → yh, tmod → yy, tmod_eq_emod_of_nonneg → ydb
open List renaming length_append → yq, length_map → yv, map_cons → yaa, replicate → yad, length_take → yag, map_append → yaj, length_cons → yak, append_assoc → yam, getElem?_map → yan, getElem?_eq_none → yap, mem_cons → yau, getElem?_cons_succ → yax, length_set → ybd, take_append_drop → ybj, length_drop → ybu, map_nil → yca, not_mem_nil → yce, getElem?_set_self → ycq, length_replicate → ycs, getD_eq_getElem?_getD → ycz
open Nat renaming le_refl → ym, add → yw, shiftRight → yai, mod_eq_of_lt → yar, add_mul → yaw, zero_add → yaz, mod_lt → ybp, mul_comm → ybr, lt_or_ge → ybs, mul_le_mul_right → ycc, eq_zero_or_pos → ycj
open Option renaming bind_some → ya
open UInt32 renaming toNat → ybm, toNat_ofNat' → ycu
open UInt64 renaming ofNat → yah, toNat_ofNat' → ybf, toNat_lt → yby, toNat_inj → yco, le_iff_toNat_le → yct, lt_iff_toNat_lt → ycy
open UInt8 renaming ofNat → ybc, toNat → ybi
set_option linter.unusedVariables false
set_option linter.unusedSimpArgs false
section
set_option maxRecDepth 4000
namespace Go.Proofs.Ytkapgdbeeblihaa
open Go Go.Ev
section
variable{y1 y0 u d q r:Nat}
theorem ZHg(h:q*y1+r=u)(hc:4294967296*r+d < q*y0):u*4294967296+d < q*(y1*4294967296+y0):=by
 have e:q*(y1*4294967296+y0)=q*y1*4294967296+q*y0:=by rw[Nat.mul_add,Nat.mul_assoc]
 rw[e];omega
theorem ZCm(h:q*y1+r=u)(hc:q*y0≤4294967296*r+d):q*(y1*4294967296+y0)≤u*4294967296+d:=by
 have e:q*(y1*4294967296+y0)=q*y1*4294967296+q*y0:=by rw[Nat.mul_add,Nat.mul_assoc]
 rw[e];omega
theorem ZGp(hu:u < y1*4294967296+y0)(hd:d < 4294967296):(u*4294967296+d) / (y1*4294967296+y0) < 4294967296:=by
 rw[Nat.div_lt_iff_lt_mul (by omega)];omega
theorem ZyD(h:q*y1+r=u)(hq:1≤q):(q - 1)*y1+(r+y1)=u:=by
 have e:q*y1=(q - 1)*y1+y1:=by
  rw[←Nat.succ_mul];congr 1;omega
 omega
theorem ZCn(hu:u < y1*4294967296+y0)(h0:y0 < 4294967296)(h:q*y1+r=u)(hr:4294967296≤r):q*y0≤4294967296*r+d:=by
 by_cases hq:q < 4294967296
 ·have:q*y0≤4294967295*4294967295:=Nat.mul_le_mul (by omega) (by omega);omega
 ·have:4294967296*y1≤q*y1:=ycc _ (by omega);omega
end
theorem Zxb{q T Y:Nat}(hY:0 < Y)(h1:T / Y≤q)(h2:q*Y≤T):q=T / Y:=Nat.le_antisymm ((Nat.le_div_iff_mul_le hY).2 h2) h1
theorem Zvh{y1 y0 u d:Nat}{Q R Y0 Y1 D:UInt64}(hY1:Y1.toNat=y1)(hY0:Y0.toNat=y0)(hD:D.toNat=d)(h1:y1 < 4294967296)(h0:y0 < 4294967296)(hd:d < 4294967296)(hu:u < y1*4294967296+y0)
 (e:Q.toNat*y1+R.toNat=u) (hr:R.toNat < 4294967296) (hge:(u*4294967296+d) / (y1*4294967296+y0)≤Q.toNat):
 ((Q ≥ 4294967296∨(Q*Y0 > (4294967296*R)+D))∧(u*4294967296+d) / (y1*4294967296+y0)≤(Q - 1).toNat∧(Q - 1).toNat*y1+(R+Y1).toNat=u∧(R+Y1).toNat=R.toNat+y1)∨
 (¬Q ≥ 4294967296∧¬(Q*Y0 > (4294967296*R)+D)∧Q.toNat=(u*4294967296+d) / (y1*4294967296+y0)):=by
 have hadd:(R+Y1).toNat=R.toNat+y1:=by rw[ZhE (by omega),hY1]
 have hrd:((4294967296*R)+D).toNat=4294967296*R.toNat+d:=by
  have m:(4294967296*R:UInt64).toNat=4294967296*R.toNat:=by
   rw[ZhF (by show 4294967296*R.toNat < _;omega)];rfl
  rw[ZhE (by rw[m];omega),m,hD]
 have dec:1≤Q.toNat→(Q - 1).toNat=Q.toNat - 1:=λh=>by
  rw[UInt64.toNat_sub_of_le _ _ (by rw[yct];exact h)];rfl
 by_cases c1:Q ≥ 4294967296
 ·left
  have hq:4294967296≤Q.toNat:=by
   rw[ge_iff_le,yct] at c1;exact c1
  have:=ZGp hu hd;refine⟨.inl c1,by rw[dec (by omega)];omega, ?_,hadd⟩;rw[dec (by omega),hadd];exact ZyD e (by omega)
 have hq:Q.toNat < 4294967296:=by
  rw[ge_iff_le,yct] at c1;exact Nat.lt_of_not_le c1
 have hmul:(Q*Y0).toNat=Q.toNat*y0:=by
  have:=ZgF hq h0;rw[ZhF (by rw[hY0];omega),hY0]
 by_cases c2:Q*Y0 > (4294967296*R)+D
 ·left
  have c3:4294967296*R.toNat+d < Q.toNat*y0:=by
   have:=ycy.1 c2;rw[hmul,hrd] at this;exact this
  have q1:1≤Q.toNat:=by
   rcases ycj Q.toNat with h|h
   ·rw[h,Nat.zero_mul] at c3;omega
   ·exact h
  have hg:=ZHg (d:=d) e c3;have hlt:(u*4294967296+d) / (y1*4294967296+y0) < Q.toNat:=(Nat.div_lt_iff_lt_mul (by omega)).2 hg;refine⟨.inr c2,by rw[dec q1];omega, ?_,hadd⟩;rw[dec q1,hadd];exact ZyD e q1
 ·right
  have c3:Q.toNat*y0≤4294967296*R.toNat+d:=by
   have:¬(((4294967296*R)+D).toNat < (Q*Y0).toNat):=λh=>c2 (ycy.2 h);rw[hmul,hrd] at this;omega
  exact⟨c1,c2,Zxb (by omega) hge (ZCm e c3)⟩
theorem ZHh{y1 y0 u d:Nat}{Yv N Y1 Y0 U D E Q R:UInt64}(hY1:Y1.toNat=y1)(hY0:Y0.toNat=y0)(hD:D.toNat=d)(h1:y1 < 4294967296)(h3:0 < y1)(h0:y0 < 4294967296)(hd:d < 4294967296)(hu:u < y1*4294967296+y0)
 (e:Q.toNat*y1+R.toNat=u) (hr:R.toNat < 4294967296) (hge:(u*4294967296+d) / (y1*4294967296+y0)≤Q.toNat):
 ∃q:UInt64,Zi (Vp fuel) fuel (Yv,N,Y1,Y0,U,D,E,Q,R)=some (Yv,N,Y1,Y0,U,D,E,q)∧q.toNat=(u*4294967296+d) / (y1*4294967296+y0):=by
 obtain⟨x,hx,q,rfl,hq⟩:=XU (step:=Vp fuel) (λs=>∃Q R:UInt64,s=(Yv,N,Y1,Y0,U,D,E,Q,R)∧Q.toNat*y1+R.toNat=u∧R.toNat < 4294967296∧(u*4294967296+d) / (y1*4294967296+y0)≤Q.toNat)
  (λs=>4294967296 - s.2.2.2.2.2.2.2.2.toNat) (λx=>∃q:UInt64,x=(Yv,N,Y1,Y0,U,D,E,q)∧q.toNat=(u*4294967296+d) / (y1*4294967296+y0)) (by
  rintro _ ⟨Q,R,rfl,e,hr,hge⟩;unfold Vp;dsimp only;rcases Zvh hY1 hY0 hD h1 h0 hd hu e hr hge with⟨c,k1,k2,k3⟩|⟨c1,c2,k⟩
  ·have key:(∃j,(if decide (R+Y1 ≥ 4294967296)=true then some (Sum.inr (Yv,N,Y1,Y0,U,D,E,Q - 1)) else some (Sum.inl (Yv,N,Y1,Y0,U,D,E,Q - 1,R+Y1)):Option ((UInt64×UInt64×UInt64×UInt64×UInt64×UInt64×UInt64×UInt64×UInt64)⊕(UInt64×UInt64×UInt64×UInt64×UInt64×UInt64×UInt64×UInt64)))=some (.inl j)∧
    (∃Q R:UInt64,j=(Yv,N,Y1,Y0,U,D,E,Q,R)∧Q.toNat*y1+R.toNat=u∧R.toNat < 4294967296∧(u*4294967296+d) / (y1*4294967296+y0)≤Q.toNat)∧4294967296 - j.2.2.2.2.2.2.2.2.toNat < 4294967296 - R.toNat)∨
    (∃x,(if decide (R+Y1 ≥ 4294967296)=true then some (Sum.inr (Yv,N,Y1,Y0,U,D,E,Q - 1)) else some (Sum.inl (Yv,N,Y1,Y0,U,D,E,Q - 1,R+Y1)):Option ((UInt64×UInt64×UInt64×UInt64×UInt64×UInt64×UInt64×UInt64×UInt64)⊕(UInt64×UInt64×UInt64×UInt64×UInt64×UInt64×UInt64×UInt64)))=some (.inr x)∧
    ∃q:UInt64,x=(Yv,N,Y1,Y0,U,D,E,q)∧q.toNat=(u*4294967296+d) / (y1*4294967296+y0)):=by
    by_cases hb:R+Y1 ≥ 4294967296
    ·right;rw[if_pos (decide_eq_true hb)]
     have hb2:4294967296≤(R+Y1).toNat:=by
      rw[ge_iff_le,yct] at hb;exact hb
     exact⟨_,rfl,_,rfl,Zxb (by omega) k1 (ZCm k2 (ZCn hu h0 k2 hb2))⟩
    ·left;rw[if_neg (by rw[decide_eq_true_iff];exact hb)]
     have hb2:(R+Y1).toNat < 4294967296:=by
      rw[ge_iff_le,yct] at hb;exact Nat.lt_of_not_le hb
     exact⟨_,rfl,⟨_,_,rfl,k2,hb2,k1⟩,by dsimp only;omega⟩
   rcases c with c|c
   ·rw[if_pos (decide_eq_true c)];exact key
   ·by_cases c1:Q ≥ 4294967296
    ·rw[if_pos (decide_eq_true c1)];exact key
    ·rw[if_neg (by rw[decide_eq_true_iff];exact c1),if_pos (decide_eq_true c)];exact key
  ·right;rw[if_neg (by rw[decide_eq_true_iff];exact c1),if_neg (by rw[decide_eq_true_iff];exact c2)];exact⟨_,rfl,_,rfl,k⟩) (Yv,N,Y1,Y0,U,D,E,Q,R) ⟨Q,R,rfl,e,hr,hge⟩ (by dsimp only;omega)
 exact⟨q,hx,hq⟩
theorem ZHi{y1 y0 u d:Nat}{Yv N Y1 Y0 U D E Q R:UInt64}(hY1:Y1.toNat=y1)(hY0:Y0.toNat=y0)(hD:D.toNat=d)(h1:y1 < 4294967296)(h3:0 < y1)(h0:y0 < 4294967296)(hd:d < 4294967296)(hu:u < y1*4294967296+y0)
 (e:Q.toNat*y1+R.toNat=u) (hr:R.toNat < 4294967296) (hge:(u*4294967296+d) / (y1*4294967296+y0)≤Q.toNat):
 ∃q:UInt64,Zi (Vq fuel) fuel (Yv,N,Y1,Y0,D,E,R,U,Q)=some (Yv,N,D,E,U,q)∧q.toNat=(u*4294967296+d) / (y1*4294967296+y0):=by
 obtain⟨x,hx,q,rfl,hq⟩:=XU (step:=Vq fuel) (λs=>∃Q R:UInt64,s=(Yv,N,Y1,Y0,D,E,R,U,Q)∧Q.toNat*y1+R.toNat=u∧R.toNat < 4294967296∧(u*4294967296+d) / (y1*4294967296+y0)≤Q.toNat)
  (λs=>4294967296 - s.2.2.2.2.2.2.1.toNat) (λx=>∃q:UInt64,x=(Yv,N,D,E,U,q)∧q.toNat=(u*4294967296+d) / (y1*4294967296+y0)) (by
  rintro _ ⟨Q,R,rfl,e,hr,hge⟩;unfold Vq;dsimp only;rcases Zvh hY1 hY0 hD h1 h0 hd hu e hr hge with⟨c,k1,k2,k3⟩|⟨c1,c2,k⟩
  ·have key:(∃j,(if decide (R+Y1 ≥ 4294967296)=true then some (Sum.inr (Yv,N,D,E,U,Q - 1)) else some (Sum.inl (Yv,N,Y1,Y0,D,E,R+Y1,U,Q - 1)):Option ((UInt64×UInt64×UInt64×UInt64×UInt64×UInt64×UInt64×UInt64×UInt64)⊕(UInt64×UInt64×UInt64×UInt64×UInt64×UInt64)))=some (.inl j)∧
    (∃Q R:UInt64,j=(Yv,N,Y1,Y0,D,E,R,U,Q)∧Q.toNat*y1+R.toNat=u∧R.toNat < 4294967296∧(u*4294967296+d) / (y1*4294967296+y0)≤Q.toNat)∧4294967296 - j.2.2.2.2.2.2.1.toNat < 4294967296 - R.toNat)∨
    (∃x,(if decide (R+Y1 ≥ 4294967296)=true then some (Sum.inr (Yv,N,D,E,U,Q - 1)) else some (Sum.inl (Yv,N,Y1,Y0,D,E,R+Y1,U,Q - 1)):Option ((UInt64×UInt64×UInt64×UInt64×UInt64×UInt64×UInt64×UInt64×UInt64)⊕(UInt64×UInt64×UInt64×UInt64×UInt64×UInt64)))=some (.inr x)∧
    ∃q:UInt64,x=(Yv,N,D,E,U,q)∧q.toNat=(u*4294967296+d) / (y1*4294967296+y0)):=by
    by_cases hb:R+Y1 ≥ 4294967296
    ·right;rw[if_pos (decide_eq_true hb)]
     have hb2:4294967296≤(R+Y1).toNat:=by
      rw[ge_iff_le,yct] at hb;exact hb
     exact⟨_,rfl,_,rfl,Zxb (by omega) k1 (ZCm k2 (ZCn hu h0 k2 hb2))⟩
    ·left;rw[if_neg (by rw[decide_eq_true_iff];exact hb)]
     have hb2:(R+Y1).toNat < 4294967296:=by
      rw[ge_iff_le,yct] at hb;exact Nat.lt_of_not_le hb
     exact⟨_,rfl,⟨_,_,rfl,k2,hb2,k1⟩,by dsimp only;omega⟩
   rcases c with c|c
   ·rw[if_pos (decide_eq_true c)];exact key
   ·by_cases c1:Q ≥ 4294967296
    ·rw[if_pos (decide_eq_true c1)];exact key
    ·rw[if_neg (by rw[decide_eq_true_iff];exact c1),if_pos (decide_eq_true c)];exact key
  ·right;rw[if_neg (by rw[decide_eq_true_iff];exact c1),if_neg (by rw[decide_eq_true_iff];exact c2)];exact⟨_,rfl,_,rfl,k⟩) (Yv,N,Y1,Y0,D,E,R,U,Q) ⟨Q,R,rfl,e,hr,hge⟩ (by dsimp only;omega)
 exact⟨q,hx,hq⟩
theorem ZyE{A B:UInt64}{a b:Nat}(hA:A.toNat=a % 18446744073709551616)(hB:B.toNat=b % 18446744073709551616)(h:b≤a)(hd:a - b < 18446744073709551616):(A - B).toNat=a - b:=by
 rw[UInt64.toNat_sub,hA,hB];omega
theorem Zl2(u y1:Nat):u / y1*y1+u % y1=u:=by
 have:=Nat.div_add_mod u y1;rw[ybr] at this;exact this
theorem ZCo{u y1 y0 d:Nat}(h1:0 < y1)(hd:d < 4294967296):(u*4294967296+d) / (y1*4294967296+y0)≤u / y1:=by
 have h:(u*4294967296+d) / (y1*4294967296+y0)≤(u*4294967296+d) / (y1*4294967296):=Nat.div_le_div_left (by omega) (by omega)
 have e:(u*4294967296+d) / (y1*4294967296)=u / y1:=by
  rw[ybr y1, ←Nat.div_div_eq_div_mul];congr 1;omega
 omega
theorem ZCp{a b y:UInt64}{s:Nat}{Y:UInt64}(hy:y≠0)(hs:Ym fuel y=some (s:Int))(s0:0 < s)(s1:s < 64)(hY:Vn y s=Y)(hYn:Y.toNat=y.toNat*2 ^ s)(hY63:9223372036854775808≤Y.toNat)(ha:a.toNat < y.toNat):
 ∃q r,ZdH fuel a b y=some (q,r)∧r.toNat=(a.toNat*18446744073709551616+b.toNat) % y.toNat:=by
 have ha2:¬(y≤a):=by
  rw[yct];omega
 unfold ZdH;rw[if_neg (by rw[beq_iff_eq];exact hy),if_neg (by rw[decide_eq_true_iff];exact ha2)];by_cases h0:a=0
 ·subst h0;rw[if_pos (by decide),if_pos (by rw[bne_iff_ne];exact hy),if_pos (by rw[bne_iff_ne];exact hy)];refine⟨_,_,rfl, ?_⟩;rw[UInt64.toNat_mod];simp
 rw[if_neg (by rw[beq_iff_eq];exact h0),hs,ya];dsimp only
 have w:w64 (s:Int)=yah s:=by
  unfold w64;congr 1;omega
 have ws:(w64 (s:Int)).toNat=s:=by rw[w,ybf,yar (by omega)]
 have e1:min ((w64 (s:Int)).toNat:Int).toNat 64=s:=by rw[ws];omega
 have e2:(64 - w64 (s:Int)).toNat=64 - s:=by
  rw[UInt64.toNat_sub_of_le _ _ (by rw[yct,ws];show s≤64;omega),ws];rfl
 have e3:min ((64 - w64 (s:Int)).toNat:Int).toNat 64=64 - s:=by rw[e2];omega
 rw[e1,e3,hY];have hYl:=yby Y;have hb:=yby b
 have p64:2 ^ (64 - s)*2 ^ s=18446744073709551616:=by
  rw[←Nat.pow_add];have:64 - s+s=64:=by omega
  rw[this]
 have hp:0 < 2 ^ s:=Nat.pow_pos (by decide);obtain⟨y1,hy1⟩:∃y1,y1=Y.toNat / 4294967296:=⟨_,rfl⟩;obtain⟨y0,hy0⟩:∃y0,y0=Y.toNat % 4294967296:=⟨_,rfl⟩;have hYd:Y.toNat=y1*4294967296+y0:=by omega
 have ty1:(ZB Y 32).toNat=y1:=by rw[VL,hy1]
 have ty0:(Y&&&4294967295).toNat=y0:=by rw[ZgE,hy0]
 have l1:y1 < 4294967296:=by omega
 have g1:2147483648≤y1:=by omega
 have l0:y0 < 4294967296:=by omega
 have hash:a.toNat*2 ^ s < Y.toNat:=by rw[hYn];exact Nat.mul_lt_mul_of_pos_right ha hp
 have bd:b.toNat / 2 ^ (64 - s) < 2 ^ s:=by
  rw[Nat.div_lt_iff_lt_mul (Nat.pow_pos (by decide)),ybr,p64];exact hb
 have tu:((Vn a s)|||(ZB b (64 - s))).toNat=a.toNat*2 ^ s+b.toNat / 2 ^ (64 - s):=by
  rw[UInt64.toNat_or,VL];unfold Vn;rw[ybf,yar (by omega),ybr, ←Nat.two_pow_add_eq_or_of_lt bd]
 have t10:(Vn b s).toNat=b.toNat*2 ^ s % 18446744073709551616:=by
  unfold Vn;rw[ybf]
 obtain⟨u,hu⟩:∃u,u=a.toNat*2 ^ s+b.toNat / 2 ^ (64 - s):=⟨_,rfl⟩;obtain⟨v,hv⟩:∃v,v=b.toNat*2 ^ s % 18446744073709551616:=⟨_,rfl⟩;rw[←hu] at tu;rw[←hv] at t10
 have hbs:b.toNat*2 ^ s=b.toNat / 2 ^ (64 - s)*18446744073709551616+v:=by
  have h1:=Nat.div_add_mod (b.toNat*2 ^ s) 18446744073709551616
  have h2:b.toNat*2 ^ s / 18446744073709551616=b.toNat / 2 ^ (64 - s):=by
   rw[←p64];exact Nat.mul_div_mul_right _ _ hp
  rw[h2, ←hv] at h1;omega
 have hN:(a.toNat*18446744073709551616+b.toNat)*2 ^ s=u*18446744073709551616+v:=by
  rw[yaw,hbs,hu,Nat.mul_right_comm];omega
 have uY:u < y1*4294967296+y0:=by
  rw[←hYd,hu,hYn];have h1:(a.toNat+1)*2 ^ s≤y.toNat*2 ^ s:=ycc _ ha;rw[yaw,Nat.one_mul] at h1;omega
 have hvl:v < 18446744073709551616:=by rw[hv];exact ybp _ (by decide)
 obtain⟨d1,hd1⟩:∃d1,d1=v / 4294967296:=⟨_,rfl⟩;obtain⟨d0,hd0⟩:∃d0,d0=v % 4294967296:=⟨_,rfl⟩;have td1:(ZB (Vn b s) 32).toNat=d1:=by rw[VL,t10,hd1]
 have td0:((Vn b s)&&&4294967295).toNat=d0:=by rw[ZgE,t10,hd0]
 generalize ((Vn a s)|||(ZB b (64 - s)):UInt64)=U at tu ⊢;generalize (ZB (Vn b s) 32:UInt64)=D1 at td1 ⊢;generalize ((Vn b s)&&&4294967295:UInt64)=D0 at td0 ⊢;generalize (ZB Y 32:UInt64)=Y1 at ty1 ⊢;generalize (Y&&&4294967295:UInt64)=Y0 at ty0 ⊢
 have y1ne:(Y1 !=0)=true:=by
  rw[bne_iff_ne];intro h;rw[h] at ty1;have:(0:UInt64).toNat=0:=rfl;omega
 rw[if_pos y1ne]
 have f1:(U / Y1).toNat*y1+(U - U / Y1*Y1).toNat=u:=by
  rw[Znd,UInt64.toNat_div,tu,ty1];exact Zl2 u y1
 have f2:(U - U / Y1*Y1).toNat < 4294967296:=by
  rw[Znd,tu,ty1];exact Nat.lt_trans (ybp _ (by omega)) l1
 have f3:(u*4294967296+d1) / (y1*4294967296+y0)≤(U / Y1).toNat:=by
  rw[UInt64.toNat_div,tu,ty1];exact ZCo (by omega) (by omega)
 obtain⟨q1,k1,k2⟩:=ZHh (Yv:=Y) (N:=w64 (s:Int)) (U:=U) (E:=D0) ty1 ty0 td1 l1 (by omega) l0 (by omega) uY f1 f2 f3;rw[k1,ya];dsimp only;rw[if_pos y1ne];have m1:=Nat.div_add_mod (u*4294967296+d1) Y.toNat
 have m2:(u*4294967296+d1) % Y.toNat < Y.toNat:=ybp _ (by omega);rw[←hYd] at k2
 have tv:(((U*4294967296)+D1) - (q1*Y)).toNat=(u*4294967296+d1) % Y.toNat:=by
  rw[ZyE (a:=u*4294967296+d1) (b:=q1.toNat*Y.toNat) ?_ ?_ ?_ ?_]
  ·rw[k2,ybr ((u*4294967296+d1) / Y.toNat)];omega
  ·rw[UInt64.toNat_add,UInt64.toNat_mul,tu,td1,show(4294967296:UInt64).toNat=4294967296 from rfl]
   omega
  ·rw[UInt64.toNat_mul]
  ·rw[k2,ybr ((u*4294967296+d1) / Y.toNat)];omega
  ·rw[k2,ybr ((u*4294967296+d1) / Y.toNat)];omega
 obtain⟨u2,hu2⟩:∃u2,u2=(u*4294967296+d1) % Y.toNat:=⟨_,rfl⟩;rw[←hu2] at tv m2 m1;generalize (((U*4294967296)+D1) - (q1*Y):UInt64)=V at tv ⊢
 have f4:(V / Y1).toNat*y1+(V - V / Y1*Y1).toNat=u2:=by
  rw[Znd,UInt64.toNat_div,tv,ty1];exact Zl2 u2 y1
 have f5:(V - V / Y1*Y1).toNat < 4294967296:=by
  rw[Znd,tv,ty1];exact Nat.lt_trans (ybp _ (by omega)) l1
 have f6:(u2*4294967296+d0) / (y1*4294967296+y0)≤(V / Y1).toNat:=by
  rw[UInt64.toNat_div,tv,ty1];exact ZCo (by omega) (by omega)
 obtain⟨q0,k3,k4⟩:=ZHi (Yv:=Y) (N:=w64 (s:Int)) (U:=V) (E:=q1) ty1 ty0 td0 l1 (by omega) l0 (by omega) (by rw[←hYd];exact m2) f4 f5 f6;rw[k3,ya];refine⟨_,_,rfl, ?_⟩;dsimp only;rw[e1,VL];rw[←hYd] at k4;have m3:=Nat.div_add_mod (u2*4294967296+d0) Y.toNat
 have m4:(u2*4294967296+d0) % Y.toNat < Y.toNat:=ybp _ (by omega)
 have tr:(((V*4294967296)+D0) - (q0*Y)).toNat=(u2*4294967296+d0) % Y.toNat:=by
  rw[ZyE (a:=u2*4294967296+d0) (b:=q0.toNat*Y.toNat) ?_ ?_ ?_ ?_]
  ·rw[k4,ybr ((u2*4294967296+d0) / Y.toNat)];omega
  ·rw[UInt64.toNat_add,UInt64.toNat_mul,tv,td0,show(4294967296:UInt64).toNat=4294967296 from rfl]
   omega
  ·rw[UInt64.toNat_mul]
  ·rw[k4,ybr ((u2*4294967296+d0) / Y.toNat)];omega
  ·rw[k4,ybr ((u2*4294967296+d0) / Y.toNat)];omega
 rw[tr]
 have hNm:((a.toNat*18446744073709551616+b.toNat)*2 ^ s) % Y.toNat=(u2*4294967296+d0) % Y.toNat:=by
  have e:(a.toNat*18446744073709551616+b.toNat)*2 ^ s=u2*4294967296+d0+Y.toNat*((u*4294967296+d1) / Y.toNat*4294967296):=by
   rw[hN, ←Nat.mul_assoc];omega
  rw[e,Nat.add_mul_mod_self_left]
 rw[←hNm,hYn,Nat.mul_mod_mul_right,Nat.mul_div_cancel _ hp]
theorem Zs6{y Y:UInt64}{s:Nat}(a b:UInt64)(hy:y≠0)(hs:Ym fuel y=some (s:Int))(s0:0 < s)(s1:s < 64)(hY:Vn y s=Y)(hYn:Y.toNat=y.toNat*2 ^ s)(hY63:9223372036854775808≤Y.toNat):
 QV fuel a b y=some (yah ((a.toNat*18446744073709551616+b.toNat) % y.toNat)):=by
 have hp:0 < y.toNat:=by
  rcases ycj y.toNat with h|h
  ·exact absurd (yco.1 h) hy
  ·exact h
 obtain⟨q,r,h1,h2⟩:=ZCp (a:=a % y) (b:=b) hy hs s0 s1 hY hYn hY63 (by rw[UInt64.toNat_mod];exact ybp _ hp);unfold QV;rw[if_pos (by rw[bne_iff_ne];exact hy),h1,ya];dsimp only;rw[UInt64.toNat_mod,Nat.add_mod,Nat.mod_mul_mod, ←Nat.add_mod] at h2;rw[←h2,UInt64.ofNat_toNat]
theorem ZGq:Ym fuel 4611686018427377339=some ((2:Nat):Int):=by kernel_rfl
theorem ZGr:Ym fuel 2305843009213688669=some ((3:Nat):Int):=by kernel_rfl
theorem ZGs:Ym fuel 2305843009213688668=some ((3:Nat):Int):=by kernel_rfl
noncomputable def Xt(F:Nat)(a0:UInt64)(a1:UInt64)(a2:UInt64):Option UInt64:=
 if(a2==4611686018427377339 || (a2==2305843009213688669 || a2==2305843009213688668))=true then some (yah ((a0.toNat*18446744073709551616+a1.toNat) % a2.toNat)) else QV F a0 a1 a2
theorem ZCq(a b y:UInt64):QV fuel a b y=Xt fuel a b y:=by
 unfold Xt;split
 ·rename_i h;simp only[Bool.or_eq_true,beq_iff_eq] at h;rcases h with rfl|rfl|rfl
  ·exact Zs6 (Y:=18446744073709509356) (s:=2) a b (by decide) ZGq (by decide) (by decide) (by kernel_rfl) (by decide) (by decide)
  ·exact Zs6 (Y:=18446744073709509352) (s:=3) a b (by decide) ZGr (by decide) (by decide) (by kernel_rfl) (by decide) (by decide)
  ·exact Zs6 (Y:=18446744073709509344) (s:=3) a b (by decide) ZGs (by decide) (by decide) (by kernel_rfl) (by decide) (by decide)
 ·rfl
noncomputable def Zp5(F:Nat):Fs Try.prog:={ ZcH F with M:=λx=>Xt F x.1 x.2.1 x.2.2}
noncomputable def Zb2:Fs Try.prog:=Zp5 fuel
theorem Zd9:Zb2.Ok:=Zs1 (s:=ZcH fuel) ZoK λx=>(ZCq x.1 x.2.1 x.2.2).symm
end Go.Proofs.Ytkapgdbeeblihaa
end
section
set_option maxRecDepth 4000
namespace Go.Proofs.Ytkapgdbeeblihaa
open Go Go.Ev
noncomputable section
def Zb3(F:Nat)(a0:UInt64)(a1:UInt64):Option ((UInt64×UInt64)):=
 let y41:UInt64:=ZB ((a0&&&4294967295)*(a1&&&4294967295)) 32;let y42:UInt64:=(((ZB a0 32)*(a1&&&4294967295))+y41)&&&4294967295;let y43:UInt64:=ZB (((ZB a0 32)*(a1&&&4294967295))+y41) 32;let y44:UInt64:=ZB (y42+((a0&&&4294967295)*(ZB a1 32))) 32
 some ((((ZB a0 32)*(ZB a1 32))+y43)+y44,a0*a1)
def ZcI(F:Nat):Fs Try.prog:=⟨100,[.v .u64,.v .u64],[],[.u64,.u64],[⟨.ret,[(0,.tup [.v .u64,.v .u64])],[],[.u64,.u64]⟩],λx=>Zb3 F x.1 x.2⟩
def Zp6:Fs Try.prog:=ZcI fuel
theorem ZoL:Zp6.Ok:=fnO { still:=[4,5]} [] [] trivial
end
end Go.Proofs.Ytkapgdbeeblihaa
end
section
set_option maxRecDepth 4000
namespace Go.Proofs.Ytkapgdbeeblihaa
open Go Go.Ev
theorem ZCr(x y:UInt64):∃h l,Zb3 fuel x y=some (h,l)∧h.toNat*18446744073709551616+l.toNat=x.toNat*y.toNat:=by
 unfold Zb3;refine⟨_,_,rfl, ?_⟩;have hx:=yby x;have hy:=yby y;have x0l:x.toNat % 4294967296 < 4294967296:=ybp _ (by decide);have y0l:y.toNat % 4294967296 < 4294967296:=ybp _ (by decide);have x1l:x.toNat / 4294967296 < 4294967296:=by omega
 have y1l:y.toNat / 4294967296 < 4294967296:=by omega
 have xe:x.toNat=x.toNat / 4294967296*4294967296+x.toNat % 4294967296:=by omega
 have ye:y.toNat=y.toNat / 4294967296*4294967296+y.toNat % 4294967296:=by omega
 generalize hX1:x.toNat / 4294967296=x1 at*;generalize hX0:x.toNat % 4294967296=x0 at*;generalize hY1:y.toNat / 4294967296=y1 at*;generalize hY0:y.toNat % 4294967296=y0 at*;have p00:=ZgF x0l y0l;have p10:=ZgF x1l y0l;have p01:=ZgF x0l y1l;have p11:=ZgF x1l y1l
 have prod:x.toNat*y.toNat=x1*y1*18446744073709551616+(x1*y0+x0*y1)*4294967296+x0*y0:=by
  rw[xe,ye,yaw,Nat.mul_add,Nat.mul_add]
  have e1:x1*4294967296*(y1*4294967296)=x1*y1*18446744073709551616:=by
   rw[Nat.mul_assoc,Nat.mul_left_comm 4294967296 y1, ←Nat.mul_assoc]
  have e2:x1*4294967296*y0=x1*y0*4294967296:=by rw[Nat.mul_right_comm]
  have e3:x0*(y1*4294967296)=x0*y1*4294967296:=by rw[Nat.mul_assoc]
  rw[e1,e2,e3];omega
 have q00:((x&&&4294967295)*(y&&&4294967295)).toNat=x0*y0:=by
  rw[ZhF (by rw[ZgE,ZgE,hX0,hY0];omega),ZgE,ZgE,hX0,hY0]
 have q10:((ZB x 32)*(y&&&4294967295)).toNat=x1*y0:=by
  rw[ZhF (by rw[VL,ZgE,show(2:Nat) ^ 32=4294967296 from rfl,hX1,hY0];omega),VL,ZgE,show(2:Nat) ^ 32=4294967296 from rfl,hX1,hY0]
 have q01:((x&&&4294967295)*(ZB y 32)).toNat=x0*y1:=by
  rw[ZhF (by rw[VL,ZgE,show(2:Nat) ^ 32=4294967296 from rfl,hX0,hY1];omega),VL,ZgE,show(2:Nat) ^ 32=4294967296 from rfl,hX0,hY1]
 have q11:((ZB x 32)*(ZB y 32)).toNat=x1*y1:=by
  rw[ZhF (by rw[VL,VL,show(2:Nat) ^ 32=4294967296 from rfl,hX1,hY1];omega),VL,VL,show(2:Nat) ^ 32=4294967296 from rfl,hX1,hY1]
 generalize hA:((x&&&4294967295)*(y&&&4294967295):UInt64)=A at*;generalize hB:((ZB x 32)*(y&&&4294967295):UInt64)=B at*;generalize hC:((x&&&4294967295)*(ZB y 32):UInt64)=C at*;generalize hD:((ZB x 32)*(ZB y 32):UInt64)=D at*;have s1:(ZB A 32).toNat=x0*y0 / 4294967296:=by rw[VL,q00]
 have s2:(B+ZB A 32).toNat=x1*y0+x0*y0 / 4294967296:=by rw[ZhE (by rw[q10,s1];omega),q10,s1]
 have s3:((B+ZB A 32)&&&4294967295).toNat=(x1*y0+x0*y0 / 4294967296) % 4294967296:=by rw[ZgE,s2]
 have s4:(ZB (B+ZB A 32) 32).toNat=(x1*y0+x0*y0 / 4294967296) / 4294967296:=by rw[VL,s2]
 have s5:(((B+ZB A 32)&&&4294967295)+C).toNat=(x1*y0+x0*y0 / 4294967296) % 4294967296+x0*y1:=by rw[ZhE (by rw[s3,q01];omega),s3,q01]
 have s6:(ZB (((B+ZB A 32)&&&4294967295)+C) 32).toNat=((x1*y0+x0*y0 / 4294967296) % 4294967296+x0*y1) / 4294967296:=by rw[VL,s5]
 have s7:(D+ZB (B+ZB A 32) 32).toNat=x1*y1+(x1*y0+x0*y0 / 4294967296) / 4294967296:=by rw[ZhE (by rw[q11,s4];omega),q11,s4]
 have s8:(x*y).toNat=x.toNat*y.toNat % 18446744073709551616:=UInt64.toNat_mul ..
 have s9:((D+ZB (B+ZB A 32) 32)+ZB (((B+ZB A 32)&&&4294967295)+C) 32).toNat=x1*y1+(x1*y0+x0*y0 / 4294967296) / 4294967296+((x1*y0+x0*y0 / 4294967296) % 4294967296+x0*y1) / 4294967296:=by
  rw[ZhE (by rw[s7,s6];omega),s7,s6]
 rw[s9,s8,prod];generalize x0*y0=a at*;generalize x1*y0=b at*;generalize x0*y1=c at*;generalize x1*y1=d at*;omega
theorem ZCs(x y:UInt64):Zb3 fuel x y=some (yah (x.toNat*y.toNat / 18446744073709551616),yah (x.toNat*y.toNat % 18446744073709551616)):=by
 obtain⟨h,l,e,k⟩:=ZCr x y;have hl:=yby l;rw[e, ←k,show(h.toNat*18446744073709551616+l.toNat) / 18446744073709551616=h.toNat by omega,show(h.toNat*18446744073709551616+l.toNat) % 18446744073709551616=l.toNat by omega,UInt64.ofNat_toNat,UInt64.ofNat_toNat]
noncomputable def Zbg(F:Nat)(a0:UInt64)(a1:UInt64):Option (UInt64×UInt64):=some (yah (a0.toNat*a1.toNat / 18446744073709551616),yah (a0.toNat*a1.toNat % 18446744073709551616))
noncomputable def Zp7(F:Nat):Fs Try.prog:={ ZcI F with M:=λx=>Zbg F x.1 x.2}
noncomputable def Zfj:Fs Try.prog:=Zp7 fuel
theorem Zh4:Zfj.Ok:=Zs1 (s:=ZcI fuel) ZoL λx=>(ZCs x.1 x.2).symm
end Go.Proofs.Ytkapgdbeeblihaa
end
section
set_option maxRecDepth 4000
namespace Go.Proofs.Ytkapgdbeeblihaa
open Go Go.Ev
noncomputable section
def Yc(F:Nat)(a0:UInt64)(a1:UInt64):Option (UInt64):=
 (Zbg F a0 a1).bind λo45=>
 (Xt F o45.1 o45.2 4611686018427377339).bind λo46=>
 some o46
def ZoM(F:Nat):Fs Try.prog:=⟨93,[.v .u64,.v .u64],[],[.u64,.u64],[⟨.ret,[(0,.v .u64)],[],[.u64]⟩],λx=>Yc F x.1 x.2⟩
def Zea:Fs Try.prog:=ZoM fuel
theorem ZgG:Zea.Ok:=fnO { still:=[4,8,9,13,14]} [] [Zfj,Zb2] ⟨Zh4,Zd9,ytt⟩
def Wh(F:Nat)(s:(UInt64×UInt64×UInt64)):Option ((UInt64×UInt64×UInt64)⊕UInt64):=
 if(decide (s.2.1 > 0))=true then
  if((s.2.1&&&1)==1)=true then
   (Yc F s.2.2 s.1).bind λo47=>
   (Yc F s.1 s.1).bind λo48=>
   some (.inl (o48,ZB s.2.1 1,o47))
  else
  (Yc F s.1 s.1).bind λo49=>
  some (.inl (o49,ZB s.2.1 1,s.2.2))
 else
 some (.inr s.2.2)
def ZfJ:Lp:=⟨[(0,.v .u64),(1,.v .u64),(5,.v .u64)],[],[.u64,.u64,.u64],[⟨.exit 0,[(5,.v .u64)],[],[.u64]⟩],Zi (Wh fuel) fuel⟩
theorem ZiJ:ZfJ.okA Try.prog 72 0:=Z6 { still:=[4,13,14,16,17]} [] [Zea] ⟨ZgG,ytt⟩
def Zeb(F:Nat)(a0:UInt64)(a1:UInt64):Option (UInt64):=
 (Zi (Wh F) F (a0,a1,1)).bind λo50=>
 some o50
def Zbx(F:Nat):Fs Try.prog:=⟨72,[.v .u64,.v .u64],[],[.u64,.u64],[⟨.ret,[(0,.v .u64)],[],[.u64]⟩],λx=>Zeb F x.1 x.2⟩
def ZoN:Fs Try.prog:=Zbx fuel
theorem Zmx:ZoN.Ok:=fnO { still:=[4,13,14,16,17]} [(0,ZfJ)] [] trivial ⟨ZiJ,ytt⟩
end
end Go.Proofs.Ytkapgdbeeblihaa
end
section
namespace Go.Ev
def Pr(r:Nat):Prop:=1 < r∧∀k,0 < k→k < r→Nat.gcd k r=1
theorem php:∀(n:Nat)(f:Nat→Nat),(∀i,i≤n→f i < n)→∃i j,i < j∧j≤n∧f i=f j
 |0,f,h=>absurd (h 0 (ym _)) (Nat.not_lt_zero _)
 |n+1,f,h=>by
  by_cases hc:∃i,i≤n∧f i=f (n+1)
  ·obtain⟨i,h1,h2⟩:=hc;exact⟨i,n+1,by omega,ym _,h2⟩
  have hne:∀i,i≤n→f i≠f (n+1):=λi hi e=>hc ⟨i,hi,e⟩;have hv:=h (n+1) (ym _)
  obtain⟨i,j,h1,h2,h3⟩:=php n (λi=>if f i > f (n+1) then f i - 1 else f i) (λi hi=>by
   have a:=h i (by omega);have b:=hne i hi;show(if f i > f (n+1) then f i - 1 else f i) < n
   split <;> omega)
  refine⟨i,j,h1,by omega, ?_⟩;have a:=hne i (by omega);have b:=hne j (by omega);have h3:(if f i > f (n+1) then f i - 1 else f i)=(if f j > f (n+1) then f j - 1 else f j):=h3
  split at h3 <;> split at h3 <;> omega
theorem ZgH{h a m:Nat}(ha:h ^ a % m=1 % m)(k:Nat):h ^ (a*k) % m=1 % m:=by
 rw[Nat.pow_mul,Nat.pow_mod,ha, ←Nat.pow_mod,Nat.one_pow]
theorem Zvi{h a b m:Nat}(ha:h ^ a % m=1 % m)(hb:h ^ b % m=1 % m):h ^ (a % b) % m=1 % m:=by
 have e:a=b*(a / b)+a % b:=(Nat.div_add_mod a b).symm;rw[e,Nat.pow_add,Nat.mul_mod,ZgH hb, ←Nat.mul_mod,Nat.one_mul] at ha;exact ha
theorem Zl3{h m:Nat}(a b:Nat)(ha:h ^ a % m=1 % m)(hb:h ^ b % m=1 % m):h ^ (Nat.gcd a b) % m=1 % m:=by
 induction a,b using Nat.gcd.induction with
 |H0 n=>rw[Nat.gcd_zero_left];exact hb
 |H1 a b h0 ih=>
  rw[Nat.gcd_rec];exact ih (Zvi hb ha) ha
theorem ZCt{h r m i j:Nat}(hr:h ^ r % m=1 % m)(hi:i < j)(hj:j < r)(e:h ^ i % m=h ^ j % m):h ^ (j - i) % m=1 % m:=by
 have h1:h ^ i*h ^ (r - i)=h ^ r:=by rw[←Nat.pow_add];congr 1;omega
 have h2:h ^ j*h ^ (r - i)=h ^ (j - i)*h ^ r:=by rw[←Nat.pow_add, ←Nat.pow_add];congr 1;omega
 have h3:h ^ j*h ^ (r - i) % m=1 % m:=by rw[Nat.mul_mod, ←e, ←Nat.mul_mod,h1,hr]
 rw[h2,Nat.mul_mod,hr, ←Nat.mul_mod,Nat.mul_one] at h3;exact h3
theorem Zxc{h r m i:Nat}(hm:1 < m)(hr:h ^ r % m=1 % m)(hi:i≤r):h ^ i % m≠0:=by
 intro e;have h1:h ^ i*h ^ (r - i)=h ^ r:=by rw[←Nat.pow_add];congr 1;omega
 rw[←h1,Nat.mul_mod,e,Nat.zero_mul,Nat.zero_mod,yar hm] at hr;omega
theorem Zxd{h r c:Nat}(hr:Pr r)(hc:1 < c)(h1:h ^ r % c=1 % c)(h2:h % c≠1 % c):r < c:=by
 rcases ybs r c with k|k
 ·exact k
 exfalso
 obtain⟨i,j,a,b,e⟩:=php (c - 1) (λi=>h ^ i % c - 1) (λi hi=>by
  have:=ybp (h ^ i) (show c > 0 by omega);have:=Zxc hc h1 (i:=i) (by omega);show h ^ i % c - 1 < c - 1;omega)
 have q1:=Zxc hc h1 (i:=i) (by omega);have q2:=Zxc hc h1 (i:=j) (by omega);have e:h ^ i % c - 1=h ^ j % c - 1:=e;have h3:=ZCt h1 a (by omega) (show h ^ i % c=h ^ j % c by omega);have h4:=Zl3 _ _ h3 h1;rw[hr.2 (j - i) (by omega) (by omega),Nat.pow_one] at h4;exact h2 h4
theorem ZyF{n r:Nat}(h:Nat)(hr:Pr r)(hn:1 < n)(hs:n≤r*r)(h1:h ^ r % n=1 % n)(h0:0 < h)(h2:Nat.gcd (h - 1) n=1):Pr n:=by
 refine⟨hn,λk k0 kn=> ?_⟩;have dn:Nat.gcd k n ∣ n:=Nat.gcd_dvd_right k n;have dk:Nat.gcd k n ∣ k:=Nat.gcd_dvd_left k n;have d0:0 < Nat.gcd k n:=Nat.gcd_pos_of_pos_left _ k0;have dl:Nat.gcd k n≤k:=Nat.le_of_dvd k0 dk;generalize Nat.gcd k n=d at*;by_cases d1:d=1
 ·exact d1
 exfalso
 have great:∀c,1 < c→c ∣ n→r < c:=λc c1 cn=>by
  refine Zxd (h:=h) hr c1 ?_ λe=> ?_
  ·obtain⟨q,rfl⟩:=cn;have:=congrArg (· % c) h1;simp only[Nat.mod_mul_right_mod] at this;exact this
  ·have k1:c ∣ h - 1:=Nat.dvd_of_mod_eq_zero (Nat.sub_mod_eq_zero_of_mod_eq e);have:=Nat.dvd_gcd k1 cn;rw[h2] at this;have:=Nat.le_of_dvd (by omega) this;omega
 obtain⟨e,rfl⟩:=dn
 have e1:1 < e:=by
  rcases ybs 1 e with h|h
  ·exact h
  ·have:d*e≤d*1:=Nat.mul_le_mul_left _ h;omega
 have a:=great d (by omega) (Nat.dvd_mul_right ..);have b:=great e e1 (Nat.dvd_mul_left ..);have:=Nat.mul_le_mul (show r+1≤d from a) (show r+1≤e from b)
 rw[yaw,Nat.mul_add] at this;omega
def ZyG(n:Nat):Nat→Bool
 |0=>true
 |k+1=>(decide (k < 1) || !(n % (k+1)==0))&&ZyG n k
theorem ZoO{n:Nat}:∀{k:Nat},ZyG n k=true→∀d,1 < d→d≤k→¬d ∣ n
 |0,_,d,h1,h2=>by omega
 |k+1,h,d,h1,h2=>by
  simp only[ZyG,yi,Bool.or_eq_true,decide_eq_true_eq,Bool.not_eq_true',beq_eq_false_iff_ne] at h;rcases ybs d (k+1) with c|c
  ·exact ZoO h.2 d h1 (by omega)
  ·have:d=k+1:=by omega
   subst this;rcases h.1 with h|h
   ·omega
   ·intro q;exact h (Nat.mod_eq_zero_of_dvd q)
theorem ZCu{n s:Nat}(hn:1 < n)(hs:n < (s+1)*(s+1))(h:ZyG n s=true):Pr n:=by
 refine⟨hn,λk k0 kn=> ?_⟩;have dn:Nat.gcd k n ∣ n:=Nat.gcd_dvd_right k n;have d0:0 < Nat.gcd k n:=Nat.gcd_pos_of_pos_left _ k0;have dl:Nat.gcd k n≤k:=Nat.le_of_dvd k0 (Nat.gcd_dvd_left k n);generalize Nat.gcd k n=d at*;by_cases d1:d=1
 ·exact d1
 exfalso;obtain⟨e,rfl⟩:=dn
 have e1:1 < e:=by
  rcases ybs 1 e with h|h
  ·exact h
  ·have:d*e≤d*1:=Nat.mul_le_mul_left _ h;omega
 rcases ybs s d with a|a
 ·rcases ybs s e with b|b
  ·have:=Nat.mul_le_mul (show s+1≤d from a) (show s+1≤e from b)
   omega
  ·exact ZoO h e e1 b (Nat.dvd_mul_left ..)
 ·exact ZoO h d (by omega) a (Nat.dvd_mul_right ..)
def pwm(m:Nat):Nat→Nat→Nat→Nat→Nat
 |0,_,_,o=>o
 |f+1,a,n,o=>if n=0 then o else pwm m f (a*a % m) (n / 2) (if n % 2=1 then o*a % m else o)
theorem Zs7{m:Nat}:∀(k a n o:Nat),n < 2 ^ k→pwm m k a n o % m=o*a ^ n % m
 |0,a,n,o,h=>by
  have:n=0:=by rw[Nat.pow_zero] at h;omega
  subst this
  rw[pwm,Nat.pow_zero,Nat.mul_one]
 |k+1,a,n,o,h=>by
  rw[pwm];by_cases h0:n=0
  ·rw[if_pos h0,h0,Nat.pow_zero,Nat.mul_one]
  rw[if_neg h0,Zs7 k _ _ _ (by rw[Nat.pow_succ] at h;omega)]
  have e:a ^ n=(a*a) ^ (n / 2)*a ^ (n % 2):=by
   rw[←Nat.pow_two, ←Nat.pow_mul, ←Nat.pow_add];congr 1;omega
  have e2:(a*a % m) ^ (n / 2) % m=(a*a) ^ (n / 2) % m:=(Nat.pow_mod ..).symm;rw[e];split
  ·rename_i h1;rw[h1,Nat.pow_one,Nat.mul_mod,e2, ←Nat.mul_mod,Nat.mul_mod,Nat.mod_mod, ←Nat.mul_mod];congr 1;rw[Nat.mul_assoc,ybr a]
  ·rename_i h1;have:n % 2=0:=by omega
   rw[this,Nat.pow_zero,Nat.mul_one,Nat.mul_mod,e2, ←Nat.mul_mod]
theorem ZoP{m a n z:Nat}(k:Nat)(h:n < 2 ^ k)(e:pwm m k a n 1 % m=z):a ^ n % m=z:=by
 have:=Zs7 (m:=m) k a n 1 h;rw[Nat.one_mul] at this;rw[←this,e]
def pc0:Nat:=7930907
def pc1:Nat:=11864636873
def pc2:Nat:=1732236983459
def pc3:Nat:=249442125618097
def ord:Nat:=2305843009213688669
def mdl:Nat:=4611686018427377339
theorem pr0:Pr pc0:=ZCu (s:=2816) (by decide) (by decide) (by decide+kernel)
theorem pr1:Pr pc1:=ZyF 409113128 pr0 (by decide) (by decide) (ZoP 23 (by decide) (by decide+kernel)) (by decide) (by decide+kernel)
theorem pr2:Pr pc2:=ZyF 353522539148 pr1 (by decide) (by decide) (ZoP 34 (by decide) (by decide+kernel)) (by decide) (by decide+kernel)
theorem pr3:Pr pc3:=ZyF 117107719143424 pr2 (by decide) (by decide) (ZoP 41 (by decide) (by decide+kernel)) (by decide) (by decide+kernel)
theorem pr4:Pr ord:=ZyF 732368710688439132 pr3 (by decide) (by decide) (ZoP 48 (by decide) (by decide+kernel)) (by decide) (by decide+kernel)
def We(a:Nat):Prop:=0 < a∧a < mdl∧a ^ ord % mdl=1
theorem ZFa{a:Nat}(h:a < mdl)(e:a ^ ord % mdl=1):We a:=by
 refine⟨?_,h,e⟩;rcases ycj a with h0|h0
 ·subst h0;rw[Nat.zero_pow (by decide)] at e;cases e
 ·exact h0
theorem Zs8:We 1:=⟨by decide,by decide,by rw[Nat.one_pow];decide⟩
theorem ZCv:We 4:=⟨by decide,by decide,ZoP 61 (by decide) (by decide+kernel)⟩
theorem ZGt{a b:Nat}(ha:We a)(hb:We b):We (a*b % mdl):=by
 refine ZFa (ybp _ (by decide)) ?_;rw[←Nat.pow_mod,Nat.mul_pow,Nat.mul_mod,ha.2.2,hb.2.2];decide
theorem ZGu{a:Nat}(ha:We a)(n:Nat):We (a ^ n % mdl):=by
 refine ZFa (ybp _ (by decide)) ?_;rw[←Nat.pow_mod, ←Nat.pow_mul,ybr];exact ZgH (m:=mdl) ha.2.2 n
theorem ZEt{a:Nat}(ha:We a)(n:Nat):a ^ (n % ord) % mdl=a ^ n % mdl:=by
 have e:n=ord*(n / ord)+n % ord:=(Nat.div_add_mod n _).symm;have h:=ZgH (m:=mdl) (k:=n / ord) ha.2.2
 conv=>rhs;rw[e]
 rw[Nat.pow_add,Nat.mul_mod,h, ←Nat.mul_mod,Nat.one_mul]
theorem ZGv{k:Nat}(h0:0 < k)(h1:k < ord):4 ^ k % mdl≠1:=by
 intro e;have:=Zl3 (h:=4) (m:=mdl) k _ e ZCv.2.2;rw[pr4.2 k h0 h1] at this;revert this;decide
end Go.Ev
end
section
set_option maxRecDepth 4000
namespace Go.Proofs.Ytkapgdbeeblihaa
open Go Go.Ev
theorem ZCw{z:Nat}:(yah (z % 4611686018427377339)).toNat=z % 4611686018427377339:=by
 rw[ybf,yar];exact Nat.lt_trans (ybp _ (by decide)) (by decide)
theorem Zvj(a b:UInt64):Yc fuel a b=some (yah (a.toNat*b.toNat % 4611686018427377339)):=by
 unfold Yc Zbg;rw[ya];dsimp only;unfold Xt;rw[if_pos (by decide),ya,ybf,ybf];have h:a.toNat*b.toNat < 18446744073709551616*18446744073709551616:=Nat.mul_lt_mul'' (yby a) (yby b);have h2:a.toNat*b.toNat / 18446744073709551616 < 18446744073709551616:=(Nat.div_lt_iff_lt_mul (by decide)).2 h;generalize a.toNat*b.toNat=z at*;rw[show(4611686018427377339:UInt64).toNat=4611686018427377339 from rfl]
 have e:z / 18446744073709551616 % 2 ^ 64*18446744073709551616+z % 18446744073709551616 % 2 ^ 64=z:=by omega
 rw[e]
theorem ZoQ:∀(k m:Nat)(A N O:UInt64),N.toNat < 2 ^ k→k < m→Zi (Wh fuel) m (A,N,O)=some (yah (pwm 4611686018427377339 k A.toNat N.toNat O.toNat))
 |k,0,_,_,_,_,h=>by omega
 |0,m+1,A,N,O,h,_=>by
  have hn:¬N > 0:=by
   intro h2;have h3:0 < N.toNat:=ycy.1 h2;rw[Nat.pow_zero] at h;omega
  have hs:Wh fuel (A,N,O)=if decide (N > 0)=true then(if((N&&&1)==1)=true then(Yc fuel O A).bind λo1=>(Yc fuel A A).bind λo2=>some (.inl (o2,ZB N 1,o1)) else(Yc fuel A A).bind λo2=>some (.inl (o2,ZB N 1,O))) else some (.inr O):=rfl
  unfold Zi;rw[hs]
  rw[if_neg (by rw[decide_eq_true_iff];exact hn),ya,pwm,UInt64.ofNat_toNat]
 |k+1,m+1,A,N,O,h,hm=>by
  have hs:Wh fuel (A,N,O)=if decide (N > 0)=true then(if((N&&&1)==1)=true then(Yc fuel O A).bind λo1=>(Yc fuel A A).bind λo2=>some (.inl (o2,ZB N 1,o1)) else(Yc fuel A A).bind λo2=>some (.inl (o2,ZB N 1,O))) else some (.inr O):=rfl
  unfold Zi;rw[hs];by_cases h2:N > 0
  ·have hp:0 < N.toNat→pwm 4611686018427377339 (k+1) A.toNat N.toNat O.toNat=pwm 4611686018427377339 k (A.toNat*A.toNat % 4611686018427377339) (N.toNat / 2) (if N.toNat % 2=1 then O.toNat*A.toNat % 4611686018427377339 else O.toNat):=λh=>by
    rw[pwm,if_neg (by omega)]
   have h3:0 < N.toNat:=ycy.1 h2
   have hsh:(ZB N 1).toNat=N.toNat / 2:=by
    unfold ZB;rw[ybf,yar (Nat.lt_of_le_of_lt (Nat.div_le_self ..) (yby _))]
   have hlt:(ZB N 1).toNat < 2 ^ k:=by
    rw[hsh];rw[Nat.pow_succ] at h;omega
   have hand:((N&&&1)==1)=decide (N.toNat % 2=1):=by
    rw[Bool.eq_iff_iff,beq_iff_eq,decide_eq_true_iff, ←yco,UInt64.toNat_and];exact Iff.of_eq (congrArg (· =1) (Nat.and_one_is_mod _))
   rw[if_pos (decide_eq_true h2),hand,hp h3];simp only[Zvj];by_cases h4:N.toNat % 2=1
   ·rw[if_pos (decide_eq_true h4),if_pos h4,ya,ya,ya];dsimp only;rw[ZoQ k m _ _ _ hlt (by omega),ZCw,ZCw,hsh]
   ·rw[if_neg (by rw[decide_eq_true_iff];exact h4),if_neg h4,ya,ya];dsimp only;rw[ZoQ k m _ _ _ hlt (by omega),ZCw,hsh]
  ·have h3:N.toNat=0:=by
    rcases ycj N.toNat with h5|h5
    ·exact h5
    ·exact absurd (show(0:UInt64) < N from ycy.2 h5) h2
   rw[if_neg (by rw[decide_eq_true_iff];exact h2),ya,pwm,if_pos h3,UInt64.ofNat_toNat]
theorem ZCx(a n:UInt64):Zeb fuel a n=some (yah (pwm 4611686018427377339 64 a.toNat n.toNat 1)):=by
 unfold Zeb;rw[ZoQ 64 fuel a n 1 (yby _) (by rw[ZjQ];omega),ya];rfl
noncomputable def VD(F:Nat)(a0:UInt64)(a1:UInt64):Option UInt64:=some (yah (pwm 4611686018427377339 64 a0.toNat a1.toNat 1))
noncomputable def ZoR(F:Nat):Fs Try.prog:={ Zbx F with M:=λx=>VD F x.1 x.2}
noncomputable def ZaT:Fs Try.prog:=ZoR fuel
theorem ZcJ:ZaT.Ok:=Zs1 (s:=Zbx fuel) Zmx λx=>(ZCx x.1 x.2).symm
end Go.Proofs.Ytkapgdbeeblihaa
end
section
set_option maxRecDepth 4000
namespace Go.Proofs.Ytkapgdbeeblihaa
open Go Go.Ev
noncomputable section
def Xq(F:Nat)(a0:UInt64):Option (Bool):=
 if(decide (a0 > 0))=true then
  if(decide (a0 < 4611686018427377339))=true then
   (VD F a0 2305843009213688669).bind λo51=>
   some (o51==1)
  else
  some false
 else
 some false
def ZoS(F:Nat):Fs Try.prog:=⟨69,[.v .u64],[],[.u64],[⟨.ret,[(0,.v .bool)],[],[.bool]⟩],λx=>Xq F x⟩
def VT:Fs Try.prog:=ZoS fuel
theorem QW:VT.Ok:=fnO { still:=[2,10]} [] [ZaT] ⟨ZcJ,ytt⟩
def W5(F:Nat)(a0:UInt64):Option (Bool):=
 (Xq F a0).bind λo52=>
 some (!o52)
def Zmy(F:Nat):Fs Try.prog:=⟨68,[.v .u64],[],[.u64],[⟨.ret,[(0,.v .bool)],[],[.bool]⟩],λx=>W5 F x⟩
def ZcK:Fs Try.prog:=Zmy fuel
theorem ZfK:ZcK.Ok:=fnO { still:=[2,3]} [] [VT] ⟨QW,ytt⟩
def WN(F:Nat)(a0:Int):Option (Bool):=
 if(decide (a0 ≥ 0))=true then
  some (decide (a0≤1048576))
 else
 some false
def ZoT(F:Nat):Fs Try.prog:=⟨71,[.v yI],[],[yI],[⟨.ret,[(0,.v .bool)],[],[.bool]⟩],λx=>WN F x⟩
def Zh5:Fs Try.prog:=ZoT fuel
theorem ZoU:Zh5.Ok:=fnO { still:=[2]} [] [] trivial
def Y2(F:Nat)(s:((List UInt64)×Int×Int)):Option (((List UInt64)×Int×Int)⊕(Int⊕Unit)):=
 if(decide (s.2.2 < s.2.1))=true then
  (idx s.1 s.2.2).bind λe54=>
  (W5 F e54).bind λo55=>
  if o55=true then
   some (.inr (.inl s.2.2))
  else
  some (.inl (s.1,s.2.1,wi (s.2.2+1)))
 else
 some (.inr (.inr ()))
def ZfL:Lp:=⟨[(0,.v (.sl .u64)),(1,.fn 68 []),(7,.v yI),(8,.v yI)],[],[(.sl .u64),yI,yI],[⟨.ret,[(4,.v yI)],[],[yI]⟩,⟨.exit 0,[],[],[]⟩],Zi (Y2 fuel) fuel⟩
theorem ZiK:ZfL.okA Try.prog 92 0:=Z6 { still:=[4,15]} [] [ZcK] ⟨ZfK,ytt⟩
def ZaU(F:Nat)(a0:(List UInt64)):Option (Int):=
 (Zi (Y2 F) F (a0,(a0.length:Int),0)).bind λo56=>
 match o56 with
 |.inl o57=>
  some o57
 |.inr o58=>
  some (-1)
def Zmz(F:Nat):Fs Try.prog:=⟨92,[.v (.sl .u64),.fn 68 []],[],[(.sl .u64)],[⟨.ret,[(0,.v yI)],[],[yI]⟩],λx=>ZaU F x⟩
def ZgI:Fs Try.prog:=Zmz fuel
theorem ZmA:ZgI.Ok:=fnO { still:=[4,15]} [(0,ZfL)] [] trivial ⟨ZiK,ytt⟩
def W6(F:Nat)(a0:(List UInt64)):Option (Bool):=
 (ZaU F a0).bind λo59=>
 some (decide (o59 ≥ 0))
def ZmB(F:Nat):Fs Try.prog:=⟨70,[.v (.sl .u64),.fn 68 []],[],[(.sl .u64)],[⟨.ret,[(0,.v .bool)],[],[.bool]⟩],λx=>W6 F x⟩
def ZgJ:Fs Try.prog:=ZmB fuel
theorem ZmC:ZgJ.Ok:=fnO { still:=[4,5,6]} [] [ZgI] ⟨ZmA,ytt⟩
def XN(F:Nat)(s:((List Z1)×Int×Int×XQ)):Option (((List Z1)×Int×Int×XQ)⊕((Bool×XQ)⊕XQ)):=
 if(decide (s.2.2.1 < s.2.1))=true then
  (idx s.1 s.2.2.1).bind λe53=>
  if(decide ((e53.1.length:Int) > 12))=true then
   some (.inr (.inl (false,s.2.2.2)))
  else
  (W6 F e53.1).bind λo60=>
  if o60=true then
   some (.inr (.inl (false,s.2.2.2)))
  else
  (WN F e53.2.1).bind λo61=>
  if(!o61)=true then
   some (.inr (.inl (false,s.2.2.2)))
  else
  (WN F e53.2.2.1).bind λo62=>
  if(!o62)=true then
   some (.inr (.inl (false,s.2.2.2)))
  else
  if(e53.2.2.2 !=0)=true then
   (W5 F e53.2.2.2).bind λo63=>
   if o63=true then
    some (.inr (.inl (false,s.2.2.2)))
   else
   some (.inl (s.1,s.2.1,wi (s.2.2.1+1),s.2.2.2))
  else
  some (.inl (s.1,s.2.1,wi (s.2.2.1+1),s.2.2.2))
 else
 some (.inr (.inr s.2.2.2))
def Zh6:Lp:=⟨[(1,.ref 0 []),(3,.fn 68 []),(7,.v (.sl ZO)),(8,.v yI),(9,.v yI)],[.var (.v YP) true],[(.sl ZO),yI,yI,YP],[⟨.ret,[(2,.v .bool)],[.var (.v YP) true],[.bool,YP]⟩,⟨.exit 0,[(1,.ref 0 [])],[.var (.v YP) true],[YP]⟩],Zi (XN fuel) fuel⟩
theorem Zle:Zh6.okA Try.prog 45 0:=Z6 { still:=[2,19,20,25,31,42]} [] [ZgJ,Zh5,ZcK] ⟨ZmC,ZoU,ZfK,ytt⟩
def Xu(F:Nat)(a0:XQ):Option (Bool):=
 (Zi (XN F) F (a0,(a0.length:Int),0,a0)).bind λo64=>
 match o64 with
 |.inl o65=>
  some o65.1
 |.inr o66=>
  if(decide ((o66.length:Int) > 0))=true then
   some (decide ((o66.length:Int)≤4))
  else
  some false
def Zp8(F:Nat):Fs Try.prog:=⟨45,[.v YP],[],[YP],[⟨.ret,[(0,.v .bool)],[],[.bool]⟩],λx=>Xu F x⟩
def QX:Fs Try.prog:=Zp8 fuel
theorem ZaV:QX.Ok:=fnO { still:=[2,19,20,25,31,42]} [(0,Zh6)] [] trivial ⟨Zle,ytt⟩
abbrev Zb:Ty:=(.st [(.arr 32 .u8),yI])
abbrev Zd:Type:=((List UInt8)×Int)
abbrev ZL:Ty:=(.st [Zt,yI])
abbrev Ww:Type:=(Out×Int)
abbrev V9:Ty:=(.st [Zb,ZL])
abbrev Yo:Type:=(Zd×Ww)
abbrev Yo.c(x:Yo):Ww:=x.2
abbrev Ze:Ty:=(.st [(.sl V9),(.sl Zb)])
abbrev Zo:Type:=((List Yo)×(List Zd))
abbrev Zo.gone(x:Zo):(List Yo):=x.1
def Xv(F:Nat)(s:(Int×(List Out)×Int×Int×(List (Zd×Ww))×(List Zo))):Option ((Int×(List Out)×Int×Int×(List (Zd×Ww))×(List Zo))⊕(((List (Zd×Ww))×(List Zo))⊕((List (Zd×Ww))×(List Zo)))):=
 if(decide (s.2.2.2.1 < s.2.2.1))=true then
  (idx s.2.1 s.2.2.2.1).bind λe67=>
  (Xu F e67.2).bind λo68=>
  if(!o68)=true then
   some (.inr (.inl (s.2.2.2.2.1,s.2.2.2.2.2)))
  else
  if(decide (e67.1 < 0))=true then
   some (.inr (.inl (s.2.2.2.2.1,s.2.2.2.2.2)))
  else
  if(decide (e67.1 > (wi (1125899906842624 - s.1))))=true then
   some (.inr (.inl (s.2.2.2.2.1,s.2.2.2.2.2)))
  else
  (ZcG F e67).bind λo69=>
  let y70:(List (Zd×Ww)):=Zcz s.2.2.2.2.1 (yzz,s.2.2.2.1) (o69,(0:Int))
  some (.inl (wi (s.1+e67.1),s.2.1,s.2.2.1,wi (s.2.2.2.1+1),y70,s.2.2.2.2.2))
 else
 some (.inr (.inr (s.2.2.2.2.1,s.2.2.2.2.2)))
def ZjX:Lp:=⟨[(3,.ref 1 []),(4,.v yI),(13,.v (.sl Zt)),(14,.v yI),(15,.v yI)],[.map 104 Zb ZL,.var (.agg [.mp 0,.own 2 Ze]) true,.log Ze 101],[yI,(.sl Zt),yI,yI,(YN Zb ZL),(.sl Ze)],[⟨.ret,[(2,.ptr0)],[.map 104 Zb ZL,.var (.agg [.mp 0,.own 2 Ze]) true,.log Ze 101],[(YN Zb ZL),(.sl Ze)]⟩,⟨.exit 0,[(3,.ref 1 [])],[.map 104 Zb ZL,.var (.agg [.mp 0,.own 2 Ze]) true,.log Ze 101],[(YN Zb ZL),(.sl Ze)]⟩],Zi (Xv fuel) fuel⟩
def hi2:HI:={ still:=[2,21,46],ghost:=[(12,[([1],Ze,101)])]}
theorem ZmD:ZjX.okA Try.prog 18 0:=Z6 hi2 [] [QX,ZgD] ⟨ZaV,ZjU,ytt⟩
def Zfk(F:Nat)(a0:(List Out)):Option (Unit⊕((List (Zd×Ww))×(List Zo))):=
 if(decide ((a0.length:Int) > 256))=true then
  some (.inl ())
 else
 (Zi (Xv F) F (0,a0,(a0.length:Int),0,([]:List (Zd×Ww)),[])).bind λo71=>
 match o71 with
 |.inl o72=>
  some (.inl ())
 |.inr o73=>
  some (.inr (o73.1,o73.2))
def Zfl(F:Nat):Fs Try.prog:=⟨18,[.v (.sl Zt)],[],[(.sl Zt)],[⟨.ret,[(0,.ptr0)],[],[]⟩,⟨.ret,[(0,.ref 0 [])],[.var (.agg [.mp 1,.own 2 Ze]) true,.map 104 Zb ZL,.log Ze 101],[(YN Zb ZL),(.sl Ze)]⟩],λx=>Zfk F x⟩
def Zl4:Fs Try.prog:=Zfl fuel
theorem ZjY:Zl4.Ok:=fnO hi2 [(0,ZjX)] [] trivial ⟨ZmD,ytt⟩
abbrev ZA:Ty:=(.st [.u64,.u64])
abbrev Sig:Type:=(UInt64×UInt64)
abbrev Vr:Ty:=(.st [yI,(.sl ZA),.u64])
abbrev ZaW:Type:=(Int×(List Sig)×UInt64)
def Zbh(F:Nat)(a0:ZaW):Option (Bool):=
 if(decide (a0.1 ≥ 0))=true then
  if(decide (a0.1 < 4))=true then
   some (decide ((a0.2.1.length:Int)≤12))
  else
  some false
 else
 some false
def Zp9(F:Nat):Fs Try.prog:=⟨54,[.v Vr],[],[Vr],[⟨.ret,[(0,.v .bool)],[],[.bool]⟩],λx=>Zbh F x⟩
def ZjZ:Fs Try.prog:=Zp9 fuel
theorem Zqa:ZjZ.Ok:=fnO { still:=[2]} [] [] trivial
def ZcL(F:Nat)(a0:Int):Option (Bool):=
 if(decide (a0 ≥ 0))=true then
  some (decide (a0≤1125899906842624))
 else
 some false
def Zs9(F:Nat):Fs Try.prog:=⟨84,[.v yI],[],[yI],[⟨.ret,[(0,.v .bool)],[],[.bool]⟩],λx=>ZcL F x⟩
def Zl5:Fs Try.prog:=Zs9 fuel
theorem Zta:Zl5.Ok:=fnO { still:=[2]} [] [] trivial
def Zj0(F:Nat)(a0:Int)(a1:Int):Option ((Int×Bool)):=
 (ZcL F a0).bind λo74=>
 if(!o74)=true then
  some (0,false)
 else
 (ZcL F a1).bind λo75=>
 if(!o75)=true then
  some (0,false)
 else
 if(decide (a0 > (wi (1125899906842624 - a1))))=true then
  some (0,false)
 else
 some (wi (a0+a1),true)
def Zxe(F:Nat):Fs Try.prog:=⟨55,[.v yI,.v yI],[],[yI,yI],[⟨.ret,[(0,.tup [.v yI,.v .bool])],[],[yI,.bool]⟩],λx=>Zj0 F x.1 x.2⟩
def Zrl:Fs Try.prog:=Zxe fuel
theorem Zxf:Zrl.Ok:=fnO { still:=[4,5,6,10]} [] [Zl5] ⟨Zta,ytt⟩
abbrev yIn:Ty:=(.st [Zb,Vr])
abbrev In:Type:=(Zd×ZaW)
abbrev yTx:Ty:=(.st [(.sl yIn),(.sl Zt),yI])
abbrev Tx:Type:=((List In)×(List Out)×Int)
def QY(F:Nat)(s:((List In)×Int×Int×Tx×(List (Zd×Bool)))):Option (((List In)×Int×Int×Tx×(List (Zd×Bool)))⊕((Bool×Tx×(List (Zd×Bool)))⊕(Tx×(List (Zd×Bool))))):=
 if(decide (s.2.2.1 < s.2.1))=true then
  (idx s.1 s.2.2.1).bind λe76=>
  ZdC (YZ s.2.2.2.2 e76.1) (λe77=>
   if e77=true then
    some (.inr (.inl (false,s.2.2.2.1,s.2.2.2.2)))
   else
   if(decide (e76.1.2 < 0))=true then
    some (.inr (.inl (false,s.2.2.2.1,s.2.2.2.2)))
   else
   if(decide (e76.1.2 ≥ 64))=true then
    some (.inr (.inl (false,s.2.2.2.1,s.2.2.2.2)))
   else
   (Zbh F e76.2).bind λo78=>
   if(!o78)=true then
    some (.inr (.inl (false,s.2.2.2.1,s.2.2.2.2)))
   else
   some (.inl (s.1,s.2.1,wi (s.2.2.1+1),s.2.2.2.1,Zcz s.2.2.2.2 e76.1 true))) (
   if(decide (e76.1.2 < 0))=true then
    some (.inr (.inl (false,s.2.2.2.1,s.2.2.2.2)))
   else
   if(decide (e76.1.2 ≥ 64))=true then
    some (.inr (.inl (false,s.2.2.2.1,s.2.2.2.2)))
   else
   (Zbh F e76.2).bind λo79=>
   if(!o79)=true then
    some (.inr (.inl (false,s.2.2.2.1,s.2.2.2.2)))
   else
   some (.inl (s.1,s.2.1,wi (s.2.2.1+1),s.2.2.2.1,Zcz s.2.2.2.2 e76.1 true)))
 else
 some (.inr (.inr (s.2.2.2.1,s.2.2.2.2)))
def Zl6:Lp:=⟨[(1,.ref 0 []),(3,.mp 1),(33,.v (.sl yIn)),(34,.v yI),(35,.v yI)],[.var (.v yTx) true,.map 129 Zb .bool],[(.sl yIn),yI,yI,yTx,(YN Zb .bool)],[⟨.ret,[(2,.v .bool)],[.var (.v yTx) true,.map 129 Zb .bool],[.bool,yTx,(YN Zb .bool)]⟩,⟨.exit 0,[(1,.ref 0 [])],[.var (.v yTx) true,.map 129 Zb .bool],[yTx,(YN Zb .bool)]⟩],Zi (QY fuel) fuel⟩
theorem ZoV:Zl6.okA Try.prog 29 0:=Z6 { still:=[2,57,73,75,83]} [] [ZjZ] ⟨Zqa,ytt⟩
def Zb4(F:Nat)(s:(Int×(List Out)×Int×Int×Tx×(List (Zd×Bool)))):Option ((Int×(List Out)×Int×Int×Tx×(List (Zd×Bool)))⊕((Bool×Tx×(List (Zd×Bool)))⊕(Tx×(List (Zd×Bool))))):=
 if(decide (s.2.2.2.1 < s.2.2.1))=true then
  (idx s.2.1 s.2.2.2.1).bind λe83=>
  (Zj0 F s.1 e83.1).bind λo84=>
  if(!o84.2)=true then
   some (.inr (.inl (false,s.2.2.2.2.1,s.2.2.2.2.2)))
  else
  (Xu F e83.2).bind λo85=>
  if(!o85)=true then
   some (.inr (.inl (false,s.2.2.2.2.1,s.2.2.2.2.2)))
  else
  some (.inl (o84.1,s.2.1,s.2.2.1,wi (s.2.2.2.1+1),s.2.2.2.2.1,s.2.2.2.2.2))
 else
 some (.inr (.inr (s.2.2.2.2.1,s.2.2.2.2.2)))
def Zl7:Lp:=⟨[(6,.v yI),(66,.v (.sl Zt)),(67,.v yI),(68,.v yI)],[.var (.v yTx) true,.map 129 Zb .bool],[yI,(.sl Zt),yI,yI,yTx,(YN Zb .bool)],[⟨.ret,[(2,.v .bool)],[.var (.v yTx) true,.map 129 Zb .bool],[.bool,yTx,(YN Zb .bool)]⟩,⟨.exit 2,[],[.var (.v yTx) true,.map 129 Zb .bool],[yTx,(YN Zb .bool)]⟩],Zi (Zb4 fuel) fuel⟩
theorem ZoW:Zl7.okA Try.prog 29 1:=Z6 { still:=[2,57,73,75,83]} [] [Zrl,QX] ⟨Zxf,ZaV,ytt⟩
def Qo(F:Nat)(a0:Tx):Option (Bool):=
 if(decide ((a0.1.length:Int) < 1))=true then
  some false
 else
 if(decide ((a0.1.length:Int) > 64))=true then
  some false
 else
 if(decide ((a0.2.1.length:Int) > 64))=true then
  some false
 else
 if(decide (a0.2.2 < 0))=true then
  some false
 else
 (Zi (QY F) F (a0.1,(a0.1.length:Int),0,a0,([]:List (Zd×Bool)))).bind λo80=>
 match o80 with
 |.inl o81=>
  some o81.1
 |.inr o82=>
  (Zi (Zb4 F) F (0,o82.1.2.1,(o82.1.2.1.length:Int),0,o82.1,o82.2)).bind λo86=>
  match o86 with
  |.inl o87=>
   some o87.1
  |.inr o88=>
   some true
def Zvk(F:Nat):Fs Try.prog:=⟨29,[.v yTx],[],[yTx],[⟨.ret,[(0,.v .bool)],[],[.bool]⟩],λx=>Qo F x⟩
def ZcM:Fs Try.prog:=Zvk fuel
theorem ZdI:ZcM.Ok:=fnO { still:=[2,57,73,75,83]} [(0,Zl6),(1,Zl7)] [] trivial ⟨ZoV,ZoW,ytt⟩
def ZgK(F:Nat):Option ((List UInt32)):=
 some [1779033703,3144134277,1013904242,2773480762,1359893119,2600822924,528734635,1541459225]
def Zqb(F:Nat):Fs Try.prog:=⟨86,[],[],[],[⟨.ret,[(0,.v (.arr 8 .u32))],[],[(.arr 8 .u32)]⟩],λx=>ZgK F⟩
def Zj1:Fs Try.prog:=Zqb fuel
theorem Zqc:Zj1.Ok:=fnO {} [] [] trivial
def ZG(F:Nat)(a0:UInt32)(a1:Int):Option (UInt32):=
 let y90:UInt32:=Zgs a0 (min (((w64 a1)&&&31).toNat:Int).toNat 32);let y91:UInt32:=ZfF a0 (min ((32 - ((w64 a1)&&&31)).toNat:Int).toNat 32)
 some (y90|||y91)
def ZgL(F:Nat):Fs Try.prog:=⟨98,[.v .u32,.v yI],[],[.u32,yI],[⟨.ret,[(0,.v .u32)],[],[.u32]⟩],λx=>ZG F x.1 x.2⟩
def VM:Fs Try.prog:=ZgL fuel
theorem Zbi:VM.Ok:=fnO { still:=[4]} [] [] trivial
def Zb5(F:Nat)(a0:(List UInt8)):Option (UInt32):=
 (idx a0 0).bind λe92=>
 (idx a0 1).bind λe93=>
 let y94:UInt32:=(Zgs (UInt32.ofNat e92.toNat) 24)|||(Zgs (UInt32.ofNat e93.toNat) 16)
 (idx a0 2).bind λe95=>
 (idx a0 3).bind λe96=>
 let y97:UInt32:=(y94|||(Zgs (UInt32.ofNat e95.toNat) 8))|||(UInt32.ofNat e96.toNat)
 some y97
def ZoX(F:Nat):Fs Try.prog:=⟨103,[.v (.sl .u8)],[],[(.sl .u8)],[⟨.ret,[(0,.v .u32)],[],[.u32]⟩],λx=>Zb5 F x⟩
def Zh7:Fs Try.prog:=ZoX fuel
theorem ZoY:Zh7.Ok:=fnO { still:=[2]} [] [] trivial
def Vi(F:Nat)(s:((List UInt8)×Int×(List UInt32))):Option (((List UInt8)×Int×(List UInt32))⊕(List UInt32)):=
 if(decide (s.2.1 < 64))=true then
  if(decide (s.2.1 < 16))=true then
   if(Zd6 s.1.length (some (wi (4*s.2.1))) none)=true then
    (Zb5 F (s.1.drop ((wi (4*s.2.1)).toNat))).bind λo98=>
    if(inB s.2.1 64)=true then
     (s.2.2[s.2.1.toNat]?).bind λe99=>
     some (.inl (s.1,wi (s.2.1+1),s.2.2.set s.2.1.toNat o98))
    else
    none
   else
   none
  else
  if(inB (wi (s.2.1 - 15)) 64)=true then
   (s.2.2[(wi (s.2.1 - 15)).toNat]?).bind λe100=>
   if(inB (wi (s.2.1 - 2)) 64)=true then
    (s.2.2[(wi (s.2.1 - 2)).toNat]?).bind λe101=>
    (ZG F e100 (-7)).bind λo102=>
    (ZG F e100 (-18)).bind λo103=>
    (ZG F e101 (-17)).bind λo104=>
    (ZG F e101 (-19)).bind λo105=>
    if(inB (wi (s.2.1 - 16)) 64)=true then
     (s.2.2[(wi (s.2.1 - 16)).toNat]?).bind λe106=>
     if(inB (wi (s.2.1 - 7)) 64)=true then
      (s.2.2[(wi (s.2.1 - 7)).toNat]?).bind λe107=>
      let y108:UInt32:=(e106+((o102^^^o103)^^^(ZfF e100 3)))+e107
      if(inB s.2.1 64)=true then
       (s.2.2[s.2.1.toNat]?).bind λe109=>
       let y110:(List UInt32):=s.2.2.set s.2.1.toNat (y108+((o104^^^o105)^^^(ZfF e101 10)))
       some (.inl (s.1,wi (s.2.1+1),y110))
      else
      none
     else
     none
    else
    none
   else
   none
  else
  none
 else
 some (.inr s.2.2)
def ZeI:Lp:=⟨[(0,.v (.sl .u8)),(2,.ref 0 []),(8,.v yI)],[.var (.v (.arr 64 .u32)) true],[(.sl .u8),yI,(.arr 64 .u32)],[⟨.exit 0,[(2,.ref 0 [])],[.var (.v (.arr 64 .u32)) true],[(.arr 64 .u32)]⟩],Zi (Vi fuel) fuel⟩
theorem ZhQ:ZeI.okA Try.prog 96 0:=Z6 { still:=[17,28,30,36,38]} [] [Zh7,VM] ⟨ZoY,Zbi,ytt⟩
def QZ(F:Nat)(a0:(List UInt8)):Option ((List UInt32)):=
 (Zi (Vi F) F (a0,0,[0,0,0,0,0,0,0,0,0,0,0,0,0,0,0,0,0,0,0,0,0,0,0,0,0,0,0,0,0,0,0,0,0,0,0,0,0,0,0,0,0,0,0,0,0,0,0,0,0,0,0,0,0,0,0,0,0,0,0,0,0,0,0,0])).bind λo111=>
 some o111
def Zlf(F:Nat):Fs Try.prog:=⟨96,[.v (.sl .u8)],[],[(.sl .u8)],[⟨.ret,[(0,.v (.arr 64 .u32))],[],[(.arr 64 .u32)]⟩],λx=>QZ F x⟩
def ZfM:Fs Try.prog:=Zlf fuel
theorem Zlg:ZfM.Ok:=fnO { still:=[17,28,30,36,38]} [(0,ZeI)] [] trivial ⟨ZhQ,ytt⟩
def ZgM(F:Nat):Option ((List UInt32)):=
 some [1116352408,1899447441,3049323471,3921009573,961987163,1508970993,2453635748,2870763221,3624381080,310598401,607225278,1426881987,1925078388,2162078206,2614888103,3248222580,3835390401,4022224774,264347078,604807628,770255983,1249150122,1555081692,1996064986,2554220882,2821834349,2952996808,3210313671,3336571891,3584528711,113926993,338241895,666307205,773529912,1294757372,1396182291,1695183700,1986661051,2177026350,2456956037,2730485921,2820302411,3259730800,3345764771,3516065817,3600352804,4094571909,275423344,430227734,506948616,659060556,883997877,958139571,1322822218,1537002063,1747873779,1955562222,2024104815,2227730452,2361852424,2428436474,2756734187,3204031479,3329325298]
def Zqd(F:Nat):Fs Try.prog:=⟨97,[],[],[],[⟨.ret,[(0,.v (.arr 64 .u32))],[],[(.arr 64 .u32)]⟩],λx=>ZgM F⟩
def Zj2:Fs Try.prog:=Zqd fuel
theorem Zqe:Zj2.Ok:=fnO {} [] [] trivial
def WO(F:Nat)(s:(Int×(List UInt32)×(List UInt32)×(List UInt32)×(List UInt32)×(List UInt32))):Option ((Int×(List UInt32)×(List UInt32)×(List UInt32)×(List UInt32)×(List UInt32))⊕((List UInt32)×(List UInt32)×(List UInt32)×(List UInt32)×(List UInt32))):=
 if(decide (s.1 < 64))=true then
  (s.2.2.2.2.2[4]?).bind λe114=>
  (ZG F e114 (-6)).bind λo115=>
  (s.2.2.2.2.2[4]?).bind λe116=>
  (ZG F e116 (-11)).bind λo117=>
  (s.2.2.2.2.2[4]?).bind λe118=>
  (ZG F e118 (-25)).bind λo119=>
  (s.2.2.2.2.2[7]?).bind λe120=>
  (s.2.2.2.2.2[6]?).bind λe121=>
  (s.2.2.2.2.2[4]?).bind λe122=>
  (s.2.2.2.2.2[5]?).bind λe123=>
  (s.2.2.2.2.2[6]?).bind λe124=>
  let y125:UInt32:=(e120+((o115^^^o117)^^^o119))+(e121^^^(e122&&&(e123^^^e124)))
  if(inB s.1 64)=true then
   (s.2.2.2.2.1[s.1.toNat]?).bind λe126=>
   if(inB s.1 64)=true then
    (s.2.2.2.1[s.1.toNat]?).bind λe127=>
    (s.2.2.2.2.2[0]?).bind λe128=>
    (ZG F e128 (-2)).bind λo129=>
    (s.2.2.2.2.2[0]?).bind λe130=>
    (ZG F e130 (-13)).bind λo131=>
    (s.2.2.2.2.2[0]?).bind λe132=>
    (ZG F e132 (-22)).bind λo133=>
    (s.2.2.2.2.2[0]?).bind λe134=>
    (s.2.2.2.2.2[1]?).bind λe135=>
    (s.2.2.2.2.2[2]?).bind λe136=>
    (s.2.2.2.2.2[0]?).bind λe137=>
    (s.2.2.2.2.2[1]?).bind λe138=>
    let y139:UInt32:=((y125+e126)+e127)+((o129^^^o131)^^^o133);let y140:UInt32:=y139+((e134&&&e135)|||(e136&&&(e137|||e138)))
    (s.2.2.2.2.2[0]?).bind λe141=>
    (s.2.2.2.2.2[1]?).bind λe142=>
    (s.2.2.2.2.2[2]?).bind λe143=>
    (s.2.2.2.2.2[3]?).bind λe144=>
    (s.2.2.2.2.2[4]?).bind λe145=>
    (s.2.2.2.2.2[5]?).bind λe146=>
    (s.2.2.2.2.2[6]?).bind λe147=>
    some (.inl (wi (s.1+1),s.2.1,s.2.2.1,s.2.2.2.1,s.2.2.2.2.1,[y140,e141,e142,e143,e144+((y125+e126)+e127),e145,e146,e147]))
   else
   none
  else
  none
 else
 some (.inr (s.2.1,s.2.2.1,s.2.2.2.1,s.2.2.2.2.1,s.2.2.2.2.2))
def ZEu:List ESh:=[.var (.v (.arr 8 .u32)) true,.var (.v (.arr 8 .u32)) true,.var (.v (.arr 64 .u32)) true,.var (.v (.arr 64 .u32)) true,.var (.v (.arr 8 .u32)) true]
def ZdJ:Lp:=⟨[(2,.ref 0 []),(4,.ref 1 []),(5,.ref 2 []),(6,.ref 3 []),(7,.ref 4 []),(18,.v yI)],ZEu,[yI,(.arr 8 .u32),(.arr 8 .u32),(.arr 64 .u32),(.arr 64 .u32),(.arr 8 .u32)],[⟨.exit 0,[(2,.ref 0 []),(4,.ref 1 []),(7,.ref 4 [])],ZEu,[(.arr 8 .u32),(.arr 8 .u32),(.arr 64 .u32),(.arr 64 .u32),(.arr 8 .u32)]⟩],Zi (WO fuel) fuel⟩
def hi3:HI:={ still:=[14,22,25,29,57,60,64]}
theorem ZgN:ZdJ.okA Try.prog 87 0:=Z6 hi3 [] [VM] ⟨Zbi,ytt⟩
def WP(F:Nat)(s:(Int×(List UInt32)×(List UInt32)×(List UInt32)×(List UInt32)×(List UInt32))):Option ((Int×(List UInt32)×(List UInt32)×(List UInt32)×(List UInt32)×(List UInt32))⊕((List UInt32)×(List UInt32)×(List UInt32)×(List UInt32)×(List UInt32))):=
 if(decide (s.1 < 8))=true then
  if(inB s.1 8)=true then
   (s.2.2.2.2.2[s.1.toNat]?).bind λe149=>
   if(inB s.1 8)=true then
    (s.2.1[s.1.toNat]?).bind λe150=>
    if(inB s.1 8)=true then
     (s.2.2.2.2.2[s.1.toNat]?).bind λe151=>
     some (.inl (wi (s.1+1),s.2.1,s.2.2.1,s.2.2.2.1,s.2.2.2.2.1,s.2.2.2.2.2.set s.1.toNat (e149+e150)))
    else
    none
   else
   none
  else
  none
 else
 some (.inr (s.2.1,s.2.2.1,s.2.2.2.1,s.2.2.2.2.1,s.2.2.2.2.2))
def ZdK:Lp:=⟨[(2,.ref 0 []),(4,.ref 1 []),(7,.ref 4 []),(104,.v yI)],ZEu,[yI,(.arr 8 .u32),(.arr 8 .u32),(.arr 64 .u32),(.arr 64 .u32),(.arr 8 .u32)],[⟨.exit 2,[(4,.ref 1 []),(7,.ref 4 [])],ZEu,[(.arr 8 .u32),(.arr 8 .u32),(.arr 64 .u32),(.arr 64 .u32),(.arr 8 .u32)]⟩],Zi (WP fuel) fuel⟩
theorem ZgO:ZdK.okA Try.prog 87 1:=Z6 hi3 [] [] trivial
def WX(F:Nat)(a0:(List UInt32))(a1:(List UInt8)):Option ((List UInt32)):=
 (QZ F a1).bind λo112=>
 (ZgM F).bind λo113=>
 (Zi (WO F) F (0,a0,[0,0,0,0,0,0,0,0],o112,o113,a0)).bind λo148=>
 (Zi (WP F) F (0,o148.1,o148.2.1,o148.2.2.1,o148.2.2.2.1,o148.2.2.2.2)).bind λo152=>
 some o152.2.2.2.2
def Zj3(F:Nat):Fs Try.prog:=⟨87,[.v (.arr 8 .u32),.v (.sl .u8)],[],[(.arr 8 .u32),(.sl .u8)],[⟨.ret,[(0,.v (.arr 8 .u32))],[],[(.arr 8 .u32)]⟩],λx=>WX F x.1 x.2⟩
def ZaD:Fs Try.prog:=Zj3 fuel
theorem ZdL:ZaD.Ok:=fnO hi3 [(0,ZdJ),(1,ZdK)] [ZfM,Zj2] ⟨Zlg,Zqe,ytt⟩ ⟨ZgN,ZgO,ytt⟩
def Z2(F:Nat)(a0:(List UInt8)):Option ((List UInt8)):=
 if(apB 0 a0.length 1)=true then
  some a0
 else
 none
def Zby(F:Nat):Fs Try.prog:=⟨85,[.sl true .u8],[],[(.sl .u8)],[⟨.ret,[(0,.own 0 .u8)],[.log .u8 5],[(.sl .u8)]⟩],λx=>Z2 F x⟩
def Zb6:Fs Try.prog:=Zby fuel
theorem Zbz:Zb6.Ok:=fnO { own:=[2,5,7]} [] [] trivial
def Vs(F:Nat):Option ((List UInt8)):=
 some []
def ZbA(F:Nat):Fs Try.prog:=⟨85,[.nil .u8],[],[],[⟨.ret,[(0,.own 0 .u8)],[.log .u8 5],[(.sl .u8)]⟩],λx=>Vs F⟩
def Zb7:Fs Try.prog:=ZbA fuel
theorem ZbB:Zb7.Ok:=fnO { own:=[2,5,7]} [] [] trivial
def ZaE(F:Nat):Fs Try.prog:=⟨85,[.v (.sl .u8)],[],[(.sl .u8)],[⟨.ret,[(0,.own 0 .u8)],[.log .u8 5],[(.sl .u8)]⟩],λx=>Z2 F x⟩
def Wz:Fs Try.prog:=ZaE fuel
theorem ZaF:Wz.Ok:=Zw7 (t:=.u8) (xs:=[⟨.ret,[(0,.own 0 .u8)],[.log .u8 5],[(.sl .u8)]⟩]) (MA:=λ(x:(List UInt8))=>Z2 fuel x) (MB:=λ_=>Vs fuel) Zbz ZbB rfl
def ZaX(F:Nat)(s:((List UInt8)×(List UInt8)×(List UInt8))):Option (((List UInt8)×(List UInt8)×(List UInt8))⊕((List UInt8)×(List UInt8)×(List UInt8))):=
 if((yy (s.2.2.length:Int) 64)!=56)=true then
  if(apB s.2.2.length 1 1)=true then
   some (.inl (s.1,s.2.1,s.2.2++([0]:List UInt8)))
  else
  none
 else
 some (.inr (s.1,s.2.1,s.2.2))
def Zj4:Lp:=⟨[(0,.v (.sl .u8)),(2,.ref 0 []),(3,.own 1 .u8)],[.var (.v (.arr 32 .u8)) true,.log .u8 5],[(.sl .u8),(.arr 32 .u8),(.sl .u8)],[⟨.exit 0,[(0,.v (.sl .u8)),(2,.ref 0 []),(3,.own 1 .u8)],[.var (.v (.arr 32 .u8)) true,.log .u8 5],[(.sl .u8),(.arr 32 .u8),(.sl .u8)]⟩],Zi (ZaX fuel) fuel⟩
def hi4:HI:={ own:=[3,14,16,21,23,24,28,43],still:=[13,24,27,35,37,44,46]}
theorem ZmE:Zj4.okA Try.prog 57 0:=Z6 hi4 [] [] trivial
def VE(F:Nat)(s:(Int×Int×(List UInt8)×(List UInt8))):Option ((Int×Int×(List UInt8)×(List UInt8))⊕((List UInt8)×(List UInt8))):=
 if(decide (s.2.1 ≥ 0))=true then
  if(decide (0≤s.2.1))=true then
   if(apB s.2.2.1.length 1 1)=true then
    let y156:(List UInt8):=s.2.2.1++([w8 (Int.fdiv s.1 (2 ^ (min s.2.1.toNat 64)))]:List UInt8)
    some (.inl (s.1,wi (s.2.1 - 8),y156,s.2.2.2))
   else
   none
  else
  none
 else
 some (.inr (s.2.2.1,s.2.2.2))
def ZfN:Lp:=⟨[(0,.own 0 .u8),(1,.v yI),(5,.v yI)],[.log .u8 5,.log .u8 5],[yI,yI,(.sl .u8),(.sl .u8)],[⟨.exit 0,[(0,.own 0 .u8)],[.log .u8 5,.log .u8 5],[(.sl .u8),(.sl .u8)]⟩],Zi (VE fuel) fuel⟩
theorem ZiL:ZfN.okA Try.prog 56 0:=Z6 { own:=[0,4,10,16,17]} [] [] trivial
def Xw(F:Nat)(a1:Int)(s0:(List UInt8)):Option ((List UInt8)):=
 (Zi (VE F) F (a1,56,s0,[])).bind λo157=>
 some o157.1
def ZbC(F:Nat):Fs Try.prog:=⟨56,[.own 0 .u8,.v yI],[.log .u8 5],[yI,(.sl .u8)],[⟨.ret,[(0,.own 0 .u8)],[.log .u8 5],[(.sl .u8)]⟩],λx=>Xw F x.1 x.2⟩
def ZcN:Fs Try.prog:=ZbC fuel
theorem ZbD:ZcN.Ok:=fnO { own:=[0,4,10,16,17]} [(0,ZfN)] [] trivial ⟨ZiL,ytt⟩
def ZaY(F:Nat)(s:((List UInt8)×(List UInt8)×(List UInt8)×(List UInt32))):Option (((List UInt8)×(List UInt8)×(List UInt8)×(List UInt32))⊕((List UInt8)×(List UInt8)×(List UInt32))):=
 if(decide ((s.1.length:Int) ≥ 64))=true then
  if(Zd6 s.1.length none (some 64))=true then
   (WX F s.2.2.2 (s.1.take 64)).bind λo160=>
   if(Zd6 s.1.length (some 64) none)=true then
    some (.inl (s.1.drop 64,s.2.1,s.2.2.1,o160))
   else
   none
  else
  none
 else
 some (.inr (s.2.1,s.2.2.1,s.2.2.2))
def Zj5:Lp:=⟨[(0,.v (.sl .u8)),(2,.ref 0 []),(3,.own 1 .u8),(4,.ref 2 [])],[.var (.v (.arr 32 .u8)) true,.log .u8 5,.var (.v (.arr 8 .u32)) true],[(.sl .u8),(.arr 32 .u8),(.sl .u8),(.arr 8 .u32)],[⟨.exit 2,[(2,.ref 0 []),(3,.own 1 .u8),(4,.ref 2 [])],[.var (.v (.arr 32 .u8)) true,.log .u8 5,.var (.v (.arr 8 .u32)) true],[(.arr 32 .u8),(.sl .u8),(.arr 8 .u32)]⟩],Zi (ZaY fuel) fuel⟩
theorem ZmF:Zj5.okA Try.prog 57 1:=Z6 hi4 [] [ZaD] ⟨ZdL,ytt⟩
def ZaZ(F:Nat)(s:((List UInt8)×(List UInt8)×(List UInt8)×(List UInt32))):Option (((List UInt8)×(List UInt8)×(List UInt8)×(List UInt32))⊕((List UInt8)×(List UInt8)×(List UInt32))):=
 if(decide ((s.1.length:Int) > 0))=true then
  if(Zd6 s.1.length none (some 64))=true then
   (WX F s.2.2.2 (s.1.take 64)).bind λo163=>
   if(Zd6 s.1.length (some 64) none)=true then
    some (.inl (s.1.drop 64,s.2.1,s.2.2.1,o163))
   else
   none
  else
  none
 else
 some (.inr (s.2.1,s.2.2.1,s.2.2.2))
def Zj6:Lp:=⟨[(2,.ref 0 []),(3,.v (.sl .u8)),(4,.ref 2 [])],[.var (.v (.arr 32 .u8)) true,.log .u8 5,.var (.v (.arr 8 .u32)) true],[(.sl .u8),(.arr 32 .u8),(.sl .u8),(.arr 8 .u32)],[⟨.exit 4,[(2,.ref 0 []),(4,.ref 2 [])],[.var (.v (.arr 32 .u8)) true,.log .u8 5,.var (.v (.arr 8 .u32)) true],[(.arr 32 .u8),(.sl .u8),(.arr 8 .u32)]⟩],Zi (ZaZ fuel) fuel⟩
theorem ZmG:Zj6.okA Try.prog 57 2:=Z6 hi4 [] [ZaD] ⟨ZdL,ytt⟩
def Za0(F:Nat)(s:(Int×(List UInt8)×(List UInt8)×(List UInt32))):Option ((Int×(List UInt8)×(List UInt8)×(List UInt32))⊕((List UInt8)×(List UInt8)×(List UInt32))):=
 if(decide (s.1 < 32))=true then
  if(inB (wi (yh s.1 4)) 8)=true then
   (s.2.2.2[(wi (yh s.1 4)).toNat]?).bind λe165=>
   if(decide (0≤wi (24 - (wi (8*(yy s.1 4))))))=true then
    let y166:UInt32:=ZfF e165 (min (wi (24 - (wi (8*(yy s.1 4))))).toNat 32)
    if(inB s.1 32)=true then
     (s.2.1[s.1.toNat]?).bind λe167=>
     some (.inl (wi (s.1+1),s.2.1.set s.1.toNat (w8 (y166.toNat:Int)),s.2.2.1,s.2.2.2))
    else
    none
   else
   none
  else
  none
 else
 some (.inr (s.2.1,s.2.2.1,s.2.2.2))
def Zj7:Lp:=⟨[(2,.ref 0 []),(4,.ref 2 []),(48,.v yI)],[.var (.v (.arr 32 .u8)) true,.log .u8 5,.var (.v (.arr 8 .u32)) true],[yI,(.arr 32 .u8),(.sl .u8),(.arr 8 .u32)],[⟨.exit 6,[(2,.ref 0 [])],[.var (.v (.arr 32 .u8)) true,.log .u8 5,.var (.v (.arr 8 .u32)) true],[(.arr 32 .u8),(.sl .u8),(.arr 8 .u32)]⟩],Zi (Za0 fuel) fuel⟩
theorem ZmH:Zj7.okA Try.prog 57 3:=Z6 hi4 [] [] trivial
def ZcO(F:Nat)(a0:(List UInt8)):Option ((List UInt8)):=
 let y153:Int:=wi ((a0.length:Int) - (yy (a0.length:Int) 64))
 if(Zd6 a0.length (some y153) none)=true then
  (Z2 F (a0.drop y153.toNat)).bind λo154=>
  if(apB o154.length 1 1)=true then
   (Zi (ZaX F) F (a0,yzz,o154++([128]:List UInt8))).bind λo155=>
   (Xw F (wi (8*(o155.1.length:Int))) o155.2.2).bind λo158=>
   (ZgK F).bind λo159=>
   (Zi (ZaY F) F (o155.1,o155.2.1,o158,o159)).bind λo161=>
   (Zi (ZaZ F) F (o161.2.1,o161.1,o161.2.1,o161.2.2)).bind λo164=>
   (Zi (Za0 F) F (0,o164.1,o164.2.1,o164.2.2)).bind λo168=>
   some o168.1
  else
  none
 else
 none
def Zfm(F:Nat):Fs Try.prog:=⟨57,[.v (.sl .u8)],[],[(.sl .u8)],[⟨.ret,[(0,.v (.arr 32 .u8))],[],[(.arr 32 .u8)]⟩],λx=>ZcO F x⟩
def Zvl:Fs Try.prog:=Zfm fuel
theorem Ztb:Zvl.Ok:=fnO hi4 [(0,Zj4),(1,Zj5),(2,Zj6),(3,Zj7)] [ZcN,Wz,Zj1] ⟨ZbD,ZaF,Zqc,ytt⟩ ⟨ZmE,ZmF,ZmG,ZmH,ytt⟩
end
end Go.Proofs.Ytkapgdbeeblihaa
end
section
namespace Go.Sha
open Go.Ev
noncomputable def VU{α:Type}(n:Nat)(k:Nat→α):α:=Nat.rec (motive:=λ_=>α) (k 0) (λm _=>k (Nat.succ m)) n
theorem Y8{α:Type}(n:Nat)(k:Nat→α):VU n k=k n:=by cases n <;> rfl
def dbl(x:Nat):Nat:=Nat.mul x 4294967297
def s0(x:Nat):Nat:=Nat.xor (Nat.xor (yai (dbl x) 7) (yai (dbl x) 18)) (yai x 3)
def s1(x:Nat):Nat:=Nat.xor (Nat.xor (yai (dbl x) 17) (yai (dbl x) 19)) (yai x 10)
def S0(x:Nat):Nat:=Nat.xor (Nat.xor (yai (dbl x) 2) (yai (dbl x) 13)) (yai (dbl x) 22)
def S1(x:Nat):Nat:=Nat.xor (Nat.xor (yai (dbl x) 6) (yai (dbl x) 11)) (yai (dbl x) 25)
def ch(e f g:Nat):Nat:=Nat.xor g (Nat.land e (Nat.xor f g))
def mj(a b c:Nat):Nat:=Nat.lor (Nat.land a b) (Nat.land c (Nat.lor a b))
def lo(x:Nat):Nat:=Nat.mod x 4294967296
def kw(W:Nat):Nat:=lo (yw (yw (yw (yai W 480) (s0 (lo (yai W 448)))) (lo (yai W 192))) (s1 (lo (yai W 32))))
def kn(W:Nat):Nat:=Nat.mod (yw (Nat.mul W 4294967296) (kw W)) (Nat.pow 2 512)
noncomputable def kst(k:Nat)(ih:Nat→Nat→Nat→Nat→Nat→Nat→Nat→Nat→Nat→Nat)(W a b c d e f g h:Nat):Nat:=
 VU (yw (yw (yw (yw h (S1 e)) (ch e f g)) k) (yai W 480)) λt=>
     VU (lo (yw (yw t (S0 a)) (mj a b c))) λa'=>VU (lo (yw d t)) λe'=>VU (kn W) λW'=>ih W' a' a b c e' e f g
noncomputable def kgo(ks:List Nat)(K:Nat→Nat→Nat→Nat→Nat→Nat→Nat→Nat→Nat):Nat→Nat→Nat→Nat→Nat→Nat→Nat→Nat→Nat→Nat:=
 List.rec (motive:=λ_=>Nat→Nat→Nat→Nat→Nat→Nat→Nat→Nat→Nat→Nat) (λ_=>K) (λk _ ih=>kst k ih) ks
def ks:List Nat:=[1116352408,1899447441,3049323471,3921009573,961987163,1508970993,2453635748,2870763221,3624381080,310598401,607225278,1426881987,1925078388,2162078206,2614888103,3248222580,3835390401,4022224774,264347078,604807628,770255983,1249150122,1555081692,1996064986,2554220882,2821834349,2952996808,3210313671,3336571891,3584528711,113926993,338241895,666307205,773529912,1294757372,1396182291,1695183700,1986661051,2177026350,2456956037,2730485921,2820302411,3259730800,3345764771,3516065817,3600352804,4094571909,275423344,430227734,506948616,659060556,883997877,958139571,1322822218,1537002063,1747873779,1955562222,2024104815,2227730452,2361852424,2428436474,2756734187,3204031479,3329325298]
def w32(H i:Nat):Nat:=lo (yai H i)
def cat(H x:Nat):Nat:=yw (Nat.mul H 4294967296) (lo x)
noncomputable def ZEv(H B:Nat):Nat:=
 VU (w32 H 224) λa=>VU (w32 H 192) λb=>VU (w32 H 160) λc=>VU (w32 H 128) λd=>VU (w32 H 96) λe=>VU (w32 H 64) λf=>VU (w32 H 32) λg=>VU (w32 H 0) λh=>
  kgo ks (λa' b' c' d' e' f' g' h'=>cat (cat (cat (cat (cat (cat (cat (cat 0 (yw a' a)) (yw b' b)) (yw c' c)) (yw d' d)) (yw e' e)) (yw f' f)) (yw g' g)) (yw h' h)) B a b c d e f g h
noncomputable def pk(l:List Nat)(n:Nat):Nat:=List.rec (motive:=λ_=>Nat→Nat) (λn=>n) (λx _ ih n=>VU (yw (Nat.mul n 256) x) ih) l n
noncomputable def ZGw(n:Nat)(l:List Nat)(H:Nat):Nat:=
 Nat.rec (motive:=λ_=>List Nat→Nat→Nat) (λ_ H=>H) (λ_ ih l H=>VU (ZEv H (pk (l.take 64) 0)) λH'=>ih (l.drop 64) H') n l H
noncomputable def outs(H:Nat)(l:List Nat):List UInt8:=List.rec (motive:=λ_=>List UInt8) [] (λs _ ih=>VU (Nat.mod (yai H s) 256) λx=>ybc x::ih) l
def Zxg:List Nat:=[248,240,232,224,216,208,200,192,184,176,168,160,152,144,136,128,120,112,104,96,88,80,72,64,56,48,40,32,24,16,8,0]
def be8(n:Nat):List Nat:=[n / 2 ^ 56 % 256,n / 2 ^ 48 % 256,n / 2 ^ 40 % 256,n / 2 ^ 32 % 256,n / 2 ^ 24 % 256,n / 2 ^ 16 % 256,n / 2 ^ 8 % 256,n % 256]
def zs(n:Nat):Nat:=(119 - n % 64) % 64
def H0:Nat:=cat (cat (cat (cat (cat (cat (cat (cat 0 1779033703) 3144134277) 1013904242) 2773480762) 1359893119) 2600822924) 528734635) 1541459225
noncomputable def sha(l:List UInt8):List UInt8:=
 VU l.length λn=>VU (ZGw (Nat.div (yw n 72) 64) (l.map ybi++(128::(yad (zs n) 0++be8 (8*n)))) H0) λH=>outs H Zxg
theorem ZgP(x y:UInt32):(x+y).toNat=lo (x.toNat+y.toNat):=by rw[UInt32.toNat_add];rfl
theorem Zh8(x y:UInt32):(x^^^y).toNat=Nat.xor x.toNat y.toNat:=UInt32.toNat_xor ..
theorem ZCy(x y:UInt32):(x&&&y).toNat=Nat.land x.toNat y.toNat:=UInt32.toNat_and ..
theorem Zz9(x y:UInt32):(x|||y).toNat=Nat.lor x.toNat y.toNat:=UInt32.toNat_or ..
theorem ZGx(x:UInt32):x.toNat < 4294967296:=x.toNat_lt
theorem Zvm(x:UInt32)(n:Nat):(ZfF x n).toNat=yai x.toNat n:=by
 unfold ZfF;rw[ycu,show yai x.toNat n=x.toNat >>> n from rfl,Nat.shiftRight_eq_div_pow]
 exact yar (Nat.lt_of_le_of_lt (Nat.div_le_self _ _) (ZGx x))
theorem ZFb(x:Nat):lo x < 4294967296:=ybp _ (by omega)
theorem Zak{x:Nat}(h:x < 4294967296):lo x=x:=yar h
theorem ZHj(x:UInt32){n k:Nat}(h:n+k=32)(hn:0 < n):(Zgs x k|||ZfF x n).toNat=lo (yai (dbl x.toNat) n):=by
 rw[Zz9,Zvm];unfold Zgs;have hx:=ZGx x;generalize x.toNat=m at hx;have hp:2 ^ n*2 ^ k=4294967296:=by rw[←Nat.pow_add,h]
 rw[ycu,show yai m n=m >>> n from rfl,Nat.shiftRight_eq_div_pow,show yai (dbl m) n=(dbl m) >>> n from rfl,Nat.shiftRight_eq_div_pow]
 have e1:m*2 ^ k % 2 ^ 32=2 ^ k*(m % 2 ^ n):=by
  rw[show(2:Nat) ^ 32=2 ^ n*2 ^ k from hp.symm,Nat.mul_mod_mul_right]
  exact ybr ..
 have hd:m / 2 ^ n < 2 ^ k:=by
  rw[Nat.div_lt_iff_lt_mul (Nat.two_pow_pos n),ybr,hp];exact hx
 rw[e1,show Nat.lor (2 ^ k*(m % 2 ^ n)) (m / 2 ^ n)=2 ^ k*(m % 2 ^ n)|||m / 2 ^ n from rfl, ←Nat.two_pow_add_eq_or_of_lt hd]
 have e2:dbl m=2 ^ n*(m*2 ^ k)+m:=by
  unfold dbl;rw[Nat.mul_left_comm,hp,show Nat.mul m 4294967297=m*4294967297 from rfl]
  omega
 rw[e2,Nat.mul_add_div (Nat.two_pow_pos n)];unfold lo;rw[show Nat.mod (m*2 ^ k+m / 2 ^ n) 4294967296=(m*2 ^ k+m / 2 ^ n) % 4294967296 from rfl,Nat.add_mod,show m*2 ^ k % 4294967296=2 ^ k*(m % 2 ^ n) from e1,yar (a:=m / 2 ^ n) (b:=4294967296) (by rw[←hp];exact Nat.lt_of_lt_of_le hd (Nat.le_mul_of_pos_left _ (Nat.two_pow_pos n)))]
 refine(yar ?_).symm;have hm:m % 2 ^ n < 2 ^ n:=ybp _ (Nat.two_pow_pos n)
 calc 2 ^ k*(m % 2 ^ n)+m / 2 ^ n < 2 ^ k*(m % 2 ^ n)+2 ^ k:=by omega
  _=2 ^ k*(m % 2 ^ n+1):=by rw[Nat.mul_add,Nat.mul_one]
  _≤2 ^ k*2 ^ n:=Nat.mul_le_mul_left _ hm
  _=4294967296:=by rw[ybr,hp]
theorem ZgQ(x y:Nat):lo (Nat.xor x y)=Nat.xor (lo x) (lo y):=Nat.xor_mod_two_pow (n:=32)
theorem ZCz(x:UInt32)(n:Nat):lo (yai x.toNat n)=yai x.toNat n:=by
 rw[←Zvm];exact Zak (ZGx _)
theorem ZHL(x:UInt32){a b:UInt32}(ha:a.toNat=lo (yai (dbl x.toNat) 7))(hb:b.toNat=lo (yai (dbl x.toNat) 18)):((a^^^b)^^^ZfF x 3).toNat=lo (s0 x.toNat):=by
 unfold s0;rw[Zh8,Zh8,Zvm,ha,hb,ZgQ,ZgQ,ZCz]
theorem ZHM(x:UInt32){a b:UInt32}(ha:a.toNat=lo (yai (dbl x.toNat) 17))(hb:b.toNat=lo (yai (dbl x.toNat) 19)):((a^^^b)^^^ZfF x 10).toNat=lo (s1 x.toNat):=by
 unfold s1;rw[Zh8,Zh8,Zvm,ha,hb,ZgQ,ZgQ,ZCz]
theorem ZHN(x:UInt32){a b c:UInt32}(ha:a.toNat=lo (yai (dbl x.toNat) 2))(hb:b.toNat=lo (yai (dbl x.toNat) 13))(hc:c.toNat=lo (yai (dbl x.toNat) 22)):((a^^^b)^^^c).toNat=lo (S0 x.toNat):=by
 unfold S0;rw[Zh8,Zh8,ha,hb,hc,ZgQ,ZgQ]
theorem ZHO(x:UInt32){a b c:UInt32}(ha:a.toNat=lo (yai (dbl x.toNat) 6))(hb:b.toNat=lo (yai (dbl x.toNat) 11))(hc:c.toNat=lo (yai (dbl x.toNat) 25)):((a^^^b)^^^c).toNat=lo (S1 x.toNat):=by
 unfold S1;rw[Zh8,Zh8,ha,hb,hc,ZgQ,ZgQ]
theorem ZHP(e f g:UInt32):(g^^^(e&&&(f^^^g))).toNat=ch e.toNat f.toNat g.toNat:=by
 unfold ch;rw[Zh8,ZCy,Zh8]
theorem ZHQ(a b c:UInt32):((a&&&b)|||(c&&&(a|||b))).toNat=mj a.toNat b.toNat c.toNat:=by
 unfold mj;rw[Zz9,ZCy,ZCy,Zz9]
theorem ZHR(a b c d:Nat):lo (lo (lo (a+lo b)+c)+lo d)=lo (a+b+c+d):=by
 show(((a+b % 4294967296) % 4294967296+c) % 4294967296+d % 4294967296) % 4294967296=(a+b+c+d) % 4294967296;omega
theorem ZHS(a b c d e:Nat):lo (lo (lo (lo (a+lo b)+c)+d)+e)=lo (yw (yw (yw (yw a b) c) d) e):=by
 show((((a+b % 4294967296) % 4294967296+c) % 4294967296+d) % 4294967296+e) % 4294967296=(a+b+c+d+e) % 4294967296;omega
theorem ZHT(t s m:Nat):lo (lo (lo t+lo s)+m)=lo (yw (yw t s) m):=by
 show((t % 4294967296+s % 4294967296) % 4294967296+m) % 4294967296=(t+s+m) % 4294967296;omega
theorem ZHU(d t:Nat):lo (d+lo t)=lo (yw d t):=by
 show(d+t % 4294967296) % 4294967296=(d+t) % 4294967296;omega
def pw(n:Nat)(l:List Nat):Nat:=l.foldl (λn x=>n*4294967296+x) n
theorem Zxh:∀(l:List Nat)(n:Nat),(∀x,x∈l→x < 4294967296)→pw n l / 2 ^ (32*l.length)=n
 |[],n,_=>by simp[pw]
 |x::r,n,h=>by
  have ih:=Zxh r (n*4294967296+x) (λy hy=>h y (List.mem_cons_of_mem _ hy));have hx:=h x (List.mem_cons_self ..);rw[show pw n (x::r)=pw (n*4294967296+x) r from rfl,yak,show 32*(r.length+1)=32*r.length+32 by omega,Nat.pow_add, ←Nat.div_div_eq_div_mul,ih]
  omega
theorem Zj8:∀(l:List Nat)(n:Nat),pw n l=n*2 ^ (32*l.length)+pw 0 l
 |[],n=>by simp[pw]
 |x::r,n=>by
  rw[show pw n (x::r)=pw (n*4294967296+x) r from rfl,show pw 0 (x::r)=pw (0*4294967296+x) r from rfl,Zj8 r (n*4294967296+x),Zj8 r (0*4294967296+x),yak,show 32*(r.length+1)=32+32*r.length by omega,Nat.pow_add,Nat.zero_mul,
   yaz,yaw, ←Nat.mul_assoc,Nat.add_assoc]
theorem ZFc:∀(l:List Nat),(∀x,x∈l→x < 4294967296)→pw 0 l < 2 ^ (32*l.length)
 |[],_=>by simp[pw]
 |x::r,h=>by
  have ih:=ZFc r (λy hy=>h y (List.mem_cons_of_mem _ hy));have hx:=h x (List.mem_cons_self ..);rw[show pw 0 (x::r)=pw (0*4294967296+x) r from rfl,Zj8,yak,show 32*(r.length+1)=32+32*r.length by omega,Nat.pow_add,Nat.zero_mul,yaz]
  have:(x+1)*2 ^ (32*r.length)≤2 ^ 32*2 ^ (32*r.length):=ycc _ (by omega);rw[yaw,Nat.one_mul] at this;omega
theorem ZFd{n x s:Nat}{r:List Nat}(h:∀y,y∈r→y < 4294967296)(hs:s=32*r.length):yai (pw n (x::r)) s=n*4294967296+x:=by
 subst hs;rw[show yai (pw n (x::r)) (32*r.length)=pw n (x::r) >>> (32*r.length) from rfl,Nat.shiftRight_eq_div_pow]
 exact Zxh r (n*4294967296+x) h
theorem ZFe{n x s:Nat}{r:List Nat}(hx:x < 4294967296)(h:∀y,y∈r→y < 4294967296)(hs:s=32*r.length):lo (yai (pw n (x::r)) s)=x:=by
 rw[ZFd h hs];show(n*4294967296+x) % 4294967296=x;omega
theorem Zxi(n:Nat)(l r:List Nat):pw n (l++r)=pw (pw n l) r:=List.foldl_append ..
theorem ZyH(n x:Nat)(r:List Nat):pw n (x::r)=pw (n*4294967296+x) r:=rfl
theorem ZdM{v l r:List Nat}{x s:Nat}(e:v=l++x::r)(h:∀y,y∈v→y < 4294967296)(hs:s=32*r.length):lo (yai (pw 0 v) s)=x:=by
 rw[e] at h ⊢;rw[Zxi];exact ZFe (h x (by simp)) (λy hy=>h y (by simp[hy])) hs
def wd(ws:List Nat)(n:Nat):Nat:=if h:n < 16 then lo (ws.getD n 0) else lo (wd ws (n - 16)+s0 (wd ws (n - 15))+wd ws (n - 7)+s1 (wd ws (n - 2)))
termination_by n
decreasing_by all_goals omega
theorem ZHk(ws:List Nat)(n:Nat):wd ws n < 4294967296:=by
 rw[wd];split <;> exact ZFb _
theorem ZyI(ws:List Nat)(n:Nat):wd ws (n+16)=lo (wd ws n+s0 (wd ws (n+1))+wd ws (n+9)+s1 (wd ws (n+14))):=by
 rw[wd,dif_neg (by omega)];simp only[Nat.add_sub_cancel,show n+16 - 15=n+1 by omega,show n+16 - 7=n+9 by omega,show n+16 - 2=n+14 by omega]
def win(ws:List Nat)(i:Nat):List Nat:=[wd ws i,wd ws (i+1),wd ws (i+2),wd ws (i+3),wd ws (i+4),wd ws (i+5),wd ws (i+6),wd ws (i+7),wd ws (i+8),wd ws (i+9),wd ws (i+10),wd ws (i+11),wd ws (i+12),wd ws (i+13),wd ws (i+14),wd ws (i+15)]
theorem Zxj{ws:List Nat}{i:Nat}{l:List Nat}(h:∀x,x∈l→∃j,x=wd ws j):∀x,x∈l→x < 4294967296:=λx hx=>by
 obtain⟨j,rfl⟩:=h x hx;exact ZHk _ _
theorem ZyJ(ws:List Nat)(i:Nat):yai (pw 0 (win ws i)) 480=wd ws i:=by
 have h:=ZFd (n:=0) (x:=wd ws i) (s:=480) (r:=(win ws i).tail) (Zxj (ws:=ws) (i:=i) (λx hx=>by
  simp only[win,List.tail_cons,yau,yce,or_false] at hx;rcases hx with h|h|h|h|h|h|h|h|h|h|h|h|h|h|h <;> exact⟨_,h⟩)) rfl
 rw[Nat.zero_mul,yaz] at h;exact h
theorem ZGy(ws:List Nat)(i:Nat):kw (pw 0 (win ws i))=wd ws (i+16):=by
 have key:∀(l r:List Nat)(x s:Nat),win ws i=l++x::r→s=32*r.length→lo (yai (pw 0 (win ws i)) s)=x:=by
  intro l r x s e hs
  have hall:∀y,y∈win ws i→y < 4294967296:=Zxj (i:=i) λx hx=>by
   simp only[win,yau,yce,or_false] at hx;rcases hx with h|h|h|h|h|h|h|h|h|h|h|h|h|h|h|h <;> exact⟨_,h⟩
  rw[e] at hall ⊢;rw[Zxi];exact ZFe (hall x (by simp)) (λy hy=>hall y (by simp[hy])) hs
 unfold kw;rw[ZyJ,key [_] _ (wd ws (i+1)) 448 rfl rfl,key [_,_,_,_,_,_,_,_,_] _ (wd ws (i+9)) 192 rfl rfl,key [_,_,_,_,_,_,_,_,_,_,_,_,_,_] _ (wd ws (i+14)) 32 rfl rfl,ZyI];rfl
theorem ZEw(a b m:Nat)(h:b < 2 ^ m):Nat.mod (a*2 ^ m+b) (Nat.pow 2 m)=b:=by
 show(a*2 ^ m+b) % 2 ^ m=b;rw[ybr,Nat.mul_add_mod];exact yar h
theorem ZGz(ws:List Nat)(i:Nat):kn (pw 0 (win ws i))=pw 0 (win ws (i+1)):=by
 have e:yw (Nat.mul (pw 0 (win ws i)) 4294967296) (kw (pw 0 (win ws i)))=pw (wd ws i) (win ws (i+1)):=by
  rw[ZGy];show pw 0 (win ws i)*4294967296+wd ws (i+16)=pw (wd ws i) (win ws (i+1));rw[show wd ws i=0*4294967296+wd ws i by omega];rfl
 unfold kn;rw[e,Zj8];have hl:(win ws (i+1)).length=16:=rfl
 have hlt:=ZFc (win ws (i+1)) (Zxj (i:=i+1) λx hx=>by
  simp only[win,yau,yce,or_false] at hx;rcases hx with h|h|h|h|h|h|h|h|h|h|h|h|h|h|h|h <;> exact⟨_,h⟩)
 rw[show 512=32*(win ws (i+1)).length by rw[hl]];exact ZEw _ _ _ hlt
def rnd(v:List Nat)(k w:Nat):List Nat:=match v with
 |[a,b,c,d,e,f,g,h]=>[lo (yw (yw (yw (yw (yw (yw h (S1 e)) (ch e f g)) k) w) (S0 a)) (mj a b c)),a,b,c,lo (yw d (yw (yw (yw (yw h (S1 e)) (ch e f g)) k) w)),e,f,g]
 |_=>[]
def rs(ws v:List Nat):Nat→List Nat
 |0=>v
 |i+1=>rnd (rs ws v i) (ks.getD i 0) (wd ws i)
theorem ZEx{v:List Nat}(h:v.length=8)(k w:Nat):(rnd v k w).length=8:=by
 match v,h with
 |[a,b,c,d,e,f,g,h],_=>rfl
theorem Ztc{ws v:List Nat}(h:v.length=8):∀i,(rs ws v i).length=8
 |0=>h
 |i+1=>ZEx (Ztc h i) _ _
noncomputable def ZCA(f:Nat→Nat→Nat→Nat→Nat→Nat→Nat→Nat→Nat)(v:List Nat):Nat:=match v with
 |[a,b,c,d,e,f',g,h]=>f a b c d e f' g h
 |_=>0
theorem ZhG{F:Nat→Nat→Nat→Nat→Nat→Nat→Nat→Nat→Nat}{a b c d e f g h:Nat}:ZCA F [a,b,c,d,e,f,g,h]=F a b c d e f g h:=rfl
theorem ZCB(k:Nat)(l:List Nat)(K:Nat→Nat→Nat→Nat→Nat→Nat→Nat→Nat→Nat):kgo (k::l) K=kst k (kgo l K):=rfl
theorem Zvn(a b c d e f g h k w:Nat):rnd [a,b,c,d,e,f,g,h] k w=[lo (yw (yw (yw (yw (yw (yw h (S1 e)) (ch e f g)) k) w) (S0 a)) (mj a b c)),a,b,c,lo (yw d (yw (yw (yw (yw h (S1 e)) (ch e f g)) k) w)),e,f,g]:=rfl
theorem ZGA(k:Nat)(ih:Nat→Nat→Nat→Nat→Nat→Nat→Nat→Nat→Nat→Nat)(W a b c d e f g h:Nat):kst k ih W a b c d e f g h=
 ih (kn W) (lo (yw (yw (yw (yw (yw (yw h (S1 e)) (ch e f g)) k) (yai W 480)) (S0 a)) (mj a b c))) a b c (lo (yw d (yw (yw (yw (yw h (S1 e)) (ch e f g)) k) (yai W 480)))) e f g:=by
 unfold kst;rw[Y8,Y8,Y8,Y8]
theorem ZCC{ws v:List Nat}{K:Nat→Nat→Nat→Nat→Nat→Nat→Nat→Nat→Nat}{k w:Nat}{l:List Nat}(hv:v.length=8){W:Nat}(hW:yai W 480=w):ZCA (kgo (k::l) K W) v=ZCA (kgo l K (kn W)) (rnd v k w):=by
 match v,hv with
 |[a,b,c,d,e,f,g,h],_=>
  rw[ZCB,ZhG,ZGA,hW,Zvn,ZhG]
theorem ZyK{ws v:List Nat}{K:Nat→Nat→Nat→Nat→Nat→Nat→Nat→Nat→Nat}(hv:v.length=8):∀(m i:Nat),i+m=64→ZCA (kgo (ks.drop i) K (pw 0 (win ws i))) (rs ws v i)=ZCA K (rs ws v 64)
 |0,i,h=>by
  have e:i=64:=by omega
  subst e;rw[show ks.drop 64=[] from rfl]
  generalize pw 0 (win ws 64)=W
  rfl
 |m+1,i,h=>by
  have hi:i < ks.length:=by show i < 64;omega
  rw[List.drop_eq_getElem_cons hi,ZCC (ws:=ws) (Ztc hv i) (ZyJ ws i),ZGz];have:=ZyK (ws:=ws) (K:=K) hv m (i+1) (by omega);rw[show rs ws v (i+1)=rnd (rs ws v i) (ks.getD i 0) (wd ws i) from rfl,show ks.getD i 0=ks[i] by rw[ycz,List.getElem?_eq_getElem hi];rfl] at this
  exact this
def Zj9(v ws:List Nat):List Nat:=List.zipWith (λx y=>lo (x+y)) (rs ws v 64) v
theorem ZgR{v ws:List Nat}(h:v.length=8):(Zj9 v ws).length=8:=by
 rw[Zj9,List.length_zipWith,Ztc h,h];rfl
theorem ZyL{v ws:List Nat}:∀x,x∈Zj9 v ws→x < 4294967296:=by
 intro x hx;unfold Zj9 at hx;rw[List.mem_iff_getElem] at hx;obtain⟨i,hi,rfl⟩:=hx;rw[List.getElem_zipWith];exact ZFb _
theorem ZEy{v ws:List Nat}(hv:v.length=8)(hlt:∀x,x∈v→x < 4294967296)(hw:ws.length=16)(hwl:∀x,x∈ws→x < 4294967296):ZEv (pw 0 v) (pw 0 ws)=pw 0 (Zj9 v ws):=by
 have e0:ws=win ws 0:=by
  match ws,hw with
  |[a0,a1,a2,a3,a4,a5,a6,a7,a8,a9,a10,a11,a12,a13,a14,a15],_=>
   simp only[yau,yce,or_false,forall_eq_or_imp,forall_eq] at hwl;obtain⟨h0,h1,h2,h3,h4,h5,h6,h7,h8,h9,h10,h11,h12,h13,h14,h15⟩:=hwl;have hs:∀n,n < 16→wd [a0,a1,a2,a3,a4,a5,a6,a7,a8,a9,a10,a11,a12,a13,a14,a15] n=lo ([a0,a1,a2,a3,a4,a5,a6,a7,a8,a9,a10,a11,a12,a13,a14,a15].getD n 0):=λn hn=>by rw[wd,dif_pos hn]
   unfold win;rw[hs 0 (by omega),hs (0+1) (by omega),hs (0+2) (by omega),hs (0+3) (by omega),hs (0+4) (by omega),hs (0+5) (by omega),hs (0+6) (by omega),hs (0+7) (by omega),hs (0+8) (by omega),hs (0+9) (by omega),hs (0+10) (by omega),hs (0+11) (by omega),hs (0+12) (by omega),hs (0+13) (by omega),hs (0+14) (by omega),hs (0+15) (by omega)];show _=[lo a0,lo a1,lo a2,lo a3,lo a4,lo a5,lo a6,lo a7,lo a8,lo a9,lo a10,lo a11,lo a12,lo a13,lo a14,lo a15];rw[Zak h0,Zak h1,Zak h2,Zak h3,Zak h4,Zak h5,Zak h6,Zak h7,Zak h8,Zak h9,Zak h10,Zak h11,Zak h12,Zak h13,Zak h14,Zak h15]
 match v,hv with
 |[a,b,c,d,e,f,g,h],hv=>
  have ea:w32 (pw 0 [a,b,c,d,e,f,g,h]) 224=a:=ZdM (l:=[]) (r:=[b,c,d,e,f,g,h]) rfl hlt rfl;have eb:w32 (pw 0 [a,b,c,d,e,f,g,h]) 192=b:=ZdM (l:=[a]) (r:=[c,d,e,f,g,h]) rfl hlt rfl;have ec:w32 (pw 0 [a,b,c,d,e,f,g,h]) 160=c:=ZdM (l:=[a,b]) (r:=[d,e,f,g,h]) rfl hlt rfl;have ed:w32 (pw 0 [a,b,c,d,e,f,g,h]) 128=d:=ZdM (l:=[a,b,c]) (r:=[e,f,g,h]) rfl hlt rfl;have ee:w32 (pw 0 [a,b,c,d,e,f,g,h]) 96=e:=ZdM (l:=[a,b,c,d]) (r:=[f,g,h]) rfl hlt rfl;have ef:w32 (pw 0 [a,b,c,d,e,f,g,h]) 64=f:=ZdM (l:=[a,b,c,d,e]) (r:=[g,h]) rfl hlt rfl;have eg:w32 (pw 0 [a,b,c,d,e,f,g,h]) 32=g:=ZdM (l:=[a,b,c,d,e,f]) (r:=[h]) rfl hlt rfl;have eh:w32 (pw 0 [a,b,c,d,e,f,g,h]) 0=h:=ZdM (l:=[a,b,c,d,e,f,g]) (r:=[]) rfl hlt rfl;unfold ZEv;rw[ea,eb,ec,ed,ee,ef,eg,eh,Y8,Y8,Y8,Y8,Y8,Y8,Y8,Y8];have hr:=ZyK (ws:=ws) (v:=[a,b,c,d,e,f,g,h]) (K:=λa' b' c' d' e' f' g' h'=>cat (cat (cat (cat (cat (cat (cat (cat 0 (yw a' a)) (yw b' b)) (yw c' c)) (yw d' d)) (yw e' e)) (yw f' f)) (yw g' g)) (yw h' h)) rfl 64 0 rfl;rw[←e0,show ks.drop 0=ks from rfl,show rs ws [a,b,c,d,e,f,g,h] 0=[a,b,c,d,e,f,g,h] from rfl,ZhG] at hr
  rw[hr];unfold Zj9;generalize rs ws [a,b,c,d,e,f,g,h] 64=q,Ztc (ws:=ws) hv 64=hq
  match q,hq with
  |[a',b',c',d',e',f',g',h'],_=>
   rw[ZhG];simp only[List.zipWith_cons_cons,List.zipWith_nil_right,ZyH,cat];rfl
theorem Zne(x:Nat)(l:List Nat)(n:Nat):pk (x::l) n=pk l (n*256+x):=by
 show VU (yw (Nat.mul n 256) x) (pk l)=_;rw[Y8];rfl
def Y5:List Nat→List Nat
 |a::b::c::d::r=>(((a*256+b)*256+c)*256+d)::Y5 r
 |_=>[]
theorem Zvo:∀(m:Nat)(l:List Nat)(n:Nat),l.length=4*m→pk l n=pw n (Y5 l)
 |0,[],n,_=>rfl
 |0,_::_,_,h=>by simp at h
 |m+1,[],_,h=>by simp at h
 |m+1,[_],_,h=>by simp at h;omega
 |m+1,[_,_],_,h=>by simp at h;omega
 |m+1,[_,_,_],_,h=>by simp at h;omega
 |m+1,a::b::c::d::r,n,h=>by
  rw[Zne,Zne,Zne,Zne,Y5];rw[Zvo m r _ (by simp at h;omega),ZyH];have e:(((n*256+a)*256+b)*256+c)*256+d=n*4294967296+(((a*256+b)*256+c)*256+d):=by omega
  rw[e]
theorem Zl8:∀(m:Nat)(l:List Nat),l.length=4*m→(Y5 l).length=m
 |0,[],_=>rfl
 |0,_::_,h=>by simp at h
 |m+1,[],h=>by simp at h
 |m+1,[_],h=>by simp at h;omega
 |m+1,[_,_],h=>by simp at h;omega
 |m+1,[_,_,_],h=>by simp at h;omega
 |m+1,a::b::c::d::r,h=>by
  rw[Y5,yak,Zl8 m r (by simp at h;omega)]
theorem ZoZ:∀(m:Nat)(l:List Nat),l.length=4*m→(∀x,x∈l→x < 256)→∀x,x∈Y5 l→x < 4294967296
 |0,[],_,_,x,hx=>by simp[Y5] at hx
 |0,_::_,h,_,_,_=>by simp at h
 |m+1,[],h,_,_,_=>by simp at h
 |m+1,[_],h,_,_,_=>by simp at h;omega
 |m+1,[_,_],h,_,_,_=>by simp at h;omega
 |m+1,[_,_,_],h,_,_,_=>by simp at h;omega
 |m+1,a::b::c::d::r,h,hl,x,hx=>by
  rw[Y5] at hx;have h1:=hl a (by simp);have h2:=hl b (by simp);have h3:=hl c (by simp);have h4:=hl d (by simp);rcases yau.1 hx with rfl|hx
  ·omega
  ·exact ZoZ m r (by simp at h;omega) (λy hy=>hl y (by simp[hy])) x hx
theorem Zl9:∀(i:Nat)(l:List Nat)(a b c d:Nat),l[4*i]? =some a→l[4*i+1]? =some b→l[4*i+2]? =some c→l[4*i+3]? =some d→(Y5 l)[i]? =some (((a*256+b)*256+c)*256+d)
 |0,[],_,_,_,_,h,_,_,_=>by simp at h
 |0,[_],_,_,_,_,_,h,_,_=>by simp at h
 |0,[_,_],_,_,_,_,_,_,h,_=>by simp at h
 |0,[_,_,_],_,_,_,_,_,_,_,h=>by simp at h
 |0,a::b::c::d::r,_,_,_,_,h1,h2,h3,h4=>by
  simp at h1 h2 h3 h4;subst h1 h2 h3 h4
  rfl
 |i+1,[],_,_,_,_,h,_,_,_=>by simp at h
 |i+1,[_],_,_,_,_,h,_,_,_=>by simp[show 4*(i+1)=4*i+3+1 by omega] at h
 |i+1,[_,_],_,_,_,_,h,_,_,_=>by simp[show 4*(i+1)=4*i+2+1+1 by omega] at h
 |i+1,[_,_,_],_,_,_,_,h,_,_,_=>by simp[show 4*(i+1)=4*i+1+1+1+1 by omega] at h
 |i+1,a::b::c::d::r,_,_,_,_,h1,h2,h3,h4=>by
  rw[Y5,yax]
  exact Zl9 i r _ _ _ _ (by simpa[show 4*(i+1)=4*i+1+1+1+1 by omega] using h1) (by simpa[show 4*(i+1)+1=4*i+1+1+1+1+1 by omega] using h2)
   (by simpa[show 4*(i+1)+2=4*i+2+1+1+1+1 by omega] using h3) (by simpa[show 4*(i+1)+3=4*i+3+1+1+1+1 by omega] using h4)
def ZeJ:Nat→List Nat→List Nat→List Nat
 |0,_,v=>v
 |n+1,l,v=>ZeJ n (l.drop 64) (Zj9 v (Y5 (l.take 64)))
theorem ZyM:∀(n:Nat)(l v:List Nat),l.length=64*n→(∀x,x∈l→x < 256)→v.length=8→(∀x,x∈v→x < 4294967296)→ZGw n l (pw 0 v)=pw 0 (ZeJ n l v)
 |0,l,v,_,_,_,_=>rfl
 |n+1,l,v,h1,h2,h3,h4=>by
  show VU (ZEv (pw 0 v) (pk (l.take 64) 0)) (ZGw n (l.drop 64))=_;have hl:(l.take 64).length=4*16:=by rw[yag];omega
  rw[Y8,Zvo 16 _ 0 hl,ZEy h3 h4 (Zl8 16 _ hl) (ZoZ 16 _ hl λx hx=>h2 x (List.mem_of_mem_take hx))];exact ZyM n (l.drop 64) _ (by rw[ybu];omega) (λx hx=>h2 x (List.mem_of_mem_drop hx)) (ZgR h3) ZyL
theorem Zvp:∀(n:Nat)(l v:List Nat),v.length=8→(ZeJ n l v).length=8
 |0,_,_,h=>h
 |n+1,l,v,h=>Zvp n _ _ (ZgR h)
theorem ZyN:∀(n:Nat)(l v:List Nat),(∀x,x∈v→x < 4294967296)→∀x,x∈ZeJ n l v→x < 4294967296
 |0,_,_,h=>h
 |n+1,l,v,h=>ZyN n _ _ ZyL
theorem Zo0:∀(n m:Nat)(l r v:List Nat),l.length=64*n→ZeJ (n+m) (l++r) v=ZeJ m r (ZeJ n l v)
 |0,m,l,r,v,h=>by
  have:l=[]:=List.length_eq_zero_iff.1 (by omega);subst this;rw[yaz]
  rfl
 |n+1,m,l,r,v,h=>by
  rw[show n+1+m=(n+m)+1 by omega,ZeJ,List.drop_append_of_le_length (by omega),List.take_append_of_le_length (by omega),Zo0 n m _ r _ (by rw[ybu];omega)];rfl
theorem Zlh:∀(c:Nat)(l v:List Nat),ZeJ (c+1) l v=Zj9 (ZeJ c l v) (Y5 ((l.drop (64*c)).take 64))
 |0,l,v=>by rw[Nat.mul_zero,List.drop_zero];rfl
 |c+1,l,v=>by
  rw[show ZeJ (c+1+1) l v=ZeJ (c+1) (l.drop 64) (Zj9 v (Y5 (l.take 64))) from rfl,Zlh c,List.drop_drop,show 64+64*c=64*(c+1) by omega]
  rfl
theorem ZCD(ws:List Nat){n x:Nat}(hn:n < 16)(h:ws[n]? =some x)(hx:x < 4294967296):wd ws n=x:=by
 rw[wd,dif_pos hn,ycz,h];exact Zak hx
def ZCE(v:List Nat)(k:Nat):UInt8:=ybc (v.getD (k / 4) 0 / 2 ^ (24 - 8*(k % 4)))
theorem ZEz{v:List Nat}(hv:v.length=8)(hlt:∀x,x∈v→x < 4294967296):outs (pw 0 v) Zxg=(List.range 32).map (ZCE v):=by
 have hgo:∀(H:Nat)(l:List Nat),outs H l=l.map λs=>ybc (H / 2 ^ s % 256):=by
  intro H l
  induction l with
  |nil=>rfl
  |cons s r ih=>
   show VU (Nat.mod (yai H s) 256) (λx=>ybc x::outs H r)=_;rw[Y8,ih,yaa,show yai H s=H >>> s from rfl,Nat.shiftRight_eq_div_pow]
   rfl
 have hb:∀(l r:List Nat)(x j s:Nat),v=l++x::r→j≤24→s=32*r.length+j→ybc (pw 0 v / 2 ^ s % 256)=ybc (x / 2 ^ j):=by
  intro l r x j s e hj hs;have hall:=hlt;rw[e] at hall
  have h1:pw 0 v / 2 ^ (32*r.length)=pw 0 l*4294967296+x:=by
   rw[e,Zxi];exact Zxh r _ (λy hy=>hall y (by simp[hy]))
  rw[hs,Nat.pow_add, ←Nat.div_div_eq_div_mul,h1]
  have h2:pw 0 l*4294967296+x=2 ^ j*(pw 0 l*2 ^ (24 - j)*256)+x:=by
   rw[show(4294967296:Nat)=2 ^ j*2 ^ (24 - j)*256 by rw[←Nat.pow_add,show j+(24 - j)=24 by omega]];congr 1;ac_rfl
  rw[h2,Nat.mul_add_div (Nat.two_pow_pos j),ybr (pw 0 l*2 ^ (24 - j)) 256,Nat.mul_add_mod];exact UInt8.toNat_inj.1 (by simp)
 match v,hv with
 |[a,b,c,d,e,f,g,h],_=>
  rw[hgo];simp only[Zxg,yaa,yca]
  rw[hb [] [b,c,d,e,f,g,h] a 24 248 rfl (by omega) rfl,hb [] [b,c,d,e,f,g,h] a 16 240 rfl (by omega) rfl,hb [] [b,c,d,e,f,g,h] a 8 232 rfl (by omega) rfl,hb [] [b,c,d,e,f,g,h] a 0 224 rfl (by omega) rfl,
   hb [a] [c,d,e,f,g,h] b 24 216 rfl (by omega) rfl,hb [a] [c,d,e,f,g,h] b 16 208 rfl (by omega) rfl,hb [a] [c,d,e,f,g,h] b 8 200 rfl (by omega) rfl,hb [a] [c,d,e,f,g,h] b 0 192 rfl (by omega) rfl,
   hb [a,b] [d,e,f,g,h] c 24 184 rfl (by omega) rfl,hb [a,b] [d,e,f,g,h] c 16 176 rfl (by omega) rfl,hb [a,b] [d,e,f,g,h] c 8 168 rfl (by omega) rfl,hb [a,b] [d,e,f,g,h] c 0 160 rfl (by omega) rfl,
   hb [a,b,c] [e,f,g,h] d 24 152 rfl (by omega) rfl,hb [a,b,c] [e,f,g,h] d 16 144 rfl (by omega) rfl,hb [a,b,c] [e,f,g,h] d 8 136 rfl (by omega) rfl,hb [a,b,c] [e,f,g,h] d 0 128 rfl (by omega) rfl,
   hb [a,b,c,d] [f,g,h] e 24 120 rfl (by omega) rfl,hb [a,b,c,d] [f,g,h] e 16 112 rfl (by omega) rfl,hb [a,b,c,d] [f,g,h] e 8 104 rfl (by omega) rfl,hb [a,b,c,d] [f,g,h] e 0 96 rfl (by omega) rfl,
   hb [a,b,c,d,e] [g,h] f 24 88 rfl (by omega) rfl,hb [a,b,c,d,e] [g,h] f 16 80 rfl (by omega) rfl,hb [a,b,c,d,e] [g,h] f 8 72 rfl (by omega) rfl,hb [a,b,c,d,e] [g,h] f 0 64 rfl (by omega) rfl,
   hb [a,b,c,d,e,f] [h] g 24 56 rfl (by omega) rfl,hb [a,b,c,d,e,f] [h] g 16 48 rfl (by omega) rfl,hb [a,b,c,d,e,f] [h] g 8 40 rfl (by omega) rfl,hb [a,b,c,d,e,f] [h] g 0 32 rfl (by omega) rfl,
   hb [a,b,c,d,e,f,g] [] h 24 24 rfl (by omega) rfl,hb [a,b,c,d,e,f,g] [] h 16 16 rfl (by omega) rfl,hb [a,b,c,d,e,f,g] [] h 8 8 rfl (by omega) rfl,hb [a,b,c,d,e,f,g] [] h 0 0 rfl (by omega) rfl]
  rfl
def Zfn(l:List UInt8):List Nat:=l.map ybi++(128::(yad (zs l.length) 0++be8 (8*l.length)))
def Zfo:List Nat:=[1779033703,3144134277,1013904242,2773480762,1359893119,2600822924,528734635,1541459225]
theorem Zxk(l:List UInt8):(Zfn l).length=64*((l.length+72) / 64):=by
 unfold Zfn;simp only[yq,yv,yak,ycs,be8,List.length_nil,zs];omega
theorem ZAa(l:List UInt8):∀x,x∈Zfn l→x < 256:=by
 intro x hx;unfold Zfn at hx;simp only[List.mem_append,List.mem_map,yau,List.mem_replicate,be8,yce,or_false] at hx;rcases hx with⟨y,_,rfl⟩|rfl|⟨_,rfl⟩|h
 ·exact y.toNat_lt
 ·omega
 ·omega
 ·rcases h with h|h|h|h|h|h|h|h <;> rw[h] <;> exact ybp _ (by omega)
theorem ZCF(l:List UInt8):sha l=(List.range 32).map (ZCE (ZeJ ((l.length+72) / 64) (Zfn l) Zfo)):=by
 unfold sha
 rw[Y8,Y8,show H0=pw 0 Zfo from rfl,show l.map ybi++(128::(yad (zs l.length) 0++be8 (8*l.length)))=Zfn l from rfl,
  show Nat.div (yw l.length 72) 64=(l.length+72) / 64 from rfl]
 have hf:∀x,x∈Zfo→x < 4294967296:=by decide
 rw[ZyM _ _ _ (Zxk l) (ZAa l) rfl hf];exact ZEz (Zvp _ _ _ rfl) (ZyN _ _ _ hf)
theorem ZHH(l:List UInt8):(sha l).length=32:=by rw[ZCF];simp
end Go.Sha
end
section
set_option maxRecDepth 4000
namespace Go.Proofs.Ytkapgdbeeblihaa
open Go Go.Ev Go.Sha
theorem Zec(x:UInt32)(n k:Nat)(h:n+k=32)(hn:0 < n){z:Int}(hz:((w64 z)&&&31).toNat=k):∃o,ZG fuel x z=some o∧o.toNat=lo (yai (dbl x.toNat) n):=by
 refine⟨_,rfl, ?_⟩;have e1:((((w64 z)&&&31).toNat:Int)).toNat=k:=by rw[hz];rfl
 have e2:(32 - ((w64 z)&&&31)).toNat=n:=by
  have h1:((w64 z)&&&31)=yah k:=yco.1 (by rw[hz,ybf];omega);rw[h1,UInt64.toNat_sub,ybf];show(2 ^ 64 - k % 2 ^ 64+32) % 2 ^ 64=n;omega
 rw[e1,show((((32 - ((w64 z)&&&31)).toNat:Nat):Int)).toNat=n by rw[e2];rfl,Nat.min_eq_left (by omega),Nat.min_eq_left (by omega)];exact ZHj x h hn
theorem ZGB{l:List UInt8}{a b c d:UInt8}(ha:l[0]? =some a)(hb:l[1]? =some b)(hc:l[2]? =some c)(hd:l[3]? =some d):∃o,Zb5 fuel l=some o∧o.toNat=((a.toNat*256+b.toNat)*256+c.toNat)*256+d.toNat:=by
 unfold Zb5;rw[Zfg (i:=0) (by omega) ha,Zfg (i:=1) (by omega) hb,Zfg (i:=2) (by omega) hc,Zfg (i:=3) (by omega) hd];refine⟨_,rfl, ?_⟩;have h1:=a.toNat_lt;have h2:=b.toNat_lt;have h3:=c.toNat_lt;have h4:=d.toNat_lt
 have hs:∀(x:UInt8)(n:Nat),n≤24→(Zgs (UInt32.ofNat x.toNat) n).toNat=x.toNat*2 ^ n:=by
  intro x n hn;have hx:=x.toNat_lt;unfold Zgs;rw[ycu,ycu,yar (a:=x.toNat) (by omega)];refine yar ?_
  calc x.toNat*2 ^ n < 2 ^ 8*2 ^ n:=Nat.mul_lt_mul_of_pos_right hx (Nat.two_pow_pos n)
   _=2 ^ (8+n):=(Nat.pow_add ..).symm
   _≤2 ^ 32:=Nat.pow_le_pow_right (by omega) (by omega)
 rw[Zz9,Zz9,Zz9,hs _ _ (by omega),hs _ _ (by omega),hs _ _ (by omega),ycu,yar (a:=d.toNat) (by omega)]
 have k1:Nat.lor (a.toNat*2 ^ 24) (b.toNat*2 ^ 16)=2 ^ 16*(a.toNat*256+b.toNat):=by
  rw[ybr a.toNat,show Nat.lor (2 ^ 24*a.toNat) (b.toNat*2 ^ 16)=2 ^ 24*a.toNat|||b.toNat*2 ^ 16 from rfl, ←Nat.two_pow_add_eq_or_of_lt (by omega)]
  omega
 have k2:Nat.lor (2 ^ 16*(a.toNat*256+b.toNat)) (c.toNat*2 ^ 8)=2 ^ 8*((a.toNat*256+b.toNat)*256+c.toNat):=by
  rw[show Nat.lor (2 ^ 16*(a.toNat*256+b.toNat)) (c.toNat*2 ^ 8)=2 ^ 16*(a.toNat*256+b.toNat)|||c.toNat*2 ^ 8 from rfl, ←Nat.two_pow_add_eq_or_of_lt (by omega)]
  omega
 rw[k1,k2,show Nat.lor (2 ^ 8*((a.toNat*256+b.toNat)*256+c.toNat)) d.toNat=2 ^ 8*((a.toNat*256+b.toNat)*256+c.toNat)|||d.toNat from rfl, ←Nat.two_pow_add_eq_or_of_lt (by omega)]
 omega
theorem ZCG{l:List UInt8}(h:l.length=64):∃o,QZ fuel l=some o∧o.length=64∧∀(i:Nat)x,i < 64→o[i]? =some x→x.toNat=wd (Y5 (l.map ybi)) i:=by
 unfold QZ;generalize hz:([0,0,0,0,0,0,0,0,0,0,0,0,0,0,0,0,0,0,0,0,0,0,0,0,0,0,0,0,0,0,0,0,0,0,0,0,0,0,0,0,0,0,0,0,0,0,0,0,0,0,0,0,0,0,0,0,0,0,0,0,0,0,0,0]:List UInt32)=z;have hzl:z.length=64:=by rw[←hz];rfl
 refine Exists.elim (XU (step:=Vi fuel) (λs=>s.1=l∧0≤s.2.1∧s.2.1≤64∧s.2.2.length=64∧∀(j:Nat)x,(j:Int) < s.2.1→s.2.2[j]? =some x→x.toNat=wd (Y5 (l.map ybi)) j) (λs=>(64 - s.2.1).toNat)
  (λo=>o.length=64∧∀(j:Nat)x,j < 64→o[j]? =some x→x.toNat=wd (Y5 (l.map ybi)) j) ?_ (l,(0:Int),z) ⟨rfl,Int.le_refl _,by dsimp only;omega,hzl,λj x hj=>by dsimp only at hj;omega⟩ (by dsimp only;omega)) ?_
 rotate_left
 ·rintro o ⟨h1,h2⟩;exact⟨o,by rw[h1];rfl,h2⟩
 ·rintro⟨b,i,w⟩ ⟨hb,h0,h64,hw,hv⟩;dsimp only at hb h0 h64 hw hv;subst hb;unfold Vi;dsimp only
  have hset:∀(y:UInt32),y.toNat=wd (Y5 (b.map ybi)) i.toNat→i < 64→∀(j:Nat)x,(j:Int) < i+1→(w.set i.toNat y)[j]? =some x→x.toNat=wd (Y5 (b.map ybi)) j:=by
   intro y hy hi j x hj hx;by_cases hji:j=i.toNat
   ·subst hji;rw[ycq (by omega)] at hx;cases hx;exact hy
   ·rw[List.getElem?_set_ne (Ne.symm hji)] at hx;exact hv j x (by omega) hx
  by_cases hi:i < 64
  ·left;rw[if_pos (decide_eq_true hi)];obtain⟨e,he⟩:=QT (l:=w) (i:=i.toNat) (by omega);by_cases h16:i < 16
   ·rw[if_pos (decide_eq_true h16),ZK (z:=4*i) (by omega) (by omega),if_pos (by simp only[Zd6,yi,decide_eq_true_eq];omega)];have g:∀k:Nat,k < 4→∃x,b[4*i.toNat+k]? =some x:=λk hk=>QT (by omega);obtain⟨x0,g0⟩:=g 0 (by omega);obtain⟨x1,g1⟩:=g 1 (by omega);obtain⟨x2,g2⟩:=g 2 (by omega);obtain⟨x3,g3⟩:=g 3 (by omega);have e4:(4*i).toNat=4*i.toNat:=by omega
    obtain⟨o,ho,hoe⟩:=ZGB (l:=b.drop (4*i).toNat) (by rw[List.getElem?_drop,e4];exact g0) (by rw[List.getElem?_drop,e4];exact g1) (by rw[List.getElem?_drop,e4];exact g2) (by rw[List.getElem?_drop,e4];exact g3);rw[ho,ya,if_pos (Vo h0 (by omega)),he,ya,ZK (z:=i+1) (by omega) (by omega)];refine⟨_,rfl,⟨rfl,by dsimp only;omega,by dsimp only;omega,by dsimp only;rw[ybd];exact hw,hset o ?_ hi⟩,by dsimp only;omega⟩;have mg:∀(k:Nat)(x:UInt8),b[k]? =some x→(b.map ybi)[k]? =some x.toNat:=λk x hx=>by rw[yan,hx];rfl
    have hwg:=Zl9 i.toNat (b.map ybi) _ _ _ _ (mg _ _ g0) (mg _ _ g1) (mg _ _ g2) (mg _ _ g3);rw[hoe];have b0:=x0.toNat_lt;have b1:=x1.toNat_lt;have b2:=x2.toNat_lt;have b3:=x3.toNat_lt;exact(ZCD _ (by omega) hwg (by omega)).symm
   ·rw[if_neg (by simpa using h16)];rw[ZK (z:=i - 15) (by omega) (by omega),ZK (z:=i - 2) (by omega) (by omega),ZK (z:=i - 16) (by omega) (by omega),ZK (z:=i - 7) (by omega) (by omega),ZK (z:=i+1) (by omega) (by omega)];obtain⟨e1,he1⟩:=QT (l:=w) (i:=(i - 15).toNat) (by omega);obtain⟨e2,he2⟩:=QT (l:=w) (i:=(i - 2).toNat) (by omega);obtain⟨e3,he3⟩:=QT (l:=w) (i:=(i - 16).toNat) (by omega);obtain⟨e4,he4⟩:=QT (l:=w) (i:=(i - 7).toNat) (by omega);have v1:=hv _ _ (by omega) he1;have v2:=hv _ _ (by omega) he2;have v3:=hv _ _ (by omega) he3;have v4:=hv _ _ (by omega) he4;rw[if_pos (Vo (by omega) (by omega)),he1,ya,if_pos (Vo (by omega) (by omega)),he2,ya];obtain⟨o1,ho1,p1⟩:=Zec e1 7 25 rfl (by omega) (z:= -7) rfl;obtain⟨o2,ho2,p2⟩:=Zec e1 18 14 rfl (by omega) (z:= -18) rfl;obtain⟨o3,ho3,p3⟩:=Zec e2 17 15 rfl (by omega) (z:= -17) rfl;obtain⟨o4,ho4,p4⟩:=Zec e2 19 13 rfl (by omega) (z:= -19) rfl;rw[ho1,ya,ho2,ya,ho3,ya,ho4,ya];rw[if_pos (Vo (by omega) (by omega)),he3,ya,if_pos (Vo (by omega) (by omega)),he4,ya]
    try dsimp only
    rw[if_pos (Vo h0 (by omega)),he,ya];refine⟨_,rfl,⟨rfl,by dsimp only;omega,by dsimp only;omega,by dsimp only;rw[ybd];exact hw,hset _ ?_ hi⟩,by dsimp only;omega⟩;have hn:=ZyI (Y5 (b.map ybi)) (i - 16).toNat
    rw[show(i - 16).toNat+16=i.toNat by omega,show(i - 16).toNat+1=(i - 15).toNat by omega,show(i - 16).toNat+9=(i - 7).toNat by omega,show(i - 16).toNat+14=(i - 2).toNat by omega, ←v1, ←v2, ←v3, ←v4] at hn;rw[hn];rw[ZgP,ZgP,ZgP,ZHL e1 p1 p2,ZHM e2 p3 p4];exact ZHR ..
  ·right;rw[if_neg (by simpa using hi)];exact⟨_,rfl,hw,λj x hj hx=>hv j x (by omega) hx⟩
theorem ZCH{st:List UInt32}{l:List UInt8}(hs:st.length=8)(h:l.length=64):∃o,WX fuel st l=some o∧o.map ybm=Zj9 (st.map ybm) (Y5 (l.map ybi)):=by
 unfold WX;obtain⟨w,hw,hwl,hwv⟩:=ZCG h;obtain⟨k,hk,hkv⟩:∃k,ZgM fuel=some k∧k.map ybm=ks:=⟨_,rfl,rfl⟩;have hkl:k.length=64:=by rw[←yv (f:=ybm),hkv];rfl
 generalize hws:Y5 (l.map ybi)=ws at hwv;rw[hw,ya,hk,ya]
 refine Exists.elim (XU (step:=WO fuel) (λs=>0≤s.1∧s.1≤64∧s.2.1=st∧s.2.2.2.1=w∧s.2.2.2.2.1=k∧s.2.2.2.2.2.length=8∧s.2.2.2.2.2.map ybm=rs ws (st.map ybm) s.1.toNat) (λs=>(64 - s.1).toNat)
  (λo=>o.1=st∧o.2.2.2.2.length=8∧o.2.2.2.2.map ybm=rs ws (st.map ybm) 64) ?_ ((0:Int),st,([0,0,0,0,0,0,0,0]:List UInt32),w,k,st) ⟨Int.le_refl _,by dsimp only;omega,rfl,rfl,rfl,hs,rfl⟩ (by dsimp only;omega)) ?_
 rotate_left
 ·rintro o ⟨h1,p0,p1,p2⟩;rw[h1,ya];have hml:(Zj9 (st.map ybm) ws).length=8:=ZgR (by rw[yv];exact hs)
  refine Exists.elim (XU (step:=WP fuel) (λs=>0≤s.1∧s.1≤8∧s.2.1=st∧s.2.2.2.2.2.length=8∧(∀(j:Nat)x,s.2.2.2.2.2[j]? =some x→if(j:Int) < s.1 then(Zj9 (st.map ybm) ws)[j]? =some x.toNat else(rs ws (st.map ybm) 64)[j]? =some x.toNat)) (λs=>(8 - s.1).toNat)
   (λo=>o.2.2.2.2.map ybm=Zj9 (st.map ybm) ws) ?_ ((0:Int),o.1,o.2.1,o.2.2.1,o.2.2.2.1,o.2.2.2.2) ⟨Int.le_refl _,by dsimp only;omega,p0,p1,λj x hx=>by
     dsimp only at hx ⊢;rw[if_neg (by omega), ←p2,yan,hx];rfl⟩ (by dsimp only;omega)) ?_
  rotate_left
  ·rintro q ⟨h2,q2⟩;rw[h2,ya];exact⟨_,rfl,q2⟩
  ·rintro⟨i,a,b,c,d,e⟩ ⟨h0,h8,ha,he,hv⟩;dsimp only at h0 h8 ha he hv;subst ha;unfold WP;dsimp only;by_cases hi:i < 8
   ·left;obtain⟨e1,he1⟩:=QT (l:=e) (i:=i.toNat) (by omega);obtain⟨e2,he2⟩:=QT (l:=a) (i:=i.toNat) (by omega);simp only[decide_eq_true hi,if_true,Vo h0 (show i < ((8:Nat):Int) by omega),he1,he2,ya];rw[ZK (z:=i+1) (by omega) (by omega)];refine⟨_,rfl,⟨by dsimp only;omega,by dsimp only;omega,rfl,by dsimp only;rw[ybd];exact he, ?_⟩,by dsimp only;omega⟩;intro j x hx;dsimp only at hx ⊢;by_cases hji:j=i.toNat
    ·subst hji;rw[ycq (by omega)] at hx;cases hx;rw[if_pos (by omega),ZgP];have k1:=hv _ _ he1;rw[if_neg (by omega)] at k1;unfold Zj9;rw[List.getElem?_zipWith,k1,yan,he2];rfl
    ·rw[List.getElem?_set_ne (Ne.symm hji)] at hx;have k1:=hv j x hx;by_cases hj:(j:Int) < i
     ·rw[if_pos hj] at k1;rw[if_pos (by omega)];exact k1
     ·rw[if_neg hj] at k1;rw[if_neg (by omega)];exact k1
   ·right;rw[if_neg (by simpa using hi)];refine⟨_,rfl, ?_⟩;dsimp only;apply List.ext_getElem?;intro j;rw[yan];by_cases hj:j < 8
    ·obtain⟨x,hx⟩:=QT (l:=e) (i:=j) (by omega);have:=hv j x hx;rw[if_pos (by omega)] at this;rw[hx,this];rfl
    ·rw[yap (by omega),yap (by omega)];rfl
 ·rintro⟨i,a,b,c,d,e⟩ ⟨h0,h64,ha,hc,hd,he,hv⟩;dsimp only at h0 h64 ha hc hd he hv;subst ha hc hd;unfold WO;dsimp only;by_cases hi:i < 64
  ·left
   match e,he,hv with
   |[x0,x1,x2,x3,x4,x5,x6,x7],_,hv=>
    obtain⟨e1,he1⟩:=QT (l:=d) (i:=i.toNat) (by omega);obtain⟨e2,he2⟩:=QT (l:=c) (i:=i.toNat) (by omega);obtain⟨o1,ho1,p1⟩:=Zec x4 6 26 rfl (by omega) (z:= -6) rfl;obtain⟨o2,ho2,p2⟩:=Zec x4 11 21 rfl (by omega) (z:= -11) rfl;obtain⟨o3,ho3,p3⟩:=Zec x4 25 7 rfl (by omega) (z:= -25) rfl;obtain⟨o4,ho4,p4⟩:=Zec x0 2 30 rfl (by omega) (z:= -2) rfl;obtain⟨o5,ho5,p5⟩:=Zec x0 13 19 rfl (by omega) (z:= -13) rfl;obtain⟨o6,ho6,p6⟩:=Zec x0 22 10 rfl (by omega) (z:= -22) rfl;generalize ZG fuel=R at ho1 ho2 ho3 ho4 ho5 ho6 ⊢;rw[if_pos (decide_eq_true hi)];simp only[List.getElem?_cons_zero,yax];rw[ya,ho1,ya,ya,ho2,ya,ya,ho3,ya,ya,ya,ya,ya,ya];rw[if_pos (Vo h0 (show i < ((64:Nat):Int) by omega)),he1,ya,if_pos (Vo h0 (show i < ((64:Nat):Int) by omega)),he2,ya,ya,ho4,ya,ya,ho5,ya,ya,ho6];rw[ya,ya,ya,ya,ya,ya];rw[ya,ya,ya,ya,ya,ya,ya];rw[ZK (z:=i+1) (by omega) (by omega)];refine⟨_,rfl,⟨by dsimp only;omega,by dsimp only;omega,rfl,rfl,rfl,rfl, ?_⟩,by dsimp only;omega⟩;dsimp only;rw[show(i+1).toNat=i.toNat+1 by omega,show rs ws (a.map ybm) (i.toNat+1)=rnd (rs ws (a.map ybm) i.toNat) (ks.getD i.toNat 0) (wd ws i.toNat) from rfl, ←hv]
    have hk1:ks.getD i.toNat 0=e1.toNat:=by
     rw[←hkv,ycz,yan,he1];rfl
    rw[hk1, ←hwv i.toNat e2 (by omega) he2];simp only[yaa,yca];rw[Zvn]
    have kt:((x7+((o1^^^o2)^^^o3))+(x6^^^(x4&&&(x5^^^x6)))+e1+e2).toNat=lo (yw (yw (yw (yw x7.toNat (S1 x4.toNat)) (ch x4.toNat x5.toNat x6.toNat)) e1.toNat) e2.toNat):=by
     rw[ZgP,ZgP,ZgP,ZgP,ZHO x4 p1 p2 p3,ZHP];exact ZHS ..
    have ka:((x7+((o1^^^o2)^^^o3))+(x6^^^(x4&&&(x5^^^x6)))+e1+e2+((o4^^^o5)^^^o6)+((x0&&&x1)|||(x2&&&(x0|||x1)))).toNat=lo (yw (yw (yw (yw (yw (yw x7.toNat (S1 x4.toNat)) (ch x4.toNat x5.toNat x6.toNat)) e1.toNat) e2.toNat) (S0 x0.toNat)) (mj x0.toNat x1.toNat x2.toNat)):=by
     rw[ZgP,ZgP,kt,ZHN x0 p4 p5 p6,ZHQ];exact ZHT ..
    have ke:(x3+(((x7+((o1^^^o2)^^^o3))+(x6^^^(x4&&&(x5^^^x6))))+e1+e2)).toNat=lo (yw x3.toNat (yw (yw (yw (yw x7.toNat (S1 x4.toNat)) (ch x4.toNat x5.toNat x6.toNat)) e1.toNat) e2.toNat)):=by
     rw[ZgP,kt];exact ZHU ..
    rw[ka,ke]
  ·right;rw[if_neg (by simpa using hi)];have e64:i=64:=by omega
   subst e64;exact⟨_,rfl,rfl,he,hv⟩
def Zfp(n:Nat):List UInt8:=(be8 n).map ybc
theorem Znf{n:Nat}{b:List UInt8}(h:b.length≤1000000000000):Xw fuel (n:Int) b=some (b++Zfp n):=by
 unfold Xw
 obtain⟨o,h1,h2⟩:=XU (step:=VE fuel) (λs=>∃k:Nat,k≤8∧s.1=(n:Int)∧s.2.1=56 - 8*(k:Int)∧s.2.2.1=b++(Zfp n).take k) (λs=>(s.2.1+8).toNat) (λo=>o.1=b++Zfp n) (by
  rintro⟨a,i,c,d⟩ ⟨k,hk,ha,hi,hc⟩;dsimp only at ha hi hc;subst ha;unfold VE;dsimp only;have hcl:c.length≤b.length+8:=by rw[hc,yq,yag];omega
  by_cases h0:i ≥ 0
  ·left;rw[if_pos (decide_eq_true h0),if_pos (decide_eq_true h0),if_pos (YO (by omega) (by omega)),ZK (z:=i - 8) (by omega) (by omega)];refine⟨_,rfl,⟨k+1,by omega,rfl,by dsimp only;omega, ?_⟩,by dsimp only;omega⟩;dsimp only
   have hw:∀m:Nat,w8 (Int.fdiv (n:Int) (2 ^ m))=ybc (n / 2 ^ m % 256):=by
    intro m;unfold w8;rw[Int.fdiv_eq_ediv_of_nonneg _ (by exact Int.le_of_lt (Int.pow_pos (by omega)))];congr 1
   have hmin:min i.toNat 64=56 - 8*k:=by omega
   rw[hmin,hw,hc,yam];congr 1;have hk8:k < 8:=by omega
   match k,hk8 with
   |0,_=>rfl
   |1,_=>rfl
   |2,_=>rfl
   |3,_=>rfl
   |4,_=>rfl
   |5,_=>rfl
   |6,_=>rfl
   |7,_=>
    show _++[ybc (n / 2 ^ 0 % 256)]=_;rw[Nat.pow_zero,Nat.div_one];rfl
  ·right;rw[if_neg (by simpa using h0)];have hk8:k=8:=by omega
   subst hk8;exact⟨_,rfl,hc⟩) (((n:Int),(56:Int),b,([]:List UInt8))) ⟨0,by omega,rfl,by simp,by simp⟩ (by dsimp only;omega)
 rw[h1,ya,h2]
theorem ZGC{l:List UInt8}(h:l.length≤4294967296):ZcO fuel l=some (sha l):=by
 unfold ZcO
 have hm:yy (l.length:Int) 64=((l.length % 64:Nat):Int):=by
  rw[ydb (by omega)];omega
 have hlt:l.length % 64 < 64:=ybp _ (by omega);have hle:l.length % 64≤l.length:=Nat.mod_le _ _;rw[hm,ZK (z:=(l.length:Int) - ((l.length % 64:Nat):Int)) (by omega) (by omega)];dsimp only;rw[if_pos (by simp only[Zd6,yi,decide_eq_true_eq];omega)];have hq:((l.length:Int) - ((l.length % 64:Nat):Int)).toNat=64*(l.length / 64):=by omega
 rw[hq]
 have hdl:(l.drop (64*(l.length / 64))).length=l.length % 64:=by
  rw[ybu];omega
 generalize ht:l.drop (64*(l.length / 64))=t at hdl
 have hcl:Z2 fuel t=some t:=by
  unfold Z2;rw[if_pos (YO (by omega) (by omega))]
 rw[hcl,ya,if_pos (YO (by omega) (by omega))];generalize hz:yzz=z;have hzl:z.length=32:=by rw[←hz];rfl
 have hzs:zs l.length=(119 - t.length) % 64:=by unfold zs;rw[hdl]
 obtain⟨o,h1,p1,p2,p3⟩:=XU (step:=ZaX fuel) (λs=>s.1=l∧s.2.1=z∧∃j,j≤zs l.length∧s.2.2=t++([128]:List UInt8)++yad j 0) (λs=>184 - s.2.2.length)
  (λo=>o.1=l∧o.2.1=z∧o.2.2=t++([128]:List UInt8)++yad (zs l.length) 0) (by
  rintro⟨a,b,c⟩ ⟨k1,k2,j,k3,k4⟩;dsimp only at k1 k2 k3 k4;have hcl:c.length=t.length+1+j:=by rw[k4,yq,yq,ycs];rfl
  unfold ZaX;dsimp only
  have hm:yy (c.length:Int) 64=((c.length % 64:Nat):Int):=by
   rw[ydb (by omega)];omega
  rw[hm];by_cases hi:c.length % 64=56
  ·right;rw[if_neg (by simp;omega)];have:j=zs l.length:=by omega
   subst this;exact⟨_,rfl,k1,k2,k4⟩
  ·left;rw[if_pos (by simp;omega),if_pos (YO (by omega) (by omega))];have hj:j≠zs l.length:=λe=>hi (by omega);refine⟨_,rfl,⟨k1,k2,j+1,by omega, ?_⟩, ?_⟩
   ·dsimp only;rw[k4,yam,List.replicate_succ',yam]
   ·dsimp only;rw[yq,List.length_singleton];omega) (l,z,t++([128]:List UInt8)) ⟨rfl,rfl,0,Nat.zero_le _,by simp⟩ (by dsimp only;omega)
 rw[h1,ya,p1,p2,p3,ZK (z:=8*(l.length:Int)) (by omega) (by omega),show 8*(l.length:Int)=((8*l.length:Nat):Int) by omega,Znf (by
  rw[yq,yq,ycs];simp;omega),ya]
 obtain⟨f,hf,hfl⟩:∃f,ZgK fuel=some f∧f.map ybm=Zfo:=⟨_,rfl,rfl⟩;have hf8:f.length=8:=by rw[←yv (f:=ybm),hfl];rfl
 rw[hf,ya];generalize hE:t++([128]:List UInt8)++yad (zs l.length) 0++Zfp (8*l.length)=E
 have hEl:E.length=64*((t.length+72) / 64):=by
  rw[←hE];simp only[yq,ycs,List.length_singleton,Zfp,yv,be8,yak,List.length_nil];omega
 obtain⟨o3,h3,r1,r2,r3,r4⟩:=XU (step:=ZaY fuel) (λs=>s.2.1=z∧s.2.2.1=E∧s.2.2.2.length=8∧∃c,c≤l.length / 64∧s.1=l.drop (64*c)∧s.2.2.2.map ybm=ZeJ c (l.map ybi) Zfo) (λs=>s.1.length)
  (λx=>x.1=z∧x.2.1=E∧x.2.2.length=8∧x.2.2.map ybm=ZeJ (l.length / 64) (l.map ybi) Zfo) (by
  rintro⟨a,b,c,d⟩ ⟨k1,k2,k3,j,k4,k5,k6⟩;dsimp only at k1 k2 k3 k4 k5 k6;have hal:a.length=l.length - 64*j:=by rw[k5,ybu]
  unfold ZaY;dsimp only;by_cases hi:(a.length:Int) ≥ 64
  ·left;obtain⟨m,hm1,hm2⟩:=ZCH (st:=d) (l:=a.take 64) k3 (by rw[yag];omega);rw[if_pos (decide_eq_true hi),if_pos (by simp only[Zd6,yi,decide_eq_true_eq];omega),hm1,ya,if_pos (by simp only[Zd6,yi,decide_eq_true_eq];omega)];refine⟨_,rfl,⟨k1,k2, ?_,j+1,by omega, ?_, ?_⟩,by dsimp only;rw[ybu];omega⟩
   ·dsimp only;rw[←yv (f:=ybm),hm2];exact ZgR (by rw[yv];exact k3)
   ·dsimp only;rw[k5,List.drop_drop];congr 1
   ·dsimp only;rw[hm2,Zlh,k6,k5,List.map_take,List.map_drop]
  ·right;rw[if_neg (by simpa using hi)];have:j=l.length / 64:=by omega
   subst this;exact⟨_,rfl,k1,k2,k3,k6⟩) (l,z,E,f) ⟨rfl,rfl,hf8,0,Nat.zero_le _,by simp,hfl⟩ (by dsimp only;omega)
 rw[h3,ya,r1,r2];generalize hv1:ZeJ (l.length / 64) (l.map ybi) Zfo=v1 at r4
 obtain⟨o4,h4,s1,s2,s3⟩:=XU (step:=ZaZ fuel) (λs=>s.2.1=z∧s.2.2.2.length=8∧∃c,c≤E.length / 64∧s.1=E.drop (64*c)∧s.2.2.2.map ybm=ZeJ c (E.map ybi) v1) (λs=>s.1.length)
  (λx=>x.1=z∧x.2.2.length=8∧x.2.2.map ybm=ZeJ (E.length / 64) (E.map ybi) v1) (by
  rintro⟨a,b,c,d⟩ ⟨k1,k3,j,k4,k5,k6⟩;dsimp only at k1 k3 k4 k5 k6;have hal:a.length=E.length - 64*j:=by rw[k5,ybu]
  unfold ZaZ;dsimp only;by_cases hi:(a.length:Int) > 0
  ·left;obtain⟨m,hm1,hm2⟩:=ZCH (st:=d) (l:=a.take 64) k3 (by rw[yag];omega);rw[if_pos (decide_eq_true hi),if_pos (by simp only[Zd6,yi,decide_eq_true_eq];omega),hm1,ya,if_pos (by simp only[Zd6,yi,decide_eq_true_eq];omega)];refine⟨_,rfl,⟨k1, ?_,j+1,by omega, ?_, ?_⟩,by dsimp only;rw[ybu];omega⟩
   ·dsimp only;rw[←yv (f:=ybm),hm2];exact ZgR (by rw[yv];exact k3)
   ·dsimp only;rw[k5,List.drop_drop];congr 1
   ·dsimp only;rw[hm2,Zlh,k6,k5,List.map_take,List.map_drop]
  ·right;rw[if_neg (by simpa using hi)];have:j=E.length / 64:=by omega
   subst this;exact⟨_,rfl,k1,k3,k6⟩) (E,z,E,o3.2.2) ⟨rfl,r3,0,Nat.zero_le _,by simp,r4⟩ (by dsimp only;omega)
 rw[h4,ya];generalize hv2:ZeJ (E.length / 64) (E.map ybi) v1=v2 at s3
 obtain⟨o5,h5,t1,t2⟩:=XU (step:=Za0 fuel) (λs=>0≤s.1∧s.1≤32∧s.2.1.length=32∧s.2.2.2=o4.2.2∧∀(j:Nat),(j:Int) < s.1→s.2.1[j]? =some (Go.Sha.ZCE v2 j)) (λs=>(32 - s.1).toNat)
  (λx=>x.1.length=32∧∀(j:Nat),j < 32→x.1[j]? =some (Go.Sha.ZCE v2 j)) (by
  rintro⟨i,a,b,c⟩ ⟨h0,h32,ha,hc,hv⟩;dsimp only at h0 h32 ha hc hv;subst hc;unfold Za0;dsimp only;by_cases hi:i < 32
  ·left;rw[if_pos (decide_eq_true hi)];have e1:yh i 4=i / 4:=Int.tdiv_eq_ediv_of_nonneg h0;have e2:yy i 4=i % 4:=ydb h0;rw[e1,e2,ZK (z:=i / 4) (by omega) (by omega),ZK (z:=8*(i % 4)) (by omega) (by omega),ZK (z:=24 - 8*(i % 4)) (by omega) (by omega),ZK (z:=i+1) (by omega) (by omega)];obtain⟨x1,hx1⟩:=QT (l:=o4.2.2) (i:=(i / 4).toNat) (by omega);obtain⟨x2,hx2⟩:=QT (l:=a) (i:=i.toNat) (by omega);rw[if_pos (Vo (by omega) (by omega)),hx1,ya,if_pos (decide_eq_true (by omega))]
   try dsimp only
   rw[if_pos (Vo (by omega) (by omega)),hx2,ya];refine⟨_,rfl,⟨by dsimp only;omega,by dsimp only;omega,by dsimp only;rw[ybd];exact ha,rfl, ?_⟩,by dsimp only;omega⟩;intro j hj;dsimp only at hj ⊢;by_cases hji:j=i.toNat
   ·subst hji;rw[ycq (by omega)];congr 1;unfold Go.Sha.ZCE
    have hx:v2.getD (i.toNat / 4) 0=x1.toNat:=by
     rw[←s3,ycz,yan,show i.toNat / 4=(i / 4).toNat by omega,hx1];rfl
    rw[hx,show min (24 - 8*(i % 4)).toNat 32=24 - 8*(i.toNat % 4) by omega,Zvm];unfold w8;have e3:∀m:Nat,(((m:Nat):Int) % 256).toNat=m % 256:=λm=>by omega
    rw[e3,show yai x1.toNat (24 - 8*(i.toNat % 4))=x1.toNat >>> (24 - 8*(i.toNat % 4)) from rfl,Nat.shiftRight_eq_div_pow]
    exact UInt8.toNat_inj.1 (by simp)
   ·rw[List.getElem?_set_ne (Ne.symm hji)];exact hv j (by omega)
  ·right;rw[if_neg (by simpa using hi)];exact⟨_,rfl,ha,λj hj=>hv j (by omega)⟩) ((0:Int),o4.1,o4.2.1,o4.2.2) ⟨Int.le_refl _,by dsimp only;omega,by dsimp only;rw[s1];exact hzl,rfl,λj hj=>by dsimp only at hj;omega⟩ (by dsimp only;omega)
 rw[h5,ya,ZCF];congr 1
 have hpad:Zfn l=(l.take (64*(l.length / 64))).map ybi++E.map ybi:=by
  unfold Zfn;rw[←hE, ←ht];simp only[yaj,List.map_replicate,yaa,yca,Zfp,List.map_map];rw[←yam, ←yam, ←yam, ←yaj,ybj]
  have:be8 (8*l.length)=(be8 (8*l.length)).map (ybi ∘ ybc):=by
   simp[be8]
  rw[←this];simp
 have hw:((l.take (64*(l.length / 64))).map ybi).length=64*(l.length / 64):=by
  rw[yv,yag];omega
 have hv:v2=ZeJ ((l.length+72) / 64) (Zfn l) Zfo:=by
  rw[hpad,show(l.length+72) / 64=l.length / 64+E.length / 64 by omega,Zo0 _ _ _ _ _ hw, ←hv2, ←hv1];congr 1;have:=Zo0 (l.length / 64) 0 _ ((l.drop (64*(l.length / 64))).map ybi) Zfo hw;rw[←yaj,ybj,Nat.add_zero] at this;exact this
 rw[←hv];apply List.ext_getElem?;intro j;by_cases hj:j < 32
 ·rw[t2 j hj,yan,List.getElem?_range hj];rfl
 ·rw[yap (by omega),yap (by simp;omega)]
noncomputable def Zci(F:Nat)(a0:List UInt8):Option (List UInt8):=if decide (a0.length≤4294967296)=true then some (sha a0) else ZcO F a0
noncomputable def Zvq(F:Nat):Fs Try.prog:={ Zfm F with M:=λx=>Zci F x}
noncomputable def Zo1:Fs Try.prog:=Zvq fuel
theorem Zvr:Zo1.Ok:=Zs1 (s:=Zfm fuel) Ztb λx=>by
 show Zci fuel x=ZcO fuel x;unfold Zci;split
 ·rename_i h;exact(ZGC (of_decide_eq_true h)).symm
 ·rfl
theorem ZyO{l:List UInt8}(h:l.length≤4294967296):Zci fuel l=some (sha l):=if_pos (decide_eq_true h)
end Go.Proofs.Ytkapgdbeeblihaa
end
section
set_option maxRecDepth 4000
namespace Go.Proofs.Ytkapgdbeeblihaa
open Go Go.Ev
noncomputable section
def Zka(F:Nat):Fs Try.prog:=⟨56,[.nil .u8,.v yI],[],[yI],(ZbC F).xs,λx=>(ZbC F).M (x,([]:List UInt8))⟩
def ZeK:Fs Try.prog:=Zka fuel
theorem Zkb:ZeK.Ok:=ZGf (i1:=[yI]) (i2:=[yI,(.sl .u8)]) (λx=>(x,([]:List UInt8))) ZbD (λ_=>rfl) (λ_=>⟨_,rfl⟩)
def X2(F:Nat)(s:((List (List UInt8))×Int×Int×(List UInt8)×(List UInt8))):Option (((List (List UInt8))×Int×Int×(List UInt8)×(List UInt8))⊕((List UInt8)×(List UInt8))):=
 if(decide (s.2.2.1 < s.2.1))=true then
  (idx s.1 s.2.2.1).bind λe170=>
  (Xw F (e170.length:Int) s.2.2.2.2).bind λo171=>
  if(apB o171.length e170.length 1)=true then
   some (.inl (s.1,s.2.1,wi (s.2.2.1+1),s.2.2.2.1,o171++e170))
  else
  none
 else
 some (.inr (s.2.2.2.1,s.2.2.2.2))
def Zma:Lp:=⟨[(4,.ref 0 []),(5,.own 1 .u8),(13,.v (.sl (.sl .u8))),(14,.v yI),(15,.v yI)],[.var (.v (.arr 32 .u8)) true,.log .u8 5],[(.sl (.sl .u8)),yI,yI,(.arr 32 .u8),(.sl .u8)],[⟨.exit 0,[(4,.ref 0 []),(5,.own 1 .u8)],[.var (.v (.arr 32 .u8)) true,.log .u8 5],[(.arr 32 .u8),(.sl .u8)]⟩],Zi (X2 fuel) fuel⟩
def hi5:HI:={ own:=[5,10,12,19,22,24],still:=[9,19,21,26]}
theorem Zo2:Zma.okA Try.prog 30 0:=Z6 hi5 [] [ZcN] ⟨ZbD,ytt⟩
def W7(F:Nat)(a0:ByteArray)(a1:(List (List UInt8))):Option ((List UInt8)):=
 (Xw F (a0.size:Int) []).bind λo169=>
 if(apB o169.length ((Zd7 a0).length) 1)=true then
  (Zi (X2 F) F (a1,(a1.length:Int),0,yzz,o169++(Zd7 a0))).bind λo172=>
  (Zci F o172.2).bind λo173=>
  some o173
 else
 none
def Zvs(F:Nat):Fs Try.prog:=⟨30,[.v .str,.v (.sl (.sl .u8))],[],[.str,(.sl (.sl .u8))],[⟨.ret,[(0,.v (.arr 32 .u8))],[],[(.arr 32 .u8)]⟩],λx=>W7 F x.1 x.2⟩
def ZcP:Fs Try.prog:=Zvs fuel
theorem ZdN:ZcP.Ok:=fnO hi5 [(0,Zma)] [ZeK,Zo1] ⟨Zkb,Zvr,ytt⟩ ⟨Zo2,ytt⟩
def YL(F:Nat)(s:((List (List UInt8))×Int×(List (List UInt8))×Int×Int)):Option (((List (List UInt8))×Int×(List (List UInt8))×Int×Int)⊕((List (List UInt8))×Int)):=
 if(decide (s.2.2.2.2 < s.2.2.2.1))=true then
  (idx s.2.2.1 s.2.2.2.2).bind λe174=>
  if(decide ((wi (s.2.1+(e174.length:Int))) < 0))=true then
   none
  else
  some (.inl (s.1,wi (s.2.1+(e174.length:Int)),s.2.2.1,s.2.2.2.1,wi (s.2.2.2.2+1)))
 else
 some (.inr (s.1,s.2.1))
def Vt:Lp:=⟨[(0,.v (.sl (.sl .u8))),(3,.v yI),(9,.v (.sl (.sl .u8))),(10,.v yI),(11,.v yI)],[],[(.sl (.sl .u8)),yI,(.sl (.sl .u8)),yI,yI],[⟨.exit 0,[(0,.v (.sl (.sl .u8))),(3,.v yI)],[],[(.sl (.sl .u8)),yI]⟩],Zi (YL fuel) fuel⟩
def hi6:HI:={ own:=[6,24,31,33],still:=[2,23]}
theorem Zbj:Vt.okA Try.prog 90 0:=Z6 hi6 [] [] trivial
def Qp:Fs Try.prog:=⟨99,[.nil .u8,.v yI],[],[.int .i64],[⟨.ret,[(0,.own 0 .u8)],[.log .u8 5],[.sl .u8]⟩],ZoC⟩
theorem Zed:Qp.Ok:=ZEi ZCl
def YM(F:Nat)(s:((List (List UInt8))×Int×Int×(List UInt8))):Option (((List (List UInt8))×Int×Int×(List UInt8))⊕(List UInt8)):=
 if(decide (s.2.2.1 < s.2.1))=true then
  (idx s.1 s.2.2.1).bind λe177=>
  if(apB s.2.2.2.length e177.length 1)=true then
   some (.inl (s.1,s.2.1,wi (s.2.2.1+1),s.2.2.2++e177))
  else
  none
 else
 some (.inr s.2.2.2)
def Vu:Lp:=⟨[(6,.own 0 .u8),(25,.v (.sl (.sl .u8))),(26,.v yI),(27,.v yI)],[.log .u8 5],[(.sl (.sl .u8)),yI,yI,(.sl .u8)],[⟨.exit 2,[(6,.own 0 .u8)],[.log .u8 5],[(.sl .u8)]⟩],Zi (YM fuel) fuel⟩
theorem Zbk:Vu.okA Try.prog 90 1:=Z6 hi6 [] [] trivial
def Yt(F:Nat)(a0:(List (List UInt8))):Option ((List UInt8)):=
 (Zi (YL F) F (a0,0,a0,(a0.length:Int),0)).bind λo175=>
 (ZoC o175.2).bind λo176=>
 (Zi (YM F) F (o175.1,(o175.1.length:Int),0,o176)).bind λo178=>
 some o178
def ZcQ(F:Nat):Fs Try.prog:=⟨90,[.v (.sl (.sl .u8))],[],[(.sl (.sl .u8))],[⟨.ret,[(0,.v (.sl .u8))],[],[(.sl .u8)]⟩],λx=>Yt F x⟩
def XS:Fs Try.prog:=ZcQ fuel
theorem Vv:XS.Ok:=fnO hi6 [(0,Vt),(1,Vu)] [Qp] ⟨Zed,ytt⟩ ⟨Zbj,Zbk,ytt⟩
def Qa(F:Nat)(a0:(List UInt8))(a1:(List UInt8)):Option ((List UInt8)):=
 (Yt F [a0,a1]).bind λo179=>
 some o179
def Ztd(F:Nat):Fs Try.prog:=⟨88,[.v (.sl .u8),.v (.sl .u8)],[],[(.sl .u8),(.sl .u8)],[⟨.ret,[(0,.v (.sl .u8))],[],[(.sl .u8)]⟩],λx=>Qa F x.1 x.2⟩
def ZdO:Fs Try.prog:=Ztd fuel
theorem Zfq:ZdO.Ok:=fnO { still:=[4,7]} [] [XS] ⟨Vv,ytt⟩
def Zb8(F:Nat)(s:(Int×(List UInt8))):Option ((Int×(List UInt8))⊕(Int×(List UInt8))):=
 if(decide (s.1 ≥ 128))=true then
  if(apB s.2.length 1 1)=true then
   let y180:(List UInt8):=s.2++([w8 (wi ((yy s.1 128)+128))]:List UInt8)
   some (.inl (wi (yh s.1 128),y180))
  else
  none
 else
 some (.inr (s.1,s.2))
def Zmb:Lp:=⟨[(0,.v yI),(3,.own 0 .u8)],[.log .u8 5],[yI,(.sl .u8)],[⟨.exit 0,[(0,.v yI),(3,.own 0 .u8)],[.log .u8 5],[yI,(.sl .u8)]⟩],Zi (Zb8 fuel) fuel⟩
def hi7:HI:={ own:=[3,8,14,15,19],still:=[2]}
theorem Zo3:Zmb.okA Try.prog 89 0:=Z6 hi7 [] [] trivial
def ZeL(F:Nat)(a0:Int):Option ((List UInt8)):=
 (Zi (Zb8 F) F (a0,[])).bind λo181=>
 if(apB o181.2.length 1 1)=true then
  some (o181.2++([w8 o181.1]:List UInt8))
 else
 none
def Zvt(F:Nat):Fs Try.prog:=⟨89,[.v yI],[],[yI],[⟨.ret,[(0,.v (.sl .u8))],[],[(.sl .u8)]⟩],λx=>ZeL F x⟩
def ZiM:Fs Try.prog:=Zvt fuel
theorem Zmc:ZiM.Ok:=fnO hi7 [(0,Zmb)] [] trivial ⟨Zo3,ytt⟩
def XA(F:Nat)(a0:(List UInt8))(a1:Int):Option ((List UInt8)):=
 if(decide (a1 < 0))=true then
  (Qa F a0 []).bind λo182=>
  some o182
 else
 (ZeL F a1).bind λo183=>
 (Qa F a0 o183).bind λo184=>
 some o184
def Zvu(F:Nat):Fs Try.prog:=⟨58,[.v (.sl .u8),.v yI],[],[(.sl .u8),yI],[⟨.ret,[(0,.v (.sl .u8))],[],[(.sl .u8)]⟩],λx=>XA F x.1 x.2⟩
def Qb:Fs Try.prog:=Zvu fuel
theorem Qq:Qb.Ok:=fnO { still:=[4,7,9,10,11]} [] [ZdO,ZiM] ⟨Zfq,Zmc,ytt⟩
def Za1(F:Nat)(a0:(List UInt8))(a1:(List UInt8)):Option ((List UInt8)):=
 (Qa F a0 a1).bind λo185=>
 some o185
def ZmI(F:Nat):Fs Try.prog:=⟨59,[.v (.sl .u8),.v (.arr 32 .u8)],[],[(.sl .u8),(.arr 32 .u8)],[⟨.ret,[(0,.v (.sl .u8))],[],[(.sl .u8)]⟩],λx=>Za1 F x.1 x.2⟩
def ZgS:Fs Try.prog:=ZmI fuel
theorem ZmJ:ZgS.Ok:=fnO { still:=[4,5,6],frz:=[6]} [] [ZdO] ⟨Zfq,ytt⟩
def Q0(F:Nat)(a0:(List UInt8))(a1:(List UInt8)):Option ((List UInt8)):=
 (ZeL F (a1.length:Int)).bind λo186=>
 (Yt F [a0,o186,a1]).bind λo187=>
 some o187
def Zli(F:Nat):Fs Try.prog:=⟨60,[.v (.sl .u8),.v (.sl .u8)],[],[(.sl .u8),(.sl .u8)],[⟨.ret,[(0,.v (.sl .u8))],[],[(.sl .u8)]⟩],λx=>Q0 F x.1 x.2⟩
def ZfO:Fs Try.prog:=Zli fuel
theorem Zlj:ZfO.Ok:=fnO { still:=[4,7,10]} [] [ZiM,XS] ⟨Zmc,Vv,ytt⟩
def V0(F:Nat)(s:((List UInt8)×UInt64×Int×(List UInt8))):Option (((List UInt8)×UInt64×Int×(List UInt8))⊕((List UInt8)×(List UInt8))):=
 if(decide (s.2.2.1 < 8))=true then
  if(decide (0≤wi (56 - (wi (8*s.2.2.1)))))=true then
   let y188:UInt64:=ZB s.2.1 (min (wi (56 - (wi (8*s.2.2.1)))).toNat 64)
   if(inB s.2.2.1 8)=true then
    (s.2.2.2[s.2.2.1.toNat]?).bind λe189=>
    let y190:(List UInt8):=s.2.2.2.set s.2.2.1.toNat (w8 (y188.toNat:Int))
    some (.inl (s.1,s.2.1,wi (s.2.2.1+1),y190))
   else
   none
  else
  none
 else
 some (.inr (s.1,s.2.2.2))
def ZgT:Lp:=⟨[(0,.v (.sl .u8)),(1,.v .u64),(5,.ref 0 []),(7,.v yI)],[.var (.v (.arr 8 .u8)) true],[(.sl .u8),.u64,yI,(.arr 8 .u8)],[⟨.exit 0,[(0,.v (.sl .u8)),(5,.ref 0 [])],[.var (.v (.arr 8 .u8)) true],[(.sl .u8),(.arr 8 .u8)]⟩],Zi (V0 fuel) fuel⟩
theorem Zkc:ZgT.okA Try.prog 91 0:=Z6 { still:=[4,19,20],frz:=[20]} [] [] trivial
def Q1(F:Nat)(a0:(List UInt8))(a1:UInt64):Option ((List UInt8)):=
 (Zi (V0 F) F (a0,a1,0,[0,0,0,0,0,0,0,0])).bind λo191=>
 (Qa F o191.1 o191.2).bind λo192=>
 some o192
def Zo4(F:Nat):Fs Try.prog:=⟨91,[.v (.sl .u8),.v .u64],[],[(.sl .u8),.u64],[⟨.ret,[(0,.v (.sl .u8))],[],[(.sl .u8)]⟩],λx=>Q1 F x.1 x.2⟩
def Zee:Fs Try.prog:=Zo4 fuel
theorem ZgU:Zee.Ok:=fnO { still:=[4,19,20],frz:=[20]} [(0,ZgT)] [ZdO] ⟨Zfq,ytt⟩ ⟨Zkc,ytt⟩
def Vw(F:Nat)(s:((List UInt8)×(List Z1)×Int×Int×(List UInt64)×Int×Int×XQ×Z1)):Option (((List UInt8)×(List Z1)×Int×Int×(List UInt64)×Int×Int×XQ×Z1)⊕((List UInt8)×(List Z1)×Int×Int×XQ×Z1)):=
 if(decide (s.2.2.2.2.2.2.1 < s.2.2.2.2.2.1))=true then
  (idx s.2.2.2.2.1 s.2.2.2.2.2.2.1).bind λe197=>
  (Q1 F s.1 e197).bind λo198=>
  some (.inl (o198,s.2.1,s.2.2.1,s.2.2.2.1,s.2.2.2.2.1,s.2.2.2.2.2.1,wi (s.2.2.2.2.2.2.1+1),s.2.2.2.2.2.2.2.1,s.2.2.2.2.2.2.2.2))
 else
 some (.inr (s.1,s.2.1,s.2.2.1,s.2.2.2.1,s.2.2.2.2.2.2.2.1,s.2.2.2.2.2.2.2.2))
abbrev tL0:List Ty:=[(.sl .u8),(.sl ZO),yI,yI,(.sl .u64),yI,yI,YP,ZO]
def Zh9:Lp:=⟨[(3,.v (.sl .u8)),(5,.ref 1 []),(16,.v (.sl ZO)),(17,.v yI),(18,.v yI),(28,.v (.sl .u64)),(29,.v yI),(30,.v yI)],[.var (.v YP) true,.var (.v ZO) true],tL0,[⟨.exit 2,[(3,.v (.sl .u8)),(5,.ref 1 []),(16,.v (.sl ZO)),(17,.v yI),(18,.v yI)],[.var (.v YP) true,.var (.v ZO) true],[(.sl .u8),(.sl ZO),yI,yI,YP,ZO]⟩],Zi (Vw fuel) fuel⟩
def hi8:HI:={ still:=[2,8,13,22,25,34,35,38,40,41,43,44,46]}
theorem Zlk:Zh9.okA Try.prog 61 1:=Z6 hi8 [] [Zee] ⟨ZgU,ytt⟩
def Q2(F:Nat)(s:((List UInt8)×(List Z1)×Int×Int×XQ)):Option (((List UInt8)×(List Z1)×Int×Int×XQ)⊕((List UInt8)×XQ)):=
 if(decide (s.2.2.2.1 < s.2.2.1))=true then
  (idx s.2.1 s.2.2.2.1).bind λe195=>
  (XA F s.1 (e195.1.length:Int)).bind λo196=>
  (Zi (Vw F) F (o196,s.2.1,s.2.2.1,s.2.2.2.1,e195.1,(e195.1.length:Int),0,s.2.2.2.2,e195)).bind λo199=>
  (XA F o199.1 o199.2.2.2.2.2.2.1).bind λo200=>
  (XA F o200 o199.2.2.2.2.2.2.2.1).bind λo201=>
  (Q1 F o201 o199.2.2.2.2.2.2.2.2).bind λo202=>
  some (.inl (o202,o199.2.1,o199.2.2.1,wi (o199.2.2.2.1+1),o199.2.2.2.2.1))
 else
 some (.inr (s.1,s.2.2.2.2))
def Zia:Lp:=⟨[(3,.v (.sl .u8)),(16,.v (.sl ZO)),(17,.v yI),(18,.v yI)],[.var (.v YP) true],[(.sl .u8),(.sl ZO),yI,yI,YP],[⟨.exit 0,[(3,.v (.sl .u8))],[.var (.v YP) true],[(.sl .u8),YP]⟩],Zi (Q2 fuel) fuel⟩
theorem Zll:Zia.okA Try.prog 61 0:=Z6 hi8 [(1,Zh9)] [Qb,Zee] ⟨Qq,ZgU,ytt⟩ ⟨Zlk,ytt⟩
def ZdP(F:Nat)(a0:XQ):Option ((List UInt8)):=
 (Xu F a0).bind λo193=>
 if(!o193)=true then
  some []
 else
 (XA F [] (a0.length:Int)).bind λo194=>
 (Zi (Q2 F) F (o194,a0,(a0.length:Int),0,a0)).bind λo203=>
 some o203.1
def Zqf(F:Nat):Fs Try.prog:=⟨61,[.v YP],[],[YP],[⟨.ret,[(0,.v (.sl .u8))],[],[(.sl .u8)]⟩],λx=>ZdP F x⟩
def Zkd:Fs Try.prog:=Zqf fuel
theorem Zqg:Zkd.Ok:=fnO hi8 [(0,Zia)] [QX,Qb] ⟨ZaV,Qq,ytt⟩ ⟨Zll,ytt⟩
def Zb9(F:Nat)(s:((List UInt8)×(List In)×Int×Int×Tx)):Option (((List UInt8)×(List In)×Int×Int×Tx)⊕((List UInt8)×Tx)):=
 if(decide (s.2.2.2.1 < s.2.2.1))=true then
  (idx s.2.1 s.2.2.2.1).bind λe205=>
  (Za1 F s.1 e205.1.1).bind λo206=>
  (XA F o206 e205.1.2).bind λo207=>
  some (.inl (o207,s.2.1,s.2.2.1,wi (s.2.2.2.1+1),s.2.2.2.2))
 else
 some (.inr (s.1,s.2.2.2.2))
def Zmd:Lp:=⟨[(1,.ref 0 []),(3,.v (.sl .u8)),(13,.v (.sl yIn)),(14,.v yI),(15,.v yI)],[.var (.v yTx) true],[(.sl .u8),(.sl yIn),yI,yI,yTx],[⟨.exit 0,[(1,.ref 0 []),(3,.v (.sl .u8))],[.var (.v yTx) true],[(.sl .u8),yTx]⟩],Zi (Zb9 fuel) fuel⟩
def hi9:HI:={ still:=[2,10,19,22,23,26,29,32,41,43,44,46,47,50,52]}
theorem Zo5:Zmd.okA Try.prog 31 0:=Z6 hi9 [] [ZgS,Qb] ⟨ZmJ,Qq,ytt⟩
def Zca(F:Nat)(s:((List UInt8)×(List Out)×Int×Int×Tx)):Option (((List UInt8)×(List Out)×Int×Int×Tx)⊕((List UInt8)×Tx)):=
 if(decide (s.2.2.2.1 < s.2.2.1))=true then
  (idx s.2.1 s.2.2.2.1).bind λe210=>
  (XA F s.1 e210.1).bind λo211=>
  (ZdP F e210.2).bind λo212=>
  (Q0 F o211 o212).bind λo213=>
  some (.inl (o213,s.2.1,s.2.2.1,wi (s.2.2.2.1+1),s.2.2.2.2))
 else
 some (.inr (s.1,s.2.2.2.2))
def Zme:Lp:=⟨[(1,.ref 0 []),(3,.v (.sl .u8)),(35,.v (.sl Zt)),(36,.v yI),(37,.v yI)],[.var (.v yTx) true],[(.sl .u8),(.sl Zt),yI,yI,yTx],[⟨.exit 2,[(1,.ref 0 []),(3,.v (.sl .u8))],[.var (.v yTx) true],[(.sl .u8),yTx]⟩],Zi (Zca fuel) fuel⟩
theorem Zo6:Zme.okA Try.prog 31 1:=Z6 hi9 [] [Qb,Zkd,ZfO] ⟨Qq,Zqg,Zlj,ytt⟩
def ZhH(F:Nat)(a0:Tx):Option ((List UInt8)):=
 (XA F [] (a0.1.length:Int)).bind λo204=>
 (Zi (Zb9 F) F (o204,a0.1,(a0.1.length:Int),0,a0)).bind λo208=>
 (XA F o208.1 (o208.2.2.1.length:Int)).bind λo209=>
 (Zi (Zca F) F (o209,o208.2.2.1,(o208.2.2.1.length:Int),0,o208.2)).bind λo214=>
 (XA F o214.1 o214.2.2.2).bind λo215=>
 some o215
def Zvv(F:Nat):Fs Try.prog:=⟨31,[.v yTx],[],[yTx],[⟨.ret,[(0,.v (.sl .u8))],[],[(.sl .u8)]⟩],λx=>ZhH F x⟩
def Zo7:Fs Try.prog:=Zvv fuel
theorem Zvw:Zo7.Ok:=fnO hi9 [(0,Zmd),(1,Zme)] [Qb] ⟨Qq,ytt⟩ ⟨Zo5,Zo6,ytt⟩
def ZCI:ByteArray:=⟨#[116,120]⟩
def ZY(F:Nat)(a0:Tx):Option ((List UInt8)):=
 (Qo F a0).bind λo216=>
 if(!o216)=true then
  some yzz
 else
 (ZhH F a0).bind λo217=>
 (W7 F ZCI [o217]).bind λo218=>
 some o218
def ZCJ(F:Nat):Fs Try.prog:=⟨10,[.v yTx],[],[yTx],[⟨.ret,[(0,.v (.arr 32 .u8))],[],[(.arr 32 .u8)]⟩],λx=>ZY F x⟩
def WQ:Fs Try.prog:=ZCJ fuel
theorem X3:WQ.Ok:=fnO { still:=[3,7,9]} [] [ZcM,Zo7,ZcP] ⟨ZdI,Zvw,ZdN,ytt⟩
def Zbl(F:Nat)(s:(Int×Int×Tx×(List Zd)×(List UInt8))):Option ((Int×Int×Tx×(List Zd)×(List UInt8))⊕(Tx×(List Zd)×(List UInt8))):=
 if(decide (s.2.1 < s.1))=true then
  if(apB s.2.2.2.1.length 1 40)=true then
   let y221:(List Zd):=s.2.2.2.1++([(s.2.2.2.2,s.2.1)]:List Zd)
   some (.inl (s.1,wi (s.2.1+1),s.2.2.1,y221,s.2.2.2.2))
  else
  none
 else
 some (.inr (s.2.2.1,s.2.2.2.1,s.2.2.2.2))
def Zo8:Lp:=⟨[(2,.own 1 Zb),(3,.ref 2 []),(12,.v yI),(13,.v yI)],[.var (.v yTx) true,.log Zb 34,.var (.v (.arr 32 .u8)) true],[yI,yI,yTx,(.sl Zb),(.arr 32 .u8)],[⟨.exit 0,[(2,.own 1 Zb)],[.var (.v yTx) true,.log Zb 34,.var (.v (.arr 32 .u8)) true],[yTx,(.sl Zb),(.arr 32 .u8)]⟩],Zi (Zbl fuel) fuel⟩
def ZHl:HI:={ own:=[2,16,21,23],still:=[2,5,7]}
theorem Zqh:Zo8.okA Try.prog 33 0:=Z6 ZHl [] [] trivial
def ZgV(F:Nat)(a0:Tx):Option ((List Zd)):=
 (ZY F a0).bind λo219=>
 (Qo F a0).bind λo220=>
 if(!o220)=true then
  some []
 else
 (Zi (Zbl F) F ((a0.2.1.length:Int),0,a0,[],o219)).bind λo222=>
 some o222.2.1
def Zxl(F:Nat):Fs Try.prog:=⟨33,[.v yTx],[],[yTx],[⟨.ret,[(0,.v (.sl Zb))],[],[(.sl Zb)]⟩],λx=>ZgV F x⟩
def Zlm:Fs Try.prog:=Zxl fuel
theorem Zo9:Zlm.Ok:=fnO ZHl [(0,Zo8)] [WQ,ZcM] ⟨X3,ZdI,ytt⟩ ⟨Zqh,ytt⟩
def VF(F:Nat)(a0:UInt64):Option (UInt64):=
 (Xq F a0).bind λo223=>
 if o223=true then
  some a0
 else
 some 1
def Zpa(F:Nat):Fs Try.prog:=⟨73,[.v .u64],[],[.u64],[⟨.ret,[(0,.v .u64)],[],[.u64]⟩],λx=>VF F x⟩
def Za2:Fs Try.prog:=Zpa fuel
theorem ZcR:Za2.Ok:=fnO { still:=[2,3]} [] [VT] ⟨QW,ytt⟩
def Q3(F:Nat)(a0:UInt64)(a1:UInt64):Option (UInt64):=
 (VF F a0).bind λo224=>
 (VD F o224 (a1 % 2305843009213688669)).bind λo225=>
 some o225
def Zpb(F:Nat):Fs Try.prog:=⟨47,[.v .u64,.v .u64],[],[.u64,.u64],[⟨.ret,[(0,.v .u64)],[],[.u64]⟩],λx=>Q3 F x.1 x.2⟩
def Zef:Fs Try.prog:=Zpb fuel
theorem ZgW:Zef.Ok:=fnO { still:=[4,5,6,8]} [] [Za2,ZaT] ⟨ZcR,ZcJ,ytt⟩
def Xx(F:Nat)(a0:UInt64):Option (UInt64):=
 (Q3 F 4 a0).bind λo226=>
 some o226
def Zqi(F:Nat):Fs Try.prog:=⟨22,[.v .u64],[],[.u64],[⟨.ret,[(0,.v .u64)],[],[.u64]⟩],λx=>Xx F x⟩
def WR:Fs Try.prog:=Zqi fuel
theorem W8:WR.Ok:=fnO { still:=[2,3]} [] [Zef] ⟨ZgW,ytt⟩
def Za3(F:Nat)(s:(UInt64×(List UInt64)×Int×Int)):Option ((UInt64×(List UInt64)×Int×Int)⊕UInt64):=
 if(decide (s.2.2.2 < s.2.2.1))=true then
  (idx s.2.1 s.2.2.2).bind λe227=>
  (VF F e227).bind λo228=>
  (Yc F s.1 o228).bind λo229=>
  some (.inl (o229,s.2.1,s.2.2.1,wi (s.2.2.2+1)))
 else
 some (.inr s.1)
def Zke:Lp:=⟨[(3,.v .u64),(6,.v (.sl .u64)),(7,.v yI),(8,.v yI)],[],[.u64,(.sl .u64),yI,yI],[⟨.exit 0,[(3,.v .u64)],[],[.u64]⟩],Zi (Za3 fuel) fuel⟩
theorem ZmK:Zke.okA Try.prog 80 0:=Z6 { still:=[2,12,13,14]} [] [Za2,Zea] ⟨ZcR,ZgG,ytt⟩
def ZcS(F:Nat)(a0:(List UInt64)):Option (UInt64):=
 (Zi (Za3 F) F (1,a0,(a0.length:Int),0)).bind λo230=>
 some o230
def Zte(F:Nat):Fs Try.prog:=⟨80,[.v (.sl .u64)],[],[(.sl .u64)],[⟨.ret,[(0,.v .u64)],[],[.u64]⟩],λx=>ZcS F x⟩
def ZgX:Fs Try.prog:=Zte fuel
theorem Zkf:ZgX.Ok:=fnO { still:=[2,12,13,14]} [(0,Zke)] [] trivial ⟨ZmK,ytt⟩
def VG(F:Nat)(a0:UInt64):Option (Bool):=
 some (decide (a0 < 2305843009213688669))
def Zpc(F:Nat):Fs Try.prog:=⟨81,[.v .u64],[],[.u64],[⟨.ret,[(0,.v .bool)],[],[.bool]⟩],λx=>VG F x⟩
def Zeg:Fs Try.prog:=Zpc fuel
theorem ZgY:Zeg.Ok:=fnO { still:=[2]} [] [] trivial
def YQ(F:Nat)(s:(UInt64×(List UInt8)×Int×(List UInt8))):Option ((UInt64×(List UInt8)×Int×(List UInt8))⊕(UInt64×(List UInt8))):=
 if(decide (s.2.2.1 < 32))=true then
  (idx s.2.1 s.2.2.1).bind λe231=>
  (Xt F (ZB s.1 56) ((Vn s.1 8)|||(yah e231.toNat)) 2305843009213688668).bind λo232=>
  some (.inl (o232,s.2.1,wi (s.2.2.1+1),s.2.2.2))
 else
 some (.inr (s.1,s.2.2.2))
def Zib:Lp:=⟨[(3,.v .u64),(6,.v (.arr 32 .u8)),(7,.v yI)],[.var (.v (.arr 32 .u8)) true],[.u64,(.arr 32 .u8),yI,(.arr 32 .u8)],[⟨.exit 0,[(3,.v .u64)],[.var (.v (.arr 32 .u8)) true],[.u64,(.arr 32 .u8)]⟩],Zi (YQ fuel) fuel⟩
theorem Zln:Zib.okA Try.prog 76 0:=Z6 { still:=[2,11,16]} [] [Zb2] ⟨Zd9,ytt⟩
def WA(F:Nat)(a0:(List UInt8)):Option (UInt64):=
 (Zi (YQ F) F (0,a0,0,a0)).bind λo233=>
 some (o233.1+1)
def Zqj(F:Nat):Fs Try.prog:=⟨76,[.v (.arr 32 .u8)],[],[(.arr 32 .u8)],[⟨.ret,[(0,.v .u64)],[],[.u64]⟩],λx=>WA F x⟩
def Zcb:Fs Try.prog:=Zqj fuel
theorem Zeh:Zcb.Ok:=fnO { still:=[2,11,16]} [(0,Zib)] [] trivial ⟨Zln,ytt⟩
def YR(F:Nat)(s:(UInt64×Int×Int×(List UInt8))):Option ((UInt64×Int×Int×(List UInt8))⊕(List UInt8)):=
 if(decide (s.2.2.1 < s.2.1))=true then
  if(decide (0≤wi (56 - (wi (8*s.2.2.1)))))=true then
   let y234:UInt64:=ZB s.1 (min (wi (56 - (wi (8*s.2.2.1)))).toNat 64)
   if(inB s.2.2.1 8)=true then
    (s.2.2.2[(0+s.2.2.1.toNat)]?).bind λe235=>
    let y236:(List UInt8):=s.2.2.2.set (0+s.2.2.1.toNat) (w8 (y234.toNat:Int))
    some (.inl (s.1,s.2.1,wi (s.2.2.1+1),y236))
   else
   none
  else
  none
 else
 some (.inr s.2.2.2)
def Zic:Lp:=⟨[(0,.v .u64),(3,.view 0 [] 1 0 8),(7,.v yI),(8,.v yI)],[.var (.v (.arr 8 .u8)) true],[.u64,yI,yI,(.arr 8 .u8)],[⟨.exit 0,[(3,.view 0 [] 1 0 8)],[.var (.v (.arr 8 .u8)) true],[(.arr 8 .u8)]⟩],Zi (YR fuel) fuel⟩
theorem Zlo:Zic.okA Try.prog 77 0:=Z6 { still:=[2]} [] [] trivial
def WB(F:Nat)(a0:UInt64):Option ((List UInt8)):=
 (Zi (YR F) F (a0,8,0,[0,0,0,0,0,0,0,0])).bind λo237=>
 some ((o237.drop 0).take 8)
def Zqk(F:Nat):Fs Try.prog:=⟨77,[.v .u64],[],[.u64],[⟨.ret,[(0,.v (.sl .u8))],[],[(.sl .u8)]⟩],λx=>WB F x⟩
def Zfr:Fs Try.prog:=Zqk fuel
theorem Zid:Zfr.Ok:=fnO { still:=[2]} [(0,Zic)] [] trivial ⟨Zlo,ytt⟩
def ZCK:ByteArray:=⟨#[115,105,103]⟩
def Xj(F:Nat)(a0:UInt64)(a1:UInt64)(a2:(List UInt8)):Option (UInt64):=
 (WB F a0).bind λo238=>
 (WB F a1).bind λo239=>
 (W7 F ZCK [o238,o239,a2]).bind λo240=>
 (WA F o240).bind λo241=>
 some o241
def Zkg(F:Nat):Fs Try.prog:=⟨82,[.v .u64,.v .u64,.v (.arr 32 .u8)],[],[.u64,.u64,(.arr 32 .u8)],[⟨.ret,[(0,.v .u64)],[],[.u64]⟩],λx=>Xj F x.1 x.2.1 x.2.2⟩
def ZaG:Fs Try.prog:=Zkg fuel
def ZHV:HI:={ still:=[6,7,9,12,13],frz:=[11]}
theorem ZdQ:ZaG.Ok:=fnO ZHV [] [Zfr,ZcP,Zcb] ⟨Zid,ZdN,Zeh,ytt⟩
def Zfs(F:Nat)(a0:UInt64):Option (UInt64):=
 (VF F a0).bind λo242=>
 (VD F o242 2305843009213688668).bind λo243=>
 some o243
def Ztf(F:Nat):Fs Try.prog:=⟨83,[.v .u64],[],[.u64],[⟨.ret,[(0,.v .u64)],[],[.u64]⟩],λx=>Zfs F x⟩
def Zmf:Fs Try.prog:=Ztf fuel
theorem Ztg:Zmf.Ok:=fnO { still:=[2,3,4]} [] [Za2,ZaT] ⟨ZcR,ZcJ,ytt⟩
def Q4(F:Nat)(a0:UInt64)(a1:(List UInt8))(a2:UInt64)(a3:Sig):Option (Bool):=
 if(a0==1)=true then
  some false
 else
 (Xq F a0).bind λo244=>
 if(!o244)=true then
  some false
 else
 (Xq F a2).bind λo245=>
 if(!o245)=true then
  some false
 else
 (Xq F a3.1).bind λo246=>
 if(!o246)=true then
  some false
 else
 (VG F a3.2).bind λo247=>
 if(!o247)=true then
  some false
 else
 (Xj F a3.1 a0 a1).bind λo248=>
 (Q3 F a0 o248).bind λo249=>
 (Zfs F a2).bind λo250=>
 (ZcS F [a3.1,o249,o250]).bind λo251=>
 (Xx F a3.2).bind λo252=>
 some (o252==o251)
def Zpd(F:Nat):Fs Try.prog:=⟨53,[.v .u64,.v (.arr 32 .u8),.v .u64,.v ZA],[],[.u64,(.arr 32 .u8),.u64,ZA],[⟨.ret,[(0,.v .bool)],[],[.bool]⟩],λx=>Q4 F x.1 x.2.1 x.2.2.1 x.2.2.2⟩
def Zie:Fs Try.prog:=Zpd fuel
def ZHW:HI:={ still:=[8,13,18,24,30,36,38,39,40,41,43,45,48]}
theorem Zpe:Zie.Ok:=fnO ZHW [] [VT,Zeg,ZaG,Zef,Zmf,ZgX,WR] ⟨QW,ZgY,ZdQ,ZgW,Ztg,Zkf,W8,ytt⟩
def Yx(F:Nat)(a0:UInt64)(a1:(List UInt8))(a2:Sig):Option (Bool):=
 (Q4 F a0 a1 1 a2).bind λo253=>
 some o253
def Zpf(F:Nat):Fs Try.prog:=⟨28,[.v .u64,.v (.arr 32 .u8),.v ZA],[],[.u64,(.arr 32 .u8),ZA],[⟨.ret,[(0,.v .bool)],[],[.bool]⟩],λx=>Yx F x.1 x.2.1 x.2.2⟩
def Za4:Fs Try.prog:=Zpf fuel
theorem ZcT:Za4.Ok:=fnO { still:=[6,7,8,9]} [] [Zie] ⟨Zpe,ytt⟩
def Wa(F:Nat)(s:((List UInt64)×Int×Int×XQ×ZaW×(List UInt8)×Z1)):Option (((List UInt64)×Int×Int×XQ×ZaW×(List UInt8)×Z1)⊕((Int×XQ×ZaW×(List UInt8)×Z1)⊕(XQ×ZaW×(List UInt8)×Z1))):=
 if(decide (s.2.2.1 < s.2.1))=true then
  (idx s.1 s.2.2.1).bind λe257=>
  (idx s.2.2.2.2.1.2.1 s.2.2.1).bind λe258=>
  (Yx F e257 s.2.2.2.2.2.1 e258).bind λo259=>
  if(!o259)=true then
   some (.inr (.inl (7,s.2.2.2.1,s.2.2.2.2.1,s.2.2.2.2.2.1,s.2.2.2.2.2.2)))
  else
  some (.inl (s.1,s.2.1,wi (s.2.2.1+1),s.2.2.2.1,s.2.2.2.2.1,s.2.2.2.2.2.1,s.2.2.2.2.2.2))
 else
 some (.inr (.inr (s.2.2.2.1,s.2.2.2.2.1,s.2.2.2.2.2.1,s.2.2.2.2.2.2)))
def Zkh:Lp:=⟨[(6,.ref 1 []),(7,.ref 2 []),(68,.v (.sl .u64)),(69,.v yI),(70,.v yI)],[.var (.v YP) true,.var (.v Vr) true,.var (.v (.arr 32 .u8)) true,.var (.v ZO) true],[(.sl .u64),yI,yI,YP,Vr,(.arr 32 .u8),ZO],[⟨.ret,[(10,.v yI)],[.var (.v YP) true,.var (.v Vr) true,.var (.v (.arr 32 .u8)) true,.var (.v ZO) true],[yI,YP,Vr,(.arr 32 .u8),ZO]⟩,⟨.exit 1,[],[.var (.v YP) true,.var (.v Vr) true,.var (.v (.arr 32 .u8)) true,.var (.v ZO) true],[YP,Vr,(.arr 32 .u8),ZO]⟩],Zi (Wa fuel) fuel⟩
theorem ZmL:Zkh.okA Try.prog 62 0:=Z6 { still:=[10,14,53,75,76,81]} [] [Za4] ⟨ZcT,ytt⟩
def WS(F:Nat)(a0:XQ)(a1:ZaW)(a2:(List UInt8))(a3:Int)(a4:Int):Option (Int):=
 (Xu F a0).bind λo254=>
 if(!o254)=true then
  some 1
 else
 if(decide (a1.1 < 0))=true then
  some 1
 else
 if(decide (a1.1 ≥ (a0.length:Int)))=true then
  some 1
 else
 (idx a0 a1.1).bind λe255=>
 if(decide (a3 < e255.2.1))=true then
  some 11
 else
 if(decide (a4 < e255.2.2.1))=true then
  some 11
 else
 if(e255.2.2.2 !=0)=true then
  (Xx F a1.2.2).bind λo256=>
  if(o256 !=e255.2.2.2)=true then
   some 23
  else
  if((a1.2.1.length:Int)!=(e255.1.length:Int))=true then
   some 7
  else
  (Zi (Wa F) F (e255.1,(e255.1.length:Int),0,a0,a1,a2,e255)).bind λo260=>
  match o260 with
  |.inl o261=>
   some o261.1
  |.inr o262=>
   some 0
 else
 if((a1.2.1.length:Int)!=(e255.1.length:Int))=true then
  some 7
 else
 (Zi (Wa F) F (e255.1,(e255.1.length:Int),0,a0,a1,a2,e255)).bind λo263=>
 match o263 with
 |.inl o264=>
  some o264.1
 |.inr o265=>
  some 0
def Zth(F:Nat):Fs Try.prog:=⟨62,[.v YP,.v Vr,.v (.arr 32 .u8),.v yI,.v yI],[],[YP,Vr,(.arr 32 .u8),yI,yI],[⟨.ret,[(0,.v yI)],[],[yI]⟩],λx=>WS F x.1 x.2.1 x.2.2.1 x.2.2.2.1 x.2.2.2.2⟩
def Zmg:Fs Try.prog:=Zth fuel
theorem Zti:Zmg.Ok:=fnO { still:=[10,14,53,75,76,81]} [(0,Zkh)] [QX,WR] ⟨ZaV,W8,ytt⟩ ⟨ZmL,ytt⟩
def W9(F:Nat)(s:((List In)×Int×Int×Tx×(List Zd))):Option (((List In)×Int×Int×Tx×(List Zd))⊕(Tx×(List Zd))):=
 if(decide (s.2.2.1 < s.2.1))=true then
  (idx s.1 s.2.2.1).bind λe267=>
  if(apB s.2.2.2.2.length 1 40)=true then
   some (.inl (s.1,s.2.1,wi (s.2.2.1+1),s.2.2.2.1,s.2.2.2.2++([e267.1]:List Zd)))
  else
  none
 else
 some (.inr (s.2.2.2.1,s.2.2.2.2))
def Zki:Lp:=⟨[(2,.own 1 Zb),(9,.v (.sl yIn)),(10,.v yI),(11,.v yI)],[.var (.v yTx) true,.log Zb 34],[(.sl yIn),yI,yI,yTx,(.sl Zb)],[⟨.exit 0,[(2,.own 1 Zb)],[.var (.v yTx) true,.log Zb 34],[yTx,(.sl Zb)]⟩],Zi (W9 fuel) fuel⟩
def ZHm:HI:={ own:=[2,15,19,21],still:=[2,5]}
theorem ZmM:Zki.okA Try.prog 34 0:=Z6 ZHm [] [] trivial
def Zft(F:Nat)(a0:Tx):Option ((List Zd)):=
 (Qo F a0).bind λo266=>
 if(!o266)=true then
  some []
 else
 (Zi (W9 F) F (a0.1,(a0.1.length:Int),0,a0,[])).bind λo268=>
 some o268.2
def Ztj(F:Nat):Fs Try.prog:=⟨34,[.v yTx],[],[yTx],[⟨.ret,[(0,.v (.sl Zb))],[],[(.sl Zb)]⟩],λx=>Zft F x⟩
def Zmh:Fs Try.prog:=Ztj fuel
theorem Ztk:Zmh.Ok:=fnO ZHm [(0,Zki)] [ZcM] ⟨ZdI,ytt⟩ ⟨ZmM,ytt⟩
abbrev dT0:Type:=(Int×Int×(List In)×Int×Int×(List (Zd×Ww))×(List Zo)×Tx×(List UInt8))
def ZI(F:Nat)(s:dT0):Option (dT0⊕((Int×Int×(List (Zd×Ww))×(List Zo)×Tx×(List UInt8))⊕(Int×(List (Zd×Ww))×(List Zo)×Tx×(List UInt8)))):=
 if(decide (s.2.2.2.2.1 < s.2.2.2.1))=true then
  (idx s.2.2.1 s.2.2.2.2.1).bind λe271=>
  ZdC (YZ s.2.2.2.2.2.1 e271.1) (λe272=>
   (WS F e272.1.2 e271.2 s.2.2.2.2.2.2.2.2 s.1 (wi (s.1 - e272.2))).bind λo273=>
   if(o273 !=0)=true then
    some (.inr (.inl (0,o273,s.2.2.2.2.2.1,s.2.2.2.2.2.2.1,s.2.2.2.2.2.2.2.1,s.2.2.2.2.2.2.2.2)))
   else
   some (.inl (s.1,wi (s.2.1+e272.1.1),s.2.2.1,s.2.2.2.1,wi (s.2.2.2.2.1+1),s.2.2.2.2.2.1,s.2.2.2.2.2.2.1,s.2.2.2.2.2.2.2.1,s.2.2.2.2.2.2.2.2))) (
   some (.inr (.inl (0,5,s.2.2.2.2.2.1,s.2.2.2.2.2.2.1,s.2.2.2.2.2.2.2.1,s.2.2.2.2.2.2.2.2))))
 else
 some (.inr (.inr (s.2.1,s.2.2.2.2.2.1,s.2.2.2.2.2.2.1,s.2.2.2.2.2.2.2.1,s.2.2.2.2.2.2.2.2)))
abbrev tL1:List Ty:=[yI,yI,(.sl yIn),yI,yI,(YN Zb ZL),(.sl Ze),yTx,(.arr 32 .u8)]
def ZcU:Lp:=⟨[(0,.ref 0 []),(2,.v yI),(4,.ref 3 []),(8,.ref 4 []),(9,.v yI),(35,.v (.sl yIn)),(36,.v yI),(37,.v yI)],[.var (.agg [.mp 1,.own 2 Ze]) true,.map 104 Zb ZL,.log Ze 101,.var (.v yTx) true,.var (.v (.arr 32 .u8)) true],tL1,[⟨.ret,[(6,.v yI),(7,.v yI)],[.var (.agg [.mp 1,.own 2 Ze]) true,.map 104 Zb ZL,.log Ze 101,.var (.v yTx) true,.var (.v (.arr 32 .u8)) true],[yI,yI,(YN Zb ZL),(.sl Ze),yTx,(.arr 32 .u8)]⟩,⟨.exit 0,[(0,.ref 0 []),(4,.ref 3 []),(9,.v yI)],[.var (.agg [.mp 1,.own 2 Ze]) true,.map 104 Zb ZL,.log Ze 101,.var (.v yTx) true,.var (.v (.arr 32 .u8)) true],[yI,(YN Zb ZL),(.sl Ze),yTx,(.arr 32 .u8)]⟩],Zi (ZI fuel) fuel⟩
def ZEA:HI:={ still:=[6,7,21,32,55,57,58,59,63,74]}
theorem Zf9:ZcU.okA Try.prog 32 0:=Z6 ZEA [] [Zmg] ⟨Zti,ytt⟩
abbrev dT1:Type:=(Int×(List Zd)×Int×Int×(List (Zd×Ww))×(List Zo)×Tx×(List UInt8))
def YT(F:Nat)(s:dT1):Option (dT1⊕((Int×Int×(List (Zd×Ww))×(List Zo)×Tx×(List UInt8))⊕(Int×(List (Zd×Ww))×(List Zo)×Tx×(List UInt8)))):=
 if(decide (s.2.2.2.1 < s.2.2.1))=true then
  (idx s.2.1 s.2.2.2.1).bind λe278=>
  ZdC (YZ s.2.2.2.2.1 e278) (λe279=>
   some (.inr (.inl (0,4,s.2.2.2.2.1,s.2.2.2.2.2.1,s.2.2.2.2.2.2.1,s.2.2.2.2.2.2.2)))) (
   some (.inl (s.1,s.2.1,s.2.2.1,wi (s.2.2.2.1+1),s.2.2.2.2.1,s.2.2.2.2.2.1,s.2.2.2.2.2.2.1,s.2.2.2.2.2.2.2)))
 else
 some (.inr (.inr (s.1,s.2.2.2.2.1,s.2.2.2.2.2.1,s.2.2.2.2.2.2.1,s.2.2.2.2.2.2.2)))
abbrev tL2:List Ty:=[yI,(.sl Zb),yI,yI,(YN Zb ZL),(.sl Ze),yTx,(.arr 32 .u8)]
def ZcV:Lp:=⟨[(0,.ref 0 []),(4,.ref 3 []),(9,.v yI),(75,.v (.sl Zb)),(76,.v yI),(77,.v yI)],[.var (.agg [.mp 1,.own 2 Ze]) true,.map 104 Zb ZL,.log Ze 101,.var (.v yTx) true,.var (.v (.arr 32 .u8)) true],tL2,[⟨.ret,[(6,.v yI),(7,.v yI)],[.var (.agg [.mp 1,.own 2 Ze]) true,.map 104 Zb ZL,.log Ze 101,.var (.v yTx) true,.var (.v (.arr 32 .u8)) true],[yI,yI,(YN Zb ZL),(.sl Ze),yTx,(.arr 32 .u8)]⟩,⟨.exit 2,[(4,.ref 3 []),(9,.v yI)],[.var (.agg [.mp 1,.own 2 Ze]) true,.map 104 Zb ZL,.log Ze 101,.var (.v yTx) true,.var (.v (.arr 32 .u8)) true],[yI,(YN Zb ZL),(.sl Ze),yTx,(.arr 32 .u8)]⟩],Zi (YT fuel) fuel⟩
theorem Zga:ZcV.okA Try.prog 32 1:=Z6 ZEA [] [] trivial
def Xm(F:Nat)(s:(Int×(List Out)×Int×Int×(List (Zd×Ww))×(List Zo)×Tx×(List UInt8))):Option ((Int×(List Out)×Int×Int×(List (Zd×Ww))×(List Zo)×Tx×(List UInt8))⊕(Int×(List (Zd×Ww))×(List Zo)×Tx×(List UInt8))):=
 if(decide (s.2.2.2.1 < s.2.2.1))=true then
  (idx s.2.1 s.2.2.2.1).bind λe283=>
  some (.inl (wi (s.1 - e283.1),s.2.1,s.2.2.1,wi (s.2.2.2.1+1),s.2.2.2.2.1,s.2.2.2.2.2.1,s.2.2.2.2.2.2.1,s.2.2.2.2.2.2.2))
 else
 some (.inr (s.1,s.2.2.2.2.1,s.2.2.2.2.2.1,s.2.2.2.2.2.2.1,s.2.2.2.2.2.2.2))
abbrev tL3:List Ty:=[yI,(.sl Zt),yI,yI,(YN Zb ZL),(.sl Ze),yTx,(.arr 32 .u8)]
def ZcW:Lp:=⟨[(9,.v yI),(93,.v (.sl Zt)),(94,.v yI),(95,.v yI)],[.var (.agg [.mp 1,.own 2 Ze]) true,.map 104 Zb ZL,.log Ze 101,.var (.v yTx) true,.var (.v (.arr 32 .u8)) true],tL3,[⟨.exit 4,[(9,.v yI)],[.var (.agg [.mp 1,.own 2 Ze]) true,.map 104 Zb ZL,.log Ze 101,.var (.v yTx) true,.var (.v (.arr 32 .u8)) true],[yI,(YN Zb ZL),(.sl Ze),yTx,(.arr 32 .u8)]⟩],Zi (Xm fuel) fuel⟩
theorem Zgb:ZcW.okA Try.prog 32 2:=Z6 ZEA [] [] trivial
def YE(F:Nat)(a1:Tx)(a2:Int)(s1:(List (Zd×Ww)))(s2:(List Zo)):Option ((Int×Int×(List (Zd×Ww))×(List Zo))):=
 (Qo F a1).bind λo269=>
 if(!o269)=true then
  some (0,1,s1,s2)
 else
 if(decide (a2 < 1))=true then
  some (0,1,s1,s2)
 else
 if(decide (a2 > 1048576))=true then
  some (0,1,s1,s2)
 else
 (ZY F a1).bind λo270=>
 (Zi (ZI F) F (a2,0,a1.1,(a1.1.length:Int),0,s1,s2,a1,o270)).bind λo274=>
 match o274 with
 |.inl o275=>
  some (o275.1,o275.2.1,o275.2.2.1,o275.2.2.2.1)
 |.inr o276=>
  (ZgV F o276.2.2.2.1).bind λo277=>
  (Zi (YT F) F (o276.1,o277,(o277.length:Int),0,o276.2.1,o276.2.2.1,o276.2.2.2.1,o276.2.2.2.2)).bind λo280=>
  match o280 with
  |.inl o281=>
   some (o281.1,o281.2.1,o281.2.2.1,o281.2.2.2.1)
  |.inr o282=>
   (Zi (Xm F) F (o282.1,o282.2.2.2.1.2.1,(o282.2.2.2.1.2.1.length:Int),0,o282.2.1,o282.2.2.1,o282.2.2.2.1,o282.2.2.2.2)).bind λo284=>
   if(decide (o284.1 < 0))=true then
    some (0,8,o284.2.1,o284.2.2.1)
   else
   some (o284.1,0,o284.2.1,o284.2.2.1)
def ZiN(F:Nat):Fs Try.prog:=⟨32,[.ref 0 [],.v yTx,.v yI],[.var (.agg [.mp 1,.own 2 Ze]) true,.map 104 Zb ZL,.log Ze 101],[yTx,yI,(YN Zb ZL),(.sl Ze)],[⟨.ret,[(0,.tup [.v yI,.v yI])],[.var (.agg [.mp 1,.own 2 Ze]) true,.map 104 Zb ZL,.log Ze 101],[yI,yI,(YN Zb ZL),(.sl Ze)]⟩],λx=>YE F x.1 x.2.1 x.2.2.1 x.2.2.2⟩
def ZdR:Fs Try.prog:=ZiN fuel
theorem ZiO:ZdR.Ok:=fnO ZEA [(0,ZcU),(1,ZcV),(2,ZcW)] [ZcM,WQ,Zlm] ⟨ZdI,X3,Zo9,ytt⟩ ⟨Zf9,Zga,Zgb,ytt⟩
abbrev dT2:Type:=(Int×(List Zd)×Int×Int×(List (Zd×Ww))×(List Zo)×Tx×(List Zd)×(List Yo))
def Xn(F:Nat)(s:dT2):Option (dT2⊕(Int×(List (Zd×Ww))×(List Zo)×Tx×(List Zd)×(List Yo))):=
 if(decide (s.2.2.2.1 < s.2.2.1))=true then
  (idx s.2.1 s.2.2.2.1).bind λe288=>
  ZdC (YZ s.2.2.2.2.1 e288) (λe289=>
   if(apB s.2.2.2.2.2.2.2.2.length 1 80)=true then
    let y290:(List Yo):=s.2.2.2.2.2.2.2.2++([(e288,e289)]:List Yo)
    some (.inl (s.1,s.2.1,s.2.2.1,wi (s.2.2.2.1+1),Zbv s.2.2.2.2.1 e288,s.2.2.2.2.2.1,s.2.2.2.2.2.2.1,s.2.2.2.2.2.2.2.1,y290))
   else
   none) (
   if(apB s.2.2.2.2.2.2.2.2.length 1 80)=true then
    let y291:(List Yo):=s.2.2.2.2.2.2.2.2++([(e288,((0,[]),0))]:List Yo)
    some (.inl (s.1,s.2.1,s.2.2.1,wi (s.2.2.2.1+1),Zbv s.2.2.2.2.1 e288,s.2.2.2.2.2.1,s.2.2.2.2.2.2.1,s.2.2.2.2.2.2.2.1,y291))
   else
   none)
 else
 some (.inr (s.1,s.2.2.2.2.1,s.2.2.2.2.2.1,s.2.2.2.2.2.2.1,s.2.2.2.2.2.2.2.1,s.2.2.2.2.2.2.2.2))
def ZEB:List ESh:=[.var (.agg [.mp 1,.own 2 Ze]) true,.map 104 Zb ZL,.log Ze 101,.var (.v yTx) true,.var (.agg [.own 5 V9,.v (.sl Zb)]) true,.log V9 109]
abbrev tL4:List Ty:=[yI,(.sl Zb),yI,yI,(YN Zb ZL),(.sl Ze),yTx,(.sl Zb),(.sl V9)]
def ZcX:Lp:=⟨[(0,.ref 0 []),(2,.v yI),(4,.ref 3 []),(9,.ref 4 []),(28,.v (.sl Zb)),(29,.v yI),(30,.v yI)],ZEB,tL4,[⟨.exit 0,[(0,.ref 0 []),(2,.v yI),(4,.ref 3 []),(9,.ref 4 [])],ZEB,[yI,(YN Zb ZL),(.sl Ze),yTx,(.sl Zb),(.sl V9)]⟩],Zi (Xn fuel) fuel⟩
def ZGD:HI:={ own:=[35,45,79,82],still:=[6,15,16,17,24,27,70],gst:=[(9,[([0],V9,109)])]}
theorem Zgc:ZcX.okA Try.prog 11 0:=Z6 ZGD [] [] trivial
def Xo(F:Nat)(s:dT2):Option (dT2⊕((List (Zd×Ww))×(List Zo)×Tx×(List Zd)×(List Yo))):=
 if(decide (s.2.2.2.1 < s.2.2.1))=true then
  (idx s.2.1 s.2.2.2.1).bind λe293=>
  (idx s.2.2.2.2.2.2.1.2.1 s.2.2.2.1).bind λe294=>
  (ZcG F e294).bind λo295=>
  some (.inl (s.1,s.2.1,s.2.2.1,wi (s.2.2.2.1+1),Zcz s.2.2.2.2.1 e293 (o295,s.1),s.2.2.2.2.2.1,s.2.2.2.2.2.2.1,s.2.2.2.2.2.2.2.1,s.2.2.2.2.2.2.2.2))
 else
 some (.inr (s.2.2.2.2.1,s.2.2.2.2.2.1,s.2.2.2.2.2.2.1,s.2.2.2.2.2.2.2.1,s.2.2.2.2.2.2.2.2))
def ZcY:Lp:=⟨[(0,.ref 0 []),(2,.v yI),(4,.ref 3 []),(9,.ref 4 []),(54,.v (.sl Zb)),(55,.v yI),(56,.v yI)],ZEB,tL4,[⟨.exit 2,[(0,.ref 0 []),(9,.ref 4 [])],ZEB,[(YN Zb ZL),(.sl Ze),yTx,(.sl Zb),(.sl V9)]⟩],Zi (Xo fuel) fuel⟩
theorem Zgd:ZcY.okA Try.prog 11 1:=Z6 ZGD [] [ZgD] ⟨ZjU,ytt⟩
def Zm(F:Nat)(a1:Tx)(a2:Int)(s1:(List (Zd×Ww)))(s2:(List Zo)):Option ((Int×(List (Zd×Ww))×(List Zo))):=
 (YE F a1 a2 s1 s2).bind λo285=>
 if(o285.2.1 !=0)=true then
  some (o285.2.1,o285.2.2.1,o285.2.2.2)
 else
 (ZgV F a1).bind λo286=>
 (Zft F a1).bind λo287=>
 (Zi (Xn F) F (a2,o287,(o287.length:Int),0,o285.2.2.1,o285.2.2.2,a1,o286,[])).bind λo292=>
 (Zi (Xo F) F (o292.1,o292.2.2.2.2.1,(o292.2.2.2.2.1.length:Int),0,o292.2.1,o292.2.2.1,o292.2.2.2.1,o292.2.2.2.2.1,o292.2.2.2.2.2)).bind λo296=>
 if(apB o296.2.1.length 1 48)=true then
  let y297:(List Zo):=o296.2.1++([(o296.2.2.2.2,o296.2.2.2.1)]:List Zo)
  some (0,o296.1,y297)
 else
 none
def Qc(F:Nat):Fs Try.prog:=⟨11,[.ref 0 [],.v yTx,.v yI],[.var (.agg [.mp 1,.own 2 Ze]) true,.map 104 Zb ZL,.log Ze 101],[yTx,yI,(YN Zb ZL),(.sl Ze)],[⟨.ret,[(0,.v yI)],[.var (.agg [.mp 1,.own 2 Ze]) true,.map 104 Zb ZL,.log Ze 101],[yI,(YN Zb ZL),(.sl Ze)]⟩],λx=>Zm F x.1 x.2.1 x.2.2.1 x.2.2.2⟩
def X4:Fs Try.prog:=Qc fuel
theorem XO:X4.Ok:=fnO ZGD [(0,ZcX),(1,ZcY)] [ZdR,Zlm,Zmh] ⟨ZiO,Zo9,Ztk,ytt⟩ ⟨Zgc,Zgd,ytt⟩
def ZJ(F:Nat)(a0:Int)(a1:Int)(a2:Int):Option (Bool):=
 if(decide (a0 ≥ a1))=true then
  some (decide (a0≤a2))
 else
 some false
def Zkj(F:Nat):Fs Try.prog:=⟨37,[.v yI,.v yI,.v yI],[],[yI,yI,yI],[⟨.ret,[(0,.v .bool)],[],[.bool]⟩],λx=>ZJ F x.1 x.2.1 x.2.2⟩
def YF:Fs Try.prog:=Zkj fuel
theorem YS:YF.Ok:=fnO { still:=[6]} [] [] trivial
def Va(F:Nat)(a0:UInt64):Option (Bool):=
 (Xq F a0).bind λo298=>
 if o298=true then
  some (a0 !=1)
 else
 some false
def ZmN(F:Nat):Fs Try.prog:=⟨65,[.v .u64],[],[.u64],[⟨.ret,[(0,.v .bool)],[],[.bool]⟩],λx=>Va F x⟩
def ZcZ:Fs Try.prog:=ZmN fuel
theorem ZfP:ZcZ.Ok:=fnO { still:=[2,3]} [] [VT] ⟨QW,ytt⟩
abbrev Zc:Ty:=(.st [Zb,yI,(.sl .u64),yI,yI])
abbrev FactoryPlan:Type:=(Zd×Int×(List UInt64)×Int×Int)
def Xg(F:Nat)(s:((List UInt64)×Int×Int×FactoryPlan×(List (UInt64×Bool)))):Option (((List UInt64)×Int×Int×FactoryPlan×(List (UInt64×Bool)))⊕((Bool×FactoryPlan×(List (UInt64×Bool)))⊕(FactoryPlan×(List (UInt64×Bool))))):=
 if(decide (s.2.2.1 < s.2.1))=true then
  (idx s.1 s.2.2.1).bind λe299=>
  (Va F e299).bind λo300=>
  if(!o300)=true then
   some (.inr (.inl (false,s.2.2.2.1,s.2.2.2.2)))
  else
  ZdC (YZ s.2.2.2.2 e299) (λe301=>
   if e301=true then
    some (.inr (.inl (false,s.2.2.2.1,s.2.2.2.2)))
   else
   some (.inl (s.1,s.2.1,wi (s.2.2.1+1),s.2.2.2.1,Zcz s.2.2.2.2 e299 true))) (
   some (.inl (s.1,s.2.1,wi (s.2.2.1+1),s.2.2.2.1,Zcz s.2.2.2.2 e299 true)))
 else
 some (.inr (.inr (s.2.2.2.1,s.2.2.2.2)))
def ZeM:Lp:=⟨[(1,.ref 0 []),(3,.mp 1),(8,.v (.sl .u64)),(9,.v yI),(10,.v yI)],[.var (.v Zc) true,.map 144 .u64 .bool],[(.sl .u64),yI,yI,Zc,(YN .u64 .bool)],[⟨.ret,[(2,.v .bool)],[.var (.v Zc) true,.map 144 .u64 .bool],[.bool,Zc,(YN .u64 .bool)]⟩,⟨.exit 0,[(1,.ref 0 [])],[.var (.v Zc) true,.map 144 .u64 .bool],[Zc,(YN .u64 .bool)]⟩],Zi (Xg fuel) fuel⟩
def ZHn:HI:={ still:=[2,14,27,32,37,42,47,51]}
theorem ZhR:ZeM.okA Try.prog 36 0:=Z6 ZHn [] [ZcZ] ⟨ZfP,ytt⟩
def Y9(F:Nat)(a0:FactoryPlan):Option (Bool):=
 (Zi (Xg F) F (a0.2.2.1,(a0.2.2.1.length:Int),0,a0,([]:List (UInt64×Bool)))).bind λo302=>
 match o302 with
 |.inl o303=>
  some o303.1
 |.inr o304=>
  (ZJ F o304.1.1.2 0 63).bind λo305=>
  if o305=true then
   (ZJ F (o304.1.2.2.1.length:Int) 2 12).bind λo306=>
   if o306=true then
    (ZJ F o304.1.2.2.2.1 1 4096).bind λo307=>
    if o307=true then
     (ZJ F o304.1.2.2.2.2 0 1125899906842624).bind λo308=>
     if o308=true then
      (ZJ F o304.1.2.1 (wi ((wi (3*o304.1.2.2.2.2))+1)) 1125899906842624).bind λo309=>
      some o309
     else
     some false
    else
    some false
   else
   some false
  else
  some false
def Zlp(F:Nat):Fs Try.prog:=⟨36,[.v Zc],[],[Zc],[⟨.ret,[(0,.v .bool)],[],[.bool]⟩],λx=>Y9 F x⟩
def XV:Fs Try.prog:=Zlp fuel
theorem Wi:XV.Ok:=fnO ZHn [(0,ZeM)] [YF] ⟨YS,ytt⟩ ⟨ZhR,ytt⟩
def Vb(F:Nat)(a0:FactoryPlan)(a1:Int)(a2:Int):Option ((Int×Int)):=
 (Y9 F a0).bind λo310=>
 if(!o310)=true then
  some (0,0)
 else
 (ZJ F a1 0 15).bind λo311=>
 if(!o311)=true then
  some (0,0)
 else
 let y312:Int:=wi ((wi (3 - (wi (yh a1 4))))*a0.2.2.2.1);let y313:Int:=wi ((wi (a2+y312))+(wi ((wi (3 - (yy a1 4)))*a0.2.2.2.1)))
 some (wi (a2+y312),y313)
def ZbE(F:Nat):Fs Try.prog:=⟨12,[.v Zc,.v yI,.v yI],[],[Zc,yI,yI],[⟨.ret,[(0,.tup [.v yI,.v yI])],[],[yI,yI]⟩],λx=>Vb F x.1 x.2.1 x.2.2⟩
def ZgZ:Fs Try.prog:=ZbE fuel
theorem ZfQ:ZgZ.Ok:=fnO { still:=[6,7,9,13]} [] [XV,YF] ⟨Wi,YS,ytt⟩
def Zlq(F:Nat)(m:(List (Zd×Ww)))(l:(List Zo)):Option (Int×(List (Zd×Ww))×(List Zo)):=some (Zk9 m,m,l)
def Qd(F:Nat):Fs Try.prog:=⟨20,[.ref 0 []],[.var (.agg [.mp 1,.own 2 Ze]) true,.map 104 Zb ZL,.log Ze 101],[(YN Zb ZL),(.sl Ze)],[⟨.ret,[(0,.v yI)],[.var (.agg [.mp 1,.own 2 Ze]) true,.map 104 Zb ZL,.log Ze 101],[yI,(YN Zb ZL),(.sl Ze)]⟩],λx=>Zlq F x.1 x.2⟩
def Zkk:Fs Try.prog:=Qd fuel
theorem ZiP:Zkk.Ok:=ZGo Zb ZO Ze 104 101
def Yr(F:Nat)(s:((List UInt64)×Int×FactoryPlan×Zd×Int×Int×Int×(List UInt64))):Option (((List UInt64)×Int×FactoryPlan×Zd×Int×Int×Int×(List UInt64))⊕(FactoryPlan×Zd×Int×Int×Int×(List UInt64))):=
 if(decide (s.2.1 < (s.1.length:Int)))=true then
  (idx s.1 s.2.1).bind λe314=>
  (Xx F e314).bind λo315=>
  if(apB s.2.2.2.2.2.2.2.length 1 8)=true then
   some (.inl (s.1,wi (s.2.1+1),s.2.2.1,s.2.2.2.1,s.2.2.2.2.1,s.2.2.2.2.2.1,s.2.2.2.2.2.2.1,s.2.2.2.2.2.2.2++([o315]:List UInt64)))
  else
  none
 else
 some (.inr (s.2.2.1,s.2.2.2.1,s.2.2.2.2.1,s.2.2.2.2.2.1,s.2.2.2.2.2.2.1,s.2.2.2.2.2.2.2))
abbrev tL5:List Ty:=[(.sl .u64),yI,Zc,Zb,yI,yI,yI,(.sl .u64)]
def Zbm:Lp:=⟨[(0,.v (.sl .u64)),(8,.ref 0 []),(9,.ref 1 []),(10,.v yI)],[.var (.v Zc) true,.var (.agg [.v Zb,.v yI,.own 2 .u64,.v yI,.v yI]) true,.log .u64 27],tL5,[⟨.exit 0,[(8,.ref 0 []),(9,.ref 1 [])],[.var (.v Zc) true,.var (.agg [.v Zb,.v yI,.own 2 .u64,.v yI,.v yI]) true,.log .u64 27],[Zc,Zb,yI,yI,yI,(.sl .u64)]⟩],Zi (Yr fuel) fuel⟩
def ZHo:HI:={ own:=[22,29],still:=[26],gst:=[(9,[([2],.u64,27)])]}
theorem ZeN:Zbm.okA Try.prog 6 0:=Z6 ZHo [] [WR] ⟨W8,ytt⟩
def WT(F:Nat)(a0:(List UInt64))(a1:Int)(a2:Int)(a3:Int):Option (FactoryPlan):=
 (Zi (Yr F) F (a0,0,((yzz,0),0,[],0,0),(yzz,0),a1,a2,a3,[])).bind λo316=>
 some (o316.2.1,o316.2.2.1,o316.2.2.2.2.2,o316.2.2.2.1,o316.2.2.2.2.1)
def Vx(F:Nat):Fs Try.prog:=⟨6,[.v (.sl .u64),.v yI,.v yI,.v yI],[],[(.sl .u64),yI,yI,yI],[⟨.ret,[(0,.v Zc)],[],[Zc]⟩],λx=>WT F x.1 x.2.1 x.2.2.1 x.2.2.2⟩
def ZbQ:Fs Try.prog:=Vx fuel
theorem Zbn:ZbQ.Ok:=fnO ZHo [(0,Zbm)] [] trivial ⟨ZeN,ytt⟩
abbrev Zg:Ty:=(.st [(.arr 2 yI),(.arr 2 .u64),yI])
abbrev FactorySub:Type:=((List Int)×(List UInt64)×Int)
def XB(F:Nat)(s:((List FactorySub)×Int×(List FactorySub)×Int×Int×FactoryPlan)):Option (((List FactorySub)×Int×(List FactorySub)×Int×Int×FactoryPlan)⊕((Int×Bool×FactoryPlan)⊕((List FactorySub)×Int×FactoryPlan))):=
 if(decide (s.2.2.2.2.1 < s.2.2.2.1))=true then
  (idx s.2.2.1 s.2.2.2.2.1).bind λe317=>
  (e317.1[0]?).bind λe318=>
  (ZJ F e318 0 (wi ((s.2.2.2.2.2.2.2.1.length:Int) - 1))).bind λo319=>
  if(!o319)=true then
   some (.inr (.inl (0,false,s.2.2.2.2.2)))
  else
  (e317.1[1]?).bind λe320=>
  (ZJ F e320 0 (wi ((s.2.2.2.2.2.2.2.1.length:Int) - 1))).bind λo321=>
  if(!o321)=true then
   some (.inr (.inl (0,false,s.2.2.2.2.2)))
  else
  (e317.1[0]?).bind λe322=>
  (e317.1[1]?).bind λe323=>
  if(e322==e323)=true then
   some (.inr (.inl (0,false,s.2.2.2.2.2)))
  else
  (e317.2.1[0]?).bind λe324=>
  (Va F e324).bind λo325=>
  if(!o325)=true then
   some (.inr (.inl (0,false,s.2.2.2.2.2)))
  else
  (e317.2.1[1]?).bind λe326=>
  (Va F e326).bind λo327=>
  if(!o327)=true then
   some (.inr (.inl (0,false,s.2.2.2.2.2)))
  else
  (ZJ F e317.2.2 1 1125899906842624).bind λo328=>
  if(!o328)=true then
   some (.inr (.inl (0,false,s.2.2.2.2.2)))
  else
  some (.inl (s.1,wi (s.2.1+e317.2.2),s.2.2.1,s.2.2.2.1,wi (s.2.2.2.2.1+1),s.2.2.2.2.2))
 else
 some (.inr (.inr (s.1,s.2.1,s.2.2.2.2.2)))
def ZfR:Lp:=⟨[(1,.v (.sl Zg)),(2,.ref 0 []),(6,.v yI),(9,.v (.sl Zg)),(10,.v yI),(11,.v yI)],[.var (.v Zc) true],[(.sl Zg),yI,(.sl Zg),yI,yI,Zc],[⟨.ret,[(4,.v yI),(5,.v .bool)],[.var (.v Zc) true],[yI,.bool,Zc]⟩,⟨.exit 0,[(1,.v (.sl Zg)),(6,.v yI)],[.var (.v Zc) true],[(.sl Zg),yI,Zc]⟩],Zi (XB fuel) fuel⟩
def ZHp:HI:={ still:=[4,5,17,21,27,31,47,54,60,71]}
theorem ZiQ:ZfR.okA Try.prog 39 0:=Z6 ZHp [] [YF,ZcZ] ⟨YS,ZfP,ytt⟩
def Vc(F:Nat)(a0:FactoryPlan)(a1:(List FactorySub)):Option ((Int×Bool)):=
 (Zi (XB F) F (a1,0,a1,(a1.length:Int),0,a0)).bind λo329=>
 match o329 with
 |.inl o330=>
  some (o330.1,o330.2.1)
 |.inr o331=>
  (ZJ F (o331.1.length:Int) 1 64).bind λo332=>
  some (o331.2.1,o332)
def ZmO(F:Nat):Fs Try.prog:=⟨39,[.v Zc,.v (.sl Zg)],[],[Zc,(.sl Zg)],[⟨.ret,[(0,.tup [.v yI,.v .bool])],[],[yI,.bool]⟩],λx=>Vc F x.1 x.2⟩
def Zc0:Fs Try.prog:=ZmO fuel
theorem ZfS:Zc0.Ok:=fnO ZHp [(0,ZfR)] [YF] ⟨YS,ytt⟩ ⟨ZiQ,ytt⟩
def Za5(F:Nat)(a0:Zd)(a1:Int)(a2:Int)(a3:(List Out)):Option (Tx):=
 some ([(a0,(a1,[],0))],a3,a2)
def ZmP(F:Nat):Fs Try.prog:=⟨40,[.v Zb,.v yI,.v yI,.v (.sl Zt)],[],[Zb,yI,yI,(.sl Zt)],[⟨.ret,[(0,.v yTx)],[],[yTx]⟩],λx=>Za5 F x.1 x.2.1 x.2.2.1 x.2.2.2⟩
def Zg0:Fs Try.prog:=ZmP fuel
theorem ZmQ:Zg0.Ok:=fnO {} [] [] trivial
def WY(F:Nat)(s:((List UInt8)×(List Int)×Int×Int)):Option (((List UInt8)×(List Int)×Int×Int)⊕(List UInt8)):=
 if(decide (s.2.2.2 < s.2.2.1))=true then
  (idx s.2.1 s.2.2.2).bind λe333=>
  (XA F s.1 e333).bind λo334=>
  some (.inl (o334,s.2.1,s.2.2.1,wi (s.2.2.2+1)))
 else
 some (.inr s.1)
def Zg1:Lp:=⟨[(3,.v (.sl .u8)),(6,.v (.sl yI)),(7,.v yI),(8,.v yI)],[],[(.sl .u8),(.sl yI),yI,yI],[⟨.exit 0,[(3,.v (.sl .u8))],[],[(.sl .u8)]⟩],Zi (WY fuel) fuel⟩
theorem Zkl:Zg1.okA Try.prog 50 0:=Z6 { still:=[2,12,13,17,18]} [] [Qb] ⟨Qq,ytt⟩
def ZFf:ByteArray:=⟨#[103,97,116,101]⟩
def Q5(F:Nat)(a0:(List Int)):Option (UInt64):=
 (Zi (WY F) F ([],a0,(a0.length:Int),0)).bind λo335=>
 (W7 F ZFf [o335]).bind λo336=>
 (WA F o336).bind λo337=>
 some o337
def Zpg(F:Nat):Fs Try.prog:=⟨50,[.v (.sl yI)],[],[(.sl yI)],[⟨.ret,[(0,.v .u64)],[],[.u64]⟩],λx=>Q5 F x⟩
def Zei:Fs Try.prog:=Zpg fuel
theorem Zg2:Zei.Ok:=fnO { still:=[2,12,13,17,18]} [(0,Zg1)] [ZcP,Zcb] ⟨ZdN,Zeh,ytt⟩ ⟨Zkl,ytt⟩
def Zc1(F:Nat)(a0:UInt64)(a1:UInt64):Option (UInt64):=
 (ZcS F [a0,a1]).bind λo338=>
 some o338
def Ztl(F:Nat):Fs Try.prog:=⟨52,[.v .u64,.v .u64],[],[.u64,.u64],[⟨.ret,[(0,.v .u64)],[],[.u64]⟩],λx=>Zc1 F x.1 x.2⟩
def Zg3:Fs Try.prog:=Ztl fuel
theorem Zkm:Zg3.Ok:=fnO { still:=[4,7]} [] [ZgX] ⟨Zkf,ytt⟩
def Wj(F:Nat)(s:(UInt64×(List UInt64)×Int×Int×FactoryPlan×(List UInt64))):Option ((UInt64×(List UInt64)×Int×Int×FactoryPlan×(List UInt64))⊕(FactoryPlan×(List UInt64))):=
 if(decide (s.2.2.2.1 < s.2.2.1))=true then
  (idx s.2.1 s.2.2.2.1).bind λe341=>
  (Zc1 F e341 s.1).bind λo342=>
  if(apB s.2.2.2.2.2.length 1 8)=true then
   some (.inl (s.1,s.2.1,s.2.2.1,wi (s.2.2.2.1+1),s.2.2.2.2.1,s.2.2.2.2.2++([o342]:List UInt64)))
  else
  none
 else
 some (.inr (s.2.2.2.2.1,s.2.2.2.2.2))
def ZfT:Lp:=⟨[(5,.v .u64),(6,.own 1 .u64),(13,.v (.sl .u64)),(14,.v yI),(15,.v yI)],[.var (.v Zc) true,.log .u64 27],[.u64,(.sl .u64),yI,yI,Zc,(.sl .u64)],[⟨.exit 0,[(6,.own 1 .u64)],[.var (.v Zc) true,.log .u64 27],[Zc,(.sl .u64)]⟩],Zi (Wj fuel) fuel⟩
def ZHq:HI:={ own:=[6,19,24],still:=[4,9,10,20,21]}
theorem ZiR:ZfT.okA Try.prog 27 0:=Z6 ZHq [] [Zg3] ⟨Zkm,ytt⟩
def Xy(F:Nat)(a0:FactoryPlan)(a1:(List Int)):Option ((List UInt64)):=
 (Q5 F a1).bind λo339=>
 (Xx F o339).bind λo340=>
 (Zi (Wj F) F (o340,a0.2.2.1,(a0.2.2.1.length:Int),0,a0,[])).bind λo343=>
 some o343.2
def ZmR(F:Nat):Fs Try.prog:=⟨27,[.v Zc,.v (.sl yI)],[],[Zc,(.sl yI)],[⟨.ret,[(0,.v (.sl .u64))],[],[(.sl .u64)]⟩],λx=>Xy F x.1 x.2⟩
def Zc2:Fs Try.prog:=ZmR fuel
theorem ZfU:Zc2.Ok:=fnO ZHq [(0,ZfT)] [Zei,WR] ⟨Zg2,W8,ytt⟩ ⟨ZiR,ytt⟩
def Yu(F:Nat)(a0:(List Int)):Option ((List Int)):=
 if(apB 0 a0.length 8)=true then
  some a0
 else
 none
def Zc3(F:Nat):Fs Try.prog:=⟨66,[.sl true yI],[],[(.sl yI)],[⟨.ret,[(0,.own 0 yI)],[.log yI 3],[(.sl yI)]⟩],λx=>Yu F x⟩
def Zdj:Fs Try.prog:=Zc3 fuel
theorem Zc4:Zdj.Ok:=fnO { own:=[2,5,7]} [] [] trivial
def VV(F:Nat):Option ((List Int)):=
 some []
def Zc5(F:Nat):Fs Try.prog:=⟨66,[.nil yI],[],[],[⟨.ret,[(0,.own 0 yI)],[.log yI 3],[(.sl yI)]⟩],λx=>VV F⟩
def Zdk:Fs Try.prog:=Zc5 fuel
theorem Zc6:Zdk.Ok:=fnO { own:=[2,5,7]} [] [] trivial
def ZbF(F:Nat):Fs Try.prog:=⟨66,[.v (.sl yI)],[],[(.sl yI)],[⟨.ret,[(0,.own 0 yI)],[.log yI 3],[(.sl yI)]⟩],λx=>Yu F x⟩
def Vj:Fs Try.prog:=ZbF fuel
theorem ZbG:Vj.Ok:=Zw7 (t:=yI) (xs:=[⟨.ret,[(0,.own 0 yI)],[.log yI 3],[(.sl yI)]⟩]) (MA:=λ(x:(List Int))=>Yu fuel x) (MB:=λ_=>VV fuel) Zc4 Zc6 rfl
def Wl(F:Nat)(s:((List Int)×Int×FactoryPlan×XQ×(List Z1))):Option (((List Int)×Int×FactoryPlan×XQ×(List Z1))⊕(FactoryPlan×XQ×(List Z1))):=
 if(decide (s.2.1 < 4))=true then
  (Yu F s.1).bind λo344=>
  if(apB o344.length 1 8)=true then
   (Xy F s.2.2.1 (o344++([s.2.1]:List Int))).bind λo345=>
   if(inB s.2.1 4)=true then
    (s.2.2.2.2[s.2.1.toNat]?).bind λe346=>
    let y347:(List Z1):=s.2.2.2.2.set s.2.1.toNat (o345,(0:Int),wi ((wi (3 - s.2.1))*s.2.2.1.2.2.2.1),(0:UInt64))
    some (.inl (s.1,wi (s.2.1+1),s.2.2.1,s.2.2.2.1,y347))
   else
   none
  else
  none
 else
 some (.inr (s.2.2.1,s.2.2.2.1,s.2.2.2.2))
def ZfV:Lp:=⟨[(1,.v (.sl yI)),(2,.ref 0 []),(4,.ref 1 []),(5,.ref 2 []),(7,.v yI)],[.var (.v Zc) true,.var (.v YP) true,.var (.v (.arr 4 ZO)) true],[(.sl yI),yI,Zc,YP,(.arr 4 ZO)],[⟨.exit 0,[(4,.ref 1 []),(5,.ref 2 [])],[.var (.v Zc) true,.var (.v YP) true,.var (.v (.arr 4 ZO)) true],[Zc,YP,(.arr 4 ZO)]⟩],Zi (Wl fuel) fuel⟩
def ZHr:HI:={ own:=[13,16],still:=[11,12,16],frz:=[26]}
theorem ZiS:ZfV.okA Try.prog 41 0:=Z6 ZHr [] [Vj,Zc2] ⟨ZbG,ZfU,ytt⟩
def Wb(F:Nat)(a0:FactoryPlan)(a1:(List Int)):Option (XQ):=
 (Zi (Wl F) F (a1,0,a0,[],[([],0,0,0),([],0,0,0),([],0,0,0),([],0,0,0)])).bind λo348=>
 some o348.2.2
def ZmS(F:Nat):Fs Try.prog:=⟨41,[.v Zc,.v (.sl yI)],[],[Zc,(.sl yI)],[⟨.ret,[(0,.v YP)],[],[YP]⟩],λx=>Wb F x.1 x.2⟩
def Zc7:Fs Try.prog:=ZmS fuel
theorem ZfW:Zc7.Ok:=fnO ZHr [(0,ZfV)] [] trivial ⟨ZiS,ytt⟩
def ZeO(F:Nat)(a0:(List UInt64)):Option (XQ):=
 (V8 F a0).bind λo349=>
 some [(o349,0,0,0)]
def Zvx(F:Nat):Fs Try.prog:=⟨46,[.v (.sl .u64)],[],[(.sl .u64)],[⟨.ret,[(0,.v YP)],[],[YP]⟩],λx=>ZeO F x⟩
def ZiT:Fs Try.prog:=Zvx fuel
theorem Zmi:ZiT.Ok:=fnO { still:=[3]} [] [Zd8] ⟨ZgC,ytt⟩
def Zc8(F:Nat)(a0:UInt64)(a1:UInt64):Option (XQ):=
 (ZeO F [a0,a1]).bind λo350=>
 some o350
def Ztm(F:Nat):Fs Try.prog:=⟨42,[.v .u64,.v .u64],[],[.u64,.u64],[⟨.ret,[(0,.v YP)],[],[YP]⟩],λx=>Zc8 F x.1 x.2⟩
def Zg4:Fs Try.prog:=Ztm fuel
theorem Zkn:Zg4.Ok:=fnO { still:=[7]} [] [ZiT] ⟨Zmi,ytt⟩
def ZaH(F:Nat)(a0:Zd)(a1:Int)(a2:Int):Option (((List In)×Int)):=
 some ([(a0,(a1,[],0))],a2)
def ZiU(F:Nat):Fs Try.prog:=⟨40,[.v Zb,.v yI,.v yI,.nil Zt],[],[Zb,yI,yI],[⟨.ret,[(0,.agg [.v (.sl yIn),.nil Zt,.v yI])],[],[(.sl yIn),yI]⟩],λx=>ZaH F x.1 x.2.1 x.2.2⟩
def ZdS:Fs Try.prog:=ZiU fuel
theorem ZiV:ZdS.Ok:=fnO {} [] [] trivial
def WZ(F:Nat)(s:((List FactorySub)×Int×Int×FactoryPlan×Tx×Tx×(List In)×Int×(List Out))):Option (((List FactorySub)×Int×Int×FactoryPlan×Tx×Tx×(List In)×Int×(List Out))⊕(FactoryPlan×Tx×Tx×(List In)×Int×(List Out))):=
 if(decide (s.2.2.1 < s.2.1))=true then
  (idx s.1 s.2.2.1).bind λe361=>
  (e361.2.1[0]?).bind λe362=>
  (e361.2.1[1]?).bind λe363=>
  (Zc8 F e362 e363).bind λo364=>
  if(apB s.2.2.2.2.2.2.2.2.length 1 32)=true then
   let y365:(List Out):=s.2.2.2.2.2.2.2.2++([(e361.2.2,o364)]:List Out)
   some (.inl (s.1,s.2.1,wi (s.2.2.1+1),s.2.2.2.1,s.2.2.2.2.1,s.2.2.2.2.2.1,s.2.2.2.2.2.2.1,s.2.2.2.2.2.2.2.1,y365))
  else
  none
 else
 some (.inr (s.2.2.2.1,s.2.2.2.2.1,s.2.2.2.2.2.1,s.2.2.2.2.2.2.1,s.2.2.2.2.2.2.2.1,s.2.2.2.2.2.2.2.2))
abbrev tL6:List Ty:=[(.sl Zg),yI,yI,Zc,yTx,yTx,(.sl yIn),yI,(.sl Zt)]
def Zg5:Lp:=⟨[(12,.ref 1 []),(13,.ref 2 []),(14,.ref 3 []),(84,.v (.sl Zg)),(85,.v yI),(86,.v yI)],[.var (.v Zc) true,.var (.v yTx) true,.var (.v yTx) true,.var (.agg [.v (.sl yIn),.own 4 Zt,.v yI]) true,.log Zt 73],tL6,[⟨.exit 1,[(12,.ref 1 []),(13,.ref 2 []),(14,.ref 3 [])],[.var (.v Zc) true,.var (.v yTx) true,.var (.v yTx) true,.var (.agg [.v (.sl yIn),.own 4 Zt,.v yI]) true,.log Zt 73],[Zc,yTx,yTx,(.sl yIn),yI,(.sl Zt)]⟩],Zi (WZ fuel) fuel⟩
def ZHs:HI:={ own:=[91,103],still:=[6,7,17,21,26,27,48,54,55,58,60,62,63,64,71,73,76,78,80,81,82,96,99],gst:=[(14,[([1],Zt,73)])]}
theorem Zko:Zg5.okA Try.prog 16 0:=Z6 ZHs [] [Zg4] ⟨Zkn,ytt⟩
def Q6(F:Nat)(a0:FactoryPlan)(a1:Int)(a2:(List FactorySub)):Option (((List Tx)×Int)):=
 (Y9 F a0).bind λo351=>
 if(!o351)=true then
  some ([],1)
 else
 (ZJ F a1 0 15).bind λo352=>
 if(!o352)=true then
  some ([],1)
 else
 (Vc F a0 a2).bind λo353=>
 if(!o353.2)=true then
  some ([],1)
 else
 if(o353.1 !=(wi (a0.2.1 - (wi (3*a0.2.2.2.2)))))=true then
  some ([],8)
 else
 (Wb F a0 [1]).bind λo354=>
 (Za5 F a0.1 0 0 [(wi (a0.2.1 - a0.2.2.2.2),o354)]).bind λo355=>
 (ZY F o355).bind λo356=>
 (Wb F a0 [2,wi (yh a1 4)]).bind λo357=>
 (Za5 F (o356,0) (wi (yh a1 4)) (wi (yh a1 4)) [(wi (a0.2.1 - (wi (2*a0.2.2.2.2))),o357)]).bind λo358=>
 (ZY F o358).bind λo359=>
 (ZaH F (o359,0) (yy a1 4) a1).bind λo360=>
 (Zi (WZ F) F (a2,(a2.length:Int),0,a0,o355,o358,o360.1,o360.2,[])).bind λo366=>
 some ([o366.2.1,o366.2.2.1,(o366.2.2.2.1,o366.2.2.2.2.2,o366.2.2.2.2.1)],0)
def Zc9(F:Nat):Fs Try.prog:=⟨16,[.v Zc,.v yI,.v (.sl Zg)],[],[Zc,yI,(.sl Zg)],[⟨.ret,[(0,.tup [.v (.sl yTx),.v yI])],[],[(.sl yTx),yI]⟩],λx=>Q6 F x.1 x.2.1 x.2.2⟩
def Zif:Fs Try.prog:=Zc9 fuel
theorem Zg6:Zif.Ok:=fnO ZHs [(0,Zg5)] [ZdS,XV,YF,Zc0,Zc7,Zg0,WQ] ⟨ZiV,Wi,YS,ZfS,ZfW,ZmQ,X3,ytt⟩ ⟨Zko,ytt⟩
def Vd(F:Nat)(a0:Int):Option ((List (List Int))):=
 some [[1,wi (yh a0 4)],[2,wi (yh a0 4),yy a0 4]]
def ZmT(F:Nat):Fs Try.prog:=⟨26,[.v yI],[],[yI],[⟨.ret,[(0,.v (.arr 2 (.sl yI)))],[],[(.arr 2 (.sl yI))]⟩],λx=>Vd F x⟩
def Zda:Fs Try.prog:=ZmT fuel
theorem ZfX:Zda.Ok:=fnO {} [] [] trivial
def ZhI(F:Nat)(a0:UInt64):Option (Bool):=
 (VG F a0).bind λo367=>
 if o367=true then
  some (a0 !=0)
 else
 some false
def Zvy(F:Nat):Fs Try.prog:=⟨74,[.v .u64],[],[.u64],[⟨.ret,[(0,.v .bool)],[],[.bool]⟩],λx=>ZhI F x⟩
def Zph:Fs Try.prog:=Zvy fuel
theorem Zvz:Zph.Ok:=fnO { still:=[2,3]} [] [Zeg] ⟨ZgY,ytt⟩
def ZaI(F:Nat)(a0:UInt64):Option (UInt64):=
 some (a0 % 2305843009213688669)
def ZvA(F:Nat):Fs Try.prog:=⟨78,[.v .u64],[],[.u64],[⟨.ret,[(0,.v .u64)],[],[.u64]⟩],λx=>ZaI F x⟩
def ZiW:Fs Try.prog:=ZvA fuel
theorem Zmj:ZiW.Ok:=fnO { still:=[2]} [] [] trivial
def ZbH(F:Nat)(a0:UInt64)(a1:UInt64):Option (UInt64):=
 some ((a0+a1) % 2305843009213688669)
def Zkp(F:Nat):Fs Try.prog:=⟨79,[.v .u64,.v .u64],[],[.u64,.u64],[⟨.ret,[(0,.v .u64)],[],[.u64]⟩],λx=>ZbH F x.1 x.2⟩
def ZeP:Fs Try.prog:=Zkp fuel
theorem Zkq:ZeP.Ok:=fnO { still:=[4]} [] [] trivial
def ZaJ(F:Nat)(a0:UInt64)(a1:UInt64):Option (UInt64):=
 (ZaI F a0).bind λo368=>
 (ZaI F a1).bind λo369=>
 (ZbH F o368 o369).bind λo370=>
 some o370
def Ztn(F:Nat):Fs Try.prog:=⟨49,[.v .u64,.v .u64],[],[.u64,.u64],[⟨.ret,[(0,.v .u64)],[],[.u64]⟩],λx=>ZaJ F x.1 x.2⟩
def ZdT:Fs Try.prog:=Ztn fuel
theorem Zfu:ZdT.Ok:=fnO { still:=[4,5,6,7,8]} [] [ZiW,ZeP] ⟨Zmj,Zkq,ytt⟩
def ZaK(F:Nat)(a0:UInt64)(a1:UInt64):Option (UInt64):=
 (Zbg F a0 a1).bind λo371=>
 (Xt F o371.1 o371.2 2305843009213688669).bind λo372=>
 some o372
def ZiX(F:Nat):Fs Try.prog:=⟨101,[.v .u64,.v .u64],[],[.u64,.u64],[⟨.ret,[(0,.v .u64)],[],[.u64]⟩],λx=>ZaK F x.1 x.2⟩
def ZdU:Fs Try.prog:=ZiX fuel
theorem ZiY:ZdU.Ok:=fnO { still:=[4,8,9,13,14]} [] [Zfj,Zb2] ⟨Zh4,Zd9,ytt⟩
def Zfv(F:Nat)(a0:UInt64)(a1:UInt64):Option (UInt64):=
 (ZaI F a0).bind λo373=>
 (ZaI F a1).bind λo374=>
 (ZaK F o373 o374).bind λo375=>
 some o375
def Zto(F:Nat):Fs Try.prog:=⟨94,[.v .u64,.v .u64],[],[.u64,.u64],[⟨.ret,[(0,.v .u64)],[],[.u64]⟩],λx=>Zfv F x.1 x.2⟩
def Zmk:Fs Try.prog:=Zto fuel
theorem Ztp:Zmk.Ok:=fnO { still:=[4,5,6,7,8]} [] [ZiW,ZdU] ⟨Zmj,ZiY,ytt⟩
def Zfw(F:Nat)(a0:UInt64)(a1:UInt64)(a2:(List UInt8))(a3:UInt64):Option (Sig):=
 (Xx F a1).bind λo376=>
 (Zc1 F o376 a3).bind λo377=>
 (Xx F a0).bind λo378=>
 (Xj F o377 o378 a2).bind λo379=>
 (Zfv F o379 a0).bind λo380=>
 (ZaJ F a1 o380).bind λo381=>
 some (o377,o381)
def Zpi(F:Nat):Fs Try.prog:=⟨75,[.v .u64,.v .u64,.v (.arr 32 .u8),.v .u64],[],[.u64,.u64,(.arr 32 .u8),.u64],[⟨.ret,[(0,.v ZA)],[],[ZA]⟩],λx=>Zfw F x.1 x.2.1 x.2.2.1 x.2.2.2⟩
def Zig:Fs Try.prog:=Zpi fuel
def ZHX:HI:={ still:=[9,10,11,14,16,17,18,19,20,21,22]}
theorem Zpj:Zig.Ok:=fnO ZHX [] [WR,Zg3,ZaG,Zmk,ZdT] ⟨W8,Zkm,ZdQ,Ztp,Zfu,ytt⟩
def ZFg:ByteArray:=⟨#[110,111,110,99,101]⟩
def Qe(F:Nat)(a0:UInt64)(a1:(List UInt8)):Option (Sig):=
 (ZhI F a0).bind λo382=>
 if(!o382)=true then
  some (0,0)
 else
 (WB F a0).bind λo383=>
 (W7 F ZFg [o383,a1]).bind λo384=>
 (WA F o384).bind λo385=>
 (Zfw F a0 o385 a1 1).bind λo386=>
 some o386
def Ztq(F:Nat):Fs Try.prog:=⟨48,[.v .u64,.v (.arr 32 .u8)],[],[.u64,(.arr 32 .u8)],[⟨.ret,[(0,.v ZA)],[],[ZA]⟩],λx=>Qe F x.1 x.2⟩
def Zg7:Fs Try.prog:=Ztq fuel
def ZHY:HI:={ still:=[5,9,10,13,14,15,16],frz:=[12]}
theorem Zkr:Zg7.Ok:=fnO ZHY [] [Zph,Zfr,ZcP,Zcb,Zig] ⟨Zvz,Zid,ZdN,Zeh,Zpj,ytt⟩
def Wm(F:Nat)(s:(UInt64×(List Tx)×(List (List Int))×Int×FactoryPlan×(List Sig))):Option ((UInt64×(List Tx)×(List (List Int))×Int×FactoryPlan×(List Sig))⊕(FactoryPlan×(List Sig))):=
 if(decide (s.2.2.2.1 < 2))=true then
  (idx s.2.2.1 s.2.2.2.1).bind λe396=>
  (Q5 F e396).bind λo397=>
  (ZaJ F s.1 o397).bind λo398=>
  (idx s.2.1 (wi (s.2.2.2.1+1))).bind λe399=>
  (ZY F e399).bind λo400=>
  (Qe F o398 o400).bind λo401=>
  if(apB s.2.2.2.2.2.length 1 16)=true then
   some (.inl (s.1,s.2.1,s.2.2.1,wi (s.2.2.2.1+1),s.2.2.2.2.1,s.2.2.2.2.2++([o401]:List Sig)))
  else
  none
 else
 some (.inr (s.2.2.2.2.1,s.2.2.2.2.2))
def ZfY:Lp:=⟨[(4,.v .u64),(12,.v (.sl yTx)),(14,.own 1 ZA),(54,.v (.arr 2 (.sl yI))),(55,.v yI)],[.var (.v Zc) true,.log ZA 62],[.u64,(.sl yTx),(.arr 2 (.sl yI)),yI,Zc,(.sl ZA)],[⟨.exit 1,[(14,.own 1 ZA)],[.var (.v Zc) true,.log ZA 62],[Zc,(.sl ZA)]⟩],Zi (Wm fuel) fuel⟩
def ZHt:HI:={ own:=[14,52,59,72],still:=[10,11,18,19,20,29,33,37,45,46,49,50,53,60,61,62,63,68,69]}
theorem ZiZ:ZfY.okA Try.prog 23 0:=Z6 ZHt [] [Zei,ZdT,WQ,Zg7] ⟨Zg2,Zfu,X3,Zkr,ytt⟩
def Za6(F:Nat)(a0:FactoryPlan)(a1:Int)(a2:(List FactorySub))(a3:Int)(a4:UInt64):Option (((List Sig)×Int)):=
 (Q6 F a0 a1 a2).bind λo387=>
 if(o387.2 !=0)=true then
  some ([],o387.2)
 else
 (ZJ F a3 0 (wi ((a0.2.2.1.length:Int) - 1))).bind λo388=>
 if(!o388)=true then
  some ([],5)
 else
 (Xx F a4).bind λo389=>
 (idx a0.2.2.1 a3).bind λe390=>
 if(o389 !=e390)=true then
  some ([],7)
 else
 (ZaJ F a4 0).bind λo391=>
 (idx o387.1 0).bind λe392=>
 (ZY F e392).bind λo393=>
 (Qe F o391 o393).bind λo394=>
 (Vd F a1).bind λo395=>
 (Zi (Wm F) F (a4,o387.1,o395,0,a0,[o394])).bind λo402=>
 some (o402.2,0)
def ZmU(F:Nat):Fs Try.prog:=⟨23,[.v Zc,.v yI,.v (.sl Zg),.v yI,.v .u64],[],[Zc,yI,(.sl Zg),yI,.u64],[⟨.ret,[(0,.tup [.v (.sl ZA),.v yI])],[],[(.sl ZA),yI]⟩],λx=>Za6 F x.1 x.2.1 x.2.2.1 x.2.2.2.1 x.2.2.2.2⟩
def Zg8:Fs Try.prog:=ZmU fuel
theorem ZmV:Zg8.Ok:=fnO ZHt [(0,ZfY)] [Zif,YF,WR,ZdT,WQ,Zg7,Zda] ⟨Zg6,YS,W8,Zfu,X3,Zkr,ZfX,ytt⟩ ⟨ZiZ,ytt⟩
def YG(F:Nat)(s:(Int×(List FactorySub)×(List UInt64)×Int×FactoryPlan×(List (List Sig)))):Option ((Int×(List FactorySub)×(List UInt64)×Int×FactoryPlan×(List (List Sig)))⊕(((List (List Sig))×Bool×FactoryPlan×(List (List Sig)))⊕(FactoryPlan×(List (List Sig))))):=
 if(decide (s.2.2.2.1 < (s.2.2.1.length:Int)))=true then
  (idx s.2.2.1 s.2.2.2.1).bind λe403=>
  (Za6 F s.2.2.2.2.1 s.1 s.2.1 s.2.2.2.1 e403).bind λo404=>
  if(o404.2 !=0)=true then
   some (.inr (.inl ([],false,s.2.2.2.2.1,s.2.2.2.2.2)))
  else
  if(apB s.2.2.2.2.2.length 1 24)=true then
   some (.inl (s.1,s.2.1,s.2.2.1,wi (s.2.2.2.1+1),s.2.2.2.2.1,s.2.2.2.2.2++([o404.1]:List (List Sig))))
  else
  none
 else
 some (.inr (.inr (s.2.2.2.2.1,s.2.2.2.2.2)))
def Q7:Lp:=⟨[(1,.v yI),(2,.v (.sl Zg)),(3,.v (.sl .u64)),(4,.ref 0 []),(10,.own 1 (.sl ZA)),(11,.v yI)],[.var (.v Zc) true,.log (.sl ZA) 59],[yI,(.sl Zg),(.sl .u64),yI,Zc,(.sl (.sl ZA))],[⟨.ret,[(8,.v (.sl (.sl ZA))),(9,.v .bool)],[.var (.v Zc) true,.log (.sl ZA) 59],[(.sl (.sl ZA)),.bool,Zc,(.sl (.sl ZA))]⟩,⟨.exit 0,[(10,.own 1 (.sl ZA))],[.var (.v Zc) true,.log (.sl ZA) 59],[Zc,(.sl (.sl ZA))]⟩],Zi (YG fuel) fuel⟩
def ZHu:HI:={ own:=[10,34,37],still:=[8,9,21,22,23,24,28]}
theorem Zdl:Q7.okA Try.prog 7 0:=Z6 ZHu [] [Zg8] ⟨ZmV,ytt⟩
def Xa(F:Nat)(a0:FactoryPlan)(a1:Int)(a2:(List FactorySub))(a3:(List UInt64)):Option (((List (List Sig))×Bool)):=
 (Zi (YG F) F (a1,a2,a3,0,a0,[])).bind λo405=>
 match o405 with
 |.inl o406=>
  some (o406.1,o406.2.1)
 |.inr o407=>
  some (o407.2,true)
def WU(F:Nat):Fs Try.prog:=⟨7,[.v Zc,.v yI,.v (.sl Zg),.v (.sl .u64)],[],[Zc,yI,(.sl Zg),(.sl .u64)],[⟨.ret,[(0,.tup [.v (.sl (.sl ZA)),.v .bool])],[],[(.sl (.sl ZA)),.bool]⟩],λx=>Xa F x.1 x.2.1 x.2.2.1 x.2.2.2⟩
def Zal:Fs Try.prog:=WU fuel
theorem Q8:Zal.Ok:=fnO ZHu [(0,Q7)] [] trivial ⟨Zdl,ytt⟩
def VH(F:Nat)(a0:Zd)(a1:Int)(a2:Int)(a3:(List Out)):Option (((List Out)×Int×Zd×Int×UInt64)):=
 some (a3,a2,a0,a1,0)
def Zi0(F:Nat):Fs Try.prog:=⟨40,[.v Zb,.v yI,.v yI,.v (.sl Zt)],[],[Zb,yI,yI,(.sl Zt)],[⟨.ret,[(0,.agg [.rv 0 0 36 0 1,.v (.sl Zt),.v yI])],[.rowD 0 36 true 90 1 [.agg [.v Zb,.agg [.v yI,.nil ZA,.v .u64]]]],[(.sl Zt),yI,Zb,yI,.u64]⟩],λx=>VH F x.1 x.2.1 x.2.2.1 x.2.2.2⟩
def ZdV:Fs Try.prog:=Zi0 fuel
theorem Zi1:ZdV.Ok:=fnO { row:=[13],own:=[13]} [] [] trivial
def ZaL(F:Nat)(a0:Zd)(a1:Int)(a2:Int):Option ((Int×Zd×Int×UInt64)):=
 some (a2,a0,a1,0)
def Zi2(F:Nat):Fs Try.prog:=⟨40,[.v Zb,.v yI,.v yI,.nil Zt],[],[Zb,yI,yI],[⟨.ret,[(0,.agg [.rv 0 0 36 0 1,.nil Zt,.v yI])],[.rowD 0 36 true 90 1 [.agg [.v Zb,.agg [.v yI,.nil ZA,.v .u64]]]],[yI,Zb,yI,.u64]⟩],λx=>ZaL F x.1 x.2.1 x.2.2⟩
def ZdW:Fs Try.prog:=Zi2 fuel
theorem Zi3:ZdW.Ok:=fnO { row:=[13],own:=[13]} [] [] trivial
abbrev dT3:Type:=((List FactorySub)×Int×Int×FactoryPlan×Zd×Int×UInt64×(List Out)×Int×Zd×Int×UInt64×(List Out)×Int×Zd×Int×UInt64×Int×(List Out))
abbrev dT4:Type:=(FactoryPlan×Zd×Int×UInt64×(List Out)×Int×Zd×Int×UInt64×(List Out)×Int×Zd×Int×UInt64×Int×(List Out))
def XP(F:Nat)(s:dT3):Option (dT3⊕dT4):=
 if(decide (s.2.2.1 < s.2.1))=true then
  (idx s.1 s.2.2.1).bind λe418=>
  (e418.2.1[0]?).bind λe419=>
  (e418.2.1[1]?).bind λe420=>
  (Zc8 F e419 e420).bind λo421=>
  if(apB s.2.2.2.2.2.2.2.2.2.2.2.2.2.2.2.2.2.2.length 1 32)=true then
   let y422:(List Out):=s.2.2.2.2.2.2.2.2.2.2.2.2.2.2.2.2.2.2++([(e418.2.2,o421)]:List Out)
   some (.inl (s.1,s.2.1,wi (s.2.2.1+1),s.2.2.2.1,s.2.2.2.2.1,s.2.2.2.2.2.1,s.2.2.2.2.2.2.1,s.2.2.2.2.2.2.2.1,s.2.2.2.2.2.2.2.2.1,s.2.2.2.2.2.2.2.2.2.1,s.2.2.2.2.2.2.2.2.2.2.1,s.2.2.2.2.2.2.2.2.2.2.2.1,s.2.2.2.2.2.2.2.2.2.2.2.2.1,s.2.2.2.2.2.2.2.2.2.2.2.2.2.1,s.2.2.2.2.2.2.2.2.2.2.2.2.2.2.1,s.2.2.2.2.2.2.2.2.2.2.2.2.2.2.2.1,s.2.2.2.2.2.2.2.2.2.2.2.2.2.2.2.2.1,s.2.2.2.2.2.2.2.2.2.2.2.2.2.2.2.2.2.1,y422))
  else
  none
 else
 some (.inr (s.2.2.2.1,s.2.2.2.2.1,s.2.2.2.2.2.1,s.2.2.2.2.2.2.1,s.2.2.2.2.2.2.2.1,s.2.2.2.2.2.2.2.2.1,s.2.2.2.2.2.2.2.2.2.1,s.2.2.2.2.2.2.2.2.2.2.1,s.2.2.2.2.2.2.2.2.2.2.2.1,s.2.2.2.2.2.2.2.2.2.2.2.2.1,s.2.2.2.2.2.2.2.2.2.2.2.2.2.1,s.2.2.2.2.2.2.2.2.2.2.2.2.2.2.1,s.2.2.2.2.2.2.2.2.2.2.2.2.2.2.2.1,s.2.2.2.2.2.2.2.2.2.2.2.2.2.2.2.2.1,s.2.2.2.2.2.2.2.2.2.2.2.2.2.2.2.2.2.1,s.2.2.2.2.2.2.2.2.2.2.2.2.2.2.2.2.2.2))
def ZHv:List ESh:=[.var (.v Zc) true,.rowD 0 36 true 90 1 [.agg [.v Zb,.agg [.v yI,.nil ZA,.v .u64]]],.var (.agg [.rv 1 0 36 0 1,.v (.sl Zt),.v yI]) true,.rowD 0 36 true 90 1 [.agg [.v Zb,.agg [.v yI,.nil ZA,.v .u64]]],.var (.agg [.rv 3 0 36 0 1,.v (.sl Zt),.v yI]) true,.rowD 0 36 true 90 1 [.agg [.v Zb,.agg [.v yI,.nil ZA,.v .u64]]],.var (.agg [.rv 5 0 36 0 1,.own 7 Zt,.v yI]) true,.log Zt 73]
abbrev tL7:List Ty:=[Zc,Zb,yI,.u64,(.sl Zt),yI,Zb,yI,.u64,(.sl Zt),yI,Zb,yI,.u64,yI,(.sl Zt)]
abbrev tL8:List Ty:=[(.sl Zg),yI,yI,Zc,Zb,yI,.u64,(.sl Zt),yI,Zb,yI,.u64,(.sl Zt),yI,Zb,yI,.u64,yI,(.sl Zt)]
def ZdX:Lp:=⟨[(12,.ref 2 []),(13,.ref 4 []),(14,.ref 6 []),(84,.v (.sl Zg)),(85,.v yI),(86,.v yI)],ZHv,tL8,[⟨.exit 1,[(12,.ref 2 []),(13,.ref 4 []),(14,.ref 6 [])],ZHv,tL7⟩],Zi (XP fuel) fuel⟩
def ZHw:HI:={ row:=[109],own:=[91,103,109],still:=[17,21,26,27,48,54,55,58,60,62,63,64,71,73,76,78,80,81,82,96,99],gst:=[(14,[([1],Zt,73)])]}
theorem Zg9:ZdX.okA Try.prog 16 0:=Z6 ZHw [] [Zg4] ⟨Zkn,ytt⟩
def W0(F:Nat)(a0:FactoryPlan)(a1:Int)(a2:(List FactorySub)):Option (Int⊕(Int×(List Out)×Int×(List Out)×Int×Int×Zd×Int×UInt64×Zd×Int×UInt64×Zd×Int×UInt64×(List Out))):=
 (Y9 F a0).bind λo408=>
 if(!o408)=true then
  some (.inl 1)
 else
 (ZJ F a1 0 15).bind λo409=>
 if(!o409)=true then
  some (.inl 1)
 else
 (Vc F a0 a2).bind λo410=>
 if(!o410.2)=true then
  some (.inl 1)
 else
 if(o410.1 !=(wi (a0.2.1 - (wi (3*a0.2.2.2.2)))))=true then
  some (.inl 8)
 else
 (Wb F a0 [1]).bind λo411=>
 (VH F a0.1 0 0 [(wi (a0.2.1 - a0.2.2.2.2),o411)]).bind λo412=>
 (ZY F ([(o412.2.2.1,(o412.2.2.2.1,[],o412.2.2.2.2))],o412.1,o412.2.1)).bind λo413=>
 (Wb F a0 [2,wi (yh a1 4)]).bind λo414=>
 (VH F (o413,0) (wi (yh a1 4)) (wi (yh a1 4)) [(wi (a0.2.1 - (wi (2*a0.2.2.2.2))),o414)]).bind λo415=>
 (ZY F ([(o415.2.2.1,(o415.2.2.2.1,[],o415.2.2.2.2))],o415.1,o415.2.1)).bind λo416=>
 (ZaL F (o416,0) (yy a1 4) a1).bind λo417=>
 (Zi (XP F) F (a2,(a2.length:Int),0,a0,o412.2.2.1,o412.2.2.2.1,o412.2.2.2.2,o412.1,o412.2.1,o415.2.2.1,o415.2.2.2.1,o415.2.2.2.2,o415.1,o415.2.1,o417.2.1,o417.2.2.1,o417.2.2.2,o417.1,[])).bind λo423=>
 some (.inr (0,o423.2.2.2.2.1,o423.2.2.2.2.2.1,o423.2.2.2.2.2.2.2.2.2.1,o423.2.2.2.2.2.2.2.2.2.2.1,o423.2.2.2.2.2.2.2.2.2.2.2.2.2.2.1,o423.2.1,o423.2.2.1,o423.2.2.2.1,o423.2.2.2.2.2.2.1,o423.2.2.2.2.2.2.2.1,o423.2.2.2.2.2.2.2.2.1,o423.2.2.2.2.2.2.2.2.2.2.2.1,o423.2.2.2.2.2.2.2.2.2.2.2.2.1,o423.2.2.2.2.2.2.2.2.2.2.2.2.2.1,o423.2.2.2.2.2.2.2.2.2.2.2.2.2.2.2))
def Zks(F:Nat):Fs Try.prog:=⟨16,[.v Zc,.v yI,.v (.sl Zg)],[],[Zc,yI,(.sl Zg)],[⟨.ret,[(0,.tup [.nil yTx,.v yI])],[],[yI]⟩,⟨.ret,[(0,.tup [.rv 0 0 3 0 3,.v yI])],[.rowD 0 3 true 52 3 [.agg [.rv 1 0 36 0 1,.v (.sl Zt),.v yI],.agg [.rv 2 0 36 0 1,.v (.sl Zt),.v yI],.agg [.rv 3 0 36 0 1,.own 4 Zt,.v yI]],.rowD 0 36 true 90 1 [.agg [.v Zb,.agg [.v yI,.nil ZA,.v .u64]]],.rowD 0 36 true 90 1 [.agg [.v Zb,.agg [.v yI,.nil ZA,.v .u64]]],.rowD 0 36 true 90 1 [.agg [.v Zb,.agg [.v yI,.nil ZA,.v .u64]]],.log Zt 73],[yI,(.sl Zt),yI,(.sl Zt),yI,yI,Zb,yI,.u64,Zb,yI,.u64,Zb,yI,.u64,(.sl Zt)]⟩],λx=>W0 F x.1 x.2.1 x.2.2⟩
def ZeQ:Fs Try.prog:=Zks fuel
theorem Zkt:ZeQ.Ok:=fnO ZHw [(0,ZdX)] [ZdW,XV,YF,Zc0,Zc7,ZdV,WQ] ⟨Zi3,Wi,YS,ZfS,ZfW,Zi1,X3,ytt⟩ ⟨Zg9,ytt⟩
def ZfZ(F:Nat)(a0:(List Sig))(s0:(List Tx)):Option ((Bool×(List Tx))):=
 some ((a0.length:Int)!=(s0.length:Int),s0)
def Zku(F:Nat):Fs Try.prog:=⟨25,[.v (.sl ZA),.ref 0 []],[.var (.v (.sl yTx)) true],[(.sl ZA),(.sl yTx)],[⟨.ret,[(0,.v .bool)],[.var (.v (.sl yTx)) true],[.bool,(.sl yTx)]⟩],λx=>ZfZ F x.1 x.2⟩
def ZeR:Fs Try.prog:=Zku fuel
theorem Zkv:ZeR.Ok:=fnO { still:=[3]} [] [] trivial
def Zha(F:Nat)(s:((List (List Sig))×Int×Int×(List Tx))):Option (((List (List Sig))×Int×Int×(List Tx))⊕((Int×(List Tx))⊕(List Tx))):=
 if(decide (s.2.2.1 < s.2.1))=true then
  (idx s.1 s.2.2.1).bind λe426=>
  (ZfZ F e426 s.2.2.2).bind λo427=>
  if o427.1=true then
   some (.inr (.inl (s.2.2.1,o427.2)))
  else
  some (.inl (s.1,s.2.1,wi (s.2.2.1+1),o427.2))
 else
 some (.inr (.inr s.2.2.2))
def Zih:Lp:=⟨[(0,.v (.sl (.sl ZA))),(1,.fn 25 [.ref 0 []]),(7,.v yI),(8,.v yI)],[.var (.v (.sl yTx)) true],[(.sl (.sl ZA)),yI,yI,(.sl yTx)],[⟨.ret,[(4,.v yI)],[.var (.v (.sl yTx)) true],[yI,(.sl yTx)]⟩,⟨.exit 0,[],[.var (.v (.sl yTx)) true],[(.sl yTx)]⟩],Zi (Zha fuel) fuel⟩
theorem Zlr:Zih.okA Try.prog 51 0:=Z6 { still:=[4,15]} [] [ZeR] ⟨Zkv,ytt⟩
def Zml(F:Nat)(a0:(List (List Sig)))(s0:(List Tx)):Option ((Int×(List Tx))):=
 (Zi (Zha F) F (a0,(a0.length:Int),0,s0)).bind λo428=>
 match o428 with
 |.inl o429=>
  some (o429.1,o429.2)
 |.inr o430=>
  some ((-1),o430)
def Zql(F:Nat):Fs Try.prog:=⟨51,[.v (.sl (.sl ZA)),.fn 25 [.ref 0 []]],[.var (.v (.sl yTx)) true],[(.sl (.sl ZA)),(.sl yTx)],[⟨.ret,[(0,.v yI)],[.var (.v (.sl yTx)) true],[yI,(.sl yTx)]⟩],λx=>Zml F x.1 x.2⟩
def Zkw:Fs Try.prog:=Zql fuel
theorem Zqm:Zkw.Ok:=fnO { still:=[4,15]} [(0,Zih)] [] trivial ⟨Zlr,ytt⟩
def ZvB(F:Nat)(a0:(List (List Sig)))(s0:(List Tx)):Option ((Bool×(List Tx))):=
 (Zml F a0 s0).bind λo431=>
 some (decide (o431.1 ≥ 0),o431.2)
def Zxm(F:Nat):Fs Try.prog:=⟨24,[.v (.sl (.sl ZA)),.fn 25 [.ref 0 []]],[.var (.v (.sl yTx)) true],[(.sl (.sl ZA)),(.sl yTx)],[⟨.ret,[(0,.v .bool)],[.var (.v (.sl yTx)) true],[.bool,(.sl yTx)]⟩],λx=>ZvB F x.1 x.2⟩
def Zrm:Fs Try.prog:=Zxm fuel
theorem Zxn:Zrm.Ok:=fnO { still:=[4,5,6]} [] [Zkw] ⟨Zqm,ytt⟩
abbrev dT5:Type:=((List (List Sig))×(List (List UInt64))×Int×Int×Int×(List (List Sig))×Int×Int×FactoryPlan×(List Tx)×(List (List Int))×(List UInt8))
abbrev dT6:Type:=((List (List Sig))×(List (List UInt64))×Int×Int×FactoryPlan×(List Tx)×(List (List Int))×(List UInt8))
abbrev tL9:List Ty:=[(.sl (.sl ZA)),(.sl (.sl .u64)),yI,yI,Zc,(.sl yTx),(.arr 2 (.sl yI)),(.arr 32 .u8)]
abbrev ZHZ:List Ty:=[(.sl (.sl ZA)),(.sl (.sl .u64)),yI,yI,yI,(.sl (.sl ZA)),yI,yI,Zc,(.sl yTx),(.arr 2 (.sl yI)),(.arr 32 .u8)]
abbrev dT7:Type:=((List (List Sig))×(List (List UInt64))×Int×Int×FactoryPlan×(List Tx)×(List (List Int)))
abbrev ZH0:List Ty:=[(.sl (.sl ZA)),(.sl (.sl .u64)),yI,yI,Zc,(.sl yTx),(.arr 2 (.sl yI))]
def Qf(F:Nat)(a0:(List Sig))(s1_0:(List Out))(s1_1:Int)(s1_2:(List Out))(s1_3:Int)(s1_4:Int)(s2_0:Zd)(s2_1:Int)(s2_2:UInt64)(s3_0:Zd)(s3_1:Int)(s3_2:UInt64)(s4_0:Zd)(s4_1:Int)(s4_2:UInt64)(s5:(List Out)):Option ((Bool×(List Out)×Int×(List Out)×Int×Int×Zd×Int×UInt64×Zd×Int×UInt64×Zd×Int×UInt64×(List Out))):=
 some ((a0.length:Int)!=3,s1_0,s1_1,s1_2,s1_3,s1_4,s2_0,s2_1,s2_2,s3_0,s3_1,s3_2,s4_0,s4_1,s4_2,s5)
def Zhb(F:Nat):Fs Try.prog:=⟨25,[.v (.sl ZA),.ref 0 []],[.var (.rv 1 0 3 0 3) true,.rowD 0 3 true 52 3 [.agg [.rv 2 0 36 0 1,.v (.sl Zt),.v yI],.agg [.rv 3 0 36 0 1,.v (.sl Zt),.v yI],.agg [.rv 4 0 36 0 1,.own 5 Zt,.v yI]],.rowD 0 36 true 90 1 [.agg [.v Zb,.agg [.v yI,.nil ZA,.v .u64]]],.rowD 0 36 true 90 1 [.agg [.v Zb,.agg [.v yI,.nil ZA,.v .u64]]],.rowD 0 36 true 90 1 [.agg [.v Zb,.agg [.v yI,.nil ZA,.v .u64]]],.log Zt 73],[(.sl ZA),(.sl Zt),yI,(.sl Zt),yI,yI,Zb,yI,.u64,Zb,yI,.u64,Zb,yI,.u64,(.sl Zt)],[⟨.ret,[(0,.v .bool)],[.var (.rv 1 0 3 0 3) true,.rowD 0 3 true 52 3 [.agg [.rv 2 0 36 0 1,.v (.sl Zt),.v yI],.agg [.rv 3 0 36 0 1,.v (.sl Zt),.v yI],.agg [.rv 4 0 36 0 1,.own 5 Zt,.v yI]],.rowD 0 36 true 90 1 [.agg [.v Zb,.agg [.v yI,.nil ZA,.v .u64]]],.rowD 0 36 true 90 1 [.agg [.v Zb,.agg [.v yI,.nil ZA,.v .u64]]],.rowD 0 36 true 90 1 [.agg [.v Zb,.agg [.v yI,.nil ZA,.v .u64]]],.log Zt 73],[.bool,(.sl Zt),yI,(.sl Zt),yI,yI,Zb,yI,.u64,Zb,yI,.u64,Zb,yI,.u64,(.sl Zt)]⟩],λx=>Qf F x.1 x.2.1 x.2.2.1 x.2.2.2.1 x.2.2.2.2.1 x.2.2.2.2.2.1 x.2.2.2.2.2.2.1 x.2.2.2.2.2.2.2.1 x.2.2.2.2.2.2.2.2.1 x.2.2.2.2.2.2.2.2.2.1 x.2.2.2.2.2.2.2.2.2.2.1 x.2.2.2.2.2.2.2.2.2.2.2.1 x.2.2.2.2.2.2.2.2.2.2.2.2.1 x.2.2.2.2.2.2.2.2.2.2.2.2.2.1 x.2.2.2.2.2.2.2.2.2.2.2.2.2.2.1 x.2.2.2.2.2.2.2.2.2.2.2.2.2.2.2⟩
def ZbR:Fs Try.prog:=Zhb fuel
theorem Zhc:ZbR.Ok:=fnO { still:=[3]} [] [] trivial
abbrev dT8:Type:=((List (List Sig))×Int×Int×(List Out)×Int×(List Out)×Int×Int×Zd×Int×UInt64×Zd×Int×UInt64×Zd×Int×UInt64×(List Out))
abbrev dT9:Type:=(Int×(List Out)×Int×(List Out)×Int×Int×Zd×Int×UInt64×Zd×Int×UInt64×Zd×Int×UInt64×(List Out))
abbrev ZHx:Type:=((List Out)×Int×(List Out)×Int×Int×Zd×Int×UInt64×Zd×Int×UInt64×Zd×Int×UInt64×(List Out))
def Xh(F:Nat)(s:dT8):Option (dT8⊕(dT9⊕ZHx)):=
 if(decide (s.2.2.1 < s.2.1))=true then
  (idx s.1 s.2.2.1).bind λe484=>
  (Qf F e484 s.2.2.2.1 s.2.2.2.2.1 s.2.2.2.2.2.1 s.2.2.2.2.2.2.1 s.2.2.2.2.2.2.2.1 s.2.2.2.2.2.2.2.2.1 s.2.2.2.2.2.2.2.2.2.1 s.2.2.2.2.2.2.2.2.2.2.1 s.2.2.2.2.2.2.2.2.2.2.2.1 s.2.2.2.2.2.2.2.2.2.2.2.2.1 s.2.2.2.2.2.2.2.2.2.2.2.2.2.1 s.2.2.2.2.2.2.2.2.2.2.2.2.2.2.1 s.2.2.2.2.2.2.2.2.2.2.2.2.2.2.2.1 s.2.2.2.2.2.2.2.2.2.2.2.2.2.2.2.2.1 s.2.2.2.2.2.2.2.2.2.2.2.2.2.2.2.2.2).bind λo485=>
  if o485.1=true then
   some (.inr (.inl (s.2.2.1,o485.2.1,o485.2.2.1,o485.2.2.2.1,o485.2.2.2.2.1,o485.2.2.2.2.2.1,o485.2.2.2.2.2.2.1,o485.2.2.2.2.2.2.2.1,o485.2.2.2.2.2.2.2.2.1,o485.2.2.2.2.2.2.2.2.2.1,o485.2.2.2.2.2.2.2.2.2.2.1,o485.2.2.2.2.2.2.2.2.2.2.2.1,o485.2.2.2.2.2.2.2.2.2.2.2.2.1,o485.2.2.2.2.2.2.2.2.2.2.2.2.2.1,o485.2.2.2.2.2.2.2.2.2.2.2.2.2.2.1,o485.2.2.2.2.2.2.2.2.2.2.2.2.2.2.2)))
  else
  some (.inl (s.1,s.2.1,wi (s.2.2.1+1),o485.2.1,o485.2.2.1,o485.2.2.2.1,o485.2.2.2.2.1,o485.2.2.2.2.2.1,o485.2.2.2.2.2.2.1,o485.2.2.2.2.2.2.2.1,o485.2.2.2.2.2.2.2.2.1,o485.2.2.2.2.2.2.2.2.2.1,o485.2.2.2.2.2.2.2.2.2.2.1,o485.2.2.2.2.2.2.2.2.2.2.2.1,o485.2.2.2.2.2.2.2.2.2.2.2.2.1,o485.2.2.2.2.2.2.2.2.2.2.2.2.2.1,o485.2.2.2.2.2.2.2.2.2.2.2.2.2.2.1,o485.2.2.2.2.2.2.2.2.2.2.2.2.2.2.2))
 else
 some (.inr (.inr (s.2.2.2.1,s.2.2.2.2.1,s.2.2.2.2.2.1,s.2.2.2.2.2.2.1,s.2.2.2.2.2.2.2.1,s.2.2.2.2.2.2.2.2.1,s.2.2.2.2.2.2.2.2.2.1,s.2.2.2.2.2.2.2.2.2.2.1,s.2.2.2.2.2.2.2.2.2.2.2.1,s.2.2.2.2.2.2.2.2.2.2.2.2.1,s.2.2.2.2.2.2.2.2.2.2.2.2.2.1,s.2.2.2.2.2.2.2.2.2.2.2.2.2.2.1,s.2.2.2.2.2.2.2.2.2.2.2.2.2.2.2.1,s.2.2.2.2.2.2.2.2.2.2.2.2.2.2.2.2.1,s.2.2.2.2.2.2.2.2.2.2.2.2.2.2.2.2.2)))
def ZGE:List ESh:=[.var (.rv 1 0 3 0 3) true,.rowD 0 3 true 52 3 [.agg [.rv 2 0 36 0 1,.v (.sl Zt),.v yI],.agg [.rv 3 0 36 0 1,.v (.sl Zt),.v yI],.agg [.rv 4 0 36 0 1,.own 5 Zt,.v yI]],.rowD 0 36 true 90 1 [.agg [.v Zb,.agg [.v yI,.nil ZA,.v .u64]]],.rowD 0 36 true 90 1 [.agg [.v Zb,.agg [.v yI,.nil ZA,.v .u64]]],.rowD 0 36 true 90 1 [.agg [.v Zb,.agg [.v yI,.nil ZA,.v .u64]]],.log Zt 73]
abbrev ZH1:List Ty:=[yI,(.sl Zt),yI,(.sl Zt),yI,yI,Zb,yI,.u64,Zb,yI,.u64,Zb,yI,.u64,(.sl Zt)]
abbrev ZH2:List Ty:=[(.sl Zt),yI,(.sl Zt),yI,yI,Zb,yI,.u64,Zb,yI,.u64,Zb,yI,.u64,(.sl Zt)]
abbrev ZH3:List Ty:=[(.sl (.sl ZA)),yI,yI,(.sl Zt),yI,(.sl Zt),yI,yI,Zb,yI,.u64,Zb,yI,.u64,Zb,yI,.u64,(.sl Zt)]
def ZeS:Lp:=⟨[(0,.v (.sl (.sl ZA))),(1,.fn 25 [.ref 0 []]),(7,.v yI),(8,.v yI)],ZGE,ZH3,[⟨.ret,[(4,.v yI)],ZGE,ZH1⟩,⟨.exit 0,[],ZGE,ZH2⟩],Zi (Xh fuel) fuel⟩
theorem ZhS:ZeS.okA Try.prog 51 0:=Z6 { still:=[4,15]} [] [ZbR] ⟨Zhc,ytt⟩
end
end Go.Proofs.Ytkapgdbeeblihaa
end
