/- Parts of the proof, in one file. -/
import Derived.Test.YtekdgjajmennjaaGreatKe
open Bool renaming and_eq_true → yi
open Go.Proofs.Tryz renaming prog → ya
open List renaming length_append → yr, length_map → yx, replicate → yab, map_cons → yad, length_take → yae, getElem?_map → yaf, length_cons → yai, map_append → yaj, append_assoc → yak, getElem?_eq_none → yan, getElem?_cons_succ → yar, length_set → ybc, take_append_drop → ybf, length_drop → ybq, mem_cons → ycf, getElem?_set_self → ycl, length_replicate → yco, getD_eq_getElem?_getD → ycu
open Nat renaming le_refl → ym, add → yw, shiftRight → yag, mod_eq_of_lt → yaq, add_mul → yat, zero_add → yax, lt_or_ge → ybp, mul_comm → ybs, eq_zero_or_pos → ybt, mul_le_mul_right → ycb
open Option renaming bind_some → yf
open UInt32 renaming toNat → ybl, toNat_ofNat' → ycq
open UInt64 renaming ofNat → yal, toNat_ofNat' → ybo, toNat_lt → yca, toNat_inj → yck, le_iff_toNat_le → ycp, lt_iff_toNat_lt → ycs
open UInt8 renaming toNat → ybi, ofNat → ybk
set_option linter.unusedVariables false
set_option linter.unusedSimpArgs false
section
set_option maxRecDepth 4000
namespace Go.Proofs.YtekdgjajmennjaaGreat
open Go Go.Ev
section
variable{y1 y0 u d q r:Nat}
theorem ZNj(h:q*y1+r=u)(hc:4294967296*r+d < q*y0):u*4294967296+d < q*(y1*4294967296+y0):=by
 have e:q*(y1*4294967296+y0)=q*y1*4294967296+q*y0:=by rw[Nat.mul_add,Nat.mul_assoc]
 rw[e];omega
theorem ZIn(h:q*y1+r=u)(hc:q*y0≤4294967296*r+d):q*(y1*4294967296+y0)≤u*4294967296+d:=by
 have e:q*(y1*4294967296+y0)=q*y1*4294967296+q*y0:=by rw[Nat.mul_add,Nat.mul_assoc]
 rw[e];omega
theorem ZMl(hu:u < y1*4294967296+y0)(hd:d < 4294967296):(u*4294967296+d) / (y1*4294967296+y0) < 4294967296:=by
 rw[Nat.div_lt_iff_lt_mul (by omega)];omega
theorem ZEJ(h:q*y1+r=u)(hq:1≤q):(q - 1)*y1+(r+y1)=u:=by
 have e:q*y1=(q - 1)*y1+y1:=by
  rw[←Nat.succ_mul];congr 1;omega
 omega
theorem ZIo(hu:u < y1*4294967296+y0)(h0:y0 < 4294967296)(h:q*y1+r=u)(hr:4294967296≤r):q*y0≤4294967296*r+d:=by
 by_cases hq:q < 4294967296
 ·have:q*y0≤4294967295*4294967295:=Nat.mul_le_mul (by omega) (by omega);omega
 ·have:4294967296*y1≤q*y1:=ycb _ (by omega);omega
end
theorem ZDi{q T Y:Nat}(hY:0 < Y)(h1:T / Y≤q)(h2:q*Y≤T):q=T / Y:=Nat.le_antisymm ((Nat.le_div_iff_mul_le hY).2 h2) h1
theorem ZBf{y1 y0 u d:Nat}{Q R Y0 Y1 D:UInt64}(hY1:Y1.toNat=y1)(hY0:Y0.toNat=y0)(hD:D.toNat=d)(h1:y1 < 4294967296)(h0:y0 < 4294967296)(hd:d < 4294967296)(hu:u < y1*4294967296+y0)
 (e:Q.toNat*y1+R.toNat=u) (hr:R.toNat < 4294967296) (hge:(u*4294967296+d) / (y1*4294967296+y0)≤Q.toNat):
 ((Q ≥ 4294967296∨(Q*Y0 > (4294967296*R)+D))∧(u*4294967296+d) / (y1*4294967296+y0)≤(Q - 1).toNat∧(Q - 1).toNat*y1+(R+Y1).toNat=u∧(R+Y1).toNat=R.toNat+y1)∨
 (¬Q ≥ 4294967296∧¬(Q*Y0 > (4294967296*R)+D)∧Q.toNat=(u*4294967296+d) / (y1*4294967296+y0)):=by
 have hadd:(R+Y1).toNat=R.toNat+y1:=by rw[Zkr (by omega),hY1]
 have hrd:((4294967296*R)+D).toNat=4294967296*R.toNat+d:=by
  have m:(4294967296*R:UInt64).toNat=4294967296*R.toNat:=by
   rw[Zks (by show 4294967296*R.toNat < _;omega)];rfl
  rw[Zkr (by rw[m];omega),m,hD]
 have dec:1≤Q.toNat→(Q - 1).toNat=Q.toNat - 1:=λh=>by
  rw[UInt64.toNat_sub_of_le _ _ (by rw[ycp];exact h)];rfl
 by_cases c1:Q ≥ 4294967296
 ·left
  have hq:4294967296≤Q.toNat:=by
   rw[ge_iff_le,ycp] at c1;exact c1
  have:=ZMl hu hd;refine⟨.inl c1,by rw[dec (by omega)];omega, ?_,hadd⟩;rw[dec (by omega),hadd];exact ZEJ e (by omega)
 have hq:Q.toNat < 4294967296:=by
  rw[ge_iff_le,ycp] at c1;exact Nat.lt_of_not_le c1
 have hmul:(Q*Y0).toNat=Q.toNat*y0:=by
  have:=Zi4 hq h0;rw[Zks (by rw[hY0];omega),hY0]
 by_cases c2:Q*Y0 > (4294967296*R)+D
 ·left
  have c3:4294967296*R.toNat+d < Q.toNat*y0:=by
   have:=ycs.1 c2;rw[hmul,hrd] at this;exact this
  have q1:1≤Q.toNat:=by
   rcases ybt Q.toNat with h|h
   ·rw[h,Nat.zero_mul] at c3;omega
   ·exact h
  have hg:=ZNj (d:=d) e c3;have hlt:(u*4294967296+d) / (y1*4294967296+y0) < Q.toNat:=(Nat.div_lt_iff_lt_mul (by omega)).2 hg;refine⟨.inr c2,by rw[dec q1];omega, ?_,hadd⟩;rw[dec q1,hadd];exact ZEJ e q1
 ·right
  have c3:Q.toNat*y0≤4294967296*R.toNat+d:=by
   have:¬(((4294967296*R)+D).toNat < (Q*Y0).toNat):=λh=>c2 (ycs.2 h);rw[hmul,hrd] at this;omega
  exact⟨c1,c2,ZDi (by omega) hge (ZIn e c3)⟩
theorem ZNk{y1 y0 u d:Nat}{Yv N Y1 Y0 U D E Q R:UInt64}(hY1:Y1.toNat=y1)(hY0:Y0.toNat=y0)(hD:D.toNat=d)(h1:y1 < 4294967296)(h3:0 < y1)(h0:y0 < 4294967296)(hd:d < 4294967296)(hu:u < y1*4294967296+y0)
 (e:Q.toNat*y1+R.toNat=u) (hr:R.toNat < 4294967296) (hge:(u*4294967296+d) / (y1*4294967296+y0)≤Q.toNat):
 ∃q:UInt64,Zd (W1 fuel) fuel (Yv,N,Y1,Y0,U,D,E,Q,R)=some (Yv,N,Y1,Y0,U,D,E,q)∧q.toNat=(u*4294967296+d) / (y1*4294967296+y0):=by
 obtain⟨x,hx,q,rfl,hq⟩:=Xv (step:=W1 fuel) (λs=>∃Q R:UInt64,s=(Yv,N,Y1,Y0,U,D,E,Q,R)∧Q.toNat*y1+R.toNat=u∧R.toNat < 4294967296∧(u*4294967296+d) / (y1*4294967296+y0)≤Q.toNat)
  (λs=>4294967296 - s.2.2.2.2.2.2.2.2.toNat) (λx=>∃q:UInt64,x=(Yv,N,Y1,Y0,U,D,E,q)∧q.toNat=(u*4294967296+d) / (y1*4294967296+y0)) (by
  rintro _ ⟨Q,R,rfl,e,hr,hge⟩;unfold W1;dsimp only;rcases ZBf hY1 hY0 hD h1 h0 hd hu e hr hge with⟨c,k1,k2,k3⟩|⟨c1,c2,k⟩
  ·have key:(∃j,(if decide (R+Y1 ≥ 4294967296)=true then some (Sum.inr (Yv,N,Y1,Y0,U,D,E,Q - 1)) else some (Sum.inl (Yv,N,Y1,Y0,U,D,E,Q - 1,R+Y1)):Option ((UInt64×UInt64×UInt64×UInt64×UInt64×UInt64×UInt64×UInt64×UInt64)⊕(UInt64×UInt64×UInt64×UInt64×UInt64×UInt64×UInt64×UInt64)))=some (.inl j)∧
    (∃Q R:UInt64,j=(Yv,N,Y1,Y0,U,D,E,Q,R)∧Q.toNat*y1+R.toNat=u∧R.toNat < 4294967296∧(u*4294967296+d) / (y1*4294967296+y0)≤Q.toNat)∧4294967296 - j.2.2.2.2.2.2.2.2.toNat < 4294967296 - R.toNat)∨
    (∃x,(if decide (R+Y1 ≥ 4294967296)=true then some (Sum.inr (Yv,N,Y1,Y0,U,D,E,Q - 1)) else some (Sum.inl (Yv,N,Y1,Y0,U,D,E,Q - 1,R+Y1)):Option ((UInt64×UInt64×UInt64×UInt64×UInt64×UInt64×UInt64×UInt64×UInt64)⊕(UInt64×UInt64×UInt64×UInt64×UInt64×UInt64×UInt64×UInt64)))=some (.inr x)∧
    ∃q:UInt64,x=(Yv,N,Y1,Y0,U,D,E,q)∧q.toNat=(u*4294967296+d) / (y1*4294967296+y0)):=by
    by_cases hb:R+Y1 ≥ 4294967296
    ·right;rw[if_pos (decide_eq_true hb)]
     have hb2:4294967296≤(R+Y1).toNat:=by
      rw[ge_iff_le,ycp] at hb;exact hb
     exact⟨_,rfl,_,rfl,ZDi (by omega) k1 (ZIn k2 (ZIo hu h0 k2 hb2))⟩
    ·left;rw[if_neg (by rw[decide_eq_true_iff];exact hb)]
     have hb2:(R+Y1).toNat < 4294967296:=by
      rw[ge_iff_le,ycp] at hb;exact Nat.lt_of_not_le hb
     exact⟨_,rfl,⟨_,_,rfl,k2,hb2,k1⟩,by dsimp only;omega⟩
   rcases c with c|c
   ·rw[if_pos (decide_eq_true c)];exact key
   ·by_cases c1:Q ≥ 4294967296
    ·rw[if_pos (decide_eq_true c1)];exact key
    ·rw[if_neg (by rw[decide_eq_true_iff];exact c1),if_pos (decide_eq_true c)];exact key
  ·right;rw[if_neg (by rw[decide_eq_true_iff];exact c1),if_neg (by rw[decide_eq_true_iff];exact c2)];exact⟨_,rfl,_,rfl,k⟩) (Yv,N,Y1,Y0,U,D,E,Q,R) ⟨Q,R,rfl,e,hr,hge⟩ (by dsimp only;omega)
 exact⟨q,hx,hq⟩
theorem ZNl{y1 y0 u d:Nat}{Yv N Y1 Y0 U D E Q R:UInt64}(hY1:Y1.toNat=y1)(hY0:Y0.toNat=y0)(hD:D.toNat=d)(h1:y1 < 4294967296)(h3:0 < y1)(h0:y0 < 4294967296)(hd:d < 4294967296)(hu:u < y1*4294967296+y0)
 (e:Q.toNat*y1+R.toNat=u) (hr:R.toNat < 4294967296) (hge:(u*4294967296+d) / (y1*4294967296+y0)≤Q.toNat):
 ∃q:UInt64,Zd (W2 fuel) fuel (Yv,N,Y1,Y0,D,E,R,U,Q)=some (Yv,N,D,E,U,q)∧q.toNat=(u*4294967296+d) / (y1*4294967296+y0):=by
 obtain⟨x,hx,q,rfl,hq⟩:=Xv (step:=W2 fuel) (λs=>∃Q R:UInt64,s=(Yv,N,Y1,Y0,D,E,R,U,Q)∧Q.toNat*y1+R.toNat=u∧R.toNat < 4294967296∧(u*4294967296+d) / (y1*4294967296+y0)≤Q.toNat)
  (λs=>4294967296 - s.2.2.2.2.2.2.1.toNat) (λx=>∃q:UInt64,x=(Yv,N,D,E,U,q)∧q.toNat=(u*4294967296+d) / (y1*4294967296+y0)) (by
  rintro _ ⟨Q,R,rfl,e,hr,hge⟩;unfold W2;dsimp only;rcases ZBf hY1 hY0 hD h1 h0 hd hu e hr hge with⟨c,k1,k2,k3⟩|⟨c1,c2,k⟩
  ·have key:(∃j,(if decide (R+Y1 ≥ 4294967296)=true then some (Sum.inr (Yv,N,D,E,U,Q - 1)) else some (Sum.inl (Yv,N,Y1,Y0,D,E,R+Y1,U,Q - 1)):Option ((UInt64×UInt64×UInt64×UInt64×UInt64×UInt64×UInt64×UInt64×UInt64)⊕(UInt64×UInt64×UInt64×UInt64×UInt64×UInt64)))=some (.inl j)∧
    (∃Q R:UInt64,j=(Yv,N,Y1,Y0,D,E,R,U,Q)∧Q.toNat*y1+R.toNat=u∧R.toNat < 4294967296∧(u*4294967296+d) / (y1*4294967296+y0)≤Q.toNat)∧4294967296 - j.2.2.2.2.2.2.1.toNat < 4294967296 - R.toNat)∨
    (∃x,(if decide (R+Y1 ≥ 4294967296)=true then some (Sum.inr (Yv,N,D,E,U,Q - 1)) else some (Sum.inl (Yv,N,Y1,Y0,D,E,R+Y1,U,Q - 1)):Option ((UInt64×UInt64×UInt64×UInt64×UInt64×UInt64×UInt64×UInt64×UInt64)⊕(UInt64×UInt64×UInt64×UInt64×UInt64×UInt64)))=some (.inr x)∧
    ∃q:UInt64,x=(Yv,N,D,E,U,q)∧q.toNat=(u*4294967296+d) / (y1*4294967296+y0)):=by
    by_cases hb:R+Y1 ≥ 4294967296
    ·right;rw[if_pos (decide_eq_true hb)]
     have hb2:4294967296≤(R+Y1).toNat:=by
      rw[ge_iff_le,ycp] at hb;exact hb
     exact⟨_,rfl,_,rfl,ZDi (by omega) k1 (ZIn k2 (ZIo hu h0 k2 hb2))⟩
    ·left;rw[if_neg (by rw[decide_eq_true_iff];exact hb)]
     have hb2:(R+Y1).toNat < 4294967296:=by
      rw[ge_iff_le,ycp] at hb;exact Nat.lt_of_not_le hb
     exact⟨_,rfl,⟨_,_,rfl,k2,hb2,k1⟩,by dsimp only;omega⟩
   rcases c with c|c
   ·rw[if_pos (decide_eq_true c)];exact key
   ·by_cases c1:Q ≥ 4294967296
    ·rw[if_pos (decide_eq_true c1)];exact key
    ·rw[if_neg (by rw[decide_eq_true_iff];exact c1),if_pos (decide_eq_true c)];exact key
  ·right;rw[if_neg (by rw[decide_eq_true_iff];exact c1),if_neg (by rw[decide_eq_true_iff];exact c2)];exact⟨_,rfl,_,rfl,k⟩) (Yv,N,Y1,Y0,D,E,R,U,Q) ⟨Q,R,rfl,e,hr,hge⟩ (by dsimp only;omega)
 exact⟨q,hx,hq⟩
theorem ZEK{A B:UInt64}{a b:Nat}(hA:A.toNat=a % 18446744073709551616)(hB:B.toNat=b % 18446744073709551616)(h:b≤a)(hd:a - b < 18446744073709551616):(A - B).toNat=a - b:=by
 rw[UInt64.toNat_sub,hA,hB];omega
theorem Zqq(u y1:Nat):u / y1*y1+u % y1=u:=by
 have:=Nat.div_add_mod u y1;rw[ybs] at this;exact this
theorem ZIp{u y1 y0 d:Nat}(h1:0 < y1)(hd:d < 4294967296):(u*4294967296+d) / (y1*4294967296+y0)≤u / y1:=by
 have h:(u*4294967296+d) / (y1*4294967296+y0)≤(u*4294967296+d) / (y1*4294967296):=Nat.div_le_div_left (by omega) (by omega)
 have e:(u*4294967296+d) / (y1*4294967296)=u / y1:=by
  rw[ybs y1, ←Nat.div_div_eq_div_mul];congr 1;omega
 omega
theorem ZIq{a b y:UInt64}{s:Nat}{Y:UInt64}(hy:y≠0)(hs:Yf fuel y=some (s:Int))(s0:0 < s)(s1:s < 64)(hY:Vz y s=Y)(hYn:Y.toNat=y.toNat*2 ^ s)(hY63:9223372036854775808≤Y.toNat)(ha:a.toNat < y.toNat):
 ∃q r,ZeW fuel a b y=some (q,r)∧r.toNat=(a.toNat*18446744073709551616+b.toNat) % y.toNat:=by
 have ha2:¬(y≤a):=by
  rw[ycp];omega
 unfold ZeW;rw[if_neg (by rw[beq_iff_eq];exact hy),if_neg (by rw[decide_eq_true_iff];exact ha2)];by_cases h0:a=0
 ·subst h0;rw[if_pos (by decide),if_pos (by rw[bne_iff_ne];exact hy),if_pos (by rw[bne_iff_ne];exact hy)];refine⟨_,_,rfl, ?_⟩;rw[UInt64.toNat_mod];simp
 rw[if_neg (by rw[beq_iff_eq];exact h0),hs,yf];dsimp only
 have w:w64 (s:Int)=yal s:=by
  unfold w64;congr 1;omega
 have ws:(w64 (s:Int)).toNat=s:=by rw[w,ybo,yaq (by omega)]
 have e1:min ((w64 (s:Int)).toNat:Int).toNat 64=s:=by rw[ws];omega
 have e2:(64 - w64 (s:Int)).toNat=64 - s:=by
  rw[UInt64.toNat_sub_of_le _ _ (by rw[ycp,ws];show s≤64;omega),ws];rfl
 have e3:min ((64 - w64 (s:Int)).toNat:Int).toNat 64=64 - s:=by rw[e2];omega
 rw[e1,e3,hY];have hYl:=yca Y;have hb:=yca b
 have p64:2 ^ (64 - s)*2 ^ s=18446744073709551616:=by
  rw[←Nat.pow_add];have:64 - s+s=64:=by omega
  rw[this]
 have hp:0 < 2 ^ s:=Nat.pow_pos (by decide);obtain⟨y1,hy1⟩:∃y1,y1=Y.toNat / 4294967296:=⟨_,rfl⟩;obtain⟨y0,hy0⟩:∃y0,y0=Y.toNat % 4294967296:=⟨_,rfl⟩;have hYd:Y.toNat=y1*4294967296+y0:=by omega
 have ty1:(ZC Y 32).toNat=y1:=by rw[V8,hy1]
 have ty0:(Y&&&4294967295).toNat=y0:=by rw[Zi3,hy0]
 have l1:y1 < 4294967296:=by omega
 have g1:2147483648≤y1:=by omega
 have l0:y0 < 4294967296:=by omega
 have hash:a.toNat*2 ^ s < Y.toNat:=by rw[hYn];exact Nat.mul_lt_mul_of_pos_right ha hp
 have bd:b.toNat / 2 ^ (64 - s) < 2 ^ s:=by
  rw[Nat.div_lt_iff_lt_mul (Nat.pow_pos (by decide)),ybs,p64];exact hb
 have tu:((Vz a s)|||(ZC b (64 - s))).toNat=a.toNat*2 ^ s+b.toNat / 2 ^ (64 - s):=by
  rw[UInt64.toNat_or,V8];unfold Vz;rw[ybo,yaq (by omega),ybs, ←Nat.two_pow_add_eq_or_of_lt bd]
 have t10:(Vz b s).toNat=b.toNat*2 ^ s % 18446744073709551616:=by
  unfold Vz;rw[ybo]
 obtain⟨u,hu⟩:∃u,u=a.toNat*2 ^ s+b.toNat / 2 ^ (64 - s):=⟨_,rfl⟩;obtain⟨v,hv⟩:∃v,v=b.toNat*2 ^ s % 18446744073709551616:=⟨_,rfl⟩;rw[←hu] at tu;rw[←hv] at t10
 have hbs:b.toNat*2 ^ s=b.toNat / 2 ^ (64 - s)*18446744073709551616+v:=by
  have h1:=Nat.div_add_mod (b.toNat*2 ^ s) 18446744073709551616
  have h2:b.toNat*2 ^ s / 18446744073709551616=b.toNat / 2 ^ (64 - s):=by
   rw[←p64];exact Nat.mul_div_mul_right _ _ hp
  rw[h2, ←hv] at h1;omega
 have hN:(a.toNat*18446744073709551616+b.toNat)*2 ^ s=u*18446744073709551616+v:=by
  rw[yat,hbs,hu,Nat.mul_right_comm];omega
 have uY:u < y1*4294967296+y0:=by
  rw[←hYd,hu,hYn];have h1:(a.toNat+1)*2 ^ s≤y.toNat*2 ^ s:=ycb _ ha;rw[yat,Nat.one_mul] at h1;omega
 have hvl:v < 18446744073709551616:=by rw[hv];exact Nat.mod_lt _ (by decide)
 obtain⟨d1,hd1⟩:∃d1,d1=v / 4294967296:=⟨_,rfl⟩;obtain⟨d0,hd0⟩:∃d0,d0=v % 4294967296:=⟨_,rfl⟩;have td1:(ZC (Vz b s) 32).toNat=d1:=by rw[V8,t10,hd1]
 have td0:((Vz b s)&&&4294967295).toNat=d0:=by rw[Zi3,t10,hd0]
 generalize ((Vz a s)|||(ZC b (64 - s)):UInt64)=U at tu ⊢;generalize (ZC (Vz b s) 32:UInt64)=D1 at td1 ⊢;generalize ((Vz b s)&&&4294967295:UInt64)=D0 at td0 ⊢;generalize (ZC Y 32:UInt64)=Y1 at ty1 ⊢;generalize (Y&&&4294967295:UInt64)=Y0 at ty0 ⊢
 have y1ne:(Y1 !=0)=true:=by
  rw[bne_iff_ne];intro h;rw[h] at ty1;have:(0:UInt64).toNat=0:=rfl;omega
 rw[if_pos y1ne]
 have f1:(U / Y1).toNat*y1+(U - U / Y1*Y1).toNat=u:=by
  rw[Zr0,UInt64.toNat_div,tu,ty1];exact Zqq u y1
 have f2:(U - U / Y1*Y1).toNat < 4294967296:=by
  rw[Zr0,tu,ty1];exact Nat.lt_trans (Nat.mod_lt _ (by omega)) l1
 have f3:(u*4294967296+d1) / (y1*4294967296+y0)≤(U / Y1).toNat:=by
  rw[UInt64.toNat_div,tu,ty1];exact ZIp (by omega) (by omega)
 obtain⟨q1,k1,k2⟩:=ZNk (Yv:=Y) (N:=w64 (s:Int)) (U:=U) (E:=D0) ty1 ty0 td1 l1 (by omega) l0 (by omega) uY f1 f2 f3;rw[k1,yf];dsimp only;rw[if_pos y1ne];have m1:=Nat.div_add_mod (u*4294967296+d1) Y.toNat
 have m2:(u*4294967296+d1) % Y.toNat < Y.toNat:=Nat.mod_lt _ (by omega);rw[←hYd] at k2
 have tv:(((U*4294967296)+D1) - (q1*Y)).toNat=(u*4294967296+d1) % Y.toNat:=by
  rw[ZEK (a:=u*4294967296+d1) (b:=q1.toNat*Y.toNat) ?_ ?_ ?_ ?_]
  ·rw[k2,ybs ((u*4294967296+d1) / Y.toNat)];omega
  ·rw[UInt64.toNat_add,UInt64.toNat_mul,tu,td1,show(4294967296:UInt64).toNat=4294967296 from rfl]
   omega
  ·rw[UInt64.toNat_mul]
  ·rw[k2,ybs ((u*4294967296+d1) / Y.toNat)];omega
  ·rw[k2,ybs ((u*4294967296+d1) / Y.toNat)];omega
 obtain⟨u2,hu2⟩:∃u2,u2=(u*4294967296+d1) % Y.toNat:=⟨_,rfl⟩;rw[←hu2] at tv m2 m1;generalize (((U*4294967296)+D1) - (q1*Y):UInt64)=V at tv ⊢
 have f4:(V / Y1).toNat*y1+(V - V / Y1*Y1).toNat=u2:=by
  rw[Zr0,UInt64.toNat_div,tv,ty1];exact Zqq u2 y1
 have f5:(V - V / Y1*Y1).toNat < 4294967296:=by
  rw[Zr0,tv,ty1];exact Nat.lt_trans (Nat.mod_lt _ (by omega)) l1
 have f6:(u2*4294967296+d0) / (y1*4294967296+y0)≤(V / Y1).toNat:=by
  rw[UInt64.toNat_div,tv,ty1];exact ZIp (by omega) (by omega)
 obtain⟨q0,k3,k4⟩:=ZNl (Yv:=Y) (N:=w64 (s:Int)) (U:=V) (E:=q1) ty1 ty0 td0 l1 (by omega) l0 (by omega) (by rw[←hYd];exact m2) f4 f5 f6;rw[k3,yf];refine⟨_,_,rfl, ?_⟩;dsimp only;rw[e1,V8];rw[←hYd] at k4;have m3:=Nat.div_add_mod (u2*4294967296+d0) Y.toNat
 have m4:(u2*4294967296+d0) % Y.toNat < Y.toNat:=Nat.mod_lt _ (by omega)
 have tr:(((V*4294967296)+D0) - (q0*Y)).toNat=(u2*4294967296+d0) % Y.toNat:=by
  rw[ZEK (a:=u2*4294967296+d0) (b:=q0.toNat*Y.toNat) ?_ ?_ ?_ ?_]
  ·rw[k4,ybs ((u2*4294967296+d0) / Y.toNat)];omega
  ·rw[UInt64.toNat_add,UInt64.toNat_mul,tv,td0,show(4294967296:UInt64).toNat=4294967296 from rfl]
   omega
  ·rw[UInt64.toNat_mul]
  ·rw[k4,ybs ((u2*4294967296+d0) / Y.toNat)];omega
  ·rw[k4,ybs ((u2*4294967296+d0) / Y.toNat)];omega
 rw[tr]
 have hNm:((a.toNat*18446744073709551616+b.toNat)*2 ^ s) % Y.toNat=(u2*4294967296+d0) % Y.toNat:=by
  have e:(a.toNat*18446744073709551616+b.toNat)*2 ^ s=u2*4294967296+d0+Y.toNat*((u*4294967296+d1) / Y.toNat*4294967296):=by
   rw[hN, ←Nat.mul_assoc];omega
  rw[e,Nat.add_mul_mod_self_left]
 rw[←hNm,hYn,Nat.mul_mod_mul_right,Nat.mul_div_cancel _ hp]
theorem ZyG{y Y:UInt64}{s:Nat}(a b:UInt64)(hy:y≠0)(hs:Yf fuel y=some (s:Int))(s0:0 < s)(s1:s < 64)(hY:Vz y s=Y)(hYn:Y.toNat=y.toNat*2 ^ s)(hY63:9223372036854775808≤Y.toNat):
 QW fuel a b y=some (yal ((a.toNat*18446744073709551616+b.toNat) % y.toNat)):=by
 have hp:0 < y.toNat:=by
  rcases ybt y.toNat with h|h
  ·exact absurd (yck.1 h) hy
  ·exact h
 obtain⟨q,r,h1,h2⟩:=ZIq (a:=a % y) (b:=b) hy hs s0 s1 hY hYn hY63 (by rw[UInt64.toNat_mod];exact Nat.mod_lt _ hp);unfold QW;rw[if_pos (by rw[bne_iff_ne];exact hy),h1,yf];dsimp only;rw[UInt64.toNat_mod,Nat.add_mod,Nat.mod_mul_mod, ←Nat.add_mod] at h2;rw[←h2,UInt64.ofNat_toNat]
theorem ZMm:Yf fuel 4611686018427377339=some ((2:Nat):Int):=by kernel_rfl
theorem ZMn:Yf fuel 2305843009213688669=some ((3:Nat):Int):=by kernel_rfl
theorem ZMo:Yf fuel 2305843009213688668=some ((3:Nat):Int):=by kernel_rfl
noncomputable def XD(F:Nat)(a0:UInt64)(a1:UInt64)(a2:UInt64):Option UInt64:=
 if(a2==4611686018427377339 || (a2==2305843009213688669 || a2==2305843009213688668))=true then some (yal ((a0.toNat*18446744073709551616+a1.toNat) % a2.toNat)) else QW F a0 a1 a2
theorem ZIr(a b y:UInt64):QW fuel a b y=XD fuel a b y:=by
 unfold XD;split
 ·rename_i h;simp only[Bool.or_eq_true,beq_iff_eq] at h;rcases h with rfl|rfl|rfl
  ·exact ZyG (Y:=18446744073709509356) (s:=2) a b (by decide) ZMm (by decide) (by decide) (by kernel_rfl) (by decide) (by decide)
  ·exact ZyG (Y:=18446744073709509352) (s:=3) a b (by decide) ZMn (by decide) (by decide) (by kernel_rfl) (by decide) (by decide)
  ·exact ZyG (Y:=18446744073709509344) (s:=3) a b (by decide) ZMo (by decide) (by decide) (by kernel_rfl) (by decide) (by decide)
 ·rfl
noncomputable def Zvn(F:Nat):Fs ya:={ ZdF F with M:=λx=>XD F x.1 x.2.1 x.2.2}
noncomputable def ZcK:Fs ya:=Zvn fuel
theorem ZfA:ZcK.Ok:=ZyE (s:=ZdF fuel) ZtD λx=>(ZIr x.1 x.2.1 x.2.2).symm
end Go.Proofs.YtekdgjajmennjaaGreat
end
section
set_option maxRecDepth 4000
namespace Go.Proofs.YtekdgjajmennjaaGreat
open Go Go.Ev
noncomputable section
def ZcL(F:Nat)(a0:UInt64)(a1:UInt64):Option ((UInt64×UInt64)):=
 let y35:UInt64:=ZC ((a0&&&4294967295)*(a1&&&4294967295)) 32;let y36:UInt64:=(((ZC a0 32)*(a1&&&4294967295))+y35)&&&4294967295;let y37:UInt64:=ZC (((ZC a0 32)*(a1&&&4294967295))+y35) 32;let y38:UInt64:=ZC (y36+((a0&&&4294967295)*(ZC a1 32))) 32
 some ((((ZC a0 32)*(ZC a1 32))+y37)+y38,a0*a1)
def ZdG(F:Nat):Fs ya:=⟨247,[.v .u64,.v .u64],[],[.u64,.u64],[⟨.ret,[(0,.tup [.v .u64,.v .u64])],[],[.u64,.u64]⟩],λx=>ZcL F x.1 x.2⟩
def Zvo:Fs ya:=ZdG fuel
theorem ZtE:Zvo.Ok:=fnO { still:=[4,5]} [] [] trivial
end
end Go.Proofs.YtekdgjajmennjaaGreat
end
section
set_option maxRecDepth 4000
namespace Go.Proofs.YtekdgjajmennjaaGreat
open Go Go.Ev
theorem ZIs(x y:UInt64):∃h l,ZcL fuel x y=some (h,l)∧h.toNat*18446744073709551616+l.toNat=x.toNat*y.toNat:=by
 unfold ZcL;refine⟨_,_,rfl, ?_⟩;have hx:=yca x;have hy:=yca y;have x0l:x.toNat % 4294967296 < 4294967296:=Nat.mod_lt _ (by decide);have y0l:y.toNat % 4294967296 < 4294967296:=Nat.mod_lt _ (by decide);have x1l:x.toNat / 4294967296 < 4294967296:=by omega
 have y1l:y.toNat / 4294967296 < 4294967296:=by omega
 have xe:x.toNat=x.toNat / 4294967296*4294967296+x.toNat % 4294967296:=by omega
 have ye:y.toNat=y.toNat / 4294967296*4294967296+y.toNat % 4294967296:=by omega
 generalize hX1:x.toNat / 4294967296=x1 at*;generalize hX0:x.toNat % 4294967296=x0 at*;generalize hY1:y.toNat / 4294967296=y1 at*;generalize hY0:y.toNat % 4294967296=y0 at*;have p00:=Zi4 x0l y0l;have p10:=Zi4 x1l y0l;have p01:=Zi4 x0l y1l;have p11:=Zi4 x1l y1l
 have prod:x.toNat*y.toNat=x1*y1*18446744073709551616+(x1*y0+x0*y1)*4294967296+x0*y0:=by
  rw[xe,ye,yat,Nat.mul_add,Nat.mul_add]
  have e1:x1*4294967296*(y1*4294967296)=x1*y1*18446744073709551616:=by
   rw[Nat.mul_assoc,Nat.mul_left_comm 4294967296 y1, ←Nat.mul_assoc]
  have e2:x1*4294967296*y0=x1*y0*4294967296:=by rw[Nat.mul_right_comm]
  have e3:x0*(y1*4294967296)=x0*y1*4294967296:=by rw[Nat.mul_assoc]
  rw[e1,e2,e3];omega
 have q00:((x&&&4294967295)*(y&&&4294967295)).toNat=x0*y0:=by
  rw[Zks (by rw[Zi3,Zi3,hX0,hY0];omega),Zi3,Zi3,hX0,hY0]
 have q10:((ZC x 32)*(y&&&4294967295)).toNat=x1*y0:=by
  rw[Zks (by rw[V8,Zi3,show(2:Nat) ^ 32=4294967296 from rfl,hX1,hY0];omega),V8,Zi3,show(2:Nat) ^ 32=4294967296 from rfl,hX1,hY0]
 have q01:((x&&&4294967295)*(ZC y 32)).toNat=x0*y1:=by
  rw[Zks (by rw[V8,Zi3,show(2:Nat) ^ 32=4294967296 from rfl,hX0,hY1];omega),V8,Zi3,show(2:Nat) ^ 32=4294967296 from rfl,hX0,hY1]
 have q11:((ZC x 32)*(ZC y 32)).toNat=x1*y1:=by
  rw[Zks (by rw[V8,V8,show(2:Nat) ^ 32=4294967296 from rfl,hX1,hY1];omega),V8,V8,show(2:Nat) ^ 32=4294967296 from rfl,hX1,hY1]
 generalize hA:((x&&&4294967295)*(y&&&4294967295):UInt64)=A at*;generalize hB:((ZC x 32)*(y&&&4294967295):UInt64)=B at*;generalize hC:((x&&&4294967295)*(ZC y 32):UInt64)=C at*;generalize hD:((ZC x 32)*(ZC y 32):UInt64)=D at*;have s1:(ZC A 32).toNat=x0*y0 / 4294967296:=by rw[V8,q00]
 have s2:(B+ZC A 32).toNat=x1*y0+x0*y0 / 4294967296:=by rw[Zkr (by rw[q10,s1];omega),q10,s1]
 have s3:((B+ZC A 32)&&&4294967295).toNat=(x1*y0+x0*y0 / 4294967296) % 4294967296:=by rw[Zi3,s2]
 have s4:(ZC (B+ZC A 32) 32).toNat=(x1*y0+x0*y0 / 4294967296) / 4294967296:=by rw[V8,s2]
 have s5:(((B+ZC A 32)&&&4294967295)+C).toNat=(x1*y0+x0*y0 / 4294967296) % 4294967296+x0*y1:=by rw[Zkr (by rw[s3,q01];omega),s3,q01]
 have s6:(ZC (((B+ZC A 32)&&&4294967295)+C) 32).toNat=((x1*y0+x0*y0 / 4294967296) % 4294967296+x0*y1) / 4294967296:=by rw[V8,s5]
 have s7:(D+ZC (B+ZC A 32) 32).toNat=x1*y1+(x1*y0+x0*y0 / 4294967296) / 4294967296:=by rw[Zkr (by rw[q11,s4];omega),q11,s4]
 have s8:(x*y).toNat=x.toNat*y.toNat % 18446744073709551616:=UInt64.toNat_mul ..
 have s9:((D+ZC (B+ZC A 32) 32)+ZC (((B+ZC A 32)&&&4294967295)+C) 32).toNat=x1*y1+(x1*y0+x0*y0 / 4294967296) / 4294967296+((x1*y0+x0*y0 / 4294967296) % 4294967296+x0*y1) / 4294967296:=by
  rw[Zkr (by rw[s7,s6];omega),s7,s6]
 rw[s9,s8,prod];generalize x0*y0=a at*;generalize x1*y0=b at*;generalize x0*y1=c at*;generalize x1*y1=d at*;omega
theorem ZIt(x y:UInt64):ZcL fuel x y=some (yal (x.toNat*y.toNat / 18446744073709551616),yal (x.toNat*y.toNat % 18446744073709551616)):=by
 obtain⟨h,l,e,k⟩:=ZIs x y;have hl:=yca l;rw[e, ←k,show(h.toNat*18446744073709551616+l.toNat) / 18446744073709551616=h.toNat by omega,show(h.toNat*18446744073709551616+l.toNat) % 18446744073709551616=l.toNat by omega,UInt64.ofNat_toNat,UInt64.ofNat_toNat]
noncomputable def ZbJ(F:Nat)(a0:UInt64)(a1:UInt64):Option (UInt64×UInt64):=some (yal (a0.toNat*a1.toNat / 18446744073709551616),yal (a0.toNat*a1.toNat % 18446744073709551616))
noncomputable def Zvp(F:Nat):Fs ya:={ ZdG F with M:=λx=>ZbJ F x.1 x.2}
noncomputable def Zg2:Fs ya:=Zvp fuel
theorem Zk6:Zg2.Ok:=ZyE (s:=ZdG fuel) ZtE λx=>(ZIt x.1 x.2).symm
end Go.Proofs.YtekdgjajmennjaaGreat
end
section
set_option maxRecDepth 4000
namespace Go.Proofs.YtekdgjajmennjaaGreat
open Go Go.Ev
noncomputable section
def Z8(F:Nat)(a0:UInt64)(a1:UInt64):Option (UInt64):=
 (ZbJ F a0 a1).bind λo39=>
 (XD F o39.1 o39.2 4611686018427377339).bind λo40=>
 some o40
def ZtF(F:Nat):Fs ya:=⟨223,[.v .u64,.v .u64],[],[.u64,.u64],[⟨.ret,[(0,.v .u64)],[],[.u64]⟩],λx=>Z8 F x.1 x.2⟩
def ZfB:Fs ya:=ZtF fuel
theorem Zi5:ZfB.Ok:=fnO { still:=[4,8,9,13,14]} [] [Zg2,ZcK] ⟨Zk6,ZfA,ytt⟩
def XV(F:Nat)(s:(UInt64×UInt64×UInt64)):Option ((UInt64×UInt64×UInt64)⊕UInt64):=
 if(decide (s.2.1 > 0))=true then
  if((s.2.1&&&1)==1)=true then
   (Z8 F s.2.2 s.1).bind λo41=>
   (Z8 F s.1 s.1).bind λo42=>
   some (.inl (o42,ZC s.2.1 1,o41))
  else
  (Z8 F s.1 s.1).bind λo43=>
  some (.inl (o43,ZC s.2.1 1,s.2.2))
 else
 some (.inr s.2.2)
def ZhJ:Lp:=⟨[(0,.v .u64),(1,.v .u64),(5,.v .u64)],[],[.u64,.u64,.u64],[⟨.exit 0,[(5,.v .u64)],[],[.u64]⟩],Zd (XV fuel) fuel⟩
theorem Zl6:ZhJ.okA ya 170 0:=Zq { still:=[4,13,14,16,17]} [] [ZfB] ⟨Zi5,ytt⟩
def ZfC(F:Nat)(a0:UInt64)(a1:UInt64):Option (UInt64):=
 (Zd (XV F) F (a0,a1,1)).bind λo44=>
 some o44
def Zb2(F:Nat):Fs ya:=⟨170,[.v .u64,.v .u64],[],[.u64,.u64],[⟨.ret,[(0,.v .u64)],[],[.u64]⟩],λx=>ZfC F x.1 x.2⟩
def ZtG:Fs ya:=Zb2 fuel
theorem Zq7:ZtG.Ok:=fnO { still:=[4,13,14,16,17]} [(0,ZhJ)] [] trivial ⟨Zl6,ytt⟩
end
end Go.Proofs.YtekdgjajmennjaaGreat
end
section
namespace Go.Ev
def Pr(r:Nat):Prop:=1 < r∧∀k,0 < k→k < r→Nat.gcd k r=1
theorem php:∀(n:Nat)(f:Nat→Nat),(∀i,i≤n→f i < n)→∃i j,i < j∧j≤n∧f i=f j
 |0,f,h=>absurd (h 0 (ym _)) (Nat.not_lt_zero _)
 |n+1,f,h=>by
  by_cases hc:∃i,i≤n∧f i=f (n+1)
  ·obtain⟨i,h1,h2⟩:=hc;exact⟨i,n+1,by omega,ym _,h2⟩
  have hne:∀i,i≤n→f i≠f (n+1):=λi hi e=>hc ⟨i,hi,e⟩;have hv:=h (n+1) (ym _)
  obtain⟨i,j,h1,h2,h3⟩:=php n (λi=>if f i > f (n+1) then f i - 1 else f i) (λi hi=>by
   have a:=h i (by omega);have b:=hne i hi;show(if f i > f (n+1) then f i - 1 else f i) < n
   split <;> omega)
  refine⟨i,j,h1,by omega, ?_⟩;have a:=hne i (by omega);have b:=hne j (by omega);have h3:(if f i > f (n+1) then f i - 1 else f i)=(if f j > f (n+1) then f j - 1 else f j):=h3
  split at h3 <;> split at h3 <;> omega
theorem Zi6{h a m:Nat}(ha:h ^ a % m=1 % m)(k:Nat):h ^ (a*k) % m=1 % m:=by
 rw[Nat.pow_mul,Nat.pow_mod,ha, ←Nat.pow_mod,Nat.one_pow]
theorem ZBg{h a b m:Nat}(ha:h ^ a % m=1 % m)(hb:h ^ b % m=1 % m):h ^ (a % b) % m=1 % m:=by
 have e:a=b*(a / b)+a % b:=(Nat.div_add_mod a b).symm;rw[e,Nat.pow_add,Nat.mul_mod,Zi6 hb, ←Nat.mul_mod,Nat.one_mul] at ha;exact ha
theorem Zqr{h m:Nat}(a b:Nat)(ha:h ^ a % m=1 % m)(hb:h ^ b % m=1 % m):h ^ (Nat.gcd a b) % m=1 % m:=by
 induction a,b using Nat.gcd.induction with
 |H0 n=>rw[Nat.gcd_zero_left];exact hb
 |H1 a b h0 ih=>
  rw[Nat.gcd_rec];exact ih (ZBg hb ha) ha
theorem ZIu{h r m i j:Nat}(hr:h ^ r % m=1 % m)(hi:i < j)(hj:j < r)(e:h ^ i % m=h ^ j % m):h ^ (j - i) % m=1 % m:=by
 have h1:h ^ i*h ^ (r - i)=h ^ r:=by rw[←Nat.pow_add];congr 1;omega
 have h2:h ^ j*h ^ (r - i)=h ^ (j - i)*h ^ r:=by rw[←Nat.pow_add, ←Nat.pow_add];congr 1;omega
 have h3:h ^ j*h ^ (r - i) % m=1 % m:=by rw[Nat.mul_mod, ←e, ←Nat.mul_mod,h1,hr]
 rw[h2,Nat.mul_mod,hr, ←Nat.mul_mod,Nat.mul_one] at h3;exact h3
theorem ZDj{h r m i:Nat}(hm:1 < m)(hr:h ^ r % m=1 % m)(hi:i≤r):h ^ i % m≠0:=by
 intro e;have h1:h ^ i*h ^ (r - i)=h ^ r:=by rw[←Nat.pow_add];congr 1;omega
 rw[←h1,Nat.mul_mod,e,Nat.zero_mul,Nat.zero_mod,yaq hm] at hr;omega
theorem ZDk{h r c:Nat}(hr:Pr r)(hc:1 < c)(h1:h ^ r % c=1 % c)(h2:h % c≠1 % c):r < c:=by
 rcases ybp r c with k|k
 ·exact k
 exfalso
 obtain⟨i,j,a,b,e⟩:=php (c - 1) (λi=>h ^ i % c - 1) (λi hi=>by
  have:=Nat.mod_lt (h ^ i) (show c > 0 by omega);have:=ZDj hc h1 (i:=i) (by omega);show h ^ i % c - 1 < c - 1;omega)
 have q1:=ZDj hc h1 (i:=i) (by omega);have q2:=ZDj hc h1 (i:=j) (by omega);have e:h ^ i % c - 1=h ^ j % c - 1:=e;have h3:=ZIu h1 a (by omega) (show h ^ i % c=h ^ j % c by omega);have h4:=Zqr _ _ h3 h1;rw[hr.2 (j - i) (by omega) (by omega),Nat.pow_one] at h4;exact h2 h4
theorem ZEL{n r:Nat}(h:Nat)(hr:Pr r)(hn:1 < n)(hs:n≤r*r)(h1:h ^ r % n=1 % n)(h0:0 < h)(h2:Nat.gcd (h - 1) n=1):Pr n:=by
 refine⟨hn,λk k0 kn=> ?_⟩;have dn:Nat.gcd k n ∣ n:=Nat.gcd_dvd_right k n;have dk:Nat.gcd k n ∣ k:=Nat.gcd_dvd_left k n;have d0:0 < Nat.gcd k n:=Nat.gcd_pos_of_pos_left _ k0;have dl:Nat.gcd k n≤k:=Nat.le_of_dvd k0 dk;generalize Nat.gcd k n=d at*;by_cases d1:d=1
 ·exact d1
 exfalso
 have great:∀c,1 < c→c ∣ n→r < c:=λc c1 cn=>by
  refine ZDk (h:=h) hr c1 ?_ λe=> ?_
  ·obtain⟨q,rfl⟩:=cn;have:=congrArg (· % c) h1;simp only[Nat.mod_mul_right_mod] at this;exact this
  ·have k1:c ∣ h - 1:=Nat.dvd_of_mod_eq_zero (Nat.sub_mod_eq_zero_of_mod_eq e);have:=Nat.dvd_gcd k1 cn;rw[h2] at this;have:=Nat.le_of_dvd (by omega) this;omega
 obtain⟨e,rfl⟩:=dn
 have e1:1 < e:=by
  rcases ybp 1 e with h|h
  ·exact h
  ·have:d*e≤d*1:=Nat.mul_le_mul_left _ h;omega
 have a:=great d (by omega) (Nat.dvd_mul_right ..);have b:=great e e1 (Nat.dvd_mul_left ..);have:=Nat.mul_le_mul (show r+1≤d from a) (show r+1≤e from b)
 rw[yat,Nat.mul_add] at this;omega
def ZEM(n:Nat):Nat→Bool
 |0=>true
 |k+1=>(decide (k < 1) || !(n % (k+1)==0))&&ZEM n k
theorem ZtH{n:Nat}:∀{k:Nat},ZEM n k=true→∀d,1 < d→d≤k→¬d ∣ n
 |0,_,d,h1,h2=>by omega
 |k+1,h,d,h1,h2=>by
  simp only[ZEM,yi,Bool.or_eq_true,decide_eq_true_eq,Bool.not_eq_true',beq_eq_false_iff_ne] at h;rcases ybp d (k+1) with c|c
  ·exact ZtH h.2 d h1 (by omega)
  ·have:d=k+1:=by omega
   subst this;rcases h.1 with h|h
   ·omega
   ·intro q;exact h (Nat.mod_eq_zero_of_dvd q)
theorem ZIv{n s:Nat}(hn:1 < n)(hs:n < (s+1)*(s+1))(h:ZEM n s=true):Pr n:=by
 refine⟨hn,λk k0 kn=> ?_⟩;have dn:Nat.gcd k n ∣ n:=Nat.gcd_dvd_right k n;have d0:0 < Nat.gcd k n:=Nat.gcd_pos_of_pos_left _ k0;have dl:Nat.gcd k n≤k:=Nat.le_of_dvd k0 (Nat.gcd_dvd_left k n);generalize Nat.gcd k n=d at*;by_cases d1:d=1
 ·exact d1
 exfalso;obtain⟨e,rfl⟩:=dn
 have e1:1 < e:=by
  rcases ybp 1 e with h|h
  ·exact h
  ·have:d*e≤d*1:=Nat.mul_le_mul_left _ h;omega
 rcases ybp s d with a|a
 ·rcases ybp s e with b|b
  ·have:=Nat.mul_le_mul (show s+1≤d from a) (show s+1≤e from b)
   omega
  ·exact ZtH h e e1 b (Nat.dvd_mul_left ..)
 ·exact ZtH h d (by omega) a (Nat.dvd_mul_right ..)
def pwm(m:Nat):Nat→Nat→Nat→Nat→Nat
 |0,_,_,o=>o
 |f+1,a,n,o=>if n=0 then o else pwm m f (a*a % m) (n / 2) (if n % 2=1 then o*a % m else o)
theorem ZyH{m:Nat}:∀(k a n o:Nat),n < 2 ^ k→pwm m k a n o % m=o*a ^ n % m
 |0,a,n,o,h=>by
  have:n=0:=by rw[Nat.pow_zero] at h;omega
  subst this
  rw[pwm,Nat.pow_zero,Nat.mul_one]
 |k+1,a,n,o,h=>by
  rw[pwm];by_cases h0:n=0
  ·rw[if_pos h0,h0,Nat.pow_zero,Nat.mul_one]
  rw[if_neg h0,ZyH k _ _ _ (by rw[Nat.pow_succ] at h;omega)]
  have e:a ^ n=(a*a) ^ (n / 2)*a ^ (n % 2):=by
   rw[←Nat.pow_two, ←Nat.pow_mul, ←Nat.pow_add];congr 1;omega
  have e2:(a*a % m) ^ (n / 2) % m=(a*a) ^ (n / 2) % m:=(Nat.pow_mod ..).symm;rw[e];split
  ·rename_i h1;rw[h1,Nat.pow_one,Nat.mul_mod,e2, ←Nat.mul_mod,Nat.mul_mod,Nat.mod_mod, ←Nat.mul_mod];congr 1;rw[Nat.mul_assoc,ybs a]
  ·rename_i h1;have:n % 2=0:=by omega
   rw[this,Nat.pow_zero,Nat.mul_one,Nat.mul_mod,e2, ←Nat.mul_mod]
theorem ZtI{m a n z:Nat}(k:Nat)(h:n < 2 ^ k)(e:pwm m k a n 1 % m=z):a ^ n % m=z:=by
 have:=ZyH (m:=m) k a n 1 h;rw[Nat.one_mul] at this;rw[←this,e]
def pc0:Nat:=7930907
def pc1:Nat:=11864636873
def pc2:Nat:=1732236983459
def pc3:Nat:=249442125618097
def ord:Nat:=2305843009213688669
def mdl:Nat:=4611686018427377339
theorem pr0:Pr pc0:=ZIv (s:=2816) (by decide) (by decide) (by decide+kernel)
theorem pr1:Pr pc1:=ZEL 409113128 pr0 (by decide) (by decide) (ZtI 23 (by decide) (by decide+kernel)) (by decide) (by decide+kernel)
theorem pr2:Pr pc2:=ZEL 353522539148 pr1 (by decide) (by decide) (ZtI 34 (by decide) (by decide+kernel)) (by decide) (by decide+kernel)
theorem pr3:Pr pc3:=ZEL 117107719143424 pr2 (by decide) (by decide) (ZtI 41 (by decide) (by decide+kernel)) (by decide) (by decide+kernel)
theorem pr4:Pr ord:=ZEL 732368710688439132 pr3 (by decide) (by decide) (ZtI 48 (by decide) (by decide+kernel)) (by decide) (by decide+kernel)
def Qx(a:Nat):Prop:=0 < a∧a < mdl∧a ^ ord % mdl=1
theorem ZNm{a:Nat}(h:a < mdl)(e:a ^ ord % mdl=1):Qx a:=by
 refine⟨?_,h,e⟩;rcases ybt a with h0|h0
 ·subst h0;rw[Nat.zero_pow (by decide)] at e;cases e
 ·exact h0
theorem ZDl:Qx 1:=⟨by decide,by decide,by rw[Nat.one_pow];decide⟩
theorem ZIw:Qx 4:=⟨by decide,by decide,ZtI 61 (by decide) (by decide+kernel)⟩
theorem ZMp{a:Nat}(ha:Qx a)(n:Nat):Qx (a ^ n % mdl):=by
 refine ZNm (Nat.mod_lt _ (by decide)) ?_;rw[←Nat.pow_mod, ←Nat.pow_mul,ybs];exact Zi6 (m:=mdl) ha.2.2 n
theorem ZKs{a:Nat}(ha:Qx a)(n:Nat):a ^ (n % ord) % mdl=a ^ n % mdl:=by
 have e:n=ord*(n / ord)+n % ord:=(Nat.div_add_mod n _).symm;have h:=Zi6 (m:=mdl) (k:=n / ord) ha.2.2
 conv=>rhs;rw[e]
 rw[Nat.pow_add,Nat.mul_mod,h, ←Nat.mul_mod,Nat.one_mul]
theorem ZMq{k:Nat}(h0:0 < k)(h1:k < ord):4 ^ k % mdl≠1:=by
 intro e;have:=Zqr (h:=4) (m:=mdl) k _ e ZIw.2.2;rw[pr4.2 k h0 h1] at this;revert this;decide
end Go.Ev
end
section
set_option maxRecDepth 4000
namespace Go.Proofs.YtekdgjajmennjaaGreat
open Go Go.Ev
theorem ZIx{z:Nat}:(yal (z % 4611686018427377339)).toNat=z % 4611686018427377339:=by
 rw[ybo,yaq];exact Nat.lt_trans (Nat.mod_lt _ (by decide)) (by decide)
theorem ZBh(a b:UInt64):Z8 fuel a b=some (yal (a.toNat*b.toNat % 4611686018427377339)):=by
 unfold Z8 ZbJ;rw[yf];dsimp only;unfold XD;rw[if_pos (by decide),yf,ybo,ybo];have h:a.toNat*b.toNat < 18446744073709551616*18446744073709551616:=Nat.mul_lt_mul'' (yca a) (yca b);have h2:a.toNat*b.toNat / 18446744073709551616 < 18446744073709551616:=(Nat.div_lt_iff_lt_mul (by decide)).2 h;generalize a.toNat*b.toNat=z at*;rw[show(4611686018427377339:UInt64).toNat=4611686018427377339 from rfl]
 have e:z / 18446744073709551616 % 2 ^ 64*18446744073709551616+z % 18446744073709551616 % 2 ^ 64=z:=by omega
 rw[e]
theorem ZtJ:∀(k m:Nat)(A N O:UInt64),N.toNat < 2 ^ k→k < m→Zd (XV fuel) m (A,N,O)=some (yal (pwm 4611686018427377339 k A.toNat N.toNat O.toNat))
 |k,0,_,_,_,_,h=>by omega
 |0,m+1,A,N,O,h,_=>by
  have hn:¬N > 0:=by
   intro h2;have h3:0 < N.toNat:=ycs.1 h2;rw[Nat.pow_zero] at h;omega
  have hs:XV fuel (A,N,O)=if decide (N > 0)=true then(if((N&&&1)==1)=true then(Z8 fuel O A).bind λo1=>(Z8 fuel A A).bind λo2=>some (.inl (o2,ZC N 1,o1)) else(Z8 fuel A A).bind λo2=>some (.inl (o2,ZC N 1,O))) else some (.inr O):=rfl
  unfold Zd;rw[hs]
  rw[if_neg (by rw[decide_eq_true_iff];exact hn),yf,pwm,UInt64.ofNat_toNat]
 |k+1,m+1,A,N,O,h,hm=>by
  have hs:XV fuel (A,N,O)=if decide (N > 0)=true then(if((N&&&1)==1)=true then(Z8 fuel O A).bind λo1=>(Z8 fuel A A).bind λo2=>some (.inl (o2,ZC N 1,o1)) else(Z8 fuel A A).bind λo2=>some (.inl (o2,ZC N 1,O))) else some (.inr O):=rfl
  unfold Zd;rw[hs];by_cases h2:N > 0
  ·have hp:0 < N.toNat→pwm 4611686018427377339 (k+1) A.toNat N.toNat O.toNat=pwm 4611686018427377339 k (A.toNat*A.toNat % 4611686018427377339) (N.toNat / 2) (if N.toNat % 2=1 then O.toNat*A.toNat % 4611686018427377339 else O.toNat):=λh=>by
    rw[pwm,if_neg (by omega)]
   have h3:0 < N.toNat:=ycs.1 h2
   have hsh:(ZC N 1).toNat=N.toNat / 2:=by
    unfold ZC;rw[ybo,yaq (Nat.lt_of_le_of_lt (Nat.div_le_self ..) (yca _))]
   have hlt:(ZC N 1).toNat < 2 ^ k:=by
    rw[hsh];rw[Nat.pow_succ] at h;omega
   have hand:((N&&&1)==1)=decide (N.toNat % 2=1):=by
    rw[Bool.eq_iff_iff,beq_iff_eq,decide_eq_true_iff, ←yck,UInt64.toNat_and];exact Iff.of_eq (congrArg (· =1) (Nat.and_one_is_mod _))
   rw[if_pos (decide_eq_true h2),hand,hp h3];simp only[ZBh];by_cases h4:N.toNat % 2=1
   ·rw[if_pos (decide_eq_true h4),if_pos h4,yf,yf,yf];dsimp only;rw[ZtJ k m _ _ _ hlt (by omega),ZIx,ZIx,hsh]
   ·rw[if_neg (by rw[decide_eq_true_iff];exact h4),if_neg h4,yf,yf];dsimp only;rw[ZtJ k m _ _ _ hlt (by omega),ZIx,hsh]
  ·have h3:N.toNat=0:=by
    rcases ybt N.toNat with h5|h5
    ·exact h5
    ·exact absurd (show(0:UInt64) < N from ycs.2 h5) h2
   rw[if_neg (by rw[decide_eq_true_iff];exact h2),yf,pwm,if_pos h3,UInt64.ofNat_toNat]
theorem ZIy(a n:UInt64):ZfC fuel a n=some (yal (pwm 4611686018427377339 64 a.toNat n.toNat 1)):=by
 unfold ZfC;rw[ZtJ 64 fuel a n 1 (yca _) (by rw[Zny];omega),yf];rfl
noncomputable def Vr(F:Nat)(a0:UInt64)(a1:UInt64):Option UInt64:=some (yal (pwm 4611686018427377339 64 a0.toNat a1.toNat 1))
noncomputable def ZtK(F:Nat):Fs ya:={ Zb2 F with M:=λx=>Vr F x.1 x.2}
noncomputable def Zbj:Fs ya:=ZtK fuel
theorem ZdH:Zbj.Ok:=ZyE (s:=Zb2 fuel) Zq7 λx=>(ZIy x.1 x.2).symm
end Go.Proofs.YtekdgjajmennjaaGreat
end
section
set_option maxRecDepth 4000
namespace Go.Proofs.YtekdgjajmennjaaGreat
open Go Go.Ev
noncomputable section
def YE(F:Nat)(a0:UInt64):Option (Bool):=
 if(decide (a0 > 0))=true then
  if(decide (a0 < 4611686018427377339))=true then
   (Vr F a0 2305843009213688669).bind λo45=>
   some (o45==1)
  else
  some false
 else
 some false
def ZdI(F:Nat):Fs ya:=⟨121,[.v .u64],[],[.u64],[⟨.ret,[(0,.v .bool)],[],[.bool]⟩],λx=>YE F x⟩
def XK:Fs ya:=ZdI fuel
theorem Xo:XK.Ok:=fnO { still:=[2,10]} [] [Zbj] ⟨ZdH,ytt⟩
def VV(F:Nat)(a0:UInt64):Option (Bool):=
 if(a0==1)=true then
  some true
 else
 (YE F a0).bind λo46=>
 some (!o46)
def ZnD(F:Nat):Fs ya:=⟨201,[.v .u64],[],[.u64],[⟨.ret,[(0,.v .bool)],[],[.bool]⟩],λx=>VV F x⟩
def Zgg:Fs ya:=ZnD fuel
theorem ZnE:Zgg.Ok:=fnO { still:=[2,6]} [] [XK] ⟨Xo,ytt⟩
abbrev ZcM:Ty:=(.st [.u64,.u64,.u64,.u64,.u64])
abbrev Basics:Type:=(UInt64×UInt64×UInt64×UInt64×UInt64)
abbrev Basics.Cond(x:Basics):UInt64:=x.2.2.2.1
def XE(F:Nat)(s:((List UInt64)×Int×Int)):Option (((List UInt64)×Int×Int)⊕(Int⊕Unit)):=
 if(decide (s.2.2 < s.2.1))=true then
  (idx s.1 s.2.2).bind λe47=>
  (VV F e47).bind λo48=>
  if o48=true then
   some (.inr (.inl s.2.2))
  else
  some (.inl (s.1,s.2.1,wi (s.2.2+1)))
 else
 some (.inr (.inr ()))
def Zgh:Lp:=⟨[(0,.v (.sl .u64)),(1,.fn 201 []),(7,.v yI),(8,.v yI)],[],[(.sl .u64),yI,yI],[⟨.ret,[(4,.v yI)],[],[yI]⟩,⟨.exit 0,[],[],[]⟩],Zd (XE fuel) fuel⟩
theorem ZkB:Zgh.okA ya 192 0:=Zq { still:=[4,15]} [] [Zgg] ⟨ZnE,ytt⟩
def ZdJ(F:Nat)(a0:(List UInt64)):Option (Int):=
 (Zd (XE F) F (a0,(a0.length:Int),0)).bind λo49=>
 match o49 with
 |.inl o50=>
  some o50
 |.inr o51=>
  some (-1)
def Zph(F:Nat):Fs ya:=⟨192,[.v (.sl .u64),.fn 201 []],[],[(.sl .u64)],[⟨.ret,[(0,.v yI)],[],[yI]⟩],λx=>ZdJ F x⟩
def ZhK:Fs ya:=Zph fuel
theorem Zpi:ZhK.Ok:=fnO { still:=[4,15]} [(0,Zgh)] [] trivial ⟨ZkB,ytt⟩
def Zl7(F:Nat)(a0:(List UInt64)):Option (Bool):=
 (ZdJ F a0).bind λo52=>
 some (decide (o52 ≥ 0))
def ZyI(F:Nat):Fs ya:=⟨122,[.v (.sl .u64),.fn 201 []],[],[(.sl .u64)],[⟨.ret,[(0,.v .bool)],[],[.bool]⟩],λx=>Zl7 F x⟩
def Zqs:Fs ya:=ZyI fuel
theorem ZyJ:Zqs.Ok:=fnO { still:=[4,5,6]} [] [ZhK] ⟨Zpi,ytt⟩
def Zbk(F:Nat)(a0:Basics):Option (Bool):=
 (Zl7 F [a0.1,a0.2.1,a0.2.2.1,a0.2.2.2.1,a0.2.2.2.2]).bind λo53=>
 some (!o53)
def Zq8(F:Nat):Fs ya:=⟨132,[.v ZcM],[],[ZcM],[⟨.ret,[(0,.v .bool)],[],[.bool]⟩],λx=>Zbk F x⟩
def Zi7:Fs ya:=Zq8 fuel
theorem Zq9:Zi7.Ok:=fnO { still:=[2,14,15]} [] [Zqs] ⟨ZyJ,ytt⟩
def ZdK(F:Nat)(a0:Int):Option (Bool):=
 if(decide (a0 ≥ 0))=true then
  some (decide (a0≤1125899906842624))
 else
 some false
def ZyK(F:Nat):Fs ya:=⟨202,[.v yI],[],[yI],[⟨.ret,[(0,.v .bool)],[],[.bool]⟩],λx=>ZdK F x⟩
def Zqt:Fs ya:=ZyK fuel
theorem ZyL:Zqt.Ok:=fnO { still:=[2]} [] [] trivial
def ZdL(F:Nat)(a0:Int)(a1:Int):Option ((Int×Bool)):=
 (ZdK F a0).bind λo54=>
 if(!o54)=true then
  some (0,false)
 else
 (ZdK F a1).bind λo55=>
 if(!o55)=true then
  some (0,false)
 else
 if(decide (a0 > (wi (1125899906842624 - a1))))=true then
  some (0,false)
 else
 some (wi (a0+a1),true)
def ZDm(F:Nat):Fs ya:=⟨133,[.v yI,.v yI],[],[yI,yI],[⟨.ret,[(0,.tup [.v yI,.v .bool])],[],[yI,.bool]⟩],λx=>ZdL F x.1 x.2⟩
def Zpj:Fs ya:=ZDm fuel
theorem ZtL:Zpj.Ok:=fnO { still:=[4,5,6,10]} [] [Zqt] ⟨ZyL,ytt⟩
abbrev Zb:Ty:=(.st [(.arr 32 .u8),yI])
abbrev Outpoint:Type:=((List UInt8)×Int)
abbrev Yb:Ty:=(.st [Zb,yI,(.arr 2 ZcM),(.arr 2 Zb1),yI])
abbrev Chan:Type:=(Outpoint×Int×(List Basics)×(List Terms)×Int)
abbrev Chan.Basics(x:Chan):(List Basics):=x.2.2.1
abbrev Chan.Terms(x:Chan):(List Terms):=x.2.2.2.1
def WF(F:Nat)(s:((List Terms)×Int×Chan)):Option (((List Terms)×Int×Chan)⊕((Int×Chan)⊕Chan)):=
 if(decide (s.2.1 < 2))=true then
  (idx s.1 s.2.1).bind λe56=>
  (ZcJ F e56).bind λo57=>
  if(!o57)=true then
   some (.inr (.inl (1,s.2.2)))
  else
  if(inB s.2.1 2)=true then
   (s.2.2.2.2.1[s.2.1.toNat]?).bind λe58=>
   (Zbk F e58).bind λo59=>
   if(!o59)=true then
    some (.inr (.inl (1,s.2.2)))
   else
   some (.inl (s.1,wi (s.2.1+1),s.2.2))
  else
  none
 else
 some (.inr (.inr s.2.2))
def ZnF:Lp:=⟨[(1,.ref 0 []),(34,.v (.arr 2 Zb1)),(35,.v yI)],[.var (.v Yb) true],[(.arr 2 Zb1),yI,Yb],[⟨.ret,[(2,.v yI)],[.var (.v Yb) true],[yI,Yb]⟩,⟨.exit 0,[(1,.ref 0 [])],[.var (.v Yb) true],[Yb]⟩],Zd (WF fuel) fuel⟩
theorem Zra:ZnF.okA ya 62 0:=Zq { still:=[2,39,46,55,59]} [] [Zk3,Zi7] ⟨ZtC,Zq9,ytt⟩
def ZdM(F:Nat)(a0:Chan):Option (Int):=
 if(decide (a0.2.1 < 1))=true then
  some 1
 else
 if(decide (a0.2.1 > 1125899906842624))=true then
  some 1
 else
 if(decide (a0.1.2 < 0))=true then
  some 1
 else
 if(decide (a0.1.2 ≥ 64))=true then
  some 1
 else
 if((bits .andNot .i64 a0.2.2.2.2 1)!=0)=true then
  some 1
 else
 (Zd (WF F) F (a0.2.2.2.1,0,a0)).bind λo60=>
 match o60 with
 |.inl o61=>
  some o61.1
 |.inr o62=>
  (o62.2.2.2.1[0]?).bind λe63=>
  (o62.2.2.2.1[1]?).bind λe64=>
  (ZdL F e63.2.1 e64.2.1).bind λo65=>
  if(!o65.2)=true then
   some 10
  else
  if(decide (o65.1 > o62.2.1))=true then
   some 10
  else
  some 0
def Zg3(F:Nat):Fs ya:=⟨62,[.v Yb],[],[Yb],[⟨.ret,[(0,.v yI)],[],[yI]⟩],λx=>ZdM F x⟩
def Zi8:Fs ya:=Zg3 fuel
theorem Zg4:Zi8.Ok:=fnO { still:=[2,39,46,55,59]} [(0,ZnF)] [Zpj] ⟨ZtL,ytt⟩ ⟨Zra,ytt⟩
def ZaU(F:Nat)(a0:Int)(s0:Int)(s1:Int):Option ((Bool×Int×Int)):=
 if(decide (a0 < s0))=true then
  some (true,s0,s1)
 else
 some (decide (a0 > s1),s0,s1)
def Zl8(F:Nat):Fs ya:=⟨135,[.v yI,.ref 0 [],.ref 1 []],[.var (.v yI) true,.var (.v yI) true],[yI,yI,yI],[⟨.ret,[(0,.v .bool)],[.var (.v yI) true,.var (.v yI) true],[.bool,yI,yI]⟩],λx=>ZaU F x.1 x.2.1 x.2.2⟩
def ZeX:Fs ya:=Zl8 fuel
theorem Zl9:ZeX.Ok:=fnO { still:=[4]} [] [] trivial
def Z5(F:Nat)(s:((List Int)×Int×Int×Int×Int)):Option (((List Int)×Int×Int×Int×Int)⊕((Int×Int×Int)⊕(Int×Int))):=
 if(decide (s.2.2.1 < s.2.1))=true then
  (idx s.1 s.2.2.1).bind λe66=>
  (ZaU F e66 s.2.2.2.1 s.2.2.2.2).bind λo67=>
  if o67.1=true then
   some (.inr (.inl (s.2.2.1,o67.2.1,o67.2.2)))
  else
  some (.inl (s.1,s.2.1,wi (s.2.2.1+1),o67.2.1,o67.2.2))
 else
 some (.inr (.inr (s.2.2.2.1,s.2.2.2.2)))
def WN:Lp:=⟨[(0,.v (.sl yI)),(1,.fn 135 [.ref 0 [],.ref 1 []]),(7,.v yI),(8,.v yI)],[.var (.v yI) true,.var (.v yI) true],[(.sl yI),yI,yI,yI,yI],[⟨.ret,[(4,.v yI)],[.var (.v yI) true,.var (.v yI) true],[yI,yI,yI]⟩,⟨.exit 0,[],[.var (.v yI) true,.var (.v yI) true],[yI,yI]⟩],Zd (Z5 fuel) fuel⟩
theorem ZaV:WN.okA ya 203 0:=Zq { still:=[4,15]} [] [ZeX] ⟨Zl9,ytt⟩
def Xs(F:Nat)(a0:(List Int))(s0:Int)(s1:Int):Option ((Int×Int×Int)):=
 (Zd (Z5 F) F (a0,(a0.length:Int),0,s0,s1)).bind λo68=>
 match o68 with
 |.inl o69=>
  some (o69.1,o69.2.1,o69.2.2)
 |.inr o70=>
  some ((-1),o70.1,o70.2)
def ZcN(F:Nat):Fs ya:=⟨203,[.v (.sl yI),.fn 135 [.ref 0 [],.ref 1 []]],[.var (.v yI) true,.var (.v yI) true],[(.sl yI),yI,yI],[⟨.ret,[(0,.v yI)],[.var (.v yI) true,.var (.v yI) true],[yI,yI,yI]⟩],λx=>Xs F x.1 x.2.1 x.2.2⟩
def W3:Fs ya:=ZcN fuel
theorem ZcO:W3.Ok:=fnO { still:=[4,15]} [(0,WN)] [] trivial ⟨ZaV,ytt⟩
def Y7(F:Nat)(a0:(List Int))(s0:Int)(s1:Int):Option ((Bool×Int×Int)):=
 (Xs F a0 s0 s1).bind λo71=>
 some (decide (o71.1 ≥ 0),o71.2.1,o71.2.2)
def ZaW(F:Nat):Fs ya:=⟨134,[.v (.sl yI),.fn 135 [.ref 0 [],.ref 1 []]],[.var (.v yI) true,.var (.v yI) true],[(.sl yI),yI,yI],[⟨.ret,[(0,.v .bool)],[.var (.v yI) true,.var (.v yI) true],[.bool,yI,yI]⟩],λx=>Y7 F x.1 x.2.1 x.2.2⟩
def X8:Fs ya:=ZaW fuel
theorem ZaX:X8.Ok:=fnO { still:=[4,5,6]} [] [W3] ⟨ZcO,ytt⟩
def W4(F:Nat)(a0:Int)(a1:Int)(a2:(List Int)):Option (Bool):=
 (Y7 F a2 a0 a1).bind λo72=>
 some (!o72.1)
def Zpk(F:Nat):Fs ya:=⟨63,[.v yI,.v yI,.v (.sl yI)],[],[yI,yI,(.sl yI)],[⟨.ret,[(0,.v .bool)],[],[.bool]⟩],λx=>W4 F x.1 x.2.1 x.2.2⟩
def ZhL:Fs ya:=Zpk fuel
theorem Zpl:ZhL.Ok:=fnO { still:=[6,7,8]} [] [X8] ⟨ZaX,ytt⟩
def Vs(F:Nat)(a0:UInt64):Option (UInt64):=
 (YE F a0).bind λo73=>
 if o73=true then
  some a0
 else
 some 1
def ZtM(F:Nat):Fs ya:=⟨171,[.v .u64],[],[.u64],[⟨.ret,[(0,.v .u64)],[],[.u64]⟩],λx=>Vs F x⟩
def Zbl:Fs ya:=ZtM fuel
theorem ZdN:Zbl.Ok:=fnO { still:=[2,3]} [] [XK] ⟨Xo,ytt⟩
def Wl(F:Nat)(a0:UInt64)(a1:UInt64):Option (UInt64):=
 (Vs F a0).bind λo74=>
 (Vr F o74 (a1 % 2305843009213688669)).bind λo75=>
 some o75
def ZtN(F:Nat):Fs ya:=⟨88,[.v .u64,.v .u64],[],[.u64,.u64],[⟨.ret,[(0,.v .u64)],[],[.u64]⟩],λx=>Wl F x.1 x.2⟩
def Zbm:Fs ya:=ZtN fuel
theorem ZdO:Zbm.Ok:=fnO { still:=[4,5,6,8]} [] [Zbl,Zbj] ⟨ZdN,ZdH,ytt⟩
def Yl(F:Nat)(a0:UInt64):Option (UInt64):=
 (Wl F 4 a0).bind λo76=>
 some o76
def ZfD(F:Nat):Fs ya:=⟨32,[.v .u64],[],[.u64],[⟨.ret,[(0,.v .u64)],[],[.u64]⟩],λx=>Yl F x⟩
def Wm:Fs ya:=ZfD fuel
theorem XL:Wm.Ok:=fnO { still:=[2,3]} [] [Zbm] ⟨ZdO,ytt⟩
abbrev Zi9:Ty:=(.st [.u64,.u64,.u64,.u64,.u64,(.arr 32 .u8)])
abbrev Kit:Type:=(UInt64×UInt64×UInt64×UInt64×UInt64×(List UInt8))
abbrev Kit.Cond(x:Kit):UInt64:=x.2.2.2.1
def ZcP(F:Nat)(a0:Kit):Option (Basics):=
 (Yl F a0.1).bind λo77=>
 (Yl F a0.2.1).bind λo78=>
 (Yl F a0.2.2.1).bind λo79=>
 (Yl F a0.2.2.2.1).bind λo80=>
 (Yl F a0.2.2.2.2.1).bind λo81=>
 some (o77,o78,o79,o80,o81)
def ZdP(F:Nat):Fs ya:=⟨64,[.v Zi9],[],[Zi9],[⟨.ret,[(0,.v ZcM)],[],[ZcM]⟩],λx=>ZcP F x⟩
def Zk7:Fs ya:=ZdP fuel
theorem Zja:Zk7.Ok:=fnO { still:=[4,7,10,13,16]} [] [Wm] ⟨XL,ytt⟩
abbrev Zf:Ty:=(.st [Yb,Zi9,yI,yI,yI])
abbrev BackupKept:Type:=(Chan×Kit×Int×Int×Int)
abbrev BackupKept.Chan(x:BackupKept):Chan:=x.1
abbrev BackupKept.Kit(x:BackupKept):Kit:=x.2.1
def Xf(F:Nat)(s:((List UInt64)×Int×Int×BackupKept)):Option (((List UInt64)×Int×Int×BackupKept)⊕((Bool×BackupKept)⊕BackupKept)):=
 if(decide (s.2.2.1 < s.2.1))=true then
  (idx s.1 s.2.2.1).bind λe82=>
  (XC F e82).bind λo83=>
  if(!o83)=true then
   some (.inr (.inl (false,s.2.2.2)))
  else
  some (.inl (s.1,s.2.1,wi (s.2.2.1+1),s.2.2.2))
 else
 some (.inr (.inr s.2.2.2))
def ZhM:Lp:=⟨[(1,.ref 0 []),(20,.v (.sl .u64)),(21,.v yI),(22,.v yI)],[.var (.v Zf) true],[(.sl .u64),yI,yI,Zf],[⟨.ret,[(2,.v .bool)],[.var (.v Zf) true],[.bool,Zf]⟩,⟨.exit 0,[(1,.ref 0 [])],[.var (.v Zf) true],[Zf]⟩],Zd (Xf fuel) fuel⟩
theorem Zma:ZhM.okA ya 17 0:=Zq { still:=[2,26,31,37,42,57]} [] [VK] ⟨QV,ytt⟩
def XM(F:Nat)(a0:BackupKept):Option (Bool):=
 (Zd (Xf F) F ([a0.2.1.1,a0.2.1.2.1,a0.2.1.2.2.1,a0.2.1.2.2.2.1,a0.2.1.2.2.2.2.1],5,0,a0)).bind λo84=>
 match o84 with
 |.inl o85=>
  some o85.1
 |.inr o86=>
  (ZdM F o86.1).bind λo87=>
  if(o87==0)=true then
   (W4 F 0 1 [o86.2.2.1]).bind λo88=>
   if o88=true then
    (ZcP F o86.2.1).bind λo89=>
    if(inB o86.2.2.1 2)=true then
     (o86.1.2.2.1[o86.2.2.1.toNat]?).bind λe90=>
     if(decide (o89=e90))=true then
      (W4 F 0 1048576 [o86.2.2.2.1,o86.2.2.2.2]).bind λo91=>
      some o91
     else
     some false
    else
    none
   else
   some false
  else
  some false
def Zrb(F:Nat):Fs ya:=⟨17,[.v Zf],[],[Zf],[⟨.ret,[(0,.v .bool)],[],[.bool]⟩],λx=>XM F x⟩
def W5:Fs ya:=Zrb fuel
theorem VW:W5.Ok:=fnO { still:=[2,26,31,37,42,57]} [(0,ZhM)] [Zi8,ZhL,Zk7] ⟨Zg4,Zpl,Zja,ytt⟩ ⟨Zma,ytt⟩
def ZtO(F:Nat)(a0:(List UInt8)):Option ((UInt64×(List UInt8))):=
 some (0,a0)
def ZyM(F:Nat):Fs ya:=⟨224,[.v (.arr 32 .u8)],[],[(.arr 32 .u8)],[⟨.ret,[(0,.fn 248 [.ref 0 [],.ref 1 []])],[.var (.v .u64) true,.var (.v (.arr 32 .u8)) true],[.u64,(.arr 32 .u8)]⟩],λx=>ZtO F x⟩
def Zqu:Fs ya:=ZyM fuel
theorem ZyN:Zqu.Ok:=fnO { still:=[2]} [] [] trivial
def ZNn:ByteArray:=⟨#[115,116,114,101,97,109]⟩
def Zbn(F:Nat)(s:(Int×Int×(List UInt8)×(List UInt8))):Option ((Int×Int×(List UInt8)×(List UInt8))⊕((List UInt8)×(List UInt8))):=
 if(decide (s.2.1 ≥ 0))=true then
  if(decide (0≤s.2.1))=true then
   if(apB s.2.2.1.length 1 1)=true then
    let y96:(List UInt8):=s.2.2.1++([w8 (Int.fdiv s.1 (2 ^ (min s.2.1.toNat 64)))]:List UInt8)
    some (.inl (s.1,wi (s.2.1 - 8),y96,s.2.2.2))
   else
   none
  else
  none
 else
 some (.inr (s.2.2.1,s.2.2.2))
def ZnG:Lp:=⟨[(0,.own 0 .u8),(1,.v yI),(5,.v yI)],[.log .u8 5,.log .u8 5],[yI,yI,(.sl .u8),(.sl .u8)],[⟨.exit 0,[(0,.own 0 .u8)],[.log .u8 5,.log .u8 5],[(.sl .u8),(.sl .u8)]⟩],Zd (Zbn fuel) fuel⟩
theorem Zrc:ZnG.okA ya 186 0:=Zq { own:=[0,4,10,16,17]} [] [] trivial
def W6(F:Nat)(a1:Int)(s0:(List UInt8)):Option ((List UInt8)):=
 (Zd (Zbn F) F (a1,56,s0,[])).bind λo97=>
 some o97.1
def Zg5(F:Nat):Fs ya:=⟨186,[.own 0 .u8,.v yI],[.log .u8 5],[yI,(.sl .u8)],[⟨.ret,[(0,.own 0 .u8)],[.log .u8 5],[(.sl .u8)]⟩],λx=>W6 F x.1 x.2⟩
def Zjb:Fs ya:=Zg5 fuel
theorem Zg6:Zjb.Ok:=fnO { own:=[0,4,10,16,17]} [(0,ZnG)] [] trivial ⟨Zrc,ytt⟩
def ZtP(F:Nat):Fs ya:=⟨186,[.nil .u8,.v yI],[],[yI],(Zg5 F).xs,λx=>(Zg5 F).M (x,([]:List UInt8))⟩
def Zk8:Fs ya:=ZtP fuel
theorem ZtQ:Zk8.Ok:=ZMc (i1:=[yI]) (i2:=[yI,(.sl .u8)]) (λx=>(x,([]:List UInt8))) Zg6 (λ_=>rfl) (λ_=>⟨_,rfl⟩)
def XF(F:Nat)(s:((List (List UInt8))×Int×Int×(List UInt8)×(List UInt8))):Option (((List (List UInt8))×Int×Int×(List UInt8)×(List UInt8))⊕((List UInt8)×(List UInt8))):=
 if(decide (s.2.2.1 < s.2.1))=true then
  (idx s.1 s.2.2.1).bind λe99=>
  (W6 F (e99.length:Int) s.2.2.2.2).bind λo100=>
  if(apB o100.length e99.length 1)=true then
   some (.inl (s.1,s.2.1,wi (s.2.2.1+1),s.2.2.2.1,o100++e99))
  else
  none
 else
 some (.inr (s.2.2.2.1,s.2.2.2.2))
def Zqv:Lp:=⟨[(4,.ref 0 []),(5,.own 1 .u8),(13,.v (.sl (.sl .u8))),(14,.v yI),(15,.v yI)],[.var (.v (.arr 32 .u8)) true,.log .u8 5],[(.sl (.sl .u8)),yI,yI,(.arr 32 .u8),(.sl .u8)],[⟨.exit 0,[(4,.ref 0 []),(5,.own 1 .u8)],[.var (.v (.arr 32 .u8)) true,.log .u8 5],[(.arr 32 .u8),(.sl .u8)]⟩],Zd (XF fuel) fuel⟩
def hi1:HI:={ own:=[5,10,12,19,22,24],still:=[9,19,21,26]}
theorem ZtR:Zqv.okA ya 114 0:=Zq hi1 [] [Zjb] ⟨Zg6,ytt⟩
def Yc(F:Nat)(a0:(List UInt8)):Option ((List UInt8)):=
 if(apB 0 a0.length 1)=true then
  some a0
 else
 none
def ZeE(F:Nat):Fs ya:=⟨105,[.sl true .u8],[],[(.sl .u8)],[⟨.ret,[(0,.own 0 .u8)],[.log .u8 5],[(.sl .u8)]⟩],λx=>Yc F x⟩
def ZfE:Fs ya:=ZeE fuel
theorem ZeF:ZfE.Ok:=fnO { own:=[2,5,7]} [] [] trivial
def W7(F:Nat):Option ((List UInt8)):=
 some []
def Zb3(F:Nat):Fs ya:=⟨105,[.nil .u8],[],[],[⟨.ret,[(0,.own 0 .u8)],[.log .u8 5],[(.sl .u8)]⟩],λx=>W7 F⟩
def ZcQ:Fs ya:=Zb3 fuel
theorem Zb4:ZcQ.Ok:=fnO { own:=[2,5,7]} [] [] trivial
def ZcR(F:Nat):Fs ya:=⟨105,[.v (.sl .u8)],[],[(.sl .u8)],[⟨.ret,[(0,.own 0 .u8)],[.log .u8 5],[(.sl .u8)]⟩],λx=>Yc F x⟩
def W8:Fs ya:=ZcR fuel
theorem ZcS:W8.Ok:=Zl5 (t:=.u8) (xs:=[⟨.ret,[(0,.own 0 .u8)],[.log .u8 5],[(.sl .u8)]⟩]) (MA:=λ(x:(List UInt8))=>Yc fuel x) (MB:=λ_=>W7 fuel) ZeF Zb4 rfl
def Zbo(F:Nat)(s:((List UInt8)×(List UInt8)×(List UInt8))):Option (((List UInt8)×(List UInt8)×(List UInt8))⊕((List UInt8)×(List UInt8)×(List UInt8))):=
 if((Int.tmod (s.2.2.length:Int) 64)!=56)=true then
  if(apB s.2.2.length 1 1)=true then
   some (.inl (s.1,s.2.1,s.2.2++([0]:List UInt8)))
  else
  none
 else
 some (.inr (s.1,s.2.1,s.2.2))
def ZnH:Lp:=⟨[(0,.v (.sl .u8)),(2,.ref 0 []),(3,.own 1 .u8)],[.var (.v (.arr 32 .u8)) true,.log .u8 5],[(.sl .u8),(.arr 32 .u8),(.sl .u8)],[⟨.exit 0,[(0,.v (.sl .u8)),(2,.ref 0 []),(3,.own 1 .u8)],[.var (.v (.arr 32 .u8)) true,.log .u8 5],[(.sl .u8),(.arr 32 .u8),(.sl .u8)]⟩],Zd (Zbo fuel) fuel⟩
def hi2:HI:={ own:=[3,14,16,21,23,24,28,43],still:=[13,24,27,35,37,44,46]}
theorem Zrd:ZnH.okA ya 187 0:=Zq hi2 [] [] trivial
def Zjc(F:Nat):Option ((List UInt32)):=
 some [1779033703,3144134277,1013904242,2773480762,1359893119,2600822924,528734635,1541459225]
def Zvq(F:Nat):Fs ya:=⟨234,[],[],[],[⟨.ret,[(0,.v (.arr 8 .u32))],[],[(.arr 8 .u32)]⟩],λx=>Zjc F⟩
def ZnI:Fs ya:=Zvq fuel
theorem Zvr:ZnI.Ok:=fnO {} [] [] trivial
def ZcT(F:Nat)(a0:(List UInt8)):Option (UInt32):=
 (idx a0 0).bind λe107=>
 (idx a0 1).bind λe108=>
 let y109:UInt32:=(ZiU (UInt32.ofNat e107.toNat) 24)|||(ZiU (UInt32.ofNat e108.toNat) 16)
 (idx a0 2).bind λe110=>
 (idx a0 3).bind λe111=>
 let y112:UInt32:=(y109|||(ZiU (UInt32.ofNat e110.toNat) 8))|||(UInt32.ofNat e111.toNat)
 some y112
def ZtS(F:Nat):Fs ya:=⟨259,[.v (.sl .u8)],[],[(.sl .u8)],[⟨.ret,[(0,.v .u32)],[],[.u32]⟩],λx=>ZcT F x⟩
def Zk9:Fs ya:=ZtS fuel
theorem ZtT:Zk9.Ok:=fnO { still:=[2]} [] [] trivial
def ZG(F:Nat)(a0:UInt32)(a1:Int):Option (UInt32):=
 let y117:UInt32:=ZiU a0 (min (((w64 a1)&&&31).toNat:Int).toNat 32);let y118:UInt32:=ZhF a0 (min ((32 - ((w64 a1)&&&31)).toNat:Int).toNat 32)
 some (y117|||y118)
def Zjd(F:Nat):Fs ya:=⟨256,[.v .u32,.v yI],[],[.u32,yI],[⟨.ret,[(0,.v .u32)],[],[.u32]⟩],λx=>ZG F x.1 x.2⟩
def VF:Fs ya:=Zjd fuel
theorem ZbK:VF.Ok:=fnO { still:=[4]} [] [] trivial
def WO(F:Nat)(s:((List UInt8)×Int×(List UInt32))):Option (((List UInt8)×Int×(List UInt32))⊕(List UInt32)):=
 if(decide (s.2.1 < 64))=true then
  if(decide (s.2.1 < 16))=true then
   if(ZaM s.1.length (some (wi (4*s.2.1))) none)=true then
    (ZcT F (s.1.drop ((wi (4*s.2.1)).toNat))).bind λo113=>
    if(inB s.2.1 64)=true then
     (s.2.2[s.2.1.toNat]?).bind λe114=>
     some (.inl (s.1,wi (s.2.1+1),s.2.2.set s.2.1.toNat o113))
    else
    none
   else
   none
  else
  if(inB (wi (s.2.1 - 15)) 64)=true then
   (s.2.2[(wi (s.2.1 - 15)).toNat]?).bind λe115=>
   if(inB (wi (s.2.1 - 2)) 64)=true then
    (s.2.2[(wi (s.2.1 - 2)).toNat]?).bind λe116=>
    (ZG F e115 (-7)).bind λo119=>
    (ZG F e115 (-18)).bind λo120=>
    (ZG F e116 (-17)).bind λo121=>
    (ZG F e116 (-19)).bind λo122=>
    if(inB (wi (s.2.1 - 16)) 64)=true then
     (s.2.2[(wi (s.2.1 - 16)).toNat]?).bind λe123=>
     if(inB (wi (s.2.1 - 7)) 64)=true then
      (s.2.2[(wi (s.2.1 - 7)).toNat]?).bind λe124=>
      let y125:UInt32:=(e123+((o119^^^o120)^^^(ZhF e115 3)))+e124
      if(inB s.2.1 64)=true then
       (s.2.2[s.2.1.toNat]?).bind λe126=>
       let y127:(List UInt32):=s.2.2.set s.2.1.toNat (y125+((o121^^^o122)^^^(ZhF e116 10)))
       some (.inl (s.1,wi (s.2.1+1),y127))
      else
      none
     else
     none
    else
    none
   else
   none
  else
  none
 else
 some (.inr s.2.2)
def Zgi:Lp:=⟨[(0,.v (.sl .u8)),(2,.ref 0 []),(8,.v yI)],[.var (.v (.arr 64 .u32)) true],[(.sl .u8),yI,(.arr 64 .u32)],[⟨.exit 0,[(2,.ref 0 [])],[.var (.v (.arr 64 .u32)) true],[(.arr 64 .u32)]⟩],Zd (WO fuel) fuel⟩
theorem ZkC:Zgi.okA ya 254 0:=Zq { still:=[17,28,30,36,38]} [] [Zk9,VF] ⟨ZtT,ZbK,ytt⟩
def QX(F:Nat)(a0:(List UInt8)):Option ((List UInt32)):=
 (Zd (WO F) F (a0,0,[0,0,0,0,0,0,0,0,0,0,0,0,0,0,0,0,0,0,0,0,0,0,0,0,0,0,0,0,0,0,0,0,0,0,0,0,0,0,0,0,0,0,0,0,0,0,0,0,0,0,0,0,0,0,0,0,0,0,0,0,0,0,0,0])).bind λo128=>
 some o128
def Zpm(F:Nat):Fs ya:=⟨254,[.v (.sl .u8)],[],[(.sl .u8)],[⟨.ret,[(0,.v (.arr 64 .u32))],[],[(.arr 64 .u32)]⟩],λx=>QX F x⟩
def ZhN:Fs ya:=Zpm fuel
theorem Zpn:ZhN.Ok:=fnO { still:=[17,28,30,36,38]} [(0,Zgi)] [] trivial ⟨ZkC,ytt⟩
def Zje(F:Nat):Option ((List UInt32)):=
 some [1116352408,1899447441,3049323471,3921009573,961987163,1508970993,2453635748,2870763221,3624381080,310598401,607225278,1426881987,1925078388,2162078206,2614888103,3248222580,3835390401,4022224774,264347078,604807628,770255983,1249150122,1555081692,1996064986,2554220882,2821834349,2952996808,3210313671,3336571891,3584528711,113926993,338241895,666307205,773529912,1294757372,1396182291,1695183700,1986661051,2177026350,2456956037,2730485921,2820302411,3259730800,3345764771,3516065817,3600352804,4094571909,275423344,430227734,506948616,659060556,883997877,958139571,1322822218,1537002063,1747873779,1955562222,2024104815,2227730452,2361852424,2428436474,2756734187,3204031479,3329325298]
def Zvs(F:Nat):Fs ya:=⟨255,[],[],[],[⟨.ret,[(0,.v (.arr 64 .u32))],[],[(.arr 64 .u32)]⟩],λx=>Zje F⟩
def ZnJ:Fs ya:=Zvs fuel
theorem Zvt:ZnJ.Ok:=fnO {} [] [] trivial
def Wn(F:Nat)(s:(Int×(List UInt32)×(List UInt32)×(List UInt32)×(List UInt32)×(List UInt32))):Option ((Int×(List UInt32)×(List UInt32)×(List UInt32)×(List UInt32)×(List UInt32))⊕((List UInt32)×(List UInt32)×(List UInt32)×(List UInt32)×(List UInt32))):=
 if(decide (s.1 < 64))=true then
  (s.2.2.2.2.2[4]?).bind λe131=>
  (ZG F e131 (-6)).bind λo132=>
  (s.2.2.2.2.2[4]?).bind λe133=>
  (ZG F e133 (-11)).bind λo134=>
  (s.2.2.2.2.2[4]?).bind λe135=>
  (ZG F e135 (-25)).bind λo136=>
  (s.2.2.2.2.2[7]?).bind λe137=>
  (s.2.2.2.2.2[6]?).bind λe138=>
  (s.2.2.2.2.2[4]?).bind λe139=>
  (s.2.2.2.2.2[5]?).bind λe140=>
  (s.2.2.2.2.2[6]?).bind λe141=>
  let y142:UInt32:=(e137+((o132^^^o134)^^^o136))+(e138^^^(e139&&&(e140^^^e141)))
  if(inB s.1 64)=true then
   (s.2.2.2.2.1[s.1.toNat]?).bind λe143=>
   if(inB s.1 64)=true then
    (s.2.2.2.1[s.1.toNat]?).bind λe144=>
    (s.2.2.2.2.2[0]?).bind λe145=>
    (ZG F e145 (-2)).bind λo146=>
    (s.2.2.2.2.2[0]?).bind λe147=>
    (ZG F e147 (-13)).bind λo148=>
    (s.2.2.2.2.2[0]?).bind λe149=>
    (ZG F e149 (-22)).bind λo150=>
    (s.2.2.2.2.2[0]?).bind λe151=>
    (s.2.2.2.2.2[1]?).bind λe152=>
    (s.2.2.2.2.2[2]?).bind λe153=>
    (s.2.2.2.2.2[0]?).bind λe154=>
    (s.2.2.2.2.2[1]?).bind λe155=>
    let y156:UInt32:=((y142+e143)+e144)+((o146^^^o148)^^^o150);let y157:UInt32:=y156+((e151&&&e152)|||(e153&&&(e154|||e155)))
    (s.2.2.2.2.2[0]?).bind λe158=>
    (s.2.2.2.2.2[1]?).bind λe159=>
    (s.2.2.2.2.2[2]?).bind λe160=>
    (s.2.2.2.2.2[3]?).bind λe161=>
    (s.2.2.2.2.2[4]?).bind λe162=>
    (s.2.2.2.2.2[5]?).bind λe163=>
    (s.2.2.2.2.2[6]?).bind λe164=>
    some (.inl (wi (s.1+1),s.2.1,s.2.2.1,s.2.2.2.1,s.2.2.2.2.1,[y157,e158,e159,e160,e161+((y142+e143)+e144),e162,e163,e164]))
   else
   none
  else
  none
 else
 some (.inr (s.2.1,s.2.2.1,s.2.2.2.1,s.2.2.2.2.1,s.2.2.2.2.2))
def ZKt:List ESh:=[.var (.v (.arr 8 .u32)) true,.var (.v (.arr 8 .u32)) true,.var (.v (.arr 64 .u32)) true,.var (.v (.arr 64 .u32)) true,.var (.v (.arr 8 .u32)) true]
def ZeY:Lp:=⟨[(2,.ref 0 []),(4,.ref 1 []),(5,.ref 2 []),(6,.ref 3 []),(7,.ref 4 []),(18,.v yI)],ZKt,[yI,(.arr 8 .u32),(.arr 8 .u32),(.arr 64 .u32),(.arr 64 .u32),(.arr 8 .u32)],[⟨.exit 0,[(2,.ref 0 []),(4,.ref 1 []),(7,.ref 4 [])],ZKt,[(.arr 8 .u32),(.arr 8 .u32),(.arr 64 .u32),(.arr 64 .u32),(.arr 8 .u32)]⟩],Zd (Wn fuel) fuel⟩
def hi3:HI:={ still:=[14,22,25,29,57,60,64]}
theorem Zjf:ZeY.okA ya 235 0:=Zq hi3 [] [VF] ⟨ZbK,ytt⟩
def Wo(F:Nat)(s:(Int×(List UInt32)×(List UInt32)×(List UInt32)×(List UInt32)×(List UInt32))):Option ((Int×(List UInt32)×(List UInt32)×(List UInt32)×(List UInt32)×(List UInt32))⊕((List UInt32)×(List UInt32)×(List UInt32)×(List UInt32)×(List UInt32))):=
 if(decide (s.1 < 8))=true then
  if(inB s.1 8)=true then
   (s.2.2.2.2.2[s.1.toNat]?).bind λe166=>
   if(inB s.1 8)=true then
    (s.2.1[s.1.toNat]?).bind λe167=>
    if(inB s.1 8)=true then
     (s.2.2.2.2.2[s.1.toNat]?).bind λe168=>
     some (.inl (wi (s.1+1),s.2.1,s.2.2.1,s.2.2.2.1,s.2.2.2.2.1,s.2.2.2.2.2.set s.1.toNat (e166+e167)))
    else
    none
   else
   none
  else
  none
 else
 some (.inr (s.2.1,s.2.2.1,s.2.2.2.1,s.2.2.2.2.1,s.2.2.2.2.2))
def ZeZ:Lp:=⟨[(2,.ref 0 []),(4,.ref 1 []),(7,.ref 4 []),(104,.v yI)],ZKt,[yI,(.arr 8 .u32),(.arr 8 .u32),(.arr 64 .u32),(.arr 64 .u32),(.arr 8 .u32)],[⟨.exit 2,[(4,.ref 1 []),(7,.ref 4 [])],ZKt,[(.arr 8 .u32),(.arr 8 .u32),(.arr 64 .u32),(.arr 64 .u32),(.arr 8 .u32)]⟩],Zd (Wo fuel) fuel⟩
theorem Zjg:ZeZ.okA ya 235 1:=Zq hi3 [] [] trivial
def Ww(F:Nat)(a0:(List UInt32))(a1:(List UInt8)):Option ((List UInt32)):=
 (QX F a1).bind λo129=>
 (Zje F).bind λo130=>
 (Zd (Wn F) F (0,a0,[0,0,0,0,0,0,0,0],o129,o130,a0)).bind λo165=>
 (Zd (Wo F) F (0,o165.1,o165.2.1,o165.2.2.1,o165.2.2.2.1,o165.2.2.2.2)).bind λo169=>
 some o169.2.2.2.2
def ZnK(F:Nat):Fs ya:=⟨235,[.v (.arr 8 .u32),.v (.sl .u8)],[],[(.arr 8 .u32),(.sl .u8)],[⟨.ret,[(0,.v (.arr 8 .u32))],[],[(.arr 8 .u32)]⟩],λx=>Ww F x.1 x.2⟩
def ZaY:Fs ya:=ZnK fuel
theorem Ze0:ZaY.Ok:=fnO hi3 [(0,ZeY),(1,ZeZ)] [ZhN,ZnJ] ⟨Zpn,Zvt,ytt⟩ ⟨Zjf,Zjg,ytt⟩
def Zbp(F:Nat)(s:((List UInt8)×(List UInt8)×(List UInt8)×(List UInt32))):Option (((List UInt8)×(List UInt8)×(List UInt8)×(List UInt32))⊕((List UInt8)×(List UInt8)×(List UInt32))):=
 if(decide ((s.1.length:Int) ≥ 64))=true then
  if(ZaM s.1.length none (some 64))=true then
   (Ww F s.2.2.2 (s.1.take 64)).bind λo170=>
   if(ZaM s.1.length (some 64) none)=true then
    some (.inl (s.1.drop 64,s.2.1,s.2.2.1,o170))
   else
   none
  else
  none
 else
 some (.inr (s.2.1,s.2.2.1,s.2.2.2))
def ZnL:Lp:=⟨[(0,.v (.sl .u8)),(2,.ref 0 []),(3,.own 1 .u8),(4,.ref 2 [])],[.var (.v (.arr 32 .u8)) true,.log .u8 5,.var (.v (.arr 8 .u32)) true],[(.sl .u8),(.arr 32 .u8),(.sl .u8),(.arr 8 .u32)],[⟨.exit 2,[(2,.ref 0 []),(3,.own 1 .u8),(4,.ref 2 [])],[.var (.v (.arr 32 .u8)) true,.log .u8 5,.var (.v (.arr 8 .u32)) true],[(.arr 32 .u8),(.sl .u8),(.arr 8 .u32)]⟩],Zd (Zbp fuel) fuel⟩
theorem Zre:ZnL.okA ya 187 1:=Zq hi2 [] [ZaY] ⟨Ze0,ytt⟩
def Zbq(F:Nat)(s:((List UInt8)×(List UInt8)×(List UInt8)×(List UInt32))):Option (((List UInt8)×(List UInt8)×(List UInt8)×(List UInt32))⊕((List UInt8)×(List UInt8)×(List UInt32))):=
 if(decide ((s.1.length:Int) > 0))=true then
  if(ZaM s.1.length none (some 64))=true then
   (Ww F s.2.2.2 (s.1.take 64)).bind λo173=>
   if(ZaM s.1.length (some 64) none)=true then
    some (.inl (s.1.drop 64,s.2.1,s.2.2.1,o173))
   else
   none
  else
  none
 else
 some (.inr (s.2.1,s.2.2.1,s.2.2.2))
def ZnM:Lp:=⟨[(2,.ref 0 []),(3,.v (.sl .u8)),(4,.ref 2 [])],[.var (.v (.arr 32 .u8)) true,.log .u8 5,.var (.v (.arr 8 .u32)) true],[(.sl .u8),(.arr 32 .u8),(.sl .u8),(.arr 8 .u32)],[⟨.exit 4,[(2,.ref 0 []),(4,.ref 2 [])],[.var (.v (.arr 32 .u8)) true,.log .u8 5,.var (.v (.arr 8 .u32)) true],[(.arr 32 .u8),(.sl .u8),(.arr 8 .u32)]⟩],Zd (Zbq fuel) fuel⟩
theorem Zrf:ZnM.okA ya 187 2:=Zq hi2 [] [ZaY] ⟨Ze0,ytt⟩
def Zbr(F:Nat)(s:(Int×(List UInt8)×(List UInt8)×(List UInt32))):Option ((Int×(List UInt8)×(List UInt8)×(List UInt32))⊕((List UInt8)×(List UInt8)×(List UInt32))):=
 if(decide (s.1 < 32))=true then
  if(inB (wi (Int.tdiv s.1 4)) 8)=true then
   (s.2.2.2[(wi (Int.tdiv s.1 4)).toNat]?).bind λe175=>
   if(decide (0≤wi (24 - (wi (8*(Int.tmod s.1 4))))))=true then
    let y176:UInt32:=ZhF e175 (min (wi (24 - (wi (8*(Int.tmod s.1 4))))).toNat 32)
    if(inB s.1 32)=true then
     (s.2.1[s.1.toNat]?).bind λe177=>
     some (.inl (wi (s.1+1),s.2.1.set s.1.toNat (w8 (y176.toNat:Int)),s.2.2.1,s.2.2.2))
    else
    none
   else
   none
  else
  none
 else
 some (.inr (s.2.1,s.2.2.1,s.2.2.2))
def ZnN:Lp:=⟨[(2,.ref 0 []),(4,.ref 2 []),(48,.v yI)],[.var (.v (.arr 32 .u8)) true,.log .u8 5,.var (.v (.arr 8 .u32)) true],[yI,(.arr 32 .u8),(.sl .u8),(.arr 8 .u32)],[⟨.exit 6,[(2,.ref 0 [])],[.var (.v (.arr 32 .u8)) true,.log .u8 5,.var (.v (.arr 8 .u32)) true],[(.arr 32 .u8),(.sl .u8),(.arr 8 .u32)]⟩],Zd (Zbr fuel) fuel⟩
theorem Zrg:ZnN.okA ya 187 3:=Zq hi2 [] [] trivial
def ZdQ(F:Nat)(a0:(List UInt8)):Option ((List UInt8)):=
 let y102:Int:=wi ((a0.length:Int) - (Int.tmod (a0.length:Int) 64))
 if(ZaM a0.length (some y102) none)=true then
  (Yc F (a0.drop y102.toNat)).bind λo103=>
  if(apB o103.length 1 1)=true then
   (Zd (Zbo F) F (a0,yzz,o103++([128]:List UInt8))).bind λo104=>
   (W6 F (wi (8*(o104.1.length:Int))) o104.2.2).bind λo105=>
   (Zjc F).bind λo106=>
   (Zd (Zbp F) F (o104.1,o104.2.1,o105,o106)).bind λo171=>
   (Zd (Zbq F) F (o171.2.1,o171.1,o171.2.1,o171.2.2)).bind λo174=>
   (Zd (Zbr F) F (0,o174.1,o174.2.1,o174.2.2)).bind λo178=>
   some o178.1
  else
  none
 else
 none
def Zg7(F:Nat):Fs ya:=⟨187,[.v (.sl .u8)],[],[(.sl .u8)],[⟨.ret,[(0,.v (.arr 32 .u8))],[],[(.arr 32 .u8)]⟩],λx=>ZdQ F x⟩
def ZBi:Fs ya:=Zg7 fuel
theorem ZyO:ZBi.Ok:=fnO hi2 [(0,ZnH),(1,ZnL),(2,ZnM),(3,ZnN)] [Zjb,W8,ZnI] ⟨Zg6,ZcS,Zvr,ytt⟩ ⟨Zrd,Zre,Zrf,Zrg,ytt⟩
end
end Go.Proofs.YtekdgjajmennjaaGreat
end
section
namespace Go.Sha
open Go.Ev
noncomputable def VL{α:Type}(n:Nat)(k:Nat→α):α:=Nat.rec (motive:=λ_=>α) (k 0) (λm _=>k (Nat.succ m)) n
theorem YX{α:Type}(n:Nat)(k:Nat→α):VL n k=k n:=by cases n <;> rfl
def dbl(x:Nat):Nat:=Nat.mul x 4294967297
def s0(x:Nat):Nat:=Nat.xor (Nat.xor (yag (dbl x) 7) (yag (dbl x) 18)) (yag x 3)
def s1(x:Nat):Nat:=Nat.xor (Nat.xor (yag (dbl x) 17) (yag (dbl x) 19)) (yag x 10)
def S0(x:Nat):Nat:=Nat.xor (Nat.xor (yag (dbl x) 2) (yag (dbl x) 13)) (yag (dbl x) 22)
def S1(x:Nat):Nat:=Nat.xor (Nat.xor (yag (dbl x) 6) (yag (dbl x) 11)) (yag (dbl x) 25)
def ch(e f g:Nat):Nat:=Nat.xor g (Nat.land e (Nat.xor f g))
def mj(a b c:Nat):Nat:=Nat.lor (Nat.land a b) (Nat.land c (Nat.lor a b))
def lo(x:Nat):Nat:=Nat.mod x 4294967296
def kw(W:Nat):Nat:=lo (yw (yw (yw (yag W 480) (s0 (lo (yag W 448)))) (lo (yag W 192))) (s1 (lo (yag W 32))))
def kn(W:Nat):Nat:=Nat.mod (yw (Nat.mul W 4294967296) (kw W)) (Nat.pow 2 512)
noncomputable def kst(k:Nat)(ih:Nat→Nat→Nat→Nat→Nat→Nat→Nat→Nat→Nat→Nat)(W a b c d e f g h:Nat):Nat:=
 VL (yw (yw (yw (yw h (S1 e)) (ch e f g)) k) (yag W 480)) λt=>
     VL (lo (yw (yw t (S0 a)) (mj a b c))) λa'=>VL (lo (yw d t)) λe'=>VL (kn W) λW'=>ih W' a' a b c e' e f g
noncomputable def kgo(ks:List Nat)(K:Nat→Nat→Nat→Nat→Nat→Nat→Nat→Nat→Nat):Nat→Nat→Nat→Nat→Nat→Nat→Nat→Nat→Nat→Nat:=
 List.rec (motive:=λ_=>Nat→Nat→Nat→Nat→Nat→Nat→Nat→Nat→Nat→Nat) (λ_=>K) (λk _ ih=>kst k ih) ks
def ks:List Nat:=[1116352408,1899447441,3049323471,3921009573,961987163,1508970993,2453635748,2870763221,3624381080,310598401,607225278,1426881987,1925078388,2162078206,2614888103,3248222580,3835390401,4022224774,264347078,604807628,770255983,1249150122,1555081692,1996064986,2554220882,2821834349,2952996808,3210313671,3336571891,3584528711,113926993,338241895,666307205,773529912,1294757372,1396182291,1695183700,1986661051,2177026350,2456956037,2730485921,2820302411,3259730800,3345764771,3516065817,3600352804,4094571909,275423344,430227734,506948616,659060556,883997877,958139571,1322822218,1537002063,1747873779,1955562222,2024104815,2227730452,2361852424,2428436474,2756734187,3204031479,3329325298]
def w32(H i:Nat):Nat:=lo (yag H i)
def cat(H x:Nat):Nat:=yw (Nat.mul H 4294967296) (lo x)
noncomputable def ZKu(H B:Nat):Nat:=
 VL (w32 H 224) λa=>VL (w32 H 192) λb=>VL (w32 H 160) λc=>VL (w32 H 128) λd=>VL (w32 H 96) λe=>VL (w32 H 64) λf=>VL (w32 H 32) λg=>VL (w32 H 0) λh=>
  kgo ks (λa' b' c' d' e' f' g' h'=>cat (cat (cat (cat (cat (cat (cat (cat 0 (yw a' a)) (yw b' b)) (yw c' c)) (yw d' d)) (yw e' e)) (yw f' f)) (yw g' g)) (yw h' h)) B a b c d e f g h
noncomputable def pk(l:List Nat)(n:Nat):Nat:=List.rec (motive:=λ_=>Nat→Nat) (λn=>n) (λx _ ih n=>VL (yw (Nat.mul n 256) x) ih) l n
noncomputable def ZMr(n:Nat)(l:List Nat)(H:Nat):Nat:=
 Nat.rec (motive:=λ_=>List Nat→Nat→Nat) (λ_ H=>H) (λ_ ih l H=>VL (ZKu H (pk (l.take 64) 0)) λH'=>ih (l.drop 64) H') n l H
noncomputable def outs(H:Nat)(l:List Nat):List UInt8:=List.rec (motive:=λ_=>List UInt8) [] (λs _ ih=>VL (Nat.mod (yag H s) 256) λx=>ybk x::ih) l
def ZDn:List Nat:=[248,240,232,224,216,208,200,192,184,176,168,160,152,144,136,128,120,112,104,96,88,80,72,64,56,48,40,32,24,16,8,0]
def be8(n:Nat):List Nat:=[n / 2 ^ 56 % 256,n / 2 ^ 48 % 256,n / 2 ^ 40 % 256,n / 2 ^ 32 % 256,n / 2 ^ 24 % 256,n / 2 ^ 16 % 256,n / 2 ^ 8 % 256,n % 256]
def zs(n:Nat):Nat:=(119 - n % 64) % 64
def H0:Nat:=cat (cat (cat (cat (cat (cat (cat (cat 0 1779033703) 3144134277) 1013904242) 2773480762) 1359893119) 2600822924) 528734635) 1541459225
noncomputable def sha(l:List UInt8):List UInt8:=
 VL l.length λn=>VL (ZMr (Nat.div (yw n 72) 64) (l.map ybi++(128::(yab (zs n) 0++be8 (8*n)))) H0) λH=>outs H ZDn
theorem Zjh(x y:UInt32):(x+y).toNat=lo (x.toNat+y.toNat):=by rw[UInt32.toNat_add];rfl
theorem Zla(x y:UInt32):(x^^^y).toNat=Nat.xor x.toNat y.toNat:=UInt32.toNat_xor ..
theorem ZIz(x y:UInt32):(x&&&y).toNat=Nat.land x.toNat y.toNat:=UInt32.toNat_and ..
theorem ZF5(x y:UInt32):(x|||y).toNat=Nat.lor x.toNat y.toNat:=UInt32.toNat_or ..
theorem ZMs(x:UInt32):x.toNat < 4294967296:=x.toNat_lt
theorem ZBj(x:UInt32)(n:Nat):(ZhF x n).toNat=yag x.toNat n:=by
 unfold ZhF;rw[ycq,show yag x.toNat n=x.toNat >>> n from rfl,Nat.shiftRight_eq_div_pow]
 exact yaq (Nat.lt_of_le_of_lt (Nat.div_le_self _ _) (ZMs x))
theorem ZK7(x:Nat):lo x < 4294967296:=Nat.mod_lt _ (by omega)
theorem Zat{x:Nat}(h:x < 4294967296):lo x=x:=yaq h
theorem ZNo(x:UInt32){n k:Nat}(h:n+k=32)(hn:0 < n):(ZiU x k|||ZhF x n).toNat=lo (yag (dbl x.toNat) n):=by
 rw[ZF5,ZBj];unfold ZiU;have hx:=ZMs x;generalize x.toNat=m at hx;have hp:2 ^ n*2 ^ k=4294967296:=by rw[←Nat.pow_add,h]
 rw[ycq,show yag m n=m >>> n from rfl,Nat.shiftRight_eq_div_pow,show yag (dbl m) n=(dbl m) >>> n from rfl,Nat.shiftRight_eq_div_pow]
 have e1:m*2 ^ k % 2 ^ 32=2 ^ k*(m % 2 ^ n):=by
  rw[show(2:Nat) ^ 32=2 ^ n*2 ^ k from hp.symm,Nat.mul_mod_mul_right]
  exact ybs ..
 have hd:m / 2 ^ n < 2 ^ k:=by
  rw[Nat.div_lt_iff_lt_mul (Nat.two_pow_pos n),ybs,hp];exact hx
 rw[e1,show Nat.lor (2 ^ k*(m % 2 ^ n)) (m / 2 ^ n)=2 ^ k*(m % 2 ^ n)|||m / 2 ^ n from rfl, ←Nat.two_pow_add_eq_or_of_lt hd]
 have e2:dbl m=2 ^ n*(m*2 ^ k)+m:=by
  unfold dbl;rw[Nat.mul_left_comm,hp,show Nat.mul m 4294967297=m*4294967297 from rfl]
  omega
 rw[e2,Nat.mul_add_div (Nat.two_pow_pos n)];unfold lo;rw[show Nat.mod (m*2 ^ k+m / 2 ^ n) 4294967296=(m*2 ^ k+m / 2 ^ n) % 4294967296 from rfl,Nat.add_mod,show m*2 ^ k % 4294967296=2 ^ k*(m % 2 ^ n) from e1,yaq (a:=m / 2 ^ n) (b:=4294967296) (by rw[←hp];exact Nat.lt_of_lt_of_le hd (Nat.le_mul_of_pos_left _ (Nat.two_pow_pos n)))]
 refine(yaq ?_).symm;have hm:m % 2 ^ n < 2 ^ n:=Nat.mod_lt _ (Nat.two_pow_pos n)
 calc 2 ^ k*(m % 2 ^ n)+m / 2 ^ n < 2 ^ k*(m % 2 ^ n)+2 ^ k:=by omega
  _=2 ^ k*(m % 2 ^ n+1):=by rw[Nat.mul_add,Nat.mul_one]
  _≤2 ^ k*2 ^ n:=Nat.mul_le_mul_left _ hm
  _=4294967296:=by rw[ybs,hp]
theorem Zji(x y:Nat):lo (Nat.xor x y)=Nat.xor (lo x) (lo y):=Nat.xor_mod_two_pow (n:=32)
theorem ZIA(x:UInt32)(n:Nat):lo (yag x.toNat n)=yag x.toNat n:=by
 rw[←ZBj];exact Zat (ZMs _)
theorem ZNX(x:UInt32){a b:UInt32}(ha:a.toNat=lo (yag (dbl x.toNat) 7))(hb:b.toNat=lo (yag (dbl x.toNat) 18)):((a^^^b)^^^ZhF x 3).toNat=lo (s0 x.toNat):=by
 unfold s0;rw[Zla,Zla,ZBj,ha,hb,Zji,Zji,ZIA]
theorem ZNY(x:UInt32){a b:UInt32}(ha:a.toNat=lo (yag (dbl x.toNat) 17))(hb:b.toNat=lo (yag (dbl x.toNat) 19)):((a^^^b)^^^ZhF x 10).toNat=lo (s1 x.toNat):=by
 unfold s1;rw[Zla,Zla,ZBj,ha,hb,Zji,Zji,ZIA]
theorem ZNZ(x:UInt32){a b c:UInt32}(ha:a.toNat=lo (yag (dbl x.toNat) 2))(hb:b.toNat=lo (yag (dbl x.toNat) 13))(hc:c.toNat=lo (yag (dbl x.toNat) 22)):((a^^^b)^^^c).toNat=lo (S0 x.toNat):=by
 unfold S0;rw[Zla,Zla,ha,hb,hc,Zji,Zji]
theorem ZN0(x:UInt32){a b c:UInt32}(ha:a.toNat=lo (yag (dbl x.toNat) 6))(hb:b.toNat=lo (yag (dbl x.toNat) 11))(hc:c.toNat=lo (yag (dbl x.toNat) 25)):((a^^^b)^^^c).toNat=lo (S1 x.toNat):=by
 unfold S1;rw[Zla,Zla,ha,hb,hc,Zji,Zji]
theorem ZN1(e f g:UInt32):(g^^^(e&&&(f^^^g))).toNat=ch e.toNat f.toNat g.toNat:=by
 unfold ch;rw[Zla,ZIz,Zla]
theorem ZN2(a b c:UInt32):((a&&&b)|||(c&&&(a|||b))).toNat=mj a.toNat b.toNat c.toNat:=by
 unfold mj;rw[ZF5,ZIz,ZIz,ZF5]
theorem ZN3(a b c d:Nat):lo (lo (lo (a+lo b)+c)+lo d)=lo (a+b+c+d):=by
 show(((a+b % 4294967296) % 4294967296+c) % 4294967296+d % 4294967296) % 4294967296=(a+b+c+d) % 4294967296;omega
theorem ZN4(a b c d e:Nat):lo (lo (lo (lo (a+lo b)+c)+d)+e)=lo (yw (yw (yw (yw a b) c) d) e):=by
 show((((a+b % 4294967296) % 4294967296+c) % 4294967296+d) % 4294967296+e) % 4294967296=(a+b+c+d+e) % 4294967296;omega
theorem ZN5(t s m:Nat):lo (lo (lo t+lo s)+m)=lo (yw (yw t s) m):=by
 show((t % 4294967296+s % 4294967296) % 4294967296+m) % 4294967296=(t+s+m) % 4294967296;omega
theorem ZN6(d t:Nat):lo (d+lo t)=lo (yw d t):=by
 show(d+t % 4294967296) % 4294967296=(d+t) % 4294967296;omega
def pw(n:Nat)(l:List Nat):Nat:=l.foldl (λn x=>n*4294967296+x) n
theorem ZDo:∀(l:List Nat)(n:Nat),(∀x,x∈l→x < 4294967296)→pw n l / 2 ^ (32*l.length)=n
 |[],n,_=>by simp[pw]
 |x::r,n,h=>by
  have ih:=ZDo r (n*4294967296+x) (λy hy=>h y (List.mem_cons_of_mem _ hy));have hx:=h x (List.mem_cons_self ..);rw[show pw n (x::r)=pw (n*4294967296+x) r from rfl,yai,show 32*(r.length+1)=32*r.length+32 by omega,Nat.pow_add, ←Nat.div_div_eq_div_mul,ih]
  omega
theorem ZnO:∀(l:List Nat)(n:Nat),pw n l=n*2 ^ (32*l.length)+pw 0 l
 |[],n=>by simp[pw]
 |x::r,n=>by
  rw[show pw n (x::r)=pw (n*4294967296+x) r from rfl,show pw 0 (x::r)=pw (0*4294967296+x) r from rfl,ZnO r (n*4294967296+x),ZnO r (0*4294967296+x),yai,show 32*(r.length+1)=32+32*r.length by omega,Nat.pow_add,Nat.zero_mul,
   yax,yat, ←Nat.mul_assoc,Nat.add_assoc]
theorem ZK8:∀(l:List Nat),(∀x,x∈l→x < 4294967296)→pw 0 l < 2 ^ (32*l.length)
 |[],_=>by simp[pw]
 |x::r,h=>by
  have ih:=ZK8 r (λy hy=>h y (List.mem_cons_of_mem _ hy));have hx:=h x (List.mem_cons_self ..);rw[show pw 0 (x::r)=pw (0*4294967296+x) r from rfl,ZnO,yai,show 32*(r.length+1)=32+32*r.length by omega,Nat.pow_add,Nat.zero_mul,yax]
  have:(x+1)*2 ^ (32*r.length)≤2 ^ 32*2 ^ (32*r.length):=ycb _ (by omega);rw[yat,Nat.one_mul] at this;omega
theorem ZK9{n x s:Nat}{r:List Nat}(h:∀y,y∈r→y < 4294967296)(hs:s=32*r.length):yag (pw n (x::r)) s=n*4294967296+x:=by
 subst hs;rw[show yag (pw n (x::r)) (32*r.length)=pw n (x::r) >>> (32*r.length) from rfl,Nat.shiftRight_eq_div_pow]
 exact ZDo r (n*4294967296+x) h
theorem ZLa{n x s:Nat}{r:List Nat}(hx:x < 4294967296)(h:∀y,y∈r→y < 4294967296)(hs:s=32*r.length):lo (yag (pw n (x::r)) s)=x:=by
 rw[ZK9 h hs];show(n*4294967296+x) % 4294967296=x;omega
theorem ZDp(n:Nat)(l r:List Nat):pw n (l++r)=pw (pw n l) r:=List.foldl_append ..
theorem ZEN(n x:Nat)(r:List Nat):pw n (x::r)=pw (n*4294967296+x) r:=rfl
theorem Ze1{v l r:List Nat}{x s:Nat}(e:v=l++x::r)(h:∀y,y∈v→y < 4294967296)(hs:s=32*r.length):lo (yag (pw 0 v) s)=x:=by
 rw[e] at h ⊢;rw[ZDp];exact ZLa (h x (by simp)) (λy hy=>h y (by simp[hy])) hs
def wd(ws:List Nat)(n:Nat):Nat:=if h:n < 16 then lo (ws.getD n 0) else lo (wd ws (n - 16)+s0 (wd ws (n - 15))+wd ws (n - 7)+s1 (wd ws (n - 2)))
termination_by n
decreasing_by all_goals omega
theorem ZNp(ws:List Nat)(n:Nat):wd ws n < 4294967296:=by
 rw[wd];split <;> exact ZK7 _
theorem ZEO(ws:List Nat)(n:Nat):wd ws (n+16)=lo (wd ws n+s0 (wd ws (n+1))+wd ws (n+9)+s1 (wd ws (n+14))):=by
 rw[wd,dif_neg (by omega)];simp only[Nat.add_sub_cancel,show n+16 - 15=n+1 by omega,show n+16 - 7=n+9 by omega,show n+16 - 2=n+14 by omega]
def win(ws:List Nat)(i:Nat):List Nat:=[wd ws i,wd ws (i+1),wd ws (i+2),wd ws (i+3),wd ws (i+4),wd ws (i+5),wd ws (i+6),wd ws (i+7),wd ws (i+8),wd ws (i+9),wd ws (i+10),wd ws (i+11),wd ws (i+12),wd ws (i+13),wd ws (i+14),wd ws (i+15)]
theorem ZDq{ws:List Nat}{i:Nat}{l:List Nat}(h:∀x,x∈l→∃j,x=wd ws j):∀x,x∈l→x < 4294967296:=λx hx=>by
 obtain⟨j,rfl⟩:=h x hx;exact ZNp _ _
theorem ZEP(ws:List Nat)(i:Nat):yag (pw 0 (win ws i)) 480=wd ws i:=by
 have h:=ZK9 (n:=0) (x:=wd ws i) (s:=480) (r:=(win ws i).tail) (ZDq (ws:=ws) (i:=i) (λx hx=>by
  simp only[win,List.tail_cons,ycf,List.not_mem_nil,or_false] at hx;rcases hx with h|h|h|h|h|h|h|h|h|h|h|h|h|h|h <;> exact⟨_,h⟩)) rfl
 rw[Nat.zero_mul,yax] at h;exact h
theorem ZMt(ws:List Nat)(i:Nat):kw (pw 0 (win ws i))=wd ws (i+16):=by
 have key:∀(l r:List Nat)(x s:Nat),win ws i=l++x::r→s=32*r.length→lo (yag (pw 0 (win ws i)) s)=x:=by
  intro l r x s e hs
  have hall:∀y,y∈win ws i→y < 4294967296:=ZDq (i:=i) λx hx=>by
   simp only[win,ycf,List.not_mem_nil,or_false] at hx;rcases hx with h|h|h|h|h|h|h|h|h|h|h|h|h|h|h|h <;> exact⟨_,h⟩
  rw[e] at hall ⊢;rw[ZDp];exact ZLa (hall x (by simp)) (λy hy=>hall y (by simp[hy])) hs
 unfold kw;rw[ZEP,key [_] _ (wd ws (i+1)) 448 rfl rfl,key [_,_,_,_,_,_,_,_,_] _ (wd ws (i+9)) 192 rfl rfl,key [_,_,_,_,_,_,_,_,_,_,_,_,_,_] _ (wd ws (i+14)) 32 rfl rfl,ZEO];rfl
theorem ZKv(a b m:Nat)(h:b < 2 ^ m):Nat.mod (a*2 ^ m+b) (Nat.pow 2 m)=b:=by
 show(a*2 ^ m+b) % 2 ^ m=b;rw[ybs,Nat.mul_add_mod];exact yaq h
theorem ZMu(ws:List Nat)(i:Nat):kn (pw 0 (win ws i))=pw 0 (win ws (i+1)):=by
 have e:yw (Nat.mul (pw 0 (win ws i)) 4294967296) (kw (pw 0 (win ws i)))=pw (wd ws i) (win ws (i+1)):=by
  rw[ZMt];show pw 0 (win ws i)*4294967296+wd ws (i+16)=pw (wd ws i) (win ws (i+1));rw[show wd ws i=0*4294967296+wd ws i by omega];rfl
 unfold kn;rw[e,ZnO];have hl:(win ws (i+1)).length=16:=rfl
 have hlt:=ZK8 (win ws (i+1)) (ZDq (i:=i+1) λx hx=>by
  simp only[win,ycf,List.not_mem_nil,or_false] at hx;rcases hx with h|h|h|h|h|h|h|h|h|h|h|h|h|h|h|h <;> exact⟨_,h⟩)
 rw[show 512=32*(win ws (i+1)).length by rw[hl]];exact ZKv _ _ _ hlt
def rnd(v:List Nat)(k w:Nat):List Nat:=match v with
 |[a,b,c,d,e,f,g,h]=>[lo (yw (yw (yw (yw (yw (yw h (S1 e)) (ch e f g)) k) w) (S0 a)) (mj a b c)),a,b,c,lo (yw d (yw (yw (yw (yw h (S1 e)) (ch e f g)) k) w)),e,f,g]
 |_=>[]
def rs(ws v:List Nat):Nat→List Nat
 |0=>v
 |i+1=>rnd (rs ws v i) (ks.getD i 0) (wd ws i)
theorem ZKw{v:List Nat}(h:v.length=8)(k w:Nat):(rnd v k w).length=8:=by
 match v,h with
 |[a,b,c,d,e,f,g,h],_=>rfl
theorem ZyP{ws v:List Nat}(h:v.length=8):∀i,(rs ws v i).length=8
 |0=>h
 |i+1=>ZKw (ZyP h i) _ _
noncomputable def ZIB(f:Nat→Nat→Nat→Nat→Nat→Nat→Nat→Nat→Nat)(v:List Nat):Nat:=match v with
 |[a,b,c,d,e,f',g,h]=>f a b c d e f' g h
 |_=>0
theorem Zkt{F:Nat→Nat→Nat→Nat→Nat→Nat→Nat→Nat→Nat}{a b c d e f g h:Nat}:ZIB F [a,b,c,d,e,f,g,h]=F a b c d e f g h:=rfl
theorem ZIC(k:Nat)(l:List Nat)(K:Nat→Nat→Nat→Nat→Nat→Nat→Nat→Nat→Nat):kgo (k::l) K=kst k (kgo l K):=rfl
theorem ZBk(a b c d e f g h k w:Nat):rnd [a,b,c,d,e,f,g,h] k w=[lo (yw (yw (yw (yw (yw (yw h (S1 e)) (ch e f g)) k) w) (S0 a)) (mj a b c)),a,b,c,lo (yw d (yw (yw (yw (yw h (S1 e)) (ch e f g)) k) w)),e,f,g]:=rfl
theorem ZMv(k:Nat)(ih:Nat→Nat→Nat→Nat→Nat→Nat→Nat→Nat→Nat→Nat)(W a b c d e f g h:Nat):kst k ih W a b c d e f g h=
 ih (kn W) (lo (yw (yw (yw (yw (yw (yw h (S1 e)) (ch e f g)) k) (yag W 480)) (S0 a)) (mj a b c))) a b c (lo (yw d (yw (yw (yw (yw h (S1 e)) (ch e f g)) k) (yag W 480)))) e f g:=by
 unfold kst;rw[YX,YX,YX,YX]
theorem ZID{ws v:List Nat}{K:Nat→Nat→Nat→Nat→Nat→Nat→Nat→Nat→Nat}{k w:Nat}{l:List Nat}(hv:v.length=8){W:Nat}(hW:yag W 480=w):ZIB (kgo (k::l) K W) v=ZIB (kgo l K (kn W)) (rnd v k w):=by
 match v,hv with
 |[a,b,c,d,e,f,g,h],_=>
  rw[ZIC,Zkt,ZMv,hW,ZBk,Zkt]
theorem ZEQ{ws v:List Nat}{K:Nat→Nat→Nat→Nat→Nat→Nat→Nat→Nat→Nat}(hv:v.length=8):∀(m i:Nat),i+m=64→ZIB (kgo (ks.drop i) K (pw 0 (win ws i))) (rs ws v i)=ZIB K (rs ws v 64)
 |0,i,h=>by
  have e:i=64:=by omega
  subst e;rw[show ks.drop 64=[] from rfl]
  generalize pw 0 (win ws 64)=W
  rfl
 |m+1,i,h=>by
  have hi:i < ks.length:=by show i < 64;omega
  rw[List.drop_eq_getElem_cons hi,ZID (ws:=ws) (ZyP hv i) (ZEP ws i),ZMu];have:=ZEQ (ws:=ws) (K:=K) hv m (i+1) (by omega);rw[show rs ws v (i+1)=rnd (rs ws v i) (ks.getD i 0) (wd ws i) from rfl,show ks.getD i 0=ks[i] by rw[ycu,List.getElem?_eq_getElem hi];rfl] at this
  exact this
def ZnP(v ws:List Nat):List Nat:=List.zipWith (λx y=>lo (x+y)) (rs ws v 64) v
theorem Zjj{v ws:List Nat}(h:v.length=8):(ZnP v ws).length=8:=by
 rw[ZnP,List.length_zipWith,ZyP h,h];rfl
theorem ZER{v ws:List Nat}:∀x,x∈ZnP v ws→x < 4294967296:=by
 intro x hx;unfold ZnP at hx;rw[List.mem_iff_getElem] at hx;obtain⟨i,hi,rfl⟩:=hx;rw[List.getElem_zipWith];exact ZK7 _
theorem ZKx{v ws:List Nat}(hv:v.length=8)(hlt:∀x,x∈v→x < 4294967296)(hw:ws.length=16)(hwl:∀x,x∈ws→x < 4294967296):ZKu (pw 0 v) (pw 0 ws)=pw 0 (ZnP v ws):=by
 have e0:ws=win ws 0:=by
  match ws,hw with
  |[a0,a1,a2,a3,a4,a5,a6,a7,a8,a9,a10,a11,a12,a13,a14,a15],_=>
   simp only[ycf,List.not_mem_nil,or_false,forall_eq_or_imp,forall_eq] at hwl;obtain⟨h0,h1,h2,h3,h4,h5,h6,h7,h8,h9,h10,h11,h12,h13,h14,h15⟩:=hwl;have hs:∀n,n < 16→wd [a0,a1,a2,a3,a4,a5,a6,a7,a8,a9,a10,a11,a12,a13,a14,a15] n=lo ([a0,a1,a2,a3,a4,a5,a6,a7,a8,a9,a10,a11,a12,a13,a14,a15].getD n 0):=λn hn=>by rw[wd,dif_pos hn]
   unfold win;rw[hs 0 (by omega),hs (0+1) (by omega),hs (0+2) (by omega),hs (0+3) (by omega),hs (0+4) (by omega),hs (0+5) (by omega),hs (0+6) (by omega),hs (0+7) (by omega),hs (0+8) (by omega),hs (0+9) (by omega),hs (0+10) (by omega),hs (0+11) (by omega),hs (0+12) (by omega),hs (0+13) (by omega),hs (0+14) (by omega),hs (0+15) (by omega)];show _=[lo a0,lo a1,lo a2,lo a3,lo a4,lo a5,lo a6,lo a7,lo a8,lo a9,lo a10,lo a11,lo a12,lo a13,lo a14,lo a15];rw[Zat h0,Zat h1,Zat h2,Zat h3,Zat h4,Zat h5,Zat h6,Zat h7,Zat h8,Zat h9,Zat h10,Zat h11,Zat h12,Zat h13,Zat h14,Zat h15]
 match v,hv with
 |[a,b,c,d,e,f,g,h],hv=>
  have ea:w32 (pw 0 [a,b,c,d,e,f,g,h]) 224=a:=Ze1 (l:=[]) (r:=[b,c,d,e,f,g,h]) rfl hlt rfl;have eb:w32 (pw 0 [a,b,c,d,e,f,g,h]) 192=b:=Ze1 (l:=[a]) (r:=[c,d,e,f,g,h]) rfl hlt rfl;have ec:w32 (pw 0 [a,b,c,d,e,f,g,h]) 160=c:=Ze1 (l:=[a,b]) (r:=[d,e,f,g,h]) rfl hlt rfl;have ed:w32 (pw 0 [a,b,c,d,e,f,g,h]) 128=d:=Ze1 (l:=[a,b,c]) (r:=[e,f,g,h]) rfl hlt rfl;have ee:w32 (pw 0 [a,b,c,d,e,f,g,h]) 96=e:=Ze1 (l:=[a,b,c,d]) (r:=[f,g,h]) rfl hlt rfl;have ef:w32 (pw 0 [a,b,c,d,e,f,g,h]) 64=f:=Ze1 (l:=[a,b,c,d,e]) (r:=[g,h]) rfl hlt rfl;have eg:w32 (pw 0 [a,b,c,d,e,f,g,h]) 32=g:=Ze1 (l:=[a,b,c,d,e,f]) (r:=[h]) rfl hlt rfl;have eh:w32 (pw 0 [a,b,c,d,e,f,g,h]) 0=h:=Ze1 (l:=[a,b,c,d,e,f,g]) (r:=[]) rfl hlt rfl;unfold ZKu;rw[ea,eb,ec,ed,ee,ef,eg,eh,YX,YX,YX,YX,YX,YX,YX,YX];have hr:=ZEQ (ws:=ws) (v:=[a,b,c,d,e,f,g,h]) (K:=λa' b' c' d' e' f' g' h'=>cat (cat (cat (cat (cat (cat (cat (cat 0 (yw a' a)) (yw b' b)) (yw c' c)) (yw d' d)) (yw e' e)) (yw f' f)) (yw g' g)) (yw h' h)) rfl 64 0 rfl;rw[←e0,show ks.drop 0=ks from rfl,show rs ws [a,b,c,d,e,f,g,h] 0=[a,b,c,d,e,f,g,h] from rfl,Zkt] at hr
  rw[hr];unfold ZnP;generalize rs ws [a,b,c,d,e,f,g,h] 64=q,ZyP (ws:=ws) hv 64=hq
  match q,hq with
  |[a',b',c',d',e',f',g',h'],_=>
   rw[Zkt];simp only[List.zipWith_cons_cons,List.zipWith_nil_right,ZEN,cat];rfl
theorem Zr1(x:Nat)(l:List Nat)(n:Nat):pk (x::l) n=pk l (n*256+x):=by
 show VL (yw (Nat.mul n 256) x) (pk l)=_;rw[YX];rfl
def YT:List Nat→List Nat
 |a::b::c::d::r=>(((a*256+b)*256+c)*256+d)::YT r
 |_=>[]
theorem ZBl:∀(m:Nat)(l:List Nat)(n:Nat),l.length=4*m→pk l n=pw n (YT l)
 |0,[],n,_=>rfl
 |0,_::_,_,h=>by simp at h
 |m+1,[],_,h=>by simp at h
 |m+1,[_],_,h=>by simp at h;omega
 |m+1,[_,_],_,h=>by simp at h;omega
 |m+1,[_,_,_],_,h=>by simp at h;omega
 |m+1,a::b::c::d::r,n,h=>by
  rw[Zr1,Zr1,Zr1,Zr1,YT];rw[ZBl m r _ (by simp at h;omega),ZEN];have e:(((n*256+a)*256+b)*256+c)*256+d=n*4294967296+(((a*256+b)*256+c)*256+d):=by omega
  rw[e]
theorem Zqw:∀(m:Nat)(l:List Nat),l.length=4*m→(YT l).length=m
 |0,[],_=>rfl
 |0,_::_,h=>by simp at h
 |m+1,[],h=>by simp at h
 |m+1,[_],h=>by simp at h;omega
 |m+1,[_,_],h=>by simp at h;omega
 |m+1,[_,_,_],h=>by simp at h;omega
 |m+1,a::b::c::d::r,h=>by
  rw[YT,yai,Zqw m r (by simp at h;omega)]
theorem ZtU:∀(m:Nat)(l:List Nat),l.length=4*m→(∀x,x∈l→x < 256)→∀x,x∈YT l→x < 4294967296
 |0,[],_,_,x,hx=>by simp[YT] at hx
 |0,_::_,h,_,_,_=>by simp at h
 |m+1,[],h,_,_,_=>by simp at h
 |m+1,[_],h,_,_,_=>by simp at h;omega
 |m+1,[_,_],h,_,_,_=>by simp at h;omega
 |m+1,[_,_,_],h,_,_,_=>by simp at h;omega
 |m+1,a::b::c::d::r,h,hl,x,hx=>by
  rw[YT] at hx;have h1:=hl a (by simp);have h2:=hl b (by simp);have h3:=hl c (by simp);have h4:=hl d (by simp);rcases ycf.1 hx with rfl|hx
  ·omega
  ·exact ZtU m r (by simp at h;omega) (λy hy=>hl y (by simp[hy])) x hx
theorem Zqx:∀(i:Nat)(l:List Nat)(a b c d:Nat),l[4*i]? =some a→l[4*i+1]? =some b→l[4*i+2]? =some c→l[4*i+3]? =some d→(YT l)[i]? =some (((a*256+b)*256+c)*256+d)
 |0,[],_,_,_,_,h,_,_,_=>by simp at h
 |0,[_],_,_,_,_,_,h,_,_=>by simp at h
 |0,[_,_],_,_,_,_,_,_,h,_=>by simp at h
 |0,[_,_,_],_,_,_,_,_,_,_,h=>by simp at h
 |0,a::b::c::d::r,_,_,_,_,h1,h2,h3,h4=>by
  simp at h1 h2 h3 h4;subst h1 h2 h3 h4
  rfl
 |i+1,[],_,_,_,_,h,_,_,_=>by simp at h
 |i+1,[_],_,_,_,_,h,_,_,_=>by simp[show 4*(i+1)=4*i+3+1 by omega] at h
 |i+1,[_,_],_,_,_,_,h,_,_,_=>by simp[show 4*(i+1)=4*i+2+1+1 by omega] at h
 |i+1,[_,_,_],_,_,_,_,h,_,_,_=>by simp[show 4*(i+1)=4*i+1+1+1+1 by omega] at h
 |i+1,a::b::c::d::r,_,_,_,_,h1,h2,h3,h4=>by
  rw[YT,yar]
  exact Zqx i r _ _ _ _ (by simpa[show 4*(i+1)=4*i+1+1+1+1 by omega] using h1) (by simpa[show 4*(i+1)+1=4*i+1+1+1+1+1 by omega] using h2)
   (by simpa[show 4*(i+1)+2=4*i+2+1+1+1+1 by omega] using h3) (by simpa[show 4*(i+1)+3=4*i+3+1+1+1+1 by omega] using h4)
def Zgj:Nat→List Nat→List Nat→List Nat
 |0,_,v=>v
 |n+1,l,v=>Zgj n (l.drop 64) (ZnP v (YT (l.take 64)))
theorem ZES:∀(n:Nat)(l v:List Nat),l.length=64*n→(∀x,x∈l→x < 256)→v.length=8→(∀x,x∈v→x < 4294967296)→ZMr n l (pw 0 v)=pw 0 (Zgj n l v)
 |0,l,v,_,_,_,_=>rfl
 |n+1,l,v,h1,h2,h3,h4=>by
  show VL (ZKu (pw 0 v) (pk (l.take 64) 0)) (ZMr n (l.drop 64))=_;have hl:(l.take 64).length=4*16:=by rw[yae];omega
  rw[YX,ZBl 16 _ 0 hl,ZKx h3 h4 (Zqw 16 _ hl) (ZtU 16 _ hl λx hx=>h2 x (List.mem_of_mem_take hx))];exact ZES n (l.drop 64) _ (by rw[ybq];omega) (λx hx=>h2 x (List.mem_of_mem_drop hx)) (Zjj h3) ZER
theorem ZBm:∀(n:Nat)(l v:List Nat),v.length=8→(Zgj n l v).length=8
 |0,_,_,h=>h
 |n+1,l,v,h=>ZBm n _ _ (Zjj h)
theorem ZET:∀(n:Nat)(l v:List Nat),(∀x,x∈v→x < 4294967296)→∀x,x∈Zgj n l v→x < 4294967296
 |0,_,_,h=>h
 |n+1,l,v,h=>ZET n _ _ ZER
theorem ZtV:∀(n m:Nat)(l r v:List Nat),l.length=64*n→Zgj (n+m) (l++r) v=Zgj m r (Zgj n l v)
 |0,m,l,r,v,h=>by
  have:l=[]:=List.length_eq_zero_iff.1 (by omega);subst this;rw[yax]
  rfl
 |n+1,m,l,r,v,h=>by
  rw[show n+1+m=(n+m)+1 by omega,Zgj,List.drop_append_of_le_length (by omega),List.take_append_of_le_length (by omega),ZtV n m _ r _ (by rw[ybq];omega)];rfl
theorem Zpo:∀(c:Nat)(l v:List Nat),Zgj (c+1) l v=ZnP (Zgj c l v) (YT ((l.drop (64*c)).take 64))
 |0,l,v=>by rw[Nat.mul_zero,List.drop_zero];rfl
 |c+1,l,v=>by
  rw[show Zgj (c+1+1) l v=Zgj (c+1) (l.drop 64) (ZnP v (YT (l.take 64))) from rfl,Zpo c,List.drop_drop,show 64+64*c=64*(c+1) by omega]
  rfl
theorem ZIE(ws:List Nat){n x:Nat}(hn:n < 16)(h:ws[n]? =some x)(hx:x < 4294967296):wd ws n=x:=by
 rw[wd,dif_pos hn,ycu,h];exact Zat hx
def ZIF(v:List Nat)(k:Nat):UInt8:=ybk (v.getD (k / 4) 0 / 2 ^ (24 - 8*(k % 4)))
theorem ZKy{v:List Nat}(hv:v.length=8)(hlt:∀x,x∈v→x < 4294967296):outs (pw 0 v) ZDn=(List.range 32).map (ZIF v):=by
 have hgo:∀(H:Nat)(l:List Nat),outs H l=l.map λs=>ybk (H / 2 ^ s % 256):=by
  intro H l
  induction l with
  |nil=>rfl
  |cons s r ih=>
   show VL (Nat.mod (yag H s) 256) (λx=>ybk x::outs H r)=_;rw[YX,ih,yad,show yag H s=H >>> s from rfl,Nat.shiftRight_eq_div_pow]
   rfl
 have hb:∀(l r:List Nat)(x j s:Nat),v=l++x::r→j≤24→s=32*r.length+j→ybk (pw 0 v / 2 ^ s % 256)=ybk (x / 2 ^ j):=by
  intro l r x j s e hj hs;have hall:=hlt;rw[e] at hall
  have h1:pw 0 v / 2 ^ (32*r.length)=pw 0 l*4294967296+x:=by
   rw[e,ZDp];exact ZDo r _ (λy hy=>hall y (by simp[hy]))
  rw[hs,Nat.pow_add, ←Nat.div_div_eq_div_mul,h1]
  have h2:pw 0 l*4294967296+x=2 ^ j*(pw 0 l*2 ^ (24 - j)*256)+x:=by
   rw[show(4294967296:Nat)=2 ^ j*2 ^ (24 - j)*256 by rw[←Nat.pow_add,show j+(24 - j)=24 by omega]];congr 1;ac_rfl
  rw[h2,Nat.mul_add_div (Nat.two_pow_pos j),ybs (pw 0 l*2 ^ (24 - j)) 256,Nat.mul_add_mod];exact UInt8.toNat_inj.1 (by simp)
 match v,hv with
 |[a,b,c,d,e,f,g,h],_=>
  rw[hgo];simp only[ZDn,yad,List.map_nil]
  rw[hb [] [b,c,d,e,f,g,h] a 24 248 rfl (by omega) rfl,hb [] [b,c,d,e,f,g,h] a 16 240 rfl (by omega) rfl,hb [] [b,c,d,e,f,g,h] a 8 232 rfl (by omega) rfl,hb [] [b,c,d,e,f,g,h] a 0 224 rfl (by omega) rfl,
   hb [a] [c,d,e,f,g,h] b 24 216 rfl (by omega) rfl,hb [a] [c,d,e,f,g,h] b 16 208 rfl (by omega) rfl,hb [a] [c,d,e,f,g,h] b 8 200 rfl (by omega) rfl,hb [a] [c,d,e,f,g,h] b 0 192 rfl (by omega) rfl,
   hb [a,b] [d,e,f,g,h] c 24 184 rfl (by omega) rfl,hb [a,b] [d,e,f,g,h] c 16 176 rfl (by omega) rfl,hb [a,b] [d,e,f,g,h] c 8 168 rfl (by omega) rfl,hb [a,b] [d,e,f,g,h] c 0 160 rfl (by omega) rfl,
   hb [a,b,c] [e,f,g,h] d 24 152 rfl (by omega) rfl,hb [a,b,c] [e,f,g,h] d 16 144 rfl (by omega) rfl,hb [a,b,c] [e,f,g,h] d 8 136 rfl (by omega) rfl,hb [a,b,c] [e,f,g,h] d 0 128 rfl (by omega) rfl,
   hb [a,b,c,d] [f,g,h] e 24 120 rfl (by omega) rfl,hb [a,b,c,d] [f,g,h] e 16 112 rfl (by omega) rfl,hb [a,b,c,d] [f,g,h] e 8 104 rfl (by omega) rfl,hb [a,b,c,d] [f,g,h] e 0 96 rfl (by omega) rfl,
   hb [a,b,c,d,e] [g,h] f 24 88 rfl (by omega) rfl,hb [a,b,c,d,e] [g,h] f 16 80 rfl (by omega) rfl,hb [a,b,c,d,e] [g,h] f 8 72 rfl (by omega) rfl,hb [a,b,c,d,e] [g,h] f 0 64 rfl (by omega) rfl,
   hb [a,b,c,d,e,f] [h] g 24 56 rfl (by omega) rfl,hb [a,b,c,d,e,f] [h] g 16 48 rfl (by omega) rfl,hb [a,b,c,d,e,f] [h] g 8 40 rfl (by omega) rfl,hb [a,b,c,d,e,f] [h] g 0 32 rfl (by omega) rfl,
   hb [a,b,c,d,e,f,g] [] h 24 24 rfl (by omega) rfl,hb [a,b,c,d,e,f,g] [] h 16 16 rfl (by omega) rfl,hb [a,b,c,d,e,f,g] [] h 8 8 rfl (by omega) rfl,hb [a,b,c,d,e,f,g] [] h 0 0 rfl (by omega) rfl]
  rfl
def Zg8(l:List UInt8):List Nat:=l.map ybi++(128::(yab (zs l.length) 0++be8 (8*l.length)))
def Zg9:List Nat:=[1779033703,3144134277,1013904242,2773480762,1359893119,2600822924,528734635,1541459225]
theorem ZDr(l:List UInt8):(Zg8 l).length=64*((l.length+72) / 64):=by
 unfold Zg8;simp only[yr,yx,yai,yco,be8,List.length_nil,zs];omega
theorem ZF6(l:List UInt8):∀x,x∈Zg8 l→x < 256:=by
 intro x hx;unfold Zg8 at hx;simp only[List.mem_append,List.mem_map,ycf,List.mem_replicate,be8,List.not_mem_nil,or_false] at hx;rcases hx with⟨y,_,rfl⟩|rfl|⟨_,rfl⟩|h
 ·exact y.toNat_lt
 ·omega
 ·omega
 ·rcases h with h|h|h|h|h|h|h|h <;> rw[h] <;> exact Nat.mod_lt _ (by omega)
theorem ZIG(l:List UInt8):sha l=(List.range 32).map (ZIF (Zgj ((l.length+72) / 64) (Zg8 l) Zg9)):=by
 unfold sha
 rw[YX,YX,show H0=pw 0 Zg9 from rfl,show l.map ybi++(128::(yab (zs l.length) 0++be8 (8*l.length)))=Zg8 l from rfl,
  show Nat.div (yw l.length 72) 64=(l.length+72) / 64 from rfl]
 have hf:∀x,x∈Zg9→x < 4294967296:=by decide
 rw[ZES _ _ _ (ZDr l) (ZF6 l) rfl hf];exact ZKy (ZBm _ _ _ rfl) (ZET _ _ _ hf)
theorem ZNT(l:List UInt8):(sha l).length=32:=by rw[ZIG];simp
end Go.Sha
end
section
set_option maxRecDepth 4000
namespace Go.Proofs.YtekdgjajmennjaaGreat
open Go Go.Ev Go.Sha
theorem ZfF(x:UInt32)(n k:Nat)(h:n+k=32)(hn:0 < n){z:Int}(hz:((w64 z)&&&31).toNat=k):∃o,ZG fuel x z=some o∧o.toNat=lo (yag (dbl x.toNat) n):=by
 refine⟨_,rfl, ?_⟩;have e1:((((w64 z)&&&31).toNat:Int)).toNat=k:=by rw[hz];rfl
 have e2:(32 - ((w64 z)&&&31)).toNat=n:=by
  have h1:((w64 z)&&&31)=yal k:=yck.1 (by rw[hz,ybo];omega);rw[h1,UInt64.toNat_sub,ybo];show(2 ^ 64 - k % 2 ^ 64+32) % 2 ^ 64=n;omega
 rw[e1,show((((32 - ((w64 z)&&&31)).toNat:Nat):Int)).toNat=n by rw[e2];rfl,Nat.min_eq_left (by omega),Nat.min_eq_left (by omega)];exact ZNo x h hn
theorem ZMw{l:List UInt8}{a b c d:UInt8}(ha:l[0]? =some a)(hb:l[1]? =some b)(hc:l[2]? =some c)(hd:l[3]? =some d):∃o,ZcT fuel l=some o∧o.toNat=((a.toNat*256+b.toNat)*256+c.toNat)*256+d.toNat:=by
 unfold ZcT;rw[Zkq (i:=0) (by omega) ha,Zkq (i:=1) (by omega) hb,Zkq (i:=2) (by omega) hc,Zkq (i:=3) (by omega) hd];refine⟨_,rfl, ?_⟩;have h1:=a.toNat_lt;have h2:=b.toNat_lt;have h3:=c.toNat_lt;have h4:=d.toNat_lt
 have hs:∀(x:UInt8)(n:Nat),n≤24→(ZiU (UInt32.ofNat x.toNat) n).toNat=x.toNat*2 ^ n:=by
  intro x n hn;have hx:=x.toNat_lt;unfold ZiU;rw[ycq,ycq,yaq (a:=x.toNat) (by omega)];refine yaq ?_
  calc x.toNat*2 ^ n < 2 ^ 8*2 ^ n:=Nat.mul_lt_mul_of_pos_right hx (Nat.two_pow_pos n)
   _=2 ^ (8+n):=(Nat.pow_add ..).symm
   _≤2 ^ 32:=Nat.pow_le_pow_right (by omega) (by omega)
 rw[ZF5,ZF5,ZF5,hs _ _ (by omega),hs _ _ (by omega),hs _ _ (by omega),ycq,yaq (a:=d.toNat) (by omega)]
 have k1:Nat.lor (a.toNat*2 ^ 24) (b.toNat*2 ^ 16)=2 ^ 16*(a.toNat*256+b.toNat):=by
  rw[ybs a.toNat,show Nat.lor (2 ^ 24*a.toNat) (b.toNat*2 ^ 16)=2 ^ 24*a.toNat|||b.toNat*2 ^ 16 from rfl, ←Nat.two_pow_add_eq_or_of_lt (by omega)]
  omega
 have k2:Nat.lor (2 ^ 16*(a.toNat*256+b.toNat)) (c.toNat*2 ^ 8)=2 ^ 8*((a.toNat*256+b.toNat)*256+c.toNat):=by
  rw[show Nat.lor (2 ^ 16*(a.toNat*256+b.toNat)) (c.toNat*2 ^ 8)=2 ^ 16*(a.toNat*256+b.toNat)|||c.toNat*2 ^ 8 from rfl, ←Nat.two_pow_add_eq_or_of_lt (by omega)]
  omega
 rw[k1,k2,show Nat.lor (2 ^ 8*((a.toNat*256+b.toNat)*256+c.toNat)) d.toNat=2 ^ 8*((a.toNat*256+b.toNat)*256+c.toNat)|||d.toNat from rfl, ←Nat.two_pow_add_eq_or_of_lt (by omega)]
 omega
theorem ZIH{l:List UInt8}(h:l.length=64):∃o,QX fuel l=some o∧o.length=64∧∀(i:Nat)x,i < 64→o[i]? =some x→x.toNat=wd (YT (l.map ybi)) i:=by
 unfold QX;generalize hz:([0,0,0,0,0,0,0,0,0,0,0,0,0,0,0,0,0,0,0,0,0,0,0,0,0,0,0,0,0,0,0,0,0,0,0,0,0,0,0,0,0,0,0,0,0,0,0,0,0,0,0,0,0,0,0,0,0,0,0,0,0,0,0,0]:List UInt32)=z;have hzl:z.length=64:=by rw[←hz];rfl
 refine Exists.elim (Xv (step:=WO fuel) (λs=>s.1=l∧0≤s.2.1∧s.2.1≤64∧s.2.2.length=64∧∀(j:Nat)x,(j:Int) < s.2.1→s.2.2[j]? =some x→x.toNat=wd (YT (l.map ybi)) j) (λs=>(64 - s.2.1).toNat)
  (λo=>o.length=64∧∀(j:Nat)x,j < 64→o[j]? =some x→x.toNat=wd (YT (l.map ybi)) j) ?_ (l,(0:Int),z) ⟨rfl,Int.le_refl _,by dsimp only;omega,hzl,λj x hj=>by dsimp only at hj;omega⟩ (by dsimp only;omega)) ?_
 rotate_left
 ·rintro o ⟨h1,h2⟩;exact⟨o,by rw[h1];rfl,h2⟩
 ·rintro⟨b,i,w⟩ ⟨hb,h0,h64,hw,hv⟩;dsimp only at hb h0 h64 hw hv;subst hb;unfold WO;dsimp only
  have hset:∀(y:UInt32),y.toNat=wd (YT (b.map ybi)) i.toNat→i < 64→∀(j:Nat)x,(j:Int) < i+1→(w.set i.toNat y)[j]? =some x→x.toNat=wd (YT (b.map ybi)) j:=by
   intro y hy hi j x hj hx;by_cases hji:j=i.toNat
   ·subst hji;rw[ycl (by omega)] at hx;cases hx;exact hy
   ·rw[List.getElem?_set_ne (Ne.symm hji)] at hx;exact hv j x (by omega) hx
  by_cases hi:i < 64
  ·left;rw[if_pos (decide_eq_true hi)];obtain⟨e,he⟩:=QU (l:=w) (i:=i.toNat) (by omega);by_cases h16:i < 16
   ·rw[if_pos (decide_eq_true h16),Y3 (z:=4*i) (by omega) (by omega),if_pos (by simp only[ZaM,yi,decide_eq_true_eq];omega)];have g:∀k:Nat,k < 4→∃x,b[4*i.toNat+k]? =some x:=λk hk=>QU (by omega);obtain⟨x0,g0⟩:=g 0 (by omega);obtain⟨x1,g1⟩:=g 1 (by omega);obtain⟨x2,g2⟩:=g 2 (by omega);obtain⟨x3,g3⟩:=g 3 (by omega);have e4:(4*i).toNat=4*i.toNat:=by omega
    obtain⟨o,ho,hoe⟩:=ZMw (l:=b.drop (4*i).toNat) (by rw[List.getElem?_drop,e4];exact g0) (by rw[List.getElem?_drop,e4];exact g1) (by rw[List.getElem?_drop,e4];exact g2) (by rw[List.getElem?_drop,e4];exact g3);rw[ho,yf,if_pos (Y6 h0 (by omega)),he,yf,Y3 (z:=i+1) (by omega) (by omega)];refine⟨_,rfl,⟨rfl,by dsimp only;omega,by dsimp only;omega,by dsimp only;rw[ybc];exact hw,hset o ?_ hi⟩,by dsimp only;omega⟩;have mg:∀(k:Nat)(x:UInt8),b[k]? =some x→(b.map ybi)[k]? =some x.toNat:=λk x hx=>by rw[yaf,hx];rfl
    have hwg:=Zqx i.toNat (b.map ybi) _ _ _ _ (mg _ _ g0) (mg _ _ g1) (mg _ _ g2) (mg _ _ g3);rw[hoe];have b0:=x0.toNat_lt;have b1:=x1.toNat_lt;have b2:=x2.toNat_lt;have b3:=x3.toNat_lt;exact(ZIE _ (by omega) hwg (by omega)).symm
   ·rw[if_neg (by simpa using h16)];rw[Y3 (z:=i - 15) (by omega) (by omega),Y3 (z:=i - 2) (by omega) (by omega),Y3 (z:=i - 16) (by omega) (by omega),Y3 (z:=i - 7) (by omega) (by omega),Y3 (z:=i+1) (by omega) (by omega)];obtain⟨e1,he1⟩:=QU (l:=w) (i:=(i - 15).toNat) (by omega);obtain⟨e2,he2⟩:=QU (l:=w) (i:=(i - 2).toNat) (by omega);obtain⟨e3,he3⟩:=QU (l:=w) (i:=(i - 16).toNat) (by omega);obtain⟨e4,he4⟩:=QU (l:=w) (i:=(i - 7).toNat) (by omega);have v1:=hv _ _ (by omega) he1;have v2:=hv _ _ (by omega) he2;have v3:=hv _ _ (by omega) he3;have v4:=hv _ _ (by omega) he4;rw[if_pos (Y6 (by omega) (by omega)),he1,yf,if_pos (Y6 (by omega) (by omega)),he2,yf];obtain⟨o1,ho1,p1⟩:=ZfF e1 7 25 rfl (by omega) (z:= -7) rfl;obtain⟨o2,ho2,p2⟩:=ZfF e1 18 14 rfl (by omega) (z:= -18) rfl;obtain⟨o3,ho3,p3⟩:=ZfF e2 17 15 rfl (by omega) (z:= -17) rfl;obtain⟨o4,ho4,p4⟩:=ZfF e2 19 13 rfl (by omega) (z:= -19) rfl;rw[ho1,yf,ho2,yf,ho3,yf,ho4,yf];rw[if_pos (Y6 (by omega) (by omega)),he3,yf,if_pos (Y6 (by omega) (by omega)),he4,yf]
    try dsimp only
    rw[if_pos (Y6 h0 (by omega)),he,yf];refine⟨_,rfl,⟨rfl,by dsimp only;omega,by dsimp only;omega,by dsimp only;rw[ybc];exact hw,hset _ ?_ hi⟩,by dsimp only;omega⟩;have hn:=ZEO (YT (b.map ybi)) (i - 16).toNat
    rw[show(i - 16).toNat+16=i.toNat by omega,show(i - 16).toNat+1=(i - 15).toNat by omega,show(i - 16).toNat+9=(i - 7).toNat by omega,show(i - 16).toNat+14=(i - 2).toNat by omega, ←v1, ←v2, ←v3, ←v4] at hn;rw[hn];rw[Zjh,Zjh,Zjh,ZNX e1 p1 p2,ZNY e2 p3 p4];exact ZN3 ..
  ·right;rw[if_neg (by simpa using hi)];exact⟨_,rfl,hw,λj x hj hx=>hv j x (by omega) hx⟩
theorem ZII{st:List UInt32}{l:List UInt8}(hs:st.length=8)(h:l.length=64):∃o,Ww fuel st l=some o∧o.map ybl=ZnP (st.map ybl) (YT (l.map ybi)):=by
 unfold Ww;obtain⟨w,hw,hwl,hwv⟩:=ZIH h;obtain⟨k,hk,hkv⟩:∃k,Zje fuel=some k∧k.map ybl=ks:=⟨_,rfl,rfl⟩;have hkl:k.length=64:=by rw[←yx (f:=ybl),hkv];rfl
 generalize hws:YT (l.map ybi)=ws at hwv;rw[hw,yf,hk,yf]
 refine Exists.elim (Xv (step:=Wn fuel) (λs=>0≤s.1∧s.1≤64∧s.2.1=st∧s.2.2.2.1=w∧s.2.2.2.2.1=k∧s.2.2.2.2.2.length=8∧s.2.2.2.2.2.map ybl=rs ws (st.map ybl) s.1.toNat) (λs=>(64 - s.1).toNat)
  (λo=>o.1=st∧o.2.2.2.2.length=8∧o.2.2.2.2.map ybl=rs ws (st.map ybl) 64) ?_ ((0:Int),st,([0,0,0,0,0,0,0,0]:List UInt32),w,k,st) ⟨Int.le_refl _,by dsimp only;omega,rfl,rfl,rfl,hs,rfl⟩ (by dsimp only;omega)) ?_
 rotate_left
 ·rintro o ⟨h1,p0,p1,p2⟩;rw[h1,yf];have hml:(ZnP (st.map ybl) ws).length=8:=Zjj (by rw[yx];exact hs)
  refine Exists.elim (Xv (step:=Wo fuel) (λs=>0≤s.1∧s.1≤8∧s.2.1=st∧s.2.2.2.2.2.length=8∧(∀(j:Nat)x,s.2.2.2.2.2[j]? =some x→if(j:Int) < s.1 then(ZnP (st.map ybl) ws)[j]? =some x.toNat else(rs ws (st.map ybl) 64)[j]? =some x.toNat)) (λs=>(8 - s.1).toNat)
   (λo=>o.2.2.2.2.map ybl=ZnP (st.map ybl) ws) ?_ ((0:Int),o.1,o.2.1,o.2.2.1,o.2.2.2.1,o.2.2.2.2) ⟨Int.le_refl _,by dsimp only;omega,p0,p1,λj x hx=>by
     dsimp only at hx ⊢;rw[if_neg (by omega), ←p2,yaf,hx];rfl⟩ (by dsimp only;omega)) ?_
  rotate_left
  ·rintro q ⟨h2,q2⟩;rw[h2,yf];exact⟨_,rfl,q2⟩
  ·rintro⟨i,a,b,c,d,e⟩ ⟨h0,h8,ha,he,hv⟩;dsimp only at h0 h8 ha he hv;subst ha;unfold Wo;dsimp only;by_cases hi:i < 8
   ·left;obtain⟨e1,he1⟩:=QU (l:=e) (i:=i.toNat) (by omega);obtain⟨e2,he2⟩:=QU (l:=a) (i:=i.toNat) (by omega);simp only[decide_eq_true hi,if_true,Y6 h0 (show i < ((8:Nat):Int) by omega),he1,he2,yf];rw[Y3 (z:=i+1) (by omega) (by omega)];refine⟨_,rfl,⟨by dsimp only;omega,by dsimp only;omega,rfl,by dsimp only;rw[ybc];exact he, ?_⟩,by dsimp only;omega⟩;intro j x hx;dsimp only at hx ⊢;by_cases hji:j=i.toNat
    ·subst hji;rw[ycl (by omega)] at hx;cases hx;rw[if_pos (by omega),Zjh];have k1:=hv _ _ he1;rw[if_neg (by omega)] at k1;unfold ZnP;rw[List.getElem?_zipWith,k1,yaf,he2];rfl
    ·rw[List.getElem?_set_ne (Ne.symm hji)] at hx;have k1:=hv j x hx;by_cases hj:(j:Int) < i
     ·rw[if_pos hj] at k1;rw[if_pos (by omega)];exact k1
     ·rw[if_neg hj] at k1;rw[if_neg (by omega)];exact k1
   ·right;rw[if_neg (by simpa using hi)];refine⟨_,rfl, ?_⟩;dsimp only;apply List.ext_getElem?;intro j;rw[yaf];by_cases hj:j < 8
    ·obtain⟨x,hx⟩:=QU (l:=e) (i:=j) (by omega);have:=hv j x hx;rw[if_pos (by omega)] at this;rw[hx,this];rfl
    ·rw[yan (by omega),yan (by omega)];rfl
 ·rintro⟨i,a,b,c,d,e⟩ ⟨h0,h64,ha,hc,hd,he,hv⟩;dsimp only at h0 h64 ha hc hd he hv;subst ha hc hd;unfold Wn;dsimp only;by_cases hi:i < 64
  ·left
   match e,he,hv with
   |[x0,x1,x2,x3,x4,x5,x6,x7],_,hv=>
    obtain⟨e1,he1⟩:=QU (l:=d) (i:=i.toNat) (by omega);obtain⟨e2,he2⟩:=QU (l:=c) (i:=i.toNat) (by omega);obtain⟨o1,ho1,p1⟩:=ZfF x4 6 26 rfl (by omega) (z:= -6) rfl;obtain⟨o2,ho2,p2⟩:=ZfF x4 11 21 rfl (by omega) (z:= -11) rfl;obtain⟨o3,ho3,p3⟩:=ZfF x4 25 7 rfl (by omega) (z:= -25) rfl;obtain⟨o4,ho4,p4⟩:=ZfF x0 2 30 rfl (by omega) (z:= -2) rfl;obtain⟨o5,ho5,p5⟩:=ZfF x0 13 19 rfl (by omega) (z:= -13) rfl;obtain⟨o6,ho6,p6⟩:=ZfF x0 22 10 rfl (by omega) (z:= -22) rfl;generalize ZG fuel=R at ho1 ho2 ho3 ho4 ho5 ho6 ⊢;rw[if_pos (decide_eq_true hi)];simp only[List.getElem?_cons_zero,yar];rw[yf,ho1,yf,yf,ho2,yf,yf,ho3,yf,yf,yf,yf,yf,yf];rw[if_pos (Y6 h0 (show i < ((64:Nat):Int) by omega)),he1,yf,if_pos (Y6 h0 (show i < ((64:Nat):Int) by omega)),he2,yf,yf,ho4,yf,yf,ho5,yf,yf,ho6];rw[yf,yf,yf,yf,yf,yf];rw[yf,yf,yf,yf,yf,yf,yf];rw[Y3 (z:=i+1) (by omega) (by omega)];refine⟨_,rfl,⟨by dsimp only;omega,by dsimp only;omega,rfl,rfl,rfl,rfl, ?_⟩,by dsimp only;omega⟩;dsimp only;rw[show(i+1).toNat=i.toNat+1 by omega,show rs ws (a.map ybl) (i.toNat+1)=rnd (rs ws (a.map ybl) i.toNat) (ks.getD i.toNat 0) (wd ws i.toNat) from rfl, ←hv]
    have hk1:ks.getD i.toNat 0=e1.toNat:=by
     rw[←hkv,ycu,yaf,he1];rfl
    rw[hk1, ←hwv i.toNat e2 (by omega) he2];simp only[yad,List.map_nil];rw[ZBk]
    have kt:((x7+((o1^^^o2)^^^o3))+(x6^^^(x4&&&(x5^^^x6)))+e1+e2).toNat=lo (yw (yw (yw (yw x7.toNat (S1 x4.toNat)) (ch x4.toNat x5.toNat x6.toNat)) e1.toNat) e2.toNat):=by
     rw[Zjh,Zjh,Zjh,Zjh,ZN0 x4 p1 p2 p3,ZN1];exact ZN4 ..
    have ka:((x7+((o1^^^o2)^^^o3))+(x6^^^(x4&&&(x5^^^x6)))+e1+e2+((o4^^^o5)^^^o6)+((x0&&&x1)|||(x2&&&(x0|||x1)))).toNat=lo (yw (yw (yw (yw (yw (yw x7.toNat (S1 x4.toNat)) (ch x4.toNat x5.toNat x6.toNat)) e1.toNat) e2.toNat) (S0 x0.toNat)) (mj x0.toNat x1.toNat x2.toNat)):=by
     rw[Zjh,Zjh,kt,ZNZ x0 p4 p5 p6,ZN2];exact ZN5 ..
    have ke:(x3+(((x7+((o1^^^o2)^^^o3))+(x6^^^(x4&&&(x5^^^x6))))+e1+e2)).toNat=lo (yw x3.toNat (yw (yw (yw (yw x7.toNat (S1 x4.toNat)) (ch x4.toNat x5.toNat x6.toNat)) e1.toNat) e2.toNat)):=by
     rw[Zjh,kt];exact ZN6 ..
    rw[ka,ke]
  ·right;rw[if_neg (by simpa using hi)];have e64:i=64:=by omega
   subst e64;exact⟨_,rfl,rfl,he,hv⟩
def Zrh(n:Nat):List UInt8:=(be8 n).map ybk
theorem Zr2{n:Nat}{b:List UInt8}(h:b.length≤1000000000000):W6 fuel (n:Int) b=some (b++Zrh n):=by
 unfold W6
 obtain⟨o,h1,h2⟩:=Xv (step:=Zbn fuel) (λs=>∃k:Nat,k≤8∧s.1=(n:Int)∧s.2.1=56 - 8*(k:Int)∧s.2.2.1=b++(Zrh n).take k) (λs=>(s.2.1+8).toNat) (λo=>o.1=b++Zrh n) (by
  rintro⟨a,i,c,d⟩ ⟨k,hk,ha,hi,hc⟩;dsimp only at ha hi hc;subst ha;unfold Zbn;dsimp only;have hcl:c.length≤b.length+8:=by rw[hc,yr,yae];omega
  by_cases h0:i ≥ 0
  ·left;rw[if_pos (decide_eq_true h0),if_pos (decide_eq_true h0),if_pos (XJ (by omega) (by omega)),Y3 (z:=i - 8) (by omega) (by omega)];refine⟨_,rfl,⟨k+1,by omega,rfl,by dsimp only;omega, ?_⟩,by dsimp only;omega⟩;dsimp only
   have hw:∀m:Nat,w8 (Int.fdiv (n:Int) (2 ^ m))=ybk (n / 2 ^ m % 256):=by
    intro m;unfold w8;rw[Int.fdiv_eq_ediv_of_nonneg _ (by exact Int.le_of_lt (Int.pow_pos (by omega)))];congr 1
   have hmin:min i.toNat 64=56 - 8*k:=by omega
   rw[hmin,hw,hc,yak];congr 1;have hk8:k < 8:=by omega
   match k,hk8 with
   |0,_=>rfl
   |1,_=>rfl
   |2,_=>rfl
   |3,_=>rfl
   |4,_=>rfl
   |5,_=>rfl
   |6,_=>rfl
   |7,_=>
    show _++[ybk (n / 2 ^ 0 % 256)]=_;rw[Nat.pow_zero,Nat.div_one];rfl
  ·right;rw[if_neg (by simpa using h0)];have hk8:k=8:=by omega
   subst hk8;exact⟨_,rfl,hc⟩) (((n:Int),(56:Int),b,([]:List UInt8))) ⟨0,by omega,rfl,by simp,by simp⟩ (by dsimp only;omega)
 rw[h1,yf,h2]
theorem ZMx{l:List UInt8}(h:l.length≤4294967296):ZdQ fuel l=some (sha l):=by
 unfold ZdQ
 have hm:Int.tmod (l.length:Int) 64=((l.length % 64:Nat):Int):=by
  rw[Int.tmod_eq_emod_of_nonneg (by omega)];omega
 have hlt:l.length % 64 < 64:=Nat.mod_lt _ (by omega);have hle:l.length % 64≤l.length:=Nat.mod_le _ _;rw[hm,Y3 (z:=(l.length:Int) - ((l.length % 64:Nat):Int)) (by omega) (by omega)];dsimp only;rw[if_pos (by simp only[ZaM,yi,decide_eq_true_eq];omega)];have hq:((l.length:Int) - ((l.length % 64:Nat):Int)).toNat=64*(l.length / 64):=by omega
 rw[hq]
 have hdl:(l.drop (64*(l.length / 64))).length=l.length % 64:=by
  rw[ybq];omega
 generalize ht:l.drop (64*(l.length / 64))=t at hdl
 have hcl:Yc fuel t=some t:=by
  unfold Yc;rw[if_pos (XJ (by omega) (by omega))]
 rw[hcl,yf,if_pos (XJ (by omega) (by omega))];generalize hz:yzz=z;have hzl:z.length=32:=by rw[←hz];rfl
 have hzs:zs l.length=(119 - t.length) % 64:=by unfold zs;rw[hdl]
 obtain⟨o,h1,p1,p2,p3⟩:=Xv (step:=Zbo fuel) (λs=>s.1=l∧s.2.1=z∧∃j,j≤zs l.length∧s.2.2=t++([128]:List UInt8)++yab j 0) (λs=>184 - s.2.2.length)
  (λo=>o.1=l∧o.2.1=z∧o.2.2=t++([128]:List UInt8)++yab (zs l.length) 0) (by
  rintro⟨a,b,c⟩ ⟨k1,k2,j,k3,k4⟩;dsimp only at k1 k2 k3 k4;have hcl:c.length=t.length+1+j:=by rw[k4,yr,yr,yco];rfl
  unfold Zbo;dsimp only
  have hm:Int.tmod (c.length:Int) 64=((c.length % 64:Nat):Int):=by
   rw[Int.tmod_eq_emod_of_nonneg (by omega)];omega
  rw[hm];by_cases hi:c.length % 64=56
  ·right;rw[if_neg (by simp;omega)];have:j=zs l.length:=by omega
   subst this;exact⟨_,rfl,k1,k2,k4⟩
  ·left;rw[if_pos (by simp;omega),if_pos (XJ (by omega) (by omega))];have hj:j≠zs l.length:=λe=>hi (by omega);refine⟨_,rfl,⟨k1,k2,j+1,by omega, ?_⟩, ?_⟩
   ·dsimp only;rw[k4,yak,List.replicate_succ',yak]
   ·dsimp only;rw[yr,List.length_singleton];omega) (l,z,t++([128]:List UInt8)) ⟨rfl,rfl,0,Nat.zero_le _,by simp⟩ (by dsimp only;omega)
 rw[h1,yf,p1,p2,p3,Y3 (z:=8*(l.length:Int)) (by omega) (by omega),show 8*(l.length:Int)=((8*l.length:Nat):Int) by omega,Zr2 (by
  rw[yr,yr,yco];simp;omega),yf]
 obtain⟨f,hf,hfl⟩:∃f,Zjc fuel=some f∧f.map ybl=Zg9:=⟨_,rfl,rfl⟩;have hf8:f.length=8:=by rw[←yx (f:=ybl),hfl];rfl
 rw[hf,yf];generalize hE:t++([128]:List UInt8)++yab (zs l.length) 0++Zrh (8*l.length)=E
 have hEl:E.length=64*((t.length+72) / 64):=by
  rw[←hE];simp only[yr,yco,List.length_singleton,Zrh,yx,be8,yai,List.length_nil];omega
 obtain⟨o3,h3,r1,r2,r3,r4⟩:=Xv (step:=Zbp fuel) (λs=>s.2.1=z∧s.2.2.1=E∧s.2.2.2.length=8∧∃c,c≤l.length / 64∧s.1=l.drop (64*c)∧s.2.2.2.map ybl=Zgj c (l.map ybi) Zg9) (λs=>s.1.length)
  (λx=>x.1=z∧x.2.1=E∧x.2.2.length=8∧x.2.2.map ybl=Zgj (l.length / 64) (l.map ybi) Zg9) (by
  rintro⟨a,b,c,d⟩ ⟨k1,k2,k3,j,k4,k5,k6⟩;dsimp only at k1 k2 k3 k4 k5 k6;have hal:a.length=l.length - 64*j:=by rw[k5,ybq]
  unfold Zbp;dsimp only;by_cases hi:(a.length:Int) ≥ 64
  ·left;obtain⟨m,hm1,hm2⟩:=ZII (st:=d) (l:=a.take 64) k3 (by rw[yae];omega);rw[if_pos (decide_eq_true hi),if_pos (by simp only[ZaM,yi,decide_eq_true_eq];omega),hm1,yf,if_pos (by simp only[ZaM,yi,decide_eq_true_eq];omega)];refine⟨_,rfl,⟨k1,k2, ?_,j+1,by omega, ?_, ?_⟩,by dsimp only;rw[ybq];omega⟩
   ·dsimp only;rw[←yx (f:=ybl),hm2];exact Zjj (by rw[yx];exact k3)
   ·dsimp only;rw[k5,List.drop_drop];congr 1
   ·dsimp only;rw[hm2,Zpo,k6,k5,List.map_take,List.map_drop]
  ·right;rw[if_neg (by simpa using hi)];have:j=l.length / 64:=by omega
   subst this;exact⟨_,rfl,k1,k2,k3,k6⟩) (l,z,E,f) ⟨rfl,rfl,hf8,0,Nat.zero_le _,by simp,hfl⟩ (by dsimp only;omega)
 rw[h3,yf,r1,r2];generalize hv1:Zgj (l.length / 64) (l.map ybi) Zg9=v1 at r4
 obtain⟨o4,h4,s1,s2,s3⟩:=Xv (step:=Zbq fuel) (λs=>s.2.1=z∧s.2.2.2.length=8∧∃c,c≤E.length / 64∧s.1=E.drop (64*c)∧s.2.2.2.map ybl=Zgj c (E.map ybi) v1) (λs=>s.1.length)
  (λx=>x.1=z∧x.2.2.length=8∧x.2.2.map ybl=Zgj (E.length / 64) (E.map ybi) v1) (by
  rintro⟨a,b,c,d⟩ ⟨k1,k3,j,k4,k5,k6⟩;dsimp only at k1 k3 k4 k5 k6;have hal:a.length=E.length - 64*j:=by rw[k5,ybq]
  unfold Zbq;dsimp only;by_cases hi:(a.length:Int) > 0
  ·left;obtain⟨m,hm1,hm2⟩:=ZII (st:=d) (l:=a.take 64) k3 (by rw[yae];omega);rw[if_pos (decide_eq_true hi),if_pos (by simp only[ZaM,yi,decide_eq_true_eq];omega),hm1,yf,if_pos (by simp only[ZaM,yi,decide_eq_true_eq];omega)];refine⟨_,rfl,⟨k1, ?_,j+1,by omega, ?_, ?_⟩,by dsimp only;rw[ybq];omega⟩
   ·dsimp only;rw[←yx (f:=ybl),hm2];exact Zjj (by rw[yx];exact k3)
   ·dsimp only;rw[k5,List.drop_drop];congr 1
   ·dsimp only;rw[hm2,Zpo,k6,k5,List.map_take,List.map_drop]
  ·right;rw[if_neg (by simpa using hi)];have:j=E.length / 64:=by omega
   subst this;exact⟨_,rfl,k1,k3,k6⟩) (E,z,E,o3.2.2) ⟨rfl,r3,0,Nat.zero_le _,by simp,r4⟩ (by dsimp only;omega)
 rw[h4,yf];generalize hv2:Zgj (E.length / 64) (E.map ybi) v1=v2 at s3
 obtain⟨o5,h5,t1,t2⟩:=Xv (step:=Zbr fuel) (λs=>0≤s.1∧s.1≤32∧s.2.1.length=32∧s.2.2.2=o4.2.2∧∀(j:Nat),(j:Int) < s.1→s.2.1[j]? =some (Go.Sha.ZIF v2 j)) (λs=>(32 - s.1).toNat)
  (λx=>x.1.length=32∧∀(j:Nat),j < 32→x.1[j]? =some (Go.Sha.ZIF v2 j)) (by
  rintro⟨i,a,b,c⟩ ⟨h0,h32,ha,hc,hv⟩;dsimp only at h0 h32 ha hc hv;subst hc;unfold Zbr;dsimp only;by_cases hi:i < 32
  ·left;rw[if_pos (decide_eq_true hi)];have e1:Int.tdiv i 4=i / 4:=Int.tdiv_eq_ediv_of_nonneg h0;have e2:Int.tmod i 4=i % 4:=Int.tmod_eq_emod_of_nonneg h0;rw[e1,e2,Y3 (z:=i / 4) (by omega) (by omega),Y3 (z:=8*(i % 4)) (by omega) (by omega),Y3 (z:=24 - 8*(i % 4)) (by omega) (by omega),Y3 (z:=i+1) (by omega) (by omega)];obtain⟨x1,hx1⟩:=QU (l:=o4.2.2) (i:=(i / 4).toNat) (by omega);obtain⟨x2,hx2⟩:=QU (l:=a) (i:=i.toNat) (by omega);rw[if_pos (Y6 (by omega) (by omega)),hx1,yf,if_pos (decide_eq_true (by omega))]
   try dsimp only
   rw[if_pos (Y6 (by omega) (by omega)),hx2,yf];refine⟨_,rfl,⟨by dsimp only;omega,by dsimp only;omega,by dsimp only;rw[ybc];exact ha,rfl, ?_⟩,by dsimp only;omega⟩;intro j hj;dsimp only at hj ⊢;by_cases hji:j=i.toNat
   ·subst hji;rw[ycl (by omega)];congr 1;unfold Go.Sha.ZIF
    have hx:v2.getD (i.toNat / 4) 0=x1.toNat:=by
     rw[←s3,ycu,yaf,show i.toNat / 4=(i / 4).toNat by omega,hx1];rfl
    rw[hx,show min (24 - 8*(i % 4)).toNat 32=24 - 8*(i.toNat % 4) by omega,ZBj];unfold w8;have e3:∀m:Nat,(((m:Nat):Int) % 256).toNat=m % 256:=λm=>by omega
    rw[e3,show yag x1.toNat (24 - 8*(i.toNat % 4))=x1.toNat >>> (24 - 8*(i.toNat % 4)) from rfl,Nat.shiftRight_eq_div_pow]
    exact UInt8.toNat_inj.1 (by simp)
   ·rw[List.getElem?_set_ne (Ne.symm hji)];exact hv j (by omega)
  ·right;rw[if_neg (by simpa using hi)];exact⟨_,rfl,ha,λj hj=>hv j (by omega)⟩) ((0:Int),o4.1,o4.2.1,o4.2.2) ⟨Int.le_refl _,by dsimp only;omega,by dsimp only;rw[s1];exact hzl,rfl,λj hj=>by dsimp only at hj;omega⟩ (by dsimp only;omega)
 rw[h5,yf,ZIG];congr 1
 have hpad:Zg8 l=(l.take (64*(l.length / 64))).map ybi++E.map ybi:=by
  unfold Zg8;rw[←hE, ←ht];simp only[yaj,List.map_replicate,yad,List.map_nil,Zrh,List.map_map];rw[←yak, ←yak, ←yak, ←yaj,ybf]
  have:be8 (8*l.length)=(be8 (8*l.length)).map (ybi ∘ ybk):=by
   simp[be8]
  rw[←this];simp
 have hw:((l.take (64*(l.length / 64))).map ybi).length=64*(l.length / 64):=by
  rw[yx,yae];omega
 have hv:v2=Zgj ((l.length+72) / 64) (Zg8 l) Zg9:=by
  rw[hpad,show(l.length+72) / 64=l.length / 64+E.length / 64 by omega,ZtV _ _ _ _ _ hw, ←hv2, ←hv1];congr 1;have:=ZtV (l.length / 64) 0 _ ((l.drop (64*(l.length / 64))).map ybi) Zg9 hw;rw[←yaj,ybf,Nat.add_zero] at this;exact this
 rw[←hv];apply List.ext_getElem?;intro j;by_cases hj:j < 32
 ·rw[t2 j hj,yaf,List.getElem?_range hj];rfl
 ·rw[yan (by omega),yan (by simp;omega)]
noncomputable def ZaZ(F:Nat)(a0:List UInt8):Option (List UInt8):=if decide (a0.length≤4294967296)=true then some (sha a0) else ZdQ F a0
noncomputable def ZBn(F:Nat):Fs ya:={ Zg7 F with M:=λx=>ZaZ F x}
noncomputable def Zmb:Fs ya:=ZBn fuel
theorem Zqy:Zmb.Ok:=ZyE (s:=Zg7 fuel) ZyO λx=>by
 show ZaZ fuel x=ZdQ fuel x;unfold ZaZ;split
 ·rename_i h;exact(ZMx (of_decide_eq_true h)).symm
 ·rfl
theorem ZEU{l:List UInt8}(h:l.length≤4294967296):ZaZ fuel l=some (sha l):=if_pos (decide_eq_true h)
end Go.Proofs.YtekdgjajmennjaaGreat
end
section
set_option maxRecDepth 4000
namespace Go.Proofs.YtekdgjajmennjaaGreat
open Go Go.Ev
noncomputable section
def YO(F:Nat)(a0:ByteArray)(a1:(List (List UInt8))):Option ((List UInt8)):=
 (W6 F (a0.size:Int) []).bind λo98=>
 if(apB o98.length ((Zfz a0).length) 1)=true then
  (Zd (XF F) F (a1,(a1.length:Int),0,yzz,o98++(Zfz a0))).bind λo101=>
  (ZaZ F o101.2).bind λo179=>
  some o179
 else
 none
def ZBo(F:Nat):Fs ya:=⟨114,[.v .str,.v (.sl (.sl .u8))],[],[.str,(.sl (.sl .u8))],[⟨.ret,[(0,.v (.arr 32 .u8))],[],[(.arr 32 .u8)]⟩],λx=>YO F x.1 x.2⟩
def Xp:Fs ya:=ZBo fuel
theorem Xc:Xp.Ok:=fnO hi1 [(0,Zqv)] [Zk8,Zmb] ⟨ZtQ,Zqy,ytt⟩ ⟨ZtR,ytt⟩
def ZdR(F:Nat)(s:(Int×UInt64×(List UInt8)×(List UInt8)×(List UInt8))):Option ((Int×UInt64×(List UInt8)×(List UInt8)×(List UInt8))⊕(UInt64×(List UInt8)×(List UInt8)×(List UInt8))):=
 if(decide (s.1 < 8))=true then
  if(decide (0≤wi (56 - (wi (8*s.1)))))=true then
   let y182:UInt64:=ZC s.2.1 (min (wi (56 - (wi (8*s.1)))).toNat 64)
   if(inB s.1 8)=true then
    (s.2.2.2.2[s.1.toNat]?).bind λe183=>
    some (.inl (wi (s.1+1),s.2.1,s.2.2.1,s.2.2.2.1,s.2.2.2.2.set s.1.toNat (w8 (y182.toNat:Int))))
   else
   none
  else
  none
 else
 some (.inr (s.2.1,s.2.2.1,s.2.2.2.1,s.2.2.2.2))
def Ze2:Lp:=⟨[(0,.ref 0 []),(1,.ref 1 []),(2,.ref 2 []),(3,.ref 3 []),(5,.v yI)],[.var (.v .u64) true,.var (.v (.arr 32 .u8)) false,.var (.v (.arr 32 .u8)) true,.var (.v (.arr 8 .u8)) true],[yI,.u64,(.arr 32 .u8),(.arr 32 .u8),(.arr 8 .u8)],[⟨.exit 0,[(0,.ref 0 []),(1,.ref 1 []),(2,.ref 2 []),(3,.ref 3 [])],[.var (.v .u64) true,.var (.v (.arr 32 .u8)) false,.var (.v (.arr 32 .u8)) true,.var (.v (.arr 8 .u8)) true],[.u64,(.arr 32 .u8),(.arr 32 .u8),(.arr 8 .u8)]⟩],Zd (ZdR fuel) fuel⟩
theorem Zjk:Ze2.okA ya 248 0:=Zq { still:=[21],frz:=[19,20]} [] [] trivial
def ZhO(F:Nat)(s0:UInt64)(s1:(List UInt8)):Option (((List UInt8)×UInt64×(List UInt8))):=
 (Zd (ZdR F) F (0,s0,s1,yzz,[0,0,0,0,0,0,0,0])).bind λo184=>
 (YO F ZNn [o184.2.1,o184.2.2.2]).bind λo185=>
 some (o185,o184.1+1,o184.2.1)
def ZnQ(F:Nat):Fs ya:=⟨248,[.ref 0 [],.ref 1 []],[.var (.v .u64) true,.var (.v (.arr 32 .u8)) false],[.u64,(.arr 32 .u8)],[⟨.ret,[(0,.v (.arr 32 .u8))],[.var (.v .u64) true,.var (.v (.arr 32 .u8)) false],[(.arr 32 .u8),.u64,(.arr 32 .u8)]⟩],λx=>ZhO F x.1 x.2⟩
def Zgk:Fs ya:=ZnQ fuel
theorem ZnR:Zgk.Ok:=fnO { still:=[21],frz:=[19,20]} [(0,Ze2)] [Xp] ⟨Xc,ytt⟩ ⟨Zjk,ytt⟩
abbrev dT0:Type:=(Int×(List UInt8)×(List Unit)×(List UInt8)×(List Unit)×(List UInt8)×UInt64×(List UInt8))
def ZdS(F:Nat)(s:dT0):Option (dT0⊕dT0):=
 if(decide ((s.2.2.2.2.2.1.length:Int) < s.1))=true then
  (ZhO F s.2.2.2.2.2.2.1 s.2.2.2.2.2.2.2).bind λo190=>
  if(apB s.2.2.2.2.2.1.length o190.1.length 1)=true then
   some (.inl (s.1,s.2.1,s.2.2.1,s.2.2.2.1,()::s.2.2.2.2.1,s.2.2.2.2.2.1++o190.1,o190.2.1,o190.2.2))
  else
  none
 else
 some (.inr (s.1,s.2.1,s.2.2.1,s.2.2.2.1,s.2.2.2.2.1,s.2.2.2.2.2.1,s.2.2.2.2.2.2.1,s.2.2.2.2.2.2.2))
abbrev tL0:List Ty:=[yI,(.arr 32 .u8),(.sl (.st [])),(.sl .u8),(.sl (.st [])),(.sl .u8),.u64,(.arr 32 .u8)]
def Ze3:Lp:=⟨[(1,.v yI),(5,.rw 2),(6,.fn 248 [.ref 3 [],.ref 4 []])],[.var (.v (.arr 32 .u8)) true,.row .u8 true 5,.row .u8 true 5,.var (.v .u64) true,.var (.v (.arr 32 .u8)) false],tL0,[⟨.exit 0,[(1,.v yI),(5,.rw 2)],[.var (.v (.arr 32 .u8)) true,.row .u8 true 5,.row .u8 true 5,.var (.v .u64) true,.var (.v (.arr 32 .u8)) false],tL0⟩],Zd (ZdS fuel) fuel⟩
def hi5:HI:={ own:=[5,16,25,27],still:=[17],rowt:=[4,5,16,25,27,28,30],frz:=[26]}
theorem Zjl:Ze3.okA ya 174 0:=Zq hi5 [] [Zgk] ⟨ZnR,ytt⟩
def Zb5(F:Nat)(a0:(List UInt8))(a1:Int):Option (((List Unit)×(List UInt8))):=
 if(decide (a1 < 0))=true then
  some ([],[])
 else
 if(decide (a1 > 65536))=true then
  some ([],[])
 else
 if(true&&(ZiX (wi (a1+32)) 1))=true then
  (ZtO F a0).bind λo188=>
  (Zd (ZdS F) F (a1,a0,[],[],[],[],o188.1,o188.2)).bind λo191=>
  if(decide (0≤o191.1)&&decide (o191.1.toNat≤o191.2.2.2.2.2.1.length))=true then
   some (o191.2.2.2.2.1,o191.2.2.2.2.2.1.take o191.1.toNat)
  else
  none
 else
 none
def ZnS(F:Nat):Fs ya:=⟨174,[.v (.arr 32 .u8),.v yI],[],[(.arr 32 .u8),yI],[⟨.ret,[(0,.rw 0)],[.row .u8 true 5],[(.sl (.st [])),(.sl .u8)]⟩],λx=>Zb5 F x.1 x.2⟩
def Za0:Fs ya:=ZnS fuel
theorem Ze4:Za0.Ok:=fnO hi5 [(0,Ze3)] [Zqu] ⟨ZyN,ytt⟩ ⟨Zjl,ytt⟩
def Zlb(F:Nat)(s:((List UInt8)×Int×Int×(List UInt8)×(List Unit)×(List UInt8))):Option (((List UInt8)×Int×Int×(List UInt8)×(List Unit)×(List UInt8))⊕((List UInt8)×(List Unit)×(List UInt8))):=
 if(decide (s.2.2.1 < s.2.1))=true then
  if(inB s.2.2.1 s.2.2.2.2.2.length)=true then
   (s.2.2.2.2.2[s.2.2.1.toNat]?).bind λe193=>
   (idx s.1 s.2.2.1).bind λe194=>
   if(inB s.2.2.1 s.2.2.2.2.2.length)=true then
    (s.2.2.2.2.2[s.2.2.1.toNat]?).bind λe195=>
    some (.inl (s.1,s.2.1,wi (s.2.2.1+1),s.2.2.2.1,s.2.2.2.2.1,s.2.2.2.2.2.set s.2.2.1.toNat (e193^^^e194)))
   else
   none
  else
  none
 else
 some (.inr (s.2.2.2.1,s.2.2.2.2.1,s.2.2.2.2.2))
def ZnT:Lp:=⟨[(1,.v (.sl .u8)),(5,.rw 1),(12,.v yI),(13,.v yI)],[.var (.v (.arr 32 .u8)) true,.row .u8 true 5],[(.sl .u8),yI,yI,(.arr 32 .u8),(.sl (.st [])),(.sl .u8)],[⟨.exit 0,[(5,.rw 1)],[.var (.v (.arr 32 .u8)) true,.row .u8 true 5],[(.arr 32 .u8),(.sl (.st [])),(.sl .u8)]⟩],Zd (Zlb fuel) fuel⟩
def hi6:HI:={ still:=[4,7,9],rowt:=[5,10,16]}
theorem Zri:ZnT.okA ya 92 0:=Zq hi6 [] [] trivial
def ZtW(F:Nat)(a0:(List UInt8))(a1:(List UInt8)):Option ((List UInt8)):=
 (Zb5 F a0 (a1.length:Int)).bind λo192=>
 (Zd (Zlb F) F (a1,(a1.length:Int),0,a0,o192.1,o192.2)).bind λo196=>
 some o196.2.2
def ZyQ(F:Nat):Fs ya:=⟨92,[.v (.arr 32 .u8),.v (.sl .u8)],[],[(.arr 32 .u8),(.sl .u8)],[⟨.ret,[(0,.v (.sl .u8))],[],[(.sl .u8)]⟩],λx=>ZtW F x.1 x.2⟩
def Zqz:Fs ya:=ZyQ fuel
theorem ZyR:Zqz.Ok:=fnO hi6 [(0,ZnT)] [Za0] ⟨Ze4,ytt⟩ ⟨Zri,ytt⟩
def Yg(F:Nat)(a0:(List UInt8)):Option ((List UInt8)):=
 if(apB 0 a0.length 1)=true then
  some a0
 else
 none
def Zb6(F:Nat):Fs ya:=⟨105,[.sl true .u8],[],[(.sl .u8)],[⟨.ret,[(0,.v (.sl .u8))],[],[(.sl .u8)]⟩],λx=>Yg F x⟩
def ZcU:Fs ya:=Zb6 fuel
theorem Zb7:ZcU.Ok:=fnO { own:=[5,7],still:=[2]} [] [] trivial
def W9(F:Nat):Option ((List UInt8)):=
 some []
def Zb8(F:Nat):Fs ya:=⟨105,[.nil .u8],[],[],[⟨.ret,[(0,.v (.sl .u8))],[],[(.sl .u8)]⟩],λx=>W9 F⟩
def ZcV:Fs ya:=Zb8 fuel
theorem Zb9:ZcV.Ok:=fnO { own:=[5,7],still:=[2]} [] [] trivial
def Za1(F:Nat):Fs ya:=⟨105,[.v (.sl .u8)],[],[(.sl .u8)],[⟨.ret,[(0,.v (.sl .u8))],[],[(.sl .u8)]⟩],λx=>Yg F x⟩
def YY:Fs ya:=Za1 fuel
theorem XW:YY.Ok:=Zl5 (t:=.u8) (xs:=[⟨.ret,[(0,.v (.sl .u8))],[],[(.sl .u8)]⟩]) (MA:=λ(x:(List UInt8))=>Yg fuel x) (MB:=λ_=>W9 fuel) Zb7 Zb9 rfl
def ZNq:ByteArray:=⟨#[115,101,97,108]⟩
def Zpp(F:Nat)(a0:(List UInt8))(a1:(List UInt8)):Option ((List UInt8)):=
 (YO F ZNq [a0,a1]).bind λo198=>
 if(decide (8≤(o198.take 8).length))=true then
  some ((o198.take 8).take 8)
 else
 none
def ZBp(F:Nat):Fs ya:=⟨93,[.v (.arr 32 .u8),.v (.sl .u8)],[],[(.arr 32 .u8),(.sl .u8)],[⟨.ret,[(0,.v (.arr 8 .u8))],[],[(.arr 8 .u8)]⟩],λx=>Zpp F x.1 x.2⟩
def Zmc:Fs ya:=ZBp fuel
theorem ZqA:Zmc.Ok:=fnO { still:=[8],frz:=[6,10]} [] [Xp] ⟨Xc,ytt⟩
def Zgl(F:Nat)(s:((List UInt8)×Int×Int×(List UInt8)×(List Unit)×(List UInt8)×(List Unit)×(List UInt8))):Option (((List UInt8)×Int×Int×(List UInt8)×(List Unit)×(List UInt8)×(List Unit)×(List UInt8))⊕((List UInt8)×(List Unit)×(List UInt8)×(List Unit)×(List UInt8))):=
 if(decide (s.2.2.1 < s.2.1))=true then
  if(inB s.2.2.1 s.2.2.2.2.2.2.2.length)=true then
   (s.2.2.2.2.2.2.2[s.2.2.1.toNat]?).bind λe200=>
   (idx s.1 s.2.2.1).bind λe201=>
   if(inB s.2.2.1 s.2.2.2.2.2.2.2.length)=true then
    (s.2.2.2.2.2.2.2[s.2.2.1.toNat]?).bind λe202=>
    let y203:(List UInt8):=s.2.2.2.2.2.2.2.set s.2.2.1.toNat (e200^^^e201)
    some (.inl (s.1,s.2.1,wi (s.2.2.1+1),s.2.2.2.1,s.2.2.2.2.1,s.2.2.2.2.2.1,s.2.2.2.2.2.2.1,y203))
   else
   none
  else
  none
 else
 some (.inr (s.2.2.2.1,s.2.2.2.2.1,s.2.2.2.2.2.1,s.2.2.2.2.2.2.1,s.2.2.2.2.2.2.2))
abbrev tL1:List Ty:=[(.sl .u8),yI,yI,(.arr 32 .u8),(.sl (.st [])),(.sl .u8),(.sl (.st [])),(.sl .u8)]
def ZhP:Lp:=⟨[(1,.v (.sl .u8)),(5,.rw 2),(12,.v yI),(13,.v yI)],[.var (.v (.arr 32 .u8)) true,.row .u8 true 5,.row .u8 true 5],tL1,[⟨.exit 0,[(5,.rw 2)],[.var (.v (.arr 32 .u8)) true,.row .u8 true 5,.row .u8 true 5],[(.arr 32 .u8),(.sl (.st [])),(.sl .u8),(.sl (.st [])),(.sl .u8)]⟩],Zd (Zgl fuel) fuel⟩
def hi7:HI:={ still:=[7,9],rowt:=[4,5,10,16,27]}
theorem Zmd:ZhP.okA ya 92 0:=Zq hi7 [] [] trivial
def Zlc(F:Nat)(a0:(List UInt8))(a1:(List UInt8)):Option (((List Unit)×(List UInt8))):=
 (Zb5 F a0 (a1.length:Int)).bind λo199=>
 (Zd (Zgl F) F (a1,(a1.length:Int),0,a0,[],[],o199.1,o199.2)).bind λo204=>
 some (o204.2.2.2.1,o204.2.2.2.2)
def Zrj(F:Nat):Fs ya:=⟨92,[.v (.arr 32 .u8),.v (.sl .u8)],[],[(.arr 32 .u8),(.sl .u8)],[⟨.ret,[(0,.rw 0)],[.row .u8 true 5],[(.sl (.st [])),(.sl .u8)]⟩],λx=>Zlc F x.1 x.2⟩
def Zjm:Fs ya:=Zrj fuel
theorem Zrk:Zjm.Ok:=fnO hi7 [(0,ZhP)] [Za0] ⟨Ze4,ytt⟩ ⟨Zmd,ytt⟩
def ZtX(F:Nat)(a0:(List UInt8))(a1:(List UInt8)):Option ((List UInt8)):=
 if(decide ((a1.length:Int) > 65536))=true then
  some []
 else
 (Zlc F a0 a1).bind λo205=>
 (Zpp F a0 o205.2).bind λo206=>
 if(apB o205.2.length o206.length 1)=true then
  some (o205.2++o206)
 else
 none
def ZyS(F:Nat):Fs ya:=⟨36,[.v (.arr 32 .u8),.v (.sl .u8)],[],[(.arr 32 .u8),(.sl .u8)],[⟨.ret,[(0,.v (.sl .u8))],[],[(.sl .u8)]⟩],λx=>ZtX F x.1 x.2⟩
def ZqB:Fs ya:=ZyS fuel
def hi8:HI:={ own:=[5,12,16,18],still:=[4,10,11,13,14],frz:=[17]}
theorem ZyT:ZqB.Ok:=fnO hi8 [] [Zjm,Zmc] ⟨Zrk,ZqA,ytt⟩
def YB(F:Nat)(s:((List (List UInt8))×Int×(List (List UInt8))×Int×Int)):Option (((List (List UInt8))×Int×(List (List UInt8))×Int×Int)⊕((List (List UInt8))×Int)):=
 if(decide (s.2.2.2.2 < s.2.2.2.1))=true then
  (idx s.2.2.1 s.2.2.2.2).bind λe207=>
  if(decide ((wi (s.2.1+(e207.length:Int))) < 0))=true then
   none
  else
  some (.inl (s.1,wi (s.2.1+(e207.length:Int)),s.2.2.1,s.2.2.2.1,wi (s.2.2.2.2+1)))
 else
 some (.inr (s.1,s.2.1))
def Va:Lp:=⟨[(0,.v (.sl (.sl .u8))),(3,.v yI),(9,.v (.sl (.sl .u8))),(10,.v yI),(11,.v yI)],[],[(.sl (.sl .u8)),yI,(.sl (.sl .u8)),yI,yI],[⟨.exit 0,[(0,.v (.sl (.sl .u8))),(3,.v yI)],[],[(.sl (.sl .u8)),yI]⟩],Zd (YB fuel) fuel⟩
def hi9:HI:={ own:=[6,24,31,33],still:=[2,23]}
theorem ZbL:Va.okA ya 225 0:=Zq hi9 [] [] trivial
def Qr:Fs ya:=⟨249,[.nil .u8,.v yI],[],[.int .i64],[⟨.ret,[(0,.own 0 .u8)],[.log .u8 5],[.sl .u8]⟩],Ztu⟩
theorem ZfG:Qr.Ok:=ZKk ZIm
def YC(F:Nat)(s:((List (List UInt8))×Int×Int×(List UInt8))):Option (((List (List UInt8))×Int×Int×(List UInt8))⊕(List UInt8)):=
 if(decide (s.2.2.1 < s.2.1))=true then
  (idx s.1 s.2.2.1).bind λe210=>
  if(apB s.2.2.2.length e210.length 1)=true then
   some (.inl (s.1,s.2.1,wi (s.2.2.1+1),s.2.2.2++e210))
  else
  none
 else
 some (.inr s.2.2.2)
def Vb:Lp:=⟨[(6,.own 0 .u8),(25,.v (.sl (.sl .u8))),(26,.v yI),(27,.v yI)],[.log .u8 5],[(.sl (.sl .u8)),yI,yI,(.sl .u8)],[⟨.exit 2,[(6,.own 0 .u8)],[.log .u8 5],[(.sl .u8)]⟩],Zd (YC fuel) fuel⟩
theorem ZbM:Vb.okA ya 225 1:=Zq hi9 [] [] trivial
def Yn(F:Nat)(a0:(List (List UInt8))):Option ((List UInt8)):=
 (Zd (YB F) F (a0,0,a0,(a0.length:Int),0)).bind λo208=>
 (Ztu o208.2).bind λo209=>
 (Zd (YC F) F (o208.1,(o208.1.length:Int),0,o209)).bind λo211=>
 some o211
def ZdT(F:Nat):Fs ya:=⟨225,[.v (.sl (.sl .u8))],[],[(.sl (.sl .u8))],[⟨.ret,[(0,.v (.sl .u8))],[],[(.sl .u8)]⟩],λx=>Yn F x⟩
def Xt:Fs ya:=ZdT fuel
theorem Vc:Xt.Ok:=fnO hi9 [(0,Va),(1,Vb)] [Qr] ⟨ZfG,ytt⟩ ⟨ZbL,ZbM,ytt⟩
def V9(F:Nat)(a0:(List UInt8))(a1:(List UInt8)):Option ((List UInt8)):=
 (Yn F [a0,a1]).bind λo212=>
 some o212
def ZyU(F:Nat):Fs ya:=⟨175,[.v (.sl .u8),.v (.sl .u8)],[],[(.sl .u8),(.sl .u8)],[⟨.ret,[(0,.v (.sl .u8))],[],[(.sl .u8)]⟩],λx=>V9 F x.1 x.2⟩
def Ze5:Fs ya:=ZyU fuel
theorem Zha:Ze5.Ok:=fnO { still:=[4,7]} [] [Xt] ⟨Vc,ytt⟩
def XN(F:Nat)(a0:(List UInt8))(a1:(List UInt8)):Option ((List UInt8)):=
 (V9 F a0 a1).bind λo213=>
 some o213
def Zca(F:Nat):Fs ya:=⟨98,[.v (.sl .u8),.v (.arr 32 .u8)],[],[(.sl .u8),(.arr 32 .u8)],[⟨.ret,[(0,.v (.sl .u8))],[],[(.sl .u8)]⟩],λx=>XN F x.1 x.2⟩
def QY:Fs ya:=Zca fuel
theorem VX:QY.Ok:=fnO { still:=[4,5,6],frz:=[6]} [] [Ze5] ⟨Zha,ytt⟩
def ZcW(F:Nat)(s:(Int×(List UInt8))):Option ((Int×(List UInt8))⊕(Int×(List UInt8))):=
 if(decide (s.1 ≥ 128))=true then
  if(apB s.2.length 1 1)=true then
   let y216:(List UInt8):=s.2++([w8 (wi ((Int.tmod s.1 128)+128))]:List UInt8)
   some (.inl (wi (Int.tdiv s.1 128),y216))
  else
  none
 else
 some (.inr (s.1,s.2))
def ZqC:Lp:=⟨[(0,.v yI),(3,.own 0 .u8)],[.log .u8 5],[yI,(.sl .u8)],[⟨.exit 0,[(0,.v yI),(3,.own 0 .u8)],[.log .u8 5],[yI,(.sl .u8)]⟩],Zd (ZcW fuel) fuel⟩
def ZNr:HI:={ own:=[3,8,14,15,19],still:=[2]}
theorem ZtY:ZqC.okA ya 176 0:=Zq ZNr [] [] trivial
def Zgm(F:Nat)(a0:Int):Option ((List UInt8)):=
 (Zd (ZcW F) F (a0,[])).bind λo217=>
 if(apB o217.2.length 1 1)=true then
  some (o217.2++([w8 o217.1]:List UInt8))
 else
 none
def ZBq(F:Nat):Fs ya:=⟨176,[.v yI],[],[yI],[⟨.ret,[(0,.v (.sl .u8))],[],[(.sl .u8)]⟩],λx=>Zgm F x⟩
def Zme:Fs ya:=ZBq fuel
theorem ZqD:Zme.Ok:=fnO ZNr [(0,ZqC)] [] trivial ⟨ZtY,ytt⟩
def YP(F:Nat)(a0:(List UInt8))(a1:Int):Option ((List UInt8)):=
 if(decide (a1 < 0))=true then
  (V9 F a0 []).bind λo215=>
  some o215
 else
 (Zgm F a1).bind λo218=>
 (V9 F a0 o218).bind λo219=>
 some o219
def Zjn(F:Nat):Fs ya:=⟨95,[.v (.sl .u8),.v yI],[],[(.sl .u8),yI],[⟨.ret,[(0,.v (.sl .u8))],[],[(.sl .u8)]⟩],λx=>YP F x.1 x.2⟩
def Vd:Fs ya:=Zjn fuel
theorem X9:Vd.Ok:=fnO { still:=[4,7,9,10,11]} [] [Ze5,Zme] ⟨Zha,ZqD,ytt⟩
def Zgn(F:Nat)(s:((List Int)×Int×Int×(List UInt8))):Option (((List Int)×Int×Int×(List UInt8))⊕(List UInt8)):=
 if(decide (s.2.2.1 < s.2.1))=true then
  (idx s.1 s.2.2.1).bind λe214=>
  (YP F s.2.2.2 e214).bind λo220=>
  some (.inl (s.1,s.2.1,wi (s.2.2.1+1),o220))
 else
 some (.inr s.2.2.2)
def ZhQ:Lp:=⟨[(1,.ref 0 []),(5,.v (.sl yI)),(6,.v yI),(7,.v yI)],[.var (.v (.sl .u8)) true],[(.sl yI),yI,yI,(.sl .u8)],[⟨.exit 0,[],[.var (.v (.sl .u8)) true],[(.sl .u8)]⟩],Zd (Zgn fuel) fuel⟩
theorem Zmf:ZhQ.okA ya 94 0:=Zq { still:=[11,12]} [] [Vd] ⟨X9,ytt⟩
def Zbs(F:Nat)(a0:(List Int))(s0:(List UInt8)):Option ((List UInt8)):=
 (Zd (Zgn F) F (a0,(a0.length:Int),0,s0)).bind λo221=>
 some o221
def Zrl(F:Nat):Fs ya:=⟨94,[.v (.sl yI),.ref 0 []],[.var (.v (.sl .u8)) true],[(.sl yI),(.sl .u8)],[⟨.ret,[(0,.tup [])],[.var (.v (.sl .u8)) true],[(.sl .u8)]⟩],λx=>Zbs F x.1 x.2⟩
def ZdU:Fs ya:=Zrl fuel
theorem ZhR:ZdU.Ok:=fnO { still:=[11,12]} [(0,ZhQ)] [] trivial ⟨Zmf,ytt⟩
def VY(F:Nat)(s:((List UInt8)×UInt64×Int×(List UInt8))):Option (((List UInt8)×UInt64×Int×(List UInt8))⊕((List UInt8)×(List UInt8))):=
 if(decide (s.2.2.1 < 8))=true then
  if(decide (0≤wi (56 - (wi (8*s.2.2.1)))))=true then
   let y227:UInt64:=ZC s.2.1 (min (wi (56 - (wi (8*s.2.2.1)))).toNat 64)
   if(inB s.2.2.1 8)=true then
    (s.2.2.2[s.2.2.1.toNat]?).bind λe228=>
    let y229:(List UInt8):=s.2.2.2.set s.2.2.1.toNat (w8 (y227.toNat:Int))
    some (.inl (s.1,s.2.1,wi (s.2.2.1+1),y229))
   else
   none
  else
  none
 else
 some (.inr (s.1,s.2.2.2))
def Zjo:Lp:=⟨[(0,.v (.sl .u8)),(1,.v .u64),(5,.ref 0 []),(7,.v yI)],[.var (.v (.arr 8 .u8)) true],[(.sl .u8),.u64,yI,(.arr 8 .u8)],[⟨.exit 0,[(0,.v (.sl .u8)),(5,.ref 0 [])],[.var (.v (.arr 8 .u8)) true],[(.sl .u8),(.arr 8 .u8)]⟩],Zd (VY fuel) fuel⟩
theorem ZnU:Zjo.okA ya 97 0:=Zq { still:=[4,19,20],frz:=[20]} [] [] trivial
def Vt(F:Nat)(a0:(List UInt8))(a1:UInt64):Option ((List UInt8)):=
 (Zd (VY F) F (a0,a1,0,[0,0,0,0,0,0,0,0])).bind λo230=>
 (V9 F o230.1 o230.2).bind λo231=>
 some o231
def ZtZ(F:Nat):Fs ya:=⟨97,[.v (.sl .u8),.v .u64],[],[(.sl .u8),.u64],[⟨.ret,[(0,.v (.sl .u8))],[],[(.sl .u8)]⟩],λx=>Vt F x.1 x.2⟩
def Zbt:Fs ya:=ZtZ fuel
theorem ZdV:Zbt.Ok:=fnO { still:=[4,19,20],frz:=[20]} [(0,Zjo)] [Ze5] ⟨Zha,ytt⟩ ⟨ZnU,ytt⟩
def Zgo(F:Nat)(s:((List UInt64)×Int×Int×(List UInt8))):Option (((List UInt64)×Int×Int×(List UInt8))⊕(List UInt8)):=
 if(decide (s.2.2.1 < s.2.1))=true then
  (idx s.1 s.2.2.1).bind λe226=>
  (Vt F s.2.2.2 e226).bind λo232=>
  some (.inl (s.1,s.2.1,wi (s.2.2.1+1),o232))
 else
 some (.inr s.2.2.2)
def ZhS:Lp:=⟨[(1,.ref 0 []),(5,.v (.sl .u64)),(6,.v yI),(7,.v yI)],[.var (.v (.sl .u8)) true],[(.sl .u64),yI,yI,(.sl .u8)],[⟨.exit 0,[],[.var (.v (.sl .u8)) true],[(.sl .u8)]⟩],Zd (Zgo fuel) fuel⟩
theorem Zmg:ZhS.okA ya 96 0:=Zq { still:=[11,12]} [] [Zbt] ⟨ZdV,ytt⟩
def ZfH(F:Nat)(a0:(List UInt64))(s0:(List UInt8)):Option ((List UInt8)):=
 (Zd (Zgo F) F (a0,(a0.length:Int),0,s0)).bind λo233=>
 some o233
def Zrm(F:Nat):Fs ya:=⟨96,[.v (.sl .u64),.ref 0 []],[.var (.v (.sl .u8)) true],[(.sl .u64),(.sl .u8)],[⟨.ret,[(0,.tup [])],[.var (.v (.sl .u8)) true],[(.sl .u8)]⟩],λx=>ZfH F x.1 x.2⟩
def ZdW:Fs ya:=Zrm fuel
theorem ZhT:ZdW.Ok:=fnO { still:=[11,12]} [(0,ZhS)] [] trivial ⟨Zmg,ytt⟩
def Zjp(F:Nat)(s:((List Basics)×Int×BackupKept×(List UInt8))):Option (((List Basics)×Int×BackupKept×(List UInt8))⊕(BackupKept×(List UInt8))):=
 if(decide (s.2.1 < 2))=true then
  (idx s.1 s.2.1).bind λe225=>
  (ZfH F [e225.1,e225.2.1,e225.2.2.1,e225.2.2.2.1,e225.2.2.2.2] s.2.2.2).bind λo234=>
  if(inB s.2.1 2)=true then
   (s.2.2.1.1.2.2.2.1[s.2.1.toNat]?).bind λe235=>
   (Zbs F [e235.1,e235.2.1,e235.2.2.1,e235.2.2.2.1,e235.2.2.2.2.1,e235.2.2.2.2.2] o234).bind λo236=>
   some (.inl (s.1,wi (s.2.1+1),s.2.2.1,o236))
  else
  none
 else
 some (.inr (s.2.2.1,s.2.2.2))
def Zld:Lp:=⟨[(1,.ref 0 []),(3,.ref 1 []),(4,.fn 94 [.ref 1 []]),(5,.fn 96 [.ref 1 []]),(41,.v (.arr 2 ZcM)),(42,.v yI)],[.var (.v Zf) true,.var (.v (.sl .u8)) true],[(.arr 2 ZcM),yI,Zf,(.sl .u8)],[⟨.exit 0,[(1,.ref 0 []),(3,.ref 1 []),(5,.fn 96 [.ref 1 []])],[.var (.v Zf) true,.var (.v (.sl .u8)) true],[Zf,(.sl .u8)]⟩],Zd (Zjp fuel) fuel⟩
def ZNs:HI:={ still:=[2,18,20,24,37,57,77,96,98,101]}
theorem Zpq:Zld.okA ya 37 0:=Zq ZNs [] [ZdW,ZdU] ⟨ZhT,ZhR,ytt⟩
def ZqE(F:Nat)(a0:BackupKept):Option ((List UInt8)):=
 (Zbs F [a0.2.2.1,a0.2.2.2.1,a0.2.2.2.2] []).bind λo222=>
 (XN F o222 a0.1.1.1).bind λo223=>
 (Zbs F [a0.1.1.2,a0.1.2.1,a0.1.2.2.2.2] o223).bind λo224=>
 (Zd (Zjp F) F (a0.1.2.2.1,0,a0,o224)).bind λo237=>
 (ZfH F [o237.1.2.1.1,o237.1.2.1.2.1,o237.1.2.1.2.2.1,o237.1.2.1.2.2.2.1,o237.1.2.1.2.2.2.2.1] o237.2).bind λo238=>
 (XN F o238 o237.1.2.1.2.2.2.2.2).bind λo239=>
 some o239
def Zvu(F:Nat):Fs ya:=⟨37,[.v Zf],[],[Zf],[⟨.ret,[(0,.v (.sl .u8))],[],[(.sl .u8)]⟩],λx=>ZqE F x⟩
def ZnV:Fs ya:=Zvu fuel
theorem Zvv:ZnV.Ok:=fnO ZNs [(0,Zld)] [ZdU,QY,ZdW] ⟨ZhR,VX,ZhT,ytt⟩ ⟨Zpq,ytt⟩
def ZyV(F:Nat)(a0:(List UInt8))(a1:BackupKept):Option (((List UInt8)×Int)):=
 (XM F a1).bind λo240=>
 if(!o240)=true then
  some ([],1)
 else
 (ZqE F a1).bind λo241=>
 (ZtX F a0 o241).bind λo242=>
 some (o242,0)
def ZdX(F:Nat):Fs ya:=⟨8,[.v (.arr 32 .u8),.v Zf],[],[(.arr 32 .u8),Zf],[⟨.ret,[(0,.tup [.v (.sl .u8),.v yI])],[],[(.sl .u8),yI]⟩],λx=>ZyV F x.1 x.2⟩
def Zvw:Fs ya:=ZdX fuel
theorem Zt0:Zvw.Ok:=fnO { still:=[4,5,6,9,10,11]} [] [W5,ZnV,ZqB] ⟨VW,Zvv,ZyT,ytt⟩
def Zt1(F:Nat)(a0:(List UInt8))(a1:(List UInt8)):Option (((List UInt8)×Bool)):=
 if(decide ((wi ((a1.length:Int) - 8)) < 0))=true then
  some ([],false)
 else
 if(decide ((wi ((a1.length:Int) - 8)) > 65536))=true then
  some ([],false)
 else
 if(ZaM a1.length none (some (wi ((a1.length:Int) - 8))))=true then
  (Zpp F a0 (a1.take ((wi ((a1.length:Int) - 8)).toNat))).bind λo243=>
  if(ZaM a1.length (some (wi ((a1.length:Int) - 8))) none)=true then
   if(decide (8≤(a1.drop ((wi ((a1.length:Int) - 8)).toNat)).length))=true then
    let y244:Bool:= !(decide (o243=(a1.drop ((wi ((a1.length:Int) - 8)).toNat)).take 8))
    if y244=true then
     some ([],false)
    else
    if(ZaM a1.length none (some (wi ((a1.length:Int) - 8))))=true then
     (ZtW F a0 (a1.take ((wi ((a1.length:Int) - 8)).toNat))).bind λo245=>
     some (o245,true)
    else
    none
   else
   none
  else
  none
 else
 none
def ZyW(F:Nat):Fs ya:=⟨40,[.v (.arr 32 .u8),.v (.sl .u8)],[],[(.arr 32 .u8),(.sl .u8)],[⟨.ret,[(0,.tup [.v (.sl .u8),.v .bool])],[],[(.sl .u8),.bool]⟩],λx=>Zt1 F x.1 x.2⟩
def ZqF:Fs ya:=ZyW fuel
theorem ZyX:ZqF.Ok:=fnO { still:=[4,5,17,20,29,32]} [] [Zmc,Zqz] ⟨ZqA,ZyR,ytt⟩
abbrev Zk:Ty:=(.st [(.sl .u8),.bool])
abbrev Zz:Type:=((List UInt8)×Bool)
abbrev Zz.b(x:Zz):(List UInt8):=x.1
abbrev Zz.no(x:Zz):Bool:=x.2
def Zt2(F:Nat)(a0:(List UInt8)):Option (Zz):=
 (Yg F a0).bind λo246=>
 some (o246,false)
def ZyY(F:Nat):Fs ya:=⟨41,[.v (.sl .u8)],[],[(.sl .u8)],[⟨.ret,[(0,.ref 0 [])],[.var (.v Zk) true],[Zk]⟩],λx=>Zt2 F x⟩
def ZqG:Fs ya:=ZyY fuel
theorem ZyZ:ZqG.Ok:=fnO { still:=[2,3]} [] [YY] ⟨XW,ytt⟩
def ZdY(F:Nat)(s0:Int)(s2:Zz):Option ((Bool×Int×Zz)):=
 if(decide (s0 ≥ (s2.1.length:Int)))=true then
  some (true,s0,s2)
 else
 if(decide (s0 > 8))=true then
  some (true,s0,s2)
 else
 if(decide (s0 > 0))=true then
  (idx s2.1 s0).bind λe249=>
  some (e249==0,s0,s2)
 else
 some (false,s0,s2)
def Zjq(F:Nat):Fs ya:=⟨106,[.ref 0 [],.ref 1 []],[.var (.v yI) true,.var (.ref 2 []) true,.var (.v Zk) true],[yI,Zk],[⟨.ret,[(0,.v .bool)],[.var (.v yI) true,.var (.ref 2 []) true,.var (.v Zk) true],[.bool,yI,Zk]⟩],λx=>ZdY F x.1 x.2⟩
def Zcg:Fs ya:=Zjq fuel
theorem Zjr:Zcg.Ok:=fnO { still:=[2]} [] [] trivial
def WP(F:Nat)(s0:Zz):Option (Zz):=
 some ([],true)
def ZkD(F:Nat):Fs ya:=⟨107,[.ref 0 []],[.var (.v Zk) true],[Zk],[⟨.ret,[(0,.tup [])],[.var (.v Zk) true],[Zk]⟩],λx=>WP F x⟩
def Qa:Fs ya:=ZkD fuel
theorem Zch:Qa.Ok:=fnO {} [] [] trivial
def Zci(F:Nat)(s:(Int×Zz×Int)):Option ((Int×Zz×Int)⊕((Int×Zz×Int)⊕(Int×Zz×Int))):=
 (ZdY F s.2.2 s.2.1).bind λo250=>
 if o250.1=true then
  (WP F o250.2.2).bind λo251=>
  some (.inr (.inl (0,o251,o250.2.1)))
 else
 (idx o250.2.2.1 o250.2.1).bind λe252=>
 if(decide (0≤wi (7*o250.2.1)))=true then
  let y253:Int:=wi (((e252 % 128).toNat:Int)*2 ^ (min (wi (7*o250.2.1)).toNat 64))
  if(decide (e252 < 128))=true then
   some (.inr (.inr (bits .or .i64 s.1 y253,o250.2.2,wi (o250.2.1+1))))
  else
  some (.inl (bits .or .i64 s.1 y253,o250.2.2,wi (o250.2.1+1)))
 else
 none
def ZdZ:Lp:=⟨[(1,.ref 1 []),(3,.v yI),(4,.ref 2 []),(5,.fn 106 [.ref 2 [],.ref 1 []])],[.var (.v Zk) true,.var (.ref 0 []) true,.var (.v yI) true],[yI,Zk,yI],[⟨.ret,[(2,.v yI)],[.var (.v Zk) true,.var (.ref 0 []) true,.var (.v yI) true],[yI,Zk,yI]⟩,⟨.exit 0,[(1,.ref 1 []),(3,.v yI),(4,.ref 2 [])],[.var (.v Zk) true,.var (.ref 0 []) true,.var (.v yI) true],[yI,Zk,yI]⟩],Zd (Zci fuel) fuel⟩
theorem Zio:ZdZ.okA ya 42 0:=Zq { still:=[2,10]} [] [Zcg,Qa] ⟨Zjr,Zch,ytt⟩
def ZK(F:Nat)(s0:Zz):Option ((Int×Zz)):=
 (Zd (Zci F) F (0,s0,0)).bind λo254=>
 match o254 with
 |.inl o255=>
  some (o255.1,o255.2.1)
 |.inr o256=>
  if(ZaM o256.2.1.1.length (some o256.2.2) none)=true then
   some (o256.1,(o256.2.1.1.drop o256.2.2.toNat,o256.2.1.2))
  else
  none
def Zmh(F:Nat):Fs ya:=⟨42,[.ref 0 []],[.var (.v Zk) true],[Zk],[⟨.ret,[(0,.v yI)],[.var (.v Zk) true],[yI,Zk]⟩],λx=>ZK F x⟩
def QZ:Fs ya:=Zmh fuel
theorem Zd0:QZ.Ok:=fnO { still:=[2,10]} [(0,ZdZ)] [] trivial ⟨Zio,ytt⟩
def Q0(F:Nat)(a1:Int)(s0:Zz):Option (((List UInt8)×Zz)):=
 if s0.2=true then
  (WP F s0).bind λo260=>
  some ([],o260)
 else
 if(decide (a1 > (s0.1.length:Int)))=true then
  (WP F s0).bind λo261=>
  some ([],o261)
 else
 if(ZaM s0.1.length none (some a1))=true then
  (Yg F (s0.1.take a1.toNat)).bind λo262=>
  if(ZaM s0.1.length (some a1) none)=true then
   some (o262,(s0.1.drop a1.toNat,s0.2))
  else
  none
 else
 none
def ZkE(F:Nat):Fs ya:=⟨108,[.ref 0 [],.v yI],[.var (.v Zk) true],[yI,Zk],[⟨.ret,[(0,.v (.sl .u8))],[.var (.v Zk) true],[(.sl .u8),Zk]⟩],λx=>Q0 F x.1 x.2⟩
def Qb:Fs ya:=ZkE fuel
theorem Zcj:Qb.Ok:=fnO { still:=[4,19,26]} [] [Qa,YY] ⟨Zch,XW,ytt⟩
def Q1(F:Nat)(s0:Zz):Option (((List UInt8)×Zz)):=
 (Q0 F 32 s0).bind λo263=>
 if(decide (o263.1.length≤32)&&decide (0+32≤32))=true then
  let y264:(List UInt8):=yzz.take 0++(o263.1++yzz.drop (0+o263.1.length))
  some (y264,o263.2)
 else
 none
def ZkF(F:Nat):Fs ya:=⟨44,[.ref 0 []],[.var (.v Zk) true],[Zk],[⟨.ret,[(0,.v (.arr 32 .u8))],[.var (.v Zk) true],[(.arr 32 .u8),Zk]⟩],λx=>Q1 F x⟩
def Zd1:Fs ya:=ZkF fuel
theorem ZkG:Zd1.Ok:=fnO { still:=[5]} [] [Qb] ⟨Zcj,ytt⟩
def Zck(F:Nat)(s:(UInt64×(List UInt8)×Int×Int×Zz)):Option ((UInt64×(List UInt8)×Int×Int×Zz)⊕(UInt64×Zz)):=
 if(decide (s.2.2.2.1 < s.2.2.1))=true then
  (idx s.2.1 s.2.2.2.1).bind λe270=>
  some (.inl ((Vz s.1 8)|||(yal e270.toNat),s.2.1,s.2.2.1,wi (s.2.2.2.1+1),s.2.2.2.2))
 else
 some (.inr (s.1,s.2.2.2.2))
def Zd2:Lp:=⟨[(3,.v .u64),(7,.v (.sl .u8)),(8,.v yI),(9,.v yI)],[.var (.v Zk) true],[.u64,(.sl .u8),yI,yI,Zk],[⟨.exit 0,[(3,.v .u64)],[.var (.v Zk) true],[.u64,Zk]⟩],Zd (Zck fuel) fuel⟩
theorem Zip:Zd2.okA ya 43 0:=Zq { still:=[2,6]} [] [] trivial
def Z2(F:Nat)(s0:Zz):Option ((UInt64×Zz)):=
 (Q0 F 8 s0).bind λo269=>
 (Zd (Zck F) F (0,o269.1,(o269.1.length:Int),0,o269.2)).bind λo271=>
 some (o271.1,o271.2)
def Zmi(F:Nat):Fs ya:=⟨43,[.ref 0 []],[.var (.v Zk) true],[Zk],[⟨.ret,[(0,.v .u64)],[.var (.v Zk) true],[.u64,Zk]⟩],λx=>Z2 F x⟩
def Q2:Fs ya:=Zmi fuel
theorem Zd3:Q2.Ok:=fnO { still:=[2,6]} [(0,Zd2)] [Qb] ⟨Zcj,ytt⟩ ⟨Zip,ytt⟩
def ZhU(F:Nat)(s:(Bool×Int×(List UInt8)×BackupKept×Zz×BackupKept)):Option ((Bool×Int×(List UInt8)×BackupKept×Zz×BackupKept)⊕(Bool×(List UInt8)×BackupKept×Zz×BackupKept)):=
 if(decide (s.2.1 < 2))=true then
  (Z2 F s.2.2.2.2.1).bind λo272=>
  (Z2 F o272.2).bind λo273=>
  (Z2 F o273.2).bind λo274=>
  (Z2 F o274.2).bind λo275=>
  (Z2 F o275.2).bind λo276=>
  if(inB s.2.1 2)=true then
   (s.2.2.2.2.2.1.2.2.1[s.2.1.toNat]?).bind λe277=>
   (ZK F o276.2).bind λo278=>
   (ZK F o278.2).bind λo279=>
   (ZK F o279.2).bind λo280=>
   (ZK F o280.2).bind λo281=>
   (ZK F o281.2).bind λo282=>
   (ZK F o282.2).bind λo283=>
   if(inB s.2.1 2)=true then
    (s.2.2.2.2.2.1.2.2.2.1[s.2.1.toNat]?).bind λe284=>
    some (.inl (s.1,wi (s.2.1+1),s.2.2.1,s.2.2.2.1,o283.2,((s.2.2.2.2.2.1.1,s.2.2.2.2.2.1.2.1,s.2.2.2.2.2.1.2.2.1.set s.2.1.toNat (o272.1,o273.1,o274.1,o275.1,o276.1),s.2.2.2.2.2.1.2.2.2.1.set s.2.1.toNat (o278.1,o279.1,o280.1,o281.1,o282.1,o283.1),s.2.2.2.2.2.1.2.2.2.2),s.2.2.2.2.2.2.1,s.2.2.2.2.2.2.2.1,s.2.2.2.2.2.2.2.2.1,s.2.2.2.2.2.2.2.2.2)))
   else
   none
  else
  none
 else
 some (.inr (s.1,s.2.2.1,s.2.2.2.1,s.2.2.2.2.1,s.2.2.2.2.2))
def Zjs:Lp:=⟨[(4,.ref 1 []),(7,.v .bool),(8,.ref 2 []),(9,.fn 4294967338 [.ref 2 []]),(10,.fn 4294967339 [.ref 2 []]),(11,.ref 3 []),(50,.v yI)],[.var (.v (.arr 32 .u8)) true,.var (.v Zf) true,.var (.v Zk) true,.var (.v Zf) true],[.bool,yI,(.arr 32 .u8),Zf,Zk,Zf],[⟨.exit 0,[(4,.ref 1 []),(7,.v .bool),(8,.ref 2 []),(10,.fn 4294967339 [.ref 2 []]),(11,.ref 3 [])],[.var (.v (.arr 32 .u8)) true,.var (.v Zf) true,.var (.v Zk) true,.var (.v Zf) true],[.bool,(.arr 32 .u8),Zf,Zk,Zf]⟩],Zd (ZhU fuel) fuel⟩
def ZNt:HI:={ still:=[5,14,15,19,32,96,103,108,113]}
theorem ZnW:Zjs.okA ya 10 0:=Zq ZNt [] [Q2,QZ] ⟨Zd3,Zd0,ytt⟩
def ZhV(F:Nat)(s0:Zz):Option ((Bool×Zz)):=
 some (!s0.2,s0)
def ZnX(F:Nat):Fs ya:=⟨45,[.ref 0 []],[.var (.v Zk) true],[Zk],[⟨.ret,[(0,.v .bool)],[.var (.v Zk) true],[.bool,Zk]⟩],λx=>ZhV F x⟩
def Zgp:Fs ya:=ZnX fuel
theorem ZnY:Zgp.Ok:=fnO { still:=[2]} [] [] trivial
def Ze6(F:Nat)(s0:Zz):Option ((Int×Zz)):=
 some ((s0.1.length:Int),s0)
def ZkH(F:Nat):Fs ya:=⟨46,[.ref 0 []],[.var (.v Zk) true],[Zk],[⟨.ret,[(0,.v yI)],[.var (.v Zk) true],[yI,Zk]⟩],λx=>Ze6 F x⟩
def Zd4:Fs ya:=ZkH fuel
theorem ZkI:Zd4.Ok:=fnO { still:=[2]} [] [] trivial
def Zy0(F:Nat)(a0:(List UInt8))(a1:(List UInt8)):Option ((BackupKept×Bool)):=
 (Zt1 F a0 a1).bind λo247=>
 (Zt2 F o247.1).bind λo248=>
 (ZK F o248).bind λo257=>
 (ZK F o257.2).bind λo258=>
 (ZK F o258.2).bind λo259=>
 (Q1 F o259.2).bind λo265=>
 (ZK F o265.2).bind λo266=>
 (ZK F o266.2).bind λo267=>
 (ZK F o267.2).bind λo268=>
 (Zd (ZhU F) F (o247.2,0,a0,(((yzz,0),0,[(0,0,0,0,0),(0,0,0,0,0)],[(0,0,0,0,0,0),(0,0,0,0,0,0)],0),(0,0,0,0,0,yzz),0,0,0),o268.2,(((o265.1,o266.1),o267.1,[(0,0,0,0,0),(0,0,0,0,0)],[(0,0,0,0,0,0),(0,0,0,0,0,0)],o268.1),(0,0,0,0,0,yzz),o257.1,o258.1,o259.1))).bind λo285=>
 (Z2 F o285.2.2.2.1).bind λo286=>
 (Z2 F o286.2).bind λo287=>
 (Z2 F o287.2).bind λo288=>
 (Z2 F o288.2).bind λo289=>
 (Z2 F o289.2).bind λo290=>
 (Q1 F o290.2).bind λo291=>
 if(!o285.1)=true then
  some ((((yzz,0),0,[(0,0,0,0,0),(0,0,0,0,0)],[(0,0,0,0,0,0),(0,0,0,0,0,0)],0),(0,0,0,0,0,yzz),0,0,0),false)
 else
 (ZhV F o291.2).bind λo292=>
 if(!o292.1)=true then
  some ((((yzz,0),0,[(0,0,0,0,0),(0,0,0,0,0)],[(0,0,0,0,0,0),(0,0,0,0,0,0)],0),(0,0,0,0,0,yzz),0,0,0),false)
 else
 (Ze6 F o292.2).bind λo293=>
 if(decide (o293.1 > 0))=true then
  some ((((yzz,0),0,[(0,0,0,0,0),(0,0,0,0,0)],[(0,0,0,0,0,0),(0,0,0,0,0,0)],0),(0,0,0,0,0,yzz),0,0,0),false)
 else
 (XM F (o285.2.2.2.2.1,(o286.1,o287.1,o288.1,o289.1,o290.1,o291.1),o285.2.2.2.2.2.2.1,o285.2.2.2.2.2.2.2.1,o285.2.2.2.2.2.2.2.2)).bind λo294=>
 if(!o294)=true then
  some ((((yzz,0),0,[(0,0,0,0,0),(0,0,0,0,0)],[(0,0,0,0,0,0),(0,0,0,0,0,0)],0),(0,0,0,0,0,yzz),0,0,0),false)
 else
 some ((o285.2.2.2.2.1,(o286.1,o287.1,o288.1,o289.1,o290.1,o291.1),o285.2.2.2.2.2.2.1,o285.2.2.2.2.2.2.2.1,o285.2.2.2.2.2.2.2.2),true)
def Zd5(F:Nat):Fs ya:=⟨10,[.v (.arr 32 .u8),.v (.sl .u8)],[],[(.arr 32 .u8),(.sl .u8)],[⟨.ret,[(0,.tup [.v Zf,.v .bool])],[],[Zf,.bool]⟩],λx=>Zy0 F x.1 x.2⟩
def Zvx:Fs ya:=Zd5 fuel
theorem Zt3:Zvx.Ok:=fnO ZNt [(0,Zjs)] [ZqF,ZqG,QZ,Zd1,Q2,Zgp,Zd4,W5] ⟨ZyX,ZyZ,Zd0,ZkG,Zd3,ZnY,ZkI,VW,ytt⟩ ⟨ZnW,ytt⟩
def Zku(F:Nat)(a0:UInt64):Option (Bool):=
 (XC F a0).bind λo295=>
 if o295=true then
  some (a0 !=0)
 else
 some false
def ZBr(F:Nat):Fs ya:=⟨111,[.v .u64],[],[.u64],[⟨.ret,[(0,.v .bool)],[],[.bool]⟩],λx=>Zku F x⟩
def Zt4:Fs ya:=ZBr fuel
theorem ZBs:Zt4.Ok:=fnO { still:=[2,3]} [] [VK] ⟨QV,ytt⟩
def Zbu(F:Nat)(s:(UInt64×(List UInt64)×Int×Int)):Option ((UInt64×(List UInt64)×Int×Int)⊕UInt64):=
 if(decide (s.2.2.2 < s.2.2.1))=true then
  (idx s.2.1 s.2.2.2).bind λe296=>
  (Vs F e296).bind λo297=>
  (Z8 F s.1 o297).bind λo298=>
  some (.inl (o298,s.2.1,s.2.2.1,wi (s.2.2.2+1)))
 else
 some (.inr s.1)
def ZnZ:Lp:=⟨[(3,.v .u64),(6,.v (.sl .u64)),(7,.v yI),(8,.v yI)],[],[.u64,(.sl .u64),yI,yI],[⟨.exit 0,[(3,.v .u64)],[],[.u64]⟩],Zd (Zbu fuel) fuel⟩
theorem Zrn:ZnZ.okA ya 221 0:=Zq { still:=[2,12,13,14]} [] [Zbl,ZfB] ⟨ZdN,Zi5,ytt⟩
def Zd6(F:Nat)(a0:(List UInt64)):Option (UInt64):=
 (Zd (Zbu F) F (1,a0,(a0.length:Int),0)).bind λo299=>
 some o299
def Zy1(F:Nat):Fs ya:=⟨221,[.v (.sl .u64)],[],[(.sl .u64)],[⟨.ret,[(0,.v .u64)],[],[.u64]⟩],λx=>Zd6 F x⟩
def Zjt:Fs ya:=Zy1 fuel
theorem Zn0:Zjt.Ok:=fnO { still:=[2,12,13,14]} [(0,ZnZ)] [] trivial ⟨Zrn,ytt⟩
def Za2(F:Nat)(a0:UInt64)(a1:UInt64):Option (UInt64):=
 (Zd6 F [a0,a1]).bind λo300=>
 some o300
def Zy2(F:Nat):Fs ya:=⟨181,[.v .u64,.v .u64],[],[.u64,.u64],[⟨.ret,[(0,.v .u64)],[],[.u64]⟩],λx=>Za2 F x.1 x.2⟩
def Ze7:Fs ya:=Zy2 fuel
theorem Zhb:Ze7.Ok:=fnO { still:=[4,7]} [] [Zjt] ⟨Zn0,ytt⟩
def Za3(F:Nat)(a0:UInt64):Option (UInt64):=
 some (a0 % 2305843009213688669)
def ZBt(F:Nat):Fs ya:=⟨230,[.v .u64],[],[.u64],[⟨.ret,[(0,.v .u64)],[],[.u64]⟩],λx=>Za3 F x⟩
def Zmj:Fs ya:=ZBt fuel
theorem ZqH:Zmj.Ok:=fnO { still:=[2]} [] [] trivial
def Zcb(F:Nat)(a0:UInt64)(a1:UInt64):Option (UInt64):=
 some ((a0+a1) % 2305843009213688669)
def Zn1(F:Nat):Fs ya:=⟨231,[.v .u64,.v .u64],[],[.u64,.u64],[⟨.ret,[(0,.v .u64)],[],[.u64]⟩],λx=>Zcb F x.1 x.2⟩
def Zgq:Fs ya:=Zn1 fuel
theorem Zn2:Zgq.Ok:=fnO { still:=[4]} [] [] trivial
def Zhc(F:Nat)(a0:UInt64)(a1:UInt64):Option (UInt64):=
 (Za3 F a0).bind λo301=>
 (Za3 F a1).bind λo302=>
 (Zcb F o301 o302).bind λo303=>
 some o303
def Zy3(F:Nat):Fs ya:=⟨182,[.v .u64,.v .u64],[],[.u64,.u64],[⟨.ret,[(0,.v .u64)],[],[.u64]⟩],λx=>Zhc F x.1 x.2⟩
def ZqI:Fs ya:=Zy3 fuel
theorem Zy4:ZqI.Ok:=fnO { still:=[4,5,6,7,8]} [] [Zmj,Zgq] ⟨ZqH,Zn2,ytt⟩
def Za4(F:Nat)(a0:UInt64)(a1:UInt64):Option (UInt64):=
 (ZbJ F a0 a1).bind λo304=>
 (XD F o304.1 o304.2 2305843009213688669).bind λo305=>
 some o305
def Zmk(F:Nat):Fs ya:=⟨232,[.v .u64,.v .u64],[],[.u64,.u64],[⟨.ret,[(0,.v .u64)],[],[.u64]⟩],λx=>Za4 F x.1 x.2⟩
def Ze8:Fs ya:=Zmk fuel
theorem Zml:Ze8.Ok:=fnO { still:=[4,8,9,13,14]} [] [Zg2,ZcK] ⟨Zk6,ZfA,ytt⟩
def Zhd(F:Nat)(a0:UInt64)(a1:UInt64):Option (UInt64):=
 (Za3 F a0).bind λo306=>
 (Za3 F a1).bind λo307=>
 (Za4 F o306 o307).bind λo308=>
 some o308
def Zy5(F:Nat):Fs ya:=⟨183,[.v .u64,.v .u64],[],[.u64,.u64],[⟨.ret,[(0,.v .u64)],[],[.u64]⟩],λx=>Zhd F x.1 x.2⟩
def ZqJ:Fs ya:=Zy5 fuel
theorem Zy6:ZqJ.Ok:=fnO { still:=[4,5,6,7,8]} [] [Zmj,Ze8] ⟨ZqH,Zml,ytt⟩
def Ve(F:Nat)(s:(UInt64×(List UInt8)×Int×(List UInt8))):Option ((UInt64×(List UInt8)×Int×(List UInt8))⊕(UInt64×(List UInt8))):=
 if(decide (s.2.2.1 < 32))=true then
  (idx s.2.1 s.2.2.1).bind λe309=>
  (XD F (ZC s.1 56) ((Vz s.1 8)|||(yal e309.toNat)) 2305843009213688668).bind λo310=>
  some (.inl (o310,s.2.1,wi (s.2.2.1+1),s.2.2.2))
 else
 some (.inr (s.1,s.2.2.2))
def Zle:Lp:=⟨[(3,.v .u64),(6,.v (.arr 32 .u8)),(7,.v yI)],[.var (.v (.arr 32 .u8)) true],[.u64,(.arr 32 .u8),yI,(.arr 32 .u8)],[⟨.exit 0,[(3,.v .u64)],[.var (.v (.arr 32 .u8)) true],[.u64,(.arr 32 .u8)]⟩],Zd (Ve fuel) fuel⟩
theorem Zpr:Zle.okA ya 113 0:=Zq { still:=[2,11,16]} [] [ZcK] ⟨ZfA,ytt⟩
def Wa(F:Nat)(a0:(List UInt8)):Option (UInt64):=
 (Zd (Ve F) F (0,a0,0,a0)).bind λo311=>
 some (o311.1+1)
def Zvy(F:Nat):Fs ya:=⟨113,[.v (.arr 32 .u8)],[],[(.arr 32 .u8)],[⟨.ret,[(0,.v .u64)],[],[.u64]⟩],λx=>Wa F x⟩
def Vu:Fs ya:=Zvy fuel
theorem VM:Vu.Ok:=fnO { still:=[2,11,16]} [(0,Zle)] [] trivial ⟨Zpr,ytt⟩
def Vf(F:Nat)(s:(UInt64×Int×Int×(List UInt8))):Option ((UInt64×Int×Int×(List UInt8))⊕(List UInt8)):=
 if(decide (s.2.2.1 < s.2.1))=true then
  if(decide (0≤wi (56 - (wi (8*s.2.2.1)))))=true then
   let y312:UInt64:=ZC s.1 (min (wi (56 - (wi (8*s.2.2.1)))).toNat 64)
   if(inB s.2.2.1 8)=true then
    (s.2.2.2[(0+s.2.2.1.toNat)]?).bind λe313=>
    let y314:(List UInt8):=s.2.2.2.set (0+s.2.2.1.toNat) (w8 (y312.toNat:Int))
    some (.inl (s.1,s.2.1,wi (s.2.2.1+1),y314))
   else
   none
  else
  none
 else
 some (.inr s.2.2.2)
def Zlf:Lp:=⟨[(0,.v .u64),(3,.view 0 [] 1 0 8),(7,.v yI),(8,.v yI)],[.var (.v (.arr 8 .u8)) true],[.u64,yI,yI,(.arr 8 .u8)],[⟨.exit 0,[(3,.view 0 [] 1 0 8)],[.var (.v (.arr 8 .u8)) true],[(.arr 8 .u8)]⟩],Zd (Vf fuel) fuel⟩
theorem Zps:Zlf.okA ya 115 0:=Zq { still:=[2]} [] [] trivial
def Qs(F:Nat)(a0:UInt64):Option ((List UInt8)):=
 (Zd (Vf F) F (a0,8,0,[0,0,0,0,0,0,0,0])).bind λo315=>
 some ((o315.drop 0).take 8)
def Zvz(F:Nat):Fs ya:=⟨115,[.v .u64],[],[.u64],[⟨.ret,[(0,.v (.sl .u8))],[],[(.sl .u8)]⟩],λx=>Qs F x⟩
def Zhe:Fs ya:=Zvz fuel
theorem Zlg:Zhe.Ok:=fnO { still:=[2]} [(0,Zlf)] [] trivial ⟨Zps,ytt⟩
def ZLb:ByteArray:=⟨#[115,105,103]⟩
def Wx(F:Nat)(a0:UInt64)(a1:UInt64)(a2:(List UInt8)):Option (UInt64):=
 (Qs F a0).bind λo316=>
 (Qs F a1).bind λo317=>
 (YO F ZLb [o316,o317,a2]).bind λo318=>
 (Wa F o318).bind λo319=>
 some o319
def Zn3(F:Nat):Fs ya:=⟨184,[.v .u64,.v .u64,.v (.arr 32 .u8)],[],[.u64,.u64,(.arr 32 .u8)],[⟨.ret,[(0,.v .u64)],[],[.u64]⟩],λx=>Wx F x.1 x.2.1 x.2.2⟩
def Za5:Fs ya:=Zn3 fuel
def ZN7:HI:={ still:=[6,7,9,12,13],frz:=[11]}
theorem Ze9:Za5.Ok:=fnO ZN7 [] [Zhe,Xp,Vu] ⟨Zlg,Xc,VM,ytt⟩
abbrev WJ:Ty:=(.st [.u64,.u64])
abbrev Sig:Type:=(UInt64×UInt64)
def Zhf(F:Nat)(a0:UInt64)(a1:UInt64)(a2:(List UInt8))(a3:UInt64):Option (Sig):=
 (Yl F a1).bind λo320=>
 (Za2 F o320 a3).bind λo321=>
 (Yl F a0).bind λo322=>
 (Wx F o321 o322 a2).bind λo323=>
 (Zhd F o323 a0).bind λo324=>
 (Zhc F a1 o324).bind λo325=>
 some (o321,o325)
def Zt5(F:Nat):Fs ya:=⟨112,[.v .u64,.v .u64,.v (.arr 32 .u8),.v .u64],[],[.u64,.u64,(.arr 32 .u8),.u64],[⟨.ret,[(0,.v WJ)],[],[WJ]⟩],λx=>Zhf F x.1 x.2.1 x.2.2.1 x.2.2.2⟩
def Zlh:Fs ya:=Zt5 fuel
def ZN8:HI:={ still:=[9,10,11,14,16,17,18,19,20,21,22]}
theorem Zt6:Zlh.Ok:=fnO ZN8 [] [Wm,Ze7,Za5,ZqJ,ZqI] ⟨XL,Zhb,Ze9,Zy6,Zy4,ytt⟩
def ZLc:ByteArray:=⟨#[110,111,110,99,101]⟩
def Qc(F:Nat)(a0:UInt64)(a1:(List UInt8)):Option (Sig):=
 (Zku F a0).bind λo326=>
 if(!o326)=true then
  some (0,0)
 else
 (Qs F a0).bind λo327=>
 (YO F ZLc [o327,a1]).bind λo328=>
 (Wa F o328).bind λo329=>
 (Zhf F a0 o329 a1 1).bind λo330=>
 some o330
def Zhg(F:Nat):Fs ya:=⟨52,[.v .u64,.v (.arr 32 .u8)],[],[.u64,(.arr 32 .u8)],[⟨.ret,[(0,.v WJ)],[],[WJ]⟩],λx=>Qc F x.1 x.2⟩
def Zfa:Fs ya:=Zhg fuel
def ZN9:HI:={ still:=[5,9,10,13,14,15,16],frz:=[12]}
theorem ZcX:Zfa.Ok:=fnO ZN9 [] [Zt4,Zhe,Xp,Vu,Zlh] ⟨ZBs,Zlg,Xc,VM,Zt6,ytt⟩
def ZNu:ByteArray:=⟨#[97,115,107]⟩
def ZhW(F:Nat)(a0:Chan)(a1:Int):Option ((List UInt8)):=
 (XN F [] a0.1.1).bind λo331=>
 (YP F o331 a0.1.2).bind λo332=>
 (YP F o332 a1).bind λo333=>
 (YO F ZNu [o333]).bind λo334=>
 some o334
def Q3(F:Nat):Fs ya:=⟨53,[.v Yb,.v yI],[],[Yb,yI],[⟨.ret,[(0,.v (.arr 32 .u8))],[],[(.arr 32 .u8)]⟩],λx=>ZhW F x.1 x.2⟩
def Zgr:Fs ya:=Q3 fuel
theorem Zfb:Zgr.Ok:=fnO { still:=[7,8,11,12,13,15]} [] [QY,Vd,Xp] ⟨VX,X9,Xc,ytt⟩
abbrev XX:Ty:=(.st [yI,yI,yI,.u64,yI])
abbrev Cond:Type:=(Int×Int×Int×UInt64×Int)
abbrev Vg:Ty:=(.st [yI,(.sl WJ),.u64])
abbrev Q4:Type:=(Int×(List Sig)×UInt64)
abbrev yIn:Ty:=(.st [Zb,Vg])
abbrev In:Type:=(Outpoint×Q4)
abbrev Zg:Ty:=(.st [(.sl .u64),yI,yI,.u64])
abbrev Zr:Type:=((List UInt64)×Int×Int×UInt64)
abbrev ZB:Ty:=(.st [(.sl Zg)])
abbrev Lock:Type:=(List Zr)
abbrev Zt:Ty:=(.st [yI,ZB])
abbrev Out:Type:=(Int×Lock)
abbrev yTx:Ty:=(.st [(.sl yIn),(.sl Zt),yI])
abbrev Tx:Type:=((List In)×(List Out)×Int)
abbrev ZNv:Ty:=(.st [yI,yI,yI,XX,.u64,(.sl .u8),yI,WJ,(.arr 32 .u8),.u64,yTx,ZcM,Zb1,(.sl .u8)])
abbrev Msg:Type:=(Int×Int×Int×Cond×UInt64×(List UInt8)×Int×Sig×(List UInt8)×UInt64×Tx×Basics×Terms×(List UInt8))
abbrev Msg.Cond(x:Msg):Cond:=x.2.2.2.1
abbrev Msg.Basics(x:Msg):Basics:=x.2.2.2.2.2.2.2.2.2.2.2.1
abbrev Msg.Terms(x:Msg):Terms:=x.2.2.2.2.2.2.2.2.2.2.2.2.1
def ZBu(F:Nat)(a0:BackupKept):Option (Msg):=
 (XM F a0).bind λo335=>
 if(!o335)=true then
  some (0,0,0,(0,0,0,0,0),0,[],0,(0,0),yzz,0,([],[],0),(0,0,0,0,0),(0,0,0,0,0,0),[])
 else
 (ZhW F a0.1 a0.2.2.1).bind λo336=>
 (Qc F a0.2.1.1 o336).bind λo337=>
 some (12,a0.1.1.2,a0.2.2.1,(0,0,0,0,0),0,[],0,o337,a0.1.1.1,0,([],[],0),(0,0,0,0,0),(0,0,0,0,0,0),[])
def ZfI(F:Nat):Fs ya:=⟨12,[.v Zf],[],[Zf],[⟨.ret,[(0,.v ZNv)],[],[ZNv]⟩],λx=>ZBu F x⟩
def Zy7:Fs ya:=ZfI fuel
def ZOa:HI:={ still:=[3,19,21,23,24],gst:=[(2,[([10,0],yIn,131),([10,1],Zt,83)])]}
theorem ZvA:Zy7.Ok:=fnO ZOa [] [W5,Zgr,Zfa] ⟨VW,Zfb,ZcX,ytt⟩
def WG(F:Nat)(a0:UInt64):Option (Bool):=
 (YE F a0).bind λo338=>
 some (!o338)
def Zro(F:Nat):Fs ya:=⟨120,[.v .u64],[],[.u64],[⟨.ret,[(0,.v .bool)],[],[.bool]⟩],λx=>WG F x⟩
def Zd7:Fs ya:=Zro fuel
theorem ZhX:Zd7.Ok:=fnO { still:=[2,3]} [] [XK] ⟨Xo,ytt⟩
def Wp(F:Nat)(a0:Int):Option (Bool):=
 if(decide (a0 ≥ 0))=true then
  some (decide (a0≤1048576))
 else
 some false
def Zt7(F:Nat):Fs ya:=⟨123,[.v yI],[],[yI],[⟨.ret,[(0,.v .bool)],[],[.bool]⟩],λx=>Wp F x⟩
def Zli:Fs ya:=Zt7 fuel
theorem Zt8:Zli.Ok:=fnO { still:=[2]} [] [] trivial
def Yh(F:Nat)(s:((List UInt64)×Int×Int)):Option (((List UInt64)×Int×Int)⊕(Int⊕Unit)):=
 if(decide (s.2.2 < s.2.1))=true then
  (idx s.1 s.2.2).bind λe340=>
  (WG F e340).bind λo341=>
  if o341=true then
   some (.inr (.inl s.2.2))
  else
  some (.inl (s.1,s.2.1,wi (s.2.2+1)))
 else
 some (.inr (.inr ()))
def Zcl:Lp:=⟨[(0,.v (.sl .u64)),(1,.fn 120 []),(7,.v yI),(8,.v yI)],[],[(.sl .u64),yI,yI],[⟨.ret,[(4,.v yI)],[],[yI]⟩,⟨.exit 0,[],[],[]⟩],Zd (Yh fuel) fuel⟩
theorem Zhh:Zcl.okA ya 192 0:=Zq { still:=[4,15]} [] [Zd7] ⟨ZhX,ytt⟩
def WQ(F:Nat)(a0:(List UInt64)):Option (Int):=
 (Zd (Yh F) F (a0,(a0.length:Int),0)).bind λo342=>
 match o342 with
 |.inl o343=>
  some o343
 |.inr o344=>
  some (-1)
def ZkJ(F:Nat):Fs ya:=⟨192,[.v (.sl .u64),.fn 120 []],[],[(.sl .u64)],[⟨.ret,[(0,.v yI)],[],[yI]⟩],λx=>WQ F x⟩
def Zd8:Fs ya:=ZkJ fuel
theorem ZkK:Zd8.Ok:=fnO { still:=[4,15]} [(0,Zcl)] [] trivial ⟨Zhh,ytt⟩
def WH(F:Nat)(a0:(List UInt64)):Option (Bool):=
 (WQ F a0).bind λo345=>
 some (decide (o345 ≥ 0))
def Zrp(F:Nat):Fs ya:=⟨122,[.v (.sl .u64),.fn 120 []],[],[(.sl .u64)],[⟨.ret,[(0,.v .bool)],[],[.bool]⟩],λx=>WH F x⟩
def Zju:Fs ya:=Zrp fuel
theorem Zrq:Zju.Ok:=fnO { still:=[4,5,6]} [] [Zd8] ⟨ZkK,ytt⟩
def Xq(F:Nat)(s:((List Zr)×Int×Int×Lock)):Option (((List Zr)×Int×Int×Lock)⊕((Bool×Lock)⊕Lock)):=
 if(decide (s.2.2.1 < s.2.1))=true then
  (idx s.1 s.2.2.1).bind λe339=>
  if(decide ((e339.1.length:Int) > 12))=true then
   some (.inr (.inl (false,s.2.2.2)))
  else
  (WH F e339.1).bind λo346=>
  if o346=true then
   some (.inr (.inl (false,s.2.2.2)))
  else
  (Wp F e339.2.1).bind λo347=>
  if(!o347)=true then
   some (.inr (.inl (false,s.2.2.2)))
  else
  (Wp F e339.2.2.1).bind λo348=>
  if(!o348)=true then
   some (.inr (.inl (false,s.2.2.2)))
  else
  if(e339.2.2.2 !=0)=true then
   (WG F e339.2.2.2).bind λo349=>
   if o349=true then
    some (.inr (.inl (false,s.2.2.2)))
   else
   some (.inl (s.1,s.2.1,wi (s.2.2.1+1),s.2.2.2))
  else
  some (.inl (s.1,s.2.1,wi (s.2.2.1+1),s.2.2.2))
 else
 some (.inr (.inr s.2.2.2))
def Zlj:Lp:=⟨[(1,.ref 0 []),(3,.fn 120 []),(7,.v (.sl Zg)),(8,.v yI),(9,.v yI)],[.var (.v ZB) true],[(.sl Zg),yI,yI,ZB],[⟨.ret,[(2,.v .bool)],[.var (.v ZB) true],[.bool,ZB]⟩,⟨.exit 0,[(1,.ref 0 [])],[.var (.v ZB) true],[ZB]⟩],Zd (Xq fuel) fuel⟩
theorem Zpt:Zlj.okA ya 56 0:=Zq { still:=[2,19,20,25,31,42]} [] [Zju,Zli,Zd7] ⟨Zrq,Zt8,ZhX,ytt⟩
def YJ(F:Nat)(a0:Lock):Option (Bool):=
 (Zd (Xq F) F (a0,(a0.length:Int),0,a0)).bind λo350=>
 match o350 with
 |.inl o351=>
  some o351.1
 |.inr o352=>
  if(decide ((o352.length:Int) > 0))=true then
   some (decide ((o352.length:Int)≤4))
  else
  some false
def ZfJ(F:Nat):Fs ya:=⟨56,[.v ZB],[],[ZB],[⟨.ret,[(0,.v .bool)],[],[.bool]⟩],λx=>YJ F x⟩
def Wq:Fs ya:=ZfJ fuel
theorem XO:Wq.Ok:=fnO { still:=[2,19,20,25,31,42]} [(0,Zlj)] [] trivial ⟨Zpt,ytt⟩
def Qt(F:Nat)(a0:Q4):Option (Bool):=
 if(decide (a0.1 ≥ 0))=true then
  if(decide (a0.1 < 4))=true then
   some (decide ((a0.2.1.length:Int)≤12))
  else
  some false
 else
 some false
def ZvB(F:Nat):Fs ya:=⟨125,[.v Vg],[],[Vg],[⟨.ret,[(0,.v .bool)],[],[.bool]⟩],λx=>Qt F x⟩
def Zhi:Fs ya:=ZvB fuel
theorem Zlk:Zhi.Ok:=fnO { still:=[2]} [] [] trivial
def Vv(F:Nat)(s:((List In)×Int×Int×Tx×(List (Outpoint×Bool)))):Option (((List In)×Int×Int×Tx×(List (Outpoint×Bool)))⊕((Bool×Tx×(List (Outpoint×Bool)))⊕(Tx×(List (Outpoint×Bool))))):=
 if(decide (s.2.2.1 < s.2.1))=true then
  (idx s.1 s.2.2.1).bind λe353=>
  Znl (ZiR s.2.2.2.2 e353.1) (λe354=>
   if e354=true then
    some (.inr (.inl (false,s.2.2.2.1,s.2.2.2.2)))
   else
   if(decide (e353.1.2 < 0))=true then
    some (.inr (.inl (false,s.2.2.2.1,s.2.2.2.2)))
   else
   if(decide (e353.1.2 ≥ 64))=true then
    some (.inr (.inl (false,s.2.2.2.1,s.2.2.2.2)))
   else
   (Qt F e353.2).bind λo355=>
   if(!o355)=true then
    some (.inr (.inl (false,s.2.2.2.1,s.2.2.2.2)))
   else
   some (.inl (s.1,s.2.1,wi (s.2.2.1+1),s.2.2.2.1,ZlT s.2.2.2.2 e353.1 true))) (
   if(decide (e353.1.2 < 0))=true then
    some (.inr (.inl (false,s.2.2.2.1,s.2.2.2.2)))
   else
   if(decide (e353.1.2 ≥ 64))=true then
    some (.inr (.inl (false,s.2.2.2.1,s.2.2.2.2)))
   else
   (Qt F e353.2).bind λo356=>
   if(!o356)=true then
    some (.inr (.inl (false,s.2.2.2.1,s.2.2.2.2)))
   else
   some (.inl (s.1,s.2.1,wi (s.2.2.1+1),s.2.2.2.1,ZlT s.2.2.2.2 e353.1 true)))
 else
 some (.inr (.inr (s.2.2.2.1,s.2.2.2.2)))
def ZqK:Lp:=⟨[(1,.ref 0 []),(3,.mp 1),(33,.v (.sl yIn)),(34,.v yI),(35,.v yI)],[.var (.v yTx) true,.map 228 Zb .bool],[(.sl yIn),yI,yI,yTx,(V6 Zb .bool)],[⟨.ret,[(2,.v .bool)],[.var (.v yTx) true,.map 228 Zb .bool],[.bool,yTx,(V6 Zb .bool)]⟩,⟨.exit 0,[(1,.ref 0 [])],[.var (.v yTx) true,.map 228 Zb .bool],[yTx,(V6 Zb .bool)]⟩],Zd (Vv fuel) fuel⟩
theorem Zt9:ZqK.okA ya 68 0:=Zq { still:=[2,57,73,75,83]} [] [Zhi] ⟨Zlk,ytt⟩
def Vw(F:Nat)(s:(Int×(List Out)×Int×Int×Tx×(List (Outpoint×Bool)))):Option ((Int×(List Out)×Int×Int×Tx×(List (Outpoint×Bool)))⊕((Bool×Tx×(List (Outpoint×Bool)))⊕(Tx×(List (Outpoint×Bool))))):=
 if(decide (s.2.2.2.1 < s.2.2.1))=true then
  (idx s.2.1 s.2.2.2.1).bind λe360=>
  (ZdL F s.1 e360.1).bind λo361=>
  if(!o361.2)=true then
   some (.inr (.inl (false,s.2.2.2.2.1,s.2.2.2.2.2)))
  else
  (YJ F e360.2).bind λo362=>
  if(!o362)=true then
   some (.inr (.inl (false,s.2.2.2.2.1,s.2.2.2.2.2)))
  else
  some (.inl (o361.1,s.2.1,s.2.2.1,wi (s.2.2.2.1+1),s.2.2.2.2.1,s.2.2.2.2.2))
 else
 some (.inr (.inr (s.2.2.2.2.1,s.2.2.2.2.2)))
def ZqL:Lp:=⟨[(6,.v yI),(66,.v (.sl Zt)),(67,.v yI),(68,.v yI)],[.var (.v yTx) true,.map 228 Zb .bool],[yI,(.sl Zt),yI,yI,yTx,(V6 Zb .bool)],[⟨.ret,[(2,.v .bool)],[.var (.v yTx) true,.map 228 Zb .bool],[.bool,yTx,(V6 Zb .bool)]⟩,⟨.exit 2,[],[.var (.v yTx) true,.map 228 Zb .bool],[yTx,(V6 Zb .bool)]⟩],Zd (Vw fuel) fuel⟩
theorem Zua:ZqL.okA ya 68 1:=Zq { still:=[2,57,73,75,83]} [] [Zpj,Wq] ⟨ZtL,XO,ytt⟩
def tx_RightM(F:Nat)(a0:Tx):Option (Bool):=
 if(decide ((a0.1.length:Int) < 1))=true then
  some false
 else
 if(decide ((a0.1.length:Int) > 64))=true then
  some false
 else
 if(decide ((a0.2.1.length:Int) > 64))=true then
  some false
 else
 if(decide (a0.2.2 < 0))=true then
  some false
 else
 (Zd (Vv F) F (a0.1,(a0.1.length:Int),0,a0,([]:List (Outpoint×Bool)))).bind λo357=>
 match o357 with
 |.inl o358=>
  some o358.1
 |.inr o359=>
  (Zd (Vw F) F (0,o359.1.2.1,(o359.1.2.1.length:Int),0,o359.1,o359.2)).bind λo363=>
  match o363 with
  |.inl o364=>
   some o364.1
  |.inr o365=>
   some true
def ZBv(F:Nat):Fs ya:=⟨68,[.v yTx],[],[yTx],[⟨.ret,[(0,.v .bool)],[],[.bool]⟩],λx=>tx_RightM F x⟩
def Qd:Fs ya:=ZBv fuel
theorem Qu:Qd.Ok:=fnO { still:=[2,57,73,75,83]} [(0,ZqK),(1,ZqL)] [] trivial ⟨Zt9,Zua,ytt⟩
def VN(F:Nat)(s:((List In)×Int×Int×Tx×(List Outpoint))):Option (((List In)×Int×Int×Tx×(List Outpoint))⊕(Tx×(List Outpoint))):=
 if(decide (s.2.2.1 < s.2.1))=true then
  (idx s.1 s.2.2.1).bind λe367=>
  if(apB s.2.2.2.2.length 1 40)=true then
   some (.inl (s.1,s.2.1,wi (s.2.2.1+1),s.2.2.2.1,s.2.2.2.2++([e367.1]:List Outpoint)))
  else
  none
 else
 some (.inr (s.2.2.2.1,s.2.2.2.2))
def Zn4:Lp:=⟨[(2,.own 1 Zb),(9,.v (.sl yIn)),(10,.v yI),(11,.v yI)],[.var (.v yTx) true,.log Zb 25],[(.sl yIn),yI,yI,yTx,(.sl Zb)],[⟨.exit 0,[(2,.own 1 Zb)],[.var (.v yTx) true,.log Zb 25],[yTx,(.sl Zb)]⟩],Zd (VN fuel) fuel⟩
def ZNw:HI:={ own:=[2,15,19,21],still:=[2,5]}
theorem Zrr:Zn4.okA ya 23 0:=Zq ZNw [] [] trivial
def Qe(F:Nat)(a0:Tx):Option ((List Outpoint)):=
 (tx_RightM F a0).bind λo366=>
 if(!o366)=true then
  some []
 else
 (Zd (VN F) F (a0.1,(a0.1.length:Int),0,a0,[])).bind λo368=>
 some o368.2
def Zy8(F:Nat):Fs ya:=⟨23,[.v yTx],[],[yTx],[⟨.ret,[(0,.v (.sl Zb))],[],[(.sl Zb)]⟩],λx=>Qe F x⟩
def Zfc:Fs ya:=Zy8 fuel
theorem Zhj:Zfc.Ok:=fnO ZNw [(0,Zn4)] [Qd] ⟨Qu,ytt⟩ ⟨Zrr,ytt⟩
def XY(F:Nat)(s:((List UInt64)×(List UInt64)×Int×Int)):Option (((List UInt64)×(List UInt64)×Int×Int)⊕(Bool⊕Unit)):=
 if(decide (s.2.2.2 < s.2.2.1))=true then
  (idx s.1 s.2.2.2).bind λe369=>
  (idx s.2.1 s.2.2.2).bind λe370=>
  if(e369 !=e370)=true then
   some (.inr (.inl false))
  else
  some (.inl (s.1,s.2.1,s.2.2.1,wi (s.2.2.2+1)))
 else
 some (.inr (.inr ()))
def ZhY:Lp:=⟨[(0,.v (.sl .u64)),(1,.v (.sl .u64)),(12,.v yI),(13,.v yI)],[],[(.sl .u64),(.sl .u64),yI,yI],[⟨.ret,[(4,.v .bool)],[],[.bool]⟩,⟨.exit 0,[],[],[]⟩],Zd (XY fuel) fuel⟩
theorem Zmm:ZhY.okA ya 78 0:=Zq { still:=[4]} [] [] trivial
def Zbv(F:Nat)(a0:(List UInt64))(a1:(List UInt64)):Option (Bool):=
 if((a0.length:Int)!=(a1.length:Int))=true then
  some false
 else
 (Zd (XY F) F (a0,a1,(a0.length:Int),0)).bind λo371=>
 match o371 with
 |.inl o372=>
  some o372
 |.inr o373=>
  some true
def Zrs(F:Nat):Fs ya:=⟨78,[.v (.sl .u64),.v (.sl .u64)],[],[(.sl .u64),(.sl .u64)],[⟨.ret,[(0,.v .bool)],[],[.bool]⟩],λx=>Zbv F x.1 x.2⟩
def Zjv:Fs ya:=Zrs fuel
theorem Zrt:Zjv.Ok:=fnO { still:=[4]} [(0,ZhY)] [] trivial ⟨Zmm,ytt⟩
def Q5(F:Nat)(a0:Zr)(a1:Zr):Option (Bool):=
 (Zbv F a0.1 a1.1).bind λo374=>
 if o374=true then
  if(a0.2.1==a1.2.1)=true then
   if(a0.2.2.1==a1.2.2.1)=true then
    some (a0.2.2.2==a1.2.2.2)
   else
   some false
  else
  some false
 else
 some false
def Zub(F:Nat):Fs ya:=⟨77,[.v Zg,.v Zg],[],[Zg,Zg],[⟨.ret,[(0,.v .bool)],[],[.bool]⟩],λx=>Q5 F x.1 x.2⟩
def Zll:Fs ya:=Zub fuel
theorem Zuc:Zll.Ok:=fnO { still:=[4,6,8]} [] [Zjv] ⟨Zrt,ytt⟩
def Vh(F:Nat)(s:((List Zr)×(List Zr)×Int×Int)):Option (((List Zr)×(List Zr)×Int×Int)⊕(Bool⊕Unit)):=
 if(decide (s.2.2.2 < s.2.2.1))=true then
  (idx s.2.1 s.2.2.2).bind λe375=>
  (idx s.1 s.2.2.2).bind λe376=>
  (Q5 F e375 e376).bind λo377=>
  if(!o377)=true then
   some (.inr (.inl false))
  else
  some (.inl (s.1,s.2.1,s.2.2.1,wi (s.2.2.2+1)))
 else
 some (.inr (.inr ()))
def Zlm:Lp:=⟨[(1,.v (.sl Zg)),(2,.fn 77 []),(15,.v (.sl Zg)),(16,.v yI),(17,.v yI)],[],[(.sl Zg),(.sl Zg),yI,yI],[⟨.ret,[(6,.v .bool)],[],[.bool]⟩,⟨.exit 0,[],[],[]⟩],Zd (Vh fuel) fuel⟩
theorem Zpu:Zlm.okA ya 76 0:=Zq { still:=[6,27,28]} [] [Zll] ⟨Zuc,ytt⟩
def Zfd(F:Nat)(a0:(List Zr))(a1:(List Zr)):Option (Bool):=
 if((a0.length:Int)!=(a1.length:Int))=true then
  some false
 else
 (Zd (Vh F) F (a1,a0,(a0.length:Int),0)).bind λo378=>
 match o378 with
 |.inl o379=>
  some o379
 |.inr o380=>
  some true
def ZvC(F:Nat):Fs ya:=⟨76,[.v (.sl Zg),.v (.sl Zg),.fn 77 []],[],[(.sl Zg),(.sl Zg)],[⟨.ret,[(0,.v .bool)],[],[.bool]⟩],λx=>Zfd F x.1 x.2⟩
def Zn5:Fs ya:=ZvC fuel
theorem ZvD:Zn5.Ok:=fnO { still:=[6,27,28]} [(0,Zlm)] [] trivial ⟨Zpu,ytt⟩
def Zd9(F:Nat)(a0:Lock)(a1:Lock):Option (Bool):=
 (Zfd F a0 a1).bind λo381=>
 some o381
def Zy9(F:Nat):Fs ya:=⟨26,[.v ZB,.v ZB],[],[ZB,ZB],[⟨.ret,[(0,.v .bool)],[],[.bool]⟩],λx=>Zd9 F x.1 x.2⟩
def Zjw:Fs ya:=Zy9 fuel
theorem Zn6:Zjw.Ok:=fnO { still:=[4,6,8]} [] [Zn5] ⟨ZvD,ytt⟩
def ZI(F:Nat)(a0:(List UInt64)):Option ((List UInt64)):=
 if(apB 0 a0.length 8)=true then
  some a0
 else
 none
def Zpv(F:Nat):Fs ya:=⟨169,[.sl true .u64],[],[(.sl .u64)],[⟨.ret,[(0,.v (.sl .u64))],[],[(.sl .u64)]⟩],λx=>ZI F x⟩
def Zru:Fs ya:=Zpv fuel
theorem Zpw:Zru.Ok:=fnO { own:=[5,7],still:=[2]} [] [] trivial
def Zfe(F:Nat):Option ((List UInt64)):=
 some []
def ZkL(F:Nat):Fs ya:=⟨169,[.nil .u64],[],[],[⟨.ret,[(0,.v (.sl .u64))],[],[(.sl .u64)]⟩],λx=>Zfe F⟩
def Zmn:Fs ya:=ZkL fuel
theorem ZkM:Zmn.Ok:=fnO { own:=[5,7],still:=[2]} [] [] trivial
def Zmo(F:Nat):Fs ya:=⟨169,[.v (.sl .u64)],[],[(.sl .u64)],[⟨.ret,[(0,.v (.sl .u64))],[],[(.sl .u64)]⟩],λx=>ZI F x⟩
def ZL:Fs ya:=Zmo fuel
theorem ZN:ZL.Ok:=Zl5 (t:=.u64) (xs:=[⟨.ret,[(0,.v (.sl .u64))],[],[(.sl .u64)]⟩]) (MA:=λ(x:(List UInt64))=>ZI fuel x) (MB:=λ_=>Zfe fuel) Zpw ZkM rfl
def Zkv(F:Nat)(a0:(List UInt64)):Option (Lock):=
 (ZI F a0).bind λo382=>
 some [(o382,0,0,0)]
def ZBw(F:Nat):Fs ya:=⟨87,[.v (.sl .u64)],[],[(.sl .u64)],[⟨.ret,[(0,.v ZB)],[],[ZB]⟩],λx=>Zkv F x⟩
def Zmp:Fs ya:=ZBw fuel
theorem ZqM:Zmp.Ok:=fnO { still:=[3]} [] [ZL] ⟨ZN,ytt⟩
def Zdg(F:Nat)(a0:UInt64):Option (Lock):=
 (Zkv F [a0]).bind λo383=>
 some o383
def Zjx(F:Nat):Fs ya:=⟨31,[.v .u64],[],[.u64],[⟨.ret,[(0,.v ZB)],[],[ZB]⟩],λx=>Zdg F x⟩
def Zmq:Fs ya:=Zjx fuel
theorem Zjy:Zmq.Ok:=fnO { still:=[4]} [] [Zmp] ⟨ZqM,ytt⟩
def XZ(F:Nat)(s:((List Outpoint)×Int×Int×Outpoint)):Option (((List Outpoint)×Int×Int×Outpoint)⊕((Int×Outpoint)⊕Outpoint)):=
 if(decide (s.2.2.1 < s.2.1))=true then
  (idx s.1 s.2.2.1).bind λe384=>
  if(decide (s.2.2.2=e384))=true then
   some (.inr (.inl (s.2.2.1,s.2.2.2)))
  else
  some (.inl (s.1,s.2.1,wi (s.2.2.1+1),s.2.2.2))
 else
 some (.inr (.inr s.2.2.2))
def ZhZ:Lp:=⟨[(0,.v (.sl Zb)),(3,.ref 0 []),(7,.v yI),(8,.v yI)],[.var (.v Zb) true],[(.sl Zb),yI,yI,Zb],[⟨.ret,[(4,.v yI)],[.var (.v Zb) true],[yI,Zb]⟩,⟨.exit 0,[],[.var (.v Zb) true],[Zb]⟩],Zd (XZ fuel) fuel⟩
theorem Zmr:ZhZ.okA ya 140 0:=Zq { still:=[4]} [] [] trivial
def ZfK(F:Nat)(a0:(List Outpoint))(a1:Outpoint):Option (Int):=
 (Zd (XZ F) F (a0,(a0.length:Int),0,a1)).bind λo385=>
 match o385 with
 |.inl o386=>
  some o386.1
 |.inr o387=>
  some (-1)
def Zrv(F:Nat):Fs ya:=⟨140,[.v (.sl Zb),.v Zb],[],[(.sl Zb),Zb],[⟨.ret,[(0,.v yI)],[],[yI]⟩],λx=>ZfK F x.1 x.2⟩
def Zjz:Fs ya:=Zrv fuel
theorem Zrw:Zjz.Ok:=fnO { still:=[4]} [(0,ZhZ)] [] trivial ⟨Zmr,ytt⟩
def Vx(F:Nat)(a0:(List Outpoint))(a1:Outpoint):Option (Bool):=
 (ZfK F a0 a1).bind λo388=>
 some (decide (o388 ≥ 0))
def Zms(F:Nat):Fs ya:=⟨69,[.v (.sl Zb),.v Zb],[],[(.sl Zb),Zb],[⟨.ret,[(0,.v .bool)],[],[.bool]⟩],λx=>Vx F x.1 x.2⟩
def Zff:Fs ya:=Zms fuel
theorem Zmt:Zff.Ok:=fnO { still:=[4,5,6]} [] [Zjz] ⟨Zrw,ytt⟩
def X0(F:Nat)(s:((List Out)×Int×Int×BackupKept×Tx×Lock×(List Int))):Option (((List Out)×Int×Int×BackupKept×Tx×Lock×(List Int))⊕(BackupKept×Tx×Lock×(List Int))):=
 if(decide (s.2.2.1 < s.2.1))=true then
  (idx s.1 s.2.2.1).bind λe395=>
  (Zd9 F e395.2 s.2.2.2.2.2.1).bind λo396=>
  if o396=true then
   if(apB s.2.2.2.2.2.2.length 1 8)=true then
    some (.inl (s.1,s.2.1,wi (s.2.2.1+1),s.2.2.2.1,s.2.2.2.2.1,s.2.2.2.2.2.1,s.2.2.2.2.2.2++([s.2.2.1]:List Int)))
   else
   none
  else
  some (.inl (s.1,s.2.1,wi (s.2.2.1+1),s.2.2.2.1,s.2.2.2.2.1,s.2.2.2.2.2.1,s.2.2.2.2.2.2))
 else
 some (.inr (s.2.2.2.1,s.2.2.2.2.1,s.2.2.2.2.2.1,s.2.2.2.2.2.2))
def Zh0:Lp:=⟨[(5,.ref 2 []),(6,.own 3 yI),(35,.v (.sl Zt)),(36,.v yI),(37,.v yI)],[.var (.v Zf) true,.var (.v yTx) true,.var (.v ZB) true,.log yI 3],[(.sl Zt),yI,yI,Zf,yTx,ZB,(.sl yI)],[⟨.exit 0,[(6,.own 3 yI)],[.var (.v Zf) true,.var (.v yTx) true,.var (.v ZB) true,.log yI 3],[Zf,yTx,ZB,(.sl yI)]⟩],Zd (X0 fuel) fuel⟩
def ZNx:HI:={ own:=[6,46,49],still:=[4,9,13,18,19,22,32,43,44]}
theorem Zmu:Zh0.okA ya 20 0:=Zq ZNx [] [Zjw] ⟨Zn6,ytt⟩
def Zbw(F:Nat)(a0:BackupKept)(a1:Tx):Option ((List Int)):=
 (XM F a0).bind λo389=>
 if(!o389)=true then
  some []
 else
 (tx_RightM F a1).bind λo390=>
 if(!o390)=true then
  some []
 else
 (Qe F a1).bind λo391=>
 (Vx F o391 a0.1.1).bind λo392=>
 if(!o392)=true then
  some []
 else
 if(inB a0.2.2.1 2)=true then
  (a0.1.2.2.1[a0.2.2.1.toNat]?).bind λe393=>
  (Zdg F e393.2.1).bind λo394=>
  (Zd (X0 F) F (a1.2.1,(a1.2.1.length:Int),0,a0,a1,o394,[])).bind λo397=>
  some o397.2.2.2
 else
 none
def Zrx(F:Nat):Fs ya:=⟨20,[.v Zf,.v yTx],[],[Zf,yTx],[⟨.ret,[(0,.v (.sl yI))],[],[(.sl yI)]⟩],λx=>Zbw F x.1 x.2⟩
def ZjA:Fs ya:=Zrx fuel
theorem Zry:ZjA.Ok:=fnO ZNx [(0,Zh0)] [W5,Qd,Zfc,Zff,Zmq] ⟨VW,Qu,Zhj,Zmt,Zjy,ytt⟩ ⟨Zmu,ytt⟩
def Q6(F:Nat)(a0:(List UInt8))(a1:(List UInt8)):Option ((List UInt8)):=
 (Zgm F (a1.length:Int)).bind λo398=>
 (Yn F [a0,o398,a1]).bind λo399=>
 some o399
def Zpx(F:Nat):Fs ya:=⟨205,[.v (.sl .u8),.v (.sl .u8)],[],[(.sl .u8),(.sl .u8)],[⟨.ret,[(0,.v (.sl .u8))],[],[(.sl .u8)]⟩],λx=>Q6 F x.1 x.2⟩
def Zh1:Fs ya:=Zpx fuel
theorem Zpy:Zh1.Ok:=fnO { still:=[4,7,10]} [] [Zme,Xt] ⟨ZqD,Vc,ytt⟩
def Vi(F:Nat)(s:((List UInt8)×(List Zr)×Int×Int×(List UInt64)×Int×Int×Lock×Zr)):Option (((List UInt8)×(List Zr)×Int×Int×(List UInt64)×Int×Int×Lock×Zr)⊕((List UInt8)×(List Zr)×Int×Int×Lock×Zr)):=
 if(decide (s.2.2.2.2.2.2.1 < s.2.2.2.2.2.1))=true then
  (idx s.2.2.2.2.1 s.2.2.2.2.2.2.1).bind λe404=>
  (Vt F s.1 e404).bind λo405=>
  some (.inl (o405,s.2.1,s.2.2.1,s.2.2.2.1,s.2.2.2.2.1,s.2.2.2.2.2.1,wi (s.2.2.2.2.2.2.1+1),s.2.2.2.2.2.2.2.1,s.2.2.2.2.2.2.2.2))
 else
 some (.inr (s.1,s.2.1,s.2.2.1,s.2.2.2.1,s.2.2.2.2.2.2.2.1,s.2.2.2.2.2.2.2.2))
abbrev tL2:List Ty:=[(.sl .u8),(.sl Zg),yI,yI,(.sl .u64),yI,yI,ZB,Zg]
def Zln:Lp:=⟨[(3,.v (.sl .u8)),(5,.ref 1 []),(16,.v (.sl Zg)),(17,.v yI),(18,.v yI),(28,.v (.sl .u64)),(29,.v yI),(30,.v yI)],[.var (.v ZB) true,.var (.v Zg) true],tL2,[⟨.exit 2,[(3,.v (.sl .u8)),(5,.ref 1 []),(16,.v (.sl Zg)),(17,.v yI),(18,.v yI)],[.var (.v ZB) true,.var (.v Zg) true],[(.sl .u8),(.sl Zg),yI,yI,ZB,Zg]⟩],Zd (Vi fuel) fuel⟩
def ZMy:HI:={ still:=[2,8,13,22,25,34,35,38,40,41,43,44,46]}
theorem Zpz:Zln.okA ya 206 1:=Zq ZMy [] [Zbt] ⟨ZdV,ytt⟩
def Q7(F:Nat)(s:((List UInt8)×(List Zr)×Int×Int×Lock)):Option (((List UInt8)×(List Zr)×Int×Int×Lock)⊕((List UInt8)×Lock)):=
 if(decide (s.2.2.2.1 < s.2.2.1))=true then
  (idx s.2.1 s.2.2.2.1).bind λe402=>
  (YP F s.1 (e402.1.length:Int)).bind λo403=>
  (Zd (Vi F) F (o403,s.2.1,s.2.2.1,s.2.2.2.1,e402.1,(e402.1.length:Int),0,s.2.2.2.2,e402)).bind λo406=>
  (YP F o406.1 o406.2.2.2.2.2.2.1).bind λo407=>
  (YP F o407 o406.2.2.2.2.2.2.2.1).bind λo408=>
  (Vt F o408 o406.2.2.2.2.2.2.2.2).bind λo409=>
  some (.inl (o409,o406.2.1,o406.2.2.1,wi (o406.2.2.2.1+1),o406.2.2.2.2.1))
 else
 some (.inr (s.1,s.2.2.2.2))
def Zlo:Lp:=⟨[(3,.v (.sl .u8)),(16,.v (.sl Zg)),(17,.v yI),(18,.v yI)],[.var (.v ZB) true],[(.sl .u8),(.sl Zg),yI,yI,ZB],[⟨.exit 0,[(3,.v (.sl .u8))],[.var (.v ZB) true],[(.sl .u8),ZB]⟩],Zd (Q7 fuel) fuel⟩
theorem ZpA:Zlo.okA ya 206 0:=Zq ZMy [(1,Zln)] [Vd,Zbt] ⟨X9,ZdV,ytt⟩ ⟨Zpz,ytt⟩
def ZbN(F:Nat)(a0:Lock):Option ((List UInt8)):=
 (YJ F a0).bind λo400=>
 if(!o400)=true then
  some []
 else
 (YP F [] (a0.length:Int)).bind λo401=>
 (Zd (Q7 F) F (o401,a0,(a0.length:Int),0,a0)).bind λo410=>
 some o410.1
def ZvE(F:Nat):Fs ya:=⟨206,[.v ZB],[],[ZB],[⟨.ret,[(0,.v (.sl .u8))],[],[(.sl .u8)]⟩],λx=>ZbN F x⟩
def Zhk:Fs ya:=ZvE fuel
theorem Zlp:Zhk.Ok:=fnO ZMy [(0,Zlo)] [Wq,Vd] ⟨XO,X9,ytt⟩ ⟨ZpA,ytt⟩
def ZcY(F:Nat)(s:((List UInt8)×(List In)×Int×Int×Tx)):Option (((List UInt8)×(List In)×Int×Int×Tx)⊕((List UInt8)×Tx)):=
 if(decide (s.2.2.2.1 < s.2.2.1))=true then
  (idx s.2.1 s.2.2.2.1).bind λe412=>
  (XN F s.1 e412.1.1).bind λo413=>
  (YP F o413 e412.1.2).bind λo414=>
  some (.inl (o414,s.2.1,s.2.2.1,wi (s.2.2.2.1+1),s.2.2.2.2))
 else
 some (.inr (s.1,s.2.2.2.2))
def ZqN:Lp:=⟨[(1,.ref 0 []),(3,.v (.sl .u8)),(13,.v (.sl yIn)),(14,.v yI),(15,.v yI)],[.var (.v yTx) true],[(.sl .u8),(.sl yIn),yI,yI,yTx],[⟨.exit 0,[(1,.ref 0 []),(3,.v (.sl .u8))],[.var (.v yTx) true],[(.sl .u8),yTx]⟩],Zd (ZcY fuel) fuel⟩
def ZMz:HI:={ still:=[2,10,19,22,23,26,29,32,41,43,44,46,47,50,52]}
theorem Zud:ZqN.okA ya 143 0:=Zq ZMz [] [QY,Vd] ⟨VX,X9,ytt⟩
def ZcZ(F:Nat)(s:((List UInt8)×(List Out)×Int×Int×Tx)):Option (((List UInt8)×(List Out)×Int×Int×Tx)⊕((List UInt8)×Tx)):=
 if(decide (s.2.2.2.1 < s.2.2.1))=true then
  (idx s.2.1 s.2.2.2.1).bind λe417=>
  (YP F s.1 e417.1).bind λo418=>
  (ZbN F e417.2).bind λo419=>
  (Q6 F o418 o419).bind λo420=>
  some (.inl (o420,s.2.1,s.2.2.1,wi (s.2.2.2.1+1),s.2.2.2.2))
 else
 some (.inr (s.1,s.2.2.2.2))
def ZqO:Lp:=⟨[(1,.ref 0 []),(3,.v (.sl .u8)),(35,.v (.sl Zt)),(36,.v yI),(37,.v yI)],[.var (.v yTx) true],[(.sl .u8),(.sl Zt),yI,yI,yTx],[⟨.exit 2,[(1,.ref 0 []),(3,.v (.sl .u8))],[.var (.v yTx) true],[(.sl .u8),yTx]⟩],Zd (ZcZ fuel) fuel⟩
theorem Zue:ZqO.okA ya 143 1:=Zq ZMz [] [Vd,Zhk,Zh1] ⟨X9,Zlp,Zpy,ytt⟩
def Zkw(F:Nat)(a0:Tx):Option ((List UInt8)):=
 (YP F [] (a0.1.length:Int)).bind λo411=>
 (Zd (ZcY F) F (o411,a0.1,(a0.1.length:Int),0,a0)).bind λo415=>
 (YP F o415.1 (o415.2.2.1.length:Int)).bind λo416=>
 (Zd (ZcZ F) F (o416,o415.2.2.1,(o415.2.2.1.length:Int),0,o415.2)).bind λo421=>
 (YP F o421.1 o421.2.2.2).bind λo422=>
 some o422
def ZBx(F:Nat):Fs ya:=⟨143,[.v yTx],[],[yTx],[⟨.ret,[(0,.v (.sl .u8))],[],[(.sl .u8)]⟩],λx=>Zkw F x⟩
def Zuf:Fs ya:=ZBx fuel
theorem ZBy:Zuf.Ok:=fnO ZMz [(0,ZqN),(1,ZqO)] [Vd] ⟨X9,ytt⟩ ⟨Zud,Zue,ytt⟩
def ZLd:ByteArray:=⟨#[116,120]⟩
def Zhl(F:Nat)(a0:Tx):Option ((List UInt8)):=
 (tx_RightM F a0).bind λo423=>
 if(!o423)=true then
  some yzz
 else
 (Zkw F a0).bind λo424=>
 (YO F ZLd [o424]).bind λo425=>
 some o425
def Zug(F:Nat):Fs ya:=⟨75,[.v yTx],[],[yTx],[⟨.ret,[(0,.v (.arr 32 .u8))],[],[(.arr 32 .u8)]⟩],λx=>Zhl F x⟩
def Zn7:Fs ya:=Zug fuel
theorem ZjB:Zn7.Ok:=fnO { still:=[3,7,9]} [] [Qd,Zuf,Xp] ⟨Qu,ZBy,Xc,ytt⟩
def ZbO(F:Nat)(s:(Int×Int×Tx×(List Outpoint)×(List UInt8))):Option ((Int×Int×Tx×(List Outpoint)×(List UInt8))⊕(Tx×(List Outpoint)×(List UInt8))):=
 if(decide (s.2.1 < s.1))=true then
  if(apB s.2.2.2.1.length 1 40)=true then
   let y428:(List Outpoint):=s.2.2.2.1++([(s.2.2.2.2,s.2.1)]:List Outpoint)
   some (.inl (s.1,wi (s.2.1+1),s.2.2.1,y428,s.2.2.2.2))
  else
  none
 else
 some (.inr (s.2.2.1,s.2.2.2.1,s.2.2.2.2))
def Zuh:Lp:=⟨[(2,.own 1 Zb),(3,.ref 2 []),(12,.v yI),(13,.v yI)],[.var (.v yTx) true,.log Zb 25,.var (.v (.arr 32 .u8)) true],[yI,yI,yTx,(.sl Zb),(.arr 32 .u8)],[⟨.exit 0,[(2,.own 1 Zb)],[.var (.v yTx) true,.log Zb 25,.var (.v (.arr 32 .u8)) true],[yTx,(.sl Zb),(.arr 32 .u8)]⟩],Zd (ZbO fuel) fuel⟩
def ZNy:HI:={ own:=[2,16,21,23],still:=[2,5,7]}
theorem ZvF:Zuh.okA ya 24 0:=Zq ZNy [] [] trivial
def Zea(F:Nat)(a0:Tx):Option ((List Outpoint)):=
 (Zhl F a0).bind λo426=>
 (tx_RightM F a0).bind λo427=>
 if(!o427)=true then
  some []
 else
 (Zd (ZbO F) F ((a0.2.1.length:Int),0,a0,[],o426)).bind λo429=>
 some o429.2.1
def ZDs(F:Nat):Fs ya:=⟨24,[.v yTx],[],[yTx],[⟨.ret,[(0,.v (.sl Zb))],[],[(.sl Zb)]⟩],λx=>Zea F x⟩
def Zgs:Fs ya:=ZDs fuel
theorem Zhm:Zgs.Ok:=fnO ZNy [(0,Zuh)] [Zn7,Qd] ⟨ZjB,Qu,ytt⟩ ⟨ZvF,ytt⟩
def Zhn(F:Nat)(a0:UInt64):Option (Bool):=
 if(a0==0)=true then
  some true
 else
 (XC F a0).bind λo430=>
 some (!o430)
def Zza(F:Nat):Fs ya:=⟨124,[.v .u64],[],[.u64],[⟨.ret,[(0,.v .bool)],[],[.bool]⟩],λx=>Zhn F x⟩
def ZqP:Fs ya:=Zza fuel
theorem Zzb:ZqP.Ok:=fnO { still:=[2,6]} [] [VK] ⟨QV,ytt⟩
def VZ(F:Nat)(a0:(List Zr)):Option ((List Zr)):=
 if(apB 0 a0.length 48)=true then
  some a0
 else
 none
def Zn8(F:Nat):Fs ya:=⟨172,[.sl true Zg],[],[(.sl Zg)],[⟨.ret,[(0,.v (.sl Zg))],[],[(.sl Zg)]⟩],λx=>VZ F x⟩
def ZpB:Fs ya:=Zn8 fuel
theorem Zn9:ZpB.Ok:=fnO { own:=[5,7],still:=[2]} [] [] trivial
def Zeb(F:Nat):Option ((List Zr)):=
 some []
def ZjC(F:Nat):Fs ya:=⟨172,[.nil Zg],[],[],[⟨.ret,[(0,.v (.sl Zg))],[],[(.sl Zg)]⟩],λx=>Zeb F⟩
def ZkN:Fs ya:=ZjC fuel
theorem ZjD:ZkN.Ok:=fnO { own:=[5,7],still:=[2]} [] [] trivial
def ZkO(F:Nat):Fs ya:=⟨172,[.v (.sl Zg)],[],[(.sl Zg)],[⟨.ret,[(0,.v (.sl Zg))],[],[(.sl Zg)]⟩],λx=>VZ F x⟩
def Zmv:Fs ya:=ZkO fuel
theorem ZkP:Zmv.Ok:=Zl5 (t:=Zg) (xs:=[⟨.ret,[(0,.v (.sl Zg))],[],[(.sl Zg)]⟩]) (MA:=λ(x:(List Zr))=>VZ fuel x) (MB:=λ_=>Zeb fuel) Zn9 ZjD rfl
def Zr3(F:Nat)(a0:(List In)):Option ((List In)):=
 if(apB 0 a0.length 80)=true then
  some a0
 else
 none
def ZF7(F:Nat):Fs ya:=⟨194,[.sl true yIn],[],[(.sl yIn)],[⟨.ret,[(0,.v (.sl yIn))],[],[(.sl yIn)]⟩],λx=>Zr3 F x⟩
def ZIJ:Fs ya:=ZF7 fuel
theorem ZF8:ZIJ.Ok:=fnO { own:=[5,7],still:=[2]} [] [] trivial
def Zui(F:Nat):Option ((List In)):=
 some []
def Zzc(F:Nat):Fs ya:=⟨194,[.nil yIn],[],[],[⟨.ret,[(0,.v (.sl yIn))],[],[(.sl yIn)]⟩],λx=>Zui F⟩
def ZBz:Fs ya:=Zzc fuel
theorem Zzd:ZBz.Ok:=fnO { own:=[5,7],still:=[2]} [] [] trivial
def ZBA(F:Nat):Fs ya:=⟨194,[.v (.sl yIn)],[],[(.sl yIn)],[⟨.ret,[(0,.v (.sl yIn))],[],[(.sl yIn)]⟩],λx=>Zr3 F x⟩
def ZDt:Fs ya:=ZBA fuel
theorem ZBB:ZDt.Ok:=Zl5 (t:=yIn) (xs:=[⟨.ret,[(0,.v (.sl yIn))],[],[(.sl yIn)]⟩]) (MA:=λ(x:(List In))=>Zr3 fuel x) (MB:=λ_=>Zui fuel) ZF8 Zzd rfl
def Zoa(F:Nat)(a0:(List Out)):Option ((List Out)):=
 if(apB 0 a0.length 32)=true then
  some a0
 else
 none
def ZDu(F:Nat):Fs ya:=⟨195,[.sl true Zt],[],[(.sl Zt)],[⟨.ret,[(0,.v (.sl Zt))],[],[(.sl Zt)]⟩],λx=>Zoa F x⟩
def ZF9:Fs ya:=ZDu fuel
theorem ZDv:ZF9.Ok:=fnO { own:=[5,7],still:=[2]} [] [] trivial
def ZqQ(F:Nat):Option ((List Out)):=
 some []
def ZvG(F:Nat):Fs ya:=⟨195,[.nil Zt],[],[],[⟨.ret,[(0,.v (.sl Zt))],[],[(.sl Zt)]⟩],λx=>ZqQ F⟩
def Zze:Fs ya:=ZvG fuel
theorem ZvH:Zze.Ok:=fnO { own:=[5,7],still:=[2]} [] [] trivial
def Zzf(F:Nat):Fs ya:=⟨195,[.v (.sl Zt)],[],[(.sl Zt)],[⟨.ret,[(0,.v (.sl Zt))],[],[(.sl Zt)]⟩],λx=>Zoa F x⟩
def ZBC:Fs ya:=Zzf fuel
theorem Zzg:ZBC.Ok:=Zl5 (t:=Zt) (xs:=[⟨.ret,[(0,.v (.sl Zt))],[],[(.sl Zt)]⟩]) (MA:=λ(x:(List Out))=>Zoa fuel x) (MB:=λ_=>ZqQ fuel) ZDv ZvH rfl
def VO(F:Nat)(a0:(List Sig)):Option ((List Sig)):=
 if(apB 0 a0.length 16)=true then
  some a0
 else
 none
def ZDw(F:Nat):Fs ya:=⟨196,[.sl true WJ],[],[(.sl WJ)],[⟨.ret,[(0,.v (.sl WJ))],[],[(.sl WJ)]⟩],λx=>VO F x⟩
def ZGa:Fs ya:=ZDw fuel
theorem ZDx:ZGa.Ok:=fnO { own:=[5,7],still:=[2]} [] [] trivial
def ZqR(F:Nat):Option ((List Sig)):=
 some []
def ZvI(F:Nat):Fs ya:=⟨196,[.nil WJ],[],[],[⟨.ret,[(0,.v (.sl WJ))],[],[(.sl WJ)]⟩],λx=>ZqR F⟩
def Zzh:Fs ya:=ZvI fuel
theorem ZvJ:Zzh.Ok:=fnO { own:=[5,7],still:=[2]} [] [] trivial
def Zzi(F:Nat):Fs ya:=⟨196,[.v (.sl WJ)],[],[(.sl WJ)],[⟨.ret,[(0,.v (.sl WJ))],[],[(.sl WJ)]⟩],λx=>VO F x⟩
def Qv:Fs ya:=Zzi fuel
theorem Q8:Qv.Ok:=Zl5 (t:=WJ) (xs:=[⟨.ret,[(0,.v (.sl WJ))],[],[(.sl WJ)]⟩]) (MA:=λ(x:(List Sig))=>VO fuel x) (MB:=λ_=>ZqR fuel) ZDx ZvJ rfl
def Zho(F:Nat)(a0:(List In)):Option (((List Unit)×(List In))):=
 if(apB 0 a0.length 80)=true then
  some ([()],a0)
 else
 none
def Zzj(F:Nat):Fs ya:=⟨194,[.sl true yIn],[],[(.sl yIn)],[⟨.ret,[(0,.rw 0)],[.row yIn true 131],[(.sl (.st [])),(.sl yIn)]⟩],λx=>Zho F x⟩
def ZBD:Fs ya:=Zzj fuel
theorem Zzk:ZBD.Ok:=fnO { own:=[5,7],rowt:=[2,5,7]} [] [] trivial
def Zc0(F:Nat)(a0:(List In)):Option (((List Unit)×(List In))):=if a0.isEmpty=true then none else Zho F a0
def Zuj(F:Nat):Fs ya:=⟨194,[.v (.sl yIn)],[],[(.sl yIn)],[⟨.ret,[(0,.rw 0)],[.row yIn true 131],[(.sl (.st [])),(.sl yIn)]⟩],λx=>Zc0 F x⟩
def Zlq:Fs ya:=Zuj fuel
theorem ZjE:Zlq.Ok:=ZyF (t:=yIn) (xs:=[⟨.ret,[(0,.rw 0)],[.row yIn true 131],[(.sl (.st [])),(.sl yIn)]⟩]) (MA:=λ(x:(List In))=>Zho fuel x) Zzk rfl (λ_ _=>rfl)
def Zfg(F:Nat)(a0:(List Out)):Option (((List Unit)×(List Out))):=
 if(apB 0 a0.length 32)=true then
  some ([()],a0)
 else
 none
def ZvK(F:Nat):Fs ya:=⟨195,[.sl true Zt],[],[(.sl Zt)],[⟨.ret,[(0,.rw 0)],[.row Zt true 83],[(.sl (.st [])),(.sl Zt)]⟩],λx=>Zfg F x⟩
def Zzl:Fs ya:=ZvK fuel
theorem ZvL:Zzl.Ok:=fnO { own:=[5,7],rowt:=[2,5,7]} [] [] trivial
def Zbx(F:Nat)(a0:(List Out)):Option (((List Unit)×(List Out))):=if a0.isEmpty=true then none else Zfg F a0
def Zrz(F:Nat):Fs ya:=⟨195,[.v (.sl Zt)],[],[(.sl Zt)],[⟨.ret,[(0,.rw 0)],[.row Zt true 83],[(.sl (.st [])),(.sl Zt)]⟩],λx=>Zbx F x⟩
def ZjF:Fs ya:=Zrz fuel
theorem Zh2:ZjF.Ok:=ZyF (t:=Zt) (xs:=[⟨.ret,[(0,.rw 0)],[.row Zt true 83],[(.sl (.st [])),(.sl Zt)]⟩]) (MA:=λ(x:(List Out))=>Zfg fuel x) ZvL rfl (λ_ _=>rfl)
def ZfL:HI:={ still:=[8,11,30,48,61,69],rowt:=[5,9,12,22,49,55,67]}
def Wr(F:Nat)(a0:(List Zr)):Option (((List Unit)×(List Zr))):=
 if(apB 0 a0.length 48)=true then
  some ([()],a0)
 else
 none
def ZjG(F:Nat):Fs ya:=⟨172,[.sl true Zg],[],[(.sl Zg)],[⟨.ret,[(0,.rw 0)],[.row Zg true 145],[(.sl (.st [])),(.sl Zg)]⟩],λx=>Wr F x⟩
def ZkQ:Fs ya:=ZjG fuel
theorem ZjH:ZkQ.Ok:=fnO { own:=[5,7],rowt:=[2,5,7]} [] [] trivial
def Yx(F:Nat)(a0:(List Zr)):Option (((List Unit)×(List Zr))):=if a0.isEmpty=true then none else Wr F a0
def Zhp(F:Nat):Fs ya:=⟨172,[.v (.sl Zg)],[],[(.sl Zg)],[⟨.ret,[(0,.rw 0)],[.row Zg true 145],[(.sl (.st [])),(.sl Zg)]⟩],λx=>Yx F x⟩
def WK:Fs ya:=Zhp fuel
theorem Ws:WK.Ok:=ZyF (t:=Zg) (xs:=[⟨.ret,[(0,.rw 0)],[.row Zg true 145],[(.sl (.st [])),(.sl Zg)]⟩]) (MA:=λ(x:(List Zr))=>Wr fuel x) ZjH rfl (λ_ _=>rfl)
abbrev dT1:Type:=(Int×Int×Int×Int×Int×Int×Tx×(List Unit)×(List In)×(List Unit)×(List Out)×(List Unit)×(List Zr))
abbrev dT2:Type:=(Int×Int×Int×Int×Tx×(List Unit)×(List In)×(List Unit)×(List Out)×(List Unit)×(List Zr))
abbrev tL3:List Ty:=[yI,yI,yI,yI,yTx,(.sl (.st [])),(.sl yIn),(.sl (.st [])),(.sl Zt),(.sl (.st [])),(.sl Zg)]
abbrev tL4:List Ty:=[yI,yI,yI,yI,yI,yI,yTx,(.sl (.st [])),(.sl yIn),(.sl (.st [])),(.sl Zt),(.sl (.st [])),(.sl Zg)]
def YQ(F:Nat)(s:((List UInt64)×Int×Int)):Option (((List UInt64)×Int×Int)⊕(Int⊕Unit)):=
 if(decide (s.2.2 < s.2.1))=true then
  (idx s.1 s.2.2).bind λe467=>
  (Zhn F e467).bind λo468=>
  if o468=true then
   some (.inr (.inl s.2.2))
  else
  some (.inl (s.1,s.2.1,wi (s.2.2+1)))
 else
 some (.inr (.inr ()))
def Zfh:Lp:=⟨[(0,.v (.sl .u64)),(1,.fn 124 []),(7,.v yI),(8,.v yI)],[],[(.sl .u64),yI,yI],[⟨.ret,[(4,.v yI)],[],[yI]⟩,⟨.exit 0,[],[],[]⟩],Zd (YQ fuel) fuel⟩
theorem ZjI:Zfh.okA ya 193 0:=Zq { still:=[4,15]} [] [ZqP] ⟨Zzb,ytt⟩
def Zcc(F:Nat)(a0:(List UInt64)):Option (Int):=
 (Zd (YQ F) F (a0,(a0.length:Int),0)).bind λo469=>
 match o469 with
 |.inl o470=>
  some o470
 |.inr o471=>
  some (-1)
def Zob(F:Nat):Fs ya:=⟨193,[.v (.sl .u64),.fn 124 []],[],[(.sl .u64)],[⟨.ret,[(0,.v yI)],[],[yI]⟩],λx=>Zcc F x⟩
def Zgt:Fs ya:=Zob fuel
theorem Zoc:Zgt.Ok:=fnO { still:=[4,15]} [(0,Zfh)] [] trivial ⟨ZjI,ytt⟩
def Zfi(F:Nat)(a0:(List UInt64)):Option (Bool):=
 (Zcc F a0).bind λo472=>
 some (decide (o472 ≥ 0))
def ZvM(F:Nat):Fs ya:=⟨126,[.v (.sl .u64),.fn 124 []],[],[(.sl .u64)],[⟨.ret,[(0,.v .bool)],[],[.bool]⟩],λx=>Zfi F x⟩
def Zod:Fs ya:=ZvM fuel
theorem ZvN:Zod.Ok:=fnO { still:=[4,5,6]} [] [Zgt] ⟨Zoc,ytt⟩
abbrev tL5:List Ty:=[yI,(.sl .u64),yI,yI,yTx,yTx,yI,.u64,(.sl WJ),(.arr 32 .u8)]
def X1(F:Nat)(s:(Int×Int×Int×Tx×(List Unit)×(List In)×(List Unit)×(List Out))):Option ((Int×Int×Int×Tx×(List Unit)×(List In)×(List Unit)×(List Out))⊕(Int×Tx×(List Unit)×(List In)×(List Unit)×(List Out))):=
 if(decide (s.2.1 < s.1))=true then
  if(inB s.2.1 s.2.2.2.2.2.1.length)=true then
   (s.2.2.2.2.2.1[s.2.1.toNat]?).bind λe480=>
   (VO F e480.2.2.1).bind λo481=>
   if(inB s.2.1 s.2.2.2.2.2.1.length)=true then
    (s.2.2.2.2.2.1[s.2.1.toNat]?).bind λe482=>
    let y483:(List In):=s.2.2.2.2.2.1.set s.2.1.toNat (e482.1,(e482.2.1,o481,e482.2.2.2))
    some (.inl (s.1,wi (s.2.1+1),s.2.2.1,s.2.2.2.1,s.2.2.2.2.1,y483,s.2.2.2.2.2.2.1,s.2.2.2.2.2.2.2))
   else
   none
  else
  none
 else
 some (.inr (s.2.2.1,s.2.2.2.1,s.2.2.2.2.1,s.2.2.2.2.2.1,s.2.2.2.2.2.2.1,s.2.2.2.2.2.2.2))
def Zh3:Lp:=⟨[(1,.ref 0 []),(2,.ref 1 []),(17,.v yI),(18,.v yI)],[.var (.agg [.rw 2,.rw 3,.v yI]) true,.var (.v yTx) true,.row yIn true 131,.row Zt true 83],[yI,yI,yI,yTx,(.sl (.st [])),(.sl yIn),(.sl (.st [])),(.sl Zt)],[⟨.exit 0,[(1,.ref 0 []),(2,.ref 1 [])],[.var (.agg [.rw 2,.rw 3,.v yI]) true,.var (.v yTx) true,.row yIn true 131,.row Zt true 83],[yI,yTx,(.sl (.st [])),(.sl yIn),(.sl (.st [])),(.sl Zt)]⟩],Zd (X1 fuel) fuel⟩
theorem Zmw:Zh3.okA ya 127 0:=Zq ZfL [] [Qv] ⟨Q8,ytt⟩
def X2(F:Nat)(s:dT1):Option (dT1⊕dT2):=
 if(decide (s.2.2.2.2.1 < s.2.2.2.1))=true then
  if(inB s.2.2.2.2.1 s.2.2.2.2.2.2.2.2.2.2.2.2.length)=true then
   (s.2.2.2.2.2.2.2.2.2.2.2.2[s.2.2.2.2.1.toNat]?).bind λe487=>
   (ZI F e487.1).bind λo488=>
   if(inB s.2.2.2.2.1 s.2.2.2.2.2.2.2.2.2.2.2.2.length)=true then
    (s.2.2.2.2.2.2.2.2.2.2.2.2[s.2.2.2.2.1.toNat]?).bind λe489=>
    let y490:(List Zr):=s.2.2.2.2.2.2.2.2.2.2.2.2.set s.2.2.2.2.1.toNat (o488,e489.2.1,e489.2.2.1,e489.2.2.2)
    some (.inl (s.1,s.2.1,s.2.2.1,s.2.2.2.1,wi (s.2.2.2.2.1+1),s.2.2.2.2.2.1,s.2.2.2.2.2.2.1,s.2.2.2.2.2.2.2.1,s.2.2.2.2.2.2.2.2.1,s.2.2.2.2.2.2.2.2.2.1,s.2.2.2.2.2.2.2.2.2.2.1,s.2.2.2.2.2.2.2.2.2.2.2.1,y490))
   else
   none
  else
  none
 else
 some (.inr (s.1,s.2.1,s.2.2.1,s.2.2.2.2.2.1,s.2.2.2.2.2.2.1,s.2.2.2.2.2.2.2.1,s.2.2.2.2.2.2.2.2.1,s.2.2.2.2.2.2.2.2.2.1,s.2.2.2.2.2.2.2.2.2.2.1,s.2.2.2.2.2.2.2.2.2.2.2.1,s.2.2.2.2.2.2.2.2.2.2.2.2))
def Zh4:Lp:=⟨[(1,.ref 0 []),(2,.ref 1 []),(4,.v yI),(5,.rw 4),(38,.v yI),(39,.v yI),(51,.v yI),(52,.v yI)],[.var (.agg [.rw 2,.rw 3,.v yI]) true,.var (.v yTx) true,.row yIn true 131,.row Zt true 83,.row Zg true 145],tL4,[⟨.exit 4,[(1,.ref 0 []),(2,.ref 1 []),(4,.v yI),(5,.rw 4),(38,.v yI),(39,.v yI)],[.var (.agg [.rw 2,.rw 3,.v yI]) true,.var (.v yTx) true,.row yIn true 131,.row Zt true 83,.row Zg true 145],tL3⟩],Zd (X2 fuel) fuel⟩
theorem Zmx:Zh4.okA ya 127 2:=Zq ZfL [] [ZL] ⟨ZN,ytt⟩
def X3(F:Nat)(s:(Int×Int×Int×Tx×(List Unit)×(List In)×(List Unit)×(List Out))):Option ((Int×Int×Int×Tx×(List Unit)×(List In)×(List Unit)×(List Out))⊕(Int×Tx×(List Unit)×(List In)×(List Unit)×(List Out))):=
 if(decide (s.2.1 < s.1))=true then
  if(inB s.2.1 s.2.2.2.2.2.2.2.length)=true then
   (s.2.2.2.2.2.2.2[s.2.1.toNat]?).bind λe485=>
   (Yx F e485.2).bind λo486=>
   (Zd (X2 F) F (s.2.1,s.1,s.2.1,(o486.2.length:Int),0,s.2.2.1,s.2.2.2.1,s.2.2.2.2.1,s.2.2.2.2.2.1,s.2.2.2.2.2.2.1,s.2.2.2.2.2.2.2,o486.1,o486.2)).bind λo491=>
   if(inB o491.1 o491.2.2.2.2.2.2.2.2.1.length)=true then
    (o491.2.2.2.2.2.2.2.2.1[o491.1.toNat]?).bind λe492=>
    let y493:(List Out):=o491.2.2.2.2.2.2.2.2.1.set o491.1.toNat (e492.1,o491.2.2.2.2.2.2.2.2.2.2)
    some (.inl (o491.2.1,wi (o491.2.2.1+1),o491.2.2.2.1,o491.2.2.2.2.1,o491.2.2.2.2.2.1,o491.2.2.2.2.2.2.1,o491.2.2.2.2.2.2.2.1,y493))
   else
   none
  else
  none
 else
 some (.inr (s.2.2.1,s.2.2.2.1,s.2.2.2.2.1,s.2.2.2.2.2.1,s.2.2.2.2.2.2.1,s.2.2.2.2.2.2.2))
def Zh5:Lp:=⟨[(1,.ref 0 []),(2,.ref 1 []),(38,.v yI),(39,.v yI)],[.var (.agg [.rw 2,.rw 3,.v yI]) true,.var (.v yTx) true,.row yIn true 131,.row Zt true 83],[yI,yI,yI,yTx,(.sl (.st [])),(.sl yIn),(.sl (.st [])),(.sl Zt)],[⟨.exit 2,[(1,.ref 0 []),(2,.ref 1 [])],[.var (.agg [.rw 2,.rw 3,.v yI]) true,.var (.v yTx) true,.row yIn true 131,.row Zt true 83],[yI,yTx,(.sl (.st [])),(.sl yIn),(.sl (.st [])),(.sl Zt)]⟩],Zd (X3 fuel) fuel⟩
theorem Zmy:Zh5.okA ya 127 1:=Zq ZfL [(2,Zh4)] [WK] ⟨Ws,ytt⟩ ⟨Zmx,ytt⟩
def VP(F:Nat)(a0:Tx):Option ((Int×(List Unit)×(List In)×(List Unit)×(List Out))):=
 (Zc0 F a0.1).bind λo478=>
 (Zbx F a0.2.1).bind λo479=>
 (Zd (X1 F) F ((o478.2.length:Int),0,a0.2.2,([],[],0),o478.1,o478.2,o479.1,o479.2)).bind λo484=>
 (Zd (X3 F) F ((o484.2.2.2.2.2.length:Int),0,o484.1,o484.2.1,o484.2.2.1,o484.2.2.2.1,o484.2.2.2.2.1,o484.2.2.2.2.2)).bind λo494=>
 some (o494.1,o494.2.2.1,o494.2.2.2.1,o494.2.2.2.2.1,o494.2.2.2.2.2)
def ZrA(F:Nat):Fs ya:=⟨127,[.v yTx],[],[yTx],[⟨.ret,[(0,.agg [.rw 0,.rw 1,.v yI])],[.row yIn true 131,.row Zt true 83],[yI,(.sl (.st [])),(.sl yIn),(.sl (.st [])),(.sl Zt)]⟩],λx=>VP F x⟩
def ZjJ:Fs ya:=ZrA fuel
theorem ZrB:ZjJ.Ok:=fnO ZfL [(0,Zh3),(1,Zh5)] [Zlq,ZjF] ⟨ZjE,Zh2,ytt⟩ ⟨Zmw,Zmy,ytt⟩
def Qw(F:Nat)(s:(Int×(List UInt64)×Int×Int×Tx×Tx×Int×UInt64×(List Sig)×(List UInt8))):Option ((Int×(List UInt64)×Int×Int×Tx×Tx×Int×UInt64×(List Sig)×(List UInt8))⊕(Int×Tx×Tx×Int×UInt64×(List Sig)×(List UInt8))):=
 if(decide (s.2.2.2.1 < s.2.2.1))=true then
  (idx s.2.1 s.2.2.2.1).bind λe512=>
  (Qc F e512 s.2.2.2.2.2.2.2.2.2).bind λo513=>
  if(apB s.2.2.2.2.2.2.2.2.1.length 1 16)=true then
   some (.inl (s.1,s.2.1,s.2.2.1,wi (s.2.2.2.1+1),s.2.2.2.2.1,s.2.2.2.2.2.1,s.2.2.2.2.2.2.1,s.2.2.2.2.2.2.2.1,s.2.2.2.2.2.2.2.2.1++([o513]:List Sig),s.2.2.2.2.2.2.2.2.2))
  else
  none
 else
 some (.inr (s.1,s.2.2.2.2.1,s.2.2.2.2.2.1,s.2.2.2.2.2.2.1,s.2.2.2.2.2.2.2.1,s.2.2.2.2.2.2.2.2.1,s.2.2.2.2.2.2.2.2.2))
def Zuk:Lp:=⟨[(1,.v yI),(5,.ref 0 []),(10,.ref 1 []),(13,.ref 2 []),(14,.ref 4 []),(52,.v (.sl .u64)),(53,.v yI),(54,.v yI)],[.var (.v yTx) true,.var (.v yTx) true,.var (.agg [.v yI,.own 3 WJ,.v .u64]) true,.log WJ 63,.var (.v (.arr 32 .u8)) true],tL5,[⟨.exit 0,[(1,.v yI),(5,.ref 0 []),(10,.ref 1 []),(13,.ref 2 [])],[.var (.v yTx) true,.var (.v yTx) true,.var (.agg [.v yI,.own 3 WJ,.v .u64]) true,.log WJ 63,.var (.v (.arr 32 .u8)) true],[yI,yTx,yTx,yI,.u64,(.sl WJ),(.arr 32 .u8)]⟩],Zd (Qw fuel) fuel⟩
def ZNz:HI:={ own:=[59,64],still:=[11,20,35,45,46,50,60,61,67],rowt:=[70],deep:=[45,52],gst:=[(13,[([1],WJ,63)])]}
theorem ZvO:Zuk.okA ya 57 0:=Zq ZNz [] [Zfa] ⟨ZcX,ytt⟩
def Zoe(F:Nat)(a0:Tx)(a1:Int)(a2:Int)(a3:(List UInt64))(a4:UInt64):Option ((Tx×Int)):=
 (tx_RightM F a0).bind λo508=>
 if(!o508)=true then
  some (([],[],0),1)
 else
 if(decide (a1 < 0))=true then
  some (([],[],0),1)
 else
 if(decide (a1 ≥ (a0.1.length:Int)))=true then
  some (([],[],0),1)
 else
 (Qt F (a2,[],a4)).bind λo509=>
 if(!o509)=true then
  some (([],[],0),1)
 else
 if(decide ((a3.length:Int) > 12))=true then
  some (([],[],0),1)
 else
 (Zfi F a3).bind λo510=>
 if o510=true then
  some (([],[],0),1)
 else
 (Zhl F a0).bind λo511=>
 (Zd (Qw F) F (a1,a3,(a3.length:Int),0,a0,([],[],0),a2,a4,[],o511)).bind λo514=>
 (VP F o514.2.1).bind λo515=>
 if(inB o514.1 o515.2.2.1.length)=true then
  (o515.2.2.1[o514.1.toNat]?).bind λe516=>
  let y517:(List In):=o515.2.2.1.set o514.1.toNat (e516.1,(o514.2.2.2.1,o514.2.2.2.2.2.1,o514.2.2.2.2.1))
  some ((y517,o515.2.2.2.2,o515.1),0)
 else
 none
def ZDy(F:Nat):Fs ya:=⟨57,[.v yTx,.v yI,.v yI,.v (.sl .u64),.v .u64],[],[yTx,yI,yI,(.sl .u64),.u64],[⟨.ret,[(0,.tup [.v yTx,.v yI])],[],[yTx,yI]⟩],λx=>Zoe F x.1 x.2.1 x.2.2.1 x.2.2.2.1 x.2.2.2.2⟩
def Zw5:Fs ya:=ZDy fuel
theorem ZDz:Zw5.Ok:=ZyA (fi:={ hi:=ZNz,lp:=[(0,Zuk)]}) (specs:={ l:=[Qd,Zhi,Zod,Zn7,ZjJ]}) (okS ⟨Qu,Zlk,ZvN,ZjB,ZrB,ytt⟩) ⟨ZvO,ytt⟩
abbrev dT3:Type:=(Int×(List Int)×(List Outpoint)×Int×(List Int)×Int×Int×BackupKept×Tx×Lock×Tx×Int×(List In)×(List Out))
def Xg(F:Nat)(s:dT3):Option (dT3⊕(Int×(List Int)×Int×BackupKept×Tx×Lock×Tx×Int×(List In)×(List Out))):=
 if(decide (s.2.2.2.2.2.2.1 < s.2.2.2.2.2.1))=true then
  (idx s.2.2.2.2.1 s.2.2.2.2.2.2.1).bind λe521=>
  (idx s.2.2.2.2.2.2.2.2.1.2.1 e521).bind λe522=>
  (idx s.2.2.1 e521).bind λe523=>
  if(apB s.2.2.2.2.2.2.2.2.2.2.2.2.1.length 1 80)=true then
   let y524:(List In):=s.2.2.2.2.2.2.2.2.2.2.2.2.1++([(e523,(0,[],0))]:List In)
   some (.inl (s.1,s.2.1,s.2.2.1,wi (s.2.2.2.1+e522.1),s.2.2.2.2.1,s.2.2.2.2.2.1,wi (s.2.2.2.2.2.2.1+1),s.2.2.2.2.2.2.2.1,s.2.2.2.2.2.2.2.2.1,s.2.2.2.2.2.2.2.2.2.1,s.2.2.2.2.2.2.2.2.2.2.1,s.2.2.2.2.2.2.2.2.2.2.2.1,y524,s.2.2.2.2.2.2.2.2.2.2.2.2.2))
  else
  none
 else
 some (.inr (s.1,s.2.1,s.2.2.2.1,s.2.2.2.2.2.2.2.1,s.2.2.2.2.2.2.2.2.1,s.2.2.2.2.2.2.2.2.2.1,s.2.2.2.2.2.2.2.2.2.2.1,s.2.2.2.2.2.2.2.2.2.2.2.1,s.2.2.2.2.2.2.2.2.2.2.2.2.1,s.2.2.2.2.2.2.2.2.2.2.2.2.2))
def ZNA:List ESh:=[.var (.v Zf) true,.var (.v yTx) true,.var (.v ZB) true,.var (.v yTx) true,.var (.agg [.own 5 yIn,.own 6 Zt,.v yI]) true,.log yIn 131,.log Zt 83]
abbrev tL6:List Ty:=[yI,(.sl yI),yI,Zf,yTx,ZB,yTx,yI,(.sl yIn),(.sl Zt)]
abbrev tL7:List Ty:=[yI,(.sl yI),(.sl Zb),yI,(.sl yI),yI,yI,Zf,yTx,ZB,yTx,yI,(.sl yIn),(.sl Zt)]
def Zh6:Lp:=⟨[(3,.v yI),(4,.ref 0 []),(5,.ref 1 []),(6,.ref 2 []),(8,.ref 3 []),(10,.v (.sl yI)),(11,.v (.sl Zb)),(12,.v yI),(13,.ref 4 []),(34,.v (.sl yI)),(35,.v yI),(36,.v yI)],ZNA,tL7,[⟨.exit 0,[(3,.v yI),(4,.ref 0 []),(6,.ref 2 []),(8,.ref 3 []),(10,.v (.sl yI)),(12,.v yI),(13,.ref 4 [])],ZNA,tL6⟩],Zd (Xg fuel) fuel⟩
def ZMA:HI:={ own:=[49,56],still:=[9,17,25,26,32,76,77,81],ghost:=[(13,[([0],yIn,131),([1],Zt,83)])]}
theorem Zmz:Zh6.okA ya 14 0:=Zq ZMA [] [] trivial
def Xh(F:Nat)(s:(Int×Int×BackupKept×Tx×Lock×Tx×Tx×(List In)×(List Out))):Option ((Int×Int×BackupKept×Tx×Lock×Tx×Tx×(List In)×(List Out))⊕(BackupKept×Tx×Lock×Tx×Tx×(List In)×(List Out))):=
 if(decide (s.2.1 < s.1))=true then
  (Zoe F s.2.2.2.2.2.2.1 s.2.1 0 [s.2.2.1.2.1.2.1] 0).bind λo526=>
  some (.inl (s.1,wi (s.2.1+1),s.2.2.1,s.2.2.2.1,s.2.2.2.2.1,s.2.2.2.2.2.1,o526.1,s.2.2.2.2.2.2.2.1,s.2.2.2.2.2.2.2.2))
 else
 some (.inr (s.2.2.1,s.2.2.2.1,s.2.2.2.2.1,s.2.2.2.2.2.1,s.2.2.2.2.2.2.1,s.2.2.2.2.2.2.2.1,s.2.2.2.2.2.2.2.2))
def Zh7:Lp:=⟨[(4,.ref 0 []),(8,.ref 3 []),(13,.ref 4 []),(71,.v yI),(72,.v yI)],[.var (.v Zf) true,.var (.v yTx) true,.var (.v ZB) true,.var (.v yTx) true,.var (.v yTx) true,.log yIn 131,.log Zt 83],[yI,yI,Zf,yTx,ZB,yTx,yTx,(.sl yIn),(.sl Zt)],[⟨.exit 2,[(8,.ref 3 []),(13,.ref 4 [])],[.var (.v Zf) true,.var (.v yTx) true,.var (.v ZB) true,.var (.v yTx) true,.var (.v yTx) true,.log yIn 131,.log Zt 83],[Zf,yTx,ZB,yTx,yTx,(.sl yIn),(.sl Zt)]⟩],Zd (Xh fuel) fuel⟩
theorem ZmA:Zh7.okA ya 14 1:=Zq ZMA [] [Zw5] ⟨ZDz,ytt⟩
def Zby(F:Nat)(a0:BackupKept)(a1:Tx)(a2:Lock)(a3:Int):Option ((Tx×Int)):=
 (YJ F a2).bind λo518=>
 if(!o518)=true then
  some (([],[],0),1)
 else
 if(decide (a3 < 0))=true then
  some (([],[],0),1)
 else
 (Zbw F a0 a1).bind λo519=>
 if((o519.length:Int)==0)=true then
  some (([],[],0),5)
 else
 (Zea F a1).bind λo520=>
 (Zd (Xg F) F (a3,o519,o520,0,o519,(o519.length:Int),0,a0,a1,a2,([],[],0),0,[],[])).bind λo525=>
 if(decide (o525.2.2.1 < o525.1))=true then
  some (([],[],0),8)
 else
 (Zd (Xh F) F ((o525.2.1.length:Int),0,o525.2.2.2.1,o525.2.2.2.2.1,o525.2.2.2.2.2.1,o525.2.2.2.2.2.2.1,(o525.2.2.2.2.2.2.2.2.1,[(wi (o525.2.2.1 - o525.1),o525.2.2.2.2.2.1)],o525.2.2.2.2.2.2.2.1),o525.2.2.2.2.2.2.2.2.1,o525.2.2.2.2.2.2.2.2.2)).bind λo527=>
 some (o527.2.2.2.2.1,0)
def Zcd(F:Nat):Fs ya:=⟨14,[.v Zf,.v yTx,.v ZB,.v yI],[],[Zf,yTx,ZB,yI],[⟨.ret,[(0,.tup [.v yTx,.v yI])],[],[yTx,yI]⟩],λx=>Zby F x.1 x.2.1 x.2.2.1 x.2.2.2⟩
def ZjK:Fs ya:=Zcd fuel
theorem Zh8:ZjK.Ok:=ZId (fi:={ hi:=ZMA,lp:=[(0,Zh6),(1,Zh7)],gh:=[(22,.flat 13)]}) (specs:={ l:=[Wq,ZjA,Zgs]}) (okS ⟨XO,Zry,Zhm,ytt⟩) ⟨Zmz,ZmA,ytt⟩
def ZLe:ByteArray:=⟨#[107,105,116]⟩
def Zof(F:Nat)(s:(Int×(List UInt8)×Kit×(List UInt64))):Option ((Int×(List UInt8)×Kit×(List UInt64))⊕((List UInt8)×Kit×(List UInt64))):=
 if(decide (s.1 < 5))=true then
  (YO F ZLe [s.2.1,[w8 (wi (s.1+1))]]).bind λo531=>
  (Wa F o531).bind λo532=>
  if(inB s.1 5)=true then
   (s.2.2.2[s.1.toNat]?).bind λe533=>
   some (.inl (wi (s.1+1),s.2.1,s.2.2.1,s.2.2.2.set s.1.toNat o532))
  else
  none
 else
 some (.inr (s.2.1,s.2.2.1,s.2.2.2))
def ZqS:Lp:=⟨[(1,.ref 0 []),(2,.ref 1 []),(3,.ref 2 []),(5,.v yI)],[.var (.v (.arr 32 .u8)) false,.var (.v Zi9) true,.var (.v (.arr 5 .u64)) true],[yI,(.arr 32 .u8),Zi9,(.arr 5 .u64)],[⟨.exit 0,[(1,.ref 0 []),(2,.ref 1 []),(3,.ref 2 [])],[.var (.v (.arr 32 .u8)) false,.var (.v Zi9) true,.var (.v (.arr 5 .u64)) true],[(.arr 32 .u8),Zi9,(.arr 5 .u64)]⟩],Zd (Zof fuel) fuel⟩
def ZNB:HI:={ still:=[14,15,31],frz:=[9,29]}
theorem Zul:ZqS.okA ya 79 0:=Zq ZNB [] [Xp,Vu] ⟨Xc,VM,ytt⟩
def Zgu(F:Nat)(a0:(List UInt8)):Option (Kit):=
 (Zd (Zof F) F (0,a0,(0,0,0,0,0,yzz),[0,0,0,0,0])).bind λo534=>
 (o534.2.2[0]?).bind λe535=>
 (o534.2.2[1]?).bind λe536=>
 (o534.2.2[2]?).bind λe537=>
 (o534.2.2[3]?).bind λe538=>
 (o534.2.2[4]?).bind λe539=>
 (YO F ZLe [o534.1,[6]]).bind λo540=>
 some (e535,e536,e537,e538,e539,o540)
def Zfj(F:Nat):Fs ya:=⟨79,[.v (.arr 32 .u8)],[],[(.arr 32 .u8)],[⟨.ret,[(0,.v Zi9)],[],[Zi9]⟩],λx=>Zgu F x⟩
def ZDA:Fs ya:=Zfj fuel
theorem ZBE:ZDA.Ok:=fnO ZNB [(0,ZqS)] [Xp] ⟨Xc,ytt⟩ ⟨Zul,ytt⟩
def Zfk(F:Nat)(s:(Int×Int×Int×Int×(List UInt8)×(List UInt8))):Option ((Int×Int×Int×Int×(List UInt8)×(List UInt8))⊕((List UInt8)×(List UInt8))):=
 if(decide (s.2.2.2.1 < s.2.2.1))=true then
  if(decide (0≤wi ((wi (s.1 - 1)) - s.2.2.2.1)))=true then
   let y541:Int:=Int.fdiv s.2.1 (2 ^ (min (wi ((wi (s.1 - 1)) - s.2.2.2.1)).toNat 64))
   if((bits .and .i64 y541 1)==1)=true then
    let y542:Int:=wi (Int.tdiv (wi ((wi (s.1 - 1)) - s.2.2.2.1)) 8)
    if(inB y542 32)=true then
     (s.2.2.2.2.1[y542.toNat]?).bind λe543=>
     if(decide (0≤Int.tmod (wi ((wi (s.1 - 1)) - s.2.2.2.1)) 8))=true then
      let y544:UInt8:=ZJD 1 (min (Int.tmod (wi ((wi (s.1 - 1)) - s.2.2.2.1)) 8).toNat 8)
      if(inB y542 32)=true then
       (s.2.2.2.2.1[y542.toNat]?).bind λe545=>
       (ZaZ F (((s.2.2.2.2.1.set y542.toNat (e543^^^y544)).drop 0).take 32)).bind λo546=>
       some (.inl (s.1,s.2.1,s.2.2.1,wi (s.2.2.2.1+1),o546,s.2.2.2.2.2))
      else
      none
     else
     none
    else
    none
   else
   some (.inl (s.1,s.2.1,s.2.2.1,wi (s.2.2.2.1+1),s.2.2.2.2.1,s.2.2.2.2.2))
  else
  none
 else
 some (.inr (s.2.2.2.2.1,s.2.2.2.2.2))
def Zgv:Lp:=⟨[(1,.v yI),(2,.v yI),(3,.ref 0 []),(6,.ref 1 []),(8,.v yI),(9,.v yI)],[.var (.v (.arr 32 .u8)) true,.var (.v (.arr 32 .u8)) true],[yI,yI,yI,yI,(.arr 32 .u8),(.arr 32 .u8)],[⟨.exit 0,[(3,.ref 0 []),(6,.ref 1 [])],[.var (.v (.arr 32 .u8)) true,.var (.v (.arr 32 .u8)) true],[(.arr 32 .u8),(.arr 32 .u8)]⟩],Zd (Zfk fuel) fuel⟩
theorem ZkR:Zgv.okA ya 207 0:=Zq { still:=[30]} [] [Zmb] ⟨Zqy,ytt⟩
def ZjL(F:Nat)(a0:(List UInt8))(a1:Int)(a2:Int):Option ((List UInt8)):=
 (Zd (Zfk F) F (a1,a2,a1,0,a0,yzz)).bind λo547=>
 some o547.1
def ZpC(F:Nat):Fs ya:=⟨207,[.v (.arr 32 .u8),.v yI,.v yI],[],[(.arr 32 .u8),yI,yI],[⟨.ret,[(0,.v (.arr 32 .u8))],[],[(.arr 32 .u8)]⟩],λx=>ZjL F x.1 x.2.1 x.2.2⟩
def Zh9:Fs ya:=ZpC fuel
theorem ZpD:Zh9.Ok:=fnO { still:=[30]} [(0,Zgv)] [] trivial ⟨ZkR,ytt⟩
def Zgw(F:Nat)(a0:Int):Option (Int):=
 some (wi (1048575 - a0))
def ZmB(F:Nat):Fs ya:=⟨208,[.v yI],[],[yI],[⟨.ret,[(0,.v yI)],[],[yI]⟩],λx=>Zgw F x⟩
def Zfl:Fs ya:=ZmB fuel
theorem ZmC:Zfl.Ok:=fnO { still:=[2]} [] [] trivial
def Zgx(F:Nat)(a0:(List UInt8))(a1:Int):Option (((List UInt8)×Bool)):=
 if(decide (a1 < 0))=true then
  some (yzz,false)
 else
 if(decide (a1 ≥ 1048576))=true then
  some (yzz,false)
 else
 (Zgw F a1).bind λo548=>
 (ZjL F a0 20 o548).bind λo549=>
 some (o549,true)
def ZmD(F:Nat):Fs ya:=⟨144,[.v (.arr 32 .u8),.v yI],[],[(.arr 32 .u8),yI],[⟨.ret,[(0,.tup [.v (.arr 32 .u8),.v .bool])],[],[(.arr 32 .u8),.bool]⟩],λx=>Zgx F x.1 x.2⟩
def Zfm:Fs ya:=ZmD fuel
theorem ZmE:Zfm.Ok:=fnO { still:=[5,13,14,15]} [] [Zfl,Zh9] ⟨ZmC,ZpD,ytt⟩
def ZqT(F:Nat)(a0:(List UInt8)):Option (UInt64):=
 (Wa F a0).bind λo550=>
 (Yl F o550).bind λo551=>
 some o551
def ZvP(F:Nat):Fs ya:=⟨145,[.v (.arr 32 .u8)],[],[(.arr 32 .u8)],[⟨.ret,[(0,.v .u64)],[],[.u64]⟩],λx=>ZqT F x⟩
def Zog:Fs ya:=ZvP fuel
theorem ZvQ:Zog.Ok:=fnO { still:=[2,3,4]} [] [Vu,Wm] ⟨VM,XL,ytt⟩
def Za6(F:Nat)(a0:Kit)(a1:Int):Option ((UInt64×Bool)):=
 (Zgx F a0.2.2.2.2.2 a1).bind λo552=>
 if(!o552.2)=true then
  some (0,false)
 else
 (ZqT F o552.1).bind λo553=>
 some (o553,true)
def Zfn(F:Nat):Fs ya:=⟨80,[.v Zi9,.v yI],[],[Zi9,yI],[⟨.ret,[(0,.tup [.v .u64,.v .bool])],[],[.u64,.bool]⟩],λx=>Za6 F x.1 x.2⟩
def ZDB:Fs ya:=Zfn fuel
theorem ZBF:ZDB.Ok:=fnO { still:=[4,5,10,11,17]} [] [Zfm,Zog] ⟨ZmE,ZvQ,ytt⟩
def Zoh(F:Nat)(a0:Int):Option (Bool):=
 if(a0==0)=true then
  some true
 else
 some (a0==1)
def Zum(F:Nat):Fs ya:=⟨146,[.v yI],[],[yI],[⟨.ret,[(0,.v .bool)],[],[.bool]⟩],λx=>Zoh F x⟩
def Zlr:Fs ya:=Zum fuel
theorem Zun:Zlr.Ok:=fnO { still:=[2]} [] [] trivial
def Zia(F:Nat)(a0:Int)(s0:Int)(s1:Int):Option ((Bool×Int×Int)):=
 if(decide (a0 < s0))=true then
  some (true,s0,s1)
 else
 some (decide (a0 > s1),s0,s1)
def Zoi(F:Nat):Fs ya:=⟨241,[.v yI,.ref 0 [],.ref 1 []],[.var (.v yI) true,.var (.v yI) true],[yI,yI,yI],[⟨.ret,[(0,.v .bool)],[.var (.v yI) true,.var (.v yI) true],[.bool,yI,yI]⟩],λx=>Zia F x.1 x.2.1 x.2.2⟩
def Zgy:Fs ya:=Zoi fuel
theorem Zoj:Zgy.Ok:=fnO { still:=[4]} [] [] trivial
def XP(F:Nat)(s:((List Int)×Int×Int×Int×Int)):Option (((List Int)×Int×Int×Int×Int)⊕((Int×Int×Int)⊕(Int×Int))):=
 if(decide (s.2.2.1 < s.2.1))=true then
  (idx s.1 s.2.2.1).bind λe554=>
  (Zia F e554 s.2.2.2.1 s.2.2.2.2).bind λo555=>
  if o555.1=true then
   some (.inr (.inl (s.2.2.1,o555.2.1,o555.2.2)))
  else
  some (.inl (s.1,s.2.1,wi (s.2.2.1+1),o555.2.1,o555.2.2))
 else
 some (.inr (.inr (s.2.2.2.1,s.2.2.2.2)))
def X4:Lp:=⟨[(0,.v (.sl yI)),(1,.fn 241 [.ref 0 [],.ref 1 []]),(7,.v yI),(8,.v yI)],[.var (.v yI) true,.var (.v yI) true],[(.sl yI),yI,yI,yI,yI],[⟨.ret,[(4,.v yI)],[.var (.v yI) true,.var (.v yI) true],[yI,yI,yI]⟩,⟨.exit 0,[],[.var (.v yI) true,.var (.v yI) true],[yI,yI]⟩],Zd (XP fuel) fuel⟩
theorem Qy:X4.okA ya 203 0:=Zq { still:=[4,15]} [] [Zgy] ⟨Zoj,ytt⟩
def Wy(F:Nat)(a0:(List Int))(s0:Int)(s1:Int):Option ((Int×Int×Int)):=
 (Zd (XP F) F (a0,(a0.length:Int),0,s0,s1)).bind λo556=>
 match o556 with
 |.inl o557=>
  some (o557.1,o557.2.1,o557.2.2)
 |.inr o558=>
  some ((-1),o558.1,o558.2)
def Za7(F:Nat):Fs ya:=⟨203,[.v (.sl yI),.fn 241 [.ref 0 [],.ref 1 []]],[.var (.v yI) true,.var (.v yI) true],[(.sl yI),yI,yI],[⟨.ret,[(0,.v yI)],[.var (.v yI) true,.var (.v yI) true],[yI,yI,yI]⟩],λx=>Wy F x.1 x.2.1 x.2.2⟩
def Wb:Fs ya:=Za7 fuel
theorem Za8:Wb.Ok:=fnO { still:=[4,15]} [(0,X4)] [] trivial ⟨Qy,ytt⟩
def XQ(F:Nat)(a0:(List Int))(s0:Int)(s1:Int):Option ((Bool×Int×Int)):=
 (Wy F a0 s0 s1).bind λo559=>
 some (decide (o559.1 ≥ 0),o559.2.1,o559.2.2)
def Qz(F:Nat):Fs ya:=⟨134,[.v (.sl yI),.fn 241 [.ref 0 [],.ref 1 []]],[.var (.v yI) true,.var (.v yI) true],[(.sl yI),yI,yI],[⟨.ret,[(0,.v .bool)],[.var (.v yI) true,.var (.v yI) true],[.bool,yI,yI]⟩],λx=>XQ F x.1 x.2.1 x.2.2⟩
def XG:Fs ya:=Qz fuel
theorem QA:XG.Ok:=fnO { still:=[4,5,6]} [] [Wb] ⟨Za8,ytt⟩
def Xd(F:Nat)(a0:Int)(a1:Int)(a2:(List Int)):Option (Bool):=
 (XQ F a2 a0 a1).bind λo560=>
 some (!o560.1)
def ZrC(F:Nat):Fs ya:=⟨209,[.v yI,.v yI,.v (.sl yI)],[],[yI,yI,(.sl yI)],[⟨.ret,[(0,.v .bool)],[],[.bool]⟩],λx=>Xd F x.1 x.2.1 x.2.2⟩
def Zec:Fs ya:=ZrC fuel
theorem Zib:Zec.Ok:=fnO { still:=[6,7,8]} [] [XG] ⟨QA,ytt⟩
def ZqU(F:Nat)(a0:Cond):Option (Bool):=
 (Xd F 0 1 [a0.1]).bind λo561=>
 if o561=true then
  (Xd F 1 1048576 [a0.2.1]).bind λo562=>
  if o562=true then
   (Xd F 1 1125899906842624 [a0.2.2.1]).bind λo563=>
   if o563=true then
    (Xd F 1 1048576 [a0.2.2.2.2]).bind λo564=>
    if o564=true then
     (YE F a0.2.2.2.1).bind λo565=>
     if o565=true then
      some (a0.2.2.2.1 !=1)
     else
     some false
    else
    some false
   else
   some false
  else
  some false
 else
 some false
def ZvR(F:Nat):Fs ya:=⟨210,[.v XX],[],[XX],[⟨.ret,[(0,.v .bool)],[],[.bool]⟩],λx=>ZqU F x⟩
def Zok:Fs ya:=ZvR fuel
theorem ZvS:Zok.Ok:=fnO { still:=[2,5,10,16,22,27]} [] [Zec,XK] ⟨Zib,Xo,ytt⟩
def ZjM(F:Nat)(s:(Int×(List Int)×Int×Int)):Option ((Int×(List Int)×Int×Int)⊕(Int⊕Int)):=
 if(decide (s.2.2.2 < s.2.2.1))=true then
  (idx s.2.1 s.2.2.2).bind λe566=>
  if(e566 !=s.1)=true then
   some (.inr (.inl e566))
  else
  some (.inl (s.1,s.2.1,s.2.2.1,wi (s.2.2.2+1)))
 else
 some (.inr (.inr s.1))
def Zls:Lp:=⟨[(3,.v yI),(6,.v (.sl yI)),(7,.v yI),(8,.v yI)],[],[yI,(.sl yI),yI,yI],[⟨.ret,[(2,.v yI)],[],[yI]⟩,⟨.exit 0,[(3,.v yI)],[],[yI]⟩],Zd (ZjM fuel) fuel⟩
theorem ZpE:Zls.okA ya 159 0:=Zq { still:=[2]} [] [] trivial
def ZjN(F:Nat)(a0:(List Int)):Option (Int):=
 (Zd (ZjM F) F (0,a0,(a0.length:Int),0)).bind λo567=>
 match o567 with
 |.inl o568=>
  some o568
 |.inr o569=>
  some o569
def ZvT(F:Nat):Fs ya:=⟨159,[.v (.sl yI)],[],[(.sl yI)],[⟨.ret,[(0,.v yI)],[],[yI]⟩],λx=>ZjN F x⟩
def Zhq:Fs ya:=ZvT fuel
theorem Zlt:Zhq.Ok:=fnO { still:=[2]} [(0,Zls)] [] trivial ⟨ZpE,ytt⟩
def Zed(F:Nat)(a0:Int):Option (Bool):=
 some (a0 !=a0)
def ZpF(F:Nat):Fs ya:=⟨218,[.v yI],[],[yI],[⟨.ret,[(0,.v .bool)],[],[.bool]⟩],λx=>Zed F x⟩
def Zic:Fs ya:=ZpF fuel
theorem ZpG:Zic.Ok:=fnO { still:=[2]} [] [] trivial
def YR(F:Nat)(a0:Int)(a1:Int):Option (Int):=
 (Zed F a0).bind λo570=>
 (Zed F a1).bind λo571=>
 if o570=true then
  if o571=true then
   some 0
  else
  some (-1)
 else
 if o571=true then
  some 1
 else
 if(decide (a0 < a1))=true then
  some (-1)
 else
 if(decide (a0 > a1))=true then
  some 1
 else
 some 0
def ZmF(F:Nat):Fs ya:=⟨160,[.v yI,.v yI],[],[yI,yI],[⟨.ret,[(0,.v yI)],[],[yI]⟩],λx=>YR F x.1 x.2⟩
def Q9:Fs ya:=ZmF fuel
theorem Zee:Q9.Ok:=fnO { still:=[4,7,9]} [] [Zic] ⟨ZpG,ytt⟩
def Zol(F:Nat)(a0:Cond)(a1:Cond):Option (Int):=
 (YR F a0.1 a1.1).bind λo572=>
 (YR F a0.2.1 a1.2.1).bind λo573=>
 (ZjN F [o572,o573]).bind λo574=>
 some o574
def Zuo(F:Nat):Fs ya:=⟨211,[.v XX,.v XX],[],[XX,XX],[⟨.ret,[(0,.v yI)],[],[yI]⟩],λx=>Zol F x.1 x.2⟩
def Zlu:Fs ya:=Zuo fuel
theorem Zup:Zlu.Ok:=fnO { still:=[4,6,8,11,13,15]} [] [Q9,Zhq] ⟨Zee,Zlt,ytt⟩
abbrev ZR:Ty:=(.st [yI,(.arr 2 yI),(.sl XX),yI])
abbrev XR:Type:=(Int×(List Int)×(List Cond)×Int)
def Zfo(F:Nat)(s:(Int×Int×Int×(List Cond)×Int×Int×XR)):Option ((Int×Int×Int×(List Cond)×Int×Int×XR)⊕(Int×Int×XR)):=
 if(decide (s.2.2.2.2.2.1 < s.2.2.2.2.1))=true then
  (idx s.2.2.2.1 s.2.2.2.2.2.1).bind λe575=>
  if(e575.1==(wi (1 - s.1)))=true then
   some (.inl (s.1,wi (s.2.1+1),wi (s.2.2.1+e575.2.2.1),s.2.2.2.1,s.2.2.2.2.1,wi (s.2.2.2.2.2.1+1),s.2.2.2.2.2.2))
  else
  some (.inl (s.1,s.2.1,s.2.2.1,s.2.2.2.1,s.2.2.2.2.1,wi (s.2.2.2.2.2.1+1),s.2.2.2.2.2.2))
 else
 some (.inr (s.2.1,s.2.2.1,s.2.2.2.2.2.2))
def Zgz:Lp:=⟨[(1,.v yI),(6,.v yI),(7,.v yI),(11,.v (.sl XX)),(12,.v yI),(13,.v yI)],[.var (.v ZR) true],[yI,yI,yI,(.sl XX),yI,yI,ZR],[⟨.exit 0,[(6,.v yI),(7,.v yI)],[.var (.v ZR) true],[yI,yI,ZR]⟩],Zd (Zfo fuel) fuel⟩
theorem ZkS:Zgz.okA ya 212 0:=Zq { still:=[4,5]} [] [] trivial
def ZjO(F:Nat)(a0:XR)(a1:Int):Option ((Int×Int)):=
 (Zd (Zfo F) F (a1,0,0,a0.2.2.1,(a0.2.2.1.length:Int),0,a0)).bind λo576=>
 some (o576.1,o576.2.1)
def ZpH(F:Nat):Fs ya:=⟨212,[.v ZR,.v yI],[],[ZR,yI],[⟨.ret,[(0,.tup [.v yI,.v yI])],[],[yI,yI]⟩],λx=>ZjO F x.1 x.2⟩
def Zid:Fs ya:=ZpH fuel
theorem ZpI:Zid.Ok:=fnO { still:=[4,5]} [(0,Zgz)] [] trivial ⟨ZkS,ytt⟩
def Zie(F:Nat)(s:(Int×(List Cond)×Int×Int×XR)):Option ((Int×(List Cond)×Int×Int×XR)⊕(Int×XR)):=
 if(decide (s.2.2.2.1 < s.2.2.1))=true then
  (idx s.2.1 s.2.2.2.1).bind λe579=>
  some (.inl (wi (s.1+e579.2.2.1),s.2.1,s.2.2.1,wi (s.2.2.2.1+1),s.2.2.2.2))
 else
 some (.inr (s.1,s.2.2.2.2))
def ZjP:Lp:=⟨[(3,.v yI),(14,.v (.sl XX)),(15,.v yI),(16,.v yI)],[.var (.v ZR) true],[yI,(.sl XX),yI,yI,ZR],[⟨.exit 0,[(3,.v yI)],[.var (.v ZR) true],[yI,ZR]⟩],Zd (Zie fuel) fuel⟩
theorem Zom:ZjP.okA ya 213 0:=Zq { still:=[2]} [] [] trivial
end
end Go.Proofs.YtekdgjajmennjaaGreat
end
