/- Parts of the proof, in one file. -/
import Derived.Test.YtkapgdbeeblihaaGreatKe
open Bool renaming and_eq_true → yi
open Go.Proofs.Tryz renaming prog → yf
open Int renaming tdiv → yl, tmod → yac
open List renaming length_append → yr, length_map → yw, map_cons → yaa, replicate → yae, length_take → yah, map_append → yak, length_cons → yal, getElem?_map → yan, append_assoc → yao, getElem?_eq_none → yaq, mem_cons → yax, getElem?_cons_succ → yay, length_set → ybf, take_append_drop → ybk, length_drop → ybv, map_nil → ycc, not_mem_nil → yci, getElem?_set_self → ycr, length_replicate → yct, getD_eq_getElem?_getD → yda
open Nat renaming le_refl → yn, add → yx, shiftRight → yaj, mod_eq_of_lt → yas, add_mul → yaw, zero_add → yba, mod_lt → ybq, mul_comm → ybs, lt_or_ge → ybt, mul_le_mul_right → yce, eq_zero_or_pos → yck
open Option renaming bind_some → ya
open UInt32 renaming toNat → ybn, toNat_ofNat' → ycv
open UInt64 renaming ofNat → yai, toNat_ofNat' → ybg, toNat_lt → yca, toNat_inj → ycq, le_iff_toNat_le → ycu, lt_iff_toNat_lt → ycz
open UInt8 renaming ofNat → ybd, toNat → ybj
set_option linter.unusedVariables false
set_option linter.unusedSimpArgs false
section
set_option maxRecDepth 4000
namespace Go.Proofs.YtkapgdbeeblihaaGreat
open Go Go.Ev
section
variable{y1 y0 u d q r:Nat}
theorem ZG7(h:q*y1+r=u)(hc:4294967296*r+d < q*y0):u*4294967296+d < q*(y1*4294967296+y0):=by
 have e:q*(y1*4294967296+y0)=q*y1*4294967296+q*y0:=by rw[Nat.mul_add,Nat.mul_assoc]
 rw[e];omega
theorem ZCf(h:q*y1+r=u)(hc:q*y0≤4294967296*r+d):q*(y1*4294967296+y0)≤u*4294967296+d:=by
 have e:q*(y1*4294967296+y0)=q*y1*4294967296+q*y0:=by rw[Nat.mul_add,Nat.mul_assoc]
 rw[e];omega
theorem ZGb(hu:u < y1*4294967296+y0)(hd:d < 4294967296):(u*4294967296+d) / (y1*4294967296+y0) < 4294967296:=by
 rw[Nat.div_lt_iff_lt_mul (by omega)];omega
theorem Zyw(h:q*y1+r=u)(hq:1≤q):(q - 1)*y1+(r+y1)=u:=by
 have e:q*y1=(q - 1)*y1+y1:=by
  rw[←Nat.succ_mul];congr 1;omega
 omega
theorem ZCg(hu:u < y1*4294967296+y0)(h0:y0 < 4294967296)(h:q*y1+r=u)(hr:4294967296≤r):q*y0≤4294967296*r+d:=by
 by_cases hq:q < 4294967296
 ·have:q*y0≤4294967295*4294967295:=Nat.mul_le_mul (by omega) (by omega);omega
 ·have:4294967296*y1≤q*y1:=yce _ (by omega);omega
end
theorem Zw1{q T Y:Nat}(hY:0 < Y)(h1:T / Y≤q)(h2:q*Y≤T):q=T / Y:=Nat.le_antisymm ((Nat.le_div_iff_mul_le hY).2 h2) h1
theorem Zu8{y1 y0 u d:Nat}{Q R Y0 Y1 D:UInt64}(hY1:Y1.toNat=y1)(hY0:Y0.toNat=y0)(hD:D.toNat=d)(h1:y1 < 4294967296)(h0:y0 < 4294967296)(hd:d < 4294967296)(hu:u < y1*4294967296+y0)
 (e:Q.toNat*y1+R.toNat=u) (hr:R.toNat < 4294967296) (hge:(u*4294967296+d) / (y1*4294967296+y0)≤Q.toNat):
 ((Q ≥ 4294967296∨(Q*Y0 > (4294967296*R)+D))∧(u*4294967296+d) / (y1*4294967296+y0)≤(Q - 1).toNat∧(Q - 1).toNat*y1+(R+Y1).toNat=u∧(R+Y1).toNat=R.toNat+y1)∨
 (¬Q ≥ 4294967296∧¬(Q*Y0 > (4294967296*R)+D)∧Q.toNat=(u*4294967296+d) / (y1*4294967296+y0)):=by
 have hadd:(R+Y1).toNat=R.toNat+y1:=by rw[Zhm (by omega),hY1]
 have hrd:((4294967296*R)+D).toNat=4294967296*R.toNat+d:=by
  have m:(4294967296*R:UInt64).toNat=4294967296*R.toNat:=by
   rw[Zhn (by show 4294967296*R.toNat < _;omega)];rfl
  rw[Zhm (by rw[m];omega),m,hD]
 have dec:1≤Q.toNat→(Q - 1).toNat=Q.toNat - 1:=λh=>by
  rw[UInt64.toNat_sub_of_le _ _ (by rw[ycu];exact h)];rfl
 by_cases c1:Q ≥ 4294967296
 ·left
  have hq:4294967296≤Q.toNat:=by
   rw[ge_iff_le,ycu] at c1;exact c1
  have:=ZGb hu hd;refine⟨.inl c1,by rw[dec (by omega)];omega, ?_,hadd⟩;rw[dec (by omega),hadd];exact Zyw e (by omega)
 have hq:Q.toNat < 4294967296:=by
  rw[ge_iff_le,ycu] at c1;exact Nat.lt_of_not_le c1
 have hmul:(Q*Y0).toNat=Q.toNat*y0:=by
  have:=Zgq hq h0;rw[Zhn (by rw[hY0];omega),hY0]
 by_cases c2:Q*Y0 > (4294967296*R)+D
 ·left
  have c3:4294967296*R.toNat+d < Q.toNat*y0:=by
   have:=ycz.1 c2;rw[hmul,hrd] at this;exact this
  have q1:1≤Q.toNat:=by
   rcases yck Q.toNat with h|h
   ·rw[h,Nat.zero_mul] at c3;omega
   ·exact h
  have hg:=ZG7 (d:=d) e c3;have hlt:(u*4294967296+d) / (y1*4294967296+y0) < Q.toNat:=(Nat.div_lt_iff_lt_mul (by omega)).2 hg;refine⟨.inr c2,by rw[dec q1];omega, ?_,hadd⟩;rw[dec q1,hadd];exact Zyw e q1
 ·right
  have c3:Q.toNat*y0≤4294967296*R.toNat+d:=by
   have:¬(((4294967296*R)+D).toNat < (Q*Y0).toNat):=λh=>c2 (ycz.2 h);rw[hmul,hrd] at this;omega
  exact⟨c1,c2,Zw1 (by omega) hge (ZCf e c3)⟩
theorem ZG8{y1 y0 u d:Nat}{Yv N Y1 Y0 U D E Q R:UInt64}(hY1:Y1.toNat=y1)(hY0:Y0.toNat=y0)(hD:D.toNat=d)(h1:y1 < 4294967296)(h3:0 < y1)(h0:y0 < 4294967296)(hd:d < 4294967296)(hu:u < y1*4294967296+y0)
 (e:Q.toNat*y1+R.toNat=u) (hr:R.toNat < 4294967296) (hge:(u*4294967296+d) / (y1*4294967296+y0)≤Q.toNat):
 ∃q:UInt64,Zh (WU fuel) fuel (Yv,N,Y1,Y0,U,D,E,Q,R)=some (Yv,N,Y1,Y0,U,D,E,q)∧q.toNat=(u*4294967296+d) / (y1*4294967296+y0):=by
 obtain⟨x,hx,q,rfl,hq⟩:=XD (step:=WU fuel) (λs=>∃Q R:UInt64,s=(Yv,N,Y1,Y0,U,D,E,Q,R)∧Q.toNat*y1+R.toNat=u∧R.toNat < 4294967296∧(u*4294967296+d) / (y1*4294967296+y0)≤Q.toNat)
  (λs=>4294967296 - s.2.2.2.2.2.2.2.2.toNat) (λx=>∃q:UInt64,x=(Yv,N,Y1,Y0,U,D,E,q)∧q.toNat=(u*4294967296+d) / (y1*4294967296+y0)) (by
  rintro _ ⟨Q,R,rfl,e,hr,hge⟩;unfold WU;dsimp only;rcases Zu8 hY1 hY0 hD h1 h0 hd hu e hr hge with⟨c,k1,k2,k3⟩|⟨c1,c2,k⟩
  ·have key:(∃j,(if decide (R+Y1 ≥ 4294967296)=true then some (Sum.inr (Yv,N,Y1,Y0,U,D,E,Q - 1)) else some (Sum.inl (Yv,N,Y1,Y0,U,D,E,Q - 1,R+Y1)):Option ((UInt64×UInt64×UInt64×UInt64×UInt64×UInt64×UInt64×UInt64×UInt64)⊕(UInt64×UInt64×UInt64×UInt64×UInt64×UInt64×UInt64×UInt64)))=some (.inl j)∧
    (∃Q R:UInt64,j=(Yv,N,Y1,Y0,U,D,E,Q,R)∧Q.toNat*y1+R.toNat=u∧R.toNat < 4294967296∧(u*4294967296+d) / (y1*4294967296+y0)≤Q.toNat)∧4294967296 - j.2.2.2.2.2.2.2.2.toNat < 4294967296 - R.toNat)∨
    (∃x,(if decide (R+Y1 ≥ 4294967296)=true then some (Sum.inr (Yv,N,Y1,Y0,U,D,E,Q - 1)) else some (Sum.inl (Yv,N,Y1,Y0,U,D,E,Q - 1,R+Y1)):Option ((UInt64×UInt64×UInt64×UInt64×UInt64×UInt64×UInt64×UInt64×UInt64)⊕(UInt64×UInt64×UInt64×UInt64×UInt64×UInt64×UInt64×UInt64)))=some (.inr x)∧
    ∃q:UInt64,x=(Yv,N,Y1,Y0,U,D,E,q)∧q.toNat=(u*4294967296+d) / (y1*4294967296+y0)):=by
    by_cases hb:R+Y1 ≥ 4294967296
    ·right;rw[if_pos (decide_eq_true hb)]
     have hb2:4294967296≤(R+Y1).toNat:=by
      rw[ge_iff_le,ycu] at hb;exact hb
     exact⟨_,rfl,_,rfl,Zw1 (by omega) k1 (ZCf k2 (ZCg hu h0 k2 hb2))⟩
    ·left;rw[if_neg (by rw[decide_eq_true_iff];exact hb)]
     have hb2:(R+Y1).toNat < 4294967296:=by
      rw[ge_iff_le,ycu] at hb;exact Nat.lt_of_not_le hb
     exact⟨_,rfl,⟨_,_,rfl,k2,hb2,k1⟩,by dsimp only;omega⟩
   rcases c with c|c
   ·rw[if_pos (decide_eq_true c)];exact key
   ·by_cases c1:Q ≥ 4294967296
    ·rw[if_pos (decide_eq_true c1)];exact key
    ·rw[if_neg (by rw[decide_eq_true_iff];exact c1),if_pos (decide_eq_true c)];exact key
  ·right;rw[if_neg (by rw[decide_eq_true_iff];exact c1),if_neg (by rw[decide_eq_true_iff];exact c2)];exact⟨_,rfl,_,rfl,k⟩) (Yv,N,Y1,Y0,U,D,E,Q,R) ⟨Q,R,rfl,e,hr,hge⟩ (by dsimp only;omega)
 exact⟨q,hx,hq⟩
theorem ZG9{y1 y0 u d:Nat}{Yv N Y1 Y0 U D E Q R:UInt64}(hY1:Y1.toNat=y1)(hY0:Y0.toNat=y0)(hD:D.toNat=d)(h1:y1 < 4294967296)(h3:0 < y1)(h0:y0 < 4294967296)(hd:d < 4294967296)(hu:u < y1*4294967296+y0)
 (e:Q.toNat*y1+R.toNat=u) (hr:R.toNat < 4294967296) (hge:(u*4294967296+d) / (y1*4294967296+y0)≤Q.toNat):
 ∃q:UInt64,Zh (WV fuel) fuel (Yv,N,Y1,Y0,D,E,R,U,Q)=some (Yv,N,D,E,U,q)∧q.toNat=(u*4294967296+d) / (y1*4294967296+y0):=by
 obtain⟨x,hx,q,rfl,hq⟩:=XD (step:=WV fuel) (λs=>∃Q R:UInt64,s=(Yv,N,Y1,Y0,D,E,R,U,Q)∧Q.toNat*y1+R.toNat=u∧R.toNat < 4294967296∧(u*4294967296+d) / (y1*4294967296+y0)≤Q.toNat)
  (λs=>4294967296 - s.2.2.2.2.2.2.1.toNat) (λx=>∃q:UInt64,x=(Yv,N,D,E,U,q)∧q.toNat=(u*4294967296+d) / (y1*4294967296+y0)) (by
  rintro _ ⟨Q,R,rfl,e,hr,hge⟩;unfold WV;dsimp only;rcases Zu8 hY1 hY0 hD h1 h0 hd hu e hr hge with⟨c,k1,k2,k3⟩|⟨c1,c2,k⟩
  ·have key:(∃j,(if decide (R+Y1 ≥ 4294967296)=true then some (Sum.inr (Yv,N,D,E,U,Q - 1)) else some (Sum.inl (Yv,N,Y1,Y0,D,E,R+Y1,U,Q - 1)):Option ((UInt64×UInt64×UInt64×UInt64×UInt64×UInt64×UInt64×UInt64×UInt64)⊕(UInt64×UInt64×UInt64×UInt64×UInt64×UInt64)))=some (.inl j)∧
    (∃Q R:UInt64,j=(Yv,N,Y1,Y0,D,E,R,U,Q)∧Q.toNat*y1+R.toNat=u∧R.toNat < 4294967296∧(u*4294967296+d) / (y1*4294967296+y0)≤Q.toNat)∧4294967296 - j.2.2.2.2.2.2.1.toNat < 4294967296 - R.toNat)∨
    (∃x,(if decide (R+Y1 ≥ 4294967296)=true then some (Sum.inr (Yv,N,D,E,U,Q - 1)) else some (Sum.inl (Yv,N,Y1,Y0,D,E,R+Y1,U,Q - 1)):Option ((UInt64×UInt64×UInt64×UInt64×UInt64×UInt64×UInt64×UInt64×UInt64)⊕(UInt64×UInt64×UInt64×UInt64×UInt64×UInt64)))=some (.inr x)∧
    ∃q:UInt64,x=(Yv,N,D,E,U,q)∧q.toNat=(u*4294967296+d) / (y1*4294967296+y0)):=by
    by_cases hb:R+Y1 ≥ 4294967296
    ·right;rw[if_pos (decide_eq_true hb)]
     have hb2:4294967296≤(R+Y1).toNat:=by
      rw[ge_iff_le,ycu] at hb;exact hb
     exact⟨_,rfl,_,rfl,Zw1 (by omega) k1 (ZCf k2 (ZCg hu h0 k2 hb2))⟩
    ·left;rw[if_neg (by rw[decide_eq_true_iff];exact hb)]
     have hb2:(R+Y1).toNat < 4294967296:=by
      rw[ge_iff_le,ycu] at hb;exact Nat.lt_of_not_le hb
     exact⟨_,rfl,⟨_,_,rfl,k2,hb2,k1⟩,by dsimp only;omega⟩
   rcases c with c|c
   ·rw[if_pos (decide_eq_true c)];exact key
   ·by_cases c1:Q ≥ 4294967296
    ·rw[if_pos (decide_eq_true c1)];exact key
    ·rw[if_neg (by rw[decide_eq_true_iff];exact c1),if_pos (decide_eq_true c)];exact key
  ·right;rw[if_neg (by rw[decide_eq_true_iff];exact c1),if_neg (by rw[decide_eq_true_iff];exact c2)];exact⟨_,rfl,_,rfl,k⟩) (Yv,N,Y1,Y0,D,E,R,U,Q) ⟨Q,R,rfl,e,hr,hge⟩ (by dsimp only;omega)
 exact⟨q,hx,hq⟩
theorem Zyx{A B:UInt64}{a b:Nat}(hA:A.toNat=a % 18446744073709551616)(hB:B.toNat=b % 18446744073709551616)(h:b≤a)(hd:a - b < 18446744073709551616):(A - B).toNat=a - b:=by
 rw[UInt64.toNat_sub,hA,hB];omega
theorem ZlQ(u y1:Nat):u / y1*y1+u % y1=u:=by
 have:=Nat.div_add_mod u y1;rw[ybs] at this;exact this
theorem ZCh{u y1 y0 d:Nat}(h1:0 < y1)(hd:d < 4294967296):(u*4294967296+d) / (y1*4294967296+y0)≤u / y1:=by
 have h:(u*4294967296+d) / (y1*4294967296+y0)≤(u*4294967296+d) / (y1*4294967296):=Nat.div_le_div_left (by omega) (by omega)
 have e:(u*4294967296+d) / (y1*4294967296)=u / y1:=by
  rw[ybs y1, ←Nat.div_div_eq_div_mul];congr 1;omega
 omega
theorem ZCi{a b y:UInt64}{s:Nat}{Y:UInt64}(hy:y≠0)(hs:Ya fuel y=some (s:Int))(s0:0 < s)(s1:s < 64)(hY:WR y s=Y)(hYn:Y.toNat=y.toNat*2 ^ s)(hY63:9223372036854775808≤Y.toNat)(ha:a.toNat < y.toNat):
 ∃q r,Zdj fuel a b y=some (q,r)∧r.toNat=(a.toNat*18446744073709551616+b.toNat) % y.toNat:=by
 have ha2:¬(y≤a):=by
  rw[ycu];omega
 unfold Zdj;rw[if_neg (by rw[beq_iff_eq];exact hy),if_neg (by rw[decide_eq_true_iff];exact ha2)];by_cases h0:a=0
 ·subst h0;rw[if_pos (by decide),if_pos (by rw[bne_iff_ne];exact hy),if_pos (by rw[bne_iff_ne];exact hy)];refine⟨_,_,rfl, ?_⟩;rw[UInt64.toNat_mod];simp
 rw[if_neg (by rw[beq_iff_eq];exact h0),hs,ya];dsimp only
 have w:w64 (s:Int)=yai s:=by
  unfold w64;congr 1;omega
 have ws:(w64 (s:Int)).toNat=s:=by rw[w,ybg,yas (by omega)]
 have e1:min ((w64 (s:Int)).toNat:Int).toNat 64=s:=by rw[ws];omega
 have e2:(64 - w64 (s:Int)).toNat=64 - s:=by
  rw[UInt64.toNat_sub_of_le _ _ (by rw[ycu,ws];show s≤64;omega),ws];rfl
 have e3:min ((64 - w64 (s:Int)).toNat:Int).toNat 64=64 - s:=by rw[e2];omega
 rw[e1,e3,hY];have hYl:=yca Y;have hb:=yca b
 have p64:2 ^ (64 - s)*2 ^ s=18446744073709551616:=by
  rw[←Nat.pow_add];have:64 - s+s=64:=by omega
  rw[this]
 have hp:0 < 2 ^ s:=Nat.pow_pos (by decide);obtain⟨y1,hy1⟩:∃y1,y1=Y.toNat / 4294967296:=⟨_,rfl⟩;obtain⟨y0,hy0⟩:∃y0,y0=Y.toNat % 4294967296:=⟨_,rfl⟩;have hYd:Y.toNat=y1*4294967296+y0:=by omega
 have ty1:(ZB Y 32).toNat=y1:=by rw[Vk,hy1]
 have ty0:(Y&&&4294967295).toNat=y0:=by rw[Zgp,hy0]
 have l1:y1 < 4294967296:=by omega
 have g1:2147483648≤y1:=by omega
 have l0:y0 < 4294967296:=by omega
 have hash:a.toNat*2 ^ s < Y.toNat:=by rw[hYn];exact Nat.mul_lt_mul_of_pos_right ha hp
 have bd:b.toNat / 2 ^ (64 - s) < 2 ^ s:=by
  rw[Nat.div_lt_iff_lt_mul (Nat.pow_pos (by decide)),ybs,p64];exact hb
 have tu:((WR a s)|||(ZB b (64 - s))).toNat=a.toNat*2 ^ s+b.toNat / 2 ^ (64 - s):=by
  rw[UInt64.toNat_or,Vk];unfold WR;rw[ybg,yas (by omega),ybs, ←Nat.two_pow_add_eq_or_of_lt bd]
 have t10:(WR b s).toNat=b.toNat*2 ^ s % 18446744073709551616:=by
  unfold WR;rw[ybg]
 obtain⟨u,hu⟩:∃u,u=a.toNat*2 ^ s+b.toNat / 2 ^ (64 - s):=⟨_,rfl⟩;obtain⟨v,hv⟩:∃v,v=b.toNat*2 ^ s % 18446744073709551616:=⟨_,rfl⟩;rw[←hu] at tu;rw[←hv] at t10
 have hbs:b.toNat*2 ^ s=b.toNat / 2 ^ (64 - s)*18446744073709551616+v:=by
  have h1:=Nat.div_add_mod (b.toNat*2 ^ s) 18446744073709551616
  have h2:b.toNat*2 ^ s / 18446744073709551616=b.toNat / 2 ^ (64 - s):=by
   rw[←p64];exact Nat.mul_div_mul_right _ _ hp
  rw[h2, ←hv] at h1;omega
 have hN:(a.toNat*18446744073709551616+b.toNat)*2 ^ s=u*18446744073709551616+v:=by
  rw[yaw,hbs,hu,Nat.mul_right_comm];omega
 have uY:u < y1*4294967296+y0:=by
  rw[←hYd,hu,hYn];have h1:(a.toNat+1)*2 ^ s≤y.toNat*2 ^ s:=yce _ ha;rw[yaw,Nat.one_mul] at h1;omega
 have hvl:v < 18446744073709551616:=by rw[hv];exact ybq _ (by decide)
 obtain⟨d1,hd1⟩:∃d1,d1=v / 4294967296:=⟨_,rfl⟩;obtain⟨d0,hd0⟩:∃d0,d0=v % 4294967296:=⟨_,rfl⟩;have td1:(ZB (WR b s) 32).toNat=d1:=by rw[Vk,t10,hd1]
 have td0:((WR b s)&&&4294967295).toNat=d0:=by rw[Zgp,t10,hd0]
 generalize ((WR a s)|||(ZB b (64 - s)):UInt64)=U at tu ⊢;generalize (ZB (WR b s) 32:UInt64)=D1 at td1 ⊢;generalize ((WR b s)&&&4294967295:UInt64)=D0 at td0 ⊢;generalize (ZB Y 32:UInt64)=Y1 at ty1 ⊢;generalize (Y&&&4294967295:UInt64)=Y0 at ty0 ⊢
 have y1ne:(Y1 !=0)=true:=by
  rw[bne_iff_ne];intro h;rw[h] at ty1;have:(0:UInt64).toNat=0:=rfl;omega
 rw[if_pos y1ne]
 have f1:(U / Y1).toNat*y1+(U - U / Y1*Y1).toNat=u:=by
  rw[Zm2,UInt64.toNat_div,tu,ty1];exact ZlQ u y1
 have f2:(U - U / Y1*Y1).toNat < 4294967296:=by
  rw[Zm2,tu,ty1];exact Nat.lt_trans (ybq _ (by omega)) l1
 have f3:(u*4294967296+d1) / (y1*4294967296+y0)≤(U / Y1).toNat:=by
  rw[UInt64.toNat_div,tu,ty1];exact ZCh (by omega) (by omega)
 obtain⟨q1,k1,k2⟩:=ZG8 (Yv:=Y) (N:=w64 (s:Int)) (U:=U) (E:=D0) ty1 ty0 td1 l1 (by omega) l0 (by omega) uY f1 f2 f3;rw[k1,ya];dsimp only;rw[if_pos y1ne];have m1:=Nat.div_add_mod (u*4294967296+d1) Y.toNat
 have m2:(u*4294967296+d1) % Y.toNat < Y.toNat:=ybq _ (by omega);rw[←hYd] at k2
 have tv:(((U*4294967296)+D1) - (q1*Y)).toNat=(u*4294967296+d1) % Y.toNat:=by
  rw[Zyx (a:=u*4294967296+d1) (b:=q1.toNat*Y.toNat) ?_ ?_ ?_ ?_]
  ·rw[k2,ybs ((u*4294967296+d1) / Y.toNat)];omega
  ·rw[UInt64.toNat_add,UInt64.toNat_mul,tu,td1,show(4294967296:UInt64).toNat=4294967296 from rfl]
   omega
  ·rw[UInt64.toNat_mul]
  ·rw[k2,ybs ((u*4294967296+d1) / Y.toNat)];omega
  ·rw[k2,ybs ((u*4294967296+d1) / Y.toNat)];omega
 obtain⟨u2,hu2⟩:∃u2,u2=(u*4294967296+d1) % Y.toNat:=⟨_,rfl⟩;rw[←hu2] at tv m2 m1;generalize (((U*4294967296)+D1) - (q1*Y):UInt64)=V at tv ⊢
 have f4:(V / Y1).toNat*y1+(V - V / Y1*Y1).toNat=u2:=by
  rw[Zm2,UInt64.toNat_div,tv,ty1];exact ZlQ u2 y1
 have f5:(V - V / Y1*Y1).toNat < 4294967296:=by
  rw[Zm2,tv,ty1];exact Nat.lt_trans (ybq _ (by omega)) l1
 have f6:(u2*4294967296+d0) / (y1*4294967296+y0)≤(V / Y1).toNat:=by
  rw[UInt64.toNat_div,tv,ty1];exact ZCh (by omega) (by omega)
 obtain⟨q0,k3,k4⟩:=ZG9 (Yv:=Y) (N:=w64 (s:Int)) (U:=V) (E:=q1) ty1 ty0 td0 l1 (by omega) l0 (by omega) (by rw[←hYd];exact m2) f4 f5 f6;rw[k3,ya];refine⟨_,_,rfl, ?_⟩;dsimp only;rw[e1,Vk];rw[←hYd] at k4;have m3:=Nat.div_add_mod (u2*4294967296+d0) Y.toNat
 have m4:(u2*4294967296+d0) % Y.toNat < Y.toNat:=ybq _ (by omega)
 have tr:(((V*4294967296)+D0) - (q0*Y)).toNat=(u2*4294967296+d0) % Y.toNat:=by
  rw[Zyx (a:=u2*4294967296+d0) (b:=q0.toNat*Y.toNat) ?_ ?_ ?_ ?_]
  ·rw[k4,ybs ((u2*4294967296+d0) / Y.toNat)];omega
  ·rw[UInt64.toNat_add,UInt64.toNat_mul,tv,td0,show(4294967296:UInt64).toNat=4294967296 from rfl]
   omega
  ·rw[UInt64.toNat_mul]
  ·rw[k4,ybs ((u2*4294967296+d0) / Y.toNat)];omega
  ·rw[k4,ybs ((u2*4294967296+d0) / Y.toNat)];omega
 rw[tr]
 have hNm:((a.toNat*18446744073709551616+b.toNat)*2 ^ s) % Y.toNat=(u2*4294967296+d0) % Y.toNat:=by
  have e:(a.toNat*18446744073709551616+b.toNat)*2 ^ s=u2*4294967296+d0+Y.toNat*((u*4294967296+d1) / Y.toNat*4294967296):=by
   rw[hN, ←Nat.mul_assoc];omega
  rw[e,Nat.add_mul_mod_self_left]
 rw[←hNm,hYn,Nat.mul_mod_mul_right,Nat.mul_div_cancel _ hp]
theorem ZsS{y Y:UInt64}{s:Nat}(a b:UInt64)(hy:y≠0)(hs:Ya fuel y=some (s:Int))(s0:0 < s)(s1:s < 64)(hY:WR y s=Y)(hYn:Y.toNat=y.toNat*2 ^ s)(hY63:9223372036854775808≤Y.toNat):
 Qm fuel a b y=some (yai ((a.toNat*18446744073709551616+b.toNat) % y.toNat)):=by
 have hp:0 < y.toNat:=by
  rcases yck y.toNat with h|h
  ·exact absurd (ycq.1 h) hy
  ·exact h
 obtain⟨q,r,h1,h2⟩:=ZCi (a:=a % y) (b:=b) hy hs s0 s1 hY hYn hY63 (by rw[UInt64.toNat_mod];exact ybq _ hp);unfold Qm;rw[if_pos (by rw[bne_iff_ne];exact hy),h1,ya];dsimp only;rw[UInt64.toNat_mod,Nat.add_mod,Nat.mod_mul_mod, ←Nat.add_mod] at h2;rw[←h2,UInt64.ofNat_toNat]
theorem ZGc:Ya fuel 4611686018427377339=some ((2:Nat):Int):=by kernel_rfl
theorem ZGd:Ya fuel 2305843009213688669=some ((3:Nat):Int):=by kernel_rfl
theorem ZGe:Ya fuel 2305843009213688668=some ((3:Nat):Int):=by kernel_rfl
noncomputable def Xg(F:Nat)(a0:UInt64)(a1:UInt64)(a2:UInt64):Option UInt64:=
 if(a2==4611686018427377339 || (a2==2305843009213688669 || a2==2305843009213688668))=true then some (yai ((a0.toNat*18446744073709551616+a1.toNat) % a2.toNat)) else Qm F a0 a1 a2
theorem ZCj(a b y:UInt64):Qm fuel a b y=Xg fuel a b y:=by
 unfold Xg;split
 ·rename_i h;simp only[Bool.or_eq_true,beq_iff_eq] at h;rcases h with rfl|rfl|rfl
  ·exact ZsS (Y:=18446744073709509356) (s:=2) a b (by decide) ZGc (by decide) (by decide) (by kernel_rfl) (by decide) (by decide)
  ·exact ZsS (Y:=18446744073709509352) (s:=3) a b (by decide) ZGd (by decide) (by decide) (by kernel_rfl) (by decide) (by decide)
  ·exact ZsS (Y:=18446744073709509344) (s:=3) a b (by decide) ZGe (by decide) (by decide) (by kernel_rfl) (by decide) (by decide)
 ·rfl
noncomputable def ZpR(F:Nat):Fs yf:={ Zcg F with M:=λx=>Xg F x.1 x.2.1 x.2.2}
noncomputable def Zby:Fs yf:=ZpR fuel
theorem ZdO:Zby.Ok:=ZsN (s:=Zcg fuel) ZoA λx=>(ZCj x.1 x.2.1 x.2.2).symm
end Go.Proofs.YtkapgdbeeblihaaGreat
end
section
set_option maxRecDepth 4000
namespace Go.Proofs.YtkapgdbeeblihaaGreat
open Go Go.Ev
noncomputable section
def Zbz(F:Nat)(a0:UInt64)(a1:UInt64):Option ((UInt64×UInt64)):=
 let y41:UInt64:=ZB ((a0&&&4294967295)*(a1&&&4294967295)) 32;let y42:UInt64:=(((ZB a0 32)*(a1&&&4294967295))+y41)&&&4294967295;let y43:UInt64:=ZB (((ZB a0 32)*(a1&&&4294967295))+y41) 32;let y44:UInt64:=ZB (y42+((a0&&&4294967295)*(ZB a1 32))) 32
 some ((((ZB a0 32)*(ZB a1 32))+y43)+y44,a0*a1)
def Zch(F:Nat):Fs yf:=⟨99,[.v .u64,.v .u64],[],[.u64,.u64],[⟨.ret,[(0,.tup [.v .u64,.v .u64])],[],[.u64,.u64]⟩],λx=>Zbz F x.1 x.2⟩
def ZpS:Fs yf:=Zch fuel
theorem ZoB:ZpS.Ok:=fnO { still:=[4,5]} [] [] trivial
end
end Go.Proofs.YtkapgdbeeblihaaGreat
end
section
set_option maxRecDepth 4000
namespace Go.Proofs.YtkapgdbeeblihaaGreat
open Go Go.Ev
theorem ZCk(x y:UInt64):∃h l,Zbz fuel x y=some (h,l)∧h.toNat*18446744073709551616+l.toNat=x.toNat*y.toNat:=by
 unfold Zbz;refine⟨_,_,rfl, ?_⟩;have hx:=yca x;have hy:=yca y;have x0l:x.toNat % 4294967296 < 4294967296:=ybq _ (by decide);have y0l:y.toNat % 4294967296 < 4294967296:=ybq _ (by decide);have x1l:x.toNat / 4294967296 < 4294967296:=by omega
 have y1l:y.toNat / 4294967296 < 4294967296:=by omega
 have xe:x.toNat=x.toNat / 4294967296*4294967296+x.toNat % 4294967296:=by omega
 have ye:y.toNat=y.toNat / 4294967296*4294967296+y.toNat % 4294967296:=by omega
 generalize hX1:x.toNat / 4294967296=x1 at*;generalize hX0:x.toNat % 4294967296=x0 at*;generalize hY1:y.toNat / 4294967296=y1 at*;generalize hY0:y.toNat % 4294967296=y0 at*;have p00:=Zgq x0l y0l;have p10:=Zgq x1l y0l;have p01:=Zgq x0l y1l;have p11:=Zgq x1l y1l
 have prod:x.toNat*y.toNat=x1*y1*18446744073709551616+(x1*y0+x0*y1)*4294967296+x0*y0:=by
  rw[xe,ye,yaw,Nat.mul_add,Nat.mul_add]
  have e1:x1*4294967296*(y1*4294967296)=x1*y1*18446744073709551616:=by
   rw[Nat.mul_assoc,Nat.mul_left_comm 4294967296 y1, ←Nat.mul_assoc]
  have e2:x1*4294967296*y0=x1*y0*4294967296:=by rw[Nat.mul_right_comm]
  have e3:x0*(y1*4294967296)=x0*y1*4294967296:=by rw[Nat.mul_assoc]
  rw[e1,e2,e3];omega
 have q00:((x&&&4294967295)*(y&&&4294967295)).toNat=x0*y0:=by
  rw[Zhn (by rw[Zgp,Zgp,hX0,hY0];omega),Zgp,Zgp,hX0,hY0]
 have q10:((ZB x 32)*(y&&&4294967295)).toNat=x1*y0:=by
  rw[Zhn (by rw[Vk,Zgp,show(2:Nat) ^ 32=4294967296 from rfl,hX1,hY0];omega),Vk,Zgp,show(2:Nat) ^ 32=4294967296 from rfl,hX1,hY0]
 have q01:((x&&&4294967295)*(ZB y 32)).toNat=x0*y1:=by
  rw[Zhn (by rw[Vk,Zgp,show(2:Nat) ^ 32=4294967296 from rfl,hX0,hY1];omega),Vk,Zgp,show(2:Nat) ^ 32=4294967296 from rfl,hX0,hY1]
 have q11:((ZB x 32)*(ZB y 32)).toNat=x1*y1:=by
  rw[Zhn (by rw[Vk,Vk,show(2:Nat) ^ 32=4294967296 from rfl,hX1,hY1];omega),Vk,Vk,show(2:Nat) ^ 32=4294967296 from rfl,hX1,hY1]
 generalize hA:((x&&&4294967295)*(y&&&4294967295):UInt64)=A at*;generalize hB:((ZB x 32)*(y&&&4294967295):UInt64)=B at*;generalize hC:((x&&&4294967295)*(ZB y 32):UInt64)=C at*;generalize hD:((ZB x 32)*(ZB y 32):UInt64)=D at*;have s1:(ZB A 32).toNat=x0*y0 / 4294967296:=by rw[Vk,q00]
 have s2:(B+ZB A 32).toNat=x1*y0+x0*y0 / 4294967296:=by rw[Zhm (by rw[q10,s1];omega),q10,s1]
 have s3:((B+ZB A 32)&&&4294967295).toNat=(x1*y0+x0*y0 / 4294967296) % 4294967296:=by rw[Zgp,s2]
 have s4:(ZB (B+ZB A 32) 32).toNat=(x1*y0+x0*y0 / 4294967296) / 4294967296:=by rw[Vk,s2]
 have s5:(((B+ZB A 32)&&&4294967295)+C).toNat=(x1*y0+x0*y0 / 4294967296) % 4294967296+x0*y1:=by rw[Zhm (by rw[s3,q01];omega),s3,q01]
 have s6:(ZB (((B+ZB A 32)&&&4294967295)+C) 32).toNat=((x1*y0+x0*y0 / 4294967296) % 4294967296+x0*y1) / 4294967296:=by rw[Vk,s5]
 have s7:(D+ZB (B+ZB A 32) 32).toNat=x1*y1+(x1*y0+x0*y0 / 4294967296) / 4294967296:=by rw[Zhm (by rw[q11,s4];omega),q11,s4]
 have s8:(x*y).toNat=x.toNat*y.toNat % 18446744073709551616:=UInt64.toNat_mul ..
 have s9:((D+ZB (B+ZB A 32) 32)+ZB (((B+ZB A 32)&&&4294967295)+C) 32).toNat=x1*y1+(x1*y0+x0*y0 / 4294967296) / 4294967296+((x1*y0+x0*y0 / 4294967296) % 4294967296+x0*y1) / 4294967296:=by
  rw[Zhm (by rw[s7,s6];omega),s7,s6]
 rw[s9,s8,prod];generalize x0*y0=a at*;generalize x1*y0=b at*;generalize x0*y1=c at*;generalize x1*y1=d at*;omega
theorem ZCl(x y:UInt64):Zbz fuel x y=some (yai (x.toNat*y.toNat / 18446744073709551616),yai (x.toNat*y.toNat % 18446744073709551616)):=by
 obtain⟨h,l,e,k⟩:=ZCk x y;have hl:=yca l;rw[e, ←k,show(h.toNat*18446744073709551616+l.toNat) / 18446744073709551616=h.toNat by omega,show(h.toNat*18446744073709551616+l.toNat) % 18446744073709551616=l.toNat by omega,UInt64.ofNat_toNat,UInt64.ofNat_toNat]
noncomputable def ZaN(F:Nat)(a0:UInt64)(a1:UInt64):Option (UInt64×UInt64):=some (yai (a0.toNat*a1.toNat / 18446744073709551616),yai (a0.toNat*a1.toNat % 18446744073709551616))
noncomputable def ZpT(F:Nat):Fs yf:={ Zch F with M:=λx=>ZaN F x.1 x.2}
noncomputable def ZeZ:Fs yf:=ZpT fuel
theorem ZhO:ZeZ.Ok:=ZsN (s:=Zch fuel) ZoB λx=>(ZCl x.1 x.2).symm
end Go.Proofs.YtkapgdbeeblihaaGreat
end
section
set_option maxRecDepth 4000
namespace Go.Proofs.YtkapgdbeeblihaaGreat
open Go Go.Ev
noncomputable section
def Z4(F:Nat)(a0:UInt64)(a1:UInt64):Option (UInt64):=
 (ZaN F a0 a1).bind λo45=>
 (Xg F o45.1 o45.2 4611686018427377339).bind λo46=>
 some o46
def ZoC(F:Nat):Fs yf:=⟨88,[.v .u64,.v .u64],[],[.u64,.u64],[⟨.ret,[(0,.v .u64)],[],[.u64]⟩],λx=>Z4 F x.1 x.2⟩
def ZdP:Fs yf:=ZoC fuel
theorem Zgr:ZdP.Ok:=fnO { still:=[4,8,9,13,14]} [] [ZeZ,Zby] ⟨ZhO,ZdO,ytt⟩
def XY(F:Nat)(s:(UInt64×UInt64×UInt64)):Option ((UInt64×UInt64×UInt64)⊕UInt64):=
 if(decide (s.2.1 > 0))=true then
  if((s.2.1&&&1)==1)=true then
   (Z4 F s.2.2 s.1).bind λo47=>
   (Z4 F s.1 s.1).bind λo48=>
   some (.inl (o48,ZB s.2.1 1,o47))
  else
  (Z4 F s.1 s.1).bind λo49=>
  some (.inl (o49,ZB s.2.1 1,s.2.2))
 else
 some (.inr s.2.2)
def Zfr:Lp:=⟨[(0,.v .u64),(1,.v .u64),(5,.v .u64)],[],[.u64,.u64,.u64],[⟨.exit 0,[(5,.v .u64)],[],[.u64]⟩],Zh (XY fuel) fuel⟩
theorem Ziv:Zfr.okA yf 67 0:=ZU { still:=[4,13,14,16,17]} [] [ZdP] ⟨Zgr,ytt⟩
def ZdQ(F:Nat)(a0:UInt64)(a1:UInt64):Option (UInt64):=
 (Zh (XY F) F (a0,a1,1)).bind λo50=>
 some o50
def Za3(F:Nat):Fs yf:=⟨67,[.v .u64,.v .u64],[],[.u64,.u64],[⟨.ret,[(0,.v .u64)],[],[.u64]⟩],λx=>ZdQ F x.1 x.2⟩
def ZoD:Fs yf:=Za3 fuel
theorem Zmm:ZoD.Ok:=fnO { still:=[4,13,14,16,17]} [(0,Zfr)] [] trivial ⟨Ziv,ytt⟩
end
end Go.Proofs.YtkapgdbeeblihaaGreat
end
section
namespace Go.Ev
def Pr(r:Nat):Prop:=1 < r∧∀k,0 < k→k < r→Nat.gcd k r=1
theorem php:∀(n:Nat)(f:Nat→Nat),(∀i,i≤n→f i < n)→∃i j,i < j∧j≤n∧f i=f j
 |0,f,h=>absurd (h 0 (yn _)) (Nat.not_lt_zero _)
 |n+1,f,h=>by
  by_cases hc:∃i,i≤n∧f i=f (n+1)
  ·obtain⟨i,h1,h2⟩:=hc;exact⟨i,n+1,by omega,yn _,h2⟩
  have hne:∀i,i≤n→f i≠f (n+1):=λi hi e=>hc ⟨i,hi,e⟩;have hv:=h (n+1) (yn _)
  obtain⟨i,j,h1,h2,h3⟩:=php n (λi=>if f i > f (n+1) then f i - 1 else f i) (λi hi=>by
   have a:=h i (by omega);have b:=hne i hi;show(if f i > f (n+1) then f i - 1 else f i) < n
   split <;> omega)
  refine⟨i,j,h1,by omega, ?_⟩;have a:=hne i (by omega);have b:=hne j (by omega);have h3:(if f i > f (n+1) then f i - 1 else f i)=(if f j > f (n+1) then f j - 1 else f j):=h3
  split at h3 <;> split at h3 <;> omega
theorem Zgs{h a m:Nat}(ha:h ^ a % m=1 % m)(k:Nat):h ^ (a*k) % m=1 % m:=by
 rw[Nat.pow_mul,Nat.pow_mod,ha, ←Nat.pow_mod,Nat.one_pow]
theorem Zu9{h a b m:Nat}(ha:h ^ a % m=1 % m)(hb:h ^ b % m=1 % m):h ^ (a % b) % m=1 % m:=by
 have e:a=b*(a / b)+a % b:=(Nat.div_add_mod a b).symm;rw[e,Nat.pow_add,Nat.mul_mod,Zgs hb, ←Nat.mul_mod,Nat.one_mul] at ha;exact ha
theorem ZlR{h m:Nat}(a b:Nat)(ha:h ^ a % m=1 % m)(hb:h ^ b % m=1 % m):h ^ (Nat.gcd a b) % m=1 % m:=by
 induction a,b using Nat.gcd.induction with
 |H0 n=>rw[Nat.gcd_zero_left];exact hb
 |H1 a b h0 ih=>
  rw[Nat.gcd_rec];exact ih (Zu9 hb ha) ha
theorem ZCm{h r m i j:Nat}(hr:h ^ r % m=1 % m)(hi:i < j)(hj:j < r)(e:h ^ i % m=h ^ j % m):h ^ (j - i) % m=1 % m:=by
 have h1:h ^ i*h ^ (r - i)=h ^ r:=by rw[←Nat.pow_add];congr 1;omega
 have h2:h ^ j*h ^ (r - i)=h ^ (j - i)*h ^ r:=by rw[←Nat.pow_add, ←Nat.pow_add];congr 1;omega
 have h3:h ^ j*h ^ (r - i) % m=1 % m:=by rw[Nat.mul_mod, ←e, ←Nat.mul_mod,h1,hr]
 rw[h2,Nat.mul_mod,hr, ←Nat.mul_mod,Nat.mul_one] at h3;exact h3
theorem Zw2{h r m i:Nat}(hm:1 < m)(hr:h ^ r % m=1 % m)(hi:i≤r):h ^ i % m≠0:=by
 intro e;have h1:h ^ i*h ^ (r - i)=h ^ r:=by rw[←Nat.pow_add];congr 1;omega
 rw[←h1,Nat.mul_mod,e,Nat.zero_mul,Nat.zero_mod,yas hm] at hr;omega
theorem Zw3{h r c:Nat}(hr:Pr r)(hc:1 < c)(h1:h ^ r % c=1 % c)(h2:h % c≠1 % c):r < c:=by
 rcases ybt r c with k|k
 ·exact k
 exfalso
 obtain⟨i,j,a,b,e⟩:=php (c - 1) (λi=>h ^ i % c - 1) (λi hi=>by
  have:=ybq (h ^ i) (show c > 0 by omega);have:=Zw2 hc h1 (i:=i) (by omega);show h ^ i % c - 1 < c - 1;omega)
 have q1:=Zw2 hc h1 (i:=i) (by omega);have q2:=Zw2 hc h1 (i:=j) (by omega);have e:h ^ i % c - 1=h ^ j % c - 1:=e;have h3:=ZCm h1 a (by omega) (show h ^ i % c=h ^ j % c by omega);have h4:=ZlR _ _ h3 h1;rw[hr.2 (j - i) (by omega) (by omega),Nat.pow_one] at h4;exact h2 h4
theorem Zyy{n r:Nat}(h:Nat)(hr:Pr r)(hn:1 < n)(hs:n≤r*r)(h1:h ^ r % n=1 % n)(h0:0 < h)(h2:Nat.gcd (h - 1) n=1):Pr n:=by
 refine⟨hn,λk k0 kn=> ?_⟩;have dn:Nat.gcd k n ∣ n:=Nat.gcd_dvd_right k n;have dk:Nat.gcd k n ∣ k:=Nat.gcd_dvd_left k n;have d0:0 < Nat.gcd k n:=Nat.gcd_pos_of_pos_left _ k0;have dl:Nat.gcd k n≤k:=Nat.le_of_dvd k0 dk;generalize Nat.gcd k n=d at*;by_cases d1:d=1
 ·exact d1
 exfalso
 have great:∀c,1 < c→c ∣ n→r < c:=λc c1 cn=>by
  refine Zw3 (h:=h) hr c1 ?_ λe=> ?_
  ·obtain⟨q,rfl⟩:=cn;have:=congrArg (· % c) h1;simp only[Nat.mod_mul_right_mod] at this;exact this
  ·have k1:c ∣ h - 1:=Nat.dvd_of_mod_eq_zero (Nat.sub_mod_eq_zero_of_mod_eq e);have:=Nat.dvd_gcd k1 cn;rw[h2] at this;have:=Nat.le_of_dvd (by omega) this;omega
 obtain⟨e,rfl⟩:=dn
 have e1:1 < e:=by
  rcases ybt 1 e with h|h
  ·exact h
  ·have:d*e≤d*1:=Nat.mul_le_mul_left _ h;omega
 have a:=great d (by omega) (Nat.dvd_mul_right ..);have b:=great e e1 (Nat.dvd_mul_left ..);have:=Nat.mul_le_mul (show r+1≤d from a) (show r+1≤e from b)
 rw[yaw,Nat.mul_add] at this;omega
def Zyz(n:Nat):Nat→Bool
 |0=>true
 |k+1=>(decide (k < 1) || !(n % (k+1)==0))&&Zyz n k
theorem ZoE{n:Nat}:∀{k:Nat},Zyz n k=true→∀d,1 < d→d≤k→¬d ∣ n
 |0,_,d,h1,h2=>by omega
 |k+1,h,d,h1,h2=>by
  simp only[Zyz,yi,Bool.or_eq_true,decide_eq_true_eq,Bool.not_eq_true',beq_eq_false_iff_ne] at h;rcases ybt d (k+1) with c|c
  ·exact ZoE h.2 d h1 (by omega)
  ·have:d=k+1:=by omega
   subst this;rcases h.1 with h|h
   ·omega
   ·intro q;exact h (Nat.mod_eq_zero_of_dvd q)
theorem ZCn{n s:Nat}(hn:1 < n)(hs:n < (s+1)*(s+1))(h:Zyz n s=true):Pr n:=by
 refine⟨hn,λk k0 kn=> ?_⟩;have dn:Nat.gcd k n ∣ n:=Nat.gcd_dvd_right k n;have d0:0 < Nat.gcd k n:=Nat.gcd_pos_of_pos_left _ k0;have dl:Nat.gcd k n≤k:=Nat.le_of_dvd k0 (Nat.gcd_dvd_left k n);generalize Nat.gcd k n=d at*;by_cases d1:d=1
 ·exact d1
 exfalso;obtain⟨e,rfl⟩:=dn
 have e1:1 < e:=by
  rcases ybt 1 e with h|h
  ·exact h
  ·have:d*e≤d*1:=Nat.mul_le_mul_left _ h;omega
 rcases ybt s d with a|a
 ·rcases ybt s e with b|b
  ·have:=Nat.mul_le_mul (show s+1≤d from a) (show s+1≤e from b)
   omega
  ·exact ZoE h e e1 b (Nat.dvd_mul_left ..)
 ·exact ZoE h d (by omega) a (Nat.dvd_mul_right ..)
def pwm(m:Nat):Nat→Nat→Nat→Nat→Nat
 |0,_,_,o=>o
 |f+1,a,n,o=>if n=0 then o else pwm m f (a*a % m) (n / 2) (if n % 2=1 then o*a % m else o)
theorem ZsT{m:Nat}:∀(k a n o:Nat),n < 2 ^ k→pwm m k a n o % m=o*a ^ n % m
 |0,a,n,o,h=>by
  have:n=0:=by rw[Nat.pow_zero] at h;omega
  subst this
  rw[pwm,Nat.pow_zero,Nat.mul_one]
 |k+1,a,n,o,h=>by
  rw[pwm];by_cases h0:n=0
  ·rw[if_pos h0,h0,Nat.pow_zero,Nat.mul_one]
  rw[if_neg h0,ZsT k _ _ _ (by rw[Nat.pow_succ] at h;omega)]
  have e:a ^ n=(a*a) ^ (n / 2)*a ^ (n % 2):=by
   rw[←Nat.pow_two, ←Nat.pow_mul, ←Nat.pow_add];congr 1;omega
  have e2:(a*a % m) ^ (n / 2) % m=(a*a) ^ (n / 2) % m:=(Nat.pow_mod ..).symm;rw[e];split
  ·rename_i h1;rw[h1,Nat.pow_one,Nat.mul_mod,e2, ←Nat.mul_mod,Nat.mul_mod,Nat.mod_mod, ←Nat.mul_mod];congr 1;rw[Nat.mul_assoc,ybs a]
  ·rename_i h1;have:n % 2=0:=by omega
   rw[this,Nat.pow_zero,Nat.mul_one,Nat.mul_mod,e2, ←Nat.mul_mod]
theorem ZoF{m a n z:Nat}(k:Nat)(h:n < 2 ^ k)(e:pwm m k a n 1 % m=z):a ^ n % m=z:=by
 have:=ZsT (m:=m) k a n 1 h;rw[Nat.one_mul] at this;rw[←this,e]
def pc0:Nat:=7930907
def pc1:Nat:=11864636873
def pc2:Nat:=1732236983459
def pc3:Nat:=249442125618097
def ord:Nat:=2305843009213688669
def mdl:Nat:=4611686018427377339
theorem pr0:Pr pc0:=ZCn (s:=2816) (by decide) (by decide) (by decide+kernel)
theorem pr1:Pr pc1:=Zyy 409113128 pr0 (by decide) (by decide) (ZoF 23 (by decide) (by decide+kernel)) (by decide) (by decide+kernel)
theorem pr2:Pr pc2:=Zyy 353522539148 pr1 (by decide) (by decide) (ZoF 34 (by decide) (by decide+kernel)) (by decide) (by decide+kernel)
theorem pr3:Pr pc3:=Zyy 117107719143424 pr2 (by decide) (by decide) (ZoF 41 (by decide) (by decide+kernel)) (by decide) (by decide+kernel)
theorem pr4:Pr ord:=Zyy 732368710688439132 pr3 (by decide) (by decide) (ZoF 48 (by decide) (by decide+kernel)) (by decide) (by decide+kernel)
def XW(a:Nat):Prop:=0 < a∧a < mdl∧a ^ ord % mdl=1
theorem ZEY{a:Nat}(h:a < mdl)(e:a ^ ord % mdl=1):XW a:=by
 refine⟨?_,h,e⟩;rcases yck a with h0|h0
 ·subst h0;rw[Nat.zero_pow (by decide)] at e;cases e
 ·exact h0
theorem ZsU:XW 1:=⟨by decide,by decide,by rw[Nat.one_pow];decide⟩
theorem ZCo:XW 4:=⟨by decide,by decide,ZoF 61 (by decide) (by decide+kernel)⟩
theorem ZGf{a b:Nat}(ha:XW a)(hb:XW b):XW (a*b % mdl):=by
 refine ZEY (ybq _ (by decide)) ?_;rw[←Nat.pow_mod,Nat.mul_pow,Nat.mul_mod,ha.2.2,hb.2.2];decide
theorem ZGg{a:Nat}(ha:XW a)(n:Nat):XW (a ^ n % mdl):=by
 refine ZEY (ybq _ (by decide)) ?_;rw[←Nat.pow_mod, ←Nat.pow_mul,ybs];exact Zgs (m:=mdl) ha.2.2 n
theorem ZEl{a:Nat}(ha:XW a)(n:Nat):a ^ (n % ord) % mdl=a ^ n % mdl:=by
 have e:n=ord*(n / ord)+n % ord:=(Nat.div_add_mod n _).symm;have h:=Zgs (m:=mdl) (k:=n / ord) ha.2.2
 conv=>rhs;rw[e]
 rw[Nat.pow_add,Nat.mul_mod,h, ←Nat.mul_mod,Nat.one_mul]
theorem ZGh{k:Nat}(h0:0 < k)(h1:k < ord):4 ^ k % mdl≠1:=by
 intro e;have:=ZlR (h:=4) (m:=mdl) k _ e ZCo.2.2;rw[pr4.2 k h0 h1] at this;revert this;decide
end Go.Ev
end
section
set_option maxRecDepth 4000
namespace Go.Proofs.YtkapgdbeeblihaaGreat
open Go Go.Ev
theorem ZCp{z:Nat}:(yai (z % 4611686018427377339)).toNat=z % 4611686018427377339:=by
 rw[ybg,yas];exact Nat.lt_trans (ybq _ (by decide)) (by decide)
theorem Zva(a b:UInt64):Z4 fuel a b=some (yai (a.toNat*b.toNat % 4611686018427377339)):=by
 unfold Z4 ZaN;rw[ya];dsimp only;unfold Xg;rw[if_pos (by decide),ya,ybg,ybg];have h:a.toNat*b.toNat < 18446744073709551616*18446744073709551616:=Nat.mul_lt_mul'' (yca a) (yca b);have h2:a.toNat*b.toNat / 18446744073709551616 < 18446744073709551616:=(Nat.div_lt_iff_lt_mul (by decide)).2 h;generalize a.toNat*b.toNat=z at*;rw[show(4611686018427377339:UInt64).toNat=4611686018427377339 from rfl]
 have e:z / 18446744073709551616 % 2 ^ 64*18446744073709551616+z % 18446744073709551616 % 2 ^ 64=z:=by omega
 rw[e]
theorem ZoG:∀(k m:Nat)(A N O:UInt64),N.toNat < 2 ^ k→k < m→Zh (XY fuel) m (A,N,O)=some (yai (pwm 4611686018427377339 k A.toNat N.toNat O.toNat))
 |k,0,_,_,_,_,h=>by omega
 |0,m+1,A,N,O,h,_=>by
  have hn:¬N > 0:=by
   intro h2;have h3:0 < N.toNat:=ycz.1 h2;rw[Nat.pow_zero] at h;omega
  have hs:XY fuel (A,N,O)=if decide (N > 0)=true then(if((N&&&1)==1)=true then(Z4 fuel O A).bind λo1=>(Z4 fuel A A).bind λo2=>some (.inl (o2,ZB N 1,o1)) else(Z4 fuel A A).bind λo2=>some (.inl (o2,ZB N 1,O))) else some (.inr O):=rfl
  unfold Zh;rw[hs]
  rw[if_neg (by rw[decide_eq_true_iff];exact hn),ya,pwm,UInt64.ofNat_toNat]
 |k+1,m+1,A,N,O,h,hm=>by
  have hs:XY fuel (A,N,O)=if decide (N > 0)=true then(if((N&&&1)==1)=true then(Z4 fuel O A).bind λo1=>(Z4 fuel A A).bind λo2=>some (.inl (o2,ZB N 1,o1)) else(Z4 fuel A A).bind λo2=>some (.inl (o2,ZB N 1,O))) else some (.inr O):=rfl
  unfold Zh;rw[hs];by_cases h2:N > 0
  ·have hp:0 < N.toNat→pwm 4611686018427377339 (k+1) A.toNat N.toNat O.toNat=pwm 4611686018427377339 k (A.toNat*A.toNat % 4611686018427377339) (N.toNat / 2) (if N.toNat % 2=1 then O.toNat*A.toNat % 4611686018427377339 else O.toNat):=λh=>by
    rw[pwm,if_neg (by omega)]
   have h3:0 < N.toNat:=ycz.1 h2
   have hsh:(ZB N 1).toNat=N.toNat / 2:=by
    unfold ZB;rw[ybg,yas (Nat.lt_of_le_of_lt (Nat.div_le_self ..) (yca _))]
   have hlt:(ZB N 1).toNat < 2 ^ k:=by
    rw[hsh];rw[Nat.pow_succ] at h;omega
   have hand:((N&&&1)==1)=decide (N.toNat % 2=1):=by
    rw[Bool.eq_iff_iff,beq_iff_eq,decide_eq_true_iff, ←ycq,UInt64.toNat_and];exact Iff.of_eq (congrArg (· =1) (Nat.and_one_is_mod _))
   rw[if_pos (decide_eq_true h2),hand,hp h3];simp only[Zva];by_cases h4:N.toNat % 2=1
   ·rw[if_pos (decide_eq_true h4),if_pos h4,ya,ya,ya];dsimp only;rw[ZoG k m _ _ _ hlt (by omega),ZCp,ZCp,hsh]
   ·rw[if_neg (by rw[decide_eq_true_iff];exact h4),if_neg h4,ya,ya];dsimp only;rw[ZoG k m _ _ _ hlt (by omega),ZCp,hsh]
  ·have h3:N.toNat=0:=by
    rcases yck N.toNat with h5|h5
    ·exact h5
    ·exact absurd (show(0:UInt64) < N from ycz.2 h5) h2
   rw[if_neg (by rw[decide_eq_true_iff];exact h2),ya,pwm,if_pos h3,UInt64.ofNat_toNat]
theorem ZCq(a n:UInt64):ZdQ fuel a n=some (yai (pwm 4611686018427377339 64 a.toNat n.toNat 1)):=by
 unfold ZdQ;rw[ZoG 64 fuel a n 1 (yca _) (by rw[ZjD];omega),ya];rfl
noncomputable def Vb(F:Nat)(a0:UInt64)(a1:UInt64):Option UInt64:=some (yai (pwm 4611686018427377339 64 a0.toNat a1.toNat 1))
noncomputable def ZoH(F:Nat):Fs yf:={ Za3 F with M:=λx=>Vb F x.1 x.2}
noncomputable def Zap:Fs yf:=ZoH fuel
theorem Zci:Zap.Ok:=ZsN (s:=Za3 fuel) Zmm λx=>(ZCq x.1 x.2).symm
end Go.Proofs.YtkapgdbeeblihaaGreat
end
section
set_option maxRecDepth 4000
namespace Go.Proofs.YtkapgdbeeblihaaGreat
open Go Go.Ev
noncomputable section
def Xc(F:Nat)(a0:UInt64):Option (Bool):=
 if(decide (a0 > 0))=true then
  if(decide (a0 < 4611686018427377339))=true then
   (Vb F a0 2305843009213688669).bind λo51=>
   some (o51==1)
  else
  some false
 else
 some false
def ZoI(F:Nat):Fs yf:=⟨64,[.v .u64],[],[.u64],[⟨.ret,[(0,.v .bool)],[],[.bool]⟩],λx=>Xc F x⟩
def Vs:Fs yf:=ZoI fuel
theorem Qn:Vs.Ok:=fnO { still:=[2,10]} [] [Zap] ⟨Zci,ytt⟩
def WB(F:Nat)(a0:UInt64):Option (Bool):=
 (Xc F a0).bind λo52=>
 some (!o52)
def Zmn(F:Nat):Fs yf:=⟨63,[.v .u64],[],[.u64],[⟨.ret,[(0,.v .bool)],[],[.bool]⟩],λx=>WB F x⟩
def Zcj:Fs yf:=Zmn fuel
theorem Zfs:Zcj.Ok:=fnO { still:=[2,3]} [] [Vs] ⟨Qn,ytt⟩
def Wg(F:Nat)(a0:Int):Option (Bool):=
 if(decide (a0 ≥ 0))=true then
  some (decide (a0≤1048576))
 else
 some false
def ZoJ(F:Nat):Fs yf:=⟨66,[.v yI],[],[yI],[⟨.ret,[(0,.v .bool)],[],[.bool]⟩],λx=>Wg F x⟩
def ZhP:Fs yf:=ZoJ fuel
theorem ZoK:ZhP.Ok:=fnO { still:=[2]} [] [] trivial
def YO(F:Nat)(s:((List UInt64)×Int×Int)):Option (((List UInt64)×Int×Int)⊕(Int⊕Unit)):=
 if(decide (s.2.2 < s.2.1))=true then
  (idx s.1 s.2.2).bind λe54=>
  (WB F e54).bind λo55=>
  if o55=true then
   some (.inr (.inl s.2.2))
  else
  some (.inl (s.1,s.2.1,wi (s.2.2+1)))
 else
 some (.inr (.inr ()))
def Zft:Lp:=⟨[(0,.v (.sl .u64)),(1,.fn 63 []),(7,.v yI),(8,.v yI)],[],[(.sl .u64),yI,yI],[⟨.ret,[(4,.v yI)],[],[yI]⟩,⟨.exit 0,[],[],[]⟩],Zh (YO fuel) fuel⟩
theorem Ziw:Zft.okA yf 87 0:=ZU { still:=[4,15]} [] [Zcj] ⟨Zfs,ytt⟩
def Zaq(F:Nat)(a0:(List UInt64)):Option (Int):=
 (Zh (YO F) F (a0,(a0.length:Int),0)).bind λo56=>
 match o56 with
 |.inl o57=>
  some o57
 |.inr o58=>
  some (-1)
def Zmo(F:Nat):Fs yf:=⟨87,[.v (.sl .u64),.fn 63 []],[],[(.sl .u64)],[⟨.ret,[(0,.v yI)],[],[yI]⟩],λx=>Zaq F x⟩
def Zgt:Fs yf:=Zmo fuel
theorem Zmp:Zgt.Ok:=fnO { still:=[4,15]} [(0,Zft)] [] trivial ⟨Ziw,ytt⟩
def WC(F:Nat)(a0:(List UInt64)):Option (Bool):=
 (Zaq F a0).bind λo59=>
 some (decide (o59 ≥ 0))
def Zmq(F:Nat):Fs yf:=⟨65,[.v (.sl .u64),.fn 63 []],[],[(.sl .u64)],[⟨.ret,[(0,.v .bool)],[],[.bool]⟩],λx=>WC F x⟩
def Zgu:Fs yf:=Zmq fuel
theorem Zmr:Zgu.Ok:=fnO { still:=[4,5,6]} [] [Zgt] ⟨Zmp,ytt⟩
def Xy(F:Nat)(s:((List ZK)×Int×Int×Xb)):Option (((List ZK)×Int×Int×Xb)⊕((Bool×Xb)⊕Xb)):=
 if(decide (s.2.2.1 < s.2.1))=true then
  (idx s.1 s.2.2.1).bind λe53=>
  if(decide ((e53.1.length:Int) > 12))=true then
   some (.inr (.inl (false,s.2.2.2)))
  else
  (WC F e53.1).bind λo60=>
  if o60=true then
   some (.inr (.inl (false,s.2.2.2)))
  else
  (Wg F e53.2.1).bind λo61=>
  if(!o61)=true then
   some (.inr (.inl (false,s.2.2.2)))
  else
  (Wg F e53.2.2.1).bind λo62=>
  if(!o62)=true then
   some (.inr (.inl (false,s.2.2.2)))
  else
  if(e53.2.2.2 !=0)=true then
   (WB F e53.2.2.2).bind λo63=>
   if o63=true then
    some (.inr (.inl (false,s.2.2.2)))
   else
   some (.inl (s.1,s.2.1,wi (s.2.2.1+1),s.2.2.2))
  else
  some (.inl (s.1,s.2.1,wi (s.2.2.1+1),s.2.2.2))
 else
 some (.inr (.inr s.2.2.2))
def ZhQ:Lp:=⟨[(1,.ref 0 []),(3,.fn 63 []),(7,.v (.sl Zw)),(8,.v yI),(9,.v yI)],[.var (.v Yi) true],[(.sl Zw),yI,yI,Yi],[⟨.ret,[(2,.v .bool)],[.var (.v Yi) true],[.bool,Yi]⟩,⟨.exit 0,[(1,.ref 0 [])],[.var (.v Yi) true],[Yi]⟩],Zh (Xy fuel) fuel⟩
theorem ZkY:ZhQ.okA yf 46 0:=ZU { still:=[2,19,20,25,31,42]} [] [Zgu,ZhP,Zcj] ⟨Zmr,ZoK,Zfs,ytt⟩
def Xh(F:Nat)(a0:Xb):Option (Bool):=
 (Zh (Xy F) F (a0,(a0.length:Int),0,a0)).bind λo64=>
 match o64 with
 |.inl o65=>
  some o65.1
 |.inr o66=>
  if(decide ((o66.length:Int) > 0))=true then
   some (decide ((o66.length:Int)≤4))
  else
  some false
def ZpU(F:Nat):Fs yf:=⟨46,[.v Yi],[],[Yi],[⟨.ret,[(0,.v .bool)],[],[.bool]⟩],λx=>Xh F x⟩
def Qo:Fs yf:=ZpU fuel
theorem Zar:Qo.Ok:=fnO { still:=[2,19,20,25,31,42]} [(0,ZhQ)] [] trivial ⟨ZkY,ytt⟩
abbrev Zb:Ty:=(.st [(.arr 32 .u8),yI])
abbrev Zd:Type:=((List UInt8)×Int)
abbrev ZX:Ty:=(.st [Zs,yI])
abbrev WW:Type:=(Out×Int)
abbrev VI:Ty:=(.st [Zb,ZX])
abbrev Ye:Type:=(Zd×WW)
abbrev Ye.c(x:Ye):WW:=x.2
abbrev Zf:Ty:=(.st [(.sl VI),(.sl Zb)])
abbrev CoinsStep:Type:=((List Ye)×(List Zd))
abbrev CoinsStep.gone(x:CoinsStep):(List Ye):=x.1
def Xi(F:Nat)(s:(Int×(List Out)×Int×Int×(List (Zd×WW))×(List CoinsStep))):Option ((Int×(List Out)×Int×Int×(List (Zd×WW))×(List CoinsStep))⊕(((List (Zd×WW))×(List CoinsStep))⊕((List (Zd×WW))×(List CoinsStep)))):=
 if(decide (s.2.2.2.1 < s.2.2.1))=true then
  (idx s.2.1 s.2.2.2.1).bind λe67=>
  (Xh F e67.2).bind λo68=>
  if(!o68)=true then
   some (.inr (.inl (s.2.2.2.2.1,s.2.2.2.2.2)))
  else
  if(decide (e67.1 < 0))=true then
   some (.inr (.inl (s.2.2.2.2.1,s.2.2.2.2.2)))
  else
  if(decide (e67.1 > (wi (1125899906842624 - s.1))))=true then
   some (.inr (.inl (s.2.2.2.2.1,s.2.2.2.2.2)))
  else
  (WT F e67).bind λo69=>
  let y70:(List (Zd×WW)):=Za0 s.2.2.2.2.1 (yzz,s.2.2.2.1) (o69,(0:Int))
  some (.inl (wi (s.1+e67.1),s.2.1,s.2.2.1,wi (s.2.2.2.1+1),y70,s.2.2.2.2.2))
 else
 some (.inr (.inr (s.2.2.2.2.1,s.2.2.2.2.2)))
def ZjL:Lp:=⟨[(3,.ref 1 []),(4,.v yI),(13,.v (.sl Zs)),(14,.v yI),(15,.v yI)],[.map 106 Zb ZX,.var (.agg [.mp 0,.own 2 Zf]) true,.log Zf 105],[yI,(.sl Zs),yI,yI,(YN Zb ZX),(.sl Zf)],[⟨.ret,[(2,.ptr0)],[.map 106 Zb ZX,.var (.agg [.mp 0,.own 2 Zf]) true,.log Zf 105],[(YN Zb ZX),(.sl Zf)]⟩,⟨.exit 0,[(3,.ref 1 [])],[.map 106 Zb ZX,.var (.agg [.mp 0,.own 2 Zf]) true,.log Zf 105],[(YN Zb ZX),(.sl Zf)]⟩],Zh (Xi fuel) fuel⟩
def hi2:HI:={ still:=[2,21,46],ghost:=[(12,[([1],Zf,105)])]}
theorem Zms:ZjL.okA yf 21 0:=ZU hi2 [] [Qo,Zdi] ⟨Zar,ZeW,ytt⟩
def Ze0(F:Nat)(a0:(List Out)):Option (Unit⊕((List (Zd×WW))×(List CoinsStep))):=
 if(decide ((a0.length:Int) > 256))=true then
  some (.inl ())
 else
 (Zh (Xi F) F (0,a0,(a0.length:Int),0,([]:List (Zd×WW)),[])).bind λo71=>
 match o71 with
 |.inl o72=>
  some (.inl ())
 |.inr o73=>
  some (.inr (o73.1,o73.2))
def Ze1(F:Nat):Fs yf:=⟨21,[.v (.sl Zs)],[],[(.sl Zs)],[⟨.ret,[(0,.ptr0)],[],[]⟩,⟨.ret,[(0,.ref 0 [])],[.var (.agg [.mp 1,.own 2 Zf]) true,.map 106 Zb ZX,.log Zf 105],[(YN Zb ZX),(.sl Zf)]⟩],λx=>Ze0 F x⟩
def ZlS:Fs yf:=Ze1 fuel
theorem ZjM:ZlS.Ok:=fnO hi2 [(0,ZjL)] [] trivial ⟨Zms,ytt⟩
abbrev Zz:Ty:=(.st [.u64,.u64])
abbrev Sig:Type:=(UInt64×UInt64)
abbrev WX:Ty:=(.st [yI,(.sl Zz),.u64])
abbrev Zas:Type:=(Int×(List Sig)×UInt64)
def ZaO(F:Nat)(a0:Zas):Option (Bool):=
 if(decide (a0.1 ≥ 0))=true then
  if(decide (a0.1 < 4))=true then
   some (decide ((a0.2.1.length:Int)≤12))
  else
  some false
 else
 some false
def ZpV(F:Nat):Fs yf:=⟨77,[.v WX],[],[WX],[⟨.ret,[(0,.v .bool)],[],[.bool]⟩],λx=>ZaO F x⟩
def ZjN:Fs yf:=ZpV fuel
theorem ZpW:ZjN.Ok:=fnO { still:=[2]} [] [] trivial
def Zck(F:Nat)(a0:Int):Option (Bool):=
 if(decide (a0 ≥ 0))=true then
  some (decide (a0≤1125899906842624))
 else
 some false
def ZsV(F:Nat):Fs yf:=⟨93,[.v yI],[],[yI],[⟨.ret,[(0,.v .bool)],[],[.bool]⟩],λx=>Zck F x⟩
def ZlT:Fs yf:=ZsV fuel
theorem ZsW:ZlT.Ok:=fnO { still:=[2]} [] [] trivial
def ZjO(F:Nat)(a0:Int)(a1:Int):Option ((Int×Bool)):=
 (Zck F a0).bind λo74=>
 if(!o74)=true then
  some (0,false)
 else
 (Zck F a1).bind λo75=>
 if(!o75)=true then
  some (0,false)
 else
 if(decide (a0 > (wi (1125899906842624 - a1))))=true then
  some (0,false)
 else
 some (wi (a0+a1),true)
def Zw4(F:Nat):Fs yf:=⟨78,[.v yI,.v yI],[],[yI,yI],[⟨.ret,[(0,.tup [.v yI,.v .bool])],[],[yI,.bool]⟩],λx=>ZjO F x.1 x.2⟩
def Zra:Fs yf:=Zw4 fuel
theorem Zw5:Zra.Ok:=fnO { still:=[4,5,6,10]} [] [ZlT] ⟨ZsW,ytt⟩
abbrev yIn:Ty:=(.st [Zb,WX])
abbrev In:Type:=(Zd×Zas)
abbrev yTx:Ty:=(.st [(.sl yIn),(.sl Zs),yI])
abbrev Tx:Type:=((List In)×(List Out)×Int)
def Qp(F:Nat)(s:((List In)×Int×Int×Tx×(List (Zd×Bool)))):Option (((List In)×Int×Int×Tx×(List (Zd×Bool)))⊕((Bool×Tx×(List (Zd×Bool)))⊕(Tx×(List (Zd×Bool))))):=
 if(decide (s.2.2.1 < s.2.1))=true then
  (idx s.1 s.2.2.1).bind λe76=>
  Zcb (mget s.2.2.2.2 e76.1) (λe77=>
   if e77=true then
    some (.inr (.inl (false,s.2.2.2.1,s.2.2.2.2)))
   else
   if(decide (e76.1.2 < 0))=true then
    some (.inr (.inl (false,s.2.2.2.1,s.2.2.2.2)))
   else
   if(decide (e76.1.2 ≥ 64))=true then
    some (.inr (.inl (false,s.2.2.2.1,s.2.2.2.2)))
   else
   (ZaO F e76.2).bind λo78=>
   if(!o78)=true then
    some (.inr (.inl (false,s.2.2.2.1,s.2.2.2.2)))
   else
   some (.inl (s.1,s.2.1,wi (s.2.2.1+1),s.2.2.2.1,Za0 s.2.2.2.2 e76.1 true))) (
   if(decide (e76.1.2 < 0))=true then
    some (.inr (.inl (false,s.2.2.2.1,s.2.2.2.2)))
   else
   if(decide (e76.1.2 ≥ 64))=true then
    some (.inr (.inl (false,s.2.2.2.1,s.2.2.2.2)))
   else
   (ZaO F e76.2).bind λo79=>
   if(!o79)=true then
    some (.inr (.inl (false,s.2.2.2.1,s.2.2.2.2)))
   else
   some (.inl (s.1,s.2.1,wi (s.2.2.1+1),s.2.2.2.1,Za0 s.2.2.2.2 e76.1 true)))
 else
 some (.inr (.inr (s.2.2.2.1,s.2.2.2.2)))
def ZlU:Lp:=⟨[(1,.ref 0 []),(3,.mp 1),(33,.v (.sl yIn)),(34,.v yI),(35,.v yI)],[.var (.v yTx) true,.map 158 Zb .bool],[(.sl yIn),yI,yI,yTx,(YN Zb .bool)],[⟨.ret,[(2,.v .bool)],[.var (.v yTx) true,.map 158 Zb .bool],[.bool,yTx,(YN Zb .bool)]⟩,⟨.exit 0,[(1,.ref 0 [])],[.var (.v yTx) true,.map 158 Zb .bool],[yTx,(YN Zb .bool)]⟩],Zh (Qp fuel) fuel⟩
theorem ZoL:ZlU.okA yf 53 0:=ZU { still:=[2,57,73,75,83]} [] [ZjN] ⟨ZpW,ytt⟩
def ZbA(F:Nat)(s:(Int×(List Out)×Int×Int×Tx×(List (Zd×Bool)))):Option ((Int×(List Out)×Int×Int×Tx×(List (Zd×Bool)))⊕((Bool×Tx×(List (Zd×Bool)))⊕(Tx×(List (Zd×Bool))))):=
 if(decide (s.2.2.2.1 < s.2.2.1))=true then
  (idx s.2.1 s.2.2.2.1).bind λe83=>
  (ZjO F s.1 e83.1).bind λo84=>
  if(!o84.2)=true then
   some (.inr (.inl (false,s.2.2.2.2.1,s.2.2.2.2.2)))
  else
  (Xh F e83.2).bind λo85=>
  if(!o85)=true then
   some (.inr (.inl (false,s.2.2.2.2.1,s.2.2.2.2.2)))
  else
  some (.inl (o84.1,s.2.1,s.2.2.1,wi (s.2.2.2.1+1),s.2.2.2.2.1,s.2.2.2.2.2))
 else
 some (.inr (.inr (s.2.2.2.2.1,s.2.2.2.2.2)))
def ZlV:Lp:=⟨[(6,.v yI),(66,.v (.sl Zs)),(67,.v yI),(68,.v yI)],[.var (.v yTx) true,.map 158 Zb .bool],[yI,(.sl Zs),yI,yI,yTx,(YN Zb .bool)],[⟨.ret,[(2,.v .bool)],[.var (.v yTx) true,.map 158 Zb .bool],[.bool,yTx,(YN Zb .bool)]⟩,⟨.exit 2,[],[.var (.v yTx) true,.map 158 Zb .bool],[yTx,(YN Zb .bool)]⟩],Zh (ZbA fuel) fuel⟩
theorem ZoM:ZlV.okA yf 53 1:=ZU { still:=[2,57,73,75,83]} [] [Zra,Qo] ⟨Zw5,Zar,ytt⟩
def VX(F:Nat)(a0:Tx):Option (Bool):=
 if(decide ((a0.1.length:Int) < 1))=true then
  some false
 else
 if(decide ((a0.1.length:Int) > 64))=true then
  some false
 else
 if(decide ((a0.2.1.length:Int) > 64))=true then
  some false
 else
 if(decide (a0.2.2 < 0))=true then
  some false
 else
 (Zh (Qp F) F (a0.1,(a0.1.length:Int),0,a0,([]:List (Zd×Bool)))).bind λo80=>
 match o80 with
 |.inl o81=>
  some o81.1
 |.inr o82=>
  (Zh (ZbA F) F (0,o82.1.2.1,(o82.1.2.1.length:Int),0,o82.1,o82.2)).bind λo86=>
  match o86 with
  |.inl o87=>
   some o87.1
  |.inr o88=>
   some true
def Zvb(F:Nat):Fs yf:=⟨53,[.v yTx],[],[yTx],[⟨.ret,[(0,.v .bool)],[],[.bool]⟩],λx=>VX F x⟩
def Zcl:Fs yf:=Zvb fuel
theorem Zdk:Zcl.Ok:=fnO { still:=[2,57,73,75,83]} [(0,ZlU),(1,ZlV)] [] trivial ⟨ZoL,ZoM,ytt⟩
def Zgv(F:Nat):Option ((List UInt32)):=
 some [1779033703,3144134277,1013904242,2773480762,1359893119,2600822924,528734635,1541459225]
def ZpX(F:Nat):Fs yf:=⟨95,[],[],[],[⟨.ret,[(0,.v (.arr 8 .u32))],[],[(.arr 8 .u32)]⟩],λx=>Zgv F⟩
def ZjP:Fs yf:=ZpX fuel
theorem ZpY:ZjP.Ok:=fnO {} [] [] trivial
def ZF(F:Nat)(a0:UInt32)(a1:Int):Option (UInt32):=
 let y90:UInt32:=Zgg a0 (min (((w64 a1)&&&31).toNat:Int).toNat 32);let y91:UInt32:=Zfo a0 (min ((32 - ((w64 a1)&&&31)).toNat:Int).toNat 32)
 some (y90|||y91)
def Zgw(F:Nat):Fs yf:=⟨104,[.v .u32,.v yI],[],[.u32,yI],[⟨.ret,[(0,.v .u32)],[],[.u32]⟩],λx=>ZF F x.1 x.2⟩
def Vl:Fs yf:=Zgw fuel
theorem ZaP:Vl.Ok:=fnO { still:=[4]} [] [] trivial
def ZbB(F:Nat)(a0:(List UInt8)):Option (UInt32):=
 (idx a0 0).bind λe92=>
 (idx a0 1).bind λe93=>
 let y94:UInt32:=(Zgg (UInt32.ofNat e92.toNat) 24)|||(Zgg (UInt32.ofNat e93.toNat) 16)
 (idx a0 2).bind λe95=>
 (idx a0 3).bind λe96=>
 let y97:UInt32:=(y94|||(Zgg (UInt32.ofNat e95.toNat) 8))|||(UInt32.ofNat e96.toNat)
 some y97
def ZoN(F:Nat):Fs yf:=⟨107,[.v (.sl .u8)],[],[(.sl .u8)],[⟨.ret,[(0,.v .u32)],[],[.u32]⟩],λx=>ZbB F x⟩
def ZhR:Fs yf:=ZoN fuel
theorem ZoO:ZhR.Ok:=fnO { still:=[2]} [] [] trivial
def WM(F:Nat)(s:((List UInt8)×Int×(List UInt32))):Option (((List UInt8)×Int×(List UInt32))⊕(List UInt32)):=
 if(decide (s.2.1 < 64))=true then
  if(decide (s.2.1 < 16))=true then
   if(ZdL s.1.length (some (wi (4*s.2.1))) none)=true then
    (ZbB F (s.1.drop ((wi (4*s.2.1)).toNat))).bind λo98=>
    if(inB s.2.1 64)=true then
     (s.2.2[s.2.1.toNat]?).bind λe99=>
     some (.inl (s.1,wi (s.2.1+1),s.2.2.set s.2.1.toNat o98))
    else
    none
   else
   none
  else
  if(inB (wi (s.2.1 - 15)) 64)=true then
   (s.2.2[(wi (s.2.1 - 15)).toNat]?).bind λe100=>
   if(inB (wi (s.2.1 - 2)) 64)=true then
    (s.2.2[(wi (s.2.1 - 2)).toNat]?).bind λe101=>
    (ZF F e100 (-7)).bind λo102=>
    (ZF F e100 (-18)).bind λo103=>
    (ZF F e101 (-17)).bind λo104=>
    (ZF F e101 (-19)).bind λo105=>
    if(inB (wi (s.2.1 - 16)) 64)=true then
     (s.2.2[(wi (s.2.1 - 16)).toNat]?).bind λe106=>
     if(inB (wi (s.2.1 - 7)) 64)=true then
      (s.2.2[(wi (s.2.1 - 7)).toNat]?).bind λe107=>
      let y108:UInt32:=(e106+((o102^^^o103)^^^(Zfo e100 3)))+e107
      if(inB s.2.1 64)=true then
       (s.2.2[s.2.1.toNat]?).bind λe109=>
       let y110:(List UInt32):=s.2.2.set s.2.1.toNat (y108+((o104^^^o105)^^^(Zfo e101 10)))
       some (.inl (s.1,wi (s.2.1+1),y110))
      else
      none
     else
     none
    else
    none
   else
   none
  else
  none
 else
 some (.inr s.2.2)
def Zel:Lp:=⟨[(0,.v (.sl .u8)),(2,.ref 0 []),(8,.v yI)],[.var (.v (.arr 64 .u32)) true],[(.sl .u8),yI,(.arr 64 .u32)],[⟨.exit 0,[(2,.ref 0 [])],[.var (.v (.arr 64 .u32)) true],[(.arr 64 .u32)]⟩],Zh (WM fuel) fuel⟩
theorem Zhy:Zel.okA yf 102 0:=ZU { still:=[17,28,30,36,38]} [] [ZhR,Vl] ⟨ZoO,ZaP,ytt⟩
def Qq(F:Nat)(a0:(List UInt8)):Option ((List UInt32)):=
 (Zh (WM F) F (a0,0,[0,0,0,0,0,0,0,0,0,0,0,0,0,0,0,0,0,0,0,0,0,0,0,0,0,0,0,0,0,0,0,0,0,0,0,0,0,0,0,0,0,0,0,0,0,0,0,0,0,0,0,0,0,0,0,0,0,0,0,0,0,0,0,0])).bind λo111=>
 some o111
def ZkZ(F:Nat):Fs yf:=⟨102,[.v (.sl .u8)],[],[(.sl .u8)],[⟨.ret,[(0,.v (.arr 64 .u32))],[],[(.arr 64 .u32)]⟩],λx=>Qq F x⟩
def Zfu:Fs yf:=ZkZ fuel
theorem Zk0:Zfu.Ok:=fnO { still:=[17,28,30,36,38]} [(0,Zel)] [] trivial ⟨Zhy,ytt⟩
def Zgx(F:Nat):Option ((List UInt32)):=
 some [1116352408,1899447441,3049323471,3921009573,961987163,1508970993,2453635748,2870763221,3624381080,310598401,607225278,1426881987,1925078388,2162078206,2614888103,3248222580,3835390401,4022224774,264347078,604807628,770255983,1249150122,1555081692,1996064986,2554220882,2821834349,2952996808,3210313671,3336571891,3584528711,113926993,338241895,666307205,773529912,1294757372,1396182291,1695183700,1986661051,2177026350,2456956037,2730485921,2820302411,3259730800,3345764771,3516065817,3600352804,4094571909,275423344,430227734,506948616,659060556,883997877,958139571,1322822218,1537002063,1747873779,1955562222,2024104815,2227730452,2361852424,2428436474,2756734187,3204031479,3329325298]
def ZpZ(F:Nat):Fs yf:=⟨103,[],[],[],[⟨.ret,[(0,.v (.arr 64 .u32))],[],[(.arr 64 .u32)]⟩],λx=>Zgx F⟩
def ZjQ:Fs yf:=ZpZ fuel
theorem Zp0:ZjQ.Ok:=fnO {} [] [] trivial
def Wh(F:Nat)(s:(Int×(List UInt32)×(List UInt32)×(List UInt32)×(List UInt32)×(List UInt32))):Option ((Int×(List UInt32)×(List UInt32)×(List UInt32)×(List UInt32)×(List UInt32))⊕((List UInt32)×(List UInt32)×(List UInt32)×(List UInt32)×(List UInt32))):=
 if(decide (s.1 < 64))=true then
  (s.2.2.2.2.2[4]?).bind λe114=>
  (ZF F e114 (-6)).bind λo115=>
  (s.2.2.2.2.2[4]?).bind λe116=>
  (ZF F e116 (-11)).bind λo117=>
  (s.2.2.2.2.2[4]?).bind λe118=>
  (ZF F e118 (-25)).bind λo119=>
  (s.2.2.2.2.2[7]?).bind λe120=>
  (s.2.2.2.2.2[6]?).bind λe121=>
  (s.2.2.2.2.2[4]?).bind λe122=>
  (s.2.2.2.2.2[5]?).bind λe123=>
  (s.2.2.2.2.2[6]?).bind λe124=>
  let y125:UInt32:=(e120+((o115^^^o117)^^^o119))+(e121^^^(e122&&&(e123^^^e124)))
  if(inB s.1 64)=true then
   (s.2.2.2.2.1[s.1.toNat]?).bind λe126=>
   if(inB s.1 64)=true then
    (s.2.2.2.1[s.1.toNat]?).bind λe127=>
    (s.2.2.2.2.2[0]?).bind λe128=>
    (ZF F e128 (-2)).bind λo129=>
    (s.2.2.2.2.2[0]?).bind λe130=>
    (ZF F e130 (-13)).bind λo131=>
    (s.2.2.2.2.2[0]?).bind λe132=>
    (ZF F e132 (-22)).bind λo133=>
    (s.2.2.2.2.2[0]?).bind λe134=>
    (s.2.2.2.2.2[1]?).bind λe135=>
    (s.2.2.2.2.2[2]?).bind λe136=>
    (s.2.2.2.2.2[0]?).bind λe137=>
    (s.2.2.2.2.2[1]?).bind λe138=>
    let y139:UInt32:=((y125+e126)+e127)+((o129^^^o131)^^^o133);let y140:UInt32:=y139+((e134&&&e135)|||(e136&&&(e137|||e138)))
    (s.2.2.2.2.2[0]?).bind λe141=>
    (s.2.2.2.2.2[1]?).bind λe142=>
    (s.2.2.2.2.2[2]?).bind λe143=>
    (s.2.2.2.2.2[3]?).bind λe144=>
    (s.2.2.2.2.2[4]?).bind λe145=>
    (s.2.2.2.2.2[5]?).bind λe146=>
    (s.2.2.2.2.2[6]?).bind λe147=>
    some (.inl (wi (s.1+1),s.2.1,s.2.2.1,s.2.2.2.1,s.2.2.2.2.1,[y140,e141,e142,e143,e144+((y125+e126)+e127),e145,e146,e147]))
   else
   none
  else
  none
 else
 some (.inr (s.2.1,s.2.2.1,s.2.2.2.1,s.2.2.2.2.1,s.2.2.2.2.2))
def ZEm:List ESh:=[.var (.v (.arr 8 .u32)) true,.var (.v (.arr 8 .u32)) true,.var (.v (.arr 64 .u32)) true,.var (.v (.arr 64 .u32)) true,.var (.v (.arr 8 .u32)) true]
def Zdl:Lp:=⟨[(2,.ref 0 []),(4,.ref 1 []),(5,.ref 2 []),(6,.ref 3 []),(7,.ref 4 []),(18,.v yI)],ZEm,[yI,(.arr 8 .u32),(.arr 8 .u32),(.arr 64 .u32),(.arr 64 .u32),(.arr 8 .u32)],[⟨.exit 0,[(2,.ref 0 []),(4,.ref 1 []),(7,.ref 4 [])],ZEm,[(.arr 8 .u32),(.arr 8 .u32),(.arr 64 .u32),(.arr 64 .u32),(.arr 8 .u32)]⟩],Zh (Wh fuel) fuel⟩
def hi3:HI:={ still:=[14,22,25,29,57,60,64]}
theorem Zgy:Zdl.okA yf 96 0:=ZU hi3 [] [Vl] ⟨ZaP,ytt⟩
def Wi(F:Nat)(s:(Int×(List UInt32)×(List UInt32)×(List UInt32)×(List UInt32)×(List UInt32))):Option ((Int×(List UInt32)×(List UInt32)×(List UInt32)×(List UInt32)×(List UInt32))⊕((List UInt32)×(List UInt32)×(List UInt32)×(List UInt32)×(List UInt32))):=
 if(decide (s.1 < 8))=true then
  if(inB s.1 8)=true then
   (s.2.2.2.2.2[s.1.toNat]?).bind λe149=>
   if(inB s.1 8)=true then
    (s.2.1[s.1.toNat]?).bind λe150=>
    if(inB s.1 8)=true then
     (s.2.2.2.2.2[s.1.toNat]?).bind λe151=>
     some (.inl (wi (s.1+1),s.2.1,s.2.2.1,s.2.2.2.1,s.2.2.2.2.1,s.2.2.2.2.2.set s.1.toNat (e149+e150)))
    else
    none
   else
   none
  else
  none
 else
 some (.inr (s.2.1,s.2.2.1,s.2.2.2.1,s.2.2.2.2.1,s.2.2.2.2.2))
def Zdm:Lp:=⟨[(2,.ref 0 []),(4,.ref 1 []),(7,.ref 4 []),(104,.v yI)],ZEm,[yI,(.arr 8 .u32),(.arr 8 .u32),(.arr 64 .u32),(.arr 64 .u32),(.arr 8 .u32)],[⟨.exit 2,[(4,.ref 1 []),(7,.ref 4 [])],ZEm,[(.arr 8 .u32),(.arr 8 .u32),(.arr 64 .u32),(.arr 64 .u32),(.arr 8 .u32)]⟩],Zh (Wi fuel) fuel⟩
theorem Zgz:Zdm.okA yf 96 1:=ZU hi3 [] [] trivial
def Wr(F:Nat)(a0:(List UInt32))(a1:(List UInt8)):Option ((List UInt32)):=
 (Qq F a1).bind λo112=>
 (Zgx F).bind λo113=>
 (Zh (Wh F) F (0,a0,[0,0,0,0,0,0,0,0],o112,o113,a0)).bind λo148=>
 (Zh (Wi F) F (0,o148.1,o148.2.1,o148.2.2.1,o148.2.2.2.1,o148.2.2.2.2)).bind λo152=>
 some o152.2.2.2.2
def ZjR(F:Nat):Fs yf:=⟨96,[.v (.arr 8 .u32),.v (.sl .u8)],[],[(.arr 8 .u32),(.sl .u8)],[⟨.ret,[(0,.v (.arr 8 .u32))],[],[(.arr 8 .u32)]⟩],λx=>Wr F x.1 x.2⟩
def Q7:Fs yf:=ZjR fuel
theorem Zdn:Q7.Ok:=fnO hi3 [(0,Zdl),(1,Zdm)] [Zfu,ZjQ] ⟨Zk0,Zp0,ytt⟩ ⟨Zgy,Zgz,ytt⟩
def ZY(F:Nat)(a0:(List UInt8)):Option ((List UInt8)):=
 if(apB 0 a0.length 1)=true then
  some a0
 else
 none
def Za4(F:Nat):Fs yf:=⟨94,[.sl true .u8],[],[(.sl .u8)],[⟨.ret,[(0,.own 0 .u8)],[.log .u8 5],[(.sl .u8)]⟩],λx=>ZY F x⟩
def ZbC:Fs yf:=Za4 fuel
theorem Za5:ZbC.Ok:=fnO { own:=[2,5,7]} [] [] trivial
def WY(F:Nat):Option ((List UInt8)):=
 some []
def Za6(F:Nat):Fs yf:=⟨94,[.nil .u8],[],[],[⟨.ret,[(0,.own 0 .u8)],[.log .u8 5],[(.sl .u8)]⟩],λx=>WY F⟩
def ZbD:Fs yf:=Za6 fuel
theorem Za7:ZbD.Ok:=fnO { own:=[2,5,7]} [] [] trivial
def Q8(F:Nat):Fs yf:=⟨94,[.v (.sl .u8)],[],[(.sl .u8)],[⟨.ret,[(0,.own 0 .u8)],[.log .u8 5],[(.sl .u8)]⟩],λx=>ZY F x⟩
def X6:Fs yf:=Q8 fuel
theorem Q9:X6.Ok:=ZwX (t:=.u8) (xs:=[⟨.ret,[(0,.own 0 .u8)],[.log .u8 5],[(.sl .u8)]⟩]) (MA:=λ(x:(List UInt8))=>ZY fuel x) (MB:=λ_=>WY fuel) Za5 Za7 rfl
def Zat(F:Nat)(s:((List UInt8)×(List UInt8)×(List UInt8))):Option (((List UInt8)×(List UInt8)×(List UInt8))⊕((List UInt8)×(List UInt8)×(List UInt8))):=
 if((yac (s.2.2.length:Int) 64)!=56)=true then
  if(apB s.2.2.length 1 1)=true then
   some (.inl (s.1,s.2.1,s.2.2++([0]:List UInt8)))
  else
  none
 else
 some (.inr (s.1,s.2.1,s.2.2))
def ZjS:Lp:=⟨[(0,.v (.sl .u8)),(2,.ref 0 []),(3,.own 1 .u8)],[.var (.v (.arr 32 .u8)) true,.log .u8 5],[(.sl .u8),(.arr 32 .u8),(.sl .u8)],[⟨.exit 0,[(0,.v (.sl .u8)),(2,.ref 0 []),(3,.own 1 .u8)],[.var (.v (.arr 32 .u8)) true,.log .u8 5],[(.sl .u8),(.arr 32 .u8),(.sl .u8)]⟩],Zh (Zat fuel) fuel⟩
def hi4:HI:={ own:=[3,14,16,21,23,24,28,43],still:=[13,24,27,35,37,44,46]}
theorem Zmt:ZjS.okA yf 80 0:=ZU hi4 [] [] trivial
def Vc(F:Nat)(s:(Int×Int×(List UInt8)×(List UInt8))):Option ((Int×Int×(List UInt8)×(List UInt8))⊕((List UInt8)×(List UInt8))):=
 if(decide (s.2.1 ≥ 0))=true then
  if(decide (0≤s.2.1))=true then
   if(apB s.2.2.1.length 1 1)=true then
    let y156:(List UInt8):=s.2.2.1++([w8 (Int.fdiv s.1 (2 ^ (min s.2.1.toNat 64)))]:List UInt8)
    some (.inl (s.1,wi (s.2.1 - 8),y156,s.2.2.2))
   else
   none
  else
  none
 else
 some (.inr (s.2.2.1,s.2.2.2))
def Zfv:Lp:=⟨[(0,.own 0 .u8),(1,.v yI),(5,.v yI)],[.log .u8 5,.log .u8 5],[yI,yI,(.sl .u8),(.sl .u8)],[⟨.exit 0,[(0,.own 0 .u8)],[.log .u8 5,.log .u8 5],[(.sl .u8),(.sl .u8)]⟩],Zh (Vc fuel) fuel⟩
theorem Zix:Zfv.okA yf 79 0:=ZU { own:=[0,4,10,16,17]} [] [] trivial
def Xj(F:Nat)(a1:Int)(s0:(List UInt8)):Option ((List UInt8)):=
 (Zh (Vc F) F (a1,56,s0,[])).bind λo157=>
 some o157.1
def Za8(F:Nat):Fs yf:=⟨79,[.own 0 .u8,.v yI],[.log .u8 5],[yI,(.sl .u8)],[⟨.ret,[(0,.own 0 .u8)],[.log .u8 5],[(.sl .u8)]⟩],λx=>Xj F x.1 x.2⟩
def Zcm:Fs yf:=Za8 fuel
theorem Za9:Zcm.Ok:=fnO { own:=[0,4,10,16,17]} [(0,Zfv)] [] trivial ⟨Zix,ytt⟩
def Zau(F:Nat)(s:((List UInt8)×(List UInt8)×(List UInt8)×(List UInt32))):Option (((List UInt8)×(List UInt8)×(List UInt8)×(List UInt32))⊕((List UInt8)×(List UInt8)×(List UInt32))):=
 if(decide ((s.1.length:Int) ≥ 64))=true then
  if(ZdL s.1.length none (some 64))=true then
   (Wr F s.2.2.2 (s.1.take 64)).bind λo160=>
   if(ZdL s.1.length (some 64) none)=true then
    some (.inl (s.1.drop 64,s.2.1,s.2.2.1,o160))
   else
   none
  else
  none
 else
 some (.inr (s.2.1,s.2.2.1,s.2.2.2))
def ZjT:Lp:=⟨[(0,.v (.sl .u8)),(2,.ref 0 []),(3,.own 1 .u8),(4,.ref 2 [])],[.var (.v (.arr 32 .u8)) true,.log .u8 5,.var (.v (.arr 8 .u32)) true],[(.sl .u8),(.arr 32 .u8),(.sl .u8),(.arr 8 .u32)],[⟨.exit 2,[(2,.ref 0 []),(3,.own 1 .u8),(4,.ref 2 [])],[.var (.v (.arr 32 .u8)) true,.log .u8 5,.var (.v (.arr 8 .u32)) true],[(.arr 32 .u8),(.sl .u8),(.arr 8 .u32)]⟩],Zh (Zau fuel) fuel⟩
theorem Zmu:ZjT.okA yf 80 1:=ZU hi4 [] [Q7] ⟨Zdn,ytt⟩
def Zav(F:Nat)(s:((List UInt8)×(List UInt8)×(List UInt8)×(List UInt32))):Option (((List UInt8)×(List UInt8)×(List UInt8)×(List UInt32))⊕((List UInt8)×(List UInt8)×(List UInt32))):=
 if(decide ((s.1.length:Int) > 0))=true then
  if(ZdL s.1.length none (some 64))=true then
   (Wr F s.2.2.2 (s.1.take 64)).bind λo163=>
   if(ZdL s.1.length (some 64) none)=true then
    some (.inl (s.1.drop 64,s.2.1,s.2.2.1,o163))
   else
   none
  else
  none
 else
 some (.inr (s.2.1,s.2.2.1,s.2.2.2))
def ZjU:Lp:=⟨[(2,.ref 0 []),(3,.v (.sl .u8)),(4,.ref 2 [])],[.var (.v (.arr 32 .u8)) true,.log .u8 5,.var (.v (.arr 8 .u32)) true],[(.sl .u8),(.arr 32 .u8),(.sl .u8),(.arr 8 .u32)],[⟨.exit 4,[(2,.ref 0 []),(4,.ref 2 [])],[.var (.v (.arr 32 .u8)) true,.log .u8 5,.var (.v (.arr 8 .u32)) true],[(.arr 32 .u8),(.sl .u8),(.arr 8 .u32)]⟩],Zh (Zav fuel) fuel⟩
theorem Zmv:ZjU.okA yf 80 2:=ZU hi4 [] [Q7] ⟨Zdn,ytt⟩
def Zaw(F:Nat)(s:(Int×(List UInt8)×(List UInt8)×(List UInt32))):Option ((Int×(List UInt8)×(List UInt8)×(List UInt32))⊕((List UInt8)×(List UInt8)×(List UInt32))):=
 if(decide (s.1 < 32))=true then
  if(inB (wi (yl s.1 4)) 8)=true then
   (s.2.2.2[(wi (yl s.1 4)).toNat]?).bind λe165=>
   if(decide (0≤wi (24 - (wi (8*(yac s.1 4))))))=true then
    let y166:UInt32:=Zfo e165 (min (wi (24 - (wi (8*(yac s.1 4))))).toNat 32)
    if(inB s.1 32)=true then
     (s.2.1[s.1.toNat]?).bind λe167=>
     some (.inl (wi (s.1+1),s.2.1.set s.1.toNat (w8 (y166.toNat:Int)),s.2.2.1,s.2.2.2))
    else
    none
   else
   none
  else
  none
 else
 some (.inr (s.2.1,s.2.2.1,s.2.2.2))
def ZjV:Lp:=⟨[(2,.ref 0 []),(4,.ref 2 []),(48,.v yI)],[.var (.v (.arr 32 .u8)) true,.log .u8 5,.var (.v (.arr 8 .u32)) true],[yI,(.arr 32 .u8),(.sl .u8),(.arr 8 .u32)],[⟨.exit 6,[(2,.ref 0 [])],[.var (.v (.arr 32 .u8)) true,.log .u8 5,.var (.v (.arr 8 .u32)) true],[(.arr 32 .u8),(.sl .u8),(.arr 8 .u32)]⟩],Zh (Zaw fuel) fuel⟩
theorem Zmw:ZjV.okA yf 80 3:=ZU hi4 [] [] trivial
def Zcn(F:Nat)(a0:(List UInt8)):Option ((List UInt8)):=
 let y153:Int:=wi ((a0.length:Int) - (yac (a0.length:Int) 64))
 if(ZdL a0.length (some y153) none)=true then
  (ZY F (a0.drop y153.toNat)).bind λo154=>
  if(apB o154.length 1 1)=true then
   (Zh (Zat F) F (a0,yzz,o154++([128]:List UInt8))).bind λo155=>
   (Xj F (wi (8*(o155.1.length:Int))) o155.2.2).bind λo158=>
   (Zgv F).bind λo159=>
   (Zh (Zau F) F (o155.1,o155.2.1,o158,o159)).bind λo161=>
   (Zh (Zav F) F (o161.2.1,o161.1,o161.2.1,o161.2.2)).bind λo164=>
   (Zh (Zaw F) F (0,o164.1,o164.2.1,o164.2.2)).bind λo168=>
   some o168.1
  else
  none
 else
 none
def Ze2(F:Nat):Fs yf:=⟨80,[.v (.sl .u8)],[],[(.sl .u8)],[⟨.ret,[(0,.v (.arr 32 .u8))],[],[(.arr 32 .u8)]⟩],λx=>Zcn F x⟩
def Zvc:Fs yf:=Ze2 fuel
theorem ZsX:Zvc.Ok:=fnO hi4 [(0,ZjS),(1,ZjT),(2,ZjU),(3,ZjV)] [Zcm,X6,ZjP] ⟨Za9,Q9,ZpY,ytt⟩ ⟨Zmt,Zmu,Zmv,Zmw,ytt⟩
end
end Go.Proofs.YtkapgdbeeblihaaGreat
end
section
namespace Go.Sha
open Go.Ev
noncomputable def Vt{α:Type}(n:Nat)(k:Nat→α):α:=Nat.rec (motive:=λ_=>α) (k 0) (λm _=>k (Nat.succ m)) n
theorem YT{α:Type}(n:Nat)(k:Nat→α):Vt n k=k n:=by cases n <;> rfl
def dbl(x:Nat):Nat:=Nat.mul x 4294967297
def s0(x:Nat):Nat:=Nat.xor (Nat.xor (yaj (dbl x) 7) (yaj (dbl x) 18)) (yaj x 3)
def s1(x:Nat):Nat:=Nat.xor (Nat.xor (yaj (dbl x) 17) (yaj (dbl x) 19)) (yaj x 10)
def S0(x:Nat):Nat:=Nat.xor (Nat.xor (yaj (dbl x) 2) (yaj (dbl x) 13)) (yaj (dbl x) 22)
def S1(x:Nat):Nat:=Nat.xor (Nat.xor (yaj (dbl x) 6) (yaj (dbl x) 11)) (yaj (dbl x) 25)
def ch(e f g:Nat):Nat:=Nat.xor g (Nat.land e (Nat.xor f g))
def mj(a b c:Nat):Nat:=Nat.lor (Nat.land a b) (Nat.land c (Nat.lor a b))
def lo(x:Nat):Nat:=Nat.mod x 4294967296
def kw(W:Nat):Nat:=lo (yx (yx (yx (yaj W 480) (s0 (lo (yaj W 448)))) (lo (yaj W 192))) (s1 (lo (yaj W 32))))
def kn(W:Nat):Nat:=Nat.mod (yx (Nat.mul W 4294967296) (kw W)) (Nat.pow 2 512)
noncomputable def kst(k:Nat)(ih:Nat→Nat→Nat→Nat→Nat→Nat→Nat→Nat→Nat→Nat)(W a b c d e f g h:Nat):Nat:=
 Vt (yx (yx (yx (yx h (S1 e)) (ch e f g)) k) (yaj W 480)) λt=>
     Vt (lo (yx (yx t (S0 a)) (mj a b c))) λa'=>Vt (lo (yx d t)) λe'=>Vt (kn W) λW'=>ih W' a' a b c e' e f g
noncomputable def kgo(ks:List Nat)(K:Nat→Nat→Nat→Nat→Nat→Nat→Nat→Nat→Nat):Nat→Nat→Nat→Nat→Nat→Nat→Nat→Nat→Nat→Nat:=
 List.rec (motive:=λ_=>Nat→Nat→Nat→Nat→Nat→Nat→Nat→Nat→Nat→Nat) (λ_=>K) (λk _ ih=>kst k ih) ks
def ks:List Nat:=[1116352408,1899447441,3049323471,3921009573,961987163,1508970993,2453635748,2870763221,3624381080,310598401,607225278,1426881987,1925078388,2162078206,2614888103,3248222580,3835390401,4022224774,264347078,604807628,770255983,1249150122,1555081692,1996064986,2554220882,2821834349,2952996808,3210313671,3336571891,3584528711,113926993,338241895,666307205,773529912,1294757372,1396182291,1695183700,1986661051,2177026350,2456956037,2730485921,2820302411,3259730800,3345764771,3516065817,3600352804,4094571909,275423344,430227734,506948616,659060556,883997877,958139571,1322822218,1537002063,1747873779,1955562222,2024104815,2227730452,2361852424,2428436474,2756734187,3204031479,3329325298]
def w32(H i:Nat):Nat:=lo (yaj H i)
def cat(H x:Nat):Nat:=yx (Nat.mul H 4294967296) (lo x)
noncomputable def ZEn(H B:Nat):Nat:=
 Vt (w32 H 224) λa=>Vt (w32 H 192) λb=>Vt (w32 H 160) λc=>Vt (w32 H 128) λd=>Vt (w32 H 96) λe=>Vt (w32 H 64) λf=>Vt (w32 H 32) λg=>Vt (w32 H 0) λh=>
  kgo ks (λa' b' c' d' e' f' g' h'=>cat (cat (cat (cat (cat (cat (cat (cat 0 (yx a' a)) (yx b' b)) (yx c' c)) (yx d' d)) (yx e' e)) (yx f' f)) (yx g' g)) (yx h' h)) B a b c d e f g h
noncomputable def pk(l:List Nat)(n:Nat):Nat:=List.rec (motive:=λ_=>Nat→Nat) (λn=>n) (λx _ ih n=>Vt (yx (Nat.mul n 256) x) ih) l n
noncomputable def ZGi(n:Nat)(l:List Nat)(H:Nat):Nat:=
 Nat.rec (motive:=λ_=>List Nat→Nat→Nat) (λ_ H=>H) (λ_ ih l H=>Vt (ZEn H (pk (l.take 64) 0)) λH'=>ih (l.drop 64) H') n l H
noncomputable def outs(H:Nat)(l:List Nat):List UInt8:=List.rec (motive:=λ_=>List UInt8) [] (λs _ ih=>Vt (Nat.mod (yaj H s) 256) λx=>ybd x::ih) l
def Zw6:List Nat:=[248,240,232,224,216,208,200,192,184,176,168,160,152,144,136,128,120,112,104,96,88,80,72,64,56,48,40,32,24,16,8,0]
def be8(n:Nat):List Nat:=[n / 2 ^ 56 % 256,n / 2 ^ 48 % 256,n / 2 ^ 40 % 256,n / 2 ^ 32 % 256,n / 2 ^ 24 % 256,n / 2 ^ 16 % 256,n / 2 ^ 8 % 256,n % 256]
def zs(n:Nat):Nat:=(119 - n % 64) % 64
def H0:Nat:=cat (cat (cat (cat (cat (cat (cat (cat 0 1779033703) 3144134277) 1013904242) 2773480762) 1359893119) 2600822924) 528734635) 1541459225
noncomputable def sha(l:List UInt8):List UInt8:=
 Vt l.length λn=>Vt (ZGi (Nat.div (yx n 72) 64) (l.map ybj++(128::(yae (zs n) 0++be8 (8*n)))) H0) λH=>outs H Zw6
theorem ZgA(x y:UInt32):(x+y).toNat=lo (x.toNat+y.toNat):=by rw[UInt32.toNat_add];rfl
theorem ZhS(x y:UInt32):(x^^^y).toNat=Nat.xor x.toNat y.toNat:=UInt32.toNat_xor ..
theorem ZCr(x y:UInt32):(x&&&y).toNat=Nat.land x.toNat y.toNat:=UInt32.toNat_and ..
theorem ZzY(x y:UInt32):(x|||y).toNat=Nat.lor x.toNat y.toNat:=UInt32.toNat_or ..
theorem ZGj(x:UInt32):x.toNat < 4294967296:=x.toNat_lt
theorem Zvd(x:UInt32)(n:Nat):(Zfo x n).toNat=yaj x.toNat n:=by
 unfold Zfo;rw[ycv,show yaj x.toNat n=x.toNat >>> n from rfl,Nat.shiftRight_eq_div_pow]
 exact yas (Nat.lt_of_le_of_lt (Nat.div_le_self _ _) (ZGj x))
theorem ZEZ(x:Nat):lo x < 4294967296:=ybq _ (by omega)
theorem QL{x:Nat}(h:x < 4294967296):lo x=x:=yas h
theorem ZHa(x:UInt32){n k:Nat}(h:n+k=32)(hn:0 < n):(Zgg x k|||Zfo x n).toNat=lo (yaj (dbl x.toNat) n):=by
 rw[ZzY,Zvd];unfold Zgg;have hx:=ZGj x;generalize x.toNat=m at hx;have hp:2 ^ n*2 ^ k=4294967296:=by rw[←Nat.pow_add,h]
 rw[ycv,show yaj m n=m >>> n from rfl,Nat.shiftRight_eq_div_pow,show yaj (dbl m) n=(dbl m) >>> n from rfl,Nat.shiftRight_eq_div_pow]
 have e1:m*2 ^ k % 2 ^ 32=2 ^ k*(m % 2 ^ n):=by
  rw[show(2:Nat) ^ 32=2 ^ n*2 ^ k from hp.symm,Nat.mul_mod_mul_right]
  exact ybs ..
 have hd:m / 2 ^ n < 2 ^ k:=by
  rw[Nat.div_lt_iff_lt_mul (Nat.two_pow_pos n),ybs,hp];exact hx
 rw[e1,show Nat.lor (2 ^ k*(m % 2 ^ n)) (m / 2 ^ n)=2 ^ k*(m % 2 ^ n)|||m / 2 ^ n from rfl, ←Nat.two_pow_add_eq_or_of_lt hd]
 have e2:dbl m=2 ^ n*(m*2 ^ k)+m:=by
  unfold dbl;rw[Nat.mul_left_comm,hp,show Nat.mul m 4294967297=m*4294967297 from rfl]
  omega
 rw[e2,Nat.mul_add_div (Nat.two_pow_pos n)];unfold lo;rw[show Nat.mod (m*2 ^ k+m / 2 ^ n) 4294967296=(m*2 ^ k+m / 2 ^ n) % 4294967296 from rfl,Nat.add_mod,show m*2 ^ k % 4294967296=2 ^ k*(m % 2 ^ n) from e1,yas (a:=m / 2 ^ n) (b:=4294967296) (by rw[←hp];exact Nat.lt_of_lt_of_le hd (Nat.le_mul_of_pos_left _ (Nat.two_pow_pos n)))]
 refine(yas ?_).symm;have hm:m % 2 ^ n < 2 ^ n:=ybq _ (Nat.two_pow_pos n)
 calc 2 ^ k*(m % 2 ^ n)+m / 2 ^ n < 2 ^ k*(m % 2 ^ n)+2 ^ k:=by omega
  _=2 ^ k*(m % 2 ^ n+1):=by rw[Nat.mul_add,Nat.mul_one]
  _≤2 ^ k*2 ^ n:=Nat.mul_le_mul_left _ hm
  _=4294967296:=by rw[ybs,hp]
theorem ZgB(x y:Nat):lo (Nat.xor x y)=Nat.xor (lo x) (lo y):=Nat.xor_mod_two_pow (n:=32)
theorem ZCs(x:UInt32)(n:Nat):lo (yaj x.toNat n)=yaj x.toNat n:=by
 rw[←Zvd];exact QL (ZGj _)
theorem ZHE(x:UInt32){a b:UInt32}(ha:a.toNat=lo (yaj (dbl x.toNat) 7))(hb:b.toNat=lo (yaj (dbl x.toNat) 18)):((a^^^b)^^^Zfo x 3).toNat=lo (s0 x.toNat):=by
 unfold s0;rw[ZhS,ZhS,Zvd,ha,hb,ZgB,ZgB,ZCs]
theorem ZHF(x:UInt32){a b:UInt32}(ha:a.toNat=lo (yaj (dbl x.toNat) 17))(hb:b.toNat=lo (yaj (dbl x.toNat) 19)):((a^^^b)^^^Zfo x 10).toNat=lo (s1 x.toNat):=by
 unfold s1;rw[ZhS,ZhS,Zvd,ha,hb,ZgB,ZgB,ZCs]
theorem ZHG(x:UInt32){a b c:UInt32}(ha:a.toNat=lo (yaj (dbl x.toNat) 2))(hb:b.toNat=lo (yaj (dbl x.toNat) 13))(hc:c.toNat=lo (yaj (dbl x.toNat) 22)):((a^^^b)^^^c).toNat=lo (S0 x.toNat):=by
 unfold S0;rw[ZhS,ZhS,ha,hb,hc,ZgB,ZgB]
theorem ZHH(x:UInt32){a b c:UInt32}(ha:a.toNat=lo (yaj (dbl x.toNat) 6))(hb:b.toNat=lo (yaj (dbl x.toNat) 11))(hc:c.toNat=lo (yaj (dbl x.toNat) 25)):((a^^^b)^^^c).toNat=lo (S1 x.toNat):=by
 unfold S1;rw[ZhS,ZhS,ha,hb,hc,ZgB,ZgB]
theorem ZHI(e f g:UInt32):(g^^^(e&&&(f^^^g))).toNat=ch e.toNat f.toNat g.toNat:=by
 unfold ch;rw[ZhS,ZCr,ZhS]
theorem ZHJ(a b c:UInt32):((a&&&b)|||(c&&&(a|||b))).toNat=mj a.toNat b.toNat c.toNat:=by
 unfold mj;rw[ZzY,ZCr,ZCr,ZzY]
theorem ZHK(a b c d:Nat):lo (lo (lo (a+lo b)+c)+lo d)=lo (a+b+c+d):=by
 show(((a+b % 4294967296) % 4294967296+c) % 4294967296+d % 4294967296) % 4294967296=(a+b+c+d) % 4294967296;omega
theorem ZHL(a b c d e:Nat):lo (lo (lo (lo (a+lo b)+c)+d)+e)=lo (yx (yx (yx (yx a b) c) d) e):=by
 show((((a+b % 4294967296) % 4294967296+c) % 4294967296+d) % 4294967296+e) % 4294967296=(a+b+c+d+e) % 4294967296;omega
theorem ZHM(t s m:Nat):lo (lo (lo t+lo s)+m)=lo (yx (yx t s) m):=by
 show((t % 4294967296+s % 4294967296) % 4294967296+m) % 4294967296=(t+s+m) % 4294967296;omega
theorem ZHN(d t:Nat):lo (d+lo t)=lo (yx d t):=by
 show(d+t % 4294967296) % 4294967296=(d+t) % 4294967296;omega
def pw(n:Nat)(l:List Nat):Nat:=l.foldl (λn x=>n*4294967296+x) n
theorem Zw7:∀(l:List Nat)(n:Nat),(∀x,x∈l→x < 4294967296)→pw n l / 2 ^ (32*l.length)=n
 |[],n,_=>by simp[pw]
 |x::r,n,h=>by
  have ih:=Zw7 r (n*4294967296+x) (λy hy=>h y (List.mem_cons_of_mem _ hy));have hx:=h x (List.mem_cons_self ..);rw[show pw n (x::r)=pw (n*4294967296+x) r from rfl,yal,show 32*(r.length+1)=32*r.length+32 by omega,Nat.pow_add, ←Nat.div_div_eq_div_mul,ih]
  omega
theorem ZjW:∀(l:List Nat)(n:Nat),pw n l=n*2 ^ (32*l.length)+pw 0 l
 |[],n=>by simp[pw]
 |x::r,n=>by
  rw[show pw n (x::r)=pw (n*4294967296+x) r from rfl,show pw 0 (x::r)=pw (0*4294967296+x) r from rfl,ZjW r (n*4294967296+x),ZjW r (0*4294967296+x),yal,show 32*(r.length+1)=32+32*r.length by omega,Nat.pow_add,Nat.zero_mul,
   yba,yaw, ←Nat.mul_assoc,Nat.add_assoc]
theorem ZE0:∀(l:List Nat),(∀x,x∈l→x < 4294967296)→pw 0 l < 2 ^ (32*l.length)
 |[],_=>by simp[pw]
 |x::r,h=>by
  have ih:=ZE0 r (λy hy=>h y (List.mem_cons_of_mem _ hy));have hx:=h x (List.mem_cons_self ..);rw[show pw 0 (x::r)=pw (0*4294967296+x) r from rfl,ZjW,yal,show 32*(r.length+1)=32+32*r.length by omega,Nat.pow_add,Nat.zero_mul,yba]
  have:(x+1)*2 ^ (32*r.length)≤2 ^ 32*2 ^ (32*r.length):=yce _ (by omega);rw[yaw,Nat.one_mul] at this;omega
theorem ZE1{n x s:Nat}{r:List Nat}(h:∀y,y∈r→y < 4294967296)(hs:s=32*r.length):yaj (pw n (x::r)) s=n*4294967296+x:=by
 subst hs;rw[show yaj (pw n (x::r)) (32*r.length)=pw n (x::r) >>> (32*r.length) from rfl,Nat.shiftRight_eq_div_pow]
 exact Zw7 r (n*4294967296+x) h
theorem ZE2{n x s:Nat}{r:List Nat}(hx:x < 4294967296)(h:∀y,y∈r→y < 4294967296)(hs:s=32*r.length):lo (yaj (pw n (x::r)) s)=x:=by
 rw[ZE1 h hs];show(n*4294967296+x) % 4294967296=x;omega
theorem Zw8(n:Nat)(l r:List Nat):pw n (l++r)=pw (pw n l) r:=List.foldl_append ..
theorem ZyA(n x:Nat)(r:List Nat):pw n (x::r)=pw (n*4294967296+x) r:=rfl
theorem Zdo{v l r:List Nat}{x s:Nat}(e:v=l++x::r)(h:∀y,y∈v→y < 4294967296)(hs:s=32*r.length):lo (yaj (pw 0 v) s)=x:=by
 rw[e] at h ⊢;rw[Zw8];exact ZE2 (h x (by simp)) (λy hy=>h y (by simp[hy])) hs
def wd(ws:List Nat)(n:Nat):Nat:=if h:n < 16 then lo (ws.getD n 0) else lo (wd ws (n - 16)+s0 (wd ws (n - 15))+wd ws (n - 7)+s1 (wd ws (n - 2)))
termination_by n
decreasing_by all_goals omega
theorem ZHb(ws:List Nat)(n:Nat):wd ws n < 4294967296:=by
 rw[wd];split <;> exact ZEZ _
theorem ZyB(ws:List Nat)(n:Nat):wd ws (n+16)=lo (wd ws n+s0 (wd ws (n+1))+wd ws (n+9)+s1 (wd ws (n+14))):=by
 rw[wd,dif_neg (by omega)];simp only[Nat.add_sub_cancel,show n+16 - 15=n+1 by omega,show n+16 - 7=n+9 by omega,show n+16 - 2=n+14 by omega]
def win(ws:List Nat)(i:Nat):List Nat:=[wd ws i,wd ws (i+1),wd ws (i+2),wd ws (i+3),wd ws (i+4),wd ws (i+5),wd ws (i+6),wd ws (i+7),wd ws (i+8),wd ws (i+9),wd ws (i+10),wd ws (i+11),wd ws (i+12),wd ws (i+13),wd ws (i+14),wd ws (i+15)]
theorem Zw9{ws:List Nat}{i:Nat}{l:List Nat}(h:∀x,x∈l→∃j,x=wd ws j):∀x,x∈l→x < 4294967296:=λx hx=>by
 obtain⟨j,rfl⟩:=h x hx;exact ZHb _ _
theorem ZyC(ws:List Nat)(i:Nat):yaj (pw 0 (win ws i)) 480=wd ws i:=by
 have h:=ZE1 (n:=0) (x:=wd ws i) (s:=480) (r:=(win ws i).tail) (Zw9 (ws:=ws) (i:=i) (λx hx=>by
  simp only[win,List.tail_cons,yax,yci,or_false] at hx;rcases hx with h|h|h|h|h|h|h|h|h|h|h|h|h|h|h <;> exact⟨_,h⟩)) rfl
 rw[Nat.zero_mul,yba] at h;exact h
theorem ZGk(ws:List Nat)(i:Nat):kw (pw 0 (win ws i))=wd ws (i+16):=by
 have key:∀(l r:List Nat)(x s:Nat),win ws i=l++x::r→s=32*r.length→lo (yaj (pw 0 (win ws i)) s)=x:=by
  intro l r x s e hs
  have hall:∀y,y∈win ws i→y < 4294967296:=Zw9 (i:=i) λx hx=>by
   simp only[win,yax,yci,or_false] at hx;rcases hx with h|h|h|h|h|h|h|h|h|h|h|h|h|h|h|h <;> exact⟨_,h⟩
  rw[e] at hall ⊢;rw[Zw8];exact ZE2 (hall x (by simp)) (λy hy=>hall y (by simp[hy])) hs
 unfold kw;rw[ZyC,key [_] _ (wd ws (i+1)) 448 rfl rfl,key [_,_,_,_,_,_,_,_,_] _ (wd ws (i+9)) 192 rfl rfl,key [_,_,_,_,_,_,_,_,_,_,_,_,_,_] _ (wd ws (i+14)) 32 rfl rfl,ZyB];rfl
theorem ZEo(a b m:Nat)(h:b < 2 ^ m):Nat.mod (a*2 ^ m+b) (Nat.pow 2 m)=b:=by
 show(a*2 ^ m+b) % 2 ^ m=b;rw[ybs,Nat.mul_add_mod];exact yas h
theorem ZGl(ws:List Nat)(i:Nat):kn (pw 0 (win ws i))=pw 0 (win ws (i+1)):=by
 have e:yx (Nat.mul (pw 0 (win ws i)) 4294967296) (kw (pw 0 (win ws i)))=pw (wd ws i) (win ws (i+1)):=by
  rw[ZGk];show pw 0 (win ws i)*4294967296+wd ws (i+16)=pw (wd ws i) (win ws (i+1));rw[show wd ws i=0*4294967296+wd ws i by omega];rfl
 unfold kn;rw[e,ZjW];have hl:(win ws (i+1)).length=16:=rfl
 have hlt:=ZE0 (win ws (i+1)) (Zw9 (i:=i+1) λx hx=>by
  simp only[win,yax,yci,or_false] at hx;rcases hx with h|h|h|h|h|h|h|h|h|h|h|h|h|h|h|h <;> exact⟨_,h⟩)
 rw[show 512=32*(win ws (i+1)).length by rw[hl]];exact ZEo _ _ _ hlt
def rnd(v:List Nat)(k w:Nat):List Nat:=match v with
 |[a,b,c,d,e,f,g,h]=>[lo (yx (yx (yx (yx (yx (yx h (S1 e)) (ch e f g)) k) w) (S0 a)) (mj a b c)),a,b,c,lo (yx d (yx (yx (yx (yx h (S1 e)) (ch e f g)) k) w)),e,f,g]
 |_=>[]
def rs(ws v:List Nat):Nat→List Nat
 |0=>v
 |i+1=>rnd (rs ws v i) (ks.getD i 0) (wd ws i)
theorem ZEp{v:List Nat}(h:v.length=8)(k w:Nat):(rnd v k w).length=8:=by
 match v,h with
 |[a,b,c,d,e,f,g,h],_=>rfl
theorem ZsY{ws v:List Nat}(h:v.length=8):∀i,(rs ws v i).length=8
 |0=>h
 |i+1=>ZEp (ZsY h i) _ _
noncomputable def ZCt(f:Nat→Nat→Nat→Nat→Nat→Nat→Nat→Nat→Nat)(v:List Nat):Nat:=match v with
 |[a,b,c,d,e,f',g,h]=>f a b c d e f' g h
 |_=>0
theorem Zho{F:Nat→Nat→Nat→Nat→Nat→Nat→Nat→Nat→Nat}{a b c d e f g h:Nat}:ZCt F [a,b,c,d,e,f,g,h]=F a b c d e f g h:=rfl
theorem ZCu(k:Nat)(l:List Nat)(K:Nat→Nat→Nat→Nat→Nat→Nat→Nat→Nat→Nat):kgo (k::l) K=kst k (kgo l K):=rfl
theorem Zve(a b c d e f g h k w:Nat):rnd [a,b,c,d,e,f,g,h] k w=[lo (yx (yx (yx (yx (yx (yx h (S1 e)) (ch e f g)) k) w) (S0 a)) (mj a b c)),a,b,c,lo (yx d (yx (yx (yx (yx h (S1 e)) (ch e f g)) k) w)),e,f,g]:=rfl
theorem ZGm(k:Nat)(ih:Nat→Nat→Nat→Nat→Nat→Nat→Nat→Nat→Nat→Nat)(W a b c d e f g h:Nat):kst k ih W a b c d e f g h=
 ih (kn W) (lo (yx (yx (yx (yx (yx (yx h (S1 e)) (ch e f g)) k) (yaj W 480)) (S0 a)) (mj a b c))) a b c (lo (yx d (yx (yx (yx (yx h (S1 e)) (ch e f g)) k) (yaj W 480)))) e f g:=by
 unfold kst;rw[YT,YT,YT,YT]
theorem ZCv{ws v:List Nat}{K:Nat→Nat→Nat→Nat→Nat→Nat→Nat→Nat→Nat}{k w:Nat}{l:List Nat}(hv:v.length=8){W:Nat}(hW:yaj W 480=w):ZCt (kgo (k::l) K W) v=ZCt (kgo l K (kn W)) (rnd v k w):=by
 match v,hv with
 |[a,b,c,d,e,f,g,h],_=>
  rw[ZCu,Zho,ZGm,hW,Zve,Zho]
theorem ZyD{ws v:List Nat}{K:Nat→Nat→Nat→Nat→Nat→Nat→Nat→Nat→Nat}(hv:v.length=8):∀(m i:Nat),i+m=64→ZCt (kgo (ks.drop i) K (pw 0 (win ws i))) (rs ws v i)=ZCt K (rs ws v 64)
 |0,i,h=>by
  have e:i=64:=by omega
  subst e;rw[show ks.drop 64=[] from rfl]
  generalize pw 0 (win ws 64)=W
  rfl
 |m+1,i,h=>by
  have hi:i < ks.length:=by show i < 64;omega
  rw[List.drop_eq_getElem_cons hi,ZCv (ws:=ws) (ZsY hv i) (ZyC ws i),ZGl];have:=ZyD (ws:=ws) (K:=K) hv m (i+1) (by omega);rw[show rs ws v (i+1)=rnd (rs ws v i) (ks.getD i 0) (wd ws i) from rfl,show ks.getD i 0=ks[i] by rw[yda,List.getElem?_eq_getElem hi];rfl] at this
  exact this
def ZjX(v ws:List Nat):List Nat:=List.zipWith (λx y=>lo (x+y)) (rs ws v 64) v
theorem ZgC{v ws:List Nat}(h:v.length=8):(ZjX v ws).length=8:=by
 rw[ZjX,List.length_zipWith,ZsY h,h];rfl
theorem ZyE{v ws:List Nat}:∀x,x∈ZjX v ws→x < 4294967296:=by
 intro x hx;unfold ZjX at hx;rw[List.mem_iff_getElem] at hx;obtain⟨i,hi,rfl⟩:=hx;rw[List.getElem_zipWith];exact ZEZ _
theorem ZEq{v ws:List Nat}(hv:v.length=8)(hlt:∀x,x∈v→x < 4294967296)(hw:ws.length=16)(hwl:∀x,x∈ws→x < 4294967296):ZEn (pw 0 v) (pw 0 ws)=pw 0 (ZjX v ws):=by
 have e0:ws=win ws 0:=by
  match ws,hw with
  |[a0,a1,a2,a3,a4,a5,a6,a7,a8,a9,a10,a11,a12,a13,a14,a15],_=>
   simp only[yax,yci,or_false,forall_eq_or_imp,forall_eq] at hwl;obtain⟨h0,h1,h2,h3,h4,h5,h6,h7,h8,h9,h10,h11,h12,h13,h14,h15⟩:=hwl;have hs:∀n,n < 16→wd [a0,a1,a2,a3,a4,a5,a6,a7,a8,a9,a10,a11,a12,a13,a14,a15] n=lo ([a0,a1,a2,a3,a4,a5,a6,a7,a8,a9,a10,a11,a12,a13,a14,a15].getD n 0):=λn hn=>by rw[wd,dif_pos hn]
   unfold win;rw[hs 0 (by omega),hs (0+1) (by omega),hs (0+2) (by omega),hs (0+3) (by omega),hs (0+4) (by omega),hs (0+5) (by omega),hs (0+6) (by omega),hs (0+7) (by omega),hs (0+8) (by omega),hs (0+9) (by omega),hs (0+10) (by omega),hs (0+11) (by omega),hs (0+12) (by omega),hs (0+13) (by omega),hs (0+14) (by omega),hs (0+15) (by omega)];show _=[lo a0,lo a1,lo a2,lo a3,lo a4,lo a5,lo a6,lo a7,lo a8,lo a9,lo a10,lo a11,lo a12,lo a13,lo a14,lo a15];rw[QL h0,QL h1,QL h2,QL h3,QL h4,QL h5,QL h6,QL h7,QL h8,QL h9,QL h10,QL h11,QL h12,QL h13,QL h14,QL h15]
 match v,hv with
 |[a,b,c,d,e,f,g,h],hv=>
  have ea:w32 (pw 0 [a,b,c,d,e,f,g,h]) 224=a:=Zdo (l:=[]) (r:=[b,c,d,e,f,g,h]) rfl hlt rfl;have eb:w32 (pw 0 [a,b,c,d,e,f,g,h]) 192=b:=Zdo (l:=[a]) (r:=[c,d,e,f,g,h]) rfl hlt rfl;have ec:w32 (pw 0 [a,b,c,d,e,f,g,h]) 160=c:=Zdo (l:=[a,b]) (r:=[d,e,f,g,h]) rfl hlt rfl;have ed:w32 (pw 0 [a,b,c,d,e,f,g,h]) 128=d:=Zdo (l:=[a,b,c]) (r:=[e,f,g,h]) rfl hlt rfl;have ee:w32 (pw 0 [a,b,c,d,e,f,g,h]) 96=e:=Zdo (l:=[a,b,c,d]) (r:=[f,g,h]) rfl hlt rfl;have ef:w32 (pw 0 [a,b,c,d,e,f,g,h]) 64=f:=Zdo (l:=[a,b,c,d,e]) (r:=[g,h]) rfl hlt rfl;have eg:w32 (pw 0 [a,b,c,d,e,f,g,h]) 32=g:=Zdo (l:=[a,b,c,d,e,f]) (r:=[h]) rfl hlt rfl;have eh:w32 (pw 0 [a,b,c,d,e,f,g,h]) 0=h:=Zdo (l:=[a,b,c,d,e,f,g]) (r:=[]) rfl hlt rfl;unfold ZEn;rw[ea,eb,ec,ed,ee,ef,eg,eh,YT,YT,YT,YT,YT,YT,YT,YT];have hr:=ZyD (ws:=ws) (v:=[a,b,c,d,e,f,g,h]) (K:=λa' b' c' d' e' f' g' h'=>cat (cat (cat (cat (cat (cat (cat (cat 0 (yx a' a)) (yx b' b)) (yx c' c)) (yx d' d)) (yx e' e)) (yx f' f)) (yx g' g)) (yx h' h)) rfl 64 0 rfl;rw[←e0,show ks.drop 0=ks from rfl,show rs ws [a,b,c,d,e,f,g,h] 0=[a,b,c,d,e,f,g,h] from rfl,Zho] at hr
  rw[hr];unfold ZjX;generalize rs ws [a,b,c,d,e,f,g,h] 64=q,ZsY (ws:=ws) hv 64=hq
  match q,hq with
  |[a',b',c',d',e',f',g',h'],_=>
   rw[Zho];simp only[List.zipWith_cons_cons,List.zipWith_nil_right,ZyA,cat];rfl
theorem Zm3(x:Nat)(l:List Nat)(n:Nat):pk (x::l) n=pk l (n*256+x):=by
 show Vt (yx (Nat.mul n 256) x) (pk l)=_;rw[YT];rfl
def YQ:List Nat→List Nat
 |a::b::c::d::r=>(((a*256+b)*256+c)*256+d)::YQ r
 |_=>[]
theorem Zvf:∀(m:Nat)(l:List Nat)(n:Nat),l.length=4*m→pk l n=pw n (YQ l)
 |0,[],n,_=>rfl
 |0,_::_,_,h=>by simp at h
 |m+1,[],_,h=>by simp at h
 |m+1,[_],_,h=>by simp at h;omega
 |m+1,[_,_],_,h=>by simp at h;omega
 |m+1,[_,_,_],_,h=>by simp at h;omega
 |m+1,a::b::c::d::r,n,h=>by
  rw[Zm3,Zm3,Zm3,Zm3,YQ];rw[Zvf m r _ (by simp at h;omega),ZyA];have e:(((n*256+a)*256+b)*256+c)*256+d=n*4294967296+(((a*256+b)*256+c)*256+d):=by omega
  rw[e]
theorem ZlW:∀(m:Nat)(l:List Nat),l.length=4*m→(YQ l).length=m
 |0,[],_=>rfl
 |0,_::_,h=>by simp at h
 |m+1,[],h=>by simp at h
 |m+1,[_],h=>by simp at h;omega
 |m+1,[_,_],h=>by simp at h;omega
 |m+1,[_,_,_],h=>by simp at h;omega
 |m+1,a::b::c::d::r,h=>by
  rw[YQ,yal,ZlW m r (by simp at h;omega)]
theorem ZoP:∀(m:Nat)(l:List Nat),l.length=4*m→(∀x,x∈l→x < 256)→∀x,x∈YQ l→x < 4294967296
 |0,[],_,_,x,hx=>by simp[YQ] at hx
 |0,_::_,h,_,_,_=>by simp at h
 |m+1,[],h,_,_,_=>by simp at h
 |m+1,[_],h,_,_,_=>by simp at h;omega
 |m+1,[_,_],h,_,_,_=>by simp at h;omega
 |m+1,[_,_,_],h,_,_,_=>by simp at h;omega
 |m+1,a::b::c::d::r,h,hl,x,hx=>by
  rw[YQ] at hx;have h1:=hl a (by simp);have h2:=hl b (by simp);have h3:=hl c (by simp);have h4:=hl d (by simp);rcases yax.1 hx with rfl|hx
  ·omega
  ·exact ZoP m r (by simp at h;omega) (λy hy=>hl y (by simp[hy])) x hx
theorem ZlX:∀(i:Nat)(l:List Nat)(a b c d:Nat),l[4*i]? =some a→l[4*i+1]? =some b→l[4*i+2]? =some c→l[4*i+3]? =some d→(YQ l)[i]? =some (((a*256+b)*256+c)*256+d)
 |0,[],_,_,_,_,h,_,_,_=>by simp at h
 |0,[_],_,_,_,_,_,h,_,_=>by simp at h
 |0,[_,_],_,_,_,_,_,_,h,_=>by simp at h
 |0,[_,_,_],_,_,_,_,_,_,_,h=>by simp at h
 |0,a::b::c::d::r,_,_,_,_,h1,h2,h3,h4=>by
  simp at h1 h2 h3 h4;subst h1 h2 h3 h4
  rfl
 |i+1,[],_,_,_,_,h,_,_,_=>by simp at h
 |i+1,[_],_,_,_,_,h,_,_,_=>by simp[show 4*(i+1)=4*i+3+1 by omega] at h
 |i+1,[_,_],_,_,_,_,h,_,_,_=>by simp[show 4*(i+1)=4*i+2+1+1 by omega] at h
 |i+1,[_,_,_],_,_,_,_,h,_,_,_=>by simp[show 4*(i+1)=4*i+1+1+1+1 by omega] at h
 |i+1,a::b::c::d::r,_,_,_,_,h1,h2,h3,h4=>by
  rw[YQ,yay]
  exact ZlX i r _ _ _ _ (by simpa[show 4*(i+1)=4*i+1+1+1+1 by omega] using h1) (by simpa[show 4*(i+1)+1=4*i+1+1+1+1+1 by omega] using h2)
   (by simpa[show 4*(i+1)+2=4*i+2+1+1+1+1 by omega] using h3) (by simpa[show 4*(i+1)+3=4*i+3+1+1+1+1 by omega] using h4)
def Zem:Nat→List Nat→List Nat→List Nat
 |0,_,v=>v
 |n+1,l,v=>Zem n (l.drop 64) (ZjX v (YQ (l.take 64)))
theorem ZyF:∀(n:Nat)(l v:List Nat),l.length=64*n→(∀x,x∈l→x < 256)→v.length=8→(∀x,x∈v→x < 4294967296)→ZGi n l (pw 0 v)=pw 0 (Zem n l v)
 |0,l,v,_,_,_,_=>rfl
 |n+1,l,v,h1,h2,h3,h4=>by
  show Vt (ZEn (pw 0 v) (pk (l.take 64) 0)) (ZGi n (l.drop 64))=_;have hl:(l.take 64).length=4*16:=by rw[yah];omega
  rw[YT,Zvf 16 _ 0 hl,ZEq h3 h4 (ZlW 16 _ hl) (ZoP 16 _ hl λx hx=>h2 x (List.mem_of_mem_take hx))];exact ZyF n (l.drop 64) _ (by rw[ybv];omega) (λx hx=>h2 x (List.mem_of_mem_drop hx)) (ZgC h3) ZyE
theorem Zvg:∀(n:Nat)(l v:List Nat),v.length=8→(Zem n l v).length=8
 |0,_,_,h=>h
 |n+1,l,v,h=>Zvg n _ _ (ZgC h)
theorem ZyG:∀(n:Nat)(l v:List Nat),(∀x,x∈v→x < 4294967296)→∀x,x∈Zem n l v→x < 4294967296
 |0,_,_,h=>h
 |n+1,l,v,h=>ZyG n _ _ ZyE
theorem ZoQ:∀(n m:Nat)(l r v:List Nat),l.length=64*n→Zem (n+m) (l++r) v=Zem m r (Zem n l v)
 |0,m,l,r,v,h=>by
  have:l=[]:=List.length_eq_zero_iff.1 (by omega);subst this;rw[yba]
  rfl
 |n+1,m,l,r,v,h=>by
  rw[show n+1+m=(n+m)+1 by omega,Zem,List.drop_append_of_le_length (by omega),List.take_append_of_le_length (by omega),ZoQ n m _ r _ (by rw[ybv];omega)];rfl
theorem Zk1:∀(c:Nat)(l v:List Nat),Zem (c+1) l v=ZjX (Zem c l v) (YQ ((l.drop (64*c)).take 64))
 |0,l,v=>by rw[Nat.mul_zero,List.drop_zero];rfl
 |c+1,l,v=>by
  rw[show Zem (c+1+1) l v=Zem (c+1) (l.drop 64) (ZjX v (YQ (l.take 64))) from rfl,Zk1 c,List.drop_drop,show 64+64*c=64*(c+1) by omega]
  rfl
theorem ZCw(ws:List Nat){n x:Nat}(hn:n < 16)(h:ws[n]? =some x)(hx:x < 4294967296):wd ws n=x:=by
 rw[wd,dif_pos hn,yda,h];exact QL hx
def ZCx(v:List Nat)(k:Nat):UInt8:=ybd (v.getD (k / 4) 0 / 2 ^ (24 - 8*(k % 4)))
theorem ZEr{v:List Nat}(hv:v.length=8)(hlt:∀x,x∈v→x < 4294967296):outs (pw 0 v) Zw6=(List.range 32).map (ZCx v):=by
 have hgo:∀(H:Nat)(l:List Nat),outs H l=l.map λs=>ybd (H / 2 ^ s % 256):=by
  intro H l
  induction l with
  |nil=>rfl
  |cons s r ih=>
   show Vt (Nat.mod (yaj H s) 256) (λx=>ybd x::outs H r)=_;rw[YT,ih,yaa,show yaj H s=H >>> s from rfl,Nat.shiftRight_eq_div_pow]
   rfl
 have hb:∀(l r:List Nat)(x j s:Nat),v=l++x::r→j≤24→s=32*r.length+j→ybd (pw 0 v / 2 ^ s % 256)=ybd (x / 2 ^ j):=by
  intro l r x j s e hj hs;have hall:=hlt;rw[e] at hall
  have h1:pw 0 v / 2 ^ (32*r.length)=pw 0 l*4294967296+x:=by
   rw[e,Zw8];exact Zw7 r _ (λy hy=>hall y (by simp[hy]))
  rw[hs,Nat.pow_add, ←Nat.div_div_eq_div_mul,h1]
  have h2:pw 0 l*4294967296+x=2 ^ j*(pw 0 l*2 ^ (24 - j)*256)+x:=by
   rw[show(4294967296:Nat)=2 ^ j*2 ^ (24 - j)*256 by rw[←Nat.pow_add,show j+(24 - j)=24 by omega]];congr 1;ac_rfl
  rw[h2,Nat.mul_add_div (Nat.two_pow_pos j),ybs (pw 0 l*2 ^ (24 - j)) 256,Nat.mul_add_mod];exact UInt8.toNat_inj.1 (by simp)
 match v,hv with
 |[a,b,c,d,e,f,g,h],_=>
  rw[hgo];simp only[Zw6,yaa,ycc]
  rw[hb [] [b,c,d,e,f,g,h] a 24 248 rfl (by omega) rfl,hb [] [b,c,d,e,f,g,h] a 16 240 rfl (by omega) rfl,hb [] [b,c,d,e,f,g,h] a 8 232 rfl (by omega) rfl,hb [] [b,c,d,e,f,g,h] a 0 224 rfl (by omega) rfl,
   hb [a] [c,d,e,f,g,h] b 24 216 rfl (by omega) rfl,hb [a] [c,d,e,f,g,h] b 16 208 rfl (by omega) rfl,hb [a] [c,d,e,f,g,h] b 8 200 rfl (by omega) rfl,hb [a] [c,d,e,f,g,h] b 0 192 rfl (by omega) rfl,
   hb [a,b] [d,e,f,g,h] c 24 184 rfl (by omega) rfl,hb [a,b] [d,e,f,g,h] c 16 176 rfl (by omega) rfl,hb [a,b] [d,e,f,g,h] c 8 168 rfl (by omega) rfl,hb [a,b] [d,e,f,g,h] c 0 160 rfl (by omega) rfl,
   hb [a,b,c] [e,f,g,h] d 24 152 rfl (by omega) rfl,hb [a,b,c] [e,f,g,h] d 16 144 rfl (by omega) rfl,hb [a,b,c] [e,f,g,h] d 8 136 rfl (by omega) rfl,hb [a,b,c] [e,f,g,h] d 0 128 rfl (by omega) rfl,
   hb [a,b,c,d] [f,g,h] e 24 120 rfl (by omega) rfl,hb [a,b,c,d] [f,g,h] e 16 112 rfl (by omega) rfl,hb [a,b,c,d] [f,g,h] e 8 104 rfl (by omega) rfl,hb [a,b,c,d] [f,g,h] e 0 96 rfl (by omega) rfl,
   hb [a,b,c,d,e] [g,h] f 24 88 rfl (by omega) rfl,hb [a,b,c,d,e] [g,h] f 16 80 rfl (by omega) rfl,hb [a,b,c,d,e] [g,h] f 8 72 rfl (by omega) rfl,hb [a,b,c,d,e] [g,h] f 0 64 rfl (by omega) rfl,
   hb [a,b,c,d,e,f] [h] g 24 56 rfl (by omega) rfl,hb [a,b,c,d,e,f] [h] g 16 48 rfl (by omega) rfl,hb [a,b,c,d,e,f] [h] g 8 40 rfl (by omega) rfl,hb [a,b,c,d,e,f] [h] g 0 32 rfl (by omega) rfl,
   hb [a,b,c,d,e,f,g] [] h 24 24 rfl (by omega) rfl,hb [a,b,c,d,e,f,g] [] h 16 16 rfl (by omega) rfl,hb [a,b,c,d,e,f,g] [] h 8 8 rfl (by omega) rfl,hb [a,b,c,d,e,f,g] [] h 0 0 rfl (by omega) rfl]
  rfl
def Ze3(l:List UInt8):List Nat:=l.map ybj++(128::(yae (zs l.length) 0++be8 (8*l.length)))
def Ze4:List Nat:=[1779033703,3144134277,1013904242,2773480762,1359893119,2600822924,528734635,1541459225]
theorem Zxa(l:List UInt8):(Ze3 l).length=64*((l.length+72) / 64):=by
 unfold Ze3;simp only[yr,yw,yal,yct,be8,List.length_nil,zs];omega
theorem ZzZ(l:List UInt8):∀x,x∈Ze3 l→x < 256:=by
 intro x hx;unfold Ze3 at hx;simp only[List.mem_append,List.mem_map,yax,List.mem_replicate,be8,yci,or_false] at hx;rcases hx with⟨y,_,rfl⟩|rfl|⟨_,rfl⟩|h
 ·exact y.toNat_lt
 ·omega
 ·omega
 ·rcases h with h|h|h|h|h|h|h|h <;> rw[h] <;> exact ybq _ (by omega)
theorem ZCy(l:List UInt8):sha l=(List.range 32).map (ZCx (Zem ((l.length+72) / 64) (Ze3 l) Ze4)):=by
 unfold sha
 rw[YT,YT,show H0=pw 0 Ze4 from rfl,show l.map ybj++(128::(yae (zs l.length) 0++be8 (8*l.length)))=Ze3 l from rfl,
  show Nat.div (yx l.length 72) 64=(l.length+72) / 64 from rfl]
 have hf:∀x,x∈Ze4→x < 4294967296:=by decide
 rw[ZyF _ _ _ (Zxa l) (ZzZ l) rfl hf];exact ZEr (Zvg _ _ _ rfl) (ZyG _ _ _ hf)
theorem ZHA(l:List UInt8):(sha l).length=32:=by rw[ZCy];simp
end Go.Sha
end
section
set_option maxRecDepth 4000
namespace Go.Proofs.YtkapgdbeeblihaaGreat
open Go Go.Ev Go.Sha
theorem ZdR(x:UInt32)(n k:Nat)(h:n+k=32)(hn:0 < n){z:Int}(hz:((w64 z)&&&31).toNat=k):∃o,ZF fuel x z=some o∧o.toNat=lo (yaj (dbl x.toNat) n):=by
 refine⟨_,rfl, ?_⟩;have e1:((((w64 z)&&&31).toNat:Int)).toNat=k:=by rw[hz];rfl
 have e2:(32 - ((w64 z)&&&31)).toNat=n:=by
  have h1:((w64 z)&&&31)=yai k:=ycq.1 (by rw[hz,ybg];omega);rw[h1,UInt64.toNat_sub,ybg];show(2 ^ 64 - k % 2 ^ 64+32) % 2 ^ 64=n;omega
 rw[e1,show((((32 - ((w64 z)&&&31)).toNat:Nat):Int)).toNat=n by rw[e2];rfl,Nat.min_eq_left (by omega),Nat.min_eq_left (by omega)];exact ZHa x h hn
theorem ZGn{l:List UInt8}{a b c d:UInt8}(ha:l[0]? =some a)(hb:l[1]? =some b)(hc:l[2]? =some c)(hd:l[3]? =some d):∃o,ZbB fuel l=some o∧o.toNat=((a.toNat*256+b.toNat)*256+c.toNat)*256+d.toNat:=by
 unfold ZbB;rw[ZeV (i:=0) (by omega) ha,ZeV (i:=1) (by omega) hb,ZeV (i:=2) (by omega) hc,ZeV (i:=3) (by omega) hd];refine⟨_,rfl, ?_⟩;have h1:=a.toNat_lt;have h2:=b.toNat_lt;have h3:=c.toNat_lt;have h4:=d.toNat_lt
 have hs:∀(x:UInt8)(n:Nat),n≤24→(Zgg (UInt32.ofNat x.toNat) n).toNat=x.toNat*2 ^ n:=by
  intro x n hn;have hx:=x.toNat_lt;unfold Zgg;rw[ycv,ycv,yas (a:=x.toNat) (by omega)];refine yas ?_
  calc x.toNat*2 ^ n < 2 ^ 8*2 ^ n:=Nat.mul_lt_mul_of_pos_right hx (Nat.two_pow_pos n)
   _=2 ^ (8+n):=(Nat.pow_add ..).symm
   _≤2 ^ 32:=Nat.pow_le_pow_right (by omega) (by omega)
 rw[ZzY,ZzY,ZzY,hs _ _ (by omega),hs _ _ (by omega),hs _ _ (by omega),ycv,yas (a:=d.toNat) (by omega)]
 have k1:Nat.lor (a.toNat*2 ^ 24) (b.toNat*2 ^ 16)=2 ^ 16*(a.toNat*256+b.toNat):=by
  rw[ybs a.toNat,show Nat.lor (2 ^ 24*a.toNat) (b.toNat*2 ^ 16)=2 ^ 24*a.toNat|||b.toNat*2 ^ 16 from rfl, ←Nat.two_pow_add_eq_or_of_lt (by omega)]
  omega
 have k2:Nat.lor (2 ^ 16*(a.toNat*256+b.toNat)) (c.toNat*2 ^ 8)=2 ^ 8*((a.toNat*256+b.toNat)*256+c.toNat):=by
  rw[show Nat.lor (2 ^ 16*(a.toNat*256+b.toNat)) (c.toNat*2 ^ 8)=2 ^ 16*(a.toNat*256+b.toNat)|||c.toNat*2 ^ 8 from rfl, ←Nat.two_pow_add_eq_or_of_lt (by omega)]
  omega
 rw[k1,k2,show Nat.lor (2 ^ 8*((a.toNat*256+b.toNat)*256+c.toNat)) d.toNat=2 ^ 8*((a.toNat*256+b.toNat)*256+c.toNat)|||d.toNat from rfl, ←Nat.two_pow_add_eq_or_of_lt (by omega)]
 omega
theorem ZCz{l:List UInt8}(h:l.length=64):∃o,Qq fuel l=some o∧o.length=64∧∀(i:Nat)x,i < 64→o[i]? =some x→x.toNat=wd (YQ (l.map ybj)) i:=by
 unfold Qq;generalize hz:([0,0,0,0,0,0,0,0,0,0,0,0,0,0,0,0,0,0,0,0,0,0,0,0,0,0,0,0,0,0,0,0,0,0,0,0,0,0,0,0,0,0,0,0,0,0,0,0,0,0,0,0,0,0,0,0,0,0,0,0,0,0,0,0]:List UInt32)=z;have hzl:z.length=64:=by rw[←hz];rfl
 refine Exists.elim (XD (step:=WM fuel) (λs=>s.1=l∧0≤s.2.1∧s.2.1≤64∧s.2.2.length=64∧∀(j:Nat)x,(j:Int) < s.2.1→s.2.2[j]? =some x→x.toNat=wd (YQ (l.map ybj)) j) (λs=>(64 - s.2.1).toNat)
  (λo=>o.length=64∧∀(j:Nat)x,j < 64→o[j]? =some x→x.toNat=wd (YQ (l.map ybj)) j) ?_ (l,(0:Int),z) ⟨rfl,Int.le_refl _,by dsimp only;omega,hzl,λj x hj=>by dsimp only at hj;omega⟩ (by dsimp only;omega)) ?_
 rotate_left
 ·rintro o ⟨h1,h2⟩;exact⟨o,by rw[h1];rfl,h2⟩
 ·rintro⟨b,i,w⟩ ⟨hb,h0,h64,hw,hv⟩;dsimp only at hb h0 h64 hw hv;subst hb;unfold WM;dsimp only
  have hset:∀(y:UInt32),y.toNat=wd (YQ (b.map ybj)) i.toNat→i < 64→∀(j:Nat)x,(j:Int) < i+1→(w.set i.toNat y)[j]? =some x→x.toNat=wd (YQ (b.map ybj)) j:=by
   intro y hy hi j x hj hx;by_cases hji:j=i.toNat
   ·subst hji;rw[ycr (by omega)] at hx;cases hx;exact hy
   ·rw[List.getElem?_set_ne (Ne.symm hji)] at hx;exact hv j x (by omega) hx
  by_cases hi:i < 64
  ·left;rw[if_pos (decide_eq_true hi)];obtain⟨e,he⟩:=Qk (l:=w) (i:=i.toNat) (by omega);by_cases h16:i < 16
   ·rw[if_pos (decide_eq_true h16),ZH (z:=4*i) (by omega) (by omega),if_pos (by simp only[ZdL,yi,decide_eq_true_eq];omega)];have g:∀k:Nat,k < 4→∃x,b[4*i.toNat+k]? =some x:=λk hk=>Qk (by omega);obtain⟨x0,g0⟩:=g 0 (by omega);obtain⟨x1,g1⟩:=g 1 (by omega);obtain⟨x2,g2⟩:=g 2 (by omega);obtain⟨x3,g3⟩:=g 3 (by omega);have e4:(4*i).toNat=4*i.toNat:=by omega
    obtain⟨o,ho,hoe⟩:=ZGn (l:=b.drop (4*i).toNat) (by rw[List.getElem?_drop,e4];exact g0) (by rw[List.getElem?_drop,e4];exact g1) (by rw[List.getElem?_drop,e4];exact g2) (by rw[List.getElem?_drop,e4];exact g3);rw[ho,ya,if_pos (WS h0 (by omega)),he,ya,ZH (z:=i+1) (by omega) (by omega)];refine⟨_,rfl,⟨rfl,by dsimp only;omega,by dsimp only;omega,by dsimp only;rw[ybf];exact hw,hset o ?_ hi⟩,by dsimp only;omega⟩;have mg:∀(k:Nat)(x:UInt8),b[k]? =some x→(b.map ybj)[k]? =some x.toNat:=λk x hx=>by rw[yan,hx];rfl
    have hwg:=ZlX i.toNat (b.map ybj) _ _ _ _ (mg _ _ g0) (mg _ _ g1) (mg _ _ g2) (mg _ _ g3);rw[hoe];have b0:=x0.toNat_lt;have b1:=x1.toNat_lt;have b2:=x2.toNat_lt;have b3:=x3.toNat_lt;exact(ZCw _ (by omega) hwg (by omega)).symm
   ·rw[if_neg (by simpa using h16)];rw[ZH (z:=i - 15) (by omega) (by omega),ZH (z:=i - 2) (by omega) (by omega),ZH (z:=i - 16) (by omega) (by omega),ZH (z:=i - 7) (by omega) (by omega),ZH (z:=i+1) (by omega) (by omega)];obtain⟨e1,he1⟩:=Qk (l:=w) (i:=(i - 15).toNat) (by omega);obtain⟨e2,he2⟩:=Qk (l:=w) (i:=(i - 2).toNat) (by omega);obtain⟨e3,he3⟩:=Qk (l:=w) (i:=(i - 16).toNat) (by omega);obtain⟨e4,he4⟩:=Qk (l:=w) (i:=(i - 7).toNat) (by omega);have v1:=hv _ _ (by omega) he1;have v2:=hv _ _ (by omega) he2;have v3:=hv _ _ (by omega) he3;have v4:=hv _ _ (by omega) he4;rw[if_pos (WS (by omega) (by omega)),he1,ya,if_pos (WS (by omega) (by omega)),he2,ya];obtain⟨o1,ho1,p1⟩:=ZdR e1 7 25 rfl (by omega) (z:= -7) rfl;obtain⟨o2,ho2,p2⟩:=ZdR e1 18 14 rfl (by omega) (z:= -18) rfl;obtain⟨o3,ho3,p3⟩:=ZdR e2 17 15 rfl (by omega) (z:= -17) rfl;obtain⟨o4,ho4,p4⟩:=ZdR e2 19 13 rfl (by omega) (z:= -19) rfl;rw[ho1,ya,ho2,ya,ho3,ya,ho4,ya];rw[if_pos (WS (by omega) (by omega)),he3,ya,if_pos (WS (by omega) (by omega)),he4,ya]
    try dsimp only
    rw[if_pos (WS h0 (by omega)),he,ya];refine⟨_,rfl,⟨rfl,by dsimp only;omega,by dsimp only;omega,by dsimp only;rw[ybf];exact hw,hset _ ?_ hi⟩,by dsimp only;omega⟩;have hn:=ZyB (YQ (b.map ybj)) (i - 16).toNat
    rw[show(i - 16).toNat+16=i.toNat by omega,show(i - 16).toNat+1=(i - 15).toNat by omega,show(i - 16).toNat+9=(i - 7).toNat by omega,show(i - 16).toNat+14=(i - 2).toNat by omega, ←v1, ←v2, ←v3, ←v4] at hn;rw[hn];rw[ZgA,ZgA,ZgA,ZHE e1 p1 p2,ZHF e2 p3 p4];exact ZHK ..
  ·right;rw[if_neg (by simpa using hi)];exact⟨_,rfl,hw,λj x hj hx=>hv j x (by omega) hx⟩
theorem ZCA{st:List UInt32}{l:List UInt8}(hs:st.length=8)(h:l.length=64):∃o,Wr fuel st l=some o∧o.map ybn=ZjX (st.map ybn) (YQ (l.map ybj)):=by
 unfold Wr;obtain⟨w,hw,hwl,hwv⟩:=ZCz h;obtain⟨k,hk,hkv⟩:∃k,Zgx fuel=some k∧k.map ybn=ks:=⟨_,rfl,rfl⟩;have hkl:k.length=64:=by rw[←yw (f:=ybn),hkv];rfl
 generalize hws:YQ (l.map ybj)=ws at hwv;rw[hw,ya,hk,ya]
 refine Exists.elim (XD (step:=Wh fuel) (λs=>0≤s.1∧s.1≤64∧s.2.1=st∧s.2.2.2.1=w∧s.2.2.2.2.1=k∧s.2.2.2.2.2.length=8∧s.2.2.2.2.2.map ybn=rs ws (st.map ybn) s.1.toNat) (λs=>(64 - s.1).toNat)
  (λo=>o.1=st∧o.2.2.2.2.length=8∧o.2.2.2.2.map ybn=rs ws (st.map ybn) 64) ?_ ((0:Int),st,([0,0,0,0,0,0,0,0]:List UInt32),w,k,st) ⟨Int.le_refl _,by dsimp only;omega,rfl,rfl,rfl,hs,rfl⟩ (by dsimp only;omega)) ?_
 rotate_left
 ·rintro o ⟨h1,p0,p1,p2⟩;rw[h1,ya];have hml:(ZjX (st.map ybn) ws).length=8:=ZgC (by rw[yw];exact hs)
  refine Exists.elim (XD (step:=Wi fuel) (λs=>0≤s.1∧s.1≤8∧s.2.1=st∧s.2.2.2.2.2.length=8∧(∀(j:Nat)x,s.2.2.2.2.2[j]? =some x→if(j:Int) < s.1 then(ZjX (st.map ybn) ws)[j]? =some x.toNat else(rs ws (st.map ybn) 64)[j]? =some x.toNat)) (λs=>(8 - s.1).toNat)
   (λo=>o.2.2.2.2.map ybn=ZjX (st.map ybn) ws) ?_ ((0:Int),o.1,o.2.1,o.2.2.1,o.2.2.2.1,o.2.2.2.2) ⟨Int.le_refl _,by dsimp only;omega,p0,p1,λj x hx=>by
     dsimp only at hx ⊢;rw[if_neg (by omega), ←p2,yan,hx];rfl⟩ (by dsimp only;omega)) ?_
  rotate_left
  ·rintro q ⟨h2,q2⟩;rw[h2,ya];exact⟨_,rfl,q2⟩
  ·rintro⟨i,a,b,c,d,e⟩ ⟨h0,h8,ha,he,hv⟩;dsimp only at h0 h8 ha he hv;subst ha;unfold Wi;dsimp only;by_cases hi:i < 8
   ·left;obtain⟨e1,he1⟩:=Qk (l:=e) (i:=i.toNat) (by omega);obtain⟨e2,he2⟩:=Qk (l:=a) (i:=i.toNat) (by omega);simp only[decide_eq_true hi,if_true,WS h0 (show i < ((8:Nat):Int) by omega),he1,he2,ya];rw[ZH (z:=i+1) (by omega) (by omega)];refine⟨_,rfl,⟨by dsimp only;omega,by dsimp only;omega,rfl,by dsimp only;rw[ybf];exact he, ?_⟩,by dsimp only;omega⟩;intro j x hx;dsimp only at hx ⊢;by_cases hji:j=i.toNat
    ·subst hji;rw[ycr (by omega)] at hx;cases hx;rw[if_pos (by omega),ZgA];have k1:=hv _ _ he1;rw[if_neg (by omega)] at k1;unfold ZjX;rw[List.getElem?_zipWith,k1,yan,he2];rfl
    ·rw[List.getElem?_set_ne (Ne.symm hji)] at hx;have k1:=hv j x hx;by_cases hj:(j:Int) < i
     ·rw[if_pos hj] at k1;rw[if_pos (by omega)];exact k1
     ·rw[if_neg hj] at k1;rw[if_neg (by omega)];exact k1
   ·right;rw[if_neg (by simpa using hi)];refine⟨_,rfl, ?_⟩;dsimp only;apply List.ext_getElem?;intro j;rw[yan];by_cases hj:j < 8
    ·obtain⟨x,hx⟩:=Qk (l:=e) (i:=j) (by omega);have:=hv j x hx;rw[if_pos (by omega)] at this;rw[hx,this];rfl
    ·rw[yaq (by omega),yaq (by omega)];rfl
 ·rintro⟨i,a,b,c,d,e⟩ ⟨h0,h64,ha,hc,hd,he,hv⟩;dsimp only at h0 h64 ha hc hd he hv;subst ha hc hd;unfold Wh;dsimp only;by_cases hi:i < 64
  ·left
   match e,he,hv with
   |[x0,x1,x2,x3,x4,x5,x6,x7],_,hv=>
    obtain⟨e1,he1⟩:=Qk (l:=d) (i:=i.toNat) (by omega);obtain⟨e2,he2⟩:=Qk (l:=c) (i:=i.toNat) (by omega);obtain⟨o1,ho1,p1⟩:=ZdR x4 6 26 rfl (by omega) (z:= -6) rfl;obtain⟨o2,ho2,p2⟩:=ZdR x4 11 21 rfl (by omega) (z:= -11) rfl;obtain⟨o3,ho3,p3⟩:=ZdR x4 25 7 rfl (by omega) (z:= -25) rfl;obtain⟨o4,ho4,p4⟩:=ZdR x0 2 30 rfl (by omega) (z:= -2) rfl;obtain⟨o5,ho5,p5⟩:=ZdR x0 13 19 rfl (by omega) (z:= -13) rfl;obtain⟨o6,ho6,p6⟩:=ZdR x0 22 10 rfl (by omega) (z:= -22) rfl;generalize ZF fuel=R at ho1 ho2 ho3 ho4 ho5 ho6 ⊢;rw[if_pos (decide_eq_true hi)];simp only[List.getElem?_cons_zero,yay];rw[ya,ho1,ya,ya,ho2,ya,ya,ho3,ya,ya,ya,ya,ya,ya];rw[if_pos (WS h0 (show i < ((64:Nat):Int) by omega)),he1,ya,if_pos (WS h0 (show i < ((64:Nat):Int) by omega)),he2,ya,ya,ho4,ya,ya,ho5,ya,ya,ho6];rw[ya,ya,ya,ya,ya,ya];rw[ya,ya,ya,ya,ya,ya,ya];rw[ZH (z:=i+1) (by omega) (by omega)];refine⟨_,rfl,⟨by dsimp only;omega,by dsimp only;omega,rfl,rfl,rfl,rfl, ?_⟩,by dsimp only;omega⟩;dsimp only;rw[show(i+1).toNat=i.toNat+1 by omega,show rs ws (a.map ybn) (i.toNat+1)=rnd (rs ws (a.map ybn) i.toNat) (ks.getD i.toNat 0) (wd ws i.toNat) from rfl, ←hv]
    have hk1:ks.getD i.toNat 0=e1.toNat:=by
     rw[←hkv,yda,yan,he1];rfl
    rw[hk1, ←hwv i.toNat e2 (by omega) he2];simp only[yaa,ycc];rw[Zve]
    have kt:((x7+((o1^^^o2)^^^o3))+(x6^^^(x4&&&(x5^^^x6)))+e1+e2).toNat=lo (yx (yx (yx (yx x7.toNat (S1 x4.toNat)) (ch x4.toNat x5.toNat x6.toNat)) e1.toNat) e2.toNat):=by
     rw[ZgA,ZgA,ZgA,ZgA,ZHH x4 p1 p2 p3,ZHI];exact ZHL ..
    have ka:((x7+((o1^^^o2)^^^o3))+(x6^^^(x4&&&(x5^^^x6)))+e1+e2+((o4^^^o5)^^^o6)+((x0&&&x1)|||(x2&&&(x0|||x1)))).toNat=lo (yx (yx (yx (yx (yx (yx x7.toNat (S1 x4.toNat)) (ch x4.toNat x5.toNat x6.toNat)) e1.toNat) e2.toNat) (S0 x0.toNat)) (mj x0.toNat x1.toNat x2.toNat)):=by
     rw[ZgA,ZgA,kt,ZHG x0 p4 p5 p6,ZHJ];exact ZHM ..
    have ke:(x3+(((x7+((o1^^^o2)^^^o3))+(x6^^^(x4&&&(x5^^^x6))))+e1+e2)).toNat=lo (yx x3.toNat (yx (yx (yx (yx x7.toNat (S1 x4.toNat)) (ch x4.toNat x5.toNat x6.toNat)) e1.toNat) e2.toNat)):=by
     rw[ZgA,kt];exact ZHN ..
    rw[ka,ke]
  ·right;rw[if_neg (by simpa using hi)];have e64:i=64:=by omega
   subst e64;exact⟨_,rfl,rfl,he,hv⟩
def Ze5(n:Nat):List UInt8:=(be8 n).map ybd
theorem Zm4{n:Nat}{b:List UInt8}(h:b.length≤1000000000000):Xj fuel (n:Int) b=some (b++Ze5 n):=by
 unfold Xj
 obtain⟨o,h1,h2⟩:=XD (step:=Vc fuel) (λs=>∃k:Nat,k≤8∧s.1=(n:Int)∧s.2.1=56 - 8*(k:Int)∧s.2.2.1=b++(Ze5 n).take k) (λs=>(s.2.1+8).toNat) (λo=>o.1=b++Ze5 n) (by
  rintro⟨a,i,c,d⟩ ⟨k,hk,ha,hi,hc⟩;dsimp only at ha hi hc;subst ha;unfold Vc;dsimp only;have hcl:c.length≤b.length+8:=by rw[hc,yr,yah];omega
  by_cases h0:i ≥ 0
  ·left;rw[if_pos (decide_eq_true h0),if_pos (decide_eq_true h0),if_pos (YE (by omega) (by omega)),ZH (z:=i - 8) (by omega) (by omega)];refine⟨_,rfl,⟨k+1,by omega,rfl,by dsimp only;omega, ?_⟩,by dsimp only;omega⟩;dsimp only
   have hw:∀m:Nat,w8 (Int.fdiv (n:Int) (2 ^ m))=ybd (n / 2 ^ m % 256):=by
    intro m;unfold w8;rw[Int.fdiv_eq_ediv_of_nonneg _ (by exact Int.le_of_lt (Int.pow_pos (by omega)))];congr 1
   have hmin:min i.toNat 64=56 - 8*k:=by omega
   rw[hmin,hw,hc,yao];congr 1;have hk8:k < 8:=by omega
   match k,hk8 with
   |0,_=>rfl
   |1,_=>rfl
   |2,_=>rfl
   |3,_=>rfl
   |4,_=>rfl
   |5,_=>rfl
   |6,_=>rfl
   |7,_=>
    show _++[ybd (n / 2 ^ 0 % 256)]=_;rw[Nat.pow_zero,Nat.div_one];rfl
  ·right;rw[if_neg (by simpa using h0)];have hk8:k=8:=by omega
   subst hk8;exact⟨_,rfl,hc⟩) (((n:Int),(56:Int),b,([]:List UInt8))) ⟨0,by omega,rfl,by simp,by simp⟩ (by dsimp only;omega)
 rw[h1,ya,h2]
theorem ZGo{l:List UInt8}(h:l.length≤4294967296):Zcn fuel l=some (sha l):=by
 unfold Zcn
 have hm:yac (l.length:Int) 64=((l.length % 64:Nat):Int):=by
  rw[Int.tmod_eq_emod_of_nonneg (by omega)];omega
 have hlt:l.length % 64 < 64:=ybq _ (by omega);have hle:l.length % 64≤l.length:=Nat.mod_le _ _;rw[hm,ZH (z:=(l.length:Int) - ((l.length % 64:Nat):Int)) (by omega) (by omega)];dsimp only;rw[if_pos (by simp only[ZdL,yi,decide_eq_true_eq];omega)];have hq:((l.length:Int) - ((l.length % 64:Nat):Int)).toNat=64*(l.length / 64):=by omega
 rw[hq]
 have hdl:(l.drop (64*(l.length / 64))).length=l.length % 64:=by
  rw[ybv];omega
 generalize ht:l.drop (64*(l.length / 64))=t at hdl
 have hcl:ZY fuel t=some t:=by
  unfold ZY;rw[if_pos (YE (by omega) (by omega))]
 rw[hcl,ya,if_pos (YE (by omega) (by omega))];generalize hz:yzz=z;have hzl:z.length=32:=by rw[←hz];rfl
 have hzs:zs l.length=(119 - t.length) % 64:=by unfold zs;rw[hdl]
 obtain⟨o,h1,p1,p2,p3⟩:=XD (step:=Zat fuel) (λs=>s.1=l∧s.2.1=z∧∃j,j≤zs l.length∧s.2.2=t++([128]:List UInt8)++yae j 0) (λs=>184 - s.2.2.length)
  (λo=>o.1=l∧o.2.1=z∧o.2.2=t++([128]:List UInt8)++yae (zs l.length) 0) (by
  rintro⟨a,b,c⟩ ⟨k1,k2,j,k3,k4⟩;dsimp only at k1 k2 k3 k4;have hcl:c.length=t.length+1+j:=by rw[k4,yr,yr,yct];rfl
  unfold Zat
  dsimp only
  have hm:yac (c.length:Int) 64=((c.length % 64:Nat):Int):=by
   rw[Int.tmod_eq_emod_of_nonneg (by omega)];omega
  rw[hm];by_cases hi:c.length % 64=56
  ·right;rw[if_neg (by simp;omega)];have:j=zs l.length:=by omega
   subst this;exact⟨_,rfl,k1,k2,k4⟩
  ·left;rw[if_pos (by simp;omega),if_pos (YE (by omega) (by omega))];have hj:j≠zs l.length:=λe=>hi (by omega);refine⟨_,rfl,⟨k1,k2,j+1,by omega, ?_⟩, ?_⟩
   ·dsimp only;rw[k4,yao,List.replicate_succ',yao]
   ·dsimp only;rw[yr,List.length_singleton];omega) (l,z,t++([128]:List UInt8)) ⟨rfl,rfl,0,Nat.zero_le _,by simp⟩ (by dsimp only;omega)
 rw[h1,ya,p1,p2,p3,ZH (z:=8*(l.length:Int)) (by omega) (by omega),show 8*(l.length:Int)=((8*l.length:Nat):Int) by omega,Zm4 (by
  rw[yr,yr,yct];simp;omega),ya]
 obtain⟨f,hf,hfl⟩:∃f,Zgv fuel=some f∧f.map ybn=Ze4:=⟨_,rfl,rfl⟩;have hf8:f.length=8:=by rw[←yw (f:=ybn),hfl];rfl
 rw[hf,ya];generalize hE:t++([128]:List UInt8)++yae (zs l.length) 0++Ze5 (8*l.length)=E
 have hEl:E.length=64*((t.length+72) / 64):=by
  rw[←hE];simp only[yr,yct,List.length_singleton,Ze5,yw,be8,yal,List.length_nil];omega
 obtain⟨o3,h3,r1,r2,r3,r4⟩:=XD (step:=Zau fuel) (λs=>s.2.1=z∧s.2.2.1=E∧s.2.2.2.length=8∧∃c,c≤l.length / 64∧s.1=l.drop (64*c)∧s.2.2.2.map ybn=Zem c (l.map ybj) Ze4) (λs=>s.1.length)
  (λx=>x.1=z∧x.2.1=E∧x.2.2.length=8∧x.2.2.map ybn=Zem (l.length / 64) (l.map ybj) Ze4) (by
  rintro⟨a,b,c,d⟩ ⟨k1,k2,k3,j,k4,k5,k6⟩;dsimp only at k1 k2 k3 k4 k5 k6;have hal:a.length=l.length - 64*j:=by rw[k5,ybv]
  unfold Zau;dsimp only;by_cases hi:(a.length:Int) ≥ 64
  ·left;obtain⟨m,hm1,hm2⟩:=ZCA (st:=d) (l:=a.take 64) k3 (by rw[yah];omega);rw[if_pos (decide_eq_true hi),if_pos (by simp only[ZdL,yi,decide_eq_true_eq];omega),hm1,ya,if_pos (by simp only[ZdL,yi,decide_eq_true_eq];omega)];refine⟨_,rfl,⟨k1,k2, ?_,j+1,by omega, ?_, ?_⟩,by dsimp only;rw[ybv];omega⟩
   ·dsimp only;rw[←yw (f:=ybn),hm2];exact ZgC (by rw[yw];exact k3)
   ·dsimp only;rw[k5,List.drop_drop];congr 1
   ·dsimp only;rw[hm2,Zk1,k6,k5,List.map_take,List.map_drop]
  ·right;rw[if_neg (by simpa using hi)];have:j=l.length / 64:=by omega
   subst this;exact⟨_,rfl,k1,k2,k3,k6⟩) (l,z,E,f) ⟨rfl,rfl,hf8,0,Nat.zero_le _,by simp,hfl⟩ (by dsimp only;omega)
 rw[h3,ya,r1,r2];generalize hv1:Zem (l.length / 64) (l.map ybj) Ze4=v1 at r4
 obtain⟨o4,h4,s1,s2,s3⟩:=XD (step:=Zav fuel) (λs=>s.2.1=z∧s.2.2.2.length=8∧∃c,c≤E.length / 64∧s.1=E.drop (64*c)∧s.2.2.2.map ybn=Zem c (E.map ybj) v1) (λs=>s.1.length)
  (λx=>x.1=z∧x.2.2.length=8∧x.2.2.map ybn=Zem (E.length / 64) (E.map ybj) v1) (by
  rintro⟨a,b,c,d⟩ ⟨k1,k3,j,k4,k5,k6⟩;dsimp only at k1 k3 k4 k5 k6;have hal:a.length=E.length - 64*j:=by rw[k5,ybv]
  unfold Zav;dsimp only;by_cases hi:(a.length:Int) > 0
  ·left;obtain⟨m,hm1,hm2⟩:=ZCA (st:=d) (l:=a.take 64) k3 (by rw[yah];omega);rw[if_pos (decide_eq_true hi),if_pos (by simp only[ZdL,yi,decide_eq_true_eq];omega),hm1,ya,if_pos (by simp only[ZdL,yi,decide_eq_true_eq];omega)];refine⟨_,rfl,⟨k1, ?_,j+1,by omega, ?_, ?_⟩,by dsimp only;rw[ybv];omega⟩
   ·dsimp only;rw[←yw (f:=ybn),hm2];exact ZgC (by rw[yw];exact k3)
   ·dsimp only;rw[k5,List.drop_drop];congr 1
   ·dsimp only;rw[hm2,Zk1,k6,k5,List.map_take,List.map_drop]
  ·right;rw[if_neg (by simpa using hi)];have:j=E.length / 64:=by omega
   subst this;exact⟨_,rfl,k1,k3,k6⟩) (E,z,E,o3.2.2) ⟨rfl,r3,0,Nat.zero_le _,by simp,r4⟩ (by dsimp only;omega)
 rw[h4,ya];generalize hv2:Zem (E.length / 64) (E.map ybj) v1=v2 at s3
 obtain⟨o5,h5,t1,t2⟩:=XD (step:=Zaw fuel) (λs=>0≤s.1∧s.1≤32∧s.2.1.length=32∧s.2.2.2=o4.2.2∧∀(j:Nat),(j:Int) < s.1→s.2.1[j]? =some (Go.Sha.ZCx v2 j)) (λs=>(32 - s.1).toNat)
  (λx=>x.1.length=32∧∀(j:Nat),j < 32→x.1[j]? =some (Go.Sha.ZCx v2 j)) (by
  rintro⟨i,a,b,c⟩ ⟨h0,h32,ha,hc,hv⟩;dsimp only at h0 h32 ha hc hv;subst hc;unfold Zaw;dsimp only;by_cases hi:i < 32
  ·left;rw[if_pos (decide_eq_true hi)];have e1:yl i 4=i / 4:=Int.tdiv_eq_ediv_of_nonneg h0;have e2:yac i 4=i % 4:=Int.tmod_eq_emod_of_nonneg h0;rw[e1,e2,ZH (z:=i / 4) (by omega) (by omega),ZH (z:=8*(i % 4)) (by omega) (by omega),ZH (z:=24 - 8*(i % 4)) (by omega) (by omega),ZH (z:=i+1) (by omega) (by omega)];obtain⟨x1,hx1⟩:=Qk (l:=o4.2.2) (i:=(i / 4).toNat) (by omega);obtain⟨x2,hx2⟩:=Qk (l:=a) (i:=i.toNat) (by omega);rw[if_pos (WS (by omega) (by omega)),hx1,ya,if_pos (decide_eq_true (by omega))]
   try dsimp only
   rw[if_pos (WS (by omega) (by omega)),hx2,ya];refine⟨_,rfl,⟨by dsimp only;omega,by dsimp only;omega,by dsimp only;rw[ybf];exact ha,rfl, ?_⟩,by dsimp only;omega⟩;intro j hj;dsimp only at hj ⊢;by_cases hji:j=i.toNat
   ·subst hji;rw[ycr (by omega)];congr 1;unfold Go.Sha.ZCx
    have hx:v2.getD (i.toNat / 4) 0=x1.toNat:=by
     rw[←s3,yda,yan,show i.toNat / 4=(i / 4).toNat by omega,hx1];rfl
    rw[hx,show min (24 - 8*(i % 4)).toNat 32=24 - 8*(i.toNat % 4) by omega,Zvd];unfold w8;have e3:∀m:Nat,(((m:Nat):Int) % 256).toNat=m % 256:=λm=>by omega
    rw[e3,show yaj x1.toNat (24 - 8*(i.toNat % 4))=x1.toNat >>> (24 - 8*(i.toNat % 4)) from rfl,Nat.shiftRight_eq_div_pow]
    exact UInt8.toNat_inj.1 (by simp)
   ·rw[List.getElem?_set_ne (Ne.symm hji)];exact hv j (by omega)
  ·right;rw[if_neg (by simpa using hi)];exact⟨_,rfl,ha,λj hj=>hv j (by omega)⟩) ((0:Int),o4.1,o4.2.1,o4.2.2) ⟨Int.le_refl _,by dsimp only;omega,by dsimp only;rw[s1];exact hzl,rfl,λj hj=>by dsimp only at hj;omega⟩ (by dsimp only;omega)
 rw[h5,ya,ZCy];congr 1
 have hpad:Ze3 l=(l.take (64*(l.length / 64))).map ybj++E.map ybj:=by
  unfold Ze3;rw[←hE, ←ht];simp only[yak,List.map_replicate,yaa,ycc,Ze5,List.map_map];rw[←yao, ←yao, ←yao, ←yak,ybk]
  have:be8 (8*l.length)=(be8 (8*l.length)).map (ybj ∘ ybd):=by
   simp[be8]
  rw[←this];simp
 have hw:((l.take (64*(l.length / 64))).map ybj).length=64*(l.length / 64):=by
  rw[yw,yah];omega
 have hv:v2=Zem ((l.length+72) / 64) (Ze3 l) Ze4:=by
  rw[hpad,show(l.length+72) / 64=l.length / 64+E.length / 64 by omega,ZoQ _ _ _ _ _ hw, ←hv2, ←hv1];congr 1;have:=ZoQ (l.length / 64) 0 _ ((l.drop (64*(l.length / 64))).map ybj) Ze4 hw;rw[←yak,ybk,Nat.add_zero] at this;exact this
 rw[←hv];apply List.ext_getElem?;intro j;by_cases hj:j < 32
 ·rw[t2 j hj,yan,List.getElem?_range hj];rfl
 ·rw[yaq (by omega),yaq (by simp;omega)]
noncomputable def ZbQ(F:Nat)(a0:List UInt8):Option (List UInt8):=if decide (a0.length≤4294967296)=true then some (sha a0) else Zcn F a0
noncomputable def Zvh(F:Nat):Fs yf:={ Ze2 F with M:=λx=>ZbQ F x}
noncomputable def ZoR:Fs yf:=Zvh fuel
theorem Zvi:ZoR.Ok:=ZsN (s:=Ze2 fuel) ZsX λx=>by
 show ZbQ fuel x=Zcn fuel x;unfold ZbQ;split
 ·rename_i h;exact(ZGo (of_decide_eq_true h)).symm
 ·rfl
theorem ZyH{l:List UInt8}(h:l.length≤4294967296):ZbQ fuel l=some (sha l):=if_pos (decide_eq_true h)
end Go.Proofs.YtkapgdbeeblihaaGreat
end
section
set_option maxRecDepth 4000
namespace Go.Proofs.YtkapgdbeeblihaaGreat
open Go Go.Ev
noncomputable section
def ZjY(F:Nat):Fs yf:=⟨79,[.nil .u8,.v yI],[],[yI],(Za8 F).xs,λx=>(Za8 F).M (x,([]:List UInt8))⟩
def Zen:Fs yf:=ZjY fuel
theorem ZjZ:Zen.Ok:=ZF1 (i1:=[yI]) (i2:=[yI,(.sl .u8)]) (λx=>(x,([]:List UInt8))) Za9 (λ_=>rfl) (λ_=>⟨_,rfl⟩)
def XM(F:Nat)(s:((List (List UInt8))×Int×Int×(List UInt8)×(List UInt8))):Option (((List (List UInt8))×Int×Int×(List UInt8)×(List UInt8))⊕((List UInt8)×(List UInt8))):=
 if(decide (s.2.2.1 < s.2.1))=true then
  (idx s.1 s.2.2.1).bind λe170=>
  (Xj F (e170.length:Int) s.2.2.2.2).bind λo171=>
  if(apB o171.length e170.length 1)=true then
   some (.inl (s.1,s.2.1,wi (s.2.2.1+1),s.2.2.2.1,o171++e170))
  else
  none
 else
 some (.inr (s.2.2.2.1,s.2.2.2.2))
def ZlY:Lp:=⟨[(4,.ref 0 []),(5,.own 1 .u8),(13,.v (.sl (.sl .u8))),(14,.v yI),(15,.v yI)],[.var (.v (.arr 32 .u8)) true,.log .u8 5],[(.sl (.sl .u8)),yI,yI,(.arr 32 .u8),(.sl .u8)],[⟨.exit 0,[(4,.ref 0 []),(5,.own 1 .u8)],[.var (.v (.arr 32 .u8)) true,.log .u8 5],[(.arr 32 .u8),(.sl .u8)]⟩],Zh (XM fuel) fuel⟩
def hi5:HI:={ own:=[5,10,12,19,22,24],still:=[9,19,21,26]}
theorem ZoS:ZlY.okA yf 54 0:=ZU hi5 [] [Zcm] ⟨Za9,ytt⟩
def WD(F:Nat)(a0:ByteArray)(a1:(List (List UInt8))):Option ((List UInt8)):=
 (Xj F (a0.size:Int) []).bind λo169=>
 if(apB o169.length ((ZdM a0).length) 1)=true then
  (Zh (XM F) F (a1,(a1.length:Int),0,yzz,o169++(ZdM a0))).bind λo172=>
  (ZbQ F o172.2).bind λo173=>
  some o173
 else
 none
def Zvj(F:Nat):Fs yf:=⟨54,[.v .str,.v (.sl (.sl .u8))],[],[.str,(.sl (.sl .u8))],[⟨.ret,[(0,.v (.arr 32 .u8))],[],[(.arr 32 .u8)]⟩],λx=>WD F x.1 x.2⟩
def Zco:Fs yf:=Zvj fuel
theorem Zdp:Zco.Ok:=fnO hi5 [(0,ZlY)] [Zen,ZoR] ⟨ZjZ,Zvi,ytt⟩ ⟨ZoS,ytt⟩
def YC(F:Nat)(s:((List (List UInt8))×Int×(List (List UInt8))×Int×Int)):Option (((List (List UInt8))×Int×(List (List UInt8))×Int×Int)⊕((List (List UInt8))×Int)):=
 if(decide (s.2.2.2.2 < s.2.2.2.1))=true then
  (idx s.2.2.1 s.2.2.2.2).bind λe174=>
  if(decide ((wi (s.2.1+(e174.length:Int))) < 0))=true then
   none
  else
  some (.inl (s.1,wi (s.2.1+(e174.length:Int)),s.2.2.1,s.2.2.2.1,wi (s.2.2.2.2+1)))
 else
 some (.inr (s.1,s.2.1))
def WZ:Lp:=⟨[(0,.v (.sl (.sl .u8))),(3,.v yI),(9,.v (.sl (.sl .u8))),(10,.v yI),(11,.v yI)],[],[(.sl (.sl .u8)),yI,(.sl (.sl .u8)),yI,yI],[⟨.exit 0,[(0,.v (.sl (.sl .u8))),(3,.v yI)],[],[(.sl (.sl .u8)),yI]⟩],Zh (YC fuel) fuel⟩
def hi6:HI:={ own:=[6,24,31,33],still:=[2,23]}
theorem ZaQ:WZ.okA yf 97 0:=ZU hi6 [] [] trivial
def VY:Fs yf:=⟨105,[.nil .u8,.v yI],[],[.int .i64],[⟨.ret,[(0,.own 0 .u8)],[.log .u8 5],[.sl .u8]⟩],Zos⟩
theorem ZdS:VY.Ok:=ZEa ZCe
def YD(F:Nat)(s:((List (List UInt8))×Int×Int×(List UInt8))):Option (((List (List UInt8))×Int×Int×(List UInt8))⊕(List UInt8)):=
 if(decide (s.2.2.1 < s.2.1))=true then
  (idx s.1 s.2.2.1).bind λe177=>
  if(apB s.2.2.2.length e177.length 1)=true then
   some (.inl (s.1,s.2.1,wi (s.2.2.1+1),s.2.2.2++e177))
  else
  none
 else
 some (.inr s.2.2.2)
def W0:Lp:=⟨[(6,.own 0 .u8),(25,.v (.sl (.sl .u8))),(26,.v yI),(27,.v yI)],[.log .u8 5],[(.sl (.sl .u8)),yI,yI,(.sl .u8)],[⟨.exit 2,[(6,.own 0 .u8)],[.log .u8 5],[(.sl .u8)]⟩],Zh (YD fuel) fuel⟩
theorem ZaR:W0.okA yf 97 1:=ZU hi6 [] [] trivial
def Yj(F:Nat)(a0:(List (List UInt8))):Option ((List UInt8)):=
 (Zh (YC F) F (a0,0,a0,(a0.length:Int),0)).bind λo175=>
 (Zos o175.2).bind λo176=>
 (Zh (YD F) F (o175.1,(o175.1.length:Int),0,o176)).bind λo178=>
 some o178
def Zcp(F:Nat):Fs yf:=⟨97,[.v (.sl (.sl .u8))],[],[(.sl (.sl .u8))],[⟨.ret,[(0,.v (.sl .u8))],[],[(.sl .u8)]⟩],λx=>Yj F x⟩
def XB:Fs yf:=Zcp fuel
theorem W1:XB.Ok:=fnO hi6 [(0,WZ),(1,W0)] [VY] ⟨ZdS,ytt⟩ ⟨ZaQ,ZaR,ytt⟩
def VJ(F:Nat)(a0:(List UInt8))(a1:(List UInt8)):Option ((List UInt8)):=
 (Yj F [a0,a1]).bind λo179=>
 some o179
def ZsZ(F:Nat):Fs yf:=⟨91,[.v (.sl .u8),.v (.sl .u8)],[],[(.sl .u8),(.sl .u8)],[⟨.ret,[(0,.v (.sl .u8))],[],[(.sl .u8)]⟩],λx=>VJ F x.1 x.2⟩
def Zdq:Fs yf:=ZsZ fuel
theorem Ze6:Zdq.Ok:=fnO { still:=[4,7]} [] [XB] ⟨W1,ytt⟩
def ZbE(F:Nat)(s:(Int×(List UInt8))):Option ((Int×(List UInt8))⊕(Int×(List UInt8))):=
 if(decide (s.1 ≥ 128))=true then
  if(apB s.2.length 1 1)=true then
   let y180:(List UInt8):=s.2++([w8 (wi ((yac s.1 128)+128))]:List UInt8)
   some (.inl (wi (yl s.1 128),y180))
  else
  none
 else
 some (.inr (s.1,s.2))
def ZlZ:Lp:=⟨[(0,.v yI),(3,.own 0 .u8)],[.log .u8 5],[yI,(.sl .u8)],[⟨.exit 0,[(0,.v yI),(3,.own 0 .u8)],[.log .u8 5],[yI,(.sl .u8)]⟩],Zh (ZbE fuel) fuel⟩
def hi7:HI:={ own:=[3,8,14,15,19],still:=[2]}
theorem ZoT:ZlZ.okA yf 92 0:=ZU hi7 [] [] trivial
def Zeo(F:Nat)(a0:Int):Option ((List UInt8)):=
 (Zh (ZbE F) F (a0,[])).bind λo181=>
 if(apB o181.2.length 1 1)=true then
  some (o181.2++([w8 o181.1]:List UInt8))
 else
 none
def Zvk(F:Nat):Fs yf:=⟨92,[.v yI],[],[yI],[⟨.ret,[(0,.v (.sl .u8))],[],[(.sl .u8)]⟩],λx=>Zeo F x⟩
def Ziy:Fs yf:=Zvk fuel
theorem Zl0:Ziy.Ok:=fnO hi7 [(0,ZlZ)] [] trivial ⟨ZoT,ytt⟩
def Xo(F:Nat)(a0:(List UInt8))(a1:Int):Option ((List UInt8)):=
 if(decide (a1 < 0))=true then
  (VJ F a0 []).bind λo182=>
  some o182
 else
 (Zeo F a1).bind λo183=>
 (VJ F a0 o183).bind λo184=>
 some o184
def Zvl(F:Nat):Fs yf:=⟨75,[.v (.sl .u8),.v yI],[],[(.sl .u8),yI],[⟨.ret,[(0,.v (.sl .u8))],[],[(.sl .u8)]⟩],λx=>Xo F x.1 x.2⟩
def VK:Fs yf:=Zvl fuel
theorem VZ:VK.Ok:=fnO { still:=[4,7,9,10,11]} [] [Zdq,Ziy] ⟨Ze6,Zl0,ytt⟩
def Zax(F:Nat)(a0:(List UInt8))(a1:(List UInt8)):Option ((List UInt8)):=
 (VJ F a0 a1).bind λo185=>
 some o185
def Zmx(F:Nat):Fs yf:=⟨81,[.v (.sl .u8),.v (.arr 32 .u8)],[],[(.sl .u8),(.arr 32 .u8)],[⟨.ret,[(0,.v (.sl .u8))],[],[(.sl .u8)]⟩],λx=>Zax F x.1 x.2⟩
def ZgD:Fs yf:=Zmx fuel
theorem Zmy:ZgD.Ok:=fnO { still:=[4,5,6],frz:=[6]} [] [Zdq] ⟨Ze6,ytt⟩
def Qr(F:Nat)(a0:(List UInt8))(a1:(List UInt8)):Option ((List UInt8)):=
 (Zeo F (a1.length:Int)).bind λo186=>
 (Yj F [a0,o186,a1]).bind λo187=>
 some o187
def Zk2(F:Nat):Fs yf:=⟨82,[.v (.sl .u8),.v (.sl .u8)],[],[(.sl .u8),(.sl .u8)],[⟨.ret,[(0,.v (.sl .u8))],[],[(.sl .u8)]⟩],λx=>Qr F x.1 x.2⟩
def Zfw:Fs yf:=Zk2 fuel
theorem Zk3:Zfw.Ok:=fnO { still:=[4,7,10]} [] [Ziy,XB] ⟨Zl0,W1,ytt⟩
def VA(F:Nat)(s:((List UInt8)×UInt64×Int×(List UInt8))):Option (((List UInt8)×UInt64×Int×(List UInt8))⊕((List UInt8)×(List UInt8))):=
 if(decide (s.2.2.1 < 8))=true then
  if(decide (0≤wi (56 - (wi (8*s.2.2.1)))))=true then
   let y188:UInt64:=ZB s.2.1 (min (wi (56 - (wi (8*s.2.2.1)))).toNat 64)
   if(inB s.2.2.1 8)=true then
    (s.2.2.2[s.2.2.1.toNat]?).bind λe189=>
    let y190:(List UInt8):=s.2.2.2.set s.2.2.1.toNat (w8 (y188.toNat:Int))
    some (.inl (s.1,s.2.1,wi (s.2.2.1+1),y190))
   else
   none
  else
  none
 else
 some (.inr (s.1,s.2.2.2))
def ZgE:Lp:=⟨[(0,.v (.sl .u8)),(1,.v .u64),(5,.ref 0 []),(7,.v yI)],[.var (.v (.arr 8 .u8)) true],[(.sl .u8),.u64,yI,(.arr 8 .u8)],[⟨.exit 0,[(0,.v (.sl .u8)),(5,.ref 0 [])],[.var (.v (.arr 8 .u8)) true],[(.sl .u8),(.arr 8 .u8)]⟩],Zh (VA fuel) fuel⟩
theorem Zj0:ZgE.okA yf 98 0:=ZU { still:=[4,19,20],frz:=[20]} [] [] trivial
def Qs(F:Nat)(a0:(List UInt8))(a1:UInt64):Option ((List UInt8)):=
 (Zh (VA F) F (a0,a1,0,[0,0,0,0,0,0,0,0])).bind λo191=>
 (VJ F o191.1 o191.2).bind λo192=>
 some o192
def ZoU(F:Nat):Fs yf:=⟨98,[.v (.sl .u8),.v .u64],[],[(.sl .u8),.u64],[⟨.ret,[(0,.v (.sl .u8))],[],[(.sl .u8)]⟩],λx=>Qs F x.1 x.2⟩
def ZdT:Fs yf:=ZoU fuel
theorem ZgF:ZdT.Ok:=fnO { still:=[4,19,20],frz:=[20]} [(0,ZgE)] [Zdq] ⟨Ze6,ytt⟩ ⟨Zj0,ytt⟩
def W2(F:Nat)(s:((List UInt8)×(List ZK)×Int×Int×(List UInt64)×Int×Int×Xb×ZK)):Option (((List UInt8)×(List ZK)×Int×Int×(List UInt64)×Int×Int×Xb×ZK)⊕((List UInt8)×(List ZK)×Int×Int×Xb×ZK)):=
 if(decide (s.2.2.2.2.2.2.1 < s.2.2.2.2.2.1))=true then
  (idx s.2.2.2.2.1 s.2.2.2.2.2.2.1).bind λe197=>
  (Qs F s.1 e197).bind λo198=>
  some (.inl (o198,s.2.1,s.2.2.1,s.2.2.2.1,s.2.2.2.2.1,s.2.2.2.2.2.1,wi (s.2.2.2.2.2.2.1+1),s.2.2.2.2.2.2.2.1,s.2.2.2.2.2.2.2.2))
 else
 some (.inr (s.1,s.2.1,s.2.2.1,s.2.2.2.1,s.2.2.2.2.2.2.2.1,s.2.2.2.2.2.2.2.2))
abbrev tL0:List Ty:=[(.sl .u8),(.sl Zw),yI,yI,(.sl .u64),yI,yI,Yi,Zw]
def ZhT:Lp:=⟨[(3,.v (.sl .u8)),(5,.ref 1 []),(16,.v (.sl Zw)),(17,.v yI),(18,.v yI),(28,.v (.sl .u64)),(29,.v yI),(30,.v yI)],[.var (.v Yi) true,.var (.v Zw) true],tL0,[⟨.exit 2,[(3,.v (.sl .u8)),(5,.ref 1 []),(16,.v (.sl Zw)),(17,.v yI),(18,.v yI)],[.var (.v Yi) true,.var (.v Zw) true],[(.sl .u8),(.sl Zw),yI,yI,Yi,Zw]⟩],Zh (W2 fuel) fuel⟩
def hi8:HI:={ still:=[2,8,13,22,25,34,35,38,40,41,43,44,46]}
theorem Zk4:ZhT.okA yf 83 1:=ZU hi8 [] [ZdT] ⟨ZgF,ytt⟩
def Qt(F:Nat)(s:((List UInt8)×(List ZK)×Int×Int×Xb)):Option (((List UInt8)×(List ZK)×Int×Int×Xb)⊕((List UInt8)×Xb)):=
 if(decide (s.2.2.2.1 < s.2.2.1))=true then
  (idx s.2.1 s.2.2.2.1).bind λe195=>
  (Xo F s.1 (e195.1.length:Int)).bind λo196=>
  (Zh (W2 F) F (o196,s.2.1,s.2.2.1,s.2.2.2.1,e195.1,(e195.1.length:Int),0,s.2.2.2.2,e195)).bind λo199=>
  (Xo F o199.1 o199.2.2.2.2.2.2.1).bind λo200=>
  (Xo F o200 o199.2.2.2.2.2.2.2.1).bind λo201=>
  (Qs F o201 o199.2.2.2.2.2.2.2.2).bind λo202=>
  some (.inl (o202,o199.2.1,o199.2.2.1,wi (o199.2.2.2.1+1),o199.2.2.2.2.1))
 else
 some (.inr (s.1,s.2.2.2.2))
def ZhU:Lp:=⟨[(3,.v (.sl .u8)),(16,.v (.sl Zw)),(17,.v yI),(18,.v yI)],[.var (.v Yi) true],[(.sl .u8),(.sl Zw),yI,yI,Yi],[⟨.exit 0,[(3,.v (.sl .u8))],[.var (.v Yi) true],[(.sl .u8),Yi]⟩],Zh (Qt fuel) fuel⟩
theorem Zk5:ZhU.okA yf 83 0:=ZU hi8 [(1,ZhT)] [VK,ZdT] ⟨VZ,ZgF,ytt⟩ ⟨Zk4,ytt⟩
def Zdr(F:Nat)(a0:Xb):Option ((List UInt8)):=
 (Xh F a0).bind λo193=>
 if(!o193)=true then
  some []
 else
 (Xo F [] (a0.length:Int)).bind λo194=>
 (Zh (Qt F) F (o194,a0,(a0.length:Int),0,a0)).bind λo203=>
 some o203.1
def Zp1(F:Nat):Fs yf:=⟨83,[.v Yi],[],[Yi],[⟨.ret,[(0,.v (.sl .u8))],[],[(.sl .u8)]⟩],λx=>Zdr F x⟩
def Zj1:Fs yf:=Zp1 fuel
theorem Zp2:Zj1.Ok:=fnO hi8 [(0,ZhU)] [Qo,VK] ⟨Zar,VZ,ytt⟩ ⟨Zk5,ytt⟩
def ZbF(F:Nat)(s:((List UInt8)×(List In)×Int×Int×Tx)):Option (((List UInt8)×(List In)×Int×Int×Tx)⊕((List UInt8)×Tx)):=
 if(decide (s.2.2.2.1 < s.2.2.1))=true then
  (idx s.2.1 s.2.2.2.1).bind λe205=>
  (Zax F s.1 e205.1.1).bind λo206=>
  (Xo F o206 e205.1.2).bind λo207=>
  some (.inl (o207,s.2.1,s.2.2.1,wi (s.2.2.2.1+1),s.2.2.2.2))
 else
 some (.inr (s.1,s.2.2.2.2))
def Zl1:Lp:=⟨[(1,.ref 0 []),(3,.v (.sl .u8)),(13,.v (.sl yIn)),(14,.v yI),(15,.v yI)],[.var (.v yTx) true],[(.sl .u8),(.sl yIn),yI,yI,yTx],[⟨.exit 0,[(1,.ref 0 []),(3,.v (.sl .u8))],[.var (.v yTx) true],[(.sl .u8),yTx]⟩],Zh (ZbF fuel) fuel⟩
def hi9:HI:={ still:=[2,10,19,22,23,26,29,32,41,43,44,46,47,50,52]}
theorem ZoV:Zl1.okA yf 55 0:=ZU hi9 [] [ZgD,VK] ⟨Zmy,VZ,ytt⟩
def ZbG(F:Nat)(s:((List UInt8)×(List Out)×Int×Int×Tx)):Option (((List UInt8)×(List Out)×Int×Int×Tx)⊕((List UInt8)×Tx)):=
 if(decide (s.2.2.2.1 < s.2.2.1))=true then
  (idx s.2.1 s.2.2.2.1).bind λe210=>
  (Xo F s.1 e210.1).bind λo211=>
  (Zdr F e210.2).bind λo212=>
  (Qr F o211 o212).bind λo213=>
  some (.inl (o213,s.2.1,s.2.2.1,wi (s.2.2.2.1+1),s.2.2.2.2))
 else
 some (.inr (s.1,s.2.2.2.2))
def Zl2:Lp:=⟨[(1,.ref 0 []),(3,.v (.sl .u8)),(35,.v (.sl Zs)),(36,.v yI),(37,.v yI)],[.var (.v yTx) true],[(.sl .u8),(.sl Zs),yI,yI,yTx],[⟨.exit 2,[(1,.ref 0 []),(3,.v (.sl .u8))],[.var (.v yTx) true],[(.sl .u8),yTx]⟩],Zh (ZbG fuel) fuel⟩
theorem ZoW:Zl2.okA yf 55 1:=ZU hi9 [] [VK,Zj1,Zfw] ⟨VZ,Zp2,Zk3,ytt⟩
def Zhp(F:Nat)(a0:Tx):Option ((List UInt8)):=
 (Xo F [] (a0.1.length:Int)).bind λo204=>
 (Zh (ZbF F) F (o204,a0.1,(a0.1.length:Int),0,a0)).bind λo208=>
 (Xo F o208.1 (o208.2.2.1.length:Int)).bind λo209=>
 (Zh (ZbG F) F (o209,o208.2.2.1,(o208.2.2.1.length:Int),0,o208.2)).bind λo214=>
 (Xo F o214.1 o214.2.2.2).bind λo215=>
 some o215
def Zvm(F:Nat):Fs yf:=⟨55,[.v yTx],[],[yTx],[⟨.ret,[(0,.v (.sl .u8))],[],[(.sl .u8)]⟩],λx=>Zhp F x⟩
def ZoX:Fs yf:=Zvm fuel
theorem Zvn:ZoX.Ok:=fnO hi9 [(0,Zl1),(1,Zl2)] [VK] ⟨VZ,ytt⟩ ⟨ZoV,ZoW,ytt⟩
def ZCB:ByteArray:=⟨#[116,120]⟩
def Yq(F:Nat)(a0:Tx):Option ((List UInt8)):=
 (VX F a0).bind λo216=>
 if(!o216)=true then
  some yzz
 else
 (Zhp F a0).bind λo217=>
 (WD F ZCB [o217]).bind λo218=>
 some o218
def ZCC(F:Nat):Fs yf:=⟨29,[.v yTx],[],[yTx],[⟨.ret,[(0,.v (.arr 32 .u8))],[],[(.arr 32 .u8)]⟩],λx=>Yq F x⟩
def Qu:Fs yf:=ZCC fuel
theorem Vu:Qu.Ok:=fnO { still:=[3,7,9]} [] [Zcl,ZoX,Zco] ⟨Zdk,Zvn,Zdp,ytt⟩
def ZaS(F:Nat)(s:(Int×Int×Tx×(List Zd)×(List UInt8))):Option ((Int×Int×Tx×(List Zd)×(List UInt8))⊕(Tx×(List Zd)×(List UInt8))):=
 if(decide (s.2.1 < s.1))=true then
  if(apB s.2.2.2.1.length 1 40)=true then
   let y221:(List Zd):=s.2.2.2.1++([(s.2.2.2.2,s.2.1)]:List Zd)
   some (.inl (s.1,wi (s.2.1+1),s.2.2.1,y221,s.2.2.2.2))
  else
  none
 else
 some (.inr (s.2.2.1,s.2.2.2.1,s.2.2.2.2))
def ZoY:Lp:=⟨[(2,.own 1 Zb),(3,.ref 2 []),(12,.v yI),(13,.v yI)],[.var (.v yTx) true,.log Zb 34,.var (.v (.arr 32 .u8)) true],[yI,yI,yTx,(.sl Zb),(.arr 32 .u8)],[⟨.exit 0,[(2,.own 1 Zb)],[.var (.v yTx) true,.log Zb 34,.var (.v (.arr 32 .u8)) true],[yTx,(.sl Zb),(.arr 32 .u8)]⟩],Zh (ZaS fuel) fuel⟩
def ZHc:HI:={ own:=[2,16,21,23],still:=[2,5,7]}
theorem Zp3:ZoY.okA yf 33 0:=ZU ZHc [] [] trivial
def Zep(F:Nat)(a0:Tx):Option ((List Zd)):=
 (Yq F a0).bind λo219=>
 (VX F a0).bind λo220=>
 if(!o220)=true then
  some []
 else
 (Zh (ZaS F) F ((a0.2.1.length:Int),0,a0,[],o219)).bind λo222=>
 some o222.2.1
def Zxb(F:Nat):Fs yf:=⟨33,[.v yTx],[],[yTx],[⟨.ret,[(0,.v (.sl Zb))],[],[(.sl Zb)]⟩],λx=>Zep F x⟩
def Zhq:Fs yf:=Zxb fuel
theorem Ziz:Zhq.Ok:=fnO ZHc [(0,ZoY)] [Qu,Zcl] ⟨Vu,Zdk,ytt⟩ ⟨Zp3,ytt⟩
def Vd(F:Nat)(a0:UInt64):Option (UInt64):=
 (Xc F a0).bind λo223=>
 if o223=true then
  some a0
 else
 some 1
def ZoZ(F:Nat):Fs yf:=⟨68,[.v .u64],[],[.u64],[⟨.ret,[(0,.v .u64)],[],[.u64]⟩],λx=>Vd F x⟩
def Zay:Fs yf:=ZoZ fuel
theorem Zcq:Zay.Ok:=fnO { still:=[2,3]} [] [Vs] ⟨Qn,ytt⟩
def Qv(F:Nat)(a0:UInt64)(a1:UInt64):Option (UInt64):=
 (Vd F a0).bind λo224=>
 (Vb F o224 (a1 % 2305843009213688669)).bind λo225=>
 some o225
def Zo0(F:Nat):Fs yf:=⟨47,[.v .u64,.v .u64],[],[.u64,.u64],[⟨.ret,[(0,.v .u64)],[],[.u64]⟩],λx=>Qv F x.1 x.2⟩
def ZdU:Fs yf:=Zo0 fuel
theorem ZgG:ZdU.Ok:=fnO { still:=[4,5,6,8]} [] [Zay,Zap] ⟨Zcq,Zci,ytt⟩
def Xk(F:Nat)(a0:UInt64):Option (UInt64):=
 (Qv F 4 a0).bind λo226=>
 some o226
def Zp4(F:Nat):Fs yf:=⟨23,[.v .u64],[],[.u64],[⟨.ret,[(0,.v .u64)],[],[.u64]⟩],λx=>Xk F x⟩
def Wj:Fs yf:=Zp4 fuel
theorem WE:Wj.Ok:=fnO { still:=[2,3]} [] [ZdU] ⟨ZgG,ytt⟩
def Zaz(F:Nat)(s:(UInt64×(List UInt64)×Int×Int)):Option ((UInt64×(List UInt64)×Int×Int)⊕UInt64):=
 if(decide (s.2.2.2 < s.2.2.1))=true then
  (idx s.2.1 s.2.2.2).bind λe227=>
  (Vd F e227).bind λo228=>
  (Z4 F s.1 o228).bind λo229=>
  some (.inl (o229,s.2.1,s.2.2.1,wi (s.2.2.2+1)))
 else
 some (.inr s.1)
def Zj2:Lp:=⟨[(3,.v .u64),(6,.v (.sl .u64)),(7,.v yI),(8,.v yI)],[],[.u64,(.sl .u64),yI,yI],[⟨.exit 0,[(3,.v .u64)],[],[.u64]⟩],Zh (Zaz fuel) fuel⟩
theorem Zmz:Zj2.okA yf 76 0:=ZU { still:=[2,12,13,14]} [] [Zay,ZdP] ⟨Zcq,Zgr,ytt⟩
def Zcr(F:Nat)(a0:(List UInt64)):Option (UInt64):=
 (Zh (Zaz F) F (1,a0,(a0.length:Int),0)).bind λo230=>
 some o230
def Zs0(F:Nat):Fs yf:=⟨76,[.v (.sl .u64)],[],[(.sl .u64)],[⟨.ret,[(0,.v .u64)],[],[.u64]⟩],λx=>Zcr F x⟩
def ZgH:Fs yf:=Zs0 fuel
theorem Zj3:ZgH.Ok:=fnO { still:=[2,12,13,14]} [(0,Zj2)] [] trivial ⟨Zmz,ytt⟩
def Ve(F:Nat)(a0:UInt64):Option (Bool):=
 some (decide (a0 < 2305843009213688669))
def Zo1(F:Nat):Fs yf:=⟨84,[.v .u64],[],[.u64],[⟨.ret,[(0,.v .bool)],[],[.bool]⟩],λx=>Ve F x⟩
def ZdV:Fs yf:=Zo1 fuel
theorem ZgI:ZdV.Ok:=fnO { still:=[2]} [] [] trivial
def YF(F:Nat)(s:(UInt64×(List UInt8)×Int×(List UInt8))):Option ((UInt64×(List UInt8)×Int×(List UInt8))⊕(UInt64×(List UInt8))):=
 if(decide (s.2.2.1 < 32))=true then
  (idx s.2.1 s.2.2.1).bind λe231=>
  (Xg F (ZB s.1 56) ((WR s.1 8)|||(yai e231.toNat)) 2305843009213688668).bind λo232=>
  some (.inl (o232,s.2.1,wi (s.2.2.1+1),s.2.2.2))
 else
 some (.inr (s.1,s.2.2.2))
def ZhV:Lp:=⟨[(3,.v .u64),(6,.v (.arr 32 .u8)),(7,.v yI)],[.var (.v (.arr 32 .u8)) true],[.u64,(.arr 32 .u8),yI,(.arr 32 .u8)],[⟨.exit 0,[(3,.v .u64)],[.var (.v (.arr 32 .u8)) true],[.u64,(.arr 32 .u8)]⟩],Zh (YF fuel) fuel⟩
theorem Zk6:ZhV.okA yf 71 0:=ZU { still:=[2,11,16]} [] [Zby] ⟨ZdO,ytt⟩
def X7(F:Nat)(a0:(List UInt8)):Option (UInt64):=
 (Zh (YF F) F (0,a0,0,a0)).bind λo233=>
 some (o233.1+1)
def Zp5(F:Nat):Fs yf:=⟨71,[.v (.arr 32 .u8)],[],[(.arr 32 .u8)],[⟨.ret,[(0,.v .u64)],[],[.u64]⟩],λx=>X7 F x⟩
def ZbH:Fs yf:=Zp5 fuel
theorem ZdW:ZbH.Ok:=fnO { still:=[2,11,16]} [(0,ZhV)] [] trivial ⟨Zk6,ytt⟩
def YG(F:Nat)(s:(UInt64×Int×Int×(List UInt8))):Option ((UInt64×Int×Int×(List UInt8))⊕(List UInt8)):=
 if(decide (s.2.2.1 < s.2.1))=true then
  if(decide (0≤wi (56 - (wi (8*s.2.2.1)))))=true then
   let y234:UInt64:=ZB s.1 (min (wi (56 - (wi (8*s.2.2.1)))).toNat 64)
   if(inB s.2.2.1 8)=true then
    (s.2.2.2[(0+s.2.2.1.toNat)]?).bind λe235=>
    let y236:(List UInt8):=s.2.2.2.set (0+s.2.2.1.toNat) (w8 (y234.toNat:Int))
    some (.inl (s.1,s.2.1,wi (s.2.2.1+1),y236))
   else
   none
  else
  none
 else
 some (.inr s.2.2.2)
def ZhW:Lp:=⟨[(0,.v .u64),(3,.view 0 [] 1 0 8),(7,.v yI),(8,.v yI)],[.var (.v (.arr 8 .u8)) true],[.u64,yI,yI,(.arr 8 .u8)],[⟨.exit 0,[(3,.view 0 [] 1 0 8)],[.var (.v (.arr 8 .u8)) true],[(.arr 8 .u8)]⟩],Zh (YG fuel) fuel⟩
theorem Zk7:ZhW.okA yf 72 0:=ZU { still:=[2]} [] [] trivial
def X8(F:Nat)(a0:UInt64):Option ((List UInt8)):=
 (Zh (YG F) F (a0,8,0,[0,0,0,0,0,0,0,0])).bind λo237=>
 some ((o237.drop 0).take 8)
def Zp6(F:Nat):Fs yf:=⟨72,[.v .u64],[],[.u64],[⟨.ret,[(0,.v (.sl .u8))],[],[(.sl .u8)]⟩],λx=>X8 F x⟩
def Ze7:Fs yf:=Zp6 fuel
theorem ZhX:Ze7.Ok:=fnO { still:=[2]} [(0,ZhW)] [] trivial ⟨Zk7,ytt⟩
def ZCD:ByteArray:=⟨#[115,105,103]⟩
def Y4(F:Nat)(a0:UInt64)(a1:UInt64)(a2:(List UInt8)):Option (UInt64):=
 (X8 F a0).bind λo238=>
 (X8 F a1).bind λo239=>
 (WD F ZCD [o238,o239,a2]).bind λo240=>
 (X7 F o240).bind λo241=>
 some o241
def Zj4(F:Nat):Fs yf:=⟨85,[.v .u64,.v .u64,.v (.arr 32 .u8)],[],[.u64,.u64,(.arr 32 .u8)],[⟨.ret,[(0,.v .u64)],[],[.u64]⟩],λx=>Y4 F x.1 x.2.1 x.2.2⟩
def Zaa:Fs yf:=Zj4 fuel
def ZHO:HI:={ still:=[6,7,9,12,13],frz:=[11]}
theorem Zds:Zaa.Ok:=fnO ZHO [] [Ze7,Zco,ZbH] ⟨ZhX,Zdp,ZdW,ytt⟩
def Ze8(F:Nat)(a0:UInt64):Option (UInt64):=
 (Vd F a0).bind λo242=>
 (Vb F o242 2305843009213688668).bind λo243=>
 some o243
def Zs1(F:Nat):Fs yf:=⟨86,[.v .u64],[],[.u64],[⟨.ret,[(0,.v .u64)],[],[.u64]⟩],λx=>Ze8 F x⟩
def Zl3:Fs yf:=Zs1 fuel
theorem Zs2:Zl3.Ok:=fnO { still:=[2,3,4]} [] [Zay,Zap] ⟨Zcq,Zci,ytt⟩
def Qw(F:Nat)(a0:UInt64)(a1:(List UInt8))(a2:UInt64)(a3:Sig):Option (Bool):=
 if(a0==1)=true then
  some false
 else
 (Xc F a0).bind λo244=>
 if(!o244)=true then
  some false
 else
 (Xc F a2).bind λo245=>
 if(!o245)=true then
  some false
 else
 (Xc F a3.1).bind λo246=>
 if(!o246)=true then
  some false
 else
 (Ve F a3.2).bind λo247=>
 if(!o247)=true then
  some false
 else
 (Y4 F a3.1 a0 a1).bind λo248=>
 (Qv F a0 o248).bind λo249=>
 (Ze8 F a2).bind λo250=>
 (Zcr F [a3.1,o249,o250]).bind λo251=>
 (Xk F a3.2).bind λo252=>
 some (o252==o251)
def Zo2(F:Nat):Fs yf:=⟨56,[.v .u64,.v (.arr 32 .u8),.v .u64,.v Zz],[],[.u64,(.arr 32 .u8),.u64,Zz],[⟨.ret,[(0,.v .bool)],[],[.bool]⟩],λx=>Qw F x.1 x.2.1 x.2.2.1 x.2.2.2⟩
def ZhY:Fs yf:=Zo2 fuel
def ZHP:HI:={ still:=[8,13,18,24,30,36,38,39,40,41,43,45,48]}
theorem Zo3:ZhY.Ok:=fnO ZHP [] [Vs,ZdV,Zaa,ZdU,Zl3,ZgH,Wj] ⟨Qn,ZgI,Zds,ZgG,Zs2,Zj3,WE,ytt⟩
def Ym(F:Nat)(a0:UInt64)(a1:(List UInt8))(a2:Sig):Option (Bool):=
 (Qw F a0 a1 1 a2).bind λo253=>
 some o253
def Zo4(F:Nat):Fs yf:=⟨30,[.v .u64,.v (.arr 32 .u8),.v Zz],[],[.u64,(.arr 32 .u8),Zz],[⟨.ret,[(0,.v .bool)],[],[.bool]⟩],λx=>Ym F x.1 x.2.1 x.2.2⟩
def ZaA:Fs yf:=Zo4 fuel
theorem Zcs:ZaA.Ok:=fnO { still:=[6,7,8,9]} [] [ZhY] ⟨Zo3,ytt⟩
def XS(F:Nat)(s:((List UInt64)×Int×Int×Xb×Zas×(List UInt8)×ZK)):Option (((List UInt64)×Int×Int×Xb×Zas×(List UInt8)×ZK)⊕((Int×Xb×Zas×(List UInt8)×ZK)⊕(Xb×Zas×(List UInt8)×ZK))):=
 if(decide (s.2.2.1 < s.2.1))=true then
  (idx s.1 s.2.2.1).bind λe257=>
  (idx s.2.2.2.2.1.2.1 s.2.2.1).bind λe258=>
  (Ym F e257 s.2.2.2.2.2.1 e258).bind λo259=>
  if(!o259)=true then
   some (.inr (.inl (7,s.2.2.2.1,s.2.2.2.2.1,s.2.2.2.2.2.1,s.2.2.2.2.2.2)))
  else
  some (.inl (s.1,s.2.1,wi (s.2.2.1+1),s.2.2.2.1,s.2.2.2.2.1,s.2.2.2.2.2.1,s.2.2.2.2.2.2))
 else
 some (.inr (.inr (s.2.2.2.1,s.2.2.2.2.1,s.2.2.2.2.2.1,s.2.2.2.2.2.2)))
def Zj5:Lp:=⟨[(6,.ref 1 []),(7,.ref 2 []),(68,.v (.sl .u64)),(69,.v yI),(70,.v yI)],[.var (.v Yi) true,.var (.v WX) true,.var (.v (.arr 32 .u8)) true,.var (.v Zw) true],[(.sl .u64),yI,yI,Yi,WX,(.arr 32 .u8),Zw],[⟨.ret,[(10,.v yI)],[.var (.v Yi) true,.var (.v WX) true,.var (.v (.arr 32 .u8)) true,.var (.v Zw) true],[yI,Yi,WX,(.arr 32 .u8),Zw]⟩,⟨.exit 1,[],[.var (.v Yi) true,.var (.v WX) true,.var (.v (.arr 32 .u8)) true,.var (.v Zw) true],[Yi,WX,(.arr 32 .u8),Zw]⟩],Zh (XS fuel) fuel⟩
theorem ZmA:Zj5.okA yf 58 0:=ZU { still:=[10,14,53,75,76,81]} [] [ZaA] ⟨Zcs,ytt⟩
def Wl(F:Nat)(a0:Xb)(a1:Zas)(a2:(List UInt8))(a3:Int)(a4:Int):Option (Int):=
 (Xh F a0).bind λo254=>
 if(!o254)=true then
  some 1
 else
 if(decide (a1.1 < 0))=true then
  some 1
 else
 if(decide (a1.1 ≥ (a0.length:Int)))=true then
  some 1
 else
 (idx a0 a1.1).bind λe255=>
 if(decide (a3 < e255.2.1))=true then
  some 11
 else
 if(decide (a4 < e255.2.2.1))=true then
  some 11
 else
 if(e255.2.2.2 !=0)=true then
  (Xk F a1.2.2).bind λo256=>
  if(o256 !=e255.2.2.2)=true then
   some 23
  else
  if((a1.2.1.length:Int)!=(e255.1.length:Int))=true then
   some 7
  else
  (Zh (XS F) F (e255.1,(e255.1.length:Int),0,a0,a1,a2,e255)).bind λo260=>
  match o260 with
  |.inl o261=>
   some o261.1
  |.inr o262=>
   some 0
 else
 if((a1.2.1.length:Int)!=(e255.1.length:Int))=true then
  some 7
 else
 (Zh (XS F) F (e255.1,(e255.1.length:Int),0,a0,a1,a2,e255)).bind λo263=>
 match o263 with
 |.inl o264=>
  some o264.1
 |.inr o265=>
  some 0
def Zs3(F:Nat):Fs yf:=⟨58,[.v Yi,.v WX,.v (.arr 32 .u8),.v yI,.v yI],[],[Yi,WX,(.arr 32 .u8),yI,yI],[⟨.ret,[(0,.v yI)],[],[yI]⟩],λx=>Wl F x.1 x.2.1 x.2.2.1 x.2.2.2.1 x.2.2.2.2⟩
def Zl4:Fs yf:=Zs3 fuel
theorem Zs4:Zl4.Ok:=fnO { still:=[10,14,53,75,76,81]} [(0,Zj5)] [Qo,Wj] ⟨Zar,WE,ytt⟩ ⟨ZmA,ytt⟩
def WF(F:Nat)(s:((List In)×Int×Int×Tx×(List Zd))):Option (((List In)×Int×Int×Tx×(List Zd))⊕(Tx×(List Zd))):=
 if(decide (s.2.2.1 < s.2.1))=true then
  (idx s.1 s.2.2.1).bind λe267=>
  if(apB s.2.2.2.2.length 1 40)=true then
   some (.inl (s.1,s.2.1,wi (s.2.2.1+1),s.2.2.2.1,s.2.2.2.2++([e267.1]:List Zd)))
  else
  none
 else
 some (.inr (s.2.2.2.1,s.2.2.2.2))
def Zj6:Lp:=⟨[(2,.own 1 Zb),(9,.v (.sl yIn)),(10,.v yI),(11,.v yI)],[.var (.v yTx) true,.log Zb 34],[(.sl yIn),yI,yI,yTx,(.sl Zb)],[⟨.exit 0,[(2,.own 1 Zb)],[.var (.v yTx) true,.log Zb 34],[yTx,(.sl Zb)]⟩],Zh (WF fuel) fuel⟩
def ZHd:HI:={ own:=[2,15,19,21],still:=[2,5]}
theorem ZmB:Zj6.okA yf 35 0:=ZU ZHd [] [] trivial
def Ze9(F:Nat)(a0:Tx):Option ((List Zd)):=
 (VX F a0).bind λo266=>
 if(!o266)=true then
  some []
 else
 (Zh (WF F) F (a0.1,(a0.1.length:Int),0,a0,[])).bind λo268=>
 some o268.2
def Zs5(F:Nat):Fs yf:=⟨35,[.v yTx],[],[yTx],[⟨.ret,[(0,.v (.sl Zb))],[],[(.sl Zb)]⟩],λx=>Ze9 F x⟩
def Zl5:Fs yf:=Zs5 fuel
theorem Zs6:Zl5.Ok:=fnO ZHd [(0,Zj6)] [Zcl] ⟨Zdk,ytt⟩ ⟨ZmB,ytt⟩
abbrev dT0:Type:=(Int×Int×(List In)×Int×Int×(List (Zd×WW))×(List CoinsStep)×Tx×(List UInt8))
def ZI(F:Nat)(s:dT0):Option (dT0⊕((Int×Int×(List (Zd×WW))×(List CoinsStep)×Tx×(List UInt8))⊕(Int×(List (Zd×WW))×(List CoinsStep)×Tx×(List UInt8)))):=
 if(decide (s.2.2.2.2.1 < s.2.2.2.1))=true then
  (idx s.2.2.1 s.2.2.2.2.1).bind λe271=>
  Zcb (mget s.2.2.2.2.2.1 e271.1) (λe272=>
   (Wl F e272.1.2 e271.2 s.2.2.2.2.2.2.2.2 s.1 (wi (s.1 - e272.2))).bind λo273=>
   if(o273 !=0)=true then
    some (.inr (.inl (0,o273,s.2.2.2.2.2.1,s.2.2.2.2.2.2.1,s.2.2.2.2.2.2.2.1,s.2.2.2.2.2.2.2.2)))
   else
   some (.inl (s.1,wi (s.2.1+e272.1.1),s.2.2.1,s.2.2.2.1,wi (s.2.2.2.2.1+1),s.2.2.2.2.2.1,s.2.2.2.2.2.2.1,s.2.2.2.2.2.2.2.1,s.2.2.2.2.2.2.2.2))) (
   some (.inr (.inl (0,5,s.2.2.2.2.2.1,s.2.2.2.2.2.2.1,s.2.2.2.2.2.2.2.1,s.2.2.2.2.2.2.2.2))))
 else
 some (.inr (.inr (s.2.1,s.2.2.2.2.2.1,s.2.2.2.2.2.2.1,s.2.2.2.2.2.2.2.1,s.2.2.2.2.2.2.2.2)))
abbrev tL1:List Ty:=[yI,yI,(.sl yIn),yI,yI,(YN Zb ZX),(.sl Zf),yTx,(.arr 32 .u8)]
def Zct:Lp:=⟨[(0,.ref 0 []),(2,.v yI),(4,.ref 3 []),(8,.ref 4 []),(9,.v yI),(35,.v (.sl yIn)),(36,.v yI),(37,.v yI)],[.var (.agg [.mp 1,.own 2 Zf]) true,.map 106 Zb ZX,.log Zf 105,.var (.v yTx) true,.var (.v (.arr 32 .u8)) true],tL1,[⟨.ret,[(6,.v yI),(7,.v yI)],[.var (.agg [.mp 1,.own 2 Zf]) true,.map 106 Zb ZX,.log Zf 105,.var (.v yTx) true,.var (.v (.arr 32 .u8)) true],[yI,yI,(YN Zb ZX),(.sl Zf),yTx,(.arr 32 .u8)]⟩,⟨.exit 0,[(0,.ref 0 []),(4,.ref 3 []),(9,.v yI)],[.var (.agg [.mp 1,.own 2 Zf]) true,.map 106 Zb ZX,.log Zf 105,.var (.v yTx) true,.var (.v (.arr 32 .u8)) true],[yI,(YN Zb ZX),(.sl Zf),yTx,(.arr 32 .u8)]⟩],Zh (ZI fuel) fuel⟩
def ZEs:HI:={ still:=[6,7,21,32,55,57,58,59,63,74]}
theorem ZfX:Zct.okA yf 34 0:=ZU ZEs [] [Zl4] ⟨Zs4,ytt⟩
abbrev dT1:Type:=(Int×(List Zd)×Int×Int×(List (Zd×WW))×(List CoinsStep)×Tx×(List UInt8))
def YI(F:Nat)(s:dT1):Option (dT1⊕((Int×Int×(List (Zd×WW))×(List CoinsStep)×Tx×(List UInt8))⊕(Int×(List (Zd×WW))×(List CoinsStep)×Tx×(List UInt8)))):=
 if(decide (s.2.2.2.1 < s.2.2.1))=true then
  (idx s.2.1 s.2.2.2.1).bind λe278=>
  Zcb (mget s.2.2.2.2.1 e278) (λe279=>
   some (.inr (.inl (0,4,s.2.2.2.2.1,s.2.2.2.2.2.1,s.2.2.2.2.2.2.1,s.2.2.2.2.2.2.2)))) (
   some (.inl (s.1,s.2.1,s.2.2.1,wi (s.2.2.2.1+1),s.2.2.2.2.1,s.2.2.2.2.2.1,s.2.2.2.2.2.2.1,s.2.2.2.2.2.2.2)))
 else
 some (.inr (.inr (s.1,s.2.2.2.2.1,s.2.2.2.2.2.1,s.2.2.2.2.2.2.1,s.2.2.2.2.2.2.2)))
abbrev tL2:List Ty:=[yI,(.sl Zb),yI,yI,(YN Zb ZX),(.sl Zf),yTx,(.arr 32 .u8)]
def Zcu:Lp:=⟨[(0,.ref 0 []),(4,.ref 3 []),(9,.v yI),(75,.v (.sl Zb)),(76,.v yI),(77,.v yI)],[.var (.agg [.mp 1,.own 2 Zf]) true,.map 106 Zb ZX,.log Zf 105,.var (.v yTx) true,.var (.v (.arr 32 .u8)) true],tL2,[⟨.ret,[(6,.v yI),(7,.v yI)],[.var (.agg [.mp 1,.own 2 Zf]) true,.map 106 Zb ZX,.log Zf 105,.var (.v yTx) true,.var (.v (.arr 32 .u8)) true],[yI,yI,(YN Zb ZX),(.sl Zf),yTx,(.arr 32 .u8)]⟩,⟨.exit 2,[(4,.ref 3 []),(9,.v yI)],[.var (.agg [.mp 1,.own 2 Zf]) true,.map 106 Zb ZX,.log Zf 105,.var (.v yTx) true,.var (.v (.arr 32 .u8)) true],[yI,(YN Zb ZX),(.sl Zf),yTx,(.arr 32 .u8)]⟩],Zh (YI fuel) fuel⟩
theorem ZfY:Zcu.okA yf 34 1:=ZU ZEs [] [] trivial
def Y7(F:Nat)(s:(Int×(List Out)×Int×Int×(List (Zd×WW))×(List CoinsStep)×Tx×(List UInt8))):Option ((Int×(List Out)×Int×Int×(List (Zd×WW))×(List CoinsStep)×Tx×(List UInt8))⊕(Int×(List (Zd×WW))×(List CoinsStep)×Tx×(List UInt8))):=
 if(decide (s.2.2.2.1 < s.2.2.1))=true then
  (idx s.2.1 s.2.2.2.1).bind λe283=>
  some (.inl (wi (s.1 - e283.1),s.2.1,s.2.2.1,wi (s.2.2.2.1+1),s.2.2.2.2.1,s.2.2.2.2.2.1,s.2.2.2.2.2.2.1,s.2.2.2.2.2.2.2))
 else
 some (.inr (s.1,s.2.2.2.2.1,s.2.2.2.2.2.1,s.2.2.2.2.2.2.1,s.2.2.2.2.2.2.2))
abbrev tL3:List Ty:=[yI,(.sl Zs),yI,yI,(YN Zb ZX),(.sl Zf),yTx,(.arr 32 .u8)]
def Zcv:Lp:=⟨[(9,.v yI),(93,.v (.sl Zs)),(94,.v yI),(95,.v yI)],[.var (.agg [.mp 1,.own 2 Zf]) true,.map 106 Zb ZX,.log Zf 105,.var (.v yTx) true,.var (.v (.arr 32 .u8)) true],tL3,[⟨.exit 4,[(9,.v yI)],[.var (.agg [.mp 1,.own 2 Zf]) true,.map 106 Zb ZX,.log Zf 105,.var (.v yTx) true,.var (.v (.arr 32 .u8)) true],[yI,(YN Zb ZX),(.sl Zf),yTx,(.arr 32 .u8)]⟩],Zh (Y7 fuel) fuel⟩
theorem ZfZ:Zcv.okA yf 34 2:=ZU ZEs [] [] trivial
def Yu(F:Nat)(a1:Tx)(a2:Int)(s1:(List (Zd×WW)))(s2:(List CoinsStep)):Option ((Int×Int×(List (Zd×WW))×(List CoinsStep))):=
 (VX F a1).bind λo269=>
 if(!o269)=true then
  some (0,1,s1,s2)
 else
 if(decide (a2 < 1))=true then
  some (0,1,s1,s2)
 else
 if(decide (a2 > 1048576))=true then
  some (0,1,s1,s2)
 else
 (Yq F a1).bind λo270=>
 (Zh (ZI F) F (a2,0,a1.1,(a1.1.length:Int),0,s1,s2,a1,o270)).bind λo274=>
 match o274 with
 |.inl o275=>
  some (o275.1,o275.2.1,o275.2.2.1,o275.2.2.2.1)
 |.inr o276=>
  (Zep F o276.2.2.2.1).bind λo277=>
  (Zh (YI F) F (o276.1,o277,(o277.length:Int),0,o276.2.1,o276.2.2.1,o276.2.2.2.1,o276.2.2.2.2)).bind λo280=>
  match o280 with
  |.inl o281=>
   some (o281.1,o281.2.1,o281.2.2.1,o281.2.2.2.1)
  |.inr o282=>
   (Zh (Y7 F) F (o282.1,o282.2.2.2.1.2.1,(o282.2.2.2.1.2.1.length:Int),0,o282.2.1,o282.2.2.1,o282.2.2.2.1,o282.2.2.2.2)).bind λo284=>
   if(decide (o284.1 < 0))=true then
    some (0,8,o284.2.1,o284.2.2.1)
   else
   some (o284.1,0,o284.2.1,o284.2.2.1)
def ZiA(F:Nat):Fs yf:=⟨34,[.ref 0 [],.v yTx,.v yI],[.var (.agg [.mp 1,.own 2 Zf]) true,.map 106 Zb ZX,.log Zf 105],[yTx,yI,(YN Zb ZX),(.sl Zf)],[⟨.ret,[(0,.tup [.v yI,.v yI])],[.var (.agg [.mp 1,.own 2 Zf]) true,.map 106 Zb ZX,.log Zf 105],[yI,yI,(YN Zb ZX),(.sl Zf)]⟩],λx=>Yu F x.1 x.2.1 x.2.2.1 x.2.2.2⟩
def Zdt:Fs yf:=ZiA fuel
theorem ZiB:Zdt.Ok:=fnO ZEs [(0,Zct),(1,Zcu),(2,Zcv)] [Zcl,Qu,Zhq] ⟨Zdk,Vu,Ziz,ytt⟩ ⟨ZfX,ZfY,ZfZ,ytt⟩
abbrev dT2:Type:=(Int×(List Zd)×Int×Int×(List (Zd×WW))×(List CoinsStep)×Tx×(List Zd)×(List Ye))
def Y8(F:Nat)(s:dT2):Option (dT2⊕(Int×(List (Zd×WW))×(List CoinsStep)×Tx×(List Zd)×(List Ye))):=
 if(decide (s.2.2.2.1 < s.2.2.1))=true then
  (idx s.2.1 s.2.2.2.1).bind λe288=>
  Zcb (mget s.2.2.2.2.1 e288) (λe289=>
   if(apB s.2.2.2.2.2.2.2.2.length 1 80)=true then
    let y290:(List Ye):=s.2.2.2.2.2.2.2.2++([(e288,e289)]:List Ye)
    some (.inl (s.1,s.2.1,s.2.2.1,wi (s.2.2.2.1+1),W9 s.2.2.2.2.1 e288,s.2.2.2.2.2.1,s.2.2.2.2.2.2.1,s.2.2.2.2.2.2.2.1,y290))
   else
   none) (
   if(apB s.2.2.2.2.2.2.2.2.length 1 80)=true then
    let y291:(List Ye):=s.2.2.2.2.2.2.2.2++([(e288,((0,[]),0))]:List Ye)
    some (.inl (s.1,s.2.1,s.2.2.1,wi (s.2.2.2.1+1),W9 s.2.2.2.2.1 e288,s.2.2.2.2.2.1,s.2.2.2.2.2.2.1,s.2.2.2.2.2.2.2.1,y291))
   else
   none)
 else
 some (.inr (s.1,s.2.2.2.2.1,s.2.2.2.2.2.1,s.2.2.2.2.2.2.1,s.2.2.2.2.2.2.2.1,s.2.2.2.2.2.2.2.2))
def ZEt:List ESh:=[.var (.agg [.mp 1,.own 2 Zf]) true,.map 106 Zb ZX,.log Zf 105,.var (.v yTx) true,.var (.agg [.own 5 VI,.v (.sl Zb)]) true,.log VI 111]
abbrev tL4:List Ty:=[yI,(.sl Zb),yI,yI,(YN Zb ZX),(.sl Zf),yTx,(.sl Zb),(.sl VI)]
def Zcw:Lp:=⟨[(0,.ref 0 []),(2,.v yI),(4,.ref 3 []),(9,.ref 4 []),(28,.v (.sl Zb)),(29,.v yI),(30,.v yI)],ZEt,tL4,[⟨.exit 0,[(0,.ref 0 []),(2,.v yI),(4,.ref 3 []),(9,.ref 4 [])],ZEt,[yI,(YN Zb ZX),(.sl Zf),yTx,(.sl Zb),(.sl VI)]⟩],Zh (Y8 fuel) fuel⟩
def ZGp:HI:={ own:=[35,45,79,82],still:=[6,15,16,17,24,27,70],gst:=[(9,[([0],VI,111)])]}
theorem Zf0:Zcw.okA yf 12 0:=ZU ZGp [] [] trivial
def Y9(F:Nat)(s:dT2):Option (dT2⊕((List (Zd×WW))×(List CoinsStep)×Tx×(List Zd)×(List Ye))):=
 if(decide (s.2.2.2.1 < s.2.2.1))=true then
  (idx s.2.1 s.2.2.2.1).bind λe293=>
  (idx s.2.2.2.2.2.2.1.2.1 s.2.2.2.1).bind λe294=>
  (WT F e294).bind λo295=>
  some (.inl (s.1,s.2.1,s.2.2.1,wi (s.2.2.2.1+1),Za0 s.2.2.2.2.1 e293 (o295,s.1),s.2.2.2.2.2.1,s.2.2.2.2.2.2.1,s.2.2.2.2.2.2.2.1,s.2.2.2.2.2.2.2.2))
 else
 some (.inr (s.2.2.2.2.1,s.2.2.2.2.2.1,s.2.2.2.2.2.2.1,s.2.2.2.2.2.2.2.1,s.2.2.2.2.2.2.2.2))
def Zcx:Lp:=⟨[(0,.ref 0 []),(2,.v yI),(4,.ref 3 []),(9,.ref 4 []),(54,.v (.sl Zb)),(55,.v yI),(56,.v yI)],ZEt,tL4,[⟨.exit 2,[(0,.ref 0 []),(9,.ref 4 [])],ZEt,[(YN Zb ZX),(.sl Zf),yTx,(.sl Zb),(.sl VI)]⟩],Zh (Y9 fuel) fuel⟩
theorem Zf1:Zcx.okA yf 12 1:=ZU ZGp [] [Zdi] ⟨ZeW,ytt⟩
def coins_Set_ApplyM(F:Nat)(a1:Tx)(a2:Int)(s1:(List (Zd×WW)))(s2:(List CoinsStep)):Option ((Int×(List (Zd×WW))×(List CoinsStep))):=
 (Yu F a1 a2 s1 s2).bind λo285=>
 if(o285.2.1 !=0)=true then
  some (o285.2.1,o285.2.2.1,o285.2.2.2)
 else
 (Zep F a1).bind λo286=>
 (Ze9 F a1).bind λo287=>
 (Zh (Y8 F) F (a2,o287,(o287.length:Int),0,o285.2.2.1,o285.2.2.2,a1,o286,[])).bind λo292=>
 (Zh (Y9 F) F (o292.1,o292.2.2.2.2.1,(o292.2.2.2.2.1.length:Int),0,o292.2.1,o292.2.2.1,o292.2.2.2.1,o292.2.2.2.2.1,o292.2.2.2.2.2)).bind λo296=>
 if(apB o296.2.1.length 1 48)=true then
  let y297:(List CoinsStep):=o296.2.1++([(o296.2.2.2.2,o296.2.2.2.1)]:List CoinsStep)
  some (0,o296.1,y297)
 else
 none
def VL(F:Nat):Fs yf:=⟨12,[.ref 0 [],.v yTx,.v yI],[.var (.agg [.mp 1,.own 2 Zf]) true,.map 106 Zb ZX,.log Zf 105],[yTx,yI,(YN Zb ZX),(.sl Zf)],[⟨.ret,[(0,.v yI)],[.var (.agg [.mp 1,.own 2 Zf]) true,.map 106 Zb ZX,.log Zf 105],[yI,(YN Zb ZX),(.sl Zf)]⟩],λx=>coins_Set_ApplyM F x.1 x.2.1 x.2.2.1 x.2.2.2⟩
def Zdu:Fs yf:=VL fuel
theorem Zcy:Zdu.Ok:=fnO ZGp [(0,Zcw),(1,Zcx)] [Zdt,Zhq,Zl5] ⟨ZiB,Ziz,Zs6,ytt⟩ ⟨Zf0,Zf1,ytt⟩
def Qx(F:Nat)(a1:Zd)(s1:(List (Zd×WW)))(s2:(List CoinsStep)):Option ((WW×Bool×(List (Zd×WW))×(List CoinsStep))):=
 Zcb (mget s1 a1) (λe298=>
  (WT F e298.1).bind λo299=>
  some ((o299,e298.2),true,s1,s2)) (
  (WT F (0,[])).bind λo300=>
  some (((0,[]),0),false,s1,s2))
def Zk8(F:Nat):Fs yf:=⟨13,[.ref 0 [],.v Zb],[.var (.agg [.mp 1,.own 2 Zf]) true,.map 106 Zb ZX,.log Zf 105],[Zb,(YN Zb ZX),(.sl Zf)],[⟨.ret,[(0,.tup [.v ZX,.v .bool])],[.var (.agg [.mp 1,.own 2 Zf]) true,.map 106 Zb ZX,.log Zf 105],[ZX,.bool,(YN Zb ZX),(.sl Zf)]⟩],λx=>Qx F x.1 x.2.1 x.2.2⟩
def Zfx:Fs yf:=Zk8 fuel
theorem Zk9:Zfx.Ok:=fnO { still:=[5,18]} [] [Zdi] ⟨ZeW,ytt⟩
def ZJ(F:Nat)(a0:Int)(a1:Int)(a2:Int):Option (Bool):=
 if(decide (a0 ≥ a1))=true then
  some (decide (a0≤a2))
 else
 some false
def Zj7(F:Nat):Fs yf:=⟨32,[.v yI,.v yI,.v yI],[],[yI,yI,yI],[⟨.ret,[(0,.v .bool)],[],[.bool]⟩],λx=>ZJ F x.1 x.2.1 x.2.2⟩
def Yw:Fs yf:=Zj7 fuel
theorem YH:Yw.Ok:=fnO { still:=[6]} [] [] trivial
def WG(F:Nat)(a0:UInt64):Option (Bool):=
 (Xc F a0).bind λo301=>
 if o301=true then
  some (a0 !=1)
 else
 some false
def ZmC(F:Nat):Fs yf:=⟨57,[.v .u64],[],[.u64],[⟨.ret,[(0,.v .bool)],[],[.bool]⟩],λx=>WG F x⟩
def Zcz:Fs yf:=ZmC fuel
theorem Zfy:Zcz.Ok:=fnO { still:=[2,3]} [] [Vs] ⟨Qn,ytt⟩
abbrev Zc:Ty:=(.st [Zb,yI,(.sl .u64),yI,yI])
abbrev FactoryPlan:Type:=(Zd×Int×(List UInt64)×Int×Int)
def YZ(F:Nat)(s:((List UInt64)×Int×Int×FactoryPlan×(List (UInt64×Bool)))):Option (((List UInt64)×Int×Int×FactoryPlan×(List (UInt64×Bool)))⊕((Bool×FactoryPlan×(List (UInt64×Bool)))⊕(FactoryPlan×(List (UInt64×Bool))))):=
 if(decide (s.2.2.1 < s.2.1))=true then
  (idx s.1 s.2.2.1).bind λe302=>
  (WG F e302).bind λo303=>
  if(!o303)=true then
   some (.inr (.inl (false,s.2.2.2.1,s.2.2.2.2)))
  else
  Zcb (mget s.2.2.2.2 e302) (λe304=>
   if e304=true then
    some (.inr (.inl (false,s.2.2.2.1,s.2.2.2.2)))
   else
   some (.inl (s.1,s.2.1,wi (s.2.2.1+1),s.2.2.2.1,Za0 s.2.2.2.2 e302 true))) (
   some (.inl (s.1,s.2.1,wi (s.2.2.1+1),s.2.2.2.1,Za0 s.2.2.2.2 e302 true)))
 else
 some (.inr (.inr (s.2.2.2.1,s.2.2.2.2)))
def Zeq:Lp:=⟨[(1,.ref 0 []),(3,.mp 1),(8,.v (.sl .u64)),(9,.v yI),(10,.v yI)],[.var (.v Zc) true,.map 137 .u64 .bool],[(.sl .u64),yI,yI,Zc,(YN .u64 .bool)],[⟨.ret,[(2,.v .bool)],[.var (.v Zc) true,.map 137 .u64 .bool],[.bool,Zc,(YN .u64 .bool)]⟩,⟨.exit 0,[(1,.ref 0 [])],[.var (.v Zc) true,.map 137 .u64 .bool],[Zc,(YN .u64 .bool)]⟩],Zh (YZ fuel) fuel⟩
def ZHe:HI:={ still:=[2,14,27,32,37,42,47,51]}
theorem Zhz:Zeq.okA yf 31 0:=ZU ZHe [] [Zcz] ⟨Zfy,ytt⟩
def YU(F:Nat)(a0:FactoryPlan):Option (Bool):=
 (Zh (YZ F) F (a0.2.2.1,(a0.2.2.1.length:Int),0,a0,([]:List (UInt64×Bool)))).bind λo305=>
 match o305 with
 |.inl o306=>
  some o306.1
 |.inr o307=>
  (ZJ F o307.1.1.2 0 63).bind λo308=>
  if o308=true then
   (ZJ F (o307.1.2.2.1.length:Int) 2 12).bind λo309=>
   if o309=true then
    (ZJ F o307.1.2.2.2.1 1 4096).bind λo310=>
    if o310=true then
     (ZJ F o307.1.2.2.2.2 0 1125899906842624).bind λo311=>
     if o311=true then
      (ZJ F o307.1.2.1 (wi ((wi (3*o307.1.2.2.2.2))+1)) 1125899906842624).bind λo312=>
      some o312
     else
     some false
    else
    some false
   else
   some false
  else
  some false
def Zla(F:Nat):Fs yf:=⟨31,[.v Zc],[],[Zc],[⟨.ret,[(0,.v .bool)],[],[.bool]⟩],λx=>YU F x⟩
def XE:Fs yf:=Zla fuel
theorem XZ:XE.Ok:=fnO ZHe [(0,Zeq)] [Yw] ⟨YH,ytt⟩ ⟨Zhz,ytt⟩
def Vv(F:Nat)(a0:FactoryPlan)(a1:Int)(a2:Int):Option ((Int×Int)):=
 (YU F a0).bind λo313=>
 if(!o313)=true then
  some (0,0)
 else
 (ZJ F a1 0 15).bind λo314=>
 if(!o314)=true then
  some (0,0)
 else
 let y315:Int:=wi ((wi (3 - (wi (yl a1 4))))*a0.2.2.2.1);let y316:Int:=wi ((wi (a2+y315))+(wi ((wi (3 - (yac a1 4)))*a0.2.2.2.1)))
 some (wi (a2+y315),y316)
def Zba(F:Nat):Fs yf:=⟨10,[.v Zc,.v yI,.v yI],[],[Zc,yI,yI],[⟨.ret,[(0,.tup [.v yI,.v yI])],[],[yI,yI]⟩],λx=>Vv F x.1 x.2.1 x.2.2⟩
def ZgJ:Fs yf:=Zba fuel
theorem Zfz:ZgJ.Ok:=fnO { still:=[6,7,9,13]} [] [XE,Yw] ⟨XZ,YH,ytt⟩
def coins_Set_TotalM(F:Nat)(m:(List (Zd×WW)))(l:(List CoinsStep)):Option (Int×(List (Zd×WW))×(List CoinsStep)):=some (Zis m,m,l)
def VM(F:Nat):Fs yf:=⟨16,[.ref 0 []],[.var (.agg [.mp 1,.own 2 Zf]) true,.map 106 Zb ZX,.log Zf 105],[(YN Zb ZX),(.sl Zf)],[⟨.ret,[(0,.v yI)],[.var (.agg [.mp 1,.own 2 Zf]) true,.map 106 Zb ZX,.log Zf 105],[yI,(YN Zb ZX),(.sl Zf)]⟩],λx=>coins_Set_TotalM F x.1 x.2⟩
def Zdv:Fs yf:=VM fuel
theorem ZcA:Zdv.Ok:=ZGa Zb Zw Zf 106 105
def X0(F:Nat)(s:((List UInt64)×(List UInt64)×Int×Int)):Option (((List UInt64)×(List UInt64)×Int×Int)⊕(Bool⊕Unit)):=
 if(decide (s.2.2.2 < s.2.2.1))=true then
  (idx s.1 s.2.2.2).bind λe317=>
  (idx s.2.1 s.2.2.2).bind λe318=>
  if(e317 !=e318)=true then
   some (.inr (.inl false))
  else
  some (.inl (s.1,s.2.1,s.2.2.1,wi (s.2.2.2+1)))
 else
 some (.inr (.inr ()))
def ZfA:Lp:=⟨[(0,.v (.sl .u64)),(1,.v (.sl .u64)),(12,.v yI),(13,.v yI)],[],[(.sl .u64),(.sl .u64),yI,yI],[⟨.ret,[(4,.v .bool)],[],[.bool]⟩,⟨.exit 0,[],[],[]⟩],Zh (X0 fuel) fuel⟩
theorem ZiC:ZfA.okA yf 39 0:=ZU { still:=[4]} [] [] trivial
def ZaB(F:Nat)(a0:(List UInt64))(a1:(List UInt64)):Option (Bool):=
 if((a0.length:Int)!=(a1.length:Int))=true then
  some false
 else
 (Zh (X0 F) F (a0,a1,(a0.length:Int),0)).bind λo319=>
 match o319 with
 |.inl o320=>
  some o320
 |.inr o321=>
  some true
def ZmD(F:Nat):Fs yf:=⟨39,[.v (.sl .u64),.v (.sl .u64)],[],[(.sl .u64),(.sl .u64)],[⟨.ret,[(0,.v .bool)],[],[.bool]⟩],λx=>ZaB F x.1 x.2⟩
def ZgK:Fs yf:=ZmD fuel
theorem ZmE:ZgK.Ok:=fnO { still:=[4]} [(0,ZfA)] [] trivial ⟨ZiC,ytt⟩
def ZbI(F:Nat)(a0:ZK)(a1:ZK):Option (Bool):=
 (ZaB F a0.1 a1.1).bind λo322=>
 if o322=true then
  if(a0.2.1==a1.2.1)=true then
   if(a0.2.2.1==a1.2.2.1)=true then
    some (a0.2.2.2==a1.2.2.2)
   else
   some false
  else
  some false
 else
 some false
def Zo5(F:Nat):Fs yf:=⟨38,[.v Zw,.v Zw],[],[Zw,Zw],[⟨.ret,[(0,.v .bool)],[],[.bool]⟩],λx=>ZbI F x.1 x.2⟩
def ZhZ:Fs yf:=Zo5 fuel
theorem Zo6:ZhZ.Ok:=fnO { still:=[4,6,8]} [] [ZgK] ⟨ZmE,ytt⟩
def XN(F:Nat)(s:((List ZK)×(List ZK)×Int×Int)):Option (((List ZK)×(List ZK)×Int×Int)⊕(Bool⊕Unit)):=
 if(decide (s.2.2.2 < s.2.2.1))=true then
  (idx s.2.1 s.2.2.2).bind λe323=>
  (idx s.1 s.2.2.2).bind λe324=>
  (ZbI F e323 e324).bind λo325=>
  if(!o325)=true then
   some (.inr (.inl false))
  else
  some (.inl (s.1,s.2.1,s.2.2.1,wi (s.2.2.2+1)))
 else
 some (.inr (.inr ()))
def Zer:Lp:=⟨[(1,.v (.sl Zw)),(2,.fn 38 []),(15,.v (.sl Zw)),(16,.v yI),(17,.v yI)],[],[(.sl Zw),(.sl Zw),yI,yI],[⟨.ret,[(6,.v .bool)],[],[.bool]⟩,⟨.exit 0,[],[],[]⟩],Zh (XN fuel) fuel⟩
theorem ZhA:Zer.okA yf 37 0:=ZU { still:=[6,27,28]} [] [ZhZ] ⟨Zo6,ytt⟩
def ZcB(F:Nat)(a0:(List ZK))(a1:(List ZK)):Option (Bool):=
 if((a0.length:Int)!=(a1.length:Int))=true then
  some false
 else
 (Zh (XN F) F (a1,a0,(a0.length:Int),0)).bind λo326=>
 match o326 with
 |.inl o327=>
  some o327
 |.inr o328=>
  some true
def Zlb(F:Nat):Fs yf:=⟨37,[.v (.sl Zw),.v (.sl Zw),.fn 38 []],[],[(.sl Zw),(.sl Zw)],[⟨.ret,[(0,.v .bool)],[],[.bool]⟩],λx=>ZcB F x.1 x.2⟩
def ZfB:Fs yf:=Zlb fuel
theorem Zlc:ZfB.Ok:=fnO { still:=[6,27,28]} [(0,Zer)] [] trivial ⟨ZhA,ytt⟩
def Zfa(F:Nat)(a0:Xb)(a1:Xb):Option (Bool):=
 (ZcB F a0 a1).bind λo329=>
 some o329
def Zs7(F:Nat):Fs yf:=⟨14,[.v Yi,.v Yi],[],[Yi,Yi],[⟨.ret,[(0,.v .bool)],[],[.bool]⟩],λx=>Zfa F x.1 x.2⟩
def Zl6:Fs yf:=Zs7 fuel
theorem Zs8:Zl6.Ok:=fnO { still:=[4,6,8]} [] [ZfB] ⟨Zlc,ytt⟩
def Zes(F:Nat)(a0:(List UInt64)):Option (Xb):=
 (VH F a0).bind λo330=>
 some [(o330,0,0,0)]
def Zvo(F:Nat):Fs yf:=⟨40,[.v (.sl .u64)],[],[(.sl .u64)],[⟨.ret,[(0,.v Yi)],[],[Yi]⟩],λx=>Zes F x⟩
def ZiD:Fs yf:=Zvo fuel
theorem Zl7:ZiD.Ok:=fnO { still:=[3]} [] [ZdN] ⟨Zgo,ytt⟩
def Zab(F:Nat)(a0:UInt64)(a1:UInt64):Option (Xb):=
 (Zes F [a0,a1]).bind λo331=>
 some o331
def Zs9(F:Nat):Fs yf:=⟨15,[.v .u64,.v .u64],[],[.u64,.u64],[⟨.ret,[(0,.v Yi)],[],[Yi]⟩],λx=>Zab F x.1 x.2⟩
def Zdw:Fs yf:=Zs9 fuel
theorem Zfb:Zdw.Ok:=fnO { still:=[7]} [] [ZiD] ⟨Zl7,ytt⟩
def Yg(F:Nat)(s:((List UInt64)×Int×FactoryPlan×Zd×Int×Int×Int×(List UInt64))):Option (((List UInt64)×Int×FactoryPlan×Zd×Int×Int×Int×(List UInt64))⊕(FactoryPlan×Zd×Int×Int×Int×(List UInt64))):=
 if(decide (s.2.1 < (s.1.length:Int)))=true then
  (idx s.1 s.2.1).bind λe332=>
  (Xk F e332).bind λo333=>
  if(apB s.2.2.2.2.2.2.2.length 1 8)=true then
   some (.inl (s.1,wi (s.2.1+1),s.2.2.1,s.2.2.2.1,s.2.2.2.2.1,s.2.2.2.2.2.1,s.2.2.2.2.2.2.1,s.2.2.2.2.2.2.2++([o333]:List UInt64)))
  else
  none
 else
 some (.inr (s.2.2.1,s.2.2.2.1,s.2.2.2.2.1,s.2.2.2.2.2.1,s.2.2.2.2.2.2.1,s.2.2.2.2.2.2.2))
abbrev tL5:List Ty:=[(.sl .u64),yI,Zc,Zb,yI,yI,yI,(.sl .u64)]
def ZaT:Lp:=⟨[(0,.v (.sl .u64)),(8,.ref 0 []),(9,.ref 1 []),(10,.v yI)],[.var (.v Zc) true,.var (.agg [.v Zb,.v yI,.own 2 .u64,.v yI,.v yI]) true,.log .u64 27],tL5,[⟨.exit 0,[(8,.ref 0 []),(9,.ref 1 [])],[.var (.v Zc) true,.var (.agg [.v Zb,.v yI,.own 2 .u64,.v yI,.v yI]) true,.log .u64 27],[Zc,Zb,yI,yI,yI,(.sl .u64)]⟩],Zh (Yg fuel) fuel⟩
def ZHf:HI:={ own:=[22,29],still:=[26],gst:=[(9,[([2],.u64,27)])]}
theorem Zet:ZaT.okA yf 5 0:=ZU ZHf [] [Wj] ⟨WE,ytt⟩
def Wm(F:Nat)(a0:(List UInt64))(a1:Int)(a2:Int)(a3:Int):Option (FactoryPlan):=
 (Zh (Yg F) F (a0,0,((yzz,0),0,[],0,0),(yzz,0),a1,a2,a3,[])).bind λo334=>
 some (o334.2.1,o334.2.2.1,o334.2.2.2.2.2,o334.2.2.2.1,o334.2.2.2.2.1)
def W3(F:Nat):Fs yf:=⟨5,[.v (.sl .u64),.v yI,.v yI,.v yI],[],[(.sl .u64),yI,yI,yI],[⟨.ret,[(0,.v Zc)],[],[Zc]⟩],λx=>Wm F x.1 x.2.1 x.2.2.1 x.2.2.2⟩
def Zbm:Fs yf:=W3 fuel
theorem ZaU:Zbm.Ok:=fnO ZHf [(0,ZaT)] [] trivial ⟨Zet,ytt⟩
abbrev Zj:Ty:=(.st [(.arr 2 yI),(.arr 2 .u64),yI])
abbrev FactorySub:Type:=((List Int)×(List UInt64)×Int)
def Xp(F:Nat)(s:((List FactorySub)×Int×(List FactorySub)×Int×Int×FactoryPlan)):Option (((List FactorySub)×Int×(List FactorySub)×Int×Int×FactoryPlan)⊕((Int×Bool×FactoryPlan)⊕((List FactorySub)×Int×FactoryPlan))):=
 if(decide (s.2.2.2.2.1 < s.2.2.2.1))=true then
  (idx s.2.2.1 s.2.2.2.2.1).bind λe335=>
  (e335.1[0]?).bind λe336=>
  (ZJ F e336 0 (wi ((s.2.2.2.2.2.2.2.1.length:Int) - 1))).bind λo337=>
  if(!o337)=true then
   some (.inr (.inl (0,false,s.2.2.2.2.2)))
  else
  (e335.1[1]?).bind λe338=>
  (ZJ F e338 0 (wi ((s.2.2.2.2.2.2.2.1.length:Int) - 1))).bind λo339=>
  if(!o339)=true then
   some (.inr (.inl (0,false,s.2.2.2.2.2)))
  else
  (e335.1[0]?).bind λe340=>
  (e335.1[1]?).bind λe341=>
  if(e340==e341)=true then
   some (.inr (.inl (0,false,s.2.2.2.2.2)))
  else
  (e335.2.1[0]?).bind λe342=>
  (WG F e342).bind λo343=>
  if(!o343)=true then
   some (.inr (.inl (0,false,s.2.2.2.2.2)))
  else
  (e335.2.1[1]?).bind λe344=>
  (WG F e344).bind λo345=>
  if(!o345)=true then
   some (.inr (.inl (0,false,s.2.2.2.2.2)))
  else
  (ZJ F e335.2.2 1 1125899906842624).bind λo346=>
  if(!o346)=true then
   some (.inr (.inl (0,false,s.2.2.2.2.2)))
  else
  some (.inl (s.1,wi (s.2.1+e335.2.2),s.2.2.1,s.2.2.2.1,wi (s.2.2.2.2.1+1),s.2.2.2.2.2))
 else
 some (.inr (.inr (s.1,s.2.1,s.2.2.2.2.2)))
def ZfC:Lp:=⟨[(1,.v (.sl Zj)),(2,.ref 0 []),(6,.v yI),(9,.v (.sl Zj)),(10,.v yI),(11,.v yI)],[.var (.v Zc) true],[(.sl Zj),yI,(.sl Zj),yI,yI,Zc],[⟨.ret,[(4,.v yI),(5,.v .bool)],[.var (.v Zc) true],[yI,.bool,Zc]⟩,⟨.exit 0,[(1,.v (.sl Zj)),(6,.v yI)],[.var (.v Zc) true],[(.sl Zj),yI,Zc]⟩],Zh (Xp fuel) fuel⟩
def ZHg:HI:={ still:=[4,5,17,21,27,31,47,54,60,71]}
theorem ZiE:ZfC.okA yf 41 0:=ZU ZHg [] [Yw,Zcz] ⟨YH,Zfy,ytt⟩
def WH(F:Nat)(a0:FactoryPlan)(a1:(List FactorySub)):Option ((Int×Bool)):=
 (Zh (Xp F) F (a1,0,a1,(a1.length:Int),0,a0)).bind λo347=>
 match o347 with
 |.inl o348=>
  some (o348.1,o348.2.1)
 |.inr o349=>
  (ZJ F (o349.1.length:Int) 1 64).bind λo350=>
  some (o349.2.1,o350)
def ZmF(F:Nat):Fs yf:=⟨41,[.v Zc,.v (.sl Zj)],[],[Zc,(.sl Zj)],[⟨.ret,[(0,.tup [.v yI,.v .bool])],[],[yI,.bool]⟩],λx=>WH F x.1 x.2⟩
def ZcC:Fs yf:=ZmF fuel
theorem ZfD:ZcC.Ok:=fnO ZHg [(0,ZfC)] [Yw] ⟨YH,ytt⟩ ⟨ZiE,ytt⟩
def ZaC(F:Nat)(a0:Zd)(a1:Int)(a2:Int)(a3:(List Out)):Option (Tx):=
 some ([(a0,(a1,[],0))],a3,a2)
def ZmG(F:Nat):Fs yf:=⟨42,[.v Zb,.v yI,.v yI,.v (.sl Zs)],[],[Zb,yI,yI,(.sl Zs)],[⟨.ret,[(0,.v yTx)],[],[yTx]⟩],λx=>ZaC F x.1 x.2.1 x.2.2.1 x.2.2.2⟩
def ZgL:Fs yf:=ZmG fuel
theorem ZmH:ZgL.Ok:=fnO {} [] [] trivial
def Ws(F:Nat)(s:((List UInt8)×(List Int)×Int×Int)):Option (((List UInt8)×(List Int)×Int×Int)⊕(List UInt8)):=
 if(decide (s.2.2.2 < s.2.2.1))=true then
  (idx s.2.1 s.2.2.2).bind λe351=>
  (Xo F s.1 e351).bind λo352=>
  some (.inl (o352,s.2.1,s.2.2.1,wi (s.2.2.2+1)))
 else
 some (.inr s.1)
def ZgM:Lp:=⟨[(3,.v (.sl .u8)),(6,.v (.sl yI)),(7,.v yI),(8,.v yI)],[],[(.sl .u8),(.sl yI),yI,yI],[⟨.exit 0,[(3,.v (.sl .u8))],[],[(.sl .u8)]⟩],Zh (Ws fuel) fuel⟩
theorem Zj8:ZgM.okA yf 50 0:=ZU { still:=[2,12,13,17,18]} [] [VK] ⟨VZ,ytt⟩
def ZE3:ByteArray:=⟨#[103,97,116,101]⟩
def Qy(F:Nat)(a0:(List Int)):Option (UInt64):=
 (Zh (Ws F) F ([],a0,(a0.length:Int),0)).bind λo353=>
 (WD F ZE3 [o353]).bind λo354=>
 (X7 F o354).bind λo355=>
 some o355
def Zo7(F:Nat):Fs yf:=⟨50,[.v (.sl yI)],[],[(.sl yI)],[⟨.ret,[(0,.v .u64)],[],[.u64]⟩],λx=>Qy F x⟩
def ZdX:Fs yf:=Zo7 fuel
theorem ZgN:ZdX.Ok:=fnO { still:=[2,12,13,17,18]} [(0,ZgM)] [Zco,ZbH] ⟨Zdp,ZdW,ytt⟩ ⟨Zj8,ytt⟩
def ZcD(F:Nat)(a0:UInt64)(a1:UInt64):Option (UInt64):=
 (Zcr F [a0,a1]).bind λo356=>
 some o356
def Zta(F:Nat):Fs yf:=⟨52,[.v .u64,.v .u64],[],[.u64,.u64],[⟨.ret,[(0,.v .u64)],[],[.u64]⟩],λx=>ZcD F x.1 x.2⟩
def ZgO:Fs yf:=Zta fuel
theorem Zj9:ZgO.Ok:=fnO { still:=[4,7]} [] [ZgH] ⟨Zj3,ytt⟩
def X1(F:Nat)(s:(UInt64×(List UInt64)×Int×Int×FactoryPlan×(List UInt64))):Option ((UInt64×(List UInt64)×Int×Int×FactoryPlan×(List UInt64))⊕(FactoryPlan×(List UInt64))):=
 if(decide (s.2.2.2.1 < s.2.2.1))=true then
  (idx s.2.1 s.2.2.2.1).bind λe359=>
  (ZcD F e359 s.1).bind λo360=>
  if(apB s.2.2.2.2.2.length 1 8)=true then
   some (.inl (s.1,s.2.1,s.2.2.1,wi (s.2.2.2.1+1),s.2.2.2.2.1,s.2.2.2.2.2++([o360]:List UInt64)))
  else
  none
 else
 some (.inr (s.2.2.2.2.1,s.2.2.2.2.2))
def ZfE:Lp:=⟨[(5,.v .u64),(6,.own 1 .u64),(13,.v (.sl .u64)),(14,.v yI),(15,.v yI)],[.var (.v Zc) true,.log .u64 27],[.u64,(.sl .u64),yI,yI,Zc,(.sl .u64)],[⟨.exit 0,[(6,.own 1 .u64)],[.var (.v Zc) true,.log .u64 27],[Zc,(.sl .u64)]⟩],Zh (X1 fuel) fuel⟩
def ZHh:HI:={ own:=[6,19,24],still:=[4,9,10,20,21]}
theorem ZiF:ZfE.okA yf 28 0:=ZU ZHh [] [ZgO] ⟨Zj9,ytt⟩
def Xl(F:Nat)(a0:FactoryPlan)(a1:(List Int)):Option ((List UInt64)):=
 (Qy F a1).bind λo357=>
 (Xk F o357).bind λo358=>
 (Zh (X1 F) F (o358,a0.2.2.1,(a0.2.2.1.length:Int),0,a0,[])).bind λo361=>
 some o361.2
def ZmI(F:Nat):Fs yf:=⟨28,[.v Zc,.v (.sl yI)],[],[Zc,(.sl yI)],[⟨.ret,[(0,.v (.sl .u64))],[],[(.sl .u64)]⟩],λx=>Xl F x.1 x.2⟩
def ZcE:Fs yf:=ZmI fuel
theorem ZfF:ZcE.Ok:=fnO ZHh [(0,ZfE)] [ZdX,Wj] ⟨ZgN,WE,ytt⟩ ⟨ZiF,ytt⟩
def Yk(F:Nat)(a0:(List Int)):Option ((List Int)):=
 if(apB 0 a0.length 8)=true then
  some a0
 else
 none
def ZcF(F:Nat):Fs yf:=⟨61,[.sl true yI],[],[(.sl yI)],[⟨.ret,[(0,.own 0 yI)],[.log yI 3],[(.sl yI)]⟩],λx=>Yk F x⟩
def ZcU:Fs yf:=ZcF fuel
theorem ZcG:ZcU.Ok:=fnO { own:=[2,5,7]} [] [] trivial
def Vw(F:Nat):Option ((List Int)):=
 some []
def ZcH(F:Nat):Fs yf:=⟨61,[.nil yI],[],[],[⟨.ret,[(0,.own 0 yI)],[.log yI 3],[(.sl yI)]⟩],λx=>Vw F⟩
def ZcV:Fs yf:=ZcH fuel
theorem ZcI:ZcV.Ok:=fnO { own:=[2,5,7]} [] [] trivial
def Zbb(F:Nat):Fs yf:=⟨61,[.v (.sl yI)],[],[(.sl yI)],[⟨.ret,[(0,.own 0 yI)],[.log yI 3],[(.sl yI)]⟩],λx=>Yk F x⟩
def WN:Fs yf:=Zbb fuel
theorem Zbc:WN.Ok:=ZwX (t:=yI) (xs:=[⟨.ret,[(0,.own 0 yI)],[.log yI 3],[(.sl yI)]⟩]) (MA:=λ(x:(List Int))=>Yk fuel x) (MB:=λ_=>Vw fuel) ZcG ZcI rfl
def X2(F:Nat)(s:((List Int)×Int×FactoryPlan×Xb×(List ZK))):Option (((List Int)×Int×FactoryPlan×Xb×(List ZK))⊕(FactoryPlan×Xb×(List ZK))):=
 if(decide (s.2.1 < 4))=true then
  (Yk F s.1).bind λo362=>
  if(apB o362.length 1 8)=true then
   (Xl F s.2.2.1 (o362++([s.2.1]:List Int))).bind λo363=>
   if(inB s.2.1 4)=true then
    (s.2.2.2.2[s.2.1.toNat]?).bind λe364=>
    let y365:(List ZK):=s.2.2.2.2.set s.2.1.toNat (o363,(0:Int),wi ((wi (3 - s.2.1))*s.2.2.1.2.2.2.1),(0:UInt64))
    some (.inl (s.1,wi (s.2.1+1),s.2.2.1,s.2.2.2.1,y365))
   else
   none
  else
  none
 else
 some (.inr (s.2.2.1,s.2.2.2.1,s.2.2.2.2))
def ZfG:Lp:=⟨[(1,.v (.sl yI)),(2,.ref 0 []),(4,.ref 1 []),(5,.ref 2 []),(7,.v yI)],[.var (.v Zc) true,.var (.v Yi) true,.var (.v (.arr 4 Zw)) true],[(.sl yI),yI,Zc,Yi,(.arr 4 Zw)],[⟨.exit 0,[(4,.ref 1 []),(5,.ref 2 [])],[.var (.v Zc) true,.var (.v Yi) true,.var (.v (.arr 4 Zw)) true],[Zc,Yi,(.arr 4 Zw)]⟩],Zh (X2 fuel) fuel⟩
def ZHi:HI:={ own:=[13,16],still:=[11,12,16],frz:=[26]}
theorem ZiG:ZfG.okA yf 43 0:=ZU ZHi [] [WN,ZcE] ⟨Zbc,ZfF,ytt⟩
def XT(F:Nat)(a0:FactoryPlan)(a1:(List Int)):Option (Xb):=
 (Zh (X2 F) F (a1,0,a0,[],[([],0,0,0),([],0,0,0),([],0,0,0),([],0,0,0)])).bind λo366=>
 some o366.2.2
def ZmJ(F:Nat):Fs yf:=⟨43,[.v Zc,.v (.sl yI)],[],[Zc,(.sl yI)],[⟨.ret,[(0,.v Yi)],[],[Yi]⟩],λx=>XT F x.1 x.2⟩
def ZcJ:Fs yf:=ZmJ fuel
theorem ZfH:ZcJ.Ok:=fnO ZHi [(0,ZfG)] [] trivial ⟨ZiG,ytt⟩
def Zac(F:Nat)(a0:Zd)(a1:Int)(a2:Int):Option (((List In)×Int)):=
 some ([(a0,(a1,[],0))],a2)
def ZiH(F:Nat):Fs yf:=⟨42,[.v Zb,.v yI,.v yI,.nil Zs],[],[Zb,yI,yI],[⟨.ret,[(0,.agg [.v (.sl yIn),.nil Zs,.v yI])],[],[(.sl yIn),yI]⟩],λx=>Zac F x.1 x.2.1 x.2.2⟩
def Zdx:Fs yf:=ZiH fuel
theorem ZiI:Zdx.Ok:=fnO {} [] [] trivial
def Wt(F:Nat)(s:((List FactorySub)×Int×Int×FactoryPlan×Tx×Tx×(List In)×Int×(List Out))):Option (((List FactorySub)×Int×Int×FactoryPlan×Tx×Tx×(List In)×Int×(List Out))⊕(FactoryPlan×Tx×Tx×(List In)×Int×(List Out))):=
 if(decide (s.2.2.1 < s.2.1))=true then
  (idx s.1 s.2.2.1).bind λe377=>
  (e377.2.1[0]?).bind λe378=>
  (e377.2.1[1]?).bind λe379=>
  (Zab F e378 e379).bind λo380=>
  if(apB s.2.2.2.2.2.2.2.2.length 1 32)=true then
   let y381:(List Out):=s.2.2.2.2.2.2.2.2++([(e377.2.2,o380)]:List Out)
   some (.inl (s.1,s.2.1,wi (s.2.2.1+1),s.2.2.2.1,s.2.2.2.2.1,s.2.2.2.2.2.1,s.2.2.2.2.2.2.1,s.2.2.2.2.2.2.2.1,y381))
  else
  none
 else
 some (.inr (s.2.2.2.1,s.2.2.2.2.1,s.2.2.2.2.2.1,s.2.2.2.2.2.2.1,s.2.2.2.2.2.2.2.1,s.2.2.2.2.2.2.2.2))
abbrev tL6:List Ty:=[(.sl Zj),yI,yI,Zc,yTx,yTx,(.sl yIn),yI,(.sl Zs)]
def ZgP:Lp:=⟨[(12,.ref 1 []),(13,.ref 2 []),(14,.ref 3 []),(84,.v (.sl Zj)),(85,.v yI),(86,.v yI)],[.var (.v Zc) true,.var (.v yTx) true,.var (.v yTx) true,.var (.agg [.v (.sl yIn),.own 4 Zs,.v yI]) true,.log Zs 63],tL6,[⟨.exit 1,[(12,.ref 1 []),(13,.ref 2 []),(14,.ref 3 [])],[.var (.v Zc) true,.var (.v yTx) true,.var (.v yTx) true,.var (.agg [.v (.sl yIn),.own 4 Zs,.v yI]) true,.log Zs 63],[Zc,yTx,yTx,(.sl yIn),yI,(.sl Zs)]⟩],Zh (Wt fuel) fuel⟩
def ZHj:HI:={ own:=[91,103],still:=[6,7,17,21,26,27,48,54,55,58,60,62,63,64,71,73,76,78,80,81,82,96,99],gst:=[(14,[([1],Zs,63)])]}
theorem Zka:ZgP.okA yf 19 0:=ZU ZHj [] [Zdw] ⟨Zfb,ytt⟩
def Vf(F:Nat)(a0:FactoryPlan)(a1:Int)(a2:(List FactorySub)):Option (((List Tx)×Int)):=
 (YU F a0).bind λo367=>
 if(!o367)=true then
  some ([],1)
 else
 (ZJ F a1 0 15).bind λo368=>
 if(!o368)=true then
  some ([],1)
 else
 (WH F a0 a2).bind λo369=>
 if(!o369.2)=true then
  some ([],1)
 else
 if(o369.1 !=(wi (a0.2.1 - (wi (3*a0.2.2.2.2)))))=true then
  some ([],8)
 else
 (XT F a0 [1]).bind λo370=>
 (ZaC F a0.1 0 0 [(wi (a0.2.1 - a0.2.2.2.2),o370)]).bind λo371=>
 (Yq F o371).bind λo372=>
 (XT F a0 [2,wi (yl a1 4)]).bind λo373=>
 (ZaC F (o372,0) (wi (yl a1 4)) (wi (yl a1 4)) [(wi (a0.2.1 - (wi (2*a0.2.2.2.2))),o373)]).bind λo374=>
 (Yq F o374).bind λo375=>
 (Zac F (o375,0) (yac a1 4) a1).bind λo376=>
 (Zh (Wt F) F (a2,(a2.length:Int),0,a0,o371,o374,o376.1,o376.2,[])).bind λo382=>
 some ([o382.2.1,o382.2.2.1,(o382.2.2.2.1,o382.2.2.2.2.2,o382.2.2.2.2.1)],0)
def ZcK(F:Nat):Fs yf:=⟨19,[.v Zc,.v yI,.v (.sl Zj)],[],[Zc,yI,(.sl Zj)],[⟨.ret,[(0,.tup [.v (.sl yTx),.v yI])],[],[(.sl yTx),yI]⟩],λx=>Vf F x.1 x.2.1 x.2.2⟩
def ZdY:Fs yf:=ZcK fuel
theorem ZcL:ZdY.Ok:=fnO ZHj [(0,ZgP)] [Zdx,XE,Yw,ZcC,ZcJ,ZgL,Qu] ⟨ZiI,XZ,YH,ZfD,ZfH,ZmH,Vu,ytt⟩ ⟨Zka,ytt⟩
def WI(F:Nat)(a0:Int):Option ((List (List Int))):=
 some [[1,wi (yl a0 4)],[2,wi (yl a0 4),yac a0 4]]
def ZmK(F:Nat):Fs yf:=⟨27,[.v yI],[],[yI],[⟨.ret,[(0,.v (.arr 2 (.sl yI)))],[],[(.arr 2 (.sl yI))]⟩],λx=>WI F x⟩
def ZcM:Fs yf:=ZmK fuel
theorem ZfI:ZcM.Ok:=fnO {} [] [] trivial
def Zhr(F:Nat)(a0:UInt64):Option (Bool):=
 (Ve F a0).bind λo383=>
 if o383=true then
  some (a0 !=0)
 else
 some false
def Zvp(F:Nat):Fs yf:=⟨69,[.v .u64],[],[.u64],[⟨.ret,[(0,.v .bool)],[],[.bool]⟩],λx=>Zhr F x⟩
def Zo8:Fs yf:=Zvp fuel
theorem Zvq:Zo8.Ok:=fnO { still:=[2,3]} [] [ZdV] ⟨ZgI,ytt⟩
def Zad(F:Nat)(a0:UInt64):Option (UInt64):=
 some (a0 % 2305843009213688669)
def Zvr(F:Nat):Fs yf:=⟨73,[.v .u64],[],[.u64],[⟨.ret,[(0,.v .u64)],[],[.u64]⟩],λx=>Zad F x⟩
def ZiJ:Fs yf:=Zvr fuel
theorem Zl8:ZiJ.Ok:=fnO { still:=[2]} [] [] trivial
def Zbd(F:Nat)(a0:UInt64)(a1:UInt64):Option (UInt64):=
 some ((a0+a1) % 2305843009213688669)
def Zkb(F:Nat):Fs yf:=⟨74,[.v .u64,.v .u64],[],[.u64,.u64],[⟨.ret,[(0,.v .u64)],[],[.u64]⟩],λx=>Zbd F x.1 x.2⟩
def Zeu:Fs yf:=Zkb fuel
theorem Zkc:Zeu.Ok:=fnO { still:=[4]} [] [] trivial
def Zae(F:Nat)(a0:UInt64)(a1:UInt64):Option (UInt64):=
 (Zad F a0).bind λo384=>
 (Zad F a1).bind λo385=>
 (Zbd F o384 o385).bind λo386=>
 some o386
def Ztb(F:Nat):Fs yf:=⟨49,[.v .u64,.v .u64],[],[.u64,.u64],[⟨.ret,[(0,.v .u64)],[],[.u64]⟩],λx=>Zae F x.1 x.2⟩
def Zdy:Fs yf:=Ztb fuel
theorem Zfc:Zdy.Ok:=fnO { still:=[4,5,6,7,8]} [] [ZiJ,Zeu] ⟨Zl8,Zkc,ytt⟩
def Zaf(F:Nat)(a0:UInt64)(a1:UInt64):Option (UInt64):=
 (ZaN F a0 a1).bind λo387=>
 (Xg F o387.1 o387.2 2305843009213688669).bind λo388=>
 some o388
def ZiK(F:Nat):Fs yf:=⟨100,[.v .u64,.v .u64],[],[.u64,.u64],[⟨.ret,[(0,.v .u64)],[],[.u64]⟩],λx=>Zaf F x.1 x.2⟩
def Zdz:Fs yf:=ZiK fuel
theorem ZiL:Zdz.Ok:=fnO { still:=[4,8,9,13,14]} [] [ZeZ,Zby] ⟨ZhO,ZdO,ytt⟩
def Zfd(F:Nat)(a0:UInt64)(a1:UInt64):Option (UInt64):=
 (Zad F a0).bind λo389=>
 (Zad F a1).bind λo390=>
 (Zaf F o389 o390).bind λo391=>
 some o391
def Ztc(F:Nat):Fs yf:=⟨89,[.v .u64,.v .u64],[],[.u64,.u64],[⟨.ret,[(0,.v .u64)],[],[.u64]⟩],λx=>Zfd F x.1 x.2⟩
def Zl9:Fs yf:=Ztc fuel
theorem Ztd:Zl9.Ok:=fnO { still:=[4,5,6,7,8]} [] [ZiJ,Zdz] ⟨Zl8,ZiL,ytt⟩
def Zfe(F:Nat)(a0:UInt64)(a1:UInt64)(a2:(List UInt8))(a3:UInt64):Option (Sig):=
 (Xk F a1).bind λo392=>
 (ZcD F o392 a3).bind λo393=>
 (Xk F a0).bind λo394=>
 (Y4 F o393 o394 a2).bind λo395=>
 (Zfd F o395 a0).bind λo396=>
 (Zae F a1 o396).bind λo397=>
 some (o393,o397)
def Zo9(F:Nat):Fs yf:=⟨70,[.v .u64,.v .u64,.v (.arr 32 .u8),.v .u64],[],[.u64,.u64,(.arr 32 .u8),.u64],[⟨.ret,[(0,.v Zz)],[],[Zz]⟩],λx=>Zfe F x.1 x.2.1 x.2.2.1 x.2.2.2⟩
def Zh0:Fs yf:=Zo9 fuel
def ZHQ:HI:={ still:=[9,10,11,14,16,17,18,19,20,21,22]}
theorem Zpa:Zh0.Ok:=fnO ZHQ [] [Wj,ZgO,Zaa,Zl9,Zdy] ⟨WE,Zj9,Zds,Ztd,Zfc,ytt⟩
def ZE4:ByteArray:=⟨#[110,111,110,99,101]⟩
def VN(F:Nat)(a0:UInt64)(a1:(List UInt8)):Option (Sig):=
 (Zhr F a0).bind λo398=>
 if(!o398)=true then
  some (0,0)
 else
 (X8 F a0).bind λo399=>
 (WD F ZE4 [o399,a1]).bind λo400=>
 (X7 F o400).bind λo401=>
 (Zfe F a0 o401 a1 1).bind λo402=>
 some o402
def Zte(F:Nat):Fs yf:=⟨48,[.v .u64,.v (.arr 32 .u8)],[],[.u64,(.arr 32 .u8)],[⟨.ret,[(0,.v Zz)],[],[Zz]⟩],λx=>VN F x.1 x.2⟩
def ZgQ:Fs yf:=Zte fuel
def ZHR:HI:={ still:=[5,9,10,13,14,15,16],frz:=[12]}
theorem Zkd:ZgQ.Ok:=fnO ZHR [] [Zo8,Ze7,Zco,ZbH,Zh0] ⟨Zvq,ZhX,Zdp,ZdW,Zpa,ytt⟩
def X3(F:Nat)(s:(UInt64×(List Tx)×(List (List Int))×Int×FactoryPlan×(List Sig))):Option ((UInt64×(List Tx)×(List (List Int))×Int×FactoryPlan×(List Sig))⊕(FactoryPlan×(List Sig))):=
 if(decide (s.2.2.2.1 < 2))=true then
  (idx s.2.2.1 s.2.2.2.1).bind λe412=>
  (Qy F e412).bind λo413=>
  (Zae F s.1 o413).bind λo414=>
  (idx s.2.1 (wi (s.2.2.2.1+1))).bind λe415=>
  (Yq F e415).bind λo416=>
  (VN F o414 o416).bind λo417=>
  if(apB s.2.2.2.2.2.length 1 16)=true then
   some (.inl (s.1,s.2.1,s.2.2.1,wi (s.2.2.2.1+1),s.2.2.2.2.1,s.2.2.2.2.2++([o417]:List Sig)))
  else
  none
 else
 some (.inr (s.2.2.2.2.1,s.2.2.2.2.2))
def ZfJ:Lp:=⟨[(4,.v .u64),(12,.v (.sl yTx)),(14,.own 1 Zz),(54,.v (.arr 2 (.sl yI))),(55,.v yI)],[.var (.v Zc) true,.log Zz 93],[.u64,(.sl yTx),(.arr 2 (.sl yI)),yI,Zc,(.sl Zz)],[⟨.exit 1,[(14,.own 1 Zz)],[.var (.v Zc) true,.log Zz 93],[Zc,(.sl Zz)]⟩],Zh (X3 fuel) fuel⟩
def ZHk:HI:={ own:=[14,52,59,72],still:=[10,11,18,19,20,29,33,37,45,46,49,50,53,60,61,62,63,68,69]}
theorem ZiM:ZfJ.okA yf 24 0:=ZU ZHk [] [ZdX,Zdy,Qu,ZgQ] ⟨ZgN,Zfc,Vu,Zkd,ytt⟩
def ZaD(F:Nat)(a0:FactoryPlan)(a1:Int)(a2:(List FactorySub))(a3:Int)(a4:UInt64):Option (((List Sig)×Int)):=
 (Vf F a0 a1 a2).bind λo403=>
 if(o403.2 !=0)=true then
  some ([],o403.2)
 else
 (ZJ F a3 0 (wi ((a0.2.2.1.length:Int) - 1))).bind λo404=>
 if(!o404)=true then
  some ([],5)
 else
 (Xk F a4).bind λo405=>
 (idx a0.2.2.1 a3).bind λe406=>
 if(o405 !=e406)=true then
  some ([],7)
 else
 (Zae F a4 0).bind λo407=>
 (idx o403.1 0).bind λe408=>
 (Yq F e408).bind λo409=>
 (VN F o407 o409).bind λo410=>
 (WI F a1).bind λo411=>
 (Zh (X3 F) F (a4,o403.1,o411,0,a0,[o410])).bind λo418=>
 some (o418.2,0)
def ZmL(F:Nat):Fs yf:=⟨24,[.v Zc,.v yI,.v (.sl Zj),.v yI,.v .u64],[],[Zc,yI,(.sl Zj),yI,.u64],[⟨.ret,[(0,.tup [.v (.sl Zz),.v yI])],[],[(.sl Zz),yI]⟩],λx=>ZaD F x.1 x.2.1 x.2.2.1 x.2.2.2.1 x.2.2.2.2⟩
def ZgR:Fs yf:=ZmL fuel
theorem ZmM:ZgR.Ok:=fnO ZHk [(0,ZfJ)] [ZdY,Yw,Wj,Zdy,Qu,ZgQ,ZcM] ⟨ZcL,YH,WE,Zfc,Vu,Zkd,ZfI,ytt⟩ ⟨ZiM,ytt⟩
def Yx(F:Nat)(s:(Int×(List FactorySub)×(List UInt64)×Int×FactoryPlan×(List (List Sig)))):Option ((Int×(List FactorySub)×(List UInt64)×Int×FactoryPlan×(List (List Sig)))⊕(((List (List Sig))×Bool×FactoryPlan×(List (List Sig)))⊕(FactoryPlan×(List (List Sig))))):=
 if(decide (s.2.2.2.1 < (s.2.2.1.length:Int)))=true then
  (idx s.2.2.1 s.2.2.2.1).bind λe419=>
  (ZaD F s.2.2.2.2.1 s.1 s.2.1 s.2.2.2.1 e419).bind λo420=>
  if(o420.2 !=0)=true then
   some (.inr (.inl ([],false,s.2.2.2.2.1,s.2.2.2.2.2)))
  else
  if(apB s.2.2.2.2.2.length 1 24)=true then
   some (.inl (s.1,s.2.1,s.2.2.1,wi (s.2.2.2.1+1),s.2.2.2.2.1,s.2.2.2.2.2++([o420.1]:List (List Sig))))
  else
  none
 else
 some (.inr (.inr (s.2.2.2.2.1,s.2.2.2.2.2)))
def Qz:Lp:=⟨[(1,.v yI),(2,.v (.sl Zj)),(3,.v (.sl .u64)),(4,.ref 0 []),(10,.own 1 (.sl Zz)),(11,.v yI)],[.var (.v Zc) true,.log (.sl Zz) 80],[yI,(.sl Zj),(.sl .u64),yI,Zc,(.sl (.sl Zz))],[⟨.ret,[(8,.v (.sl (.sl Zz))),(9,.v .bool)],[.var (.v Zc) true,.log (.sl Zz) 80],[(.sl (.sl Zz)),.bool,Zc,(.sl (.sl Zz))]⟩,⟨.exit 0,[(10,.own 1 (.sl Zz))],[.var (.v Zc) true,.log (.sl Zz) 80],[Zc,(.sl (.sl Zz))]⟩],Zh (Yx fuel) fuel⟩
def ZHl:HI:={ own:=[10,34,37],still:=[8,9,21,22,23,24,28]}
theorem ZcW:Qz.okA yf 6 0:=ZU ZHl [] [ZgR] ⟨ZmM,ytt⟩
def XO(F:Nat)(a0:FactoryPlan)(a1:Int)(a2:(List FactorySub))(a3:(List UInt64)):Option (((List (List Sig))×Bool)):=
 (Zh (Yx F) F (a1,a2,a3,0,a0,[])).bind λo421=>
 match o421 with
 |.inl o422=>
  some (o422.1,o422.2.1)
 |.inr o423=>
  some (o423.2,true)
def Wn(F:Nat):Fs yf:=⟨6,[.v Zc,.v yI,.v (.sl Zj),.v (.sl .u64)],[],[Zc,yI,(.sl Zj),(.sl .u64)],[⟨.ret,[(0,.tup [.v (.sl (.sl Zz)),.v .bool])],[],[(.sl (.sl Zz)),.bool]⟩],λx=>XO F x.1 x.2.1 x.2.2.1 x.2.2.2⟩
def QM:Fs yf:=Wn fuel
theorem QA:QM.Ok:=fnO ZHl [(0,Qz)] [] trivial ⟨ZcW,ytt⟩
def Vg(F:Nat)(a0:Zd)(a1:Int)(a2:Int)(a3:(List Out)):Option (((List Out)×Int×Zd×Int×UInt64)):=
 some (a3,a2,a0,a1,0)
def ZiN(F:Nat):Fs yf:=⟨42,[.v Zb,.v yI,.v yI,.v (.sl Zs)],[],[Zb,yI,yI,(.sl Zs)],[⟨.ret,[(0,.agg [.rv 0 0 36 0 1,.v (.sl Zs),.v yI])],[.rowD 0 36 true 97 1 [.agg [.v Zb,.agg [.v yI,.nil Zz,.v .u64]]]],[(.sl Zs),yI,Zb,yI,.u64]⟩],λx=>Vg F x.1 x.2.1 x.2.2.1 x.2.2.2⟩
def ZdA:Fs yf:=ZiN fuel
theorem ZiO:ZdA.Ok:=fnO { row:=[13],own:=[13]} [] [] trivial
def Zag(F:Nat)(a0:Zd)(a1:Int)(a2:Int):Option ((Int×Zd×Int×UInt64)):=
 some (a2,a0,a1,0)
def ZiP(F:Nat):Fs yf:=⟨42,[.v Zb,.v yI,.v yI,.nil Zs],[],[Zb,yI,yI],[⟨.ret,[(0,.agg [.rv 0 0 36 0 1,.nil Zs,.v yI])],[.rowD 0 36 true 97 1 [.agg [.v Zb,.agg [.v yI,.nil Zz,.v .u64]]]],[yI,Zb,yI,.u64]⟩],λx=>Zag F x.1 x.2.1 x.2.2⟩
def ZdB:Fs yf:=ZiP fuel
theorem ZiQ:ZdB.Ok:=fnO { row:=[13],own:=[13]} [] [] trivial
abbrev dT3:Type:=((List FactorySub)×Int×Int×FactoryPlan×Zd×Int×UInt64×(List Out)×Int×Zd×Int×UInt64×(List Out)×Int×Zd×Int×UInt64×Int×(List Out))
abbrev dT4:Type:=(FactoryPlan×Zd×Int×UInt64×(List Out)×Int×Zd×Int×UInt64×(List Out)×Int×Zd×Int×UInt64×Int×(List Out))
def Xz(F:Nat)(s:dT3):Option (dT3⊕dT4):=
 if(decide (s.2.2.1 < s.2.1))=true then
  (idx s.1 s.2.2.1).bind λe434=>
  (e434.2.1[0]?).bind λe435=>
  (e434.2.1[1]?).bind λe436=>
  (Zab F e435 e436).bind λo437=>
  if(apB s.2.2.2.2.2.2.2.2.2.2.2.2.2.2.2.2.2.2.length 1 32)=true then
   let y438:(List Out):=s.2.2.2.2.2.2.2.2.2.2.2.2.2.2.2.2.2.2++([(e434.2.2,o437)]:List Out)
   some (.inl (s.1,s.2.1,wi (s.2.2.1+1),s.2.2.2.1,s.2.2.2.2.1,s.2.2.2.2.2.1,s.2.2.2.2.2.2.1,s.2.2.2.2.2.2.2.1,s.2.2.2.2.2.2.2.2.1,s.2.2.2.2.2.2.2.2.2.1,s.2.2.2.2.2.2.2.2.2.2.1,s.2.2.2.2.2.2.2.2.2.2.2.1,s.2.2.2.2.2.2.2.2.2.2.2.2.1,s.2.2.2.2.2.2.2.2.2.2.2.2.2.1,s.2.2.2.2.2.2.2.2.2.2.2.2.2.2.1,s.2.2.2.2.2.2.2.2.2.2.2.2.2.2.2.1,s.2.2.2.2.2.2.2.2.2.2.2.2.2.2.2.2.1,s.2.2.2.2.2.2.2.2.2.2.2.2.2.2.2.2.2.1,y438))
  else
  none
 else
 some (.inr (s.2.2.2.1,s.2.2.2.2.1,s.2.2.2.2.2.1,s.2.2.2.2.2.2.1,s.2.2.2.2.2.2.2.1,s.2.2.2.2.2.2.2.2.1,s.2.2.2.2.2.2.2.2.2.1,s.2.2.2.2.2.2.2.2.2.2.1,s.2.2.2.2.2.2.2.2.2.2.2.1,s.2.2.2.2.2.2.2.2.2.2.2.2.1,s.2.2.2.2.2.2.2.2.2.2.2.2.2.1,s.2.2.2.2.2.2.2.2.2.2.2.2.2.2.1,s.2.2.2.2.2.2.2.2.2.2.2.2.2.2.2.1,s.2.2.2.2.2.2.2.2.2.2.2.2.2.2.2.2.1,s.2.2.2.2.2.2.2.2.2.2.2.2.2.2.2.2.2.1,s.2.2.2.2.2.2.2.2.2.2.2.2.2.2.2.2.2.2))
def ZHm:List ESh:=[.var (.v Zc) true,.rowD 0 36 true 97 1 [.agg [.v Zb,.agg [.v yI,.nil Zz,.v .u64]]],.var (.agg [.rv 1 0 36 0 1,.v (.sl Zs),.v yI]) true,.rowD 0 36 true 97 1 [.agg [.v Zb,.agg [.v yI,.nil Zz,.v .u64]]],.var (.agg [.rv 3 0 36 0 1,.v (.sl Zs),.v yI]) true,.rowD 0 36 true 97 1 [.agg [.v Zb,.agg [.v yI,.nil Zz,.v .u64]]],.var (.agg [.rv 5 0 36 0 1,.own 7 Zs,.v yI]) true,.log Zs 63]
abbrev tL7:List Ty:=[Zc,Zb,yI,.u64,(.sl Zs),yI,Zb,yI,.u64,(.sl Zs),yI,Zb,yI,.u64,yI,(.sl Zs)]
abbrev tL8:List Ty:=[(.sl Zj),yI,yI,Zc,Zb,yI,.u64,(.sl Zs),yI,Zb,yI,.u64,(.sl Zs),yI,Zb,yI,.u64,yI,(.sl Zs)]
def ZdC:Lp:=⟨[(12,.ref 2 []),(13,.ref 4 []),(14,.ref 6 []),(84,.v (.sl Zj)),(85,.v yI),(86,.v yI)],ZHm,tL8,[⟨.exit 1,[(12,.ref 2 []),(13,.ref 4 []),(14,.ref 6 [])],ZHm,tL7⟩],Zh (Xz fuel) fuel⟩
def ZHn:HI:={ row:=[109],own:=[91,103,109],still:=[17,21,26,27,48,54,55,58,60,62,63,64,71,73,76,78,80,81,82,96,99],gst:=[(14,[([1],Zs,63)])]}
theorem ZgS:ZdC.okA yf 19 0:=ZU ZHn [] [Zdw] ⟨Zfb,ytt⟩
def Wu(F:Nat)(a0:FactoryPlan)(a1:Int)(a2:(List FactorySub)):Option (Int⊕(Int×(List Out)×Int×(List Out)×Int×Int×Zd×Int×UInt64×Zd×Int×UInt64×Zd×Int×UInt64×(List Out))):=
 (YU F a0).bind λo424=>
 if(!o424)=true then
  some (.inl 1)
 else
 (ZJ F a1 0 15).bind λo425=>
 if(!o425)=true then
  some (.inl 1)
 else
 (WH F a0 a2).bind λo426=>
 if(!o426.2)=true then
  some (.inl 1)
 else
 if(o426.1 !=(wi (a0.2.1 - (wi (3*a0.2.2.2.2)))))=true then
  some (.inl 8)
 else
 (XT F a0 [1]).bind λo427=>
 (Vg F a0.1 0 0 [(wi (a0.2.1 - a0.2.2.2.2),o427)]).bind λo428=>
 (Yq F ([(o428.2.2.1,(o428.2.2.2.1,[],o428.2.2.2.2))],o428.1,o428.2.1)).bind λo429=>
 (XT F a0 [2,wi (yl a1 4)]).bind λo430=>
 (Vg F (o429,0) (wi (yl a1 4)) (wi (yl a1 4)) [(wi (a0.2.1 - (wi (2*a0.2.2.2.2))),o430)]).bind λo431=>
 (Yq F ([(o431.2.2.1,(o431.2.2.2.1,[],o431.2.2.2.2))],o431.1,o431.2.1)).bind λo432=>
 (Zag F (o432,0) (yac a1 4) a1).bind λo433=>
 (Zh (Xz F) F (a2,(a2.length:Int),0,a0,o428.2.2.1,o428.2.2.2.1,o428.2.2.2.2,o428.1,o428.2.1,o431.2.2.1,o431.2.2.2.1,o431.2.2.2.2,o431.1,o431.2.1,o433.2.1,o433.2.2.1,o433.2.2.2,o433.1,[])).bind λo439=>
 some (.inr (0,o439.2.2.2.2.1,o439.2.2.2.2.2.1,o439.2.2.2.2.2.2.2.2.2.1,o439.2.2.2.2.2.2.2.2.2.2.1,o439.2.2.2.2.2.2.2.2.2.2.2.2.2.2.1,o439.2.1,o439.2.2.1,o439.2.2.2.1,o439.2.2.2.2.2.2.1,o439.2.2.2.2.2.2.2.1,o439.2.2.2.2.2.2.2.2.1,o439.2.2.2.2.2.2.2.2.2.2.2.1,o439.2.2.2.2.2.2.2.2.2.2.2.2.1,o439.2.2.2.2.2.2.2.2.2.2.2.2.2.1,o439.2.2.2.2.2.2.2.2.2.2.2.2.2.2.2))
def Zke(F:Nat):Fs yf:=⟨19,[.v Zc,.v yI,.v (.sl Zj)],[],[Zc,yI,(.sl Zj)],[⟨.ret,[(0,.tup [.nil yTx,.v yI])],[],[yI]⟩,⟨.ret,[(0,.tup [.rv 0 0 3 0 3,.v yI])],[.rowD 0 3 true 58 3 [.agg [.rv 1 0 36 0 1,.v (.sl Zs),.v yI],.agg [.rv 2 0 36 0 1,.v (.sl Zs),.v yI],.agg [.rv 3 0 36 0 1,.own 4 Zs,.v yI]],.rowD 0 36 true 97 1 [.agg [.v Zb,.agg [.v yI,.nil Zz,.v .u64]]],.rowD 0 36 true 97 1 [.agg [.v Zb,.agg [.v yI,.nil Zz,.v .u64]]],.rowD 0 36 true 97 1 [.agg [.v Zb,.agg [.v yI,.nil Zz,.v .u64]]],.log Zs 63],[yI,(.sl Zs),yI,(.sl Zs),yI,yI,Zb,yI,.u64,Zb,yI,.u64,Zb,yI,.u64,(.sl Zs)]⟩],λx=>Wu F x.1 x.2.1 x.2.2⟩
def Zev:Fs yf:=Zke fuel
theorem Zkf:Zev.Ok:=fnO ZHn [(0,ZdC)] [ZdB,XE,Yw,ZcC,ZcJ,ZdA,Qu] ⟨ZiQ,XZ,YH,ZfD,ZfH,ZiO,Vu,ytt⟩ ⟨ZgS,ytt⟩
def ZfK(F:Nat)(a0:(List Sig))(s0:(List Tx)):Option ((Bool×(List Tx))):=
 some ((a0.length:Int)!=(s0.length:Int),s0)
def Zkg(F:Nat):Fs yf:=⟨26,[.v (.sl Zz),.ref 0 []],[.var (.v (.sl yTx)) true],[(.sl Zz),(.sl yTx)],[⟨.ret,[(0,.v .bool)],[.var (.v (.sl yTx)) true],[.bool,(.sl yTx)]⟩],λx=>ZfK F x.1 x.2⟩
def Zew:Fs yf:=Zkg fuel
theorem Zkh:Zew.Ok:=fnO { still:=[3]} [] [] trivial
def ZgT(F:Nat)(s:((List (List Sig))×Int×Int×(List Tx))):Option (((List (List Sig))×Int×Int×(List Tx))⊕((Int×(List Tx))⊕(List Tx))):=
 if(decide (s.2.2.1 < s.2.1))=true then
  (idx s.1 s.2.2.1).bind λe442=>
  (ZfK F e442 s.2.2.2).bind λo443=>
  if o443.1=true then
   some (.inr (.inl (s.2.2.1,o443.2)))
  else
  some (.inl (s.1,s.2.1,wi (s.2.2.1+1),o443.2))
 else
 some (.inr (.inr s.2.2.2))
def Zh1:Lp:=⟨[(0,.v (.sl (.sl Zz))),(1,.fn 26 [.ref 0 []]),(7,.v yI),(8,.v yI)],[.var (.v (.sl yTx)) true],[(.sl (.sl Zz)),yI,yI,(.sl yTx)],[⟨.ret,[(4,.v yI)],[.var (.v (.sl yTx)) true],[yI,(.sl yTx)]⟩,⟨.exit 0,[],[.var (.v (.sl yTx)) true],[(.sl yTx)]⟩],Zh (ZgT fuel) fuel⟩
theorem Zld:Zh1.okA yf 51 0:=ZU { still:=[4,15]} [] [Zew] ⟨Zkh,ytt⟩
def Zma(F:Nat)(a0:(List (List Sig)))(s0:(List Tx)):Option ((Int×(List Tx))):=
 (Zh (ZgT F) F (a0,(a0.length:Int),0,s0)).bind λo444=>
 match o444 with
 |.inl o445=>
  some (o445.1,o445.2)
 |.inr o446=>
  some ((-1),o446)
def Zp7(F:Nat):Fs yf:=⟨51,[.v (.sl (.sl Zz)),.fn 26 [.ref 0 []]],[.var (.v (.sl yTx)) true],[(.sl (.sl Zz)),(.sl yTx)],[⟨.ret,[(0,.v yI)],[.var (.v (.sl yTx)) true],[yI,(.sl yTx)]⟩],λx=>Zma F x.1 x.2⟩
def Zki:Fs yf:=Zp7 fuel
theorem Zp8:Zki.Ok:=fnO { still:=[4,15]} [(0,Zh1)] [] trivial ⟨Zld,ytt⟩
end
end Go.Proofs.YtkapgdbeeblihaaGreat
end
