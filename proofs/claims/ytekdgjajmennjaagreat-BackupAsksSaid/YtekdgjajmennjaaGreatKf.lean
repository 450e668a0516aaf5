/- Parts of the proof, in one file. -/
import Derived.Test.YtekdgjajmennjaaGreatKe
open Option renaming some → ab, none → ae
open Bool renaming true → af, false → ag
open Decidable renaming decide → ah
open Bool renaming and_eq_true → yi
open Go.Proofs.Tryz renaming prog → yb
open List renaming length_append → yr, length_map → yx, replicate → yy, map_cons → yad, length_take → yae, length_cons → yah, getElem?_map → yaj, append_assoc → yak, map_append → yal, getElem?_eq_none → yan, getElem?_cons_succ → yat, mem_cons → yaw, length_set → yba, take_append_drop → ybk, length_drop → ybq, not_mem_nil → ycd, getElem?_set_self → yci, length_replicate → ycs, getElem?_set_ne → ycz, getD_eq_getElem?_getD → yda
open Nat renaming le_refl → ym, add → yw, shiftRight → yag, mod_eq_of_lt → yap, add_mul → yav, zero_add → yaz, mod_lt → ybo, lt_or_ge → ybr, mul_comm → ybu, mul_le_mul_right → ycg, eq_zero_or_pos → ycj
open Option renaming bind_some → ya
open UInt32 renaming toNat → ybn, toNat_ofNat' → ycu
open UInt64 renaming ofNat → yaf, toNat_ofNat' → ybj, toNat_lt → ycc, toNat_inj → ycp, le_iff_toNat_le → yct, lt_iff_toNat_lt → ycx
open UInt8 renaming ofNat → ybh, toNat → ybm
set_option linter.unusedVariables false
set_option linter.unusedSimpArgs false
section
set_option maxRecDepth 4000
namespace Go.Proofs.YtekdgjajmennjaaGreat
open Go Go.Ev
section
variable{y1 y0 u d q r:Nat}
theorem ZQj(h:q*y1+r=u)(hc:4294967296*r+d < q*y0):u*4294967296+d < q*(y1*4294967296+y0):=by
 have e:q*(y1*4294967296+y0)=q*y1*4294967296+q*y0:=by rw[Nat.mul_add,Nat.mul_assoc]
 rw[e];omega
theorem HS(h:q*y1+r=u)(hc:q*y0<=4294967296*r+d):q*(y1*4294967296+y0)<=u*4294967296+d:=by
 have e:q*(y1*4294967296+y0)=q*y1*4294967296+q*y0:=by rw[Nat.mul_add,Nat.mul_assoc]
 rw[e];omega
theorem ZPc(hu:u < y1*4294967296+y0)(hd:d < 4294967296):(u*4294967296+d) / (y1*4294967296+y0) < 4294967296:=by
 rw[Nat.div_lt_iff_lt_mul (by omega)];omega
theorem ZGV(h:q*y1+r=u)(hq:1<=q):(q - 1)*y1+(r+y1)=u:=by
 have e:q*y1=(q - 1)*y1+y1:=by
  rw[<-Nat.succ_mul];congr 1;omega
 omega
theorem ZKG(hu:u < y1*4294967296+y0)(h0:y0 < 4294967296)(h:q*y1+r=u)(hr:4294967296<=r):q*y0<=4294967296*r+d:=by
 by_cases hq:q < 4294967296
 .have:q*y0<=4294967295*4294967295:=Nat.mul_le_mul (by omega) (by omega);omega
 .have:4294967296*y1<=q*y1:=ycg _ (by omega);omega
end
theorem HT{q T Y:Nat}(hY:0 < Y)(h1:T / Y<=q)(h2:q*Y<=T):q=T / Y:=Nat.le_antisymm ((Nat.le_div_iff_mul_le hY).2 h2) h1
theorem ZDc{y1 y0 u d:Nat}{Q R Y0 Y1 D:yU}(hY1:Y1.toNat=y1)(hY0:Y0.toNat=y0)(hD:D.toNat=d)(h1:y1 < 4294967296)(h0:y0 < 4294967296)(hd:d < 4294967296)(hu:u < y1*4294967296+y0)
 (e:Q.toNat*y1+R.toNat=u) (hr:R.toNat < 4294967296) (hge:(u*4294967296+d) / (y1*4294967296+y0)<=Q.toNat):
 ((Q >= 4294967296\/(Q*Y0 > (4294967296*R)+D))/\(u*4294967296+d) / (y1*4294967296+y0)<=(Q - 1).toNat/\(Q - 1).toNat*y1+(R+Y1).toNat=u/\(R+Y1).toNat=R.toNat+y1)\/
 (¬Q >= 4294967296/\¬(Q*Y0 > (4294967296*R)+D)/\Q.toNat=(u*4294967296+d) / (y1*4294967296+y0)):=by
 have hadd:(R+Y1).toNat=R.toNat+y1:=by rw[oU (by omega),hY1]
 have hrd:((4294967296*R)+D).toNat=4294967296*R.toNat+d:=by
  have m:(4294967296*R:yU).toNat=4294967296*R.toNat:=by
   rw[oV (by show 4294967296*R.toNat < _;omega)];rfl
  rw[oU (by rw[m];omega),m,hD]
 have dec:1<=Q.toNat->(Q - 1).toNat=Q.toNat - 1:=λh=>by
  rw[UInt64.toNat_sub_of_le _ _ (by rw[yct];exact h)];rfl
 by_cases c1:Q >= 4294967296
 .left
  have hq:4294967296<=Q.toNat:=by
   rw[ge_iff_le,yct]at c1;exact c1
  have:=ZPc hu hd;refine⟨.inl c1,by rw[dec (by omega)];omega, ?_,hadd⟩;rw[dec (by omega),hadd];exact ZGV e (by omega)
 have hq:Q.toNat < 4294967296:=by
  rw[ge_iff_le,yct]at c1;exact Nat.lt_of_not_le c1
 have hmul:(Q*Y0).toNat=Q.toNat*y0:=by
  have:=sq hq h0;rw[oV (by rw[hY0];omega),hY0]
 by_cases c2:Q*Y0 > (4294967296*R)+D
 .left
  have c3:4294967296*R.toNat+d < Q.toNat*y0:=by
   have:=ycx.1 c2;rw[hmul,hrd]at this;exact this
  have q1:1<=Q.toNat:=by
   rcases ycj Q.toNat with h|h
   .rw[h,Nat.zero_mul]at c3;omega
   .exact h
  have hg:=ZQj (d:=d) e c3;have hlt:(u*4294967296+d) / (y1*4294967296+y0) < Q.toNat:=(Nat.div_lt_iff_lt_mul (by omega)).2 hg;refine⟨.inr c2,by rw[dec q1];omega, ?_,hadd⟩;rw[dec q1,hadd];exact ZGV e q1
 .right
  have c3:Q.toNat*y0<=4294967296*R.toNat+d:=by
   have:¬(((4294967296*R)+D).toNat < (Q*Y0).toNat):=λh=>c2 (ycx.2 h);rw[hmul,hrd]at this;omega
  exact⟨c1,c2,HT (by omega) hge (HS e c3)⟩
theorem ZQk{y1 y0 u d:Nat}{Yv N Y1 Y0 U D E Q R:yU}(hY1:Y1.toNat=y1)(hY0:Y0.toNat=y0)(hD:D.toNat=d)(h1:y1 < 4294967296)(h3:0 < y1)(h0:y0 < 4294967296)(hd:d < 4294967296)(hu:u < y1*4294967296+y0)
 (e:Q.toNat*y1+R.toNat=u) (hr:R.toNat < 4294967296) (hge:(u*4294967296+d) / (y1*4294967296+y0)<=Q.toNat):
 ∃q:yU,Zc (VL yD) yD (Yv,N,Y1,Y0,U,D,E,Q,R)=ab (Yv,N,Y1,Y0,U,D,E,q)/\q.toNat=(u*4294967296+d) / (y1*4294967296+y0):=by
 obtain⟨x,hx,q,rfl,hq⟩:=Wc (step:=VL yD) (λs=>∃Q R:yU,s=(Yv,N,Y1,Y0,U,D,E,Q,R)/\Q.toNat*y1+R.toNat=u/\R.toNat < 4294967296/\(u*4294967296+d) / (y1*4294967296+y0)<=Q.toNat)
  (λs=>4294967296 - s.2.2.2.2.2.2.2.2.toNat) (λx=>∃q:yU,x=(Yv,N,Y1,Y0,U,D,E,q)/\q.toNat=(u*4294967296+d) / (y1*4294967296+y0)) (by
  rintro _ ⟨Q,R,rfl,e,hr,hge⟩;unfold VL;dsimp only;rcases ZDc hY1 hY0 hD h1 h0 hd hu e hr hge with⟨c,k1,k2,k3⟩|⟨c1,c2,k⟩
  .have key:(∃j,(if ah (R+Y1 >= 4294967296)=af then ab (Sum.inr (Yv,N,Y1,Y0,U,D,E,Q - 1)) else ab (Sum.inl (Yv,N,Y1,Y0,U,D,E,Q - 1,R+Y1)):yO ((yU×qZ)⊕(qZ)))=ab (.inl j)/\
    (∃Q R:yU,j=(Yv,N,Y1,Y0,U,D,E,Q,R)/\Q.toNat*y1+R.toNat=u/\R.toNat < 4294967296/\(u*4294967296+d) / (y1*4294967296+y0)<=Q.toNat)/\4294967296 - j.2.2.2.2.2.2.2.2.toNat < 4294967296 - R.toNat)\/
    (∃x,(if ah (R+Y1 >= 4294967296)=af then ab (Sum.inr (Yv,N,Y1,Y0,U,D,E,Q - 1)) else ab (Sum.inl (Yv,N,Y1,Y0,U,D,E,Q - 1,R+Y1)):yO ((yU×qZ)⊕(qZ)))=ab (.inr x)/\
    ∃q:yU,x=(Yv,N,Y1,Y0,U,D,E,q)/\q.toNat=(u*4294967296+d) / (y1*4294967296+y0)):=by
    by_cases hb:R+Y1 >= 4294967296
    .right;rw[yW (yY hb)]
     have hb2:4294967296<=(R+Y1).toNat:=by
      rw[ge_iff_le,yct]at hb;exact hb
     exact⟨_,rfl,_,rfl,HT (by omega) k1 (HS k2 (ZKG hu h0 k2 hb2))⟩
    .left;rw[yX (by rw[yN];exact hb)]
     have hb2:(R+Y1).toNat < 4294967296:=by
      rw[ge_iff_le,yct]at hb;exact Nat.lt_of_not_le hb
     exact⟨_,rfl,⟨_,_,rfl,k2,hb2,k1⟩,by dsimp only;omega⟩
   rcases c with c|c
   .rw[yW (yY c)];exact key
   .by_cases c1:Q >= 4294967296
    .rw[yW (yY c1)];exact key
    .rw[yX (by rw[yN];exact c1),yW (yY c)];exact key
  .right;rw[yX (by rw[yN];exact c1),yX (by rw[yN];exact c2)];exact⟨_,rfl,_,rfl,k⟩) (Yv,N,Y1,Y0,U,D,E,Q,R) ⟨Q,R,rfl,e,hr,hge⟩ (by dsimp only;omega)
 exact⟨q,hx,hq⟩
theorem ZQl{y1 y0 u d:Nat}{Yv N Y1 Y0 U D E Q R:yU}(hY1:Y1.toNat=y1)(hY0:Y0.toNat=y0)(hD:D.toNat=d)(h1:y1 < 4294967296)(h3:0 < y1)(h0:y0 < 4294967296)(hd:d < 4294967296)(hu:u < y1*4294967296+y0)
 (e:Q.toNat*y1+R.toNat=u) (hr:R.toNat < 4294967296) (hge:(u*4294967296+d) / (y1*4294967296+y0)<=Q.toNat):
 ∃q:yU,Zc (VM yD) yD (Yv,N,Y1,Y0,D,E,R,U,Q)=ab (Yv,N,D,E,U,q)/\q.toNat=(u*4294967296+d) / (y1*4294967296+y0):=by
 obtain⟨x,hx,q,rfl,hq⟩:=Wc (step:=VM yD) (λs=>∃Q R:yU,s=(Yv,N,Y1,Y0,D,E,R,U,Q)/\Q.toNat*y1+R.toNat=u/\R.toNat < 4294967296/\(u*4294967296+d) / (y1*4294967296+y0)<=Q.toNat)
  (λs=>4294967296 - s.2.2.2.2.2.2.1.toNat) (λx=>∃q:yU,x=(Yv,N,D,E,U,q)/\q.toNat=(u*4294967296+d) / (y1*4294967296+y0)) (by
  rintro _ ⟨Q,R,rfl,e,hr,hge⟩;unfold VM;dsimp only;rcases ZDc hY1 hY0 hD h1 h0 hd hu e hr hge with⟨c,k1,k2,k3⟩|⟨c1,c2,k⟩
  .have key:(∃j,(if ah (R+Y1 >= 4294967296)=af then ab (Sum.inr (Yv,N,D,E,U,Q - 1)) else ab (Sum.inl (Yv,N,Y1,Y0,D,E,R+Y1,U,Q - 1)):yO ((yU×qZ)⊕(yU×yU×yU×yU×yU×yU)))=ab (.inl j)/\
    (∃Q R:yU,j=(Yv,N,Y1,Y0,D,E,R,U,Q)/\Q.toNat*y1+R.toNat=u/\R.toNat < 4294967296/\(u*4294967296+d) / (y1*4294967296+y0)<=Q.toNat)/\4294967296 - j.2.2.2.2.2.2.1.toNat < 4294967296 - R.toNat)\/
    (∃x,(if ah (R+Y1 >= 4294967296)=af then ab (Sum.inr (Yv,N,D,E,U,Q - 1)) else ab (Sum.inl (Yv,N,Y1,Y0,D,E,R+Y1,U,Q - 1)):yO ((yU×qZ)⊕(yU×yU×yU×yU×yU×yU)))=ab (.inr x)/\
    ∃q:yU,x=(Yv,N,D,E,U,q)/\q.toNat=(u*4294967296+d) / (y1*4294967296+y0)):=by
    by_cases hb:R+Y1 >= 4294967296
    .right;rw[yW (yY hb)]
     have hb2:4294967296<=(R+Y1).toNat:=by
      rw[ge_iff_le,yct]at hb;exact hb
     exact⟨_,rfl,_,rfl,HT (by omega) k1 (HS k2 (ZKG hu h0 k2 hb2))⟩
    .left;rw[yX (by rw[yN];exact hb)]
     have hb2:(R+Y1).toNat < 4294967296:=by
      rw[ge_iff_le,yct]at hb;exact Nat.lt_of_not_le hb
     exact⟨_,rfl,⟨_,_,rfl,k2,hb2,k1⟩,by dsimp only;omega⟩
   rcases c with c|c
   .rw[yW (yY c)];exact key
   .by_cases c1:Q >= 4294967296
    .rw[yW (yY c1)];exact key
    .rw[yX (by rw[yN];exact c1),yW (yY c)];exact key
  .right;rw[yX (by rw[yN];exact c1),yX (by rw[yN];exact c2)];exact⟨_,rfl,_,rfl,k⟩) (Yv,N,Y1,Y0,D,E,R,U,Q) ⟨Q,R,rfl,e,hr,hge⟩ (by dsimp only;omega)
 exact⟨q,hx,hq⟩
theorem ZGW{A B:yU}{a b:Nat}(hA:A.toNat=a % 18446744073709551616)(hB:B.toNat=b % 18446744073709551616)(h:b<=a)(hd:a - b < 18446744073709551616):(A - B).toNat=a - b:=by
 rw[UInt64.toNat_sub,hA,hB];omega
theorem ZrR(u y1:Nat):u / y1*y1+u % y1=u:=by
 have:=Nat.div_add_mod u y1;rw[ybu]at this;exact this
theorem ZKH{u y1 y0 d:Nat}(h1:0 < y1)(hd:d < 4294967296):(u*4294967296+d) / (y1*4294967296+y0)<=u / y1:=by
 have h:(u*4294967296+d) / (y1*4294967296+y0)<=(u*4294967296+d) / (y1*4294967296):=Nat.div_le_div_left (by omega) (by omega)
 have e:(u*4294967296+d) / (y1*4294967296)=u / y1:=by
  rw[ybu y1, <-Nat.div_div_eq_div_mul];congr 1;omega
 omega
theorem ZKI{a b y:yU}{s:Nat}{Y:yU}(hy:y≠0)(hs:Yt yD y=ab (s:Int))(s0:0 < s)(s1:s < 64)(hY:Vv y s=Y)(hYn:Y.toNat=y.toNat*2 ^ s)(hY63:9223372036854775808<=Y.toNat)(ha:a.toNat < y.toNat):
 ∃q r,vJ yD a b y=ab (q,r)/\r.toNat=(a.toNat*18446744073709551616+b.toNat) % y.toNat:=by
 have ha2:¬(y<=a):=by
  rw[yct];omega
 unfold vJ;rw[yX (by rw[yT];exact hy),yX (by rw[yN];exact ha2)];by_cases h0:a=0
 .subst h0;rw[yW (by decide),yW (by rw[yE];exact hy),yW (by rw[yE];exact hy)];refine⟨_,_,rfl, ?_⟩;rw[UInt64.toNat_mod];simp
 rw[yX (by rw[yT];exact h0),hs,ya];dsimp only
 have w:eK (s:Int)=yaf s:=by
  unfold eK;congr 1;omega
 have ws:(eK (s:Int)).toNat=s:=by rw[w,ybj,yap (by omega)]
 have e1:min ((eK (s:Int)).toNat:Int).toNat 64=s:=by rw[ws];omega
 have e2:(64 - eK (s:Int)).toNat=64 - s:=by
  rw[UInt64.toNat_sub_of_le _ _ (by rw[yct,ws];show s<=64;omega),ws];rfl
 have e3:min ((64 - eK (s:Int)).toNat:Int).toNat 64=64 - s:=by rw[e2];omega
 rw[e1,e3,hY];have hYl:=ycc Y;have hb:=ycc b
 have p64:2 ^ (64 - s)*2 ^ s=18446744073709551616:=by
  rw[<-Nat.pow_add];have:64 - s+s=64:=by omega
  rw[this]
 have hp:0 < 2 ^ s:=Nat.pow_pos (by decide);obtain⟨y1,hy1⟩:∃y1,y1=Y.toNat / 4294967296:=⟨_,rfl⟩;obtain⟨y0,hy0⟩:∃y0,y0=Y.toNat % 4294967296:=⟨_,rfl⟩;have hYd:Y.toNat=y1*4294967296+y0:=by omega
 have ty1:(ZG Y 32).toNat=y1:=by rw[Qu,hy1]
 have ty0:(Y&&&4294967295).toNat=y0:=by rw[jl,hy0]
 have l1:y1 < 4294967296:=by omega
 have g1:2147483648<=y1:=by omega
 have l0:y0 < 4294967296:=by omega
 have hash:a.toNat*2 ^ s < Y.toNat:=by rw[hYn];exact Nat.mul_lt_mul_of_pos_right ha hp
 have bd:b.toNat / 2 ^ (64 - s) < 2 ^ s:=by
  rw[Nat.div_lt_iff_lt_mul (Nat.pow_pos (by decide)),ybu,p64];exact hb
 have tu:((Vv a s)|||(ZG b (64 - s))).toNat=a.toNat*2 ^ s+b.toNat / 2 ^ (64 - s):=by
  rw[UInt64.toNat_or,Qu];unfold Vv;rw[ybj,yap (by omega),ybu, <-Nat.two_pow_add_eq_or_of_lt bd]
 have t10:(Vv b s).toNat=b.toNat*2 ^ s % 18446744073709551616:=by
  unfold Vv;rw[ybj]
 obtain⟨u,hu⟩:∃u,u=a.toNat*2 ^ s+b.toNat / 2 ^ (64 - s):=⟨_,rfl⟩;obtain⟨v,hv⟩:∃v,v=b.toNat*2 ^ s % 18446744073709551616:=⟨_,rfl⟩;rw[<-hu]at tu;rw[<-hv]at t10
 have hbs:b.toNat*2 ^ s=b.toNat / 2 ^ (64 - s)*18446744073709551616+v:=by
  have h1:=Nat.div_add_mod (b.toNat*2 ^ s) 18446744073709551616
  have h2:b.toNat*2 ^ s / 18446744073709551616=b.toNat / 2 ^ (64 - s):=by
   rw[<-p64];exact Nat.mul_div_mul_right _ _ hp
  rw[h2, <-hv]at h1;omega
 have hN:(a.toNat*18446744073709551616+b.toNat)*2 ^ s=u*18446744073709551616+v:=by
  rw[yav,hbs,hu,Nat.mul_right_comm];omega
 have uY:u < y1*4294967296+y0:=by
  rw[<-hYd,hu,hYn];have h1:(a.toNat+1)*2 ^ s<=y.toNat*2 ^ s:=ycg _ ha;rw[yav,Nat.one_mul]at h1;omega
 have hvl:v < 18446744073709551616:=by rw[hv];exact ybo _ (by decide)
 obtain⟨d1,hd1⟩:∃d1,d1=v / 4294967296:=⟨_,rfl⟩;obtain⟨d0,hd0⟩:∃d0,d0=v % 4294967296:=⟨_,rfl⟩;have td1:(ZG (Vv b s) 32).toNat=d1:=by rw[Qu,t10,hd1]
 have td0:((Vv b s)&&&4294967295).toNat=d0:=by rw[jl,t10,hd0]
 generalize ((Vv a s)|||(ZG b (64 - s)):yU)=U at tu ⊢;generalize (ZG (Vv b s) 32:yU)=D1 at td1 ⊢;generalize ((Vv b s)&&&4294967295:yU)=D0 at td0 ⊢;generalize (ZG Y 32:yU)=Y1 at ty1 ⊢;generalize (Y&&&4294967295:yU)=Y0 at ty0 ⊢
 have y1ne:(Y1 !=0)=af:=by
  rw[yE];intro h;rw[h]at ty1;have:(0:yU).toNat=0:=rfl;omega
 rw[yW y1ne]
 have f1:(U / Y1).toNat*y1+(U - U / Y1*Y1).toNat=u:=by
  rw[vK,UInt64.toNat_div,tu,ty1];exact ZrR u y1
 have f2:(U - U / Y1*Y1).toNat < 4294967296:=by
  rw[vK,tu,ty1];exact Nat.lt_trans (ybo _ (by omega)) l1
 have f3:(u*4294967296+d1) / (y1*4294967296+y0)<=(U / Y1).toNat:=by
  rw[UInt64.toNat_div,tu,ty1];exact ZKH (by omega) (by omega)
 obtain⟨q1,k1,k2⟩:=ZQk (Yv:=Y) (N:=eK (s:Int)) (U:=U) (E:=D0) ty1 ty0 td1 l1 (by omega) l0 (by omega) uY f1 f2 f3;rw[k1,ya];dsimp only;rw[yW y1ne];have m1:=Nat.div_add_mod (u*4294967296+d1) Y.toNat
 have m2:(u*4294967296+d1) % Y.toNat < Y.toNat:=ybo _ (by omega);rw[<-hYd]at k2
 have tv:(((U*4294967296)+D1) - (q1*Y)).toNat=(u*4294967296+d1) % Y.toNat:=by
  rw[ZGW (a:=u*4294967296+d1) (b:=q1.toNat*Y.toNat) ?_ ?_ ?_ ?_]
  .rw[k2,ybu ((u*4294967296+d1) / Y.toNat)];omega
  .rw[UInt64.toNat_add,UInt64.toNat_mul,tu,td1,show(4294967296:yU).toNat=4294967296 from rfl]
   omega
  .rw[UInt64.toNat_mul]
  .rw[k2,ybu ((u*4294967296+d1) / Y.toNat)];omega
  .rw[k2,ybu ((u*4294967296+d1) / Y.toNat)];omega
 obtain⟨u2,hu2⟩:∃u2,u2=(u*4294967296+d1) % Y.toNat:=⟨_,rfl⟩;rw[<-hu2]at tv m2 m1;generalize (((U*4294967296)+D1) - (q1*Y):yU)=V at tv ⊢
 have f4:(V / Y1).toNat*y1+(V - V / Y1*Y1).toNat=u2:=by
  rw[vK,UInt64.toNat_div,tv,ty1];exact ZrR u2 y1
 have f5:(V - V / Y1*Y1).toNat < 4294967296:=by
  rw[vK,tv,ty1];exact Nat.lt_trans (ybo _ (by omega)) l1
 have f6:(u2*4294967296+d0) / (y1*4294967296+y0)<=(V / Y1).toNat:=by
  rw[UInt64.toNat_div,tv,ty1];exact ZKH (by omega) (by omega)
 obtain⟨q0,k3,k4⟩:=ZQl (Yv:=Y) (N:=eK (s:Int)) (U:=V) (E:=q1) ty1 ty0 td0 l1 (by omega) l0 (by omega) (by rw[<-hYd];exact m2) f4 f5 f6;rw[k3,ya];refine⟨_,_,rfl, ?_⟩;dsimp only;rw[e1,Qu];rw[<-hYd]at k4;have m3:=Nat.div_add_mod (u2*4294967296+d0) Y.toNat
 have m4:(u2*4294967296+d0) % Y.toNat < Y.toNat:=ybo _ (by omega)
 have tr:(((V*4294967296)+D0) - (q0*Y)).toNat=(u2*4294967296+d0) % Y.toNat:=by
  rw[ZGW (a:=u2*4294967296+d0) (b:=q0.toNat*Y.toNat) ?_ ?_ ?_ ?_]
  .rw[k4,ybu ((u2*4294967296+d0) / Y.toNat)];omega
  .rw[UInt64.toNat_add,UInt64.toNat_mul,tv,td0,show(4294967296:yU).toNat=4294967296 from rfl]
   omega
  .rw[UInt64.toNat_mul]
  .rw[k4,ybu ((u2*4294967296+d0) / Y.toNat)];omega
  .rw[k4,ybu ((u2*4294967296+d0) / Y.toNat)];omega
 rw[tr]
 have hNm:((a.toNat*18446744073709551616+b.toNat)*2 ^ s) % Y.toNat=(u2*4294967296+d0) % Y.toNat:=by
  have e:(a.toNat*18446744073709551616+b.toNat)*2 ^ s=u2*4294967296+d0+Y.toNat*((u*4294967296+d1) / Y.toNat*4294967296):=by
   rw[hN, <-Nat.mul_assoc];omega
  rw[e,Nat.add_mul_mod_self_left]
 rw[<-hNm,hYn,Nat.mul_mod_mul_right,Nat.mul_div_cancel _ hp]
theorem HU{y Y:yU}{s:Nat}(a b:yU)(hy:y≠0)(hs:Yt yD y=ab (s:Int))(s0:0 < s)(s1:s < 64)(hY:Vv y s=Y)(hYn:Y.toNat=y.toNat*2 ^ s)(hY63:9223372036854775808<=Y.toNat):
 so yD a b y=ab (yaf ((a.toNat*18446744073709551616+b.toNat) % y.toNat)):=by
 have hp:0 < y.toNat:=by
  rcases ycj y.toNat with h|h
  .exact absurd (ycp.1 h) hy
  .exact h
 obtain⟨q,r,h1,h2⟩:=ZKI (a:=a % y) (b:=b) hy hs s0 s1 hY hYn hY63 (by rw[UInt64.toNat_mod];exact ybo _ hp);unfold so;rw[yW (by rw[yE];exact hy),h1,ya];dsimp only;rw[UInt64.toNat_mod,Nat.add_mod,Nat.mod_mul_mod, <-Nat.add_mod]at h2;rw[<-h2,UInt64.ofNat_toNat]
theorem ZPd:Yt yD 4611686018427377339=ab ((2:Nat):Int):=by kernel_rfl
theorem ZPe:Yt yD 2305843009213688669=ab ((3:Nat):Int):=by kernel_rfl
theorem ZPf:Yt yD 2305843009213688668=ab ((3:Nat):Int):=by kernel_rfl
noncomputable def XO(F:Nat)(a0:yU)(a1:yU)(a2:yU):yO yU:=
 if(a2==4611686018427377339 || (a2==2305843009213688669 || a2==2305843009213688668))=af then ab (yaf ((a0.toNat*18446744073709551616+a1.toNat) % a2.toNat)) else so F a0 a1 a2
theorem ZKJ(a b y:yU):so yD a b y=XO yD a b y:=by
 unfold XO;split
 .rename_i h;simp only[Bool.or_eq_true,yT]at h;rcases h with rfl|rfl|rfl
  .exact HU (Y:=18446744073709509356) (s:=2) a b (by decide) ZPd (by decide) (by decide) (by kernel_rfl) (by decide) (by decide)
  .exact HU (Y:=18446744073709509352) (s:=3) a b (by decide) ZPe (by decide) (by decide) (by kernel_rfl) (by decide) (by decide)
  .exact HU (Y:=18446744073709509344) (s:=3) a b (by decide) ZPf (by decide) (by decide) (by kernel_rfl) (by decide) (by decide)
 .rfl
noncomputable def Zw6(F:Nat):Fs yb:={ HR F with M:=λx=>XO F x.1 x.2.1 x.2.2}
noncomputable def vL:Fs yb:=Zw6 yD
theorem HV:vL.Ok:=vF (s:=HR yD) Zva λx=>(ZKJ x.1 x.2.1 x.2.2).symm
end Go.Proofs.YtekdgjajmennjaaGreat
end
section
set_option maxRecDepth 4000
namespace Go.Proofs.YtekdgjajmennjaaGreat
open Go Go.Ev
noncomputable section
def vM(F:Nat)(a0:yU)(a1:yU):yO ((yU×yU)):=
 let a:yU:=ZG ((a0&&&4294967295)*(a1&&&4294967295)) 32;let b:yU:=(((ZG a0 32)*(a1&&&4294967295))+a)&&&4294967295;let c:yU:=ZG (((ZG a0 32)*(a1&&&4294967295))+a) 32;let d:yU:=ZG (b+((a0&&&4294967295)*(ZG a1 32))) 32
 ab ((((ZG a0 32)*(ZG a1 32))+c)+d,a0*a1)
def HW(F:Nat):Fs yb:=⟨247,[.v .u64,.v .u64],[],[.u64,.u64],[⟨.ret,[(0,.bj [.v .u64,.v .u64])],[],[.u64,.u64]⟩],λx=>vM F x.1 x.2⟩
def Zw7:Fs yb:=HW yD
theorem Zvb:Zw7.Ok:=aR { still:=[4,5]} [] [] trivial
end
end Go.Proofs.YtekdgjajmennjaaGreat
end
section
set_option maxRecDepth 4000
namespace Go.Proofs.YtekdgjajmennjaaGreat
open Go Go.Ev
theorem ZKK(x y:yU):∃h l,vM yD x y=ab (h,l)/\h.toNat*18446744073709551616+l.toNat=x.toNat*y.toNat:=by
 unfold vM;refine⟨_,_,rfl, ?_⟩;have hx:=ycc x;have hy:=ycc y;have x0l:x.toNat % 4294967296 < 4294967296:=ybo _ (by decide);have y0l:y.toNat % 4294967296 < 4294967296:=ybo _ (by decide);have x1l:x.toNat / 4294967296 < 4294967296:=by omega
 have y1l:y.toNat / 4294967296 < 4294967296:=by omega
 have xe:x.toNat=x.toNat / 4294967296*4294967296+x.toNat % 4294967296:=by omega
 have ye:y.toNat=y.toNat / 4294967296*4294967296+y.toNat % 4294967296:=by omega
 generalize hX1:x.toNat / 4294967296=x1 at*;generalize hX0:x.toNat % 4294967296=x0 at*;generalize hY1:y.toNat / 4294967296=y1 at*;generalize hY0:y.toNat % 4294967296=y0 at*;have p00:=sq x0l y0l;have p10:=sq x1l y0l;have p01:=sq x0l y1l;have p11:=sq x1l y1l
 have prod:x.toNat*y.toNat=x1*y1*18446744073709551616+(x1*y0+x0*y1)*4294967296+x0*y0:=by
  rw[xe,ye,yav,Nat.mul_add,Nat.mul_add]
  have e1:x1*4294967296*(y1*4294967296)=x1*y1*18446744073709551616:=by
   rw[Nat.mul_assoc,Nat.mul_left_comm 4294967296 y1, <-Nat.mul_assoc]
  have e2:x1*4294967296*y0=x1*y0*4294967296:=by rw[Nat.mul_right_comm]
  have e3:x0*(y1*4294967296)=x0*y1*4294967296:=by rw[Nat.mul_assoc]
  rw[e1,e2,e3];omega
 have q00:((x&&&4294967295)*(y&&&4294967295)).toNat=x0*y0:=by
  rw[oV (by rw[jl,jl,hX0,hY0];omega),jl,jl,hX0,hY0]
 have q10:((ZG x 32)*(y&&&4294967295)).toNat=x1*y0:=by
  rw[oV (by rw[Qu,jl,show(2:Nat) ^ 32=4294967296 from rfl,hX1,hY0];omega),Qu,jl,show(2:Nat) ^ 32=4294967296 from rfl,hX1,hY0]
 have q01:((x&&&4294967295)*(ZG y 32)).toNat=x0*y1:=by
  rw[oV (by rw[Qu,jl,show(2:Nat) ^ 32=4294967296 from rfl,hX0,hY1];omega),Qu,jl,show(2:Nat) ^ 32=4294967296 from rfl,hX0,hY1]
 have q11:((ZG x 32)*(ZG y 32)).toNat=x1*y1:=by
  rw[oV (by rw[Qu,Qu,show(2:Nat) ^ 32=4294967296 from rfl,hX1,hY1];omega),Qu,Qu,show(2:Nat) ^ 32=4294967296 from rfl,hX1,hY1]
 generalize hA:((x&&&4294967295)*(y&&&4294967295):yU)=A at*;generalize hB:((ZG x 32)*(y&&&4294967295):yU)=B at*;generalize hC:((x&&&4294967295)*(ZG y 32):yU)=C at*;generalize hD:((ZG x 32)*(ZG y 32):yU)=D at*;have s1:(ZG A 32).toNat=x0*y0 / 4294967296:=by rw[Qu,q00]
 have s2:(B+ZG A 32).toNat=x1*y0+x0*y0 / 4294967296:=by rw[oU (by rw[q10,s1];omega),q10,s1]
 have s3:((B+ZG A 32)&&&4294967295).toNat=(x1*y0+x0*y0 / 4294967296) % 4294967296:=by rw[jl,s2]
 have s4:(ZG (B+ZG A 32) 32).toNat=(x1*y0+x0*y0 / 4294967296) / 4294967296:=by rw[Qu,s2]
 have s5:(((B+ZG A 32)&&&4294967295)+C).toNat=(x1*y0+x0*y0 / 4294967296) % 4294967296+x0*y1:=by rw[oU (by rw[s3,q01];omega),s3,q01]
 have s6:(ZG (((B+ZG A 32)&&&4294967295)+C) 32).toNat=((x1*y0+x0*y0 / 4294967296) % 4294967296+x0*y1) / 4294967296:=by rw[Qu,s5]
 have s7:(D+ZG (B+ZG A 32) 32).toNat=x1*y1+(x1*y0+x0*y0 / 4294967296) / 4294967296:=by rw[oU (by rw[q11,s4];omega),q11,s4]
 have s8:(x*y).toNat=x.toNat*y.toNat % 18446744073709551616:=UInt64.toNat_mul ..
 have s9:((D+ZG (B+ZG A 32) 32)+ZG (((B+ZG A 32)&&&4294967295)+C) 32).toNat=x1*y1+(x1*y0+x0*y0 / 4294967296) / 4294967296+((x1*y0+x0*y0 / 4294967296) % 4294967296+x0*y1) / 4294967296:=by
  rw[oU (by rw[s7,s6];omega),s7,s6]
 rw[s9,s8,prod];generalize x0*y0=a at*;generalize x1*y0=b at*;generalize x0*y1=c at*;generalize x1*y1=d at*;omega
theorem ZKL(x y:yU):vM yD x y=ab (yaf (x.toNat*y.toNat / 18446744073709551616),yaf (x.toNat*y.toNat % 18446744073709551616)):=by
 obtain⟨h,l,e,k⟩:=ZKK x y;have hl:=ycc l;rw[e, <-k,show(h.toNat*18446744073709551616+l.toNat) / 18446744073709551616=h.toNat by omega,show(h.toNat*18446744073709551616+l.toNat) % 18446744073709551616=l.toNat by omega,UInt64.ofNat_toNat,UInt64.ofNat_toNat]
noncomputable def sr(F:Nat)(a0:yU)(a1:yU):yO (yU×yU):=ab (yaf (a0.toNat*a1.toNat / 18446744073709551616),yaf (a0.toNat*a1.toNat % 18446744073709551616))
noncomputable def Zw8(F:Nat):Fs yb:={ HW F with M:=λx=>sr F x.1 x.2}
noncomputable def HX:Fs yb:=Zw8 yD
theorem Zmb:HX.Ok:=vF (s:=HW yD) Zvb λx=>(ZKL x.1 x.2).symm
end Go.Proofs.YtekdgjajmennjaaGreat
end
section
set_option maxRecDepth 4000
namespace Go.Proofs.YtekdgjajmennjaaGreat
open Go Go.Ev
noncomputable section
def Yn(F:Nat)(a0:yU)(a1:yU):yO (yU):=
 (sr F a0 a1).bind λa=>
 (XO F a.1 a.2 4611686018427377339).bind λb=>
 ab b
def Zvc(F:Nat):Fs yb:=⟨223,[.v .u64,.v .u64],[],[.u64,.u64],(zN .u64),λx=>Yn F x.1 x.2⟩
def HY:Fs yb:=Zvc yD
theorem Zj8:HY.Ok:=aR { still:=[4,8,9,13,14]} [] [HX,vL] ⟨Zmb,HV,au⟩
def WF(F:Nat)(s:(yU×yU×yU)):yO ((yU×yU×yU)⊕yU):=
 if(ah (s.2.1 > 0))=af then
  if((s.2.1&&&1)==1)=af then
   (Yn F s.2.2 s.1).bind λa=>
   (Yn F s.1 s.1).bind λb=>
   ab (.inl (b,ZG s.2.1 1,a))
  else
  (Yn F s.1 s.1).bind λc=>
  ab (.inl (c,ZG s.2.1 1,s.2.2))
 else
 ab (.inr s.2.2)
def ZiR:Lp:=⟨[(0,.v .u64),(1,.v .u64),(5,.v .u64)],[],[.u64,.u64,.u64],[⟨.exit 0,[(5,.v .u64)],[],[.u64]⟩],Zc (WF yD) yD⟩
theorem Zne:ZiR.bA yb 170 0:=Zv { still:=[4,13,14,16,17]} [] [HY] ⟨Zj8,au⟩
def HZ(F:Nat)(a0:yU)(a1:yU):yO (yU):=
 (Zc (WF F) F (a0,a1,1)).bind λa=>
 ab a
def IA(F:Nat):Fs yb:=⟨170,[.v .u64,.v .u64],[],[.u64,.u64],(zN .u64),λx=>HZ F x.1 x.2⟩
def Zvd:Fs yb:=IA yD
theorem ZsD:Zvd.Ok:=aR { still:=[4,13,14,16,17]} [(0,ZiR)] [] trivial ⟨Zne,au⟩
end
end Go.Proofs.YtekdgjajmennjaaGreat
end
section
namespace Go.Ev
def Pr(r:Nat):Prop:=1 < r/\∀k,0 < k->k < r->Nat.gcd k r=1
theorem php:∀(n:Nat)(f:Nat->Nat),(∀i,i<=n->f i < n)->∃i j,i < j/\j<=n/\f i=f j
 |0,f,h=>absurd (h 0 (ym _)) (Nat.not_lt_zero _)
 |n+1,f,h=>by
  by_cases hc:∃i,i<=n/\f i=f (n+1)
  .obtain⟨i,h1,h2⟩:=hc;exact⟨i,n+1,by omega,ym _,h2⟩
  have hne:∀i,i<=n->f i≠f (n+1):=λi hi e=>hc ⟨i,hi,e⟩;have hv:=h (n+1) (ym _)
  obtain⟨i,j,h1,h2,h3⟩:=php n (λi=>if f i > f (n+1) then f i - 1 else f i) (λi hi=>by
   have a:=h i (by omega);have b:=hne i hi;show(if f i > f (n+1) then f i - 1 else f i) < n
   split <;> omega)
  refine⟨i,j,h1,by omega, ?_⟩;have a:=hne i (by omega);have b:=hne j (by omega);have h3:(if f i > f (n+1) then f i - 1 else f i)=(if f j > f (n+1) then f j - 1 else f j):=h3
  split at h3 <;> split at h3 <;> omega
theorem IB{h a m:Nat}(ha:h ^ a % m=1 % m)(k:Nat):h ^ (a*k) % m=1 % m:=by
 rw[Nat.pow_mul,Nat.pow_mod,ha, <-Nat.pow_mod,Nat.one_pow]
theorem ZDd{h a b m:Nat}(ha:h ^ a % m=1 % m)(hb:h ^ b % m=1 % m):h ^ (a % b) % m=1 % m:=by
 have e:a=b*(a / b)+a % b:=(Nat.div_add_mod a b).symm;rw[e,Nat.pow_add,Nat.mul_mod,IB hb, <-Nat.mul_mod,Nat.one_mul]at ha;exact ha
theorem ZrS{h m:Nat}(a b:Nat)(ha:h ^ a % m=1 % m)(hb:h ^ b % m=1 % m):h ^ (Nat.gcd a b) % m=1 % m:=by
 induction a,b using Nat.gcd.induction with
 |H0 n=>rw[Nat.gcd_zero_left];exact hb
 |H1 a b h0 ih=>
  rw[Nat.gcd_rec];exact ih (ZDd hb ha) ha
theorem IC{h r m i j:Nat}(hr:h ^ r % m=1 % m)(hi:i < j)(hj:j < r)(e:h ^ i % m=h ^ j % m):h ^ (j - i) % m=1 % m:=by
 have h1:h ^ i*h ^ (r - i)=h ^ r:=by rw[<-Nat.pow_add];congr 1;omega
 have h2:h ^ j*h ^ (r - i)=h ^ (j - i)*h ^ r:=by rw[<-Nat.pow_add, <-Nat.pow_add];congr 1;omega
 have h3:h ^ j*h ^ (r - i) % m=1 % m:=by rw[Nat.mul_mod, <-e, <-Nat.mul_mod,h1,hr]
 rw[h2,Nat.mul_mod,hr, <-Nat.mul_mod,Nat.mul_one]at h3;exact h3
theorem ID{h r m i:Nat}(hm:1 < m)(hr:h ^ r % m=1 % m)(hi:i<=r):h ^ i % m≠0:=by
 intro e;have h1:h ^ i*h ^ (r - i)=h ^ r:=by rw[<-Nat.pow_add];congr 1;omega
 rw[<-h1,Nat.mul_mod,e,Nat.zero_mul,Nat.zero_mod,yap hm]at hr;omega
theorem ZFq{h r c:Nat}(hr:Pr r)(hc:1 < c)(h1:h ^ r % c=1 % c)(h2:h % c≠1 % c):r < c:=by
 rcases ybr r c with k|k
 .exact k
 exfalso
 obtain⟨i,j,a,b,e⟩:=php (c - 1) (λi=>h ^ i % c - 1) (λi hi=>by
  have:=ybo (h ^ i) (show c > 0 by omega);have:=ID hc h1 (i:=i) (by omega);show h ^ i % c - 1 < c - 1;omega)
 have q1:=ID hc h1 (i:=i) (by omega);have q2:=ID hc h1 (i:=j) (by omega);have e:h ^ i % c - 1=h ^ j % c - 1:=e;have h3:=IC h1 a (by omega) (show h ^ i % c=h ^ j % c by omega);have h4:=ZrS _ _ h3 h1;rw[hr.2 (j - i) (by omega) (by omega),Nat.pow_one]at h4;exact h2 h4
theorem vN{n r:Nat}(h:Nat)(hr:Pr r)(hn:1 < n)(hs:n<=r*r)(h1:h ^ r % n=1 % n)(h0:0 < h)(h2:Nat.gcd (h - 1) n=1):Pr n:=by
 refine⟨hn,λk k0 kn=> ?_⟩;have dn:Nat.gcd k n ∣ n:=Nat.gcd_dvd_right k n;have dk:Nat.gcd k n ∣ k:=Nat.gcd_dvd_left k n;have d0:0 < Nat.gcd k n:=Nat.gcd_pos_of_pos_left _ k0;have dl:Nat.gcd k n<=k:=Nat.le_of_dvd k0 dk;generalize Nat.gcd k n=d at*;by_cases d1:d=1
 .exact d1
 exfalso
 have great:∀c,1 < c->c ∣ n->r < c:=λc c1 cn=>by
  refine ZFq (h:=h) hr c1 ?_ λe=> ?_
  .obtain⟨q,rfl⟩:=cn;have:=congrArg (· % c) h1;simp only[Nat.mod_mul_right_mod]at this;exact this
  .have k1:c ∣ h - 1:=Nat.dvd_of_mod_eq_zero (Nat.sub_mod_eq_zero_of_mod_eq e);have:=Nat.dvd_gcd k1 cn;rw[h2]at this;have:=Nat.le_of_dvd (by omega) this;omega
 obtain⟨e,rfl⟩:=dn
 have e1:1 < e:=by
  rcases ybr 1 e with h|h
  .exact h
  .have:d*e<=d*1:=Nat.mul_le_mul_left _ h;omega
 have a:=great d (by omega) (Nat.dvd_mul_right ..);have b:=great e e1 (Nat.dvd_mul_left ..);have:=Nat.mul_le_mul (show r+1<=d from a) (show r+1<=e from b)
 rw[yav,Nat.mul_add]at this;omega
def vQ(n:Nat):Nat->Bool
 |0=>af
 |k+1=>(ah (k < 1) || !(n % (k+1)==0))&&vQ n k
theorem IE{n:Nat}:∀{k:Nat},vQ n k=af->∀d,1 < d->d<=k->¬d ∣ n
 |0,_,d,h1,h2=>by omega
 |k+1,h,d,h1,h2=>by
  simp only[vQ,yi,Bool.or_eq_true,yP,Bool.not_eq_true',beq_eq_false_iff_ne]at h;rcases ybr d (k+1) with c|c
  .exact IE h.2 d h1 (by omega)
  .have:d=k+1:=by omega
   subst this;rcases h.1 with h|h
   .omega
   .intro q;exact h (Nat.mod_eq_zero_of_dvd q)
theorem ZKM{n s:Nat}(hn:1 < n)(hs:n < (s+1)*(s+1))(h:vQ n s=af):Pr n:=by
 refine⟨hn,λk k0 kn=> ?_⟩;have dn:Nat.gcd k n ∣ n:=Nat.gcd_dvd_right k n;have d0:0 < Nat.gcd k n:=Nat.gcd_pos_of_pos_left _ k0;have dl:Nat.gcd k n<=k:=Nat.le_of_dvd k0 (Nat.gcd_dvd_left k n);generalize Nat.gcd k n=d at*;by_cases d1:d=1
 .exact d1
 exfalso;obtain⟨e,rfl⟩:=dn
 have e1:1 < e:=by
  rcases ybr 1 e with h|h
  .exact h
  .have:d*e<=d*1:=Nat.mul_le_mul_left _ h;omega
 rcases ybr s d with a|a
 .rcases ybr s e with b|b
  .have:=Nat.mul_le_mul (show s+1<=d from a) (show s+1<=e from b)
   omega
  .exact IE h e e1 b (Nat.dvd_mul_left ..)
 .exact IE h d (by omega) a (Nat.dvd_mul_right ..)
def gn(m:Nat):Nat->Nat->Nat->Nat->Nat
 |0,_,_,o=>o
 |f+1,a,n,o=>if n=0 then o else gn m f (a*a % m) (n / 2) (if n % 2=1 then o*a % m else o)
theorem IF{m:Nat}:∀(k a n o:Nat),n < 2 ^ k->gn m k a n o % m=o*a ^ n % m
 |0,a,n,o,h=>by
  have:n=0:=by rw[Nat.pow_zero]at h;omega
  subst this
  rw[gn,Nat.pow_zero,Nat.mul_one]
 |k+1,a,n,o,h=>by
  rw[gn];by_cases h0:n=0
  .rw[yW h0,h0,Nat.pow_zero,Nat.mul_one]
  rw[yX h0,IF k _ _ _ (by rw[Nat.pow_succ]at h;omega)]
  have e:a ^ n=(a*a) ^ (n / 2)*a ^ (n % 2):=by
   rw[<-Nat.pow_two, <-Nat.pow_mul, <-Nat.pow_add];congr 1;omega
  have e2:(a*a % m) ^ (n / 2) % m=(a*a) ^ (n / 2) % m:=(Nat.pow_mod ..).symm;rw[e];split
  .rename_i h1;rw[h1,Nat.pow_one,Nat.mul_mod,e2, <-Nat.mul_mod,Nat.mul_mod,Nat.mod_mod, <-Nat.mul_mod];congr 1;rw[Nat.mul_assoc,ybu a]
  .rename_i h1;have:n % 2=0:=by omega
   rw[this,Nat.pow_zero,Nat.mul_one,Nat.mul_mod,e2, <-Nat.mul_mod]
theorem su{m a n z:Nat}(k:Nat)(h:n < 2 ^ k)(e:gn m k a n 1 % m=z):a ^ n % m=z:=by
 have:=IF (m:=m) k a n 1 h;rw[Nat.one_mul]at this;rw[<-this,e]
def pc0:Nat:=7930907
def pc1:Nat:=11864636873
def pc2:Nat:=1732236983459
def pc3:Nat:=249442125618097
def cv:Nat:=2305843009213688669
def dI:Nat:=4611686018427377339
theorem pr0:Pr pc0:=ZKM (s:=2816) (by decide) (by decide) (by decide+kernel)
theorem pr1:Pr pc1:=vN 409113128 pr0 (by decide) (by decide) (su 23 (by decide) (by decide+kernel)) (by decide) (by decide+kernel)
theorem pr2:Pr pc2:=vN 353522539148 pr1 (by decide) (by decide) (su 34 (by decide) (by decide+kernel)) (by decide) (by decide+kernel)
theorem pr3:Pr pc3:=vN 117107719143424 pr2 (by decide) (by decide) (su 41 (by decide) (by decide+kernel)) (by decide) (by decide+kernel)
theorem pr4:Pr cv:=vN 732368710688439132 pr3 (by decide) (by decide) (su 48 (by decide) (by decide+kernel)) (by decide) (by decide+kernel)
def bn(a:Nat):Prop:=0 < a/\a < dI/\a ^ cv % dI=1
theorem ZNZ{a:Nat}(h:a < dI)(e:a ^ cv % dI=1):bn a:=by
 refine⟨?_,h,e⟩;rcases ycj a with h0|h0
 .subst h0;rw[Nat.zero_pow (by decide)]at e;cases e
 .exact h0
theorem vR:bn 1:=⟨by decide,by decide,by rw[Nat.one_pow];decide⟩
theorem vS:bn 4:=⟨by decide,by decide,su 61 (by decide) (by decide+kernel)⟩
theorem ZPg{a b:Nat}(ha:bn a)(hb:bn b):bn (a*b % dI):=by
 refine ZNZ (ybo _ (by decide)) ?_;rw[<-Nat.pow_mod,Nat.mul_pow,Nat.mul_mod,ha.2.2,hb.2.2];decide
theorem ZPh{a:Nat}(ha:bn a)(n:Nat):bn (a ^ n % dI):=by
 refine ZNZ (ybo _ (by decide)) ?_;rw[<-Nat.pow_mod, <-Nat.pow_mul,ybu];exact IB (m:=dI) ha.2.2 n
theorem ZM2{a:Nat}(ha:bn a)(n:Nat):a ^ (n % cv) % dI=a ^ n % dI:=by
 have e:n=cv*(n / cv)+n % cv:=(Nat.div_add_mod n _).symm;have h:=IB (m:=dI) (k:=n / cv) ha.2.2
 conv=>rhs;rw[e]
 rw[Nat.pow_add,Nat.mul_mod,h, <-Nat.mul_mod,Nat.one_mul]
theorem IG{k:Nat}(h0:0 < k)(h1:k < cv):4 ^ k % dI≠1:=by
 intro e;have:=ZrS (h:=4) (m:=dI) k _ e vS.2.2;rw[pr4.2 k h0 h1]at this;revert this;decide
theorem ZM3{i j:Nat}(hi:i < cv)(hj:j < cv)(e:4 ^ i % dI=4 ^ j % dI):i=j:=by
 rcases Nat.lt_trichotomy i j with h|h|h
 .exact absurd (IC (m:=dI) vS.2.2 h hj e) (IG (by omega) (by omega))
 .exact h
 .exact absurd (IC (m:=dI) vS.2.2 h hi e.symm) (IG (by omega) (by omega))
end Go.Ev
end
section
set_option maxRecDepth 4000
namespace Go.Proofs.YtekdgjajmennjaaGreat
open Go Go.Ev
theorem IH{z:Nat}:(yaf (z % 4611686018427377339)).toNat=z % 4611686018427377339:=by
 rw[ybj,yap];exact Nat.lt_trans (ybo _ (by decide)) (by decide)
theorem ZDe(a b:yU):Yn yD a b=ab (yaf (a.toNat*b.toNat % 4611686018427377339)):=by
 unfold Yn sr;rw[ya];dsimp only;unfold XO;rw[yW (by decide),ya,ybj,ybj];have h:a.toNat*b.toNat < 18446744073709551616*18446744073709551616:=Nat.mul_lt_mul'' (ycc a) (ycc b);have h2:a.toNat*b.toNat / 18446744073709551616 < 18446744073709551616:=(Nat.div_lt_iff_lt_mul (by decide)).2 h;generalize a.toNat*b.toNat=z at*;rw[show(4611686018427377339:yU).toNat=4611686018427377339 from rfl]
 have e:z / 18446744073709551616 % 2 ^ 64*18446744073709551616+z % 18446744073709551616 % 2 ^ 64=z:=by omega
 rw[e]
theorem II:∀(k m:Nat)(A N O:yU),N.toNat < 2 ^ k->k < m->Zc (WF yD) m (A,N,O)=ab (yaf (gn 4611686018427377339 k A.toNat N.toNat O.toNat))
 |k,0,_,_,_,_,h=>by omega
 |0,m+1,A,N,O,h,_=>by
  have hn:¬N > 0:=by
   intro h2;have h3:0 < N.toNat:=ycx.1 h2;rw[Nat.pow_zero]at h;omega
  have hs:WF yD (A,N,O)=if ah (N > 0)=af then(if((N&&&1)==1)=af then(Yn yD O A).bind λo1=>(Yn yD A A).bind λo2=>ab (.inl (o2,ZG N 1,o1)) else(Yn yD A A).bind λo2=>ab (.inl (o2,ZG N 1,O))) else ab (.inr O):=rfl
  unfold Zc;rw[hs]
  rw[yX (by rw[yN];exact hn),ya,gn,UInt64.ofNat_toNat]
 |k+1,m+1,A,N,O,h,hm=>by
  have hs:WF yD (A,N,O)=if ah (N > 0)=af then(if((N&&&1)==1)=af then(Yn yD O A).bind λo1=>(Yn yD A A).bind λo2=>ab (.inl (o2,ZG N 1,o1)) else(Yn yD A A).bind λo2=>ab (.inl (o2,ZG N 1,O))) else ab (.inr O):=rfl
  unfold Zc;rw[hs];by_cases h2:N > 0
  .have hp:0 < N.toNat->gn 4611686018427377339 (k+1) A.toNat N.toNat O.toNat=gn 4611686018427377339 k (A.toNat*A.toNat % 4611686018427377339) (N.toNat / 2) (if N.toNat % 2=1 then O.toNat*A.toNat % 4611686018427377339 else O.toNat):=λh=>by
    rw[gn,yX (by omega)]
   have h3:0 < N.toNat:=ycx.1 h2
   have hsh:(ZG N 1).toNat=N.toNat / 2:=by
    unfold ZG;rw[ybj,yap (Nat.lt_of_le_of_lt (Nat.div_le_self ..) (ycc _))]
   have hlt:(ZG N 1).toNat < 2 ^ k:=by
    rw[hsh];rw[Nat.pow_succ]at h;omega
   have hand:((N&&&1)==1)=ah (N.toNat % 2=1):=by
    rw[Bool.eq_iff_iff,yT,yN, <-ycp,UInt64.toNat_and];exact Iff.of_eq (congrArg (· =1) (Nat.and_one_is_mod _))
   rw[yW (yY h2),hand,hp h3];simp only[ZDe];by_cases h4:N.toNat % 2=1
   .rw[yW (yY h4),yW h4,ya,ya,ya];dsimp only;rw[II k m _ _ _ hlt (by omega),IH,IH,hsh]
   .rw[yX (by rw[yN];exact h4),yX h4,ya,ya];dsimp only;rw[II k m _ _ _ hlt (by omega),IH,hsh]
  .have h3:N.toNat=0:=by
    rcases ycj N.toNat with h5|h5
    .exact h5
    .exact absurd (show(0:yU) < N from ycx.2 h5) h2
   rw[yX (by rw[yN];exact h2),ya,gn,yW h3,UInt64.ofNat_toNat]
theorem ZKO(a n:yU):HZ yD a n=ab (yaf (gn 4611686018427377339 64 a.toNat n.toNat 1)):=by
 unfold HZ;rw[II 64 yD a n 1 (ycc _) (by rw[nh];omega),ya];rfl
noncomputable def V8(F:Nat)(a0:yU)(a1:yU):yO yU:=ab (yaf (gn 4611686018427377339 64 a0.toNat a1.toNat 1))
noncomputable def Zvi(F:Nat):Fs yb:={ IA F with M:=λx=>V8 F x.1 x.2}
noncomputable def vT:Fs yb:=Zvi yD
theorem IJ:vT.Ok:=vF (s:=IA yD) ZsD λx=>(ZKO x.1 x.2).symm
end Go.Proofs.YtekdgjajmennjaaGreat
end
section
set_option maxRecDepth 4000
namespace Go.Proofs.YtekdgjajmennjaaGreat
open Go Go.Ev
noncomputable section
def YA(F:Nat)(a0:yU):yO (Bool):=
 if(ah (a0 > 0))=af then
  if(ah (a0 < 4611686018427377339))=af then
   (V8 F a0 2305843009213688669).bind λa=>
   ab (a==1)
  else
  ab ag
 else
 ab ag
def IK(F:Nat):Fs yb:=⟨121,[.v .u64],[],[.u64],(zN .bool),λx=>YA F x⟩
def XP:Fs yb:=IK yD
theorem Xt:XP.Ok:=aR { still:=[2,10]} [] [vT] ⟨IJ,au⟩
def QK(F:Nat)(a0:yU):yO (Bool):=
 if(a0==1)=af then
  ab af
 else
 (YA F a0).bind λa=>
 ab (!a)
def ZoV(F:Nat):Fs yb:=⟨201,[.v .u64],[],[.u64],(zN .bool),λx=>QK F x⟩
def Zhn:Fs yb:=ZoV yD
theorem ZoW:Zhn.Ok:=aR { still:=[2,6]} [] [XP] ⟨Xt,au⟩
abbrev nr:Ty:=(.st [.u64,.u64,.u64,.u64,.u64])
abbrev bt:Type:=(yU×yU×yU×yU×yU)
abbrev bt.Cond(x:bt):yU:=x.2.2.2.1
abbrev _root_.aOM:=yL yU
def Wo(F:Nat)(s:(aOM×Int×Int)):yO ((aOM×Int×Int)⊕(Int⊕Unit)):=
 if(ah (s.2.2 < s.2.1))=af then
  (idx s.1 s.2.2).bind λa=>
  (QK F a).bind λb=>
  if b=af then
   ab (.inr (.inl s.2.2))
  else
  ab (.inl (s.1,s.2.1,wi (s.2.2+1)))
 else
 ab (.inr (.inr ()))
abbrev _root_.aOH:Go.Ev.Ty:=.sl .u64
def Zho:Lp:=⟨[(0,.v aOH),(1,.fn 201 []),(7,.v yI),(8,.v yI)],[],[aOH,yI,yI],[⟨.ret,[(4,.v yI)],[],[yI]⟩,⟨.exit 0,[],[],[]⟩],Zc (Wo yD) yD⟩
theorem ZlH:Zho.bA yb 192 0:=Zv { still:=[4,15]} [] [Zhn] ⟨ZoW,au⟩
def IL(F:Nat)(a0:aOM):yO (Int):=
 (Zc (Wo F) F (a0,(a0.length:Int),0)).bind λa=>
 match a with
 |.inl b=>
  ab b
 |.inr c=>
  ab (-1)
def Zqz(F:Nat):Fs yb:=⟨192,[.v aOH,.fn 201 []],[],[aOH],(zN yI),λx=>IL F x⟩
def ZiS:Fs yb:=Zqz yD
theorem ZqA:ZiS.Ok:=aR { still:=[4,15]} [(0,Zho)] [] trivial ⟨ZlH,au⟩
def IM(F:Nat)(a0:aOM):yO (Bool):=
 (IL F a0).bind λa=>
 ab (ah (a >= 0))
def ZAy(F:Nat):Fs yb:=⟨122,[.v aOH,.fn 201 []],[],[aOH],(zN .bool),λx=>IM F x⟩
def ZrT:Fs yb:=ZAy yD
theorem ZAz:ZrT.Ok:=aR { still:=[4,5,6]} [] [ZiS] ⟨ZqA,au⟩
def vU(F:Nat)(a0:bt):yO (Bool):=
 (IM F [a0.1,a0.2.1,a0.2.2.1,a0.2.2.2.1,a0.2.2.2.2]).bind λa=>
 ab (!a)
def ZsE(F:Nat):Fs yb:=⟨132,[.v nr],[],[nr],(zN .bool),λx=>vU F x⟩
def Zka:Fs yb:=ZsE yD
theorem ZsF:Zka.Ok:=aR { still:=[2,14,15]} [] [ZrT] ⟨ZAz,au⟩
def sv(F:Nat)(a0:Int):yO (Bool):=
 if(ah (a0 >= 0))=af then
  ab (ah (a0<=1125899906842624))
 else
 ab ag
def ZAA(F:Nat):Fs yb:=⟨202,[.v yI],[],[yI],(zN .bool),λx=>sv F x⟩
def ZrU:Fs yb:=ZAA yD
theorem ZAB:ZrU.Ok:=aR { still:=[2]} [] [] trivial
def nu(F:Nat)(a0:Int)(a1:Int):yO ((Int×Bool)):=
 (sv F a0).bind λa=>
 if(!a)=af then
  ab (0,ag)
 else
 (sv F a1).bind λb=>
 if(!b)=af then
  ab (0,ag)
 else
 if(ah (a0 > (wi (1125899906842624 - a1))))=af then
  ab (0,ag)
 else
 ab (wi (a0+a1),af)
def ZFs(F:Nat):Fs yb:=⟨133,[.v yI,.v yI],[],[yI,yI],[⟨.ret,[(0,.bj [.v yI,.v .bool])],[],[yI,.bool]⟩],λx=>nu F x.1 x.2⟩
def IN:Fs yb:=ZFs yD
theorem Zvj:IN.Ok:=aR { still:=[4,5,6,10]} [] [ZrU] ⟨ZAB,au⟩
abbrev _root_.aOB:Go.Ev.Ty:=.arr 32 .u8
abbrev Zd:Ty:=(.st [aOB,yI])
abbrev Zo:Type:=(aOz×Int)
abbrev Yc:Ty:=(.st [Zd,yI,(.arr 2 nr),(.arr 2 iF),yI])
abbrev Chan:Type:=(Zo×Int×(yL bt)×(yL bu)×Int)
abbrev Chan.bt(x:Chan):(yL bt):=x.2.2.1
abbrev Chan.bu(x:Chan):(yL bu):=x.2.2.2.1
def Vl(F:Nat)(s:((yL bu)×Int×Chan)):yO (((yL bu)×Int×Chan)⊕((Int×Chan)⊕Chan)):=
 if(ah (s.2.1 < 2))=af then
  (idx s.1 s.2.1).bind λa=>
  (vH F a).bind λb=>
  if(!b)=af then
   ab (.inr (.inl (1,s.2.2)))
  else
  if(ba s.2.1 2)=af then
   (s.2.2.2.2.1[s.2.1.toNat]?).bind λc=>
   (vU F c).bind λd=>
   if(!d)=af then
    ab (.inr (.inl (1,s.2.2)))
   else
   ab (.inl (s.1,wi (s.2.1+1),s.2.2))
  else
  ae
 else
 ab (.inr (.inr s.2.2))
def ZoX:Lp:=⟨[(1,.ak 0 []),(34,.v (.arr 2 iF)),(35,.v yI)],[.var (.v Yc) af],[(.arr 2 iF),yI,Yc],[⟨.ret,[(2,.v yI)],[.var (.v Yc) af],[yI,Yc]⟩,⟨.exit 0,[(1,.ak 0 [])],[.var (.v Yc) af],[Yc]⟩],Zc (Vl yD) yD⟩
theorem ZsG:ZoX.bA yb 62 0:=Zv { still:=[2,39,46,55,59]} [] [Zl8,Zka] ⟨Zu9,ZsF,au⟩
def bZ(F:Nat)(a0:Chan):yO (Int):=
 if(ah (a0.2.1 < 1))=af then
  ab 1
 else
 if(ah (a0.2.1 > 1125899906842624))=af then
  ab 1
 else
 if(ah (a0.1.2 < 0))=af then
  ab 1
 else
 if(ah (a0.1.2 >= 64))=af then
  ab 1
 else
 if((bits .andNot .i64 a0.2.2.2.2 1)!=0)=af then
  ab 1
 else
 (Zc (Vl F) F (a0.2.2.2.1,0,a0)).bind λa=>
 match a with
 |.inl b=>
  ab b.1
 |.inr c=>
  (c.2.2.2.1[0]?).bind λd=>
  (c.2.2.2.1[1]?).bind λe=>
  (nu F d.2.1 e.2.1).bind λf=>
  if(!f.2)=af then
   ab 10
  else
  if(ah (f.1 > c.2.1))=af then
   ab 10
  else
  ab 0
def IP(F:Nat):Fs yb:=⟨62,[.v Yc],[],[Yc],(zN yI),λx=>bZ F x⟩
def vV:Fs yb:=IP yD
theorem vW:vV.Ok:=aR { still:=[2,39,46,55,59]} [(0,ZoX)] [IN] ⟨Zvj,au⟩ ⟨ZsG,au⟩
def IQ(F:Nat)(a0:Int)(s0:Int)(s1:Int):yO ((Bool×Int×Int)):=
 if(ah (a0 < s0))=af then
  ab (af,s0,s1)
 else
 ab (ah (a0 > s1),s0,s1)
def Zng(F:Nat):Fs yb:=⟨135,[.v yI,.ak 0 [],.ak 1 []],[.var (.v yI) af,.var (.v yI) af],[yI,yI,yI],[⟨.ret,[(0,.v .bool)],[.var (.v yI) af,.var (.v yI) af],[.bool,yI,yI]⟩],λx=>IQ F x.1 x.2.1 x.2.2⟩
def ZfW:Fs yb:=Zng yD
theorem Znh:ZfW.Ok:=aR { still:=[4]} [] [] trivial
abbrev _root_.aOP:=yL Int
def Yj(F:Nat)(s:(aOP×Int×Int×Int×Int)):yO ((aOP×Int×Int×Int×Int)⊕((Int×Int×Int)⊕(Int×Int))):=
 if(ah (s.2.2.1 < s.2.1))=af then
  (idx s.1 s.2.2.1).bind λa=>
  (IQ F a s.2.2.2.1 s.2.2.2.2).bind λb=>
  if b.1=af then
   ab (.inr (.inl (s.2.2.1,b.2.1,b.2.2)))
  else
  ab (.inl (s.1,s.2.1,wi (s.2.2.1+1),b.2.1,b.2.2))
 else
 ab (.inr (.inr (s.2.2.2.1,s.2.2.2.2)))
abbrev _root_.aON:Go.Ev.Ty:=.sl yI
def Vw:Lp:=⟨[(0,.v aON),(1,.fn 135 [.ak 0 [],.ak 1 []]),(7,.v yI),(8,.v yI)],[.var (.v yI) af,.var (.v yI) af],[aON,yI,yI,yI,yI],[⟨.ret,[(4,.v yI)],[.var (.v yI) af,.var (.v yI) af],[yI,yI,yI]⟩,⟨.exit 0,[],[.var (.v yI) af,.var (.v yI) af],[yI,yI]⟩],Zc (Yj yD) yD⟩
theorem ZbM:Vw.bA yb 203 0:=Zv { still:=[4,15]} [] [ZfW] ⟨Znh,au⟩
def X9(F:Nat)(a0:aOP)(s0:Int)(s1:Int):yO ((Int×Int×Int)):=
 (Zc (Yj F) F (a0,(a0.length:Int),0,s0,s1)).bind λa=>
 match a with
 |.inl b=>
  ab (b.1,b.2.1,b.2.2)
 |.inr c=>
  ab ((-1),c.1,c.2)
def ZdL(F:Nat):Fs yb:=⟨203,[.v aON,.fn 135 [.ak 0 [],.ak 1 []]],[.var (.v yI) af,.var (.v yI) af],[aON,yI,yI],[⟨.ret,[(0,.v yI)],[.var (.v yI) af,.var (.v yI) af],[yI,yI,yI]⟩],λx=>X9 F x.1 x.2.1 x.2.2⟩
def VN:Fs yb:=ZdL yD
theorem ZdM:VN.Ok:=aR { still:=[4,15]} [(0,Vw)] [] trivial ⟨ZbM,au⟩
def XF(F:Nat)(a0:aOP)(s0:Int)(s1:Int):yO ((Bool×Int×Int)):=
 (X9 F a0 s0 s1).bind λa=>
 ab (ah (a.1 >= 0),a.2.1,a.2.2)
def ZbN(F:Nat):Fs yb:=⟨134,[.v aON,.fn 135 [.ak 0 [],.ak 1 []]],[.var (.v yI) af,.var (.v yI) af],[aON,yI,yI],[⟨.ret,[(0,.v .bool)],[.var (.v yI) af,.var (.v yI) af],[.bool,yI,yI]⟩],λx=>XF F x.1 x.2.1 x.2.2⟩
def WP:Fs yb:=ZbN yD
theorem ZbO:WP.Ok:=aR { still:=[4,5,6]} [] [VN] ⟨ZdM,au⟩
def VO(F:Nat)(a0:Int)(a1:Int)(a2:aOP):yO (Bool):=
 (XF F a2 a0 a1).bind λa=>
 ab (!a.1)
def ZqC(F:Nat):Fs yb:=⟨63,[.v yI,.v yI,.v aON],[],[yI,yI,aON],(zN .bool),λx=>VO F x.1 x.2.1 x.2.2⟩
def ZiT:Fs yb:=ZqC yD
theorem ZqD:ZiT.Ok:=aR { still:=[6,7,8]} [] [WP] ⟨ZbO,au⟩
def V9(F:Nat)(a0:yU):yO (yU):=
 (YA F a0).bind λa=>
 if a=af then
  ab a0
 else
 ab 1
def Zvk(F:Nat):Fs yb:=⟨171,[.v .u64],[],[.u64],(zN .u64),λx=>V9 F x⟩
def vX:Fs yb:=Zvk yD
theorem IR:vX.Ok:=aR { still:=[2,3]} [] [XP] ⟨Xt,au⟩
def WZ(F:Nat)(a0:yU)(a1:yU):yO (yU):=
 (V9 F a0).bind λa=>
 (V8 F a (a1 % 2305843009213688669)).bind λb=>
 ab b
def Zvl(F:Nat):Fs yb:=⟨88,[.v .u64,.v .u64],[],[.u64,.u64],(zN .u64),λx=>WZ F x.1 x.2⟩
def vY:Fs yb:=Zvl yD
theorem IS:vY.Ok:=aR { still:=[4,5,6,8]} [] [vX,vT] ⟨IR,IJ,au⟩
def YG(F:Nat)(a0:yU):yO (yU):=
 (WZ F 4 a0).bind λa=>
 ab a
def IT(F:Nat):Fs yb:=⟨32,[.v .u64],[],[.u64],(zN .u64),λx=>YG F x⟩
def W0:Fs yb:=IT yD
theorem Wv:W0.Ok:=aR { still:=[2,3]} [] [vY] ⟨IS,au⟩
abbrev fk:Ty:=(.st [.u64,.u64,.u64,.u64,.u64,aOB])
abbrev cU:Type:=(yU×yU×yU×yU×yU×aOz)
abbrev cU.Cond(x:cU):yU:=x.2.2.2.1
def Qa(F:Nat)(a0:cU):yO (bt):=
 (YG F a0.1).bind λa=>
 (YG F a0.2.1).bind λb=>
 (YG F a0.2.2.1).bind λc=>
 (YG F a0.2.2.2.1).bind λd=>
 (YG F a0.2.2.2.2.1).bind λe=>
 ab (a,b,c,d,e)
def IU(F:Nat):Fs yb:=⟨64,[.v fk],[],[fk],(zN nr),λx=>Qa F x⟩
def vZ:Fs yb:=IU yD
theorem wa:vZ.Ok:=aR { still:=[4,7,10,13,16]} [] [W0] ⟨Wv,au⟩
abbrev Zp:Ty:=(.st [Yc,fk,yI,yI,yI])
abbrev ZD:Type:=(Chan×cU×Int×Int×Int)
def XU(F:Nat)(s:(aOM×Int×Int×ZD)):yO ((aOM×Int×Int×ZD)⊕((Bool×ZD)⊕ZD)):=
 if(ah (s.2.2.1 < s.2.1))=af then
  (idx s.1 s.2.2.1).bind λa=>
  (Wn F a).bind λb=>
  if(!b)=af then
   ab (.inr (.inl (ag,s.2.2.2)))
  else
  ab (.inl (s.1,s.2.1,wi (s.2.2.1+1),s.2.2.2))
 else
 ab (.inr (.inr s.2.2.2))
def ZiU:Lp:=⟨[(1,.ak 0 []),(20,.v aOH),(21,.v yI),(22,.v yI)],[.var (.v Zp) af],[aOH,yI,yI,Zp],[⟨.ret,[(2,.v .bool)],[.var (.v Zp) af],[.bool,Zp]⟩,⟨.exit 0,[(1,.ak 0 [])],[.var (.v Zp) af],[Zp]⟩],Zc (XU yD) yD⟩
theorem Zni:ZiU.bA yb 17 0:=Zv { still:=[2,26,31,37,42,57]} [] [QB] ⟨vG,au⟩
def Ww(F:Nat)(a0:ZD):yO (Bool):=
 (Zc (XU F) F ([a0.2.1.1,a0.2.1.2.1,a0.2.1.2.2.1,a0.2.1.2.2.2.1,a0.2.1.2.2.2.2.1],5,0,a0)).bind λa=>
 match a with
 |.inl b=>
  ab b.1
 |.inr c=>
  (bZ F c.1).bind λd=>
  if(d==0)=af then
   (VO F 0 1 [c.2.2.1]).bind λe=>
   if e=af then
    (Qa F c.2.1).bind λf=>
    if(ba c.2.2.1 2)=af then
     (c.1.2.2.1[c.2.2.1.toNat]?).bind λg=>
     if(ah (f=g))=af then
      (VO F 0 1048576 [c.2.2.2.1,c.2.2.2.2]).bind λh=>
      ab h
     else
     ab ag
    else
    ae
   else
   ab ag
  else
  ab ag
def ZsH(F:Nat):Fs yb:=⟨17,[.v Zp],[],[Zp],(zN .bool),λx=>Ww F x⟩
def VP:Fs yb:=ZsH yD
theorem QL:VP.Ok:=aR { still:=[2,26,31,37,42,57]} [(0,ZiU)] [vV,ZiT,vZ] ⟨vW,ZqD,wa,au⟩ ⟨Zni,au⟩
def Zvm(F:Nat)(a0:aOz):yO ((yU×aOz)):=
 ab (0,a0)
def ZAC(F:Nat):Fs yb:=⟨224,[.v aOB],[],[aOB],[⟨.ret,[(0,.fn 248 [.ak 0 [],.ak 1 []])],[.var (.v .u64) af,.var (.v aOB) af],[.u64,aOB]⟩],λx=>Zvm F x⟩
def ZrV:Fs yb:=ZAC yD
theorem ZAD:ZrV.Ok:=aR { still:=[2]} [] [] trivial
def ZQm:ByteArray:=⟨#[115,116,114,101,97,109]⟩
def wb(F:Nat)(s:(Int×Int×aOz×aOz)):yO ((Int×Int×aOz×aOz)⊕(aOz×aOz)):=
 if(ah (s.2.1 >= 0))=af then
  if(ah (0<=s.2.1))=af then
   if(cO s.2.2.1.length 1 1)=af then
    let a:aOz:=s.2.2.1++([w8 (Int.fdiv s.1 (2 ^ (min s.2.1.toNat 64)))]:yL yB)
    ab (.inl (s.1,wi (s.2.1 - 8),a,s.2.2.2))
   else
   ae
  else
  ae
 else
 ab (.inr (s.2.2.1,s.2.2.2))
abbrev _root_.aOA:Go.Ev.Ty:=.sl .u8
def ZoY:Lp:=⟨[(0,.own 0 .u8),(1,.v yI),(5,.v yI)],[.log .u8 5,.log .u8 5],[yI,yI,aOA,aOA],[⟨.exit 0,[(0,.own 0 .u8)],[.log .u8 5,.log .u8 5],[aOA,aOA]⟩],Zc (wb yD) yD⟩
theorem ZsI:ZoY.bA yb 186 0:=Zv { own:=[0,4,10,16,17]} [] [] trivial
def VQ(F:Nat)(a1:Int)(s0:aOz):yO (aOz):=
 (Zc (wb F) F (a1,56,s0,[])).bind λa=>
 ab a.1
def IV(F:Nat):Fs yb:=⟨186,[.own 0 .u8,.v yI],[.log .u8 5],[yI,aOA],[⟨.ret,[(0,.own 0 .u8)],[.log .u8 5],[aOA]⟩],λx=>VQ F x.1 x.2⟩
def IW:Fs yb:=IV yD
theorem IX:IW.Ok:=aR { own:=[0,4,10,16,17]} [(0,ZoY)] [] trivial ⟨ZsI,au⟩
def Zvn(F:Nat):Fs yb:=⟨186,[.nil .u8,.v yI],[],[yI],(IV F).xs,λx=>(IV F).M (x,([]:yL yB))⟩
def Zmc:Fs yb:=Zvn yD
theorem Zvo:Zmc.Ok:=ZO3 (i1:=[yI]) (i2:=[yI,aOA]) (λx=>(x,([]:yL yB))) IX (λ_=>rfl) (λ_=>⟨_,rfl⟩)
abbrev _root_.aPb:=yL aOz
def Wp(F:Nat)(s:(aPb×Int×Int×aOz×aOz)):yO ((aPb×Int×Int×aOz×aOz)⊕(aOz×aOz)):=
 if(ah (s.2.2.1 < s.2.1))=af then
  (idx s.1 s.2.2.1).bind λa=>
  (VQ F (a.length:Int) s.2.2.2.2).bind λb=>
  if(cO b.length a.length 1)=af then
   ab (.inl (s.1,s.2.1,wi (s.2.2.1+1),s.2.2.2.1,b++a))
  else
  ae
 else
 ab (.inr (s.2.2.2.1,s.2.2.2.2))
abbrev qX:List bi:=[.var (.v aOB) af,.log .u8 5]
abbrev _root_.aPa:Go.Ev.Ty:=.sl aOA
def ZrW:Lp:=⟨[(4,.ak 0 []),(5,.own 1 .u8),(13,.v aPa),(14,.v yI),(15,.v yI)],qX,[aPa,yI,yI,aOB,aOA],[⟨.exit 0,[(4,.ak 0 []),(5,.own 1 .u8)],qX,[aOB,aOA]⟩],Zc (Wp yD) yD⟩
def wc:HI:={ own:=[5,10,12,19,22,24],still:=[9,19,21,26]}
theorem Zvp:ZrW.bA yb 114 0:=Zv wc [] [IW] ⟨IX,au⟩
def Yp(F:Nat)(a0:aOz):yO (aOz):=
 if(cO 0 a0.length 1)=af then
  ab a0
 else
 ae
def Zfy(F:Nat):Fs yb:=⟨105,[.sl af .u8],[],[aOA],[⟨.ret,[(0,.own 0 .u8)],[.log .u8 5],[aOA]⟩],λx=>Yp F x⟩
def ZgH:Fs yb:=Zfy yD
theorem Zfz:ZgH.Ok:=aR { own:=[2,5,7]} [] [] trivial
def VR(F:Nat):yO (aOz):=
 ab []
def Zc0(F:Nat):Fs yb:=⟨105,[.nil .u8],[],[],[⟨.ret,[(0,.own 0 .u8)],[.log .u8 5],[aOA]⟩],λx=>VR F⟩
def ZdN:Fs yb:=Zc0 yD
theorem Zc1:ZdN.Ok:=aR { own:=[2,5,7]} [] [] trivial
def ZdO(F:Nat):Fs yb:=⟨105,[.v aOA],[],[aOA],[⟨.ret,[(0,.own 0 .u8)],[.log .u8 5],[aOA]⟩],λx=>Yp F x⟩
def VS:Fs yb:=ZdO yD
theorem ZdP:VS.Ok:=ni (t:=.u8) (xs:=[⟨.ret,[(0,.own 0 .u8)],[.log .u8 5],[aOA]⟩]) (MA:=λ(x:aOz)=>Yp yD x) (MB:=λ_=>VR yD) Zfz Zc1 rfl
def we(F:Nat)(s:(aOz×aOz×aOz)):yO ((aOz×aOz×aOz)⊕(aOz×aOz×aOz)):=
 if((Int.tmod (s.2.2.length:Int) 64)!=56)=af then
  if(cO s.2.2.length 1 1)=af then
   ab (.inl (s.1,s.2.1,s.2.2++([0]:yL yB)))
  else
  ae
 else
 ab (.inr (s.1,s.2.1,s.2.2))
def ZoZ:Lp:=⟨[(0,.v aOA),(2,.ak 0 []),(3,.own 1 .u8)],qX,[aOA,aOB,aOA],[⟨.exit 0,[(0,.v aOA),(2,.ak 0 []),(3,.own 1 .u8)],qX,[aOA,aOB,aOA]⟩],Zc (we yD) yD⟩
def nv:HI:={ own:=[3,14,16,21,23,24,28,43],still:=[13,24,27,35,37,44,46]}
theorem ZsJ:ZoZ.bA yb 187 0:=Zv nv [] [] trivial
abbrev _root_.aOL:=yL yV
def IY(F:Nat):yO (aOL):=
 ab [1779033703,3144134277,1013904242,2773480762,1359893119,2600822924,528734635,1541459225]
def Zw9(F:Nat):Fs yb:=⟨234,[],[],[],(zN (.arr 8 .u32)),λx=>IY F⟩
def Zo0:Fs yb:=Zw9 yD
theorem Zxa:Zo0.Ok:=aR {} [] [] trivial
def wg(F:Nat)(a0:aOz):yO (yV):=
 (idx a0 0).bind λa=>
 (idx a0 1).bind λb=>
 let c:yV:=(iS (UInt32.ofNat a.toNat) 24)|||(iS (UInt32.ofNat b.toNat) 16)
 (idx a0 2).bind λd=>
 (idx a0 3).bind λe=>
 let f:yV:=(c|||(iS (UInt32.ofNat d.toNat) 8))|||(UInt32.ofNat e.toNat)
 ab f
def Zvq(F:Nat):Fs yb:=⟨259,[.v aOA],[],[aOA],(zN .u32),λx=>wg F x⟩
def Zmd:Fs yb:=Zvq yD
theorem Zvr:Zmd.Ok:=aR { still:=[2]} [] [] trivial
def ZL(F:Nat)(a0:yV)(a1:Int):yO (yV):=
 let a:yV:=iS a0 (min (((eK a1)&&&31).toNat:Int).toNat 32);let b:yV:=iA a0 (min ((32 - ((eK a1)&&&31)).toNat:Int).toNat 32)
 ab (a|||b)
def Zkd(F:Nat):Fs yb:=⟨256,[.v .u32,.v yI],[],[.u32,yI],(zN .u32),λx=>ZL F x.1 x.2⟩
def Qv:Fs yb:=Zkd yD
theorem ZcI:Qv.Ok:=aR { still:=[4]} [] [] trivial
def Vx(F:Nat)(s:(aOz×Int×aOL)):yO ((aOz×Int×aOL)⊕aOL):=
 if(ah (s.2.1 < 64))=af then
  if(ah (s.2.1 < 16))=af then
   if(ei s.1.length (ab (wi (4*s.2.1))) ae)=af then
    (wg F (s.1.drop ((wi (4*s.2.1)).toNat))).bind λa=>
    if(ba s.2.1 64)=af then
     (s.2.2[s.2.1.toNat]?).bind λb=>
     ab (.inl (s.1,wi (s.2.1+1),s.2.2.set s.2.1.toNat a))
    else
    ae
   else
   ae
  else
  if(ba (wi (s.2.1 - 15)) 64)=af then
   (s.2.2[(wi (s.2.1 - 15)).toNat]?).bind λc=>
   if(ba (wi (s.2.1 - 2)) 64)=af then
    (s.2.2[(wi (s.2.1 - 2)).toNat]?).bind λd=>
    (ZL F c (-7)).bind λe=>
    (ZL F c (-18)).bind λf=>
    (ZL F d (-17)).bind λg=>
    (ZL F d (-19)).bind λh=>
    if(ba (wi (s.2.1 - 16)) 64)=af then
     (s.2.2[(wi (s.2.1 - 16)).toNat]?).bind λi=>
     if(ba (wi (s.2.1 - 7)) 64)=af then
      (s.2.2[(wi (s.2.1 - 7)).toNat]?).bind λj=>
      let k:yV:=(i+((e^^^f)^^^(iA c 3)))+j
      if(ba s.2.1 64)=af then
       (s.2.2[s.2.1.toNat]?).bind λl=>
       let m:aOL:=s.2.2.set s.2.1.toNat (k+((g^^^h)^^^(iA d 10)))
       ab (.inl (s.1,wi (s.2.1+1),m))
      else
      ae
     else
     ae
    else
    ae
   else
   ae
  else
  ae
 else
 ab (.inr s.2.2)
def Zhp:Lp:=⟨[(0,.v aOA),(2,.ak 0 []),(8,.v yI)],[.var (.v (.arr 64 .u32)) af],[aOA,yI,(.arr 64 .u32)],[⟨.exit 0,[(2,.ak 0 [])],[.var (.v (.arr 64 .u32)) af],[(.arr 64 .u32)]⟩],Zc (Vx yD) yD⟩
theorem ZlI:Zhp.bA yb 254 0:=Zv { still:=[17,28,30,36,38]} [] [Zmd,Qv] ⟨Zvr,ZcI,au⟩
def wh(F:Nat)(a0:aOz):yO (aOL):=
 (Zc (Vx F) F (a0,0,[0,0,0,0,0,0,0,0,0,0,0,0,0,0,0,0,0,0,0,0,0,0,0,0,0,0,0,0,0,0,0,0,0,0,0,0,0,0,0,0,0,0,0,0,0,0,0,0,0,0,0,0,0,0,0,0,0,0,0,0,0,0,0,0])).bind λa=>
 ab a
def ZqE(F:Nat):Fs yb:=⟨254,[.v aOA],[],[aOA],(zN (.arr 64 .u32)),λx=>wh F x⟩
def ZiV:Fs yb:=ZqE yD
theorem ZqF:ZiV.Ok:=aR { still:=[17,28,30,36,38]} [(0,Zhp)] [] trivial ⟨ZlI,au⟩
def IZ(F:Nat):yO (aOL):=
 ab [1116352408,1899447441,3049323471,3921009573,961987163,1508970993,2453635748,2870763221,3624381080,310598401,607225278,1426881987,1925078388,2162078206,2614888103,3248222580,3835390401,4022224774,264347078,604807628,770255983,1249150122,1555081692,1996064986,2554220882,2821834349,2952996808,3210313671,3336571891,3584528711,113926993,338241895,666307205,773529912,1294757372,1396182291,1695183700,1986661051,2177026350,2456956037,2730485921,2820302411,3259730800,3345764771,3516065817,3600352804,4094571909,275423344,430227734,506948616,659060556,883997877,958139571,1322822218,1537002063,1747873779,1955562222,2024104815,2227730452,2361852424,2428436474,2756734187,3204031479,3329325298]
def Zxb(F:Nat):Fs yb:=⟨255,[],[],[],(zN (.arr 64 .u32)),λx=>IZ F⟩
def Zo1:Fs yb:=Zxb yD
theorem Zxc:Zo1.Ok:=aR {} [] [] trivial
def W1(F:Nat)(s:(Int×aOL×aOL×aOL×aOL×aOL)):yO ((Int×aOL×aOL×aOL×aOL×aOL)⊕(aOL×aOL×aOL×aOL×aOL)):=
 if(ah (s.1 < 64))=af then
  (s.2.2.2.2.2[4]?).bind λa=>
  (ZL F a (-6)).bind λb=>
  (s.2.2.2.2.2[4]?).bind λc=>
  (ZL F c (-11)).bind λd=>
  (s.2.2.2.2.2[4]?).bind λe=>
  (ZL F e (-25)).bind λf=>
  (s.2.2.2.2.2[7]?).bind λg=>
  (s.2.2.2.2.2[6]?).bind λh=>
  (s.2.2.2.2.2[4]?).bind λi=>
  (s.2.2.2.2.2[5]?).bind λj=>
  (s.2.2.2.2.2[6]?).bind λk=>
  let l:yV:=(g+((b^^^d)^^^f))+(h^^^(i&&&(j^^^k)))
  if(ba s.1 64)=af then
   (s.2.2.2.2.1[s.1.toNat]?).bind λm=>
   if(ba s.1 64)=af then
    (s.2.2.2.1[s.1.toNat]?).bind λn=>
    (s.2.2.2.2.2[0]?).bind λo=>
    (ZL F o (-2)).bind λp=>
    (s.2.2.2.2.2[0]?).bind λq=>
    (ZL F q (-13)).bind λr=>
    (s.2.2.2.2.2[0]?).bind λt=>
    (ZL F t (-22)).bind λu=>
    (s.2.2.2.2.2[0]?).bind λv=>
    (s.2.2.2.2.2[1]?).bind λw=>
    (s.2.2.2.2.2[2]?).bind λx=>
    (s.2.2.2.2.2[0]?).bind λy=>
    (s.2.2.2.2.2[1]?).bind λz=>
    let A:yV:=((l+m)+n)+((p^^^r)^^^u);let B:yV:=A+((v&&&w)|||(x&&&(y|||z)))
    (s.2.2.2.2.2[0]?).bind λC=>
    (s.2.2.2.2.2[1]?).bind λD=>
    (s.2.2.2.2.2[2]?).bind λE=>
    (s.2.2.2.2.2[3]?).bind λG=>
    (s.2.2.2.2.2[4]?).bind λH=>
    (s.2.2.2.2.2[5]?).bind λI=>
    (s.2.2.2.2.2[6]?).bind λJ=>
    ab (.inl (wi (s.1+1),s.2.1,s.2.2.1,s.2.2.2.1,s.2.2.2.2.1,[B,C,D,E,G+((l+m)+n),H,I,J]))
   else
   ae
  else
  ae
 else
 ab (.inr (s.2.1,s.2.2.1,s.2.2.2.1,s.2.2.2.2.1,s.2.2.2.2.2))
def wj:yL bi:=[.var (.v (.arr 8 .u32)) af,.var (.v (.arr 8 .u32)) af,.var (.v (.arr 64 .u32)) af,.var (.v (.arr 64 .u32)) af,.var (.v (.arr 8 .u32)) af]
def ZfX:Lp:=⟨[(2,.ak 0 []),(4,.ak 1 []),(5,.ak 2 []),(6,.ak 3 []),(7,.ak 4 []),(18,.v yI)],wj,[yI,(.arr 8 .u32),(.arr 8 .u32),(.arr 64 .u32),(.arr 64 .u32),(.arr 8 .u32)],[⟨.exit 0,[(2,.ak 0 []),(4,.ak 1 []),(7,.ak 4 [])],wj,[(.arr 8 .u32),(.arr 8 .u32),(.arr 64 .u32),(.arr 64 .u32),(.arr 8 .u32)]⟩],Zc (W1 yD) yD⟩
def hi3:HI:={ still:=[14,22,25,29,57,60,64]}
theorem Zkf:ZfX.bA yb 235 0:=Zv hi3 [] [Qv] ⟨ZcI,au⟩
def W2(F:Nat)(s:(Int×aOL×aOL×aOL×aOL×aOL)):yO ((Int×aOL×aOL×aOL×aOL×aOL)⊕(aOL×aOL×aOL×aOL×aOL)):=
 if(ah (s.1 < 8))=af then
  if(ba s.1 8)=af then
   (s.2.2.2.2.2[s.1.toNat]?).bind λa=>
   if(ba s.1 8)=af then
    (s.2.1[s.1.toNat]?).bind λb=>
    if(ba s.1 8)=af then
     (s.2.2.2.2.2[s.1.toNat]?).bind λc=>
     ab (.inl (wi (s.1+1),s.2.1,s.2.2.1,s.2.2.2.1,s.2.2.2.2.1,s.2.2.2.2.2.set s.1.toNat (a+b)))
    else
    ae
   else
   ae
  else
  ae
 else
 ab (.inr (s.2.1,s.2.2.1,s.2.2.2.1,s.2.2.2.2.1,s.2.2.2.2.2))
def ZfY:Lp:=⟨[(2,.ak 0 []),(4,.ak 1 []),(7,.ak 4 []),(104,.v yI)],wj,[yI,(.arr 8 .u32),(.arr 8 .u32),(.arr 64 .u32),(.arr 64 .u32),(.arr 8 .u32)],[⟨.exit 2,[(4,.ak 1 []),(7,.ak 4 [])],wj,[(.arr 8 .u32),(.arr 8 .u32),(.arr 64 .u32),(.arr 64 .u32),(.arr 8 .u32)]⟩],Zc (W2 yD) yD⟩
theorem Zkg:ZfY.bA yb 235 1:=Zv hi3 [] [] trivial
def Vf(F:Nat)(a0:aOL)(a1:aOz):yO (aOL):=
 (wh F a1).bind λa=>
 (IZ F).bind λb=>
 (Zc (W1 F) F (0,a0,[0,0,0,0,0,0,0,0],a,b,a0)).bind λc=>
 (Zc (W2 F) F (0,c.1,c.2.1,c.2.2.1,c.2.2.2.1,c.2.2.2.2)).bind λd=>
 ab d.2.2.2.2
def Zo2(F:Nat):Fs yb:=⟨235,[.v (.arr 8 .u32),.v aOA],[],[(.arr 8 .u32),aOA],(zN (.arr 8 .u32)),λx=>Vf F x.1 x.2⟩
def JA:Fs yb:=Zo2 yD
theorem ZfZ:JA.Ok:=aR hi3 [(0,ZfX),(1,ZfY)] [ZiV,Zo1] ⟨ZqF,Zxc,au⟩ ⟨Zkf,Zkg,au⟩
def wl(F:Nat)(s:(aOz×aOz×aOz×aOL)):yO ((aOz×aOz×aOz×aOL)⊕(aOz×aOz×aOL)):=
 if(ah ((s.1.length:Int) >= 64))=af then
  if(ei s.1.length ae (ab 64))=af then
   (Vf F s.2.2.2 (s.1.take 64)).bind λa=>
   if(ei s.1.length (ab 64) ae)=af then
    ab (.inl (s.1.drop 64,s.2.1,s.2.2.1,a))
   else
   ae
  else
  ae
 else
 ab (.inr (s.2.1,s.2.2.1,s.2.2.2))
abbrev qU:List bi:=[.var (.v aOB) af,.log .u8 5,.var (.v (.arr 8 .u32)) af]
def Zo3:Lp:=⟨[(0,.v aOA),(2,.ak 0 []),(3,.own 1 .u8),(4,.ak 2 [])],qU,[aOA,aOB,aOA,(.arr 8 .u32)],[⟨.exit 2,[(2,.ak 0 []),(3,.own 1 .u8),(4,.ak 2 [])],qU,[aOB,aOA,(.arr 8 .u32)]⟩],Zc (wl yD) yD⟩
theorem ZsK:Zo3.bA yb 187 1:=Zv nv [] [JA] ⟨ZfZ,au⟩
def wm(F:Nat)(s:(aOz×aOz×aOz×aOL)):yO ((aOz×aOz×aOz×aOL)⊕(aOz×aOz×aOL)):=
 if(ah ((s.1.length:Int) > 0))=af then
  if(ei s.1.length ae (ab 64))=af then
   (Vf F s.2.2.2 (s.1.take 64)).bind λa=>
   if(ei s.1.length (ab 64) ae)=af then
    ab (.inl (s.1.drop 64,s.2.1,s.2.2.1,a))
   else
   ae
  else
  ae
 else
 ab (.inr (s.2.1,s.2.2.1,s.2.2.2))
def Zo4:Lp:=⟨[(2,.ak 0 []),(3,.v aOA),(4,.ak 2 [])],qU,[aOA,aOB,aOA,(.arr 8 .u32)],[⟨.exit 4,[(2,.ak 0 []),(4,.ak 2 [])],qU,[aOB,aOA,(.arr 8 .u32)]⟩],Zc (wm yD) yD⟩
theorem ZsL:Zo4.bA yb 187 2:=Zv nv [] [JA] ⟨ZfZ,au⟩
def wn(F:Nat)(s:(Int×aOz×aOz×aOL)):yO ((Int×aOz×aOz×aOL)⊕(aOz×aOz×aOL)):=
 if(ah (s.1 < 32))=af then
  if(ba (wi (Int.tdiv s.1 4)) 8)=af then
   (s.2.2.2[(wi (Int.tdiv s.1 4)).toNat]?).bind λa=>
   if(ah (0<=wi (24 - (wi (8*(Int.tmod s.1 4))))))=af then
    let b:yV:=iA a (min (wi (24 - (wi (8*(Int.tmod s.1 4))))).toNat 32)
    if(ba s.1 32)=af then
     (s.2.1[s.1.toNat]?).bind λc=>
     ab (.inl (wi (s.1+1),s.2.1.set s.1.toNat (w8 (b.toNat:Int)),s.2.2.1,s.2.2.2))
    else
    ae
   else
   ae
  else
  ae
 else
 ab (.inr (s.2.1,s.2.2.1,s.2.2.2))
def Zo5:Lp:=⟨[(2,.ak 0 []),(4,.ak 2 []),(48,.v yI)],qU,[yI,aOB,aOA,(.arr 8 .u32)],[⟨.exit 6,[(2,.ak 0 [])],qU,[aOB,aOA,(.arr 8 .u32)]⟩],Zc (wn yD) yD⟩
theorem ZsM:Zo5.bA yb 187 3:=Zv nv [] [] trivial
def sx(F:Nat)(a0:aOz):yO (aOz):=
 let a:Int:=wi ((a0.length:Int) - (Int.tmod (a0.length:Int) 64))
 if(ei a0.length (ab a) ae)=af then
  (Yp F (a0.drop a.toNat)).bind λb=>
  if(cO b.length 1 1)=af then
   (Zc (we F) F (a0,dz,b++([128]:yL yB))).bind λc=>
   (VQ F (wi (8*(c.1.length:Int))) c.2.2).bind λd=>
   (IY F).bind λe=>
   (Zc (wl F) F (c.1,c.2.1,d,e)).bind λf=>
   (Zc (wm F) F (f.2.1,f.1,f.2.1,f.2.2)).bind λg=>
   (Zc (wn F) F (0,g.1,g.2.1,g.2.2)).bind λh=>
   ab h.1
  else
  ae
 else
 ae
def JB(F:Nat):Fs yb:=⟨187,[.v aOA],[],[aOA],(zN aOB),λx=>sx F x⟩
def ZDf:Fs yb:=JB yD
theorem ZAE:ZDf.Ok:=aR nv [(0,ZoZ),(1,Zo3),(2,Zo4),(3,Zo5)] [IW,VS,Zo0] ⟨IX,ZdP,Zxa,au⟩ ⟨ZsJ,ZsK,ZsL,ZsM,au⟩
end
end Go.Proofs.YtekdgjajmennjaaGreat
end
section
namespace Go.Sha
open Go.Ev
noncomputable def QC{α:Type}(n:Nat)(k:Nat->α):α:=Nat.rec (motive:=λ_=>α) (k 0) (λm _=>k (Nat.succ m)) n
theorem Xu{α:Type}(n:Nat)(k:Nat->α):QC n k=k n:=by cases n <;> rfl
def eO(x:Nat):Nat:=Nat.mul x 4294967297
def s0(x:Nat):Nat:=Nat.xor (Nat.xor (yag (eO x) 7) (yag (eO x) 18)) (yag x 3)
def s1(x:Nat):Nat:=Nat.xor (Nat.xor (yag (eO x) 17) (yag (eO x) 19)) (yag x 10)
def S0(x:Nat):Nat:=Nat.xor (Nat.xor (yag (eO x) 2) (yag (eO x) 13)) (yag (eO x) 22)
def S1(x:Nat):Nat:=Nat.xor (Nat.xor (yag (eO x) 6) (yag (eO x) 11)) (yag (eO x) 25)
def ch(e f g:Nat):Nat:=Nat.xor g (Nat.land e (Nat.xor f g))
def mj(a b c:Nat):Nat:=Nat.lor (Nat.land a b) (Nat.land c (Nat.lor a b))
def lo(x:Nat):Nat:=Nat.mod x 4294967296
def kw(W:Nat):Nat:=lo (yw (yw (yw (yag W 480) (s0 (lo (yag W 448)))) (lo (yag W 192))) (s1 (lo (yag W 32))))
def kn(W:Nat):Nat:=Nat.mod (yw (Nat.mul W 4294967296) (kw W)) (Nat.pow 2 512)
noncomputable def wo(k:Nat)(ih:Nat->Nat->Nat->Nat->Nat->Nat->Nat->Nat->Nat->Nat)(W a b c d e f g h:Nat):Nat:=
 QC (yw (yw (yw (yw h (S1 e)) (ch e f g)) k) (yag W 480)) λt=>
     QC (lo (yw (yw t (S0 a)) (mj a b c))) λa'=>QC (lo (yw d t)) λe'=>QC (kn W) λW'=>ih W' a' a b c e' e f g
noncomputable def oW(ks:yL Nat)(K:Nat->Nat->Nat->Nat->Nat->Nat->Nat->Nat->Nat):Nat->Nat->Nat->Nat->Nat->Nat->Nat->Nat->Nat->Nat:=
 List.rec (motive:=λ_=>Nat->Nat->Nat->Nat->Nat->Nat->Nat->Nat->Nat->Nat) (λ_=>K) (λk _ ih=>wo k ih) ks
def ks:yL Nat:=[1116352408,1899447441,3049323471,3921009573,961987163,1508970993,2453635748,2870763221,3624381080,310598401,607225278,1426881987,1925078388,2162078206,2614888103,3248222580,3835390401,4022224774,264347078,604807628,770255983,1249150122,1555081692,1996064986,2554220882,2821834349,2952996808,3210313671,3336571891,3584528711,113926993,338241895,666307205,773529912,1294757372,1396182291,1695183700,1986661051,2177026350,2456956037,2730485921,2820302411,3259730800,3345764771,3516065817,3600352804,4094571909,275423344,430227734,506948616,659060556,883997877,958139571,1322822218,1537002063,1747873779,1955562222,2024104815,2227730452,2361852424,2428436474,2756734187,3204031479,3329325298]
def w32(H i:Nat):Nat:=lo (yag H i)
def cr(H x:Nat):Nat:=yw (Nat.mul H 4294967296) (lo x)
noncomputable def wq(H B:Nat):Nat:=
 QC (w32 H 224) λa=>QC (w32 H 192) λb=>QC (w32 H 160) λc=>QC (w32 H 128) λd=>QC (w32 H 96) λe=>QC (w32 H 64) λf=>QC (w32 H 32) λg=>QC (w32 H 0) λh=>
  oW ks (λa' b' c' d' e' f' g' h'=>cr (cr (cr (cr (cr (cr (cr (cr 0 (yw a' a)) (yw b' b)) (yw c' c)) (yw d' d)) (yw e' e)) (yw f' f)) (yw g' g)) (yw h' h)) B a b c d e f g h
noncomputable def pk(l:yL Nat)(n:Nat):Nat:=List.rec (motive:=λ_=>Nat->Nat) (λn=>n) (λx _ ih n=>QC (yw (Nat.mul n 256) x) ih) l n
noncomputable def JC(n:Nat)(l:yL Nat)(H:Nat):Nat:=
 Nat.rec (motive:=λ_=>yL Nat->Nat->Nat) (λ_ H=>H) (λ_ ih l H=>QC (wq H (pk (l.take 64) 0)) λH'=>ih (l.drop 64) H') n l H
noncomputable def outs(H:Nat)(l:yL Nat):yL yB:=List.rec (motive:=λ_=>yL yB) [] (λs _ ih=>QC (Nat.mod (yag H s) 256) λx=>ybh x::ih) l
def JD:yL Nat:=[248,240,232,224,216,208,200,192,184,176,168,160,152,144,136,128,120,112,104,96,88,80,72,64,56,48,40,32,24,16,8,0]
def jN(n:Nat):yL Nat:=[n / 2 ^ 56 % 256,n / 2 ^ 48 % 256,n / 2 ^ 40 % 256,n / 2 ^ 32 % 256,n / 2 ^ 24 % 256,n / 2 ^ 16 % 256,n / 2 ^ 8 % 256,n % 256]
def zs(n:Nat):Nat:=(119 - n % 64) % 64
def H0:Nat:=cr (cr (cr (cr (cr (cr (cr (cr 0 1779033703) 3144134277) 1013904242) 2773480762) 1359893119) 2600822924) 528734635) 1541459225
noncomputable def gP(l:yL yB):yL yB:=
 QC l.length λn=>QC (JC (Nat.div (yw n 72) 64) (l.map ybm++(128::(yy (zs n) 0++jN (8*n)))) H0) λH=>outs H JD
theorem jm(x y:yV):(x+y).toNat=lo (x.toNat+y.toNat):=by rw[UInt32.toNat_add];rfl
theorem jO(x y:yV):(x^^^y).toNat=Nat.xor x.toNat y.toNat:=UInt32.toNat_xor ..
theorem JE(x y:yV):(x&&&y).toNat=Nat.land x.toNat y.toNat:=UInt32.toNat_and ..
theorem oX(x y:yV):(x|||y).toNat=Nat.lor x.toNat y.toNat:=UInt32.toNat_or ..
theorem JF(x:yV):x.toNat < 4294967296:=x.toNat_lt
theorem sy(x:yV)(n:Nat):(iA x n).toNat=yag x.toNat n:=by
 unfold iA;rw[ycu,show yag x.toNat n=x.toNat >>> n from rfl,Nat.shiftRight_eq_div_pow]
 exact yap (Nat.lt_of_le_of_lt (Nat.div_le_self _ _) (JF x))
theorem ZN0(x:Nat):lo x < 4294967296:=ybo _ (by omega)
theorem fP{x:Nat}(h:x < 4294967296):lo x=x:=yap h
theorem ZQn(x:yV){n k:Nat}(h:n+k=32)(hn:0 < n):(iS x k|||iA x n).toNat=lo (yag (eO x.toNat) n):=by
 rw[oX,sy];unfold iS;have hx:=JF x;generalize x.toNat=m at hx;have hp:2 ^ n*2 ^ k=4294967296:=by rw[<-Nat.pow_add,h]
 rw[ycu,show yag m n=m >>> n from rfl,Nat.shiftRight_eq_div_pow,show yag (eO m) n=(eO m) >>> n from rfl,Nat.shiftRight_eq_div_pow]
 have e1:m*2 ^ k % 2 ^ 32=2 ^ k*(m % 2 ^ n):=by
  rw[show(2:Nat) ^ 32=2 ^ n*2 ^ k from hp.symm,Nat.mul_mod_mul_right]
  exact ybu ..
 have hd:m / 2 ^ n < 2 ^ k:=by
  rw[Nat.div_lt_iff_lt_mul (Nat.two_pow_pos n),ybu,hp];exact hx
 rw[e1,show Nat.lor (2 ^ k*(m % 2 ^ n)) (m / 2 ^ n)=2 ^ k*(m % 2 ^ n)|||m / 2 ^ n from rfl, <-Nat.two_pow_add_eq_or_of_lt hd]
 have e2:eO m=2 ^ n*(m*2 ^ k)+m:=by
  unfold eO;rw[Nat.mul_left_comm,hp,show Nat.mul m 4294967297=m*4294967297 from rfl]
  omega
 rw[e2,Nat.mul_add_div (Nat.two_pow_pos n)];unfold lo;rw[show Nat.mod (m*2 ^ k+m / 2 ^ n) 4294967296=(m*2 ^ k+m / 2 ^ n) % 4294967296 from rfl,Nat.add_mod,show m*2 ^ k % 4294967296=2 ^ k*(m % 2 ^ n) from e1,yap (a:=m / 2 ^ n) (b:=4294967296) (by rw[<-hp];exact Nat.lt_of_lt_of_le hd (Nat.le_mul_of_pos_left _ (Nat.two_pow_pos n)))]
 refine(yap ?_).symm;have hm:m % 2 ^ n < 2 ^ n:=ybo _ (Nat.two_pow_pos n)
 calc 2 ^ k*(m % 2 ^ n)+m / 2 ^ n < 2 ^ k*(m % 2 ^ n)+2 ^ k:=by omega
  _=2 ^ k*(m % 2 ^ n+1):=by rw[Nat.mul_add,Nat.mul_one]
  _<=2 ^ k*2 ^ n:=Nat.mul_le_mul_left _ hm
  _=4294967296:=by rw[ybu,hp]
theorem lK(x y:Nat):lo (Nat.xor x y)=Nat.xor (lo x) (lo y):=Nat.xor_mod_two_pow (n:=32)
theorem ZKQ(x:yV)(n:Nat):lo (yag x.toNat n)=yag x.toNat n:=by
 rw[<-sy];exact fP (JF _)
theorem ZQ0(x:yV){a b:yV}(ha:a.toNat=lo (yag (eO x.toNat) 7))(hb:b.toNat=lo (yag (eO x.toNat) 18)):((a^^^b)^^^iA x 3).toNat=lo (s0 x.toNat):=by
 unfold s0;rw[jO,jO,sy,ha,hb,lK,lK,ZKQ]
theorem ZQ1(x:yV){a b:yV}(ha:a.toNat=lo (yag (eO x.toNat) 17))(hb:b.toNat=lo (yag (eO x.toNat) 19)):((a^^^b)^^^iA x 10).toNat=lo (s1 x.toNat):=by
 unfold s1;rw[jO,jO,sy,ha,hb,lK,lK,ZKQ]
theorem ZQ2(x:yV){a b c:yV}(ha:a.toNat=lo (yag (eO x.toNat) 2))(hb:b.toNat=lo (yag (eO x.toNat) 13))(hc:c.toNat=lo (yag (eO x.toNat) 22)):((a^^^b)^^^c).toNat=lo (S0 x.toNat):=by
 unfold S0;rw[jO,jO,ha,hb,hc,lK,lK]
theorem ZQ3(x:yV){a b c:yV}(ha:a.toNat=lo (yag (eO x.toNat) 6))(hb:b.toNat=lo (yag (eO x.toNat) 11))(hc:c.toNat=lo (yag (eO x.toNat) 25)):((a^^^b)^^^c).toNat=lo (S1 x.toNat):=by
 unfold S1;rw[jO,jO,ha,hb,hc,lK,lK]
theorem ZQ4(e f g:yV):(g^^^(e&&&(f^^^g))).toNat=ch e.toNat f.toNat g.toNat:=by
 unfold ch;rw[jO,JE,jO]
theorem ZQ5(a b c:yV):((a&&&b)|||(c&&&(a|||b))).toNat=mj a.toNat b.toNat c.toNat:=by
 unfold mj;rw[oX,JE,JE,oX]
theorem ZQ6(a b c d:Nat):lo (lo (lo (a+lo b)+c)+lo d)=lo (a+b+c+d):=by
 show(((a+b % 4294967296) % 4294967296+c) % 4294967296+d % 4294967296) % 4294967296=(a+b+c+d) % 4294967296;omega
theorem ZQ7(a b c d e:Nat):lo (lo (lo (lo (a+lo b)+c)+d)+e)=lo (yw (yw (yw (yw a b) c) d) e):=by
 show((((a+b % 4294967296) % 4294967296+c) % 4294967296+d) % 4294967296+e) % 4294967296=(a+b+c+d+e) % 4294967296;omega
theorem ZQ8(t s m:Nat):lo (lo (lo t+lo s)+m)=lo (yw (yw t s) m):=by
 show((t % 4294967296+s % 4294967296) % 4294967296+m) % 4294967296=(t+s+m) % 4294967296;omega
theorem ZQ9(d t:Nat):lo (d+lo t)=lo (yw d t):=by
 show(d+t % 4294967296) % 4294967296=(d+t) % 4294967296;omega
def pw(n:Nat)(l:yL Nat):Nat:=l.foldl (λn x=>n*4294967296+x) n
theorem JG:∀(l:yL Nat)(n:Nat),(∀x,x∈l->x < 4294967296)->pw n l / 2 ^ (32*l.length)=n
 |[],n,_=>by simp[pw]
 |x::r,n,h=>by
  have ih:=JG r (n*4294967296+x) (λy hy=>h y (List.mem_cons_of_mem _ hy));have hx:=h x (List.mem_cons_self ..);rw[show pw n (x::r)=pw (n*4294967296+x) r from rfl,yah,show 32*(r.length+1)=32*r.length+32 by omega,Nat.pow_add, <-Nat.div_div_eq_div_mul,ih]
  omega
theorem wr:∀(l:yL Nat)(n:Nat),pw n l=n*2 ^ (32*l.length)+pw 0 l
 |[],n=>by simp[pw]
 |x::r,n=>by
  rw[show pw n (x::r)=pw (n*4294967296+x) r from rfl,show pw 0 (x::r)=pw (0*4294967296+x) r from rfl,wr r (n*4294967296+x),wr r (0*4294967296+x),yah,show 32*(r.length+1)=32+32*r.length by omega,Nat.pow_add,Nat.zero_mul,
   yaz,yav, <-Nat.mul_assoc,Nat.add_assoc]
theorem ZN1:∀(l:yL Nat),(∀x,x∈l->x < 4294967296)->pw 0 l < 2 ^ (32*l.length)
 |[],_=>by simp[pw]
 |x::r,h=>by
  have ih:=ZN1 r (λy hy=>h y (List.mem_cons_of_mem _ hy));have hx:=h x (List.mem_cons_self ..);rw[show pw 0 (x::r)=pw (0*4294967296+x) r from rfl,wr,yah,show 32*(r.length+1)=32+32*r.length by omega,Nat.pow_add,Nat.zero_mul,yaz]
  have:(x+1)*2 ^ (32*r.length)<=2 ^ 32*2 ^ (32*r.length):=ycg _ (by omega);rw[yav,Nat.one_mul]at this;omega
theorem ZN2{n x s:Nat}{r:yL Nat}(h:∀y,y∈r->y < 4294967296)(hs:s=32*r.length):yag (pw n (x::r)) s=n*4294967296+x:=by
 subst hs;rw[show yag (pw n (x::r)) (32*r.length)=pw n (x::r) >>> (32*r.length) from rfl,Nat.shiftRight_eq_div_pow]
 exact JG r (n*4294967296+x) h
theorem ZN3{n x s:Nat}{r:yL Nat}(hx:x < 4294967296)(h:∀y,y∈r->y < 4294967296)(hs:s=32*r.length):lo (yag (pw n (x::r)) s)=x:=by
 rw[ZN2 h hs];show(n*4294967296+x) % 4294967296=x;omega
theorem JH(n:Nat)(l r:yL Nat):pw n (l++r)=pw (pw n l) r:=List.foldl_append ..
theorem ZGZ(n x:Nat)(r:yL Nat):pw n (x::r)=pw (n*4294967296+x) r:=rfl
theorem lL{v l r:yL Nat}{x s:Nat}(e:v=l++x::r)(h:∀y,y∈v->y < 4294967296)(hs:s=32*r.length):lo (yag (pw 0 v) s)=x:=by
 rw[e]at h ⊢;rw[JH];exact ZN3 (h x (by simp)) (λy hy=>h y (by simp[hy])) hs
def wd(ws:yL Nat)(n:Nat):Nat:=if h:n < 16 then lo (ws.getD n 0) else lo (wd ws (n - 16)+s0 (wd ws (n - 15))+wd ws (n - 7)+s1 (wd ws (n - 2)))
termination_by n
decreasing_by all_goals omega
theorem ZQo(ws:yL Nat)(n:Nat):wd ws n < 4294967296:=by
 rw[wd];split <;> exact ZN0 _
theorem ZG0(ws:yL Nat)(n:Nat):wd ws (n+16)=lo (wd ws n+s0 (wd ws (n+1))+wd ws (n+9)+s1 (wd ws (n+14))):=by
 rw[wd,dif_neg (by omega)];simp only[Nat.add_sub_cancel,show n+16 - 15=n+1 by omega,show n+16 - 7=n+9 by omega,show n+16 - 2=n+14 by omega]
def win(ws:yL Nat)(i:Nat):yL Nat:=[wd ws i,wd ws (i+1),wd ws (i+2),wd ws (i+3),wd ws (i+4),wd ws (i+5),wd ws (i+6),wd ws (i+7),wd ws (i+8),wd ws (i+9),wd ws (i+10),wd ws (i+11),wd ws (i+12),wd ws (i+13),wd ws (i+14),wd ws (i+15)]
theorem JI{ws:yL Nat}{i:Nat}{l:yL Nat}(h:∀x,x∈l->∃j,x=wd ws j):∀x,x∈l->x < 4294967296:=λx hx=>by
 obtain⟨j,rfl⟩:=h x hx;exact ZQo _ _
theorem ZG1(ws:yL Nat)(i:Nat):yag (pw 0 (win ws i)) 480=wd ws i:=by
 have h:=ZN2 (n:=0) (x:=wd ws i) (s:=480) (r:=(win ws i).tail) (JI (ws:=ws) (i:=i) (λx hx=>by
  simp only[win,List.tail_cons,yaw,ycd,or_false]at hx;rcases hx with h|h|h|h|h|h|h|h|h|h|h|h|h|h|h <;> exact⟨_,h⟩)) rfl
 rw[Nat.zero_mul,yaz]at h;exact h
theorem ZPk(ws:yL Nat)(i:Nat):kw (pw 0 (win ws i))=wd ws (i+16):=by
 have key:∀(l r:yL Nat)(x s:Nat),win ws i=l++x::r->s=32*r.length->lo (yag (pw 0 (win ws i)) s)=x:=by
  intro l r x s e hs
  have zU:∀y,y∈win ws i->y < 4294967296:=JI (i:=i) λx hx=>by
   simp only[win,yaw,ycd,or_false]at hx;rcases hx with h|h|h|h|h|h|h|h|h|h|h|h|h|h|h|h <;> exact⟨_,h⟩
  rw[e]at zU ⊢;rw[JH];exact ZN3 (zU x (by simp)) (λy hy=>zU y (by simp[hy])) hs
 unfold kw;rw[ZG1,key [_] _ (wd ws (i+1)) 448 rfl rfl,key [_,_,_,_,_,_,_,_,_] _ (wd ws (i+9)) 192 rfl rfl,key [_,_,_,_,_,_,_,_,_,_,_,_,_,_] _ (wd ws (i+14)) 32 rfl rfl,ZG0];rfl
theorem ZM6(a b m:Nat)(h:b < 2 ^ m):Nat.mod (a*2 ^ m+b) (Nat.pow 2 m)=b:=by
 show(a*2 ^ m+b) % 2 ^ m=b;rw[ybu,Nat.mul_add_mod];exact yap h
theorem ZPl(ws:yL Nat)(i:Nat):kn (pw 0 (win ws i))=pw 0 (win ws (i+1)):=by
 have e:yw (Nat.mul (pw 0 (win ws i)) 4294967296) (kw (pw 0 (win ws i)))=pw (wd ws i) (win ws (i+1)):=by
  rw[ZPk];show pw 0 (win ws i)*4294967296+wd ws (i+16)=pw (wd ws i) (win ws (i+1));rw[show wd ws i=0*4294967296+wd ws i by omega];rfl
 unfold kn;rw[e,wr];have hl:(win ws (i+1)).length=16:=rfl
 have hlt:=ZN1 (win ws (i+1)) (JI (i:=i+1) λx hx=>by
  simp only[win,yaw,ycd,or_false]at hx;rcases hx with h|h|h|h|h|h|h|h|h|h|h|h|h|h|h|h <;> exact⟨_,h⟩)
 rw[show 512=32*(win ws (i+1)).length by rw[hl]];exact ZM6 _ _ _ hlt
def oY(v:yL Nat)(k w:Nat):yL Nat:=match v with
 |[a,b,c,d,e,f,g,h]=>[lo (yw (yw (yw (yw (yw (yw h (S1 e)) (ch e f g)) k) w) (S0 a)) (mj a b c)),a,b,c,lo (yw d (yw (yw (yw (yw h (S1 e)) (ch e f g)) k) w)),e,f,g]
 |_=>[]
def rs(ws v:yL Nat):Nat->yL Nat
 |0=>v
 |i+1=>oY (rs ws v i) (ks.getD i 0) (wd ws i)
theorem ZM7{v:yL Nat}(h:v.length=8)(k w:Nat):(oY v k w).length=8:=by
 match v,h with
 |[a,b,c,d,e,f,g,h],_=>rfl
theorem wt{ws v:yL Nat}(h:v.length=8):∀i,(rs ws v i).length=8
 |0=>h
 |i+1=>ZM7 (wt h i) _ _
noncomputable def sA(f:Nat->Nat->Nat->Nat->Nat->Nat->Nat->Nat->Nat)(v:yL Nat):Nat:=match v with
 |[a,b,c,d,e,f',g,h]=>f a b c d e f' g h
 |_=>0
theorem wu{F:Nat->Nat->Nat->Nat->Nat->Nat->Nat->Nat->Nat}{a b c d e f g h:Nat}:sA F [a,b,c,d,e,f,g,h]=F a b c d e f g h:=rfl
theorem ZKS(k:Nat)(l:yL Nat)(K:Nat->Nat->Nat->Nat->Nat->Nat->Nat->Nat->Nat):oW (k::l) K=wo k (oW l K):=rfl
theorem ZDh(a b c d e f g h k w:Nat):oY [a,b,c,d,e,f,g,h] k w=[lo (yw (yw (yw (yw (yw (yw h (S1 e)) (ch e f g)) k) w) (S0 a)) (mj a b c)),a,b,c,lo (yw d (yw (yw (yw (yw h (S1 e)) (ch e f g)) k) w)),e,f,g]:=rfl
theorem ZPm(k:Nat)(ih:Nat->Nat->Nat->Nat->Nat->Nat->Nat->Nat->Nat->Nat)(W a b c d e f g h:Nat):wo k ih W a b c d e f g h=
 ih (kn W) (lo (yw (yw (yw (yw (yw (yw h (S1 e)) (ch e f g)) k) (yag W 480)) (S0 a)) (mj a b c))) a b c (lo (yw d (yw (yw (yw (yw h (S1 e)) (ch e f g)) k) (yag W 480)))) e f g:=by
 unfold wo;rw[Xu,Xu,Xu,Xu]
theorem ZKT{ws v:yL Nat}{K:Nat->Nat->Nat->Nat->Nat->Nat->Nat->Nat->Nat}{k w:Nat}{l:yL Nat}(hv:v.length=8){W:Nat}(hW:yag W 480=w):sA (oW (k::l) K W) v=sA (oW l K (kn W)) (oY v k w):=by
 match v,hv with
 |[a,b,c,d,e,f,g,h],_=>
  rw[ZKS,wu,ZPm,hW,ZDh,wu]
theorem ZG2{ws v:yL Nat}{K:Nat->Nat->Nat->Nat->Nat->Nat->Nat->Nat->Nat}(hv:v.length=8):∀(m i:Nat),i+m=64->sA (oW (ks.drop i) K (pw 0 (win ws i))) (rs ws v i)=sA K (rs ws v 64)
 |0,i,h=>by
  have e:i=64:=by omega
  subst e;rw[show ks.drop 64=[] from rfl]
  generalize pw 0 (win ws 64)=W
  rfl
 |m+1,i,h=>by
  have hi:i < ks.length:=by show i < 64;omega
  rw[List.drop_eq_getElem_cons hi,ZKT (ws:=ws) (wt hv i) (ZG1 ws i),ZPl];have:=ZG2 (ws:=ws) (K:=K) hv m (i+1) (by omega);rw[show rs ws v (i+1)=oY (rs ws v i) (ks.getD i 0) (wd ws i) from rfl,show ks.getD i 0=ks[i] by rw[yda,List.getElem?_eq_getElem hi];rfl]at this
  exact this
def gQ(v ws:yL Nat):yL Nat:=List.zipWith (λx y=>lo (x+y)) (rs ws v 64) v
theorem sB{v ws:yL Nat}(h:v.length=8):(gQ v ws).length=8:=by
 rw[gQ,List.length_zipWith,wt h,h];rfl
theorem ZG3{v ws:yL Nat}:∀x,x∈gQ v ws->x < 4294967296:=by
 intro x hx;unfold gQ at hx;rw[List.mem_iff_getElem]at hx;obtain⟨i,hi,rfl⟩:=hx;rw[List.getElem_zipWith];exact ZN0 _
theorem ZM8{v ws:yL Nat}(hv:v.length=8)(hlt:∀x,x∈v->x < 4294967296)(hw:ws.length=16)(hwl:∀x,x∈ws->x < 4294967296):wq (pw 0 v) (pw 0 ws)=pw 0 (gQ v ws):=by
 have e0:ws=win ws 0:=by
  match ws,hw with
  |[a0,a1,a2,a3,a4,a5,a6,a7,a8,a9,a10,a11,a12,a13,a14,a15],_=>
   simp only[yaw,ycd,or_false,forall_eq_or_imp,forall_eq]at hwl;obtain⟨h0,h1,h2,h3,h4,h5,h6,h7,h8,h9,h10,h11,h12,h13,h14,h15⟩:=hwl;have hs:∀n,n < 16->wd [a0,a1,a2,a3,a4,a5,a6,a7,a8,a9,a10,a11,a12,a13,a14,a15] n=lo ([a0,a1,a2,a3,a4,a5,a6,a7,a8,a9,a10,a11,a12,a13,a14,a15].getD n 0):=λn hn=>by rw[wd,dif_pos hn]
   unfold win;rw[hs 0 (by omega),hs (0+1) (by omega),hs (0+2) (by omega),hs (0+3) (by omega),hs (0+4) (by omega),hs (0+5) (by omega),hs (0+6) (by omega),hs (0+7) (by omega),hs (0+8) (by omega),hs (0+9) (by omega),hs (0+10) (by omega),hs (0+11) (by omega),hs (0+12) (by omega),hs (0+13) (by omega),hs (0+14) (by omega),hs (0+15) (by omega)];show _=[lo a0,lo a1,lo a2,lo a3,lo a4,lo a5,lo a6,lo a7,lo a8,lo a9,lo a10,lo a11,lo a12,lo a13,lo a14,lo a15];rw[fP h0,fP h1,fP h2,fP h3,fP h4,fP h5,fP h6,fP h7,fP h8,fP h9,fP h10,fP h11,fP h12,fP h13,fP h14,fP h15]
 match v,hv with
 |[a,b,c,d,e,f,g,h],hv=>
  have ea:w32 (pw 0 [a,b,c,d,e,f,g,h]) 224=a:=lL (l:=[]) (r:=[b,c,d,e,f,g,h]) rfl hlt rfl;have eb:w32 (pw 0 [a,b,c,d,e,f,g,h]) 192=b:=lL (l:=[a]) (r:=[c,d,e,f,g,h]) rfl hlt rfl;have ec:w32 (pw 0 [a,b,c,d,e,f,g,h]) 160=c:=lL (l:=[a,b]) (r:=[d,e,f,g,h]) rfl hlt rfl;have ed:w32 (pw 0 [a,b,c,d,e,f,g,h]) 128=d:=lL (l:=[a,b,c]) (r:=[e,f,g,h]) rfl hlt rfl;have ee:w32 (pw 0 [a,b,c,d,e,f,g,h]) 96=e:=lL (l:=[a,b,c,d]) (r:=[f,g,h]) rfl hlt rfl;have ef:w32 (pw 0 [a,b,c,d,e,f,g,h]) 64=f:=lL (l:=[a,b,c,d,e]) (r:=[g,h]) rfl hlt rfl;have eg:w32 (pw 0 [a,b,c,d,e,f,g,h]) 32=g:=lL (l:=[a,b,c,d,e,f]) (r:=[h]) rfl hlt rfl;have eh:w32 (pw 0 [a,b,c,d,e,f,g,h]) 0=h:=lL (l:=[a,b,c,d,e,f,g]) (r:=[]) rfl hlt rfl;unfold wq;rw[ea,eb,ec,ed,ee,ef,eg,eh,Xu,Xu,Xu,Xu,Xu,Xu,Xu,Xu];have hr:=ZG2 (ws:=ws) (v:=[a,b,c,d,e,f,g,h]) (K:=λa' b' c' d' e' f' g' h'=>cr (cr (cr (cr (cr (cr (cr (cr 0 (yw a' a)) (yw b' b)) (yw c' c)) (yw d' d)) (yw e' e)) (yw f' f)) (yw g' g)) (yw h' h)) rfl 64 0 rfl;rw[<-e0,show ks.drop 0=ks from rfl,show rs ws [a,b,c,d,e,f,g,h] 0=[a,b,c,d,e,f,g,h] from rfl,wu]at hr
  rw[hr];unfold gQ;generalize rs ws [a,b,c,d,e,f,g,h] 64=q,wt (ws:=ws) hv 64=hq
  match q,hq with
  |[a',b',c',d',e',f',g',h'],_=>
   rw[wu];simp only[List.zipWith_cons_cons,List.zipWith_nil_right,ZGZ,cr];rfl
theorem wv(x:Nat)(l:yL Nat)(n:Nat):pk (x::l) n=pk l (n*256+x):=by
 show QC (yw (Nat.mul n 256) x) (pk l)=_;rw[Xu];rfl
def Xn:yL Nat->yL Nat
 |a::b::c::d::r=>(((a*256+b)*256+c)*256+d)::Xn r
 |_=>[]
theorem ZDi:∀(m:Nat)(l:yL Nat)(n:Nat),l.length=4*m->pk l n=pw n (Xn l)
 |0,[],n,_=>rfl
 |0,_::_,_,h=>by simp at h
 |m+1,[],_,h=>by simp at h
 |m+1,[_],_,h=>by simp at h;omega
 |m+1,[_,_],_,h=>by simp at h;omega
 |m+1,[_,_,_],_,h=>by simp at h;omega
 |m+1,a::b::c::d::r,n,h=>by
  rw[wv,wv,wv,wv,Xn];rw[ZDi m r _ (by simp at h;omega),ZGZ];have e:(((n*256+a)*256+b)*256+c)*256+d=n*4294967296+(((a*256+b)*256+c)*256+d):=by omega
  rw[e]
theorem ZrX:∀(m:Nat)(l:yL Nat),l.length=4*m->(Xn l).length=m
 |0,[],_=>rfl
 |0,_::_,h=>by simp at h
 |m+1,[],h=>by simp at h
 |m+1,[_],h=>by simp at h;omega
 |m+1,[_,_],h=>by simp at h;omega
 |m+1,[_,_,_],h=>by simp at h;omega
 |m+1,a::b::c::d::r,h=>by
  rw[Xn,yah,ZrX m r (by simp at h;omega)]
theorem Zvs:∀(m:Nat)(l:yL Nat),l.length=4*m->(∀x,x∈l->x < 256)->∀x,x∈Xn l->x < 4294967296
 |0,[],_,_,x,hx=>by simp[Xn]at hx
 |0,_::_,h,_,_,_=>by simp at h
 |m+1,[],h,_,_,_=>by simp at h
 |m+1,[_],h,_,_,_=>by simp at h;omega
 |m+1,[_,_],h,_,_,_=>by simp at h;omega
 |m+1,[_,_,_],h,_,_,_=>by simp at h;omega
 |m+1,a::b::c::d::r,h,hl,x,hx=>by
  rw[Xn]at hx;have h1:=hl a (by simp);have h2:=hl b (by simp);have h3:=hl c (by simp);have h4:=hl d (by simp);rcases yaw.1 hx with rfl|hx
  .omega
  .exact Zvs m r (by simp at h;omega) (λy hy=>hl y (by simp[hy])) x hx
theorem ZrY:∀(i:Nat)(l:yL Nat)(a b c d:Nat),l[4*i]? =ab a->l[4*i+1]? =ab b->l[4*i+2]? =ab c->l[4*i+3]? =ab d->(Xn l)[i]? =ab (((a*256+b)*256+c)*256+d)
 |0,[],_,_,_,_,h,_,_,_=>by simp at h
 |0,[_],_,_,_,_,_,h,_,_=>by simp at h
 |0,[_,_],_,_,_,_,_,_,h,_=>by simp at h
 |0,[_,_,_],_,_,_,_,_,_,_,h=>by simp at h
 |0,a::b::c::d::r,_,_,_,_,h1,h2,h3,h4=>by
  simp at h1 h2 h3 h4;subst h1 h2 h3 h4
  rfl
 |i+1,[],_,_,_,_,h,_,_,_=>by simp at h
 |i+1,[_],_,_,_,_,h,_,_,_=>by simp[show 4*(i+1)=4*i+3+1 by omega]at h
 |i+1,[_,_],_,_,_,_,h,_,_,_=>by simp[show 4*(i+1)=4*i+2+1+1 by omega]at h
 |i+1,[_,_,_],_,_,_,_,h,_,_,_=>by simp[show 4*(i+1)=4*i+1+1+1+1 by omega]at h
 |i+1,a::b::c::d::r,_,_,_,_,h1,h2,h3,h4=>by
  rw[Xn,yat]
  exact ZrY i r _ _ _ _ (by simpa[show 4*(i+1)=4*i+1+1+1+1 by omega] using h1) (by simpa[show 4*(i+1)+1=4*i+1+1+1+1+1 by omega] using h2)
   (by simpa[show 4*(i+1)+2=4*i+2+1+1+1+1 by omega] using h3) (by simpa[show 4*(i+1)+3=4*i+3+1+1+1+1 by omega] using h4)
def fF:Nat->yL Nat->yL Nat->yL Nat
 |0,_,v=>v
 |n+1,l,v=>fF n (l.drop 64) (gQ v (Xn (l.take 64)))
theorem ZG4:∀(n:Nat)(l v:yL Nat),l.length=64*n->(∀x,x∈l->x < 256)->v.length=8->(∀x,x∈v->x < 4294967296)->JC n l (pw 0 v)=pw 0 (fF n l v)
 |0,l,v,_,_,_,_=>rfl
 |n+1,l,v,h1,h2,h3,h4=>by
  show QC (wq (pw 0 v) (pk (l.take 64) 0)) (JC n (l.drop 64))=_;have hl:(l.take 64).length=4*16:=by rw[yae];omega
  rw[Xu,ZDi 16 _ 0 hl,ZM8 h3 h4 (ZrX 16 _ hl) (Zvs 16 _ hl λx hx=>h2 x (List.mem_of_mem_take hx))];exact ZG4 n (l.drop 64) _ (by rw[ybq];omega) (λx hx=>h2 x (List.mem_of_mem_drop hx)) (sB h3) ZG3
theorem ZDj:∀(n:Nat)(l v:yL Nat),v.length=8->(fF n l v).length=8
 |0,_,_,h=>h
 |n+1,l,v,h=>ZDj n _ _ (sB h)
theorem ZG5:∀(n:Nat)(l v:yL Nat),(∀x,x∈v->x < 4294967296)->∀x,x∈fF n l v->x < 4294967296
 |0,_,_,h=>h
 |n+1,l,v,h=>ZG5 n _ _ ZG3
theorem JJ:∀(n m:Nat)(l r v:yL Nat),l.length=64*n->fF (n+m) (l++r) v=fF m r (fF n l v)
 |0,m,l,r,v,h=>by
  have:l=[]:=List.length_eq_zero_iff.1 (by omega);subst this;rw[yaz]
  rfl
 |n+1,m,l,r,v,h=>by
  rw[show n+1+m=(n+m)+1 by omega,fF,List.drop_append_of_le_length (by omega),List.take_append_of_le_length (by omega),JJ n m _ r _ (by rw[ybq];omega)];rfl
theorem JK:∀(c:Nat)(l v:yL Nat),fF (c+1) l v=gQ (fF c l v) (Xn ((l.drop (64*c)).take 64))
 |0,l,v=>by rw[Nat.mul_zero,List.drop_zero];rfl
 |c+1,l,v=>by
  rw[show fF (c+1+1) l v=fF (c+1) (l.drop 64) (gQ v (Xn (l.take 64))) from rfl,JK c,List.drop_drop,show 64+64*c=64*(c+1) by omega]
  rfl
theorem ZKU(ws:yL Nat){n x:Nat}(hn:n < 16)(h:ws[n]? =ab x)(hx:x < 4294967296):wd ws n=x:=by
 rw[wd,dif_pos hn,yda,h];exact fP hx
def sC(v:yL Nat)(k:Nat):yB:=ybh (v.getD (k / 4) 0 / 2 ^ (24 - 8*(k % 4)))
theorem ZM9{v:yL Nat}(hv:v.length=8)(hlt:∀x,x∈v->x < 4294967296):outs (pw 0 v) JD=(List.range 32).map (sC v):=by
 have hgo:∀(H:Nat)(l:yL Nat),outs H l=l.map λs=>ybh (H / 2 ^ s % 256):=by
  intro H l
  induction l with
  |nil=>rfl
  |cons s r ih=>
   show QC (Nat.mod (yag H s) 256) (λx=>ybh x::outs H r)=_;rw[Xu,ih,yad,show yag H s=H >>> s from rfl,Nat.shiftRight_eq_div_pow]
   rfl
 have hb:∀(l r:yL Nat)(x j s:Nat),v=l++x::r->j<=24->s=32*r.length+j->ybh (pw 0 v / 2 ^ s % 256)=ybh (x / 2 ^ j):=by
  intro l r x j s e hj hs;have zU:=hlt;rw[e]at zU
  have h1:pw 0 v / 2 ^ (32*r.length)=pw 0 l*4294967296+x:=by
   rw[e,JH];exact JG r _ (λy hy=>zU y (by simp[hy]))
  rw[hs,Nat.pow_add, <-Nat.div_div_eq_div_mul,h1]
  have h2:pw 0 l*4294967296+x=2 ^ j*(pw 0 l*2 ^ (24 - j)*256)+x:=by
   rw[show(4294967296:Nat)=2 ^ j*2 ^ (24 - j)*256 by rw[<-Nat.pow_add,show j+(24 - j)=24 by omega]];congr 1;ac_rfl
  rw[h2,Nat.mul_add_div (Nat.two_pow_pos j),ybu (pw 0 l*2 ^ (24 - j)) 256,Nat.mul_add_mod];exact UInt8.toNat_inj.1 (by simp)
 match v,hv with
 |[a,b,c,d,e,f,g,h],_=>
  rw[hgo];simp only[JD,yad,List.map_nil]
  rw[hb [] [b,c,d,e,f,g,h] a 24 248 rfl (by omega) rfl,hb [] [b,c,d,e,f,g,h] a 16 240 rfl (by omega) rfl,hb [] [b,c,d,e,f,g,h] a 8 232 rfl (by omega) rfl,hb [] [b,c,d,e,f,g,h] a 0 224 rfl (by omega) rfl,
   hb [a] [c,d,e,f,g,h] b 24 216 rfl (by omega) rfl,hb [a] [c,d,e,f,g,h] b 16 208 rfl (by omega) rfl,hb [a] [c,d,e,f,g,h] b 8 200 rfl (by omega) rfl,hb [a] [c,d,e,f,g,h] b 0 192 rfl (by omega) rfl,
   hb [a,b] [d,e,f,g,h] c 24 184 rfl (by omega) rfl,hb [a,b] [d,e,f,g,h] c 16 176 rfl (by omega) rfl,hb [a,b] [d,e,f,g,h] c 8 168 rfl (by omega) rfl,hb [a,b] [d,e,f,g,h] c 0 160 rfl (by omega) rfl,
   hb [a,b,c] [e,f,g,h] d 24 152 rfl (by omega) rfl,hb [a,b,c] [e,f,g,h] d 16 144 rfl (by omega) rfl,hb [a,b,c] [e,f,g,h] d 8 136 rfl (by omega) rfl,hb [a,b,c] [e,f,g,h] d 0 128 rfl (by omega) rfl,
   hb [a,b,c,d] [f,g,h] e 24 120 rfl (by omega) rfl,hb [a,b,c,d] [f,g,h] e 16 112 rfl (by omega) rfl,hb [a,b,c,d] [f,g,h] e 8 104 rfl (by omega) rfl,hb [a,b,c,d] [f,g,h] e 0 96 rfl (by omega) rfl,
   hb [a,b,c,d,e] [g,h] f 24 88 rfl (by omega) rfl,hb [a,b,c,d,e] [g,h] f 16 80 rfl (by omega) rfl,hb [a,b,c,d,e] [g,h] f 8 72 rfl (by omega) rfl,hb [a,b,c,d,e] [g,h] f 0 64 rfl (by omega) rfl,
   hb [a,b,c,d,e,f] [h] g 24 56 rfl (by omega) rfl,hb [a,b,c,d,e,f] [h] g 16 48 rfl (by omega) rfl,hb [a,b,c,d,e,f] [h] g 8 40 rfl (by omega) rfl,hb [a,b,c,d,e,f] [h] g 0 32 rfl (by omega) rfl,
   hb [a,b,c,d,e,f,g] [] h 24 24 rfl (by omega) rfl,hb [a,b,c,d,e,f,g] [] h 16 16 rfl (by omega) rfl,hb [a,b,c,d,e,f,g] [] h 8 8 rfl (by omega) rfl,hb [a,b,c,d,e,f,g] [] h 0 0 rfl (by omega) rfl]
  rfl
def kN(l:yL yB):yL Nat:=l.map ybm++(128::(yy (zs l.length) 0++jN (8*l.length)))
def kO:yL Nat:=[1779033703,3144134277,1013904242,2773480762,1359893119,2600822924,528734635,1541459225]
theorem ZFx(l:yL yB):(kN l).length=64*((l.length+72) / 64):=by
 unfold kN;simp only[yr,yx,yah,ycs,jN,List.length_nil,zs];omega
theorem ZIn(l:yL yB):∀x,x∈kN l->x < 256:=by
 intro x hx;unfold kN at hx;simp only[List.mem_append,List.mem_map,yaw,List.mem_replicate,jN,ycd,or_false]at hx;rcases hx with⟨y,_,rfl⟩|rfl|⟨_,rfl⟩|h
 .exact y.toNat_lt
 .omega
 .omega
 .rcases h with h|h|h|h|h|h|h|h <;> rw[h] <;> exact ybo _ (by omega)
theorem ZKW(l:yL yB):gP l=(List.range 32).map (sC (fF ((l.length+72) / 64) (kN l) kO)):=by
 unfold gP
 rw[Xu,Xu,show H0=pw 0 kO from rfl,show l.map ybm++(128::(yy (zs l.length) 0++jN (8*l.length)))=kN l from rfl,
  show Nat.div (yw l.length 72) 64=(l.length+72) / 64 from rfl]
 have hf:∀x,x∈kO->x < 4294967296:=by decide
 rw[ZG4 _ _ _ (ZFx l) (ZIn l) rfl hf];exact ZM9 (ZDj _ _ _ rfl) (ZG5 _ _ _ hf)
theorem lM(l:yL yB):(gP l).length=32:=by rw[ZKW];simp
end Go.Sha
end
section
set_option maxRecDepth 4000
namespace Go.Proofs.YtekdgjajmennjaaGreat
open Go Go.Ev Go.Sha
theorem jP(x:yV)(n k:Nat)(h:n+k=32)(hn:0 < n){z:Int}(hz:((eK z)&&&31).toNat=k):∃o,ZL yD x z=ab o/\o.toNat=lo (yag (eO x.toNat) n):=by
 refine⟨_,rfl, ?_⟩;have e1:((((eK z)&&&31).toNat:Int)).toNat=k:=by rw[hz];rfl
 have e2:(32 - ((eK z)&&&31)).toNat=n:=by
  have h1:((eK z)&&&31)=yaf k:=ycp.1 (by rw[hz,ybj];omega);rw[h1,UInt64.toNat_sub,ybj];show(2 ^ 64 - k % 2 ^ 64+32) % 2 ^ 64=n;omega
 rw[e1,show((((32 - ((eK z)&&&31)).toNat:Nat):Int)).toNat=n by rw[e2];rfl,Nat.min_eq_left (by omega),Nat.min_eq_left (by omega)];exact ZQn x h hn
theorem ZPn{l:yL yB}{a b c d:yB}(ha:l[0]? =ab a)(hb:l[1]? =ab b)(hc:l[2]? =ab c)(hd:l[3]? =ab d):∃o,wg yD l=ab o/\o.toNat=((a.toNat*256+b.toNat)*256+c.toNat)*256+d.toNat:=by
 unfold wg;rw[oT (i:=0) (by omega) ha,oT (i:=1) (by omega) hb,oT (i:=2) (by omega) hc,oT (i:=3) (by omega) hd];refine⟨_,rfl, ?_⟩;have h1:=a.toNat_lt;have h2:=b.toNat_lt;have h3:=c.toNat_lt;have h4:=d.toNat_lt
 have hs:∀(x:yB)(n:Nat),n<=24->(iS (UInt32.ofNat x.toNat) n).toNat=x.toNat*2 ^ n:=by
  intro x n hn;have hx:=x.toNat_lt;unfold iS;rw[ycu,ycu,yap (a:=x.toNat) (by omega)];refine yap ?_
  calc x.toNat*2 ^ n < 2 ^ 8*2 ^ n:=Nat.mul_lt_mul_of_pos_right hx (Nat.two_pow_pos n)
   _=2 ^ (8+n):=(Nat.pow_add ..).symm
   _<=2 ^ 32:=Nat.pow_le_pow_right (by omega) (by omega)
 rw[oX,oX,oX,hs _ _ (by omega),hs _ _ (by omega),hs _ _ (by omega),ycu,yap (a:=d.toNat) (by omega)]
 have k1:Nat.lor (a.toNat*2 ^ 24) (b.toNat*2 ^ 16)=2 ^ 16*(a.toNat*256+b.toNat):=by
  rw[ybu a.toNat,show Nat.lor (2 ^ 24*a.toNat) (b.toNat*2 ^ 16)=2 ^ 24*a.toNat|||b.toNat*2 ^ 16 from rfl, <-Nat.two_pow_add_eq_or_of_lt (by omega)]
  omega
 have k2:Nat.lor (2 ^ 16*(a.toNat*256+b.toNat)) (c.toNat*2 ^ 8)=2 ^ 8*((a.toNat*256+b.toNat)*256+c.toNat):=by
  rw[show Nat.lor (2 ^ 16*(a.toNat*256+b.toNat)) (c.toNat*2 ^ 8)=2 ^ 16*(a.toNat*256+b.toNat)|||c.toNat*2 ^ 8 from rfl, <-Nat.two_pow_add_eq_or_of_lt (by omega)]
  omega
 rw[k1,k2,show Nat.lor (2 ^ 8*((a.toNat*256+b.toNat)*256+c.toNat)) d.toNat=2 ^ 8*((a.toNat*256+b.toNat)*256+c.toNat)|||d.toNat from rfl, <-Nat.two_pow_add_eq_or_of_lt (by omega)]
 omega
theorem ZKX{l:yL yB}(h:l.length=64):∃o,wh yD l=ab o/\o.length=64/\∀(i:Nat)x,i < 64->o[i]? =ab x->x.toNat=wd (Xn (l.map ybm)) i:=by
 unfold wh;generalize hz:([0,0,0,0,0,0,0,0,0,0,0,0,0,0,0,0,0,0,0,0,0,0,0,0,0,0,0,0,0,0,0,0,0,0,0,0,0,0,0,0,0,0,0,0,0,0,0,0,0,0,0,0,0,0,0,0,0,0,0,0,0,0,0,0]:yL yV)=z;have hzl:z.length=64:=by rw[<-hz];rfl
 refine Exists.elim (Wc (step:=Vx yD) (λs=>s.1=l/\0<=s.2.1/\s.2.1<=64/\s.2.2.length=64/\∀(j:Nat)x,(j:Int) < s.2.1->s.2.2[j]? =ab x->x.toNat=wd (Xn (l.map ybm)) j) (λs=>(64 - s.2.1).toNat)
  (λo=>o.length=64/\∀(j:Nat)x,j < 64->o[j]? =ab x->x.toNat=wd (Xn (l.map ybm)) j) ?_ (l,(0:Int),z) ⟨rfl,Int.le_refl _,by dsimp only;omega,hzl,λj x hj=>by dsimp only at hj;omega⟩ (by dsimp only;omega)) ?_
 rotate_left
 .rintro o ⟨h1,h2⟩;exact⟨o,by rw[h1];rfl,h2⟩
 .rintro⟨b,i,w⟩ ⟨hb,h0,h64,hw,hv⟩;dsimp only at hb h0 h64 hw hv;subst hb;unfold Vx;dsimp only
  have hset:∀(y:yV),y.toNat=wd (Xn (b.map ybm)) i.toNat->i < 64->∀(j:Nat)x,(j:Int) < i+1->(w.set i.toNat y)[j]? =ab x->x.toNat=wd (Xn (b.map ybm)) j:=by
   intro y hy hi j x hj hx;by_cases hji:j=i.toNat
   .subst hji;rw[yci (by omega)]at hx;cases hx;exact hy
   .rw[ycz (Ne.symm hji)]at hx;exact hv j x (by omega) hx
  by_cases hi:i < 64
  .left;rw[yW (yY hi)];obtain⟨e,he⟩:=gO (l:=w) (i:=i.toNat) (by omega);by_cases h16:i < 16
   .rw[yW (yY h16),Yb (z:=4*i) (by omega) (by omega),yW (by simp only[ei,yi,yP];omega)];have g:∀k:Nat,k < 4->∃x,b[4*i.toNat+k]? =ab x:=λk hk=>gO (by omega);obtain⟨x0,g0⟩:=g 0 (by omega);obtain⟨x1,g1⟩:=g 1 (by omega);obtain⟨x2,g2⟩:=g 2 (by omega);obtain⟨x3,g3⟩:=g 3 (by omega);have e4:(4*i).toNat=4*i.toNat:=by omega
    obtain⟨o,ho,hoe⟩:=ZPn (l:=b.drop (4*i).toNat) (by rw[List.getElem?_drop,e4];exact g0) (by rw[List.getElem?_drop,e4];exact g1) (by rw[List.getElem?_drop,e4];exact g2) (by rw[List.getElem?_drop,e4];exact g3);rw[ho,ya,yW (ZQ h0 (by omega)),he,ya,Yb (z:=i+1) (by omega) (by omega)];refine⟨_,rfl,⟨rfl,by dsimp only;omega,by dsimp only;omega,by dsimp only;rw[yba];exact hw,hset o ?_ hi⟩,by dsimp only;omega⟩;have mg:∀(k:Nat)(x:yB),b[k]? =ab x->(b.map ybm)[k]? =ab x.toNat:=λk x hx=>by rw[yaj,hx];rfl
    have hwg:=ZrY i.toNat (b.map ybm) _ _ _ _ (mg _ _ g0) (mg _ _ g1) (mg _ _ g2) (mg _ _ g3);rw[hoe];have b0:=x0.toNat_lt;have b1:=x1.toNat_lt;have b2:=x2.toNat_lt;have b3:=x3.toNat_lt;exact(ZKU _ (by omega) hwg (by omega)).symm
   .rw[yX (by simpa using h16)];rw[Yb (z:=i - 15) (by omega) (by omega),Yb (z:=i - 2) (by omega) (by omega),Yb (z:=i - 16) (by omega) (by omega),Yb (z:=i - 7) (by omega) (by omega),Yb (z:=i+1) (by omega) (by omega)];obtain⟨e1,he1⟩:=gO (l:=w) (i:=(i - 15).toNat) (by omega);obtain⟨e2,he2⟩:=gO (l:=w) (i:=(i - 2).toNat) (by omega);obtain⟨e3,he3⟩:=gO (l:=w) (i:=(i - 16).toNat) (by omega);obtain⟨e4,he4⟩:=gO (l:=w) (i:=(i - 7).toNat) (by omega);have v1:=hv _ _ (by omega) he1;have v2:=hv _ _ (by omega) he2;have v3:=hv _ _ (by omega) he3;have v4:=hv _ _ (by omega) he4;rw[yW (ZQ (by omega) (by omega)),he1,ya,yW (ZQ (by omega) (by omega)),he2,ya];obtain⟨o1,ho1,p1⟩:=jP e1 7 25 rfl (by omega) (z:= -7) rfl;obtain⟨o2,ho2,p2⟩:=jP e1 18 14 rfl (by omega) (z:= -18) rfl;obtain⟨o3,ho3,p3⟩:=jP e2 17 15 rfl (by omega) (z:= -17) rfl;obtain⟨o4,ho4,p4⟩:=jP e2 19 13 rfl (by omega) (z:= -19) rfl;rw[ho1,ya,ho2,ya,ho3,ya,ho4,ya];rw[yW (ZQ (by omega) (by omega)),he3,ya,yW (ZQ (by omega) (by omega)),he4,ya]
    try dsimp only
    rw[yW (ZQ h0 (by omega)),he,ya];refine⟨_,rfl,⟨rfl,by dsimp only;omega,by dsimp only;omega,by dsimp only;rw[yba];exact hw,hset _ ?_ hi⟩,by dsimp only;omega⟩;have hn:=ZG0 (Xn (b.map ybm)) (i - 16).toNat
    rw[show(i - 16).toNat+16=i.toNat by omega,show(i - 16).toNat+1=(i - 15).toNat by omega,show(i - 16).toNat+9=(i - 7).toNat by omega,show(i - 16).toNat+14=(i - 2).toNat by omega, <-v1, <-v2, <-v3, <-v4]at hn;rw[hn];rw[jm,jm,jm,ZQ0 e1 p1 p2,ZQ1 e2 p3 p4];exact ZQ6 ..
  .right;rw[yX (by simpa using hi)];exact⟨_,rfl,hw,λj x hj hx=>hv j x (by omega) hx⟩
theorem ZKY{st:yL yV}{l:yL yB}(hs:st.length=8)(h:l.length=64):∃o,Vf yD st l=ab o/\o.map ybn=gQ (st.map ybn) (Xn (l.map ybm)):=by
 unfold Vf;obtain⟨w,hw,hwl,hwv⟩:=ZKX h;obtain⟨k,hk,hkv⟩:∃k,IZ yD=ab k/\k.map ybn=ks:=⟨_,rfl,rfl⟩;have hkl:k.length=64:=by rw[<-yx (f:=ybn),hkv];rfl
 generalize hws:Xn (l.map ybm)=ws at hwv;rw[hw,ya,hk,ya]
 refine Exists.elim (Wc (step:=W1 yD) (λs=>0<=s.1/\s.1<=64/\s.2.1=st/\s.2.2.2.1=w/\s.2.2.2.2.1=k/\s.2.2.2.2.2.length=8/\s.2.2.2.2.2.map ybn=rs ws (st.map ybn) s.1.toNat) (λs=>(64 - s.1).toNat)
  (λo=>o.1=st/\o.2.2.2.2.length=8/\o.2.2.2.2.map ybn=rs ws (st.map ybn) 64) ?_ ((0:Int),st,([0,0,0,0,0,0,0,0]:yL yV),w,k,st) ⟨Int.le_refl _,by dsimp only;omega,rfl,rfl,rfl,hs,rfl⟩ (by dsimp only;omega)) ?_
 rotate_left
 .rintro o ⟨h1,p0,p1,p2⟩;rw[h1,ya];have hml:(gQ (st.map ybn) ws).length=8:=sB (by rw[yx];exact hs)
  refine Exists.elim (Wc (step:=W2 yD) (λs=>0<=s.1/\s.1<=8/\s.2.1=st/\s.2.2.2.2.2.length=8/\(∀(j:Nat)x,s.2.2.2.2.2[j]? =ab x->if(j:Int) < s.1 then(gQ (st.map ybn) ws)[j]? =ab x.toNat else(rs ws (st.map ybn) 64)[j]? =ab x.toNat)) (λs=>(8 - s.1).toNat)
   (λo=>o.2.2.2.2.map ybn=gQ (st.map ybn) ws) ?_ ((0:Int),o.1,o.2.1,o.2.2.1,o.2.2.2.1,o.2.2.2.2) ⟨Int.le_refl _,by dsimp only;omega,p0,p1,λj x hx=>by
     dsimp only at hx ⊢;rw[yX (by omega), <-p2,yaj,hx];rfl⟩ (by dsimp only;omega)) ?_
  rotate_left
  .rintro q ⟨h2,q2⟩;rw[h2,ya];exact⟨_,rfl,q2⟩
  .rintro⟨i,a,b,c,d,e⟩ ⟨h0,h8,ha,he,hv⟩;dsimp only at h0 h8 ha he hv;subst ha;unfold W2;dsimp only;by_cases hi:i < 8
   .left;obtain⟨e1,he1⟩:=gO (l:=e) (i:=i.toNat) (by omega);obtain⟨e2,he2⟩:=gO (l:=a) (i:=i.toNat) (by omega);simp only[yY hi,if_true,ZQ h0 (show i < ((8:Nat):Int) by omega),he1,he2,ya];rw[Yb (z:=i+1) (by omega) (by omega)];refine⟨_,rfl,⟨by dsimp only;omega,by dsimp only;omega,rfl,by dsimp only;rw[yba];exact he, ?_⟩,by dsimp only;omega⟩;intro j x hx;dsimp only at hx ⊢;by_cases hji:j=i.toNat
    .subst hji;rw[yci (by omega)]at hx;cases hx;rw[yW (by omega),jm];have k1:=hv _ _ he1;rw[yX (by omega)]at k1;unfold gQ;rw[List.getElem?_zipWith,k1,yaj,he2];rfl
    .rw[ycz (Ne.symm hji)]at hx;have k1:=hv j x hx;by_cases hj:(j:Int) < i
     .rw[yW hj]at k1;rw[yW (by omega)];exact k1
     .rw[yX hj]at k1;rw[yX (by omega)];exact k1
   .right;rw[yX (by simpa using hi)];refine⟨_,rfl, ?_⟩;dsimp only;apply List.ext_getElem?;intro j;rw[yaj];by_cases hj:j < 8
    .obtain⟨x,hx⟩:=gO (l:=e) (i:=j) (by omega);have:=hv j x hx;rw[yW (by omega)]at this;rw[hx,this];rfl
    .rw[yan (by omega),yan (by omega)];rfl
 .rintro⟨i,a,b,c,d,e⟩ ⟨h0,h64,ha,hc,hd,he,hv⟩;dsimp only at h0 h64 ha hc hd he hv;subst ha hc hd;unfold W1;dsimp only;by_cases hi:i < 64
  .left
   match e,he,hv with
   |[x0,x1,x2,x3,x4,x5,x6,x7],_,hv=>
    obtain⟨e1,he1⟩:=gO (l:=d) (i:=i.toNat) (by omega);obtain⟨e2,he2⟩:=gO (l:=c) (i:=i.toNat) (by omega);obtain⟨o1,ho1,p1⟩:=jP x4 6 26 rfl (by omega) (z:= -6) rfl;obtain⟨o2,ho2,p2⟩:=jP x4 11 21 rfl (by omega) (z:= -11) rfl;obtain⟨o3,ho3,p3⟩:=jP x4 25 7 rfl (by omega) (z:= -25) rfl;obtain⟨o4,ho4,p4⟩:=jP x0 2 30 rfl (by omega) (z:= -2) rfl;obtain⟨o5,ho5,p5⟩:=jP x0 13 19 rfl (by omega) (z:= -13) rfl;obtain⟨o6,ho6,p6⟩:=jP x0 22 10 rfl (by omega) (z:= -22) rfl;generalize ZL yD=R at ho1 ho2 ho3 ho4 ho5 ho6 ⊢;rw[yW (yY hi)];simp only[List.getElem?_cons_zero,yat];rw[ya,ho1,ya,ya,ho2,ya,ya,ho3,ya,ya,ya,ya,ya,ya];rw[yW (ZQ h0 (show i < ((64:Nat):Int) by omega)),he1,ya,yW (ZQ h0 (show i < ((64:Nat):Int) by omega)),he2,ya,ya,ho4,ya,ya,ho5,ya,ya,ho6];rw[ya,ya,ya,ya,ya,ya];rw[ya,ya,ya,ya,ya,ya,ya];rw[Yb (z:=i+1) (by omega) (by omega)];refine⟨_,rfl,⟨by dsimp only;omega,by dsimp only;omega,rfl,rfl,rfl,rfl, ?_⟩,by dsimp only;omega⟩;dsimp only;rw[show(i+1).toNat=i.toNat+1 by omega,show rs ws (a.map ybn) (i.toNat+1)=oY (rs ws (a.map ybn) i.toNat) (ks.getD i.toNat 0) (wd ws i.toNat) from rfl, <-hv]
    have hk1:ks.getD i.toNat 0=e1.toNat:=by
     rw[<-hkv,yda,yaj,he1];rfl
    rw[hk1, <-hwv i.toNat e2 (by omega) he2];simp only[yad,List.map_nil];rw[ZDh]
    have kt:((x7+((o1^^^o2)^^^o3))+(x6^^^(x4&&&(x5^^^x6)))+e1+e2).toNat=lo (yw (yw (yw (yw x7.toNat (S1 x4.toNat)) (ch x4.toNat x5.toNat x6.toNat)) e1.toNat) e2.toNat):=by
     rw[jm,jm,jm,jm,ZQ3 x4 p1 p2 p3,ZQ4];exact ZQ7 ..
    have ka:((x7+((o1^^^o2)^^^o3))+(x6^^^(x4&&&(x5^^^x6)))+e1+e2+((o4^^^o5)^^^o6)+((x0&&&x1)|||(x2&&&(x0|||x1)))).toNat=lo (yw (yw (yw (yw (yw (yw x7.toNat (S1 x4.toNat)) (ch x4.toNat x5.toNat x6.toNat)) e1.toNat) e2.toNat) (S0 x0.toNat)) (mj x0.toNat x1.toNat x2.toNat)):=by
     rw[jm,jm,kt,ZQ2 x0 p4 p5 p6,ZQ5];exact ZQ8 ..
    have ke:(x3+(((x7+((o1^^^o2)^^^o3))+(x6^^^(x4&&&(x5^^^x6))))+e1+e2)).toNat=lo (yw x3.toNat (yw (yw (yw (yw x7.toNat (S1 x4.toNat)) (ch x4.toNat x5.toNat x6.toNat)) e1.toNat) e2.toNat)):=by
     rw[jm,kt];exact ZQ9 ..
    rw[ka,ke]
  .right;rw[yX (by simpa using hi)];have g:i=64:=by omega
   subst g;exact⟨_,rfl,rfl,he,hv⟩
def Vg(n:Nat):yL yB:=(jN n).map ybh
theorem ww{n:Nat}{b:yL yB}(h:b.length<=1000000000000):VQ yD (n:Int) b=ab (b++Vg n):=by
 unfold VQ
 obtain⟨o,h1,h2⟩:=Wc (step:=wb yD) (λs=>∃k:Nat,k<=8/\s.1=(n:Int)/\s.2.1=56 - 8*(k:Int)/\s.2.2.1=b++(Vg n).take k) (λs=>(s.2.1+8).toNat) (λo=>o.1=b++Vg n) (by
  rintro⟨a,i,c,d⟩ ⟨k,hk,ha,hi,hc⟩;dsimp only at ha hi hc;subst ha;unfold wb;dsimp only;have hcl:c.length<=b.length+8:=by rw[hc,yr,yae];omega
  by_cases h0:i >= 0
  .left;rw[yW (yY h0),yW (yY h0),yW (X2 (by omega) (by omega)),Yb (z:=i - 8) (by omega) (by omega)];refine⟨_,rfl,⟨k+1,by omega,rfl,by dsimp only;omega, ?_⟩,by dsimp only;omega⟩;dsimp only
   have hw:∀m:Nat,w8 (Int.fdiv (n:Int) (2 ^ m))=ybh (n / 2 ^ m % 256):=by
    intro m;unfold w8;rw[Int.fdiv_eq_ediv_of_nonneg _ (by exact Int.le_of_lt (Int.pow_pos (by omega)))];congr 1
   have hmin:min i.toNat 64=56 - 8*k:=by omega
   rw[hmin,hw,hc,yak];congr 1;have hk8:k < 8:=by omega
   match k,hk8 with
   |0,_=>rfl
   |1,_=>rfl
   |2,_=>rfl
   |3,_=>rfl
   |4,_=>rfl
   |5,_=>rfl
   |6,_=>rfl
   |7,_=>
    show _++[ybh (n / 2 ^ 0 % 256)]=_;rw[Nat.pow_zero,Nat.div_one];rfl
  .right;rw[yX (by simpa using h0)];have hk8:k=8:=by omega
   subst hk8;exact⟨_,rfl,hc⟩) (((n:Int),(56:Int),b,([]:yL yB))) ⟨0,by omega,rfl,by simp,by simp⟩ (by dsimp only;omega)
 rw[h1,ya,h2]
theorem ZPo{l:yL yB}(h:l.length<=4294967296):sx yD l=ab (gP l):=by
 unfold sx
 have hm:Int.tmod (l.length:Int) 64=((l.length % 64:Nat):Int):=by
  rw[Int.tmod_eq_emod_of_nonneg (by omega)];omega
 have hlt:l.length % 64 < 64:=ybo _ (by omega);have hle:l.length % 64<=l.length:=Nat.mod_le _ _;rw[hm,Yb (z:=(l.length:Int) - ((l.length % 64:Nat):Int)) (by omega) (by omega)];dsimp only;rw[yW (by simp only[ei,yi,yP];omega)];have hq:((l.length:Int) - ((l.length % 64:Nat):Int)).toNat=64*(l.length / 64):=by omega
 rw[hq]
 have hdl:(l.drop (64*(l.length / 64))).length=l.length % 64:=by
  rw[ybq];omega
 generalize ht:l.drop (64*(l.length / 64))=t at hdl
 have hcl:Yp yD t=ab t:=by
  unfold Yp;rw[yW (X2 (by omega) (by omega))]
 rw[hcl,ya,yW (X2 (by omega) (by omega))];generalize hz:dz=z;have hzl:z.length=32:=by rw[<-hz];rfl
 have hzs:zs l.length=(119 - t.length) % 64:=by unfold zs;rw[hdl]
 obtain⟨o,h1,p1,p2,p3⟩:=Wc (step:=we yD) (λs=>s.1=l/\s.2.1=z/\∃j,j<=zs l.length/\s.2.2=t++([128]:yL yB)++yy j 0) (λs=>184 - s.2.2.length)
  (λo=>o.1=l/\o.2.1=z/\o.2.2=t++([128]:yL yB)++yy (zs l.length) 0) (by
  rintro⟨a,b,c⟩ ⟨k1,k2,j,k3,k4⟩;dsimp only at k1 k2 k3 k4;have hcl:c.length=t.length+1+j:=by rw[k4,yr,yr,ycs];rfl
  unfold we;dsimp only
  have hm:Int.tmod (c.length:Int) 64=((c.length % 64:Nat):Int):=by
   rw[Int.tmod_eq_emod_of_nonneg (by omega)];omega
  rw[hm];by_cases hi:c.length % 64=56
  .right;rw[yX (by simp;omega)];have:j=zs l.length:=by omega
   subst this;exact⟨_,rfl,k1,k2,k4⟩
  .left;rw[yW (by simp;omega),yW (X2 (by omega) (by omega))];have hj:j≠zs l.length:=λe=>hi (by omega);refine⟨_,rfl,⟨k1,k2,j+1,by omega, ?_⟩, ?_⟩
   .dsimp only;rw[k4,yak,List.replicate_succ',yak]
   .dsimp only;rw[yr,List.length_singleton];omega) (l,z,t++([128]:yL yB)) ⟨rfl,rfl,0,Nat.zero_le _,by simp⟩ (by dsimp only;omega)
 rw[h1,ya,p1,p2,p3,Yb (z:=8*(l.length:Int)) (by omega) (by omega),show 8*(l.length:Int)=((8*l.length:Nat):Int) by omega,ww (by
  rw[yr,yr,ycs];simp;omega),ya]
 obtain⟨f,hf,hfl⟩:∃f,IY yD=ab f/\f.map ybn=kO:=⟨_,rfl,rfl⟩;have hf8:f.length=8:=by rw[<-yx (f:=ybn),hfl];rfl
 rw[hf,ya];generalize hE:t++([128]:yL yB)++yy (zs l.length) 0++Vg (8*l.length)=E
 have hEl:E.length=64*((t.length+72) / 64):=by
  rw[<-hE];simp only[yr,ycs,List.length_singleton,Vg,yx,jN,yah,List.length_nil];omega
 obtain⟨o3,h3,r1,r2,r3,r4⟩:=Wc (step:=wl yD) (λs=>s.2.1=z/\s.2.2.1=E/\s.2.2.2.length=8/\∃c,c<=l.length / 64/\s.1=l.drop (64*c)/\s.2.2.2.map ybn=fF c (l.map ybm) kO) (λs=>s.1.length)
  (λx=>x.1=z/\x.2.1=E/\x.2.2.length=8/\x.2.2.map ybn=fF (l.length / 64) (l.map ybm) kO) (by
  rintro⟨a,b,c,d⟩ ⟨k1,k2,k3,j,k4,k5,k6⟩;dsimp only at k1 k2 k3 k4 k5 k6;have hal:a.length=l.length - 64*j:=by rw[k5,ybq]
  unfold wl;dsimp only;by_cases hi:(a.length:Int) >= 64
  .left;obtain⟨m,hm1,hm2⟩:=ZKY (st:=d) (l:=a.take 64) k3 (by rw[yae];omega);rw[yW (yY hi),yW (by simp only[ei,yi,yP];omega),hm1,ya,yW (by simp only[ei,yi,yP];omega)];refine⟨_,rfl,⟨k1,k2, ?_,j+1,by omega, ?_, ?_⟩,by dsimp only;rw[ybq];omega⟩
   .dsimp only;rw[<-yx (f:=ybn),hm2];exact sB (by rw[yx];exact k3)
   .dsimp only;rw[k5,List.drop_drop];congr 1
   .dsimp only;rw[hm2,JK,k6,k5,List.map_take,List.map_drop]
  .right;rw[yX (by simpa using hi)];have:j=l.length / 64:=by omega
   subst this;exact⟨_,rfl,k1,k2,k3,k6⟩) (l,z,E,f) ⟨rfl,rfl,hf8,0,Nat.zero_le _,by simp,hfl⟩ (by dsimp only;omega)
 rw[h3,ya,r1,r2];generalize hv1:fF (l.length / 64) (l.map ybm) kO=v1 at r4
 obtain⟨o4,h4,s1,s2,s3⟩:=Wc (step:=wm yD) (λs=>s.2.1=z/\s.2.2.2.length=8/\∃c,c<=E.length / 64/\s.1=E.drop (64*c)/\s.2.2.2.map ybn=fF c (E.map ybm) v1) (λs=>s.1.length)
  (λx=>x.1=z/\x.2.2.length=8/\x.2.2.map ybn=fF (E.length / 64) (E.map ybm) v1) (by
  rintro⟨a,b,c,d⟩ ⟨k1,k3,j,k4,k5,k6⟩;dsimp only at k1 k3 k4 k5 k6;have hal:a.length=E.length - 64*j:=by rw[k5,ybq]
  unfold wm;dsimp only;by_cases hi:(a.length:Int) > 0
  .left;obtain⟨m,hm1,hm2⟩:=ZKY (st:=d) (l:=a.take 64) k3 (by rw[yae];omega);rw[yW (yY hi),yW (by simp only[ei,yi,yP];omega),hm1,ya,yW (by simp only[ei,yi,yP];omega)];refine⟨_,rfl,⟨k1, ?_,j+1,by omega, ?_, ?_⟩,by dsimp only;rw[ybq];omega⟩
   .dsimp only;rw[<-yx (f:=ybn),hm2];exact sB (by rw[yx];exact k3)
   .dsimp only;rw[k5,List.drop_drop];congr 1
   .dsimp only;rw[hm2,JK,k6,k5,List.map_take,List.map_drop]
  .right;rw[yX (by simpa using hi)];have:j=E.length / 64:=by omega
   subst this;exact⟨_,rfl,k1,k3,k6⟩) (E,z,E,o3.2.2) ⟨rfl,r3,0,Nat.zero_le _,by simp,r4⟩ (by dsimp only;omega)
 rw[h4,ya];generalize hv2:fF (E.length / 64) (E.map ybm) v1=v2 at s3
 obtain⟨o5,h5,t1,t2⟩:=Wc (step:=wn yD) (λs=>0<=s.1/\s.1<=32/\s.2.1.length=32/\s.2.2.2=o4.2.2/\∀(j:Nat),(j:Int) < s.1->s.2.1[j]? =ab (Go.Sha.sC v2 j)) (λs=>(32 - s.1).toNat)
  (λx=>x.1.length=32/\∀(j:Nat),j < 32->x.1[j]? =ab (Go.Sha.sC v2 j)) (by
  rintro⟨i,a,b,c⟩ ⟨h0,h32,ha,hc,hv⟩;dsimp only at h0 h32 ha hc hv;subst hc;unfold wn;dsimp only;by_cases hi:i < 32
  .left;rw[yW (yY hi)];have e1:Int.tdiv i 4=i / 4:=Int.tdiv_eq_ediv_of_nonneg h0;have e2:Int.tmod i 4=i % 4:=Int.tmod_eq_emod_of_nonneg h0;rw[e1,e2,Yb (z:=i / 4) (by omega) (by omega),Yb (z:=8*(i % 4)) (by omega) (by omega),Yb (z:=24 - 8*(i % 4)) (by omega) (by omega),Yb (z:=i+1) (by omega) (by omega)];obtain⟨x1,hx1⟩:=gO (l:=o4.2.2) (i:=(i / 4).toNat) (by omega);obtain⟨x2,hx2⟩:=gO (l:=a) (i:=i.toNat) (by omega);rw[yW (ZQ (by omega) (by omega)),hx1,ya,yW (yY (by omega))]
   try dsimp only
   rw[yW (ZQ (by omega) (by omega)),hx2,ya];refine⟨_,rfl,⟨by dsimp only;omega,by dsimp only;omega,by dsimp only;rw[yba];exact ha,rfl, ?_⟩,by dsimp only;omega⟩;intro j hj;dsimp only at hj ⊢;by_cases hji:j=i.toNat
   .subst hji;rw[yci (by omega)];congr 1;unfold Go.Sha.sC
    have hx:v2.getD (i.toNat / 4) 0=x1.toNat:=by
     rw[<-s3,yda,yaj,show i.toNat / 4=(i / 4).toNat by omega,hx1];rfl
    rw[hx,show min (24 - 8*(i % 4)).toNat 32=24 - 8*(i.toNat % 4) by omega,sy];unfold w8;have e3:∀m:Nat,(((m:Nat):Int) % 256).toNat=m % 256:=λm=>by omega
    rw[e3,show yag x1.toNat (24 - 8*(i.toNat % 4))=x1.toNat >>> (24 - 8*(i.toNat % 4)) from rfl,Nat.shiftRight_eq_div_pow]
    exact UInt8.toNat_inj.1 (by simp)
   .rw[ycz (Ne.symm hji)];exact hv j (by omega)
  .right;rw[yX (by simpa using hi)];exact⟨_,rfl,ha,λj hj=>hv j (by omega)⟩) ((0:Int),o4.1,o4.2.1,o4.2.2) ⟨Int.le_refl _,by dsimp only;omega,by dsimp only;rw[s1];exact hzl,rfl,λj hj=>by dsimp only at hj;omega⟩ (by dsimp only;omega)
 rw[h5,ya,ZKW];congr 1
 have hpad:kN l=(l.take (64*(l.length / 64))).map ybm++E.map ybm:=by
  unfold kN;rw[<-hE, <-ht];simp only[yal,List.map_replicate,yad,List.map_nil,Vg,List.map_map];rw[<-yak, <-yak, <-yak, <-yal,ybk]
  have:jN (8*l.length)=(jN (8*l.length)).map (ybm ∘ ybh):=by
   simp[jN]
  rw[<-this];simp
 have hw:((l.take (64*(l.length / 64))).map ybm).length=64*(l.length / 64):=by
  rw[yx,yae];omega
 have hv:v2=fF ((l.length+72) / 64) (kN l) kO:=by
  rw[hpad,show(l.length+72) / 64=l.length / 64+E.length / 64 by omega,JJ _ _ _ _ _ hw, <-hv2, <-hv1];congr 1;have:=JJ (l.length / 64) 0 _ ((l.drop (64*(l.length / 64))).map ybm) kO hw;rw[<-yal,ybk,Nat.add_zero]at this;exact this
 rw[<-hv];apply List.ext_getElem?;intro j;by_cases hj:j < 32
 .rw[t2 j hj,yaj,List.getElem?_range hj];rfl
 .rw[yan (by omega),yan (by simp;omega)]
noncomputable def nw(F:Nat)(a0:yL yB):yO aOz:=if ah (a0.length<=4294967296)=af then ab (gP a0) else sx F a0
noncomputable def ZDk(F:Nat):Fs yb:={ JB F with M:=λx=>nw F x}
noncomputable def JL:Fs yb:=ZDk yD
theorem ZrZ:JL.Ok:=vF (s:=JB yD) ZAE λx=>by
 show nw yD x=sx yD x;unfold nw;split
 .rename_i h;exact(ZPo (yF h)).symm
 .rfl
theorem ZG6{l:yL yB}(h:l.length<=4294967296):nw yD l=ab (gP l):=yW (yY h)
end Go.Proofs.YtekdgjajmennjaaGreat
end
section
set_option maxRecDepth 4000
namespace Go.Proofs.YtekdgjajmennjaaGreat
open Go Go.Ev
noncomputable section
def Xk(F:Nat)(a0:ByteArray)(a1:aPb):yO (aOz):=
 (VQ F (a0.size:Int) []).bind λa=>
 if(cO a.length ((fm a0).length) 1)=af then
  (Zc (Wp F) F (a1,(a1.length:Int),0,dz,a++(fm a0))).bind λb=>
  (nw F b.2).bind λc=>
  ab c
 else
 ae
def ZDl(F:Nat):Fs yb:=⟨114,[.v .str,.v aPa],[],[.str,aPa],(zN aOB),λx=>Xk F x.1 x.2⟩
def X3:Fs yb:=ZDl yD
theorem XQ:X3.Ok:=aR wc [(0,ZrW)] [Zmc,JL] ⟨Zvo,ZrZ,au⟩ ⟨Zvp,au⟩
def ZeM(F:Nat)(s:(Int×yU×aOz×aOz×aOz)):yO ((Int×yU×aOz×aOz×aOz)⊕(yU×aOz×aOz×aOz)):=
 if(ah (s.1 < 8))=af then
  if(ah (0<=wi (56 - (wi (8*s.1)))))=af then
   let a:yU:=ZG s.2.1 (min (wi (56 - (wi (8*s.1)))).toNat 64)
   if(ba s.1 8)=af then
    (s.2.2.2.2[s.1.toNat]?).bind λb=>
    ab (.inl (wi (s.1+1),s.2.1,s.2.2.1,s.2.2.2.1,s.2.2.2.2.set s.1.toNat (w8 (a.toNat:Int))))
   else
   ae
  else
  ae
 else
 ab (.inr (s.2.1,s.2.2.1,s.2.2.2.1,s.2.2.2.2))
abbrev _root_.aOW:Go.Ev.Ty:=.arr 8 .u8
abbrev zH:List bi:=[.var (.v .u64) af,.var (.v aOB) ag,.var (.v aOB) af,.var (.v aOW) af]
def Zf1:Lp:=⟨[(0,.ak 0 []),(1,.ak 1 []),(2,.ak 2 []),(3,.ak 3 []),(5,.v yI)],zH,[yI,.u64,aOB,aOB,aOW],[⟨.exit 0,[(0,.ak 0 []),(1,.ak 1 []),(2,.ak 2 []),(3,.ak 3 [])],zH,[.u64,aOB,aOB,aOW]⟩],Zc (ZeM yD) yD⟩
theorem Zkk:Zf1.bA yb 248 0:=Zv { still:=[21],cW:=[19,20]} [] [] trivial
def ZiW(F:Nat)(s0:yU)(s1:aOz):yO ((aOz×yU×aOz)):=
 (Zc (ZeM F) F (0,s0,s1,dz,[0,0,0,0,0,0,0,0])).bind λa=>
 (Xk F ZQm [a.2.1,a.2.2.2]).bind λb=>
 ab (b,a.1+1,a.2.1)
def Zo8(F:Nat):Fs yb:=⟨248,[.ak 0 [],.ak 1 []],[.var (.v .u64) af,.var (.v aOB) ag],[.u64,aOB],[⟨.ret,[(0,.v aOB)],[.var (.v .u64) af,.var (.v aOB) ag],[aOB,.u64,aOB]⟩],λx=>ZiW F x.1 x.2⟩
def Zhr:Fs yb:=Zo8 yD
theorem Zo9:Zhr.Ok:=aR { still:=[21],cW:=[19,20]} [(0,Zf1)] [X3] ⟨XQ,au⟩ ⟨Zkk,au⟩
abbrev JM:Type:=(Int×aOz×aOD×aOz×aOD×aOz×yU×aOz)
def ZeN(F:Nat)(s:JM):yO (JM⊕JM):=
 if(ah ((s.2.2.2.2.2.1.length:Int) < s.1))=af then
  (ZiW F s.2.2.2.2.2.2.1 s.2.2.2.2.2.2.2).bind λa=>
  if(cO s.2.2.2.2.2.1.length a.1.length 1)=af then
   ab (.inl (s.1,s.2.1,s.2.2.1,s.2.2.2.1,()::s.2.2.2.2.1,s.2.2.2.2.2.1++a.1,a.2.1,a.2.2))
  else
  ae
 else
 ab (.inr (s.1,s.2.1,s.2.2.1,s.2.2.2.1,s.2.2.2.2.1,s.2.2.2.2.2.1,s.2.2.2.2.2.2.1,s.2.2.2.2.2.2.2))
abbrev tL0:yL Ty:=[yI,aOB,aOC,aOA,aOC,aOA,.u64,aOB]
abbrev zD:List bi:=[.var (.v aOB) af,.row .u8 af 5,.row .u8 af 5,.var (.v .u64) af,.var (.v aOB) ag]
def Zf2:Lp:=⟨[(1,.v yI),(5,.rw 2),(6,.fn 248 [.ak 3 [],.ak 4 []])],zD,tL0,[⟨.exit 0,[(1,.v yI),(5,.rw 2)],zD,tL0⟩],Zc (ZeN yD) yD⟩
def hi5:HI:={ own:=[5,16,25,27],still:=[17],bU:=[4,5,16,25,27,28,30],cW:=[26]}
theorem Zkl:Zf2.bA yb 174 0:=Zv hi5 [] [Zhr] ⟨Zo9,au⟩
def JN(F:Nat)(a0:aOz)(a1:Int):yO ((aOD×aOz)):=
 if(ah (a1 < 0))=af then
  ab ([],[])
 else
 if(ah (a1 > 65536))=af then
  ab ([],[])
 else
 if(af&&(iX (wi (a1+32)) 1))=af then
  (Zvm F a0).bind λa=>
  (Zc (ZeN F) F (a1,a0,[],[],[],[],a.1,a.2)).bind λb=>
  if(ah (0<=b.1)&&ah (b.1.toNat<=b.2.2.2.2.2.1.length))=af then
   ab (b.2.2.2.2.1,b.2.2.2.2.2.1.take b.1.toNat)
  else
  ae
 else
 ae
def Zpa(F:Nat):Fs yb:=⟨174,[.v aOB,.v yI],[],[aOB,yI],[⟨.ret,[(0,.rw 0)],[.row .u8 af 5],[aOC,aOA]⟩],λx=>JN F x.1 x.2⟩
def JO:Fs yb:=Zpa yD
theorem Zf3:JO.Ok:=aR hi5 [(0,Zf2)] [ZrV] ⟨ZAD,au⟩ ⟨Zkl,au⟩
def Zmf(F:Nat)(s:(aOz×Int×Int×aOz×aOD×aOz)):yO ((aOz×Int×Int×aOz×aOD×aOz)⊕(aOz×aOD×aOz)):=
 if(ah (s.2.2.1 < s.2.1))=af then
  if(ba s.2.2.1 s.2.2.2.2.2.length)=af then
   (s.2.2.2.2.2[s.2.2.1.toNat]?).bind λa=>
   (idx s.1 s.2.2.1).bind λb=>
   if(ba s.2.2.1 s.2.2.2.2.2.length)=af then
    (s.2.2.2.2.2[s.2.2.1.toNat]?).bind λc=>
    ab (.inl (s.1,s.2.1,wi (s.2.2.1+1),s.2.2.2.1,s.2.2.2.2.1,s.2.2.2.2.2.set s.2.2.1.toNat (a^^^b)))
   else
   ae
  else
  ae
 else
 ab (.inr (s.2.2.2.1,s.2.2.2.2.1,s.2.2.2.2.2))
def Zpb:Lp:=⟨[(1,.v aOA),(5,.rw 1),(12,.v yI),(13,.v yI)],[.var (.v aOB) af,.row .u8 af 5],[aOA,yI,yI,aOB,aOC,aOA],[⟨.exit 0,[(5,.rw 1)],[.var (.v aOB) af,.row .u8 af 5],[aOB,aOC,aOA]⟩],Zc (Zmf yD) yD⟩
def hi6:HI:={ still:=[4,7,9],bU:=[5,10,16]}
theorem ZsN:Zpb.bA yb 92 0:=Zv hi6 [] [] trivial
def Zvu(F:Nat)(a0:aOz)(a1:aOz):yO (aOz):=
 (JN F a0 (a1.length:Int)).bind λa=>
 (Zc (Zmf F) F (a1,(a1.length:Int),0,a0,a.1,a.2)).bind λb=>
 ab b.2.2
def ZAG(F:Nat):Fs yb:=⟨92,[.v aOB,.v aOA],[],[aOB,aOA],(zN aOA),λx=>Zvu F x.1 x.2⟩
def Zr0:Fs yb:=ZAG yD
theorem ZAH:Zr0.Ok:=aR hi6 [(0,Zpb)] [JO] ⟨Zf3,au⟩ ⟨ZsN,au⟩
def Yu(F:Nat)(a0:aOz):yO (aOz):=
 if(cO 0 a0.length 1)=af then
  ab a0
 else
 ae
def Zc3(F:Nat):Fs yb:=⟨105,[.sl af .u8],[],[aOA],(zN aOA),λx=>Yu F x⟩
def ZdR:Fs yb:=Zc3 yD
theorem Zc4:ZdR.Ok:=aR { own:=[5,7],still:=[2]} [] [] trivial
def VT(F:Nat):yO (aOz):=
 ab []
def Zc5(F:Nat):Fs yb:=⟨105,[.nil .u8],[],[],(zN aOA),λx=>VT F⟩
def ZdS:Fs yb:=Zc5 yD
theorem Zc6:ZdS.Ok:=aR { own:=[5,7],still:=[2]} [] [] trivial
def ZbS(F:Nat):Fs yb:=⟨105,[.v aOA],[],[aOA],(zN aOA),λx=>Yu F x⟩
def Xv:Fs yb:=ZbS yD
theorem WG:Xv.Ok:=ni (t:=.u8) (xs:=(zN aOA)) (MA:=λ(x:aOz)=>Yu yD x) (MB:=λ_=>VT yD) Zc4 Zc6 rfl
def ZQp:ByteArray:=⟨#[115,101,97,108]⟩
def JP(F:Nat)(a0:aOz)(a1:aOz):yO (aOz):=
 (Xk F ZQp [a0,a1]).bind λa=>
 if(ah (8<=(a.take 8).length))=af then
  ab ((a.take 8).take 8)
 else
 ae
def ZDm(F:Nat):Fs yb:=⟨93,[.v aOB,.v aOA],[],[aOB,aOA],(zN aOW),λx=>JP F x.1 x.2⟩
def JQ:Fs yb:=ZDm yD
theorem Zr1:JQ.Ok:=aR { still:=[8],cW:=[6,10]} [] [X3] ⟨XQ,au⟩
def Zhs(F:Nat)(s:(aOz×Int×Int×aOz×aOD×aOz×aOD×aOz)):yO ((aOz×Int×Int×aOz×aOD×aOz×aOD×aOz)⊕(aOz×aOD×aOz×aOD×aOz)):=
 if(ah (s.2.2.1 < s.2.1))=af then
  if(ba s.2.2.1 s.2.2.2.2.2.2.2.length)=af then
   (s.2.2.2.2.2.2.2[s.2.2.1.toNat]?).bind λa=>
   (idx s.1 s.2.2.1).bind λb=>
   if(ba s.2.2.1 s.2.2.2.2.2.2.2.length)=af then
    (s.2.2.2.2.2.2.2[s.2.2.1.toNat]?).bind λc=>
    let d:aOz:=s.2.2.2.2.2.2.2.set s.2.2.1.toNat (a^^^b)
    ab (.inl (s.1,s.2.1,wi (s.2.2.1+1),s.2.2.2.1,s.2.2.2.2.1,s.2.2.2.2.2.1,s.2.2.2.2.2.2.1,d))
   else
   ae
  else
  ae
 else
 ab (.inr (s.2.2.2.1,s.2.2.2.2.1,s.2.2.2.2.2.1,s.2.2.2.2.2.2.1,s.2.2.2.2.2.2.2))
abbrev tL1:yL Ty:=[aOA,yI,yI,aOB,aOC,aOA,aOC,aOA]
def ZiX:Lp:=⟨[(1,.v aOA),(5,.rw 2),(12,.v yI),(13,.v yI)],[.var (.v aOB) af,.row .u8 af 5,.row .u8 af 5],tL1,[⟨.exit 0,[(5,.rw 2)],[.var (.v aOB) af,.row .u8 af 5,.row .u8 af 5],[aOB,aOC,aOA,aOC,aOA]⟩],Zc (Zhs yD) yD⟩
def hi7:HI:={ still:=[7,9],bU:=[4,5,10,16,27]}
theorem Znl:ZiX.bA yb 92 0:=Zv hi7 [] [] trivial
def Zmg(F:Nat)(a0:aOz)(a1:aOz):yO ((aOD×aOz)):=
 (JN F a0 (a1.length:Int)).bind λa=>
 (Zc (Zhs F) F (a1,(a1.length:Int),0,a0,[],[],a.1,a.2)).bind λb=>
 ab (b.2.2.2.1,b.2.2.2.2)
def ZsO(F:Nat):Fs yb:=⟨92,[.v aOB,.v aOA],[],[aOB,aOA],[⟨.ret,[(0,.rw 0)],[.row .u8 af 5],[aOC,aOA]⟩],λx=>Zmg F x.1 x.2⟩
def Zkm:Fs yb:=ZsO yD
theorem ZsP:Zkm.Ok:=aR hi7 [(0,ZiX)] [JO] ⟨Zf3,au⟩ ⟨Znl,au⟩
def Zvv(F:Nat)(a0:aOz)(a1:aOz):yO (aOz):=
 if(ah ((a1.length:Int) > 65536))=af then
  ab []
 else
 (Zmg F a0 a1).bind λa=>
 (JP F a0 a.2).bind λb=>
 if(cO a.2.length b.length 1)=af then
  ab (a.2++b)
 else
 ae
def ZAI(F:Nat):Fs yb:=⟨36,[.v aOB,.v aOA],[],[aOB,aOA],(zN aOA),λx=>Zvv F x.1 x.2⟩
def Zr2:Fs yb:=ZAI yD
def hi8:HI:={ own:=[5,12,16,18],still:=[4,10,11,13,14],cW:=[17]}
theorem ZAJ:Zr2.Ok:=aR hi8 [] [Zkm,JQ] ⟨ZsP,Zr1,au⟩
def YZ(F:Nat)(s:(aPb×Int×aPb×Int×Int)):yO ((aPb×Int×aPb×Int×Int)⊕(aPb×Int)):=
 if(ah (s.2.2.2.2 < s.2.2.2.1))=af then
  (idx s.2.2.1 s.2.2.2.2).bind λa=>
  if(ah ((wi (s.2.1+(a.length:Int))) < 0))=af then
   ae
  else
  ab (.inl (s.1,wi (s.2.1+(a.length:Int)),s.2.2.1,s.2.2.2.1,wi (s.2.2.2.2+1)))
 else
 ab (.inr (s.1,s.2.1))
def VU:Lp:=⟨[(0,.v aPa),(3,.v yI),(9,.v aPa),(10,.v yI),(11,.v yI)],[],[aPa,yI,aPa,yI,yI],[⟨.exit 0,[(0,.v aPa),(3,.v yI)],[],[aPa,yI]⟩],Zc (YZ yD) yD⟩
def JR:HI:={ own:=[6,24,31,33],still:=[2,23]}
theorem ZcJ:VU.bA yb 225 0:=Zv JR [] [] trivial
def Zag:Fs yb:=⟨249,[.nil .u8,.v yI],[],[.int .i64],[⟨.ret,[(0,.own 0 .u8)],[.log .u8 5],[.sl .u8]⟩],nj⟩
theorem ZgJ:Zag.Ok:=ZMU ZKE
def Y2(F:Nat)(s:(aPb×Int×Int×aOz)):yO ((aPb×Int×Int×aOz)⊕aOz):=
 if(ah (s.2.2.1 < s.2.1))=af then
  (idx s.1 s.2.2.1).bind λa=>
  if(cO s.2.2.2.length a.length 1)=af then
   ab (.inl (s.1,s.2.1,wi (s.2.2.1+1),s.2.2.2++a))
  else
  ae
 else
 ab (.inr s.2.2.2)
def VV:Lp:=⟨[(6,.own 0 .u8),(25,.v aPa),(26,.v yI),(27,.v yI)],[.log .u8 5],[aPa,yI,yI,aOA],[⟨.exit 2,[(6,.own 0 .u8)],[.log .u8 5],[aOA]⟩],Zc (Y2 yD) yD⟩
theorem ZcK:VV.bA yb 225 1:=Zv JR [] [] trivial
def YI(F:Nat)(a0:aPb):yO (aOz):=
 (Zc (YZ F) F (a0,0,a0,(a0.length:Int),0)).bind λa=>
 (nj a.2).bind λb=>
 (Zc (Y2 F) F (a.1,(a.1.length:Int),0,b)).bind λc=>
 ab c
def ZeO(F:Nat):Fs yb:=⟨225,[.v aPa],[],[aPa],(zN aOA),λx=>YI F x⟩
def Wa:Fs yb:=ZeO yD
theorem VW:Wa.Ok:=aR JR [(0,VU),(1,VV)] [Zag] ⟨ZgJ,au⟩ ⟨ZcJ,ZcK,au⟩
def QZ(F:Nat)(a0:aOz)(a1:aOz):yO (aOz):=
 (YI F [a0,a1]).bind λa=>
 ab a
def ZAK(F:Nat):Fs yb:=⟨175,[.v aOA,.v aOA],[],[aOA,aOA],(zN aOA),λx=>QZ F x.1 x.2⟩
def wx:Fs yb:=ZAK yD
theorem JS:wx.Ok:=aR { still:=[4,7]} [] [Wa] ⟨VW,au⟩
def Wx(F:Nat)(a0:aOz)(a1:aOz):yO (aOz):=
 (QZ F a0 a1).bind λa=>
 ab a
def JT(F:Nat):Fs yb:=⟨98,[.v aOA,.v aOB],[],[aOA,aOB],(zN aOA),λx=>Wx F x.1 x.2⟩
def wy:Fs yb:=JT yD
theorem QM:wy.Ok:=aR { still:=[4,5,6],cW:=[6]} [] [wx] ⟨JS,au⟩
def wz(F:Nat)(s:(Int×aOz)):yO ((Int×aOz)⊕(Int×aOz)):=
 if(ah (s.1 >= 128))=af then
  if(cO s.2.length 1 1)=af then
   let a:aOz:=s.2++([w8 (wi ((Int.tmod s.1 128)+128))]:yL yB)
   ab (.inl (wi (Int.tdiv s.1 128),a))
  else
  ae
 else
 ab (.inr (s.1,s.2))
def Zr3:Lp:=⟨[(0,.v yI),(3,.own 0 .u8)],[.log .u8 5],[yI,aOA],[⟨.exit 0,[(0,.v yI),(3,.own 0 .u8)],[.log .u8 5],[yI,aOA]⟩],Zc (wz yD) yD⟩
def ZQq:HI:={ own:=[3,8,14,15,19],still:=[2]}
theorem Zvw:Zr3.bA yb 176 0:=Zv ZQq [] [] trivial
def sD(F:Nat)(a0:Int):yO (aOz):=
 (Zc (wz F) F (a0,[])).bind λa=>
 if(cO a.2.length 1 1)=af then
  ab (a.2++([w8 a.1]:yL yB))
 else
 ae
def ZDn(F:Nat):Fs yb:=⟨176,[.v yI],[],[yI],(zN aOA),λx=>sD F x⟩
def JU:Fs yb:=ZDn yD
theorem Zr4:JU.Ok:=aR ZQq [(0,Zr3)] [] trivial ⟨Zvw,au⟩
def Y7(F:Nat)(a0:aOz)(a1:Int):yO (aOz):=
 if(ah (a1 < 0))=af then
  (QZ F a0 []).bind λa=>
  ab a
 else
 (sD F a1).bind λb=>
 (QZ F a0 b).bind λc=>
 ab c
def JV(F:Nat):Fs yb:=⟨95,[.v aOA,.v yI],[],[aOA,yI],(zN aOA),λx=>Y7 F x.1 x.2⟩
def W3:Fs yb:=JV yD
theorem Wq:W3.Ok:=aR { still:=[4,7,9,10,11]} [] [wx,JU] ⟨JS,Zr4,au⟩
def Zhu(F:Nat)(s:(aOP×Int×Int×aOz)):yO ((aOP×Int×Int×aOz)⊕aOz):=
 if(ah (s.2.2.1 < s.2.1))=af then
  (idx s.1 s.2.2.1).bind λa=>
  (Y7 F s.2.2.2 a).bind λb=>
  ab (.inl (s.1,s.2.1,wi (s.2.2.1+1),b))
 else
 ab (.inr s.2.2.2)
def ZiY:Lp:=⟨[(1,.ak 0 []),(5,.v aON),(6,.v yI),(7,.v yI)],[.var (.v aOA) af],[aON,yI,yI,aOA],[⟨.exit 0,[],[.var (.v aOA) af],[aOA]⟩],Zc (Zhu yD) yD⟩
theorem Znn:ZiY.bA yb 94 0:=Zv { still:=[11,12]} [] [W3] ⟨Wq,au⟩
def wA(F:Nat)(a0:aOP)(s0:aOz):yO (aOz):=
 (Zc (Zhu F) F (a0,(a0.length:Int),0,s0)).bind λa=>
 ab a
def ZsQ(F:Nat):Fs yb:=⟨94,[.v aON,.ak 0 []],[.var (.v aOA) af],[aON,aOA],[⟨.ret,[(0,.bj [])],[.var (.v aOA) af],[aOA]⟩],λx=>wA F x.1 x.2⟩
def JW:Fs yb:=ZsQ yD
theorem ZiZ:JW.Ok:=aR { still:=[11,12]} [(0,ZiY)] [] trivial ⟨Znn,au⟩
def QN(F:Nat)(s:(aOz×yU×Int×aOz)):yO ((aOz×yU×Int×aOz)⊕(aOz×aOz)):=
 if(ah (s.2.2.1 < 8))=af then
  if(ah (0<=wi (56 - (wi (8*s.2.2.1)))))=af then
   let a:yU:=ZG s.2.1 (min (wi (56 - (wi (8*s.2.2.1)))).toNat 64)
   if(ba s.2.2.1 8)=af then
    (s.2.2.2[s.2.2.1.toNat]?).bind λb=>
    let c:aOz:=s.2.2.2.set s.2.2.1.toNat (w8 (a.toNat:Int))
    ab (.inl (s.1,s.2.1,wi (s.2.2.1+1),c))
   else
   ae
  else
  ae
 else
 ab (.inr (s.1,s.2.2.2))
def Zko:Lp:=⟨[(0,.v aOA),(1,.v .u64),(5,.ak 0 []),(7,.v yI)],[.var (.v aOW) af],[aOA,.u64,yI,aOW],[⟨.exit 0,[(0,.v aOA),(5,.ak 0 [])],[.var (.v aOW) af],[aOA,aOW]⟩],Zc (QN yD) yD⟩
theorem Zpc:Zko.bA yb 97 0:=Zv { still:=[4,19,20],cW:=[20]} [] [] trivial
def Qb(F:Nat)(a0:aOz)(a1:yU):yO (aOz):=
 (Zc (QN F) F (a0,a1,0,[0,0,0,0,0,0,0,0])).bind λa=>
 (QZ F a.1 a.2).bind λb=>
 ab b
def Zvx(F:Nat):Fs yb:=⟨97,[.v aOA,.v .u64],[],[aOA,.u64],(zN aOA),λx=>Qb F x.1 x.2⟩
def wB:Fs yb:=Zvx yD
theorem JX:wB.Ok:=aR { still:=[4,19,20],cW:=[20]} [(0,Zko)] [wx] ⟨JS,au⟩ ⟨Zpc,au⟩
def Zhv(F:Nat)(s:(aOM×Int×Int×aOz)):yO ((aOM×Int×Int×aOz)⊕aOz):=
 if(ah (s.2.2.1 < s.2.1))=af then
  (idx s.1 s.2.2.1).bind λa=>
  (Qb F s.2.2.2 a).bind λb=>
  ab (.inl (s.1,s.2.1,wi (s.2.2.1+1),b))
 else
 ab (.inr s.2.2.2)
def Zi0:Lp:=⟨[(1,.ak 0 []),(5,.v aOH),(6,.v yI),(7,.v yI)],[.var (.v aOA) af],[aOH,yI,yI,aOA],[⟨.exit 0,[],[.var (.v aOA) af],[aOA]⟩],Zc (Zhv yD) yD⟩
theorem Zno:Zi0.bA yb 96 0:=Zv { still:=[11,12]} [] [wB] ⟨JX,au⟩
def JY(F:Nat)(a0:aOM)(s0:aOz):yO (aOz):=
 (Zc (Zhv F) F (a0,(a0.length:Int),0,s0)).bind λa=>
 ab a
def ZsR(F:Nat):Fs yb:=⟨96,[.v aOH,.ak 0 []],[.var (.v aOA) af],[aOH,aOA],[⟨.ret,[(0,.bj [])],[.var (.v aOA) af],[aOA]⟩],λx=>JY F x.1 x.2⟩
def JZ:Fs yb:=ZsR yD
theorem Zi1:JZ.Ok:=aR { still:=[11,12]} [(0,Zi0)] [] trivial ⟨Zno,au⟩
def Zkp(F:Nat)(s:((yL bt)×Int×ZD×aOz)):yO (((yL bt)×Int×ZD×aOz)⊕(ZD×aOz)):=
 if(ah (s.2.1 < 2))=af then
  (idx s.1 s.2.1).bind λa=>
  (JY F [a.1,a.2.1,a.2.2.1,a.2.2.2.1,a.2.2.2.2] s.2.2.2).bind λb=>
  if(ba s.2.1 2)=af then
   (s.2.2.1.1.2.2.2.1[s.2.1.toNat]?).bind λc=>
   (wA F [c.1,c.2.1,c.2.2.1,c.2.2.2.1,c.2.2.2.2.1,c.2.2.2.2.2] b).bind λd=>
   ab (.inl (s.1,wi (s.2.1+1),s.2.2.1,d))
  else
  ae
 else
 ab (.inr (s.2.2.1,s.2.2.2))
def Zmh:Lp:=⟨[(1,.ak 0 []),(3,.ak 1 []),(4,.fn 94 [.ak 1 []]),(5,.fn 96 [.ak 1 []]),(41,.v (.arr 2 nr)),(42,.v yI)],[.var (.v Zp) af,.var (.v aOA) af],[(.arr 2 nr),yI,Zp,aOA],[⟨.exit 0,[(1,.ak 0 []),(3,.ak 1 []),(5,.fn 96 [.ak 1 []])],[.var (.v Zp) af,.var (.v aOA) af],[Zp,aOA]⟩],Zc (Zkp yD) yD⟩
def ZQr:HI:={ still:=[2,18,20,24,37,57,77,96,98,101]}
theorem ZqI:Zmh.bA yb 37 0:=Zv ZQr [] [JZ,JW] ⟨Zi1,ZiZ,au⟩
def Zr5(F:Nat)(a0:ZD):yO (aOz):=
 (wA F [a0.2.2.1,a0.2.2.2.1,a0.2.2.2.2] []).bind λa=>
 (Wx F a a0.1.1.1).bind λb=>
 (wA F [a0.1.1.2,a0.1.2.1,a0.1.2.2.2.2] b).bind λc=>
 (Zc (Zkp F) F (a0.1.2.2.1,0,a0,c)).bind λd=>
 (JY F [d.1.2.1.1,d.1.2.1.2.1,d.1.2.1.2.2.1,d.1.2.1.2.2.2.1,d.1.2.1.2.2.2.2.1] d.2).bind λe=>
 (Wx F e d.1.2.1.2.2.2.2.2).bind λf=>
 ab f
def Zxd(F:Nat):Fs yb:=⟨37,[.v Zp],[],[Zp],(zN aOA),λx=>Zr5 F x⟩
def Zpd:Fs yb:=Zxd yD
theorem Zxe:Zpd.Ok:=aR ZQr [(0,Zmh)] [JW,wy,JZ] ⟨ZiZ,QM,Zi1,au⟩ ⟨ZqI,au⟩
def ZAL(F:Nat)(a0:aOz)(a1:ZD):yO ((aOz×Int)):=
 (Ww F a1).bind λa=>
 if(!a)=af then
  ab ([],1)
 else
 (Zr5 F a1).bind λb=>
 (Zvv F a0 b).bind λc=>
 ab (c,0)
def KA(F:Nat):Fs yb:=⟨8,[.v aOB,.v Zp],[],[aOB,Zp],[⟨.ret,[(0,.bj [.v aOA,.v yI])],[],[aOA,yI]⟩],λx=>ZAL F x.1 x.2⟩
def Zxf:Fs yb:=KA yD
theorem Zvy:Zxf.Ok:=aR { still:=[4,5,6,9,10,11]} [] [VP,Zpd,Zr2] ⟨QL,Zxe,ZAJ,au⟩
def Zvz(F:Nat)(a0:aOz)(a1:aOz):yO ((aOz×Bool)):=
 if(ah ((wi ((a1.length:Int) - 8)) < 0))=af then
  ab ([],ag)
 else
 if(ah ((wi ((a1.length:Int) - 8)) > 65536))=af then
  ab ([],ag)
 else
 if(ei a1.length ae (ab (wi ((a1.length:Int) - 8))))=af then
  (JP F a0 (a1.take ((wi ((a1.length:Int) - 8)).toNat))).bind λa=>
  if(ei a1.length (ab (wi ((a1.length:Int) - 8))) ae)=af then
   if(ah (8<=(a1.drop ((wi ((a1.length:Int) - 8)).toNat)).length))=af then
    let b:Bool:= !(ah (a=(a1.drop ((wi ((a1.length:Int) - 8)).toNat)).take 8))
    if b=af then
     ab ([],ag)
    else
    if(ei a1.length ae (ab (wi ((a1.length:Int) - 8))))=af then
     (Zvu F a0 (a1.take ((wi ((a1.length:Int) - 8)).toNat))).bind λc=>
     ab (c,af)
    else
    ae
   else
   ae
  else
  ae
 else
 ae
def ZAM(F:Nat):Fs yb:=⟨40,[.v aOB,.v aOA],[],[aOB,aOA],[⟨.ret,[(0,.bj [.v aOA,.v .bool])],[],[aOA,.bool]⟩],λx=>Zvz F x.1 x.2⟩
def Zr6:Fs yb:=ZAM yD
theorem ZAN:Zr6.Ok:=aR { still:=[4,5,17,20,29,32]} [] [JQ,Zr0] ⟨Zr1,ZAH,au⟩
abbrev Zl:Ty:=(.st [aOA,.bool])
abbrev ZE:Type:=(aOz×Bool)
abbrev ZE.b(x:ZE):aOz:=x.1
abbrev ZE.no(x:ZE):Bool:=x.2
def ZvA(F:Nat)(a0:aOz):yO (ZE):=
 (Yu F a0).bind λa=>
 ab (a,ag)
def ZAO(F:Nat):Fs yb:=⟨41,[.v aOA],[],[aOA],[⟨.ret,[(0,.ak 0 [])],[.var (.v Zl) af],[Zl]⟩],λx=>ZvA F x⟩
def Zr7:Fs yb:=ZAO yD
theorem ZAP:Zr7.Ok:=aR { still:=[2,3]} [] [Xv] ⟨WG,au⟩
def ZeT(F:Nat)(s0:Int)(s2:ZE):yO ((Bool×Int×ZE)):=
 if(ah (s0 >= (s2.1.length:Int)))=af then
  ab (af,s0,s2)
 else
 if(ah (s0 > 8))=af then
  ab (af,s0,s2)
 else
 if(ah (s0 > 0))=af then
  (idx s2.1 s0).bind λa=>
  ab (a==0,s0,s2)
 else
 ab (ag,s0,s2)
def Zkq(F:Nat):Fs yb:=⟨106,[.ak 0 [],.ak 1 []],[.var (.v yI) af,.var (.ak 2 []) af,.var (.v Zl) af],[yI,Zl],[⟨.ret,[(0,.v .bool)],[.var (.v yI) af,.var (.ak 2 []) af,.var (.v Zl) af],[.bool,yI,Zl]⟩],λx=>ZeT F x.1 x.2⟩
def Zdi:Fs yb:=Zkq yD
theorem Zkr:Zdi.Ok:=aR { still:=[2]} [] [] trivial
def Vy(F:Nat)(s0:ZE):yO (ZE):=
 ab ([],af)
def ZlJ(F:Nat):Fs yb:=⟨107,[.ak 0 []],[.var (.v Zl) af],[Zl],[⟨.ret,[(0,.bj [])],[.var (.v Zl) af],[Zl]⟩],λx=>Vy F x⟩
def Q0:Fs yb:=ZlJ yD
theorem Zdj:Q0.Ok:=aR {} [] [] trivial
def Zdk(F:Nat)(s:(Int×ZE×Int)):yO ((Int×ZE×Int)⊕((Int×ZE×Int)⊕(Int×ZE×Int))):=
 (ZeT F s.2.2 s.2.1).bind λa=>
 if a.1=af then
  (Vy F a.2.2).bind λb=>
  ab (.inr (.inl (0,b,a.2.1)))
 else
 (idx a.2.2.1 a.2.1).bind λc=>
 if(ah (0<=wi (7*a.2.1)))=af then
  let d:Int:=wi (((c % 128).toNat:Int)*2 ^ (min (wi (7*a.2.1)).toNat 64))
  if(ah (c < 128))=af then
   ab (.inr (.inr (bits .or .i64 s.1 d,a.2.2,wi (a.2.1+1))))
  else
  ab (.inl (bits .or .i64 s.1 d,a.2.2,wi (a.2.1+1)))
 else
 ae
abbrev qW:List bi:=[.var (.v Zl) af,.var (.ak 0 []) af,.var (.v yI) af]
def ZeU:Lp:=⟨[(1,.ak 1 []),(3,.v yI),(4,.ak 2 []),(5,.fn 106 [.ak 2 [],.ak 1 []])],qW,[yI,Zl,yI],[⟨.ret,[(2,.v yI)],qW,[yI,Zl,yI]⟩,⟨.exit 0,[(1,.ak 1 []),(3,.v yI),(4,.ak 2 [])],qW,[yI,Zl,yI]⟩],Zc (Zdk yD) yD⟩
theorem Zjr:ZeU.bA yb 42 0:=Zv { still:=[2,10]} [] [Zdi,Q0] ⟨Zkr,Zdj,au⟩
def ZR(F:Nat)(s0:ZE):yO ((Int×ZE)):=
 (Zc (Zdk F) F (0,s0,0)).bind λa=>
 match a with
 |.inl b=>
  ab (b.1,b.2.1)
 |.inr c=>
  if(ei c.2.1.1.length (ab c.2.2) ae)=af then
   ab (c.1,(c.2.1.1.drop c.2.2.toNat,c.2.1.2))
  else
  ae
def Znp(F:Nat):Fs yb:=⟨42,[.ak 0 []],[.var (.v Zl) af],[Zl],[⟨.ret,[(0,.v yI)],[.var (.v Zl) af],[yI,Zl]⟩],λx=>ZR F x⟩
def KB:Fs yb:=Znp yD
theorem ZeV:KB.Ok:=aR { still:=[2,10]} [(0,ZeU)] [] trivial ⟨Zjr,au⟩
def KC(F:Nat)(a1:Int)(s0:ZE):yO ((aOz×ZE)):=
 if s0.2=af then
  (Vy F s0).bind λa=>
  ab ([],a)
 else
 if(ah (a1 > (s0.1.length:Int)))=af then
  (Vy F s0).bind λb=>
  ab ([],b)
 else
 if(ei s0.1.length ae (ab a1))=af then
  (Yu F (s0.1.take a1.toNat)).bind λc=>
  if(ei s0.1.length (ab a1) ae)=af then
   ab (c,(s0.1.drop a1.toNat,s0.2))
  else
  ae
 else
 ae
def ZlK(F:Nat):Fs yb:=⟨108,[.ak 0 [],.v yI],[.var (.v Zl) af],[yI,Zl],[⟨.ret,[(0,.v aOA)],[.var (.v Zl) af],[aOA,Zl]⟩],λx=>KC F x.1 x.2⟩
def Q1:Fs yb:=ZlK yD
theorem Zdl:Q1.Ok:=aR { still:=[4,19,26]} [] [Q0,Xv] ⟨Zdj,WG,au⟩
def KD(F:Nat)(s0:ZE):yO ((aOz×ZE)):=
 (KC F 32 s0).bind λa=>
 if(ah (a.1.length<=32)&&ah (0+32<=32))=af then
  let b:aOz:=dz.take 0++(a.1++dz.drop (0+a.1.length))
  ab (b,a.2)
 else
 ae
def ZlL(F:Nat):Fs yb:=⟨44,[.ak 0 []],[.var (.v Zl) af],[Zl],[⟨.ret,[(0,.v aOB)],[.var (.v Zl) af],[aOB,Zl]⟩],λx=>KD F x⟩
def ZeW:Fs yb:=ZlL yD
theorem ZlM:ZeW.Ok:=aR { still:=[5]} [] [Q1] ⟨Zdl,au⟩
def Zdm(F:Nat)(s:(yU×aOz×Int×Int×ZE)):yO ((yU×aOz×Int×Int×ZE)⊕(yU×ZE)):=
 if(ah (s.2.2.2.1 < s.2.2.1))=af then
  (idx s.2.1 s.2.2.2.1).bind λa=>
  ab (.inl ((Vv s.1 8)|||(yaf a.toNat),s.2.1,s.2.2.1,wi (s.2.2.2.1+1),s.2.2.2.2))
 else
 ab (.inr (s.1,s.2.2.2.2))
def ZeX:Lp:=⟨[(3,.v .u64),(7,.v aOA),(8,.v yI),(9,.v yI)],[.var (.v Zl) af],[.u64,aOA,yI,yI,Zl],[⟨.exit 0,[(3,.v .u64)],[.var (.v Zl) af],[.u64,Zl]⟩],Zc (Zdm yD) yD⟩
theorem Zjs:ZeX.bA yb 43 0:=Zv { still:=[2,6]} [] [] trivial
def Yd(F:Nat)(s0:ZE):yO ((yU×ZE)):=
 (KC F 8 s0).bind λa=>
 (Zc (Zdm F) F (0,a.1,(a.1.length:Int),0,a.2)).bind λb=>
 ab (b.1,b.2)
def Znq(F:Nat):Fs yb:=⟨43,[.ak 0 []],[.var (.v Zl) af],[Zl],[⟨.ret,[(0,.v .u64)],[.var (.v Zl) af],[.u64,Zl]⟩],λx=>Yd F x⟩
def KE:Fs yb:=Znq yD
theorem ZeY:KE.Ok:=aR { still:=[2,6]} [(0,ZeX)] [Q1] ⟨Zdl,au⟩ ⟨Zjs,au⟩
def Zi2(F:Nat)(s:(Bool×Int×aOz×ZD×ZE×ZD)):yO ((Bool×Int×aOz×ZD×ZE×ZD)⊕(Bool×aOz×ZD×ZE×ZD)):=
 if(ah (s.2.1 < 2))=af then
  (Yd F s.2.2.2.2.1).bind λa=>
  (Yd F a.2).bind λb=>
  (Yd F b.2).bind λc=>
  (Yd F c.2).bind λd=>
  (Yd F d.2).bind λe=>
  if(ba s.2.1 2)=af then
   (s.2.2.2.2.2.1.2.2.1[s.2.1.toNat]?).bind λf=>
   (ZR F e.2).bind λg=>
   (ZR F g.2).bind λh=>
   (ZR F h.2).bind λi=>
   (ZR F i.2).bind λj=>
   (ZR F j.2).bind λk=>
   (ZR F k.2).bind λl=>
   if(ba s.2.1 2)=af then
    (s.2.2.2.2.2.1.2.2.2.1[s.2.1.toNat]?).bind λm=>
    ab (.inl (s.1,wi (s.2.1+1),s.2.2.1,s.2.2.2.1,l.2,((s.2.2.2.2.2.1.1,s.2.2.2.2.2.1.2.1,s.2.2.2.2.2.1.2.2.1.set s.2.1.toNat (a.1,b.1,c.1,d.1,e.1),s.2.2.2.2.2.1.2.2.2.1.set s.2.1.toNat (g.1,h.1,i.1,j.1,k.1,l.1),s.2.2.2.2.2.1.2.2.2.2),s.2.2.2.2.2.2.1,s.2.2.2.2.2.2.2.1,s.2.2.2.2.2.2.2.2.1,s.2.2.2.2.2.2.2.2.2)))
   else
   ae
  else
  ae
 else
 ab (.inr (s.1,s.2.2.1,s.2.2.2.1,s.2.2.2.2.1,s.2.2.2.2.2))
abbrev zR:List bi:=[.var (.v aOB) af,.var (.v Zp) af,.var (.v Zl) af,.var (.v Zp) af]
def Zks:Lp:=⟨[(4,.ak 1 []),(7,.v .bool),(8,.ak 2 []),(9,.fn 4294967338 [.ak 2 []]),(10,.fn 4294967339 [.ak 2 []]),(11,.ak 3 []),(50,.v yI)],zR,[.bool,yI,aOB,Zp,Zl,Zp],[⟨.exit 0,[(4,.ak 1 []),(7,.v .bool),(8,.ak 2 []),(10,.fn 4294967339 [.ak 2 []]),(11,.ak 3 [])],zR,[.bool,aOB,Zp,Zl,Zp]⟩],Zc (Zi2 yD) yD⟩
def ZQs:HI:={ still:=[5,14,15,19,32,96,103,108,113]}
theorem Zpe:Zks.bA yb 10 0:=Zv ZQs [] [KE,KB] ⟨ZeY,ZeV,au⟩
def Zi3(F:Nat)(s0:ZE):yO ((Bool×ZE)):=
 ab (!s0.2,s0)
def Zpf(F:Nat):Fs yb:=⟨45,[.ak 0 []],[.var (.v Zl) af],[Zl],[⟨.ret,[(0,.v .bool)],[.var (.v Zl) af],[.bool,Zl]⟩],λx=>Zi3 F x⟩
def Zhw:Fs yb:=Zpf yD
theorem Zpg:Zhw.Ok:=aR { still:=[2]} [] [] trivial
def Zf5(F:Nat)(s0:ZE):yO ((Int×ZE)):=
 ab ((s0.1.length:Int),s0)
def ZlN(F:Nat):Fs yb:=⟨46,[.ak 0 []],[.var (.v Zl) af],[Zl],[⟨.ret,[(0,.v yI)],[.var (.v Zl) af],[yI,Zl]⟩],λx=>Zf5 F x⟩
def ZeZ:Fs yb:=ZlN yD
theorem ZlO:ZeZ.Ok:=aR { still:=[2]} [] [] trivial
def ZAQ(F:Nat)(a0:aOz)(a1:aOz):yO ((ZD×Bool)):=
 (Zvz F a0 a1).bind λa=>
 (ZvA F a.1).bind λb=>
 (ZR F b).bind λc=>
 (ZR F c.2).bind λd=>
 (ZR F d.2).bind λe=>
 (KD F e.2).bind λf=>
 (ZR F f.2).bind λg=>
 (ZR F g.2).bind λh=>
 (ZR F h.2).bind λi=>
 (Zc (Zi2 F) F (a.2,0,a0,(((dz,0),0,[(0,0,0,0,0),(0,0,0,0,0)],[(0,0,0,0,0,0),(0,0,0,0,0,0)],0),(0,0,0,0,0,dz),0,0,0),i.2,(((f.1,g.1),h.1,[(0,0,0,0,0),(0,0,0,0,0)],[(0,0,0,0,0,0),(0,0,0,0,0,0)],i.1),(0,0,0,0,0,dz),c.1,d.1,e.1))).bind λj=>
 (Yd F j.2.2.2.1).bind λk=>
 (Yd F k.2).bind λl=>
 (Yd F l.2).bind λm=>
 (Yd F m.2).bind λn=>
 (Yd F n.2).bind λo=>
 (KD F o.2).bind λp=>
 if(!j.1)=af then
  ab ((((dz,0),0,[(0,0,0,0,0),(0,0,0,0,0)],[(0,0,0,0,0,0),(0,0,0,0,0,0)],0),(0,0,0,0,0,dz),0,0,0),ag)
 else
 (Zi3 F p.2).bind λq=>
 if(!q.1)=af then
  ab ((((dz,0),0,[(0,0,0,0,0),(0,0,0,0,0)],[(0,0,0,0,0,0),(0,0,0,0,0,0)],0),(0,0,0,0,0,dz),0,0,0),ag)
 else
 (Zf5 F q.2).bind λr=>
 if(ah (r.1 > 0))=af then
  ab ((((dz,0),0,[(0,0,0,0,0),(0,0,0,0,0)],[(0,0,0,0,0,0),(0,0,0,0,0,0)],0),(0,0,0,0,0,dz),0,0,0),ag)
 else
 (Ww F (j.2.2.2.2.1,(k.1,l.1,m.1,n.1,o.1,p.1),j.2.2.2.2.2.2.1,j.2.2.2.2.2.2.2.1,j.2.2.2.2.2.2.2.2)).bind λs=>
 if(!s)=af then
  ab ((((dz,0),0,[(0,0,0,0,0),(0,0,0,0,0)],[(0,0,0,0,0,0),(0,0,0,0,0,0)],0),(0,0,0,0,0,dz),0,0,0),ag)
 else
 ab ((j.2.2.2.2.1,(k.1,l.1,m.1,n.1,o.1,p.1),j.2.2.2.2.2.2.1,j.2.2.2.2.2.2.2.1,j.2.2.2.2.2.2.2.2),af)
def KF(F:Nat):Fs yb:=⟨10,[.v aOB,.v aOA],[],[aOB,aOA],[⟨.ret,[(0,.bj [.v Zp,.v .bool])],[],[Zp,.bool]⟩],λx=>ZAQ F x.1 x.2⟩
def Zxg:Fs yb:=KF yD
theorem ZvB:Zxg.Ok:=aR ZQs [(0,Zks)] [Zr6,Zr7,KB,ZeW,KE,Zhw,ZeZ,VP] ⟨ZAN,ZAP,ZeV,ZlM,ZeY,Zpg,ZlO,QL,au⟩ ⟨Zpe,au⟩
def wC(F:Nat)(a0:yU):yO (Bool):=
 (Wn F a0).bind λa=>
 if a=af then
  ab (a0 !=0)
 else
 ab ag
def ZDo(F:Nat):Fs yb:=⟨111,[.v .u64],[],[.u64],(zN .bool),λx=>wC F x⟩
def ZvC:Fs yb:=ZDo yD
theorem ZDp:ZvC.Ok:=aR { still:=[2,3]} [] [QB] ⟨vG,au⟩
def wD(F:Nat)(s:(yU×aOM×Int×Int)):yO ((yU×aOM×Int×Int)⊕yU):=
 if(ah (s.2.2.2 < s.2.2.1))=af then
  (idx s.2.1 s.2.2.2).bind λa=>
  (V9 F a).bind λb=>
  (Yn F s.1 b).bind λc=>
  ab (.inl (c,s.2.1,s.2.2.1,wi (s.2.2.2+1)))
 else
 ab (.inr s.1)
def Zph:Lp:=⟨[(3,.v .u64),(6,.v aOH),(7,.v yI),(8,.v yI)],[],[.u64,aOH,yI,yI],[⟨.exit 0,[(3,.v .u64)],[],[.u64]⟩],Zc (wD yD) yD⟩
theorem ZsS:Zph.bA yb 221 0:=Zv { still:=[2,12,13,14]} [] [vX,HY] ⟨IR,Zj8,au⟩
def sE(F:Nat)(a0:aOM):yO (yU):=
 (Zc (wD F) F (1,a0,(a0.length:Int),0)).bind λa=>
 ab a
def ZAR(F:Nat):Fs yb:=⟨221,[.v aOH],[],[aOH],(zN .u64),λx=>sE F x⟩
def KG:Fs yb:=ZAR yD
theorem Zpi:KG.Ok:=aR { still:=[2,12,13,14]} [(0,Zph)] [] trivial ⟨ZsS,au⟩
def oZ(F:Nat)(a0:yU)(a1:yU):yO (yU):=
 (sE F [a0,a1]).bind λa=>
 ab a
def ZAS(F:Nat):Fs yb:=⟨181,[.v .u64,.v .u64],[],[.u64,.u64],(zN .u64),λx=>oZ F x.1 x.2⟩
def wE:Fs yb:=ZAS yD
theorem KH:wE.Ok:=aR { still:=[4,7]} [] [KG] ⟨Zpi,au⟩
def nx(F:Nat)(a0:yU):yO (yU):=
 ab (a0 % 2305843009213688669)
def ZDq(F:Nat):Fs yb:=⟨230,[.v .u64],[],[.u64],(zN .u64),λx=>nx F x⟩
def KI:Fs yb:=ZDq yD
theorem Zr8:KI.Ok:=aR { still:=[2]} [] [] trivial
def KJ(F:Nat)(a0:yU)(a1:yU):yO (yU):=
 ab ((a0+a1) % 2305843009213688669)
def Zpj(F:Nat):Fs yb:=⟨231,[.v .u64,.v .u64],[],[.u64,.u64],(zN .u64),λx=>KJ F x.1 x.2⟩
def Zhx:Fs yb:=Zpj yD
theorem Zpk:Zhx.Ok:=aR { still:=[4]} [] [] trivial
def wF(F:Nat)(a0:yU)(a1:yU):yO (yU):=
 (nx F a0).bind λa=>
 (nx F a1).bind λb=>
 (KJ F a b).bind λc=>
 ab c
def ZAT(F:Nat):Fs yb:=⟨182,[.v .u64,.v .u64],[],[.u64,.u64],(zN .u64),λx=>wF F x.1 x.2⟩
def Zr9:Fs yb:=ZAT yD
theorem ZAU:Zr9.Ok:=aR { still:=[4,5,6,7,8]} [] [KI,Zhx] ⟨Zr8,Zpk,au⟩
def KK(F:Nat)(a0:yU)(a1:yU):yO (yU):=
 (sr F a0 a1).bind λa=>
 (XO F a.1 a.2 2305843009213688669).bind λb=>
 ab b
def Zns(F:Nat):Fs yb:=⟨232,[.v .u64,.v .u64],[],[.u64,.u64],(zN .u64),λx=>KK F x.1 x.2⟩
def Zf7:Fs yb:=Zns yD
theorem Znt:Zf7.Ok:=aR { still:=[4,8,9,13,14]} [] [HX,vL] ⟨Zmb,HV,au⟩
def wG(F:Nat)(a0:yU)(a1:yU):yO (yU):=
 (nx F a0).bind λa=>
 (nx F a1).bind λb=>
 (KK F a b).bind λc=>
 ab c
def ZAV(F:Nat):Fs yb:=⟨183,[.v .u64,.v .u64],[],[.u64,.u64],(zN .u64),λx=>wG F x.1 x.2⟩
def Zsa:Fs yb:=ZAV yD
theorem ZAW:Zsa.Ok:=aR { still:=[4,5,6,7,8]} [] [KI,Zf7] ⟨Zr8,Znt,au⟩
def Y3(F:Nat)(s:(yU×aOz×Int×aOz)):yO ((yU×aOz×Int×aOz)⊕(yU×aOz)):=
 if(ah (s.2.2.1 < 32))=af then
  (idx s.2.1 s.2.2.1).bind λa=>
  (XO F (ZG s.1 56) ((Vv s.1 8)|||(yaf a.toNat)) 2305843009213688668).bind λb=>
  ab (.inl (b,s.2.1,wi (s.2.2.1+1),s.2.2.2))
 else
 ab (.inr (s.1,s.2.2.2))
def Zmi:Lp:=⟨[(3,.v .u64),(6,.v aOB),(7,.v yI)],[.var (.v aOB) af],[.u64,aOB,yI,aOB],[⟨.exit 0,[(3,.v .u64)],[.var (.v aOB) af],[.u64,aOB]⟩],Zc (Y3 yD) yD⟩
theorem ZqJ:Zmi.bA yb 113 0:=Zv { still:=[2,11,16]} [] [vL] ⟨HV,au⟩
def XR(F:Nat)(a0:aOz):yO (yU):=
 (Zc (Y3 F) F (0,a0,0,a0)).bind λa=>
 ab (a.1+1)
def Zxh(F:Nat):Fs yb:=⟨113,[.v aOB],[],[aOB],(zN .u64),λx=>XR F x⟩
def Qc:Fs yb:=Zxh yD
theorem QD:Qc.Ok:=aR { still:=[2,11,16]} [(0,Zmi)] [] trivial ⟨ZqJ,au⟩
def Y4(F:Nat)(s:(yU×Int×Int×aOz)):yO ((yU×Int×Int×aOz)⊕aOz):=
 if(ah (s.2.2.1 < s.2.1))=af then
  if(ah (0<=wi (56 - (wi (8*s.2.2.1)))))=af then
   let a:yU:=ZG s.1 (min (wi (56 - (wi (8*s.2.2.1)))).toNat 64)
   if(ba s.2.2.1 8)=af then
    (s.2.2.2[(0+s.2.2.1.toNat)]?).bind λb=>
    let c:aOz:=s.2.2.2.set (0+s.2.2.1.toNat) (w8 (a.toNat:Int))
    ab (.inl (s.1,s.2.1,wi (s.2.2.1+1),c))
   else
   ae
  else
  ae
 else
 ab (.inr s.2.2.2)
def Zmj:Lp:=⟨[(0,.v .u64),(3,.view 0 [] 1 0 8),(7,.v yI),(8,.v yI)],[.var (.v aOW) af],[.u64,yI,yI,aOW],[⟨.exit 0,[(3,.view 0 [] 1 0 8)],[.var (.v aOW) af],[aOW]⟩],Zc (Y4 yD) yD⟩
theorem ZqK:Zmj.bA yb 115 0:=Zv { still:=[2]} [] [] trivial
def WQ(F:Nat)(a0:yU):yO (aOz):=
 (Zc (Y4 F) F (a0,8,0,[0,0,0,0,0,0,0,0])).bind λa=>
 ab ((a.drop 0).take 8)
def Zxi(F:Nat):Fs yb:=⟨115,[.v .u64],[],[.u64],(zN aOA),λx=>WQ F x⟩
def KL:Fs yb:=Zxi yD
theorem Zmk:KL.Ok:=aR { still:=[2]} [(0,Zmj)] [] trivial ⟨ZqK,au⟩
def KM:ByteArray:=⟨#[115,105,103]⟩
def XG(F:Nat)(a0:yU)(a1:yU)(a2:aOz):yO (yU):=
 (WQ F a0).bind λa=>
 (WQ F a1).bind λb=>
 (Xk F KM [a,b,a2]).bind λc=>
 (XR F c).bind λd=>
 ab d
def Zpl(F:Nat):Fs yb:=⟨184,[.v .u64,.v .u64,.v aOB],[],[.u64,.u64,aOB],(zN .u64),λx=>XG F x.1 x.2.1 x.2.2⟩
def KN:Fs yb:=Zpl yD
def ZRa:HI:={ still:=[6,7,9,12,13],cW:=[11]}
theorem Zf8:KN.Ok:=aR ZRa [] [KL,X3,Qc] ⟨Zmk,XQ,QD,au⟩
abbrev Wr:Ty:=(.st [.u64,.u64])
abbrev cQ:Type:=(yU×yU)
def KP(F:Nat)(a0:yU)(a1:yU)(a2:aOz)(a3:yU):yO (cQ):=
 (YG F a1).bind λa=>
 (oZ F a a3).bind λb=>
 (YG F a0).bind λc=>
 (XG F b c a2).bind λd=>
 (wG F d a0).bind λe=>
 (wF F a1 e).bind λf=>
 ab (b,f)
def ZvD(F:Nat):Fs yb:=⟨112,[.v .u64,.v .u64,.v aOB,.v .u64],[],[.u64,.u64,aOB,.u64],(zN Wr),λx=>KP F x.1 x.2.1 x.2.2.1 x.2.2.2⟩
def Zml:Fs yb:=ZvD yD
def ZRb:HI:={ still:=[9,10,11,14,16,17,18,19,20,21,22]}
theorem ZvE:Zml.Ok:=aR ZRb [] [W0,wE,KN,Zsa,Zr9] ⟨Wv,KH,Zf8,ZAW,ZAU,au⟩
def ZN4:ByteArray:=⟨#[110,111,110,99,101]⟩
def Wy(F:Nat)(a0:yU)(a1:aOz):yO (cQ):=
 (wC F a0).bind λa=>
 if(!a)=af then
  ab (0,0)
 else
 (WQ F a0).bind λb=>
 (Xk F ZN4 [b,a1]).bind λc=>
 (XR F c).bind λd=>
 (KP F a0 d a1 1).bind λe=>
 ab e
def KQ(F:Nat):Fs yb:=⟨52,[.v .u64,.v aOB],[],[.u64,aOB],(zN Wr),λx=>Wy F x.1 x.2⟩
def sF:Fs yb:=KQ yD
def ZRc:HI:={ still:=[5,9,10,13,14,15,16],cW:=[12]}
theorem sG:sF.Ok:=aR ZRc [] [ZvC,KL,X3,Qc,Zml] ⟨ZDp,Zmk,XQ,QD,ZvE,au⟩
def ZQt:ByteArray:=⟨#[97,115,107]⟩
def YL(F:Nat)(a0:Chan)(a1:Int):yO (aOz):=
 (Wx F [] a0.1.1).bind λa=>
 (Y7 F a a0.1.2).bind λb=>
 (Y7 F b a1).bind λc=>
 (Xk F ZQt [c]).bind λd=>
 ab d
def KR(F:Nat):Fs yb:=⟨53,[.v Yc,.v yI],[],[Yc,yI],(zN aOB),λx=>YL F x.1 x.2⟩
def KS:Fs yb:=KR yD
theorem KT:KS.Ok:=aR { still:=[7,8,11,12,13,15]} [] [wy,W3,X3] ⟨QM,Wq,XQ,au⟩
abbrev Xb:Ty:=(.st [yI,yI,yI,.u64,yI])
abbrev Cond:Type:=(Int×Int×Int×yU×Int)
abbrev VX:Ty:=(.st [yI,(.sl Wr),.u64])
abbrev jQ:Type:=(Int×(yL cQ)×yU)
abbrev bG:Ty:=(.st [Zd,VX])
abbrev In:Type:=(Zo×jQ)
abbrev Zg:Ty:=(.st [aOH,yI,yI,.u64])
abbrev Zx:Type:=(aOM×Int×Int×yU)
abbrev _root_.aOG:Go.Ev.Ty:=.sl Zg
abbrev Z1:Ty:=(.st [aOG])
abbrev _root_.aOI:=yL Zx
abbrev Y9:Type:=aOI
abbrev Zy:Ty:=(.st [yI,Z1])
abbrev Out:Type:=(Int×Y9)
abbrev _root_.aOE:Go.Ev.Ty:=.sl Zy
abbrev _root_.aOF:Go.Ev.Ty:=.sl bG
abbrev aS:Ty:=(.st [aOF,aOE,yI])
abbrev _root_.aOJ:=yL Out
abbrev _root_.aOK:=yL In
abbrev Tx:Type:=(aOK×aOJ×Int)
abbrev iG:Ty:=(.st [yI,yI,yI,Xb,.u64,aOA,yI,Wr,aOB,.u64,aS,nr,iF,aOA])
abbrev go:Type:=(Int×Int×Int×Cond×yU×aOz×Int×cQ×aOz×yU×Tx×bt×bu×aOz)
abbrev go.Cond(x:go):Cond:=x.2.2.2.1
abbrev go.bt(x:go):bt:=x.2.2.2.2.2.2.2.2.2.2.2.1
abbrev go.bu(x:go):bu:=x.2.2.2.2.2.2.2.2.2.2.2.2.1
def wH(F:Nat)(a0:ZD):yO (go):=
 (Ww F a0).bind λa=>
 if(!a)=af then
  ab (0,0,0,(0,0,0,0,0),0,[],0,(0,0),dz,0,([],[],0),(0,0,0,0,0),(0,0,0,0,0,0),[])
 else
 (YL F a0.1 a0.2.2.1).bind λb=>
 (Wy F a0.2.1.1 b).bind λc=>
 ab (12,a0.1.1.2,a0.2.2.1,(0,0,0,0,0),0,[],0,c,a0.1.1.1,0,([],[],0),(0,0,0,0,0),(0,0,0,0,0,0),[])
def KU(F:Nat):Fs yb:=⟨12,[.v Zp],[],[Zp],(zN iG),λx=>wH F x⟩
def Zpm:Fs yb:=KU yD
def ZRd:HI:={ still:=[3,19,21,23,24],ff:=[(2,[([10,0],bG,131),([10,1],Zy,83)])]}
theorem Zmm:Zpm.Ok:=aR ZRd [] [VP,KS,sF] ⟨QL,KT,sG,au⟩
def Vm(F:Nat)(a0:yU):yO (Bool):=
 (YA F a0).bind λa=>
 ab (!a)
def ZsT(F:Nat):Fs yb:=⟨120,[.v .u64],[],[.u64],(zN .bool),λx=>Vm F x⟩
def KV:Fs yb:=ZsT yD
theorem Zi4:KV.Ok:=aR { still:=[2,3]} [] [XP] ⟨Xt,au⟩
def W4(F:Nat)(a0:Int):yO (Bool):=
 if(ah (a0 >= 0))=af then
  ab (ah (a0<=1048576))
 else
 ab ag
def ZvF(F:Nat):Fs yb:=⟨123,[.v yI],[],[yI],(zN .bool),λx=>W4 F x⟩
def Zmn:Fs yb:=ZvF yD
theorem ZvG:Zmn.Ok:=aR { still:=[2]} [] [] trivial
def Yw(F:Nat)(s:(aOM×Int×Int)):yO ((aOM×Int×Int)⊕(Int⊕Unit)):=
 if(ah (s.2.2 < s.2.1))=af then
  (idx s.1 s.2.2).bind λa=>
  (Vm F a).bind λb=>
  if b=af then
   ab (.inr (.inl s.2.2))
  else
  ab (.inl (s.1,s.2.1,wi (s.2.2+1)))
 else
 ab (.inr (.inr ()))
def Zdn:Lp:=⟨[(0,.v aOH),(1,.fn 120 []),(7,.v yI),(8,.v yI)],[],[aOH,yI,yI],[⟨.ret,[(4,.v yI)],[],[yI]⟩,⟨.exit 0,[],[],[]⟩],Zc (Yw yD) yD⟩
theorem Zit:Zdn.bA yb 192 0:=Zv { still:=[4,15]} [] [KV] ⟨Zi4,au⟩
def Vz(F:Nat)(a0:aOM):yO (Int):=
 (Zc (Yw F) F (a0,(a0.length:Int),0)).bind λa=>
 match a with
 |.inl b=>
  ab b
 |.inr c=>
  ab (-1)
def ZlP(F:Nat):Fs yb:=⟨192,[.v aOH,.fn 120 []],[],[aOH],(zN yI),λx=>Vz F x⟩
def Ze3:Fs yb:=ZlP yD
theorem ZlQ:Ze3.Ok:=aR { still:=[4,15]} [(0,Zdn)] [] trivial ⟨Zit,au⟩
def Vn(F:Nat)(a0:aOM):yO (Bool):=
 (Vz F a0).bind λa=>
 ab (ah (a >= 0))
def ZsU(F:Nat):Fs yb:=⟨122,[.v aOH,.fn 120 []],[],[aOH],(zN .bool),λx=>Vn F x⟩
def Zku:Fs yb:=ZsU yD
theorem ZsV:Zku.Ok:=aR { still:=[4,5,6]} [] [Ze3] ⟨ZlQ,au⟩
def X4(F:Nat)(s:(aOI×Int×Int×Y9)):yO ((aOI×Int×Int×Y9)⊕((Bool×Y9)⊕Y9)):=
 if(ah (s.2.2.1 < s.2.1))=af then
  (idx s.1 s.2.2.1).bind λa=>
  if(ah ((a.1.length:Int) > 12))=af then
   ab (.inr (.inl (ag,s.2.2.2)))
  else
  (Vn F a.1).bind λb=>
  if b=af then
   ab (.inr (.inl (ag,s.2.2.2)))
  else
  (W4 F a.2.1).bind λc=>
  if(!c)=af then
   ab (.inr (.inl (ag,s.2.2.2)))
  else
  (W4 F a.2.2.1).bind λd=>
  if(!d)=af then
   ab (.inr (.inl (ag,s.2.2.2)))
  else
  if(a.2.2.2 !=0)=af then
   (Vm F a.2.2.2).bind λe=>
   if e=af then
    ab (.inr (.inl (ag,s.2.2.2)))
   else
   ab (.inl (s.1,s.2.1,wi (s.2.2.1+1),s.2.2.2))
  else
  ab (.inl (s.1,s.2.1,wi (s.2.2.1+1),s.2.2.2))
 else
 ab (.inr (.inr s.2.2.2))
def Zmo:Lp:=⟨[(1,.ak 0 []),(3,.fn 120 []),(7,.v aOG),(8,.v yI),(9,.v yI)],[.var (.v Z1) af],[aOG,yI,yI,Z1],[⟨.ret,[(2,.v .bool)],[.var (.v Z1) af],[.bool,Z1]⟩,⟨.exit 0,[(1,.ak 0 [])],[.var (.v Z1) af],[Z1]⟩],Zc (X4 yD) yD⟩
theorem ZqM:Zmo.bA yb 56 0:=Zv { still:=[2,19,20,25,31,42]} [] [Zku,Zmn,KV] ⟨ZsV,ZvG,Zi4,au⟩
def Xc(F:Nat)(a0:Y9):yO (Bool):=
 (Zc (X4 F) F (a0,(a0.length:Int),0,a0)).bind λa=>
 match a with
 |.inl b=>
  ab b.1
 |.inr c=>
  if(ah ((c.length:Int) > 0))=af then
   ab (ah ((c.length:Int)<=4))
  else
  ab ag
def KW(F:Nat):Fs yb:=⟨56,[.v Z1],[],[Z1],(zN .bool),λx=>Xc F x⟩
def W5:Fs yb:=KW yD
theorem Wz:W5.Ok:=aR { still:=[2,19,20,25,31,42]} [(0,Zmo)] [] trivial ⟨ZqM,au⟩
def pb(F:Nat)(a0:jQ):yO (Bool):=
 if(ah (a0.1 >= 0))=af then
  if(ah (a0.1 < 4))=af then
   ab (ah ((a0.2.1.length:Int)<=12))
  else
  ab ag
 else
 ab ag
def Zxj(F:Nat):Fs yb:=⟨125,[.v VX],[],[VX],(zN .bool),λx=>pb F x⟩
def KX:Fs yb:=Zxj yD
theorem Zmp:KX.Ok:=aR { still:=[2]} [] [] trivial
def Qd(F:Nat)(s:(aOK×Int×Int×Tx×(yL (Zo×Bool)))):yO ((aOK×Int×Int×Tx×(yL (Zo×Bool)))⊕((Bool×Tx×(yL (Zo×Bool)))⊕(Tx×(yL (Zo×Bool))))):=
 if(ah (s.2.2.1 < s.2.1))=af then
  (idx s.1 s.2.2.1).bind λa=>
  kE (fU s.2.2.2.2 a.1) (λb=>
   if b=af then
    ab (.inr (.inl (ag,s.2.2.2.1,s.2.2.2.2)))
   else
   if(ah (a.1.2 < 0))=af then
    ab (.inr (.inl (ag,s.2.2.2.1,s.2.2.2.2)))
   else
   if(ah (a.1.2 >= 64))=af then
    ab (.inr (.inl (ag,s.2.2.2.1,s.2.2.2.2)))
   else
   (pb F a.2).bind λc=>
   if(!c)=af then
    ab (.inr (.inl (ag,s.2.2.2.1,s.2.2.2.2)))
   else
   ab (.inl (s.1,s.2.1,wi (s.2.2.1+1),s.2.2.2.1,gv s.2.2.2.2 a.1 af))) (
   if(ah (a.1.2 < 0))=af then
    ab (.inr (.inl (ag,s.2.2.2.1,s.2.2.2.2)))
   else
   if(ah (a.1.2 >= 64))=af then
    ab (.inr (.inl (ag,s.2.2.2.1,s.2.2.2.2)))
   else
   (pb F a.2).bind λd=>
   if(!d)=af then
    ab (.inr (.inl (ag,s.2.2.2.1,s.2.2.2.2)))
   else
   ab (.inl (s.1,s.2.1,wi (s.2.2.1+1),s.2.2.2.1,gv s.2.2.2.2 a.1 af)))
 else
 ab (.inr (.inr (s.2.2.2.1,s.2.2.2.2)))
def Zsb:Lp:=⟨[(1,.ak 0 []),(3,.mp 1),(33,.v aOF),(34,.v yI),(35,.v yI)],[.var (.v aS) af,.map 228 Zd .bool],[aOF,yI,yI,aS,(QX Zd .bool)],[⟨.ret,[(2,.v .bool)],[.var (.v aS) af,.map 228 Zd .bool],[.bool,aS,(QX Zd .bool)]⟩,⟨.exit 0,[(1,.ak 0 [])],[.var (.v aS) af,.map 228 Zd .bool],[aS,(QX Zd .bool)]⟩],Zc (Qd yD) yD⟩
theorem ZvH:Zsb.bA yb 68 0:=Zv { still:=[2,57,73,75,83]} [] [KX] ⟨Zmp,au⟩
def Qe(F:Nat)(s:(Int×aOJ×Int×Int×Tx×(yL (Zo×Bool)))):yO ((Int×aOJ×Int×Int×Tx×(yL (Zo×Bool)))⊕((Bool×Tx×(yL (Zo×Bool)))⊕(Tx×(yL (Zo×Bool))))):=
 if(ah (s.2.2.2.1 < s.2.2.1))=af then
  (idx s.2.1 s.2.2.2.1).bind λa=>
  (nu F s.1 a.1).bind λb=>
  if(!b.2)=af then
   ab (.inr (.inl (ag,s.2.2.2.2.1,s.2.2.2.2.2)))
  else
  (Xc F a.2).bind λc=>
  if(!c)=af then
   ab (.inr (.inl (ag,s.2.2.2.2.1,s.2.2.2.2.2)))
  else
  ab (.inl (b.1,s.2.1,s.2.2.1,wi (s.2.2.2.1+1),s.2.2.2.2.1,s.2.2.2.2.2))
 else
 ab (.inr (.inr (s.2.2.2.2.1,s.2.2.2.2.2)))
def Zsc:Lp:=⟨[(6,.v yI),(66,.v aOE),(67,.v yI),(68,.v yI)],[.var (.v aS) af,.map 228 Zd .bool],[yI,aOE,yI,yI,aS,(QX Zd .bool)],[⟨.ret,[(2,.v .bool)],[.var (.v aS) af,.map 228 Zd .bool],[.bool,aS,(QX Zd .bool)]⟩,⟨.exit 2,[],[.var (.v aS) af,.map 228 Zd .bool],[aS,(QX Zd .bool)]⟩],Zc (Qe yD) yD⟩
theorem ZvI:Zsc.bA yb 68 1:=Zv { still:=[2,57,73,75,83]} [] [IN,W5] ⟨Zvj,Wz,au⟩
def Vo(F:Nat)(a0:Tx):yO (Bool):=
 if(ah ((a0.1.length:Int) < 1))=af then
  ab ag
 else
 if(ah ((a0.1.length:Int) > 64))=af then
  ab ag
 else
 if(ah ((a0.2.1.length:Int) > 64))=af then
  ab ag
 else
 if(ah (a0.2.2 < 0))=af then
  ab ag
 else
 (Zc (Qd F) F (a0.1,(a0.1.length:Int),0,a0,([]:yL (Zo×Bool)))).bind λa=>
 match a with
 |.inl b=>
  ab b.1
 |.inr c=>
  (Zc (Qe F) F (0,c.1.2.1,(c.1.2.1.length:Int),0,c.1,c.2)).bind λd=>
  match d with
  |.inl e=>
   ab e.1
  |.inr f=>
   ab af
def ZDr(F:Nat):Fs yb:=⟨68,[.v aS],[],[aS],(zN .bool),λx=>Vo F x⟩
def Q2:Fs yb:=ZDr yD
theorem pc:Q2.Ok:=aR { still:=[2,57,73,75,83]} [(0,Zsb),(1,Zsc)] [] trivial ⟨ZvH,ZvI,au⟩
abbrev _root_.aOS:=yL Zo
def Zmq(F:Nat)(s:(aOK×Int×Int×Tx×aOS)):yO ((aOK×Int×Int×Tx×aOS)⊕(Tx×aOS)):=
 if(ah (s.2.2.1 < s.2.1))=af then
  (idx s.1 s.2.2.1).bind λa=>
  if(cO s.2.2.2.2.length 1 40)=af then
   ab (.inl (s.1,s.2.1,wi (s.2.2.1+1),s.2.2.2.1,s.2.2.2.2++([a.1]:yL Zo)))
  else
  ae
 else
 ab (.inr (s.2.2.2.1,s.2.2.2.2))
abbrev _root_.aOQ:Go.Ev.Ty:=.sl Zd
def Zpn:Lp:=⟨[(2,.own 1 Zd),(9,.v aOF),(10,.v yI),(11,.v yI)],[.var (.v aS) af,.log Zd 25],[aOF,yI,yI,aS,aOQ],[⟨.exit 0,[(2,.own 1 Zd)],[.var (.v aS) af,.log Zd 25],[aS,aOQ]⟩],Zc (Zmq yD) yD⟩
def ZQu:HI:={ own:=[2,15,19,21],still:=[2,5]}
theorem ZsW:Zpn.bA yb 23 0:=Zv ZQu [] [] trivial
def KY(F:Nat)(a0:Tx):yO (aOS):=
 (Vo F a0).bind λa=>
 if(!a)=af then
  ab []
 else
 (Zc (Zmq F) F (a0.1,(a0.1.length:Int),0,a0,[])).bind λb=>
 ab b.2
def ZAX(F:Nat):Fs yb:=⟨23,[.v aS],[],[aS],(zN aOQ),λx=>KY F x⟩
def KZ:Fs yb:=ZAX yD
theorem Zpo:KZ.Ok:=aR ZQu [(0,Zpn)] [Q2] ⟨pc,au⟩ ⟨ZsW,au⟩
def Zhy(F:Nat)(s:(aOM×aOM×Int×Int)):yO ((aOM×aOM×Int×Int)⊕(Bool⊕Unit)):=
 if(ah (s.2.2.2 < s.2.2.1))=af then
  (idx s.1 s.2.2.2).bind λa=>
  (idx s.2.1 s.2.2.2).bind λb=>
  if(a !=b)=af then
   ab (.inr (.inl ag))
  else
  ab (.inl (s.1,s.2.1,s.2.2.1,wi (s.2.2.2+1)))
 else
 ab (.inr (.inr ()))
def Zi5:Lp:=⟨[(0,.v aOH),(1,.v aOH),(12,.v yI),(13,.v yI)],[],[aOH,aOH,yI,yI],[⟨.ret,[(4,.v .bool)],[],[.bool]⟩,⟨.exit 0,[],[],[]⟩],Zc (Zhy yD) yD⟩
theorem Znv:Zi5.bA yb 78 0:=Zv { still:=[4]} [] [] trivial
def Zmr(F:Nat)(a0:aOM)(a1:aOM):yO (Bool):=
 if((a0.length:Int)!=(a1.length:Int))=af then
  ab ag
 else
 (Zc (Zhy F) F (a0,a1,(a0.length:Int),0)).bind λa=>
 match a with
 |.inl b=>
  ab b
 |.inr c=>
  ab af
def ZsX(F:Nat):Fs yb:=⟨78,[.v aOH,.v aOH],[],[aOH,aOH],(zN .bool),λx=>Zmr F x.1 x.2⟩
def Zkw:Fs yb:=ZsX yD
theorem ZsY:Zkw.Ok:=aR { still:=[4]} [(0,Zi5)] [] trivial ⟨Znv,au⟩
def Zpp(F:Nat)(a0:Zx)(a1:Zx):yO (Bool):=
 (Zmr F a0.1 a1.1).bind λa=>
 if a=af then
  if(a0.2.1==a1.2.1)=af then
   if(a0.2.2.1==a1.2.2.1)=af then
    ab (a0.2.2.2==a1.2.2.2)
   else
   ab ag
  else
  ab ag
 else
 ab ag
def ZvJ(F:Nat):Fs yb:=⟨77,[.v Zg,.v Zg],[],[Zg,Zg],(zN .bool),λx=>Zpp F x.1 x.2⟩
def Zms:Fs yb:=ZvJ yD
theorem ZvK:Zms.Ok:=aR { still:=[4,6,8]} [] [Zkw] ⟨ZsY,au⟩
def Zkx(F:Nat)(s:(aOI×aOI×Int×Int)):yO ((aOI×aOI×Int×Int)⊕(Bool⊕Unit)):=
 if(ah (s.2.2.2 < s.2.2.1))=af then
  (idx s.2.1 s.2.2.2).bind λa=>
  (idx s.1 s.2.2.2).bind λb=>
  (Zpp F a b).bind λc=>
  if(!c)=af then
   ab (.inr (.inl ag))
  else
  ab (.inl (s.1,s.2.1,s.2.2.1,wi (s.2.2.2+1)))
 else
 ab (.inr (.inr ()))
def Zmt:Lp:=⟨[(1,.v aOG),(2,.fn 77 []),(15,.v aOG),(16,.v yI),(17,.v yI)],[],[aOG,aOG,yI,yI],[⟨.ret,[(6,.v .bool)],[],[.bool]⟩,⟨.exit 0,[],[],[]⟩],Zc (Zkx yD) yD⟩
theorem ZqN:Zmt.bA yb 76 0:=Zv { still:=[6,27,28]} [] [Zms] ⟨ZvK,au⟩
def Zsd(F:Nat)(a0:aOI)(a1:aOI):yO (Bool):=
 if((a0.length:Int)!=(a1.length:Int))=af then
  ab ag
 else
 (Zc (Zkx F) F (a1,a0,(a0.length:Int),0)).bind λa=>
 match a with
 |.inl b=>
  ab b
 |.inr c=>
  ab af
def Zxk(F:Nat):Fs yb:=⟨76,[.v aOG,.v aOG,.fn 77 []],[],[aOG,aOG],(zN .bool),λx=>Zsd F x.1 x.2⟩
def Zpq:Fs yb:=Zxk yD
theorem Zxl:Zpq.Ok:=aR { still:=[6,27,28]} [(0,Zmt)] [] trivial ⟨ZqN,au⟩
def ZvL(F:Nat)(a0:Y9)(a1:Y9):yO (Bool):=
 (Zsd F a0 a1).bind λa=>
 ab a
def ZAY(F:Nat):Fs yb:=⟨26,[.v Z1,.v Z1],[],[Z1,Z1],(zN .bool),λx=>ZvL F x.1 x.2⟩
def Zse:Fs yb:=ZAY yD
theorem ZAZ:Zse.Ok:=aR { still:=[4,6,8]} [] [Zpq] ⟨Zxl,au⟩
def ZN(F:Nat)(a0:aOM):yO (aOM):=
 if(cO 0 a0.length 8)=af then
  ab a0
 else
 ae
def ZqO(F:Nat):Fs yb:=⟨169,[.sl af .u64],[],[aOH],(zN aOH),λx=>ZN F x⟩
def ZsZ:Fs yb:=ZqO yD
theorem ZqP:ZsZ.Ok:=aR { own:=[5,7],still:=[2]} [] [] trivial
def Zga(F:Nat):yO (aOM):=
 ab []
def ZlR(F:Nat):Fs yb:=⟨169,[.nil .u64],[],[],(zN aOH),λx=>Zga F⟩
def Znw:Fs yb:=ZlR yD
theorem ZlS:Znw.Ok:=aR { own:=[5,7],still:=[2]} [] [] trivial
def Znx(F:Nat):Fs yb:=⟨169,[.v aOH],[],[aOH],(zN aOH),λx=>ZN F x⟩
def ZS:Fs yb:=Znx yD
theorem ZW:ZS.Ok:=ni (t:=.u64) (xs:=(zN aOH)) (MA:=λ(x:aOM)=>ZN yD x) (MB:=λ_=>Zga yD) ZqP ZlS rfl
def wI(F:Nat)(a0:aOM):yO (Y9):=
 (ZN F a0).bind λa=>
 ab [(a,0,0,0)]
def ZDs(F:Nat):Fs yb:=⟨87,[.v aOH],[],[aOH],(zN Z1),λx=>wI F x⟩
def LA:Fs yb:=ZDs yD
theorem Zsf:LA.Ok:=aR { still:=[3]} [] [ZS] ⟨ZW,au⟩
def pd(F:Nat)(a0:yU):yO (Y9):=
 (wI F [a0]).bind λa=>
 ab a
def LB(F:Nat):Fs yb:=⟨31,[.v .u64],[],[.u64],(zN Z1),λx=>pd F x⟩
def LC:Fs yb:=LB yD
theorem LD:LC.Ok:=aR { still:=[4]} [] [LA] ⟨Zsf,au⟩
def Zhz(F:Nat)(s:(aOS×Int×Int×Zo)):yO ((aOS×Int×Int×Zo)⊕((Int×Zo)⊕Zo)):=
 if(ah (s.2.2.1 < s.2.1))=af then
  (idx s.1 s.2.2.1).bind λa=>
  if(ah (s.2.2.2=a))=af then
   ab (.inr (.inl (s.2.2.1,s.2.2.2)))
  else
  ab (.inl (s.1,s.2.1,wi (s.2.2.1+1),s.2.2.2))
 else
 ab (.inr (.inr s.2.2.2))
def Zi6:Lp:=⟨[(0,.v aOQ),(3,.ak 0 []),(7,.v yI),(8,.v yI)],[.var (.v Zd) af],[aOQ,yI,yI,Zd],[⟨.ret,[(4,.v yI)],[.var (.v Zd) af],[yI,Zd]⟩,⟨.exit 0,[],[.var (.v Zd) af],[Zd]⟩],Zc (Zhz yD) yD⟩
theorem ZnA:Zi6.bA yb 140 0:=Zv { still:=[4]} [] [] trivial
def Zmu(F:Nat)(a0:aOS)(a1:Zo):yO (Int):=
 (Zc (Zhz F) F (a0,(a0.length:Int),0,a1)).bind λa=>
 match a with
 |.inl b=>
  ab b.1
 |.inr c=>
  ab (-1)
def Zs0(F:Nat):Fs yb:=⟨140,[.v aOQ,.v Zd],[],[aOQ,Zd],(zN yI),λx=>Zmu F x.1 x.2⟩
def ZkA:Fs yb:=Zs0 yD
theorem Zs1:ZkA.Ok:=aR { still:=[4]} [(0,Zi6)] [] trivial ⟨ZnA,au⟩
def ZhA(F:Nat)(a0:aOS)(a1:Zo):yO (Bool):=
 (Zmu F a0 a1).bind λa=>
 ab (ah (a >= 0))
def ZnB(F:Nat):Fs yb:=⟨69,[.v aOQ,.v Zd],[],[aOQ,Zd],(zN .bool),λx=>ZhA F x.1 x.2⟩
def Zgb:Fs yb:=ZnB yD
theorem ZnC:Zgb.Ok:=aR { still:=[4,5,6]} [] [ZkA] ⟨Zs1,au⟩
def ZhB(F:Nat)(s:(aOJ×Int×Int×ZD×Tx×Y9×aOP)):yO ((aOJ×Int×Int×ZD×Tx×Y9×aOP)⊕(ZD×Tx×Y9×aOP)):=
 if(ah (s.2.2.1 < s.2.1))=af then
  (idx s.1 s.2.2.1).bind λa=>
  (ZvL F a.2 s.2.2.2.2.2.1).bind λb=>
  if b=af then
   if(cO s.2.2.2.2.2.2.length 1 8)=af then
    ab (.inl (s.1,s.2.1,wi (s.2.2.1+1),s.2.2.2.1,s.2.2.2.2.1,s.2.2.2.2.2.1,s.2.2.2.2.2.2++([s.2.2.1]:yL Int)))
   else
   ae
  else
  ab (.inl (s.1,s.2.1,wi (s.2.2.1+1),s.2.2.2.1,s.2.2.2.2.1,s.2.2.2.2.2.1,s.2.2.2.2.2.2))
 else
 ab (.inr (s.2.2.2.1,s.2.2.2.2.1,s.2.2.2.2.2.1,s.2.2.2.2.2.2))
def Zi7:Lp:=⟨[(5,.ak 2 []),(6,.own 3 yI),(35,.v aOE),(36,.v yI),(37,.v yI)],[.var (.v Zp) af,.var (.v aS) af,.var (.v Z1) af,.log yI 3],[aOE,yI,yI,Zp,aS,Z1,aON],[⟨.exit 0,[(6,.own 3 yI)],[.var (.v Zp) af,.var (.v aS) af,.var (.v Z1) af,.log yI 3],[Zp,aS,Z1,aON]⟩],Zc (ZhB yD) yD⟩
def ZQv:HI:={ own:=[6,46,49],still:=[4,9,13,18,19,22,32,43,44]}
theorem ZnD:Zi7.bA yb 20 0:=Zv ZQv [] [Zse] ⟨ZAZ,au⟩
def Zmv(F:Nat)(a0:ZD)(a1:Tx):yO (aOP):=
 (Ww F a0).bind λa=>
 if(!a)=af then
  ab []
 else
 (Vo F a1).bind λb=>
 if(!b)=af then
  ab []
 else
 (KY F a1).bind λc=>
 (ZhA F c a0.1.1).bind λd=>
 if(!d)=af then
  ab []
 else
 if(ba a0.2.2.1 2)=af then
  (a0.1.2.2.1[a0.2.2.1.toNat]?).bind λe=>
  (pd F e.2.1).bind λf=>
  (Zc (ZhB F) F (a1.2.1,(a1.2.1.length:Int),0,a0,a1,f,[])).bind λg=>
  ab g.2.2.2
 else
 ae
def Zs2(F:Nat):Fs yb:=⟨20,[.v Zp,.v aS],[],[Zp,aS],(zN aON),λx=>Zmv F x.1 x.2⟩
def ZkB:Fs yb:=Zs2 yD
theorem Zs3:ZkB.Ok:=aR ZQv [(0,Zi7)] [VP,Q2,KZ,Zgb,LC] ⟨QL,pc,Zpo,ZnC,LD,au⟩ ⟨ZnD,au⟩
def wJ(F:Nat)(a0:aOz)(a1:aOz):yO (aOz):=
 (sD F (a1.length:Int)).bind λa=>
 (YI F [a0,a,a1]).bind λb=>
 ab b
def ZqQ(F:Nat):Fs yb:=⟨205,[.v aOA,.v aOA],[],[aOA,aOA],(zN aOA),λx=>wJ F x.1 x.2⟩
def Zi8:Fs yb:=ZqQ yD
theorem ZqR:Zi8.Ok:=aR { still:=[4,7,10]} [] [JU,Wa] ⟨Zr4,VW,au⟩
def VY(F:Nat)(s:(aOz×aOI×Int×Int×aOM×Int×Int×Y9×Zx)):yO ((aOz×aOI×Int×Int×aOM×Int×Int×Y9×Zx)⊕(aOz×aOI×Int×Int×Y9×Zx)):=
 if(ah (s.2.2.2.2.2.2.1 < s.2.2.2.2.2.1))=af then
  (idx s.2.2.2.2.1 s.2.2.2.2.2.2.1).bind λa=>
  (Qb F s.1 a).bind λb=>
  ab (.inl (b,s.2.1,s.2.2.1,s.2.2.2.1,s.2.2.2.2.1,s.2.2.2.2.2.1,wi (s.2.2.2.2.2.2.1+1),s.2.2.2.2.2.2.2.1,s.2.2.2.2.2.2.2.2))
 else
 ab (.inr (s.1,s.2.1,s.2.2.1,s.2.2.2.1,s.2.2.2.2.2.2.2.1,s.2.2.2.2.2.2.2.2))
abbrev tL2:yL Ty:=[aOA,aOG,yI,yI,aOH,yI,yI,Z1,Zg]
def Zmw:Lp:=⟨[(3,.v aOA),(5,.ak 1 []),(16,.v aOG),(17,.v yI),(18,.v yI),(28,.v aOH),(29,.v yI),(30,.v yI)],[.var (.v Z1) af,.var (.v Zg) af],tL2,[⟨.exit 2,[(3,.v aOA),(5,.ak 1 []),(16,.v aOG),(17,.v yI),(18,.v yI)],[.var (.v Z1) af,.var (.v Zg) af],[aOA,aOG,yI,yI,Z1,Zg]⟩],Zc (VY yD) yD⟩
def LF:HI:={ still:=[2,8,13,22,25,34,35,38,40,41,43,44,46]}
theorem ZqS:Zmw.bA yb 206 1:=Zv LF [] [wB] ⟨JX,au⟩
def wK(F:Nat)(s:(aOz×aOI×Int×Int×Y9)):yO ((aOz×aOI×Int×Int×Y9)⊕(aOz×Y9)):=
 if(ah (s.2.2.2.1 < s.2.2.1))=af then
  (idx s.2.1 s.2.2.2.1).bind λa=>
  (Y7 F s.1 (a.1.length:Int)).bind λb=>
  (Zc (VY F) F (b,s.2.1,s.2.2.1,s.2.2.2.1,a.1,(a.1.length:Int),0,s.2.2.2.2,a)).bind λc=>
  (Y7 F c.1 c.2.2.2.2.2.2.1).bind λd=>
  (Y7 F d c.2.2.2.2.2.2.2.1).bind λe=>
  (Qb F e c.2.2.2.2.2.2.2.2).bind λf=>
  ab (.inl (f,c.2.1,c.2.2.1,wi (c.2.2.2.1+1),c.2.2.2.2.1))
 else
 ab (.inr (s.1,s.2.2.2.2))
def Zmx:Lp:=⟨[(3,.v aOA),(16,.v aOG),(17,.v yI),(18,.v yI)],[.var (.v Z1) af],[aOA,aOG,yI,yI,Z1],[⟨.exit 0,[(3,.v aOA)],[.var (.v Z1) af],[aOA,Z1]⟩],Zc (wK yD) yD⟩
theorem ZqT:Zmx.bA yb 206 0:=Zv LF [(1,Zmw)] [W3,wB] ⟨Wq,JX,au⟩ ⟨ZqS,au⟩
def sH(F:Nat)(a0:Y9):yO (aOz):=
 (Xc F a0).bind λa=>
 if(!a)=af then
  ab []
 else
 (Y7 F [] (a0.length:Int)).bind λb=>
 (Zc (wK F) F (b,a0,(a0.length:Int),0,a0)).bind λc=>
 ab c.1
def Zxm(F:Nat):Fs yb:=⟨206,[.v Z1],[],[Z1],(zN aOA),λx=>sH F x⟩
def LG:Fs yb:=Zxm yD
theorem Zmy:LG.Ok:=aR LF [(0,Zmx)] [W5,W3] ⟨Wz,Wq,au⟩ ⟨ZqT,au⟩
def wL(F:Nat)(s:(aOz×aOK×Int×Int×Tx)):yO ((aOz×aOK×Int×Int×Tx)⊕(aOz×Tx)):=
 if(ah (s.2.2.2.1 < s.2.2.1))=af then
  (idx s.2.1 s.2.2.2.1).bind λa=>
  (Wx F s.1 a.1.1).bind λb=>
  (Y7 F b a.1.2).bind λc=>
  ab (.inl (c,s.2.1,s.2.2.1,wi (s.2.2.2.1+1),s.2.2.2.2))
 else
 ab (.inr (s.1,s.2.2.2.2))
def Zsg:Lp:=⟨[(1,.ak 0 []),(3,.v aOA),(13,.v aOF),(14,.v yI),(15,.v yI)],[.var (.v aS) af],[aOA,aOF,yI,yI,aS],[⟨.exit 0,[(1,.ak 0 []),(3,.v aOA)],[.var (.v aS) af],[aOA,aS]⟩],Zc (wL yD) yD⟩
def LH:HI:={ still:=[2,10,19,22,23,26,29,32,41,43,44,46,47,50,52]}
theorem ZvM:Zsg.bA yb 143 0:=Zv LH [] [wy,W3] ⟨QM,Wq,au⟩
def wM(F:Nat)(s:(aOz×aOJ×Int×Int×Tx)):yO ((aOz×aOJ×Int×Int×Tx)⊕(aOz×Tx)):=
 if(ah (s.2.2.2.1 < s.2.2.1))=af then
  (idx s.2.1 s.2.2.2.1).bind λa=>
  (Y7 F s.1 a.1).bind λb=>
  (sH F a.2).bind λc=>
  (wJ F b c).bind λd=>
  ab (.inl (d,s.2.1,s.2.2.1,wi (s.2.2.2.1+1),s.2.2.2.2))
 else
 ab (.inr (s.1,s.2.2.2.2))
def Zsh:Lp:=⟨[(1,.ak 0 []),(3,.v aOA),(35,.v aOE),(36,.v yI),(37,.v yI)],[.var (.v aS) af],[aOA,aOE,yI,yI,aS],[⟨.exit 2,[(1,.ak 0 []),(3,.v aOA)],[.var (.v aS) af],[aOA,aS]⟩],Zc (wM yD) yD⟩
theorem ZvN:Zsh.bA yb 143 1:=Zv LH [] [W3,LG,Zi8] ⟨Wq,Zmy,ZqR,au⟩
def wN(F:Nat)(a0:Tx):yO (aOz):=
 (Y7 F [] (a0.1.length:Int)).bind λa=>
 (Zc (wL F) F (a,a0.1,(a0.1.length:Int),0,a0)).bind λb=>
 (Y7 F b.1 (b.2.2.1.length:Int)).bind λc=>
 (Zc (wM F) F (c,b.2.2.1,(b.2.2.1.length:Int),0,b.2)).bind λd=>
 (Y7 F d.1 d.2.2.2).bind λe=>
 ab e
def ZDt(F:Nat):Fs yb:=⟨143,[.v aS],[],[aS],(zN aOA),λx=>wN F x⟩
def ZvO:Fs yb:=ZDt yD
theorem ZDu:ZvO.Ok:=aR LH [(0,Zsg),(1,Zsh)] [W3] ⟨Wq,au⟩ ⟨ZvM,ZvN,au⟩
def ZN5:ByteArray:=⟨#[116,120]⟩
def ck(F:Nat)(a0:Tx):yO (aOz):=
 (Vo F a0).bind λa=>
 if(!a)=af then
  ab dz
 else
 (wN F a0).bind λb=>
 (Xk F ZN5 [b]).bind λc=>
 ab c
def LI(F:Nat):Fs yb:=⟨75,[.v aS],[],[aS],(zN aOB),λx=>ck F x⟩
def ny:Fs yb:=LI yD
theorem nA:ny.Ok:=aR { still:=[3,7,9]} [] [Q2,ZvO,X3] ⟨pc,ZDu,XQ,au⟩
def Zsi(F:Nat)(s:(Int×Int×Tx×aOS×aOz)):yO ((Int×Int×Tx×aOS×aOz)⊕(Tx×aOS×aOz)):=
 if(ah (s.2.1 < s.1))=af then
  if(cO s.2.2.2.1.length 1 40)=af then
   let a:aOS:=s.2.2.2.1++([(s.2.2.2.2,s.2.1)]:yL Zo)
   ab (.inl (s.1,wi (s.2.1+1),s.2.2.1,a,s.2.2.2.2))
  else
  ae
 else
 ab (.inr (s.2.2.1,s.2.2.2.1,s.2.2.2.2))
def ZvQ:Lp:=⟨[(2,.own 1 Zd),(3,.ak 2 []),(12,.v yI),(13,.v yI)],[.var (.v aS) af,.log Zd 25,.var (.v aOB) af],[yI,yI,aS,aOQ,aOB],[⟨.exit 0,[(2,.own 1 Zd)],[.var (.v aS) af,.log Zd 25,.var (.v aOB) af],[aS,aOQ,aOB]⟩],Zc (Zsi yD) yD⟩
def ZQw:HI:={ own:=[2,16,21,23],still:=[2,5,7]}
theorem Zxn:ZvQ.bA yb 24 0:=Zv ZQw [] [] trivial
def wO(F:Nat)(a0:Tx):yO (aOS):=
 (ck F a0).bind λa=>
 (Vo F a0).bind λb=>
 if(!b)=af then
  ab []
 else
 (Zc (Zsi F) F ((a0.2.1.length:Int),0,a0,[],a)).bind λc=>
 ab c.2.1
def ZFy(F:Nat):Fs yb:=⟨24,[.v aS],[],[aS],(zN aOQ),λx=>wO F x⟩
def wP:Fs yb:=ZFy yD
theorem LJ:wP.Ok:=aR ZQw [(0,ZvQ)] [ny,Q2] ⟨nA,pc,au⟩ ⟨Zxn,au⟩
def ZvR(F:Nat)(a0:yU):yO (Bool):=
 if(a0==0)=af then
  ab af
 else
 (Wn F a0).bind λa=>
 ab (!a)
def ZA0(F:Nat):Fs yb:=⟨124,[.v .u64],[],[.u64],(zN .bool),λx=>ZvR F x⟩
def Zsj:Fs yb:=ZA0 yD
theorem ZA1:Zsj.Ok:=aR { still:=[2,6]} [] [QB] ⟨vG,au⟩
def QO(F:Nat)(a0:aOI):yO (aOI):=
 if(cO 0 a0.length 48)=af then
  ab a0
 else
 ae
def Zps(F:Nat):Fs yb:=⟨172,[.sl af Zg],[],[aOG],(zN aOG),λx=>QO F x⟩
def ZqU:Fs yb:=Zps yD
theorem Zpt:ZqU.Ok:=aR { own:=[5,7],still:=[2]} [] [] trivial
def Ze5(F:Nat):yO (aOI):=
 ab []
def ZkC(F:Nat):Fs yb:=⟨172,[.nil Zg],[],[],(zN aOG),λx=>Ze5 F⟩
def ZlT:Fs yb:=ZkC yD
theorem ZkD:ZlT.Ok:=aR { own:=[5,7],still:=[2]} [] [] trivial
def ZlU(F:Nat):Fs yb:=⟨172,[.v aOG],[],[aOG],(zN aOG),λx=>QO F x⟩
def ZnF:Fs yb:=ZlU yD
theorem ZlV:ZnF.Ok:=ni (t:=Zg) (xs:=(zN aOG)) (MA:=λ(x:aOI)=>QO yD x) (MB:=λ_=>Ze5 yD) Zpt ZkD rfl
def wQ(F:Nat)(a0:aOK):yO (aOK):=
 if(cO 0 a0.length 80)=af then
  ab a0
 else
 ae
def ZIo(F:Nat):Fs yb:=⟨194,[.sl af bG],[],[aOF],(zN aOF),λx=>wQ F x⟩
def ZK0:Fs yb:=ZIo yD
theorem ZIp:ZK0.Ok:=aR { own:=[5,7],still:=[2]} [] [] trivial
def ZvS(F:Nat):yO (aOK):=
 ab []
def ZA2(F:Nat):Fs yb:=⟨194,[.nil bG],[],[],(zN aOF),λx=>ZvS F⟩
def ZDv:Fs yb:=ZA2 yD
theorem ZA3:ZDv.Ok:=aR { own:=[5,7],still:=[2]} [] [] trivial
def ZDw(F:Nat):Fs yb:=⟨194,[.v aOF],[],[aOF],(zN aOF),λx=>wQ F x⟩
def ZFz:Fs yb:=ZDw yD
theorem ZDx:ZFz.Ok:=ni (t:=bG) (xs:=(zN aOF)) (MA:=λ(x:aOK)=>wQ yD x) (MB:=λ_=>ZvS yD) ZIp ZA3 rfl
def sI(F:Nat)(a0:aOJ):yO (aOJ):=
 if(cO 0 a0.length 32)=af then
  ab a0
 else
 ae
def ZFA(F:Nat):Fs yb:=⟨195,[.sl af Zy],[],[aOE],(zN aOE),λx=>sI F x⟩
def ZIq:Fs yb:=ZFA yD
theorem ZFB:ZIq.Ok:=aR { own:=[5,7],still:=[2]} [] [] trivial
def Zsk(F:Nat):yO (aOJ):=
 ab []
def Zxo(F:Nat):Fs yb:=⟨195,[.nil Zy],[],[],(zN aOE),λx=>Zsk F⟩
def ZA4:Fs yb:=Zxo yD
theorem Zxp:ZA4.Ok:=aR { own:=[5,7],still:=[2]} [] [] trivial
def ZA5(F:Nat):Fs yb:=⟨195,[.v aOE],[],[aOE],(zN aOE),λx=>sI F x⟩
def ZDy:Fs yb:=ZA5 yD
theorem ZA6:ZDy.Ok:=ni (t:=Zy) (xs:=(zN aOE)) (MA:=λ(x:aOJ)=>sI yD x) (MB:=λ_=>Zsk yD) ZFB Zxp rfl
def QE(F:Nat)(a0:(yL cQ)):yO ((yL cQ)):=
 if(cO 0 a0.length 16)=af then
  ab a0
 else
 ae
def ZFC(F:Nat):Fs yb:=⟨196,[.sl af Wr],[],[(.sl Wr)],(zN (.sl Wr)),λx=>QE F x⟩
def ZIr:Fs yb:=ZFC yD
theorem ZFD:ZIr.Ok:=aR { own:=[5,7],still:=[2]} [] [] trivial
def Zsl(F:Nat):yO ((yL cQ)):=
 ab []
def Zxq(F:Nat):Fs yb:=⟨196,[.nil Wr],[],[],(zN (.sl Wr)),λx=>Zsl F⟩
def ZA7:Fs yb:=Zxq yD
theorem Zxr:ZA7.Ok:=aR { own:=[5,7],still:=[2]} [] [] trivial
def ZA8(F:Nat):Fs yb:=⟨196,[.v (.sl Wr)],[],[(.sl Wr)],(zN (.sl Wr)),λx=>QE F x⟩
def pf:Fs yb:=ZA8 yD
theorem sJ:pf.Ok:=ni (t:=Wr) (xs:=(zN (.sl Wr))) (MA:=λ(x:(yL cQ))=>QE yD x) (MB:=λ_=>Zsl yD) ZFD Zxr rfl
def wR(F:Nat)(a0:aOK):yO ((aOD×aOK)):=
 if(cO 0 a0.length 80)=af then
  ab ([()],a0)
 else
 ae
def ZA9(F:Nat):Fs yb:=⟨194,[.sl af bG],[],[aOF],[⟨.ret,[(0,.rw 0)],[.row bG af 131],[aOC,aOF]⟩],λx=>wR F x⟩
def ZDz:Fs yb:=ZA9 yD
theorem ZBa:ZDz.Ok:=aR { own:=[5,7],bU:=[2,5,7]} [] [] trivial
def wS(F:Nat)(a0:aOK):yO ((aOD×aOK)):=if a0.isEmpty=af then ae else wR F a0
def ZvT(F:Nat):Fs yb:=⟨194,[.v aOF],[],[aOF],[⟨.ret,[(0,.rw 0)],[.row bG af 131],[aOC,aOF]⟩],λx=>wS F x⟩
def Zmz:Fs yb:=ZvT yD
theorem ZkF:Zmz.Ok:=HP (t:=bG) (xs:=[⟨.ret,[(0,.rw 0)],[.row bG af 131],[aOC,aOF]⟩]) (MA:=λ(x:aOK)=>wR yD x) ZBa rfl (λ_ _=>rfl)
def wT(F:Nat)(a0:aOJ):yO ((aOD×aOJ)):=
 if(cO 0 a0.length 32)=af then
  ab ([()],a0)
 else
 ae
def Zxs(F:Nat):Fs yb:=⟨195,[.sl af Zy],[],[aOE],[⟨.ret,[(0,.rw 0)],[.row Zy af 83],[aOC,aOE]⟩],λx=>wT F x⟩
def ZBb:Fs yb:=Zxs yD
theorem Zxt:ZBb.Ok:=aR { own:=[5,7],bU:=[2,5,7]} [] [] trivial
def wU(F:Nat)(a0:aOJ):yO ((aOD×aOJ)):=if a0.isEmpty=af then ae else wT F a0
def Zs4(F:Nat):Fs yb:=⟨195,[.v aOE],[],[aOE],[⟨.ret,[(0,.rw 0)],[.row Zy af 83],[aOC,aOE]⟩],λx=>wU F x⟩
def ZkG:Fs yb:=Zs4 yD
theorem Zi9:ZkG.Ok:=HP (t:=Zy) (xs:=[⟨.ret,[(0,.rw 0)],[.row Zy af 83],[aOC,aOE]⟩]) (MA:=λ(x:aOJ)=>wT yD x) Zxt rfl (λ_ _=>rfl)
def fq:HI:={ still:=[8,11,30,48,61,69],bU:=[5,9,12,22,49,55,67]}
def W6(F:Nat)(a0:aOI):yO ((aOD×aOI)):=
 if(cO 0 a0.length 48)=af then
  ab ([()],a0)
 else
 ae
def ZkH(F:Nat):Fs yb:=⟨172,[.sl af Zg],[],[aOG],[⟨.ret,[(0,.rw 0)],[.row Zg af 145],[aOC,aOG]⟩],λx=>W6 F x⟩
def ZlW:Fs yb:=ZkH yD
theorem ZkI:ZlW.Ok:=aR { own:=[5,7],bU:=[2,5,7]} [] [] trivial
def Xw(F:Nat)(a0:aOI):yO ((aOD×aOI)):=if a0.isEmpty=af then ae else W6 F a0
def Ziy(F:Nat):Fs yb:=⟨172,[.v aOG],[],[aOG],[⟨.ret,[(0,.rw 0)],[.row Zg af 145],[aOC,aOG]⟩],λx=>Xw F x⟩
def Vq:Fs yb:=Ziy yD
theorem W7:Vq.Ok:=HP (t:=Zg) (xs:=[⟨.ret,[(0,.rw 0)],[.row Zg af 145],[aOC,aOG]⟩]) (MA:=λ(x:aOI)=>W6 yD x) ZkI rfl (λ_ _=>rfl)
abbrev wV:Type:=(Int×Int×Int×Int×Int×Int×Tx×aOD×aOK×aOD×aOJ×aOD×aOI)
abbrev dT2:Type:=(Int×Int×Int×Int×Tx×aOD×aOK×aOD×aOJ×aOD×aOI)
abbrev tL3:yL Ty:=[yI,yI,yI,yI,aS,aOC,aOF,aOC,aOE,aOC,aOG]
abbrev tL4:yL Ty:=[yI,yI,yI,yI,yI,yI,aS,aOC,aOF,aOC,aOE,aOC,aOG]
def Ze6(F:Nat)(s:(aOM×Int×Int)):yO ((aOM×Int×Int)⊕(Int⊕Unit)):=
 if(ah (s.2.2 < s.2.1))=af then
  (idx s.1 s.2.2).bind λa=>
  (ZvR F a).bind λb=>
  if b=af then
   ab (.inr (.inl s.2.2))
  else
  ab (.inl (s.1,s.2.1,wi (s.2.2+1)))
 else
 ab (.inr (.inr ()))
def Zgd:Lp:=⟨[(0,.v aOH),(1,.fn 124 []),(7,.v yI),(8,.v yI)],[],[aOH,yI,yI],[⟨.ret,[(4,.v yI)],[],[yI]⟩,⟨.exit 0,[],[],[]⟩],Zc (Ze6 yD) yD⟩
theorem ZkJ:Zgd.bA yb 193 0:=Zv { still:=[4,15]} [] [Zsj] ⟨ZA1,au⟩
def Zja(F:Nat)(a0:aOM):yO (Int):=
 (Zc (Ze6 F) F (a0,(a0.length:Int),0)).bind λa=>
 match a with
 |.inl b=>
  ab b
 |.inr c=>
  ab (-1)
def Zpu(F:Nat):Fs yb:=⟨193,[.v aOH,.fn 124 []],[],[aOH],(zN yI),λx=>Zja F x⟩
def ZhC:Fs yb:=Zpu yD
theorem Zpv:ZhC.Ok:=aR { still:=[4,15]} [(0,Zgd)] [] trivial ⟨ZkJ,au⟩
def Zsm(F:Nat)(a0:aOM):yO (Bool):=
 (Zja F a0).bind λa=>
 ab (ah (a >= 0))
def Zxu(F:Nat):Fs yb:=⟨126,[.v aOH,.fn 124 []],[],[aOH],(zN .bool),λx=>Zsm F x⟩
def Zpw:Fs yb:=Zxu yD
theorem Zxv:Zpw.Ok:=aR { still:=[4,5,6]} [] [ZhC] ⟨Zpv,au⟩
abbrev tL5:yL Ty:=[yI,aOH,yI,yI,aS,aS,yI,.u64,(.sl Wr),aOB]
abbrev qY:=Int×Tx×aOD×aOK×aOD×aOJ
def ZhD(F:Nat)(s:(Int×Int×qY)):yO ((Int×Int×qY)⊕(qY)):=
 if(ah (s.2.1 < s.1))=af then
  if(ba s.2.1 s.2.2.2.2.2.1.length)=af then
   (s.2.2.2.2.2.1[s.2.1.toNat]?).bind λa=>
   (QE F a.2.2.1).bind λb=>
   if(ba s.2.1 s.2.2.2.2.2.1.length)=af then
    (s.2.2.2.2.2.1[s.2.1.toNat]?).bind λc=>
    let d:aOK:=s.2.2.2.2.2.1.set s.2.1.toNat (c.1,(c.2.1,b,c.2.2.2))
    ab (.inl (s.1,wi (s.2.1+1),s.2.2.1,s.2.2.2.1,s.2.2.2.2.1,d,s.2.2.2.2.2.2.1,s.2.2.2.2.2.2.2))
   else
   ae
  else
  ae
 else
 ab (.inr (s.2.2.1,s.2.2.2.1,s.2.2.2.2.1,s.2.2.2.2.2.1,s.2.2.2.2.2.2.1,s.2.2.2.2.2.2.2))
abbrev zM:List bi:=[.var (.agg [.rw 2,.rw 3,.v yI]) af,.var (.v aS) af,.row bG af 131,.row Zy af 83]
def Zjb:Lp:=⟨[(1,.ak 0 []),(2,.ak 1 []),(17,.v yI),(18,.v yI)],zM,[yI,yI,yI,aS,aOC,aOF,aOC,aOE],[⟨.exit 0,[(1,.ak 0 []),(2,.ak 1 [])],zM,[yI,aS,aOC,aOF,aOC,aOE]⟩],Zc (ZhD yD) yD⟩
theorem ZnG:Zjb.bA yb 127 0:=Zv fq [] [pf] ⟨sJ,au⟩
def ZhE(F:Nat)(s:wV):yO (wV⊕dT2):=
 if(ah (s.2.2.2.2.1 < s.2.2.2.1))=af then
  if(ba s.2.2.2.2.1 s.2.2.2.2.2.2.2.2.2.2.2.2.length)=af then
   (s.2.2.2.2.2.2.2.2.2.2.2.2[s.2.2.2.2.1.toNat]?).bind λa=>
   (ZN F a.1).bind λb=>
   if(ba s.2.2.2.2.1 s.2.2.2.2.2.2.2.2.2.2.2.2.length)=af then
    (s.2.2.2.2.2.2.2.2.2.2.2.2[s.2.2.2.2.1.toNat]?).bind λc=>
    let d:aOI:=s.2.2.2.2.2.2.2.2.2.2.2.2.set s.2.2.2.2.1.toNat (b,c.2.1,c.2.2.1,c.2.2.2)
    ab (.inl (s.1,s.2.1,s.2.2.1,s.2.2.2.1,wi (s.2.2.2.2.1+1),s.2.2.2.2.2.1,s.2.2.2.2.2.2.1,s.2.2.2.2.2.2.2.1,s.2.2.2.2.2.2.2.2.1,s.2.2.2.2.2.2.2.2.2.1,s.2.2.2.2.2.2.2.2.2.2.1,s.2.2.2.2.2.2.2.2.2.2.2.1,d))
   else
   ae
  else
  ae
 else
 ab (.inr (s.1,s.2.1,s.2.2.1,s.2.2.2.2.2.1,s.2.2.2.2.2.2.1,s.2.2.2.2.2.2.2.1,s.2.2.2.2.2.2.2.2.1,s.2.2.2.2.2.2.2.2.2.1,s.2.2.2.2.2.2.2.2.2.2.1,s.2.2.2.2.2.2.2.2.2.2.2.1,s.2.2.2.2.2.2.2.2.2.2.2.2))
abbrev zI:List bi:=[.var (.agg [.rw 2,.rw 3,.v yI]) af,.var (.v aS) af,.row bG af 131,.row Zy af 83,.row Zg af 145]
def Zjc:Lp:=⟨[(1,.ak 0 []),(2,.ak 1 []),(4,.v yI),(5,.rw 4),(38,.v yI),(39,.v yI),(51,.v yI),(52,.v yI)],zI,tL4,[⟨.exit 4,[(1,.ak 0 []),(2,.ak 1 []),(4,.v yI),(5,.rw 4),(38,.v yI),(39,.v yI)],zI,tL3⟩],Zc (ZhE yD) yD⟩
theorem ZnH:Zjc.bA yb 127 2:=Zv fq [] [ZS] ⟨ZW,au⟩
def ZhF(F:Nat)(s:(Int×Int×qY)):yO ((Int×Int×qY)⊕(qY)):=
 if(ah (s.2.1 < s.1))=af then
  if(ba s.2.1 s.2.2.2.2.2.2.2.length)=af then
   (s.2.2.2.2.2.2.2[s.2.1.toNat]?).bind λa=>
   (Xw F a.2).bind λb=>
   (Zc (ZhE F) F (s.2.1,s.1,s.2.1,(b.2.length:Int),0,s.2.2.1,s.2.2.2.1,s.2.2.2.2.1,s.2.2.2.2.2.1,s.2.2.2.2.2.2.1,s.2.2.2.2.2.2.2,b.1,b.2)).bind λc=>
   if(ba c.1 c.2.2.2.2.2.2.2.2.1.length)=af then
    (c.2.2.2.2.2.2.2.2.1[c.1.toNat]?).bind λd=>
    let e:aOJ:=c.2.2.2.2.2.2.2.2.1.set c.1.toNat (d.1,c.2.2.2.2.2.2.2.2.2.2)
    ab (.inl (c.2.1,wi (c.2.2.1+1),c.2.2.2.1,c.2.2.2.2.1,c.2.2.2.2.2.1,c.2.2.2.2.2.2.1,c.2.2.2.2.2.2.2.1,e))
   else
   ae
  else
  ae
 else
 ab (.inr (s.2.2.1,s.2.2.2.1,s.2.2.2.2.1,s.2.2.2.2.2.1,s.2.2.2.2.2.2.1,s.2.2.2.2.2.2.2))
def Zjd:Lp:=⟨[(1,.ak 0 []),(2,.ak 1 []),(38,.v yI),(39,.v yI)],zM,[yI,yI,yI,aS,aOC,aOF,aOC,aOE],[⟨.exit 2,[(1,.ak 0 []),(2,.ak 1 [])],zM,[yI,aS,aOC,aOF,aOC,aOE]⟩],Zc (ZhF yD) yD⟩
theorem ZnI:Zjd.bA yb 127 1:=Zv fq [(2,Zjc)] [Vq] ⟨W7,au⟩ ⟨ZnH,au⟩
def ZmA(F:Nat)(a0:Tx):yO ((Int×aOD×aOK×aOD×aOJ)):=
 (wS F a0.1).bind λa=>
 (wU F a0.2.1).bind λb=>
 (Zc (ZhD F) F ((a.2.length:Int),0,a0.2.2,([],[],0),a.1,a.2,b.1,b.2)).bind λc=>
 (Zc (ZhF F) F ((c.2.2.2.2.2.length:Int),0,c.1,c.2.1,c.2.2.1,c.2.2.2.1,c.2.2.2.2.1,c.2.2.2.2.2)).bind λd=>
 ab (d.1,d.2.2.1,d.2.2.2.1,d.2.2.2.2.1,d.2.2.2.2.2)
def Zs5(F:Nat):Fs yb:=⟨127,[.v aS],[],[aS],[⟨.ret,[(0,.agg [.rw 0,.rw 1,.v yI])],[.row bG af 131,.row Zy af 83],[yI,aOC,aOF,aOC,aOE]⟩],λx=>ZmA F x⟩
def ZkK:Fs yb:=Zs5 yD
theorem Zs6:ZkK.Ok:=aR fq [(0,Zjb),(1,Zjd)] [Zmz,ZkG] ⟨ZkF,Zi9,au⟩ ⟨ZnG,ZnI,au⟩
def Zsn(F:Nat)(s:(Int×aOM×Int×Int×Tx×Tx×Int×yU×(yL cQ)×aOz)):yO ((Int×aOM×Int×Int×Tx×Tx×Int×yU×(yL cQ)×aOz)⊕(Int×Tx×Tx×Int×yU×(yL cQ)×aOz)):=
 if(ah (s.2.2.2.1 < s.2.2.1))=af then
  (idx s.2.1 s.2.2.2.1).bind λa=>
  (Wy F a s.2.2.2.2.2.2.2.2.2).bind λb=>
  if(cO s.2.2.2.2.2.2.2.2.1.length 1 16)=af then
   ab (.inl (s.1,s.2.1,s.2.2.1,wi (s.2.2.2.1+1),s.2.2.2.2.1,s.2.2.2.2.2.1,s.2.2.2.2.2.2.1,s.2.2.2.2.2.2.2.1,s.2.2.2.2.2.2.2.2.1++([b]:yL cQ),s.2.2.2.2.2.2.2.2.2))
  else
  ae
 else
 ab (.inr (s.1,s.2.2.2.2.1,s.2.2.2.2.2.1,s.2.2.2.2.2.2.1,s.2.2.2.2.2.2.2.1,s.2.2.2.2.2.2.2.2.1,s.2.2.2.2.2.2.2.2.2))
abbrev zE:List bi:=[.var (.v aS) af,.var (.v aS) af,.var (.agg [.v yI,.own 3 Wr,.v .u64]) af,.log Wr 63,.var (.v aOB) af]
def ZvU:Lp:=⟨[(1,.v yI),(5,.ak 0 []),(10,.ak 1 []),(13,.ak 2 []),(14,.ak 4 []),(52,.v aOH),(53,.v yI),(54,.v yI)],zE,tL5,[⟨.exit 0,[(1,.v yI),(5,.ak 0 []),(10,.ak 1 []),(13,.ak 2 [])],zE,[yI,aS,aS,yI,.u64,(.sl Wr),aOB]⟩],Zc (Zsn yD) yD⟩
def ZQx:HI:={ own:=[59,64],still:=[11,20,35,45,46,50,60,61,67],bU:=[70],deep:=[45,52],ff:=[(13,[([1],Wr,63)])]}
theorem Zxw:ZvU.bA yb 57 0:=Zv ZQx [] [sF] ⟨sG,au⟩
def ZDA(F:Nat)(a0:Tx)(a1:Int)(a2:Int)(a3:aOM)(a4:yU):yO ((Tx×Int)):=
 (Vo F a0).bind λa=>
 if(!a)=af then
  ab (([],[],0),1)
 else
 if(ah (a1 < 0))=af then
  ab (([],[],0),1)
 else
 if(ah (a1 >= (a0.1.length:Int)))=af then
  ab (([],[],0),1)
 else
 (pb F (a2,[],a4)).bind λb=>
 if(!b)=af then
  ab (([],[],0),1)
 else
 if(ah ((a3.length:Int) > 12))=af then
  ab (([],[],0),1)
 else
 (Zsm F a3).bind λc=>
 if c=af then
  ab (([],[],0),1)
 else
 (ck F a0).bind λd=>
 (Zc (Zsn F) F (a1,a3,(a3.length:Int),0,a0,([],[],0),a2,a4,[],d)).bind λe=>
 (ZmA F e.2.1).bind λf=>
 if(ba e.1 f.2.2.1.length)=af then
  (f.2.2.1[e.1.toNat]?).bind λg=>
  let h:aOK:=f.2.2.1.set e.1.toNat (g.1,(e.2.2.2.1,e.2.2.2.2.2.1,e.2.2.2.2.1))
  ab ((h,f.2.2.2.2,f.1),0)
 else
 ae
def ZFE(F:Nat):Fs yb:=⟨57,[.v aS,.v yI,.v yI,.v aOH,.v .u64],[],[aS,yI,yI,aOH,.u64],[⟨.ret,[(0,.bj [.v aS,.v yI])],[],[aS,yI]⟩],λx=>ZDA F x.1 x.2.1 x.2.2.1 x.2.2.2.1 x.2.2.2.2⟩
def ZyO:Fs yb:=ZFE yD
theorem ZFF:ZyO.Ok:=HN (fi:={ hi:=ZQx,lp:=[(0,ZvU)]}) (aA:={ l:=[Q2,KX,Zpw,ny,ZkK]}) (jc ⟨pc,Zmp,Zxv,nA,Zs6,au⟩) ⟨Zxw,au⟩
abbrev dT3:Type:=(Int×aOP×aOS×Int×aOP×Int×Int×ZD×Tx×Y9×Tx×Int×aOK×aOJ)
def ZhG(F:Nat)(s:dT3):yO (dT3⊕(Int×aOP×Int×ZD×Tx×Y9×Tx×Int×aOK×aOJ)):=
 if(ah (s.2.2.2.2.2.2.1 < s.2.2.2.2.2.1))=af then
  (idx s.2.2.2.2.1 s.2.2.2.2.2.2.1).bind λa=>
  (idx s.2.2.2.2.2.2.2.2.1.2.1 a).bind λb=>
  (idx s.2.2.1 a).bind λc=>
  if(cO s.2.2.2.2.2.2.2.2.2.2.2.2.1.length 1 80)=af then
   let d:aOK:=s.2.2.2.2.2.2.2.2.2.2.2.2.1++([(c,(0,[],0))]:yL In)
   ab (.inl (s.1,s.2.1,s.2.2.1,wi (s.2.2.2.1+b.1),s.2.2.2.2.1,s.2.2.2.2.2.1,wi (s.2.2.2.2.2.2.1+1),s.2.2.2.2.2.2.2.1,s.2.2.2.2.2.2.2.2.1,s.2.2.2.2.2.2.2.2.2.1,s.2.2.2.2.2.2.2.2.2.2.1,s.2.2.2.2.2.2.2.2.2.2.2.1,d,s.2.2.2.2.2.2.2.2.2.2.2.2.2))
  else
  ae
 else
 ab (.inr (s.1,s.2.1,s.2.2.2.1,s.2.2.2.2.2.2.2.1,s.2.2.2.2.2.2.2.2.1,s.2.2.2.2.2.2.2.2.2.1,s.2.2.2.2.2.2.2.2.2.2.1,s.2.2.2.2.2.2.2.2.2.2.2.1,s.2.2.2.2.2.2.2.2.2.2.2.2.1,s.2.2.2.2.2.2.2.2.2.2.2.2.2))
def ZQy:yL bi:=[.var (.v Zp) af,.var (.v aS) af,.var (.v Z1) af,.var (.v aS) af,.var (.agg [.own 5 bG,.own 6 Zy,.v yI]) af,.log bG 131,.log Zy 83]
abbrev tL6:yL Ty:=[yI,aON,yI,Zp,aS,Z1,aS,yI,aOF,aOE]
abbrev tL7:yL Ty:=[yI,aON,aOQ,yI,aON,yI,yI,Zp,aS,Z1,aS,yI,aOF,aOE]
def Zje:Lp:=⟨[(3,.v yI),(4,.ak 0 []),(5,.ak 1 []),(6,.ak 2 []),(8,.ak 3 []),(10,.v aON),(11,.v aOQ),(12,.v yI),(13,.ak 4 []),(34,.v aON),(35,.v yI),(36,.v yI)],ZQy,tL7,[⟨.exit 0,[(3,.v yI),(4,.ak 0 []),(6,.ak 2 []),(8,.ak 3 []),(10,.v aON),(12,.v yI),(13,.ak 4 [])],ZQy,tL6⟩],Zc (ZhG yD) yD⟩
def LK:HI:={ own:=[49,56],still:=[9,17,25,26,32,76,77,81],cb:=[(13,[([0],bG,131),([1],Zy,83)])]}
theorem ZnJ:Zje.bA yb 14 0:=Zv LK [] [] trivial
def ZhH(F:Nat)(s:(Int×Int×ZD×Tx×Y9×Tx×Tx×aOK×aOJ)):yO ((Int×Int×ZD×Tx×Y9×Tx×Tx×aOK×aOJ)⊕(ZD×Tx×Y9×Tx×Tx×aOK×aOJ)):=
 if(ah (s.2.1 < s.1))=af then
  (ZDA F s.2.2.2.2.2.2.1 s.2.1 0 [s.2.2.1.2.1.2.1] 0).bind λa=>
  ab (.inl (s.1,wi (s.2.1+1),s.2.2.1,s.2.2.2.1,s.2.2.2.2.1,s.2.2.2.2.2.1,a.1,s.2.2.2.2.2.2.2.1,s.2.2.2.2.2.2.2.2))
 else
 ab (.inr (s.2.2.1,s.2.2.2.1,s.2.2.2.2.1,s.2.2.2.2.2.1,s.2.2.2.2.2.2.1,s.2.2.2.2.2.2.2.1,s.2.2.2.2.2.2.2.2))
abbrev zF:List bi:=[.var (.v Zp) af,.var (.v aS) af,.var (.v Z1) af,.var (.v aS) af,.var (.v aS) af,.log bG 131,.log Zy 83]
def Zjf:Lp:=⟨[(4,.ak 0 []),(8,.ak 3 []),(13,.ak 4 []),(71,.v yI),(72,.v yI)],zF,[yI,yI,Zp,aS,Z1,aS,aS,aOF,aOE],[⟨.exit 2,[(8,.ak 3 []),(13,.ak 4 [])],zF,[Zp,aS,Z1,aS,aS,aOF,aOE]⟩],Zc (ZhH yD) yD⟩
theorem ZnK:Zjf.bA yb 14 1:=Zv LK [] [ZyO] ⟨ZFF,au⟩
def Zxx(F:Nat)(a0:ZD)(a1:Tx)(a2:Y9)(a3:Int):yO ((Tx×Int)):=
 (Xc F a2).bind λa=>
 if(!a)=af then
  ab (([],[],0),1)
 else
 if(ah (a3 < 0))=af then
  ab (([],[],0),1)
 else
 (Zmv F a0 a1).bind λb=>
 if((b.length:Int)==0)=af then
  ab (([],[],0),5)
 else
 (wO F a1).bind λc=>
 (Zc (ZhG F) F (a3,b,c,0,b,(b.length:Int),0,a0,a1,a2,([],[],0),0,[],[])).bind λd=>
 if(ah (d.2.2.1 < d.1))=af then
  ab (([],[],0),8)
 else
 (Zc (ZhH F) F ((d.2.1.length:Int),0,d.2.2.2.1,d.2.2.2.2.1,d.2.2.2.2.2.1,d.2.2.2.2.2.2.1,(d.2.2.2.2.2.2.2.2.1,[(wi (d.2.2.1 - d.1),d.2.2.2.2.2.1)],d.2.2.2.2.2.2.2.1),d.2.2.2.2.2.2.2.2.1,d.2.2.2.2.2.2.2.2.2)).bind λe=>
 ab (e.2.2.2.2.1,0)
def LL(F:Nat):Fs yb:=⟨14,[.v Zp,.v aS,.v Z1,.v yI],[],[Zp,aS,Z1,yI],[⟨.ret,[(0,.bj [.v aS,.v yI])],[],[aS,yI]⟩],λx=>Zxx F x.1 x.2.1 x.2.2.1 x.2.2.2⟩
def ZvV:Fs yb:=LL yD
theorem Zs7:ZvV.Ok:=lI (fi:={ hi:=LK,lp:=[(0,Zje),(1,Zjf)],gh:=[(22,.flat 13)]}) (aA:={ l:=[W5,ZkB,wP]}) (jc ⟨Wz,Zs3,LJ,au⟩) ⟨ZnJ,ZnK,au⟩
def sK:ByteArray:=⟨#[107,105,116]⟩
def W8(F:Nat)(s:(Int×aOz×cU×aOM)):yO ((Int×aOz×cU×aOM)⊕(aOz×cU×aOM)):=
 if(ah (s.1 < 5))=af then
  (Xk F sK [s.2.1,[w8 (wi (s.1+1))]]).bind λa=>
  (XR F a).bind λb=>
  if(ba s.1 5)=af then
   (s.2.2.2[s.1.toNat]?).bind λc=>
   ab (.inl (wi (s.1+1),s.2.1,s.2.2.1,s.2.2.2.set s.1.toNat b))
  else
  ae
 else
 ab (.inr (s.2.1,s.2.2.1,s.2.2.2))
def Zso:Lp:=⟨[(1,.ak 0 []),(2,.ak 1 []),(3,.ak 2 []),(5,.v yI)],[.var (.v aOB) ag,.var (.v fk) af,.var (.v (.arr 5 .u64)) af],[yI,aOB,fk,(.arr 5 .u64)],[⟨.exit 0,[(1,.ak 0 []),(2,.ak 1 []),(3,.ak 2 [])],[.var (.v aOB) ag,.var (.v fk) af,.var (.v (.arr 5 .u64)) af],[aOB,fk,(.arr 5 .u64)]⟩],Zc (W8 yD) yD⟩
def ZQz:HI:={ still:=[14,15,31],cW:=[9,29]}
theorem ZvW:Zso.bA yb 79 0:=Zv ZQz [] [X3,Qc] ⟨XQ,QD,au⟩
def lN(F:Nat)(a0:aOz):yO (cU):=
 (Zc (W8 F) F (0,a0,(0,0,0,0,0,dz),[0,0,0,0,0])).bind λa=>
 (a.2.2[0]?).bind λb=>
 (a.2.2[1]?).bind λc=>
 (a.2.2[2]?).bind λd=>
 (a.2.2[3]?).bind λe=>
 (a.2.2[4]?).bind λf=>
 (Xk F sK [a.1,[6]]).bind λg=>
 ab (b,c,d,e,f,g)
def wW(F:Nat):Fs yb:=⟨79,[.v aOB],[],[aOB],(zN fk),λx=>lN F x⟩
def ZvX:Fs yb:=wW yD
theorem Zsp:ZvX.Ok:=aR ZQz [(0,Zso)] [X3] ⟨XQ,au⟩ ⟨ZvW,au⟩
def XD(F:Nat)(s:(Int×Int×Int×Int×aOz×aOz)):yO ((Int×Int×Int×Int×aOz×aOz)⊕(aOz×aOz)):=
 if(ah (s.2.2.2.1 < s.2.2.1))=af then
  if(ah (0<=wi ((wi (s.1 - 1)) - s.2.2.2.1)))=af then
   let a:Int:=Int.fdiv s.2.1 (2 ^ (min (wi ((wi (s.1 - 1)) - s.2.2.2.1)).toNat 64))
   if((bits .and .i64 a 1)==1)=af then
    let b:Int:=wi (Int.tdiv (wi ((wi (s.1 - 1)) - s.2.2.2.1)) 8)
    if(ba b 32)=af then
     (s.2.2.2.2.1[b.toNat]?).bind λc=>
     if(ah (0<=Int.tmod (wi ((wi (s.1 - 1)) - s.2.2.2.1)) 8))=af then
      let d:yB:=qv 1 (min (Int.tmod (wi ((wi (s.1 - 1)) - s.2.2.2.1)) 8).toNat 8)
      if(ba b 32)=af then
       (s.2.2.2.2.1[b.toNat]?).bind λe=>
       (nw F (((s.2.2.2.2.1.set b.toNat (c^^^d)).drop 0).take 32)).bind λf=>
       ab (.inl (s.1,s.2.1,s.2.2.1,wi (s.2.2.2.1+1),f,s.2.2.2.2.2))
      else
      ae
     else
     ae
    else
    ae
   else
   ab (.inl (s.1,s.2.1,s.2.2.1,wi (s.2.2.2.1+1),s.2.2.2.2.1,s.2.2.2.2.2))
  else
  ae
 else
 ab (.inr (s.2.2.2.2.1,s.2.2.2.2.2))
def ZhI:Lp:=⟨[(1,.v yI),(2,.v yI),(3,.ak 0 []),(6,.ak 1 []),(8,.v yI),(9,.v yI)],[.var (.v aOB) af,.var (.v aOB) af],[yI,yI,yI,yI,aOB,aOB],[⟨.exit 0,[(3,.ak 0 []),(6,.ak 1 [])],[.var (.v aOB) af,.var (.v aOB) af],[aOB,aOB]⟩],Zc (XD yD) yD⟩
theorem ZlX:ZhI.bA yb 207 0:=Zv { still:=[30]} [] [JL] ⟨ZrZ,au⟩
def wX(F:Nat)(a0:aOz)(a1:Int)(a2:Int):yO (aOz):=
 (Zc (XD F) F (a1,a2,a1,0,a0,dz)).bind λa=>
 ab a.1
def ZqV(F:Nat):Fs yb:=⟨207,[.v aOB,.v yI,.v yI],[],[aOB,yI,yI],(zN aOB),λx=>wX F x.1 x.2.1 x.2.2⟩
def Zjg:Fs yb:=ZqV yD
theorem ZqW:Zjg.Ok:=aR { still:=[30]} [(0,ZhI)] [] trivial ⟨ZlX,au⟩
def LM(F:Nat)(a0:Int):yO (Int):=
 ab (wi (1048575 - a0))
def ZnL(F:Nat):Fs yb:=⟨208,[.v yI],[],[yI],(zN yI),λx=>LM F x⟩
def Zgf:Fs yb:=ZnL yD
theorem ZnM:Zgf.Ok:=aR { still:=[2]} [] [] trivial
def LN(F:Nat)(a0:aOz)(a1:Int):yO ((aOz×Bool)):=
 if(ah (a1 < 0))=af then
  ab (dz,ag)
 else
 if(ah (a1 >= 1048576))=af then
  ab (dz,ag)
 else
 (LM F a1).bind λa=>
 (wX F a0 20 a).bind λb=>
 ab (b,af)
def ZnN(F:Nat):Fs yb:=⟨144,[.v aOB,.v yI],[],[aOB,yI],[⟨.ret,[(0,.bj [.v aOB,.v .bool])],[],[aOB,.bool]⟩],λx=>LN F x.1 x.2⟩
def Zgg:Fs yb:=ZnN yD
theorem ZnO:Zgg.Ok:=aR { still:=[5,13,14,15]} [] [Zgf,Zjg] ⟨ZnM,ZqW,au⟩
def LO(F:Nat)(a0:aOz):yO (yU):=
 (XR F a0).bind λa=>
 (YG F a).bind λb=>
 ab b
def Zxy(F:Nat):Fs yb:=⟨145,[.v aOB],[],[aOB],(zN .u64),λx=>LO F x⟩
def Zpx:Fs yb:=Zxy yD
theorem Zxz:Zpx.Ok:=aR { still:=[2,3,4]} [] [Qc,W0] ⟨QD,Wv,au⟩
def be(F:Nat)(a0:cU)(a1:Int):yO ((yU×Bool)):=
 (LN F a0.2.2.2.2.2 a1).bind λa=>
 if(!a.2)=af then
  ab (0,ag)
 else
 (LO F a.1).bind λb=>
 ab (b,af)
def wY(F:Nat):Fs yb:=⟨80,[.v fk,.v yI],[],[fk,yI],[⟨.ret,[(0,.bj [.v .u64,.v .bool])],[],[.u64,.bool]⟩],λx=>be F x.1 x.2⟩
def wZ:Fs yb:=wY yD
theorem xa:wZ.Ok:=aR { still:=[4,5,10,11,17]} [] [Zgg,Zpx] ⟨ZnO,Zxz,au⟩
def Qf(F:Nat)(a0:Int):yO (Bool):=
 if(a0==0)=af then
  ab af
 else
 ab (a0==1)
def ZvY(F:Nat):Fs yb:=⟨146,[.v yI],[],[yI],(zN .bool),λx=>Qf F x⟩
def ZmB:Fs yb:=ZvY yD
theorem ZvZ:ZmB.Ok:=aR { still:=[2]} [] [] trivial
def LP(F:Nat)(a0:Int)(s0:Int)(s1:Int):yO ((Bool×Int×Int)):=
 if(ah (a0 < s0))=af then
  ab (af,s0,s1)
 else
 ab (ah (a0 > s1),s0,s1)
def Zpy(F:Nat):Fs yb:=⟨241,[.v yI,.ak 0 [],.ak 1 []],[.var (.v yI) af,.var (.v yI) af],[yI,yI,yI],[⟨.ret,[(0,.v .bool)],[.var (.v yI) af,.var (.v yI) af],[.bool,yI,yI]⟩],λx=>LP F x.1 x.2.1 x.2.2⟩
def ZhJ:Fs yb:=Zpy yD
theorem Zpz:ZhJ.Ok:=aR { still:=[4]} [] [] trivial
def Z8(F:Nat)(s:(aOP×Int×Int×Int×Int)):yO ((aOP×Int×Int×Int×Int)⊕((Int×Int×Int)⊕(Int×Int))):=
 if(ah (s.2.2.1 < s.2.1))=af then
  (idx s.1 s.2.2.1).bind λa=>
  (LP F a s.2.2.2.1 s.2.2.2.2).bind λb=>
  if b.1=af then
   ab (.inr (.inl (s.2.2.1,b.2.1,b.2.2)))
  else
  ab (.inl (s.1,s.2.1,wi (s.2.2.1+1),b.2.1,b.2.2))
 else
 ab (.inr (.inr (s.2.2.2.1,s.2.2.2.2)))
def WH:Lp:=⟨[(0,.v aON),(1,.fn 241 [.ak 0 [],.ak 1 []]),(7,.v yI),(8,.v yI)],[.var (.v yI) af,.var (.v yI) af],[aON,yI,yI,yI,yI],[⟨.ret,[(4,.v yI)],[.var (.v yI) af,.var (.v yI) af],[yI,yI,yI]⟩,⟨.exit 0,[],[.var (.v yI) af,.var (.v yI) af],[yI,yI]⟩],Zc (Z8 yD) yD⟩
theorem Zam:WH.bA yb 203 0:=Zv { still:=[4,15]} [] [ZhJ] ⟨Zpz,au⟩
def XH(F:Nat)(a0:aOP)(s0:Int)(s1:Int):yO ((Int×Int×Int)):=
 (Zc (Z8 F) F (a0,(a0.length:Int),0,s0,s1)).bind λa=>
 match a with
 |.inl b=>
  ab (b.1,b.2.1,b.2.2)
 |.inr c=>
  ab ((-1),c.1,c.2)
def Zb0(F:Nat):Fs yb:=⟨203,[.v aON,.fn 241 [.ak 0 [],.ak 1 []]],[.var (.v yI) af,.var (.v yI) af],[aON,yI,yI],[⟨.ret,[(0,.v yI)],[.var (.v yI) af,.var (.v yI) af],[yI,yI,yI]⟩],λx=>XH F x.1 x.2.1 x.2.2⟩
def WR:Fs yb:=Zb0 yD
theorem Zb1:WR.Ok:=aR { still:=[4,15]} [(0,WH)] [] trivial ⟨Zam,au⟩
def Xe(F:Nat)(a0:aOP)(s0:Int)(s1:Int):yO ((Bool×Int×Int)):=
 (XH F a0 s0 s1).bind λa=>
 ab (ah (a.1 >= 0),a.2.1,a.2.2)
def Zan(F:Nat):Fs yb:=⟨134,[.v aON,.fn 241 [.ak 0 [],.ak 1 []]],[.var (.v yI) af,.var (.v yI) af],[aON,yI,yI],[⟨.ret,[(0,.v .bool)],[.var (.v yI) af,.var (.v yI) af],[.bool,yI,yI]⟩],λx=>Xe F x.1 x.2.1 x.2.2⟩
def Ws:Fs yb:=Zan yD
theorem Zao:Ws.Ok:=aR { still:=[4,5,6]} [] [WR] ⟨Zb1,au⟩
def Yy(F:Nat)(a0:Int)(a1:Int)(a2:aOP):yO (Bool):=
 (Xe F a2 a0 a1).bind λa=>
 ab (!a.1)
def Zs8(F:Nat):Fs yb:=⟨209,[.v yI,.v yI,.v aON],[],[yI,yI,aON],(zN .bool),λx=>Yy F x.1 x.2.1 x.2.2⟩
def LQ:Fs yb:=Zs8 yD
theorem Zjh:LQ.Ok:=aR { still:=[6,7,8]} [] [Ws] ⟨Zao,au⟩
def xb(F:Nat)(a0:Cond):yO (Bool):=
 (Yy F 0 1 [a0.1]).bind λa=>
 if a=af then
  (Yy F 1 1048576 [a0.2.1]).bind λb=>
  if b=af then
   (Yy F 1 1125899906842624 [a0.2.2.1]).bind λc=>
   if c=af then
    (Yy F 1 1048576 [a0.2.2.2.2]).bind λd=>
    if d=af then
     (YA F a0.2.2.2.1).bind λe=>
     if e=af then
      ab (a0.2.2.2.1 !=1)
     else
     ab ag
    else
    ab ag
   else
   ab ag
  else
  ab ag
 else
 ab ag
def ZxA(F:Nat):Fs yb:=⟨210,[.v Xb],[],[Xb],(zN .bool),λx=>xb F x⟩
def ZpA:Fs yb:=ZxA yD
theorem ZxB:ZpA.Ok:=aR { still:=[2,5,10,16,22,27]} [] [LQ,XP] ⟨Zjh,Xt,au⟩
def WI(F:Nat)(s:(Int×aOP×Int×Int)):yO ((Int×aOP×Int×Int)⊕(Int⊕Int)):=
 if(ah (s.2.2.2 < s.2.2.1))=af then
  (idx s.2.1 s.2.2.2).bind λa=>
  if(a !=s.1)=af then
   ab (.inr (.inl a))
  else
  ab (.inl (s.1,s.2.1,s.2.2.1,wi (s.2.2.2+1)))
 else
 ab (.inr (.inr s.1))
def ZmC:Lp:=⟨[(3,.v yI),(6,.v aON),(7,.v yI),(8,.v yI)],[],[yI,aON,yI,yI],[⟨.ret,[(2,.v yI)],[],[yI]⟩,⟨.exit 0,[(3,.v yI)],[],[yI]⟩],Zc (WI yD) yD⟩
theorem ZqX:ZmC.bA yb 159 0:=Zv { still:=[2]} [] [] trivial
def sL(F:Nat)(a0:aOP):yO (Int):=
 (Zc (WI F) F (0,a0,(a0.length:Int),0)).bind λa=>
 match a with
 |.inl b=>
  ab b
 |.inr c=>
  ab c
def ZxC(F:Nat):Fs yb:=⟨159,[.v aON],[],[aON],(zN yI),λx=>sL F x⟩
def LR:Fs yb:=ZxC yD
theorem ZmD:LR.Ok:=aR { still:=[2]} [(0,ZmC)] [] trivial ⟨ZqX,au⟩
def xc(F:Nat)(a0:Int):yO (Bool):=
 ab (a0 !=a0)
def ZqY(F:Nat):Fs yb:=⟨218,[.v yI],[],[yI],(zN .bool),λx=>xc F x⟩
def Zji:Fs yb:=ZqY yD
theorem ZqZ:Zji.Ok:=aR { still:=[2]} [] [] trivial
def YB(F:Nat)(a0:Int)(a1:Int):yO (Int):=
 (xc F a0).bind λa=>
 (xc F a1).bind λb=>
 if a=af then
  if b=af then
   ab 0
  else
  ab (-1)
 else
 if b=af then
  ab 1
 else
 if(ah (a0 < a1))=af then
  ab (-1)
 else
 if(ah (a0 > a1))=af then
  ab 1
 else
 ab 0
def ZnP(F:Nat):Fs yb:=⟨160,[.v yI,.v yI],[],[yI,yI],(zN yI),λx=>YB F x.1 x.2⟩
def LS:Fs yb:=ZnP yD
theorem Ze8:LS.Ok:=aR { still:=[4,7,9]} [] [Zji] ⟨ZqZ,au⟩
def xf(F:Nat)(a0:Cond)(a1:Cond):yO (Int):=
 (YB F a0.1 a1.1).bind λa=>
 (YB F a0.2.1 a1.2.1).bind λb=>
 (sL F [a,b]).bind λc=>
 ab c
def Zv0(F:Nat):Fs yb:=⟨211,[.v Xb,.v Xb],[],[Xb,Xb],(zN yI),λx=>xf F x.1 x.2⟩
def ZmE:Fs yb:=Zv0 yD
theorem Zv1:ZmE.Ok:=aR { still:=[4,6,8,11,13,15]} [] [LS,LR] ⟨Ze8,ZmD,au⟩
abbrev _root_.aOT:Go.Ev.Ty:=.sl Xb
abbrev _root_.aOZ:Go.Ev.Ty:=.arr 2 yI
abbrev ZF:Ty:=(.st [yI,aOZ,aOT,yI])
abbrev _root_.aOX:=yL Cond
abbrev yG:Type:=(Int×aOP×aOX×Int)
def VA(F:Nat)(s:(Int×Int×Int×aOX×Int×Int×yG)):yO ((Int×Int×Int×aOX×Int×Int×yG)⊕(Int×Int×yG)):=
 if(ah (s.2.2.2.2.2.1 < s.2.2.2.2.1))=af then
  (idx s.2.2.2.1 s.2.2.2.2.2.1).bind λa=>
  if(a.1==(wi (1 - s.1)))=af then
   ab (.inl (s.1,wi (s.2.1+1),wi (s.2.2.1+a.2.2.1),s.2.2.2.1,s.2.2.2.2.1,wi (s.2.2.2.2.2.1+1),s.2.2.2.2.2.2))
  else
  ab (.inl (s.1,s.2.1,s.2.2.1,s.2.2.2.1,s.2.2.2.2.1,wi (s.2.2.2.2.2.1+1),s.2.2.2.2.2.2))
 else
 ab (.inr (s.2.1,s.2.2.1,s.2.2.2.2.2.2))
def ZhK:Lp:=⟨[(1,.v yI),(6,.v yI),(7,.v yI),(11,.v aOT),(12,.v yI),(13,.v yI)],[.var (.v ZF) af],[yI,yI,yI,aOT,yI,yI,ZF],[⟨.exit 0,[(6,.v yI),(7,.v yI)],[.var (.v ZF) af],[yI,yI,ZF]⟩],Zc (VA yD) yD⟩
theorem ZlY:ZhK.bA yb 212 0:=Zv { still:=[4,5]} [] [] trivial
def xg(F:Nat)(a0:yG)(a1:Int):yO ((Int×Int)):=
 (Zc (VA F) F (a1,0,0,a0.2.2.1,(a0.2.2.1.length:Int),0,a0)).bind λa=>
 ab (a.1,a.2.1)
def Zq0(F:Nat):Fs yb:=⟨212,[.v ZF,.v yI],[],[ZF,yI],[⟨.ret,[(0,.bj [.v yI,.v yI])],[],[yI,yI]⟩],λx=>xg F x.1 x.2⟩
def Zjj:Fs yb:=Zq0 yD
theorem Zq1:Zjj.Ok:=aR { still:=[4,5]} [(0,ZhK)] [] trivial ⟨ZlY,au⟩
def QP(F:Nat)(s:(Int×aOX×Int×Int×yG)):yO ((Int×aOX×Int×Int×yG)⊕(Int×yG)):=
 if(ah (s.2.2.2.1 < s.2.2.1))=af then
  (idx s.2.1 s.2.2.2.1).bind λa=>
  ab (.inl (wi (s.1+a.2.2.1),s.2.1,s.2.2.1,wi (s.2.2.2.1+1),s.2.2.2.2))
 else
 ab (.inr (s.1,s.2.2.2.2))
def ZkM:Lp:=⟨[(3,.v yI),(14,.v aOT),(15,.v yI),(16,.v yI)],[.var (.v ZF) af],[yI,aOT,yI,yI,ZF],[⟨.exit 0,[(3,.v yI)],[.var (.v ZF) af],[yI,ZF]⟩],Zc (QP yD) yD⟩
theorem ZpB:ZkM.bA yb 213 0:=Zv { still:=[2]} [] [] trivial
end
end Go.Proofs.YtekdgjajmennjaaGreat
end
