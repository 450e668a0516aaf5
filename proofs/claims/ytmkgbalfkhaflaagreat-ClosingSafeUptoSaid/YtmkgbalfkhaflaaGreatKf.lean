/- Parts of the proof, in one file. -/
import Derived.Test.YtmkgbalfkhaflaaGreatKe
open Bool renaming and_eq_true → yj, eq_iff_iff → yck
open Go.Proofs.Tryz renaming prog → yc
open Int renaming tmod → yar, toNat_natCast → ybq
open List renaming length_append → yp, getElem?_eq_some_iff → yr, replicate → yy, length_map → yz, getElem?_eq_getElem → yac, map_cons → yaf, length_cons → yag, length_take → yai, append_assoc → yaj, getElem?_map → yal, getElem?_eq_none → yao, getElem?_cons_succ → yap, getElem?_cons_zero → yas, getElem?_append_right → yat, mem_cons_self → yav, mem_cons_of_mem → yaw, map_append → yax, length_set → ybj, take_length → ybl, take_append_drop → ybn, ext_getElem? → ybp, length_drop → ybv, mem_of_mem_take → yby, map_take → ycb, length_replicate → ycp, getElem?_set_self → ycr, getD_eq_getElem?_getD → ycx, getElem?_set_ne → yda
open Nat renaming add → yu, shiftRight → yae, mod_eq_of_lt → yah, mod_lt → ybb, two_pow_add_eq_or_of_lt → ycy, shiftRight_eq_div_pow → ydc
open Option renaming bind_some → ya, bind → ybu
open UInt32 renaming toNat → yam, ofNat → ybs, toNat_ofNat' → yco
open UInt64 renaming ofNat → yad, toNat_ofNat' → yba, toNat_lt → ybr, lt_iff_toNat_lt → ybz, toNat_inj → ycf, le_iff_toNat_le → ycs
open UInt8 renaming toNat → yak, ofNat → yau
set_option linter.unusedVariables false
set_option linter.unusedSimpArgs false
section
set_option maxRecDepth 4000
namespace Go.Proofs.YtmkgbalfkhaflaaGreat
open Go Go.Ev Go.Sha
theorem Zha(x:UInt32)(n k:Nat)(h:n+k=32)(hn:0 < n){z:Int}(hz:((w64 z)&&&31).toNat=k):∃o,ZR fuel x z=some o∧o.toNat=lo (yae (dbl x.toNat) n):=by
 refine⟨_,rfl, ?_⟩;have e1:((((w64 z)&&&31).toNat:Int)).toNat=k:=by rw[hz];rfl
 have e2:(32 - ((w64 z)&&&31)).toNat=n:=by
  have h1:((w64 z)&&&31)=yad k:=ycf.1 (by rw[hz,yba];omega);rw[h1,UInt64.toNat_sub,yba];show(2 ^ 64 - k % 2 ^ 64+32) % 2 ^ 64=n;omega
 rw[e1,show((((32 - ((w64 z)&&&31)).toNat:Nat):Int)).toNat=n by rw[e2];rfl,Nat.min_eq_left (by omega),Nat.min_eq_left (by omega)];exact ZH3 x h hn
theorem ZJo{l:List UInt8}{a b c d:UInt8}(ha:l[0]? =some a)(hb:l[1]? =some b)(hc:l[2]? =some c)(hd:l[3]? =some d):∃o,ZeN fuel l=some o∧o.toNat=((a.toNat*256+b.toNat)*256+c.toNat)*256+d.toNat:=by
 unfold ZeN;rw[ZgC (i:=0) (by omega) ha,ZgC (i:=1) (by omega) hb,ZgC (i:=2) (by omega) hc,ZgC (i:=3) (by omega) hd];refine⟨_,rfl, ?_⟩;have h1:=a.toNat_lt;have h2:=b.toNat_lt;have h3:=c.toNat_lt;have h4:=d.toNat_lt
 have hs:∀(x:UInt8)(n:Nat),n≤24→(ZaS (ybs x.toNat) n).toNat=x.toNat*2 ^ n:=by
  intro x n hn;have hx:=x.toNat_lt;unfold ZaS;rw[yco,yco,yah (a:=x.toNat) (by omega)];refine yah ?_
  calc x.toNat*2 ^ n < 2 ^ 8*2 ^ n:=Nat.mul_lt_mul_of_pos_right hx (Nat.two_pow_pos n)
   _=2 ^ (8+n):=(Nat.pow_add ..).symm
   _≤2 ^ 32:=Nat.pow_le_pow_right (by omega) (by omega)
 rw[ZwN,ZwN,ZwN,hs _ _ (by omega),hs _ _ (by omega),hs _ _ (by omega),yco,yah (a:=d.toNat) (by omega)]
 have k1:Nat.lor (a.toNat*2 ^ 24) (b.toNat*2 ^ 16)=2 ^ 16*(a.toNat*256+b.toNat):=by
  rw[Nat.mul_comm a.toNat,show Nat.lor (2 ^ 24*a.toNat) (b.toNat*2 ^ 16)=2 ^ 24*a.toNat|||b.toNat*2 ^ 16 from rfl, ←ycy (by omega)]
  omega
 have k2:Nat.lor (2 ^ 16*(a.toNat*256+b.toNat)) (c.toNat*2 ^ 8)=2 ^ 8*((a.toNat*256+b.toNat)*256+c.toNat):=by
  rw[show Nat.lor (2 ^ 16*(a.toNat*256+b.toNat)) (c.toNat*2 ^ 8)=2 ^ 16*(a.toNat*256+b.toNat)|||c.toNat*2 ^ 8 from rfl, ←ycy (by omega)]
  omega
 rw[k1,k2,show Nat.lor (2 ^ 8*((a.toNat*256+b.toNat)*256+c.toNat)) d.toNat=2 ^ 8*((a.toNat*256+b.toNat)*256+c.toNat)|||d.toNat from rfl, ←ycy (by omega)]
 omega
theorem ZFM{l:List UInt8}(h:l.length=64):∃o,Zby fuel l=some o∧o.length=64∧∀(i:Nat)x,i < 64→o[i]? =some x→x.toNat=wd (Yg (l.map yak)) i:=by
 unfold Zby;generalize hz:([0,0,0,0,0,0,0,0,0,0,0,0,0,0,0,0,0,0,0,0,0,0,0,0,0,0,0,0,0,0,0,0,0,0,0,0,0,0,0,0,0,0,0,0,0,0,0,0,0,0,0,0,0,0,0,0,0,0,0,0,0,0,0,0]:List UInt32)=z;have hzl:z.length=64:=by rw[←hz];rfl
 refine Exists.elim (WF (step:=V8 fuel) (λs=>s.1=l∧0≤s.2.1∧s.2.1≤64∧s.2.2.length=64∧∀(j:Nat)x,(j:Int) < s.2.1→s.2.2[j]? =some x→x.toNat=wd (Yg (l.map yak)) j) (λs=>(64 - s.2.1).toNat)
  (λo=>o.length=64∧∀(j:Nat)x,j < 64→o[j]? =some x→x.toNat=wd (Yg (l.map yak)) j) ?_ (l,(0:Int),z) ⟨rfl,Int.le_refl _,by dsimp only;omega,hzl,λj x hj=>by dsimp only at hj;omega⟩ (by dsimp only;omega)) ?_
 rotate_left
 ·rintro o ⟨h1,h2⟩;exact⟨o,by rw[h1];rfl,h2⟩
 ·rintro⟨b,i,w⟩ ⟨hb,h0,h64,hw,hv⟩;dsimp only at hb h0 h64 hw hv;subst hb;unfold V8;dsimp only
  have hset:∀(y:UInt32),y.toNat=wd (Yg (b.map yak)) i.toNat→i < 64→∀(j:Nat)x,(j:Int) < i+1→(w.set i.toNat y)[j]? =some x→x.toNat=wd (Yg (b.map yak)) j:=by
   intro y hy hi j x hj hx;by_cases hji:j=i.toNat
   ·subst hji;rw[ycr (by omega)] at hx;cases hx;exact hy
   ·rw[yda (Ne.symm hji)] at hx;exact hv j x (by omega) hx
  by_cases hi:i < 64
  ·left;rw[if_pos (decide_eq_true hi)];obtain⟨e,he⟩:=Zbh (l:=w) (i:=i.toNat) (by omega);by_cases h16:i < 16
   ·rw[if_pos (decide_eq_true h16),ZD (z:=4*i) (by omega) (by omega),if_pos (by simp only[Za2,yj,decide_eq_true_eq];omega)];have g:∀k:Nat,k < 4→∃x,b[4*i.toNat+k]? =some x:=λk hk=>Zbh (by omega);obtain⟨x0,g0⟩:=g 0 (by omega);obtain⟨x1,g1⟩:=g 1 (by omega);obtain⟨x2,g2⟩:=g 2 (by omega);obtain⟨x3,g3⟩:=g 3 (by omega);have e4:(4*i).toNat=4*i.toNat:=by omega
    obtain⟨o,ho,hoe⟩:=ZJo (l:=b.drop (4*i).toNat) (by rw[List.getElem?_drop,e4];exact g0) (by rw[List.getElem?_drop,e4];exact g1) (by rw[List.getElem?_drop,e4];exact g2) (by rw[List.getElem?_drop,e4];exact g3);rw[ho,ya,if_pos (Xf h0 (by omega)),he,ya,ZD (z:=i+1) (by omega) (by omega)];refine⟨_,rfl,⟨rfl,by dsimp only;omega,by dsimp only;omega,by dsimp only;rw[ybj];exact hw,hset o ?_ hi⟩,by dsimp only;omega⟩;have mg:∀(k:Nat)(x:UInt8),b[k]? =some x→(b.map yak)[k]? =some x.toNat:=λk x hx=>by rw[yal,hx];rfl
    have hwg:=Zkz i.toNat (b.map yak) _ _ _ _ (mg _ _ g0) (mg _ _ g1) (mg _ _ g2) (mg _ _ g3);rw[hoe];have b0:=x0.toNat_lt;have b1:=x1.toNat_lt;have b2:=x2.toNat_lt;have b3:=x3.toNat_lt;exact(ZyL _ (by omega) hwg (by omega)).symm
   ·rw[if_neg (by simpa using h16)];rw[ZD (z:=i - 15) (by omega) (by omega),ZD (z:=i - 2) (by omega) (by omega),ZD (z:=i - 16) (by omega) (by omega),ZD (z:=i - 7) (by omega) (by omega),ZD (z:=i+1) (by omega) (by omega)];obtain⟨e1,he1⟩:=Zbh (l:=w) (i:=(i - 15).toNat) (by omega);obtain⟨e2,he2⟩:=Zbh (l:=w) (i:=(i - 2).toNat) (by omega);obtain⟨e3,he3⟩:=Zbh (l:=w) (i:=(i - 16).toNat) (by omega);obtain⟨e4,he4⟩:=Zbh (l:=w) (i:=(i - 7).toNat) (by omega);have v1:=hv _ _ (by omega) he1;have v2:=hv _ _ (by omega) he2;have v3:=hv _ _ (by omega) he3;have v4:=hv _ _ (by omega) he4;rw[if_pos (Xf (by omega) (by omega)),he1,ya,if_pos (Xf (by omega) (by omega)),he2,ya];obtain⟨o1,ho1,p1⟩:=Zha e1 7 25 rfl (by omega) (z:= -7) rfl;obtain⟨o2,ho2,p2⟩:=Zha e1 18 14 rfl (by omega) (z:= -18) rfl;obtain⟨o3,ho3,p3⟩:=Zha e2 17 15 rfl (by omega) (z:= -17) rfl;obtain⟨o4,ho4,p4⟩:=Zha e2 19 13 rfl (by omega) (z:= -19) rfl;rw[ho1,ya,ho2,ya,ho3,ya,ho4,ya];rw[if_pos (Xf (by omega) (by omega)),he3,ya,if_pos (Xf (by omega) (by omega)),he4,ya]
    try dsimp only
    rw[if_pos (Xf h0 (by omega)),he,ya];refine⟨_,rfl,⟨rfl,by dsimp only;omega,by dsimp only;omega,by dsimp only;rw[ybj];exact hw,hset _ ?_ hi⟩,by dsimp only;omega⟩;have hn:=ZwO (Yg (b.map yak)) (i - 16).toNat
    rw[show(i - 16).toNat+16=i.toNat by omega,show(i - 16).toNat+1=(i - 15).toNat by omega,show(i - 16).toNat+9=(i - 7).toNat by omega,show(i - 16).toNat+14=(i - 2).toNat by omega, ←v1, ←v2, ←v3, ←v4] at hn;rw[hn];rw[QW,QW,QW,ZKi e1 p1 p2,ZKj e2 p3 p4];exact ZKo ..
  ·right;rw[if_neg (by simpa using hi)];exact⟨_,rfl,hw,λj x hj hx=>hv j x (by omega) hx⟩
theorem ZFN{st:List UInt32}{l:List UInt8}(hs:st.length=8)(h:l.length=64):∃o,VR fuel st l=some o∧o.map yam=ZiB (st.map yam) (Yg (l.map yak)):=by
 unfold VR;obtain⟨w,hw,hwl,hwv⟩:=ZFM h;obtain⟨k,hk,hkv⟩:∃k,Zkv fuel=some k∧k.map yam=ks:=⟨_,rfl,rfl⟩;have hkl:k.length=64:=by rw[←yz (f:=yam),hkv];rfl
 generalize hws:Yg (l.map yak)=ws at hwv;rw[hw,ya,hk,ya]
 refine Exists.elim (WF (step:=VE fuel) (λs=>0≤s.1∧s.1≤64∧s.2.1=st∧s.2.2.2.1=w∧s.2.2.2.2.1=k∧s.2.2.2.2.2.length=8∧s.2.2.2.2.2.map yam=rs ws (st.map yam) s.1.toNat) (λs=>(64 - s.1).toNat)
  (λo=>o.1=st∧o.2.2.2.2.length=8∧o.2.2.2.2.map yam=rs ws (st.map yam) 64) ?_ ((0:Int),st,([0,0,0,0,0,0,0,0]:List UInt32),w,k,st) ⟨Int.le_refl _,by dsimp only;omega,rfl,rfl,rfl,hs,rfl⟩ (by dsimp only;omega)) ?_
 rotate_left
 ·rintro o ⟨h1,p0,p1,p2⟩;rw[h1,ya];have hml:(ZiB (st.map yam) ws).length=8:=ZfJ (by rw[yz];exact hs)
  refine Exists.elim (WF (step:=VF fuel) (λs=>0≤s.1∧s.1≤8∧s.2.1=st∧s.2.2.2.2.2.length=8∧(∀(j:Nat)x,s.2.2.2.2.2[j]? =some x→if(j:Int) < s.1 then(ZiB (st.map yam) ws)[j]? =some x.toNat else(rs ws (st.map yam) 64)[j]? =some x.toNat)) (λs=>(8 - s.1).toNat)
   (λo=>o.2.2.2.2.map yam=ZiB (st.map yam) ws) ?_ ((0:Int),o.1,o.2.1,o.2.2.1,o.2.2.2.1,o.2.2.2.2) ⟨Int.le_refl _,by dsimp only;omega,p0,p1,λj x hx=>by
     dsimp only at hx ⊢;rw[if_neg (by omega), ←p2,yal,hx];rfl⟩ (by dsimp only;omega)) ?_
  rotate_left
  ·rintro q ⟨h2,q2⟩;rw[h2,ya];exact⟨_,rfl,q2⟩
  ·rintro⟨i,a,b,c,d,e⟩ ⟨h0,h8,ha,he,hv⟩;dsimp only at h0 h8 ha he hv;subst ha;unfold VF;dsimp only;by_cases hi:i < 8
   ·left;obtain⟨e1,he1⟩:=Zbh (l:=e) (i:=i.toNat) (by omega);obtain⟨e2,he2⟩:=Zbh (l:=a) (i:=i.toNat) (by omega);simp only[decide_eq_true hi,if_true,Xf h0 (show i < ((8:Nat):Int) by omega),he1,he2,ya];rw[ZD (z:=i+1) (by omega) (by omega)];refine⟨_,rfl,⟨by dsimp only;omega,by dsimp only;omega,rfl,by dsimp only;rw[ybj];exact he, ?_⟩,by dsimp only;omega⟩;intro j x hx;dsimp only at hx ⊢;by_cases hji:j=i.toNat
    ·subst hji;rw[ycr (by omega)] at hx;cases hx;rw[if_pos (by omega),QW];have k1:=hv _ _ he1;rw[if_neg (by omega)] at k1;unfold ZiB;rw[List.getElem?_zipWith,k1,yal,he2];rfl
    ·rw[yda (Ne.symm hji)] at hx;have k1:=hv j x hx;by_cases hj:(j:Int) < i
     ·rw[if_pos hj] at k1;rw[if_pos (by omega)];exact k1
     ·rw[if_neg hj] at k1;rw[if_neg (by omega)];exact k1
   ·right;rw[if_neg (by simpa using hi)];refine⟨_,rfl, ?_⟩;dsimp only;apply ybp;intro j;rw[yal];by_cases hj:j < 8
    ·obtain⟨x,hx⟩:=Zbh (l:=e) (i:=j) (by omega);have:=hv j x hx;rw[if_pos (by omega)] at this;rw[hx,this];rfl
    ·rw[yao (by omega),yao (by omega)];rfl
 ·rintro⟨i,a,b,c,d,e⟩ ⟨h0,h64,ha,hc,hd,he,hv⟩;dsimp only at h0 h64 ha hc hd he hv;subst ha hc hd;unfold VE;dsimp only;by_cases hi:i < 64
  ·left
   match e,he,hv with
   |[x0,x1,x2,x3,x4,x5,x6,x7],_,hv=>
    obtain⟨e1,he1⟩:=Zbh (l:=d) (i:=i.toNat) (by omega);obtain⟨e2,he2⟩:=Zbh (l:=c) (i:=i.toNat) (by omega);obtain⟨o1,ho1,p1⟩:=Zha x4 6 26 rfl (by omega) (z:= -6) rfl;obtain⟨o2,ho2,p2⟩:=Zha x4 11 21 rfl (by omega) (z:= -11) rfl;obtain⟨o3,ho3,p3⟩:=Zha x4 25 7 rfl (by omega) (z:= -25) rfl;obtain⟨o4,ho4,p4⟩:=Zha x0 2 30 rfl (by omega) (z:= -2) rfl;obtain⟨o5,ho5,p5⟩:=Zha x0 13 19 rfl (by omega) (z:= -13) rfl;obtain⟨o6,ho6,p6⟩:=Zha x0 22 10 rfl (by omega) (z:= -22) rfl;generalize ZR fuel=R at ho1 ho2 ho3 ho4 ho5 ho6 ⊢;rw[if_pos (decide_eq_true hi)];simp only[yas,yap];rw[ya,ho1,ya,ya,ho2,ya,ya,ho3,ya,ya,ya,ya,ya,ya];rw[if_pos (Xf h0 (show i < ((64:Nat):Int) by omega)),he1,ya,if_pos (Xf h0 (show i < ((64:Nat):Int) by omega)),he2,ya,ya,ho4,ya,ya,ho5,ya,ya,ho6];rw[ya,ya,ya,ya,ya,ya];rw[ya,ya,ya,ya,ya,ya,ya];rw[ZD (z:=i+1) (by omega) (by omega)];refine⟨_,rfl,⟨by dsimp only;omega,by dsimp only;omega,rfl,rfl,rfl,rfl, ?_⟩,by dsimp only;omega⟩;dsimp only;rw[show(i+1).toNat=i.toNat+1 by omega,show rs ws (a.map yam) (i.toNat+1)=rnd (rs ws (a.map yam) i.toNat) (ks.getD i.toNat 0) (wd ws i.toNat) from rfl, ←hv]
    have hk1:ks.getD i.toNat 0=e1.toNat:=by
     rw[←hkv,ycx,yal,he1];rfl
    rw[hk1, ←hwv i.toNat e2 (by omega) he2];simp only[yaf,List.map_nil];rw[ZsY]
    have kt:((x7+((o1^^^o2)^^^o3))+(x6^^^(x4&&&(x5^^^x6)))+e1+e2).toNat=lo (yu (yu (yu (yu x7.toNat (S1 x4.toNat)) (ch x4.toNat x5.toNat x6.toNat)) e1.toNat) e2.toNat):=by
     rw[QW,QW,QW,QW,ZKl x4 p1 p2 p3,ZKm];exact ZKp ..
    have ka:((x7+((o1^^^o2)^^^o3))+(x6^^^(x4&&&(x5^^^x6)))+e1+e2+((o4^^^o5)^^^o6)+((x0&&&x1)|||(x2&&&(x0|||x1)))).toNat=lo (yu (yu (yu (yu (yu (yu x7.toNat (S1 x4.toNat)) (ch x4.toNat x5.toNat x6.toNat)) e1.toNat) e2.toNat) (S0 x0.toNat)) (mj x0.toNat x1.toNat x2.toNat)):=by
     rw[QW,QW,kt,ZKk x0 p4 p5 p6,ZKn];exact ZKq ..
    have ke:(x3+(((x7+((o1^^^o2)^^^o3))+(x6^^^(x4&&&(x5^^^x6))))+e1+e2)).toNat=lo (yu x3.toNat (yu (yu (yu (yu x7.toNat (S1 x4.toNat)) (ch x4.toNat x5.toNat x6.toNat)) e1.toNat) e2.toNat)):=by
     rw[QW,kt];exact ZKr ..
    rw[ka,ke]
  ·right;rw[if_neg (by simpa using hi)];have e64:i=64:=by omega
   subst e64;exact⟨_,rfl,rfl,he,hv⟩
def ZDg(n:Nat):List UInt8:=(be8 n).map yau
theorem ZBT{n:Nat}{b:List UInt8}(h:b.length≤1000000000000):W7 fuel (n:Int) b=some (b++ZDg n):=by
 unfold W7
 obtain⟨o,h1,h2⟩:=WF (step:=QP fuel) (λs=>∃k:Nat,k≤8∧s.1=(n:Int)∧s.2.1=56 - 8*(k:Int)∧s.2.2.1=b++(ZDg n).take k) (λs=>(s.2.1+8).toNat) (λo=>o.1=b++ZDg n) (by
  rintro⟨a,i,c,d⟩ ⟨k,hk,ha,hi,hc⟩;dsimp only at ha hi hc;subst ha;unfold QP;dsimp only;have hcl:c.length≤b.length+8:=by rw[hc,yp,yai];omega
  by_cases h0:i ≥ 0
  ·left;rw[if_pos (decide_eq_true h0),if_pos (decide_eq_true h0),if_pos (Yj (by omega) (by omega)),ZD (z:=i - 8) (by omega) (by omega)];refine⟨_,rfl,⟨k+1,by omega,rfl,by dsimp only;omega, ?_⟩,by dsimp only;omega⟩;dsimp only
   have hw:∀m:Nat,w8 (Int.fdiv (n:Int) (2 ^ m))=yau (n / 2 ^ m % 256):=by
    intro m;unfold w8;rw[Int.fdiv_eq_ediv_of_nonneg _ (by exact Int.le_of_lt (Int.pow_pos (by omega)))];congr 1
   have hmin:min i.toNat 64=56 - 8*k:=by omega
   rw[hmin,hw,hc,yaj];congr 1;have hk8:k < 8:=by omega
   match k,hk8 with
   |0,_=>rfl
   |1,_=>rfl
   |2,_=>rfl
   |3,_=>rfl
   |4,_=>rfl
   |5,_=>rfl
   |6,_=>rfl
   |7,_=>
    show _++[yau (n / 2 ^ 0 % 256)]=_;rw[Nat.pow_zero,Nat.div_one];rfl
  ·right;rw[if_neg (by simpa using h0)];have hk8:k=8:=by omega
   subst hk8;exact⟨_,rfl,hc⟩) (((n:Int),(56:Int),b,([]:List UInt8))) ⟨0,by omega,rfl,by simp,by simp⟩ (by dsimp only;omega)
 rw[h1,ya,h2]
theorem ZJp{l:List UInt8}(h:l.length≤4294967296):ZfI fuel l=some (sha l):=by
 unfold ZfI
 have hm:yar (l.length:Int) 64=((l.length % 64:Nat):Int):=by
  rw[Int.tmod_eq_emod_of_nonneg (by omega)];omega
 have hlt:l.length % 64 < 64:=ybb _ (by omega);have hle:l.length % 64≤l.length:=Nat.mod_le _ _;rw[hm,ZD (z:=(l.length:Int) - ((l.length % 64:Nat):Int)) (by omega) (by omega)];dsimp only;rw[if_pos (by simp only[Za2,yj,decide_eq_true_eq];omega)];have hq:((l.length:Int) - ((l.length % 64:Nat):Int)).toNat=64*(l.length / 64):=by omega
 rw[hq]
 have hdl:(l.drop (64*(l.length / 64))).length=l.length % 64:=by
  rw[ybv];omega
 generalize ht:l.drop (64*(l.length / 64))=t at hdl
 have hcl:Yc fuel t=some t:=by
  unfold Yc;rw[if_pos (Yj (by omega) (by omega))]
 rw[hcl,ya,if_pos (Yj (by omega) (by omega))];generalize hz:yzz=z;have hzl:z.length=32:=by rw[←hz];rfl
 have hzs:zs l.length=(119 - t.length) % 64:=by unfold zs;rw[hdl]
 obtain⟨o,h1,p1,p2,p3⟩:=WF (step:=ZcQ fuel) (λs=>s.1=l∧s.2.1=z∧∃j,j≤zs l.length∧s.2.2=t++([128]:List UInt8)++yy j 0) (λs=>184 - s.2.2.length)
  (λo=>o.1=l∧o.2.1=z∧o.2.2=t++([128]:List UInt8)++yy (zs l.length) 0) (by
  rintro⟨a,b,c⟩ ⟨k1,k2,j,k3,k4⟩;dsimp only at k1 k2 k3 k4;have hcl:c.length=t.length+1+j:=by rw[k4,yp,yp,ycp];rfl
  unfold ZcQ;dsimp only
  have hm:yar (c.length:Int) 64=((c.length % 64:Nat):Int):=by
   rw[Int.tmod_eq_emod_of_nonneg (by omega)];omega
  rw[hm];by_cases hi:c.length % 64=56
  ·right;rw[if_neg (by simp;omega)];have:j=zs l.length:=by omega
   subst this;exact⟨_,rfl,k1,k2,k4⟩
  ·left;rw[if_pos (by simp;omega),if_pos (Yj (by omega) (by omega))];have hj:j≠zs l.length:=λe=>hi (by omega);refine⟨_,rfl,⟨k1,k2,j+1,by omega, ?_⟩, ?_⟩
   ·dsimp only;rw[k4,yaj,List.replicate_succ',yaj]
   ·dsimp only;rw[yp,List.length_singleton];omega) (l,z,t++([128]:List UInt8)) ⟨rfl,rfl,0,Nat.zero_le _,by simp⟩ (by dsimp only;omega)
 rw[h1,ya,p1,p2,p3,ZD (z:=8*(l.length:Int)) (by omega) (by omega),show 8*(l.length:Int)=((8*l.length:Nat):Int) by omega,ZBT (by
  rw[yp,yp,ycp];simp;omega),ya]
 obtain⟨f,hf,hfl⟩:∃f,Zku fuel=some f∧f.map yam=Zcv:=⟨_,rfl,rfl⟩;have hf8:f.length=8:=by rw[←yz (f:=yam),hfl];rfl
 rw[hf,ya];generalize hE:t++([128]:List UInt8)++yy (zs l.length) 0++ZDg (8*l.length)=E
 have hEl:E.length=64*((t.length+72) / 64):=by
  rw[←hE];simp only[yp,ycp,List.length_singleton,ZDg,yz,be8,yag,List.length_nil];omega
 obtain⟨o3,h3,r1,r2,r3,r4⟩:=WF (step:=ZcR fuel) (λs=>s.2.1=z∧s.2.2.1=E∧s.2.2.2.length=8∧∃c,c≤l.length / 64∧s.1=l.drop (64*c)∧s.2.2.2.map yam=ZfK c (l.map yak) Zcv) (λs=>s.1.length)
  (λx=>x.1=z∧x.2.1=E∧x.2.2.length=8∧x.2.2.map yam=ZfK (l.length / 64) (l.map yak) Zcv) (by
  rintro⟨a,b,c,d⟩ ⟨k1,k2,k3,j,k4,k5,k6⟩;dsimp only at k1 k2 k3 k4 k5 k6;have hal:a.length=l.length - 64*j:=by rw[k5,ybv]
  unfold ZcR;dsimp only;by_cases hi:(a.length:Int) ≥ 64
  ·left;obtain⟨m,hm1,hm2⟩:=ZFN (st:=d) (l:=a.take 64) k3 (by rw[yai];omega);rw[if_pos (decide_eq_true hi),if_pos (by simp only[Za2,yj,decide_eq_true_eq];omega),hm1,ya,if_pos (by simp only[Za2,yj,decide_eq_true_eq];omega)];refine⟨_,rfl,⟨k1,k2, ?_,j+1,by omega, ?_, ?_⟩,by dsimp only;rw[ybv];omega⟩
   ·dsimp only;rw[←yz (f:=yam),hm2];exact ZfJ (by rw[yz];exact k3)
   ·dsimp only;rw[k5,List.drop_drop];congr 1
   ·dsimp only;rw[hm2,Zlv,k6,k5,ycb,List.map_drop]
  ·right;rw[if_neg (by simpa using hi)];have:j=l.length / 64:=by omega
   subst this;exact⟨_,rfl,k1,k2,k3,k6⟩) (l,z,E,f) ⟨rfl,rfl,hf8,0,Nat.zero_le _,by simp,hfl⟩ (by dsimp only;omega)
 rw[h3,ya,r1,r2];generalize hv1:ZfK (l.length / 64) (l.map yak) Zcv=v1 at r4
 obtain⟨o4,h4,s1,s2,s3⟩:=WF (step:=ZcS fuel) (λs=>s.2.1=z∧s.2.2.2.length=8∧∃c,c≤E.length / 64∧s.1=E.drop (64*c)∧s.2.2.2.map yam=ZfK c (E.map yak) v1) (λs=>s.1.length)
  (λx=>x.1=z∧x.2.2.length=8∧x.2.2.map yam=ZfK (E.length / 64) (E.map yak) v1) (by
  rintro⟨a,b,c,d⟩ ⟨k1,k3,j,k4,k5,k6⟩;dsimp only at k1 k3 k4 k5 k6;have hal:a.length=E.length - 64*j:=by rw[k5,ybv]
  unfold ZcS;dsimp only;by_cases hi:(a.length:Int) > 0
  ·left;obtain⟨m,hm1,hm2⟩:=ZFN (st:=d) (l:=a.take 64) k3 (by rw[yai];omega);rw[if_pos (decide_eq_true hi),if_pos (by simp only[Za2,yj,decide_eq_true_eq];omega),hm1,ya,if_pos (by simp only[Za2,yj,decide_eq_true_eq];omega)];refine⟨_,rfl,⟨k1, ?_,j+1,by omega, ?_, ?_⟩,by dsimp only;rw[ybv];omega⟩
   ·dsimp only;rw[←yz (f:=yam),hm2];exact ZfJ (by rw[yz];exact k3)
   ·dsimp only;rw[k5,List.drop_drop];congr 1
   ·dsimp only;rw[hm2,Zlv,k6,k5,ycb,List.map_drop]
  ·right;rw[if_neg (by simpa using hi)];have:j=E.length / 64:=by omega
   subst this;exact⟨_,rfl,k1,k3,k6⟩) (E,z,E,o3.2.2) ⟨rfl,r3,0,Nat.zero_le _,by simp,r4⟩ (by dsimp only;omega)
 rw[h4,ya];generalize hv2:ZfK (E.length / 64) (E.map yak) v1=v2 at s3
 obtain⟨o5,h5,t1,t2⟩:=WF (step:=ZcT fuel) (λs=>0≤s.1∧s.1≤32∧s.2.1.length=32∧s.2.2.2=o4.2.2∧∀(j:Nat),(j:Int) < s.1→s.2.1[j]? =some (Go.Sha.ZFL v2 j)) (λs=>(32 - s.1).toNat)
  (λx=>x.1.length=32∧∀(j:Nat),j < 32→x.1[j]? =some (Go.Sha.ZFL v2 j)) (by
  rintro⟨i,a,b,c⟩ ⟨h0,h32,ha,hc,hv⟩;dsimp only at h0 h32 ha hc hv;subst hc;unfold ZcT;dsimp only;by_cases hi:i < 32
  ·left;rw[if_pos (decide_eq_true hi)];have e1:Int.tdiv i 4=i / 4:=Int.tdiv_eq_ediv_of_nonneg h0;have e2:yar i 4=i % 4:=Int.tmod_eq_emod_of_nonneg h0;rw[e1,e2,ZD (z:=i / 4) (by omega) (by omega),ZD (z:=8*(i % 4)) (by omega) (by omega),ZD (z:=24 - 8*(i % 4)) (by omega) (by omega),ZD (z:=i+1) (by omega) (by omega)];obtain⟨x1,hx1⟩:=Zbh (l:=o4.2.2) (i:=(i / 4).toNat) (by omega);obtain⟨x2,hx2⟩:=Zbh (l:=a) (i:=i.toNat) (by omega);rw[if_pos (Xf (by omega) (by omega)),hx1,ya,if_pos (decide_eq_true (by omega))]
   try dsimp only
   rw[if_pos (Xf (by omega) (by omega)),hx2,ya];refine⟨_,rfl,⟨by dsimp only;omega,by dsimp only;omega,by dsimp only;rw[ybj];exact ha,rfl, ?_⟩,by dsimp only;omega⟩;intro j hj;dsimp only at hj ⊢;by_cases hji:j=i.toNat
   ·subst hji;rw[ycr (by omega)];congr 1;unfold Go.Sha.ZFL
    have hx:v2.getD (i.toNat / 4) 0=x1.toNat:=by
     rw[←s3,ycx,yal,show i.toNat / 4=(i / 4).toNat by omega,hx1];rfl
    rw[hx,show min (24 - 8*(i % 4)).toNat 32=24 - 8*(i.toNat % 4) by omega,Zu5];unfold w8;have e3:∀m:Nat,(((m:Nat):Int) % 256).toNat=m % 256:=λm=>by omega
    rw[e3,show yae x1.toNat (24 - 8*(i.toNat % 4))=x1.toNat >>> (24 - 8*(i.toNat % 4)) from rfl,ydc]
    exact UInt8.toNat_inj.1 (by simp)
   ·rw[yda (Ne.symm hji)];exact hv j (by omega)
  ·right;rw[if_neg (by simpa using hi)];exact⟨_,rfl,ha,λj hj=>hv j (by omega)⟩) ((0:Int),o4.1,o4.2.1,o4.2.2) ⟨Int.le_refl _,by dsimp only;omega,by dsimp only;rw[s1];exact hzl,rfl,λj hj=>by dsimp only at hj;omega⟩ (by dsimp only;omega)
 rw[h5,ya,ZAA];congr 1
 have hpad:ZfL l=(l.take (64*(l.length / 64))).map yak++E.map yak:=by
  unfold ZfL;rw[←hE, ←ht];simp only[yax,List.map_replicate,yaf,List.map_nil,ZDg,List.map_map];rw[←yaj, ←yaj, ←yaj, ←yax,ybn]
  have:be8 (8*l.length)=(be8 (8*l.length)).map (yak ∘ yau):=by
   simp[be8]
  rw[←this];simp
 have hw:((l.take (64*(l.length / 64))).map yak).length=64*(l.length / 64):=by
  rw[yz,yai];omega
 have hv:v2=ZfK ((l.length+72) / 64) (ZfL l) Zcv:=by
  rw[hpad,show(l.length+72) / 64=l.length / 64+E.length / 64 by omega,Zs0 _ _ _ _ _ hw, ←hv2, ←hv1];congr 1;have:=Zs0 (l.length / 64) 0 _ ((l.drop (64*(l.length / 64))).map yak) Zcv hw;rw[←yax,ybn,Nat.add_zero] at this;exact this
 rw[←hv];apply ybp;intro j;by_cases hj:j < 32
 ·rw[t2 j hj,yal,List.getElem?_range hj];rfl
 ·rw[yao (by omega),yao (by simp;omega)]
noncomputable def Ze6(F:Nat)(a0:List UInt8):Option (List UInt8):=if decide (a0.length≤4294967296)=true then some (sha a0) else ZfI F a0
noncomputable def ZyM(F:Nat):Fs yc:={ ZiA F with M:=λx=>Ze6 F x}
noncomputable def Zs2:Fs yc:=ZyM fuel
theorem ZyN:Zs2.Ok:=ZmQ (s:=ZiA fuel) ZwM λx=>by
 show Ze6 fuel x=ZfI fuel x;unfold Ze6;split
 ·rename_i h;exact(ZJp (of_decide_eq_true h)).symm
 ·rfl
theorem ZHA{l:List UInt8}(h:l.length≤4294967296):Ze6 fuel l=some (sha l):=if_pos (decide_eq_true h)
end Go.Proofs.YtmkgbalfkhaflaaGreat
end
section
set_option maxRecDepth 4000
namespace Go.Proofs.YtmkgbalfkhaflaaGreat
open Go Go.Ev
noncomputable section
def ZhO:Fs yc:=⟨116,[.nil .u8,.v yI],[],[yI],Qz.xs,λx=>Qz.M (x,([]:List UInt8))⟩
theorem Zoi:ZhO.Ok:=ZI3 (i1:=[yI]) (i2:=[yI,(.sl .u8)]) (λx=>(x,([]:List UInt8))) ZdZ (λ_=>rfl) (λ_=>⟨_,rfl⟩)
def ZeQ(F:Nat)(s:((List (List UInt8))×Int×Int×(List UInt8)×(List UInt8))):Option (((List (List UInt8))×Int×Int×(List UInt8)×(List UInt8))⊕((List UInt8)×(List UInt8))):=
 if(decide (s.2.2.1 < s.2.1))=true then
  (idx s.1 s.2.2.1).bind λe376=>
  (W7 F (e376.length:Int) s.2.2.2.2).bind λo377=>
  if(apB o377.length e376.length 1)=true then
   some (.inl (s.1,s.2.1,wi (s.2.2.1+1),s.2.2.2.1,o377++e376))
  else
  none
 else
 some (.inr (s.2.2.2.1,s.2.2.2.2))
def Zqg:Lp:=⟨[(4,.ref 0 []),(5,.own 1 .u8),(13,.v (.sl (.sl .u8))),(14,.v yI),(15,.v yI)],[.var (.v (.arr 32 .u8)) true,.log .u8 5],[(.sl (.sl .u8)),yI,yI,(.arr 32 .u8),(.sl .u8)],[⟨.exit 0,[(4,.ref 0 []),(5,.own 1 .u8)],[.var (.v (.arr 32 .u8)) true,.log .u8 5],[(.arr 32 .u8),(.sl .u8)]⟩],Zc (ZeQ fuel) fuel⟩
def ZKt:HI:={ own:=[5,10,12,19,22,24],still:=[9,19,21,26]}
theorem Zs3:Zqg.okA yc 57 0:=ZC ZKt [] [Qz] ⟨ZdZ,ytt⟩
def Zcw(F:Nat)(a0:ByteArray)(a1:(List (List UInt8))):Option ((List UInt8)):=
 (W7 F (a0.size:Int) []).bind λo375=>
 if(apB o375.length ((ZlB a0).length) 1)=true then
  (Zc (ZeQ F) F (a1,(a1.length:Int),0,yzz,o375++(ZlB a0))).bind λo378=>
  (Ze6 F o378.2).bind λo379=>
  some o379
 else
 none
def ZiC:Fs yc:=⟨57,[.v .str,.v (.sl (.sl .u8))],[],[.str,(.sl (.sl .u8))],[⟨.ret,[(0,.v (.arr 32 .u8))],[],[(.arr 32 .u8)]⟩],λx=>Zcw fuel x.1 x.2⟩
theorem ZkA:ZiC.Ok:=fnO ZKt [(0,Zqg)] [ZhO,Zs2] ⟨Zoi,ZyN,ytt⟩ ⟨Zs3,ytt⟩
def ZcU(F:Nat)(a0:(List UInt8))(a1:(List UInt8)):Option ((List UInt8)):=
 (ZaG F a0 a1).bind λo380=>
 some o380
def ZkB:Fs yc:=⟨118,[.v (.sl .u8),.v (.arr 32 .u8)],[],[(.sl .u8),(.arr 32 .u8)],[⟨.ret,[(0,.v (.sl .u8))],[],[(.sl .u8)]⟩],λx=>ZcU fuel x.1 x.2⟩
theorem ZqP:ZkB.Ok:=fnO { still:=[4,5,6],frz:=[6]} [] [ZgI] ⟨Ziv,ytt⟩
def Zbz(F:Nat)(a0:(List UInt8))(a1:(List UInt8)):Option ((List UInt8)):=
 (ZhK F (a1.length:Int)).bind λo381=>
 (YT F [a0,o381,a1]).bind λo382=>
 some o382
def Zjo:Fs yc:=⟨119,[.v (.sl .u8),.v (.sl .u8)],[],[(.sl .u8),(.sl .u8)],[⟨.ret,[(0,.v (.sl .u8))],[],[(.sl .u8)]⟩],λx=>Zbz fuel x.1 x.2⟩
theorem Zpf:Zjo.Ok:=fnO { still:=[4,7,10]} [] [ZmT,WB] ⟨Zqa,Qv,ytt⟩
def ZeR(F:Nat)(s:((List UInt8)×(List In)×Int×Int×Tx)):Option (((List UInt8)×(List In)×Int×Int×Tx)⊕((List UInt8)×Tx)):=
 if(decide (s.2.2.2.1 < s.2.2.1))=true then
  (idx s.2.1 s.2.2.2.1).bind λe384=>
  (ZcU F s.1 e384.1.1).bind λo385=>
  (WG F o385 e384.1.2).bind λo386=>
  some (.inl (o386,s.2.1,s.2.2.1,wi (s.2.2.2.1+1),s.2.2.2.2))
 else
 some (.inr (s.1,s.2.2.2.2))
def Zqh:Lp:=⟨[(1,.ref 0 []),(3,.v (.sl .u8)),(13,.v (.sl yIn)),(14,.v yI),(15,.v yI)],[.var (.v yTx) true],[(.sl .u8),(.sl yIn),yI,yI,yTx],[⟨.exit 0,[(1,.ref 0 []),(3,.v (.sl .u8))],[.var (.v yTx) true],[(.sl .u8),yTx]⟩],Zc (ZeR fuel) fuel⟩
def ZJq:HI:={ still:=[2,10,19,22,23,26,29,32,41,43,44,46,47,50,52]}
theorem Zs4:Zqh.okA yc 58 0:=ZC ZJq [] [ZkB,Zcs] ⟨ZqP,Zdg,ytt⟩
def ZeS(F:Nat)(s:((List UInt8)×(List Out)×Int×Int×Tx)):Option (((List UInt8)×(List Out)×Int×Int×Tx)⊕((List UInt8)×Tx)):=
 if(decide (s.2.2.2.1 < s.2.2.1))=true then
  (idx s.2.1 s.2.2.2.1).bind λe389=>
  (WG F s.1 e389.1).bind λo390=>
  (Vu F e389.2).bind λo391=>
  (Zbz F o390 o391).bind λo392=>
  some (.inl (o392,s.2.1,s.2.2.1,wi (s.2.2.2.1+1),s.2.2.2.2))
 else
 some (.inr (s.1,s.2.2.2.2))
def Zqi:Lp:=⟨[(1,.ref 0 []),(3,.v (.sl .u8)),(35,.v (.sl ZL)),(36,.v yI),(37,.v yI)],[.var (.v yTx) true],[(.sl .u8),(.sl ZL),yI,yI,yTx],[⟨.exit 2,[(1,.ref 0 []),(3,.v (.sl .u8))],[.var (.v yTx) true],[(.sl .u8),yTx]⟩],Zc (ZeS fuel) fuel⟩
theorem Zs5:Zqi.okA yc 58 1:=ZC ZJq [] [Zcs,Zbt,Zjo] ⟨Zdg,Q8,Zpf,ytt⟩
def Zlw(F:Nat)(a0:Tx):Option ((List UInt8)):=
 (WG F [] (a0.1.length:Int)).bind λo383=>
 (Zc (ZeR F) F (o383,a0.1,(a0.1.length:Int),0,a0)).bind λo387=>
 (WG F o387.1 (o387.2.2.1.length:Int)).bind λo388=>
 (Zc (ZeS F) F (o388,o387.2.2.1,(o387.2.2.1.length:Int),0,o387.2)).bind λo393=>
 (WG F o393.1 o393.2.2.2).bind λo394=>
 some o394
def Zs6:Fs yc:=⟨58,[.v yTx],[],[yTx],[⟨.ret,[(0,.v (.sl .u8))],[],[(.sl .u8)]⟩],λx=>Zlw fuel x⟩
theorem ZyO:Zs6.Ok:=fnO ZJq [(0,Zqh),(1,Zqi)] [Zcs] ⟨Zdg,ytt⟩ ⟨Zs4,Zs5,ytt⟩
def ZFO:ByteArray:=⟨#[116,120]⟩
def Zd0(F:Nat)(a0:Tx):Option ((List UInt8)):=
 (ZhM F a0).bind λo395=>
 if(!o395)=true then
  some yzz
 else
 (Zlw F a0).bind λo396=>
 (Zcw F ZFO [o396]).bind λo397=>
 some o397
def Zs7(F:Nat):Fs yc:=⟨20,[.v yTx],[],[yTx],[⟨.ret,[(0,.v (.arr 32 .u8))],[],[(.arr 32 .u8)]⟩],λx=>Zd0 F x⟩
def Zoj:Fs yc:=Zs7 fuel
theorem ZkC:Zoj.Ok:=fnO { still:=[3,7,9]} [] [ZmV,Zs6,ZiC] ⟨Zqe,ZyO,ZkA,ytt⟩
def QQ(F:Nat)(a0:UInt64):Option (Bool):=
 some (decide (a0 < 2305843009213688669))
def Zhb:Fs yc:=⟨112,[.v .u64],[],[.u64],[⟨.ret,[(0,.v .bool)],[],[.bool]⟩],λx=>QQ fuel x⟩
theorem ZkD:Zhb.Ok:=fnO { still:=[2]} [] [] trivial
def Zlx(F:Nat)(a0:UInt64):Option (Bool):=
 (QQ F a0).bind λo398=>
 if o398=true then
  some (a0 !=0)
 else
 some false
def Zs8:Fs yc:=⟨140,[.v .u64],[],[.u64],[⟨.ret,[(0,.v .bool)],[],[.bool]⟩],λx=>Zlx fuel x⟩
theorem ZyP:Zs8.Ok:=fnO { still:=[2,3]} [] [Zhb] ⟨ZkD,ytt⟩
def QR(F:Nat)(a0:UInt64):Option (UInt64):=
 (XM F a0).bind λo399=>
 if o399=true then
  some a0
 else
 some 1
def ZcV:Fs yc:=⟨138,[.v .u64],[],[.u64],[⟨.ret,[(0,.v .u64)],[],[.u64]⟩],λx=>QR fuel x⟩
theorem ZfM:ZcV.Ok:=fnO { still:=[2,3]} [] [VW] ⟨Qr,ytt⟩
def ZbA(F:Nat)(a0:UInt64)(a1:UInt64):Option (UInt64):=
 (QR F a0).bind λo400=>
 (QN F o400 (a1 % 2305843009213688669)).bind λo401=>
 some o401
def Zhc:Fs yc:=⟨95,[.v .u64,.v .u64],[],[.u64,.u64],[⟨.ret,[(0,.v .u64)],[],[.u64]⟩],λx=>ZbA fuel x.1 x.2⟩
theorem ZkE:Zhc.Ok:=fnO { still:=[4,5,6,8]} [] [ZcV,ZcN] ⟨ZfM,Zfv,ytt⟩
def Xu(F:Nat)(a0:UInt64):Option (UInt64):=
 (ZbA F 4 a0).bind λo402=>
 some o402
def ZbB:Fs yc:=⟨35,[.v .u64],[],[.u64],[⟨.ret,[(0,.v .u64)],[],[.u64]⟩],λx=>Xu fuel x⟩
theorem ZcW:ZbB.Ok:=fnO { still:=[2,3]} [] [Zhc] ⟨ZkE,ytt⟩
def QA(F:Nat)(s:(UInt64×(List UInt8)×Int×(List UInt8))):Option ((UInt64×(List UInt8)×Int×(List UInt8))⊕(UInt64×(List UInt8))):=
 if(decide (s.2.2.1 < 32))=true then
  (idx s.2.1 s.2.2.1).bind λe403=>
  (WK F (ZG s.1 56) ((V3 s.1 8)|||(yad e403.toNat)) 2305843009213688668).bind λo404=>
  some (.inl (o404,s.2.1,wi (s.2.2.1+1),s.2.2.2))
 else
 some (.inr (s.1,s.2.2.2))
def Zmi:Lp:=⟨[(3,.v .u64),(6,.v (.arr 32 .u8)),(7,.v yI)],[.var (.v (.arr 32 .u8)) true],[.u64,(.arr 32 .u8),yI,(.arr 32 .u8)],[⟨.exit 0,[(3,.v .u64)],[.var (.v (.arr 32 .u8)) true],[.u64,(.arr 32 .u8)]⟩],Zc (QA fuel) fuel⟩
theorem Zpg:Zmi.okA yc 142 0:=ZC { still:=[2,11,16]} [] [ZeD] ⟨ZgY,ytt⟩
def Zdj(F:Nat)(a0:(List UInt8)):Option (UInt64):=
 (Zc (QA F) F (0,a0,0,a0)).bind λo405=>
 some (o405.1+1)
def ZiD:Fs yc:=⟨142,[.v (.arr 32 .u8)],[],[(.arr 32 .u8)],[⟨.ret,[(0,.v .u64)],[],[.u64]⟩],λx=>Zdj fuel x⟩
theorem Zmj:ZiD.Ok:=fnO { still:=[2,11,16]} [(0,Zmi)] [] trivial ⟨Zpg,ytt⟩
def QB(F:Nat)(s:(UInt64×Int×Int×(List UInt8))):Option ((UInt64×Int×Int×(List UInt8))⊕(List UInt8)):=
 if(decide (s.2.2.1 < s.2.1))=true then
  if(decide (0≤wi (56 - (wi (8*s.2.2.1)))))=true then
   let y406:UInt64:=ZG s.1 (min (wi (56 - (wi (8*s.2.2.1)))).toNat 64)
   if(inB s.2.2.1 8)=true then
    (s.2.2.2[(0+s.2.2.1.toNat)]?).bind λe407=>
    let y408:(List UInt8):=s.2.2.2.set (0+s.2.2.1.toNat) (w8 (y406.toNat:Int))
    some (.inl (s.1,s.2.1,wi (s.2.2.1+1),y408))
   else
   none
  else
  none
 else
 some (.inr s.2.2.2)
def Zmk:Lp:=⟨[(0,.v .u64),(3,.view 0 [] 1 0 8),(7,.v yI),(8,.v yI)],[.var (.v (.arr 8 .u8)) true],[.u64,yI,yI,(.arr 8 .u8)],[⟨.exit 0,[(3,.view 0 [] 1 0 8)],[.var (.v (.arr 8 .u8)) true],[(.arr 8 .u8)]⟩],Zc (QB fuel) fuel⟩
theorem Zph:Zmk.okA yc 143 0:=ZC { still:=[2]} [] [] trivial
def ZaW(F:Nat)(a0:UInt64):Option ((List UInt8)):=
 (Zc (QB F) F (a0,8,0,[0,0,0,0,0,0,0,0])).bind λo409=>
 some ((o409.drop 0).take 8)
def ZiE:Fs yc:=⟨143,[.v .u64],[],[.u64],[⟨.ret,[(0,.v (.sl .u8))],[],[(.sl .u8)]⟩],λx=>ZaW fuel x⟩
theorem Zml:ZiE.Ok:=fnO { still:=[2]} [(0,Zmk)] [] trivial ⟨Zph,ytt⟩
def ZH7:ByteArray:=⟨#[115,105,103]⟩
def VS(F:Nat)(a0:UInt64)(a1:UInt64)(a2:(List UInt8)):Option (UInt64):=
 (ZaW F a0).bind λo410=>
 (ZaW F a1).bind λo411=>
 (Zcw F ZH7 [o410,o411,a2]).bind λo412=>
 (Zdj F o412).bind λo413=>
 some o413
def Zcx:Fs yc:=⟨114,[.v .u64,.v .u64,.v (.arr 32 .u8)],[],[.u64,.u64,(.arr 32 .u8)],[⟨.ret,[(0,.v .u64)],[],[.u64]⟩],λx=>VS fuel x.1 x.2.1 x.2.2⟩
def ZLg:HI:={ still:=[6,7,9,12,13],frz:=[11]}
theorem ZgN:Zcx.Ok:=fnO ZLg [] [ZiE,ZiC,ZiD] ⟨Zml,ZkA,Zmj,ytt⟩
def ZcX(F:Nat)(s:(UInt64×(List UInt64)×Int×Int)):Option ((UInt64×(List UInt64)×Int×Int)⊕UInt64):=
 if(decide (s.2.2.2 < s.2.2.1))=true then
  (idx s.2.1 s.2.2.2).bind λe414=>
  (QR F e414).bind λo415=>
  (Yu F s.1 o415).bind λo416=>
  some (.inl (o416,s.2.1,s.2.2.1,wi (s.2.2.2+1)))
 else
 some (.inr s.1)
def Zok:Lp:=⟨[(3,.v .u64),(6,.v (.sl .u64)),(7,.v yI),(8,.v yI)],[],[.u64,(.sl .u64),yI,yI],[⟨.exit 0,[(3,.v .u64)],[],[.u64]⟩],Zc (ZcX fuel) fuel⟩
theorem ZqQ:Zok.okA yc 113 0:=ZC { still:=[2,12,13,14]} [] [ZcV,ZgZ] ⟨ZfM,Zkc,ytt⟩
def ZfN(F:Nat)(a0:(List UInt64)):Option (UInt64):=
 (Zc (ZcX F) F (1,a0,(a0.length:Int),0)).bind λo417=>
 some o417
def ZkF:Fs yc:=⟨113,[.v (.sl .u64)],[],[(.sl .u64)],[⟨.ret,[(0,.v .u64)],[],[.u64]⟩],λx=>ZfN fuel x⟩
theorem Zol:ZkF.Ok:=fnO { still:=[2,12,13,14]} [(0,Zok)] [] trivial ⟨ZqQ,ytt⟩
def ZiF(F:Nat)(a0:UInt64)(a1:UInt64):Option (UInt64):=
 (ZfN F [a0,a1]).bind λo418=>
 some o418
def Zqj:Fs yc:=⟨169,[.v .u64,.v .u64],[],[.u64,.u64],[⟨.ret,[(0,.v .u64)],[],[.u64]⟩],λx=>ZiF fuel x.1 x.2⟩
theorem ZwQ:Zqj.Ok:=fnO { still:=[4,7]} [] [ZkF] ⟨Zol,ytt⟩
def Zcy(F:Nat)(a0:UInt64):Option (UInt64):=
 some (a0 % 2305843009213688669)
def ZmX:Fs yc:=⟨182,[.v .u64],[],[.u64],[⟨.ret,[(0,.v .u64)],[],[.u64]⟩],λx=>Zcy fuel x⟩
theorem Zqk:ZmX.Ok:=fnO { still:=[2]} [] [] trivial
def Zd1(F:Nat)(a0:UInt64)(a1:UInt64):Option (UInt64):=
 some ((a0+a1) % 2305843009213688669)
def ZhP:Fs yc:=⟨183,[.v .u64,.v .u64],[],[.u64,.u64],[⟨.ret,[(0,.v .u64)],[],[.u64]⟩],λx=>Zd1 fuel x.1 x.2⟩
theorem Zom:ZhP.Ok:=fnO { still:=[4]} [] [] trivial
def ZiG(F:Nat)(a0:UInt64)(a1:UInt64):Option (UInt64):=
 (Zcy F a0).bind λo419=>
 (Zcy F a1).bind λo420=>
 (Zd1 F o419 o420).bind λo421=>
 some o421
def Zql:Fs yc:=⟨170,[.v .u64,.v .u64],[],[.u64,.u64],[⟨.ret,[(0,.v .u64)],[],[.u64]⟩],λx=>ZiG fuel x.1 x.2⟩
theorem ZwR:Zql.Ok:=fnO { still:=[4,5,6,7,8]} [] [ZmX,ZhP] ⟨Zqk,Zom,ytt⟩
def Zcz(F:Nat)(a0:UInt64)(a1:UInt64):Option (UInt64):=
 (Zdd F a0 a1).bind λo422=>
 (WK F o422.1 o422.2 2305843009213688669).bind λo423=>
 some o423
def ZgO:Fs yc:=⟨184,[.v .u64,.v .u64],[],[.u64,.u64],[⟨.ret,[(0,.v .u64)],[],[.u64]⟩],λx=>Zcz fuel x.1 x.2⟩
theorem ZmY:ZgO.Ok:=fnO { still:=[4,8,9,13,14]} [] [Zir,ZeD] ⟨Zl5,ZgY,ytt⟩
def ZiH(F:Nat)(a0:UInt64)(a1:UInt64):Option (UInt64):=
 (Zcy F a0).bind λo424=>
 (Zcy F a1).bind λo425=>
 (Zcz F o424 o425).bind λo426=>
 some o426
def Zqm:Fs yc:=⟨171,[.v .u64,.v .u64],[],[.u64,.u64],[⟨.ret,[(0,.v .u64)],[],[.u64]⟩],λx=>ZiH fuel x.1 x.2⟩
theorem ZwS:Zqm.Ok:=fnO { still:=[4,5,6,7,8]} [] [ZmX,ZgO] ⟨Zqk,ZmY,ytt⟩
def ZiI(F:Nat)(a0:UInt64)(a1:UInt64)(a2:(List UInt8))(a3:UInt64):Option (Sig):=
 (Xu F a1).bind λo427=>
 (ZiF F o427 a3).bind λo428=>
 (Xu F a0).bind λo429=>
 (VS F o428 o429 a2).bind λo430=>
 (ZiH F o430 a0).bind λo431=>
 (ZiG F a1 o431).bind λo432=>
 some (o428,o432)
def Zmm:Fs yc:=⟨141,[.v .u64,.v .u64,.v (.arr 32 .u8),.v .u64],[],[.u64,.u64,(.arr 32 .u8),.u64],[⟨.ret,[(0,.v Z1)],[],[Z1]⟩],λx=>ZiI fuel x.1 x.2.1 x.2.2.1 x.2.2.2⟩
def ZLh:HI:={ still:=[9,10,11,14,16,17,18,19,20,21,22]}
theorem Zs9:Zmm.Ok:=fnO ZLh [] [ZbB,Zqj,Zcx,Zqm,Zql] ⟨ZcW,ZwQ,ZgN,ZwS,ZwR,ytt⟩
def ZH8:ByteArray:=⟨#[110,111,110,99,101]⟩
def sign_SignM(F:Nat)(a0:UInt64)(a1:(List UInt8)):Option (Sig):=
 (Zlx F a0).bind λo433=>
 if(!o433)=true then
  some (0,0)
 else
 (ZaW F a0).bind λo434=>
 (Zcw F ZH8 [o434,a1]).bind λo435=>
 (Zdj F o435).bind λo436=>
 (ZiI F a0 o436 a1 1).bind λo437=>
 some o437
def Zqn:Fs yc:=⟨101,[.v .u64,.v (.arr 32 .u8)],[],[.u64,(.arr 32 .u8)],[⟨.ret,[(0,.v Z1)],[],[Z1]⟩],λx=>sign_SignM fuel x.1 x.2⟩
def ZLi:HI:={ still:=[5,9,10,13,14,15,16],frz:=[12]}
theorem ZwT:Zqn.Ok:=fnO ZLi [] [Zs8,ZiE,ZiC,ZiD,Zmm] ⟨ZyP,Zml,ZkA,Zmj,Zs9,ytt⟩
abbrev Yh:Ty:=(.st [.u64,.u64,.u64,.u64,.u64,(.arr 32 .u8)])
abbrev Kit:Type:=(UInt64×UInt64×UInt64×UInt64×UInt64×(List UInt8))
abbrev Kit.Cond(x:Kit):UInt64:=x.2.2.2.1
def YY(F:Nat)(a0:Kit)(a1:Tx):Option (Sig):=
 (Zd0 F a1).bind λo438=>
 (sign_SignM F a0.1 o438).bind λo439=>
 some o439
def ZfO(F:Nat):Fs yc:=⟨45,[.v Yh,.v yTx],[],[Yh,yTx],[⟨.ret,[(0,.v Z1)],[],[Z1]⟩],λx=>YY F x.1 x.2⟩
def Zmn:Fs yc:=ZfO fuel
theorem ZkG:Zmn.Ok:=fnO { still:=[6,7,8]} [] [Zoj,Zqn] ⟨ZkC,ZwT,ytt⟩
def Wo(F:Nat)(a0:(List UInt64)):Option ((List UInt64)):=
 if(apB 0 a0.length 8)=true then
  some a0
 else
 none
def ZqR:Fs yc:=⟨110,[.sl true .u64],[],[(.sl .u64)],[⟨.ret,[(0,.v (.sl .u64))],[],[(.sl .u64)]⟩],λx=>Wo fuel x⟩
theorem Zpi:ZqR.Ok:=fnO { own:=[5,7],still:=[2]} [] [] trivial
def ZgP(F:Nat):Option ((List UInt64)):=
 some []
def ZmZ:Fs yc:=⟨110,[.nil .u64],[],[],[⟨.ret,[(0,.v (.sl .u64))],[],[(.sl .u64)]⟩],λx=>ZgP fuel⟩
theorem ZlH:ZmZ.Ok:=fnO { own:=[5,7],still:=[2]} [] [] trivial
def V9:Fs yc:=⟨110,[.v (.sl .u64)],[],[(.sl .u64)],[⟨.ret,[(0,.v (.sl .u64))],[],[(.sl .u64)]⟩],λx=>Wo fuel x⟩
theorem ZaI:V9.Ok:=Zo2 (t:=.u64) (xs:=[⟨.ret,[(0,.v (.sl .u64))],[],[(.sl .u64)]⟩]) (MA:=λ(x:(List UInt64))=>Wo fuel x) (MB:=λ_=>ZgP fuel) Zpi ZlH rfl
def ZeT(F:Nat)(a0:(List Out)):Option ((List Out)):=
 if(apB 0 a0.length 32)=true then
  some a0
 else
 none
def Zt7:Fs yc:=⟨145,[.sl true ZL],[],[(.sl ZL)],[⟨.ret,[(0,.v (.sl ZL))],[],[(.sl ZL)]⟩],λx=>ZeT fuel x⟩
theorem Zta:Zt7.Ok:=fnO { own:=[5,7],still:=[2]} [] [] trivial
def Zjp(F:Nat):Option ((List Out)):=
 some []
def Zpj:Fs yc:=⟨145,[.nil ZL],[],[],[⟨.ret,[(0,.v (.sl ZL))],[],[(.sl ZL)]⟩],λx=>Zjp fuel⟩
theorem Zon:Zpj.Ok:=fnO { own:=[5,7],still:=[2]} [] [] trivial
def ZqS:Fs yc:=⟨145,[.v (.sl ZL)],[],[(.sl ZL)],[⟨.ret,[(0,.v (.sl ZL))],[],[(.sl ZL)]⟩],λx=>ZeT fuel x⟩
theorem Zpk:ZqS.Ok:=Zo2 (t:=ZL) (xs:=[⟨.ret,[(0,.v (.sl ZL))],[],[(.sl ZL)]⟩]) (MA:=λ(x:(List Out))=>ZeT fuel x) (MB:=λ_=>Zjp fuel) Zta Zon rfl
def ZkH(F:Nat)(a0:(List Sig)):Option ((List Sig)):=
 if(apB 0 a0.length 16)=true then
  some a0
 else
 none
def ZDh:Fs yc:=⟨146,[.sl true Z1],[],[(.sl Z1)],[⟨.ret,[(0,.v (.sl Z1))],[],[(.sl Z1)]⟩],λx=>ZkH fuel x⟩
theorem ZAB:ZDh.Ok:=fnO { own:=[5,7],still:=[2]} [] [] trivial
def Zqo(F:Nat):Option ((List Sig)):=
 some []
def ZwU:Fs yc:=⟨146,[.nil Z1],[],[],[⟨.ret,[(0,.v (.sl Z1))],[],[(.sl Z1)]⟩],λx=>Zqo fuel⟩
theorem Zt8:ZwU.Ok:=fnO { own:=[5,7],still:=[2]} [] [] trivial
def ZkI:Fs yc:=⟨146,[.v (.sl Z1)],[],[(.sl Z1)],[⟨.ret,[(0,.v (.sl Z1))],[],[(.sl Z1)]⟩],λx=>ZkH fuel x⟩
theorem Zoo:ZkI.Ok:=Zo2 (t:=Z1) (xs:=[⟨.ret,[(0,.v (.sl Z1))],[],[(.sl Z1)]⟩]) (MA:=λ(x:(List Sig))=>ZkH fuel x) (MB:=λ_=>Zqo fuel) ZAB Zt8 rfl
def Zm0(F:Nat)(a0:(List In)):Option (((List Unit)×(List In))):=
 if(apB 0 a0.length 80)=true then
  some ([()],a0)
 else
 none
def ZyQ:Fs yc:=⟨144,[.sl true yIn],[],[(.sl yIn)],[⟨.ret,[(0,.rw 0)],[.row yIn true 104],[(.sl (.st [])),(.sl yIn)]⟩],λx=>Zm0 fuel x⟩
theorem ZwV:ZyQ.Ok:=fnO { own:=[5,7],rowt:=[2,5,7]} [] [] trivial
def Zop(F:Nat)(a0:(List In)):Option (((List Unit)×(List In))):=if a0.isEmpty=true then none else Zm0 F a0
def Zmo:Fs yc:=⟨144,[.v (.sl yIn)],[],[(.sl yIn)],[⟨.ret,[(0,.rw 0)],[.row yIn true 104],[(.sl (.st [])),(.sl yIn)]⟩],λx=>Zop fuel x⟩
theorem Ztb:Zmo.Ok:=ZwE (t:=yIn) (xs:=[⟨.ret,[(0,.rw 0)],[.row yIn true 104],[(.sl (.st [])),(.sl yIn)]⟩]) (MA:=λ(x:(List In))=>Zm0 fuel x) ZwV rfl (λ_ _=>rfl)
def Zd2(F:Nat)(a0:(List Out)):Option (((List Unit)×(List Out))):=
 if(apB 0 a0.length 32)=true then
  some ([()],a0)
 else
 none
def Zpl:Fs yc:=⟨145,[.sl true ZL],[],[(.sl ZL)],[⟨.ret,[(0,.rw 0)],[.row ZL true 96],[(.sl (.st [])),(.sl ZL)]⟩],λx=>Zd2 fuel x⟩
theorem Zoq:Zpl.Ok:=fnO { own:=[5,7],rowt:=[2,5,7]} [] [] trivial
def ZgQ(F:Nat)(a0:(List Out)):Option (((List Unit)×(List Out))):=if a0.isEmpty=true then none else Zd2 F a0
def Zm1:Fs yc:=⟨145,[.v (.sl ZL)],[],[(.sl ZL)],[⟨.ret,[(0,.rw 0)],[.row ZL true 96],[(.sl (.st [])),(.sl ZL)]⟩],λx=>ZgQ fuel x⟩
theorem ZlI:Zm1.Ok:=ZwE (t:=ZL) (xs:=[⟨.ret,[(0,.rw 0)],[.row ZL true 96],[(.sl (.st [])),(.sl ZL)]⟩]) (MA:=λ(x:(List Out))=>Zd2 fuel x) Zoq rfl (λ_ _=>rfl)
def ZfP(F:Nat)(a0:(List Out)):Option (((List Unit)×(List Out))⊕(List Out)):=if a0.isEmpty=true then(ZeT F a0).map Sum.inr else(ZgQ F a0).map Sum.inl
def Zea:Fs yc:=⟨145,[.v (.sl ZL)],[],[(.sl ZL)],[⟨.ret,[(0,.rw 0)],[.row ZL true 96],[(.sl (.st [])),(.sl ZL)]⟩,⟨.ret,[(0,.v (.sl ZL))],[],[(.sl ZL)]⟩],λx=>ZfP fuel x⟩
theorem ZkJ:Zea.Ok:=ZKb (ins:=[(.sl ZL)]) (λx:(List Out)=>x.isEmpty) ZlI Zpk
def ZAC:HI:={ still:=[8,11,30,48,61,69],rowt:=[5,9,12,22,49,55,67]}
def ZfQ(F:Nat)(a0:(List ZM)):Option (((List Unit)×(List ZM))):=
 if(apB 0 a0.length 48)=true then
  some ([()],a0)
 else
 none
def ZqT:Fs yc:=⟨130,[.sl true Zp],[],[(.sl Zp)],[⟨.ret,[(0,.rw 0)],[.row Zp true 126],[(.sl (.st [])),(.sl Zp)]⟩],λx=>ZfQ fuel x⟩
theorem Zpm:ZqT.Ok:=fnO { own:=[5,7],rowt:=[2,5,7]} [] [] trivial
def ZcA(F:Nat)(a0:(List ZM)):Option (((List Unit)×(List ZM))):=if a0.isEmpty=true then none else ZfQ F a0
def ZbC:Fs yc:=⟨130,[.v (.sl Zp)],[],[(.sl Zp)],[⟨.ret,[(0,.rw 0)],[.row Zp true 126],[(.sl (.st [])),(.sl Zp)]⟩],λx=>ZcA fuel x⟩
theorem ZfR:ZbC.Ok:=ZwE (t:=Zp) (xs:=[⟨.ret,[(0,.rw 0)],[.row Zp true 126],[(.sl (.st [])),(.sl Zp)]⟩]) (MA:=λ(x:(List ZM))=>ZfQ fuel x) Zpm rfl (λ_ _=>rfl)
abbrev dT2:Type:=(Int×Int×Int×Int×Int×Int×Tx×(List Unit)×(List In)×(List Unit)×(List Out)×(List Unit)×(List ZM))
abbrev dT3:Type:=(Int×Int×Int×Int×Tx×(List Unit)×(List In)×(List Unit)×(List Out)×(List Unit)×(List ZM))
abbrev tL4:List Ty:=[yI,yI,yI,yI,yTx,(.sl (.st [])),(.sl yIn),(.sl (.st [])),(.sl ZL),(.sl (.st [])),(.sl Zp)]
abbrev tL5:List Ty:=[yI,yI,yI,yI,yI,yI,yTx,(.sl (.st [])),(.sl yIn),(.sl (.st [])),(.sl ZL),(.sl (.st [])),(.sl Zp)]
abbrev dT4:Type:=(Int×Int×Int×Int×Int×(List Out)×Int×Tx×(List Unit)×(List In)×(List Unit)×(List ZM))
abbrev tL6:List Ty:=[yI,yI,yI,(.sl ZL),yI,yTx,(.sl (.st [])),(.sl yIn),(.sl (.st [])),(.sl Zp)]
abbrev tL7:List Ty:=[yI,yI,yI,yI,yI,(.sl ZL),yI,yTx,(.sl (.st [])),(.sl yIn),(.sl (.st [])),(.sl Zp)]
def Zdk(F:Nat)(s:(Int×Int×Int×Tx×(List Unit)×(List In)×(List Unit)×(List Out))):Option ((Int×Int×Int×Tx×(List Unit)×(List In)×(List Unit)×(List Out))⊕(Int×Tx×(List Unit)×(List In)×(List Unit)×(List Out))):=
 if(decide (s.2.1 < s.1))=true then
  if(inB s.2.1 s.2.2.2.2.2.1.length)=true then
   (s.2.2.2.2.2.1[s.2.1.toNat]?).bind λe494=>
   (ZkH F e494.2.2.1).bind λo495=>
   if(inB s.2.1 s.2.2.2.2.2.1.length)=true then
    (s.2.2.2.2.2.1[s.2.1.toNat]?).bind λe496=>
    let y497:(List In):=s.2.2.2.2.2.1.set s.2.1.toNat (e496.1,(e496.2.1,o495,e496.2.2.2))
    some (.inl (s.1,wi (s.2.1+1),s.2.2.1,s.2.2.2.1,s.2.2.2.2.1,y497,s.2.2.2.2.2.2.1,s.2.2.2.2.2.2.2))
   else
   none
  else
  none
 else
 some (.inr (s.2.2.1,s.2.2.2.1,s.2.2.2.2.1,s.2.2.2.2.2.1,s.2.2.2.2.2.2.1,s.2.2.2.2.2.2.2))
def Zeb:Lp:=⟨[(1,.ref 0 []),(2,.ref 1 []),(17,.v yI),(18,.v yI)],[.var (.agg [.rw 2,.rw 3,.v yI]) true,.var (.v yTx) true,.row yIn true 104,.row ZL true 96],[yI,yI,yI,yTx,(.sl (.st [])),(.sl yIn),(.sl (.st [])),(.sl ZL)],[⟨.exit 0,[(1,.ref 0 []),(2,.ref 1 [])],[.var (.agg [.rw 2,.rw 3,.v yI]) true,.var (.v yTx) true,.row yIn true 104,.row ZL true 96],[yI,yTx,(.sl (.st [])),(.sl yIn),(.sl (.st [])),(.sl ZL)]⟩],Zc (Zdk fuel) fuel⟩
theorem ZiJ:Zeb.okA yc 102 0:=ZC ZAC [] [ZkI] ⟨Zoo,ytt⟩
def Zdl(F:Nat)(s:dT2):Option (dT2⊕dT3):=
 if(decide (s.2.2.2.2.1 < s.2.2.2.1))=true then
  if(inB s.2.2.2.2.1 s.2.2.2.2.2.2.2.2.2.2.2.2.length)=true then
   (s.2.2.2.2.2.2.2.2.2.2.2.2[s.2.2.2.2.1.toNat]?).bind λe501=>
   (Wo F e501.1).bind λo502=>
   if(inB s.2.2.2.2.1 s.2.2.2.2.2.2.2.2.2.2.2.2.length)=true then
    (s.2.2.2.2.2.2.2.2.2.2.2.2[s.2.2.2.2.1.toNat]?).bind λe503=>
    let y504:(List ZM):=s.2.2.2.2.2.2.2.2.2.2.2.2.set s.2.2.2.2.1.toNat (o502,e503.2.1,e503.2.2.1,e503.2.2.2)
    some (.inl (s.1,s.2.1,s.2.2.1,s.2.2.2.1,wi (s.2.2.2.2.1+1),s.2.2.2.2.2.1,s.2.2.2.2.2.2.1,s.2.2.2.2.2.2.2.1,s.2.2.2.2.2.2.2.2.1,s.2.2.2.2.2.2.2.2.2.1,s.2.2.2.2.2.2.2.2.2.2.1,s.2.2.2.2.2.2.2.2.2.2.2.1,y504))
   else
   none
  else
  none
 else
 some (.inr (s.1,s.2.1,s.2.2.1,s.2.2.2.2.2.1,s.2.2.2.2.2.2.1,s.2.2.2.2.2.2.2.1,s.2.2.2.2.2.2.2.2.1,s.2.2.2.2.2.2.2.2.2.1,s.2.2.2.2.2.2.2.2.2.2.1,s.2.2.2.2.2.2.2.2.2.2.2.1,s.2.2.2.2.2.2.2.2.2.2.2.2))
def Zec:Lp:=⟨[(1,.ref 0 []),(2,.ref 1 []),(4,.v yI),(5,.rw 4),(38,.v yI),(39,.v yI),(51,.v yI),(52,.v yI)],[.var (.agg [.rw 2,.rw 3,.v yI]) true,.var (.v yTx) true,.row yIn true 104,.row ZL true 96,.row Zp true 126],tL5,[⟨.exit 4,[(1,.ref 0 []),(2,.ref 1 []),(4,.v yI),(5,.rw 4),(38,.v yI),(39,.v yI)],[.var (.agg [.rw 2,.rw 3,.v yI]) true,.var (.v yTx) true,.row yIn true 104,.row ZL true 96,.row Zp true 126],tL4⟩],Zc (Zdl fuel) fuel⟩
theorem ZiK:Zec.okA yc 102 2:=ZC ZAC [] [V9] ⟨ZaI,ytt⟩
def Zdm(F:Nat)(s:(Int×Int×Int×Tx×(List Unit)×(List In)×(List Unit)×(List Out))):Option ((Int×Int×Int×Tx×(List Unit)×(List In)×(List Unit)×(List Out))⊕(Int×Tx×(List Unit)×(List In)×(List Unit)×(List Out))):=
 if(decide (s.2.1 < s.1))=true then
  if(inB s.2.1 s.2.2.2.2.2.2.2.length)=true then
   (s.2.2.2.2.2.2.2[s.2.1.toNat]?).bind λe499=>
   (ZcA F e499.2).bind λo500=>
   (Zc (Zdl F) F (s.2.1,s.1,s.2.1,(o500.2.length:Int),0,s.2.2.1,s.2.2.2.1,s.2.2.2.2.1,s.2.2.2.2.2.1,s.2.2.2.2.2.2.1,s.2.2.2.2.2.2.2,o500.1,o500.2)).bind λo505=>
   if(inB o505.1 o505.2.2.2.2.2.2.2.2.1.length)=true then
    (o505.2.2.2.2.2.2.2.2.1[o505.1.toNat]?).bind λe506=>
    let y507:(List Out):=o505.2.2.2.2.2.2.2.2.1.set o505.1.toNat (e506.1,o505.2.2.2.2.2.2.2.2.2.2)
    some (.inl (o505.2.1,wi (o505.2.2.1+1),o505.2.2.2.1,o505.2.2.2.2.1,o505.2.2.2.2.2.1,o505.2.2.2.2.2.2.1,o505.2.2.2.2.2.2.2.1,y507))
   else
   none
  else
  none
 else
 some (.inr (s.2.2.1,s.2.2.2.1,s.2.2.2.2.1,s.2.2.2.2.2.1,s.2.2.2.2.2.2.1,s.2.2.2.2.2.2.2))
def Zed:Lp:=⟨[(1,.ref 0 []),(2,.ref 1 []),(38,.v yI),(39,.v yI)],[.var (.agg [.rw 2,.rw 3,.v yI]) true,.var (.v yTx) true,.row yIn true 104,.row ZL true 96],[yI,yI,yI,yTx,(.sl (.st [])),(.sl yIn),(.sl (.st [])),(.sl ZL)],[⟨.exit 2,[(1,.ref 0 []),(2,.ref 1 [])],[.var (.agg [.rw 2,.rw 3,.v yI]) true,.var (.v yTx) true,.row yIn true 104,.row ZL true 96],[yI,yTx,(.sl (.st [])),(.sl yIn),(.sl (.st [])),(.sl ZL)]⟩],Zc (Zdm fuel) fuel⟩
theorem ZiL:Zed.okA yc 102 1:=ZC ZAC [(2,Zec)] [ZbC] ⟨ZfR,ytt⟩ ⟨ZiK,ytt⟩
def ZbD(F:Nat)(s:(Int×Int×(List Out)×Int×Tx×(List Unit)×(List In))):Option ((Int×Int×(List Out)×Int×Tx×(List Unit)×(List In))⊕((List Out)×Int×Tx×(List Unit)×(List In))):=
 if(decide (s.2.1 < s.1))=true then
  if(inB s.2.1 s.2.2.2.2.2.2.length)=true then
   (s.2.2.2.2.2.2[s.2.1.toNat]?).bind λe510=>
   (ZkH F e510.2.2.1).bind λo511=>
   if(inB s.2.1 s.2.2.2.2.2.2.length)=true then
    (s.2.2.2.2.2.2[s.2.1.toNat]?).bind λe512=>
    let y513:(List In):=s.2.2.2.2.2.2.set s.2.1.toNat (e512.1,(e512.2.1,o511,e512.2.2.2))
    some (.inl (s.1,wi (s.2.1+1),s.2.2.1,s.2.2.2.1,s.2.2.2.2.1,s.2.2.2.2.2.1,y513))
   else
   none
  else
  none
 else
 some (.inr (s.2.2.1,s.2.2.2.1,s.2.2.2.2.1,s.2.2.2.2.2.1,s.2.2.2.2.2.2))
def ZbZ:Lp:=⟨[(1,.ref 0 []),(2,.ref 1 []),(17,.v yI),(18,.v yI)],[.var (.agg [.rw 2,.v (.sl ZL),.v yI]) true,.var (.v yTx) true,.row yIn true 104],[yI,yI,(.sl ZL),yI,yTx,(.sl (.st [])),(.sl yIn)],[⟨.exit 0,[(1,.ref 0 []),(2,.ref 1 [])],[.var (.agg [.rw 2,.v (.sl ZL),.v yI]) true,.var (.v yTx) true,.row yIn true 104],[(.sl ZL),yI,yTx,(.sl (.st [])),(.sl yIn)]⟩],Zc (ZbD fuel) fuel⟩
theorem Zhd:ZbZ.okA yc 102 0:=ZC ZAC [] [ZkI] ⟨Zoo,ytt⟩
def QX(F:Nat)(s:dT4):Option (dT4⊕(Int×Int×Int×(List Out)×Int×Tx×(List Unit)×(List In)×(List Unit)×(List ZM))):=
 if(decide (s.2.2.2.2.1 < s.2.2.2.1))=true then
  if(inB s.2.2.2.2.1 s.2.2.2.2.2.2.2.2.2.2.2.length)=true then
   (s.2.2.2.2.2.2.2.2.2.2.2[s.2.2.2.2.1.toNat]?).bind λe517=>
   (Wo F e517.1).bind λo518=>
   if(inB s.2.2.2.2.1 s.2.2.2.2.2.2.2.2.2.2.2.length)=true then
    (s.2.2.2.2.2.2.2.2.2.2.2[s.2.2.2.2.1.toNat]?).bind λe519=>
    let y520:(List ZM):=s.2.2.2.2.2.2.2.2.2.2.2.set s.2.2.2.2.1.toNat (o518,e519.2.1,e519.2.2.1,e519.2.2.2)
    some (.inl (s.1,s.2.1,s.2.2.1,s.2.2.2.1,wi (s.2.2.2.2.1+1),s.2.2.2.2.2.1,s.2.2.2.2.2.2.1,s.2.2.2.2.2.2.2.1,s.2.2.2.2.2.2.2.2.1,s.2.2.2.2.2.2.2.2.2.1,s.2.2.2.2.2.2.2.2.2.2.1,y520))
   else
   none
  else
  none
 else
 some (.inr (s.1,s.2.1,s.2.2.1,s.2.2.2.2.2.1,s.2.2.2.2.2.2.1,s.2.2.2.2.2.2.2.1,s.2.2.2.2.2.2.2.2.1,s.2.2.2.2.2.2.2.2.2.1,s.2.2.2.2.2.2.2.2.2.2.1,s.2.2.2.2.2.2.2.2.2.2.2))
def Zab:Lp:=⟨[(1,.ref 0 []),(2,.ref 1 []),(4,.v yI),(5,.rw 3),(38,.v yI),(39,.v yI),(51,.v yI),(52,.v yI)],[.var (.agg [.rw 2,.v (.sl ZL),.v yI]) true,.var (.v yTx) true,.row yIn true 104,.row Zp true 126],tL7,[⟨.exit 4,[(1,.ref 0 []),(2,.ref 1 []),(4,.v yI),(5,.rw 3),(38,.v yI),(39,.v yI)],[.var (.agg [.rw 2,.v (.sl ZL),.v yI]) true,.var (.v yTx) true,.row yIn true 104,.row Zp true 126],tL6⟩],Zc (QX fuel) fuel⟩
theorem ZeU:Zab.okA yc 102 2:=ZC ZAC [] [V9] ⟨ZaI,ytt⟩
def ZbE(F:Nat)(s:(Int×Int×(List Out)×Int×Tx×(List Unit)×(List In))):Option ((Int×Int×(List Out)×Int×Tx×(List Unit)×(List In))⊕((List Out)×Int×Tx×(List Unit)×(List In))):=
 if(decide (s.2.1 < s.1))=true then
  (idx s.2.2.1 s.2.1).bind λe515=>
  (ZcA F e515.2).bind λo516=>
  (Zc (QX F) F (s.2.1,s.1,s.2.1,(o516.2.length:Int),0,s.2.2.1,s.2.2.2.1,s.2.2.2.2.1,s.2.2.2.2.2.1,s.2.2.2.2.2.2,o516.1,o516.2)).bind λo521=>
  (idx o521.2.2.2.1 o521.1).bind λe522=>
  none
 else
 some (.inr (s.2.2.1,s.2.2.2.1,s.2.2.2.2.1,s.2.2.2.2.2.1,s.2.2.2.2.2.2))
def Zb0:Lp:=⟨[(1,.ref 0 []),(2,.ref 1 []),(38,.v yI),(39,.v yI)],[.var (.agg [.rw 2,.v (.sl ZL),.v yI]) true,.var (.v yTx) true,.row yIn true 104],[yI,yI,(.sl ZL),yI,yTx,(.sl (.st [])),(.sl yIn)],[⟨.exit 2,[(1,.ref 0 []),(2,.ref 1 [])],[.var (.agg [.rw 2,.v (.sl ZL),.v yI]) true,.var (.v yTx) true,.row yIn true 104],[(.sl ZL),yI,yTx,(.sl (.st [])),(.sl yIn)]⟩],Zc (ZbE fuel) fuel⟩
theorem Zhe:Zb0.okA yc 102 1:=ZC ZAC [(2,Zab)] [ZbC] ⟨ZfR,ytt⟩ ⟨ZeU,ytt⟩
def ZgR(F:Nat)(a0:Tx):Option ((Int×(List Unit)×(List In)×(List Unit)×(List Out))⊕((List Out)×Int×(List Unit)×(List In))):=
 (Zop F a0.1).bind λo491=>
 (ZfP F a0.2.1).bind λo492=>
 match o492 with
 |.inl o493=>
  (Zc (Zdk F) F ((o491.2.length:Int),0,a0.2.2,([],[],0),o491.1,o491.2,o493.1,o493.2)).bind λo498=>
  (Zc (Zdm F) F ((o498.2.2.2.2.2.length:Int),0,o498.1,o498.2.1,o498.2.2.1,o498.2.2.2.1,o498.2.2.2.2.1,o498.2.2.2.2.2)).bind λo508=>
  some (.inl (o508.1,o508.2.2.1,o508.2.2.2.1,o508.2.2.2.2.1,o508.2.2.2.2.2))
 |.inr o509=>
  (Zc (ZbD F) F ((o491.2.length:Int),0,o509,a0.2.2,([],[],0),o491.1,o491.2)).bind λo514=>
  (Zc (ZbE F) F ((o514.1.length:Int),0,o514.1,o514.2.1,o514.2.2.1,o514.2.2.2.1,o514.2.2.2.2)).bind λo523=>
  some (.inr (o523.1,o523.2.1,o523.2.2.2.1,o523.2.2.2.2))
def ZfS:Fs yc:=⟨102,[.v yTx],[],[yTx],[⟨.ret,[(0,.agg [.rw 0,.rw 1,.v yI])],[.row yIn true 104,.row ZL true 96],[yI,(.sl (.st [])),(.sl yIn),(.sl (.st [])),(.sl ZL)]⟩,⟨.ret,[(0,.agg [.rw 0,.v (.sl ZL),.v yI])],[.row yIn true 104],[(.sl ZL),yI,(.sl (.st [])),(.sl yIn)]⟩],λx=>ZgR fuel x⟩
theorem ZlJ:ZfS.Ok:=fnO ZAC [(0,Zeb),(0,ZbZ),(1,Zed),(1,Zb0)] [Zmo,Zea] ⟨Ztb,ZkJ,ytt⟩ ⟨ZiJ,Zhd,ZiL,Zhe,ytt⟩
def ZwW(F:Nat)(a0:Tx)(a1:Sig)(a2:Sig):Option (Tx):=
 (ZgR F a0).bind λo528=>
 match o528 with
 |.inl o529=>
  if(decide ((o529.2.2.1.length:Int) > 0))=true then
   if(inB 0 o529.2.2.1.length)=true then
    (o529.2.2.1[0]?).bind λe530=>
    let y531:(List In):=o529.2.2.1.set 0 (e530.1,((0:Int),([a1,a2]:List Sig),(0:UInt64)))
    some (y531,o529.2.2.2.2,o529.1)
   else
   none
  else
  some (o529.2.2.1,o529.2.2.2.2,o529.1)
 |.inr o532=>
  if(decide ((o532.2.2.2.length:Int) > 0))=true then
   if(inB 0 o532.2.2.2.length)=true then
    (o532.2.2.2[0]?).bind λe533=>
    let y534:(List In):=o532.2.2.2.set 0 (e533.1,((0:Int),([a1,a2]:List Sig),(0:UInt64)))
    some (y534,o532.1,o532.2.1)
   else
   none
  else
  some (o532.2.2.2,o532.1,o532.2.1)
def ZfT(F:Nat):Fs yc:=⟨46,[.v yTx,.v Z1,.v Z1],[],[yTx,Z1,Z1],[⟨.ret,[(0,.v yTx)],[],[yTx]⟩],λx=>ZwW F x.1 x.2.1 x.2.2⟩
def Zt9:Fs yc:=ZfT fuel
def ZLj:HI:={ still:=[7],rowt:=[14],deep:=[64]}
theorem Ztc:Zt9.Ok:=ZHp (fi:={ hi:=ZLj}) (specs:={ l:=[ZfS]}) (okS ⟨ZlJ,ytt⟩)
def X8(F:Nat)(a0:(List UInt8)):Option ((List UInt8)):=
 if(apB 0 a0.length 1)=true then
  some a0
 else
 none
def ZfU(F:Nat):Fs yc:=⟨103,[.sl true .u8],[],[(.sl .u8)],[⟨.ret,[(0,.v (.sl .u8))],[],[(.sl .u8)]⟩],λx=>X8 F x⟩
def Zua:Fs yc:=ZfU fuel
theorem ZkK:Zua.Ok:=fnO { own:=[5,7],still:=[2]} [] [] trivial
def Zjq(F:Nat):Option ((List UInt8)):=
 some []
def ZbF(F:Nat):Fs yc:=⟨103,[.nil .u8],[],[],[⟨.ret,[(0,.v (.sl .u8))],[],[(.sl .u8)]⟩],λx=>Zjq F⟩
def Zpn:Fs yc:=ZbF fuel
theorem ZgS:Zpn.Ok:=fnO { own:=[5,7],still:=[2]} [] [] trivial
def ZcB(F:Nat):Fs yc:=⟨103,[.v (.sl .u8)],[],[(.sl .u8)],[⟨.ret,[(0,.v (.sl .u8))],[],[(.sl .u8)]⟩],λx=>X8 F x⟩
def Zd3:Fs yc:=ZcB fuel
theorem ZcC:Zd3.Ok:=Zo2 (t:=.u8) (xs:=[⟨.ret,[(0,.v (.sl .u8))],[],[(.sl .u8)]⟩]) (MA:=λ(x:(List UInt8))=>X8 fuel x) (MB:=λ_=>Zjq fuel) ZkK ZgS rfl
def ZLk:HI:={ own:=[0,16,28],still:=[4,8,10,20]}
def ZeV(F:Nat)(a0:Kit):Option (QZ):=
 (Xu F a0.1).bind λo537=>
 (Xu F a0.2.1).bind λo538=>
 (Xu F a0.2.2.1).bind λo539=>
 (Xu F a0.2.2.2.1).bind λo540=>
 (Xu F a0.2.2.2.2.1).bind λo541=>
 some (o537,o538,o539,o540,o541)
def ZfV(F:Nat):Fs yc:=⟨38,[.v Yh],[],[Yh],[⟨.ret,[(0,.v V4)],[],[V4]⟩],λx=>ZeV F x⟩
def Zmp:Fs yc:=ZfV fuel
theorem ZkL:Zmp.Ok:=fnO { still:=[4,7,10,13,16]} [] [ZbB] ⟨ZcW,ytt⟩
def Yw(F:Nat)(a0:ZH)(a1:Kit)(a2:Int)(a3:State)(a4:Lock)(a5:Int):Option (Int⊕(Int×ZH×Kit×Int×Int×(List Int)×Int×(List Lock)×Int×Sig×(List Cond)×(List Msg)×(List Msg))):=
 if(decide (a2 < 0))=true then
  some (.inl 1)
 else
 if(decide (a2 > 1))=true then
  some (.inl 1)
 else
 (Y6 F a4).bind λo542=>
 if(!o542)=true then
  some (.inl 1)
 else
 (ZeV F a1).bind λo543=>
 if(inB a2 2)=true then
  (a0.2.2.1[a2.toNat]?).bind λe544=>
  if(!(decide (o543=e544)))=true then
   some (.inl 1)
  else
  (Zbp F a0 a3).bind λo545=>
  if(!o545)=true then
   some (.inl 14)
  else
  (YG F a0 a3 a2 a5).bind λo546=>
  if(!o546)=true then
   some (.inl 13)
  else
  (W6 F a4).bind λo547=>
  if(inB a2 2)=true then
   (([([]:Lock),([]:Lock)]:List Lock)[a2.toNat]?).bind λe548=>
   some (.inr (0,a0,a1,a2,a3.1,a3.2.1,a3.2.2.2,([([]:Lock),([]:Lock)]:List Lock).set a2.toNat o547,a5,(0,0),[],[],[]))
  else
  none
 else
 none
def Zmq:Fs yc:=⟨10,[.v Zh,.v Yh,.v yI,.v Zf,.v Zo,.v yI],[],[Zh,Yh,yI,Zf,Zo,yI],[⟨.ret,[(0,.tup [.ptr0,.v yI])],[],[yI]⟩,⟨.ret,[(0,.tup [.ref 0 [],.v yI])],[.var (.agg [.v Zh,.v Yh,.v yI,.agg [.v yI,.v (.arr 2 yI),.own 1 Zq,.v yI],.v (.arr 2 Zo),.v yI,.own 2 Zi,.own 3 Zi,.v Z1]) true,.log Zq 82,.log Zi 84,.log Zi 84],[yI,Zh,Yh,yI,yI,(.arr 2 yI),yI,(.arr 2 Zo),yI,Z1,(.sl Zq),(.sl Zi),(.sl Zi)]⟩],λx=>Yw fuel x.1 x.2.1 x.2.2.1 x.2.2.2.1 x.2.2.2.2.1 x.2.2.2.2.2⟩
def ZLl:HI:={ still:=[12,13,23,28,37,38,42,43,44,45,58],ghost:=[(55,[([6],Zi,84),([7],Zi,84)])],gst:=[(48,[([2],Zq,82)])]}
theorem Ztd:Zmq.Ok:=ZuX (fi:={ hi:=ZLl,gh:=[(10,.any 14 4 (.arr 2 Zo))]}) (specs:={ l:=[QO,Zmp,Zg4,Zbq,ZfH]}) (okS ⟨VY,ZkL,ZfB,Zao,ZdV,ytt⟩)
def Zpo(F:Nat)(a0:(List UInt64)):Option (Lock):=
 (Wo F a0).bind λo549=>
 some [(o549,0,0,0)]
def Zte:Fs yc:=⟨53,[.v (.sl .u64)],[],[(.sl .u64)],[⟨.ret,[(0,.v Zo)],[],[Zo]⟩],λx=>Zpo fuel x⟩
theorem ZyR:Zte.Ok:=fnO { still:=[3]} [] [V9] ⟨ZaI,ytt⟩
def XJ(F:Nat)(a0:UInt64):Option (Lock):=
 (Zpo F [a0]).bind λo550=>
 some o550
def ZkM(F:Nat):Fs yc:=⟨17,[.v .u64],[],[.u64],[⟨.ret,[(0,.v Zo)],[],[Zo]⟩],λx=>XJ F x⟩
def Zm2:Fs yc:=ZkM fuel
theorem ZkN:Zm2.Ok:=fnO { still:=[4]} [] [Zte] ⟨ZyR,ytt⟩
def Xx(F:Nat)(s:(UInt64×Int×Int×(List UInt8))):Option ((UInt64×Int×Int×(List UInt8))⊕(UInt64×Int×(List UInt8))):=
 if(decide (s.2.2.1 ≥ 0))=true then
  if(inB s.2.1 32)=true then
   (s.2.2.2[s.2.1.toNat]?).bind λe551=>
   let y552:UInt64:=ZG (yad e551.toNat) (min ((w64 s.2.2.1).toNat:Int).toNat 64)
   some (.inl (((2*s.1)+(y552&&&1)) % 2305843009213688668,s.2.1,wi (s.2.2.1 - 1),s.2.2.2))
  else
  none
 else
 some (.inr (s.1,s.2.1,s.2.2.2))
def Zdn:Lp:=⟨[(1,.ref 0 []),(3,.v .u64),(4,.v yI),(5,.v yI)],[.var (.v (.arr 32 .u8)) true],[.u64,yI,yI,(.arr 32 .u8)],[⟨.exit 2,[(1,.ref 0 []),(3,.v .u64),(4,.v yI)],[.var (.v (.arr 32 .u8)) true],[.u64,yI,(.arr 32 .u8)]⟩],Zc (Xx fuel) fuel⟩
theorem ZhQ:Zdn.okA yc 85 1:=ZC { still:=[2]} [] [] trivial
def Xy(F:Nat)(s:(UInt64×Int×(List UInt8))):Option ((UInt64×Int×(List UInt8))⊕(UInt64×(List UInt8))):=
 if(decide (s.2.1 < 32))=true then
  (Zc (Xx F) F (s.1,s.2.1,7,s.2.2)).bind λo553=>
  some (.inl (o553.1,wi (o553.2.1+1),o553.2.2))
 else
 some (.inr (s.1,s.2.2))
def Zdo:Lp:=⟨[(1,.ref 0 []),(3,.v .u64),(4,.v yI)],[.var (.v (.arr 32 .u8)) true],[.u64,yI,(.arr 32 .u8)],[⟨.exit 0,[(3,.v .u64)],[.var (.v (.arr 32 .u8)) true],[.u64,(.arr 32 .u8)]⟩],Zc (Xy fuel) fuel⟩
theorem ZhR:Zdo.okA yc 85 0:=ZC { still:=[2]} [(1,Zdn)] [] trivial ⟨ZhQ,ytt⟩
def YE(F:Nat)(a0:(List UInt8)):Option (UInt64):=
 (Zc (Xy F) F (0,0,a0)).bind λo554=>
 some (o554.1+1)
def Zee:Fs yc:=⟨85,[.v (.arr 32 .u8)],[],[(.arr 32 .u8)],[⟨.ret,[(0,.v .u64)],[],[.u64]⟩],λx=>YE fuel x⟩
theorem ZkO:Zee.Ok:=fnO { still:=[2]} [(0,Zdo)] [] trivial ⟨ZhR,ytt⟩
def Xz(F:Nat)(s:(UInt64×Int×(List UInt8))):Option ((UInt64×Int×(List UInt8))⊕(List UInt8)):=
 if(decide (s.2.1 ≥ 0))=true then
  if(decide (0≤s.2.1))=true then
   let y555:UInt8:=w8 ((ZG s.1 (min s.2.1.toNat 64)).toNat:Int)
   if(apB s.2.2.length 1 1)=true then
    some (.inl (s.1,wi (s.2.1 - 8),s.2.2++([y555]:List UInt8)))
   else
   none
  else
  none
 else
 some (.inr s.2.2)
def Zdp:Lp:=⟨[(0,.v .u64),(3,.own 0 .u8),(4,.v yI)],[.log .u8 5],[.u64,yI,(.sl .u8)],[⟨.exit 0,[(3,.own 0 .u8)],[.log .u8 5],[(.sl .u8)]⟩],Zc (Xz fuel) fuel⟩
theorem ZhS:Zdp.okA yc 164 0:=ZC { own:=[3,9,15],still:=[2]} [] [] trivial
def VG(F:Nat)(a0:UInt64):Option ((List UInt8)):=
 (Zc (Xz F) F (a0,56,[])).bind λo556=>
 some o556
def Zef:Fs yc:=⟨164,[.v .u64],[],[.u64],[⟨.ret,[(0,.v (.sl .u8))],[],[(.sl .u8)]⟩],λx=>VG fuel x⟩
theorem ZkP:Zef.Ok:=fnO { own:=[3,9,15],still:=[2]} [(0,Zdp)] [] trivial ⟨ZhS,ytt⟩
def Y7(F:Nat)(s:((List UInt8)×(List UInt8))):Option (((List UInt8)×(List UInt8))⊕((List UInt8)×(List UInt8))):=
 if((yar (s.2.length:Int) 64)!=56)=true then
  if(apB s.2.length 1 1)=true then
   some (.inl (s.1,s.2++([0]:List UInt8)))
  else
  none
 else
 some (.inr (s.1,s.2))
def ZbG:Lp:=⟨[(0,.v (.sl .u8)),(3,.own 0 .u8)],[.log .u8 5],[(.sl .u8),(.sl .u8)],[⟨.exit 0,[(0,.v (.sl .u8)),(3,.own 0 .u8)],[.log .u8 5],[(.sl .u8),(.sl .u8)]⟩],Zc (Y7 fuel) fuel⟩
def ZJr:HI:={ own:=[3,6,8,9,11,16,18,27,33],still:=[2]}
theorem Zgg:ZbG.okA yc 179 0:=ZC ZJr [] [] trivial
def Y8(F:Nat)(s:(UInt64×Int×(List UInt8))):Option ((UInt64×Int×(List UInt8))⊕(List UInt8)):=
 if(decide (s.2.1 ≥ 0))=true then
  if(decide (0≤s.2.1))=true then
   let y558:UInt8:=w8 ((ZG s.1 (min s.2.1.toNat 64)).toNat:Int)
   if(apB s.2.2.length 1 1)=true then
    some (.inl (s.1,wi (s.2.1 - 8),s.2.2++([y558]:List UInt8)))
   else
   none
  else
  none
 else
 some (.inr s.2.2)
def ZbH:Lp:=⟨[(3,.own 0 .u8),(4,.v .u64),(5,.v yI)],[.log .u8 5],[.u64,yI,(.sl .u8)],[⟨.exit 2,[(3,.own 0 .u8)],[.log .u8 5],[(.sl .u8)]⟩],Zc (Y8 fuel) fuel⟩
theorem Zgh:ZbH.okA yc 179 1:=ZC ZJr [] [] trivial
def WO(F:Nat)(a0:(List UInt8)):Option ((List UInt8)):=
 if(apB 0 a0.length 1)=true then
  if(apB a0.length 1 1)=true then
   (Zc (Y7 F) F (a0,a0++([128]:List UInt8))).bind λo557=>
   (Zc (Y8 F) F (8*(w64 (o557.1.length:Int)),56,o557.2)).bind λo559=>
   some o559
  else
  none
 else
 none
def Zb1:Fs yc:=⟨179,[.v (.sl .u8)],[],[(.sl .u8)],[⟨.ret,[(0,.v (.sl .u8))],[],[(.sl .u8)]⟩],λx=>WO fuel x⟩
theorem ZiM:Zb1.Ok:=fnO ZJr [(0,ZbG),(1,ZbH)] [] trivial ⟨Zgg,Zgh,ytt⟩
def QC(F:Nat):Option ((List UInt32)):=
 some [1779033703,3144134277,1013904242,2773480762,1359893119,2600822924,528734635,1541459225]
def Zb2:Fs yc:=⟨180,[],[],[],[⟨.ret,[(0,.v (.sl .u32))],[],[(.sl .u32)]⟩],λx=>QC fuel⟩
theorem ZiN:Zb2.Ok:=fnO { still:=[0]} [] [] trivial
def ZI(F:Nat)(a0:UInt32)(a1:Int):Option (UInt32):=
 if(decide (0≤a1))=true then
  if(decide (0≤wi (32 - a1)))=true then
   let y560:UInt32:=(Zd6 a0 (min a1.toNat 32))|||(ZaS a0 (min (wi (32 - a1)).toNat 32))
   some y560
  else
  none
 else
 none
def Q1:Fs yc:=⟨190,[.v .u32,.v yI],[],[.u32,yI],[⟨.ret,[(0,.v .u32)],[],[.u32]⟩],λx=>ZI fuel x.1 x.2⟩
theorem Zdq:Q1.Ok:=fnO { still:=[4]} [] [] trivial
def Xl(F:Nat)(s:((List UInt8)×Int×(List UInt32))):Option (((List UInt8)×Int×(List UInt32))⊕(List UInt32)):=
 if(decide (s.2.1 < 16))=true then
  (idx s.1 (wi (4*s.2.1))).bind λe561=>
  (idx s.1 (wi ((wi (4*s.2.1))+1))).bind λe562=>
  let y563:UInt32:=(ZaS (ybs e561.toNat) 24)|||(ZaS (ybs e562.toNat) 16)
  (idx s.1 (wi ((wi (4*s.2.1))+2))).bind λe564=>
  (idx s.1 (wi ((wi (4*s.2.1))+3))).bind λe565=>
  let y566:UInt32:=(y563|||(ZaS (ybs e564.toNat) 8))|||(ybs e565.toNat)
  if(apB s.2.2.length 1 4)=true then
   some (.inl (s.1,wi (s.2.1+1),s.2.2++([y566]:List UInt32)))
  else
  none
 else
 some (.inr s.2.2)
def Zb3:Lp:=⟨[(0,.v (.sl .u8)),(3,.own 0 .u32),(4,.v yI)],[.log .u32 25],[(.sl .u8),yI,(.sl .u32)],[⟨.exit 0,[(3,.own 0 .u32)],[.log .u32 25],[(.sl .u32)]⟩],Zc (Xl fuel) fuel⟩
def ZJs:HI:={ own:=[3,14,49,80,97],still:=[2,64,66,72,74]}
theorem Zhf:Zb3.okA yc 188 0:=ZC ZJs [] [] trivial
def Xm(F:Nat)(s:(Int×(List UInt32))):Option ((Int×(List UInt32))⊕(List UInt32)):=
 if(decide (s.1 < 64))=true then
  (idx s.2 (wi (s.1 - 15))).bind λe568=>
  (idx s.2 (wi (s.1 - 2))).bind λe569=>
  (ZI F e568 7).bind λo570=>
  (ZI F e568 18).bind λo571=>
  (ZI F e569 17).bind λo572=>
  (ZI F e569 19).bind λo573=>
  (idx s.2 (wi (s.1 - 16))).bind λe574=>
  (idx s.2 (wi (s.1 - 7))).bind λe575=>
  let y576:UInt32:=(e574+((o570^^^o571)^^^(Zd6 e568 3)))+e575
  if(apB s.2.length 1 4)=true then
   let y577:(List UInt32):=s.2++([y576+((o572^^^o573)^^^(Zd6 e569 10))]:List UInt32)
   some (.inl (wi (s.1+1),y577))
  else
  none
 else
 some (.inr s.2)
def Zb4:Lp:=⟨[(3,.own 0 .u32),(5,.v yI)],[.log .u32 25],[yI,(.sl .u32)],[⟨.exit 2,[(3,.own 0 .u32)],[.log .u32 25],[(.sl .u32)]⟩],Zc (Xm fuel) fuel⟩
theorem Zhg:Zb4.okA yc 188 1:=ZC ZJs [] [Q1] ⟨Zdq,ytt⟩
def Vc(F:Nat)(a0:(List UInt8)):Option ((List UInt32)):=
 (Zc (Xl F) F (a0,0,[])).bind λo567=>
 (Zc (Xm F) F (16,o567)).bind λo578=>
 some o578
def Zdr:Fs yc:=⟨188,[.v (.sl .u8)],[],[(.sl .u8)],[⟨.ret,[(0,.v (.sl .u32))],[],[(.sl .u32)]⟩],λx=>Vc fuel x⟩
theorem Zjz:Zdr.Ok:=fnO ZJs [(0,Zb3),(1,Zb4)] [] trivial ⟨Zhf,Zhg,ytt⟩
def ZaJ(F:Nat):Option ((List UInt32)):=
 some [1116352408,1899447441,3049323471,3921009573,961987163,1508970993,2453635748,2870763221,3624381080,310598401,607225278,1426881987,1925078388,2162078206,2614888103,3248222580,3835390401,4022224774,264347078,604807628,770255983,1249150122,1555081692,1996064986,2554220882,2821834349,2952996808,3210313671,3336571891,3584528711,113926993,338241895,666307205,773529912,1294757372,1396182291,1695183700,1986661051,2177026350,2456956037,2730485921,2820302411,3259730800,3345764771,3516065817,3600352804,4094571909,275423344,430227734,506948616,659060556,883997877,958139571,1322822218,1537002063,1747873779,1955562222,2024104815,2227730452,2361852424,2428436474,2756734187,3204031479,3329325298]
def Zeg:Fs yc:=⟨189,[],[],[],[⟨.ret,[(0,.v (.sl .u32))],[],[(.sl .u32)]⟩],λx=>ZaJ fuel⟩
theorem ZkQ:Zeg.Ok:=fnO { still:=[0]} [] [] trivial
def Xn(F:Nat)(s:((List UInt32)×(List UInt32)×(List UInt32)×Int×(List Unit)×(List UInt32))):Option (((List UInt32)×(List UInt32)×(List UInt32)×Int×(List Unit)×(List UInt32))⊕((List UInt32)×(List Unit)×(List UInt32))):=
 if(decide (s.2.2.2.1 < 64))=true then
  if(inB 4 s.2.2.2.2.2.length)=true then
   (s.2.2.2.2.2[4]?).bind λe581=>
   (ZI F e581 6).bind λo582=>
   if(inB 4 s.2.2.2.2.2.length)=true then
    (s.2.2.2.2.2[4]?).bind λe583=>
    (ZI F e583 11).bind λo584=>
    if(inB 4 s.2.2.2.2.2.length)=true then
     (s.2.2.2.2.2[4]?).bind λe585=>
     (ZI F e585 25).bind λo586=>
     if(inB 4 s.2.2.2.2.2.length)=true then
      (s.2.2.2.2.2[4]?).bind λe587=>
      if(inB 5 s.2.2.2.2.2.length)=true then
       (s.2.2.2.2.2[5]?).bind λe588=>
       if(inB 4 s.2.2.2.2.2.length)=true then
        (s.2.2.2.2.2[4]?).bind λe589=>
        if(inB 6 s.2.2.2.2.2.length)=true then
         (s.2.2.2.2.2[6]?).bind λe590=>
         let y591:UInt32:=(e587&&&e588)^^^((4294967295^^^e589)&&&e590)
         if(inB 7 s.2.2.2.2.2.length)=true then
          (s.2.2.2.2.2[7]?).bind λe592=>
          (idx s.2.2.1 s.2.2.2.1).bind λe593=>
          let y594:UInt32:=((e592+((o582^^^o584)^^^o586))+y591)+e593
          (idx s.2.1 s.2.2.2.1).bind λe595=>
          if(inB 0 s.2.2.2.2.2.length)=true then
           (s.2.2.2.2.2[0]?).bind λe596=>
           (ZI F e596 2).bind λo597=>
           if(inB 0 s.2.2.2.2.2.length)=true then
            (s.2.2.2.2.2[0]?).bind λe598=>
            (ZI F e598 13).bind λo599=>
            if(inB 0 s.2.2.2.2.2.length)=true then
             (s.2.2.2.2.2[0]?).bind λe600=>
             (ZI F e600 22).bind λo601=>
             if(inB 0 s.2.2.2.2.2.length)=true then
              (s.2.2.2.2.2[0]?).bind λe602=>
              if(inB 1 s.2.2.2.2.2.length)=true then
               (s.2.2.2.2.2[1]?).bind λe603=>
               if(inB 0 s.2.2.2.2.2.length)=true then
                (s.2.2.2.2.2[0]?).bind λe604=>
                if(inB 2 s.2.2.2.2.2.length)=true then
                 (s.2.2.2.2.2[2]?).bind λe605=>
                 if(inB 1 s.2.2.2.2.2.length)=true then
                  (s.2.2.2.2.2[1]?).bind λe606=>
                  if(inB 2 s.2.2.2.2.2.length)=true then
                   (s.2.2.2.2.2[2]?).bind λe607=>
                   let y608:UInt32:=((e602&&&e603)^^^(e604&&&e605))^^^(e606&&&e607);let y609:UInt32:=((y594+e595)+((o597^^^o599)^^^o601))+y608
                   if(inB 0 s.2.2.2.2.2.length)=true then
                    (s.2.2.2.2.2[0]?).bind λe610=>
                    if(inB 1 s.2.2.2.2.2.length)=true then
                     (s.2.2.2.2.2[1]?).bind λe611=>
                     if(inB 2 s.2.2.2.2.2.length)=true then
                      (s.2.2.2.2.2[2]?).bind λe612=>
                      if(inB 3 s.2.2.2.2.2.length)=true then
                       (s.2.2.2.2.2[3]?).bind λe613=>
                       if(inB 4 s.2.2.2.2.2.length)=true then
                        (s.2.2.2.2.2[4]?).bind λe614=>
                        if(inB 5 s.2.2.2.2.2.length)=true then
                         (s.2.2.2.2.2[5]?).bind λe615=>
                         if(inB 6 s.2.2.2.2.2.length)=true then
                          (s.2.2.2.2.2[6]?).bind λe616=>
                          some (.inl (s.1,s.2.1,s.2.2.1,wi (s.2.2.2.1+1),()::s.2.2.2.2.1,[y609,e610,e611,e612,e613+(y594+e595),e614,e615,e616]))
                         else
                         none
                        else
                        none
                       else
                       none
                      else
                      none
                     else
                     none
                    else
                    none
                   else
                   none
                  else
                  none
                 else
                 none
                else
                none
               else
               none
              else
              none
             else
             none
            else
            none
           else
           none
          else
          none
         else
         none
        else
        none
       else
       none
      else
      none
     else
     none
    else
    none
   else
   none
  else
  none
 else
 some (.inr (s.1,s.2.2.2.2.1,s.2.2.2.2.2))
def Zb5:Lp:=⟨[(0,.v (.sl .u32)),(5,.v (.sl .u32)),(6,.v (.sl .u32)),(7,.rw 0),(8,.v yI)],[.row .u32 true 25],[(.sl .u32),(.sl .u32),(.sl .u32),yI,(.sl (.st [])),(.sl .u32)],[⟨.exit 0,[(0,.v (.sl .u32)),(7,.rw 0)],[.row .u32 true 25],[(.sl .u32),(.sl (.st [])),(.sl .u32)]⟩],Zc (Xn fuel) fuel⟩
def ZJt:HI:={ own:=[18,20],still:=[4,15,27,31,36,74,78,83],rowt:=[7,18,20,137,142],rew:=[(137,7)]}
theorem Zhh:Zb5.okA yc 181 0:=ZC ZJt [] [Q1] ⟨Zdq,ytt⟩
def Xo(F:Nat)(s:((List UInt32)×Int×(List Unit)×(List UInt32))):Option (((List UInt32)×Int×(List Unit)×(List UInt32))⊕((List Unit)×(List UInt32))):=
 if(decide (s.2.1 < 8))=true then
  if(inB s.2.1 s.2.2.2.length)=true then
   (s.2.2.2[s.2.1.toNat]?).bind λe618=>
   (idx s.1 s.2.1).bind λe619=>
   if(inB s.2.1 s.2.2.2.length)=true then
    (s.2.2.2[s.2.1.toNat]?).bind λe620=>
    some (.inl (s.1,wi (s.2.1+1),s.2.2.1,s.2.2.2.set s.2.1.toNat (e618+e619)))
   else
   none
  else
  none
 else
 some (.inr (s.2.2.1,s.2.2.2))
def Zb6:Lp:=⟨[(0,.v (.sl .u32)),(7,.rw 0),(14,.v yI)],[.row .u32 true 25],[(.sl .u32),yI,(.sl (.st [])),(.sl .u32)],[⟨.exit 2,[(7,.rw 0)],[.row .u32 true 25],[(.sl (.st [])),(.sl .u32)]⟩],Zc (Xo fuel) fuel⟩
theorem Zhi:Zb6.okA yc 181 1:=ZC ZJt [] [] trivial
def Vd(F:Nat)(a0:(List UInt32))(a1:(List UInt8)):Option ((List UInt32)):=
 (Vc F a1).bind λo579=>
 (ZaJ F).bind λo580=>
 if(apB 0 a0.length 4)=true then
  (Zc (Xn F) F (a0,o579,o580,0,[()],a0)).bind λo617=>
  (Zc (Xo F) F (o617.1,0,o617.2.1,o617.2.2)).bind λo621=>
  some o621.2
 else
 none
def Zds:Fs yc:=⟨181,[.v (.sl .u32),.v (.sl .u8)],[],[(.sl .u32),(.sl .u8)],[⟨.ret,[(0,.v (.sl .u32))],[],[(.sl .u32)]⟩],λx=>Vd fuel x.1 x.2⟩
theorem ZjA:Zds.Ok:=fnO ZJt [(0,Zb5),(1,Zb6)] [Zdr,Zeg] ⟨Zjz,ZkQ,ytt⟩ ⟨Zhh,Zhi,ytt⟩
def XA(F:Nat)(s:((List UInt8)×(List UInt32)×Int×(List UInt8))):Option (((List UInt8)×(List UInt32)×Int×(List UInt8))⊕((List UInt32)×(List UInt8))):=
 if(decide (s.2.2.1 < (s.1.length:Int)))=true then
  if(Za2 s.1.length (some s.2.2.1) (some (wi (s.2.2.1+64))))=true then
   let y624:(List UInt8):=(s.1.take ((wi (s.2.2.1+64)).toNat)).drop s.2.2.1.toNat
   (Vd F s.2.1 y624).bind λo625=>
   some (.inl (s.1,o625,wi (s.2.2.1+64),s.2.2.2))
  else
  none
 else
 some (.inr (s.2.1,s.2.2.2))
def Zdt:Lp:=⟨[(2,.ref 0 []),(3,.v (.sl .u8)),(4,.v (.sl .u32)),(5,.v yI)],[.var (.v (.arr 32 .u8)) true],[(.sl .u8),(.sl .u32),yI,(.arr 32 .u8)],[⟨.exit 0,[(2,.ref 0 []),(4,.v (.sl .u32))],[.var (.v (.arr 32 .u8)) true],[(.sl .u32),(.arr 32 .u8)]⟩],Zc (XA fuel) fuel⟩
theorem ZhT:Zdt.okA yc 165 0:=ZC { still:=[8,17,22]} [] [Zds] ⟨ZjA,ytt⟩
def XB(F:Nat)(s:((List UInt32)×Int×(List UInt8)×(List UInt8))):Option (((List UInt32)×Int×(List UInt8)×(List UInt8))⊕((List UInt8)×(List UInt8))):=
 if(decide (s.2.1 < 32))=true then
  (idx s.1 (wi (Int.tdiv s.2.1 4))).bind λe627=>
  if(decide (0≤wi (24 - (wi (8*(yar s.2.1 4))))))=true then
   let y628:UInt32:=Zd6 e627 (min (wi (24 - (wi (8*(yar s.2.1 4))))).toNat 32)
   if(inB s.2.1 32)=true then
    (s.2.2.2[s.2.1.toNat]?).bind λe629=>
    some (.inl (s.1,wi (s.2.1+1),s.2.2.1,s.2.2.2.set s.2.1.toNat (w8 (y628.toNat:Int))))
   else
   none
  else
  none
 else
 some (.inr (s.2.2.1,s.2.2.2))
def Zdu:Lp:=⟨[(2,.ref 0 []),(4,.v (.sl .u32)),(6,.ref 1 []),(7,.v yI)],[.var (.v (.arr 32 .u8)) true,.var (.v (.arr 32 .u8)) true],[(.sl .u32),yI,(.arr 32 .u8),(.arr 32 .u8)],[⟨.exit 2,[(2,.ref 0 []),(6,.ref 1 [])],[.var (.v (.arr 32 .u8)) true,.var (.v (.arr 32 .u8)) true],[(.arr 32 .u8),(.arr 32 .u8)]⟩],Zc (XB fuel) fuel⟩
theorem ZhU:Zdu.okA yc 165 1:=ZC { still:=[8,17,22]} [] [] trivial
def Wp(F:Nat)(a0:(List UInt8)):Option ((List UInt8)):=
 (WO F a0).bind λo622=>
 (QC F).bind λo623=>
 (Zc (XA F) F (o622,o623,0,yzz)).bind λo626=>
 (Zc (XB F) F (o626.1,0,o626.2,yzz)).bind λo630=>
 some o630.2
def QD(F:Nat):Fs yc:=⟨165,[.v (.sl .u8)],[],[(.sl .u8)],[⟨.ret,[(0,.v (.arr 32 .u8))],[],[(.arr 32 .u8)]⟩],λx=>Wp F x⟩
def ZlK:Fs yc:=QD fuel
theorem ZkR:ZlK.Ok:=fnO { still:=[8,17,22]} [(0,Zdt),(1,Zdu)] [Zb1,Zb2] ⟨ZiM,ZiN,ytt⟩ ⟨ZhT,ZhU,ytt⟩
end
end Go.Proofs.YtmkgbalfkhaflaaGreat
end
section
set_option maxRecDepth 4000
namespace Go.Ev
theorem ZBU{I X:Type}{step:I→Option (I⊕X)}{st:Nat→I}{x:X}(n:Nat)(hs:∀k,k < n→step (st k)=some (.inl (st (k+1))))(he:step (st n)=some (.inr x)):∀(d k f:Nat),k+d=n→d < f→Zc step f (st k)=some x
 |0,k,f+1,h,_=>by
  have e:k=n:=by omega
  subst e;unfold Zc
  rw[he,ya]
 |d+1,k,f+1,h,hf=>by
  unfold Zc;rw[hs k (by omega),ya];exact ZBU n hs he d (k+1) f (by omega) (by omega)
theorem Z4{I X:Type}{step:I→Option (I⊕X)}(n:Nat)(st:Nat→I){x:X}(hs:∀k,k < n→step (st k)=some (.inl (st (k+1))))(he:step (st n)=some (.inr x))(hn:n < 18446744073709551616):
 Zc step fuel (st 0)=some x:=ZBU n hs he n 0 fuel (by omega) (by rw[ZcL];exact hn)
theorem ZyS{I X:Type}{step:I→Option (I⊕X)}{Post:X→Prop}(n:Nat)(S:Nat→I→Prop)(hs:∀k s,k < n→S k s→(∃t,step s=some (.inl t)∧S (k+1) t)∨∃x,step s=some (.inr x)∧Post x)
 (he:∀s,S n s→∃x,step s=some (.inr x)∧Post x):∀(d k f:Nat)(s:I),k+d=n→d < f→S k s→∃x,Zc step f s=some x∧Post x
 |0,k,f+1,s,h,_,hS=>by
  have e:k=n:=by omega
  subst e;obtain⟨x,h1,h2⟩:=he s hS;unfold Zc;rw[h1,ya]
  exact⟨x,rfl,h2⟩
 |d+1,k,f+1,s,h,hf,hS=>by
  unfold Zc;rcases hs k s (by omega) hS with⟨t,h1,h2⟩|⟨x,h1,h2⟩
  ·rw[h1,ya];exact ZyS n S hs he d (k+1) f t (by omega) (by omega) h2
  ·rw[h1,ya];exact⟨x,rfl,h2⟩
theorem Z8{I X:Type}{step:I→Option (I⊕X)}(n:Nat)(S:Nat→I→Prop)(Post:X→Prop){i:I}(h0:S 0 i)(hn:n < 18446744073709551616)
 (hs:∀k s,k < n→S k s→(∃t,step s=some (.inl t)∧S (k+1) t)∨∃x,step s=some (.inr x)∧Post x)
 (he:∀s,S n s→∃x,step s=some (.inr x)∧Post x):∃x,Zc step fuel i=some x∧Post x:=ZyS n S hs he n 0 fuel i (by omega) (by rw[ZcL];exact hn) h0
theorem Yk{a b:Nat}(h:a < b):decide ((a:Int) < (b:Int))=true:=decide_eq_true (by omega)
theorem Z2{a:Nat}:decide ((a:Int) < (a:Int))=false:=decide_eq_false (by omega)
theorem Zr{k:Nat}(h:k < 9223372036854775807):wi ((k:Int)+1)=((k+1:Nat):Int):=by
 rw[ZD (by omega) (by omega)];omega
theorem Zu{α:Type}{l:List α}{k:Nat}{y:α}(h:l[k]? =some y):idx l (k:Int)=some y:=ZgC (by omega) (by simpa using h)
theorem Zu6{α:Type}{ls:List (List α)}{k:Nat}{e:List α}(h:ls[k]? =some e):(ls.take (k+1)).flatten=(ls.take k).flatten++e:=by
 rw[List.take_add_one,h];simp
theorem ZBV{α:Type}(ls:List (List α))(k:Nat):(ls.take k).flatten.length≤ls.flatten.length:=by
 have h:=congrArg (λl=>(List.flatten l).length) (ybn k ls);simp only[List.flatten_append,yp] at h;omega
theorem ZeW{α:Type}{l:List α}{k:Nat}{e:α}(h:l[k]? =some e):l.take (k+1)=l.take k++[e]:=by
 rw[List.take_add_one,h];rfl
theorem Zl{α:Type}{l:List α}{k:Nat}(h:k < l.length):∃e,l[k]? =some e∧e∈l:=⟨l[k],yac h,List.getElem_mem h⟩
end Go.Ev
end
section
set_option maxRecDepth 4000
namespace Go.Proofs.YtmkgbalfkhaflaaGreat
open Go Go.Ev Go.Sha
theorem ZcY(x:UInt32)(n k:Nat)(h:n+k=32)(hn:0 < n){z:Int}(hz:z=(n:Int)):∃o,ZI fuel x z=some o∧o.toNat=lo (yae (dbl x.toNat) n):=by
 subst hz;unfold ZI;rw[ZD (z:=32 - (n:Int)) (by omega) (by omega),if_pos (decide_eq_true (by omega)),if_pos (decide_eq_true (by omega))];refine⟨_,rfl, ?_⟩;have e1:min ((n:Int)).toNat 32=n:=by omega
 have e2:min (32 - (n:Int)).toNat 32=k:=by omega
 rw[e1,e2,UInt32.or_comm];exact ZH3 x h hn
theorem ZJu(a b c d:UInt8):((((ZaS (ybs a.toNat) 24)|||(ZaS (ybs b.toNat) 16))|||(ZaS (ybs c.toNat) 8))|||(ybs d.toNat)).toNat=((a.toNat*256+b.toNat)*256+c.toNat)*256+d.toNat:=by
 have h1:=a.toNat_lt;have h2:=b.toNat_lt;have h3:=c.toNat_lt;have h4:=d.toNat_lt
 have hs:∀(x:UInt8)(n:Nat),n≤24→(ZaS (ybs x.toNat) n).toNat=x.toNat*2 ^ n:=by
  intro x n hn;have hx:=x.toNat_lt;unfold ZaS;rw[yco,yco,yah (a:=x.toNat) (by omega)];refine yah ?_
  calc x.toNat*2 ^ n < 2 ^ 8*2 ^ n:=Nat.mul_lt_mul_of_pos_right hx (Nat.two_pow_pos n)
   _=2 ^ (8+n):=(Nat.pow_add ..).symm
   _≤2 ^ 32:=Nat.pow_le_pow_right (by omega) (by omega)
 rw[ZwN,ZwN,ZwN,hs _ _ (by omega),hs _ _ (by omega),hs _ _ (by omega),yco,yah (a:=d.toNat) (by omega)]
 have k1:Nat.lor (a.toNat*2 ^ 24) (b.toNat*2 ^ 16)=2 ^ 16*(a.toNat*256+b.toNat):=by
  rw[Nat.mul_comm a.toNat,show Nat.lor (2 ^ 24*a.toNat) (b.toNat*2 ^ 16)=2 ^ 24*a.toNat|||b.toNat*2 ^ 16 from rfl, ←ycy (by omega)]
  omega
 have k2:Nat.lor (2 ^ 16*(a.toNat*256+b.toNat)) (c.toNat*2 ^ 8)=2 ^ 8*((a.toNat*256+b.toNat)*256+c.toNat):=by
  rw[show Nat.lor (2 ^ 16*(a.toNat*256+b.toNat)) (c.toNat*2 ^ 8)=2 ^ 16*(a.toNat*256+b.toNat)|||c.toNat*2 ^ 8 from rfl, ←ycy (by omega)]
  omega
 rw[k1,k2,show Nat.lor (2 ^ 8*((a.toNat*256+b.toNat)*256+c.toNat)) d.toNat=2 ^ 8*((a.toNat*256+b.toNat)*256+c.toNat)|||d.toNat from rfl, ←ycy (by omega)]
 omega
theorem ZKu(e f g:UInt32):((e&&&f)^^^((4294967295^^^e)&&&g)).toNat=ch e.toNat f.toNat g.toNat:=by
 rw[←ZKm];congr 1;apply UInt32.toBitVec_inj.1;apply BitVec.eq_of_getLsbD_eq;intro i hi
 have h1:(4294967295:UInt32).toBitVec.getLsbD i=true:=by
  rw[show(4294967295:UInt32).toBitVec=BitVec.allOnes 32 from rfl,BitVec.getLsbD_allOnes]
  exact decide_eq_true hi
 simp only[UInt32.toBitVec_xor,UInt32.toBitVec_and,BitVec.getLsbD_xor,BitVec.getLsbD_and,h1];cases e.toBitVec.getLsbD i <;> cases f.toBitVec.getLsbD i <;> cases g.toBitVec.getLsbD i <;> rfl
theorem ZKv(a b c:UInt32):(((a&&&b)^^^(a&&&c))^^^(b&&&c)).toNat=mj a.toNat b.toNat c.toNat:=by
 rw[←ZKn];congr 1;apply UInt32.toBitVec_inj.1;apply BitVec.eq_of_getLsbD_eq;intro i hi;simp only[UInt32.toBitVec_xor,UInt32.toBitVec_and,UInt32.toBitVec_or,BitVec.getLsbD_xor,BitVec.getLsbD_and,BitVec.getLsbD_or];cases a.toBitVec.getLsbD i <;> cases b.toBitVec.getLsbD i <;> cases c.toBitVec.getLsbD i <;> rfl
theorem ZFP{l:List UInt8}(h:l.length=64):∃o,Vc fuel l=some o∧o.length=64∧∀(i:Nat)x,o[i]? =some x→x.toNat=wd (Yg (l.map yak)) i:=by
 unfold Vc
 have hset:∀(w:List UInt32)(y:UInt32),y.toNat=wd (Yg (l.map yak)) w.length→(∀(j:Nat)x,w[j]? =some x→x.toNat=wd (Yg (l.map yak)) j)→∀(j:Nat)x,(w++[y])[j]? =some x→x.toNat=wd (Yg (l.map yak)) j:=by
  intro w y hy hw j x hx;by_cases hj:j < w.length
  ·rw[List.getElem?_append_left hj] at hx;exact hw j x hx
  ·rw[yat (by omega)] at hx
   have:j=w.length:=by
    have:=(yr.1 hx).1;simp at this;omega
   subst this;rw[Nat.sub_self] at hx;cases hx;exact hy
 obtain⟨w0,g1,g2,g3⟩:=Z8 (step:=Xl fuel) 16 (λk s=>∃w,s=(l,(k:Int),w)∧w.length=k∧∀(j:Nat)x,w[j]? =some x→x.toNat=wd (Yg (l.map yak)) j) (λw=>w.length=16∧∀(j:Nat)x,w[j]? =some x→x.toNat=wd (Yg (l.map yak)) j) (i:=(l,(0:Int),([]:List UInt32))) ⟨_,rfl,rfl,λj x hx=>by simp at hx⟩ (by omega) (by
  rintro k _ hk ⟨w,rfl,hw,hv⟩;left;obtain⟨x0,q0,_⟩:=Zl (l:=l) (k:=4*k) (by omega);obtain⟨x1,q1,_⟩:=Zl (l:=l) (k:=4*k+1) (by omega);obtain⟨x2,q2,_⟩:=Zl (l:=l) (k:=4*k+2) (by omega);obtain⟨x3,q3,_⟩:=Zl (l:=l) (k:=4*k+3) (by omega);unfold Xl;dsimp only;rw[ZD (z:=4*(k:Int)) (by omega) (by omega),ZD (z:=4*(k:Int)+1) (by omega) (by omega),ZD (z:=4*(k:Int)+2) (by omega) (by omega),ZD (z:=4*(k:Int)+3) (by omega) (by omega)]
  rw[if_pos (decide_eq_true (by omega)),show 4*(k:Int)=((4*k:Nat):Int) by omega,show((4*k:Nat):Int)+1=((4*k+1:Nat):Int) by omega,show((4*k:Nat):Int)+2=((4*k+2:Nat):Int) by omega,show((4*k:Nat):Int)+3=((4*k+3:Nat):Int) by omega,
   Zu q0,ya,Zu q1,ya,Zu q2,ya,Zu q3,ya,if_pos (Yj (by omega) (by omega)),Zr (by omega)]
  refine⟨_,rfl,_,rfl,by rw[yp,List.length_singleton];omega,hset w _ ?_ hv⟩;have mg:∀(k:Nat)(x:UInt8),l[k]? =some x→(l.map yak)[k]? =some x.toNat:=λk x hx=>by rw[yal,hx];rfl
  have hwg:=Zkz k (l.map yak) _ _ _ _ (mg _ _ q0) (mg _ _ q1) (mg _ _ q2) (mg _ _ q3);rw[ZJu,hw];have b0:=x0.toNat_lt;have b1:=x1.toNat_lt;have b2:=x2.toNat_lt;have b3:=x3.toNat_lt;exact(ZyL _ (by omega) hwg (by omega)).symm) (by
  rintro _ ⟨w,rfl,hw,hv⟩;unfold Xl;dsimp only;rw[if_neg (ynd (by omega))];exact⟨_,rfl,hw,hv⟩)
 rw[g1,ya]
 obtain⟨w1,k1,k2,k3⟩:=Z8 (step:=Xm fuel) 48 (λk s=>∃w,s=(((16+k:Nat):Int),w)∧w.length=16+k∧∀(j:Nat)x,w[j]? =some x→x.toNat=wd (Yg (l.map yak)) j) (λw=>w.length=64∧∀(j:Nat)x,w[j]? =some x→x.toNat=wd (Yg (l.map yak)) j) (i:=((16:Int),w0)) ⟨_,rfl,g2,g3⟩ (by omega) (by
  rintro k _ hk ⟨w,rfl,hw,hv⟩;left;obtain⟨e1,he1,_⟩:=Zl (l:=w) (k:=k+1) (by omega);obtain⟨e2,he2,_⟩:=Zl (l:=w) (k:=k+14) (by omega);obtain⟨e3,he3,_⟩:=Zl (l:=w) (k:=k) (by omega);obtain⟨e4,he4,_⟩:=Zl (l:=w) (k:=k+9) (by omega);obtain⟨o1,ho1,p1⟩:=ZcY e1 7 25 rfl (by omega) (z:=7) rfl;obtain⟨o2,ho2,p2⟩:=ZcY e1 18 14 rfl (by omega) (z:=18) rfl;obtain⟨o3,ho3,p3⟩:=ZcY e2 17 15 rfl (by omega) (z:=17) rfl;obtain⟨o4,ho4,p4⟩:=ZcY e2 19 13 rfl (by omega) (z:=19) rfl;unfold Xm;dsimp only;rw[if_pos (decide_eq_true (by omega)),ZD (z:=((16+k:Nat):Int) - 15) (by omega) (by omega),ZD (z:=((16+k:Nat):Int) - 2) (by omega) (by omega),ZD (z:=((16+k:Nat):Int) - 16) (by omega) (by omega),ZD (z:=((16+k:Nat):Int) - 7) (by omega) (by omega)];rw[show((16+k:Nat):Int) - 15=((k+1:Nat):Int) by omega,show((16+k:Nat):Int) - 2=((k+14:Nat):Int) by omega,show((16+k:Nat):Int) - 16=(k:Int) by omega,show((16+k:Nat):Int) - 7=((k+9:Nat):Int) by omega]
  rw[Zu he1,ya,Zu he2,ya,ho1,ya,ho2,ya,ho3,ya,ho4,ya,Zu he3,ya,Zu he4,ya,
   if_pos (Yj (by omega) (by omega)),Zr (by omega)]
  refine⟨_,rfl,_,rfl,by rw[yp,List.length_singleton];omega,hset w _ ?_ hv⟩;have hn:=ZwO (Yg (l.map yak)) k;rw[←hv _ _ he1, ←hv _ _ he2, ←hv _ _ he3, ←hv _ _ he4] at hn;rw[hw,Nat.add_comm 16 k,hn,QW,QW,QW,ZKi e1 p1 p2,ZKj e2 p3 p4];exact ZKo ..) (by
  rintro _ ⟨w,rfl,hw,hv⟩;unfold Xm;dsimp only;rw[if_neg (ynd (by omega))];exact⟨_,rfl,hw,hv⟩)
 rw[k1,ya];exact⟨_,rfl,k2,k3⟩
theorem ZFQ{st:List UInt32}{l:List UInt8}(hs:st.length=8)(h:l.length=64):∃o,Vd fuel st l=some o∧o.map yam=ZiB (st.map yam) (Yg (l.map yak)):=by
 unfold Vd;obtain⟨w,hw,hwl,hwv⟩:=ZFP h;obtain⟨k,hk,hkv⟩:∃k,ZaJ fuel=some k∧k.map yam=ks:=⟨_,rfl,rfl⟩;have hkl:k.length=64:=by rw[←yz (f:=yam),hkv];rfl
 generalize hws:Yg (l.map yak)=ws at hwv;rw[hw,ya,hk,ya,if_pos (Yj (by omega) (by omega))]
 obtain⟨x,g1,u,v,rfl,g2,g3⟩:=Z8 (step:=Xn fuel) 64 (λi s=>∃u v,s=(st,w,k,(i:Int),u,v)∧v.length=8∧v.map yam=rs ws (st.map yam) i) (λx=>∃u v,x=(st,u,v)∧v.length=8∧v.map yam=rs ws (st.map yam) 64) (i:=(st,w,k,(0:Int),([()]:List Unit),st)) ⟨_,_,rfl,hs,rfl⟩ (by omega) (by
  rintro i _ hi ⟨u,v,rfl,he,hv⟩;left
  match v,he,hv with
  |[x0,x1,x2,x3,x4,x5,x6,x7],_,hv=>
   obtain⟨e1,he1,_⟩:=Zl (l:=k) (k:=i) (by omega);obtain⟨e2,he2,_⟩:=Zl (l:=w) (k:=i) (by omega);obtain⟨o1,ho1,p1⟩:=ZcY x4 6 26 rfl (by omega) (z:=6) rfl;obtain⟨o2,ho2,p2⟩:=ZcY x4 11 21 rfl (by omega) (z:=11) rfl;obtain⟨o3,ho3,p3⟩:=ZcY x4 25 7 rfl (by omega) (z:=25) rfl;obtain⟨o4,ho4,p4⟩:=ZcY x0 2 30 rfl (by omega) (z:=2) rfl;obtain⟨o5,ho5,p5⟩:=ZcY x0 13 19 rfl (by omega) (z:=13) rfl;obtain⟨o6,ho6,p6⟩:=ZcY x0 22 10 rfl (by omega) (z:=22) rfl;have hb:∀n:Nat,n < 8→inB (n:Int) ([x0,x1,x2,x3,x4,x5,x6,x7]:List UInt32).length=true:=λn hn=>Xf (by omega) (by simp;omega);have b0:=hb 0 (by omega);have b1:=hb 1 (by omega);have b2:=hb 2 (by omega);have b3:=hb 3 (by omega);have b4:=hb 4 (by omega);have b5:=hb 5 (by omega);have b6:=hb 6 (by omega);have b7:=hb 7 (by omega);unfold Xn;dsimp only;generalize ZI fuel=R at ho1 ho2 ho3 ho4 ho5 ho6 ⊢;rw[if_pos (decide_eq_true (by omega))];have c0:inB 0 ([x0,x1,x2,x3,x4,x5,x6,x7]:List UInt32).length=true:=b0;have c1:inB 1 ([x0,x1,x2,x3,x4,x5,x6,x7]:List UInt32).length=true:=b1;have c2:inB 2 ([x0,x1,x2,x3,x4,x5,x6,x7]:List UInt32).length=true:=b2;have c3:inB 3 ([x0,x1,x2,x3,x4,x5,x6,x7]:List UInt32).length=true:=b3;have c4:inB 4 ([x0,x1,x2,x3,x4,x5,x6,x7]:List UInt32).length=true:=b4;have c5:inB 5 ([x0,x1,x2,x3,x4,x5,x6,x7]:List UInt32).length=true:=b5;have c6:inB 6 ([x0,x1,x2,x3,x4,x5,x6,x7]:List UInt32).length=true:=b6;have c7:inB 7 ([x0,x1,x2,x3,x4,x5,x6,x7]:List UInt32).length=true:=b7;simp only[c0,c1,c2,c3,c4,c5,c6,c7,if_true,yas,yap,ya,ho1,ho2,ho3,ho4,ho5,ho6,Zu he1,Zu he2];rw[Zr (by omega)];refine⟨_,rfl,_,_,rfl,rfl, ?_⟩;rw[show rs ws (st.map yam) (i+1)=rnd (rs ws (st.map yam) i) (ks.getD i 0) (wd ws i) from rfl, ←hv]
   have hk1:ks.getD i 0=e1.toNat:=by
    rw[←hkv,ycx,yal,he1];rfl
   rw[hk1, ←hwv i e2 he2];simp only[yaf,List.map_nil];rw[ZsY]
   have kt:((x7+((o1^^^o2)^^^o3))+((x4&&&x5)^^^((4294967295^^^x4)&&&x6))+e1+e2).toNat=lo (yu (yu (yu (yu x7.toNat (S1 x4.toNat)) (ch x4.toNat x5.toNat x6.toNat)) e1.toNat) e2.toNat):=by
    rw[QW,QW,QW,QW,ZKl x4 p1 p2 p3,ZKu];exact ZKp ..
   have ka:((x7+((o1^^^o2)^^^o3))+((x4&&&x5)^^^((4294967295^^^x4)&&&x6))+e1+e2+((o4^^^o5)^^^o6)+(((x0&&&x1)^^^(x0&&&x2))^^^(x1&&&x2))).toNat=lo (yu (yu (yu (yu (yu (yu x7.toNat (S1 x4.toNat)) (ch x4.toNat x5.toNat x6.toNat)) e1.toNat) e2.toNat) (S0 x0.toNat)) (mj x0.toNat x1.toNat x2.toNat)):=by
    rw[QW,QW,kt,ZKk x0 p4 p5 p6,ZKv];exact ZKq ..
   have ke:(x3+(((x7+((o1^^^o2)^^^o3))+((x4&&&x5)^^^((4294967295^^^x4)&&&x6)))+e1+e2)).toNat=lo (yu x3.toNat (yu (yu (yu (yu x7.toNat (S1 x4.toNat)) (ch x4.toNat x5.toNat x6.toNat)) e1.toNat) e2.toNat)):=by
    rw[QW,kt];exact ZKr ..
   rw[ka,ke]) (by
  rintro _ ⟨u,v,rfl,he,hv⟩;unfold Xn;dsimp only;rw[if_neg (ynd (by omega))];exact⟨_,rfl,_,_,rfl,he,hv⟩)
 rw[g1,ya];have hml:(ZiB (st.map yam) ws).length=8:=ZfJ (by rw[yz];exact hs)
 obtain⟨x,q1,q2⟩:=Z8 (step:=Xo fuel) 8 (λi s=>∃e,s=(st,(i:Int),u,e)∧e.length=8∧∀(j:Nat)x,e[j]? =some x→if j < i then(ZiB (st.map yam) ws)[j]? =some x.toNat else(rs ws (st.map yam) 64)[j]? =some x.toNat) (λx=>x.2.map yam=ZiB (st.map yam) ws) (i:=(st,(0:Int),u,v)) ⟨_,rfl,g2,λj x hx=>by
  rw[if_neg (by omega), ←g3,yal,hx];rfl⟩ (by omega) (by
  rintro i _ hi ⟨e,rfl,he,hv⟩;left;obtain⟨e1,he1,_⟩:=Zl (l:=e) (k:=i) (by omega);obtain⟨e2,he2,_⟩:=Zl (l:=st) (k:=i) (by omega);unfold Xo;dsimp only;rw[if_pos (decide_eq_true (by omega)),if_pos (Xf (by omega) (by omega)),ybq,he1,ya,Zu he2,ya,if_pos (Xf (by omega) (by omega)),ya,Zr (by omega)];refine⟨_,rfl,_,rfl,by rw[ybj];exact he, ?_⟩;intro j x hx;by_cases hji:j=i
  ·subst hji;rw[ycr (by omega)] at hx;cases hx;rw[if_pos (by omega),QW];have k1:=hv _ _ he1;rw[if_neg (by omega)] at k1;unfold ZiB;rw[List.getElem?_zipWith,k1,yal,he2];rfl
  ·rw[yda (Ne.symm hji)] at hx;have k1:=hv j x hx;by_cases hj:j < i
   ·rw[if_pos hj] at k1;rw[if_pos (by omega)];exact k1
   ·rw[if_neg hj] at k1;rw[if_neg (by omega)];exact k1) (by
  rintro _ ⟨e,rfl,he,hv⟩;unfold Xo;dsimp only;rw[if_neg (ynd (by omega))];refine⟨_,rfl, ?_⟩;dsimp only;apply ybp;intro j;rw[yal];by_cases hj:j < 8
  ·obtain⟨x,hx,_⟩:=Zl (l:=e) (k:=j) (by omega);have:=hv j x hx;rw[if_pos hj] at this;rw[hx,this];rfl
  ·rw[yao (by omega),yao (by omega)];rfl)
 dsimp only;rw[q1,ya];exact⟨_,rfl,q2⟩
def rb8(n:Nat):List UInt8:=(be8 n).map yau
theorem ZJv(n:UInt64){k:Nat}(hk:k < 8):(rb8 n.toNat)[k]? =some (w8 ((ZG n (56 - 8*k)).toNat:Int)):=by
 have h:∀m:Nat,w8 ((ZG n m).toNat:Int)=yau (n.toNat / 2 ^ m % 256):=by
  intro m;unfold w8 ZG;rw[yba,yah (Nat.lt_of_le_of_lt (Nat.div_le_self _ _) (ybr n))];congr 1
 rw[h]
 match k,hk with
 |0,_=>rfl
 |1,_=>rfl
 |2,_=>rfl
 |3,_=>rfl
 |4,_=>rfl
 |5,_=>rfl
 |6,_=>rfl
 |7,_=>
  show some (yau (n.toNat % 256))=some (yau (n.toNat / 2 ^ 0 % 256));rw[Nat.pow_zero,Nat.div_one]
theorem ZJw{l:List UInt8}(h:l.length≤4294967296):WO fuel l=some (l++([128]:List UInt8)++yy (zs l.length) 0++rb8 (8*l.length)):=by
 unfold WO;have hlt:l.length % 64 < 64:=ybb _ (by omega);rw[if_pos (Yj (by omega) (by omega)),if_pos (Yj (by omega) (by omega))]
 obtain⟨x,h1,h2⟩:=Z8 (step:=Y7 fuel) (zs l.length) (λj s=>s=(l,l++([128]:List UInt8)++yy j 0)) (λx=>x=(l,l++([128]:List UInt8)++yy (zs l.length) 0)) (i:=(l,l++([128]:List UInt8))) (by simp) (by unfold zs;omega) (by
  rintro j _ hj rfl;left;unfold Y7;dsimp only;have hl:(l++([128]:List UInt8)++yy j 0).length=l.length+1+j:=by rw[yp,yp,ycp];rfl
  have hm:yar ((l++([128]:List UInt8)++yy j 0).length:Int) 64=(((l.length+1+j) % 64:Nat):Int):=by rw[hl];rfl
  rw[hm];unfold zs at hj;rw[if_pos (by simp;omega),if_pos (Yj (by omega) (by omega))];exact⟨_,rfl,by rw[yaj,List.replicate_succ']⟩) (by
  rintro _ rfl;unfold Y7;dsimp only;have hl:(l++([128]:List UInt8)++yy (zs l.length) 0).length=l.length+1+zs l.length:=by rw[yp,yp,ycp];rfl
  have hm:yar ((l++([128]:List UInt8)++yy (zs l.length) 0).length:Int) 64=(((l.length+1+zs l.length) % 64:Nat):Int):=by rw[hl];rfl
  rw[hm,if_neg (by simp;unfold zs;omega)];exact⟨_,rfl,rfl⟩)
 rw[h1,ya,h2];dsimp only;generalize hp:l++([128]:List UInt8)++yy (zs l.length) 0=p
 have hpl:p.length≤l.length+65:=by
  rw[←hp,yp,yp,ycp];unfold zs;simp;omega
 have hn:(8*w64 (l.length:Int)).toNat=8*l.length:=by
  rw[UInt64.toNat_mul];unfold w64;rw[yba];show 8*((((l.length:Nat):Int) % 18446744073709551616).toNat % 2 ^ 64) % 2 ^ 64=_;omega
 generalize hN:8*w64 (l.length:Int)=N at hn
 obtain⟨x,g1,g2⟩:=Z8 (step:=Y8 fuel) 8 (λk s=>s=(N,56 - 8*(k:Int),p++(rb8 N.toNat).take k)) (λx=>x=p++rb8 N.toNat) (i:=(N,(56:Int),p)) (by simp) (by omega) (by
  rintro k _ hk rfl;left;unfold Y8;dsimp only;rw[if_pos (decide_eq_true (by omega)),if_pos (decide_eq_true (by omega)),if_pos (Yj (by simp;omega) (by simp;omega)),ZD (z:=56 - 8*(k:Int) - 8) (by omega) (by omega)];refine⟨_,rfl, ?_⟩;rw[ZeW (ZJv N hk),show min (56 - 8*(k:Int)).toNat 64=56 - 8*k by omega,yaj,show 56 - 8*((k+1:Nat):Int)=56 - 8*(k:Int) - 8 by omega]) (by
  rintro _ rfl;unfold Y8;dsimp only;rw[if_neg (ynd (by omega))];exact⟨_,rfl,rfl⟩)
 rw[g1,ya,g2,hn]
theorem ZJx{l:List UInt8}(h:l.length≤4294967296):Wp fuel l=some (sha l):=by
 unfold Wp;obtain⟨f,hf,hfl⟩:∃f,QC fuel=some f∧f.map yam=Zcv:=⟨_,rfl,rfl⟩;have hf8:f.length=8:=by rw[←yz (f:=yam),hfl];rfl
 rw[ZJw h,ya,hf,ya];generalize hE:l++([128]:List UInt8)++yy (zs l.length) 0++rb8 (8*l.length)=E
 have hEm:E.map yak=ZfL l:=by
  unfold ZfL;rw[←hE];simp only[yax,List.map_replicate,yaf,List.map_nil,rb8,List.map_map,yaj,List.singleton_append]
  have:be8 (8*l.length)=(be8 (8*l.length)).map (yak ∘ yau):=by
   simp[be8]
  rw[←this];simp
 have hEl:E.length=64*((l.length+72) / 64):=by rw[←yz (f:=yak),hEm,Zs1]
 generalize hz:yzz=z;have hzl:z.length=32:=by rw[←hz];rfl
 obtain⟨x,h1,v,rfl,g1,g2⟩:=Z8 (step:=XA fuel) ((l.length+72) / 64) (λc s=>∃d,s=(E,d,((64*c:Nat):Int),z)∧d.length=8∧d.map yam=ZfK c (E.map yak) Zcv) (λx=>∃v,x=(v,z)∧v.length=8∧v.map yam=ZfK ((l.length+72) / 64) (E.map yak) Zcv) (i:=(E,f,(0:Int),z)) ⟨_,rfl,hf8,hfl⟩ (by omega) (by
  rintro c _ hc ⟨d,rfl,hd,hv⟩;left;unfold XA;dsimp only;obtain⟨m,hm1,hm2⟩:=ZFQ (st:=d) (l:=(E.take (64*c+64)).drop (64*c)) hd (by rw[ybv,yai];omega);rw[if_pos (decide_eq_true (by omega)),ZD (z:=((64*c:Nat):Int)+64) (by omega) (by omega),if_pos (by simp only[Za2,yj,decide_eq_true_eq];omega),show(((64*c:Nat):Int)+64).toNat=64*c+64 by omega,ybq,hm1,ya];refine⟨_,rfl,_,by rw[show((64*c:Nat):Int)+64=((64*(c+1):Nat):Int) by omega], ?_, ?_⟩
  ·rw[←yz (f:=yam),hm2];exact ZfJ (by rw[yz];exact hd)
  ·rw[hm2,Zlv,hv, ←List.map_drop, ←ycb];congr 3;rw[List.drop_take];congr 1;omega) (by
  rintro _ ⟨d,rfl,hd,hv⟩;unfold XA;dsimp only;rw[if_neg (ynd (by omega))];exact⟨_,rfl,_,rfl,hd,hv⟩)
 rw[h1,ya];dsimp only;generalize hv2:ZfK ((l.length+72) / 64) (E.map yak) Zcv=v2 at g2
 obtain⟨x,k1,o,rfl,k2,k3⟩:=Z8 (step:=XB fuel) 32 (λi s=>∃o,s=(v,(i:Int),z,o)∧o.length=32∧∀(j:Nat),j < i→o[j]? =some (Go.Sha.ZFL v2 j)) (λx=>∃o,x=(z,o)∧o.length=32∧∀(j:Nat),j < 32→o[j]? =some (Go.Sha.ZFL v2 j)) (i:=(v,(0:Int),z,z)) ⟨_,rfl,hzl,λj hj=>by omega⟩ (by omega) (by
  rintro i _ hi ⟨o,rfl,ho,hv⟩;left;unfold XB;dsimp only;have e1:Int.tdiv (i:Int) 4=((i / 4:Nat):Int):=rfl;have e2:yar (i:Int) 4=((i % 4:Nat):Int):=rfl;obtain⟨x1,hx1,_⟩:=Zl (l:=v) (k:=i / 4) (by omega);obtain⟨x2,hx2,_⟩:=Zl (l:=o) (k:=i) (by omega);rw[if_pos (decide_eq_true (by omega)),e1,e2,ZD (z:=((i / 4:Nat):Int)) (by omega) (by omega),ZD (z:=8*((i % 4:Nat):Int)) (by omega) (by omega),ZD (z:=24 - 8*((i % 4:Nat):Int)) (by omega) (by omega),Zu hx1,ya,if_pos (decide_eq_true (by omega)),if_pos (Xf (by omega) (by omega)),ybq,hx2,ya,Zr (by omega)];refine⟨_,rfl,_,rfl,by rw[ybj];exact ho, ?_⟩;intro j hj;by_cases hji:j=i
  ·subst hji;rw[ycr (by omega)];congr 1;unfold Go.Sha.ZFL
   have hx:v2.getD (j / 4) 0=x1.toNat:=by
    rw[←g2,ycx,yal,hx1];rfl
   rw[hx,show min (24 - 8*((j % 4:Nat):Int)).toNat 32=24 - 8*(j % 4) by omega,Zu5];unfold w8;have e3:∀m:Nat,(((m:Nat):Int) % 256).toNat=m % 256:=λm=>by omega
   rw[e3,show yae x1.toNat (24 - 8*(j % 4))=x1.toNat >>> (24 - 8*(j % 4)) from rfl,ydc]
   exact UInt8.toNat_inj.1 (by simp)
  ·rw[yda (Ne.symm hji)];exact hv j (by omega)) (by
  rintro _ ⟨o,rfl,ho,hv⟩;unfold XB;dsimp only;rw[if_neg (ynd (by omega))];exact⟨_,rfl,_,rfl,ho,hv⟩)
 rw[k1,ya,ZAA, ←hEm,hv2];congr 1;apply ybp;intro j;by_cases hj:j < 32
 ·rw[k3 j hj,yal,List.getElem?_range hj];rfl
 ·rw[yao (by show o.length≤j;omega),yao (by simp;omega)]
noncomputable def XV(F:Nat)(a0:List UInt8):Option (List UInt8):=if decide (a0.length≤4294967296)=true then some (sha a0) else Wp F a0
noncomputable def ZlL(F:Nat):Fs yc:={ QD F with M:=λx=>XV F x}
noncomputable def ZfW:Fs yc:=ZlL fuel
theorem ZlM:ZfW.Ok:=ZmQ (s:=QD fuel) ZkR λx=>by
 show XV fuel x=Wp fuel x;unfold XV;split
 ·rename_i h;exact(ZJx (of_decide_eq_true h)).symm
 ·rfl
theorem ZFR{l:List UInt8}(h:l.length≤4294967296):XV fuel l=some (sha l):=if_pos (decide_eq_true h)
end Go.Proofs.YtmkgbalfkhaflaaGreat
end
section
set_option maxRecDepth 4000
namespace Go.Proofs.YtmkgbalfkhaflaaGreat
open Go Go.Ev
noncomputable section
def YU(F:Nat)(s:(UInt64×Int×(List UInt8)×(List UInt8))):Option ((UInt64×Int×(List UInt8)×(List UInt8))⊕((List UInt8)×(List UInt8))):=
 if(decide (s.2.1 ≥ 0))=true then
  if(decide (0≤s.2.1))=true then
   let y631:UInt8:=w8 ((ZG s.1 (min s.2.1.toNat 64)).toNat:Int)
   if(apB s.2.2.2.length 1 1)=true then
    some (.inl (s.1,wi (s.2.1 - 8),s.2.2.1,s.2.2.2++([y631]:List UInt8)))
   else
   none
  else
  none
 else
 some (.inr (s.2.2.1,s.2.2.2))
def ZaX:Lp:=⟨[(0,.v .u64),(3,.own 1 .u8),(4,.v yI)],[.log .u8 5,.log .u8 5],[.u64,yI,(.sl .u8),(.sl .u8)],[⟨.exit 0,[(3,.own 1 .u8)],[.log .u8 5,.log .u8 5],[(.sl .u8),(.sl .u8)]⟩],Zc (YU fuel) fuel⟩
theorem ZfX:ZaX.okA yc 164 0:=ZC { own:=[2,3,9,15,16]} [] [] trivial
def Wt(F:Nat)(a0:UInt64):Option ((List UInt8)):=
 (Zc (YU F) F (a0,56,[],[])).bind λo632=>
 some o632.2
def ZbI:Fs yc:=⟨164,[.v .u64],[],[.u64],[⟨.ret,[(0,.own 0 .u8)],[.log .u8 5],[(.sl .u8)]⟩],λx=>Wt fuel x⟩
theorem ZhV:ZbI.Ok:=fnO { own:=[2,3,9,15,16]} [(0,ZaX)] [] trivial ⟨ZfX,ytt⟩
def Y9(F:Nat)(s:((List (List UInt8))×Int×(List UInt8)×(List UInt8))):Option (((List (List UInt8))×Int×(List UInt8)×(List UInt8))⊕((List UInt8)×(List UInt8))):=
 if(decide (s.2.1 < (s.1.length:Int)))=true then
  (idx s.1 s.2.1).bind λe634=>
  (VG F (w64 (e634.length:Int))).bind λo635=>
  if(apB s.2.2.2.length o635.length 1)=true then
   (idx s.1 s.2.1).bind λe636=>
   if(apB ((s.2.2.2++o635).length) e636.length 1)=true then
    some (.inl (s.1,wi (s.2.1+1),s.2.2.1,(s.2.2.2++o635)++e636))
   else
   none
  else
  none
 else
 some (.inr (s.2.2.1,s.2.2.2))
def Zeh:Lp:=⟨[(1,.v (.sl (.sl .u8))),(4,.ref 0 []),(5,.own 1 .u8),(6,.v yI)],[.var (.v (.arr 32 .u8)) true,.log .u8 5],[(.sl (.sl .u8)),yI,(.arr 32 .u8),(.sl .u8)],[⟨.exit 0,[(4,.ref 0 []),(5,.own 1 .u8)],[.var (.v (.arr 32 .u8)) true,.log .u8 5],[(.arr 32 .u8),(.sl .u8)]⟩],Zc (Y9 fuel) fuel⟩
def ZKw:HI:={ own:=[5,11,14,28,30,31,36],still:=[10,26,37]}
theorem ZiO:Zeh.okA yc 131 0:=ZC ZKw [] [Zef] ⟨ZkP,ytt⟩
def Qa(F:Nat)(a0:ByteArray)(a1:(List (List UInt8))):Option ((List UInt8)):=
 (Wt F (w64 (a0.size:Int))).bind λo633=>
 if(decide (a0.size≤maxLen))=true then
  if(apB o633.length a0.data.toList.length 1)=true then
   (Zc (Y9 F) F (a1,0,yzz,o633++a0.data.toList)).bind λo637=>
   (XV F o637.2).bind λo638=>
   some o638
  else
  none
 else
 none
def ZfY:Fs yc:=⟨131,[.v .str,.v (.sl (.sl .u8))],[],[.str,(.sl (.sl .u8))],[⟨.ret,[(0,.v (.arr 32 .u8))],[],[(.arr 32 .u8)]⟩],λx=>Qa fuel x.1 x.2⟩
theorem ZlN:ZfY.Ok:=fnO ZKw [(0,Zeh)] [ZbI,ZfW] ⟨ZhV,ZlM,ytt⟩ ⟨ZiO,ytt⟩
def YV(F:Nat)(s:(Int×(List UInt8)×(List UInt8))):Option ((Int×(List UInt8)×(List UInt8))⊕((List UInt8)×(List UInt8))):=
 if(decide (s.1 < 32))=true then
  if(inB s.1 32)=true then
   (s.2.1[s.1.toNat]?).bind λe639=>
   if(apB s.2.2.length 1 1)=true then
    some (.inl (wi (s.1+1),s.2.1,s.2.2++([e639]:List UInt8)))
   else
   none
  else
  none
 else
 some (.inr (s.2.1,s.2.2))
def ZaY:Lp:=⟨[(3,.ref 0 []),(5,.own 1 .u8),(6,.v yI)],[.var (.v (.arr 32 .u8)) true,.log .u8 5],[yI,(.arr 32 .u8),(.sl .u8)],[⟨.exit 0,[(5,.own 1 .u8)],[.var (.v (.arr 32 .u8)) true,.log .u8 5],[(.arr 32 .u8),(.sl .u8)]⟩],Zc (YV fuel) fuel⟩
def ZKx:HI:={ own:=[5,7,9,14,19],still:=[4]}
theorem ZfZ:ZaY.okA yc 132 0:=ZC ZKx [] [] trivial
def Wu(F:Nat)(a0:(List UInt8))(a1:(List UInt8)):Option ((List UInt8)):=
 if(apB 0 a0.length 1)=true then
  (Zc (YV F) F (0,a1,a0)).bind λo640=>
  some o640.2
 else
 none
def ZbJ:Fs yc:=⟨132,[.v (.sl .u8),.v (.arr 32 .u8)],[],[(.sl .u8),(.arr 32 .u8)],[⟨.ret,[(0,.v (.sl .u8))],[],[(.sl .u8)]⟩],λx=>Wu fuel x.1 x.2⟩
theorem ZhW:ZbJ.Ok:=fnO ZKx [(0,ZaY)] [] trivial ⟨ZfZ,ytt⟩
def ZH9:ByteArray:=⟨#[107,105,116]⟩
def Yl(F:Nat)(a0:(List UInt8))(a1:UInt8):Option ((List UInt8)):=
 (Wu F [] a0).bind λo641=>
 (Qa F ZH9 [o641,[a1]]).bind λo642=>
 some o642
def Zei:Fs yc:=⟨86,[.v (.arr 32 .u8),.v .u8],[],[(.arr 32 .u8),.u8],[⟨.ret,[(0,.v (.arr 32 .u8))],[],[(.arr 32 .u8)]⟩],λx=>Yl fuel x.1 x.2⟩
theorem ZkS:Zei.Ok:=fnO { still:=[5,6,10]} [] [ZbJ,ZfY] ⟨ZhW,ZlN,ytt⟩
def WP(F:Nat)(a0:(List UInt8)):Option (Kit):=
 (Yl F a0 1).bind λo643=>
 (YE F o643).bind λo644=>
 (Yl F a0 2).bind λo645=>
 (YE F o645).bind λo646=>
 (Yl F a0 3).bind λo647=>
 (YE F o647).bind λo648=>
 (Yl F a0 4).bind λo649=>
 (YE F o649).bind λo650=>
 (Yl F a0 5).bind λo651=>
 (YE F o651).bind λo652=>
 (Yl F a0 6).bind λo653=>
 some (o644,o646,o648,o650,o652,o653)
def Zf0:Fs yc:=⟨32,[.v (.arr 32 .u8)],[],[(.arr 32 .u8)],[⟨.ret,[(0,.v Yh)],[],[Yh]⟩],λx=>WP fuel x⟩
def ZLm:HI:={ still:=[3,4,6,7,9,10,12,13,15,16,18]}
theorem ZlO:Zf0.Ok:=fnO ZLm [] [Zei,Zee] ⟨ZkS,ZkO,ytt⟩
def Xa(F:Nat)(s:(UInt64×UInt64×UInt64)):Option ((UInt64×UInt64×UInt64)⊕UInt64):=
 if(decide (s.2.1 > 0))=true then
  if((s.2.1 % 2)==1)=true then
   some (.inl ((s.1+s.1) % 4611686018427377339,s.2.1 / 2,(s.2.2+s.1) % 4611686018427377339))
  else
  some (.inl ((s.1+s.1) % 4611686018427377339,s.2.1 / 2,s.2.2))
 else
 some (.inr s.2.2)
def ZbK:Lp:=⟨[(0,.v .u64),(1,.v .u64),(5,.v .u64)],[],[.u64,.u64,.u64],[⟨.exit 0,[(5,.v .u64)],[],[.u64]⟩],Zc (Xa fuel) fuel⟩
theorem Zgi:ZbK.okA yc 168 0:=ZC { still:=[4]} [] [] trivial
def WQ(F:Nat)(a0:UInt64)(a1:UInt64):Option (UInt64):=
 (Zc (Xa F) F (a0,a1,0)).bind λo654=>
 some o654
def VH(F:Nat):Fs yc:=⟨168,[.v .u64,.v .u64],[],[.u64,.u64],[⟨.ret,[(0,.v .u64)],[],[.u64]⟩],λx=>WQ F x.1 x.2⟩
def ZjB:Fs yc:=VH fuel
theorem ZiP:ZjB.Ok:=fnO { still:=[4]} [(0,ZbK)] [] trivial ⟨Zgi,ytt⟩
end
end Go.Proofs.YtmkgbalfkhaflaaGreat
end
section
set_option maxRecDepth 4000
namespace Go.Proofs.YtmkgbalfkhaflaaGreat
open Go Go.Ev
theorem Zpp{z:Nat}:(yad (z % 4611686018427377339)).toNat=z % 4611686018427377339:=by
 rw[yba,yah];exact Nat.lt_trans (ybb _ (by decide)) (by decide)
theorem ZFS{a b:UInt64}(ha:a.toNat < 4611686018427377339)(hb:b.toNat < 4611686018427377339):((a+b) % 4611686018427377339).toNat=(a.toNat+b.toNat) % 4611686018427377339:=by
 rw[UInt64.toNat_mod,UInt64.toNat_add,show(4611686018427377339:UInt64).toNat=4611686018427377339 from rfl,yah (a:=a.toNat+b.toNat) (by omega)]
theorem ZkT:∀(k m:Nat)(A B O:UInt64),A.toNat < 4611686018427377339→O.toNat < 4611686018427377339→B.toNat < 2 ^ k→k < m→
 Zc (Xa fuel) m (A,B,O)=some (yad ((O.toNat+A.toNat*B.toNat) % 4611686018427377339))
 |k,0,_,_,_,_,_,_,h=>by omega
 |0,m+1,A,B,O,hA,hO,h,_=>by
  have h0:B.toNat=0:=by rw[Nat.pow_zero] at h;omega
  have hn:¬B > 0:=by
   intro h2;have h3:0 < B.toNat:=ybz.1 h2;omega
  have hs:Xa fuel (A,B,O)=if decide (B > 0)=true then(if((B % 2)==1)=true then some (.inl ((A+A) % 4611686018427377339,B / 2,(O+A) % 4611686018427377339)) else some (.inl ((A+A) % 4611686018427377339,B / 2,O))) else some (.inr O):=rfl
  unfold Zc;rw[hs]
  rw[if_neg (by rw[decide_eq_true_iff];exact hn),ya,h0,Nat.mul_zero,Nat.add_zero,yah hO,UInt64.ofNat_toNat]
 |k+1,m+1,A,B,O,hA,hO,h,hm=>by
  have hs:Xa fuel (A,B,O)=if decide (B > 0)=true then(if((B % 2)==1)=true then some (.inl ((A+A) % 4611686018427377339,B / 2,(O+A) % 4611686018427377339)) else some (.inl ((A+A) % 4611686018427377339,B / 2,O))) else some (.inr O):=rfl
  unfold Zc;rw[hs];by_cases h2:B > 0
  ·have h3:0 < B.toNat:=ybz.1 h2;have hsh:(B / 2).toNat=B.toNat / 2:=by rw[UInt64.toNat_div];rfl
   have hlt:(B / 2).toNat < 2 ^ k:=by
    rw[hsh];rw[Nat.pow_succ] at h;omega
   have hand:((B % 2)==1)=decide (B.toNat % 2=1):=by
    rw[yck,beq_iff_eq,decide_eq_true_iff, ←ycf,UInt64.toNat_mod];rfl
   have hA2:=ZFS hA hA;have hAl:((A+A) % 4611686018427377339).toNat < 4611686018427377339:=by rw[hA2];exact ybb _ (by decide)
   have hB:B.toNat=2*(B.toNat / 2)+B.toNat % 2:=by omega
   rw[if_pos (decide_eq_true h2),hand];by_cases h4:B.toNat % 2=1
   ·have hO2:=ZFS hO hA;have hOl:((O+A) % 4611686018427377339).toNat < 4611686018427377339:=by rw[hO2];exact ybb _ (by decide)
    rw[if_pos (decide_eq_true h4),ya];dsimp only;rw[ZkT k m _ _ _ hAl hOl hlt (by omega),hA2,hO2,hsh];congr 2;rw[Nat.add_mod,Nat.mod_mod,Nat.mod_mul_mod, ←Nat.add_mod];congr 1
    conv=>rhs;rw[hB,h4,Nat.mul_add,Nat.mul_one, ←Nat.mul_assoc]
    rw[Nat.mul_two];omega
   ·rw[if_neg (by rw[decide_eq_true_iff];exact h4),ya];dsimp only;rw[ZkT k m _ _ _ hAl hO hlt (by omega),hA2,hsh];congr 2;rw[Nat.add_mod,Nat.mod_mul_mod, ←Nat.add_mod];congr 1
    conv=>rhs;rw[hB,show B.toNat % 2=0 by omega,Nat.add_zero, ←Nat.mul_assoc]
    rw[Nat.mul_two]
  ·have h3:B.toNat=0:=by
    rcases Nat.eq_zero_or_pos B.toNat with h5|h5
    ·exact h5
    ·exact absurd (show(0:UInt64) < B from ybz.2 h5) h2
   rw[if_neg (by rw[decide_eq_true_iff];exact h2),ya,h3,Nat.mul_zero,Nat.add_zero,yah hO,UInt64.ofNat_toNat]
noncomputable def Zx(F:Nat)(a0:UInt64)(a1:UInt64):Option UInt64:=if decide (a0.toNat < 4611686018427377339)=true then some (yad (a0.toNat*a1.toNat % 4611686018427377339)) else WQ F a0 a1
theorem ZDi(a b:UInt64):WQ fuel a b=Zx fuel a b:=by
 unfold Zx;split
 ·rename_i h;unfold WQ;rw[ZkT 64 fuel a b 0 (of_decide_eq_true h) (by decide) (ybr _) (by rw[ZcL];omega),ya,show(0:UInt64).toNat=0 from rfl,Nat.zero_add]
 ·rfl
noncomputable def ZjC(F:Nat):Fs yc:={ VH F with M:=λx=>Zx F x.1 x.2}
noncomputable def Zdv:Fs yc:=ZjC fuel
theorem ZjD:Zdv.Ok:=ZmQ (s:=VH fuel) ZiP λx=>(ZDi x.1 x.2).symm
end Go.Proofs.YtmkgbalfkhaflaaGreat
end
section
set_option maxRecDepth 4000
namespace Go.Proofs.YtmkgbalfkhaflaaGreat
open Go Go.Ev
noncomputable section
def Xb(F:Nat)(s:(UInt64×UInt64×UInt64)):Option ((UInt64×UInt64×UInt64)⊕UInt64):=
 if(decide (s.2.1 > 0))=true then
  if((s.2.1 % 2)==1)=true then
   (Zx F s.2.2 s.1).bind λo655=>
   (Zx F s.1 s.1).bind λo656=>
   some (.inl (o656,s.2.1 / 2,o655))
  else
  (Zx F s.1 s.1).bind λo657=>
  some (.inl (o657,s.2.1 / 2,s.2.2))
 else
 some (.inr s.2.2)
def ZbL:Lp:=⟨[(0,.v .u64),(1,.v .u64),(5,.v .u64)],[],[.u64,.u64,.u64],[⟨.exit 0,[(5,.v .u64)],[],[.u64]⟩],Zc (Xb fuel) fuel⟩
theorem Zgj:ZbL.okA yc 139 0:=ZC { still:=[4,11,12,14,15]} [] [Zdv] ⟨ZjD,ytt⟩
def WR(F:Nat)(a0:UInt64)(a1:UInt64):Option (UInt64):=
 (Zc (Xb F) F (a0,a1,1)).bind λo658=>
 some o658
def VI(F:Nat):Fs yc:=⟨139,[.v .u64,.v .u64],[],[.u64,.u64],[⟨.ret,[(0,.v .u64)],[],[.u64]⟩],λx=>WR F x.1 x.2⟩
def ZjE:Fs yc:=VI fuel
theorem ZiQ:ZjE.Ok:=fnO { still:=[4,11,12,14,15]} [(0,ZbL)] [] trivial ⟨Zgj,ytt⟩
end
end Go.Proofs.YtmkgbalfkhaflaaGreat
end
section
set_option maxRecDepth 4000
namespace Go.Proofs.YtmkgbalfkhaflaaGreat
open Go Go.Ev
theorem Zpq:∀(k m:Nat)(A N O:UInt64),A.toNat < 4611686018427377339→O.toNat < 4611686018427377339→N.toNat < 2 ^ k→k < m→Zc (Xb fuel) m (A,N,O)=some (yad (pwm 4611686018427377339 k A.toNat N.toNat O.toNat))
 |k,0,_,_,_,_,_,_,h=>by omega
 |0,m+1,A,N,O,hA,hO,h,_=>by
  have hn:¬N > 0:=by
   intro h2;have h3:0 < N.toNat:=ybz.1 h2;rw[Nat.pow_zero] at h;omega
  have hs:Xb fuel (A,N,O)=if decide (N > 0)=true then(if((N % 2)==1)=true then(Zx fuel O A).bind λo1=>(Zx fuel A A).bind λo2=>some (.inl (o2,N / 2,o1)) else(Zx fuel A A).bind λo2=>some (.inl (o2,N / 2,O))) else some (.inr O):=rfl
  unfold Zc;rw[hs]
  rw[if_neg (by rw[decide_eq_true_iff];exact hn),ya,pwm,UInt64.ofNat_toNat]
 |k+1,m+1,A,N,O,hA,hO,h,hm=>by
  have hs:Xb fuel (A,N,O)=if decide (N > 0)=true then(if((N % 2)==1)=true then(Zx fuel O A).bind λo1=>(Zx fuel A A).bind λo2=>some (.inl (o2,N / 2,o1)) else(Zx fuel A A).bind λo2=>some (.inl (o2,N / 2,O))) else some (.inr O):=rfl
  unfold Zc;rw[hs];by_cases h2:N > 0
  ·have hp:0 < N.toNat→pwm 4611686018427377339 (k+1) A.toNat N.toNat O.toNat=pwm 4611686018427377339 k (A.toNat*A.toNat % 4611686018427377339) (N.toNat / 2) (if N.toNat % 2=1 then O.toNat*A.toNat % 4611686018427377339 else O.toNat):=λh=>by
    rw[pwm,if_neg (by omega)]
   have h3:0 < N.toNat:=ybz.1 h2;have hsh:(N / 2).toNat=N.toNat / 2:=by rw[UInt64.toNat_div];rfl
   have hlt:(N / 2).toNat < 2 ^ k:=by
    rw[hsh];rw[Nat.pow_succ] at h;omega
   have hand:((N % 2)==1)=decide (N.toNat % 2=1):=by
    rw[yck,beq_iff_eq,decide_eq_true_iff, ←ycf,UInt64.toNat_mod];rfl
   have ml:∀z:Nat,z % 4611686018427377339 < 4611686018427377339:=λz=>ybb _ (by decide)
   have e1:Zx fuel A A=some (yad (A.toNat*A.toNat % 4611686018427377339)):=by
    unfold Zx;rw[if_pos (decide_eq_true hA)]
   have e2:Zx fuel O A=some (yad (O.toNat*A.toNat % 4611686018427377339)):=by
    unfold Zx;rw[if_pos (decide_eq_true hO)]
   rw[if_pos (decide_eq_true h2),hand,hp h3,e1,e2];by_cases h4:N.toNat % 2=1
   ·rw[if_pos (decide_eq_true h4),if_pos h4,ya,ya,ya];dsimp only;rw[Zpq k m _ _ _ (by rw[Zpp];exact ml _) (by rw[Zpp];exact ml _) hlt (by omega),Zpp,Zpp,hsh]
   ·rw[if_neg (by rw[decide_eq_true_iff];exact h4),if_neg h4,ya,ya];dsimp only;rw[Zpq k m _ _ _ (by rw[Zpp];exact ml _) hO hlt (by omega),Zpp,hsh]
  ·have h3:N.toNat=0:=by
    rcases Nat.eq_zero_or_pos N.toNat with h5|h5
    ·exact h5
    ·exact absurd (show(0:UInt64) < N from ybz.2 h5) h2
   rw[if_neg (by rw[decide_eq_true_iff];exact h2),ya,pwm,if_pos h3,UInt64.ofNat_toNat]
noncomputable def YO(F:Nat)(a0:UInt64)(a1:UInt64):Option UInt64:=if decide (a0.toNat < 4611686018427377339)=true then some (yad (pwm 4611686018427377339 64 a0.toNat a1.toNat 1)) else WR F a0 a1
theorem ZDj(a n:UInt64):WR fuel a n=YO fuel a n:=by
 unfold YO;split
 ·rename_i h;unfold WR;rw[Zpq 64 fuel a n 1 (of_decide_eq_true h) (by decide) (ybr _) (by rw[ZcL];omega),ya];rfl
 ·rfl
noncomputable def ZjF(F:Nat):Fs yc:={ VI F with M:=λx=>YO F x.1 x.2}
noncomputable def QE:Fs yc:=ZjF fuel
theorem Zb7:QE.Ok:=ZmQ (s:=VI fuel) ZiQ λx=>(ZDj x.1 x.2).symm
end Go.Proofs.YtmkgbalfkhaflaaGreat
end
section
set_option maxRecDepth 4000
namespace Go.Proofs.YtmkgbalfkhaflaaGreat
open Go Go.Ev
noncomputable section
def Xq(F:Nat)(a0:UInt64):Option (Bool):=
 if(decide (a0 ≥ 1))=true then
  if(decide (a0 < 4611686018427377339))=true then
   (YO F a0 2305843009213688669).bind λo659=>
   some (o659==1)
  else
  some false
 else
 some false
def WS:Fs yc:=⟨98,[.v .u64],[],[.u64],[⟨.ret,[(0,.v .bool)],[],[.bool]⟩],λx=>Xq fuel x⟩
theorem VZ:WS.Ok:=fnO { still:=[2,10]} [] [QE] ⟨Zb7,ytt⟩
def Ve(F:Nat)(a0:UInt64):Option (UInt64):=
 (Xq F a0).bind λo660=>
 if o660=true then
  some a0
 else
 some 1
def Zdw:Fs yc:=⟨166,[.v .u64],[],[.u64],[⟨.ret,[(0,.v .u64)],[],[.u64]⟩],λx=>Ve fuel x⟩
theorem ZjG:Zdw.Ok:=fnO { still:=[2,3]} [] [WS] ⟨VZ,ytt⟩
def Vf(F:Nat)(a0:UInt64)(a1:UInt64):Option (UInt64):=
 (Ve F a0).bind λo661=>
 (YO F o661 (a1 % 2305843009213688669)).bind λo662=>
 some o662
def Zdx:Fs yc:=⟨133,[.v .u64,.v .u64],[],[.u64,.u64],[⟨.ret,[(0,.v .u64)],[],[.u64]⟩],λx=>Vf fuel x.1 x.2⟩
theorem ZjH:Zdx.Ok:=fnO { still:=[4,5,6,8]} [] [Zdw,QE] ⟨ZjG,Zb7,ytt⟩
def YF(F:Nat)(a0:UInt64):Option (UInt64):=
 (Vf F 4 a0).bind λo663=>
 some o663
def Zej:Fs yc:=⟨87,[.v .u64],[],[.u64],[⟨.ret,[(0,.v .u64)],[],[.u64]⟩],λx=>YF fuel x⟩
theorem ZkU:Zej.Ok:=fnO { still:=[2,3]} [] [Zdx] ⟨ZjH,ytt⟩
def WT(F:Nat)(a0:Kit):Option (QZ):=
 (YF F a0.1).bind λo664=>
 (YF F a0.2.1).bind λo665=>
 (YF F a0.2.2.1).bind λo666=>
 (YF F a0.2.2.2.1).bind λo667=>
 (YF F a0.2.2.2.2.1).bind λo668=>
 some (o664,o665,o666,o667,o668)
def Zb8:Fs yc:=⟨33,[.v Yh],[],[Yh],[⟨.ret,[(0,.v V4)],[],[V4]⟩],λx=>WT fuel x⟩
theorem ZiR:Zb8.Ok:=fnO { still:=[4,7,10,13,16]} [] [Zej] ⟨ZkU,ytt⟩
def ZX(F:Nat)(a0:Int)(a1:Int)(a2:Int):Option (Bool):=
 if(decide (a0 ≥ a1))=true then
  some (decide (a0≤a2))
 else
 some false
def WU:Fs yc:=⟨134,[.v yI,.v yI,.v yI],[],[yI,yI,yI],[⟨.ret,[(0,.v .bool)],[],[.bool]⟩],λx=>ZX fuel x.1 x.2.1 x.2.2⟩
theorem VJ:WU.Ok:=fnO { still:=[6]} [] [] trivial
def Vg(F:Nat)(a0:Zbi):Option (Bool):=
 (ZX F a0.1 0 65536).bind λo669=>
 if o669=true then
  (ZX F a0.2.1 a0.1 1125899906842624).bind λo670=>
  if o670=true then
   (ZX F a0.2.2.1 1 4096).bind λo671=>
   if o671=true then
    (ZX F a0.2.2.2.1 0 16).bind λo672=>
    if o672=true then
     (ZX F a0.2.2.2.2.1 1 1125899906842624).bind λo673=>
     if o673=true then
      (ZX F a0.2.2.2.2.2 0 1125899906842624).bind λo674=>
      some o674
     else
     some false
    else
    some false
   else
   some false
  else
  some false
 else
 some false
def Zdy:Fs yc:=⟨135,[.v ZdL],[],[ZdL],[⟨.ret,[(0,.v .bool)],[],[.bool]⟩],λx=>Vg fuel x⟩
def ZLn:HI:={ still:=[2,5,9,11,16,22,27,32]}
theorem ZjI:Zdy.Ok:=fnO ZLn [] [WU] ⟨VJ,ytt⟩
def Qb(F:Nat)(a0:UInt64):Option (Bool):=
 (Xq F a0).bind λo675=>
 if o675=true then
  some (a0 !=1)
 else
 some false
def Zf1:Fs yc:=⟨136,[.v .u64],[],[.u64],[⟨.ret,[(0,.v .bool)],[],[.bool]⟩],λx=>Qb fuel x⟩
theorem ZlP:Zf1.Ok:=fnO { still:=[2,3]} [] [WS] ⟨VZ,ytt⟩
def XQ(F:Nat)(s:(Int×(List UInt64)×Int×ZH×QZ)):Option ((Int×(List UInt64)×Int×ZH×QZ)⊕((Int×ZH×QZ)⊕(Int×ZH×QZ))):=
 if(decide (s.2.2.1 < 5))=true then
  (idx s.2.1 s.2.2.1).bind λe682=>
  (Qb F e682).bind λo683=>
  if(!o683)=true then
   some (.inr (.inl (1,s.2.2.2.1,s.2.2.2.2)))
  else
  some (.inl (s.1,s.2.1,wi (s.2.2.1+1),s.2.2.2.1,s.2.2.2.2))
 else
 some (.inr (.inr (s.1,s.2.2.2.1,s.2.2.2.2)))
def Zek:Lp:=⟨[(1,.ref 0 []),(3,.v yI),(5,.v (.sl .u64)),(6,.v yI)],[.var (.v Zh) true,.var (.v V4) true],[yI,(.sl .u64),yI,Zh,V4],[⟨.ret,[(2,.v yI)],[.var (.v Zh) true,.var (.v V4) true],[yI,Zh,V4]⟩,⟨.exit 2,[(1,.ref 0 []),(3,.v yI)],[.var (.v Zh) true,.var (.v V4) true],[yI,Zh,V4]⟩],Zc (XQ fuel) fuel⟩
theorem ZiS:Zek.okA yc 88 1:=ZC { still:=[2,8,14,20,46,56]} [] [Zf1] ⟨ZlP,ytt⟩
def WV(F:Nat)(s:(Int×ZH)):Option ((Int×ZH)⊕((Int×ZH)⊕ZH)):=
 if(decide (s.1 < 2))=true then
  if(inB s.1 2)=true then
   (s.2.2.2.1[s.1.toNat]?).bind λe679=>
   if(inB s.1 2)=true then
    (s.2.2.2.2.1[s.1.toNat]?).bind λe680=>
    (Vg F e680).bind λo681=>
    if(!o681)=true then
     some (.inr (.inl (1,s.2)))
    else
    (Zc (XQ F) F (s.1,[e679.1,e679.2.1,e679.2.2.1,e679.2.2.2.1,e679.2.2.2.2],0,s.2,e679)).bind λo684=>
    match o684 with
    |.inl o685=>
     some (.inr (.inl (o685.1,o685.2.1)))
    |.inr o686=>
     some (.inl (wi (o686.1+1),o686.2.1))
   else
   none
  else
  none
 else
 some (.inr (.inr s.2))
def Zel:Lp:=⟨[(1,.ref 0 []),(3,.v yI)],[.var (.v Zh) true],[yI,Zh],[⟨.ret,[(2,.v yI)],[.var (.v Zh) true],[yI,Zh]⟩,⟨.exit 0,[(1,.ref 0 [])],[.var (.v Zh) true],[Zh]⟩],Zc (WV fuel) fuel⟩
theorem ZiT:Zel.okA yc 88 0:=ZC { still:=[2,8,14,20,46,56]} [(1,Zek)] [Zdy] ⟨ZjI,ytt⟩ ⟨ZiS,ytt⟩
def Qc(F:Nat)(a0:ZH):Option (Int):=
 (ZX F a0.2.1 1 1125899906842624).bind λo676=>
 if(!o676)=true then
  some 1
 else
 (ZX F a0.1.2 0 63).bind λo677=>
 if(!o677)=true then
  some 1
 else
 (ZX F a0.2.2.2.2 0 1).bind λo678=>
 if(!o678)=true then
  some 1
 else
 (Zc (WV F) F (0,a0)).bind λo687=>
 match o687 with
 |.inl o688=>
  some o688.1
 |.inr o689=>
  (o689.2.2.2.1[0]?).bind λe690=>
  (o689.2.2.2.1[1]?).bind λe691=>
  if(decide ((wi (e690.2.1+e691.2.1)) > o689.2.1))=true then
   some 10
  else
  some 0
def Zf2:Fs yc:=⟨88,[.v Zh],[],[Zh],[⟨.ret,[(0,.v yI)],[],[yI]⟩],λx=>Qc fuel x⟩
theorem ZlQ:Zf2.Ok:=fnO { still:=[2,8,14,20,46,56]} [(0,Zel)] [WU] ⟨VJ,ytt⟩ ⟨ZiT,ytt⟩
def Yd(F:Nat)(a0:Int)(a1:Int)(a2:Int):Option (Bool):=
 if(decide (a0 ≥ a1))=true then
  some (decide (a0≤a2))
 else
 some false
def ZbM:Fs yc:=⟨89,[.v yI,.v yI,.v yI],[],[yI,yI,yI],[⟨.ret,[(0,.v .bool)],[],[.bool]⟩],λx=>Yd fuel x.1 x.2.1 x.2.2⟩
theorem Zf3:ZbM.Ok:=fnO { still:=[6]} [] [] trivial
def Wq(F:Nat)(a0:Cond):Option (Bool):=
 (Xq F a0.2.2.2.1).bind λo692=>
 if o692=true then
  if(a0.2.2.2.1 !=1)=true then
   (Yd F a0.1 0 1).bind λo693=>
   if o693=true then
    (Yd F a0.2.1 1 1048576).bind λo694=>
    if o694=true then
     (Yd F a0.2.2.1 1 1125899906842624).bind λo695=>
     if o695=true then
      (Yd F a0.2.2.2.2 1 1048576).bind λo696=>
      some o696
     else
     some false
    else
    some false
   else
   some false
  else
  some false
 else
 some false
def Q2:Fs yc:=⟨90,[.v Zq],[],[Zq],[⟨.ret,[(0,.v .bool)],[],[.bool]⟩],λx=>Wq fuel x⟩
theorem Zdz:Q2.Ok:=fnO { still:=[2,5,15,20,25,30]} [] [WS,ZbM] ⟨VZ,Zf3,ytt⟩
def X5(F:Nat)(a0:Cond)(a1:Cond):Option (Bool):=
 if(decide (a0.1 < a1.1))=true then
  some true
 else
 if(a0.1==a1.1)=true then
  some (decide (a0.2.1 < a1.2.1))
 else
 some false
def QF:Fs yc:=⟨91,[.v Zq,.v Zq],[],[Zq,Zq],[⟨.ret,[(0,.v .bool)],[],[.bool]⟩],λx=>X5 fuel x.1 x.2⟩
theorem Zb9:QF.Ok:=fnO { still:=[4]} [] [] trivial
def YW(F:Nat)(s:(Int×Int×Int×Int×State)):Option ((Int×Int×Int×Int×State)⊕(Int×Int×State)):=
 let y697:Bool:=decide (s.2.2.2.1 < (s.2.2.2.2.2.2.1.length:Int))
 if y697=true then
  (idx s.2.2.2.2.2.2.1 s.2.2.2.1).bind λe698=>
  if(e698.1==(wi (1 - s.1)))=true then
   (idx s.2.2.2.2.2.2.1 s.2.2.2.1).bind λe699=>
   some (.inl (s.1,wi (s.2.1+1),wi (s.2.2.1+e699.2.2.1),wi (s.2.2.2.1+1),s.2.2.2.2))
  else
  some (.inl (s.1,s.2.1,s.2.2.1,wi (s.2.2.2.1+1),s.2.2.2.2))
 else
 some (.inr (s.2.1,s.2.2.1,s.2.2.2.2))
def ZaZ:Lp:=⟨[(1,.v yI),(2,.ref 0 []),(6,.v yI),(7,.v yI),(8,.v yI)],[.var (.v Zf) true],[yI,yI,yI,yI,Zf],[⟨.exit 0,[(6,.v yI),(7,.v yI)],[.var (.v Zf) true],[yI,yI,Zf]⟩],Zc (YW fuel) fuel⟩
theorem Zf4:ZaZ.okA yc 92 0:=ZC { still:=[4,5]} [] [] trivial
def XC(F:Nat)(a0:State)(a1:Int):Option ((Int×Int)):=
 (Zc (YW F) F (a1,0,0,0,a0)).bind λo700=>
 some (o700.1,o700.2.1)
def VK:Fs yc:=⟨92,[.v Zf,.v yI],[],[Zf,yI],[⟨.ret,[(0,.tup [.v yI,.v yI])],[],[yI,yI]⟩],λx=>XC fuel x.1 x.2⟩
theorem Za0:VK.Ok:=fnO { still:=[4,5]} [(0,ZaZ)] [] trivial ⟨Zf4,ytt⟩
def X9(F:Nat)(s:(Int×Int×State)):Option ((Int×Int×State)⊕(Int×State)):=
 if(decide (s.2.1 < (s.2.2.2.2.1.length:Int)))=true then
  (idx s.2.2.2.2.1 s.2.1).bind λe703=>
  some (.inl (wi (s.1+e703.2.2.1),wi (s.2.1+1),s.2.2))
 else
 some (.inr (s.1,s.2.2))
def Zca:Lp:=⟨[(1,.ref 0 []),(3,.v yI),(4,.v yI)],[.var (.v Zf) true],[yI,yI,Zf],[⟨.exit 0,[(3,.v yI)],[.var (.v Zf) true],[yI,Zf]⟩],Zc (X9 fuel) fuel⟩
theorem Zhj:Zca.okA yc 93 0:=ZC { still:=[2]} [] [] trivial
def Vh(F:Nat)(a0:State):Option (Int):=
 (a0.2.1[0]?).bind λe701=>
 (a0.2.1[1]?).bind λe702=>
 (Zc (X9 F) F (wi (e701+e702),0,a0)).bind λo704=>
 some o704.1
def ZdA:Fs yc:=⟨93,[.v Zf],[],[Zf],[⟨.ret,[(0,.v yI)],[],[yI]⟩],λx=>Vh fuel x⟩
theorem ZjJ:ZdA.Ok:=fnO { still:=[2]} [(0,Zca)] [] trivial ⟨Zhj,ytt⟩
def QG(F:Nat)(a0:Int):Option (Int):=
 (ZX F a0 0 16).bind λo705=>
 if(!o705)=true then
  some 0
 else
 some (wi (36+(wi ((wi (4+a0))*8))))
def Zcb:Fs yc:=⟨167,[.v yI],[],[yI],[⟨.ret,[(0,.v yI)],[],[yI]⟩],λx=>QG fuel x⟩
theorem ZiU:Zcb.Ok:=fnO { still:=[2,3]} [] [WU] ⟨VJ,ytt⟩
def Qe(F:Nat)(a0:Int)(a1:Int):Option (Int):=
 (ZX F a0 0 1000).bind λo706=>
 if(!o706)=true then
  some 0
 else
 (QG F a1).bind λo707=>
 some (wi (a0*o707))
def Zf5:Fs yc:=⟨137,[.v yI,.v yI],[],[yI,yI],[⟨.ret,[(0,.v yI)],[],[yI]⟩],λx=>Qe fuel x.1 x.2⟩
theorem ZlR:Zf5.Ok:=fnO { still:=[4,5,9]} [] [WU,Zcb] ⟨VJ,ZiU,ytt⟩
def Y3(F:Nat)(a0:ZH)(a1:State):Option (Int):=
 (Qe F a1.2.2.2 (a1.2.2.1.length:Int)).bind λo708=>
 some (wi (o708+660))
def Q3:Fs yc:=⟨94,[.v Zh,.v Zf],[],[Zh,Zf],[⟨.ret,[(0,.v yI)],[],[yI]⟩],λx=>Y3 fuel x.1 x.2⟩
theorem ZdB:Q3.Ok:=fnO { still:=[4,6,9]} [] [Zf5] ⟨ZlR,ytt⟩
def Wa(F:Nat)(s:(Int×ZH×State)):Option ((Int×ZH×State)⊕((Bool×ZH×State)⊕(ZH×State))):=
 if(decide (s.1 < (s.2.2.2.2.1.length:Int)))=true then
  (idx s.2.2.2.2.1 s.1).bind λe716=>
  (Wq F e716).bind λo717=>
  if(!o717)=true then
   some (.inr (.inl (false,s.2.1,s.2.2)))
  else
  if(decide (s.1 > 0))=true then
   (idx s.2.2.2.2.1 (wi (s.1 - 1))).bind λe718=>
   (idx s.2.2.2.2.1 s.1).bind λe719=>
   (X5 F e718 e719).bind λo720=>
   if(!o720)=true then
    some (.inr (.inl (false,s.2.1,s.2.2)))
   else
   (idx s.2.2.2.2.1 s.1).bind λe721=>
   (idx s.2.2.2.2.1 s.1).bind λe722=>
   if(inB (wi (1 - e722.1)) 2)=true then
    (s.2.1.2.2.2.1[(wi (1 - e722.1)).toNat]?).bind λe723=>
    if(decide (e721.2.2.1 < e723.2.2.2.2.1))=true then
     some (.inr (.inl (false,s.2.1,s.2.2)))
    else
    some (.inl (wi (s.1+1),s.2.1,s.2.2))
   else
   none
  else
  (idx s.2.2.2.2.1 s.1).bind λe724=>
  (idx s.2.2.2.2.1 s.1).bind λe725=>
  if(inB (wi (1 - e725.1)) 2)=true then
   (s.2.1.2.2.2.1[(wi (1 - e725.1)).toNat]?).bind λe726=>
   if(decide (e724.2.2.1 < e726.2.2.2.2.1))=true then
    some (.inr (.inl (false,s.2.1,s.2.2)))
   else
   some (.inl (wi (s.1+1),s.2.1,s.2.2))
  else
  none
 else
 some (.inr (.inr (s.2.1,s.2.2)))
def Zcc:Lp:=⟨[(2,.ref 0 []),(3,.ref 1 []),(5,.v yI)],[.var (.v Zh) true,.var (.v Zf) true],[yI,Zh,Zf],[⟨.ret,[(4,.v .bool)],[.var (.v Zh) true,.var (.v Zf) true],[.bool,Zh,Zf]⟩,⟨.exit 0,[(2,.ref 0 []),(3,.ref 1 [])],[.var (.v Zh) true,.var (.v Zf) true],[Zh,Zf]⟩],Zc (Wa fuel) fuel⟩
def ZJy:HI:={ still:=[4,10,15,22,29,35,56,69,74,104,105,125,136,137]}
theorem Zhk:Zcc.okA yc 34 0:=ZC ZJy [] [Q2,QF] ⟨Zdz,Zb9,ytt⟩
def Wb(F:Nat)(s:(Int×ZH×State)):Option ((Int×ZH×State)⊕((Bool×ZH×State)⊕(ZH×State))):=
 if(decide (s.1 < 2))=true then
  (XC F s.2.2 s.1).bind λo730=>
  if(inB s.1 2)=true then
   (s.2.1.2.2.2.1[s.1.toNat]?).bind λe731=>
   if(decide (o730.1 > e731.2.2.2.1))=true then
    some (.inr (.inl (false,s.2.1,s.2.2)))
   else
   if(inB s.1 2)=true then
    (s.2.1.2.2.2.1[s.1.toNat]?).bind λe732=>
    if(decide (o730.2 > e732.2.2.2.2.2))=true then
     some (.inr (.inl (false,s.2.1,s.2.2)))
    else
    some (.inl (wi (s.1+1),s.2.1,s.2.2))
   else
   none
  else
  none
 else
 some (.inr (.inr (s.2.1,s.2.2)))
def Zcd:Lp:=⟨[(2,.ref 0 []),(3,.ref 1 []),(7,.v yI)],[.var (.v Zh) true,.var (.v Zf) true],[yI,Zh,Zf],[⟨.ret,[(4,.v .bool)],[.var (.v Zh) true,.var (.v Zf) true],[.bool,Zh,Zf]⟩,⟨.exit 2,[(2,.ref 0 []),(3,.ref 1 [])],[.var (.v Zh) true,.var (.v Zf) true],[Zh,Zf]⟩],Zc (Wb fuel) fuel⟩
theorem Zhl:Zcd.okA yc 34 1:=ZC ZJy [] [VK] ⟨Za0,ytt⟩
def Xr(F:Nat)(a0:ZH)(a1:State):Option (Bool):=
 (Qc F a0).bind λo709=>
 if(o709 !=0)=true then
  some false
 else
 (Yd F a1.1 0 1048576).bind λo710=>
 if(!o710)=true then
  some false
 else
 (a1.2.1[0]?).bind λe711=>
 (Yd F e711 0 1125899906842624).bind λo712=>
 if(!o712)=true then
  some false
 else
 (a1.2.1[1]?).bind λe713=>
 (Yd F e713 0 1125899906842624).bind λo714=>
 if(!o714)=true then
  some false
 else
 (Yd F a1.2.2.2 0 1000).bind λo715=>
 if(!o715)=true then
  some false
 else
 if(decide ((a1.2.2.1.length:Int) > 16))=true then
  some false
 else
 (Zc (Wa F) F (0,a0,a1)).bind λo727=>
 match o727 with
 |.inl o728=>
  some o728.1
 |.inr o729=>
  (Zc (Wb F) F (0,o729.1,o729.2)).bind λo733=>
  match o733 with
  |.inl o734=>
   some o734.1
  |.inr o735=>
   (Vh F o735.2).bind λo736=>
   if(o736==o735.1.2.1)=true then
    if(inB o735.1.2.2.2.2 2)=true then
     (o735.2.2.1[o735.1.2.2.2.2.toNat]?).bind λe737=>
     (Y3 F o735.1 o735.2).bind λo738=>
     some (decide (e737 ≥ o738))
    else
    none
   else
   some false
def QH:Fs yc:=⟨34,[.v Zh,.v Zf],[],[Zh,Zf],[⟨.ret,[(0,.v .bool)],[],[.bool]⟩],λx=>Xr fuel x.1 x.2⟩
theorem Zce:QH.Ok:=fnO ZJy [(0,Zcc),(1,Zcd)] [Zf2,ZbM,ZdA,Q3] ⟨ZlQ,Zf3,ZjJ,ZdB,ytt⟩ ⟨Zhk,Zhl,ytt⟩
abbrev Wr:Ty:=(.st [.u8,(.int .u16),(.int .u16),.u64])
abbrev WW:Type:=(UInt8×Int×Int×UInt64)
def QI(F:Nat)(a0:WW):Option (UInt64):=
 some (1+(a0.2.2.2 % 2305843009213688668))
def Zcf:Fs yc:=⟨36,[.v Wr],[],[Wr],[⟨.ret,[(0,.v .u64)],[],[.u64]⟩],λx=>QI fuel x⟩
theorem ZiV:Zcf.Ok:=fnO { still:=[2]} [] [] trivial
def Xp(F:Nat)(s:(Int×Int×Int×State)):Option ((Int×Int×Int×State)⊕((Int×State)⊕State)):=
 if(decide (s.2.2.1 < (s.2.2.2.2.2.1.length:Int)))=true then
  (idx s.2.2.2.2.2.1 s.2.2.1).bind λe739=>
  if(e739.1==s.1)=true then
   (idx s.2.2.2.2.2.1 s.2.2.1).bind λe740=>
   if(e740.2.1==s.2.1)=true then
    some (.inr (.inl (s.2.2.1,s.2.2.2)))
   else
   some (.inl (s.1,s.2.1,wi (s.2.2.1+1),s.2.2.2))
  else
  some (.inl (s.1,s.2.1,wi (s.2.2.1+1),s.2.2.2))
 else
 some (.inr (.inr s.2.2.2))
def Zcg:Lp:=⟨[(1,.v yI),(2,.v yI),(3,.ref 0 []),(7,.v yI)],[.var (.v Zf) true],[yI,yI,yI,Zf],[⟨.ret,[(6,.v yI)],[.var (.v Zf) true],[yI,Zf]⟩,⟨.exit 0,[],[.var (.v Zf) true],[Zf]⟩],Zc (Xp fuel) fuel⟩
theorem Zhm:Zcg.okA yc 96 0:=ZC { still:=[6]} [] [] trivial
def Vi(F:Nat)(a0:State)(a1:Int)(a2:Int):Option (Int):=
 (Zc (Xp F) F (a1,a2,0,a0)).bind λo741=>
 match o741 with
 |.inl o742=>
  some o742.1
 |.inr o743=>
  some (-1)
def ZdC:Fs yc:=⟨96,[.v Zf,.v yI,.v yI],[],[Zf,yI,yI],[⟨.ret,[(0,.v yI)],[],[yI]⟩],λx=>Vi fuel x.1 x.2.1 x.2.2⟩
theorem ZjK:ZdC.Ok:=fnO { still:=[6]} [(0,Zcg)] [] trivial ⟨Zhm,ytt⟩
def XD(F:Nat)(s:(Bool×Int×State×Cond×State×Int×(List Int)×Int×(List Cond))):Option ((Bool×Int×State×Cond×State×Int×(List Int)×Int×(List Cond))⊕(Bool×State×Cond×State×Int×(List Int)×Int×(List Cond))):=
 if(decide (s.2.1 < (s.2.2.1.2.2.1.length:Int)))=true then
  if(!s.1)=true then
   (idx s.2.2.1.2.2.1 s.2.1).bind λe744=>
   (X5 F s.2.2.2.1 e744).bind λo745=>
   if o745=true then
    if(apB s.2.2.2.2.2.2.2.2.length 1 40)=true then
     (idx s.2.2.1.2.2.1 s.2.1).bind λe746=>
     if(apB ((s.2.2.2.2.2.2.2.2++([s.2.2.2.1]:List Cond)).length) 1 40)=true then
      let y747:(List Cond):=(s.2.2.2.2.2.2.2.2++([s.2.2.2.1]:List Cond))++([e746]:List Cond)
      some (.inl (true,wi (s.2.1+1),s.2.2.1,s.2.2.2.1,s.2.2.2.2.1,s.2.2.2.2.2.1,s.2.2.2.2.2.2.1,s.2.2.2.2.2.2.2.1,y747))
     else
     none
    else
    none
   else
   (idx s.2.2.1.2.2.1 s.2.1).bind λe748=>
   if(apB s.2.2.2.2.2.2.2.2.length 1 40)=true then
    some (.inl (s.1,wi (s.2.1+1),s.2.2.1,s.2.2.2.1,s.2.2.2.2.1,s.2.2.2.2.2.1,s.2.2.2.2.2.2.1,s.2.2.2.2.2.2.2.1,s.2.2.2.2.2.2.2.2++([e748]:List Cond)))
   else
   none
  else
  (idx s.2.2.1.2.2.1 s.2.1).bind λe749=>
  if(apB s.2.2.2.2.2.2.2.2.length 1 40)=true then
   some (.inl (s.1,wi (s.2.1+1),s.2.2.1,s.2.2.2.1,s.2.2.2.2.1,s.2.2.2.2.2.1,s.2.2.2.2.2.2.1,s.2.2.2.2.2.2.2.1,s.2.2.2.2.2.2.2.2++([e749]:List Cond)))
  else
  none
 else
 some (.inr (s.1,s.2.2.1,s.2.2.2.1,s.2.2.2.2.1,s.2.2.2.2.2.1,s.2.2.2.2.2.2.1,s.2.2.2.2.2.2.2.1,s.2.2.2.2.2.2.2.2))
def ZKy:List ESh:=[.var (.v Zf) true,.var (.v Zq) true,.var (.v Zf) true,.var (.agg [.v yI,.v (.arr 2 yI),.own 4 Zq,.v yI]) true,.log Zq 82]
abbrev tL8:List Ty:=[.bool,yI,Zf,Zq,Zf,yI,(.arr 2 yI),yI,(.sl Zq)]
def ZdD:Lp:=⟨[(2,.ref 0 []),(3,.ref 1 []),(4,.ref 2 []),(5,.ref 3 []),(6,.v .bool),(7,.v yI)],ZKy,tL8,[⟨.exit 0,[(3,.ref 1 []),(4,.ref 2 []),(5,.ref 3 []),(6,.v .bool)],ZKy,[.bool,Zf,Zq,Zf,yI,(.arr 2 yI),yI,(.sl Zq)]⟩],Zc (XD fuel) fuel⟩
def ZKz:HI:={ own:=[29,32,35,42,47,50],still:=[20,25],gst:=[(9,[([2],Zq,82)])]}
theorem ZhX:ZdD.okA yc 97 0:=ZC ZKz [] [QF] ⟨Zb9,ytt⟩
def VL(F:Nat)(a0:State)(a1:Cond):Option (State):=
 (Zc (XD F) F (false,0,a0,a1,(0,[0,0],[],0),a0.1,a0.2.1,a0.2.2.2,[])).bind λo750=>
 if(!o750.1)=true then
  if(apB o750.2.2.2.2.2.2.2.length 1 40)=true then
   if(inB o750.2.2.1.1 2)=true then
    (o750.2.2.2.2.2.1[o750.2.2.1.1.toNat]?).bind λe751=>
    if(inB o750.2.2.1.1 2)=true then
     (o750.2.2.2.2.2.1[o750.2.2.1.1.toNat]?).bind λe752=>
     some (o750.2.2.2.2.1,o750.2.2.2.2.2.1.set o750.2.2.1.1.toNat (wi (e751 - o750.2.2.1.2.2.1)),o750.2.2.2.2.2.2.2++([o750.2.2.1]:List Cond),o750.2.2.2.2.2.2.1)
    else
    none
   else
   none
  else
  none
 else
 if(inB o750.2.2.1.1 2)=true then
  (o750.2.2.2.2.2.1[o750.2.2.1.1.toNat]?).bind λe753=>
  if(inB o750.2.2.1.1 2)=true then
   (o750.2.2.2.2.2.1[o750.2.2.1.1.toNat]?).bind λe754=>
   some (o750.2.2.2.2.1,o750.2.2.2.2.2.1.set o750.2.2.1.1.toNat (wi (e753 - o750.2.2.1.2.2.1)),o750.2.2.2.2.2.2.2,o750.2.2.2.2.2.2.1)
  else
  none
 else
 none
def Zem:Fs yc:=⟨97,[.v Zf,.v Zq],[],[Zf,Zq],[⟨.ret,[(0,.v Zf)],[],[Zf]⟩],λx=>VL fuel x.1 x.2⟩
theorem ZkV:Zem.Ok:=fnO ZKz [(0,ZdD)] [] trivial ⟨ZhX,ytt⟩
def Qf(F:Nat)(a0:ZH)(a1:State)(a2:Cond):Option ((State×Int)):=
 (Xr F a0 a1).bind λo766=>
 (Wq F a2).bind λo767=>
 if(!o766)=true then
  some ((0,[0,0],[],0),1)
 else
 if(!o767)=true then
  some ((0,[0,0],[],0),1)
 else
 (Vi F a1 a2.1 a2.2.1).bind λo768=>
 if(decide (o768 ≥ 0))=true then
  some ((0,[0,0],[],0),4)
 else
 if(inB (wi (1 - a2.1)) 2)=true then
  (a0.2.2.2.1[(wi (1 - a2.1)).toNat]?).bind λe769=>
  (XC F a1 (wi (1 - a2.1))).bind λo770=>
  if(decide (a2.2.2.1 < e769.2.2.2.2.1))=true then
   some ((0,[0,0],[],0),9)
  else
  if((a1.2.2.1.length:Int)==16)=true then
   some ((0,[0,0],[],0),3)
  else
  if(decide (o770.1 ≥ e769.2.2.2.1))=true then
   some ((0,[0,0],[],0),3)
  else
  let y771:Bool:=decide ((wi (o770.2+a2.2.2.1)) > e769.2.2.2.2.2)
  if y771=true then
   some ((0,[0,0],[],0),6)
  else
  (VL F a1 a2).bind λo772=>
  (Y3 F a0 o772).bind λo773=>
  if(inB a2.1 2)=true then
   (o772.2.1[a2.1.toNat]?).bind λe774=>
   if(decide (e774 < 0))=true then
    some ((0,[0,0],[],0),8)
   else
   if(inB a0.2.2.2.2 2)=true then
    (o772.2.1[a0.2.2.2.2.toNat]?).bind λe775=>
    if(decide (e775 < o773))=true then
     some ((0,[0,0],[],0),8)
    else
    if(inB a2.1 2)=true then
     (o772.2.1[a2.1.toNat]?).bind λe776=>
     if(a2.1==a0.2.2.2.2)=true then
      if(decide ((wi (e776 - o773)) < e769.2.1))=true then
       some ((0,[0,0],[],0),10)
      else
      some (o772,0)
     else
     if(decide (e776 < e769.2.1))=true then
      some ((0,[0,0],[],0),10)
     else
     some (o772,0)
    else
    none
   else
   none
  else
  none
 else
 none
def Zf6:Fs yc:=⟨37,[.v Zh,.v Zf,.v Zq],[],[Zh,Zf,Zq],[⟨.ret,[(0,.tup [.v Zf,.v yI])],[],[Zf,yI]⟩],λx=>Qf fuel x.1 x.2.1 x.2.2⟩
def ZLo:HI:={ still:=[7,16,17,19,28,30,32,43,46,75,76,78,79]}
theorem ZlS:Zf6.Ok:=fnO ZLo [] [QH,Q2,ZdC,VK,Zem,Q3] ⟨Zce,Zdz,ZjK,Za0,ZkV,ZdB,ytt⟩
abbrev Zg:Ty:=(.st [(.arr 2 (.arr 32 .u8)),.u32,.u32,.u8,.u8,(.sl Wr),(.int .u16),(.arr 32 .u8)])
abbrev Corsnedlaw21Play:Type:=((List (List UInt8))×UInt32×UInt32×UInt8×UInt8×(List WW)×Int×(List UInt8))
def ZKA:List ESh:=[.var (.v Zg) true,.var (.v Zh) true,.var (.v (.arr 2 Yh)) true,.var (.v Zf) true,.var (.v (.arr 2 Yh)) true,.var (.v Zh) true]
def ZJz:HI:={ still:=[17,21,40,75,76,117,118,126,127,128]}
def XE(F:Nat)(s:(Int×Corsnedlaw21Play×ZH×(List Kit)×State×(List Kit)×ZH)):Option ((Int×Corsnedlaw21Play×ZH×(List Kit)×State×(List Kit)×ZH)⊕(Corsnedlaw21Play×ZH×(List Kit)×State×(List Kit)×ZH)):=
 if(decide (s.1 < 2))=true then
  if(inB s.1 2)=true then
   (s.2.2.2.2.2.1[s.1.toNat]?).bind λe798=>
   (WT F e798).bind λo799=>
   if(inB s.1 2)=true then
    (s.2.2.2.2.2.2.2.2.1[s.1.toNat]?).bind λe800=>
    if(inB s.1 2)=true then
     (s.2.2.2.2.2.2.2.2.2.1[s.1.toNat]?).bind λe801=>
     some (.inl (wi (s.1+1),s.2.1,s.2.2.1,s.2.2.2.1,s.2.2.2.2.1,s.2.2.2.2.2.1,(s.2.2.2.2.2.2.1,s.2.2.2.2.2.2.2.1,s.2.2.2.2.2.2.2.2.1.set s.1.toNat o799,s.2.2.2.2.2.2.2.2.2.1.set s.1.toNat ((100:Int),(200:Int),wi (5+s.1),(16:Int),(1:Int),(1125899906842624:Int)),s.2.2.2.2.2.2.2.2.2.2)))
    else
    none
   else
   none
  else
  none
 else
 some (.inr (s.2.1,s.2.2.1,s.2.2.2.1,s.2.2.2.2.1,s.2.2.2.2.2.1,s.2.2.2.2.2.2))
def ZdE:Lp:=⟨[(1,.ref 0 []),(2,.ref 1 []),(3,.ref 2 []),(4,.ref 3 []),(5,.ref 4 []),(6,.ref 5 []),(7,.v yI)],ZKA,[yI,Zg,Zh,(.arr 2 Yh),Zf,(.arr 2 Yh),Zh],[⟨.exit 0,[(1,.ref 0 []),(2,.ref 1 []),(3,.ref 2 []),(4,.ref 3 []),(5,.ref 4 []),(6,.ref 5 [])],ZKA,[Zg,Zh,(.arr 2 Yh),Zf,(.arr 2 Yh),Zh]⟩],Zc (XE fuel) fuel⟩
theorem ZhY:ZdE.okA yc 8 0:=ZC ZJz [] [Zb8] ⟨ZiR,ytt⟩
def Yt(F:Nat)(s:(Int×Corsnedlaw21Play×ZH×(List Kit)×State×(List Kit)×ZH×State)):Option ((Int×Corsnedlaw21Play×ZH×(List Kit)×State×(List Kit)×ZH×State)⊕(Corsnedlaw21Play×ZH×(List Kit)×State×(List Kit)×ZH×State)):=
 if(decide (s.1 < (s.2.1.2.2.2.2.2.1.length:Int)))=true then
  if(decide (s.1 < 20))=true then
   (idx s.2.1.2.2.2.2.2.1 s.1).bind λe807=>
   (QI F e807).bind λo808=>
   (Xu F o808).bind λo809=>
   (Qf F s.2.2.2.2.2.2.1 s.2.2.2.2.2.2.2 (((e807.1 % 2).toNat:Int),wi (s.1+1),wi (1+(wi e807.2.1)),o809,wi (1+(wi e807.2.2.1)))).bind λo810=>
   if(o810.2==0)=true then
    some (.inl (wi (s.1+1),s.2.1,s.2.2.1,s.2.2.2.1,s.2.2.2.2.1,s.2.2.2.2.2.1,s.2.2.2.2.2.2.1,o810.1))
   else
   some (.inl (wi (s.1+1),s.2.1,s.2.2.1,s.2.2.2.1,s.2.2.2.2.1,s.2.2.2.2.2.1,s.2.2.2.2.2.2.1,s.2.2.2.2.2.2.2))
  else
  some (.inr (s.2.1,s.2.2.1,s.2.2.2.1,s.2.2.2.2.1,s.2.2.2.2.2.1,s.2.2.2.2.2.2.1,s.2.2.2.2.2.2.2))
 else
 some (.inr (s.2.1,s.2.2.1,s.2.2.2.1,s.2.2.2.2.1,s.2.2.2.2.2.1,s.2.2.2.2.2.2.1,s.2.2.2.2.2.2.2))
def ZKB:List ESh:=[.var (.v Zg) true,.var (.v Zh) true,.var (.v (.arr 2 Yh)) true,.var (.v Zf) true,.var (.v (.arr 2 Yh)) true,.var (.v Zh) true,.var (.v Zf) true]
def ZdF:Lp:=⟨[(1,.ref 0 []),(2,.ref 1 []),(3,.ref 2 []),(4,.ref 3 []),(5,.ref 4 []),(6,.ref 5 []),(8,.ref 6 []),(10,.v yI)],ZKB,[yI,Zg,Zh,(.arr 2 Yh),Zf,(.arr 2 Yh),Zh,Zf],[⟨.exit 2,[(2,.ref 1 []),(3,.ref 2 []),(4,.ref 3 []),(5,.ref 4 []),(6,.ref 5 []),(8,.ref 6 [])],ZKB,[Zg,Zh,(.arr 2 Yh),Zf,(.arr 2 Yh),Zh,Zf]⟩],Zc (Yt fuel) fuel⟩
theorem ZhZ:ZdF.okA yc 8 1:=ZC ZJz [] [Zcf,ZbB,Zf6] ⟨ZiV,ZcW,ZlS,ytt⟩
def VM(F:Nat)(a0:Corsnedlaw21Play):Option ((ZH×(List Kit)×State)):=
 (a0.1[0]?).bind λe794=>
 (WP F e794).bind λo795=>
 (a0.1[1]?).bind λe796=>
 (WP F e796).bind λo797=>
 (Zc (XE F) F (0,a0,((yzz,0),0,[(0,0,0,0,0),(0,0,0,0,0)],[(0,0,0,0,0,0),(0,0,0,0,0,0)],0),[(0,0,0,0,0,yzz),(0,0,0,0,0,yzz)],(0,[0,0],[],0),[o795,o797],((yzz,0),wi (20000+(a0.2.1.toNat:Int)),[(0,0,0,0,0),(0,0,0,0,0)],[(0,0,0,0,0,0),(0,0,0,0,0,0)],((a0.2.2.2.2.1 % 2).toNat:Int)))).bind λo802=>
 if((wi (o802.2.2.2.2.2.2.1+1))!=0)=true then
  let y803:Int:=yar (o802.1.2.2.1.toNat:Int) (wi (o802.2.2.2.2.2.2.1+1))
  (Xr F o802.2.2.2.2.2 (wi o802.1.2.2.2.2.2.2.1,[y803,wi (o802.2.2.2.2.2.2.1 - y803)],[],((o802.1.2.2.2.1 % 8).toNat:Int))).bind λo804=>
  if(!o804)=true then
   if(inB o802.2.2.2.2.2.2.2.2.2 2)=true then
    (([y803,wi (o802.2.2.2.2.2.2.1 - y803)]:List Int)[o802.2.2.2.2.2.2.2.2.2.toNat]?).bind λe805=>
    if(inB (wi (1 - o802.2.2.2.2.2.2.2.2.2)) 2)=true then
     ((([y803,wi (o802.2.2.2.2.2.2.1 - y803)]:List Int).set o802.2.2.2.2.2.2.2.2.2.toNat o802.2.2.2.2.2.2.1)[(wi (1 - o802.2.2.2.2.2.2.2.2.2)).toNat]?).bind λe806=>
     (Zc (Yt F) F (0,o802.1,o802.2.1,o802.2.2.1,o802.2.2.2.1,o802.2.2.2.2.1,o802.2.2.2.2.2,(wi o802.1.2.2.2.2.2.2.1,(([y803,wi (o802.2.2.2.2.2.2.1 - y803)]:List Int).set o802.2.2.2.2.2.2.2.2.2.toNat o802.2.2.2.2.2.2.1).set ((wi (1 - o802.2.2.2.2.2.2.2.2.2)).toNat) (0:Int),[],((o802.1.2.2.2.1 % 8).toNat:Int)))).bind λo811=>
     some (o811.2.2.2.2.2.1,o811.2.2.2.2.1,o811.2.2.2.2.2.2)
    else
    none
   else
   none
  else
  (Zc (Yt F) F (0,o802.1,o802.2.1,o802.2.2.1,o802.2.2.2.1,o802.2.2.2.2.1,o802.2.2.2.2.2,(wi o802.1.2.2.2.2.2.2.1,[y803,wi (o802.2.2.2.2.2.2.1 - y803)],[],((o802.1.2.2.2.1 % 8).toNat:Int)))).bind λo812=>
  some (o812.2.2.2.2.2.1,o812.2.2.2.2.1,o812.2.2.2.2.2.2)
 else
 none
def QJ(F:Nat):Fs yc:=⟨8,[.v Zg],[],[Zg],[⟨.ret,[(0,.tup [.v Zh,.v (.arr 2 Yh),.v Zf])],[],[Zh,(.arr 2 Yh),Zf]⟩],λx=>VM F x⟩
def Zen:Fs yc:=QJ fuel
theorem ZdG:Zen.Ok:=fnO ZJz [(0,ZdE),(1,ZdF)] [Zf0,QH] ⟨ZlO,Zce,ytt⟩ ⟨ZhY,ZhZ,ytt⟩
def Vj(F:Nat)(a0:Corsnedlaw21Play):Option ((ZH×(List Kit)×State)):=
 (VM F (a0.1,a0.2.1,a0.2.2.1,a0.2.2.2.1,a0.2.2.2.2.1,[],a0.2.2.2.2.2.2.1,a0.2.2.2.2.2.2.2)).bind λo813=>
 some (o813.1,o813.2.1,o813.2.2)
def ZdH:Fs yc:=⟨50,[.v Zg],[],[Zg],[⟨.ret,[(0,.tup [.v Zh,.v (.arr 2 Yh),.v Zf])],[],[Zh,(.arr 2 Yh),Zf]⟩],λx=>Vj fuel x⟩
theorem ZjL:ZdH.Ok:=fnO { still:=[6]} [] [Zen] ⟨ZdG,ytt⟩
def VN(F:Nat)(a0:Corsnedlaw21Play)(a1:Int):Option ((ZH×State×Int×Bool×ZH×Kit×Int×Int×(List Int)×Int×(List Lock)×Int×Sig×ZH×Kit×Int×Int×(List Int)×Int×(List Lock)×Int×Sig×(List Cond)×(List Msg)×(List Msg)×(List Cond)×(List Msg)×(List Msg))):=
 (Vj F a0).bind λo814=>
 if(inB o814.1.2.2.2.2 2)=true then
  (o814.2.2.2.1[o814.1.2.2.2.2.toNat]?).bind λe815=>
  if((wi (e815 - 51))!=0)=true then
   if(0==o814.1.2.2.2.2)=true then
    (o814.2.1[0]?).bind λe816=>
    (o814.1.2.2.1[0]?).bind λe817=>
    (XJ F e817.2.1).bind λo818=>
    (Yw F o814.1 e816 0 o814.2.2 o818 (wi (52+(yar (wi a1) (wi (e815 - 51)))))).bind λo819=>
    match o819 with
    |.inl o820=>
     none
    |.inr (n,o,p,q,r,t,u,v,w,x,y,z,A)=>
     if(n==0)=true then
      if(1==o814.1.2.2.2.2)=true then
       (o814.2.1[1]?).bind λe822=>
       (o814.1.2.2.1[1]?).bind λe823=>
       (XJ F e823.2.1).bind λo824=>
       (Yw F o814.1 e822 1 o814.2.2 o824 (wi (52+(yar (wi a1) (wi (e815 - 51)))))).bind λo825=>
       match o825 with
       |.inl o826=>
        none
       |.inr (a,b,c,d,e,f,g,h,i,j,k,l,m)=>
        if(a==0)=true then
         some (o814.1,o814.2.2,wi (52+(yar (wi a1) (wi (e815 - 51)))),true,o,p,q,r,t,u,v,w,x,b,c,d,e,f,g,h,i,j,y,z,A,k,l,m)
        else
        some (o814.1,o814.2.2,wi (52+(yar (wi a1) (wi (e815 - 51)))),false,o,p,q,r,t,u,v,w,x,b,c,d,e,f,g,h,i,j,y,z,A,k,l,m)
      else
      (o814.2.1[1]?).bind λe828=>
      (o814.1.2.2.1[1]?).bind λe829=>
      (XJ F e829.2.1).bind λo830=>
      (Yw F o814.1 e828 1 o814.2.2 o830 0).bind λo831=>
      match o831 with
      |.inl o832=>
       none
      |.inr (a,b,c,d,e,f,g,h,i,j,k,l,m)=>
       if(a==0)=true then
        some (o814.1,o814.2.2,wi (52+(yar (wi a1) (wi (e815 - 51)))),true,o,p,q,r,t,u,v,w,x,b,c,d,e,f,g,h,i,j,y,z,A,k,l,m)
       else
       some (o814.1,o814.2.2,wi (52+(yar (wi a1) (wi (e815 - 51)))),false,o,p,q,r,t,u,v,w,x,b,c,d,e,f,g,h,i,j,y,z,A,k,l,m)
     else
     if(1==o814.1.2.2.2.2)=true then
      (o814.2.1[1]?).bind λe834=>
      (o814.1.2.2.1[1]?).bind λe835=>
      (XJ F e835.2.1).bind λo836=>
      (Yw F o814.1 e834 1 o814.2.2 o836 (wi (52+(yar (wi a1) (wi (e815 - 51)))))).bind λo837=>
      match o837 with
      |.inl o838=>
       none
      |.inr (_,a,b,c,d,e,f,g,h,i,j,k,l)=>
       some (o814.1,o814.2.2,wi (52+(yar (wi a1) (wi (e815 - 51)))),false,o,p,q,r,t,u,v,w,x,a,b,c,d,e,f,g,h,i,y,z,A,j,k,l)
     else
     (o814.2.1[1]?).bind λe840=>
     (o814.1.2.2.1[1]?).bind λe841=>
     (XJ F e841.2.1).bind λo842=>
     (Yw F o814.1 e840 1 o814.2.2 o842 0).bind λo843=>
     match o843 with
     |.inl o844=>
      none
     |.inr (_,a,b,c,d,e,f,g,h,i,j,k,l)=>
      some (o814.1,o814.2.2,wi (52+(yar (wi a1) (wi (e815 - 51)))),false,o,p,q,r,t,u,v,w,x,a,b,c,d,e,f,g,h,i,y,z,A,j,k,l)
   else
   (o814.2.1[0]?).bind λe846=>
   (o814.1.2.2.1[0]?).bind λe847=>
   (XJ F e847.2.1).bind λo848=>
   (Yw F o814.1 e846 0 o814.2.2 o848 0).bind λo849=>
   match o849 with
   |.inl o850=>
    none
   |.inr (n,o,p,q,r,t,u,v,w,x,y,z,A)=>
    if(n==0)=true then
     if(1==o814.1.2.2.2.2)=true then
      (o814.2.1[1]?).bind λe852=>
      (o814.1.2.2.1[1]?).bind λe853=>
      (XJ F e853.2.1).bind λo854=>
      (Yw F o814.1 e852 1 o814.2.2 o854 (wi (52+(yar (wi a1) (wi (e815 - 51)))))).bind λo855=>
      match o855 with
      |.inl o856=>
       none
      |.inr (a,b,c,d,e,f,g,h,i,j,k,l,m)=>
       if(a==0)=true then
        some (o814.1,o814.2.2,wi (52+(yar (wi a1) (wi (e815 - 51)))),true,o,p,q,r,t,u,v,w,x,b,c,d,e,f,g,h,i,j,y,z,A,k,l,m)
       else
       some (o814.1,o814.2.2,wi (52+(yar (wi a1) (wi (e815 - 51)))),false,o,p,q,r,t,u,v,w,x,b,c,d,e,f,g,h,i,j,y,z,A,k,l,m)
     else
     (o814.2.1[1]?).bind λe858=>
     (o814.1.2.2.1[1]?).bind λe859=>
     (XJ F e859.2.1).bind λo860=>
     (Yw F o814.1 e858 1 o814.2.2 o860 0).bind λo861=>
     match o861 with
     |.inl o862=>
      none
     |.inr (a,b,c,d,e,f,g,h,i,j,k,l,m)=>
      if(a==0)=true then
       some (o814.1,o814.2.2,wi (52+(yar (wi a1) (wi (e815 - 51)))),true,o,p,q,r,t,u,v,w,x,b,c,d,e,f,g,h,i,j,y,z,A,k,l,m)
      else
      some (o814.1,o814.2.2,wi (52+(yar (wi a1) (wi (e815 - 51)))),false,o,p,q,r,t,u,v,w,x,b,c,d,e,f,g,h,i,j,y,z,A,k,l,m)
    else
    if(1==o814.1.2.2.2.2)=true then
     (o814.2.1[1]?).bind λe864=>
     (o814.1.2.2.1[1]?).bind λe865=>
     (XJ F e865.2.1).bind λo866=>
     (Yw F o814.1 e864 1 o814.2.2 o866 (wi (52+(yar (wi a1) (wi (e815 - 51)))))).bind λo867=>
     match o867 with
     |.inl o868=>
      none
     |.inr (_,a,b,c,d,e,f,g,h,i,j,k,l)=>
      some (o814.1,o814.2.2,wi (52+(yar (wi a1) (wi (e815 - 51)))),false,o,p,q,r,t,u,v,w,x,a,b,c,d,e,f,g,h,i,y,z,A,j,k,l)
    else
    (o814.2.1[1]?).bind λe870=>
    (o814.1.2.2.1[1]?).bind λe871=>
    (XJ F e871.2.1).bind λo872=>
    (Yw F o814.1 e870 1 o814.2.2 o872 0).bind λo873=>
    match o873 with
    |.inl o874=>
     none
    |.inr (_,a,b,c,d,e,f,g,h,i,j,k,l)=>
     some (o814.1,o814.2.2,wi (52+(yar (wi a1) (wi (e815 - 51)))),false,o,p,q,r,t,u,v,w,x,a,b,c,d,e,f,g,h,i,y,z,A,j,k,l)
  else
  none
 else
 none
def Zeo:Fs yc:=⟨15,[.v Zg,.v (.int .u16)],[],[Zg,(.int .u16)],[⟨.ret,[(0,.tup [.arr 2 1 [.ref 0 [],.ref 1 []],.v Zh,.v Zf,.v yI,.v .bool])],[.var (.agg [.v Zh,.v Yh,.v yI,.agg [.v yI,.v (.arr 2 yI),.own 2 Zq,.v yI],.v (.arr 2 Zo),.v yI,.own 3 Zi,.own 4 Zi,.v Z1]) true,.var (.agg [.v Zh,.v Yh,.v yI,.agg [.v yI,.v (.arr 2 yI),.own 5 Zq,.v yI],.v (.arr 2 Zo),.v yI,.own 6 Zi,.own 7 Zi,.v Z1]) true,.log Zq 82,.log Zi 84,.log Zi 84,.log Zq 82,.log Zi 84,.log Zi 84],[Zh,Zf,yI,.bool,Zh,Yh,yI,yI,(.arr 2 yI),yI,(.arr 2 Zo),yI,Z1,Zh,Yh,yI,yI,(.arr 2 yI),yI,(.arr 2 Zo),yI,Z1,(.sl Zq),(.sl Zi),(.sl Zi),(.sl Zq),(.sl Zi),(.sl Zi)]⟩],λx=>VN fuel x.1 x.2⟩
def ZLp:HI:={ still:=[7,8,20,45,48,49,50,55,56,57]}
theorem ZkW:Zeo.Ok:=ZuX (fi:={ hi:=ZLp,gh:=[(8,.melt 13),(14,.nn 17)],un:=3}) (specs:={ l:=[ZdH,Zm2,Zmq]}) (okS ⟨ZjL,ZkN,Ztd,ytt⟩)
def ZiW(F:Nat)(a0:UInt64):Option (UInt64):=
 (QR F a0).bind λo876=>
 (QN F o876 2305843009213688668).bind λo877=>
 some o877
def Zqp:Fs yc:=⟨115,[.v .u64],[],[.u64],[⟨.ret,[(0,.v .u64)],[],[.u64]⟩],λx=>ZiW fuel x⟩
theorem ZwX:Zqp.Ok:=fnO { still:=[2,3,4]} [] [ZcV,ZcN] ⟨ZfM,Zfv,ytt⟩
def ZbN(F:Nat)(a0:UInt64)(a1:(List UInt8))(a2:UInt64)(a3:Sig):Option (Bool):=
 if(a0==1)=true then
  some false
 else
 (XM F a0).bind λo878=>
 if(!o878)=true then
  some false
 else
 (XM F a2).bind λo879=>
 if(!o879)=true then
  some false
 else
 (XM F a3.1).bind λo880=>
 if(!o880)=true then
  some false
 else
 (QQ F a3.2).bind λo881=>
 if(!o881)=true then
  some false
 else
 (VS F a3.1 a0 a1).bind λo882=>
 (ZbA F a0 o882).bind λo883=>
 (ZiW F a2).bind λo884=>
 (ZfN F [a3.1,o883,o884]).bind λo885=>
 (Xu F a3.2).bind λo886=>
 some (o886==o885)
def Zmr:Fs yc:=⟨56,[.v .u64,.v (.arr 32 .u8),.v .u64,.v Z1],[],[.u64,(.arr 32 .u8),.u64,Z1],[⟨.ret,[(0,.v .bool)],[],[.bool]⟩],λx=>ZbN fuel x.1 x.2.1 x.2.2.1 x.2.2.2⟩
def ZLq:HI:={ still:=[8,13,18,24,30,36,38,39,40,41,43,45,48]}
theorem Ztf:Zmr.Ok:=fnO ZLq [] [VW,Zhb,Zcx,Zhc,Zqp,ZkF,ZbB] ⟨Qr,ZkD,ZgN,ZkE,ZwX,Zol,ZcW,ytt⟩
def sign_VerifyM(F:Nat)(a0:UInt64)(a1:(List UInt8))(a2:Sig):Option (Bool):=
 (ZbN F a0 a1 1 a2).bind λo887=>
 some o887
def Zf7(F:Nat):Fs yc:=⟨19,[.v .u64,.v (.arr 32 .u8),.v Z1],[],[.u64,(.arr 32 .u8),Z1],[⟨.ret,[(0,.v .bool)],[],[.bool]⟩],λx=>sign_VerifyM F x.1 x.2.1 x.2.2⟩
def ZcZ:Fs yc:=Zf7 fuel
theorem ZbO:ZcZ.Ok:=fnO { still:=[6,7,8,9]} [] [Zmr] ⟨Ztf,ytt⟩
def ZeX(F:Nat)(a0:(List UInt8))(a1:(List UInt8)):Option (Bool):=
 let y888:Bool:=(bytesOf a0).data.toList==(bytesOf a1).data.toList
 some y888
def Zf8(F:Nat):Fs yc:=⟨52,[.v (.sl .u8),.v (.sl .u8)],[],[(.sl .u8),(.sl .u8)],[⟨.ret,[(0,.v .bool)],[],[.bool]⟩],λx=>ZeX F x.1 x.2⟩
def Zms:Fs yc:=Zf8 fuel
theorem ZkX:Zms.Ok:=fnO { still:=[4]} [] [] trivial
def ZkY(F:Nat)(s:((List Sig)×(List Sig)×Int×Int)):Option (((List Sig)×(List Sig)×Int×Int)⊕(Bool⊕Unit)):=
 if(decide (s.2.2.2 < s.2.2.1))=true then
  (idx s.1 s.2.2.2).bind λe889=>
  (idx s.2.1 s.2.2.2).bind λe890=>
  if(!(decide (e889=e890)))=true then
   some (.inr (.inl false))
  else
  some (.inl (s.1,s.2.1,s.2.2.1,wi (s.2.2.2+1)))
 else
 some (.inr (.inr ()))
def Zmt:Lp:=⟨[(0,.v (.sl Z1)),(1,.v (.sl Z1)),(12,.v yI),(13,.v yI)],[],[(.sl Z1),(.sl Z1),yI,yI],[⟨.ret,[(4,.v .bool)],[],[.bool]⟩,⟨.exit 0,[],[],[]⟩],Zc (ZkY fuel) fuel⟩
theorem Zpr:Zmt.okA yc 78 0:=ZC { still:=[4]} [] [] trivial
def Zqq(F:Nat)(a0:(List Sig))(a1:(List Sig)):Option (Bool):=
 if((a0.length:Int)!=(a1.length:Int))=true then
  some false
 else
 (Zc (ZkY F) F (a0,a1,(a0.length:Int),0)).bind λo891=>
 match o891 with
 |.inl o892=>
  some o892
 |.inr o893=>
  some true
def Zor:Fs yc:=⟨78,[.v (.sl Z1),.v (.sl Z1)],[],[(.sl Z1),(.sl Z1)],[⟨.ret,[(0,.v .bool)],[],[.bool]⟩],λx=>Zqq fuel x.1 x.2⟩
theorem Zub:Zor.Ok:=fnO { still:=[4]} [(0,Zmt)] [] trivial ⟨Zpr,ytt⟩
def Ztg(F:Nat)(a0:In)(a1:In):Option (Bool):=
 if(decide (a0.1=a1.1))=true then
  if(a0.2.1==a1.2.1)=true then
   if(a0.2.2.2==a1.2.2.2)=true then
    (Zqq F a0.2.2.1 a1.2.2.1).bind λo894=>
    some o894
   else
   some false
  else
  some false
 else
 some false
def Zqr:Fs yc:=⟨77,[.v yIn,.v yIn],[],[yIn,yIn],[⟨.ret,[(0,.v .bool)],[],[.bool]⟩],λx=>Ztg fuel x.1 x.2⟩
theorem ZwY:Zqr.Ok:=fnO { still:=[4,31,34]} [] [Zor] ⟨Zub,ytt⟩
def Vs(F:Nat)(s:((List UInt64)×(List UInt64)×Int×Int)):Option (((List UInt64)×(List UInt64)×Int×Int)⊕(Bool⊕Unit)):=
 if(decide (s.2.2.2 < s.2.2.1))=true then
  (idx s.1 s.2.2.2).bind λe895=>
  (idx s.2.1 s.2.2.2).bind λe896=>
  if(e895 !=e896)=true then
   some (.inr (.inl false))
  else
  some (.inl (s.1,s.2.1,s.2.2.1,wi (s.2.2.2+1)))
 else
 some (.inr (.inr ()))
def Zjr:Lp:=⟨[(0,.v (.sl .u64)),(1,.v (.sl .u64)),(12,.v yI),(13,.v yI)],[],[(.sl .u64),(.sl .u64),yI,yI],[⟨.ret,[(4,.v .bool)],[],[.bool]⟩,⟨.exit 0,[],[],[]⟩],Zc (Vs fuel) fuel⟩
theorem Zm3:Zjr.okA yc 61 0:=ZC { still:=[4]} [] [] trivial
def Zac(F:Nat)(a0:(List UInt64))(a1:(List UInt64)):Option (Bool):=
 if((a0.length:Int)!=(a1.length:Int))=true then
  some false
 else
 (Zc (Vs F) F (a0,a1,(a0.length:Int),0)).bind λo897=>
 match o897 with
 |.inl o898=>
  some o898
 |.inr o899=>
  some true
def Zf9:Fs yc:=⟨61,[.v (.sl .u64),.v (.sl .u64)],[],[(.sl .u64),(.sl .u64)],[⟨.ret,[(0,.v .bool)],[],[.bool]⟩],λx=>Zac fuel x.1 x.2⟩
theorem Zjs:Zf9.Ok:=fnO { still:=[4]} [(0,Zjr)] [] trivial ⟨Zm3,ytt⟩
def Zth(F:Nat)(a0:ZM)(a1:ZM):Option (Bool):=
 if(a0.2.1==a1.2.1)=true then
  if(a0.2.2.1==a1.2.2.1)=true then
   if(a0.2.2.2==a1.2.2.2)=true then
    (Zac F a0.1 a1.1).bind λo900=>
    some o900
   else
   some false
  else
  some false
 else
 some false
def Zqs:Fs yc:=⟨79,[.v Zp,.v Zp],[],[Zp,Zp],[⟨.ret,[(0,.v .bool)],[],[.bool]⟩],λx=>Zth fuel x.1 x.2⟩
theorem ZwZ:Zqs.Ok:=fnO { still:=[4,26,28]} [] [Zf9] ⟨Zjs,ytt⟩
def Zmu(F:Nat)(s:((List In)×(List In)×Int×Int)):Option (((List In)×(List In)×Int×Int)⊕(Bool⊕Unit)):=
 if(decide (s.2.2.2 < s.2.2.1))=true then
  (idx s.2.1 s.2.2.2).bind λe901=>
  (idx s.1 s.2.2.2).bind λe902=>
  (Ztg F e901 e902).bind λo903=>
  if(!o903)=true then
   some (.inr (.inl false))
  else
  some (.inl (s.1,s.2.1,s.2.2.1,wi (s.2.2.2+1)))
 else
 some (.inr (.inr ()))
def Zos:Lp:=⟨[(1,.v (.sl yIn)),(2,.fn 77 []),(15,.v (.sl yIn)),(16,.v yI),(17,.v yI)],[],[(.sl yIn),(.sl yIn),yI,yI],[⟨.ret,[(6,.v .bool)],[],[.bool]⟩,⟨.exit 0,[],[],[]⟩],Zc (Zmu fuel) fuel⟩
theorem ZqU:Zos.okA yc 81 0:=ZC { still:=[6,27,28]} [] [Zqr] ⟨ZwY,ytt⟩
def Zti(F:Nat)(a0:(List In))(a1:(List In)):Option (Bool):=
 if((a0.length:Int)!=(a1.length:Int))=true then
  some false
 else
 (Zc (Zmu F) F (a1,a0,(a0.length:Int),0)).bind λo904=>
 match o904 with
 |.inl o905=>
  some o905
 |.inr o906=>
  some true
def Zqt:Fs yc:=⟨81,[.v (.sl yIn),.v (.sl yIn),.fn 77 []],[],[(.sl yIn),(.sl yIn)],[⟨.ret,[(0,.v .bool)],[],[.bool]⟩],λx=>Zti fuel x.1 x.2⟩
theorem Zw0:Zqt.Ok:=fnO { still:=[6,27,28]} [(0,Zos)] [] trivial ⟨ZqU,ytt⟩
def ZgT(F:Nat)(s:((List ZM)×(List ZM)×Int×Int)):Option (((List ZM)×(List ZM)×Int×Int)⊕(Bool⊕Unit)):=
 if(decide (s.2.2.2 < s.2.2.1))=true then
  (idx s.2.1 s.2.2.2).bind λe910=>
  (idx s.1 s.2.2.2).bind λe911=>
  (Zth F e910 e911).bind λo912=>
  if(!o912)=true then
   some (.inr (.inl false))
  else
  some (.inl (s.1,s.2.1,s.2.2.1,wi (s.2.2.2+1)))
 else
 some (.inr (.inr ()))
def Zh0:Lp:=⟨[(1,.v (.sl Zp)),(2,.fn 79 []),(15,.v (.sl Zp)),(16,.v yI),(17,.v yI)],[],[(.sl Zp),(.sl Zp),yI,yI],[⟨.ret,[(6,.v .bool)],[],[.bool]⟩,⟨.exit 0,[],[],[]⟩],Zc (ZgT fuel) fuel⟩
theorem ZlT:Zh0.okA yc 59 0:=ZC { still:=[6,27,28]} [] [Zqs] ⟨ZwZ,ytt⟩
def ZkZ(F:Nat)(a0:(List ZM))(a1:(List ZM)):Option (Bool):=
 if((a0.length:Int)!=(a1.length:Int))=true then
  some false
 else
 (Zc (ZgT F) F (a1,a0,(a0.length:Int),0)).bind λo913=>
 match o913 with
 |.inl o914=>
  some o914
 |.inr o915=>
  some true
def Zjt:Fs yc:=⟨59,[.v (.sl Zp),.v (.sl Zp),.fn 79 []],[],[(.sl Zp),(.sl Zp)],[⟨.ret,[(0,.v .bool)],[],[.bool]⟩],λx=>ZkZ fuel x.1 x.2⟩
theorem Zps:Zjt.Ok:=fnO { still:=[6,27,28]} [(0,Zh0)] [] trivial ⟨ZlT,ytt⟩
def Ztj(F:Nat)(a0:Out)(a1:Out):Option (Bool):=
 if(a0.1==a1.1)=true then
  (ZkZ F a0.2 a1.2).bind λo916=>
  some o916
 else
 some false
def Zqu:Fs yc:=⟨80,[.v ZL,.v ZL,.ref 0 []],[.var (.fn 79 []) true],[ZL,ZL],[⟨.ret,[(0,.v .bool)],[.var (.fn 79 []) true],[.bool]⟩],λx=>Ztj fuel x.1 x.2⟩
theorem Zw1:Zqu.Ok:=fnO { still:=[5,14,17,18]} [] [Zjt] ⟨Zps,ytt⟩
def Zk0(F:Nat)(s:((List Out)×(List Out)×Int×Int)):Option (((List Out)×(List Out)×Int×Int)⊕(Bool⊕Unit)):=
 if(decide (s.2.2.2 < s.2.2.1))=true then
  (idx s.2.1 s.2.2.2).bind λe908=>
  (idx s.1 s.2.2.2).bind λe909=>
  (Ztj F e908 e909).bind λo917=>
  if(!o917)=true then
   some (.inr (.inl false))
  else
  some (.inl (s.1,s.2.1,s.2.2.1,wi (s.2.2.2+1)))
 else
 some (.inr (.inr ()))
def Zmv:Lp:=⟨[(1,.v (.sl ZL)),(2,.fn 80 [.ref 0 []]),(15,.v (.sl ZL)),(16,.v yI),(17,.v yI)],[.var (.fn 79 []) true],[(.sl ZL),(.sl ZL),yI,yI],[⟨.ret,[(6,.v .bool)],[.var (.fn 79 []) true],[.bool]⟩,⟨.exit 0,[],[.var (.fn 79 []) true],[]⟩],Zc (Zk0 fuel) fuel⟩
theorem Zpt:Zmv.okA yc 82 0:=ZC { still:=[6,27,28]} [] [Zqu] ⟨Zw1,ytt⟩
def Zqv(F:Nat)(a0:(List Out))(a1:(List Out)):Option (Bool):=
 if((a0.length:Int)!=(a1.length:Int))=true then
  some false
 else
 (Zc (Zk0 F) F (a1,a0,(a0.length:Int),0)).bind λo918=>
 match o918 with
 |.inl o919=>
  some o919
 |.inr o920=>
  some true
def Zot:Fs yc:=⟨82,[.v (.sl ZL),.v (.sl ZL),.fn 80 [.ref 0 []]],[.var (.fn 79 []) true],[(.sl ZL),(.sl ZL)],[⟨.ret,[(0,.v .bool)],[.var (.fn 79 []) true],[.bool]⟩],λx=>Zqv fuel x.1 x.2⟩
theorem Zuc:Zot.Ok:=fnO { still:=[6,27,28]} [(0,Zmv)] [] trivial ⟨Zpt,ytt⟩
def ZFT(F:Nat)(a0:Tx)(a1:Tx):Option (Bool):=
 if(a0.2.2==a1.2.2)=true then
  (Zti F a0.1 a1.1).bind λo907=>
  if o907=true then
   (Zqv F a0.2.1 a1.2.1).bind λo921=>
   some o921
  else
  some false
 else
 some false
def Zm4(F:Nat):Fs yc:=⟨29,[.v yTx,.v yTx],[],[yTx,yTx],[⟨.ret,[(0,.v .bool)],[],[.bool]⟩],λx=>ZFT F x.1 x.2⟩
def ZDk:Fs yc:=Zm4 fuel
def ZLr:HI:={ still:=[4,16,18,19,24,26,27]}
theorem ZAD:ZDk.Ok:=fnO ZLr [] [Zqt,Zot] ⟨Zw0,Zuc,ytt⟩
def Zmw(F:Nat)(s:(Int×(List In)×Int×Int×Tx)):Option ((Int×(List In)×Int×Int×Tx)⊕(Int×Tx)):=
 if(decide (s.2.2.2.1 < s.2.2.1))=true then
  (idx s.2.1 s.2.2.2.1).bind λe923=>
  let y924:Int:=wi (s.1+(wi (10+(wi (8*(e923.2.2.1.length:Int))))))
  if(e923.2.2.2 !=0)=true then
   some (.inl (wi (y924+4),s.2.1,s.2.2.1,wi (s.2.2.2.1+1),s.2.2.2.2))
  else
  some (.inl (y924,s.2.1,s.2.2.1,wi (s.2.2.2.1+1),s.2.2.2.2))
 else
 some (.inr (s.1,s.2.2.2.2))
def Zou:Lp:=⟨[(3,.v yI),(15,.v (.sl yIn)),(16,.v yI),(17,.v yI)],[.var (.v yTx) true],[yI,(.sl yIn),yI,yI,yTx],[⟨.exit 0,[(3,.v yI)],[.var (.v yTx) true],[yI,yTx]⟩],Zc (Zmw fuel) fuel⟩
theorem ZqV:Zou.okA yc 31 0:=ZC { still:=[2,6]} [] [] trivial
def ZAE(F:Nat)(a0:Tx):Option (Int):=
 (ZhM F a0).bind λo922=>
 if(!o922)=true then
  some 0
 else
 (Zc (Zmw F) F (wi (10+(wi (8*(a0.2.1.length:Int)))),a0.1,(a0.1.length:Int),0,a0)).bind λo925=>
 some o925.1
def ZiX(F:Nat):Fs yc:=⟨31,[.v yTx],[],[yTx],[⟨.ret,[(0,.v yI)],[],[yI]⟩],λx=>ZAE F x⟩
def ZyT:Fs yc:=ZiX fuel
theorem Zw2:ZyT.Ok:=fnO { still:=[2,6]} [(0,Zou)] [ZmV] ⟨Zqe,ytt⟩ ⟨ZqV,ytt⟩
def ZbP(F:Nat)(a0:ZM)(a1:ZM):Option (Bool):=
 (Zac F a0.1 a1.1).bind λo941=>
 if o941=true then
  if(a0.2.1==a1.2.1)=true then
   if(a0.2.2.1==a1.2.2.1)=true then
    some (a0.2.2.2==a1.2.2.2)
   else
   some false
  else
  some false
 else
 some false
def Zmx:Fs yc:=⟨60,[.v Zp,.v Zp],[],[Zp,Zp],[⟨.ret,[(0,.v .bool)],[],[.bool]⟩],λx=>ZbP fuel x.1 x.2⟩
theorem Ztk:Zmx.Ok:=fnO { still:=[4,6,8]} [] [Zf9] ⟨Zjs,ytt⟩
def XR(F:Nat)(s:((List ZM)×(List ZM)×Int×Int)):Option (((List ZM)×(List ZM)×Int×Int)⊕(Bool⊕Unit)):=
 if(decide (s.2.2.2 < s.2.2.1))=true then
  (idx s.2.1 s.2.2.2).bind λe942=>
  (idx s.1 s.2.2.2).bind λe943=>
  (ZbP F e942 e943).bind λo944=>
  if(!o944)=true then
   some (.inr (.inl false))
  else
  some (.inl (s.1,s.2.1,s.2.2.1,wi (s.2.2.2+1)))
 else
 some (.inr (.inr ()))
def Zep:Lp:=⟨[(1,.v (.sl Zp)),(2,.fn 60 []),(15,.v (.sl Zp)),(16,.v yI),(17,.v yI)],[],[(.sl Zp),(.sl Zp),yI,yI],[⟨.ret,[(6,.v .bool)],[],[.bool]⟩,⟨.exit 0,[],[],[]⟩],Zc (XR fuel) fuel⟩
theorem ZiY:Zep.okA yc 59 0:=ZC { still:=[6,27,28]} [] [Zmx] ⟨Ztk,ytt⟩
def Qg(F:Nat)(a0:(List ZM))(a1:(List ZM)):Option (Bool):=
 if((a0.length:Int)!=(a1.length:Int))=true then
  some false
 else
 (Zc (XR F) F (a1,a0,(a0.length:Int),0)).bind λo945=>
 match o945 with
 |.inl o946=>
  some o946
 |.inr o947=>
  some true
def Zga:Fs yc:=⟨59,[.v (.sl Zp),.v (.sl Zp),.fn 60 []],[],[(.sl Zp),(.sl Zp)],[⟨.ret,[(0,.v .bool)],[],[.bool]⟩],λx=>Qg fuel x.1 x.2⟩
theorem ZlU:Zga.Ok:=fnO { still:=[6,27,28]} [(0,Zep)] [] trivial ⟨ZiY,ytt⟩
def VO(F:Nat)(a0:Lock)(a1:Lock):Option (Bool):=
 (Qg F a0 a1).bind λo948=>
 some o948
def ZdI:Fs yc:=⟨21,[.v Zo,.v Zo],[],[Zo,Zo],[⟨.ret,[(0,.v .bool)],[],[.bool]⟩],λx=>VO fuel x.1 x.2⟩
theorem ZeY:ZdI.Ok:=fnO { still:=[4,6,8]} [] [Zga] ⟨ZlU,ytt⟩
abbrev ZKC:Type:=(Out×Int)
abbrev Ze7:Type:=(Xw×ZKC)
abbrev Ze7.at_(x:Ze7):Xw:=x.1
abbrev Ze7.c(x:Ze7):ZKC:=x.2
abbrev Zu7:Type:=((List Ze7)×(List Xw))
abbrev Zu7.gone(x:Zu7):(List Ze7):=x.1
end
end Go.Proofs.YtmkgbalfkhaflaaGreat
end
section
set_option maxRecDepth 4000
namespace Go.Proofs.YtmkgbalfkhaflaaGreat
open Go Go.Ev
theorem ZFU{m:Nat}(hm:0 < m):∀(f a n o:Nat),o < m→pwm m f a n o < m
 |0,_,_,o,h=>h
 |f+1,a,n,o,h=>by
  rw[pwm];split
  ·exact h
  ·refine ZFU hm f _ _ _ ?_;split
   ·exact ybb _ hm
   ·exact h
theorem ZFV{m:Nat}(hm:1 < m)(k a n:Nat)(h:n < 2 ^ k):pwm m k a n 1=a ^ n % m:=by
 rw[←yah (ZFU (by omega) k a n 1 hm),ZwG k a n 1 h,Nat.one_mul]
instance(a:Nat):Decidable (Q7 a):=by unfold Q7;infer_instance
theorem ZJA{z:Nat}(h:z < mdl):z < 18446744073709551616:=Nat.lt_trans h (by decide)
theorem Ztl{z:Nat}(h:z < mdl):(yad z).toNat=z:=by
 rw[yba,yah (ZJA h)]
theorem Zly(z:Nat):z % mdl < mdl:=ybb _ (by decide)
theorem Ztm(a n:UInt64):QN fuel a n=some (yad (a.toNat ^ n.toNat % mdl)):=by
 unfold QN;rw[ZFV (by decide) 64 a.toNat n.toNat (ybr n)];rfl
theorem Zu8{a n:UInt64}(h:a.toNat < mdl):YO fuel a n=some (yad (a.toNat ^ n.toNat % mdl)):=by
 unfold YO;rw[if_pos (decide_eq_true (show a.toNat < 4611686018427377339 from h)),ZFV (by decide) 64 a.toNat n.toNat (ybr n)]
 rfl
theorem ZFW{z:Nat}(h:z < mdl):(yad z==1)=decide (z=1):=by
 rw[yck,beq_iff_eq,decide_eq_true_iff, ←ycf,Ztl h];rfl
theorem Zad(p:UInt64):XM fuel p=some (decide (Q7 p.toNat)):=by
 unfold XM;by_cases h1:0 < p.toNat
 ·rw[if_pos (decide_eq_true (show p > 0 from ybz.2 h1))]
  by_cases h2:p.toNat < mdl
  ·rw[if_pos (decide_eq_true (show p < 4611686018427377339 from ybz.2 h2)),Ztm,ya,ZFW (Zly _)]
   congr 1;rw[decide_eq_decide];exact⟨λh=>⟨h1,h2,h⟩,λh=>h.2.2⟩
  ·rw[if_neg (by rw[decide_eq_true_iff];exact λh=>h2 (ybz.1 h)),decide_eq_false (λh=>h2 h.2.1)]
 ·rw[if_neg (by rw[decide_eq_true_iff];exact λh=>h1 (ybz.1 h)),decide_eq_false (λh=>h1 h.1)]
theorem Zpu(p:UInt64):Xq fuel p=some (decide (Q7 p.toNat)):=by
 unfold Xq;by_cases h1:0 < p.toNat
 ·rw[if_pos (decide_eq_true (show p ≥ 1 from ycs.2 h1))]
  by_cases h2:p.toNat < mdl
  ·rw[if_pos (decide_eq_true (show p < 4611686018427377339 from ybz.2 h2)),Zu8 h2,ya,ZFW (Zly _)]
   congr 1;rw[decide_eq_decide];exact⟨λh=>⟨h1,h2,h⟩,λh=>h.2.2⟩
  ·rw[if_neg (by rw[decide_eq_true_iff];exact λh=>h2 (ybz.1 h)),decide_eq_false (λh=>h2 h.2.1)]
 ·rw[if_neg (by rw[decide_eq_true_iff];exact λh=>h1 (ycs.1 h)),decide_eq_false (λh=>h1 h.1)]
def tk(p:UInt64):UInt64:=if Q7 p.toNat then p else 1
theorem ZBW(p:UInt64):Q7 (tk p).toNat:=by
 unfold tk;split
 ·assumption
 ·exact ZAu
theorem Zu9{p:UInt64}(h:Q7 p.toNat):tk p=p:=if_pos h
theorem Ztn(p:UInt64):QR fuel p=some (tk p):=by
 unfold QR tk;rw[Zad,ya];by_cases h:Q7 p.toNat
 ·rw[if_pos (decide_eq_true h),if_pos h]
 ·rw[if_neg (by rw[decide_eq_true_iff];exact h),if_neg h]
theorem ZDl(p:UInt64):Ve fuel p=some (tk p):=by
 unfold Ve tk;rw[Zpu,ya];by_cases h:Q7 p.toNat
 ·rw[if_pos (decide_eq_true h),if_pos h]
 ·rw[if_neg (by rw[decide_eq_true_iff];exact h),if_neg h]
def sc(p:UInt64)(n:Nat):UInt64:=yad ((tk p).toNat ^ n % mdl)
theorem Zw3(p:UInt64)(n:Nat):(sc p n).toNat=(tk p).toNat ^ n % mdl:=Ztl (Zly _)
theorem ZKD(p:UInt64)(n:Nat):Q7 (sc p n).toNat:=by
 rw[Zw3];exact ZJg (ZBW p) n
theorem ZAF(p:UInt64)(n:Nat):sc p (n % ord)=sc p n:=by
 unfold sc;rw[ZHt (ZBW p)]
theorem Zto(k:UInt64):(k % 2305843009213688669).toNat=k.toNat % ord:=by
 rw[UInt64.toNat_mod];rfl
theorem Ztp(p k:UInt64):ZbA fuel p k=some (sc p k.toNat):=by
 unfold ZbA;rw[Ztn,ya,Ztm,ya,Zto, ←ZAF];rfl
theorem ZDm(p k:UInt64):Vf fuel p k=some (sc p k.toNat):=by
 unfold Vf;rw[ZDl,ya,Zu8 (ZBW p).2.1,ya,Zto, ←ZAF];rfl
def B(n:Nat):UInt64:=sc 4 n
theorem tk4:tk 4=4:=Zu9 ZFC
theorem Zqw(n:Nat):(B n).toNat=4 ^ n % mdl:=by
 unfold B;rw[Zw3,tk4];rfl
theorem Zud(n:Nat):Q7 (B n).toNat:=ZKD 4 n
theorem ZFX(n:Nat):B (n % ord)=B n:=ZAF 4 n
theorem ZLs{n:Nat}(h0:0 < n)(h1:n < ord):B n≠1:=λe=>ZJh h0 h1 (by rw[←Zqw,e];rfl)
theorem Zc0(k:UInt64):Xu fuel k=some (B k.toNat):=by
 unfold Xu;rw[Ztp,ya];rfl
theorem Zk1(k:UInt64):YF fuel k=some (B k.toNat):=by
 unfold YF;rw[ZDm,ya];rfl
def ad(p q:UInt64):UInt64:=yad ((tk p).toNat*(tk q).toNat % mdl)
theorem ZJB(p q:UInt64):(ad p q).toNat=(tk p).toNat*(tk q).toNat % mdl:=Ztl (Zly _)
theorem ZFY(a b:UInt64):Yu fuel a b=some (yad (a.toNat*b.toNat % mdl)):=ZyH a b
def ZlV:List UInt64→Nat→Nat
 |[],o=>o
 |p::r,o=>ZlV r (o*(tk p).toNat % mdl)
theorem ZBX:∀(l:List UInt64)(o:Nat),o < mdl→ZlV l o < mdl
 |[],o,h=>h
 |p::r,o,h=>ZBX r _ (Zly _)
theorem ZAG{l:List UInt64}(hl:l.length≤1000):ZfN fuel l=some (yad (ZlV l 1)):=by
 have key:∀(k:Nat),k≤l.length→ZlV (l.take k) 1 < mdl:=λk _=>ZBX _ _ (by decide)
 have app:∀(l:List UInt64)(p:UInt64)(o:Nat),ZlV (l++[p]) o=ZlV l o*(tk p).toNat % mdl:=by
  intro l
  induction l with
  |nil=>intro p o;rfl
  |cons q r ih=>intro p o;exact ih p _
 unfold ZfN
 rw[show((1:UInt64),l,(l.length:Int),(0:Int))=(λk:Nat=>(yad (ZlV (l.take k) 1),l,(l.length:Int),(k:Int))) 0 from rfl,
  Z4 (x:=yad (ZlV l 1)) l.length (λk:Nat=>(yad (ZlV (l.take k) 1),l,(l.length:Int),(k:Int))) ?_ ?_ (by omega),ya]
 ·intro k hk;obtain⟨e,he,_⟩:=Zl hk;unfold ZcX;dsimp only;rw[if_pos (Yk hk),Zu he,ya,Ztn,ya,ZFY,ya,Zr (by omega),ZeW he,app,Ztl (key k (by omega))]
 ·unfold ZcX;dsimp only;rw[if_neg (by rw[Z2];decide),ybl]
theorem ZJC(p q:UInt64):ZiF fuel p q=some (ad p q):=by
 unfold ZiF;rw[ZAG (by simp),ya];unfold ad ZlV ZlV ZlV;rw[Nat.one_mul,yah (ZBW p).2.1]
theorem ZFZ(p:UInt64):ZiW fuel p=some (sc p (ord - 1)):=by
 unfold ZiW;rw[Ztn,ya,Ztm,ya];rfl
theorem Zw4{z:Nat}:(yad (z % ord)).toNat=z % ord:=by
 rw[yba,yah (Nat.lt_trans (ybb _ (by decide)) (by decide))]
theorem Ztq{z:Nat}:z % ord < ord:=ybb _ (by decide)
theorem ZHB(a b:UInt64):ZiG fuel a b=some (yad ((a.toNat+b.toNat) % ord)):=by
 unfold ZiG Zcy Zd1;rw[ya,ya,ya];congr 1;have ha:a.toNat % ord < ord:=Ztq;have hb:b.toNat % ord < ord:=Ztq;rw[←ycf,Zto,UInt64.toNat_add,Zto,Zto,Zw4,yah (a:=a.toNat % ord+b.toNat % ord) (by unfold ord at*;omega), ←Nat.add_mod]
theorem ZHC(a b:UInt64):ZiH fuel a b=some (yad (a.toNat*b.toNat % ord)):=by
 unfold ZiH Zcy Zcz Zdd;rw[ya,ya,ya];dsimp only;unfold WK;rw[if_pos (by decide),ya,ya,yba,yba,Zto,Zto];have h:a.toNat % ord*(b.toNat % ord) < 18446744073709551616*18446744073709551616:=Nat.mul_lt_mul'' (Nat.lt_trans Ztq (by decide)) (Nat.lt_trans Ztq (by decide));have hz:a.toNat % ord*(b.toNat % ord) % ord=a.toNat*b.toNat % ord:=(Nat.mul_mod ..).symm;generalize a.toNat % ord*(b.toNat % ord)=z at*;have h2:z / 18446744073709551616 < 18446744073709551616:=(Nat.div_lt_iff_lt_mul (by decide)).2 h;rw[show(2305843009213688669:UInt64).toNat=ord from rfl]
 have e:z / 18446744073709551616 % 2 ^ 64*18446744073709551616+z % 18446744073709551616 % 2 ^ 64=z:=by omega
 rw[e,hz]
theorem Zpv(a:UInt64):QQ fuel a=some (decide (a.toNat < ord)):=by
 unfold QQ;congr 1
def Key(k:UInt64):Prop:=0 < k.toNat∧k.toNat < ord
theorem ZBY{h:List UInt8}(hl:h.length=32):∃k,Zdj fuel h=some k∧Key k:=by
 unfold Zdj
 obtain⟨x,h1,h2⟩:=Z8 (step:=QA fuel) 32 (λk s=>∃n:UInt64,s=(n,h,(k:Int),h)∧n.toNat < 2305843009213688668) (λx=>x.1.toNat < 2305843009213688668) (i:=((0:UInt64),h,(0:Int),h)) ⟨0,rfl,by decide⟩ (by omega) (by
  rintro k _ hk ⟨n,rfl,hn⟩;left;obtain⟨e,he,_⟩:=Zl (l:=h) (k:=k) (by omega);unfold QA;dsimp only;rw[if_pos (decide_eq_true (by omega)),Zu he,ya];unfold WK;rw[if_pos (by decide),ya,Zr (by omega)];refine⟨_,rfl,_,rfl, ?_⟩;rw[show(2305843009213688668:UInt64).toNat=2305843009213688668 from rfl,yba,yah]
  ·exact ybb _ (by decide)
  ·exact Nat.lt_trans (ybb _ (by decide)) (by decide)) (by
  rintro _ ⟨n,rfl,hn⟩;unfold QA;dsimp only;rw[if_neg (ynd (by omega))];exact⟨_,rfl,hn⟩)
 rw[h1,ya];have e:(x.1+1).toNat=x.1.toNat+1:=by rw[UInt64.toNat_add,yah (by show x.1.toNat+1 < _;omega)];rfl
 exact⟨_,rfl,by rw[e];omega,by rw[e];unfold ord;omega⟩
theorem Zk2{h:List UInt8}(hl:h.length=32):∃k,YE fuel h=some k∧Key k:=by
 unfold YE
 obtain⟨x,h1,h2⟩:=Z8 (step:=Xy fuel) 32 (λk s=>∃n:UInt64,s=(n,(k:Int),h)∧n.toNat < 2305843009213688668) (λx=>x.1.toNat < 2305843009213688668) (i:=((0:UInt64),(0:Int),h)) ⟨0,rfl,by decide⟩ (by omega) (by
  rintro k _ hk ⟨n,rfl,hn⟩;left;obtain⟨e,he,_⟩:=Zl (l:=h) (k:=k) (by omega);unfold Xy;dsimp only;rw[if_pos (decide_eq_true (by omega))]
  obtain⟨y,g1,n2,rfl,g2⟩:=Z8 (step:=Xx fuel) 8 (λj s=>∃n:UInt64,s=(n,(k:Int),7 - (j:Int),h)∧n.toNat < 2305843009213688668) (λx=>∃n:UInt64,x=(n,(k:Int),h)∧n.toNat < 2305843009213688668) (i:=(n,(k:Int),(7:Int),h)) ⟨n,rfl,hn⟩ (by omega) (by
   rintro j _ hj ⟨n,rfl,hn⟩;left;unfold Xx;dsimp only;rw[if_pos (decide_eq_true (by omega)),if_pos (Xf (by omega) (by omega)),ybq,he,ya,ZD (z:=7 - (j:Int) - 1) (by omega) (by omega)];refine⟨_,rfl,_,by rw[show(7:Int) - (j:Int) - 1=7 - ((j+1:Nat):Int) by omega], ?_⟩;rw[UInt64.toNat_mod];exact ybb _ (by decide)) (by
   rintro _ ⟨n,rfl,hn⟩;unfold Xx;dsimp only;rw[if_neg (ynd (by omega))];exact⟨_,rfl,_,rfl,hn⟩)
  rw[g1,ya,Zr (by omega)];exact⟨_,rfl,_,rfl,g2⟩) (by
  rintro _ ⟨n,rfl,hn⟩;unfold Xy;dsimp only;rw[if_neg (ynd (by omega))];exact⟨_,rfl,hn⟩)
 rw[h1,ya];have e:(x.1+1).toNat=x.1.toNat+1:=by rw[UInt64.toNat_add,yah (by show x.1.toNat+1 < _;omega)];rfl
 exact⟨_,rfl,by rw[e];omega,by rw[e];unfold ord;omega⟩
theorem ZyU{n:Nat}{b:List UInt8}(h:b.length≤1000000):∃o,W7 fuel (n:Int) b=some o∧o.length=b.length+8:=
 ⟨_,ZBT (by omega),by rw[yp];rfl⟩
theorem ZHD{l:List UInt8}(h:l.length≤900000):∃o,Ze6 fuel l=some o∧o.length=32:=⟨_,ZHA (by omega),Sha.ZLb l⟩
theorem Zw5{s:ByteArray}{ls:List (List UInt8)}(h1:s.size≤100)(h2:ls.length≤10)(h3:∀l,l∈ls→l.length≤60000):∃o,Zcw fuel s ls=some o∧o.length=32:=by
 unfold Zcw;obtain⟨o,p1,p2⟩:=ZyU (n:=s.size) (b:=[]) (by simp)
 have hsl:(ZlB s).length=s.size:=by
  unfold ZlB;rw[Array.length_toList];rfl
 rw[p1,ya,if_pos (Yj (by rw[hsl,p2];simp;omega) (by rw[hsl,p2];simp;omega))];refine Exists.elim (WF (step:=ZeQ fuel) (λx=>x.1=ls∧x.2.1=(ls.length:Int)∧0≤x.2.2.1∧x.2.2.1≤(ls.length:Int)∧x.2.2.2.2.length≤200+60100*x.2.2.1.toNat) (λx=>((ls.length:Int) - x.2.2.1).toNat) (λx=>x.2.length≤700000) ?_ (ls,(ls.length:Int),(0:Int),yzz,o++ZlB s) ⟨rfl,rfl,Int.le_refl _,by dsimp only;omega,by dsimp only;rw[yp,p2,hsl];simp;omega⟩ (by dsimp only;omega)) ?_
 rotate_left
 ·rintro q ⟨q1,q2⟩;rw[q1,ya];obtain⟨r,r1,r2⟩:=ZHD (l:=q.2) (by omega);rw[r1,ya];exact⟨_,rfl,r2⟩
 ·rintro⟨a,n,i,c,d⟩ ⟨k1,k2,k3,k4,k5⟩;dsimp only at k1 k2 k3 k4 k5;subst k1;subst k2;unfold ZeQ;dsimp only;by_cases hi:i < (a.length:Int)
  ·left;obtain⟨e,he⟩:=Zbh (l:=a) (i:=i.toNat) (by omega);have hel:=h3 e (List.mem_of_getElem? he);obtain⟨x,x1,x2⟩:=ZyU (n:=e.length) (b:=d) (by omega);rw[if_pos (decide_eq_true hi),ZgC k3 he,ya,x1,ya,if_pos (Yj (by omega) (by omega)),ZD (z:=i+1) (by omega) (by omega)];exact⟨_,rfl,⟨rfl,rfl,by dsimp only;omega,by dsimp only;omega,by dsimp only;rw[yp];omega⟩,by dsimp only;omega⟩
  ·right;rw[if_neg (by simpa using hi)];exact⟨_,rfl,by dsimp only;omega⟩
theorem ZLt(m n:Nat):sc (B m) n=B (m*n):=by
 rw[←ycf,Zw3,Zu9 (Zud m),Zqw,Zqw,Nat.pow_mul, ←Nat.pow_mod]
theorem ZKE(z:Nat):B (yad (z % ord)).toNat=B z:=by rw[Zw4,ZFX]
theorem Zva{ls:List (List UInt8)}(h:ls.flatten.length≤1000000000)(hn:ls.length≤1000):YT fuel ls=some ls.flatten:=by
 unfold YT
 rw[show(ls,(0:Int),ls,(ls.length:Int),(0:Int))=(λk:Nat=>(ls,((ls.take k).flatten.length:Int),ls,(ls.length:Int),(k:Int))) 0 from rfl,
  Z4 (x:=(ls,(ls.flatten.length:Int))) ls.length (λk:Nat=>(ls,((ls.take k).flatten.length:Int),ls,(ls.length:Int),(k:Int))) ?_ ?_ (by omega),ya]
 ·have hg:Zsw (ls.flatten.length:Int)=some []:=by
   unfold Zsw;rw[if_pos];rw[yj];exact⟨decide_eq_true (by omega),decide_eq_true (by unfold Zn;omega)⟩
  dsimp only
  rw[hg,ya,show(ls,(ls.length:Int),(0:Int),([]:List UInt8))=(λk:Nat=>(ls,(ls.length:Int),(k:Int),(ls.take k).flatten)) 0 from rfl,
   Z4 (x:=ls.flatten) ls.length (λk:Nat=>(ls,(ls.length:Int),(k:Int),(ls.take k).flatten)) ?_ ?_ (by omega),ya]
  ·intro k hk;obtain⟨e,he,_⟩:=Zl hk;have hf:=Zu6 he;have hl:=ZBV ls (k+1);rw[hf,yp] at hl;unfold Xe;dsimp only;rw[if_pos (Yk hk),Zu he,ya,if_pos (Yj (by omega) (by omega)),Zr (by omega),hf]
  ·unfold Xe;dsimp only;rw[if_neg (by rw[Z2];decide),ybl]
 ·intro k hk;obtain⟨e,he,_⟩:=Zl hk;have hf:=Zu6 he;have hl:=ZBV ls (k+1);rw[hf,yp] at hl;unfold Xd;dsimp only;rw[if_pos (Yk hk),Zu he,ya,ZD (z:=((ls.take k).flatten.length:Int)+(e.length:Int)) (by omega) (by omega),if_neg (ynd (by omega)),Zr (by omega),hf,yp];rfl
 ·unfold Xd;dsimp only;rw[if_neg (by rw[Z2];decide),ybl]
theorem Zw6{a b:List UInt8}(h:a.length+b.length≤1000000000):ZaG fuel a b=some (a++b):=by
 unfold ZaG;rw[Zva (by simp;omega) (by simp),ya];simp
def WX(n:Nat):List UInt8:=if h:n < 128 then[yau n] else yau (n % 128+128)::WX (n / 128)
termination_by n
decreasing_by omega
theorem ZiZ{n:Nat}(h:n < 128):WX n=[yau n]:=by rw[WX,dif_pos h]
theorem Ztr{n:Nat}(h:¬n < 128):WX n=yau (n % 128+128)::WX (n / 128):=by rw[WX,dif_neg h]
theorem ZBZ:∀(j n:Nat),n < 128 ^ (j+1)→(WX n).length≤j+1
 |0,n,h=>by rw[ZiZ (by omega)];exact Nat.le_refl _
 |j+1,n,h=>by
  by_cases h0:n < 128
  ·rw[ZiZ h0,List.length_singleton];omega
  ·rw[Ztr h0];have:=ZBZ j (n / 128) (by rw[Nat.pow_succ] at h;omega);simp only[yag];omega
theorem YL{n:Nat}(h:n≤9223372036854775807):(WX n).length≤9:=ZBZ 8 n (by omega)
theorem ZHE(n:Nat):WX n≠[]:=by
 rw[WX];split <;> simp
theorem ZF0{n:Nat}(h:n≤9223372036854775807):ZhK fuel (n:Int)=some (WX n):=by
 unfold ZhK;refine Exists.elim (WF (step:=ZeK fuel) (λs=>∃m:Nat,s.1=(m:Int)∧m≤n∧s.2++WX m=WX n) (λs=>s.1.toNat) (λx=>∃m:Nat,x.1=(m:Int)∧m < 128∧x.2++WX m=WX n) ?_ ((n:Int),([]:List UInt8)) ⟨n,rfl,Nat.le_refl _,rfl⟩ (by dsimp only;omega)) ?_
 ·rintro⟨_,o⟩ ⟨m,rfl,hm,ho⟩;unfold ZeK;dsimp only at ho ⊢;have hr:=congrArg List.length ho;have hl:=YL h;rw[yp] at hr;by_cases h1:m < 128
  ·right;rw[if_neg (ynd (by omega))];exact⟨_,rfl,m,rfl,h1,ho⟩
  ·left;rw[if_pos (decide_eq_true (by omega)),if_pos (Yj (by omega) (by omega))];have e1:yar (m:Int) 128=((m % 128:Nat):Int):=rfl;have e2:Int.tdiv (m:Int) 128=((m / 128:Nat):Int):=rfl;rw[e1,e2,ZD (z:=((m % 128:Nat):Int)+128) (by omega) (by omega),ZD (z:=((m / 128:Nat):Int)) (by omega) (by omega)];refine⟨_,rfl,⟨m / 128,rfl,by omega, ?_⟩,by dsimp only;omega⟩;dsimp only;rw[←ho,Ztr h1,yaj];congr 1;rw[List.singleton_append];congr 1;unfold w8;congr 1;omega
 ·rintro⟨_,o⟩ ⟨h1,m,rfl,h2,h3⟩;dsimp only at h3 ⊢;have hr:=congrArg List.length h3;have hl:=YL h;rw[yp] at hr;rw[h1,ya];dsimp only;rw[if_pos (Yj (by omega) (by omega)), ←h3,ZiZ h2];congr 3;unfold w8;congr 1;omega
theorem Zi0{b:List UInt8}{z:Int}(h0:0≤z)(h:z≤9223372036854775807)(hb:b.length≤1000000):WG fuel b z=some (b++WX z.toNat):=by
 obtain⟨n,rfl⟩:=Int.eq_ofNat_of_zero_le h0;have:=YL (n:=n) (by omega);unfold WG;rw[if_neg (ynd (by omega)),ZF0 (by omega),ya,Zw6 (by omega),ya,ybq]
theorem ZAH{b h:List UInt8}(hb:b.length≤1000000)(hh:h.length≤1000000):ZcU fuel b h=some (b++h):=by
 unfold ZcU;rw[Zw6 (by omega),ya]
theorem ZyV{b c:List UInt8}(hb:b.length≤1000000)(hc:c.length≤1000000):Zbz fuel b c=some (b++(WX c.length++c)):=by
 have:=YL (n:=c.length) (by omega);unfold Zbz;rw[ZF0 (by omega),ya,Zva (by simp;omega) (by simp),ya];simp
def Zov(l:List UInt8)(n k:Nat):List UInt8:=l.take k++yy (n - k) 0
theorem ZDn{l:List UInt8}{n k:Nat}(h:k < l.length)(h2:l.length≤n):(Zov l n k)[k]? =some 0:=by
 unfold Zov;have h3:(l.take k).length=k:=by simp;omega
 rw[yat (by omega),h3,List.getElem?_replicate];simp;omega
theorem ZDo{l:List UInt8}{n k:Nat}{d:UInt8}(hx:l[k]? =some d)(h2:l.length≤n):(Zov l n k).set k d=Zov l n (k+1):=by
 have h:k < l.length:=(yr.1 hx).1;have h3:(l.take k).length=k:=by simp;omega
 unfold Zov;rw[ZeW hx,List.set_append_right _ _ (by omega),h3,Nat.sub_self];have e:n - k=(n - (k+1))+1:=by omega
 rw[e,List.replicate_succ];simp
theorem ZDp{l:List UInt8}{n:Nat}(h:l.length=n):Zov l n n=l:=by
 unfold Zov;rw[←h];simp
def Zpw(n:Nat):List UInt8:=(List.range 8).map λi=>yau (n / 2 ^ (56 - 8*i))
theorem Zae(n:Nat):(Zpw n).length=8:=by simp[Zpw]
theorem ZyW(n:Nat){k:Nat}(hk:k < 8):(Zpw n)[k]? =some (yau (n / 2 ^ (56 - 8*k))):=by simp[Zpw,hk]
theorem ZF1(x:UInt64){m:Nat}:w8 ((ZG x m).toNat:Int)=yau (x.toNat / 2 ^ m):=by
 unfold w8 ZG;have h:x.toNat / 2 ^ m < 18446744073709551616:=Nat.lt_of_le_of_lt (Nat.div_le_self ..) (ybr _);rw[yba,yah h];apply UInt8.toNat_inj.1;rw[UInt8.toNat_ofNat',UInt8.toNat_ofNat'];omega
theorem Zvb{b:List UInt8}(x:UInt64)(hb:b.length≤1000000):Zbr fuel b x=some (b++Zpw x.toNat):=by
 unfold Zbr
 rw[show(b,x,(0:Int),([0,0,0,0,0,0,0,0]:List UInt8))=(λk:Nat=>(b,x,(k:Int),Zov (Zpw x.toNat) 8 k)) 0 from rfl,
  Z4 (x:=(b,Zpw x.toNat)) 8 (λk:Nat=>(b,x,(k:Int),Zov (Zpw x.toNat) 8 k)) ?_ ?_ (by omega),ya]
 ·dsimp only;rw[Zw6 (by rw[Zae];omega),ya]
 ·intro k hk;unfold Zap;dsimp only;have hl:=Zae x.toNat
  rw[if_pos (decide_eq_true (by omega)),ZD (z:=8*(k:Int)) (by omega) (by omega),ZD (z:=56 - 8*(k:Int)) (by omega) (by omega),if_pos (decide_eq_true (by omega)),if_pos (Xf (by omega) (by omega)),
   ybq,ZDn (by omega) (by omega),ya,Zr (by omega)]
  have e:min (56 - 8*(k:Int)).toNat 64=56 - 8*k:=by omega
  rw[e,ZF1,ZDo (ZyW _ hk) (by omega)]
 ·unfold Zap;dsimp only;rw[if_neg (by simp),ZDp (Zae _)]
def ZDq(b:ZM):Prop:=b.1.length≤12∧0≤b.2.1∧b.2.1≤1048576∧0≤b.2.2.1∧b.2.2.1≤1048576
def ZDr(b:ZM):Prop:=(∀p,p∈b.1→Q7 p.toNat)∧(b.2.2.2≠0→Q7 b.2.2.2.toNat)
def LockOk(l:Lock):Prop:=0 < l.length∧l.length≤4∧∀b,b∈l→ZDq b
def LockPt(l:Lock):Prop:=∀b,b∈l→ZDr b
theorem ZAI(p:UInt64):VX fuel p=some (!decide (Q7 p.toNat)):=by
 unfold VX;rw[Zad,ya]
theorem ZF2{p:UInt64}(h:Q7 p.toNat):VX fuel p=some false:=by rw[ZAI,decide_eq_true h];rfl
theorem ZKF{l:List UInt64}(hl:l.length≤12)(h:∀p,p∈l→Q7 p.toNat):Zcp fuel l=some false:=by
 unfold Zcp Zbl
 rw[show(l,(l.length:Int),(0:Int))=(λk:Nat=>(l,(l.length:Int),(k:Int))) 0 from rfl,
  Z4 (x:=.inr ()) l.length (λk:Nat=>(l,(l.length:Int),(k:Int))) ?_ ?_ (by omega),ya]
 ·rfl
 ·intro k hk;obtain⟨e,he,hm⟩:=Zl hk;unfold Xj;dsimp only;rw[if_pos (Yk hk),Zu he,ya,ZF2 (h e hm),ya,Zr (by omega)];rfl
 ·unfold Xj;dsimp only;rw[if_neg (by rw[Z2];decide)]
theorem Zvc{z:Int}(h0:0≤z)(h1:z≤1048576):VC fuel z=some true:=by
 unfold VC;rw[if_pos (decide_eq_true h0),decide_eq_true h1]
theorem ZcD{l:Lock}(h:LockOk l)(hp:LockPt l):Y6 fuel l=some true:=by
 unfold Y6;obtain⟨h0,h1,h2⟩:=h
 rw[show(l,(l.length:Int),(0:Int),l)=(λk:Nat=>(l,(l.length:Int),(k:Int),l)) 0 from rfl,
  Z4 (x:=.inr l) l.length (λk:Nat=>(l,(l.length:Int),(k:Int),l)) ?_ ?_ (by omega),ya]
 ·dsimp only;rw[if_pos (decide_eq_true (by omega)),decide_eq_true (by omega)]
 ·intro k hk;obtain⟨e,he,hm⟩:=Zl hk;obtain⟨e1,e2,e3,e4,e5⟩:=h2 e hm;obtain⟨p1,p2⟩:=hp e hm;unfold Wm;dsimp only;rw[if_pos (Yk hk),Zu he,ya,if_neg (ynd (by omega)),ZKF e1 p1,ya,Zvc e2 e3,ya,Zvc e4 e5,ya,Zr (by omega),if_neg (by decide),if_neg (by decide),if_neg (by decide)];by_cases hz:e.2.2.2=0
  ·rw[if_neg (by simp[hz])]
  ·rw[if_pos (by simp[hz]),ZF2 (p2 hz),ya,if_neg (by decide)]
 ·unfold Wm;dsimp only;rw[if_neg (by rw[Z2];decide)]
def TxWf(t:Tx):Prop:=(∀x,x∈t.1→x.1.1.length=32)∧t.2.2≤9223372036854775807
def ZJD(x:In):Prop:=0≤x.1.2∧x.1.2 < 64∧0≤x.2.1∧x.2.1 < 4∧x.2.2.1.length≤12
def Zts(o:Out):Prop:=0≤o.1∧o.1≤1125899906842624∧LockOk o.2∧LockPt o.2
def TxOk(t:Tx):Prop:=0 < t.1.length∧t.1.length≤64∧t.2.1.length≤64∧0≤t.2.2∧(∀x,x∈t.1→ZJD x)∧∀o,o∈t.2.1→Zts o
def cat{α:Type}(f:α→List UInt8)(l:List α):List UInt8:=(l.map f).flatten
theorem Zow{α:Type}{f:α→List UInt8}{l:List α}{k:Nat}{e:α}(h:l[k]? =some e):cat f (l.take (k+1))=cat f (l.take k)++f e:=by
 unfold cat
 rw[ZeW h,yax,List.flatten_append];simp
theorem ZyX{α:Type}{f:α→List UInt8}{l:List α}{e:α}:cat f (e::l)=f e++cat f l:=rfl
theorem Zw7{α:Type}{f:α→List UInt8}{c:Nat}:∀{l:List α},(∀x,x∈l→(f x).length≤c)→(cat f l).length≤l.length*c
 |[],_=>by simp[cat]
 |e::l,h=>by
  have h1:=h e (yav ..);have h2:=Zw7 (l:=l) λx hx=>h x (yaw _ hx);rw[ZyX,yp,yag,Nat.succ_mul];omega
theorem Zk3{α:Type}{f:α→List UInt8}{c n:Nat}{l:List α}(h:∀x,x∈l→(f x).length≤c)(hn:l.length≤n)(k:Nat):(cat f (l.take k)).length≤n*c:=by
 refine Nat.le_trans (Zw7 λx hx=>h x (yby hx)) (Nat.mul_le_mul_right c ?_);rw[yai];omega
def Ztt(p:UInt64):List UInt8:=Zpw p.toNat
def brF(b:ZM):List UInt8:=WX b.1.length++(cat Ztt b.1++(WX b.2.1.toNat++(WX b.2.2.1.toNat++Zpw b.2.2.2.toNat)))
def WY(l:Lock):List UInt8:=WX l.length++cat brF l
theorem Ztu{l:List UInt64}(h:l.length≤12)(k:Nat):(cat Ztt (l.take k)).length≤96:=Zk3 (c:=8) (λx _=>Nat.le_of_eq (Zae _)) h k
theorem Zw8{b:ZM}(h:b.1.length≤12∧0≤b.2.1∧b.2.1≤1048576∧0≤b.2.2.1∧b.2.2.1≤1048576):(brF b).length≤131:=by
 have h1:=Ztu h.1 b.1.length;rw[ybl] at h1;have h2:=YL (n:=b.1.length) (by omega);have h3:=YL (n:=b.2.1.toNat) (by omega);have h4:=YL (n:=b.2.2.1.toNat) (by omega);have h5:=Zae b.2.2.2.toNat
 unfold brF;simp only[yp];omega
theorem Za1{l:Lock}(h:LockOk l):(WY l).length≤533:=by
 have h1:=Zk3 (f:=brF) (c:=131) (λx hx=>Zw8 (h.2.2 x hx)) h.2.1 l.length;rw[ybl] at h1;have h2:=YL (n:=l.length) (by have:=h.2.1;omega);unfold WY;rw[yp];omega
theorem ZDs{c:List UInt8}(hc:c.length≤100000){bs:List ZM}{n i:Int}{ks:List UInt64}{l:Lock}{e:ZM}(hk:ks.length≤12):
 Zc (Qw fuel) fuel (c,bs,n,i,ks,(ks.length:Int),(0:Int),l,e)=some (c++cat Ztt ks,bs,n,i,l,e):=by
 rw[show(c,bs,n,i,ks,(ks.length:Int),(0:Int),l,e)=(λk:Nat=>(c++cat Ztt (ks.take k),bs,n,i,ks,(ks.length:Int),(k:Int),l,e)) 0 by simp[cat]];refine Z4 ks.length (λk:Nat=>(c++cat Ztt (ks.take k),bs,n,i,ks,(ks.length:Int),(k:Int),l,e)) ?_ ?_ (by omega)
 ·intro k hk2;obtain⟨e,he,_⟩:=Zl hk2;have hl:=Ztu hk k;unfold Qw;dsimp only;rw[if_pos (Yk hk2),Zu he,ya,Zvb _ (by rw[yp];omega),ya,Zr (by omega),Zow he,yaj];rfl
 ·unfold Qw;dsimp only;rw[if_neg (by rw[Z2];decide),ybl]
theorem ZcE{l:Lock}(h:LockOk l)(hp:LockPt l):Vu fuel l=some (WY l):=by
 unfold Vu;have h0:=h.2.1;have h9:=YL (n:=l.length) (by omega);rw[ZcD h hp,ya,if_neg (by decide),Zi0 (by omega) (by omega) (by simp),ya,List.nil_append,ybq]
 rw[show(WX l.length,l,(l.length:Int),(0:Int),l)=(λk:Nat=>(WX l.length++cat brF (l.take k),l,(l.length:Int),(k:Int),l)) 0 by simp[cat],
  Z4 (x:=(WY l,l)) l.length (λk:Nat=>(WX l.length++cat brF (l.take k),l,(l.length:Int),(k:Int),l)) ?_ ?_ (by omega),ya]
 ·intro k hk;obtain⟨e,he,hm⟩:=Zl hk;obtain⟨e1,e2,e3,e4,e5⟩:=h.2.2 e hm;have hl:=Zk3 (f:=brF) (c:=131) (λx hx=>Zw8 (h.2.2 x hx)) h.2.1 k;have hr:=YL (n:=e.1.length) (by omega);have hr2:=YL (n:=e.2.1.toNat) (by omega);have hr3:=YL (n:=e.2.2.1.toNat) (by omega);have hk8:=Ztu e1 e.1.length;rw[ybl] at hk8;unfold Zbs;dsimp only
  rw[if_pos (Yk hk),Zu he,ya,Zi0 (by omega) (by omega) (by rw[yp];omega),ya,ybq,
   ZDs (by simp only[yp];omega) e1,ya]
  dsimp only
  rw[Zi0 e2 (by omega) (by simp only[yp];omega),ya,Zi0 e4 (by omega) (by simp only[yp];omega),ya,
   Zvb _ (by simp only[yp];omega),ya,Zr (by omega),Zow he]
  unfold brF;simp only[yaj]
 ·unfold Zbs;dsimp only;rw[if_neg (by rw[Z2];decide),ybl];rfl
def inF(x:In):List UInt8:=x.1.1++WX x.1.2.toNat
def ZyY(o:Out):List UInt8:=WX o.1.toNat++(WX (WY o.2).length++WY o.2)
def plainF(t:Tx):List UInt8:=WX t.1.length++(cat inF t.1++(WX t.2.1.length++(cat ZyY t.2.1++WX t.2.2.toNat)))
theorem ZHF{x:In}(h:x.1.1.length=32)(k:ZJD x):(inF x).length≤41:=by
 have:=YL (n:=x.1.2.toNat) (by have:=k.2.1;omega);unfold inF;rw[yp];omega
theorem ZF3{o:Out}(k:Zts o):(ZyY o).length≤551:=by
 have h1:=Za1 k.2.2.1;have h2:=YL (n:=o.1.toNat) (by have:=k.2.1;omega);have h3:=YL (n:=(WY o.2).length) (by omega);unfold ZyY;simp only[yp];omega
theorem ZF4{t:Tx}(hw:TxWf t)(h:TxOk t):Zlw fuel t=some (plainF t)∧(plainF t).length≤40000:=by
 obtain⟨ins,outs,note⟩:=t;obtain⟨w2,w3⟩:=hw;obtain⟨h1,h2,h3,h4,h5,h6⟩:=h;dsimp only at w2 w3 h1 h2 h3 h4 h5 h6;have li:=λk=>Zk3 (f:=inF) (c:=41) (λx hx=>ZHF (w2 x hx) (h5 x hx)) h2 k;have lo:=λk=>Zk3 (f:=ZyY) (c:=551) (λx hx=>ZF3 (h6 x hx)) h3 k;have li1:=li ins.length;have lo1:=lo outs.length;rw[ybl] at li1 lo1;have r1:=YL (n:=ins.length) (by omega);have r2:=YL (n:=outs.length) (by omega);have r3:=YL (n:=note.toNat) (by omega);refine⟨?_,by unfold plainF;simp only[yp];omega⟩;unfold Zlw;dsimp only;rw[Zi0 (by omega) (by omega) (by simp),ya,List.nil_append,ybq]
 rw[show(WX ins.length,ins,(ins.length:Int),(0:Int),(ins,outs,note))=(λk:Nat=>(WX ins.length++cat inF (ins.take k),ins,(ins.length:Int),(k:Int),(ins,outs,note))) 0 by simp[cat],
  Z4 (x:=(WX ins.length++cat inF ins,(ins,outs,note))) ins.length (λk:Nat=>(WX ins.length++cat inF (ins.take k),ins,(ins.length:Int),(k:Int),(ins,outs,note))) ?_ ?_ (by omega),ya]
 ·dsimp only;rw[Zi0 (by omega) (by omega) (by rw[yp];omega),ya,ybq];generalize hp:WX ins.length++cat inF ins++WX outs.length=pre;have hpl:pre.length≤3000:=by rw[←hp];simp only[yp];omega
  rw[show(pre,outs,(outs.length:Int),(0:Int),(ins,outs,note))=(λk:Nat=>(pre++cat ZyY (outs.take k),outs,(outs.length:Int),(k:Int),(ins,outs,note))) 0 by simp[cat],
   Z4 (x:=(pre++cat ZyY outs,(ins,outs,note))) outs.length (λk:Nat=>(pre++cat ZyY (outs.take k),outs,(outs.length:Int),(k:Int),(ins,outs,note))) ?_ ?_ (by omega),ya]
  ·dsimp only;rw[Zi0 h4 w3 (by rw[yp];omega),ya, ←hp];unfold plainF;simp only[yaj]
  ·intro k hk;obtain⟨e,he,hm⟩:=Zl hk;have hlk:=lo k;have hok:=h6 e hm;have hlo:=hok.2.2.1;have hll:=Za1 hlo;have hrl:=YL (n:=e.1.toNat) (by have:=hok.2.1;omega);unfold ZeS;dsimp only
   rw[if_pos (Yk hk),Zu he,ya,Zi0 hok.1 (by have:=hok.2.1;omega) (by rw[yp];omega),ya,ZcE hok.2.2.1 hok.2.2.2,ya,
    ZyV (by simp only[yp];omega) (by omega),ya,Zr (by omega),Zow he]
   unfold ZyY;simp only[yaj]
  ·unfold ZeS;dsimp only;rw[if_neg (by rw[Z2];decide),ybl]
 ·intro k hk;obtain⟨e,he,hm⟩:=Zl hk;have hlk:=li k;have h32:=w2 e hm;have hok:=h5 e hm;unfold ZeR;dsimp only
  rw[if_pos (Yk hk),Zu he,ya,ZAH (by rw[yp];omega) (by omega),ya,Zi0 hok.1 (by have:=hok.2.1;omega) (by simp only[yp];omega),ya,
   Zr (by omega),Zow he]
  unfold inF;simp only[yaj]
 ·unfold ZeR;dsimp only;rw[if_neg (by rw[Z2];decide),ybl]
def amts(l:List Out):Int:=(l.map (·.1)).sum
theorem Zvd{l:List Out}{k:Nat}{e:Out}(h:l[k]? =some e):amts (l.take (k+1))=amts (l.take k)+e.1:=by
 unfold amts;rw[ZeW h,yax,List.sum_append];simp
theorem ZF5:∀{l:List Int},(∀x,x∈l→0≤x)→0≤l.sum
 |[],_=>by simp
 |x::r,h=>by
  have:=ZF5 (l:=r) λy hy=>h y (yaw _ hy);have:=h x (yav ..);rw[List.sum_cons];omega
theorem ZB0{l:List Out}(h:∀o,o∈l→Zts o)(k:Nat):0≤amts (l.take k)∧amts (l.take k)≤amts l:=by
 have h1:∀(l:List Out),(∀o,o∈l→Zts o)→0≤amts l:=λl h=>ZF5 λx hx=>by
  obtain⟨o,ho,rfl⟩:=List.mem_map.1 hx;exact(h o ho).1
 refine⟨h1 _ λo ho=>h o (yby ho), ?_⟩;have:=h1 (l.drop k) λo ho=>h o (List.mem_of_mem_drop ho)
 have e:amts l=amts (l.take k)+amts (l.drop k):=by
  unfold amts;rw[←List.sum_append, ←yax,ybn]
 omega
theorem ZyZ{z:Int}(h0:0≤z)(h1:z≤1125899906842624):Zfx fuel z=some true:=by
 unfold Zfx;rw[if_pos (decide_eq_true h0),decide_eq_true h1]
theorem ZB1{a b:Int}(h0:0≤a)(h1:0≤b)(h2:a+b≤1125899906842624):ZhG fuel a b=some (a+b,true):=by
 unfold ZhG;rw[ZyZ h0 (by omega),ya,if_neg (by decide),ZyZ h1 (by omega),ya,if_neg (by decide),ZD (z:=1125899906842624 - b) (by omega) (by omega),ZD (z:=a+b) (by omega) (by omega),if_neg (ynd (by omega))]
theorem ZAJ{x:In}(h:ZJD x):Zdh fuel x.2=some true:=by
 obtain⟨_,_,h1,h2,h3⟩:=h;unfold Zdh;rw[if_pos (decide_eq_true h1),if_pos (decide_eq_true h2),decide_eq_true (by omega)]
theorem ZF6{x:In}{outs:List Out}{note:Int}(h:TxOk ([x],outs,note))(hs:amts outs≤1125899906842624):ZhM fuel ([x],outs,note)=some true:=by
 obtain⟨h1,h2,h3,h4,h5,h6⟩:=h;dsimp only at h3 h4 h5 h6;have hx:=h5 x (List.mem_singleton.2 rfl);unfold ZhM;dsimp only;rw[if_neg (by simp),if_neg (by simp),if_neg (ynd (by omega)),if_neg (ynd (by omega))]
 obtain⟨y,g1,m,rfl⟩:=Z8 (step:=Zbx fuel) 1 (λk s=>∃m,s=([x],(1:Int),(k:Int),([x],outs,note),m)∧(k=0→m=[])) (λy=>∃m,y=.inr (([x],outs,note),m)) (i:=([x],(([x]:List In).length:Int),(0:Int),([x],outs,note),([]:List (Xw×Bool)))) ⟨_,rfl,λ_=>rfl⟩ (by omega) (by
  rintro k _ hk ⟨m,rfl,hm⟩;left;have e:k=0:=by omega
  subst e;rw[hm rfl];unfold Zbx;dsimp only;have e1:ZvK ([]:List (Xw×Bool)) x.1=none:=rfl;rw[if_pos (decide_eq_true (by omega)),Zu (show([x]:List In)[0]? =some x from rfl),ya,e1]
  unfold ZBg;dsimp only;rw[if_neg (by rw[decide_eq_true_iff];have:=hx.1;omega),if_neg (by rw[decide_eq_true_iff];have:=hx.2.1;omega),ZAJ hx,ya,if_neg (by decide)];exact⟨_,rfl,_,rfl,λh=>by omega⟩) (by
  rintro _ ⟨m,rfl,hm⟩;unfold Zbx;dsimp only;rw[if_neg (ynd (by omega))];exact⟨_,rfl,_,rfl⟩)
 rw[g1,ya];dsimp only
 rw[show((0:Int),outs,(outs.length:Int),(0:Int),([x],outs,note),m)=(λk:Nat=>(amts (outs.take k),outs,(outs.length:Int),(k:Int),([x],outs,note),m)) 0 from rfl,
  Z4 (x:=.inr (([x],outs,note),m)) outs.length (λk:Nat=>(amts (outs.take k),outs,(outs.length:Int),(k:Int),([x],outs,note),m)) ?_ ?_ (by omega),ya]
 ·intro k hk;obtain⟨e,he,hm⟩:=Zl hk;obtain⟨o1,o2,o3,o4⟩:=h6 e hm;have hk1:=ZB0 h6 k;have hk2:=ZB0 h6 (k+1);rw[Zvd he] at hk2;unfold ZeM;dsimp only;rw[if_pos (Yk hk),Zu he,ya,ZB1 hk1.1 o1 (by omega),ya,ZcD o3 o4,ya,Zr (by omega),Zvd he];rfl
 ·unfold ZeM;dsimp only;rw[if_neg (by rw[Z2];decide)]
noncomputable def named(b:List UInt8):List UInt8:=(Zcw fuel ZFO [b]).getD []
theorem Zve{x:In}{outs:List Out}{note:Int}(hw:TxWf ([x],outs,note))(h:TxOk ([x],outs,note))(hs:amts outs≤1125899906842624):Zd0 fuel ([x],outs,note)=some (named (plainF ([x],outs,note)))∧(named (plainF ([x],outs,note))).length=32:=by
 unfold Zd0;obtain⟨p1,p2⟩:=ZF4 hw h;obtain⟨o,h1,h2⟩:=Zw5 (s:=ZFO) (ls:=[plainF ([x],outs,note)]) (by decide) (by simp) (by intro y hy;rw[List.mem_singleton.1 hy];omega);rw[ZF6 h hs,ya,if_neg (by decide),p1,ya];unfold named;rw[h1,ya];exact⟨rfl,h2⟩
def Tm(d:Int):Zbi:=(100,200,d,16,1,1125899906842624)
noncomputable def ZJ(k:Kit):QZ:=(B k.1.toNat,B k.2.1.toNat,B k.2.2.1.toNat,B k.2.2.2.1.toNat,B k.2.2.2.2.1.toNat)
def KitOk(k:Kit):Prop:=Key k.1∧Key k.2.1∧Key k.2.2.1∧Key k.2.2.2.1∧Key k.2.2.2.2.1
def z32:List UInt8:=yzz
noncomputable def Z9(A:Int)(k0 k1:Kit)(op:Int):ZH:=((z32,0),A,[ZJ k0,ZJ k1],[Tm 5,Tm 6],op)
structure ChOk(A:Int)(k0 k1:Kit)(op:Int):Prop where
 lo:20000≤A
 hi:A≤4300000000
 o:op=0∨op=1
 k0:KitOk k0
 k1:KitOk k1
theorem ZB2{k:UInt64}(h:Key k):B k.toNat≠1:=ZLs h.1 h.2
theorem ZJE{k:UInt64}(h:Key k):Qb fuel (B k.toNat)=some true:=by
 unfold Qb;rw[Zpu,ya,if_pos (decide_eq_true (Zud _))];exact congrArg some (bne_iff_ne.2 (ZB2 h))
theorem Zm5{k:Kit}(h:KitOk k):∀p,p∈[(ZJ k).1,(ZJ k).2.1,(ZJ k).2.2.1,(ZJ k).2.2.2.1,(ZJ k).2.2.2.2]→∃x:UInt64,Key x∧p=B x.toNat:=by
 obtain⟨h1,h2,h3,h4,h5⟩:=h;intro p hp;simp only[List.mem_cons,List.not_mem_nil,or_false] at hp;rcases hp with rfl|rfl|rfl|rfl|rfl
 ·exact⟨_,h1,rfl⟩
 ·exact⟨_,h2,rfl⟩
 ·exact⟨_,h3,rfl⟩
 ·exact⟨_,h4,rfl⟩
 ·exact⟨_,h5,rfl⟩
theorem rin{z a b:Int}(h1:a≤z)(h2:z≤b):ZX fuel z a b=some true:=by
 unfold ZX;rw[if_pos (decide_eq_true h1),decide_eq_true h2]
theorem Zy0{z a b:Int}(h1:a≤z)(h2:z≤b):Yd fuel z a b=some true:=by
 unfold Yd;rw[if_pos (decide_eq_true h1),decide_eq_true h2]
theorem ZF7{d:Int}(h1:1≤d)(h2:d≤4096):Vg fuel (Tm d)=some true:=by
 unfold Vg Tm;dsimp only;rw[rin (by omega) (by omega),ya,if_pos rfl,rin (by omega) (by omega),ya,if_pos rfl,rin h1 h2,ya,if_pos rfl,rin (by omega) (by omega),ya,if_pos rfl,rin (by omega) (by omega),ya,if_pos rfl,rin (by omega) (by omega)];rfl
theorem Zvf(i:Int)(ch:ZH)(b:QZ){l:List UInt64}(hl:l.length=5)(h:∀p,p∈l→∃x:UInt64,Key x∧p=B x.toNat):Zc (XQ fuel) fuel (i,l,(0:Int),ch,b)=some (.inr (i,ch,b)):=by
 refine Z4 5 (λk:Nat=>(i,l,(k:Int),ch,b)) ?_ ?_ (by omega)
 ·intro k hk;obtain⟨e,he,hm⟩:=Zl (l:=l) (k:=k) (by omega);obtain⟨x,hx,rfl⟩:=h e hm;unfold XQ;dsimp only;rw[if_pos (decide_eq_true (by omega)),Zu he,ya,ZJE hx,ya,if_neg (by decide),Zr (by omega)]
 ·unfold XQ;dsimp only;rw[if_neg (ynd (by omega))]
theorem ZLu{A:Int}{k0 k1:Kit}{op:Int}(h:ChOk A k0 k1 op):Qc fuel (Z9 A k0 k1 op)=some 0:=by
 obtain⟨h1,h2,h3,h4,h5⟩:=h;have hA:(Z9 A k0 k1 op).2.1=A:=rfl;have hN:(Z9 A k0 k1 op).1.2=0:=rfl;have hO:(Z9 A k0 k1 op).2.2.2.2=op:=rfl;have hT:(Z9 A k0 k1 op).2.2.2.1=[Tm 5,Tm 6]:=rfl;have hB:(Z9 A k0 k1 op).2.2.1=[ZJ k0,ZJ k1]:=rfl;unfold Qc;rw[hA,hN,hO,rin (by omega) (by omega),ya,if_neg (by decide),rin (by omega) (by omega),ya,if_neg (by decide),rin (by omega) (by omega),ya,if_neg (by decide)];generalize hc:Z9 A k0 k1 op=c at*;rw[show((0:Int),c)=(λk:Nat=>((k:Int),c)) 0 from rfl,Z4 (x:=.inr c) 2 (λk:Nat=>((k:Int),c)) ?_ ?_ (by omega),ya]
 ·dsimp only;rw[hT];show(if decide (wi (200+200) > c.2.1)=true then some (10:Int) else some 0)=some 0
  rw[hA,ZD (by omega) (by omega),if_neg (ynd (by omega))]
 ·intro k hk;unfold WV;dsimp only;rw[if_pos (decide_eq_true (by omega)),if_pos (Xf (by omega) (by omega)),ybq,hB,hT]
  match k,hk with
  |0,_=>
   show(ybu (some (ZJ k0)) _)=_;rw[ya,if_pos (by decide)];show(ybu (some (Tm 5)) _)=_;rw[ya,ZF7 (by omega) (by omega),ya,if_neg (by decide),Zvf _ _ _ rfl (Zm5 h4),ya]
   rfl
  |1,_=>
   show(ybu (some (ZJ k1)) _)=_;rw[ya,if_pos (by decide)];show(ybu (some (Tm 6)) _)=_;rw[ya,ZF7 (by omega) (by omega),ya,if_neg (by decide),Zvf _ _ _ rfl (Zm5 h5),ya];rfl
 ·unfold WV;dsimp only;rw[if_neg (ynd (by omega))]
def CondIn(c:Cond):Prop:=(c.1=0∨c.1=1)∧1≤c.2.1∧c.2.1≤1048576∧1≤c.2.2.1∧c.2.2.1≤65536∧Q7 c.2.2.2.1.toNat∧c.2.2.2.1≠1∧1≤c.2.2.2.2∧c.2.2.2.2≤65536
def Ahd(a b:Cond):Prop:=a.1 < b.1∨a.1=b.1∧a.2.1 < b.2.1
instance(a b:Cond):Decidable (Ahd a b):=by unfold Ahd;infer_instance
theorem ZDt{a b c:Cond}(h:Ahd a b)(k:Ahd b c):Ahd a c:=by unfold Ahd at*;omega
theorem ZJF{a b:Cond}(h:a.2.1≠b.2.1)(k:¬Ahd a b):Ahd b a:=by unfold Ahd at*;omega
theorem Zvg(a b:Cond):X5 fuel a b=some (decide (Ahd a b)):=by
 unfold X5;by_cases h1:a.1 < b.1
 ·rw[if_pos (decide_eq_true h1),decide_eq_true (p:=Ahd a b) (Or.inl h1)]
 ·rw[if_neg (by rw[decide_eq_true_iff];exact h1)];by_cases h2:a.1=b.1
  ·rw[if_pos (by rw[h2];exact beq_self_eq_true _)];congr 1;rw[decide_eq_decide];unfold Ahd;omega
  ·rw[if_neg (by rw[beq_iff_eq];exact h2),decide_eq_false (p:=Ahd a b) (by unfold Ahd;omega)]
theorem ZIa{c:Cond}(h:CondIn c):Wq fuel c=some true:=by
 obtain⟨h1,h2,h3,h4,h5,h6,h7,h8,h9⟩:=h;unfold Wq;rw[Zpu,ya,if_pos (decide_eq_true h6),if_pos (bne_iff_ne.2 h7),Zy0 (by omega) (by omega),ya,if_pos rfl,Zy0 h2 h3,ya,if_pos rfl,Zy0 h4 (by omega),ya,if_pos rfl,Zy0 h8 (by omega)];rfl
def amtC(l:List Cond):Int:=(l.map (·.2.2.1)).sum
theorem Zvh{l:List Cond}{k:Nat}{e:Cond}(h:l[k]? =some e):amtC (l.take (k+1))=amtC (l.take k)+e.2.2.1:=by
 unfold amtC;rw[ZeW h,yax,List.sum_append];simp
theorem Zlz{l:List Cond}(h:∀c,c∈l→CondIn c):0≤amtC l∧amtC l≤65536*(l.length:Int):=by
 induction l with
 |nil=>exact⟨Int.le_refl _,Int.le_refl _⟩
 |cons c r ih=>
  obtain⟨h1,h2⟩:=ih λx hx=>h x (yaw _ hx);have hc:=h c (yav ..);have e:amtC (c::r)=c.2.2.1+amtC r:=rfl;rw[e,yag];have:=hc.2.2.2.1;have:=hc.2.2.2.2.1;omega
theorem Ztv{l:List Cond}(h:∀c,c∈l→CondIn c)(k:Nat):0≤amtC (l.take k)∧amtC (l.take k)≤65536*(l.length:Int):=by
 have h1:=Zlz (l:=l.take k) λc hc=>h c (yby hc);rw[yai] at h1;omega
structure StIn(A:Int)(s:State)(h0 h1:Int):Prop where
 n0:0≤s.1
 n1:s.1≤65535
 hv:s.2.1=[h0,h1]
 p0:0≤h0
 p1:0≤h1
 r0:0≤s.2.2.2
 r1:s.2.2.2≤7
 len:s.2.2.1.length≤16
 cs:∀c,c∈s.2.2.1→CondIn c
 srt:s.2.2.1.Pairwise Ahd
 tot:h0+h1+amtC s.2.2.1=A
def cost(r:Int)(n:Nat):Int:=r*(68+8*(n:Int))+660
theorem Zw9{r m:Int}(h0:0≤r)(h1:r≤7)(h2:0≤m):0≤r*m∧r*m≤7*m:=⟨Int.mul_nonneg h0 h2,Int.mul_le_mul_of_nonneg_right h1 h2⟩
theorem Zox{r:Int}{n:Nat}(h0:0≤r)(h1:r≤7)(h2:n≤16):660≤cost r n∧cost r n≤2032:=by
 have:=Zw9 (m:=68+8*(n:Int)) h0 h1 (by omega);unfold cost;omega
theorem ZKG{r:Int}{n:Nat}(h0:0≤r)(h1:r≤7)(h2:n≤16):Qe fuel r (n:Int)=some (r*(68+8*(n:Int))):=by
 have:=Zw9 (m:=68+8*(n:Int)) h0 h1 (by omega);unfold Qe;rw[rin h0 (by omega),ya,if_neg (by decide)];unfold QG;rw[rin (by omega) (by omega),ya,if_neg (by decide),ya,ZD (z:=4+(n:Int)) (by omega) (by omega),ZD (z:=(4+(n:Int))*8) (by omega) (by omega),ZD (z:=36+(4+(n:Int))*8) (by omega) (by omega),show 36+(4+(n:Int))*8=68+8*(n:Int) by omega,ZD (by omega) (by omega)]
theorem ZKH{A:Int}{s:State}{h0 h1:Int}(h:StIn A s h0 h1)(ch:ZH):Y3 fuel ch s=some (cost s.2.2.2 s.2.2.1.length):=by
 have:=Zox h.r0 h.r1 h.len;unfold Y3;unfold cost at*;rw[ZKG h.r0 h.r1 h.len,ya,ZD (by omega) (by omega)]
theorem ZJG{A:Int}{s:State}{h0 h1:Int}(h:StIn A s h0 h1)(hA:A≤4300000000):Vh fuel s=some A:=by
 obtain⟨no,hv,l,r⟩:=s;obtain⟨_,_,hh,p0,p1,_,_,hl,hc,_,ht⟩:=h;dsimp only at hh hl hc ht;subst hh;unfold Vh;show ybu (some h0) _=_;rw[ya];show ybu (some h1) _=_;have hb:=λk=>Ztv hc k;have hb':=Zlz hc
 rw[ya,ZD (z:=h0+h1) (by omega) (by omega),show(h0+h1,(0:Int),(no,[h0,h1],l,r))=(λk:Nat=>(h0+h1+amtC (l.take k),(k:Int),(no,[h0,h1],l,r))) 0 by simp[amtC],
  Z4 (x:=(A,(no,[h0,h1],l,r))) l.length (λk:Nat=>(h0+h1+amtC (l.take k),(k:Int),(no,[h0,h1],l,r))) ?_ ?_ (by omega),ya]
 ·intro k hk;obtain⟨e,he,hm⟩:=Zl hk;have h1:=hb k;have h2:=hb (k+1);have h3:=Zvh he;unfold X9;dsimp only;rw[if_pos (Yk hk),Zu he,ya,ZD (by omega) (by omega),Zr (by omega),h3,Int.add_assoc]
 ·unfold X9;dsimp only;rw[if_neg (by rw[Z2];decide),ybl,ht]
theorem ZKI{A:Int}{s:State}{h0 h1:Int}(h:StIn A s h0 h1){to:Int}(ht:to=0∨to=1):∃n m,XC fuel s to=some (n,m)∧0≤n∧n≤16∧0≤m∧m≤2000000:=by
 obtain⟨no,hv,l,r⟩:=s;have hl:=h.len;have hc:=h.cs;dsimp only at hl hc;unfold XC
 obtain⟨x,g1,n,m,rfl,g2⟩:=Z8 (step:=YW fuel) l.length (λk q=>∃n m,q=(to,n,m,(k:Int),(no,hv,l,r))∧0≤n∧n≤(k:Int)∧0≤m∧m≤65536*(k:Int)) (λx=>∃n m,x=(n,m,(no,hv,l,r))∧0≤n∧n≤16∧0≤m∧m≤2000000) (i:=(to,(0:Int),(0:Int),(0:Int),(no,hv,l,r))) ⟨0,0,rfl,by omega⟩ (by omega) (by
  rintro k _ hk ⟨n,m,rfl,q⟩;left;obtain⟨e,he,hm⟩:=Zl hk;have h4:=(hc e hm).2.2.2.1;have h5:=(hc e hm).2.2.2.2.1;unfold YW;dsimp only;rw[if_pos (Yk hk),Zu he,ya,Zr (by omega)];split
  ·rw[ya,ZD (z:=n+1) (by omega) (by omega),ZD (z:=m+e.2.2.1) (by omega) (by omega)];exact⟨_,rfl,_,_,rfl,by omega⟩
  ·exact⟨_,rfl,_,_,rfl,by omega⟩) (by
  rintro _ ⟨n,m,rfl,q⟩;unfold YW;dsimp only;rw[if_neg (by rw[Z2];decide)];exact⟨_,rfl,_,_,rfl,by omega⟩)
 rw[g1,ya];exact⟨_,_,rfl,g2⟩
def hav(op h0 h1:Int):Int:=if op=0 then h0 else h1
theorem ZAK{i:Int}(h:i=0∨i=1):∃d,([Tm 5,Tm 6]:List Zbi)[(wi (1 - i)).toNat]? =some (Tm d):=by
 rcases h with rfl|rfl
 ·exact⟨6,rfl⟩
 ·exact⟨5,rfl⟩
theorem Zoy{i:Int}(h:i=0∨i=1):inB (wi (1 - i)) 2=true:=by
 rcases h with rfl|rfl <;> rfl
theorem XF{i:Int}(h:i=0∨i=1):inB i 2=true:=by
 rcases h with rfl|rfl <;> rfl
theorem ZeZ{op h0 h1:Int}(h:op=0∨op=1):([h0,h1]:List Int)[op.toNat]? =some (hav op h0 h1):=by
 rcases h with rfl|rfl <;> rfl
theorem Zvi{A:Int}{k0 k1:Kit}{op:Int}(h:ChOk A k0 k1 op){s:State}{h0 h1:Int}(hs:StIn A s h0 h1):Xr fuel (Z9 A k0 k1 op) s=some (decide (hav op h0 h1 ≥ cost s.2.2.2 s.2.2.1.length)):=by
 have hT:(Z9 A k0 k1 op).2.2.2.1=[Tm 5,Tm 6]:=rfl;have hA:(Z9 A k0 k1 op).2.1=A:=rfl;have hO:(Z9 A k0 k1 op).2.2.2.2=op:=rfl;have hlo:=h.lo;have hhi:=h.hi;have hco:=ZKH hs (Z9 A k0 k1 op);have hto:=ZJG hs h.hi;have hof:=λto ht=>ZKI hs (to:=to) ht;have hb:=Zlz hs.cs;unfold Xr;rw[ZLu h,ya,if_neg (by decide)];generalize hc:Z9 A k0 k1 op=c at*;obtain⟨no,hv,l,r⟩:=s;obtain⟨n0,n1,hh,p0,p1,r0,r1,hl,hcs,hsr,ht⟩:=hs;dsimp only at n0 n1 hh p0 p1 r0 r1 hl hcs hsr ht hb;subst hh;dsimp only;rw[Zy0 n0 (by omega),ya,if_neg (by decide)];show ybu (some h0) _=_;rw[ya,Zy0 p0 (by omega),ya,if_neg (by decide)];show ybu (some h1) _=_;rw[ya,Zy0 p1 (by omega),ya,if_neg (by decide),Zy0 r0 (by omega),ya,if_neg (by decide),if_neg (ynd (by omega))];rw[show((0:Int),c,(no,[h0,h1],l,r))=(λk:Nat=>((k:Int),c,(no,[h0,h1],l,r))) 0 from rfl,Z4 (x:=.inr (c,(no,[h0,h1],l,r))) l.length (λk:Nat=>((k:Int),c,(no,[h0,h1],l,r))) ?_ ?_ (by omega),ya]
 ·dsimp only;rw[show((0:Int),c,(no,[h0,h1],l,r))=(λk:Nat=>((k:Int),c,(no,[h0,h1],l,r))) 0 from rfl,Z4 (x:=.inr (c,(no,[h0,h1],l,r))) 2 (λk:Nat=>((k:Int),c,(no,[h0,h1],l,r))) ?_ ?_ (by omega),ya]
  ·dsimp only;rw[hto,ya,hA,if_pos (beq_self_eq_true _),hO,if_pos (XF h.o),ZeZ h.o,ya,hco,ya]
  ·intro k hk;obtain⟨n,m,e1,e2,e3,e4,e5⟩:=hof (k:Int) (by omega)
   have ht:∃d,c.2.2.2.1[k]? =some (Tm d):=by
    rw[hT]
    match k,hk with
    |0,_=>exact⟨_,rfl⟩
    |1,_=>exact⟨_,rfl⟩
   obtain⟨d,hd⟩:=ht;unfold Wb;dsimp only;rw[if_pos (decide_eq_true (by omega)),e1,ya,if_pos (Xf (by omega) (by omega)),ybq,hd,ya,ya,Zr (by omega)];rw[if_neg (by rw[decide_eq_true_iff];show¬n > 16;omega),if_pos (Xf (by omega) (by omega)),if_neg (by rw[decide_eq_true_iff];show¬m > 1125899906842624;omega)]
  ·unfold Wb;dsimp only;rw[if_neg (ynd (by omega))]
 ·intro k hk;obtain⟨e,he,hm⟩:=Zl hk;obtain⟨d,hd⟩:=ZAK (hcs e hm).1;have h4:=(hcs e hm).2.2.2.1;have hlt:¬(e.2.2.1 < (Tm d).2.2.2.2.1):=by show¬(e.2.2.1 < 1);omega
  unfold Wa;dsimp only;rw[if_pos (Yk hk),Zu he,ya,ZIa (hcs e hm),ya,if_neg (by decide)]
  have tail:((some e).bind λe169=>(some e).bind λe170=>if(inB (wi (1 - e170.1)) 2)=true then(c.2.2.2.1[(wi (1 - e170.1)).toNat]?).bind λe171=>if(decide (e169.2.2.1 < e171.2.2.2.2.1))=true then some (.inr (.inl (false,c,(no,[h0,h1],l,r)))) else some (.inl (wi ((k:Int)+1),c,(no,[h0,h1],l,r))) else none)=some (.inl (((k+1:Nat):Int),c,(no,[h0,h1],l,r)):(Int×ZH×State)⊕((Bool×ZH×State)⊕(ZH×State))):=by
   rw[ya,ya,if_pos (Zoy (hcs e hm).1),hT,hd,ya,if_neg (by rw[decide_eq_true_iff];exact hlt),Zr (by omega)]
  by_cases h0:k=0
  ·subst h0;rw[if_neg (ynd (by omega))];exact tail
  ·obtain⟨f,hf,hfm⟩:=Zl (l:=l) (k:=k - 1) (by omega)
   have hah:Ahd f e:=by
    have h7:=List.pairwise_iff_getElem.1 hsr (k - 1) k (by omega) hk (by omega);rw[yac (by omega)] at hf he;cases hf;cases he;exact h7
   rw[if_pos (decide_eq_true (by omega)),ZD (z:=(k:Int) - 1) (by omega) (by omega),show(k:Int) - 1=((k - 1:Nat):Int) by omega,Zu hf,ya,ya,Zvg,ya,decide_eq_true hah,if_neg (by decide)];exact tail
 ·unfold Wa;dsimp only;rw[if_neg (by rw[Z2];decide)]
end Go.Proofs.YtmkgbalfkhaflaaGreat
end
