/- Parts of the proof, in one file. -/
import Derived.Test.YtmkgbalfkhaflaaGreatKe
open Bool renaming and_eq_true → yj, eq_iff_iff → yck
open Go.Proofs.Tryz renaming prog → yc
open Int renaming tmod → yaw, toNat_natCast → ybf
open List renaming length_append → yp, replicate → yy, length_map → yz, getElem?_eq_getElem → yac, length_cons → yae, map_cons → yag, length_take → yai, append_assoc → yaj, getElem?_map → yal, getElem?_eq_none → yap, getElem?_cons_succ → yaq, getElem?_cons_zero → yar, map_append → yav, length_set → ybl, take_append_drop → ybo, ext_getElem? → ybq, mem_cons → ybt, length_drop → ybx, map_take → ycb, length_replicate → ycp, getElem?_set_self → ycr, not_mem_nil → yct, getD_eq_getElem?_getD → ycw, getElem?_set_ne → yda
open Nat renaming add → yu, shiftRight → yaf, mod_eq_of_lt → yah, mod_lt → ybb, zero_add → ybg, mul_comm → ybj, two_pow_add_eq_or_of_lt → ycx, shiftRight_eq_div_pow → ydc
open Option renaming bind_some → ya
open UInt32 renaming toNat → yam, ofNat → ybs, toNat_ofNat' → yco
open UInt64 renaming ofNat → yad, toNat_ofNat' → yba, toNat_lt → ybr, lt_iff_toNat_lt → ybz, toNat_inj → ycf, le_iff_toNat_le → ycs
open UInt8 renaming toNat → yak, ofNat → yat
set_option linter.unusedVariables false
set_option linter.unusedSimpArgs false
section
namespace Go.Sha
open Go.Ev
noncomputable def Zaw{α:Type}(n:Nat)(k:Nat→α):α:=Nat.rec (motive:=λ_=>α) (k 0) (λm _=>k (Nat.succ m)) n
theorem XP{α:Type}(n:Nat)(k:Nat→α):Zaw n k=k n:=by cases n <;> rfl
def dbl(x:Nat):Nat:=Nat.mul x 4294967297
def s0(x:Nat):Nat:=Nat.xor (Nat.xor (yaf (dbl x) 7) (yaf (dbl x) 18)) (yaf x 3)
def s1(x:Nat):Nat:=Nat.xor (Nat.xor (yaf (dbl x) 17) (yaf (dbl x) 19)) (yaf x 10)
def S0(x:Nat):Nat:=Nat.xor (Nat.xor (yaf (dbl x) 2) (yaf (dbl x) 13)) (yaf (dbl x) 22)
def S1(x:Nat):Nat:=Nat.xor (Nat.xor (yaf (dbl x) 6) (yaf (dbl x) 11)) (yaf (dbl x) 25)
def ch(e f g:Nat):Nat:=Nat.xor g (Nat.land e (Nat.xor f g))
def mj(a b c:Nat):Nat:=Nat.lor (Nat.land a b) (Nat.land c (Nat.lor a b))
def lo(x:Nat):Nat:=Nat.mod x 4294967296
def kw(W:Nat):Nat:=lo (yu (yu (yu (yaf W 480) (s0 (lo (yaf W 448)))) (lo (yaf W 192))) (s1 (lo (yaf W 32))))
def kn(W:Nat):Nat:=Nat.mod (yu (Nat.mul W 4294967296) (kw W)) (Nat.pow 2 512)
noncomputable def kst(k:Nat)(ih:Nat→Nat→Nat→Nat→Nat→Nat→Nat→Nat→Nat→Nat)(W a b c d e f g h:Nat):Nat:=
 Zaw (yu (yu (yu (yu h (S1 e)) (ch e f g)) k) (yaf W 480)) λt=>
     Zaw (lo (yu (yu t (S0 a)) (mj a b c))) λa'=>Zaw (lo (yu d t)) λe'=>Zaw (kn W) λW'=>ih W' a' a b c e' e f g
noncomputable def kgo(ks:List Nat)(K:Nat→Nat→Nat→Nat→Nat→Nat→Nat→Nat→Nat):Nat→Nat→Nat→Nat→Nat→Nat→Nat→Nat→Nat→Nat:=
 List.rec (motive:=λ_=>Nat→Nat→Nat→Nat→Nat→Nat→Nat→Nat→Nat→Nat) (λ_=>K) (λk _ ih=>kst k ih) ks
def ks:List Nat:=[1116352408,1899447441,3049323471,3921009573,961987163,1508970993,2453635748,2870763221,3624381080,310598401,607225278,1426881987,1925078388,2162078206,2614888103,3248222580,3835390401,4022224774,264347078,604807628,770255983,1249150122,1555081692,1996064986,2554220882,2821834349,2952996808,3210313671,3336571891,3584528711,113926993,338241895,666307205,773529912,1294757372,1396182291,1695183700,1986661051,2177026350,2456956037,2730485921,2820302411,3259730800,3345764771,3516065817,3600352804,4094571909,275423344,430227734,506948616,659060556,883997877,958139571,1322822218,1537002063,1747873779,1955562222,2024104815,2227730452,2361852424,2428436474,2756734187,3204031479,3329325298]
def w32(H i:Nat):Nat:=lo (yaf H i)
def cat(H x:Nat):Nat:=yu (Nat.mul H 4294967296) (lo x)
noncomputable def ZIh(H B:Nat):Nat:=
 Zaw (w32 H 224) λa=>Zaw (w32 H 192) λb=>Zaw (w32 H 160) λc=>Zaw (w32 H 128) λd=>Zaw (w32 H 96) λe=>Zaw (w32 H 64) λf=>Zaw (w32 H 32) λg=>Zaw (w32 H 0) λh=>
  kgo ks (λa' b' c' d' e' f' g' h'=>cat (cat (cat (cat (cat (cat (cat (cat 0 (yu a' a)) (yu b' b)) (yu c' c)) (yu d' d)) (yu e' e)) (yu f' f)) (yu g' g)) (yu h' h)) B a b c d e f g h
noncomputable def pk(l:List Nat)(n:Nat):Nat:=List.rec (motive:=λ_=>Nat→Nat) (λn=>n) (λx _ ih n=>Zaw (yu (Nat.mul n 256) x) ih) l n
noncomputable def ZKg(n:Nat)(l:List Nat)(H:Nat):Nat:=
 Nat.rec (motive:=λ_=>List Nat→Nat→Nat) (λ_ H=>H) (λ_ ih l H=>Zaw (ZIh H (pk (l.take 64) 0)) λH'=>ih (l.drop 64) H') n l H
noncomputable def outs(H:Nat)(l:List Nat):List UInt8:=List.rec (motive:=λ_=>List UInt8) [] (λs _ ih=>Zaw (Nat.mod (yaf H s) 256) λx=>yat x::ih) l
def ZA9:List Nat:=[248,240,232,224,216,208,200,192,184,176,168,160,152,144,136,128,120,112,104,96,88,80,72,64,56,48,40,32,24,16,8,0]
def be8(n:Nat):List Nat:=[n / 2 ^ 56 % 256,n / 2 ^ 48 % 256,n / 2 ^ 40 % 256,n / 2 ^ 32 % 256,n / 2 ^ 24 % 256,n / 2 ^ 16 % 256,n / 2 ^ 8 % 256,n % 256]
def zs(n:Nat):Nat:=(119 - n % 64) % 64
def H0:Nat:=cat (cat (cat (cat (cat (cat (cat (cat 0 1779033703) 3144134277) 1013904242) 2773480762) 1359893119) 2600822924) 528734635) 1541459225
noncomputable def sha(l:List UInt8):List UInt8:=
 Zaw l.length λn=>Zaw (ZKg (Nat.div (yu n 72) 64) (l.map yak++(128::(yy (zs n) 0++be8 (8*n)))) H0) λH=>outs H ZA9
theorem Zah(x y:UInt32):(x+y).toNat=lo (x.toNat+y.toNat):=by rw[UInt32.toNat_add];rfl
theorem ZmQ(x y:UInt32):(x^^^y).toNat=Nat.xor x.toNat y.toNat:=UInt32.toNat_xor ..
theorem ZGj(x y:UInt32):(x&&&y).toNat=Nat.land x.toNat y.toNat:=UInt32.toNat_and ..
theorem Zxt(x y:UInt32):(x|||y).toNat=Nat.lor x.toNat y.toNat:=UInt32.toNat_or ..
theorem ZKh(x:UInt32):x.toNat < 4294967296:=x.toNat_lt
theorem ZvK(x:UInt32)(n:Nat):(Zeo x n).toNat=yaf x.toNat n:=by
 unfold Zeo;rw[yco,show yaf x.toNat n=x.toNat >>> n from rfl,ydc]
 exact yah (Nat.lt_of_le_of_lt (Nat.div_le_self _ _) (ZKh x))
theorem ZIZ(x:Nat):lo x < 4294967296:=ybb _ (by omega)
theorem Zcs{x:Nat}(h:x < 4294967296):lo x=x:=yah h
theorem ZI0(x:UInt32){n k:Nat}(h:n+k=32)(hn:0 < n):(Zbi x k|||Zeo x n).toNat=lo (yaf (dbl x.toNat) n):=by
 rw[Zxt,ZvK];unfold Zbi;have hx:=ZKh x;generalize x.toNat=m at hx;have hp:2 ^ n*2 ^ k=4294967296:=by rw[←Nat.pow_add,h]
 rw[yco,show yaf m n=m >>> n from rfl,ydc,show yaf (dbl m) n=(dbl m) >>> n from rfl,ydc]
 have e1:m*2 ^ k % 2 ^ 32=2 ^ k*(m % 2 ^ n):=by
  rw[show(2:Nat) ^ 32=2 ^ n*2 ^ k from hp.symm,Nat.mul_mod_mul_right]
  exact ybj ..
 have hd:m / 2 ^ n < 2 ^ k:=by
  rw[Nat.div_lt_iff_lt_mul (Nat.two_pow_pos n),ybj,hp];exact hx
 rw[e1,show Nat.lor (2 ^ k*(m % 2 ^ n)) (m / 2 ^ n)=2 ^ k*(m % 2 ^ n)|||m / 2 ^ n from rfl, ←ycx hd]
 have e2:dbl m=2 ^ n*(m*2 ^ k)+m:=by
  unfold dbl;rw[Nat.mul_left_comm,hp,show Nat.mul m 4294967297=m*4294967297 from rfl]
  omega
 rw[e2,Nat.mul_add_div (Nat.two_pow_pos n)];unfold lo;rw[show Nat.mod (m*2 ^ k+m / 2 ^ n) 4294967296=(m*2 ^ k+m / 2 ^ n) % 4294967296 from rfl,Nat.add_mod,show m*2 ^ k % 4294967296=2 ^ k*(m % 2 ^ n) from e1,yah (a:=m / 2 ^ n) (b:=4294967296) (by rw[←hp];exact Nat.lt_of_lt_of_le hd (Nat.le_mul_of_pos_left _ (Nat.two_pow_pos n)))]
 refine(yah ?_).symm;have hm:m % 2 ^ n < 2 ^ n:=ybb _ (Nat.two_pow_pos n)
 calc 2 ^ k*(m % 2 ^ n)+m / 2 ^ n < 2 ^ k*(m % 2 ^ n)+2 ^ k:=by omega
  _=2 ^ k*(m % 2 ^ n+1):=by rw[Nat.mul_add,Nat.mul_one]
  _≤2 ^ k*2 ^ n:=Nat.mul_le_mul_left _ hm
  _=4294967296:=by rw[ybj,hp]
theorem Zk8(x y:Nat):lo (Nat.xor x y)=Nat.xor (lo x) (lo y):=Nat.xor_mod_two_pow (n:=32)
theorem ZGk(x:UInt32)(n:Nat):lo (yaf x.toNat n)=yaf x.toNat n:=by
 rw[←ZvK];exact Zcs (ZKh _)
theorem ZLm(x:UInt32){a b:UInt32}(ha:a.toNat=lo (yaf (dbl x.toNat) 7))(hb:b.toNat=lo (yaf (dbl x.toNat) 18)):((a^^^b)^^^Zeo x 3).toNat=lo (s0 x.toNat):=by
 unfold s0;rw[ZmQ,ZmQ,ZvK,ha,hb,Zk8,Zk8,ZGk]
theorem ZLn(x:UInt32){a b:UInt32}(ha:a.toNat=lo (yaf (dbl x.toNat) 17))(hb:b.toNat=lo (yaf (dbl x.toNat) 19)):((a^^^b)^^^Zeo x 10).toNat=lo (s1 x.toNat):=by
 unfold s1;rw[ZmQ,ZmQ,ZvK,ha,hb,Zk8,Zk8,ZGk]
theorem ZLo(x:UInt32){a b c:UInt32}(ha:a.toNat=lo (yaf (dbl x.toNat) 2))(hb:b.toNat=lo (yaf (dbl x.toNat) 13))(hc:c.toNat=lo (yaf (dbl x.toNat) 22)):((a^^^b)^^^c).toNat=lo (S0 x.toNat):=by
 unfold S0;rw[ZmQ,ZmQ,ha,hb,hc,Zk8,Zk8]
theorem ZLp(x:UInt32){a b c:UInt32}(ha:a.toNat=lo (yaf (dbl x.toNat) 6))(hb:b.toNat=lo (yaf (dbl x.toNat) 11))(hc:c.toNat=lo (yaf (dbl x.toNat) 25)):((a^^^b)^^^c).toNat=lo (S1 x.toNat):=by
 unfold S1;rw[ZmQ,ZmQ,ha,hb,hc,Zk8,Zk8]
theorem ZLq(e f g:UInt32):(g^^^(e&&&(f^^^g))).toNat=ch e.toNat f.toNat g.toNat:=by
 unfold ch;rw[ZmQ,ZGj,ZmQ]
theorem ZLr(a b c:UInt32):((a&&&b)|||(c&&&(a|||b))).toNat=mj a.toNat b.toNat c.toNat:=by
 unfold mj;rw[Zxt,ZGj,ZGj,Zxt]
theorem ZLs(a b c d:Nat):lo (lo (lo (a+lo b)+c)+lo d)=lo (a+b+c+d):=by
 show(((a+b % 4294967296) % 4294967296+c) % 4294967296+d % 4294967296) % 4294967296=(a+b+c+d) % 4294967296;omega
theorem ZLt(a b c d e:Nat):lo (lo (lo (lo (a+lo b)+c)+d)+e)=lo (yu (yu (yu (yu a b) c) d) e):=by
 show((((a+b % 4294967296) % 4294967296+c) % 4294967296+d) % 4294967296+e) % 4294967296=(a+b+c+d+e) % 4294967296;omega
theorem ZLu(t s m:Nat):lo (lo (lo t+lo s)+m)=lo (yu (yu t s) m):=by
 show((t % 4294967296+s % 4294967296) % 4294967296+m) % 4294967296=(t+s+m) % 4294967296;omega
theorem ZLv(d t:Nat):lo (d+lo t)=lo (yu d t):=by
 show(d+t % 4294967296) % 4294967296=(d+t) % 4294967296;omega
def pw(n:Nat)(l:List Nat):Nat:=l.foldl (λn x=>n*4294967296+x) n
theorem ZBa:∀(l:List Nat)(n:Nat),(∀x,x∈l→x < 4294967296)→pw n l / 2 ^ (32*l.length)=n
 |[],n,_=>by simp[pw]
 |x::r,n,h=>by
  have ih:=ZBa r (n*4294967296+x) (λy hy=>h y (List.mem_cons_of_mem _ hy));have hx:=h x (List.mem_cons_self ..);rw[show pw n (x::r)=pw (n*4294967296+x) r from rfl,yae,show 32*(r.length+1)=32*r.length+32 by omega,Nat.pow_add, ←Nat.div_div_eq_div_mul,ih]
  omega
theorem ZoR:∀(l:List Nat)(n:Nat),pw n l=n*2 ^ (32*l.length)+pw 0 l
 |[],n=>by simp[pw]
 |x::r,n=>by
  rw[show pw n (x::r)=pw (n*4294967296+x) r from rfl,show pw 0 (x::r)=pw (0*4294967296+x) r from rfl,ZoR r (n*4294967296+x),ZoR r (0*4294967296+x),yae,show 32*(r.length+1)=32+32*r.length by omega,Nat.pow_add,Nat.zero_mul,
   ybg,Nat.add_mul, ←Nat.mul_assoc,Nat.add_assoc]
theorem ZI1:∀(l:List Nat),(∀x,x∈l→x < 4294967296)→pw 0 l < 2 ^ (32*l.length)
 |[],_=>by simp[pw]
 |x::r,h=>by
  have ih:=ZI1 r (λy hy=>h y (List.mem_cons_of_mem _ hy));have hx:=h x (List.mem_cons_self ..);rw[show pw 0 (x::r)=pw (0*4294967296+x) r from rfl,ZoR,yae,show 32*(r.length+1)=32+32*r.length by omega,Nat.pow_add,Nat.zero_mul,ybg]
  have:(x+1)*2 ^ (32*r.length)≤2 ^ 32*2 ^ (32*r.length):=Nat.mul_le_mul_right _ (by omega);rw[Nat.add_mul,Nat.one_mul] at this;omega
theorem ZI2{n x s:Nat}{r:List Nat}(h:∀y,y∈r→y < 4294967296)(hs:s=32*r.length):yaf (pw n (x::r)) s=n*4294967296+x:=by
 subst hs;rw[show yaf (pw n (x::r)) (32*r.length)=pw n (x::r) >>> (32*r.length) from rfl,ydc]
 exact ZBa r (n*4294967296+x) h
theorem ZI3{n x s:Nat}{r:List Nat}(hx:x < 4294967296)(h:∀y,y∈r→y < 4294967296)(hs:s=32*r.length):lo (yaf (pw n (x::r)) s)=x:=by
 rw[ZI2 h hs];show(n*4294967296+x) % 4294967296=x;omega
theorem ZBb(n:Nat)(l r:List Nat):pw n (l++r)=pw (pw n l) r:=List.foldl_append ..
theorem ZCs(n x:Nat)(r:List Nat):pw n (x::r)=pw (n*4294967296+x) r:=rfl
theorem Zha{v l r:List Nat}{x s:Nat}(e:v=l++x::r)(h:∀y,y∈v→y < 4294967296)(hs:s=32*r.length):lo (yaf (pw 0 v) s)=x:=by
 rw[e] at h ⊢;rw[ZBb];exact ZI3 (h x (by simp)) (λy hy=>h y (by simp[hy])) hs
def wd(ws:List Nat)(n:Nat):Nat:=if h:n < 16 then lo (ws.getD n 0) else lo (wd ws (n - 16)+s0 (wd ws (n - 15))+wd ws (n - 7)+s1 (wd ws (n - 2)))
termination_by n
decreasing_by all_goals omega
theorem ZLw(ws:List Nat)(n:Nat):wd ws n < 4294967296:=by
 rw[wd];split <;> exact ZIZ _
theorem Zxu(ws:List Nat)(n:Nat):wd ws (n+16)=lo (wd ws n+s0 (wd ws (n+1))+wd ws (n+9)+s1 (wd ws (n+14))):=by
 rw[wd,dif_neg (by omega)];simp only[Nat.add_sub_cancel,show n+16 - 15=n+1 by omega,show n+16 - 7=n+9 by omega,show n+16 - 2=n+14 by omega]
def win(ws:List Nat)(i:Nat):List Nat:=[wd ws i,wd ws (i+1),wd ws (i+2),wd ws (i+3),wd ws (i+4),wd ws (i+5),wd ws (i+6),wd ws (i+7),wd ws (i+8),wd ws (i+9),wd ws (i+10),wd ws (i+11),wd ws (i+12),wd ws (i+13),wd ws (i+14),wd ws (i+15)]
theorem ZBc{ws:List Nat}{i:Nat}{l:List Nat}(h:∀x,x∈l→∃j,x=wd ws j):∀x,x∈l→x < 4294967296:=λx hx=>by
 obtain⟨j,rfl⟩:=h x hx;exact ZLw _ _
theorem ZCt(ws:List Nat)(i:Nat):yaf (pw 0 (win ws i)) 480=wd ws i:=by
 have h:=ZI2 (n:=0) (x:=wd ws i) (s:=480) (r:=(win ws i).tail) (ZBc (ws:=ws) (i:=i) (λx hx=>by
  simp only[win,List.tail_cons,ybt,yct,or_false] at hx;rcases hx with h|h|h|h|h|h|h|h|h|h|h|h|h|h|h <;> exact⟨_,h⟩)) rfl
 rw[Nat.zero_mul,ybg] at h;exact h
theorem ZKi(ws:List Nat)(i:Nat):kw (pw 0 (win ws i))=wd ws (i+16):=by
 have key:∀(l r:List Nat)(x s:Nat),win ws i=l++x::r→s=32*r.length→lo (yaf (pw 0 (win ws i)) s)=x:=by
  intro l r x s e hs
  have hall:∀y,y∈win ws i→y < 4294967296:=ZBc (i:=i) λx hx=>by
   simp only[win,ybt,yct,or_false] at hx;rcases hx with h|h|h|h|h|h|h|h|h|h|h|h|h|h|h|h <;> exact⟨_,h⟩
  rw[e] at hall ⊢;rw[ZBb];exact ZI3 (hall x (by simp)) (λy hy=>hall y (by simp[hy])) hs
 unfold kw;rw[ZCt,key [_] _ (wd ws (i+1)) 448 rfl rfl,key [_,_,_,_,_,_,_,_,_] _ (wd ws (i+9)) 192 rfl rfl,key [_,_,_,_,_,_,_,_,_,_,_,_,_,_] _ (wd ws (i+14)) 32 rfl rfl,Zxu];rfl
theorem ZIi(a b m:Nat)(h:b < 2 ^ m):Nat.mod (a*2 ^ m+b) (Nat.pow 2 m)=b:=by
 show(a*2 ^ m+b) % 2 ^ m=b;rw[ybj,Nat.mul_add_mod];exact yah h
theorem ZKj(ws:List Nat)(i:Nat):kn (pw 0 (win ws i))=pw 0 (win ws (i+1)):=by
 have e:yu (Nat.mul (pw 0 (win ws i)) 4294967296) (kw (pw 0 (win ws i)))=pw (wd ws i) (win ws (i+1)):=by
  rw[ZKi];show pw 0 (win ws i)*4294967296+wd ws (i+16)=pw (wd ws i) (win ws (i+1));rw[show wd ws i=0*4294967296+wd ws i by omega];rfl
 unfold kn;rw[e,ZoR];have hl:(win ws (i+1)).length=16:=rfl
 have hlt:=ZI1 (win ws (i+1)) (ZBc (i:=i+1) λx hx=>by
  simp only[win,ybt,yct,or_false] at hx;rcases hx with h|h|h|h|h|h|h|h|h|h|h|h|h|h|h|h <;> exact⟨_,h⟩)
 rw[show 512=32*(win ws (i+1)).length by rw[hl]];exact ZIi _ _ _ hlt
def rnd(v:List Nat)(k w:Nat):List Nat:=match v with
 |[a,b,c,d,e,f,g,h]=>[lo (yu (yu (yu (yu (yu (yu h (S1 e)) (ch e f g)) k) w) (S0 a)) (mj a b c)),a,b,c,lo (yu d (yu (yu (yu (yu h (S1 e)) (ch e f g)) k) w)),e,f,g]
 |_=>[]
def rs(ws v:List Nat):Nat→List Nat
 |0=>v
 |i+1=>rnd (rs ws v i) (ks.getD i 0) (wd ws i)
theorem ZIj{v:List Nat}(h:v.length=8)(k w:Nat):(rnd v k w).length=8:=by
 match v,h with
 |[a,b,c,d,e,f,g,h],_=>rfl
theorem Zxv{ws v:List Nat}(h:v.length=8):∀i,(rs ws v i).length=8
 |0=>h
 |i+1=>ZIj (Zxv h i) _ _
noncomputable def ZGl(f:Nat→Nat→Nat→Nat→Nat→Nat→Nat→Nat→Nat)(v:List Nat):Nat:=match v with
 |[a,b,c,d,e,f',g,h]=>f a b c d e f' g h
 |_=>0
theorem ZlY{F:Nat→Nat→Nat→Nat→Nat→Nat→Nat→Nat→Nat}{a b c d e f g h:Nat}:ZGl F [a,b,c,d,e,f,g,h]=F a b c d e f g h:=rfl
theorem ZGm(k:Nat)(l:List Nat)(K:Nat→Nat→Nat→Nat→Nat→Nat→Nat→Nat→Nat):kgo (k::l) K=kst k (kgo l K):=rfl
theorem ZtE(a b c d e f g h k w:Nat):rnd [a,b,c,d,e,f,g,h] k w=[lo (yu (yu (yu (yu (yu (yu h (S1 e)) (ch e f g)) k) w) (S0 a)) (mj a b c)),a,b,c,lo (yu d (yu (yu (yu (yu h (S1 e)) (ch e f g)) k) w)),e,f,g]:=rfl
theorem ZKk(k:Nat)(ih:Nat→Nat→Nat→Nat→Nat→Nat→Nat→Nat→Nat→Nat)(W a b c d e f g h:Nat):kst k ih W a b c d e f g h=
 ih (kn W) (lo (yu (yu (yu (yu (yu (yu h (S1 e)) (ch e f g)) k) (yaf W 480)) (S0 a)) (mj a b c))) a b c (lo (yu d (yu (yu (yu (yu h (S1 e)) (ch e f g)) k) (yaf W 480)))) e f g:=by
 unfold kst;rw[XP,XP,XP,XP]
theorem ZGn{ws v:List Nat}{K:Nat→Nat→Nat→Nat→Nat→Nat→Nat→Nat→Nat}{k w:Nat}{l:List Nat}(hv:v.length=8){W:Nat}(hW:yaf W 480=w):ZGl (kgo (k::l) K W) v=ZGl (kgo l K (kn W)) (rnd v k w):=by
 match v,hv with
 |[a,b,c,d,e,f,g,h],_=>
  rw[ZGm,ZlY,ZKk,hW,ZtE,ZlY]
theorem ZCu{ws v:List Nat}{K:Nat→Nat→Nat→Nat→Nat→Nat→Nat→Nat→Nat}(hv:v.length=8):∀(m i:Nat),i+m=64→ZGl (kgo (ks.drop i) K (pw 0 (win ws i))) (rs ws v i)=ZGl K (rs ws v 64)
 |0,i,h=>by
  have e:i=64:=by omega
  subst e;rw[show ks.drop 64=[] from rfl]
  generalize pw 0 (win ws 64)=W
  rfl
 |m+1,i,h=>by
  have hi:i < ks.length:=by show i < 64;omega
  rw[List.drop_eq_getElem_cons hi,ZGn (ws:=ws) (Zxv hv i) (ZCt ws i),ZKj];have:=ZCu (ws:=ws) (K:=K) hv m (i+1) (by omega);rw[show rs ws v (i+1)=rnd (rs ws v i) (ks.getD i 0) (wd ws i) from rfl,show ks.getD i 0=ks[i] by rw[ycw,yac hi];rfl] at this
  exact this
def Zi3(v ws:List Nat):List Nat:=List.zipWith (λx y=>lo (x+y)) (rs ws v 64) v
theorem ZfZ{v ws:List Nat}(h:v.length=8):(Zi3 v ws).length=8:=by
 rw[Zi3,List.length_zipWith,Zxv h,h];rfl
theorem ZCv{v ws:List Nat}:∀x,x∈Zi3 v ws→x < 4294967296:=by
 intro x hx;unfold Zi3 at hx;rw[List.mem_iff_getElem] at hx;obtain⟨i,hi,rfl⟩:=hx;rw[List.getElem_zipWith];exact ZIZ _
theorem ZIk{v ws:List Nat}(hv:v.length=8)(hlt:∀x,x∈v→x < 4294967296)(hw:ws.length=16)(hwl:∀x,x∈ws→x < 4294967296):ZIh (pw 0 v) (pw 0 ws)=pw 0 (Zi3 v ws):=by
 have e0:ws=win ws 0:=by
  match ws,hw with
  |[a0,a1,a2,a3,a4,a5,a6,a7,a8,a9,a10,a11,a12,a13,a14,a15],_=>
   simp only[ybt,yct,or_false,forall_eq_or_imp,forall_eq] at hwl;obtain⟨h0,h1,h2,h3,h4,h5,h6,h7,h8,h9,h10,h11,h12,h13,h14,h15⟩:=hwl;have hs:∀n,n < 16→wd [a0,a1,a2,a3,a4,a5,a6,a7,a8,a9,a10,a11,a12,a13,a14,a15] n=lo ([a0,a1,a2,a3,a4,a5,a6,a7,a8,a9,a10,a11,a12,a13,a14,a15].getD n 0):=λn hn=>by rw[wd,dif_pos hn]
   unfold win;rw[hs 0 (by omega),hs (0+1) (by omega),hs (0+2) (by omega),hs (0+3) (by omega),hs (0+4) (by omega),hs (0+5) (by omega),hs (0+6) (by omega),hs (0+7) (by omega),hs (0+8) (by omega),hs (0+9) (by omega),hs (0+10) (by omega),hs (0+11) (by omega),hs (0+12) (by omega),hs (0+13) (by omega),hs (0+14) (by omega),hs (0+15) (by omega)];show _=[lo a0,lo a1,lo a2,lo a3,lo a4,lo a5,lo a6,lo a7,lo a8,lo a9,lo a10,lo a11,lo a12,lo a13,lo a14,lo a15];rw[Zcs h0,Zcs h1,Zcs h2,Zcs h3,Zcs h4,Zcs h5,Zcs h6,Zcs h7,Zcs h8,Zcs h9,Zcs h10,Zcs h11,Zcs h12,Zcs h13,Zcs h14,Zcs h15]
 match v,hv with
 |[a,b,c,d,e,f,g,h],hv=>
  have ea:w32 (pw 0 [a,b,c,d,e,f,g,h]) 224=a:=Zha (l:=[]) (r:=[b,c,d,e,f,g,h]) rfl hlt rfl;have eb:w32 (pw 0 [a,b,c,d,e,f,g,h]) 192=b:=Zha (l:=[a]) (r:=[c,d,e,f,g,h]) rfl hlt rfl;have ec:w32 (pw 0 [a,b,c,d,e,f,g,h]) 160=c:=Zha (l:=[a,b]) (r:=[d,e,f,g,h]) rfl hlt rfl;have ed:w32 (pw 0 [a,b,c,d,e,f,g,h]) 128=d:=Zha (l:=[a,b,c]) (r:=[e,f,g,h]) rfl hlt rfl;have ee:w32 (pw 0 [a,b,c,d,e,f,g,h]) 96=e:=Zha (l:=[a,b,c,d]) (r:=[f,g,h]) rfl hlt rfl;have ef:w32 (pw 0 [a,b,c,d,e,f,g,h]) 64=f:=Zha (l:=[a,b,c,d,e]) (r:=[g,h]) rfl hlt rfl;have eg:w32 (pw 0 [a,b,c,d,e,f,g,h]) 32=g:=Zha (l:=[a,b,c,d,e,f]) (r:=[h]) rfl hlt rfl;have eh:w32 (pw 0 [a,b,c,d,e,f,g,h]) 0=h:=Zha (l:=[a,b,c,d,e,f,g]) (r:=[]) rfl hlt rfl;unfold ZIh;rw[ea,eb,ec,ed,ee,ef,eg,eh,XP,XP,XP,XP,XP,XP,XP,XP];have hr:=ZCu (ws:=ws) (v:=[a,b,c,d,e,f,g,h]) (K:=λa' b' c' d' e' f' g' h'=>cat (cat (cat (cat (cat (cat (cat (cat 0 (yu a' a)) (yu b' b)) (yu c' c)) (yu d' d)) (yu e' e)) (yu f' f)) (yu g' g)) (yu h' h)) rfl 64 0 rfl;rw[←e0,show ks.drop 0=ks from rfl,show rs ws [a,b,c,d,e,f,g,h] 0=[a,b,c,d,e,f,g,h] from rfl,ZlY] at hr
  rw[hr];unfold Zi3;generalize rs ws [a,b,c,d,e,f,g,h] 64=q,Zxv (ws:=ws) hv 64=hq
  match q,hq with
  |[a',b',c',d',e',f',g',h'],_=>
   rw[ZlY];simp only[List.zipWith_cons_cons,List.zipWith_nil_right,ZCs,cat];rfl
theorem ZrY(x:Nat)(l:List Nat)(n:Nat):pk (x::l) n=pk l (n*256+x):=by
 show Zaw (yu (Nat.mul n 256) x) (pk l)=_;rw[XP];rfl
def Ye:List Nat→List Nat
 |a::b::c::d::r=>(((a*256+b)*256+c)*256+d)::Ye r
 |_=>[]
theorem Zzp:∀(m:Nat)(l:List Nat)(n:Nat),l.length=4*m→pk l n=pw n (Ye l)
 |0,[],n,_=>rfl
 |0,_::_,_,h=>by simp at h
 |m+1,[],_,h=>by simp at h
 |m+1,[_],_,h=>by simp at h;omega
 |m+1,[_,_],_,h=>by simp at h;omega
 |m+1,[_,_,_],_,h=>by simp at h;omega
 |m+1,a::b::c::d::r,n,h=>by
  rw[ZrY,ZrY,ZrY,ZrY,Ye];rw[Zzp m r _ (by simp at h;omega),ZCs];have e:(((n*256+a)*256+b)*256+c)*256+d=n*4294967296+(((a*256+b)*256+c)*256+d):=by omega
  rw[e]
theorem ZqT:∀(m:Nat)(l:List Nat),l.length=4*m→(Ye l).length=m
 |0,[],_=>rfl
 |0,_::_,h=>by simp at h
 |m+1,[],h=>by simp at h
 |m+1,[_],h=>by simp at h;omega
 |m+1,[_,_],h=>by simp at h;omega
 |m+1,[_,_,_],h=>by simp at h;omega
 |m+1,a::b::c::d::r,h=>by
  rw[Ye,yae,ZqT m r (by simp at h;omega)]
theorem ZtF:∀(m:Nat)(l:List Nat),l.length=4*m→(∀x,x∈l→x < 256)→∀x,x∈Ye l→x < 4294967296
 |0,[],_,_,x,hx=>by simp[Ye] at hx
 |0,_::_,h,_,_,_=>by simp at h
 |m+1,[],h,_,_,_=>by simp at h
 |m+1,[_],h,_,_,_=>by simp at h;omega
 |m+1,[_,_],h,_,_,_=>by simp at h;omega
 |m+1,[_,_,_],h,_,_,_=>by simp at h;omega
 |m+1,a::b::c::d::r,h,hl,x,hx=>by
  rw[Ye] at hx;have h1:=hl a (by simp);have h2:=hl b (by simp);have h3:=hl c (by simp);have h4:=hl d (by simp);rcases ybt.1 hx with rfl|hx
  ·omega
  ·exact ZtF m r (by simp at h;omega) (λy hy=>hl y (by simp[hy])) x hx
theorem Zk9:∀(i:Nat)(l:List Nat)(a b c d:Nat),l[4*i]? =some a→l[4*i+1]? =some b→l[4*i+2]? =some c→l[4*i+3]? =some d→(Ye l)[i]? =some (((a*256+b)*256+c)*256+d)
 |0,[],_,_,_,_,h,_,_,_=>by simp at h
 |0,[_],_,_,_,_,_,h,_,_=>by simp at h
 |0,[_,_],_,_,_,_,_,_,h,_=>by simp at h
 |0,[_,_,_],_,_,_,_,_,_,_,h=>by simp at h
 |0,a::b::c::d::r,_,_,_,_,h1,h2,h3,h4=>by
  simp at h1 h2 h3 h4;subst h1 h2 h3 h4
  rfl
 |i+1,[],_,_,_,_,h,_,_,_=>by simp at h
 |i+1,[_],_,_,_,_,h,_,_,_=>by simp[show 4*(i+1)=4*i+3+1 by omega] at h
 |i+1,[_,_],_,_,_,_,h,_,_,_=>by simp[show 4*(i+1)=4*i+2+1+1 by omega] at h
 |i+1,[_,_,_],_,_,_,_,h,_,_,_=>by simp[show 4*(i+1)=4*i+1+1+1+1 by omega] at h
 |i+1,a::b::c::d::r,_,_,_,_,h1,h2,h3,h4=>by
  rw[Ye,yaq]
  exact Zk9 i r _ _ _ _ (by simpa[show 4*(i+1)=4*i+1+1+1+1 by omega] using h1) (by simpa[show 4*(i+1)+1=4*i+1+1+1+1+1 by omega] using h2)
   (by simpa[show 4*(i+1)+2=4*i+2+1+1+1+1 by omega] using h3) (by simpa[show 4*(i+1)+3=4*i+3+1+1+1+1 by omega] using h4)
def Zf0:Nat→List Nat→List Nat→List Nat
 |0,_,v=>v
 |n+1,l,v=>Zf0 n (l.drop 64) (Zi3 v (Ye (l.take 64)))
theorem ZCw:∀(n:Nat)(l v:List Nat),l.length=64*n→(∀x,x∈l→x < 256)→v.length=8→(∀x,x∈v→x < 4294967296)→ZKg n l (pw 0 v)=pw 0 (Zf0 n l v)
 |0,l,v,_,_,_,_=>rfl
 |n+1,l,v,h1,h2,h3,h4=>by
  show Zaw (ZIh (pw 0 v) (pk (l.take 64) 0)) (ZKg n (l.drop 64))=_;have hl:(l.take 64).length=4*16:=by rw[yai];omega
  rw[XP,Zzp 16 _ 0 hl,ZIk h3 h4 (ZqT 16 _ hl) (ZtF 16 _ hl λx hx=>h2 x (List.mem_of_mem_take hx))];exact ZCw n (l.drop 64) _ (by rw[ybx];omega) (λx hx=>h2 x (List.mem_of_mem_drop hx)) (ZfZ h3) ZCv
theorem Zzq:∀(n:Nat)(l v:List Nat),v.length=8→(Zf0 n l v).length=8
 |0,_,_,h=>h
 |n+1,l,v,h=>Zzq n _ _ (ZfZ h)
theorem ZCx:∀(n:Nat)(l v:List Nat),(∀x,x∈v→x < 4294967296)→∀x,x∈Zf0 n l v→x < 4294967296
 |0,_,_,h=>h
 |n+1,l,v,h=>ZCx n _ _ ZCv
theorem ZtG:∀(n m:Nat)(l r v:List Nat),l.length=64*n→Zf0 (n+m) (l++r) v=Zf0 m r (Zf0 n l v)
 |0,m,l,r,v,h=>by
  have:l=[]:=List.length_eq_zero_iff.1 (by omega);subst this;rw[ybg]
  rfl
 |n+1,m,l,r,v,h=>by
  rw[show n+1+m=(n+m)+1 by omega,Zf0,List.drop_append_of_le_length (by omega),List.take_append_of_le_length (by omega),ZtG n m _ r _ (by rw[ybx];omega)];rfl
theorem ZlZ:∀(c:Nat)(l v:List Nat),Zf0 (c+1) l v=Zi3 (Zf0 c l v) (Ye ((l.drop (64*c)).take 64))
 |0,l,v=>by rw[Nat.mul_zero,List.drop_zero];rfl
 |c+1,l,v=>by
  rw[show Zf0 (c+1+1) l v=Zf0 (c+1) (l.drop 64) (Zi3 v (Ye (l.take 64))) from rfl,ZlZ c,List.drop_drop,show 64+64*c=64*(c+1) by omega]
  rfl
theorem Zzr(ws:List Nat){n x:Nat}(hn:n < 16)(h:ws[n]? =some x)(hx:x < 4294967296):wd ws n=x:=by
 rw[wd,dif_pos hn,ycw,h];exact Zcs hx
def ZGo(v:List Nat)(k:Nat):UInt8:=yat (v.getD (k / 4) 0 / 2 ^ (24 - 8*(k % 4)))
theorem ZIl{v:List Nat}(hv:v.length=8)(hlt:∀x,x∈v→x < 4294967296):outs (pw 0 v) ZA9=(List.range 32).map (ZGo v):=by
 have hgo:∀(H:Nat)(l:List Nat),outs H l=l.map λs=>yat (H / 2 ^ s % 256):=by
  intro H l
  induction l with
  |nil=>rfl
  |cons s r ih=>
   show Zaw (Nat.mod (yaf H s) 256) (λx=>yat x::outs H r)=_;rw[XP,ih,yag,show yaf H s=H >>> s from rfl,ydc]
   rfl
 have hb:∀(l r:List Nat)(x j s:Nat),v=l++x::r→j≤24→s=32*r.length+j→yat (pw 0 v / 2 ^ s % 256)=yat (x / 2 ^ j):=by
  intro l r x j s e hj hs;have hall:=hlt;rw[e] at hall
  have h1:pw 0 v / 2 ^ (32*r.length)=pw 0 l*4294967296+x:=by
   rw[e,ZBb];exact ZBa r _ (λy hy=>hall y (by simp[hy]))
  rw[hs,Nat.pow_add, ←Nat.div_div_eq_div_mul,h1]
  have h2:pw 0 l*4294967296+x=2 ^ j*(pw 0 l*2 ^ (24 - j)*256)+x:=by
   rw[show(4294967296:Nat)=2 ^ j*2 ^ (24 - j)*256 by rw[←Nat.pow_add,show j+(24 - j)=24 by omega]];congr 1;ac_rfl
  rw[h2,Nat.mul_add_div (Nat.two_pow_pos j),ybj (pw 0 l*2 ^ (24 - j)) 256,Nat.mul_add_mod];exact UInt8.toNat_inj.1 (by simp)
 match v,hv with
 |[a,b,c,d,e,f,g,h],_=>
  rw[hgo];simp only[ZA9,yag,List.map_nil]
  rw[hb [] [b,c,d,e,f,g,h] a 24 248 rfl (by omega) rfl,hb [] [b,c,d,e,f,g,h] a 16 240 rfl (by omega) rfl,hb [] [b,c,d,e,f,g,h] a 8 232 rfl (by omega) rfl,hb [] [b,c,d,e,f,g,h] a 0 224 rfl (by omega) rfl,
   hb [a] [c,d,e,f,g,h] b 24 216 rfl (by omega) rfl,hb [a] [c,d,e,f,g,h] b 16 208 rfl (by omega) rfl,hb [a] [c,d,e,f,g,h] b 8 200 rfl (by omega) rfl,hb [a] [c,d,e,f,g,h] b 0 192 rfl (by omega) rfl,
   hb [a,b] [d,e,f,g,h] c 24 184 rfl (by omega) rfl,hb [a,b] [d,e,f,g,h] c 16 176 rfl (by omega) rfl,hb [a,b] [d,e,f,g,h] c 8 168 rfl (by omega) rfl,hb [a,b] [d,e,f,g,h] c 0 160 rfl (by omega) rfl,
   hb [a,b,c] [e,f,g,h] d 24 152 rfl (by omega) rfl,hb [a,b,c] [e,f,g,h] d 16 144 rfl (by omega) rfl,hb [a,b,c] [e,f,g,h] d 8 136 rfl (by omega) rfl,hb [a,b,c] [e,f,g,h] d 0 128 rfl (by omega) rfl,
   hb [a,b,c,d] [f,g,h] e 24 120 rfl (by omega) rfl,hb [a,b,c,d] [f,g,h] e 16 112 rfl (by omega) rfl,hb [a,b,c,d] [f,g,h] e 8 104 rfl (by omega) rfl,hb [a,b,c,d] [f,g,h] e 0 96 rfl (by omega) rfl,
   hb [a,b,c,d,e] [g,h] f 24 88 rfl (by omega) rfl,hb [a,b,c,d,e] [g,h] f 16 80 rfl (by omega) rfl,hb [a,b,c,d,e] [g,h] f 8 72 rfl (by omega) rfl,hb [a,b,c,d,e] [g,h] f 0 64 rfl (by omega) rfl,
   hb [a,b,c,d,e,f] [h] g 24 56 rfl (by omega) rfl,hb [a,b,c,d,e,f] [h] g 16 48 rfl (by omega) rfl,hb [a,b,c,d,e,f] [h] g 8 40 rfl (by omega) rfl,hb [a,b,c,d,e,f] [h] g 0 32 rfl (by omega) rfl,
   hb [a,b,c,d,e,f,g] [] h 24 24 rfl (by omega) rfl,hb [a,b,c,d,e,f,g] [] h 16 16 rfl (by omega) rfl,hb [a,b,c,d,e,f,g] [] h 8 8 rfl (by omega) rfl,hb [a,b,c,d,e,f,g] [] h 0 0 rfl (by omega) rfl]
  rfl
def Zf1(l:List UInt8):List Nat:=l.map yak++(128::(yy (zs l.length) 0++be8 (8*l.length)))
def ZcZ:List Nat:=[1779033703,3144134277,1013904242,2773480762,1359893119,2600822924,528734635,1541459225]
theorem ZtH(l:List UInt8):(Zf1 l).length=64*((l.length+72) / 64):=by
 unfold Zf1;simp only[yp,yz,yae,ycp,be8,List.length_nil,zs];omega
theorem ZDW(l:List UInt8):∀x,x∈Zf1 l→x < 256:=by
 intro x hx;unfold Zf1 at hx;simp only[List.mem_append,List.mem_map,ybt,List.mem_replicate,be8,yct,or_false] at hx;rcases hx with⟨y,_,rfl⟩|rfl|⟨_,rfl⟩|h
 ·exact y.toNat_lt
 ·omega
 ·omega
 ·rcases h with h|h|h|h|h|h|h|h <;> rw[h] <;> exact ybb _ (by omega)
theorem ZBd(l:List UInt8):sha l=(List.range 32).map (ZGo (Zf0 ((l.length+72) / 64) (Zf1 l) ZcZ)):=by
 unfold sha
 rw[XP,XP,show H0=pw 0 ZcZ from rfl,show l.map yak++(128::(yy (zs l.length) 0++be8 (8*l.length)))=Zf1 l from rfl,
  show Nat.div (yu l.length 72) 64=(l.length+72) / 64 from rfl]
 have hf:∀x,x∈ZcZ→x < 4294967296:=by decide
 rw[ZCw _ _ _ (ZtH l) (ZDW l) rfl hf];exact ZIl (Zzq _ _ _ rfl) (ZCx _ _ _ hf)
theorem ZL9(l:List UInt8):(sha l).length=32:=by rw[ZBd];simp
end Go.Sha
end
section
set_option maxRecDepth 4000
namespace Go.Proofs.YtmkgbalfkhaflaaGreat
open Go Go.Ev Go.Sha
theorem Zhy(x:UInt32)(n k:Nat)(h:n+k=32)(hn:0 < n){z:Int}(hz:((w64 z)&&&31).toNat=k):∃o,ZS fuel x z=some o∧o.toNat=lo (yaf (dbl x.toNat) n):=by
 refine⟨_,rfl, ?_⟩;have e1:((((w64 z)&&&31).toNat:Int)).toNat=k:=by rw[hz];rfl
 have e2:(32 - ((w64 z)&&&31)).toNat=n:=by
  have h1:((w64 z)&&&31)=yad k:=ycf.1 (by rw[hz,yba];omega);rw[h1,UInt64.toNat_sub,yba];show(2 ^ 64 - k % 2 ^ 64+32) % 2 ^ 64=n;omega
 rw[e1,show((((32 - ((w64 z)&&&31)).toNat:Nat):Int)).toNat=n by rw[e2];rfl,Nat.min_eq_left (by omega),Nat.min_eq_left (by omega)];exact ZI0 x h hn
theorem ZKl{l:List UInt8}{a b c d:UInt8}(ha:l[0]? =some a)(hb:l[1]? =some b)(hc:l[2]? =some c)(hd:l[3]? =some d):∃o,Ze6 fuel l=some o∧o.toNat=((a.toNat*256+b.toNat)*256+c.toNat)*256+d.toNat:=by
 unfold Ze6;rw[ZeV (i:=0) (by omega) ha,ZeV (i:=1) (by omega) hb,ZeV (i:=2) (by omega) hc,ZeV (i:=3) (by omega) hd];refine⟨_,rfl, ?_⟩;have h1:=a.toNat_lt;have h2:=b.toNat_lt;have h3:=c.toNat_lt;have h4:=d.toNat_lt
 have hs:∀(x:UInt8)(n:Nat),n≤24→(Zbi (ybs x.toNat) n).toNat=x.toNat*2 ^ n:=by
  intro x n hn;have hx:=x.toNat_lt;unfold Zbi;rw[yco,yco,yah (a:=x.toNat) (by omega)];refine yah ?_
  calc x.toNat*2 ^ n < 2 ^ 8*2 ^ n:=Nat.mul_lt_mul_of_pos_right hx (Nat.two_pow_pos n)
   _=2 ^ (8+n):=(Nat.pow_add ..).symm
   _≤2 ^ 32:=Nat.pow_le_pow_right (by omega) (by omega)
 rw[Zxt,Zxt,Zxt,hs _ _ (by omega),hs _ _ (by omega),hs _ _ (by omega),yco,yah (a:=d.toNat) (by omega)]
 have k1:Nat.lor (a.toNat*2 ^ 24) (b.toNat*2 ^ 16)=2 ^ 16*(a.toNat*256+b.toNat):=by
  rw[ybj a.toNat,show Nat.lor (2 ^ 24*a.toNat) (b.toNat*2 ^ 16)=2 ^ 24*a.toNat|||b.toNat*2 ^ 16 from rfl, ←ycx (by omega)]
  omega
 have k2:Nat.lor (2 ^ 16*(a.toNat*256+b.toNat)) (c.toNat*2 ^ 8)=2 ^ 8*((a.toNat*256+b.toNat)*256+c.toNat):=by
  rw[show Nat.lor (2 ^ 16*(a.toNat*256+b.toNat)) (c.toNat*2 ^ 8)=2 ^ 16*(a.toNat*256+b.toNat)|||c.toNat*2 ^ 8 from rfl, ←ycx (by omega)]
  omega
 rw[k1,k2,show Nat.lor (2 ^ 8*((a.toNat*256+b.toNat)*256+c.toNat)) d.toNat=2 ^ 8*((a.toNat*256+b.toNat)*256+c.toNat)|||d.toNat from rfl, ←ycx (by omega)]
 omega
theorem ZGp{l:List UInt8}(h:l.length=64):∃o,ZbX fuel l=some o∧o.length=64∧∀(i:Nat)x,i < 64→o[i]? =some x→x.toNat=wd (Ye (l.map yak)) i:=by
 unfold ZbX;generalize hz:([0,0,0,0,0,0,0,0,0,0,0,0,0,0,0,0,0,0,0,0,0,0,0,0,0,0,0,0,0,0,0,0,0,0,0,0,0,0,0,0,0,0,0,0,0,0,0,0,0,0,0,0,0,0,0,0,0,0,0,0,0,0,0,0]:List UInt32)=z;have hzl:z.length=64:=by rw[←hz];rfl
 refine Exists.elim (WL (step:=Qm fuel) (λs=>s.1=l∧0≤s.2.1∧s.2.1≤64∧s.2.2.length=64∧∀(j:Nat)x,(j:Int) < s.2.1→s.2.2[j]? =some x→x.toNat=wd (Ye (l.map yak)) j) (λs=>(64 - s.2.1).toNat)
  (λo=>o.length=64∧∀(j:Nat)x,j < 64→o[j]? =some x→x.toNat=wd (Ye (l.map yak)) j) ?_ (l,(0:Int),z) ⟨rfl,Int.le_refl _,by dsimp only;omega,hzl,λj x hj=>by dsimp only at hj;omega⟩ (by dsimp only;omega)) ?_
 rotate_left
 ·rintro o ⟨h1,h2⟩;exact⟨o,by rw[h1];rfl,h2⟩
 ·rintro⟨b,i,w⟩ ⟨hb,h0,h64,hw,hv⟩;dsimp only at hb h0 h64 hw hv;subst hb;unfold Qm;dsimp only
  have hset:∀(y:UInt32),y.toNat=wd (Ye (b.map yak)) i.toNat→i < 64→∀(j:Nat)x,(j:Int) < i+1→(w.set i.toNat y)[j]? =some x→x.toNat=wd (Ye (b.map yak)) j:=by
   intro y hy hi j x hj hx;by_cases hji:j=i.toNat
   ·subst hji;rw[ycr (by omega)] at hx;cases hx;exact hy
   ·rw[yda (Ne.symm hji)] at hx;exact hv j x (by omega) hx
  by_cases hi:i < 64
  ·left;rw[if_pos (decide_eq_true hi)];obtain⟨e,he⟩:=ZbI (l:=w) (i:=i.toNat) (by omega);by_cases h16:i < 16
   ·rw[if_pos (decide_eq_true h16),Zz (z:=4*i) (by omega) (by omega),if_pos (by simp only[Zbt,yj,decide_eq_true_eq];omega)];have g:∀k:Nat,k < 4→∃x,b[4*i.toNat+k]? =some x:=λk hk=>ZbI (by omega);obtain⟨x0,g0⟩:=g 0 (by omega);obtain⟨x1,g1⟩:=g 1 (by omega);obtain⟨x2,g2⟩:=g 2 (by omega);obtain⟨x3,g3⟩:=g 3 (by omega);have e4:(4*i).toNat=4*i.toNat:=by omega
    obtain⟨o,ho,hoe⟩:=ZKl (l:=b.drop (4*i).toNat) (by rw[List.getElem?_drop,e4];exact g0) (by rw[List.getElem?_drop,e4];exact g1) (by rw[List.getElem?_drop,e4];exact g2) (by rw[List.getElem?_drop,e4];exact g3);rw[ho,ya,if_pos (Yf h0 (by omega)),he,ya,Zz (z:=i+1) (by omega) (by omega)];refine⟨_,rfl,⟨rfl,by dsimp only;omega,by dsimp only;omega,by dsimp only;rw[ybl];exact hw,hset o ?_ hi⟩,by dsimp only;omega⟩;have mg:∀(k:Nat)(x:UInt8),b[k]? =some x→(b.map yak)[k]? =some x.toNat:=λk x hx=>by rw[yal,hx];rfl
    have hwg:=Zk9 i.toNat (b.map yak) _ _ _ _ (mg _ _ g0) (mg _ _ g1) (mg _ _ g2) (mg _ _ g3);rw[hoe];have b0:=x0.toNat_lt;have b1:=x1.toNat_lt;have b2:=x2.toNat_lt;have b3:=x3.toNat_lt;exact(Zzr _ (by omega) hwg (by omega)).symm
   ·rw[if_neg (by simpa using h16)];rw[Zz (z:=i - 15) (by omega) (by omega),Zz (z:=i - 2) (by omega) (by omega),Zz (z:=i - 16) (by omega) (by omega),Zz (z:=i - 7) (by omega) (by omega),Zz (z:=i+1) (by omega) (by omega)];obtain⟨e1,he1⟩:=ZbI (l:=w) (i:=(i - 15).toNat) (by omega);obtain⟨e2,he2⟩:=ZbI (l:=w) (i:=(i - 2).toNat) (by omega);obtain⟨e3,he3⟩:=ZbI (l:=w) (i:=(i - 16).toNat) (by omega);obtain⟨e4,he4⟩:=ZbI (l:=w) (i:=(i - 7).toNat) (by omega);have v1:=hv _ _ (by omega) he1;have v2:=hv _ _ (by omega) he2;have v3:=hv _ _ (by omega) he3;have v4:=hv _ _ (by omega) he4;rw[if_pos (Yf (by omega) (by omega)),he1,ya,if_pos (Yf (by omega) (by omega)),he2,ya];obtain⟨o1,ho1,p1⟩:=Zhy e1 7 25 rfl (by omega) (z:= -7) rfl;obtain⟨o2,ho2,p2⟩:=Zhy e1 18 14 rfl (by omega) (z:= -18) rfl;obtain⟨o3,ho3,p3⟩:=Zhy e2 17 15 rfl (by omega) (z:= -17) rfl;obtain⟨o4,ho4,p4⟩:=Zhy e2 19 13 rfl (by omega) (z:= -19) rfl;rw[ho1,ya,ho2,ya,ho3,ya,ho4,ya];rw[if_pos (Yf (by omega) (by omega)),he3,ya,if_pos (Yf (by omega) (by omega)),he4,ya]
    try dsimp only
    rw[if_pos (Yf h0 (by omega)),he,ya];refine⟨_,rfl,⟨rfl,by dsimp only;omega,by dsimp only;omega,by dsimp only;rw[ybl];exact hw,hset _ ?_ hi⟩,by dsimp only;omega⟩;have hn:=Zxu (Ye (b.map yak)) (i - 16).toNat
    rw[show(i - 16).toNat+16=i.toNat by omega,show(i - 16).toNat+1=(i - 15).toNat by omega,show(i - 16).toNat+9=(i - 7).toNat by omega,show(i - 16).toNat+14=(i - 2).toNat by omega, ←v1, ←v2, ←v3, ←v4] at hn;rw[hn];rw[Zah,Zah,Zah,ZLm e1 p1 p2,ZLn e2 p3 p4];exact ZLs ..
  ·right;rw[if_neg (by simpa using hi)];exact⟨_,rfl,hw,λj x hj hx=>hv j x (by omega) hx⟩
theorem ZGq{st:List UInt32}{l:List UInt8}(hs:st.length=8)(h:l.length=64):∃o,V4 fuel st l=some o∧o.map yam=Zi3 (st.map yam) (Ye (l.map yak)):=by
 unfold V4;obtain⟨w,hw,hwl,hwv⟩:=ZGp h;obtain⟨k,hk,hkv⟩:∃k,Zk5 fuel=some k∧k.map yam=ks:=⟨_,rfl,rfl⟩;have hkl:k.length=64:=by rw[←yz (f:=yam),hkv];rfl
 generalize hws:Ye (l.map yak)=ws at hwv;rw[hw,ya,hk,ya]
 refine Exists.elim (WL (step:=VP fuel) (λs=>0≤s.1∧s.1≤64∧s.2.1=st∧s.2.2.2.1=w∧s.2.2.2.2.1=k∧s.2.2.2.2.2.length=8∧s.2.2.2.2.2.map yam=rs ws (st.map yam) s.1.toNat) (λs=>(64 - s.1).toNat)
  (λo=>o.1=st∧o.2.2.2.2.length=8∧o.2.2.2.2.map yam=rs ws (st.map yam) 64) ?_ ((0:Int),st,([0,0,0,0,0,0,0,0]:List UInt32),w,k,st) ⟨Int.le_refl _,by dsimp only;omega,rfl,rfl,rfl,hs,rfl⟩ (by dsimp only;omega)) ?_
 rotate_left
 ·rintro o ⟨h1,p0,p1,p2⟩;rw[h1,ya];have hml:(Zi3 (st.map yam) ws).length=8:=ZfZ (by rw[yz];exact hs)
  refine Exists.elim (WL (step:=VQ fuel) (λs=>0≤s.1∧s.1≤8∧s.2.1=st∧s.2.2.2.2.2.length=8∧(∀(j:Nat)x,s.2.2.2.2.2[j]? =some x→if(j:Int) < s.1 then(Zi3 (st.map yam) ws)[j]? =some x.toNat else(rs ws (st.map yam) 64)[j]? =some x.toNat)) (λs=>(8 - s.1).toNat)
   (λo=>o.2.2.2.2.map yam=Zi3 (st.map yam) ws) ?_ ((0:Int),o.1,o.2.1,o.2.2.1,o.2.2.2.1,o.2.2.2.2) ⟨Int.le_refl _,by dsimp only;omega,p0,p1,λj x hx=>by
     dsimp only at hx ⊢;rw[if_neg (by omega), ←p2,yal,hx];rfl⟩ (by dsimp only;omega)) ?_
  rotate_left
  ·rintro q ⟨h2,q2⟩;rw[h2,ya];exact⟨_,rfl,q2⟩
  ·rintro⟨i,a,b,c,d,e⟩ ⟨h0,h8,ha,he,hv⟩;dsimp only at h0 h8 ha he hv;subst ha;unfold VQ;dsimp only;by_cases hi:i < 8
   ·left;obtain⟨e1,he1⟩:=ZbI (l:=e) (i:=i.toNat) (by omega);obtain⟨e2,he2⟩:=ZbI (l:=a) (i:=i.toNat) (by omega);simp only[decide_eq_true hi,if_true,Yf h0 (show i < ((8:Nat):Int) by omega),he1,he2,ya];rw[Zz (z:=i+1) (by omega) (by omega)];refine⟨_,rfl,⟨by dsimp only;omega,by dsimp only;omega,rfl,by dsimp only;rw[ybl];exact he, ?_⟩,by dsimp only;omega⟩;intro j x hx;dsimp only at hx ⊢;by_cases hji:j=i.toNat
    ·subst hji;rw[ycr (by omega)] at hx;cases hx;rw[if_pos (by omega),Zah];have k1:=hv _ _ he1;rw[if_neg (by omega)] at k1;unfold Zi3;rw[List.getElem?_zipWith,k1,yal,he2];rfl
    ·rw[yda (Ne.symm hji)] at hx;have k1:=hv j x hx;by_cases hj:(j:Int) < i
     ·rw[if_pos hj] at k1;rw[if_pos (by omega)];exact k1
     ·rw[if_neg hj] at k1;rw[if_neg (by omega)];exact k1
   ·right;rw[if_neg (by simpa using hi)];refine⟨_,rfl, ?_⟩;dsimp only;apply ybq;intro j;rw[yal];by_cases hj:j < 8
    ·obtain⟨x,hx⟩:=ZbI (l:=e) (i:=j) (by omega);have:=hv j x hx;rw[if_pos (by omega)] at this;rw[hx,this];rfl
    ·rw[yap (by omega),yap (by omega)];rfl
 ·rintro⟨i,a,b,c,d,e⟩ ⟨h0,h64,ha,hc,hd,he,hv⟩;dsimp only at h0 h64 ha hc hd he hv;subst ha hc hd;unfold VP;dsimp only;by_cases hi:i < 64
  ·left
   match e,he,hv with
   |[x0,x1,x2,x3,x4,x5,x6,x7],_,hv=>
    obtain⟨e1,he1⟩:=ZbI (l:=d) (i:=i.toNat) (by omega);obtain⟨e2,he2⟩:=ZbI (l:=c) (i:=i.toNat) (by omega);obtain⟨o1,ho1,p1⟩:=Zhy x4 6 26 rfl (by omega) (z:= -6) rfl;obtain⟨o2,ho2,p2⟩:=Zhy x4 11 21 rfl (by omega) (z:= -11) rfl;obtain⟨o3,ho3,p3⟩:=Zhy x4 25 7 rfl (by omega) (z:= -25) rfl;obtain⟨o4,ho4,p4⟩:=Zhy x0 2 30 rfl (by omega) (z:= -2) rfl;obtain⟨o5,ho5,p5⟩:=Zhy x0 13 19 rfl (by omega) (z:= -13) rfl;obtain⟨o6,ho6,p6⟩:=Zhy x0 22 10 rfl (by omega) (z:= -22) rfl;generalize ZS fuel=R at ho1 ho2 ho3 ho4 ho5 ho6 ⊢;rw[if_pos (decide_eq_true hi)];simp only[yar,yaq];rw[ya,ho1,ya,ya,ho2,ya,ya,ho3,ya,ya,ya,ya,ya,ya];rw[if_pos (Yf h0 (show i < ((64:Nat):Int) by omega)),he1,ya,if_pos (Yf h0 (show i < ((64:Nat):Int) by omega)),he2,ya,ya,ho4,ya,ya,ho5,ya,ya,ho6];rw[ya,ya,ya,ya,ya,ya];rw[ya,ya,ya,ya,ya,ya,ya];rw[Zz (z:=i+1) (by omega) (by omega)];refine⟨_,rfl,⟨by dsimp only;omega,by dsimp only;omega,rfl,rfl,rfl,rfl, ?_⟩,by dsimp only;omega⟩;dsimp only;rw[show(i+1).toNat=i.toNat+1 by omega,show rs ws (a.map yam) (i.toNat+1)=rnd (rs ws (a.map yam) i.toNat) (ks.getD i.toNat 0) (wd ws i.toNat) from rfl, ←hv]
    have hk1:ks.getD i.toNat 0=e1.toNat:=by
     rw[←hkv,ycw,yal,he1];rfl
    rw[hk1, ←hwv i.toNat e2 (by omega) he2];simp only[yag,List.map_nil];rw[ZtE]
    have kt:((x7+((o1^^^o2)^^^o3))+(x6^^^(x4&&&(x5^^^x6)))+e1+e2).toNat=lo (yu (yu (yu (yu x7.toNat (S1 x4.toNat)) (ch x4.toNat x5.toNat x6.toNat)) e1.toNat) e2.toNat):=by
     rw[Zah,Zah,Zah,Zah,ZLp x4 p1 p2 p3,ZLq];exact ZLt ..
    have ka:((x7+((o1^^^o2)^^^o3))+(x6^^^(x4&&&(x5^^^x6)))+e1+e2+((o4^^^o5)^^^o6)+((x0&&&x1)|||(x2&&&(x0|||x1)))).toNat=lo (yu (yu (yu (yu (yu (yu x7.toNat (S1 x4.toNat)) (ch x4.toNat x5.toNat x6.toNat)) e1.toNat) e2.toNat) (S0 x0.toNat)) (mj x0.toNat x1.toNat x2.toNat)):=by
     rw[Zah,Zah,kt,ZLo x0 p4 p5 p6,ZLr];exact ZLu ..
    have ke:(x3+(((x7+((o1^^^o2)^^^o3))+(x6^^^(x4&&&(x5^^^x6))))+e1+e2)).toNat=lo (yu x3.toNat (yu (yu (yu (yu x7.toNat (S1 x4.toNat)) (ch x4.toNat x5.toNat x6.toNat)) e1.toNat) e2.toNat)):=by
     rw[Zah,kt];exact ZLv ..
    rw[ka,ke]
  ·right;rw[if_neg (by simpa using hi)];have e64:i=64:=by omega
   subst e64;exact⟨_,rfl,rfl,he,hv⟩
def ZDX(n:Nat):List UInt8:=(be8 n).map yat
theorem ZCy{n:Nat}{b:List UInt8}(h:b.length≤1000000000000):Vf fuel (n:Int) b=some (b++ZDX n):=by
 unfold Vf
 obtain⟨o,h1,h2⟩:=WL (step:=Q8 fuel) (λs=>∃k:Nat,k≤8∧s.1=(n:Int)∧s.2.1=56 - 8*(k:Int)∧s.2.2.1=b++(ZDX n).take k) (λs=>(s.2.1+8).toNat) (λo=>o.1=b++ZDX n) (by
  rintro⟨a,i,c,d⟩ ⟨k,hk,ha,hi,hc⟩;dsimp only at ha hi hc;subst ha;unfold Q8;dsimp only;have hcl:c.length≤b.length+8:=by rw[hc,yp,yai];omega
  by_cases h0:i ≥ 0
  ·left;rw[if_pos (decide_eq_true h0),if_pos (decide_eq_true h0),if_pos (Z2 (by omega) (by omega)),Zz (z:=i - 8) (by omega) (by omega)];refine⟨_,rfl,⟨k+1,by omega,rfl,by dsimp only;omega, ?_⟩,by dsimp only;omega⟩;dsimp only
   have hw:∀m:Nat,w8 (Int.fdiv (n:Int) (2 ^ m))=yat (n / 2 ^ m % 256):=by
    intro m;unfold w8;rw[Int.fdiv_eq_ediv_of_nonneg _ (by exact Int.le_of_lt (Int.pow_pos (by omega)))];congr 1
   have hmin:min i.toNat 64=56 - 8*k:=by omega
   rw[hmin,hw,hc,yaj];congr 1;have hk8:k < 8:=by omega
   match k,hk8 with
   |0,_=>rfl
   |1,_=>rfl
   |2,_=>rfl
   |3,_=>rfl
   |4,_=>rfl
   |5,_=>rfl
   |6,_=>rfl
   |7,_=>
    show _++[yat (n / 2 ^ 0 % 256)]=_;rw[Nat.pow_zero,Nat.div_one];rfl
  ·right;rw[if_neg (by simpa using h0)];have hk8:k=8:=by omega
   subst hk8;exact⟨_,rfl,hc⟩) (((n:Int),(56:Int),b,([]:List UInt8))) ⟨0,by omega,rfl,by simp,by simp⟩ (by dsimp only;omega)
 rw[h1,ya,h2]
theorem ZKm{l:List UInt8}(h:l.length≤4294967296):ZfY fuel l=some (sha l):=by
 unfold ZfY
 have hm:yaw (l.length:Int) 64=((l.length % 64:Nat):Int):=by
  rw[Int.tmod_eq_emod_of_nonneg (by omega)];omega
 have hlt:l.length % 64 < 64:=ybb _ (by omega);have hle:l.length % 64≤l.length:=Nat.mod_le _ _;rw[hm,Zz (z:=(l.length:Int) - ((l.length % 64:Nat):Int)) (by omega) (by omega)];dsimp only;rw[if_pos (by simp only[Zbt,yj,decide_eq_true_eq];omega)];have hq:((l.length:Int) - ((l.length % 64:Nat):Int)).toNat=64*(l.length / 64):=by omega
 rw[hq]
 have hdl:(l.drop (64*(l.length / 64))).length=l.length % 64:=by
  rw[ybx];omega
 generalize ht:l.drop (64*(l.length / 64))=t at hdl
 have hcl:Yb fuel t=some t:=by
  unfold Yb;rw[if_pos (Z2 (by omega) (by omega))]
 rw[hcl,ya,if_pos (Z2 (by omega) (by omega))];generalize hz:yzz=z;have hzl:z.length=32:=by rw[←hz];rfl
 have hzs:zs l.length=(119 - t.length) % 64:=by unfold zs;rw[hdl]
 obtain⟨o,h1,p1,p2,p3⟩:=WL (step:=Zdf fuel) (λs=>s.1=l∧s.2.1=z∧∃j,j≤zs l.length∧s.2.2=t++([128]:List UInt8)++yy j 0) (λs=>184 - s.2.2.length)
  (λo=>o.1=l∧o.2.1=z∧o.2.2=t++([128]:List UInt8)++yy (zs l.length) 0) (by
  rintro⟨a,b,c⟩ ⟨k1,k2,j,k3,k4⟩;dsimp only at k1 k2 k3 k4;have hcl:c.length=t.length+1+j:=by rw[k4,yp,yp,ycp];rfl
  unfold Zdf;dsimp only
  have hm:yaw (c.length:Int) 64=((c.length % 64:Nat):Int):=by
   rw[Int.tmod_eq_emod_of_nonneg (by omega)];omega
  rw[hm];by_cases hi:c.length % 64=56
  ·right;rw[if_neg (by simp;omega)];have:j=zs l.length:=by omega
   subst this;exact⟨_,rfl,k1,k2,k4⟩
  ·left;rw[if_pos (by simp;omega),if_pos (Z2 (by omega) (by omega))];have hj:j≠zs l.length:=λe=>hi (by omega);refine⟨_,rfl,⟨k1,k2,j+1,by omega, ?_⟩, ?_⟩
   ·dsimp only;rw[k4,yaj,List.replicate_succ',yaj]
   ·dsimp only;rw[yp,List.length_singleton];omega) (l,z,t++([128]:List UInt8)) ⟨rfl,rfl,0,Nat.zero_le _,by simp⟩ (by dsimp only;omega)
 rw[h1,ya,p1,p2,p3,Zz (z:=8*(l.length:Int)) (by omega) (by omega),show 8*(l.length:Int)=((8*l.length:Nat):Int) by omega,ZCy (by
  rw[yp,yp,ycp];simp;omega),ya]
 obtain⟨f,hf,hfl⟩:∃f,Zk4 fuel=some f∧f.map yam=ZcZ:=⟨_,rfl,rfl⟩;have hf8:f.length=8:=by rw[←yz (f:=yam),hfl];rfl
 rw[hf,ya];generalize hE:t++([128]:List UInt8)++yy (zs l.length) 0++ZDX (8*l.length)=E
 have hEl:E.length=64*((t.length+72) / 64):=by
  rw[←hE];simp only[yp,ycp,List.length_singleton,ZDX,yz,be8,yae,List.length_nil];omega
 obtain⟨o3,h3,r1,r2,r3,r4⟩:=WL (step:=Zdg fuel) (λs=>s.2.1=z∧s.2.2.1=E∧s.2.2.2.length=8∧∃c,c≤l.length / 64∧s.1=l.drop (64*c)∧s.2.2.2.map yam=Zf0 c (l.map yak) ZcZ) (λs=>s.1.length)
  (λx=>x.1=z∧x.2.1=E∧x.2.2.length=8∧x.2.2.map yam=Zf0 (l.length / 64) (l.map yak) ZcZ) (by
  rintro⟨a,b,c,d⟩ ⟨k1,k2,k3,j,k4,k5,k6⟩;dsimp only at k1 k2 k3 k4 k5 k6;have hal:a.length=l.length - 64*j:=by rw[k5,ybx]
  unfold Zdg;dsimp only;by_cases hi:(a.length:Int) ≥ 64
  ·left;obtain⟨m,hm1,hm2⟩:=ZGq (st:=d) (l:=a.take 64) k3 (by rw[yai];omega);rw[if_pos (decide_eq_true hi),if_pos (by simp only[Zbt,yj,decide_eq_true_eq];omega),hm1,ya,if_pos (by simp only[Zbt,yj,decide_eq_true_eq];omega)];refine⟨_,rfl,⟨k1,k2, ?_,j+1,by omega, ?_, ?_⟩,by dsimp only;rw[ybx];omega⟩
   ·dsimp only;rw[←yz (f:=yam),hm2];exact ZfZ (by rw[yz];exact k3)
   ·dsimp only;rw[k5,List.drop_drop];congr 1
   ·dsimp only;rw[hm2,ZlZ,k6,k5,ycb,List.map_drop]
  ·right;rw[if_neg (by simpa using hi)];have:j=l.length / 64:=by omega
   subst this;exact⟨_,rfl,k1,k2,k3,k6⟩) (l,z,E,f) ⟨rfl,rfl,hf8,0,Nat.zero_le _,by simp,hfl⟩ (by dsimp only;omega)
 rw[h3,ya,r1,r2];generalize hv1:Zf0 (l.length / 64) (l.map yak) ZcZ=v1 at r4
 obtain⟨o4,h4,s1,s2,s3⟩:=WL (step:=Zdh fuel) (λs=>s.2.1=z∧s.2.2.2.length=8∧∃c,c≤E.length / 64∧s.1=E.drop (64*c)∧s.2.2.2.map yam=Zf0 c (E.map yak) v1) (λs=>s.1.length)
  (λx=>x.1=z∧x.2.2.length=8∧x.2.2.map yam=Zf0 (E.length / 64) (E.map yak) v1) (by
  rintro⟨a,b,c,d⟩ ⟨k1,k3,j,k4,k5,k6⟩;dsimp only at k1 k3 k4 k5 k6;have hal:a.length=E.length - 64*j:=by rw[k5,ybx]
  unfold Zdh;dsimp only;by_cases hi:(a.length:Int) > 0
  ·left;obtain⟨m,hm1,hm2⟩:=ZGq (st:=d) (l:=a.take 64) k3 (by rw[yai];omega);rw[if_pos (decide_eq_true hi),if_pos (by simp only[Zbt,yj,decide_eq_true_eq];omega),hm1,ya,if_pos (by simp only[Zbt,yj,decide_eq_true_eq];omega)];refine⟨_,rfl,⟨k1, ?_,j+1,by omega, ?_, ?_⟩,by dsimp only;rw[ybx];omega⟩
   ·dsimp only;rw[←yz (f:=yam),hm2];exact ZfZ (by rw[yz];exact k3)
   ·dsimp only;rw[k5,List.drop_drop];congr 1
   ·dsimp only;rw[hm2,ZlZ,k6,k5,ycb,List.map_drop]
  ·right;rw[if_neg (by simpa using hi)];have:j=E.length / 64:=by omega
   subst this;exact⟨_,rfl,k1,k3,k6⟩) (E,z,E,o3.2.2) ⟨rfl,r3,0,Nat.zero_le _,by simp,r4⟩ (by dsimp only;omega)
 rw[h4,ya];generalize hv2:Zf0 (E.length / 64) (E.map yak) v1=v2 at s3
 obtain⟨o5,h5,t1,t2⟩:=WL (step:=Zdi fuel) (λs=>0≤s.1∧s.1≤32∧s.2.1.length=32∧s.2.2.2=o4.2.2∧∀(j:Nat),(j:Int) < s.1→s.2.1[j]? =some (Go.Sha.ZGo v2 j)) (λs=>(32 - s.1).toNat)
  (λx=>x.1.length=32∧∀(j:Nat),j < 32→x.1[j]? =some (Go.Sha.ZGo v2 j)) (by
  rintro⟨i,a,b,c⟩ ⟨h0,h32,ha,hc,hv⟩;dsimp only at h0 h32 ha hc hv;subst hc;unfold Zdi;dsimp only;by_cases hi:i < 32
  ·left;rw[if_pos (decide_eq_true hi)];have e1:Int.tdiv i 4=i / 4:=Int.tdiv_eq_ediv_of_nonneg h0;have e2:yaw i 4=i % 4:=Int.tmod_eq_emod_of_nonneg h0;rw[e1,e2,Zz (z:=i / 4) (by omega) (by omega),Zz (z:=8*(i % 4)) (by omega) (by omega),Zz (z:=24 - 8*(i % 4)) (by omega) (by omega),Zz (z:=i+1) (by omega) (by omega)];obtain⟨x1,hx1⟩:=ZbI (l:=o4.2.2) (i:=(i / 4).toNat) (by omega);obtain⟨x2,hx2⟩:=ZbI (l:=a) (i:=i.toNat) (by omega);rw[if_pos (Yf (by omega) (by omega)),hx1,ya,if_pos (decide_eq_true (by omega))]
   try dsimp only
   rw[if_pos (Yf (by omega) (by omega)),hx2,ya];refine⟨_,rfl,⟨by dsimp only;omega,by dsimp only;omega,by dsimp only;rw[ybl];exact ha,rfl, ?_⟩,by dsimp only;omega⟩;intro j hj;dsimp only at hj ⊢;by_cases hji:j=i.toNat
   ·subst hji;rw[ycr (by omega)];congr 1;unfold Go.Sha.ZGo
    have hx:v2.getD (i.toNat / 4) 0=x1.toNat:=by
     rw[←s3,ycw,yal,show i.toNat / 4=(i / 4).toNat by omega,hx1];rfl
    rw[hx,show min (24 - 8*(i % 4)).toNat 32=24 - 8*(i.toNat % 4) by omega,ZvK];unfold w8;have e3:∀m:Nat,(((m:Nat):Int) % 256).toNat=m % 256:=λm=>by omega
    rw[e3,show yaf x1.toNat (24 - 8*(i.toNat % 4))=x1.toNat >>> (24 - 8*(i.toNat % 4)) from rfl,ydc]
    exact UInt8.toNat_inj.1 (by simp)
   ·rw[yda (Ne.symm hji)];exact hv j (by omega)
  ·right;rw[if_neg (by simpa using hi)];exact⟨_,rfl,ha,λj hj=>hv j (by omega)⟩) ((0:Int),o4.1,o4.2.1,o4.2.2) ⟨Int.le_refl _,by dsimp only;omega,by dsimp only;rw[s1];exact hzl,rfl,λj hj=>by dsimp only at hj;omega⟩ (by dsimp only;omega)
 rw[h5,ya,ZBd];congr 1
 have hpad:Zf1 l=(l.take (64*(l.length / 64))).map yak++E.map yak:=by
  unfold Zf1;rw[←hE, ←ht];simp only[yav,List.map_replicate,yag,List.map_nil,ZDX,List.map_map];rw[←yaj, ←yaj, ←yaj, ←yav,ybo]
  have:be8 (8*l.length)=(be8 (8*l.length)).map (yak ∘ yat):=by
   simp[be8]
  rw[←this];simp
 have hw:((l.take (64*(l.length / 64))).map yak).length=64*(l.length / 64):=by
  rw[yz,yai];omega
 have hv:v2=Zf0 ((l.length+72) / 64) (Zf1 l) ZcZ:=by
  rw[hpad,show(l.length+72) / 64=l.length / 64+E.length / 64 by omega,ZtG _ _ _ _ _ hw, ←hv2, ←hv1];congr 1;have:=ZtG (l.length / 64) 0 _ ((l.drop (64*(l.length / 64))).map yak) ZcZ hw;rw[←yav,ybo,Nat.add_zero] at this;exact this
 rw[←hv];apply ybq;intro j;by_cases hj:j < 32
 ·rw[t2 j hj,yal,List.getElem?_range hj];rfl
 ·rw[yap (by omega),yap (by simp;omega)]
noncomputable def Zfn(F:Nat)(a0:List UInt8):Option (List UInt8):=if decide (a0.length≤4294967296)=true then some (sha a0) else ZfY F a0
noncomputable def Zzs(F:Nat):Fs yc:={ Zi2 F with M:=λx=>Zfn F x}
noncomputable def ZtI:Fs yc:=Zzs fuel
theorem Zzt:ZtI.Ok:=Zno (s:=Zi2 fuel) Zxs λx=>by
 show Zfn fuel x=ZfY fuel x;unfold Zfn;split
 ·rename_i h;exact(ZKm (of_decide_eq_true h)).symm
 ·rfl
theorem ZIm{l:List UInt8}(h:l.length≤4294967296):Zfn fuel l=some (sha l):=if_pos (decide_eq_true h)
end Go.Proofs.YtmkgbalfkhaflaaGreat
end
section
set_option maxRecDepth 4000
namespace Go.Proofs.YtmkgbalfkhaflaaGreat
open Go Go.Ev
noncomputable section
def Zid:Fs yc:=⟨116,[.nil .u8,.v yI],[],[yI],QM.xs,λx=>QM.M (x,([]:List UInt8))⟩
theorem ZoS:Zid.Ok:=ZJ0 (i1:=[yI]) (i2:=[yI,(.sl .u8)]) (λx=>(x,([]:List UInt8))) Zei (λ_=>rfl) (λ_=>⟨_,rfl⟩)
def Ze9(F:Nat)(s:((List (List UInt8))×Int×Int×(List UInt8)×(List UInt8))):Option (((List (List UInt8))×Int×Int×(List UInt8)×(List UInt8))⊕((List UInt8)×(List UInt8))):=
 if(decide (s.2.2.1 < s.2.1))=true then
  (idx s.1 s.2.2.1).bind λe376=>
  (Vf F (e376.length:Int) s.2.2.2.2).bind λo377=>
  if(apB o377.length e376.length 1)=true then
   some (.inl (s.1,s.2.1,wi (s.2.2.1+1),s.2.2.2.1,o377++e376))
  else
  none
 else
 some (.inr (s.2.2.2.1,s.2.2.2.2))
def ZqU:Lp:=⟨[(4,.ref 0 []),(5,.own 1 .u8),(13,.v (.sl (.sl .u8))),(14,.v yI),(15,.v yI)],[.var (.v (.arr 32 .u8)) true,.log .u8 5],[(.sl (.sl .u8)),yI,yI,(.arr 32 .u8),(.sl .u8)],[⟨.exit 0,[(4,.ref 0 []),(5,.own 1 .u8)],[.var (.v (.arr 32 .u8)) true,.log .u8 5],[(.arr 32 .u8),(.sl .u8)]⟩],Zb (Ze9 fuel) fuel⟩
def ZLx:HI:={ own:=[5,10,12,19,22,24],still:=[9,19,21,26]}
theorem ZtJ:ZqU.okA yc 57 0:=ZC ZLx [] [QM] ⟨Zei,ytt⟩
def Zc0(F:Nat)(a0:ByteArray)(a1:(List (List UInt8))):Option ((List UInt8)):=
 (Vf F (a0.size:Int) []).bind λo375=>
 if(apB o375.length ((Zl9 a0).length) 1)=true then
  (Zb (Ze9 F) F (a1,(a1.length:Int),0,yzz,o375++(Zl9 a0))).bind λo378=>
  (Zfn F o378.2).bind λo379=>
  some o379
 else
 none
def Zi4:Fs yc:=⟨57,[.v .str,.v (.sl (.sl .u8))],[],[.str,(.sl (.sl .u8))],[⟨.ret,[(0,.v (.arr 32 .u8))],[],[(.arr 32 .u8)]⟩],λx=>Zc0 fuel x.1 x.2⟩
theorem Zla:Zi4.Ok:=fnO ZLx [(0,ZqU)] [Zid,ZtI] ⟨ZoS,Zzt,ytt⟩ ⟨ZtJ,ytt⟩
def Zdj(F:Nat)(a0:(List UInt8))(a1:(List UInt8)):Option ((List UInt8)):=
 (Za6 F a0 a1).bind λo380=>
 some o380
def Zlb:Fs yc:=⟨118,[.v (.sl .u8),.v (.arr 32 .u8)],[],[(.sl .u8),(.arr 32 .u8)],[⟨.ret,[(0,.v (.sl .u8))],[],[(.sl .u8)]⟩],λx=>Zdj fuel x.1 x.2⟩
theorem Zrv:Zlb.Ok:=fnO { still:=[4,5,6],frz:=[6]} [] [Zg5] ⟨ZiX,ytt⟩
def ZbY(F:Nat)(a0:(List UInt8))(a1:(List UInt8)):Option ((List UInt8)):=
 (Zia F (a1.length:Int)).bind λo381=>
 (YT F [a0,o381,a1]).bind λo382=>
 some o382
def ZjT:Fs yc:=⟨119,[.v (.sl .u8),.v (.sl .u8)],[],[(.sl .u8),(.sl .u8)],[⟨.ret,[(0,.v (.sl .u8))],[],[(.sl .u8)]⟩],λx=>ZbY fuel x.1 x.2⟩
theorem ZpW:ZjT.Ok:=fnO { still:=[4,7,10]} [] [Znr,WH] ⟨ZqP,QI,ytt⟩
def Zfa(F:Nat)(s:((List UInt8)×(List In)×Int×Int×Tx)):Option (((List UInt8)×(List In)×Int×Int×Tx)⊕((List UInt8)×Tx)):=
 if(decide (s.2.2.2.1 < s.2.2.1))=true then
  (idx s.2.1 s.2.2.2.1).bind λe384=>
  (Zdj F s.1 e384.1.1).bind λo385=>
  (WM F o385 e384.1.2).bind λo386=>
  some (.inl (o386,s.2.1,s.2.2.1,wi (s.2.2.2.1+1),s.2.2.2.2))
 else
 some (.inr (s.1,s.2.2.2.2))
def ZqV:Lp:=⟨[(1,.ref 0 []),(3,.v (.sl .u8)),(13,.v (.sl yIn)),(14,.v yI),(15,.v yI)],[.var (.v yTx) true],[(.sl .u8),(.sl yIn),yI,yI,yTx],[⟨.exit 0,[(1,.ref 0 []),(3,.v (.sl .u8))],[.var (.v yTx) true],[(.sl .u8),yTx]⟩],Zb (Zfa fuel) fuel⟩
def ZKn:HI:={ still:=[2,10,19,22,23,26,29,32,41,43,44,46,47,50,52]}
theorem ZtK:ZqV.okA yc 58 0:=ZC ZKn [] [Zlb,ZcW] ⟨Zrv,ZdD,ytt⟩
def Zfb(F:Nat)(s:((List UInt8)×(List Out)×Int×Int×Tx)):Option (((List UInt8)×(List Out)×Int×Int×Tx)⊕((List UInt8)×Tx)):=
 if(decide (s.2.2.2.1 < s.2.2.1))=true then
  (idx s.2.1 s.2.2.2.1).bind λe389=>
  (WM F s.1 e389.1).bind λo390=>
  (VE F e389.2).bind λo391=>
  (ZbY F o390 o391).bind λo392=>
  some (.inl (o392,s.2.1,s.2.2.1,wi (s.2.2.2.1+1),s.2.2.2.2))
 else
 some (.inr (s.1,s.2.2.2.2))
def ZqW:Lp:=⟨[(1,.ref 0 []),(3,.v (.sl .u8)),(35,.v (.sl ZF)),(36,.v yI),(37,.v yI)],[.var (.v yTx) true],[(.sl .u8),(.sl ZF),yI,yI,yTx],[⟨.exit 2,[(1,.ref 0 []),(3,.v (.sl .u8))],[.var (.v yTx) true],[(.sl .u8),yTx]⟩],Zb (Zfb fuel) fuel⟩
theorem ZtL:ZqW.okA yc 58 1:=ZC ZKn [] [ZcW,ZbT,ZjT] ⟨ZdD,Zat,ZpW,ytt⟩
def Zl0(F:Nat)(a0:Tx):Option ((List UInt8)):=
 (WM F [] (a0.1.length:Int)).bind λo383=>
 (Zb (Zfa F) F (o383,a0.1,(a0.1.length:Int),0,a0)).bind λo387=>
 (WM F o387.1 (o387.2.2.1.length:Int)).bind λo388=>
 (Zb (Zfb F) F (o388,o387.2.2.1,(o387.2.2.1.length:Int),0,o387.2)).bind λo393=>
 (WM F o393.1 o393.2.2.2).bind λo394=>
 some o394
def ZtM:Fs yc:=⟨58,[.v yTx],[],[yTx],[⟨.ret,[(0,.v (.sl .u8))],[],[(.sl .u8)]⟩],λx=>Zl0 fuel x⟩
theorem Zzu:ZtM.Ok:=fnO ZKn [(0,ZqV),(1,ZqW)] [ZcW] ⟨ZdD,ytt⟩ ⟨ZtK,ZtL,ytt⟩
def ZGr:ByteArray:=⟨#[116,120]⟩
def Zf2(F:Nat)(a0:Tx):Option ((List UInt8)):=
 (Zbm F a0).bind λo395=>
 if(!o395)=true then
  some yzz
 else
 (Zl0 F a0).bind λo396=>
 (Zc0 F ZGr [o396]).bind λo397=>
 some o397
def ZtN(F:Nat):Fs yc:=⟨20,[.v yTx],[],[yTx],[⟨.ret,[(0,.v (.arr 32 .u8))],[],[(.arr 32 .u8)]⟩],λx=>Zf2 F x⟩
def Zl1:Fs yc:=ZtN fuel
theorem Zie:Zl1.Ok:=fnO { still:=[3,7,9]} [] [ZfX,ZtM,Zi4] ⟨Zg6,Zzu,Zla,ytt⟩
def Q9(F:Nat)(a0:UInt64):Option (Bool):=
 some (decide (a0 < 2305843009213688669))
def Zhz:Fs yc:=⟨112,[.v .u64],[],[.u64],[⟨.ret,[(0,.v .bool)],[],[.bool]⟩],λx=>Q9 fuel x⟩
theorem Zlc:Zhz.Ok:=fnO { still:=[2]} [] [] trivial
def Zl2(F:Nat)(a0:UInt64):Option (Bool):=
 (Q9 F a0).bind λo398=>
 if o398=true then
  some (a0 !=0)
 else
 some false
def ZtO:Fs yc:=⟨140,[.v .u64],[],[.u64],[⟨.ret,[(0,.v .bool)],[],[.bool]⟩],λx=>Zl2 fuel x⟩
theorem Zzv:ZtO.Ok:=fnO { still:=[2,3]} [] [Zhz] ⟨Zlc,ytt⟩
def Zaa(F:Nat)(a0:UInt64):Option (UInt64):=
 (XN F a0).bind λo399=>
 if o399=true then
  some a0
 else
 some 1
def Zdk:Fs yc:=⟨138,[.v .u64],[],[.u64],[⟨.ret,[(0,.v .u64)],[],[.u64]⟩],λx=>Zaa fuel x⟩
theorem Zf3:Zdk.Ok:=fnO { still:=[2,3]} [] [Qc] ⟨QE,ytt⟩
def ZbZ(F:Nat)(a0:UInt64)(a1:UInt64):Option (UInt64):=
 (Zaa F a0).bind λo400=>
 (Q7 F o400 (a1 % 2305843009213688669)).bind λo401=>
 some o401
def ZhA:Fs yc:=⟨95,[.v .u64,.v .u64],[],[.u64,.u64],[⟨.ret,[(0,.v .u64)],[],[.u64]⟩],λx=>ZbZ fuel x.1 x.2⟩
theorem Zld:ZhA.Ok:=fnO { still:=[4,5,6,8]} [] [Zdk,Zdb] ⟨Zf3,ZfK,ytt⟩
def Y7(F:Nat)(a0:UInt64):Option (UInt64):=
 (ZbZ F 4 a0).bind λo402=>
 some o402
def Zab:Fs yc:=⟨35,[.v .u64],[],[.u64],[⟨.ret,[(0,.v .u64)],[],[.u64]⟩],λx=>Y7 fuel x⟩
theorem Zax:Zab.Ok:=fnO { still:=[2,3]} [] [ZhA] ⟨Zld,ytt⟩
def QN(F:Nat)(s:(UInt64×(List UInt8)×Int×(List UInt8))):Option ((UInt64×(List UInt8)×Int×(List UInt8))⊕(UInt64×(List UInt8))):=
 if(decide (s.2.2.1 < 32))=true then
  (idx s.2.1 s.2.2.1).bind λe403=>
  (WR F (ZL s.1 56) ((Qh s.1 8)|||(yad e403.toNat)) 2305843009213688668).bind λo404=>
  some (.inl (o404,s.2.1,wi (s.2.2.1+1),s.2.2.2))
 else
 some (.inr (s.1,s.2.2.2))
def ZmR:Lp:=⟨[(3,.v .u64),(6,.v (.arr 32 .u8)),(7,.v yI)],[.var (.v (.arr 32 .u8)) true],[.u64,(.arr 32 .u8),yI,(.arr 32 .u8)],[⟨.exit 0,[(3,.v .u64)],[.var (.v (.arr 32 .u8)) true],[.u64,(.arr 32 .u8)]⟩],Zb (QN fuel) fuel⟩
theorem ZpX:ZmR.okA yc 142 0:=ZC { still:=[2,11,16]} [] [ZeW] ⟨Zhm,ytt⟩
def ZdG(F:Nat)(a0:(List UInt8)):Option (UInt64):=
 (Zb (QN F) F (0,a0,0,a0)).bind λo405=>
 some (o405.1+1)
def Zi5:Fs yc:=⟨142,[.v (.arr 32 .u8)],[],[(.arr 32 .u8)],[⟨.ret,[(0,.v .u64)],[],[.u64]⟩],λx=>ZdG fuel x⟩
theorem ZmS:Zi5.Ok:=fnO { still:=[2,11,16]} [(0,ZmR)] [] trivial ⟨ZpX,ytt⟩
def QO(F:Nat)(s:(UInt64×Int×Int×(List UInt8))):Option ((UInt64×Int×Int×(List UInt8))⊕(List UInt8)):=
 if(decide (s.2.2.1 < s.2.1))=true then
  if(decide (0≤wi (56 - (wi (8*s.2.2.1)))))=true then
   let y406:UInt64:=ZL s.1 (min (wi (56 - (wi (8*s.2.2.1)))).toNat 64)
   if(inB s.2.2.1 8)=true then
    (s.2.2.2[(0+s.2.2.1.toNat)]?).bind λe407=>
    let y408:(List UInt8):=s.2.2.2.set (0+s.2.2.1.toNat) (w8 (y406.toNat:Int))
    some (.inl (s.1,s.2.1,wi (s.2.2.1+1),y408))
   else
   none
  else
  none
 else
 some (.inr s.2.2.2)
def ZmT:Lp:=⟨[(0,.v .u64),(3,.view 0 [] 1 0 8),(7,.v yI),(8,.v yI)],[.var (.v (.arr 8 .u8)) true],[.u64,yI,yI,(.arr 8 .u8)],[⟨.exit 0,[(3,.view 0 [] 1 0 8)],[.var (.v (.arr 8 .u8)) true],[(.arr 8 .u8)]⟩],Zb (QO fuel) fuel⟩
theorem ZpY:ZmT.okA yc 143 0:=ZC { still:=[2]} [] [] trivial
def Zbn(F:Nat)(a0:UInt64):Option ((List UInt8)):=
 (Zb (QO F) F (a0,8,0,[0,0,0,0,0,0,0,0])).bind λo409=>
 some ((o409.drop 0).take 8)
def Zi6:Fs yc:=⟨143,[.v .u64],[],[.u64],[⟨.ret,[(0,.v (.sl .u8))],[],[(.sl .u8)]⟩],λx=>Zbn fuel x⟩
theorem ZmU:Zi6.Ok:=fnO { still:=[2]} [(0,ZmT)] [] trivial ⟨ZpY,ytt⟩
def ZI4:ByteArray:=⟨#[115,105,103]⟩
def V5(F:Nat)(a0:UInt64)(a1:UInt64)(a2:(List UInt8)):Option (UInt64):=
 (Zbn F a0).bind λo410=>
 (Zbn F a1).bind λo411=>
 (Zc0 F ZI4 [o410,o411,a2]).bind λo412=>
 (ZdG F o412).bind λo413=>
 some o413
def Zc1:Fs yc:=⟨114,[.v .u64,.v .u64,.v (.arr 32 .u8)],[],[.u64,.u64,(.arr 32 .u8)],[⟨.ret,[(0,.v .u64)],[],[.u64]⟩],λx=>V5 fuel x.1 x.2.1 x.2.2⟩
def ZMe:HI:={ still:=[6,7,9,12,13],frz:=[11]}
theorem Zhb:Zc1.Ok:=fnO ZMe [] [Zi6,Zi4,Zi5] ⟨ZmU,Zla,ZmS,ytt⟩
def Zdl(F:Nat)(s:(UInt64×(List UInt64)×Int×Int)):Option ((UInt64×(List UInt64)×Int×Int)⊕UInt64):=
 if(decide (s.2.2.2 < s.2.2.1))=true then
  (idx s.2.1 s.2.2.2).bind λe414=>
  (Zaa F e414).bind λo415=>
  (Yr F s.1 o415).bind λo416=>
  some (.inl (o416,s.2.1,s.2.2.1,wi (s.2.2.2+1)))
 else
 some (.inr s.1)
def ZoT:Lp:=⟨[(3,.v .u64),(6,.v (.sl .u64)),(7,.v yI),(8,.v yI)],[],[.u64,(.sl .u64),yI,yI],[⟨.exit 0,[(3,.v .u64)],[],[.u64]⟩],Zb (Zdl fuel) fuel⟩
theorem Zrw:ZoT.okA yc 113 0:=ZC { still:=[2,12,13,14]} [] [Zdk,Zhn] ⟨Zf3,ZkL,ytt⟩
def Zf4(F:Nat)(a0:(List UInt64)):Option (UInt64):=
 (Zb (Zdl F) F (1,a0,(a0.length:Int),0)).bind λo417=>
 some o417
def Zle:Fs yc:=⟨113,[.v (.sl .u64)],[],[(.sl .u64)],[⟨.ret,[(0,.v .u64)],[],[.u64]⟩],λx=>Zf4 fuel x⟩
theorem ZoU:Zle.Ok:=fnO { still:=[2,12,13,14]} [(0,ZoT)] [] trivial ⟨Zrw,ytt⟩
def Zi7(F:Nat)(a0:UInt64)(a1:UInt64):Option (UInt64):=
 (Zf4 F [a0,a1]).bind λo418=>
 some o418
def ZqX:Fs yc:=⟨169,[.v .u64,.v .u64],[],[.u64,.u64],[⟨.ret,[(0,.v .u64)],[],[.u64]⟩],λx=>Zi7 fuel x.1 x.2⟩
theorem Zxw:ZqX.Ok:=fnO { still:=[4,7]} [] [Zle] ⟨ZoU,ytt⟩
def Zc2(F:Nat)(a0:UInt64):Option (UInt64):=
 some (a0 % 2305843009213688669)
def Znu:Fs yc:=⟨182,[.v .u64],[],[.u64],[⟨.ret,[(0,.v .u64)],[],[.u64]⟩],λx=>Zc2 fuel x⟩
theorem ZqY:Znu.Ok:=fnO { still:=[2]} [] [] trivial
def Zej(F:Nat)(a0:UInt64)(a1:UInt64):Option (UInt64):=
 some ((a0+a1) % 2305843009213688669)
def Zif:Fs yc:=⟨183,[.v .u64,.v .u64],[],[.u64,.u64],[⟨.ret,[(0,.v .u64)],[],[.u64]⟩],λx=>Zej fuel x.1 x.2⟩
theorem ZoV:Zif.Ok:=fnO { still:=[4]} [] [] trivial
def Zi8(F:Nat)(a0:UInt64)(a1:UInt64):Option (UInt64):=
 (Zc2 F a0).bind λo419=>
 (Zc2 F a1).bind λo420=>
 (Zej F o419 o420).bind λo421=>
 some o421
def ZqZ:Fs yc:=⟨170,[.v .u64,.v .u64],[],[.u64,.u64],[⟨.ret,[(0,.v .u64)],[],[.u64]⟩],λx=>Zi8 fuel x.1 x.2⟩
theorem Zxx:ZqZ.Ok:=fnO { still:=[4,5,6,7,8]} [] [Znu,Zif] ⟨ZqY,ZoV,ytt⟩
def Zc3(F:Nat)(a0:UInt64)(a1:UInt64):Option (UInt64):=
 (ZdA F a0 a1).bind λo422=>
 (WR F o422.1 o422.2 2305843009213688669).bind λo423=>
 some o423
def Zhc:Fs yc:=⟨184,[.v .u64,.v .u64],[],[.u64,.u64],[⟨.ret,[(0,.v .u64)],[],[.u64]⟩],λx=>Zc3 fuel x.1 x.2⟩
theorem Znv:Zhc.Ok:=fnO { still:=[4,8,9,13,14]} [] [ZiT,ZeW] ⟨ZmE,Zhm,ytt⟩
def Zi9(F:Nat)(a0:UInt64)(a1:UInt64):Option (UInt64):=
 (Zc2 F a0).bind λo424=>
 (Zc2 F a1).bind λo425=>
 (Zc3 F o424 o425).bind λo426=>
 some o426
def Zq0:Fs yc:=⟨171,[.v .u64,.v .u64],[],[.u64,.u64],[⟨.ret,[(0,.v .u64)],[],[.u64]⟩],λx=>Zi9 fuel x.1 x.2⟩
theorem Zxy:Zq0.Ok:=fnO { still:=[4,5,6,7,8]} [] [Znu,Zhc] ⟨ZqY,Znv,ytt⟩
def Zja(F:Nat)(a0:UInt64)(a1:UInt64)(a2:(List UInt8))(a3:UInt64):Option (Sig):=
 (Y7 F a1).bind λo427=>
 (Zi7 F o427 a3).bind λo428=>
 (Y7 F a0).bind λo429=>
 (V5 F o428 o429 a2).bind λo430=>
 (Zi9 F o430 a0).bind λo431=>
 (Zi8 F a1 o431).bind λo432=>
 some (o428,o432)
def ZmV:Fs yc:=⟨141,[.v .u64,.v .u64,.v (.arr 32 .u8),.v .u64],[],[.u64,.u64,(.arr 32 .u8),.u64],[⟨.ret,[(0,.v ZX)],[],[ZX]⟩],λx=>Zja fuel x.1 x.2.1 x.2.2.1 x.2.2.2⟩
def ZMf:HI:={ still:=[9,10,11,14,16,17,18,19,20,21,22]}
theorem ZtP:ZmV.Ok:=fnO ZMf [] [Zab,ZqX,Zc1,Zq0,ZqZ] ⟨Zax,Zxw,Zhb,Zxy,Zxx,ytt⟩
def ZI5:ByteArray:=⟨#[110,111,110,99,101]⟩
def sign_SignM(F:Nat)(a0:UInt64)(a1:(List UInt8)):Option (Sig):=
 (Zl2 F a0).bind λo433=>
 if(!o433)=true then
  some (0,0)
 else
 (Zbn F a0).bind λo434=>
 (Zc0 F ZI5 [o434,a1]).bind λo435=>
 (ZdG F o435).bind λo436=>
 (Zja F a0 o436 a1 1).bind λo437=>
 some o437
def Zq1:Fs yc:=⟨101,[.v .u64,.v (.arr 32 .u8)],[],[.u64,(.arr 32 .u8)],[⟨.ret,[(0,.v ZX)],[],[ZX]⟩],λx=>sign_SignM fuel x.1 x.2⟩
def ZMg:HI:={ still:=[5,9,10,13,14,15,16],frz:=[12]}
theorem Zxz:Zq1.Ok:=fnO ZMg [] [ZtO,Zi6,Zi4,Zi5,ZmV] ⟨Zzv,ZmU,Zla,ZmS,ZtP,ytt⟩
abbrev Z4:Ty:=(.st [.u64,.u64,.u64,.u64,.u64,(.arr 32 .u8)])
abbrev Kit:Type:=(UInt64×UInt64×UInt64×UInt64×UInt64×(List UInt8))
abbrev Kit.Cond(x:Kit):UInt64:=x.2.2.2.1
def Xn(F:Nat)(a0:Kit)(a1:Tx):Option (Sig):=
 (Zf2 F a1).bind λo438=>
 (sign_SignM F a0.1 o438).bind λo439=>
 some o439
def Zf5(F:Nat):Fs yc:=⟨45,[.v Z4,.v yTx],[],[Z4,yTx],[⟨.ret,[(0,.v ZX)],[],[ZX]⟩],λx=>Xn F x.1 x.2⟩
def ZhB:Fs yc:=Zf5 fuel
theorem Zf6:ZhB.Ok:=fnO { still:=[6,7,8]} [] [Zl1,Zq1] ⟨Zie,Zxz,ytt⟩
def Yc(F:Nat)(a0:(List UInt64)):Option ((List UInt64)):=
 if(apB 0 a0.length 8)=true then
  some a0
 else
 none
def Zrx:Fs yc:=⟨110,[.sl true .u64],[],[(.sl .u64)],[⟨.ret,[(0,.v (.sl .u64))],[],[(.sl .u64)]⟩],λx=>Yc fuel x⟩
theorem ZpZ:Zrx.Ok:=fnO { own:=[5,7],still:=[2]} [] [] trivial
def Zhd(F:Nat):Option ((List UInt64)):=
 some []
def Znw:Fs yc:=⟨110,[.nil .u64],[],[],[⟨.ret,[(0,.v (.sl .u64))],[],[(.sl .u64)]⟩],λx=>Zhd fuel⟩
theorem Zmf:Znw.Ok:=fnO { own:=[5,7],still:=[2]} [] [] trivial
def WW:Fs yc:=⟨110,[.v (.sl .u64)],[],[(.sl .u64)],[⟨.ret,[(0,.v (.sl .u64))],[],[(.sl .u64)]⟩],λx=>Yc fuel x⟩
theorem VR:WW.Ok:=ZpJ (t:=.u64) (xs:=[⟨.ret,[(0,.v (.sl .u64))],[],[(.sl .u64)]⟩]) (MA:=λ(x:(List UInt64))=>Yc fuel x) (MB:=λ_=>Zhd fuel) ZpZ Zmf rfl
def Zb0(F:Nat)(a0:(List Out)):Option ((List Out)):=
 if(apB 0 a0.length 32)=true then
  some a0
 else
 none
def ZuN:Fs yc:=⟨145,[.sl true ZF],[],[(.sl ZF)],[⟨.ret,[(0,.v (.sl ZF))],[],[(.sl ZF)]⟩],λx=>Zb0 fuel x⟩
theorem ZtQ:ZuN.Ok:=fnO { own:=[5,7],still:=[2]} [] [] trivial
def ZjU(F:Nat):Option ((List Out)):=
 some []
def Zp0:Fs yc:=⟨145,[.nil ZF],[],[],[⟨.ret,[(0,.v (.sl ZF))],[],[(.sl ZF)]⟩],λx=>ZjU fuel⟩
theorem ZoW:Zp0.Ok:=fnO { own:=[5,7],still:=[2]} [] [] trivial
def Zry:Fs yc:=⟨145,[.v (.sl ZF)],[],[(.sl ZF)],[⟨.ret,[(0,.v (.sl ZF))],[],[(.sl ZF)]⟩],λx=>Zb0 fuel x⟩
theorem Zp1:Zry.Ok:=ZpJ (t:=ZF) (xs:=[⟨.ret,[(0,.v (.sl ZF))],[],[(.sl ZF)]⟩]) (MA:=λ(x:(List Out))=>Zb0 fuel x) (MB:=λ_=>ZjU fuel) ZtQ ZoW rfl
def Zb1(F:Nat)(a0:(List Sig)):Option ((List Sig)):=
 if(apB 0 a0.length 16)=true then
  some a0
 else
 none
def ZDY:Fs yc:=⟨146,[.sl true ZX],[],[(.sl ZX)],[⟨.ret,[(0,.v (.sl ZX))],[],[(.sl ZX)]⟩],λx=>Zb1 fuel x⟩
theorem ZBe:ZDY.Ok:=fnO { own:=[5,7],still:=[2]} [] [] trivial
def Zq2(F:Nat):Option ((List Sig)):=
 some []
def ZxA:Fs yc:=⟨146,[.nil ZX],[],[],[⟨.ret,[(0,.v (.sl ZX))],[],[(.sl ZX)]⟩],λx=>Zq2 fuel⟩
theorem ZuO:ZxA.Ok:=fnO { own:=[5,7],still:=[2]} [] [] trivial
def Zlf:Fs yc:=⟨146,[.v (.sl ZX)],[],[(.sl ZX)],[⟨.ret,[(0,.v (.sl ZX))],[],[(.sl ZX)]⟩],λx=>Zb1 fuel x⟩
theorem ZoX:Zlf.Ok:=ZpJ (t:=ZX) (xs:=[⟨.ret,[(0,.v (.sl ZX))],[],[(.sl ZX)]⟩]) (MA:=λ(x:(List Sig))=>Zb1 fuel x) (MB:=λ_=>Zq2 fuel) ZBe ZuO rfl
def Zjb(F:Nat)(a0:(List In)):Option (((List Unit)×(List In))):=
 if(apB 0 a0.length 80)=true then
  some ([()],a0)
 else
 none
def Zzw:Fs yc:=⟨144,[.sl true yIn],[],[(.sl yIn)],[⟨.ret,[(0,.rw 0)],[.row yIn true 104],[(.sl (.st [])),(.sl yIn)]⟩],λx=>Zjb fuel x⟩
theorem ZxB:Zzw.Ok:=fnO { own:=[5,7],rowt:=[2,5,7]} [] [] trivial
def Zjc(F:Nat)(a0:(List In)):Option (((List Unit)×(List In))):=if a0.isEmpty=true then none else Zjb F a0
def ZmW:Fs yc:=⟨144,[.v (.sl yIn)],[],[(.sl yIn)],[⟨.ret,[(0,.rw 0)],[.row yIn true 104],[(.sl (.st [])),(.sl yIn)]⟩],λx=>Zjc fuel x⟩
theorem ZtR:ZmW.Ok:=Zxk (t:=yIn) (xs:=[⟨.ret,[(0,.rw 0)],[.row yIn true 104],[(.sl (.st [])),(.sl yIn)]⟩]) (MA:=λ(x:(List In))=>Zjb fuel x) ZxB rfl (λ_ _=>rfl)
def ZaS(F:Nat)(a0:(List Out)):Option (((List Unit)×(List Out))):=
 if(apB 0 a0.length 32)=true then
  some ([()],a0)
 else
 none
def Zp2:Fs yc:=⟨145,[.sl true ZF],[],[(.sl ZF)],[⟨.ret,[(0,.rw 0)],[.row ZF true 96],[(.sl (.st [])),(.sl ZF)]⟩],λx=>ZaS fuel x⟩
theorem ZoY:Zp2.Ok:=fnO { own:=[5,7],rowt:=[2,5,7]} [] [] trivial
def Zb2(F:Nat)(a0:(List Out)):Option (((List Unit)×(List Out))):=if a0.isEmpty=true then none else ZaS F a0
def Znx:Fs yc:=⟨145,[.v (.sl ZF)],[],[(.sl ZF)],[⟨.ret,[(0,.rw 0)],[.row ZF true 96],[(.sl (.st [])),(.sl ZF)]⟩],λx=>Zb2 fuel x⟩
theorem Zmg:Znx.Ok:=Zxk (t:=ZF) (xs:=[⟨.ret,[(0,.rw 0)],[.row ZF true 96],[(.sl (.st [])),(.sl ZF)]⟩]) (MA:=λ(x:(List Out))=>ZaS fuel x) ZoY rfl (λ_ _=>rfl)
def XJ(F:Nat)(a0:(List Out)):Option (((List Unit)×(List Out))⊕(List Out)):=if a0.isEmpty=true then(Zb0 F a0).map Sum.inr else(Zb2 F a0).map Sum.inl
def Zes:Fs yc:=⟨145,[.v (.sl ZF)],[],[(.sl ZF)],[⟨.ret,[(0,.rw 0)],[.row ZF true 96],[(.sl (.st [])),(.sl ZF)]⟩,⟨.ret,[(0,.v (.sl ZF))],[],[(.sl ZF)]⟩],λx=>XJ fuel x⟩
theorem Zlg:Zes.Ok:=ZLf (ins:=[(.sl ZF)]) (λx:(List Out)=>x.isEmpty) Zmg Zp1
def ZBf:HI:={ still:=[8,11,30,48,61,69],rowt:=[5,9,12,22,49,55,67]}
def QP(F:Nat)(a0:(List ZJ)):Option (((List Unit)×(List ZJ))):=
 if(apB 0 a0.length 48)=true then
  some ([()],a0)
 else
 none
def Zrz:Fs yc:=⟨130,[.sl true Zo],[],[(.sl Zo)],[⟨.ret,[(0,.rw 0)],[.row Zo true 126],[(.sl (.st [])),(.sl Zo)]⟩],λx=>QP fuel x⟩
theorem Zp3:Zrz.Ok:=fnO { own:=[5,7],rowt:=[2,5,7]} [] [] trivial
def XK(F:Nat)(a0:(List ZJ)):Option (((List Unit)×(List ZJ))):=if a0.isEmpty=true then none else QP F a0
def Qn:Fs yc:=⟨130,[.v (.sl Zo)],[],[(.sl Zo)],[⟨.ret,[(0,.rw 0)],[.row Zo true 126],[(.sl (.st [])),(.sl Zo)]⟩],λx=>XK fuel x⟩
theorem Za9:Qn.Ok:=Zxk (t:=Zo) (xs:=[⟨.ret,[(0,.rw 0)],[.row Zo true 126],[(.sl (.st [])),(.sl Zo)]⟩]) (MA:=λ(x:(List ZJ))=>QP fuel x) Zp3 rfl (λ_ _=>rfl)
abbrev dT2:Type:=(Int×Int×Int×Int×Int×Int×Tx×(List Unit)×(List In)×(List Unit)×(List Out)×(List Unit)×(List ZJ))
abbrev dT3:Type:=(Int×Int×Int×Int×Tx×(List Unit)×(List In)×(List Unit)×(List Out)×(List Unit)×(List ZJ))
abbrev tL4:List Ty:=[yI,yI,yI,yI,yTx,(.sl (.st [])),(.sl yIn),(.sl (.st [])),(.sl ZF),(.sl (.st [])),(.sl Zo)]
abbrev tL5:List Ty:=[yI,yI,yI,yI,yI,yI,yTx,(.sl (.st [])),(.sl yIn),(.sl (.st [])),(.sl ZF),(.sl (.st [])),(.sl Zo)]
abbrev dT4:Type:=(Int×Int×Int×Int×Int×(List Out)×Int×Tx×(List Unit)×(List In)×(List Unit)×(List ZJ))
abbrev tL6:List Ty:=[yI,yI,yI,(.sl ZF),yI,yTx,(.sl (.st [])),(.sl yIn),(.sl (.st [])),(.sl Zo)]
abbrev tL7:List Ty:=[yI,yI,yI,yI,yI,(.sl ZF),yI,yTx,(.sl (.st [])),(.sl yIn),(.sl (.st [])),(.sl Zo)]
def XQ(F:Nat)(s:(Int×Int×Int×Tx×(List Unit)×(List In)×(List Unit)×(List Out))):Option ((Int×Int×Int×Tx×(List Unit)×(List In)×(List Unit)×(List Out))⊕(Int×Tx×(List Unit)×(List In)×(List Unit)×(List Out))):=
 if(decide (s.2.1 < s.1))=true then
  if(inB s.2.1 s.2.2.2.2.2.1.length)=true then
   (s.2.2.2.2.2.1[s.2.1.toNat]?).bind λe494=>
   (Zb1 F e494.2.2.1).bind λo495=>
   if(inB s.2.1 s.2.2.2.2.2.1.length)=true then
    (s.2.2.2.2.2.1[s.2.1.toNat]?).bind λe496=>
    let y497:(List In):=s.2.2.2.2.2.1.set s.2.1.toNat (e496.1,(e496.2.1,o495,e496.2.2.2))
    some (.inl (s.1,wi (s.2.1+1),s.2.2.1,s.2.2.2.1,s.2.2.2.2.1,y497,s.2.2.2.2.2.2.1,s.2.2.2.2.2.2.2))
   else
   none
  else
  none
 else
 some (.inr (s.2.2.1,s.2.2.2.1,s.2.2.2.2.1,s.2.2.2.2.2.1,s.2.2.2.2.2.2.1,s.2.2.2.2.2.2.2))
def Zet:Lp:=⟨[(1,.ref 0 []),(2,.ref 1 []),(17,.v yI),(18,.v yI)],[.var (.agg [.rw 2,.rw 3,.v yI]) true,.var (.v yTx) true,.row yIn true 104,.row ZF true 96],[yI,yI,yI,yTx,(.sl (.st [])),(.sl yIn),(.sl (.st [])),(.sl ZF)],[⟨.exit 0,[(1,.ref 0 []),(2,.ref 1 [])],[.var (.agg [.rw 2,.rw 3,.v yI]) true,.var (.v yTx) true,.row yIn true 104,.row ZF true 96],[yI,yTx,(.sl (.st [])),(.sl yIn),(.sl (.st [])),(.sl ZF)]⟩],Zb (XQ fuel) fuel⟩
theorem Zjd:Zet.okA yc 102 0:=ZC ZBf [] [Zlf] ⟨ZoX,ytt⟩
def XR(F:Nat)(s:dT2):Option (dT2⊕dT3):=
 if(decide (s.2.2.2.2.1 < s.2.2.2.1))=true then
  if(inB s.2.2.2.2.1 s.2.2.2.2.2.2.2.2.2.2.2.2.length)=true then
   (s.2.2.2.2.2.2.2.2.2.2.2.2[s.2.2.2.2.1.toNat]?).bind λe501=>
   (Yc F e501.1).bind λo502=>
   if(inB s.2.2.2.2.1 s.2.2.2.2.2.2.2.2.2.2.2.2.length)=true then
    (s.2.2.2.2.2.2.2.2.2.2.2.2[s.2.2.2.2.1.toNat]?).bind λe503=>
    let y504:(List ZJ):=s.2.2.2.2.2.2.2.2.2.2.2.2.set s.2.2.2.2.1.toNat (o502,e503.2.1,e503.2.2.1,e503.2.2.2)
    some (.inl (s.1,s.2.1,s.2.2.1,s.2.2.2.1,wi (s.2.2.2.2.1+1),s.2.2.2.2.2.1,s.2.2.2.2.2.2.1,s.2.2.2.2.2.2.2.1,s.2.2.2.2.2.2.2.2.1,s.2.2.2.2.2.2.2.2.2.1,s.2.2.2.2.2.2.2.2.2.2.1,s.2.2.2.2.2.2.2.2.2.2.2.1,y504))
   else
   none
  else
  none
 else
 some (.inr (s.1,s.2.1,s.2.2.1,s.2.2.2.2.2.1,s.2.2.2.2.2.2.1,s.2.2.2.2.2.2.2.1,s.2.2.2.2.2.2.2.2.1,s.2.2.2.2.2.2.2.2.2.1,s.2.2.2.2.2.2.2.2.2.2.1,s.2.2.2.2.2.2.2.2.2.2.2.1,s.2.2.2.2.2.2.2.2.2.2.2.2))
def Zeu:Lp:=⟨[(1,.ref 0 []),(2,.ref 1 []),(4,.v yI),(5,.rw 4),(38,.v yI),(39,.v yI),(51,.v yI),(52,.v yI)],[.var (.agg [.rw 2,.rw 3,.v yI]) true,.var (.v yTx) true,.row yIn true 104,.row ZF true 96,.row Zo true 126],tL5,[⟨.exit 4,[(1,.ref 0 []),(2,.ref 1 []),(4,.v yI),(5,.rw 4),(38,.v yI),(39,.v yI)],[.var (.agg [.rw 2,.rw 3,.v yI]) true,.var (.v yTx) true,.row yIn true 104,.row ZF true 96,.row Zo true 126],tL4⟩],Zb (XR fuel) fuel⟩
theorem Zje:Zeu.okA yc 102 2:=ZC ZBf [] [WW] ⟨VR,ytt⟩
def XS(F:Nat)(s:(Int×Int×Int×Tx×(List Unit)×(List In)×(List Unit)×(List Out))):Option ((Int×Int×Int×Tx×(List Unit)×(List In)×(List Unit)×(List Out))⊕(Int×Tx×(List Unit)×(List In)×(List Unit)×(List Out))):=
 if(decide (s.2.1 < s.1))=true then
  if(inB s.2.1 s.2.2.2.2.2.2.2.length)=true then
   (s.2.2.2.2.2.2.2[s.2.1.toNat]?).bind λe499=>
   (XK F e499.2).bind λo500=>
   (Zb (XR F) F (s.2.1,s.1,s.2.1,(o500.2.length:Int),0,s.2.2.1,s.2.2.2.1,s.2.2.2.2.1,s.2.2.2.2.2.1,s.2.2.2.2.2.2.1,s.2.2.2.2.2.2.2,o500.1,o500.2)).bind λo505=>
   if(inB o505.1 o505.2.2.2.2.2.2.2.2.1.length)=true then
    (o505.2.2.2.2.2.2.2.2.1[o505.1.toNat]?).bind λe506=>
    let y507:(List Out):=o505.2.2.2.2.2.2.2.2.1.set o505.1.toNat (e506.1,o505.2.2.2.2.2.2.2.2.2.2)
    some (.inl (o505.2.1,wi (o505.2.2.1+1),o505.2.2.2.1,o505.2.2.2.2.1,o505.2.2.2.2.2.1,o505.2.2.2.2.2.2.1,o505.2.2.2.2.2.2.2.1,y507))
   else
   none
  else
  none
 else
 some (.inr (s.2.2.1,s.2.2.2.1,s.2.2.2.2.1,s.2.2.2.2.2.1,s.2.2.2.2.2.2.1,s.2.2.2.2.2.2.2))
def Zev:Lp:=⟨[(1,.ref 0 []),(2,.ref 1 []),(38,.v yI),(39,.v yI)],[.var (.agg [.rw 2,.rw 3,.v yI]) true,.var (.v yTx) true,.row yIn true 104,.row ZF true 96],[yI,yI,yI,yTx,(.sl (.st [])),(.sl yIn),(.sl (.st [])),(.sl ZF)],[⟨.exit 2,[(1,.ref 0 []),(2,.ref 1 [])],[.var (.agg [.rw 2,.rw 3,.v yI]) true,.var (.v yTx) true,.row yIn true 104,.row ZF true 96],[yI,yTx,(.sl (.st [])),(.sl yIn),(.sl (.st [])),(.sl ZF)]⟩],Zb (XS fuel) fuel⟩
theorem Zjf:Zev.okA yc 102 1:=ZC ZBf [(2,Zeu)] [Qn] ⟨Za9,ytt⟩ ⟨Zje,ytt⟩
def Xo(F:Nat)(s:(Int×Int×(List Out)×Int×Tx×(List Unit)×(List In))):Option ((Int×Int×(List Out)×Int×Tx×(List Unit)×(List In))⊕((List Out)×Int×Tx×(List Unit)×(List In))):=
 if(decide (s.2.1 < s.1))=true then
  if(inB s.2.1 s.2.2.2.2.2.2.length)=true then
   (s.2.2.2.2.2.2[s.2.1.toNat]?).bind λe510=>
   (Zb1 F e510.2.2.1).bind λo511=>
   if(inB s.2.1 s.2.2.2.2.2.2.length)=true then
    (s.2.2.2.2.2.2[s.2.1.toNat]?).bind λe512=>
    let y513:(List In):=s.2.2.2.2.2.2.set s.2.1.toNat (e512.1,(e512.2.1,o511,e512.2.2.2))
    some (.inl (s.1,wi (s.2.1+1),s.2.2.1,s.2.2.2.1,s.2.2.2.2.1,s.2.2.2.2.2.1,y513))
   else
   none
  else
  none
 else
 some (.inr (s.2.2.1,s.2.2.2.1,s.2.2.2.2.1,s.2.2.2.2.2.1,s.2.2.2.2.2.2))
def Zct:Lp:=⟨[(1,.ref 0 []),(2,.ref 1 []),(17,.v yI),(18,.v yI)],[.var (.agg [.rw 2,.v (.sl ZF),.v yI]) true,.var (.v yTx) true,.row yIn true 104],[yI,yI,(.sl ZF),yI,yTx,(.sl (.st [])),(.sl yIn)],[⟨.exit 0,[(1,.ref 0 []),(2,.ref 1 [])],[.var (.agg [.rw 2,.v (.sl ZF),.v yI]) true,.var (.v yTx) true,.row yIn true 104],[(.sl ZF),yI,yTx,(.sl (.st [])),(.sl yIn)]⟩],Zb (Xo fuel) fuel⟩
theorem ZhC:Zct.okA yc 102 0:=ZC ZBf [] [Zlf] ⟨ZoX,ytt⟩
def Zai(F:Nat)(s:dT4):Option (dT4⊕(Int×Int×Int×(List Out)×Int×Tx×(List Unit)×(List In)×(List Unit)×(List ZJ))):=
 if(decide (s.2.2.2.2.1 < s.2.2.2.1))=true then
  if(inB s.2.2.2.2.1 s.2.2.2.2.2.2.2.2.2.2.2.length)=true then
   (s.2.2.2.2.2.2.2.2.2.2.2[s.2.2.2.2.1.toNat]?).bind λe517=>
   (Yc F e517.1).bind λo518=>
   if(inB s.2.2.2.2.1 s.2.2.2.2.2.2.2.2.2.2.2.length)=true then
    (s.2.2.2.2.2.2.2.2.2.2.2[s.2.2.2.2.1.toNat]?).bind λe519=>
    let y520:(List ZJ):=s.2.2.2.2.2.2.2.2.2.2.2.set s.2.2.2.2.1.toNat (o518,e519.2.1,e519.2.2.1,e519.2.2.2)
    some (.inl (s.1,s.2.1,s.2.2.1,s.2.2.2.1,wi (s.2.2.2.2.1+1),s.2.2.2.2.2.1,s.2.2.2.2.2.2.1,s.2.2.2.2.2.2.2.1,s.2.2.2.2.2.2.2.2.1,s.2.2.2.2.2.2.2.2.2.1,s.2.2.2.2.2.2.2.2.2.2.1,y520))
   else
   none
  else
  none
 else
 some (.inr (s.1,s.2.1,s.2.2.1,s.2.2.2.2.2.1,s.2.2.2.2.2.2.1,s.2.2.2.2.2.2.2.1,s.2.2.2.2.2.2.2.2.1,s.2.2.2.2.2.2.2.2.2.1,s.2.2.2.2.2.2.2.2.2.2.1,s.2.2.2.2.2.2.2.2.2.2.2))
def Zay:Lp:=⟨[(1,.ref 0 []),(2,.ref 1 []),(4,.v yI),(5,.rw 3),(38,.v yI),(39,.v yI),(51,.v yI),(52,.v yI)],[.var (.agg [.rw 2,.v (.sl ZF),.v yI]) true,.var (.v yTx) true,.row yIn true 104,.row Zo true 126],tL7,[⟨.exit 4,[(1,.ref 0 []),(2,.ref 1 []),(4,.v yI),(5,.rw 3),(38,.v yI),(39,.v yI)],[.var (.agg [.rw 2,.v (.sl ZF),.v yI]) true,.var (.v yTx) true,.row yIn true 104,.row Zo true 126],tL6⟩],Zb (Zai fuel) fuel⟩
theorem Zfc:Zay.okA yc 102 2:=ZC ZBf [] [WW] ⟨VR,ytt⟩
def Wb(F:Nat)(s:(Int×Int×(List Out)×Int×Tx×(List Unit)×(List In))):Option ((Int×Int×(List Out)×Int×Tx×(List Unit)×(List In))⊕((List Out)×Int×Tx×(List Unit)×(List In))):=
 if(decide (s.2.1 < s.1))=true then
  (idx s.2.2.1 s.2.1).bind λe515=>
  (XK F e515.2).bind λo516=>
  (Zb (Zai F) F (s.2.1,s.1,s.2.1,(o516.2.length:Int),0,s.2.2.1,s.2.2.2.1,s.2.2.2.2.1,s.2.2.2.2.2.1,s.2.2.2.2.2.2,o516.1,o516.2)).bind λo521=>
  (idx o521.2.2.2.1 o521.1).bind λe522=>
  none
 else
 some (.inr (s.2.2.1,s.2.2.2.1,s.2.2.2.2.1,s.2.2.2.2.2.1,s.2.2.2.2.2.2))
def Zcu:Lp:=⟨[(1,.ref 0 []),(2,.ref 1 []),(38,.v yI),(39,.v yI)],[.var (.agg [.rw 2,.v (.sl ZF),.v yI]) true,.var (.v yTx) true,.row yIn true 104],[yI,yI,(.sl ZF),yI,yTx,(.sl (.st [])),(.sl yIn)],[⟨.exit 2,[(1,.ref 0 []),(2,.ref 1 [])],[.var (.agg [.rw 2,.v (.sl ZF),.v yI]) true,.var (.v yTx) true,.row yIn true 104],[(.sl ZF),yI,yTx,(.sl (.st [])),(.sl yIn)]⟩],Zb (Wb fuel) fuel⟩
theorem ZhD:Zcu.okA yc 102 1:=ZC ZBf [(2,Zay)] [Qn] ⟨Za9,ytt⟩ ⟨Zfc,ytt⟩
def Zb3(F:Nat)(a0:Tx):Option ((Int×(List Unit)×(List In)×(List Unit)×(List Out))⊕((List Out)×Int×(List Unit)×(List In))):=
 (Zjc F a0.1).bind λo491=>
 (XJ F a0.2.1).bind λo492=>
 match o492 with
 |.inl o493=>
  (Zb (XQ F) F ((o491.2.length:Int),0,a0.2.2,([],[],0),o491.1,o491.2,o493.1,o493.2)).bind λo498=>
  (Zb (XS F) F ((o498.2.2.2.2.2.length:Int),0,o498.1,o498.2.1,o498.2.2.1,o498.2.2.2.1,o498.2.2.2.2.1,o498.2.2.2.2.2)).bind λo508=>
  some (.inl (o508.1,o508.2.2.1,o508.2.2.2.1,o508.2.2.2.2.1,o508.2.2.2.2.2))
 |.inr o509=>
  (Zb (Xo F) F ((o491.2.length:Int),0,o509,a0.2.2,([],[],0),o491.1,o491.2)).bind λo514=>
  (Zb (Wb F) F ((o514.1.length:Int),0,o514.1,o514.2.1,o514.2.2.1,o514.2.2.2.1,o514.2.2.2.2)).bind λo523=>
  some (.inr (o523.1,o523.2.1,o523.2.2.2.1,o523.2.2.2.2))
def Zf7:Fs yc:=⟨102,[.v yTx],[],[yTx],[⟨.ret,[(0,.agg [.rw 0,.rw 1,.v yI])],[.row yIn true 104,.row ZF true 96],[yI,(.sl (.st [])),(.sl yIn),(.sl (.st [])),(.sl ZF)]⟩,⟨.ret,[(0,.agg [.rw 0,.v (.sl ZF),.v yI])],[.row yIn true 104],[(.sl ZF),yI,(.sl (.st [])),(.sl yIn)]⟩],λx=>Zb3 fuel x⟩
theorem Zmh:Zf7.Ok:=fnO ZBf [(0,Zet),(0,Zct),(1,Zev),(1,Zcu)] [ZmW,Zes] ⟨ZtR,Zlg,ytt⟩ ⟨Zjd,ZhC,Zjf,ZhD,ytt⟩
def VS(F:Nat)(a0:Tx)(a1:Sig)(a2:Sig):Option (Tx):=
 (Zb3 F a0).bind λo528=>
 match o528 with
 |.inl o529=>
  if(decide ((o529.2.2.1.length:Int) > 0))=true then
   if(inB 0 o529.2.2.1.length)=true then
    (o529.2.2.1[0]?).bind λe530=>
    let y531:(List In):=o529.2.2.1.set 0 (e530.1,((0:Int),([a1,a2]:List Sig),(0:UInt64)))
    some (y531,o529.2.2.2.2,o529.1)
   else
   none
  else
  some (o529.2.2.1,o529.2.2.2.2,o529.1)
 |.inr o532=>
  if(decide ((o532.2.2.2.length:Int) > 0))=true then
   if(inB 0 o532.2.2.2.length)=true then
    (o532.2.2.2[0]?).bind λe533=>
    let y534:(List In):=o532.2.2.2.set 0 (e533.1,((0:Int),([a1,a2]:List Sig),(0:UInt64)))
    some (y534,o532.1,o532.2.1)
   else
   none
  else
  some (o532.2.2.2,o532.1,o532.2.1)
def Zf8(F:Nat):Fs yc:=⟨46,[.v yTx,.v ZX,.v ZX],[],[yTx,ZX,ZX],[⟨.ret,[(0,.v yTx)],[],[yTx]⟩],λx=>VS F x.1 x.2.1 x.2.2⟩
def ZmX:Fs yc:=Zf8 fuel
def ZMh:HI:={ still:=[7],rowt:=[14],deep:=[64]}
theorem Zlh:ZmX.Ok:=ZCj (fi:={ hi:=ZMh}) (specs:={ l:=[Zf7]}) (okS ⟨Zmh,ytt⟩)
def Wc(F:Nat)(a0:(List UInt8)):Option ((List UInt8)):=
 if(apB 0 a0.length 1)=true then
  some a0
 else
 none
def Zf9(F:Nat):Fs yc:=⟨103,[.sl true .u8],[],[(.sl .u8)],[⟨.ret,[(0,.v (.sl .u8))],[],[(.sl .u8)]⟩],λx=>Wc F x⟩
def ZuP:Fs yc:=Zf9 fuel
theorem Zli:ZuP.Ok:=fnO { own:=[5,7],still:=[2]} [] [] trivial
def ZjV(F:Nat):Option ((List UInt8)):=
 some []
def Zb4(F:Nat):Fs yc:=⟨103,[.nil .u8],[],[],[⟨.ret,[(0,.v (.sl .u8))],[],[(.sl .u8)]⟩],λx=>ZjV F⟩
def Zp4:Fs yc:=Zb4 fuel
theorem Zhe:Zp4.Ok:=fnO { own:=[5,7],still:=[2]} [] [] trivial
def Zc4(F:Nat):Fs yc:=⟨103,[.v (.sl .u8)],[],[(.sl .u8)],[⟨.ret,[(0,.v (.sl .u8))],[],[(.sl .u8)]⟩],λx=>Wc F x⟩
def Zek:Fs yc:=Zc4 fuel
theorem Zc5:Zek.Ok:=ZpJ (t:=.u8) (xs:=[⟨.ret,[(0,.v (.sl .u8))],[],[(.sl .u8)]⟩]) (MA:=λ(x:(List UInt8))=>Wc fuel x) (MB:=λ_=>ZjV fuel) Zli Zhe rfl
def ZMi:HI:={ own:=[0,16,28],still:=[4,8,10,20]}
def Zfd(F:Nat)(a0:Kit):Option (Zal):=
 (Y7 F a0.1).bind λo537=>
 (Y7 F a0.2.1).bind λo538=>
 (Y7 F a0.2.2.1).bind λo539=>
 (Y7 F a0.2.2.2.1).bind λo540=>
 (Y7 F a0.2.2.2.2.1).bind λo541=>
 some (o537,o538,o539,o540,o541)
def Zga(F:Nat):Fs yc:=⟨38,[.v Z4],[],[Z4],[⟨.ret,[(0,.v Qi)],[],[Qi]⟩],λx=>Zfd F x⟩
def ZmY:Fs yc:=Zga fuel
theorem Zlj:ZmY.Ok:=fnO { still:=[4,7,10,13,16]} [] [Zab] ⟨Zax,ytt⟩
def Ys(F:Nat)(a0:ZE)(a1:Kit)(a2:Int)(a3:State)(a4:Lock)(a5:Int):Option (Int⊕(Int×ZE×Kit×Int×Int×(List Int)×Int×(List Lock)×Int×Sig×(List Cond)×(List Msg)×(List Msg))):=
 if(decide (a2 < 0))=true then
  some (.inl 1)
 else
 if(decide (a2 > 1))=true then
  some (.inl 1)
 else
 (YA F a4).bind λo542=>
 if(!o542)=true then
  some (.inl 1)
 else
 (Zfd F a1).bind λo543=>
 if(inB a2 2)=true then
  (a0.2.2.1[a2.toNat]?).bind λe544=>
  if(!(decide (o543=e544)))=true then
   some (.inl 1)
  else
  (ZbP F a0 a3).bind λo545=>
  if(!o545)=true then
   some (.inl 14)
  else
  (YS F a0 a3 a2 a5).bind λo546=>
  if(!o546)=true then
   some (.inl 13)
  else
  (Ve F a4).bind λo547=>
  if(inB a2 2)=true then
   (([([]:Lock),([]:Lock)]:List Lock)[a2.toNat]?).bind λe548=>
   some (.inr (0,a0,a1,a2,a3.1,a3.2.1,a3.2.2.2,([([]:Lock),([]:Lock)]:List Lock).set a2.toNat o547,a5,(0,0),[],[],[]))
  else
  none
 else
 none
def ZmZ:Fs yc:=⟨10,[.v Zf,.v Z4,.v yI,.v Zg,.v Zn,.v yI],[],[Zf,Z4,yI,Zg,Zn,yI],[⟨.ret,[(0,.tup [.ptr0,.v yI])],[],[yI]⟩,⟨.ret,[(0,.tup [.ref 0 [],.v yI])],[.var (.agg [.v Zf,.v Z4,.v yI,.agg [.v yI,.v (.arr 2 yI),.own 1 Zq,.v yI],.v (.arr 2 Zn),.v yI,.own 2 Zi,.own 3 Zi,.v ZX]) true,.log Zq 82,.log Zi 84,.log Zi 84],[yI,Zf,Z4,yI,yI,(.arr 2 yI),yI,(.arr 2 Zn),yI,ZX,(.sl Zq),(.sl Zi),(.sl Zi)]⟩],λx=>Ys fuel x.1 x.2.1 x.2.2.1 x.2.2.2.1 x.2.2.2.2.1 x.2.2.2.2.2⟩
def ZMj:HI:={ still:=[12,13,23,28,37,38,42,43,44,45,58],ghost:=[(55,[([6],Zi,84),([7],Zi,84)])],gst:=[(48,[([2],Zq,82)])]}
theorem ZtS:ZmZ.Ok:=Ztc (fi:={ hi:=ZMj,gh:=[(10,.any 14 4 (.arr 2 Zn))]}) (specs:={ l:=[WS,ZmY,Zhs,ZbQ,ZfW]}) (okS ⟨Wl,Zlj,ZfQ,ZaO,Zee,ytt⟩)
def Zig(F:Nat)(a0:(List UInt64)):Option (Lock):=
 (Yc F a0).bind λo549=>
 some [(o549,0,0,0)]
def Zny:Fs yc:=⟨53,[.v (.sl .u64)],[],[(.sl .u64)],[⟨.ret,[(0,.v Zn)],[],[Zn]⟩],λx=>Zig fuel x⟩
theorem Zq3:Zny.Ok:=fnO { still:=[3]} [] [WW] ⟨VR,ytt⟩
def XX(F:Nat)(a0:UInt64):Option (Lock):=
 (Zig F [a0]).bind λo550=>
 some o550
def Zlk(F:Nat):Fs yc:=⟨17,[.v .u64],[],[.u64],[⟨.ret,[(0,.v Zn)],[],[Zn]⟩],λx=>XX F x⟩
def Znz:Fs yc:=Zlk fuel
theorem Zll:Znz.Ok:=fnO { still:=[4]} [] [Zny] ⟨Zq3,ytt⟩
def Xy(F:Nat)(s:(UInt64×Int×Int×(List UInt8))):Option ((UInt64×Int×Int×(List UInt8))⊕(UInt64×Int×(List UInt8))):=
 if(decide (s.2.2.1 ≥ 0))=true then
  if(inB s.2.1 32)=true then
   (s.2.2.2[s.2.1.toNat]?).bind λe551=>
   let y552:UInt64:=ZL (yad e551.toNat) (min ((w64 s.2.2.1).toNat:Int).toNat 64)
   some (.inl (((2*s.1)+(y552&&&1)) % 2305843009213688668,s.2.1,wi (s.2.2.1 - 1),s.2.2.2))
  else
  none
 else
 some (.inr (s.1,s.2.1,s.2.2.2))
def ZdH:Lp:=⟨[(1,.ref 0 []),(3,.v .u64),(4,.v yI),(5,.v yI)],[.var (.v (.arr 32 .u8)) true],[.u64,yI,yI,(.arr 32 .u8)],[⟨.exit 2,[(1,.ref 0 []),(3,.v .u64),(4,.v yI)],[.var (.v (.arr 32 .u8)) true],[.u64,yI,(.arr 32 .u8)]⟩],Zb (Xy fuel) fuel⟩
theorem Zih:ZdH.okA yc 85 1:=ZC { still:=[2]} [] [] trivial
def Xz(F:Nat)(s:(UInt64×Int×(List UInt8))):Option ((UInt64×Int×(List UInt8))⊕(UInt64×(List UInt8))):=
 if(decide (s.2.1 < 32))=true then
  (Zb (Xy F) F (s.1,s.2.1,7,s.2.2)).bind λo553=>
  some (.inl (o553.1,wi (o553.2.1+1),o553.2.2))
 else
 some (.inr (s.1,s.2.2))
def ZdI:Lp:=⟨[(1,.ref 0 []),(3,.v .u64),(4,.v yI)],[.var (.v (.arr 32 .u8)) true],[.u64,yI,(.arr 32 .u8)],[⟨.exit 0,[(3,.v .u64)],[.var (.v (.arr 32 .u8)) true],[.u64,(.arr 32 .u8)]⟩],Zb (Xz fuel) fuel⟩
theorem Zii:ZdI.okA yc 85 0:=ZC { still:=[2]} [(1,ZdH)] [] trivial ⟨Zih,ytt⟩
def YB(F:Nat)(a0:(List UInt8)):Option (UInt64):=
 (Zb (Xz F) F (0,0,a0)).bind λo554=>
 some (o554.1+1)
def Zew:Fs yc:=⟨85,[.v (.arr 32 .u8)],[],[(.arr 32 .u8)],[⟨.ret,[(0,.v .u64)],[],[.u64]⟩],λx=>YB fuel x⟩
theorem Zlm:Zew.Ok:=fnO { still:=[2]} [(0,ZdI)] [] trivial ⟨Zii,ytt⟩
def XA(F:Nat)(s:(UInt64×Int×(List UInt8))):Option ((UInt64×Int×(List UInt8))⊕(List UInt8)):=
 if(decide (s.2.1 ≥ 0))=true then
  if(decide (0≤s.2.1))=true then
   let y555:UInt8:=w8 ((ZL s.1 (min s.2.1.toNat 64)).toNat:Int)
   if(apB s.2.2.length 1 1)=true then
    some (.inl (s.1,wi (s.2.1 - 8),s.2.2++([y555]:List UInt8)))
   else
   none
  else
  none
 else
 some (.inr s.2.2)
def ZdJ:Lp:=⟨[(0,.v .u64),(3,.own 0 .u8),(4,.v yI)],[.log .u8 5],[.u64,yI,(.sl .u8)],[⟨.exit 0,[(3,.own 0 .u8)],[.log .u8 5],[(.sl .u8)]⟩],Zb (XA fuel) fuel⟩
theorem Zij:ZdJ.okA yc 164 0:=ZC { own:=[3,9,15],still:=[2]} [] [] trivial
def VT(F:Nat)(a0:UInt64):Option ((List UInt8)):=
 (Zb (XA F) F (a0,56,[])).bind λo556=>
 some o556
def Zex:Fs yc:=⟨164,[.v .u64],[],[.u64],[⟨.ret,[(0,.v (.sl .u8))],[],[(.sl .u8)]⟩],λx=>VT fuel x⟩
theorem Zln:Zex.Ok:=fnO { own:=[3,9,15],still:=[2]} [(0,ZdJ)] [] trivial ⟨Zij,ytt⟩
def Y8(F:Nat)(s:((List UInt8)×(List UInt8))):Option (((List UInt8)×(List UInt8))⊕((List UInt8)×(List UInt8))):=
 if((yaw (s.2.length:Int) 64)!=56)=true then
  if(apB s.2.length 1 1)=true then
   some (.inl (s.1,s.2++([0]:List UInt8)))
  else
  none
 else
 some (.inr (s.1,s.2))
def Zb5:Lp:=⟨[(0,.v (.sl .u8)),(3,.own 0 .u8)],[.log .u8 5],[(.sl .u8),(.sl .u8)],[⟨.exit 0,[(0,.v (.sl .u8)),(3,.own 0 .u8)],[.log .u8 5],[(.sl .u8),(.sl .u8)]⟩],Zb (Y8 fuel) fuel⟩
def ZKo:HI:={ own:=[3,6,8,9,11,16,18,27,33],still:=[2]}
theorem ZgE:Zb5.okA yc 179 0:=ZC ZKo [] [] trivial
def Y9(F:Nat)(s:(UInt64×Int×(List UInt8))):Option ((UInt64×Int×(List UInt8))⊕(List UInt8)):=
 if(decide (s.2.1 ≥ 0))=true then
  if(decide (0≤s.2.1))=true then
   let y558:UInt8:=w8 ((ZL s.1 (min s.2.1.toNat 64)).toNat:Int)
   if(apB s.2.2.length 1 1)=true then
    some (.inl (s.1,wi (s.2.1 - 8),s.2.2++([y558]:List UInt8)))
   else
   none
  else
  none
 else
 some (.inr s.2.2)
def Zb6:Lp:=⟨[(3,.own 0 .u8),(4,.v .u64),(5,.v yI)],[.log .u8 5],[.u64,yI,(.sl .u8)],[⟨.exit 2,[(3,.own 0 .u8)],[.log .u8 5],[(.sl .u8)]⟩],Zb (Y9 fuel) fuel⟩
theorem ZgF:Zb6.okA yc 179 1:=ZC ZKo [] [] trivial
def WX(F:Nat)(a0:(List UInt8)):Option ((List UInt8)):=
 if(apB 0 a0.length 1)=true then
  if(apB a0.length 1 1)=true then
   (Zb (Y8 F) F (a0,a0++([128]:List UInt8))).bind λo557=>
   (Zb (Y9 F) F (8*(w64 (o557.1.length:Int)),56,o557.2)).bind λo559=>
   some o559
  else
  none
 else
 none
def Zcv:Fs yc:=⟨179,[.v (.sl .u8)],[],[(.sl .u8)],[⟨.ret,[(0,.v (.sl .u8))],[],[(.sl .u8)]⟩],λx=>WX fuel x⟩
theorem Zjg:Zcv.Ok:=fnO ZKo [(0,Zb5),(1,Zb6)] [] trivial ⟨ZgE,ZgF,ytt⟩
def QQ(F:Nat):Option ((List UInt32)):=
 some [1779033703,3144134277,1013904242,2773480762,1359893119,2600822924,528734635,1541459225]
def Zcw:Fs yc:=⟨180,[],[],[],[⟨.ret,[(0,.v (.sl .u32))],[],[(.sl .u32)]⟩],λx=>QQ fuel⟩
theorem Zjh:Zcw.Ok:=fnO { still:=[0]} [] [] trivial
def ZO(F:Nat)(a0:UInt32)(a1:Int):Option (UInt32):=
 if(decide (0≤a1))=true then
  if(decide (0≤wi (32 - a1)))=true then
   let y560:UInt32:=(Zeo a0 (min a1.toNat 32))|||(Zbi a0 (min (wi (32 - a1)).toNat 32))
   some y560
  else
  none
 else
 none
def Zan:Fs yc:=⟨190,[.v .u32,.v yI],[],[.u32,yI],[⟨.ret,[(0,.v .u32)],[],[.u32]⟩],λx=>ZO fuel x.1 x.2⟩
theorem ZdK:Zan.Ok:=fnO { still:=[4]} [] [] trivial
def Xp(F:Nat)(s:((List UInt8)×Int×(List UInt32))):Option (((List UInt8)×Int×(List UInt32))⊕(List UInt32)):=
 if(decide (s.2.1 < 16))=true then
  (idx s.1 (wi (4*s.2.1))).bind λe561=>
  (idx s.1 (wi ((wi (4*s.2.1))+1))).bind λe562=>
  let y563:UInt32:=(Zbi (ybs e561.toNat) 24)|||(Zbi (ybs e562.toNat) 16)
  (idx s.1 (wi ((wi (4*s.2.1))+2))).bind λe564=>
  (idx s.1 (wi ((wi (4*s.2.1))+3))).bind λe565=>
  let y566:UInt32:=(y563|||(Zbi (ybs e564.toNat) 8))|||(ybs e565.toNat)
  if(apB s.2.2.length 1 4)=true then
   some (.inl (s.1,wi (s.2.1+1),s.2.2++([y566]:List UInt32)))
  else
  none
 else
 some (.inr s.2.2)
def Zcx:Lp:=⟨[(0,.v (.sl .u8)),(3,.own 0 .u32),(4,.v yI)],[.log .u32 25],[(.sl .u8),yI,(.sl .u32)],[⟨.exit 0,[(3,.own 0 .u32)],[.log .u32 25],[(.sl .u32)]⟩],Zb (Xp fuel) fuel⟩
def ZKp:HI:={ own:=[3,14,49,80,97],still:=[2,64,66,72,74]}
theorem ZhE:Zcx.okA yc 188 0:=ZC ZKp [] [] trivial
def Xq(F:Nat)(s:(Int×(List UInt32))):Option ((Int×(List UInt32))⊕(List UInt32)):=
 if(decide (s.1 < 64))=true then
  (idx s.2 (wi (s.1 - 15))).bind λe568=>
  (idx s.2 (wi (s.1 - 2))).bind λe569=>
  (ZO F e568 7).bind λo570=>
  (ZO F e568 18).bind λo571=>
  (ZO F e569 17).bind λo572=>
  (ZO F e569 19).bind λo573=>
  (idx s.2 (wi (s.1 - 16))).bind λe574=>
  (idx s.2 (wi (s.1 - 7))).bind λe575=>
  let y576:UInt32:=(e574+((o570^^^o571)^^^(Zeo e568 3)))+e575
  if(apB s.2.length 1 4)=true then
   let y577:(List UInt32):=s.2++([y576+((o572^^^o573)^^^(Zeo e569 10))]:List UInt32)
   some (.inl (wi (s.1+1),y577))
  else
  none
 else
 some (.inr s.2)
def Zcy:Lp:=⟨[(3,.own 0 .u32),(5,.v yI)],[.log .u32 25],[yI,(.sl .u32)],[⟨.exit 2,[(3,.own 0 .u32)],[.log .u32 25],[(.sl .u32)]⟩],Zb (Xq fuel) fuel⟩
theorem ZhF:Zcy.okA yc 188 1:=ZC ZKp [] [Zan] ⟨ZdK,ytt⟩
def Vk(F:Nat)(a0:(List UInt8)):Option ((List UInt32)):=
 (Zb (Xp F) F (a0,0,[])).bind λo567=>
 (Zb (Xq F) F (16,o567)).bind λo578=>
 some o578
def ZdL:Fs yc:=⟨188,[.v (.sl .u8)],[],[(.sl .u8)],[⟨.ret,[(0,.v (.sl .u32))],[],[(.sl .u32)]⟩],λx=>Vk fuel x⟩
theorem Zj3:ZdL.Ok:=fnO ZKp [(0,Zcx),(1,Zcy)] [] trivial ⟨ZhE,ZhF,ytt⟩
def Zba(F:Nat):Option ((List UInt32)):=
 some [1116352408,1899447441,3049323471,3921009573,961987163,1508970993,2453635748,2870763221,3624381080,310598401,607225278,1426881987,1925078388,2162078206,2614888103,3248222580,3835390401,4022224774,264347078,604807628,770255983,1249150122,1555081692,1996064986,2554220882,2821834349,2952996808,3210313671,3336571891,3584528711,113926993,338241895,666307205,773529912,1294757372,1396182291,1695183700,1986661051,2177026350,2456956037,2730485921,2820302411,3259730800,3345764771,3516065817,3600352804,4094571909,275423344,430227734,506948616,659060556,883997877,958139571,1322822218,1537002063,1747873779,1955562222,2024104815,2227730452,2361852424,2428436474,2756734187,3204031479,3329325298]
def Zey:Fs yc:=⟨189,[],[],[],[⟨.ret,[(0,.v (.sl .u32))],[],[(.sl .u32)]⟩],λx=>Zba fuel⟩
theorem Zlo:Zey.Ok:=fnO { still:=[0]} [] [] trivial
def Xr(F:Nat)(s:((List UInt32)×(List UInt32)×(List UInt32)×Int×(List Unit)×(List UInt32))):Option (((List UInt32)×(List UInt32)×(List UInt32)×Int×(List Unit)×(List UInt32))⊕((List UInt32)×(List Unit)×(List UInt32))):=
 if(decide (s.2.2.2.1 < 64))=true then
  if(inB 4 s.2.2.2.2.2.length)=true then
   (s.2.2.2.2.2[4]?).bind λe581=>
   (ZO F e581 6).bind λo582=>
   if(inB 4 s.2.2.2.2.2.length)=true then
    (s.2.2.2.2.2[4]?).bind λe583=>
    (ZO F e583 11).bind λo584=>
    if(inB 4 s.2.2.2.2.2.length)=true then
     (s.2.2.2.2.2[4]?).bind λe585=>
     (ZO F e585 25).bind λo586=>
     if(inB 4 s.2.2.2.2.2.length)=true then
      (s.2.2.2.2.2[4]?).bind λe587=>
      if(inB 5 s.2.2.2.2.2.length)=true then
       (s.2.2.2.2.2[5]?).bind λe588=>
       if(inB 4 s.2.2.2.2.2.length)=true then
        (s.2.2.2.2.2[4]?).bind λe589=>
        if(inB 6 s.2.2.2.2.2.length)=true then
         (s.2.2.2.2.2[6]?).bind λe590=>
         let y591:UInt32:=(e587&&&e588)^^^((4294967295^^^e589)&&&e590)
         if(inB 7 s.2.2.2.2.2.length)=true then
          (s.2.2.2.2.2[7]?).bind λe592=>
          (idx s.2.2.1 s.2.2.2.1).bind λe593=>
          let y594:UInt32:=((e592+((o582^^^o584)^^^o586))+y591)+e593
          (idx s.2.1 s.2.2.2.1).bind λe595=>
          if(inB 0 s.2.2.2.2.2.length)=true then
           (s.2.2.2.2.2[0]?).bind λe596=>
           (ZO F e596 2).bind λo597=>
           if(inB 0 s.2.2.2.2.2.length)=true then
            (s.2.2.2.2.2[0]?).bind λe598=>
            (ZO F e598 13).bind λo599=>
            if(inB 0 s.2.2.2.2.2.length)=true then
             (s.2.2.2.2.2[0]?).bind λe600=>
             (ZO F e600 22).bind λo601=>
             if(inB 0 s.2.2.2.2.2.length)=true then
              (s.2.2.2.2.2[0]?).bind λe602=>
              if(inB 1 s.2.2.2.2.2.length)=true then
               (s.2.2.2.2.2[1]?).bind λe603=>
               if(inB 0 s.2.2.2.2.2.length)=true then
                (s.2.2.2.2.2[0]?).bind λe604=>
                if(inB 2 s.2.2.2.2.2.length)=true then
                 (s.2.2.2.2.2[2]?).bind λe605=>
                 if(inB 1 s.2.2.2.2.2.length)=true then
                  (s.2.2.2.2.2[1]?).bind λe606=>
                  if(inB 2 s.2.2.2.2.2.length)=true then
                   (s.2.2.2.2.2[2]?).bind λe607=>
                   let y608:UInt32:=((e602&&&e603)^^^(e604&&&e605))^^^(e606&&&e607);let y609:UInt32:=((y594+e595)+((o597^^^o599)^^^o601))+y608
                   if(inB 0 s.2.2.2.2.2.length)=true then
                    (s.2.2.2.2.2[0]?).bind λe610=>
                    if(inB 1 s.2.2.2.2.2.length)=true then
                     (s.2.2.2.2.2[1]?).bind λe611=>
                     if(inB 2 s.2.2.2.2.2.length)=true then
                      (s.2.2.2.2.2[2]?).bind λe612=>
                      if(inB 3 s.2.2.2.2.2.length)=true then
                       (s.2.2.2.2.2[3]?).bind λe613=>
                       if(inB 4 s.2.2.2.2.2.length)=true then
                        (s.2.2.2.2.2[4]?).bind λe614=>
                        if(inB 5 s.2.2.2.2.2.length)=true then
                         (s.2.2.2.2.2[5]?).bind λe615=>
                         if(inB 6 s.2.2.2.2.2.length)=true then
                          (s.2.2.2.2.2[6]?).bind λe616=>
                          some (.inl (s.1,s.2.1,s.2.2.1,wi (s.2.2.2.1+1),()::s.2.2.2.2.1,[y609,e610,e611,e612,e613+(y594+e595),e614,e615,e616]))
                         else
                         none
                        else
                        none
                       else
                       none
                      else
                      none
                     else
                     none
                    else
                    none
                   else
                   none
                  else
                  none
                 else
                 none
                else
                none
               else
               none
              else
              none
             else
             none
            else
            none
           else
           none
          else
          none
         else
         none
        else
        none
       else
       none
      else
      none
     else
     none
    else
    none
   else
   none
  else
  none
 else
 some (.inr (s.1,s.2.2.2.2.1,s.2.2.2.2.2))
def Zcz:Lp:=⟨[(0,.v (.sl .u32)),(5,.v (.sl .u32)),(6,.v (.sl .u32)),(7,.rw 0),(8,.v yI)],[.row .u32 true 25],[(.sl .u32),(.sl .u32),(.sl .u32),yI,(.sl (.st [])),(.sl .u32)],[⟨.exit 0,[(0,.v (.sl .u32)),(7,.rw 0)],[.row .u32 true 25],[(.sl .u32),(.sl (.st [])),(.sl .u32)]⟩],Zb (Xr fuel) fuel⟩
def ZKq:HI:={ own:=[18,20],still:=[4,15,27,31,36,74,78,83],rowt:=[7,18,20,137,142],rew:=[(137,7)]}
theorem ZhG:Zcz.okA yc 181 0:=ZC ZKq [] [Zan] ⟨ZdK,ytt⟩
def Xs(F:Nat)(s:((List UInt32)×Int×(List Unit)×(List UInt32))):Option (((List UInt32)×Int×(List Unit)×(List UInt32))⊕((List Unit)×(List UInt32))):=
 if(decide (s.2.1 < 8))=true then
  if(inB s.2.1 s.2.2.2.length)=true then
   (s.2.2.2[s.2.1.toNat]?).bind λe618=>
   (idx s.1 s.2.1).bind λe619=>
   if(inB s.2.1 s.2.2.2.length)=true then
    (s.2.2.2[s.2.1.toNat]?).bind λe620=>
    some (.inl (s.1,wi (s.2.1+1),s.2.2.1,s.2.2.2.set s.2.1.toNat (e618+e619)))
   else
   none
  else
  none
 else
 some (.inr (s.2.2.1,s.2.2.2))
def ZcA:Lp:=⟨[(0,.v (.sl .u32)),(7,.rw 0),(14,.v yI)],[.row .u32 true 25],[(.sl .u32),yI,(.sl (.st [])),(.sl .u32)],[⟨.exit 2,[(7,.rw 0)],[.row .u32 true 25],[(.sl (.st [])),(.sl .u32)]⟩],Zb (Xs fuel) fuel⟩
theorem ZhH:ZcA.okA yc 181 1:=ZC ZKq [] [] trivial
def Vl(F:Nat)(a0:(List UInt32))(a1:(List UInt8)):Option ((List UInt32)):=
 (Vk F a1).bind λo579=>
 (Zba F).bind λo580=>
 if(apB 0 a0.length 4)=true then
  (Zb (Xr F) F (a0,o579,o580,0,[()],a0)).bind λo617=>
  (Zb (Xs F) F (o617.1,0,o617.2.1,o617.2.2)).bind λo621=>
  some o621.2
 else
 none
def ZdM:Fs yc:=⟨181,[.v (.sl .u32),.v (.sl .u8)],[],[(.sl .u32),(.sl .u8)],[⟨.ret,[(0,.v (.sl .u32))],[],[(.sl .u32)]⟩],λx=>Vl fuel x.1 x.2⟩
theorem Zj4:ZdM.Ok:=fnO ZKq [(0,Zcz),(1,ZcA)] [ZdL,Zey] ⟨Zj3,Zlo,ytt⟩ ⟨ZhG,ZhH,ytt⟩
def XB(F:Nat)(s:((List UInt8)×(List UInt32)×Int×(List UInt8))):Option (((List UInt8)×(List UInt32)×Int×(List UInt8))⊕((List UInt32)×(List UInt8))):=
 if(decide (s.2.2.1 < (s.1.length:Int)))=true then
  if(Zbt s.1.length (some s.2.2.1) (some (wi (s.2.2.1+64))))=true then
   let y624:(List UInt8):=(s.1.take ((wi (s.2.2.1+64)).toNat)).drop s.2.2.1.toNat
   (Vl F s.2.1 y624).bind λo625=>
   some (.inl (s.1,o625,wi (s.2.2.1+64),s.2.2.2))
  else
  none
 else
 some (.inr (s.2.1,s.2.2.2))
def ZdN:Lp:=⟨[(2,.ref 0 []),(3,.v (.sl .u8)),(4,.v (.sl .u32)),(5,.v yI)],[.var (.v (.arr 32 .u8)) true],[(.sl .u8),(.sl .u32),yI,(.arr 32 .u8)],[⟨.exit 0,[(2,.ref 0 []),(4,.v (.sl .u32))],[.var (.v (.arr 32 .u8)) true],[(.sl .u32),(.arr 32 .u8)]⟩],Zb (XB fuel) fuel⟩
theorem Zik:ZdN.okA yc 165 0:=ZC { still:=[8,17,22]} [] [ZdM] ⟨Zj4,ytt⟩
def XC(F:Nat)(s:((List UInt32)×Int×(List UInt8)×(List UInt8))):Option (((List UInt32)×Int×(List UInt8)×(List UInt8))⊕((List UInt8)×(List UInt8))):=
 if(decide (s.2.1 < 32))=true then
  (idx s.1 (wi (Int.tdiv s.2.1 4))).bind λe627=>
  if(decide (0≤wi (24 - (wi (8*(yaw s.2.1 4))))))=true then
   let y628:UInt32:=Zeo e627 (min (wi (24 - (wi (8*(yaw s.2.1 4))))).toNat 32)
   if(inB s.2.1 32)=true then
    (s.2.2.2[s.2.1.toNat]?).bind λe629=>
    some (.inl (s.1,wi (s.2.1+1),s.2.2.1,s.2.2.2.set s.2.1.toNat (w8 (y628.toNat:Int))))
   else
   none
  else
  none
 else
 some (.inr (s.2.2.1,s.2.2.2))
def ZdO:Lp:=⟨[(2,.ref 0 []),(4,.v (.sl .u32)),(6,.ref 1 []),(7,.v yI)],[.var (.v (.arr 32 .u8)) true,.var (.v (.arr 32 .u8)) true],[(.sl .u32),yI,(.arr 32 .u8),(.arr 32 .u8)],[⟨.exit 2,[(2,.ref 0 []),(6,.ref 1 [])],[.var (.v (.arr 32 .u8)) true,.var (.v (.arr 32 .u8)) true],[(.arr 32 .u8),(.arr 32 .u8)]⟩],Zb (XC fuel) fuel⟩
theorem Zil:ZdO.okA yc 165 1:=ZC { still:=[8,17,22]} [] [] trivial
def Wv(F:Nat)(a0:(List UInt8)):Option ((List UInt8)):=
 (WX F a0).bind λo622=>
 (QQ F).bind λo623=>
 (Zb (XB F) F (o622,o623,0,yzz)).bind λo626=>
 (Zb (XC F) F (o626.1,0,o626.2,yzz)).bind λo630=>
 some o630.2
def QR(F:Nat):Fs yc:=⟨165,[.v (.sl .u8)],[],[(.sl .u8)],[⟨.ret,[(0,.v (.arr 32 .u8))],[],[(.arr 32 .u8)]⟩],λx=>Wv F x⟩
def Zmi:Fs yc:=QR fuel
theorem Zlp:Zmi.Ok:=fnO { still:=[8,17,22]} [(0,ZdN),(1,ZdO)] [Zcv,Zcw] ⟨Zjg,Zjh,ytt⟩ ⟨Zik,Zil,ytt⟩
end
end Go.Proofs.YtmkgbalfkhaflaaGreat
end
section
set_option maxRecDepth 4000
namespace Go.Ev
theorem ZCz{I X:Type}{step:I→Option (I⊕X)}{st:Nat→I}{x:X}(n:Nat)(hs:∀k,k < n→step (st k)=some (.inl (st (k+1))))(he:step (st n)=some (.inr x)):∀(d k f:Nat),k+d=n→d < f→Zb step f (st k)=some x
 |0,k,f+1,h,_=>by
  have e:k=n:=by omega
  subst e;unfold Zb
  rw[he,ya]
 |d+1,k,f+1,h,hf=>by
  unfold Zb;rw[hs k (by omega),ya];exact ZCz n hs he d (k+1) f (by omega) (by omega)
theorem ZN{I X:Type}{step:I→Option (I⊕X)}(n:Nat)(st:Nat→I){x:X}(hs:∀k,k < n→step (st k)=some (.inl (st (k+1))))(he:step (st n)=some (.inr x))(hn:n < 18446744073709551616):
 Zb step fuel (st 0)=some x:=ZCz n hs he n 0 fuel (by omega) (by rw[Zda];exact hn)
theorem Zzx{I X:Type}{step:I→Option (I⊕X)}{Post:X→Prop}(n:Nat)(S:Nat→I→Prop)(hs:∀k s,k < n→S k s→(∃t,step s=some (.inl t)∧S (k+1) t)∨∃x,step s=some (.inr x)∧Post x)
 (he:∀s,S n s→∃x,step s=some (.inr x)∧Post x):∀(d k f:Nat)(s:I),k+d=n→d < f→S k s→∃x,Zb step f s=some x∧Post x
 |0,k,f+1,s,h,_,hS=>by
  have e:k=n:=by omega
  subst e;obtain⟨x,h1,h2⟩:=he s hS;unfold Zb;rw[h1,ya]
  exact⟨x,rfl,h2⟩
 |d+1,k,f+1,s,h,hf,hS=>by
  unfold Zb;rcases hs k s (by omega) hS with⟨t,h1,h2⟩|⟨x,h1,h2⟩
  ·rw[h1,ya];exact Zzx n S hs he d (k+1) f t (by omega) (by omega) h2
  ·rw[h1,ya];exact⟨x,rfl,h2⟩
theorem Yk{I X:Type}{step:I→Option (I⊕X)}(n:Nat)(S:Nat→I→Prop)(Post:X→Prop){i:I}(h0:S 0 i)(hn:n < 18446744073709551616)
 (hs:∀k s,k < n→S k s→(∃t,step s=some (.inl t)∧S (k+1) t)∨∃x,step s=some (.inr x)∧Post x)
 (he:∀s,S n s→∃x,step s=some (.inr x)∧Post x):∃x,Zb step fuel i=some x∧Post x:=Zzx n S hs he n 0 fuel i (by omega) (by rw[Zda];exact hn) h0
theorem Z9{a b:Nat}(h:a < b):decide ((a:Int) < (b:Int))=true:=decide_eq_true (by omega)
theorem ZW{a:Nat}:decide ((a:Int) < (a:Int))=false:=decide_eq_false (by omega)
theorem Zs{k:Nat}(h:k < 9223372036854775807):wi ((k:Int)+1)=((k+1:Nat):Int):=by
 rw[Zz (by omega) (by omega)];omega
theorem Zp{α:Type}{l:List α}{k:Nat}{y:α}(h:l[k]? =some y):idx l (k:Int)=some y:=ZeV (by omega) (by simpa using h)
theorem ZvL{α:Type}{ls:List (List α)}{k:Nat}{e:List α}(h:ls[k]? =some e):(ls.take (k+1)).flatten=(ls.take k).flatten++e:=by
 rw[List.take_add_one,h];simp
theorem ZCA{α:Type}(ls:List (List α))(k:Nat):(ls.take k).flatten.length≤ls.flatten.length:=by
 have h:=congrArg (λl=>(List.flatten l).length) (ybo k ls);simp only[List.flatten_append,yp] at h;omega
theorem Zfe{α:Type}{l:List α}{k:Nat}{e:α}(h:l[k]? =some e):l.take (k+1)=l.take k++[e]:=by
 rw[List.take_add_one,h];rfl
theorem Zk{α:Type}{l:List α}{k:Nat}(h:k < l.length):∃e,l[k]? =some e∧e∈l:=⟨l[k],yac h,List.getElem_mem h⟩
end Go.Ev
end
section
set_option maxRecDepth 4000
namespace Go.Proofs.YtmkgbalfkhaflaaGreat
open Go Go.Ev Go.Sha
theorem Zdm(x:UInt32)(n k:Nat)(h:n+k=32)(hn:0 < n){z:Int}(hz:z=(n:Int)):∃o,ZO fuel x z=some o∧o.toNat=lo (yaf (dbl x.toNat) n):=by
 subst hz;unfold ZO;rw[Zz (z:=32 - (n:Int)) (by omega) (by omega),if_pos (decide_eq_true (by omega)),if_pos (decide_eq_true (by omega))];refine⟨_,rfl, ?_⟩;have e1:min ((n:Int)).toNat 32=n:=by omega
 have e2:min (32 - (n:Int)).toNat 32=k:=by omega
 rw[e1,e2,UInt32.or_comm];exact ZI0 x h hn
theorem ZKr(a b c d:UInt8):((((Zbi (ybs a.toNat) 24)|||(Zbi (ybs b.toNat) 16))|||(Zbi (ybs c.toNat) 8))|||(ybs d.toNat)).toNat=((a.toNat*256+b.toNat)*256+c.toNat)*256+d.toNat:=by
 have h1:=a.toNat_lt;have h2:=b.toNat_lt;have h3:=c.toNat_lt;have h4:=d.toNat_lt
 have hs:∀(x:UInt8)(n:Nat),n≤24→(Zbi (ybs x.toNat) n).toNat=x.toNat*2 ^ n:=by
  intro x n hn;have hx:=x.toNat_lt;unfold Zbi;rw[yco,yco,yah (a:=x.toNat) (by omega)];refine yah ?_
  calc x.toNat*2 ^ n < 2 ^ 8*2 ^ n:=Nat.mul_lt_mul_of_pos_right hx (Nat.two_pow_pos n)
   _=2 ^ (8+n):=(Nat.pow_add ..).symm
   _≤2 ^ 32:=Nat.pow_le_pow_right (by omega) (by omega)
 rw[Zxt,Zxt,Zxt,hs _ _ (by omega),hs _ _ (by omega),hs _ _ (by omega),yco,yah (a:=d.toNat) (by omega)]
 have k1:Nat.lor (a.toNat*2 ^ 24) (b.toNat*2 ^ 16)=2 ^ 16*(a.toNat*256+b.toNat):=by
  rw[ybj a.toNat,show Nat.lor (2 ^ 24*a.toNat) (b.toNat*2 ^ 16)=2 ^ 24*a.toNat|||b.toNat*2 ^ 16 from rfl, ←ycx (by omega)]
  omega
 have k2:Nat.lor (2 ^ 16*(a.toNat*256+b.toNat)) (c.toNat*2 ^ 8)=2 ^ 8*((a.toNat*256+b.toNat)*256+c.toNat):=by
  rw[show Nat.lor (2 ^ 16*(a.toNat*256+b.toNat)) (c.toNat*2 ^ 8)=2 ^ 16*(a.toNat*256+b.toNat)|||c.toNat*2 ^ 8 from rfl, ←ycx (by omega)]
  omega
 rw[k1,k2,show Nat.lor (2 ^ 8*((a.toNat*256+b.toNat)*256+c.toNat)) d.toNat=2 ^ 8*((a.toNat*256+b.toNat)*256+c.toNat)|||d.toNat from rfl, ←ycx (by omega)]
 omega
theorem ZLy(e f g:UInt32):((e&&&f)^^^((4294967295^^^e)&&&g)).toNat=ch e.toNat f.toNat g.toNat:=by
 rw[←ZLq];congr 1;apply UInt32.toBitVec_inj.1;apply BitVec.eq_of_getLsbD_eq;intro i hi
 have h1:(4294967295:UInt32).toBitVec.getLsbD i=true:=by
  rw[show(4294967295:UInt32).toBitVec=BitVec.allOnes 32 from rfl,BitVec.getLsbD_allOnes]
  exact decide_eq_true hi
 simp only[UInt32.toBitVec_xor,UInt32.toBitVec_and,BitVec.getLsbD_xor,BitVec.getLsbD_and,h1];cases e.toBitVec.getLsbD i <;> cases f.toBitVec.getLsbD i <;> cases g.toBitVec.getLsbD i <;> rfl
theorem ZLz(a b c:UInt32):(((a&&&b)^^^(a&&&c))^^^(b&&&c)).toNat=mj a.toNat b.toNat c.toNat:=by
 rw[←ZLr];congr 1;apply UInt32.toBitVec_inj.1;apply BitVec.eq_of_getLsbD_eq;intro i hi;simp only[UInt32.toBitVec_xor,UInt32.toBitVec_and,UInt32.toBitVec_or,BitVec.getLsbD_xor,BitVec.getLsbD_and,BitVec.getLsbD_or];cases a.toBitVec.getLsbD i <;> cases b.toBitVec.getLsbD i <;> cases c.toBitVec.getLsbD i <;> rfl
theorem ZGs{l:List UInt8}(h:l.length=64):∃o,Vk fuel l=some o∧o.length=64∧∀(i:Nat)x,o[i]? =some x→x.toNat=wd (Ye (l.map yak)) i:=by
 unfold Vk
 have hset:∀(w:List UInt32)(y:UInt32),y.toNat=wd (Ye (l.map yak)) w.length→(∀(j:Nat)x,w[j]? =some x→x.toNat=wd (Ye (l.map yak)) j)→∀(j:Nat)x,(w++[y])[j]? =some x→x.toNat=wd (Ye (l.map yak)) j:=by
  intro w y hy hw j x hx;by_cases hj:j < w.length
  ·rw[List.getElem?_append_left hj] at hx;exact hw j x hx
  ·rw[List.getElem?_append_right (by omega)] at hx
   have:j=w.length:=by
    have:=(List.getElem?_eq_some_iff.1 hx).1;simp at this;omega
   subst this;rw[Nat.sub_self] at hx;cases hx;exact hy
 obtain⟨w0,g1,g2,g3⟩:=Yk (step:=Xp fuel) 16 (λk s=>∃w,s=(l,(k:Int),w)∧w.length=k∧∀(j:Nat)x,w[j]? =some x→x.toNat=wd (Ye (l.map yak)) j) (λw=>w.length=16∧∀(j:Nat)x,w[j]? =some x→x.toNat=wd (Ye (l.map yak)) j) (i:=(l,(0:Int),([]:List UInt32))) ⟨_,rfl,rfl,λj x hx=>by simp at hx⟩ (by omega) (by
  rintro k _ hk ⟨w,rfl,hw,hv⟩;left;obtain⟨x0,q0,_⟩:=Zk (l:=l) (k:=4*k) (by omega);obtain⟨x1,q1,_⟩:=Zk (l:=l) (k:=4*k+1) (by omega);obtain⟨x2,q2,_⟩:=Zk (l:=l) (k:=4*k+2) (by omega);obtain⟨x3,q3,_⟩:=Zk (l:=l) (k:=4*k+3) (by omega);unfold Xp;dsimp only;rw[Zz (z:=4*(k:Int)) (by omega) (by omega),Zz (z:=4*(k:Int)+1) (by omega) (by omega),Zz (z:=4*(k:Int)+2) (by omega) (by omega),Zz (z:=4*(k:Int)+3) (by omega) (by omega)]
  rw[if_pos (decide_eq_true (by omega)),show 4*(k:Int)=((4*k:Nat):Int) by omega,show((4*k:Nat):Int)+1=((4*k+1:Nat):Int) by omega,show((4*k:Nat):Int)+2=((4*k+2:Nat):Int) by omega,show((4*k:Nat):Int)+3=((4*k+3:Nat):Int) by omega,
   Zp q0,ya,Zp q1,ya,Zp q2,ya,Zp q3,ya,if_pos (Z2 (by omega) (by omega)),Zs (by omega)]
  refine⟨_,rfl,_,rfl,by rw[yp,List.length_singleton];omega,hset w _ ?_ hv⟩;have mg:∀(k:Nat)(x:UInt8),l[k]? =some x→(l.map yak)[k]? =some x.toNat:=λk x hx=>by rw[yal,hx];rfl
  have hwg:=Zk9 k (l.map yak) _ _ _ _ (mg _ _ q0) (mg _ _ q1) (mg _ _ q2) (mg _ _ q3);rw[ZKr,hw];have b0:=x0.toNat_lt;have b1:=x1.toNat_lt;have b2:=x2.toNat_lt;have b3:=x3.toNat_lt;exact(Zzr _ (by omega) hwg (by omega)).symm) (by
  rintro _ ⟨w,rfl,hw,hv⟩;unfold Xp;dsimp only;rw[if_neg (ynd (by omega))];exact⟨_,rfl,hw,hv⟩)
 rw[g1,ya]
 obtain⟨w1,k1,k2,k3⟩:=Yk (step:=Xq fuel) 48 (λk s=>∃w,s=(((16+k:Nat):Int),w)∧w.length=16+k∧∀(j:Nat)x,w[j]? =some x→x.toNat=wd (Ye (l.map yak)) j) (λw=>w.length=64∧∀(j:Nat)x,w[j]? =some x→x.toNat=wd (Ye (l.map yak)) j) (i:=((16:Int),w0)) ⟨_,rfl,g2,g3⟩ (by omega) (by
  rintro k _ hk ⟨w,rfl,hw,hv⟩;left;obtain⟨e1,he1,_⟩:=Zk (l:=w) (k:=k+1) (by omega);obtain⟨e2,he2,_⟩:=Zk (l:=w) (k:=k+14) (by omega);obtain⟨e3,he3,_⟩:=Zk (l:=w) (k:=k) (by omega);obtain⟨e4,he4,_⟩:=Zk (l:=w) (k:=k+9) (by omega);obtain⟨o1,ho1,p1⟩:=Zdm e1 7 25 rfl (by omega) (z:=7) rfl;obtain⟨o2,ho2,p2⟩:=Zdm e1 18 14 rfl (by omega) (z:=18) rfl;obtain⟨o3,ho3,p3⟩:=Zdm e2 17 15 rfl (by omega) (z:=17) rfl;obtain⟨o4,ho4,p4⟩:=Zdm e2 19 13 rfl (by omega) (z:=19) rfl;unfold Xq;dsimp only;rw[if_pos (decide_eq_true (by omega)),Zz (z:=((16+k:Nat):Int) - 15) (by omega) (by omega),Zz (z:=((16+k:Nat):Int) - 2) (by omega) (by omega),Zz (z:=((16+k:Nat):Int) - 16) (by omega) (by omega),Zz (z:=((16+k:Nat):Int) - 7) (by omega) (by omega)];rw[show((16+k:Nat):Int) - 15=((k+1:Nat):Int) by omega,show((16+k:Nat):Int) - 2=((k+14:Nat):Int) by omega,show((16+k:Nat):Int) - 16=(k:Int) by omega,show((16+k:Nat):Int) - 7=((k+9:Nat):Int) by omega]
  rw[Zp he1,ya,Zp he2,ya,ho1,ya,ho2,ya,ho3,ya,ho4,ya,Zp he3,ya,Zp he4,ya,
   if_pos (Z2 (by omega) (by omega)),Zs (by omega)]
  refine⟨_,rfl,_,rfl,by rw[yp,List.length_singleton];omega,hset w _ ?_ hv⟩;have hn:=Zxu (Ye (l.map yak)) k;rw[←hv _ _ he1, ←hv _ _ he2, ←hv _ _ he3, ←hv _ _ he4] at hn;rw[hw,Nat.add_comm 16 k,hn,Zah,Zah,Zah,ZLm e1 p1 p2,ZLn e2 p3 p4];exact ZLs ..) (by
  rintro _ ⟨w,rfl,hw,hv⟩;unfold Xq;dsimp only;rw[if_neg (ynd (by omega))];exact⟨_,rfl,hw,hv⟩)
 rw[k1,ya];exact⟨_,rfl,k2,k3⟩
theorem ZGt{st:List UInt32}{l:List UInt8}(hs:st.length=8)(h:l.length=64):∃o,Vl fuel st l=some o∧o.map yam=Zi3 (st.map yam) (Ye (l.map yak)):=by
 unfold Vl;obtain⟨w,hw,hwl,hwv⟩:=ZGs h;obtain⟨k,hk,hkv⟩:∃k,Zba fuel=some k∧k.map yam=ks:=⟨_,rfl,rfl⟩;have hkl:k.length=64:=by rw[←yz (f:=yam),hkv];rfl
 generalize hws:Ye (l.map yak)=ws at hwv;rw[hw,ya,hk,ya,if_pos (Z2 (by omega) (by omega))]
 obtain⟨x,g1,u,v,rfl,g2,g3⟩:=Yk (step:=Xr fuel) 64 (λi s=>∃u v,s=(st,w,k,(i:Int),u,v)∧v.length=8∧v.map yam=rs ws (st.map yam) i) (λx=>∃u v,x=(st,u,v)∧v.length=8∧v.map yam=rs ws (st.map yam) 64) (i:=(st,w,k,(0:Int),([()]:List Unit),st)) ⟨_,_,rfl,hs,rfl⟩ (by omega) (by
  rintro i _ hi ⟨u,v,rfl,he,hv⟩;left
  match v,he,hv with
  |[x0,x1,x2,x3,x4,x5,x6,x7],_,hv=>
   obtain⟨e1,he1,_⟩:=Zk (l:=k) (k:=i) (by omega);obtain⟨e2,he2,_⟩:=Zk (l:=w) (k:=i) (by omega);obtain⟨o1,ho1,p1⟩:=Zdm x4 6 26 rfl (by omega) (z:=6) rfl;obtain⟨o2,ho2,p2⟩:=Zdm x4 11 21 rfl (by omega) (z:=11) rfl;obtain⟨o3,ho3,p3⟩:=Zdm x4 25 7 rfl (by omega) (z:=25) rfl;obtain⟨o4,ho4,p4⟩:=Zdm x0 2 30 rfl (by omega) (z:=2) rfl;obtain⟨o5,ho5,p5⟩:=Zdm x0 13 19 rfl (by omega) (z:=13) rfl;obtain⟨o6,ho6,p6⟩:=Zdm x0 22 10 rfl (by omega) (z:=22) rfl;have hb:∀n:Nat,n < 8→inB (n:Int) ([x0,x1,x2,x3,x4,x5,x6,x7]:List UInt32).length=true:=λn hn=>Yf (by omega) (by simp;omega);have b0:=hb 0 (by omega);have b1:=hb 1 (by omega);have b2:=hb 2 (by omega);have b3:=hb 3 (by omega);have b4:=hb 4 (by omega);have b5:=hb 5 (by omega);have b6:=hb 6 (by omega);have b7:=hb 7 (by omega);unfold Xr;dsimp only;generalize ZO fuel=R at ho1 ho2 ho3 ho4 ho5 ho6 ⊢;rw[if_pos (decide_eq_true (by omega))];have c0:inB 0 ([x0,x1,x2,x3,x4,x5,x6,x7]:List UInt32).length=true:=b0;have c1:inB 1 ([x0,x1,x2,x3,x4,x5,x6,x7]:List UInt32).length=true:=b1;have c2:inB 2 ([x0,x1,x2,x3,x4,x5,x6,x7]:List UInt32).length=true:=b2;have c3:inB 3 ([x0,x1,x2,x3,x4,x5,x6,x7]:List UInt32).length=true:=b3;have c4:inB 4 ([x0,x1,x2,x3,x4,x5,x6,x7]:List UInt32).length=true:=b4;have c5:inB 5 ([x0,x1,x2,x3,x4,x5,x6,x7]:List UInt32).length=true:=b5;have c6:inB 6 ([x0,x1,x2,x3,x4,x5,x6,x7]:List UInt32).length=true:=b6;have c7:inB 7 ([x0,x1,x2,x3,x4,x5,x6,x7]:List UInt32).length=true:=b7;simp only[c0,c1,c2,c3,c4,c5,c6,c7,if_true,yar,yaq,ya,ho1,ho2,ho3,ho4,ho5,ho6,Zp he1,Zp he2];rw[Zs (by omega)];refine⟨_,rfl,_,_,rfl,rfl, ?_⟩;rw[show rs ws (st.map yam) (i+1)=rnd (rs ws (st.map yam) i) (ks.getD i 0) (wd ws i) from rfl, ←hv]
   have hk1:ks.getD i 0=e1.toNat:=by
    rw[←hkv,ycw,yal,he1];rfl
   rw[hk1, ←hwv i e2 he2];simp only[yag,List.map_nil];rw[ZtE]
   have kt:((x7+((o1^^^o2)^^^o3))+((x4&&&x5)^^^((4294967295^^^x4)&&&x6))+e1+e2).toNat=lo (yu (yu (yu (yu x7.toNat (S1 x4.toNat)) (ch x4.toNat x5.toNat x6.toNat)) e1.toNat) e2.toNat):=by
    rw[Zah,Zah,Zah,Zah,ZLp x4 p1 p2 p3,ZLy];exact ZLt ..
   have ka:((x7+((o1^^^o2)^^^o3))+((x4&&&x5)^^^((4294967295^^^x4)&&&x6))+e1+e2+((o4^^^o5)^^^o6)+(((x0&&&x1)^^^(x0&&&x2))^^^(x1&&&x2))).toNat=lo (yu (yu (yu (yu (yu (yu x7.toNat (S1 x4.toNat)) (ch x4.toNat x5.toNat x6.toNat)) e1.toNat) e2.toNat) (S0 x0.toNat)) (mj x0.toNat x1.toNat x2.toNat)):=by
    rw[Zah,Zah,kt,ZLo x0 p4 p5 p6,ZLz];exact ZLu ..
   have ke:(x3+(((x7+((o1^^^o2)^^^o3))+((x4&&&x5)^^^((4294967295^^^x4)&&&x6)))+e1+e2)).toNat=lo (yu x3.toNat (yu (yu (yu (yu x7.toNat (S1 x4.toNat)) (ch x4.toNat x5.toNat x6.toNat)) e1.toNat) e2.toNat)):=by
    rw[Zah,kt];exact ZLv ..
   rw[ka,ke]) (by
  rintro _ ⟨u,v,rfl,he,hv⟩;unfold Xr;dsimp only;rw[if_neg (ynd (by omega))];exact⟨_,rfl,_,_,rfl,he,hv⟩)
 rw[g1,ya];have hml:(Zi3 (st.map yam) ws).length=8:=ZfZ (by rw[yz];exact hs)
 obtain⟨x,q1,q2⟩:=Yk (step:=Xs fuel) 8 (λi s=>∃e,s=(st,(i:Int),u,e)∧e.length=8∧∀(j:Nat)x,e[j]? =some x→if j < i then(Zi3 (st.map yam) ws)[j]? =some x.toNat else(rs ws (st.map yam) 64)[j]? =some x.toNat) (λx=>x.2.map yam=Zi3 (st.map yam) ws) (i:=(st,(0:Int),u,v)) ⟨_,rfl,g2,λj x hx=>by
  rw[if_neg (by omega), ←g3,yal,hx];rfl⟩ (by omega) (by
  rintro i _ hi ⟨e,rfl,he,hv⟩;left;obtain⟨e1,he1,_⟩:=Zk (l:=e) (k:=i) (by omega);obtain⟨e2,he2,_⟩:=Zk (l:=st) (k:=i) (by omega);unfold Xs;dsimp only;rw[if_pos (decide_eq_true (by omega)),if_pos (Yf (by omega) (by omega)),ybf,he1,ya,Zp he2,ya,if_pos (Yf (by omega) (by omega)),ya,Zs (by omega)];refine⟨_,rfl,_,rfl,by rw[ybl];exact he, ?_⟩;intro j x hx;by_cases hji:j=i
  ·subst hji;rw[ycr (by omega)] at hx;cases hx;rw[if_pos (by omega),Zah];have k1:=hv _ _ he1;rw[if_neg (by omega)] at k1;unfold Zi3;rw[List.getElem?_zipWith,k1,yal,he2];rfl
  ·rw[yda (Ne.symm hji)] at hx;have k1:=hv j x hx;by_cases hj:j < i
   ·rw[if_pos hj] at k1;rw[if_pos (by omega)];exact k1
   ·rw[if_neg hj] at k1;rw[if_neg (by omega)];exact k1) (by
  rintro _ ⟨e,rfl,he,hv⟩;unfold Xs;dsimp only;rw[if_neg (ynd (by omega))];refine⟨_,rfl, ?_⟩;dsimp only;apply ybq;intro j;rw[yal];by_cases hj:j < 8
  ·obtain⟨x,hx,_⟩:=Zk (l:=e) (k:=j) (by omega);have:=hv j x hx;rw[if_pos hj] at this;rw[hx,this];rfl
  ·rw[yap (by omega),yap (by omega)];rfl)
 dsimp only;rw[q1,ya];exact⟨_,rfl,q2⟩
def rb8(n:Nat):List UInt8:=(be8 n).map yat
theorem ZKs(n:UInt64){k:Nat}(hk:k < 8):(rb8 n.toNat)[k]? =some (w8 ((ZL n (56 - 8*k)).toNat:Int)):=by
 have h:∀m:Nat,w8 ((ZL n m).toNat:Int)=yat (n.toNat / 2 ^ m % 256):=by
  intro m;unfold w8 ZL;rw[yba,yah (Nat.lt_of_le_of_lt (Nat.div_le_self _ _) (ybr n))];congr 1
 rw[h]
 match k,hk with
 |0,_=>rfl
 |1,_=>rfl
 |2,_=>rfl
 |3,_=>rfl
 |4,_=>rfl
 |5,_=>rfl
 |6,_=>rfl
 |7,_=>
  show some (yat (n.toNat % 256))=some (yat (n.toNat / 2 ^ 0 % 256));rw[Nat.pow_zero,Nat.div_one]
theorem ZKt{l:List UInt8}(h:l.length≤4294967296):WX fuel l=some (l++([128]:List UInt8)++yy (zs l.length) 0++rb8 (8*l.length)):=by
 unfold WX;have hlt:l.length % 64 < 64:=ybb _ (by omega);rw[if_pos (Z2 (by omega) (by omega)),if_pos (Z2 (by omega) (by omega))]
 obtain⟨x,h1,h2⟩:=Yk (step:=Y8 fuel) (zs l.length) (λj s=>s=(l,l++([128]:List UInt8)++yy j 0)) (λx=>x=(l,l++([128]:List UInt8)++yy (zs l.length) 0)) (i:=(l,l++([128]:List UInt8))) (by simp) (by unfold zs;omega) (by
  rintro j _ hj rfl;left;unfold Y8;dsimp only;have hl:(l++([128]:List UInt8)++yy j 0).length=l.length+1+j:=by rw[yp,yp,ycp];rfl
  have hm:yaw ((l++([128]:List UInt8)++yy j 0).length:Int) 64=(((l.length+1+j) % 64:Nat):Int):=by rw[hl];rfl
  rw[hm];unfold zs at hj;rw[if_pos (by simp;omega),if_pos (Z2 (by omega) (by omega))];exact⟨_,rfl,by rw[yaj,List.replicate_succ']⟩) (by
  rintro _ rfl;unfold Y8;dsimp only;have hl:(l++([128]:List UInt8)++yy (zs l.length) 0).length=l.length+1+zs l.length:=by rw[yp,yp,ycp];rfl
  have hm:yaw ((l++([128]:List UInt8)++yy (zs l.length) 0).length:Int) 64=(((l.length+1+zs l.length) % 64:Nat):Int):=by rw[hl];rfl
  rw[hm,if_neg (by simp;unfold zs;omega)];exact⟨_,rfl,rfl⟩)
 rw[h1,ya,h2];dsimp only;generalize hp:l++([128]:List UInt8)++yy (zs l.length) 0=p
 have hpl:p.length≤l.length+65:=by
  rw[←hp,yp,yp,ycp];unfold zs;simp;omega
 have hn:(8*w64 (l.length:Int)).toNat=8*l.length:=by
  rw[UInt64.toNat_mul];unfold w64;rw[yba];show 8*((((l.length:Nat):Int) % 18446744073709551616).toNat % 2 ^ 64) % 2 ^ 64=_;omega
 generalize hN:8*w64 (l.length:Int)=N at hn
 obtain⟨x,g1,g2⟩:=Yk (step:=Y9 fuel) 8 (λk s=>s=(N,56 - 8*(k:Int),p++(rb8 N.toNat).take k)) (λx=>x=p++rb8 N.toNat) (i:=(N,(56:Int),p)) (by simp) (by omega) (by
  rintro k _ hk rfl;left;unfold Y9;dsimp only;rw[if_pos (decide_eq_true (by omega)),if_pos (decide_eq_true (by omega)),if_pos (Z2 (by simp;omega) (by simp;omega)),Zz (z:=56 - 8*(k:Int) - 8) (by omega) (by omega)];refine⟨_,rfl, ?_⟩;rw[Zfe (ZKs N hk),show min (56 - 8*(k:Int)).toNat 64=56 - 8*k by omega,yaj,show 56 - 8*((k+1:Nat):Int)=56 - 8*(k:Int) - 8 by omega]) (by
  rintro _ rfl;unfold Y9;dsimp only;rw[if_neg (ynd (by omega))];exact⟨_,rfl,rfl⟩)
 rw[g1,ya,g2,hn]
theorem ZKu{l:List UInt8}(h:l.length≤4294967296):Wv fuel l=some (sha l):=by
 unfold Wv;obtain⟨f,hf,hfl⟩:∃f,QQ fuel=some f∧f.map yam=ZcZ:=⟨_,rfl,rfl⟩;have hf8:f.length=8:=by rw[←yz (f:=yam),hfl];rfl
 rw[ZKt h,ya,hf,ya];generalize hE:l++([128]:List UInt8)++yy (zs l.length) 0++rb8 (8*l.length)=E
 have hEm:E.map yak=Zf1 l:=by
  unfold Zf1;rw[←hE];simp only[yav,List.map_replicate,yag,List.map_nil,rb8,List.map_map,yaj,List.singleton_append]
  have:be8 (8*l.length)=(be8 (8*l.length)).map (yak ∘ yat):=by
   simp[be8]
  rw[←this];simp
 have hEl:E.length=64*((l.length+72) / 64):=by rw[←yz (f:=yak),hEm,ZtH]
 generalize hz:yzz=z;have hzl:z.length=32:=by rw[←hz];rfl
 obtain⟨x,h1,v,rfl,g1,g2⟩:=Yk (step:=XB fuel) ((l.length+72) / 64) (λc s=>∃d,s=(E,d,((64*c:Nat):Int),z)∧d.length=8∧d.map yam=Zf0 c (E.map yak) ZcZ) (λx=>∃v,x=(v,z)∧v.length=8∧v.map yam=Zf0 ((l.length+72) / 64) (E.map yak) ZcZ) (i:=(E,f,(0:Int),z)) ⟨_,rfl,hf8,hfl⟩ (by omega) (by
  rintro c _ hc ⟨d,rfl,hd,hv⟩;left;unfold XB;dsimp only;obtain⟨m,hm1,hm2⟩:=ZGt (st:=d) (l:=(E.take (64*c+64)).drop (64*c)) hd (by rw[ybx,yai];omega);rw[if_pos (decide_eq_true (by omega)),Zz (z:=((64*c:Nat):Int)+64) (by omega) (by omega),if_pos (by simp only[Zbt,yj,decide_eq_true_eq];omega),show(((64*c:Nat):Int)+64).toNat=64*c+64 by omega,ybf,hm1,ya];refine⟨_,rfl,_,by rw[show((64*c:Nat):Int)+64=((64*(c+1):Nat):Int) by omega], ?_, ?_⟩
  ·rw[←yz (f:=yam),hm2];exact ZfZ (by rw[yz];exact hd)
  ·rw[hm2,ZlZ,hv, ←List.map_drop, ←ycb];congr 3;rw[List.drop_take];congr 1;omega) (by
  rintro _ ⟨d,rfl,hd,hv⟩;unfold XB;dsimp only;rw[if_neg (ynd (by omega))];exact⟨_,rfl,_,rfl,hd,hv⟩)
 rw[h1,ya];dsimp only;generalize hv2:Zf0 ((l.length+72) / 64) (E.map yak) ZcZ=v2 at g2
 obtain⟨x,k1,o,rfl,k2,k3⟩:=Yk (step:=XC fuel) 32 (λi s=>∃o,s=(v,(i:Int),z,o)∧o.length=32∧∀(j:Nat),j < i→o[j]? =some (Go.Sha.ZGo v2 j)) (λx=>∃o,x=(z,o)∧o.length=32∧∀(j:Nat),j < 32→o[j]? =some (Go.Sha.ZGo v2 j)) (i:=(v,(0:Int),z,z)) ⟨_,rfl,hzl,λj hj=>by omega⟩ (by omega) (by
  rintro i _ hi ⟨o,rfl,ho,hv⟩;left;unfold XC;dsimp only;have e1:Int.tdiv (i:Int) 4=((i / 4:Nat):Int):=rfl;have e2:yaw (i:Int) 4=((i % 4:Nat):Int):=rfl;obtain⟨x1,hx1,_⟩:=Zk (l:=v) (k:=i / 4) (by omega);obtain⟨x2,hx2,_⟩:=Zk (l:=o) (k:=i) (by omega);rw[if_pos (decide_eq_true (by omega)),e1,e2,Zz (z:=((i / 4:Nat):Int)) (by omega) (by omega),Zz (z:=8*((i % 4:Nat):Int)) (by omega) (by omega),Zz (z:=24 - 8*((i % 4:Nat):Int)) (by omega) (by omega),Zp hx1,ya,if_pos (decide_eq_true (by omega)),if_pos (Yf (by omega) (by omega)),ybf,hx2,ya,Zs (by omega)];refine⟨_,rfl,_,rfl,by rw[ybl];exact ho, ?_⟩;intro j hj;by_cases hji:j=i
  ·subst hji;rw[ycr (by omega)];congr 1;unfold Go.Sha.ZGo
   have hx:v2.getD (j / 4) 0=x1.toNat:=by
    rw[←g2,ycw,yal,hx1];rfl
   rw[hx,show min (24 - 8*((j % 4:Nat):Int)).toNat 32=24 - 8*(j % 4) by omega,ZvK];unfold w8;have e3:∀m:Nat,(((m:Nat):Int) % 256).toNat=m % 256:=λm=>by omega
   rw[e3,show yaf x1.toNat (24 - 8*(j % 4))=x1.toNat >>> (24 - 8*(j % 4)) from rfl,ydc]
   exact UInt8.toNat_inj.1 (by simp)
  ·rw[yda (Ne.symm hji)];exact hv j (by omega)) (by
  rintro _ ⟨o,rfl,ho,hv⟩;unfold XC;dsimp only;rw[if_neg (ynd (by omega))];exact⟨_,rfl,_,rfl,ho,hv⟩)
 rw[k1,ya,ZBd, ←hEm,hv2];congr 1;apply ybq;intro j;by_cases hj:j < 32
 ·rw[k3 j hj,yal,List.getElem?_range hj];rfl
 ·rw[yap (by show o.length≤j;omega),yap (by simp;omega)]
noncomputable def XY(F:Nat)(a0:List UInt8):Option (List UInt8):=if decide (a0.length≤4294967296)=true then some (sha a0) else Wv F a0
noncomputable def Zmj(F:Nat):Fs yc:={ QR F with M:=λx=>XY F x}
noncomputable def Zgb:Fs yc:=Zmj fuel
theorem Zmk:Zgb.Ok:=Zno (s:=QR fuel) Zlp λx=>by
 show XY fuel x=Wv fuel x;unfold XY;split
 ·rename_i h;exact(ZKu (of_decide_eq_true h)).symm
 ·rfl
theorem ZGu{l:List UInt8}(h:l.length≤4294967296):XY fuel l=some (sha l):=if_pos (decide_eq_true h)
end Go.Proofs.YtmkgbalfkhaflaaGreat
end
section
set_option maxRecDepth 4000
namespace Go.Proofs.YtmkgbalfkhaflaaGreat
open Go Go.Ev
noncomputable section
def YU(F:Nat)(s:(UInt64×Int×(List UInt8)×(List UInt8))):Option ((UInt64×Int×(List UInt8)×(List UInt8))⊕((List UInt8)×(List UInt8))):=
 if(decide (s.2.1 ≥ 0))=true then
  if(decide (0≤s.2.1))=true then
   let y631:UInt8:=w8 ((ZL s.1 (min s.2.1.toNat 64)).toNat:Int)
   if(apB s.2.2.2.length 1 1)=true then
    some (.inl (s.1,wi (s.2.1 - 8),s.2.2.1,s.2.2.2++([y631]:List UInt8)))
   else
   none
  else
  none
 else
 some (.inr (s.2.2.1,s.2.2.2))
def Zbo:Lp:=⟨[(0,.v .u64),(3,.own 1 .u8),(4,.v yI)],[.log .u8 5,.log .u8 5],[.u64,yI,(.sl .u8),(.sl .u8)],[⟨.exit 0,[(3,.own 1 .u8)],[.log .u8 5,.log .u8 5],[(.sl .u8),(.sl .u8)]⟩],Zb (YU fuel) fuel⟩
theorem Zgc:Zbo.okA yc 164 0:=ZC { own:=[2,3,9,15,16]} [] [] trivial
def Wz(F:Nat)(a0:UInt64):Option ((List UInt8)):=
 (Zb (YU F) F (a0,56,[],[])).bind λo632=>
 some o632.2
def Zb7:Fs yc:=⟨164,[.v .u64],[],[.u64],[⟨.ret,[(0,.own 0 .u8)],[.log .u8 5],[(.sl .u8)]⟩],λx=>Wz fuel x⟩
theorem Zim:Zb7.Ok:=fnO { own:=[2,3,9,15,16]} [(0,Zbo)] [] trivial ⟨Zgc,ytt⟩
def Xa(F:Nat)(s:((List (List UInt8))×Int×(List UInt8)×(List UInt8))):Option (((List (List UInt8))×Int×(List UInt8)×(List UInt8))⊕((List UInt8)×(List UInt8))):=
 if(decide (s.2.1 < (s.1.length:Int)))=true then
  (idx s.1 s.2.1).bind λe634=>
  (VT F (w64 (e634.length:Int))).bind λo635=>
  if(apB s.2.2.2.length o635.length 1)=true then
   (idx s.1 s.2.1).bind λe636=>
   if(apB ((s.2.2.2++o635).length) e636.length 1)=true then
    some (.inl (s.1,wi (s.2.1+1),s.2.2.1,(s.2.2.2++o635)++e636))
   else
   none
  else
  none
 else
 some (.inr (s.2.2.1,s.2.2.2))
def Zez:Lp:=⟨[(1,.v (.sl (.sl .u8))),(4,.ref 0 []),(5,.own 1 .u8),(6,.v yI)],[.var (.v (.arr 32 .u8)) true,.log .u8 5],[(.sl (.sl .u8)),yI,(.arr 32 .u8),(.sl .u8)],[⟨.exit 0,[(4,.ref 0 []),(5,.own 1 .u8)],[.var (.v (.arr 32 .u8)) true,.log .u8 5],[(.arr 32 .u8),(.sl .u8)]⟩],Zb (Xa fuel) fuel⟩
def ZLA:HI:={ own:=[5,11,14,28,30,31,36],still:=[10,26,37]}
theorem Zji:Zez.okA yc 131 0:=ZC ZLA [] [Zex] ⟨Zln,ytt⟩
def Qo(F:Nat)(a0:ByteArray)(a1:(List (List UInt8))):Option ((List UInt8)):=
 (Wz F (w64 (a0.size:Int))).bind λo633=>
 if(decide (a0.size≤maxLen))=true then
  if(apB o633.length a0.data.toList.length 1)=true then
   (Zb (Xa F) F (a1,0,yzz,o633++a0.data.toList)).bind λo637=>
   (XY F o637.2).bind λo638=>
   some o638
  else
  none
 else
 none
def Zgd:Fs yc:=⟨131,[.v .str,.v (.sl (.sl .u8))],[],[.str,(.sl (.sl .u8))],[⟨.ret,[(0,.v (.arr 32 .u8))],[],[(.arr 32 .u8)]⟩],λx=>Qo fuel x.1 x.2⟩
theorem Zml:Zgd.Ok:=fnO ZLA [(0,Zez)] [Zb7,Zgb] ⟨Zim,Zmk,ytt⟩ ⟨Zji,ytt⟩
def YV(F:Nat)(s:(Int×(List UInt8)×(List UInt8))):Option ((Int×(List UInt8)×(List UInt8))⊕((List UInt8)×(List UInt8))):=
 if(decide (s.1 < 32))=true then
  if(inB s.1 32)=true then
   (s.2.1[s.1.toNat]?).bind λe639=>
   if(apB s.2.2.length 1 1)=true then
    some (.inl (wi (s.1+1),s.2.1,s.2.2++([e639]:List UInt8)))
   else
   none
  else
  none
 else
 some (.inr (s.2.1,s.2.2))
def Zbp:Lp:=⟨[(3,.ref 0 []),(5,.own 1 .u8),(6,.v yI)],[.var (.v (.arr 32 .u8)) true,.log .u8 5],[yI,(.arr 32 .u8),(.sl .u8)],[⟨.exit 0,[(5,.own 1 .u8)],[.var (.v (.arr 32 .u8)) true,.log .u8 5],[(.arr 32 .u8),(.sl .u8)]⟩],Zb (YV fuel) fuel⟩
def ZLB:HI:={ own:=[5,7,9,14,19],still:=[4]}
theorem Zge:Zbp.okA yc 132 0:=ZC ZLB [] [] trivial
def WA(F:Nat)(a0:(List UInt8))(a1:(List UInt8)):Option ((List UInt8)):=
 if(apB 0 a0.length 1)=true then
  (Zb (YV F) F (0,a1,a0)).bind λo640=>
  some o640.2
 else
 none
def Zb8:Fs yc:=⟨132,[.v (.sl .u8),.v (.arr 32 .u8)],[],[(.sl .u8),(.arr 32 .u8)],[⟨.ret,[(0,.v (.sl .u8))],[],[(.sl .u8)]⟩],λx=>WA fuel x.1 x.2⟩
theorem Zin:Zb8.Ok:=fnO ZLB [(0,Zbp)] [] trivial ⟨Zge,ytt⟩
def ZI6:ByteArray:=⟨#[107,105,116]⟩
def Yl(F:Nat)(a0:(List UInt8))(a1:UInt8):Option ((List UInt8)):=
 (WA F [] a0).bind λo641=>
 (Qo F ZI6 [o641,[a1]]).bind λo642=>
 some o642
def ZeA:Fs yc:=⟨86,[.v (.arr 32 .u8),.v .u8],[],[(.arr 32 .u8),.u8],[⟨.ret,[(0,.v (.arr 32 .u8))],[],[(.arr 32 .u8)]⟩],λx=>Yl fuel x.1 x.2⟩
theorem Zlq:ZeA.Ok:=fnO { still:=[5,6,10]} [] [Zb8,Zgd] ⟨Zin,Zml,ytt⟩
def WY(F:Nat)(a0:(List UInt8)):Option (Kit):=
 (Yl F a0 1).bind λo643=>
 (YB F o643).bind λo644=>
 (Yl F a0 2).bind λo645=>
 (YB F o645).bind λo646=>
 (Yl F a0 3).bind λo647=>
 (YB F o647).bind λo648=>
 (Yl F a0 4).bind λo649=>
 (YB F o649).bind λo650=>
 (Yl F a0 5).bind λo651=>
 (YB F o651).bind λo652=>
 (Yl F a0 6).bind λo653=>
 some (o644,o646,o648,o650,o652,o653)
def Zgf:Fs yc:=⟨32,[.v (.arr 32 .u8)],[],[(.arr 32 .u8)],[⟨.ret,[(0,.v Z4)],[],[Z4]⟩],λx=>WY fuel x⟩
def ZMk:HI:={ still:=[3,4,6,7,9,10,12,13,15,16,18]}
theorem Zmm:Zgf.Ok:=fnO ZMk [] [ZeA,Zew] ⟨Zlq,Zlm,ytt⟩
def Xb(F:Nat)(s:(UInt64×UInt64×UInt64)):Option ((UInt64×UInt64×UInt64)⊕UInt64):=
 if(decide (s.2.1 > 0))=true then
  if((s.2.1 % 2)==1)=true then
   some (.inl ((s.1+s.1) % 4611686018427377339,s.2.1 / 2,(s.2.2+s.1) % 4611686018427377339))
  else
  some (.inl ((s.1+s.1) % 4611686018427377339,s.2.1 / 2,s.2.2))
 else
 some (.inr s.2.2)
def Zb9:Lp:=⟨[(0,.v .u64),(1,.v .u64),(5,.v .u64)],[],[.u64,.u64,.u64],[⟨.exit 0,[(5,.v .u64)],[],[.u64]⟩],Zb (Xb fuel) fuel⟩
theorem ZgG:Zb9.okA yc 168 0:=ZC { still:=[4]} [] [] trivial
def WZ(F:Nat)(a0:UInt64)(a1:UInt64):Option (UInt64):=
 (Zb (Xb F) F (a0,a1,0)).bind λo654=>
 some o654
def VU(F:Nat):Fs yc:=⟨168,[.v .u64,.v .u64],[],[.u64,.u64],[⟨.ret,[(0,.v .u64)],[],[.u64]⟩],λx=>WZ F x.1 x.2⟩
def Zj5:Fs yc:=VU fuel
theorem Zjj:Zj5.Ok:=fnO { still:=[4]} [(0,Zb9)] [] trivial ⟨ZgG,ytt⟩
end
end Go.Proofs.YtmkgbalfkhaflaaGreat
end
section
set_option maxRecDepth 4000
namespace Go.Proofs.YtmkgbalfkhaflaaGreat
open Go Go.Ev
theorem Zp5{z:Nat}:(yad (z % 4611686018427377339)).toNat=z % 4611686018427377339:=by
 rw[yba,yah];exact Nat.lt_trans (ybb _ (by decide)) (by decide)
theorem ZGv{a b:UInt64}(ha:a.toNat < 4611686018427377339)(hb:b.toNat < 4611686018427377339):((a+b) % 4611686018427377339).toNat=(a.toNat+b.toNat) % 4611686018427377339:=by
 rw[UInt64.toNat_mod,UInt64.toNat_add,show(4611686018427377339:UInt64).toNat=4611686018427377339 from rfl,yah (a:=a.toNat+b.toNat) (by omega)]
theorem Zlr:∀(k m:Nat)(A B O:UInt64),A.toNat < 4611686018427377339→O.toNat < 4611686018427377339→B.toNat < 2 ^ k→k < m→
 Zb (Xb fuel) m (A,B,O)=some (yad ((O.toNat+A.toNat*B.toNat) % 4611686018427377339))
 |k,0,_,_,_,_,_,_,h=>by omega
 |0,m+1,A,B,O,hA,hO,h,_=>by
  have h0:B.toNat=0:=by rw[Nat.pow_zero] at h;omega
  have hn:¬B > 0:=by
   intro h2;have h3:0 < B.toNat:=ybz.1 h2;omega
  have hs:Xb fuel (A,B,O)=if decide (B > 0)=true then(if((B % 2)==1)=true then some (.inl ((A+A) % 4611686018427377339,B / 2,(O+A) % 4611686018427377339)) else some (.inl ((A+A) % 4611686018427377339,B / 2,O))) else some (.inr O):=rfl
  unfold Zb;rw[hs]
  rw[if_neg (by rw[decide_eq_true_iff];exact hn),ya,h0,Nat.mul_zero,Nat.add_zero,yah hO,UInt64.ofNat_toNat]
 |k+1,m+1,A,B,O,hA,hO,h,hm=>by
  have hs:Xb fuel (A,B,O)=if decide (B > 0)=true then(if((B % 2)==1)=true then some (.inl ((A+A) % 4611686018427377339,B / 2,(O+A) % 4611686018427377339)) else some (.inl ((A+A) % 4611686018427377339,B / 2,O))) else some (.inr O):=rfl
  unfold Zb;rw[hs];by_cases h2:B > 0
  ·have h3:0 < B.toNat:=ybz.1 h2;have hsh:(B / 2).toNat=B.toNat / 2:=by rw[UInt64.toNat_div];rfl
   have hlt:(B / 2).toNat < 2 ^ k:=by
    rw[hsh];rw[Nat.pow_succ] at h;omega
   have hand:((B % 2)==1)=decide (B.toNat % 2=1):=by
    rw[yck,beq_iff_eq,decide_eq_true_iff, ←ycf,UInt64.toNat_mod];rfl
   have hA2:=ZGv hA hA;have hAl:((A+A) % 4611686018427377339).toNat < 4611686018427377339:=by rw[hA2];exact ybb _ (by decide)
   have hB:B.toNat=2*(B.toNat / 2)+B.toNat % 2:=by omega
   rw[if_pos (decide_eq_true h2),hand];by_cases h4:B.toNat % 2=1
   ·have hO2:=ZGv hO hA;have hOl:((O+A) % 4611686018427377339).toNat < 4611686018427377339:=by rw[hO2];exact ybb _ (by decide)
    rw[if_pos (decide_eq_true h4),ya];dsimp only;rw[Zlr k m _ _ _ hAl hOl hlt (by omega),hA2,hO2,hsh];congr 2;rw[Nat.add_mod,Nat.mod_mod,Nat.mod_mul_mod, ←Nat.add_mod];congr 1
    conv=>rhs;rw[hB,h4,Nat.mul_add,Nat.mul_one, ←Nat.mul_assoc]
    rw[Nat.mul_two];omega
   ·rw[if_neg (by rw[decide_eq_true_iff];exact h4),ya];dsimp only;rw[Zlr k m _ _ _ hAl hO hlt (by omega),hA2,hsh];congr 2;rw[Nat.add_mod,Nat.mod_mul_mod, ←Nat.add_mod];congr 1
    conv=>rhs;rw[hB,show B.toNat % 2=0 by omega,Nat.add_zero, ←Nat.mul_assoc]
    rw[Nat.mul_two]
  ·have h3:B.toNat=0:=by
    rcases Nat.eq_zero_or_pos B.toNat with h5|h5
    ·exact h5
    ·exact absurd (show(0:UInt64) < B from ybz.2 h5) h2
   rw[if_neg (by rw[decide_eq_true_iff];exact h2),ya,h3,Nat.mul_zero,Nat.add_zero,yah hO,UInt64.ofNat_toNat]
noncomputable def ZA(F:Nat)(a0:UInt64)(a1:UInt64):Option UInt64:=if decide (a0.toNat < 4611686018427377339)=true then some (yad (a0.toNat*a1.toNat % 4611686018427377339)) else WZ F a0 a1
theorem ZDZ(a b:UInt64):WZ fuel a b=ZA fuel a b:=by
 unfold ZA;split
 ·rename_i h;unfold WZ;rw[Zlr 64 fuel a b 0 (of_decide_eq_true h) (by decide) (ybr _) (by rw[Zda];omega),ya,show(0:UInt64).toNat=0 from rfl,ybg]
 ·rfl
noncomputable def Zj6(F:Nat):Fs yc:={ VU F with M:=λx=>ZA F x.1 x.2}
noncomputable def ZdP:Fs yc:=Zj6 fuel
theorem Zj7:ZdP.Ok:=Zno (s:=VU fuel) Zjj λx=>(ZDZ x.1 x.2).symm
end Go.Proofs.YtmkgbalfkhaflaaGreat
end
section
set_option maxRecDepth 4000
namespace Go.Proofs.YtmkgbalfkhaflaaGreat
open Go Go.Ev
noncomputable section
def Xc(F:Nat)(s:(UInt64×UInt64×UInt64)):Option ((UInt64×UInt64×UInt64)⊕UInt64):=
 if(decide (s.2.1 > 0))=true then
  if((s.2.1 % 2)==1)=true then
   (ZA F s.2.2 s.1).bind λo655=>
   (ZA F s.1 s.1).bind λo656=>
   some (.inl (o656,s.2.1 / 2,o655))
  else
  (ZA F s.1 s.1).bind λo657=>
  some (.inl (o657,s.2.1 / 2,s.2.2))
 else
 some (.inr s.2.2)
def Zca:Lp:=⟨[(0,.v .u64),(1,.v .u64),(5,.v .u64)],[],[.u64,.u64,.u64],[⟨.exit 0,[(5,.v .u64)],[],[.u64]⟩],Zb (Xc fuel) fuel⟩
theorem ZgH:Zca.okA yc 139 0:=ZC { still:=[4,11,12,14,15]} [] [ZdP] ⟨Zj7,ytt⟩
def W0(F:Nat)(a0:UInt64)(a1:UInt64):Option (UInt64):=
 (Zb (Xc F) F (a0,a1,1)).bind λo658=>
 some o658
def VV(F:Nat):Fs yc:=⟨139,[.v .u64,.v .u64],[],[.u64,.u64],[⟨.ret,[(0,.v .u64)],[],[.u64]⟩],λx=>W0 F x.1 x.2⟩
def Zj8:Fs yc:=VV fuel
theorem Zjk:Zj8.Ok:=fnO { still:=[4,11,12,14,15]} [(0,Zca)] [] trivial ⟨ZgH,ytt⟩
end
end Go.Proofs.YtmkgbalfkhaflaaGreat
end
section
set_option maxRecDepth 4000
namespace Go.Proofs.YtmkgbalfkhaflaaGreat
open Go Go.Ev
theorem Zp6:∀(k m:Nat)(A N O:UInt64),A.toNat < 4611686018427377339→O.toNat < 4611686018427377339→N.toNat < 2 ^ k→k < m→Zb (Xc fuel) m (A,N,O)=some (yad (pwm 4611686018427377339 k A.toNat N.toNat O.toNat))
 |k,0,_,_,_,_,_,_,h=>by omega
 |0,m+1,A,N,O,hA,hO,h,_=>by
  have hn:¬N > 0:=by
   intro h2;have h3:0 < N.toNat:=ybz.1 h2;rw[Nat.pow_zero] at h;omega
  have hs:Xc fuel (A,N,O)=if decide (N > 0)=true then(if((N % 2)==1)=true then(ZA fuel O A).bind λo1=>(ZA fuel A A).bind λo2=>some (.inl (o2,N / 2,o1)) else(ZA fuel A A).bind λo2=>some (.inl (o2,N / 2,O))) else some (.inr O):=rfl
  unfold Zb;rw[hs]
  rw[if_neg (by rw[decide_eq_true_iff];exact hn),ya,pwm,UInt64.ofNat_toNat]
 |k+1,m+1,A,N,O,hA,hO,h,hm=>by
  have hs:Xc fuel (A,N,O)=if decide (N > 0)=true then(if((N % 2)==1)=true then(ZA fuel O A).bind λo1=>(ZA fuel A A).bind λo2=>some (.inl (o2,N / 2,o1)) else(ZA fuel A A).bind λo2=>some (.inl (o2,N / 2,O))) else some (.inr O):=rfl
  unfold Zb;rw[hs];by_cases h2:N > 0
  ·have hp:0 < N.toNat→pwm 4611686018427377339 (k+1) A.toNat N.toNat O.toNat=pwm 4611686018427377339 k (A.toNat*A.toNat % 4611686018427377339) (N.toNat / 2) (if N.toNat % 2=1 then O.toNat*A.toNat % 4611686018427377339 else O.toNat):=λh=>by
    rw[pwm,if_neg (by omega)]
   have h3:0 < N.toNat:=ybz.1 h2;have hsh:(N / 2).toNat=N.toNat / 2:=by rw[UInt64.toNat_div];rfl
   have hlt:(N / 2).toNat < 2 ^ k:=by
    rw[hsh];rw[Nat.pow_succ] at h;omega
   have hand:((N % 2)==1)=decide (N.toNat % 2=1):=by
    rw[yck,beq_iff_eq,decide_eq_true_iff, ←ycf,UInt64.toNat_mod];rfl
   have ml:∀z:Nat,z % 4611686018427377339 < 4611686018427377339:=λz=>ybb _ (by decide)
   have e1:ZA fuel A A=some (yad (A.toNat*A.toNat % 4611686018427377339)):=by
    unfold ZA;rw[if_pos (decide_eq_true hA)]
   have e2:ZA fuel O A=some (yad (O.toNat*A.toNat % 4611686018427377339)):=by
    unfold ZA;rw[if_pos (decide_eq_true hO)]
   rw[if_pos (decide_eq_true h2),hand,hp h3,e1,e2];by_cases h4:N.toNat % 2=1
   ·rw[if_pos (decide_eq_true h4),if_pos h4,ya,ya,ya];dsimp only;rw[Zp6 k m _ _ _ (by rw[Zp5];exact ml _) (by rw[Zp5];exact ml _) hlt (by omega),Zp5,Zp5,hsh]
   ·rw[if_neg (by rw[decide_eq_true_iff];exact h4),if_neg h4,ya,ya];dsimp only;rw[Zp6 k m _ _ _ (by rw[Zp5];exact ml _) hO hlt (by omega),Zp5,hsh]
  ·have h3:N.toNat=0:=by
    rcases Nat.eq_zero_or_pos N.toNat with h5|h5
    ·exact h5
    ·exact absurd (show(0:UInt64) < N from ybz.2 h5) h2
   rw[if_neg (by rw[decide_eq_true_iff];exact h2),ya,pwm,if_pos h3,UInt64.ofNat_toNat]
noncomputable def YM(F:Nat)(a0:UInt64)(a1:UInt64):Option UInt64:=if decide (a0.toNat < 4611686018427377339)=true then some (yad (pwm 4611686018427377339 64 a0.toNat a1.toNat 1)) else W0 F a0 a1
theorem ZD0(a n:UInt64):W0 fuel a n=YM fuel a n:=by
 unfold YM;split
 ·rename_i h;unfold W0;rw[Zp6 64 fuel a n 1 (of_decide_eq_true h) (by decide) (ybr _) (by rw[Zda];omega),ya];rfl
 ·rfl
noncomputable def Zj9(F:Nat):Fs yc:={ VV F with M:=λx=>YM F x.1 x.2}
noncomputable def QS:Fs yc:=Zj9 fuel
theorem ZcB:QS.Ok:=Zno (s:=VV fuel) Zjk λx=>(ZD0 x.1 x.2).symm
end Go.Proofs.YtmkgbalfkhaflaaGreat
end
section
set_option maxRecDepth 4000
namespace Go.Proofs.YtmkgbalfkhaflaaGreat
open Go Go.Ev
noncomputable section
def Xu(F:Nat)(a0:UInt64):Option (Bool):=
 if(decide (a0 ≥ 1))=true then
  if(decide (a0 < 4611686018427377339))=true then
   (YM F a0 2305843009213688669).bind λo659=>
   some (o659==1)
  else
  some false
 else
 some false
def W1:Fs yc:=⟨98,[.v .u64],[],[.u64],[⟨.ret,[(0,.v .bool)],[],[.bool]⟩],λx=>Xu fuel x⟩
theorem Qf:W1.Ok:=fnO { still:=[2,10]} [] [QS] ⟨ZcB,ytt⟩
def Vm(F:Nat)(a0:UInt64):Option (UInt64):=
 (Xu F a0).bind λo660=>
 if o660=true then
  some a0
 else
 some 1
def ZdQ:Fs yc:=⟨166,[.v .u64],[],[.u64],[⟨.ret,[(0,.v .u64)],[],[.u64]⟩],λx=>Vm fuel x⟩
theorem Zka:ZdQ.Ok:=fnO { still:=[2,3]} [] [W1] ⟨Qf,ytt⟩
def Vn(F:Nat)(a0:UInt64)(a1:UInt64):Option (UInt64):=
 (Vm F a0).bind λo661=>
 (YM F o661 (a1 % 2305843009213688669)).bind λo662=>
 some o662
def ZdR:Fs yc:=⟨133,[.v .u64,.v .u64],[],[.u64,.u64],[⟨.ret,[(0,.v .u64)],[],[.u64]⟩],λx=>Vn fuel x.1 x.2⟩
theorem Zkb:ZdR.Ok:=fnO { still:=[4,5,6,8]} [] [ZdQ,QS] ⟨Zka,ZcB,ytt⟩
def YC(F:Nat)(a0:UInt64):Option (UInt64):=
 (Vn F 4 a0).bind λo663=>
 some o663
def ZeB:Fs yc:=⟨87,[.v .u64],[],[.u64],[⟨.ret,[(0,.v .u64)],[],[.u64]⟩],λx=>YC fuel x⟩
theorem Zls:ZeB.Ok:=fnO { still:=[2,3]} [] [ZdR] ⟨Zkb,ytt⟩
def W2(F:Nat)(a0:Kit):Option (Zal):=
 (YC F a0.1).bind λo664=>
 (YC F a0.2.1).bind λo665=>
 (YC F a0.2.2.1).bind λo666=>
 (YC F a0.2.2.2.1).bind λo667=>
 (YC F a0.2.2.2.2.1).bind λo668=>
 some (o664,o665,o666,o667,o668)
def ZcC:Fs yc:=⟨33,[.v Z4],[],[Z4],[⟨.ret,[(0,.v Qi)],[],[Qi]⟩],λx=>W2 fuel x⟩
theorem Zjl:ZcC.Ok:=fnO { still:=[4,7,10,13,16]} [] [ZeB] ⟨Zls,ytt⟩
def Z0(F:Nat)(a0:Int)(a1:Int)(a2:Int):Option (Bool):=
 if(decide (a0 ≥ a1))=true then
  some (decide (a0≤a2))
 else
 some false
def W3:Fs yc:=⟨134,[.v yI,.v yI,.v yI],[],[yI,yI,yI],[⟨.ret,[(0,.v .bool)],[],[.bool]⟩],λx=>Z0 fuel x.1 x.2.1 x.2.2⟩
theorem VW:W3.Ok:=fnO { still:=[6]} [] [] trivial
def Vo(F:Nat)(a0:ZbJ):Option (Bool):=
 (Z0 F a0.1 0 65536).bind λo669=>
 if o669=true then
  (Z0 F a0.2.1 a0.1 1125899906842624).bind λo670=>
  if o670=true then
   (Z0 F a0.2.2.1 1 4096).bind λo671=>
   if o671=true then
    (Z0 F a0.2.2.2.1 0 16).bind λo672=>
    if o672=true then
     (Z0 F a0.2.2.2.2.1 1 1125899906842624).bind λo673=>
     if o673=true then
      (Z0 F a0.2.2.2.2.2 0 1125899906842624).bind λo674=>
      some o674
     else
     some false
    else
    some false
   else
   some false
  else
  some false
 else
 some false
def ZdS:Fs yc:=⟨135,[.v Zd4],[],[Zd4],[⟨.ret,[(0,.v .bool)],[],[.bool]⟩],λx=>Vo fuel x⟩
def ZMl:HI:={ still:=[2,5,9,11,16,22,27,32]}
theorem Zkc:ZdS.Ok:=fnO ZMl [] [W3] ⟨VW,ytt⟩
def Qp(F:Nat)(a0:UInt64):Option (Bool):=
 (Xu F a0).bind λo675=>
 if o675=true then
  some (a0 !=1)
 else
 some false
def Zgg:Fs yc:=⟨136,[.v .u64],[],[.u64],[⟨.ret,[(0,.v .bool)],[],[.bool]⟩],λx=>Qp fuel x⟩
theorem Zmn:Zgg.Ok:=fnO { still:=[2,3]} [] [W1] ⟨Qf,ytt⟩
def XT(F:Nat)(s:(Int×(List UInt64)×Int×ZE×Zal)):Option ((Int×(List UInt64)×Int×ZE×Zal)⊕((Int×ZE×Zal)⊕(Int×ZE×Zal))):=
 if(decide (s.2.2.1 < 5))=true then
  (idx s.2.1 s.2.2.1).bind λe682=>
  (Qp F e682).bind λo683=>
  if(!o683)=true then
   some (.inr (.inl (1,s.2.2.2.1,s.2.2.2.2)))
  else
  some (.inl (s.1,s.2.1,wi (s.2.2.1+1),s.2.2.2.1,s.2.2.2.2))
 else
 some (.inr (.inr (s.1,s.2.2.2.1,s.2.2.2.2)))
def ZeC:Lp:=⟨[(1,.ref 0 []),(3,.v yI),(5,.v (.sl .u64)),(6,.v yI)],[.var (.v Zf) true,.var (.v Qi) true],[yI,(.sl .u64),yI,Zf,Qi],[⟨.ret,[(2,.v yI)],[.var (.v Zf) true,.var (.v Qi) true],[yI,Zf,Qi]⟩,⟨.exit 2,[(1,.ref 0 []),(3,.v yI)],[.var (.v Zf) true,.var (.v Qi) true],[yI,Zf,Qi]⟩],Zb (XT fuel) fuel⟩
theorem Zjm:ZeC.okA yc 88 1:=ZC { still:=[2,8,14,20,46,56]} [] [Zgg] ⟨Zmn,ytt⟩
def W4(F:Nat)(s:(Int×ZE)):Option ((Int×ZE)⊕((Int×ZE)⊕ZE)):=
 if(decide (s.1 < 2))=true then
  if(inB s.1 2)=true then
   (s.2.2.2.1[s.1.toNat]?).bind λe679=>
   if(inB s.1 2)=true then
    (s.2.2.2.2.1[s.1.toNat]?).bind λe680=>
    (Vo F e680).bind λo681=>
    if(!o681)=true then
     some (.inr (.inl (1,s.2)))
    else
    (Zb (XT F) F (s.1,[e679.1,e679.2.1,e679.2.2.1,e679.2.2.2.1,e679.2.2.2.2],0,s.2,e679)).bind λo684=>
    match o684 with
    |.inl o685=>
     some (.inr (.inl (o685.1,o685.2.1)))
    |.inr o686=>
     some (.inl (wi (o686.1+1),o686.2.1))
   else
   none
  else
  none
 else
 some (.inr (.inr s.2))
def ZeD:Lp:=⟨[(1,.ref 0 []),(3,.v yI)],[.var (.v Zf) true],[yI,Zf],[⟨.ret,[(2,.v yI)],[.var (.v Zf) true],[yI,Zf]⟩,⟨.exit 0,[(1,.ref 0 [])],[.var (.v Zf) true],[Zf]⟩],Zb (W4 fuel) fuel⟩
theorem Zjn:ZeD.okA yc 88 0:=ZC { still:=[2,8,14,20,46,56]} [(1,ZeC)] [ZdS] ⟨Zkc,ytt⟩ ⟨Zjm,ytt⟩
def Qq(F:Nat)(a0:ZE):Option (Int):=
 (Z0 F a0.2.1 1 1125899906842624).bind λo676=>
 if(!o676)=true then
  some 1
 else
 (Z0 F a0.1.2 0 63).bind λo677=>
 if(!o677)=true then
  some 1
 else
 (Z0 F a0.2.2.2.2 0 1).bind λo678=>
 if(!o678)=true then
  some 1
 else
 (Zb (W4 F) F (0,a0)).bind λo687=>
 match o687 with
 |.inl o688=>
  some o688.1
 |.inr o689=>
  (o689.2.2.2.1[0]?).bind λe690=>
  (o689.2.2.2.1[1]?).bind λe691=>
  if(decide ((wi (e690.2.1+e691.2.1)) > o689.2.1))=true then
   some 10
  else
  some 0
def Zgh:Fs yc:=⟨88,[.v Zf],[],[Zf],[⟨.ret,[(0,.v yI)],[],[yI]⟩],λx=>Qq fuel x⟩
theorem Zmo:Zgh.Ok:=fnO { still:=[2,8,14,20,46,56]} [(0,ZeD)] [W3] ⟨VW,ytt⟩ ⟨Zjn,ytt⟩
def Yd(F:Nat)(a0:Int)(a1:Int)(a2:Int):Option (Bool):=
 if(decide (a0 ≥ a1))=true then
  some (decide (a0≤a2))
 else
 some false
def Zcb:Fs yc:=⟨89,[.v yI,.v yI,.v yI],[],[yI,yI,yI],[⟨.ret,[(0,.v .bool)],[],[.bool]⟩],λx=>Yd fuel x.1 x.2.1 x.2.2⟩
theorem Zgi:Zcb.Ok:=fnO { still:=[6]} [] [] trivial
def Ww(F:Nat)(a0:Cond):Option (Bool):=
 (Xu F a0.2.2.2.1).bind λo692=>
 if o692=true then
  if(a0.2.2.2.1 !=1)=true then
   (Yd F a0.1 0 1).bind λo693=>
   if o693=true then
    (Yd F a0.2.1 1 1048576).bind λo694=>
    if o694=true then
     (Yd F a0.2.2.1 1 1125899906842624).bind λo695=>
     if o695=true then
      (Yd F a0.2.2.2.2 1 1048576).bind λo696=>
      some o696
     else
     some false
    else
    some false
   else
   some false
  else
  some false
 else
 some false
def Zao:Fs yc:=⟨90,[.v Zq],[],[Zq],[⟨.ret,[(0,.v .bool)],[],[.bool]⟩],λx=>Ww fuel x⟩
theorem ZdT:Zao.Ok:=fnO { still:=[2,5,15,20,25,30]} [] [W1,Zcb] ⟨Qf,Zgi,ytt⟩
def X6(F:Nat)(a0:Cond)(a1:Cond):Option (Bool):=
 if(decide (a0.1 < a1.1))=true then
  some true
 else
 if(a0.1==a1.1)=true then
  some (decide (a0.2.1 < a1.2.1))
 else
 some false
def QT:Fs yc:=⟨91,[.v Zq,.v Zq],[],[Zq,Zq],[⟨.ret,[(0,.v .bool)],[],[.bool]⟩],λx=>X6 fuel x.1 x.2⟩
theorem ZcD:QT.Ok:=fnO { still:=[4]} [] [] trivial
def YW(F:Nat)(s:(Int×Int×Int×Int×State)):Option ((Int×Int×Int×Int×State)⊕(Int×Int×State)):=
 let y697:Bool:=decide (s.2.2.2.1 < (s.2.2.2.2.2.2.1.length:Int))
 if y697=true then
  (idx s.2.2.2.2.2.2.1 s.2.2.2.1).bind λe698=>
  if(e698.1==(wi (1 - s.1)))=true then
   (idx s.2.2.2.2.2.2.1 s.2.2.2.1).bind λe699=>
   some (.inl (s.1,wi (s.2.1+1),wi (s.2.2.1+e699.2.2.1),wi (s.2.2.2.1+1),s.2.2.2.2))
  else
  some (.inl (s.1,s.2.1,s.2.2.1,wi (s.2.2.2.1+1),s.2.2.2.2))
 else
 some (.inr (s.2.1,s.2.2.1,s.2.2.2.2))
def Zbq:Lp:=⟨[(1,.v yI),(2,.ref 0 []),(6,.v yI),(7,.v yI),(8,.v yI)],[.var (.v Zg) true],[yI,yI,yI,yI,Zg],[⟨.exit 0,[(6,.v yI),(7,.v yI)],[.var (.v Zg) true],[yI,yI,Zg]⟩],Zb (YW fuel) fuel⟩
theorem Zgj:Zbq.okA yc 92 0:=ZC { still:=[4,5]} [] [] trivial
def XD(F:Nat)(a0:State)(a1:Int):Option ((Int×Int)):=
 (Zb (YW F) F (a1,0,0,0,a0)).bind λo700=>
 some (o700.1,o700.2.1)
def VX:Fs yc:=⟨92,[.v Zg,.v yI],[],[Zg,yI],[⟨.ret,[(0,.tup [.v yI,.v yI])],[],[yI,yI]⟩],λx=>XD fuel x.1 x.2⟩
theorem Zbr:VX.Ok:=fnO { still:=[4,5]} [(0,Zbq)] [] trivial ⟨Zgj,ytt⟩
def Wd(F:Nat)(s:(Int×Int×State)):Option ((Int×Int×State)⊕(Int×State)):=
 if(decide (s.2.1 < (s.2.2.2.2.1.length:Int)))=true then
  (idx s.2.2.2.2.1 s.2.1).bind λe703=>
  some (.inl (wi (s.1+e703.2.2.1),wi (s.2.1+1),s.2.2))
 else
 some (.inr (s.1,s.2.2))
def ZcE:Lp:=⟨[(1,.ref 0 []),(3,.v yI),(4,.v yI)],[.var (.v Zg) true],[yI,yI,Zg],[⟨.exit 0,[(3,.v yI)],[.var (.v Zg) true],[yI,Zg]⟩],Zb (Wd fuel) fuel⟩
theorem ZhI:ZcE.okA yc 93 0:=ZC { still:=[2]} [] [] trivial
def Vp(F:Nat)(a0:State):Option (Int):=
 (a0.2.1[0]?).bind λe701=>
 (a0.2.1[1]?).bind λe702=>
 (Zb (Wd F) F (wi (e701+e702),0,a0)).bind λo704=>
 some o704.1
def ZdU:Fs yc:=⟨93,[.v Zg],[],[Zg],[⟨.ret,[(0,.v yI)],[],[yI]⟩],λx=>Vp fuel x⟩
theorem Zkd:ZdU.Ok:=fnO { still:=[2]} [(0,ZcE)] [] trivial ⟨ZhI,ytt⟩
def QU(F:Nat)(a0:Int):Option (Int):=
 (Z0 F a0 0 16).bind λo705=>
 if(!o705)=true then
  some 0
 else
 some (wi (36+(wi ((wi (4+a0))*8))))
def ZcF:Fs yc:=⟨167,[.v yI],[],[yI],[⟨.ret,[(0,.v yI)],[],[yI]⟩],λx=>QU fuel x⟩
theorem Zjo:ZcF.Ok:=fnO { still:=[2,3]} [] [W3] ⟨VW,ytt⟩
def Qr(F:Nat)(a0:Int)(a1:Int):Option (Int):=
 (Z0 F a0 0 1000).bind λo706=>
 if(!o706)=true then
  some 0
 else
 (QU F a1).bind λo707=>
 some (wi (a0*o707))
def Zgk:Fs yc:=⟨137,[.v yI,.v yI],[],[yI,yI],[⟨.ret,[(0,.v yI)],[],[yI]⟩],λx=>Qr fuel x.1 x.2⟩
theorem Zmp:Zgk.Ok:=fnO { still:=[4,5,9]} [] [W3,ZcF] ⟨VW,Zjo,ytt⟩
def Y2(F:Nat)(a0:ZE)(a1:State):Option (Int):=
 (Qr F a1.2.2.2 (a1.2.2.1.length:Int)).bind λo708=>
 some (wi (o708+660))
def Zap:Fs yc:=⟨94,[.v Zf,.v Zg],[],[Zf,Zg],[⟨.ret,[(0,.v yI)],[],[yI]⟩],λx=>Y2 fuel x.1 x.2⟩
theorem ZdV:Zap.Ok:=fnO { still:=[4,6,9]} [] [Zgk] ⟨Zmp,ytt⟩
def We(F:Nat)(s:(Int×ZE×State)):Option ((Int×ZE×State)⊕((Bool×ZE×State)⊕(ZE×State))):=
 if(decide (s.1 < (s.2.2.2.2.1.length:Int)))=true then
  (idx s.2.2.2.2.1 s.1).bind λe716=>
  (Ww F e716).bind λo717=>
  if(!o717)=true then
   some (.inr (.inl (false,s.2.1,s.2.2)))
  else
  if(decide (s.1 > 0))=true then
   (idx s.2.2.2.2.1 (wi (s.1 - 1))).bind λe718=>
   (idx s.2.2.2.2.1 s.1).bind λe719=>
   (X6 F e718 e719).bind λo720=>
   if(!o720)=true then
    some (.inr (.inl (false,s.2.1,s.2.2)))
   else
   (idx s.2.2.2.2.1 s.1).bind λe721=>
   (idx s.2.2.2.2.1 s.1).bind λe722=>
   if(inB (wi (1 - e722.1)) 2)=true then
    (s.2.1.2.2.2.1[(wi (1 - e722.1)).toNat]?).bind λe723=>
    if(decide (e721.2.2.1 < e723.2.2.2.2.1))=true then
     some (.inr (.inl (false,s.2.1,s.2.2)))
    else
    some (.inl (wi (s.1+1),s.2.1,s.2.2))
   else
   none
  else
  (idx s.2.2.2.2.1 s.1).bind λe724=>
  (idx s.2.2.2.2.1 s.1).bind λe725=>
  if(inB (wi (1 - e725.1)) 2)=true then
   (s.2.1.2.2.2.1[(wi (1 - e725.1)).toNat]?).bind λe726=>
   if(decide (e724.2.2.1 < e726.2.2.2.2.1))=true then
    some (.inr (.inl (false,s.2.1,s.2.2)))
   else
   some (.inl (wi (s.1+1),s.2.1,s.2.2))
  else
  none
 else
 some (.inr (.inr (s.2.1,s.2.2)))
def ZcG:Lp:=⟨[(2,.ref 0 []),(3,.ref 1 []),(5,.v yI)],[.var (.v Zf) true,.var (.v Zg) true],[yI,Zf,Zg],[⟨.ret,[(4,.v .bool)],[.var (.v Zf) true,.var (.v Zg) true],[.bool,Zf,Zg]⟩,⟨.exit 0,[(2,.ref 0 []),(3,.ref 1 [])],[.var (.v Zf) true,.var (.v Zg) true],[Zf,Zg]⟩],Zb (We fuel) fuel⟩
def ZKv:HI:={ still:=[4,10,15,22,29,35,56,69,74,104,105,125,136,137]}
theorem ZhJ:ZcG.okA yc 34 0:=ZC ZKv [] [Zao,QT] ⟨ZdT,ZcD,ytt⟩
def Wg(F:Nat)(s:(Int×ZE×State)):Option ((Int×ZE×State)⊕((Bool×ZE×State)⊕(ZE×State))):=
 if(decide (s.1 < 2))=true then
  (XD F s.2.2 s.1).bind λo730=>
  if(inB s.1 2)=true then
   (s.2.1.2.2.2.1[s.1.toNat]?).bind λe731=>
   if(decide (o730.1 > e731.2.2.2.1))=true then
    some (.inr (.inl (false,s.2.1,s.2.2)))
   else
   if(inB s.1 2)=true then
    (s.2.1.2.2.2.1[s.1.toNat]?).bind λe732=>
    if(decide (o730.2 > e732.2.2.2.2.2))=true then
     some (.inr (.inl (false,s.2.1,s.2.2)))
    else
    some (.inl (wi (s.1+1),s.2.1,s.2.2))
   else
   none
  else
  none
 else
 some (.inr (.inr (s.2.1,s.2.2)))
def ZcH:Lp:=⟨[(2,.ref 0 []),(3,.ref 1 []),(7,.v yI)],[.var (.v Zf) true,.var (.v Zg) true],[yI,Zf,Zg],[⟨.ret,[(4,.v .bool)],[.var (.v Zf) true,.var (.v Zg) true],[.bool,Zf,Zg]⟩,⟨.exit 2,[(2,.ref 0 []),(3,.ref 1 [])],[.var (.v Zf) true,.var (.v Zg) true],[Zf,Zg]⟩],Zb (Wg fuel) fuel⟩
theorem ZhK:ZcH.okA yc 34 1:=ZC ZKv [] [VX] ⟨Zbr,ytt⟩
def Xv(F:Nat)(a0:ZE)(a1:State):Option (Bool):=
 (Qq F a0).bind λo709=>
 if(o709 !=0)=true then
  some false
 else
 (Yd F a1.1 0 1048576).bind λo710=>
 if(!o710)=true then
  some false
 else
 (a1.2.1[0]?).bind λe711=>
 (Yd F e711 0 1125899906842624).bind λo712=>
 if(!o712)=true then
  some false
 else
 (a1.2.1[1]?).bind λe713=>
 (Yd F e713 0 1125899906842624).bind λo714=>
 if(!o714)=true then
  some false
 else
 (Yd F a1.2.2.2 0 1000).bind λo715=>
 if(!o715)=true then
  some false
 else
 if(decide ((a1.2.2.1.length:Int) > 16))=true then
  some false
 else
 (Zb (We F) F (0,a0,a1)).bind λo727=>
 match o727 with
 |.inl o728=>
  some o728.1
 |.inr o729=>
  (Zb (Wg F) F (0,o729.1,o729.2)).bind λo733=>
  match o733 with
  |.inl o734=>
   some o734.1
  |.inr o735=>
   (Vp F o735.2).bind λo736=>
   if(o736==o735.1.2.1)=true then
    if(inB o735.1.2.2.2.2 2)=true then
     (o735.2.2.1[o735.1.2.2.2.2.toNat]?).bind λe737=>
     (Y2 F o735.1 o735.2).bind λo738=>
     some (decide (e737 ≥ o738))
    else
    none
   else
   some false
def QV:Fs yc:=⟨34,[.v Zf,.v Zg],[],[Zf,Zg],[⟨.ret,[(0,.v .bool)],[],[.bool]⟩],λx=>Xv fuel x.1 x.2⟩
theorem ZcI:QV.Ok:=fnO ZKv [(0,ZcG),(1,ZcH)] [Zgh,Zcb,ZdU,Zap] ⟨Zmo,Zgi,Zkd,ZdV,ytt⟩ ⟨ZhJ,ZhK,ytt⟩
abbrev Wx:Ty:=(.st [.u8,(.int .u16),(.int .u16),.u64])
abbrev W5:Type:=(UInt8×Int×Int×UInt64)
def QW(F:Nat)(a0:W5):Option (UInt64):=
 some (1+(a0.2.2.2 % 2305843009213688668))
def ZcJ:Fs yc:=⟨36,[.v Wx],[],[Wx],[⟨.ret,[(0,.v .u64)],[],[.u64]⟩],λx=>QW fuel x⟩
theorem Zjp:ZcJ.Ok:=fnO { still:=[2]} [] [] trivial
def Xt(F:Nat)(s:(Int×Int×Int×State)):Option ((Int×Int×Int×State)⊕((Int×State)⊕State)):=
 if(decide (s.2.2.1 < (s.2.2.2.2.2.1.length:Int)))=true then
  (idx s.2.2.2.2.2.1 s.2.2.1).bind λe739=>
  if(e739.1==s.1)=true then
   (idx s.2.2.2.2.2.1 s.2.2.1).bind λe740=>
   if(e740.2.1==s.2.1)=true then
    some (.inr (.inl (s.2.2.1,s.2.2.2)))
   else
   some (.inl (s.1,s.2.1,wi (s.2.2.1+1),s.2.2.2))
  else
  some (.inl (s.1,s.2.1,wi (s.2.2.1+1),s.2.2.2))
 else
 some (.inr (.inr s.2.2.2))
def ZcK:Lp:=⟨[(1,.v yI),(2,.v yI),(3,.ref 0 []),(7,.v yI)],[.var (.v Zg) true],[yI,yI,yI,Zg],[⟨.ret,[(6,.v yI)],[.var (.v Zg) true],[yI,Zg]⟩,⟨.exit 0,[],[.var (.v Zg) true],[Zg]⟩],Zb (Xt fuel) fuel⟩
theorem ZhL:ZcK.okA yc 96 0:=ZC { still:=[6]} [] [] trivial
def Vq(F:Nat)(a0:State)(a1:Int)(a2:Int):Option (Int):=
 (Zb (Xt F) F (a1,a2,0,a0)).bind λo741=>
 match o741 with
 |.inl o742=>
  some o742.1
 |.inr o743=>
  some (-1)
def ZdW:Fs yc:=⟨96,[.v Zg,.v yI,.v yI],[],[Zg,yI,yI],[⟨.ret,[(0,.v yI)],[],[yI]⟩],λx=>Vq fuel x.1 x.2.1 x.2.2⟩
theorem Zke:ZdW.Ok:=fnO { still:=[6]} [(0,ZcK)] [] trivial ⟨ZhL,ytt⟩
def XE(F:Nat)(s:(Bool×Int×State×Cond×State×Int×(List Int)×Int×(List Cond))):Option ((Bool×Int×State×Cond×State×Int×(List Int)×Int×(List Cond))⊕(Bool×State×Cond×State×Int×(List Int)×Int×(List Cond))):=
 if(decide (s.2.1 < (s.2.2.1.2.2.1.length:Int)))=true then
  if(!s.1)=true then
   (idx s.2.2.1.2.2.1 s.2.1).bind λe744=>
   (X6 F s.2.2.2.1 e744).bind λo745=>
   if o745=true then
    if(apB s.2.2.2.2.2.2.2.2.length 1 40)=true then
     (idx s.2.2.1.2.2.1 s.2.1).bind λe746=>
     if(apB ((s.2.2.2.2.2.2.2.2++([s.2.2.2.1]:List Cond)).length) 1 40)=true then
      let y747:(List Cond):=(s.2.2.2.2.2.2.2.2++([s.2.2.2.1]:List Cond))++([e746]:List Cond)
      some (.inl (true,wi (s.2.1+1),s.2.2.1,s.2.2.2.1,s.2.2.2.2.1,s.2.2.2.2.2.1,s.2.2.2.2.2.2.1,s.2.2.2.2.2.2.2.1,y747))
     else
     none
    else
    none
   else
   (idx s.2.2.1.2.2.1 s.2.1).bind λe748=>
   if(apB s.2.2.2.2.2.2.2.2.length 1 40)=true then
    some (.inl (s.1,wi (s.2.1+1),s.2.2.1,s.2.2.2.1,s.2.2.2.2.1,s.2.2.2.2.2.1,s.2.2.2.2.2.2.1,s.2.2.2.2.2.2.2.1,s.2.2.2.2.2.2.2.2++([e748]:List Cond)))
   else
   none
  else
  (idx s.2.2.1.2.2.1 s.2.1).bind λe749=>
  if(apB s.2.2.2.2.2.2.2.2.length 1 40)=true then
   some (.inl (s.1,wi (s.2.1+1),s.2.2.1,s.2.2.2.1,s.2.2.2.2.1,s.2.2.2.2.2.1,s.2.2.2.2.2.2.1,s.2.2.2.2.2.2.2.1,s.2.2.2.2.2.2.2.2++([e749]:List Cond)))
  else
  none
 else
 some (.inr (s.1,s.2.2.1,s.2.2.2.1,s.2.2.2.2.1,s.2.2.2.2.2.1,s.2.2.2.2.2.2.1,s.2.2.2.2.2.2.2.1,s.2.2.2.2.2.2.2.2))
def ZLC:List ESh:=[.var (.v Zg) true,.var (.v Zq) true,.var (.v Zg) true,.var (.agg [.v yI,.v (.arr 2 yI),.own 4 Zq,.v yI]) true,.log Zq 82]
abbrev tL8:List Ty:=[.bool,yI,Zg,Zq,Zg,yI,(.arr 2 yI),yI,(.sl Zq)]
def ZdX:Lp:=⟨[(2,.ref 0 []),(3,.ref 1 []),(4,.ref 2 []),(5,.ref 3 []),(6,.v .bool),(7,.v yI)],ZLC,tL8,[⟨.exit 0,[(3,.ref 1 []),(4,.ref 2 []),(5,.ref 3 []),(6,.v .bool)],ZLC,[.bool,Zg,Zq,Zg,yI,(.arr 2 yI),yI,(.sl Zq)]⟩],Zb (XE fuel) fuel⟩
def ZLD:HI:={ own:=[29,32,35,42,47,50],still:=[20,25],gst:=[(9,[([2],Zq,82)])]}
theorem Zio:ZdX.okA yc 97 0:=ZC ZLD [] [QT] ⟨ZcD,ytt⟩
def VY(F:Nat)(a0:State)(a1:Cond):Option (State):=
 (Zb (XE F) F (false,0,a0,a1,(0,[0,0],[],0),a0.1,a0.2.1,a0.2.2.2,[])).bind λo750=>
 if(!o750.1)=true then
  if(apB o750.2.2.2.2.2.2.2.length 1 40)=true then
   if(inB o750.2.2.1.1 2)=true then
    (o750.2.2.2.2.2.1[o750.2.2.1.1.toNat]?).bind λe751=>
    if(inB o750.2.2.1.1 2)=true then
     (o750.2.2.2.2.2.1[o750.2.2.1.1.toNat]?).bind λe752=>
     some (o750.2.2.2.2.1,o750.2.2.2.2.2.1.set o750.2.2.1.1.toNat (wi (e751 - o750.2.2.1.2.2.1)),o750.2.2.2.2.2.2.2++([o750.2.2.1]:List Cond),o750.2.2.2.2.2.2.1)
    else
    none
   else
   none
  else
  none
 else
 if(inB o750.2.2.1.1 2)=true then
  (o750.2.2.2.2.2.1[o750.2.2.1.1.toNat]?).bind λe753=>
  if(inB o750.2.2.1.1 2)=true then
   (o750.2.2.2.2.2.1[o750.2.2.1.1.toNat]?).bind λe754=>
   some (o750.2.2.2.2.1,o750.2.2.2.2.2.1.set o750.2.2.1.1.toNat (wi (e753 - o750.2.2.1.2.2.1)),o750.2.2.2.2.2.2.2,o750.2.2.2.2.2.2.1)
  else
  none
 else
 none
def ZeE:Fs yc:=⟨97,[.v Zg,.v Zq],[],[Zg,Zq],[⟨.ret,[(0,.v Zg)],[],[Zg]⟩],λx=>VY fuel x.1 x.2⟩
theorem Zlt:ZeE.Ok:=fnO ZLD [(0,ZdX)] [] trivial ⟨Zio,ytt⟩
def Qs(F:Nat)(a0:ZE)(a1:State)(a2:Cond):Option ((State×Int)):=
 (Xv F a0 a1).bind λo766=>
 (Ww F a2).bind λo767=>
 if(!o766)=true then
  some ((0,[0,0],[],0),1)
 else
 if(!o767)=true then
  some ((0,[0,0],[],0),1)
 else
 (Vq F a1 a2.1 a2.2.1).bind λo768=>
 if(decide (o768 ≥ 0))=true then
  some ((0,[0,0],[],0),4)
 else
 if(inB (wi (1 - a2.1)) 2)=true then
  (a0.2.2.2.1[(wi (1 - a2.1)).toNat]?).bind λe769=>
  (XD F a1 (wi (1 - a2.1))).bind λo770=>
  if(decide (a2.2.2.1 < e769.2.2.2.2.1))=true then
   some ((0,[0,0],[],0),9)
  else
  if((a1.2.2.1.length:Int)==16)=true then
   some ((0,[0,0],[],0),3)
  else
  if(decide (o770.1 ≥ e769.2.2.2.1))=true then
   some ((0,[0,0],[],0),3)
  else
  let y771:Bool:=decide ((wi (o770.2+a2.2.2.1)) > e769.2.2.2.2.2)
  if y771=true then
   some ((0,[0,0],[],0),6)
  else
  (VY F a1 a2).bind λo772=>
  (Y2 F a0 o772).bind λo773=>
  if(inB a2.1 2)=true then
   (o772.2.1[a2.1.toNat]?).bind λe774=>
   if(decide (e774 < 0))=true then
    some ((0,[0,0],[],0),8)
   else
   if(inB a0.2.2.2.2 2)=true then
    (o772.2.1[a0.2.2.2.2.toNat]?).bind λe775=>
    if(decide (e775 < o773))=true then
     some ((0,[0,0],[],0),8)
    else
    if(inB a2.1 2)=true then
     (o772.2.1[a2.1.toNat]?).bind λe776=>
     if(a2.1==a0.2.2.2.2)=true then
      if(decide ((wi (e776 - o773)) < e769.2.1))=true then
       some ((0,[0,0],[],0),10)
      else
      some (o772,0)
     else
     if(decide (e776 < e769.2.1))=true then
      some ((0,[0,0],[],0),10)
     else
     some (o772,0)
    else
    none
   else
   none
  else
  none
 else
 none
def Zgl:Fs yc:=⟨37,[.v Zf,.v Zg,.v Zq],[],[Zf,Zg,Zq],[⟨.ret,[(0,.tup [.v Zg,.v yI])],[],[Zg,yI]⟩],λx=>Qs fuel x.1 x.2.1 x.2.2⟩
def ZMm:HI:={ still:=[7,16,17,19,28,30,32,43,46,75,76,78,79]}
theorem Zmq:Zgl.Ok:=fnO ZMm [] [QV,Zao,ZdW,VX,ZeE,Zap] ⟨ZcI,ZdT,Zke,Zbr,Zlt,ZdV,ytt⟩
abbrev Ze:Ty:=(.st [(.arr 2 (.arr 32 .u8)),.u32,.u32,.u8,.u8,(.sl Wx),(.int .u16),(.arr 32 .u8)])
abbrev Corsnedlaw21Play:Type:=((List (List UInt8))×UInt32×UInt32×UInt8×UInt8×(List W5)×Int×(List UInt8))
def ZLE:List ESh:=[.var (.v Ze) true,.var (.v Zf) true,.var (.v (.arr 2 Z4)) true,.var (.v Zg) true,.var (.v (.arr 2 Z4)) true,.var (.v Zf) true]
def ZKw:HI:={ still:=[17,21,40,75,76,117,118,126,127,128]}
def XF(F:Nat)(s:(Int×Corsnedlaw21Play×ZE×(List Kit)×State×(List Kit)×ZE)):Option ((Int×Corsnedlaw21Play×ZE×(List Kit)×State×(List Kit)×ZE)⊕(Corsnedlaw21Play×ZE×(List Kit)×State×(List Kit)×ZE)):=
 if(decide (s.1 < 2))=true then
  if(inB s.1 2)=true then
   (s.2.2.2.2.2.1[s.1.toNat]?).bind λe798=>
   (W2 F e798).bind λo799=>
   if(inB s.1 2)=true then
    (s.2.2.2.2.2.2.2.2.1[s.1.toNat]?).bind λe800=>
    if(inB s.1 2)=true then
     (s.2.2.2.2.2.2.2.2.2.1[s.1.toNat]?).bind λe801=>
     some (.inl (wi (s.1+1),s.2.1,s.2.2.1,s.2.2.2.1,s.2.2.2.2.1,s.2.2.2.2.2.1,(s.2.2.2.2.2.2.1,s.2.2.2.2.2.2.2.1,s.2.2.2.2.2.2.2.2.1.set s.1.toNat o799,s.2.2.2.2.2.2.2.2.2.1.set s.1.toNat ((100:Int),(200:Int),wi (5+s.1),(16:Int),(1:Int),(1125899906842624:Int)),s.2.2.2.2.2.2.2.2.2.2)))
    else
    none
   else
   none
  else
  none
 else
 some (.inr (s.2.1,s.2.2.1,s.2.2.2.1,s.2.2.2.2.1,s.2.2.2.2.2.1,s.2.2.2.2.2.2))
def ZdY:Lp:=⟨[(1,.ref 0 []),(2,.ref 1 []),(3,.ref 2 []),(4,.ref 3 []),(5,.ref 4 []),(6,.ref 5 []),(7,.v yI)],ZLE,[yI,Ze,Zf,(.arr 2 Z4),Zg,(.arr 2 Z4),Zf],[⟨.exit 0,[(1,.ref 0 []),(2,.ref 1 []),(3,.ref 2 []),(4,.ref 3 []),(5,.ref 4 []),(6,.ref 5 [])],ZLE,[Ze,Zf,(.arr 2 Z4),Zg,(.arr 2 Z4),Zf]⟩],Zb (XF fuel) fuel⟩
theorem Zip:ZdY.okA yc 8 0:=ZC ZKw [] [ZcC] ⟨Zjl,ytt⟩
def Yq(F:Nat)(s:(Int×Corsnedlaw21Play×ZE×(List Kit)×State×(List Kit)×ZE×State)):Option ((Int×Corsnedlaw21Play×ZE×(List Kit)×State×(List Kit)×ZE×State)⊕(Corsnedlaw21Play×ZE×(List Kit)×State×(List Kit)×ZE×State)):=
 if(decide (s.1 < (s.2.1.2.2.2.2.2.1.length:Int)))=true then
  if(decide (s.1 < 20))=true then
   (idx s.2.1.2.2.2.2.2.1 s.1).bind λe807=>
   (QW F e807).bind λo808=>
   (Y7 F o808).bind λo809=>
   (Qs F s.2.2.2.2.2.2.1 s.2.2.2.2.2.2.2 (((e807.1 % 2).toNat:Int),wi (s.1+1),wi (1+(wi e807.2.1)),o809,wi (1+(wi e807.2.2.1)))).bind λo810=>
   if(o810.2==0)=true then
    some (.inl (wi (s.1+1),s.2.1,s.2.2.1,s.2.2.2.1,s.2.2.2.2.1,s.2.2.2.2.2.1,s.2.2.2.2.2.2.1,o810.1))
   else
   some (.inl (wi (s.1+1),s.2.1,s.2.2.1,s.2.2.2.1,s.2.2.2.2.1,s.2.2.2.2.2.1,s.2.2.2.2.2.2.1,s.2.2.2.2.2.2.2))
  else
  some (.inr (s.2.1,s.2.2.1,s.2.2.2.1,s.2.2.2.2.1,s.2.2.2.2.2.1,s.2.2.2.2.2.2.1,s.2.2.2.2.2.2.2))
 else
 some (.inr (s.2.1,s.2.2.1,s.2.2.2.1,s.2.2.2.2.1,s.2.2.2.2.2.1,s.2.2.2.2.2.2.1,s.2.2.2.2.2.2.2))
def ZLF:List ESh:=[.var (.v Ze) true,.var (.v Zf) true,.var (.v (.arr 2 Z4)) true,.var (.v Zg) true,.var (.v (.arr 2 Z4)) true,.var (.v Zf) true,.var (.v Zg) true]
def ZdZ:Lp:=⟨[(1,.ref 0 []),(2,.ref 1 []),(3,.ref 2 []),(4,.ref 3 []),(5,.ref 4 []),(6,.ref 5 []),(8,.ref 6 []),(10,.v yI)],ZLF,[yI,Ze,Zf,(.arr 2 Z4),Zg,(.arr 2 Z4),Zf,Zg],[⟨.exit 2,[(2,.ref 1 []),(3,.ref 2 []),(4,.ref 3 []),(5,.ref 4 []),(6,.ref 5 []),(8,.ref 6 [])],ZLF,[Ze,Zf,(.arr 2 Z4),Zg,(.arr 2 Z4),Zf,Zg]⟩],Zb (Yq fuel) fuel⟩
theorem Ziq:ZdZ.okA yc 8 1:=ZC ZKw [] [ZcJ,Zab,Zgl] ⟨Zjp,Zax,Zmq,ytt⟩
def VZ(F:Nat)(a0:Corsnedlaw21Play):Option ((ZE×(List Kit)×State)):=
 (a0.1[0]?).bind λe794=>
 (WY F e794).bind λo795=>
 (a0.1[1]?).bind λe796=>
 (WY F e796).bind λo797=>
 (Zb (XF F) F (0,a0,((yzz,0),0,[(0,0,0,0,0),(0,0,0,0,0)],[(0,0,0,0,0,0),(0,0,0,0,0,0)],0),[(0,0,0,0,0,yzz),(0,0,0,0,0,yzz)],(0,[0,0],[],0),[o795,o797],((yzz,0),wi (20000+(a0.2.1.toNat:Int)),[(0,0,0,0,0),(0,0,0,0,0)],[(0,0,0,0,0,0),(0,0,0,0,0,0)],((a0.2.2.2.2.1 % 2).toNat:Int)))).bind λo802=>
 if((wi (o802.2.2.2.2.2.2.1+1))!=0)=true then
  let y803:Int:=yaw (o802.1.2.2.1.toNat:Int) (wi (o802.2.2.2.2.2.2.1+1))
  (Xv F o802.2.2.2.2.2 (wi o802.1.2.2.2.2.2.2.1,[y803,wi (o802.2.2.2.2.2.2.1 - y803)],[],((o802.1.2.2.2.1 % 8).toNat:Int))).bind λo804=>
  if(!o804)=true then
   if(inB o802.2.2.2.2.2.2.2.2.2 2)=true then
    (([y803,wi (o802.2.2.2.2.2.2.1 - y803)]:List Int)[o802.2.2.2.2.2.2.2.2.2.toNat]?).bind λe805=>
    if(inB (wi (1 - o802.2.2.2.2.2.2.2.2.2)) 2)=true then
     ((([y803,wi (o802.2.2.2.2.2.2.1 - y803)]:List Int).set o802.2.2.2.2.2.2.2.2.2.toNat o802.2.2.2.2.2.2.1)[(wi (1 - o802.2.2.2.2.2.2.2.2.2)).toNat]?).bind λe806=>
     (Zb (Yq F) F (0,o802.1,o802.2.1,o802.2.2.1,o802.2.2.2.1,o802.2.2.2.2.1,o802.2.2.2.2.2,(wi o802.1.2.2.2.2.2.2.1,(([y803,wi (o802.2.2.2.2.2.2.1 - y803)]:List Int).set o802.2.2.2.2.2.2.2.2.2.toNat o802.2.2.2.2.2.2.1).set ((wi (1 - o802.2.2.2.2.2.2.2.2.2)).toNat) (0:Int),[],((o802.1.2.2.2.1 % 8).toNat:Int)))).bind λo811=>
     some (o811.2.2.2.2.2.1,o811.2.2.2.2.1,o811.2.2.2.2.2.2)
    else
    none
   else
   none
  else
  (Zb (Yq F) F (0,o802.1,o802.2.1,o802.2.2.1,o802.2.2.2.1,o802.2.2.2.2.1,o802.2.2.2.2.2,(wi o802.1.2.2.2.2.2.2.1,[y803,wi (o802.2.2.2.2.2.2.1 - y803)],[],((o802.1.2.2.2.1 % 8).toNat:Int)))).bind λo812=>
  some (o812.2.2.2.2.2.1,o812.2.2.2.2.1,o812.2.2.2.2.2.2)
 else
 none
def QX(F:Nat):Fs yc:=⟨8,[.v Ze],[],[Ze],[⟨.ret,[(0,.tup [.v Zf,.v (.arr 2 Z4),.v Zg])],[],[Zf,(.arr 2 Z4),Zg]⟩],λx=>VZ F x⟩
def ZeF:Fs yc:=QX fuel
theorem Zd0:ZeF.Ok:=fnO ZKw [(0,ZdY),(1,ZdZ)] [Zgf,QV] ⟨Zmm,ZcI,ytt⟩ ⟨Zip,Ziq,ytt⟩
def Vr(F:Nat)(a0:Corsnedlaw21Play):Option ((ZE×(List Kit)×State)):=
 (VZ F (a0.1,a0.2.1,a0.2.2.1,a0.2.2.2.1,a0.2.2.2.2.1,[],a0.2.2.2.2.2.2.1,a0.2.2.2.2.2.2.2)).bind λo813=>
 some (o813.1,o813.2.1,o813.2.2)
def Zd1:Fs yc:=⟨50,[.v Ze],[],[Ze],[⟨.ret,[(0,.tup [.v Zf,.v (.arr 2 Z4),.v Zg])],[],[Zf,(.arr 2 Z4),Zg]⟩],λx=>Vr fuel x⟩
theorem Zkf:Zd1.Ok:=fnO { still:=[6]} [] [ZeF] ⟨Zd0,ytt⟩
def V0(F:Nat)(a0:Corsnedlaw21Play)(a1:Int):Option ((ZE×State×Int×Bool×ZE×Kit×Int×Int×(List Int)×Int×(List Lock)×Int×Sig×ZE×Kit×Int×Int×(List Int)×Int×(List Lock)×Int×Sig×(List Cond)×(List Msg)×(List Msg)×(List Cond)×(List Msg)×(List Msg))):=
 (Vr F a0).bind λo814=>
 if(inB o814.1.2.2.2.2 2)=true then
  (o814.2.2.2.1[o814.1.2.2.2.2.toNat]?).bind λe815=>
  if((wi (e815 - 51))!=0)=true then
   if(0==o814.1.2.2.2.2)=true then
    (o814.2.1[0]?).bind λe816=>
    (o814.1.2.2.1[0]?).bind λe817=>
    (XX F e817.2.1).bind λo818=>
    (Ys F o814.1 e816 0 o814.2.2 o818 (wi (52+(yaw (wi a1) (wi (e815 - 51)))))).bind λo819=>
    match o819 with
    |.inl o820=>
     none
    |.inr (n,o,p,q,r,t,u,v,w,x,y,z,A)=>
     if(n==0)=true then
      if(1==o814.1.2.2.2.2)=true then
       (o814.2.1[1]?).bind λe822=>
       (o814.1.2.2.1[1]?).bind λe823=>
       (XX F e823.2.1).bind λo824=>
       (Ys F o814.1 e822 1 o814.2.2 o824 (wi (52+(yaw (wi a1) (wi (e815 - 51)))))).bind λo825=>
       match o825 with
       |.inl o826=>
        none
       |.inr (a,b,c,d,e,f,g,h,i,j,k,l,m)=>
        if(a==0)=true then
         some (o814.1,o814.2.2,wi (52+(yaw (wi a1) (wi (e815 - 51)))),true,o,p,q,r,t,u,v,w,x,b,c,d,e,f,g,h,i,j,y,z,A,k,l,m)
        else
        some (o814.1,o814.2.2,wi (52+(yaw (wi a1) (wi (e815 - 51)))),false,o,p,q,r,t,u,v,w,x,b,c,d,e,f,g,h,i,j,y,z,A,k,l,m)
      else
      (o814.2.1[1]?).bind λe828=>
      (o814.1.2.2.1[1]?).bind λe829=>
      (XX F e829.2.1).bind λo830=>
      (Ys F o814.1 e828 1 o814.2.2 o830 0).bind λo831=>
      match o831 with
      |.inl o832=>
       none
      |.inr (a,b,c,d,e,f,g,h,i,j,k,l,m)=>
       if(a==0)=true then
        some (o814.1,o814.2.2,wi (52+(yaw (wi a1) (wi (e815 - 51)))),true,o,p,q,r,t,u,v,w,x,b,c,d,e,f,g,h,i,j,y,z,A,k,l,m)
       else
       some (o814.1,o814.2.2,wi (52+(yaw (wi a1) (wi (e815 - 51)))),false,o,p,q,r,t,u,v,w,x,b,c,d,e,f,g,h,i,j,y,z,A,k,l,m)
     else
     if(1==o814.1.2.2.2.2)=true then
      (o814.2.1[1]?).bind λe834=>
      (o814.1.2.2.1[1]?).bind λe835=>
      (XX F e835.2.1).bind λo836=>
      (Ys F o814.1 e834 1 o814.2.2 o836 (wi (52+(yaw (wi a1) (wi (e815 - 51)))))).bind λo837=>
      match o837 with
      |.inl o838=>
       none
      |.inr (_,a,b,c,d,e,f,g,h,i,j,k,l)=>
       some (o814.1,o814.2.2,wi (52+(yaw (wi a1) (wi (e815 - 51)))),false,o,p,q,r,t,u,v,w,x,a,b,c,d,e,f,g,h,i,y,z,A,j,k,l)
     else
     (o814.2.1[1]?).bind λe840=>
     (o814.1.2.2.1[1]?).bind λe841=>
     (XX F e841.2.1).bind λo842=>
     (Ys F o814.1 e840 1 o814.2.2 o842 0).bind λo843=>
     match o843 with
     |.inl o844=>
      none
     |.inr (_,a,b,c,d,e,f,g,h,i,j,k,l)=>
      some (o814.1,o814.2.2,wi (52+(yaw (wi a1) (wi (e815 - 51)))),false,o,p,q,r,t,u,v,w,x,a,b,c,d,e,f,g,h,i,y,z,A,j,k,l)
   else
   (o814.2.1[0]?).bind λe846=>
   (o814.1.2.2.1[0]?).bind λe847=>
   (XX F e847.2.1).bind λo848=>
   (Ys F o814.1 e846 0 o814.2.2 o848 0).bind λo849=>
   match o849 with
   |.inl o850=>
    none
   |.inr (n,o,p,q,r,t,u,v,w,x,y,z,A)=>
    if(n==0)=true then
     if(1==o814.1.2.2.2.2)=true then
      (o814.2.1[1]?).bind λe852=>
      (o814.1.2.2.1[1]?).bind λe853=>
      (XX F e853.2.1).bind λo854=>
      (Ys F o814.1 e852 1 o814.2.2 o854 (wi (52+(yaw (wi a1) (wi (e815 - 51)))))).bind λo855=>
      match o855 with
      |.inl o856=>
       none
      |.inr (a,b,c,d,e,f,g,h,i,j,k,l,m)=>
       if(a==0)=true then
        some (o814.1,o814.2.2,wi (52+(yaw (wi a1) (wi (e815 - 51)))),true,o,p,q,r,t,u,v,w,x,b,c,d,e,f,g,h,i,j,y,z,A,k,l,m)
       else
       some (o814.1,o814.2.2,wi (52+(yaw (wi a1) (wi (e815 - 51)))),false,o,p,q,r,t,u,v,w,x,b,c,d,e,f,g,h,i,j,y,z,A,k,l,m)
     else
     (o814.2.1[1]?).bind λe858=>
     (o814.1.2.2.1[1]?).bind λe859=>
     (XX F e859.2.1).bind λo860=>
     (Ys F o814.1 e858 1 o814.2.2 o860 0).bind λo861=>
     match o861 with
     |.inl o862=>
      none
     |.inr (a,b,c,d,e,f,g,h,i,j,k,l,m)=>
      if(a==0)=true then
       some (o814.1,o814.2.2,wi (52+(yaw (wi a1) (wi (e815 - 51)))),true,o,p,q,r,t,u,v,w,x,b,c,d,e,f,g,h,i,j,y,z,A,k,l,m)
      else
      some (o814.1,o814.2.2,wi (52+(yaw (wi a1) (wi (e815 - 51)))),false,o,p,q,r,t,u,v,w,x,b,c,d,e,f,g,h,i,j,y,z,A,k,l,m)
    else
    if(1==o814.1.2.2.2.2)=true then
     (o814.2.1[1]?).bind λe864=>
     (o814.1.2.2.1[1]?).bind λe865=>
     (XX F e865.2.1).bind λo866=>
     (Ys F o814.1 e864 1 o814.2.2 o866 (wi (52+(yaw (wi a1) (wi (e815 - 51)))))).bind λo867=>
     match o867 with
     |.inl o868=>
      none
     |.inr (_,a,b,c,d,e,f,g,h,i,j,k,l)=>
      some (o814.1,o814.2.2,wi (52+(yaw (wi a1) (wi (e815 - 51)))),false,o,p,q,r,t,u,v,w,x,a,b,c,d,e,f,g,h,i,y,z,A,j,k,l)
    else
    (o814.2.1[1]?).bind λe870=>
    (o814.1.2.2.1[1]?).bind λe871=>
    (XX F e871.2.1).bind λo872=>
    (Ys F o814.1 e870 1 o814.2.2 o872 0).bind λo873=>
    match o873 with
    |.inl o874=>
     none
    |.inr (_,a,b,c,d,e,f,g,h,i,j,k,l)=>
     some (o814.1,o814.2.2,wi (52+(yaw (wi a1) (wi (e815 - 51)))),false,o,p,q,r,t,u,v,w,x,a,b,c,d,e,f,g,h,i,y,z,A,j,k,l)
  else
  none
 else
 none
def ZeG:Fs yc:=⟨15,[.v Ze,.v (.int .u16)],[],[Ze,(.int .u16)],[⟨.ret,[(0,.tup [.arr 2 1 [.ref 0 [],.ref 1 []],.v Zf,.v Zg,.v yI,.v .bool])],[.var (.agg [.v Zf,.v Z4,.v yI,.agg [.v yI,.v (.arr 2 yI),.own 2 Zq,.v yI],.v (.arr 2 Zn),.v yI,.own 3 Zi,.own 4 Zi,.v ZX]) true,.var (.agg [.v Zf,.v Z4,.v yI,.agg [.v yI,.v (.arr 2 yI),.own 5 Zq,.v yI],.v (.arr 2 Zn),.v yI,.own 6 Zi,.own 7 Zi,.v ZX]) true,.log Zq 82,.log Zi 84,.log Zi 84,.log Zq 82,.log Zi 84,.log Zi 84],[Zf,Zg,yI,.bool,Zf,Z4,yI,yI,(.arr 2 yI),yI,(.arr 2 Zn),yI,ZX,Zf,Z4,yI,yI,(.arr 2 yI),yI,(.arr 2 Zn),yI,ZX,(.sl Zq),(.sl Zi),(.sl Zi),(.sl Zq),(.sl Zi),(.sl Zi)]⟩],λx=>V0 fuel x.1 x.2⟩
def ZMn:HI:={ still:=[7,8,20,45,48,49,50,55,56,57]}
theorem Zlu:ZeG.Ok:=Ztc (fi:={ hi:=ZMn,gh:=[(8,.melt 13),(14,.nn 17)],un:=3}) (specs:={ l:=[Zd1,Znz,ZmZ]}) (okS ⟨Zkf,Zll,ZtS,ytt⟩)
def Zjq(F:Nat)(a0:UInt64):Option (UInt64):=
 (Zaa F a0).bind λo876=>
 (Q7 F o876 2305843009213688668).bind λo877=>
 some o877
def Zq4:Fs yc:=⟨115,[.v .u64],[],[.u64],[⟨.ret,[(0,.v .u64)],[],[.u64]⟩],λx=>Zjq fuel x⟩
theorem ZxC:Zq4.Ok:=fnO { still:=[2,3,4]} [] [Zdk,Zdb] ⟨Zf3,ZfK,ytt⟩
def Zcc(F:Nat)(a0:UInt64)(a1:(List UInt8))(a2:UInt64)(a3:Sig):Option (Bool):=
 if(a0==1)=true then
  some false
 else
 (XN F a0).bind λo878=>
 if(!o878)=true then
  some false
 else
 (XN F a2).bind λo879=>
 if(!o879)=true then
  some false
 else
 (XN F a3.1).bind λo880=>
 if(!o880)=true then
  some false
 else
 (Q9 F a3.2).bind λo881=>
 if(!o881)=true then
  some false
 else
 (V5 F a3.1 a0 a1).bind λo882=>
 (ZbZ F a0 o882).bind λo883=>
 (Zjq F a2).bind λo884=>
 (Zf4 F [a3.1,o883,o884]).bind λo885=>
 (Y7 F a3.2).bind λo886=>
 some (o886==o885)
def Zm0:Fs yc:=⟨56,[.v .u64,.v (.arr 32 .u8),.v .u64,.v ZX],[],[.u64,(.arr 32 .u8),.u64,ZX],[⟨.ret,[(0,.v .bool)],[],[.bool]⟩],λx=>Zcc fuel x.1 x.2.1 x.2.2.1 x.2.2.2⟩
def ZMo:HI:={ still:=[8,13,18,24,30,36,38,39,40,41,43,45,48]}
theorem ZtT:Zm0.Ok:=fnO ZMo [] [Qc,Zhz,Zc1,ZhA,Zq4,Zle,Zab] ⟨QE,Zlc,Zhb,Zld,ZxC,ZoU,Zax,ytt⟩
def sign_VerifyM(F:Nat)(a0:UInt64)(a1:(List UInt8))(a2:Sig):Option (Bool):=
 (Zcc F a0 a1 1 a2).bind λo887=>
 some o887
def Zgm(F:Nat):Fs yc:=⟨19,[.v .u64,.v (.arr 32 .u8),.v ZX],[],[.u64,(.arr 32 .u8),ZX],[⟨.ret,[(0,.v .bool)],[],[.bool]⟩],λx=>sign_VerifyM F x.1 x.2.1 x.2.2⟩
def ZhM:Fs yc:=Zgm fuel
theorem Zgn:ZhM.Ok:=fnO { still:=[6,7,8,9]} [] [Zm0] ⟨ZtT,ytt⟩
def Zff(F:Nat)(a0:(List UInt8))(a1:(List UInt8)):Option (Bool):=
 let y888:Bool:=(bytesOf a0).data.toList==(bytesOf a1).data.toList
 some y888
def Zgo(F:Nat):Fs yc:=⟨52,[.v (.sl .u8),.v (.sl .u8)],[],[(.sl .u8),(.sl .u8)],[⟨.ret,[(0,.v .bool)],[],[.bool]⟩],λx=>Zff F x.1 x.2⟩
def Zm1:Fs yc:=Zgo fuel
theorem Zlv:Zm1.Ok:=fnO { still:=[4]} [] [] trivial
def QY(F:Nat)(s:((List Sig)×(List Sig)×Int×Int)):Option (((List Sig)×(List Sig)×Int×Int)⊕(Bool⊕Unit)):=
 if(decide (s.2.2.2 < s.2.2.1))=true then
  (idx s.1 s.2.2.2).bind λe889=>
  (idx s.2.1 s.2.2.2).bind λe890=>
  if(!(decide (e889=e890)))=true then
   some (.inr (.inl false))
  else
  some (.inl (s.1,s.2.1,s.2.2.1,wi (s.2.2.2+1)))
 else
 some (.inr (.inr ()))
def Zm2:Lp:=⟨[(0,.v (.sl ZX)),(1,.v (.sl ZX)),(12,.v yI),(13,.v yI)],[],[(.sl ZX),(.sl ZX),yI,yI],[⟨.ret,[(4,.v .bool)],[],[.bool]⟩,⟨.exit 0,[],[],[]⟩],Zb (QY fuel) fuel⟩
theorem Zp7:Zm2.okA yc 78 0:=ZC { still:=[4]} [] [] trivial
def Zhf(F:Nat)(a0:(List Sig))(a1:(List Sig)):Option (Bool):=
 if((a0.length:Int)!=(a1.length:Int))=true then
  some false
 else
 (Zb (QY F) F (a0,a1,(a0.length:Int),0)).bind λo891=>
 match o891 with
 |.inl o892=>
  some o892
 |.inr o893=>
  some true
def ZoZ:Fs yc:=⟨78,[.v (.sl ZX),.v (.sl ZX)],[],[(.sl ZX),(.sl ZX)],[⟨.ret,[(0,.v .bool)],[],[.bool]⟩],λx=>Zhf fuel x.1 x.2⟩
theorem ZuQ:ZoZ.Ok:=fnO { still:=[4]} [(0,Zm2)] [] trivial ⟨Zp7,ytt⟩
def Zgp(F:Nat)(a0:In)(a1:In):Option (Bool):=
 if(decide (a0.1=a1.1))=true then
  if(a0.2.1==a1.2.1)=true then
   if(a0.2.2.2==a1.2.2.2)=true then
    (Zhf F a0.2.2.1 a1.2.2.1).bind λo894=>
    some o894
   else
   some false
  else
  some false
 else
 some false
def Zq5:Fs yc:=⟨77,[.v yIn,.v yIn],[],[yIn,yIn],[⟨.ret,[(0,.v .bool)],[],[.bool]⟩],λx=>Zgp fuel x.1 x.2⟩
theorem ZxD:Zq5.Ok:=fnO { still:=[4,31,34]} [] [ZoZ] ⟨ZuQ,ytt⟩
def VB(F:Nat)(s:((List UInt64)×(List UInt64)×Int×Int)):Option (((List UInt64)×(List UInt64)×Int×Int)⊕(Bool⊕Unit)):=
 if(decide (s.2.2.2 < s.2.2.1))=true then
  (idx s.1 s.2.2.2).bind λe895=>
  (idx s.2.1 s.2.2.2).bind λe896=>
  if(e895 !=e896)=true then
   some (.inr (.inl false))
  else
  some (.inl (s.1,s.2.1,s.2.2.1,wi (s.2.2.2+1)))
 else
 some (.inr (.inr ()))
def ZjW:Lp:=⟨[(0,.v (.sl .u64)),(1,.v (.sl .u64)),(12,.v yI),(13,.v yI)],[],[(.sl .u64),(.sl .u64),yI,yI],[⟨.ret,[(4,.v .bool)],[],[.bool]⟩,⟨.exit 0,[],[],[]⟩],Zb (VB fuel) fuel⟩
theorem ZnA:ZjW.okA yc 61 0:=ZC { still:=[4]} [] [] trivial
def Zaz(F:Nat)(a0:(List UInt64))(a1:(List UInt64)):Option (Bool):=
 if((a0.length:Int)!=(a1.length:Int))=true then
  some false
 else
 (Zb (VB F) F (a0,a1,(a0.length:Int),0)).bind λo897=>
 match o897 with
 |.inl o898=>
  some o898
 |.inr o899=>
  some true
def Zgq:Fs yc:=⟨61,[.v (.sl .u64),.v (.sl .u64)],[],[(.sl .u64),(.sl .u64)],[⟨.ret,[(0,.v .bool)],[],[.bool]⟩],λx=>Zaz fuel x.1 x.2⟩
theorem ZjX:Zgq.Ok:=fnO { still:=[4]} [(0,ZjW)] [] trivial ⟨ZnA,ytt⟩
def Zgr(F:Nat)(a0:ZJ)(a1:ZJ):Option (Bool):=
 if(a0.2.1==a1.2.1)=true then
  if(a0.2.2.1==a1.2.2.1)=true then
   if(a0.2.2.2==a1.2.2.2)=true then
    (Zaz F a0.1 a1.1).bind λo900=>
    some o900
   else
   some false
  else
  some false
 else
 some false
def Zq6:Fs yc:=⟨79,[.v Zo,.v Zo],[],[Zo,Zo],[⟨.ret,[(0,.v .bool)],[],[.bool]⟩],λx=>Zgr fuel x.1 x.2⟩
theorem ZxE:Zq6.Ok:=fnO { still:=[4,26,28]} [] [Zgq] ⟨ZjX,ytt⟩
def ZaA(F:Nat)(s:((List In)×(List In)×Int×Int)):Option (((List In)×(List In)×Int×Int)⊕(Bool⊕Unit)):=
 if(decide (s.2.2.2 < s.2.2.1))=true then
  (idx s.2.1 s.2.2.2).bind λe901=>
  (idx s.1 s.2.2.2).bind λe902=>
  (Zgp F e901 e902).bind λo903=>
  if(!o903)=true then
   some (.inr (.inl false))
  else
  some (.inl (s.1,s.2.1,s.2.2.1,wi (s.2.2.2+1)))
 else
 some (.inr (.inr ()))
def Zo0:Lp:=⟨[(1,.v (.sl yIn)),(2,.fn 77 []),(15,.v (.sl yIn)),(16,.v yI),(17,.v yI)],[],[(.sl yIn),(.sl yIn),yI,yI],[⟨.ret,[(6,.v .bool)],[],[.bool]⟩,⟨.exit 0,[],[],[]⟩],Zb (ZaA fuel) fuel⟩
theorem ZrA:Zo0.okA yc 81 0:=ZC { still:=[6,27,28]} [] [Zq5] ⟨ZxD,ytt⟩
def Zjr(F:Nat)(a0:(List In))(a1:(List In)):Option (Bool):=
 if((a0.length:Int)!=(a1.length:Int))=true then
  some false
 else
 (Zb (ZaA F) F (a1,a0,(a0.length:Int),0)).bind λo904=>
 match o904 with
 |.inl o905=>
  some o905
 |.inr o906=>
  some true
def Zq7:Fs yc:=⟨81,[.v (.sl yIn),.v (.sl yIn),.fn 77 []],[],[(.sl yIn),(.sl yIn)],[⟨.ret,[(0,.v .bool)],[],[.bool]⟩],λx=>Zjr fuel x.1 x.2⟩
theorem ZxF:Zq7.Ok:=fnO { still:=[6,27,28]} [(0,Zo0)] [] trivial ⟨ZrA,ytt⟩
def W6(F:Nat)(s:((List ZJ)×(List ZJ)×Int×Int)):Option (((List ZJ)×(List ZJ)×Int×Int)⊕(Bool⊕Unit)):=
 if(decide (s.2.2.2 < s.2.2.1))=true then
  (idx s.2.1 s.2.2.2).bind λe910=>
  (idx s.1 s.2.2.2).bind λe911=>
  (Zgr F e910 e911).bind λo912=>
  if(!o912)=true then
   some (.inr (.inl false))
  else
  some (.inl (s.1,s.2.1,s.2.2.1,wi (s.2.2.2+1)))
 else
 some (.inr (.inr ()))
def Zir:Lp:=⟨[(1,.v (.sl Zo)),(2,.fn 79 []),(15,.v (.sl Zo)),(16,.v yI),(17,.v yI)],[],[(.sl Zo),(.sl Zo),yI,yI],[⟨.ret,[(6,.v .bool)],[],[.bool]⟩,⟨.exit 0,[],[],[]⟩],Zb (W6 fuel) fuel⟩
theorem Zmr:Zir.okA yc 59 0:=ZC { still:=[6,27,28]} [] [Zq6] ⟨ZxE,ytt⟩
def Zcd(F:Nat)(a0:(List ZJ))(a1:(List ZJ)):Option (Bool):=
 if((a0.length:Int)!=(a1.length:Int))=true then
  some false
 else
 (Zb (W6 F) F (a1,a0,(a0.length:Int),0)).bind λo913=>
 match o913 with
 |.inl o914=>
  some o914
 |.inr o915=>
  some true
def ZjY:Fs yc:=⟨59,[.v (.sl Zo),.v (.sl Zo),.fn 79 []],[],[(.sl Zo),(.sl Zo)],[⟨.ret,[(0,.v .bool)],[],[.bool]⟩],λx=>Zcd fuel x.1 x.2⟩
theorem Zp8:ZjY.Ok:=fnO { still:=[6,27,28]} [(0,Zir)] [] trivial ⟨Zmr,ytt⟩
def Zgs(F:Nat)(a0:Out)(a1:Out):Option (Bool):=
 if(a0.1==a1.1)=true then
  (Zcd F a0.2 a1.2).bind λo916=>
  some o916
 else
 some false
def Zq8:Fs yc:=⟨80,[.v ZF,.v ZF,.ref 0 []],[.var (.fn 79 []) true],[ZF,ZF],[⟨.ret,[(0,.v .bool)],[.var (.fn 79 []) true],[.bool]⟩],λx=>Zgs fuel x.1 x.2⟩
theorem ZxG:Zq8.Ok:=fnO { still:=[5,14,17,18]} [] [ZjY] ⟨Zp8,ytt⟩
def QZ(F:Nat)(s:((List Out)×(List Out)×Int×Int)):Option (((List Out)×(List Out)×Int×Int)⊕(Bool⊕Unit)):=
 if(decide (s.2.2.2 < s.2.2.1))=true then
  (idx s.2.1 s.2.2.2).bind λe908=>
  (idx s.1 s.2.2.2).bind λe909=>
  (Zgs F e908 e909).bind λo917=>
  if(!o917)=true then
   some (.inr (.inl false))
  else
  some (.inl (s.1,s.2.1,s.2.2.1,wi (s.2.2.2+1)))
 else
 some (.inr (.inr ()))
def Zm3:Lp:=⟨[(1,.v (.sl ZF)),(2,.fn 80 [.ref 0 []]),(15,.v (.sl ZF)),(16,.v yI),(17,.v yI)],[.var (.fn 79 []) true],[(.sl ZF),(.sl ZF),yI,yI],[⟨.ret,[(6,.v .bool)],[.var (.fn 79 []) true],[.bool]⟩,⟨.exit 0,[],[.var (.fn 79 []) true],[]⟩],Zb (QZ fuel) fuel⟩
theorem Zp9:Zm3.okA yc 82 0:=ZC { still:=[6,27,28]} [] [Zq8] ⟨ZxG,ytt⟩
def Zhg(F:Nat)(a0:(List Out))(a1:(List Out)):Option (Bool):=
 if((a0.length:Int)!=(a1.length:Int))=true then
  some false
 else
 (Zb (QZ F) F (a1,a0,(a0.length:Int),0)).bind λo918=>
 match o918 with
 |.inl o919=>
  some o919
 |.inr o920=>
  some true
def Zo1:Fs yc:=⟨82,[.v (.sl ZF),.v (.sl ZF),.fn 80 [.ref 0 []]],[.var (.fn 79 []) true],[(.sl ZF),(.sl ZF)],[⟨.ret,[(0,.v .bool)],[.var (.fn 79 []) true],[.bool]⟩],λx=>Zhg fuel x.1 x.2⟩
theorem ZuR:Zo1.Ok:=fnO { still:=[6,27,28]} [(0,Zm3)] [] trivial ⟨Zp9,ytt⟩
def Zo2(F:Nat)(a0:Tx)(a1:Tx):Option (Bool):=
 if(a0.2.2==a1.2.2)=true then
  (Zjr F a0.1 a1.1).bind λo907=>
  if o907=true then
   (Zhg F a0.2.1 a1.2.1).bind λo921=>
   some o921
  else
  some false
 else
 some false
def ZnB(F:Nat):Fs yc:=⟨29,[.v yTx,.v yTx],[],[yTx,yTx],[⟨.ret,[(0,.v .bool)],[],[.bool]⟩],λx=>Zo2 F x.1 x.2⟩
def ZvM:Fs yc:=ZnB fuel
def ZMp:HI:={ still:=[4,16,18,19,24,26,27]}
theorem ZtU:ZvM.Ok:=fnO ZMp [] [Zq7,Zo1] ⟨ZxF,ZuR,ytt⟩
def Zm4(F:Nat)(s:(Int×(List In)×Int×Int×Tx)):Option ((Int×(List In)×Int×Int×Tx)⊕(Int×Tx)):=
 if(decide (s.2.2.2.1 < s.2.2.1))=true then
  (idx s.2.1 s.2.2.2.1).bind λe923=>
  let y924:Int:=wi (s.1+(wi (10+(wi (8*(e923.2.2.1.length:Int))))))
  if(e923.2.2.2 !=0)=true then
   some (.inl (wi (y924+4),s.2.1,s.2.2.1,wi (s.2.2.2.1+1),s.2.2.2.2))
  else
  some (.inl (y924,s.2.1,s.2.2.1,wi (s.2.2.2.1+1),s.2.2.2.2))
 else
 some (.inr (s.1,s.2.2.2.2))
def Zo3:Lp:=⟨[(3,.v yI),(15,.v (.sl yIn)),(16,.v yI),(17,.v yI)],[.var (.v yTx) true],[yI,(.sl yIn),yI,yI,yTx],[⟨.exit 0,[(3,.v yI)],[.var (.v yTx) true],[yI,yTx]⟩],Zb (Zm4 fuel) fuel⟩
theorem ZrB:Zo3.okA yc 31 0:=ZC { still:=[2,6]} [] [] trivial
def ZBg(F:Nat)(a0:Tx):Option (Int):=
 (Zbm F a0).bind λo922=>
 if(!o922)=true then
  some 0
 else
 (Zb (Zm4 F) F (wi (10+(wi (8*(a0.2.1.length:Int)))),a0.1,(a0.1.length:Int),0,a0)).bind λo925=>
 some o925.1
def Zjs(F:Nat):Fs yc:=⟨31,[.v yTx],[],[yTx],[⟨.ret,[(0,.v yI)],[],[yI]⟩],λx=>ZBg F x⟩
def Zzy:Fs yc:=Zjs fuel
theorem ZxH:Zzy.Ok:=fnO { still:=[2,6]} [(0,Zo3)] [ZfX] ⟨Zg6,ytt⟩ ⟨ZrB,ytt⟩
def Zce(F:Nat)(a0:ZJ)(a1:ZJ):Option (Bool):=
 (Zaz F a0.1 a1.1).bind λo941=>
 if o941=true then
  if(a0.2.1==a1.2.1)=true then
   if(a0.2.2.1==a1.2.2.1)=true then
    some (a0.2.2.2==a1.2.2.2)
   else
   some false
  else
  some false
 else
 some false
def Zm5:Fs yc:=⟨60,[.v Zo,.v Zo],[],[Zo,Zo],[⟨.ret,[(0,.v .bool)],[],[.bool]⟩],λx=>Zce fuel x.1 x.2⟩
theorem ZtV:Zm5.Ok:=fnO { still:=[4,6,8]} [] [Zgq] ⟨ZjX,ytt⟩
def XU(F:Nat)(s:((List ZJ)×(List ZJ)×Int×Int)):Option (((List ZJ)×(List ZJ)×Int×Int)⊕(Bool⊕Unit)):=
 if(decide (s.2.2.2 < s.2.2.1))=true then
  (idx s.2.1 s.2.2.2).bind λe942=>
  (idx s.1 s.2.2.2).bind λe943=>
  (Zce F e942 e943).bind λo944=>
  if(!o944)=true then
   some (.inr (.inl false))
  else
  some (.inl (s.1,s.2.1,s.2.2.1,wi (s.2.2.2+1)))
 else
 some (.inr (.inr ()))
def ZeH:Lp:=⟨[(1,.v (.sl Zo)),(2,.fn 60 []),(15,.v (.sl Zo)),(16,.v yI),(17,.v yI)],[],[(.sl Zo),(.sl Zo),yI,yI],[⟨.ret,[(6,.v .bool)],[],[.bool]⟩,⟨.exit 0,[],[],[]⟩],Zb (XU fuel) fuel⟩
theorem Zjt:ZeH.okA yc 59 0:=ZC { still:=[6,27,28]} [] [Zm5] ⟨ZtV,ytt⟩
def Qt(F:Nat)(a0:(List ZJ))(a1:(List ZJ)):Option (Bool):=
 if((a0.length:Int)!=(a1.length:Int))=true then
  some false
 else
 (Zb (XU F) F (a1,a0,(a0.length:Int),0)).bind λo945=>
 match o945 with
 |.inl o946=>
  some o946
 |.inr o947=>
  some true
def Zgt:Fs yc:=⟨59,[.v (.sl Zo),.v (.sl Zo),.fn 60 []],[],[(.sl Zo),(.sl Zo)],[⟨.ret,[(0,.v .bool)],[],[.bool]⟩],λx=>Qt fuel x.1 x.2⟩
theorem Zms:Zgt.Ok:=fnO { still:=[6,27,28]} [(0,ZeH)] [] trivial ⟨Zjt,ytt⟩
def Zju(F:Nat)(a0:Lock)(a1:Lock):Option (Bool):=
 (Qt F a0 a1).bind λo948=>
 some o948
def Zq9:Fs yc:=⟨21,[.v Zn,.v Zn],[],[Zn,Zn],[⟨.ret,[(0,.v .bool)],[],[.bool]⟩],λx=>Zju fuel x.1 x.2⟩
theorem ZxI:Zq9.Ok:=fnO { still:=[4,6,8]} [] [Zgt] ⟨Zms,ytt⟩
def ZaB(F:Nat)(s:(Int×Int×Out×Out×(List Unit)×(List ZJ))):Option ((Int×Int×Out×Out×(List Unit)×(List ZJ))⊕(Out×Out×(List Unit)×(List ZJ))):=
 if(decide (s.2.1 < s.1))=true then
  if(inB s.2.1 s.2.2.2.2.2.length)=true then
   (s.2.2.2.2.2[s.2.1.toNat]?).bind λe956=>
   (Yc F e956.1).bind λo957=>
   if(inB s.2.1 s.2.2.2.2.2.length)=true then
    (s.2.2.2.2.2[s.2.1.toNat]?).bind λe958=>
    let y959:(List ZJ):=s.2.2.2.2.2.set s.2.1.toNat (o957,e958.2.1,e958.2.2.1,e958.2.2.2)
    some (.inl (s.1,wi (s.2.1+1),s.2.2.1,s.2.2.2.1,s.2.2.2.2.1,y959))
   else
   none
  else
  none
 else
 some (.inr (s.2.2.1,s.2.2.2.1,s.2.2.2.2.1,s.2.2.2.2.2))
def Zo4:Lp:=⟨[(1,.ref 0 []),(2,.ref 1 []),(3,.rw 2),(10,.rw 2),(11,.v yI),(12,.v yI)],[.var (.v ZF) true,.var (.v ZF) true,.row Zo true 126],[yI,yI,ZF,ZF,(.sl (.st [])),(.sl Zo)],[⟨.exit 0,[(1,.ref 0 []),(2,.ref 1 []),(3,.rw 2)],[.var (.v ZF) true,.var (.v ZF) true,.row Zo true 126],[ZF,ZF,(.sl (.st [])),(.sl Zo)]⟩],Zb (ZaB fuel) fuel⟩
def ZLG:HI:={ still:=[8,20],rowt:=[3,9,17],deep:=[96]}
theorem ZrC:Zo4.okA yc 75 0:=ZC ZLG [] [WW] ⟨VR,ytt⟩
def Zjv(F:Nat)(a0:Out):Option (Out):=
 (XK F a0.2).bind λo955=>
 (Zb (ZaB F) F ((o955.2.length:Int),0,a0,(0,[]),o955.1,o955.2)).bind λo960=>
 some (o960.1.1,o960.2.2.2)
def Zra:Fs yc:=⟨75,[.v ZF],[],[ZF],[⟨.ret,[(0,.v ZF)],[],[ZF]⟩],λx=>Zjv fuel x⟩
theorem ZxJ:Zra.Ok:=ZCj (fi:={ hi:=ZLG,lp:=[(0,Zo4)]}) (specs:={ l:=[Qn]}) (okS ⟨Za9,ytt⟩) ⟨ZrC,ytt⟩
abbrev Xg:Ty:=(.st [ZF,yI])
abbrev ZaC:Type:=(Out×Int)
abbrev ZBh:Ty:=(.st [Zj,Xg])
abbrev Zl3:Type:=(Zu×ZaC)
abbrev Zl3.c(x:Zl3):ZaC:=x.2
abbrev Zv:Ty:=(.st [(.sl ZBh),(.sl Zj)])
abbrev ZG:Type:=((List Zl3)×(List Zu))
abbrev ZG.gone(x:ZG):(List Zl3):=x.1
def ZaD(F:Nat)(s:(Int×(List Out)×Int×Int×(List (Zu×ZaC))×(List ZG))):Option ((Int×(List Out)×Int×Int×(List (Zu×ZaC))×(List ZG))⊕(((List (Zu×ZaC))×(List ZG))⊕((List (Zu×ZaC))×(List ZG)))):=
 if(decide (s.2.2.2.1 < s.2.2.1))=true then
  (idx s.2.1 s.2.2.2.1).bind λe961=>
  (YA F e961.2).bind λo962=>
  if(!o962)=true then
   some (.inr (.inl (s.2.2.2.2.1,s.2.2.2.2.2)))
  else
  if(decide (e961.1 < 0))=true then
   some (.inr (.inl (s.2.2.2.2.1,s.2.2.2.2.2)))
  else
  if(decide (e961.1 > (wi (1125899906842624 - s.1))))=true then
   some (.inr (.inl (s.2.2.2.2.1,s.2.2.2.2.2)))
  else
  (Zjv F e961).bind λo963=>
  let y964:(List (Zu×ZaC)):=Zwp s.2.2.2.2.1 (yzz,s.2.2.2.1) (o963,(0:Int))
  some (.inl (wi (s.1+e961.1),s.2.1,s.2.2.1,wi (s.2.2.2.1+1),y964,s.2.2.2.2.2))
 else
 some (.inr (.inr (s.2.2.2.2.1,s.2.2.2.2.2)))
def Zo5:Lp:=⟨[(3,.ref 1 []),(4,.v yI),(13,.v (.sl ZF)),(14,.v yI),(15,.v yI)],[.map 165 Zj Xg,.var (.agg [.mp 0,.v (.sl Zv)]) true],[yI,(.sl ZF),yI,yI,(Qz Zj Xg),(.sl Zv)],[⟨.ret,[(2,.ptr0)],[.map 165 Zj Xg,.var (.agg [.mp 0,.v (.sl Zv)]) true],[(Qz Zj Xg),(.sl Zv)]⟩,⟨.exit 0,[(3,.ref 1 [])],[.map 165 Zj Xg,.var (.agg [.mp 0,.v (.sl Zv)]) true],[(Qz Zj Xg),(.sl Zv)]⟩],Zb (ZaD fuel) fuel⟩
theorem ZrD:Zo5.okA yc 27 0:=ZC { still:=[2,21,46]} [] [WS,Zra] ⟨Wl,ZxJ,ytt⟩
def Zjw(F:Nat)(a0:(List Out)):Option (Unit⊕((List ZG)×(List (Zu×ZaC)))):=
 if(decide ((a0.length:Int) > 256))=true then
  some (.inl ())
 else
 (Zb (ZaD F) F (0,a0,(a0.length:Int),0,([]:List (Zu×ZaC)),[])).bind λo965=>
 match o965 with
 |.inl o966=>
  some (.inl ())
 |.inr o967=>
  some (.inr (o967.2,o967.1))
def Zrb:Fs yc:=⟨27,[.v (.sl ZF)],[],[(.sl ZF)],[⟨.ret,[(0,.ptr0)],[],[]⟩,⟨.ret,[(0,.ref 0 [])],[.var (.agg [.mp 1,.v (.sl Zv)]) true,.map 165 Zj Xg],[(.sl Zv),(Qz Zj Xg)]⟩],λx=>Zjw fuel x⟩
theorem ZxK:Zrb.Ok:=fnO { still:=[2,21,46]} [(0,Zo5)] [] trivial ⟨ZrD,ytt⟩
def ZnC(F:Nat)(a0:UInt64)(a1:UInt64):Option (Lock):=
 (Zig F [a0,a1]).bind λo968=>
 some o968
def Zrc:Fs yc:=⟨76,[.v .u64,.v .u64],[],[.u64,.u64],[⟨.ret,[(0,.v Zn)],[],[Zn]⟩],λx=>ZnC fuel x.1 x.2⟩
theorem ZxL:Zrc.Ok:=fnO { still:=[7]} [] [Zny] ⟨Zq3,ytt⟩
def ZaT(F:Nat)(a0:ZE):Option (Lock):=
 (a0.2.2.1[0]?).bind λe969=>
 (a0.2.2.1[1]?).bind λe970=>
 (ZnC F e969.1 e970.1).bind λo971=>
 some o971
def Zis:Fs yc:=⟨28,[.v Zf],[],[Zf],[⟨.ret,[(0,.v Zn)],[],[Zn]⟩],λx=>ZaT fuel x⟩
theorem Zo6:Zis.Ok:=fnO { still:=[6,10]} [] [Zrc] ⟨ZxL,ytt⟩
def Wm(F:Nat)(s:((List UInt64)×Int×Int×Lock×ZgZ×(List UInt8)×ZJ)):Option (((List UInt64)×Int×Int×Lock×ZgZ×(List UInt8)×ZJ)⊕((Int×Lock×ZgZ×(List UInt8)×ZJ)⊕(Lock×ZgZ×(List UInt8)×ZJ))):=
 if(decide (s.2.2.1 < s.2.1))=true then
  (idx s.1 s.2.2.1).bind λe975=>
  (idx s.2.2.2.2.1.2.1 s.2.2.1).bind λe976=>
  (sign_VerifyM F e975 s.2.2.2.2.2.1 e976).bind λo977=>
  if(!o977)=true then
   some (.inr (.inl (7,s.2.2.2.1,s.2.2.2.2.1,s.2.2.2.2.2.1,s.2.2.2.2.2.2)))
  else
  some (.inl (s.1,s.2.1,wi (s.2.2.1+1),s.2.2.2.1,s.2.2.2.2.1,s.2.2.2.2.2.1,s.2.2.2.2.2.2))
 else
 some (.inr (.inr (s.2.2.2.1,s.2.2.2.2.1,s.2.2.2.2.2.1,s.2.2.2.2.2.2)))
def Zo7:Lp:=⟨[(6,.ref 1 []),(7,.ref 2 []),(68,.v (.sl .u64)),(69,.v yI),(70,.v yI)],[.var (.v Zn) true,.var (.v QA) true,.var (.v (.arr 32 .u8)) true,.var (.v Zo) true],[(.sl .u64),yI,yI,Zn,QA,(.arr 32 .u8),Zo],[⟨.ret,[(10,.v yI)],[.var (.v Zn) true,.var (.v QA) true,.var (.v (.arr 32 .u8)) true,.var (.v Zo) true],[yI,Zn,QA,(.arr 32 .u8),Zo]⟩,⟨.exit 1,[],[.var (.v Zn) true,.var (.v QA) true,.var (.v (.arr 32 .u8)) true,.var (.v Zo) true],[Zn,QA,(.arr 32 .u8),Zo]⟩],Zb (Wm fuel) fuel⟩
theorem ZrE:Zo7.okA yc 83 0:=ZC { still:=[10,14,53,75,76,81]} [] [ZhM] ⟨Zgn,ytt⟩
def Zc6(F:Nat)(a0:Lock)(a1:ZgZ)(a2:(List UInt8))(a3:Int)(a4:Int):Option (Int):=
 (YA F a0).bind λo972=>
 if(!o972)=true then
  some 1
 else
 if(decide (a1.1 < 0))=true then
  some 1
 else
 if(decide (a1.1 ≥ (a0.length:Int)))=true then
  some 1
 else
 (idx a0 a1.1).bind λe973=>
 if(decide (a3 < e973.2.1))=true then
  some 11
 else
 if(decide (a4 < e973.2.2.1))=true then
  some 11
 else
 if(e973.2.2.2 !=0)=true then
  (Y7 F a1.2.2).bind λo974=>
  if(o974 !=e973.2.2.2)=true then
   some 23
  else
  if((a1.2.1.length:Int)!=(e973.1.length:Int))=true then
   some 7
  else
  (Zb (Wm F) F (e973.1,(e973.1.length:Int),0,a0,a1,a2,e973)).bind λo978=>
  match o978 with
  |.inl o979=>
   some o979.1
  |.inr o980=>
   some 0
 else
 if((a1.2.1.length:Int)!=(e973.1.length:Int))=true then
  some 7
 else
 (Zb (Wm F) F (e973.1,(e973.1.length:Int),0,a0,a1,a2,e973)).bind λo981=>
 match o981 with
 |.inl o982=>
  some o982.1
 |.inr o983=>
  some 0
def Zrd:Fs yc:=⟨83,[.v Zn,.v QA,.v (.arr 32 .u8),.v yI,.v yI],[],[Zn,QA,(.arr 32 .u8),yI,yI],[⟨.ret,[(0,.v yI)],[],[yI]⟩],λx=>Zc6 fuel x.1 x.2.1 x.2.2.1 x.2.2.2.1 x.2.2.2.2⟩
theorem ZxM:Zrd.Ok:=fnO { still:=[10,14,53,75,76,81]} [(0,Zo7)] [WS,Zab] ⟨Wl,Zax,ytt⟩ ⟨ZrE,ytt⟩
def Zd2(F:Nat)(s:(Int×Int×Tx×(List Zu)×(List UInt8))):Option ((Int×Int×Tx×(List Zu)×(List UInt8))⊕(Tx×(List Zu)×(List UInt8))):=
 if(decide (s.2.1 < s.1))=true then
  if(apB s.2.2.2.1.length 1 40)=true then
   let y986:(List Zu):=s.2.2.2.1++([(s.2.2.2.2,s.2.1)]:List Zu)
   some (.inl (s.1,wi (s.2.1+1),s.2.2.1,y986,s.2.2.2.2))
  else
  none
 else
 some (.inr (s.2.2.1,s.2.2.2.1,s.2.2.2.2))
def ZtW:Lp:=⟨[(2,.own 1 Zj),(3,.ref 2 []),(12,.v yI),(13,.v yI)],[.var (.v yTx) true,.log Zj 35,.var (.v (.arr 32 .u8)) true],[yI,yI,yTx,(.sl Zj),(.arr 32 .u8)],[⟨.exit 0,[(2,.own 1 Zj)],[.var (.v yTx) true,.log Zj 35,.var (.v (.arr 32 .u8)) true],[yTx,(.sl Zj),(.arr 32 .u8)]⟩],Zb (Zd2 fuel) fuel⟩
def ZLH:HI:={ own:=[2,16,21,23],still:=[2,5,7]}
theorem ZuS:ZtW.okA yc 84 0:=ZC ZLH [] [] trivial
def Zo8(F:Nat)(a0:Tx):Option ((List Zu)):=
 (Zf2 F a0).bind λo984=>
 (Zbm F a0).bind λo985=>
 if(!o985)=true then
  some []
 else
 (Zb (Zd2 F) F ((a0.2.1.length:Int),0,a0,[],o984)).bind λo987=>
 some o987.2.1
def ZvN:Fs yc:=⟨84,[.v yTx],[],[yTx],[⟨.ret,[(0,.v (.sl Zj))],[],[(.sl Zj)]⟩],λx=>Zo8 fuel x⟩
theorem ZBi:ZvN.Ok:=fnO ZLH [(0,ZtW)] [Zl1,ZfX] ⟨Zie,Zg6,ytt⟩ ⟨ZuS,ytt⟩
end
end Go.Proofs.YtmkgbalfkhaflaaGreat
end
section
set_option maxRecDepth 4000
namespace Go.Proofs.YtmkgbalfkhaflaaGreat
open Go Go.Ev
theorem ZGw{m:Nat}(hm:0 < m):∀(f a n o:Nat),o < m→pwm m f a n o < m
 |0,_,_,o,h=>h
 |f+1,a,n,o,h=>by
  rw[pwm];split
  ·exact h
  ·refine ZGw hm f _ _ _ ?_;split
   ·exact ybb _ hm
   ·exact h
theorem ZGx{m:Nat}(hm:1 < m)(k a n:Nat)(h:n < 2 ^ k):pwm m k a n 1=a ^ n % m:=by
 rw[←yah (ZGw (by omega) k a n 1 hm),Zxm k a n 1 h,Nat.one_mul]
instance(a:Nat):Decidable (Q6 a):=by unfold Q6;infer_instance
theorem ZKx{z:Nat}(h:z < mdl):z < 18446744073709551616:=Nat.lt_trans h (by decide)
theorem ZtX{z:Nat}(h:z < mdl):(yad z).toNat=z:=by
 rw[yba,yah (ZKx h)]
theorem Zl4(z:Nat):z % mdl < mdl:=ybb _ (by decide)
theorem ZtY(a n:UInt64):Q7 fuel a n=some (yad (a.toNat ^ n.toNat % mdl)):=by
 unfold Q7;rw[ZGx (by decide) 64 a.toNat n.toNat (ybr n)];rfl
theorem ZvO{a n:UInt64}(h:a.toNat < mdl):YM fuel a n=some (yad (a.toNat ^ n.toNat % mdl)):=by
 unfold YM;rw[if_pos (decide_eq_true (show a.toNat < 4611686018427377339 from h)),ZGx (by decide) 64 a.toNat n.toNat (ybr n)]
 rfl
theorem ZGy{z:Nat}(h:z < mdl):(yad z==1)=decide (z=1):=by
 rw[yck,beq_iff_eq,decide_eq_true_iff, ←ycf,ZtX h];rfl
theorem ZaE(p:UInt64):XN fuel p=some (decide (Q6 p.toNat)):=by
 unfold XN;by_cases h1:0 < p.toNat
 ·rw[if_pos (decide_eq_true (show p > 0 from ybz.2 h1))]
  by_cases h2:p.toNat < mdl
  ·rw[if_pos (decide_eq_true (show p < 4611686018427377339 from ybz.2 h2)),ZtY,ya,ZGy (Zl4 _)]
   congr 1;rw[decide_eq_decide];exact⟨λh=>⟨h1,h2,h⟩,λh=>h.2.2⟩
  ·rw[if_neg (by rw[decide_eq_true_iff];exact λh=>h2 (ybz.1 h)),decide_eq_false (λh=>h2 h.2.1)]
 ·rw[if_neg (by rw[decide_eq_true_iff];exact λh=>h1 (ybz.1 h)),decide_eq_false (λh=>h1 h.1)]
theorem Zqa(p:UInt64):Xu fuel p=some (decide (Q6 p.toNat)):=by
 unfold Xu;by_cases h1:0 < p.toNat
 ·rw[if_pos (decide_eq_true (show p ≥ 1 from ycs.2 h1))]
  by_cases h2:p.toNat < mdl
  ·rw[if_pos (decide_eq_true (show p < 4611686018427377339 from ybz.2 h2)),ZvO h2,ya,ZGy (Zl4 _)]
   congr 1;rw[decide_eq_decide];exact⟨λh=>⟨h1,h2,h⟩,λh=>h.2.2⟩
  ·rw[if_neg (by rw[decide_eq_true_iff];exact λh=>h2 (ybz.1 h)),decide_eq_false (λh=>h2 h.2.1)]
 ·rw[if_neg (by rw[decide_eq_true_iff];exact λh=>h1 (ycs.1 h)),decide_eq_false (λh=>h1 h.1)]
def tk(p:UInt64):UInt64:=if Q6 p.toNat then p else 1
theorem ZCB(p:UInt64):Q6 (tk p).toNat:=by
 unfold tk;split
 ·assumption
 ·exact ZA7
theorem ZvP{p:UInt64}(h:Q6 p.toNat):tk p=p:=if_pos h
theorem ZtZ(p:UInt64):Zaa fuel p=some (tk p):=by
 unfold Zaa tk;rw[ZaE,ya];by_cases h:Q6 p.toNat
 ·rw[if_pos (decide_eq_true h),if_pos h]
 ·rw[if_neg (by rw[decide_eq_true_iff];exact h),if_neg h]
theorem ZD1(p:UInt64):Vm fuel p=some (tk p):=by
 unfold Vm tk;rw[Zqa,ya];by_cases h:Q6 p.toNat
 ·rw[if_pos (decide_eq_true h),if_pos h]
 ·rw[if_neg (by rw[decide_eq_true_iff];exact h),if_neg h]
def sc(p:UInt64)(n:Nat):UInt64:=yad ((tk p).toNat ^ n % mdl)
theorem ZxN(p:UInt64)(n:Nat):(sc p n).toNat=(tk p).toNat ^ n % mdl:=ZtX (Zl4 _)
theorem ZLI(p:UInt64)(n:Nat):Q6 (sc p n).toNat:=by
 rw[ZxN];exact ZKd (ZCB p) n
theorem ZBj(p:UInt64)(n:Nat):sc p (n % ord)=sc p n:=by
 unfold sc;rw[ZIf (ZCB p)]
theorem Zt0(k:UInt64):(k % 2305843009213688669).toNat=k.toNat % ord:=by
 rw[UInt64.toNat_mod];rfl
theorem Zt1(p k:UInt64):ZbZ fuel p k=some (sc p k.toNat):=by
 unfold ZbZ;rw[ZtZ,ya,ZtY,ya,Zt0, ←ZBj];rfl
theorem ZD2(p k:UInt64):Vn fuel p k=some (sc p k.toNat):=by
 unfold Vn;rw[ZD1,ya,ZvO (ZCB p).2.1,ya,Zt0, ←ZBj];rfl
def B(n:Nat):UInt64:=sc 4 n
theorem tk4:tk 4=4:=ZvP ZGf
theorem Zre(n:Nat):(B n).toNat=4 ^ n % mdl:=by
 unfold B;rw[ZxN,tk4];rfl
theorem Zo9(n:Nat):Q6 (B n).toNat:=ZLI 4 n
theorem ZGz(n:Nat):B (n % ord)=B n:=ZBj 4 n
theorem ZMq{n:Nat}(h0:0 < n)(h1:n < ord):B n≠1:=λe=>ZKe h0 h1 (by rw[←Zre,e];rfl)
theorem Zdn(k:UInt64):Y7 fuel k=some (B k.toNat):=by
 unfold Y7;rw[Zt1,ya];rfl
theorem Zlw(k:UInt64):YC fuel k=some (B k.toNat):=by
 unfold YC;rw[ZD2,ya];rfl
def ad(p q:UInt64):UInt64:=yad ((tk p).toNat*(tk q).toNat % mdl)
theorem ZKy(p q:UInt64):(ad p q).toNat=(tk p).toNat*(tk q).toNat % mdl:=ZtX (Zl4 _)
theorem ZGA(a b:UInt64):Yr fuel a b=some (yad (a.toNat*b.toNat % mdl)):=Zzn a b
def Zmt:List UInt64→Nat→Nat
 |[],o=>o
 |p::r,o=>Zmt r (o*(tk p).toNat % mdl)
theorem ZCC:∀(l:List UInt64)(o:Nat),o < mdl→Zmt l o < mdl
 |[],o,h=>h
 |p::r,o,h=>ZCC r _ (Zl4 _)
theorem ZBk{l:List UInt64}(hl:l.length≤1000):Zf4 fuel l=some (yad (Zmt l 1)):=by
 have key:∀(k:Nat),k≤l.length→Zmt (l.take k) 1 < mdl:=λk _=>ZCC _ _ (by decide)
 have app:∀(l:List UInt64)(p:UInt64)(o:Nat),Zmt (l++[p]) o=Zmt l o*(tk p).toNat % mdl:=by
  intro l
  induction l with
  |nil=>intro p o;rfl
  |cons q r ih=>intro p o;exact ih p _
 unfold Zf4
 rw[show((1:UInt64),l,(l.length:Int),(0:Int))=(λk:Nat=>(yad (Zmt (l.take k) 1),l,(l.length:Int),(k:Int))) 0 from rfl,
  ZN (x:=yad (Zmt l 1)) l.length (λk:Nat=>(yad (Zmt (l.take k) 1),l,(l.length:Int),(k:Int))) ?_ ?_ (by omega),ya]
 ·intro k hk;obtain⟨e,he,_⟩:=Zk hk;unfold Zdl;dsimp only;rw[if_pos (Z9 hk),Zp he,ya,ZtZ,ya,ZGA,ya,Zs (by omega),Zfe he,app,ZtX (key k (by omega))]
 ·unfold Zdl;dsimp only;rw[if_neg (by rw[ZW];decide),List.take_length]
theorem ZKz(p q:UInt64):Zi7 fuel p q=some (ad p q):=by
 unfold Zi7;rw[ZBk (by simp),ya];unfold ad Zmt Zmt Zmt;rw[Nat.one_mul,yah (ZCB p).2.1]
theorem ZGB(p:UInt64):Zjq fuel p=some (sc p (ord - 1)):=by
 unfold Zjq;rw[ZtZ,ya,ZtY,ya];rfl
theorem ZxO{z:Nat}:(yad (z % ord)).toNat=z % ord:=by
 rw[yba,yah (Nat.lt_trans (ybb _ (by decide)) (by decide))]
theorem Zt2{z:Nat}:z % ord < ord:=ybb _ (by decide)
theorem ZIn(a b:UInt64):Zi8 fuel a b=some (yad ((a.toNat+b.toNat) % ord)):=by
 unfold Zi8 Zc2 Zej;rw[ya,ya,ya];congr 1;have ha:a.toNat % ord < ord:=Zt2;have hb:b.toNat % ord < ord:=Zt2;rw[←ycf,Zt0,UInt64.toNat_add,Zt0,Zt0,ZxO,yah (a:=a.toNat % ord+b.toNat % ord) (by unfold ord at*;omega), ←Nat.add_mod]
theorem ZIo(a b:UInt64):Zi9 fuel a b=some (yad (a.toNat*b.toNat % ord)):=by
 unfold Zi9 Zc2 Zc3 ZdA;rw[ya,ya,ya];dsimp only;unfold WR;rw[if_pos (by decide),ya,ya,yba,yba,Zt0,Zt0];have h:a.toNat % ord*(b.toNat % ord) < 18446744073709551616*18446744073709551616:=Nat.mul_lt_mul'' (Nat.lt_trans Zt2 (by decide)) (Nat.lt_trans Zt2 (by decide));have hz:a.toNat % ord*(b.toNat % ord) % ord=a.toNat*b.toNat % ord:=(Nat.mul_mod ..).symm;generalize a.toNat % ord*(b.toNat % ord)=z at*;have h2:z / 18446744073709551616 < 18446744073709551616:=(Nat.div_lt_iff_lt_mul (by decide)).2 h;rw[show(2305843009213688669:UInt64).toNat=ord from rfl]
 have e:z / 18446744073709551616 % 2 ^ 64*18446744073709551616+z % 18446744073709551616 % 2 ^ 64=z:=by omega
 rw[e,hz]
theorem Zqb(a:UInt64):Q9 fuel a=some (decide (a.toNat < ord)):=by
 unfold Q9;congr 1
def Key(k:UInt64):Prop:=0 < k.toNat∧k.toNat < ord
theorem ZCD{h:List UInt8}(hl:h.length=32):∃k,ZdG fuel h=some k∧Key k:=by
 unfold ZdG
 obtain⟨x,h1,h2⟩:=Yk (step:=QN fuel) 32 (λk s=>∃n:UInt64,s=(n,h,(k:Int),h)∧n.toNat < 2305843009213688668) (λx=>x.1.toNat < 2305843009213688668) (i:=((0:UInt64),h,(0:Int),h)) ⟨0,rfl,by decide⟩ (by omega) (by
  rintro k _ hk ⟨n,rfl,hn⟩;left;obtain⟨e,he,_⟩:=Zk (l:=h) (k:=k) (by omega);unfold QN;dsimp only;rw[if_pos (decide_eq_true (by omega)),Zp he,ya];unfold WR;rw[if_pos (by decide),ya,Zs (by omega)];refine⟨_,rfl,_,rfl, ?_⟩;rw[show(2305843009213688668:UInt64).toNat=2305843009213688668 from rfl,yba,yah]
  ·exact ybb _ (by decide)
  ·exact Nat.lt_trans (ybb _ (by decide)) (by decide)) (by
  rintro _ ⟨n,rfl,hn⟩;unfold QN;dsimp only;rw[if_neg (ynd (by omega))];exact⟨_,rfl,hn⟩)
 rw[h1,ya];have e:(x.1+1).toNat=x.1.toNat+1:=by rw[UInt64.toNat_add,yah (by show x.1.toNat+1 < _;omega)];rfl
 exact⟨_,rfl,by rw[e];omega,by rw[e];unfold ord;omega⟩
theorem Zlx{h:List UInt8}(hl:h.length=32):∃k,YB fuel h=some k∧Key k:=by
 unfold YB
 obtain⟨x,h1,h2⟩:=Yk (step:=Xz fuel) 32 (λk s=>∃n:UInt64,s=(n,(k:Int),h)∧n.toNat < 2305843009213688668) (λx=>x.1.toNat < 2305843009213688668) (i:=((0:UInt64),(0:Int),h)) ⟨0,rfl,by decide⟩ (by omega) (by
  rintro k _ hk ⟨n,rfl,hn⟩;left;obtain⟨e,he,_⟩:=Zk (l:=h) (k:=k) (by omega);unfold Xz;dsimp only;rw[if_pos (decide_eq_true (by omega))]
  obtain⟨y,g1,n2,rfl,g2⟩:=Yk (step:=Xy fuel) 8 (λj s=>∃n:UInt64,s=(n,(k:Int),7 - (j:Int),h)∧n.toNat < 2305843009213688668) (λx=>∃n:UInt64,x=(n,(k:Int),h)∧n.toNat < 2305843009213688668) (i:=(n,(k:Int),(7:Int),h)) ⟨n,rfl,hn⟩ (by omega) (by
   rintro j _ hj ⟨n,rfl,hn⟩;left;unfold Xy;dsimp only;rw[if_pos (decide_eq_true (by omega)),if_pos (Yf (by omega) (by omega)),ybf,he,ya,Zz (z:=7 - (j:Int) - 1) (by omega) (by omega)];refine⟨_,rfl,_,by rw[show(7:Int) - (j:Int) - 1=7 - ((j+1:Nat):Int) by omega], ?_⟩;rw[UInt64.toNat_mod];exact ybb _ (by decide)) (by
   rintro _ ⟨n,rfl,hn⟩;unfold Xy;dsimp only;rw[if_neg (ynd (by omega))];exact⟨_,rfl,_,rfl,hn⟩)
  rw[g1,ya,Zs (by omega)];exact⟨_,rfl,_,rfl,g2⟩) (by
  rintro _ ⟨n,rfl,hn⟩;unfold Xz;dsimp only;rw[if_neg (ynd (by omega))];exact⟨_,rfl,hn⟩)
 rw[h1,ya];have e:(x.1+1).toNat=x.1.toNat+1:=by rw[UInt64.toNat_add,yah (by show x.1.toNat+1 < _;omega)];rfl
 exact⟨_,rfl,by rw[e];omega,by rw[e];unfold ord;omega⟩
theorem Zzz{n:Nat}{b:List UInt8}(h:b.length≤1000000):∃o,Vf fuel (n:Int) b=some o∧o.length=b.length+8:=
 ⟨_,ZCy (by omega),by rw[yp];rfl⟩
theorem ZIp{l:List UInt8}(h:l.length≤900000):∃o,Zfn fuel l=some o∧o.length=32:=⟨_,ZIm (by omega),Sha.ZL9 l⟩
theorem ZxP{s:ByteArray}{ls:List (List UInt8)}(h1:s.size≤100)(h2:ls.length≤10)(h3:∀l,l∈ls→l.length≤60000):∃o,Zc0 fuel s ls=some o∧o.length=32:=by
 unfold Zc0;obtain⟨o,p1,p2⟩:=Zzz (n:=s.size) (b:=[]) (by simp)
 have hsl:(Zl9 s).length=s.size:=by
  unfold Zl9;rw[Array.length_toList];rfl
 rw[p1,ya,if_pos (Z2 (by rw[hsl,p2];simp;omega) (by rw[hsl,p2];simp;omega))];refine Exists.elim (WL (step:=Ze9 fuel) (λx=>x.1=ls∧x.2.1=(ls.length:Int)∧0≤x.2.2.1∧x.2.2.1≤(ls.length:Int)∧x.2.2.2.2.length≤200+60100*x.2.2.1.toNat) (λx=>((ls.length:Int) - x.2.2.1).toNat) (λx=>x.2.length≤700000) ?_ (ls,(ls.length:Int),(0:Int),yzz,o++Zl9 s) ⟨rfl,rfl,Int.le_refl _,by dsimp only;omega,by dsimp only;rw[yp,p2,hsl];simp;omega⟩ (by dsimp only;omega)) ?_
 rotate_left
 ·rintro q ⟨q1,q2⟩;rw[q1,ya];obtain⟨r,r1,r2⟩:=ZIp (l:=q.2) (by omega);rw[r1,ya];exact⟨_,rfl,r2⟩
 ·rintro⟨a,n,i,c,d⟩ ⟨k1,k2,k3,k4,k5⟩;dsimp only at k1 k2 k3 k4 k5;subst k1;subst k2;unfold Ze9;dsimp only;by_cases hi:i < (a.length:Int)
  ·left;obtain⟨e,he⟩:=ZbI (l:=a) (i:=i.toNat) (by omega);have hel:=h3 e (List.mem_of_getElem? he);obtain⟨x,x1,x2⟩:=Zzz (n:=e.length) (b:=d) (by omega);rw[if_pos (decide_eq_true hi),ZeV k3 he,ya,x1,ya,if_pos (Z2 (by omega) (by omega)),Zz (z:=i+1) (by omega) (by omega)];exact⟨_,rfl,⟨rfl,rfl,by dsimp only;omega,by dsimp only;omega,by dsimp only;rw[yp];omega⟩,by dsimp only;omega⟩
  ·right;rw[if_neg (by simpa using hi)];exact⟨_,rfl,by dsimp only;omega⟩
theorem ZMr(m n:Nat):sc (B m) n=B (m*n):=by
 rw[←ycf,ZxN,ZvP (Zo9 m),Zre,Zre,Nat.pow_mul, ←Nat.pow_mod]
theorem ZLJ(z:Nat):B (yad (z % ord)).toNat=B z:=by rw[ZxO,ZGz]
end Go.Proofs.YtmkgbalfkhaflaaGreat
end
