/- Parts of the proof, in one file. -/
import Derived.Test.YtcbhhaigilifgaaGreatKe
open Option renaming some → ab, none → ad
open Bool renaming true → ae, false → af
open Decidable renaming decide → ag
open Bool renaming and_eq_true → yi
open Go.Proofs.Tryz renaming prog → yb
open List renaming length_append → yl, range → yn, replicate → yx, length_map → yaa, append_assoc → yab, length_take → yac, map_cons → yag, length_cons → yah, getElem?_map → yak, getElem?_cons_succ → yaq, map_append → yat, take_append_drop → ybg, getElem?_eq_none → ybk, length_set → ybp, length_drop → ybt, mem_cons → ycc, getD_eq_getElem?_getD → ycu, length_replicate → yda, length_singleton → ydb
open Nat renaming add → yw, shiftRight → yai, mod_eq_of_lt → yap, zero_add → yax, mul_comm → ybo, add_zero → ych, two_pow_add_eq_or_of_lt → ycz, shiftRight_eq_div_pow → ydd
open Option renaming bind_some → ya, map_some → yae
open Option.some renaming injEq → yo
open Prod.mk renaming injEq → yq
open UInt32 renaming toNat → yam, toNat_ofNat' → ycp
open UInt64 renaming ofNat → yao, toNat_ofNat' → ybe, lt_iff_toNat_lt → yca
open UInt8 renaming toNat → yaj, ofNat → yar
set_option linter.unusedVariables false
set_option linter.unusedSimpArgs false
section
namespace Go.Sha
open Go.Ev
noncomputable def fD{α:Type}(n:Nat)(k:Nat->α):α:=Nat.rec (motive:=λ_=>α) (k 0) (λm _=>k (Nat.succ m)) n
theorem Wg{α:Type}(n:Nat)(k:Nat->α):fD n k=k n:=by cases n <;> rfl
def eD(x:Nat):Nat:=Nat.mul x 4294967297
def s0(x:Nat):Nat:=Nat.xor (Nat.xor (yai (eD x) 7) (yai (eD x) 18)) (yai x 3)
def s1(x:Nat):Nat:=Nat.xor (Nat.xor (yai (eD x) 17) (yai (eD x) 19)) (yai x 10)
def S0(x:Nat):Nat:=Nat.xor (Nat.xor (yai (eD x) 2) (yai (eD x) 13)) (yai (eD x) 22)
def S1(x:Nat):Nat:=Nat.xor (Nat.xor (yai (eD x) 6) (yai (eD x) 11)) (yai (eD x) 25)
def ch(e f g:Nat):Nat:=Nat.xor g (Nat.land e (Nat.xor f g))
def mj(a b c:Nat):Nat:=Nat.lor (Nat.land a b) (Nat.land c (Nat.lor a b))
def lo(x:Nat):Nat:=Nat.mod x 4294967296
def kw(W:Nat):Nat:=lo (yw (yw (yw (yai W 480) (s0 (lo (yai W 448)))) (lo (yai W 192))) (s1 (lo (yai W 32))))
def kn(W:Nat):Nat:=Nat.mod (yw (Nat.mul W 4294967296) (kw W)) (Nat.pow 2 512)
noncomputable def xt(k:Nat)(j:Nat->Nat->Nat->Nat->Nat->Nat->Nat->Nat->Nat->Nat)(W a b c d e f g h:Nat):Nat:=
 fD (yw (yw (yw (yw h (S1 e)) (ch e f g)) k) (yai W 480)) λt=>
     fD (lo (yw (yw t (S0 a)) (mj a b c))) λl=>fD (lo (yw d t)) λm=>fD (kn W) λW'=>j W' l a b c m e f g
noncomputable def qi(ks:yL Nat)(K:Nat->Nat->Nat->Nat->Nat->Nat->Nat->Nat->Nat):Nat->Nat->Nat->Nat->Nat->Nat->Nat->Nat->Nat->Nat:=
 List.rec (motive:=λ_=>Nat->Nat->Nat->Nat->Nat->Nat->Nat->Nat->Nat->Nat) (λ_=>K) (λk _ f=>xt k f) ks
def ks:yL Nat:=[1116352408,1899447441,3049323471,3921009573,961987163,1508970993,2453635748,2870763221,3624381080,310598401,607225278,1426881987,1925078388,2162078206,2614888103,3248222580,3835390401,4022224774,264347078,604807628,770255983,1249150122,1555081692,1996064986,2554220882,2821834349,2952996808,3210313671,3336571891,3584528711,113926993,338241895,666307205,773529912,1294757372,1396182291,1695183700,1986661051,2177026350,2456956037,2730485921,2820302411,3259730800,3345764771,3516065817,3600352804,4094571909,275423344,430227734,506948616,659060556,883997877,958139571,1322822218,1537002063,1747873779,1955562222,2024104815,2227730452,2361852424,2428436474,2756734187,3204031479,3329325298]
def w32(H i:Nat):Nat:=lo (yai H i)
def bn(H x:Nat):Nat:=yw (Nat.mul H 4294967296) (lo x)
noncomputable def xu(H B:Nat):Nat:=
 fD (w32 H 224) λa=>fD (w32 H 192) λb=>fD (w32 H 160) λc=>fD (w32 H 128) λd=>fD (w32 H 96) λe=>fD (w32 H 64) λf=>fD (w32 H 32) λg=>fD (w32 H 0) λh=>
  qi ks (λj l m y z A E F=>bn (bn (bn (bn (bn (bn (bn (bn 0 (yw j a)) (yw l b)) (yw m c)) (yw y d)) (yw z e)) (yw A f)) (yw E g)) (yw F h)) B a b c d e f g h
noncomputable def pk(l:yL Nat)(n:Nat):Nat:=List.rec (motive:=λ_=>Nat->Nat) (λn=>n) (λx _ f n=>fD (yw (Nat.mul n 256) x) f) l n
noncomputable def KA(n:Nat)(l:yL Nat)(H:Nat):Nat:=
 Nat.rec (motive:=λ_=>yL Nat->Nat->Nat) (λ_ H=>H) (λ_ f l H=>fD (xu H (pk (l.take 64) 0)) λH'=>f (l.drop 64) H') n l H
noncomputable def outs(H:Nat)(l:yL Nat):yL yB:=List.rec (motive:=λ_=>yL yB) [] (λs _ f=>fD (Nat.mod (yai H s) 256) λx=>yar x::f) l
def KB:yL Nat:=[248,240,232,224,216,208,200,192,184,176,168,160,152,144,136,128,120,112,104,96,88,80,72,64,56,48,40,32,24,16,8,0]
def ij(n:Nat):yL Nat:=[n / 2 ^ 56 % 256,n / 2 ^ 48 % 256,n / 2 ^ 40 % 256,n / 2 ^ 32 % 256,n / 2 ^ 24 % 256,n / 2 ^ 16 % 256,n / 2 ^ 8 % 256,n % 256]
def zs(n:Nat):Nat:=(119 - n % 64) % 64
def H0:Nat:=bn (bn (bn (bn (bn (bn (bn (bn 0 1779033703) 3144134277) 1013904242) 2773480762) 1359893119) 2600822924) 528734635) 1541459225
noncomputable def jP(l:yL yB):yL yB:=
 fD l.length λn=>fD (KA (Nat.div (yw n 72) 64) (l.map yaj++(128::(yx (zs n) 0++ij (8*n)))) H0) λH=>outs H KB
theorem fy(x y:yV):(x+y).toNat=lo (x.toNat+y.toNat):=by rw[UInt32.toNat_add];rfl
theorem kG(x y:yV):(x^^^y).toNat=Nat.xor x.toNat y.toNat:=UInt32.toNat_xor ..
theorem KC(x y:yV):(x&&&y).toNat=Nat.land x.toNat y.toNat:=UInt32.toNat_and ..
theorem lI(x y:yV):(x|||y).toNat=Nat.lor x.toNat y.toNat:=UInt32.toNat_or ..
theorem KD(x:yV):x.toNat < 4294967296:=x.toNat_lt
theorem qj(x:yV)(n:Nat):(gJ x n).toNat=yai x.toNat n:=by
 unfold gJ;rw[ycp,show yai x.toNat n=x.toNat >>> n from rfl,ydd]
 exact yap (Nat.lt_of_le_of_lt (Nat.div_le_self _ _) (KD x))
theorem ZMW(x:Nat):lo x < 4294967296:=Nat.mod_lt _ (by omega)
theorem gj{x:Nat}(h:x < 4294967296):lo x=x:=yap h
theorem ZMX(x:yV){n k:Nat}(h:n+k=32)(A:0 < n):(fP x k|||gJ x n).toNat=lo (yai (eD x.toNat) n):=by
 rw[lI,qj];unfold fP;have g:=KD x;generalize x.toNat=m at g;have f:2 ^ n*2 ^ k=4294967296:=by rw[<-Nat.pow_add,h]
 rw[ycp,show yai m n=m >>> n from rfl,ydd,show yai (eD m) n=(eD m) >>> n from rfl,ydd]
 have j:m*2 ^ k % 2 ^ 32=2 ^ k*(m % 2 ^ n):=by
  rw[show(2:Nat) ^ 32=2 ^ n*2 ^ k from f.symm,Nat.mul_mod_mul_right]
  exact ybo ..
 have l:m / 2 ^ n < 2 ^ k:=by
  rw[Nat.div_lt_iff_lt_mul (Nat.two_pow_pos n),ybo,f];exact g
 rw[j,show Nat.lor (2 ^ k*(m % 2 ^ n)) (m / 2 ^ n)=2 ^ k*(m % 2 ^ n)|||m / 2 ^ n from rfl, <-ycz l]
 have y:eD m=2 ^ n*(m*2 ^ k)+m:=by
  unfold eD;rw[Nat.mul_left_comm,f,show Nat.mul m 4294967297=m*4294967297 from rfl]
  omega
 rw[y,Nat.mul_add_div (Nat.two_pow_pos n)];unfold lo;rw[show Nat.mod (m*2 ^ k+m / 2 ^ n) 4294967296=(m*2 ^ k+m / 2 ^ n) % 4294967296 from rfl,Nat.add_mod,show m*2 ^ k % 4294967296=2 ^ k*(m % 2 ^ n) from j,yap (a:=m / 2 ^ n) (b:=4294967296) (by rw[<-f];exact Nat.lt_of_lt_of_le l (Nat.le_mul_of_pos_left _ (Nat.two_pow_pos n)))]
 refine(yap ?_).symm;have z:m % 2 ^ n < 2 ^ n:=Nat.mod_lt _ (Nat.two_pow_pos n)
 calc 2 ^ k*(m % 2 ^ n)+m / 2 ^ n < 2 ^ k*(m % 2 ^ n)+2 ^ k:=by omega
  _=2 ^ k*(m % 2 ^ n+1):=by rw[Nat.mul_add,Nat.mul_one]
  _<=2 ^ k*2 ^ n:=Nat.mul_le_mul_left _ z
  _=4294967296:=by rw[ybo,f]
theorem mP(x y:Nat):lo (Nat.xor x y)=Nat.xor (lo x) (lo y):=Nat.xor_mod_two_pow (n:=32)
theorem ZJI(x:yV)(n:Nat):lo (yai x.toNat n)=yai x.toNat n:=by
 rw[<-qj];exact gj (KD _)
theorem ZPt(x:yV){a b:yV}(ha:a.toNat=lo (yai (eD x.toNat) 7))(hb:b.toNat=lo (yai (eD x.toNat) 18)):((a^^^b)^^^gJ x 3).toNat=lo (s0 x.toNat):=by
 unfold s0;rw[kG,kG,qj,ha,hb,mP,mP,ZJI]
theorem ZPu(x:yV){a b:yV}(ha:a.toNat=lo (yai (eD x.toNat) 17))(hb:b.toNat=lo (yai (eD x.toNat) 19)):((a^^^b)^^^gJ x 10).toNat=lo (s1 x.toNat):=by
 unfold s1;rw[kG,kG,qj,ha,hb,mP,mP,ZJI]
theorem ZPv(x:yV){a b c:yV}(ha:a.toNat=lo (yai (eD x.toNat) 2))(hb:b.toNat=lo (yai (eD x.toNat) 13))(hc:c.toNat=lo (yai (eD x.toNat) 22)):((a^^^b)^^^c).toNat=lo (S0 x.toNat):=by
 unfold S0;rw[kG,kG,ha,hb,hc,mP,mP]
theorem ZPw(x:yV){a b c:yV}(ha:a.toNat=lo (yai (eD x.toNat) 6))(hb:b.toNat=lo (yai (eD x.toNat) 11))(hc:c.toNat=lo (yai (eD x.toNat) 25)):((a^^^b)^^^c).toNat=lo (S1 x.toNat):=by
 unfold S1;rw[kG,kG,ha,hb,hc,mP,mP]
theorem ZPx(e f g:yV):(g^^^(e&&&(f^^^g))).toNat=ch e.toNat f.toNat g.toNat:=by
 unfold ch;rw[kG,KC,kG]
theorem ZPy(a b c:yV):((a&&&b)|||(c&&&(a|||b))).toNat=mj a.toNat b.toNat c.toNat:=by
 unfold mj;rw[lI,KC,KC,lI]
theorem ZPz(a b c d:Nat):lo (lo (lo (a+lo b)+c)+lo d)=lo (a+b+c+d):=by
 show(((a+b % 4294967296) % 4294967296+c) % 4294967296+d % 4294967296) % 4294967296=(a+b+c+d) % 4294967296;omega
theorem ZPA(a b c d e:Nat):lo (lo (lo (lo (a+lo b)+c)+d)+e)=lo (yw (yw (yw (yw a b) c) d) e):=by
 show((((a+b % 4294967296) % 4294967296+c) % 4294967296+d) % 4294967296+e) % 4294967296=(a+b+c+d+e) % 4294967296;omega
theorem ZPB(t s m:Nat):lo (lo (lo t+lo s)+m)=lo (yw (yw t s) m):=by
 show((t % 4294967296+s % 4294967296) % 4294967296+m) % 4294967296=(t+s+m) % 4294967296;omega
theorem ZPC(d t:Nat):lo (d+lo t)=lo (yw d t):=by
 show(d+t % 4294967296) % 4294967296=(d+t) % 4294967296;omega
def pw(n:Nat)(l:yL Nat):Nat:=l.foldl (λn x=>n*4294967296+x) n
theorem KE:∀(l:yL Nat)(n:Nat),(∀x,x∈l->x < 4294967296)->pw n l / 2 ^ (32*l.length)=n
 |[],n,_=>by simp[pw]
 |x::r,n,h=>by
  have f:=KE r (n*4294967296+x) (λy g=>h y (List.mem_cons_of_mem _ g));have j:=h x (List.mem_cons_self ..);rw[show pw n (x::r)=pw (n*4294967296+x) r from rfl,yah,show 32*(r.length+1)=32*r.length+32 by omega,Nat.pow_add, <-Nat.div_div_eq_div_mul,f]
  omega
theorem xv:∀(l:yL Nat)(n:Nat),pw n l=n*2 ^ (32*l.length)+pw 0 l
 |[],n=>by simp[pw]
 |x::r,n=>by
  rw[show pw n (x::r)=pw (n*4294967296+x) r from rfl,show pw 0 (x::r)=pw (0*4294967296+x) r from rfl,xv r (n*4294967296+x),xv r (0*4294967296+x),yah,show 32*(r.length+1)=32+32*r.length by omega,Nat.pow_add,Nat.zero_mul,
   yax,Nat.add_mul, <-Nat.mul_assoc,Nat.add_assoc]
theorem ZMY:∀(l:yL Nat),(∀x,x∈l->x < 4294967296)->pw 0 l < 2 ^ (32*l.length)
 |[],_=>by simp[pw]
 |x::r,h=>by
  have g:=ZMY r (λy f=>h y (List.mem_cons_of_mem _ f));have j:=h x (List.mem_cons_self ..);rw[show pw 0 (x::r)=pw (0*4294967296+x) r from rfl,xv,yah,show 32*(r.length+1)=32+32*r.length by omega,Nat.pow_add,Nat.zero_mul,yax]
  have:(x+1)*2 ^ (32*r.length)<=2 ^ 32*2 ^ (32*r.length):=Nat.mul_le_mul_right _ (by omega);rw[Nat.add_mul,Nat.one_mul]at this;omega
theorem ZMZ{n x s:Nat}{r:yL Nat}(h:∀y,y∈r->y < 4294967296)(hs:s=32*r.length):yai (pw n (x::r)) s=n*4294967296+x:=by
 subst hs;rw[show yai (pw n (x::r)) (32*r.length)=pw n (x::r) >>> (32*r.length) from rfl,ydd]
 exact KE r (n*4294967296+x) h
theorem ZM0{n x s:Nat}{r:yL Nat}(f:x < 4294967296)(h:∀y,y∈r->y < 4294967296)(hs:s=32*r.length):lo (yai (pw n (x::r)) s)=x:=by
 rw[ZMZ h hs];show(n*4294967296+x) % 4294967296=x;omega
theorem KF(n:Nat)(l r:yL Nat):pw n (l++r)=pw (pw n l) r:=List.foldl_append ..
theorem ZFF(n x:Nat)(r:yL Nat):pw n (x::r)=pw (n*4294967296+x) r:=rfl
theorem mQ{v l r:yL Nat}{x s:Nat}(e:v=l++x::r)(h:∀y,y∈v->y < 4294967296)(hs:s=32*r.length):lo (yai (pw 0 v) s)=x:=by
 rw[e]at h ⊢;rw[KF];exact ZM0 (h x (by simp)) (λy f=>h y (by simp[f])) hs
def wd(ws:yL Nat)(n:Nat):Nat:=if h:n < 16 then lo (ws.getD n 0) else lo (wd ws (n - 16)+s0 (wd ws (n - 15))+wd ws (n - 7)+s1 (wd ws (n - 2)))
termination_by n
decreasing_by all_goals omega
theorem ZPD(ws:yL Nat)(n:Nat):wd ws n < 4294967296:=by
 rw[wd];split <;> exact ZMW _
theorem KG(ws:yL Nat)(n:Nat):wd ws (n+16)=lo (wd ws n+s0 (wd ws (n+1))+wd ws (n+9)+s1 (wd ws (n+14))):=by
 rw[wd,dif_neg (by omega)];simp only[Nat.add_sub_cancel,show n+16 - 15=n+1 by omega,show n+16 - 7=n+9 by omega,show n+16 - 2=n+14 by omega]
def win(ws:yL Nat)(i:Nat):yL Nat:=[wd ws i,wd ws (i+1),wd ws (i+2),wd ws (i+3),wd ws (i+4),wd ws (i+5),wd ws (i+6),wd ws (i+7),wd ws (i+8),wd ws (i+9),wd ws (i+10),wd ws (i+11),wd ws (i+12),wd ws (i+13),wd ws (i+14),wd ws (i+15)]
theorem KH{ws:yL Nat}{i:Nat}{l:yL Nat}(h:∀x,x∈l->∃j,x=wd ws j):∀x,x∈l->x < 4294967296:=λx f=>by
 obtain⟨j,rfl⟩:=h x f;exact ZPD _ _
theorem ZFG(ws:yL Nat)(i:Nat):yai (pw 0 (win ws i)) 480=wd ws i:=by
 have h:=ZMZ (n:=0) (x:=wd ws i) (s:=480) (r:=(win ws i).tail) (KH (ws:=ws) (i:=i) (λx f=>by
  simp only[win,List.tail_cons,ycc,List.not_mem_nil,or_false]at f;rcases f with h|h|h|h|h|h|h|h|h|h|h|h|h|h|h <;> exact⟨_,h⟩)) rfl
 rw[Nat.zero_mul,yax]at h;exact h
theorem ZOl(ws:yL Nat)(i:Nat):kw (pw 0 (win ws i))=wd ws (i+16):=by
 have f:∀(l r:yL Nat)(x s:Nat),win ws i=l++x::r->s=32*r.length->lo (yai (pw 0 (win ws i)) s)=x:=by
  intro l r x s e hs
  have g:∀y,y∈win ws i->y < 4294967296:=KH (i:=i) λx j=>by
   simp only[win,ycc,List.not_mem_nil,or_false]at j;rcases j with h|h|h|h|h|h|h|h|h|h|h|h|h|h|h|h <;> exact⟨_,h⟩
  rw[e]at g ⊢;rw[KF];exact ZM0 (g x (by simp)) (λy m=>g y (by simp[m])) hs
 unfold kw;rw[ZFG,f [_] _ (wd ws (i+1)) 448 rfl rfl,f [_,_,_,_,_,_,_,_,_] _ (wd ws (i+9)) 192 rfl rfl,f [_,_,_,_,_,_,_,_,_,_,_,_,_,_] _ (wd ws (i+14)) 32 rfl rfl,KG];rfl
theorem ZL8(a b m:Nat)(h:b < 2 ^ m):Nat.mod (a*2 ^ m+b) (Nat.pow 2 m)=b:=by
 show(a*2 ^ m+b) % 2 ^ m=b;rw[ybo,Nat.mul_add_mod];exact yap h
theorem ZOm(ws:yL Nat)(i:Nat):kn (pw 0 (win ws i))=pw 0 (win ws (i+1)):=by
 have e:yw (Nat.mul (pw 0 (win ws i)) 4294967296) (kw (pw 0 (win ws i)))=pw (wd ws i) (win ws (i+1)):=by
  rw[ZOl];show pw 0 (win ws i)*4294967296+wd ws (i+16)=pw (wd ws i) (win ws (i+1));rw[show wd ws i=0*4294967296+wd ws i by omega];rfl
 unfold kn;rw[e,xv];have j:(win ws (i+1)).length=16:=rfl
 have f:=ZMY (win ws (i+1)) (KH (i:=i+1) λx g=>by
  simp only[win,ycc,List.not_mem_nil,or_false]at g;rcases g with h|h|h|h|h|h|h|h|h|h|h|h|h|h|h|h <;> exact⟨_,h⟩)
 rw[show 512=32*(win ws (i+1)).length by rw[j]];exact ZL8 _ _ _ f
def oB(v:yL Nat)(k w:Nat):yL Nat:=match v with
 |[a,b,c,d,e,f,g,h]=>[lo (yw (yw (yw (yw (yw (yw h (S1 e)) (ch e f g)) k) w) (S0 a)) (mj a b c)),a,b,c,lo (yw d (yw (yw (yw (yw h (S1 e)) (ch e f g)) k) w)),e,f,g]
 |_=>[]
def rs(ws v:yL Nat):Nat->yL Nat
 |0=>v
 |i+1=>oB (rs ws v i) (ks.getD i 0) (wd ws i)
theorem ZL9{v:yL Nat}(h:v.length=8)(k w:Nat):(oB v k w).length=8:=by
 match v,h with
 |[a,b,c,d,e,f,g,h],_=>rfl
theorem xw{ws v:yL Nat}(h:v.length=8):∀i,(rs ws v i).length=8
 |0=>h
 |i+1=>ZL9 (xw h i) _ _
noncomputable def tn(f:Nat->Nat->Nat->Nat->Nat->Nat->Nat->Nat->Nat)(v:yL Nat):Nat:=match v with
 |[a,b,c,d,e,j,g,h]=>f a b c d e j g h
 |_=>0
theorem xx{F:Nat->Nat->Nat->Nat->Nat->Nat->Nat->Nat->Nat}{a b c d e f g h:Nat}:tn F [a,b,c,d,e,f,g,h]=F a b c d e f g h:=rfl
theorem ZJK(k:Nat)(l:yL Nat)(K:Nat->Nat->Nat->Nat->Nat->Nat->Nat->Nat->Nat):qi (k::l) K=xt k (qi l K):=rfl
theorem KI(a b c d e f g h k w:Nat):oB [a,b,c,d,e,f,g,h] k w=[lo (yw (yw (yw (yw (yw (yw h (S1 e)) (ch e f g)) k) w) (S0 a)) (mj a b c)),a,b,c,lo (yw d (yw (yw (yw (yw h (S1 e)) (ch e f g)) k) w)),e,f,g]:=rfl
theorem ZOn(k:Nat)(j:Nat->Nat->Nat->Nat->Nat->Nat->Nat->Nat->Nat->Nat)(W a b c d e f g h:Nat):xt k j W a b c d e f g h=
 j (kn W) (lo (yw (yw (yw (yw (yw (yw h (S1 e)) (ch e f g)) k) (yai W 480)) (S0 a)) (mj a b c))) a b c (lo (yw d (yw (yw (yw (yw h (S1 e)) (ch e f g)) k) (yai W 480)))) e f g:=by
 unfold xt;rw[Wg,Wg,Wg,Wg]
theorem ZJL{ws v:yL Nat}{K:Nat->Nat->Nat->Nat->Nat->Nat->Nat->Nat->Nat}{k w:Nat}{l:yL Nat}(hv:v.length=8){W:Nat}(j:yai W 480=w):tn (qi (k::l) K W) v=tn (qi l K (kn W)) (oB v k w):=by
 match v,hv with
 |[a,b,c,d,e,f,g,h],_=>
  rw[ZJK,xx,ZOn,j,KI,xx]
theorem ZFH{ws v:yL Nat}{K:Nat->Nat->Nat->Nat->Nat->Nat->Nat->Nat->Nat}(hv:v.length=8):∀(m i:Nat),i+m=64->tn (qi (ks.drop i) K (pw 0 (win ws i))) (rs ws v i)=tn K (rs ws v 64)
 |0,i,h=>by
  have e:i=64:=by omega
  subst e;rw[show ks.drop 64=[] from rfl]
  generalize pw 0 (win ws 64)=W
  rfl
 |m+1,i,h=>by
  have f:i < ks.length:=by show i < 64;omega
  rw[List.drop_eq_getElem_cons f,ZJL (ws:=ws) (xw hv i) (ZFG ws i),ZOm];have:=ZFH (ws:=ws) (K:=K) hv m (i+1) (by omega);rw[show rs ws v (i+1)=oB (rs ws v i) (ks.getD i 0) (wd ws i) from rfl,show ks.getD i 0=ks[i] by rw[ycu,List.getElem?_eq_getElem f];rfl]at this
  exact this
def fZ(v ws:yL Nat):yL Nat:=List.zipWith (λx y=>lo (x+y)) (rs ws v 64) v
theorem oC{v ws:yL Nat}(h:v.length=8):(fZ v ws).length=8:=by
 rw[fZ,List.length_zipWith,xw h,h];rfl
theorem ZFI{v ws:yL Nat}:∀x,x∈fZ v ws->x < 4294967296:=by
 intro x f;unfold fZ at f;rw[List.mem_iff_getElem]at f;obtain⟨i,g,rfl⟩:=f;rw[List.getElem_zipWith];exact ZMW _
theorem ZMa{v ws:yL Nat}(hv:v.length=8)(j:∀x,x∈v->x < 4294967296)(hw:ws.length=16)(F:∀x,x∈ws->x < 4294967296):xu (pw 0 v) (pw 0 ws)=pw 0 (fZ v ws):=by
 have e0:ws=win ws 0:=by
  match ws,hw with
  |[G,I,M,Q,R,S,T,U,W,X,m,y,z,A,B,E],_=>
   simp only[ycc,List.not_mem_nil,or_false,forall_eq_or_imp,forall_eq]at F;obtain⟨h0,h1,h2,h3,h4,h5,h6,h7,h8,h9,Y,Z,h12,h13,h14,h15⟩:=F;have hs:∀n,n < 16->wd [G,I,M,Q,R,S,T,U,W,X,m,y,z,A,B,E] n=lo ([G,I,M,Q,R,S,T,U,W,X,m,y,z,A,B,E].getD n 0):=λn hn=>by rw[wd,dif_pos hn]
   unfold win;rw[hs 0 (by omega),hs (0+1) (by omega),hs (0+2) (by omega),hs (0+3) (by omega),hs (0+4) (by omega),hs (0+5) (by omega),hs (0+6) (by omega),hs (0+7) (by omega),hs (0+8) (by omega),hs (0+9) (by omega),hs (0+10) (by omega),hs (0+11) (by omega),hs (0+12) (by omega),hs (0+13) (by omega),hs (0+14) (by omega),hs (0+15) (by omega)];show _=[lo G,lo I,lo M,lo Q,lo R,lo S,lo T,lo U,lo W,lo X,lo m,lo y,lo z,lo A,lo B,lo E];rw[gj h0,gj h1,gj h2,gj h3,gj h4,gj h5,gj h6,gj h7,gj h8,gj h9,gj Y,gj Z,gj h12,gj h13,gj h14,gj h15]
 match v,hv with
 |[a,b,c,d,e,f,g,h],hv=>
  have ea:w32 (pw 0 [a,b,c,d,e,f,g,h]) 224=a:=mQ (l:=[]) (r:=[b,c,d,e,f,g,h]) rfl j rfl;have eb:w32 (pw 0 [a,b,c,d,e,f,g,h]) 192=b:=mQ (l:=[a]) (r:=[c,d,e,f,g,h]) rfl j rfl;have ec:w32 (pw 0 [a,b,c,d,e,f,g,h]) 160=c:=mQ (l:=[a,b]) (r:=[d,e,f,g,h]) rfl j rfl;have ed:w32 (pw 0 [a,b,c,d,e,f,g,h]) 128=d:=mQ (l:=[a,b,c]) (r:=[e,f,g,h]) rfl j rfl;have ee:w32 (pw 0 [a,b,c,d,e,f,g,h]) 96=e:=mQ (l:=[a,b,c,d]) (r:=[f,g,h]) rfl j rfl;have ef:w32 (pw 0 [a,b,c,d,e,f,g,h]) 64=f:=mQ (l:=[a,b,c,d,e]) (r:=[g,h]) rfl j rfl;have eg:w32 (pw 0 [a,b,c,d,e,f,g,h]) 32=g:=mQ (l:=[a,b,c,d,e,f]) (r:=[h]) rfl j rfl;have eh:w32 (pw 0 [a,b,c,d,e,f,g,h]) 0=h:=mQ (l:=[a,b,c,d,e,f,g]) (r:=[]) rfl j rfl;unfold xu;rw[ea,eb,ec,ed,ee,ef,eg,eh,Wg,Wg,Wg,Wg,Wg,Wg,Wg,Wg];have hr:=ZFH (ws:=ws) (v:=[a,b,c,d,e,f,g,h]) (K:=λa' b' c' d' e' f' g' h'=>bn (bn (bn (bn (bn (bn (bn (bn 0 (yw a' a)) (yw b' b)) (yw c' c)) (yw d' d)) (yw e' e)) (yw f' f)) (yw g' g)) (yw h' h)) rfl 64 0 rfl;rw[<-e0,show ks.drop 0=ks from rfl,show rs ws [a,b,c,d,e,f,g,h] 0=[a,b,c,d,e,f,g,h] from rfl,xx]at hr
  rw[hr];unfold fZ;generalize rs ws [a,b,c,d,e,f,g,h] 64=q,xw (ws:=ws) hv 64=hq
  match q,hq with
  |[a',b',c',d',e',f',g',h'],_=>
   rw[xx];simp only[List.zipWith_cons_cons,List.zipWith_nil_right,ZFF,bn];rfl
theorem xy(x:Nat)(l:yL Nat)(n:Nat):pk (x::l) n=pk l (n*256+x):=by
 show fD (yw (Nat.mul n 256) x) (pk l)=_;rw[Wg];rfl
def Yi:yL Nat->yL Nat
 |a::b::c::d::r=>(((a*256+b)*256+c)*256+d)::Yi r
 |_=>[]
theorem ZCa:∀(m:Nat)(l:yL Nat)(n:Nat),l.length=4*m->pk l n=pw n (Yi l)
 |0,[],n,_=>rfl
 |0,_::_,_,h=>by simp at h
 |m+1,[],_,h=>by simp at h
 |m+1,[_],_,h=>by simp at h;omega
 |m+1,[_,_],_,h=>by simp at h;omega
 |m+1,[_,_,_],_,h=>by simp at h;omega
 |m+1,a::b::c::d::r,n,h=>by
  rw[xy,xy,xy,xy,Yi];rw[ZCa m r _ (by simp at h;omega),ZFF];have e:(((n*256+a)*256+b)*256+c)*256+d=n*4294967296+(((a*256+b)*256+c)*256+d):=by omega
  rw[e]
theorem ZsJ:∀(m:Nat)(l:yL Nat),l.length=4*m->(Yi l).length=m
 |0,[],_=>rfl
 |0,_::_,h=>by simp at h
 |m+1,[],h=>by simp at h
 |m+1,[_],h=>by simp at h;omega
 |m+1,[_,_],h=>by simp at h;omega
 |m+1,[_,_,_],h=>by simp at h;omega
 |m+1,a::b::c::d::r,h=>by
  rw[Yi,yah,ZsJ m r (by simp at h;omega)]
theorem Zvt:∀(m:Nat)(l:yL Nat),l.length=4*m->(∀x,x∈l->x < 256)->∀x,x∈Yi l->x < 4294967296
 |0,[],_,_,x,hx=>by simp[Yi]at hx
 |0,_::_,h,_,_,_=>by simp at h
 |m+1,[],h,_,_,_=>by simp at h
 |m+1,[_],h,_,_,_=>by simp at h;omega
 |m+1,[_,_],h,_,_,_=>by simp at h;omega
 |m+1,[_,_,_],h,_,_,_=>by simp at h;omega
 |m+1,a::b::c::d::r,h,f,x,hx=>by
  rw[Yi]at hx;have j:=f a (by simp);have z:=f b (by simp);have A:=f c (by simp);have B:=f d (by simp);rcases ycc.1 hx with rfl|hx
  .omega
  .exact Zvt m r (by simp at h;omega) (λy g=>f y (by simp[g])) x hx
theorem KJ:∀(i:Nat)(l:yL Nat)(a b c d:Nat),l[4*i]? =ab a->l[4*i+1]? =ab b->l[4*i+2]? =ab c->l[4*i+3]? =ab d->(Yi l)[i]? =ab (((a*256+b)*256+c)*256+d)
 |0,[],_,_,_,_,h,_,_,_=>by simp at h
 |0,[_],_,_,_,_,_,h,_,_=>by simp at h
 |0,[_,_],_,_,_,_,_,_,h,_=>by simp at h
 |0,[_,_,_],_,_,_,_,_,_,_,h=>by simp at h
 |0,a::b::c::d::r,_,_,_,_,f,g,j,m=>by
  simp at f g j m;subst f g j m
  rfl
 |i+1,[],_,_,_,_,h,_,_,_=>by simp at h
 |i+1,[_],_,_,_,_,h,_,_,_=>by simp[show 4*(i+1)=4*i+3+1 by omega]at h
 |i+1,[_,_],_,_,_,_,h,_,_,_=>by simp[show 4*(i+1)=4*i+2+1+1 by omega]at h
 |i+1,[_,_,_],_,_,_,_,h,_,_,_=>by simp[show 4*(i+1)=4*i+1+1+1+1 by omega]at h
 |i+1,a::b::c::d::r,_,_,_,_,f,g,j,m=>by
  rw[Yi,yaq]
  exact KJ i r _ _ _ _ (by simpa[show 4*(i+1)=4*i+1+1+1+1 by omega] using f) (by simpa[show 4*(i+1)+1=4*i+1+1+1+1+1 by omega] using g)
   (by simpa[show 4*(i+1)+2=4*i+2+1+1+1+1 by omega] using j) (by simpa[show 4*(i+1)+3=4*i+3+1+1+1+1 by omega] using m)
def fm:Nat->yL Nat->yL Nat->yL Nat
 |0,_,v=>v
 |n+1,l,v=>fm n (l.drop 64) (fZ v (Yi (l.take 64)))
theorem ZFJ:∀(n:Nat)(l v:yL Nat),l.length=64*n->(∀x,x∈l->x < 256)->v.length=8->(∀x,x∈v->x < 4294967296)->KA n l (pw 0 v)=pw 0 (fm n l v)
 |0,l,v,_,_,_,_=>rfl
 |n+1,l,v,y,h,j,m=>by
  show fD (xu (pw 0 v) (pk (l.take 64) 0)) (KA n (l.drop 64))=_;have f:(l.take 64).length=4*16:=by rw[yac];omega
  rw[Wg,ZCa 16 _ 0 f,ZMa j m (ZsJ 16 _ f) (Zvt 16 _ f λx g=>h x (List.mem_of_mem_take g))];exact ZFJ n (l.drop 64) _ (by rw[ybt];omega) (λx g=>h x (List.mem_of_mem_drop g)) (oC j) ZFI
theorem ZCb:∀(n:Nat)(l v:yL Nat),v.length=8->(fm n l v).length=8
 |0,_,_,h=>h
 |n+1,l,v,h=>ZCb n _ _ (oC h)
theorem ZFK:∀(n:Nat)(l v:yL Nat),(∀x,x∈v->x < 4294967296)->∀x,x∈fm n l v->x < 4294967296
 |0,_,_,h=>h
 |n+1,l,v,h=>ZFK n _ _ ZFI
theorem KK:∀(n m:Nat)(l r v:yL Nat),l.length=64*n->fm (n+m) (l++r) v=fm m r (fm n l v)
 |0,m,l,r,v,h=>by
  have:l=[]:=List.length_eq_zero_iff.1 (by omega);subst this;rw[yax]
  rfl
 |n+1,m,l,r,v,h=>by
  rw[show n+1+m=(n+m)+1 by omega,fm,List.drop_append_of_le_length (by omega),List.take_append_of_le_length (by omega),KK n m _ r _ (by rw[ybt];omega)];rfl
theorem xz:∀(c:Nat)(l v:yL Nat),fm (c+1) l v=fZ (fm c l v) (Yi ((l.drop (64*c)).take 64))
 |0,l,v=>by rw[Nat.mul_zero,List.drop_zero];rfl
 |c+1,l,v=>by
  rw[show fm (c+1+1) l v=fm (c+1) (l.drop 64) (fZ v (Yi (l.take 64))) from rfl,xz c,List.drop_drop,show 64+64*c=64*(c+1) by omega]
  rfl
theorem ZCc(ws:yL Nat){n x:Nat}(f:n < 16)(h:ws[n]? =ab x)(g:x < 4294967296):wd ws n=x:=by
 rw[wd,dif_pos f,ycu,h];exact gj g
def mR(v:yL Nat)(k:Nat):yB:=yar (v.getD (k / 4) 0 / 2 ^ (24 - 8*(k % 4)))
theorem ZMb{v:yL Nat}(hv:v.length=8)(z:∀x,x∈v->x < 4294967296):outs (pw 0 v) KB=(yn 32).map (mR v):=by
 have A:∀(H:Nat)(l:yL Nat),outs H l=l.map λs=>yar (H / 2 ^ s % 256):=by
  intro H l
  induction l with
  |nil=>rfl
  |cons s r E=>
   show fD (Nat.mod (yai H s) 256) (λx=>yar x::outs H r)=_;rw[Wg,E,yag,show yai H s=H >>> s from rfl,ydd]
   rfl
 have m:∀(l r:yL Nat)(x j s:Nat),v=l++x::r->j<=24->s=32*r.length+j->yar (pw 0 v / 2 ^ s % 256)=yar (x / 2 ^ j):=by
  intro l r x j s e M hs;have B:=z;rw[e]at B
  have F:pw 0 v / 2 ^ (32*r.length)=pw 0 l*4294967296+x:=by
   rw[e,KF];exact KE r _ (λy G=>B y (by simp[G]))
  rw[hs,Nat.pow_add, <-Nat.div_div_eq_div_mul,F]
  have I:pw 0 l*4294967296+x=2 ^ j*(pw 0 l*2 ^ (24 - j)*256)+x:=by
   rw[show(4294967296:Nat)=2 ^ j*2 ^ (24 - j)*256 by rw[<-Nat.pow_add,show j+(24 - j)=24 by omega]];congr 1;ac_rfl
  rw[I,Nat.mul_add_div (Nat.two_pow_pos j),ybo (pw 0 l*2 ^ (24 - j)) 256,Nat.mul_add_mod];exact UInt8.toNat_inj.1 (by simp)
 match v,hv with
 |[a,b,c,d,e,f,g,h],_=>
  rw[A];simp only[KB,yag,List.map_nil]
  rw[m [] [b,c,d,e,f,g,h] a 24 248 rfl (by omega) rfl,m [] [b,c,d,e,f,g,h] a 16 240 rfl (by omega) rfl,m [] [b,c,d,e,f,g,h] a 8 232 rfl (by omega) rfl,m [] [b,c,d,e,f,g,h] a 0 224 rfl (by omega) rfl,
   m [a] [c,d,e,f,g,h] b 24 216 rfl (by omega) rfl,m [a] [c,d,e,f,g,h] b 16 208 rfl (by omega) rfl,m [a] [c,d,e,f,g,h] b 8 200 rfl (by omega) rfl,m [a] [c,d,e,f,g,h] b 0 192 rfl (by omega) rfl,
   m [a,b] [d,e,f,g,h] c 24 184 rfl (by omega) rfl,m [a,b] [d,e,f,g,h] c 16 176 rfl (by omega) rfl,m [a,b] [d,e,f,g,h] c 8 168 rfl (by omega) rfl,m [a,b] [d,e,f,g,h] c 0 160 rfl (by omega) rfl,
   m [a,b,c] [e,f,g,h] d 24 152 rfl (by omega) rfl,m [a,b,c] [e,f,g,h] d 16 144 rfl (by omega) rfl,m [a,b,c] [e,f,g,h] d 8 136 rfl (by omega) rfl,m [a,b,c] [e,f,g,h] d 0 128 rfl (by omega) rfl,
   m [a,b,c,d] [f,g,h] e 24 120 rfl (by omega) rfl,m [a,b,c,d] [f,g,h] e 16 112 rfl (by omega) rfl,m [a,b,c,d] [f,g,h] e 8 104 rfl (by omega) rfl,m [a,b,c,d] [f,g,h] e 0 96 rfl (by omega) rfl,
   m [a,b,c,d,e] [g,h] f 24 88 rfl (by omega) rfl,m [a,b,c,d,e] [g,h] f 16 80 rfl (by omega) rfl,m [a,b,c,d,e] [g,h] f 8 72 rfl (by omega) rfl,m [a,b,c,d,e] [g,h] f 0 64 rfl (by omega) rfl,
   m [a,b,c,d,e,f] [h] g 24 56 rfl (by omega) rfl,m [a,b,c,d,e,f] [h] g 16 48 rfl (by omega) rfl,m [a,b,c,d,e,f] [h] g 8 40 rfl (by omega) rfl,m [a,b,c,d,e,f] [h] g 0 32 rfl (by omega) rfl,
   m [a,b,c,d,e,f,g] [] h 24 24 rfl (by omega) rfl,m [a,b,c,d,e,f,g] [] h 16 16 rfl (by omega) rfl,m [a,b,c,d,e,f,g] [] h 8 8 rfl (by omega) rfl,m [a,b,c,d,e,f,g] [] h 0 0 rfl (by omega) rfl]
  rfl
def jQ(l:yL yB):yL Nat:=l.map yaj++(128::(yx (zs l.length) 0++ij (8*l.length)))
def iJ:yL Nat:=[1779033703,3144134277,1013904242,2773480762,1359893119,2600822924,528734635,1541459225]
theorem Zvv(l:yL yB):(jQ l).length=64*((l.length+72) / 64):=by
 unfold jQ;simp only[yl,yaa,yah,yda,ij,List.length_nil,zs];omega
theorem ZG0(l:yL yB):∀x,x∈jQ l->x < 256:=by
 intro x f;unfold jQ at f;simp only[List.mem_append,List.mem_map,ycc,List.mem_replicate,ij,List.not_mem_nil,or_false]at f;rcases f with⟨y,_,rfl⟩|rfl|⟨_,rfl⟩|h
 .exact y.toNat_lt
 .omega
 .omega
 .rcases h with h|h|h|h|h|h|h|h <;> rw[h] <;> exact Nat.mod_lt _ (by omega)
theorem KL(l:yL yB):jP l=(yn 32).map (mR (fm ((l.length+72) / 64) (jQ l) iJ)):=by
 unfold jP
 rw[Wg,Wg,show H0=pw 0 iJ from rfl,show l.map yaj++(128::(yx (zs l.length) 0++ij (8*l.length)))=jQ l from rfl,
  show Nat.div (yw l.length 72) 64=(l.length+72) / 64 from rfl]
 have f:∀x,x∈iJ->x < 4294967296:=by decide
 rw[ZFJ _ _ _ (Zvv l) (ZG0 l) rfl f];exact ZMb (ZCb _ _ _ rfl) (ZFK _ _ _ f)
theorem ZQE(l:yL yB):(jP l).length=32:=by rw[KL];simp
end Go.Sha
end
section
set_option maxRecDepth 4000
namespace Go.Proofs.YtcbhhaigilifgaaGreat
open Go Go.Ev Go.Sha
theorem kH(x:yV)(n k:Nat)(h:n+k=32)(f:0 < n){z:Int}(hz:((dj z)&&&31).toNat=k):∃o,ZU yD x z=ab o/\o.toNat=lo (yai (eD x.toNat) n):=by
 refine⟨_,rfl, ?_⟩;have g:((((dj z)&&&31).toNat:Int)).toNat=k:=by rw[hz];rfl
 have j:(32 - ((dj z)&&&31)).toNat=n:=by
  have l:((dj z)&&&31)=yao k:=UInt64.toNat_inj.1 (by rw[hz,ybe];omega);rw[l,UInt64.toNat_sub,ybe];grind
 rw[g,show((((32 - ((dj z)&&&31)).toNat:Nat):Int)).toNat=n by rw[j];rfl,Nat.min_eq_left (by omega),Nat.min_eq_left (by omega)];exact ZMX x h f
theorem ZOo{l:yL yB}{a b c d:yB}(ha:l[0]? =ab a)(hb:l[1]? =ab b)(hc:l[2]? =ab c)(hd:l[3]? =ab d):∃o,xj yD l=ab o/\o.toNat=((a.toNat*256+b.toNat)*256+c.toNat)*256+d.toNat:=by
 unfold xj;rw[sW (i:=0) (by omega) ha,sW (i:=1) (by omega) hb,sW (i:=2) (by omega) hc,sW (i:=3) (by omega) hd];refine⟨_,rfl, ?_⟩;have j:=a.toNat_lt;have m:=b.toNat_lt;have y:=c.toNat_lt;have z:=d.toNat_lt
 have hs:∀(x:yB)(n:Nat),n<=24->(fP (UInt32.ofNat x.toNat) n).toNat=x.toNat*2 ^ n:=by
  intro x n A;have f:=x.toNat_lt;unfold fP;rw[ycp,ycp,yap (a:=x.toNat) (by omega)];refine yap ?_
  calc x.toNat*2 ^ n < 2 ^ 8*2 ^ n:=Nat.mul_lt_mul_of_pos_right f (Nat.two_pow_pos n)
   _=2 ^ (8+n):=(Nat.pow_add ..).symm
   _<=2 ^ 32:=Nat.pow_le_pow_right (by omega) (by omega)
 rw[lI,lI,lI,hs _ _ (by omega),hs _ _ (by omega),hs _ _ (by omega),ycp,yap (a:=d.toNat) (by omega)]
 have g:Nat.lor (a.toNat*2 ^ 24) (b.toNat*2 ^ 16)=2 ^ 16*(a.toNat*256+b.toNat):=by
  rw[ybo a.toNat,show Nat.lor (2 ^ 24*a.toNat) (b.toNat*2 ^ 16)=2 ^ 24*a.toNat|||b.toNat*2 ^ 16 from rfl, <-ycz (by omega)]
  omega
 have h:Nat.lor (2 ^ 16*(a.toNat*256+b.toNat)) (c.toNat*2 ^ 8)=2 ^ 8*((a.toNat*256+b.toNat)*256+c.toNat):=by
  rw[show Nat.lor (2 ^ 16*(a.toNat*256+b.toNat)) (c.toNat*2 ^ 8)=2 ^ 16*(a.toNat*256+b.toNat)|||c.toNat*2 ^ 8 from rfl, <-ycz (by omega)]
  omega
 rw[g,h,show Nat.lor (2 ^ 8*((a.toNat*256+b.toNat)*256+c.toNat)) d.toNat=2 ^ 8*((a.toNat*256+b.toNat)*256+c.toNat)|||d.toNat from rfl, <-ycz (by omega)]
 omega
theorem ZJN{l:yL yB}(h:l.length=64):∃o,xk yD l=ab o/\o.length=64/\∀(i:Nat)x,i < 64->o[i]? =ab x->x.toNat=wd (Yi (l.map yaj)) i:=by
 unfold xk;generalize hz:([0,0,0,0,0,0,0,0,0,0,0,0,0,0,0,0,0,0,0,0,0,0,0,0,0,0,0,0,0,0,0,0,0,0,0,0,0,0,0,0,0,0,0,0,0,0,0,0,0,0,0,0,0,0,0,0,0,0,0,0,0,0,0,0]:yL yV)=z;have M:z.length=64:=by rw[<-hz];rfl
 refine Exists.elim (VX (step:=QV yD) (λs=>s.1=l/\0<=s.2.1/\s.2.1<=64/\s.2.2.length=64/\∀(j:Nat)x,(j:Int) < s.2.1->s.2.2[j]? =ab x->x.toNat=wd (Yi (l.map yaj)) j) (λs=>(64 - s.2.1).toNat)
  (λo=>o.length=64/\∀(j:Nat)x,j < 64->o[j]? =ab x->x.toNat=wd (Yi (l.map yaj)) j) ?_ (l,(0:Int),z) ⟨rfl,Int.le_refl _,by dsimp only;omega,M,λj x hj=>by dsimp only at hj;omega⟩ (by dsimp only;omega)) ?_
 rotate_left
 .grind
 .rintro⟨b,i,w⟩ ⟨hb,Q,R,S,m⟩;dsimp only at hb Q R S m;subst hb;unfold QV;dsimp only
  have f:∀(y:yV),y.toNat=wd (Yi (b.map yaj)) i.toNat->i < 64->∀(j:Nat)x,(j:Int) < i+1->(w.set i.toNat y)[j]? =ab x->x.toNat=wd (Yi (b.map yaj)) j:=by
   all_goals grind
  by_cases T:i < 64
  .left;rw[yW (yY T)];obtain⟨e,he⟩:=jm (l:=w) (i:=i.toNat) (by omega);by_cases A:i < 16
   .rw[yW (yY A),ZY (z:=4*i) (by omega) (by omega),yW (by simp only[dL,yi,yP];omega)];have g:∀k:Nat,k < 4->∃x,b[4*i.toNat+k]? =ab x:=λk hk=>jm (by omega);obtain⟨x0,g0⟩:=g 0 (by omega);obtain⟨x1,g1⟩:=g 1 (by omega);obtain⟨x2,g2⟩:=g 2 (by omega);obtain⟨x3,g3⟩:=g 3 (by omega);have e4:(4*i).toNat=4*i.toNat:=by omega
    obtain⟨o,ho,U⟩:=ZOo (l:=b.drop (4*i).toNat) (by rw[List.getElem?_drop,e4];exact g0) (by rw[List.getElem?_drop,e4];exact g1) (by rw[List.getElem?_drop,e4];exact g2) (by rw[List.getElem?_drop,e4];exact g3);rw[ho,ya,yW (Wy Q (by omega)),he,ya,ZY (z:=i+1) (by omega) (by omega)];refine⟨_,rfl,⟨rfl,by dsimp only;omega,by dsimp only;omega,by dsimp only;rw[ybp];exact S,f o ?_ T⟩,by dsimp only;omega⟩;have I:∀(k:Nat)(x:yB),b[k]? =ab x->(b.map yaj)[k]? =ab x.toNat:=λk x hx=>by rw[yak,hx];rfl
    have W:=KJ i.toNat (b.map yaj) _ _ _ _ (I _ _ g0) (I _ _ g1) (I _ _ g2) (I _ _ g3);rw[U];have b0:=x0.toNat_lt;have b1:=x1.toNat_lt;have b2:=x2.toNat_lt;have b3:=x3.toNat_lt;exact(ZCc _ (by omega) W (by omega)).symm
   .rw[yX (by simpa using A)];rw[ZY (z:=i - 15) (by omega) (by omega),ZY (z:=i - 2) (by omega) (by omega),ZY (z:=i - 16) (by omega) (by omega),ZY (z:=i - 7) (by omega) (by omega),ZY (z:=i+1) (by omega) (by omega)];obtain⟨X,B⟩:=jm (l:=w) (i:=(i - 15).toNat) (by omega);obtain⟨Y,E⟩:=jm (l:=w) (i:=(i - 2).toNat) (by omega);obtain⟨e3,F⟩:=jm (l:=w) (i:=(i - 16).toNat) (by omega);obtain⟨e4,G⟩:=jm (l:=w) (i:=(i - 7).toNat) (by omega);have v1:=m _ _ (by omega) B;have v2:=m _ _ (by omega) E;have v3:=m _ _ (by omega) F;have v4:=m _ _ (by omega) G;rw[yW (Wy (by omega) (by omega)),B,ya,yW (Wy (by omega) (by omega)),E,ya];obtain⟨o1,Z,p1⟩:=kH X 7 25 rfl (by omega) (z:= -7) rfl;obtain⟨o2,ho2,p2⟩:=kH X 18 14 rfl (by omega) (z:= -18) rfl;obtain⟨o3,ho3,p3⟩:=kH Y 17 15 rfl (by omega) (z:= -17) rfl;obtain⟨o4,ho4,p4⟩:=kH Y 19 13 rfl (by omega) (z:= -19) rfl;rw[Z,ya,ho2,ya,ho3,ya,ho4,ya];rw[yW (Wy (by omega) (by omega)),F,ya,yW (Wy (by omega) (by omega)),G,ya]
    try dsimp only
    rw[yW (Wy Q (by omega)),he,ya];refine⟨_,rfl,⟨rfl,by dsimp only;omega,by dsimp only;omega,by dsimp only;rw[ybp];exact S,f _ ?_ T⟩,by dsimp only;omega⟩;have hn:=KG (Yi (b.map yaj)) (i - 16).toNat
    rw[show(i - 16).toNat+16=i.toNat by omega,show(i - 16).toNat+1=(i - 15).toNat by omega,show(i - 16).toNat+9=(i - 7).toNat by omega,show(i - 16).toNat+14=(i - 2).toNat by omega, <-v1, <-v2, <-v3, <-v4]at hn;rw[hn];rw[fy,fy,fy,ZPt X p1 p2,ZPu Y p3 p4];exact ZPz ..
  grind
theorem ZJO{st:yL yV}{l:yL yB}(hs:st.length=8)(h:l.length=64):∃o,QA yD st l=ab o/\o.map yam=fZ (st.map yam) (Yi (l.map yaj)):=by
 unfold QA;obtain⟨w,hw,hwl,U⟩:=ZJN h;obtain⟨k,hk,hkv⟩:∃k,JW yD=ab k/\k.map yam=ks:=⟨_,rfl,rfl⟩;have hkl:k.length=64:=by rw[<-yaa (f:=yam),hkv];rfl
 generalize hws:Yi (l.map yaj)=m at U;rw[hw,ya,hk,ya]
 refine Exists.elim (VX (step:=Qg yD) (λs=>0<=s.1/\s.1<=64/\s.2.1=st/\s.2.2.2.1=w/\s.2.2.2.2.1=k/\s.2.2.2.2.2.length=8/\s.2.2.2.2.2.map yam=rs m (st.map yam) s.1.toNat) (λs=>(64 - s.1).toNat)
  (λo=>o.1=st/\o.2.2.2.2.length=8/\o.2.2.2.2.map yam=rs m (st.map yam) 64) ?_ ((0:Int),st,([0,0,0,0,0,0,0,0]:yL yV),w,k,st) ⟨Int.le_refl _,by dsimp only;omega,rfl,rfl,rfl,hs,rfl⟩ (by dsimp only;omega)) ?_
 rotate_left
 .rintro o ⟨h1,p0,p1,p2⟩;rw[h1,ya];have hml:(fZ (st.map yam) m).length=8:=oC (by rw[yaa];exact hs)
  refine Exists.elim (VX (step:=Qh yD) (λs=>0<=s.1/\s.1<=8/\s.2.1=st/\s.2.2.2.2.2.length=8/\(∀(j:Nat)x,s.2.2.2.2.2[j]? =ab x->if(j:Int) < s.1 then(fZ (st.map yam) m)[j]? =ab x.toNat else(rs m (st.map yam) 64)[j]? =ab x.toNat)) (λs=>(8 - s.1).toNat)
   (λo=>o.2.2.2.2.map yam=fZ (st.map yam) m) ?_ ((0:Int),o.1,o.2.1,o.2.2.1,o.2.2.2.1,o.2.2.2.2) ⟨Int.le_refl _,by dsimp only;omega,p0,p1,λj x M=>by
     dsimp only at M ⊢;rw[yX (by omega), <-p2,yak,M];rfl⟩ (by dsimp only;omega)) ?_
  rotate_left
  .grind
  .rintro⟨i,a,b,c,d,e⟩ ⟨Q,h8,W,X,I⟩;dsimp only at Q h8 W X I;subst W;unfold Qh;dsimp only;by_cases Y:i < 8
   .left;obtain⟨E,y⟩:=jm (l:=e) (i:=i.toNat) (by omega);obtain⟨F,A⟩:=jm (l:=a) (i:=i.toNat) (by omega);simp only[yY Y,if_true,Wy Q (show i < ((8:Nat):Int) by omega),y,A,ya];rw[ZY (z:=i+1) (by omega) (by omega)];refine⟨_,rfl,⟨by dsimp only;omega,by dsimp only;omega,rfl,by dsimp only;rw[ybp];exact X, ?_⟩,by dsimp only;omega⟩;intro j x M;dsimp only at M ⊢;by_cases hji:j=i.toNat
    .subst hji;rw[List.getElem?_set_self (by omega)]at M;cases M;rw[yW (by omega),fy];have k1:=I _ _ y;rw[yX (by omega)]at k1;unfold fZ;grind
    grind
   .right;rw[yX (by simpa using Y)];refine⟨_,rfl, ?_⟩;dsimp only;apply List.ext_getElem?
    all_goals grind
 .rintro⟨i,a,b,c,d,e⟩ ⟨Q,h64,W,hc,hd,X,I⟩;dsimp only at Q h64 W hc hd X I;subst W hc hd;unfold Qg;dsimp only;by_cases Y:i < 64
  .left
   match e,X,I with
   |[G,x1,x2,x3,g,S,B,T],_,I=>
    obtain⟨E,y⟩:=jm (l:=d) (i:=i.toNat) (by omega);obtain⟨F,A⟩:=jm (l:=c) (i:=i.toNat) (by omega);obtain⟨o1,Z,p1⟩:=kH g 6 26 rfl (by omega) (z:= -6) rfl;obtain⟨o2,ho2,p2⟩:=kH g 11 21 rfl (by omega) (z:= -11) rfl;obtain⟨o3,ho3,p3⟩:=kH g 25 7 rfl (by omega) (z:= -25) rfl;obtain⟨o4,ho4,p4⟩:=kH G 2 30 rfl (by omega) (z:= -2) rfl;obtain⟨o5,ho5,p5⟩:=kH G 13 19 rfl (by omega) (z:= -13) rfl;obtain⟨o6,ho6,p6⟩:=kH G 22 10 rfl (by omega) (z:= -22) rfl;generalize ZU yD=R at Z ho2 ho3 ho4 ho5 ho6 ⊢;rw[yW (yY Y)];simp only[List.getElem?_cons_zero,yaq];rw[ya,Z,ya,ya,ho2,ya,ya,ho3,ya,ya,ya,ya,ya,ya];rw[yW (Wy Q (show i < ((64:Nat):Int) by omega)),y,ya,yW (Wy Q (show i < ((64:Nat):Int) by omega)),A,ya,ya,ho4,ya,ya,ho5,ya,ya,ho6];rw[ya,ya,ya,ya,ya,ya];rw[ya,ya,ya,ya,ya,ya,ya];rw[ZY (z:=i+1) (by omega) (by omega)];refine⟨_,rfl,⟨by dsimp only;omega,by dsimp only;omega,rfl,rfl,rfl,rfl, ?_⟩,by dsimp only;omega⟩;dsimp only;rw[show(i+1).toNat=i.toNat+1 by omega,show rs m (a.map yam) (i.toNat+1)=oB (rs m (a.map yam) i.toNat) (ks.getD i.toNat 0) (wd m i.toNat) from rfl, <-I]
    have hk1:ks.getD i.toNat 0=E.toNat:=by
     grind
    rw[hk1, <-U i.toNat F (by omega) A];simp only[yag,List.map_nil];rw[KI]
    have kt:((T+((o1^^^o2)^^^o3))+(B^^^(g&&&(S^^^B)))+E+F).toNat=lo (yw (yw (yw (yw T.toNat (S1 g.toNat)) (ch g.toNat S.toNat B.toNat)) E.toNat) F.toNat):=by
     rw[fy,fy,fy,fy,ZPw g p1 p2 p3,ZPx];exact ZPA ..
    have ka:((T+((o1^^^o2)^^^o3))+(B^^^(g&&&(S^^^B)))+E+F+((o4^^^o5)^^^o6)+((G&&&x1)|||(x2&&&(G|||x1)))).toNat=lo (yw (yw (yw (yw (yw (yw T.toNat (S1 g.toNat)) (ch g.toNat S.toNat B.toNat)) E.toNat) F.toNat) (S0 G.toNat)) (mj G.toNat x1.toNat x2.toNat)):=by
     rw[fy,fy,kt,ZPv G p4 p5 p6,ZPy];exact ZPB ..
    have ke:(x3+(((T+((o1^^^o2)^^^o3))+(B^^^(g&&&(S^^^B))))+E+F)).toNat=lo (yw x3.toNat (yw (yw (yw (yw T.toNat (S1 g.toNat)) (ch g.toNat S.toNat B.toNat)) E.toNat) F.toNat)):=by
     rw[fy,kt];exact ZPC ..
    rw[ka,ke]
  .right;rw[yX (by simpa using Y)];grind
def eU(n:Nat):yL yB:=(ij n).map yar
theorem KM{n:Nat}{b:yL yB}(h:b.length<=1000000000000):VH yD (n:Int) b=ab (b++eU n):=by
 unfold VH
 obtain⟨o,A,B⟩:=VX (step:=xn yD) (λs=>∃k:Nat,k<=8/\s.1=(n:Int)/\s.2.1=56 - 8*(k:Int)/\s.2.2.1=b++(eU n).take k) (λs=>(s.2.1+8).toNat) (λo=>o.1=b++eU n) (by
  rintro⟨a,i,c,d⟩ ⟨k,I,y,E,j⟩;dsimp only at y E j;subst y;unfold xn;dsimp only;have F:c.length<=b.length+8:=by rw[j,yl,yac];omega
  by_cases l:i >= 0
  .left;rw[yW (yY l),yW (yY l),yW (ZT (by omega) (by omega)),ZY (z:=i - 8) (by omega) (by omega)];refine⟨_,rfl,⟨k+1,by omega,rfl,by dsimp only;omega, ?_⟩,by dsimp only;omega⟩;dsimp only
   have G:∀m:Nat,w8 (Int.fdiv (n:Int) (2 ^ m))=yar (n / 2 ^ m % 256):=by
    intro m;unfold w8;rw[Int.fdiv_eq_ediv_of_nonneg _ (by exact Int.le_of_lt (Int.pow_pos (by omega)))];congr 1
   have g:min i.toNat 64=56 - 8*k:=by omega
   rw[g,G,j,yab];congr 1;have f:k < 8:=by omega
   match k,f with
   |0,_=>rfl
   |1,_=>rfl
   |2,_=>rfl
   |3,_=>rfl
   |4,_=>rfl
   |5,_=>rfl
   |6,_=>rfl
   |7,_=>
    show _++[yar (n / 2 ^ 0 % 256)]=_;rw[Nat.pow_zero,Nat.div_one];rfl
  .right;rw[yX (by simpa using l)];have f:k=8:=by omega
   subst f;exact⟨_,rfl,j⟩) (((n:Int),(56:Int),b,([]:yL yB))) ⟨0,by omega,rfl,by simp,by simp⟩ (by dsimp only;omega)
 rw[A,ya,B]
theorem ZOp{l:yL yB}(h:l.length<=4294967296):tm yD l=ab (jP l):=by
 unfold tm
 have hm:Int.tmod (l.length:Int) 64=((l.length % 64:Nat):Int):=by
  rw[Int.tmod_eq_emod_of_nonneg (by omega)];omega
 have hlt:l.length % 64 < 64:=Nat.mod_lt _ (by omega);have hle:l.length % 64<=l.length:=Nat.mod_le _ _;rw[hm,ZY (z:=(l.length:Int) - ((l.length % 64:Nat):Int)) (by omega) (by omega)];dsimp only;rw[yW (by simp only[dL,yi,yP];omega)];have hq:((l.length:Int) - ((l.length % 64:Nat):Int)).toNat=64*(l.length / 64):=by omega
 rw[hq]
 have S:(l.drop (64*(l.length / 64))).length=l.length % 64:=by
  rw[ybt];omega
 generalize ht:l.drop (64*(l.length / 64))=t at S
 have T:Yg yD t=ab t:=by
  unfold Yg;rw[yW (ZT (by omega) (by omega))]
 rw[T,ya,yW (ZT (by omega) (by omega))];generalize hz:dn=z;have hzl:z.length=32:=by rw[<-hz];rfl
 have hzs:zs l.length=(119 - t.length) % 64:=by unfold zs;rw[S]
 obtain⟨o,h1,p1,p2,p3⟩:=VX (step:=xm yD) (λs=>s.1=l/\s.2.1=z/\∃j,j<=zs l.length/\s.2.2=t++([128]:yL yB)++yx j 0) (λs=>184 - s.2.2.length)
  (λo=>o.1=l/\o.2.1=z/\o.2.2=t++([128]:yL yB)++yx (zs l.length) 0) (by
  rintro⟨a,b,c⟩ ⟨g,M,j,y,G⟩;dsimp only at g M y G;have T:c.length=t.length+1+j:=by rw[G,yl,yl,yda];rfl
  unfold xm;dsimp only
  have hm:Int.tmod (c.length:Int) 64=((c.length % 64:Nat):Int):=by
   rw[Int.tmod_eq_emod_of_nonneg (by omega)];omega
  rw[hm];by_cases B:c.length % 64=56
  .right;rw[yX (by simp;omega)];have:j=zs l.length:=by omega
   subst this;exact⟨_,rfl,g,M,G⟩
  .left;rw[yW (by simp;omega),yW (ZT (by omega) (by omega))];have I:j≠zs l.length:=λe=>B (by omega);refine⟨_,rfl,⟨g,M,j+1,by omega, ?_⟩, ?_⟩
   .dsimp only;rw[G,yab,List.replicate_succ',yab]
   .dsimp only;rw[yl,ydb];omega) (l,z,t++([128]:yL yB)) ⟨rfl,rfl,0,Nat.zero_le _,by simp⟩ (by dsimp only;omega)
 rw[h1,ya,p1,p2,p3,ZY (z:=8*(l.length:Int)) (by omega) (by omega),show 8*(l.length:Int)=((8*l.length:Nat):Int) by omega,KM (by
  rw[yl,yl,yda];simp;omega),ya]
 obtain⟨f,hf,U⟩:∃f,JU yD=ab f/\f.map yam=iJ:=⟨_,rfl,rfl⟩;have hf8:f.length=8:=by rw[<-yaa (f:=yam),U];rfl
 rw[hf,ya];generalize hE:t++([128]:yL yB)++yx (zs l.length) 0++eU (8*l.length)=E
 have hEl:E.length=64*((t.length+72) / 64):=by
  rw[<-hE];simp only[yl,yda,ydb,eU,yaa,ij,yah,List.length_nil];omega
 obtain⟨o3,h3,r1,r2,r3,r4⟩:=VX (step:=xo yD) (λs=>s.2.1=z/\s.2.2.1=E/\s.2.2.2.length=8/\∃c,c<=l.length / 64/\s.1=l.drop (64*c)/\s.2.2.2.map yam=fm c (l.map yaj) iJ) (λs=>s.1.length)
  (λx=>x.1=z/\x.2.1=E/\x.2.2.length=8/\x.2.2.map yam=fm (l.length / 64) (l.map yaj) iJ) (by
  rintro⟨a,b,c,d⟩ ⟨g,M,y,j,G,F,Q⟩;dsimp only at g M y G F Q;have hal:a.length=l.length - 64*j:=by rw[F,ybt]
  unfold xo;dsimp only;by_cases B:(a.length:Int) >= 64
  .left;obtain⟨m,R,A⟩:=ZJO (st:=d) (l:=a.take 64) y (by rw[yac];omega);rw[yW (yY B),yW (by simp only[dL,yi,yP];omega),R,ya,yW (by simp only[dL,yi,yP];omega)];refine⟨_,rfl,⟨g,M, ?_,j+1,by omega, ?_, ?_⟩,by dsimp only;rw[ybt];omega⟩
   .dsimp only;rw[<-yaa (f:=yam),A];exact oC (by rw[yaa];exact y)
   .dsimp only;rw[F,List.drop_drop];congr 1
   .dsimp only;rw[A,xz,Q,F,List.map_take,List.map_drop]
  .right;rw[yX (by simpa using B)];have:j=l.length / 64:=by omega
   subst this;exact⟨_,rfl,g,M,y,Q⟩) (l,z,E,f) ⟨rfl,rfl,hf8,0,Nat.zero_le _,by simp,U⟩ (by dsimp only;omega)
 rw[h3,ya,r1,r2];generalize hv1:fm (l.length / 64) (l.map yaj) iJ=v1 at r4
 obtain⟨W,h4,s1,s2,s3⟩:=VX (step:=xq yD) (λs=>s.2.1=z/\s.2.2.2.length=8/\∃c,c<=E.length / 64/\s.1=E.drop (64*c)/\s.2.2.2.map yam=fm c (E.map yaj) v1) (λs=>s.1.length)
  (λx=>x.1=z/\x.2.2.length=8/\x.2.2.map yam=fm (E.length / 64) (E.map yaj) v1) (by
  rintro⟨a,b,c,d⟩ ⟨g,y,j,G,F,Q⟩;dsimp only at g y G F Q;have hal:a.length=E.length - 64*j:=by rw[F,ybt]
  unfold xq;dsimp only;by_cases B:(a.length:Int) > 0
  .left;obtain⟨m,R,A⟩:=ZJO (st:=d) (l:=a.take 64) y (by rw[yac];omega);rw[yW (yY B),yW (by simp only[dL,yi,yP];omega),R,ya,yW (by simp only[dL,yi,yP];omega)];refine⟨_,rfl,⟨g, ?_,j+1,by omega, ?_, ?_⟩,by dsimp only;rw[ybt];omega⟩
   .dsimp only;rw[<-yaa (f:=yam),A];exact oC (by rw[yaa];exact y)
   .dsimp only;rw[F,List.drop_drop];congr 1
   .dsimp only;rw[A,xz,Q,F,List.map_take,List.map_drop]
  .right;rw[yX (by simpa using B)];have:j=E.length / 64:=by omega
   subst this;exact⟨_,rfl,g,y,Q⟩) (E,z,E,o3.2.2) ⟨rfl,r3,0,Nat.zero_le _,by simp,r4⟩ (by dsimp only;omega)
 rw[h4,ya];generalize hv2:fm (E.length / 64) (E.map yaj) v1=v2 at s3
 obtain⟨o5,h5,t1,t2⟩:=VX (step:=xr yD) (λs=>0<=s.1/\s.1<=32/\s.2.1.length=32/\s.2.2.2=W.2.2/\∀(j:Nat),(j:Int) < s.1->s.2.1[j]? =ab (Go.Sha.mR v2 j)) (λs=>(32 - s.1).toNat)
  (λx=>x.1.length=32/\∀(j:Nat),j < 32->x.1[j]? =ab (Go.Sha.mR v2 j)) (by
  rintro⟨i,a,b,c⟩ ⟨h0,h32,ha,hc,X⟩;dsimp only at h0 h32 ha hc X;subst hc;unfold xr;dsimp only;by_cases B:i < 32
  .left;rw[yW (yY B)];have e1:Int.tdiv i 4=i / 4:=Int.tdiv_eq_ediv_of_nonneg h0;have e2:Int.tmod i 4=i % 4:=Int.tmod_eq_emod_of_nonneg h0;rw[e1,e2,ZY (z:=i / 4) (by omega) (by omega),ZY (z:=8*(i % 4)) (by omega) (by omega),ZY (z:=24 - 8*(i % 4)) (by omega) (by omega),ZY (z:=i+1) (by omega) (by omega)];obtain⟨x1,Y⟩:=jm (l:=W.2.2) (i:=(i / 4).toNat) (by omega);obtain⟨x2,hx2⟩:=jm (l:=a) (i:=i.toNat) (by omega);rw[yW (Wy (by omega) (by omega)),Y,ya,yW (yY (by omega))]
   try dsimp only
   rw[yW (Wy (by omega) (by omega)),hx2,ya];refine⟨_,rfl,⟨by dsimp only;omega,by dsimp only;omega,by dsimp only;rw[ybp];exact ha,rfl, ?_⟩,by dsimp only;omega⟩;intro j I;dsimp only at I ⊢;by_cases Z:j=i.toNat
   .subst Z;rw[List.getElem?_set_self (by omega)];congr 1;unfold Go.Sha.mR
    have hx:v2.getD (i.toNat / 4) 0=x1.toNat:=by
     rw[<-s3,ycu,yak,show i.toNat / 4=(i / 4).toNat by omega,Y];rfl
    rw[hx,show min (24 - 8*(i % 4)).toNat 32=24 - 8*(i.toNat % 4) by omega,qj];unfold w8;have e3:∀m:Nat,(((m:Nat):Int) % 256).toNat=m % 256:=λm=>by omega
    rw[e3,show yai x1.toNat (24 - 8*(i.toNat % 4))=x1.toNat >>> (24 - 8*(i.toNat % 4)) from rfl,ydd]
    exact UInt8.toNat_inj.1 (by simp)
   .rw[List.getElem?_set_ne (Ne.symm Z)];exact X j (by omega)
  .right;rw[yX (by simpa using B)];exact⟨_,rfl,ha,λj I=>X j (by omega)⟩) ((0:Int),W.1,W.2.1,W.2.2) ⟨Int.le_refl _,by dsimp only;omega,by dsimp only;rw[s1];exact hzl,rfl,λj I=>by dsimp only at I;omega⟩ (by dsimp only;omega)
 rw[h5,ya,KL];congr 1
 have hpad:jQ l=(l.take (64*(l.length / 64))).map yaj++E.map yaj:=by
  unfold jQ;rw[<-hE, <-ht];simp only[yat,List.map_replicate,yag,List.map_nil,eU,List.map_map];rw[<-yab, <-yab, <-yab, <-yat,ybg]
  have:ij (8*l.length)=(ij (8*l.length)).map (yaj ∘ yar):=by
   simp[ij]
  rw[<-this];simp
 have hw:((l.take (64*(l.length / 64))).map yaj).length=64*(l.length / 64):=by
  rw[yaa,yac];omega
 have X:v2=fm ((l.length+72) / 64) (jQ l) iJ:=by
  rw[hpad,show(l.length+72) / 64=l.length / 64+E.length / 64 by omega,KK _ _ _ _ _ hw, <-hv2, <-hv1];congr 1;have:=KK (l.length / 64) 0 _ ((l.drop (64*(l.length / 64))).map yaj) iJ hw;rw[<-yat,ybg,ych]at this;exact this
 rw[<-X];apply List.ext_getElem?;intro j;by_cases I:j < 32
 .rw[t2 j I,yak,List.getElem?_range I];rfl
 .rw[ybk (by omega),ybk (by simp;omega)]
noncomputable def tp(F:Nat)(a0:yL yB):yO aQa:=if ag (a0.length<=4294967296)=ae then ab (jP a0) else tm F a0
noncomputable def ZCd(F:Nat):Fs yb:={ JZ F with M:=λx=>tp F x}
noncomputable def Zvw:Fs yb:=ZCd yD
theorem ZCe:Zvw.Ok:=ov (s:=JZ yD) ZzZ λx=>by
 show tp yD x=tm yD x;unfold tp;split
 .rename_i h;exact(ZOp (yF h)).symm
 .rfl
theorem ZMc{l:yL yB}(h:l.length<=4294967296):tp yD l=ab (jP l):=yW (yY h)
end Go.Proofs.YtcbhhaigilifgaaGreat
end
section
set_option maxRecDepth 4000
namespace Go.Proofs.YtcbhhaigilifgaaGreat
open Go Go.Ev
noncomputable section
def Zjs:Fs yb:=⟨149,[.nil .u8,.v yI],[],[yI],tk.xs,λx=>tk.M (x,([]:yL yB))⟩
theorem Zqp:Zjs.Ok:=ZN6 (i1:=[yI]) (i2:=[yI,aQb]) (λx=>(x,([]:yL yB))) JY (λ_=>rfl) (λ_=>⟨_,rfl⟩)
abbrev _root_.aQB:=yL aQa
def qk(F:Nat):(aQB×Int×Int×aQa×aQa)->yO ((aQB×Int×Int×aQa×aQa)⊕(aQa×aQa))
 |(c,b,a,e,d)=>
 if(ag (a < b))=ae then
  (idx c a).bind λf=>
  (VH F (f.length:Int) d).bind λg=>
  if(cf g.length f.length 1)=ae then
   ab (.inl (c,b,wi (a+1),e,g++f))
  else
  ad
 else
 ab (.inr (e,d))
abbrev _root_.aQA:Go.Ev.Ty:=.sl aQb
def ZsK:Lp:=⟨[(4,.aj 0 []),(5,.own 1 .u8),(13,.v aQA),(14,.v yI),(15,.v yI)],zJ,[aQA,yI,yI,aQe,aQb],[⟨.exit 0,[(4,.aj 0 []),(5,.own 1 .u8)],zJ,[aQe,aQb]⟩],Zd (qk yD) yD⟩
def xA:HI:={ own:=[5,10,12,19,22,24],still:=[9,19,21,26]}
theorem Zvx:ZsK.bt yb 76 0:=Zt xA [] [tk] ⟨JY,ao⟩
def QJ(F:Nat)(a0:ByteArray)(a1:aQB):yO (aQa):=
 (VH F (a0.size:Int) []).bind λa=>
 if(cf a.length ((fX a0).length) 1)=ae then
  (Zd (qk F) F (a1,(a1.length:Int),0,dn,a++(fX a0))).bind λb=>
  (tp F b.2).bind λc=>
  ab c
 else
 ad
def mS:Fs yb:=⟨76,[.v .str,.v aQA],[],[.str,aQA],(zN aQe),λx=>QJ yD x.1 x.2⟩
theorem oD:mS.Ok:=aQ xA [(0,ZsK)] [Zjs,Zvw] ⟨Zqp,ZCe,ao⟩ ⟨Zvx,ao⟩
def XA(F:Nat):(aQB×Int×aQB×Int×Int)->yO ((aQB×Int×aQB×Int×Int)⊕(aQB×Int))
 |(e,d,c,b,a)=>
 if(ag (a < b))=ae then
  (idx c a).bind λf=>
  if(ag ((wi (d+(f.length:Int))) < 0))=ae then
   ad
  else
  ab (.inl (e,wi (d+(f.length:Int)),c,b,wi (a+1)))
 else
 ab (.inr (e,d))
def Zal:Lp:=⟨[(0,.v aQA),(3,.v yI),(9,.v aQA),(10,.v yI),(11,.v yI)],[],[aQA,yI,aQA,yI,yI],[⟨.exit 0,[(0,.v aQA),(3,.v yI)],[],[aQA,yI]⟩],Zd (XA yD) yD⟩
def hi3:HI:={ own:=[6,24,31,33],still:=[2,23]}
theorem Zer:Zal.bt yb 199 0:=Zt hi3 [] [] trivial
def ZbT:Fs yb:=⟨221,[.nil .u8,.v yI],[],[.int .i64],[⟨.ret,[(0,.own 0 .u8)],[.log .u8 5],[.sl .u8]⟩],om⟩
theorem Ziw:ZbT.Ok:=ZLV ZJw
def XB(F:Nat)(s:(aQB×Int×Int×aQa)):yO ((aQB×Int×Int×aQa)⊕aQa):=
 if(ag (s.2.2.1 < s.2.1))=ae then
  (idx s.1 s.2.2.1).bind λa=>
  if(cf s.2.2.2.length a.length 1)=ae then
   ab (.inl (s.1,s.2.1,wi (s.2.2.1+1),s.2.2.2++a))
  else
  ad
 else
 ab (.inr s.2.2.2)
def Zam:Lp:=⟨[(6,.own 0 .u8),(25,.v aQA),(26,.v yI),(27,.v yI)],[.log .u8 5],[aQA,yI,yI,aQb],[⟨.exit 2,[(6,.own 0 .u8)],[.log .u8 5],[aQb]⟩],Zd (XB yD) yD⟩
theorem Zes:Zam.bt yb 199 1:=Zt hi3 [] [] trivial
def Xf(F:Nat)(a0:aQB):yO (aQa):=
 (Zd (XA F) F (a0,0,a0,(a0.length:Int),0)).bind λa=>
 (om a.2).bind λb=>
 (Zd (XB F) F (a.1,(a.1.length:Int),0,b)).bind λc=>
 ab c
def Va:Fs yb:=⟨199,[.v aQA],[],[aQA],(zN aQb),λx=>Xf yD x⟩
theorem Zan:Va.Ok:=aQ hi3 [(0,Zal),(1,Zam)] [ZbT] ⟨Ziw,ao⟩ ⟨Zer,Zes,ao⟩
def oE(F:Nat)(a0:aQa)(a1:aQa):yO (aQa):=
 (Xf F [a0,a1]).bind λa=>
 ab a
def xB:Fs yb:=⟨165,[.v aQb,.v aQb],[],[aQb,aQb],(zN aQb),λx=>oE yD x.1 x.2⟩
theorem KN:xB.Ok:=aQ { still:=[4,7]} [] [Va] ⟨Zan,ao⟩
def xC(F:Nat)(s:(Int×aQa)):yO ((Int×aQa)⊕(Int×aQa)):=
 if(ag (s.1 >= 128))=ae then
  if(cf s.2.length 1 1)=ae then
   let a:aQa:=s.2++([w8 (wi ((Int.tmod s.1 128)+128))]:yL yB)
   ab (.inl (wi (Int.tdiv s.1 128),a))
  else
  ad
 else
 ab (.inr (s.1,s.2))
def ZsL:Lp:=⟨[(0,.v yI),(3,.own 0 .u8)],[.log .u8 5],[yI,aQb],[⟨.exit 0,[(0,.v yI),(3,.own 0 .u8)],[.log .u8 5],[yI,aQb]⟩],Zd (xC yD) yD⟩
def hi4:HI:={ own:=[3,8,14,15,19],still:=[2]}
theorem Zvy:ZsL.bt yb 166 0:=Zt hi4 [] [] trivial
def tq(F:Nat)(a0:Int):yO (aQa):=
 (Zd (xC F) F (a0,[])).bind λa=>
 if(cf a.2.length 1 1)=ae then
  ab (a.2++([w8 a.1]:yL yB))
 else
 ad
def KO:Fs yb:=⟨166,[.v yI],[],[yI],(zN aQb),λx=>tq yD x⟩
theorem ZsM:KO.Ok:=aQ hi4 [(0,ZsL)] [] trivial ⟨Zvy,ao⟩
def Wq(F:Nat)(a0:aQa)(a1:Int):yO (aQa):=
 if(ag (a1 < 0))=ae then
  (oE F a0 []).bind λa=>
  ab a
 else
 (tq F a1).bind λb=>
 (oE F a0 b).bind λc=>
 ab c
def oF:Fs yb:=⟨96,[.v aQb,.v yI],[],[aQb,yI],(zN aQb),λx=>Wq yD x.1 x.2⟩
theorem ql:oF.Ok:=aQ { still:=[4,7,9,10,11]} [] [xB,KO] ⟨KN,ZsM,ao⟩
def xD(F:Nat)(a0:aQa)(a1:aQa):yO (aQa):=
 (oE F a0 a1).bind λa=>
 ab a
def Zmo:Fs yb:=⟨151,[.v aQb,.v aQe],[],[aQb,aQe],(zN aQb),λx=>xD yD x.1 x.2⟩
theorem Zto:Zmo.Ok:=aQ { still:=[4,5,6],dX:=[6]} [] [xB] ⟨KN,ao⟩
def xE(F:Nat)(a0:aQa)(a1:aQa):yO (aQa):=
 (tq F (a1.length:Int)).bind λa=>
 (Xf F [a0,a,a1]).bind λb=>
 ab b
def Zlf:Fs yb:=⟨152,[.v aQb,.v aQb],[],[aQb,aQb],(zN aQb),λx=>xE yD x.1 x.2⟩
theorem ZrU:Zlf.Ok:=aQ { still:=[4,7,10]} [] [KO,Va] ⟨ZsM,Zan,ao⟩
def xF(F:Nat)(s:(aQa×yU×Int×aQa)):yO ((aQa×yU×Int×aQa)⊕(aQa×aQa)):=
 if(ag (s.2.2.1 < 8))=ae then
  if(ag (0<=wi (56 - (wi (8*s.2.2.1)))))=ae then
   let a:yU:=ZE s.2.1 (min (wi (56 - (wi (8*s.2.2.1)))).toNat 64)
   if(bi s.2.2.1 8)=ae then
    (s.2.2.2[s.2.2.1.toNat]?).bind λb=>
    let c:aQa:=s.2.2.2.set s.2.2.1.toNat (w8 (a.toNat:Int))
    ab (.inl (s.1,s.2.1,wi (s.2.2.1+1),c))
   else
   ad
  else
  ad
 else
 ab (.inr (s.1,s.2.2.2))
abbrev _root_.aQy:Go.Ev.Ty:=.arr 8 .u8
def Zmp:Lp:=⟨[(0,.v aQb),(1,.v .u64),(5,.aj 0 []),(7,.v yI)],[.var (.v aQy) ae],[aQb,.u64,yI,aQy],[⟨.exit 0,[(0,.v aQb),(5,.aj 0 [])],[.var (.v aQy) ae],[aQb,aQy]⟩],Zd (xF yD) yD⟩
theorem Zqq:Zmp.bt yb 97 0:=Zt { still:=[4,19,20],dX:=[20]} [] [] trivial
def Vl(F:Nat)(a0:aQa)(a1:yU):yO (aQa):=
 (Zd (xF F) F (a0,a1,0,[0,0,0,0,0,0,0,0])).bind λa=>
 (oE F a.1 a.2).bind λb=>
 ab b
def tx:Fs yb:=⟨97,[.v aQb,.v .u64],[],[aQb,.u64],(zN aQb),λx=>Vl yD x.1 x.2⟩
theorem xG:tx.Ok:=aQ { still:=[4,19,20],dX:=[20]} [(0,Zmp)] [xB] ⟨KN,ao⟩ ⟨Zqq,ao⟩
def tz(F:Nat):(aQa×aQu×Int×Int×aQq×Int×Int×ZC×ZW)->yO ((aQa×aQu×Int×Int×aQq×Int×Int×ZC×ZW)⊕(aQa×aQu×Int×Int×ZC×ZW))
 |(d,e,f,g,c,b,a,h,i)=>
 if(ag (a < b))=ae then
  (idx c a).bind λj=>
  (Vl F d j).bind λk=>
  ab (.inl (k,e,f,g,c,b,wi (a+1),h,i))
 else
 ab (.inr (d,e,f,g,h,i))
abbrev tL0:yL Ty:=[aQb,aQw,yI,yI,aQk,yI,yI,Zv,ZB]
def Zop:Lp:=⟨[(3,.v aQb),(5,.aj 1 []),(16,.v aQw),(17,.v yI),(18,.v yI),(28,.v aQk),(29,.v yI),(30,.v yI)],[.var (.v Zv) ae,.var (.v ZB) ae],tL0,[⟨.exit 2,[(3,.v aQb),(5,.aj 1 []),(16,.v aQw),(17,.v yI),(18,.v yI)],[.var (.v Zv) ae,.var (.v ZB) ae],[aQb,aQw,yI,yI,Zv,ZB]⟩],Zd (tz yD) yD⟩
def hi5:HI:={ still:=[2,8,13,22,25,34,35,38,40,41,43,44,46]}
theorem ZrV:Zop.bt yb 153 1:=Zt hi5 [] [tx] ⟨xG,ao⟩
def xH(F:Nat):(aQa×aQu×Int×Int×ZC)->yO ((aQa×aQu×Int×Int×ZC)⊕(aQa×ZC))
 |(j,i,h,g,k)=>
 if(ag (g < h))=ae then
  (idx i g).bind λl=>
  (Wq F j (l.1.length:Int)).bind λm=>
  (Zd (tz F) F (m,i,h,g,l.1,(l.1.length:Int),0,k,l)).bind λ(a,c,d,e,f,b)=>
  (Wq F a b.2.1).bind λn=>
  (Wq F n b.2.2.1).bind λo=>
  (Vl F o b.2.2.2).bind λp=>
  ab (.inl (p,c,d,wi (e+1),f))
 else
 ab (.inr (j,k))
def Zoq:Lp:=⟨[(3,.v aQb),(16,.v aQw),(17,.v yI),(18,.v yI)],[.var (.v Zv) ae],[aQb,aQw,yI,yI,Zv],[⟨.exit 0,[(3,.v aQb)],[.var (.v Zv) ae],[aQb,Zv]⟩],Zd (xH yD) yD⟩
theorem ZrW:Zoq.bt yb 153 0:=Zt hi5 [(1,Zop)] [oF,tx] ⟨ql,xG,ao⟩ ⟨ZrV,ao⟩
def qm(F:Nat)(a0:ZC):yO (aQa):=
 (We F a0).bind λa=>
 if(!a)=ae then
  ab []
 else
 (Wq F [] (a0.length:Int)).bind λb=>
 (Zd (xH F) F (b,a0,(a0.length:Int),0,a0)).bind λc=>
 ab c.1
def xI:Fs yb:=⟨153,[.v Zv],[],[Zv],(zN aQb),λx=>qm yD x⟩
theorem KP:xI.Ok:=aQ hi5 [(0,Zoq)] [qf,oF] ⟨tg,ql,ao⟩ ⟨ZrW,ao⟩
def xJ(F:Nat):(aQa×aQm×Int×Int×Tx)->yO ((aQa×aQm×Int×Int×Tx)⊕(aQa×Tx))
 |(d,c,b,a,e)=>
 if(ag (a < b))=ae then
  (idx c a).bind λf=>
  (xD F d f.1.1).bind λg=>
  (Wq F g f.1.2).bind λh=>
  ab (.inl (h,c,b,wi (a+1),e))
 else
 ab (.inr (d,e))
def ZsN:Lp:=⟨[(1,.aj 0 []),(3,.v aQb),(13,.v aQi),(14,.v yI),(15,.v yI)],[.var (.v aJ) ae],[aQb,aQi,yI,yI,aJ],[⟨.exit 0,[(1,.aj 0 []),(3,.v aQb)],[.var (.v aJ) ae],[aQb,aJ]⟩],Zd (xJ yD) yD⟩
def KQ:HI:={ still:=[2,10,19,22,23,26,29,32,41,43,44,46,47,50,52]}
theorem Zvz:ZsN.bt yb 77 0:=Zt KQ [] [Zmo,oF] ⟨Zto,ql,ao⟩
def xK(F:Nat):(aQa×aQr×Int×Int×Tx)->yO ((aQa×aQr×Int×Int×Tx)⊕(aQa×Tx))
 |(d,c,b,a,e)=>
 if(ag (a < b))=ae then
  (idx c a).bind λf=>
  (Wq F d f.1).bind λg=>
  (qm F f.2).bind λh=>
  (xE F g h).bind λi=>
  ab (.inl (i,c,b,wi (a+1),e))
 else
 ab (.inr (d,e))
def ZsO:Lp:=⟨[(1,.aj 0 []),(3,.v aQb),(35,.v aQp),(36,.v yI),(37,.v yI)],[.var (.v aJ) ae],[aQb,aQp,yI,yI,aJ],[⟨.exit 2,[(1,.aj 0 []),(3,.v aQb)],[.var (.v aJ) ae],[aQb,aJ]⟩],Zd (xK yD) yD⟩
theorem ZvA:ZsO.bt yb 77 1:=Zt KQ [] [oF,xI,Zlf] ⟨ql,KP,ZrU,ao⟩
def tA(F:Nat)(a0:Tx):yO (aQa):=
 (Wq F [] (a0.1.length:Int)).bind λa=>
 (Zd (xJ F) F (a,a0.1,(a0.1.length:Int),0,a0)).bind λb=>
 (Wq F b.1 (b.2.2.1.length:Int)).bind λc=>
 (Zd (xK F) F (c,b.2.2.1,(b.2.2.1.length:Int),0,b.2)).bind λd=>
 (Wq F d.1 d.2.2.2).bind λe=>
 ab e
def KR:Fs yb:=⟨77,[.v aJ],[],[aJ],(zN aQb),λx=>tA yD x⟩
theorem ZsP:KR.Ok:=aQ KQ [(0,ZsN),(1,ZsO)] [oF] ⟨ql,ao⟩ ⟨Zvz,ZvA,ao⟩
def ZM1:ByteArray:=⟨#[116,120]⟩
def dW(F:Nat)(a0:Tx):yO (aQa):=
 (lH F a0).bind λa=>
 if(!a)=ae then
  ab dn
 else
 (tA F a0).bind λb=>
 (QJ F ZM1 [b]).bind λc=>
 ab c
def KS(F:Nat):Fs yb:=⟨33,[.v aJ],[],[aJ],(zN aQe),λx=>dW F x⟩
def KT:Fs yb:=KS yD
theorem KU:KT.Ok:=aQ { still:=[3,7,9]} [] [tj,KR,mS] ⟨xi,ZsP,oD,ao⟩
def qn(F:Nat):(Int×Int×Tx×(yL ZO)×aQa)->yO ((Int×Int×Tx×(yL ZO)×aQa)⊕(Tx×(yL ZO)×aQa))
 |(b,a,e,c,d)=>
 if(ag (a < b))=ae then
  if(cf c.length 1 40)=ae then
   let f:(yL ZO):=c++([(d,a)]:yL ZO)
   ab (.inl (b,wi (a+1),e,f,d))
  else
  ad
 else
 ab (.inr (e,c,d))
def ZvD:Lp:=⟨[(2,.own 1 ZQ),(3,.aj 2 []),(12,.v yI),(13,.v yI)],[.var (.v aJ) ae,.log ZQ 25,.var (.v aQe) ae],[yI,yI,aJ,(.sl ZQ),aQe],[⟨.exit 0,[(2,.own 1 ZQ)],[.var (.v aJ) ae,.log ZQ 25,.var (.v aQe) ae],[aJ,(.sl ZQ),aQe]⟩],Zd (qn yD) yD⟩
def tB:HI:={ own:=[2,16,21,23],still:=[2,5,7]}
theorem Zw3:ZvD.bt yb 19 0:=Zt tB [] [] trivial
def xL(F:Nat)(a0:Tx):yO ((yL ZO)):=
 (dW F a0).bind λa=>
 (lH F a0).bind λb=>
 if(!b)=ae then
  ab []
 else
 (Zd (qn F) F ((a0.2.1.length:Int),0,a0,[],a)).bind λc=>
 ab c.2.1
def Zyb:Fs yb:=⟨19,[.v aJ],[],[aJ],(zN (.sl ZQ)),λx=>xL yD x⟩
theorem ZEn:Zyb.Ok:=aQ tB [(0,ZvD)] [KT,tj] ⟨KU,xi,ao⟩ ⟨Zw3,ao⟩
def xM(F:Nat):(Int×aQn×Int×Int×yG)->yO ((Int×aQn×Int×Int×yG)⊕(Int×yG))
 |(d,c,b,a,e)=>
 if(ag (a < b))=ae then
  (idx c a).bind λf=>
  ab (.inl (wi (d+f.2.2.1),c,b,wi (a+1),e))
 else
 ab (.inr (d,e))
def Zmq:Lp:=⟨[(3,.v yI),(14,.v aQj),(15,.v yI),(16,.v yI)],[.var (.v Zc) ae],[yI,aQj,yI,yI,Zc],[⟨.exit 0,[(3,.v yI)],[.var (.v Zc) ae],[yI,Zc]⟩],Zd (xM yD) yD⟩
theorem Zqs:Zmq.bt yb 21 0:=Zt { still:=[2]} [] [] trivial
def xN(F:Nat)(a0:yG):yO (Int):=
 (a0.2.1[0]?).bind λa=>
 (a0.2.1[1]?).bind λb=>
 (Zd (xM F) F (wi (a+b),a0.2.2.1,(a0.2.2.1.length:Int),0,a0)).bind λc=>
 ab c.1
def Zor:Fs yb:=⟨21,[.v Zc],[],[Zc],(zN yI),λx=>xN yD x⟩
theorem ZvE:Zor.Ok:=aQ { still:=[2]} [(0,Zmq)] [] trivial ⟨Zqs,ao⟩
def Wh(F:Nat)(a0:Int)(a1:Int)(a2:Int):yO (Bool):=
 if(ag (a1<=a0))=ae then
  ab (ag (a0<=a2))
 else
 ab af
def Zlg:Fs yb:=⟨156,[.v yI,.v yI,.v yI],[],[yI,yI,yI],(zN .bool),λx=>Wh yD x.1 x.2.1 x.2.2⟩
theorem ZrX:Zlg.Ok:=aQ { still:=[6]} [] [] trivial
abbrev iK:Ty:=(.st [yI,yI,yI,yI,yI,yI])
abbrev bD:Type:=(Int×Int×Int×Int×Int×Int)
def xO(F:Nat)(a0:bD):yO (Bool):=
 (Wh F a0.1 0 65536).bind λa=>
 if a=ae then
  (Wh F a0.2.2.1 1 4096).bind λb=>
  if b=ae then
   (Wh F a0.2.2.2.1 0 16).bind λc=>
   if c=ae then
    (Wh F a0.2.1 a0.1 1125899906842624).bind λd=>
    if d=ae then
     (Wh F a0.2.2.2.2.1 1 1125899906842624).bind λe=>
     if e=ae then
      (Wh F a0.2.2.2.2.2 0 1125899906842624).bind λf=>
      ab f
     else
     ab af
    else
    ab af
   else
   ab af
  else
  ab af
 else
 ab af
def Zos:Fs yb:=⟨83,[.v iK],[],[iK],(zN .bool),λx=>xO yD x⟩
def hi8:HI:={ still:=[2,7,12,18,25,27,33,39]}
theorem ZvF:Zos.Ok:=aQ hi8 [] [Zlg] ⟨ZrX,ao⟩
def xP(F:Nat)(a0:yU):yO (Bool):=
 if(a0==1)=ae then
  ab ae
 else
 (XD F a0).bind λa=>
 ab (!a)
def Zjv:Fs yb:=⟨157,[.v .u64],[],[.u64],(zN .bool),λx=>xP yD x⟩
theorem Zqt:Zjv.Ok:=aQ { still:=[2,6]} [] [VG] ⟨VZ,ao⟩
abbrev jR:Ty:=(.st [.u64,.u64,.u64,.u64,.u64])
abbrev bp:Type:=(yU×yU×yU×yU×yU)
abbrev bp.Cond(x:bp):yU:=x.2.2.2.1
def Wi(F:Nat)(s:(aQq×Int×Int)):yO ((aQq×Int×Int)⊕(Int⊕Unit)):=
 if(ag (s.2.2 < s.2.1))=ae then
  (idx s.1 s.2.2).bind λa=>
  (xP F a).bind λb=>
  if b=ae then
   ab (.inr (.inl s.2.2))
  else
  ab (.inl (s.1,s.2.1,wi (s.2.2+1)))
 else
 ab (.inr (.inr ()))
def Zfl:Lp:=⟨[(0,.v aQk),(1,.fn 157 []),(7,.v yI),(8,.v yI)],[],[aQk,yI,yI],[⟨.ret,[(4,.v yI)],[],[yI]⟩,⟨.exit 0,[],[],[]⟩],Zd (Wi yD) yD⟩
theorem Zkz:Zfl.bt yb 196 0:=Zt { still:=[4,15]} [] [Zjv] ⟨Zqt,ao⟩
def KV(F:Nat)(a0:aQq):yO (Int):=
 (Zd (Wi F) F (a0,(a0.length:Int),0)).bind λa=>
 match a with
 |.inl b=>
  ab b
 |.inr c=>
  ab (-1)
def ZgT:Fs yb:=⟨196,[.v aQk,.fn 157 []],[],[aQk],(zN yI),λx=>KV yD x⟩
theorem ZnW:ZgT.Ok:=aQ { still:=[4,15]} [(0,Zfl)] [] trivial ⟨Zkz,ao⟩
def KW(F:Nat)(a0:aQq):yO (Bool):=
 (KV F a0).bind λa=>
 ab (ag (a >= 0))
def Zmr:Fs yb:=⟨147,[.v aQk,.fn 157 []],[],[aQk],(zN .bool),λx=>KW yD x⟩
theorem Ztp:Zmr.Ok:=aQ { still:=[4,5,6]} [] [ZgT] ⟨ZnW,ao⟩
def xQ(F:Nat)(a0:bp):yO (Bool):=
 (KW F [a0.1,a0.2.1,a0.2.2.1,a0.2.2.2.1,a0.2.2.2.2]).bind λa=>
 ab (!a)
def Zms:Fs yb:=⟨84,[.v jR],[],[jR],(zN .bool),λx=>xQ yD x⟩
theorem Ztq:Zms.Ok:=aQ { still:=[2,14,15]} [] [Zmr] ⟨Ztp,ao⟩
abbrev Zf:Ty:=(.st [ZQ,yI,(.arr 2 jR),(.arr 2 iK),yI])
abbrev Chan:Type:=(ZO×Int×(yL bp)×(yL bD)×Int)
abbrev Chan.bp(x:Chan):(yL bp):=x.2.2.1
abbrev Chan.bD(x:Chan):(yL bD):=x.2.2.2.1
def QK(F:Nat)(s:((yL bD)×Int×Chan)):yO (((yL bD)×Int×Chan)⊕((Int×Chan)⊕Chan)):=
 if(ag (s.2.1 < 2))=ae then
  (idx s.1 s.2.1).bind λa=>
  (xO F a).bind λb=>
  if(!b)=ae then
   ab (.inr (.inl (1,s.2.2)))
  else
  if(bi s.2.1 2)=ae then
   (s.2.2.2.2.1[s.2.1.toNat]?).bind λc=>
   (xQ F c).bind λd=>
   if(!d)=ae then
    ab (.inr (.inl (1,s.2.2)))
   else
   ab (.inl (s.1,wi (s.2.1+1),s.2.2))
  else
  ad
 else
 ab (.inr (.inr s.2.2))
def Zqu:Lp:=⟨[(1,.aj 0 []),(34,.v (.arr 2 iK)),(35,.v yI)],[.var (.v Zf) ae],[(.arr 2 iK),yI,Zf],[⟨.ret,[(2,.v yI)],[.var (.v Zf) ae],[yI,Zf]⟩,⟨.exit 0,[(1,.aj 0 [])],[.var (.v Zf) ae],[Zf]⟩],Zd (QK yD) yD⟩
theorem Ztr:Zqu.bt yb 40 0:=Zt { still:=[2,39,46,55,59]} [] [Zos,Zms] ⟨ZvF,Ztq,ao⟩
def tC(F:Nat)(a0:Chan):yO (Int):=
 if(ag (a0.2.1 < 1))=ae then
  ab 1
 else
 if(ag (a0.2.1 > 1125899906842624))=ae then
  ab 1
 else
 if(ag (a0.1.2 < 0))=ae then
  ab 1
 else
 if(ag (a0.1.2 >= 64))=ae then
  ab 1
 else
 if((bits .andNot .i64 a0.2.2.2.2 1)!=0)=ae then
  ab 1
 else
 (Zd (QK F) F (a0.2.2.2.1,0,a0)).bind λa=>
 match a with
 |.inl b=>
  ab b.1
 |.inr c=>
  (c.2.2.2.1[0]?).bind λd=>
  (c.2.2.2.1[1]?).bind λe=>
  (oz F d.2.1 e.2.1).bind λf=>
  if(!f.2)=ae then
   ab 10
  else
  if(ag (f.1 > c.2.1))=ae then
   ab 10
  else
  ab 0
def KX:Fs yb:=⟨40,[.v Zf],[],[Zf],(zN yI),λx=>tC yD x⟩
theorem Zqv:KX.Ok:=aQ { still:=[2,39,46,55,59]} [(0,Zqu)] [JT] ⟨Zvo,ao⟩ ⟨Ztr,ao⟩
def xR(F:Nat)(a0:Int)(s0:Int)(s1:Int):yO ((Bool×Int×Int)):=
 if(ag (a0 < s0))=ae then
  ab (ae,s0,s1)
 else
 ab (ag (a0 > s1),s0,s1)
def Zjw:Fs yb:=⟨120,[.v yI,.aj 0 [],.aj 1 []],[.var (.v yI) ae,.var (.v yI) ae],[yI,yI,yI],[⟨.ret,[(0,.v .bool)],[.var (.v yI) ae,.var (.v yI) ae],[.bool,yI,yI]⟩],λx=>xR yD x.1 x.2.1 x.2.2⟩
theorem Zqw:Zjw.Ok:=aQ { still:=[4]} [] [] trivial
def ZX(F:Nat):(aQo×Int×Int×Int×Int)->yO ((aQo×Int×Int×Int×Int)⊕((Int×Int×Int)⊕(Int×Int)))
 |(c,b,a,d,e)=>
 if(ag (a < b))=ae then
  (idx c a).bind λf=>
  (xR F f d e).bind λg=>
  if g.1=ae then
   ab (.inr (.inl (a,g.2.1,g.2.2)))
  else
  ab (.inl (c,b,wi (a+1),g.2.1,g.2.2))
 else
 ab (.inr (.inr (d,e)))
abbrev _root_.aQz:Go.Ev.Ty:=.sl yI
def QW:Lp:=⟨[(0,.v aQz),(1,.fn 120 [.aj 0 [],.aj 1 []]),(7,.v yI),(8,.v yI)],[.var (.v yI) ae,.var (.v yI) ae],[aQz,yI,yI,yI,yI],[⟨.ret,[(4,.v yI)],[.var (.v yI) ae,.var (.v yI) ae],[yI,yI,yI]⟩,⟨.exit 0,[],[.var (.v yI) ae,.var (.v yI) ae],[yI,yI]⟩],Zd (ZX yD) yD⟩
theorem ZdH:QW.bt yb 181 0:=Zt { still:=[4,15]} [] [Zjw] ⟨Zqw,ao⟩
def XP(F:Nat)(a0:aQo)(s0:Int)(s1:Int):yO ((Int×Int×Int)):=
 (Zd (ZX F) F (a0,(a0.length:Int),0,s0,s1)).bind λa=>
 match a with
 |.inl b=>
  ab (b.1,b.2.1,b.2.2)
 |.inr c=>
  ab ((-1),c.1,c.2)
def Zap:Fs yb:=⟨181,[.v aQz,.fn 120 [.aj 0 [],.aj 1 []]],[.var (.v yI) ae,.var (.v yI) ae],[aQz,yI,yI],[⟨.ret,[(0,.v yI)],[.var (.v yI) ae,.var (.v yI) ae],[yI,yI,yI]⟩],λx=>XP yD x.1 x.2.1 x.2.2⟩
theorem Zf6:Zap.Ok:=aQ { still:=[4,15]} [(0,QW)] [] trivial ⟨ZdH,ao⟩
def Xh(F:Nat)(a0:aQo)(s0:Int)(s1:Int):yO ((Bool×Int×Int)):=
 (XP F a0 s0 s1).bind λa=>
 ab (ag (a.1 >= 0),a.2.1,a.2.2)
def V9:Fs yb:=⟨119,[.v aQz,.fn 120 [.aj 0 [],.aj 1 []]],[.var (.v yI) ae,.var (.v yI) ae],[aQz,yI,yI],[⟨.ret,[(0,.v .bool)],[.var (.v yI) ae,.var (.v yI) ae],[.bool,yI,yI]⟩],λx=>Xh yD x.1 x.2.1 x.2.2⟩
theorem ZdI:V9.Ok:=aQ { still:=[4,5,6]} [] [Zap] ⟨Zf6,ao⟩
def Ya(F:Nat)(a0:Int)(a1:Int)(a2:aQo):yO (Bool):=
 (Xh F a2 a0 a1).bind λa=>
 ab (!a.1)
def KY:Fs yb:=⟨59,[.v yI,.v yI,.v aQz],[],[yI,yI,aQz],(zN .bool),λx=>Ya yD x.1 x.2.1 x.2.2⟩
theorem Zlh:KY.Ok:=aQ { still:=[6,7,8]} [] [V9] ⟨ZdI,ao⟩
def tD(F:Nat)(a0:Cond):yO (Bool):=
 (Ya F 0 1 [a0.1]).bind λa=>
 if a=ae then
  (Ya F 1 1048576 [a0.2.1]).bind λb=>
  if b=ae then
   (Ya F 1 1125899906842624 [a0.2.2.1]).bind λc=>
   if c=ae then
    (Ya F 1 1048576 [a0.2.2.2.2]).bind λd=>
    if d=ae then
     (XD F a0.2.2.2.1).bind λe=>
     if e=ae then
      ab (a0.2.2.2.1 !=1)
     else
     ab af
    else
    ab af
   else
   ab af
  else
  ab af
 else
 ab af
def KZ:Fs yb:=⟨60,[.v Zy],[],[Zy],(zN .bool),λx=>tD yD x⟩
theorem Zot:KZ.Ok:=aQ { still:=[2,5,10,16,22,27]} [] [KY,VG] ⟨Zlh,VZ,ao⟩
def V0(F:Nat)(s:(Int×aQo×Int×Int)):yO ((Int×aQo×Int×Int)⊕(Int⊕Int)):=
 if(ag (s.2.2.2 < s.2.2.1))=ae then
  (idx s.2.1 s.2.2.2).bind λa=>
  if(a !=s.1)=ae then
   ab (.inr (.inl a))
  else
  ab (.inl (s.1,s.2.1,s.2.2.1,wi (s.2.2.2+1)))
 else
 ab (.inr (.inr s.1))
def Zou:Lp:=⟨[(3,.v yI),(6,.v aQz),(7,.v yI),(8,.v yI)],[],[yI,aQz,yI,yI],[⟨.ret,[(2,.v yI)],[],[yI]⟩,⟨.exit 0,[(3,.v yI)],[],[yI]⟩],Zd (V0 yD) yD⟩
theorem ZrY:Zou.bt yb 121 0:=Zt { still:=[2]} [] [] trivial
def tE(F:Nat)(a0:aQo):yO (Int):=
 (Zd (V0 F) F (0,a0,(a0.length:Int),0)).bind λa=>
 match a with
 |.inl b=>
  ab b
 |.inr c=>
  ab c
def LA:Fs yb:=⟨121,[.v aQz],[],[aQz],(zN yI),λx=>tE yD x⟩
theorem Zov:LA.Ok:=aQ { still:=[2]} [(0,Zou)] [] trivial ⟨ZrY,ao⟩
def xS(F:Nat)(a0:Int):yO (Bool):=
 ab (a0 !=a0)
def Zli:Fs yb:=⟨182,[.v yI],[],[yI],(zN .bool),λx=>xS yD x⟩
theorem ZrZ:Zli.Ok:=aQ { still:=[2]} [] [] trivial
def YO(F:Nat)(a0:Int)(a1:Int):yO (Int):=
 (xS F a0).bind λa=>
 (xS F a1).bind λb=>
 if a=ae then
  if b=ae then
   ab 0
  else
  ab (-1)
 else
 if b=ae then
  ab 1
 else
 if(ag (a0 < a1))=ae then
  ab (-1)
 else
 if(ag (a0 > a1))=ae then
  ab 1
 else
 ab 0
def LB:Fs yb:=⟨122,[.v yI,.v yI],[],[yI,yI],(zN yI),λx=>YO yD x.1 x.2⟩
theorem ZgW:LB.Ok:=aQ { still:=[4,7,9]} [] [Zli] ⟨ZrZ,ao⟩
def qo(F:Nat)(a0:Cond)(a1:Cond):yO (Int):=
 (YO F a0.1 a1.1).bind λa=>
 (YO F a0.2.1 a1.2.1).bind λb=>
 (tE F [a,b]).bind λc=>
 ab c
def xU:Fs yb:=⟨61,[.v Zy,.v Zy],[],[Zy,Zy],(zN yI),λx=>qo yD x.1 x.2⟩
theorem LC:xU.Ok:=aQ { still:=[4,6,8,11,13,15]} [] [LB,LA] ⟨ZgW,Zov,ao⟩
def QX(F:Nat):(Int×Int×Int×aQn×Int×Int×yG)->yO ((Int×Int×Int×aQn×Int×Int×yG)⊕(Int×Int×yG))
 |(d,e,f,c,b,a,g)=>
 if(ag (a < b))=ae then
  (idx c a).bind λh=>
  if(h.1==(wi (1 - d)))=ae then
   ab (.inl (d,wi (e+1),wi (f+h.2.2.1),c,b,wi (a+1),g))
  else
  ab (.inl (d,e,f,c,b,wi (a+1),g))
 else
 ab (.inr (e,f,g))
def Zjx:Lp:=⟨[(1,.v yI),(6,.v yI),(7,.v yI),(11,.v aQj),(12,.v yI),(13,.v yI)],[.var (.v Zc) ae],[yI,yI,yI,aQj,yI,yI,Zc],[⟨.exit 0,[(6,.v yI),(7,.v yI)],[.var (.v Zc) ae],[yI,yI,Zc]⟩],Zd (QX yD) yD⟩
theorem ZnX:Zjx.bt yb 62 0:=Zt { still:=[4,5]} [] [] trivial
def tF(F:Nat)(a0:yG)(a1:Int):yO ((Int×Int)):=
 (Zd (QX F) F (a1,0,0,a0.2.2.1,(a0.2.2.1.length:Int),0,a0)).bind λa=>
 ab (a.1,a.2.1)
def LD:Fs yb:=⟨62,[.v Zc,.v yI],[],[Zc,yI],[⟨.ret,[(0,.bm [.v yI,.v yI])],[],[yI,yI]⟩],λx=>tF yD x.1 x.2⟩
theorem Zjy:LD.Ok:=aQ { still:=[4,5]} [(0,Zjx)] [] trivial ⟨ZnX,ao⟩
def LF(F:Nat)(a0:Int):yO (Int):=
 if(ag (a0 < 0))=ae then
  ab 0
 else
 if(ag (a0 > 16))=ae then
  ab 0
 else
 ab (wi (68+(wi (8*a0))))
def Zmu:Fs yb:=⟨183,[.v yI],[],[yI],(zN yI),λx=>LF yD x⟩
theorem Zts:Zmu.Ok:=aQ { still:=[2]} [] [] trivial
def tG(F:Nat)(a0:Int)(a1:Int):yO (Int):=
 if(ag (a0 < 0))=ae then
  ab 0
 else
 if(ag (a0 > 1000))=ae then
  ab 0
 else
 (LF F a1).bind λa=>
 ab (wi (a0*a))
def LG:Fs yb:=⟨123,[.v yI,.v yI],[],[yI,yI],(zN yI),λx=>tG yD x.1 x.2⟩
theorem Zqx:LG.Ok:=aQ { still:=[4,12]} [] [Zmu] ⟨Zts,ao⟩
def tH(F:Nat)(a0:Chan)(a1:yG):yO (Int):=
 (tG F a1.2.2.2 (a1.2.2.1.length:Int)).bind λa=>
 ab (wi (a+660))
def LH:Fs yb:=⟨63,[.v Zf,.v Zc],[],[Zf,Zc],(zN yI),λx=>tH yD x.1 x.2⟩
theorem Zow:LH.Ok:=aQ { still:=[4,6,9]} [] [LG] ⟨Zqx,ao⟩
def Wz(F:Nat):(aQn×Int×Int×Chan×yG)->yO ((aQn×Int×Int×Chan×yG)⊕((Bool×Chan×yG)⊕(Chan×yG)))
 |(c,b,a,d,e)=>
 if(ag (a < b))=ae then
  (idx c a).bind λf=>
  (tD F f).bind λg=>
  if(!g)=ae then
   ab (.inr (.inl (af,d,e)))
  else
  if(bi (wi (1 - f.1)) 2)=ae then
   (d.2.2.2.1[(wi (1 - f.1)).toNat]?).bind λh=>
   if(ag (f.2.2.1 < h.2.2.2.2.1))=ae then
    ab (.inr (.inl (af,d,e)))
   else
   if(ag (a > 0))=ae then
    (idx e.2.2.1 (wi (a - 1))).bind λi=>
    (qo F i f).bind λj=>
    if(ag (j >= 0))=ae then
     ab (.inr (.inl (af,d,e)))
    else
    ab (.inl (c,b,wi (a+1),d,e))
   else
   ab (.inl (c,b,wi (a+1),d,e))
  else
  ad
 else
 ab (.inr (.inr (d,e)))
def Zmw:Lp:=⟨[(2,.aj 0 []),(3,.aj 1 []),(46,.v aQj),(47,.v yI),(48,.v yI)],[.var (.v Zf) ae,.var (.v Zc) ae],[aQj,yI,yI,Zf,Zc],[⟨.ret,[(4,.v .bool)],[.var (.v Zf) ae,.var (.v Zc) ae],[.bool,Zf,Zc]⟩,⟨.exit 0,[(2,.aj 0 []),(3,.aj 1 [])],[.var (.v Zf) ae,.var (.v Zc) ae],[Zf,Zc]⟩],Zd (Wz yD) yD⟩
def LI:HI:={ still:=[4,11,17,28,35,53,77,78,91,92,107,118,119]}
theorem Zqy:Zmw.bt yb 20 0:=Zt LI [] [KZ,xU] ⟨Zot,LC,ao⟩
def Vc(F:Nat)(s:((yL bD)×Int×Chan×yG)):yO (((yL bD)×Int×Chan×yG)⊕((Bool×Chan×yG)⊕(Chan×yG))):=
 if(ag (s.2.1 < 2))=ae then
  (idx s.1 s.2.1).bind λa=>
  (tF F s.2.2.2 s.2.1).bind λb=>
  if(ag (b.1 > a.2.2.2.1))=ae then
   ab (.inr (.inl (af,s.2.2.1,s.2.2.2)))
  else
  if(ag (b.2 > a.2.2.2.2.2))=ae then
   ab (.inr (.inl (af,s.2.2.1,s.2.2.2)))
  else
  ab (.inl (s.1,wi (s.2.1+1),s.2.2.1,s.2.2.2))
 else
 ab (.inr (.inr (s.2.2.1,s.2.2.2)))
def Zmx:Lp:=⟨[(2,.aj 0 []),(3,.aj 1 []),(85,.v (.arr 2 iK)),(86,.v yI)],[.var (.v Zf) ae,.var (.v Zc) ae],[(.arr 2 iK),yI,Zf,Zc],[⟨.ret,[(4,.v .bool)],[.var (.v Zf) ae,.var (.v Zc) ae],[.bool,Zf,Zc]⟩,⟨.exit 2,[(2,.aj 0 []),(3,.aj 1 [])],[.var (.v Zf) ae,.var (.v Zc) ae],[Zf,Zc]⟩],Zd (Vc yD) yD⟩
theorem Zqz:Zmx.bt yb 20 1:=Zt LI [] [LD] ⟨Zjy,ao⟩
def aL(F:Nat)(a0:Chan)(a1:yG):yO (Bool):=
 (tC F a0).bind λa=>
 if(a !=0)=ae then
  ab af
 else
 (Ya F 0 1048576 [a1.1]).bind λb=>
 if(!b)=ae then
  ab af
 else
 (a1.2.1[0]?).bind λc=>
 (a1.2.1[1]?).bind λd=>
 (Ya F 0 1125899906842624 [c,d]).bind λe=>
 if(!e)=ae then
  ab af
 else
 (Ya F 0 1000 [a1.2.2.2]).bind λf=>
 if(!f)=ae then
  ab af
 else
 if(ag ((a1.2.2.1.length:Int) > 16))=ae then
  ab af
 else
 (Zd (Wz F) F (a1.2.2.1,(a1.2.2.1.length:Int),0,a0,a1)).bind λg=>
 match g with
 |.inl h=>
  ab h.1
 |.inr i=>
  (Zd (Vc F) F (i.1.2.2.2.1,0,i.1,i.2)).bind λj=>
  match j with
  |.inl k=>
   ab k.1
  |.inr l=>
   (xN F l.2).bind λm=>
   if(m==l.1.2.1)=ae then
    if(bi l.1.2.2.2.2 2)=ae then
     (l.2.2.1[l.1.2.2.2.2.toNat]?).bind λn=>
     (tH F l.1 l.2).bind λo=>
     ab (ag (n >= o))
    else
    ad
   else
   ab af
def tI:Fs yb:=⟨20,[.v Zf,.v Zc],[],[Zf,Zc],(zN .bool),λx=>aL yD x.1 x.2⟩
theorem tJ:tI.Ok:=aQ LI [(0,Zmw),(1,Zmx)] [KX,KY,Zor,LH] ⟨Zqv,Zlh,ZvE,Zow,ao⟩ ⟨Zqy,Zqz,ao⟩
def tK(F:Nat)(a0:aQq):yO (aQq):=
 if(cf 0 a0.length 8)=ae then
  ab a0
 else
 ad
def Ztt:Fs yb:=⟨117,[.sl ae .u64],[],[aQk],(zN aQk),λx=>tK yD x⟩
theorem Zr0:Ztt.Ok:=aQ { own:=[5,7],still:=[2]} [] [] trivial
def Zia(F:Nat):yO (aQq):=
 ab []
def Zpa:Fs yb:=⟨117,[.nil .u64],[],[],(zN aQk),λx=>Zia yD⟩
theorem ZnY:Zpa.Ok:=aQ { own:=[5,7],still:=[2]} [] [] trivial
def Zib:Fs yb:=⟨117,[.v aQk],[],[aQk],(zN aQk),λx=>tK yD x⟩
theorem Zpb:Zib.Ok:=sP (t:=.u64) (xs:=(zN aQk)) (MA:=λ(x:aQq)=>tK yD x) (MB:=λ_=>Zia yD) Zr0 ZnY rfl
def xV(F:Nat)(a0:aQq):yO (ZC):=
 (tK F a0).bind λa=>
 ab [(a,0,0,0)]
def LJ:Fs yb:=⟨57,[.v aQk],[],[aQk],(zN Zv),λx=>xV yD x⟩
theorem ZsQ:LJ.Ok:=aQ { still:=[3]} [] [Zib] ⟨Zpb,ao⟩
def LK(F:Nat)(a0:yU)(a1:yU):yO (ZC):=
 (xV F [a0,a1]).bind λa=>
 ab a
def ZsR:Fs yb:=⟨67,[.v .u64,.v .u64],[],[.u64,.u64],(zN Zv),λx=>LK yD x.1 x.2⟩
theorem Zz5:ZsR.Ok:=aQ { still:=[7]} [] [LJ] ⟨ZsQ,ao⟩
def QB(F:Nat)(a0:Chan):yO (ZC):=
 (a0.2.2.1[0]?).bind λa=>
 (a0.2.2.1[1]?).bind λb=>
 (LK F a.1 b.1).bind λc=>
 ab c
def Zr1:Fs yb:=⟨23,[.v Zf],[],[Zf],(zN Zv),λx=>QB yD x⟩
theorem ZqA:Zr1.Ok:=aQ { still:=[6,10]} [] [ZsR] ⟨Zz5,ao⟩
def XS(F:Nat)(a0:Int)(a1:Int):yO (Bool):=
 if(ag (a1<=a0))=ae then
  ab (ag (a0<=1099511627776))
 else
 ab af
def WL:Fs yb:=⟨159,[.v yI,.v yI],[],[yI,yI],(zN .bool),λx=>XS yD x.1 x.2⟩
theorem V1:WL.Ok:=aQ { still:=[4]} [] [] trivial
abbrev Xm:Ty:=(.st [ZQ,yI])
abbrev Yo:Type:=(ZO×Int)
abbrev Za:Ty:=(.st [(.sl Xm),aQp,yI])
abbrev ah:Type:=((yL Yo)×aQr×Int)
def YP(F:Nat):(Int×(yL Yo)×Int×Int×ah)->yO ((Int×(yL Yo)×Int×Int×ah)⊕((Int×Bool×ah)⊕(Int×ah)))
 |(e,c,b,a,d)=>
 if(ag (a < b))=ae then
  (idx c a).bind λf=>
  (XS F f.2 1).bind λg=>
  if(!g)=ae then
   ab (.inr (.inl (0,af,d)))
  else
  ab (.inl (wi (e+f.2),c,b,wi (a+1),d))
 else
 ab (.inr (.inr (e,d)))
def ZcS:Lp:=⟨[(1,.aj 0 []),(2,.v yI),(4,.fn 159 []),(30,.v (.sl Xm)),(31,.v yI),(32,.v yI)],[.var (.v Za) ae],[yI,(.sl Xm),yI,yI,Za],[⟨.ret,[(2,.v yI),(3,.v .bool)],[.var (.v Za) ae],[yI,.bool,Za]⟩,⟨.exit 0,[(1,.aj 0 []),(2,.v yI),(4,.fn 159 [])],[.var (.v Za) ae],[yI,Za]⟩],Zd (YP yD) yD⟩
theorem ZiA:ZcS.bt yb 86 0:=Zt { still:=[2,3,22,38,55,60]} [] [WL] ⟨V1,ao⟩
def YQ(F:Nat):(Int×aQr×Int×Int×ah)->yO ((Int×aQr×Int×Int×ah)⊕((Int×Bool×ah)⊕(Int×ah)))
 |(e,c,b,a,d)=>
 if(ag (a < b))=ae then
  (idx c a).bind λf=>
  (XS F f.1 0).bind λg=>
  if(!g)=ae then
   ab (.inr (.inl (0,af,d)))
  else
  (We F f.2).bind λh=>
  if(!h)=ae then
   ab (.inr (.inl (0,af,d)))
  else
  ab (.inl (wi (e - f.1),c,b,wi (a+1),d))
 else
 ab (.inr (.inr (e,d)))
def ZcT:Lp:=⟨[(2,.v yI),(4,.fn 159 []),(47,.v aQp),(48,.v yI),(49,.v yI)],[.var (.v Za) ae],[yI,aQp,yI,yI,Za],[⟨.ret,[(2,.v yI),(3,.v .bool)],[.var (.v Za) ae],[yI,.bool,Za]⟩,⟨.exit 2,[(2,.v yI)],[.var (.v Za) ae],[yI,Za]⟩],Zd (YQ yD) yD⟩
theorem ZiB:ZcT.bt yb 86 1:=Zt { still:=[2,3,22,38,55,60]} [] [WL,qf] ⟨V1,tg,ao⟩
def WE(F:Nat)(a0:ah):yO ((Int×Bool)):=
 if(ag ((a0.1.length:Int) > 8))=ae then
  ab (0,af)
 else
 if(ag ((a0.2.1.length:Int) > 8))=ae then
  ab (0,af)
 else
 (XS F a0.2.2 0).bind λa=>
 if(!a)=ae then
  ab (0,af)
 else
 (Zd (YP F) F (wi (0 - a0.2.2),a0.1,(a0.1.length:Int),0,a0)).bind λb=>
 match b with
 |.inl c=>
  ab (c.1,c.2.1)
 |.inr d=>
  (Zd (YQ F) F (d.1,d.2.2.1,(d.2.2.1.length:Int),0,d.2)).bind λe=>
  match e with
  |.inl f=>
   ab (f.1,f.2.1)
  |.inr g=>
   ab (g.1,ae)
def Zew:Fs yb:=⟨86,[.v Za],[],[Za],[⟨.ret,[(0,.bm [.v yI,.v .bool])],[],[yI,.bool]⟩],λx=>WE yD x⟩
theorem Zlt:Zew.Ok:=aQ { still:=[2,3,22,38,55,60]} [(0,ZcS),(1,ZcT)] [WL] ⟨V1,ao⟩ ⟨ZiA,ZiB,ao⟩
abbrev _root_.aQg:=yL ah
def Xk(F:Nat)(s:(aQg×Int×aQg×aQo)):yO ((aQg×Int×aQg×aQo)⊕((Bool×aQg×aQo)⊕(aQg×aQo))):=
 if(ag (s.2.1 < 2))=ae then
  (idx s.1 s.2.1).bind λa=>
  (WE F a).bind λb=>
  if(bi s.2.1 2)=ae then
   (s.2.2.2[s.2.1.toNat]?).bind λc=>
   if(!b.2)=ae then
    ab (.inr (.inl (af,s.2.2.1,[0,0])))
   else
   ab (.inl (s.1,wi (s.2.1+1),s.2.2.1,s.2.2.2.set s.2.1.toNat b.1))
  else
  ad
 else
 ab (.inr (.inr (s.2.2.1,s.2.2.2)))
abbrev _root_.aQc:Go.Ev.Ty:=.arr 2 Za
abbrev zI:List bC:=[.var (.v aQc) ae,.var (.v aQl) ae]
def Zic:Lp:=⟨[(2,.aj 1 []),(6,.v aQc),(7,.v yI)],zI,[aQc,yI,aQc,aQl],[⟨.ret,[(2,.aj 1 []),(3,.v .bool)],zI,[.bool,aQc,aQl]⟩,⟨.exit 0,[(2,.aj 1 [])],zI,[aQc,aQl]⟩],Zd (Xk yD) yD⟩
theorem Zmy:Zic.bt yb 41 0:=Zt { still:=[3,13]} [] [Zew] ⟨Zlt,ao⟩
def xW(F:Nat)(a0:aQg):yO ((aQo×Bool)):=
 (Zd (Xk F) F (a0,0,a0,[0,0])).bind λa=>
 match a with
 |.inl b=>
  ab (b.2.2,b.1)
 |.inr c=>
  ab (c.2,ae)
def LL(F:Nat):Fs yb:=⟨41,[.v aQc],[],[aQc],[⟨.ret,[(0,.bm [.v aQl,.v .bool])],[],[aQl,.bool]⟩],λx=>xW F x⟩
def Zjz:Fs yb:=LL yD
theorem Zid:Zjz.Ok:=aQ { still:=[3,13]} [(0,Zic)] [] trivial ⟨Zmy,ao⟩
abbrev Zh:Ty:=(.st [aQb,.bool])
abbrev Zg:Type:=(aQa×Bool)
abbrev Zg.b(x:Zg):aQa:=x.1
abbrev Zg.no(x:Zg):Bool:=x.2
def tL(F:Nat)(a0:aQa):yO (Zg):=
 (Yf F a0).bind λa=>
 ab (a,af)
def LM:Fs yb:=⟨87,[.v aQb],[],[aQb],[⟨.ret,[(0,.aj 0 [])],[.var (.v Zh) ae],[Zh]⟩],λx=>tL yD x⟩
theorem ZqB:LM.Ok:=aQ { still:=[2,3]} [] [W0] ⟨QU,ao⟩
def ZJ(F:Nat)(s:(aQa×aQa×Int×Int)):yO ((aQa×aQa×Int×Int)⊕(Bool⊕Unit)):=
 if(ag (s.2.2.2 < s.2.2.1))=ae then
  (idx s.1 s.2.2.2).bind λa=>
  (idx s.2.1 s.2.2.2).bind λb=>
  if(a !=b)=ae then
   ab (.inr (.inl af))
  else
  ab (.inl (s.1,s.2.1,s.2.2.1,wi (s.2.2.2+1)))
 else
 ab (.inr (.inr ()))
def Za0:Lp:=⟨[(0,.v aQb),(1,.v aQb),(12,.v yI),(13,.v yI)],[],[aQb,aQb,yI,yI],[⟨.ret,[(4,.v .bool)],[],[.bool]⟩,⟨.exit 0,[],[],[]⟩],Zd (ZJ yD) yD⟩
theorem Zfd:Za0.bt yb 164 0:=Zt { still:=[4]} [] [] trivial
def Z5(F:Nat)(a0:aQa)(a1:aQa):yO (Bool):=
 if((a0.length:Int)!=(a1.length:Int))=ae then
  ab af
 else
 (Zd (ZJ F) F (a0,a1,(a0.length:Int),0)).bind λa=>
 match a with
 |.inl b=>
  ab b
 |.inr c=>
  ab ae
def Zbg:Fs yb:=⟨164,[.v aQb,.v aQb],[],[aQb,aQb],(zN .bool),λx=>Z5 yD x.1 x.2⟩
theorem ZhB:Zbg.Ok:=aQ { still:=[4]} [(0,Za0)] [] trivial ⟨Zfd,ao⟩
def X5(F:Nat)(s0:Int)(f:Zg):yO ((Bool×Int×Zg)):=
 if(ag (s0 >= (f.1.length:Int)))=ae then
  ab (ae,s0,f)
 else
 if(ag (s0 > 8))=ae then
  ab (ae,s0,f)
 else
 if(ag (s0 > 0))=ae then
  (idx f.1 s0).bind λa=>
  ab (a==0,s0,f)
 else
 ab (af,s0,f)
def Zfm:Fs yb:=⟨161,[.aj 0 [],.aj 1 []],[.var (.v yI) ae,.var (.aj 2 []) ae,.var (.v Zh) ae],[yI,Zh],[⟨.ret,[(0,.v .bool)],[.var (.v yI) ae,.var (.aj 2 []) ae,.var (.v Zh) ae],[.bool,yI,Zh]⟩],λx=>X5 yD x.1 x.2⟩
theorem ZmA:Zfm.Ok:=aQ { still:=[2]} [] [] trivial
def Vm(F:Nat)(s0:Zg):yO (Zg):=
 ab ([],ae)
def LN:Fs yb:=⟨162,[.aj 0 []],[.var (.v Zh) ae],[Zh],[⟨.ret,[(0,.bm [])],[.var (.v Zh) ae],[Zh]⟩],λx=>Vm yD x⟩
theorem Zfn:LN.Ok:=aQ {} [] [] trivial
def WF(F:Nat)(s:(Int×Zg×Int)):yO ((Int×Zg×Int)⊕((Int×Zg×Int)⊕(Int×Zg×Int))):=
 (X5 F s.2.2 s.2.1).bind λa=>
 if a.1=ae then
  (Vm F a.2.2).bind λb=>
  ab (.inr (.inl (0,b,a.2.1)))
 else
 (idx a.2.2.1 a.2.1).bind λc=>
 if(ag (0<=wi (7*a.2.1)))=ae then
  let d:Int:=wi (((c % 128).toNat:Int)*2 ^ (min (wi (7*a.2.1)).toNat 64))
  if(ag (c < 128))=ae then
   ab (.inr (.inr (bits .or .i64 s.1 d,a.2.2,wi (a.2.1+1))))
  else
  ab (.inl (bits .or .i64 s.1 d,a.2.2,wi (a.2.1+1)))
 else
 ad
abbrev zH:List bC:=[.var (.v Zh) ae,.var (.aj 0 []) ae,.var (.v yI) ae]
def Zg0:Lp:=⟨[(1,.aj 1 []),(3,.v yI),(4,.aj 2 []),(5,.fn 161 [.aj 2 [],.aj 1 []])],zH,[yI,Zh,yI],[⟨.ret,[(2,.v yI)],zH,[yI,Zh,yI]⟩,⟨.exit 0,[(1,.aj 1 []),(3,.v yI),(4,.aj 2 [])],zH,[yI,Zh,yI]⟩],Zd (WF yD) yD⟩
theorem Zlu:Zg0.bt yb 89 0:=Zt { still:=[2,10]} [] [Zfm,LN] ⟨ZmA,Zfn,ao⟩
def Z0(F:Nat)(s0:Zg):yO ((Int×Zg)):=
 (Zd (WF F) F (0,s0,0)).bind λa=>
 match a with
 |.inl b=>
  ab (b.1,b.2.1)
 |.inr c=>
  if(dL c.2.1.1.length (ab c.2.2) ad)=ae then
   ab (c.1,(c.2.1.1.drop c.2.2.toNat,c.2.1.2))
  else
  ad
def YA:Fs yb:=⟨89,[.aj 0 []],[.var (.v Zh) ae],[Zh],[⟨.ret,[(0,.v yI)],[.var (.v Zh) ae],[yI,Zh]⟩],λx=>Z0 yD x⟩
theorem YJ:YA.Ok:=aQ { still:=[2,10]} [(0,Zg0)] [] trivial ⟨Zlu,ao⟩
def Wr(F:Nat)(a1:Int)(s0:Zg):yO ((aQa×Zg)):=
 if s0.2=ae then
  (Vm F s0).bind λa=>
  ab ([],a)
 else
 if(ag (a1 > (s0.1.length:Int)))=ae then
  (Vm F s0).bind λb=>
  ab ([],b)
 else
 if(dL s0.1.length ad (ab a1))=ae then
  (Yf F (s0.1.take a1.toNat)).bind λc=>
  if(dL s0.1.length (ab a1) ad)=ae then
   ab (c,(s0.1.drop a1.toNat,s0.2))
  else
  ad
 else
 ad
def Qi:Fs yb:=⟨163,[.aj 0 [],.v yI],[.var (.v Zh) ae],[yI,Zh],[⟨.ret,[(0,.v aQb)],[.var (.v Zh) ae],[aQb,Zh]⟩],λx=>Wr yD x.1 x.2⟩
theorem LO:Qi.Ok:=aQ { still:=[4,19,26]} [] [LN,W0] ⟨Zfn,QU,ao⟩
def VM(F:Nat):(yU×aQa×Int×Int×Zg)->yO ((yU×aQa×Int×Int×Zg)⊕(yU×Zg))
 |(d,c,b,a,e)=>
 if(ag (a < b))=ae then
  (idx c a).bind λf=>
  ab (.inl ((QR d 8)|||(yao f.toNat),c,b,wi (a+1),e))
 else
 ab (.inr (d,e))
def Zg1:Lp:=⟨[(3,.v .u64),(7,.v aQb),(8,.v yI),(9,.v yI)],[.var (.v Zh) ae],[.u64,aQb,yI,yI,Zh],[⟨.exit 0,[(3,.v .u64)],[.var (.v Zh) ae],[.u64,Zh]⟩],Zd (VM yD) yD⟩
theorem Zlv:Zg1.bt yb 93 0:=Zt { still:=[2,6]} [] [] trivial
def Xn(F:Nat)(s0:Zg):yO ((yU×Zg)):=
 (Wr F 8 s0).bind λa=>
 (Zd (VM F) F (0,a.1,(a.1.length:Int),0,a.2)).bind λb=>
 ab (b.1,b.2)
def Vn:Fs yb:=⟨93,[.aj 0 []],[.var (.v Zh) ae],[Zh],[⟨.ret,[(0,.v .u64)],[.var (.v Zh) ae],[.u64,Zh]⟩],λx=>Xn yD x⟩
theorem Qj:Vn.Ok:=aQ { still:=[2,6]} [(0,Zg1)] [Qi] ⟨LO,ao⟩ ⟨Zlv,ao⟩
abbrev dT0:Type:=(aQa×Int×Int×Int×Int×ZC×Zg×aQu×Int×Int×yU×aQq)
def ZPE:yL bC:=[.var (.v Zv) ae,.var (.v Zh) ae,.var (.agg [.own 3 ZB]) ae,.log ZB 163,.var (.agg [.own 5 .u64,.v yI,.v yI,.v .u64]) ae,.log .u64 27]
abbrev tL1:yL Ty:=[aQb,yI,yI,Zv,Zh,aQw,yI,yI,.u64,aQk]
abbrev tL2:yL Ty:=[aQb,yI,yI,yI,yI,Zv,Zh,aQw,yI,yI,.u64,aQk]
def LP:HI:={ own:=[31,35,48,51],still:=[3,10,12,19,32,38,40,44,53,57,58,59],cm:=[(5,[([0],ZB,163)]),(8,[([0],.u64,27)])]}
def Wa(F:Nat):dT0->yO (dT0⊕(aQa×Int×Int×ZC×Zg×aQu×Int×Int×yU×aQq))
 |(e,f,g,b,a,h,c,i,j,k,l,d)=>
 if(ag (a < b))=ae then
  (Xn F c).bind λm=>
  if(cf d.length 1 8)=ae then
   let n:aQq:=d++([m.1]:yL yU)
   ab (.inl (e,f,g,b,wi (a+1),h,m.2,i,j,k,l,n))
  else
  ad
 else
 ab (.inr (e,f,g,h,c,i,j,k,l,d))
def ZqC:Lp:=⟨[(0,.v aQb),(2,.aj 0 []),(4,.aj 1 []),(5,.aj 2 []),(6,.v yI),(7,.v yI),(8,.aj 4 []),(27,.v yI),(28,.v yI)],ZPE,tL2,[⟨.exit 2,[(0,.v aQb),(2,.aj 0 []),(4,.aj 1 []),(5,.aj 2 []),(6,.v yI),(7,.v yI),(8,.aj 4 [])],ZPE,tL1⟩],Zd (Wa yD) yD⟩
theorem Ztu:ZqC.bt yb 91 1:=Zt LP [] [Vn] ⟨Qj,ao⟩
def VI(F:Nat):(aQa×Int×Int×ZC×Zg×aQu)->yO ((aQa×Int×Int×ZC×Zg×aQu)⊕(aQa×ZC×Zg×aQu))
 |(k,i,h,l,j,m)=>
 if(ag (h < i))=ae then
  (Z0 F j).bind λn=>
  if(h==4)=ae then
   ab (.inr (k,l,n.2,m))
  else
  if(ag (n.1 > 12))=ae then
   ab (.inr (k,l,n.2,m))
  else
  (Zd (Wa F) F (k,i,h,n.1,0,l,n.2,m,0,0,0,[])).bind λ(d,e,f,g,a,b,_,_,_,c)=>
  (Z0 F a).bind λo=>
  (Z0 F o.2).bind λp=>
  (Xn F p.2).bind λq=>
  if(cf b.length 1 48)=ae then
   let r:aQu:=b++([(c,o.1,p.1,q.1)]:yL ZW)
   ab (.inl (d,e,wi (f+1),g,q.2,r))
  else
  ad
 else
 ab (.inr (k,l,j,m))
def ZqD:Lp:=⟨[(0,.v aQb),(2,.aj 0 []),(4,.aj 1 []),(5,.aj 2 []),(6,.v yI),(7,.v yI)],[.var (.v Zv) ae,.var (.v Zh) ae,.var (.agg [.own 3 ZB]) ae,.log ZB 163],[aQb,yI,yI,Zv,Zh,aQw],[⟨.exit 0,[(0,.v aQb),(2,.aj 0 []),(5,.aj 2 [])],[.var (.v Zv) ae,.var (.v Zh) ae,.var (.agg [.own 3 ZB]) ae,.log ZB 163],[aQb,Zv,Zh,aQw]⟩],Zd (VI yD) yD⟩
theorem Ztv:ZqD.bt yb 91 0:=Zt LP [(1,ZqC)] [YA,Vn] ⟨YJ,Qj,ao⟩ ⟨Ztu,ao⟩
def oG(F:Nat)(a0:aQa):yO ((ZC×Bool)):=
 (tL F a0).bind λa=>
 (Z0 F a).bind λb=>
 (Zd (VI F) F (a0,b.1,0,[],b.2,[])).bind λc=>
 (We F c.2.2.2).bind λd=>
 if(!d)=ae then
  ab ([],af)
 else
 (qm F c.2.2.2).bind λe=>
 (Z5 F e c.1).bind λf=>
 if(!f)=ae then
  ab ([],af)
 else
 ab (c.2.2.2,ae)
def ZsS:Fs yb:=⟨91,[.v aQb],[],[aQb],[⟨.ret,[(0,.bm [.v Zv,.v .bool])],[],[Zv,.bool]⟩],λx=>oG yD x⟩
theorem Zz6:ZsS.Ok:=aQ LP [(0,ZqD)] [LM,YA,qf,xI,Zbg] ⟨ZqB,YJ,tg,KP,ZhB,ao⟩ ⟨Ztv,ao⟩
def qp(F:Nat)(a0:Int)(s1:Zg):yO ((Int×Zg)):=
 (Z0 F s1).bind λa=>
 if(ag (a.1 > a0))=ae then
  ab ((-1),a.2)
 else
 ab (a.1,a.2)
def LQ:Fs yb:=⟨88,[.v yI,.aj 0 []],[.var (.aj 1 []) ae,.var (.v Zh) ae],[yI,Zh],[⟨.ret,[(0,.v yI)],[.var (.aj 1 []) ae,.var (.v Zh) ae],[yI,Zh]⟩],λx=>qp yD x.1 x.2⟩
theorem ZqE:LQ.Ok:=aQ { still:=[3,5]} [] [YA] ⟨YJ,ao⟩
def QY(F:Nat)(s0:Zg):yO ((aQa×Zg)):=
 (Wr F 32 s0).bind λa=>
 if(ag (a.1.length<=32)&&ag (0+32<=32))=ae then
  let b:aQa:=dn.take 0++(a.1++dn.drop (0+a.1.length))
  ab (b,a.2)
 else
 ad
def Zg2:Fs yb:=⟨90,[.aj 0 []],[.var (.v Zh) ae],[Zh],[⟨.ret,[(0,.v aQe)],[.var (.v Zh) ae],[aQe,Zh]⟩],λx=>QY yD x⟩
theorem ZnZ:Zg2.Ok:=aQ { still:=[5]} [] [Qi] ⟨LO,ao⟩
abbrev zK:=Tx×Int×aQr×aQh×aQm×aQm×Zg
def Vo(F:Nat):(Int×Int×Int×zK)->yO ((Int×Int×Int×zK)⊕(Int×zK))
 |(f,b,a,g,h,i,j,d,e,c)=>
 if(ag (a < b))=ae then
  (QY F c).bind λk=>
  (Z0 F k.2).bind λl=>
  if(cf (d.length+e.length) 1 80)=ae then
   let m:aQm:=e++([((k.1,l.1),(0,[],0))]:yL In)
   ab (.inl (f,b,wi (a+1),g,h,i,()::j,d,m,l.2))
  else
  ad
 else
 ab (.inr (f,g,h,i,j,d,e,c))
def mT:yL bC:=[.var (.v aJ) ae,.var (.agg [.rw 3,.own 2 Yn,.v yI]) ae,.log Yn 79,.aS bP [1,1] ae 91,.var (.v Zh) ae,.var (.aj 4 []) ae]
abbrev tL3:yL Ty:=[yI,yI,yI,aJ,yI,aQp,aQf,aQi,aQi,Zh]
def ZvG:Lp:=⟨[(2,.aj 0 []),(4,.aj 1 []),(5,.aj 5 []),(6,.fn 88 [.aj 5 []]),(7,.v yI),(20,.v yI),(21,.v yI)],mT,tL3,[⟨.exit 0,[(2,.aj 0 []),(4,.aj 1 []),(5,.aj 5 []),(6,.fn 88 [.aj 5 []]),(7,.v yI)],mT,[yI,aJ,yI,aQp,aQf,aQi,aQi,Zh]⟩],Zd (Vo yD) yD⟩
def ZQH:HI:={ own:=[24,32,55,58,92,99],still:=[3,15,25,27,40,44,45,61,76,93,95,104,116,121,126],cE:=[24,32,71],cm:=[(4,[([1],Yn,79)])],lits:=[31]}
theorem Zw4:ZvG.bt yb 42 0:=Zt ZQH [] [Zg2,YA] ⟨ZnZ,YJ,ao⟩
def Qk(F:Nat)(s0:Zg):yO ((aQa×Zg)):=
 (Z0 F s0).bind λa=>
 if a.2.2=ae then
  ab ([],a.2)
 else
 (Wr F a.1 a.2).bind λb=>
 ab (b.1,b.2)
def Zfo:Fs yb:=⟨92,[.aj 0 []],[.var (.v Zh) ae],[Zh],[⟨.ret,[(0,.v aQb)],[.var (.v Zh) ae],[aQb,Zh]⟩],λx=>Qk yD x⟩
theorem ZmC:Zfo.Ok:=aQ { still:=[2,4,10,11]} [] [YA,Qi] ⟨YJ,LO,ao⟩
def Vp(F:Nat):(Int×Int×Int×Int×zK)->yO ((Int×Int×Int×Int×zK)⊕((Bool×zK)⊕(Int×Int×zK)))
 |(i,j,b,a,k,d,e,f,g,h,c)=>
 if(ag (a < b))=ae then
  (Z0 F c).bind λl=>
  (Qk F l.2).bind λm=>
  (oG F m.1).bind λn=>
  if(!n.2)=ae then
   ab (.inr (.inl (af,([],[],0),d,e,f,g,h,m.2)))
  else
  if(cf e.length 1 32)=ae then
   let o:aQr:=e++([(l.1,n.1)]:yL Out)
   ab (.inl (i,j,b,wi (a+1),k,d,o,f,g,h,m.2))
  else
  ad
 else
 ab (.inr (.inr (i,j,k,d,e,f,g,h,c)))
abbrev tL4:yL Ty:=[yI,yI,aJ,yI,aQp,aQf,aQi,aQi,Zh]
abbrev tL5:yL Ty:=[yI,yI,yI,yI,aJ,yI,aQp,aQf,aQi,aQi,Zh]
def ZvH:Lp:=⟨[(2,.aj 0 []),(4,.aj 1 []),(5,.aj 5 []),(6,.fn 88 [.aj 5 []]),(7,.v yI),(8,.v yI),(37,.v yI),(38,.v yI)],mT,tL5,[⟨.ret,[(2,.aj 0 []),(3,.v .bool)],mT,[.bool,aJ,yI,aQp,aQf,aQi,aQi,Zh]⟩,⟨.exit 2,[(2,.aj 0 []),(4,.aj 1 []),(5,.aj 5 []),(6,.fn 88 [.aj 5 []]),(7,.v yI),(8,.v yI)],mT,tL4⟩],Zd (Vp yD) yD⟩
def xX:HI:={ own:=[24,32,55,58,92,99],still:=[3,15,25,27,40,44,45,61,76,93,95,104,116,121,126],cE:=[24,32,71],cm:=[(4,[([1],Yn,79)])],gf:=[(9,[([1,0],ZB,163)])],lits:=[31]}
theorem Zw5:ZvH.bt yb 42 1:=Zt xX [] [YA,Zfo,ZsS] ⟨YJ,ZmC,Zz6,ao⟩
abbrev dT1:Type:=(Int×Int×Int×Int×Int×Int×Int×Tx×Int×aQr×aQh×aQm×aQm×ZO×Int×yU×Zg×(yL gi))
abbrev dT2:Type:=(Int×Int×Int×Int×Int×Tx×Int×aQr×aQh×aQm×aQm×ZO×Int×yU×Zg×(yL gi))
def Vq(F:Nat):dT1->yO (dT1⊕dT2)
 |(g,h,c,i,j,b,a,k,l,m,n,d,o,p,q,r,e,f)=>
 if(ag (a < b))=ae then
  if(ag (c.toNat=d.length))=ae then
   (Xn F e).bind λs=>
   (Xn F s.2).bind λt=>
   if(cf f.length 1 16)=ae then
    let u:(yL gi):=f++([(s.1,t.1)]:yL gi)
    if(ag (c.toNat=d.length))=ae then
     ab (.inl (g,h,(c.toNat:Int),i,j,b,wi (a+1),k,l,m,n,d,o,p,q,r,t.2,u))
    else
    ad
   else
   ad
  else
  ad
 else
 ab (.inr (g,h,(c.toNat:Int),i,j,k,l,m,n,d,o,p,q,r,e,f))
def ZPF:yL bC:=[.var (.v aJ) ae,.var (.agg [.rw 3,.own 2 Yn,.v yI]) ae,.log Yn 79,.bK bP [1,1] ae 91 (.agg [.v ZQ,.agg [.v yI,.own 6 gU,.v .u64]]),.var (.v Zh) ae,.var (.aj 4 []) ae,.log gU 117]
abbrev tL6:yL Ty:=[yI,yI,yI,yI,yI,aJ,yI,aQp,aQf,aQi,aQi,ZQ,yI,.u64,Zh,(.sl gU)]
abbrev tL7:yL Ty:=[yI,yI,yI,yI,yI,yI,yI,aJ,yI,aQp,aQf,aQi,aQi,ZQ,yI,.u64,Zh,(.sl gU)]
def ZvI:Lp:=⟨[(2,.aj 0 []),(4,.aj 1 []),(5,.aj 5 []),(6,.fn 88 [.aj 5 []]),(7,.v yI),(8,.v yI),(13,.rp 3 36 [.fV 1 33]),(66,.v yI),(67,.v yI),(85,.v yI),(86,.v yI)],ZPF,tL7,[⟨.exit 6,[(2,.aj 0 []),(4,.aj 1 []),(5,.aj 5 []),(6,.fn 88 [.aj 5 []]),(7,.v yI),(8,.v yI),(13,.rp 3 36 [.fV 1 33]),(66,.v yI),(67,.v yI)],ZPF,tL6⟩],Zd (Vq yD) yD⟩
theorem Zw6:ZvI.bt yb 42 3:=Zt xX [] [Vn] ⟨Qj,ao⟩
def Vr(F:Nat):(Int×Int×Int×Int×zK)->yO ((Int×Int×Int×Int×zK)⊕((Bool×zK)⊕(Int×Int×zK)))
 |(y,z,q,p,A,v,w,x,r,t,u)=>
 if(ag (p < q))=ae then
  if(ag (p=(r.length:Int)))=ae then
   wJ t λE G=>
    if(bi p (r.length+(G.length+1)))=ae then
     (Z0 F u).bind λs=>
     if(ag (p.toNat=r.length))=ae then
      (qp F 12 s.2).bind λB=>
      if(ag (B.1 < 0))=ae then
       ab (.inr (.inl (af,([],[],0),v,w,x,r++([(E.1,(s.1,[],E.2.2.2))]:yL In),G,B.2)))
      else
      (Zd (Vq F) F (y,z,(p.toNat:Int),q,p,B.1,0,A,v,w,x,r,G,E.1,s.1,E.2.2.2,B.2,[])).bind λ(d,e,b,f,g,h,i,j,k,c,o,l,m,_,a,n)=>
      (Xn F a).bind λC=>
      if(ag (b.toNat=c.length))=ae then
       ab (.inl (d,e,f,wi (g+1),h,i,j,k,c++([(l,(m,n,C.1))]:yL In),o,C.2))
      else
      ad
     else
     ad
    else
    ad
  else
  ad
 else
 ab (.inr (.inr (y,z,A,v,w,x,r,t,u)))
def ZvJ:Lp:=⟨[(2,.aj 0 []),(4,.aj 1 []),(5,.aj 5 []),(6,.fn 88 [.aj 5 []]),(7,.v yI),(8,.v yI),(66,.v yI),(67,.v yI)],mT,tL5,[⟨.ret,[(2,.aj 0 []),(3,.v .bool)],mT,[.bool,aJ,yI,aQp,aQf,aQi,aQi,Zh]⟩,⟨.exit 4,[(2,.aj 0 []),(4,.aj 1 []),(5,.aj 5 []),(7,.v yI),(8,.v yI)],mT,tL4⟩],Zd (Vr yD) yD⟩
theorem Zw7:ZvJ.bt yb 42 2:=IT (fi:={ hi:=xX,lp:=[(3,ZvI)],gh:=[(4,.focus 12 gU 117)]}) (aF:={ l:=[YA,LQ,Vn]}) (kB ⟨YJ,ZqE,Qj,ao⟩) ⟨Zw6,ao⟩
def xY(F:Nat)(s0:Zg):yO ((Bool×Zg)):=
 ab (!s0.2,s0)
def ZjA:Fs yb:=⟨94,[.aj 0 []],[.var (.v Zh) ae],[Zh],[⟨.ret,[(0,.v .bool)],[.var (.v Zh) ae],[.bool,Zh]⟩],λx=>xY yD x⟩
theorem ZqF:ZjA.Ok:=aQ { still:=[2]} [] [] trivial
def QZ(F:Nat)(s0:Zg):yO ((Int×Zg)):=
 ab ((s0.1.length:Int),s0)
def Zg3:Fs yb:=⟨95,[.aj 0 []],[.var (.v Zh) ae],[Zh],[⟨.ret,[(0,.v yI)],[.var (.v Zh) ae],[yI,Zh]⟩],λx=>QZ yD x⟩
theorem Zn0:Zg3.Ok:=aQ { still:=[2]} [] [] trivial
def oH(F:Nat)(a0:aQa):yO ((Tx×Bool)):=
 (tL F a0).bind λs=>
 (qp F 64 s).bind λy=>
 (Zd (Vo F) F (y.1,y.1,0,([],[],0),0,[],[],[],[],y.2)).bind λ(q,r,t,u,v,w,x,p)=>
 (qp F 64 p).bind λz=>
 (Zd (Vp F) F (q,z.1,z.1,0,r,t,u,v,w,x,z.2)).bind λA=>
 match A with
 |.inl (b,a,_,_,_,_,_,_)=>
  ab (a,b)
 |.inr (k,l,m,_,n,o,i,j,h)=>
  (Z0 F h).bind λB=>
  let C:Int:=(((i.length+j.length):Nat):Int)
  (Zd (Vr F) F (k,l,C,0,m,B.1,n,o,i,j,B.2)).bind λD=>
  match D with
  |.inl (b,a,_,_,_,_,_,_)=>
   ab (a,b)
  |.inr (b,c,_,g,f,_,e,a,d)=>
   if a.isEmpty=ae then
    if(ag (b < 0))=ae then
     ab (([],[],0),af)
    else
    if(ag (c < 0))=ae then
     ab (([],[],0),af)
    else
    (xY F d).bind λE=>
    if(!E.1)=ae then
     ab (([],[],0),af)
    else
    (QZ F E.2).bind λG=>
    if(ag (G.1 > 0))=ae then
     ab (([],[],0),af)
    else
    (lH F (e,f,g)).bind λH=>
    if(!H)=ae then
     ab (([],[],0),af)
    else
    ab ((e,f,g),ae)
   else
   ad
def Zyc:Fs yb:=⟨42,[.v aQb],[],[aQb],[⟨.ret,[(0,.bm [.v aJ,.v .bool])],[],[aJ,.bool]⟩],λx=>oH yD x⟩
theorem ZEo:Zyc.Ok:=pX (fi:={ hi:=xX,lp:=[(0,ZvG),(1,ZvH),(2,ZvJ)],gh:=[(2,.rows 4 [0] bP 91 [1,1]),(41,.done 4)]}) (aF:={ l:=[LM,LQ,YA,ZjA,Zg3,tj]}) (kB ⟨ZqB,ZqE,YJ,ZqF,Zn0,xi,ao⟩) ⟨Zw4,Zw5,Zw7,ao⟩
def xZ(F:Nat):(aQa×aQm×Int×Int×(yL gi)×Int×Int×Tx×In)->yO ((aQa×aQm×Int×Int×(yL gi)×Int×Int×Tx×In)⊕(aQa×aQm×Int×Int×Tx×In))
 |(d,e,f,g,c,b,a,h,i)=>
 if(ag (a < b))=ae then
  (idx c a).bind λj=>
  (Vl F d j.1).bind λk=>
  (Vl F k j.2).bind λl=>
  ab (.inl (l,e,f,g,c,b,wi (a+1),h,i))
 else
 ab (.inr (d,e,f,g,h,i))
def ZsT:Lp:=⟨[(3,.v aQb),(5,.aj 1 []),(14,.v aQi),(15,.v yI),(16,.v yI),(32,.v (.sl gU)),(33,.v yI),(34,.v yI)],[.var (.v aJ) ae,.var (.v bP) ae],[aQb,aQi,yI,yI,(.sl gU),yI,yI,aJ,bP],[⟨.exit 2,[(3,.v aQb),(5,.aj 1 []),(14,.v aQi),(15,.v yI),(16,.v yI)],[.var (.v aJ) ae,.var (.v bP) ae],[aQb,aQi,yI,yI,aJ,bP]⟩],Zd (xZ yD) yD⟩
def LR:HI:={ still:=[2,8,11,20,23,24,28,38,40,41,43,46,49]}
theorem ZvK:ZsT.bt yb 43 1:=Zt LR [] [tx] ⟨xG,ao⟩
def yA(F:Nat):(aQa×aQm×Int×Int×Tx)->yO ((aQa×aQm×Int×Int×Tx)⊕(aQa×Tx))
 |(j,i,h,g,k)=>
 if(ag (g < h))=ae then
  (idx i g).bind λl=>
  (Wq F j l.2.1).bind λm=>
  (Wq F m (l.2.2.1.length:Int)).bind λn=>
  (Zd (xZ F) F (n,i,h,g,l.2.2.1,(l.2.2.1.length:Int),0,k,l)).bind λ(a,c,d,e,f,b)=>
  (Vl F a b.2.2.2).bind λo=>
  ab (.inl (o,c,d,wi (e+1),f))
 else
 ab (.inr (j,k))
def ZsU:Lp:=⟨[(3,.v aQb),(14,.v aQi),(15,.v yI),(16,.v yI)],[.var (.v aJ) ae],[aQb,aQi,yI,yI,aJ],[⟨.exit 0,[(3,.v aQb)],[.var (.v aJ) ae],[aQb,aJ]⟩],Zd (yA yD) yD⟩
theorem ZvL:ZsU.bt yb 43 0:=Zt LR [(1,ZsT)] [oF,tx] ⟨ql,xG,ao⟩ ⟨ZvK,ao⟩
def qq(F:Nat)(a0:Tx):yO (aQa):=
 (lH F a0).bind λa=>
 if(!a)=ae then
  ab []
 else
 (tA F a0).bind λb=>
 (Zd (yA F) F (b,a0.1,(a0.1.length:Int),0,a0)).bind λc=>
 ab c.1
def ZvM:Fs yb:=⟨43,[.v aJ],[],[aJ],(zN aQb),λx=>qq yD x⟩
theorem ZCg:ZvM.Ok:=aQ LR [(0,ZsU)] [tj,KR] ⟨xi,ZsP,ao⟩ ⟨ZvL,ao⟩
def WA(F:Nat):(aQo×Int×Chan×yG×aQg×Chan×yG×Tx×aQo×yG)->yO ((aQo×Int×Chan×yG×aQg×Chan×yG×Tx×aQo×yG)⊕((Int×Chan×yG×aQg×Chan×yG×Tx×aQo×yG)⊕(Chan×yG×aQg×Chan×yG×Tx×aQo×yG)))
 |(b,a,d,e,f,g,h,i,j,c)=>
 if(ag (a < 2))=ae then
  (idx b a).bind λk=>
  if(ag (k < 0))=ae then
   if(bi a 2)=ae then
    (c.2.1[a.toNat]?).bind λl=>
    if(bi (wi (1 - a)) 2)=ae then
     (d.2.2.2.1[(wi (1 - a)).toNat]?).bind λm=>
     if(ag (l < m.2.1))=ae then
      ab (.inr (.inl (10,d,e,f,g,h,i,j,c)))
     else
     ab (.inl (b,wi (a+1),d,e,f,g,h,i,j,c))
    else
    ad
   else
   ad
  else
  ab (.inl (b,wi (a+1),d,e,f,g,h,i,j,c))
 else
 ab (.inr (.inr (d,e,f,g,h,i,j,c)))
def LS:yL bC:=[.var (.v Zf) ae,.var (.v Zc) ae,.var (.v aQc) ae,.var (.v Zf) ae,.var (.v Zc) ae,.var (.v aJ) ae,.var (.v aQl) ae,.var (.v Zc) ae]
abbrev tL8:yL Ty:=[yI,Zf,Zc,aQc,Zf,Zc,aJ,aQl,Zc]
abbrev tL9:yL Ty:=[aQl,yI,Zf,Zc,aQc,Zf,Zc,aJ,aQl,Zc]
def ZmD:Lp:=⟨[(3,.aj 0 []),(5,.aj 2 []),(6,.aj 3 []),(7,.aj 4 []),(8,.aj 5 []),(11,.aj 6 []),(13,.aj 7 []),(62,.v aQl),(63,.v yI)],LS,tL9,[⟨.ret,[(6,.aj 3 []),(7,.aj 4 []),(8,.aj 5 []),(9,.v yI)],LS,tL8⟩,⟨.exit 0,[(3,.aj 0 []),(5,.aj 2 []),(6,.aj 3 []),(7,.aj 4 []),(8,.aj 5 []),(11,.aj 6 []),(13,.aj 7 [])],LS,[Zf,Zc,aQc,Zf,Zc,aJ,aQl,Zc]⟩],Zd (WA yD) yD⟩
def yC:HI:={ own:=[106,112,126,131,135,138],still:=[9,23,31,32,39,48,49,96,97,109,142,143,152]}
theorem ZqG:ZmD.bt yb 10 0:=Zt yC [] [] trivial
abbrev dT3:Type:=(Chan×yG×aQg×Chan×yG×Tx×aQo×yG×Chan×aQm×aQr×Int)
end
end Go.Proofs.YtcbhhaigilifgaaGreat
end
section
set_option maxRecDepth 10000
namespace Go.Proofs.YtcbhhaigilifgaaGreat
open Go Go.Ev
noncomputable section
theorem ZM2{ops:Array Oper}{n:Nat}(f:ops.size=n)(h:((yn n).all λi=>(yn n).all λj=>aX ops.toList i==ad || !(aX ops.toList i==aX ops.toList j) || decide (i=j))=ae):
 ∀i j,i < ops.size->j < ops.size->aX ops.toList i≠ad->aX ops.toList i=aX ops.toList j->i=j:=by
 rw[f];intro i j g l;have m:=List.all_eq_true.1 (List.all_eq_true.1 h i (List.mem_range.2 g)) j (List.mem_range.2 l)
 all_goals grind
abbrev oI(f:ZO):In:=(f,(0,[],0))
abbrev kI(m:Int)(l:ZC):Out:=(m,l)
abbrev ZPG(c:Chan)(m:Int):Chan:=(c.1,m,c.2.2)
noncomputable def LU:Pl:=match bf yb 91 with|.p (.agg [_,w])=>w|_=>default
noncomputable def tM(f:ZO):Pl:=.agg [ZQ.enc f,LU]
theorem za(f:ZO):bF (tM f) (bP.enc (oI f)):=by
 have h:LU.soft=Y2.enc ((0,[],0):WK):=by kernel_rfl
 exact bF.jy (aY.cons (bF.refl _) (aY.cons (h ▸ md LU) aY.nil))
noncomputable def ltZ:yL Pl:=match bf yb 49 with|.p (.agg z)=>z|_=>[]
theorem ZCh{g:FuncId}{M:Ty.aK [Zf]->yO (bX.sum (zN Zv))}(h:Fs.Ok (⟨g,[.v Zf],[],[Zf],(zN Zv),M⟩:Fs yb)){a:Chan}{l:ZC}(hM:M a=ab l):
 bZ yb g [.p (Zf.enc a)] [] (.p (Zv.enc l)) []:=by
 obtain⟨m,R,H,f,y,z⟩:=h a l hM;have j:Sh.fills [.v Zf] (dq [Zf] a)=ab ([.p (.v Zf a)],[]):=by kernel_rfl
 have f:=j.symm.trans f;cases f;cases y;obtain⟨r,A,B⟩:=z _ _ ([.p (.v Zv l)],[]) ⟨rfl,rfl⟩ (by kernel_rfl);cases A;exact B
theorem ZFL{ops:Array Oper}{X:Nat->Bool}(hc:jf ops X){i j:Nat}(hi:i < ops.size)(he:bS (be ops i) j=ae)(g:X j=af):X i=af:=by
 cases h:X i with
 |false=>rfl
 |true=>
  have l:ops[i]? =ab (be ops i):=by
   unfold be;simp_all
  unfold bS at he;obtain⟨x,m,f⟩:=Array.any_eq_true'.1 he;simp only[yi,yT]at f;have:=hc i _ l h x m f.2;rw[f.1,g]at this;cases this
noncomputable def jS:Array Oper:=match QT (ZL yb 10) 29 with|.region _ ops _=>ops|_=> #[]
noncomputable def ZQI:Nat:=match QT (ZL yb 10) 29 with|.region id _ _=>id|_=>0
theorem ZMf:QT (ZL yb 10) 29=.region ZQI jS ae:=by kernel_rfl
theorem tN:jS.size=13:=by kernel_rfl
noncomputable def oJ(a:Chan)(f:Chan)(l:ZC)(m:Int)(e1 e2 g e4 e5 e6 h:aq):Nat->Dv
 |0=>.aj 0 0 [0]
 |1=>.p (ZQ.enc a.1)
 |2=>.p (tM a.1)
 |3=>.own 9 ad bP.size [bP.enc (oI a.1)]
 |4=>.aj 8 33 [1]
 |5=>.p (.int .i64 m)
 |6=>.p (Zf.enc a)
 |7=>.p (Zv.enc l)
 |8=>.p (Yn.enc (kI m l))
 |9=>.own 10 ad Yn.size [Yn.enc (kI m l)]
 |10=>.agg [.own 9 ad bP.size [bP.enc (oI a.1)],.own 10 ad Yn.size [Yn.enc (kI m l)],.p (.int .i64 0)]
 |11=>.aj 11 0 []
 |_=>.ak
noncomputable def jT(a:Chan)(h:Chan)(l:ZC)(m:Int)(e1 e2 j e4 e5 e6 y:aq)(z A f g:Bool):yL aq:=aq.var (.p (Zf.enc a)) ae::e1::e2::j::e4::e5::e6::y::aq.var (.p (Zf.enc (ZPG h m))) ae::(match z with|true=>aq.log bP.size 91 [bP.enc (oI a.1)]|false=>.gone)::(match A with|true=>aq.log Yn.size 79 [Yn.enc (kI m l)]|false=>.gone)::(match g with|true=>aq.var (oJ a h l m e1 e2 j e4 e5 e6 y 10) ae|false=>(match f with|true=>aq.var (bf yb 49) ae|false=>.gone))::[]
noncomputable def LV(a:Chan)(f:Chan)(l:ZC)(m:Int)(e1 e2 g e4 e5 e6 h:aq):yL aq:=aq.var (.p (Zf.enc a)) ae::e1::e2::g::e4::e5::e6::h::aq.var (.p (Zf.enc (ZPG f m))) ae::[]
noncomputable def fp(a:Chan)(f:Chan)(l:ZC)(m:Int)(e1 e2 g e4 e5 e6 h:aq)(X:Nat->Bool):yL aq:=jT a f l m e1 e2 g e4 e5 e6 h (X 3) (X 9) (X 11) (X 12)
theorem lJ(a:Chan)(f:Chan)(l:ZC)(m:Int)(e1 e2 g e4 e5 e6 h:aq){X:Nat->Bool}{i:Nat}(h1:3≠i)(h2:9≠i)(h3:11≠i)(h4:12≠i):fp a f l m e1 e2 g e4 e5 e6 h (λj=>X j || decide (j=i))=fp a f l m e1 e2 g e4 e5 e6 h X:=by
 unfold fp;grind
noncomputable def LW:Nat->yL Nat×yL Nat
 |0=>([],[3])
 |1=>([0],[])
 |2=>([1],[])
 |3=>([2],[])
 |4=>([],[16])
 |5=>([4],[])
 |6=>([],[3])
 |7=>([6],[])
 |8=>([5,7],[])
 |9=>([8],[])
 |10=>([3,9],[])
 |11=>([],[])
 |12=>([10,11],[])
 |_=>([],[])
noncomputable def oK(a:Chan)(f:Chan)(l:ZC)(m:Int)(e1 e2 g e4 e5 e6 h:aq):yL Dv:=((yn 160).map λs=>match s with|3=>.aj 0 0 []|5=>.aj 2 0 []|6=>.aj 3 0 []|7=>.aj 4 0 []|8=>.aj 5 0 []|13=>.aj 7 0 []|16=>.aj 8 0 []|_=>Dv.ak)
noncomputable def ZPH(a:Chan)(f:Chan)(l:ZC)(m:Int)(e1 e2 g e4 e5 e6 h:aq):yL Dv:=dg (oK a f l m e1 e2 g e4 e5 e6 h).length (aX jS.toList) (oJ a f l m e1 e2 g e4 e5 e6 h) (oK a f l m e1 e2 g e4 e5 e6 h) [11] [5,6,7,8,13,16]
abbrev iL(a:Chan)(f:Chan)(l:ZC)(m:Int)(e1 e2 g e4 e5 e6 h:aq)(i:Nat):Prop:=∀X:Nat->Bool,X i=af->(∀j,bS (be jS i) j=ae->X j=ae)->jf jS X->∀(J':Sg)(y:Act),Ok J'->J'.H=fp a f l m e1 e2 g e4 e5 e6 h X->
 aB J' (dg (oK a f l m e1 e2 g e4 e5 e6 h).length (aX jS.toList) (oJ a f l m e1 e2 g e4 e5 e6 h) (oK a f l m e1 e2 g e4 e5 e6 h) (LW i).1 (LW i).2) y->YZ yb (be jS i) y J' (oJ a f l m e1 e2 g e4 e5 e6 h i) (fp a f l m e1 e2 g e4 e5 e6 h (λj=>X j || decide (j=i)))
theorem ZPI(a:Chan)(f:Chan)(l:ZC)(m:Int)(e1 e2 g e4 e5 e6 h:aq):iL a f l m e1 e2 g e4 e5 e6 h 0:=by
 intro X A B E J' F y j z;rw[lJ a f l m e1 e2 g e4 e5 e6 h (by decide) (by decide) (by decide) (by decide), <-j];exact Ye (hs:=[]) (C:=[]) (hs':=[]) y z (by rw[j];kernel_rfl) trivial
theorem ZPJ(a:Chan)(f:Chan)(l:ZC)(m:Int)(e1 e2 g e4 e5 e6 h:aq):iL a f l m e1 e2 g e4 e5 e6 h 1:=by
 intro X A B E J' F y j z;rw[lJ a f l m e1 e2 g e4 e5 e6 h (by decide) (by decide) (by decide) (by decide), <-j];exact Ye (hs:=[]) (C:=[(0:Nat)=0]) (hs':=[]) y z (by rw[j];kernel_rfl) ⟨rfl,ao⟩
theorem ZPK(a:Chan)(f:Chan)(l:ZC)(m:Int)(e1 e2 g e4 e5 e6 h:aq):iL a f l m e1 e2 g e4 e5 e6 h 2:=by
 intro X A B E J' F y j z;rw[lJ a f l m e1 e2 g e4 e5 e6 h (by decide) (by decide) (by decide) (by decide), <-j];exact Ye (hs:=[]) (C:=[]) (hs':=[]) y z (by rw[j];kernel_rfl) trivial
theorem ZPL(a:Chan)(g:Chan)(l:ZC)(m:Int)(e1 e2 y e4 e5 e6 z:aq):iL a g l m e1 e2 y e4 e5 e6 z 3:=by
 intro X F R S J' T G B I;have M:fp a g l m e1 e2 y e4 e5 e6 z X=jT a g l m e1 e2 y e4 e5 e6 z af (X 9) (X 11) (X 12):=by unfold fp;rw[F]
 have Q:fp a g l m e1 e2 y e4 e5 e6 z (λj=>X j || decide (j=3))=jT a g l m e1 e2 y e4 e5 e6 z ae (X 9) (X 11) (X 12):=by
  unfold fp;grind
 rw[Q];rw[M]at B
 obtain⟨A,E⟩:∃A,yb.info? 91=ab A:=by
  cases h:yb.info? 91 with
  |none=>have:=(by kernel_rfl:(yb.info? 91).isSome=ae);rw[h]at this;cases this
  |some A=>exact⟨A,rfl⟩
 have f:(yb.info? 91).map (λi=>(cq i,i.size))=ab (ae,bP.size):=by kernel_rfl
 rw[E]at f;simp only[yae,yo,yq]at f;have h:=vy (P:=yb) (o:=be jS 3) (t:=47) (e:=91) (i:=A) (len:=1) (id:=9) (parts:= #[(0,.tmp 105)]) (xs:=[tM a.1]) G I (by rw[B];kernel_rfl) (by kernel_rfl) (by kernel_rfl) E f.1 (by rw[f.2];decide) (by rw[f.2];decide) (by kernel_rfl);rw[f.2,B]at h;exact Vg (Vg h (Wk.fT (aY.cons (za a.1) aY.nil)) (ca.bA _ _ (.log (aY.cons (za a.1) aY.nil)))) (Wk.refl _) (ca.of_eq (by kernel_rfl))
theorem ZPM(a:Chan)(f:Chan)(l:ZC)(m:Int)(e1 e2 g e4 e5 e6 h:aq):iL a f l m e1 e2 g e4 e5 e6 h 4:=by
 intro X A B E J' F y j z;rw[lJ a f l m e1 e2 g e4 e5 e6 h (by decide) (by decide) (by decide) (by decide), <-j];exact Ye (hs:=[]) (C:=[]) (hs':=[]) y z (by rw[j];kernel_rfl) trivial
theorem ZPN(a:Chan)(f:Chan)(l:ZC)(m:Int)(e1 e2 g e4 e5 e6 h:aq):iL a f l m e1 e2 g e4 e5 e6 h 5:=by
 intro X A B E J' F y j z;rw[lJ a f l m e1 e2 g e4 e5 e6 h (by decide) (by decide) (by decide) (by decide), <-j];exact Ye (hs:=[]) (C:=[(33:Nat)=33]) (hs':=[]) y z (by rw[j];kernel_rfl) ⟨rfl,ao⟩
theorem ZPO(a:Chan)(f:Chan)(l:ZC)(m:Int)(e1 e2 g e4 e5 e6 h:aq):iL a f l m e1 e2 g e4 e5 e6 h 6:=by
 intro X A B E J' F y j z;rw[lJ a f l m e1 e2 g e4 e5 e6 h (by decide) (by decide) (by decide) (by decide), <-j];exact Ye (hs:=[]) (C:=[(0:Nat)=0]) (hs':=[]) y z (by rw[j];kernel_rfl) ⟨rfl,ao⟩
theorem ZPP(a:Chan)(f:Chan)(l:ZC)(m:Int)(e1 e2 g e4 e5 e6 h:aq)(y:bZ yb 23 [.p (Zf.enc a)] [] (.p (Zv.enc l)) []):iL a f l m e1 e2 g e4 e5 e6 h 7:=by
 intro X B E F J' G z j A;rw[lJ a f l m e1 e2 g e4 e5 e6 h (by decide) (by decide) (by decide) (by decide), <-j];exact Ye (hs:=[.call (.p (Zv.enc l)) [] []]) (C:=[bZ yb 23 [.p (Zf.enc a)] [] (.p (Zv.enc l)) []]) (hs':=[]) z A (by rw[j];kernel_rfl) ⟨y,ao⟩
theorem ZPQ(a:Chan)(f:Chan)(l:ZC)(m:Int)(e1 e2 g e4 e5 e6 h:aq):iL a f l m e1 e2 g e4 e5 e6 h 8:=by
 intro X A B E J' F y j z;rw[lJ a f l m e1 e2 g e4 e5 e6 h (by decide) (by decide) (by decide) (by decide), <-j];exact Ye (hs:=[]) (C:=[]) (hs':=[]) y z (by rw[j];kernel_rfl) trivial
theorem ZPR(a:Chan)(g:Chan)(l:ZC)(m:Int)(e1 e2 y e4 e5 e6 z:aq):iL a g l m e1 e2 y e4 e5 e6 z 9:=by
 intro X F R S J' T G B I;have M:fp a g l m e1 e2 y e4 e5 e6 z X=jT a g l m e1 e2 y e4 e5 e6 z (X 3) af (X 11) (X 12):=by unfold fp;rw[F]
 have Q:fp a g l m e1 e2 y e4 e5 e6 z (λj=>X j || decide (j=9))=jT a g l m e1 e2 y e4 e5 e6 z (X 3) ae (X 11) (X 12):=by
  unfold fp;grind
 rw[Q];rw[M]at B
 obtain⟨A,E⟩:∃A,yb.info? 79=ab A:=by
  cases h:yb.info? 79 with
  |none=>have:=(by kernel_rfl:(yb.info? 79).isSome=ae);rw[h]at this;cases this
  |some A=>exact⟨A,rfl⟩
 have f:(yb.info? 79).map (λi=>(cq i,i.size))=ab (ae,Yn.size):=by kernel_rfl
 rw[E]at f;simp only[yae,yo,yq]at f;have h:=vy (P:=yb) (o:=be jS 9) (t:=41) (e:=79) (i:=A) (len:=1) (id:=10) (parts:= #[(0,.tmp 111)]) (xs:=[Yn.enc (kI m l)]) G I (by rw[B];kernel_rfl) (by kernel_rfl) (by kernel_rfl) E f.1 (by rw[f.2];decide) (by rw[f.2];decide) (by kernel_rfl);rw[f.2,B]at h;exact Vg (Vg h (Wk.fT (aY.refl _)) (ca.bA _ _ (.log (aY.refl _)))) (Wk.refl _) (ca.of_eq (by kernel_rfl))
theorem ZOt(a:Chan)(f:Chan)(l:ZC)(m:Int)(e1 e2 g e4 e5 e6 h:aq):iL a f l m e1 e2 g e4 e5 e6 h 10:=by
 intro X A B E J' F j y z;rw[lJ a f l m e1 e2 g e4 e5 e6 h (by decide) (by decide) (by decide) (by decide), <-y];exact Zsp (P:=yb) (zs:=ltZ) j z (parts:= #[(0,.tmp 106),(1,.tmp 112)]) (by kernel_rfl) Tryz.underlying49 (by kernel_rfl) (by kernel_rfl) (by kernel_rfl)
theorem ZOu(a:Chan)(f:Chan)(l:ZC)(m:Int)(e1 e2 g e4 e5 e6 y:aq):iL a f l m e1 e2 g e4 e5 e6 y 11:=by
 intro X B S G J' I M A T;have hs:X 12=af:=ZFL G (i:=12) (j:=11) (by rw[tN];decide) (by kernel_rfl) B;have Q:fp a f l m e1 e2 g e4 e5 e6 y X=jT a f l m e1 e2 g e4 e5 e6 y (X 3) (X 9) af af:=by unfold fp;rw[B,hs]
 have R:fp a f l m e1 e2 g e4 e5 e6 y (λj=>X j || decide (j=11))=jT a f l m e1 e2 g e4 e5 e6 y (X 3) (X 9) ae af:=by
  unfold fp;grind
 rw[R];rw[Q]at A
 obtain⟨z,E⟩:∃z,yb.info? 49=ab z:=by
  cases h:yb.info? 49 with
  |none=>have:=(by kernel_rfl:(yb.info? 49).isSome=ae);rw[h]at this;cases this
  |some z=>exact⟨z,rfl⟩
 have F:(yb.info? 49).map (λi=>i.zero.isSome)=ab ae:=by kernel_rfl
 rw[E]at F;have h:=va (P:=yb) (o:=be jS 11) (a:=I) (t:=49) (i:=z) (id:=11) M (by rw[A];kernel_rfl) (by kernel_rfl) E (by simpa using F) (by kernel_rfl) (by kernel_rfl);rw[A]at h;exact Vg h (Wk.refl _) (ca.of_eq (by kernel_rfl))
theorem ZOv(a:Chan)(f:Chan)(l:ZC)(m:Int)(e1 e2 g e4 e5 e6 z:aq):iL a f l m e1 e2 g e4 e5 e6 z 12:=by
 intro X E A T J' U F B G;have I:=A 3 (by kernel_rfl);have M:=A 9 (by kernel_rfl);have Q:=A 11 (by kernel_rfl);have R:fp a f l m e1 e2 g e4 e5 e6 z X=jT a f l m e1 e2 g e4 e5 e6 z ae ae ae af:=by unfold fp;rw[E,I,M,Q]
 have S:fp a f l m e1 e2 g e4 e5 e6 z (λj=>X j || decide (j=12))=jT a f l m e1 e2 g e4 e5 e6 z ae ae ae ae:=by
  unfold fp;grind
 rw[S];rw[R]at B;have h:=vx (P:=yb) (o:=be jS 12) (t:=49) (x:=.tmp 17) (y:=.tmp 113) (id:=11) (off:=0) (yQ:=[]) (dd:=bf yb 49) (sub:=bf yb 49) (new:=oJ a f l m e1 e2 g e4 e5 e6 z 10) (dd':=oJ a f l m e1 e2 g e4 e5 e6 z 10) (C1:=[]) (off':=0) (hs:=[]) (hs':=[]) F G (by kernel_rfl) (by kernel_rfl) (by rw[B];kernel_rfl) (by kernel_rfl) trivial rfl (by kernel_rfl) (by kernel_rfl) (by kernel_rfl) (by kernel_rfl) (by kernel_rfl) (by kernel_rfl);rw[B]at h;exact Vg h (Wk.refl _) (ca.of_eq (by kernel_rfl))
theorem ZMg(a:Chan)(f:Chan)(l:ZC)(m:Int)(e1 e2 g e4 e5 e6 j:aq)(z:bZ yb 23 [.p (Zf.enc a)] [] (.p (Zv.enc l)) []):XZ yb (QT (ZL yb 10) 29) (oK a f l m e1 e2 g e4 e5 e6 j) (LV a f l m e1 e2 g e4 e5 e6 j) .normal (ZPH a f l m e1 e2 g e4 e5 e6 j) (jT a f l m e1 e2 g e4 e5 e6 j ae ae ae ae):=by
 rw[ZMf];refine CI (k:=3) (ts:=oK a f l m e1 e2 g e4 e5 e6 j) (H0:=LV a f l m e1 e2 g e4 e5 e6 j) (by kernel_rfl) (oJ a f l m e1 e2 g e4 e5 e6 j) (fp a f l m e1 e2 g e4 e5 e6 j) LW (ZM2 tN (by kernel_rfl)) (by kernel_rfl) (by rw[tN];kernel_rfl) (by kernel_rfl) (λX A=> ?_) [11] [5,6,7,8,13,16] (by kernel_rfl) (by kernel_rfl) (λi y=> ?_)
 .unfold fp;rw[tN]at A;grind
 .rw[tN]at y
  match i,y with
  |0,_=>exact ZPI a f l m e1 e2 g e4 e5 e6 j
  |1,_=>exact ZPJ a f l m e1 e2 g e4 e5 e6 j
  |2,_=>exact ZPK a f l m e1 e2 g e4 e5 e6 j
  |3,_=>exact ZPL a f l m e1 e2 g e4 e5 e6 j
  |4,_=>exact ZPM a f l m e1 e2 g e4 e5 e6 j
  |5,_=>exact ZPN a f l m e1 e2 g e4 e5 e6 j
  |6,_=>exact ZPO a f l m e1 e2 g e4 e5 e6 j
  |7,_=>exact ZPP a f l m e1 e2 g e4 e5 e6 j z
  |8,_=>exact ZPQ a f l m e1 e2 g e4 e5 e6 j
  |9,_=>exact ZPR a f l m e1 e2 g e4 e5 e6 j
  |10,_=>exact ZOt a f l m e1 e2 g e4 e5 e6 j
  |11,_=>exact ZOu a f l m e1 e2 g e4 e5 e6 j
  |12,_=>exact ZOv a f l m e1 e2 g e4 e5 e6 j
  |_+13,h=>exact absurd h (by omega)
end
end Go.Proofs.YtcbhhaigilifgaaGreat
end
section
set_option maxRecDepth 4000
namespace Go.Proofs.YtcbhhaigilifgaaGreat
open Go Go.Ev
noncomputable section
def LX(F:Nat):(Chan×yG×aQg×Chan×yG×Tx×aQo×yG×Chan)->yO dT3
 |(a,b,c,d,e,f,g,h,i)=>
 (QB F a).bind λj=>
 ab (a,b,c,d,e,f,g,h,i,[(a.1,(0,[],0))],[(i.2.1,j)],0)
def LY:yL bC:=[.var (.v Zf) ae,.var (.v Zc) ae,.var (.v aQc) ae,.var (.v Zf) ae,.var (.v Zc) ae,.var (.v aJ) ae,.var (.v aQl) ae,.var (.v Zc) ae,.var (.v Zf) ae,.log bP 91,.log Yn 79,.var (.agg [.own 9 bP,.own 10 Yn,.v yI]) ae]
abbrev ZPS:yL Ty:=[Zf,Zc,aQc,Zf,Zc,aJ,aQl,Zc,Zf,aQi,aQp,yI]
def ZQJ:yL bC:=[.var (.v Zf) ae,.var (.v Zc) ae,.var (.v aQc) ae,.var (.v Zf) ae,.var (.v Zc) ae,.var (.v aJ) ae,.var (.v aQl) ae,.var (.v Zc) ae,.var (.v Zf) ae]
def ZmF:Lp:=⟨[(3,.aj 0 []),(5,.aj 2 []),(6,.aj 3 []),(7,.aj 4 []),(8,.aj 5 []),(13,.aj 7 []),(16,.aj 8 [])],ZQJ,[Zf,Zc,aQc,Zf,Zc,aJ,aQl,Zc,Zf],[⟨.normal,[(5,.aj 2 []),(6,.aj 3 []),(7,.aj 4 []),(8,.aj 5 []),(13,.aj 7 []),(16,.aj 8 []),(17,.aj 11 [])],LY,ZPS⟩],LX yD⟩
theorem ZqI:ZmF.Is yb (VF yb 10) (QT (ZL yb 10) 29):=by
 intro v o y s hs e vs z g hs';obtain⟨z0,z1,z2,z3,z4,h,j,m,f⟩:=v;obtain⟨l,A,B⟩:=Option.bind_eq_some_iff.1 (show(QB yD z0).bind _=ab o from y)
 cases B;obtain⟨rfl,rfl⟩:=g;have r:=ZMg z0 f l f.2.1 (.var (.p (Ty.enc Zc z1)) ae) (.var (.p (Ty.enc aQc z2)) ae) (.var (.p (Ty.enc Zf z3)) ae) (.var (.p (Ty.enc Zc z4)) ae) (.var (.p (Ty.enc aJ h)) ae) (.var (.p (Ty.enc aQl j)) ae) (.var (.p (Ty.enc Zc m)) ae) (ZCh ZqA A);have t1:Option.map (λ(s:yL TD×yL ai)=>(TD.aE (lk s.2) s.1,aG s.2)) (ab s)=ab (oK z0 f l f.2.1 (.var (.p (Ty.enc Zc z1)) ae) (.var (.p (Ty.enc aQc z2)) ae) (.var (.p (Ty.enc Zf z3)) ae) (.var (.p (Ty.enc Zc z4)) ae) (.var (.p (Ty.enc aJ h)) ae) (.var (.p (Ty.enc aQl j)) ae) (.var (.p (Ty.enc Zc m)) ae),LV z0 f l f.2.1 (.var (.p (Ty.enc Zc z1)) ae) (.var (.p (Ty.enc aQc z2)) ae) (.var (.p (Ty.enc Zf z3)) ae) (.var (.p (Ty.enc Zc z4)) ae) (.var (.p (Ty.enc aJ h)) ae) (.var (.p (Ty.enc aQl j)) ae) (.var (.p (Ty.enc Zc m)) ae)):=by rw[<-hs];kernel_rfl
 have t2:Option.map (λ(s:yL TD×yL ai)=>(TD.aE (lk s.2) s.1,aG s.2)) (ab z)=ab (ZPH z0 f l f.2.1 (.var (.p (Ty.enc Zc z1)) ae) (.var (.p (Ty.enc aQc z2)) ae) (.var (.p (Ty.enc Zf z3)) ae) (.var (.p (Ty.enc Zc z4)) ae) (.var (.p (Ty.enc aJ h)) ae) (.var (.p (Ty.enc aQl j)) ae) (.var (.p (Ty.enc Zc m)) ae),jT z0 f l f.2.1 (.var (.p (Ty.enc Zc z1)) ae) (.var (.p (Ty.enc aQc z2)) ae) (.var (.p (Ty.enc Zf z3)) ae) (.var (.p (Ty.enc Zc z4)) ae) (.var (.p (Ty.enc aJ h)) ae) (.var (.p (Ty.enc aQl j)) ae) (.var (.p (Ty.enc Zc m)) ae) ae ae ae ae):=by rw[<-hs'];kernel_rfl
 simp only[yae,yo,yq]at t1 t2;rw[t1.1,t1.2,t2.1,t2.2];exact r
abbrev LZ:Type:=(aQg×Int×(yL Yo)×Int×Int×Chan×yG×aQg×Chan×yG×Tx×aQo×yG×Chan×aQm×aQr×Int×ah)
abbrev dT5:Type:=(aQg×Int×Chan×yG×aQg×Chan×yG×Tx×aQo×yG×Chan×aQm×aQr×Int×ah)
def Vd(F:Nat):LZ->yO (LZ⊕dT5)
 |(e,f,c,b,a,g,h,i,j,k,l,m,n,o,d,p,q,r)=>
 if(ag (a < b))=ae then
  (idx c a).bind λs=>
  if(cf d.length 1 80)=ae then
   let t:aQm:=d++([(s.1,(0,[],0))]:yL In)
   ab (.inl (e,f,c,b,wi (a+1),g,h,i,j,k,l,m,n,o,t,p,q,r))
  else
  ad
 else
 ab (.inr (e,f,g,h,i,j,k,l,m,n,o,d,p,q,r))
def ZPT:yL bC:=[.var (.v Zf) ae,.var (.v Zc) ae,.var (.v aQc) ae,.var (.v Zf) ae,.var (.v Zc) ae,.var (.v aJ) ae,.var (.v aQl) ae,.var (.v Zc) ae,.var (.v Zf) ae,.log bP 91,.log Yn 79,.var (.agg [.own 9 bP,.own 10 Yn,.v yI]) ae,.var (.v Za) ae]
abbrev ZQK:yL Ty:=[aQc,yI,Zf,Zc,aQc,Zf,Zc,aJ,aQl,Zc,Zf,aQi,aQp,yI,Za]
abbrev ZQL:yL Ty:=[aQc,yI,(.sl Xm),yI,yI,Zf,Zc,aQc,Zf,Zc,aJ,aQl,Zc,Zf,aQi,aQp,yI,Za]
def ZmG:Lp:=⟨[(6,.aj 3 []),(7,.aj 4 []),(8,.aj 5 []),(13,.aj 7 []),(16,.aj 8 []),(17,.aj 11 []),(19,.aj 12 []),(114,.v aQc),(115,.v yI),(119,.v (.sl Xm)),(120,.v yI),(121,.v yI)],ZPT,ZQL,[⟨.exit 4,[(6,.aj 3 []),(7,.aj 4 []),(8,.aj 5 []),(13,.aj 7 []),(16,.aj 8 []),(17,.aj 11 []),(19,.aj 12 []),(114,.v aQc),(115,.v yI)],ZPT,ZQK⟩],Zd (Vd yD) yD⟩
theorem ZqJ:ZmG.bt yb 10 2:=Zt yC [] [] trivial
abbrev dT6:Type:=(aQg×Int×Chan×yG×aQg×Chan×yG×Tx×aQo×yG×Chan×aQm×aQr×Int)
def WB(F:Nat):dT6->yO (dT6⊕dT3)
 |(q,p,r,t,u,v,w,x,y,z,A,B,C,D)=>
 if(ag (p < 2))=ae then
  (idx q p).bind λs=>
  (Zd (Vd F) F (q,p,s.1,(s.1.length:Int),0,r,t,u,v,w,x,y,z,A,B,C,D,s)).bind λ(c,d,e,f,g,h,i,j,k,l,m,n,a,o,b)=>
  if(cf a.length b.2.1.length 32)=ae then
   let E:aQr:=a++b.2.1
   ab (.inl (c,wi (d+1),e,f,g,h,i,j,k,l,m,n,E,o))
  else
  ad
 else
 ab (.inr (r,t,u,v,w,x,y,z,A,B,C,D))
abbrev ZQM:yL Ty:=[aQc,yI,Zf,Zc,aQc,Zf,Zc,aJ,aQl,Zc,Zf,aQi,aQp,yI]
def ZmH:Lp:=⟨[(6,.aj 3 []),(7,.aj 4 []),(8,.aj 5 []),(13,.aj 7 []),(16,.aj 8 []),(17,.aj 11 []),(114,.v aQc),(115,.v yI)],LY,ZQM,[⟨.exit 2,[(6,.aj 3 []),(7,.aj 4 []),(8,.aj 5 []),(13,.aj 7 []),(16,.aj 8 []),(17,.aj 11 [])],LY,ZPS⟩],Zd (WB yD) yD⟩
theorem ZqK:ZmH.bt yb 10 1:=Zt yC [(2,ZmG)] [] trivial ⟨ZqJ,ao⟩
def Vs(F:Nat)(a0:Chan)(a1:yG)(a2:aQg):yO ((Chan×yG×Tx×Int)):=
 (tC F a0).bind λs=>
 if(s !=0)=ae then
  ab (((dn,0),0,[(0,0,0,0,0),(0,0,0,0,0)],[(0,0,0,0,0,0),(0,0,0,0,0,0)],0),(0,[0,0],[],0),([],[],0),s)
 else
 (aL F a0 a1).bind λD=>
 if(!D)=ae then
  ab (((dn,0),0,[(0,0,0,0,0),(0,0,0,0,0)],[(0,0,0,0,0,0),(0,0,0,0,0,0)],0),(0,[0,0],[],0),([],[],0),14)
 else
 (xW F a2).bind λE=>
 if(!E.2)=ae then
  ab (((dn,0),0,[(0,0,0,0,0),(0,0,0,0,0)],[(0,0,0,0,0,0),(0,0,0,0,0,0)],0),(0,[0,0],[],0),([],[],0),1)
 else
 (ZP F a1 E.1).bind λG=>
 (G.2.1[0]?).bind λH=>
 (G.2.1[1]?).bind λI=>
 if(ag ((vS H I) < 0))=ae then
  ab (((dn,0),0,[(0,0,0,0,0),(0,0,0,0,0)],[(0,0,0,0,0,0),(0,0,0,0,0,0)],0),(0,[0,0],[],0),([],[],0),8)
 else
 (Zd (WA F) F (E.1,0,a0,a1,a2,((dn,0),0,[(0,0,0,0,0),(0,0,0,0,0)],[(0,0,0,0,0,0),(0,0,0,0,0,0)],0),(0,[0,0],[],0),([],[],0),E.1,G)).bind λJ=>
 match J with
 |.inl (d,_,_,_,a,b,c,_,_)=>
  ab (a,b,c,d)
 |.inr (w,B,C,y,z,A,v,x)=>
  (v[0]?).bind λK=>
  (v[1]?).bind λL=>
  (aL F (w.1,wi (w.2.1+(wi (K+L))),w.2.2.1,w.2.2.2.1,w.2.2.2.2) x).bind λM=>
  if(!M)=ae then
   ab (y,z,A,8)
  else
  (LX F (w,B,C,y,z,A,v,x,(w.1,wi (w.2.1+(wi (K+L))),w.2.2.1,w.2.2.2.1,w.2.2.2.2))).bind λ(j,k,i,l,m,n,o,p,q,r,t,u)=>
  (Zd (WB F) F (i,0,j,k,i,l,m,n,o,p,q,r,t,u)).bind λ(_,_,_,d,e,f,_,h,g,a,b,c)=>
  (qq F (a,b,c)).bind λN=>
  (oH F N).bind λO=>
  if(!O.2)=ae then
   ab (d,e,f,1)
  else
  (xL F O.1).bind λP=>
  (idx P 0).bind λQ=>
  ab ((Q,g.2.1,g.2.2.1,g.2.2.2.1,g.2.2.2.2),h,O.1,0)
def MC(F:Nat):Fs yb:=⟨10,[.v Zf,.v Zc,.v aQc],[],[Zf,Zc,aQc],[⟨.ret,[(0,.bm [.v Zf,.v Zc,.v aJ,.v yI])],[],[Zf,Zc,aJ,yI]⟩],λx=>Vs F x.1 x.2.1 x.2.2⟩
def Zoy:Fs yb:=MC yD
theorem MD:Zoy.Ok:=pX (fi:={ hi:=yC,lp:=[(0,ZmD),(1,ZmH)],bk:=[(29,ZmF)]}) (aF:={ l:=[KX,tI,Zjz,JD,ZvM,Zyc,Zyb]}) (kB ⟨Zqv,tJ,Zid,JE,ZCg,ZEo,ZEn,ao⟩) ⟨ZqG,ZqK,ao⟩ (hb:=⟨ZqI,ao⟩)
def ZmI(F:Nat)(s:(yU×aQa×Int×aQa)):yO ((yU×aQa×Int×aQa)⊕(yU×aQa)):=
 if(ag (s.2.2.1 < 32))=ae then
  (idx s.2.1 s.2.2.1).bind λa=>
  (ow F (ZE s.1 56) ((QR s.1 8)|||(yao a.toNat)) 2305843009213688668).bind λb=>
  ab (.inl (b,s.2.1,wi (s.2.2.1+1),s.2.2.2))
 else
 ab (.inr (s.1,s.2.2.2))
def Zoz:Lp:=⟨[(3,.v .u64),(6,.v aQe),(7,.v yI)],[.var (.v aQe) ae],[.u64,aQe,yI,aQe],[⟨.exit 0,[(3,.v .u64)],[.var (.v aQe) ae],[.u64,aQe]⟩],Zd (ZmI yD) yD⟩
theorem Zr2:Zoz.bt yb 70 0:=Zt { still:=[2,11,16]} [] [xb] ⟨JJ,ao⟩
def qr(F:Nat)(a0:aQa):yO (yU):=
 (Zd (ZmI F) F (0,a0,0,a0)).bind λa=>
 ab (a.1+1)
def qt:Fs yb:=⟨70,[.v aQe],[],[aQe],(zN .u64),λx=>qr yD x⟩
theorem tO:qt.Ok:=aQ { still:=[2,11,16]} [(0,Zoz)] [] trivial ⟨Zr2,ao⟩
abbrev eV:Ty:=(.st [.u64,.u64,.u64,.u64,.u64,aQe])
abbrev fq:Type:=(yU×yU×yU×yU×yU×aQa)
abbrev fq.Cond(x:fq):yU:=x.2.2.2.1
def ZM3:ByteArray:=⟨#[107,105,116]⟩
def ZqL(F:Nat)(s:(Int×aQa×fq×aQq)):yO ((Int×aQa×fq×aQq)⊕(aQa×fq×aQq)):=
 if(ag (s.1 < 5))=ae then
  (QJ F ZM3 [s.2.1,[w8 (wi (s.1+1))]]).bind λa=>
  (qr F a).bind λb=>
  if(bi s.1 5)=ae then
   (s.2.2.2[s.1.toNat]?).bind λc=>
   ab (.inl (wi (s.1+1),s.2.1,s.2.2.1,s.2.2.2.set s.1.toNat b))
  else
  ad
 else
 ab (.inr (s.2.1,s.2.2.1,s.2.2.2))
def ZsV:Lp:=⟨[(1,.aj 0 []),(2,.aj 1 []),(3,.aj 2 []),(5,.v yI)],[.var (.v aQe) af,.var (.v eV) ae,.var (.v (.arr 5 .u64)) ae],[yI,aQe,eV,(.arr 5 .u64)],[⟨.exit 0,[(1,.aj 0 []),(2,.aj 1 []),(3,.aj 2 [])],[.var (.v aQe) af,.var (.v eV) ae,.var (.v (.arr 5 .u64)) ae],[aQe,eV,(.arr 5 .u64)]⟩],Zd (ZqL yD) yD⟩
def ZPU:HI:={ still:=[14,15,31],dX:=[9,29]}
theorem ZvN:ZsV.bt yb 54 0:=Zt ZPU [] [mS,qt] ⟨oD,tO,ao⟩
def Zyd(F:Nat)(a0:aQa):yO (fq):=
 (Zd (ZqL F) F (0,a0,(0,0,0,0,0,dn),[0,0,0,0,0])).bind λa=>
 (a.2.2[0]?).bind λb=>
 (a.2.2[1]?).bind λc=>
 (a.2.2[2]?).bind λd=>
 (a.2.2[3]?).bind λe=>
 (a.2.2[4]?).bind λf=>
 (QJ F ZM3 [a.1,[6]]).bind λg=>
 ab (b,c,d,e,f,g)
def ZvO:Fs yb:=⟨54,[.v aQe],[],[aQe],(zN eV),λx=>Zyd yD x⟩
theorem ZCi:ZvO.Ok:=aQ ZPU [(0,ZsV)] [mS] ⟨oD,ao⟩ ⟨ZvN,ao⟩
def zb(F:Nat)(a0:yU):yO (yU):=
 (XD F a0).bind λa=>
 if a=ae then
  ab a0
 else
 ab 1
def zc:Fs yb:=⟨184,[.v .u64],[],[.u64],(zN .u64),λx=>zb yD x⟩
theorem ME:zc.Ok:=aQ { still:=[2,3]} [] [VG] ⟨VZ,ao⟩
def tP(F:Nat)(a0:yU)(a1:yU):yO (yU):=
 (zb F a0).bind λa=>
 (qd F a (a1 % 2305843009213688669)).bind λb=>
 ab b
def ze:Fs yb:=⟨126,[.v .u64,.v .u64],[],[.u64,.u64],(zN .u64),λx=>tP yD x.1 x.2⟩
theorem MF:ze.Ok:=aQ { still:=[4,5,6,8]} [] [zc,xg] ⟨ME,JR,ao⟩
def Wj(F:Nat)(a0:yU):yO (yU):=
 (tP F 4 a0).bind λa=>
 ab a
def qu:Fs yb:=⟨69,[.v .u64],[],[.u64],(zN .u64),λx=>Wj yD x⟩
theorem tQ:qu.Ok:=aQ { still:=[2,3]} [] [ze] ⟨MF,ao⟩
def ZqM(F:Nat)(a0:fq):yO (bp):=
 (Wj F a0.1).bind λa=>
 (Wj F a0.2.1).bind λb=>
 (Wj F a0.2.2.1).bind λc=>
 (Wj F a0.2.2.2.1).bind λd=>
 (Wj F a0.2.2.2.2.1).bind λe=>
 ab (a,b,c,d,e)
def ZoA:Fs yb:=⟨55,[.v eV],[],[eV],(zN jR),λx=>ZqM yD x⟩
theorem ZvP:ZoA.Ok:=aQ { still:=[4,7,10,13,16]} [] [qu] ⟨tQ,ao⟩
def ZoB(F:Nat)(a0:Cond)(s0:Int)(s1:Int):yO ((Bool×Int×Int)):=
 if(a0.1==s0)=ae then
  ab (a0.2.1==s1,s0,s1)
 else
 ab (af,s0,s1)
def ZmJ:Fs yb:=⟨178,[.v Zy,.aj 0 [],.aj 1 []],[.var (.v yI) ae,.var (.v yI) ae],[Zy,yI,yI],[⟨.ret,[(0,.v .bool)],[.var (.v yI) ae,.var (.v yI) ae],[.bool,yI,yI]⟩],λx=>ZoB yD x.1 x.2.1 x.2.2⟩
theorem Ztw:ZmJ.Ok:=aQ { still:=[4]} [] [] trivial
def ZjB(F:Nat):(aQn×Int×Int×Int×Int)->yO ((aQn×Int×Int×Int×Int)⊕((Int×Int×Int)⊕(Int×Int)))
 |(c,b,a,d,e)=>
 if(ag (a < b))=ae then
  (idx c a).bind λf=>
  (ZoB F f d e).bind λg=>
  if g.1=ae then
   ab (.inr (.inl (a,g.2.1,g.2.2)))
  else
  ab (.inl (c,b,wi (a+1),g.2.1,g.2.2))
 else
 ab (.inr (.inr (d,e)))
def Zlj:Lp:=⟨[(0,.v aQj),(1,.fn 178 [.aj 0 [],.aj 1 []]),(7,.v yI),(8,.v yI)],[.var (.v yI) ae,.var (.v yI) ae],[aQj,yI,yI,yI,yI],[⟨.ret,[(4,.v yI)],[.var (.v yI) ae,.var (.v yI) ae],[yI,yI,yI]⟩,⟨.exit 0,[],[.var (.v yI) ae,.var (.v yI) ae],[yI,yI]⟩],Zd (ZjB yD) yD⟩
theorem Zpe:Zlj.bt yb 177 0:=Zt { still:=[4,15]} [] [ZmJ] ⟨Ztw,ao⟩
def ZoC(F:Nat)(a0:aQn)(s0:Int)(s1:Int):yO ((Int×Int×Int)):=
 (Zd (ZjB F) F (a0,(a0.length:Int),0,s0,s1)).bind λa=>
 match a with
 |.inl b=>
  ab (b.1,b.2.1,b.2.2)
 |.inr c=>
  ab ((-1),c.1,c.2)
def ZmK:Fs yb:=⟨177,[.v aQj,.fn 178 [.aj 0 [],.aj 1 []]],[.var (.v yI) ae,.var (.v yI) ae],[aQj,yI,yI],[⟨.ret,[(0,.v yI)],[.var (.v yI) ae,.var (.v yI) ae],[yI,yI,yI]⟩],λx=>ZoC yD x.1 x.2.1 x.2.2⟩
theorem Ztx:ZmK.Ok:=aQ { still:=[4,15]} [(0,Zlj)] [] trivial ⟨Zpe,ao⟩
def ZsW(F:Nat)(a0:yG)(a1:Int)(a2:Int):yO ((Cond×Bool)):=
 (ZoC F a0.2.2.1 a1 a2).bind λa=>
 if(ag (a.1 < 0))=ae then
  ab ((0,0,0,0,0),af)
 else
 (idx a0.2.2.1 a.1).bind λb=>
 ab (b,ae)
def ZqN:Fs yb:=⟨114,[.v Zc,.v yI,.v yI],[],[Zc,yI,yI],[⟨.ret,[(0,.bm [.v Zy,.v .bool])],[],[Zy,.bool]⟩],λx=>ZsW yD x.1 x.2.1 x.2.2⟩
theorem Zw8:ZqN.Ok:=aQ { still:=[7,10,11]} [] [ZmK] ⟨Ztx,ao⟩
def ZQN:HI:={ own:=[0,23,25,34,40,60],still:=[6,61,66,91,92]}
def ZjC(F:Nat):(aQn×Int×Int×Int×Cond)->yO ((aQn×Int×Int×Int×Cond)⊕(aQn×Int×Int×Cond))
 |(c,e,a,b,d)=>
 if(ag (a < b))=ae then
  let f:Int:=wi ((ZE (dj (wi (a+b))) 1).toNat:Int)
  (idx c f).bind λg=>
  (qo F g d).bind λh=>
  if(ag (h < 0))=ae then
   ab (.inl (c,e,wi (f+1),b,d))
  else
  ab (.inl (c,e,a,f,d))
 else
 ab (.inr (c,e,a,d))
def Zlk:Lp:=⟨[(0,.v aQj),(2,.fn 61 []),(4,.aj 0 []),(8,.v yI),(9,.v yI),(10,.v yI)],[.var (.v Zy) ae],[aQj,yI,yI,yI,Zy],[⟨.exit 0,[(0,.v aQj),(2,.fn 61 []),(4,.aj 0 []),(8,.v yI),(9,.v yI)],[.var (.v Zy) ae],[aQj,yI,yI,Zy]⟩],Zd (ZjC yD) yD⟩
theorem Zpf:Zlk.bt yb 179 0:=Zt { still:=[6,7,28,29,44,45]} [] [xU] ⟨LC,ao⟩
def ZoD(F:Nat)(a0:aQn)(a1:Cond):yO ((Int×Bool)):=
 (Zd (ZjC F) F (a0,(a0.length:Int),0,(a0.length:Int),a1)).bind λa=>
 if(ag (a.2.2.1 < a.2.1))=ae then
  (idx a.1 a.2.2.1).bind λb=>
  (qo F b a.2.2.2).bind λc=>
  ab (a.2.2.1,c==0)
 else
 ab (a.2.2.1,af)
def ZmL:Fs yb:=⟨179,[.v aQj,.v Zy,.fn 61 []],[],[aQj,Zy],[⟨.ret,[(0,.bm [.v yI,.v .bool])],[],[yI,.bool]⟩],λx=>ZoD yD x.1 x.2⟩
theorem Zty:ZmL.Ok:=aQ { still:=[6,7,28,29,44,45]} [(0,Zlk)] [xU] ⟨LC,ao⟩ ⟨Zpf,ao⟩
def zf(F:Nat)(a0:aQn):yO (aQn):=
 if(cf 0 a0.length 40)=ae then
  ab a0
 else
 ad
def Zw9:Fs yb:=⟨53,[.sl ae Zy],[],[aQj],[⟨.ret,[(0,.own 0 Zy)],[.log Zy 93],[aQj]⟩],λx=>zf yD x⟩
theorem ZvQ:Zw9.Ok:=aQ { own:=[2,5,7]} [] [] trivial
def ZqO(F:Nat):yO (aQn):=
 ab []
def Zxa:Fs yb:=⟨53,[.nil Zy],[],[],[⟨.ret,[(0,.own 0 Zy)],[.log Zy 93],[aQj]⟩],λx=>ZqO yD⟩
theorem ZvR:Zxa.Ok:=aQ { own:=[2,5,7]} [] [] trivial
def Zll:Fs yb:=⟨53,[.v aQj],[],[aQj],[⟨.ret,[(0,.own 0 Zy)],[.log Zy 93],[aQj]⟩],λx=>zf yD x⟩
theorem Zr3:Zll.Ok:=sP (t:=Zy) (xs:=[⟨.ret,[(0,.own 0 Zy)],[.log Zy 93],[aQj]⟩]) (MA:=λ(x:aQn)=>zf yD x) (MB:=λ_=>ZqO yD) ZvQ ZvR rfl
def ZjD(F:Nat)(a1:Int)(a2:aQn)(s0:aQn):yO (aQn):=
 if(dL s0.length (ab a1) ad)=ae then
  if((a2.length:Int)==0)=ae then
   ab s0
  else
  if(a1==(s0.length:Int))=ae then
   if(cf s0.length a2.length 40)=ae then
    ab (s0++a2)
   else
   ad
  else
  ad
 else
 ad
def Zie:Fs yb:=⟨180,[.own 0 Zy,.v yI,.v aQj],[.log Zy 93],[yI,aQj,aQj],[⟨.ret,[(0,.own 0 Zy)],[.log Zy 93],[aQj]⟩],λx=>ZjD yD x.1 x.2.1 x.2.2⟩
theorem Zpg:Zie.Ok:=aQ ZQN [] [] trivial
def ZsX(F:Nat)(a0:yG)(a1:Cond):yO (yG):=
 (ZoD F a0.2.2.1 a1).bind λa=>
 (zf F a0.2.2.1).bind λb=>
 (ZjD F a.1 [a1] b).bind λc=>
 ab (a0.1,a0.2.1,c,a0.2.2.2)
def ZqP:Fs yb:=⟨115,[.v Zc,.v Zy],[],[Zc,Zy],(zN Zc),λx=>ZsX yD x.1 x.2⟩
def ZQO:HI:={ own:=[16],still:=[9,10,15,16,17,19]}
theorem Zxb:ZqP.Ok:=aQ ZQO [] [Zie,ZmL,Zll] ⟨Zpg,Zty,Zr3,ao⟩
def MG(F:Nat)(a0:Chan)(a1:yG)(a2:Int):yO (Int):=
 if(a2==a0.2.2.2.2)=ae then
  if(bi a2 2)=ae then
   (a1.2.1[a2.toNat]?).bind λa=>
   (tH F a0 a1).bind λb=>
   ab (wi (a - b))
  else
  ad
 else
 if(bi a2 2)=ae then
  (a1.2.1[a2.toNat]?).bind λc=>
  ab c
 else
 ad
def ZqQ:Fs yb:=⟨116,[.v Zf,.v Zc,.v yI],[],[Zf,Zc,yI],(zN yI),λx=>MG yD x.1 x.2.1 x.2.2⟩
theorem Zxc:ZqQ.Ok:=aQ { still:=[6,15,16]} [] [LH] ⟨Zow,ao⟩
def ZvS(F:Nat)(a0:Chan)(a1:yG)(a2:Cond):yO ((yG×Int)):=
 (aL F a0 a1).bind λa=>
 if(!a)=ae then
  ab ((0,[0,0],[],0),1)
 else
 (tD F a2).bind λb=>
 if(!b)=ae then
  ab ((0,[0,0],[],0),1)
 else
 if(bi (wi (1 - a2.1)) 2)=ae then
  (a0.2.2.2.1[(wi (1 - a2.1)).toNat]?).bind λc=>
  (tF F a1 (wi (1 - a2.1))).bind λd=>
  (ZsW F a1 a2.1 a2.2.1).bind λe=>
  if e.2=ae then
   ab ((0,[0,0],[],0),4)
  else
  if(ag (a2.2.2.1 < c.2.2.2.2.1))=ae then
   ab ((0,[0,0],[],0),9)
  else
  if(ag ((a1.2.2.1.length:Int) >= 16))=ae then
   ab ((0,[0,0],[],0),3)
  else
  if(ag (d.1 >= c.2.2.2.1))=ae then
   ab ((0,[0,0],[],0),3)
  else
  let f:Bool:=ag ((wi (d.2+a2.2.2.1)) > c.2.2.2.2.2)
  if f=ae then
   ab ((0,[0,0],[],0),6)
  else
  if(bi a2.1 2)=ae then
   (a1.2.1[a2.1.toNat]?).bind λg=>
   if(ag (g < a2.2.2.1))=ae then
    ab ((0,[0,0],[],0),8)
   else
   (ZsX F a1 a2).bind λh=>
   if(bi a2.1 2)=ae then
    (h.2.1[a2.1.toNat]?).bind λi=>
    if(bi a2.1 2)=ae then
     (h.2.1[a2.1.toNat]?).bind λj=>
     (MG F a0 (h.1,h.2.1.set a2.1.toNat (wi (i - a2.2.2.1)),h.2.2.1,h.2.2.2) a0.2.2.2.2).bind λk=>
     if(ag (k < 0))=ae then
      ab ((0,[0,0],[],0),8)
     else
     (MG F a0 (h.1,h.2.1.set a2.1.toNat (wi (i - a2.2.2.1)),h.2.2.1,h.2.2.2) a2.1).bind λl=>
     if(ag (l < c.2.1))=ae then
      ab ((0,[0,0],[],0),10)
     else
     ab ((h.1,h.2.1.set a2.1.toNat (wi (i - a2.2.2.1)),h.2.2.1,h.2.2.2),0)
    else
    ad
   else
   ad
  else
  ad
 else
 ad
def ZsY:Fs yb:=⟨56,[.v Zf,.v Zc,.v Zy],[],[Zf,Zc,Zy],[⟨.ret,[(0,.bm [.v Zc,.v yI])],[],[Zc,yI]⟩],λx=>ZvS yD x.1 x.2.1 x.2.2⟩
def ZQP:HI:={ still:=[7,14,15,19,31,34,39,41,43,88,89,102,103,105,110,111,113]}
theorem Zz7:ZsY.Ok:=aQ ZQP [] [tI,KZ,LD,ZqN,ZqP,ZqQ] ⟨tJ,Zot,Zjy,Zw8,Zxb,Zxc,ao⟩
abbrev Z4:Ty:=(.st [(.arr 2 aQe),(.arr 2 iK),aQl,yI,yI,aQj])
abbrev Z7:Type:=(aQB×(yL bD)×aQo×Int×Int×aQn)
abbrev Z7.bD(x:Z7):(yL bD):=x.2.1
abbrev _root_.aQx:=yL fq
def ZcU(F:Nat):(Int×Z7×Chan×aQx×yG×aQx×Chan)->yO ((Int×Z7×Chan×aQx×yG×aQx×Chan)⊕((Bool×Z7×Chan×aQx×yG×aQx×Chan)⊕(Z7×Chan×aQx×yG×aQx×Chan)))
 |(a,b,e,f,g,c,d)=>
 if(ag (a < 2))=ae then
  if(bi a 2)=ae then
   (b.1[a.toNat]?).bind λh=>
   (Zyd F h).bind λi=>
   if(bi a 2)=ae then
    (c[a.toNat]?).bind λj=>
    if(bi a 2)=ae then
     ((c.set a.toNat i)[a.toNat]?).bind λk=>
     (ZqM F k).bind λl=>
     if(bi a 2)=ae then
      (d.2.2.1[a.toNat]?).bind λm=>
      if(bi a 2)=ae then
       (b.2.2.1[a.toNat]?).bind λn=>
       if(ag (n < 0))=ae then
        ab (.inr (.inl (af,b,(d.1,d.2.1,d.2.2.1.set a.toNat l,d.2.2.2.1,d.2.2.2.2),c.set a.toNat i,(0,[0,0],[],0),c.set a.toNat i,(d.1,d.2.1,d.2.2.1.set a.toNat l,d.2.2.2.1,d.2.2.2.2))))
       else
       if(bi a 2)=ae then
        (b.2.2.1[a.toNat]?).bind λo=>
        if(ag (o > 1099511627776))=ae then
         ab (.inr (.inl (af,b,(d.1,d.2.1,d.2.2.1.set a.toNat l,d.2.2.2.1,d.2.2.2.2),c.set a.toNat i,(0,[0,0],[],0),c.set a.toNat i,(d.1,d.2.1,d.2.2.1.set a.toNat l,d.2.2.2.1,d.2.2.2.2))))
        else
        if(bi a 2)=ae then
         (b.2.2.1[a.toNat]?).bind λp=>
         ab (.inl (wi (a+1),b,e,f,g,c.set a.toNat i,(d.1,wi (d.2.1+p),d.2.2.1.set a.toNat l,d.2.2.2.1,d.2.2.2.2)))
        else
        ad
       else
       ad
      else
      ad
     else
     ad
    else
    ad
   else
   ad
  else
  ad
 else
 ab (.inr (.inr (b,e,f,g,c,d)))
abbrev _root_.aQv:Go.Ev.Ty:=.arr 2 eV
def MH:yL bC:=[.var (.v Z4) ae,.var (.v Zf) ae,.var (.v aQv) ae,.var (.v Zc) ae,.var (.v aQv) ae,.var (.v Zf) ae]
def Zey:Lp:=⟨[(1,.aj 0 []),(2,.aj 1 []),(3,.aj 2 []),(4,.aj 3 []),(6,.aj 4 []),(7,.aj 5 []),(8,.v yI)],MH,[yI,Z4,Zf,aQv,Zc,aQv,Zf],[⟨.ret,[(2,.aj 1 []),(3,.aj 2 []),(4,.aj 3 []),(5,.v .bool)],MH,[.bool,Z4,Zf,aQv,Zc,aQv,Zf]⟩,⟨.exit 0,[(1,.aj 0 []),(2,.aj 1 []),(3,.aj 2 []),(4,.aj 3 []),(6,.aj 4 []),(7,.aj 5 [])],MH,[Z4,Zf,aQv,Zc,aQv,Zf]⟩],Zd (ZcU yD) yD⟩
def MI:HI:={ still:=[5,26,32,69,70,85,86,91]}
theorem ZjE:Zey.bt yb 17 0:=Zt MI [] [ZvO,ZoA] ⟨ZCi,ZvP,ao⟩
def ZcV(F:Nat):(Int×Z7×Chan×aQx×yG×aQx×Chan×yG)->yO ((Int×Z7×Chan×aQx×yG×aQx×Chan×yG)⊕(Z7×Chan×aQx×yG×aQx×Chan×yG))
 |(a,b,e,f,g,h,c,d)=>
 if(ag (a < (b.2.2.2.2.2.length:Int)))=ae then
  (idx b.2.2.2.2.2 a).bind λi=>
  (ZvS F c d i).bind λj=>
  if(j.2==0)=ae then
   ab (.inl (wi (a+1),b,e,f,g,h,c,j.1))
  else
  ab (.inl (wi (a+1),b,e,f,g,h,c,d))
 else
 ab (.inr (b,e,f,g,h,c,d))
def ZPV:yL bC:=[.var (.v Z4) ae,.var (.v Zf) ae,.var (.v aQv) ae,.var (.v Zc) ae,.var (.v aQv) ae,.var (.v Zf) ae,.var (.v Zc) ae]
def Zez:Lp:=⟨[(1,.aj 0 []),(2,.aj 1 []),(3,.aj 2 []),(4,.aj 3 []),(6,.aj 4 []),(7,.aj 5 []),(9,.aj 6 []),(10,.v yI)],ZPV,[yI,Z4,Zf,aQv,Zc,aQv,Zf,Zc],[⟨.exit 2,[(2,.aj 1 []),(3,.aj 2 []),(4,.aj 3 []),(6,.aj 4 []),(7,.aj 5 []),(9,.aj 6 [])],ZPV,[Z4,Zf,aQv,Zc,aQv,Zf,Zc]⟩],Zd (ZcV yD) yD⟩
theorem ZjF:Zez.bt yb 17 1:=Zt MI [] [ZsY] ⟨Zz7,ao⟩
def Zph(F:Nat)(a0:Z7):yO ((Chan×aQx×yG×Bool)):=
 (Zd (ZcU F) F (0,a0,((dn,0),0,[(0,0,0,0,0),(0,0,0,0,0)],[(0,0,0,0,0,0),(0,0,0,0,0,0)],0),[(0,0,0,0,0,dn),(0,0,0,0,0,dn)],(0,[0,0],[],0),[(0,0,0,0,0,dn),(0,0,0,0,0,dn)],((dn,0),0,[(0,0,0,0,0),(0,0,0,0,0)],a0.2.1,a0.2.2.2.1))).bind λj=>
 match j with
 |.inl (d,_,a,b,c,_,_)=>
  ab (a,b,c,d)
 |.inr (d,g,h,i,f,e)=>
  if(ag ((d.2.2.2.2.2.length:Int) > 8))=ae then
   ab (e,f,(0,d.2.2.1,[],d.2.2.2.2.1),af)
  else
  (aL F e (0,d.2.2.1,[],d.2.2.2.2.1)).bind λk=>
  if(!k)=ae then
   ab (e,f,(0,d.2.2.1,[],d.2.2.2.2.1),af)
  else
  (Zd (ZcV F) F (0,d,g,h,i,f,e,(0,d.2.2.1,[],d.2.2.2.2.1))).bind λ(_,_,_,_,b,a,c)=>
  ab (a,b,c,ae)
def MJ(F:Nat):Fs yb:=⟨17,[.v Z4],[],[Z4],[⟨.ret,[(0,.bm [.v Zf,.v aQv,.v Zc,.v .bool])],[],[Zf,aQv,Zc,.bool]⟩],λx=>Zph F x⟩
def Zn1:Fs yb:=MJ yD
theorem ZmN:Zn1.Ok:=aQ MI [(0,Zey),(1,Zez)] [tI] ⟨tJ,ao⟩ ⟨ZjE,ZjF,ao⟩
def MK(F:Nat)(a0:yU):yO (ZC):=
 (xV F [a0]).bind λa=>
 ab a
def ML(F:Nat):Fs yb:=⟨18,[.v .u64],[],[.u64],(zN Zv),λx=>MK F x⟩
def ZvT:Fs yb:=ML yD
theorem ZsZ:ZvT.Ok:=aQ { still:=[4]} [] [LJ] ⟨ZsQ,ao⟩
abbrev Zu:Ty:=(.st [Zf,aQl,yI])
abbrev Zq:Type:=(Chan×aQo×Int)
abbrev Zq.Chan(x:Zq):Chan:=x.1
def ZCj(F:Nat)(a0:Chan):yO ((aQh×(yL Zq))):=
 ab ([],[(a0,[0,0],0)])
def MM(F:Nat):Fs yb:=⟨24,[.v Zf],[],[Zf],[⟨.ret,[(0,.aj 0 [])],[.var (.agg [.rw 1]) ae,.row Zu ae 112],[aQf,(.sl Zu)]⟩],λx=>ZCj F x⟩
def Zz8:Fs yb:=MM yD
theorem Zxd:Zz8.Ok:=aQ { still:=[2],cE:=[5]} [] [] trivial
def ZCk(F:Nat)(a0:aQa):yO (yU):=
 (qr F a0).bind λa=>
 (Wj F a).bind λb=>
 ab b
def MN(F:Nat):Fs yb:=⟨26,[.v aQe],[],[aQe],(zN .u64),λx=>ZCk F x⟩
def Zz9:Fs yb:=MN yD
theorem Zxe:Zz9.Ok:=aQ { still:=[2,3,4]} [] [qt,qu] ⟨tO,tQ,ao⟩
def ZqR(F:Nat)(a0:Int):yO (Bool):=
 if(a0==0)=ae then
  ab ae
 else
 ab (a0==1)
def ZoE:Fs yb:=⟨129,[.v yI],[],[yI],(zN .bool),λx=>ZqR yD x⟩
theorem ZvU:ZoE.Ok:=aQ { still:=[2]} [] [] trivial
def ZoF(F:Nat)(s:(yU×aQq×Int×Int)):yO ((yU×aQq×Int×Int)⊕yU):=
 if(ag (s.2.2.2 < s.2.2.1))=ae then
  (idx s.2.1 s.2.2.2).bind λa=>
  (zb F a).bind λb=>
  (YN F s.1 b).bind λc=>
  ab (.inl (c,s.2.1,s.2.2.1,wi (s.2.2.2+1)))
 else
 ab (.inr s.1)
def ZqS:Lp:=⟨[(3,.v .u64),(6,.v aQk),(7,.v yI),(8,.v yI)],[],[.u64,aQk,yI,yI],[⟨.exit 0,[(3,.v .u64)],[],[.u64]⟩],Zd (ZoF yD) yD⟩
theorem Ztz:ZqS.bt yb 191 0:=Zt { still:=[2,12,13,14]} [] [zc,JM] ⟨ME,Zmh,ao⟩
def MO(F:Nat)(a0:aQq):yO (yU):=
 (Zd (ZoF F) F (1,a0,(a0.length:Int),0)).bind λa=>
 ab a
def MP:Fs yb:=⟨191,[.v aQk],[],[aQk],(zN .u64),λx=>MO yD x⟩
theorem ZqT:MP.Ok:=aQ { still:=[2,12,13,14]} [(0,ZqS)] [] trivial ⟨Ztz,ao⟩
def zg(F:Nat)(a0:yU)(a1:yU):yO (yU):=
 (MO F [a0,a1]).bind λa=>
 ab a
def zh:Fs yb:=⟨186,[.v .u64,.v .u64],[],[.u64,.u64],(zN .u64),λx=>zg yD x.1 x.2⟩
theorem MQ:zh.Ok:=aQ { still:=[4,7]} [] [MP] ⟨ZqT,ao⟩
def ZmQ(F:Nat)(s:(yU×Int×aQa)):yO ((yU×Int×aQa)⊕aQa):=
 if(ag (s.2.1 < 8))=ae then
  if(ag (0<=wi (56 - (wi (8*s.2.1)))))=ae then
   let a:yU:=ZE s.1 (min (wi (56 - (wi (8*s.2.1)))).toNat 64)
   if(bi s.2.1 8)=ae then
    (s.2.2[s.2.1.toNat]?).bind λb=>
    ab (.inl (s.1,wi (s.2.1+1),s.2.2.set s.2.1.toNat (w8 (a.toNat:Int))))
   else
   ad
  else
  ad
 else
 ab (.inr s.2.2)
def ZoG:Lp:=⟨[(0,.v .u64),(3,.aj 0 []),(5,.v yI)],[.var (.v aQy) ae],[.u64,yI,aQy],[⟨.exit 0,[(3,.aj 0 [])],[.var (.v aQy) ae],[aQy]⟩],Zd (ZmQ yD) yD⟩
theorem Zr5:ZoG.bt yb 212 0:=Zt { still:=[2]} [] [] trivial
def Zs0(F:Nat)(a0:yU):yO (aQa):=
 (Zd (ZmQ F) F (a0,0,[0,0,0,0,0,0,0,0])).bind λa=>
 ab ((a.drop 0).take 8)
def ZqU:Fs yb:=⟨212,[.v .u64],[],[.u64],(zN aQb),λx=>Zs0 yD x⟩
theorem Zxf:ZqU.Ok:=aQ { still:=[2]} [(0,ZoG)] [] trivial ⟨Zr5,ao⟩
def Zlm(F:Nat):(ByteArray×aQq×Int×Int×aQB)->yO ((ByteArray×aQq×Int×Int×aQB)⊕(ByteArray×aQB))
 |(e,c,b,a,d)=>
 if(ag (a < b))=ae then
  (idx c a).bind λf=>
  (Zs0 F f).bind λg=>
  if(cf d.length 1 24)=ae then
   ab (.inl (e,c,b,wi (a+1),d++([g]:yL aQa)))
  else
  ad
 else
 ab (.inr (e,d))
def ZmR:Lp:=⟨[(0,.v .str),(5,.own 0 aQb),(8,.v aQk),(9,.v yI),(10,.v yI)],[.log aQb 141],[.str,aQk,yI,yI,aQA],[⟨.exit 0,[(0,.v .str),(5,.own 0 aQb)],[.log aQb 141],[.str,aQA]⟩],Zd (Zlm yD) yD⟩
def ZPW:HI:={ own:=[5,14,18],still:=[4,15,20,21,22]}
theorem ZqV:ZmR.bt yb 187 0:=Zt ZPW [] [ZqU] ⟨Zxf,ao⟩
def zj(F:Nat)(a0:ByteArray)(a1:aQq):yO (yU):=
 (Zd (Zlm F) F (a0,a1,(a1.length:Int),0,[])).bind λa=>
 (QJ F a.1 a.2).bind λb=>
 (qr F b).bind λc=>
 ab c
def MR:Fs yb:=⟨187,[.v .str,.v aQk],[],[.str,aQk],(zN .u64),λx=>zj yD x.1 x.2⟩
theorem ZmS:MR.Ok:=aQ ZPW [(0,ZmR)] [mS,qt] ⟨oD,tO,ao⟩ ⟨ZqV,ao⟩
def ZM4:ByteArray:=⟨#[114,101,118,111,107,101]⟩
def ZqW(F:Nat)(a0:yU)(a1:yU):yO (yU):=
 (zj F ZM4 [a0,a1]).bind λa=>
 (tP F a0 a).bind λb=>
 (zj F ZM4 [a1,a0]).bind λc=>
 (tP F a1 c).bind λd=>
 (zg F b d).bind λe=>
 ab e
def ZoH:Fs yb:=⟨130,[.v .u64,.v .u64],[],[.u64,.u64],(zN .u64),λx=>ZqW yD x.1 x.2⟩
def ZQQ:HI:={ still:=[4,5,8,9,10,11,14,15,16]}
theorem ZvV:ZoH.Ok:=aQ ZQQ [] [MR,ze,zh] ⟨ZmS,MF,MQ,ao⟩
def ZPX:ByteArray:=⟨#[109,105,120]⟩
def zk(F:Nat)(a0:yU)(a1:yU):yO (yU):=
 (zj F ZPX [a1,a0]).bind λa=>
 (Wj F a).bind λb=>
 (zg F a0 b).bind λc=>
 ab c
def ZvW:Fs yb:=⟨131,[.v .u64,.v .u64],[],[.u64,.u64],(zN .u64),λx=>zk yD x.1 x.2⟩
theorem ZCl:ZvW.Ok:=aQ { still:=[4,5,8,9,10]} [] [MR,qu,zh] ⟨ZmS,tQ,MQ,ao⟩
def tS(F:Nat)(a0:bD)(a1:Int):yO (Bool):=
 ab (ag (a1 >= a0.1))
def MS:Fs yb:=⟨135,[.v iK,.v yI],[],[iK,yI],(zN .bool),λx=>tS yD x.1 x.2⟩
theorem ZmT:MS.Ok:=aQ { still:=[4]} [] [] trivial
def ZjG(F:Nat):(Int×aQn×Int×Int×Chan×yG×aQn)->yO ((Int×aQn×Int×Int×Chan×yG×aQn)⊕(Chan×yG×aQn))
 |(d,c,b,a,e,g,f)=>
 if(ag (a < b))=ae then
  (idx c a).bind λh=>
  if(bi d 2)=ae then
   (e.2.2.2.1[d.toNat]?).bind λi=>
   (tS F i h.2.2.1).bind λj=>
   if j=ae then
    if(cf f.length 1 40)=ae then
     ab (.inl (d,c,b,wi (a+1),e,g,f++([h]:yL Cond)))
    else
    ad
   else
   ab (.inl (d,c,b,wi (a+1),e,g,f))
  else
  ad
 else
 ab (.inr (e,g,f))
def Zln:Lp:=⟨[(2,.v yI),(3,.aj 0 []),(7,.own 2 Zy),(11,.v aQj),(12,.v yI),(13,.v yI)],[.var (.v Zf) ae,.var (.v Zc) ae,.log Zy 93],[yI,aQj,yI,yI,Zf,Zc,aQj],[⟨.exit 0,[(7,.own 2 Zy)],[.var (.v Zf) ae,.var (.v Zc) ae,.log Zy 93],[Zf,Zc,aQj]⟩],Zd (ZjG yD) yD⟩
def ZPY:HI:={ own:=[7,24,27],still:=[6,20,22]}
theorem Zpj:Zln.bt yb 138 0:=Zt ZPY [] [MS] ⟨ZmT,ao⟩
def QL(F:Nat)(a0:Chan)(a1:yG)(a2:Int):yO (aQn):=
 (Zd (ZjG F) F (a2,a1.2.2.1,(a1.2.2.1.length:Int),0,a0,a1,[])).bind λa=>
 ab a.2.2
def MT:Fs yb:=⟨138,[.v Zf,.v Zc,.v yI],[],[Zf,Zc,yI],(zN aQj),λx=>QL yD x.1 x.2.1 x.2.2⟩
theorem Zlo:MT.Ok:=aQ ZPY [(0,Zln)] [] trivial ⟨Zpj,ao⟩
def zl(F:Nat)(a0:Chan)(a1:yG)(a2:Int)(f:Int):yO (Int):=
 if(bi f 2)=ae then
  (a1.2.1[f.toNat]?).bind λa=>
  if(f==a0.2.2.2.2)=ae then
   (QL F a0 a1 a2).bind λb=>
   (tG F a1.2.2.2 (b.length:Int)).bind λc=>
   ab (wi (a - (wi (c+660))))
  else
  ab a
 else
 ad
def ZoI:Fs yb:=⟨134,[.v Zf,.v Zc,.v yI,.v yI],[],[Zf,Zc,yI,yI],(zN yI),λx=>zl yD x.1 x.2.1 x.2.2.1 x.2.2.2⟩
theorem ZvX:ZoI.Ok:=aQ { still:=[8,20,21,22,23,25]} [] [MT,LG] ⟨Zlo,Zqx,ao⟩
def ZvY(F:Nat)(a0:yU)(a1:yU)(a2:Int):yO (ZC):=
 ab [([a1],0,0,0),([a0],0,a2,0)]
def Zs1:Fs yb:=⟨136,[.v .u64,.v .u64,.v yI],[],[.u64,.u64,yI],(zN Zv),λx=>ZvY yD x.1 x.2.1 x.2.2⟩
theorem ZAa:Zs1.Ok:=aQ {} [] [] trivial
def WM(F:Nat)(a0:yU):yO (ZC):=
 ab [([a0],0,0,0),([],0,16,0)]
def ZoJ:Fs yb:=⟨137,[.v .u64],[],[.u64],(zN Zv),λx=>WM yD x⟩
theorem ZvZ:ZoJ.Ok:=aQ {} [] [] trivial
def ZmU(F:Nat)(a0:aQa)(a1:aQa):yO (Int):=
 ab (Go.Lib.compareBytes a0 a1)
def Zlp:Fs yb:=⟨141,[.v aQb,.v aQb],[],[aQb,aQb],(zN yI),λx=>ZmU yD x.1 x.2⟩
theorem Zr6:Zlp.Ok:=aQ { still:=[4,5,6]} [] [] trivial
abbrev lK:Ty:=(.st [yI,Zy])
abbrev lL:Type:=(Int×Cond)
abbrev lL.Cond(x:lL):Cond:=x.2
abbrev Zn:Ty:=(.st [Yn,lK,aQe])
abbrev ZD:Type:=(Out×lL×aQa)
def ZmV(F:Nat)(a0:ZD)(a1:ZD):yO (Int):=
 (YO F a0.1.1 a1.1.1).bind λa=>
 (ZmU F a0.2.2 a1.2.2).bind λb=>
 (YO F a0.2.1.1 a1.2.1.1).bind λc=>
 (YO F a0.2.1.2.1 a1.2.1.2.1).bind λd=>
 (YO F a0.2.1.2.2.1 a1.2.1.2.2.1).bind λe=>
 (tE F [a,b,c,d,e]).bind λf=>
 ab f
def Zlq:Fs yb:=⟨140,[.v Zn,.v Zn],[],[Zn,Zn],(zN yI),λx=>ZmV yD x.1 x.2⟩
def ZQR:HI:={ still:=[4,7,10,13,15,19,22,27,31,36,40,42],dX:=[13,15]}
theorem Zr7:Zlq.Ok:=aQ ZQR [] [LB,Zlp,LA] ⟨ZgW,Zr6,Zov,ao⟩
abbrev ZM:Ty:=(.st [aJ,(.sl lK)])
abbrev VJ:Type:=(Tx×(yL lL))
abbrev VJ.Tx(x:VJ):Tx:=x.1
def ZPZ:ByteArray:=⟨#[108,111,99,107]⟩
def Zye(F:Nat)(a0:ZC):yO (aQa):=
 (We F a0).bind λa=>
 if(!a)=ae then
  ab dn
 else
 (qm F a0).bind λb=>
 (QJ F ZPZ [b]).bind λc=>
 ab c
def Zv0:Fs yb:=⟨133,[.v Zv],[],[Zv],(zN aQe),λx=>Zye yD x⟩
theorem ZCm:Zv0.Ok:=aQ { still:=[3,7,9]} [] [qf,xI,mS] ⟨tg,KP,oD,ao⟩
abbrev _root_.aQs:=yL ZD
def Z8(F:Nat)(a0:Int)(a1:ZC)(a2:lL)(g:aQh)(f:aQs):yO ((aQh×aQs)):=
 (Zye F a1).bind λa=>
 if(cf f.length 1 112)=ae then
  let b:aQs:=f++([((a0,a1),a2,a)]:yL ZD)
  ab (()::g,b)
 else
 ad
abbrev _root_.aQt:Go.Ev.Ty:=.sl Zn
def MU:Fs yb:=⟨132,[.v yI,.v Zv,.v lK,.aj 0 []],[.var (.rw 1) ae,.row Zn ae 234],[yI,Zv,lK,aQf,aQt],[⟨.ret,[(0,.bm [])],[.var (.rw 1) ae,.row Zn ae 234],[aQf,aQt]⟩],λx=>Z8 yD x.1 x.2.1 x.2.2.1 x.2.2.2.1 x.2.2.2.2⟩
theorem ZjH:MU.Ok:=aQ { own:=[7,16],still:=[12]} [] [Zv0] ⟨ZCm,ao⟩
abbrev dT7:Type:=(Int×Int×yU×yU×yU×aQn×Int×Int×Chan×yG×VJ×aQh×aQs)
abbrev ZQS:yL Ty:=[yI,yI,.u64,.u64,.u64,aQj,yI,yI,Zf,Zc,ZM,aQf,aQt]
def Zfp(F:Nat):(Int×Int×Int×Int×aQh×aQs)->yO ((Int×Int×Int×Int×aQh×aQs)⊕(Int×Int×Int×aQh×aQs))
 |(b,d,e,a,f,c)=>
 if(ag (a > b))=ae then
  if(bi a c.length)=ae then
   (c[a.toNat]?).bind λg=>
   if(bi (wi (a - 1)) c.length)=ae then
    (c[(wi (a - 1)).toNat]?).bind λh=>
    (ZmV F g h).bind λi=>
    if(ag (i < 0))=ae then
     if(bi (wi (a - 1)) c.length)=ae then
      (c[(wi (a - 1)).toNat]?).bind λj=>
      if(bi a c.length)=ae then
       (c[a.toNat]?).bind λk=>
       if(bi a c.length)=ae then
        (c[a.toNat]?).bind λl=>
        if(bi (wi (a - 1)) ((c.set a.toNat j).length))=ae then
         ((c.set a.toNat j)[(wi (a - 1)).toNat]?).bind λm=>
         let n:aQs:=(c.set a.toNat j).set ((wi (a - 1)).toNat) k
         ab (.inl (b,d,e,wi (a - 1),f,n))
        else
        ad
       else
       ad
      else
      ad
     else
     ad
    else
    ab (.inr (b,d,e,f,c))
   else
   ad
  else
  ad
 else
 ab (.inr (b,d,e,f,c))
def Zha:Lp:=⟨[(0,.rw 0),(1,.v yI),(2,.v yI),(3,.fn 140 []),(8,.v yI),(9,.v yI)],[.row Zn ae 234],[yI,yI,yI,yI,aQf,aQt],[⟨.exit 2,[(0,.rw 0),(1,.v yI),(2,.v yI),(3,.fn 140 []),(8,.v yI)],[.row Zn ae 234],[yI,yI,yI,aQf,aQt]⟩],Zd (Zfp yD) yD⟩
def MV:HI:={ still:=[26,31],cE:=[0,37,39]}
theorem Zlw:Zha.bt yb 213 1:=Zt MV [] [Zlq] ⟨Zr7,ao⟩
def Zfq(F:Nat):(Int×Int×Int×aQh×aQs)->yO ((Int×Int×Int×aQh×aQs)⊕(aQh×aQs))
 |(h,g,f,i,j)=>
 if(ag (f < g))=ae then
  (Zd (Zfp F) F (h,g,f,f,i,j)).bind λ(a,b,c,d,e)=>
  ab (.inl (a,b,wi (c+1),d,e))
 else
 ab (.inr (i,j))
def Zhb:Lp:=⟨[(0,.rw 0),(1,.v yI),(2,.v yI),(3,.fn 140 []),(8,.v yI)],[.row Zn ae 234],[yI,yI,yI,aQf,aQt],[⟨.exit 0,[],[.row Zn ae 234],[aQf,aQt]⟩],Zd (Zfq yD) yD⟩
theorem Zlx:Zhb.bt yb 213 0:=Zt MV [(1,Zha)] [] trivial ⟨Zlw,ao⟩
def MW(F:Nat)(a1:Int)(a2:Int)(f:aQh)(g:aQs):yO ((aQh×aQs)):=
 (Zd (Zfq F) F (a1,a2,wi (a1+1),f,g)).bind λa=>
 ab (a.1,a.2)
def MX:Fs yb:=⟨213,[.rw 0,.v yI,.v yI,.fn 140 []],[.row Zn ae 234],[yI,yI,aQf,aQt],[⟨.ret,[(0,.bm [])],[.row Zn ae 234],[aQf,aQt]⟩],λx=>MW yD x.1 x.2.1 x.2.2.1 x.2.2.2⟩
theorem Zhc:MX.Ok:=aQ MV [(0,Zhb)] [] trivial ⟨Zlx,ao⟩
def Zfr(F:Nat):(Int×Int×Int×Int×aQh×aQs)->yO ((Int×Int×Int×Int×aQh×aQs)⊕(Int×Int×Int×aQh×aQs))
 |(b,f,c,a,d,e)=>
 if(ag (a<=b))=ae then
  (MW F c a d e).bind λg=>
  if(ag (d.length=g.1.length)&&(ag (40=40)&&ag ((yx e.length ()).length=g.2.length)))=ae then
   ab (.inl (b,f,a,wi (a+f),g.1,g.2))
  else
  ad
 else
 ab (.inr (b,f,c,d,e))
def Zhd:Lp:=⟨[(0,.rw 0),(1,.v yI),(2,.fn 140 []),(6,.v yI),(7,.v yI),(8,.v yI)],[.row Zn ae 234],[yI,yI,yI,yI,aQf,aQt],[⟨.exit 0,[(0,.rw 0),(1,.v yI),(2,.fn 140 []),(6,.v yI),(7,.v yI)],[.row Zn ae 234],[yI,yI,yI,aQf,aQt]⟩],Zd (Zfr yD) yD⟩
def zm:HI:={ still:=[15,16,17,24,25,26,37,40,41,42,56,57,58,59],cE:=[0,14,23,36,55]}
theorem Zly:Zhd.bt yb 188 0:=IT (fi:={ hi:=zm,gh:=[(3,.gP 0)]}) (aF:={ l:=[MX]}) (kB ⟨Zhc,ao⟩)
def Zfs(F:Nat):(Int×Int×Int×Int×aQh×aQs)->yO ((Int×Int×Int×Int×aQh×aQs)⊕(Int×Int×Int×aQh×aQs))
 |(b,c,d,a,e,f)=>
 if(ag (a<=b))=ae then
  ad
 else
 ab (.inr (b,c,d,e,f))
def Zhe:Lp:=⟨[(1,.v yI),(2,.fn 140 []),(6,.v yI),(7,.v yI),(8,.v yI)],[.row Zn ae 234],[yI,yI,yI,yI,aQf,aQt],[⟨.exit 4,[(1,.v yI),(2,.fn 140 []),(6,.v yI),(7,.v yI)],[.row Zn ae 234],[yI,yI,yI,aQf,aQt]⟩],Zd (Zfs yD) yD⟩
theorem Zlz:Zhe.bt yb 188 2:=Zt zm [] [] trivial
def Zft(F:Nat)(s:(Int×Int×aQh×aQs)):yO ((Int×Int×aQh×aQs)⊕(aQh×aQs)):=
 if(ag (s.2.1 < s.1))=ae then
  (Zd (Zfs F) F (s.1,s.2.1,0,wi (2*s.2.1),s.2.2.1,s.2.2.2)).bind λ(c,b,a,d,e)=>
  if(ag ((wi (a+b)) < c))=ae then
   ad
  else
  ab (.inl (c,wi (b*2),d,e))
 else
 ab (.inr (s.2.2.1,s.2.2.2))
def Zhf:Lp:=⟨[(0,.ak),(1,.v yI),(2,.fn 140 []),(6,.v yI)],[.row Zn ae 234],[yI,yI,aQf,aQt],[⟨.exit 2,[],[.row Zn ae 234],[aQf,aQt]⟩],Zd (Zft yD) yD⟩
theorem ZlA:Zhf.bt yb 188 1:=Zt zm [(2,Zhe)] [] trivial ⟨Zlz,ao⟩
def ZjI(F:Nat)(a1:Int)(h:aQh)(j:aQs):yO ((aQh×aQs)):=
 (Zd (Zfr F) F (a1,20,0,20,h,j)).bind λ(b,e,a,c,d)=>
 (MW F a b c d).bind λf=>
 (Zd (Zft F) F (b,e,f.1,f.2)).bind λg=>
 ab (g.1,g.2)
def Zig:Fs yb:=⟨188,[.rw 0,.v yI,.fn 140 []],[.row Zn ae 234],[yI,aQf,aQt],[⟨.ret,[(0,.bm [])],[.row Zn ae 234],[aQf,aQt]⟩],λx=>ZjI yD x.1 x.2.1 x.2.2⟩
theorem Zpk:Zig.Ok:=aQ zm [(0,Zhd),(1,Zhf)] [MX] ⟨Zhc,ao⟩ ⟨Zly,ZlA,ao⟩
def tT(F:Nat)(g:aQh)(f:aQs):yO ((aQh×aQs)):=
 (ZjI F (f.length:Int) g f).bind λa=>
 ab (a.1,a.2)
def ZoK:Fs yb:=⟨139,[.rw 0,.fn 140 []],[.row Zn ae 234],[aQf,aQt],[⟨.ret,[(0,.bm [])],[.row Zn ae 234],[aQf,aQt]⟩],λx=>tT yD x.1 x.2⟩
theorem Zv1:ZoK.Ok:=aQ { still:=[6,7],cE:=[0,4]} [] [Zig] ⟨Zpk,ao⟩
abbrev dT8:Type:=(Int×Int×Chan×yG×VJ×aQh×aQs×aQm×Int×(yL lL)×aQr)
abbrev dT9:Type:=(Chan×yG×VJ×aQh×aQs×aQm×Int×(yL lL)×aQr)
def ZM5:yL bC:=[.var (.v Zf) ae,.var (.v Zc) ae,.var (.v ZM) ae,.var (.rw 4) ae,.row Zn ae 234,.var (.agg [.agg [.v aQi,.own 7 Yn,.v yI],.own 6 lK]) ae,.log lK 181,.log Yn 79]
abbrev ZQT:yL Ty:=[Zf,Zc,ZM,aQf,aQt,aQi,yI,(.sl lK),aQp]
abbrev ZQU:yL Ty:=[yI,yI,Zf,Zc,ZM,aQf,aQt,aQi,yI,(.sl lK),aQp]
def QC(F:Nat):dT7->yO (dT7⊕(Int×Chan×yG×VJ×aQh×aQs))
 |(d,h,e,g,f,c,b,a,k,l,m,i,j)=>
 if(ag (a < b))=ae then
  (idx c a).bind λn=>
  if(n.1==d)=ae then
   (Z8 F n.2.2.1 [([e],0,0,0),([f],0,0,n.2.2.2.1),([g],n.2.2.2.2,h,0)] (5,n) i j).bind λo=>
   ab (.inl (d,h,e,g,f,c,b,wi (a+1),k,l,m,o.1,o.2))
  else
  (Z8 F n.2.2.1 [([e],0,0,0),([g],0,h,n.2.2.2.1),([f],n.2.2.2.2,0,0)] (6,n) i j).bind λp=>
  ab (.inl (d,h,e,g,f,c,b,wi (a+1),k,l,m,p.1,p.2))
 else
 ab (.inr (d,k,l,m,i,j))
abbrev zF:List bC:=[.var (.v Zf) ae,.var (.v Zc) ae,.var (.v ZM) ae,.var (.rw 4) ae,.row Zn ae 234]
def ZmW:Lp:=⟨[(2,.v yI),(4,.aj 0 []),(5,.aj 1 []),(8,.aj 2 []),(11,.v yI),(12,.v .u64),(13,.v .u64),(14,.v .u64),(15,.aj 3 []),(16,.fn 132 [.aj 3 []]),(139,.v aQj),(140,.v yI),(141,.v yI)],zF,ZQS,[⟨.exit 1,[(2,.v yI),(4,.aj 0 []),(5,.aj 1 []),(8,.aj 2 []),(15,.aj 3 [])],zF,[yI,Zf,Zc,ZM,aQf,aQt]⟩],Zd (QC yD) yD⟩
def ZQV:HI:={ own:=[208,212,216,220],still:=[9,28,32,38,39,54,55,61,62,68,69,72,73,74,75,80,81,84,89,90,91,92,93,94,95,97,98,99,100,105,106,109,114,115,116,123,124,125,132,133,134,136,137,138,176,183,184],cE:=[187],gf:=[(21,[([0],.u64,27)]),(22,[([0],.u64,27)])]}
theorem ZqY:ZmW.bt yb 72 0:=Zt ZQV [] [MU] ⟨ZjH,ao⟩
def QD(F:Nat):dT8->yO (dT8⊕dT9)
 |(b,a,f,g,h,i,c,j,k,e,d)=>
 if(ag (a < b))=ae then
  if(bi a c.length)=ae then
   (c[a.toNat]?).bind λl=>
   if(cf d.length 1 32)=ae then
    if(cf e.length 1 48)=ae then
     let m:(yL lL):=e++([l.2.1]:yL lL)
     ab (.inl (b,wi (a+1),f,g,h,i,c,j,k,m,d++([l.1]:yL Out)))
    else
    ad
   else
   ad
  else
  ad
 else
 ab (.inr (f,g,h,i,c,j,k,e,d))
def ZmX:Lp:=⟨[(8,.aj 2 []),(24,.aj 5 []),(200,.rw 4),(201,.v yI),(202,.v yI)],ZM5,ZQU,[⟨.exit 3,[(8,.aj 2 []),(24,.aj 5 [])],ZM5,ZQT⟩],Zd (QD yD) yD⟩
def ZP0:HI:={ own:=[208,212,216,220],still:=[9,28,32,38,39,54,55,61,62,68,69,72,73,74,75,80,81,84,89,90,91,92,93,94,95,97,98,99,100,105,106,109,114,115,116,123,124,125,132,133,134,136,137,138,176,183,184],cE:=[187],gf:=[(21,[([0],.u64,27)]),(22,[([0],.u64,27)]),(24,[([1],lK,181),([0,1],Yn,79)])]}
theorem ZqZ:ZmX.bt yb 72 1:=Zt ZP0 [] [] trivial
def Vt(F:Nat)(a0:Chan)(a1:yG)(a2:Int)(a3:yU):yO ((VJ×Int)):=
 (ZqR F a2).bind λk=>
 if(!k)=ae then
  ab ((([],[],0),[]),1)
 else
 (XD F a3).bind λl=>
 if(!l)=ae then
  ab ((([],[],0),[]),1)
 else
 (aL F a0 a1).bind λm=>
 if(!m)=ae then
  ab ((([],[],0),[]),14)
 else
 if(bi (wi (1 - a2)) 2)=ae then
  (a0.2.2.2.1[(wi (1 - a2)).toNat]?).bind λn=>
  if(bi (wi (1 - a2)) 2)=ae then
   (a0.2.2.1[(wi (1 - a2)).toNat]?).bind λo=>
   (ZqW F o.2.2.2.2 a3).bind λp=>
   if(bi a2 2)=ae then
    (a0.2.2.1[a2.toNat]?).bind λq=>
    (zk F q.2.2.2.1 a3).bind λr=>
    if(bi (wi (1 - a2)) 2)=ae then
     (a0.2.2.1[(wi (1 - a2)).toNat]?).bind λs=>
     (zk F s.2.2.2.1 a3).bind λt=>
     (zl F a0 a1 a2 a2).bind λu=>
     if(bi a2 2)=ae then
      (a0.2.2.2.1[a2.toNat]?).bind λv=>
      (tS F v u).bind λw=>
      if w=ae then
       if(bi a2 2)=ae then
        (a0.2.2.1[a2.toNat]?).bind λx=>
        (zk F x.2.2.1 a3).bind λy=>
        (ZvY F y p n.2.2.1).bind λz=>
        (Z8 F u z (1,(0,0,0,0,0)) [] []).bind λA=>
        (zl F a0 a1 a2 (wi (1 - a2))).bind λB=>
        if(bi a2 2)=ae then
         (a0.2.2.2.1[a2.toNat]?).bind λC=>
         (tS F C B).bind λD=>
         if D=ae then
          if(bi (wi (1 - a2)) 2)=ae then
           (a0.2.2.1[(wi (1 - a2)).toNat]?).bind λE=>
           (MK F E.2.1).bind λG=>
           (Z8 F B G (2,(0,0,0,0,0)) A.1 A.2).bind λH=>
           if(bi a2 2)=ae then
            (a0.2.2.1[a2.toNat]?).bind λI=>
            (WM F I.1).bind λJ=>
            (Z8 F 330 J (3,(0,0,0,0,0)) H.1 H.2).bind λK=>
            if(bi (wi (1 - a2)) 2)=ae then
             (a0.2.2.1[(wi (1 - a2)).toNat]?).bind λL=>
             (WM F L.1).bind λM=>
             (Z8 F 330 M (4,(0,0,0,0,0)) K.1 K.2).bind λN=>
             (QL F a0 a1 a2).bind λO=>
             (Zd (QC F) F (a2,n.2.2.1,p,r,t,O,(O.length:Int),0,a0,a1,(([],[],0),[]),N.1,N.2)).bind λ(j,g,h,i,e,f)=>
             (tT F e f).bind λP=>
             if(ag (e.length=P.1.length)&&(ag (40=40)&&ag ((yx f.length ()).length=P.2.length)))=ae then
              (Zd (QD F) F ((P.2.length:Int),0,g,h,i,P.1,P.2,[(g.1,(0,[],0))],wi ((wi (2*h.1))+j),[],[])).bind λ(_,_,_,_,_,a,c,d,b)=>
              ab (((a,b,c),d),0)
             else
             ad
            else
            ad
           else
           ad
          else
          ad
         else
         if(bi a2 2)=ae then
          (a0.2.2.1[a2.toNat]?).bind λQ=>
          (WM F Q.1).bind λR=>
          (Z8 F 330 R (3,(0,0,0,0,0)) A.1 A.2).bind λS=>
          if(bi (wi (1 - a2)) 2)=ae then
           (a0.2.2.1[(wi (1 - a2)).toNat]?).bind λT=>
           (WM F T.1).bind λU=>
           (Z8 F 330 U (4,(0,0,0,0,0)) S.1 S.2).bind λV=>
           (QL F a0 a1 a2).bind λW=>
           (Zd (QC F) F (a2,n.2.2.1,p,r,t,W,(W.length:Int),0,a0,a1,(([],[],0),[]),V.1,V.2)).bind λ(j,g,h,i,e,f)=>
           (tT F e f).bind λX=>
           if(ag (e.length=X.1.length)&&(ag (40=40)&&ag ((yx f.length ()).length=X.2.length)))=ae then
            (Zd (QD F) F ((X.2.length:Int),0,g,h,i,X.1,X.2,[(g.1,(0,[],0))],wi ((wi (2*h.1))+j),[],[])).bind λ(_,_,_,_,_,a,c,d,b)=>
            ab (((a,b,c),d),0)
           else
           ad
          else
          ad
         else
         ad
        else
        ad
       else
       ad
      else
      (zl F a0 a1 a2 (wi (1 - a2))).bind λY=>
      if(bi a2 2)=ae then
       (a0.2.2.2.1[a2.toNat]?).bind λZ=>
       (tS F Z Y).bind λei=>
       if ei=ae then
        if(bi (wi (1 - a2)) 2)=ae then
         (a0.2.2.1[(wi (1 - a2)).toNat]?).bind λej=>
         (MK F ej.2.1).bind λep=>
         (Z8 F Y ep (2,(0,0,0,0,0)) [] []).bind λeu=>
         if(bi a2 2)=ae then
          (a0.2.2.1[a2.toNat]?).bind λew=>
          (WM F ew.1).bind λez=>
          (Z8 F 330 ez (3,(0,0,0,0,0)) eu.1 eu.2).bind λeA=>
          if(bi (wi (1 - a2)) 2)=ae then
           (a0.2.2.1[(wi (1 - a2)).toNat]?).bind λeB=>
           (WM F eB.1).bind λeC=>
           (Z8 F 330 eC (4,(0,0,0,0,0)) eA.1 eA.2).bind λeD=>
           (QL F a0 a1 a2).bind λeE=>
           (Zd (QC F) F (a2,n.2.2.1,p,r,t,eE,(eE.length:Int),0,a0,a1,(([],[],0),[]),eD.1,eD.2)).bind λ(j,g,h,i,e,f)=>
           (tT F e f).bind λeG=>
           if(ag (e.length=eG.1.length)&&(ag (40=40)&&ag ((yx f.length ()).length=eG.2.length)))=ae then
            (Zd (QD F) F ((eG.2.length:Int),0,g,h,i,eG.1,eG.2,[(g.1,(0,[],0))],wi ((wi (2*h.1))+j),[],[])).bind λ(_,_,_,_,_,a,c,d,b)=>
            ab (((a,b,c),d),0)
           else
           ad
          else
          ad
         else
         ad
        else
        ad
       else
       if(bi a2 2)=ae then
        (a0.2.2.1[a2.toNat]?).bind λeI=>
        (WM F eI.1).bind λeJ=>
        (Z8 F 330 eJ (3,(0,0,0,0,0)) [] []).bind λeK=>
        if(bi (wi (1 - a2)) 2)=ae then
         (a0.2.2.1[(wi (1 - a2)).toNat]?).bind λeL=>
         (WM F eL.1).bind λeM=>
         (Z8 F 330 eM (4,(0,0,0,0,0)) eK.1 eK.2).bind λeN=>
         (QL F a0 a1 a2).bind λeO=>
         (Zd (QC F) F (a2,n.2.2.1,p,r,t,eO,(eO.length:Int),0,a0,a1,(([],[],0),[]),eN.1,eN.2)).bind λ(j,g,h,i,e,f)=>
         (tT F e f).bind λeP=>
         if(ag (e.length=eP.1.length)&&(ag (40=40)&&ag ((yx f.length ()).length=eP.2.length)))=ae then
          (Zd (QD F) F ((eP.2.length:Int),0,g,h,i,eP.1,eP.2,[(g.1,(0,[],0))],wi ((wi (2*h.1))+j),[],[])).bind λ(_,_,_,_,_,a,c,d,b)=>
          ab (((a,b,c),d),0)
         else
         ad
        else
        ad
       else
       ad
      else
      ad
     else
     ad
    else
    ad
   else
   ad
  else
  ad
 else
 ad
def Zxg:Fs yb:=⟨72,[.v Zf,.v Zc,.v yI,.v .u64],[],[Zf,Zc,yI,.u64],[⟨.ret,[(0,.bm [.v ZM,.v yI])],[],[ZM,yI]⟩],λx=>Vt yD x.1 x.2.1 x.2.2.1 x.2.2.2⟩
theorem Zv2:Zxg.Ok:=pX (fi:={ hi:=ZP0,lp:=[(0,ZmW),(1,ZmX)],gh:=[(11,.cE 15 [] Zn 234),(31,.gQ 15)]}) (aF:={ l:=[ZoE,VG,tI,ZoH,ZvW,ZoI,MS,Zs1,MU,ZvT,ZoJ,MT,ZoK]}) (kB ⟨ZvU,VZ,tJ,ZvV,ZCl,ZvX,ZmT,ZAa,ZjH,ZsZ,ZvZ,Zlo,Zv1,ao⟩) ⟨ZqY,ZqZ,ao⟩
def MY(F:Nat)(a0:yU):yO (Bool):=
 ab (ag (a0 < 2305843009213688669))
def MZ:Fs yb:=⟨190,[.v .u64],[],[.u64],(zN .bool),λx=>MY yD x⟩
theorem ZmY:MZ.Ok:=aQ { still:=[2]} [] [] trivial
def Zyf(F:Nat)(a0:yU):yO (Bool):=
 (MY F a0).bind λa=>
 if a=ae then
  ab (a0 !=0)
 else
 ab af
def Zv3:Fs yb:=⟨143,[.v .u64],[],[.u64],(zN .bool),λx=>Zyf yD x⟩
theorem ZCn:Zv3.Ok:=aQ { still:=[2,3]} [] [MZ] ⟨ZmY,ao⟩
def ZmZ(F:Nat)(s:(yU×Int×Int×aQa)):yO ((yU×Int×Int×aQa)⊕aQa):=
 if(ag (s.2.2.1 < s.2.1))=ae then
  if(ag (0<=wi (56 - (wi (8*s.2.2.1)))))=ae then
   let a:yU:=ZE s.1 (min (wi (56 - (wi (8*s.2.2.1)))).toNat 64)
   if(bi s.2.2.1 8)=ae then
    (s.2.2.2[(0+s.2.2.1.toNat)]?).bind λb=>
    let c:aQa:=s.2.2.2.set (0+s.2.2.1.toNat) (w8 (a.toNat:Int))
    ab (.inl (s.1,s.2.1,wi (s.2.2.1+1),c))
   else
   ad
  else
  ad
 else
 ab (.inr s.2.2.2)
def ZoL:Lp:=⟨[(0,.v .u64),(3,.view 0 [] 1 0 8),(7,.v yI),(8,.v yI)],[.var (.v aQy) ae],[.u64,yI,yI,aQy],[⟨.exit 0,[(3,.view 0 [] 1 0 8)],[.var (.v aQy) ae],[aQy]⟩],Zd (ZmZ yD) yD⟩
theorem Zr8:ZoL.bt yb 145 0:=Zt { still:=[2]} [] [] trivial
def zn(F:Nat)(a0:yU):yO (aQa):=
 (Zd (ZmZ F) F (a0,8,0,[0,0,0,0,0,0,0,0])).bind λa=>
 ab ((a.drop 0).take 8)
def NA:Fs yb:=⟨145,[.v .u64],[],[.u64],(zN aQb),λx=>zn yD x⟩
theorem ZoM:NA.Ok:=aQ { still:=[2]} [(0,ZoL)] [] trivial ⟨Zr8,ao⟩
def ZP1:ByteArray:=⟨#[115,105,103]⟩
def NB(F:Nat)(a0:yU)(a1:yU)(a2:aQa):yO (yU):=
 (zn F a0).bind λa=>
 (zn F a1).bind λb=>
 (QJ F ZP1 [a,b,a2]).bind λc=>
 (qr F c).bind λd=>
 ab d
def NC:Fs yb:=⟨192,[.v .u64,.v .u64,.v aQe],[],[.u64,.u64,aQe],(zN .u64),λx=>NB yD x.1 x.2.1 x.2.2⟩
def ZQW:HI:={ still:=[6,7,9,12,13],dX:=[11]}
theorem Zii:NC.Ok:=aQ ZQW [] [NA,mS,qt] ⟨ZoM,oD,tO,ao⟩
def tU(F:Nat)(a0:yU):yO (yU):=
 ab (a0 % 2305843009213688669)
def ND:Fs yb:=⟨215,[.v .u64],[],[.u64],(zN .u64),λx=>tU yD x⟩
theorem Zs2:ND.Ok:=aQ { still:=[2]} [] [] trivial
def Zlr(F:Nat)(a0:yU)(a1:yU):yO (yU):=
 ab ((a0+a1) % 2305843009213688669)
def ZjK:Fs yb:=⟨216,[.v .u64,.v .u64],[],[.u64,.u64],(zN .u64),λx=>Zlr yD x.1 x.2⟩
theorem Zq0:ZjK.Ok:=aQ { still:=[4]} [] [] trivial
def Zv4(F:Nat)(a0:yU)(a1:yU):yO (yU):=
 (tU F a0).bind λa=>
 (tU F a1).bind λb=>
 (Zlr F a b).bind λc=>
 ab c
def Zs3:Fs yb:=⟨194,[.v .u64,.v .u64],[],[.u64,.u64],(zN .u64),λx=>Zv4 yD x.1 x.2⟩
theorem ZAc:Zs3.Ok:=aQ { still:=[4,5,6,7,8]} [] [ND,ZjK] ⟨Zs2,Zq0,ao⟩
def ZjL(F:Nat)(a0:yU)(a1:yU):yO (yU):=
 (xf F a0 a1).bind λa=>
 (ow F a.1 a.2 2305843009213688669).bind λb=>
 ab b
def Zij:Fs yb:=⟨217,[.v .u64,.v .u64],[],[.u64,.u64],(zN .u64),λx=>ZjL yD x.1 x.2⟩
theorem Zpm:Zij.Ok:=aQ { still:=[4,8,9,13,14]} [] [JL,xb] ⟨Zok,JJ,ao⟩
def Zv5(F:Nat)(a0:yU)(a1:yU):yO (yU):=
 (tU F a0).bind λa=>
 (tU F a1).bind λb=>
 (ZjL F a b).bind λc=>
 ab c
def Zs4:Fs yb:=⟨195,[.v .u64,.v .u64],[],[.u64,.u64],(zN .u64),λx=>Zv5 yD x.1 x.2⟩
theorem ZAd:Zs4.Ok:=aQ { still:=[4,5,6,7,8]} [] [ND,Zij] ⟨Zs2,Zpm,ao⟩
def Zq1(F:Nat)(a0:yU)(a1:yU)(a2:aQa)(g:yU):yO (gi):=
 (Wj F a1).bind λa=>
 (zg F a g).bind λb=>
 (Wj F a0).bind λc=>
 (NB F b c a2).bind λd=>
 (Zv5 F d a0).bind λe=>
 (Zv4 F a1 e).bind λf=>
 ab (b,f)
def ZoN:Fs yb:=⟨144,[.v .u64,.v .u64,.v aQe,.v .u64],[],[.u64,.u64,aQe,.u64],(zN gU),λx=>Zq1 yD x.1 x.2.1 x.2.2.1 x.2.2.2⟩
def ZQX:HI:={ still:=[9,10,11,14,16,17,18,19,20,21,22]}
theorem Zv6:ZoN.Ok:=aQ ZQX [] [qu,zh,NC,Zs4,Zs3] ⟨tQ,MQ,Zii,ZAd,ZAc,ao⟩
def ZP2:ByteArray:=⟨#[110,111,110,99,101]⟩
def Zv7(F:Nat)(a0:yU)(a1:aQa):yO (gi):=
 (Zyf F a0).bind λa=>
 if(!a)=ae then
  ab (0,0)
 else
 (zn F a0).bind λb=>
 (QJ F ZP2 [b,a1]).bind λc=>
 (qr F c).bind λd=>
 (Zq1 F a0 d a1 1).bind λe=>
 ab e
def Zs5:Fs yb:=⟨74,[.v .u64,.v aQe],[],[.u64,aQe],(zN gU),λx=>Zv7 yD x.1 x.2⟩
def ZQY:HI:={ still:=[5,9,10,13,14,15,16],dX:=[12]}
theorem ZAe:Zs5.Ok:=aQ ZQY [] [Zv3,NA,mS,qt,ZoN] ⟨ZCn,ZoM,oD,tO,Zv6,ao⟩
def ZAf(F:Nat)(a0:fq)(a1:Tx):yO (gi):=
 (dW F a1).bind λa=>
 (Zv7 F a0.1 a).bind λb=>
 ab b
def NE(F:Nat):Fs yb:=⟨31,[.v eV,.v aJ],[],[eV,aJ],(zN gU),λx=>ZAf F x.1 x.2⟩
def Zxh:Fs yb:=NE yD
theorem Zv8:Zxh.Ok:=aQ { still:=[6,7,8]} [] [KT,Zs5] ⟨KU,ZAe,ao⟩
def Zv9(F:Nat)(a0:yU):yO (yU):=
 (zb F a0).bind λa=>
 (qd F a 2305843009213688668).bind λb=>
 ab b
def Zs6:Fs yb:=⟨193,[.v .u64],[],[.u64],(zN .u64),λx=>Zv9 yD x⟩
theorem ZAg:Zs6.Ok:=aQ { still:=[2,3,4]} [] [zc,xg] ⟨ME,JR,ao⟩
def Zq2(F:Nat)(a0:yU)(a1:aQa)(a2:yU)(j:gi):yO (Bool):=
 if(a0==1)=ae then
  ab af
 else
 (XD F a0).bind λa=>
 if(!a)=ae then
  ab af
 else
 (XD F a2).bind λb=>
 if(!b)=ae then
  ab af
 else
 (XD F j.1).bind λc=>
 if(!c)=ae then
  ab af
 else
 (MY F j.2).bind λd=>
 if(!d)=ae then
  ab af
 else
 (NB F j.1 a0 a1).bind λe=>
 (tP F a0 e).bind λf=>
 (Zv9 F a2).bind λg=>
 (MO F [j.1,f,g]).bind λh=>
 (Wj F j.2).bind λi=>
 ab (i==h)
def ZoO:Fs yb:=⟨142,[.v .u64,.v aQe,.v .u64,.v gU],[],[.u64,aQe,.u64,gU],(zN .bool),λx=>Zq2 yD x.1 x.2.1 x.2.2.1 x.2.2.2⟩
def ZQZ:HI:={ still:=[8,13,18,24,30,36,38,39,40,41,43,45,48]}
theorem Zwa:ZoO.Ok:=aQ ZQZ [] [VG,MZ,NC,ze,Zs6,MP,qu] ⟨VZ,ZmY,Zii,MF,ZAg,ZqT,tQ,ao⟩
def ZAh(F:Nat)(a0:yU)(a1:aQa)(a2:gi):yO (Bool):=
 (Zq2 F a0 a1 1 a2).bind λa=>
 ab a
def NF(F:Nat):Fs yb:=⟨73,[.v .u64,.v aQe,.v gU],[],[.u64,aQe,gU],(zN .bool),λx=>ZAh F x.1 x.2.1 x.2.2⟩
def Zxi:Fs yb:=NF yD
theorem Zwb:Zxi.Ok:=aQ { still:=[6,7,8,9]} [] [ZoO] ⟨Zwa,ao⟩
def Zn2(F:Nat):yO (Z7):=
 ab ([[1,0,0,0,0,0,0,0,0,0,0,0,0,0,0,0,0,0,0,0,0,0,0,0,0,0,0,0,0,0,0,0],[2,0,0,0,0,0,0,0,0,0,0,0,0,0,0,0,0,0,0,0,0,0,0,0,0,0,0,0,0,0,0,0]],[(100,500,10,4,5,9000),(100,500,10,4,5,9000)],[6000,4000],0,0,[])
def QM(F:Nat):Fs yb:=⟨38,[],[],[],(zN Z4),λx=>Zn2 F⟩
def Zm0:Fs yb:=QM yD
theorem ZlB:Zm0.Ok:=aQ {} [] [] trivial
def WN(F:Nat)(s:(Int×Tx)):yO ((Int×Tx)⊕((Bool×Tx)⊕Tx)):=
 if(ag (s.1 < (s.2.1.length:Int)))=ae then
  (idx s.2.1 s.1).bind λa=>
  if(ag ((a.2.2.1.length:Int) > 14))=ae then
   ab (.inr (.inl (af,s.2)))
  else
  ab (.inl (wi (s.1+1),s.2))
 else
 ab (.inr (.inr s.2))
def ZcW:Lp:=⟨[(1,.aj 0 []),(3,.v yI)],[.var (.v aJ) ae],[yI,aJ],[⟨.ret,[(2,.v .bool)],[.var (.v aJ) ae],[.bool,aJ]⟩,⟨.exit 0,[(1,.aj 0 [])],[.var (.v aJ) ae],[aJ]⟩],Zd (WN yD) yD⟩
theorem ZiH:ZcW.bt yb 39 0:=Zt { still:=[2]} [] [] trivial
def YR(F:Nat)(s:(Int×Int×Tx)):yO ((Int×Int×Tx)⊕((Bool×Tx)⊕(Int×Tx))):=
 (idx s.2.2.2.1 s.1).bind λa=>
 if(ag (s.2.1 < (a.2.length:Int)))=ae then
  (idx s.2.2.2.1 s.1).bind λb=>
  (idx b.2 s.2.1).bind λc=>
  if(ag ((c.1.length:Int) > 14))=ae then
   ab (.inr (.inl (af,s.2.2)))
  else
  ab (.inl (s.1,wi (s.2.1+1),s.2.2))
 else
 ab (.inr (.inr (s.1,s.2.2)))
def ZcX:Lp:=⟨[(1,.aj 0 []),(4,.v yI),(5,.v yI)],[.var (.v aJ) ae],[yI,yI,aJ],[⟨.ret,[(2,.v .bool)],[.var (.v aJ) ae],[.bool,aJ]⟩,⟨.exit 4,[(1,.aj 0 []),(4,.v yI)],[.var (.v aJ) ae],[yI,aJ]⟩],Zd (YR yD) yD⟩
theorem ZiI:ZcX.bt yb 39 2:=Zt { still:=[2]} [] [] trivial
def Yp(F:Nat)(s:(Int×Tx)):yO ((Int×Tx)⊕((Bool×Tx)⊕Tx)):=
 if(ag (s.1 < (s.2.2.1.length:Int)))=ae then
  (idx s.2.2.1 s.1).bind λa=>
  if(ag ((a.2.length:Int) > 6))=ae then
   ab (.inr (.inl (af,s.2)))
  else
  (Zd (YR F) F (s.1,0,s.2)).bind λb=>
  match b with
  |.inl c=>
   ab (.inr (.inl (c.1,c.2)))
  |.inr d=>
   ab (.inl (wi (d.1+1),d.2))
 else
 ab (.inr (.inr s.2))
def ZcY:Lp:=⟨[(1,.aj 0 []),(4,.v yI)],[.var (.v aJ) ae],[yI,aJ],[⟨.ret,[(2,.v .bool)],[.var (.v aJ) ae],[.bool,aJ]⟩,⟨.exit 2,[],[.var (.v aJ) ae],[aJ]⟩],Zd (Yp yD) yD⟩
theorem ZiJ:ZcY.bt yb 39 1:=Zt { still:=[2]} [(2,ZcX)] [] trivial ⟨ZiI,ao⟩
def VN(F:Nat)(a0:Tx):yO (Bool):=
 if(ag ((a0.1.length:Int) > 66))=ae then
  ab af
 else
 if(ag ((a0.2.1.length:Int) > 66))=ae then
  ab af
 else
 (Zd (WN F) F (0,a0)).bind λa=>
 match a with
 |.inl b=>
  ab b.1
 |.inr c=>
  (Zd (Yp F) F (0,c)).bind λd=>
  match d with
  |.inl e=>
   ab e.1
  |.inr f=>
   ab ae
def ZeA:Fs yb:=⟨39,[.v aJ],[],[aJ],(zN .bool),λx=>VN yD x⟩
theorem ZlC:ZeA.Ok:=aQ { still:=[2]} [(0,ZcW),(1,ZcY)] [] trivial ⟨ZiH,ZiJ,ao⟩
def Yj(F:Nat)(s:(Int×aQg)):yO ((Int×aQg)⊕((Bool×aQg)⊕aQg)):=
 if(ag (s.1 < 2))=ae then
  if(bi s.1 2)=ae then
   (s.2[s.1.toNat]?).bind λa=>
   if(ag ((a.1.length:Int) > 10))=ae then
    ab (.inr (.inl (af,s.2)))
   else
   if(bi s.1 2)=ae then
    (s.2[s.1.toNat]?).bind λb=>
    if(ag ((b.2.1.length:Int) > 10))=ae then
     ab (.inr (.inl (af,s.2)))
    else
    if(bi s.1 2)=ae then
     (s.2[s.1.toNat]?).bind λc=>
     (VN F ([],c.2.1,0)).bind λd=>
     if(!d)=ae then
      ab (.inr (.inl (af,s.2)))
     else
     ab (.inl (wi (s.1+1),s.2))
    else
    ad
   else
   ad
  else
  ad
 else
 ab (.inr (.inr s.2))
def Zfu:Lp:=⟨[(1,.aj 0 []),(3,.v yI)],[.var (.v aQc) ae],[yI,aQc],[⟨.ret,[(2,.v .bool)],[.var (.v aQc) ae],[.bool,aQc]⟩,⟨.exit 0,[],[.var (.v aQc) ae],[aQc]⟩],Zd (Yj yD) yD⟩
theorem ZkH:Zfu.bt yb 9 0:=Zt { still:=[2,27]} [] [ZeA] ⟨ZlC,ao⟩
def Q0(F:Nat)(a0:aQg):yO (Bool):=
 (Zd (Yj F) F (0,a0)).bind λa=>
 match a with
 |.inl b=>
  ab b.1
 |.inr c=>
  ab ae
def Zhi:Fs yb:=⟨9,[.v aQc],[],[aQc],(zN .bool),λx=>Q0 yD x⟩
theorem Zn3:Zhi.Ok:=aQ { still:=[2,27]} [(0,Zfu)] [] trivial ⟨ZkH,ao⟩
def WG(F:Nat)(a0:yG)(a1:aQo):yO (yG):=
 (a0.2.1[0]?).bind λa=>
 (a1[0]?).bind λb=>
 (a0.2.1[0]?).bind λc=>
 (a0.2.1[1]?).bind λd=>
 (a1[1]?).bind λe=>
 ((a0.2.1.set 0 (wi (a+b)))[1]?).bind λf=>
 if(cf 0 a0.2.2.1.length 40)=ae then
  ab (a0.1,(a0.2.1.set 0 (wi (a+b))).set 1 (wi (d+e)),a0.2.2.1,a0.2.2.2)
 else
 ad
def NG:Fs yb:=⟨16,[.v Zc,.v aQl],[],[Zc,aQl],(zN Zc),λx=>WG yD x.1 x.2⟩
theorem ZcZ:NG.Ok:=aQ { own:=[23,26]} [] [] trivial
def Z1(F:Nat)(a0:Int)(a1:Int)(a2:Int):yO (Bool):=
 if(ag (a0 >= a1))=ae then
  ab (ag (a0<=a2))
 else
 ab af
def Vu:Fs yb:=⟨98,[.v yI,.v yI,.v yI],[],[yI,yI,yI],(zN .bool),λx=>Z1 yD x.1 x.2.1 x.2.2⟩
theorem Ql:Vu.Ok:=aQ { still:=[6]} [] [] trivial
def VO(F:Nat)(a0:bD):yO (Bool):=
 (Z1 F a0.1 0 65536).bind λa=>
 if a=ae then
  (Z1 F a0.2.1 a0.1 1125899906842624).bind λb=>
  if b=ae then
   (Z1 F a0.2.2.1 1 4096).bind λc=>
   if c=ae then
    (Z1 F a0.2.2.2.1 0 16).bind λd=>
    if d=ae then
     (Z1 F a0.2.2.2.2.1 1 1125899906842624).bind λe=>
     if e=ae then
      (Z1 F a0.2.2.2.2.2 0 1125899906842624).bind λf=>
      ab f
     else
     ab af
    else
    ab af
   else
   ab af
  else
  ab af
 else
 ab af
def ZeB:Fs yb:=⟨99,[.v iK],[],[iK],(zN .bool),λx=>VO yD x⟩
def ZQ0:HI:={ still:=[2,5,9,11,16,22,27,32]}
theorem ZlD:ZeB.Ok:=aQ ZQ0 [] [Vu] ⟨Ql,ao⟩
def Xo(F:Nat)(s:(yU×yU×yU)):yO ((yU×yU×yU)⊕yU):=
 if(ag (s.2.1 > 0))=ae then
  if((s.2.1 % 2)==1)=ae then
   ab (.inl ((s.1+s.1) % 4611686018427377339,s.2.1 / 2,(s.2.2+s.1) % 4611686018427377339))
  else
  ab (.inl ((s.1+s.1) % 4611686018427377339,s.2.1 / 2,s.2.2))
 else
 ab (.inr s.2.2)
def Zcw:Lp:=⟨[(0,.v .u64),(1,.v .u64),(5,.v .u64)],[],[.u64,.u64,.u64],[⟨.exit 0,[(5,.v .u64)],[],[.u64]⟩],Zd (Xo yD) yD⟩
theorem ZhC:Zcw.bt yb 223 0:=Zt { still:=[4]} [] [] trivial
def Vv(F:Nat)(a0:yU)(a1:yU):yO (yU):=
 (Zd (Xo F) F (a0,a1,0)).bind λa=>
 ab a
def Qm(F:Nat):Fs yb:=⟨223,[.v .u64,.v .u64],[],[.u64,.u64],(zN .u64),λx=>Vv F x.1 x.2⟩
def ZlE:Fs yb:=Qm yD
theorem ZkI:ZlE.Ok:=aQ { still:=[4]} [(0,Zcw)] [] trivial ⟨ZhC,ao⟩
end
end Go.Proofs.YtcbhhaigilifgaaGreat
end
section
set_option maxRecDepth 4000
namespace Go.Proofs.YtcbhhaigilifgaaGreat
open Go Go.Ev
theorem qv{z:Nat}:(yao (z % 4611686018427377339)).toNat=z % 4611686018427377339:=by
 rw[ybe,yap];exact Nat.lt_trans (Nat.mod_lt _ (by decide)) (by decide)
theorem ZJQ{a b:yU}(ha:a.toNat < 4611686018427377339)(hb:b.toNat < 4611686018427377339):((a+b) % 4611686018427377339).toNat=(a.toNat+b.toNat) % 4611686018427377339:=by
 rw[UInt64.toNat_mod,UInt64.toNat_add,show(4611686018427377339:yU).toNat=4611686018427377339 from rfl,yap (a:=a.toNat+b.toNat) (by omega)]
theorem NH:∀(k m:Nat)(A B O:yU),A.toNat < 4611686018427377339->O.toNat < 4611686018427377339->B.toNat < 2 ^ k->k < m->
 Zd (Xo yD) m (A,B,O)=ab (yao ((O.toNat+A.toNat*B.toNat) % 4611686018427377339))
 |k,0,_,_,_,_,_,_,h=>by omega
 |0,m+1,A,B,O,G,l,h,_=>by
  have S:B.toNat=0:=by rw[Nat.pow_zero]at h;omega
  have T:¬B > 0:=by
   intro j;have I:0 < B.toNat:=yca.1 j;omega
  have hs:Xo yD (A,B,O)=if ag (B > 0)=ae then(if((B % 2)==1)=ae then ab (.inl ((A+A) % 4611686018427377339,B / 2,(O+A) % 4611686018427377339)) else ab (.inl ((A+A) % 4611686018427377339,B / 2,O))) else ab (.inr O):=rfl
  unfold Zd;rw[hs]
  rw[yX (by rw[yN];exact T),ya,S,Nat.mul_zero,ych,yap l,UInt64.ofNat_toNat]
 |k+1,m+1,A,B,O,G,l,h,U=>by
  have hs:Xo yD (A,B,O)=if ag (B > 0)=ae then(if((B % 2)==1)=ae then ab (.inl ((A+A) % 4611686018427377339,B / 2,(O+A) % 4611686018427377339)) else ab (.inl ((A+A) % 4611686018427377339,B / 2,O))) else ab (.inr O):=rfl
  unfold Zd;rw[hs];by_cases j:B > 0
  .have I:0 < B.toNat:=yca.1 j;have f:(B / 2).toNat=B.toNat / 2:=by rw[UInt64.toNat_div];rfl
   have y:(B / 2).toNat < 2 ^ k:=by
    rw[f];rw[Nat.pow_succ]at h;omega
   have z:((B % 2)==1)=ag (B.toNat % 2=1):=by
    rw[Bool.eq_iff_iff,yT,yN, <-UInt64.toNat_inj,UInt64.toNat_mod];rfl
   have g:=ZJQ G G;have E:((A+A) % 4611686018427377339).toNat < 4611686018427377339:=by rw[g];exact Nat.mod_lt _ (by decide)
   have R:B.toNat=2*(B.toNat / 2)+B.toNat % 2:=by omega
   rw[yW (yY j),z];by_cases M:B.toNat % 2=1
   .have F:=ZJQ l G;have Q:((O+A) % 4611686018427377339).toNat < 4611686018427377339:=by rw[F];exact Nat.mod_lt _ (by decide)
    rw[yW (yY M),ya];dsimp only;rw[NH k m _ _ _ E Q y (by omega),g,F,f];congr 2;rw[Nat.add_mod,Nat.mod_mod,Nat.mod_mul_mod, <-Nat.add_mod];congr 1
    conv=>rhs;rw[R,M,Nat.mul_add,Nat.mul_one, <-Nat.mul_assoc]
    rw[Nat.mul_two];omega
   .rw[yX (by rw[yN];exact M),ya];dsimp only;rw[NH k m _ _ _ E l y (by omega),g,f];congr 2;rw[Nat.add_mod,Nat.mod_mul_mod, <-Nat.add_mod];congr 1
    conv=>rhs;rw[R,show B.toNat % 2=0 by omega,ych, <-Nat.mul_assoc]
    rw[Nat.mul_two]
  .have I:B.toNat=0:=by
    rcases Nat.eq_zero_or_pos B.toNat with h5|h5
    .exact h5
    .exact absurd (show(0:yU) < B from yca.2 h5) j
   rw[yX (by rw[yN];exact j),ya,I,Nat.mul_zero,ych,yap l,UInt64.ofNat_toNat]
noncomputable def Zz(F:Nat)(a0:yU)(a1:yU):yO yU:=if ag (a0.toNat < 4611686018427377339)=ae then ab (yao (a0.toNat*a1.toNat % 4611686018427377339)) else Vv F a0 a1
theorem ZG1(a b:yU):Vv yD a b=Zz yD a b:=by
 unfold Zz;split
 .rename_i h;unfold Vv;rw[NH 64 yD a b 0 (yF h) (by decide) (UInt64.toNat_lt _) (by rw[iI];omega),ya,show(0:yU).toNat=0 from rfl,yax]
 .rfl
noncomputable def ZlF(F:Nat):Fs yb:={ Qm F with M:=λx=>Zz F x.1 x.2}
noncomputable def ZeC:Fs yb:=ZlF yD
theorem ZlG:ZeC.Ok:=ov (s:=Qm yD) ZkI λx=>(ZG1 x.1 x.2).symm
end Go.Proofs.YtcbhhaigilifgaaGreat
end
section
set_option maxRecDepth 4000
namespace Go.Proofs.YtcbhhaigilifgaaGreat
open Go Go.Ev
noncomputable section
def Xp(F:Nat)(s:(yU×yU×yU)):yO ((yU×yU×yU)⊕yU):=
 if(ag (s.2.1 > 0))=ae then
  if((s.2.1 % 2)==1)=ae then
   (Zz F s.2.2 s.1).bind λa=>
   (Zz F s.1 s.1).bind λb=>
   ab (.inl (b,s.2.1 / 2,a))
  else
  (Zz F s.1 s.1).bind λc=>
  ab (.inl (c,s.2.1 / 2,s.2.2))
 else
 ab (.inr s.2.2)
def Zcx:Lp:=⟨[(0,.v .u64),(1,.v .u64),(5,.v .u64)],[],[.u64,.u64,.u64],[⟨.exit 0,[(5,.v .u64)],[],[.u64]⟩],Zd (Xp yD) yD⟩
theorem ZhD:Zcx.bt yb 201 0:=Zt { still:=[4,11,12,14,15]} [] [ZeC] ⟨ZlG,ao⟩
def Vw(F:Nat)(a0:yU)(a1:yU):yO (yU):=
 (Zd (Xp F) F (a0,a1,1)).bind λa=>
 ab a
def Qn(F:Nat):Fs yb:=⟨201,[.v .u64,.v .u64],[],[.u64,.u64],(zN .u64),λx=>Vw F x.1 x.2⟩
def ZlH:Fs yb:=Qn yD
theorem ZkJ:ZlH.Ok:=aQ { still:=[4,11,12,14,15]} [(0,Zcx)] [] trivial ⟨ZhD,ao⟩
end
end Go.Proofs.YtcbhhaigilifgaaGreat
end
section
set_option maxRecDepth 4000
namespace Go.Proofs.YtcbhhaigilifgaaGreat
open Go Go.Ev
theorem NI:∀(k m:Nat)(A N O:yU),A.toNat < 4611686018427377339->O.toNat < 4611686018427377339->N.toNat < 2 ^ k->k < m->Zd (Xp yD) m (A,N,O)=ab (yao (fx 4611686018427377339 k A.toNat N.toNat O.toNat))
 |k,0,_,_,_,_,_,_,h=>by omega
 |0,m+1,A,N,O,M,F,h,_=>by
  have Q:¬N > 0:=by
   intro j;have B:0 < N.toNat:=yca.1 j;rw[Nat.pow_zero]at h;omega
  have hs:Xp yD (A,N,O)=if ag (N > 0)=ae then(if((N % 2)==1)=ae then(Zz yD O A).bind λG=>(Zz yD A A).bind λf=>ab (.inl (f,N / 2,G)) else(Zz yD A A).bind λf=>ab (.inl (f,N / 2,O))) else ab (.inr O):=rfl
  unfold Zd;rw[hs]
  rw[yX (by rw[yN];exact Q),ya,fx,UInt64.ofNat_toNat]
 |k+1,m+1,A,N,O,M,F,h,U=>by
  have hs:Xp yD (A,N,O)=if ag (N > 0)=ae then(if((N % 2)==1)=ae then(Zz yD O A).bind λG=>(Zz yD A A).bind λf=>ab (.inl (f,N / 2,G)) else(Zz yD A A).bind λf=>ab (.inl (f,N / 2,O))) else ab (.inr O):=rfl
  unfold Zd;rw[hs];by_cases j:N > 0
  .have R:0 < N.toNat->fx 4611686018427377339 (k+1) A.toNat N.toNat O.toNat=fx 4611686018427377339 k (A.toNat*A.toNat % 4611686018427377339) (N.toNat / 2) (if N.toNat % 2=1 then O.toNat*A.toNat % 4611686018427377339 else O.toNat):=λh=>by
    rw[fx,yX (by omega)]
   have B:0 < N.toNat:=yca.1 j;have g:(N / 2).toNat=N.toNat / 2:=by rw[UInt64.toNat_div];rfl
   have l:(N / 2).toNat < 2 ^ k:=by
    rw[g];rw[Nat.pow_succ]at h;omega
   have y:((N % 2)==1)=ag (N.toNat % 2=1):=by
    rw[Bool.eq_iff_iff,yT,yN, <-UInt64.toNat_inj,UInt64.toNat_mod];rfl
   have I:∀z:Nat,z % 4611686018427377339 < 4611686018427377339:=λz=>Nat.mod_lt _ (by decide)
   have S:Zz yD A A=ab (yao (A.toNat*A.toNat % 4611686018427377339)):=by
    unfold Zz;rw[yW (yY M)]
   have T:Zz yD O A=ab (yao (O.toNat*A.toNat % 4611686018427377339)):=by
    unfold Zz;rw[yW (yY F)]
   rw[yW (yY j),y,R B,S,T];by_cases E:N.toNat % 2=1
   .rw[yW (yY E),yW E,ya,ya,ya];dsimp only;rw[NI k m _ _ _ (by rw[qv];exact I _) (by rw[qv];exact I _) l (by omega),qv,qv,g]
   .rw[yX (by rw[yN];exact E),yX E,ya,ya];dsimp only;rw[NI k m _ _ _ (by rw[qv];exact I _) F l (by omega),qv,g]
  .have B:N.toNat=0:=by
    rcases Nat.eq_zero_or_pos N.toNat with h5|h5
    .exact h5
    .exact absurd (show(0:yU) < N from yca.2 h5) j
   rw[yX (by rw[yN];exact j),ya,fx,yW B,UInt64.ofNat_toNat]
noncomputable def XM(F:Nat)(a0:yU)(a1:yU):yO yU:=if ag (a0.toNat < 4611686018427377339)=ae then ab (yao (fx 4611686018427377339 64 a0.toNat a1.toNat 1)) else Vw F a0 a1
theorem ZG2(a n:yU):Vw yD a n=XM yD a n:=by
 unfold XM;split
 .rename_i h;unfold Vw;rw[NI 64 yD a n 1 (yF h) (by decide) (UInt64.toNat_lt _) (by rw[iI];omega),ya];rfl
 .rfl
noncomputable def ZlI(F:Nat):Fs yb:={ Qn F with M:=λx=>XM F x.1 x.2}
noncomputable def ZeD:Fs yb:=ZlI yD
theorem ZlJ:ZeD.Ok:=ov (s:=Qn yD) ZkJ λx=>(ZG2 x.1 x.2).symm
end Go.Proofs.YtcbhhaigilifgaaGreat
end
