/- Parts of the proof, in one file. -/
import Derived.Test.YtpgpjjjoglafdaaGreatKf
open BitVec renaming ofInt → ybx
open Int renaming toNat_natCast → ybq
open List renaming length_append → yo, getElem?_eq_some_iff → yq, range → yr, nil_append → yw, length_map → yy, getElem?_eq_getElem → yab, append_assoc → yac, map_cons → yad, length_cons → yaf, length_take → yag, map_append → yai, take_length → yal, mem_cons_self → yam, getElem?_append_right → yan, mem_cons_of_mem → yao, append_nil → yap, mem_singleton → yaq, map_map → yas, getElem?_cons_succ → yat, mem_cons → yaz, getElem?_cons_zero → yba, eq_nil_of_length_eq_zero → ybb, take_append_drop → ybh, mem_append → ybj, mem_map → ybn, mem_of_mem_take → ybu, getElem_of_mem → ycf, take_of_length_le → ycl, not_mem_nil → ycm, mem_of_mem_drop → yct
open Nat renaming le_refl → ym, mod_eq_of_lt → yav, le_trans → yby
open Option renaming bind_some → ya
open UInt64 renaming ofNat → yah, toNat_ofNat' → ybf
open UInt8 renaming ofNat → yax
set_option linter.unusedVariables false
set_option linter.unusedSimpArgs false
section
set_option maxRecDepth 4000
namespace Go.Proofs.YtpgpjjjoglafdaaGreat
open Go Go.Ev
theorem ZsX{ls:yL (yL yB)}(h:ls.flatten.length<=1000000000)(hn:ls.length<=1000):Yl yD ls=some ls.flatten:=by
 unfold Yl
 rw[show(ls,(0:Int),ls,(ls.length:Int),(0:Int))=(λk:Nat=>(ls,((ls.take k).flatten.length:Int),ls,(ls.length:Int),(k:Int))) 0 from rfl,
  Zz (x:=(ls,(ls.flatten.length:Int))) ls.length (λk:Nat=>(ls,((ls.take k).flatten.length:Int),ls,(ls.length:Int),(k:Int))) ?_ ?_ (by omega),ya]
 ·have hg:Zpw (ls.flatten.length:Int)=some []:=by
   unfold Zpw;rw[yW];rw[Bool.and_eq_true];exact⟨yY (by omega),yY (by unfold Zj;omega)⟩
  dsimp only
  rw[hg,ya,show(ls,(ls.length:Int),(0:Int),([]:yL yB))=(λk:Nat=>(ls,(ls.length:Int),(k:Int),(ls.take k).flatten)) 0 from rfl,
   Zz (x:=ls.flatten) ls.length (λk:Nat=>(ls,(ls.length:Int),(k:Int),(ls.take k).flatten)) ?_ ?_ (by omega),ya]
  ·intro k hk;obtain⟨e,he,_⟩:=Zk hk;have hf:=ZsV he;have hl:=ZAG ls (k+1);rw[hf,yo] at hl;unfold YC;dsimp only;rw[yW (ZM hk),Zo he,ya,yW (Yi (by omega) (by omega)),Zt (by omega),hf]
  ·unfold YC;dsimp only;rw[yX (by rw[ZH];decide),yal]
 ·intro k hk;obtain⟨e,he,_⟩:=Zk hk;have hf:=ZsV he;have hl:=ZAG ls (k+1);rw[hf,yo] at hl;unfold YB;dsimp only;rw[yW (ZM hk),Zo he,ya,Z1 (z:=((ls.take k).flatten.length:Int)+(e.length:Int)) (by omega) (by omega),yX (ynd (by omega)),Zt (by omega),hf,yo];rfl
 ·unfold YB;dsimp only;rw[yX (by rw[ZH];decide),yal]
theorem Zu4{a b:yL yB}(h:a.length+b.length<=1000000000):V3 yD a b=some (a++b):=by
 unfold V3;rw[ZsX (by simp;omega) (by simp),ya];simp
def Xf(n:Nat):yL yB:=if h:n < 128 then[yax n] else yax (n % 128+128)::Xf (n / 128)
termination_by n
decreasing_by omega
theorem ZcP{n:Nat}(h:n < 128):Xf n=[yax n]:=by rw[Xf,dif_pos h]
theorem ZqM{n:Nat}(h:¬n < 128):Xf n=yax (n % 128+128)::Xf (n / 128):=by rw[Xf,dif_neg h]
theorem ZAJ:∀(j n:Nat),n < 128 ^ (j+1)->(Xf n).length<=j+1
 |0,n,h=>by rw[ZcP (by omega)];exact ym _
 |j+1,n,h=>by
  by_cases h0:n < 128
  ·rw[ZcP h0,List.length_singleton];omega
  ·rw[ZqM h0];have:=ZAJ j (n / 128) (by rw[Nat.pow_succ] at h;omega);simp only[yaf];omega
theorem ZS{n:Nat}(h:n<=9223372036854775807):(Xf n).length<=9:=ZAJ 8 n (by omega)
theorem ZEs{n:Nat}(h:n<=9223372036854775807):Zek yD (n:Int)=some (Xf n):=by
 unfold Zek;refine Exists.elim (X4 (step:=ZbK yD) (λs=>∃m:Nat,s.1=(m:Int)/\m<=n/\s.2++Xf m=Xf n) (λs=>s.1.toNat) (λx=>∃m:Nat,x.1=(m:Int)/\m < 128/\x.2++Xf m=Xf n) ?_ ((n:Int),([]:yL yB)) ⟨n,rfl,ym _,rfl⟩ (by dsimp only;omega)) ?_
 ·rintro⟨_,o⟩ ⟨m,rfl,hm,ho⟩;unfold ZbK;dsimp only at ho ⊢;have hr:=congrArg List.length ho;have hl:=ZS h;rw[yo] at hr;by_cases h1:m < 128
  ·right;rw[yX (ynd (by omega))];exact⟨_,rfl,m,rfl,h1,ho⟩
  ·left;rw[yW (yY (by omega)),yW (Yi (by omega) (by omega))];have e1:Int.tmod (m:Int) 128=((m % 128:Nat):Int):=rfl;have e2:Int.tdiv (m:Int) 128=((m / 128:Nat):Int):=rfl;rw[e1,e2,Z1 (z:=((m % 128:Nat):Int)+128) (by omega) (by omega),Z1 (z:=((m / 128:Nat):Int)) (by omega) (by omega)];refine⟨_,rfl,⟨m / 128,rfl,by omega, ?_⟩,by dsimp only;omega⟩;dsimp only;rw[<-ho,ZqM h1,yac];congr 1;rw[List.singleton_append];congr 1;unfold w8;congr 1;omega
 ·rintro⟨_,o⟩ ⟨h1,m,rfl,h2,h3⟩;dsimp only at h3 ⊢;have hr:=congrArg List.length h3;have hl:=ZS h;rw[yo] at hr;rw[h1,ya];dsimp only;rw[yW (Yi (by omega) (by omega)), <-h3,ZcP h2];congr 3;unfold w8;congr 1;omega
theorem Zfn{b:yL yB}{z:Int}(h0:0<=z)(h:z<=9223372036854775807)(hb:b.length<=1000000):XG yD b z=some (b++Xf z.toNat):=by
 obtain⟨n,rfl⟩:=Int.eq_ofNat_of_zero_le h0;have:=ZS (n:=n) (by omega);unfold XG;rw[yX (ynd (by omega)),ZEs (by omega),ya,Zu4 (by omega),ya,ybq]
theorem Zzh{b h:yL yB}(hb:b.length<=1000000)(hh:h.length<=1000000):ZaE yD b h=some (b++h):=by
 unfold ZaE;rw[Zu4 (by omega),ya]
theorem Zxl{b c:yL yB}(hb:b.length<=1000000)(hc:c.length<=1000000):QM yD b c=some (b++(Xf c.length++c)):=by
 have:=ZS (n:=c.length) (by omega);unfold QM;rw[ZEs (by omega),ya,ZsX (by simp;omega) (by simp),ya];simp
def ZiW(l:yL yB)(n k:Nat):yL yB:=l.take k++List.replicate (n - k) 0
theorem ZsY{l:yL yB}{n k:Nat}(h:k < l.length)(h2:l.length<=n):(ZiW l n k)[k]? =some 0:=by
 unfold ZiW;have h3:(l.take k).length=k:=by simp;omega
 rw[yan (by omega),h3,List.getElem?_replicate];simp;omega
theorem ZsZ{l:yL yB}{n k:Nat}{d:yB}(hx:l[k]? =some d)(h2:l.length<=n):(ZiW l n k).set k d=ZiW l n (k+1):=by
 have h:k < l.length:=(yq.1 hx).1;have h3:(l.take k).length=k:=by simp;omega
 unfold ZiW;rw[QS hx,List.set_append_right _ _ (by omega),h3,Nat.sub_self];have e:n - k=(n - (k+1))+1:=by omega
 rw[e,List.replicate_succ];simp
theorem Zs0{l:yL yB}{n:Nat}(h:l.length=n):ZiW l n n=l:=by
 unfold ZiW;rw[<-h];simp
def Zlm(n:Nat):yL yB:=(yr 8).map λi=>yax (n / 2 ^ (56 - 8*i))
theorem ZeB(n:Nat):(Zlm n).length=8:=by simp[Zlm]
theorem Zxm(n:Nat){k:Nat}(hk:k < 8):(Zlm n)[k]? =some (yax (n / 2 ^ (56 - 8*k))):=by simp[Zlm,hk]
theorem Zxn(x:yU){m:Nat}:w8 ((Zs x m).toNat:Int)=yax (x.toNat / 2 ^ m):=by
 unfold w8 Zs;have h:x.toNat / 2 ^ m < 18446744073709551616:=Nat.lt_of_le_of_lt (Nat.div_le_self ..) (UInt64.toNat_lt _);rw[ybf,yav h];apply UInt8.toNat_inj.1;rw[UInt8.toNat_ofNat',UInt8.toNat_ofNat'];omega
theorem Zs1{b:yL yB}(x:yU)(hb:b.length<=1000000):QJ yD b x=some (b++Zlm x.toNat):=by
 unfold QJ
 rw[show(b,x,(0:Int),([0,0,0,0,0,0,0,0]:yL yB))=(λk:Nat=>(b,x,(k:Int),ZiW (Zlm x.toNat) 8 k)) 0 from rfl,
  Zz (x:=(b,Zlm x.toNat)) 8 (λk:Nat=>(b,x,(k:Int),ZiW (Zlm x.toNat) 8 k)) ?_ ?_ (by omega),ya]
 ·dsimp only;rw[Zu4 (by rw[ZeB];omega),ya]
 ·intro k hk;unfold VS;dsimp only;have hl:=ZeB x.toNat
  rw[yW (yY (by omega)),Z1 (z:=8*(k:Int)) (by omega) (by omega),Z1 (z:=56 - 8*(k:Int)) (by omega) (by omega),yW (yY (by omega)),yW (YI (by omega) (by omega)),
   ybq,ZsY (by omega) (by omega),ya,Zt (by omega)]
  have e:min (56 - 8*(k:Int)).toNat 64=56 - 8*k:=by omega
  rw[e,Zxn,ZsZ (Zxm _ hk) (by omega)]
 ·unfold VS;dsimp only;rw[yX (by simp),Zs0 (ZeB _)]
def Zu5(b:Branch):Prop:=b.1.length<=12/\0<=b.2.1/\b.2.1<=1048576/\0<=b.2.2.1/\b.2.2.1<=1048576
def Zu6(b:Branch):Prop:=(∀p,p∈b.1->IsPt p.toNat)/\(b.2.2.2≠0->IsPt b.2.2.2.toNat)
def Wb(l:YD):Prop:=0 < l.length/\l.length<=4/\∀b,b∈l->Zu5 b
def Ve(l:YD):Prop:=∀b,b∈l->Zu6 b
theorem Zzi(p:yU):WI yD p=some (!decide (IsPt p.toNat)):=by
 unfold WI;rw[Za0,ya]
theorem ZEt{p:yU}(h:IsPt p.toNat):WI yD p=some false:=by rw[Zzi,yY h];rfl
theorem ZJu{l:yL yU}(hl:l.length<=12)(h:∀p,p∈l->IsPt p.toNat):Y9 yD l=some false:=by
 unfold Y9 WV
 rw[show(l,(l.length:Int),(0:Int))=(λk:Nat=>(l,(l.length:Int),(k:Int))) 0 from rfl,
  Zz (x:=.inr ()) l.length (λk:Nat=>(l,(l.length:Int),(k:Int))) ?_ ?_ (by omega),ya]
 ·rfl
 ·intro k hk;obtain⟨e,he,hm⟩:=Zk hk;unfold Yb;dsimp only;rw[yW (ZM hk),Zo he,ya,ZEt (h e hm),ya,Zt (by omega)];rfl
 ·unfold Yb;dsimp only;rw[yX (by rw[ZH];decide)]
theorem Zs2{z:Int}(h0:0<=z)(h1:z<=1048576):Wx yD z=some true:=by
 unfold Wx;rw[yW (yY h0),yY h1]
theorem ZjK{l:YD}(h:Wb l)(hp:Ve l):XM yD l=some true:=by
 unfold XM;obtain⟨h0,h1,h2⟩:=h
 rw[show(l,(l.length:Int),(0:Int),l)=(λk:Nat=>(l,(l.length:Int),(k:Int),l)) 0 from rfl,
  Zz (x:=.inr l) l.length (λk:Nat=>(l,(l.length:Int),(k:Int),l)) ?_ ?_ (by omega),ya]
 ·dsimp only;rw[yW (yY (by omega)),yY (by omega)]
 ·intro k hk;obtain⟨e,he,hm⟩:=Zk hk;obtain⟨e1,e2,e3,e4,e5⟩:=h2 e hm;obtain⟨p1,p2⟩:=hp e hm;unfold Xz;dsimp only;rw[yW (ZM hk),Zo he,ya,yX (ynd (by omega)),ZJu e1 p1,ya,Zs2 e2 e3,ya,Zs2 e4 e5,ya,Zt (by omega),yX (by decide),yX (by decide),yX (by decide)];by_cases hz:e.2.2.2=0
  ·rw[yX (by simp[hz])]
  ·rw[yW (by simp[hz]),ZEt (p2 hz),ya,yX (by decide)]
 ·unfold Xz;dsimp only;rw[yX (by rw[ZH];decide)]
def ZGp(t:Tx):Prop:=(∀x,x∈t.1->x.1.1.length=32)/\t.2.2<=9223372036854775807
def ZIz(x:In):Prop:=0<=x.1.2/\x.1.2 < 64/\0<=x.2.1/\x.2.1 < 4/\x.2.2.1.length<=12
def OutOk(o:Out):Prop:=0<=o.1/\o.1<=1125899906842624/\Wb o.2/\Ve o.2
def ZEu(t:Tx):Prop:=0 < t.1.length/\t.1.length<=64/\t.2.1.length<=64/\0<=t.2.2/\(∀x,x∈t.1->ZIz x)/\∀o,o∈t.2.1->OutOk o
def cat{α:Type}(f:α->yL yB)(l:yL α):yL yB:=(l.map f).flatten
theorem VL{α:Type}{f:α->yL yB}{l:yL α}{k:Nat}{e:α}(h:l[k]? =some e):cat f (l.take (k+1))=cat f (l.take k)++f e:=by
 unfold cat
 rw[QS h,yai,List.flatten_append];simp
theorem ZEv{α:Type}{f:α->yL yB}{l:yL α}{e:α}:cat f (e::l)=f e++cat f l:=rfl
theorem ZAK{α:Type}{f:α->yL yB}{c:Nat}:∀{l:yL α},(∀x,x∈l->(f x).length<=c)->(cat f l).length<=l.length*c
 |[],_=>by simp[cat]
 |e::l,h=>by
  have h1:=h e (yam ..);have h2:=ZAK (l:=l) λx hx=>h x (yao _ hx);rw[ZEv,yo,yaf,Nat.succ_mul];omega
theorem QW{α:Type}{f:α->yL yB}{c n:Nat}{l:yL α}(h:∀x,x∈l->(f x).length<=c)(hn:l.length<=n)(k:Nat):(cat f (l.take k)).length<=n*c:=by
 refine yby (ZAK λx hx=>h x (ybu hx)) (Nat.mul_le_mul_right c ?_);rw[yag];omega
def Zu7(p:yU):yL yB:=Zlm p.toNat
def brF(b:Branch):yL yB:=Xf b.1.length++(cat Zu7 b.1++(Xf b.2.1.toNat++(Xf b.2.2.1.toNat++Zlm b.2.2.2.toNat)))
def Zhq(l:YD):yL yB:=Xf l.length++cat brF l
theorem Zhr{l:yL yU}(h:l.length<=12)(k:Nat):(cat Zu7 (l.take k)).length<=96:=QW (c:=8) (λx _=>Nat.le_of_eq (ZeB _)) h k
theorem Zu8{b:Branch}(h:b.1.length<=12/\0<=b.2.1/\b.2.1<=1048576/\0<=b.2.2.1/\b.2.2.1<=1048576):(brF b).length<=131:=by
 have h1:=Zhr h.1 b.1.length;rw[yal] at h1;have h2:=ZS (n:=b.1.length) (by omega);have h3:=ZS (n:=b.2.1.toNat) (by omega);have h4:=ZS (n:=b.2.2.1.toNat) (by omega);have h5:=ZeB b.2.2.2.toNat
 unfold brF;simp only[yo];omega
theorem ZhT{l:YD}(h:Wb l):(Zhq l).length<=533:=by
 have h1:=QW (f:=brF) (c:=131) (λx hx=>Zu8 (h.2.2 x hx)) h.2.1 l.length;rw[yal] at h1;have h2:=ZS (n:=l.length) (by have:=h.2.1;omega);unfold Zhq;rw[yo];omega
theorem ZBU{c:yL yB}(hc:c.length<=100000){bs:yL Branch}{n i:Int}{ks:yL yU}{l:YD}{e:Branch}(hk:ks.length<=12):
 Zc (Vb yD) yD (c,bs,n,i,ks,(ks.length:Int),(0:Int),l,e)=some (c++cat Zu7 ks,bs,n,i,l,e):=by
 rw[show(c,bs,n,i,ks,(ks.length:Int),(0:Int),l,e)=(λk:Nat=>(c++cat Zu7 (ks.take k),bs,n,i,ks,(ks.length:Int),(k:Int),l,e)) 0 by simp[cat]];refine Zz ks.length (λk:Nat=>(c++cat Zu7 (ks.take k),bs,n,i,ks,(ks.length:Int),(k:Int),l,e)) ?_ ?_ (by omega)
 ·intro k hk2;obtain⟨e,he,_⟩:=Zk hk2;have hl:=Zhr hk k;unfold Vb;dsimp only;rw[yW (ZM hk2),Zo he,ya,Zs1 _ (by rw[yo];omega),ya,Zt (by omega),VL he,yac];rfl
 ·unfold Vb;dsimp only;rw[yX (by rw[ZH];decide),yal]
theorem ZqN{l:YD}(h:Wb l)(hp:Ve l):ZaW yD l=some (Zhq l):=by
 unfold ZaW;have h0:=h.2.1;have h9:=ZS (n:=l.length) (by omega);rw[ZjK h hp,ya,yX (by decide),Zfn (by omega) (by omega) (by simp),ya,yw,ybq]
 rw[show(Xf l.length,l,(l.length:Int),(0:Int),l)=(λk:Nat=>(Xf l.length++cat brF (l.take k),l,(l.length:Int),(k:Int),l)) 0 by simp[cat],
  Zz (x:=(Zhq l,l)) l.length (λk:Nat=>(Xf l.length++cat brF (l.take k),l,(l.length:Int),(k:Int),l)) ?_ ?_ (by omega),ya]
 ·intro k hk;obtain⟨e,he,hm⟩:=Zk hk;obtain⟨e1,e2,e3,e4,e5⟩:=h.2.2 e hm;have hl:=QW (f:=brF) (c:=131) (λx hx=>Zu8 (h.2.2 x hx)) h.2.1 k;have hr:=ZS (n:=e.1.length) (by omega);have hr2:=ZS (n:=e.2.1.toNat) (by omega);have hr3:=ZS (n:=e.2.2.1.toNat) (by omega);have hk8:=Zhr e1 e.1.length;rw[yal] at hk8;unfold QK;dsimp only
  rw[yW (ZM hk),Zo he,ya,Zfn (by omega) (by omega) (by rw[yo];omega),ya,ybq,
   ZBU (by simp only[yo];omega) e1,ya]
  dsimp only
  rw[Zfn e2 (by omega) (by simp only[yo];omega),ya,Zfn e4 (by omega) (by simp only[yo];omega),ya,
   Zs1 _ (by simp only[yo];omega),ya,Zt (by omega),VL he]
  unfold brF;simp only[yac]
 ·unfold QK;dsimp only;rw[yX (by rw[ZH];decide),yal];rfl
def inF(x:In):yL yB:=x.1.1++Xf x.1.2.toNat
def ZmB(o:Out):yL yB:=Xf o.1.toNat++(Xf (Zhq o.2).length++Zhq o.2)
def Zhs(t:Tx):yL yB:=Xf t.1.length++(cat inF t.1++(Xf t.2.1.length++(cat ZmB t.2.1++Xf t.2.2.toNat)))
theorem ZAL{x:In}(h:x.1.1.length=32)(k:ZIz x):(inF x).length<=41:=by
 have:=ZS (n:=x.1.2.toNat) (by have:=k.2.1;omega);unfold inF;rw[yo];omega
theorem Zxo{o:Out}(k:OutOk o):(ZmB o).length<=551:=by
 have h1:=ZhT k.2.2.1;have h2:=ZS (n:=o.1.toNat) (by have:=k.2.1;omega);have h3:=ZS (n:=(Zhq o.2).length) (by omega);unfold ZmB;simp only[yo];omega
theorem ZEw{t:Tx}(hw:ZGp t)(h:ZEu t):ZhR yD t=some (Zhs t)/\(Zhs t).length<=40000:=by
 obtain⟨ins,outs,note⟩:=t;obtain⟨w2,w3⟩:=hw;obtain⟨h1,h2,h3,h4,h5,h6⟩:=h;dsimp only at w2 w3 h1 h2 h3 h4 h5 h6;have li:=λk=>QW (f:=inF) (c:=41) (λx hx=>ZAL (w2 x hx) (h5 x hx)) h2 k;have lo:=λk=>QW (f:=ZmB) (c:=551) (λx hx=>Zxo (h6 x hx)) h3 k;have li1:=li ins.length;have lo1:=lo outs.length;rw[yal] at li1 lo1;have r1:=ZS (n:=ins.length) (by omega);have r2:=ZS (n:=outs.length) (by omega);have r3:=ZS (n:=note.toNat) (by omega);refine⟨?_,by unfold Zhs;simp only[yo];omega⟩;unfold ZhR;dsimp only;rw[Zfn (by omega) (by omega) (by simp),ya,yw,ybq]
 rw[show(Xf ins.length,ins,(ins.length:Int),(0:Int),(ins,outs,note))=(λk:Nat=>(Xf ins.length++cat inF (ins.take k),ins,(ins.length:Int),(k:Int),(ins,outs,note))) 0 by simp[cat],
  Zz (x:=(Xf ins.length++cat inF ins,(ins,outs,note))) ins.length (λk:Nat=>(Xf ins.length++cat inF (ins.take k),ins,(ins.length:Int),(k:Int),(ins,outs,note))) ?_ ?_ (by omega),ya]
 ·dsimp only;rw[Zfn (by omega) (by omega) (by rw[yo];omega),ya,ybq];generalize hp:Xf ins.length++cat inF ins++Xf outs.length=pre;have hpl:pre.length<=3000:=by rw[<-hp];simp only[yo];omega
  rw[show(pre,outs,(outs.length:Int),(0:Int),(ins,outs,note))=(λk:Nat=>(pre++cat ZmB (outs.take k),outs,(outs.length:Int),(k:Int),(ins,outs,note))) 0 by simp[cat],
   Zz (x:=(pre++cat ZmB outs,(ins,outs,note))) outs.length (λk:Nat=>(pre++cat ZmB (outs.take k),outs,(outs.length:Int),(k:Int),(ins,outs,note))) ?_ ?_ (by omega),ya]
  ·dsimp only;rw[Zfn h4 w3 (by rw[yo];omega),ya, <-hp];unfold Zhs;simp only[yac]
  ·intro k hk;obtain⟨e,he,hm⟩:=Zk hk;have hlk:=lo k;have hok:=h6 e hm;have hlo:=hok.2.2.1;have hll:=ZhT hlo;have hrl:=ZS (n:=e.1.toNat) (by have:=hok.2.1;omega);unfold ZbM;dsimp only
   rw[yW (ZM hk),Zo he,ya,Zfn hok.1 (by have:=hok.2.1;omega) (by rw[yo];omega),ya,ZqN hok.2.2.1 hok.2.2.2,ya,
    Zxl (by simp only[yo];omega) (by omega),ya,Zt (by omega),VL he]
   unfold ZmB;simp only[yac]
  ·unfold ZbM;dsimp only;rw[yX (by rw[ZH];decide),yal]
 ·intro k hk;obtain⟨e,he,hm⟩:=Zk hk;have hlk:=li k;have h32:=w2 e hm;have hok:=h5 e hm;unfold ZbL;dsimp only
  rw[yW (ZM hk),Zo he,ya,Zzh (by rw[yo];omega) (by omega),ya,Zfn hok.1 (by have:=hok.2.1;omega) (by simp only[yo];omega),ya,
   Zt (by omega),VL he]
  unfold inF;simp only[yac]
 ·unfold ZbL;dsimp only;rw[yX (by rw[ZH];decide),yal]
def amts(l:yL Out):Int:=(l.map (·.1)).sum
theorem Zaq{l:yL Out}{k:Nat}{e:Out}(h:l[k]? =some e):amts (l.take (k+1))=amts (l.take k)+e.1:=by
 unfold amts;rw[QS h,yai,List.sum_append];simp
theorem Zzj:∀{l:yL Int},(∀x,x∈l->0<=x)->0<=l.sum
 |[],_=>by simp
 |x::r,h=>by
  have:=Zzj (l:=r) λy hy=>h y (yao _ hy);have:=h x (yam ..);rw[List.sum_cons];omega
theorem ZAM{l:yL Out}(h:∀o,o∈l->OutOk o)(k:Nat):0<=amts (l.take k)/\amts (l.take k)<=amts l:=by
 have h1:∀(l:yL Out),(∀o,o∈l->OutOk o)->0<=amts l:=λl h=>Zzj λx hx=>by
  obtain⟨o,ho,rfl⟩:=ybn.1 hx;exact(h o ho).1
 refine⟨h1 _ λo ho=>h o (ybu ho), ?_⟩;have:=h1 (l.drop k) λo ho=>h o (yct ho)
 have e:amts l=amts (l.take k)+amts (l.drop k):=by
  unfold amts;rw[<-List.sum_append, <-yai,ybh]
 omega
theorem Zxp{z:Int}(h0:0<=z)(h1:z<=1125899906842624):V2 yD z=some true:=by
 unfold V2;rw[yW (yY h0),yY h1]
theorem ZGq{a b:Int}(h0:0<=a)(h1:0<=b)(h2:a+b<=1125899906842624):QA yD a b=some (a+b,true):=by
 unfold QA;rw[Zxp h0 (by omega),ya,yX (by decide),Zxp h1 (by omega),ya,yX (by decide),Z1 (z:=1125899906842624 - b) (by omega) (by omega),Z1 (z:=a+b) (by omega) (by omega),yX (ynd (by omega))]
theorem Zzk{x:In}(h:ZIz x):Wm yD x.2=some true:=by
 obtain⟨_,_,h1,h2,h3⟩:=h;unfold Wm;rw[yW (yY h1),yW (yY h2),yY (by omega)]
theorem ZEx{x:In}{outs:yL Out}{note:Int}(h:ZEu ([x],outs,note))(hs:amts outs<=1125899906842624):WJ yD ([x],outs,note)=some true:=by
 obtain⟨h1,h2,h3,h4,h5,h6⟩:=h;dsimp only at h3 h4 h5 h6;have hx:=h5 x (yaq.2 rfl);unfold WJ;dsimp only;rw[yX (by simp),yX (by simp),yX (ynd (by omega)),yX (ynd (by omega))]
 obtain⟨y,g1,m,rfl⟩:=QR (step:=Xj yD) 1 (λk s=>∃m,s=([x],(1:Int),(k:Int),([x],outs,note),m)/\(k=0->m=[])) (λy=>∃m,y=.inr (([x],outs,note),m)) (i:=([x],(([x]:yL In).length:Int),(0:Int),([x],outs,note),([]:yL (ZW×Bool)))) ⟨_,rfl,λ_=>rfl⟩ (by omega) (by
  rintro k _ hk ⟨m,rfl,hm⟩;left;have e:k=0:=by omega
  subst e;rw[hm rfl];unfold Xj;dsimp only;have e1:Zbs ([]:yL (ZW×Bool)) x.1=none:=rfl;rw[yW (yY (by omega)),Zo (show([x]:yL In)[0]? =some x from rfl),ya,e1]
  unfold ZmT;dsimp only;rw[yX (by rw[yN];have:=hx.1;omega),yX (by rw[yN];have:=hx.2.1;omega),Zzk hx,ya,yX (by decide)];exact⟨_,rfl,_,rfl,λh=>by omega⟩) (by
  rintro _ ⟨m,rfl,hm⟩;unfold Xj;dsimp only;rw[yX (ynd (by omega))];exact⟨_,rfl,_,rfl⟩)
 rw[g1,ya];dsimp only
 rw[show((0:Int),outs,(outs.length:Int),(0:Int),([x],outs,note),m)=(λk:Nat=>(amts (outs.take k),outs,(outs.length:Int),(k:Int),([x],outs,note),m)) 0 from rfl,
  Zz (x:=.inr (([x],outs,note),m)) outs.length (λk:Nat=>(amts (outs.take k),outs,(outs.length:Int),(k:Int),([x],outs,note),m)) ?_ ?_ (by omega),ya]
 ·intro k hk;obtain⟨e,he,hm⟩:=Zk hk;obtain⟨o1,o2,o3,o4⟩:=h6 e hm;have hk1:=ZAM h6 k;have hk2:=ZAM h6 (k+1);rw[Zaq he] at hk2;unfold XP;dsimp only;rw[yW (ZM hk),Zo he,ya,ZGq hk1.1 o1 (by omega),ya,ZjK o3 o4,ya,Zt (by omega),Zaq he];rfl
 ·unfold XP;dsimp only;rw[yX (by rw[ZH];decide)]
def z32:yL yB:=yzz
def Ahd(a b:Cond):Prop:=a.1 < b.1\/a.1=b.1/\a.2.1 < b.2.1
instance(a b:Cond):Decidable (Ahd a b):=by unfold Ahd;infer_instance
def frG(h:yL yB):Nat->Nat
 |0=>0
 |k+1=>(256*frG h k+(h.getD k 0).toNat) % 2305843009213688668
theorem ZIA(h:yL yB)(k:Nat):frG h k < 2305843009213688668:=by
 cases k with
 |zero=>exact(by decide:(0:Nat) < 2305843009213688668)
 |succ k=>exact Nat.mod_lt _ (by decide)
def frF(h:yL yB):yU:=yah (frG h 32)+1
theorem ZEy{z:Nat}(h:z < 2305843009213688668):(yah z).toNat=z:=by
 rw[ybf,yav (by omega)]
theorem ZIB(x:yU)(n:Nat):(W1 x n).toNat=x.toNat*2 ^ n % 18446744073709551616:=ybf ..
theorem ZGr(n:Nat)(b:yB)(hn:n < 2305843009213688668):((W1 (yah n) 8)|||(yah b.toNat)).toNat=n*256 % 18446744073709551616+b.toNat:=by
 have hb:b.toNat < 256:=b.toNat_lt;rw[UInt64.toNat_or,ZIB,ZEy hn,ybf,yav (a:=b.toNat) (by omega)];have h2:n*2 ^ 8 % 2 ^ 64=(n % 2 ^ 56)*2 ^ 8:=by omega
 rw[show n*2 ^ 8 % 18446744073709551616=(n % 2 ^ 56)*2 ^ 8 from h2,Nat.mul_comm, <-Nat.two_pow_add_eq_or_of_lt (by omega:b.toNat < 2 ^ 8)]
theorem ZGs{h:yL yB}(hl:h.length=32):Wj yD h=some (frF h):=by
 unfold Wj
 have e:=Zz (step:=X9 yD) 32 (λk:Nat=>(yah (frG h k),h,(k:Int),h)) (x:=(yah (frG h 32),h)) (by
  intro k hk;obtain⟨e,he,_⟩:=Zk (l:=h) (k:=k) (by omega);unfold X9;dsimp only;rw[yW (yY (by omega)),Zo he,ya];unfold Wg;rw[yW (by decide),ya,Zt (by omega)];have hn:=ZIA h k;have hb:e.toNat < 256:=e.toNat_lt;have hd:h.getD k 0=e:=by simp[List.getD,he]
  rw[show(2305843009213688668:yU).toNat=2305843009213688668 from rfl,ZGr _ _ hn,Vu,ZEy hn]
  have h2:frG h k / 2 ^ 56*18446744073709551616+(frG h k*256 % 18446744073709551616+e.toNat)=256*frG h k+e.toNat:=by omega
  rw[h2,show frG h (k+1)=(256*frG h k+(h.getD k 0).toNat) % 2305843009213688668 from rfl,hd]) (by
  unfold X9;dsimp only;rw[yX (ynd (by omega))]) (by omega)
 have e:Zc (X9 yD) yD ((0:yU),h,(0:Int),h)=_:=e;rw[e,ya];rfl
theorem XS(n:Nat):(XW n).length=8:=rfl
theorem ZEz(n:yU):V4 yD n=some (XW n.toNat):=by
 unfold V4
 have e:=Zz (step:=YU yD) 8 (λk:Nat=>(n,56 - 8*(k:Int),(XW n.toNat).take k)) (x:=XW n.toNat) (by
  intro k hk;have hb:(XW n.toNat)[k]? =_:=Zzf n hk;have hl:((XW n.toNat).take k).length<=8:=by rw[yag];exact yby (Nat.min_le_right _ _) (ym _)
  unfold YU;dsimp only;have q1:min (56 - 8*(k:Int)).toNat 64=56 - 8*k:=by omega
  rw[yW (yY (by omega)),yW (yY (by omega)),yW (Yi (by omega) (by omega)),Z1 (z:=56 - 8*(k:Int) - 8) (by omega) (by omega),q1,show 56 - 8*(k:Int) - 8=56 - 8*((k+1:Nat):Int) by omega,List.take_add_one,hb];rfl) (by
  unfold YU;dsimp only;rw[yX (ynd (by omega))];rfl) (by omega)
 have e:Zc (YU yD) yD (n,(56:Int),([]:yL yB))=_:=e;rw[e,ya]
theorem ZBV(n:yU):WN yD n=some (XW n.toNat):=by
 unfold WN
 have e:=Zz (step:=Ym yD) 8 (λk:Nat=>(n,56 - 8*(k:Int),([]:yL yB),(XW n.toNat).take k)) (x:=(([]:yL yB),XW n.toNat)) (by
  intro k hk;have hb:(XW n.toNat)[k]? =_:=Zzf n hk;have hl:((XW n.toNat).take k).length<=8:=by rw[yag];exact yby (Nat.min_le_right _ _) (ym _)
  unfold Ym;dsimp only;have q1:min (56 - 8*(k:Int)).toNat 64=56 - 8*k:=by omega
  rw[yW (yY (by omega)),yW (yY (by omega)),yW (Yi (by omega) (by omega)),Z1 (z:=56 - 8*(k:Int) - 8) (by omega) (by omega),q1,show 56 - 8*(k:Int) - 8=56 - 8*((k+1:Nat):Int) by omega,List.take_add_one,hb];rfl) (by
  unfold Ym;dsimp only;rw[yX (ynd (by omega))];rfl) (by omega)
 have e:Zc (Ym yD) yD (n,(56:Int),([]:yL yB),([]:yL yB))=_:=e;rw[e,ya]
def tgF(l:yL yB):yL yB:=XW l.length++l
def ZrW(s:ByteArray)(ls:yL (yL yB)):yL yB:=XW s.size++ZeT s++cat tgF ls
theorem Zxq(s:ByteArray):(ZeT s).length=s.size:=by
 unfold ZeT;rw[Array.length_toList];rfl
theorem Zol{ls:yL (yL yB)}(h2:ls.length<=10)(h3:∀l,l∈ls->l.length<=60000)(k:Nat):(cat tgF (ls.take k)).length<=10*60008:=
 QW (c:=60008) (λl hl=>by have:=h3 l hl;unfold tgF;rw[yo,XS];omega) h2 k
theorem Zzl{s:ByteArray}{ls:yL (yL yB)}(h1:s.size<=100)(h2:ls.length<=10)(h3:∀l,l∈ls->l.length<=60000):WH yD s ls=some (Sha.sha (ZrW s ls)):=by
 unfold WH;have hs:=Zxq s;have p1:XV yD (s.size:Int) []=some (XW s.size):=ZuG (b:=[]) (by simp);rw[p1,ya,yW (Yi (by rw[hs,XS];omega) (by rw[hs,XS];omega))]
 have e:=Zz (step:=Vn yD) ls.length (λk:Nat=>(ls,(ls.length:Int),(k:Int),z32,XW s.size++ZeT s++cat tgF (ls.take k))) (x:=(z32,ZrW s ls)) (by
  intro k hk;obtain⟨e,he,hm⟩:=Zk hk;have:=h3 e hm;have hc:=Zol h2 h3 k;unfold Vn;dsimp only;rw[yW (yY (by omega)),Zo he,ya,ZuG (by simp only[yo,XS,hs];omega),ya,yW (Yi (by simp only[yo,XS,hs];omega) (by simp only[yo,XS,hs];omega)),Zt (by omega),VL he];simp only[tgF,yac]) (by
  unfold Vn;dsimp only;rw[yX (by rw[ZH];decide),yal];rfl) (by omega)
 rw[show cat tgF (ls.take 0)=[] from rfl,yap] at e
 have e:Zc (Vn yD) yD (ls,(ls.length:Int),(0:Int),yzz,XW s.size++ZeT s)=_:=e;have hc:=Zol h2 h3 ls.length;rw[yal] at hc;rw[e,ya,ZGm (by show(ZrW s ls).length<=_;unfold ZrW;simp only[yo,XS,hs];omega),ya]
theorem ZGt{s:ByteArray}{ls:yL (yL yB)}(h1:s.size<=100)(h2:ls.length<=10)(h3:∀l,l∈ls->l.length<=60000):QU yD s ls=some (Sha.sha (ZrW s ls)):=by
 unfold QU;have hs:=Zxq s
 have w:∀n:Nat,n<=1000000->(w64 (n:Int)).toNat=n:=λn hn=>by
  unfold w64;rw[ybf];omega
 have hs':s.data.toList.length=s.size:=hs;rw[ZBV,ya,w _ (by omega),yW (yY (by unfold maxLen;omega)),yW (Yi (by rw[hs',XS];omega) (by rw[hs',XS];omega))]
 have e:=Zz (step:=Yy yD) ls.length (λk:Nat=>(ls,(k:Int),z32,XW s.size++ZeT s++cat tgF (ls.take k))) (x:=(z32,ZrW s ls)) (by
  intro k hk;obtain⟨e,he,hm⟩:=Zk hk;have:=h3 e hm;have hc:=Zol h2 h3 k;unfold Yy;dsimp only;rw[yW (ZM hk),Zo he,ya,ZEz,ya,w _ (by omega),yW (Yi (by simp only[yo,XS,hs];omega) (by simp only[yo,XS,hs];omega)),ya,yW (Yi (by simp only[yo,XS,hs];omega) (by simp only[yo,XS,hs];omega)),Zt (by omega),VL he];simp only[tgF,yac]) (by
  unfold Yy;dsimp only;rw[yX (by rw[ZH];decide),yal];rfl) (by omega)
 rw[show cat tgF (ls.take 0)=[] from rfl,yap] at e
 have e:Zc (Yy yD) yD (ls,(0:Int),z32,XW s.size++s.data.toList)=_:=e;have hc:=Zol h2 h3 ls.length;rw[yal] at hc;show(Option.bind (Zc (Yy yD) yD (ls,(0:Int),z32,XW s.size++s.data.toList)) λo85=>(QT yD o85.2).bind λo86=>some o86)=_;rw[e,ya,ZEm (by show(ZrW s ls).length<=_;unfold ZrW;simp only[yo,XS,hs];omega),ya]
theorem Zu9{n:Nat}(h:n < 256):w8 (n:Int)=yax n:=by
 unfold w8;congr 1;omega
theorem ZIC:∀(k n:Nat),n < 128 ^ (k+1)->n<=9223372036854775807->WX yD (k+1) (n:Int)=some (Xf n):=by
 intro k
 induction k with
 |zero=>
  intro n h h2;have h:n < 128:=by simpa using h
  show XQ yD (WX yD 0) (n:Int)=_;unfold XQ
  rw[yW (yY (by omega)),ZcP h,Zu9 (by omega)]
 |succ k ih=>
  intro n h h2;show XQ yD (WX yD (k+1)) (n:Int)=_;unfold XQ;by_cases h0:n < 128
  ·rw[yW (yY (by omega)),ZcP h0,Zu9 (by omega)]
  ·have hd:n / 128 < 128 ^ (k+1):=by
    rw[Nat.div_lt_iff_lt_mul (by decide)];rw[Nat.pow_succ] at h;exact h
   have e1:wi (Int.tdiv (n:Int) 128)=((n / 128:Nat):Int):=by
    rw[show Int.tdiv (n:Int) 128=((n / 128:Nat):Int) from rfl,Z1 (by omega) (by omega)]
   have hl:=ZS (n:=n / 128) (by omega);rw[yX (ynd (by omega)),e1,ih _ hd (by omega),ya,yW (Yi (by omega) (by omega)),ZqM h0]
   have e2:w8 (Int.tmod (n:Int) 128)+128=yax (n % 128+128):=by
    rw[show Int.tmod (n:Int) 128=((n % 128:Nat):Int) from rfl,Zu9 (by omega), <-UInt8.toNat_inj,UInt8.toNat_add,UInt8.toNat_ofNat',UInt8.toNat_ofNat']
    show(n % 128 % 256+128) % 256=_;omega
   rw[e2];rfl
theorem ZGu{n:Nat}(h:n<=9223372036854775807):QV yD (n:Int)=some (Xf n):=ZIC 11 n (by omega) h
theorem ZaG{b:yL yB}{z:Int}(h0:0<=z)(h:z<=9223372036854775807)(hb:b.length<=1000000):ZR yD b z=some (b++Xf z.toNat):=by
 obtain⟨n,rfl⟩:=Int.eq_ofNat_of_zero_le h0;have hl:=ZS (n:=n) (by omega);unfold ZR;rw[yW (Yi (by omega) (by omega)),yW (yY (by omega)),ZGu (by omega),ya,yW (Yi (by omega) (by omega)),ybq]
theorem ZEA{b:yL yB}{z:Int}(h0:0<=z)(h:z<=9223372036854775807)(hb:b.length<=1000000):ZaX yD b z=some (b++Xf z.toNat):=ZaG h0 h hb
theorem ZqO{b:yL yB}(x:yU)(hb:b.length<=1000000):XR yD b x=some (b++Zlm x.toNat):=by
 unfold XR;rw[yW (Yi (by omega) (by omega))]
 have e:=Zz (step:=Yz yD) 8 (λk:Nat=>(x,7 - (k:Int),b++(Zlm x.toNat).take k)) (x:=b++Zlm x.toNat) (by
  intro k hk;have hl:((Zlm x.toNat).take k).length<=8:=by rw[yag];omega
  unfold Yz;dsimp only
  have q1:(min ((w64 (wi (8*(7 - (k:Int))))).toNat:Int).toNat 64)=56 - 8*k:=by
   rw[Z1 (z:=8*(7 - (k:Int))) (by omega) (by omega)]
   have:(w64 (8*(7 - (k:Int)))).toNat=56 - 8*k:=by
    unfold w64;rw[ybf];omega
   omega
  rw[yW (yY (by omega)),yW (Yi (by rw[yo];omega) (by rw[yo];omega)),Z1 (z:=7 - (k:Int) - 1) (by omega) (by omega),q1,Zxn,show 7 - (k:Int) - 1=7 - ((k+1:Nat):Int) by omega,List.take_add_one,Zxm _ hk,yac];rfl) (by
  unfold Yz;dsimp only;rw[yX (ynd (by omega)),ycl (by rw[ZeB];exact ym _)]) (by omega)
 have e:Zc (Yz yD) yD (x,(7:Int),b++[])=_:=e;rw[yap] at e;rw[e,ya]
theorem Zxr{b h:yL yB}(hb:b.length<=1000000)(hh:h.length=32):WO yD b h=some (b++h):=by
 unfold WO;rw[yW (Yi (by omega) (by omega))]
 have e:=Zz (step:=Yn yD) 32 (λk:Nat=>((k:Int),h,b++h.take k)) (x:=(h,b++h)) (by
  intro k hk;obtain⟨e,he,_⟩:=Zk (l:=h) (k:=k) (by omega);have hl:(h.take k).length<=32:=by rw[yag];omega
  unfold Yn;dsimp only;rw[yW (yY (by omega)),yW (YI (by omega) (by omega)),ybq,he,ya,yW (Yi (by rw[yo];omega) (by rw[yo];omega)),Zt (by omega),List.take_add_one,he,yac];rfl) (by
  unfold Yn;dsimp only;rw[yX (ynd (by omega)),ycl (by omega)]) (by omega)
 have e:Zc (Yn yD) yD ((0:Int),h,b++[])=_:=e;rw[yap] at e;rw[e,ya]
theorem Zva{b c:yL yB}(hb:b.length<=1000000)(hc:c.length<=1000000):WB yD b c=some (b++(Xf c.length++c)):=by
 unfold WB;have hl:=ZS (n:=c.length) (by omega);rw[ZEA (by omega) (by omega) hb,ya,ybq,yW (Yi (by rw[yo];omega) (by rw[yo];omega)),yac]
theorem ZBW{lo hi:Int}{l:yL Int}(hl:l.length<=100)(h:∀x,x∈l->lo<=x/\x<=hi):ZT yD lo hi l=some true:=by
 unfold ZT Yq YT;rw[show(l,(l.length:Int),(0:Int),lo,hi)=(λk:Nat=>(l,(l.length:Int),(k:Int),lo,hi)) 0 from rfl,Zz (x:=.inr (lo,hi)) l.length (λk:Nat=>(l,(l.length:Int),(k:Int),lo,hi)) ?_ ?_ (by omega),ya]
 ·rfl
 ·intro k hk;obtain⟨e,he,hm⟩:=Zk hk;have:=h e hm;unfold ZE VQ;dsimp only;rw[yW (ZM hk),Zo he,ya,yX (ynd (by omega)),ya,yZ (by omega),yX (by simp),Zt (by omega)]
 ·unfold ZE;dsimp only;rw[yX (by rw[ZH];decide)]
theorem w1{lo hi z:Int}(h1:lo<=z)(h2:z<=hi):ZT yD lo hi [z]=some true:=ZBW (by simp) λx hx=>by rw[yaq.1 hx];exact⟨h1,h2⟩
theorem Zar(a b:Int):Ye yD a b=some (if a < b then-1 else if a > b then 1 else 0):=by
 unfold Ye QB;rw[ya,ya];have e:∀z:Int,(z !=z)=false:=λz=>by simp
 rw[e,e,yX (by decide),yX (by decide)];by_cases h1:a < b
 ·rw[yW (yY h1),yW h1]
 ·rw[yX (by rw[yN];exact h1),yX h1];by_cases h2:a > b
  ·rw[yW (yY h2),yW h2]
  ·rw[yX (by rw[yN];exact h2),yX h2]
def orL:yL Int->Int
 |[]=>0
 |z::r=>if z≠0 then z else orL r
theorem ZG9{l:yL Int}(hl:l.length<=100):ZaQ yD l=some (orL l):=by
 have key:∀(d k f:Nat),k+d=l.length->d < f->∃x,Zc (X8 yD) f ((0:Int),l,(l.length:Int),(k:Int))=some x/\(x=.inl (orL (l.drop k))\/x=.inr 0/\orL (l.drop k)=0):=by
  intro d
  induction d with
  |zero=>
   intro k f h hf;obtain⟨f,rfl⟩:=Nat.exists_eq_succ_of_ne_zero (n:=f) (by omega);have:k=l.length:=by omega
   subst this;unfold Zc X8;dsimp only;rw[yX (by rw[ZH];decide),ya]
   exact⟨_,rfl,.inr ⟨rfl,by rw[List.drop_length];rfl⟩⟩
  |succ d ih=>
   intro k f h hf;obtain⟨f,rfl⟩:=Nat.exists_eq_succ_of_ne_zero (n:=f) (by omega);have hk:k < l.length:=by omega
   obtain⟨e,he,hm⟩:=Zk hk
   have hd:l.drop k=e::l.drop (k+1):=by
    rw[List.drop_eq_getElem_cons hk];rw[yab hk] at he;cases he;rfl
   rw[hd];unfold Zc X8;dsimp only;rw[yW (ZM hk),Zo he,ya];by_cases h0:e=0
   ·subst h0;rw[yX (by decide),ya,Zt (by omega)];exact ih (k+1) f (by omega) (by omega)
   ·rw[yW (bne_iff_ne.2 h0),ya];exact⟨_,rfl,.inl (by unfold orL;rw[yW h0])⟩
 unfold ZaQ;obtain⟨x,h1,h2⟩:=key l.length 0 yD (by omega) (by rw[ZeX];omega);rw[List.drop_zero] at h2;show Option.bind (Zc (X8 yD) yD ((0:Int),l,(l.length:Int),((0:Nat):Int))) _=_;rw[h1,ya];rcases h2 with rfl|⟨rfl,h2⟩
 ·rfl
 ·rw[h2]
theorem Zln(p q:Prop)[Decidable p][Decidable q]{b:Bool}(h:b=decide (p/\q)):(if decide p=true then some (decide q) else some false)=some b:=by
 subst h;by_cases h1:p
 ·rw[yW (yY h1)];by_cases h2:q
  ·rw[yY h2,yY ⟨h1,h2⟩]
  ·rw[yZ h2,yZ λh=>h2 h.2]
 ·rw[yX (by rw[yN];exact h1),yZ λh=>h1 h.1]
theorem ZID(z a b:Int):Y6 yD z a b=some (decide (a<=z/\z<=b)):=Zln _ _ rfl
def TermOk(t:Terms):Prop:=(0<=t.1/\t.1<=65536)/\(1<=t.2.2.1/\t.2.2.1<=4096)/\(0<=t.2.2.2.1/\t.2.2.2.1<=16)/\(t.1<=t.2.1/\t.2.1<=1125899906842624)/\(1<=t.2.2.2.2.1/\t.2.2.2.2.1<=1125899906842624)/\(0<=t.2.2.2.2.2/\t.2.2.2.2.2<=1125899906842624)
instance(t:Terms):Decidable (TermOk t):=by unfold TermOk;infer_instance
theorem QX{p q:Prop}[Decidable p][Decidable q][Decidable (p/\q)]{x:yO Bool}(h:x=some (decide q)):(if decide p=true then x else some false)=some (decide (p/\q)):=by
 rw[h];exact Zln p q (by congr)
theorem ZEB(t:Terms):Zbz yD t=some (decide (TermOk t)):=by
 unfold Zbz;simp only[ZID,ya];exact QX (QX (QX (QX (QX rfl))))
def pts(b:Basics):yL yU:=[b.1,b.2.1,b.2.2.1,b.2.2.2.1,b.2.2.2.2]
def Zlo(p:yU):Prop:=IsPt p.toNat/\p≠1
instance(p:yU):Decidable (Zlo p):=by unfold Zlo;infer_instance
def Qf(b:Basics):Prop:=∀p,p∈pts b->Zlo p
instance(b:Basics):Decidable (Qf b):=by unfold Qf;infer_instance
theorem ZEC(p:yU):VP yD p=some (!decide (Zlo p)):=by
 unfold VP;rw[Za0,ya];by_cases h:p=1
 ·rw[yW (beq_iff_eq.2 h),yZ (p:=Zlo p) λk=>k.2 h];rfl
 ·rw[yX (by rw[yT];exact h)];by_cases k:IsPt p.toNat
  ·rw[yY k,yY (p:=Zlo p) ⟨k,h⟩]
  ·rw[yZ k,yZ (p:=Zlo p) λq=>k q.1]
theorem ZBX(b:Basics):Zaw yD b=some (decide (Qf b)):=by
 unfold Zaw Zcn Zcm
 obtain⟨x,h1,h2⟩:=QR (step:=XL yD) 5 (λk s=>s=(pts b,(5:Int),(k:Int))/\∀j p,j < k->(pts b)[j]? =some p->Zlo p) (λx=>(∃j:Nat,x=.inl (j:Int)/\¬Qf b)\/x=.inr ()/\Qf b) (i:=(pts b,((pts b).length:Int),(0:Int))) ⟨rfl,λj p hj=>by omega⟩ (by omega) (by
  rintro k _ hk ⟨rfl,hj⟩;obtain⟨p,hp,hm⟩:=Zk (l:=pts b) (k:=k) hk;unfold XL;dsimp only;rw[yW (yY (by omega)),Zo hp,ya,ZEC,ya,Zt (by omega)];by_cases h:Zlo p
  ·left;rw[yY h,yX (by decide)];refine⟨_,rfl,rfl,λj q hjk hq=> ?_⟩;by_cases e:j=k
   ·subst e;rw[hp] at hq;cases hq;exact h
   ·exact hj j q (by omega) hq
  ·right;rw[yZ h,yW (by decide)];exact⟨_,rfl,.inl ⟨k,rfl,λzU=>h (zU p hm)⟩⟩) (by
  rintro _ ⟨rfl,hj⟩;unfold XL;dsimp only;rw[yX (ynd (by omega))];refine⟨_,rfl,.inr ⟨rfl,λp hp=> ?_⟩⟩;obtain⟨j,hj1,hj2⟩:=ycf hp;exact hj j p hj1 (by rw[yab hj1,hj2]))
 rw[show([b.1,b.2.1,b.2.2.1,b.2.2.2.1,b.2.2.2.2]:yL yU)=pts b from rfl,h1,ya]
 rcases h2 with⟨j,rfl,h⟩|⟨rfl,h⟩
 ·dsimp only;rw[ya,ya,yY (show(j:Int) >= 0 by omega),yZ h];rfl
 ·dsimp only;rw[ya,ya,yY h];rfl
structure ChWf(ch:Chan):Prop where
 b:ch.2.2.1.length=2
 t:ch.2.2.2.1.length=2
 a0: -9223372036854775808<=ch.2.1
 a1:ch.2.1<=9223372036854775807
 n0: -9223372036854775808<=ch.1.2
 n1:ch.1.2<=9223372036854775807
 o0: -9223372036854775808<=ch.2.2.2.2
 o1:ch.2.2.2.2<=9223372036854775807
def SideOk(ch:Chan):Prop:=∀i:Nat,i < 2->∀t b,ch.2.2.2.1[i]? =some t->ch.2.2.1[i]? =some b->TermOk t/\Qf b
open Classical in
theorem Zlp{α:Type}{l:yL α}(h:l.length=2):∃a b,l=[a,b]:=by
 match l,h with
 |[a,b],_=>exact⟨a,b,rfl⟩
theorem ZED{a:ZW}{A:Int}{b0 b1:Basics}{t0 t1:Terms}{op:Int}:SideOk (a,A,[b0,b1],[t0,t1],op)↔(TermOk t0/\Qf b0)/\TermOk t1/\Qf b1:=by
 constructor
 ·intro h;exact⟨h 0 (by omega) t0 b0 rfl rfl,h 1 (by omega) t1 b1 rfl rfl⟩
 ·rintro⟨h0,h1⟩ i hi t b ht hb
  match i,hi with
  |0,_=>cases ht;cases hb;exact h0
  |1,_=>cases ht;cases hb;exact h1
theorem Zxs(ch:Chan)(l:yL Terms){k:Nat}(hk:k < 2){t:Terms}{b:Basics}(ht:l[k]? =some t)(hb:ch.2.2.1[k]? =some b):
 WG yD (l,(k:Int),ch)=some (if TermOk t/\Qf b then .inl (l,((k+1:Nat):Int),ch) else .inr (.inl (1,ch))):=by
 unfold WG;dsimp only;rw[yW (yY (by omega)),Zo ht,ya,ZEB,ya,yW (YI (by omega) (by omega)),ybq,hb,ya,ZBX,ya,Zt (by omega)];by_cases h1:TermOk t
 ·rw[yY h1,yX (by decide)];by_cases h2:Qf b
  ·rw[yY h2,yX (by decide),yW ⟨h1,h2⟩]
  ·rw[yZ h2,yW (by decide),yX λh=>h2 h.2]
 ·rw[yZ h1,yW (by decide),yX λh=>h1 h.1]
theorem ZEE(ch:Chan)(l:yL Terms){t0 t1:Terms}{b0 b1:Basics}(ht:l=[t0,t1])(hb:ch.2.2.1=[b0,b1]):
 Zc (WG yD) yD (l,(0:Int),ch)=some (if(TermOk t0/\Qf b0)/\TermOk t1/\Qf b1 then .inr ch else .inl (1,ch)):=by
 subst ht;have s0:=Zxs ch [t0,t1] (k:=0) (by omega) (t:=t0) (b:=b0) rfl (by rw[hb];rfl);have s1:=Zxs ch [t0,t1] (k:=1) (by omega) (t:=t1) (b:=b1) rfl (by rw[hb];rfl);by_cases h0:TermOk t0/\Qf b0
 ·rw[yW h0] at s0;by_cases h1:TermOk t1/\Qf b1
  ·rw[yW h1] at s1;rw[yW ⟨h0,h1⟩];refine Zz 2 (λk:Nat=>([t0,t1],(k:Int),ch)) ?_ ?_ (by omega)
   ·intro k hk;rcases (show k=0\/k=1 by omega) with rfl|rfl
    ·exact s0
    ·exact s1
   ·unfold WG;rfl
  ·rw[yX h1] at s1;rw[yX λh=>h1 h.2];exact Zz 1 (λk:Nat=>([t0,t1],(k:Int),ch)) (λk hk=>by rw[show k=0 by omega];exact s0) s1 (by omega)
 ·rw[yX h0] at s0;rw[yX λh=>h0 h.1];exact Zz 0 (λk:Nat=>([t0,t1],(k:Int),ch)) (λk hk=>absurd hk (by omega)) s0 (by omega)
theorem Zxt(X:BitVec 64):(X&&& ~~~(1#64))=0#64↔X=0#64\/X=1#64:=by
 constructor
 ·intro h
  have hb:∀i:Nat,1<=i->X.getLsbD i=false:=by
   intro i hi;have:=congrArg (λy=>BitVec.getLsbD y i) h;simp only[BitVec.getLsbD_and,BitVec.getLsbD_not,BitVec.getLsbD_zero] at this;by_cases h64:i < 64
   ·have h1:(1#64).getLsbD i=false:=by
     rw[BitVec.getLsbD_one];simp;omega
    rw[h1] at this;simpa[h64] using this
   ·exact BitVec.getLsbD_of_ge X i (by omega)
  cases h0:X.getLsbD 0 with
  |false=>
   left;apply BitVec.eq_of_getLsbD_eq;intro i hi
   match i with
   |0=>rw[h0];simp
   |j+1=>rw[hb (j+1) (by omega)];simp
  |true=>
   right;apply BitVec.eq_of_getLsbD_eq;intro i hi
   match i with
   |0=>rw[h0];rfl
   |j+1=>
    rw[hb (j+1) (by omega),BitVec.getLsbD_one];simp
 ·rintro(rfl|rfl) <;> rfl
theorem ZmC{op:Int}(o0: -9223372036854775808<=op)(o1:op<=9223372036854775807):((bits .andNot .i64 op 1)!=0)= !decide (0<=op/\op<=1):=by
 have e:bits .andNot .i64 op 1=IntKind.i64.wrap ((ybx 64 op&&& ~~~(1#64)).toNat:Int):=rfl;have hlt:=(ybx 64 op&&& ~~~(1#64)).isLt
 have hw:∀n:Nat,n < 18446744073709551616->(IntKind.i64.wrap (n:Int)=0↔n=0):=by
  intro n hn;have e2:IntKind.i64.wrap (n:Int)=if(decide ((n:Int) % 18446744073709551616 >= 9223372036854775808))=true then(n:Int) % 18446744073709551616 - 18446744073709551616 else(n:Int) % 18446744073709551616:=rfl
  rw[e2];by_cases hm:(n:Int) % 18446744073709551616 >= 9223372036854775808
  ·rw[yW (yY hm)];omega
  ·rw[yX (by rw[yN];exact hm)];omega
 have hx:(ybx 64 op&&& ~~~(1#64)).toNat=0↔0<=op/\op<=1:=by
  rw[show((ybx 64 op&&& ~~~(1#64)).toNat=0↔(ybx 64 op&&& ~~~(1#64))=0#64) from⟨λh=>BitVec.eq_of_toNat_eq h,λh=>by rw[h];rfl⟩,Zxt]
  have hn:(ybx 64 op).toNat=(op % 18446744073709551616).toNat:=by rw[BitVec.toNat_ofInt];rfl
  constructor
  ·rintro(h|h)
   ·have:=congrArg BitVec.toNat h;rw[hn] at this;simp at this;omega
   ·have:=congrArg BitVec.toNat h;rw[hn] at this;simp at this;omega
  ·rintro⟨h0,h1⟩;rcases (show op=0\/op=1 by omega) with rfl|rfl
   ·exact .inl rfl
   ·exact .inr rfl
 rw[e];by_cases h:0<=op/\op<=1
 ·rw[yY h,(hw _ hlt).2 (hx.2 h)];rfl
 ·rw[yZ h];exact bne_iff_ne.2 λk=>h (hx.1 ((hw _ hlt).1 k))
theorem ZIE{ch:Chan}(w:ChWf ch):∃e:Int,Ze2 yD ch=some e/\(e=0->(1<=ch.2.1/\ch.2.1<=1125899906842624)/\(0<=ch.1.2/\ch.1.2<=63)/\(ch.2.2.2.2=0\/ch.2.2.2.2=1)/\SideOk ch):=by
 obtain⟨b0,b1,hb⟩:=Zlp w.b;obtain⟨t0,t1,ht⟩:=Zlp w.t;have a0:=w.a0;have o0:=w.o0;have o1:=w.o1;obtain⟨⟨id,no⟩,A,bs,ts,op⟩:=ch;dsimp only at hb ht a0 o0 o1;subst hb;subst ht;have hop:=ZmC o0 o1;unfold Ze2;dsimp only;by_cases h1:1<=A/\A<=1125899906842624
 ·rw[yX (show¬decide (A < 1)=true by rw[yN];omega),yX (show¬decide (A > 1125899906842624)=true by rw[yN];omega)];by_cases h2:0<=no/\no<=63
  ·rw[yX (show¬decide (no < 0)=true by rw[yN];omega),yX (show¬decide (no >= 64)=true by rw[yN];omega)];rw[hop];by_cases h3:0<=op/\op<=1
   ·rw[yY h3,yX (by decide),ZEE _ _ rfl rfl,ya];by_cases h4:(TermOk t0/\Qf b0)/\TermOk t1/\Qf b1
    ·rw[yW h4];dsimp only;obtain⟨_,_,_,q0,_⟩:=h4.1.1;obtain⟨p0,_⟩:=h4.1.1;obtain⟨_,_,_,q1,_⟩:=h4.2.1;obtain⟨p1,_⟩:=h4.2.1
     have n0:QA yD t0.2.1 t1.2.1=if t0.2.1+t1.2.1<=1125899906842624 then some (t0.2.1+t1.2.1,true) else some (0,false):=by
      unfold QA V2;rw[yW (yY (show t0.2.1 >= 0 by omega)),yW (yY (show t1.2.1 >= 0 by omega)),ya,ya,yY (show t0.2.1<=1125899906842624 by omega),yY (show t1.2.1<=1125899906842624 by omega),yX (by decide),yX (by decide),Z1 (z:=1125899906842624 - t1.2.1) (by omega) (by omega),Z1 (z:=t0.2.1+t1.2.1) (by omega) (by omega)];by_cases h:t0.2.1+t1.2.1<=1125899906842624
      ·rw[yX (ynd (by omega)),yW h]
      ·rw[yW (yY (by omega)),yX h]
     rw[yba,yat,yba,ya,ya,n0];refine⟨if t0.2.1+t1.2.1 > A then 10 else 0, ?_,λ_=>⟨h1,h2,by omega,ZED.2 h4⟩⟩
     ·by_cases h5:t0.2.1+t1.2.1<=1125899906842624
      ·rw[yW h5,ya,yX (show¬(!true)=true by decide)];by_cases h6:t0.2.1+t1.2.1 > A
       ·rw[yW (yY h6),yW h6]
       ·rw[yX (by rw[yN];exact h6),yX h6]
      ·rw[yX h5,ya,yW (show(!false)=true by decide),yW (by omega)]
    ·rw[yX h4];exact⟨1,rfl,λh=>absurd h (by decide)⟩
   ·rw[yZ h3,yW (by decide)];exact⟨1,rfl,λh=>absurd h (by decide)⟩
  ·refine⟨1, ?_,λh=>absurd h (by decide)⟩;by_cases h:no < 0
   ·rw[yW (yY h)]
   ·rw[yX (by rw[yN];exact h),yW (yY (by omega))]
 ·refine⟨1, ?_,λh=>absurd h (by decide)⟩;by_cases h:A < 1
  ·rw[yW (yY h)]
  ·rw[yX (by rw[yN];exact h),yW (yY (by omega))]
theorem Zs3{lo hi:Int}{l:yL Int}(hl:l.length<=100):ZT yD lo hi l=some (decide (∀x,x∈l->lo<=x/\x<=hi)):=by
 unfold ZT Yq YT
 obtain⟨x,h1,h2⟩:=QR (step:=ZE yD) l.length (λk s=>s=(l,(l.length:Int),(k:Int),lo,hi)/\∀(j:Nat)z,j < k->l[j]? =some z->lo<=z/\z<=hi) (λx=>(∃j:Nat,x=.inl ((j:Int),lo,hi)/\¬∀z,z∈l->lo<=z/\z<=hi)\/x=.inr (lo,hi)/\∀z,z∈l->lo<=z/\z<=hi) (i:=(l,(l.length:Int),(0:Int),lo,hi)) ⟨rfl,λj z hj=>by omega⟩ (by omega) (by
  rintro k _ hk ⟨rfl,hj⟩;obtain⟨z,hz,hm⟩:=Zk hk;unfold ZE VQ;dsimp only;rw[yW (ZM hk),Zo hz,ya,Zt (by omega)];by_cases h:z < lo
  ·right;rw[yW (yY h),ya,yW rfl];exact⟨_,rfl,.inl ⟨k,rfl,λzU=>by have:=zU z hm;omega⟩⟩
  ·rw[yX (by rw[yN];exact h),ya];by_cases h':z > hi
   ·right;rw[yW (yY h')];exact⟨_,rfl,.inl ⟨k,rfl,λzU=>by have:=zU z hm;omega⟩⟩
   ·left;rw[yX (by rw[yN];exact h')];refine⟨_,rfl,rfl,λj q hjk hq=> ?_⟩;by_cases e:j=k
    ·subst e;rw[hz] at hq;cases hq;omega
    ·exact hj j q (by omega) hq) (by
  rintro _ ⟨rfl,hj⟩;unfold ZE;dsimp only;rw[yX (by rw[ZH];decide)];refine⟨_,rfl,.inr ⟨rfl,λp hp=> ?_⟩⟩;obtain⟨j,hj1,hj2⟩:=ycf hp;exact hj j p hj1 (by rw[yab hj1,hj2]))
 rw[h1,ya];rcases h2 with⟨j,rfl,h⟩|⟨rfl,h⟩
 ·dsimp only;rw[ya,ya,yY (show(j:Int) >= 0 by omega),yZ h];rfl
 ·dsimp only;rw[ya,ya,yY h];rfl
theorem Zvb(lo hi z:Int):ZT yD lo hi [z]=some (decide (lo<=z/\z<=hi)):=by
 rw[Zs3 (by simp)];exact congrArg some (decide_eq_decide.2 (by simp))
theorem ZGv(lo hi y z:Int):ZT yD lo hi [y,z]=some (decide ((lo<=y/\y<=hi)/\lo<=z/\z<=hi)):=by
 rw[Zs3 (by simp)];exact congrArg some (decide_eq_decide.2 (by simp))
def ZqP(c:Cond):Prop:=(0<=c.1/\c.1<=1)/\(1<=c.2.1/\c.2.1<=1048576)/\(1<=c.2.2.1/\c.2.2.1<=1125899906842624)/\(1<=c.2.2.2.2/\c.2.2.2.2<=1048576)/\Zlo c.2.2.2.1
instance(c:Cond):Decidable (ZqP c):=by unfold ZqP;infer_instance
theorem ZGw(c:Cond):Zdg yD c=some (decide (ZqP c)):=by
 unfold Zdg;simp only[Zvb,ya,Za0];refine QX (QX (QX (QX ?_)));by_cases k:IsPt c.2.2.2.1.toNat
 ·rw[yY k,yW rfl];by_cases h:c.2.2.2.1=1
  ·rw[yZ (p:=Zlo c.2.2.2.1) λq=>q.2 h,h];rfl
  ·rw[yY (p:=Zlo c.2.2.2.1) ⟨k,h⟩];exact congrArg some (bne_iff_ne.2 h)
 ·rw[yZ k,yX (by decide),yZ (p:=Zlo c.2.2.2.1) λq=>k q.1]
def Zs4(a b:Cond):Prop:=a.1 < b.1\/a.1=b.1/\a.2.1 < b.2.1
instance(a b:Cond):Decidable (Zs4 a b):=by unfold Zs4;infer_instance
theorem ZEF(a b:Cond):∃v,ZbC yD a b=some v/\(v >= 0↔¬Zs4 a b):=by
 unfold ZbC;rw[Zar,Zar,ya,ya,ZG9 (by simp),ya];refine⟨_,rfl, ?_⟩;unfold Zs4;by_cases h1:a.1 < b.1
 ·simp only[yW h1,orL];simp[h1]
 ·by_cases h2:a.1 > b.1
  ·simp only[yX h1,yW h2,orL];simp;omega
  ·simp only[yX h1,yX h2,orL];by_cases h3:a.2.1 < b.2.1
   ·simp only[yW h3];simp;omega
   ·by_cases h4:a.2.1 > b.2.1
    ·simp only[yX h3,yW h4];simp;omega
    ·simp only[yX h3,yX h4];simp;omega
def ZIF(to:Int)(o:Int×Int)(c:Cond):Int×Int:=if c.1=wi (1 - to) then(wi (o.1+1),wi (o.2+c.2.2.1)) else o
def off(to:Int)(l:yL Cond):Int×Int:=l.foldl (ZIF to) (0,0)
theorem ZIG{to:Int}{l:yL Cond}{k:Nat}{c:Cond}(h:l[k]? =some c):off to (l.take (k+1))=ZIF to (off to (l.take k)) c:=by
 rw[QS h,off,List.foldl_append];rfl
theorem Zzm(s:yG)(to:Int)(hl:s.2.2.1.length<=1000):QD yD s to=some (off to s.2.2.1):=by
 unfold QD;rw[show((to,(0:Int),(0:Int),s.2.2.1,(s.2.2.1.length:Int),(0:Int),s):Int×Int×Int×yL Cond×Int×Int×yG)=(λk:Nat=>(to,(off to (s.2.2.1.take k)).1,(off to (s.2.2.1.take k)).2,s.2.2.1,(s.2.2.1.length:Int),(k:Int),s)) 0 from rfl]
 rw[Zz (x:=((off to s.2.2.1).1,(off to s.2.2.1).2,s)) s.2.2.1.length (λk:Nat=>(to,(off to (s.2.2.1.take k)).1,(off to (s.2.2.1.take k)).2,s.2.2.1,(s.2.2.1.length:Int),(k:Int),s)) ?_ ?_ (by omega),ya]
 ·intro k hk;obtain⟨c,hc,hm⟩:=Zk hk;unfold WT;dsimp only;rw[yW (ZM hk),Zo hc,ya,Zt (by omega),ZIG hc];unfold ZIF;by_cases h:c.1=wi (1 - to)
  ·rw[yW (beq_iff_eq.2 h),yW h]
  ·rw[yX (by rw[yT];exact h),yX h]
 ·unfold WT;dsimp only;rw[yX (by rw[ZH];decide),yal]
def ZEG(o:Int)(c:Cond):Int:=wi (o+c.2.2.1)
def totF(z:Int)(l:yL Cond):Int:=l.foldl ZEG z
theorem ZIH{z:Int}{l:yL Cond}{k:Nat}{c:Cond}(h:l[k]? =some c):totF z (l.take (k+1))=ZEG (totF z (l.take k)) c:=by
 rw[QS h,totF,List.foldl_append];rfl
theorem ZEH(s:yG){a b:Int}(h2:s.2.1=[a,b])(hl:s.2.2.1.length<=1000):ZbD yD s=some (totF (wi (a+b)) s.2.2.1):=by
 unfold ZbD;rw[h2,yba,yat,yba,ya,ya];rw[show((wi (a+b),s.2.2.1,(s.2.2.1.length:Int),(0:Int),s):Int×yL Cond×Int×Int×yG)=(λk:Nat=>(totF (wi (a+b)) (s.2.2.1.take k),s.2.2.1,(s.2.2.1.length:Int),(k:Int),s)) 0 from rfl]
 rw[Zz (x:=(totF (wi (a+b)) s.2.2.1,s)) s.2.2.1.length (λk:Nat=>(totF (wi (a+b)) (s.2.2.1.take k),s.2.2.1,(s.2.2.1.length:Int),(k:Int),s)) ?_ ?_ (by omega),ya]
 ·intro k hk;obtain⟨c,hc,hm⟩:=Zk hk;unfold VR;dsimp only;rw[yW (ZM hk),Zo hc,ya,Zt (by omega),ZIH hc];rfl
 ·unfold VR;dsimp only;rw[yX (by rw[ZH];decide),yal]
def feeF(r n:Int):Int:=if 0<=r/\r<=1000 then if 0<=n/\n<=16 then r*(68+8*n) else 0 else 0
theorem ZBY{r n:Int}(h1:0<=r)(h2:r<=1000)(h3:0<=n)(h4:n<=16):wi (r*(68+8*n))=r*(68+8*n):=by
 have:=Int.mul_nonneg h1 (show 0<=68+8*n by omega);have:=Int.mul_le_mul h2 (show 68+8*n<=196 by omega) (by omega) (by omega);exact Z1 (by omega) (by omega)
theorem ZEI(r n:Int):Zcq yD r n=some (feeF r n):=by
 unfold Zcq ZdG feeF;by_cases h1:r < 0
 ·rw[yW (yY h1),yX (show¬(0<=r/\r<=1000) by omega)]
 ·rw[yX (show¬decide (r < 0)=true by rw[yN];exact h1)];by_cases h2:r > 1000
  ·rw[yW (yY h2),yX (show¬(0<=r/\r<=1000) by omega)]
  ·rw[yX (show¬decide (r > 1000)=true by rw[yN];exact h2),yW (show 0<=r/\r<=1000 by omega)];by_cases h3:n < 0
   ·rw[yW (yY h3),yX (show¬(0<=n/\n<=16) by omega),ya,Int.mul_zero];rfl
   ·rw[yX (show¬decide (n < 0)=true by rw[yN];exact h3)];by_cases h4:n > 16
    ·rw[yW (yY h4),yX (show¬(0<=n/\n<=16) by omega),ya,Int.mul_zero];rfl
    ·rw[yX (show¬decide (n > 16)=true by rw[yN];exact h4),yW (show 0<=n/\n<=16 by omega),ya,Z1 (z:=8*n) (by omega) (by omega),Z1 (z:=68+8*n) (by omega) (by omega),ZBY (by omega) (by omega) (by omega) (by omega)]
theorem ZGx(ch:Chan)(s:yG):Zdh yD ch s=some (wi (feeF s.2.2.2 (s.2.2.1.length:Int)+660)):=by
 unfold Zdh;rw[ZEI,ya]
def QY(n:Nat)(ok:Nat->Prop):Prop:=∀k,k < n->ok k
open Classical in
theorem Zxu{I X:Type}{step:I->yO (I⊕X)}(n:Nat)(st:Nat->I)(ok:Nat->Prop)(good bad:X)
 (h1:∀k,k < n->ok k->step (st k)=some (.inl (st (k+1)))) (h2:∀k,k < n->¬ok k->step (st k)=some (.inr bad)) (he:step (st n)=some (.inr good)) (hn:n < 18446744073709551616):
 Zc step yD (st 0)=some (if QY n ok then good else bad):=by
 obtain⟨x,e,rfl⟩:=QR (step:=step) n (λk s=>s=st k/\∀j,j < k->ok j) (λx=>x=if QY n ok then good else bad) (i:=st 0) ⟨rfl,λj h=>by omega⟩ hn (by
  rintro k _ hk ⟨rfl,hj⟩;by_cases h:ok k
  ·left;refine⟨_,h1 k hk h,rfl,λj hjk=> ?_⟩;by_cases e:j=k
   ·rw[e];exact h
   ·exact hj j (by omega)
  ·right;exact⟨_,h2 k hk h,by rw[yX λq=>h (q k hk)]⟩) (by
  rintro _ ⟨rfl,hj⟩;exact⟨_,he,by rw[yW (show QY n ok from hj)]⟩)
 exact e
def CondAt(ch:Chan)(l:yL Cond)(k:Nat):Prop:=∀c,l[k]? =some c->ZqP c/\(∀p,0 < k->l[k - 1]? =some p->Zs4 p c)/\∀t,ch.2.2.2.1[(1 - c.1).toNat]? =some t->t.2.2.2.2.1<=c.2.2.1
def SideAt(ch:Chan)(l:yL Cond)(k:Nat):Prop:=∀t,ch.2.2.2.1[k]? =some t->(off (k:Int) l).1<=t.2.2.2.1/\(off (k:Int) l).2<=t.2.2.2.2.2
theorem Zzn{ch:Chan}(w:ch.2.2.2.1.length=2){c:Cond}(h:0<=c.1/\c.1<=1):wi (1 - c.1)=1 - c.1/\inB (wi (1 - c.1)) 2=true/\∃t,ch.2.2.2.1[(wi (1 - c.1)).toNat]? =some t/\ch.2.2.2.1[(1 - c.1).toNat]? =some t:=by
 have e:wi (1 - c.1)=1 - c.1:=Z1 (by omega) (by omega);rw[e];obtain⟨t,ht,_⟩:=Zk (l:=ch.2.2.2.1) (k:=(1 - c.1).toNat) (by omega);exact⟨rfl,YI (by omega) (by omega),t,ht,ht⟩
theorem ZqQ{ch:Chan}(w:ch.2.2.2.1.length=2)(s:yG){k:Nat}(hk:k < s.2.2.1.length)(hl:s.2.2.1.length<=16):
 (CondAt ch s.2.2.1 k->Xc yD (s.2.2.1,(s.2.2.1.length:Int),(k:Int),ch,s)=some (.inl (s.2.2.1,(s.2.2.1.length:Int),((k+1:Nat):Int),ch,s)))/\
 (¬CondAt ch s.2.2.1 k->Xc yD (s.2.2.1,(s.2.2.1.length:Int),(k:Int),ch,s)=some (.inr (.inl (false,ch,s)))):=by
 obtain⟨c,hc,hm⟩:=Zk hk;unfold Xc;dsimp only;rw[yW (ZM hk)];simp only[Zo hc,ya,ZGw];rw[Zt (by omega)];by_cases hf:ZqP c
 ·rw[yY hf,yX (show¬(!true)=true by decide)];obtain⟨e,hb,t,ht,ht'⟩:=Zzn w hf.1;simp only[yW hb];rw[ht,ya];by_cases hk0:k=0
  ·subst hk0;rw[yX (show¬decide (((0:Nat):Int) > 0)=true by decide)];by_cases hd:c.2.2.1 < t.2.2.2.2.1
   ·have bad:¬CondAt ch s.2.2.1 0:=λq=>by
     have:=(q c hc).2.2 t ht';omega
    refine⟨λq=>absurd q bad,λ_=> ?_⟩;rw[yW (yY hd)]
   ·have good:CondAt ch s.2.2.1 0:=λc' hc'=>by
     rw[hc] at hc';cases hc';refine⟨hf,λp h0=>by omega,λt' h'=> ?_⟩;rw[ht'] at h';cases h';omega
    refine⟨λ_=> ?_,λq=>absurd good q⟩;rw[yX (show¬decide (c.2.2.1 < t.2.2.2.2.1)=true by rw[yN];exact hd)]
  ·obtain⟨p,hp,_⟩:=Zk (l:=s.2.2.1) (k:=k - 1) (by omega)
   have ek:wi ((k:Int) - 1)=((k - 1:Nat):Int):=by
    rw[Z1 (by omega) (by omega)];omega
   rw[yW (show decide ((k:Int) > 0)=true from yY (by omega)),ek,Zo hp]
   simp only[ya];obtain⟨v,hv,hv2⟩:=ZEF p c;rw[hv];simp only[ya];by_cases ha:Zs4 p c
   ·by_cases hd:c.2.2.1 < t.2.2.2.2.1
    ·have bad:¬CondAt ch s.2.2.1 k:=λq=>by
      have:=(q c hc).2.2 t ht';omega
     refine⟨λq=>absurd q bad,λ_=> ?_⟩;rw[yW (yY hd)]
    ·have good:CondAt ch s.2.2.1 k:=λc' hc'=>by
      rw[hc] at hc';cases hc';refine⟨hf,λp' h0 hp'=> ?_,λt' h'=> ?_⟩
      ·rw[hp] at hp';cases hp';exact ha
      ·rw[ht'] at h';cases h';omega
     refine⟨λ_=> ?_,λq=>absurd good q⟩;rw[yX (show¬decide (c.2.2.1 < t.2.2.2.2.1)=true by rw[yN];exact hd),yX (show¬decide (v >= 0)=true by rw[yN];exact λq=>hv2.1 q ha)]
   ·have bad:¬CondAt ch s.2.2.1 k:=λq=>ha ((q c hc).2.1 p (by omega) hp);refine⟨λq=>absurd q bad,λ_=> ?_⟩;rw[yW (show decide (v >= 0)=true from yY (hv2.2 ha))]
    by_cases hd:c.2.2.1 < t.2.2.2.2.1
    ·rw[yW (yY hd)]
    ·rw[yX (show¬decide (c.2.2.1 < t.2.2.2.2.1)=true by rw[yN];exact hd)]
 ·have bad:¬CondAt ch s.2.2.1 k:=λq=>hf (q c hc).1;refine⟨λq=>absurd q bad,λ_=> ?_⟩;rw[yZ hf,yW (show(!false)=true by decide)]
open Classical in
theorem Zzo{ch:Chan}(w:ch.2.2.2.1.length=2)(s:yG)(hl:s.2.2.1.length<=16):
 Zc (Xc yD) yD (s.2.2.1,(s.2.2.1.length:Int),(0:Int),ch,s)=some (if QY s.2.2.1.length (CondAt ch s.2.2.1) then .inr (ch,s) else .inl (false,ch,s)):=by
 ·refine Zxu s.2.2.1.length (λk:Nat=>(s.2.2.1,(s.2.2.1.length:Int),(k:Int),ch,s)) (CondAt ch s.2.2.1) _ _ (λk hk h=>((ZqQ w s hk hl).1 h)) (λk hk h=>((ZqQ w s hk hl).2 h)) ?_ (by omega);unfold Xc;dsimp only;rw[yX (by rw[ZH];decide)]
theorem ZqR{ch:Chan}(w:ch.2.2.2.1.length=2)(s:yG){k:Nat}(hk:k < 2)(hl:s.2.2.1.length<=16):
 (SideAt ch s.2.2.1 k->XE yD (ch.2.2.2.1,(k:Int),ch,s)=some (.inl (ch.2.2.2.1,((k+1:Nat):Int),ch,s)))/\
 (¬SideAt ch s.2.2.1 k->XE yD (ch.2.2.2.1,(k:Int),ch,s)=some (.inr (.inl (false,ch,s)))):=by
 obtain⟨t,ht,_⟩:=Zk (l:=ch.2.2.2.1) (k:=k) (by omega);unfold XE;dsimp only;rw[yW (show decide ((k:Int) < 2)=true from yY (by omega)),Zo ht,ya,Zzm s _ (by omega),ya,Zt (by omega)]
 by_cases h1:(off (k:Int) s.2.2.1).1 > t.2.2.2.1
 ·have bad:¬SideAt ch s.2.2.1 k:=λq=>by
   have:=(q t ht).1;omega
  refine⟨λq=>absurd q bad,λ_=> ?_⟩;rw[yW (yY h1)]
 ·rw[yX (show¬decide ((off (k:Int) s.2.2.1).1 > t.2.2.2.1)=true by rw[yN];exact h1)];by_cases h2:(off (k:Int) s.2.2.1).2 > t.2.2.2.2.2
  ·have bad:¬SideAt ch s.2.2.1 k:=λq=>by
    have:=(q t ht).2;omega
   refine⟨λq=>absurd q bad,λ_=> ?_⟩;rw[yW (yY h2)]
  ·have good:SideAt ch s.2.2.1 k:=λt' h'=>by
    rw[ht] at h';cases h';omega
   refine⟨λ_=> ?_,λq=>absurd good q⟩;rw[yX (show¬decide ((off (k:Int) s.2.2.1).2 > t.2.2.2.2.2)=true by rw[yN];exact h2)]
open Classical in
theorem Zzp{ch:Chan}(w:ch.2.2.2.1.length=2)(s:yG)(hl:s.2.2.1.length<=16):
 Zc (XE yD) yD (ch.2.2.2.1,(0:Int),ch,s)=some (if QY 2 (SideAt ch s.2.2.1) then .inr (ch,s) else .inl (false,ch,s)):=by
 ·exact Zxu 2 (λk:Nat=>(ch.2.2.2.1,(k:Int),ch,s)) (SideAt ch s.2.2.1) _ _ (λk hk h=>((ZqR w s hk hl).1 h)) (λk hk h=>((ZqR w s hk hl).2 h)) rfl (by omega)
structure StR(ch:Chan)(s:yG):Prop where
 am:1<=ch.2.1/\ch.2.1<=1125899906842624
 at_:0<=ch.1.2/\ch.1.2<=63
 op:ch.2.2.2.2=0\/ch.2.2.2.2=1
 side:SideOk ch
 no:0<=s.1/\s.1<=1048576
 have_:∃a b,s.2.1=[a,b]/\(0<=a/\a<=1125899906842624)/\(0<=b/\b<=1125899906842624)/\totF (wi (a+b)) s.2.2.1=ch.2.1/\(ch.2.2.2.2=0->a >= wi (feeF s.2.2.2 (s.2.2.1.length:Int)+660))/\(ch.2.2.2.2=1->b >= wi (feeF s.2.2.2 (s.2.2.1.length:Int)+660))
 rate:0<=s.2.2.2/\s.2.2.2<=1000
 len:s.2.2.1.length<=16
 conds:∀k,k < s.2.2.1.length->CondAt ch s.2.2.1 k
 sides:∀k,k < 2->SideAt ch s.2.2.1 k
theorem ZEJ{ch:Chan}(w:ChWf ch){s:yG}(hw:s.2.1.length=2):∃b:Bool,QE yD ch s=some b/\(b=true->StR ch s):=by
 obtain⟨e,f1,f3⟩:=ZIE w;obtain⟨a,b,hs⟩:=Zlp hw;unfold QE;rw[f1,ya];by_cases he:e=0
 ·subst he;obtain⟨q1,q2,q3,q4⟩:=f3 rfl;rw[yX (show¬(((0:Int)!=0)=true) by decide),Zvb,ya,hs];by_cases h1:0<=s.1/\s.1<=1048576
  ·rw[yY h1,yX (show¬(!true)=true by decide),yba,yat,yba];simp only[ya,ZGv,Zvb];by_cases h2:0<=a/\a<=1125899906842624
   ·by_cases h3:0<=b/\b<=1125899906842624
    ·rw[yY (p:=(0<=a/\a<=1125899906842624)/\0<=b/\b<=1125899906842624) ⟨h2,h3⟩];rw[yX (show¬(!true)=true by decide)];by_cases h4:0<=s.2.2.2/\s.2.2.2<=1000
     ·rw[yY h4,yX (show¬(!true)=true by decide)];by_cases h5:s.2.2.1.length<=16
      ·have h5':¬decide ((s.2.2.1.length:Int) > 16)=true:=by rw[yN];omega
       rw[yX h5',Zzo w.t s h5,ya];by_cases h6:QY s.2.2.1.length (CondAt ch s.2.2.1)
       ·rw[yW h6];dsimp only;rw[Zzp w.t s h5,ya];by_cases h7:QY 2 (SideAt ch s.2.2.1)
        ·rw[yW h7];dsimp only;rw[ZEH s hs (by omega),ya];by_cases h8:totF (wi (a+b)) s.2.2.1=ch.2.1
         ·rw[yW (beq_iff_eq.2 h8),hs,ZGx];rcases q3 with q|q
          ·rw[q,yW (by decide)];refine⟨decide (a >= wi (feeF s.2.2.2 (s.2.2.1.length:Int)+660)),rfl,λh=>⟨q1,q2,.inl q,q4,h1,⟨a,b,hs,h2,h3,h8,λ_=>yF h,λh=> ?_⟩,h4,h5,h6,h7⟩⟩;rw[q] at h;exact absurd h (by decide)
          ·rw[q,yW (by decide)];refine⟨decide (b >= wi (feeF s.2.2.2 (s.2.2.1.length:Int)+660)),rfl,λh=>⟨q1,q2,.inr q,q4,h1,⟨a,b,hs,h2,h3,h8,λh=> ?_,λ_=>yF h⟩,h4,h5,h6,h7⟩⟩;rw[q] at h;exact absurd h (by decide)
         ·have h8':¬(totF (wi (a+b)) s.2.2.1==ch.2.1)=true:=by rw[yT];exact h8
          rw[yX h8'];exact⟨false,rfl,λh=>absurd h (by decide)⟩
        ·rw[yX h7];exact⟨false,rfl,λh=>absurd h (by decide)⟩
       ·rw[yX h6];exact⟨false,rfl,λh=>absurd h (by decide)⟩
      ·have h5':decide ((s.2.2.1.length:Int) > 16)=true:=yY (by omega);rw[yW h5'];exact⟨false,rfl,λh=>absurd h (by decide)⟩
     ·rw[yZ h4];exact⟨false,rfl,λh=>absurd h (by decide)⟩
    ·rw[yZ (p:=(0<=a/\a<=1125899906842624)/\0<=b/\b<=1125899906842624) λq=>h3 q.2];exact⟨false,rfl,λh=>absurd h (by decide)⟩
   ·rw[yZ (p:=(0<=a/\a<=1125899906842624)/\0<=b/\b<=1125899906842624) λq=>h2 q.1];exact⟨false,rfl,λh=>absurd h (by decide)⟩
  ·rw[yZ h1];exact⟨false,rfl,λh=>absurd h (by decide)⟩
 ·have he':(e !=0)=true:=bne_iff_ne.2 he;rw[yW he'];exact⟨false,rfl,λh=>absurd h (by decide)⟩
theorem ZBZ(p:yU):Zdn yD p=some (XW p.toNat):=by
 unfold Zdn
 have e:=Zz (step:=Wa yD) 8 (λk:Nat=>(p,(k:Int),ZiW (XW p.toNat) 8 k)) (x:=XW p.toNat) (by
  intro k hk;have hb:(XW p.toNat)[k]? =_:=Zzf p hk;have hl:(XW p.toNat).length=8:=rfl;unfold Wa;dsimp only;have q1:min (56 - 8*(k:Int)).toNat 64=56 - 8*k:=by omega
  rw[yW (yY (by omega)),Z1 (z:=8*(k:Int)) (by omega) (by omega),Z1 (z:=56 - 8*(k:Int)) (by omega) (by omega),yW (yY (by omega)),yW (YI (by omega) (by omega)),ybq,ZsY (by omega) (by omega),ya,Zt (by omega),q1,ZsZ hb (by omega)]) (by
  unfold Wa;dsimp only;rw[yX (ynd (by omega)),Zs0 (n:=8) (XS _)]) (by omega)
 have e:Zc (Wa yD) yD (p,(0:Int),([0,0,0,0,0,0,0,0]:yL yB))=_:=e;rw[e,ya];rfl
noncomputable def ZGy(s:ByteArray)(a b:yU):yU:=frF (Sha.sha (ZrW s [XW a.toNat,XW b.toNat]))
theorem ZGz(a b:yU):∀l,l∈[XW a.toNat,XW b.toNat]->l.length<=60000:=by
 intro l hl;simp only[yaz,ycm,or_false] at hl;rcases hl with rfl|rfl
 ·exact yby (Nat.le_of_eq (XS _)) (by decide)
 ·exact yby (Nat.le_of_eq (XS _)) (by decide)
theorem Zzq{s:ByteArray}(hs:s.size<=100)(a b:yU):Wv yD s [a,b]=some (ZGy s a b):=by
 unfold Wv
 have e:=Zz (step:=XF yD) 2 (λk:Nat=>(s,[a,b],(2:Int),(k:Int),[XW a.toNat,XW b.toNat].take k)) (x:=(s,[XW a.toNat,XW b.toNat])) (by
  intro k hk;obtain⟨p,hp,_⟩:=Zk (l:=[a,b]) (k:=k) (by simp;omega)
  have hq:[XW a.toNat,XW b.toNat][k]? =some (XW p.toNat):=by
   rcases (show k=0\/k=1 by omega) with rfl|rfl
   ·cases hp;rfl
   ·cases hp;rfl
  have hl:([XW a.toNat,XW b.toNat].take k).length<=2:=by rw[yag];exact Nat.min_le_right _ _
  unfold XF;dsimp only;rw[yW (yY (by omega)),Zo hp,ya,ZBZ,ya,yW (Yi (by omega) (by omega)),Zt (by omega),List.take_add_one,hq];rfl) (by
  unfold XF;dsimp only;rw[yX (ynd (by omega))];rfl) (by omega)
 have e:Zc (XF yD) yD (s,[a,b],(([a,b]:yL yU).length:Int),(0:Int),([]:yL (yL yB)))=_:=e;rw[e,ya];dsimp only;rw[Zzl hs (by simp) (ZGz a b),ya,ZGs (Sha.ZJx _),ya];rfl
noncomputable def mixF(a p:yU):yU:=ad a (B (ZGy ZEj p a).toNat)
noncomputable def revF(a p:yU):yU:=ad (sc a (ZGy ZAE a p).toNat) (sc p (ZGy ZAE p a).toNat)
theorem ZII(a p:yU):ZbV yD a p=some (mixF a p):=by
 unfold ZbV;rw[Zzq (by decide),ya,ZhS,ya,ZEr,ya];rfl
theorem ZB0(a p:yU):ZbH yD a p=some (revF a p):=by
 unfold ZbH;rw[Zzq (by decide),ya,ZqL,ya,Zzq (by decide),ya,ZqL,ya,ZEr,ya];rfl
theorem Zvc(a p:yU):IsPt (mixF a p).toNat:=ZG8 _ _
theorem ZAN(a p:yU):IsPt (revF a p).toNat:=ZG8 _ _
theorem ZB1{l:yL yU}(hl:l.length<=9223372036854775807):∃b,Y9 yD l=some b/\(b=false->∀p,p∈l->IsPt p.toNat):=by
 unfold Y9 WV
 obtain⟨x,h1,h2⟩:=QR (step:=Yb yD) l.length (λk s=>s=(l,(l.length:Int),(k:Int))/\∀j p,j < k->l[j]? =some p->IsPt p.toNat) (λx=>(∃k:Nat,x=.inl (k:Int))\/x=.inr ()/\∀p,p∈l->IsPt p.toNat) (i:=(l,(l.length:Int),(0:Int))) ⟨rfl,λj p hj=>by omega⟩ (by omega) (by
  rintro k _ hk ⟨rfl,hj⟩;obtain⟨e,he,_⟩:=Zk hk;unfold Yb;dsimp only;rw[yW (ZM hk),Zo he,ya,Zzi,ya,Zt (by omega)];by_cases hp:IsPt e.toNat
  ·rw[yY hp];left;refine⟨_,rfl,rfl,λj p h3 h4=> ?_⟩;by_cases h5:j < k
   ·exact hj j p h5 h4
   ·have:j=k:=by omega
    subst this;rw[he] at h4;cases h4;exact hp
  ·rw[yZ hp];right;exact⟨_,rfl,.inl ⟨k,rfl⟩⟩) (by
  rintro _ ⟨rfl,hj⟩;unfold Yb;dsimp only;rw[yX (by rw[ZH];decide)];refine⟨_,rfl,.inr ⟨rfl,λp hp=> ?_⟩⟩;obtain⟨j,hj1,hj2⟩:=ycf hp;exact hj j p hj1 (by rw[yab hj1,hj2]))
 rw[h1,ya];rcases h2 with⟨k,rfl⟩|⟨rfl,h2⟩
 ·dsimp only;rw[ya];refine⟨_,rfl,λh=> ?_⟩;exact absurd (of_decide_eq_false h) (by omega)
 ·exact⟨_,rfl,λ_=>h2⟩
def LockWf(l:YD):Prop:=l.length<=9223372036854775807/\∀b,b∈l->b.1.length<=9223372036854775807
theorem Znu(z:Int):∃b,Wx yD z=some b/\(b=true->0<=z/\z<=1048576):=by
 unfold Wx;by_cases h:z >= 0
 ·rw[yW (yY h)];exact⟨_,rfl,λh2=>⟨h,yF h2⟩⟩
 ·rw[yX (by rw[yN];exact h)];exact⟨_,rfl,λh2=>by cases h2⟩
theorem ZcQ{l:YD}(hl:LockWf l):∃b,XM yD l=some b/\(b=true↔Wb l/\Ve l):=by
 have key:∃b,XM yD l=some b/\(b=true->Wb l/\Ve l):=by
  unfold XM;obtain⟨h0,h1⟩:=hl
  obtain⟨x,hx,hp⟩:=QR (step:=Xz yD) l.length (λk s=>s=(l,(l.length:Int),(k:Int),l)/\∀j b,j < k->l[j]? =some b->Zu5 b/\Zu6 b)
   (λx=>x=.inl (false,l)\/(x=.inr l/\∀b,b∈l->Zu5 b/\Zu6 b)) (i:=(l,(l.length:Int),(0:Int),l)) ⟨rfl,λj b hj=>by omega⟩ (by omega) (by
   rintro k _ hk ⟨rfl,hj⟩;obtain⟨e,he,hm⟩:=Zk hk
   have hnext:(Zu5 e/\Zu6 e)->∀j b,j < k+1->l[j]? =some b->Zu5 b/\Zu6 b:=by
    intro hE j b h2 h3;by_cases h4:j < k
    ·exact hj j b h4 h3
    ·have:j=k:=by omega
     subst this;rw[he] at h3;cases h3;exact hE
   unfold Xz;dsimp only;rw[yW (ZM hk),Zo he,ya];by_cases k1:(e.1.length:Int) > 12
   ·right;rw[yW (yY k1)];exact⟨_,rfl,.inl rfl⟩
   rw[yX (by rw[yN];exact k1)];obtain⟨b,hb,hbp⟩:=ZB1 (h1 e hm);rw[hb,ya]
   cases b with
   |true=>right;exact⟨_,rfl,.inl rfl⟩
   |false=>
    obtain⟨c,hc,hc2⟩:=Znu e.2.1;obtain⟨d,hd,hd2⟩:=Znu e.2.2.1;rw[yX (by decide),hc,ya,hd,ya]
    cases c with
    |false=>right;exact⟨_,rfl,.inl rfl⟩
    |true=>
     cases d with
     |false=>right;exact⟨_,rfl,.inl rfl⟩
     |true=>
      have hn:=λhz:e.2.2.2≠0->IsPt e.2.2.2.toNat=>hnext ⟨⟨by omega,(hc2 rfl).1,(hc2 rfl).2,(hd2 rfl).1,(hd2 rfl).2⟩,hbp rfl,hz⟩;rw[yX (by decide),yX (by decide),Zt (by omega)];by_cases hz:e.2.2.2=0
      ·rw[yX (by rw[hz];decide)];left;exact⟨_,rfl,rfl,hn λh=>absurd hz h⟩
      ·rw[yW (by simp[hz]),Zzi,ya];by_cases hpt:IsPt e.2.2.2.toNat
       ·rw[yY hpt];left;exact⟨_,rfl,rfl,hn λ_=>hpt⟩
       ·rw[yZ hpt];right;exact⟨_,rfl,.inl rfl⟩) (by
   rintro _ ⟨rfl,hj⟩;unfold Xz;dsimp only;rw[yX (by rw[ZH];decide)];refine⟨_,rfl,.inr ⟨rfl,λb hb=> ?_⟩⟩;obtain⟨j,hj1,hj2⟩:=ycf hb;exact hj j b hj1 (by rw[yab hj1,hj2]))
  rw[hx,ya];rcases hp with rfl|⟨rfl,hp⟩
  ·exact⟨_,rfl,λh=>by cases h⟩
  ·dsimp only;by_cases h2:(l.length:Int) > 0
   ·rw[yW (yY h2)];refine⟨_,rfl,λh3=>⟨⟨by omega, ?_,λb hb=>(hp b hb).1⟩,λb hb=>(hp b hb).2⟩⟩;have:=yF h3;omega
   ·rw[yX (by rw[yN];exact h2)];exact⟨_,rfl,λh=>by cases h⟩
 obtain⟨b,h1,h2⟩:=key;refine⟨b,h1,h2,λh=> ?_⟩;rw[ZjK h.1 h.2] at h1;exact(Option.some.inj h1).symm
theorem Zxv{e:Branch}(hw:e.1.length<=9223372036854775807):∃b,Vd yD e=some b/\(b=true↔Zu5 e/\Zu6 e):=by
 unfold Vd;by_cases c1:(e.1.length:Int) > 12
 ·rw[yW (yY c1)];exact⟨_,rfl,λh=>(by cases h),λh=>by have:=h.1.1;omega⟩
 rw[yX (by rw[yN];exact c1)];by_cases c2:e.2.1 < 0
 ·rw[yW (yY c2)];exact⟨_,rfl,λh=>(by cases h),λh=>by have:=h.1.2.1;omega⟩
 rw[yX (by rw[yN];exact c2)];by_cases c3:e.2.1 > 1048576
 ·rw[yW (yY c3)];exact⟨_,rfl,λh=>(by cases h),λh=>by have:=h.1.2.2.1;omega⟩
 rw[yX (by rw[yN];exact c3)];by_cases c4:e.2.2.1 < 0
 ·rw[yW (yY c4)];exact⟨_,rfl,λh=>(by cases h),λh=>by have:=h.1.2.2.2.1;omega⟩
 rw[yX (by rw[yN];exact c4)];by_cases c5:e.2.2.1 > 1048576
 ·rw[yW (yY c5)];exact⟨_,rfl,λh=>(by cases h),λh=>by have:=h.1.2.2.2.2;omega⟩
 rw[yX (by rw[yN];exact c5)];have ok:Zu5 e:=⟨by omega,by omega,by omega,by omega,by omega⟩
 obtain⟨x,h1,h2⟩:=QR (step:=Xa yD) e.1.length (λk s=>s=((k:Int),e)/\∀j p,j < k->e.1[j]? =some p->IsPt p.toNat) (λx=>(x=.inl (false,e)/\¬Zu6 e)\/(x=.inr e/\∀p,p∈e.1->IsPt p.toNat)) (i:=((0:Int),e)) ⟨rfl,λj p hj=>by omega⟩ (by omega) (by
  rintro k _ hk ⟨rfl,hj⟩;obtain⟨d,hd,hm⟩:=Zk hk;unfold Xa;dsimp only;rw[yW (ZM hk),Zo hd,ya,ZsW,ya];by_cases hp:IsPt d.toNat
  ·left;rw[yY hp,yX (by decide),Zt (by omega)];refine⟨_,rfl,rfl,λj p h3 h4=> ?_⟩;by_cases h5:j < k
   ·exact hj j p h5 h4
   ·have:j=k:=by omega
    subst this;rw[hd] at h4;cases h4;exact hp
  ·right;rw[yZ hp,yW (by decide)];exact⟨_,rfl,.inl ⟨rfl,λh=>hp (h.1 d hm)⟩⟩) (by
  rintro _ ⟨rfl,hj⟩;unfold Xa;dsimp only;rw[yX (by rw[ZH];decide)];refine⟨_,rfl,.inr ⟨rfl,λp hp=> ?_⟩⟩;obtain⟨j,j1,j2⟩:=ycf hp;exact hj j p j1 (by rw[yab j1,j2]))
 rw[h1,ya];rcases h2 with⟨rfl,h2⟩|⟨rfl,h2⟩
 ·exact⟨_,rfl,λh=>(by cases h),λh=>absurd h.2 h2⟩
 ·dsimp only;rw[ZsW,ya];by_cases h0:e.2.2.2=0
  ·rw[yW (beq_iff_eq.2 h0)];exact⟨_,rfl,λ_=>⟨ok,h2,λh=>absurd h0 h⟩,λ_=>rfl⟩
  ·rw[yX (by rw[yT];exact h0)];refine⟨_,rfl,λh=>⟨ok,h2,λ_=>yF h⟩,λh=>yY (h.2.2 h0)⟩
theorem Zfo{l:YD}(hl:LockWf l):∃b,Xe yD l=some b/\(b=true↔Wb l/\Ve l):=by
 obtain⟨w0,w1⟩:=hl;unfold Xe;by_cases c1:(l.length:Int) < 1
 ·rw[yW (yY c1)];exact⟨_,rfl,λh=>(by cases h),λh=>by have:=h.1.1;omega⟩
 rw[yX (by rw[yN];exact c1)];by_cases c2:(l.length:Int) > 4
 ·rw[yW (yY c2)];exact⟨_,rfl,λh=>(by cases h),λh=>by have:=h.1.2.1;omega⟩
 rw[yX (by rw[yN];exact c2)]
 obtain⟨x,h1,h2⟩:=QR (step:=Xk yD) l.length (λk s=>s=((k:Int),l)/\∀j b,j < k->l[j]? =some b->Zu5 b/\Zu6 b) (λx=>(x=.inl (false,l)/\¬(Wb l/\Ve l))\/(x=.inr l/\∀b,b∈l->Zu5 b/\Zu6 b)) (i:=((0:Int),l)) ⟨rfl,λj p hj=>by omega⟩ (by omega) (by
  rintro k _ hk ⟨rfl,hj⟩;obtain⟨d,hd,hm⟩:=Zk hk;obtain⟨b,b1,b2⟩:=Zxv (w1 d hm);unfold Xk;dsimp only;rw[yW (ZM hk),Zo hd,ya,b1,ya]
  cases b with
  |true=>
   left;rw[yX (by decide),Zt (by omega)];refine⟨_,rfl,rfl,λj p h3 h4=> ?_⟩;by_cases h5:j < k
   ·exact hj j p h5 h4
   ·have:j=k:=by omega
    subst this;rw[hd] at h4;cases h4
    exact b2.1 rfl
  |false=>
   right;rw[yW (by decide)];exact⟨_,rfl,.inl ⟨rfl,λh=>by have:=b2.2 ⟨h.1.2.2 d hm,h.2 d hm⟩;cases this⟩⟩) (by
  rintro _ ⟨rfl,hj⟩;unfold Xk;dsimp only;rw[yX (by rw[ZH];decide)];refine⟨_,rfl,.inr ⟨rfl,λp hp=> ?_⟩⟩;obtain⟨j,j1,j2⟩:=ycf hp;exact hj j p j1 (by rw[yab j1,j2]))
 rw[h1,ya];rcases h2 with⟨rfl,h2⟩|⟨rfl,h2⟩
 ·exact⟨_,rfl,λh=>(by cases h),λh=>absurd h h2⟩
 ·exact⟨_,rfl,λ_=>⟨⟨by omega,by omega,λb hb=>(h2 b hb).1⟩,λb hb=>(h2 b hb).2⟩,λ_=>rfl⟩
theorem ZEK{l:YD}(h:Wb l)(hp:Ve l):Xe yD l=some true:=by
 obtain⟨b,b1,b2⟩:=Zfo (l:=l) ⟨by have:=h.2.1;omega,λb hb=>by have:=(h.2.2 b hb).1;omega⟩;rw[b1,b2.2 ⟨h,hp⟩]
theorem Zzr{c:yL yB}(hc:c.length<=100000){i:Int}{l:YD}{e:Branch}(hk:e.1.length<=12):
 Zc (YL yD) yD (c,i,(0:Int),l,e)=some (c++cat Zu7 e.1,i,l,e):=by
 have q:=Zz (step:=YL yD) e.1.length (λk:Nat=>(c++cat Zu7 (e.1.take k),i,(k:Int),l,e)) (x:=(c++cat Zu7 e.1,i,l,e)) (by
  intro k hk2;obtain⟨d,hd,_⟩:=Zk hk2;have hl:=Zhr hk k;unfold YL;dsimp only;rw[yW (ZM hk2),Zo hd,ya,ZqO _ (by rw[yo];omega),ya,Zt (by omega),VL hd,yac];rfl) (by
  unfold YL;dsimp only;rw[yX (by rw[ZH];decide),yal]) (by omega)
 rw[show cat Zu7 (e.1.take 0)=[] from rfl,yap] at q
 exact q
theorem Zxw{l:YD}(h:Wb l)(hp:Ve l):VA yD l=some (Zhq l):=by
 unfold VA;have h0:=h.2.1;have h9:=ZS (n:=l.length) (by omega);rw[ZEK h hp,ya,yX (by decide),ZaG (by omega) (by omega) (by simp),ya,yw,ybq]
 have q:=Zz (step:=YM yD) l.length (λk:Nat=>(Xf l.length++cat brF (l.take k),(k:Int),l)) (x:=(Zhq l,l)) (by
  intro k hk;obtain⟨e,he,hm⟩:=Zk hk;obtain⟨e1,e2,e3,e4,e5⟩:=h.2.2 e hm;have hl:=QW (f:=brF) (c:=131) (λx hx=>Zu8 (h.2.2 x hx)) h.2.1 k;have hr:=ZS (n:=e.1.length) (by omega);have hr2:=ZS (n:=e.2.1.toNat) (by omega);have hr3:=ZS (n:=e.2.2.1.toNat) (by omega);have hk8:=Zhr e1 e.1.length;rw[yal] at hk8;unfold YM;dsimp only
  rw[yW (ZM hk),Zo he,ya,ZaG (by omega) (by omega) (by rw[yo];omega),ya,ybq,
   Zzr (by simp only[yo];omega) e1,ya]
  dsimp only
  rw[ZaG e2 (by omega) (by simp only[yo];omega),ya,ZaG e4 (by omega) (by simp only[yo];omega),ya,
   ZqO _ (by simp only[yo];omega),ya,Zt (by omega),VL he]
  unfold brF;simp only[yac]) (by
  unfold YM;dsimp only;rw[yX (by rw[ZH];decide),yal];rfl) (by omega)
 rw[show cat brF (l.take 0)=[] from rfl,yap] at q
 have q:Zc (YM yD) yD (Xf l.length,(0:Int),l)=_:=q;rw[q,ya]
open Classical in
noncomputable def ZEL(l:YD):yL yB:=if Wb l/\Ve l then Sha.sha (ZrW ZG5 [Zhq l]) else z32
theorem Zxx(l:YD):(ZEL l).length=32:=by
 unfold ZEL;by_cases h:Wb l/\Ve l
 ·rw[yW h];exact Sha.ZJx _
 ·rw[yX h];rfl
theorem ZEM{l:YD}(h:Wb l):∀x,x∈[Zhq l]->x.length<=60000:=λx hx=>by
 have:=ZhT h;rw[yaq.1 hx];omega
theorem ZGA{l:YD}(hl:LockWf l):ZhQ yD l=some (ZEL l):=by
 obtain⟨b,b1,b2⟩:=ZcQ hl;unfold ZhQ ZEL;rw[b1,ya];by_cases h:Wb l/\Ve l
 ·rw[b2.2 h,yX (show¬(!true)=true by decide),yW h,ZqN h.1 h.2,ya,Zzl (by decide) (by simp) (ZEM h.1),ya]
 ·have:b=false:=by
   cases b with
   |true=>exact absurd (b2.1 rfl) h
   |false=>rfl
  rw[this,yW (show(!false)=true by decide),yX h];rfl
abbrev ZeC:Type:=Out×QH
def XX:yL Int->yL Int->Bool
 |a::l,b::r=>decide (a < b) || (decide (a=b)&&XX l r)
 |_,_=>false
theorem WK{a b:Int}{l r:yL Int}:XX (a::l) (b::r)=true↔a < b\/a=b/\XX l r=true:=by
 simp[XX]
theorem Znv:∀l,XX l l=false
 |[]=>rfl
 |a::l=>by
  have ih:=Znv l
  cases h:XX (a::l) (a::l) with
  |false=>rfl
  |true=>
   rcases WK.1 h with h|h
   ·omega
   ·rw[ih] at h;cases h.2
theorem Zfp:∀{a b c:yL Int},XX a b=true->XX b c=true->XX a c=true
 |[],_,_,h,_=>by cases h
 |_::_,[],_,h,_=>by cases h
 |_::_,_::_,[],_,h=>by cases h
 |x::a,y::b,z::c,h1,h2=>by
  rw[WK] at h1 h2 ⊢;rcases h1 with h1|⟨h1,h3⟩
  ·rcases h2 with h2|⟨h2,_⟩
   ·exact .inl (by omega)
   ·exact .inl (by omega)
  ·rcases h2 with h2|⟨h2,h4⟩
   ·exact .inl (by omega)
   ·exact .inr ⟨by omega,Zfp h3 h4⟩
theorem Zxy:∀{a b:yL Int},a.length=b.length->XX a b=false->XX b a=false->a=b
 |[],[],_,_,_=>rfl
 |[],_::_,h,_,_=>by cases h
 |_::_,[],h,_,_=>by cases h
 |x::a,y::b,h,h1,h2=>by
  have n1:¬(XX (x::a) (y::b)=true):=by rw[h1];decide
  have n2:¬(XX (y::b) (x::a)=true):=by rw[h2];decide
  rw[WK] at n1 n2;have e:x=y:=by omega
  subst e
  rw[Zxy (a:=a) (b:=b) (by simpa using h) (by
   cases k:XX a b with
   |false=>rfl
   |true=>exact absurd (.inr ⟨rfl,k⟩) n1) (by
   cases k:XX b a with
   |false=>rfl
   |true=>exact absurd (.inr ⟨rfl,k⟩) n2)]
theorem Zxz:∀{u v r s:yL Int},u.length=v.length->(XX (u++r) (v++s)=true↔XX u v=true\/u=v/\XX r s=true)
 |[],[],r,s,_=>by simp[XX]
 |[],_::_,_,_,h=>by cases h
 |_::_,[],_,_,h=>by cases h
 |x::u,y::v,r,s,h=>by
  rw[List.cons_append,List.cons_append,WK,WK,Zxz (u:=u) (v:=v) (by simpa using h)];constructor
  ·rintro(h|⟨h,h2|⟨h2,h3⟩⟩)
   ·exact .inl (.inl h)
   ·exact .inl (.inr ⟨h,h2⟩)
   ·exact .inr ⟨by rw[h,h2],h3⟩
  ·rintro((h|⟨h,h2⟩)|⟨h,h3⟩)
   ·exact .inl h
   ·exact .inr ⟨h,.inl h2⟩
   ·cases h;exact .inr ⟨rfl,.inr ⟨rfl,h3⟩⟩
theorem ZB2{a b:yL Int}(h:XX a b=true):XX b a=false:=by
 cases k:XX b a with
 |false=>rfl
 |true=>
  have:=Zfp h k;rw[Znv] at this;cases this
def Vq{α:Type}(key:α->yL Int)(x:α):yL α->yL α
 |[]=>[x]
 |e::r=>if XX (key x) (key e)=true then x::e::r else e::Vq key x r
def Srt{α:Type}(key:α->yL Int)(l:yL α):Prop:=l.Pairwise λa b=>XX (key b) (key a)=false
theorem ZxA{α:Type}{key:α->yL Int}{x y:α}(h:XX (key x) (key y)=true):∀P:yL α,Vq key x (P++[y])=Vq key x P++[y]
 |[]=>by simp[Vq,h]
 |e::r=>by
  have ih:=ZxA h r;by_cases k:XX (key x) (key e)=true
  ·simp[Vq,k]
  ·simp[Vq,k,ih]
theorem ZAO{α:Type}{key:α->yL Int}{x:α}:∀P:yL α,(∀e,e∈P->XX (key x) (key e)=false)->Vq key x P=P++[x]
 |[],_=>rfl
 |e::r,h=>by
  have ih:=ZAO r λa ha=>h a (yao _ ha);have k:=h e (yam);simp[Vq,k,ih]
theorem ZqS{α:Type}{key:α->yL Int}{x y:α}:∀{l:yL α},y∈Vq key x l↔y=x\/y∈l
 |[]=>by simp[Vq]
 |e::r=>by
  have ih:=ZqS (key:=key) (x:=x) (y:=y) (l:=r);by_cases k:XX (key x) (key e)=true
  ·simp[Vq,k]
  ·rw[show Vq key x (e::r)=e::Vq key x r by simp[Vq,k],yaz,yaz,ih];constructor
   ·rintro(h|h|h)
    ·exact .inr (.inl h)
    ·exact .inl h
    ·exact .inr (.inr h)
   ·rintro(h|h|h)
    ·exact .inr (.inl h)
    ·exact .inl h
    ·exact .inr (.inr h)
theorem ZxB{α:Type}{key:α->yL Int}{x:α}:∀l:yL α,(Vq key x l).length=l.length+1
 |[]=>rfl
 |e::r=>by
  have ih:=ZxB (key:=key) (x:=x) r;by_cases k:XX (key x) (key e)=true
  ·simp[Vq,k]
  ·simp[Vq,k,ih]
theorem ZxC{α:Type}{key:α->yL Int}{x:α}:∀{l:yL α},Srt key l->Srt key (Vq key x l)
 |[],_=>List.pairwise_singleton _ _
 |e::r,h=>by
  have h':=List.pairwise_cons.1 h;by_cases k:XX (key x) (key e)=true
  ·rw[show Vq key x (e::r)=x::e::r by simp[Vq,k]];refine List.pairwise_cons.2 ⟨λb hb=> ?_,h⟩;rcases yaz.1 hb with rfl|hb
   ·exact ZB2 k
   ·cases q:XX (key b) (key x) with
    |false=>rfl
    |true=>
     have:=Zfp q k;rw[h'.1 b hb] at this;cases this
  ·rw[show Vq key x (e::r)=e::Vq key x r by simp[Vq,k]];refine List.pairwise_cons.2 ⟨λb hb=> ?_,ZxC h'.2⟩;rcases ZqS.1 hb with rfl|hb
   ·simpa using k
   ·exact h'.1 b hb
def QZ{α:Type}(key:α->yL Int)(l:yL α):yL α:=l.foldl (λacc x=>Vq key x acc) []
theorem ZB3{α:Type}{key:α->yL Int}(l:yL α)(x:α):QZ key (l++[x])=Vq key x (QZ key l):=by
 unfold QZ;rw[List.foldl_append];rfl
theorem ZEN{α:Type}{key:α->yL Int}(l:yL α):Srt key (QZ key l):=by
 unfold QZ
 have h:∀(l acc:yL α),Srt key acc->Srt key (l.foldl (λacc x=>Vq key x acc) acc):=by
  intro l
  induction l with
  |nil=>exact λ_ h=>h
  |cons e r ih=>exact λacc h=>ih _ (ZxC h)
 exact h l [] List.Pairwise.nil
theorem ZqT{α:Type}{key:α->yL Int}(l:yL α):(QZ key l).length=l.length:=by
 unfold QZ
 have h:∀(l acc:yL α),(l.foldl (λacc x=>Vq key x acc) acc).length=acc.length+l.length:=by
  intro l
  induction l with
  |nil=>exact λ_=>rfl
  |cons e r ih=>
   intro acc;rw[List.foldl_cons,ih,ZxB,yaf];omega
 rw[h l []];simp
theorem ZEO{α:Type}{key:α->yL Int}{y:α}(l:yL α):y∈QZ key l↔y∈l:=by
 unfold QZ
 have h:∀(l acc:yL α),(y∈l.foldl (λacc x=>Vq key x acc) acc↔y∈acc\/y∈l):=by
  intro l
  induction l with
  |nil=>exact λ_=>by simp
  |cons e r ih=>
   intro acc;rw[List.foldl_cons,ih,ZqS,yaz];constructor
   ·rintro((h|h)|h)
    ·exact .inr (.inl h)
    ·exact .inl h
    ·exact .inr (.inr h)
   ·rintro(h|h|h)
    ·exact .inl (.inr h)
    ·exact .inl (.inl h)
    ·exact .inr h
 rw[h l []];simp
theorem ZEP{α:Type}{key:α->yL Int}{n:Nat}{x y:α}{P:yL α}(hk:∀e,e∈x::(P++[y])->(key e).length=n)(hs:Srt key (P++[y]))(h:XX (key x) (key y)=false):Vq key x (P++[y])=P++[y]++[x]:=by
 refine ZAO _ λe he=> ?_
 cases q:XX (key x) (key e) with
 |false=>rfl
 |true=>
  rcases ybj.1 he with h1|h1
  ·have h2:XX (key y) (key e)=false:=(List.pairwise_append.1 hs).2.2 e h1 y (by simp)
   cases q2:XX (key y) (key x) with
   |true=>
    rw[Zfp q2 q] at h2
    cases h2
   |false=>
    have:=Zxy (by rw[hk x (by simp),hk y (by simp)]) h q2;rw[<-this,q] at h2;cases h2
  ·rw[yaq.1 h1,h] at q;cases q
def bm(x:yL yB):yL Int:=x.map λb=>(b.toNat:Int)
theorem ZEQ(x:yL yB):(bm x).length=x.length:=yy _
def V5(x:Ze):yL Int:=x.1.1::(bm x.2.2++[x.2.1.1,x.2.1.2.1,x.2.1.2.2.1])
theorem ZER{x:Ze}(h:x.2.2.length=32):(V5 x).length=36:=by
 simp[V5,bm,h]
theorem ZIJ{a a' d d' f f' i i':Int}{u v:yL Int}(h:u.length=v.length):XX (a::(u++[d,f,i])) (a'::(v++[d',f',i']))=true↔a < a'\/a=a'/\(XX u v=true\/u=v/\(d < d'\/d=d'/\(f < f'\/f=f'/\i < i'))):=by
 rw[WK,Zxz h,WK,WK,WK];have:¬(XX [] []=true):=by decide
 simp[this]
theorem Zs5:∀{x y:yL yB},x.length=y.length->(Go.Lib.compareBytes x y < 0↔XX (bm x) (bm y)=true)/\(Go.Lib.compareBytes x y=0↔bm x=bm y)
 |[],[],_=>by simp[Go.Lib.compareBytes,bm,XX]
 |[],_::_,h=>by cases h
 |_::_,[],h=>by cases h
 |a::x,b::y,h=>by
  have ih:=Zs5 (x:=x) (y:=y) (by simpa using h);have e1:bm (a::x)=(a.toNat:Int)::bm x:=rfl;have e2:bm (b::y)=(b.toNat:Int)::bm y:=rfl;rw[e1,e2,WK,List.cons.injEq];unfold Go.Lib.compareBytes;by_cases h1:a < b
  ·have h1':=UInt8.lt_iff_toNat_lt.1 h1;rw[yW h1];exact⟨⟨λ_=>.inl (by omega),λ_=>by decide⟩,⟨λh=>absurd h (by decide),λh=>by omega⟩⟩
  ·have h1':¬a.toNat < b.toNat:=λq=>h1 (UInt8.lt_iff_toNat_lt.2 q);rw[yX h1];by_cases h2:b < a
   ·have h2':=UInt8.lt_iff_toNat_lt.1 h2;rw[yW h2];exact⟨⟨λh=>absurd h (by decide),λh=>by omega⟩,⟨λh=>absurd h (by decide),λh=>by omega⟩⟩
   ·have h2':¬b.toNat < a.toNat:=λq=>h2 (UInt8.lt_iff_toNat_lt.2 q);rw[yX h2];have e:a.toNat=b.toNat:=by omega
    refine⟨⟨λh=>.inr ⟨by omega,ih.1.1 h⟩,λh=> ?_⟩,⟨λh=>⟨by omega,ih.2.1 h⟩,λh=>ih.2.2 h.2⟩⟩;rcases h with h|h
    ·omega
    ·exact ih.1.2 h.2
theorem Zlq{c:Int}{r:yL Int}:orL (c::r) < 0↔c < 0\/c=0/\orL r < 0:=by
 rw[show orL (c::r)=if c≠0 then c else orL r from rfl]
 by_cases h:c=0
 ·rw[yX (by simp[h])];constructor
  ·exact λq=>.inr ⟨h,q⟩
  ·rintro(q|q)
   ·omega
   ·exact q.2
 ·rw[yW h];constructor
  ·exact λq=>.inl q
  ·rintro(q|q)
   ·exact q
   ·exact absurd q.1 h
theorem Zlr{a b:Int}:(if a < b then(-1:Int) else if a > b then 1 else 0) < 0↔a < b:=by
 by_cases h:a < b
 ·rw[yW h];exact⟨λ_=>h,λ_=>by decide⟩
 ·rw[yX h];by_cases h2:a > b
  ·rw[yW h2];exact⟨λq=>absurd q (by decide),λq=>absurd q h⟩
  ·rw[yX h2];exact⟨λq=>absurd q (by decide),λq=>absurd q h⟩
theorem ZhU{a b:Int}:(if a < b then(-1:Int) else if a > b then 1 else 0)=0↔a=b:=by
 by_cases h:a < b
 ·rw[yW h];exact⟨λq=>absurd q (by decide),λq=>by omega⟩
 ·rw[yX h];by_cases h2:a > b
  ·rw[yW h2];exact⟨λq=>absurd q (by decide),λq=>by omega⟩
  ·rw[yX h2];exact⟨λ_=>by omega,λ_=>rfl⟩
theorem ZGB{a b:Ze}(ha:a.2.2.length=32)(hb:b.2.2.length=32):∃z,QI yD a b=some z/\(z < 0↔XX (V5 a) (V5 b)=true):=by
 unfold QI Zcv;rw[Zar,ya,ya,Zar,ya,Zar,ya,Zar,ya,ZG9 (by simp),ya];refine⟨_,rfl, ?_⟩;obtain⟨c1,c2⟩:=Zs5 (x:=a.2.2) (y:=b.2.2) (by omega);unfold V5;rw[ZIJ (by rw[ZEQ,ZEQ];omega),Zlq,Zlq,Zlq,Zlq,Zlq,Zlr,Zlr,Zlr,Zlr,ZhU,ZhU,ZhU,ZhU,c1,c2];have:¬(orL [] < 0):=by decide
 simp only[this,and_false,or_false]
theorem ZES(n:Int)(i:Nat):∀(P:yL Ze)(f:Nat)(u:yL Unit)(x:Ze)(Q:yL Ze),P.length < f->P.length+Q.length+1<=100->(∀e,e∈P++x::Q->e.2.2.length=32)->Srt V5 P->
 Zc (YP yD) f ((0:Int),n,(i:Int),(P.length:Int),u,P++x::Q)=some ((0:Int),n,(i:Int),u,Vq V5 x P++Q):=by
 intro P
 induction h:P.length generalizing P with
 |zero=>
  intro f u x Q hf hl hk hs;have:P=[]:=ybb h;subst this;obtain⟨f,rfl⟩:=Nat.exists_eq_succ_of_ne_zero (n:=f) (by omega);unfold Zc YP;dsimp only;rw[yX (ynd (by omega)),ya]
  rfl
 |succ j ih=>
  intro f u x Q hf hl hk hs;obtain⟨f,rfl⟩:=Nat.exists_eq_succ_of_ne_zero (n:=f) (by omega)
  obtain⟨P',y,rfl⟩:∃P' y,P=P'++[y]:=by
   have hne:P≠[]:=λe=>by rw[e] at h;cases h
   exact⟨P.dropLast,P.getLast hne,(List.dropLast_concat_getLast hne).symm⟩
  have hj:P'.length=j:=by simpa using h
  have el:P'++[y]++x::Q=P'++y::x::Q:=by simp
  have hx:(P'++y::x::Q)[j+1]? =some x:=by
   rw[yan (by omega),show j+1 - P'.length=1 by omega];rfl
  have hy:(P'++y::x::Q)[j]? =some y:=by
   rw[yan (by omega),show j - P'.length=0 by omega];rfl
  have zW:(P'++y::x::Q).length=j+2+Q.length:=by simp;omega
  have hset:(P'++y::x::Q).set (j+1) y=P'++y::y::Q:=by
   rw[List.set_append_right _ _ (by omega),show j+1 - P'.length=1 by omega];rfl
  have hset2:(P'++y::y::Q).set j x=P'++x::y::Q:=by
   rw[List.set_append_right _ _ (by omega),show j - P'.length=0 by omega];rfl
  have hw:(P'++y::y::Q)[j]? =some y:=by
   rw[yan (by omega),show j - P'.length=0 by omega];rfl
  have hlen2:(P'++y::y::Q).length=j+2+Q.length:=by simp;omega
  have e1:wi (((j+1:Nat):Int) - 1)=(j:Int):=by rw[Z1 (by omega) (by omega)];omega
  obtain⟨z,z1,z2⟩:=ZGB (hk x (by simp)) (hk y (by simp));rw[el]
  have hstep:YP yD ((0:Int),n,(i:Int),((j+1:Nat):Int),u,P'++y::x::Q)=if z < 0 then some (.inl ((0:Int),n,(i:Int),(j:Int),u,P'++x::y::Q)) else some (.inr ((0:Int),n,(i:Int),u,P'++y::x::Q)):=by
   unfold YP;dsimp only;rw[yW (yY (by omega)),e1,yW (YI (by omega) (by omega)),ybq,ybq,hx,ya,yW (YI (by omega) (by omega)),hy,ya,z1,ya];by_cases h0:z < 0
   ·rw[yW (yY h0),yW (YI (by omega) (by omega)),ya,yW (YI (by omega) (by omega)),ya,yW (YI (by omega) (by omega)),ya,hset,yW (YI (by omega) (by omega)),hw,ya,yW h0,hset2]
   ·rw[yX (by rw[yN];exact h0),yX h0]
  unfold Zc;rw[hstep];have hs':=List.pairwise_append.1 hs;by_cases h0:z < 0
  ·rw[yW h0,ya];dsimp only
   rw[ih P' hj f u x (y::Q) (by omega) (by simp;omega) (λe he=>hk e (by
    simp only[ybj,yaz,ycm,or_false] at he ⊢;rcases he with he|he|he|he
    ·exact .inl (.inl he)
    ·exact .inr (.inl he)
    ·exact .inl (.inr he)
    ·exact .inr (.inr he))) hs'.1,ZxA (z2.1 h0)]
   simp
  ·rw[yX h0,ya];dsimp only
   have q:XX (V5 x) (V5 y)=false:=by
    cases q:XX (V5 x) (V5 y) with
    |false=>rfl
    |true=>exact absurd (z2.2 q) h0
   rw[ZEP (n:=36) (λe he=>ZER (hk e (by
    simp only[ybj,yaz,ycm,or_false] at he ⊢;rcases he with he|he|he
    ·exact .inr (.inl he)
    ·exact .inl (.inl he)
    ·exact .inl (.inr he)))) hs q]
   simp
theorem ZB4{α:Type}{l:yL α}{k:Nat}{e:α}(h:l[k]? =some e):l.drop k=e::l.drop (k+1):=by
 obtain⟨h1,h2⟩:=yq.1 h;rw[List.drop_eq_getElem_cons h1,h2]
theorem ZB5(u:yL Unit){l:yL Ze}(hl:l.length<=20)(hk:∀e,e∈l->e.2.2.length=32):YZ yD (0:Int) (l.length:Int) u l=some (u,QZ V5 l):=by
 unfold YZ;rw[show wi ((0:Int)+1)=1 from rfl]
 by_cases h0:l=[]
 ·subst h0
  have e:Zc (ZP yD) yD ((0:Int),(([]:yL Ze).length:Int),(1:Int),u,([]:yL Ze))=some (u,[]):=by
   refine Zz 0 (λk:Nat=>((0:Int),(([]:yL Ze).length:Int),(1:Int),u,([]:yL Ze))) (λk hk=>by omega) ?_ (by omega);unfold ZP;dsimp only;rw[yX (by rw[yN];simp)]
  rw[e,ya];rfl
 have hpos:0 < l.length:=List.length_pos_iff.2 h0
 have e:=Zz (step:=ZP yD) (l.length - 1) (λk:Nat=>((0:Int),(l.length:Int),((k+1:Nat):Int),u,QZ V5 (l.take (k+1))++l.drop (k+1))) (x:=(u,QZ V5 l)) (by
  intro k hk2;obtain⟨x,hx,hm⟩:=Zk (l:=l) (k:=k+1) (by omega);have hL:(QZ V5 (l.take (k+1))).length=k+1:=by rw[ZqT,yag];omega
  have hs:=ZES (l.length:Int) (k+1) (QZ V5 (l.take (k+1))) yD u x (l.drop (k+1+1)) (by rw[ZeX];omega) (by rw[hL,List.length_drop];omega) (by
   intro e he;rcases ybj.1 he with h|h
   ·exact hk e (ybu ((ZEO _).1 h))
   ·rcases yaz.1 h with rfl|h
    ·exact hk _ hm
    ·exact hk e (yct h)) (ZEN _)
  rw[hL] at hs;unfold ZP;dsimp only;rw[yW (yY (by omega)),ZB4 hx,hs,ya];dsimp only;rw[Zt (by omega),QS hx,ZB3]) (by
  unfold ZP;dsimp only;rw[yX (ynd (by omega)),show l.length - 1+1=l.length by omega,yal,List.drop_length,yap]) (by omega)
 have e2:QZ V5 (l.take 1)++l.drop 1=l:=by
  match l,h0 with
  |a::r,_=>rfl
 have e:Zc (ZP yD) yD ((0:Int),(l.length:Int),(1:Int),u,QZ V5 (l.take 1)++l.drop 1)=_:=e;rw[e2] at e;rw[e,ya]
theorem Zzs(u:yL Unit)(l:yL Ze){a b:Int}(h:b<=a)(h0:0<=a)(h1:a<=100):YZ yD a b u l=some (u,l):=by
 unfold YZ;rw[Z1 (z:=a+1) (by omega) (by omega)]
 have e:Zc (ZP yD) yD (a,b,a+1,u,l)=some (u,l):=by
  refine Zz 0 (λk:Nat=>(a,b,a+1,u,l)) (λk hk=>by omega) ?_ (by omega);unfold ZP;dsimp only;rw[yX (ynd (by omega))]
 rw[e,ya]
theorem ZET(u:yL Unit){l:yL Ze}(hl:l.length<=20)(hk:∀e,e∈l->e.2.2.length=32):XN yD u l=some (u,QZ V5 l):=by
 have r1:=ZB5 u hl hk;have hrl:=ZqT (key:=V5) l
 have fin:Zc (Wy yD) yD ((l.length:Int),(20:Int),u,QZ V5 l)=some (u,QZ V5 l):=by
  refine Zz 0 (λk:Nat=>((l.length:Int),(20:Int),u,QZ V5 l)) (λk hk=>by omega) ?_ (by omega);unfold Wy;dsimp only;rw[yX (ynd (by omega))]
 unfold XN Zbc;by_cases h20:l.length=20
 ·have e:Zc (Yt yD) yD ((l.length:Int),(20:Int),(0:Int),(20:Int),u,l)=some ((l.length:Int),(20:Int),(20:Int),u,QZ V5 l):=by
   refine Zz 1 (λk:Nat=>if k=0 then((l.length:Int),(20:Int),(0:Int),(20:Int),u,l) else((l.length:Int),(20:Int),(20:Int),(40:Int),u,QZ V5 l)) ?_ ?_ (by omega)
   ·intro k hk;have:k=0:=by omega
    subst this;rw[yW rfl,yX (by omega)];unfold Yt;dsimp only;rw[h20] at r1;rw[yW (yY (by omega))];rw[show((20:Nat):Int)=20 from rfl] at r1
    rw[r1,ya];dsimp only;rw[yW (by simp[hrl])];rfl
   ·rw[yX (by omega)];unfold Yt;dsimp only;rw[yX (ynd (by omega))]
  rw[e,ya];dsimp only;rw[Zzs u _ (by omega) (by omega) (by omega),ya];dsimp only;rw[fin,ya,ya]
 ·have e:Zc (Yt yD) yD ((l.length:Int),(20:Int),(0:Int),(20:Int),u,l)=some ((l.length:Int),(20:Int),(0:Int),u,l):=by
   refine Zz 0 (λk:Nat=>((l.length:Int),(20:Int),(0:Int),(20:Int),u,l)) (λk hk=>by omega) ?_ (by omega);unfold Yt;dsimp only;rw[yX (ynd (by omega))]
  rw[e,ya];dsimp only;rw[r1,ya];dsimp only;rw[fin,ya,ya]
def Q1(t:Terms)(l:yL Cond):yL Cond:=l.filter λc=>decide (c.2.2.1 >= t.1)
theorem ZqU(t:Terms)(l:yL Cond):(Q1 t l).length<=l.length:=List.length_filter_le _ _
theorem ZEU{t:Terms}{l:yL Cond}{c:Cond}(h:c∈Q1 t l):c∈l:=(List.mem_filter.1 h).1
theorem ZGC{t:Terms}{l:yL Cond}{k:Nat}{c:Cond}(h:l[k]? =some c):Q1 t (l.take (k+1))=Q1 t (l.take k)++(if c.2.2.1 >= t.1 then[c] else[]):=by
 rw[QS h];unfold Q1;rw[List.filter_append];congr 1;by_cases q:c.2.2.1 >= t.1
 ·rw[yW q];simp[q]
 ·rw[yX q];simp;omega
theorem ZxD{ch:Chan}{own:Int}(ho:own=0\/own=1){t:Terms}(ht:ch.2.2.2.1[own.toNat]? =some t){s:yG}(hl:s.2.2.1.length<=20):Xo yD ch s own=some (Q1 t s.2.2.1):=by
 have hb:inB own 2=true:=YI (by omega) (by omega);have hk2:∀k,(Q1 t (s.2.2.1.take k)).length<=20:=λk=>by have:=ZqU t (s.2.2.1.take k);rw[yag] at this;omega
 ·unfold Xo
  have e:=Zz (step:=Xr yD) s.2.2.1.length (λk:Nat=>(own,s.2.2.1,(s.2.2.1.length:Int),(k:Int),ch,s,Q1 t (s.2.2.1.take k))) (x:=(ch,s,Q1 t s.2.2.1)) (by
   intro k hk;obtain⟨c,hc,_⟩:=Zk hk;have:=hk2 k;unfold Xr Ww;dsimp only;rw[yW (ZM hk),Zo hc,ya,yW hb,ht,ya,ya,Zt (by omega),ZGC hc];by_cases q:c.2.2.1 >= t.1
   ·rw[yW (yY q),yW (Yi (by omega) (by omega)),yW q]
   ·rw[yX (by rw[yN];exact q),yX q,yap]) (by
   unfold Xr;dsimp only;rw[yX (by rw[ZH];decide),yal]) (by omega)
  have e:Zc (Xr yD) yD (own,s.2.2.1,(s.2.2.1.length:Int),(0:Int),ch,s,([]:yL Cond))=_:=e;rw[e,ya]
def ZjL(op:Int)(s:yG)(of h:Int)(n:Nat):Int:=if of=op then h - (feeF s.2.2.2 (n:Int)+660) else h
theorem Zvd{r n:Int}:0<=feeF r n/\feeF r n<=196000:=by
 unfold feeF;by_cases h1:0<=r/\r<=1000
 ·rw[yW h1];by_cases h2:0<=n/\n<=16
  ·rw[yW h2];have:=Int.mul_nonneg h1.1 (show 0<=68+8*n by omega);have:=Int.mul_le_mul h1.2 (show 68+8*n<=196 by omega) (by omega) (by omega);omega
  ·rw[yX h2];omega
 ·rw[yX h1];omega
theorem ZAP{ch:Chan}{own of:Int}(ho:own=0\/own=1)(hf:of=0\/of=1){t:Terms}(ht:ch.2.2.2.1[own.toNat]? =some t){s:yG}(hl:s.2.2.1.length<=20){h:Int}(hh:s.2.1[of.toNat]? =some h)(h0:0<=h)(h1:h<=1125899906842624):
 Vo yD ch s own of=some (ZjL ch.2.2.2.2 s of h (Q1 t s.2.2.1).length):=by
 have hb:inB of 2=true:=YI (by omega) (by omega);have hq:=Zvd (r:=s.2.2.2) (n:=((Q1 t s.2.2.1).length:Int));unfold Vo ZjL;rw[yW hb,hh,ya];by_cases e:of=ch.2.2.2.2
 ·rw[yW (beq_iff_eq.2 e),ZxD ho ht hl,ya,ZEI,ya,yW e,Z1 (z:=feeF s.2.2.2 ((Q1 t s.2.2.1).length:Int)+660) (by omega) (by omega),Z1 (by omega) (by omega)]
 ·rw[yX (by rw[yT];exact e),yX e]
noncomputable def mkC(n:Int)(lk:YD)(ro:QH):Ze:=((n,lk),ro,ZEL lk)
def stp(x:Ze):ZeC:=(x.1,x.2.1)
theorem Vr{n:Int}{lk:YD}(h:LockWf lk)(ro:QH)(u:yL Unit){acc:yL Ze}(hl:acc.length<=100):ZG yD n lk ro u acc=some (()::u,acc++[mkC n lk ro]):=by
 unfold ZG;rw[ZGA h,ya,yW (Yi (by omega) (by omega))];rfl
def zcd:Cond:=(0,0,0,0,0)
def Zls(rev late:yU)(d:Int):YD:=[([rev],0,0,0),([late],0,d,0)]
def Zn4(p:yU):YD:=[([p],0,0,0)]
def Zlt(p:yU):YD:=[([p],0,0,0),([],0,16,0)]
def Zf7(own w:Int)(rev ow pe:yU)(c:Cond):YD:=if c.1=own then[([rev],0,0,0),([pe],0,0,c.2.2.2.1),([ow],c.2.2.2.2,w,0)] else[([rev],0,0,0),([ow],0,w,c.2.2.2.1),([pe],c.2.2.2.2,0,0)]
theorem ZGD(a b:yU)(d:Int):LockWf (Zls a b d):=⟨by simp[Zls],λb hb=>by simp[Zls] at hb;rcases hb with rfl|rfl <;> simp⟩
theorem ZAQ(a:yU):LockWf (Zn4 a):=⟨by simp[Zn4],λb hb=>by simp[Zn4] at hb;rw[hb];simp⟩
theorem Zdz(a:yU):LockWf (Zlt a):=⟨by simp[Zlt],λb hb=>by simp[Zlt] at hb;rcases hb with rfl|rfl <;> simp⟩
theorem ZGE(own w:Int)(rev ow pe:yU)(c:Cond):LockWf (Zf7 own w rev ow pe c):=by
 unfold Zf7;split
 ·exact⟨by simp,λb hb=>by simp at hb;rcases hb with rfl|rfl|rfl <;> simp⟩
 ·exact⟨by simp,λb hb=>by simp at hb;rcases hb with rfl|rfl|rfl <;> simp⟩
noncomputable def ZqV(own w:Int)(rev ow pe:yU)(c:Cond):Ze:=mkC c.2.2.1 (Zf7 own w rev ow pe c) ((if c.1=own then 5 else 6),c)
def ZxE(ch:Chan)(s:yG)(own:Int)(l:yL ZeC):Commit:=(([(ch.1,(0,[],0))],l.map (·.1),wi (wi (2*s.1)+own)),l.map (·.2))
theorem ZEV{own w:Int}{rev ow pe:yU}{l:yL Cond}(hl:l.length<=16)(ch:Chan)(s:yG){acc:yL Ze}(hb:acc.length<=4)(ha:∀e,e∈acc->e.2.2.length=32)(u:yL Unit):
 ((Zc (Yr yD) yD (own,w,rev,ow,pe,l,(l.length:Int),(0:Int),ch,s,((([]:yL In),([]:yL Out),(0:Int)),([]:yL QH)),u,acc)).bind λo723=>
      (XN yD o723.2.2.2.2.1 o723.2.2.2.2.2).bind λo724=>
      if(decide (o723.2.2.2.2.1.length=o724.1.length)&&(decide (40=40)&&decide ((List.replicate o723.2.2.2.2.2.length ()).length=o724.2.length)))=true then
       (Zc (YR yD) yD ((o724.2.length:Int),(0:Int),o723.2.1,o723.2.2.1,o723.2.2.2.1,o724.1,o724.2,([(o723.2.1.1,(0,[],0))]:yL In),wi ((wi (2*o723.2.2.1.1))+o723.1),([]:yL QH),([]:yL Out))).bind λo725=>
       some (((o725.2.2.2.2.2.1,o725.2.2.2.2.2.2.2.2,o725.2.2.2.2.2.2.1),o725.2.2.2.2.2.2.2.1),(0:Int))
      else
      none)=some (ZxE ch s own ((QZ V5 (acc++l.map (ZqV own w rev ow pe))).map stp),0):=by
 obtain⟨x,g1,u1,rfl⟩:=QR (step:=Yr yD) l.length (λk q=>∃u1,q=(own,w,rev,ow,pe,l,(l.length:Int),(k:Int),ch,s,((([]:yL In),([]:yL Out),(0:Int)),([]:yL QH)),u1,acc++(l.take k).map (ZqV own w rev ow pe)))
  (λx=>∃u1,x=(own,ch,s,((([]:yL In),([]:yL Out),(0:Int)),([]:yL QH)),u1,acc++l.map (ZqV own w rev ow pe))) (i:=(own,w,rev,ow,pe,l,(l.length:Int),(0:Int),ch,s,((([]:yL In),([]:yL Out),(0:Int)),([]:yL QH)),u,acc)) ⟨u,by simp⟩ (by omega) (by
  rintro k _ hk ⟨u1,rfl⟩;left;obtain⟨e,he,hm⟩:=Zk hk
  have hal:(acc++(l.take k).map (ZqV own w rev ow pe)).length<=100:=by
   rw[yo,yy,yag];omega
  have hlk:=ZGE own w rev ow pe e;unfold Yr;dsimp only;rw[yW (ZM hk),Zo he,ya,Zt (by omega),QS he,yai];by_cases hf:e.1=own
  ·have e1:Zf7 own w rev ow pe e=[([rev],0,0,0),([pe],0,0,e.2.2.2.1),([ow],e.2.2.2.2,w,0)]:=by unfold Zf7;rw[yW hf]
   have e2:ZqV own w rev ow pe e=mkC e.2.2.1 (Zf7 own w rev ow pe e) (5,e):=by unfold ZqV;rw[yW hf]
   rw[e1] at hlk e2;rw[yW (by rw[hf];exact beq_self_eq_true _),Vr hlk ((5:Int),e) u1 hal,ya,yad,List.map_nil,e2,yac];exact⟨_,rfl,_,rfl⟩
  ·have e1:Zf7 own w rev ow pe e=[([rev],0,0,0),([ow],0,w,e.2.2.2.1),([pe],e.2.2.2.2,0,0)]:=by unfold Zf7;rw[yX hf]
   have e2:ZqV own w rev ow pe e=mkC e.2.2.1 (Zf7 own w rev ow pe e) (6,e):=by unfold ZqV;rw[yX hf]
   rw[e1] at hlk e2;rw[yX (by rw[yT];exact hf),Vr hlk ((6:Int),e) u1 hal,ya,yad,List.map_nil,e2,yac];exact⟨_,rfl,_,rfl⟩) (by
  rintro _ ⟨u1,rfl⟩;unfold Yr;dsimp only;rw[yX (by rw[ZH];decide),yal];exact⟨_,rfl,_,rfl⟩)
 rw[g1,ya];unfold ZxE;dsimp only;generalize ha1:acc++l.map (ZqV own w rev ow pe)=a1
 have hal:a1.length<=20:=by
  rw[<-ha1,yo,yy];omega
 have hkk:∀e,e∈a1->e.2.2.length=32:=by
  intro e he;rw[<-ha1] at he;rcases ybj.1 he with h|h
  ·exact ha e h
  ·obtain⟨c,_,rfl⟩:=ybn.1 h;exact Zxx _
 have hrl:=ZqT (key:=V5) a1;rw[ZET u1 hal hkk,ya];dsimp only;rw[yW (by simp[hrl])];generalize QZ V5 a1=r at hrl;generalize wi (wi (2*s.1)+own)=nt;generalize hz:((([]:yL In),([]:yL Out),(0:Int)),([]:yL QH))=z
 rw[show((r.length:Int),(0:Int),ch,s,z,u1,r,([(ch.1,(0,[],0))]:yL In),nt,([]:yL QH),([]:yL Out))=(λk:Nat=>((r.length:Int),(k:Int),ch,s,z,u1,r,([(ch.1,(0,[],0))]:yL In),nt,(r.take k).map (λx:Ze=>x.2.1),(r.take k).map (λx:Ze=>x.1))) 0 from rfl,
  Zz (x:=(ch,s,z,u1,r,([(ch.1,(0,[],0))]:yL In),nt,r.map (λx:Ze=>x.2.1),r.map (λx:Ze=>x.1))) r.length (λk:Nat=>((r.length:Int),(k:Int),ch,s,z,u1,r,([(ch.1,(0,[],0))]:yL In),nt,(r.take k).map (λx:Ze=>x.2.1),(r.take k).map (λx:Ze=>x.1))) ?_ ?_ (by omega),ya]
 ·rw[yas,yas];rfl
 ·intro k hk;obtain⟨e,he,hm⟩:=Zk hk;unfold YR;dsimp only;rw[yW (ZM hk),yW (YI (by omega) (by omega)),ybq,he,ya,Zt (by omega),QS he,yW (Yi (by simp;omega) (by simp;omega)),yW (Yi (by simp;omega) (by simp;omega)),yai,yai];rfl
 ·unfold YR;dsimp only;rw[yX (by rw[ZH];decide),yal]
theorem ZGF(p:yU):Zeb yD p=some (Zn4 p):=by
 unfold Zeb ZlW Ws;rw[yW (Yi (by simp) (by simp)),ya,ya];rfl
noncomputable def itm(own:Int)(per:yU)(bo bp:Basics)(to tp:Terms)(a b:Int)(l:yL Cond):yL Ze:=
 ((if a >= to.1 then[mkC a (Zls (revF bp.2.2.2.2 per) (mixF bo.2.2.1 per) tp.2.2.1) (1,zcd)] else[])++(if b >= to.1 then[mkC b (Zn4 bp.2.1) (2,zcd)] else[])++[mkC 330 (Zlt bo.1) (3,zcd),mkC 330 (Zlt bp.1) (4,zcd)])++l.map (ZqV own tp.2.2.1 (revF bp.2.2.2.2 per) (mixF bo.2.2.2.1 per) (mixF bp.2.2.2.1 per))
structure Sd(ch:Chan)(s:yG)(own:Int)(bo bp:Basics)(to tp:Terms)(hO hP:Int):Prop where
 o:own=0\/own=1
 bO:ch.2.2.1[own.toNat]? =some bo
 bP:ch.2.2.1[(1 - own).toNat]? =some bp
 tO:ch.2.2.2.1[own.toNat]? =some to
 tP:ch.2.2.2.1[(1 - own).toNat]? =some tp
 vO:s.2.1[own.toNat]? =some hO
 vP:s.2.1[(1 - own).toNat]? =some hP
 o0:0<=hO
 o1:hO<=1125899906842624
 p0:0<=hP
 p1:hP<=1125899906842624
theorem Sd.all{ch:Chan}{s:yG}(w:ChWf ch)(r:StR ch s){own:Int}(ho:own=0\/own=1):∃bo bp to tp hO hP,Sd ch s own bo bp to tp hO hP:=by
 obtain⟨b0,b1,hb⟩:=Zlp w.b;obtain⟨t0,t1,ht⟩:=Zlp w.t;obtain⟨a,b,hs,h1,h2,_⟩:=r.have_;rcases ho with rfl|rfl
 ·exact⟨b0,b1,t0,t1,a,b,.inl rfl,by rw[hb];rfl,by rw[hb];rfl,by rw[ht];rfl,by rw[ht];rfl,by rw[hs];rfl,by rw[hs];rfl,h1.1,h1.2,h2.1,h2.2⟩
 ·exact⟨b1,b0,t1,t0,b,a,.inr rfl,by rw[hb];rfl,by rw[hb];rfl,by rw[ht];rfl,by rw[ht];rfl,by rw[hs];rfl,by rw[hs];rfl,h2.1,h2.2,h1.1,h1.2⟩
noncomputable def ZqW(ch:Chan)(s:yG)(own:Int)(per:yU)(bo bp:Basics)(to tp:Terms)(hO hP:Int):yL Ze:=
 itm own per bo bp to tp (ZjL ch.2.2.2.2 s own hO (Q1 to s.2.2.1).length) (ZjL ch.2.2.2.2 s (1 - own) hP (Q1 to s.2.2.1).length) (Q1 to s.2.2.1)
theorem ZEW{ch:Chan}{s:yG}{own:Int}{per:yU}(hr:QE yD ch s=some true)(r:StR ch s)(hp:IsPt per.toNat){bo bp:Basics}{to tp:Terms}{hO hP:Int}(d:Sd ch s own bo bp to tp hO hP):
 XO yD ch s own per=some (ZxE ch s own ((QZ V5 (ZqW ch s own per bo bp to tp hO hP)).map stp),0):=by
 have hown:=d.o
 have hside:Vj yD own=some true:=by
  unfold Vj;rcases hown with rfl|rfl <;> rfl
 have hpeer:wi (1 - own)=1 - own:=Z1 (by omega) (by omega);have q1:inB (1 - own) 2=true:=YI (by omega) (by omega);have q2:inB own 2=true:=YI (by omega) (by omega);have hl20:s.2.2.1.length<=20:=by have:=r.len;omega
 have hrO:=ZAP hown hown d.tO hl20 d.vO d.o0 d.o1;have hrP:=ZAP hown (of:=1 - own) (by omega) d.tO hl20 d.vP d.p0 d.p1;have hsh:=ZxD hown d.tO hl20;unfold ZqW;generalize ZjL ch.2.2.2.2 s own hO (Q1 to s.2.2.1).length=a at*;generalize ZjL ch.2.2.2.2 s (1 - own) hP (Q1 to s.2.2.1).length=b at*;have hl16:(Q1 to s.2.2.1).length<=16:=yby (ZqU _ _) r.len;have tl:=λ{acc:yL Ze}(hb:acc.length<=4)(ha:∀e,e∈acc->e.2.2.length=32)(u:yL Unit)=>ZEV (own:=own) (w:=tp.2.2.1) (rev:=revF bp.2.2.2.2 per) (ow:=mixF bo.2.2.2.1 per) (pe:=mixF bp.2.2.2.1 per) hl16 ch s hb ha u;have s1:∀z:Int,Ww yD to z=some (decide (z >= to.1)):=λz=>rfl;have lateIs:∀x y:yU,Zjt yD x y tp.2.2.1=some (Zls y x tp.2.2.1):=λ_ _=>rfl;have ancIs:∀x:yU,Y5 yD x=some (Zlt x):=λ_=>rfl;have lens:∀(n:Int)(lk:YD)(ro:QH),(mkC n lk ro).2.2.length=32:=λn lk ro=>Zxx lk;unfold XO itm;rw[hside,ya,yX (show¬(!true)=true by decide),Za0,ya,yY hp,yX (show¬(!true)=true by decide),hr,ya,yX (show¬(!true)=true by decide)];rw[show((0:Int),(0:Int),(0:Int),(0:yU),(0:Int))=zcd from rfl]
 simp only[hpeer,q1,q2,if_true,d.bO,d.bP,d.tO,d.tP,ya,ZB0,ZII,hrO,hrP,s1,lateIs,ancIs,ZGF,hsh];have lt:=λx y=>ZGD x y tp.2.2.1;by_cases ha:a >= to.1
 ·rw[yW (yY ha),yW ha];simp only[Vr (lt _ _) ((1:Int),zcd) [] (acc:=[]) (by simp),ya];by_cases hb:b >= to.1
  ·rw[yW (yY hb),yW hb];rw[Vr (ZAQ _) _ _ (by simp),ya];dsimp only;rw[Vr (Zdz _) _ _ (by simp),ya];dsimp only;rw[Vr (Zdz _) _ _ (by simp),ya];dsimp only;refine Eq.trans (tl ?_ ?_ _) ?_
   ·simp
   ·intro e he;simp only[ybj,yaz,ycm,or_false,false_or] at he;rcases he with((rfl|rfl)|rfl)|rfl <;> exact lens _ _ _
   ·simp
  ·rw[yX (by rw[yN];exact hb),yX hb];rw[Vr (Zdz _) _ _ (by simp),ya];dsimp only;rw[Vr (Zdz _) _ _ (by simp),ya];dsimp only;refine Eq.trans (tl ?_ ?_ _) ?_
   ·simp
   ·intro e he;simp only[ybj,yaz,ycm,or_false,false_or] at he;rcases he with(rfl|rfl)|rfl <;> exact lens _ _ _
   ·simp
 ·rw[yX (by rw[yN];exact ha),yX ha];by_cases hb:b >= to.1
  ·rw[yW (yY hb),yW hb];rw[Vr (ZAQ _) _ _ (by simp),ya];dsimp only;rw[Vr (Zdz _) _ _ (by simp),ya];dsimp only;rw[Vr (Zdz _) _ _ (by simp),ya];dsimp only;refine Eq.trans (tl ?_ ?_ _) ?_
   ·simp
   ·intro e he;simp only[ybj,yaz,ycm,or_false,false_or] at he;rcases he with(rfl|rfl)|rfl <;> exact lens _ _ _
   ·simp
  ·rw[yX (by rw[yN];exact hb),yX hb];rw[Vr (Zdz _) _ _ (by simp),ya];dsimp only;rw[Vr (Zdz _) _ _ (by simp),ya];dsimp only;refine Eq.trans (tl ?_ ?_ _) ?_
   ·simp
   ·intro e he;simp only[ybj,yaz,ycm,or_false,false_or] at he;rcases he with rfl|rfl <;> exact lens _ _ _
   ·simp
theorem Zve{own:Int}:Vj yD own=some (decide (own=0\/own=1)):=by
 unfold Vj;by_cases h:own=0
 ·rw[yW (beq_iff_eq.2 h),yY (p:=own=0\/own=1) (.inl h)]
 ·rw[yX (by rw[yT];exact h)];by_cases h1:own=1
  ·rw[yY (p:=own=0\/own=1) (.inr h1),h1];rfl
  ·rw[yZ (p:=own=0\/own=1) (by omega)];exact congrArg some (by simpa using h1)
def KO(own w:Int)(rev late ow pe:yU)(lk:YD)(ro:QH):Prop:=
 (ro.1=1/\lk=Zls rev late w)\/(ro.1=2\/ro.1=3\/ro.1=4)\/((ro.1=5/\ro.2.1=own\/ro.1=6/\ro.2.1=1 - own)/\lk=Zf7 own w rev ow pe ro.2/\Zlo ro.2.2.2.2.1/\1<=ro.2.2.2.2.2/\ro.2.2.2.2.2<=1048576)
theorem Zs6{α:Type}{key:α->yL Int}{x:α}:∀l:yL α,(Vq key x l).Perm (x::l)
 |[]=>.refl _
 |y::r=>by
  unfold Vq;split
  ·exact .refl _
  ·exact((Zs6 r).cons y).trans (.swap _ _ _)
theorem ZB6{α:Type}{key:α->yL Int}(l:yL α):(QZ key l).Perm l:=by
 unfold QZ
 have h:∀(l acc:yL α),(l.foldl (λacc x=>Vq key x acc) acc).Perm (acc++l):=by
  intro l
  induction l with
  |nil=>intro acc;rw[yap];exact .refl _
  |cons x r ih=>
   intro acc;exact(ih (Vq key x acc)).trans (((Zs6 acc).append_right r).trans List.perm_middle.symm)
 exact h l []
theorem ZEX{l m:yL Int}(h:l.Perm m):l.sum=m.sum:=by
 induction h with
 |nil=>rfl
 |cons x _ ih=>rw[List.sum_cons,List.sum_cons,ih]
 |swap x y l=>rw[List.sum_cons,List.sum_cons,List.sum_cons,List.sum_cons];omega
 |trans _ _ h1 h2=>exact h1.trans h2
def ZjM(l:yL Cond):Int:=(l.map λc=>c.2.2.1).sum
theorem ZGG{l:yL Cond}(h:∀c,c∈l->0<=c.2.2.1/\c.2.2.1<=1125899906842624):0<=ZjM l/\ZjM l<=l.length*1125899906842624:=by
 induction l with
 |nil=>simp[ZjM]
 |cons c r ih=>
  have h1:=h c (yam ..);have h2:=ih λx hx=>h x (yao _ hx);unfold ZjM at h2 ⊢;rw[yad,List.sum_cons,yaf];omega
theorem ZxF{l:yL Cond}(p:Cond->Bool)(h:∀c,c∈l->0<=c.2.2.1/\c.2.2.1<=1125899906842624):ZjM (l.filter p)<=ZjM l:=by
 induction l with
 |nil=>exact Int.le_refl _
 |cons c r ih=>
  have h1:=h c (yam ..);have h2:=ih λx hx=>h x (yao _ hx);unfold ZjM at h2 ⊢;rw[yad,List.sum_cons,List.filter_cons];split
  ·rw[yad,List.sum_cons];omega
  ·omega
theorem ZAR:∀(l:yL Cond)(z:Int),(∀c,c∈l->0<=c.2.2.1/\c.2.2.1<=1125899906842624)->0<=z->z+l.length*1125899906842624<=9223372036854775807->totF z l=z+ZjM l
 |[],z,_,_,_=>by simp[totF,ZjM]
 |c::r,z,h,h0,h1=>by
  have hc:=h c (yam ..);rw[yaf] at h1
  have e:ZEG z c=z+c.2.2.1:=by
   unfold ZEG;exact Z1 (by omega) (by omega)
  show totF (ZEG z c) r=_;rw[e,ZAR r (z+c.2.2.1) (λx hx=>h x (yao _ hx)) (by omega) (by omega)];unfold ZjM;rw[yad,List.sum_cons];omega
theorem ZEY{r:Int}{n m:Nat}(h0:0<=r)(h1:r<=1000)(h:n<=m)(hm:m<=16):feeF r (n:Int)<=feeF r (m:Int):=by
 unfold feeF;rw[yW ⟨h0,h1⟩,yW ⟨by omega,by omega⟩,yW ⟨h0,h1⟩,yW ⟨by omega,by omega⟩];exact Int.mul_le_mul_of_nonneg_left (by omega) h0
structure CmC(ch:Chan)(own:Int)(per:UInt64)(c:Commit):Prop where
 ins:c.1.1=[(ch.1,(0,[],0))]
 fund:0<=ch.1.2/\ch.1.2<=63
 same:c.2.length=c.1.2.1.length
 outs:c.1.2.1.length<=20
 note:0<=c.1.2.2/\c.1.2.2<=9223372036854775807
 ok:∀o,o∈c.1.2.1->OutOk o
 amt:amts c.1.2.1<=1125899906842624
 o:own=0\/own=1
 pt:IsPt per.toNat
 ex:∃bo bp tp,ch.2.2.1[own.toNat]? =some bo/\ch.2.2.1[(1 - own).toNat]? =some bp/\TermOk tp/\∀(k:Nat)ou ro,c.1.2.1[k]? =some ou->c.2[k]? =some ro->
  KO own tp.2.2.1 (revF bp.2.2.2.2 per) (mixF bo.2.2.1 per) (mixF bo.2.2.2.1 per) (mixF bp.2.2.2.1 per) ou.2 ro
theorem ZIK{a b:yU}{d:Int}(h0:0<=d)(h1:d<=4096)(ha:IsPt a.toNat)(hb:IsPt b.toNat):Wb (Zls a b d)/\Ve (Zls a b d):=by
 refine⟨⟨by simp[Zls],by simp[Zls],λe he=> ?_⟩,λe he=> ?_⟩
 ·simp[Zls] at he;rcases he with rfl|rfl <;> exact⟨by simp,by simp,by simp,by simp<;> omega,by simp<;> omega⟩
 ·simp[Zls] at he;rcases he with rfl|rfl
  ·exact⟨λp hp=>by simp at hp;rw[hp];exact ha,λh=>absurd rfl h⟩
  ·exact⟨λp hp=>by simp at hp;rw[hp];exact hb,λh=>absurd rfl h⟩
theorem ZIL{p:yU}(h:IsPt p.toNat):Wb (Zn4 p)/\Ve (Zn4 p):=by
 refine⟨⟨by simp[Zn4],by simp[Zn4],λe he=> ?_⟩,λe he=> ?_⟩
 ·simp[Zn4] at he;rw[he];exact⟨by simp,by simp,by simp,by simp,by simp⟩
 ·simp[Zn4] at he;rw[he];exact⟨λq hq=>by simp at hq;rw[hq];exact h,λh=>absurd rfl h⟩
theorem ZEZ{p:yU}(h:IsPt p.toNat):Wb (Zlt p)/\Ve (Zlt p):=by
 refine⟨⟨by simp[Zlt],by simp[Zlt],λe he=> ?_⟩,λe he=> ?_⟩
 ·simp[Zlt] at he;rcases he with rfl|rfl <;> exact⟨by simp,by simp,by simp,by simp,by simp⟩
 ·simp[Zlt] at he;rcases he with rfl|rfl
  ·exact⟨λq hq=>by simp at hq;rw[hq];exact h,λh=>absurd rfl h⟩
  ·exact⟨λq hq=>by simp at hq,λh=>absurd rfl h⟩
theorem ZIM{own w:Int}{rev ow pe:yU}{c:Cond}(h0:0<=w)(h1:w<=4096)(hr:IsPt rev.toNat)(ho:IsPt ow.toNat)(hp:IsPt pe.toNat)(hc:IsPt c.2.2.2.1.toNat)(e0:1<=c.2.2.2.2)(e1:c.2.2.2.2<=1048576):
 Wb (Zf7 own w rev ow pe c)/\Ve (Zf7 own w rev ow pe c):=by
 unfold Zf7;split
 ·refine⟨⟨by simp,by simp,λe he=> ?_⟩,λe he=> ?_⟩
  ·simp at he;rcases he with rfl|rfl|rfl <;> exact⟨by simp,by simp<;> omega,by simp<;> omega,by simp<;> omega,by simp<;> omega⟩
  ·simp at he;rcases he with rfl|rfl|rfl
   ·exact⟨λq hq=>by simp at hq;rw[hq];exact hr,λh=>absurd rfl h⟩
   ·exact⟨λq hq=>by simp at hq;rw[hq];exact hp,λ_=>hc⟩
   ·exact⟨λq hq=>by simp at hq;rw[hq];exact ho,λh=>absurd rfl h⟩
 ·refine⟨⟨by simp,by simp,λe he=> ?_⟩,λe he=> ?_⟩
  ·simp at he;rcases he with rfl|rfl|rfl <;> exact⟨by simp,by simp<;> omega,by simp<;> omega,by simp<;> omega,by simp<;> omega⟩
  ·simp at he;rcases he with rfl|rfl|rfl
   ·exact⟨λq hq=>by simp at hq;rw[hq];exact hr,λh=>absurd rfl h⟩
   ·exact⟨λq hq=>by simp at hq;rw[hq];exact ho,λ_=>hc⟩
   ·exact⟨λq hq=>by simp at hq;rw[hq];exact hp,λh=>absurd rfl h⟩
def ZJv(own w:Int)(rev late ow pe:yU)(x:Ze):Prop:=OutOk x.1/\KO own w rev late ow pe x.1.2 x.2.1
theorem ZE0{ch:Chan}{s:yG}(r:StR ch s):∀c,c∈s.2.2.1->ZqP c:=λc hc=>by
 obtain⟨k,hk⟩:=List.getElem?_of_mem hc;exact(r.conds k (yq.1 hk).1 c hk).1
theorem ZIN{own:Int}{per:yU}{bo bp:Basics}{to tp:Terms}{a b:Int}{l:yL Cond}(ho:own=0\/own=1)(hd:TermOk tp)(hbo:Qf bo)(hbp:Qf bp)(ha:0<=a/\a<=1125899906842624)(hb:0<=b/\b<=1125899906842624)(hl:∀c,c∈l->ZqP c):
 ∀x,x∈itm own per bo bp to tp a b l->ZJv own tp.2.2.1 (revF bp.2.2.2.2 per) (mixF bo.2.2.1 per) (mixF bo.2.2.2.1 per) (mixF bp.2.2.2.1 per) x:=by
 intro x hx
 have d0:0<=tp.2.2.1/\tp.2.2.1<=4096:=by
  obtain⟨_,h,_⟩:=hd;omega
 unfold itm at hx;rcases ybj.1 hx with hx|hx
 ·rcases ybj.1 hx with hx|hx
  ·rcases ybj.1 hx with hx|hx
   ·split at hx
    ·rw[yaq.1 hx];obtain⟨q1,q2⟩:=ZIK d0.1 d0.2 (ZAN bp.2.2.2.2 per) (Zvc bo.2.2.1 per);exact⟨⟨ha.1,ha.2,q1,q2⟩,.inl ⟨rfl,rfl⟩⟩
    ·cases hx
   ·split at hx
    ·rw[yaq.1 hx];obtain⟨q1,q2⟩:=ZIL (hbp bp.2.1 (by simp[pts])).1;exact⟨⟨hb.1,hb.2,q1,q2⟩,.inr (.inl (.inl rfl))⟩
    ·cases hx
  ·simp only[yaz,ycm,or_false] at hx;rcases hx with rfl|rfl
   ·obtain⟨q1,q2⟩:=ZEZ (hbo bo.1 (by simp[pts])).1;exact⟨⟨show(0:Int)<=330 by decide,show(330:Int)<=1125899906842624 by decide,q1,q2⟩,.inr (.inl (.inr (.inl rfl)))⟩
   ·obtain⟨q1,q2⟩:=ZEZ (hbp bp.1 (by simp[pts])).1;exact⟨⟨show(0:Int)<=330 by decide,show(330:Int)<=1125899906842624 by decide,q1,q2⟩,.inr (.inl (.inr (.inr rfl)))⟩
 ·obtain⟨c,hc,rfl⟩:=ybn.1 hx;obtain⟨f1,f2,f3,f4,f5⟩:=hl c hc;obtain⟨q1,q2⟩:=ZIM (own:=own) d0.1 d0.2 (ZAN bp.2.2.2.2 per) (Zvc bo.2.2.2.1 per) (Zvc bp.2.2.2.1 per) (c:=c) f5.1 f4.1 f4.2;refine⟨⟨by show 0<=c.2.2.1;omega,f3.2,q1,q2⟩,.inr (.inr ⟨?_,rfl,f5,f4.1,f4.2⟩)⟩;by_cases h:c.1=own
  ·left;exact⟨by show(if c.1=own then(5:Int) else 6)=5;rw[yW h],h⟩
  ·right;exact⟨by show(if c.1=own then(5:Int) else 6)=6;rw[yX h],by show c.1=1 - own;omega⟩
theorem ZGH{own:Int}{per:yU}{bo bp:Basics}{to tp:Terms}{a b:Int}{l:yL Cond}(ha:0<=a)(hb:0<=b):((itm own per bo bp to tp a b l).map λx=>x.1.1).sum<=a+b+660+ZjM l:=by
 have e:((l.map (ZqV own tp.2.2.1 (revF bp.2.2.2.2 per) (mixF bo.2.2.2.1 per) (mixF bp.2.2.2.1 per))).map λx=>x.1.1).sum=ZjM l:=by
  rw[yas];rfl
 unfold itm;rw[yai,yai,yai,List.sum_append,List.sum_append,List.sum_append,e]
 have h1:(List.map (λx:Ze=>x.1.1) (if a >= to.1 then[mkC a (Zls (revF bp.2.2.2.2 per) (mixF bo.2.2.1 per) tp.2.2.1) (1,zcd)] else[])).sum<=a:=by
  split
  ·simp[mkC]
  ·simpa using ha
 have h2:(List.map (λx:Ze=>x.1.1) (if b >= to.1 then[mkC b (Zn4 bp.2.1) (2,zcd)] else[])).sum<=b:=by
  split
  ·simp[mkC]
  ·simpa using hb
 have h3:(List.map (λx:Ze=>x.1.1) [mkC 330 (Zlt bo.1) (3,zcd),mkC 330 (Zlt bp.1) (4,zcd)]).sum=660:=by simp[mkC]
 omega
theorem ZGI{own:Int}{per:yU}{bo bp:Basics}{to tp:Terms}{a b:Int}{l:yL Cond}(hl:l.length<=16):(itm own per bo bp to tp a b l).length<=20:=by
 unfold itm;by_cases h1:a >= to.1
 ·by_cases h2:b >= to.1
  ·rw[yW h1,yW h2];simp;omega
  ·rw[yW h1,yX h2];simp;omega
 ·by_cases h2:b >= to.1
  ·rw[yX h1,yW h2];simp;omega
  ·rw[yX h1,yX h2];simp;omega
def noC:Commit:=(([],[],0),[])
theorem ZGJ{ch:Chan}(w:ChWf ch){s:yG}(hs:s.2.1.length=2)(own:Int)(per:yU):
 ∃c e,XO yD ch s own per=some (c,e)/\(e=0->CmC ch own per c):=by
 obtain⟨rb,r1,r3⟩:=ZEJ w hs;by_cases ho:own=0\/own=1
 ·by_cases hp:IsPt per.toNat
  ·cases rb with
   |true=>
    have r:=r3 rfl;obtain⟨bo,bp,to,tp,hO,hP,d⟩:=Sd.all w r ho;refine⟨_,_,ZEW r1 r hp d,λ_=> ?_⟩
    have hside:TermOk to/\Qf bo/\TermOk tp/\Qf bp:=by
     have q1:=r.side own.toNat (by omega) to bo d.tO d.bO;have q2:=r.side (1 - own).toNat (by omega) tp bp d.tP d.bP;exact⟨q1.1,q1.2,q2.1,q2.2⟩
    have hfine:=ZE0 r
    have hamt:∀c,c∈s.2.2.1->0<=c.2.2.1/\c.2.2.1<=1125899906842624:=λc hc=>by
     obtain⟨_,_,h,_⟩:=hfine c hc;omega
    have zW:=r.len;have hshl:=ZqU to s.2.2.1;have hq:=Zvd (r:=s.2.2.2) (n:=((Q1 to s.2.2.1).length:Int));have hqa:=Zvd (r:=s.2.2.2) (n:=(s.2.2.1.length:Int));have hmono:=ZEY (n:=(Q1 to s.2.2.1).length) (m:=s.2.2.1.length) r.rate.1 r.rate.2 hshl zW;have hc:=ZGG hamt;have hcf:ZjM (Q1 to s.2.2.1)<=ZjM s.2.2.1:=ZxF _ hamt;obtain⟨p,q,e0,e1,e2,e3,e4,e5⟩:=r.have_;have hcost:wi (feeF s.2.2.2 (s.2.2.1.length:Int)+660)=feeF s.2.2.2 (s.2.2.1.length:Int)+660:=Z1 (by omega) (by omega);rw[hcost] at e4 e5;rw[Z1 (z:=p+q) (by omega) (by omega),ZAR _ _ hamt (by omega) (by omega)] at e3
    have hboth:hO+hP+ZjM s.2.2.1=ch.2.1/\(ch.2.2.2.2=own->hO >= feeF s.2.2.2 (s.2.2.1.length:Int)+660)/\(ch.2.2.2.2=1 - own->hP >= feeF s.2.2.2 (s.2.2.1.length:Int)+660):=by
     have v1:=d.vO;have v2:=d.vP;rw[e0] at v1 v2;rcases ho with rfl|rfl
     ·cases v1;cases v2;exact⟨e3,e4,e5⟩
     ·cases v1;cases v2;exact⟨by omega,e5,e4⟩
    obtain⟨b1,b2,b3⟩:=hboth;have am:=r.am;have o0:=d.o0;have p0:=d.p0;have o1:=d.o1;have p1:=d.p1
    have hA:0<=ZjL ch.2.2.2.2 s own hO (Q1 to s.2.2.1).length/\ZjL ch.2.2.2.2 s own hO (Q1 to s.2.2.1).length<=1125899906842624:=by
     unfold ZjL;split
     ·rename_i h;have:=b2 h.symm;omega
     ·omega
    have hB:0<=ZjL ch.2.2.2.2 s (1 - own) hP (Q1 to s.2.2.1).length/\ZjL ch.2.2.2.2 s (1 - own) hP (Q1 to s.2.2.1).length<=1125899906842624:=by
     unfold ZjL;split
     ·rename_i h;have:=b3 h.symm;omega
     ·omega
    have hAB:ZjL ch.2.2.2.2 s own hO (Q1 to s.2.2.1).length+ZjL ch.2.2.2.2 s (1 - own) hP (Q1 to s.2.2.1).length+660<=hO+hP:=by
     have hop:=r.op;unfold ZjL;by_cases h:own=ch.2.2.2.2
     ·rw[yW h,yX (by omega)];omega
     ·rw[yX h,yW (by omega)];omega
    have hitm:∀x,x∈ZqW ch s own per bo bp to tp hO hP->ZJv own tp.2.2.1 (revF bp.2.2.2.2 per) (mixF bo.2.2.1 per) (mixF bo.2.2.2.1 per) (mixF bp.2.2.2.1 per) x:=
     ZIN ho hside.2.2.1 hside.2.1 hside.2.2.2 hA hB λc hc=>hfine c (ZEU hc)
    have hperm:(QZ V5 (ZqW ch s own per bo bp to tp hO hP)).Perm (ZqW ch s own per bo bp to tp hO hP):=ZB6 _;generalize hL:QZ V5 (ZqW ch s own per bo bp to tp hO hP)=L at hperm;have hno:=r.no
    have hnote:wi (wi (2*s.1)+own)=2*s.1+own:=by
     rw[Z1 (z:=2*s.1) (by omega) (by omega),Z1 (by omega) (by omega)]
    refine⟨rfl,r.at_, ?_, ?_, ?_, ?_, ?_,ho,hp,bo,bp,tp,d.bO,d.bP,hside.2.2.1, ?_⟩
    ·unfold ZxE;dsimp only;rw[yy,yy,yy,yy]
    ·unfold ZxE;dsimp only;rw[yy,yy,hperm.length_eq];exact ZGI (yby hshl zW)
    ·show 0<=wi (wi (2*s.1)+own)/\wi (wi (2*s.1)+own)<=9223372036854775807;rw[hnote];omega
    ·intro o h;unfold ZxE at h;dsimp only at h;rw[yas] at h;obtain⟨x,hx,rfl⟩:=ybn.1 h;exact(hitm x (hperm.mem_iff.1 hx)).1
    ·unfold amts ZxE;dsimp only;rw[yas,yas];show(L.map λx=>x.1.1).sum<=_;rw[ZEX (hperm.map _)];have:=ZGH (own:=own) (per:=per) (bo:=bo) (bp:=bp) (to:=to) (tp:=tp) (l:=Q1 to s.2.2.1) hA.1 hB.1;unfold ZqW;omega
    ·intro k ou ro h1 h2;unfold ZxE at h1 h2;dsimp only at h1 h2;rw[yas,List.getElem?_map] at h1 h2;obtain⟨x,hx,rfl⟩:=Option.map_eq_some_iff.1 h1;rw[hx] at h2;cases h2
     exact(hitm x (hperm.mem_iff.1 (List.mem_of_getElem? hx))).2
   |false=>
    refine⟨noC,14, ?_,λh=>absurd h (by decide)⟩;unfold XO;rw[Zve,ya,yY ho,yX (show¬(!true)=true by decide),Za0,ya,yY hp,yX (show¬(!true)=true by decide),r1,ya,yW (show(!false)=true by decide)];rfl
  ·refine⟨noC,1, ?_,λh=>absurd h (by decide)⟩;unfold XO;rw[Zve,ya,yY ho,yX (show¬(!true)=true by decide),Za0,ya,yZ hp,yW (show(!false)=true by decide)];rfl
 ·refine⟨noC,1, ?_,λh=>absurd h (by decide)⟩;unfold XO;rw[Zve,ya,yZ ho,yW (show(!false)=true by decide)];rfl
theorem ZeD{I X:Type}{step:I->yO (I⊕X)}(n:Nat)(st:Nat->I)(ok:Nat->Prop)(good:X)(bad:Nat->X)
 (h1:∀k,k < n->(∀j,j < k->ok j)->ok k->step (st k)=some (.inl (st (k+1)))) (h2:∀k,k < n->(∀j,j < k->ok j)->¬ok k->step (st k)=some (.inr (bad k))) (he:(∀j,j < n->ok j)->step (st n)=some (.inr good)) (hn:n < 18446744073709551616):
 ∃x,Zc step yD (st 0)=some x/\(QY n ok/\x=good\/¬QY n ok/\∃k,x=bad k):=by
 refine QR (step:=step) n (λk s=>s=st k/\∀j,j < k->ok j) _ (i:=st 0) ⟨rfl,λj h=>by omega⟩ hn ?_ ?_
 ·rintro k _ hk ⟨rfl,hj⟩;by_cases h:ok k
  ·left;refine⟨_,h1 k hk hj h,rfl,λj hjk=> ?_⟩;by_cases e:j=k
   ·rw[e];exact h
   ·exact hj j (by omega)
  ·right;exact⟨_,h2 k hk hj h,.inr ⟨λq=>h (q k hk),k,rfl⟩⟩
 ·rintro _ ⟨rfl,hj⟩;exact⟨_,he hj,.inl ⟨hj,rfl⟩⟩
theorem Zs7{K V:Type}[DecidableEq K](k:K)(v:V)(k':K):∀m:yL (K×V),Zbs (ZlJ m k v) k'=if k'=k then some v else Zbs m k'
 |[]=>rfl
 |q::m=>by
  have ih:=Zs7 k v k' m;unfold ZlJ;by_cases h:k=q.1
  ·rw[yW h];unfold Zbs;by_cases h2:k'=k
   ·rw[yW h2,yW h2]
   ·rw[yX h2,yX h2,yX (by rw[<-h];exact h2)]
  ·rw[yX h];unfold Zbs;by_cases h3:k'=q.1
   ·rw[yW h3,yW h3,yX (by rw[h3];exact λq=>h q.symm)]
   ·rw[yX h3,yX h3,ih]
def Zht(l:yL In):yL (ZW×Bool):=l.foldl (λm x=>ZlJ m x.1 true) []
theorem ZAS{l:yL In}{k:Nat}{x:In}(h:l[k]? =some x):Zht (l.take (k+1))=ZlJ (Zht (l.take k)) x.1 true:=by
 rw[QS h,Zht,List.foldl_append];rfl
theorem ZqX(l:yL In)(p:ZW):∀k,k<=l.length->(Zbs (Zht (l.take k)) p=some true/\(∃j y,j < k/\l[j]? =some y/\y.1=p))\/(Zbs (Zht (l.take k)) p=none/\∀j y,j < k->l[j]? =some y->y.1≠p)
 |0,_=>.inr ⟨rfl,λj y h=>by omega⟩
 |k+1,hk=>by
  obtain⟨x,hx,_⟩:=Zk (l:=l) (k:=k) (by omega);rw[ZAS hx,Zs7];by_cases h:p=x.1
  ·rw[yW h];exact .inl ⟨rfl,k,x,by omega,hx,h.symm⟩
  ·rw[yX h];rcases ZqX l p k (by omega) with⟨h1,j,y,h2,h3,h4⟩|⟨h1,h2⟩
   ·exact .inl ⟨h1,j,y,by omega,h3,h4⟩
   ·refine .inr ⟨h1,λj y h3 h4=> ?_⟩;by_cases e:j=k
    ·subst e;rw[hx] at h4;cases h4;exact λq=>h q.symm
    ·exact h2 j y (by omega) h4
def Zlu(w:ZbI):Prop:=0<=w.1/\w.1 < 4/\w.2.1.length<=12
instance(w:ZbI):Decidable (Zlu w):=by unfold Zlu;infer_instance
theorem ZE1(w:ZbI):Wm yD w=some (decide (Zlu w)):=by
 unfold Wm;refine(QX (q:=w.1 < 4/\(w.2.1.length:Int)<=12) (Zln _ _ rfl)).trans (congrArg some (decide_eq_decide.2 ?_));unfold Zlu;omega
theorem ZAT(w:ZbI):WA yD w=some (decide (Zlu w)):=by
 unfold WA;refine(QX (q:=w.1<=3/\(w.2.1.length:Int)<=12) (Zln _ _ rfl)).trans (congrArg some (decide_eq_decide.2 ?_));unfold Zlu;omega
def ZB7(l:yL In)(k:Nat):Prop:=∀x,l[k]? =some x->(0<=x.1.2/\x.1.2 < 64)/\Zlu x.2/\∀j y,j < k->l[j]? =some y->y.1≠x.1
theorem ZB8(t:Tx)(hl:t.1.length<=100):∃x,Zc (Xj yD) yD (t.1,(t.1.length:Int),(0:Int),t,([]:yL (ZW×Bool)))=some x/\(QY t.1.length (ZB7 t.1)/\x=.inr (t,Zht t.1)\/¬QY t.1.length (ZB7 t.1)/\∃k:Nat,x=.inl (false,t,Zht (t.1.take k))):=by
 refine ZeD t.1.length (λk:Nat=>(t.1,(t.1.length:Int),(k:Int),t,Zht (t.1.take k))) (ZB7 t.1) (Sum.inr (t,Zht t.1)) (λk=>Sum.inl (false,t,Zht (t.1.take k))) ?_ ?_ ?_ (by omega)
 ·intro k hk _ hok;obtain⟨x,hx,_⟩:=Zk hk;obtain⟨o1,o2,o3⟩:=hok x hx;unfold Xj;dsimp only;rw[yW (ZM hk),Zo hx,ya];rcases ZqX t.1 x.1 k (by omega) with⟨_,j,y,h2,h3,h4⟩|⟨h1,_⟩
  ·exact absurd h4 (o3 j y h2 h3)
  ·rw[h1];unfold ZmT;dsimp only;rw[yX (show¬decide (x.1.2 < 0)=true by rw[yN];omega),yX (show¬decide (x.1.2 >= 64)=true by rw[yN];omega),ZE1,ya,yY o2,yX (by decide),Zt (by omega),ZAS hx]
 ·intro k hk _ hno;obtain⟨x,hx,_⟩:=Zk hk;unfold Xj;dsimp only;rw[yW (ZM hk),Zo hx,ya];rcases ZqX t.1 x.1 k (by omega) with⟨h1,_⟩|⟨h1,h2⟩
  ·rw[h1];unfold ZmT;dsimp only;rw[yW rfl]
  ·rw[h1];unfold ZmT;dsimp only;by_cases c1:x.1.2 < 0
   ·rw[yW (yY c1)]
   ·rw[yX (show¬decide (x.1.2 < 0)=true by rw[yN];exact c1)];by_cases c2:x.1.2 >= 64
    ·rw[yW (yY c2)]
    ·rw[yX (show¬decide (x.1.2 >= 64)=true by rw[yN];exact c2),ZE1,ya];by_cases c3:Zlu x.2
     ·refine absurd ?_ hno;intro x' hx';rw[hx] at hx';cases hx';exact⟨⟨by omega,by omega⟩,c3,h2⟩
     ·rw[yZ c3,yW (by decide)]
 ·intro _;unfold Xj;dsimp only;rw[yX (by rw[ZH];decide),yal]
theorem Zs8(t:Tx){k:Nat}(hk:k<=100)(hkl:k<=t.1.length)(x:In):∃r,Zc (Yf yD) yD ((k:Int),(0:Int),t,x)=some r/\((∀j y,j < k->t.1[j]? =some y->y.1≠x.1)/\r=.inr ((k:Int),t,x)\/(¬∀j y,j < k->t.1[j]? =some y->y.1≠x.1)/\r=.inl (false,t,x)):=by
 obtain⟨r,r1,r2⟩:=ZeD (step:=Yf yD) k (λj:Nat=>((k:Int),(j:Int),t,x)) (λj=>∀y,t.1[j]? =some y->y.1≠x.1) (.inr ((k:Int),t,x)) (λ_=>.inl (false,t,x)) (by
  intro j hj _ hok;obtain⟨y,hy,_⟩:=Zk (l:=t.1) (k:=j) (by omega);unfold Yf;dsimp only;rw[yW (ZM hj),Zo hy,ya,yX (by rw[yN];exact hok y hy),Zt (by omega)]) (by
  intro j hj _ hno;obtain⟨y,hy,_⟩:=Zk (l:=t.1) (k:=j) (by omega)
  have h:y.1=x.1:=by
   by_cases h:y.1=x.1
   ·exact h
   ·refine absurd ?_ hno;intro y' hy';rw[hy] at hy';cases hy';exact h
  unfold Yf;dsimp only;rw[yW (ZM hj),Zo hy,ya,yW (yY h)]) (by
  intro _;unfold Yf;dsimp only;rw[yX (by rw[ZH];decide)]) (by omega)
 refine⟨r,r1, ?_⟩;rcases r2 with⟨h1,h2⟩|⟨h1,_,h2⟩
 ·exact .inl ⟨λj y hj hy=>h1 j hj y hy,h2⟩
 ·exact .inr ⟨λq=>h1 λj hj y hy=>q j y hj hy,h2⟩
theorem ZB9(t:Tx)(hl:t.1.length<=100):∃x,Zc (YJ yD) yD ((0:Int),t)=some x/\(QY t.1.length (ZB7 t.1)/\x=.inr t\/¬QY t.1.length (ZB7 t.1)/\∃k:Nat,x=.inl (false,t)):=by
 refine ZeD t.1.length (λk:Nat=>((k:Int),t)) (ZB7 t.1) (Sum.inr t) (λ_=>Sum.inl (false,t)) ?_ ?_ ?_ (by omega)
 ·intro k hk _ hok;obtain⟨x,hx,_⟩:=Zk hk;obtain⟨o1,o2,o3⟩:=hok x hx;unfold YJ;dsimp only;rw[yW (ZM hk),Zo hx,ya,yX (show¬decide (x.1.2 < 0)=true by rw[yN];omega),yX (show¬decide (x.1.2 > 63)=true by rw[yN];omega),ZAT,ya,yY o2,yX (by decide)];obtain⟨r,r1,⟨_,rfl⟩|⟨h,_⟩⟩:=Zs8 t (k:=k) (by omega) (by omega) x
  ·rw[r1,ya];dsimp only;rw[Zt (by omega)]
  ·exact absurd o3 h
 ·intro k hk _ hno;obtain⟨x,hx,_⟩:=Zk hk;unfold YJ;dsimp only;rw[yW (ZM hk),Zo hx,ya];by_cases c1:x.1.2 < 0
  ·rw[yW (yY c1)]
  ·rw[yX (show¬decide (x.1.2 < 0)=true by rw[yN];exact c1)];by_cases c2:x.1.2 > 63
   ·rw[yW (yY c2)]
   ·rw[yX (show¬decide (x.1.2 > 63)=true by rw[yN];exact c2),ZAT,ya];by_cases c3:Zlu x.2
    ·rw[yY c3,yX (by decide)];obtain⟨r,r1,⟨h,rfl⟩|⟨h,rfl⟩⟩:=Zs8 t (k:=k) (by omega) (by omega) x
     ·refine absurd ?_ hno;intro x' hx';rw[hx] at hx';cases hx';exact⟨⟨by omega,by omega⟩,c3,h⟩
     ·rw[r1,ya]
    ·rw[yZ c3,yW (by decide)]
 ·intro _;unfold YJ;dsimp only;rw[yX (by rw[ZH];decide)]
theorem ZxG(z:Int):V2 yD z=some (decide (0<=z/\z<=1125899906842624)):=Zln (z >= 0) (z<=1125899906842624) rfl
theorem ZxH{a b:Int}(h0:0<=a)(h1:a<=1125899906842624):QA yD a b=some (if(0<=b/\b<=1125899906842624)/\a+b<=1125899906842624 then(a+b,true) else(0,false)):=by
 unfold QA;rw[ZxG,ya,yY (p:=0<=a/\a<=1125899906842624) ⟨h0,h1⟩,yX (show¬(!true)=true by decide),ZxG,ya];by_cases hb:0<=b/\b<=1125899906842624
 ·rw[yY hb,yX (show¬(!true)=true by decide),Z1 (z:=1125899906842624 - b) (by omega) (by omega),Z1 (z:=a+b) (by omega) (by omega)];by_cases h:a+b<=1125899906842624
  ·rw[yX (show¬decide (a > 1125899906842624 - b)=true by rw[yN];omega),yW ⟨hb,h⟩]
  ·rw[yW (show decide (a > 1125899906842624 - b)=true from yY (by omega)),yX λq=>h q.2]
 ·rw[yZ hb,yW (show(!false)=true by decide),yX λq=>hb q.1]
structure TxL(t:Tx):Prop where
 ins:t.1.length<=70
 outs:t.2.1.length<=70
 locks:∀o,o∈t.2.1->LockWf o.2
def ZE2(o:Out):Prop:=(0<=o.1/\o.1<=1125899906842624)/\Wb o.2/\Ve o.2
def ZxI(l:yL Out)(k:Nat):Prop:=∀o,l[k]? =some o->ZE2 o/\amts (l.take (k+1))<=1125899906842624
def ZqY(l:yL Out)(k:Nat):Prop:=∀o,l[k]? =some o->ZE2 o
theorem Zvf{l:yL Out}:∀k,k<=l.length->(∀j,j < k->ZqY l j)->0<=amts (l.take k)/\amts (l.take k)<=k*1125899906842624
 |0,_,_=>by simp[amts]
 |k+1,hk,h=>by
  obtain⟨o,ho,_⟩:=Zk (l:=l) (k:=k) (by omega);have ih:=Zvf k (by omega) λj hj=>h j (by omega);have hc:=(h k (by omega) o ho).1;rw[Zaq ho];omega
theorem Zzt{t:Tx}(hl:TxL t)(m:yL (ZW×Bool)):∃x,Zc (XP yD) yD ((0:Int),t.2.1,(t.2.1.length:Int),(0:Int),t,m)=some x/\(QY t.2.1.length (ZxI t.2.1)/\x=.inr (t,m)\/¬QY t.2.1.length (ZxI t.2.1)/\∃k:Nat,x=.inl (false,t,m)):=by
 have hw:=hl.outs
 have sm:∀k,k<=t.2.1.length->(∀j,j < k->ZxI t.2.1 j)->0<=amts (t.2.1.take k)/\amts (t.2.1.take k)<=1125899906842624:=by
  intro k hk h;refine⟨(Zvf k hk λj hj o ho=>(h j hj o ho).1).1, ?_⟩
  cases k with
  |zero=>simp[amts]
  |succ k=>
   obtain⟨o,ho,_⟩:=Zk (l:=t.2.1) (k:=k) (by omega);exact(h k (by omega) o ho).2
 refine ZeD t.2.1.length (λk:Nat=>(amts (t.2.1.take k),t.2.1,(t.2.1.length:Int),(k:Int),t,m)) (ZxI t.2.1) (Sum.inr (t,m)) (λ_=>Sum.inl (false,t,m)) ?_ ?_ ?_ (by omega)
 ·intro k hk hj hok;obtain⟨o,ho,hm⟩:=Zk hk;obtain⟨⟨o1,o2⟩,o3⟩:=hok o ho;rw[Zaq ho] at o3;obtain⟨s0,s1⟩:=sm k (by omega) hj;obtain⟨b,b1,b2⟩:=ZcQ (hl.locks o hm);unfold XP;dsimp only;rw[yW (ZM hk),Zo ho,ya,ZxH s0 s1,yW ⟨o1,o3⟩,ya,yX (by simp),b1,ya,b2.2 o2,yX (by decide),Zt (by omega),Zaq ho]
 ·intro k hk hj hno;obtain⟨o,ho,hm⟩:=Zk hk;obtain⟨s0,s1⟩:=sm k (by omega) hj;obtain⟨b,b1,b2⟩:=ZcQ (hl.locks o hm);unfold XP;dsimp only;rw[yW (ZM hk),Zo ho,ya,ZxH s0 s1,ya];by_cases c:(0<=o.1/\o.1<=1125899906842624)/\amts (t.2.1.take k)+o.1<=1125899906842624
  ·rw[yW c,yX (by simp),b1,ya]
   cases b with
   |true=>
    refine absurd ?_ hno;intro o' ho';rw[ho] at ho';cases ho';rw[Zaq ho]
    exact⟨⟨c.1,b2.1 rfl⟩,c.2⟩
   |false=>rw[yW (by decide)]
  ·rw[yX c,yW (by simp)]
 ·intro _;unfold XP;dsimp only;rw[yX (by rw[ZH];decide)]
theorem Zzu{t:Tx}(hl:TxL t):∃x,Zc (YK yD) yD ((0:Int),(0:Int),t)=some x/\(QY t.2.1.length (ZqY t.2.1)/\x=.inr (amts t.2.1,t)\/¬QY t.2.1.length (ZqY t.2.1)/\∃k:Nat,x=.inl (false,t)):=by
 have hw:=hl.outs;refine ZeD t.2.1.length (λk:Nat=>(amts (t.2.1.take k),(k:Int),t)) (ZqY t.2.1) (Sum.inr (amts t.2.1,t)) (λ_=>Sum.inl (false,t)) ?_ ?_ ?_ (by omega)
 ·intro k hk hj hok;obtain⟨o,ho,hm⟩:=Zk hk;obtain⟨o1,o2⟩:=hok o ho;obtain⟨s0,s1⟩:=Zvf k (by omega) hj;obtain⟨b,b1,b2⟩:=Zfo (hl.locks o hm);have hk70:(k:Int)<=70:=by omega
  unfold YK;dsimp only;rw[yW (ZM hk),Zo ho,ya,yX (show¬decide (o.1 < 0)=true by rw[yN];omega),yX (show¬decide (o.1 > 1125899906842624)=true by rw[yN];omega),b1,ya,b2.2 o2,yX (by decide),Zt (by omega),Zaq ho,Z1 (z:=amts (t.2.1.take k)+o.1) (by omega) (by omega)]
 ·intro k hk hj hno;obtain⟨o,ho,hm⟩:=Zk hk;obtain⟨b,b1,b2⟩:=Zfo (hl.locks o hm);unfold YK;dsimp only;rw[yW (ZM hk),Zo ho,ya];by_cases c1:o.1 < 0
  ·rw[yW (yY c1)]
  ·rw[yX (show¬decide (o.1 < 0)=true by rw[yN];exact c1)];by_cases c2:o.1 > 1125899906842624
   ·rw[yW (yY c2)]
   ·rw[yX (show¬decide (o.1 > 1125899906842624)=true by rw[yN];exact c2),b1,ya]
    cases b with
    |true=>
     refine absurd ?_ hno;intro o' ho';rw[ho] at ho';cases ho'
     exact⟨⟨by omega,by omega⟩,b2.1 rfl⟩
    |false=>rw[yW (by decide)]
 ·intro _;unfold YK;dsimp only;rw[yX (by rw[ZH];decide),yal]
theorem ZxJ{l:yL Out}(hl:l.length<=70):QY l.length (ZxI l)↔QY l.length (ZqY l)/\amts l<=1125899906842624:=by
 constructor
 ·intro h;refine⟨λk hk o ho=>(h k hk o ho).1, ?_⟩
  cases hn:l.length with
  |zero=>
   rw[ybb hn]
   simp[amts]
  |succ k=>
   obtain⟨o,ho,_⟩:=Zk (l:=l) (k:=k) (by omega);have:=(h k (by omega) o ho).2
   rwa [show k+1=l.length by omega,yal] at this
 ·rintro⟨h1,h2⟩ k hk o ho;refine⟨h1 k hk o ho, ?_⟩
  have zU:∀e,e∈l->0<=e.1:=by
   intro e he;obtain⟨j,j1,j2⟩:=ycf he;exact(h1 j j1 e (by rw[yab j1,j2])).1.1
  have hs:amts l=amts (l.take (k+1))+amts (l.drop (k+1)):=by
   have q:=congrArg amts (ybh (k+1) l);rw[<-q];unfold amts;rw[yai,List.sum_append]
  have hd:0<=amts (l.drop (k+1)):=Zzj (by
   intro x hx;obtain⟨e,he,rfl⟩:=ybn.1 hx;exact zU e (yct he))
  omega
theorem Zvg{t:Tx}(hl:TxL t):∃b:Bool,WJ yD t=some b/\Vz yD t=some b/\(b=true->ZEu t):=by
 unfold WJ Vz;by_cases c1:(t.1.length:Int) < 1
 ·rw[yW (yY c1),yW (yY c1)];exact⟨false,rfl,rfl,λh=>by cases h⟩
 have c1':¬decide ((t.1.length:Int) < 1)=true:=by rw[yN];exact c1
 rw[yX c1',yX c1'];by_cases c2:(t.1.length:Int) > 64
 ·rw[yW (yY c2),yW (yY c2)];exact⟨false,rfl,rfl,λh=>by cases h⟩
 have c2':¬decide ((t.1.length:Int) > 64)=true:=by rw[yN];exact c2
 rw[yX c2',yX c2'];by_cases c3:(t.2.1.length:Int) > 64
 ·rw[yW (yY c3),yW (yY c3)];exact⟨false,rfl,rfl,λh=>by cases h⟩
 have c3':¬decide ((t.2.1.length:Int) > 64)=true:=by rw[yN];exact c3
 rw[yX c3',yX c3'];by_cases c4:t.2.2 < 0
 ·rw[yW (yY c4),yW (yY c4)];exact⟨false,rfl,rfl,λh=>by cases h⟩
 have c4':¬decide (t.2.2 < 0)=true:=by rw[yN];exact c4
 rw[yX c4',yX c4'];have h70:=hl.ins;obtain⟨x,x1,x2⟩:=ZB8 t (by omega);obtain⟨y,y1,y2⟩:=ZB9 t (by omega);rw[x1,y1,ya,ya];rcases x2 with⟨hI,rfl⟩|⟨hI,k,rfl⟩
 ·rcases y2 with⟨_,rfl⟩|⟨hI',_⟩
  ·dsimp only;obtain⟨x,x1,x2⟩:=Zzt hl (Zht t.1);obtain⟨y,y1,y2⟩:=Zzu hl;rw[x1,y1,ya,ya];rcases x2 with⟨hO,rfl⟩|⟨hO,k,rfl⟩
   ·obtain⟨hO1,hO2⟩:=(ZxJ hl.outs).1 hO;rcases y2 with⟨_,rfl⟩|⟨hO',_⟩
    ·dsimp only;rw[yY hO2];refine⟨true,rfl,rfl,λ_=>⟨by omega,by omega,by omega,by omega,λx hx=> ?_,λo ho=> ?_⟩⟩
     ·obtain⟨j,j1,j2⟩:=ycf hx;obtain⟨q1,q2,_⟩:=hI j j1 x (by rw[yab j1,j2]);exact⟨q1.1,q1.2,q2.1,q2.2.1,q2.2.2⟩
     ·obtain⟨j,j1,j2⟩:=ycf ho;obtain⟨q1,q2⟩:=hO1 j j1 o (by rw[yab j1,j2]);exact⟨q1.1,q1.2,q2.1,q2.2⟩
    ·exact absurd hO1 hO'
   ·rcases y2 with⟨hO',rfl⟩|⟨_,_,rfl⟩
    ·dsimp only;rw[yZ (p:=amts t.2.1<=1125899906842624) λq=>hO ((ZxJ hl.outs).2 ⟨hO',q⟩)];exact⟨false,rfl,rfl,λh=>by cases h⟩
    ·exact⟨false,rfl,rfl,λh=>by cases h⟩
  ·exact absurd hI hI'
 ·rcases y2 with⟨hI',_⟩|⟨_,_,rfl⟩
  ·exact absurd hI' hI
  ·exact⟨false,rfl,rfl,λh=>by cases h⟩
theorem ZCa{t:Tx}(hw:ZGp t)(h:ZEu t):VB yD t=some (Zhs t):=by
 obtain⟨ins,outs,note⟩:=t;obtain⟨w1,w2⟩:=hw;obtain⟨t1,t2,t3,t4,t5,t6⟩:=h;dsimp only at w1 w2 t1 t2 t3 t4 t5 t6;have r1:=ZS (n:=ins.length) (by omega);have r2:=ZS (n:=outs.length) (by omega);have ci:∀k,(cat inF (ins.take k)).length<=64*41:=QW (λx hx=>ZAL (w1 x hx) (t5 x hx)) t2;have co:∀k,(cat ZmB (outs.take k)).length<=64*551:=QW (λx hx=>Zxo (t6 x hx)) t3;have ci':=ci ins.length;rw[yal] at ci';have co':=co outs.length;rw[yal] at co';unfold VB;dsimp only;rw[ZaG (by omega) (by omega) (by simp),ya,yw,ybq]
 have q:=Zz (step:=YN yD) ins.length (λk:Nat=>(Xf ins.length++cat inF (ins.take k),(k:Int),(ins,outs,note))) (x:=(Xf ins.length++cat inF ins,(ins,outs,note))) (by
  intro k hk;obtain⟨e,he,hm⟩:=Zk hk;have hc:=ci k;have h32:=w1 e hm;have hi:=t5 e hm;unfold YN;dsimp only;rw[yW (ZM hk),Zo he,ya,Zxr (by rw[yo];omega) h32,ya,ya,ZaG hi.1 (by have:=hi.2.1;omega) (by simp only[yo];omega),ya,Zt (by omega),VL he];unfold inF;simp only[yac]) (by
  unfold YN;dsimp only;rw[yX (by rw[ZH];decide),yal]) (by omega)
 rw[show cat inF (ins.take 0)=[] from rfl,yap] at q
 have q:Zc (YN yD) yD (Xf ins.length,(0:Int),(ins,outs,note))=_:=q;rw[q,ya];dsimp only;rw[ZaG (by omega) (by omega) (by rw[yo];omega),ya,ybq]
 have p:=Zz (step:=YO yD) outs.length (λk:Nat=>(Xf ins.length++cat inF ins++Xf outs.length++cat ZmB (outs.take k),(k:Int),(ins,outs,note))) (x:=(Xf ins.length++cat inF ins++Xf outs.length++cat ZmB outs,(ins,outs,note))) (by
  intro k hk;obtain⟨e,he,hm⟩:=Zk hk;have hc:=co k;obtain⟨o1,o2,o3,o4⟩:=t6 e hm;have hl:=ZhT o3;have hr:=ZS (n:=e.1.toNat) (by omega);unfold YO;dsimp only;rw[yW (ZM hk),Zo he,ya,ZaG o1 (by omega) (by simp only[yo];omega),ya,ya,Zxw o3 o4,ya,Zva (by simp only[yo];omega) (by omega),ya,Zt (by omega),VL he];unfold ZmB;simp only[yac]) (by
  unfold YO;dsimp only;rw[yX (by rw[ZH];decide),yal]) (by omega)
 rw[show cat ZmB (outs.take 0)=[] from rfl,yap] at p
 have p:Zc (YO yD) yD (Xf ins.length++cat inF ins++Xf outs.length,(0:Int),(ins,outs,note))=_:=p;rw[p,ya];dsimp only;rw[ZaG t4 w2 (by simp only[yo];omega),ya];unfold Zhs;simp only[yac]
theorem Zs9{t:Tx}(h:(Zhs t).length<=40000):∀x,x∈[Zhs t]->x.length<=60000:=λx hx=>by
 rw[yaq.1 hx];omega
theorem ZCb{t:Tx}(hl:TxL t)(hw:ZGp t):∃n,Zmq yD t=some n/\Zap yD t=some n/\n.length=32:=by
 obtain⟨b,b1,b2,b3⟩:=Zvg hl;unfold Zmq Zap;rw[b1,b2,ya,ya]
 cases b with
 |false=>exact⟨_,rfl,rfl,rfl⟩
 |true=>
  have h:=b3 rfl;obtain⟨p1,p2⟩:=ZEw hw h;rw[yX (by decide),yX (by decide),p1,ZCa hw h,ya,ya,Zzl (by decide) (by simp) (Zs9 p2),ZGt (by decide) (by simp) (Zs9 p2)];exact⟨_,rfl,rfl,Sha.ZJx _⟩
def ZjN(d:Int)(b:Bool):yO (Int×Bool):=if b=true then(if d=1 then some (1,false) else if d=5 then some (2,false) else if d=6 then some (1,true) else none) else(if d=5 then some (1,true) else if d=6 then some (2,false) else none)
theorem ZE3(d:Int)(b:Bool):Zbs ([([1,1],(1,false)),([5,1],(2,false)),([5,0],(1,true)),([6,1],(1,true)),([6,0],(2,false))]:yL ((yL Int)×Zw6)) ([d,if b=true then 1 else 0]:yL Int)=ZjN d b:=by
 unfold ZjN;cases b
 ·by_cases h5:d=5
  ·subst h5;simp[Zbs]
  ·by_cases h6:d=6
   ·subst h6;simp[Zbs]
   ·simp[Zbs,h5,h6]
 ·by_cases h1:d=1
  ·subst h1;simp[Zbs]
  ·by_cases h5:d=5
   ·subst h5;simp[Zbs]
   ·by_cases h6:d=6
    ·subst h6;simp[Zbs]
    ·simp[Zbs,h1,h5,h6]
def opF(h:Int)(b:Branch):Int:=ZBn b.2.1 (wi (h+b.2.2.1))
noncomputable def ZjO(l:yL yU)(p:yU):Nat:=l.findIdx λk=>B k.toNat==p
noncomputable def ZjP(l:yL yU)(p:yU):yO yU:=l[ZjO l p]?
theorem ZE4{l:yL yU}{p:yU}{k:Nat}(h:k < ZjO l p):∃e,l[k]? =some e/\(B e.toNat==p)=false:=by
 have hl:ZjO l p<=l.length:=List.findIdx_le_length;have hk:k < l.length:=by omega
 refine⟨l[k],yab hk, ?_⟩;have:=List.not_of_lt_findIdx h;simpa using this
theorem Zzv{l:yL yU}{p e:yU}(h:l[ZjO l p]? =some e):(B e.toNat==p)=true:=by
 obtain⟨h1,h2⟩:=yq.1 h;unfold ZjO at h1 h2;generalize hf:(λk:yU=>B k.toNat==p)=f at h1 h2;have:=List.findIdx_getElem (xs:=l) (p:=f) (w:=h1);rw[h2, <-hf] at this;exact this
theorem ZCc{l:yL yU}(hl:l.length<=100)(p:yU):ZaF yD l p=some (match ZjP l p with|some k=>(k,true)|none=>((0:yU),false)):=by
 have hi:ZjO l p<=l.length:=List.findIdx_le_length;unfold ZaF
 have e:=Zz (step:=Xt yD) (ZjO l p) (λk:Nat=>(p,l,(l.length:Int),(k:Int))) (x:=match ZjP l p with|some k=>.inl (k,true)|none=>.inr ()) (by
  intro k hk;obtain⟨e,he,hb⟩:=ZE4 hk;unfold Xt;dsimp only;rw[yW (ZM (by omega)),Zo he,ya,ZhS,ya,yX (by rw[hb];decide),Zt (by omega)]) (by
  unfold Xt;dsimp only
  cases hs:ZjP l p with
  |none=>
   have hs:l[ZjO l p]? =none:=hs;have:l.length<=ZjO l p:=List.getElem?_eq_none_iff.1 hs
   rw[yX (ynd (by omega))]
  |some e=>
   have hs:l[ZjO l p]? =some e:=hs;have:=(yq.1 hs).1;rw[yW (ZM this),Zo hs,ya,ZhS,ya,yW (Zzv hs)]) (by omega)
 have e:Zc (Xt yD) yD (p,l,(l.length:Int),(0:Int))=_:=e;rw[e,ya];cases ZjP l p <;> rfl
noncomputable def Zas(id:yL yB)(h:Int)(known:yL yU)(own:Bool)(n:Nat)(o:Out)(r:QH):yO ZL:=
 (ZjN r.1 own).bind λq=>(o.2[q.1.toNat]?).bind λb=>if q.2=true then(ZjP known r.2.2.2.2.1).bind λk=>(o.2[2]?).map λb2=>((id,(n:Int)),o,q.1,k,opF h b,opF h b2) else some ((id,(n:Int)),o,q.1,0,opF h b,0)
noncomputable def Zzw(id:yL yB)(h:Int)(known:yL yU)(own:Bool)(c:Commit)(n:Nat):yO ZL:=(c.1.2.1[n]?).bind λo=>(c.2[n]?).bind λr=>Zas id h known own n o r
noncomputable def XY(id:yL yB)(h:Int)(known:yL yU)(own:Bool)(c:Commit)(n:Nat):yL ZL:=(yr n).filterMap (Zzw id h known own c)
theorem ZCd(id:yL yB)(h:Int)(known:yL yU)(own:Bool)(c:Commit)(n:Nat):XY id h known own c (n+1)=XY id h known own c n++(Zzw id h known own c n).toList:=by
 unfold XY;rw[List.range_succ,List.filterMap_append];congr 1
theorem ZxK(id:yL yB)(h:Int)(known:yL yU)(own:Bool)(c:Commit)(n:Nat):(XY id h known own c n).length<=n:=by
 unfold XY;have:=List.length_filterMap_le (Zzw id h known own c) (yr n)
 rwa [List.length_range] at this
theorem ZIO{own w:Int}{rev late ow pe:yU}{lk:YD}{ro:QH}(hk:KO own w rev late ow pe lk ro){b:Bool}{q:Int×Bool}(hq:ZjN ro.1 b=some q):1<=q.1/\q.1<=2/\(∃e,lk[q.1.toNat]? =some e)/\(q.2=true->∃e,lk[2]? =some e):=by
 rcases hk with⟨h1,rfl⟩|h|⟨h,rfl,_⟩
 ·rw[h1] at hq;cases b
  ·cases hq
  ·cases hq;exact⟨by decide,by decide,⟨_,rfl⟩,λh=>by cases h⟩
 ·exfalso;unfold ZjN at hq;split at hq
  ·rw[yX (by omega),yX (by omega),yX (by omega)] at hq;cases hq
  ·rw[yX (by omega),yX (by omega)] at hq;cases hq
 ·have h3:(Zf7 own w rev ow pe ro.2).length=3:=by unfold Zf7;split <;> rfl
  have hq2:1<=q.1/\q.1<=2:=by
   unfold ZjN at hq;split at hq
   ·rw[yX (by omega)] at hq;split at hq
    ·cases hq;exact⟨by decide,by decide⟩
    ·split at hq
     ·cases hq;exact⟨by decide,by decide⟩
     ·cases hq
   ·split at hq
    ·cases hq;exact⟨by decide,by decide⟩
    ·split at hq
     ·cases hq;exact⟨by decide,by decide⟩
     ·cases hq
  exact⟨hq2.1,hq2.2,⟨_,yab (by omega)⟩,λ_=>⟨_,yab (by omega)⟩⟩
theorem set_same{α:Type}{l:yL α}{k:Nat}{e:α}(h:l[k]? =some e):l.set k e=l:=by
 apply List.ext_getElem?;intro j;by_cases hj:j=k
 ·subst hj;rw[List.getElem?_set_self (yq.1 h).1,h]
 ·rw[List.getElem?_set_ne (Ne.symm hj)]
theorem ZCe{o:Out}(h:Wb o.2):VK yD o=some o:=by
 obtain⟨h0,h4,hb⟩:=h
 have hne:¬(o.2.isEmpty=true):=by
  rw[List.isEmpty_iff];intro e;rw[e] at h0;exact absurd h0 (by decide)
 unfold VK QO Vp QN;rw[yX hne,yX hne,yW (Yi (by omega) (by omega))]
 have e:=Zz (step:=Xs yD) o.2.length (λk:Nat=>((o.2.length:Int),(k:Int),o.1,(((0:Int),([]:YD)):Out),([()]:yL Unit),o.2)) (x:=(o.1,(((0:Int),([]:YD)):Out),([()]:yL Unit),o.2)) (by
  intro k hk;obtain⟨e,he,hm⟩:=Zk hk;have:=(hb e hm).1;unfold Xs Ws;dsimp only;rw[yW (ZM hk),yW (YI (by omega) (by omega)),ybq,he,ya,yW (Yi (by omega) (by omega)),ya,yW (YI (by omega) (by omega)),ya,Zt (by omega)];rw[show((e.1,e.2.1,e.2.2.1,e.2.2.2):Branch)=e from rfl,set_same he]) (by
  unfold Xs;dsimp only;rw[yX (by rw[ZH];decide)]) (by omega)
 have e:Zc (Xs yD) yD ((o.2.length:Int),(0:Int),o.1,(((0:Int),([]:YD)):Out),([()]:yL Unit),o.2)=_:=e;simp only[Option.map_some,ya];rw[e,ya]
theorem ZGK{ch:Chan}{own:Int}{per:yU}{c:Commit}(w:CmC ch own per c)(hf:ch.1.1.length=32):∃id,id.length=32/\Zmq yD c.1=some id/\Zap yD c.1=some id/\WJ yD c.1=some true/\Zg1 yD c.1=some ((yr c.1.2.1.length).map λk:Nat=>(id,(k:Int))):=by
 have hL:TxL c.1:=⟨by rw[w.ins];simp,by have:=w.outs;omega,λo ho=>by
  obtain⟨_,_,⟨h0,h4,hb⟩,_⟩:=w.ok o ho;exact⟨by omega,λb hb'=>by have:=(hb b hb').1;omega⟩⟩
 have hW:ZGp c.1:=⟨λx hx=>by rw[w.ins] at hx;rw[yaq.1 hx];exact hf,w.note.2⟩
 have hO:ZEu c.1:=⟨by rw[w.ins];simp,by rw[w.ins];simp,by have:=w.outs;omega,w.note.1,λx hx=>by
  rw[w.ins] at hx;rw[yaq.1 hx];have:=w.fund;exact⟨by show 0<=ch.1.2;omega,by show ch.1.2 < 64;omega,show(0:Int)<=0 by decide,show(0:Int) < 4 by decide,by simp⟩,w.ok⟩
 have e:c.1=([(ch.1,(0,[],0))],c.1.2.1,c.1.2.2):=by rw[<-w.ins]
 have hr:WJ yD c.1=some true:=by
  rw[e] at hO ⊢;exact ZEx hO w.amt
 obtain⟨id,i1,i2,i3⟩:=ZCb hL hW;refine⟨id,i3,i1,i2,hr, ?_⟩;unfold Zg1;rw[i1,ya,hr,ya,yX (show¬(!true)=true by decide)];have ho:=w.outs
 have q:=Zz (step:=Qe yD) c.1.2.1.length (λk:Nat=>((c.1.2.1.length:Int),(k:Int),c.1,(yr k).map (λk:Nat=>(id,(k:Int))),id)) (x:=(c.1,(yr c.1.2.1.length).map (λk:Nat=>(id,(k:Int))),id)) (by
  intro k hk;unfold Qe;dsimp only;rw[yW (ZM hk),yW (Yi (by rw[yy,List.length_range];omega) (by rw[yy,List.length_range];omega)),Zt (by omega),List.range_succ,yai];rfl) (by
  unfold Qe;dsimp only;rw[yX (by rw[ZH];decide)]) (by omega)
 have q:Zc (Qe yD) yD ((c.1.2.1.length:Int),(0:Int),c.1,([]:yL ZW),id)=_:=q;rw[q,ya]
theorem ZxL{o:Out}{b:Int}(h0:0<=b){e:Branch}(he:o.2[b.toNat]? =some e)(h:Int):QP yD o b h=some (opF h e):=by
 unfold QP idx;rw[yW h0,he,ya];rfl
theorem Zzx{ch:Chan}{own:Int}{per:yU}{c:Commit}(w:CmC ch own per c){id:yL yB}{known:yL yU}(hk:known.length<=20)(h:Int)(b:Bool)(ch0:Chan)(kit:Kit):
 Zc (Vc yD) yD (h,known,(if b=true then(1:Int) else 0),(yr c.1.2.1.length).map (λk:Nat=>(id,(k:Int))),c.2,(c.2.length:Int),(0:Int),ch0,kit,c,([]:yL ZL))=some (ch0,kit,c,XY id h known b c c.2.length):=by
 have ho:=w.outs;have hs:=w.same;obtain⟨bo,bp,tp,_,_,_,hK⟩:=w.ex;refine Zz c.2.length (λk:Nat=>(h,known,(if b=true then(1:Int) else 0),(yr c.1.2.1.length).map (λk:Nat=>(id,(k:Int))),c.2,(c.2.length:Int),(k:Int),ch0,kit,c,XY id h known b c k)) ?_ ?_ (by omega)
 ·intro k hk;obtain⟨r,hr,_⟩:=Zk hk;obtain⟨o,hoo,hm⟩:=Zk (l:=c.1.2.1) (k:=k) (by omega);have hl:=ZxK id h known b c k
  have hmade:((yr c.1.2.1.length).map (λk:Nat=>(id,(k:Int))))[k]? =some (id,(k:Int)):=by
   rw[List.getElem?_map,List.getElem?_range (by omega)];rfl
  have ec:Zzw id h known b c k=Zas id h known b k o r:=by
   unfold Zzw;rw[hoo,ya,hr,ya]
  unfold Vc Zg5;dsimp only;rw[yW (ZM hk),Zo hr,ya,ya,ZE3,ZCd,ec,Zt (by omega)];unfold Zas
  cases hq:ZjN r.1 b with
  |none=>
   rw[Option.bind_none,Option.toList_none,yap]
   rfl
  |some q=>
   obtain⟨q1,q2,⟨e,he⟩,q3⟩:=ZIO (hK k o r hoo hr) hq;rw[ya,he,ya];show((idx c.1.2.1 (k:Int)).bind λe488=>_)=_;rw[Zo hoo,ya,Zo hmade,ya,ZCe (w.ok o hm).2.2.1,ya,ZxL (by omega) he,ya];by_cases hs2:q.2=true
   ·obtain⟨e2,he2⟩:=q3 hs2;rw[yW hs2,yW hs2,ZCc (by omega),ya]
    cases hsec:ZjP known r.2.2.2.2.1 with
    |none=>
     rw[yW (show(!false)=true by decide),Option.bind_none,Option.toList_none,yap]
    |some s=>
     dsimp only;rw[yX (show¬(!true)=true by decide),ZxL (by decide) (e:=e2) (by exact he2),ya,yW (Yi (by omega) (by omega)),ya,he2,Option.map_some,Option.toList_some]
   ·rw[yX hs2,yX hs2,yW (Yi (by omega) (by omega)),Option.toList_some]
 ·unfold Vc;dsimp only;rw[yX (by rw[ZH];decide)]
theorem ZIP{a b:Int}(ha:a=0\/a=1)(hb:b=0\/b=1):wi (1 - bits .xor .i64 a b)=if(a==b)=true then 1 else 0:=by
 rcases ha with rfl|rfl <;> rcases hb with rfl|rfl <;> rfl
noncomputable def ZGL(id:yL yB)(h:Int)(known:yL yU)(me own:Int)(c:Commit):yL ZL:=if(me=0\/me=1)/\0<=h/\h<=1048576 then XY id h known (me==own) c c.2.length else[]
theorem ZxM{ch:Chan}{own:Int}{per:yU}{c:Commit}(w:CmC ch own per c){id:yL yB}(hm:Zg1 yD c.1=some ((yr c.1.2.1.length).map λk:Nat=>(id,(k:Int)))){known:yL yU}(hk:known.length<=20){me h:Int}(m0: -9223372036854775808<=me)(m1:me<=9223372036854775807)(ch0:Chan)(kit:Kit):
 Zdv yD ch0 kit me own c per h known=some (ZGL id h known me own c):=by
 have ho:=w.o;unfold Zdv ZGL;rw[ZmC m0 m1,ZmC (by omega) (by omega)];by_cases h1:me=0\/me=1
 ·rw[yY (show 0<=me/\me<=1 by omega),yX (by decide),yY (show 0<=own/\own<=1 by omega),yX (by decide),Za0,ya,yY w.pt,yX (by decide)];by_cases h2:0<=h
  ·rw[yX (ynd (by omega))];by_cases h3:h<=1048576
   ·rw[yX (ynd (by omega)),hm,ya,ZIP h1 ho,Zzx w hk,ya,yW ⟨h1,h2,h3⟩]
   ·rw[yW (yY (by omega)),yX λq=>h3 q.2.2]
  ·rw[yW (yY (by omega)),yX λq=>h2 q.2.1]
 ·rw[yZ (show¬(0<=me/\me<=1) by omega),yW (by decide),yX λq=>h1 q.1]
end Go.Proofs.YtpgpjjjoglafdaaGreat
end
