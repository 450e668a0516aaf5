/- Parts of the proof, in one file. -/
import Derived.Test.YtdhclndplbopgaaGreatKd
open Bool renaming and_eq_true → yi
open Go renaming TypeId → yc, Program → yg, Value → yh, FuncId → yv
open Go.Proofs.Tryz renaming prog → yb
open Int renaming tmod → yav
open List renaming length_append → yl, getElem?_eq_some_iff → yq, range → yu, replicate → yy, getElem?_eq_getElem → yab, length_map → yac, length_cons → yai, map_cons → yaj, getElem?_eq_none → yap, mem_cons_self → yay, mem_cons_of_mem → yba, append_nil → ybd, mem_cons → ybh, map_map → ybi, length_replicate → ycq, not_mem_nil → ycv, getD_eq_getElem?_getD → yda
open Nat renaming le_refl → yj, add → yr, mod_eq_of_lt → yaf, shiftRight → yag, add_mul → yaz, mod_lt → ybc, zero_add → ybe, mul_comm → ybf, mul_mod → ybu, lt_or_ge → ycb, mul_le_mul_right → ycc, eq_zero_or_pos → ycd, two_pow_add_eq_or_of_lt → ycy, lt_of_le_of_lt → ycz, shiftRight_eq_div_pow → ydd
open Option renaming bind_some → ya, bind_eq_some_iff → yf, map_eq_some_iff → yn
open UInt32 renaming ofNat → ybp
open UInt64 renaming ofNat → yx, toNat_ofNat' → yaw, toNat_lt → ybo, lt_iff_toNat_lt → yca, toNat_mod → ycr, le_iff_toNat_le → ycs
open UInt8 renaming toNat → yak, ofNat → yas
set_option linter.unusedVariables false
set_option linter.unusedSimpArgs false
section
namespace Go.Ev
universe u
variable{O:Type u}
def Zfu(n:Nat)(k:Nat->O):O:=Nat.rec (motive:=λ_=>O) (k 0) (λm _=>k (Nat.succ m)) n
theorem X5(n:Nat)(k:Nat->O):Zfu n k=k n:=by cases n <;> rfl
def Zh7{α:Type}(f:α->(α->O)->O):yL α->(yL α->O)->O
 |[],k=>k []
 |a::r,k=>f a λa=>Zh7 f r λr=>k (a::r)
theorem QS{α:Type}{f:α->(α->O)->O}(hf:∀a k,f a k=k a):∀(l:yL α)(k:yL α->O),Zh7 f l k=k l
 |[],k=>rfl
 |a::r,k=>by rw[Zh7,hf,QS hf r]
def ZM1(n:Int)(k:Int->O):O:=match n with
 |.ofNat n=>Zfu n λn=>k (.ofNat n)
 |.negSucc n=>Zfu n λn=>k (.negSucc n)
theorem ZLc(n:Int)(k:Int->O):ZM1 n k=k n:=by cases n <;> (rw[ZM1,X5])
def Zv2(b:Bool)(k:Bool->O):O:=match b with
 |true=>k true
 |false=>k false
theorem ZkL(b:Bool)(k:Bool->O):Zv2 b k=k b:=by cases b <;> rfl
mutual
def Ty.fo:(t:Ty)->t.den->(t.den->O)->O
 |.int _,x,k=>ZM1 x k
 |.u8,x,k=>Zfu (yak x) λn=>k (yas n)
 |.u32,x,k=>Zfu (UInt32.toNat x) λn=>k (ybp n)
 |.u64,x,k=>Zfu (UInt64.toNat x) λn=>k (yx n)
 |.bool,x,k=>Zv2 x k
 |.str,x,k=>k x
 |.sl t,x,k=>Zh7 (Ty.fo t) x k
 |.arr _ t,x,k=>Zh7 (Ty.fo t) x k
 |.st fs,x,k=>Ty.fos fs x k
def Ty.fos:(fs:yL Ty)->Ty.dens fs->(Ty.dens fs->O)->O
 |[],_,k=>k ()
 |[t],x,k=>Ty.fo t x k
 |t::u::r,x,k=>Ty.fo t x.1 λa=>Ty.fos (u::r) x.2 λb=>k (a,b)
end
mutual
theorem Ty.fo_eq:∀(t:Ty)(x:t.den)(k:t.den->O),t.fo x k=k x
 |.int _,x,k=>ZLc x k
 |.u8,x,k=>by rw[Ty.fo,X5];exact congrArg k UInt8.ofNat_toNat
 |.u32,x,k=>by rw[Ty.fo,X5];exact congrArg k UInt32.ofNat_toNat
 |.u64,x,k=>by rw[Ty.fo,X5];exact congrArg k UInt64.ofNat_toNat
 |.bool,x,k=>ZkL x k
 |.str,x,k=>rfl
 |.sl t,x,k=>by rw[Ty.fo];exact QS (Ty.fo_eq t) x k
 |.arr _ t,x,k=>by rw[Ty.fo];exact QS (Ty.fo_eq t) x k
 |.st fs,x,k=>Ty.fos_eq fs x k
theorem Ty.fos_eq:∀(fs:yL Ty)(x:Ty.dens fs)(k:Ty.dens fs->O),Ty.fos fs x k=k x
 |[],_,k=>rfl
 |[t],x,k=>Ty.fo_eq t x k
 |t::u::r,x,k=>by rw[Ty.fos,Ty.fo_eq t];exact Ty.fos_eq (u::r) x.2 _
end
mutual
def TP.fo:TP->(TP->O)->O
 |.v t x,k=>t.fo x λx=>k (.v t x)
 |.sl nn t xs,k=>Zh7 t.fo xs λxs=>k (.sl nn t xs)
 |.agg xs,k=>TP.fos xs λxs=>k (.agg xs)
 |.arr n s xs,k=>TP.fos xs λxs=>k (.arr n s xs)
 |.sll nn s xs,k=>TP.fos xs λxs=>k (.sll nn s xs)
 |.iface t x,k=>TP.fo x λx=>k (.iface t x)
 |x,k=>k x
def TP.fos:yL TP->(yL TP->O)->O
 |[],k=>k []
 |x::r,k=>TP.fo x λx=>TP.fos r λr=>k (x::r)
end
mutual
theorem TP.fo_eq:∀(x:TP)(k:TP->O),x.fo k=k x
 |.v t x,k=>by rw[TP.fo,Ty.fo_eq]
 |.sl nn t xs,k=>by rw[TP.fo,QS (Ty.fo_eq t)]
 |.agg xs,k=>by rw[TP.fo,TP.fos_eq xs]
 |.arr n s xs,k=>by rw[TP.fo,TP.fos_eq xs]
 |.sll nn s xs,k=>by rw[TP.fo,TP.fos_eq xs]
 |.iface t x,k=>by rw[TP.fo,TP.fo_eq x]
 |.ptr0,k=>rfl
 |.fn0,k=>rfl
 |.if0,k=>rfl
 |.map0,k=>rfl
 |.fnv _,k=>rfl
theorem TP.fos_eq:∀(x:yL TP)(k:yL TP->O),TP.fos x k=k x
 |[],k=>rfl
 |x::r,k=>by rw[TP.fos,TP.fo_eq x,TP.fos_eq r]
end
def ZOb{α:Type}(f:α->(α->O)->O):yO α->(yO α->O)->O
 |none,k=>k none
 |some a,k=>f a λa=>k (some a)
theorem ZLd{α:Type}{f:α->(α->O)->O}(hf:∀a k,f a k=k a):∀(l:yO α)(k:yO α->O),ZOb f l k=k l
 |none,k=>rfl
 |some a,k=>hf a _
mutual
def TD.fo:TD->(TD->O)->O
 |.p x,k=>x.fo λx=>k (.p x)
 |.elem x,k=>x.fo λx=>k (.elem x)
 |.own id nn t c,k=>Zfu id λid=>ZOb (Zh7 t.fo) c λc=>k (.own id nn t c)
 |.ref id q,k=>Zfu id λid=>k (.ref id q)
 |.view id q s lo n,k=>Zfu id λid=>Zfu s λs=>Zfu lo λlo=>Zfu n λn=>k (.view id q s lo n)
 |.agg xs,k=>TD.fos xs λxs=>k (.agg xs)
 |.arr n s xs,k=>Zfu n λn=>Zfu s λs=>TD.fos xs λxs=>k (.arr n s xs)
 |.fn f xs,k=>TD.fos xs λxs=>k (.fn f xs)
 |.iface t x,k=>TD.fo x λx=>k (.iface t x)
 |.tup xs,k=>TD.fos xs λxs=>k (.tup xs)
 |.mp id,k=>Zfu id λid=>k (.mp id)
 |.rv id v s lo n,k=>Zfu id λid=>Zfu v λv=>Zfu s λs=>Zfu lo λlo=>Zfu n λn=>k (.rv id v s lo n)
 |.rref id v q,k=>Zfu id λid=>Zfu v λv=>k (.rref id v q)
 |.rw id,k=>Zfu id λid=>k (.rw id)
 |.rp id q,k=>Zfu id λid=>k (.rp id q)
 |.junk,k=>k .junk
def TD.fos:yL TD->(yL TD->O)->O
 |[],k=>k []
 |x::r,k=>TD.fo x λx=>TD.fos r λr=>k (x::r)
end
mutual
theorem TD.fo_eq:∀(x:TD)(k:TD->O),x.fo k=k x
 |.p x,k=>by rw[TD.fo,TP.fo_eq]
 |.elem x,k=>by rw[TD.fo,TP.fo_eq]
 |.own id nn t c,k=>by rw[TD.fo,X5,ZLd (QS (Ty.fo_eq t))]
 |.ref id q,k=>by rw[TD.fo,X5]
 |.view id q s lo n,k=>by rw[TD.fo,X5,X5,X5,X5]
 |.agg xs,k=>by rw[TD.fo,TD.fos_eq xs]
 |.arr n s xs,k=>by rw[TD.fo,X5,X5,TD.fos_eq xs]
 |.fn f xs,k=>by rw[TD.fo,TD.fos_eq xs]
 |.iface t x,k=>by rw[TD.fo,TD.fo_eq x]
 |.tup xs,k=>by rw[TD.fo,TD.fos_eq xs]
 |.mp id,k=>by rw[TD.fo,X5]
 |.rv id v s lo n,k=>by rw[TD.fo,X5,X5,X5,X5,X5]
 |.rref id v q,k=>by rw[TD.fo,X5,X5]
 |.rw id,k=>by rw[TD.fo,X5]
 |.rp id q,k=>by rw[TD.fo,X5]
 |.junk,k=>rfl
theorem TD.fos_eq:∀(x:yL TD)(k:yL TD->O),TD.fos x k=k x
 |[],k=>rfl
 |x::r,k=>by rw[TD.fos,TD.fo_eq x,TD.fos_eq r]
end
def TEnt.fo(e:TEnt)(k:TEnt->O):O:=match e with
 |.var d st=>d.fo λd=>Zv2 st λst=>k (.var d st)
 |.log t e xs=>Zh7 t.fo xs λxs=>k (.log t e xs)
 |.map tid a b l=>Zh7 (λq k=>a.fo q.1 λx=>b.fo q.2 λy=>k (x,y)) l λl=>k (.map tid a b l)
 |.row v s st e d=>Zfu v λv=>Zfu s λs=>Zv2 st λst=>d.fo λd=>k (.row v s st e d)
 |.rowT t v st e xs=>Zv2 st λst=>Zh7 t.fo xs λxs=>k (.rowT t v st e xs)
 |.rowN t np v st e a b=>Zv2 st λst=>Zh7 t.fo a λa=>Zh7 t.fo b λb=>k (.rowN t np v st e a b)
 |.rowM t np v st e a d b=>Zv2 st λst=>Zh7 t.fo a λa=>d.fo λd=>Zh7 t.fo b λb=>k (.rowM t np v st e a d b)
 |.gone=>k .gone
theorem TEnt.fo_eq(e:TEnt)(k:TEnt->O):e.fo k=k e:=by
 cases e with
 |var d st=>rw[TEnt.fo,TD.fo_eq,ZkL]
 |log t e xs=>rw[TEnt.fo,QS (Ty.fo_eq t)]
 |map tid a b l=>rw[TEnt.fo,QS λq k=>by rw[Ty.fo_eq a,Ty.fo_eq b]]
 |row v s st e d=>rw[TEnt.fo,X5,X5,ZkL,TD.fo_eq]
 |rowT t v st e xs=>rw[TEnt.fo,ZkL,QS (Ty.fo_eq t)]
 |rowN t np v st e a b=>rw[TEnt.fo,ZkL,QS (Ty.fo_eq t),QS (Ty.fo_eq t)]
 |rowM t np v st e a d b=>rw[TEnt.fo,ZkL,QS (Ty.fo_eq t),TD.fo_eq,QS (Ty.fo_eq t)]
 |gone=>rfl
def foS(a:yL TD)(h:yL TEnt)(k:yL TD->yL TEnt->O):O:=TD.fos a λa=>Zh7 TEnt.fo h λh=>k a h
theorem ZM2(a:yL TD)(h:yL TEnt)(k:yL TD->yL TEnt->O):foS a h k=k a h:=by rw[foS,TD.fos_eq,QS TEnt.fo_eq]
end Go.Ev
end
section
namespace Go.Ev
def Zz4(h:yL TEnt)(n0:Nat)(r:TD):yL Nat:=
 let got:=Ztt h 100000 (r.look++yu n0) []
 ((yu h.length).drop n0).filter got.contains
def Ty.mkFs(f:(T:Ty)->TD->yO T.den):(fs:yL Ty)->yL TD->yO (Ty.dens fs)
 |[],[]=>some ()
 |[t],[d]=>f t d
 |t::u::r,d::ds=>Zpu (f t d) (Ty.mkFs f (u::r) ds)
 |_,_=>none
def mkL{T:Ty}(f:TD->yO T.den):yL TD->yO (yL T.den)
 |[]=>some []
 |d::r=>(Zpu (f d) (mkL f r)).map λq=>q.1::q.2
def ZI4(H:yL TEnt)(id:Nat)(u:Ty):yO (yL u.den):=
 match H[id]? with
 |some (.rowT u' v false e l)=>Ty.castL u' u l
 |_=>none
theorem ZI5{H:yL TEnt}{id:Nat}{u:Ty}{l:yL u.den}(h:ZI4 H id u=some l):DeepR (erH H) ((TD.rw id).er (lk H)) ((Ty.sl u).enc l):=by
 unfold ZI4 at h;split at h
 ·rename_i u' v e l' hd;obtain⟨e1,h⟩:=ZQ h;subst e1;subst h;have hE:(erH H)[id]? =some (.row v.length u'.size false e (.p (.arr l.length u'.size (l.map u'.enc)))):=Xs hd;have:=DeepR.rvp (lo:=0) (n:=l.length) hE (by omega);rw[(Zjt hd).1,ZDq];rw[List.drop_zero, <-yac (f:=u'.enc),List.take_length,yac] at this;exact this
 ·cases h
def ZCc(H:yL TEnt):Nat->(T:Ty)->TD->yO T.den
 |0,_,_=>none
 |n+1,T,d=>match d with
  |.p x=>TP.to Zpv x T
  |.own id nn t c=>ZH2 true t (Yy (lk H) id t c) T
  |.agg ds=>ZH3 (λfs=>Ty.mkFs (ZCc H n) fs ds) T
  |.rw id=>match T with
   |.sl u=>ZI4 H id u
   |_=>none
  |.rv id v s lo k=>match T with
   |.sl u=>match H[id]? with
    |some (.row w s' false e d)=>if(w==v&&s'==s&&s==u.size)=true then match d with
      |.p x=>x.arow.bind λr=>(Ty.castL r.t u r.l).bind λl=>if decide (lo+k<=r.n)=true then some ((l.drop lo).take k) else none
      |.arr N s2 ds=>if(s2==s&&decide (lo+k<=N))=true then(mkL (ZCc H n u) ds).map λ(l:yL u.den)=>(l.drop lo).take k else none
      |_=>none
     else none
    |_=>none
   |_=>none
  |_=>none
theorem ZFv{H:yL Ent}{L:Lk}{f:(T:Ty)->TD->yO T.den}(hf:∀T d y,f T d=some y->DeepR H (d.er L) (T.enc y)):∀(fs:yL Ty)(ds:yL TD)(y:Ty.dens fs),Ty.mkFs f fs ds=some y->
 (TD.ers L ds).length=(Ty.encs fs y).length/\∀(i:Nat)(d:Dv)(z:Pl),(TD.ers L ds)[i]? =some d->(Ty.encs fs y)[i]? =some z->DeepR H d z
 |[],[],y,h=>⟨rfl,λi d z h1 _=>by simp[TD.ers] at h1⟩
 |[],_::_,y,h=>by cases h
 |[t],[],y,h=>by cases h
 |[t],[d],y,h=>by
  refine⟨rfl,λi d' z h1 h2=> ?_⟩
  cases i with
  |zero=>cases h1;cases h2;exact hf t d y h
  |succ i=>simp[TD.ers] at h1
 |[t],_::_::_,y,h=>by cases h
 |t::u::r,[],y,h=>by cases h
 |t::u::r,d::ds,y,h=>by
  obtain⟨h1,h2⟩:=Zcy (α:=t.den) (β:=Ty.dens (u::r)) h;obtain⟨h3,h4⟩:=ZFv hf (u::r) ds y.2 h2;refine⟨by rw[TD.ers,Ty.encs,yai,yai,h3],λi d' z k1 k2=> ?_⟩
  cases i with
  |zero=>cases k1;cases k2;exact hf t d y.1 h1
  |succ i=>exact h4 i d' z k1 k2
theorem ZI6{H:yL Ent}{L:Lk}{T:Ty}{f:TD->yO T.den}(hf:∀d y,f d=some y->DeepR H (d.er L) (T.enc y)):∀(ds:yL TD)(l:yL T.den),mkL f ds=some l->
 (TD.ers L ds).length=(l.map T.enc).length/\∀(i:Nat)(d:Dv)(z:Pl),(TD.ers L ds)[i]? =some d->(l.map T.enc)[i]? =some z->DeepR H d z
 |[],l,h=>by cases h;exact⟨rfl,λi d z h1 _=>by simp[TD.ers] at h1⟩
 |d::ds,l,h=>by
  obtain⟨q,h1,rfl⟩:=Zd h;obtain⟨h1,h2⟩:=Zcy h1;obtain⟨h3,h4⟩:=ZI6 hf ds q.2 h2;refine⟨by rw[TD.ers,yaj,yai,yai,h3],λi d' z k1 k2=> ?_⟩
  cases i with
  |zero=>cases k1;cases k2;exact hf d q.1 h1
  |succ i=>exact h4 i d' z k1 k2
theorem Zv3{H:yL TEnt}:∀(n:Nat)(T:Ty)(d:TD)(y:T.den),ZCc H n T d=some y->DeepR (erH H) (d.er (lk H)) (T.enc y)
 |0,_,_,_,h=>by cases h
 |n+1,T,d,y,h=>by
  unfold ZCc at h;split at h
  ·exact .wk (.p _) (ZBu h)
  ·rename_i id nn t c;obtain⟨l,_,e1,rfl⟩:=Zsm (nn:=none) h;rw[e1,TD.er];exact .wk (.own id nn t.size _) (PlWk.sl_mk (PlsWk.refl _))
  ·rename_i ds;obtain⟨fs,z,h1,e1⟩:=Zsn h;rw[e1,TD.er];obtain⟨h2,h3⟩:=ZFv (λT d y=>Zv3 n T d y) fs ds z h1;exact .agg h2 h3
  ·rename_i id
   cases T with
   |sl u=>exact ZI5 h
   |_=>cases h
  ·rename_i id v s lo k;split at h
   ·rename_i u;split at h
    ·rename_i w s' e dd hd;obtain⟨hk,g⟩:=Za h;clear h;simp only[yi,yT] at hk;obtain⟨⟨hk1,hk2⟩,hk3⟩:=hk;have hE:=Xs hd;rw[hk1,hk2,hk3] at hE;split at g
     ·rename_i x;obtain⟨r,p1,g1⟩:=yf.1 g;obtain⟨l,p2,g2⟩:=yf.1 g1;obtain⟨p3,g3⟩:=Za g2;cases g3;obtain⟨rn,rt,rl⟩:=r;obtain⟨e1,p2⟩:=ZQ p2;dsimp only at e1 p2 p3;subst e1;subst p2;rw[TEnt.er,TD.er,Zcm p1] at hE;have:=DeepR.rvp hE (yF p3);rw[ZDq,List.map_take,List.map_drop,TD.er,hk3];exact this
     ·rename_i N s2 ds;obtain⟨p1,g1⟩:=Za g;simp only[yi,yT,yP] at p1;obtain⟨q1,p1⟩:=p1;obtain⟨l,p2,g2⟩:=Zd g1;subst g2;obtain⟨h2,h3⟩:=ZI6 (λd y=>Zv3 n u d y) ds l p2;rw[TEnt.er,TD.er,q1,hk3] at hE;have:=DeepR.rva hE p1 h2 h3;rw[ZDq,List.map_take,List.map_drop,TD.er,hk3];exact this
     ·cases g
    ·cases h
   ·cases h
  ·cases h
def ZCd:TEnt->TEnt
 |.row v s _ e d=>.row v s false e d
 |.rowT t v _ e l=>.rowT t v false e l
 |e=>e
def ZlC(ids:yL Nat)(H:yL TEnt):yL TEnt:=(yu H.length).zipWith (λi e=>if ids.contains i then ZCd e else e) H
theorem ZI7(e:TEnt):lkE (some (ZCd e))=lkE (some e):=by cases e <;> rfl
theorem Zty(ids:yL Nat)(H:yL TEnt)(i:Nat):(ZlC ids H)[i]? =(H[i]?).map λe=>if ids.contains i then ZCd e else e:=by
 unfold ZlC;rw[List.getElem?_zipWith];rcases ycb i H.length with h|h
 ·rw[List.getElem?_range h,yab h];rfl
 ·rw[yap (by simpa using h),yap h];rfl
theorem Zv4(ids:yL Nat)(H:yL TEnt):lk (ZlC ids H)=lk H:=by
 funext i;unfold lk;rw[Zty]
 cases H[i]? with
 |none=>rfl
 |some e=>
  show lkE (some (if ids.contains i=true then ZCd e else e))=_
  split
  ·exact ZI7 e
  ·rfl
theorem ZEa(ids:yL Nat)(H:yL TEnt):WkH (erH H) (erH (ZlC ids H)):=by
 refine ZDX (by rw[Yb,Yb];unfold ZlC;simp) λi a b h1 h2=> ?_;unfold erH at h1 h2;rw[List.getElem?_map] at h1 h2;rw[Zv4,Zty] at h2
 cases he:H[i]? with
 |none=>rw[he] at h1;cases h1
 |some e=>
  rw[he] at h1 h2;cases h1;cases h2;show WkE (e.er (lk H)) (TEnt.er (lk H) (if ids.contains i=true then ZCd e else e))
  split
  ·cases e <;> first|exact .refl _|exact .lock
  ·exact .refl _
def ZEb:yL TEnt->Nat->Bool
 |H,i=>match H[i]? with
  |some (.row _ _ _ _ _)=>true
  |some (.rowT _ _ _ _ _)=>true
  |_=>false
def ZFw(P:yg)(H:yL TEnt)(t:yc)(d:TD):yO TD:=
 match d with
 |.p x=>some (.p x)
 |d=>(Zo1 P tyD t).bind λT=>(ZCc H 100 T d).map λy=>.p (.v T y)
theorem ZCe{P:yg}{H:yL TEnt}{t:yc}{d e:TD}(h:ZFw P H t d=some e):DeepP (erH H) (d.er (lk H)) (e.er (lk H)):=by
 unfold ZFw at h;split at h
 ·cases h;exact .refl _
 ·obtain⟨T,h1,h⟩:=yf.1 h;obtain⟨y,h2,rfl⟩:=Zd h;exact .deep (Zv3 _ _ _ _ h2)
def Zz5(P:yg)(H:yL TEnt):yL yc->yL TD->yO (yL TD)
 |[],[]=>some []
 |t::r,d::ds=>match ZFw P H t d,Zz5 P H r ds with
  |some a,some b=>some (a::b)
  |_,_=>none
 |_,_=>none
theorem Zyq{P:yg}{H:yL TEnt}:∀{ts:yL yc}{ds es:yL TD},Zz5 P H ts ds=some es->DeepL (erH H) (TD.ers (lk H) ds) (TD.ers (lk H) es)
 |[],[],es,h=>by cases h;exact .nil
 |[],_::_,es,h=>by cases h
 |_::_,[],es,h=>by cases h
 |t::r,d::ds,es,h=>by
  simp only[Zz5] at h;split at h
  ·rename_i a b h1 h2;cases h;exact .cons (ZCe h1) (Zyq h2)
  ·cases h
def ZI8(P:yg)(H:yL TEnt)(ts:yL yc)(r:TD):yO TD:=
 match ts with
 |[t]=>ZFw P H t r
 |ts=>match r with
  |.tup ds=>(Zz5 P H ts ds).map .tup
  |_=>none
theorem ZI9{P:yg}{H:yL TEnt}{ts:yL yc}{r r':TD}(h:ZI8 P H ts r=some r'):DeepT (erH H) (r.er (lk H)) (r'.er (lk H)):=by
 unfold ZI8 at h;split at h
 ·exact .one (ZCe h)
 ·split at h
  ·obtain⟨es,h1,rfl⟩:=Zd h;exact .tup (Zyq h1)
  ·cases h
def ZG4{O:Type}(P:yg)(ts:yL yc)(r:TD)(H:yL TEnt)(K:TD->yL TEnt->yO O):yO O:=
 match ts with
 |[]=>K r H
 |ts=>(ZI8 P (ZlC ((Ztt H 100000 r.look []).filter (ZEb H)) H) ts r).bind λr'=>K r' (ZlC ((Ztt H 100000 r.look []).filter (ZEb H)) H)
theorem Zyr{O:Type}{P:yg}{ts:yL yc}{r:TD}{H:yL TEnt}{K:TD->yL TEnt->yO O}{out:O}{g:yv}{args:yL Dv}{H0:yL Ent}(h:ZG4 P ts r H K=some out)(hc:Con P g args H0 (r.er (lk H)) (erH H)):
 ∃r' H',K r' H'=some out/\Con P g args H0 (r'.er (lk H')) (erH H'):=by
 unfold ZG4 at h;split at h
 ·exact⟨_,_,h,hc⟩
 ·obtain⟨r',h1,h2⟩:=yf.1 h;generalize (Ztt H 100000 r.look []).filter (ZEb H)=ids at h1 h2;refine⟨_,_,h2,ZH1 hc (ZEa ids H) ?_⟩;have:=ZI9 h1;rw[Zv4] at this ⊢;exact this
def ZG5{O:Type}(h:yL TEnt)(n0:Nat)(ds:yL TD)(K:TD->yL TEnt->yO O):yO O:=
 let keep:=Zz4 h n0 (ZvZ ds)
 if once (yu n0++keep) then(match Dv.rn (toIds (yu n0++keep)) ((ZvZ ds).er (lk h)) with
  |some _=>(ZvZ ds).rn (toIds (yu n0++keep))
  |none=>(ZvZ (ds.map (TD.arg (lk h)))).rn (toIds (yu n0++keep))).bind λr=>
  (VA h (yu n0++keep) (yu n0++keep)).bind λh2=>K r h2
 else none
section
variable{P:yg}
def ZJa(P:yg)(his:yv->HI)(l:yL (Fs P))(mt:yL (yc×String×yv))(ghs:yv->yL (Nat×GOp)):Nat->(O:Type)->yv->yL TD->yL TEnt->(TD->yL TEnt->yO O)->yO O
 |0,_,_,_,_,_=>none
 |n+1,O,g,args,H,K=>foS args H λargs H=>match P.funcs[g]? with
  |some fn=>match fn.body with
   |some c=>if decide (args.length<=fn.ntmps)=true then
     evT P { hi:=his g,un:=1000000,gh:=ghs g} ⟨l,ZJa P his l mt ghs n,mt,[]⟩ c 0 0 (args++yy (fn.ntmps - args.length) .junk) H λex a h=>match ex with
      |.exit _=>none
      |_=>Zxl P a h fn.results.toList λds _=>ZG5 h H.length ds λr h=>ZG4 P (his g).deep r h λr h=>foS [r] h λrs h=>match rs with
       |[r]=>K r h
       |_=>none
     else none
   |none=>none
  |none=>none
theorem ZFx{his:yv->HI}{l:yL (Fs P)}{mt:yL (yc×String×yv)}{ghs:yv->yL (Nat×GOp)}(hl:AllOk l)(hm:MtOk P mt):∀(n:Nat),HdOk P (ZJa P his l mt ghs n)
 |0=>λ_ _ _ _ _ _ h=>by cases h
 |n+1=>λO g args H K out hM=>by
  unfold ZJa at hM;simp only[ZM2] at hM;split at hM
  ·rename_i fn hf;split at hM
   ·rename_i c hb1;obtain⟨hn,hM⟩:=Za hM;have hn:=yF hn
    have zY:(args++yy (fn.ntmps - args.length) TD.junk).length=fn.ntmps:=by
     rw[yl,ycq];omega
    obtain⟨ex,a,hh,k1,k2,k3⟩:=VC (N:=fn.ntmps) (specs:=⟨l,ZJa P his l mt ghs n,mt,[]⟩) ⟨hl,ZFx hl hm n,hm,ytt⟩ c _ _ _ _ _ zY (λk b hk lp h=>by cases h) (λk b hk lp h=>by cases h) hM
    have hex:(ex=.ret\/ex=.normal)/\(Zxl P a hh fn.results.toList λds _=>ZG5 hh H.length ds λr h=>ZG4 P (his g).deep r h K)=some out:=by
     cases ex with
     |exit _=>cases k1
     |normal=>exact⟨.inr rfl,k1⟩
     |ret=>exact⟨.inl rfl,k1⟩
    obtain⟨hex,k1⟩:=hex;obtain⟨ds,hs,C,g1,g2,g3⟩:=ZkK _ _ k1;unfold ZG5 at g1;dsimp only at g1;generalize Zz4 hh H.length (ZvZ ds)=keep at g1;obtain⟨g5,g1⟩:=Za g1;obtain⟨r,g6,g1⟩:=yf.1 g1;obtain⟨e2,g7,g1⟩:=yf.1 g1;refine Zyr g1 ?_
    have hfin:fin P fn (TD.ers (lk hh) a) (erH hh) (erH H).length keep hs=some (C,r.er (lk e2),erH e2):=by
     unfold fin;have:=g3 [];rw[ybd] at this;rw[this];dsimp only;rw[Yb,g5, <-ZoP,show subEnts (erH hh) _ _=some (erH e2) from Vq (Zca g7) g7]
     split at g6
     ·rename_i r0 hr0;have e4:=Zh6 (Zca g7) _ _ g6;rw[e4]
     ·rename_i hr0;have e4:=Zh6 (Zca g7) _ _ g6;rw[ZoP,ZW,ybi] at e4
      rw[hr0,show(TD.ers (lk hh) ds).map Dv.arg=ds.map (TD.er (lk hh) ∘ TD.arg (lk hh)) by
       rw[ZW,ybi];exact List.map_congr_left λd _=>(ZD9 d).symm,e4]
    have zW:VO P c (TD.ers (lk H) args++yy (fn.ntmps - (TD.ers (lk H) args).length) .junk) (erH H) ex (TD.ers (lk hh) a) (erH hh):=by
     have e5:TD.ers (lk H) (args++yy (fn.ntmps - args.length) TD.junk)=TD.ers (lk H) args++yy (fn.ntmps - (TD.ers (lk H) args).length) .junk:=by
      rw[Zzh,ZW,ZW,List.map_append,List.map_replicate];rfl
     rw[<-e5];exact k3
    exact Znm hf hb1 zW hex hfin g2
   ·cases hM
  ·cases hM
def ZM3(P:yg)(his:yv->HI)(l:yL (Fs P))(mt:yL (yc×String×yv))(n:Nat)(g:yv)(ghs:yv->yL (Nat×GOp):=λ_=>[]):yO Bool:=
 ZJa P his l mt ghs n Bool g [] [] λr h=>match h with
  |[]=>r.boolT
  |_=>none
theorem ZLe{his:yv->HI}{l:yL (Fs P)}{mt:yL (yc×String×yv)}{ghs:yv->yL (Nat×GOp)}{n:Nat}{g:yv}{b:Bool}(hl:AllOk l)(hm:MtOk P mt)(h:ZM3 P his l mt n g ghs=some b):Con P g [] [] (.p (.bool b)) []:=by
 obtain⟨r,H',h1,h2⟩:=ZFx hl hm n _ _ _ _ _ _ h;split at h1
 ·rw[ZkD h1] at h2;exact h2
 ·cases h1
theorem ZM4{his:yv->HI}{l:yL (Fs P)}{mt:yL (yc×String×yv)}{ghs:yv->yL (Nat×GOp)}{n:Nat}{g:yv}{b:Bool}(hl:AllOk l)(hm:MtOk P mt)(h:ZM3 P his l mt n g ghs=some b):
 Fs.Ok (⟨g,[],[],[],[⟨.ret,[(0,.v .bool)],[],[.bool]⟩],λ_=>some b⟩:Fs P):=by
 intro x o hM;cases hM;refine⟨[],[],[],rfl,rfl,λe vs s' hs hf=> ?_⟩;obtain⟨rfl,rfl⟩:=hs;cases hf;exact⟨_,rfl,ZLe hl hm h⟩
end
theorem okN{P:yg}(s:Nat->Fs P)(h:(s yD).Ok):(s 18446744073709551616).Ok:=by
 rw[Zdf] at h;exact h
theorem ZJb{P:yg}{g:yv}{args:yL Dv}{H H1 H2:yL Ent}{r r2:Dv}{keep:yL Nat}(h:Con P g args H r H1)(ho:once (yu H.length++keep)=true)
 (hin:subEnts H1 (yu H.length++keep) (yu H.length++keep)=some H2) (hr:r.rn (toIds (yu H.length++keep))=some r2):Con P g args H r2 H2:=by
 intro σ vs ok e hv;refine Calls.mono (h σ vs ok e hv) ?_;rintro e' w' ⟨v,σ',h1,h2,h3,h4,h5,h6⟩;subst h3;subst e;exact⟨v,Zpt σ' (yu σ.H.length++keep) H2,h1,h2,rfl,Zux ok h4 ho hin,Zuw h5 ho hin,ZhU (Zlt hin) hr h6⟩
def ZFy(h:yL TEnt)(n0:Nat)(r:TD)(e:XSh):yO (Ty.dens e.ty):=
 match e.sl with
 |[(0,rs)]=>(ZI3 h rs e.es n0 r).bind λkeep=>
  if once (yu n0++keep) then(r.rn (toIds (yu n0++keep))).bind λr=>
   (VA h (yu n0++keep) (yu n0++keep)).bind λh2=>(Sh.mt (lk h2) rs r).bind λq=>(ESh.mts (lk h2) e.es h2).bind λw=>toD e.ty (q.2++w.2)
  else none
 |_=>none
def Zv5(h:yL TEnt)(n0:Nat)(r:TD):(l:yL XSh)->yO (XSh.sum l)
 |[]=>none
 |[e]=>ZFy h n0 r e
 |e::f::q=>match ZFy h n0 r e with
  |some x=>some (Sum.inl x:Ty.dens e.ty⊕XSh.sum (f::q))
  |none=>(Zv5 h n0 r (f::q)).map λx=>(Sum.inr x:Ty.dens e.ty⊕XSh.sum (f::q))
theorem Ztz{h:yL TEnt}{n0:Nat}{r:TD}:∀{l:yL XSh}{o:XSh.sum l},Zv5 h n0 r l=some o->∀e vs,ZBT l o e vs->∃x,ZFy h n0 r e=some x/\vs=ofD e.ty x
 |[],_,k,_,_,_=>by cases k
 |[e],o,k,x,vs,hs=>by
  obtain⟨rfl,rfl⟩:=hs
  exact⟨o,k,rfl⟩
 |e::f::q,o,k,x,vs,hs=>by
  simp only[Zv5] at k;split at k
  ·rename_i y hy;cases k;obtain⟨rfl,rfl⟩:=hs;exact⟨y,hy,rfl⟩
  ·obtain⟨y,h1,h2⟩:=Zd k;subst h2;exact Ztz h1 x vs hs
section
variable{P:yg}
def fnD(P:yg)(fi:FI)(specs:Sp P)(g:yv)(ps:yL Sh)(es:yL ESh)(ins:yL Ty)(xs:yL XSh):Ty.dens ins->yO (XSh.sum xs):=λx=>
 match P.funcs[g]? with
 |some fn=>match fn.body with
  |some c=>(Sh.fills ps (ofD ins x)).bind λq=>(ESh.fills es q.2).bind λw=>if w.2.isEmpty then
    evT P fi specs c 0 0 (q.1++yy (fn.ntmps - q.1.length) .junk) w.1 λex a h=>match ex with
     |.exit _=>none
     |_=>Zxl P a h fn.results.toList λds _=>ZG5 h w.1.length ds λr h=>ZG4 P fi.hi.deep r h λr h=>Zv5 h w.1.length r xs
    else none
  |none=>none
 |none=>none
theorem ZLf{fi:FI}{specs:Sp P}{g:yv}{ps:yL Sh}{es:yL ESh}{ins:yL Ty}{xs:yL XSh}{M:Ty.dens ins->yO (XSh.sum xs)}(ok:SpOk specs)(hl:Znt P g (Qt P g) fi.lp:=by exact True.intro)(hn:ps.length<=Qt P g:=by decide+kernel)
 (h:∀x,fnD P fi specs g ps es ins xs x=M x:=by intro v;kernel_rfl) (hb:ZvY P (Qt P g) (VQ P g) fi.bk:=by exact True.intro):Fs.Ok (⟨g,ps,es,ins,xs,M⟩:Fs P):=by
 intro x o hM;have hM:M x=some o:=hM;rw[<-h x] at hM;have hl':=ZFu hl;unfold fnD at hM;split at hM
 ·rename_i fn hf;split at hM
  ·rename_i c hb1;obtain⟨q,h1,hM⟩:=yf.1 hM;obtain⟨w,h2,hM⟩:=yf.1 hM;obtain⟨h3,hM⟩:=Za hM;have hN:Qt P g=fn.ntmps:=by unfold Qt;rw[hf]
   have hc:VQ P g=c:=by unfold VQ;rw[hf];dsimp only;rw[hb1];rfl
   rw[hc,hN] at hl' hb;have hb0:=ZuE hb;rw[hN] at hn
   have zY:(q.1++yy (fn.ntmps - q.1.length) TD.junk).length=fn.ntmps:=by
    rw[yl,ycq,ZoK h1];omega
   obtain⟨ex,a,hh,k1,k2,k3⟩:=VC ok c _ _ _ _ _ zY hl' hb0 hM
   have hex:(ex=.ret\/ex=.normal)/\(Zxl P a hh fn.results.toList λds _=>ZG5 hh w.1.length ds λr h=>ZG4 P fi.hi.deep r h λr h=>Zv5 h w.1.length r xs)=some o:=by
    cases ex with
    |exit _=>cases k1
    |normal=>exact⟨.inr rfl,k1⟩
    |ret=>exact⟨.inl rfl,k1⟩
   obtain⟨hex,k1⟩:=hex;obtain⟨ds,hs,C,g1,g2,g3⟩:=ZkK _ _ k1;refine⟨q.1,q.2,w.1,h1, ?_,λe vs s' hsel hfs=> ?_⟩
   ·rw[h2];have:w.2=[]:=by simpa using h3
    rw[<-this]
   unfold ZG5 at g1;dsimp only at g1;generalize Zz4 hh w.1.length (ZvZ ds)=keep at g1;obtain⟨g5,g1⟩:=Za g1;obtain⟨r,g6,g1⟩:=yf.1 g1;obtain⟨e2,g7,g1⟩:=yf.1 g1
   have zW:VO P c (TD.ers (lk w.1) q.1++yy (fn.ntmps - (TD.ers (lk w.1) q.1).length) .junk) (erH w.1) ex (TD.ers (lk hh) a) (erH hh):=by
    have e5:TD.ers (lk w.1) (q.1++yy (fn.ntmps - q.1.length) TD.junk)=TD.ers (lk w.1) q.1++yy (fn.ntmps - (TD.ers (lk w.1) q.1).length) .junk:=by
     rw[Zzh,ZW,ZW,List.map_append,List.map_replicate];rfl
    rw[<-e5];exact k3
   have hfin:fin P fn (TD.ers (lk hh) a) (erH hh) (erH w.1).length keep hs=some (C,r.er (lk e2),erH e2):=by
    unfold fin;have:=g3 [];rw[ybd] at this;rw[this];dsimp only;rw[Yb,g5, <-ZoP,show subEnts (erH hh) _ _=some (erH e2) from Vq (Zca g7) g7]
    split at g6
    ·rename_i r0 hr0;have e4:=Zh6 (Zca g7) _ _ g6;rw[e4]
    ·rename_i hr0;have e4:=Zh6 (Zca g7) _ _ g6;rw[ZoP,ZW,ybi] at e4
     rw[hr0,show(TD.ers (lk hh) ds).map Dv.arg=ds.map (TD.er (lk hh) ∘ TD.arg (lk hh)) by
      rw[ZW,ybi];exact List.map_congr_left λd _=>(ZD9 d).symm,e4]
   obtain⟨r',H',m1,m2⟩:=Zyr g1 (Znm hf hb1 zW hex hfin g2);obtain⟨o1,m3,hvs⟩:=Ztz m1 e vs hsel;unfold ZFy at m3;split at m3
   case h_2=>cases m3
   rename_i rs hsl;obtain⟨keep2,n1,m3⟩:=yf.1 m3;obtain⟨n2,m3⟩:=Za m3;obtain⟨r3,n3,m3⟩:=yf.1 m3;obtain⟨e3,n4,m3⟩:=yf.1 m3;obtain⟨z,g8,m3⟩:=yf.1 m3;obtain⟨y,g9,m3⟩:=yf.1 m3;obtain⟨b1,b2⟩:=ZkI g9;have hcc:∀id t,Yy (lk e3) id t none=Yy (lk y.1) id t none:=λid t=>by rw[b2]
   have eo:=Ze9 _ _ _ m3
   have efill:s'=([z.1],y.1):=by
    rw[hvs,eo,hsl] at hfs;unfold Zas at hfs;rw[show shs [(0,rs)] 1=[rs] from rfl] at hfs
    simp only[Sh.fills,ZoI _ _ _ g8,ya,Option.map_some] at hfs;have:=ZcA g9 [];rw[ybd] at this;rw[this] at hfs;exact(Option.some.inj hfs).symm
   subst efill;refine⟨z.1,rfl, ?_⟩
   have hk:Con P g (TD.ers (lk w.1) q.1) (erH w.1) (r3.er (lk e3)) (erH e3):=by
    refine ZJb (keep:=keep2) m2 (by rw[Yb];exact n2) ?_ ?_
    ·rw[Yb];exact Vq (Zca n4) n4
    ·rw[Yb];exact Zh6 (Zca n4) _ _ n3
   exact ZBn hk (ZvJ hcc _ _ _ g8) (ZoJ hcc g9)
  ·cases hM
 ·cases hM
end
end Go.Ev
end
section
namespace Go.Ev
open Go.RowKit Go.WideShapes Go.ChangeShapes
def Y3(P:yg):Nat->yc->Bool
 |0,_=>false
 |n+1,t=>match P.underlying t with
  |some .bool=>true
  |some (.int _)=>true
  |some .string=>true
  |some (.slice e)=>Y3 P n e&&decide (0 < P.cellsOf e)
  |some (.array m e)=>Y3 P n e&&P.cellsOf t==m*P.cellsOf e
  |some (.struct fs)=>(fs.toList.all λf=>Y3 P n f.type)&&P.cellsOf t==(fs.toList.map λf=>P.cellsOf f.type).sum&&
    ((yu fs.toList.length).all λj=>match fs.toList[j]? with|some f=>f.offset==((fs.toList.take j).map λf=>P.cellsOf f.type).sum|none=>true)
  |_=>false
theorem Zz6(P:yg):Kids P (λt=>∃n,Y3 P n t=true) where
 pointer:=by
  rintro t e ⟨n,h⟩ hu
  cases n with
  |zero=>simp[Y3] at h
  |succ n=>simp[Y3,hu] at h
 slice:=by
  rintro t e ⟨n,h⟩ hu
  cases n with
  |zero=>simp[Y3] at h
  |succ n=>simp[Y3,hu] at h;exact⟨n,h.1⟩
 array:=by
  rintro t e m ⟨n,h⟩ hu
  cases n with
  |zero=>simp[Y3] at h
  |succ n=>simp[Y3,hu] at h;exact⟨⟨n,h.1⟩,h.2⟩
 struct:=by
  rintro t fs ⟨n,h⟩ hu
  cases n with
  |zero=>simp[Y3] at h
  |succ n=>
   simp only[Y3,hu,yi,yT,List.all_eq_true] at h;obtain⟨⟨h1,h2⟩,h3⟩:=h;refine⟨λf hf=>⟨n,h1 f hf⟩,h2,λj f hf=> ?_⟩;have hj:j < fs.toList.length:=(yq.1 hf).1;have:=h3 j (by simpa using hj);rw[hf] at this;simpa using this
 map:=by
  rintro t k e ⟨n,h⟩ hu
  cases n with
  |zero=>simp[Y3] at h
  |succ n=>simp[Y3,hu] at h
def ZLg(R:yc->Pl->Prop):yL Field->yL Pl->Prop
 |[],[]=>True
 |f::fs,y::ys=>R f.type y/\ZLg R fs ys
 |_,_=>False
def wtP(P:yg):Nat->yc->Pl->Prop
 |0,_,_=>False
 |n+1,t,x=>match P.underlying t,x with
  |some .bool,.bool _=>True
  |some (.int k),.int k' m=>k'=k/\(Lit.int k m).wf=true
  |some .string,.str s=>s.size<=maxLen
  |some (.slice e),.sl nn s xs=>s=P.cellsOf e/\nn=none/\xs.length<=maxLen/\∀y,y∈xs->wtP P n e y
  |some (.array m e),.arr m' s xs=>m'=m/\s=P.cellsOf e/\xs.length=m/\∀y,y∈xs->wtP P n e y
  |some (.struct fs),.agg xs=>ZLg (wtP P n) fs.toList xs
  |_,_=>False
def Zz7:Nat->Nat->Prop:=λ_ _=>True
section
variable{H:Type}{enc:yc×yh->H}{P:yg}{w:World}{base:Nat}{sp:Nat->Bool}{held:Bool}
theorem ZG6:∀{s:Nat}{a:Addr}{cs:yL yh},w.cells? base a s=some cs->cs.length=s/\∀j u,cs[j]? =some u->w.cell? (a.add j)=some u:=by
 intro s a cs h;unfold World.cells? at h;split at h
 ·have hl:cs.length=s:=by simpa using mapM_some_length h
  refine⟨hl,λj u hu=> ?_⟩;have hj:j < s:=by rw[<-hl];exact(yq.1 hu).1
  have:=mapM_some_get h j j (by simp[hj]);rw[hu] at this;exact this
 ·cases h
end
end Go.Ev
namespace Go.Ev
open Go.RowKit Go.WideShapes Go.ChangeShapes
def ZLh(P:yg)(n:Nat):yL yc->yL Pl->Prop
 |[],[]=>True
 |t::ts,x::xs=>wtP P n t x/\ZLh P n ts xs
 |_,_=>False
section
variable{H:Type}{enc:yc×yh->H}{P:yg}
def sg0(W:World):Sg:={ F:=Zz7,B:=λb=>W.heap.size<=b,m:=[],H:=[],w:=W}
theorem ZM5(W:World):Ok (sg0 W) where
 len:=rfl
 inj i j b h:=by simp[sg0] at h
 lt i b h:=by simp[sg0] at h
 ent i e a h:=by simp[sg0] at h
 new b h:=h
 own i b h:=by simp[sg0] at h
theorem ZJc(W:World)(b o:Nat):(sg0 W).stab b o:=⟨.inl trivial,λid e h=>by simp[sg0] at h⟩
theorem Zv6{W:World}{x:Pl}{v:yh}{cs:yL yh}(hx:repC W Zz7 x cs)(hc:v.cells.toList=cs)(hv:x.isAgg=true->∃a,v=.agg a)(hn:x.isAgg=false->cs=[v]):yK (sg0 W) (.p x) v:=by
 have hm:repC W (sg0 W).stab x cs:=ZcJ (λb o u h _=>⟨h,ZJc W b o⟩) x cs hx;refine⟨λha=> ?_,λha=> ?_⟩
 ·obtain⟨a,rfl⟩:=hv ha;refine⟨a,rfl, ?_⟩;simp only[yJ];have:a.toList=cs:=by rw[<-hc];rfl
  rw[this];exact hm
 ·simp only[yJ];have e:=hn ha;rw[<-e];exact hm
theorem ZM6:∀{n:Nat}{t:yc}{x:Pl},wtP P n t x->x.isAgg=Vd P t
 |0,_,_,h=>by simp[wtP] at h
 |n+1,t,x,h=>by
  unfold wtP at h;split at h <;> rename_i hu <;> first|(simp[Pl.isAgg,Vd,hu];done)|exact h.elim
theorem Zpw{W W':World}{sp':Nat->Bool}{n:Nat}:∀(ts:yL yc)(vs:yL yh)(ds:yL (DataW H))(ps:yL MemPlace),(∀t,t∈ts->Y3 P n t=true)->
 DataW.TrodAll enc P W 0 (λ_=>true) true ts vs ds ps->(∀p∈ps,W.sameAt W' p)->(∀p∈ps,sp' p.block=true)->DataW.TrodAll enc P W' 0 sp' true ts vs ds ps
 |[],[],[],_,_,h,_,_=>h
 |[],_::_,_,_,_,h,_,_=>by simp[DataW.TrodAll] at h
 |[],[],_::_,_,_,h,_,_=>by simp[DataW.TrodAll] at h
 |_::_,[],_,_,_,h,_,_=>by simp[DataW.TrodAll] at h
 |_::_,_::_,[],_,_,h,_,_=>by simp[DataW.TrodAll] at h
 |t::ts,v::vs,d::ds,ps,hp,h,hs,hb=>by
  obtain⟨p,q,⟨yD,h1⟩,h2,rfl⟩:=h;refine⟨p,q,⟨yD, ?_⟩,Zpw ts vs ds q (λu hu=>hp u (yba _ hu)) h2 (λz hz=>hs z (List.mem_append_right _ hz)) (λz hz=>hb z (List.mem_append_right _ hz)),rfl⟩
  exact DataW.trod_stays (Zz6 P) (λ{t e}⟨n,hn⟩hu=>by
   cases n with
   |zero=>simp[Y3] at hn
   |succ n=>simp[Y3,hu] at hn;exact hn.2) (by simp) ⟨n,hp t (yay ..)⟩ h1 (λz hz=>hs z (List.mem_append_left _ hz)) (λz hz=>hb z (List.mem_append_left _ hz))
theorem ZCf{W:World}{σ':Sg}(h:To (sg0 W) σ'):Below W.heap.size W σ'.w:=
 ⟨h.os,h.tape,h.output,h.size,λb hb=>h.block b hb (λid=>by simp[sg0])⟩
theorem Zv7{f:Func}{s:ChangeSpec}{apart fresh handsOn again:Bool}{W W':World}{args:Array yh}{v:yh}{ds gs:yL (DataW H)}{before pa pv:yL MemPlace}
 (hW:DataW.Whole enc P f.params.toList s.vars apart W args.toList ds gs before)
 (hres:∀(b:Nat)(sp:Nat->Bool)(hd:Bool),DataW.TrodAll enc P W' b sp hd f.resultTypes.toList (v.resultList f.resultTypes.size) (s.fn H (ds++gs)).results [])
 (zL:∀sp:Nat->Bool,(∀p∈before,sp p.block=true)->DataW.TrodAll enc P W' 0 sp true f.params.toList args.toList (s.fn H (ds++gs)).args pa)
 (hvars:∀sp:Nat->Bool,(∀p∈before,sp p.block=true)->DataW.TrodVars enc P W' sp s.vars (s.fn H (ds++gs)).vars pv)
 (hps:before=pa++pv) (hb:Below W.heap.size W W')
 (hok:∀(j:Nat)(t:yc)(r:yh),f.resultTypes[j]? =some t->(v.resultList f.resultTypes.size)[j]? =some r->Value.okWide P W' .any 0 t r):
 s.post enc P f apart fresh handsOn again W args v W':=by
 have hlt:∀p∈before,p.block < W.heap.size:=λp hp=>hW.lt p hp;have hold:∀p∈before,(λb=>decide (b < W.heap.size)) p.block=true:=λp hp=>by simpa using hlt p hp
 refine⟨ds,gs,before,[],pa,pv,hW,hres _ _ _,zL _ hold,hvars _ hold,World.keptBut_mono (λp hp=>⟨hp, ?_⟩) (hb.frame (· ∈before)),λ_=> ?_⟩
 ·rw[hps,List.mem_append] at hp;exact Or.inr hp
 ·obtain⟨_,_,_,_,_,hz,hn⟩:=hW;refine⟨hok,_,_,([]++pa)++pv,⟨[]++pa,pv,trodAll_append (zL _ (λ_ _=>rfl)) (hres _ _ _),hvars _ (λ_ _=>rfl),rfl, ?_, ?_⟩, ?_⟩
  ·intro b off hp;have hin:MemPlace.cell b off∈before:=by rw[hps];simpa using hp
   rw[hb.frozen (hlt _ hin)];exact hz b off hin
  ·intro ha;have:=hn ha;rw[hps] at this;simpa using this
  ·intro p hp _;rw[hps];simpa using hp
end
end Go.Ev
namespace Go.Ev
end Go.Ev
end
section
namespace Go.Ev
mutual
def Ty.Wf:(t:Ty)->t.den->Prop
 |.int k,n=>(Lit.int k n).wf=true
 |.u8,_=>True
 |.u32,_=>True
 |.u64,_=>True
 |.bool,_=>True
 |.str,s=>s.size<=maxLen
 |.sl t,l=>List.length l<=maxLen/\∀x,List.Mem x l->Ty.Wf t x
 |.arr n t,l=>List.length l=n/\∀x,List.Mem x l->Ty.Wf t x
 |.st fs,x=>Ty.Wfs fs x
def Ty.Wfs:(fs:yL Ty)->Ty.dens fs->Prop
 |[],_=>True
 |[t],x=>Ty.Wf t x
 |t::u::r,x=>Ty.Wf t x.1/\Ty.Wfs (u::r) x.2
end
mutual
def ZEc(P:yg):Nat->yc->Ty->Bool
 |0,_,_=>false
 |n+1,t,T=>match P.underlying t,T with
  |some (.int .u8),.u8=>true
  |some (.int .u32),.u32=>true
  |some (.int .u64),.u64=>true
  |some (.int k),.int k'=>decide (k=k')
  |some .bool,.bool=>true
  |some .string,.str=>true
  |some (.slice e),.sl T'=>P.cellsOf e==T'.size&&ZEc P n e T'
  |some (.array m e),.arr m' T'=>m==m'&&(P.cellsOf e==T'.size&&ZEc P n e T')
  |some (.struct fs),.st Ts=>tyOks P n fs.toList Ts
  |_,_=>false
def tyOks(P:yg):Nat->yL Field->yL Ty->Bool
 |0,_,_=>false
 |_+1,[],[]=>true
 |n+1,f::fs,T::Ts=>ZEc P n f.type T&&tyOks P n fs Ts
 |_+1,_,_=>false
end
theorem ZOc{m:Int}(h:(Lit.int .u8 m).wf=true):∃b:yB,m=(b.toNat:Int):=by
 simp only[Lit.wf,yi,yP] at h;have h1:(0:Int)<=m:=h.1;have h2:m<=255:=h.2;refine⟨yas m.toNat, ?_⟩;have:(yas m.toNat).toNat=m.toNat:=by simp;omega
 rw[this];omega
theorem ZM7{m:Int}(h:(Lit.int .u32 m).wf=true):∃b:yV,m=(b.toNat:Int):=by
 simp only[Lit.wf,yi,yP] at h;have h1:(0:Int)<=m:=h.1;have h2:m<=4294967295:=h.2;refine⟨ybp m.toNat, ?_⟩;have:(ybp m.toNat).toNat=m.toNat:=by simp;omega
 rw[this];omega
theorem ZM8{m:Int}(h:(Lit.int .u64 m).wf=true):∃b:yU,m=(b.toNat:Int):=by
 simp only[Lit.wf,yi,yP] at h;have h1:(0:Int)<=m:=h.1;have h2:m<=18446744073709551615:=h.2;refine⟨yx m.toNat, ?_⟩;have:(yx m.toNat).toNat=m.toNat:=by simp;omega
 rw[this];omega
theorem ZEd{α β:Type}{f:α->β}{R:α->Prop}:∀{ys:yL β},(∀y,y∈ys->∃x,y=f x/\R x)->∃l:yL α,ys=l.map f/\∀x,List.Mem x l->R x
 |[],_=>⟨[],rfl,λx hx=>by cases hx⟩
 |y::ys,h=>by
  obtain⟨x,rfl,hx⟩:=h y (yay ..);obtain⟨l,rfl,hl⟩:=ZEd (λz hz=>h z (yba _ hz))
  exact⟨x::l,rfl,λz hz=>by
   cases hz with
   |head=>exact hx
   |tail _ hz=>exact hl z hz⟩
mutual
theorem Zys{P:yg}:∀(m n:Nat)(t:yc)(T:Ty)(x:Pl),ZEc P m t T=true->wtP P n t x->∃v:T.den,T.Wf v/\x=T.enc v
 |0,_,_,_,_,h,_=>by simp[ZEc] at h
 |_+1,0,_,_,_,_,h=>by simp[wtP] at h
 |m+1,n+1,t,T,x,h,hw=>by
  unfold ZEc at h;split at h
  ·rename_i hu;unfold wtP at hw;rw[hu] at hw;cases x <;> try exact hw.elim
   obtain⟨rfl,h2⟩:=hw;obtain⟨b,rfl⟩:=ZOc h2;exact⟨b,zT,rfl⟩
  ·rename_i hu;unfold wtP at hw;rw[hu] at hw;cases x <;> try exact hw.elim
   obtain⟨rfl,h2⟩:=hw;obtain⟨b,rfl⟩:=ZM7 h2;exact⟨b,zT,rfl⟩
  ·rename_i hu;unfold wtP at hw;rw[hu] at hw;cases x <;> try exact hw.elim
   obtain⟨rfl,h2⟩:=hw;obtain⟨b,rfl⟩:=ZM8 h2;exact⟨b,zT,rfl⟩
  ·rename_i k k' hu;have h:=yF h;subst h;unfold wtP at hw;rw[hu] at hw;cases x <;> try exact hw.elim
   obtain⟨rfl,h2⟩:=hw;exact⟨_,h2,rfl⟩
  ·rename_i hu;unfold wtP at hw;rw[hu] at hw;cases x <;> try exact hw.elim
   exact⟨_,zT,rfl⟩
  ·rename_i hu;unfold wtP at hw;rw[hu] at hw;cases x <;> try exact hw.elim
   exact⟨_,hw,rfl⟩
  ·rename_i e T' hu;simp only[yi,yT] at h;unfold wtP at hw;rw[hu] at hw;cases x <;> try exact hw.elim
   obtain⟨rfl,rfl,h3,h4⟩:=hw
   obtain⟨l,rfl,h5⟩:=ZEd λy hy=>(by
    obtain⟨v,a,b⟩:=Zys m n e T' y h.2 (h4 y hy);exact⟨v,b,a⟩:∃v:T'.den,y=T'.enc v/\T'.Wf v)
   refine⟨l,⟨by simpa using h3,h5⟩, ?_⟩;rw[h.1];rfl
  ·rename_i m0 e m' T' hu;simp only[yi,yT] at h;obtain⟨rfl,h⟩:=h;unfold wtP at hw;rw[hu] at hw;cases x <;> try exact hw.elim
   obtain⟨rfl,rfl,h3,h4⟩:=hw
   obtain⟨l,rfl,h5⟩:=ZEd λy hy=>(by
    obtain⟨v,a,b⟩:=Zys m n e T' y h.2 (h4 y hy);exact⟨v,b,a⟩:∃v:T'.den,y=T'.enc v/\T'.Wf v)
   refine⟨l,⟨by simpa using h3,h5⟩, ?_⟩;rw[h.1];rfl
  ·rename_i fs Ts hu;unfold wtP at hw;rw[hu] at hw;cases x <;> try exact hw.elim
   rename_i xs;obtain⟨v,h1,rfl⟩:=wt_tys m n fs.toList Ts xs h hw;exact⟨v,h1,rfl⟩
  ·cases h
theorem wt_tys{P:yg}:∀(m n:Nat)(fs:yL Field)(Ts:yL Ty)(xs:yL Pl),tyOks P m fs Ts=true->ZLg (wtP P n) fs xs->∃v:Ty.dens Ts,Ty.Wfs Ts v/\xs=Ty.encs Ts v
 |0,_,_,_,_,h,_=>by simp[tyOks] at h
 |m+1,n,[],[],[],h,hw=>⟨(),zT,rfl⟩
 |m+1,n,[],[],_::_,h,hw=>hw.elim
 |m+1,n,[],_::_,_,h,hw=>by cases h
 |m+1,n,_::_,[],_,h,hw=>by cases h
 |m+1,n,_::_,_::_,[],h,hw=>hw.elim
 |m+1,n,f::fs,[T],x::xs,h,hw=>by
  simp only[tyOks,yi] at h;obtain⟨v,h1,rfl⟩:=Zys m n f.type T x h.1 hw.1
  cases fs with
  |nil=>cases xs with
   |nil=>exact⟨v,h1,rfl⟩
   |cons _ _=>exact hw.2.elim
  |cons _ _=>
   cases m with
   |zero=>exact absurd h.2 (by simp[tyOks])
   |succ m=>exact absurd h.2 (by simp[tyOks])
 |m+1,n,f::fs,T::U::Ts,x::xs,h,hw=>by
  simp only[tyOks,yi] at h;obtain⟨v,h1,rfl⟩:=Zys m n f.type T x h.1 hw.1;obtain⟨w,h2,rfl⟩:=wt_tys m n fs (U::Ts) xs h.2 hw.2;exact⟨(v,w),⟨h1,h2⟩,rfl⟩
end
theorem Zyt{I X:Type}{step:I->yO (I⊕X)}(Inv:I->Prop)(mu:I->Nat)(Post:X->Prop)
 (h:∀i,Inv i->(∃j,step i=some (.inl j)/\Inv j/\mu j < mu i)\/(∃x,step i=some (.inr x)/\Post x)):∀(n:Nat)(i:I),Inv i->mu i < n->∃x,Zb step n i=some x/\Post x
 |0,i,_,hn=>by omega
 |n+1,i,hi,hn=>by
  unfold Zb;rcases h i hi with⟨j,h1,h2,h3⟩|⟨x,h1,h2⟩
  ·rw[h1,ya];exact Zyt Inv mu Post h n j h2 (by omega)
  ·rw[h1,ya];exact⟨x,rfl,h2⟩
theorem V2{I X:Type}{step:I->yO (I⊕X)}(Inv:I->Prop)(mu:I->Nat)(Post:X->Prop)
 (h:∀i,Inv i->(∃j,step i=some (.inl j)/\Inv j/\mu j < mu i)\/(∃x,step i=some (.inr x)/\Post x)) (i:I) (hi:Inv i) (hm:mu i < 18446744073709551616):∃x,Zb step yD i=some x/\Post x:=by
 refine Zyt Inv mu Post h yD i hi ?_;rw[Zdf];exact hm
theorem ZG{z:Int}(h1: -9223372036854775808<=z)(h2:z<=9223372036854775807):wi z=z:=by
 simp only[wi,IntKind.wrap,IntKind.signed,IntKind.bits];simp;omega
theorem Zjv{α:Type}{l:yL α}{i:Int}{y:α}(h0:0<=i)(h:l[i.toNat]? =some y):idx l i=some y:=by
 unfold idx;rw[yW h0,h]
theorem Zdg{α:Type}{l:yL α}{i:Nat}(h:i < l.length):∃y,l[i]? =some y:=⟨_,yab h⟩
theorem Yz{i:Int}{n:Nat}(h1:0<=i)(h2:i < (n:Int)):inB i n=true:=by simp[inB,h1,h2]
theorem ZD{n m b:Nat}(h1:(n+m)*b<=140737488355328)(h2:n+m<=9223372036854775807):apB n m b=true:=by
 unfold apB;rw[yi];exact⟨yY h1,yY h2⟩
def tdv:(ts:yL Ty)->Ty.dens ts->yL TD
 |[],_=>[]
 |[t],x=>[.p (.v t x)]
 |t::u::r,x=>.p (.v t x.1)::tdv (u::r) x.2
theorem ZFz:∀(ts:yL Ty)(x:Ty.dens ts),Sh.fills (ts.map .v) (ofD ts x)=some (tdv ts x,[])
 |[],_=>rfl
 |[t],x=>by
  rw[show ofD [t] x=[⟨t,x⟩] from rfl,yaj,List.map_nil,Sh.fills,Sh.fill]
  have e:=XU t x;dsimp only;rw[e]
  rfl
 |t::u::r,x=>by
  have h:=ZFz (u::r) x.2;have e:=XU t x.1;rw[show ofD (t::u::r) x=⟨t,x.1⟩::ofD (u::r) x.2 from rfl,yaj,Sh.fills,Sh.fill]
  dsimp only;rw[e,Option.map_some,ya,h];rfl
theorem ZJd{L:Lk}:∀(ts:yL Ty)(x:Ty.dens ts),TD.ers L (tdv ts x)=(Ty.encs ts x).map .p
 |[],_=>rfl
 |[t],x=>rfl
 |t::u::r,x=>by
  rw[show tdv (t::u::r) x=.p (.v t x.1)::tdv (u::r) x.2 from rfl,ZW,yaj, <-ZW,ZJd (u::r) x.2]
  rfl
theorem ZLi{P:yg}{g:yv}{ts:yL Ty}{M:Ty.dens ts->yO Bool}(hok:Fs.Ok (⟨g,ts.map .v,[],ts,[⟨.ret,[(0,.v .bool)],[],[.bool]⟩],M⟩:Fs P)){x:Ty.dens ts}(h:M x=some true):
 Con P g ((Ty.encs ts x).map .p) [] (.p (.bool true)) []:=by
 obtain⟨args,R,H,h1,h2,h3⟩:=hok x true h;have e:=(ZFz ts x).symm.trans (show Sh.fills (ts.map .v) (ofD ts x)=some (args,R) from h1)
 cases e;cases h2
 obtain⟨r,h4,h5⟩:=h3 _ [⟨.bool,true⟩] ([.p (.v .bool true)],[]) ⟨rfl,rfl⟩ (by
  simp only[Zas,shs];rfl)
 cases h4;rw[<-ZJd (L:=lk [])];exact h5
theorem Zqq{P:yg}{s:Fs P}(h:s.Ok){M:Ty.dens s.ins->yO (XSh.sum s.xs)}(e:∀x,M x=s.M x):Fs.Ok (P:=P) { s with M:=M}:=by
 have:M=s.M:=funext e;subst this;exact h
def Zv8(P:yg)(m:Nat):yL yc->yL Ty->Bool
 |[],[]=>true
 |t::ts,T::Ts=>ZEc P m t T&&Zv8 P m ts Ts
 |_,_=>false
theorem ZFA{P:yg}{m n:Nat}:∀{ts:yL yc}{Ts:yL Ty}{xs:yL Pl},Zv8 P m ts Ts=true->ZLh P n ts xs->∃v:Ty.dens Ts,Ty.Wfs Ts v/\xs=Ty.encs Ts v
 |[],[],[],_,_=>⟨(),zT,rfl⟩
 |[],[],_::_,_,h=>h.elim
 |[],_::_,_,h,_=>by cases h
 |_::_,[],_,h,_=>by cases h
 |_::_,_::_,[],_,h=>h.elim
 |t::ts,[T],x::xs,h,hw=>by
  simp only[Zv8,yi] at h;obtain⟨v,h1,rfl⟩:=Zys m n t T x h.1 hw.1
  cases ts with
  |nil=>cases xs with
   |nil=>exact⟨v,h1,rfl⟩
   |cons _ _=>exact hw.2.elim
  |cons _ _=>exact absurd h.2 (by simp[Zv8])
 |t::ts,T::U::Ts,x::xs,h,hw=>by
  simp only[Zv8,yi] at h;obtain⟨v,h1,rfl⟩:=Zys m n t T x h.1 hw.1;obtain⟨w,h2,rfl⟩:=ZFA (Ts:=U::Ts) h.2 hw.2;exact⟨(v,w),⟨h1,h2⟩,rfl⟩
theorem Zz8{P:yg}{g:yv}{t:Ty}{xs:yL XSh}{MA M:Ty.dens [.sl t]->yO (XSh.sum xs)}(hA:Fs.Ok (⟨g,[.sl true t],[],[.sl t],xs,MA⟩:Fs P))
 (h1:M ([]:yL t.den)=none) (h2:∀(x:t.den)(l:yL t.den),M (x::l)=MA (x::l)):Fs.Ok (⟨g,[.v (.sl t)],[],[.sl t],xs,M⟩:Fs P):=by
 intro l o hM;have key:∀(l:yL t.den),Ty.cast (.sl t) (.sl t) l=some l:=λl=>XU (.sl t) l
 have h3:∀l:yL t.den,M l=some o->MA l=some o/\l≠[]:=λl hl=>by
  cases l with
  |nil=>rw[h1] at hl;cases hl
  |cons x l=>exact⟨by rw[<-h2];exact hl,by simp⟩
 obtain⟨hMA,hne⟩:=h3 l hM;obtain⟨a1,R1,H1,f1,f2,f3⟩:=hA l o hMA
 have e1:a1=[.p (.sl (some true) t l)]/\R1=[]:=by
  have:Sh.fills [.sl true t] [(⟨.sl t,l⟩:TV)]=some (a1,R1):=f1;simp only[Sh.fills,Sh.fill] at this;rw[key l] at this;have this:some (([.p (.sl (some true) t l)]:yL TD),([]:yL TV))=some (a1,R1):=this;cases this;exact⟨rfl,rfl⟩
 obtain⟨rfl,rfl⟩:=e1;cases f2;refine⟨[.p (.v (.sl t) l)],[],[], ?_,rfl,λe vs s' hs hf=> ?_⟩
 ·show Sh.fills [.v (.sl t)] [(⟨.sl t,l⟩:TV)]=_;simp only[Sh.fills,Sh.fill];rw[key l];rfl
 ·obtain⟨r,r1,r2⟩:=f3 e vs s' hs hf;exact⟨r,r1,ZEY (xs:=List.map t.enc l) r2 λhl=>absurd (List.map_eq_nil_iff.1 hl) hne⟩
theorem ZOd{P:yg}{g:yv}{ps:yL Sh}{es:yL ESh}{ins:yL Ty}{xr xp:XSh}{MR:Ty.dens ins->yO (XSh.sum [xr])}{MP:Ty.dens ins->yO (XSh.sum [xp])}(c:Ty.dens ins->Bool)
 (hR:Fs.Ok (⟨g,ps,es,ins,[xr],MR⟩:Fs P)) (hP:Fs.Ok (⟨g,ps,es,ins,[xp],MP⟩:Fs P)):Fs.Ok (⟨g,ps,es,ins,[xr,xp],λx=>if c x=true then(MP x).map .inr else(MR x).map .inl⟩:Fs P):=by
 intro x o hM
 replace hM:(if c x=true then(MP x).map Sum.inr else(MR x).map Sum.inl)=some o:=hM
 split at hM
 ·obtain⟨y,h1,rfl⟩:=yn.1 hM;obtain⟨a,R,H,f1,f2,f3⟩:=hP x y h1;exact⟨a,R,H,f1,f2,λe vs s' hs hf=>f3 e vs s' hs hf⟩
 ·obtain⟨y,h1,rfl⟩:=yn.1 hM;obtain⟨a,R,H,f1,f2,f3⟩:=hR x y h1;exact⟨a,R,H,f1,f2,λe vs s' hs hf=>f3 e vs s' hs hf⟩
end Go.Ev
end
section
namespace Go.Proofs.YtdhclndplbopgaaGreat
open Go.Ev Go.RowKit Go.Lib
abbrev zE(t:Ty):List XSh:=[⟨.ret,[(0,.v t)],[],[t]⟩]
theorem ZEe(w:World):Calls yb 271 #[.slice none 0 0,.int .i64 0] w λe w'=>e=.returned (.slice none 0 0)/\w'=w:=by
 go_enter Tryz.func271,Tryz.ntmps271
 go_wp2
 go_ret
 exact⟨rfl,rfl⟩
theorem ZG7(n:Nat)(w:World)(h0:0 < n)(hn:n<=Zw):Calls yb 271 #[.slice none 0 0,.int .i64 n] w λe w'=>e=.returned (.slice (some ⟨w.heap.size,0,none⟩) 0 (grownCap w n 0 5))/\
 w'=w.drew.alloc (.cells (Builtin.zeroCells #[.int .u8 0] n++Builtin.zeroCells #[.int .u8 0] (grownCap w n 0 5 - n)) 5):=by
 have hb:n<=140737488355328:=hn;have h1:¬((n:Int) < 0):=by omega
 have h3:wrap64 ((n:Int) - ((0:Int) - (0:Int)))=(n:Int):=by unfold wrap64;omega
 have h3':wrap64 ((n:Int) - 0)=(n:Int):=by unfold wrap64;omega
 have h3'':wrap64 (n:Int)=(n:Int):=by unfold wrap64;omega
 have h4:(n:Int) > 0:=by omega
 have hi:∃i,yb.info? 5=some i/\i.zero=some (.int .u8 0)/\i.size=1/\i.bytes=1:=by
  have h:(yb.info? 5).map (λi=>(i.zero,i.size,i.bytes))=some (some (.int .u8 0),1,1):=by kernel_rfl
  obtain⟨i,h1,h2⟩:=yn.1 h;simp only[Prod.mk.injEq] at h2;exact⟨i,h1,h2.1,h2.2.1,h2.2.2⟩
 obtain⟨i,hi1,hi2,hi3,hi4⟩:=hi
 have hrz:∀ty,(Builtin.append_ #[93,3] ty #[.slice none 0 0,.int .i64 n]).run yb w=
  .ok (.slice (some ⟨w.heap.size,0,none⟩) n (grownCap w n 0 5)) (w.drew.alloc (.cells (Builtin.zeroCells #[.int .u8 0] n++Builtin.zeroCells #[.int .u8 0] (grownCap w n 0 5 - n)) 5)):=λty=>by
  have h:=Lib.run_append_grow_zeros (P:=yb) w 93 3 ty 5 i (.int .u8 0) .i64 .i64 Tryz.underlying93 Tryz.underlying3 hi1 hi2 none 0 0 [] (by rw[hi3];simp[Builtin.firstCells]) n h0 (by omega) (by omega) (by omega)
   (by rw[hi4];omega) (by rw[ybe];exact growslice_fits h0 (by rw[hi4];omega))
  simpa[Value.cells] using h
 obtain⟨G,hG⟩:∃G,G=grownCap w n 0 5:=⟨_,rfl⟩;have hGn:=grownCap_ge w n 0 5;have hG63:=grownCap_le_maxLen w n 0 5 (by unfold maxLen;omega);unfold maxLen at hG63;rw[<-hG] at hrz hGn hG63 ⊢;clear hG
 go_enter Tryz.func271,Tryz.ntmps271
 go_wp2_with (at_builtin;refine Lib.wpList_append_run _ rfl _ _ _ _ rfl _ _ rfl rfl _ _ (hrz _) ?_)
 all_goals (go_ret;exact⟨rfl,rfl⟩)
theorem ZJe(n:Nat)(hn:n<=Zw):Con yb 271 [.p (.sl (some false) 1 []),.p (.int .i64 (n:Int))] [] (.own 0 none 1 []) [.log 1 5 []]:=by
 intro σ vs ok hH hvs;simp only[repVs] at hvs;obtain⟨v,_,rfl,hv,v2,_,rfl,hv2,rfl⟩:=hvs;obtain rfl:=Zvc hv
 obtain rfl:v2=.int .i64 n:=by
  have:=hv2.2 rfl;simpa[yJ,repC] using this
 have hm:σ.m=[]:=List.eq_nil_of_length_eq_zero (by rw[ok.len,hH];rfl);rcases ycd n with rfl|h0
 ·refine(ZEe σ.w).mono λe w'⟨he,hw⟩=> ?_;subst he;subst hw;obtain⟨to,ok'⟩:=V7 (σ':={ σ with m:=σ.m++[none],H:=σ.H++[.log 1 5 []]}) ok rfl rfl rfl rfl (World.grownBy.refl σ.w none) (.inl rfl) (λ_=>.inl ⟨rfl,rfl⟩);refine⟨_,{ σ with m:=σ.m++[none],H:=σ.H++[.log 1 5 []]},rfl,rfl,by simp[hH],to,ok', ?_⟩;rw[Zj rfl];simp only[yJ];exact⟨λ_ hx=>(by cases hx),none,0,rfl,yj _,by simp[maxLen],YX _,λ_=>rfl,λh=>absurd rfl h,5,[],by simp[hH],yj _,λ_=>.inl ⟨by simp[hm],rfl,rfl⟩⟩
 ·refine(ZG7 n σ.w h0 hn).mono λe w'⟨he,hw⟩=> ?_;subst he;subst hw;have hge:=grownCap_ge σ.w n 0 5;have hcm:=grownCap_le_maxLen σ.w n 0 5 (by have:n<=140737488355328:=hn;unfold maxLen;omega)
  have hsz:(Builtin.zeroCells #[.int .u8 0] n++Builtin.zeroCells #[.int .u8 0] (grownCap σ.w n 0 5 - n):Array yh).size=grownCap σ.w n 0 5*1:=by
   simp only[Array.size_append,size_zeroCells];simp;omega
  let cs:Array yh:=Builtin.zeroCells #[.int .u8 0] n++Builtin.zeroCells #[.int .u8 0] (grownCap σ.w n 0 5 - n);let σ':Sg:={ σ with m:=σ.m++[some σ.w.heap.size],H:=σ.H++[.log 1 5 []],w:=σ.w.drew.alloc (.cells cs 5)};have zX:σ'.w.heap[σ.w.heap.size]? =some (.cells cs 5 (0,0)):=heap_alloc_new σ.w.drew _
  obtain⟨to,ok'⟩:=V7 (σ':=σ') ok rfl rfl rfl rfl (WA σ.w (.cells cs 5) none) (.inr ⟨_,rfl,yj _,by simp[σ']⟩)
   (λleaf=>.inr ⟨σ.w.heap.size,_,grownCap σ.w n 0 5,rfl,zX,hsz,Nat.zero_le _,hcm,λ_ hx=>(by cases hx),by simp[repCs]⟩)
  refine⟨_,σ',rfl,rfl,by simp[σ',hH],to,ok', ?_⟩;rw[Zj rfl];simp only[yJ];exact⟨λ_ hx=>(by cases hx),_,_,rfl,Nat.zero_le _,hcm,YX _,λh=>(by cases h),λh=>absurd rfl h,5,[],by simp[σ',hH],yj _,λ_=>.inr ⟨_,_,by simp[σ',hm],rfl,zX,hsz⟩⟩
end Go.Proofs.YtdhclndplbopgaaGreat
end
section
set_option maxRecDepth 4000
namespace Go.Proofs.YtdhclndplbopgaaGreat
open Go Go.Ev
noncomputable section
abbrev yI:Ty:=.int .i64
abbrev Zy:Ty:=(.st [.u64,.u64])
abbrev Sig:Type:=(yU×yU)
abbrev Sig.R(x:Sig):yU:=x.1
abbrev XB:Ty:=(.st [yI,(.sl Zy),.u64])
abbrev ZaK:Type:=(Int×(yL Sig)×yU)
def YQ(F:Nat)(s:(Int×ZaK×ZaK)):yO ((Int×ZaK×ZaK)⊕((Bool×ZaK×ZaK)⊕(ZaK×ZaK))):=
 if(decide (s.1 < (s.2.1.2.1.length:Int)))=true then
  (idx s.2.1.2.1 s.1).bind λe1=>
  (idx s.2.2.2.1 s.1).bind λe2=>
  if(!(decide (e1=e2)))=true then
   some (.inr (.inl (false,s.2.1,s.2.2)))
  else
  some (.inl (wi (s.1+1),s.2.1,s.2.2))
 else
 some (.inr (.inr (s.2.1,s.2.2)))
def ZcP:Lp:=⟨[(2,.ref 0 []),(3,.ref 1 []),(5,.v yI)],[.var (.v XB) true,.var (.v XB) true],[yI,XB,XB],[⟨.ret,[(4,.v .bool)],[.var (.v XB) true,.var (.v XB) true],[.bool,XB,XB]⟩,⟨.exit 0,[],[.var (.v XB) true,.var (.v XB) true],[XB,XB]⟩],Zb (YQ yD) yD⟩
theorem Zh8:ZcP.okA yb 74 0:=Zx { still:=[4]} [] [] trivial
def VM(F:Nat)(a0:ZaK)(a1:ZaK):yO (Bool):=
 if(a0.1 !=a1.1)=true then
  some false
 else
 if(a0.2.2 !=a1.2.2)=true then
  some false
 else
 if((a0.2.1.length:Int)!=(a1.2.1.length:Int))=true then
  some false
 else
 (Zb (YQ F) F (0,a0,a1)).bind λo3=>
 match o3 with
 |.inl o4=>
  some o4.1
 |.inr o5=>
  some true
def Zdh:Fs yb:=⟨74,[.v XB,.v XB],[],[XB,XB],(zE .bool),λx=>VM yD x.1 x.2⟩
theorem ZkM:Zdh.Ok:=fnO { still:=[4]} [(0,ZcP)] [] trivial ⟨Zh8,ytt⟩
abbrev Zm:Ty:=(.st [(.sl .u64),yI,yI,.u64])
abbrev ZC:Type:=((yL yU)×Int×Int×yU)
abbrev Ze:Ty:=(.st [(.sl Zm)])
abbrev yG:Type:=(yL ZC)
def Xu(F:Nat)(s:(Int×Int×yG×yG×ZC×ZC)):yO ((Int×Int×yG×yG×ZC×ZC)⊕((Bool×yG×yG×ZC×ZC)⊕(Int×yG×yG×ZC×ZC))):=
 if(decide (s.2.1 < (s.2.2.2.2.1.1.length:Int)))=true then
  (idx s.2.2.2.2.1.1 s.2.1).bind λe8=>
  (idx s.2.2.2.2.2.1 s.2.1).bind λe9=>
  if(e8 !=e9)=true then
   some (.inr (.inl (false,s.2.2.1,s.2.2.2.1,s.2.2.2.2.1,s.2.2.2.2.2)))
  else
  some (.inl (s.1,wi (s.2.1+1),s.2.2.1,s.2.2.2.1,s.2.2.2.2.1,s.2.2.2.2.2))
 else
 some (.inr (.inr (s.1,s.2.2.1,s.2.2.2.1,s.2.2.2.2.1,s.2.2.2.2.2)))
abbrev zK:List ESh:=[.var (.v Ze) true,.var (.v Ze) true,.var (.v Zm) true,.var (.v Zm) true]
def Zfv:Lp:=⟨[(2,.ref 0 []),(3,.ref 1 []),(5,.v yI),(6,.ref 2 []),(7,.ref 3 []),(8,.v yI)],zK,[yI,yI,Ze,Ze,Zm,Zm],[⟨.ret,[(4,.v .bool)],zK,[.bool,Ze,Ze,Zm,Zm]⟩,⟨.exit 2,[(2,.ref 0 []),(3,.ref 1 []),(5,.v yI)],zK,[yI,Ze,Ze,Zm,Zm]⟩],Zb (Xu yD) yD⟩
theorem ZkN:Zfv.okA yb 75 1:=Zx { still:=[4]} [] [] trivial
def Xv(F:Nat)(s:(Int×yG×yG)):yO ((Int×yG×yG)⊕((Bool×yG×yG)⊕(yG×yG))):=
 if(decide (s.1 < (s.2.1.length:Int)))=true then
  (idx s.2.1 s.1).bind λe6=>
  (idx s.2.2 s.1).bind λe7=>
  if(e6.2.1 !=e7.2.1)=true then
   some (.inr (.inl (false,s.2.1,s.2.2)))
  else
  if(e6.2.2.1 !=e7.2.2.1)=true then
   some (.inr (.inl (false,s.2.1,s.2.2)))
  else
  if(e6.2.2.2 !=e7.2.2.2)=true then
   some (.inr (.inl (false,s.2.1,s.2.2)))
  else
  if((e6.1.length:Int)!=(e7.1.length:Int))=true then
   some (.inr (.inl (false,s.2.1,s.2.2)))
  else
  (Zb (Xu F) F (s.1,0,s.2.1,s.2.2,e6,e7)).bind λo10=>
  match o10 with
  |.inl o11=>
   some (.inr (.inl (o11.1,o11.2.1,o11.2.2.1)))
  |.inr o12=>
   some (.inl (wi (o12.1+1),o12.2.1,o12.2.2.1))
 else
 some (.inr (.inr (s.2.1,s.2.2)))
def Zfw:Lp:=⟨[(2,.ref 0 []),(3,.ref 1 []),(5,.v yI)],[.var (.v Ze) true,.var (.v Ze) true],[yI,Ze,Ze],[⟨.ret,[(4,.v .bool)],[.var (.v Ze) true,.var (.v Ze) true],[.bool,Ze,Ze]⟩,⟨.exit 0,[],[.var (.v Ze) true,.var (.v Ze) true],[Ze,Ze]⟩],Zb (Xv yD) yD⟩
theorem ZkO:Zfw.okA yb 75 0:=Zx { still:=[4]} [(1,Zfv)] [] trivial ⟨ZkN,ytt⟩
def Zaa(F:Nat)(a0:yG)(a1:yG):yO (Bool):=
 if((a0.length:Int)!=(a1.length:Int))=true then
  some false
 else
 (Zb (Xv F) F (0,a0,a1)).bind λo13=>
 match o13 with
 |.inl o14=>
  some o14.1
 |.inr o15=>
  some true
def ZgE:Fs yb:=⟨75,[.v Ze,.v Ze],[],[Ze,Ze],(zE .bool),λx=>Zaa yD x.1 x.2⟩
theorem Znu:ZgE.Ok:=fnO { still:=[4]} [(0,Zfw)] [] trivial ⟨ZkO,ytt⟩
abbrev WY:Ty:=(.st [(.arr 32 .u8),yI])
abbrev VD:Type:=((yL yB)×Int)
abbrev VD.N(x:VD):Int:=x.2
abbrev yIn:Ty:=(.st [WY,XB])
abbrev In:Type:=(VD×ZaK)
abbrev ZR:Ty:=(.st [yI,Ze])
abbrev Out:Type:=(Int×yG)
abbrev yTx:Ty:=(.st [(.sl yIn),(.sl ZR),yI])
abbrev Tx:Type:=((yL In)×(yL Out)×Int)
def Xw(F:Nat)(s:(Int×Tx×Tx)):yO ((Int×Tx×Tx)⊕((Bool×Tx×Tx)⊕(Tx×Tx))):=
 if(decide (s.1 < (s.2.1.1.length:Int)))=true then
  (idx s.2.1.1 s.1).bind λe16=>
  (idx s.2.2.1 s.1).bind λe17=>
  if(!(decide (e16.1=e17.1)))=true then
   some (.inr (.inl (false,s.2.1,s.2.2)))
  else
  (idx s.2.1.1 s.1).bind λe18=>
  (idx s.2.2.1 s.1).bind λe19=>
  (VM F e18.2 e19.2).bind λo20=>
  if(!o20)=true then
   some (.inr (.inl (false,s.2.1,s.2.2)))
  else
  some (.inl (wi (s.1+1),s.2.1,s.2.2))
 else
 some (.inr (.inr (s.2.1,s.2.2)))
def Zfx:Lp:=⟨[(2,.ref 0 []),(3,.ref 1 []),(5,.v yI)],[.var (.v yTx) true,.var (.v yTx) true],[yI,yTx,yTx],[⟨.ret,[(4,.v .bool)],[.var (.v yTx) true,.var (.v yTx) true],[.bool,yTx,yTx]⟩,⟨.exit 0,[(2,.ref 0 []),(3,.ref 1 [])],[.var (.v yTx) true,.var (.v yTx) true],[yTx,yTx]⟩],Zb (Xw yD) yD⟩
theorem ZkP:Zfx.okA yb 12 0:=Zx { still:=[4,56,62,92,98]} [] [Zdh] ⟨ZkM,ytt⟩
def Xx(F:Nat)(s:(Int×Tx×Tx)):yO ((Int×Tx×Tx)⊕((Bool×Tx×Tx)⊕(Tx×Tx))):=
 if(decide (s.1 < (s.2.1.2.1.length:Int)))=true then
  (idx s.2.1.2.1 s.1).bind λe24=>
  (idx s.2.2.2.1 s.1).bind λe25=>
  if(e24.1 !=e25.1)=true then
   some (.inr (.inl (false,s.2.1,s.2.2)))
  else
  (idx s.2.1.2.1 s.1).bind λe26=>
  (idx s.2.2.2.1 s.1).bind λe27=>
  (Zaa F e26.2 e27.2).bind λo28=>
  if(!o28)=true then
   some (.inr (.inl (false,s.2.1,s.2.2)))
  else
  some (.inl (wi (s.1+1),s.2.1,s.2.2))
 else
 some (.inr (.inr (s.2.1,s.2.2)))
def Zfy:Lp:=⟨[(2,.ref 0 []),(3,.ref 1 []),(6,.v yI)],[.var (.v yTx) true,.var (.v yTx) true],[yI,yTx,yTx],[⟨.ret,[(4,.v .bool)],[.var (.v yTx) true,.var (.v yTx) true],[.bool,yTx,yTx]⟩,⟨.exit 2,[],[.var (.v yTx) true,.var (.v yTx) true],[yTx,yTx]⟩],Zb (Xx yD) yD⟩
theorem ZkQ:Zfy.okA yb 12 1:=Zx { still:=[4,56,62,92,98]} [] [ZgE] ⟨Znu,ytt⟩
def YJ(F:Nat)(a0:Tx)(a1:Tx):yO (Bool):=
 if(a0.2.2 !=a1.2.2)=true then
  some false
 else
 if((a0.1.length:Int)!=(a1.1.length:Int))=true then
  some false
 else
 if((a0.2.1.length:Int)!=(a1.2.1.length:Int))=true then
  some false
 else
 (Zb (Xw F) F (0,a0,a1)).bind λo21=>
 match o21 with
 |.inl o22=>
  some o22.1
 |.inr o23=>
  (Zb (Xx F) F (0,o23.1,o23.2)).bind λo29=>
  match o29 with
  |.inl o30=>
   some o30.1
  |.inr o31=>
   some true
def ZbZ:Fs yb:=⟨12,[.v yTx,.v yTx],[],[yTx,yTx],(zE .bool),λx=>YJ yD x.1 x.2⟩
theorem Zfz:ZbZ.Ok:=fnO { still:=[4,56,62,92,98]} [(0,Zfx),(1,Zfy)] [] trivial ⟨ZkP,ZkQ,ytt⟩
abbrev Zdi:Ty:=(.st [yI,yI,yI,yI,yI,yI])
abbrev ZcQ:Type:=(Int×Int×Int×Int×Int×Int)
def ZbI(F:Nat)(a0:ZcQ)(a1:Int):yO (Bool):=
 some (decide (a1 >= a0.1))
def Zpx:Fs yb:=⟨52,[.v Zdi,.v yI],[],[Zdi,yI],(zE .bool),λx=>ZbI yD x.1 x.2⟩
theorem Zv9:Zpx.Ok:=fnO { still:=[4]} [] [] trivial
def Zh9(F:Nat)(a0:Int):yO (Bool):=
 if(decide (a0 >= 0))=true then
  some (decide (a0<=1125899906842624))
 else
 some false
def ZtA:Fs yb:=⟨247,[.v yI],[],[yI],(zE .bool),λx=>Zh9 yD x⟩
theorem Zz9:ZtA.Ok:=fnO { still:=[2]} [] [] trivial
def ZkR(F:Nat)(a0:Int)(a1:Int):yO ((Int×Bool)):=
 (Zh9 F a0).bind λo32=>
 if(!o32)=true then
  some (0,false)
 else
 (Zh9 F a1).bind λo33=>
 if(!o33)=true then
  some (0,false)
 else
 if(decide (a0 > (wi (1125899906842624 - a1))))=true then
  some (0,false)
 else
 some (wi (a0+a1),true)
def Zsy:Fs yb:=⟨200,[.v yI,.v yI],[],[yI,yI],[⟨.ret,[(0,.tup [.v yI,.v .bool])],[],[yI,.bool]⟩],λx=>ZkR yD x.1 x.2⟩
theorem Zwa:Zsy.Ok:=fnO { still:=[4,5,6,10]} [] [ZtA] ⟨Zz9,ytt⟩
def X8(F:Nat)(a0:Int)(a1:Int)(a2:Int):yO (Bool):=
 if(decide (a1<=a0))=true then
  some (decide (a0<=a2))
 else
 some false
def Zmu:Fs yb:=⟨252,[.v yI,.v yI,.v yI],[],[yI,yI,yI],(zE .bool),λx=>X8 yD x.1 x.2.1 x.2.2⟩
theorem Zsz:Zmu.Ok:=fnO { still:=[6]} [] [] trivial
def Zhd(F:Nat)(a0:ZcQ):yO (Bool):=
 (X8 F a0.1 0 65536).bind λo34=>
 if o34=true then
  (X8 F a0.2.2.1 1 4096).bind λo35=>
  if o35=true then
   (X8 F a0.2.2.2.1 0 16).bind λo36=>
   if o36=true then
    (X8 F a0.2.1 a0.1 1125899906842624).bind λo37=>
    if o37=true then
     (X8 F a0.2.2.2.2.1 1 1125899906842624).bind λo38=>
     if o38=true then
      (X8 F a0.2.2.2.2.2 0 1125899906842624).bind λo39=>
      some o39
     else
     some false
    else
    some false
   else
   some false
  else
  some false
 else
 some false
def Zpy:Fs yb:=⟨206,[.v Zdi],[],[Zdi],(zE .bool),λx=>Zhd yD x⟩
def hi0:HI:={ still:=[2,7,12,18,25,27,33,39]}
theorem Zwb:Zpy.Ok:=fnO hi0 [] [Zmu] ⟨Zsz,ytt⟩
def ZtB:ByteArray:=⟨#[0,1,2,2,3,3,3,3,4,4,4,4,4,4,4,4,5,5,5,5,5,5,5,5,5,5,5,5,5,5,5,5,6,6,6,6,6,6,6,6,6,6,6,6,6,6,6,6,6,6,6,6,6,6,6,6,6,6,6,6,6,6,6,6,7,7,7,7,7,7,7,7,7,7,7,7,7,7,7,7,7,7,7,7,7,7,7,7,7,7,7,7,7,7,7,7,7,7,7,7,7,7,7,7,7,7,7,7,7,7,7,7,7,7,7,7,7,7,7,7,7,7,7,7,7,7,7,7,8,8,8,8,8,8,8,8,8,8,8,8,8,8,8,8,8,8,8,8,8,8,8,8,8,8,8,8,8,8,8,8,8,8,8,8,8,8,8,8,8,8,8,8,8,8,8,8,8,8,8,8,8,8,8,8,8,8,8,8,8,8,8,8,8,8,8,8,8,8,8,8,8,8,8,8,8,8,8,8,8,8,8,8,8,8,8,8,8,8,8,8,8,8,8,8,8,8,8,8,8,8,8,8,8,8,8,8,8,8,8,8,8,8,8,8,8,8,8,8,8,8,8,8,8,8,8,8]⟩
def ZtC(F:Nat)(a0:yU):yO (Int):=
 if(decide (a0 >= 4294967296))=true then
  if(decide ((ZO a0 32) >= 65536))=true then
   if(decide ((ZO (ZO a0 32) 16) >= 256))=true then
    let y40:yB:=w8 ((ZO (ZO (ZO a0 32) 16) 8).toNat:Int)
    (idx (Zi6 ZtB) (y40.toNat:Int)).bind λe41=>
    some (wi (56+(e41.toNat:Int)))
   else
   (idx (Zi6 ZtB) ((w8 ((ZO (ZO a0 32) 16).toNat:Int)).toNat:Int)).bind λe42=>
   some (wi (48+(e42.toNat:Int)))
  else
  if(decide ((ZO a0 32) >= 256))=true then
   (idx (Zi6 ZtB) ((w8 ((ZO (ZO a0 32) 8).toNat:Int)).toNat:Int)).bind λe43=>
   some (wi (40+(e43.toNat:Int)))
  else
  (idx (Zi6 ZtB) ((w8 ((ZO a0 32).toNat:Int)).toNat:Int)).bind λe44=>
  some (wi (32+(e44.toNat:Int)))
 else
 if(decide (a0 >= 65536))=true then
  if(decide ((ZO a0 16) >= 256))=true then
   (idx (Zi6 ZtB) ((w8 ((ZO (ZO a0 16) 8).toNat:Int)).toNat:Int)).bind λe45=>
   some (wi (24+(e45.toNat:Int)))
  else
  (idx (Zi6 ZtB) ((w8 ((ZO a0 16).toNat:Int)).toNat:Int)).bind λe46=>
  some (wi (16+(e46.toNat:Int)))
 else
 if(decide (a0 >= 256))=true then
  (idx (Zi6 ZtB) ((w8 ((ZO a0 8).toNat:Int)).toNat:Int)).bind λe47=>
  some (wi (8+(e47.toNat:Int)))
 else
 (idx (Zi6 ZtB) ((w8 (a0.toNat:Int)).toNat:Int)).bind λe48=>
 some (wi (0+(e48.toNat:Int)))
def Zrc:Fs yb:=⟨277,[.v .u64],[],[.u64],(zE yI),λx=>ZtC yD x⟩
theorem Zxm:Zrc.Ok:=fnO { still:=[2]} [] [] trivial
def Y6(F:Nat)(a0:yU):yO (Int):=
 (ZtC F a0).bind λo49=>
 some (wi (64 - o49))
def Zd7:Fs yb:=⟨267,[.v .u64],[],[.u64],(zE yI),λx=>Y6 yD x⟩
theorem ZlD:Zd7.Ok:=fnO { still:=[2,3]} [] [Zrc] ⟨Zxm,ytt⟩
abbrev qV:=yU×yU×yU×yU×yU×yU×yU×yU
def Za8(F:Nat)(s:(yU×qV)):yO ((yU×qV)⊕(qV)):=
 if(decide (s.2.2.2.2.2.2.2.1 >= 4294967296))=true then
  let y57:Bool:=decide ((s.2.2.2.2.2.2.2.2+s.2.2.1) >= 4294967296)
  if y57=true then
   some (.inr (s.1,s.2.1,s.2.2.1,s.2.2.2.1,s.2.2.2.2.1,s.2.2.2.2.2.1,s.2.2.2.2.2.2.1,s.2.2.2.2.2.2.2.1 - 1))
  else
  some (.inl (s.1,s.2.1,s.2.2.1,s.2.2.2.1,s.2.2.2.2.1,s.2.2.2.2.2.1,s.2.2.2.2.2.2.1,s.2.2.2.2.2.2.2.1 - 1,s.2.2.2.2.2.2.2.2+s.2.2.1))
 else
 let y58:Bool:=decide ((s.2.2.2.2.2.2.2.1*s.2.2.2.1) > ((4294967296*s.2.2.2.2.2.2.2.2)+s.2.2.2.2.2.1))
 if y58=true then
  let y59:Bool:=decide ((s.2.2.2.2.2.2.2.2+s.2.2.1) >= 4294967296)
  if y59=true then
   some (.inr (s.1,s.2.1,s.2.2.1,s.2.2.2.1,s.2.2.2.2.1,s.2.2.2.2.2.1,s.2.2.2.2.2.2.1,s.2.2.2.2.2.2.2.1 - 1))
  else
  some (.inl (s.1,s.2.1,s.2.2.1,s.2.2.2.1,s.2.2.2.2.1,s.2.2.2.2.2.1,s.2.2.2.2.2.2.1,s.2.2.2.2.2.2.2.1 - 1,s.2.2.2.2.2.2.2.2+s.2.2.1))
 else
 some (.inr (s.1,s.2.1,s.2.2.1,s.2.2.2.1,s.2.2.2.2.1,s.2.2.2.2.2.1,s.2.2.2.2.2.2.1,s.2.2.2.2.2.2.2.1))
def Zpz:Lp:=⟨[(2,.v .u64),(8,.v .u64),(9,.v .u64),(10,.v .u64),(11,.v .u64),(13,.v .u64),(14,.v .u64),(15,.v .u64),(16,.v .u64)],[],[.u64,.u64,.u64,.u64,.u64,.u64,.u64,.u64,.u64],[⟨.exit 0,[(2,.v .u64),(8,.v .u64),(9,.v .u64),(10,.v .u64),(11,.v .u64),(13,.v .u64),(14,.v .u64),(15,.v .u64)],[],[.u64,.u64,.u64,.u64,.u64,.u64,.u64,.u64]⟩],Zb (Za8 yD) yD⟩
theorem ZsA:Zpz.okA yb 246 0:=Zx { still:=[6,7,34]} [] [] trivial
def Za9(F:Nat)(s:(yU×qV)):yO ((yU×qV)⊕(yU×yU×yU×yU×yU×yU)):=
 if(decide (s.2.2.2.2.2.2.2.2 >= 4294967296))=true then
  let y62:Bool:=decide ((s.2.2.2.2.2.2.1+s.2.2.1) >= 4294967296)
  if y62=true then
   some (.inr (s.1,s.2.1,s.2.2.2.2.1,s.2.2.2.2.2.1,s.2.2.2.2.2.2.2.1,s.2.2.2.2.2.2.2.2 - 1))
  else
  some (.inl (s.1,s.2.1,s.2.2.1,s.2.2.2.1,s.2.2.2.2.1,s.2.2.2.2.2.1,s.2.2.2.2.2.2.1+s.2.2.1,s.2.2.2.2.2.2.2.1,s.2.2.2.2.2.2.2.2 - 1))
 else
 let y63:Bool:=decide ((s.2.2.2.2.2.2.2.2*s.2.2.2.1) > ((4294967296*s.2.2.2.2.2.2.1)+s.2.2.2.2.1))
 if y63=true then
  let y64:Bool:=decide ((s.2.2.2.2.2.2.1+s.2.2.1) >= 4294967296)
  if y64=true then
   some (.inr (s.1,s.2.1,s.2.2.2.2.1,s.2.2.2.2.2.1,s.2.2.2.2.2.2.2.1,s.2.2.2.2.2.2.2.2 - 1))
  else
  some (.inl (s.1,s.2.1,s.2.2.1,s.2.2.2.1,s.2.2.2.2.1,s.2.2.2.2.2.1,s.2.2.2.2.2.2.1+s.2.2.1,s.2.2.2.2.2.2.2.1,s.2.2.2.2.2.2.2.2 - 1))
 else
 some (.inr (s.1,s.2.1,s.2.2.2.2.1,s.2.2.2.2.2.1,s.2.2.2.2.2.2.2.1,s.2.2.2.2.2.2.2.2))
def ZpA:Lp:=⟨[(2,.v .u64),(8,.v .u64),(9,.v .u64),(10,.v .u64),(14,.v .u64),(15,.v .u64),(16,.v .u64),(17,.v .u64),(18,.v .u64)],[],[.u64,.u64,.u64,.u64,.u64,.u64,.u64,.u64,.u64],[⟨.exit 2,[(2,.v .u64),(8,.v .u64),(14,.v .u64),(15,.v .u64),(17,.v .u64),(18,.v .u64)],[],[.u64,.u64,.u64,.u64,.u64,.u64]⟩],Zb (Za9 yD) yD⟩
theorem ZsB:ZpA.okA yb 246 1:=Zx { still:=[6,7,34]} [] [] trivial
def Zjw(F:Nat)(a0:yU)(a1:yU)(a2:yU):yO ((yU×yU)):=
 if(a2==0)=true then
  none
 else
 if(decide (a2<=a0))=true then
  none
 else
 if(a0==0)=true then
  if(a2 !=0)=true then
   if(a2 !=0)=true then
    some (a1 / a2,a1 % a2)
   else
   none
  else
  none
 else
 (Y6 F a2).bind λo50=>
 let y51:yU:=ZO (Q3 a2 (min ((w64 o50).toNat:Int).toNat 64)) 32;let y52:yU:=(Q3 a2 (min ((w64 o50).toNat:Int).toNat 64))&&&4294967295;let y53:yU:=ZO a1 (min ((64 - (w64 o50)).toNat:Int).toNat 64);let y54:yU:=(Q3 a0 (min ((w64 o50).toNat:Int).toNat 64))|||y53;let y55:yU:=ZO (Q3 a1 (min ((w64 o50).toNat:Int).toNat 64)) 32;let y56:yU:=(Q3 a1 (min ((w64 o50).toNat:Int).toNat 64))&&&4294967295
 if(y51 !=0)=true then
  (Zb (Za8 F) F (Q3 a2 (min ((w64 o50).toNat:Int).toNat 64),w64 o50,y51,y52,y54,y55,y56,y54 / y51,y54 - ((y54 / y51)*y51))).bind λo60=>
  let y61:yU:=((o60.2.2.2.2.1*4294967296)+o60.2.2.2.2.2.1) - (o60.2.2.2.2.2.2.2*o60.1)
  if(o60.2.2.1 !=0)=true then
   (Zb (Za9 F) F (o60.1,o60.2.1,o60.2.2.1,o60.2.2.2.1,o60.2.2.2.2.2.2.1,o60.2.2.2.2.2.2.2,y61 - ((y61 / o60.2.2.1)*o60.2.2.1),y61,y61 / o60.2.2.1)).bind λo65=>
   let y66:yU:=((o65.2.2.2.2.1*4294967296)+o65.2.2.1) - (o65.2.2.2.2.2*o65.1)
   some ((o65.2.2.2.1*4294967296)+o65.2.2.2.2.2,ZO y66 (min (o65.2.1.toNat:Int).toNat 64))
  else
  none
 else
 none
def Zrd:Fs yb:=⟨246,[.v .u64,.v .u64,.v .u64],[],[.u64,.u64,.u64],[⟨.ret,[(0,.tup [.v .u64,.v .u64])],[],[.u64,.u64]⟩],λx=>Zjw yD x.1 x.2.1 x.2.2⟩
theorem Zxn:Zrd.Ok:=fnO { still:=[6,7,34]} [(0,Zpz),(1,ZpA)] [Zd7] ⟨ZlD,ytt⟩ ⟨ZsA,ZsB,ytt⟩
def Zdj(F:Nat)(a0:yU)(a1:yU)(a2:yU):yO (yU):=
 if(a2 !=0)=true then
  (Zjw F (a0 % a2) a1 a2).bind λo67=>
  some o67.2
 else
 none
def Zia(F:Nat):Fs yb:=⟨198,[.v .u64,.v .u64,.v .u64],[],[.u64,.u64,.u64],(zE .u64),λx=>Zdj F x.1 x.2.1 x.2.2⟩
def Zxo:Fs yb:=Zia yD
theorem Zwc:Zxo.Ok:=fnO { still:=[6,12,13,14]} [] [Zrd] ⟨Zxn,ytt⟩
end
end Go.Proofs.YtdhclndplbopgaaGreat
end
section
namespace Go.Ev
theorem ZuF(a m:yU):(a - a / m*m).toNat=a.toNat % m.toNat:=by
 have h1:a.toNat / m.toNat*m.toNat<=a.toNat:=Nat.div_mul_le_self _ _;have h2:=ybo a
 have h3:(a / m*m).toNat=a.toNat / m.toNat*m.toNat:=by
  rw[UInt64.toNat_mul,UInt64.toNat_div,yaf (by omega)]
 have h4:(a / m*m)<=a:=by rw[ycs,h3];exact h1
 rw[UInt64.toNat_sub_of_le _ _ h4,h3];have:=Nat.div_add_mod a.toNat m.toNat
 rw[ybf] at this;omega
theorem Znv(x:yU):(x&&&4294967295).toNat=x.toNat % 4294967296:=by
 rw[UInt64.toNat_and];exact Nat.and_two_pow_sub_one_eq_mod x.toNat 32
theorem Zba(x:yU)(n:Nat):(ZO x n).toNat=x.toNat / 2 ^ n:=by
 unfold ZO;rw[yaw,yaf (ycz (Nat.div_le_self ..) (ybo _))]
theorem ZoQ{x y:yU}(h:x.toNat+y.toNat < 18446744073709551616):(x+y).toNat=x.toNat+y.toNat:=by
 rw[UInt64.toNat_add,yaf h]
theorem ZoR{x y:yU}(h:x.toNat*y.toNat < 18446744073709551616):(x*y).toNat=x.toNat*y.toNat:=by
 rw[UInt64.toNat_mul,yaf h]
theorem Znw{a b:Nat}(ha:a < 4294967296)(hb:b < 4294967296):a*b<=18446744065119617025:=Nat.mul_le_mul (Nat.le_of_lt_succ ha) (Nat.le_of_lt_succ hb)
end Go.Ev
end
section
set_option maxRecDepth 4000
namespace Go.Proofs.YtdhclndplbopgaaGreat
open Go Go.Ev
section
variable{y1 y0 u d q r:Nat}
theorem ZOe(h:q*y1+r=u)(hc:4294967296*r+d < q*y0):u*4294967296+d < q*(y1*4294967296+y0):=by
 have e:q*(y1*4294967296+y0)=q*y1*4294967296+q*y0:=by rw[Nat.mul_add,Nat.mul_assoc]
 rw[e];omega
theorem ZJf(h:q*y1+r=u)(hc:q*y0<=4294967296*r+d):q*(y1*4294967296+y0)<=u*4294967296+d:=by
 have e:q*(y1*4294967296+y0)=q*y1*4294967296+q*y0:=by rw[Nat.mul_add,Nat.mul_assoc]
 rw[e];omega
theorem ZM9(hu:u < y1*4294967296+y0)(hd:d < 4294967296):(u*4294967296+d) / (y1*4294967296+y0) < 4294967296:=by
 rw[Nat.div_lt_iff_lt_mul (by omega)];omega
theorem ZFB(h:q*y1+r=u)(hq:1<=q):(q - 1)*y1+(r+y1)=u:=by
 have e:q*y1=(q - 1)*y1+y1:=by
  rw[<-Nat.succ_mul];congr 1;omega
 omega
theorem ZJg(hu:u < y1*4294967296+y0)(h0:y0 < 4294967296)(h:q*y1+r=u)(hr:4294967296<=r):q*y0<=4294967296*r+d:=by
 by_cases hq:q < 4294967296
 ·have:q*y0<=4294967295*4294967295:=Nat.mul_le_mul (by omega) (by omega);omega
 ·have:4294967296*y1<=q*y1:=ycc _ (by omega);omega
end
theorem ZEf{q T Y:Nat}(hY:0 < Y)(h1:T / Y<=q)(h2:q*Y<=T):q=T / Y:=Nat.le_antisymm ((Nat.le_div_iff_mul_le hY).2 h2) h1
theorem ZCg{y1 y0 u d:Nat}{Q R Y0 Y1 D:yU}(hY1:Y1.toNat=y1)(hY0:Y0.toNat=y0)(hD:D.toNat=d)(h1:y1 < 4294967296)(h0:y0 < 4294967296)(hd:d < 4294967296)(hu:u < y1*4294967296+y0)
 (e:Q.toNat*y1+R.toNat=u) (hr:R.toNat < 4294967296) (hge:(u*4294967296+d) / (y1*4294967296+y0)<=Q.toNat):
 ((Q >= 4294967296\/(Q*Y0 > (4294967296*R)+D))/\(u*4294967296+d) / (y1*4294967296+y0)<=(Q - 1).toNat/\(Q - 1).toNat*y1+(R+Y1).toNat=u/\(R+Y1).toNat=R.toNat+y1)\/
 (¬Q >= 4294967296/\¬(Q*Y0 > (4294967296*R)+D)/\Q.toNat=(u*4294967296+d) / (y1*4294967296+y0)):=by
 have hadd:(R+Y1).toNat=R.toNat+y1:=by rw[ZoQ (by omega),hY1]
 have hrd:((4294967296*R)+D).toNat=4294967296*R.toNat+d:=by
  have m:(4294967296*R:yU).toNat=4294967296*R.toNat:=by
   rw[ZoR (by show 4294967296*R.toNat < _;omega)];rfl
  rw[ZoQ (by rw[m];omega),m,hD]
 have dec:1<=Q.toNat->(Q - 1).toNat=Q.toNat - 1:=λh=>by
  rw[UInt64.toNat_sub_of_le _ _ (by rw[ycs];exact h)];rfl
 by_cases c1:Q >= 4294967296
 ·left
  have hq:4294967296<=Q.toNat:=by
   rw[ge_iff_le,ycs] at c1;exact c1
  have:=ZM9 hu hd;refine⟨.inl c1,by rw[dec (by omega)];omega, ?_,hadd⟩;rw[dec (by omega),hadd];exact ZFB e (by omega)
 have hq:Q.toNat < 4294967296:=by
  rw[ge_iff_le,ycs] at c1;exact Nat.lt_of_not_le c1
 have hmul:(Q*Y0).toNat=Q.toNat*y0:=by
  have:=Znw hq h0;rw[ZoR (by rw[hY0];omega),hY0]
 by_cases c2:Q*Y0 > (4294967296*R)+D
 ·left
  have c3:4294967296*R.toNat+d < Q.toNat*y0:=by
   have:=yca.1 c2;rw[hmul,hrd] at this;exact this
  have q1:1<=Q.toNat:=by
   rcases ycd Q.toNat with h|h
   ·rw[h,Nat.zero_mul] at c3;omega
   ·exact h
  have hg:=ZOe (d:=d) e c3;have hlt:(u*4294967296+d) / (y1*4294967296+y0) < Q.toNat:=(Nat.div_lt_iff_lt_mul (by omega)).2 hg;refine⟨.inr c2,by rw[dec q1];omega, ?_,hadd⟩;rw[dec q1,hadd];exact ZFB e q1
 ·right
  have c3:Q.toNat*y0<=4294967296*R.toNat+d:=by
   have:¬(((4294967296*R)+D).toNat < (Q*Y0).toNat):=λh=>c2 (yca.2 h);rw[hmul,hrd] at this;omega
  exact⟨c1,c2,ZEf (by omega) hge (ZJf e c3)⟩
theorem ZOf{y1 y0 u d:Nat}{Yv N Y1 Y0 U D E Q R:yU}(hY1:Y1.toNat=y1)(hY0:Y0.toNat=y0)(hD:D.toNat=d)(h1:y1 < 4294967296)(h3:0 < y1)(h0:y0 < 4294967296)(hd:d < 4294967296)(hu:u < y1*4294967296+y0)
 (e:Q.toNat*y1+R.toNat=u) (hr:R.toNat < 4294967296) (hge:(u*4294967296+d) / (y1*4294967296+y0)<=Q.toNat):
 ∃q:yU,Zb (Za8 yD) yD (Yv,N,Y1,Y0,U,D,E,Q,R)=some (Yv,N,Y1,Y0,U,D,E,q)/\q.toNat=(u*4294967296+d) / (y1*4294967296+y0):=by
 obtain⟨x,hx,q,rfl,hq⟩:=V2 (step:=Za8 yD) (λs=>∃Q R:yU,s=(Yv,N,Y1,Y0,U,D,E,Q,R)/\Q.toNat*y1+R.toNat=u/\R.toNat < 4294967296/\(u*4294967296+d) / (y1*4294967296+y0)<=Q.toNat)
  (λs=>4294967296 - s.2.2.2.2.2.2.2.2.toNat) (λx=>∃q:yU,x=(Yv,N,Y1,Y0,U,D,E,q)/\q.toNat=(u*4294967296+d) / (y1*4294967296+y0)) (by
  rintro _ ⟨Q,R,rfl,e,hr,hge⟩;unfold Za8;dsimp only;rcases ZCg hY1 hY0 hD h1 h0 hd hu e hr hge with⟨c,k1,k2,k3⟩|⟨c1,c2,k⟩
  ·have key:(∃j,(if decide (R+Y1 >= 4294967296)=true then some (Sum.inr (Yv,N,Y1,Y0,U,D,E,Q - 1)) else some (Sum.inl (Yv,N,Y1,Y0,U,D,E,Q - 1,R+Y1)):yO ((yU×qV)⊕(qV)))=some (.inl j)/\
    (∃Q R:yU,j=(Yv,N,Y1,Y0,U,D,E,Q,R)/\Q.toNat*y1+R.toNat=u/\R.toNat < 4294967296/\(u*4294967296+d) / (y1*4294967296+y0)<=Q.toNat)/\4294967296 - j.2.2.2.2.2.2.2.2.toNat < 4294967296 - R.toNat)\/
    (∃x,(if decide (R+Y1 >= 4294967296)=true then some (Sum.inr (Yv,N,Y1,Y0,U,D,E,Q - 1)) else some (Sum.inl (Yv,N,Y1,Y0,U,D,E,Q - 1,R+Y1)):yO ((yU×qV)⊕(qV)))=some (.inr x)/\
    ∃q:yU,x=(Yv,N,Y1,Y0,U,D,E,q)/\q.toNat=(u*4294967296+d) / (y1*4294967296+y0)):=by
    by_cases hb:R+Y1 >= 4294967296
    ·right;rw[yW (yY hb)]
     have hb2:4294967296<=(R+Y1).toNat:=by
      rw[ge_iff_le,ycs] at hb;exact hb
     exact⟨_,rfl,_,rfl,ZEf (by omega) k1 (ZJf k2 (ZJg hu h0 k2 hb2))⟩
    ·left;rw[yX (by rw[yN];exact hb)]
     have hb2:(R+Y1).toNat < 4294967296:=by
      rw[ge_iff_le,ycs] at hb;exact Nat.lt_of_not_le hb
     exact⟨_,rfl,⟨_,_,rfl,k2,hb2,k1⟩,by dsimp only;omega⟩
   rcases c with c|c
   ·rw[yW (yY c)];exact key
   ·by_cases c1:Q >= 4294967296
    ·rw[yW (yY c1)];exact key
    ·rw[yX (by rw[yN];exact c1),yW (yY c)];exact key
  ·right;rw[yX (by rw[yN];exact c1),yX (by rw[yN];exact c2)];exact⟨_,rfl,_,rfl,k⟩) (Yv,N,Y1,Y0,U,D,E,Q,R) ⟨Q,R,rfl,e,hr,hge⟩ (by dsimp only;omega)
 exact⟨q,hx,hq⟩
theorem ZOg{y1 y0 u d:Nat}{Yv N Y1 Y0 U D E Q R:yU}(hY1:Y1.toNat=y1)(hY0:Y0.toNat=y0)(hD:D.toNat=d)(h1:y1 < 4294967296)(h3:0 < y1)(h0:y0 < 4294967296)(hd:d < 4294967296)(hu:u < y1*4294967296+y0)
 (e:Q.toNat*y1+R.toNat=u) (hr:R.toNat < 4294967296) (hge:(u*4294967296+d) / (y1*4294967296+y0)<=Q.toNat):
 ∃q:yU,Zb (Za9 yD) yD (Yv,N,Y1,Y0,D,E,R,U,Q)=some (Yv,N,D,E,U,q)/\q.toNat=(u*4294967296+d) / (y1*4294967296+y0):=by
 obtain⟨x,hx,q,rfl,hq⟩:=V2 (step:=Za9 yD) (λs=>∃Q R:yU,s=(Yv,N,Y1,Y0,D,E,R,U,Q)/\Q.toNat*y1+R.toNat=u/\R.toNat < 4294967296/\(u*4294967296+d) / (y1*4294967296+y0)<=Q.toNat)
  (λs=>4294967296 - s.2.2.2.2.2.2.1.toNat) (λx=>∃q:yU,x=(Yv,N,D,E,U,q)/\q.toNat=(u*4294967296+d) / (y1*4294967296+y0)) (by
  rintro _ ⟨Q,R,rfl,e,hr,hge⟩;unfold Za9;dsimp only;rcases ZCg hY1 hY0 hD h1 h0 hd hu e hr hge with⟨c,k1,k2,k3⟩|⟨c1,c2,k⟩
  ·have key:(∃j,(if decide (R+Y1 >= 4294967296)=true then some (Sum.inr (Yv,N,D,E,U,Q - 1)) else some (Sum.inl (Yv,N,Y1,Y0,D,E,R+Y1,U,Q - 1)):yO ((yU×qV)⊕(yU×yU×yU×yU×yU×yU)))=some (.inl j)/\
    (∃Q R:yU,j=(Yv,N,Y1,Y0,D,E,R,U,Q)/\Q.toNat*y1+R.toNat=u/\R.toNat < 4294967296/\(u*4294967296+d) / (y1*4294967296+y0)<=Q.toNat)/\4294967296 - j.2.2.2.2.2.2.1.toNat < 4294967296 - R.toNat)\/
    (∃x,(if decide (R+Y1 >= 4294967296)=true then some (Sum.inr (Yv,N,D,E,U,Q - 1)) else some (Sum.inl (Yv,N,Y1,Y0,D,E,R+Y1,U,Q - 1)):yO ((yU×qV)⊕(yU×yU×yU×yU×yU×yU)))=some (.inr x)/\
    ∃q:yU,x=(Yv,N,D,E,U,q)/\q.toNat=(u*4294967296+d) / (y1*4294967296+y0)):=by
    by_cases hb:R+Y1 >= 4294967296
    ·right;rw[yW (yY hb)]
     have hb2:4294967296<=(R+Y1).toNat:=by
      rw[ge_iff_le,ycs] at hb;exact hb
     exact⟨_,rfl,_,rfl,ZEf (by omega) k1 (ZJf k2 (ZJg hu h0 k2 hb2))⟩
    ·left;rw[yX (by rw[yN];exact hb)]
     have hb2:(R+Y1).toNat < 4294967296:=by
      rw[ge_iff_le,ycs] at hb;exact Nat.lt_of_not_le hb
     exact⟨_,rfl,⟨_,_,rfl,k2,hb2,k1⟩,by dsimp only;omega⟩
   rcases c with c|c
   ·rw[yW (yY c)];exact key
   ·by_cases c1:Q >= 4294967296
    ·rw[yW (yY c1)];exact key
    ·rw[yX (by rw[yN];exact c1),yW (yY c)];exact key
  ·right;rw[yX (by rw[yN];exact c1),yX (by rw[yN];exact c2)];exact⟨_,rfl,_,rfl,k⟩) (Yv,N,Y1,Y0,D,E,R,U,Q) ⟨Q,R,rfl,e,hr,hge⟩ (by dsimp only;omega)
 exact⟨q,hx,hq⟩
theorem ZFC{A B:yU}{a b:Nat}(hA:A.toNat=a % 18446744073709551616)(hB:B.toNat=b % 18446744073709551616)(h:b<=a)(hd:a - b < 18446744073709551616):(A - B).toNat=a - b:=by
 rw[UInt64.toNat_sub,hA,hB];omega
theorem ZtD(u y1:Nat):u / y1*y1+u % y1=u:=by
 have:=Nat.div_add_mod u y1;rw[ybf] at this;exact this
theorem ZJh{u y1 y0 d:Nat}(h1:0 < y1)(hd:d < 4294967296):(u*4294967296+d) / (y1*4294967296+y0)<=u / y1:=by
 have h:(u*4294967296+d) / (y1*4294967296+y0)<=(u*4294967296+d) / (y1*4294967296):=Nat.div_le_div_left (by omega) (by omega)
 have e:(u*4294967296+d) / (y1*4294967296)=u / y1:=by
  rw[ybf y1, <-Nat.div_div_eq_div_mul];congr 1;omega
 omega
theorem ZJi{a b y:yU}{s:Nat}{Y:yU}(hy:y≠0)(hs:Y6 yD y=some (s:Int))(s0:0 < s)(s1:s < 64)(hY:Q3 y s=Y)(hYn:Y.toNat=y.toNat*2 ^ s)(hY63:9223372036854775808<=Y.toNat)(ha:a.toNat < y.toNat):
 ∃q r,Zjw yD a b y=some (q,r)/\r.toNat=(a.toNat*18446744073709551616+b.toNat) % y.toNat:=by
 have ha2:¬(y<=a):=by
  rw[ycs];omega
 unfold Zjw;rw[yX (by rw[yT];exact hy),yX (by rw[yN];exact ha2)];by_cases h0:a=0
 ·subst h0;rw[yW (by decide),yW (by rw[yE];exact hy),yW (by rw[yE];exact hy)];refine⟨_,_,rfl, ?_⟩;rw[ycr];simp
 rw[yX (by rw[yT];exact h0),hs,ya];dsimp only
 have w:w64 (s:Int)=yx s:=by
  unfold w64;congr 1;omega
 have ws:(w64 (s:Int)).toNat=s:=by rw[w,yaw,yaf (by omega)]
 have e1:min ((w64 (s:Int)).toNat:Int).toNat 64=s:=by rw[ws];omega
 have e2:(64 - w64 (s:Int)).toNat=64 - s:=by
  rw[UInt64.toNat_sub_of_le _ _ (by rw[ycs,ws];show s<=64;omega),ws];rfl
 have e3:min ((64 - w64 (s:Int)).toNat:Int).toNat 64=64 - s:=by rw[e2];omega
 rw[e1,e3,hY];have hYl:=ybo Y;have hb:=ybo b
 have p64:2 ^ (64 - s)*2 ^ s=18446744073709551616:=by
  rw[<-Nat.pow_add];have:64 - s+s=64:=by omega
  rw[this]
 have hp:0 < 2 ^ s:=Nat.pow_pos (by decide);obtain⟨y1,hy1⟩:∃y1,y1=Y.toNat / 4294967296:=⟨_,rfl⟩;obtain⟨y0,hy0⟩:∃y0,y0=Y.toNat % 4294967296:=⟨_,rfl⟩;have hYd:Y.toNat=y1*4294967296+y0:=by omega
 have ty1:(ZO Y 32).toNat=y1:=by rw[Zba,hy1]
 have ty0:(Y&&&4294967295).toNat=y0:=by rw[Znv,hy0]
 have l1:y1 < 4294967296:=by omega
 have g1:2147483648<=y1:=by omega
 have l0:y0 < 4294967296:=by omega
 have hash:a.toNat*2 ^ s < Y.toNat:=by rw[hYn];exact Nat.mul_lt_mul_of_pos_right ha hp
 have bd:b.toNat / 2 ^ (64 - s) < 2 ^ s:=by
  rw[Nat.div_lt_iff_lt_mul (Nat.pow_pos (by decide)),ybf,p64];exact hb
 have tu:((Q3 a s)|||(ZO b (64 - s))).toNat=a.toNat*2 ^ s+b.toNat / 2 ^ (64 - s):=by
  rw[UInt64.toNat_or,Zba];unfold Q3;rw[yaw,yaf (by omega),ybf, <-ycy bd]
 have t10:(Q3 b s).toNat=b.toNat*2 ^ s % 18446744073709551616:=by
  unfold Q3;rw[yaw]
 obtain⟨u,hu⟩:∃u,u=a.toNat*2 ^ s+b.toNat / 2 ^ (64 - s):=⟨_,rfl⟩;obtain⟨v,hv⟩:∃v,v=b.toNat*2 ^ s % 18446744073709551616:=⟨_,rfl⟩;rw[<-hu] at tu;rw[<-hv] at t10
 have hbs:b.toNat*2 ^ s=b.toNat / 2 ^ (64 - s)*18446744073709551616+v:=by
  have h1:=Nat.div_add_mod (b.toNat*2 ^ s) 18446744073709551616
  have h2:b.toNat*2 ^ s / 18446744073709551616=b.toNat / 2 ^ (64 - s):=by
   rw[<-p64];exact Nat.mul_div_mul_right _ _ hp
  rw[h2, <-hv] at h1;omega
 have hN:(a.toNat*18446744073709551616+b.toNat)*2 ^ s=u*18446744073709551616+v:=by
  rw[yaz,hbs,hu,Nat.mul_right_comm];omega
 have uY:u < y1*4294967296+y0:=by
  rw[<-hYd,hu,hYn];have h1:(a.toNat+1)*2 ^ s<=y.toNat*2 ^ s:=ycc _ ha;rw[yaz,Nat.one_mul] at h1;omega
 have hvl:v < 18446744073709551616:=by rw[hv];exact ybc _ (by decide)
 obtain⟨d1,hd1⟩:∃d1,d1=v / 4294967296:=⟨_,rfl⟩;obtain⟨d0,hd0⟩:∃d0,d0=v % 4294967296:=⟨_,rfl⟩;have td1:(ZO (Q3 b s) 32).toNat=d1:=by rw[Zba,t10,hd1]
 have td0:((Q3 b s)&&&4294967295).toNat=d0:=by rw[Znv,t10,hd0]
 generalize ((Q3 a s)|||(ZO b (64 - s)):yU)=U at tu ⊢;generalize (ZO (Q3 b s) 32:yU)=D1 at td1 ⊢;generalize ((Q3 b s)&&&4294967295:yU)=D0 at td0 ⊢;generalize (ZO Y 32:yU)=Y1 at ty1 ⊢;generalize (Y&&&4294967295:yU)=Y0 at ty0 ⊢
 have y1ne:(Y1 !=0)=true:=by
  rw[yE];intro h;rw[h] at ty1;have:(0:yU).toNat=0:=rfl;omega
 rw[yW y1ne]
 have f1:(U / Y1).toNat*y1+(U - U / Y1*Y1).toNat=u:=by
  rw[ZuF,UInt64.toNat_div,tu,ty1];exact ZtD u y1
 have f2:(U - U / Y1*Y1).toNat < 4294967296:=by
  rw[ZuF,tu,ty1];exact Nat.lt_trans (ybc _ (by omega)) l1
 have f3:(u*4294967296+d1) / (y1*4294967296+y0)<=(U / Y1).toNat:=by
  rw[UInt64.toNat_div,tu,ty1];exact ZJh (by omega) (by omega)
 obtain⟨q1,k1,k2⟩:=ZOf (Yv:=Y) (N:=w64 (s:Int)) (U:=U) (E:=D0) ty1 ty0 td1 l1 (by omega) l0 (by omega) uY f1 f2 f3;rw[k1,ya];dsimp only;rw[yW y1ne];have m1:=Nat.div_add_mod (u*4294967296+d1) Y.toNat
 have m2:(u*4294967296+d1) % Y.toNat < Y.toNat:=ybc _ (by omega);rw[<-hYd] at k2
 have tv:(((U*4294967296)+D1) - (q1*Y)).toNat=(u*4294967296+d1) % Y.toNat:=by
  rw[ZFC (a:=u*4294967296+d1) (b:=q1.toNat*Y.toNat) ?_ ?_ ?_ ?_]
  ·rw[k2,ybf ((u*4294967296+d1) / Y.toNat)];omega
  ·rw[UInt64.toNat_add,UInt64.toNat_mul,tu,td1,show(4294967296:yU).toNat=4294967296 from rfl]
   omega
  ·rw[UInt64.toNat_mul]
  ·rw[k2,ybf ((u*4294967296+d1) / Y.toNat)];omega
  ·rw[k2,ybf ((u*4294967296+d1) / Y.toNat)];omega
 obtain⟨u2,hu2⟩:∃u2,u2=(u*4294967296+d1) % Y.toNat:=⟨_,rfl⟩;rw[<-hu2] at tv m2 m1;generalize (((U*4294967296)+D1) - (q1*Y):yU)=V at tv ⊢
 have f4:(V / Y1).toNat*y1+(V - V / Y1*Y1).toNat=u2:=by
  rw[ZuF,UInt64.toNat_div,tv,ty1];exact ZtD u2 y1
 have f5:(V - V / Y1*Y1).toNat < 4294967296:=by
  rw[ZuF,tv,ty1];exact Nat.lt_trans (ybc _ (by omega)) l1
 have f6:(u2*4294967296+d0) / (y1*4294967296+y0)<=(V / Y1).toNat:=by
  rw[UInt64.toNat_div,tv,ty1];exact ZJh (by omega) (by omega)
 obtain⟨q0,k3,k4⟩:=ZOg (Yv:=Y) (N:=w64 (s:Int)) (U:=V) (E:=q1) ty1 ty0 td0 l1 (by omega) l0 (by omega) (by rw[<-hYd];exact m2) f4 f5 f6;rw[k3,ya];refine⟨_,_,rfl, ?_⟩;dsimp only;rw[e1,Zba];rw[<-hYd] at k4;have m3:=Nat.div_add_mod (u2*4294967296+d0) Y.toNat
 have m4:(u2*4294967296+d0) % Y.toNat < Y.toNat:=ybc _ (by omega)
 have tr:(((V*4294967296)+D0) - (q0*Y)).toNat=(u2*4294967296+d0) % Y.toNat:=by
  rw[ZFC (a:=u2*4294967296+d0) (b:=q0.toNat*Y.toNat) ?_ ?_ ?_ ?_]
  ·rw[k4,ybf ((u2*4294967296+d0) / Y.toNat)];omega
  ·rw[UInt64.toNat_add,UInt64.toNat_mul,tv,td0,show(4294967296:yU).toNat=4294967296 from rfl]
   omega
  ·rw[UInt64.toNat_mul]
  ·rw[k4,ybf ((u2*4294967296+d0) / Y.toNat)];omega
  ·rw[k4,ybf ((u2*4294967296+d0) / Y.toNat)];omega
 rw[tr]
 have hNm:((a.toNat*18446744073709551616+b.toNat)*2 ^ s) % Y.toNat=(u2*4294967296+d0) % Y.toNat:=by
  have e:(a.toNat*18446744073709551616+b.toNat)*2 ^ s=u2*4294967296+d0+Y.toNat*((u*4294967296+d1) / Y.toNat*4294967296):=by
   rw[hN, <-Nat.mul_assoc];omega
  rw[e,Nat.add_mul_mod_self_left]
 rw[<-hNm,hYn,Nat.mul_mod_mul_right,Nat.mul_div_cancel _ hp]
theorem ZAa{y Y:yU}{s:Nat}(a b:yU)(hy:y≠0)(hs:Y6 yD y=some (s:Int))(s0:0 < s)(s1:s < 64)(hY:Q3 y s=Y)(hYn:Y.toNat=y.toNat*2 ^ s)(hY63:9223372036854775808<=Y.toNat):
 Zdj yD a b y=some (yx ((a.toNat*18446744073709551616+b.toNat) % y.toNat)):=by
 have hp:0 < y.toNat:=by
  rcases ycd y.toNat with h|h
  ·exact absurd (UInt64.toNat_inj.1 h) hy
  ·exact h
 obtain⟨q,r,h1,h2⟩:=ZJi (a:=a % y) (b:=b) hy hs s0 s1 hY hYn hY63 (by rw[ycr];exact ybc _ hp);unfold Zdj;rw[yW (by rw[yE];exact hy),h1,ya];dsimp only;rw[ycr,Nat.add_mod,Nat.mod_mul_mod, <-Nat.add_mod] at h2;rw[<-h2,UInt64.ofNat_toNat]
theorem ZNa:Y6 yD 4611686018427377339=some ((2:Nat):Int):=by kernel_rfl
theorem ZNb:Y6 yD 2305843009213688669=some ((3:Nat):Int):=by kernel_rfl
theorem ZNc:Y6 yD 2305843009213688668=some ((3:Nat):Int):=by kernel_rfl
noncomputable def V9(F:Nat)(a0:yU)(a1:yU)(a2:yU):yO yU:=
 if(a2==4611686018427377339 || (a2==2305843009213688669 || a2==2305843009213688668))=true then some (yx ((a0.toNat*18446744073709551616+a1.toNat) % a2.toNat)) else Zdj F a0 a1 a2
theorem ZJj(a b y:yU):Zdj yD a b y=V9 yD a b y:=by
 unfold V9;split
 ·rename_i h;simp only[Bool.or_eq_true,yT] at h;rcases h with rfl|rfl|rfl
  ·exact ZAa (Y:=18446744073709509356) (s:=2) a b (by decide) ZNa (by decide) (by decide) (by kernel_rfl) (by decide) (by decide)
  ·exact ZAa (Y:=18446744073709509352) (s:=3) a b (by decide) ZNb (by decide) (by decide) (by kernel_rfl) (by decide) (by decide)
  ·exact ZAa (Y:=18446744073709509344) (s:=3) a b (by decide) ZNc (by decide) (by decide) (by kernel_rfl) (by decide) (by decide)
 ·rfl
noncomputable def Zxp(F:Nat):Fs yb:={ Zia F with M:=λx=>V9 F x.1 x.2.1 x.2.2}
noncomputable def Zhe:Fs yb:=Zxp yD
theorem ZjR:Zhe.Ok:=Zqq (s:=Zia yD) Zwc λx=>(ZJj x.1 x.2.1 x.2.2).symm
end Go.Proofs.YtdhclndplbopgaaGreat
end
section
set_option maxRecDepth 4000
namespace Go.Proofs.YtdhclndplbopgaaGreat
open Go Go.Ev
noncomputable section
def Zhf(F:Nat)(a0:yU)(a1:yU):yO ((yU×yU)):=
 let y68:yU:=ZO ((a0&&&4294967295)*(a1&&&4294967295)) 32;let y69:yU:=(((ZO a0 32)*(a1&&&4294967295))+y68)&&&4294967295;let y70:yU:=ZO (((ZO a0 32)*(a1&&&4294967295))+y68) 32;let y71:yU:=ZO (y69+((a0&&&4294967295)*(ZO a1 32))) 32
 some ((((ZO a0 32)*(ZO a1 32))+y70)+y71,a0*a1)
def Zib(F:Nat):Fs yb:=⟨251,[.v .u64,.v .u64],[],[.u64,.u64],[⟨.ret,[(0,.tup [.v .u64,.v .u64])],[],[.u64,.u64]⟩],λx=>Zhf F x.1 x.2⟩
def Zxq:Fs yb:=Zib yD
theorem Zwd:Zxq.Ok:=fnO { still:=[4,5]} [] [] trivial
end
end Go.Proofs.YtdhclndplbopgaaGreat
end
section
set_option maxRecDepth 4000
namespace Go.Proofs.YtdhclndplbopgaaGreat
open Go Go.Ev
theorem ZJk(x y:yU):∃h l,Zhf yD x y=some (h,l)/\h.toNat*18446744073709551616+l.toNat=x.toNat*y.toNat:=by
 unfold Zhf;refine⟨_,_,rfl, ?_⟩;have hx:=ybo x;have hy:=ybo y;have x0l:x.toNat % 4294967296 < 4294967296:=ybc _ (by decide);have y0l:y.toNat % 4294967296 < 4294967296:=ybc _ (by decide);have x1l:x.toNat / 4294967296 < 4294967296:=by omega
 have y1l:y.toNat / 4294967296 < 4294967296:=by omega
 have xe:x.toNat=x.toNat / 4294967296*4294967296+x.toNat % 4294967296:=by omega
 have ye:y.toNat=y.toNat / 4294967296*4294967296+y.toNat % 4294967296:=by omega
 generalize hX1:x.toNat / 4294967296=x1 at*;generalize hX0:x.toNat % 4294967296=x0 at*;generalize hY1:y.toNat / 4294967296=y1 at*;generalize hY0:y.toNat % 4294967296=y0 at*;have p00:=Znw x0l y0l;have p10:=Znw x1l y0l;have p01:=Znw x0l y1l;have p11:=Znw x1l y1l
 have prod:x.toNat*y.toNat=x1*y1*18446744073709551616+(x1*y0+x0*y1)*4294967296+x0*y0:=by
  rw[xe,ye,yaz,Nat.mul_add,Nat.mul_add]
  have e1:x1*4294967296*(y1*4294967296)=x1*y1*18446744073709551616:=by
   rw[Nat.mul_assoc,Nat.mul_left_comm 4294967296 y1, <-Nat.mul_assoc]
  have e2:x1*4294967296*y0=x1*y0*4294967296:=by rw[Nat.mul_right_comm]
  have e3:x0*(y1*4294967296)=x0*y1*4294967296:=by rw[Nat.mul_assoc]
  rw[e1,e2,e3];omega
 have q00:((x&&&4294967295)*(y&&&4294967295)).toNat=x0*y0:=by
  rw[ZoR (by rw[Znv,Znv,hX0,hY0];omega),Znv,Znv,hX0,hY0]
 have q10:((ZO x 32)*(y&&&4294967295)).toNat=x1*y0:=by
  rw[ZoR (by rw[Zba,Znv,show(2:Nat) ^ 32=4294967296 from rfl,hX1,hY0];omega),Zba,Znv,show(2:Nat) ^ 32=4294967296 from rfl,hX1,hY0]
 have q01:((x&&&4294967295)*(ZO y 32)).toNat=x0*y1:=by
  rw[ZoR (by rw[Zba,Znv,show(2:Nat) ^ 32=4294967296 from rfl,hX0,hY1];omega),Zba,Znv,show(2:Nat) ^ 32=4294967296 from rfl,hX0,hY1]
 have q11:((ZO x 32)*(ZO y 32)).toNat=x1*y1:=by
  rw[ZoR (by rw[Zba,Zba,show(2:Nat) ^ 32=4294967296 from rfl,hX1,hY1];omega),Zba,Zba,show(2:Nat) ^ 32=4294967296 from rfl,hX1,hY1]
 generalize hA:((x&&&4294967295)*(y&&&4294967295):yU)=A at*;generalize hB:((ZO x 32)*(y&&&4294967295):yU)=B at*;generalize hC:((x&&&4294967295)*(ZO y 32):yU)=C at*;generalize hD:((ZO x 32)*(ZO y 32):yU)=D at*;have s1:(ZO A 32).toNat=x0*y0 / 4294967296:=by rw[Zba,q00]
 have s2:(B+ZO A 32).toNat=x1*y0+x0*y0 / 4294967296:=by rw[ZoQ (by rw[q10,s1];omega),q10,s1]
 have s3:((B+ZO A 32)&&&4294967295).toNat=(x1*y0+x0*y0 / 4294967296) % 4294967296:=by rw[Znv,s2]
 have s4:(ZO (B+ZO A 32) 32).toNat=(x1*y0+x0*y0 / 4294967296) / 4294967296:=by rw[Zba,s2]
 have s5:(((B+ZO A 32)&&&4294967295)+C).toNat=(x1*y0+x0*y0 / 4294967296) % 4294967296+x0*y1:=by rw[ZoQ (by rw[s3,q01];omega),s3,q01]
 have s6:(ZO (((B+ZO A 32)&&&4294967295)+C) 32).toNat=((x1*y0+x0*y0 / 4294967296) % 4294967296+x0*y1) / 4294967296:=by rw[Zba,s5]
 have s7:(D+ZO (B+ZO A 32) 32).toNat=x1*y1+(x1*y0+x0*y0 / 4294967296) / 4294967296:=by rw[ZoQ (by rw[q11,s4];omega),q11,s4]
 have s8:(x*y).toNat=x.toNat*y.toNat % 18446744073709551616:=UInt64.toNat_mul ..
 have s9:((D+ZO (B+ZO A 32) 32)+ZO (((B+ZO A 32)&&&4294967295)+C) 32).toNat=x1*y1+(x1*y0+x0*y0 / 4294967296) / 4294967296+((x1*y0+x0*y0 / 4294967296) % 4294967296+x0*y1) / 4294967296:=by
  rw[ZoQ (by rw[s7,s6];omega),s7,s6]
 rw[s9,s8,prod];generalize x0*y0=a at*;generalize x1*y0=b at*;generalize x0*y1=c at*;generalize x1*y1=d at*;omega
theorem ZJl(x y:yU):Zhf yD x y=some (yx (x.toNat*y.toNat / 18446744073709551616),yx (x.toNat*y.toNat % 18446744073709551616)):=by
 obtain⟨h,l,e,k⟩:=ZJk x y;have hl:=ybo l;rw[e, <-k,show(h.toNat*18446744073709551616+l.toNat) / 18446744073709551616=h.toNat by omega,show(h.toNat*18446744073709551616+l.toNat) % 18446744073709551616=l.toNat by omega,UInt64.ofNat_toNat,UInt64.ofNat_toNat]
noncomputable def ZfA(F:Nat)(a0:yU)(a1:yU):yO (yU×yU):=some (yx (a0.toNat*a1.toNat / 18446744073709551616),yx (a0.toNat*a1.toNat % 18446744073709551616))
noncomputable def Zxr(F:Nat):Fs yb:={ Zib F with M:=λx=>ZfA F x.1 x.2}
noncomputable def ZlE:Fs yb:=Zxr yD
theorem ZpB:ZlE.Ok:=Zqq (s:=Zib yD) Zwd λx=>(ZJl x.1 x.2).symm
end Go.Proofs.YtdhclndplbopgaaGreat
end
section
set_option maxRecDepth 4000
namespace Go.Proofs.YtdhclndplbopgaaGreat
open Go Go.Ev
noncomputable section
def YU(F:Nat)(a0:yU)(a1:yU):yO (yU):=
 (ZfA F a0 a1).bind λo72=>
 (V9 F o72.1 o72.2 4611686018427377339).bind λo73=>
 some o73
def ZjS:Fs yb:=⟨205,[.v .u64,.v .u64],[],[.u64,.u64],(zE .u64),λx=>YU yD x.1 x.2⟩
theorem Znx:ZjS.Ok:=fnO { still:=[4,8,9,13,14]} [] [ZlE,Zhe] ⟨ZpB,ZjR,ytt⟩
def QT(F:Nat)(s:(yU×yU×yU)):yO ((yU×yU×yU)⊕yU):=
 if(decide (s.2.1 > 0))=true then
  if((s.2.1&&&1)==1)=true then
   (YU F s.2.2 s.1).bind λo74=>
   (YU F s.1 s.1).bind λo75=>
   some (.inl (o75,ZO s.2.1 1,o74))
  else
  (YU F s.1 s.1).bind λo76=>
  some (.inl (o76,ZO s.2.1 1,s.2.2))
 else
 some (.inr s.2.2)
def Zmv:Lp:=⟨[(0,.v .u64),(1,.v .u64),(5,.v .u64)],[],[.u64,.u64,.u64],[⟨.exit 0,[(5,.v .u64)],[],[.u64]⟩],Zb (QT yD) yD⟩
theorem Zqr:Zmv.okA yb 119 0:=Zx { still:=[4,13,14,16,17]} [] [ZjS] ⟨Znx,ytt⟩
def ZjT(F:Nat)(a0:yU)(a1:yU):yO (yU):=
 (Zb (QT F) F (a0,a1,1)).bind λo77=>
 some o77
def Zgg(F:Nat):Fs yb:=⟨119,[.v .u64,.v .u64],[],[.u64,.u64],(zE .u64),λx=>ZjT F x.1 x.2⟩
def Zwe:Fs yb:=Zgg yD
theorem Zua:Zwe.Ok:=fnO { still:=[4,13,14,16,17]} [(0,Zmv)] [] trivial ⟨Zqr,ytt⟩
end
end Go.Proofs.YtdhclndplbopgaaGreat
end
section
namespace Go.Ev
def Pr(r:Nat):Prop:=1 < r/\∀k,0 < k->k < r->Nat.gcd k r=1
theorem php:∀(n:Nat)(f:Nat->Nat),(∀i,i<=n->f i < n)->∃i j,i < j/\j<=n/\f i=f j
 |0,f,h=>absurd (h 0 (yj _)) (Nat.not_lt_zero _)
 |n+1,f,h=>by
  by_cases hc:∃i,i<=n/\f i=f (n+1)
  ·obtain⟨i,h1,h2⟩:=hc;exact⟨i,n+1,by omega,yj _,h2⟩
  have hne:∀i,i<=n->f i≠f (n+1):=λi hi e=>hc ⟨i,hi,e⟩;have hv:=h (n+1) (yj _)
  obtain⟨i,j,h1,h2,h3⟩:=php n (λi=>if f i > f (n+1) then f i - 1 else f i) (λi hi=>by
   have a:=h i (by omega);have b:=hne i hi;show(if f i > f (n+1) then f i - 1 else f i) < n
   split <;> omega)
  refine⟨i,j,h1,by omega, ?_⟩;have a:=hne i (by omega);have b:=hne j (by omega);have h3:(if f i > f (n+1) then f i - 1 else f i)=(if f j > f (n+1) then f j - 1 else f j):=h3
  split at h3 <;> split at h3 <;> omega
theorem Zny{h a m:Nat}(ha:h ^ a % m=1 % m)(k:Nat):h ^ (a*k) % m=1 % m:=by
 rw[Nat.pow_mul,Nat.pow_mod,ha, <-Nat.pow_mod,Nat.one_pow]
theorem ZCh{h a b m:Nat}(ha:h ^ a % m=1 % m)(hb:h ^ b % m=1 % m):h ^ (a % b) % m=1 % m:=by
 have e:a=b*(a / b)+a % b:=(Nat.div_add_mod a b).symm;rw[e,Nat.pow_add,ybu,Zny hb, <-ybu,Nat.one_mul] at ha;exact ha
theorem ZtE{h m:Nat}(a b:Nat)(ha:h ^ a % m=1 % m)(hb:h ^ b % m=1 % m):h ^ (Nat.gcd a b) % m=1 % m:=by
 induction a,b using Nat.gcd.induction with
 |H0 n=>rw[Nat.gcd_zero_left];exact hb
 |H1 a b h0 ih=>
  rw[Nat.gcd_rec];exact ih (ZCh hb ha) ha
theorem ZJm{h r m i j:Nat}(hr:h ^ r % m=1 % m)(hi:i < j)(hj:j < r)(e:h ^ i % m=h ^ j % m):h ^ (j - i) % m=1 % m:=by
 have h1:h ^ i*h ^ (r - i)=h ^ r:=by rw[<-Nat.pow_add];congr 1;omega
 have h2:h ^ j*h ^ (r - i)=h ^ (j - i)*h ^ r:=by rw[<-Nat.pow_add, <-Nat.pow_add];congr 1;omega
 have h3:h ^ j*h ^ (r - i) % m=1 % m:=by rw[ybu, <-e, <-ybu,h1,hr]
 rw[h2,ybu,hr, <-ybu,Nat.mul_one] at h3;exact h3
theorem ZEg{h r m i:Nat}(hm:1 < m)(hr:h ^ r % m=1 % m)(hi:i<=r):h ^ i % m≠0:=by
 intro e;have h1:h ^ i*h ^ (r - i)=h ^ r:=by rw[<-Nat.pow_add];congr 1;omega
 rw[<-h1,ybu,e,Nat.zero_mul,Nat.zero_mod,yaf hm] at hr;omega
theorem ZEh{h r c:Nat}(hr:Pr r)(hc:1 < c)(h1:h ^ r % c=1 % c)(h2:h % c≠1 % c):r < c:=by
 rcases ycb r c with k|k
 ·exact k
 exfalso
 obtain⟨i,j,a,b,e⟩:=php (c - 1) (λi=>h ^ i % c - 1) (λi hi=>by
  have:=ybc (h ^ i) (show c > 0 by omega);have:=ZEg hc h1 (i:=i) (by omega);show h ^ i % c - 1 < c - 1;omega)
 have q1:=ZEg hc h1 (i:=i) (by omega);have q2:=ZEg hc h1 (i:=j) (by omega);have e:h ^ i % c - 1=h ^ j % c - 1:=e;have h3:=ZJm h1 a (by omega) (show h ^ i % c=h ^ j % c by omega);have h4:=ZtE _ _ h3 h1;rw[hr.2 (j - i) (by omega) (by omega),Nat.pow_one] at h4;exact h2 h4
theorem ZFD{n r:Nat}(h:Nat)(hr:Pr r)(hn:1 < n)(hs:n<=r*r)(h1:h ^ r % n=1 % n)(h0:0 < h)(h2:Nat.gcd (h - 1) n=1):Pr n:=by
 refine⟨hn,λk k0 kn=> ?_⟩;have dn:Nat.gcd k n ∣ n:=Nat.gcd_dvd_right k n;have dk:Nat.gcd k n ∣ k:=Nat.gcd_dvd_left k n;have d0:0 < Nat.gcd k n:=Nat.gcd_pos_of_pos_left _ k0;have dl:Nat.gcd k n<=k:=Nat.le_of_dvd k0 dk;generalize Nat.gcd k n=d at*;by_cases d1:d=1
 ·exact d1
 exfalso
 have great:∀c,1 < c->c ∣ n->r < c:=λc c1 cn=>by
  refine ZEh (h:=h) hr c1 ?_ λe=> ?_
  ·obtain⟨q,rfl⟩:=cn;have:=congrArg (· % c) h1;simp only[Nat.mod_mul_right_mod] at this;exact this
  ·have k1:c ∣ h - 1:=Nat.dvd_of_mod_eq_zero (Nat.sub_mod_eq_zero_of_mod_eq e);have:=Nat.dvd_gcd k1 cn;rw[h2] at this;have:=Nat.le_of_dvd (by omega) this;omega
 obtain⟨e,rfl⟩:=dn
 have e1:1 < e:=by
  rcases ycb 1 e with h|h
  ·exact h
  ·have:d*e<=d*1:=Nat.mul_le_mul_left _ h;omega
 have a:=great d (by omega) (Nat.dvd_mul_right ..);have b:=great e e1 (Nat.dvd_mul_left ..);have:=Nat.mul_le_mul (show r+1<=d from a) (show r+1<=e from b)
 rw[yaz,Nat.mul_add] at this;omega
def ZFE(n:Nat):Nat->Bool
 |0=>true
 |k+1=>(decide (k < 1) || !(n % (k+1)==0))&&ZFE n k
theorem Zwf{n:Nat}:∀{k:Nat},ZFE n k=true->∀d,1 < d->d<=k->¬d ∣ n
 |0,_,d,h1,h2=>by omega
 |k+1,h,d,h1,h2=>by
  simp only[ZFE,yi,Bool.or_eq_true,yP,Bool.not_eq_true',beq_eq_false_iff_ne] at h;rcases ycb d (k+1) with c|c
  ·exact Zwf h.2 d h1 (by omega)
  ·have:d=k+1:=by omega
   subst this;rcases h.1 with h|h
   ·omega
   ·intro q;exact h (Nat.mod_eq_zero_of_dvd q)
theorem ZJn{n s:Nat}(hn:1 < n)(hs:n < (s+1)*(s+1))(h:ZFE n s=true):Pr n:=by
 refine⟨hn,λk k0 kn=> ?_⟩;have dn:Nat.gcd k n ∣ n:=Nat.gcd_dvd_right k n;have d0:0 < Nat.gcd k n:=Nat.gcd_pos_of_pos_left _ k0;have dl:Nat.gcd k n<=k:=Nat.le_of_dvd k0 (Nat.gcd_dvd_left k n);generalize Nat.gcd k n=d at*;by_cases d1:d=1
 ·exact d1
 exfalso;obtain⟨e,rfl⟩:=dn
 have e1:1 < e:=by
  rcases ycb 1 e with h|h
  ·exact h
  ·have:d*e<=d*1:=Nat.mul_le_mul_left _ h;omega
 rcases ycb s d with a|a
 ·rcases ycb s e with b|b
  ·have:=Nat.mul_le_mul (show s+1<=d from a) (show s+1<=e from b)
   omega
  ·exact Zwf h e e1 b (Nat.dvd_mul_left ..)
 ·exact Zwf h d (by omega) a (Nat.dvd_mul_right ..)
def pwm(m:Nat):Nat->Nat->Nat->Nat->Nat
 |0,_,_,o=>o
 |f+1,a,n,o=>if n=0 then o else pwm m f (a*a % m) (n / 2) (if n % 2=1 then o*a % m else o)
theorem ZAb{m:Nat}:∀(k a n o:Nat),n < 2 ^ k->pwm m k a n o % m=o*a ^ n % m
 |0,a,n,o,h=>by
  have:n=0:=by rw[Nat.pow_zero] at h;omega
  subst this
  rw[pwm,Nat.pow_zero,Nat.mul_one]
 |k+1,a,n,o,h=>by
  rw[pwm];by_cases h0:n=0
  ·rw[yW h0,h0,Nat.pow_zero,Nat.mul_one]
  rw[yX h0,ZAb k _ _ _ (by rw[Nat.pow_succ] at h;omega)]
  have e:a ^ n=(a*a) ^ (n / 2)*a ^ (n % 2):=by
   rw[<-Nat.pow_two, <-Nat.pow_mul, <-Nat.pow_add];congr 1;omega
  have e2:(a*a % m) ^ (n / 2) % m=(a*a) ^ (n / 2) % m:=(Nat.pow_mod ..).symm;rw[e];split
  ·rename_i h1;rw[h1,Nat.pow_one,ybu,e2, <-ybu,ybu,Nat.mod_mod, <-ybu];congr 1;rw[Nat.mul_assoc,ybf a]
  ·rename_i h1;have:n % 2=0:=by omega
   rw[this,Nat.pow_zero,Nat.mul_one,ybu,e2, <-ybu]
theorem Zwg{m a n z:Nat}(k:Nat)(h:n < 2 ^ k)(e:pwm m k a n 1 % m=z):a ^ n % m=z:=by
 have:=ZAb (m:=m) k a n 1 h;rw[Nat.one_mul] at this;rw[<-this,e]
def pc0:Nat:=7930907
def pc1:Nat:=11864636873
def pc2:Nat:=1732236983459
def pc3:Nat:=249442125618097
def ord:Nat:=2305843009213688669
def mdl:Nat:=4611686018427377339
theorem pr0:Pr pc0:=ZJn (s:=2816) (by decide) (by decide) (by decide+kernel)
theorem pr1:Pr pc1:=ZFD 409113128 pr0 (by decide) (by decide) (Zwg 23 (by decide) (by decide+kernel)) (by decide) (by decide+kernel)
theorem pr2:Pr pc2:=ZFD 353522539148 pr1 (by decide) (by decide) (Zwg 34 (by decide) (by decide+kernel)) (by decide) (by decide+kernel)
theorem pr3:Pr pc3:=ZFD 117107719143424 pr2 (by decide) (by decide) (Zwg 41 (by decide) (by decide+kernel)) (by decide) (by decide+kernel)
theorem pr4:Pr ord:=ZFD 732368710688439132 pr3 (by decide) (by decide) (Zwg 48 (by decide) (by decide+kernel)) (by decide) (by decide+kernel)
def Qu(a:Nat):Prop:=0 < a/\a < mdl/\a ^ ord % mdl=1
theorem ZOh{a:Nat}(h:a < mdl)(e:a ^ ord % mdl=1):Qu a:=by
 refine⟨?_,h,e⟩;rcases ycd a with h0|h0
 ·subst h0;rw[Nat.zero_pow (by decide)] at e;cases e
 ·exact h0
theorem ZAc:Qu 1:=⟨by decide,by decide,by rw[Nat.one_pow];decide⟩
theorem ZJo:Qu 4:=⟨by decide,by decide,Zwg 61 (by decide) (by decide+kernel)⟩
theorem ZNd{a:Nat}(ha:Qu a)(n:Nat):Qu (a ^ n % mdl):=by
 refine ZOh (ybc _ (by decide)) ?_;rw[<-Nat.pow_mod, <-Nat.pow_mul,ybf];exact Zny (m:=mdl) ha.2.2 n
theorem ZLj{a:Nat}(ha:Qu a)(n:Nat):a ^ (n % ord) % mdl=a ^ n % mdl:=by
 have e:n=ord*(n / ord)+n % ord:=(Nat.div_add_mod n _).symm;have h:=Zny (m:=mdl) (k:=n / ord) ha.2.2
 conv=>rhs;rw[e]
 rw[Nat.pow_add,ybu,h, <-ybu,Nat.one_mul]
theorem ZNe{k:Nat}(h0:0 < k)(h1:k < ord):4 ^ k % mdl≠1:=by
 intro e;have:=ZtE (h:=4) (m:=mdl) k _ e ZJo.2.2;rw[pr4.2 k h0 h1] at this;revert this;decide
end Go.Ev
end
section
set_option maxRecDepth 4000
namespace Go.Proofs.YtdhclndplbopgaaGreat
open Go Go.Ev
theorem ZJp{z:Nat}:(yx (z % 4611686018427377339)).toNat=z % 4611686018427377339:=by
 rw[yaw,yaf];exact Nat.lt_trans (ybc _ (by decide)) (by decide)
theorem ZCi(a b:yU):YU yD a b=some (yx (a.toNat*b.toNat % 4611686018427377339)):=by
 unfold YU ZfA;rw[ya];dsimp only;unfold V9;rw[yW (by decide),ya,yaw,yaw];have h:a.toNat*b.toNat < 18446744073709551616*18446744073709551616:=Nat.mul_lt_mul'' (ybo a) (ybo b);have h2:a.toNat*b.toNat / 18446744073709551616 < 18446744073709551616:=(Nat.div_lt_iff_lt_mul (by decide)).2 h;generalize a.toNat*b.toNat=z at*;rw[show(4611686018427377339:yU).toNat=4611686018427377339 from rfl]
 have e:z / 18446744073709551616 % 2 ^ 64*18446744073709551616+z % 18446744073709551616 % 2 ^ 64=z:=by omega
 rw[e]
theorem Zwh:∀(k m:Nat)(A N O:yU),N.toNat < 2 ^ k->k < m->Zb (QT yD) m (A,N,O)=some (yx (pwm 4611686018427377339 k A.toNat N.toNat O.toNat))
 |k,0,_,_,_,_,h=>by omega
 |0,m+1,A,N,O,h,_=>by
  have hn:¬N > 0:=by
   intro h2;have h3:0 < N.toNat:=yca.1 h2;rw[Nat.pow_zero] at h;omega
  have hs:QT yD (A,N,O)=if decide (N > 0)=true then(if((N&&&1)==1)=true then(YU yD O A).bind λo1=>(YU yD A A).bind λo2=>some (.inl (o2,ZO N 1,o1)) else(YU yD A A).bind λo2=>some (.inl (o2,ZO N 1,O))) else some (.inr O):=rfl
  unfold Zb;rw[hs]
  rw[yX (by rw[yN];exact hn),ya,pwm,UInt64.ofNat_toNat]
 |k+1,m+1,A,N,O,h,hm=>by
  have hs:QT yD (A,N,O)=if decide (N > 0)=true then(if((N&&&1)==1)=true then(YU yD O A).bind λo1=>(YU yD A A).bind λo2=>some (.inl (o2,ZO N 1,o1)) else(YU yD A A).bind λo2=>some (.inl (o2,ZO N 1,O))) else some (.inr O):=rfl
  unfold Zb;rw[hs];by_cases h2:N > 0
  ·have hp:0 < N.toNat->pwm 4611686018427377339 (k+1) A.toNat N.toNat O.toNat=pwm 4611686018427377339 k (A.toNat*A.toNat % 4611686018427377339) (N.toNat / 2) (if N.toNat % 2=1 then O.toNat*A.toNat % 4611686018427377339 else O.toNat):=λh=>by
    rw[pwm,yX (by omega)]
   have h3:0 < N.toNat:=yca.1 h2
   have hsh:(ZO N 1).toNat=N.toNat / 2:=by
    unfold ZO;rw[yaw,yaf (ycz (Nat.div_le_self ..) (ybo _))]
   have hlt:(ZO N 1).toNat < 2 ^ k:=by
    rw[hsh];rw[Nat.pow_succ] at h;omega
   have hand:((N&&&1)==1)=decide (N.toNat % 2=1):=by
    rw[Bool.eq_iff_iff,yT,yN, <-UInt64.toNat_inj,UInt64.toNat_and];exact Iff.of_eq (congrArg (· =1) (Nat.and_one_is_mod _))
   rw[yW (yY h2),hand,hp h3];simp only[ZCi];by_cases h4:N.toNat % 2=1
   ·rw[yW (yY h4),yW h4,ya,ya,ya];dsimp only;rw[Zwh k m _ _ _ hlt (by omega),ZJp,ZJp,hsh]
   ·rw[yX (by rw[yN];exact h4),yX h4,ya,ya];dsimp only;rw[Zwh k m _ _ _ hlt (by omega),ZJp,hsh]
  ·have h3:N.toNat=0:=by
    rcases ycd N.toNat with h5|h5
    ·exact h5
    ·exact absurd (show(0:yU) < N from yca.2 h5) h2
   rw[yX (by rw[yN];exact h2),ya,pwm,yW h3,UInt64.ofNat_toNat]
theorem ZJq(a n:yU):ZjT yD a n=some (yx (pwm 4611686018427377339 64 a.toNat n.toNat 1)):=by
 unfold ZjT;rw[Zwh 64 yD a n 1 (ybo _) (by rw[Zdf];omega),ya];rfl
noncomputable def ZbJ(F:Nat)(a0:yU)(a1:yU):yO yU:=some (yx (pwm 4611686018427377339 64 a0.toNat a1.toNat 1))
noncomputable def Zwi(F:Nat):Fs yb:={ Zgg F with M:=λx=>ZbJ F x.1 x.2}
noncomputable def Zfa:Fs yb:=Zwi yD
theorem Zic:Zfa.Ok:=Zqq (s:=Zgg yD) Zua λx=>(ZJq x.1 x.2).symm
end Go.Proofs.YtdhclndplbopgaaGreat
end
section
set_option maxRecDepth 4000
namespace Go.Proofs.YtdhclndplbopgaaGreat
open Go Go.Ev
noncomputable section
def WJ(F:Nat)(a0:yU):yO (Bool):=
 if(decide (a0 > 0))=true then
  if(decide (a0 < 4611686018427377339))=true then
   (ZbJ F a0 2305843009213688669).bind λo78=>
   some (o78==1)
  else
  some false
 else
 some false
def ZaA:Fs yb:=⟨45,[.v .u64],[],[.u64],(zE .bool),λx=>WJ yD x⟩
theorem Zbb:ZaA.Ok:=fnO { still:=[2,10]} [] [Zfa] ⟨Zic,ytt⟩
def Zgh(F:Nat)(a0:yU):yO (Bool):=
 if(a0==1)=true then
  some true
 else
 (WJ F a0).bind λo79=>
 some (!o79)
def ZkS:Fs yb:=⟨253,[.v .u64],[],[.u64],(zE .bool),λx=>Zgh yD x⟩
theorem Zre:ZkS.Ok:=fnO { still:=[2,6]} [] [ZaA] ⟨Zbb,ytt⟩
abbrev ZaL:Ty:=(.st [.u64,.u64,.u64,.u64,.u64])
abbrev Zb0:Type:=(yU×yU×yU×yU×yU)
abbrev Zb0.Cond(x:Zb0):yU:=x.2.2.2.1
def ZaM(F:Nat)(s:((yL yU)×Int×Int)):yO (((yL yU)×Int×Int)⊕(Int⊕Unit)):=
 if(decide (s.2.2 < s.2.1))=true then
  (idx s.1 s.2.2).bind λe80=>
  (Zgh F e80).bind λo81=>
  if o81=true then
   some (.inr (.inl s.2.2))
  else
  some (.inl (s.1,s.2.1,wi (s.2.2+1)))
 else
 some (.inr (.inr ()))
def ZkT:Lp:=⟨[(0,.v (.sl .u64)),(1,.fn 253 []),(7,.v yI),(8,.v yI)],[],[(.sl .u64),yI,yI],[⟨.ret,[(4,.v yI)],[],[yI]⟩,⟨.exit 0,[],[],[]⟩],Zb (ZaM yD) yD⟩
theorem Zo2:ZkT.okA yb 233 0:=Zx { still:=[4,15]} [] [ZkS] ⟨Zre,ytt⟩
def Zid(F:Nat)(a0:(yL yU)):yO (Int):=
 (Zb (ZaM F) F (a0,(a0.length:Int),0)).bind λo82=>
 match o82 with
 |.inl o83=>
  some o83
 |.inr o84=>
  some (-1)
def Zmw:Fs yb:=⟨233,[.v (.sl .u64),.fn 253 []],[],[(.sl .u64)],(zE yI),λx=>Zid yD x⟩
theorem ZsC:Zmw.Ok:=fnO { still:=[4,15]} [(0,ZkT)] [] trivial ⟨Zo2,ytt⟩
def Zqs(F:Nat)(a0:(yL yU)):yO (Bool):=
 (Zid F a0).bind λo85=>
 some (decide (o85 >= 0))
def ZtF:Fs yb:=⟨179,[.v (.sl .u64),.fn 253 []],[],[(.sl .u64)],(zE .bool),λx=>Zqs yD x⟩
theorem ZAd:ZtF.Ok:=fnO { still:=[4,5,6]} [] [Zmw] ⟨ZsC,ytt⟩
def Zfb(F:Nat)(a0:Zb0):yO (Bool):=
 (Zqs F [a0.1,a0.2.1,a0.2.2.1,a0.2.2.2.1,a0.2.2.2.2]).bind λo86=>
 some (!o86)
def Znz:Fs yb:=⟨207,[.v ZaL],[],[ZaL],(zE .bool),λx=>Zfb yD x⟩
theorem Zub:Znz.Ok:=fnO { still:=[2,14,15]} [] [ZtF] ⟨ZAd,ytt⟩
abbrev Zh:Ty:=(.st [WY,yI,(.arr 2 ZaL),(.arr 2 Zdi),yI])
abbrev Zz:Type:=(VD×Int×(yL Zb0)×(yL ZcQ)×Int)
def Zfc(F:Nat)(s:((yL ZcQ)×Int×Zz)):yO (((yL ZcQ)×Int×Zz)⊕((Int×Zz)⊕Zz)):=
 if(decide (s.2.1 < 2))=true then
  (idx s.1 s.2.1).bind λe87=>
  (Zhd F e87).bind λo88=>
  if(!o88)=true then
   some (.inr (.inl (1,s.2.2)))
  else
  if(inB s.2.1 2)=true then
   (s.2.2.2.2.1[s.2.1.toNat]?).bind λe89=>
   (Zfb F e89).bind λo90=>
   if(!o90)=true then
    some (.inr (.inl (1,s.2.2)))
   else
   some (.inl (s.1,wi (s.2.1+1),s.2.2))
  else
  none
 else
 some (.inr (.inr s.2.2))
def Zrf:Lp:=⟨[(1,.ref 0 []),(34,.v (.arr 2 Zdi)),(35,.v yI)],[.var (.v Zh) true],[(.arr 2 Zdi),yI,Zh],[⟨.ret,[(2,.v yI)],[.var (.v Zh) true],[yI,Zh]⟩,⟨.exit 0,[(1,.ref 0 [])],[.var (.v Zh) true],[Zh]⟩],Zb (Zfc yD) yD⟩
theorem Zuc:Zrf.okA yb 120 0:=Zx { still:=[2,39,46,55,59]} [] [Zpy,Znz] ⟨Zwb,Zub,ytt⟩
def ZlF(F:Nat)(a0:Zz):yO (Int):=
 if(decide (a0.2.1 < 1))=true then
  some 1
 else
 if(decide (a0.2.1 > 1125899906842624))=true then
  some 1
 else
 if(decide (a0.1.2 < 0))=true then
  some 1
 else
 if(decide (a0.1.2 >= 64))=true then
  some 1
 else
 if((bits .andNot .i64 a0.2.2.2.2 1)!=0)=true then
  some 1
 else
 (Zb (Zfc F) F (a0.2.2.2.1,0,a0)).bind λo91=>
 match o91 with
 |.inl o92=>
  some o92.1
 |.inr o93=>
  (o93.2.2.2.1[0]?).bind λe94=>
  (o93.2.2.2.1[1]?).bind λe95=>
  (ZkR F e94.2.1 e95.2.1).bind λo96=>
  if(!o96.2)=true then
   some 10
  else
  if(decide (o96.1 > o93.2.1))=true then
   some 10
  else
  some 0
def ZtG:Fs yb:=⟨120,[.v Zh],[],[Zh],(zE yI),λx=>ZlF yD x⟩
theorem ZAe:ZtG.Ok:=fnO { still:=[2,39,46,55,59]} [(0,Zrf)] [Zsy] ⟨Zwa,ytt⟩ ⟨Zuc,ytt⟩
def Zgi(F:Nat)(a0:Int)(s0:Int)(s1:Int):yO ((Bool×Int×Int)):=
 if(decide (a0 < s0))=true then
  some (true,s0,s1)
 else
 some (decide (a0 > s1),s0,s1)
def ZkU:Fs yb:=⟨209,[.v yI,.ref 0 [],.ref 1 []],[.var (.v yI) true,.var (.v yI) true],[yI,yI,yI],[⟨.ret,[(0,.v .bool)],[.var (.v yI) true,.var (.v yI) true],[.bool,yI,yI]⟩],λx=>Zgi yD x.1 x.2.1 x.2.2⟩
theorem Zrg:ZkU.Ok:=fnO { still:=[4]} [] [] trivial
def XH(F:Nat)(s:((yL Int)×Int×Int×Int×Int)):yO (((yL Int)×Int×Int×Int×Int)⊕((Int×Int×Int)⊕(Int×Int))):=
 if(decide (s.2.2.1 < s.2.1))=true then
  (idx s.1 s.2.2.1).bind λe97=>
  (Zgi F e97 s.2.2.2.1 s.2.2.2.2).bind λo98=>
  if o98.1=true then
   some (.inr (.inl (s.2.2.1,o98.2.1,o98.2.2)))
  else
  some (.inl (s.1,s.2.1,wi (s.2.2.1+1),o98.2.1,o98.2.2))
 else
 some (.inr (.inr (s.2.2.2.1,s.2.2.2.2)))
def ZaN:Lp:=⟨[(0,.v (.sl yI)),(1,.fn 209 [.ref 0 [],.ref 1 []]),(7,.v yI),(8,.v yI)],[.var (.v yI) true,.var (.v yI) true],[(.sl yI),yI,yI,yI,yI],[⟨.ret,[(4,.v yI)],[.var (.v yI) true,.var (.v yI) true],[yI,yI,yI]⟩,⟨.exit 0,[],[.var (.v yI) true,.var (.v yI) true],[yI,yI]⟩],Zb (XH yD) yD⟩
theorem ZeN:ZaN.okA yb 254 0:=Zx { still:=[4,15]} [] [ZkU] ⟨Zrg,ytt⟩
def VR(F:Nat)(a0:(yL Int))(s0:Int)(s1:Int):yO ((Int×Int×Int)):=
 (Zb (XH F) F (a0,(a0.length:Int),0,s0,s1)).bind λo99=>
 match o99 with
 |.inl o100=>
  some (o100.1,o100.2.1,o100.2.2)
 |.inr o101=>
  some ((-1),o101.1,o101.2)
def Zbc:Fs yb:=⟨254,[.v (.sl yI),.fn 209 [.ref 0 [],.ref 1 []]],[.var (.v yI) true,.var (.v yI) true],[(.sl yI),yI,yI],[⟨.ret,[(0,.v yI)],[.var (.v yI) true,.var (.v yI) true],[yI,yI,yI]⟩],λx=>VR yD x.1 x.2.1 x.2.2⟩
theorem Zhg:Zbc.Ok:=fnO { still:=[4,15]} [(0,ZaN)] [] trivial ⟨ZeN,ytt⟩
def W5(F:Nat)(a0:(yL Int))(s0:Int)(s1:Int):yO ((Bool×Int×Int)):=
 (VR F a0 s0 s1).bind λo102=>
 some (decide (o102.1 >= 0),o102.2.1,o102.2.2)
def Q5:Fs yb:=⟨208,[.v (.sl yI),.fn 209 [.ref 0 [],.ref 1 []]],[.var (.v yI) true,.var (.v yI) true],[(.sl yI),yI,yI],[⟨.ret,[(0,.v .bool)],[.var (.v yI) true,.var (.v yI) true],[.bool,yI,yI]⟩],λx=>W5 yD x.1 x.2.1 x.2.2⟩
theorem ZeO:Q5.Ok:=fnO { still:=[4,5,6]} [] [Zbc] ⟨Zhg,ytt⟩
def XC(F:Nat)(a0:Int)(a1:Int)(a2:(yL Int)):yO (Bool):=
 (W5 F a2 a0 a1).bind λo103=>
 some (!o103.1)
def Zie:Fs yb:=⟨121,[.v yI,.v yI,.v (.sl yI)],[],[yI,yI,(.sl yI)],(zE .bool),λx=>XC yD x.1 x.2.1 x.2.2⟩
theorem Zmx:Zie.Ok:=fnO { still:=[6,7,8]} [] [Q5] ⟨ZeO,ytt⟩
abbrev ZE:Ty:=(.st [yI,yI,yI,.u64,yI])
abbrev Cond:Type:=(Int×Int×Int×yU×Int)
def Zjx(F:Nat)(a0:Cond):yO (Bool):=
 (XC F 0 1 [a0.1]).bind λo104=>
 if o104=true then
  (XC F 1 1048576 [a0.2.1]).bind λo105=>
  if o105=true then
   (XC F 1 1125899906842624 [a0.2.2.1]).bind λo106=>
   if o106=true then
    (XC F 1 1048576 [a0.2.2.2.2]).bind λo107=>
    if o107=true then
     (WJ F a0.2.2.2.1).bind λo108=>
     if o108=true then
      some (a0.2.2.2.1 !=1)
     else
     some false
    else
    some false
   else
   some false
  else
  some false
 else
 some false
def Zrh:Fs yb:=⟨122,[.v ZE],[],[ZE],(zE .bool),λx=>Zjx yD x⟩
theorem Zxs:Zrh.Ok:=fnO { still:=[2,5,10,16,22,27]} [] [Zie,ZaA] ⟨Zmx,Zbb,ytt⟩
def QU(F:Nat)(s:(Int×(yL Int)×Int×Int)):yO ((Int×(yL Int)×Int×Int)⊕(Int⊕Int)):=
 if(decide (s.2.2.2 < s.2.2.1))=true then
  (idx s.2.1 s.2.2.2).bind λe109=>
  if(e109 !=s.1)=true then
   some (.inr (.inl e109))
  else
  some (.inl (s.1,s.2.1,s.2.2.1,wi (s.2.2.2+1)))
 else
 some (.inr (.inr s.1))
def ZpC:Lp:=⟨[(3,.v yI),(6,.v (.sl yI)),(7,.v yI),(8,.v yI)],[],[yI,(.sl yI),yI,yI],[⟨.ret,[(2,.v yI)],[],[yI]⟩,⟨.exit 0,[(3,.v yI)],[],[yI]⟩],Zb (QU yD) yD⟩
theorem ZsD:ZpC.okA yb 59 0:=Zx { still:=[2]} [] [] trivial
def Zjy(F:Nat)(a0:(yL Int)):yO (Int):=
 (Zb (QU F) F (0,a0,(a0.length:Int),0)).bind λo110=>
 match o110 with
 |.inl o111=>
  some o111
 |.inr o112=>
  some o112
def Zri:Fs yb:=⟨59,[.v (.sl yI)],[],[(.sl yI)],(zE yI),λx=>Zjy yD x⟩
theorem Zxt:Zri.Ok:=fnO { still:=[2]} [(0,ZpC)] [] trivial ⟨ZsD,ytt⟩
def Zdk(F:Nat)(a0:Int):yO (Bool):=
 some (a0 !=a0)
def Zmy:Fs yb:=⟨133,[.v yI],[],[yI],(zE .bool),λx=>Zdk yD x⟩
theorem ZsE:Zmy.Ok:=fnO { still:=[2]} [] [] trivial
def QV(F:Nat)(a0:Int)(a1:Int):yO (Int):=
 (Zdk F a0).bind λo113=>
 (Zdk F a1).bind λo114=>
 if o113=true then
  if o114=true then
   some 0
  else
  some (-1)
 else
 if o114=true then
  some 1
 else
 if(decide (a0 < a1))=true then
  some (-1)
 else
 if(decide (a0 > a1))=true then
  some 1
 else
 some 0
def Zjz:Fs yb:=⟨60,[.v yI,.v yI],[],[yI,yI],(zE yI),λx=>QV yD x.1 x.2⟩
theorem Zqt:Zjz.Ok:=fnO { still:=[4,7,9]} [] [Zmy] ⟨ZsE,ytt⟩
def Zhh(F:Nat)(a0:Cond)(a1:Cond):yO (Int):=
 (QV F a0.1 a1.1).bind λo115=>
 (QV F a0.2.1 a1.2.1).bind λo116=>
 (Zjy F [o115,o116]).bind λo117=>
 some o117
def ZpD:Fs yb:=⟨123,[.v ZE,.v ZE],[],[ZE,ZE],(zE yI),λx=>Zhh yD x.1 x.2⟩
theorem Zwj:ZpD.Ok:=fnO { still:=[4,6,8,11,13,15]} [] [Zjz,Zri] ⟨Zqt,Zxt,ytt⟩
abbrev Zf:Ty:=(.st [yI,(.arr 2 yI),(.sl ZE),yI])
abbrev yH:Type:=(Int×(yL Int)×(yL Cond)×Int)
def Qa(F:Nat)(s:(Int×Int×Int×(yL Cond)×Int×Int×yH)):yO ((Int×Int×Int×(yL Cond)×Int×Int×yH)⊕(Int×Int×yH)):=
 if(decide (s.2.2.2.2.2.1 < s.2.2.2.2.1))=true then
  (idx s.2.2.2.1 s.2.2.2.2.2.1).bind λe118=>
  if(e118.1==(wi (1 - s.1)))=true then
   some (.inl (s.1,wi (s.2.1+1),wi (s.2.2.1+e118.2.2.1),s.2.2.2.1,s.2.2.2.2.1,wi (s.2.2.2.2.2.1+1),s.2.2.2.2.2.2))
  else
  some (.inl (s.1,s.2.1,s.2.2.1,s.2.2.2.1,s.2.2.2.2.1,wi (s.2.2.2.2.2.1+1),s.2.2.2.2.2.2))
 else
 some (.inr (s.2.1,s.2.2.1,s.2.2.2.2.2.2))
def ZkV:Lp:=⟨[(1,.v yI),(6,.v yI),(7,.v yI),(11,.v (.sl ZE)),(12,.v yI),(13,.v yI)],[.var (.v Zf) true],[yI,yI,yI,(.sl ZE),yI,yI,Zf],[⟨.exit 0,[(6,.v yI),(7,.v yI)],[.var (.v Zf) true],[yI,yI,Zf]⟩],Zb (Qa yD) yD⟩
theorem Zo3:ZkV.okA yb 124 0:=Zx { still:=[4,5]} [] [] trivial
def Zdl(F:Nat)(a0:yH)(a1:Int):yO ((Int×Int)):=
 (Zb (Qa F) F (a1,0,0,a0.2.2.1,(a0.2.2.1.length:Int),0,a0)).bind λo119=>
 some (o119.1,o119.2.1)
def Zmz:Fs yb:=⟨124,[.v Zf,.v yI],[],[Zf,yI],[⟨.ret,[(0,.tup [.v yI,.v yI])],[],[yI,yI]⟩],λx=>Zdl yD x.1 x.2⟩
theorem ZsF:Zmz.Ok:=fnO { still:=[4,5]} [(0,ZkV)] [] trivial ⟨Zo3,ytt⟩
def Zcn(F:Nat)(s:(Int×(yL Cond)×Int×Int×yH)):yO ((Int×(yL Cond)×Int×Int×yH)⊕(Int×yH)):=
 if(decide (s.2.2.2.1 < s.2.2.1))=true then
  (idx s.2.1 s.2.2.2.1).bind λe122=>
  some (.inl (wi (s.1+e122.2.2.1),s.2.1,s.2.2.1,wi (s.2.2.2.1+1),s.2.2.2.2))
 else
 some (.inr (s.1,s.2.2.2.2))
def ZnA:Lp:=⟨[(3,.v yI),(14,.v (.sl ZE)),(15,.v yI),(16,.v yI)],[.var (.v Zf) true],[yI,(.sl ZE),yI,yI,Zf],[⟨.exit 0,[(3,.v yI)],[.var (.v Zf) true],[yI,Zf]⟩],Zb (Zcn yD) yD⟩
theorem Zrj:ZnA.okA yb 125 0:=Zx { still:=[2]} [] [] trivial
def Zhi(F:Nat)(a0:yH):yO (Int):=
 (a0.2.1[0]?).bind λe120=>
 (a0.2.1[1]?).bind λe121=>
 (Zb (Zcn F) F (wi (e120+e121),a0.2.2.1,(a0.2.2.1.length:Int),0,a0)).bind λo123=>
 some o123.1
def ZpE:Fs yb:=⟨125,[.v Zf],[],[Zf],(zE yI),λx=>Zhi yD x⟩
theorem Zwk:ZpE.Ok:=fnO { still:=[2]} [(0,ZnA)] [] trivial ⟨Zrj,ytt⟩
def ZjU(F:Nat)(a0:Int):yO (Int):=
 if(decide (a0 < 0))=true then
  some 0
 else
 if(decide (a0 > 16))=true then
  some 0
 else
 some (wi (68+(wi (8*a0))))
def ZnB:Fs yb:=⟨213,[.v yI],[],[yI],(zE yI),λx=>ZjU yD x⟩
theorem Zud:ZnB.Ok:=fnO { still:=[2]} [] [] trivial
def ZlG(F:Nat)(a0:Int)(a1:Int):yO (Int):=
 if(decide (a0 < 0))=true then
  some 0
 else
 if(decide (a0 > 1000))=true then
  some 0
 else
 (ZjU F a1).bind λo124=>
 some (wi (a0*o124))
def ZtH:Fs yb:=⟨130,[.v yI,.v yI],[],[yI,yI],(zE yI),λx=>ZlG yD x.1 x.2⟩
theorem ZAf:ZtH.Ok:=fnO { still:=[4,12]} [] [ZnB] ⟨Zud,ytt⟩
def ZjA(F:Nat)(a0:Zz)(a1:yH):yO (Int):=
 (ZlG F a1.2.2.2 (a1.2.2.1.length:Int)).bind λo125=>
 some (wi (o125+660))
def Zrk:Fs yb:=⟨126,[.v Zh,.v Zf],[],[Zh,Zf],(zE yI),λx=>ZjA yD x.1 x.2⟩
theorem Zxu:Zrk.Ok:=fnO { still:=[4,6,9]} [] [ZtH] ⟨ZAf,ytt⟩
def Zco(F:Nat)(s:((yL Cond)×Int×Int×Zz×yH)):yO (((yL Cond)×Int×Int×Zz×yH)⊕((Bool×Zz×yH)⊕(Zz×yH))):=
 if(decide (s.2.2.1 < s.2.1))=true then
  (idx s.1 s.2.2.1).bind λe132=>
  (Zjx F e132).bind λo133=>
  if(!o133)=true then
   some (.inr (.inl (false,s.2.2.2.1,s.2.2.2.2)))
  else
  if(inB (wi (1 - e132.1)) 2)=true then
   (s.2.2.2.1.2.2.2.1[(wi (1 - e132.1)).toNat]?).bind λe134=>
   if(decide (e132.2.2.1 < e134.2.2.2.2.1))=true then
    some (.inr (.inl (false,s.2.2.2.1,s.2.2.2.2)))
   else
   if(decide (s.2.2.1 > 0))=true then
    (idx s.2.2.2.2.2.2.1 (wi (s.2.2.1 - 1))).bind λe135=>
    (Zhh F e135 e132).bind λo136=>
    if(decide (o136 >= 0))=true then
     some (.inr (.inl (false,s.2.2.2.1,s.2.2.2.2)))
    else
    some (.inl (s.1,s.2.1,wi (s.2.2.1+1),s.2.2.2.1,s.2.2.2.2))
   else
   some (.inl (s.1,s.2.1,wi (s.2.2.1+1),s.2.2.2.1,s.2.2.2.2))
  else
  none
 else
 some (.inr (.inr (s.2.2.2.1,s.2.2.2.2)))
def ZnC:Lp:=⟨[(2,.ref 0 []),(3,.ref 1 []),(46,.v (.sl ZE)),(47,.v yI),(48,.v yI)],[.var (.v Zh) true,.var (.v Zf) true],[(.sl ZE),yI,yI,Zh,Zf],[⟨.ret,[(4,.v .bool)],[.var (.v Zh) true,.var (.v Zf) true],[.bool,Zh,Zf]⟩,⟨.exit 0,[(2,.ref 0 []),(3,.ref 1 [])],[.var (.v Zh) true,.var (.v Zf) true],[Zh,Zf]⟩],Zb (Zco yD) yD⟩
def hi1:HI:={ still:=[4,11,17,28,35,53,77,78,91,92,107,118,119]}
theorem Zrl:ZnC.okA yb 46 0:=Zx hi1 [] [Zrh,ZpD] ⟨Zxs,Zwj,ytt⟩
def Zcp(F:Nat)(s:((yL ZcQ)×Int×Zz×yH)):yO (((yL ZcQ)×Int×Zz×yH)⊕((Bool×Zz×yH)⊕(Zz×yH))):=
 if(decide (s.2.1 < 2))=true then
  (idx s.1 s.2.1).bind λe140=>
  (Zdl F s.2.2.2 s.2.1).bind λo141=>
  if(decide (o141.1 > e140.2.2.2.1))=true then
   some (.inr (.inl (false,s.2.2.1,s.2.2.2)))
  else
  if(decide (o141.2 > e140.2.2.2.2.2))=true then
   some (.inr (.inl (false,s.2.2.1,s.2.2.2)))
  else
  some (.inl (s.1,wi (s.2.1+1),s.2.2.1,s.2.2.2))
 else
 some (.inr (.inr (s.2.2.1,s.2.2.2)))
def ZnD:Lp:=⟨[(2,.ref 0 []),(3,.ref 1 []),(85,.v (.arr 2 Zdi)),(86,.v yI)],[.var (.v Zh) true,.var (.v Zf) true],[(.arr 2 Zdi),yI,Zh,Zf],[⟨.ret,[(4,.v .bool)],[.var (.v Zh) true,.var (.v Zf) true],[.bool,Zh,Zf]⟩,⟨.exit 2,[(2,.ref 0 []),(3,.ref 1 [])],[.var (.v Zh) true,.var (.v Zf) true],[Zh,Zf]⟩],Zb (Zcp yD) yD⟩
theorem Zrm:ZnD.okA yb 46 1:=Zx hi1 [] [Zmz] ⟨ZsF,ytt⟩
def Zhj(F:Nat)(a0:Zz)(a1:yH):yO (Bool):=
 (ZlF F a0).bind λo126=>
 if(o126 !=0)=true then
  some false
 else
 (XC F 0 1048576 [a1.1]).bind λo127=>
 if(!o127)=true then
  some false
 else
 (a1.2.1[0]?).bind λe128=>
 (a1.2.1[1]?).bind λe129=>
 (XC F 0 1125899906842624 [e128,e129]).bind λo130=>
 if(!o130)=true then
  some false
 else
 (XC F 0 1000 [a1.2.2.2]).bind λo131=>
 if(!o131)=true then
  some false
 else
 if(decide ((a1.2.2.1.length:Int) > 16))=true then
  some false
 else
 (Zb (Zco F) F (a1.2.2.1,(a1.2.2.1.length:Int),0,a0,a1)).bind λo137=>
 match o137 with
 |.inl o138=>
  some o138.1
 |.inr o139=>
  (Zb (Zcp F) F (o139.1.2.2.2.1,0,o139.1,o139.2)).bind λo142=>
  match o142 with
  |.inl o143=>
   some o143.1
  |.inr o144=>
   (Zhi F o144.2).bind λo145=>
   if(o145==o144.1.2.1)=true then
    if(inB o144.1.2.2.2.2 2)=true then
     (o144.2.2.1[o144.1.2.2.2.2.toNat]?).bind λe146=>
     (ZjA F o144.1 o144.2).bind λo147=>
     some (decide (e146 >= o147))
    else
    none
   else
   some false
def ZpF:Fs yb:=⟨46,[.v Zh,.v Zf],[],[Zh,Zf],(zE .bool),λx=>Zhj yD x.1 x.2⟩
theorem Zwl:ZpF.Ok:=fnO hi1 [(0,ZnC),(1,ZnD)] [ZtG,Zie,ZpE,Zrk] ⟨ZAe,Zmx,Zwk,Zxu,ytt⟩ ⟨Zrl,Zrm,ytt⟩
def Zdm(F:Nat)(a0:Zz)(a1:yH):yO (Bool):=
 if((a1.2.2.1.length:Int)==0)=true then
  (Zhj F a0 a1).bind λo148=>
  some o148
 else
 some false
def Zif(F:Nat):Fs yb:=⟨92,[.v Zh,.v Zf],[],[Zh,Zf],(zE .bool),λx=>Zdm F x.1 x.2⟩
def ZjV:Fs yb:=Zif yD
theorem Zig:ZjV.Ok:=fnO { still:=[4,10,11]} [] [ZpF] ⟨Zwl,ytt⟩
def ZaB(F:Nat)(a0:yU):yO (Bool):=
 (WJ F a0).bind λo149=>
 some (!o149)
def Zih:Fs yb:=⟨178,[.v .u64],[],[.u64],(zE .bool),λx=>ZaB yD x⟩
theorem ZmA:Zih.Ok:=fnO { still:=[2,3]} [] [ZaA] ⟨Zbb,ytt⟩
def Zab(F:Nat)(a0:Int):yO (Bool):=
 if(decide (a0 >= 0))=true then
  some (decide (a0<=1048576))
 else
 some false
def ZpG:Fs yb:=⟨180,[.v yI],[],[yI],(zE .bool),λx=>Zab yD x⟩
theorem Zwm:ZpG.Ok:=fnO { still:=[2]} [] [] trivial
def Y7(F:Nat)(s:((yL yU)×Int×Int)):yO (((yL yU)×Int×Int)⊕(Int⊕Unit)):=
 if(decide (s.2.2 < s.2.1))=true then
  (idx s.1 s.2.2).bind λe151=>
  (ZaB F e151).bind λo152=>
  if o152=true then
   some (.inr (.inl s.2.2))
  else
  some (.inl (s.1,s.2.1,wi (s.2.2+1)))
 else
 some (.inr (.inr ()))
def ZgF:Lp:=⟨[(0,.v (.sl .u64)),(1,.fn 178 []),(7,.v yI),(8,.v yI)],[],[(.sl .u64),yI,yI],[⟨.ret,[(4,.v yI)],[],[yI]⟩,⟨.exit 0,[],[],[]⟩],Zb (Y7 yD) yD⟩
theorem ZlH:ZgF.okA yb 233 0:=Zx { still:=[4,15]} [] [Zih] ⟨ZmA,ytt⟩
def ZaO(F:Nat)(a0:(yL yU)):yO (Int):=
 (Zb (Y7 F) F (a0,(a0.length:Int),0)).bind λo153=>
 match o153 with
 |.inl o154=>
  some o154
 |.inr o155=>
  some (-1)
def Zii:Fs yb:=⟨233,[.v (.sl .u64),.fn 178 []],[],[(.sl .u64)],(zE yI),λx=>ZaO yD x⟩
theorem Zo4:Zii.Ok:=fnO { still:=[4,15]} [(0,ZgF)] [] trivial ⟨ZlH,ytt⟩
def ZaC(F:Nat)(a0:(yL yU)):yO (Bool):=
 (ZaO F a0).bind λo156=>
 some (decide (o156 >= 0))
def ZnE:Fs yb:=⟨179,[.v (.sl .u64),.fn 178 []],[],[(.sl .u64)],(zE .bool),λx=>ZaC yD x⟩
theorem Zue:ZnE.Ok:=fnO { still:=[4,5,6]} [] [Zii] ⟨Zo4,ytt⟩
def VE(F:Nat)(s:((yL ZC)×Int×Int×yG)):yO (((yL ZC)×Int×Int×yG)⊕((Bool×yG)⊕yG)):=
 if(decide (s.2.2.1 < s.2.1))=true then
  (idx s.1 s.2.2.1).bind λe150=>
  if(decide ((e150.1.length:Int) > 12))=true then
   some (.inr (.inl (false,s.2.2.2)))
  else
  (ZaC F e150.1).bind λo157=>
  if o157=true then
   some (.inr (.inl (false,s.2.2.2)))
  else
  (Zab F e150.2.1).bind λo158=>
  if(!o158)=true then
   some (.inr (.inl (false,s.2.2.2)))
  else
  (Zab F e150.2.2.1).bind λo159=>
  if(!o159)=true then
   some (.inr (.inl (false,s.2.2.2)))
  else
  if(e150.2.2.2 !=0)=true then
   (ZaB F e150.2.2.2).bind λo160=>
   if o160=true then
    some (.inr (.inl (false,s.2.2.2)))
   else
   some (.inl (s.1,s.2.1,wi (s.2.2.1+1),s.2.2.2))
  else
  some (.inl (s.1,s.2.1,wi (s.2.2.1+1),s.2.2.2))
 else
 some (.inr (.inr s.2.2.2))
def ZpH:Lp:=⟨[(1,.ref 0 []),(3,.fn 178 []),(7,.v (.sl Zm)),(8,.v yI),(9,.v yI)],[.var (.v Ze) true],[(.sl Zm),yI,yI,Ze],[⟨.ret,[(2,.v .bool)],[.var (.v Ze) true],[.bool,Ze]⟩,⟨.exit 0,[(1,.ref 0 [])],[.var (.v Ze) true],[Ze]⟩],Zb (VE yD) yD⟩
theorem ZsG:ZpH.okA yb 93 0:=Zx { still:=[2,19,20,25,31,42]} [] [ZnE,ZpG,Zih] ⟨Zue,Zwm,ZmA,ytt⟩
def XV(F:Nat)(a0:yG):yO (Bool):=
 (Zb (VE F) F (a0,(a0.length:Int),0,a0)).bind λo161=>
 match o161 with
 |.inl o162=>
  some o162.1
 |.inr o163=>
  if(decide ((o163.length:Int) > 0))=true then
   some (decide ((o163.length:Int)<=4))
  else
  some false
def ZjW(F:Nat):Fs yb:=⟨93,[.v Ze],[],[Ze],(zE .bool),λx=>XV F x⟩
def ZbK:Fs yb:=ZjW yD
theorem ZaD:ZbK.Ok:=fnO { still:=[2,19,20,25,31,42]} [(0,ZpH)] [] trivial ⟨ZsG,ytt⟩
def XD(F:Nat)(a0:Zz)(a1:yH)(a2:Int)(a3:Int):yO (Bool):=
 if(a2 !=a0.2.2.2.2)=true then
  some (a3==0)
 else
 if(decide (a3 >= 52))=true then
  if(inB a2 2)=true then
   (a1.2.1[a2.toNat]?).bind λe164=>
   some (decide (a3<=e164))
  else
  none
 else
 some false
def Zgj(F:Nat):Fs yb:=⟨94,[.v Zh,.v Zf,.v yI,.v yI],[],[Zh,Zf,yI,yI],(zE .bool),λx=>XD F x.1 x.2.1 x.2.2.1 x.2.2.2⟩
def Zdn:Fs yb:=Zgj yD
theorem Zcq:Zdn.Ok:=fnO { still:=[8]} [] [] trivial
def X6(F:Nat)(s:((yL (yL yB))×Int×(yL (yL yB))×Int×Int)):yO (((yL (yL yB))×Int×(yL (yL yB))×Int×Int)⊕((yL (yL yB))×Int)):=
 if(decide (s.2.2.2.2 < s.2.2.2.1))=true then
  (idx s.2.2.1 s.2.2.2.2).bind λe165=>
  if(decide ((wi (s.2.1+(e165.length:Int))) < 0))=true then
   none
  else
  some (.inl (s.1,wi (s.2.1+(e165.length:Int)),s.2.2.1,s.2.2.2.1,wi (s.2.2.2.2+1)))
 else
 some (.inr (s.1,s.2.1))
def Zbd:Lp:=⟨[(0,.v (.sl (.sl .u8))),(3,.v yI),(9,.v (.sl (.sl .u8))),(10,.v yI),(11,.v yI)],[],[(.sl (.sl .u8)),yI,(.sl (.sl .u8)),yI,yI],[⟨.exit 0,[(0,.v (.sl (.sl .u8))),(3,.v yI)],[],[(.sl (.sl .u8)),yI]⟩],Zb (X6 yD) yD⟩
def hi2:HI:={ own:=[6,24,31,33],still:=[2,23]}
theorem ZfB:Zbd.okA yb 250 0:=Zx hi2 [] [] trivial
def ZcR:Fs yb:=⟨271,[.nil .u8,.v yI],[],[.int .i64],[⟨.ret,[(0,.own 0 .u8)],[.log .u8 5],[.sl .u8]⟩],Zv1⟩
theorem ZjX:ZcR.Ok:=ZLb ZJe
def X7(F:Nat)(s:((yL (yL yB))×Int×Int×(yL yB))):yO (((yL (yL yB))×Int×Int×(yL yB))⊕(yL yB)):=
 if(decide (s.2.2.1 < s.2.1))=true then
  (idx s.1 s.2.2.1).bind λe168=>
  if(apB s.2.2.2.length e168.length 1)=true then
   some (.inl (s.1,s.2.1,wi (s.2.2.1+1),s.2.2.2++e168))
  else
  none
 else
 some (.inr s.2.2.2)
def Zbe:Lp:=⟨[(6,.own 0 .u8),(25,.v (.sl (.sl .u8))),(26,.v yI),(27,.v yI)],[.log .u8 5],[(.sl (.sl .u8)),yI,yI,(.sl .u8)],[⟨.exit 2,[(6,.own 0 .u8)],[.log .u8 5],[(.sl .u8)]⟩],Zb (X7 yD) yD⟩
theorem ZfC:Zbe.okA yb 250 1:=Zx hi2 [] [] trivial
def XE(F:Nat)(a0:(yL (yL yB))):yO ((yL yB)):=
 (Zb (X6 F) F (a0,0,a0,(a0.length:Int),0)).bind λo166=>
 (Zv1 o166.2).bind λo167=>
 (Zb (X7 F) F (o166.1,(o166.1.length:Int),0,o167)).bind λo169=>
 some o169
def VS:Fs yb:=⟨250,[.v (.sl (.sl .u8))],[],[(.sl (.sl .u8))],(zE (.sl .u8)),λx=>XE yD x⟩
theorem Zbf:VS.Ok:=fnO hi2 [(0,Zbd),(1,Zbe)] [ZcR] ⟨ZjX,ytt⟩ ⟨ZfB,ZfC,ytt⟩
def ZcB(F:Nat)(a0:(yL yB))(a1:(yL yB)):yO ((yL yB)):=
 (XE F [a0,a1]).bind λo170=>
 some o170
def ZjB:Fs yb:=⟨236,[.v (.sl .u8),.v (.sl .u8)],[],[(.sl .u8),(.sl .u8)],(zE (.sl .u8)),λx=>ZcB yD x.1 x.2⟩
theorem ZlI:ZjB.Ok:=fnO { still:=[4,7]} [] [VS] ⟨Zbf,ytt⟩
def Zhk(F:Nat)(s:(Int×(yL yB))):yO ((Int×(yL yB))⊕(Int×(yL yB))):=
 if(decide (s.1 >= 128))=true then
  if(apB s.2.length 1 1)=true then
   let y171:(yL yB):=s.2++([w8 (wi ((yav s.1 128)+128))]:yL yB)
   some (.inl (wi (Int.tdiv s.1 128),y171))
  else
  none
 else
 some (.inr (s.1,s.2))
def ZtI:Lp:=⟨[(0,.v yI),(3,.own 0 .u8)],[.log .u8 5],[yI,(.sl .u8)],[⟨.exit 0,[(0,.v yI),(3,.own 0 .u8)],[.log .u8 5],[yI,(.sl .u8)]⟩],Zb (Zhk yD) yD⟩
def hi3:HI:={ own:=[3,8,14,15,19],still:=[2]}
theorem Zwn:ZtI.okA yb 237 0:=Zx hi3 [] [] trivial
def ZkW(F:Nat)(a0:Int):yO ((yL yB)):=
 (Zb (Zhk F) F (a0,[])).bind λo172=>
 if(apB o172.2.length 1 1)=true then
  some (o172.2++([w8 o172.1]:yL yB))
 else
 none
def Zqu:Fs yb:=⟨237,[.v yI],[],[yI],(zE (.sl .u8)),λx=>ZkW yD x⟩
theorem ZtJ:Zqu.Ok:=fnO hi3 [(0,ZtI)] [] trivial ⟨Zwn,ytt⟩
def V3(F:Nat)(a0:(yL yB))(a1:Int):yO ((yL yB)):=
 if(decide (a1 < 0))=true then
  (ZcB F a0 []).bind λo173=>
  some o173
 else
 (ZkW F a1).bind λo174=>
 (ZcB F a0 o174).bind λo175=>
 some o175
def ZeP:Fs yb:=⟨184,[.v (.sl .u8),.v yI],[],[(.sl .u8),yI],(zE (.sl .u8)),λx=>V3 yD x.1 x.2⟩
theorem ZfD:ZeP.Ok:=fnO { still:=[4,7,9,10,11]} [] [ZjB,Zqu] ⟨ZlI,ZtJ,ytt⟩
def Zcr(F:Nat)(s:((yL yB)×yU×Int×(yL yB))):yO (((yL yB)×yU×Int×(yL yB))⊕((yL yB)×(yL yB))):=
 if(decide (s.2.2.1 < 8))=true then
  if(decide (0<=wi (56 - (wi (8*s.2.2.1)))))=true then
   let y176:yU:=ZO s.2.1 (min (wi (56 - (wi (8*s.2.2.1)))).toNat 64)
   if(inB s.2.2.1 8)=true then
    (s.2.2.2[s.2.2.1.toNat]?).bind λe177=>
    let y178:(yL yB):=s.2.2.2.set s.2.2.1.toNat (w8 (y176.toNat:Int))
    some (.inl (s.1,s.2.1,wi (s.2.2.1+1),y178))
   else
   none
  else
  none
 else
 some (.inr (s.1,s.2.2.2))
def ZnF:Lp:=⟨[(0,.v (.sl .u8)),(1,.v .u64),(5,.ref 0 []),(7,.v yI)],[.var (.v (.arr 8 .u8)) true],[(.sl .u8),.u64,yI,(.arr 8 .u8)],[⟨.exit 0,[(0,.v (.sl .u8)),(5,.ref 0 [])],[.var (.v (.arr 8 .u8)) true],[(.sl .u8),(.arr 8 .u8)]⟩],Zb (Zcr yD) yD⟩
theorem Zrn:ZnF.okA yb 185 0:=Zx { still:=[4,19,20],frz:=[20]} [] [] trivial
def Zdo(F:Nat)(a0:(yL yB))(a1:yU):yO ((yL yB)):=
 (Zb (Zcr F) F (a0,a1,0,[0,0,0,0,0,0,0,0])).bind λo179=>
 (ZcB F o179.1 o179.2).bind λo180=>
 some o180
def ZjY:Fs yb:=⟨185,[.v (.sl .u8),.v .u64],[],[(.sl .u8),.u64],(zE (.sl .u8)),λx=>Zdo yD x.1 x.2⟩
theorem ZnG:ZjY.Ok:=fnO { still:=[4,19,20],frz:=[20]} [(0,ZnF)] [ZjB] ⟨ZlI,ytt⟩ ⟨Zrn,ytt⟩
def Zbg(F:Nat)(s:((yL yB)×(yL ZC)×Int×Int×(yL yU)×Int×Int×yG×ZC)):yO (((yL yB)×(yL ZC)×Int×Int×(yL yU)×Int×Int×yG×ZC)⊕((yL yB)×(yL ZC)×Int×Int×yG×ZC)):=
 if(decide (s.2.2.2.2.2.2.1 < s.2.2.2.2.2.1))=true then
  (idx s.2.2.2.2.1 s.2.2.2.2.2.2.1).bind λe185=>
  (Zdo F s.1 e185).bind λo186=>
  some (.inl (o186,s.2.1,s.2.2.1,s.2.2.2.1,s.2.2.2.2.1,s.2.2.2.2.2.1,wi (s.2.2.2.2.2.2.1+1),s.2.2.2.2.2.2.2.1,s.2.2.2.2.2.2.2.2))
 else
 some (.inr (s.1,s.2.1,s.2.2.1,s.2.2.2.1,s.2.2.2.2.2.2.2.1,s.2.2.2.2.2.2.2.2))
abbrev tL0:yL Ty:=[(.sl .u8),(.sl Zm),yI,yI,(.sl .u64),yI,yI,Ze,Zm]
def ZpI:Lp:=⟨[(3,.v (.sl .u8)),(5,.ref 1 []),(16,.v (.sl Zm)),(17,.v yI),(18,.v yI),(28,.v (.sl .u64)),(29,.v yI),(30,.v yI)],[.var (.v Ze) true,.var (.v Zm) true],tL0,[⟨.exit 2,[(3,.v (.sl .u8)),(5,.ref 1 []),(16,.v (.sl Zm)),(17,.v yI),(18,.v yI)],[.var (.v Ze) true,.var (.v Zm) true],[(.sl .u8),(.sl Zm),yI,yI,Ze,Zm]⟩],Zb (Zbg yD) yD⟩
def hi4:HI:={ still:=[2,8,13,22,25,34,35,38,40,41,43,44,46]}
theorem ZsH:ZpI.okA yb 104 1:=Zx hi4 [] [ZjY] ⟨ZnG,ytt⟩
def Zdp(F:Nat)(s:((yL yB)×(yL ZC)×Int×Int×yG)):yO (((yL yB)×(yL ZC)×Int×Int×yG)⊕((yL yB)×yG)):=
 if(decide (s.2.2.2.1 < s.2.2.1))=true then
  (idx s.2.1 s.2.2.2.1).bind λe183=>
  (V3 F s.1 (e183.1.length:Int)).bind λo184=>
  (Zb (Zbg F) F (o184,s.2.1,s.2.2.1,s.2.2.2.1,e183.1,(e183.1.length:Int),0,s.2.2.2.2,e183)).bind λo187=>
  (V3 F o187.1 o187.2.2.2.2.2.2.1).bind λo188=>
  (V3 F o188 o187.2.2.2.2.2.2.2.1).bind λo189=>
  (Zdo F o189 o187.2.2.2.2.2.2.2.2).bind λo190=>
  some (.inl (o190,o187.2.1,o187.2.2.1,wi (o187.2.2.2.1+1),o187.2.2.2.2.1))
 else
 some (.inr (s.1,s.2.2.2.2))
def ZpJ:Lp:=⟨[(3,.v (.sl .u8)),(16,.v (.sl Zm)),(17,.v yI),(18,.v yI)],[.var (.v Ze) true],[(.sl .u8),(.sl Zm),yI,yI,Ze],[⟨.exit 0,[(3,.v (.sl .u8))],[.var (.v Ze) true],[(.sl .u8),Ze]⟩],Zb (Zdp yD) yD⟩
theorem ZsI:ZpJ.okA yb 104 0:=Zx hi4 [(1,ZpI)] [ZeP,ZjY] ⟨ZfD,ZnG,ytt⟩ ⟨ZsH,ytt⟩
def Q6(F:Nat)(a0:yG):yO ((yL yB)):=
 (XV F a0).bind λo181=>
 if(!o181)=true then
  some []
 else
 (V3 F [] (a0.length:Int)).bind λo182=>
 (Zb (Zdp F) F (o182,a0,(a0.length:Int),0,a0)).bind λo191=>
 some o191.1
def ZjZ(F:Nat):Fs yb:=⟨104,[.v Ze],[],[Ze],(zE (.sl .u8)),λx=>Q6 F x⟩
def Zdq:Fs yb:=ZjZ yD
theorem Zcb:Zdq.Ok:=fnO hi4 [(0,ZpJ)] [ZbK,ZeP] ⟨ZaD,ZfD,ytt⟩ ⟨ZsI,ytt⟩
def YA(F:Nat)(a0:(yL yB)):yO ((yL yB)):=
 if(apB 0 a0.length 1)=true then
  some a0
 else
 none
def VT(F:Nat):Fs yb:=⟨239,[.sl true .u8],[],[(.sl .u8)],(zE (.sl .u8)),λx=>YA F x⟩
def Zj0:Fs yb:=VT yD
theorem ZbQ:Zj0.Ok:=fnO { own:=[5,7],still:=[2]} [] [] trivial
def Zbh(F:Nat):yO ((yL yB)):=
 some []
def Zhl:Fs yb:=⟨239,[.nil .u8],[],[],(zE (.sl .u8)),λx=>Zbh yD⟩
theorem Zgk:Zhl.Ok:=fnO { own:=[5,7],still:=[2]} [] [] trivial
def VF:Fs yb:=⟨239,[.v (.sl .u8)],[],[(.sl .u8)],(zE (.sl .u8)),λx=>YA yD x⟩
theorem ZaP:VF.Ok:=Zsx (t:=.u8) (xs:=(zE (.sl .u8))) (MA:=λ(x:(yL yB))=>YA yD x) (MB:=λ_=>Zbh yD) ZbQ Zgk rfl
abbrev Zg:Ty:=(.st [(.sl .u8),.bool])
abbrev Zi:Type:=((yL yB)×Bool)
abbrev Zi.b(x:Zi):(yL yB):=x.1
abbrev Zi.no(x:Zi):Bool:=x.2
def ZlJ(F:Nat)(a0:(yL yB)):yO (Zi):=
 (YA F a0).bind λo192=>
 some (o192,false)
def ZtK:Fs yb:=⟨190,[.v (.sl .u8)],[],[(.sl .u8)],[⟨.ret,[(0,.ref 0 [])],[.var (.v Zg) true],[Zg]⟩],λx=>ZlJ yD x⟩
theorem ZAg:ZtK.Ok:=fnO { still:=[2,3]} [] [VF] ⟨ZaP,ytt⟩
def ZT(F:Nat)(s:((yL yB)×(yL yB)×Int×Int)):yO (((yL yB)×(yL yB)×Int×Int)⊕(Bool⊕Unit)):=
 if(decide (s.2.2.2 < s.2.2.1))=true then
  (idx s.1 s.2.2.2).bind λe193=>
  (idx s.2.1 s.2.2.2).bind λe194=>
  if(e193 !=e194)=true then
   some (.inr (.inl false))
  else
  some (.inl (s.1,s.2.1,s.2.2.1,wi (s.2.2.2+1)))
 else
 some (.inr (.inr ()))
def ZbR:Lp:=⟨[(0,.v (.sl .u8)),(1,.v (.sl .u8)),(12,.v yI),(13,.v yI)],[],[(.sl .u8),(.sl .u8),yI,yI],[⟨.ret,[(4,.v .bool)],[],[.bool]⟩,⟨.exit 0,[],[],[]⟩],Zb (ZT yD) yD⟩
theorem Zgl:ZbR.okA yb 193 0:=Zx { still:=[4]} [] [] trivial
def Yo(F:Nat)(a0:(yL yB))(a1:(yL yB)):yO (Bool):=
 if((a0.length:Int)!=(a1.length:Int))=true then
  some false
 else
 (Zb (ZT F) F (a0,a1,(a0.length:Int),0)).bind λo195=>
 match o195 with
 |.inl o196=>
  some o196
 |.inr o197=>
  some true
def VU(F:Nat):Fs yb:=⟨193,[.v (.sl .u8),.v (.sl .u8)],[],[(.sl .u8),(.sl .u8)],(zE .bool),λx=>Yo F x.1 x.2⟩
def Zcc:Fs yb:=VU yD
theorem ZbS:Zcc.Ok:=fnO { still:=[4]} [(0,ZbR)] [] trivial ⟨Zgl,ytt⟩
def WB(F:Nat)(s0:Int)(s2:Zi):yO ((Bool×Int×Zi)):=
 if(decide (s0 >= (s2.1.length:Int)))=true then
  some (true,s0,s2)
 else
 if(decide (s0 > 8))=true then
  some (true,s0,s2)
 else
 if(decide (s0 > 0))=true then
  (idx s2.1 s0).bind λe199=>
  some (e199==0,s0,s2)
 else
 some (false,s0,s2)
def ZgG:Fs yb:=⟨240,[.ref 0 [],.ref 1 []],[.var (.v yI) true,.var (.ref 2 []) true,.var (.v Zg) true],[yI,Zg],[⟨.ret,[(0,.v .bool)],[.var (.v yI) true,.var (.ref 2 []) true,.var (.v Zg) true],[.bool,yI,Zg]⟩],λx=>WB yD x.1 x.2⟩
theorem ZnH:ZgG.Ok:=fnO { still:=[2]} [] [] trivial
def Qb(F:Nat)(s0:Zi):yO (Zi):=
 some ([],true)
def ZcC:Fs yb:=⟨241,[.ref 0 []],[.var (.v Zg) true],[Zg],[⟨.ret,[(0,.tup [])],[.var (.v Zg) true],[Zg]⟩],λx=>Qb yD x⟩
theorem ZgH:ZcC.Ok:=fnO {} [] [] trivial
def W7(F:Nat)(s:(Int×Zi×Int)):yO ((Int×Zi×Int)⊕((Int×Zi×Int)⊕(Int×Zi×Int))):=
 (WB F s.2.2 s.2.1).bind λo200=>
 if o200.1=true then
  (Qb F o200.2.2).bind λo201=>
  some (.inr (.inl (0,o201,o200.2.1)))
 else
 (idx o200.2.2.1 o200.2.1).bind λe202=>
 if(decide (0<=wi (7*o200.2.1)))=true then
  let y203:Int:=wi (((e202 % 128).toNat:Int)*2 ^ (min (wi (7*o200.2.1)).toNat 64))
  if(decide (e202 < 128))=true then
   some (.inr (.inr (bits .or .i64 s.1 y203,o200.2.2,wi (o200.2.1+1))))
  else
  some (.inl (bits .or .i64 s.1 y203,o200.2.2,wi (o200.2.1+1)))
 else
 none
abbrev zQ:List ESh:=[.var (.v Zg) true,.var (.ref 0 []) true,.var (.v yI) true]
def Zij:Lp:=⟨[(1,.ref 1 []),(3,.v yI),(4,.ref 2 []),(5,.fn 240 [.ref 2 [],.ref 1 []])],zQ,[yI,Zg,yI],[⟨.ret,[(2,.v yI)],zQ,[yI,Zg,yI]⟩,⟨.exit 0,[(1,.ref 1 []),(3,.v yI),(4,.ref 2 [])],zQ,[yI,Zg,yI]⟩],Zb (W7 yD) yD⟩
theorem ZmO:Zij.okA yb 191 0:=Zx { still:=[2,10]} [] [ZgG,ZcC] ⟨ZnH,ZgH,ytt⟩
def WC(F:Nat)(s0:Zi):yO ((Int×Zi)):=
 (Zb (W7 F) F (0,s0,0)).bind λo204=>
 match o204 with
 |.inl o205=>
  some (o205.1,o205.2.1)
 |.inr o206=>
  if(ZaE o206.2.1.1.length (some o206.2.2) none)=true then
   some (o206.1,(o206.2.1.1.drop o206.2.2.toNat,o206.2.1.2))
  else
  none
def Zdr:Fs yb:=⟨191,[.ref 0 []],[.var (.v Zg) true],[Zg],[⟨.ret,[(0,.v yI)],[.var (.v Zg) true],[yI,Zg]⟩],λx=>WC yD x⟩
theorem Zik:Zdr.Ok:=fnO { still:=[2,10]} [(0,Zij)] [] trivial ⟨ZmO,ytt⟩
def ZaQ(F:Nat)(a1:Int)(s0:Zi):yO (((yL yB)×Zi)):=
 if s0.2=true then
  (Qb F s0).bind λo209=>
  some ([],o209)
 else
 if(decide (a1 > (s0.1.length:Int)))=true then
  (Qb F s0).bind λo210=>
  some ([],o210)
 else
 if(ZaE s0.1.length none (some a1))=true then
  (YA F (s0.1.take a1.toNat)).bind λo211=>
  if(ZaE s0.1.length (some a1) none)=true then
   some (o211,(s0.1.drop a1.toNat,s0.2))
  else
  none
 else
 none
def Zil:Fs yb:=⟨242,[.ref 0 [],.v yI],[.var (.v Zg) true],[yI,Zg],[⟨.ret,[(0,.v (.sl .u8))],[.var (.v Zg) true],[(.sl .u8),Zg]⟩],λx=>ZaQ yD x.1 x.2⟩
theorem Zo5:Zil.Ok:=fnO { still:=[4,19,26]} [] [ZcC,VF] ⟨ZgH,ZaP,ytt⟩
def QA(F:Nat)(s:(yU×(yL yB)×Int×Int×Zi)):yO ((yU×(yL yB)×Int×Int×Zi)⊕(yU×Zi)):=
 if(decide (s.2.2.2.1 < s.2.2.1))=true then
  (idx s.2.1 s.2.2.2.1).bind λe213=>
  some (.inl ((Q3 s.1 8)|||(yx e213.toNat),s.2.1,s.2.2.1,wi (s.2.2.2.1+1),s.2.2.2.2))
 else
 some (.inr (s.1,s.2.2.2.2))
def Zim:Lp:=⟨[(3,.v .u64),(7,.v (.sl .u8)),(8,.v yI),(9,.v yI)],[.var (.v Zg) true],[.u64,(.sl .u8),yI,yI,Zg],[⟨.exit 0,[(3,.v .u64)],[.var (.v Zg) true],[.u64,Zg]⟩],Zb (QA yD) yD⟩
theorem ZmP:Zim.okA yb 192 0:=Zx { still:=[2,6]} [] [] trivial
def QW(F:Nat)(s0:Zi):yO ((yU×Zi)):=
 (ZaQ F 8 s0).bind λo212=>
 (Zb (QA F) F (0,o212.1,(o212.1.length:Int),0,o212.2)).bind λo214=>
 some (o214.1,o214.2)
def Zds:Fs yb:=⟨192,[.ref 0 []],[.var (.v Zg) true],[Zg],[⟨.ret,[(0,.v .u64)],[.var (.v Zg) true],[.u64,Zg]⟩],λx=>QW yD x⟩
theorem Zin:Zds.Ok:=fnO { still:=[2,6]} [(0,Zim)] [Zil] ⟨Zo5,ytt⟩ ⟨ZmP,ytt⟩
abbrev dT0:Type:=((yL yB)×Int×Int×Int×Int×yG×Zi×(yL ZC)×Int×Int×yU×(yL yU))
def ZOi:yL ESh:=[.var (.v Ze) true,.var (.v Zg) true,.var (.agg [.own 3 Zm]) true,.log Zm 124,.var (.agg [.own 5 .u64,.v yI,.v yI,.v .u64]) true,.log .u64 27]
abbrev tL1:yL Ty:=[(.sl .u8),yI,yI,Ze,Zg,(.sl Zm),yI,yI,.u64,(.sl .u64)]
abbrev tL2:yL Ty:=[(.sl .u8),yI,yI,yI,yI,Ze,Zg,(.sl Zm),yI,yI,.u64,(.sl .u64)]
def hi5:HI:={ own:=[31,35,48,51],still:=[3,10,12,19,32,38,40,44,53,57,58,59],ghost:=[(5,[([0],Zm,124)]),(8,[([0],.u64,27)])]}
def WK(F:Nat)(s:dT0):yO (dT0⊕((yL yB)×Int×Int×yG×Zi×(yL ZC)×Int×Int×yU×(yL yU))):=
 if(decide (s.2.2.2.2.1 < s.2.2.2.1))=true then
  (QW F s.2.2.2.2.2.2.1).bind λo229=>
  if(apB s.2.2.2.2.2.2.2.2.2.2.2.length 1 8)=true then
   let y230:(yL yU):=s.2.2.2.2.2.2.2.2.2.2.2++([o229.1]:yL yU)
   some (.inl (s.1,s.2.1,s.2.2.1,s.2.2.2.1,wi (s.2.2.2.2.1+1),s.2.2.2.2.2.1,o229.2,s.2.2.2.2.2.2.2.1,s.2.2.2.2.2.2.2.2.1,s.2.2.2.2.2.2.2.2.2.1,s.2.2.2.2.2.2.2.2.2.2.1,y230))
  else
  none
 else
 some (.inr (s.1,s.2.1,s.2.2.1,s.2.2.2.2.2.1,s.2.2.2.2.2.2.1,s.2.2.2.2.2.2.2.1,s.2.2.2.2.2.2.2.2.1,s.2.2.2.2.2.2.2.2.2.1,s.2.2.2.2.2.2.2.2.2.2.1,s.2.2.2.2.2.2.2.2.2.2.2))
def Zro:Lp:=⟨[(0,.v (.sl .u8)),(2,.ref 0 []),(4,.ref 1 []),(5,.ref 2 []),(6,.v yI),(7,.v yI),(8,.ref 4 []),(27,.v yI),(28,.v yI)],ZOi,tL2,[⟨.exit 2,[(0,.v (.sl .u8)),(2,.ref 0 []),(4,.ref 1 []),(5,.ref 2 []),(6,.v yI),(7,.v yI),(8,.ref 4 [])],ZOi,tL1⟩],Zb (WK yD) yD⟩
theorem Zuf:Zro.okA yb 108 1:=Zx hi5 [] [Zds] ⟨Zin,ytt⟩
def Qv(F:Nat)(s:((yL yB)×Int×Int×yG×Zi×(yL ZC))):yO (((yL yB)×Int×Int×yG×Zi×(yL ZC))⊕((yL yB)×yG×Zi×(yL ZC))):=
 if(decide (s.2.2.1 < s.2.1))=true then
  (WC F s.2.2.2.2.1).bind λo228=>
  if(s.2.2.1==4)=true then
   some (.inr (s.1,s.2.2.2.1,o228.2,s.2.2.2.2.2))
  else
  if(decide (o228.1 > 12))=true then
   some (.inr (s.1,s.2.2.2.1,o228.2,s.2.2.2.2.2))
  else
  (Zb (WK F) F (s.1,s.2.1,s.2.2.1,o228.1,0,s.2.2.2.1,o228.2,s.2.2.2.2.2,0,0,0,[])).bind λo231=>
  (WC F o231.2.2.2.2.1).bind λo232=>
  (WC F o232.2).bind λo233=>
  (QW F o233.2).bind λo234=>
  if(apB o231.2.2.2.2.2.1.length 1 48)=true then
   let y235:(yL ZC):=o231.2.2.2.2.2.1++([(o231.2.2.2.2.2.2.2.2.2,o232.1,o233.1,o234.1)]:yL ZC)
   some (.inl (o231.1,o231.2.1,wi (o231.2.2.1+1),o231.2.2.2.1,o234.2,y235))
  else
  none
 else
 some (.inr (s.1,s.2.2.2.1,s.2.2.2.2.1,s.2.2.2.2.2))
def Zrp:Lp:=⟨[(0,.v (.sl .u8)),(2,.ref 0 []),(4,.ref 1 []),(5,.ref 2 []),(6,.v yI),(7,.v yI)],[.var (.v Ze) true,.var (.v Zg) true,.var (.agg [.own 3 Zm]) true,.log Zm 124],[(.sl .u8),yI,yI,Ze,Zg,(.sl Zm)],[⟨.exit 0,[(0,.v (.sl .u8)),(2,.ref 0 []),(5,.ref 2 [])],[.var (.v Ze) true,.var (.v Zg) true,.var (.agg [.own 3 Zm]) true,.log Zm 124],[(.sl .u8),Ze,Zg,(.sl Zm)]⟩],Zb (Qv yD) yD⟩
theorem Zug:Zrp.okA yb 108 0:=Zx hi5 [(1,Zro)] [Zdr,Zds] ⟨Zik,Zin,ytt⟩ ⟨Zuf,ytt⟩
def W6(F:Nat)(a0:(yL yB)):yO ((yG×Bool)):=
 (ZlJ F a0).bind λo226=>
 (WC F o226).bind λo227=>
 (Zb (Qv F) F (a0,o227.1,0,[],o227.2,[])).bind λo236=>
 (XV F o236.2.2.2).bind λo237=>
 if(!o237)=true then
  some ([],false)
 else
 (Q6 F o236.2.2.2).bind λo238=>
 (Yo F o238 o236.1).bind λo239=>
 if(!o239)=true then
  some ([],false)
 else
 some (o236.2.2.2,true)
def ZlK(F:Nat):Fs yb:=⟨108,[.v (.sl .u8)],[],[(.sl .u8)],[⟨.ret,[(0,.tup [.v Ze,.v .bool])],[],[Ze,.bool]⟩],λx=>W6 F x⟩
def ZnI:Fs yb:=ZlK yD
theorem ZlL:ZnI.Ok:=fnO hi5 [(0,Zrp)] [ZtK,Zdr,ZbK,Zdq,Zcc] ⟨ZAg,Zik,ZaD,Zcb,ZbS,ytt⟩ ⟨Zug,ytt⟩
def Qw(F:Nat)(a0:yG):yO (yG):=
 (Q6 F a0).bind λo240=>
 (W6 F o240).bind λo241=>
 some o241.1
def Zgm(F:Nat):Fs yb:=⟨95,[.v Ze],[],[Ze],(zE Ze),λx=>Qw F x⟩
def Zio:Fs yb:=Zgm yD
theorem Zgn:Zio.Ok:=fnO { still:=[6,7]} [] [Zdq,ZnI] ⟨Zcb,ZlL,ytt⟩
def Zat(F:Nat)(a0:Out)(a1:Out):yO (Int):=
 some (wi (a0.1 - a1.1))
def ZkX:Fs yb:=⟨97,[.v ZR,.v ZR],[],[ZR,ZR],(zE yI),λx=>Zat yD x.1 x.2⟩
theorem Zrq:ZkX.Ok:=fnO { still:=[4]} [] [] trivial
abbrev dT1:Type:=(Int×(yL Int)×Int×Zz×yH×(yL yG)×Tx×(yL In)×Int×(yL Unit)×(yL Out))
def ZOj:yL ESh:=[.var (.v Zh) true,.var (.v Zf) true,.var (.v (.arr 2 Ze)) true,.var (.v yTx) true,.var (.agg [.v (.sl yIn),.rw 5,.v yI]) true,.row ZR true 112]
abbrev tL3:yL Ty:=[yI,(.arr 2 yI),yI,Zh,Zf,(.arr 2 Ze),yTx,(.sl yIn),yI,(.sl (.st [])),(.sl ZR)]
def XI(F:Nat)(s:(Int×Int×Int×Int×(yL Unit)×(yL Out))):yO ((Int×Int×Int×Int×(yL Unit)×(yL Out))⊕(Int×Int×Int×(yL Unit)×(yL Out))):=
 if(decide (s.2.2.2.1 > s.1))=true then
  if(inB s.2.2.2.1 s.2.2.2.2.2.length)=true then
   (s.2.2.2.2.2[s.2.2.2.1.toNat]?).bind λe264=>
   if(inB (wi (s.2.2.2.1 - 1)) s.2.2.2.2.2.length)=true then
    (s.2.2.2.2.2[(wi (s.2.2.2.1 - 1)).toNat]?).bind λe265=>
    (Zat F e264 e265).bind λo266=>
    if(decide (o266 < 0))=true then
     if(inB (wi (s.2.2.2.1 - 1)) s.2.2.2.2.2.length)=true then
      (s.2.2.2.2.2[(wi (s.2.2.2.1 - 1)).toNat]?).bind λe267=>
      if(inB s.2.2.2.1 s.2.2.2.2.2.length)=true then
       (s.2.2.2.2.2[s.2.2.2.1.toNat]?).bind λe268=>
       if(inB s.2.2.2.1 s.2.2.2.2.2.length)=true then
        (s.2.2.2.2.2[s.2.2.2.1.toNat]?).bind λe269=>
        if(inB (wi (s.2.2.2.1 - 1)) ((s.2.2.2.2.2.set s.2.2.2.1.toNat e267).length))=true then
         ((s.2.2.2.2.2.set s.2.2.2.1.toNat e267)[(wi (s.2.2.2.1 - 1)).toNat]?).bind λe270=>
         let y271:(yL Out):=(s.2.2.2.2.2.set s.2.2.2.1.toNat e267).set ((wi (s.2.2.2.1 - 1)).toNat) e268
         some (.inl (s.1,s.2.1,s.2.2.1,wi (s.2.2.2.1 - 1),s.2.2.2.2.1,y271))
        else
        none
       else
       none
      else
      none
     else
     none
    else
    some (.inr (s.1,s.2.1,s.2.2.1,s.2.2.2.2.1,s.2.2.2.2.2))
   else
   none
  else
  none
 else
 some (.inr (s.1,s.2.1,s.2.2.1,s.2.2.2.2.1,s.2.2.2.2.2))
def ZnJ:Lp:=⟨[(0,.rw 0),(1,.v yI),(2,.v yI),(3,.fn 97 []),(8,.v yI),(9,.v yI)],[.row ZR true 112],[yI,yI,yI,yI,(.sl (.st [])),(.sl ZR)],[⟨.exit 2,[(0,.rw 0),(1,.v yI),(2,.v yI),(3,.fn 97 []),(8,.v yI)],[.row ZR true 112],[yI,yI,yI,(.sl (.st [])),(.sl ZR)]⟩],Zb (XI yD) yD⟩
def hi7:HI:={ still:=[26,31],rowt:=[0,37,39]}
theorem Zrr:ZnJ.okA yb 234 1:=Zx hi7 [] [ZkX] ⟨Zrq,ytt⟩
def YN(F:Nat)(s:(Int×Int×Int×(yL Unit)×(yL Out))):yO ((Int×Int×Int×(yL Unit)×(yL Out))⊕((yL Unit)×(yL Out))):=
 if(decide (s.2.2.1 < s.2.1))=true then
  (Zb (XI F) F (s.1,s.2.1,s.2.2.1,s.2.2.1,s.2.2.2.1,s.2.2.2.2)).bind λo272=>
  some (.inl (o272.1,o272.2.1,wi (o272.2.2.1+1),o272.2.2.2.1,o272.2.2.2.2))
 else
 some (.inr (s.2.2.2.1,s.2.2.2.2))
def ZnK:Lp:=⟨[(0,.rw 0),(1,.v yI),(2,.v yI),(3,.fn 97 []),(8,.v yI)],[.row ZR true 112],[yI,yI,yI,(.sl (.st [])),(.sl ZR)],[⟨.exit 0,[],[.row ZR true 112],[(.sl (.st [])),(.sl ZR)]⟩],Zb (YN yD) yD⟩
theorem Zrs:ZnK.okA yb 234 0:=Zx hi7 [(1,ZnJ)] [] trivial ⟨Zrr,ytt⟩
def Vf(F:Nat)(a1:Int)(a2:Int)(s0_0:(yL Unit))(s0_1:(yL Out)):yO (((yL Unit)×(yL Out))):=
 (Zb (YN F) F (a1,a2,wi (a1+1),s0_0,s0_1)).bind λo273=>
 some (o273.1,o273.2)
def Zj1:Fs yb:=⟨234,[.rw 0,.v yI,.v yI,.fn 97 []],[.row ZR true 112],[yI,yI,(.sl (.st [])),(.sl ZR)],[⟨.ret,[(0,.tup [])],[.row ZR true 112],[(.sl (.st [])),(.sl ZR)]⟩],λx=>Vf yD x.1 x.2.1 x.2.2.1 x.2.2.2⟩
theorem ZnL:Zj1.Ok:=fnO hi7 [(0,ZnK)] [] trivial ⟨Zrs,ytt⟩
def XJ(F:Nat)(s:(Int×Int×Int×Int×(yL Unit)×(yL Out))):yO ((Int×Int×Int×Int×(yL Unit)×(yL Out))⊕(Int×Int×Int×(yL Unit)×(yL Out))):=
 if(decide (s.2.2.2.1<=s.1))=true then
  (Vf F s.2.2.1 s.2.2.2.1 s.2.2.2.2.1 s.2.2.2.2.2).bind λo274=>
  if(decide (s.2.2.2.2.1.length=o274.1.length)&&(decide (2=2)&&decide ((yy s.2.2.2.2.2.length ()).length=o274.2.length)))=true then
   some (.inl (s.1,s.2.1,s.2.2.2.1,wi (s.2.2.2.1+s.2.1),o274.1,o274.2))
  else
  none
 else
 some (.inr (s.1,s.2.1,s.2.2.1,s.2.2.2.2.1,s.2.2.2.2.2))
def ZnM:Lp:=⟨[(0,.rw 0),(1,.v yI),(2,.fn 97 []),(6,.v yI),(7,.v yI),(8,.v yI)],[.row ZR true 112],[yI,yI,yI,yI,(.sl (.st [])),(.sl ZR)],[⟨.exit 0,[(0,.rw 0),(1,.v yI),(2,.fn 97 []),(6,.v yI),(7,.v yI)],[.row ZR true 112],[yI,yI,yI,(.sl (.st [])),(.sl ZR)]⟩],Zb (XJ yD) yD⟩
def hi8:HI:={ still:=[15,16,17,24,25,26,37,40,41,42,56,57,58,59],rowt:=[0,14,23,36,55]}
theorem Zrt:ZnM.okA yb 181 0:=Zz3 (fi:={ hi:=hi8,gh:=[(3,.freshS 0)]}) (specs:={ l:=[Zj1]}) (okS ⟨ZnL,ytt⟩)
def ZmB(F:Nat)(s:(Int×Int×Int×Int×(yL Unit)×(yL Out))):yO ((Int×Int×Int×Int×(yL Unit)×(yL Out))⊕(Int×Int×Int×(yL Unit)×(yL Out))):=
 if(decide (s.2.2.2.1<=s.1))=true then
  none
 else
 some (.inr (s.1,s.2.1,s.2.2.1,s.2.2.2.2.1,s.2.2.2.2.2))
def ZnN:Lp:=⟨[(1,.v yI),(2,.fn 97 []),(6,.v yI),(7,.v yI),(8,.v yI)],[.row ZR true 112],[yI,yI,yI,yI,(.sl (.st [])),(.sl ZR)],[⟨.exit 4,[(1,.v yI),(2,.fn 97 []),(6,.v yI),(7,.v yI)],[.row ZR true 112],[yI,yI,yI,(.sl (.st [])),(.sl ZR)]⟩],Zb (ZmB yD) yD⟩
theorem Zru:ZnN.okA yb 181 2:=Zx hi8 [] [] trivial
def V4(F:Nat)(s:(Int×Int×(yL Unit)×(yL Out))):yO ((Int×Int×(yL Unit)×(yL Out))⊕((yL Unit)×(yL Out))):=
 if(decide (s.2.1 < s.1))=true then
  (Zb (ZmB F) F (s.1,s.2.1,0,wi (2*s.2.1),s.2.2.1,s.2.2.2)).bind λo277=>
  if(decide ((wi (o277.2.2.1+o277.2.1)) < o277.1))=true then
   none
  else
  some (.inl (o277.1,wi (o277.2.1*2),o277.2.2.2.1,o277.2.2.2.2))
 else
 some (.inr (s.2.2.1,s.2.2.2))
def ZnO:Lp:=⟨[(0,.junk),(1,.v yI),(2,.fn 97 []),(6,.v yI)],[.row ZR true 112],[yI,yI,(.sl (.st [])),(.sl ZR)],[⟨.exit 2,[],[.row ZR true 112],[(.sl (.st [])),(.sl ZR)]⟩],Zb (V4 yD) yD⟩
theorem Zrv:ZnO.okA yb 181 1:=Zx hi8 [(2,ZnN)] [] trivial ⟨Zru,ytt⟩
def Zhm(F:Nat)(a1:Int)(s0_0:(yL Unit))(s0_1:(yL Out)):yO (((yL Unit)×(yL Out))):=
 (Zb (XJ F) F (a1,20,0,20,s0_0,s0_1)).bind λo275=>
 (Vf F o275.2.2.1 o275.1 o275.2.2.2.1 o275.2.2.2.2).bind λo276=>
 (Zb (V4 F) F (o275.1,o275.2.1,o276.1,o276.2)).bind λo278=>
 some (o278.1,o278.2)
def ZpK:Fs yb:=⟨181,[.rw 0,.v yI,.fn 97 []],[.row ZR true 112],[yI,(.sl (.st [])),(.sl ZR)],[⟨.ret,[(0,.tup [])],[.row ZR true 112],[(.sl (.st [])),(.sl ZR)]⟩],λx=>Zhm yD x.1 x.2.1 x.2.2⟩
theorem Zwo:ZpK.Ok:=fnO hi8 [(0,ZnM),(1,ZnO)] [Zj1] ⟨ZnL,ytt⟩ ⟨Zrt,Zrv,ytt⟩
def Zip(F:Nat)(s0_0:(yL Unit))(s0_1:(yL Out)):yO (((yL Unit)×(yL Out))):=
 (Zhm F (s0_1.length:Int) s0_0 s0_1).bind λo279=>
 some (o279.1,o279.2)
def Zyu:Fs yb:=⟨96,[.rw 0,.fn 97 []],[.row ZR true 112],[(.sl (.st [])),(.sl ZR)],[⟨.ret,[(0,.tup [])],[.row ZR true 112],[(.sl (.st [])),(.sl ZR)]⟩],λx=>Zip yD x.1 x.2⟩
theorem ZEi:Zyu.Ok:=fnO { still:=[6,7],rowt:=[0,4]} [] [ZpK] ⟨Zwo,ytt⟩
def Vv(F:Nat)(s:dT1):yO (dT1⊕(Zz×yH×(yL yG)×Tx×(yL In)×Int×(yL Unit)×(yL Out))):=
 if(decide (s.2.2.1 < 2))=true then
  (idx s.2.1 s.2.2.1).bind λe287=>
  if(s.2.2.1==s.2.2.2.1.2.2.2.2)=true then
   (s.2.2.2.1.2.2.2.1[0]?).bind λe288=>
   (ZbI F e288 (wi (e287 - s.1))).bind λo289=>
   if o289=true then
    (s.2.2.2.1.2.2.2.1[1]?).bind λe290=>
    (ZbI F e290 (wi (e287 - s.1))).bind λo291=>
    if o291=true then
     if(inB s.2.2.1 2)=true then
      (s.2.2.2.2.2.1[s.2.2.1.toNat]?).bind λe292=>
      (Qw F e292).bind λo293=>
      if(apB s.2.2.2.2.2.2.2.2.2.2.length 1 32)=true then
       let y294:(yL Out):=s.2.2.2.2.2.2.2.2.2.2++([(wi (e287 - s.1),o293)]:yL Out)
       some (.inl (s.1,s.2.1,wi (s.2.2.1+1),s.2.2.2.1,s.2.2.2.2.1,s.2.2.2.2.2.1,s.2.2.2.2.2.2.1,s.2.2.2.2.2.2.2.1,s.2.2.2.2.2.2.2.2.1,()::s.2.2.2.2.2.2.2.2.2.1,y294))
      else
      none
     else
     none
    else
    some (.inl (s.1,s.2.1,wi (s.2.2.1+1),s.2.2.2.1,s.2.2.2.2.1,s.2.2.2.2.2.1,s.2.2.2.2.2.2.1,s.2.2.2.2.2.2.2.1,s.2.2.2.2.2.2.2.2.1,s.2.2.2.2.2.2.2.2.2.1,s.2.2.2.2.2.2.2.2.2.2))
   else
   some (.inl (s.1,s.2.1,wi (s.2.2.1+1),s.2.2.2.1,s.2.2.2.2.1,s.2.2.2.2.2.1,s.2.2.2.2.2.2.1,s.2.2.2.2.2.2.2.1,s.2.2.2.2.2.2.2.2.1,s.2.2.2.2.2.2.2.2.2.1,s.2.2.2.2.2.2.2.2.2.2))
  else
  (s.2.2.2.1.2.2.2.1[0]?).bind λe295=>
  (ZbI F e295 e287).bind λo296=>
  if o296=true then
   (s.2.2.2.1.2.2.2.1[1]?).bind λe297=>
   (ZbI F e297 e287).bind λo298=>
   if o298=true then
    if(inB s.2.2.1 2)=true then
     (s.2.2.2.2.2.1[s.2.2.1.toNat]?).bind λe299=>
     (Qw F e299).bind λo300=>
     if(apB s.2.2.2.2.2.2.2.2.2.2.length 1 32)=true then
      let y301:(yL Out):=s.2.2.2.2.2.2.2.2.2.2++([(e287,o300)]:yL Out)
      some (.inl (s.1,s.2.1,wi (s.2.2.1+1),s.2.2.2.1,s.2.2.2.2.1,s.2.2.2.2.2.1,s.2.2.2.2.2.2.1,s.2.2.2.2.2.2.2.1,s.2.2.2.2.2.2.2.2.1,()::s.2.2.2.2.2.2.2.2.2.1,y301))
     else
     none
    else
    none
   else
   some (.inl (s.1,s.2.1,wi (s.2.2.1+1),s.2.2.2.1,s.2.2.2.2.1,s.2.2.2.2.2.1,s.2.2.2.2.2.2.1,s.2.2.2.2.2.2.2.1,s.2.2.2.2.2.2.2.2.1,s.2.2.2.2.2.2.2.2.2.1,s.2.2.2.2.2.2.2.2.2.2))
  else
  some (.inl (s.1,s.2.1,wi (s.2.2.1+1),s.2.2.2.1,s.2.2.2.2.1,s.2.2.2.2.2.1,s.2.2.2.2.2.2.1,s.2.2.2.2.2.2.2.1,s.2.2.2.2.2.2.2.2.1,s.2.2.2.2.2.2.2.2.2.1,s.2.2.2.2.2.2.2.2.2.2))
 else
 some (.inr (s.2.2.2.1,s.2.2.2.2.1,s.2.2.2.2.2.1,s.2.2.2.2.2.2.1,s.2.2.2.2.2.2.2.1,s.2.2.2.2.2.2.2.2.1,s.2.2.2.2.2.2.2.2.2.1,s.2.2.2.2.2.2.2.2.2.2))
def ZmC:Lp:=⟨[(3,.v yI),(4,.ref 0 []),(6,.ref 2 []),(8,.ref 3 []),(10,.ref 4 []),(46,.v (.arr 2 yI)),(47,.v yI)],ZOj,tL3,[⟨.exit 1,[(8,.ref 3 []),(10,.ref 4 [])],ZOj,[Zh,Zf,(.arr 2 Ze),yTx,(.sl yIn),yI,(.sl (.st [])),(.sl ZR)]⟩],Zb (Vv yD) yD⟩
def hi9:HI:={ own:=[71,79],still:=[9,14,15,21,26,32,33,35,36,60,61,66,67,75],rowt:=[71,79,83]}
theorem Zqv:ZmC.okA yb 28 0:=Zx hi9 [] [Zpx,Zio] ⟨Zv9,Zgn,ytt⟩
def Yt(F:Nat)(a0:Zz)(a1:yH)(a2:(yL yG))(a3:Int):yO ((Tx×Int)):=
 (Zdm F a0 a1).bind λo281=>
 if(!o281)=true then
  some (([],[],0),14)
 else
 (a2[0]?).bind λe282=>
 (XV F e282).bind λo283=>
 if(!o283)=true then
  some (([],[],0),1)
 else
 (a2[1]?).bind λe284=>
 (XV F e284).bind λo285=>
 if(!o285)=true then
  some (([],[],0),1)
 else
 (XD F a0 a1 a0.2.2.2.2 a3).bind λo286=>
 if(!o286)=true then
  some (([],[],0),13)
 else
 (Zb (Vv F) F (a3,a1.2.1,0,a0,a1,a2,([],[],0),[(a0.1,(0,[],0))],2097154,[],[])).bind λo302=>
 (Zip F o302.2.2.2.2.2.2.1 o302.2.2.2.2.2.2.2).bind λo303=>
 if(decide (o302.2.2.2.2.2.2.1.length=o303.1.length)&&(decide (2=2)&&decide ((yy o302.2.2.2.2.2.2.2.length ()).length=o303.2.length)))=true then
  some ((o302.2.2.2.2.1,o303.2,o302.2.2.2.2.2.1),0)
 else
 none
def Zgo(F:Nat):Fs yb:=⟨28,[.v Zh,.v Zf,.v (.arr 2 Ze),.v yI],[],[Zh,Zf,(.arr 2 Ze),yI],[⟨.ret,[(0,.tup [.v yTx,.v yI])],[],[yTx,yI]⟩],λx=>Yt F x.1 x.2.1 x.2.2.1 x.2.2.2⟩
def Ziq:Fs yb:=Zgo yD
theorem Zgp:Ziq.Ok:=Ztx (fi:={ hi:=hi9,lp:=[(0,ZmC)],gh:=[(10,.rowt 10 [1] ZR 112),(19,.freshDone 10 1)]}) (specs:={ l:=[ZjV,ZbK,Zdn,Zyu]}) (okS ⟨Zig,ZaD,Zcq,ZEi,ytt⟩) ⟨Zqv,ytt⟩
abbrev Zc:Ty:=(.st [yI,yI,yI,ZE,.u64,(.sl .u8),yI,Zy,(.arr 32 .u8),.u64,yTx,ZaL,Zdi,(.sl .u8)])
abbrev Msg:Type:=(Int×Int×Int×Cond×yU×(yL yB)×Int×Sig×(yL yB)×yU×Tx×Zb0×ZcQ×(yL yB))
abbrev Msg.Cond(x:Msg):Cond:=x.2.2.2.1
def Zgq(F:Nat)(a0:Msg)(s0:Int):yO ((Bool×Int)):=
 some (a0.1==s0,s0)
def ZkY:Fs yb:=⟨189,[.v Zc,.ref 0 []],[.var (.v yI) true],[Zc,yI],[⟨.ret,[(0,.v .bool)],[.var (.v yI) true],[.bool,yI]⟩],λx=>Zgq yD x.1 x.2⟩
theorem Zrw:ZkY.Ok:=fnO { still:=[3]} [] [] trivial
def ZfE(F:Nat)(s:((yL Msg)×Int×Int×Int)):yO (((yL Msg)×Int×Int×Int)⊕((Int×Int)⊕Int)):=
 if(decide (s.2.2.1 < s.2.1))=true then
  (idx s.1 s.2.2.1).bind λe304=>
  (Zgq F e304 s.2.2.2).bind λo305=>
  if o305.1=true then
   some (.inr (.inl (s.2.2.1,o305.2)))
  else
  some (.inl (s.1,s.2.1,wi (s.2.2.1+1),o305.2))
 else
 some (.inr (.inr s.2.2.2))
def Zwp:Lp:=⟨[(0,.v (.sl Zc)),(1,.fn 189 [.ref 0 []]),(7,.v yI),(8,.v yI)],[.var (.v yI) true],[(.sl Zc),yI,yI,yI],[⟨.ret,[(4,.v yI)],[.var (.v yI) true],[yI,yI]⟩,⟨.exit 0,[],[.var (.v yI) true],[yI]⟩],Zb (ZfE yD) yD⟩
theorem Zxv:Zwp.okA yb 188 0:=Zx { still:=[4,15]} [] [ZkY] ⟨Zrw,ytt⟩
def ZnP(F:Nat)(a0:(yL Msg))(s0:Int):yO ((Int×Int)):=
 (Zb (ZfE F) F (a0,(a0.length:Int),0,s0)).bind λo306=>
 match o306 with
 |.inl o307=>
  some (o307.1,o307.2)
 |.inr o308=>
  some ((-1),o308)
def Zyv:Fs yb:=⟨188,[.v (.sl Zc),.fn 189 [.ref 0 []]],[.var (.v yI) true],[(.sl Zc),yI],[⟨.ret,[(0,.v yI)],[.var (.v yI) true],[yI,yI]⟩],λx=>ZnP yD x.1 x.2⟩
theorem ZEj:Zyv.Ok:=fnO { still:=[4,15]} [(0,Zwp)] [] trivial ⟨Zxv,ytt⟩
def Qx(F:Nat)(a0:(yL Msg))(a1:Int):yO ((Msg×Bool)):=
 (ZnP F a0 a1).bind λo311=>
 if(decide (o311.1 < 0))=true then
  some ((0,0,0,(0,0,0,0,0),0,[],0,(0,0),yzz,0,([],[],0),(0,0,0,0,0),(0,0,0,0,0,0),[]),false)
 else
 (idx a0 o311.1).bind λe312=>
 some (e312,true)
def Zgr(F:Nat):Fs yb:=⟨107,[.v (.sl Zc),.v yI],[],[(.sl Zc),yI],[⟨.ret,[(0,.tup [.v Zc,.v .bool])],[],[Zc,.bool]⟩],λx=>Qx F x.1 x.2⟩
def Zbi:Fs yb:=Zgr yD
theorem Zau:Zbi.Ok:=fnO { still:=[5,7,8]} [] [Zyv] ⟨ZEj,ytt⟩
def Vg(F:Nat)(a0:(yL yB)):yO ((yL yB)):=
 if(apB 0 a0.length 1)=true then
  some a0
 else
 none
def Zir(F:Nat):Fs yb:=⟨183,[.sl true .u8],[],[(.sl .u8)],(zE (.sl .u8)),λx=>Vg F x⟩
def Zxw:Fs yb:=Zir yD
theorem ZnQ:Zxw.Ok:=fnO { own:=[5,7],still:=[2]} [] [] trivial
def ZmD(F:Nat):yO ((yL yB)):=
 some []
def Zdt(F:Nat):Fs yb:=⟨183,[.nil .u8],[],[],(zE (.sl .u8)),λx=>ZmD F⟩
def ZsJ:Fs yb:=Zdt yD
theorem ZjC:ZsJ.Ok:=fnO { own:=[5,7],still:=[2]} [] [] trivial
def ZeQ(F:Nat):Fs yb:=⟨183,[.v (.sl .u8)],[],[(.sl .u8)],(zE (.sl .u8)),λx=>Vg F x⟩
def Zgs:Fs yb:=ZeQ yD
theorem ZeR:Zgs.Ok:=Zsx (t:=.u8) (xs:=(zE (.sl .u8))) (MA:=λ(x:(yL yB))=>Vg yD x) (MB:=λ_=>ZmD yD) ZnQ ZjC rfl
def ZPe:HI:={ own:=[0,16,28],still:=[4,8,10,20]}
def ZfF(F:Nat)(a0:ZaK):yO (Bool):=
 if(decide (a0.1 >= 0))=true then
  if(decide (a0.1 < 4))=true then
   some (decide ((a0.2.1.length:Int)<=12))
  else
  some false
 else
 some false
def Zrx:Fs yb:=⟨199,[.v XB],[],[XB],(zE .bool),λx=>ZfF yD x⟩
theorem Zxx:Zrx.Ok:=fnO { still:=[2]} [] [] trivial
def Zdu(F:Nat)(s:((yL In)×Int×Int×Tx×(yL (VD×Bool)))):yO (((yL In)×Int×Int×Tx×(yL (VD×Bool)))⊕((Bool×Tx×(yL (VD×Bool)))⊕(Tx×(yL (VD×Bool))))):=
 if(decide (s.2.2.1 < s.2.1))=true then
  (idx s.1 s.2.2.1).bind λe315=>
  ZFa (Zzf s.2.2.2.2 e315.1) (λe316=>
   if e316=true then
    some (.inr (.inl (false,s.2.2.2.1,s.2.2.2.2)))
   else
   if(decide (e315.1.2 < 0))=true then
    some (.inr (.inl (false,s.2.2.2.1,s.2.2.2.2)))
   else
   if(decide (e315.1.2 >= 64))=true then
    some (.inr (.inl (false,s.2.2.2.1,s.2.2.2.2)))
   else
   (ZfF F e315.2).bind λo317=>
   if(!o317)=true then
    some (.inr (.inl (false,s.2.2.2.1,s.2.2.2.2)))
   else
   some (.inl (s.1,s.2.1,wi (s.2.2.1+1),s.2.2.2.1,ZBo s.2.2.2.2 e315.1 true))) (
   if(decide (e315.1.2 < 0))=true then
    some (.inr (.inl (false,s.2.2.2.1,s.2.2.2.2)))
   else
   if(decide (e315.1.2 >= 64))=true then
    some (.inr (.inl (false,s.2.2.2.1,s.2.2.2.2)))
   else
   (ZfF F e315.2).bind λo318=>
   if(!o318)=true then
    some (.inr (.inl (false,s.2.2.2.1,s.2.2.2.2)))
   else
   some (.inl (s.1,s.2.1,wi (s.2.2.1+1),s.2.2.2.1,ZBo s.2.2.2.2 e315.1 true)))
 else
 some (.inr (.inr (s.2.2.2.1,s.2.2.2.2)))
def ZtL:Lp:=⟨[(1,.ref 0 []),(3,.mp 1),(33,.v (.sl yIn)),(34,.v yI),(35,.v yI)],[.var (.v yTx) true,.map 241 WY .bool],[(.sl yIn),yI,yI,yTx,(Zt9 WY .bool)],[⟨.ret,[(2,.v .bool)],[.var (.v yTx) true,.map 241 WY .bool],[.bool,yTx,(Zt9 WY .bool)]⟩,⟨.exit 0,[(1,.ref 0 [])],[.var (.v yTx) true,.map 241 WY .bool],[yTx,(Zt9 WY .bool)]⟩],Zb (Zdu yD) yD⟩
theorem Zwq:ZtL.okA yb 116 0:=Zx { still:=[2,57,73,75,83]} [] [Zrx] ⟨Zxx,ytt⟩
def Zhn(F:Nat)(s:(Int×(yL Out)×Int×Int×Tx×(yL (VD×Bool)))):yO ((Int×(yL Out)×Int×Int×Tx×(yL (VD×Bool)))⊕((Bool×Tx×(yL (VD×Bool)))⊕(Tx×(yL (VD×Bool))))):=
 if(decide (s.2.2.2.1 < s.2.2.1))=true then
  (idx s.2.1 s.2.2.2.1).bind λe322=>
  (ZkR F s.1 e322.1).bind λo323=>
  if(!o323.2)=true then
   some (.inr (.inl (false,s.2.2.2.2.1,s.2.2.2.2.2)))
  else
  (XV F e322.2).bind λo324=>
  if(!o324)=true then
   some (.inr (.inl (false,s.2.2.2.2.1,s.2.2.2.2.2)))
  else
  some (.inl (o323.1,s.2.1,s.2.2.1,wi (s.2.2.2.1+1),s.2.2.2.2.1,s.2.2.2.2.2))
 else
 some (.inr (.inr (s.2.2.2.2.1,s.2.2.2.2.2)))
def ZtM:Lp:=⟨[(6,.v yI),(66,.v (.sl ZR)),(67,.v yI),(68,.v yI)],[.var (.v yTx) true,.map 241 WY .bool],[yI,(.sl ZR),yI,yI,yTx,(Zt9 WY .bool)],[⟨.ret,[(2,.v .bool)],[.var (.v yTx) true,.map 241 WY .bool],[.bool,yTx,(Zt9 WY .bool)]⟩,⟨.exit 2,[],[.var (.v yTx) true,.map 241 WY .bool],[yTx,(Zt9 WY .bool)]⟩],Zb (Zhn yD) yD⟩
theorem Zwr:ZtM.okA yb 116 1:=Zx { still:=[2,57,73,75,83]} [] [Zsy,ZbK] ⟨Zwa,ZaD,ytt⟩
def ZkZ(F:Nat)(a0:Tx):yO (Bool):=
 if(decide ((a0.1.length:Int) < 1))=true then
  some false
 else
 if(decide ((a0.1.length:Int) > 64))=true then
  some false
 else
 if(decide ((a0.2.1.length:Int) > 64))=true then
  some false
 else
 if(decide (a0.2.2 < 0))=true then
  some false
 else
 (Zb (Zdu F) F (a0.1,(a0.1.length:Int),0,a0,([]:yL (VD×Bool)))).bind λo319=>
 match o319 with
 |.inl o320=>
  some o320.1
 |.inr o321=>
  (Zb (Zhn F) F (0,o321.1.2.1,(o321.1.2.1.length:Int),0,o321.1,o321.2)).bind λo325=>
  match o325 with
  |.inl o326=>
   some o326.1
  |.inr o327=>
   some true
def Zqw:Fs yb:=⟨116,[.v yTx],[],[yTx],(zE .bool),λx=>ZkZ yD x⟩
theorem ZtN:Zqw.Ok:=fnO { still:=[2,57,73,75,83]} [(0,ZtL),(1,ZtM)] [] trivial ⟨Zwq,Zwr,ytt⟩
def ZnR(F:Nat):yO ((yL yV)):=
 some [1779033703,3144134277,1013904242,2773480762,1359893119,2600822924,528734635,1541459225]
def Zry:Fs yb:=⟨248,[],[],[],(zE (.arr 8 .u32)),λx=>ZnR yD⟩
theorem Zxy:Zry.Ok:=fnO {} [] [] trivial
def ZX(F:Nat)(a0:yV)(a1:Int):yO (yV):=
 let y329:yV:=ZcO a0 (min (((w64 a1)&&&31).toNat:Int).toNat 32);let y330:yV:=ZgC a0 (min ((32 - ((w64 a1)&&&31)).toNat:Int).toNat 32)
 some (y329|||y330)
def Zb1:Fs yb:=⟨270,[.v .u32,.v yI],[],[.u32,yI],(zE .u32),λx=>ZX yD x.1 x.2⟩
theorem ZfG:Zb1.Ok:=fnO { still:=[4]} [] [] trivial
def Zho(F:Nat)(a0:(yL yB)):yO (yV):=
 (idx a0 0).bind λe331=>
 (idx a0 1).bind λe332=>
 let y333:yV:=(ZcO (ybp e331.toNat) 24)|||(ZcO (ybp e332.toNat) 16)
 (idx a0 2).bind λe334=>
 (idx a0 3).bind λe335=>
 let y336:yV:=(y333|||(ZcO (ybp e334.toNat) 8))|||(ybp e335.toNat)
 some y336
def ZpL:Fs yb:=⟨278,[.v (.sl .u8)],[],[(.sl .u8)],(zE .u32),λx=>Zho yD x⟩
theorem Zws:ZpL.Ok:=fnO { still:=[2]} [] [] trivial
def ZaR(F:Nat)(s:((yL yB)×Int×(yL yV))):yO (((yL yB)×Int×(yL yV))⊕(yL yV)):=
 if(decide (s.2.1 < 64))=true then
  if(decide (s.2.1 < 16))=true then
   if(ZaE s.1.length (some (wi (4*s.2.1))) none)=true then
    (Zho F (s.1.drop ((wi (4*s.2.1)).toNat))).bind λo337=>
    if(inB s.2.1 64)=true then
     (s.2.2[s.2.1.toNat]?).bind λe338=>
     some (.inl (s.1,wi (s.2.1+1),s.2.2.set s.2.1.toNat o337))
    else
    none
   else
   none
  else
  if(inB (wi (s.2.1 - 15)) 64)=true then
   (s.2.2[(wi (s.2.1 - 15)).toNat]?).bind λe339=>
   if(inB (wi (s.2.1 - 2)) 64)=true then
    (s.2.2[(wi (s.2.1 - 2)).toNat]?).bind λe340=>
    (ZX F e339 (-7)).bind λo341=>
    (ZX F e339 (-18)).bind λo342=>
    (ZX F e340 (-17)).bind λo343=>
    (ZX F e340 (-19)).bind λo344=>
    if(inB (wi (s.2.1 - 16)) 64)=true then
     (s.2.2[(wi (s.2.1 - 16)).toNat]?).bind λe345=>
     if(inB (wi (s.2.1 - 7)) 64)=true then
      (s.2.2[(wi (s.2.1 - 7)).toNat]?).bind λe346=>
      let y347:yV:=(e345+((o341^^^o342)^^^(ZgC e339 3)))+e346
      if(inB s.2.1 64)=true then
       (s.2.2[s.2.1.toNat]?).bind λe348=>
       let y349:(yL yV):=s.2.2.set s.2.1.toNat (y347+((o343^^^o344)^^^(ZgC e340 10)))
       some (.inl (s.1,wi (s.2.1+1),y349))
      else
      none
     else
     none
    else
    none
   else
   none
  else
  none
 else
 some (.inr s.2.2)
def Zk0:Lp:=⟨[(0,.v (.sl .u8)),(2,.ref 0 []),(8,.v yI)],[.var (.v (.arr 64 .u32)) true],[(.sl .u8),yI,(.arr 64 .u32)],[⟨.exit 0,[(2,.ref 0 [])],[.var (.v (.arr 64 .u32)) true],[(.arr 64 .u32)]⟩],Zb (ZaR yD) yD⟩
theorem Zo6:Zk0.okA yb 268 0:=Zx { still:=[17,28,30,36,38]} [] [ZpL,Zb1] ⟨Zws,ZfG,ytt⟩
def Zdv(F:Nat)(a0:(yL yB)):yO ((yL yV)):=
 (Zb (ZaR F) F (a0,0,[0,0,0,0,0,0,0,0,0,0,0,0,0,0,0,0,0,0,0,0,0,0,0,0,0,0,0,0,0,0,0,0,0,0,0,0,0,0,0,0,0,0,0,0,0,0,0,0,0,0,0,0,0,0,0,0,0,0,0,0,0,0,0,0])).bind λo350=>
 some o350
def ZmE:Fs yb:=⟨268,[.v (.sl .u8)],[],[(.sl .u8)],(zE (.arr 64 .u32)),λx=>Zdv yD x⟩
theorem ZsK:ZmE.Ok:=fnO { still:=[17,28,30,36,38]} [(0,Zk0)] [] trivial ⟨Zo6,ytt⟩
def ZnS(F:Nat):yO ((yL yV)):=
 some [1116352408,1899447441,3049323471,3921009573,961987163,1508970993,2453635748,2870763221,3624381080,310598401,607225278,1426881987,1925078388,2162078206,2614888103,3248222580,3835390401,4022224774,264347078,604807628,770255983,1249150122,1555081692,1996064986,2554220882,2821834349,2952996808,3210313671,3336571891,3584528711,113926993,338241895,666307205,773529912,1294757372,1396182291,1695183700,1986661051,2177026350,2456956037,2730485921,2820302411,3259730800,3345764771,3516065817,3600352804,4094571909,275423344,430227734,506948616,659060556,883997877,958139571,1322822218,1537002063,1747873779,1955562222,2024104815,2227730452,2361852424,2428436474,2756734187,3204031479,3329325298]
def Zrz:Fs yb:=⟨269,[],[],[],(zE (.arr 64 .u32)),λx=>ZnS yD⟩
theorem Zxz:Zrz.Ok:=fnO {} [] [] trivial
def Zac(F:Nat)(s:(Int×(yL yV)×(yL yV)×(yL yV)×(yL yV)×(yL yV))):yO ((Int×(yL yV)×(yL yV)×(yL yV)×(yL yV)×(yL yV))⊕((yL yV)×(yL yV)×(yL yV)×(yL yV)×(yL yV))):=
 if(decide (s.1 < 64))=true then
  (s.2.2.2.2.2[4]?).bind λe353=>
  (ZX F e353 (-6)).bind λo354=>
  (s.2.2.2.2.2[4]?).bind λe355=>
  (ZX F e355 (-11)).bind λo356=>
  (s.2.2.2.2.2[4]?).bind λe357=>
  (ZX F e357 (-25)).bind λo358=>
  (s.2.2.2.2.2[7]?).bind λe359=>
  (s.2.2.2.2.2[6]?).bind λe360=>
  (s.2.2.2.2.2[4]?).bind λe361=>
  (s.2.2.2.2.2[5]?).bind λe362=>
  (s.2.2.2.2.2[6]?).bind λe363=>
  let y364:yV:=(e359+((o354^^^o356)^^^o358))+(e360^^^(e361&&&(e362^^^e363)))
  if(inB s.1 64)=true then
   (s.2.2.2.2.1[s.1.toNat]?).bind λe365=>
   if(inB s.1 64)=true then
    (s.2.2.2.1[s.1.toNat]?).bind λe366=>
    (s.2.2.2.2.2[0]?).bind λe367=>
    (ZX F e367 (-2)).bind λo368=>
    (s.2.2.2.2.2[0]?).bind λe369=>
    (ZX F e369 (-13)).bind λo370=>
    (s.2.2.2.2.2[0]?).bind λe371=>
    (ZX F e371 (-22)).bind λo372=>
    (s.2.2.2.2.2[0]?).bind λe373=>
    (s.2.2.2.2.2[1]?).bind λe374=>
    (s.2.2.2.2.2[2]?).bind λe375=>
    (s.2.2.2.2.2[0]?).bind λe376=>
    (s.2.2.2.2.2[1]?).bind λe377=>
    let y378:yV:=((y364+e365)+e366)+((o368^^^o370)^^^o372);let y379:yV:=y378+((e373&&&e374)|||(e375&&&(e376|||e377)))
    (s.2.2.2.2.2[0]?).bind λe380=>
    (s.2.2.2.2.2[1]?).bind λe381=>
    (s.2.2.2.2.2[2]?).bind λe382=>
    (s.2.2.2.2.2[3]?).bind λe383=>
    (s.2.2.2.2.2[4]?).bind λe384=>
    (s.2.2.2.2.2[5]?).bind λe385=>
    (s.2.2.2.2.2[6]?).bind λe386=>
    some (.inl (wi (s.1+1),s.2.1,s.2.2.1,s.2.2.2.1,s.2.2.2.2.1,[y379,e380,e381,e382,e383+((y364+e365)+e366),e384,e385,e386]))
   else
   none
  else
  none
 else
 some (.inr (s.2.1,s.2.2.1,s.2.2.2.1,s.2.2.2.2.1,s.2.2.2.2.2))
def ZLk:yL ESh:=[.var (.v (.arr 8 .u32)) true,.var (.v (.arr 8 .u32)) true,.var (.v (.arr 64 .u32)) true,.var (.v (.arr 64 .u32)) true,.var (.v (.arr 8 .u32)) true]
def ZjD:Lp:=⟨[(2,.ref 0 []),(4,.ref 1 []),(5,.ref 2 []),(6,.ref 3 []),(7,.ref 4 []),(18,.v yI)],ZLk,[yI,(.arr 8 .u32),(.arr 8 .u32),(.arr 64 .u32),(.arr 64 .u32),(.arr 8 .u32)],[⟨.exit 0,[(2,.ref 0 []),(4,.ref 1 []),(7,.ref 4 [])],ZLk,[(.arr 8 .u32),(.arr 8 .u32),(.arr 64 .u32),(.arr 64 .u32),(.arr 8 .u32)]⟩],Zb (Zac yD) yD⟩
def ZNf:HI:={ still:=[14,22,25,29,57,60,64]}
theorem ZnT:ZjD.okA yb 249 0:=Zx ZNf [] [Zb1] ⟨ZfG,ytt⟩
def Zad(F:Nat)(s:(Int×(yL yV)×(yL yV)×(yL yV)×(yL yV)×(yL yV))):yO ((Int×(yL yV)×(yL yV)×(yL yV)×(yL yV)×(yL yV))⊕((yL yV)×(yL yV)×(yL yV)×(yL yV)×(yL yV))):=
 if(decide (s.1 < 8))=true then
  if(inB s.1 8)=true then
   (s.2.2.2.2.2[s.1.toNat]?).bind λe388=>
   if(inB s.1 8)=true then
    (s.2.1[s.1.toNat]?).bind λe389=>
    if(inB s.1 8)=true then
     (s.2.2.2.2.2[s.1.toNat]?).bind λe390=>
     some (.inl (wi (s.1+1),s.2.1,s.2.2.1,s.2.2.2.1,s.2.2.2.2.1,s.2.2.2.2.2.set s.1.toNat (e388+e389)))
    else
    none
   else
   none
  else
  none
 else
 some (.inr (s.2.1,s.2.2.1,s.2.2.2.1,s.2.2.2.2.1,s.2.2.2.2.2))
def ZjE:Lp:=⟨[(2,.ref 0 []),(4,.ref 1 []),(7,.ref 4 []),(104,.v yI)],ZLk,[yI,(.arr 8 .u32),(.arr 8 .u32),(.arr 64 .u32),(.arr 64 .u32),(.arr 8 .u32)],[⟨.exit 2,[(4,.ref 1 []),(7,.ref 4 [])],ZLk,[(.arr 8 .u32),(.arr 8 .u32),(.arr 64 .u32),(.arr 64 .u32),(.arr 8 .u32)]⟩],Zb (Zad yD) yD⟩
theorem ZnU:ZjE.okA yb 249 1:=Zx ZNf [] [] trivial
def Zav(F:Nat)(a0:(yL yV))(a1:(yL yB)):yO ((yL yV)):=
 (Zdv F a1).bind λo351=>
 (ZnS F).bind λo352=>
 (Zb (Zac F) F (0,a0,[0,0,0,0,0,0,0,0],o351,o352,a0)).bind λo387=>
 (Zb (Zad F) F (0,o387.1,o387.2.1,o387.2.2.1,o387.2.2.2.1,o387.2.2.2.2)).bind λo391=>
 some o391.2.2.2.2
def ZeS:Fs yb:=⟨249,[.v (.arr 8 .u32),.v (.sl .u8)],[],[(.arr 8 .u32),(.sl .u8)],(zE (.arr 8 .u32)),λx=>Zav yD x.1 x.2⟩
theorem ZjF:ZeS.Ok:=fnO ZNf [(0,ZjD),(1,ZjE)] [ZmE,Zrz] ⟨ZsK,Zxz,ytt⟩ ⟨ZnT,ZnU,ytt⟩
def YB(F:Nat)(a0:(yL yB)):yO ((yL yB)):=
 if(apB 0 a0.length 1)=true then
  some a0
 else
 none
def Zhp:Fs yb:=⟨239,[.sl true .u8],[],[(.sl .u8)],[⟨.ret,[(0,.own 0 .u8)],[.log .u8 5],[(.sl .u8)]⟩],λx=>YB yD x⟩
theorem Zgt:Zhp.Ok:=fnO { own:=[2,5,7]} [] [] trivial
def Zbj(F:Nat):yO ((yL yB)):=
 some []
def Zhq:Fs yb:=⟨239,[.nil .u8],[],[],[⟨.ret,[(0,.own 0 .u8)],[.log .u8 5],[(.sl .u8)]⟩],λx=>Zbj yD⟩
theorem Zgu:Zhq.Ok:=fnO { own:=[2,5,7]} [] [] trivial
def Q7:Fs yb:=⟨239,[.v (.sl .u8)],[],[(.sl .u8)],[⟨.ret,[(0,.own 0 .u8)],[.log .u8 5],[(.sl .u8)]⟩],λx=>YB yD x⟩
theorem ZeT:Q7.Ok:=Zsx (t:=.u8) (xs:=[⟨.ret,[(0,.own 0 .u8)],[.log .u8 5],[(.sl .u8)]⟩]) (MA:=λ(x:(yL yB))=>YB yD x) (MB:=λ_=>Zbj yD) Zgt Zgu rfl
def Zfd(F:Nat)(s:((yL yB)×(yL yB)×(yL yB))):yO (((yL yB)×(yL yB)×(yL yB))⊕((yL yB)×(yL yB)×(yL yB))):=
 if((yav (s.2.2.length:Int) 64)!=56)=true then
  if(apB s.2.2.length 1 1)=true then
   some (.inl (s.1,s.2.1,s.2.2++([0]:yL yB)))
  else
  none
 else
 some (.inr (s.1,s.2.1,s.2.2))
abbrev zR:List ESh:=[.var (.v (.arr 32 .u8)) true,.log .u8 5]
def ZrA:Lp:=⟨[(0,.v (.sl .u8)),(2,.ref 0 []),(3,.own 1 .u8)],zR,[(.sl .u8),(.arr 32 .u8),(.sl .u8)],[⟨.exit 0,[(0,.v (.sl .u8)),(2,.ref 0 []),(3,.own 1 .u8)],zR,[(.sl .u8),(.arr 32 .u8),(.sl .u8)]⟩],Zb (Zfd yD) yD⟩
def ZJr:HI:={ own:=[3,14,16,21,23,24,28,43],still:=[13,24,27,35,37,44,46]}
theorem Zuh:ZrA.okA yb 202 0:=Zx ZJr [] [] trivial
def ZbL(F:Nat)(s:(Int×Int×(yL yB)×(yL yB))):yO ((Int×Int×(yL yB)×(yL yB))⊕((yL yB)×(yL yB))):=
 if(decide (s.2.1 >= 0))=true then
  if(decide (0<=s.2.1))=true then
   if(apB s.2.2.1.length 1 1)=true then
    let y395:(yL yB):=s.2.2.1++([w8 (Int.fdiv s.1 (2 ^ (min s.2.1.toNat 64)))]:yL yB)
    some (.inl (s.1,wi (s.2.1 - 8),y395,s.2.2.2))
   else
   none
  else
  none
 else
 some (.inr (s.2.2.1,s.2.2.2))
def ZmF:Lp:=⟨[(0,.own 0 .u8),(1,.v yI),(5,.v yI)],[.log .u8 5,.log .u8 5],[yI,yI,(.sl .u8),(.sl .u8)],[⟨.exit 0,[(0,.own 0 .u8)],[.log .u8 5,.log .u8 5],[(.sl .u8),(.sl .u8)]⟩],Zb (ZbL yD) yD⟩
theorem Zqx:ZmF.okA yb 201 0:=Zx { own:=[0,4,10,16,17]} [] [] trivial
def Vr(F:Nat)(a1:Int)(s0:(yL yB)):yO ((yL yB)):=
 (Zb (ZbL F) F (a1,56,s0,[])).bind λo396=>
 some o396.1
def Zbk:Fs yb:=⟨201,[.own 0 .u8,.v yI],[.log .u8 5],[yI,(.sl .u8)],[⟨.ret,[(0,.own 0 .u8)],[.log .u8 5],[(.sl .u8)]⟩],λx=>Vr yD x.1 x.2⟩
theorem Zgv:Zbk.Ok:=fnO { own:=[0,4,10,16,17]} [(0,ZmF)] [] trivial ⟨Zqx,ytt⟩
def Zfe(F:Nat)(s:((yL yB)×(yL yB)×(yL yB)×(yL yV))):yO (((yL yB)×(yL yB)×(yL yB)×(yL yV))⊕((yL yB)×(yL yB)×(yL yV))):=
 if(decide ((s.1.length:Int) >= 64))=true then
  if(ZaE s.1.length none (some 64))=true then
   (Zav F s.2.2.2 (s.1.take 64)).bind λo399=>
   if(ZaE s.1.length (some 64) none)=true then
    some (.inl (s.1.drop 64,s.2.1,s.2.2.1,o399))
   else
   none
  else
  none
 else
 some (.inr (s.2.1,s.2.2.1,s.2.2.2))
abbrev zM:List ESh:=[.var (.v (.arr 32 .u8)) true,.log .u8 5,.var (.v (.arr 8 .u32)) true]
def ZrB:Lp:=⟨[(0,.v (.sl .u8)),(2,.ref 0 []),(3,.own 1 .u8),(4,.ref 2 [])],zM,[(.sl .u8),(.arr 32 .u8),(.sl .u8),(.arr 8 .u32)],[⟨.exit 2,[(2,.ref 0 []),(3,.own 1 .u8),(4,.ref 2 [])],zM,[(.arr 32 .u8),(.sl .u8),(.arr 8 .u32)]⟩],Zb (Zfe yD) yD⟩
theorem Zui:ZrB.okA yb 202 1:=Zx ZJr [] [ZeS] ⟨ZjF,ytt⟩
def Zff(F:Nat)(s:((yL yB)×(yL yB)×(yL yB)×(yL yV))):yO (((yL yB)×(yL yB)×(yL yB)×(yL yV))⊕((yL yB)×(yL yB)×(yL yV))):=
 if(decide ((s.1.length:Int) > 0))=true then
  if(ZaE s.1.length none (some 64))=true then
   (Zav F s.2.2.2 (s.1.take 64)).bind λo402=>
   if(ZaE s.1.length (some 64) none)=true then
    some (.inl (s.1.drop 64,s.2.1,s.2.2.1,o402))
   else
   none
  else
  none
 else
 some (.inr (s.2.1,s.2.2.1,s.2.2.2))
def ZrC:Lp:=⟨[(2,.ref 0 []),(3,.v (.sl .u8)),(4,.ref 2 [])],zM,[(.sl .u8),(.arr 32 .u8),(.sl .u8),(.arr 8 .u32)],[⟨.exit 4,[(2,.ref 0 []),(4,.ref 2 [])],zM,[(.arr 32 .u8),(.sl .u8),(.arr 8 .u32)]⟩],Zb (Zff yD) yD⟩
theorem Zuj:ZrC.okA yb 202 2:=Zx ZJr [] [ZeS] ⟨ZjF,ytt⟩
def Zfg(F:Nat)(s:(Int×(yL yB)×(yL yB)×(yL yV))):yO ((Int×(yL yB)×(yL yB)×(yL yV))⊕((yL yB)×(yL yB)×(yL yV))):=
 if(decide (s.1 < 32))=true then
  if(inB (wi (Int.tdiv s.1 4)) 8)=true then
   (s.2.2.2[(wi (Int.tdiv s.1 4)).toNat]?).bind λe404=>
   if(decide (0<=wi (24 - (wi (8*(yav s.1 4))))))=true then
    let y405:yV:=ZgC e404 (min (wi (24 - (wi (8*(yav s.1 4))))).toNat 32)
    if(inB s.1 32)=true then
     (s.2.1[s.1.toNat]?).bind λe406=>
     some (.inl (wi (s.1+1),s.2.1.set s.1.toNat (w8 (y405.toNat:Int)),s.2.2.1,s.2.2.2))
    else
    none
   else
   none
  else
  none
 else
 some (.inr (s.2.1,s.2.2.1,s.2.2.2))
def ZrD:Lp:=⟨[(2,.ref 0 []),(4,.ref 2 []),(48,.v yI)],zM,[yI,(.arr 32 .u8),(.sl .u8),(.arr 8 .u32)],[⟨.exit 6,[(2,.ref 0 [])],zM,[(.arr 32 .u8),(.sl .u8),(.arr 8 .u32)]⟩],Zb (Zfg yD) yD⟩
theorem Zuk:ZrD.okA yb 202 3:=Zx ZJr [] [] trivial
def Zis(F:Nat)(a0:(yL yB)):yO ((yL yB)):=
 let y392:Int:=wi ((a0.length:Int) - (yav (a0.length:Int) 64))
 if(ZaE a0.length (some y392) none)=true then
  (YB F (a0.drop y392.toNat)).bind λo393=>
  if(apB o393.length 1 1)=true then
   (Zb (Zfd F) F (a0,yzz,o393++([128]:yL yB))).bind λo394=>
   (Vr F (wi (8*(o394.1.length:Int))) o394.2.2).bind λo397=>
   (ZnR F).bind λo398=>
   (Zb (Zfe F) F (o394.1,o394.2.1,o397,o398)).bind λo400=>
   (Zb (Zff F) F (o400.2.1,o400.1,o400.2.1,o400.2.2)).bind λo403=>
   (Zb (Zfg F) F (0,o403.1,o403.2.1,o403.2.2)).bind λo407=>
   some o407.1
  else
  none
 else
 none
def ZlM(F:Nat):Fs yb:=⟨202,[.v (.sl .u8)],[],[(.sl .u8)],(zE (.arr 32 .u8)),λx=>Zis F x⟩
def ZCj:Fs yb:=ZlM yD
theorem ZAh:ZCj.Ok:=fnO ZJr [(0,ZrA),(1,ZrB),(2,ZrC),(3,ZrD)] [Zbk,Q7,Zry] ⟨Zgv,ZeT,Zxy,ytt⟩ ⟨Zuh,Zui,Zuj,Zuk,ytt⟩
end
end Go.Proofs.YtdhclndplbopgaaGreat
end
section
namespace Go.Sha
open Go.Ev
noncomputable def Zcd{α:Type}(n:Nat)(k:Nat->α):α:=Nat.rec (motive:=λ_=>α) (k 0) (λm _=>k (Nat.succ m)) n
theorem WO{α:Type}(n:Nat)(k:Nat->α):Zcd n k=k n:=by cases n <;> rfl
def dbl(x:Nat):Nat:=Nat.mul x 4294967297
def s0(x:Nat):Nat:=Nat.xor (Nat.xor (yag (dbl x) 7) (yag (dbl x) 18)) (yag x 3)
def s1(x:Nat):Nat:=Nat.xor (Nat.xor (yag (dbl x) 17) (yag (dbl x) 19)) (yag x 10)
def S0(x:Nat):Nat:=Nat.xor (Nat.xor (yag (dbl x) 2) (yag (dbl x) 13)) (yag (dbl x) 22)
def S1(x:Nat):Nat:=Nat.xor (Nat.xor (yag (dbl x) 6) (yag (dbl x) 11)) (yag (dbl x) 25)
def ch(e f g:Nat):Nat:=Nat.xor g (Nat.land e (Nat.xor f g))
def mj(a b c:Nat):Nat:=Nat.lor (Nat.land a b) (Nat.land c (Nat.lor a b))
def lo(x:Nat):Nat:=Nat.mod x 4294967296
def kw(W:Nat):Nat:=lo (yr (yr (yr (yag W 480) (s0 (lo (yag W 448)))) (lo (yag W 192))) (s1 (lo (yag W 32))))
def kn(W:Nat):Nat:=Nat.mod (yr (Nat.mul W 4294967296) (kw W)) (Nat.pow 2 512)
noncomputable def kst(k:Nat)(ih:Nat->Nat->Nat->Nat->Nat->Nat->Nat->Nat->Nat->Nat)(W a b c d e f g h:Nat):Nat:=
 Zcd (yr (yr (yr (yr h (S1 e)) (ch e f g)) k) (yag W 480)) λt=>
     Zcd (lo (yr (yr t (S0 a)) (mj a b c))) λa'=>Zcd (lo (yr d t)) λe'=>Zcd (kn W) λW'=>ih W' a' a b c e' e f g
noncomputable def kgo(ks:yL Nat)(K:Nat->Nat->Nat->Nat->Nat->Nat->Nat->Nat->Nat):Nat->Nat->Nat->Nat->Nat->Nat->Nat->Nat->Nat->Nat:=
 List.rec (motive:=λ_=>Nat->Nat->Nat->Nat->Nat->Nat->Nat->Nat->Nat->Nat) (λ_=>K) (λk _ ih=>kst k ih) ks
def ks:yL Nat:=[1116352408,1899447441,3049323471,3921009573,961987163,1508970993,2453635748,2870763221,3624381080,310598401,607225278,1426881987,1925078388,2162078206,2614888103,3248222580,3835390401,4022224774,264347078,604807628,770255983,1249150122,1555081692,1996064986,2554220882,2821834349,2952996808,3210313671,3336571891,3584528711,113926993,338241895,666307205,773529912,1294757372,1396182291,1695183700,1986661051,2177026350,2456956037,2730485921,2820302411,3259730800,3345764771,3516065817,3600352804,4094571909,275423344,430227734,506948616,659060556,883997877,958139571,1322822218,1537002063,1747873779,1955562222,2024104815,2227730452,2361852424,2428436474,2756734187,3204031479,3329325298]
def w32(H i:Nat):Nat:=lo (yag H i)
def cat(H x:Nat):Nat:=yr (Nat.mul H 4294967296) (lo x)
noncomputable def ZLl(H B:Nat):Nat:=
 Zcd (w32 H 224) λa=>Zcd (w32 H 192) λb=>Zcd (w32 H 160) λc=>Zcd (w32 H 128) λd=>Zcd (w32 H 96) λe=>Zcd (w32 H 64) λf=>Zcd (w32 H 32) λg=>Zcd (w32 H 0) λh=>
  kgo ks (λa' b' c' d' e' f' g' h'=>cat (cat (cat (cat (cat (cat (cat (cat 0 (yr a' a)) (yr b' b)) (yr c' c)) (yr d' d)) (yr e' e)) (yr f' f)) (yr g' g)) (yr h' h)) B a b c d e f g h
noncomputable def pk(l:yL Nat)(n:Nat):Nat:=List.rec (motive:=λ_=>Nat->Nat) (λn=>n) (λx _ ih n=>Zcd (yr (Nat.mul n 256) x) ih) l n
noncomputable def ZNg(n:Nat)(l:yL Nat)(H:Nat):Nat:=
 Nat.rec (motive:=λ_=>yL Nat->Nat->Nat) (λ_ H=>H) (λ_ ih l H=>Zcd (ZLl H (pk (l.take 64) 0)) λH'=>ih (l.drop 64) H') n l H
noncomputable def outs(H:Nat)(l:yL Nat):yL yB:=List.rec (motive:=λ_=>yL yB) [] (λs _ ih=>Zcd (Nat.mod (yag H s) 256) λx=>yas x::ih) l
def ZEk:yL Nat:=[248,240,232,224,216,208,200,192,184,176,168,160,152,144,136,128,120,112,104,96,88,80,72,64,56,48,40,32,24,16,8,0]
def be8(n:Nat):yL Nat:=[n / 2 ^ 56 % 256,n / 2 ^ 48 % 256,n / 2 ^ 40 % 256,n / 2 ^ 32 % 256,n / 2 ^ 24 % 256,n / 2 ^ 16 % 256,n / 2 ^ 8 % 256,n % 256]
def zs(n:Nat):Nat:=(119 - n % 64) % 64
def H0:Nat:=cat (cat (cat (cat (cat (cat (cat (cat 0 1779033703) 3144134277) 1013904242) 2773480762) 1359893119) 2600822924) 528734635) 1541459225
noncomputable def sha(l:yL yB):yL yB:=
 Zcd l.length λn=>Zcd (ZNg (Nat.div (yr n 72) 64) (l.map yak++(128::(yy (zs n) 0++be8 (8*n)))) H0) λH=>outs H ZEk
theorem ZbT(x y:yV):(x+y).toNat=lo (x.toNat+y.toNat):=by rw[UInt32.toNat_add];rfl
theorem ZpM(x y:yV):(x^^^y).toNat=Nat.xor x.toNat y.toNat:=UInt32.toNat_xor ..
theorem ZJs(x y:yV):(x&&&y).toNat=Nat.land x.toNat y.toNat:=UInt32.toNat_and ..
theorem ZAi(x y:yV):(x|||y).toNat=Nat.lor x.toNat y.toNat:=UInt32.toNat_or ..
theorem ZNh(x:yV):x.toNat < 4294967296:=x.toNat_lt
theorem Zyw(x:yV)(n:Nat):(ZgC x n).toNat=yag x.toNat n:=by
 unfold ZgC;rw[UInt32.toNat_ofNat',show yag x.toNat n=x.toNat >>> n from rfl,ydd]
 exact yaf (ycz (Nat.div_le_self _ _) (ZNh x))
theorem ZL3(x:Nat):lo x < 4294967296:=ybc _ (by omega)
theorem Zd8{x:Nat}(h:x < 4294967296):lo x=x:=yaf h
theorem ZL4(x:yV){n k:Nat}(h:n+k=32)(hn:0 < n):(ZcO x k|||ZgC x n).toNat=lo (yag (dbl x.toNat) n):=by
 rw[ZAi,Zyw];unfold ZcO;have hx:=ZNh x;generalize x.toNat=m at hx;have hp:2 ^ n*2 ^ k=4294967296:=by rw[<-Nat.pow_add,h]
 rw[UInt32.toNat_ofNat',show yag m n=m >>> n from rfl,ydd,show yag (dbl m) n=(dbl m) >>> n from rfl,ydd]
 have e1:m*2 ^ k % 2 ^ 32=2 ^ k*(m % 2 ^ n):=by
  rw[show(2:Nat) ^ 32=2 ^ n*2 ^ k from hp.symm,Nat.mul_mod_mul_right]
  exact ybf ..
 have hd:m / 2 ^ n < 2 ^ k:=by
  rw[Nat.div_lt_iff_lt_mul (Nat.two_pow_pos n),ybf,hp];exact hx
 rw[e1,show Nat.lor (2 ^ k*(m % 2 ^ n)) (m / 2 ^ n)=2 ^ k*(m % 2 ^ n)|||m / 2 ^ n from rfl, <-ycy hd]
 have e2:dbl m=2 ^ n*(m*2 ^ k)+m:=by
  unfold dbl;rw[Nat.mul_left_comm,hp,show Nat.mul m 4294967297=m*4294967297 from rfl]
  omega
 rw[e2,Nat.mul_add_div (Nat.two_pow_pos n)];unfold lo;rw[show Nat.mod (m*2 ^ k+m / 2 ^ n) 4294967296=(m*2 ^ k+m / 2 ^ n) % 4294967296 from rfl,Nat.add_mod,show m*2 ^ k % 4294967296=2 ^ k*(m % 2 ^ n) from e1,yaf (a:=m / 2 ^ n) (b:=4294967296) (by rw[<-hp];exact Nat.lt_of_lt_of_le hd (Nat.le_mul_of_pos_left _ (Nat.two_pow_pos n)))]
 refine(yaf ?_).symm;have hm:m % 2 ^ n < 2 ^ n:=ybc _ (Nat.two_pow_pos n)
 calc 2 ^ k*(m % 2 ^ n)+m / 2 ^ n < 2 ^ k*(m % 2 ^ n)+2 ^ k:=by omega
  _=2 ^ k*(m % 2 ^ n+1):=by rw[Nat.mul_add,Nat.mul_one]
  _<=2 ^ k*2 ^ n:=Nat.mul_le_mul_left _ hm
  _=4294967296:=by rw[ybf,hp]
theorem ZnV(x y:Nat):lo (Nat.xor x y)=Nat.xor (lo x) (lo y):=Nat.xor_mod_two_pow (n:=32)
theorem ZJt(x:yV)(n:Nat):lo (yag x.toNat n)=yag x.toNat n:=by
 rw[<-Zyw];exact Zd8 (ZNh _)
theorem ZOk(x:yV){a b:yV}(ha:a.toNat=lo (yag (dbl x.toNat) 7))(hb:b.toNat=lo (yag (dbl x.toNat) 18)):((a^^^b)^^^ZgC x 3).toNat=lo (s0 x.toNat):=by
 unfold s0;rw[ZpM,ZpM,Zyw,ha,hb,ZnV,ZnV,ZJt]
theorem ZOl(x:yV){a b:yV}(ha:a.toNat=lo (yag (dbl x.toNat) 17))(hb:b.toNat=lo (yag (dbl x.toNat) 19)):((a^^^b)^^^ZgC x 10).toNat=lo (s1 x.toNat):=by
 unfold s1;rw[ZpM,ZpM,Zyw,ha,hb,ZnV,ZnV,ZJt]
theorem ZOm(x:yV){a b c:yV}(ha:a.toNat=lo (yag (dbl x.toNat) 2))(hb:b.toNat=lo (yag (dbl x.toNat) 13))(hc:c.toNat=lo (yag (dbl x.toNat) 22)):((a^^^b)^^^c).toNat=lo (S0 x.toNat):=by
 unfold S0;rw[ZpM,ZpM,ha,hb,hc,ZnV,ZnV]
theorem ZOn(x:yV){a b c:yV}(ha:a.toNat=lo (yag (dbl x.toNat) 6))(hb:b.toNat=lo (yag (dbl x.toNat) 11))(hc:c.toNat=lo (yag (dbl x.toNat) 25)):((a^^^b)^^^c).toNat=lo (S1 x.toNat):=by
 unfold S1;rw[ZpM,ZpM,ha,hb,hc,ZnV,ZnV]
theorem ZOo(e f g:yV):(g^^^(e&&&(f^^^g))).toNat=ch e.toNat f.toNat g.toNat:=by
 unfold ch;rw[ZpM,ZJs,ZpM]
theorem ZOp(a b c:yV):((a&&&b)|||(c&&&(a|||b))).toNat=mj a.toNat b.toNat c.toNat:=by
 unfold mj;rw[ZAi,ZJs,ZJs,ZAi]
theorem ZOq(a b c d:Nat):lo (lo (lo (a+lo b)+c)+lo d)=lo (a+b+c+d):=by
 show(((a+b % 4294967296) % 4294967296+c) % 4294967296+d % 4294967296) % 4294967296=(a+b+c+d) % 4294967296;omega
theorem ZOr(a b c d e:Nat):lo (lo (lo (lo (a+lo b)+c)+d)+e)=lo (yr (yr (yr (yr a b) c) d) e):=by
 show((((a+b % 4294967296) % 4294967296+c) % 4294967296+d) % 4294967296+e) % 4294967296=(a+b+c+d+e) % 4294967296;omega
theorem ZOs(t s m:Nat):lo (lo (lo t+lo s)+m)=lo (yr (yr t s) m):=by
 show((t % 4294967296+s % 4294967296) % 4294967296+m) % 4294967296=(t+s+m) % 4294967296;omega
theorem ZOt(d t:Nat):lo (d+lo t)=lo (yr d t):=by
 show(d+t % 4294967296) % 4294967296=(d+t) % 4294967296;omega
def pw(n:Nat)(l:yL Nat):Nat:=l.foldl (λn x=>n*4294967296+x) n
theorem ZEl:∀(l:yL Nat)(n:Nat),(∀x,x∈l->x < 4294967296)->pw n l / 2 ^ (32*l.length)=n
 |[],n,_=>by simp[pw]
 |x::r,n,h=>by
  have ih:=ZEl r (n*4294967296+x) (λy hy=>h y (yba _ hy));have hx:=h x (yay ..);rw[show pw n (x::r)=pw (n*4294967296+x) r from rfl,yai,show 32*(r.length+1)=32*r.length+32 by omega,Nat.pow_add, <-Nat.div_div_eq_div_mul,ih]
  omega
theorem ZrE:∀(l:yL Nat)(n:Nat),pw n l=n*2 ^ (32*l.length)+pw 0 l
 |[],n=>by simp[pw]
 |x::r,n=>by
  rw[show pw n (x::r)=pw (n*4294967296+x) r from rfl,show pw 0 (x::r)=pw (0*4294967296+x) r from rfl,ZrE r (n*4294967296+x),ZrE r (0*4294967296+x),yai,show 32*(r.length+1)=32+32*r.length by omega,Nat.pow_add,Nat.zero_mul,
   ybe,yaz, <-Nat.mul_assoc,Nat.add_assoc]
theorem ZL5:∀(l:yL Nat),(∀x,x∈l->x < 4294967296)->pw 0 l < 2 ^ (32*l.length)
 |[],_=>by simp[pw]
 |x::r,h=>by
  have ih:=ZL5 r (λy hy=>h y (yba _ hy));have hx:=h x (yay ..);rw[show pw 0 (x::r)=pw (0*4294967296+x) r from rfl,ZrE,yai,show 32*(r.length+1)=32+32*r.length by omega,Nat.pow_add,Nat.zero_mul,ybe]
  have:(x+1)*2 ^ (32*r.length)<=2 ^ 32*2 ^ (32*r.length):=ycc _ (by omega);rw[yaz,Nat.one_mul] at this;omega
theorem ZL6{n x s:Nat}{r:yL Nat}(h:∀y,y∈r->y < 4294967296)(hs:s=32*r.length):yag (pw n (x::r)) s=n*4294967296+x:=by
 subst hs;rw[show yag (pw n (x::r)) (32*r.length)=pw n (x::r) >>> (32*r.length) from rfl,ydd]
 exact ZEl r (n*4294967296+x) h
theorem ZL7{n x s:Nat}{r:yL Nat}(hx:x < 4294967296)(h:∀y,y∈r->y < 4294967296)(hs:s=32*r.length):lo (yag (pw n (x::r)) s)=x:=by
 rw[ZL6 h hs];show(n*4294967296+x) % 4294967296=x;omega
theorem ZEm(n:Nat)(l r:yL Nat):pw n (l++r)=pw (pw n l) r:=List.foldl_append ..
theorem ZFF(n x:Nat)(r:yL Nat):pw n (x::r)=pw (n*4294967296+x) r:=rfl
theorem ZjG{v l r:yL Nat}{x s:Nat}(e:v=l++x::r)(h:∀y,y∈v->y < 4294967296)(hs:s=32*r.length):lo (yag (pw 0 v) s)=x:=by
 rw[e] at h ⊢;rw[ZEm];exact ZL7 (h x (by simp)) (λy hy=>h y (by simp[hy])) hs
def wd(ws:yL Nat)(n:Nat):Nat:=if h:n < 16 then lo (ws.getD n 0) else lo (wd ws (n - 16)+s0 (wd ws (n - 15))+wd ws (n - 7)+s1 (wd ws (n - 2)))
termination_by n
decreasing_by all_goals omega
theorem ZOu(ws:yL Nat)(n:Nat):wd ws n < 4294967296:=by
 rw[wd];split <;> exact ZL3 _
theorem ZAj(ws:yL Nat)(n:Nat):wd ws (n+16)=lo (wd ws n+s0 (wd ws (n+1))+wd ws (n+9)+s1 (wd ws (n+14))):=by
 rw[wd,dif_neg (by omega)];simp only[Nat.add_sub_cancel,show n+16 - 15=n+1 by omega,show n+16 - 7=n+9 by omega,show n+16 - 2=n+14 by omega]
def win(ws:yL Nat)(i:Nat):yL Nat:=[wd ws i,wd ws (i+1),wd ws (i+2),wd ws (i+3),wd ws (i+4),wd ws (i+5),wd ws (i+6),wd ws (i+7),wd ws (i+8),wd ws (i+9),wd ws (i+10),wd ws (i+11),wd ws (i+12),wd ws (i+13),wd ws (i+14),wd ws (i+15)]
theorem ZEn{ws:yL Nat}{i:Nat}{l:yL Nat}(h:∀x,x∈l->∃j,x=wd ws j):∀x,x∈l->x < 4294967296:=λx hx=>by
 obtain⟨j,rfl⟩:=h x hx;exact ZOu _ _
theorem ZFG(ws:yL Nat)(i:Nat):yag (pw 0 (win ws i)) 480=wd ws i:=by
 have h:=ZL6 (n:=0) (x:=wd ws i) (s:=480) (r:=(win ws i).tail) (ZEn (ws:=ws) (i:=i) (λx hx=>by
  simp only[win,List.tail_cons,ybh,ycv,or_false] at hx;rcases hx with h|h|h|h|h|h|h|h|h|h|h|h|h|h|h <;> exact⟨_,h⟩)) rfl
 rw[Nat.zero_mul,ybe] at h;exact h
theorem ZNi(ws:yL Nat)(i:Nat):kw (pw 0 (win ws i))=wd ws (i+16):=by
 have key:∀(l r:yL Nat)(x s:Nat),win ws i=l++x::r->s=32*r.length->lo (yag (pw 0 (win ws i)) s)=x:=by
  intro l r x s e hs
  have zV:∀y,y∈win ws i->y < 4294967296:=ZEn (i:=i) λx hx=>by
   simp only[win,ybh,ycv,or_false] at hx;rcases hx with h|h|h|h|h|h|h|h|h|h|h|h|h|h|h|h <;> exact⟨_,h⟩
  rw[e] at zV ⊢;rw[ZEm];exact ZL7 (zV x (by simp)) (λy hy=>zV y (by simp[hy])) hs
 unfold kw;rw[ZFG,key [_] _ (wd ws (i+1)) 448 rfl rfl,key [_,_,_,_,_,_,_,_,_] _ (wd ws (i+9)) 192 rfl rfl,key [_,_,_,_,_,_,_,_,_,_,_,_,_,_] _ (wd ws (i+14)) 32 rfl rfl,ZAj];rfl
theorem ZLm(a b m:Nat)(h:b < 2 ^ m):Nat.mod (a*2 ^ m+b) (Nat.pow 2 m)=b:=by
 show(a*2 ^ m+b) % 2 ^ m=b;rw[ybf,Nat.mul_add_mod];exact yaf h
theorem ZNj(ws:yL Nat)(i:Nat):kn (pw 0 (win ws i))=pw 0 (win ws (i+1)):=by
 have e:yr (Nat.mul (pw 0 (win ws i)) 4294967296) (kw (pw 0 (win ws i)))=pw (wd ws i) (win ws (i+1)):=by
  rw[ZNi];show pw 0 (win ws i)*4294967296+wd ws (i+16)=pw (wd ws i) (win ws (i+1));rw[show wd ws i=0*4294967296+wd ws i by omega];rfl
 unfold kn;rw[e,ZrE];have hl:(win ws (i+1)).length=16:=rfl
 have hlt:=ZL5 (win ws (i+1)) (ZEn (i:=i+1) λx hx=>by
  simp only[win,ybh,ycv,or_false] at hx;rcases hx with h|h|h|h|h|h|h|h|h|h|h|h|h|h|h|h <;> exact⟨_,h⟩)
 rw[show 512=32*(win ws (i+1)).length by rw[hl]];exact ZLm _ _ _ hlt
def rnd(v:yL Nat)(k w:Nat):yL Nat:=match v with
 |[a,b,c,d,e,f,g,h]=>[lo (yr (yr (yr (yr (yr (yr h (S1 e)) (ch e f g)) k) w) (S0 a)) (mj a b c)),a,b,c,lo (yr d (yr (yr (yr (yr h (S1 e)) (ch e f g)) k) w)),e,f,g]
 |_=>[]
def rs(ws v:yL Nat):Nat->yL Nat
 |0=>v
 |i+1=>rnd (rs ws v i) (ks.getD i 0) (wd ws i)
theorem ZLn{v:yL Nat}(h:v.length=8)(k w:Nat):(rnd v k w).length=8:=by
 match v,h with
 |[a,b,c,d,e,f,g,h],_=>rfl
theorem ZAk{ws v:yL Nat}(h:v.length=8):∀i,(rs ws v i).length=8
 |0=>h
 |i+1=>ZLn (ZAk h i) _ _
noncomputable def ZJu(f:Nat->Nat->Nat->Nat->Nat->Nat->Nat->Nat->Nat)(v:yL Nat):Nat:=match v with
 |[a,b,c,d,e,f',g,h]=>f a b c d e f' g h
 |_=>0
theorem ZoS{F:Nat->Nat->Nat->Nat->Nat->Nat->Nat->Nat->Nat}{a b c d e f g h:Nat}:ZJu F [a,b,c,d,e,f,g,h]=F a b c d e f g h:=rfl
theorem ZJv(k:Nat)(l:yL Nat)(K:Nat->Nat->Nat->Nat->Nat->Nat->Nat->Nat->Nat):kgo (k::l) K=kst k (kgo l K):=rfl
theorem Zwt(a b c d e f g h k w:Nat):rnd [a,b,c,d,e,f,g,h] k w=[lo (yr (yr (yr (yr (yr (yr h (S1 e)) (ch e f g)) k) w) (S0 a)) (mj a b c)),a,b,c,lo (yr d (yr (yr (yr (yr h (S1 e)) (ch e f g)) k) w)),e,f,g]:=rfl
theorem ZNk(k:Nat)(ih:Nat->Nat->Nat->Nat->Nat->Nat->Nat->Nat->Nat->Nat)(W a b c d e f g h:Nat):kst k ih W a b c d e f g h=
 ih (kn W) (lo (yr (yr (yr (yr (yr (yr h (S1 e)) (ch e f g)) k) (yag W 480)) (S0 a)) (mj a b c))) a b c (lo (yr d (yr (yr (yr (yr h (S1 e)) (ch e f g)) k) (yag W 480)))) e f g:=by
 unfold kst;rw[WO,WO,WO,WO]
theorem ZJw{ws v:yL Nat}{K:Nat->Nat->Nat->Nat->Nat->Nat->Nat->Nat->Nat}{k w:Nat}{l:yL Nat}(hv:v.length=8){W:Nat}(hW:yag W 480=w):ZJu (kgo (k::l) K W) v=ZJu (kgo l K (kn W)) (rnd v k w):=by
 match v,hv with
 |[a,b,c,d,e,f,g,h],_=>
  rw[ZJv,ZoS,ZNk,hW,Zwt,ZoS]
theorem ZFH{ws v:yL Nat}{K:Nat->Nat->Nat->Nat->Nat->Nat->Nat->Nat->Nat}(hv:v.length=8):∀(m i:Nat),i+m=64->ZJu (kgo (ks.drop i) K (pw 0 (win ws i))) (rs ws v i)=ZJu K (rs ws v 64)
 |0,i,h=>by
  have e:i=64:=by omega
  subst e;rw[show ks.drop 64=[] from rfl]
  generalize pw 0 (win ws 64)=W
  rfl
 |m+1,i,h=>by
  have hi:i < ks.length:=by show i < 64;omega
  rw[List.drop_eq_getElem_cons hi,ZJw (ws:=ws) (ZAk hv i) (ZFG ws i),ZNj];have:=ZFH (ws:=ws) (K:=K) hv m (i+1) (by omega);rw[show rs ws v (i+1)=rnd (rs ws v i) (ks.getD i 0) (wd ws i) from rfl,show ks.getD i 0=ks[i] by rw[yda,yab hi];rfl] at this
  exact this
def ZlN(v ws:yL Nat):yL Nat:=List.zipWith (λx y=>lo (x+y)) (rs ws v 64) v
theorem Zit{v ws:yL Nat}(h:v.length=8):(ZlN v ws).length=8:=by
 rw[ZlN,List.length_zipWith,ZAk h,h];rfl
theorem ZFI{v ws:yL Nat}:∀x,x∈ZlN v ws->x < 4294967296:=by
 intro x hx;unfold ZlN at hx;rw[List.mem_iff_getElem] at hx;obtain⟨i,hi,rfl⟩:=hx;rw[List.getElem_zipWith];exact ZL3 _
theorem ZLo{v ws:yL Nat}(hv:v.length=8)(hlt:∀x,x∈v->x < 4294967296)(hw:ws.length=16)(hwl:∀x,x∈ws->x < 4294967296):ZLl (pw 0 v) (pw 0 ws)=pw 0 (ZlN v ws):=by
 have e0:ws=win ws 0:=by
  match ws,hw with
  |[a0,a1,a2,a3,a4,a5,a6,a7,a8,a9,a10,a11,a12,a13,a14,a15],_=>
   simp only[ybh,ycv,or_false,forall_eq_or_imp,forall_eq] at hwl;obtain⟨h0,h1,h2,h3,h4,h5,h6,h7,h8,h9,h10,h11,h12,h13,h14,h15⟩:=hwl;have hs:∀n,n < 16->wd [a0,a1,a2,a3,a4,a5,a6,a7,a8,a9,a10,a11,a12,a13,a14,a15] n=lo ([a0,a1,a2,a3,a4,a5,a6,a7,a8,a9,a10,a11,a12,a13,a14,a15].getD n 0):=λn hn=>by rw[wd,dif_pos hn]
   unfold win;rw[hs 0 (by omega),hs (0+1) (by omega),hs (0+2) (by omega),hs (0+3) (by omega),hs (0+4) (by omega),hs (0+5) (by omega),hs (0+6) (by omega),hs (0+7) (by omega),hs (0+8) (by omega),hs (0+9) (by omega),hs (0+10) (by omega),hs (0+11) (by omega),hs (0+12) (by omega),hs (0+13) (by omega),hs (0+14) (by omega),hs (0+15) (by omega)];show _=[lo a0,lo a1,lo a2,lo a3,lo a4,lo a5,lo a6,lo a7,lo a8,lo a9,lo a10,lo a11,lo a12,lo a13,lo a14,lo a15];rw[Zd8 h0,Zd8 h1,Zd8 h2,Zd8 h3,Zd8 h4,Zd8 h5,Zd8 h6,Zd8 h7,Zd8 h8,Zd8 h9,Zd8 h10,Zd8 h11,Zd8 h12,Zd8 h13,Zd8 h14,Zd8 h15]
 match v,hv with
 |[a,b,c,d,e,f,g,h],hv=>
  have ea:w32 (pw 0 [a,b,c,d,e,f,g,h]) 224=a:=ZjG (l:=[]) (r:=[b,c,d,e,f,g,h]) rfl hlt rfl;have eb:w32 (pw 0 [a,b,c,d,e,f,g,h]) 192=b:=ZjG (l:=[a]) (r:=[c,d,e,f,g,h]) rfl hlt rfl;have ec:w32 (pw 0 [a,b,c,d,e,f,g,h]) 160=c:=ZjG (l:=[a,b]) (r:=[d,e,f,g,h]) rfl hlt rfl;have ed:w32 (pw 0 [a,b,c,d,e,f,g,h]) 128=d:=ZjG (l:=[a,b,c]) (r:=[e,f,g,h]) rfl hlt rfl;have ee:w32 (pw 0 [a,b,c,d,e,f,g,h]) 96=e:=ZjG (l:=[a,b,c,d]) (r:=[f,g,h]) rfl hlt rfl;have ef:w32 (pw 0 [a,b,c,d,e,f,g,h]) 64=f:=ZjG (l:=[a,b,c,d,e]) (r:=[g,h]) rfl hlt rfl;have eg:w32 (pw 0 [a,b,c,d,e,f,g,h]) 32=g:=ZjG (l:=[a,b,c,d,e,f]) (r:=[h]) rfl hlt rfl;have eh:w32 (pw 0 [a,b,c,d,e,f,g,h]) 0=h:=ZjG (l:=[a,b,c,d,e,f,g]) (r:=[]) rfl hlt rfl;unfold ZLl;rw[ea,eb,ec,ed,ee,ef,eg,eh,WO,WO,WO,WO,WO,WO,WO,WO];have hr:=ZFH (ws:=ws) (v:=[a,b,c,d,e,f,g,h]) (K:=λa' b' c' d' e' f' g' h'=>cat (cat (cat (cat (cat (cat (cat (cat 0 (yr a' a)) (yr b' b)) (yr c' c)) (yr d' d)) (yr e' e)) (yr f' f)) (yr g' g)) (yr h' h)) rfl 64 0 rfl;rw[<-e0,show ks.drop 0=ks from rfl,show rs ws [a,b,c,d,e,f,g,h] 0=[a,b,c,d,e,f,g,h] from rfl,ZoS] at hr
  rw[hr];unfold ZlN;generalize rs ws [a,b,c,d,e,f,g,h] 64=q,ZAk (ws:=ws) hv 64=hq
  match q,hq with
  |[a',b',c',d',e',f',g',h'],_=>
   rw[ZoS];simp only[List.zipWith_cons_cons,List.zipWith_nil_right,ZFF,cat];rfl
theorem ZuG(x:Nat)(l:yL Nat)(n:Nat):pk (x::l) n=pk l (n*256+x):=by
 show Zcd (yr (Nat.mul n 256) x) (pk l)=_;rw[WO];rfl
def YG:yL Nat->yL Nat
 |a::b::c::d::r=>(((a*256+b)*256+c)*256+d)::YG r
 |_=>[]
theorem ZCk:∀(m:Nat)(l:yL Nat)(n:Nat),l.length=4*m->pk l n=pw n (YG l)
 |0,[],n,_=>rfl
 |0,_::_,_,h=>by simp at h
 |m+1,[],_,h=>by simp at h
 |m+1,[_],_,h=>by simp at h;omega
 |m+1,[_,_],_,h=>by simp at h;omega
 |m+1,[_,_,_],_,h=>by simp at h;omega
 |m+1,a::b::c::d::r,n,h=>by
  rw[ZuG,ZuG,ZuG,ZuG,YG];rw[ZCk m r _ (by simp at h;omega),ZFF];have e:(((n*256+a)*256+b)*256+c)*256+d=n*4294967296+(((a*256+b)*256+c)*256+d):=by omega
  rw[e]
theorem ZtO:∀(m:Nat)(l:yL Nat),l.length=4*m->(YG l).length=m
 |0,[],_=>rfl
 |0,_::_,h=>by simp at h
 |m+1,[],h=>by simp at h
 |m+1,[_],h=>by simp at h;omega
 |m+1,[_,_],h=>by simp at h;omega
 |m+1,[_,_,_],h=>by simp at h;omega
 |m+1,a::b::c::d::r,h=>by
  rw[YG,yai,ZtO m r (by simp at h;omega)]
theorem Zwu:∀(m:Nat)(l:yL Nat),l.length=4*m->(∀x,x∈l->x < 256)->∀x,x∈YG l->x < 4294967296
 |0,[],_,_,x,hx=>by simp[YG] at hx
 |0,_::_,h,_,_,_=>by simp at h
 |m+1,[],h,_,_,_=>by simp at h
 |m+1,[_],h,_,_,_=>by simp at h;omega
 |m+1,[_,_],h,_,_,_=>by simp at h;omega
 |m+1,[_,_,_],h,_,_,_=>by simp at h;omega
 |m+1,a::b::c::d::r,h,hl,x,hx=>by
  rw[YG] at hx;have h1:=hl a (by simp);have h2:=hl b (by simp);have h3:=hl c (by simp);have h4:=hl d (by simp);rcases ybh.1 hx with rfl|hx
  ·omega
  ·exact Zwu m r (by simp at h;omega) (λy hy=>hl y (by simp[hy])) x hx
theorem ZnW:∀(i:Nat)(l:yL Nat)(a b c d:Nat),l[4*i]? =some a->l[4*i+1]? =some b->l[4*i+2]? =some c->l[4*i+3]? =some d->(YG l)[i]? =some (((a*256+b)*256+c)*256+d)
 |0,[],_,_,_,_,h,_,_,_=>by simp at h
 |0,[_],_,_,_,_,_,h,_,_=>by simp at h
 |0,[_,_],_,_,_,_,_,_,h,_=>by simp at h
 |0,[_,_,_],_,_,_,_,_,_,_,h=>by simp at h
 |0,a::b::c::d::r,_,_,_,_,h1,h2,h3,h4=>by
  simp at h1 h2 h3 h4;subst h1 h2 h3 h4
  rfl
 |i+1,[],_,_,_,_,h,_,_,_=>by simp at h
 |i+1,[_],_,_,_,_,h,_,_,_=>by simp[show 4*(i+1)=4*i+3+1 by omega] at h
 |i+1,[_,_],_,_,_,_,h,_,_,_=>by simp[show 4*(i+1)=4*i+2+1+1 by omega] at h
 |i+1,[_,_,_],_,_,_,_,h,_,_,_=>by simp[show 4*(i+1)=4*i+1+1+1+1 by omega] at h
 |i+1,a::b::c::d::r,_,_,_,_,h1,h2,h3,h4=>by
  rw[YG,List.getElem?_cons_succ]
  exact ZnW i r _ _ _ _ (by simpa[show 4*(i+1)=4*i+1+1+1+1 by omega] using h1) (by simpa[show 4*(i+1)+1=4*i+1+1+1+1+1 by omega] using h2)
   (by simpa[show 4*(i+1)+2=4*i+2+1+1+1+1 by omega] using h3) (by simpa[show 4*(i+1)+3=4*i+3+1+1+1+1 by omega] using h4)
def Ziu:Nat->yL Nat->yL Nat->yL Nat
 |0,_,v=>v
 |n+1,l,v=>Ziu n (l.drop 64) (ZlN v (YG (l.take 64)))
theorem ZFJ:∀(n:Nat)(l v:yL Nat),l.length=64*n->(∀x,x∈l->x < 256)->v.length=8->(∀x,x∈v->x < 4294967296)->ZNg n l (pw 0 v)=pw 0 (Ziu n l v)
 |0,l,v,_,_,_,_=>rfl
 |n+1,l,v,h1,h2,h3,h4=>by
  show Zcd (ZLl (pw 0 v) (pk (l.take 64) 0)) (ZNg n (l.drop 64))=_;have hl:(l.take 64).length=4*16:=by rw[List.length_take];omega
  rw[WO,ZCk 16 _ 0 hl,ZLo h3 h4 (ZtO 16 _ hl) (Zwu 16 _ hl λx hx=>h2 x (List.mem_of_mem_take hx))];exact ZFJ n (l.drop 64) _ (by rw[List.length_drop];omega) (λx hx=>h2 x (List.mem_of_mem_drop hx)) (Zit h3) ZFI
theorem ZCl:∀(n:Nat)(l v:yL Nat),v.length=8->(Ziu n l v).length=8
 |0,_,_,h=>h
 |n+1,l,v,h=>ZCl n _ _ (Zit h)
theorem ZFK:∀(n:Nat)(l v:yL Nat),(∀x,x∈v->x < 4294967296)->∀x,x∈Ziu n l v->x < 4294967296
 |0,_,_,h=>h
 |n+1,l,v,h=>ZFK n _ _ ZFI
theorem Zwv:∀(n m:Nat)(l r v:yL Nat),l.length=64*n->Ziu (n+m) (l++r) v=Ziu m r (Ziu n l v)
 |0,m,l,r,v,h=>by
  have:l=[]:=List.length_eq_zero_iff.1 (by omega);subst this;rw[ybe]
  rfl
 |n+1,m,l,r,v,h=>by
  rw[show n+1+m=(n+m)+1 by omega,Ziu,List.drop_append_of_le_length (by omega),List.take_append_of_le_length (by omega),Zwv n m _ r _ (by rw[List.length_drop];omega)];rfl
theorem ZoT:∀(c:Nat)(l v:yL Nat),Ziu (c+1) l v=ZlN (Ziu c l v) (YG ((l.drop (64*c)).take 64))
 |0,l,v=>by rw[Nat.mul_zero,List.drop_zero];rfl
 |c+1,l,v=>by
  rw[show Ziu (c+1+1) l v=Ziu (c+1) (l.drop 64) (ZlN v (YG (l.take 64))) from rfl,ZoT c,List.drop_drop,show 64+64*c=64*(c+1) by omega]
  rfl
theorem ZCm(ws:yL Nat){n x:Nat}(hn:n < 16)(h:ws[n]? =some x)(hx:x < 4294967296):wd ws n=x:=by
 rw[wd,dif_pos hn,yda,h];exact Zd8 hx
def ZJx(v:yL Nat)(k:Nat):yB:=yas (v.getD (k / 4) 0 / 2 ^ (24 - 8*(k % 4)))
theorem ZLp{v:yL Nat}(hv:v.length=8)(hlt:∀x,x∈v->x < 4294967296):outs (pw 0 v) ZEk=(yu 32).map (ZJx v):=by
 have hgo:∀(H:Nat)(l:yL Nat),outs H l=l.map λs=>yas (H / 2 ^ s % 256):=by
  intro H l
  induction l with
  |nil=>rfl
  |cons s r ih=>
   show Zcd (Nat.mod (yag H s) 256) (λx=>yas x::outs H r)=_;rw[WO,ih,yaj,show yag H s=H >>> s from rfl,ydd]
   rfl
 have hb:∀(l r:yL Nat)(x j s:Nat),v=l++x::r->j<=24->s=32*r.length+j->yas (pw 0 v / 2 ^ s % 256)=yas (x / 2 ^ j):=by
  intro l r x j s e hj hs;have zV:=hlt;rw[e] at zV
  have h1:pw 0 v / 2 ^ (32*r.length)=pw 0 l*4294967296+x:=by
   rw[e,ZEm];exact ZEl r _ (λy hy=>zV y (by simp[hy]))
  rw[hs,Nat.pow_add, <-Nat.div_div_eq_div_mul,h1]
  have h2:pw 0 l*4294967296+x=2 ^ j*(pw 0 l*2 ^ (24 - j)*256)+x:=by
   rw[show(4294967296:Nat)=2 ^ j*2 ^ (24 - j)*256 by rw[<-Nat.pow_add,show j+(24 - j)=24 by omega]];congr 1;ac_rfl
  rw[h2,Nat.mul_add_div (Nat.two_pow_pos j),ybf (pw 0 l*2 ^ (24 - j)) 256,Nat.mul_add_mod];exact UInt8.toNat_inj.1 (by simp)
 match v,hv with
 |[a,b,c,d,e,f,g,h],_=>
  rw[hgo];simp only[ZEk,yaj,List.map_nil]
  rw[hb [] [b,c,d,e,f,g,h] a 24 248 rfl (by omega) rfl,hb [] [b,c,d,e,f,g,h] a 16 240 rfl (by omega) rfl,hb [] [b,c,d,e,f,g,h] a 8 232 rfl (by omega) rfl,hb [] [b,c,d,e,f,g,h] a 0 224 rfl (by omega) rfl,
   hb [a] [c,d,e,f,g,h] b 24 216 rfl (by omega) rfl,hb [a] [c,d,e,f,g,h] b 16 208 rfl (by omega) rfl,hb [a] [c,d,e,f,g,h] b 8 200 rfl (by omega) rfl,hb [a] [c,d,e,f,g,h] b 0 192 rfl (by omega) rfl,
   hb [a,b] [d,e,f,g,h] c 24 184 rfl (by omega) rfl,hb [a,b] [d,e,f,g,h] c 16 176 rfl (by omega) rfl,hb [a,b] [d,e,f,g,h] c 8 168 rfl (by omega) rfl,hb [a,b] [d,e,f,g,h] c 0 160 rfl (by omega) rfl,
   hb [a,b,c] [e,f,g,h] d 24 152 rfl (by omega) rfl,hb [a,b,c] [e,f,g,h] d 16 144 rfl (by omega) rfl,hb [a,b,c] [e,f,g,h] d 8 136 rfl (by omega) rfl,hb [a,b,c] [e,f,g,h] d 0 128 rfl (by omega) rfl,
   hb [a,b,c,d] [f,g,h] e 24 120 rfl (by omega) rfl,hb [a,b,c,d] [f,g,h] e 16 112 rfl (by omega) rfl,hb [a,b,c,d] [f,g,h] e 8 104 rfl (by omega) rfl,hb [a,b,c,d] [f,g,h] e 0 96 rfl (by omega) rfl,
   hb [a,b,c,d,e] [g,h] f 24 88 rfl (by omega) rfl,hb [a,b,c,d,e] [g,h] f 16 80 rfl (by omega) rfl,hb [a,b,c,d,e] [g,h] f 8 72 rfl (by omega) rfl,hb [a,b,c,d,e] [g,h] f 0 64 rfl (by omega) rfl,
   hb [a,b,c,d,e,f] [h] g 24 56 rfl (by omega) rfl,hb [a,b,c,d,e,f] [h] g 16 48 rfl (by omega) rfl,hb [a,b,c,d,e,f] [h] g 8 40 rfl (by omega) rfl,hb [a,b,c,d,e,f] [h] g 0 32 rfl (by omega) rfl,
   hb [a,b,c,d,e,f,g] [] h 24 24 rfl (by omega) rfl,hb [a,b,c,d,e,f,g] [] h 16 16 rfl (by omega) rfl,hb [a,b,c,d,e,f,g] [] h 8 8 rfl (by omega) rfl,hb [a,b,c,d,e,f,g] [] h 0 0 rfl (by omega) rfl]
  rfl
def Ziv(l:yL yB):yL Nat:=l.map yak++(128::(yy (zs l.length) 0++be8 (8*l.length)))
def ZeU:yL Nat:=[1779033703,3144134277,1013904242,2773480762,1359893119,2600822924,528734635,1541459225]
theorem Zww(l:yL yB):(Ziv l).length=64*((l.length+72) / 64):=by
 unfold Ziv;simp only[yl,yac,yai,ycq,be8,List.length_nil,zs];omega
theorem ZG8(l:yL yB):∀x,x∈Ziv l->x < 256:=by
 intro x hx;unfold Ziv at hx;simp only[List.mem_append,List.mem_map,ybh,List.mem_replicate,be8,ycv,or_false] at hx;rcases hx with⟨y,_,rfl⟩|rfl|⟨_,rfl⟩|h
 ·exact y.toNat_lt
 ·omega
 ·omega
 ·rcases h with h|h|h|h|h|h|h|h <;> rw[h] <;> exact ybc _ (by omega)
theorem ZEo(l:yL yB):sha l=(yu 32).map (ZJx (Ziu ((l.length+72) / 64) (Ziv l) ZeU)):=by
 unfold sha
 rw[WO,WO,show H0=pw 0 ZeU from rfl,show l.map yak++(128::(yy (zs l.length) 0++be8 (8*l.length)))=Ziv l from rfl,
  show Nat.div (yr l.length 72) 64=(l.length+72) / 64 from rfl]
 have hf:∀x,x∈ZeU->x < 4294967296:=by decide
 rw[ZFJ _ _ _ (Zww l) (ZG8 l) rfl hf];exact ZLp (ZCl _ _ _ rfl) (ZFK _ _ _ hf)
theorem ZO8(l:yL yB):(sha l).length=32:=by rw[ZEo];simp
end Go.Sha
end
