/- Parts of the proof, in one file. -/
import Derived.Test.YtcbhhaigilifgaaGreatKc
open Option renaming some → ab, none → ad
open Bool renaming true → ae, false → af
open Decidable renaming decide → ag
open Bool renaming and_eq_true → yi
open Go renaming TypeId → yc, Program → yg, Oper → yj, Operand → yp
open List renaming length_append → ym, range → yo, getElem?_eq_some_iff → yu, replicate → yx, nil_append → yz, append_assoc → yac, length_map → yad, cons_append → yaf, length_cons → yag, map_cons → yah, take_length → yaj, all_eq_true → yal, getElem?_map → yao, map_append → yau, map_map → ybd, map_set → ybn, getElem?_eq_none → ybz, map_congr_left → yci
open Nat renaming le_refl → yl
open Option renaming bind_some → ya, bind_eq_some_iff → yf, map_some → yae
open Option.some renaming injEq → yn
open Prod.mk renaming injEq → yq
set_option linter.unusedVariables false
set_option linter.unusedSimpArgs false
section
namespace Go.Ev
inductive Num where
 |u8 (x:UInt8)|u32 (x:UInt32)|u64 (x:UInt64)
 |i (k:IntKind) (x:Int)
def TP.num:TP->yO Num
 |.v (.int k) n=>if CQ k then ab (.i k n) else ad
 |.v .u8 b=>ab (.u8 b)
 |.v .u32 b=>ab (.u32 b)
 |.v .u64 b=>ab (.u64 b)
 |_=>ad
def Num.k:Num->IntKind
 |.u8 _=>.u8|.u32 _=>.u32|.u64 _=>.u64|.i k _=>k
def Num.n:Num->Int
 |.u8 x=>(x.toNat:Int)|.u32 x=>(x.toNat:Int)|.u64 x=>(x.toNat:Int)|.i _ x=>x
theorem ZJV{x:TP}{a:Num}(h:x.num=ab a):x.pe=.int a.k a.n:=by
 unfold TP.num at h;split at h
 .split at h
  .cases h;rfl
  .cases h
 .cases h;rfl
 .cases h;rfl
 .cases h;rfl
 .cases h
def TD.num:TD->yO Num
 |.p x=>x.num
 |_=>ad
theorem QG{L:Lk}{x:TD}{a:Num}(h:x.num=ab a):x.er L=.p (.int a.k a.n):=by
 unfold TD.num at h;split at h
 .rw[TD.er,ZJV h]
 .cases h
section
variable{L:Lk}{P:yg}{o:yj}{ts:yL TD}{O:Type}
def ZM5:BinOp->Bool
 |.eql|.neq|.lss|.leq|.gtr|.geq=>ae
 |_=>af
def DM:BinOp->Int->Int->yO Bool
 |.eql,x,y=>ab (x==y)
 |.neq,x,y=>ab (x !=y)
 |.lss,x,y=>ab (ag (x < y))
 |.leq,x,y=>ab (ag (x<=y))
 |.gtr,x,y=>ab (ag (x > y))
 |.geq,x,y=>ab (ag (x >= y))
 |_,_,_=>ad
theorem ZHG{op:BinOp}{k:IntKind}{x y:Int}{b:Bool}(h:DM op x y=ab b)(yK:yL ao):YP op k x y yK=ab ([],.p (.bool b),yK):=by
 cases op <;> simp only[DM,yn,reduceCtorEq]at h <;> subst h <;> rfl
def DN(k:IntKind):BinOp->Int->Int->yO Int
 |.add,x,y=>ab (k.wrap (x+y))
 |.sub,x,y=>ab (k.wrap (x - y))
 |.mul,x,y=>ab (k.wrap (x*y))
 |.and,x,y=>ab (bits .and k x y)
 |.or,x,y=>ab (bits .or k x y)
 |.xor,x,y=>ab (bits .xor k x y)
 |.andNot,x,y=>ab (bits .andNot k x y)
 |_,_,_=>ad
theorem ZJX{op:BinOp}{k:IntKind}{x y z:Int}(h:DN k op x y=ab z)(yK:yL ao):YP op k x y (.raw::yK)=ab ([],.p (.int k z),yK):=by
 cases op <;> simp only[DN,yn,reduceCtorEq]at h <;> subst h <;> rfl
def DO(k:IntKind):BinOp->Int->Int->yO Int
 |.quo,x,y=>ab (k.wrap (x.tdiv y))
 |.rem,x,y=>ab (x.tmod y)
 |_,_,_=>ad
theorem ZJY{op:BinOp}{k:IntKind}{x y z:Int}(h:DO k op x y=ab z)(yK:yL ao):YP op k x y (.raw::yK)=ab ([y≠0],.p (.int k z),yK):=by
 cases op <;> simp only[DO,yn,reduceCtorEq]at h <;> subst h <;> rfl
def pg(b:yO Bool)(o:yO TP)(d:yO TP)(f:Bool)(K:TD->yL ao->yO O):yO O:=
 match b,o,d with
 |some b,_,_=>K (.p (.v .bool b)) []
 |none,ab z,_=>K (.p z) [.raw]
 |none,ad,ab z=>if f=ae then K (.p z) [.raw] else ad
 |none,ad,ad=>ad
def DP(op:BinOp)(x y:Num)(K:TD->yL ao->yO O):yO O:=
 match x,y with
 |.u8 a,.u8 b=>pg (DF op a b) ((DD op a b).map (.v .u8)) ((DE op a b).map (.v .u8)) (b !=0) K
 |.u32 a,.u32 b=>pg (DI op a b) ((DG op a b).map (.v .u32)) ((DH op a b).map (.v .u32)) (b !=0) K
 |.u64 a,.u64 b=>pg (DL op a b) ((DJ op a b).map (.v .u64)) ((DK op a b).map (.v .u64)) (b !=0) K
 |.i k a,.i l b=>if k=l/\CQ k=ae then pg (DM op a b) ((DN k op a b).map (.v (.int k))) ((DO k op a b).map (.v (.int k))) (b !=0) K else ad
 |_,_=>ad
theorem vL{k:IntKind}{op:BinOp}{x y:Int}{b:yO Bool}{o d:yO TP}{f:Bool}{K:TD->yL ao->yO O}{out:O}(h:pg b o d f K=ab out)
 (hb:∀c,b=ab c->∀yK,YP op k x y yK=ab ([],.p (.bool c),yK))
 (ho:∀z,o=ab z->∀yK,YP op k x y (.raw::yK)=ab ([],.p z.pe,yK))
 (hd:∀z,d=ab z->∀yK,YP op k x y (.raw::yK)=ab ([y≠0],.p z.pe,yK)) (hz:f=ae->y≠0):
 ∃d hs C,K d hs=ab out/\aX C/\∀yK,YP op k x y (hs++yK)=ab (C,d.er L,yK):=by
 unfold pg at h;split at h
 .exact⟨_,_,[],h,zP,hb _ rfl⟩
 .exact⟨_,_,[],h,zP,ho _ rfl⟩
 .obtain⟨g,j⟩:=Za h;exact⟨_,_,[y≠0],j,⟨hz g,aB⟩,hd _ rfl⟩
 .cases h
theorem Zxo{op:BinOp}{x y:Num}{K:TD->yL ao->yO O}{out:O}(h:DP op x y K=ab out):
 x.k=y.k/\∃d hs C,K d hs=ab out/\aX C/\∀yK,YP op x.k x.n y.n (hs++yK)=ab (C,d.er L,yK):=by
 unfold DP at h;split at h
 .rename_i a b;refine⟨rfl,vL h (λc j=>ZHz j) (λz f=> ?_) (λz f=> ?_) (λf=> ?_)⟩
  .obtain⟨q,g,rfl⟩:=Zd f;exact ZJO g
  .obtain⟨q,g,rfl⟩:=Zd f;exact ZJP g
  .simp only[yE,ne_eq]at f;intro e;exact f (UInt8.toNat_inj.1 (by simp only[Num.n]at e;show b.toNat=0;omega))
 .rename_i a b;refine⟨rfl,vL h (λc j=>ZEx j) (λz f=> ?_) (λz f=> ?_) (λf=> ?_)⟩
  .obtain⟨q,g,rfl⟩:=Zd f;exact ZHC g
  .obtain⟨q,g,rfl⟩:=Zd f;exact ZHD g
  .simp only[yE,ne_eq]at f;intro e;exact f (UInt32.toNat_inj.1 (by simp only[Num.n]at e;show b.toNat=0;omega))
 .rename_i a b;refine⟨rfl,vL h (λc j=>ZEC j) (λz f=> ?_) (λz f=> ?_) (λf=> ?_)⟩
  .obtain⟨q,g,rfl⟩:=Zd f;exact ZHE g
  .obtain⟨q,g,rfl⟩:=Zd f;exact ZHF g
  .simp only[yE,ne_eq]at f;intro e;exact f (UInt64.toNat_inj.1 (by simp only[Num.n]at e;show b.toNat=0;omega))
 .rename_i k a l b;split at h
  .rename_i e;obtain⟨rfl,e⟩:=e;refine⟨rfl,vL h (λc j=>ZHG j) (λz f=> ?_) (λz f=> ?_) (λf=> ?_)⟩
   .obtain⟨q,g,rfl⟩:=Zd f;exact ZJX g
   .obtain⟨q,g,rfl⟩:=Zd f;exact ZJY g
   .simpa[Num.n] using f
  .cases h
 .cases h
def DQ:Num->Bool
 |.i _ n=>ag (0<=n)
 |_=>ae
theorem ZzB{x:Num}(h:DQ x=ae):0<=x.n:=by
 cases x <;> simp only[DQ,Num.n,yP]at h ⊢ <;> omega
def DR(op:BinOp)(x y:Num):yO TP:=
 match op,x with
 |.shl,.u8 a=>ab (.v .u8 (DB a (min y.n.toNat 8)))
 |.shl,.u32 a=>ab (.v .u32 (gV a (min y.n.toNat 32)))
 |.shl,.u64 a=>ab (.v .u64 (VS a (min y.n.toNat 64)))
 |.shl,.i k a=>ab (.v (.int k) (k.wrap (a*2 ^ min y.n.toNat k.bits)))
 |.shr,.u8 a=>ab (.v .u8 (DC a (min y.n.toNat 8)))
 |.shr,.u32 a=>ab (.v .u32 (gN a (min y.n.toNat 32)))
 |.shr,.u64 a=>ab (.v .u64 (Zz a (min y.n.toNat 64)))
 |.shr,.i k a=>ab (.v (.int k) (a.fdiv (2 ^ min y.n.toNat k.bits)))
 |_,_=>ad
theorem ZJZ{op:BinOp}{x y:Num}{z:TP}(h:DR op x y=ab z)(yK:yL ao):Wu op x.k x.n y.n (.raw::yK)=ab ([0<=y.n],.p z.pe,yK):=by
 unfold DR at h
 split at h <;> first
  |(cases h;first|exact ZHA .. |exact ZEy .. |exact ZED .. |exact ZHB .. |exact ZEz .. |exact ZEE .. |rfl)
  |cases h
mutual
def Ty.flat:Ty->Bool
 |.sl _=>af
 |.str=>af
 |.arr _ t=>Ty.flat t
 |.st f=>Ty.aS f
 |_=>ae
def Ty.aS:yL Ty->Bool
 |[]=>ae
 |t::r=>Ty.flat t&&Ty.aS r
end
mutual
theorem rj:∀(t:Ty)(x y:t.aU),t.flat=ae->t.enc x=t.enc y->x=y
 |.int k,x,y,_,h=>by injection h
 |.u8,x,y,_,h=>by injection h with _ h;exact UInt8.toNat_inj.1 (by omega)
 |.u32,x,y,_,h=>by injection h with _ h;exact UInt32.toNat_inj.1 (by omega)
 |.u64,x,y,_,h=>by injection h with _ h;exact UInt64.toNat_inj.1 (by omega)
 |.bool,x,y,_,h=>by injection h
 |.str,_,_,f,_=>nomatch f
 |.sl _,_,_,f,_=>nomatch f
 |.arr n t,x,y,f,h=>by
  injection h with _ _ h
  exact UZ (λa b e=>rj t a b f e) h
 |.st g,x,y,f,h=>by
  injection h with h;exact gE g x y f h
theorem gE:∀(g:yL Ty)(x y:Ty.aO g),Ty.aS g=ae->Ty.encs g x=Ty.encs g y->x=y
 |[],_,_,_,_=>rfl
 |[t],x,y,j,h=>by
  simp only[Ty.encs,List.cons.injEq,and_true]at h;simp only[Ty.aS,Bool.and_true]at j
  exact rj t x y j h
 |t::u::r,x,y,j,h=>by
  have l:t.enc x.1::Ty.encs (u::r) x.2=t.enc y.1::Ty.encs (u::r) y.2:=h;have f:(t.flat&&Ty.aS (u::r))=ae:=j;rw[yi]at f;injection l with m z;exact Prod.ext (rj t x.1 y.1 f.1 m) (gE (u::r) x.2 y.2 f.2 z)
end
mutual
def Ty.fa:(t:Ty)->DecidableEq t.aU
 |.int _=>inferInstanceAs (DecidableEq Int)
 |.u8=>inferInstanceAs (DecidableEq yB)
 |.u32=>inferInstanceAs (DecidableEq yV)
 |.u64=>inferInstanceAs (DecidableEq yU)
 |.bool=>inferInstanceAs (DecidableEq Bool)
 |.str=>inferInstanceAs (DecidableEq ByteArray)
 |.sl t=>@instDecidableEqList t.aU (Ty.fa t)
 |.arr _ t=>@instDecidableEqList t.aU (Ty.fa t)
 |.st f=>Ty.rk f
def Ty.rk:(f:yL Ty)->DecidableEq (Ty.aO f)
 |[]=>inferInstanceAs (DecidableEq Unit)
 |[t]=>Ty.fa t
 |t::u::r=>@instDecidableEqProd t.aU (Ty.aO (u::r)) (Ty.fa t) (Ty.rk (u::r))
end
mutual
def mr(P:yg):Nat->yc->Ty->Bool
 |0,_,_=>af
 |n+1,t,T=>match P.underlying t,T with
  |some .bool,.bool=>ae
  |some (.int .u8),.u8=>ae
  |some (.int .u32),.u32=>ae
  |some (.int .u64),.u64=>ae
  |some (.int k),.int l=>ag (k=l)
  |some (.array m e),.arr f U=>ag (f=m)&&(ag (P.cellsOf e=U.size)&&(ag (U.size≠0)&&((P.info? e).isSome&&((P.underlying e).isSome&&(ag (Xt P e=U.isAgg)&&mr P n e U)))))
  |some (.struct g),.st Ts=>ag (P.stoodInHeld t=af)&&fC P n g.toList 0 Ts
  |_,_=>af
def fC(P:yg):Nat->yL Field->Nat->yL Ty->Bool
 |0,_,_,_=>af
 |_+1,[],_,[]=>ae
 |n+1,f::g,o,T::Ts=>ag (f.name≠ "_")&&(ag (f.offset=o)&&(ag (P.cellsOf f.type=T.size)&&((P.info? f.type).isSome&&((P.underlying f.type).isSome&&(ag (Xt P f.type=T.isAgg)&&(ag (T.size≠0)&&(mr P n f.type T&&fC P n g (o+T.size) Ts)))))))
 |_+1,_,_,_=>af
end
mutual
theorem rm:∀(n:Nat)(t:yc)(T:Ty),mr P n t T=ae->∀(x:T.aU),bt P n t (T.enc x)
 |0,_,_,h,_=>by simp[mr]at h
 |n+1,t,T,h,x=>by
  simp only[mr]at h;unfold bt;split at h
  .rename_i f;rw[f];trivial
  .rename_i f;rw[f];exact rfl
  .rename_i f;rw[f];exact rfl
  .rename_i f;rw[f];exact rfl
  .rename_i f;rw[f];simp only[yP]at h;exact h.symm
  .rename_i m e Q U f;simp only[yi,yP]at h;obtain⟨g,j,l,A,E,F,G⟩:=h;rw[f];refine⟨g,j,l,A,E,λy I=> ?_⟩;obtain⟨z,_,rfl⟩:=List.mem_map.1 I;exact⟨rm n e U G z,pc U z,by rw[vH];exact F⟩
  .rename_i M Ts f;simp only[yi,yP]at h;rw[f];exact⟨h.1,vp (λt x k=>k) _ _ _ (gF n M.toList 0 Ts h.2 x)⟩
  .cases h
theorem gF:∀(n:Nat)(g:yL Field)(o:Nat)(Ts:yL Ty),fC P n g o Ts=ae->∀(x:Ty.aO Ts),iD P (bt P n) g o (Ty.encs Ts x)
 |0,_,_,_,h,_=>by simp[fC]at h
 |n+1,[],_,[],_,_=>trivial
 |n+1,[],_,_::_,h,_=>by simp[fC]at h
 |n+1,_::_,_,[],h,_=>by simp[fC]at h
 |n+1,f::g,o,T::Ts,h,x=>by
  simp only[fC,yi,yP]at h;obtain⟨l,m,y,z,A,E,F,G,I⟩:=h
  have j:∃(a:T.aU)(b:Ty.aO Ts),Ty.encs (T::Ts) x=T.enc a::Ty.encs Ts b:=by
   cases Ts with
   |nil=>exact⟨x,(),rfl⟩
   |cons U r=>exact⟨x.1,x.2,rfl⟩
  obtain⟨a,b,e⟩:=j;rw[e];refine⟨l,m,by rw[pc];exact y,z,A,by rw[vH];exact E,by rw[pc];exact F,vq (rm n f.type T G a), ?_⟩;rw[pc];exact vp (λt x k=>vq k) _ _ _ (gF n g _ Ts I b)
end
end
end Go.Ev
end
section
namespace Go.Ev
section
variable{L:Lk}{P:yg}{o:yj}{ts:yL TD}{O:Type}
def DS(r:nc):yO Bool:=
 match r with
 |some ([],.p (.bool b),[])=>ab b
 |_=>ad
theorem ZtN{t:yc}{x y:Dv}{b:Bool}(h:ja P t x y []=ab ([],b,[]))(yK:yL ao):ja P t x y yK=ab ([],b,yK):=by
 unfold ja at h ⊢
 split at h <;> first
  |(simp only[yn,yq,and_true,true_and]at h;subst h;rfl)
  |cases h
  |(split at h <;> first|(rename_i e;cases e)|cases h)
theorem ZCI{op:BinOp}{t:yc}{x y:Dv}{b:Bool}(h:DS (gK P op t x y [])=ab b)(yK:yL ao):gK P op t x y yK=ab ([],.p (.bool b),yK):=by
 have f:gK P op t x y []=ab ([],.p (.bool b),[]):=by
  unfold DS at h;split at h
  .rename_i e;cases h;exact e
  .cases h
 clear h;unfold gK at f ⊢;split at f
 .split at f
  .cases op <;> simp[Wu]at f
  .split at f
   .rename_i k a E F _ l;simp only[l,if_true];rename_i hs;simp only[hs,if_false];cases op <;> simp only[YP,gr,yn,yq,Dv.p.injEq,Pl.bool.injEq,and_true,true_and,reduceCtorEq]at f ⊢ <;> first|exact f|skip
    all_goals first|(cases f;done)|(cases f;simp;done)|(simp[up]at f;done)
   .cases f
 .cases op <;> simp only[yn,yq,Dv.p.injEq,Pl.bool.injEq,and_true,true_and,reduceCtorEq]at f ⊢ <;> exact f
 .rename_i G I;cases op <;> first|cases f|skip
  .obtain⟨q,j,g⟩:=Zd f;simp only[yq,Dv.p.injEq,Pl.bool.injEq]at g;obtain⟨m,z,A⟩:=q;obtain⟨rfl,rfl,rfl⟩:=g;simp only[ZtN j yK,yae]
  .obtain⟨q,j,g⟩:=Zd f;simp only[yq,Dv.p.injEq,Pl.bool.injEq]at g;obtain⟨m,z,A⟩:=q;obtain⟨rfl,rfl,rfl⟩:=g;simp only[ZtN j yK,yae]
def TD.val:TD->yO (Σ t:Ty,t.aU)
 |.p (.v t x)=>ab ⟨t,x⟩
 |_=>ad
theorem DT{x:TD}{q:Σ t:Ty,t.aU}(h:x.val=ab q):x.er L=.p (q.1.enc q.2):=by
 unfold TD.val at h;split at h
 .cases h;rfl
 .cases h
def DU(P:yg)(t:yc):Bool:=
 match P.underlying t with
 |some (.array _ _)=>ae
 |some (.struct _)=>ae
 |_=>af
def DV(P:yg)(op:BinOp)(t:yc)(x y:TD)(K:TD->yL ao->yO O):yO O:=
 match x.val,y.val with
 |some a,ab b=>(Ty.cast b.1 a.1 b.2).bind λz=>
  if DU P t&&(a.1.isAgg&&(a.1.flat&&(mr P 20 t a.1&&ag (P.eqGuardType P.depth t=af)))) then
   match op with
   |.eql=>K (.p (.v .bool (@decide (a.2=z) (Ty.fa a.1 a.2 z)))) [.b (@decide (a.2=z) (Ty.fa a.1 a.2 z))]
   |.neq=>K (.p (.v .bool (!(@decide (a.2=z) (Ty.fa a.1 a.2 z))))) [.b (@decide (a.2=z) (Ty.fa a.1 a.2 z))]
   |_=>ad
  else ad
 |_,_=>ad
theorem ru{t:yc}{a:Σ t:Ty,t.aU}{z:a.1.aU}(h1:DU P t=ae)(h2:a.1.isAgg=ae)(h3:a.1.flat=ae)(h4:mr P 20 t a.1=ae)(h5:P.eqGuardType P.depth t=af)(yK:yL ao):
 ∃C,aX C/\ja P t (.p (a.1.enc a.2)) (.p (a.1.enc z)) (.b (@decide (a.2=z) (Ty.fa a.1 a.2 z))::yK)=ab (C,@decide (a.2=z) (Ty.fa a.1 a.2 z),yK)/\C=[bt P 20 t (a.1.enc a.2),bt P 20 t (a.1.enc z),(@decide (a.2=z) (Ty.fa a.1 a.2 z)=ae↔a.1.enc a.2=a.1.enc z)]:=by
 have f1:=rm 20 t a.1 h4 a.2;have f2:=rm 20 t a.1 h4 z
 have f3:(@decide (a.2=z) (Ty.fa a.1 a.2 z)=ae↔a.1.enc a.2=a.1.enc z):=by
  rw[@decide_eq_true_iff _ (Ty.fa a.1 a.2 z)];exact⟨λe=>by rw[e],λe=>rj a.1 _ _ h3 e⟩
 refine⟨[bt P 20 t (a.1.enc a.2),bt P 20 t (a.1.enc z),(@decide (a.2=z) (Ty.fa a.1 a.2 z)=ae↔a.1.enc a.2=a.1.enc z)],⟨f1,f2,f3,aB⟩, ?_,rfl⟩;generalize @decide (a.2=z) (Ty.fa a.1 a.2 z)=β at f3;generalize a.1.enc a.2=p at f1 f3 ⊢;generalize a.1.enc z=q at f2 f3 ⊢;clear f3;unfold DU at h1;unfold bt at f1 f2;unfold ja;split at h1
 .rename_i m e f;rw[f]at f1 f2 ⊢;cases p <;> first|exact f1.elim|skip
  cases q <;> first|exact f2.elim|skip
  dsimp only;rw[yW h5]
 .rename_i m f;rw[f]at f1 f2 ⊢;cases p <;> first|exact f1.elim|skip
  cases q <;> first|exact f2.elim|skip
  dsimp only;rw[yW h5]
 .cases h1
theorem ZtO{t:yc}{x y:Pl}(f:x.isAgg=ae)(op:BinOp)(hs:yL ao)(h:op=.eql\/op=.neq):gK P op t (.p x) (.p y) hs=(ja P t (.p x) (.p y) hs).map λr=>(r.1,.p (.bool (if op=.eql then r.2.1 else !r.2.1)),r.2.2):=by
 cases x <;> first|cases f|skip
 all_goals (unfold gK;rcases h with rfl|rfl <;> rfl)
theorem ZEF{op:BinOp}{t:yc}{x y:TD}{K:TD->yL ao->yO O}{out:O}(h:DV P op t x y K=ab out):∃d hs C,K d hs=ab out/\aX C/\∀yK,gK P op t (x.er L) (y.er L) (hs++yK)=ab (C,d.er L,yK):=by
 unfold DV at h;split at h
 .rename_i a b F Q;obtain⟨z,R,h⟩:=yf.1 h;obtain⟨G,h⟩:=Za h;simp only[yi,yP]at G;obtain⟨g,f,j,l,m⟩:=G
  have I:y.er L=.p (a.1.enc z):=by
   obtain⟨e,rfl⟩:=VF R;rw[DT Q];cases a;cases b;cases e;rfl
  have M:(a.1.enc a.2).isAgg=ae:=by rw[vH];exact f
  split at h
  .obtain⟨C,A,E,_⟩:=ru (P:=P) (z:=z) g f j l m [];refine⟨_,_,[bt P 20 t (a.1.enc a.2),bt P 20 t (a.1.enc z),(@decide (a.2=z) (Ty.fa a.1 a.2 z)=ae↔a.1.enc a.2=a.1.enc z)],h, ?_,λyK=> ?_⟩
   .obtain⟨C,A,_,rfl⟩:=ru (P:=P) (z:=z) g f j l m [];exact A
   .obtain⟨C,_,E,rfl⟩:=ru (P:=P) (z:=z) g f j l m yK;rw[DT F,I,ZtO M _ _ (.inl rfl),yaf,yz,E];rfl
  .refine⟨_,_,[bt P 20 t (a.1.enc a.2),bt P 20 t (a.1.enc z),(@decide (a.2=z) (Ty.fa a.1 a.2 z)=ae↔a.1.enc a.2=a.1.enc z)],h, ?_,λyK=> ?_⟩
   .obtain⟨C,A,_,rfl⟩:=ru (P:=P) (z:=z) g f j l m [];exact A
   .obtain⟨C,_,E,rfl⟩:=ru (P:=P) (z:=z) g f j l m yK;rw[DT F,I,ZtO M _ _ (.inr rfl),yaf,yz,E];rfl
  .cases h
 .cases h
def DW(L:Lk)(x y:TD):yO Bool:=
 match y with
 |.p (.sl (ab af) _ [])=>match x.row L with
  |some ⟨ad,_,l⟩=>ab l.isEmpty
  |_=>ad
 |_=>ad
theorem ZHH{x y:TD}{b:Bool}(h:DW L x y=ab b):∃s xs f,(x.er L=.p (.sl ad s xs)\/∃id,x.er L=.own id ad s xs)/\y.er L=.p (.sl (ab af) f [])/\xs.isEmpty=b:=by
 unfold DW at h;split at h
 .split at h
  .rename_i T q t l g;cases h;refine⟨t.size,l.map t.enc,T.size, ?_,rfl,by cases l <;> rfl⟩;rcases mq g with h|⟨id,h⟩
   .exact .inl h
   .exact .inr ⟨id,h⟩
  .cases h
 .cases h
def ZLq(P:yg)(op:BinOp)(t:yc)(b:Bool)(K:TD->yL ao->yO O):yO O:=
 match P.underlying t with
 |some (.slice _)=>if b=ae then ad else match op with
  |.eql=>K (.p (.v .bool af)) [.bare]
  |.neq=>K (.p (.v .bool ae)) [.bare]
  |_=>ad
 |_=>ad
def DX(L:Lk)(P:yg)(op:BinOp)(t:yc)(x y:TD)(K:TD->yL ao->yO O):yO O:=
 match x.num,y.num with
 |some a,ab b=>if AO op then(DR op a b).bind λz=>if DQ b=ae then K (.p z) [.raw] else ad else DP op a b K
 |_,_=>match DS (gK P op t (x.er L) (y.er L) []) with
  |some b=>K (.p (.v .bool b)) []
  |none=>match DW L x y with
   |some b=>ZLq P op t b K
   |none=>DV P op t x y K
theorem ZCJ{op:BinOp}{t:yc}{x y:TD}{K:TD->yL ao->yO O}{out:O}(h:DX L P op t x y K=ab out):∃d hs C,K d hs=ab out/\aX C/\∀yK,gK P op t (x.er L) (y.er L) (hs++yK)=ab (C,d.er L,yK):=by
 unfold DX at h;split at h
 .rename_i a b I l;rw[QG I,QG l];split at h
  .rename_i g;obtain⟨z,f,h⟩:=yf.1 h;obtain⟨j,h⟩:=Za h;refine⟨_,_,[0<=b.n],h,⟨ZzB j,aB⟩,λyK=> ?_⟩;unfold gK;dsimp only;rw[yW g];exact ZJZ f yK
  .rename_i g;obtain⟨M,d,hs,C,f,j,A⟩:=Zxo h;refine⟨d,hs,C,f,j,λyK=> ?_⟩;unfold gK;dsimp only;rw[yX g,yW M];exact A yK
 .split at h
  .rename_i b l;exact⟨_,_,[],h,zP,ZCI l⟩
  .split at h
   .rename_i b l;obtain⟨s,E,Q,f,j,A⟩:=ZHH l;unfold ZLq at h;split at h
    .rename_i e G;split at h
     .cases h
     .rename_i F;have m:E≠[]:=by rintro rfl;exact F (by rw[<-A];rfl)
      split at h
      .refine⟨_,_,[E≠[]],h,⟨m,aB⟩,λyK=> ?_⟩;unfold gK;rcases f with f|⟨id,f⟩ <;> (rw[f,j];dsimp only;unfold ja;rw[G];rfl)
      .refine⟨_,_,[E≠[]],h,⟨m,aB⟩,λyK=> ?_⟩;unfold gK;rcases f with f|⟨id,f⟩ <;> (rw[f,j];dsimp only;unfold ja;rw[G];rfl)
      .cases h
    .cases h
   .exact ZEF h
def DY(k:IntKind):Num->yO TP
 |.u8 b=>match k with
  |.u8=>ab (.v .u8 b)
  |.u32=>ab (.v .u32 (UInt32.ofNat b.toNat))
  |.u64=>ab (.v .u64 (UInt64.ofNat b.toNat))
  |.i64=>ab (.v (.int .i64) (b.toNat:Int))
  |_=>ad
 |.u32 b=>match k with
  |.u32=>ab (.v .u32 b)
  |.u64=>ab (.v .u64 (UInt64.ofNat b.toNat))
  |.i64=>ab (.v (.int .i64) (b.toNat:Int))
  |_=>ad
 |.u64 b=>match k with
  |.u64=>ab (.v .u64 b)
  |_=>ad
 |.i _ _=>ad
theorem ZzC{k:IntKind}{a:Num}{z:TP}(h:DY k a=ab z):Wa k a.n/\z.pe=.int k a.n:=by
 unfold DY at h;split at h
 .rename_i b;have:=b.toNat_lt;split at h <;> first|cases h|skip
  all_goals
   refine⟨?_, ?_⟩
   .simp only[Wa,IntKind.min,IntKind.max,IntKind.signed,IntKind.bits,Num.n];constructor <;> simp<;> omega
   .simp only[TP.pe,Ty.enc,Num.n,UInt32.toNat_ofNat',UInt64.toNat_ofNat']
    try (congr 2;omega)
 .rename_i b;have:=b.toNat_lt;split at h <;> first|cases h|skip
  all_goals
   refine⟨?_, ?_⟩
   .simp only[Wa,IntKind.min,IntKind.max,IntKind.signed,IntKind.bits,Num.n];constructor <;> simp<;> omega
   .simp only[TP.pe,Ty.enc,Num.n,UInt32.toNat_ofNat',UInt64.toNat_ofNat']
    try (congr 2;omega)
 .rename_i b;have:=b.toNat_lt;split at h <;> first|cases h|skip
  refine⟨?_,rfl⟩;simp only[Wa,IntKind.min,IntKind.max,IntKind.signed,IntKind.bits,Num.n];constructor <;> simp<;> omega
 .cases h
def bytesOf(l:yL yB):ByteArray:=⟨l.toArray⟩
theorem Zxq(l:yL yB):l.map (Ty.enc .u8)=(bytesOf l).data.toList.map λx=>.int .u8 (x.toNat:Int):=rfl
def ZLr(P:yg)(e:yc)(K:TD->yL ao->yO O)(r:Row):yO O:=
 (Ty.bu r.t .u8 r.l).bind λl=>match P.underlying e with
   |some (.int .u8)=>K (.p (.v .str (bytesOf l))) [.el (.str (bytesOf l))]
   |_=>ad
def DZ:TD->yO ByteArray
 |.p (.v t s)=>match t with
  |.str=>ab s
  |_=>ad
 |_=>ad
theorem ZHI{L:Lk}{x:TD}{b:ByteArray}(h:DZ x=ab b):x.er L=.p (.str b):=by
 unfold DZ at h;split at h
 .split at h
  .cases h;rfl
  .cases h
 .cases h
def EA(L:Lk)(P:yg)(src dst:yc)(K:TD->yL ao->yO O)(x:TD):yO O:=
 match P.underlying src,P.underlying dst with
 |some _,ab (.int k)=>x.num.bind λa=>match DY k a with
  |some z=>K (.p z) [.bare]
  |none=>K (.p (vA k a.n)) [.raw]
 |some (.slice e),ab .string=>(x.row L).bind (ZLr P e K)
 |some .string,ab (.slice e)=>(DZ x).bind λb=>match P.underlying e with
  |some (.int .u8)=>if ag (b.size<=maxLen)=ae then K (.p (.sl (ab ae) .u8 b.data.toList)) [] else ad
  |_=>ad
 |_,_=>ad
theorem ZzD{src dst:yc}{x:yp}{K:TD->yL ao->yO O}{I:TD}{out:O}(ho:o.op=.convert src dst x)(Q:bn P ts src x=ab I)(h:EA L P src dst K I=ab out):∃d hs,K d hs=ab out/\dz L P o ts d hs:=by
 have j:=Zt (L:=L) Q;unfold EA at h;split at h
 .rename_i q k f g;obtain⟨a,y,h⟩:=yf.1 h;rw[QG y]at j;split at h
  .rename_i z R;obtain⟨S,T⟩:=ZzC R;refine⟨_,_,h,[Wa k a.n],⟨S,aB⟩,λE=> ?_⟩;unfold bh;rw[ho];dsimp only;rw[f,g,j,TD.er,T];rfl
  .refine⟨_,_,h,[],zP,λE=> ?_⟩;unfold bh;rw[ho];dsimp only;rw[f,g,j,TD.er,ZA3];rfl
 .rename_i e f g;obtain⟨r,y,h⟩:=yf.1 h;unfold ZLr at h;obtain⟨l,m,F⟩:=yf.1 h;split at F
  .rename_i A;obtain⟨U,rt,W⟩:=r;obtain⟨M,m⟩:=ZH m;dsimp only at M m;subst M;subst m;refine⟨_,_,F,[l.map (Ty.enc .u8)=(bytesOf l).data.toList.map λx=>.int .u8 (x.toNat:Int)],⟨Zxq l,aB⟩,λE=> ?_⟩;unfold bh;rw[ho];dsimp only;rcases mq y with G|⟨id,G⟩
   .rw[f,g,j,G];dsimp only;rw[yaf,yz,A];dsimp only;rw[yW (show Ty.u8.size=1 from rfl)]
    rfl
   .rw[f,g,j,G];dsimp only;rw[yaf,yz,A];dsimp only;rw[yW (show Ty.u8.size=1 from rfl)]
    rfl
  .cases F
 .rename_i e f g;obtain⟨b,y,h⟩:=yf.1 h;split at h
  .rename_i A;obtain⟨m,h⟩:=Za h;refine⟨_,_,h,[b.size<=maxLen],⟨yF m,aB⟩,λE=> ?_⟩;unfold bh;rw[ho];dsimp only;rw[f,g,j,ZHI y];dsimp only;rw[A];rfl
  .cases h
 .cases h
def rx(P:yg)(ts:yL TD)(f:Nat->yc):yL (Nat×yp)->yO (yL (Nat×TD))
 |[]=>ab []
 |q::r=>match bn P ts (f q.1) q.2,rx P ts f r with
  |some d,ab l=>ab ((q.1,d)::l)
  |_,_=>ad
theorem vM{f:Nat->yc}:∀{parts:yL (Nat×yp)}{l:yL (Nat×TD)},rx P ts f parts=ab l->gR P (TD.aG L ts) f parts=l.map λq=>(q.1,q.2.er L)
 |[],l,h=>by cases h;rfl
 |q::r,l,h=>by
  simp only[rx]at h;split at h
  .rename_i d m g j;cases h;have:=vM j;simp only[gR,yah]at this ⊢;rw[this,Zt g]
  .cases h
def ry(L:Lk):yL TD->yL (Nat×TD)->yO (yL TD)
 |f,[]=>ab f
 |f,(i,d)::r=>match f[i]? with
  |some g=>if(g.er L).size=(d.er L).size then ry L (f.set i d) r else ad
  |none=>ad
theorem EB:∀{l:yL (Nat×TD)}{f es:yL TD},ry L f l=ab es->iE (TD.aG L f) (l.map λq=>(q.1,q.2.er L))=ab (TD.aG L es)
 |[],f,es,h=>by cases h;rfl
 |(i,d)::r,f,es,h=>by
  simp only[ry]at h;split at h
  .rename_i g j;split at h
   .rename_i m;have:=EB h;simp only[yah,iE,uq];rw[lj j];dsimp only;rw[yW m];rw[show(TD.aG L f).set i (d.er L)=TD.aG L (f.set i d) by rw[ZM,ZM,ybn]];exact this
   .cases h
  .cases h
def rz(P:yg):yL yc->yL Pl->yO (yL TP)
 |[],[]=>ab []
 |t::r,z::q=>match vD P t z,rz P r q with
  |some a,ab b=>ab (a::b)
  |_,_=>ad
 |_,_=>ad
theorem EC:∀{l:yL yc}{zs:yL Pl}{r:yL TP},rz P l zs=ab r->TP.cl r=zs
 |[],[],r,h=>by cases h;rfl
 |[],_::_,r,h=>by cases h
 |_::_,[],r,h=>by cases h
 |t::l,z::zs,r,h=>by
  simp only[rz]at h;split at h
  .rename_i a b f g;cases h;rw[TP.cl,CU f,EC g]
  .cases h
def mw(L:Lk):yL TD->yO (yL TP)
 |[]=>ab []
 |d::r=>match d.plain L,mw L r with
  |some a,ab b=>ab (a::b)
  |_,_=>ad
theorem ZqM{x:TD}(h:x.plain L=ad):(x.er L).plain=ad:=by
 cases x <;> first|rfl|cases h
theorem ED:∀(f:yL TD),jt (TD.aG L f)=(mw L f).map TP.cl
 |[]=>rfl
 |d::r=>by
  simp only[TD.aG,jt,mw];rw[ED r]
  cases h:d.plain L with
  |none=>rw[ZqM h];cases mw L r <;> rfl
  |some a=>
   rw[ZtM h];cases mw L r <;> rfl
def EE(L:Lk)(P:yg)(t:yc)(f:yL TD):TD:=
 match mw L f with
 |some l=>.p (vB P t l)
 |none=>.agg f
theorem ZCK(t:yc)(f:yL TD):(EE L P t f).er L=qm (TD.aG L f):=by
 unfold EE qm;rw[ED]
 cases mw L f with
 |none=>rfl
 |some l=>simp only[TD.er,ZA4,yae]
theorem EF(l:yL TP):TD.aG L (l.map .p)=(TP.cl l).map .p:=by
 rw[ZM,WP,ybd,ybd];rfl
def EG(L:Lk)(P:yg)(ts:yL TD)(t:yc)(parts:yL (Nat×yp))(K:TD->yL ao->yO O):yO O:=
 match P.underlying t,bf P t with
 |some (.struct h),.p (.agg zs)=>(rz P (h.toList.map (·.type)) zs).bind λj=>(rx P ts (ju P t) parts).bind λf=>
  if(lU (f.map λq=>(q.1,q.2.er L))&&h.size==zs.length&&(yo zs.length).all λi=>ko P h i (Pl.sizes (zs.take i)) ((zs.getD i default).size) ((zs.getD i default).isAgg))=ae then
   (ry L (j.map .p) f).bind λg=>K (EE L P t g) [] else ad
 |some (.array _ e),.p (.arr n s zs)=>(rz P (yx zs.length e) zs).bind λj=>(rx P ts (ju P t) parts).bind λf=>
  if(lU (f.map λq=>(q.1,q.2.er L))&&P.cellsOf e=s&&(P.info? e).isSome)=ae then
   (ry L (j.map .p) f).bind λg=>match mw L g with
     |some l=>K (.p (vC P t n s l)) []
     |none=>K (.arr n s g) [] else ad
 |_,_=>ad
theorem Zxr{t:yc}{parts:Array (Nat×yp)}{K:TD->yL ao->yO O}{out:O}(ho:o.op=.build t parts)(h:EG L P ts t parts.toList K=ab out):∃d hs,K d hs=ab out/\dz L P o ts d hs:=by
 unfold EG at h;split at h
 .rename_i R zs f g;obtain⟨M,z,h⟩:=yf.1 h;obtain⟨Q,j,h⟩:=yf.1 h;obtain⟨y,h⟩:=Za h;obtain⟨F,A,h⟩:=yf.1 h;refine⟨_,_,h,[],zP,λG=> ?_⟩;simp only[yz];unfold bh;rw[ho];dsimp only;rw[f,g];dsimp only;rw[vM j,yW y];have:=EB A;rw[EF,EC z]at this;rw[this,ZCK];rfl
 .rename_i m e n s zs f g;obtain⟨M,z,h⟩:=yf.1 h;obtain⟨Q,j,h⟩:=yf.1 h;obtain⟨y,h⟩:=Za h;obtain⟨F,A,h⟩:=yf.1 h;have:=EB A;rw[EF,EC z]at this;have I:=ED (L:=L) F;split at h
  .rename_i l E;refine⟨_,_,h,[],zP,λG=> ?_⟩;simp only[yz];unfold bh;rw[ho];dsimp only;rw[f,g];dsimp only;rw[vM j,yW y,this,ya,I,E,TD.er,ZA5];rfl
  .rename_i E;refine⟨_,_,h,[],zP,λG=> ?_⟩;simp only[yz];unfold bh;rw[ho];dsimp only;rw[f,g];dsimp only;rw[vM j,yW y,this,ya,I,E];rfl
 .cases h
def vN(L:Lk)(P:yg)(ts:yL TD)(e:yc)(T:Ty):yL (Nat×yp)->yO (yL T.aU)
 |[]=>ab []
 |q::r=>match (bn P ts e q.2).bind (TD.flat L) with
  |some x=>if x.pe.size=P.cellsOf e then kD (TP.to jF x T) (vN L P ts e T r) |>.map λp=>p.1::p.2 else ad
  |none=>ad
theorem ZBa{e:yc}{T:Ty}:∀{parts:yL (Nat×yp)}{l:yL T.aU},vN L P ts e T parts=ab l->
 ∃xs,Dv.aS (parts.map λq=>aF P (TD.aG L ts) e q.2)=ab xs/\xs.all (λx=>x.size==P.cellsOf e)=ae/\xs.map Pl.soft=l.map T.enc
 |[],l,h=>by cases h;exact⟨[],rfl,rfl,rfl⟩
 |q::r,l,h=>by
  simp only[vN]at h;split at h
  .rename_i x f;obtain⟨d,g,j⟩:=yf.1 f;split at h
   .rename_i hs;obtain⟨p,m,rfl⟩:=Zd h;obtain⟨y,z⟩:=pd m;obtain⟨xs,A,E,F⟩:=ZBa z;refine⟨x.pe::xs, ?_, ?_, ?_⟩
    .simp only[yah,Dv.aS];rw[Zt g,CV j,A]
    .simp only[List.all_cons,yi,yT];exact⟨hs,E⟩
    .rw[yah,nK x T _ y,F,yah]
   .cases h
  .cases h
def ph(L:Lk)(P:yg)(ts:yL TD)(t:yc)(len:Nat)(parts:yL (Nat×yp))(K:(T:Ty)->yL T.aU->yc->yO O):yO O:=
 match P.underlying t with
 |some (.slice e)=>(gD P ij e).bind λT=>(P.info? e).bind λi=>(vN L P ts e T parts).bind λl=>
  if(parts.map (·.1)==yo len)&&(cu i&&i.size !=0&&ag (len*i.size<=16777216))&&(ag (i.size=T.size)&&ag (P.cellsOf e=i.size)) then K T l e else ad
 |_=>ad
theorem vO{t:yc}{len:Nat}{parts:yL (Nat×yp)}{K:(T:Ty)->yL T.aU->yc->yO O}{out:O}(h:ph L P ts t len parts K=ab out):
 ∃e T l i xs,K T l e=ab out/\P.underlying t=ab (.slice e)/\P.info? e=ab i/\XB P (TD.aG L ts) e (P.cellsOf e) len parts=ab xs/\(cu i&&i.size !=0&&ag (len*i.size<=16777216))=ae/\i.size=T.size/\xs.map Pl.soft=l.map T.enc:=by
 unfold ph at h;split at h
 .rename_i e g;obtain⟨T,E,h⟩:=yf.1 h;obtain⟨i,j,h⟩:=yf.1 h;obtain⟨l,m,h⟩:=yf.1 h;obtain⟨f,h⟩:=Za h;simp only[yi,yP]at f;obtain⟨xs,y,z,A⟩:=ZBa m;refine⟨e,T,l,i,xs,h,g,j, ?_, ?_,f.2.1,A⟩
  .unfold XB;rw[yW f.1.1,y];dsimp only;rw[yW z]
  .simp only[yi,yP];exact f.1.2
 .cases h
def EH(L:Lk)(P:yg)(t:yc)(K:TD->yL ao->yO O)(x:TD):yO O:=
 match P.underlying t with
 |some (.slice _)=>match x with
  |.view _ _ _ _ n=>K (.p (.v (.int .i64) (n:Int))) []
  |.rv _ _ _ _ n=>K (.p (.v (.int .i64) (n:Int))) []
  |x=>(x.row L).bind λr=>K (.p (.v (.int .i64) (r.l.length:Int))) []
 |some (.array n _)=>K (.p (.v (.int .i64) (n:Int))) []
 |some .string=>match x with
  |.p x=>x.lm.bind λs=>K (.p (.v (.int .i64) (s.size:Int))) []
  |_=>ad
 |_=>ad
theorem ZCM{t:yc}{x:yp}{c:Call}{K:TD->yL ao->yO O}{y:TD}{out:O}(ho:o.op=.call c)(hc:c.callee=.builtin .len)(ha:c.args.toList=[x])(ht:c.argTypes.toList=[t])
 (z:bn P ts t x=ab y) (h:EH L P t K y=ab out):∃d hs,K d hs=ab out/\dz L P o ts d hs:=by
 have g:=Zt (L:=L) z;unfold EH at h;split at h
 .rename_i e f;split at h
  .refine⟨_,_,h,[],zP,λj=> ?_⟩;simp only[yz];unfold bh;rw[ho];dsimp only;rw[hc];dsimp only;rw[ha,ht];dsimp only;rw[f,g];rfl
  .refine⟨_,_,h,[],zP,λj=> ?_⟩;simp only[yz];unfold bh;rw[ho];dsimp only;rw[hc];dsimp only;rw[ha,ht];dsimp only;rw[f,g];rfl
  .obtain⟨r,l,h⟩:=yf.1 h;refine⟨_,_,h,[],zP,λj=> ?_⟩;simp only[yz];unfold bh;rw[ho];dsimp only;rw[hc];dsimp only;rw[ha,ht];dsimp only;rcases mq l with m|⟨id,m⟩
   .rw[f,g,m];dsimp only;rw[yad];rfl
   .rw[f,g,m];dsimp only;rw[yad];rfl
 .rename_i n e f;refine⟨_,_,h,[],zP,λj=> ?_⟩;simp only[yz];unfold bh;rw[ho];dsimp only;rw[hc];dsimp only;rw[ha,ht];dsimp only;rw[f];rfl
 .rename_i f;split at h
  .obtain⟨s,l,h⟩:=yf.1 h;refine⟨_,_,h,[],zP,λj=> ?_⟩;simp only[yz];unfold bh;rw[ho];dsimp only;rw[hc];dsimp only;rw[ha,ht];dsimp only;rw[f,g,TD.er,ZA8 l];rfl
  .cases h
 .cases h
def my(L:Lk)(P:yg)(T:Ty)(u:yc)(x:TD):yO (yL T.aU):=
 match P.underlying u with
 |some (.slice _)=>(x.row L).bind λr=>Ty.bu r.t T r.l
 |some .string=>match x,T with
  |.p (.v .str s),.u8=>ab (gi s)
  |_,_=>ad
 |_=>ad
theorem pi{T:Ty}{u:yc}{x:TD}{l:yL T.aU}(h:my L P T u x=ab l):gU P T.size u (x.er L)=ab (l.map T.enc):=by
 unfold my at h;split at h
 .rename_i e f;obtain⟨r,j,h⟩:=yf.1 h;obtain⟨e,m⟩:=ZH h;obtain⟨y,t,z⟩:=r;dsimp only at e m j;subst e;subst m;unfold gU;rcases mq j with g|⟨id,g⟩
  .rw[f,g];dsimp only;rw[yW (.inl rfl)]
  .rw[f,g];dsimp only;rw[yW rfl]
 .rename_i f;split at h
  .rename_i s;cases h;unfold gU;rw[f];rfl
  .cases h
 .cases h
def TD.boolT:TD->yO Bool
 |.p x=>x.ik
 |_=>ad
theorem pj{x:TD}{b:Bool}(h:x.boolT=ab b):x.er L=.p (.bool b):=by
 unfold TD.boolT at h;split at h
 .rw[TD.er,ZEt h]
 .cases h
def TD.inner:TD->yO TP
 |.p x=>ab x
 |_=>ad
theorem Y3{x:TD}{y:TP}(h:x.inner=ab y):x=.p y:=by
 unfold TD.inner at h;split at h
 .cases h;rfl
 .cases h
def EI(L:Lk)(P:yg)(t:yc)(i:Int)(K:TD->yL ao->yO O)(a:TD):yO O:=
 match a with
 |.arr f s g=>match P.underlying t with
  |some (.array n e)=>(g[i.toNat]?).bind λd=>if ag (0<=i)&&ag (n=f)&&okB P e s&&(Xt P e==(d.er L).isAgg)&&((P.underlying e).isSome&&s !=0) then K d [] else ad
  |_=>ad
 |a=>a.inner.bind (CZ P t i K)
theorem Zxt{t:yc}{x ix:yp}{K:TD->yL ao->yO O}{g:TD}{q:IntKind×Int}{j:TP}{out:O}(ho:o.op=.index t x ix)(f:bn P ts t x=ab g)(hi:bn P ts 0 ix=ab (.p j))(hq:ji j=ab q)
 (h:EI L P t q.2 K g=ab out):∃d hs,K d hs=ab out/\dz L P o ts d hs:=by
 unfold EI at h;split at h
 .rename_i T s U;split at h
  .rename_i n e y;obtain⟨d,z,h⟩:=yf.1 h;obtain⟨l,h⟩:=Za h;have A:=Zt (L:=L) f;have m:=Zt (L:=L) hi;rw[TD.er,(pf hq).1]at m;simp only[okB,yi,yP]at l;obtain⟨⟨⟨⟨E,F⟩,G,I⟩,M⟩,Q,R⟩:=l;refine⟨d,[],h,[0<=q.2],⟨E,aB⟩,λW=> ?_⟩;unfold bh;rw[ho];dsimp only;rw[y,A,m,TD.er];dsimp only;rw[lj z];dsimp only;rw[yW (by simp only[yi,yP];exact⟨⟨⟨⟨⟨F,G⟩,M⟩,Q⟩,I⟩,R⟩)];rfl
  .cases h
 .obtain⟨X,S,h⟩:=yf.1 h;rw[Y3 S]at f;exact Zxm ho f hi hq h
def rC(P:yg)(ts:yL TD):yL yp->yO (yL TD)
 |[]=>ab []
 |x::r=>match bn P ts 0 x,rC P ts r with
  |some a,ab b=>ab (a::b)
  |_,_=>ad
theorem EJ:∀{l:yL yp}{f:yL TD},rC P ts l=ab f->l.map (aF P (TD.aG L ts) 0)=TD.aG L f
 |[],f,h=>by cases h;rfl
 |x::l,f,h=>by
  simp only[rC]at h;split at h
  .rename_i a b g j;cases h;rw[yah,Zt g,EJ j];rfl
  .cases h
def ZI8(P:yg)(t:yc)(K:TD->yL ao->yO O):TD->yO O
 |.elem x=>if ag (P.cellsOf t=x.pe.size)&&(Xt P t==x.pe.isAgg&&((P.underlying t).isSome&&(P.info? t).isSome)) then K (.p x) [] else ad
 |_=>ad
def ZI9(L:Lk)(P:yg)(ts:yL TD)(t u:yc)(x y:yp)(K:TD->yL ao->yO O):yO O:=
 match P.underlying t,bn P ts t x with
 |some (.slice e),ab (.p (.sl (ab af) _ []))=>(P.info? e).bind λi=>(gD P ij e).bind λT=>(bn P ts u y).bind λf=>(my L P T u f).bind λl=>
  if(cu i&&i.size !=0)&&(ag (P.cellsOf e=T.size)&&ag (i.size=T.size)) then if nM l.length i.bytes=ae then K (.p (.sl ad T l)) [.iB] else ad else ad
 |_,_=>ad
def EK(P:yg)(t:yc)(l h m:yO Int)(K:TD->yL ao->yO O):TD->yO O
 |.rv _ _ _ _ n=>match P.underlying t with
  |some (.slice e)=>l.bind λl=>h.bind λh=>m.bind λm=>if(P.info? e).isSome=ae then if(ag (0<=l)&&ag (l<=h)&&ag (h<=m)&&ag (m<=(n:Int)))=ae then K .an [] else ad else ad
  |_=>ad
 |_=>ad
theorem Zva{t:yc}{x j:yp}{lo hi:yO yp}{l y m:yO Int}{K:TD->yL ao->yO O}{z:TD}{out:O}(ho:o.op=.slice t x lo hi (ab j))(G:bn P ts t x=ab z)(hl:ft P ts lo=ab l)(g:ft P ts hi=ab y)(hm:ft P ts (ab j)=ab m)
 (h:EK P t l y m K z=ab out):∃d hs,K d hs=ab out/\dz L P o ts d hs:=by
 have I:=Zt (L:=L) G;have hl:=QF (L:=L) hl;have g:=QF (L:=L) g;have hm:=QF (L:=L) hm;unfold EK at h;split at h
 .rename_i id v s U n;split at h
  .rename_i e M;obtain⟨A,Q,h⟩:=yf.1 h;obtain⟨E,R,h⟩:=yf.1 h;obtain⟨F,S,h⟩:=yf.1 h;subst Q;subst R;subst S;obtain⟨T,h⟩:=Za h;obtain⟨f,h⟩:=Za h;simp only[yi,yP]at f;refine⟨_,_,h,[0<=A,A<=E,E<=F,F<=(n:Int)],⟨f.1.1.1,f.1.1.2,f.1.2,f.2,aB⟩,λW=> ?_⟩;simp only[yz];unfold bh;rw[ho];dsimp only;rw[M,I,hl,g,hm];dsimp only[TD.er];rw[yW T]
  .cases h
 .cases h
def EL(P:yg)(t:yc)(K:TD->yL ao->yO O)(r:Row):yO O:=
 match P.underlying t with
 |some (.array n e)=>if(n !=0)=ae then if ag (n<=r.l.length)=ae then K (.elem (.v (.arr n r.t) (r.l.take n))) [] else ad else ad
 |_=>ad
theorem Zvc{t:yc}{x:yp}{K:TD->yL ao->yO O}{j:TD}{r:Row}{out:O}(ho:o.op=.sliceToArrayPointer t x)(A:bn P ts 0 x=ab j)(E:j.row L=ab r)
 (h:EL P t K r=ab out):∃d hs,K d hs=ab out/\dz L P o ts d hs:=by
 have m:=Zt (L:=L) A;unfold EL at h;split at h
 .rename_i n e y;obtain⟨z,h⟩:=Za h;obtain⟨f,h⟩:=Za h;have f:=yF f;refine⟨_,_,h,[n<=(r.l.map r.t.enc).length],⟨by rw[yad];exact f,aB⟩,λF=> ?_⟩;simp only[yz];unfold bh;rw[ho];dsimp only;rcases mq E with g|⟨id,g⟩
  .rw[y,m,g];dsimp only;rw[yW z, <-List.map_take];rfl
  .rw[y,m,g];dsimp only;rw[yW z, <-List.map_take];rfl
 .cases h
abbrev _root_.aLu:=yL yB
def EM(L:Lk)(x:TD):yO aLu:=(x.row L).bind λr=>Ty.bu r.t .u8 r.l
def ZLs(L:Lk)(K:TD->yL ao->yO O)(a b:TD):yO O:=(EM L a).bind λl=>(EM L b).bind λm=>K (.p (.v (.int .i64) (Go.Lib.compareBytes l m))) [.el (.str (bytesOf l)),.el (.str (bytesOf m))]
theorem ZBb{L:Lk}{x:TD}{l:yL yB}(h:EM L x=ab l):∃nn,(x.er L).cr []=.p (.sl nn 1 (gS (bytesOf l))):=by
 obtain⟨r,m,f⟩:=yf.1 h;obtain⟨nn,rt,y⟩:=r;obtain⟨j,f⟩:=ZH f;dsimp only at j f;subst j;subst f;rcases mq m with g|⟨id,g⟩
 .rw[g];exact⟨_,rfl⟩
 .rw[g];exact⟨_,rfl⟩
def EN:Num->yO TP
 |.u8 b=>ab (.v .u8 (255^^^b))
 |.u32 b=>ab (.v .u32 (4294967295^^^b))
 |.u64 b=>ab (.v .u64 (18446744073709551615^^^b))
 |.i _ _=>ad
theorem ZHK{a:Num}{z:TP}(h:EN a=ab z):a.k.signed=af/\z.pe=.int a.k (bits .xor a.k a.k.max a.n):=by
 unfold EN at h;split at h
 .rename_i b;cases h;exact⟨rfl,congrArg (Pl.int .u8) (ZI7 .xor 255 b).symm⟩
 .rename_i b;cases h;exact⟨rfl,congrArg (Pl.int .u32) (ZEv .xor 4294967295 b).symm⟩
 .rename_i b;cases h;exact⟨rfl,congrArg (Pl.int .u64) (ZEA .xor 18446744073709551615 b).symm⟩
 .cases h
def EO(L:Lk)(P:yg)(o:yj)(ts:yL TD)(K:TD->yL ao->yO O):yO O:=
 match o.op with
 |.move x=>(bn P ts o.type x).bind λd=>K d [.raw]
 |.assign x=>(bn P ts o.type x).bind λd=>K d [.raw]
 |.pick c a b=>((bn P ts 0 c).bind TD.boolT).bind λt=>(bn P ts o.type a).bind λF=>(bn P ts o.type b).bind λG=>if t=ae then K F [.b ae] else K G [.b af]
 |.nilCheck x=>match bn P ts 0 x with
  |some (.ak id p)=>K (.ak id p) []
  |some (.elem y)=>K (.elem y) []
  |some (.aZ id v p)=>K (.aZ id v p) []
  |some (.rp id p)=>K (.rp id p) []
  |some (.fn f c)=>K (.fn f c) []
  |_=>ad
 |.binOp I t x y M=>(bn P ts t x).bind λa=>(bn P ts M y).bind λb=>DX L P I t a b K
 |.unOp .not _ x=>((bn P ts 0 x).bind TD.boolT).bind λt=>K (.p (.v .bool (!t))) []
 |.unOp .neg _ x=>((bn P ts 0 x).bind TD.num).bind λa=>K (.p (vA a.k (0 - a.n))) [.raw]
 |.unOp .xor _ x=>((bn P ts 0 x).bind TD.num).bind λa=>(EN a).bind λz=>K (.p z) []
 |.convert src dst x=>(bn P ts src x).bind (EA L P src dst K)
 |.makeFunc (.func f) first captured=>if(first.isEmpty&&ag (f < big))=ae then(rC P ts captured.toList).bind λj=>K (.fn f j) [] else if captured.isEmpty=ae then(rC P ts first.toList).bind λj=>K (.fn (f+big) j) [] else ad
 |.makeInterface t x=>match P.underlying t with
  |some (.interface _)=>ad
  |some _=>(bn P ts t x).bind λd=>K (.iface t d) []
  |none=>ad
 |.field t x i=>(bn P ts t x).bind (CW L P t i K)
 |.fieldAddr t x i=>(bn P ts 0 x).bind (CX P t i K)
 |.indexAddr t x ix=>(bn P ts t x).bind λa=>(bn P ts 0 ix).bind λb=>b.inner.bind λA=>(ji A).bind λq=>CY L P t q.2 K a
 |.index t x ix=>(bn P ts t x).bind λa=>(bn P ts 0 ix).bind λb=>b.inner.bind λA=>(ji A).bind λq=>EI L P t q.2 K a
 |.slice t x lo E ad=>(bn P ts t x).bind λa=>(ft P ts lo).bind λl=>(ft P ts E).bind λh=>DA L P t l h K a
 |.slice t x lo E (ab Q)=>(bn P ts t x).bind λa=>(ft P ts lo).bind λl=>(ft P ts E).bind λh=>(ft P ts (ab Q)).bind λm=>EK P t l h m K a
 |.sliceToArrayPointer t x=>(bn P ts 0 x).bind λa=>(a.row L).bind (EL P t K)
 |.extract x i=>match bn P ts 0 x with
  |some (.bm j)=>(j[i]?).bind λd=>K d []
  |_=>ad
 |.load t x=>(bn P ts 0 x).bind (ZI8 P t K)
 |.build t parts=>EG L P ts t parts.toList K
 |.buildSlice t len parts=>ph L P ts t len parts.toList λT l _=>K (.p (.sl (ab ae) T l)) [.iB]
 |.call c=>match c.callee with
  |.builtin .len=>match c.args.toList,c.argTypes.toList with
   |[x],[t]=>(bn P ts t x).bind (EH L P t K)
   |_,_=>ad
  |.builtin .max=>match c.args.toList,c.argTypes.toList with
   |[x,y],[t,u]=>((bn P ts t x).bind TD.num).bind λa=>((bn P ts u y).bind TD.num).bind λb=>if(ag (a.k=.i64)&&ag (b.k=.i64))=ae then K (.p (.v (.int .i64) (ZMw a.n b.n))) [] else ad
   |_,_=>ad
  |.builtin .min=>match c.args.toList,c.argTypes.toList with
   |[x,y],[t,u]=>((bn P ts t x).bind TD.num).bind λa=>((bn P ts u y).bind TD.num).bind λb=>if(ag (a.k=.i64)&&ag (b.k=.i64))=ae then K (.p (.v (.int .i64) (vF a.n b.n))) [] else ad
   |_,_=>ad
  |.builtin .append=>match c.args.toList,c.argTypes.toList with
   |[x,y],[t,u]=>ZI9 L P ts t u x y K
   |_,_=>ad
  |.value f=>match bn P ts 0 f with
   |some (.fn g [])=>if(nf P g&&c.args.size==c.argTypes.size)=ae then match c.args.toList,c.argTypes.toList with
     |[x,y],[t,u]=>(bn P ts t x).bind λa=>(bn P ts u y).bind λb=>ZLs L K a b
     |_,_=>ad
    else ad
   |_=>ad
  |_=>ad
 |_=>ad
theorem ZEJ{K:TD->yL ao->yO O}{out:O}(h:EO L P o ts K=ab out):∃d hs,K d hs=ab out/\dz L P o ts d hs:=by
 unfold EO at h;split at h
 .rename_i x A;obtain⟨d,j,h⟩:=yf.1 h;refine⟨_,_,h,[],zP,λF=> ?_⟩;unfold bh;rw[A];dsimp only;rw[Zt j];rfl
 .rename_i x A;obtain⟨d,j,h⟩:=yf.1 h;refine⟨_,_,h,[],zP,λF=> ?_⟩;unfold bh;rw[A];dsimp only;rw[Zt j];rfl
 .rename_i c a b A;obtain⟨t,j,h⟩:=yf.1 h;obtain⟨cd,U,j⟩:=yf.1 j;obtain⟨da,E,h⟩:=yf.1 h;obtain⟨db,G,h⟩:=yf.1 h;split at h
  .rename_i I;refine⟨_,_,h,[t=ae],⟨I,aB⟩,λF=> ?_⟩;unfold bh;rw[A];dsimp only;rw[Zt U,pj j,Zt E];rfl
  .rename_i I;refine⟨_,_,h,[t=af],⟨by simpa using I,aB⟩,λF=> ?_⟩;unfold bh;rw[A];dsimp only;rw[Zt U,pj j,Zt G];rfl
 .rename_i x A;split at h
  all_goals first|cases h;done|skip
  all_goals
   rename_i W;refine⟨_,_,h,[],zP,λF=> ?_⟩;simp only[yz];unfold bh;rw[A];dsimp only;rw[Zt W];rfl
 .rename_i op t x y yt A;obtain⟨a,j,h⟩:=yf.1 h;obtain⟨b,E,h⟩:=yf.1 h;obtain⟨d,hs,C,G,Q,M⟩:=ZCJ h;refine⟨d,hs,G,C,Q,λF=> ?_⟩;unfold bh;rw[A];dsimp only;rw[Zt j,Zt E];exact M F
 .rename_i t x A;obtain⟨b,j,h⟩:=yf.1 h;obtain⟨xd,U,j⟩:=yf.1 j;refine⟨_,_,h,[],zP,λF=> ?_⟩;simp only[yz];unfold bh;rw[A];dsimp only;rw[Zt U,pj j];rfl
 .rename_i t x A;obtain⟨a,j,h⟩:=yf.1 h;obtain⟨xd,U,j⟩:=yf.1 j;refine⟨_,_,h,[],zP,λF=> ?_⟩;unfold bh;rw[A];dsimp only;rw[Zt U,QG j,TD.er,ZA3];rfl
 .rename_i t x A;obtain⟨a,j,h⟩:=yf.1 h;obtain⟨xd,U,j⟩:=yf.1 j;obtain⟨z,E,h⟩:=yf.1 h;obtain⟨e1,e2⟩:=ZHK E;refine⟨_,_,h,[],zP,λF=> ?_⟩;unfold bh;rw[A];dsimp only;rw[Zt U,QG j,TD.er,e2];dsimp only;rw[e1];rfl
 .rename_i src dst x A;obtain⟨a,j,h⟩:=yf.1 h;exact ZzD A j h
 .rename_i f first captured A
  split at h
  .rename_i Y;obtain⟨ds,j,h⟩:=yf.1 h;refine⟨_,_,h,[],zP,λF=> ?_⟩;simp only[yz];unfold bh;rw[A];dsimp only;rw[yW Y,EJ j];rfl
  .rename_i Y;split at h
   .rename_i hf2;obtain⟨ds,j,h⟩:=yf.1 h;refine⟨_,_,h,[],zP,λF=> ?_⟩;simp only[yz];unfold bh;rw[A];dsimp only;rw[yX Y,yW hf2,EJ j];rfl
   .cases h
 .rename_i t x A;split at h
  .cases h
  .rename_i u Z hne;obtain⟨d,j,h⟩:=yf.1 h;refine⟨_,_,h,[],zP,λF=> ?_⟩;simp only[yz];unfold bh;rw[A];dsimp only;rw[Zt j,hne];split
   .rename_i ms hh;exact absurd (Option.some.inj hh) (Z ms)
   .rfl
   .rename_i hh;cases hh
  .cases h
 .rename_i t x i A;obtain⟨a,j,h⟩:=yf.1 h;obtain⟨d,E,G⟩:=Zoz h;refine⟨_,_,E,[],zP,λF=> ?_⟩;simp only[yz];unfold bh;rw[A];dsimp only;rw[Zt j,G];rfl
 .rename_i t x i A;obtain⟨a,j,h⟩:=yf.1 h;exact Zpl A j h
 .rename_i t x ix A;obtain⟨a,j,h⟩:=yf.1 h;obtain⟨b,E,h⟩:=yf.1 h;obtain⟨ip,G,h⟩:=yf.1 h;obtain⟨q,Q,h⟩:=yf.1 h;rw[Y3 G]at E;exact Zpm (id:=.an) A j E Q h
 .rename_i t x ix A;obtain⟨a,j,h⟩:=yf.1 h;obtain⟨b,E,h⟩:=yf.1 h;obtain⟨ip,G,h⟩:=yf.1 h;obtain⟨q,Q,h⟩:=yf.1 h;rw[Y3 G]at E;exact Zxt A j E Q h
 .rename_i t x lo hi A;obtain⟨a,j,h⟩:=yf.1 h;obtain⟨l,E,h⟩:=yf.1 h;obtain⟨r,G,h⟩:=yf.1 h;exact Zxn A j E G h
 .rename_i t x lo hi mx A;obtain⟨a,j,h⟩:=yf.1 h;obtain⟨l,E,h⟩:=yf.1 h;obtain⟨r,G,h⟩:=yf.1 h;obtain⟨m,Q,h⟩:=yf.1 h;exact Zva A j E G Q h
 .rename_i t x A;obtain⟨a,j,h⟩:=yf.1 h;obtain⟨r,E,h⟩:=yf.1 h;exact Zvc A j E h
 .rename_i x i A;split at h
  .rename_i ds W;obtain⟨d,j,h⟩:=yf.1 h;refine⟨_,_,h,[],zP,λF=> ?_⟩;simp only[yz];unfold bh;rw[A];dsimp only;rw[Zt W];dsimp only[TD.er];rw[lj j];rfl
  .cases h
 .rename_i t x A;obtain⟨a,j,h⟩:=yf.1 h;unfold ZI8 at h;split at h
  .obtain⟨E,h⟩:=Za h;refine⟨_,_,h,[],zP,λF=> ?_⟩;simp only[yz];unfold bh;rw[A];dsimp only;rw[Zt j];dsimp only[TD.er];rw[yW (by simpa[and_assoc] using E)]
  .cases h
 .rename_i t parts A;exact Zxr A h
 .rename_i t len parts A;obtain⟨e,T,l,i,xs,j,Z,hi,hl,hz,hs,W⟩:=vO h;refine⟨_,_,j,[],zP,λF=> ?_⟩;unfold bh;rw[A];dsimp only;rw[yaf,yz];dsimp only;rw[Z];dsimp only;rw[hi,hl];dsimp only;rw[yW (by simpa using hz),W,hs];rfl
 .rename_i c A;split at h
  .rename_i R;split at h
   .rename_i x t S I;obtain⟨a,j,h⟩:=yf.1 h;exact ZCM A R S I j h
   .cases h
  .rename_i R;split at h
   .rename_i x y t u S I;obtain⟨m,j,h⟩:=yf.1 h;obtain⟨n,E,h⟩:=yf.1 h;obtain⟨xd,g1,g2⟩:=yf.1 j;obtain⟨yd,g3,g4⟩:=yf.1 E;obtain⟨M,h⟩:=Za h;simp only[yi,yP]at M;refine⟨_,_,h,[],zP,λF=> ?_⟩;simp only[yz];unfold bh;rw[A];dsimp only;rw[R];dsimp only;rw[S,I];dsimp only;rw[Zt g1,Zt g3,QG g2,QG g4,M.1,M.2];rfl
   .cases h
  .rename_i R;split at h
   .rename_i x y t u S I;obtain⟨m,j,h⟩:=yf.1 h;obtain⟨n,E,h⟩:=yf.1 h;obtain⟨xd,g1,g2⟩:=yf.1 j;obtain⟨yd,g3,g4⟩:=yf.1 E;obtain⟨M,h⟩:=Za h;simp only[yi,yP]at M;refine⟨_,_,h,[],zP,λF=> ?_⟩;simp only[yz];unfold bh;rw[A];dsimp only;rw[R];dsimp only;rw[S,I];dsimp only;rw[Zt g1,Zt g3,QG g2,QG g4,M.1,M.2];rfl
   .cases h
  .rename_i R;split at h
   .rename_i x y t u S I;unfold ZI9 at h;split at h
    .rename_i e T0 Z W;obtain⟨i,j,h⟩:=yf.1 h;obtain⟨T,E,h⟩:=yf.1 h;obtain⟨yd,G,h⟩:=yf.1 h;obtain⟨l,Q,h⟩:=yf.1 h;obtain⟨M,h⟩:=Za h;obtain⟨h6,h⟩:=Za h;simp only[yi,yP]at M;obtain⟨g1,g2⟩:=mf h6;refine⟨_,_,h,[(l.map T.enc).length*i.bytes<=Zs,(l.map T.enc).length<=maxLen],⟨by rw[yad];exact g1,by rw[yad];exact g2,aB⟩,λF=> ?_⟩;unfold bh;rw[A];dsimp only;rw[R];dsimp only;rw[S,I,yaf,yz];dsimp only;rw[Z,Zt W,Zt G,show(TD.p (TP.sl (ab af) T0 [])).er L=Dv.p (.sl (ab af) T0.size []) from rfl]
     dsimp only;rw[j,M.2.1,pi Q];dsimp only;rw[yW (by simpa using M.1)];rfl
    .cases h
   .cases h
  .rename_i f R;split at h
   .rename_i g Y;obtain⟨hk,h⟩:=Za h;split at h
    .rename_i x y t u S I;obtain⟨a,j,h⟩:=yf.1 h;obtain⟨b,E,h⟩:=yf.1 h;unfold ZLs at h;obtain⟨l,G,h⟩:=yf.1 h;obtain⟨m,Q,h⟩:=yf.1 h;obtain⟨n1,e1⟩:=ZBb G;obtain⟨n2,e2⟩:=ZBb Q;refine⟨_,_,h,[gS (bytesOf l)=gS (bytesOf l),gS (bytesOf m)=gS (bytesOf m)],⟨rfl,rfl,aB⟩,λF=> ?_⟩
     have hg:g < big:=by
      rw[yi]at hk;have X:=hk.1;unfold nf at X;rw[yi,yP]at X;exact X.1
     have e3:YJ P [] (TD.aG L ts) c g []=[.p (.sl n1 1 (gS (bytesOf l))),.p (.sl n2 1 (gS (bytesOf m)))]:=by
      unfold YJ;rw[yW hg,S,I];simp only[List.zip_cons_cons,List.zip_nil_right,yah,List.map_nil,List.append_nil];rw[Zt j,Zt E,e1,e2]
     unfold bh;rw[A];dsimp only;rw[R];dsimp only;rw[Zt Y,yaf,yaf,yz,show TD.er L (.fn g [])=Dv.fn g [] from rfl]
     dsimp only;rw[yW hk,e3];dsimp only;rw[yW ⟨rfl,rfl⟩];rfl
    .cases h
   .cases h
  .cases h
 .cases h
end
end Go.Ev
end
section
namespace Go.Ev
mutual
theorem rD{L M:Lk}(h:∀id t,Yb L id t ad=Yb M id t ad):∀(d:TD),d.er L=d.er M
 |.p _=>rfl
 |.elem _=>rfl
 |.ak _ _=>rfl
 |.own id g t c=>by
  cases c with
  |none=>rw[TD.er,TD.er,h]
  |some _=>rfl
 |.view _ _ _ _ _=>rfl
 |.agg f=>by rw[TD.er,TD.er,cD h f]
 |.arr _ _ f=>by rw[TD.er,TD.er,cD h f]
 |.fn _ f=>by rw[TD.er,TD.er,cD h f]
 |.iface _ x=>by rw[TD.er,TD.er,rD h x]
 |.bm f=>by rw[TD.er,TD.er,cD h f]
 |.mp _=>rfl
 |.rv _ _ _ _ _=>rfl
 |.aZ _ _ _=>rfl
 |.rw _=>by simp only[TD.er,eO,h]
 |.rp _ _=>by simp only[TD.er,eO,h]
 |.an=>rfl
theorem cD{L M:Lk}(h:∀id t,Yb L id t ad=Yb M id t ad):∀(f:yL TD),TD.aG L f=TD.aG M f
 |[]=>rfl
 |x::r=>by rw[TD.aG,TD.aG,rD h x,cD h r]
end
theorem ZEK{L M:Lk}(h:∀id t,Yb L id t ad=Yb M id t ad)(e:ah):e.er L=e.er M:=by
 cases e with
 |var d st=>rw[ah.er,ah.er,rD h]
 |row v s st e d=>rw[ah.er,ah.er,rD h]
 |bL t l v st e g j f=>rw[ah.er,ah.er,rD h]
 |_=>rfl
mutual
def TD.free(n:Nat):TD->Bool
 |.own id _ _ c=>c.isSome || id !=n
 |.rw id=>id !=n
 |.rp id _=>id !=n
 |.agg f=>TD.frees n f
 |.arr _ _ f=>TD.frees n f
 |.fn _ f=>TD.frees n f
 |.iface _ x=>TD.free n x
 |.bm f=>TD.frees n f
 |_=>ae
def TD.frees(n:Nat):yL TD->Bool
 |[]=>ae
 |x::r=>TD.free n x&&TD.frees n r
end
def ah.free(n:Nat):ah->Bool
 |.var d _=>d.free n
 |.row _ _ _ _ d=>d.free n
 |.bL _ _ _ _ _ _ d _=>d.free n
 |_=>ae
mutual
theorem kE{L M:Lk}{n:Nat}(h:∀id t,id≠n->Yb L id t ad=Yb M id t ad):∀(d:TD),d.free n=ae->d.er L=d.er M
 |.p _,_=>rfl
 |.elem _,_=>rfl
 |.ak _ _,_=>rfl
 |.own id j t c,f=>by
  cases c with
  |none=>
   have:id≠n:=by simpa[TD.free] using f
   rw[TD.er,TD.er,h id t this]
  |some _=>rfl
 |.view _ _ _ _ _,_=>rfl
 |.agg g,f=>by rw[TD.er,TD.er,cZ h g f]
 |.arr _ _ g,f=>by rw[TD.er,TD.er,cZ h g f]
 |.fn _ g,f=>by rw[TD.er,TD.er,cZ h g f]
 |.iface _ x,f=>by rw[TD.er,TD.er,kE h x f]
 |.bm g,f=>by rw[TD.er,TD.er,cZ h g f]
 |.mp _,_=>rfl
 |.rv _ _ _ _ _,_=>rfl
 |.aZ _ _ _,_=>rfl
 |.rw id,f=>by
  have:id≠n:=by simpa[TD.free] using f
  simp only[TD.er,eO,h id _ this]
 |.rp id _,f=>by
  have:id≠n:=by simpa[TD.free] using f
  simp only[TD.er,eO,h id _ this]
 |.an,_=>rfl
theorem cZ{L M:Lk}{n:Nat}(h:∀id t,id≠n->Yb L id t ad=Yb M id t ad):∀(f:yL TD),TD.frees n f=ae->TD.aG L f=TD.aG M f
 |[],_=>rfl
 |x::r,g=>by
  simp only[TD.frees,yi]at g;rw[TD.aG,TD.aG,kE h x g.1,cZ h r g.2]
end
mutual
def TD.stale(L:Lk)(n:Nat):TD->TD
 |.own id j t c=>if id=n then .own id j t (ab (Yb L id t c)) else .own id j t c
 |.agg h=>.agg (TD.cE L n h)
 |.arr m s h=>.arr m s (TD.cE L n h)
 |.fn f h=>.fn f (TD.cE L n h)
 |.iface t x=>.iface t (TD.stale L n x)
 |.bm h=>.bm (TD.cE L n h)
 |.p x=>.p x
 |.elem x=>.elem x
 |.ak id g=>.ak id g
 |.view id g s lo n=>.view id g s lo n
 |.mp id=>.mp id
 |.rv id v s lo n=>.rv id v s lo n
 |.aZ id v g=>.aZ id v g
 |.rw id=>if id=n then .rv id (eO L id 0) (eO L id 1) 0 (eO L id 2) else .rw id
 |.rp id g=>if id=n then .aZ id (eO L id 0) g else .rp id g
 |.an=>.an
def TD.cE(L:Lk)(n:Nat):yL TD->yL TD
 |[]=>[]
 |x::r=>TD.stale L n x::TD.cE L n r
end
def ah.stale(L:Lk)(n:Nat):ah->ah
 |.var d st=>.var (d.stale L n) st
 |.row v s st e d=>.row v s st e (d.stale L n)
 |.bL t h v st e g d f=>.bL t h v st e g (d.stale L n) f
 |e=>e
mutual
theorem rE{L M:Lk}{n:Nat}(h:∀id t,id≠n->Yb L id t ad=Yb M id t ad):∀(d:TD),(d.stale L n).er M=d.er L
 |.p _=>rfl
 |.elem _=>rfl
 |.ak _ _=>rfl
 |.own id j t c=>by
  rw[TD.stale];split
  .rfl
  .rename_i g
   cases c with
   |none=>rw[TD.er,TD.er,h id t g]
   |some _=>rfl
 |.view _ _ _ _ _=>rfl
 |.agg f=>by rw[TD.stale,TD.er,TD.er,bS h f]
 |.arr _ _ f=>by rw[TD.stale,TD.er,TD.er,bS h f]
 |.fn _ f=>by rw[TD.stale,TD.er,TD.er,bS h f]
 |.iface _ x=>by rw[TD.stale,TD.er,TD.er,rE h x]
 |.bm f=>by rw[TD.stale,TD.er,TD.er,bS h f]
 |.mp _=>rfl
 |.rv _ _ _ _ _=>rfl
 |.aZ _ _ _=>rfl
 |.rw id=>by
  rw[TD.stale];split
  .rfl
  .rename_i g
   simp only[TD.er,eO,h id _ g]
 |.rp id _=>by
  rw[TD.stale];split
  .rfl
  .rename_i g
   simp only[TD.er,eO,h id _ g]
 |.an=>rfl
theorem bS{L M:Lk}{n:Nat}(h:∀id t,id≠n->Yb L id t ad=Yb M id t ad):∀(f:yL TD),TD.aG M (TD.cE L n f)=TD.aG L f
 |[]=>rfl
 |x::r=>by rw[TD.cE,TD.aG,TD.aG,rE h x,bS h r]
end
theorem rF{L M:Lk}{n:Nat}(h:∀id t,id≠n->Yb L id t ad=Yb M id t ad)(e:ah):(e.stale L n).er M=e.er L:=by
 cases e with
 |var d st=>rw[ah.stale,ah.er,ah.er,rE h]
 |row v s st e d=>rw[ah.stale,ah.er,ah.er,rE h]
 |bL t j v st e g d f=>rw[ah.stale,ah.er,ah.er,rE h]
 |_=>rfl
def ah.fD:ah->Bool
 |.log _ _ _=>ae
 |.aY _ _ _ _ _=>ae
 |.aR _ _ _ _ _ _ _=>ae
 |.bL _ _ _ _ _ _ _ _=>ae
 |_=>af
theorem EP{e:ah}(h:e.fD=af):eP (ab e)=ad:=by
 cases e <;> first|rfl|cases h
theorem lr{H:yL ah}{e:ah}(h:e.fD=af):lk (H++[e])=lk H:=by
 funext id;unfold lk;rcases Nat.lt_trichotomy id H.length with hl|hl|hl
 .grind
 .subst hl;rw[List.getElem?_concat_length,EP h,ybz (yl _)];rfl
 grind
theorem Vh{H:yL ah}{id:Nat}{e x:ah}(f:H[id]? =ab x)(h1:x.fD=af)(h2:e.fD=af):lk (H.set id e)=lk H:=by
 funext j;unfold lk;by_cases g:id=j
 .subst g;rw[aj f,f,EP h1,EP h2]
 grind
theorem nQ{H:yL ah}{e:ah}(h:lk (H++[e])=lk H):aK (H++[e])=aK H++[e.er (lk H)]:=by
 unfold aK;grind
theorem Xl{H:yL ah}{id:Nat}{e:ah}(h:lk (H.set id e)=lk H):aK (H.set id e)=(aK H).set id (e.er (lk H)):=by
 unfold aK;simp_all
theorem vP{H:yL ah}{T:Ty}{e:yc}(id:Nat)(t:Ty):Yb (lk H) id t ad=Yb (lk (H++[.log T e []])) id t ad:=by
 unfold Yb lk;dsimp only;rcases Nat.lt_trichotomy id H.length with hl|hl|hl
 .grind
 .subst hl;rw[List.getElem?_concat_length,ybz (yl _)];show[]=(Ty.bu T t []).getD []
  cases h:Ty.bu T t [] with
  |none=>rfl
  |some y=>
   obtain⟨e,f⟩:=ZH h;subst e;subst f;rfl
 grind
theorem EQ{H:yL ah}{T:Ty}{e:yc}:aK (H++[.log T e []])=aK H++[.log T.size e []]:=by
 unfold aK;rw[yau];congr 1;exact yci λx _=>(ZEK (λid t=>vP id t) x).symm
theorem lu{H:yL ah}{e:ah}(id:Nat)(t:Ty)(h:id≠H.length):Yb (lk H) id t ad=Yb (lk (H++[e])) id t ad:=by
 unfold Yb lk
 all_goals grind
theorem ZBc{H:yL ah}{T:Ty}{e:yc}{l:yL T.aU}(h:H.all (ah.free H.length)=ae):aK (H++[.log T e l])=aK H++[.log T.size e (l.map T.enc)]:=by
 unfold aK;rw[yau];congr 1;refine yci λx g=> ?_
 cases x with
 |var d st=>
  rw[ah.er,ah.er];congr 1
  exact(kE (λid t f=>lu id t f) d (yal.1 h _ g)).symm
 |row v s st e d=>
  rw[ah.er,ah.er];congr 1
  exact(kE (λid t f=>lu id t f) d (yal.1 h _ g)).symm
 |bL t y v st e m d j=>
  rw[ah.er,ah.er,kE (λid t f=>lu id t f) d (yal.1 h _ g)]
 |_=>rfl
theorem VG{H:yL ah}{n:Nat}{e:ah}(L:Lk)(id:Nat)(t:Ty)(h:id≠n):Yb (lk H) id t ad=Yb (lk ((H.map (ah.stale L n)).set n e)) id t ad:=by
 have f:lk ((H.map (ah.stale L n)).set n e) id=lk H id:=by
  unfold lk;rw[cH (Ne.symm h),yao]
  cases H[id]? with
  |none=>rfl
  |some x=>cases x <;> rfl
 unfold Yb;rw[f]
theorem ZEL{H:yL ah}{n:Nat}{T:Ty}{e:yc}{l:yL T.aU}:aK ((H.map (ah.stale (lk H) n)).set n (.log T e l))=(aK H).set n (.log T.size e (l.map T.enc)):=by
 unfold aK;rw[ybn,ybd];congr 1;refine yci λx g=> ?_;exact rF (λid t f=>VG (lk H) id t f) x
def TP.isV:TP->yO (Σ t:Ty,t.aU)
 |.v t x=>ab ⟨t,x⟩
 |_=>ad
def TP.nS:TP->Nat->TP->yO TP
 |.v (.st f) x,i,z=>match z.isV with
  |some q=>(Ty.upd f x i q.1 q.2).map (.v (.st f))
  |none=>ab (.agg ((Ty.fj f x).set i z))
 |.agg l,i,z=>ab (.agg (l.set i z))
 |_,_,_=>ad
theorem ZHL{x y z:TP}{i:Nat}(h:x.nS i z=ab y):∀xs,x.pe=.agg xs->y.pe=.agg (xs.set i z.pe):=by
 cases x with
 |v u a=>
  cases u with
  |st j=>
   intro xs g;have f:Pl.agg (Ty.encs j a)=.agg xs:=g;injection f with f;subst f;simp only[TP.nS]at h;split at h
   .rename_i q A;obtain⟨m,E,rfl⟩:=Zd h
    have F:z=.v q.1 q.2:=by
     unfold TP.isV at A
     all_goals grind
    show Pl.agg (Ty.encs j m)=_;rw[ZAZ j a i q.1 q.2 m E,F];rfl
   .cases h;show Pl.agg (TP.cl ((Ty.fj j a).set i z))=_;rw[WP,ybn, <-WP]
    exact congrArg (λl=>Pl.agg (l.set i z.pe)) (vv j a)
  |_=>cases h
 |agg l=>
  intro xs g;cases h;rw[TP.pe]at g;injection g with g;subst g
  rw[TP.pe,WP,WP,ybn]
 |_=>cases h
def ZLt(x:Pl)(i o:Nat):Bool:=
 match x with
 |.agg f=>o==Pl.sizes (f.take i)
 |_=>af
def ZJa(x:TP)(i:Nat):TD->yO TD
 |.p y=>(x.nS i y).map .p
 |d=>x.parts.map λl=>.agg ((l.map .p).set i d)
def ER(a:nO)(i:Nat):TD->yO TD
 |.p z=>(TP.to jF z a.t).map λf=>.p (.v (.arr a.n a.t) (a.l.set i f))
 |d=>ab (.arr a.n a.t.size ((a.l.map λy=>TD.p (.v a.t y)).set i d))
theorem rG{L:Lk}(l:yL TP):TD.aG L (l.map .p)=(TP.cl l).map .p:=by
 rw[ZM,WP,ybd,ybd];rfl
def ZJb(n s:Nat)(xs:yL TP)(i:Nat):TD->yO TD
 |.p _=>ad
 |d=>ab (.arr n s ((xs.map .p).set i d))
abbrev Kg(O:Type):=TD->yL ao->(TD->yO TD)->yO O
def fk{O:Type}(L:Lk):yL cf->TD->Kg O->yO O
 |[],d,K=>K d [] ab
 |.gf i o::r,.p x,K=>(x.gf i).bind λz=>if ZLt x.pe i o=ae then fk L r (.p z) λsub hs f=>K sub hs λg=>(f g).bind λd=>ZJa x i d else ad
 |.ix i s::r,.p (.arr n j m),K=>(m[i]?).bind λz=>if s=j then fk L r (.p z) λsub hs f=>K sub (.el z.pe::hs) λg=>(f g).bind λd=>ZJb n j m i d else ad
 |.ix i s::r,.p x,K=>x.dQ.bind λa=>if s=a.t.size then(a.l[i]?).bind λy=>fk L r (.p (.v a.t y)) λsub hs f=>K sub (.el (a.t.enc y)::hs) λg=>
   (f g).bind λd=>ER a i d else ad
 |.gf i o::r,.agg h,K=>(h[i]?).bind λz=>if o=Dv.sizes ((TD.aG L h).take i) then fk L r z λsub hs f=>K sub hs λg=>(f g).map λy=>.agg (h.set i y) else ad
 |.ix i s::r,.arr n j h,K=>(h[i]?).bind λz=>if s=j then fk L r z λsub hs f=>K sub hs λg=>(f g).map λy=>.arr n j (h.set i y) else ad
 |_,_,_=>ad
def ew:yL cf->Nat
 |[]=>0
 |q::r=>q.o+ew r
theorem XK(l:yL cf):Wc l=ew l:=by
 have:∀(l:yL cf)(n:Nat),l.foldl (λn q=>n+q.o) n=n+ew l:=by
  intro l
  induction l with
  |nil=>intro n;rfl
  |cons q r f=>intro n;rw[List.foldl_cons,f,ew];omega
 rw[Wc,this];omega
theorem Xo{O:Type}{L:Lk}:∀(yQ:yL cf)(d:TD)(K:Kg O)(out:O),fk L yQ d K=ab out->
 ∃sub hs g C,K sub hs g=ab out/\aX C/\(∀yK,Z6 (d.er L) (yQ.map cf.i) (hs++yK)=ab (C,ew yQ,sub.er L,yK))/\
  ∀new d',g new=ab d'->∀yK,X5 (new.er L) (d.er L) (yQ.map cf.i) (hs++yK)=ab (d'.er L)
 |[],d,K,out,h=>⟨d,[],ab,[],h,zP,λ_=>rfl,λnew d' h _=>by cases h;rfl⟩
 |q::r,d,K,out,h=>by
  cases q with
  |gf i o=>
   cases d with
   |p x=>
    simp only[fk]at h;obtain⟨z,m,h⟩:=yf.1 h;obtain⟨A,h⟩:=Za h;obtain⟨sub,hs,g,C,E,F,G,I⟩:=Xo r (.p z) _ out h;obtain⟨j,U,Y⟩:=ZEs m
    have h3:o=Pl.sizes (j.take i):=by
     unfold ZLt at A;grind
    refine⟨sub,hs,_,C,E,F,λyK=> ?_,λnew d' f yK=> ?_⟩
    .rw[TD.er,U];show Z6 (.p (.agg j)) (i::r.map cf.i) (hs++yK)=_;unfold Z6;rw[Y];dsimp only;have:=G yK;rw[TD.er]at this;rw[this,yae,ew,h3];rfl
    .obtain⟨d1,M,f⟩:=yf.1 f;have:=I new d1 M yK;unfold ZJa at f;rw[TD.er]at this;rw[TD.er,U];show X5 (new.er L) (.p (.agg j)) (i::r.map cf.i) (hs++yK)=_;unfold X5;rw[Y];dsimp only;rw[this];split at f
     .obtain⟨x',S,rfl⟩:=Zd f;rw[TD.er,TD.er,ZHL S j U]
     .rename_i R;obtain⟨l,S,rfl⟩:=Zd f
      have e3:TP.cl l=j:=by
       have:=CN S;grind
      rw[TD.er,ZM,ybn, <-ZM,rG,e3]
      cases d1 <;> first|rfl|exact absurd rfl (R _)
   |agg T=>
    simp only[fk]at h;obtain⟨z,m,h⟩:=yf.1 h;split at h
    .rename_i A;obtain⟨sub,hs,g,C,E,F,G,I⟩:=Xo r z _ out h;refine⟨sub,hs,_,C,E,F,λyK=> ?_,λnew d' f yK=> ?_⟩
     .rw[TD.er];show Z6 (.agg (TD.aG L T)) (i::r.map cf.i) (hs++yK)=_;unfold Z6;rw[lj m];dsimp only;rw[G yK,yae,ew,A];rfl
     .obtain⟨y,M,rfl⟩:=Zd f;rw[TD.er];show X5 (new.er L) (.agg (TD.aG L T)) (i::r.map cf.i) (hs++yK)=_;unfold X5;rw[lj m];dsimp only;rw[I new y M yK,yae,TD.er,ZM,ZM,ybn]
    .cases h
   |_=>cases h
  |ix i s=>
   cases d with
   |p x=>
    by_cases Z:∃n Q j,x=.arr n Q j
    .obtain⟨n,Q,j,rfl⟩:=Z;simp only[fk]at h;obtain⟨z,m,h⟩:=yf.1 h;split at h
     .rename_i A;obtain⟨sub,hs,g,C,E,F,G,I⟩:=Xo r (.p z) _ out h;have hz:(TP.cl j)[i]? =ab z.pe:=by rw[WP,yao,m];rfl
      refine⟨sub,_,_,((TP.cl j)[i]? =ab z.pe)::C,E,⟨hz,F⟩,λyK=> ?_,λnew d' f yK=> ?_⟩
      .rw[TD.er,TP.pe];show Z6 (.p (.arr n Q (TP.cl j))) (i::r.map cf.i) (_::(hs++yK))=_;unfold Z6;dsimp only;have:=G yK;rw[TD.er]at this;rw[this,yae,ew, <-A];rfl
      .obtain⟨d1,M,f⟩:=yf.1 f;have:=I new d1 M yK;rw[TD.er]at this;rw[TD.er,TP.pe];show X5 (new.er L) (.p (.arr n Q (TP.cl j))) (i::r.map cf.i) (_::(hs++yK))=_;unfold X5;dsimp only;rw[this];by_cases W:∃y,d1=.p y
       .obtain⟨y,rfl⟩:=W;cases f
       .have e:ZJb n Q j i d1=ab (.arr n Q ((j.map .p).set i d1)):=by cases d1 <;> first|rfl|exact absurd ⟨_,rfl⟩ W
        rw[e]at f;cases f;rw[TD.er,ZM,ybn, <-ZM,rG];cases d1 <;> first|rfl|exact absurd ⟨_,rfl⟩ W
     .cases h
    have hg:fk L (.ix i s::r) (.p x) K=x.dQ.bind λa=>if s=a.t.size then(a.l[i]?).bind λy=>fk L r (.p (.v a.t y)) λsub hs g=>K sub (.el (a.t.enc y)::hs) λnew=>(g new).bind λd=>ER a i d else ad:=by
     cases x <;> first|rfl|exact absurd ⟨_,_,_,rfl⟩ Z
    rw[hg]at h;obtain⟨a,m,h⟩:=yf.1 h;split at h
    .rename_i X;obtain⟨y,A,h⟩:=yf.1 h;obtain⟨sub,hs,g,C,E,F,G,I⟩:=Xo r (.p (.v a.t y)) _ out h;refine⟨sub,_,_,((a.l.map a.t.enc)[i]? =ab (a.t.enc y))::C,E,⟨ri A,F⟩,λyK=> ?_,λnew d' f yK=> ?_⟩
     .rw[TD.er,jj m];show Z6 (.p (.arr a.n a.t.size _)) (i::r.map cf.i) (_::(hs++yK))=_;unfold Z6;dsimp only;have:=G yK;rw[TD.er,TP.pe]at this;rw[this,yae,ew,X];rfl
     .obtain⟨d1,M,f⟩:=yf.1 f;have:=I new d1 M yK;unfold ER at f;rw[TD.er,TP.pe]at this;rw[TD.er,jj m];show X5 (new.er L) (.p (.arr a.n a.t.size _)) (i::r.map cf.i) (_::(hs++yK))=_;unfold X5;dsimp only;rw[this];split at f
      .rename_i z;obtain⟨y',S,rfl⟩:=Zd f;rw[TD.er];dsimp only;rw[nK z a.t y' S, <-ybn];rfl
      .rename_i R;cases f;rw[TD.er,ZM,ybn,ybd,ybd];cases d1 <;> first|rfl|exact absurd rfl (R _)
    .cases h
   |arr n Q T=>
    simp only[fk]at h;obtain⟨z,m,h⟩:=yf.1 h;split at h
    .rename_i A;obtain⟨sub,hs,g,C,E,F,G,I⟩:=Xo r z _ out h;refine⟨sub,hs,_,C,E,F,λyK=> ?_,λnew d' f yK=> ?_⟩
     .rw[TD.er];show Z6 (.arr n Q (TD.aG L T)) (i::r.map cf.i) (hs++yK)=_;unfold Z6;rw[lj m];dsimp only;rw[G yK,yae,ew, <-A];rfl
     .obtain⟨y,M,rfl⟩:=Zd f;rw[TD.er];show X5 (new.er L) (.arr n Q (TD.aG L T)) (i::r.map cf.i) (hs++yK)=_;unfold X5;rw[lj m];dsimp only;rw[I new y M yK,yae,TD.er,ZM,ZM,ybn]
    .cases h
   |_=>cases h
theorem gG{H:yL ah}{id:Nat}{T:Ty}{v:yL Unit}{st:Bool}{e:yc}{l:yL T.aU}(hd:H[id]? =ab (.aY T v st e l)):(TD.rw id).er (lk H)=.rv id v.length T.size 0 l.length/\
 ∀yQ,(TD.rp id yQ).er (lk H)=.aZ id v.length (Wc yQ) (yQ.map cf.i):=by
 have h:Yb (lk H) id aLA ad=([v,yx T.size (),yx l.length ()]:yL aLz):=by
  unfold Yb lk;dsimp only;rw[hd];rfl
 refine⟨?_,λyQ=> ?_⟩
 .rw[TD.er];unfold eO;rw[h];show Dv.rv id v.length (yx T.size ()).length 0 (yx l.length ()).length=_;grind
 .rw[TD.er];unfold eO;rw[h];rfl
abbrev Kn(O:Type):=yL TD->TD->yL ah->yL ao->Nat->yO O
def rH(P:yg)(o:yj)(ts:yL TD)(H:yL ah)(d:TD)(hs:yL ao):Prop:=
 (∀f,bh P o (TD.aG (lk H) ts) (hs++f)=ad)/\∃C,aX C/\∀f,bG P o (TD.aG (lk H) ts) (aK H) (hs++f)=ab (C,d.er (lk H),f)
def jG(P:yg)(o:yj)(ts:yL TD)(H:yL ah)(d:TD)(H':yL ah)(hs:yL ao):Prop:=
 (∀f,bh P o (TD.aG (lk H) ts) (hs++f)=ad)/\(∀f,bG P o (TD.aG (lk H) ts) (aK H) (hs++f)=ad)/\
   ∃C,aX C/\∀f,cU P o (TD.aG (lk H) ts) (aK H) (hs++f)=ab (C,d.er (lk H'),aK H',f)
theorem dV{a b c d:Prop}(h:c):a\/b\/c\/d:=.inr (.inr (.inl h))
structure Good(P:yg)(o:yj)(ts all:List TD)(H:List ah)(all':List TD)(d:TD)(H':List ah)(hs:List ao)(bP:Nat):Prop where
 same:TD.aG (lk H') all'=TD.aG (lk H) all
 len:all'.length=all.length
 op:(bP=0/\H'=H/\dz (lk H) P o ts d hs)\/(bP=1/\H'=H/\rH P o ts H d hs)\/(bP=2/\jG P o ts H d H' hs)\/(bP=3/\aK H'=aK H/\jG P o ts H d H' hs)
section
variable{P:yg}{o:yj}{ts all:yL TD}{H:yL ah}{O:Type}{K:Kn O}{out:O}
def nT(H:yL ah)(id:Nat):yO TD:=
 match H[id]? with
 |some (.var d _)=>ab d
 |_=>ad
theorem rI{id:Nat}{d:TD}(h:nT H id=ab d):∃st,H[id]? =ab (.var d st)/\(aK H)[id]? =ab (.var (d.er (lk H)) st):=by
 unfold nT at h;split at h
 .rename_i g st f;cases h;exact⟨st,f,Z2 f⟩
 .cases h
def ES(H:yL ah)(id v:Nat):yO TD:=
 match H[id]? with
 |some (.row w _ _ _ d)=>if(w==v)=ae then ab d else ad
 |_=>ad
theorem Zxu{id v:Nat}{d:TD}(h:ES H id v=ab d):∃w s st e,H[id]? =ab (.row w s st e d)/\(w==v)=ae:=by
 unfold ES at h
 all_goals grind
def ET(P:yg)(t:yc)(all:yL TD)(H:yL ah)(K:Kn O):TD->yO O
 |.ak id f=>(nT H id).bind λd=>fk (lk H) f d λsub hs _=>if gb P t (sub.er (lk H))=ae then K all sub H hs 1 else ad
 |.aZ id v f=>(ES H id v).bind λd=>fk (lk H) f d λsub hs _=>if gb P t (sub.er (lk H))=ae then K all sub H hs 1 else ad
 |_=>ad
theorem ZzJ{t:yc}{x:yp}{E:TD}(ho:o.op=.load t x)(G:bn P ts 0 x=ab E)(h:ET P t all H K E=ab out):∃a d H' hs c,K a d H' hs c=ab out/\Good P o ts all H a d H' hs c:=by
 have g:=Zt (L:=lk H) G;unfold ET at h;split at h
 .rename_i id f;obtain⟨d,j,h⟩:=yf.1 h;obtain⟨st,F,I⟩:=rI j;obtain⟨sub,hs,l,C,m,y,M,_⟩:=Xo _ _ _ _ h;obtain⟨Q,z⟩:=Za m;refine⟨_,_,_,_,_,z,rfl,rfl,.inr (.inl ⟨rfl,rfl,λA=> ?_,C++[ew f=Wc f],Zl.2 ⟨y,(XK _).symm,aB⟩,λA=> ?_⟩)⟩
  .unfold bh;rw[ho];dsimp only;rw[g];rfl
  .unfold bG;rw[ho];dsimp only;rw[g];dsimp only[TD.er];grind
 .rename_i id v f;obtain⟨d,j,h⟩:=yf.1 h;obtain⟨w,s,st,e,F,I⟩:=Zxu j;obtain⟨sub,hs,l,C,m,y,M,_⟩:=Xo _ _ _ _ h;obtain⟨Q,z⟩:=Za m;refine⟨_,_,_,_,_,z,rfl,rfl,.inr (.inl ⟨rfl,rfl,λA=> ?_,C++[ew f=Wc f],Zl.2 ⟨y,(XK _).symm,aB⟩,λA=> ?_⟩)⟩
  .unfold bh;rw[ho];dsimp only;rw[g];rfl
  .unfold bG;rw[ho];dsimp only;rw[g];dsimp only[TD.er];rw[Z2 F];dsimp only[ah.er];grind
 .cases h
def EU(P:yg)(t:yc)(lo hi:yO Int)(all:yL TD)(H:yL ah)(K:Kn O):TD->yO O
 |.rv id v s g n=>match P.underlying t,H[id]? with
  |some (.slice e),ab (.row w f _ _ d)=>hi.bind λh=>(aR (d.er (lk H)) f).bind λN=>if(P.cellsOf e=s&&(P.info? e).isSome&&w==v&&f==s&&f !=0)=ae then
    if(ag (0<=lo.getD 0)&&ag (lo.getD 0<=h)&&ag (g+h.toNat<=N))=ae then K all (.rv id v s (g+(lo.getD 0).toNat) (h.toNat - (lo.getD 0).toNat)) H [.raw] 1 else ad else ad
  |_,_=>ad
 |_=>ad
theorem Zxv{t:yc}{x:yp}{lo hi:yO yp}{l j:yO Int}{m:TD}(ho:o.op=.slice t x lo hi ad)(I:bn P ts t x=ab m)(hl:ft P ts lo=ab l)(f:ft P ts hi=ab j)(h:EU P t l j all H K m=ab out):
 ∃a d H' hs c,K a d H' hs c=ab out/\Good P o ts all H a d H' hs c:=by
 have y:=Zt (L:=lk H) I;have hl:=QF (L:=lk H) hl;have f:=QF (L:=lk H) f;unfold EU at h;split at h
 .rename_i id v s M n;split at h
  .rename_i e w U st W d z Q;obtain⟨A,R,E⟩:=yf.1 h;obtain⟨N,X,F⟩:=yf.1 E;obtain⟨Y,G⟩:=Za F;obtain⟨g,S⟩:=Za G;clear h E F G;simp only[yi,yP]at g;subst R;refine⟨_,_,_,_,_,S,rfl,rfl,.inr (.inl ⟨rfl,rfl,λT=> ?_,[0<=l.getD 0,l.getD 0<=A,M+A.toNat<=N],⟨g.1.1,g.1.2,g.2,aB⟩,λT=> ?_⟩)⟩
   .unfold bh;rw[ho];dsimp only;rw[z,y,hl,f];rfl
   .unfold bG;rw[ho];dsimp only;rw[z,y,hl,f];dsimp only[TD.er];rw[yaf,yz];dsimp only;rw[Z2 Q];dsimp only[ah.er];grind
  .cases h
 .cases h
def pm{α β:Type}(o:yO α)(f:α->yO β)(g:yO β):yO β:=
 match o with
 |some a=>f a
 |none=>g
def mz(P:yg)(f:yc)(k:Ty):Bool:=lT P f&&(k.flat&&mr P 20 f k)
structure rJ where
 tid:yc
 k:Ty
 v:Ty
 l:List (k.aU×v.aU)
def rK(H:yL ah)(id:Nat):yO rJ:=
 match H[id]? with
 |some (.map f k v l)=>ab ⟨f,k,v,l⟩
 |_=>ad
theorem EV{id:Nat}{m:rJ}(h:rK H id=ab m):H[id]? =ab (.map m.tid m.k m.v m.l)/\(aK H)[id]? =ab (.map m.tid (gc m.k.enc m.v.enc m.l)):=by
 unfold rK at h;split at h
 .rename_i f;cases h;exact⟨f,Z2 f⟩
 .cases h
def EW(x:TD)(k:Ty):yO k.aU:=x.inner.bind λy=>TP.to gg y k
theorem Zxx{L:Lk}{x:TD}{k:Ty}{y:k.aU}(h:EW x k=ab y):x.er L=.p (k.enc y):=by
 obtain⟨p,f,g⟩:=yf.1 h;rw[Y3 f,TD.er,vz p k y g]
theorem EX{f:yc}{k:Ty}(h:mz P f k=ae):∀x y:k.aU,k.enc x=k.enc y↔x=y:=by
 simp only[mz,yi]at h;exact λx y=>⟨rj k x y h.2.1,λe=>by rw[e]⟩
theorem pn{f:yc}{k:Ty}(h:mz P f k=ae):∀x:k.aU,bt P 20 f (k.enc x):=by
 simp only[mz,yi]at h;exact rm 20 f k h.2.2
theorem EY{f:yc}{k:Ty}(h:mz P f k=ae):lT P f=ae:=by
 simp only[mz,yi]at h;exact h.1
def rL(P:yg)(t:yc):yO TP:=
 match bf P t with
 |.p z=>vD P t z
 |_=>ad
theorem EZ{t:yc}{z:TP}(h:rL P t=ab z):bf P t=.p z.pe:=by
 unfold rL at h;split at h
 .rename_i y f;rw[f,CU h]
 .cases h
def FA(ok:Bool)(d:TD)(b:Bool):TD:=if ok then .bm [d,.p (.v .bool b)] else d
def FB(P:yg)(t:yc)(all:yL TD)(H:yL ah)(ok:Bool)(K:Kn O)(j:yc->yO TD):TD->yO O
 |.mp id=>match P.underlying t with
  |some (.map g h)=>(rK H id).bind λm=>(j g).bind λx=>(EW x m.k).bind λf=>(rL P h).bind λz=>
   if(mz P g m.k&&AN P h)=ae then
    pm (@ii m.k.aU m.v.aU (Ty.fa m.k) m.l f) (λy=>K all (FA ok (.p (.v m.v y)) ae) H [.el (m.v.enc y)] 1) (K all (FA ok (.p z) af) H [.raw] 1)
   else ad
  |_=>ad
 |_=>ad
theorem ZtQ{L:Lk}{ok:Bool}{d:TD}{b:Bool}:(FA ok d b).er L=if ok then .bm [d.er L,.p (.bool b)] else d.er L:=by
 cases ok <;> rfl
theorem Zvg{t:yc}{x ix:yp}{ok:Bool}{F:TD}(ho:o.op=.lookup t x ix ok)(R:bn P ts t x=ab F)(h:FB P t all H ok K (λj=>bn P ts j ix) F=ab out):
 ∃a d H' hs c,K a d H' hs c=ab out/\Good P o ts all H a d H' hs c:=by
 have G:=Zt (L:=lk H) R;unfold FB at h;split at h
 .rename_i id;split at h
  .rename_i j Y I;obtain⟨m,S,h⟩:=yf.1 h;obtain⟨Z,T,h⟩:=yf.1 h;obtain⟨f,U,h⟩:=yf.1 h;obtain⟨z,W,h⟩:=yf.1 h;obtain⟨g,h⟩:=Za h;rw[yi]at g;obtain⟨e1,M⟩:=EV S;have A:=Zt (L:=lk H) T;rw[Zxx U]at A
   have Q:∀hs,bh P o (TD.aG (lk H) ts) hs=ad:=λhs=>by
    unfold bh;rw[ho]
   letI:=Ty.fa m.k
   unfold pm at h;split at h
   .rename_i y E
    refine⟨_,_,_,_,_,h,rfl,rfl,.inr (.inl ⟨rfl,rfl,λ_=>Q _,[bt P 20 j (m.k.enc f),iZ P j (gc m.k.enc m.v.enc m.l),W5 (gc m.k.enc m.v.enc m.l) (m.k.enc f) (ab (m.v.enc y))],
     ⟨pn g.1 f,CJ (pn g.1) _,@Zzs _ _ (Ty.fa m.k) _ _ (EX g.1) _ _ _ E,aB⟩,λX=> ?_⟩)⟩
    unfold bG;rw[ho];dsimp only;rw[I,G];dsimp only[TD.er];rw[A,M]
    try dsimp only
    rw[yaf,yz]
    try dsimp only
    rw[yW (EY g.1),ZtQ];rfl
   .rename_i E
    refine⟨_,_,_,_,_,h,rfl,rfl,.inr (.inl ⟨rfl,rfl,λ_=>Q _,[bt P 20 j (m.k.enc f),iZ P j (gc m.k.enc m.v.enc m.l),W5 (gc m.k.enc m.v.enc m.l) (m.k.enc f) ad],
     ⟨pn g.1 f,CJ (pn g.1) _,@Zzt _ _ (Ty.fa m.k) _ _ (EX g.1) _ _ (by rw[E];rfl),aB⟩,λX=> ?_⟩)⟩
    unfold bG;rw[ho];dsimp only;rw[I,G];dsimp only[TD.er];rw[A,M]
    try dsimp only
    rw[yaf,yz]
    try dsimp only
    rw[yW (by rw[EY g.1,g.2];rfl),ZtQ,EZ W];rfl
  .cases h
 .cases h
def FC(P:yg)(t:yc)(all:yL TD)(H:yL ah)(K:Kn O):TD->yO O
 |.mp id=>match P.underlying t with
  |some (.map _ _)=>(rK H id).bind λm=>K all (.p (.v (.int .i64) (m.l.length:Int))) H [] 1
  |_=>ad
 |_=>ad
theorem Zvi{t:yc}{x:yp}{c:Call}{f:TD}(ho:o.op=.call c)(hc:c.callee=.builtin .len)(ha:c.args.toList=[x])(ht:c.argTypes.toList=[t])(g:bn P ts t x=ab f)(h:FC P t all H K f=ab out):
 ∃a d H' hs c,K a d H' hs c=ab out/\Good P o ts all H a d H' hs c:=by
 have j:=Zt (L:=lk H) g;unfold FC at h;split at h
 .rename_i id;split at h
  .rename_i E F l;obtain⟨m,y,h⟩:=yf.1 h;obtain⟨G,z⟩:=EV y;refine⟨_,_,_,_,_,h,rfl,rfl,.inr (.inl ⟨rfl,rfl,λA=> ?_,[],zP,λA=> ?_⟩)⟩
   .unfold bh;grind
   .unfold bG;rw[ho];dsimp only;rw[hc];dsimp only;rw[ha,ht];dsimp only;rw[l,j];dsimp only[TD.er];rw[z];simp[TP.pe,Ty.enc,gc]
  .cases h
 .cases h
theorem rM{e:ah}(h:e.fD=af):TD.aG (lk (H++[e])) all=TD.aG (lk H) all:=by rw[lr h]
theorem Zxz{T:Ty}{e:yc}:TD.aG (lk (H++[.log T e []])) all=TD.aG (lk H) all:=(cD (λid t=>vP id t) all).symm
theorem po{e:ah}(h:TD.frees H.length all=ae):TD.aG (lk (H++[e])) all=TD.aG (lk H) all:=(cZ (λid t f=>lu id t f) all h).symm
theorem pp{T:Ty}{e:yc}{l:yL T.aU}:Yb (lk (H++[.log T e l])) H.length T ad=l:=by
 unfold Yb lk;dsimp only;rw[List.getElem?_concat_length];show(Ty.bu T T l).getD []=l;unfold Ty.bu;split
 all_goals grind
def FD(P:yg)(t:yc)(dst:Tmp)(all:yL TD)(H:yL ah)(K:Kn O):TD->yO O
 |.p (.sl (ab af) T [])=>match P.underlying t with
  |some (.slice e)=>(P.info? e).bind λi=>if(cu i&&i.size !=0&&ag (i.size=T.size))=ae then K all (.own H.length ad T ad) (H++[.log T e []]) [.fresh dst] 2 else ad
  |_=>ad
 |_=>ad
theorem ZxA{x:yp}{dst:Tmp}{g:TD}(ho:o.op=.assign x)(hd:o.dst=ab dst)(l:bn P ts o.type x=ab g)(h:FD P o.type dst all H K g=ab out):
 ∃a d H' hs c,K a d H' hs c=ab out/\Good P o ts all H a d H' hs c:=by
 have m:=Zt (L:=lk H) l;unfold FD at h;split at h
 .rename_i T;split at h
  .rename_i e y;obtain⟨i,z,h⟩:=yf.1 h;obtain⟨f,h⟩:=Za h;simp only[yi,yP]at f;refine⟨_,_,_,_,_,h,Zxz,rfl,dV (⟨rfl,λj=> ?_,λj=> ?_,[],zP,λj=> ?_⟩)⟩
   .unfold bh;rw[ho];rfl
   .unfold bG;rw[ho]
   .unfold cU;rw[ho];dsimp only;rw[yaf,yz];dsimp only;rw[yW hd,y,m,show(TD.p (TP.sl (ab af) T [])).er (lk H)=Dv.p (.sl (ab af) T.size []) from rfl]
    dsimp only;rw[z];dsimp only;rw[yW (by simpa using f.1),EQ,ZW,TD.er,pp,f.2];rfl
  .cases h
 .cases h
def FE(P:yg)(t:yc)(all:yL TD)(H:yL ah)(K:Kn O):yO O:=
 match P.underlying t with
 |some (.map f g)=>(gD P ij f).bind λk=>(gD P ij g).bind λv=>K all (.mp H.length) (H++[.map t k v []]) [] 2
 |_=>ad
theorem ZsJ{t:yc}(ho:o.op=.makeMap t ad)(h:FE P t all H K=ab out):∃a d H' hs c,K a d H' hs c=ab out/\Good P o ts all H a d H' hs c:=by
 unfold FE at h;split at h
 .rename_i g j l;obtain⟨k,m,h⟩:=yf.1 h;obtain⟨v,y,h⟩:=yf.1 h;refine⟨_,_,_,_,_,h,rM rfl,rfl,dV (⟨rfl,λf=> ?_,λf=> ?_,[],zP,λf=> ?_⟩)⟩
  .unfold bh;rw[ho]
  .unfold bG;rw[ho]
  .unfold cU;rw[ho];dsimp only;rw[nQ (lr rfl),ZW];rfl
 .cases h
def mA(n:Int)(b:Nat):Bool:=ag (0<=n)&&nM n.toNat b
def FF(P:yg)(t:yc)(own row:Bool)(n f:Int)(all:yL TD)(H:yL ah)(K:Kn O):yO O:=
 match P.underlying t with
 |some (.slice e)=>(P.info? e).bind λi=>(gD P ij e).bind λT=>
  if row then
   if(cu i&&i.size !=0&&ag (i.size=T.size))=ae then if(ag (n=0)&&mA f i.bytes)=ae then K all (.rv H.length 0 i.size 0 0) (H++[.row 0 i.size ae e (.p (.v (.arr 0 T) []))]) [.arr] 2 else ad else ad
  else if own then
   if(cu i&&i.size !=0&&ag (i.size=T.size))=ae then if(ag (n=0)&&mA f i.bytes)=ae then K all (.own H.length (ab ae) T ad) (H++[.log T e []]) [.own] 2 else ad else ad
  else(rL P e).bind λz=>(TP.to gg z T).bind λy=>
   if(cu i&&ag (i.size=1)&&z.pe.size==1&& !z.pe.isAgg&&ag (T.size=1))=ae then if(ag (f=n)&&mA n i.bytes)=ae then
    K all (.view H.length [] 1 0 n.toNat) (H++[.var (.p (.v (.arr n.toNat T) (yx n.toNat y))) ae]) [.raw] 2 else ad else ad
 |_=>ad
theorem Zpn{t:yc}{l c:yp}{n j:Num}{own row:Bool}(ho:o.op=.makeSlice t l c)(hl:(bn P ts 0 l).bind TD.num=ab n)(hc:(bn P ts 0 c).bind TD.num=ab j)(U:n.k=.i64)(I:j.k=.i64)
 (h:FF P t own row n.n j.n all H K=ab out):∃a d H' hs c,K a d H' hs c=ab out/\Good P o ts all H a d H' hs c:=by
 obtain⟨ld,W,X⟩:=yf.1 hl;obtain⟨cd,Y,Z⟩:=yf.1 hc;have F:=Zt (L:=lk H) W;have G:=Zt (L:=lk H) Y;rw[QG X,U]at F;rw[QG Z,I]at G;unfold FF at h;have M:∀hs,bh P o (TD.aG (lk H) ts) hs=ad:=λhs=>by unfold bh;rw[ho]
 have Q:∀hs,bG P o (TD.aG (lk H) ts) (aK H) hs=ad:=λhs=>by unfold bG;rw[ho]
 split at h
 .rename_i e R;obtain⟨i,S,h⟩:=yf.1 h;obtain⟨T,h2,h⟩:=yf.1 h;split at h
  .obtain⟨g,h⟩:=Za h;obtain⟨f,h⟩:=Za h;simp only[yi,yP]at g;simp only[mA,yi,yP]at f;obtain⟨A,E⟩:=mf f.2.2;refine⟨_,_,_,_,_,h,rM rfl,rfl,dV (⟨rfl,λm=>M _,λm=>Q _,[n.n=0,0<=j.n,j.n.toNat*i.bytes<=Zs,j.n.toNat<=maxLen],⟨f.1,f.2.1,A,E,aB⟩,λm=> ?_⟩)⟩;unfold cU;rw[ho];dsimp only;rw[R,F,G];dsimp only;rw[S,yaf,yz];dsimp only;rw[yW (by simpa using g.1),nQ (lr rfl),ZW];simp only[ah.er,TD.er,TP.pe,CO,g.2];rfl
  split at h
  .obtain⟨g,h⟩:=Za h;obtain⟨f,h⟩:=Za h;simp only[yi,yP]at g;simp only[mA,yi,yP]at f;obtain⟨A,E⟩:=mf f.2.2;refine⟨_,_,_,_,_,h,Zxz,rfl,dV (⟨rfl,λm=>M _,λm=>Q _,[n.n=0,0<=j.n,j.n.toNat*i.bytes<=Zs,j.n.toNat<=maxLen],⟨f.1,f.2.1,A,E,aB⟩,λm=> ?_⟩)⟩;unfold cU;rw[ho];dsimp only;rw[R,F,G];dsimp only;rw[S,yaf,yz];dsimp only;rw[yW (by simpa using g.1),EQ,ZW,TD.er,pp,g.2];rfl
  .obtain⟨z,z1,h⟩:=yf.1 h;obtain⟨y,z2,h⟩:=yf.1 h;obtain⟨g,h⟩:=Za h;obtain⟨f,h⟩:=Za h;simp only[yi,yP,yT]at g;simp only[mA,yi,yP]at f;obtain⟨A,E⟩:=mf f.2.2;refine⟨_,_,_,_,_,h,rM rfl,rfl,dV (⟨rfl,λm=>M _,λm=>Q _,[j.n=n.n,0<=n.n,n.n.toNat*i.bytes<=Zs,n.n.toNat<=maxLen],⟨f.1,f.2.1,A,E,aB⟩,λm=> ?_⟩)⟩;unfold cU;rw[ho];dsimp only;rw[R,F,G];dsimp only;rw[S,yaf,yz];dsimp only;rw[EZ z1];dsimp only;rw[yW (by simp only[yi,yP];exact g.1),nQ (lr rfl),ZW,vz z T y z2];simp only[ah.er,TD.er,TP.pe,Wc,List.map_nil,List.foldl_nil];congr 5;show _=[aq.var (Dv.p (Pl.arr n.n.toNat T.size (List.map T.enc (yx n.n.toNat y)))) ae];rw[List.map_replicate,g.2]
 .cases h
end
end Go.Ev
end
section
namespace Go.Ev
section
variable{P:yg}{o:yj}{ts all:yL TD}{H:yL ah}{O:Type}{K:Kn O}{out:O}
theorem nU{id:Nat}{e x:ah}(f:H[id]? =ab x)(h1:x.fD=af)(h2:e.fD=af):TD.aG (lk (H.set id e)) all=TD.aG (lk H) all:=by rw[Vh f h1 h2]
def FG(P:yg)(t:yc)(all:yL TD)(H:yL ah)(K:Kn O)(h j:yc->yO TD):TD->yO O
 |.mp id=>match P.underlying t with
  |some (.map g A)=>(rK H id).bind λm=>(h g).bind λx=>(EW x m.k).bind λf=>((j A).bind (TD.flat (lk H))).bind λz=>(TP.to jF z m.v).bind λy=>
   if mz P g m.k=ae then K all .an (H.set id (.map m.tid m.k m.v (@jg m.k.aU m.v.aU (Ty.fa m.k) m.l f y))) [.bR (gc m.k.enc m.v.enc (@jg m.k.aU m.v.aU (Ty.fa m.k) m.l f y))] 2 else ad
  |_=>ad
 |_=>ad
theorem Zvk{t:yc}{x k v:yp}{F:TD}(ho:o.op=.mapUpdate t x k v)(R:bn P ts t x=ab F)(h:FG P t all H K (λg=>bn P ts g k) (λG=>bn P ts G v) F=ab out):
 ∃a d H' hs c,K a d H' hs c=ab out/\Good P o ts all H a d H' hs c:=by
 have S:=Zt (L:=lk H) R;unfold FG at h;split at h
 .rename_i id;split at h
  .rename_i g G T;obtain⟨m,U,h⟩:=yf.1 h;obtain⟨kd,W,h⟩:=yf.1 h;obtain⟨f,X,h⟩:=yf.1 h;obtain⟨z,Y,h⟩:=yf.1 h;obtain⟨zd,A,E⟩:=yf.1 Y;obtain⟨y,Z,h⟩:=yf.1 h;obtain⟨j,h⟩:=Za h;obtain⟨I,e2⟩:=EV U;have M:=Zt (L:=lk H) W;rw[Zxx X]at M;have hz:=Zt (L:=lk H) A
   letI:=Ty.fa m.k
   refine⟨_,_,_,_,_,h,nU I rfl rfl,rfl,dV (⟨rfl,λQ=> ?_,λQ=> ?_,[bt P 20 g (m.k.enc f),iZ P g (gc m.k.enc m.v.enc m.l),gu (gc m.k.enc m.v.enc m.l) (m.k.enc f) z.pe.soft (gc m.k.enc m.v.enc (jg m.l f y))],
    ⟨pn j f,CJ (pn j) _,by rw[nK z m.v y Z];exact ZqC (EX j) _ _ _,aB⟩,λQ=> ?_⟩)⟩
   .unfold bh;rw[ho]
   .unfold bG;rw[ho]
   .unfold cU;rw[ho];dsimp only;rw[T,S];dsimp only[TD.er];rw[M,hz,CV E,e2]
    try dsimp only
    rw[yaf,yz]
    try dsimp only
    rw[yW (EY j),Xl (Vh I rfl rfl)];rfl
  .cases h
 .cases h
def TP.jH(x:TP)(T:Ty):Bool:=
 match x with
 |.sl (ab af) t []=>ag (t.size=T.size)
 |_=>af
theorem FH{x:TP}{T:Ty}(h:x.jH T=ae):x.pe=.sl (ab af) T.size []:=by
 unfold TP.jH at h;split at h
 .rename_i t;show Pl.sl (ab af) t.size []=_;grind
 .cases h
def jI(T:Ty)(new:TD):yL Nat->TD->yO TD
 |[],.p x=>if x.jH T then ab new else ad
 |i::r,.p x=>x.parts.bind λl=>(l[i]?).bind λz=>(jI T new r (.p z)).map λy=>.agg ((l.map .p).set i y)
 |i::r,.agg f=>(f[i]?).bind λz=>(jI T new r z).map λy=>.agg (f.set i y)
 |_,_=>ad
theorem pq{L:Lk}{T:Ty}{new:TD}:∀(yQ:yL Nat)(d d':TD),jI T new yQ d=ab d'->Xk (d.er L) yQ T.size (new.er L)=ab (d'.er L)
 |[],d,d',h=>by
  cases d with
  |p x=>
   simp only[jI]at h;split at h
   .rename_i j;cases h;rw[TD.er,FH j];simp[Xk]
   .cases h
  |_=>cases h
 |i::r,d,d',h=>by
  cases d with
  |p x=>
   simp only[jI]at h;obtain⟨l,m,h⟩:=yf.1 h;obtain⟨z,f,h⟩:=yf.1 h;obtain⟨y,g,rfl⟩:=Zd h;have:=pq (L:=L) r (.p z) y g;rw[TD.er,CN m];unfold Xk;rw[show(TP.cl l)[i]? =ab z.pe by rw[WP,yao,f];rfl];dsimp only;rw[TD.er]at this
   rw[this,yae,TD.er,ZM,ybn, <-ZM,EF]
  |agg A=>
   simp only[jI]at h;obtain⟨z,f,h⟩:=yf.1 h;obtain⟨y,g,rfl⟩:=Zd h;have:=pq (L:=L) r z y g;rw[TD.er];unfold Xk;rw[lj f];dsimp only
   rw[this,yae,TD.er,ZM,ZM,ybn]
  |_=>cases h
def rN(d:TD)(n:Nat):yL (yL Nat×Ty×yc)->yO (TD×yL (Ty×yc))
 |[]=>ab (d,[])
 |q::r=>(jI q.2.1 (.own n ad q.2.1 ad) q.1 d).bind λf=>(rN f (n+1) r).map λz=>(z.1,(q.2.1,q.2.2)::z.2)
def rO(l:yL (yL Nat×Ty×yc)):yL ao:=l.map λq=>.cq q.1 q.2.1.size q.2.2
def mB(l:yL (Ty×yc)):yL ah:=l.map λq=>.log q.1 q.2 []
def ZEP(L:Lk)(n:Nat):Prop:=∀id t,n<=id->Yb L id t ad=[]
theorem FJ{L:Lk}:∀(l:yL (yL Nat×Ty×yc))(d:TD)(n:Nat)(z:TD×yL (Ty×yc)),ZEP L n->rN d n l=ab z->∀yK,
 Yp (d.er L) n (rO l++.raw::yK)=(z.1.er L,z.2.map (λq=>aq.log q.1.size q.2 []),.raw::yK)
 |[],d,n,z,f,h,yK=>by cases h;rfl
 |q::r,d,n,z,f,h,yK=>by
  simp only[rN]at h;obtain⟨g,j,h⟩:=yf.1 h;obtain⟨w,m,rfl⟩:=Zd h;have e:=pq (L:=L) q.1 d g j;rw[TD.er,f n q.2.1 (yl _)]at e;have y:=FJ r g (n+1) w (λid t h=>f id t (by omega)) m yK;show Yp (d.er L) n (.cq q.1 q.2.1.size q.2.2::(rO r++.raw::yK))=_;unfold Yp;grind
theorem ZEQ(H:yL ah):ZEP (lk H) H.length:=λid t h=>by
 unfold Yb lk;rw[ybz h];rfl
theorem FK:∀(l:yL (Ty×yc))(H:yL ah),(∀id t,Yb (lk H) id t ad=Yb (lk (H++mB l)) id t ad)/\aK (H++mB l)=aK H++l.map (λq=>aq.log q.1.size q.2 [])
 |[],H=>by simp[mB]
 |q::l,H=>by
  have e:H++mB (q::l)=(H++[.log q.1 q.2 []])++mB l:=by simp[mB]
  obtain⟨f,g⟩:=FK l (H++[.log q.1 q.2 []]);rw[e];refine⟨λid t=>(vP id t).trans (f id t), ?_⟩;rw[g,EQ];simp
def newVar(hi:HI)(dst:yO Tmp)(d:TD)(all:yL TD)(H:yL ah)(K:Kn O):yO O:=
 match dst with
 |some t=>match hi.cq.lookup t with
  |some l=>(rN d (H.length+1) l).bind λz=>K all (.ak H.length []) (H++[.var z.1 ae]++mB z.2) (rO l++[.raw]) 2
  |none=>K all (.ak H.length []) (H++[.var d ae]) [.raw] 2
 |none=>ad
theorem ZoC{hi:HI}{dst:yO Tmp}{d:TD}(h:newVar hi dst d all H K=ab out):
 ∃H' hs f g,K all (.ak H.length []) H' hs 2=ab out/\TD.aG (lk H') all=TD.aG (lk H) all/\aK H'=aK H++aq.var f ae::g/\∀yK,Yp (d.er (lk H)) ((aK H).length+1) (hs++yK)=(f,g,.raw::yK):=by
 unfold newVar at h;split at h
 .rename_i t;split at h
  .rename_i l E;obtain⟨z,m,h⟩:=yf.1 h;obtain⟨y,A⟩:=FK z.2 (H++[.var z.1 ae]);have j:lk (H++[.var z.1 ae])=lk H:=lr rfl;refine⟨_,_,z.1.er (lk H),z.2.map (λq=>aq.log q.1.size q.2 []),h, ?_, ?_,λyK=> ?_⟩
   .rw[<-cD y all,j]
   .rw[A,nQ j];simp[ah.er]
   .rw[ZW,yac];exact FJ l d _ z (λid t F=>ZEQ H id t (by omega)) m yK
  .refine⟨_,_,d.er (lk H),[],h,rM rfl, ?_,λyK=> ?_⟩
   .rw[nQ (lr rfl)];rfl
   .rfl
 .cases h
def FL(P:yg)(hi:HI)(dst:yO Tmp)(t:yc)(all:yL TD)(H:yL ah)(K:Kn O):yO O:=
 (P.info? t).bind λi=>(rL P t).bind λz=>if(cu i&&gb P t (bf P t)&&(bf P t).bF)=ae then newVar hi dst (.p z) all H K else ad
theorem ZxC{hi:HI}{t:yc}(ho:o.op=.alloc t)(h:FL P hi o.dst t all H K=ab out):∃a d H' hs c,K a d H' hs c=ab out/\Good P o ts all H a d H' hs c:=by
 unfold FL at h;obtain⟨i,j,h⟩:=yf.1 h;obtain⟨z,l,h⟩:=yf.1 h;obtain⟨m,h⟩:=Za h;obtain⟨H',hs,G,I,y,A,E,F⟩:=ZoC h;refine⟨_,_,_,_,_,y,A,rfl,dV (⟨rfl,λf=> ?_,λf=> ?_,[],zP,λf=> ?_⟩)⟩
 .unfold bh;rw[ho]
 .unfold bG;rw[ho]
 .have g:=F f;rw[TD.er, <-EZ l]at g;unfold cU;rw[ho];dsimp only;rw[j];dsimp only;rw[g];dsimp only;rw[yW m,E,ZW];rfl
def vQ(L:Lk)(d:TD):TD:=
 match d.plain L with
 |some y=>.p y
 |none=>d
theorem ZHN{L:Lk}(d:TD):(vQ L d).er L=ng (d.er L):=by
 unfold vQ ng
 cases h:d.plain L with
 |none=>rw[ZqM h]
 |some y=>rw[ZtM h];rfl
def FM(hi:HI)(dst:yO Tmp)(all:yL TD)(H:yL ah)(K:Kn O)(d:TD):yO O:=
 if((vQ (lk H) d).er (lk H)).bF=ae then newVar hi dst (vQ (lk H) d) all H K else ad
theorem ZCN{hi:HI}{t:yc}{x:yp}{g:TD}(ho:o.op=.box t x)(m:bn P ts t x=ab g)(h:FM hi o.dst all H K g=ab out):∃a d H' hs c,K a d H' hs c=ab out/\Good P o ts all H a d H' hs c:=by
 have y:=Zt (L:=lk H) m;unfold FM at h;obtain⟨j,h⟩:=Za h;obtain⟨H',hs,G,I,z,A,E,F⟩:=ZoC h;refine⟨_,_,_,_,_,z,A,rfl,dV (⟨rfl,λf=> ?_,λf=> ?_,[],zP,λf=> ?_⟩)⟩
 .unfold bh;rw[ho]
 .unfold bG;rw[ho]
 .have l:=F f;rw[ZHN]at l j;unfold cU;rw[ho];dsimp only;rw[y,l];dsimp only;rw[yW j,E,ZW];rfl
def TD.cS(L:Lk)(v:TD):TD:=
 match v.flat L with
 |some x=>.p x
 |none=>v
theorem FN{L:Lk}(v:TD):(v.cS L).er L=(v.er L).cS:=by
 unfold TD.cS Dv.cS;rw[rh];cases v.flat L <;> rfl
def vR(L:Lk)(yQ:yL cf)(d v:TD):yO TD:=
 match d,yQ with
 |.p _,_=>ab (v.cS L)
 |_,[]=>ab (v.cS L)
 |_,_=>ab v
theorem FO{L:Lk}{yQ:yL cf}{d v new:TD}(h:vR L yQ d v=ab new):jc (yQ.map cf.i) (d.er L) (v.er L)=ab (new.er L):=by
 unfold vR at h;split at h
 .cases h;unfold jc;rw[TD.er];dsimp only;rw[FN]
 .cases h;unfold jc;split
  .rw[FN]
  .simp only[List.map_nil];rw[FN]
 .rename_i g j;cases h;unfold jc;split
  .rename_i z f;cases d <;> first|cases f|skip
   grind
  simp_all
def mC(P:yg)(t:yc)(new sub:Dv):Bool:=new.bF&&new.size==sub.size&&P.cellsOf t==new.size&&(P.info? t).isSome&&new.isAgg==sub.isAgg
def ZLu(hi:HI):yp->yL (yL Nat×Ty×yc)
 |.tmp t=>(hi.gM.lookup t).getD []
 |_=>[]
def FP(P:yg)(gs:yL (yL Nat×Ty×yc))(t:yc)(all:yL TD)(H:yL ah)(K:Kn O)(v:TD):TD->yO O
 |.ak id h=>match H[id]? with
  |some (.var d ae)=>fk (lk H) h d λsub hs g=>(vR (lk H) h d v).bind λf=>(g f).bind λj=>(rN j H.length gs).bind λz=>
   if mC P t (f.er (lk H)) (sub.er (lk H))=ae then K all .an (H.set id (.var z.1 ae)++mB z.2) (hs++(rO gs++[.raw])) 2 else ad
  |_=>ad
 |.aZ id l h=>match H[id]? with
  |some (.row w s ae e d)=>fk (lk H) h d λsub hs g=>(vR (lk H) h d v).bind λf=>(g f).bind λj=>
   if(mC P t (f.er (lk H)) (sub.er (lk H))&&w==l&&aR (j.er (lk H)) s==aR (d.er (lk H)) s)=ae then K all .an (H.set id (.row l s ae e j)) hs 2 else ad
  |_=>ad
 |_=>ad
theorem ZxD{gs:yL (yL Nat×Ty×yc)}{t:yc}{x y:yp}{X Y:TD}(ho:o.op=.store t x y)(hx:bn P ts 0 x=ab X)(hy:bn P ts t y=ab Y)(h:FP P gs t all H K Y X=ab out):
 ∃a d H' hs c,K a d H' hs c=ab out/\Good P o ts all H a d H' hs c:=by
 have Z:=Zt (L:=lk H) hx;have hw:=Zt (L:=lk H) hy;unfold FP at h;split at h
 .rename_i id E;split at h
  .rename_i d A;obtain⟨sub,hs,I,C,M,Q,R,S⟩:=Xo _ _ _ _ h;obtain⟨j,T,f⟩:=yf.1 M;obtain⟨F,U,f⟩:=yf.1 f;obtain⟨z,W,f⟩:=yf.1 f;obtain⟨l,f⟩:=Za f;unfold mC at l;obtain⟨g1,g2⟩:=FK z.2 (H.set id (.var z.1 ae));have G:lk (H.set id (.var z.1 ae))=lk H:=Vh A rfl rfl;refine⟨_,_,_,_,_,f, ?_,rfl,dV (⟨rfl,λg=> ?_,λg=> ?_,C++[ew E=Wc E],Zl.2 ⟨Q,(XK _).symm,aB⟩,λg=> ?_⟩)⟩
   .rw[<-cD g1 all,G]
   .unfold bh;rw[ho]
   .unfold bG;rw[ho]
   .have k5:=FJ gs F H.length z (ZEQ H) W g;unfold cU;rw[ho];dsimp only;rw[Z,hw];dsimp only[TD.er];rw[Z2 A];dsimp only[ah.er];rw[yac,R (rO gs++[ao.raw]++g)];dsimp only;rw[FO T];dsimp only;rw[S j F U _];dsimp only;rw[yW l,ZW,yac];rw[show([ao.raw]++g)=.raw::g from rfl,k5]
    dsimp only;rw[g2,Xl G];rfl
  .cases h
 .rename_i id v' E;split at h
  .rename_i w s e d A;obtain⟨sub,hs,I,C,M,Q,R,S⟩:=Xo _ _ _ _ h;obtain⟨j,T,f⟩:=yf.1 M;obtain⟨F,U,f⟩:=yf.1 f;obtain⟨l,f⟩:=Za f;rw[yi,yi]at l;obtain⟨⟨l,W⟩,h6⟩:=l;have m:=l;unfold mC at m;have G:lk (H.set id (.row v' s ae e F))=lk H:=Vh A rfl rfl;refine⟨_,_,_,_,_,f,nU A rfl rfl,rfl,dV (⟨rfl,λg=> ?_,λg=> ?_,C++[ew E=Wc E],Zl.2 ⟨Q,(XK _).symm,aB⟩,λg=> ?_⟩)⟩
   .unfold bh;rw[ho]
   .unfold bG;rw[ho]
   .unfold cU;rw[ho];dsimp only;rw[Z,hw];dsimp only[TD.er];rw[Z2 A];dsimp only[ah.er];rw[R g];dsimp only;rw[FO T];dsimp only;rw[S j F U _];dsimp only;rw[yW (by simp only[yi]at m ⊢;exact⟨⟨m,W⟩,h6⟩),Xl G];rfl
  .cases h
 .cases h
def FQ(P:yg)(ts:yL TD)(t:yc)(len:Nat)(parts:yL (Nat×yp))(all:yL TD)(H:yL ah)(K:Kn O):yO O:=
 ph (lk H) P ts t len parts λT l e=>if(TD.frees H.length all&&H.all (ah.free H.length))=ae then K all (.own H.length (ab ae) T ad) (H++[.log T e l]) [.own] 2 else ad
theorem Zvo{t:yc}{len:Nat}{parts:Array (Nat×yp)}(ho:o.op=.buildSlice t len parts)(h:FQ P ts t len parts.toList all H K=ab out):
 ∃a d H' hs c,K a d H' hs c=ab out/\Good P o ts all H a d H' hs c:=by
 unfold FQ at h;obtain⟨e,T,l,i,F,f,m,y,z,A,hs,E⟩:=vO h;obtain⟨g,f⟩:=Za f;rw[yi]at g;refine⟨_,_,_,_,_,f,po g.1,rfl,dV (⟨rfl,λj=> ?_,λj=> ?_,[],zP,λj=> ?_⟩)⟩
 .unfold bh;rw[ho];rfl
 .unfold bG;rw[ho]
 .unfold cU;rw[ho];dsimp only;rw[yaf,yz];dsimp only;rw[m];dsimp only;rw[y,z];dsimp only;rw[yW (by simpa using A),E,ZBc g.2,ZW,TD.er,pp,hs]
def rP(P:yg)(T:Ty)(u:yc)(H:yL ah)(K:yL T.aU->yL ao->yO O)(x:TD):yO O:=
 match x with
 |.view id f s lo n=>match P.underlying u with
  |some (.slice _)=>(nT H id).bind λd=>fk (lk H) f d λsub hs _=>sub.inner.bind λy=>y.dQ.bind λr=>(Ty.bu r.t T r.l).bind λl=>
   if(ag (s=T.size))=ae then if(ag (lo+n<=r.n))=ae then K ((l.drop lo).take n) hs else ad else ad
  |_=>ad
 |.rv id v s lo n=>match P.underlying u,H[id]? with
  |some (.slice _),ab (.row w g _ _ d)=>d.inner.bind λy=>y.dQ.bind λr=>(Ty.bu r.t T r.l).bind λl=>
   if(ag (s=T.size)&&ag (g=T.size)&&w==v)=ae then if(ag (lo+n<=r.n))=ae then K ((l.drop lo).take n) [] else ad else ad
  |_,_=>ad
 |.rw id=>match P.underlying u,H[id]? with
  |some (.slice _),ab (.aY T' v st e h)=>(Ty.bu T' T h).bind λl=>K l []
  |_,_=>ad
 |x=>(my (lk H) P T u x).bind λl=>K l []
theorem FR{T:Ty}{u:yc}{x:TD}{K:yL T.aU->yL ao->yO O}(h:rP P T u H K x=ab out):
 ∃l hs C,K l hs=ab out/\aX C/\∀yK,iG P T.size u (aK H) (hs++yK) (x.er (lk H))=ab (C,l.map T.enc,yK):=by
 unfold rP at h;split at h
 .rename_i id Q s lo n;split at h
  .rename_i e A;obtain⟨d,G,h⟩:=yf.1 h;obtain⟨st,Z,h3⟩:=rI G;obtain⟨sub,hs,R,C,g,S,k3,_⟩:=Xo _ _ _ _ h;obtain⟨y,I,g⟩:=yf.1 g;obtain⟨r,M,g⟩:=yf.1 g;obtain⟨l,j,g⟩:=yf.1 g;obtain⟨E,g⟩:=Za g;obtain⟨z,g⟩:=Za g;have E:=yF E;have z:=yF z
   have m:sub.er (lk H)=.p (.arr r.n T.size (l.map T.enc)):=by
    rw[Y3 I,TD.er,jj M];obtain⟨e,j⟩:=ZH j;grind
   refine⟨_,_,C++[ew Q=Wc Q,lo+n<=r.n],g,Zl.2 ⟨S,(XK _).symm,z,aB⟩,λyK=> ?_⟩;unfold iG;rw[TD.er];simp_all
  .cases h
 .rename_i id v s lo n;split at h
  .rename_i e w s' st U d A F;obtain⟨y,I,g⟩:=yf.1 h;obtain⟨r,M,g⟩:=yf.1 g;obtain⟨l,j,g⟩:=yf.1 g;obtain⟨E,g⟩:=Za g;obtain⟨z,g⟩:=Za g;simp only[yi,yP]at E;have z:=yF z
   have m:d.er (lk H)=.p (.arr r.n T.size (l.map T.enc)):=by
    rw[Y3 I,TD.er,jj M];obtain⟨e,j⟩:=ZH j;grind
   refine⟨_,_,[lo+n<=r.n],g,⟨z,aB⟩,λyK=> ?_⟩;unfold iG;rw[TD.er];dsimp only;rw[A,Z2 F,ah.er,m];simp_all
  .cases h
 .rename_i id;split at h
  .rename_i e T' v st U l' A F;obtain⟨l,j,g⟩:=yf.1 h;obtain⟨W,j⟩:=ZH j;subst W;subst j;refine⟨l,[],[0+l.length<=l.length],g,⟨by omega,aB⟩,λyK=> ?_⟩;unfold iG;rw[(gG F).1];dsimp only;rw[A,Z2 F,ah.er];dsimp only;rw[yW (by simp),List.drop_zero, <-yad (f:=T'.enc),yaj];simp
  .cases h
 .rename_i hx X Y;obtain⟨l,G,h⟩:=yf.1 h;refine⟨l,[],[],h,zP,λyK=> ?_⟩;rw[yz];unfold iG;split
  .rename_i e;cases x <;> first|cases e|skip
   grind
  .rename_i e;cases x <;> first|cases e|skip
   all_goals grind
  .rw[pi G];rfl
structure rQ where
 t:Ty
 e:yc
 l:List t.aU
def FS(H:yL ah)(id:Nat):yO rQ:=
 match H[id]? with
 |some (.log t e l)=>ab ⟨t,e,l⟩
 |_=>ad
theorem ZzQ{id:Nat}{m:rQ}(h:FS H id=ab m):H[id]? =ab (.log m.t m.e m.l):=by
 unfold FS at h
 all_goals grind
def cg(n m b:Nat):Bool:=ag ((n+m)*b<=Zs)&&ag (n+m<=maxLen)
def FT(P:yg)(own row:Bool)(t u:yc)(all:yL TD)(H:yL ah)(K:Kn O)(y:TD):TD->yO O
 |.own id z T ad=>match P.underlying t with
  |some (.slice e)=>(P.info? e).bind λi=>(FS H id).bind λm=>(Ty.bu m.t T m.l).bind λzs=>rP P T u H (λf hs=>
   if(cu i&&ag (i.size=T.size)&&ag (m.e=e)&&ag (T.size≠0))=ae then if cg zs.length f.length i.bytes=ae then
    K (TD.cE (lk H) id all) (.own id ad T ad) ((H.map (ah.stale (lk H) id)).set id (.log T e (zs++f))) hs 2 else ad else ad) y
  |_=>ad
 |.rv id v s lo n=>match P.underlying t with
  |some (.slice e)=>(P.info? e).bind λi=>(gD P ij e).bind λT=>rP P T u H (λf hs=>if f.isEmpty=ae then
    if(cu i&&ag (P.cellsOf e=T.size))=ae then K all (.rv id v s lo n) H (.bare::hs) 2 else ad
   else match H[id]? with
    |some (.row w g ae h d)=>d.inner.bind λy0=>y0.dQ.bind λr=>(Ty.bu r.t T r.l).bind λj=>
     if(cu i&&ag (i.size=T.size)&&ag (g=T.size)&&ag (h=e)&&ag (T.size≠0)&&w==v&&ag (lo=0)&&ag (s=T.size))=ae then if(ag (n<=r.n)&&cg n f.length i.bytes)=ae then
      K all (.rv id (v+1) s 0 (n+f.length)) (H.set id (.row (v+1) s ae e (.p (.v (.arr (n+f.length) T) (j.take n++f))))) (.raw::hs) 2 else ad else ad
    |_=>ad) y
  |_=>ad
 |.p (.sl (ab af) _ [])=>if row then match P.underlying t with
  |some (.slice e)=>(P.info? e).bind λi=>(gD P ij e).bind λT=>(my (lk H) P T u y).bind λf=>
   if(cu i&&i.size !=0&&ag (i.size=T.size)&&ag (P.cellsOf e=T.size))=ae then if nM f.length i.bytes=ae then
    K all (.rv H.length 0 i.size 0 f.length) (H++[.row 0 i.size ae e (.p (.v (.arr f.length T) f))]) [.arr] 2 else ad else ad
  |_=>ad else if own then match P.underlying t with
  |some (.slice e)=>(P.info? e).bind λi=>(gD P ij e).bind λT=>(my (lk H) P T u y).bind λf=>
   if(cu i&&i.size !=0&&ag (i.size=T.size)&&ag (P.cellsOf e=T.size)&&TD.frees H.length all&&H.all (ah.free H.length))=ae then if nM f.length i.bytes=ae then
    K all (.own H.length ad T ad) (H++[.log T e f]) [.own] 2 else ad else ad
  |_=>ad else ad
 |_=>ad
theorem ZES{id:Nat}{T:Ty}{e:yc}{l:yL T.aU}(H:yL ah)(h:id < H.length):Yb (lk (H.set id (.log T e l))) id T ad=l:=by
 unfold Yb lk;dsimp only;rw[List.getElem?_set_self h];show(Ty.bu T T l).getD []=l;unfold Ty.bu;split
 all_goals grind
theorem pr{L:Lk}{n:Nat}:∀(l:yL TD),(TD.cE L n l).length=l.length
 |[]=>rfl
 |_::r=>by rw[TD.cE,yag,yag,pr r]
def FU(H:yL ah):TD->TD
 |.own id f T (ab zs)=>match H[id]? with
  |some (.log t e l)=>match Ty.bu t T l with
   |some g=>if@decide (g=zs) (@instDecidableEqList T.aU (Ty.fa T) g zs)=ae then .own id f T ad else .own id f T (ab zs)
   |none=>.own id f T (ab zs)
  |_=>.own id f T (ab zs)
 |d=>d
theorem ZCO(d:TD):(FU H d).er (lk H)=d.er (lk H):=by
 unfold FU;split
 .rename_i id j T zs;split
  .rename_i t e l g;split
   .rename_i h m;split
    .rename_i f;have f:=@of_decide_eq_true _ (@instDecidableEqList T.aU (Ty.fa T) h zs) f;rw[TD.er,TD.er]
     have:Yb (lk H) id T ad=zs:=by
      unfold Yb lk;dsimp only;rw[g];show(Ty.bu t T l).getD []=zs;grind
     rw[this];rfl
    .rfl
   .rfl
  .rfl
 .rfl
theorem Zvq{own row:Bool}{t u:yc}{x y:yp}{c:Call}{xd yd:TD}(ho:o.op=.call c)(hc:c.callee=.builtin .append)(ha:c.args.toList=[x,y])(ht:c.argTypes.toList=[t,u])
 (hv:aF P (TD.aG (lk H) ts) t x=xd.er (lk H)) (hy:bn P ts u y=ab yd) (h:FT P own row t u all H K yd xd=ab out):∃a d H' hs c,K a d H' hs c=ab out/\Good P o ts all H a d H' hs c:=by
 have R:=Zt (L:=lk H) hy;unfold FT at h;split at h
 .rename_i id nn T;split at h
  .rename_i e j;obtain⟨i,G,h⟩:=yf.1 h;obtain⟨m,Y,h⟩:=yf.1 h;obtain⟨zs,A,h⟩:=yf.1 h;obtain⟨g,hs,C,E,Z,k3⟩:=FR h;obtain⟨l,k6⟩:=Za E;obtain⟨z,kk⟩:=Za k6;clear E k6;simp only[yi,yP]at l;obtain⟨⟨⟨I,M⟩,F⟩,Q⟩:=l;simp only[cg,yi,yP]at z;have hl:=ZzQ Y;obtain⟨mt,me,ml⟩:=m;dsimp only at A F hl;obtain⟨eT,A⟩:=ZH A;subst eT;subst A;subst F;have hlt:id < H.length:=(yu.1 hl).1
   have ec:Yb (lk H) id mt ad=zs:=by
    unfold Yb lk;dsimp only;rw[hl];show(Ty.bu mt mt zs).getD []=zs
    all_goals grind
   refine⟨_,_,_,_,_,kk,bS (λid' t hn=>VG (lk H) id' t hn) all,pr all,dV (⟨rfl,λf=> ?_,λf=> ?_,
    C++[zs.map mt.enc=zs.map mt.enc,((zs.map mt.enc).length+(g.map mt.enc).length)*i.bytes<=Zs,(zs.map mt.enc).length+(g.map mt.enc).length<=maxLen],Zl.2 ⟨Z,rfl,by simpa using z.1,by simpa using z.2,aB⟩,λf=> ?_⟩)⟩
   .unfold bh;rw[ho];dsimp only;rw[hc];dsimp only;rw[ha,ht];split
    .rename_i e1 e2 e3;simp only[List.cons.injEq,and_true]at e1 e2;obtain⟨rfl,rfl⟩:=e1;obtain⟨rfl,rfl⟩:=e2;rw[j,hv];rfl
    .rfl
   .unfold bG;grind
   .unfold cU;rw[ho];dsimp only;rw[hc];dsimp only;rw[ha,ht];dsimp only;rw[j,hv,R];dsimp only[TD.er];rw[ec,G,k3 f,Z2 hl];dsimp only[ah.er];rw[yW (by simp[I,M,Q]),ZEL,ZES _ (by rw[yad];exact hlt),yau]
  .cases h
 .rename_i id v s lo n;split at h
  .rename_i e j;obtain⟨i,G,h⟩:=yf.1 h;obtain⟨T,Y,h⟩:=yf.1 h;obtain⟨g,hs,C,E,Z,k3⟩:=FR h
   have nN:∀hs,bh P o (TD.aG (lk H) ts) hs=ad:=λhs=>by
    unfold bh;rw[ho];dsimp only;rw[hc];dsimp only;rw[ha,ht]
    cases hs with
    |nil=>rfl
    |cons h0 hr=>cases h0 <;> first|rfl|(dsimp only;rw[j,hv];rfl)
   have nR:∀hs,bG P o (TD.aG (lk H) ts) (aK H) hs=ad:=λhs=>by
    unfold bG;grind
   split at E
   .rename_i S;obtain⟨l,z⟩:=Za E;simp only[yi,yP]at l;have hys:g=[]:=by simpa using S
    refine⟨_,_,_,_,_,z,rfl,rfl,dV (⟨rfl,λf=>nN _,λf=>nR _,C++[g.map T.enc=[]],Zl.2 ⟨Z,by rw[hys];rfl,aB⟩,λf=> ?_⟩)⟩;unfold cU;rw[ho];dsimp only;rw[hc];dsimp only;rw[ha,ht];dsimp only;rw[j,hv,R];dsimp only[TD.er];grind
   .split at E
    .rename_i w s' e' d hd;obtain⟨y0,p1,q1⟩:=yf.1 E;obtain⟨r,p2,q2⟩:=yf.1 q1;obtain⟨xs,p3,q3⟩:=yf.1 q2;obtain⟨p4,q4⟩:=Za q3;obtain⟨p5,q5⟩:=Za q4;simp only[yi,yP,yT]at p4;obtain⟨⟨⟨⟨⟨⟨⟨I,M⟩,F⟩,Q⟩,g5⟩,g6⟩,U⟩,W⟩:=p4;simp only[cg,yi,yP]at p5
     have X:d.er (lk H)=.p (.arr r.n T.size (xs.map T.enc)):=by
      rw[Y3 p1,TD.er,jj p2];obtain⟨e,p3⟩:=ZH p3;grind
     refine⟨_,_,_,_,_,q5,nU hd rfl rfl,rfl,dV (⟨rfl,λf=>nN _,λf=>nR _,C++[n<=r.n,(n+(g.map T.enc).length)*i.bytes<=Zs,n+(g.map T.enc).length<=maxLen,ae=ae\/n=r.n],
      Zl.2 ⟨Z,p5.1,by simpa using p5.2.1,by simpa using p5.2.2,.inl rfl,aB⟩,λf=> ?_⟩)⟩
     unfold cU;rw[ho];dsimp only;rw[hc];dsimp only;rw[ha,ht];dsimp only;rw[j,hv,R];dsimp only[TD.er];rw[yaf];dsimp only;rw[G,W,k3 f,Z2 hd,ah.er,X];dsimp only;rw[yW (by simp[I,M,F,Q,g5,g6,U]),Xl (Vh hd rfl rfl)];simp only[ah.er,TD.er,TP.pe,CO,yad,yau,List.map_take]
    .cases E
  .cases h
 .rename_i T0;split at h
  .split at h
   .rename_i e j;obtain⟨i,G,h⟩:=yf.1 h;obtain⟨T,Y,h⟩:=yf.1 h;obtain⟨g,A,h⟩:=yf.1 h;obtain⟨l,h⟩:=Za h;obtain⟨z,h⟩:=Za h;simp only[yi,yP]at l;obtain⟨⟨⟨I,M⟩,F⟩,Q⟩:=l;obtain⟨U,W⟩:=mf z;refine⟨_,_,_,_,_,h,rM rfl,rfl,dV (⟨rfl,λf=> ?_,λf=> ?_,[(g.map T.enc).length*i.bytes<=Zs,(g.map T.enc).length<=maxLen],⟨by rw[yad];exact U,by rw[yad];exact W,aB⟩,λf=> ?_⟩)⟩
    .unfold bh;grind
    .unfold bG;grind
    .unfold cU;rw[ho];dsimp only;rw[hc];dsimp only;rw[ha,ht];dsimp only;rw[j,hv,R,show(TD.p (TP.sl (ab af) T0 [])).er (lk H)=Dv.p (.sl (ab af) T0.size []) from rfl]
     dsimp only;rw[G,Q,pi A,yaf,yz];dsimp only;rw[yW (by simp only[yi];exact⟨I,M⟩),nQ (lr rfl),ZW];simp only[ah.er,TD.er,TP.pe,CO,yad,F]
   .cases h
  split at h
  .split at h
   .rename_i e j;obtain⟨i,G,h⟩:=yf.1 h;obtain⟨T,Y,h⟩:=yf.1 h;obtain⟨g,A,h⟩:=yf.1 h;obtain⟨l,h⟩:=Za h;obtain⟨z,h⟩:=Za h;simp only[yi,yP]at l;obtain⟨⟨⟨⟨⟨I,M⟩,F⟩,Q⟩,g5⟩,g6⟩:=l;obtain⟨U,W⟩:=mf z;refine⟨_,_,_,_,_,h,po g5,rfl,dV (⟨rfl,λf=> ?_,λf=> ?_,[(g.map T.enc).length*i.bytes<=Zs,(g.map T.enc).length<=maxLen],⟨by rw[yad];exact U,by rw[yad];exact W,aB⟩,λf=> ?_⟩)⟩
    .unfold bh;grind
    .unfold bG;grind
    .unfold cU;rw[ho];dsimp only;rw[hc];dsimp only;rw[ha,ht];dsimp only;rw[j,hv,R,show(TD.p (TP.sl (ab af) T0 [])).er (lk H)=Dv.p (.sl (ab af) T0.size []) from rfl]
     dsimp only;rw[G,Q,pi A,yaf,yz];dsimp only;rw[yW (by simp only[yi];exact⟨I,M⟩),ZBc g6,ZW,TD.er,pp,F]
   .cases h
  .cases h
 .cases h
def FV(P:yg)(t u:yc)(all:yL TD)(H:yL ah)(K:Kn O)(y:TD):TD->yO O
 |.view id h s lo n=>match P.underlying t,H[id]? with
  |some (.slice e),ab (.var d ae)=>fk (lk H) h d λsub hs g=>sub.inner.bind λy0=>y0.dQ.bind λr=>(my (lk H) P r.t u y).bind λf=>
   (g (.p (.v (.arr r.n r.t) (r.l.take lo++(f++r.l.drop (lo+f.length)))))).bind λj=>
     if(ag (r.t.size=s)&&ag (P.cellsOf e=s)&&(P.info? e).isSome&&ag (f.length<=n)&&ag (lo+n<=r.n))=ae then K all (.p (.v (.int .i64) (f.length:Int))) (H.set id (.var j ae)) hs 2 else ad
  |_,_=>ad
 |_=>ad
theorem ZzS{t u:yc}{x y:yp}{c:Call}{A E:TD}(ho:o.op=.call c)(hc:c.callee=.builtin .copy)(ha:c.args.toList=[x,y])(ht:c.argTypes.toList=[t,u])
 (M:bn P ts t x=ab A) (Q:bn P ts u y=ab E) (h:FV P t u all H K E A=ab out):∃a d H' hs c,K a d H' hs c=ab out/\Good P o ts all H a d H' hs c:=by
 have R:=Zt (L:=lk H) M;have S:=Zt (L:=lk H) Q;unfold FV at h;split at h
 .rename_i id F s lo n;split at h
  .rename_i e d T z;obtain⟨sub,hs,U,C,f,W,X,Y⟩:=Xo _ _ _ _ h;obtain⟨y0,Z,f⟩:=yf.1 f;obtain⟨r,p2,f⟩:=yf.1 f;obtain⟨g,p3,f⟩:=yf.1 f;obtain⟨d',p4,f⟩:=yf.1 f;obtain⟨G,f⟩:=Za f;simp only[yi,yP]at G;obtain⟨⟨⟨⟨I,g2⟩,g3⟩,g4⟩,g5⟩:=G;have j:sub.er (lk H)=.p (.arr r.n r.t.size (r.l.map r.t.enc)):=by rw[Y3 Z,TD.er,jj p2]
   refine⟨_,_,_,_,_,f,nU z rfl rfl,rfl,dV (⟨rfl,λm=> ?_,λm=> ?_,C++[ew F=Wc F,(g.map r.t.enc).length<=n,lo+n<=r.n],Zl.2 ⟨W,(XK _).symm,by rw[yad];exact g4,g5,aB⟩,λm=> ?_⟩)⟩
   .unfold bh;rw[ho];dsimp only;rw[hc]
   .unfold bG;rw[ho];dsimp only;rw[hc]
   .unfold cU;rw[ho];dsimp only;rw[hc];dsimp only;rw[ha,ht];dsimp only;rw[T,R,S];dsimp only[TD.er];rw[<-I,pi p3,Z2 z];dsimp only[ah.er];rw[X m,j];dsimp only;have:=Y _ _ p4 m
    have e1:(TD.p (.v (.arr r.n r.t) (r.l.take lo++(g++r.l.drop (lo+g.length))))).er (lk H)=.p (.arr r.n r.t.size (oL (r.l.map r.t.enc) (g.map r.t.enc) lo)):=by
     show Dv.p (Pl.arr r.n r.t.size ((r.l.take lo++(g++r.l.drop (lo+g.length))).map r.t.enc))=_;unfold oL;simp_all
    rw[e1]at this;rw[this];dsimp only;rw[yW (by simp only[yi,yP];exact⟨⟨zP,by rw[I];exact g2⟩,g3⟩),Xl (Vh z rfl rfl),yad];rfl
  .cases h
 .cases h
def FW(H:yL ah)(id:Nat):Bool:=
 match H[id]? with
 |some (.var _ af)=>ae
 |_=>af
def FX(P:yg)(t:yc)(lo hi:yO Int)(all:yL TD)(H:yL ah)(K:Kn O):TD->yO O
 |.ak id f=>match P.underlying t with
  |some (.array n e)=>(nT H id).bind λd=>fk (lk H) f d λsub hs _=>sub.inner.bind λy=>y.dQ.bind λr=>
   if(ag (n=r.n)&&okB P e r.t.size&&ag (n<=maxLen))=ae then if dU n lo hi=ae then(if FW H id=ae then K all (.p (.sl (ab ae) r.t (Vc r.l lo hi))) H (.eC::hs) 1 else
    K all (.p (.sl (ab ae) r.t (Vc r.l lo hi))) (H.set id (.var d af)) (.eC::hs) 2) else ad else ad
  |_=>ad
 |_=>ad
theorem ZCP{t:yc}{x:yp}{lo hi:yO yp}{l E:yO Int}{M:TD}(ho:o.op=.slice t x lo hi ad)(Y:bn P ts t x=ab M)(hl:ft P ts lo=ab l)(A:ft P ts hi=ab E)
 (h:FX P t l E all H K M=ab out):∃a d H' hs c,K a d H' hs c=ab out/\Good P o ts all H a d H' hs c:=by
 have F:=Zt (L:=lk H) Y;have hl:=QF (L:=lk H) hl;have A:=QF (L:=lk H) A;unfold FX at h;split at h
 .rename_i id G;split at h
  .rename_i n e I;obtain⟨d,Z,h⟩:=yf.1 h;obtain⟨st,Q,R⟩:=rI Z;obtain⟨sub,hs,put,C,f,S,T,_⟩:=Xo _ _ _ _ h;obtain⟨y,p1,f⟩:=yf.1 f;obtain⟨r,p2,f⟩:=yf.1 f;obtain⟨U,f⟩:=Za f;obtain⟨W,f⟩:=Za f;have j:sub.er (lk H)=.p (.arr r.n r.t.size (r.l.map r.t.enc)):=by rw[Y3 p1,TD.er,jj p2]
   have X:∀m,bh P o (TD.aG (lk H) ts) (.eC::hs++m)=ad:=λm=>by
    unfold bh;rw[ho];dsimp only;rw[I,F,hl,A];rfl
   split at f
   .rename_i z
    have g:st=af:=by
     unfold FW at z;grind
    subst g;refine⟨_,_,_,_,_,f,rfl,rfl,.inr (.inl ⟨rfl,rfl,X,C++[ew G=Wc G]++YI n l E,Zl.2 ⟨Zl.2 ⟨S,(XK _).symm,aB⟩,md W⟩,λm=> ?_⟩)⟩;unfold bG;rw[ho];dsimp only;rw[I,F,hl,A];dsimp only[TD.er];rw[yaf];dsimp only;rw[R];dsimp only;rw[T m,j];dsimp only;rw[yW (by simpa[okB,and_assoc] using U),TP.pe,vG]
   rename_i z
   have g:st=ae:=by
    unfold FW at z;grind
   subst g;refine⟨_,_,_,_,_,f,nU Q rfl rfl,rfl,dV (⟨rfl,X,λm=> ?_,C++[ew G=Wc G]++YI n l E,Zl.2 ⟨Zl.2 ⟨S,(XK _).symm,aB⟩,md W⟩,λm=> ?_⟩)⟩
   .unfold bG;rw[ho];dsimp only;rw[I,F,hl,A];dsimp only[TD.er];grind
   .unfold cU;rw[ho];dsimp only;rw[I,F,hl,A];dsimp only[TD.er];rw[yaf];dsimp only;rw[R];dsimp only;rw[T m,j];dsimp only;rw[yW (by simpa[okB,and_assoc] using U),Xl (Vh Q rfl rfl),TP.pe,vG];rfl
  .cases h
 .cases h
def vS(dst:Tmp)(all:yL TD)(H:yL ah)(K:Kn O):TD->yO O
 |.view id f s lo n=>(nT H id).bind λd=>fk (lk H) f d λsub hs _=>sub.inner.bind λy=>y.dQ.bind λr=>
  if(ag (r.t.size=s))=ae then if(ag (lo+n<=r.n))=ae then K all (.p (.sl (ab ae) r.t ((r.l.drop lo).take n))) (H.set id (.var d af)) (.still dst::hs) 2 else ad else ad
 |.rv id v s lo n=>match H[id]? with
  |some (.row w g _ e d)=>d.inner.bind λy=>y.dQ.bind λr=>
   if(ag (r.t.size=s)&&ag (g=s)&&w==v)=ae then if(ag (lo+n<=r.n))=ae then K all (.p (.sl ad r.t ((r.l.drop lo).take n))) (H.set id (.row v s af e d)) [.still dst] 2 else ad else ad
  |_=>ad
 |_=>ad
theorem ZxF{dst:Tmp}{G:TD}(h:vS dst all H K G=ab out):∃a d H' hs,K a d H' (.still dst::hs) 2=ab out/\TD.aG (lk H') a=TD.aG (lk H) all/\a.length=all.length/\
 ∃C,aX C/\∀yK,jv (G.er (lk H)) (aK H) (hs++yK)=ab (C,d.er (lk H'),aK H',yK):=by
 unfold vS at h;split at h
 .rename_i id z s lo n;obtain⟨d,M,h⟩:=yf.1 h;obtain⟨st,I,Q⟩:=rI M;obtain⟨sub,hs,R,C,f,S,T,_⟩:=Xo _ _ _ _ h;obtain⟨y,A,f⟩:=yf.1 f;obtain⟨r,E,f⟩:=yf.1 f;obtain⟨j,f⟩:=Za f;obtain⟨m,f⟩:=Za f;have j:=yF j;have m:=yF m;have g:sub.er (lk H)=.p (.arr r.n r.t.size (r.l.map r.t.enc)):=by rw[Y3 A,TD.er,jj E]
  refine⟨_,_,_,_,f,nU I rfl rfl,rfl,C++[ew z=Wc z,lo+n<=r.n],Zl.2 ⟨S,(XK _).symm,m,aB⟩,λyK=> ?_⟩;unfold jv;rw[show(TD.view id z s lo n).er (lk H)=Dv.view id (Wc z) (z.map cf.i) s lo n from rfl]
  try dsimp only
  rw[Q]
  try dsimp only
  rw[T yK,g]
  try dsimp only
  rw[yW j,Xl (Vh I rfl rfl),TD.er,TP.pe,List.map_take,List.map_drop,j]
  try rfl
 .rename_i id v s lo n;split at h
  .rename_i w U st e d F;obtain⟨y,A,f⟩:=yf.1 h;obtain⟨r,E,f⟩:=yf.1 f;obtain⟨j,f⟩:=Za f;obtain⟨m,f⟩:=Za f;simp only[yi,yP]at j;have m:=yF m;have g:d.er (lk H)=.p (.arr r.n r.t.size (r.l.map r.t.enc)):=by rw[Y3 A,TD.er,jj E]
   refine⟨_,_,_,[],f,nU F rfl rfl,rfl,[lo+n<=r.n],⟨m,aB⟩,λyK=> ?_⟩;rw[yz];unfold jv;rw[show(TD.rv id v s lo n).er (lk H)=Dv.rv id v s lo n from rfl]
   dsimp only;rw[Z2 F,ah.er,g];dsimp only;rw[yW (by simp[j]),Xl (Vh F rfl rfl),ah.er,g,TD.er,TP.pe,List.map_take,List.map_drop,j.1.1]
  .cases h
 .cases h
theorem ZxG{x:yp}{dst:Tmp}{f:TD}(ho:o.op=.assign x\/o.op=.move x)(hd:o.dst=ab dst)(j:bn P ts o.type x=ab f)(h:vS dst all H K f=ab out):
 ∃a d H' hs c,K a d H' hs c=ab out/\Good P o ts all H a d H' hs c:=by
 have A:=Zt (L:=lk H) j;obtain⟨a,d,H',hs,l,m,y,C,z,E⟩:=ZxF h;refine⟨_,_,_,_,_,l,m,y,dV (⟨rfl,λg=> ?_,λg=> ?_,C,z,λg=> ?_⟩)⟩
 .rcases ho with ho|ho <;> (unfold bh;rw[ho];rfl)
 .rcases ho with ho|ho <;> (unfold bG;rw[ho])
 .rcases ho with ho|ho
  .unfold cU;grind
  .unfold cU;grind
def TD.iI:TD->Bool
 |.rw _=>ae
 |_=>af
def TD.rR:TD->Bool
 |.rp _ _=>ae
 |_=>af
theorem ZBd{id:Nat}{T:Ty}{v:yL Unit}{st f:Bool}{e h:yc}{l g:yL T.aU}(hd:H[id]? =ab (.aY T v st e l))(hl:g.length=l.length):lk (H.set id (.aY T v f h g))=lk H:=by
 funext j;unfold lk;by_cases m:id=j
 .subst m;rw[aj hd,hd];show ab _=ab _;rw[hl]
 grind
def FY(P:yg)(t:yc)(i:Int)(all:yL TD)(H:yL ah)(K:Kn O):TD->yO O
 |.rw id=>match P.underlying t,H[id]? with
  |some (.slice e),ab (.aY T v st f l)=>if okB P e T.size=ae then if bp i l.length=ae then K all (.rp id [.ix i.toNat T.size]) H [] 0 else ad else ad
  |_,_=>ad
 |_=>ad
theorem Zvt{t:yc}{x ix:yp}{f:TD}{q:IntKind×Int}{g:TP}(ho:o.op=.indexAddr t x ix)(z:bn P ts t x=ab f)(hi:bn P ts 0 ix=ab (.p g))(hq:ji g=ab q)(h:FY P t q.2 all H K f=ab out):
 ∃a d H' hs c,K a d H' hs c=ab out/\Good P o ts all H a d H' hs c:=by
 have A:=Zt (L:=lk H) z;have j:=Zt (L:=lk H) hi;rw[TD.er,(pf hq).1]at j;unfold FY at h;split at h
 .rename_i id;split at h
  .rename_i e T v st G l E m;obtain⟨F,h⟩:=Za h;obtain⟨y,h⟩:=Za h;refine⟨_,_,_,_,_,h,rfl,rfl,.inl ⟨rfl,rfl,[0<=q.2,q.2 < (l.length:Int)],⟨(VR y).1,(VR y).2,aB⟩,λI=> ?_⟩⟩;simp only[yz];unfold bh;rw[ho];dsimp only;rw[E,A,j,(gG m).1,(gG m).2];dsimp only;rw[yW (by simpa[okB] using F)];simp[Wc,cf.o,cf.i]
  .cases h
 .cases h
def FZ(P:yg)(t:yc)(lo hi:yO Int)(all:yL TD)(H:yL ah)(K:Kn O):TD->yO O
 |.rw id=>match P.underlying t,H[id]? with
  |some (.slice e),ab (.aY T v st f l)=>if okB P e T.size=ae then if dU l.length lo hi=ae then
    K all (.rv id v.length T.size (0+(lo.getD 0).toNat) ((hi.getD l.length).toNat - (lo.getD 0).toNat)) H [.bare] 0 else ad else ad
  |_,_=>ad
 |_=>ad
theorem ZzU{t:yc}{x:yp}{lo hi:yO yp}{l f:yO Int}{z:TD}(ho:o.op=.slice t x lo hi ad)(A:bn P ts t x=ab z)(hl:ft P ts lo=ab l)(E:ft P ts hi=ab f)(h:FZ P t l f all H K z=ab out):
 ∃a d H' hs c,K a d H' hs c=ab out/\Good P o ts all H a d H' hs c:=by
 have F:=Zt (L:=lk H) A;have g:=QF (L:=lk H) hl;have j:=QF (L:=lk H) E;unfold FZ at h;split at h
 .rename_i id;split at h
  .rename_i e T v st S G I M;obtain⟨Q,h⟩:=Za h;obtain⟨R,h⟩:=Za h;obtain⟨m,y⟩:=ZA7 Q;refine⟨_,_,_,_,_,h,rfl,rfl,.inl ⟨rfl,rfl,YI G.length l f,md R,λU=> ?_⟩⟩;unfold bh;rw[ho];dsimp only;rw[I,F,(gG M).1,g,j];dsimp only;rw[yaf,yz];dsimp only;rw[yW (by simp[m,y])];rfl
  .cases h
 .cases h
def GA(P:yg)(t:yc)(all:yL TD)(H:yL ah)(K:Kn O):TD->yO O
 |.rw id=>match P.underlying t,H[id]? with
  |some (.slice _),ab (.aY T v st f l)=>K all (.p (.v (.int .i64) (l.length:Int))) H [] 0
  |_,_=>ad
 |_=>ad
theorem ZzV{t:yc}{x:yp}{c:Call}{f:TD}(ho:o.op=.call c)(hc:c.callee=.builtin .len)(ha:c.args.toList=[x])(ht:c.argTypes.toList=[t])(g:bn P ts t x=ab f)(h:GA P t all H K f=ab out):
 ∃a d H' hs c,K a d H' hs c=ab out/\Good P o ts all H a d H' hs c:=by
 have j:=Zt (L:=lk H) g;unfold GA at h;split at h
 .rename_i id;split at h
  .rename_i e T v st z l m y;refine⟨_,_,_,_,_,h,rfl,rfl,.inl ⟨rfl,rfl,[],zP,λA=> ?_⟩⟩;simp only[yz];unfold bh;rw[ho];dsimp only;rw[hc];dsimp only;rw[ha,ht];dsimp only;rw[m,j,(gG y).1];rfl
  .cases h
 .cases h
def GB(P:yg)(t:yc)(all:yL TD)(H:yL ah)(K:Kn O):TD->yO O
 |.rp id f=>match H[id]? with
  |some (.aY T v st e l)=>fk (lk H) f (.p (.v (.arr l.length T) l)) λsub hs _=>if gb P t (sub.er (lk H))=ae then K all sub H hs 1 else ad
  |_=>ad
 |_=>ad
theorem ZxH{t:yc}{x:yp}{j:TD}(ho:o.op=.load t x)(z:bn P ts 0 x=ab j)(h:GB P t all H K j=ab out):∃a d H' hs c,K a d H' hs c=ab out/\Good P o ts all H a d H' hs c:=by
 have m:=Zt (L:=lk H) z;unfold GB at h;split at h
 .rename_i id f;split at h
  .rename_i T v st e l y;obtain⟨sub,hs,A,C,E,F,G,_⟩:=Xo _ _ _ _ h;obtain⟨M,I⟩:=Za E;refine⟨_,_,_,_,_,I,rfl,rfl,.inr (.inl ⟨rfl,rfl,λg=> ?_,C++[ew f=Wc f],Zl.2 ⟨F,(XK _).symm,aB⟩,λg=> ?_⟩)⟩
   .unfold bh;rw[ho];dsimp only;rw[m];rfl
   .unfold bG;rw[ho];dsimp only;rw[m,(gG y).2];dsimp only;rw[Z2 y];dsimp only[ah.er];have Q:Z6 (.p (.arr l.length T.size (l.map T.enc))) (f.map cf.i) (hs++g)=ab (C,ew f,sub.er (lk H),g):=G g;grind
  .cases h
 .cases h
def GC(P:yg)(t:yc)(all:yL TD)(H:yL ah)(K:Kn O)(v:TD):TD->yO O
 |.rp id (.ix i s::r)=>match H[id]? with
  |some (.aY T u ae e l)=>if s=T.size then(l[i]?).bind λy=>fk (lk H) r (.p (.v T y)) λsub hs f=>(f (v.cS (lk H))).bind λd1=>d1.inner.bind λz=>(TP.to jF z T).bind λg=>
   if mC P t ((v.cS (lk H)).er (lk H)) (sub.er (lk H))=ae then K all .an (H.set id (.aY T u ae e (l.set i g))) (.el (T.enc y)::hs) 2 else ad else ad
  |_=>ad
 |_=>ad
theorem Zvv{t:yc}{x y:yp}{I j:TD}(ho:o.op=.store t x y)(Q:bn P ts 0 x=ab I)(R:bn P ts t y=ab j)(h:GC P t all H K j I=ab out):
 ∃a d H' hs c,K a d H' hs c=ab out/\Good P o ts all H a d H' hs c:=by
 have S:=Zt (L:=lk H) Q;have U:=Zt (L:=lk H) R;unfold GC at h;split at h
 .rename_i id i s r;split at h
  .rename_i T u e l A;split at h
   .rename_i E;obtain⟨y0,W,h⟩:=yf.1 h;obtain⟨sub,hs,X,C,g,Y,Z,k4⟩:=Xo r (.p (.v T y0)) _ out h;obtain⟨d1,p1,g⟩:=yf.1 g;obtain⟨z,p2,g⟩:=yf.1 g;obtain⟨F,p3,g⟩:=yf.1 g;obtain⟨h4,g⟩:=Za g;have m:=h4;unfold mC at m;have M:lk (H.set id (.aY T u ae e (l.set i F)))=lk H:=ZBd A (by rw[List.length_set])
    have hg:∀f,Z6 (.p (.arr l.length T.size (l.map T.enc))) (i::r.map cf.i) (.el (T.enc y0)::(hs++f))=ab (((l.map T.enc)[i]? =ab (T.enc y0))::C,i*T.size+ew r,sub.er (lk H),f):=by
     intro f;unfold Z6;dsimp only;have:=Z f;rw[TD.er,TP.pe]at this;grind
    have hp:∀f,X5 ((j.cS (lk H)).er (lk H)) (.p (.arr l.length T.size (l.map T.enc))) (i::r.map cf.i) (.el (T.enc y0)::(hs++f))=ab (.p (.arr l.length T.size ((l.set i F).map T.enc))):=by
     intro f;have:=k4 _ d1 p1 f;rw[TD.er,TP.pe]at this;unfold X5;dsimp only;rw[this,Y3 p2,TD.er];dsimp only;rw[nK z T F p3, <-ybn]
    refine⟨_,_,_,_,_,g,by rw[M],rfl,dV (⟨rfl,λf=> ?_,λf=> ?_,(((l.map T.enc)[i]? =ab (T.enc y0))::C)++[i*T.size+ew r=Wc (.ix i s::r)],
     Zl.2 ⟨⟨ri W,Y⟩,by rw[XK,ew,cf.o,E],aB⟩,λf=> ?_⟩)⟩
    .unfold bh;rw[ho]
    .unfold bG;rw[ho]
    .unfold cU;rw[ho];dsimp only;rw[S,U,(gG A).2];dsimp only;rw[Z2 A];dsimp only[ah.er];rw[yah,show(cf.ix i s).i=i from rfl,yaf,hg f]
     dsimp only;have G:jc (i::r.map cf.i) (.p (.arr l.length T.size (l.map T.enc))) (j.er (lk H))=ab ((j.cS (lk H)).er (lk H)):=FO (yQ:=.ix i s::r) (d:=.p (.v (.arr l.length T) l)) (v:=j) (new:=j.cS (lk H)) (L:=lk H) rfl;rw[G];dsimp only;rw[hp f];dsimp only;rw[yW (by simp only[yi]at m ⊢;exact⟨⟨m,by simp⟩,by simp[aR]⟩),Xl M];simp only[ah.er,List.length_set];rfl
   .cases h
  .cases h
 .cases h
def GD(dst:Tmp)(all:yL TD)(H:yL ah)(K:Kn O):TD->yO O
 |.rw id=>match H[id]? with
  |some (.aY T v st e l)=>K all (.p (.sl ad T l)) (H.set id (.aY T v af e l)) [.still dst] 2
  |_=>ad
 |_=>ad
theorem Zvx{x:yp}{dst:Tmp}{m:TD}(ho:o.op=.assign x\/o.op=.move x)(hd:o.dst=ab dst)(E:bn P ts o.type x=ab m)(h:GD dst all H K m=ab out):
 ∃a d H' hs c,K a d H' hs c=ab out/\Good P o ts all H a d H' hs c:=by
 have y:=Zt (L:=lk H) E;unfold GD at h;split at h
 .rename_i id;split at h
  .rename_i T v st e l j;have z:lk (H.set id (.aY T v af e l))=lk H:=ZBd j rfl
   have A:∀g,jv ((TD.rw id).er (lk H)) (aK H) g=ab ([0+l.length<=l.length],.p (.sl ad T.size (l.map T.enc)),aK (H.set id (.aY T v af e l)),g):=by
    intro g;unfold jv;rw[(gG j).1];dsimp only;rw[Z2 j,ah.er];dsimp only;rw[yW (by simp),Xl z,ah.er,List.drop_zero, <-yad (f:=T.enc),yaj]
   refine⟨_,_,_,_,_,h,by rw[z],rfl,dV (⟨rfl,λg=> ?_,λg=> ?_,[0+l.length<=l.length],⟨by omega,aB⟩,λg=> ?_⟩)⟩
   .rcases ho with ho|ho <;> (unfold bh;rw[ho];rfl)
   .rcases ho with ho|ho <;> (unfold bG;rw[ho])
   .rcases ho with ho|ho
    .unfold cU;rw[ho];dsimp only;rw[yaf];dsimp only;rw[yW hd,y];exact A g
    .unfold cU;rw[ho];dsimp only;rw[yaf];dsimp only;rw[yW hd,y];exact A g
  .cases h
 .cases h
theorem ZxI{L M:Lk}{n:Nat}(h:∀id t,id≠n->Yb L id t ad=Yb M id t ad)(x:ah)(f:x.free n=ae):x.er L=x.er M:=by
 cases x with
 |var d st=>rw[ah.er,ah.er,kE h d f]
 |row v s st e d=>rw[ah.er,ah.er,kE h d f]
 |bL t l v st e j d g=>rw[ah.er,ah.er,kE h d f]
 |_=>rfl
theorem vT{T:Ty}{v:yL Unit}{st:Bool}{e:yc}{l:yL T.aU}(h:H.all (ah.free H.length)=ae):aK (H++[.aY T v st e l])=aK H++[.row v.length T.size st e (.p (.arr l.length T.size (l.map T.enc)))]:=by
 unfold aK;rw[yau];congr 1;refine yci λx f=> ?_;have g:=yal.1 h x f;exact(ZxI (λid t j=>lu id t j) x g).symm
theorem vU{T:Ty}{v:yL Unit}{st:Bool}{e:yc}{l:yL T.aU}:(TD.rw H.length).er (lk (H++[.aY T v st e l]))=.rv H.length v.length T.size 0 l.length:=
 (gG (H:=H++[.aY T v st e l]) (List.getElem?_concat_length ..)).1
def GF(P:yg)(row:Bool)(t u:yc)(all:yL TD)(H:yL ah)(K:Kn O)(y:TD):TD->yO O
 |.rw id=>match P.underlying t,H[id]? with
  |some (.slice e),ab (.aY T v st g l)=>(P.info? e).bind λi=>rP P T u H (λf hs=>
   if(cu i&&ag (i.size=T.size)&&ag (P.cellsOf e=T.size)&&ag (g=e)&&ag (T.size≠0))=ae then if cg l.length f.length i.bytes=ae then
    K (TD.cE (lk H) id all) (.rw id) ((H.map (ah.stale (lk H) id)).set id (.aY T (()::v) st e (l++f))) (.raw::hs) 2 else ad else ad) y
  |_,_=>ad
 |.p (.sl (ab af) _ [])=>match P.underlying t with
  |some (.slice e)=>(P.info? e).bind λi=>(gD P ij e).bind λT=>(my (lk H) P T u y).bind λf=>
   if(cu i&&i.size !=0&&ag (i.size=T.size)&&ag (P.cellsOf e=T.size)&&TD.frees H.length all&&H.all (ah.free H.length))=ae then if nM f.length i.bytes=ae then
    K all (.rw H.length) (H++[.aY T [] ae e f]) [.arr] 2 else ad else ad
  |_=>ad
 |_=>ad
theorem ZsK{row:Bool}{t u:yc}{x y:yp}{c:Call}{X Y:TD}(ho:o.op=.call c)(hc:c.callee=.builtin .append)(ha:c.args.toList=[x,y])(ht:c.argTypes.toList=[t,u])
 (hv:aF P (TD.aG (lk H) ts) t x=X.er (lk H)) (hy:bn P ts u y=ab Y) (h:GF P row t u all H K Y X=ab out):∃a d H' hs c,K a d H' hs c=ab out/\Good P o ts all H a d H' hs c:=by
 have Z:=Zt (L:=lk H) hy;unfold GF at h;split at h
 .rename_i id;split at h
  .rename_i e T v st j l F G;obtain⟨i,I,h⟩:=yf.1 h;obtain⟨g,hs,C,k1,k2,k3⟩:=FR h;obtain⟨z,k6⟩:=Za k1;obtain⟨A,kk⟩:=Za k6;clear k1 k6;simp only[yi,yP]at z;obtain⟨⟨⟨⟨M,Q⟩,g3⟩,R⟩,S⟩:=z;subst R;simp only[cg,yi,yP]at A;have hlt:id < H.length:=(yu.1 G).1
   refine⟨_,_,_,_,_,kk,bS (λU t W=>VG (lk H) U t W) all,pr all,dV (⟨rfl,λm=> ?_,λm=> ?_,
    C++[l.length<=l.length,(l.length+(g.map T.enc).length)*i.bytes<=Zs,l.length+(g.map T.enc).length<=maxLen,st=ae\/l.length=l.length],Zl.2 ⟨k2,yl _,by simpa using A.1,by simpa using A.2,.inr rfl,aB⟩,λm=> ?_⟩)⟩
   .unfold bh;grind
   .unfold bG;grind
   .unfold cU;rw[ho];dsimp only;rw[hc];dsimp only;rw[ha,ht];dsimp only;rw[F,hv,Z,(gG G).1];rw[yaf];dsimp only;rw[I,k3 m,Z2 G];dsimp only[ah.er]
    have E:((H.map (ah.stale (lk H) id)).set id (.aY T (()::v) st j (l++g)))[id]? =ab (.aY T (()::v) st j (l++g)):=by
     grind
    have hH:aK ((H.map (ah.stale (lk H) id)).set id (.aY T (()::v) st j (l++g)))=(aK H).set id (.row (v.length+1) T.size st j (.p (.arr (l.length+g.length) T.size (l.map T.enc++g.map T.enc)))):=by
     unfold aK;rw[ybn,ybd]
     have:(ah.aY T (()::v) st j (l++g)).er (lk ((H.map (ah.stale (lk H) id)).set id (.aY T (()::v) st j (l++g))))=.row (v.length+1) T.size st j (.p (.arr (l.length+g.length) T.size (l.map T.enc++g.map T.enc))):=by
      simp only[ah.er,yag,ym,yau]
     rw[this];congr 1;refine yci λx hx=> ?_;exact rF (λid t W=>VG (lk H) id t W) x
    rw[yW (by simp[M,Q,S]),hH,(gG E).1];simp only[yad,yag,ym];rw[show(l.map T.enc).take l.length=l.map T.enc by rw[<-yad (f:=T.enc),yaj]]
  .cases h
 .rename_i T0;split at h
  .rename_i e F;obtain⟨i,I,h⟩:=yf.1 h;obtain⟨T,h2,h⟩:=yf.1 h;obtain⟨g,h3,h⟩:=yf.1 h;obtain⟨z,h⟩:=Za h;obtain⟨A,h⟩:=Za h;simp only[yi,yP]at z;obtain⟨⟨⟨⟨⟨M,Q⟩,g3⟩,R⟩,S⟩,g6⟩:=z;obtain⟨g7,g8⟩:=mf A;refine⟨_,_,_,_,_,h,po S,rfl,dV (⟨rfl,λm=> ?_,λm=> ?_,[(g.map T.enc).length*i.bytes<=Zs,(g.map T.enc).length<=maxLen],⟨by rw[yad];exact g7,by rw[yad];exact g8,aB⟩,λm=> ?_⟩)⟩
   .unfold bh;grind
   .unfold bG;grind
   .unfold cU;rw[ho];dsimp only;rw[hc];dsimp only;rw[ha,ht];dsimp only;rw[F,hv,Z,show(TD.p (TP.sl (ab af) T0 [])).er (lk H)=Dv.p (.sl (ab af) T0.size []) from rfl]
    dsimp only;rw[I,R,pi h3,yaf,yz];dsimp only;rw[yW (by simp only[yi];exact⟨M,Q⟩),vT g6,ZW,vU,g3];grind
  .cases h
 .cases h
def GG(P:yg)(ts:yL TD)(t:yc)(len:Nat)(parts:yL (Nat×yp))(all:yL TD)(H:yL ah)(K:Kn O):yO O:=
 ph (lk H) P ts t len parts λT l e=>if(ag (l.length=len)&&TD.frees H.length all&&H.all (ah.free H.length))=ae then K all (.rw H.length) (H++[.aY T [] ae e l]) [.arr] 2 else ad
theorem ZzX{t:yc}{len:Nat}{parts:Array (Nat×yp)}(ho:o.op=.buildSlice t len parts)(h:GG P ts t len parts.toList all H K=ab out):
 ∃a d H' hs c,K a d H' hs c=ab out/\Good P o ts all H a d H' hs c:=by
 unfold GG at h;obtain⟨e,T,l,i,I,g,m,y,z,A,hs,E⟩:=vO h;obtain⟨f,g⟩:=Za g;simp only[yi,yP]at f;obtain⟨⟨f,F⟩,G⟩:=f;refine⟨_,_,_,_,_,g,po F,rfl,dV (⟨rfl,λj=> ?_,λj=> ?_,[],zP,λj=> ?_⟩)⟩
 .unfold bh;rw[ho];rfl
 .unfold bG;rw[ho]
 .unfold cU;rw[ho];dsimp only;rw[yaf,yz];dsimp only;rw[m];dsimp only;rw[y,z];dsimp only;rw[yW (by simpa using A),E,vT G,vU,ZW,hs,f];rfl
def GH(P:yg)(ts:yL TD)(t:yc)(len:Nat)(parts:yL (Nat×yp))(id:Nat)(all:yL TD)(H:yL ah)(K:Kn O):yO O:=
 ph (lk H) P ts t len parts λT l e=>match H[id]? with
  |some (.aY T' v _ f _)=>if(ag (l.length=len)&&ag (f=e)&&ag (T'.size=T.size))=ae then K (TD.cE (lk H) id all) (.rw id) ((H.map (ah.stale (lk H) id)).set id (.aY T (()::v) ae e l)) [.fresh id] 2 else ad
  |_=>ad
theorem ZxJ{t:yc}{len id:Nat}{parts:Array (Nat×yp)}(ho:o.op=.buildSlice t len parts)(h:GH P ts t len parts.toList id all H K=ab out):
 ∃a d H' hs c,K a d H' hs c=ab out/\Good P o ts all H a d H' hs c:=by
 unfold GH at h;obtain⟨e,T,l,i,W,g,G,I,M,Q,hs,A⟩:=vO h;split at g
 case h_2=>cases g
 rename_i T0 v st f X E;obtain⟨m,g⟩:=Za g;simp only[yi,yP]at m;obtain⟨⟨m,rfl⟩,R⟩:=m;have S:id < H.length:=(yu.1 E).1
 have j:((H.map (ah.stale (lk H) id)).set id (.aY T (()::v) ae f l))[id]? =ab (.aY T (()::v) ae f l):=by
  grind
 have U:aK ((H.map (ah.stale (lk H) id)).set id (.aY T (()::v) ae f l))=(aK H).set id (.row (v.length+1) T.size ae f (.p (.arr l.length T.size (l.map T.enc)))):=by
  unfold aK;rw[ybn,ybd]
  have:(ah.aY T (()::v) ae f l).er (lk ((H.map (ah.stale (lk H) id)).set id (.aY T (()::v) ae f l)))=.row (v.length+1) T.size ae f (.p (.arr l.length T.size (l.map T.enc))):=by
   simp only[ah.er,yag]
  rw[this];congr 1;refine yci λx A=> ?_;exact rF (λid t y=>VG (lk H) id t y) x
 refine⟨_,_,_,_,_,g,bS (λz t y=>VG (lk H) z t y) all,pr all,dV (⟨rfl,λF=> ?_,λF=> ?_,[],zP,λF=> ?_⟩)⟩
 .unfold bh;rw[ho];rfl
 .unfold bG;rw[ho]
 .unfold cU;rw[ho];dsimp only;rw[yaf,yz];dsimp only;rw[G,Z2 E];dsimp only[ah.er];rw[I,M];dsimp only;rw[yW (by rw[yi,yi,yT,yT];exact⟨⟨Q,rfl⟩,R.trans hs.symm⟩),A,U,(gG j).1,hs, <-m];grind
def GI(P:yg)(t:yc)(n f:Int)(all:yL TD)(H:yL ah)(K:Kn O):yO O:=
 match P.underlying t with
 |some (.slice e)=>(P.info? e).bind λi=>(gD P ij e).bind λT=>
  if(cu i&&i.size !=0&&ag (i.size=T.size)&&TD.frees H.length all&&H.all (ah.free H.length))=ae then if(ag (n=0)&&mA f i.bytes)=ae then K all (.rw H.length) (H++[.aY T [] ae e []]) [.arr] 2 else ad else ad
 |_=>ad
theorem ZxK{t:yc}{l c:yp}{n f:Num}(ho:o.op=.makeSlice t l c)(hl:(bn P ts 0 l).bind TD.num=ab n)(hc:(bn P ts 0 c).bind TD.num=ab f)(E:n.k=.i64)(m:f.k=.i64)
 (h:GI P t n.n f.n all H K=ab out):∃a d H' hs c,K a d H' hs c=ab out/\Good P o ts all H a d H' hs c:=by
 obtain⟨ld,F,G⟩:=yf.1 hl;obtain⟨cd,I,M⟩:=yf.1 hc;have y:=Zt (L:=lk H) F;have z:=Zt (L:=lk H) I;rw[QG G,E]at y;rw[QG M,m]at z;unfold GI at h;have Q:∀hs,bh P o (TD.aG (lk H) ts) hs=ad:=λhs=>by unfold bh;rw[ho]
 have R:∀hs,bG P o (TD.aG (lk H) ts) (aK H) hs=ad:=λhs=>by unfold bG;rw[ho]
 split at h
 .rename_i e S;obtain⟨i,U,h⟩:=yf.1 h;obtain⟨T,h2,h⟩:=yf.1 h;obtain⟨g,h⟩:=Za h;obtain⟨j,h⟩:=Za h;simp only[yi,yP]at g;obtain⟨⟨⟨W,g⟩,X⟩,Y⟩:=g;simp only[mA,yi,yP]at j;obtain⟨Z,g2⟩:=mf j.2.2;refine⟨_,_,_,_,_,h,po X,rfl,dV (⟨rfl,λA=>Q _,λA=>R _,[n.n=0,0<=f.n,f.n.toNat*i.bytes<=Zs,f.n.toNat<=maxLen],⟨j.1,j.2.1,Z,g2,aB⟩,λA=> ?_⟩)⟩;unfold cU;rw[ho];dsimp only;rw[S,y,z];dsimp only;rw[U,yaf,yz];dsimp only;rw[yW (by simpa using W),vT Y,vU,ZW,g];rfl
 .cases h
def GJ(P:yg)(t:yc)(dst:Tmp)(all:yL TD)(H:yL ah)(K:Kn O):TD->yO O
 |.p (.sl (ab af) T [])=>match P.underlying t with
  |some (.slice e)=>(P.info? e).bind λi=>if(cu i&&i.size !=0&&ag (i.size=T.size)&&TD.frees H.length all&&H.all (ah.free H.length))=ae then K all (.rw H.length) (H++[.aY T [] ae e []]) [.jr dst] 2 else ad
  |_=>ad
 |_=>ad
theorem Zvz{x:yp}{dst:Tmp}{f:TD}(ho:o.op=.assign x)(hd:o.dst=ab dst)(l:bn P ts o.type x=ab f)(h:GJ P o.type dst all H K f=ab out):
 ∃a d H' hs c,K a d H' hs c=ab out/\Good P o ts all H a d H' hs c:=by
 have m:=Zt (L:=lk H) l;unfold GJ at h;split at h
 .rename_i T;split at h
  .rename_i e y;obtain⟨i,z,h⟩:=yf.1 h;obtain⟨g,h⟩:=Za h;simp only[yi,yP]at g;obtain⟨⟨⟨A,E⟩,F⟩,G⟩:=g;refine⟨_,_,_,_,_,h,po F,rfl,dV (⟨rfl,λj=> ?_,λj=> ?_,[],zP,λj=> ?_⟩)⟩
   .unfold bh;rw[ho];rfl
   .unfold bG;rw[ho]
   .unfold cU;rw[ho];dsimp only;rw[yaf,yz];dsimp only;rw[yW hd,y,m,show(TD.p (TP.sl (ab af) T [])).er (lk H)=Dv.p (.sl (ab af) T.size []) from rfl]
    dsimp only;rw[z];dsimp only;rw[yW (by simpa using A),vT G,vU,ZW,E];rfl
  .cases h
 .cases h
def GK(P:yg)(t:yc)(lo hi:yO Int)(all:yL TD)(H:yL ah)(K:Kn O):TD->yO O
 |.rw id=>match P.underlying t,H[id]?,lo,hi with
  |some (.slice e),ab (.aY T v ae f l),ad,ab h=>if(okB P e T.size&&ag (T.size≠0))=ae then if(ag (0<=h)&&ag (h.toNat<=l.length))=ae then
    K (TD.cE (lk H) id all) (.rw id) ((H.map (ah.stale (lk H) id)).set id (.aY T v ae f (l.take h.toNat))) [.arr] 2 else ad else ad
  |_,_,_,_=>ad
 |_=>ad
theorem ZsL{t:yc}{x:yp}{lo hi:yO yp}{l R:yO Int}{S:TD}(ho:o.op=.slice t x lo hi ad)(U:bn P ts t x=ab S)(hl:ft P ts lo=ab l)(hh:ft P ts hi=ab R)(h:GK P t l R all H K S=ab out):
 ∃a d H' hs c,K a d H' hs c=ab out/\Good P o ts all H a d H' hs c:=by
 have W:=Zt (L:=lk H) U;have m:=QF (L:=lk H) hl;have y:=QF (L:=lk H) hh;unfold GK at h;split at h
 .rename_i id;split at h
  .rename_i e T v j g f X A;obtain⟨E,h⟩:=Za h;obtain⟨F,h⟩:=Za h;simp only[yi,yP]at E F;obtain⟨G,I⟩:=ZA7 E.1;have hlt:id < H.length:=(yu.1 A).1
   have z:((H.map (ah.stale (lk H) id)).set id (.aY T v ae j (g.take f.toNat)))[id]? =ab (.aY T v ae j (g.take f.toNat)):=by
    grind
   have Y:(g.take f.toNat).length=f.toNat:=by rw[List.length_take];omega
   have hH:aK ((H.map (ah.stale (lk H) id)).set id (.aY T v ae j (g.take f.toNat)))=(aK H).set id (.row v.length T.size ae j (.p (.arr f.toNat T.size ((g.map T.enc).take f.toNat)))):=by
    unfold aK;rw[ybn,ybd]
    have:(ah.aY T v ae j (g.take f.toNat)).er (lk ((H.map (ah.stale (lk H) id)).set id (.aY T v ae j (g.take f.toNat))))=.row v.length T.size ae j (.p (.arr f.toNat T.size ((g.map T.enc).take f.toNat))):=by
     simp only[ah.er,Y,List.map_take]
    rw[this];congr 1;refine yci λx U=> ?_;exact rF (λid t M=>VG (lk H) id t M) x
   refine⟨_,_,_,_,_,h,bS (λQ t M=>VG (lk H) Q t M) all,pr all,dV (⟨rfl,λZ=> ?_,λZ=> ?_,[0<=f,f.toNat<=g.length],⟨F.1,F.2,aB⟩,λZ=> ?_⟩)⟩
   .unfold bh;rw[ho];dsimp only;rw[X,W,(gG A).1,m,y];rfl
   .unfold bG;grind
   .unfold cU;rw[ho];dsimp only;rw[X,W,(gG A).1,m,y];dsimp only;rw[yaf,yz];dsimp only;rw[Z2 A,ah.er];dsimp only;rw[yW (by simp[G,I,E.2]),hH,(gG z).1,Y]
  .cases h
 .cases h
def ah.jJ:ah->yO (Nat×Nat×Nat)
 |.aR t _ v _ _ g f=>ab (v.length,t.size,g.length+f.length)
 |.bL t _ v _ _ g _ f=>ab (v.length,t.size,g.length+(f.length+1))
 |_=>ad
theorem pu{L:Lk}{id:Nat}{v:yL Unit}{s N:Nat}(h:Yb L id aLA ad=([v,yx s (),yx N ()]:yL aLz)):
 (TD.rw id).er L=.rv id v.length s 0 N/\∀yQ,(TD.rp id yQ).er L=.aZ id v.length (Wc yQ) (yQ.map cf.i):=by
 refine⟨?_,λyQ=> ?_⟩
 .rw[TD.er];unfold eO;rw[h];show Dv.rv id v.length (yx s ()).length 0 (yx N ()).length=_;grind
 .rw[TD.er];unfold eO;rw[h];rfl
theorem lw{id:Nat}{x:ah}{q:Nat×Nat×Nat}(hd:H[id]? =ab x)(h:x.jJ=ab q):(TD.rw id).er (lk H)=.rv id q.1 q.2.1 0 q.2.2/\∀yQ,(TD.rp id yQ).er (lk H)=.aZ id q.1 (Wc yQ) (yQ.map cf.i):=by
 cases x <;> first|cases h|skip
 all_goals
  refine pu ?_;unfold Yb lk;dsimp only;rw[hd];rfl
def GL(P:yg)(t:yc)(i:Int)(all:yL TD)(H:yL ah)(K:Kn O):TD->yO O
 |.rw id=>match P.underlying t,(H[id]?).bind ah.jJ with
  |some (.slice e),ab q=>if okB P e q.2.1=ae then if bp i q.2.2=ae then K all (.rp id [.ix i.toNat q.2.1]) H [] 0 else ad else ad
  |_,_=>ad
 |_=>ad
theorem ZvB{t:yc}{x ix:yp}{j:TD}{q:IntKind×Int}{l:TP}(ho:o.op=.indexAddr t x ix)(z:bn P ts t x=ab j)(hi:bn P ts 0 ix=ab (.p l))(hq:ji l=ab q)(h:GL P t q.2 all H K j=ab out):
 ∃a d H' hs c,K a d H' hs c=ab out/\Good P o ts all H a d H' hs c:=by
 have A:=Zt (L:=lk H) z;have m:=Zt (L:=lk H) hi;rw[TD.er,(pf hq).1]at m;unfold GL at h;split at h
 .rename_i id;split at h
  .rename_i e w E g;obtain⟨G,g,f⟩:=yf.1 g;obtain⟨F,h⟩:=Za h;obtain⟨y,h⟩:=Za h;refine⟨_,_,_,_,_,h,rfl,rfl,.inl ⟨rfl,rfl,[0<=q.2,q.2 < (w.2.2:Int)],⟨(VR y).1,(VR y).2,aB⟩,λI=> ?_⟩⟩;simp only[yz];unfold bh;rw[ho];dsimp only;rw[E,A,m,(lw g f).1,(lw g f).2];dsimp only;rw[yW (by simpa[okB] using F)];simp[Wc,cf.o,cf.i]
  .cases h
 .cases h
def GM(P:yg)(t:yc)(all:yL TD)(H:yL ah)(K:Kn O):TD->yO O
 |.rw id=>match P.underlying t,(H[id]?).bind ah.jJ with
  |some (.slice _),ab q=>K all (.p (.v (.int .i64) (q.2.2:Int))) H [] 0
  |_,_=>ad
 |_=>ad
theorem Zz0{t:yc}{x:yp}{c:Call}{j:TD}(ho:o.op=.call c)(hc:c.callee=.builtin .len)(ha:c.args.toList=[x])(ht:c.argTypes.toList=[t])(l:bn P ts t x=ab j)(h:GM P t all H K j=ab out):
 ∃a d H' hs c,K a d H' hs c=ab out/\Good P o ts all H a d H' hs c:=by
 have m:=Zt (L:=lk H) l;unfold GM at h;split at h
 .rename_i id;split at h
  .rename_i e w y f;obtain⟨z,f,g⟩:=yf.1 f;refine⟨_,_,_,_,_,h,rfl,rfl,.inl ⟨rfl,rfl,[],zP,λA=> ?_⟩⟩;simp only[yz];unfold bh;rw[ho];dsimp only;rw[hc];dsimp only;rw[ha,ht];dsimp only;rw[y,m,(lw f g).1];rfl
  .cases h
 .cases h
theorem fE{xs:yL TP}{i:Nat}{z:TP}(h:i < xs.length):(xs.set i z)[i]? =ab z:=by rw[List.getElem?_set_self h]
def rS:yL Nat->TP->(T:Ty)->yO T.aU
 |[],x,T=>match T with
  |.sl u=>if x.jH u=ae then ab [] else ad
  |_=>ad
 |i::r,x,T=>match x,T with
  |.agg f,.st g=>(f[i]?).bind λz=>(g[i]?).bind λU=>(rS r z U).bind λy=>TP.jh gg (f.set i (.v U y)) g
  |_,_=>ad
theorem ZxM:∀(xs:yL TP)(f:yL Ty)(y:Ty.aO f)(i:Nat)(U:Ty)(z:U.aU),TP.jh gg xs f=ab y->xs[i]? =ab (.v U z)->(Ty.fj f y)[i]? =ab (.v U z)
 |[],f,y,i,U,z,h,k=>by simp at k
 |x::r,f,y,i,U,z,h,k=>by
  have g:qY (TP.to gg x) r.isEmpty (TP.jh gg r) f=ab y:=h
  match f,y,g with
  |[],_,g=>cases g
  |[t],y,g=>
   have j:(if r.isEmpty then TP.to gg x t else ad)=ab y:=g
   split at j
   .rename_i l
    cases r with
    |nil=>
     cases i with
     |zero=>
      cases k;obtain⟨e,rfl⟩:=VF (show Ty.cast U t z=ab y from j)
      subst e
      rfl
     |succ i=>simp at k
    |cons _ _=>cases l
   .cases j
  |t::u::q,y,g=>
   obtain⟨m,j⟩:=pd (α:=t.aU) (β:=Ty.aO (u::q)) g
   cases i with
   |zero=>
    cases k;obtain⟨e,A⟩:=VF (show Ty.cast U t z=ab y.1 from m)
    subst e;show ab (TP.v U y.1)=_
    rw[A]
   |succ i=>
    rw[List.getElem?_cons_succ]at k;exact ZxM r (u::q) y.2 i U z j k
theorem ZxN:∀(E:yL Nat)(x:TP)(T:Ty)(y:T.aU),rS E x T=ab y->x.pe=(Wb E (.v T y)).pe
 |[],x,T,y,h=>by
  cases T with
  |sl u=>
   simp only[rS]at h;split at h
   .rename_i I;cases h;exact FH I
   .cases h
  |_=>cases h
 |i::r,x,T,y,h=>by
  simp only[rS]at h;split at h
  .rename_i m f;obtain⟨z,F,h⟩:=yf.1 h;obtain⟨U,Z,h⟩:=yf.1 h;obtain⟨w,M,h⟩:=yf.1 h;have g:i < m.length:=(yu.1 F).1;have Q:=ZxN r z U w M;have e2:=ZxM _ f y i U w h (fE g);have R:=dN _ _ _ h;have S:(TP.v (.st f) y).parts=ab (Ty.fj f y):=rfl
   have A:Wb (i::r) (.v (.st f) y)=.agg ((Ty.fj f y).set i (Wb r (.v U w))):=by
    rw[Wb,S];grind
   have G:∀(l:yL TP)(q:TP),TP.cl (l.set i q)=(TP.cl l).set i q.pe:=λl q=>by rw[WP,ybn, <-WP]
   have W:TP.cl (Ty.fj f y)=(TP.cl m).set i (TP.v U w).pe:=((vv f y).trans R.symm).trans (G _ _)
   have X:TP.cl ((Ty.fj f y).set i (Wb r (.v U w)))=TP.cl m:=by
    rw[G,W,List.set_set, <-Q];refine List.ext_getElem? λj=> ?_;rw[List.getElem?_set];split
    .rename_i Y;subst Y;rw[yW (by rw[WP,yad];exact g),WP,yao,F];rfl
    .rfl
   rw[A];exact congrArg Pl.agg X.symm
  .cases h
def vV(f:yL Nat)(T:Ty):yL TP->yO (yL T.aU)
 |[]=>ab []
 |x::r=>match rS f x T,vV f T r with
  |some y,ab g=>ab (y::g)
  |_,_=>ad
theorem ZtR{f:yL Nat}{T:Ty}:∀{xs:yL TP}{ys:yL T.aU},vV f T xs=ab ys->TP.cl xs=ys.map λy=>(Wb f (.v T y)).pe
 |[],ys,h=>by cases h;rfl
 |x::r,ys,h=>by
  simp only[vV]at h;split at h
  .rename_i y g j l;cases h;rw[TP.cl,yah,ZxN f x T y j,ZtR l]
  .cases h
def vW(L:Lk)(P:yg)(ts:yL TD)(e:yc):yL (Nat×yp)->yO (yL TP)
 |[]=>ab []
 |q::r=>match (bn P ts e q.2).bind (TD.flat L),vW L P ts e r with
  |some x,ab l=>if x.pe.size=P.cellsOf e then ab (x::l) else ad
  |_,_=>ad
theorem ZxO{L:Lk}{e:yc}:∀{parts:yL (Nat×yp)}{l:yL TP},vW L P ts e parts=ab l->
 Dv.aS (parts.map λq=>aF P (TD.aG L ts) e q.2)=ab (TP.cl l)/\(TP.cl l).all (λx=>x.size==P.cellsOf e)=ae
 |[],l,h=>by cases h;exact⟨rfl,rfl⟩
 |q::r,l,h=>by
  simp only[vW]at h;split at h
  .rename_i x A f g;obtain⟨d,j,m⟩:=yf.1 f;split at h
   .rename_i hs;cases h;obtain⟨y,z⟩:=ZxO g;refine⟨?_, ?_⟩
    .simp only[yah,Dv.aS];rw[Zt j,CV m,y];rfl
    .simp only[TP.cl,List.all_cons,yi,yT];exact⟨hs,z⟩
   .cases h
  .cases h
def GN(P:yg)(ts:yL TD)(t:yc)(len:Nat)(parts:yL (Nat×yp))(all:yL TD)(H:yL ah)(K:Kn O):yO O:=
 match P.underlying t with
 |some (.slice e)=>(P.info? e).bind λi=>(vW (lk H) P ts e parts).bind λl=>
  if(parts.map (·.1)==yo len)&&(cu i&&i.size !=0&&ag (len*i.size<=16777216)) then K all (.p (.lh (ab ae) i.size l)) H [.bare] 0 else ad
 |_=>ad
theorem ZCQ{t:yc}{len:Nat}{parts:Array (Nat×yp)}(ho:o.op=.buildSlice t len parts)(h:GN P ts t len parts.toList all H K=ab out):
 ∃a d H' hs c,K a d H' hs c=ab out/\Good P o ts all H a d H' hs c:=by
 unfold GN at h;split at h
 .rename_i e g;obtain⟨i,j,h⟩:=yf.1 h;obtain⟨l,m,h⟩:=yf.1 h;obtain⟨f,h⟩:=Za h;simp only[yi]at f;obtain⟨z,A⟩:=ZxO m
  have y:XB P (TD.aG (lk H) ts) e (P.cellsOf e) len parts.toList=ab (TP.cl l):=by
   unfold XB;grind
  refine⟨_,_,_,_,_,h,rfl,rfl,.inl ⟨rfl,rfl,[],zP,λE=> ?_⟩⟩;unfold bh;rw[ho];dsimp only;rw[yaf,yz];dsimp only;rw[g];dsimp only;rw[j,y];dsimp only;rw[yW (by simpa only[yi] using f.2)];rfl
 .cases h
theorem ZBf{id:Nat}{e f:ah}(hd:H[id]? =ab e)(h:eP (ab f)=eP (ab e)):lk (H.set id f)=lk H:=by
 funext j;unfold lk
 all_goals grind
def GO(P:yg)(t u:yc)(all:yL TD)(H:yL ah)(K:Kn O)(y:TD):TD->yO O
 |.rw id=>match P.underlying t,P.underlying u,H[id]?,y with
  |some (.slice e),ab (.slice _),ab (.aR T h v st l g f),.p (.lh _ s m)=>(P.info? e).bind λi=>(vV h T m).bind λj=>
   if(cu i&&ag (i.size=T.size)&&ag (P.cellsOf e=T.size)&&ag (l=e)&&ag (T.size≠0)&&ag (s=T.size))=ae then if cg (g.length+f.length) j.length i.bytes=ae then
    K (TD.cE (lk H) id all) (.rw id) ((H.map (ah.stale (lk H) id)).set id (.aR T h (()::v) st e g (f++j))) [.raw] 2 else ad else ad
  |_,_,_,_=>ad
 |_=>ad
theorem ZsM{t u:yc}{x y:yp}{c:Call}{U W:TD}(ho:o.op=.call c)(hc:c.callee=.builtin .append)(ha:c.args.toList=[x,y])(ht:c.argTypes.toList=[t,u])
 (hv:aF P (TD.aG (lk H) ts) t x=U.er (lk H)) (Y:bn P ts u y=ab W) (h:GO P t u all H K W U=ab out):∃a d H' hs c,K a d H' hs c=ab out/\Good P o ts all H a d H' hs c:=by
 have Z:=Zt (L:=lk H) Y;unfold GO at h;split at h
 .rename_i id;split at h
  .rename_i e e2 T l v st m g f nn s z hu hu2 M;obtain⟨i,h1,h⟩:=yf.1 h;obtain⟨j,h2,h⟩:=yf.1 h;obtain⟨X,k6⟩:=Za h;obtain⟨Q,kk⟩:=Za k6;simp only[yi,yP]at X;obtain⟨⟨⟨⟨⟨g1,g2⟩,g3⟩,g4⟩,g5⟩,g6⟩:=X;subst g4;subst g6;simp only[cg,yi,yP]at Q;have hlt:id < H.length:=(yu.1 M).1;have A:=ZtR h2;have E:(TP.cl z).length=j.length:=by rw[A,yad]
   have hq:=lw (q:=(v.length,T.size,g.length+f.length)) M rfl
   refine⟨_,_,_,_,_,kk,bS (λR t S=>VG (lk H) R t S) all,pr all,dV (⟨rfl,λI=> ?_,λI=> ?_,
    [g.length+f.length<=g.length+f.length,(g.length+f.length+(TP.cl z).length)*i.bytes<=Zs,g.length+f.length+(TP.cl z).length<=maxLen,st=ae\/g.length+f.length=g.length+f.length],
    ⟨yl _,by rw[E];exact Q.1,by rw[E];exact Q.2,.inr rfl,aB⟩,λI=> ?_⟩)⟩
   .unfold bh;grind
   .unfold bG;grind
   .have F:iG P T.size u (aK H) I (aF P (TD.aG (lk H) ts) u y)=ab ([],TP.cl z,I):=by
     rw[Z,TD.er,TP.pe];unfold iG gU;grind
    unfold cU;rw[ho];dsimp only;rw[hc];dsimp only;rw[ha,ht];dsimp only;rw[hu,hv,hq.1];rw[yaf,yz];dsimp only;rw[h1,F,Z2 M];dsimp only[ah.er]
    have G:((H.map (ah.stale (lk H) id)).set id (.aR T l (()::v) st m g (f++j)))[id]? =ab (.aR T l (()::v) st m g (f++j)):=by
     grind
    have hN:g.length+(f++j).length=g.length+f.length+j.length:=by rw[ym];omega
    have hH:aK ((H.map (ah.stale (lk H) id)).set id (.aR T l (()::v) st m g (f++j)))=(aK H).set id (.row (v.length+1) T.size st m (.p (.arr (g.length+f.length+j.length) T.size ((g.map T.enc++f.map λx=>(Wb l (.v T x)).pe)++TP.cl z)))):=by
     unfold aK;rw[ybn,ybd]
     have:(ah.aR T l (()::v) st m g (f++j)).er (lk ((H.map (ah.stale (lk H) id)).set id (.aR T l (()::v) st m g (f++j))))=.row (v.length+1) T.size st m (.p (.arr (g.length+f.length+j.length) T.size ((g.map T.enc++f.map λx=>(Wb l (.v T x)).pe)++TP.cl z))):=by
      rw[ah.er,hN,A,yau,yac];rfl
     rw[this];congr 1;refine yci λx hx=> ?_;exact rF (λid t S=>VG (lk H) id t S) x
    have hq2:=lw (q:=(v.length+1,T.size,g.length+(f++j).length)) G rfl;grind
  .cases h
 .cases h
theorem ZHO{α:Type}(a b:yL α)(x:α):(a++x::b)[a.length]? =ab x:=by rw[List.getElem?_append_right (yl _),Nat.sub_self];rfl
theorem ZBg{α:Type}(a b:yL α)(x y:α):(a++x::b).set a.length y=a++y::b:=by
 grind
def GP(P:yg)(t:yc)(all:yL TD)(H:yL ah)(K:Kn O):TD->yO O
 |.rp id (.ix i s::r)=>match H[id]? with
  |some (.bL T j v st e f g h)=>if ag (s=T.size)=ae then if ag (i=f.length)=ae then fk (lk H) r g λsub hs _=>if gb P t (sub.er (lk H))=ae then K all sub H hs 1 else ad else ad else ad
  |_=>ad
 |_=>ad
theorem ZxP{t:yc}{x:yp}{z:TD}(ho:o.op=.load t x)(F:bn P ts 0 x=ab z)(h:GP P t all H K z=ab out):∃a d H' hs c,K a d H' hs c=ab out/\Good P o ts all H a d H' hs c:=by
 have G:=Zt (L:=lk H) F;unfold GP at h;split at h
 .rename_i id i s r;split at h
  .rename_i T I v st e f l g A;obtain⟨m,E⟩:=Za h;obtain⟨j,M⟩:=Za E;clear E h;have m:=yF m;have j:=yF j;subst m;subst j;obtain⟨sub,hs,Q,C,R,S,Y,_⟩:=Xo _ _ _ _ M;obtain⟨Z,U⟩:=Za R;have W:=lw (q:=(v.length,T.size,f.length+(g.length+1))) A rfl;refine⟨_,_,_,_,_,U,rfl,rfl,.inr (.inl ⟨rfl,rfl,λy=> ?_,C++[f.length*T.size+ew r=Wc (.ix f.length T.size::r)],Zl.2 ⟨S,by rw[XK,ew,cf.o],aB⟩,λy=> ?_⟩)⟩
   .unfold bh;grind
   .unfold bG;rw[ho];dsimp only;rw[G,W.2];dsimp only;rw[Z2 A];dsimp only[ah.er]
    have X:Z6 (.arr (f.length+(g.length+1)) T.size ((f.map λx=>.p (T.enc x))++l.er (lk H)::g.map λx=>.p (Wb I (.v T x)).pe)) (f.length::r.map cf.i) (hs++y)=ab (C,f.length*T.size+ew r,sub.er (lk H),y):=by
     unfold Z6;grind
    rw[yah,show(cf.ix f.length T.size).i=f.length from rfl,X]
    grind
  .cases h
 .cases h
def GQ(P:yg)(t:yc)(all:yL TD)(H:yL ah)(K:Kn O)(v:TD):TD->yO O
 |.rp id (.ix i s::r)=>match H[id]? with
  |some (.bL T l u ae e f h g)=>if ag (s=T.size)=ae then if ag (i=f.length)=ae then fk (lk H) r h λsub hs j=>(j v).bind λd1=>
   if mC P t (v.er (lk H)) (sub.er (lk H))=ae then K all .an (H.set id (.bL T l u ae e f d1 g)) hs 2 else ad else ad else ad
  |_=>ad
 |_=>ad
theorem ZvE{t:yc}{x y:yp}{Q E:TD}(ho:o.op=.store t x y)(U:bn P ts 0 x=ab Q)(W:bn P ts t y=ab E)(h:GQ P t all H K E Q=ab out):
 ∃a d H' hs c,K a d H' hs c=ab out/\Good P o ts all H a d H' hs c:=by
 have X:=Zt (L:=lk H) U;have Y:=Zt (L:=lk H) W;unfold GQ at h;split at h
 .rename_i id i s r;split at h
  .rename_i T m u e f j g G;obtain⟨I,R⟩:=Za h;obtain⟨z,Z⟩:=Za R;clear R h;have I:=yF I;have z:=yF z;subst I;subst z;obtain⟨sub,hs,put,C,F,k2,k3,k4⟩:=Xo r j _ out Z;obtain⟨d1,p1,F⟩:=yf.1 F;obtain⟨h4,F⟩:=Za F;have A:=h4;unfold mC at A;have hq:=lw (q:=(u.length,T.size,f.length+(g.length+1))) G rfl;have S:lk (H.set id (.bL T m u ae e f d1 g))=lk H:=ZBf G rfl;have hm:=ZHO (f.map λx=>Dv.p (T.enc x)) (g.map λx=>.p (Wb m (.v T x)).pe) (j.er (lk H));have M:=ZBg (f.map λx=>Dv.p (T.enc x)) (g.map λx=>.p (Wb m (.v T x)).pe) (j.er (lk H)) (d1.er (lk H));rw[yad]at hm M
   have hg:∀l,Z6 (.arr (f.length+(g.length+1)) T.size ((f.map λx=>.p (T.enc x))++j.er (lk H)::g.map λx=>.p (Wb m (.v T x)).pe)) (f.length::r.map cf.i) (hs++l)=ab (C,f.length*T.size+ew r,sub.er (lk H),l):=by
    intro l;unfold Z6;grind
   have hp:∀l,X5 (E.er (lk H)) (.arr (f.length+(g.length+1)) T.size ((f.map λx=>.p (T.enc x))++j.er (lk H)::g.map λx=>.p (Wb m (.v T x)).pe)) (f.length::r.map cf.i) (hs++l)=ab (.arr (f.length+(g.length+1)) T.size ((f.map λx=>.p (T.enc x))++d1.er (lk H)::g.map λx=>.p (Wb m (.v T x)).pe)):=by
    intro l;have:=k4 _ d1 p1 l;unfold X5;grind
   refine⟨_,_,_,_,_,F,by rw[S],rfl,dV (⟨rfl,λl=> ?_,λl=> ?_,C++[f.length*T.size+ew r=Wc (.ix f.length T.size::r)],
    Zl.2 ⟨k2,by rw[XK,ew,cf.o],aB⟩,λl=> ?_⟩)⟩
   .unfold bh;rw[ho]
   .unfold bG;rw[ho]
   .unfold cU;rw[ho];dsimp only;rw[X,Y,hq.2];dsimp only;rw[Z2 G];dsimp only[ah.er];rw[yah,show(cf.ix f.length T.size).i=f.length from rfl,hg l]
    dsimp only;rw[show jc (f.length::r.map cf.i) (.arr (f.length+(g.length+1)) T.size ((f.map λx=>.p (T.enc x))++j.er (lk H)::g.map λx=>.p (Wb m (.v T x)).pe)) (E.er (lk H))=ab (E.er (lk H)) from rfl]
    dsimp only;rw[hp l];dsimp only;rw[yW (by simp only[yi]at A ⊢;exact⟨⟨A,by simp⟩,by simp[aR]⟩),Xl S];rfl
  .cases h
 .cases h
def rT(H:yL ah):TD->Bool
 |.rw id=>((H[id]?).bind ah.jJ).isSome
 |.rp id _=>((H[id]?).bind ah.jJ).isSome
 |_=>af
def rnT(P:yg)(hi:HI)(o:yj)(ts:yL TD)(H:yL ah):Bool:=
 match o.op with
 |.load t x=>match bn P ts 0 x with
  |some d=>rT H d
  |none=>af
 |.store t x y=>match bn P ts 0 x with
  |some d=>rT H d
  |none=>af
 |.indexAddr t x ix=>match bn P ts t x with
  |some d=>rT H d
  |none=>af
 |.buildSlice t len parts=>match o.dst with
  |some d=>hi.lits.contains d
  |none=>af
 |.call c=>match c.callee with
  |.builtin .len=>match c.args.toList,c.argTypes.toList with
   |[x],[t]=>match bn P ts t x with
    |some d=>rT H d
    |none=>af
   |_,_=>af
  |.builtin .append=>match c.args.toList,c.argTypes.toList with
   |[x,y],[t,u]=>match bn P ts t x with
    |some d=>rT H d
    |none=>af
   |_,_=>af
  |_=>af
 |_=>af
def GR(P:yg)(hi:HI)(o:yj)(ts all:yL TD)(H:yL ah)(K:Kn O):yO O:=
 match o.op with
 |.load t x=>(bn P ts 0 x).bind λd=>GP P t all H K d
 |.store t x y=>(bn P ts 0 x).bind λa=>(bn P ts t y).bind λv=>GQ P t all H K v a
 |.indexAddr t x ix=>(bn P ts t x).bind λa=>(bn P ts 0 ix).bind λb=>b.inner.bind λf=>(ji f).bind λq=>GL P t q.2 all H K a
 |.buildSlice t len parts=>GN P ts t len parts.toList all H K
 |.call c=>match c.callee with
  |.builtin .len=>match c.args.toList,c.argTypes.toList with
   |[x],[t]=>(bn P ts t x).bind λd=>GM P t all H K d
   |_,_=>ad
  |.builtin .append=>match c.args.toList,c.argTypes.toList with
   |[x,y],[t,u]=>(bn P ts t x).bind λa=>(bn P ts u y).bind λb=>GO P t u all H K b a
   |_,_=>ad
  |_=>ad
 |_=>ad
theorem ZCR{hi:HI}(h:GR P hi o ts all H K=ab out):∃a d H' hs c,K a d H' hs c=ab out/\Good P o ts all H a d H' hs c:=by
 unfold GR at h;split at h
 .rename_i t x f;obtain⟨d,g,h⟩:=yf.1 h;exact ZxP f g h
 .rename_i t x y f;obtain⟨a,g,h⟩:=yf.1 h;obtain⟨v,j,h⟩:=yf.1 h;exact ZvE f g j h
 .rename_i t x ix f;obtain⟨a,g,h⟩:=yf.1 h;obtain⟨b,j,h⟩:=yf.1 h;obtain⟨F,A,h⟩:=yf.1 h;obtain⟨q,E,h⟩:=yf.1 h;rw[Y3 A]at j;exact ZvB f g j E h
 .rename_i t len parts f;exact ZCQ f h
 .rename_i c f;split at h
  .rename_i l;split at h
   .rename_i x t m z;obtain⟨d,g,h⟩:=yf.1 h;exact Zz0 f l m z g h
   .cases h
  .rename_i l;split at h
   .rename_i x y t u m z;obtain⟨a,g,h⟩:=yf.1 h;obtain⟨b,j,h⟩:=yf.1 h;exact ZsM f l m z (Zt g) j h
   .cases h
  .cases h
 .cases h
end
end Go.Ev
end
section
namespace Go.Ev
abbrev TV:=Σ t:Ty,t.aU
inductive Sh where
 |v (t:Ty)
 |elem (t:Ty)
 |nil (t:Ty)
 |sl (nn:Bool) (t:Ty)
 |own (j:Nat) (t:Ty)
 |ak (j:Nat) (yQ:List cf)
 |mp (j:Nat)
 |rw(j:Nat)
 |rp (j s:Nat) (yQ:List cf)
 |view (j:Nat) (yQ:List cf) (s lo n:Nat)
 |rv (j ver s lo n:Nat)
 |fn (g:FuncId) (l:List Sh)
 |agg (l:List Sh)
 |arr (n s:Nat) (l:List Sh)
 |bm (l:List Sh)
 |iface (t:yc) (x:Sh)
 |rU (t u:yc) (x:Sh)
 |bW|fn0|eE|cB
 |an
instance:Inhabited Sh:=⟨.an⟩
def cf.beq:cf->cf->Bool
 |.gf i o,.gf j p=>ag (i=j)&&ag (o=p)
 |.ix i o,.ix j p=>ag (i=j)&&ag (o=p)
 |_,_=>af
def px:yL cf->yL cf->Bool
 |[],[]=>ae
 |q::r,p::s=>q.beq p&&px r s
 |_,_=>af
theorem vX:∀{l m:yL cf},px l m=ae->l=m
 |[],[],_=>rfl
 |[],_::_,h=>by cases h
 |_::_,[],h=>by cases h
 |q::r,p::s,h=>by
  simp only[px,yi]at h;rw[vX h.2];congr 1;cases q <;> cases p <;> simp[cf.beq]at h <;> simp[h.1]
def TD.toT(L:Lk)(t:Ty):TD->yO t.aU
 |.p x=>TP.to jF x t
 |.own id _ u c=>match t with
  |.sl w=>Ty.bu u w (Yb L id u c)
  |_=>ad
 |_=>ad
theorem ZKb{L:Lk}{t:Ty}{d:TD}{y:t.aU}(h:d.toT L t=ab y):Wk (d.er L) (.p (t.enc y)):=by
 cases d with
 |p x=>exact Wk.p (qZ (show TP.to jF x t=ab y from h))
 |own id g u c=>
  cases t with
  |sl w=>
   obtain⟨e,f⟩:=ZH (show Ty.bu u w (Yb L id u c)=ab y from h)
   subst e;subst f
   exact Wk.ny (bi.refl _)
  |_=>cases h
 |_=>cases h
def ZLv(t:Ty):TD->yO t.aU
 |.elem x=>TP.to jF x t
 |_=>ad
theorem Wk.elem{x y:Pl}(h:bI x y):Wk (.elem x) (.elem y):=⟨rfl,rfl,λJ vs r=>by
 simp only[yH]at r ⊢;obtain⟨b,o,f,e,g,j⟩:=r;exact⟨b,o,f,e,h.dk _ _ _ g,j⟩⟩
theorem cP.fn{f:FuncId}{g es:yL Dv}(h:cP g es):Wk (.fn f g) (.fn f es):=⟨rfl,rfl,λJ vs r=>by
 simp only[yH]at r ⊢;obtain⟨j,l,e,m,r⟩:=r;exact⟨j,l,e,m,h.vs r⟩⟩
theorem cP.sizes{f es:yL Dv}(h:cP f es)(s:Nat):(∀x,x∈f->x.size=s)->∀x,x∈es->x.size=s:=by
 induction h with
 |nil=>intro _ x hx;cases hx
 |cons h k j=>
  intro g x hx;rcases List.mem_cons.1 hx with rfl|hx
  .rw[<-h.size];exact g _ (List.mem_cons_self ..)
  .exact j (λy l=>g y (List.mem_cons_of_mem _ l)) x hx
theorem cP.arr{n s:Nat}{f es:yL Dv}(h:cP f es):Wk (.arr n s f) (.arr n s es):=⟨rfl,rfl,λJ vs r=>by
 simp only[yH]at r ⊢;obtain⟨g,j,l⟩:=r;have:=(cP.agg h).dk J vs (by simp only[yH];exact l);simp only[yH]at this;exact⟨by rw[<-h.len];exact g,h.sizes s j,this⟩⟩
theorem Wk.iface{t:yc}{x y:Dv}(h:Wk x y):Wk (.iface t x) (.iface t y):=⟨rfl,rfl,λJ vs r=>by
 simp only[yH]at r ⊢;obtain⟨v,e,g,j⟩:=r;refine⟨v,e,λf=> ?_,λf=>h.dk _ _ (j (by rw[h.agg];exact f))⟩;obtain⟨l,m,z⟩:=g (by rw[h.agg];exact f);exact⟨l,m,h.dk _ _ z⟩⟩
mutual
def Sh.mt(L:Lk):Sh->TD->yO (TD×yL TV)
 |.v t,d=>(d.toT L t).map λy=>(.p (.v t y),[⟨t,y⟩])
 |.elem t,d=>(ZLv t d).map λy=>(.elem (.v t y),[⟨t,y⟩])
 |.nil t,d=>match d with
  |.p x=>if x.jH t=ae then ab (.p (.sl (ab af) t []),[]) else ad
  |_=>ad
 |.sl I t,d=>match d with
  |.p (.sl (ab b) u E)=>if b=I then(Ty.bu u t E).map λy=>(.p (.sl (ab I) t y),[⟨.sl t,y⟩]) else ad
  |_=>ad
 |.own j t,d=>match d with
  |.own id _ u ad=>if id=j/\u=t then ab (.own j ad t ad,[]) else ad
  |_=>ad
 |.ak j p,d=>match d with
  |.ak id q=>if id=j/\px p q=ae then ab (.ak j p,[]) else ad
  |_=>ad
 |.mp j,d=>match d with
  |.mp id=>if id=j then ab (.mp j,[]) else ad
  |_=>ad
 |.rw j,d=>match d with
  |.rw id=>if id=j then ab (.rw j,[]) else ad
  |_=>ad
 |.rp j s p,d=>match d with
  |.rp id (.ix i h::q)=>if id=j/\h=s/\px p q=ae then ab (.rp j (.ix i s::p),[⟨.int .i64,(i:Int)⟩]) else ad
  |_=>ad
 |.view j p s lo n,d=>match d with
  |.view id q h z G=>if id=j/\px p q=ae/\s=h/\lo=z/\n=G then ab (.view j p s lo n,[]) else ad
  |_=>ad
 |.rv j F s lo n,d=>match d with
  |.rv id M h z G=>if id=j/\F=M/\s=h/\lo=z/\n=G then ab (.rv j F s lo n,[]) else ad
  |_=>ad
 |.fn g l,d=>match d with
  |.fn f A=>if f=g then(Sh.eR L l A).map λq=>(.fn g q.1,q.2) else ad
  |_=>ad
 |.agg l,d=>match d with
  |.agg A=>(Sh.eR L l A).map λq=>(.agg q.1,q.2)
  |.p x=>match x.parts with
   |some E=>(Sh.eR L l (E.map TD.p)).map λq=>(.agg q.1,q.2)
   |none=>ad
  |_=>ad
 |.arr n s l,d=>match d with
  |.arr m h A=>if m=n/\h=s then(Sh.eR L l A).map λq=>(.arr n s q.1,q.2) else ad
  |.p (.arr m h E)=>if m=n/\h=s then(Sh.eR L l (E.map TD.p)).map λq=>(.arr n s q.1,q.2) else ad
  |_=>ad
 |.bm l,d=>match d with
  |.bm A=>(Sh.eR L l A).map λq=>(.bm q.1,q.2)
  |_=>ad
 |.iface t x,d=>match d with
  |.iface u y=>if u=t then(Sh.mt L x y).map λq=>(.iface t q.1,q.2) else ad
  |_=>ad
 |.rU t u x,d=>match d with
  |.iface w y=>if Nat.beq w t=ae then(Sh.mt L x y).map λq=>(.iface t q.1,⟨.bool,ae⟩::q.2) else if Nat.beq w u=ae then(Sh.mt L x y).map λq=>(.iface u q.1,⟨.bool,af⟩::q.2) else ad
  |_=>ad
 |.bW,d=>match d with
  |.p .bW=>ab (.p .bW,[])
  |_=>ad
 |.fn0,d=>match d with
  |.p .fn0=>ab (.p .fn0,[])
  |_=>ad
 |.eE,d=>match d with
  |.p .eE=>ab (.p .eE,[])
  |_=>ad
 |.cB,d=>match d with
  |.p .cB=>ab (.p .cB,[])
  |_=>ad
 |.an,d=>if(d.er L).size=1/\(d.er L).isAgg=af then ab (.an,[]) else ad
def Sh.eR(L:Lk):yL Sh->yL TD->yO (yL TD×yL TV)
 |[],f=>match f with
  |[]=>ab ([],[])
  |_=>ad
 |s::r,f=>match f with
  |d::q=>match Sh.mt L s d,Sh.eR L r q with
   |some a,ab b=>ab (a.1::b.1,a.2++b.2)
   |_,_=>ad
  |[]=>ad
end
mutual
def Sh.fill:Sh->yL TV->yO (TD×yL TV)
 |.v t,vs=>match vs with
  |x::r=>(Ty.cast x.1 t x.2).map λy=>(.p (.v t y),r)
  |[]=>ad
 |.elem t,vs=>match vs with
  |x::r=>(Ty.cast x.1 t x.2).map λy=>(.elem (.v t y),r)
  |[]=>ad
 |.nil t,vs=>ab (.p (.sl (ab af) t []),vs)
 |.sl h t,vs=>match vs with
  |x::r=>(Ty.cast x.1 (.sl t) x.2).map λ(y:yL t.aU)=>(.p (.sl (ab h) t y),r)
  |[]=>ad
 |.own j t,vs=>ab (.own j ad t ad,vs)
 |.ak j p,vs=>ab (.ak j p,vs)
 |.mp j,vs=>ab (.mp j,vs)
 |.rw j,vs=>ab (.rw j,vs)
 |.rp j s p,vs=>match vs with
  |x::r=>(Ty.cast x.1 (.int .i64) x.2).map λ(i:Int)=>(.rp j (.ix i.toNat s::p),r)
  |[]=>ad
 |.view j p s lo n,vs=>ab (.view j p s lo n,vs)
 |.rv j f s lo n,vs=>ab (.rv j f s lo n,vs)
 |.fn g l,vs=>(Sh.fills l vs).map λq=>(.fn g q.1,q.2)
 |.agg l,vs=>(Sh.fills l vs).map λq=>(.agg q.1,q.2)
 |.arr n s l,vs=>(Sh.fills l vs).map λq=>(.arr n s q.1,q.2)
 |.bm l,vs=>(Sh.fills l vs).map λq=>(.bm q.1,q.2)
 |.iface t x,vs=>(Sh.fill x vs).map λq=>(.iface t q.1,q.2)
 |.rU t u x,vs=>match vs with
  |z::r=>(Ty.cast z.1 .bool z.2).bind λ(b:Bool)=>(Sh.fill x r).map λq=>(.iface (bif b then t else u) q.1,q.2)
  |[]=>ad
 |.bW,vs=>ab (.p .bW,vs)
 |.fn0,vs=>ab (.p .fn0,vs)
 |.eE,vs=>ab (.p .eE,vs)
 |.cB,vs=>ab (.p .cB,vs)
 |.an,vs=>ab (.an,vs)
def Sh.fills:yL Sh->yL TV->yO (yL TD×yL TV)
 |[],vs=>ab ([],vs)
 |s::r,vs=>(Sh.fill s vs).bind λa=>(Sh.fills r a.2).map λb=>(a.1::b.1,b.2)
end
theorem YS(t:Ty)(x:t.aU):Ty.cast t t x=ab x:=by
 unfold Ty.cast;split
 all_goals grind
mutual
theorem nV{L:Lk}:∀(s:Sh)(d:TD)(q:TD×yL TV),s.mt L d=ab q->∀yK,s.fill (q.2++yK)=ab (q.1,yK)
 |.v t,d,q,h,yK=>by
  simp only[Sh.mt]at h;obtain⟨y,_,rfl⟩:=Zd h
  simp[Sh.fill,YS]
 |.elem t,d,q,h,yK=>by
  simp only[Sh.mt]at h;obtain⟨y,_,rfl⟩:=Zd h
  simp[Sh.fill,YS]
 |.nil t,d,q,h,yK=>by
  simp only[Sh.mt]at h;split at h
  .split at h <;> cases h;rfl
  .cases h
 |.sl m t,d,q,h,yK=>by
  simp only[Sh.mt]at h;split at h
  .split at h
   .obtain⟨w,f,rfl⟩:=Zd h;exact congrArg (Option.map λ(y:yL t.aU)=>(TD.p (.sl (ab m) t y),yK)) (YS (.sl t) w)
   .cases h
  .cases h
 |.own j t,d,q,h,yK=>by
  simp only[Sh.mt]at h;split at h
  .split at h <;> cases h;rfl
  .cases h
 |.ak j p,d,q,h,yK=>by
  simp only[Sh.mt]at h;split at h
  .split at h <;> cases h;rfl
  .cases h
 |.mp j,d,q,h,yK=>by
  simp only[Sh.mt]at h;split at h
  .split at h <;> cases h;rfl
  .cases h
 |.rw j,d,q,h,yK=>by
  simp only[Sh.mt]at h;split at h
  .split at h <;> cases h;rfl
  .cases h
 |.rp j s p,d,q,h,yK=>by
  simp only[Sh.mt]at h;split at h
  .rename_i id i A E;split at h
   .cases h;exact congrArg (Option.map λ(i:Int)=>(TD.rp j (.ix i.toNat s::p),yK)) (YS (.int .i64) (i:Int))
   .cases h
  .cases h
 |.view j p s lo n,d,q,h,yK=>by
  simp only[Sh.mt]at h;split at h
  .split at h <;> cases h;rfl
  .cases h
 |.rv j z s lo n,d,q,h,yK=>by
  simp only[Sh.mt]at h;split at h
  .split at h <;> cases h;rfl
  .cases h
 |.fn g l,d,q,h,yK=>by
  simp only[Sh.mt]at h;split at h
  .split at h
   .obtain⟨w,f,rfl⟩:=Zd h;simp only[Sh.fill,bN l _ w f yK,yae]
   .cases h
  .cases h
 |.agg l,d,q,h,yK=>by
  simp only[Sh.mt]at h;split at h
  .obtain⟨w,f,rfl⟩:=Zd h;simp only[Sh.fill,bN l _ w f yK,yae]
  .split at h
   .obtain⟨w,f,rfl⟩:=Zd h;simp only[Sh.fill,bN l _ w f yK,yae]
   .cases h
  .cases h
 |.arr n s l,d,q,h,yK=>by
  simp only[Sh.mt]at h;split at h
  .split at h
   .obtain⟨w,f,rfl⟩:=Zd h;simp only[Sh.fill,bN l _ w f yK,yae]
   .cases h
  .split at h
   .obtain⟨w,f,rfl⟩:=Zd h;simp only[Sh.fill,bN l _ w f yK,yae]
   .cases h
  .cases h
 |.bm l,d,q,h,yK=>by
  simp only[Sh.mt]at h;split at h
  .obtain⟨w,f,rfl⟩:=Zd h;simp only[Sh.fill,bN l _ w f yK,yae]
  .cases h
 |.iface t x,d,q,h,yK=>by
  simp only[Sh.mt]at h;split at h
  .split at h
   .obtain⟨w,f,rfl⟩:=Zd h;simp only[Sh.fill,nV x _ w f yK,yae]
   .cases h
  .cases h
 |.rU t u x,d,q,h,yK=>by
  simp only[Sh.mt]at h;split at h
  .split at h
   .obtain⟨w,f,rfl⟩:=Zd h;simp only[Sh.fill,yaf,YS,ya,nV x _ w f yK,yae];rfl
   .split at h
    .obtain⟨w,f,rfl⟩:=Zd h;simp only[Sh.fill,yaf,YS,ya,nV x _ w f yK,yae];rfl
    .cases h
  .cases h
 |.bW,d,q,h,yK=>by
  simp only[Sh.mt]at h
  split at h <;> cases h;rfl
 |.fn0,d,q,h,yK=>by
  simp only[Sh.mt]at h
  split at h <;> cases h;rfl
 |.eE,d,q,h,yK=>by
  simp only[Sh.mt]at h
  split at h <;> cases h;rfl
 |.cB,d,q,h,yK=>by
  simp only[Sh.mt]at h
  split at h <;> cases h;rfl
 |.an,d,q,h,yK=>by
  simp only[Sh.mt]at h;split at h <;> cases h;rfl
theorem bN{L:Lk}:∀(l:yL Sh)(f:yL TD)(q:yL TD×yL TV),Sh.eR L l f=ab q->∀yK,Sh.fills l (q.2++yK)=ab (q.1,yK)
 |[],f,q,h,yK=>by
  simp only[Sh.eR]at h
  split at h <;> cases h;rfl
 |s::r,f,q,h,yK=>by
  simp only[Sh.eR]at h;split at h
  .split at h
   .rename_i a b g j;cases h;simp only[Sh.fills,yac,nV s _ a g,ya,bN r _ b j,yae]
   .cases h
  .cases h
end
theorem ZxQ(ys:yL Pl):Wk (.p (.agg ys)) (.agg (ys.map .p)):=by
 have f:∀ys:yL Pl,Dv.sizes (ys.map .p)=Pl.sizes ys:=by
  intro ys
  induction ys with
  |nil=>rfl
  |cons y r g=>rw[yah,Dv.sizes,Pl.sizes,g];rfl
 refine⟨?_,rfl,λJ vs r=> ?_⟩
 .first|exact f ys|exact(f ys).symm
 .simp only[yH,aA]at r ⊢;exact jw.2 r
theorem ZEZ{n s:Nat}(ys:yL Pl):Wk (.p (.arr n s ys)) (.arr n s (ys.map .p)):=by
 refine⟨rfl,rfl,λJ vs r=> ?_⟩;simp only[yH,aA]at r ⊢;refine⟨by rw[yad];exact r.1,λx f=> ?_,jw.2 r.2.2⟩;obtain⟨y,g,rfl⟩:=List.mem_map.1 f;exact r.2.1 y g
mutual
theorem mD{L M:Lk}(m:∀id t,Yb L id t ad=Yb M id t ad):∀(s:Sh)(d:TD)(q:TD×yL TV),s.mt L d=ab q->Wk (d.er L) (q.1.er M)
 |.v t,d,q,h=>by
  simp only[Sh.mt]at h;obtain⟨y,f,rfl⟩:=Zd h
  exact ZKb f
 |.elem t,d,q,h=>by
  simp only[Sh.mt]at h;obtain⟨y,f,rfl⟩:=Zd h;cases d <;> first|cases f|skip
  exact Wk.elem (qZ f)
 |.nil t,d,q,h=>by
  simp only[Sh.mt]at h;split at h
  .split at h
   .rename_i F;cases h;refine Wk.of_eq ?_;rw[TD.er,FH F];rfl
   .cases h
  .cases h
 |.sl R t,d,q,h=>by
  simp only[Sh.mt]at h;split at h
  .split at h
   .rename_i e;subst e;obtain⟨w,f,rfl⟩:=Zd h;obtain⟨e,G⟩:=ZH f;subst e;subst G;exact Wk.refl _
   .cases h
  .cases h
 |.own j t,d,q,h=>by
  simp only[Sh.mt]at h;split at h
  .split at h
   .rename_i e;obtain⟨rfl,rfl⟩:=e;cases h;rw[TD.er,TD.er,m];exact Wk.own rfl
   .cases h
  .cases h
 |.ak j p,d,q,h=>by
  simp only[Sh.mt]at h;split at h
  .split at h
   .rename_i e;obtain⟨rfl,e⟩:=e;cases h;rw[vX e];exact Wk.refl _
   .cases h
  .cases h
 |.mp j,d,q,h=>by
  simp only[Sh.mt]at h;split at h
  .split at h
   .rename_i e;subst e;cases h;exact Wk.refl _
   .cases h
  .cases h
 |.rw j,d,q,h=>by
  simp only[Sh.mt]at h;split at h
  .split at h
   .rename_i e;subst e;cases h;refine Wk.of_eq ?_;rw[TD.er,TD.er];simp only[eO,m]
   .cases h
  .cases h
 |.rp j s p,d,q,h=>by
  simp only[Sh.mt]at h;split at h
  .split at h
   .rename_i e;obtain⟨rfl,rfl,e⟩:=e;cases h;rw[vX e];refine Wk.of_eq ?_;rw[TD.er,TD.er];simp only[eO,m]
   .cases h
  .cases h
 |.view j p s lo n,d,q,h=>by
  simp only[Sh.mt]at h;split at h
  .split at h
   .rename_i e;obtain⟨rfl,e,rfl,rfl,rfl⟩:=e;cases h;rw[vX e];exact Wk.refl _
   .cases h
  .cases h
 |.rv j I s lo n,d,q,h=>by
  simp only[Sh.mt]at h;split at h
  .split at h
   .rename_i e;obtain⟨rfl,rfl,rfl,rfl,rfl⟩:=e;cases h;exact Wk.refl _
   .cases h
  .cases h
 |.fn g l,d,q,h=>by
  simp only[Sh.mt]at h;split at h
  .split at h
   .rename_i e;subst e;obtain⟨w,f,rfl⟩:=Zd h;exact cP.fn (de m l _ w f)
   .cases h
  .cases h
 |.agg l,d,q,h=>by
  simp only[Sh.mt]at h;split at h
  .obtain⟨w,f,rfl⟩:=Zd h;exact cP.agg (de m l _ w f)
  .split at h
   .rename_i A Q;obtain⟨w,f,rfl⟩:=Zd h;have e:=CN Q;have k:=cP.agg (de m l _ w f);rw[rG]at k;rw[TD.er,e];have z:=ZxQ (TP.cl A);exact⟨z.size.trans k.size,z.agg.trans k.agg,λJ vs r=>k.dk J vs (z.dk J vs r)⟩
   .cases h
  .cases h
 |.arr n s l,d,q,h=>by
  simp only[Sh.mt]at h;split at h
  .split at h
   .rename_i e;obtain⟨rfl,rfl⟩:=e;obtain⟨w,f,rfl⟩:=Zd h;exact cP.arr (de m l _ w f)
   .cases h
  .split at h
   .rename_i E s0 A e;obtain⟨rfl,rfl⟩:=e;obtain⟨w,f,rfl⟩:=Zd h;have k:=cP.arr (n:=E) (s:=s0) (de m l _ w f);rw[rG]at k;have z:=ZEZ (n:=E) (s:=s0) (TP.cl A);exact⟨z.size.trans k.size,z.agg.trans k.agg,λJ vs r=>k.dk J vs (z.dk J vs r)⟩
   .cases h
  .cases h
 |.bm l,d,q,h=>by
  simp only[Sh.mt]at h;split at h
  .obtain⟨w,f,rfl⟩:=Zd h;exact cP.bm (de m l _ w f)
  .cases h
 |.iface t x,d,q,h=>by
  simp only[Sh.mt]at h;split at h
  .split at h
   .rename_i e;subst e;obtain⟨w,f,rfl⟩:=Zd h;exact Wk.iface (mD m x _ w f)
   .cases h
  .cases h
 |.rU t u x,d,q,h=>by
  simp only[Sh.mt]at h;split at h
  .split at h
   .rename_i e;have e:=Nat.eq_of_beq_eq_true e;subst e;obtain⟨w,f,rfl⟩:=Zd h;exact Wk.iface (mD m x _ w f)
   .split at h
    .rename_i e;have e:=Nat.eq_of_beq_eq_true e;subst e;obtain⟨w,f,rfl⟩:=Zd h;exact Wk.iface (mD m x _ w f)
    .cases h
  .cases h
 |.bW,d,q,h=>by
  simp only[Sh.mt]at h
  split at h <;> cases h;exact Wk.refl _
 |.fn0,d,q,h=>by
  simp only[Sh.mt]at h
  split at h <;> cases h;exact Wk.refl _
 |.eE,d,q,h=>by
  simp only[Sh.mt]at h
  split at h <;> cases h;exact Wk.refl _
 |.cB,d,q,h=>by
  simp only[Sh.mt]at h
  split at h <;> cases h;exact Wk.refl _
 |.an,d,q,h=>by
  simp only[Sh.mt]at h;split at h
  .rename_i e;cases h;exact Wk.an e.2 e.1
  .cases h
theorem de{L M:Lk}(g:∀id t,Yb L id t ad=Yb M id t ad):∀(l:yL Sh)(f:yL TD)(q:yL TD×yL TV),Sh.eR L l f=ab q->cP (TD.aG L f) (TD.aG M q.1)
 |[],f,q,h=>by
  simp only[Sh.eR]at h
  split at h <;> cases h;exact .nil
 |s::r,f,q,h=>by
  simp only[Sh.eR]at h;split at h
  .split at h
   .rename_i a b j m;cases h;exact .cons (mD g s _ a j) (de g r _ b m)
   .cases h
  .cases h
end
inductive bJ where
 |var (s:Sh) (st:Bool)
 |log (t:Ty) (e:yc)
 |map (tid:yc) (k v:Ty)
 |row (t:Ty) (st:Bool) (e:yc)
 |aR (t:Ty) (np:List Nat) (st:Bool) (e:yc)
 |bL (t:Ty) (np:List Nat) (st:Bool) (e:yc) (s:Sh)
 |nW (ver s:Nat) (st:Bool) (e:yc) (n:Nat) (l:List Sh)
 |gone
def jk(k v:Ty):Ty:=.sl (.st [k,v])
def GS(L:Lk)(t:Ty)(d:TD):yO t.aU:=(d.flat L).bind λx=>TP.to jF x t
theorem ZBh{L:Lk}{t:Ty}{d:TD}{y:t.aU}(h:GS L t d=ab y):Wk (d.er L) (.p (t.enc y)):=by
 obtain⟨x,l,m⟩:=yf.1 h;have f:(d.er L).flat=ab x.pe:=by rw[rh,l];rfl
 have g:Wk (d.er L) (.p x.pe):=⟨(uH _ _ f).symm,(AS f).symm,λJ vs r=>by simp only[yH];exact qq _ _ _ f r⟩;have j:=qZ m;exact⟨g.size.trans j.size,g.agg.trans j.agg,λJ vs r=>(Wk.p j).dk J vs (g.dk J vs r)⟩
def bJ.mt(L:Lk):bJ->ah->yO (ah×yL TV)
 |.var s st,.var d f=>if st=f\/st=af then(s.mt L d).map λq=>(.var q.1 st,q.2) else ad
 |.log t e,.log u j Q=>if e=j then(Ty.bu u t Q).map λh=>(.log t e h,[⟨.sl t,h⟩]) else ad
 |.map G k v,.map I S R l=>if G=I then(Ty.cast (jk S R) (jk k v) l).map λ(m:yL (k.aU×v.aU))=>(.map G k v m,[⟨jk k v,m⟩]) else ad
 |.row t st e,.aY u v f j Q=>if(st=f\/st=af)/\e=j then(Ty.bu u t Q).map λh=>(.aY t v st e h,[⟨.sl (.st []),v⟩,⟨.sl t,h⟩]) else ad
 |.aR t E st e,.aR u z v f j A g=>if(st=f\/st=af)/\e=j/\E=z then(Ty.bu u t A).bind λh=>(Ty.bu u t g).map λzs=>
   (.aR t E v st e h zs,[⟨.sl (.st []),v⟩,⟨.sl t,h⟩,⟨.sl t,zs⟩]) else ad
 |.aR t E st e,.bL u z v f j A F g=>if st=f/\e=j/\E=z then(Ty.bu u t A).bind λh=>(Ty.bu u t g).bind λzs=>(GS L t F).map λy=>
   (.aR t E v st e (h++[y]) zs,[⟨.sl (.st []),v⟩,⟨.sl t,h++[y]⟩,⟨.sl t,zs⟩]) else ad
 |.bL t E st e s,.bL u z v f j A F g=>if st=f/\e=j/\E=z then(Ty.bu u t A).bind λh=>(Ty.bu u t g).bind λzs=>(s.mt L F).map λq=>
   (.bL t E v st e h q.1 zs,[⟨.sl (.st []),v⟩,⟨.sl t,h⟩,⟨.sl t,zs⟩]++q.2) else ad
 |.nW M s st e n l,.row R T f j (.arr U W X)=>if M=R/\s=T/\st=f/\e=j/\n=U/\s=W then(Sh.eR L l X).map λq=>(.row M s st e (.arr n s q.1),q.2) else ad
 |.gone,.gone=>ab (.gone,[])
 |_,_=>ad
def bJ.fill:bJ->yL TV->yO (ah×yL TV)
 |.var s st,vs=>(s.fill vs).map λq=>(.var q.1 st,q.2)
 |.log t e,vs=>match vs with
  |x::r=>(Ty.cast x.1 (.sl t) x.2).map λ(y:yL t.aU)=>(.log t e y,r)
  |[]=>ad
 |.map f k v,vs=>match vs with
  |x::r=>(Ty.cast x.1 (jk k v) x.2).map λ(y:yL (k.aU×v.aU))=>(.map f k v y,r)
  |[]=>ad
 |.row t st e,vs=>match vs with
  |x::y::r=>(Ty.cast x.1 aLA x.2).bind λ(v:yL Unit)=>(Ty.cast y.1 (.sl t) y.2).map λ(l:yL t.aU)=>(.aY t v st e l,r)
  |_=>ad
 |.aR t g st e,vs=>match vs with
  |x::y::z::r=>(Ty.cast x.1 aLA x.2).bind λ(v:yL Unit)=>(Ty.cast y.1 (.sl t) y.2).bind λ(l:yL t.aU)=>(Ty.cast z.1 (.sl t) z.2).bind λ(m:yL t.aU)=>ab (.aR t g v st e l m,r)
  |_=>ad
 |.bL t g st e s,vs=>match vs with
  |x::y::z::r=>(Ty.cast x.1 aLA x.2).bind λ(v:yL Unit)=>(Ty.cast y.1 (.sl t) y.2).bind λ(l:yL t.aU)=>(Ty.cast z.1 (.sl t) z.2).bind λ(m:yL t.aU)=>
   (s.fill r).map λq=>(.bL t g v st e l q.1 m,q.2)
  |_=>ad
 |.nW h s st e n l,vs=>(Sh.fills l vs).map λq=>(.row h s st e (.arr n s q.1),q.2)
 |.gone,vs=>ab (.gone,vs)
def bJ.eR(L:Lk):yL bJ->yL ah->yO (yL ah×yL TV)
 |[],[]=>ab ([],[])
 |s::r,d::q=>match bJ.mt L s d,bJ.eR L r q with
  |some a,ab b=>ab (a.1::b.1,a.2++b.2)
  |_,_=>ad
 |_,_=>ad
def bJ.fills:yL bJ->yL TV->yO (yL ah×yL TV)
 |[],vs=>ab ([],vs)
 |s::r,vs=>(bJ.fill s vs).bind λa=>(bJ.fills r a.2).map λb=>(a.1::b.1,b.2)
theorem GU{O:Type}{t:Ty}(v:yL Unit)(a b:yL t.aU)(k:yL Unit->yL t.aU->yL t.aU->yO O):
 ((Ty.cast aLA aLA v).bind λ(v:yL Unit)=>(Ty.cast (.sl t) (.sl t) a).bind λ(l:yL t.aU)=>(Ty.cast (.sl t) (.sl t) b).bind λ(m:yL t.aU)=>k v l m)=k v a b:=by
 have f:=YS aLA v;have g:=YS (.sl t) a;have h:=YS (.sl t) b;grind
theorem ZE1{L:Lk}{s:bJ}{d:ah}{q:ah×yL TV}(h:s.mt L d=ab q)(yK:yL TV):s.fill (q.2++yK)=ab (q.1,yK):=by
 unfold bJ.mt at h;split at h
 .split at h
  .obtain⟨w,f,rfl⟩:=Zd h;simp only[bJ.fill,nV _ _ w f yK,yae]
  .cases h
 .split at h
  .obtain⟨w,f,rfl⟩:=Zd h;rename_i t e _ _ _ _;exact congrArg (Option.map λ(y:yL t.aU)=>(ah.log t e y,yK)) (YS (.sl t) w)
  .cases h
 .split at h
  .obtain⟨w,f,rfl⟩:=Zd h;rename_i F k v _ _ _ _ _;exact congrArg (Option.map λ(y:yL (k.aU×v.aU))=>(ah.map F k v y,yK)) (YS (jk k v) w)
  .cases h
 .split at h
  .obtain⟨w,f,rfl⟩:=Zd h;rename_i t st e _ v _ _ _ _;have R:=YS aLA v;have S:=YS (.sl t) w;show((Ty.cast aLA aLA v).bind λ(v:yL Unit)=>(Ty.cast (.sl t) (.sl t) w).map λ(l:yL t.aU)=>(ah.aY t v st e l,yK))=_;rw[R,S];rfl
  .cases h
 .rename_i t j st e u z v A I E g;split at h
  .obtain⟨a,f,h⟩:=yf.1 h;obtain⟨b,M,rfl⟩:=Zd h;exact GU v a b (λv l m=>ab (ah.aR t j v st e l m,yK))
  .cases h
 .rename_i t j st e u z v A I E G g;split at h
  .obtain⟨a,f,h⟩:=yf.1 h;obtain⟨b,M,h⟩:=yf.1 h;obtain⟨c,Q,rfl⟩:=Zd h;exact GU v (a++[c]) b (λv l m=>ab (ah.aR t j v st e l m,yK))
  .cases h
 .rename_i t j st e s u z v A I E G g;split at h
  .obtain⟨a,f,h⟩:=yf.1 h;obtain⟨b,M,h⟩:=yf.1 h;obtain⟨c,Q,rfl⟩:=Zd h;have:=GU v a b (λv l m=>(s.fill (c.2++yK)).map λq=>(ah.bL t j v st e l q.1 m,q.2));refine this.trans ?_;rw[nV _ _ c Q yK];rfl
  .cases h
 .split at h
  .obtain⟨w,f,rfl⟩:=Zd h;simp only[bJ.fill,bN _ _ w f yK,yae]
  .cases h
 .cases h;rfl
 .cases h
theorem rV{L:Lk}:∀{l:yL bJ}{H:yL ah}{q:yL ah×yL TV},bJ.eR L l H=ab q->∀yK,bJ.fills l (q.2++yK)=ab (q.1,yK)
 |[],[],q,h,yK=>by cases h;rfl
 |[],_::_,q,h,yK=>by cases h
 |_::_,[],q,h,yK=>by cases h
 |s::r,d::H,q,h,yK=>by
  simp only[bJ.eR]at h;split at h
  .rename_i a b f g;cases h;simp only[bJ.fills,yac,ZE1 f,ya,rV g,yae]
  .cases h
theorem ZKd{L:Lk}{s:bJ}{d:ah}{q:ah×yL TV}(h:s.mt L d=ab q):eP (ab q.1)=eP (ab d):=by
 unfold bJ.mt at h;split at h
 .split at h
  .obtain⟨w,f,rfl⟩:=Zd h;rfl
  .cases h
 .split at h
  .obtain⟨w,f,rfl⟩:=Zd h;obtain⟨e,g⟩:=ZH f;grind
  .cases h
 .split at h
  .obtain⟨w,f,rfl⟩:=Zd h;rfl
  .cases h
 .split at h
  .obtain⟨w,f,rfl⟩:=Zd h;obtain⟨e,g⟩:=ZH f;subst e;subst g;rfl
  .cases h
 .split at h
  .obtain⟨a,f,h⟩:=yf.1 h;obtain⟨b,g,rfl⟩:=Zd h;obtain⟨e,l⟩:=ZH f;subst e;obtain⟨_,j⟩:=ZH g;subst l;subst j;rfl
  .cases h
 .split at h
  .obtain⟨a,f,h⟩:=yf.1 h;obtain⟨b,g,h⟩:=yf.1 h;obtain⟨c,l,rfl⟩:=Zd h;obtain⟨e,j⟩:=ZH f;subst e;obtain⟨_,m⟩:=ZH g;subst j;subst m;simp only[eP,ym,yag,List.length_nil];grind
  .cases h
 .split at h
  .obtain⟨a,f,h⟩:=yf.1 h;obtain⟨b,g,h⟩:=yf.1 h;obtain⟨c,l,rfl⟩:=Zd h;obtain⟨e,j⟩:=ZH f;subst e;obtain⟨_,m⟩:=ZH g;subst j;subst m;rfl
  .cases h
 .split at h
  .obtain⟨w,f,rfl⟩:=Zd h;rfl
  .cases h
 all_goals grind
theorem rW{L:Lk}:∀{l:yL bJ}{H:yL ah}{q:yL ah×yL TV},bJ.eR L l H=ab q->q.1.length=H.length/\lk q.1=lk H
 |[],[],q,h=>by cases h;exact⟨rfl,rfl⟩
 |[],_::_,q,h=>by cases h
 |_::_,[],q,h=>by cases h
 |s::r,d::H,q,h=>by
  simp only[bJ.eR]at h;split at h
  .rename_i a b f g;cases h;obtain⟨j,m⟩:=rW g;refine⟨by simp[j],funext λi=> ?_⟩
   cases i with
   |zero=>exact ZKd f
   |succ i=>exact congrFun m i
  .cases h
theorem ZBi:∀(l:yL Dv){m m':yL Dv},cP m m'->cP (l++m) (l++m')
 |[],_,_,h=>h
 |x::l,_,_,h=>.cons (Wk.refl x) (ZBi l h)
theorem ZBj{l m:yL Dv}{d d':Dv}(h:Wk d d'):cP (l++d::m) (l++d'::m):=ZBi l (.cons h (cP.refl m))
theorem ZE2{n s:Nat}(xs:yL Pl):Wk (.arr n s (xs.map .p)) (.p (.arr n s xs)):=⟨rfl,rfl,λJ vs r=>by
 simp only[yH,aA]at r ⊢;obtain⟨f,g,h⟩:=r;exact⟨by simpa using f,λx j=>g (.p x) (List.mem_map_of_mem j),jw.1 h⟩⟩
theorem ZKe{n s:Nat}{d:Dv}{x:Pl}(l m:yL Pl)(h:Wk d (.p x)):Wk (.arr n s (l.map .p++d::m.map .p)) (.p (.arr n s (l++x::m))):=by
 have g:Wk (.arr n s (l.map .p++d::m.map .p)) (.arr n s (l.map .p++.p x::m.map .p)):=cP.arr (ZBj h);have f:=ZE2 (n:=n) (s:=s) (l++x::m);rw[yau,yah]at f;exact⟨rfl,rfl,λJ vs r=>f.dk J vs (g.dk J vs r)⟩
theorem ZBk{L M:Lk}{t:Ty}{f:yL Nat}{v:yL Unit}{st:Bool}{e:yc}{a b:yL t.aU}{mid:TD}{c:t.aU}(g:Wk (mid.er L) (.p (t.enc c))):
 eN ((ah.bL t f v st e a mid b).er L) ((ah.aR t f v st e (a++[c]) b).er M):=by
 have h:=ZKe (a.map t.enc) (b.map λx=>(Wb f (.v t x)).pe) (n:=a.length+(b.length+1)) (s:=t.size) g;rw[ybd,ybd]at h;have j:(a++[c]).length+b.length=a.length+(b.length+1):=by rw[ym,yag,List.length_nil];omega
 have l:(a++[c]).map t.enc++(b.map λx=>(Wb f (.v t x)).pe)=a.map t.enc++t.enc c::b.map λx=>(Wb f (.v t x)).pe:=by rw[yau,yac];rfl
 rw[ah.er,ah.er,j,l];exact .row ⟨h,rfl⟩
theorem ZKf{L M:Lk}(z:∀id t,Yb L id t ad=Yb M id t ad){s:bJ}{d:ah}{q:ah×yL TV}(h:s.mt L d=ab q):eN (d.er L) (q.1.er M):=by
 unfold bJ.mt at h;split at h
 .split at h
  .rename_i e;obtain⟨w,f,rfl⟩:=Zd h;rcases e with e|e
   .subst e;exact .var (mD z _ _ w f)
   .subst e;exact .kZ (mD z _ _ w f)
  .cases h
 .split at h
  .rename_i e;subst e;obtain⟨w,f,rfl⟩:=Zd h;obtain⟨e,g⟩:=ZH f;subst e;subst g;exact .refl _
  .cases h
 .split at h
  .rename_i e;subst e;obtain⟨w,f,rfl⟩:=Zd h;obtain⟨e,g⟩:=VF f;unfold jk at e;simp only[Ty.sl.injEq,Ty.st.injEq,List.cons.injEq,and_true]at e;obtain⟨j,l⟩:=e;subst j;subst l;subst g;exact .refl _
  .cases h
 .split at h
  .rename_i e;obtain⟨e0,j⟩:=e;subst j;obtain⟨w,f,rfl⟩:=Zd h;obtain⟨e,g⟩:=ZH f;subst e;subst g;rcases e0 with e0|e0
   .subst e0;exact .refl _
   .subst e0;exact .lock
  .cases h
 .split at h
  .rename_i e;obtain⟨e0,j,l⟩:=e;subst j;subst l;obtain⟨a,f,h⟩:=yf.1 h;obtain⟨b,g,rfl⟩:=Zd h;obtain⟨e,m⟩:=ZH f;subst e;obtain⟨_,y⟩:=ZH g;subst m;subst y;rcases e0 with e0|e0
   .subst e0;exact .refl _
   .subst e0;exact .lock
  .cases h
 .rename_i _ _ _ _ _ _ _ _ _ F G E;split at h
  .rename_i e;obtain⟨e0,j,l⟩:=e;subst e0;subst j;subst l;obtain⟨a,f,h⟩:=yf.1 h;obtain⟨b,g,h⟩:=yf.1 h;obtain⟨c,m,rfl⟩:=Zd h;obtain⟨e,y⟩:=ZH f;subst e;obtain⟨_,A⟩:=ZH g;subst y;subst A;exact ZBk (ZBh m)
  .cases h
 .split at h
  .rename_i e;obtain⟨e0,j,l⟩:=e;subst e0;subst j;subst l;obtain⟨a,f,h⟩:=yf.1 h;obtain⟨b,g,h⟩:=yf.1 h;obtain⟨c,m,rfl⟩:=Zd h;obtain⟨e,y⟩:=ZH f;subst e;obtain⟨_,A⟩:=ZH g;subst y;subst A;rw[ah.er,ah.er];exact .row ⟨cP.arr (ZBj (mD z _ _ c m)),rfl⟩
  .cases h
 .split at h
  .rename_i e;obtain⟨rfl,rfl,rfl,rfl,rfl,rfl⟩:=e;obtain⟨w,f,rfl⟩:=Zd h;rw[ah.er,ah.er,TD.er,TD.er];exact .row ⟨cP.arr (de z _ _ w f),rfl⟩
  .cases h
 .cases h;exact .refl _
 .cases h
theorem rX{L M:Lk}(f:∀id t,Yb L id t ad=Yb M id t ad):∀{l:yL bJ}{H:yL ah}{q:yL ah×yL TV},bJ.eR L l H=ab q->bX (H.map (ah.er L)) (q.1.map (ah.er M))
 |[],[],q,h=>by cases h;exact .nil
 |[],_::_,q,h=>by cases h
 |_::_,[],q,h=>by cases h
 |s::r,d::H,q,h=>by
  simp only[bJ.eR]at h;split at h
  .rename_i a b g j;cases h;exact .cons (ZKf f g) (rX f j)
  .cases h
def dB:(ts:yL Ty)->Ty.aO ts->yL TV
 |[],_=>[]
 |[t],x=>[⟨t,x⟩]
 |t::u::r,x=>⟨t,x.1⟩::dB (u::r) x.2
def jK:(ts:yL Ty)->yL TV->yO (Ty.aO ts)
 |[],[]=>ab ()
 |[t],[x]=>Ty.cast x.1 t x.2
 |t::u::r,x::l=>kD (Ty.cast x.1 t x.2) (jK (u::r) l)
 |_,_=>ad
theorem mE:∀(ts:yL Ty)(l:yL TV)(x:Ty.aO ts),jK ts l=ab x->dB ts x=l
 |[],[],x,h=>rfl
 |[],_::_,x,h=>by cases h
 |[t],[],x,h=>by cases h
 |[t],[y],x,h=>by
  obtain⟨e,f⟩:=VF (show Ty.cast y.1 t y.2=ab x from h)
  obtain⟨u,y⟩:=y;dsimp only at e f;subst e;subst f
  rfl
 |[t],_::_::_,x,h=>by cases h
 |t::u::r,[],x,h=>by cases h
 |t::u::r,y::l,x,h=>by
  obtain⟨j,f⟩:=pd (α:=t.aU) (β:=Ty.aO (u::r)) (show kD (Ty.cast y.1 t y.2) (jK (u::r) l)=ab x from h)
  obtain⟨e,g⟩:=VF j;obtain⟨m,y⟩:=y;dsimp only at e g;subst e;have:=mE (u::r) l x.2 f;show(⟨m,x.1⟩:TV)::dB (u::r) x.2=_;rw[this,g]
abbrev cF:=yL (Nat×Sh)
def rY(sl:cF)(n:Nat):yL Sh:=(yo n).map λi=>(sl.lookup i).getD .an
def VT(n:Nat)(sl:cF)(es:yL bJ)(vs:yL TV):yO (yL TD×yL ah):=
 (Sh.fills (rY sl n) vs).bind λq=>(bJ.fills es q.2).bind λw=>if w.2.isEmpty then ab (q.1,w.1) else ad
theorem GV:∀{l:yL Sh}{vs:yL TV}{q:yL TD×yL TV},Sh.fills l vs=ab q->q.1.length=l.length
 |[],vs,q,h=>by simp only[Sh.fills]at h;cases h;rfl
 |s::r,vs,q,h=>by
  simp only[Sh.fills]at h;obtain⟨a,g,h⟩:=yf.1 h;obtain⟨b,f,rfl⟩:=Zd h;simp[GV f]
theorem vY{n:Nat}{sl:cF}{es:yL bJ}{vs:yL TV}{q:yL TD×yL ah}(h:VT n sl es vs=ab q):q.1.length=n:=by
 unfold VT at h;obtain⟨a,f,h⟩:=yf.1 h;obtain⟨b,g,h⟩:=yf.1 h;split at h
 .cases h;rw[GV f];simp[rY]
 .cases h
structure cv where
 ex:Ex
 sl:cF
 es:List bJ
 ty:List Ty
def cv.sum:yL cv->Type
 |[]=>Empty
 |[e]=>Ty.aO e.ty
 |e::f::r=>Ty.aO e.ty⊕cv.sum (f::r)
abbrev Kc(O:Type):=Ex->yL TD->yL ah->yO O
def xT{O:Type}(n:Nat):(l:yL cv)->cv.sum l->Kc O->yO O
 |[],_,_=>ad
 |[e],o,K=>(VT n e.sl e.es (dB e.ty o)).bind λs=>K e.ex s.1 s.2
 |e::f::r,o,K=>match (o:Ty.aO e.ty⊕cv.sum (f::r)) with
  |.inl o=>(VT n e.sl e.es (dB e.ty o)).bind λs=>K e.ex s.1 s.2
  |.inr o=>xT n (f::r) o K
def nX:(l:yL cv)->cv.sum l->cv->yL TV->Prop
 |[],_,_,_=>False
 |[e],o,x,vs=>x=e/\vs=dB e.ty o
 |e::f::r,o,x,vs=>match (o:Ty.aO e.ty⊕cv.sum (f::r)) with
  |.inl o=>x=e/\vs=dB e.ty o
  |.inr o=>nX (f::r) o x vs
theorem vZ{O:Type}{n:Nat}{K:Kc O}{out:O}:∀{l:yL cv}{o:cv.sum l},xT n l o K=ab out->∃e vs s,nX l o e vs/\VT n e.sl e.es vs=ab s/\K e.ex s.1 s.2=ab out
 |[],_,h=>by cases h
 |[e],o,h=>by
  obtain⟨s,g,j⟩:=yf.1 (show(VT n e.sl e.es (dB e.ty o)).bind (λs=>K e.ex s.1 s.2)=ab out from h)
  exact⟨e,_,s,⟨rfl,rfl⟩,g,j⟩
 |e::f::r,.inl o,h=>by
  obtain⟨s,g,j⟩:=yf.1 (show(VT n e.sl e.es (dB e.ty o)).bind (λs=>K e.ex s.1 s.2)=ab out from h)
  exact⟨e,_,s,⟨rfl,rfl⟩,g,j⟩
 |e::f::r,.inr o,h=>by
  obtain⟨m,vs,s,g,j,y⟩:=vZ (l:=f::r) (o:=o) h;exact⟨m,vs,s,g,j,y⟩
theorem ZE3{A B:yL aq}(hl:A.length=B.length)(h:∀(i:Nat)(a b:aq),A[i]? =ab a->B[i]? =ab b->eN a b):bX A B:=by
 induction A generalizing B with
 |nil=>cases B with
  |nil=>exact .nil
  |cons _ _=>simp at hl
 |cons a A f=>cases B with
  |nil=>simp at hl
  |cons b B=>exact .cons (h 0 a b rfl rfl) (f (by simpa using hl) λi a b g j=>h (i+1) a b g j)
def Ty.rZ(f:(T:Ty)->TD->yO T.aU):(g:yL Ty)->yL TD->yO (Ty.aO g)
 |[],[]=>ab ()
 |[t],[d]=>f t d
 |t::u::r,d::h=>kD (f t d) (Ty.rZ f (u::r) h)
 |_,_=>ad
def mkL{T:Ty}(f:TD->yO T.aU):yL TD->yO (yL T.aU)
 |[]=>ab []
 |d::r=>(kD (f d) (mkL f r)).map λq=>q.1::q.2
def ZLw(H:yL ah)(id:Nat)(u:Ty):yO (yL u.aU):=
 match H[id]? with
 |some (.aY f v af e l)=>Ty.bu f u l
 |_=>ad
def GW(H:yL ah):Nat->(T:Ty)->TD->yO T.aU
 |0,_,_=>ad
 |n+1,T,d=>match d with
  |.p x=>TP.to jF x T
  |.own id m t c=>qW ae t (Yb (lk H) id t c) T
  |.agg f=>qX (λg=>Ty.rZ (GW H n) g f) T
  |.rw id=>match T with
   |.sl u=>ZLw H id u
   |_=>ad
  |.rv id v s lo k=>match T with
   |.sl u=>match H[id]? with
    |some (.row w h af e d)=>if(w==v&&h==s&&s==u.size)=ae then match d with
      |.p x=>x.dQ.bind λr=>(Ty.bu r.t u r.l).bind λl=>if ag (lo+k<=r.n)=ae then ab ((l.drop lo).take k) else ad
      |.arr N j f=>if(j==s&&ag (lo+k<=N))=ae then(mkL (GW H n u) f).map λ(l:yL u.aU)=>(l.drop lo).take k else ad
      |_=>ad
     else ad
    |_=>ad
   |_=>ad
  |.view id [] s lo k=>match T with
   |.sl u=>match H[id]? with
    |some (.var (.p x) af)=>if(s==u.size)=ae then x.dQ.bind λr=>(Ty.bu r.t u r.l).bind λl=>if ag (lo+k<=r.n)=ae then ab ((l.drop lo).take k) else ad else ad
    |_=>ad
   |_=>ad
  |_=>ad
end Go.Ev
end
