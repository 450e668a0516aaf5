/- Parts of the proof, in one file. -/
import Derived.Test.YtcbhhaigilifgaaGreatKc
open Option renaming some → ab, none → ad
open Bool renaming true → ae, false → af
open Decidable renaming decide → ag
open Bool renaming and_eq_true → yi
open Go renaming TypeId → yc, Program → yg, Oper → yj, Operand → yp
open List renaming length_append → yl, range → yo, getElem?_eq_some_iff → yu, replicate → yx, nil_append → yz, append_assoc → yac, length_map → yad, length_cons → yaf, cons_append → yag, map_cons → yah, take_length → yai, all_eq_true → yal, getElem?_map → yao, map_append → yaw, map_map → ybd, map_set → ybn, getElem?_eq_none → ybz, map_congr_left → yci
open Nat renaming le_refl → ym
open Option renaming bind_some → ya, bind_eq_some_iff → yf, map_some → yae
open Option.some renaming injEq → yn
open Prod.mk renaming injEq → yq
set_option linter.unusedVariables false
set_option linter.unusedSimpArgs false
section
namespace Go.Ev
inductive Num where
 |u8 (x:UInt8)|u32 (x:UInt32)|u64 (x:UInt64)
 |i (k:IntKind) (x:Int)
def TP.num:TP->yO Num
 |.v (.int k) n=>if DE k then ab (.i k n) else ad
 |.v .u8 b=>ab (.u8 b)
 |.v .u32 b=>ab (.u32 b)
 |.v .u64 b=>ab (.u64 b)
 |_=>ad
def Num.k:Num->IntKind
 |.u8 _=>.u8|.u32 _=>.u32|.u64 _=>.u64|.i k _=>k
def Num.n:Num->Int
 |.u8 x=>(x.toNat:Int)|.u32 x=>(x.toNat:Int)|.u64 x=>(x.toNat:Int)|.i _ x=>x
theorem ZKR{x:TP}{a:Num}(h:x.num=ab a):x.pe=.int a.k a.n:=by
 unfold TP.num at h;split at h
 .split at h
  .cases h;rfl
  .cases h
 .cases h;rfl
 .cases h;rfl
 .cases h;rfl
 .cases h
def TD.num:TD->yO Num
 |.p x=>x.num
 |_=>ad
theorem Q1{L:Lk}{x:TD}{a:Num}(h:x.num=ab a):x.er L=.p (.int a.k a.n):=by
 unfold TD.num at h;split at h
 .rw[TD.er,ZKR h]
 .cases h
section
variable{L:Lk}{P:yg}{o:yj}{ts:yL TD}{O:Type}
def ZN9:BinOp->Bool
 |.eql|.neq|.lss|.leq|.gtr|.geq=>ae
 |_=>af
def EA:BinOp->Int->Int->yO Bool
 |.eql,x,y=>ab (x==y)
 |.neq,x,y=>ab (x !=y)
 |.lss,x,y=>ab (ag (x < y))
 |.leq,x,y=>ab (ag (x<=y))
 |.gtr,x,y=>ab (ag (x > y))
 |.geq,x,y=>ab (ag (x >= y))
 |_,_,_=>ad
theorem ZIy{op:BinOp}{k:IntKind}{x y:Int}{b:Bool}(h:EA op x y=ab b)(yK:yL ao):YW op k x y yK=ab ([],.p (.bool b),yK):=by
 cases op <;> simp only[EA,yn,reduceCtorEq]at h <;> subst h <;> rfl
def EB(k:IntKind):BinOp->Int->Int->yO Int
 |.add,x,y=>ab (k.wrap (x+y))
 |.sub,x,y=>ab (k.wrap (x - y))
 |.mul,x,y=>ab (k.wrap (x*y))
 |.and,x,y=>ab (bits .and k x y)
 |.or,x,y=>ab (bits .or k x y)
 |.xor,x,y=>ab (bits .xor k x y)
 |.andNot,x,y=>ab (bits .andNot k x y)
 |_,_,_=>ad
theorem ZKT{op:BinOp}{k:IntKind}{x y z:Int}(h:EB k op x y=ab z)(yK:yL ao):YW op k x y (.raw::yK)=ab ([],.p (.int k z),yK):=by
 cases op <;> simp only[EB,yn,reduceCtorEq]at h <;> subst h <;> rfl
def EC(k:IntKind):BinOp->Int->Int->yO Int
 |.quo,x,y=>ab (k.wrap (x.tdiv y))
 |.rem,x,y=>ab (x.tmod y)
 |_,_,_=>ad
theorem ZKU{op:BinOp}{k:IntKind}{x y z:Int}(h:EC k op x y=ab z)(yK:yL ao):YW op k x y (.raw::yK)=ab ([y≠0],.p (.int k z),yK):=by
 cases op <;> simp only[EC,yn,reduceCtorEq]at h <;> subst h <;> rfl
def pq(b:yO Bool)(o:yO TP)(d:yO TP)(f:Bool)(K:TD->yL ao->yO O):yO O:=
 match b,o,d with
 |some b,_,_=>K (.p (.v .bool b)) []
 |none,ab z,_=>K (.p z) [.raw]
 |none,ad,ab z=>if f=ae then K (.p z) [.raw] else ad
 |none,ad,ad=>ad
def ED(op:BinOp)(x y:Num)(K:TD->yL ao->yO O):yO O:=
 match x,y with
 |.u8 a,.u8 b=>pq (DT op a b) ((DR op a b).map (.v .u8)) ((DS op a b).map (.v .u8)) (b !=0) K
 |.u32 a,.u32 b=>pq (DW op a b) ((DU op a b).map (.v .u32)) ((DV op a b).map (.v .u32)) (b !=0) K
 |.u64 a,.u64 b=>pq (DZ op a b) ((DX op a b).map (.v .u64)) ((DY op a b).map (.v .u64)) (b !=0) K
 |.i k a,.i l b=>if k=l/\DE k=ae then pq (EA op a b) ((EB k op a b).map (.v (.int k))) ((EC k op a b).map (.v (.int k))) (b !=0) K else ad
 |_,_=>ad
theorem vX{k:IntKind}{op:BinOp}{x y:Int}{b:yO Bool}{o d:yO TP}{f:Bool}{K:TD->yL ao->yO O}{out:O}(h:pq b o d f K=ab out)
 (hb:∀c,b=ab c->∀yK,YW op k x y yK=ab ([],.p (.bool c),yK))
 (ho:∀z,o=ab z->∀yK,YW op k x y (.raw::yK)=ab ([],.p z.pe,yK))
 (hd:∀z,d=ab z->∀yK,YW op k x y (.raw::yK)=ab ([y≠0],.p z.pe,yK)) (hz:f=ae->y≠0):
 ∃d hs C,K d hs=ab out/\aX C/\∀yK,YW op k x y (hs++yK)=ab (C,d.er L,yK):=by
 unfold pq at h;split at h
 .exact⟨_,_,[],h,zP,hb _ rfl⟩
 .exact⟨_,_,[],h,zP,ho _ rfl⟩
 .obtain⟨g,j⟩:=Za h;exact⟨_,_,[y≠0],j,⟨hz g,aw⟩,hd _ rfl⟩
 .cases h
theorem Zye{op:BinOp}{x y:Num}{K:TD->yL ao->yO O}{out:O}(h:ED op x y K=ab out):
 x.k=y.k/\∃d hs C,K d hs=ab out/\aX C/\∀yK,YW op x.k x.n y.n (hs++yK)=ab (C,d.er L,yK):=by
 unfold ED at h;split at h
 .rename_i a b;refine⟨rfl,vX h (λc j=>ZIr j) (λz f=> ?_) (λz f=> ?_) (λf=> ?_)⟩
  .obtain⟨q,g,rfl⟩:=Ze f;exact ZKK g
  .obtain⟨q,g,rfl⟩:=Ze f;exact ZKL g
  .simp only[yE,ne_eq]at f;intro e;exact f (UInt8.toNat_inj.1 (by simp only[Num.n]at e;show b.toNat=0;omega))
 .rename_i a b;refine⟨rfl,vX h (λc j=>ZFq j) (λz f=> ?_) (λz f=> ?_) (λf=> ?_)⟩
  .obtain⟨q,g,rfl⟩:=Ze f;exact ZIu g
  .obtain⟨q,g,rfl⟩:=Ze f;exact ZIv g
  .simp only[yE,ne_eq]at f;intro e;exact f (UInt32.toNat_inj.1 (by simp only[Num.n]at e;show b.toNat=0;omega))
 .rename_i a b;refine⟨rfl,vX h (λc j=>ZFv j) (λz f=> ?_) (λz f=> ?_) (λf=> ?_)⟩
  .obtain⟨q,g,rfl⟩:=Ze f;exact ZIw g
  .obtain⟨q,g,rfl⟩:=Ze f;exact ZIx g
  .simp only[yE,ne_eq]at f;intro e;exact f (UInt64.toNat_inj.1 (by simp only[Num.n]at e;show b.toNat=0;omega))
 .rename_i k a l b;split at h
  .rename_i e;obtain⟨rfl,e⟩:=e;refine⟨rfl,vX h (λc j=>ZIy j) (λz f=> ?_) (λz f=> ?_) (λf=> ?_)⟩
   .obtain⟨q,g,rfl⟩:=Ze f;exact ZKT g
   .obtain⟨q,g,rfl⟩:=Ze f;exact ZKU g
   .simpa[Num.n] using f
  .cases h
 .cases h
def EE:Num->Bool
 |.i _ n=>ag (0<=n)
 |_=>ae
theorem ZAt{x:Num}(h:EE x=ae):0<=x.n:=by
 cases x <;> simp only[EE,Num.n,yP]at h ⊢ <;> omega
def EF(op:BinOp)(x y:Num):yO TP:=
 match op,x with
 |.shl,.u8 a=>ab (.v .u8 (DP a (min y.n.toNat 8)))
 |.shl,.u32 a=>ab (.v .u32 (hU a (min y.n.toNat 32)))
 |.shl,.u64 a=>ab (.v .u64 (V5 a (min y.n.toNat 64)))
 |.shl,.i k a=>ab (.v (.int k) (k.wrap (a*2 ^ min y.n.toNat k.bits)))
 |.shr,.u8 a=>ab (.v .u8 (DQ a (min y.n.toNat 8)))
 |.shr,.u32 a=>ab (.v .u32 (gS a (min y.n.toNat 32)))
 |.shr,.u64 a=>ab (.v .u64 (ZB a (min y.n.toNat 64)))
 |.shr,.i k a=>ab (.v (.int k) (a.fdiv (2 ^ min y.n.toNat k.bits)))
 |_,_=>ad
theorem ZKV{op:BinOp}{x y:Num}{z:TP}(h:EF op x y=ab z)(yK:yL ao):WC op x.k x.n y.n (.raw::yK)=ab ([0<=y.n],.p z.pe,yK):=by
 unfold EF at h
 split at h <;> first
  |(cases h;first|exact ZIs .. |exact ZFr .. |exact ZFw .. |exact ZIt .. |exact ZFs .. |exact ZFx .. |rfl)
  |cases h
mutual
def Ty.flat:Ty->Bool
 |.sl _=>af
 |.str=>af
 |.arr _ t=>Ty.flat t
 |.st f=>Ty.aS f
 |_=>ae
def Ty.aS:yL Ty->Bool
 |[]=>ae
 |t::r=>Ty.flat t&&Ty.aS r
end
mutual
theorem rK:∀(t:Ty)(x y:t.aU),t.flat=ae->t.enc x=t.enc y->x=y
 |.int k,x,y,_,h=>by injection h
 |.u8,x,y,_,h=>by injection h with _ h;exact UInt8.toNat_inj.1 (by omega)
 |.u32,x,y,_,h=>by injection h with _ h;exact UInt32.toNat_inj.1 (by omega)
 |.u64,x,y,_,h=>by injection h with _ h;exact UInt64.toNat_inj.1 (by omega)
 |.bool,x,y,_,h=>by injection h
 |.str,_,_,f,_=>nomatch f
 |.sl _,_,_,f,_=>nomatch f
 |.arr n t,x,y,f,h=>by
  injection h with _ _ h
  exact ZBP (λa b e=>rK t a b f e) h
 |.st g,x,y,f,h=>by
  injection h with h;exact gI g x y f h
theorem gI:∀(g:yL Ty)(x y:Ty.aO g),Ty.aS g=ae->Ty.encs g x=Ty.encs g y->x=y
 |[],_,_,_,_=>rfl
 |[t],x,y,j,h=>by
  simp only[Ty.encs,List.cons.injEq,and_true]at h;simp only[Ty.aS,Bool.and_true]at j
  exact rK t x y j h
 |t::u::r,x,y,j,h=>by
  have l:t.enc x.1::Ty.encs (u::r) x.2=t.enc y.1::Ty.encs (u::r) y.2:=h;have f:(t.flat&&Ty.aS (u::r))=ae:=j;rw[yi]at f;injection l with m z;exact Prod.ext (rK t x.1 y.1 f.1 m) (gI (u::r) x.2 y.2 f.2 z)
end
mutual
def Ty.fe:(t:Ty)->DecidableEq t.aU
 |.int _=>inferInstanceAs (DecidableEq Int)
 |.u8=>inferInstanceAs (DecidableEq yB)
 |.u32=>inferInstanceAs (DecidableEq yV)
 |.u64=>inferInstanceAs (DecidableEq yU)
 |.bool=>inferInstanceAs (DecidableEq Bool)
 |.str=>inferInstanceAs (DecidableEq ByteArray)
 |.sl t=>@instDecidableEqList t.aU (Ty.fe t)
 |.arr _ t=>@instDecidableEqList t.aU (Ty.fe t)
 |.st f=>Ty.rL f
def Ty.rL:(f:yL Ty)->DecidableEq (Ty.aO f)
 |[]=>inferInstanceAs (DecidableEq Unit)
 |[t]=>Ty.fe t
 |t::u::r=>@instDecidableEqProd t.aU (Ty.aO (u::r)) (Ty.fe t) (Ty.rL (u::r))
end
mutual
def mC(P:yg):Nat->yc->Ty->Bool
 |0,_,_=>af
 |n+1,t,T=>match P.underlying t,T with
  |some .bool,.bool=>ae
  |some (.int .u8),.u8=>ae
  |some (.int .u32),.u32=>ae
  |some (.int .u64),.u64=>ae
  |some (.int k),.int l=>ag (k=l)
  |some (.array m e),.arr f U=>ag (f=m)&&(ag (P.cellsOf e=U.size)&&(ag (U.size≠0)&&((P.info? e).isSome&&((P.underlying e).isSome&&(ag (XB P e=U.isAgg)&&mC P n e U)))))
  |some (.struct g),.st Ts=>ag (P.stoodInHeld t=af)&&fG P n g.toList 0 Ts
  |_,_=>af
def fG(P:yg):Nat->yL Field->Nat->yL Ty->Bool
 |0,_,_,_=>af
 |_+1,[],_,[]=>ae
 |n+1,f::g,o,T::Ts=>ag (f.name≠ "_")&&(ag (f.offset=o)&&(ag (P.cellsOf f.type=T.size)&&((P.info? f.type).isSome&&((P.underlying f.type).isSome&&(ag (XB P f.type=T.isAgg)&&(ag (T.size≠0)&&(mC P n f.type T&&fG P n g (o+T.size) Ts)))))))
 |_+1,_,_,_=>af
end
mutual
theorem rM:∀(n:Nat)(t:yc)(T:Ty),mC P n t T=ae->∀(x:T.aU),bv P n t (T.enc x)
 |0,_,_,h,_=>by simp[mC]at h
 |n+1,t,T,h,x=>by
  simp only[mC]at h;unfold bv;split at h
  .rename_i f;rw[f];trivial
  .rename_i f;rw[f];exact rfl
  .rename_i f;rw[f];exact rfl
  .rename_i f;rw[f];exact rfl
  .rename_i f;rw[f];simp only[yP]at h;exact h.symm
  .rename_i m e M U f;simp only[yi,yP]at h;obtain⟨g,j,l,A,E,F,G⟩:=h;rw[f];refine⟨g,j,l,A,E,λy I=> ?_⟩;obtain⟨z,_,rfl⟩:=List.mem_map.1 I;exact⟨rM n e U G z,pn U z,by rw[vT];exact F⟩
  .rename_i J Ts f;simp only[yi,yP]at h;rw[f];exact⟨h.1,vD (λt x k=>k) _ _ _ (gJ n J.toList 0 Ts h.2 x)⟩
  .cases h
theorem gJ:∀(n:Nat)(g:yL Field)(o:Nat)(Ts:yL Ty),fG P n g o Ts=ae->∀(x:Ty.aO Ts),iJ P (bv P n) g o (Ty.encs Ts x)
 |0,_,_,_,h,_=>by simp[fG]at h
 |n+1,[],_,[],_,_=>trivial
 |n+1,[],_,_::_,h,_=>by simp[fG]at h
 |n+1,_::_,_,[],h,_=>by simp[fG]at h
 |n+1,f::g,o,T::Ts,h,x=>by
  simp only[fG,yi,yP]at h;obtain⟨l,m,y,z,A,E,F,G,I⟩:=h
  have j:∃(a:T.aU)(b:Ty.aO Ts),Ty.encs (T::Ts) x=T.enc a::Ty.encs Ts b:=by
   cases Ts with
   |nil=>exact⟨x,(),rfl⟩
   |cons U r=>exact⟨x.1,x.2,rfl⟩
  obtain⟨a,b,e⟩:=j;rw[e];refine⟨l,m,by rw[pn];exact y,z,A,by rw[vT];exact E,by rw[pn];exact F,vE (rM n f.type T G a), ?_⟩;rw[pn];exact vD (λt x k=>vE k) _ _ _ (gJ n g _ Ts I b)
end
end
end Go.Ev
end
section
namespace Go.Ev
section
variable{L:Lk}{P:yg}{o:yj}{ts:yL TD}{O:Type}
def EG(r:nj):yO Bool:=
 match r with
 |some ([],.p (.bool b),[])=>ab b
 |_=>ad
theorem ZuF{t:yc}{x y:Dv}{b:Bool}(h:jd P t x y []=ab ([],b,[]))(yK:yL ao):jd P t x y yK=ab ([],b,yK):=by
 unfold jd at h ⊢
 split at h <;> first
  |(simp only[yn,yq,and_true,true_and]at h;subst h;rfl)
  |cases h
  |(split at h <;> first|(rename_i e;cases e)|cases h)
theorem ZDy{op:BinOp}{t:yc}{x y:Dv}{b:Bool}(h:EG (gP P op t x y [])=ab b)(yK:yL ao):gP P op t x y yK=ab ([],.p (.bool b),yK):=by
 have f:gP P op t x y []=ab ([],.p (.bool b),[]):=by
  unfold EG at h;split at h
  .rename_i e;cases h;exact e
  .cases h
 clear h;unfold gP at f ⊢;split at f
 .split at f
  .cases op <;> simp[WC]at f
  .split at f
   .rename_i k a E F _ l;simp only[l,if_true];rename_i hs;simp only[hs,if_false];cases op <;> simp only[YW,gy,yn,yq,Dv.p.injEq,Pl.bool.injEq,and_true,true_and,reduceCtorEq]at f ⊢ <;> first|exact f|skip
    all_goals first|(cases f;done)|(cases f;simp;done)|(simp[uE]at f;done)
   .cases f
 .cases op <;> simp only[yn,yq,Dv.p.injEq,Pl.bool.injEq,and_true,true_and,reduceCtorEq]at f ⊢ <;> exact f
 .rename_i G I;cases op <;> first|cases f|skip
  .obtain⟨q,j,g⟩:=Ze f;simp only[yq,Dv.p.injEq,Pl.bool.injEq]at g;obtain⟨m,z,A⟩:=q;obtain⟨rfl,rfl,rfl⟩:=g;simp only[ZuF j yK,yae]
  .obtain⟨q,j,g⟩:=Ze f;simp only[yq,Dv.p.injEq,Pl.bool.injEq]at g;obtain⟨m,z,A⟩:=q;obtain⟨rfl,rfl,rfl⟩:=g;simp only[ZuF j yK,yae]
def TD.val:TD->yO (Σ t:Ty,t.aU)
 |.p (.v t x)=>ab ⟨t,x⟩
 |_=>ad
theorem EH{x:TD}{q:Σ t:Ty,t.aU}(h:x.val=ab q):x.er L=.p (q.1.enc q.2):=by
 unfold TD.val at h;split at h
 .cases h;rfl
 .cases h
def EI(P:yg)(t:yc):Bool:=
 match P.underlying t with
 |some (.array _ _)=>ae
 |some (.struct _)=>ae
 |_=>af
def EJ(P:yg)(op:BinOp)(t:yc)(x y:TD)(K:TD->yL ao->yO O):yO O:=
 match x.val,y.val with
 |some a,ab b=>(Ty.cast b.1 a.1 b.2).bind λz=>
  if EI P t&&(a.1.isAgg&&(a.1.flat&&(mC P 20 t a.1&&ag (P.eqGuardType P.depth t=af)))) then
   match op with
   |.eql=>K (.p (.v .bool (@decide (a.2=z) (Ty.fe a.1 a.2 z)))) [.b (@decide (a.2=z) (Ty.fe a.1 a.2 z))]
   |.neq=>K (.p (.v .bool (!(@decide (a.2=z) (Ty.fe a.1 a.2 z))))) [.b (@decide (a.2=z) (Ty.fe a.1 a.2 z))]
   |_=>ad
  else ad
 |_,_=>ad
theorem rN{t:yc}{a:Σ t:Ty,t.aU}{z:a.1.aU}(h1:EI P t=ae)(h2:a.1.isAgg=ae)(h3:a.1.flat=ae)(h4:mC P 20 t a.1=ae)(h5:P.eqGuardType P.depth t=af)(yK:yL ao):
 ∃C,aX C/\jd P t (.p (a.1.enc a.2)) (.p (a.1.enc z)) (.b (@decide (a.2=z) (Ty.fe a.1 a.2 z))::yK)=ab (C,@decide (a.2=z) (Ty.fe a.1 a.2 z),yK)/\C=[bv P 20 t (a.1.enc a.2),bv P 20 t (a.1.enc z),(@decide (a.2=z) (Ty.fe a.1 a.2 z)=ae↔a.1.enc a.2=a.1.enc z)]:=by
 have f1:=rM 20 t a.1 h4 a.2;have f2:=rM 20 t a.1 h4 z
 have f3:(@decide (a.2=z) (Ty.fe a.1 a.2 z)=ae↔a.1.enc a.2=a.1.enc z):=by
  rw[@decide_eq_true_iff _ (Ty.fe a.1 a.2 z)];exact⟨λe=>by rw[e],λe=>rK a.1 _ _ h3 e⟩
 refine⟨[bv P 20 t (a.1.enc a.2),bv P 20 t (a.1.enc z),(@decide (a.2=z) (Ty.fe a.1 a.2 z)=ae↔a.1.enc a.2=a.1.enc z)],⟨f1,f2,f3,aw⟩, ?_,rfl⟩;generalize @decide (a.2=z) (Ty.fe a.1 a.2 z)=β at f3;generalize a.1.enc a.2=p at f1 f3 ⊢;generalize a.1.enc z=q at f2 f3 ⊢;clear f3;unfold EI at h1;unfold bv at f1 f2;unfold jd;split at h1
 .rename_i m e f;rw[f]at f1 f2 ⊢;cases p <;> first|exact f1.elim|skip
  cases q <;> first|exact f2.elim|skip
  dsimp only;rw[yW h5]
 .rename_i m f;rw[f]at f1 f2 ⊢;cases p <;> first|exact f1.elim|skip
  cases q <;> first|exact f2.elim|skip
  dsimp only;rw[yW h5]
 .cases h1
theorem ZuG{t:yc}{x y:Pl}(f:x.isAgg=ae)(op:BinOp)(hs:yL ao)(h:op=.eql\/op=.neq):gP P op t (.p x) (.p y) hs=(jd P t (.p x) (.p y) hs).map λr=>(r.1,.p (.bool (if op=.eql then r.2.1 else !r.2.1)),r.2.2):=by
 cases x <;> first|cases f|skip
 all_goals (unfold gP;rcases h with rfl|rfl <;> rfl)
theorem ZFy{op:BinOp}{t:yc}{x y:TD}{K:TD->yL ao->yO O}{out:O}(h:EJ P op t x y K=ab out):∃d hs C,K d hs=ab out/\aX C/\∀yK,gP P op t (x.er L) (y.er L) (hs++yK)=ab (C,d.er L,yK):=by
 unfold EJ at h;split at h
 .rename_i a b F M;obtain⟨z,Q,h⟩:=yf.1 h;obtain⟨G,h⟩:=Za h;simp only[yi,yP]at G;obtain⟨g,f,j,l,m⟩:=G
  have I:y.er L=.p (a.1.enc z):=by
   obtain⟨e,rfl⟩:=VQ Q;rw[EH M];cases a;cases b;cases e;rfl
  have J:(a.1.enc a.2).isAgg=ae:=by rw[vT];exact f
  split at h
  .obtain⟨C,A,E,_⟩:=rN (P:=P) (z:=z) g f j l m [];refine⟨_,_,[bv P 20 t (a.1.enc a.2),bv P 20 t (a.1.enc z),(@decide (a.2=z) (Ty.fe a.1 a.2 z)=ae↔a.1.enc a.2=a.1.enc z)],h, ?_,λyK=> ?_⟩
   .obtain⟨C,A,_,rfl⟩:=rN (P:=P) (z:=z) g f j l m [];exact A
   .obtain⟨C,_,E,rfl⟩:=rN (P:=P) (z:=z) g f j l m yK;rw[EH F,I,ZuG J _ _ (.inl rfl),yag,yz,E];rfl
  .refine⟨_,_,[bv P 20 t (a.1.enc a.2),bv P 20 t (a.1.enc z),(@decide (a.2=z) (Ty.fe a.1 a.2 z)=ae↔a.1.enc a.2=a.1.enc z)],h, ?_,λyK=> ?_⟩
   .obtain⟨C,A,_,rfl⟩:=rN (P:=P) (z:=z) g f j l m [];exact A
   .obtain⟨C,_,E,rfl⟩:=rN (P:=P) (z:=z) g f j l m yK;rw[EH F,I,ZuG J _ _ (.inr rfl),yag,yz,E];rfl
  .cases h
 .cases h
def EK(L:Lk)(x y:TD):yO Bool:=
 match y with
 |.p (.sl (ab af) _ [])=>match x.row L with
  |some ⟨ad,_,l⟩=>ab l.isEmpty
  |_=>ad
 |_=>ad
theorem ZIz{x y:TD}{b:Bool}(h:EK L x y=ab b):∃s xs f,(x.er L=.p (.sl ad s xs)\/∃id,x.er L=.own id ad s xs)/\y.er L=.p (.sl (ab af) f [])/\xs.isEmpty=b:=by
 unfold EK at h;split at h
 .split at h
  .rename_i T q t l g;cases h;refine⟨t.size,l.map t.enc,T.size, ?_,rfl,by cases l <;> rfl⟩;rcases mB g with h|⟨id,h⟩
   .exact .inl h
   .exact .inr ⟨id,h⟩
  .cases h
 .cases h
def ZMo(P:yg)(op:BinOp)(t:yc)(b:Bool)(K:TD->yL ao->yO O):yO O:=
 match P.underlying t with
 |some (.slice _)=>if b=ae then ad else match op with
  |.eql=>K (.p (.v .bool af)) [.bare]
  |.neq=>K (.p (.v .bool ae)) [.bare]
  |_=>ad
 |_=>ad
def EL(L:Lk)(P:yg)(op:BinOp)(t:yc)(x y:TD)(K:TD->yL ao->yO O):yO O:=
 match x.num,y.num with
 |some a,ab b=>if BC op then(EF op a b).bind λz=>if EE b=ae then K (.p z) [.raw] else ad else ED op a b K
 |_,_=>match EG (gP P op t (x.er L) (y.er L) []) with
  |some b=>K (.p (.v .bool b)) []
  |none=>match EK L x y with
   |some b=>ZMo P op t b K
   |none=>EJ P op t x y K
theorem ZDz{op:BinOp}{t:yc}{x y:TD}{K:TD->yL ao->yO O}{out:O}(h:EL L P op t x y K=ab out):∃d hs C,K d hs=ab out/\aX C/\∀yK,gP P op t (x.er L) (y.er L) (hs++yK)=ab (C,d.er L,yK):=by
 unfold EL at h;split at h
 .rename_i a b I l;rw[Q1 I,Q1 l];split at h
  .rename_i g;obtain⟨z,f,h⟩:=yf.1 h;obtain⟨j,h⟩:=Za h;refine⟨_,_,[0<=b.n],h,⟨ZAt j,aw⟩,λyK=> ?_⟩;unfold gP;dsimp only;rw[yW g];exact ZKV f yK
  .rename_i g;obtain⟨J,d,hs,C,f,j,A⟩:=Zye h;refine⟨d,hs,C,f,j,λyK=> ?_⟩;unfold gP;dsimp only;rw[yX g,yW J];exact A yK
 .split at h
  .rename_i b l;exact⟨_,_,[],h,zP,ZDy l⟩
  .split at h
   .rename_i b l;obtain⟨s,E,M,f,j,A⟩:=ZIz l;unfold ZMo at h;split at h
    .rename_i e G;split at h
     .cases h
     .rename_i F;have m:E≠[]:=by rintro rfl;exact F (by rw[<-A];rfl)
      split at h
      .refine⟨_,_,[E≠[]],h,⟨m,aw⟩,λyK=> ?_⟩;unfold gP;rcases f with f|⟨id,f⟩ <;> (rw[f,j];dsimp only;unfold jd;rw[G];rfl)
      .refine⟨_,_,[E≠[]],h,⟨m,aw⟩,λyK=> ?_⟩;unfold gP;rcases f with f|⟨id,f⟩ <;> (rw[f,j];dsimp only;unfold jd;rw[G];rfl)
      .cases h
    .cases h
   .exact ZFy h
def EM(k:IntKind):Num->yO TP
 |.u8 b=>match k with
  |.u8=>ab (.v .u8 b)
  |.u32=>ab (.v .u32 (UInt32.ofNat b.toNat))
  |.u64=>ab (.v .u64 (UInt64.ofNat b.toNat))
  |.i64=>ab (.v (.int .i64) (b.toNat:Int))
  |_=>ad
 |.u32 b=>match k with
  |.u32=>ab (.v .u32 b)
  |.u64=>ab (.v .u64 (UInt64.ofNat b.toNat))
  |.i64=>ab (.v (.int .i64) (b.toNat:Int))
  |_=>ad
 |.u64 b=>match k with
  |.u64=>ab (.v .u64 b)
  |_=>ad
 |.i _ _=>ad
theorem ZAu{k:IntKind}{a:Num}{z:TP}(h:EM k a=ab z):Wn k a.n/\z.pe=.int k a.n:=by
 unfold EM at h;split at h
 .rename_i b;have:=b.toNat_lt;split at h <;> first|cases h|skip
  all_goals
   refine⟨?_, ?_⟩
   .simp only[Wn,IntKind.min,IntKind.max,IntKind.signed,IntKind.bits,Num.n];constructor <;> simp<;> omega
   .simp only[TP.pe,Ty.enc,Num.n,UInt32.toNat_ofNat',UInt64.toNat_ofNat']
    try (congr 2;omega)
 .rename_i b;have:=b.toNat_lt;split at h <;> first|cases h|skip
  all_goals
   refine⟨?_, ?_⟩
   .simp only[Wn,IntKind.min,IntKind.max,IntKind.signed,IntKind.bits,Num.n];constructor <;> simp<;> omega
   .simp only[TP.pe,Ty.enc,Num.n,UInt32.toNat_ofNat',UInt64.toNat_ofNat']
    try (congr 2;omega)
 .rename_i b;have:=b.toNat_lt;split at h <;> first|cases h|skip
  refine⟨?_,rfl⟩;simp only[Wn,IntKind.min,IntKind.max,IntKind.signed,IntKind.bits,Num.n];constructor <;> simp<;> omega
 .cases h
def bytesOf(l:yL yB):ByteArray:=⟨l.toArray⟩
theorem Zyg(l:yL yB):l.map (Ty.enc .u8)=(bytesOf l).data.toList.map λx=>.int .u8 (x.toNat:Int):=rfl
def ZMp(P:yg)(e:yc)(K:TD->yL ao->yO O)(r:Row):yO O:=
 (Ty.bw r.t .u8 r.l).bind λl=>match P.underlying e with
   |some (.int .u8)=>K (.p (.v .str (bytesOf l))) [.el (.str (bytesOf l))]
   |_=>ad
def EN:TD->yO ByteArray
 |.p (.v t s)=>match t with
  |.str=>ab s
  |_=>ad
 |_=>ad
theorem ZIA{L:Lk}{x:TD}{b:ByteArray}(h:EN x=ab b):x.er L=.p (.str b):=by
 unfold EN at h;split at h
 .split at h
  .cases h;rfl
  .cases h
 .cases h
def EO(L:Lk)(P:yg)(src dst:yc)(K:TD->yL ao->yO O)(x:TD):yO O:=
 match P.underlying src,P.underlying dst with
 |some _,ab (.int k)=>x.num.bind λa=>match EM k a with
  |some z=>K (.p z) [.bare]
  |none=>K (.p (vM k a.n)) [.raw]
 |some (.slice e),ab .string=>(x.row L).bind (ZMp P e K)
 |some .string,ab (.slice e)=>(EN x).bind λb=>match P.underlying e with
  |some (.int .u8)=>if ag (b.size<=maxLen)=ae then K (.p (.sl (ab ae) .u8 b.data.toList)) [] else ad
  |_=>ad
 |_,_=>ad
theorem ZAv{src dst:yc}{x:yp}{K:TD->yL ao->yO O}{I:TD}{out:O}(ho:o.op=.convert src dst x)(M:bq P ts src x=ab I)(h:EO L P src dst K I=ab out):∃d hs,K d hs=ab out/\dB L P o ts d hs:=by
 have j:=Zu (L:=L) M;unfold EO at h;split at h
 .rename_i q k f g;obtain⟨a,y,h⟩:=yf.1 h;rw[Q1 y]at j;split at h
  .rename_i z Q;obtain⟨R,S⟩:=ZAu Q;refine⟨_,_,h,[Wn k a.n],⟨R,aw⟩,λE=> ?_⟩;unfold bj;rw[ho];dsimp only;rw[f,g,j,TD.er,S];rfl
  .refine⟨_,_,h,[],zP,λE=> ?_⟩;unfold bj;rw[ho];dsimp only;rw[f,g,j,TD.er,ZBU];rfl
 .rename_i e f g;obtain⟨r,y,h⟩:=yf.1 h;unfold ZMp at h;obtain⟨l,m,F⟩:=yf.1 h;split at F
  .rename_i A;obtain⟨T,rt,U⟩:=r;obtain⟨J,m⟩:=ZI m;dsimp only at J m;subst J;subst m;refine⟨_,_,F,[l.map (Ty.enc .u8)=(bytesOf l).data.toList.map λx=>.int .u8 (x.toNat:Int)],⟨Zyg l,aw⟩,λE=> ?_⟩;unfold bj;rw[ho];dsimp only;rcases mB y with G|⟨id,G⟩
   .rw[f,g,j,G];dsimp only;rw[yag,yz,A];dsimp only;rw[yW (show Ty.u8.size=1 from rfl)]
    rfl
   .rw[f,g,j,G];dsimp only;rw[yag,yz,A];dsimp only;rw[yW (show Ty.u8.size=1 from rfl)]
    rfl
  .cases F
 .rename_i e f g;obtain⟨b,y,h⟩:=yf.1 h;split at h
  .rename_i A;obtain⟨m,h⟩:=Za h;refine⟨_,_,h,[b.size<=maxLen],⟨yF m,aw⟩,λE=> ?_⟩;unfold bj;rw[ho];dsimp only;rw[f,g,j,ZIA y];dsimp only;rw[A];rfl
  .cases h
 .cases h
def rO(P:yg)(ts:yL TD)(f:Nat->yc):yL (Nat×yp)->yO (yL (Nat×TD))
 |[]=>ab []
 |q::r=>match bq P ts (f q.1) q.2,rO P ts f r with
  |some d,ab l=>ab ((q.1,d)::l)
  |_,_=>ad
theorem vY{f:Nat->yc}:∀{parts:yL (Nat×yp)}{l:yL (Nat×TD)},rO P ts f parts=ab l->gZ P (TD.aG L ts) f parts=l.map λq=>(q.1,q.2.er L)
 |[],l,h=>by cases h;rfl
 |q::r,l,h=>by
  simp only[rO]at h;split at h
  .rename_i d m g j;cases h;have:=vY j;simp only[gZ,yah]at this ⊢;rw[this,Zu g]
  .cases h
def rP(L:Lk):yL TD->yL (Nat×TD)->yO (yL TD)
 |f,[]=>ab f
 |f,(i,d)::r=>match f[i]? with
  |some g=>if(g.er L).size=(d.er L).size then rP L (f.set i d) r else ad
  |none=>ad
theorem EP:∀{l:yL (Nat×TD)}{f es:yL TD},rP L f l=ab es->iK (TD.aG L f) (l.map λq=>(q.1,q.2.er L))=ab (TD.aG L es)
 |[],f,es,h=>by cases h;rfl
 |(i,d)::r,f,es,h=>by
  simp only[rP]at h;split at h
  .rename_i g j;split at h
   .rename_i m;have:=EP h;simp only[yah,iK,uF];rw[lx j];dsimp only;rw[yW m];rw[show(TD.aG L f).set i (d.er L)=TD.aG L (f.set i d) by rw[ZO,ZO,ybn]];exact this
   .cases h
  .cases h
def rQ(P:yg):yL yc->yL Pl->yO (yL TP)
 |[],[]=>ab []
 |t::r,z::q=>match vP P t z,rQ P r q with
  |some a,ab b=>ab (a::b)
  |_,_=>ad
 |_,_=>ad
theorem EQ:∀{l:yL yc}{zs:yL Pl}{r:yL TP},rQ P l zs=ab r->TP.cl r=zs
 |[],[],r,h=>by cases h;rfl
 |[],_::_,r,h=>by cases h
 |_::_,[],r,h=>by cases h
 |t::l,z::zs,r,h=>by
  simp only[rQ]at h;split at h
  .rename_i a b f g;cases h;rw[TP.cl,DI f,EQ g]
  .cases h
def mD(L:Lk):yL TD->yO (yL TP)
 |[]=>ab []
 |d::r=>match d.plain L,mD L r with
  |some a,ab b=>ab (a::b)
  |_,_=>ad
theorem Zrz{x:TD}(h:x.plain L=ad):(x.er L).plain=ad:=by
 cases x <;> first|rfl|cases h
theorem ER:∀(f:yL TD),jz (TD.aG L f)=(mD L f).map TP.cl
 |[]=>rfl
 |d::r=>by
  simp only[TD.aG,jz,mD];rw[ER r]
  cases h:d.plain L with
  |none=>rw[Zrz h];cases mD L r <;> rfl
  |some a=>
   rw[ZuE h];cases mD L r <;> rfl
def ES(L:Lk)(P:yg)(t:yc)(f:yL TD):TD:=
 match mD L f with
 |some l=>.p (vN P t l)
 |none=>.agg f
theorem ZDA(t:yc)(f:yL TD):(ES L P t f).er L=qC (TD.aG L f):=by
 unfold ES qC;rw[ER]
 cases mD L f with
 |none=>rfl
 |some l=>simp only[TD.er,ZBV,yae]
theorem ET(l:yL TP):TD.aG L (l.map .p)=(TP.cl l).map .p:=by
 rw[ZO,W0,ybd,ybd];rfl
def EU(L:Lk)(P:yg)(ts:yL TD)(t:yc)(parts:yL (Nat×yp))(K:TD->yL ao->yO O):yO O:=
 match P.underlying t,bg P t with
 |some (.struct h),.p (.agg zs)=>(rQ P (h.toList.map (·.type)) zs).bind λj=>(rO P ts (jA P t) parts).bind λf=>
  if(mb (f.map λq=>(q.1,q.2.er L))&&h.size==zs.length&&(yo zs.length).all λi=>kv P h i (Pl.sizes (zs.take i)) ((zs.getD i default).size) ((zs.getD i default).isAgg))=ae then
   (rP L (j.map .p) f).bind λg=>K (ES L P t g) [] else ad
 |some (.array _ e),.p (.arr n s zs)=>(rQ P (yx zs.length e) zs).bind λj=>(rO P ts (jA P t) parts).bind λf=>
  if(mb (f.map λq=>(q.1,q.2.er L))&&P.cellsOf e=s&&(P.info? e).isSome)=ae then
   (rP L (j.map .p) f).bind λg=>match mD L g with
     |some l=>K (.p (vO P t n s l)) []
     |none=>K (.arr n s g) [] else ad
 |_,_=>ad
theorem Zyh{t:yc}{parts:Array (Nat×yp)}{K:TD->yL ao->yO O}{out:O}(ho:o.op=.build t parts)(h:EU L P ts t parts.toList K=ab out):∃d hs,K d hs=ab out/\dB L P o ts d hs:=by
 unfold EU at h;split at h
 .rename_i Q zs f g;obtain⟨J,z,h⟩:=yf.1 h;obtain⟨M,j,h⟩:=yf.1 h;obtain⟨y,h⟩:=Za h;obtain⟨F,A,h⟩:=yf.1 h;refine⟨_,_,h,[],zP,λG=> ?_⟩;simp only[yz];unfold bj;rw[ho];dsimp only;rw[f,g];dsimp only;rw[vY j,yW y];have:=EP A;rw[ET,EQ z]at this;rw[this,ZDA];rfl
 .rename_i m e n s zs f g;obtain⟨J,z,h⟩:=yf.1 h;obtain⟨M,j,h⟩:=yf.1 h;obtain⟨y,h⟩:=Za h;obtain⟨F,A,h⟩:=yf.1 h;have:=EP A;rw[ET,EQ z]at this;have I:=ER (L:=L) F;split at h
  .rename_i l E;refine⟨_,_,h,[],zP,λG=> ?_⟩;simp only[yz];unfold bj;rw[ho];dsimp only;rw[f,g];dsimp only;rw[vY j,yW y,this,ya,I,E,TD.er,ZBW];rfl
  .rename_i E;refine⟨_,_,h,[],zP,λG=> ?_⟩;simp only[yz];unfold bj;rw[ho];dsimp only;rw[f,g];dsimp only;rw[vY j,yW y,this,ya,I,E];rfl
 .cases h
def vZ(L:Lk)(P:yg)(ts:yL TD)(e:yc)(T:Ty):yL (Nat×yp)->yO (yL T.aU)
 |[]=>ab []
 |q::r=>match (bq P ts e q.2).bind (TD.flat L) with
  |some x=>if x.pe.size=P.cellsOf e then kH (TP.to jL x T) (vZ L P ts e T r) |>.map λp=>p.1::p.2 else ad
  |none=>ad
theorem ZB1{e:yc}{T:Ty}:∀{parts:yL (Nat×yp)}{l:yL T.aU},vZ L P ts e T parts=ab l->
 ∃xs,Dv.aS (parts.map λq=>aF P (TD.aG L ts) e q.2)=ab xs/\xs.all (λx=>x.size==P.cellsOf e)=ae/\xs.map Pl.soft=l.map T.enc
 |[],l,h=>by cases h;exact⟨[],rfl,rfl,rfl⟩
 |q::r,l,h=>by
  simp only[vZ]at h;split at h
  .rename_i x f;obtain⟨d,g,j⟩:=yf.1 f;split at h
   .rename_i hs;obtain⟨p,m,rfl⟩:=Ze h;obtain⟨y,z⟩:=po m;obtain⟨xs,A,E,F⟩:=ZB1 z;refine⟨x.pe::xs, ?_, ?_, ?_⟩
    .simp only[yah,Dv.aS];rw[Zu g,DJ j,A]
    .simp only[List.all_cons,yi,yT];exact⟨hs,E⟩
    .rw[yah,nQ x T _ y,F,yah]
   .cases h
  .cases h
def pr(L:Lk)(P:yg)(ts:yL TD)(t:yc)(len:Nat)(parts:yL (Nat×yp))(K:(T:Ty)->yL T.aU->yc->yO O):yO O:=
 match P.underlying t with
 |some (.slice e)=>(gH P iu e).bind λT=>(P.info? e).bind λi=>(vZ L P ts e T parts).bind λl=>
  if(parts.map (·.1)==yo len)&&(cu i&&i.size !=0&&ag (len*i.size<=16777216))&&(ag (i.size=T.size)&&ag (P.cellsOf e=i.size)) then K T l e else ad
 |_=>ad
theorem wc{t:yc}{len:Nat}{parts:yL (Nat×yp)}{K:(T:Ty)->yL T.aU->yc->yO O}{out:O}(h:pr L P ts t len parts K=ab out):
 ∃e T l i xs,K T l e=ab out/\P.underlying t=ab (.slice e)/\P.info? e=ab i/\XI P (TD.aG L ts) e (P.cellsOf e) len parts=ab xs/\(cu i&&i.size !=0&&ag (len*i.size<=16777216))=ae/\i.size=T.size/\xs.map Pl.soft=l.map T.enc:=by
 unfold pr at h;split at h
 .rename_i e g;obtain⟨T,E,h⟩:=yf.1 h;obtain⟨i,j,h⟩:=yf.1 h;obtain⟨l,m,h⟩:=yf.1 h;obtain⟨f,h⟩:=Za h;simp only[yi,yP]at f;obtain⟨xs,y,z,A⟩:=ZB1 m;refine⟨e,T,l,i,xs,h,g,j, ?_, ?_,f.2.1,A⟩
  .unfold XI;rw[yW f.1.1,y];dsimp only;rw[yW z]
  .simp only[yi,yP];exact f.1.2
 .cases h
def EV(L:Lk)(P:yg)(t:yc)(K:TD->yL ao->yO O)(x:TD):yO O:=
 match P.underlying t with
 |some (.slice _)=>match x with
  |.view _ _ _ _ n=>K (.p (.v (.int .i64) (n:Int))) []
  |.rv _ _ _ _ n=>K (.p (.v (.int .i64) (n:Int))) []
  |x=>(x.row L).bind λr=>K (.p (.v (.int .i64) (r.l.length:Int))) []
 |some (.array n _)=>K (.p (.v (.int .i64) (n:Int))) []
 |some .string=>match x with
  |.p x=>x.lA.bind λs=>K (.p (.v (.int .i64) (s.size:Int))) []
  |_=>ad
 |_=>ad
theorem ZDC{t:yc}{x:yp}{c:Call}{K:TD->yL ao->yO O}{y:TD}{out:O}(ho:o.op=.call c)(hc:c.callee=.builtin .len)(ha:c.args.toList=[x])(ht:c.argTypes.toList=[t])
 (z:bq P ts t x=ab y) (h:EV L P t K y=ab out):∃d hs,K d hs=ab out/\dB L P o ts d hs:=by
 have g:=Zu (L:=L) z;unfold EV at h;split at h
 .rename_i e f;split at h
  .refine⟨_,_,h,[],zP,λj=> ?_⟩;simp only[yz];unfold bj;rw[ho];dsimp only;rw[hc];dsimp only;rw[ha,ht];dsimp only;rw[f,g];rfl
  .refine⟨_,_,h,[],zP,λj=> ?_⟩;simp only[yz];unfold bj;rw[ho];dsimp only;rw[hc];dsimp only;rw[ha,ht];dsimp only;rw[f,g];rfl
  .obtain⟨r,l,h⟩:=yf.1 h;refine⟨_,_,h,[],zP,λj=> ?_⟩;simp only[yz];unfold bj;rw[ho];dsimp only;rw[hc];dsimp only;rw[ha,ht];dsimp only;rcases mB l with m|⟨id,m⟩
   .rw[f,g,m];dsimp only;rw[yad];rfl
   .rw[f,g,m];dsimp only;rw[yad];rfl
 .rename_i n e f;refine⟨_,_,h,[],zP,λj=> ?_⟩;simp only[yz];unfold bj;rw[ho];dsimp only;rw[hc];dsimp only;rw[ha,ht];dsimp only;rw[f];rfl
 .rename_i f;split at h
  .obtain⟨s,l,h⟩:=yf.1 h;refine⟨_,_,h,[],zP,λj=> ?_⟩;simp only[yz];unfold bj;rw[ho];dsimp only;rw[hc];dsimp only;rw[ha,ht];dsimp only;rw[f,g,TD.er,ZBZ l];rfl
  .cases h
 .cases h
def mE(L:Lk)(P:yg)(T:Ty)(u:yc)(x:TD):yO (yL T.aU):=
 match P.underlying u with
 |some (.slice _)=>(x.row L).bind λr=>Ty.bw r.t T r.l
 |some .string=>match x,T with
  |.p (.v .str s),.u8=>ab (gn s)
  |_,_=>ad
 |_=>ad
theorem pu{T:Ty}{u:yc}{x:TD}{l:yL T.aU}(h:mE L P T u x=ab l):hP P T.size u (x.er L)=ab (l.map T.enc):=by
 unfold mE at h;split at h
 .rename_i e f;obtain⟨r,j,h⟩:=yf.1 h;obtain⟨e,m⟩:=ZI h;obtain⟨y,t,z⟩:=r;dsimp only at e m j;subst e;subst m;unfold hP;rcases mB j with g|⟨id,g⟩
  .rw[f,g];dsimp only;rw[yW (.inl rfl)]
  .rw[f,g];dsimp only;rw[yW rfl]
 .rename_i f;split at h
  .rename_i s;cases h;unfold hP;rw[f];rfl
  .cases h
 .cases h
def TD.boolT:TD->yO Bool
 |.p x=>x.iv
 |_=>ad
theorem px{x:TD}{b:Bool}(h:x.boolT=ab b):x.er L=.p (.bool b):=by
 unfold TD.boolT at h;split at h
 .rw[TD.er,ZFm h]
 .cases h
def TD.inner:TD->yO TP
 |.p x=>ab x
 |_=>ad
theorem Xb{x:TD}{y:TP}(h:x.inner=ab y):x=.p y:=by
 unfold TD.inner at h;split at h
 .cases h;rfl
 .cases h
def EW(L:Lk)(P:yg)(t:yc)(i:Int)(K:TD->yL ao->yO O)(a:TD):yO O:=
 match a with
 |.arr f s g=>match P.underlying t with
  |some (.array n e)=>(g[i.toNat]?).bind λd=>if ag (0<=i)&&ag (n=f)&&okB P e s&&(XB P e==(d.er L).isAgg)&&((P.underlying e).isSome&&s !=0) then K d [] else ad
  |_=>ad
 |a=>a.inner.bind (DN P t i K)
theorem Zyj{t:yc}{x ix:yp}{K:TD->yL ao->yO O}{g:TD}{q:IntKind×Int}{j:TP}{out:O}(ho:o.op=.index t x ix)(f:bq P ts t x=ab g)(hi:bq P ts 0 ix=ab (.p j))(hq:jl j=ab q)
 (h:EW L P t q.2 K g=ab out):∃d hs,K d hs=ab out/\dB L P o ts d hs:=by
 unfold EW at h;split at h
 .rename_i S s T;split at h
  .rename_i n e y;obtain⟨d,z,h⟩:=yf.1 h;obtain⟨l,h⟩:=Za h;have A:=Zu (L:=L) f;have m:=Zu (L:=L) hi;rw[TD.er,(pp hq).1]at m;simp only[okB,yi,yP]at l;obtain⟨⟨⟨⟨E,F⟩,G,I⟩,J⟩,M,Q⟩:=l;refine⟨d,[],h,[0<=q.2],⟨E,aw⟩,λU=> ?_⟩;unfold bj;rw[ho];dsimp only;rw[y,A,m,TD.er];dsimp only;rw[lx z];dsimp only;rw[yW (by simp only[yi,yP];exact⟨⟨⟨⟨⟨F,G⟩,J⟩,M⟩,I⟩,Q⟩)];rfl
  .cases h
 .obtain⟨W,R,h⟩:=yf.1 h;rw[Xb R]at f;exact Zyc ho f hi hq h
def rR(P:yg)(ts:yL TD):yL yp->yO (yL TD)
 |[]=>ab []
 |x::r=>match bq P ts 0 x,rR P ts r with
  |some a,ab b=>ab (a::b)
  |_,_=>ad
theorem EX:∀{l:yL yp}{f:yL TD},rR P ts l=ab f->l.map (aF P (TD.aG L ts) 0)=TD.aG L f
 |[],f,h=>by cases h;rfl
 |x::l,f,h=>by
  simp only[rR]at h;split at h
  .rename_i a b g j;cases h;rw[yah,Zu g,EX j];rfl
  .cases h
def ZJ5(P:yg)(t:yc)(K:TD->yL ao->yO O):TD->yO O
 |.elem x=>if ag (P.cellsOf t=x.pe.size)&&(XB P t==x.pe.isAgg&&((P.underlying t).isSome&&(P.info? t).isSome)) then K (.p x) [] else ad
 |_=>ad
def ZJ6(L:Lk)(P:yg)(ts:yL TD)(t u:yc)(x y:yp)(K:TD->yL ao->yO O):yO O:=
 match P.underlying t,bq P ts t x with
 |some (.slice e),ab (.p (.sl (ab af) _ []))=>(P.info? e).bind λi=>(gH P iu e).bind λT=>(bq P ts u y).bind λf=>(mE L P T u f).bind λl=>
  if(cu i&&i.size !=0)&&(ag (P.cellsOf e=T.size)&&ag (i.size=T.size)) then if nT l.length i.bytes=ae then K (.p (.sl ad T l)) [.iH] else ad else ad
 |_,_=>ad
def EY(P:yg)(t:yc)(l h m:yO Int)(K:TD->yL ao->yO O):TD->yO O
 |.rv _ _ _ _ n=>match P.underlying t with
  |some (.slice e)=>l.bind λl=>h.bind λh=>m.bind λm=>if(P.info? e).isSome=ae then if(ag (0<=l)&&ag (l<=h)&&ag (h<=m)&&ag (m<=(n:Int)))=ae then K .an [] else ad else ad
  |_=>ad
 |_=>ad
theorem Zv0{t:yc}{x j:yp}{lo hi:yO yp}{l y m:yO Int}{K:TD->yL ao->yO O}{z:TD}{out:O}(ho:o.op=.slice t x lo hi (ab j))(G:bq P ts t x=ab z)(hl:fw P ts lo=ab l)(g:fw P ts hi=ab y)(hm:fw P ts (ab j)=ab m)
 (h:EY P t l y m K z=ab out):∃d hs,K d hs=ab out/\dB L P o ts d hs:=by
 have I:=Zu (L:=L) G;have hl:=Q0 (L:=L) hl;have g:=Q0 (L:=L) g;have hm:=Q0 (L:=L) hm;unfold EY at h;split at h
 .rename_i id v s T n;split at h
  .rename_i e J;obtain⟨A,M,h⟩:=yf.1 h;obtain⟨E,Q,h⟩:=yf.1 h;obtain⟨F,R,h⟩:=yf.1 h;subst M;subst Q;subst R;obtain⟨S,h⟩:=Za h;obtain⟨f,h⟩:=Za h;simp only[yi,yP]at f;refine⟨_,_,h,[0<=A,A<=E,E<=F,F<=(n:Int)],⟨f.1.1.1,f.1.1.2,f.1.2,f.2,aw⟩,λU=> ?_⟩;simp only[yz];unfold bj;rw[ho];dsimp only;rw[J,I,hl,g,hm];dsimp only[TD.er];rw[yW S]
  .cases h
 .cases h
def EZ(P:yg)(t:yc)(K:TD->yL ao->yO O)(r:Row):yO O:=
 match P.underlying t with
 |some (.array n e)=>if(n !=0)=ae then if ag (n<=r.l.length)=ae then K (.elem (.v (.arr n r.t) (r.l.take n))) [] else ad else ad
 |_=>ad
theorem Zv2{t:yc}{x:yp}{K:TD->yL ao->yO O}{j:TD}{r:Row}{out:O}(ho:o.op=.sliceToArrayPointer t x)(A:bq P ts 0 x=ab j)(E:j.row L=ab r)
 (h:EZ P t K r=ab out):∃d hs,K d hs=ab out/\dB L P o ts d hs:=by
 have m:=Zu (L:=L) A;unfold EZ at h;split at h
 .rename_i n e y;obtain⟨z,h⟩:=Za h;obtain⟨f,h⟩:=Za h;have f:=yF f;refine⟨_,_,h,[n<=(r.l.map r.t.enc).length],⟨by rw[yad];exact f,aw⟩,λF=> ?_⟩;simp only[yz];unfold bj;rw[ho];dsimp only;rcases mB E with g|⟨id,g⟩
  .rw[y,m,g];dsimp only;rw[yW z, <-List.map_take];rfl
  .rw[y,m,g];dsimp only;rw[yW z, <-List.map_take];rfl
 .cases h
abbrev _root_.aMP:=yL yB
def FA(L:Lk)(x:TD):yO aMP:=(x.row L).bind λr=>Ty.bw r.t .u8 r.l
def ZMq(L:Lk)(K:TD->yL ao->yO O)(a b:TD):yO O:=(FA L a).bind λl=>(FA L b).bind λm=>K (.p (.v (.int .i64) (Go.Lib.compareBytes l m))) [.el (.str (bytesOf l)),.el (.str (bytesOf m))]
theorem ZB2{L:Lk}{x:TD}{l:yL yB}(h:FA L x=ab l):∃nn,(x.er L).cr []=.p (.sl nn 1 (hJ (bytesOf l))):=by
 obtain⟨r,m,f⟩:=yf.1 h;obtain⟨nn,rt,y⟩:=r;obtain⟨j,f⟩:=ZI f;dsimp only at j f;subst j;subst f;rcases mB m with g|⟨id,g⟩
 .rw[g];exact⟨_,rfl⟩
 .rw[g];exact⟨_,rfl⟩
def FB:Num->yO TP
 |.u8 b=>ab (.v .u8 (255^^^b))
 |.u32 b=>ab (.v .u32 (4294967295^^^b))
 |.u64 b=>ab (.v .u64 (18446744073709551615^^^b))
 |.i _ _=>ad
theorem ZIC{a:Num}{z:TP}(h:FB a=ab z):a.k.signed=af/\z.pe=.int a.k (bits .xor a.k a.k.max a.n):=by
 unfold FB at h;split at h
 .rename_i b;cases h;exact⟨rfl,congrArg (Pl.int .u8) (ZJ4 .xor 255 b).symm⟩
 .rename_i b;cases h;exact⟨rfl,congrArg (Pl.int .u32) (ZFo .xor 4294967295 b).symm⟩
 .rename_i b;cases h;exact⟨rfl,congrArg (Pl.int .u64) (ZFt .xor 18446744073709551615 b).symm⟩
 .cases h
def FC(L:Lk)(P:yg)(o:yj)(ts:yL TD)(K:TD->yL ao->yO O):yO O:=
 match o.op with
 |.move x=>(bq P ts o.type x).bind λd=>K d [.raw]
 |.assign x=>(bq P ts o.type x).bind λd=>K d [.raw]
 |.pick c a b=>((bq P ts 0 c).bind TD.boolT).bind λt=>(bq P ts o.type a).bind λF=>(bq P ts o.type b).bind λG=>if t=ae then K F [.b ae] else K G [.b af]
 |.nilCheck x=>match bq P ts 0 x with
  |some (.aj id p)=>K (.aj id p) []
  |some (.elem y)=>K (.elem y) []
  |some (.aZ id v p)=>K (.aZ id v p) []
  |some (.rp id p)=>K (.rp id p) []
  |some (.fn f c)=>K (.fn f c) []
  |_=>ad
 |.binOp I t x y J=>(bq P ts t x).bind λa=>(bq P ts J y).bind λb=>EL L P I t a b K
 |.unOp .not _ x=>((bq P ts 0 x).bind TD.boolT).bind λt=>K (.p (.v .bool (!t))) []
 |.unOp .neg _ x=>((bq P ts 0 x).bind TD.num).bind λa=>K (.p (vM a.k (0 - a.n))) [.raw]
 |.unOp .xor _ x=>((bq P ts 0 x).bind TD.num).bind λa=>(FB a).bind λz=>K (.p z) []
 |.convert src dst x=>(bq P ts src x).bind (EO L P src dst K)
 |.makeFunc (.func f) first captured=>if(first.isEmpty&&ag (f < big))=ae then(rR P ts captured.toList).bind λj=>K (.fn f j) [] else if captured.isEmpty=ae then(rR P ts first.toList).bind λj=>K (.fn (f+big) j) [] else ad
 |.makeInterface t x=>match P.underlying t with
  |some (.interface _)=>ad
  |some _=>(bq P ts t x).bind λd=>K (.iface t d) []
  |none=>ad
 |.field t x i=>(bq P ts t x).bind (DK L P t i K)
 |.fieldAddr t x i=>(bq P ts 0 x).bind (DL P t i K)
 |.indexAddr t x ix=>(bq P ts t x).bind λa=>(bq P ts 0 ix).bind λb=>b.inner.bind λA=>(jl A).bind λq=>DM L P t q.2 K a
 |.index t x ix=>(bq P ts t x).bind λa=>(bq P ts 0 ix).bind λb=>b.inner.bind λA=>(jl A).bind λq=>EW L P t q.2 K a
 |.slice t x lo E ad=>(bq P ts t x).bind λa=>(fw P ts lo).bind λl=>(fw P ts E).bind λh=>DO L P t l h K a
 |.slice t x lo E (ab M)=>(bq P ts t x).bind λa=>(fw P ts lo).bind λl=>(fw P ts E).bind λh=>(fw P ts (ab M)).bind λm=>EY P t l h m K a
 |.sliceToArrayPointer t x=>(bq P ts 0 x).bind λa=>(a.row L).bind (EZ P t K)
 |.extract x i=>match bq P ts 0 x with
  |some (.bp j)=>(j[i]?).bind λd=>K d []
  |_=>ad
 |.load t x=>(bq P ts 0 x).bind (ZJ5 P t K)
 |.build t parts=>EU L P ts t parts.toList K
 |.buildSlice t len parts=>pr L P ts t len parts.toList λT l _=>K (.p (.sl (ab ae) T l)) [.iH]
 |.call c=>match c.callee with
  |.builtin .len=>match c.args.toList,c.argTypes.toList with
   |[x],[t]=>(bq P ts t x).bind (EV L P t K)
   |_,_=>ad
  |.builtin .max=>match c.args.toList,c.argTypes.toList with
   |[x,y],[t,u]=>((bq P ts t x).bind TD.num).bind λa=>((bq P ts u y).bind TD.num).bind λb=>if(ag (a.k=.i64)&&ag (b.k=.i64))=ae then K (.p (.v (.int .i64) (ZNA a.n b.n))) [] else ad
   |_,_=>ad
  |.builtin .min=>match c.args.toList,c.argTypes.toList with
   |[x,y],[t,u]=>((bq P ts t x).bind TD.num).bind λa=>((bq P ts u y).bind TD.num).bind λb=>if(ag (a.k=.i64)&&ag (b.k=.i64))=ae then K (.p (.v (.int .i64) (vR a.n b.n))) [] else ad
   |_,_=>ad
  |.builtin .append=>match c.args.toList,c.argTypes.toList with
   |[x,y],[t,u]=>ZJ6 L P ts t u x y K
   |_,_=>ad
  |.value f=>match bq P ts 0 f with
   |some (.fn g [])=>if(nq P g&&c.args.size==c.argTypes.size)=ae then match c.args.toList,c.argTypes.toList with
     |[x,y],[t,u]=>(bq P ts t x).bind λa=>(bq P ts u y).bind λb=>ZMq L K a b
     |_,_=>ad
    else ad
   |_=>ad
  |_=>ad
 |_=>ad
theorem ZFC{K:TD->yL ao->yO O}{out:O}(h:FC L P o ts K=ab out):∃d hs,K d hs=ab out/\dB L P o ts d hs:=by
 unfold FC at h;split at h
 .rename_i x A;obtain⟨d,j,h⟩:=yf.1 h;refine⟨_,_,h,[],zP,λF=> ?_⟩;unfold bj;rw[A];dsimp only;rw[Zu j];rfl
 .rename_i x A;obtain⟨d,j,h⟩:=yf.1 h;refine⟨_,_,h,[],zP,λF=> ?_⟩;unfold bj;rw[A];dsimp only;rw[Zu j];rfl
 .rename_i c a b A;obtain⟨t,j,h⟩:=yf.1 h;obtain⟨cd,S,j⟩:=yf.1 j;obtain⟨da,E,h⟩:=yf.1 h;obtain⟨db,G,h⟩:=yf.1 h;split at h
  .rename_i I;refine⟨_,_,h,[t=ae],⟨I,aw⟩,λF=> ?_⟩;unfold bj;rw[A];dsimp only;rw[Zu S,px j,Zu E];rfl
  .rename_i I;refine⟨_,_,h,[t=af],⟨by simpa using I,aw⟩,λF=> ?_⟩;unfold bj;rw[A];dsimp only;rw[Zu S,px j,Zu G];rfl
 .rename_i x A;split at h
  all_goals first|cases h;done|skip
  all_goals
   rename_i U;refine⟨_,_,h,[],zP,λF=> ?_⟩;simp only[yz];unfold bj;rw[A];dsimp only;rw[Zu U];rfl
 .rename_i op t x y yt A;obtain⟨a,j,h⟩:=yf.1 h;obtain⟨b,E,h⟩:=yf.1 h;obtain⟨d,hs,C,G,M,J⟩:=ZDz h;refine⟨d,hs,G,C,M,λF=> ?_⟩;unfold bj;rw[A];dsimp only;rw[Zu j,Zu E];exact J F
 .rename_i t x A;obtain⟨b,j,h⟩:=yf.1 h;obtain⟨xd,S,j⟩:=yf.1 j;refine⟨_,_,h,[],zP,λF=> ?_⟩;simp only[yz];unfold bj;rw[A];dsimp only;rw[Zu S,px j];rfl
 .rename_i t x A;obtain⟨a,j,h⟩:=yf.1 h;obtain⟨xd,S,j⟩:=yf.1 j;refine⟨_,_,h,[],zP,λF=> ?_⟩;unfold bj;rw[A];dsimp only;rw[Zu S,Q1 j,TD.er,ZBU];rfl
 .rename_i t x A;obtain⟨a,j,h⟩:=yf.1 h;obtain⟨xd,S,j⟩:=yf.1 j;obtain⟨z,E,h⟩:=yf.1 h;obtain⟨e1,e2⟩:=ZIC E;refine⟨_,_,h,[],zP,λF=> ?_⟩;unfold bj;rw[A];dsimp only;rw[Zu S,Q1 j,TD.er,e2];dsimp only;rw[e1];rfl
 .rename_i src dst x A;obtain⟨a,j,h⟩:=yf.1 h;exact ZAv A j h
 .rename_i f first captured A
  split at h
  .rename_i X;obtain⟨ds,j,h⟩:=yf.1 h;refine⟨_,_,h,[],zP,λF=> ?_⟩;simp only[yz];unfold bj;rw[A];dsimp only;rw[yW X,EX j];rfl
  .rename_i X;split at h
   .rename_i hf2;obtain⟨ds,j,h⟩:=yf.1 h;refine⟨_,_,h,[],zP,λF=> ?_⟩;simp only[yz];unfold bj;rw[A];dsimp only;rw[yX X,yW hf2,EX j];rfl
   .cases h
 .rename_i t x A;split at h
  .cases h
  .rename_i u Y hne;obtain⟨d,j,h⟩:=yf.1 h;refine⟨_,_,h,[],zP,λF=> ?_⟩;simp only[yz];unfold bj;rw[A];dsimp only;rw[Zu j,hne];split
   .rename_i ms hh;exact absurd (Option.some.inj hh) (Y ms)
   .rfl
   .rename_i hh;cases hh
  .cases h
 .rename_i t x i A;obtain⟨a,j,h⟩:=yf.1 h;obtain⟨d,E,G⟩:=Zpk h;refine⟨_,_,E,[],zP,λF=> ?_⟩;simp only[yz];unfold bj;rw[A];dsimp only;rw[Zu j,G];rfl
 .rename_i t x i A;obtain⟨a,j,h⟩:=yf.1 h;exact Zp8 A j h
 .rename_i t x ix A;obtain⟨a,j,h⟩:=yf.1 h;obtain⟨b,E,h⟩:=yf.1 h;obtain⟨ip,G,h⟩:=yf.1 h;obtain⟨q,M,h⟩:=yf.1 h;rw[Xb G]at E;exact Zp9 (id:=.an) A j E M h
 .rename_i t x ix A;obtain⟨a,j,h⟩:=yf.1 h;obtain⟨b,E,h⟩:=yf.1 h;obtain⟨ip,G,h⟩:=yf.1 h;obtain⟨q,M,h⟩:=yf.1 h;rw[Xb G]at E;exact Zyj A j E M h
 .rename_i t x lo hi A;obtain⟨a,j,h⟩:=yf.1 h;obtain⟨l,E,h⟩:=yf.1 h;obtain⟨r,G,h⟩:=yf.1 h;exact Zyd A j E G h
 .rename_i t x lo hi mx A;obtain⟨a,j,h⟩:=yf.1 h;obtain⟨l,E,h⟩:=yf.1 h;obtain⟨r,G,h⟩:=yf.1 h;obtain⟨m,M,h⟩:=yf.1 h;exact Zv0 A j E G M h
 .rename_i t x A;obtain⟨a,j,h⟩:=yf.1 h;obtain⟨r,E,h⟩:=yf.1 h;exact Zv2 A j E h
 .rename_i x i A;split at h
  .rename_i ds U;obtain⟨d,j,h⟩:=yf.1 h;refine⟨_,_,h,[],zP,λF=> ?_⟩;simp only[yz];unfold bj;rw[A];dsimp only;rw[Zu U];dsimp only[TD.er];rw[lx j];rfl
  .cases h
 .rename_i t x A;obtain⟨a,j,h⟩:=yf.1 h;unfold ZJ5 at h;split at h
  .obtain⟨E,h⟩:=Za h;refine⟨_,_,h,[],zP,λF=> ?_⟩;simp only[yz];unfold bj;rw[A];dsimp only;rw[Zu j];dsimp only[TD.er];rw[yW (by simpa[and_assoc] using E)]
  .cases h
 .rename_i t parts A;exact Zyh A h
 .rename_i t len parts A;obtain⟨e,T,l,i,xs,j,Y,hi,hl,hz,hs,U⟩:=wc h;refine⟨_,_,j,[],zP,λF=> ?_⟩;unfold bj;rw[A];dsimp only;rw[yag,yz];dsimp only;rw[Y];dsimp only;rw[hi,hl];dsimp only;rw[yW (by simpa using hz),U,hs];rfl
 .rename_i c A;split at h
  .rename_i Q;split at h
   .rename_i x t R I;obtain⟨a,j,h⟩:=yf.1 h;exact ZDC A Q R I j h
   .cases h
  .rename_i Q;split at h
   .rename_i x y t u R I;obtain⟨m,j,h⟩:=yf.1 h;obtain⟨n,E,h⟩:=yf.1 h;obtain⟨xd,Z,g2⟩:=yf.1 j;obtain⟨yd,g3,g4⟩:=yf.1 E;obtain⟨J,h⟩:=Za h;simp only[yi,yP]at J;refine⟨_,_,h,[],zP,λF=> ?_⟩;simp only[yz];unfold bj;rw[A];dsimp only;rw[Q];dsimp only;rw[R,I];dsimp only;rw[Zu Z,Zu g3,Q1 g2,Q1 g4,J.1,J.2];rfl
   .cases h
  .rename_i Q;split at h
   .rename_i x y t u R I;obtain⟨m,j,h⟩:=yf.1 h;obtain⟨n,E,h⟩:=yf.1 h;obtain⟨xd,Z,g2⟩:=yf.1 j;obtain⟨yd,g3,g4⟩:=yf.1 E;obtain⟨J,h⟩:=Za h;simp only[yi,yP]at J;refine⟨_,_,h,[],zP,λF=> ?_⟩;simp only[yz];unfold bj;rw[A];dsimp only;rw[Q];dsimp only;rw[R,I];dsimp only;rw[Zu Z,Zu g3,Q1 g2,Q1 g4,J.1,J.2];rfl
   .cases h
  .rename_i Q;split at h
   .rename_i x y t u R I;unfold ZJ6 at h;split at h
    .rename_i e T0 Y U;obtain⟨i,j,h⟩:=yf.1 h;obtain⟨T,E,h⟩:=yf.1 h;obtain⟨yd,G,h⟩:=yf.1 h;obtain⟨l,M,h⟩:=yf.1 h;obtain⟨J,h⟩:=Za h;obtain⟨h6,h⟩:=Za h;simp only[yi,yP]at J;obtain⟨Z,g2⟩:=mA h6;refine⟨_,_,h,[(l.map T.enc).length*i.bytes<=Zt,(l.map T.enc).length<=maxLen],⟨by rw[yad];exact Z,by rw[yad];exact g2,aw⟩,λF=> ?_⟩;unfold bj;rw[A];dsimp only;rw[Q];dsimp only;rw[R,I,yag,yz];dsimp only;rw[Y,Zu U,Zu G,show(TD.p (TP.sl (ab af) T0 [])).er L=Dv.p (.sl (ab af) T0.size []) from rfl]
     dsimp only;rw[j,J.2.1,pu M];dsimp only;rw[yW (by simpa using J.1)];rfl
    .cases h
   .cases h
  .rename_i f Q;split at h
   .rename_i g X;obtain⟨hk,h⟩:=Za h;split at h
    .rename_i x y t u R I;obtain⟨a,j,h⟩:=yf.1 h;obtain⟨b,E,h⟩:=yf.1 h;unfold ZMq at h;obtain⟨l,G,h⟩:=yf.1 h;obtain⟨m,M,h⟩:=yf.1 h;obtain⟨n1,e1⟩:=ZB2 G;obtain⟨n2,e2⟩:=ZB2 M;refine⟨_,_,h,[hJ (bytesOf l)=hJ (bytesOf l),hJ (bytesOf m)=hJ (bytesOf m)],⟨rfl,rfl,aw⟩,λF=> ?_⟩
     have hg:g < big:=by
      rw[yi]at hk;have W:=hk.1;unfold nq at W;rw[yi,yP]at W;exact W.1
     have e3:YR P [] (TD.aG L ts) c g []=[.p (.sl n1 1 (hJ (bytesOf l))),.p (.sl n2 1 (hJ (bytesOf m)))]:=by
      unfold YR;rw[yW hg,R,I];simp only[List.zip_cons_cons,List.zip_nil_right,yah,List.map_nil,List.append_nil];rw[Zu j,Zu E,e1,e2]
     unfold bj;rw[A];dsimp only;rw[Q];dsimp only;rw[Zu X,yag,yag,yz,show TD.er L (.fn g [])=Dv.fn g [] from rfl]
     dsimp only;rw[yW hk,e3];dsimp only;rw[yW ⟨rfl,rfl⟩];rfl
    .cases h
   .cases h
  .cases h
 .cases h
end
end Go.Ev
end
section
namespace Go.Ev
mutual
theorem rS{L M:Lk}(h:∀id t,Yh L id t ad=Yh M id t ad):∀(d:TD),d.er L=d.er M
 |.p _=>rfl
 |.elem _=>rfl
 |.aj _ _=>rfl
 |.own id g t c=>by
  cases c with
  |none=>rw[TD.er,TD.er,h]
  |some _=>rfl
 |.view _ _ _ _ _=>rfl
 |.agg f=>by rw[TD.er,TD.er,cE h f]
 |.arr _ _ f=>by rw[TD.er,TD.er,cE h f]
 |.fn _ f=>by rw[TD.er,TD.er,cE h f]
 |.iface _ x=>by rw[TD.er,TD.er,rS h x]
 |.bp f=>by rw[TD.er,TD.er,cE h f]
 |.mp _=>rfl
 |.rv _ _ _ _ _=>rfl
 |.aZ _ _ _=>rfl
 |.rw _=>by simp only[TD.er,eQ,h]
 |.rp _ _=>by simp only[TD.er,eQ,h]
 |.an=>rfl
theorem cE{L M:Lk}(h:∀id t,Yh L id t ad=Yh M id t ad):∀(f:yL TD),TD.aG L f=TD.aG M f
 |[]=>rfl
 |x::r=>by rw[TD.aG,TD.aG,rS h x,cE h r]
end
theorem ZFD{L M:Lk}(h:∀id t,Yh L id t ad=Yh M id t ad)(e:ah):e.er L=e.er M:=by
 cases e with
 |var d st=>rw[ah.er,ah.er,rS h]
 |row v s st e d=>rw[ah.er,ah.er,rS h]
 |bL t l v st e g j f=>rw[ah.er,ah.er,rS h]
 |_=>rfl
mutual
def TD.free(n:Nat):TD->Bool
 |.own id _ _ c=>c.isSome || id !=n
 |.rw id=>id !=n
 |.rp id _=>id !=n
 |.agg f=>TD.frees n f
 |.arr _ _ f=>TD.frees n f
 |.fn _ f=>TD.frees n f
 |.iface _ x=>TD.free n x
 |.bp f=>TD.frees n f
 |_=>ae
def TD.frees(n:Nat):yL TD->Bool
 |[]=>ae
 |x::r=>TD.free n x&&TD.frees n r
end
def ah.free(n:Nat):ah->Bool
 |.var d _=>d.free n
 |.row _ _ _ _ d=>d.free n
 |.bL _ _ _ _ _ _ d _=>d.free n
 |_=>ae
mutual
theorem kI{L M:Lk}{n:Nat}(h:∀id t,id≠n->Yh L id t ad=Yh M id t ad):∀(d:TD),d.free n=ae->d.er L=d.er M
 |.p _,_=>rfl
 |.elem _,_=>rfl
 |.aj _ _,_=>rfl
 |.own id j t c,f=>by
  cases c with
  |none=>
   have:id≠n:=by simpa[TD.free] using f
   rw[TD.er,TD.er,h id t this]
  |some _=>rfl
 |.view _ _ _ _ _,_=>rfl
 |.agg g,f=>by rw[TD.er,TD.er,dg h g f]
 |.arr _ _ g,f=>by rw[TD.er,TD.er,dg h g f]
 |.fn _ g,f=>by rw[TD.er,TD.er,dg h g f]
 |.iface _ x,f=>by rw[TD.er,TD.er,kI h x f]
 |.bp g,f=>by rw[TD.er,TD.er,dg h g f]
 |.mp _,_=>rfl
 |.rv _ _ _ _ _,_=>rfl
 |.aZ _ _ _,_=>rfl
 |.rw id,f=>by
  have:id≠n:=by simpa[TD.free] using f
  simp only[TD.er,eQ,h id _ this]
 |.rp id _,f=>by
  have:id≠n:=by simpa[TD.free] using f
  simp only[TD.er,eQ,h id _ this]
 |.an,_=>rfl
theorem dg{L M:Lk}{n:Nat}(h:∀id t,id≠n->Yh L id t ad=Yh M id t ad):∀(f:yL TD),TD.frees n f=ae->TD.aG L f=TD.aG M f
 |[],_=>rfl
 |x::r,g=>by
  simp only[TD.frees,yi]at g;rw[TD.aG,TD.aG,kI h x g.1,dg h r g.2]
end
mutual
def TD.stale(L:Lk)(n:Nat):TD->TD
 |.own id j t c=>if id=n then .own id j t (ab (Yh L id t c)) else .own id j t c
 |.agg h=>.agg (TD.cF L n h)
 |.arr m s h=>.arr m s (TD.cF L n h)
 |.fn f h=>.fn f (TD.cF L n h)
 |.iface t x=>.iface t (TD.stale L n x)
 |.bp h=>.bp (TD.cF L n h)
 |.p x=>.p x
 |.elem x=>.elem x
 |.aj id g=>.aj id g
 |.view id g s lo n=>.view id g s lo n
 |.mp id=>.mp id
 |.rv id v s lo n=>.rv id v s lo n
 |.aZ id v g=>.aZ id v g
 |.rw id=>if id=n then .rv id (eQ L id 0) (eQ L id 1) 0 (eQ L id 2) else .rw id
 |.rp id g=>if id=n then .aZ id (eQ L id 0) g else .rp id g
 |.an=>.an
def TD.cF(L:Lk)(n:Nat):yL TD->yL TD
 |[]=>[]
 |x::r=>TD.stale L n x::TD.cF L n r
end
def ah.stale(L:Lk)(n:Nat):ah->ah
 |.var d st=>.var (d.stale L n) st
 |.row v s st e d=>.row v s st e (d.stale L n)
 |.bL t h v st e g d f=>.bL t h v st e g (d.stale L n) f
 |e=>e
mutual
theorem rT{L M:Lk}{n:Nat}(h:∀id t,id≠n->Yh L id t ad=Yh M id t ad):∀(d:TD),(d.stale L n).er M=d.er L
 |.p _=>rfl
 |.elem _=>rfl
 |.aj _ _=>rfl
 |.own id j t c=>by
  rw[TD.stale];split
  .rfl
  .rename_i g
   cases c with
   |none=>rw[TD.er,TD.er,h id t g]
   |some _=>rfl
 |.view _ _ _ _ _=>rfl
 |.agg f=>by rw[TD.stale,TD.er,TD.er,bT h f]
 |.arr _ _ f=>by rw[TD.stale,TD.er,TD.er,bT h f]
 |.fn _ f=>by rw[TD.stale,TD.er,TD.er,bT h f]
 |.iface _ x=>by rw[TD.stale,TD.er,TD.er,rT h x]
 |.bp f=>by rw[TD.stale,TD.er,TD.er,bT h f]
 |.mp _=>rfl
 |.rv _ _ _ _ _=>rfl
 |.aZ _ _ _=>rfl
 |.rw id=>by
  rw[TD.stale];split
  .rfl
  .rename_i g
   simp only[TD.er,eQ,h id _ g]
 |.rp id _=>by
  rw[TD.stale];split
  .rfl
  .rename_i g
   simp only[TD.er,eQ,h id _ g]
 |.an=>rfl
theorem bT{L M:Lk}{n:Nat}(h:∀id t,id≠n->Yh L id t ad=Yh M id t ad):∀(f:yL TD),TD.aG M (TD.cF L n f)=TD.aG L f
 |[]=>rfl
 |x::r=>by rw[TD.cF,TD.aG,TD.aG,rT h x,bT h r]
end
theorem rU{L M:Lk}{n:Nat}(h:∀id t,id≠n->Yh L id t ad=Yh M id t ad)(e:ah):(e.stale L n).er M=e.er L:=by
 cases e with
 |var d st=>rw[ah.stale,ah.er,ah.er,rT h]
 |row v s st e d=>rw[ah.stale,ah.er,ah.er,rT h]
 |bL t j v st e g d f=>rw[ah.stale,ah.er,ah.er,rT h]
 |_=>rfl
def ah.fH:ah->Bool
 |.log _ _ _=>ae
 |.aY _ _ _ _ _=>ae
 |.aR _ _ _ _ _ _ _=>ae
 |.bL _ _ _ _ _ _ _ _=>ae
 |_=>af
theorem FD{e:ah}(h:e.fH=af):eR (ab e)=ad:=by
 cases e <;> first|rfl|cases h
theorem lB{H:yL ah}{e:ah}(h:e.fH=af):lk (H++[e])=lk H:=by
 funext id;unfold lk;rcases Nat.lt_trichotomy id H.length with hl|hl|hl
 .grind
 .subst hl;rw[List.getElem?_concat_length,FD h,ybz (ym _)];rfl
 grind
theorem Vu{H:yL ah}{id:Nat}{e x:ah}(f:H[id]? =ab x)(h1:x.fH=af)(h2:e.fH=af):lk (H.set id e)=lk H:=by
 funext j;unfold lk;by_cases g:id=j
 .subst g;rw[ak f,f,FD h1,FD h2]
 grind
theorem nW{H:yL ah}{e:ah}(h:lk (H++[e])=lk H):aJ (H++[e])=aJ H++[e.er (lk H)]:=by
 unfold aJ;grind
theorem Xs{H:yL ah}{id:Nat}{e:ah}(h:lk (H.set id e)=lk H):aJ (H.set id e)=(aJ H).set id (e.er (lk H)):=by
 unfold aJ;simp_all
theorem we{H:yL ah}{T:Ty}{e:yc}(id:Nat)(t:Ty):Yh (lk H) id t ad=Yh (lk (H++[.log T e []])) id t ad:=by
 unfold Yh lk;dsimp only;rcases Nat.lt_trichotomy id H.length with hl|hl|hl
 .grind
 .subst hl;rw[List.getElem?_concat_length,ybz (ym _)];show[]=(Ty.bw T t []).getD []
  cases h:Ty.bw T t [] with
  |none=>rfl
  |some y=>
   obtain⟨e,f⟩:=ZI h;subst e;subst f;rfl
 grind
theorem FE{H:yL ah}{T:Ty}{e:yc}:aJ (H++[.log T e []])=aJ H++[.log T.size e []]:=by
 unfold aJ;rw[yaw];congr 1;exact yci λx _=>(ZFD (λid t=>we id t) x).symm
theorem lC{H:yL ah}{e:ah}(id:Nat)(t:Ty)(h:id≠H.length):Yh (lk H) id t ad=Yh (lk (H++[e])) id t ad:=by
 unfold Yh lk
 all_goals grind
theorem ZB3{H:yL ah}{T:Ty}{e:yc}{l:yL T.aU}(h:H.all (ah.free H.length)=ae):aJ (H++[.log T e l])=aJ H++[.log T.size e (l.map T.enc)]:=by
 unfold aJ;rw[yaw];congr 1;refine yci λx g=> ?_
 cases x with
 |var d st=>
  rw[ah.er,ah.er];congr 1
  exact(kI (λid t f=>lC id t f) d (yal.1 h _ g)).symm
 |row v s st e d=>
  rw[ah.er,ah.er];congr 1
  exact(kI (λid t f=>lC id t f) d (yal.1 h _ g)).symm
 |bL t y v st e m d j=>
  rw[ah.er,ah.er,kI (λid t f=>lC id t f) d (yal.1 h _ g)]
 |_=>rfl
theorem VR{H:yL ah}{n:Nat}{e:ah}(L:Lk)(id:Nat)(t:Ty)(h:id≠n):Yh (lk H) id t ad=Yh (lk ((H.map (ah.stale L n)).set n e)) id t ad:=by
 have f:lk ((H.map (ah.stale L n)).set n e) id=lk H id:=by
  unfold lk;rw[cL (Ne.symm h),yao]
  cases H[id]? with
  |none=>rfl
  |some x=>cases x <;> rfl
 unfold Yh;rw[f]
theorem ZFE{H:yL ah}{n:Nat}{T:Ty}{e:yc}{l:yL T.aU}:aJ ((H.map (ah.stale (lk H) n)).set n (.log T e l))=(aJ H).set n (.log T.size e (l.map T.enc)):=by
 unfold aJ;rw[ybn,ybd];congr 1;refine yci λx g=> ?_;exact rU (λid t f=>VR (lk H) id t f) x
def TP.isV:TP->yO (Σ t:Ty,t.aU)
 |.v t x=>ab ⟨t,x⟩
 |_=>ad
def TP.nX:TP->Nat->TP->yO TP
 |.v (.st f) x,i,z=>match z.isV with
  |some q=>(Ty.upd f x i q.1 q.2).map (.v (.st f))
  |none=>ab (.agg ((Ty.fl f x).set i z))
 |.agg l,i,z=>ab (.agg (l.set i z))
 |_,_,_=>ad
theorem ZID{x y z:TP}{i:Nat}(h:x.nX i z=ab y):∀xs,x.pe=.agg xs->y.pe=.agg (xs.set i z.pe):=by
 cases x with
 |v u a=>
  cases u with
  |st j=>
   intro xs g;have f:Pl.agg (Ty.encs j a)=.agg xs:=g;injection f with f;subst f;simp only[TP.nX]at h;split at h
   .rename_i q A;obtain⟨m,E,rfl⟩:=Ze h
    have F:z=.v q.1 q.2:=by
     unfold TP.isV at A
     all_goals grind
    show Pl.agg (Ty.encs j m)=_;rw[ZBQ j a i q.1 q.2 m E,F];rfl
   .cases h;show Pl.agg (TP.cl ((Ty.fl j a).set i z))=_;rw[W0,ybn, <-W0]
    exact congrArg (λl=>Pl.agg (l.set i z.pe)) (vI j a)
  |_=>cases h
 |agg l=>
  intro xs g;cases h;rw[TP.pe]at g;injection g with g;subst g
  rw[TP.pe,W0,W0,ybn]
 |_=>cases h
def ZMr(x:Pl)(i o:Nat):Bool:=
 match x with
 |.agg f=>o==Pl.sizes (f.take i)
 |_=>af
def ZJ7(x:TP)(i:Nat):TD->yO TD
 |.p y=>(x.nX i y).map .p
 |d=>x.parts.map λl=>.agg ((l.map .p).set i d)
def FF(a:nU)(i:Nat):TD->yO TD
 |.p z=>(TP.to jL z a.t).map λf=>.p (.v (.arr a.n a.t) (a.l.set i f))
 |d=>ab (.arr a.n a.t.size ((a.l.map λy=>TD.p (.v a.t y)).set i d))
theorem rV{L:Lk}(l:yL TP):TD.aG L (l.map .p)=(TP.cl l).map .p:=by
 rw[ZO,W0,ybd,ybd];rfl
def ZJ8(n s:Nat)(xs:yL TP)(i:Nat):TD->yO TD
 |.p _=>ad
 |d=>ab (.arr n s ((xs.map .p).set i d))
abbrev Kg(O:Type):=TD->yL ao->(TD->yO TD)->yO O
def fm{O:Type}(L:Lk):yL cg->TD->Kg O->yO O
 |[],d,K=>K d [] ab
 |.gk i o::r,.p x,K=>(x.gk i).bind λz=>if ZMr x.pe i o=ae then fm L r (.p z) λsub hs f=>K sub hs λg=>(f g).bind λd=>ZJ7 x i d else ad
 |.ix i s::r,.p (.arr n j m),K=>(m[i]?).bind λz=>if s=j then fm L r (.p z) λsub hs f=>K sub (.el z.pe::hs) λg=>(f g).bind λd=>ZJ8 n j m i d else ad
 |.ix i s::r,.p x,K=>x.dS.bind λa=>if s=a.t.size then(a.l[i]?).bind λy=>fm L r (.p (.v a.t y)) λsub hs f=>K sub (.el (a.t.enc y)::hs) λg=>
   (f g).bind λd=>FF a i d else ad
 |.gk i o::r,.agg h,K=>(h[i]?).bind λz=>if o=Dv.sizes ((TD.aG L h).take i) then fm L r z λsub hs f=>K sub hs λg=>(f g).map λy=>.agg (h.set i y) else ad
 |.ix i s::r,.arr n j h,K=>(h[i]?).bind λz=>if s=j then fm L r z λsub hs f=>K sub hs λg=>(f g).map λy=>.arr n j (h.set i y) else ad
 |_,_,_=>ad
def eA:yL cg->Nat
 |[]=>0
 |q::r=>q.o+eA r
theorem XR(l:yL cg):Wp l=eA l:=by
 have:∀(l:yL cg)(n:Nat),l.foldl (λn q=>n+q.o) n=n+eA l:=by
  intro l
  induction l with
  |nil=>intro n;rfl
  |cons q r f=>intro n;rw[List.foldl_cons,f,eA];omega
 rw[Wp,this];omega
theorem Xw{O:Type}{L:Lk}:∀(yQ:yL cg)(d:TD)(K:Kg O)(out:O),fm L yQ d K=ab out->
 ∃sub hs g C,K sub hs g=ab out/\aX C/\(∀yK,Yd (d.er L) (yQ.map cg.i) (hs++yK)=ab (C,eA yQ,sub.er L,yK))/\
  ∀new d',g new=ab d'->∀yK,Wi (new.er L) (d.er L) (yQ.map cg.i) (hs++yK)=ab (d'.er L)
 |[],d,K,out,h=>⟨d,[],ab,[],h,zP,λ_=>rfl,λnew d' h _=>by cases h;rfl⟩
 |q::r,d,K,out,h=>by
  cases q with
  |gk i o=>
   cases d with
   |p x=>
    simp only[fm]at h;obtain⟨z,m,h⟩:=yf.1 h;obtain⟨A,h⟩:=Za h;obtain⟨sub,hs,g,C,E,F,G,I⟩:=Xw r (.p z) _ out h;obtain⟨j,T,X⟩:=ZFl m
    have Z:o=Pl.sizes (j.take i):=by
     unfold ZMr at A;grind
    refine⟨sub,hs,_,C,E,F,λyK=> ?_,λnew d' f yK=> ?_⟩
    .rw[TD.er,T];show Yd (.p (.agg j)) (i::r.map cg.i) (hs++yK)=_;unfold Yd;rw[X];dsimp only;have:=G yK;rw[TD.er]at this;rw[this,yae,eA,Z];rfl
    .obtain⟨d1,J,f⟩:=yf.1 f;have:=I new d1 J yK;unfold ZJ7 at f;rw[TD.er]at this;rw[TD.er,T];show Wi (new.er L) (.p (.agg j)) (i::r.map cg.i) (hs++yK)=_;unfold Wi;rw[X];dsimp only;rw[this];split at f
     .obtain⟨x',R,rfl⟩:=Ze f;rw[TD.er,TD.er,ZID R j T]
     .rename_i Q;obtain⟨l,R,rfl⟩:=Ze f
      have e3:TP.cl l=j:=by
       have:=DB R;grind
      rw[TD.er,ZO,ybn, <-ZO,rV,e3]
      cases d1 <;> first|rfl|exact absurd rfl (Q _)
   |agg S=>
    simp only[fm]at h;obtain⟨z,m,h⟩:=yf.1 h;split at h
    .rename_i A;obtain⟨sub,hs,g,C,E,F,G,I⟩:=Xw r z _ out h;refine⟨sub,hs,_,C,E,F,λyK=> ?_,λnew d' f yK=> ?_⟩
     .rw[TD.er];show Yd (.agg (TD.aG L S)) (i::r.map cg.i) (hs++yK)=_;unfold Yd;rw[lx m];dsimp only;rw[G yK,yae,eA,A];rfl
     .obtain⟨y,J,rfl⟩:=Ze f;rw[TD.er];show Wi (new.er L) (.agg (TD.aG L S)) (i::r.map cg.i) (hs++yK)=_;unfold Wi;rw[lx m];dsimp only;rw[I new y J yK,yae,TD.er,ZO,ZO,ybn]
    .cases h
   |_=>cases h
  |ix i s=>
   cases d with
   |p x=>
    by_cases Y:∃n M j,x=.arr n M j
    .obtain⟨n,M,j,rfl⟩:=Y;simp only[fm]at h;obtain⟨z,m,h⟩:=yf.1 h;split at h
     .rename_i A;obtain⟨sub,hs,g,C,E,F,G,I⟩:=Xw r (.p z) _ out h;have hz:(TP.cl j)[i]? =ab z.pe:=by rw[W0,yao,m];rfl
      refine⟨sub,_,_,((TP.cl j)[i]? =ab z.pe)::C,E,⟨hz,F⟩,λyK=> ?_,λnew d' f yK=> ?_⟩
      .rw[TD.er,TP.pe];show Yd (.p (.arr n M (TP.cl j))) (i::r.map cg.i) (_::(hs++yK))=_;unfold Yd;dsimp only;have:=G yK;rw[TD.er]at this;rw[this,yae,eA, <-A];rfl
      .obtain⟨d1,J,f⟩:=yf.1 f;have:=I new d1 J yK;rw[TD.er]at this;rw[TD.er,TP.pe];show Wi (new.er L) (.p (.arr n M (TP.cl j))) (i::r.map cg.i) (_::(hs++yK))=_;unfold Wi;dsimp only;rw[this];by_cases U:∃y,d1=.p y
       .obtain⟨y,rfl⟩:=U;cases f
       .have e:ZJ8 n M j i d1=ab (.arr n M ((j.map .p).set i d1)):=by cases d1 <;> first|rfl|exact absurd ⟨_,rfl⟩ U
        rw[e]at f;cases f;rw[TD.er,ZO,ybn, <-ZO,rV];cases d1 <;> first|rfl|exact absurd ⟨_,rfl⟩ U
     .cases h
    have hg:fm L (.ix i s::r) (.p x) K=x.dS.bind λa=>if s=a.t.size then(a.l[i]?).bind λy=>fm L r (.p (.v a.t y)) λsub hs g=>K sub (.el (a.t.enc y)::hs) λnew=>(g new).bind λd=>FF a i d else ad:=by
     cases x <;> first|rfl|exact absurd ⟨_,_,_,rfl⟩ Y
    rw[hg]at h;obtain⟨a,m,h⟩:=yf.1 h;split at h
    .rename_i W;obtain⟨y,A,h⟩:=yf.1 h;obtain⟨sub,hs,g,C,E,F,G,I⟩:=Xw r (.p (.v a.t y)) _ out h;refine⟨sub,_,_,((a.l.map a.t.enc)[i]? =ab (a.t.enc y))::C,E,⟨rJ A,F⟩,λyK=> ?_,λnew d' f yK=> ?_⟩
     .rw[TD.er,jm m];show Yd (.p (.arr a.n a.t.size _)) (i::r.map cg.i) (_::(hs++yK))=_;unfold Yd;dsimp only;have:=G yK;rw[TD.er,TP.pe]at this;rw[this,yae,eA,W];rfl
     .obtain⟨d1,J,f⟩:=yf.1 f;have:=I new d1 J yK;unfold FF at f;rw[TD.er,TP.pe]at this;rw[TD.er,jm m];show Wi (new.er L) (.p (.arr a.n a.t.size _)) (i::r.map cg.i) (_::(hs++yK))=_;unfold Wi;dsimp only;rw[this];split at f
      .rename_i z;obtain⟨y',R,rfl⟩:=Ze f;rw[TD.er];dsimp only;rw[nQ z a.t y' R, <-ybn];rfl
      .rename_i Q;cases f;rw[TD.er,ZO,ybn,ybd,ybd];cases d1 <;> first|rfl|exact absurd rfl (Q _)
    .cases h
   |arr n M S=>
    simp only[fm]at h;obtain⟨z,m,h⟩:=yf.1 h;split at h
    .rename_i A;obtain⟨sub,hs,g,C,E,F,G,I⟩:=Xw r z _ out h;refine⟨sub,hs,_,C,E,F,λyK=> ?_,λnew d' f yK=> ?_⟩
     .rw[TD.er];show Yd (.arr n M (TD.aG L S)) (i::r.map cg.i) (hs++yK)=_;unfold Yd;rw[lx m];dsimp only;rw[G yK,yae,eA, <-A];rfl
     .obtain⟨y,J,rfl⟩:=Ze f;rw[TD.er];show Wi (new.er L) (.arr n M (TD.aG L S)) (i::r.map cg.i) (hs++yK)=_;unfold Wi;rw[lx m];dsimp only;rw[I new y J yK,yae,TD.er,ZO,ZO,ybn]
    .cases h
   |_=>cases h
theorem gK{H:yL ah}{id:Nat}{T:Ty}{v:yL Unit}{st:Bool}{e:yc}{l:yL T.aU}(hd:H[id]? =ab (.aY T v st e l)):(TD.rw id).er (lk H)=.rv id v.length T.size 0 l.length/\
 ∀yQ,(TD.rp id yQ).er (lk H)=.aZ id v.length (Wp yQ) (yQ.map cg.i):=by
 have h:Yh (lk H) id aMW ad=([v,yx T.size (),yx l.length ()]:yL aMV):=by
  unfold Yh lk;dsimp only;rw[hd];rfl
 refine⟨?_,λyQ=> ?_⟩
 .rw[TD.er];unfold eQ;rw[h];show Dv.rv id v.length (yx T.size ()).length 0 (yx l.length ()).length=_;grind
 .rw[TD.er];unfold eQ;rw[h];rfl
abbrev Kn(O:Type):=yL TD->TD->yL ah->yL ao->Nat->yO O
def rW(P:yg)(o:yj)(ts:yL TD)(H:yL ah)(d:TD)(hs:yL ao):Prop:=
 (∀f,bj P o (TD.aG (lk H) ts) (hs++f)=ad)/\∃C,aX C/\∀f,bH P o (TD.aG (lk H) ts) (aJ H) (hs++f)=ab (C,d.er (lk H),f)
def jM(P:yg)(o:yj)(ts:yL TD)(H:yL ah)(d:TD)(H':yL ah)(hs:yL ao):Prop:=
 (∀f,bj P o (TD.aG (lk H) ts) (hs++f)=ad)/\(∀f,bH P o (TD.aG (lk H) ts) (aJ H) (hs++f)=ad)/\
   ∃C,aX C/\∀f,cX P o (TD.aG (lk H) ts) (aJ H) (hs++f)=ab (C,d.er (lk H'),aJ H',f)
theorem dY{a b c d:Prop}(h:c):a\/b\/c\/d:=.inr (.inr (.inl h))
structure Good(P:yg)(o:yj)(ts all:List TD)(H:List ah)(all':List TD)(d:TD)(H':List ah)(hs:List ao)(bP:Nat):Prop where
 same:TD.aG (lk H') all'=TD.aG (lk H) all
 len:all'.length=all.length
 op:(bP=0/\H'=H/\dB (lk H) P o ts d hs)\/(bP=1/\H'=H/\rW P o ts H d hs)\/(bP=2/\jM P o ts H d H' hs)\/(bP=3/\aJ H'=aJ H/\jM P o ts H d H' hs)
section
variable{P:yg}{o:yj}{ts all:yL TD}{H:yL ah}{O:Type}{K:Kn O}{out:O}
def nY(H:yL ah)(id:Nat):yO TD:=
 match H[id]? with
 |some (.var d _)=>ab d
 |_=>ad
theorem rX{id:Nat}{d:TD}(h:nY H id=ab d):∃st,H[id]? =ab (.var d st)/\(aJ H)[id]? =ab (.var (d.er (lk H)) st):=by
 unfold nY at h;split at h
 .rename_i g st f;cases h;exact⟨st,f,Z9 f⟩
 .cases h
def FG(H:yL ah)(id v:Nat):yO TD:=
 match H[id]? with
 |some (.row w _ _ _ d)=>if(w==v)=ae then ab d else ad
 |_=>ad
theorem Zyk{id v:Nat}{d:TD}(h:FG H id v=ab d):∃w s st e,H[id]? =ab (.row w s st e d)/\(w==v)=ae:=by
 unfold FG at h
 all_goals grind
def FH(P:yg)(t:yc)(all:yL TD)(H:yL ah)(K:Kn O):TD->yO O
 |.aj id f=>(nY H id).bind λd=>fm (lk H) f d λsub hs _=>if gi P t (sub.er (lk H))=ae then K all sub H hs 1 else ad
 |.aZ id v f=>(FG H id v).bind λd=>fm (lk H) f d λsub hs _=>if gi P t (sub.er (lk H))=ae then K all sub H hs 1 else ad
 |_=>ad
theorem ZAB{t:yc}{x:yp}{E:TD}(ho:o.op=.load t x)(G:bq P ts 0 x=ab E)(h:FH P t all H K E=ab out):∃a d H' hs c,K a d H' hs c=ab out/\Good P o ts all H a d H' hs c:=by
 have g:=Zu (L:=lk H) G;unfold FH at h;split at h
 .rename_i id f;obtain⟨d,j,h⟩:=yf.1 h;obtain⟨st,F,I⟩:=rX j;obtain⟨sub,hs,l,C,m,y,J,_⟩:=Xw _ _ _ _ h;obtain⟨M,z⟩:=Za m;refine⟨_,_,_,_,_,z,rfl,rfl,.inr (.inl ⟨rfl,rfl,λA=> ?_,C++[eA f=Wp f],Zl.2 ⟨y,(XR _).symm,aw⟩,λA=> ?_⟩)⟩
  .unfold bj;rw[ho];dsimp only;rw[g];rfl
  .unfold bH;rw[ho];dsimp only;rw[g];dsimp only[TD.er];grind
 .rename_i id v f;obtain⟨d,j,h⟩:=yf.1 h;obtain⟨w,s,st,e,F,I⟩:=Zyk j;obtain⟨sub,hs,l,C,m,y,J,_⟩:=Xw _ _ _ _ h;obtain⟨M,z⟩:=Za m;refine⟨_,_,_,_,_,z,rfl,rfl,.inr (.inl ⟨rfl,rfl,λA=> ?_,C++[eA f=Wp f],Zl.2 ⟨y,(XR _).symm,aw⟩,λA=> ?_⟩)⟩
  .unfold bj;rw[ho];dsimp only;rw[g];rfl
  .unfold bH;rw[ho];dsimp only;rw[g];dsimp only[TD.er];rw[Z9 F];dsimp only[ah.er];grind
 .cases h
def FJ(P:yg)(t:yc)(lo hi:yO Int)(all:yL TD)(H:yL ah)(K:Kn O):TD->yO O
 |.rv id v s g n=>match P.underlying t,H[id]? with
  |some (.slice e),ab (.row w f _ _ d)=>hi.bind λh=>(aR (d.er (lk H)) f).bind λN=>if(P.cellsOf e=s&&(P.info? e).isSome&&w==v&&f==s&&f !=0)=ae then
    if(ag (0<=lo.getD 0)&&ag (lo.getD 0<=h)&&ag (g+h.toNat<=N))=ae then K all (.rv id v s (g+(lo.getD 0).toNat) (h.toNat - (lo.getD 0).toNat)) H [.raw] 1 else ad else ad
  |_,_=>ad
 |_=>ad
theorem Zyl{t:yc}{x:yp}{lo hi:yO yp}{l j:yO Int}{m:TD}(ho:o.op=.slice t x lo hi ad)(I:bq P ts t x=ab m)(hl:fw P ts lo=ab l)(f:fw P ts hi=ab j)(h:FJ P t l j all H K m=ab out):
 ∃a d H' hs c,K a d H' hs c=ab out/\Good P o ts all H a d H' hs c:=by
 have y:=Zu (L:=lk H) I;have hl:=Q0 (L:=lk H) hl;have f:=Q0 (L:=lk H) f;unfold FJ at h;split at h
 .rename_i id v s J n;split at h
  .rename_i e w T st U d z M;obtain⟨A,Q,E⟩:=yf.1 h;obtain⟨N,W,F⟩:=yf.1 E;obtain⟨X,G⟩:=Za F;obtain⟨g,R⟩:=Za G;clear h E F G;simp only[yi,yP]at g;subst Q;refine⟨_,_,_,_,_,R,rfl,rfl,.inr (.inl ⟨rfl,rfl,λS=> ?_,[0<=l.getD 0,l.getD 0<=A,J+A.toNat<=N],⟨g.1.1,g.1.2,g.2,aw⟩,λS=> ?_⟩)⟩
   .unfold bj;rw[ho];dsimp only;rw[z,y,hl,f];rfl
   .unfold bH;rw[ho];dsimp only;rw[z,y,hl,f];dsimp only[TD.er];rw[yag,yz];dsimp only;rw[Z9 M];dsimp only[ah.er];grind
  .cases h
 .cases h
def py{α β:Type}(o:yO α)(f:α->yO β)(g:yO β):yO β:=
 match o with
 |some a=>f a
 |none=>g
def mF(P:yg)(f:yc)(k:Ty):Bool:=lZ P f&&(k.flat&&mC P 20 f k)
structure rY where
 tid:yc
 k:Ty
 v:Ty
 l:List (k.aU×v.aU)
def rZ(H:yL ah)(id:Nat):yO rY:=
 match H[id]? with
 |some (.map f k v l)=>ab ⟨f,k,v,l⟩
 |_=>ad
theorem FK{id:Nat}{m:rY}(h:rZ H id=ab m):H[id]? =ab (.map m.tid m.k m.v m.l)/\(aJ H)[id]? =ab (.map m.tid (gj m.k.enc m.v.enc m.l)):=by
 unfold rZ at h;split at h
 .rename_i f;cases h;exact⟨f,Z9 f⟩
 .cases h
def FL(x:TD)(k:Ty):yO k.aU:=x.inner.bind λy=>TP.to gm y k
theorem Zyn{L:Lk}{x:TD}{k:Ty}{y:k.aU}(h:FL x k=ab y):x.er L=.p (k.enc y):=by
 obtain⟨p,f,g⟩:=yf.1 h;rw[Xb f,TD.er,vL p k y g]
theorem FM{f:yc}{k:Ty}(h:mF P f k=ae):∀x y:k.aU,k.enc x=k.enc y↔x=y:=by
 simp only[mF,yi]at h;exact λx y=>⟨rK k x y h.2.1,λe=>by rw[e]⟩
theorem pz{f:yc}{k:Ty}(h:mF P f k=ae):∀x:k.aU,bv P 20 f (k.enc x):=by
 simp only[mF,yi]at h;exact rM 20 f k h.2.2
theorem FN{f:yc}{k:Ty}(h:mF P f k=ae):lZ P f=ae:=by
 simp only[mF,yi]at h;exact h.1
def sa(P:yg)(t:yc):yO TP:=
 match bg P t with
 |.p z=>vP P t z
 |_=>ad
theorem FO{t:yc}{z:TP}(h:sa P t=ab z):bg P t=.p z.pe:=by
 unfold sa at h;split at h
 .rename_i y f;rw[f,DI h]
 .cases h
def FP(ok:Bool)(d:TD)(b:Bool):TD:=if ok then .bp [d,.p (.v .bool b)] else d
def FQ(P:yg)(t:yc)(all:yL TD)(H:yL ah)(ok:Bool)(K:Kn O)(j:yc->yO TD):TD->yO O
 |.mp id=>match P.underlying t with
  |some (.map g h)=>(rZ H id).bind λm=>(j g).bind λx=>(FL x m.k).bind λf=>(sa P h).bind λz=>
   if(mF P g m.k&&BB P h)=ae then
    py (@ir m.k.aU m.v.aU (Ty.fe m.k) m.l f) (λy=>K all (FP ok (.p (.v m.v y)) ae) H [.el (m.v.enc y)] 1) (K all (FP ok (.p z) af) H [.raw] 1)
   else ad
  |_=>ad
 |_=>ad
theorem ZuI{L:Lk}{ok:Bool}{d:TD}{b:Bool}:(FP ok d b).er L=if ok then .bp [d.er L,.p (.bool b)] else d.er L:=by
 cases ok <;> rfl
theorem Zv6{t:yc}{x ix:yp}{ok:Bool}{F:TD}(ho:o.op=.lookup t x ix ok)(Q:bq P ts t x=ab F)(h:FQ P t all H ok K (λj=>bq P ts j ix) F=ab out):
 ∃a d H' hs c,K a d H' hs c=ab out/\Good P o ts all H a d H' hs c:=by
 have G:=Zu (L:=lk H) Q;unfold FQ at h;split at h
 .rename_i id;split at h
  .rename_i j X I;obtain⟨m,R,h⟩:=yf.1 h;obtain⟨Y,S,h⟩:=yf.1 h;obtain⟨f,T,h⟩:=yf.1 h;obtain⟨z,U,h⟩:=yf.1 h;obtain⟨g,h⟩:=Za h;rw[yi]at g;obtain⟨Z,J⟩:=FK R;have A:=Zu (L:=lk H) S;rw[Zyn T]at A
   have M:∀hs,bj P o (TD.aG (lk H) ts) hs=ad:=λhs=>by
    unfold bj;rw[ho]
   letI:=Ty.fe m.k
   unfold py at h;split at h
   .rename_i y E
    refine⟨_,_,_,_,_,h,rfl,rfl,.inr (.inl ⟨rfl,rfl,λ_=>M _,[bv P 20 j (m.k.enc f),jc P j (gj m.k.enc m.v.enc m.l),Vi (gj m.k.enc m.v.enc m.l) (m.k.enc f) (ab (m.v.enc y))],
     ⟨pz g.1 f,CX (pz g.1) _,@ZAk _ _ (Ty.fe m.k) _ _ (FM g.1) _ _ _ E,aw⟩,λW=> ?_⟩)⟩
    unfold bH;rw[ho];dsimp only;rw[I,G];dsimp only[TD.er];rw[A,J]
    try dsimp only
    rw[yag,yz]
    try dsimp only
    rw[yW (FN g.1),ZuI];rfl
   .rename_i E
    refine⟨_,_,_,_,_,h,rfl,rfl,.inr (.inl ⟨rfl,rfl,λ_=>M _,[bv P 20 j (m.k.enc f),jc P j (gj m.k.enc m.v.enc m.l),Vi (gj m.k.enc m.v.enc m.l) (m.k.enc f) ad],
     ⟨pz g.1 f,CX (pz g.1) _,@ZAl _ _ (Ty.fe m.k) _ _ (FM g.1) _ _ (by rw[E];rfl),aw⟩,λW=> ?_⟩)⟩
    unfold bH;rw[ho];dsimp only;rw[I,G];dsimp only[TD.er];rw[A,J]
    try dsimp only
    rw[yag,yz]
    try dsimp only
    rw[yW (by rw[FN g.1,g.2];rfl),ZuI,FO U];rfl
  .cases h
 .cases h
def FR(P:yg)(t:yc)(all:yL TD)(H:yL ah)(K:Kn O):TD->yO O
 |.mp id=>match P.underlying t with
  |some (.map _ _)=>(rZ H id).bind λm=>K all (.p (.v (.int .i64) (m.l.length:Int))) H [] 1
  |_=>ad
 |_=>ad
theorem Zv8{t:yc}{x:yp}{c:Call}{f:TD}(ho:o.op=.call c)(hc:c.callee=.builtin .len)(ha:c.args.toList=[x])(ht:c.argTypes.toList=[t])(g:bq P ts t x=ab f)(h:FR P t all H K f=ab out):
 ∃a d H' hs c,K a d H' hs c=ab out/\Good P o ts all H a d H' hs c:=by
 have j:=Zu (L:=lk H) g;unfold FR at h;split at h
 .rename_i id;split at h
  .rename_i E F l;obtain⟨m,y,h⟩:=yf.1 h;obtain⟨G,z⟩:=FK y;refine⟨_,_,_,_,_,h,rfl,rfl,.inr (.inl ⟨rfl,rfl,λA=> ?_,[],zP,λA=> ?_⟩)⟩
   .unfold bj;grind
   .unfold bH;rw[ho];dsimp only;rw[hc];dsimp only;rw[ha,ht];dsimp only;rw[l,j];dsimp only[TD.er];rw[z];simp[TP.pe,Ty.enc,gj]
  .cases h
 .cases h
theorem sb{e:ah}(h:e.fH=af):TD.aG (lk (H++[e])) all=TD.aG (lk H) all:=by rw[lB h]
theorem Zyp{T:Ty}{e:yc}:TD.aG (lk (H++[.log T e []])) all=TD.aG (lk H) all:=(cE (λid t=>we id t) all).symm
theorem pA{e:ah}(h:TD.frees H.length all=ae):TD.aG (lk (H++[e])) all=TD.aG (lk H) all:=(dg (λid t f=>lC id t f) all h).symm
theorem pB{T:Ty}{e:yc}{l:yL T.aU}:Yh (lk (H++[.log T e l])) H.length T ad=l:=by
 unfold Yh lk;dsimp only;rw[List.getElem?_concat_length];show(Ty.bw T T l).getD []=l;unfold Ty.bw;split
 all_goals grind
def FS(P:yg)(t:yc)(dst:Tmp)(all:yL TD)(H:yL ah)(K:Kn O):TD->yO O
 |.p (.sl (ab af) T [])=>match P.underlying t with
  |some (.slice e)=>(P.info? e).bind λi=>if(cu i&&i.size !=0&&ag (i.size=T.size))=ae then K all (.own H.length ad T ad) (H++[.log T e []]) [.fresh dst] 2 else ad
  |_=>ad
 |_=>ad
theorem Zyq{x:yp}{dst:Tmp}{g:TD}(ho:o.op=.assign x)(hd:o.dst=ab dst)(l:bq P ts o.type x=ab g)(h:FS P o.type dst all H K g=ab out):
 ∃a d H' hs c,K a d H' hs c=ab out/\Good P o ts all H a d H' hs c:=by
 have m:=Zu (L:=lk H) l;unfold FS at h;split at h
 .rename_i T;split at h
  .rename_i e y;obtain⟨i,z,h⟩:=yf.1 h;obtain⟨f,h⟩:=Za h;simp only[yi,yP]at f;refine⟨_,_,_,_,_,h,Zyp,rfl,dY (⟨rfl,λj=> ?_,λj=> ?_,[],zP,λj=> ?_⟩)⟩
   .unfold bj;rw[ho];rfl
   .unfold bH;rw[ho]
   .unfold cX;rw[ho];dsimp only;rw[yag,yz];dsimp only;rw[yW hd,y,m,show(TD.p (TP.sl (ab af) T [])).er (lk H)=Dv.p (.sl (ab af) T.size []) from rfl]
    dsimp only;rw[z];dsimp only;rw[yW (by simpa using f.1),FE,Z2,TD.er,pB,f.2];rfl
  .cases h
 .cases h
def FT(P:yg)(t:yc)(all:yL TD)(H:yL ah)(K:Kn O):yO O:=
 match P.underlying t with
 |some (.map f g)=>(gH P iu f).bind λk=>(gH P iu g).bind λv=>K all (.mp H.length) (H++[.map t k v []]) [] 2
 |_=>ad
theorem ZtA{t:yc}(ho:o.op=.makeMap t ad)(h:FT P t all H K=ab out):∃a d H' hs c,K a d H' hs c=ab out/\Good P o ts all H a d H' hs c:=by
 unfold FT at h;split at h
 .rename_i g j l;obtain⟨k,m,h⟩:=yf.1 h;obtain⟨v,y,h⟩:=yf.1 h;refine⟨_,_,_,_,_,h,sb rfl,rfl,dY (⟨rfl,λf=> ?_,λf=> ?_,[],zP,λf=> ?_⟩)⟩
  .unfold bj;rw[ho]
  .unfold bH;rw[ho]
  .unfold cX;rw[ho];dsimp only;rw[nW (lB rfl),Z2];rfl
 .cases h
def mG(n:Int)(b:Nat):Bool:=ag (0<=n)&&nT n.toNat b
def FU(P:yg)(t:yc)(own row:Bool)(n f:Int)(all:yL TD)(H:yL ah)(K:Kn O):yO O:=
 match P.underlying t with
 |some (.slice e)=>(P.info? e).bind λi=>(gH P iu e).bind λT=>
  if row then
   if(cu i&&i.size !=0&&ag (i.size=T.size))=ae then if(ag (n=0)&&mG f i.bytes)=ae then K all (.rv H.length 0 i.size 0 0) (H++[.row 0 i.size ae e (.p (.v (.arr 0 T) []))]) [.arr] 2 else ad else ad
  else if own then
   if(cu i&&i.size !=0&&ag (i.size=T.size))=ae then if(ag (n=0)&&mG f i.bytes)=ae then K all (.own H.length (ab ae) T ad) (H++[.log T e []]) [.own] 2 else ad else ad
  else(sa P e).bind λz=>(TP.to gm z T).bind λy=>
   if(cu i&&ag (i.size=1)&&z.pe.size==1&& !z.pe.isAgg&&ag (T.size=1))=ae then if(ag (f=n)&&mG n i.bytes)=ae then
    K all (.view H.length [] 1 0 n.toNat) (H++[.var (.p (.v (.arr n.toNat T) (yx n.toNat y))) ae]) [.raw] 2 else ad else ad
 |_=>ad
theorem Zqa{t:yc}{l c:yp}{n j:Num}{own row:Bool}(ho:o.op=.makeSlice t l c)(hl:(bq P ts 0 l).bind TD.num=ab n)(hc:(bq P ts 0 c).bind TD.num=ab j)(S:n.k=.i64)(I:j.k=.i64)
 (h:FU P t own row n.n j.n all H K=ab out):∃a d H' hs c,K a d H' hs c=ab out/\Good P o ts all H a d H' hs c:=by
 obtain⟨ld,U,W⟩:=yf.1 hl;obtain⟨cd,X,Y⟩:=yf.1 hc;have F:=Zu (L:=lk H) U;have G:=Zu (L:=lk H) X;rw[Q1 W,S]at F;rw[Q1 Y,I]at G;unfold FU at h;have J:∀hs,bj P o (TD.aG (lk H) ts) hs=ad:=λhs=>by unfold bj;rw[ho]
 have M:∀hs,bH P o (TD.aG (lk H) ts) (aJ H) hs=ad:=λhs=>by unfold bH;rw[ho]
 split at h
 .rename_i e Q;obtain⟨i,R,h⟩:=yf.1 h;obtain⟨T,h2,h⟩:=yf.1 h;split at h
  .obtain⟨g,h⟩:=Za h;obtain⟨f,h⟩:=Za h;simp only[yi,yP]at g;simp only[mG,yi,yP]at f;obtain⟨A,E⟩:=mA f.2.2;refine⟨_,_,_,_,_,h,sb rfl,rfl,dY (⟨rfl,λm=>J _,λm=>M _,[n.n=0,0<=j.n,j.n.toNat*i.bytes<=Zt,j.n.toNat<=maxLen],⟨f.1,f.2.1,A,E,aw⟩,λm=> ?_⟩)⟩;unfold cX;rw[ho];dsimp only;rw[Q,F,G];dsimp only;rw[R,yag,yz];dsimp only;rw[yW (by simpa using g.1),nW (lB rfl),Z2];simp only[ah.er,TD.er,TP.pe,DC,g.2];rfl
  split at h
  .obtain⟨g,h⟩:=Za h;obtain⟨f,h⟩:=Za h;simp only[yi,yP]at g;simp only[mG,yi,yP]at f;obtain⟨A,E⟩:=mA f.2.2;refine⟨_,_,_,_,_,h,Zyp,rfl,dY (⟨rfl,λm=>J _,λm=>M _,[n.n=0,0<=j.n,j.n.toNat*i.bytes<=Zt,j.n.toNat<=maxLen],⟨f.1,f.2.1,A,E,aw⟩,λm=> ?_⟩)⟩;unfold cX;rw[ho];dsimp only;rw[Q,F,G];dsimp only;rw[R,yag,yz];dsimp only;rw[yW (by simpa using g.1),FE,Z2,TD.er,pB,g.2];rfl
  .obtain⟨z,Z,h⟩:=yf.1 h;obtain⟨y,z2,h⟩:=yf.1 h;obtain⟨g,h⟩:=Za h;obtain⟨f,h⟩:=Za h;simp only[yi,yP,yT]at g;simp only[mG,yi,yP]at f;obtain⟨A,E⟩:=mA f.2.2;refine⟨_,_,_,_,_,h,sb rfl,rfl,dY (⟨rfl,λm=>J _,λm=>M _,[j.n=n.n,0<=n.n,n.n.toNat*i.bytes<=Zt,n.n.toNat<=maxLen],⟨f.1,f.2.1,A,E,aw⟩,λm=> ?_⟩)⟩;unfold cX;rw[ho];dsimp only;rw[Q,F,G];dsimp only;rw[R,yag,yz];dsimp only;rw[FO Z];dsimp only;rw[yW (by simp only[yi,yP];exact g.1),nW (lB rfl),Z2,vL z T y z2];simp only[ah.er,TD.er,TP.pe,Wp,List.map_nil,List.foldl_nil];congr 5;show _=[aq.var (Dv.p (Pl.arr n.n.toNat T.size (List.map T.enc (yx n.n.toNat y)))) ae];rw[List.map_replicate,g.2]
 .cases h
end
end Go.Ev
end
section
namespace Go.Ev
section
variable{P:yg}{o:yj}{ts all:yL TD}{H:yL ah}{O:Type}{K:Kn O}{out:O}
theorem nZ{id:Nat}{e x:ah}(f:H[id]? =ab x)(h1:x.fH=af)(h2:e.fH=af):TD.aG (lk (H.set id e)) all=TD.aG (lk H) all:=by rw[Vu f h1 h2]
def FV(P:yg)(t:yc)(all:yL TD)(H:yL ah)(K:Kn O)(h j:yc->yO TD):TD->yO O
 |.mp id=>match P.underlying t with
  |some (.map g A)=>(rZ H id).bind λm=>(h g).bind λx=>(FL x m.k).bind λf=>((j A).bind (TD.flat (lk H))).bind λz=>(TP.to jL z m.v).bind λy=>
   if mF P g m.k=ae then K all .an (H.set id (.map m.tid m.k m.v (@jj m.k.aU m.v.aU (Ty.fe m.k) m.l f y))) [.bS (gj m.k.enc m.v.enc (@jj m.k.aU m.v.aU (Ty.fe m.k) m.l f y))] 2 else ad
  |_=>ad
 |_=>ad
theorem Zwa{t:yc}{x k v:yp}{F:TD}(ho:o.op=.mapUpdate t x k v)(Q:bq P ts t x=ab F)(h:FV P t all H K (λg=>bq P ts g k) (λG=>bq P ts G v) F=ab out):
 ∃a d H' hs c,K a d H' hs c=ab out/\Good P o ts all H a d H' hs c:=by
 have R:=Zu (L:=lk H) Q;unfold FV at h;split at h
 .rename_i id;split at h
  .rename_i g G S;obtain⟨m,T,h⟩:=yf.1 h;obtain⟨kd,U,h⟩:=yf.1 h;obtain⟨f,W,h⟩:=yf.1 h;obtain⟨z,X,h⟩:=yf.1 h;obtain⟨zd,A,E⟩:=yf.1 X;obtain⟨y,Y,h⟩:=yf.1 h;obtain⟨j,h⟩:=Za h;obtain⟨I,Z⟩:=FK T;have J:=Zu (L:=lk H) U;rw[Zyn W]at J;have hz:=Zu (L:=lk H) A
   letI:=Ty.fe m.k
   refine⟨_,_,_,_,_,h,nZ I rfl rfl,rfl,dY (⟨rfl,λM=> ?_,λM=> ?_,[bv P 20 g (m.k.enc f),jc P g (gj m.k.enc m.v.enc m.l),gz (gj m.k.enc m.v.enc m.l) (m.k.enc f) z.pe.soft (gj m.k.enc m.v.enc (jj m.l f y))],
    ⟨pz j f,CX (pz j) _,by rw[nQ z m.v y Y];exact Zrp (FM j) _ _ _,aw⟩,λM=> ?_⟩)⟩
   .unfold bj;rw[ho]
   .unfold bH;rw[ho]
   .unfold cX;rw[ho];dsimp only;rw[S,R];dsimp only[TD.er];rw[J,hz,DJ E,Z]
    try dsimp only
    rw[yag,yz]
    try dsimp only
    rw[yW (FN j),Xs (Vu I rfl rfl)];rfl
  .cases h
 .cases h
def TP.jN(x:TP)(T:Ty):Bool:=
 match x with
 |.sl (ab af) t []=>ag (t.size=T.size)
 |_=>af
theorem FW{x:TP}{T:Ty}(h:x.jN T=ae):x.pe=.sl (ab af) T.size []:=by
 unfold TP.jN at h;split at h
 .rename_i t;show Pl.sl (ab af) t.size []=_;grind
 .cases h
def jO(T:Ty)(new:TD):yL Nat->TD->yO TD
 |[],.p x=>if x.jN T then ab new else ad
 |i::r,.p x=>x.parts.bind λl=>(l[i]?).bind λz=>(jO T new r (.p z)).map λy=>.agg ((l.map .p).set i y)
 |i::r,.agg f=>(f[i]?).bind λz=>(jO T new r z).map λy=>.agg (f.set i y)
 |_,_=>ad
theorem pC{L:Lk}{T:Ty}{new:TD}:∀(yQ:yL Nat)(d d':TD),jO T new yQ d=ab d'->Xr (d.er L) yQ T.size (new.er L)=ab (d'.er L)
 |[],d,d',h=>by
  cases d with
  |p x=>
   simp only[jO]at h;split at h
   .rename_i j;cases h;rw[TD.er,FW j];simp[Xr]
   .cases h
  |_=>cases h
 |i::r,d,d',h=>by
  cases d with
  |p x=>
   simp only[jO]at h;obtain⟨l,m,h⟩:=yf.1 h;obtain⟨z,f,h⟩:=yf.1 h;obtain⟨y,g,rfl⟩:=Ze h;have:=pC (L:=L) r (.p z) y g;rw[TD.er,DB m];unfold Xr;rw[show(TP.cl l)[i]? =ab z.pe by rw[W0,yao,f];rfl];dsimp only;rw[TD.er]at this
   rw[this,yae,TD.er,ZO,ybn, <-ZO,ET]
  |agg A=>
   simp only[jO]at h;obtain⟨z,f,h⟩:=yf.1 h;obtain⟨y,g,rfl⟩:=Ze h;have:=pC (L:=L) r z y g;rw[TD.er];unfold Xr;rw[lx f];dsimp only
   rw[this,yae,TD.er,ZO,ZO,ybn]
  |_=>cases h
def sd(d:TD)(n:Nat):yL (yL Nat×Ty×yc)->yO (TD×yL (Ty×yc))
 |[]=>ab (d,[])
 |q::r=>(jO q.2.1 (.own n ad q.2.1 ad) q.1 d).bind λf=>(sd f (n+1) r).map λz=>(z.1,(q.2.1,q.2.2)::z.2)
def se(l:yL (yL Nat×Ty×yc)):yL ao:=l.map λq=>.cq q.1 q.2.1.size q.2.2
def mH(l:yL (Ty×yc)):yL ah:=l.map λq=>.log q.1 q.2 []
def ZFI(L:Lk)(n:Nat):Prop:=∀id t,n<=id->Yh L id t ad=[]
theorem FX{L:Lk}:∀(l:yL (yL Nat×Ty×yc))(d:TD)(n:Nat)(z:TD×yL (Ty×yc)),ZFI L n->sd d n l=ab z->∀yK,
 Yx (d.er L) n (se l++.raw::yK)=(z.1.er L,z.2.map (λq=>aq.log q.1.size q.2 []),.raw::yK)
 |[],d,n,z,f,h,yK=>by cases h;rfl
 |q::r,d,n,z,f,h,yK=>by
  simp only[sd]at h;obtain⟨g,j,h⟩:=yf.1 h;obtain⟨w,m,rfl⟩:=Ze h;have e:=pC (L:=L) q.1 d g j;rw[TD.er,f n q.2.1 (ym _)]at e;have y:=FX r g (n+1) w (λid t h=>f id t (by omega)) m yK;show Yx (d.er L) n (.cq q.1 q.2.1.size q.2.2::(se r++.raw::yK))=_;unfold Yx;grind
theorem ZFJ(H:yL ah):ZFI (lk H) H.length:=λid t h=>by
 unfold Yh lk;rw[ybz h];rfl
theorem FY:∀(l:yL (Ty×yc))(H:yL ah),(∀id t,Yh (lk H) id t ad=Yh (lk (H++mH l)) id t ad)/\aJ (H++mH l)=aJ H++l.map (λq=>aq.log q.1.size q.2 [])
 |[],H=>by simp[mH]
 |q::l,H=>by
  have e:H++mH (q::l)=(H++[.log q.1 q.2 []])++mH l:=by simp[mH]
  obtain⟨f,g⟩:=FY l (H++[.log q.1 q.2 []]);rw[e];refine⟨λid t=>(we id t).trans (f id t), ?_⟩;rw[g,FE];simp
def newVar(hi:HI)(dst:yO Tmp)(d:TD)(all:yL TD)(H:yL ah)(K:Kn O):yO O:=
 match dst with
 |some t=>match hi.cq.lookup t with
  |some l=>(sd d (H.length+1) l).bind λz=>K all (.aj H.length []) (H++[.var z.1 ae]++mH z.2) (se l++[.raw]) 2
  |none=>K all (.aj H.length []) (H++[.var d ae]) [.raw] 2
 |none=>ad
theorem Zpn{hi:HI}{dst:yO Tmp}{d:TD}(h:newVar hi dst d all H K=ab out):
 ∃H' hs f g,K all (.aj H.length []) H' hs 2=ab out/\TD.aG (lk H') all=TD.aG (lk H) all/\aJ H'=aJ H++aq.var f ae::g/\∀yK,Yx (d.er (lk H)) ((aJ H).length+1) (hs++yK)=(f,g,.raw::yK):=by
 unfold newVar at h;split at h
 .rename_i t;split at h
  .rename_i l E;obtain⟨z,m,h⟩:=yf.1 h;obtain⟨y,A⟩:=FY z.2 (H++[.var z.1 ae]);have j:lk (H++[.var z.1 ae])=lk H:=lB rfl;refine⟨_,_,z.1.er (lk H),z.2.map (λq=>aq.log q.1.size q.2 []),h, ?_, ?_,λyK=> ?_⟩
   .rw[<-cE y all,j]
   .rw[A,nW j];simp[ah.er]
   .rw[Z2,yac];exact FX l d _ z (λid t F=>ZFJ H id t (by omega)) m yK
  .refine⟨_,_,d.er (lk H),[],h,sb rfl, ?_,λyK=> ?_⟩
   .rw[nW (lB rfl)];rfl
   .rfl
 .cases h
def ZAG(P:yg)(hi:HI)(dst:yO Tmp)(t:yc)(all:yL TD)(H:yL ah)(K:Kn O):yO O:=
 (P.info? t).bind λi=>(sa P t).bind λz=>if(cu i&&gi P t (bg P t)&&(bg P t).bF)=ae then newVar hi dst (.p z) all H K else ad
theorem Zys{hi:HI}{t:yc}(ho:o.op=.alloc t)(h:ZAG P hi o.dst t all H K=ab out):∃a d H' hs c,K a d H' hs c=ab out/\Good P o ts all H a d H' hs c:=by
 unfold ZAG at h;obtain⟨i,j,h⟩:=yf.1 h;obtain⟨z,l,h⟩:=yf.1 h;obtain⟨m,h⟩:=Za h;obtain⟨H',hs,G,I,y,A,E,F⟩:=Zpn h;refine⟨_,_,_,_,_,y,A,rfl,dY (⟨rfl,λf=> ?_,λf=> ?_,[],zP,λf=> ?_⟩)⟩
 .unfold bj;rw[ho]
 .unfold bH;rw[ho]
 .have g:=F f;rw[TD.er, <-FO l]at g;unfold cX;rw[ho];dsimp only;rw[j];dsimp only;rw[g];dsimp only;rw[yW m,E,Z2];rfl
def wg(L:Lk)(d:TD):TD:=
 match d.plain L with
 |some y=>.p y
 |none=>d
theorem ZIF{L:Lk}(d:TD):(wg L d).er L=nr (d.er L):=by
 unfold wg nr
 cases h:d.plain L with
 |none=>rw[Zrz h]
 |some y=>rw[ZuE h];rfl
def FZ(hi:HI)(dst:yO Tmp)(all:yL TD)(H:yL ah)(K:Kn O)(d:TD):yO O:=
 if((wg (lk H) d).er (lk H)).bF=ae then newVar hi dst (wg (lk H) d) all H K else ad
theorem ZDD{hi:HI}{t:yc}{x:yp}{g:TD}(ho:o.op=.box t x)(m:bq P ts t x=ab g)(h:FZ hi o.dst all H K g=ab out):∃a d H' hs c,K a d H' hs c=ab out/\Good P o ts all H a d H' hs c:=by
 have y:=Zu (L:=lk H) m;unfold FZ at h;obtain⟨j,h⟩:=Za h;obtain⟨H',hs,G,I,z,A,E,F⟩:=Zpn h;refine⟨_,_,_,_,_,z,A,rfl,dY (⟨rfl,λf=> ?_,λf=> ?_,[],zP,λf=> ?_⟩)⟩
 .unfold bj;rw[ho]
 .unfold bH;rw[ho]
 .have l:=F f;rw[ZIF]at l j;unfold cX;rw[ho];dsimp only;rw[y,l];dsimp only;rw[yW j,E,Z2];rfl
def TD.cW(L:Lk)(v:TD):TD:=
 match v.flat L with
 |some x=>.p x
 |none=>v
theorem GA{L:Lk}(v:TD):(v.cW L).er L=(v.er L).cW:=by
 unfold TD.cW Dv.cW;rw[rI];cases v.flat L <;> rfl
def wh(L:Lk)(yQ:yL cg)(d v:TD):yO TD:=
 match d,yQ with
 |.p _,_=>ab (v.cW L)
 |_,[]=>ab (v.cW L)
 |_,_=>ab v
theorem GB{L:Lk}{yQ:yL cg}{d v new:TD}(h:wh L yQ d v=ab new):jf (yQ.map cg.i) (d.er L) (v.er L)=ab (new.er L):=by
 unfold wh at h;split at h
 .cases h;unfold jf;rw[TD.er];dsimp only;rw[GA]
 .cases h;unfold jf;split
  .rw[GA]
  .simp only[List.map_nil];rw[GA]
 .rename_i g j;cases h;unfold jf;split
  .rename_i z f;cases d <;> first|cases f|skip
   grind
  simp_all
def mI(P:yg)(t:yc)(new sub:Dv):Bool:=new.bF&&new.size==sub.size&&P.cellsOf t==new.size&&(P.info? t).isSome&&new.isAgg==sub.isAgg
def ZMs(hi:HI):yp->yL (yL Nat×Ty×yc)
 |.tmp t=>(hi.gR.lookup t).getD []
 |_=>[]
def GC(P:yg)(gs:yL (yL Nat×Ty×yc))(t:yc)(all:yL TD)(H:yL ah)(K:Kn O)(v:TD):TD->yO O
 |.aj id h=>match H[id]? with
  |some (.var d ae)=>fm (lk H) h d λsub hs g=>(wh (lk H) h d v).bind λf=>(g f).bind λj=>(sd j H.length gs).bind λz=>
   if mI P t (f.er (lk H)) (sub.er (lk H))=ae then K all .an (H.set id (.var z.1 ae)++mH z.2) (hs++(se gs++[.raw])) 2 else ad
  |_=>ad
 |.aZ id l h=>match H[id]? with
  |some (.row w s ae e d)=>fm (lk H) h d λsub hs g=>(wh (lk H) h d v).bind λf=>(g f).bind λj=>
   if(mI P t (f.er (lk H)) (sub.er (lk H))&&w==l&&aR (j.er (lk H)) s==aR (d.er (lk H)) s)=ae then K all .an (H.set id (.row l s ae e j)) hs 2 else ad
  |_=>ad
 |_=>ad
theorem Zyt{gs:yL (yL Nat×Ty×yc)}{t:yc}{x y:yp}{W X:TD}(ho:o.op=.store t x y)(hx:bq P ts 0 x=ab W)(hy:bq P ts t y=ab X)(h:GC P gs t all H K X W=ab out):
 ∃a d H' hs c,K a d H' hs c=ab out/\Good P o ts all H a d H' hs c:=by
 have Y:=Zu (L:=lk H) hx;have Z:=Zu (L:=lk H) hy;unfold GC at h;split at h
 .rename_i id E;split at h
  .rename_i d A;obtain⟨sub,hs,I,C,J,M,Q,R⟩:=Xw _ _ _ _ h;obtain⟨j,S,f⟩:=yf.1 J;obtain⟨F,T,f⟩:=yf.1 f;obtain⟨z,U,f⟩:=yf.1 f;obtain⟨l,f⟩:=Za f;unfold mI at l;obtain⟨g1,g2⟩:=FY z.2 (H.set id (.var z.1 ae));have G:lk (H.set id (.var z.1 ae))=lk H:=Vu A rfl rfl;refine⟨_,_,_,_,_,f, ?_,rfl,dY (⟨rfl,λg=> ?_,λg=> ?_,C++[eA E=Wp E],Zl.2 ⟨M,(XR _).symm,aw⟩,λg=> ?_⟩)⟩
   .rw[<-cE g1 all,G]
   .unfold bj;rw[ho]
   .unfold bH;rw[ho]
   .have k5:=FX gs F H.length z (ZFJ H) U g;unfold cX;rw[ho];dsimp only;rw[Y,Z];dsimp only[TD.er];rw[Z9 A];dsimp only[ah.er];rw[yac,Q (se gs++[ao.raw]++g)];dsimp only;rw[GB S];dsimp only;rw[R j F T _];dsimp only;rw[yW l,Z2,yac];rw[show([ao.raw]++g)=.raw::g from rfl,k5]
    dsimp only;rw[g2,Xs G];rfl
  .cases h
 .rename_i id v' E;split at h
  .rename_i w s e d A;obtain⟨sub,hs,I,C,J,M,Q,R⟩:=Xw _ _ _ _ h;obtain⟨j,S,f⟩:=yf.1 J;obtain⟨F,T,f⟩:=yf.1 f;obtain⟨l,f⟩:=Za f;rw[yi,yi]at l;obtain⟨⟨l,U⟩,h6⟩:=l;have m:=l;unfold mI at m;have G:lk (H.set id (.row v' s ae e F))=lk H:=Vu A rfl rfl;refine⟨_,_,_,_,_,f,nZ A rfl rfl,rfl,dY (⟨rfl,λg=> ?_,λg=> ?_,C++[eA E=Wp E],Zl.2 ⟨M,(XR _).symm,aw⟩,λg=> ?_⟩)⟩
   .unfold bj;rw[ho]
   .unfold bH;rw[ho]
   .unfold cX;rw[ho];dsimp only;rw[Y,Z];dsimp only[TD.er];rw[Z9 A];dsimp only[ah.er];rw[Q g];dsimp only;rw[GB S];dsimp only;rw[R j F T _];dsimp only;rw[yW (by simp only[yi]at m ⊢;exact⟨⟨m,U⟩,h6⟩),Xs G];rfl
  .cases h
 .cases h
def GD(P:yg)(ts:yL TD)(t:yc)(len:Nat)(parts:yL (Nat×yp))(all:yL TD)(H:yL ah)(K:Kn O):yO O:=
 pr (lk H) P ts t len parts λT l e=>if(TD.frees H.length all&&H.all (ah.free H.length))=ae then K all (.own H.length (ab ae) T ad) (H++[.log T e l]) [.own] 2 else ad
theorem Zwe{t:yc}{len:Nat}{parts:Array (Nat×yp)}(ho:o.op=.buildSlice t len parts)(h:GD P ts t len parts.toList all H K=ab out):
 ∃a d H' hs c,K a d H' hs c=ab out/\Good P o ts all H a d H' hs c:=by
 unfold GD at h;obtain⟨e,T,l,i,F,f,m,y,z,A,hs,E⟩:=wc h;obtain⟨g,f⟩:=Za f;rw[yi]at g;refine⟨_,_,_,_,_,f,pA g.1,rfl,dY (⟨rfl,λj=> ?_,λj=> ?_,[],zP,λj=> ?_⟩)⟩
 .unfold bj;rw[ho];rfl
 .unfold bH;rw[ho]
 .unfold cX;rw[ho];dsimp only;rw[yag,yz];dsimp only;rw[m];dsimp only;rw[y,z];dsimp only;rw[yW (by simpa using A),E,ZB3 g.2,Z2,TD.er,pB,hs]
def sf(P:yg)(T:Ty)(u:yc)(H:yL ah)(K:yL T.aU->yL ao->yO O)(x:TD):yO O:=
 match x with
 |.view id f s lo n=>match P.underlying u with
  |some (.slice _)=>(nY H id).bind λd=>fm (lk H) f d λsub hs _=>sub.inner.bind λy=>y.dS.bind λr=>(Ty.bw r.t T r.l).bind λl=>
   if(ag (s=T.size))=ae then if(ag (lo+n<=r.n))=ae then K ((l.drop lo).take n) hs else ad else ad
  |_=>ad
 |.rv id v s lo n=>match P.underlying u,H[id]? with
  |some (.slice _),ab (.row w g _ _ d)=>d.inner.bind λy=>y.dS.bind λr=>(Ty.bw r.t T r.l).bind λl=>
   if(ag (s=T.size)&&ag (g=T.size)&&w==v)=ae then if(ag (lo+n<=r.n))=ae then K ((l.drop lo).take n) [] else ad else ad
  |_,_=>ad
 |.rw id=>match P.underlying u,H[id]? with
  |some (.slice _),ab (.aY T' v st e h)=>(Ty.bw T' T h).bind λl=>K l []
  |_,_=>ad
 |x=>(mE (lk H) P T u x).bind λl=>K l []
theorem GF{T:Ty}{u:yc}{x:TD}{K:yL T.aU->yL ao->yO O}(h:sf P T u H K x=ab out):
 ∃l hs C,K l hs=ab out/\aX C/\∀yK,iM P T.size u (aJ H) (hs++yK) (x.er (lk H))=ab (C,l.map T.enc,yK):=by
 unfold sf at h;split at h
 .rename_i id M s lo n;split at h
  .rename_i e A;obtain⟨d,G,h⟩:=yf.1 h;obtain⟨st,Y,Z⟩:=rX G;obtain⟨sub,hs,Q,C,g,R,k3,_⟩:=Xw _ _ _ _ h;obtain⟨y,I,g⟩:=yf.1 g;obtain⟨r,J,g⟩:=yf.1 g;obtain⟨l,j,g⟩:=yf.1 g;obtain⟨E,g⟩:=Za g;obtain⟨z,g⟩:=Za g;have E:=yF E;have z:=yF z
   have m:sub.er (lk H)=.p (.arr r.n T.size (l.map T.enc)):=by
    rw[Xb I,TD.er,jm J];obtain⟨e,j⟩:=ZI j;grind
   refine⟨_,_,C++[eA M=Wp M,lo+n<=r.n],g,Zl.2 ⟨R,(XR _).symm,z,aw⟩,λyK=> ?_⟩;unfold iM;rw[TD.er];simp_all
  .cases h
 .rename_i id v s lo n;split at h
  .rename_i e w s' st S d A F;obtain⟨y,I,g⟩:=yf.1 h;obtain⟨r,J,g⟩:=yf.1 g;obtain⟨l,j,g⟩:=yf.1 g;obtain⟨E,g⟩:=Za g;obtain⟨z,g⟩:=Za g;simp only[yi,yP]at E;have z:=yF z
   have m:d.er (lk H)=.p (.arr r.n T.size (l.map T.enc)):=by
    rw[Xb I,TD.er,jm J];obtain⟨e,j⟩:=ZI j;grind
   refine⟨_,_,[lo+n<=r.n],g,⟨z,aw⟩,λyK=> ?_⟩;unfold iM;rw[TD.er];dsimp only;rw[A,Z9 F,ah.er,m];simp_all
  .cases h
 .rename_i id;split at h
  .rename_i e T' v st S l' A F;obtain⟨l,j,g⟩:=yf.1 h;obtain⟨U,j⟩:=ZI j;subst U;subst j;refine⟨l,[],[0+l.length<=l.length],g,⟨by omega,aw⟩,λyK=> ?_⟩;unfold iM;rw[(gK F).1];dsimp only;rw[A,Z9 F,ah.er];dsimp only;rw[yW (by simp),List.drop_zero, <-yad (f:=T'.enc),yai];simp
  .cases h
 .rename_i hx W X;obtain⟨l,G,h⟩:=yf.1 h;refine⟨l,[],[],h,zP,λyK=> ?_⟩;rw[yz];unfold iM;split
  .rename_i e;cases x <;> first|cases e|skip
   grind
  .rename_i e;cases x <;> first|cases e|skip
   all_goals grind
  .rw[pu G];rfl
structure sg where
 t:Ty
 e:yc
 l:List t.aU
def GG(H:yL ah)(id:Nat):yO sg:=
 match H[id]? with
 |some (.log t e l)=>ab ⟨t,e,l⟩
 |_=>ad
theorem ZAI{id:Nat}{m:sg}(h:GG H id=ab m):H[id]? =ab (.log m.t m.e m.l):=by
 unfold GG at h
 all_goals grind
def cj(n m b:Nat):Bool:=ag ((n+m)*b<=Zt)&&ag (n+m<=maxLen)
def GH(P:yg)(own row:Bool)(t u:yc)(all:yL TD)(H:yL ah)(K:Kn O)(y:TD):TD->yO O
 |.own id z T ad=>match P.underlying t with
  |some (.slice e)=>(P.info? e).bind λi=>(GG H id).bind λm=>(Ty.bw m.t T m.l).bind λzs=>sf P T u H (λf hs=>
   if(cu i&&ag (i.size=T.size)&&ag (m.e=e)&&ag (T.size≠0))=ae then if cj zs.length f.length i.bytes=ae then
    K (TD.cF (lk H) id all) (.own id ad T ad) ((H.map (ah.stale (lk H) id)).set id (.log T e (zs++f))) hs 2 else ad else ad) y
  |_=>ad
 |.rv id v s lo n=>match P.underlying t with
  |some (.slice e)=>(P.info? e).bind λi=>(gH P iu e).bind λT=>sf P T u H (λf hs=>if f.isEmpty=ae then
    if(cu i&&ag (P.cellsOf e=T.size))=ae then K all (.rv id v s lo n) H (.bare::hs) 2 else ad
   else match H[id]? with
    |some (.row w g ae h d)=>d.inner.bind λy0=>y0.dS.bind λr=>(Ty.bw r.t T r.l).bind λj=>
     if(cu i&&ag (i.size=T.size)&&ag (g=T.size)&&ag (h=e)&&ag (T.size≠0)&&w==v&&ag (lo=0)&&ag (s=T.size))=ae then if(ag (n<=r.n)&&cj n f.length i.bytes)=ae then
      K all (.rv id (v+1) s 0 (n+f.length)) (H.set id (.row (v+1) s ae e (.p (.v (.arr (n+f.length) T) (j.take n++f))))) (.raw::hs) 2 else ad else ad
    |_=>ad) y
  |_=>ad
 |.p (.sl (ab af) _ [])=>if row then match P.underlying t with
  |some (.slice e)=>(P.info? e).bind λi=>(gH P iu e).bind λT=>(mE (lk H) P T u y).bind λf=>
   if(cu i&&i.size !=0&&ag (i.size=T.size)&&ag (P.cellsOf e=T.size))=ae then if nT f.length i.bytes=ae then
    K all (.rv H.length 0 i.size 0 f.length) (H++[.row 0 i.size ae e (.p (.v (.arr f.length T) f))]) [.arr] 2 else ad else ad
  |_=>ad else if own then match P.underlying t with
  |some (.slice e)=>(P.info? e).bind λi=>(gH P iu e).bind λT=>(mE (lk H) P T u y).bind λf=>
   if(cu i&&i.size !=0&&ag (i.size=T.size)&&ag (P.cellsOf e=T.size)&&TD.frees H.length all&&H.all (ah.free H.length))=ae then if nT f.length i.bytes=ae then
    K all (.own H.length ad T ad) (H++[.log T e f]) [.own] 2 else ad else ad
  |_=>ad else ad
 |_=>ad
theorem ZFL{id:Nat}{T:Ty}{e:yc}{l:yL T.aU}(H:yL ah)(h:id < H.length):Yh (lk (H.set id (.log T e l))) id T ad=l:=by
 unfold Yh lk;dsimp only;rw[List.getElem?_set_self h];show(Ty.bw T T l).getD []=l;unfold Ty.bw;split
 all_goals grind
theorem pD{L:Lk}{n:Nat}:∀(l:yL TD),(TD.cF L n l).length=l.length
 |[]=>rfl
 |_::r=>by rw[TD.cF,yaf,yaf,pD r]
def GI(H:yL ah):TD->TD
 |.own id f T (ab zs)=>match H[id]? with
  |some (.log t e l)=>match Ty.bw t T l with
   |some g=>if@decide (g=zs) (@instDecidableEqList T.aU (Ty.fe T) g zs)=ae then .own id f T ad else .own id f T (ab zs)
   |none=>.own id f T (ab zs)
  |_=>.own id f T (ab zs)
 |d=>d
theorem ZDE(d:TD):(GI H d).er (lk H)=d.er (lk H):=by
 unfold GI;split
 .rename_i id j T zs;split
  .rename_i t e l g;split
   .rename_i h m;split
    .rename_i f;have f:=@of_decide_eq_true _ (@instDecidableEqList T.aU (Ty.fe T) h zs) f;rw[TD.er,TD.er]
     have:Yh (lk H) id T ad=zs:=by
      unfold Yh lk;dsimp only;rw[g];show(Ty.bw t T l).getD []=zs;grind
     rw[this];rfl
    .rfl
   .rfl
  .rfl
 .rfl
theorem Zwg{own row:Bool}{t u:yc}{x y:yp}{c:Call}{xd yd:TD}(ho:o.op=.call c)(hc:c.callee=.builtin .append)(ha:c.args.toList=[x,y])(ht:c.argTypes.toList=[t,u])
 (hv:aF P (TD.aG (lk H) ts) t x=xd.er (lk H)) (hy:bq P ts u y=ab yd) (h:GH P own row t u all H K yd xd=ab out):∃a d H' hs c,K a d H' hs c=ab out/\Good P o ts all H a d H' hs c:=by
 have Q:=Zu (L:=lk H) hy;unfold GH at h;split at h
 .rename_i id nn T;split at h
  .rename_i e j;obtain⟨i,G,h⟩:=yf.1 h;obtain⟨m,X,h⟩:=yf.1 h;obtain⟨zs,A,h⟩:=yf.1 h;obtain⟨g,hs,C,E,Y,k3⟩:=GF h;obtain⟨l,k6⟩:=Za E;obtain⟨z,kk⟩:=Za k6;clear E k6;simp only[yi,yP]at l;obtain⟨⟨⟨I,J⟩,F⟩,M⟩:=l;simp only[cj,yi,yP]at z;have Z:=ZAI X;obtain⟨mt,me,ml⟩:=m;dsimp only at A F Z;obtain⟨eT,A⟩:=ZI A;subst eT;subst A;subst F;have hlt:id < H.length:=(yu.1 Z).1
   have ec:Yh (lk H) id mt ad=zs:=by
    unfold Yh lk;dsimp only;rw[Z];show(Ty.bw mt mt zs).getD []=zs
    all_goals grind
   refine⟨_,_,_,_,_,kk,bT (λid' t hn=>VR (lk H) id' t hn) all,pD all,dY (⟨rfl,λf=> ?_,λf=> ?_,
    C++[zs.map mt.enc=zs.map mt.enc,((zs.map mt.enc).length+(g.map mt.enc).length)*i.bytes<=Zt,(zs.map mt.enc).length+(g.map mt.enc).length<=maxLen],Zl.2 ⟨Y,rfl,by simpa using z.1,by simpa using z.2,aw⟩,λf=> ?_⟩)⟩
   .unfold bj;rw[ho];dsimp only;rw[hc];dsimp only;rw[ha,ht];split
    .rename_i e1 e2 e3;simp only[List.cons.injEq,and_true]at e1 e2;obtain⟨rfl,rfl⟩:=e1;obtain⟨rfl,rfl⟩:=e2;rw[j,hv];rfl
    .rfl
   .unfold bH;grind
   .unfold cX;rw[ho];dsimp only;rw[hc];dsimp only;rw[ha,ht];dsimp only;rw[j,hv,Q];dsimp only[TD.er];rw[ec,G,k3 f,Z9 Z];dsimp only[ah.er];rw[yW (by simp[I,J,M]),ZFE,ZFL _ (by rw[yad];exact hlt),yaw]
  .cases h
 .rename_i id v s lo n;split at h
  .rename_i e j;obtain⟨i,G,h⟩:=yf.1 h;obtain⟨T,X,h⟩:=yf.1 h;obtain⟨g,hs,C,E,Y,k3⟩:=GF h
   have nN:∀hs,bj P o (TD.aG (lk H) ts) hs=ad:=λhs=>by
    unfold bj;rw[ho];dsimp only;rw[hc];dsimp only;rw[ha,ht]
    cases hs with
    |nil=>rfl
    |cons h0 hr=>cases h0 <;> first|rfl|(dsimp only;rw[j,hv];rfl)
   have nR:∀hs,bH P o (TD.aG (lk H) ts) (aJ H) hs=ad:=λhs=>by
    unfold bH;grind
   split at E
   .rename_i R;obtain⟨l,z⟩:=Za E;simp only[yi,yP]at l;have hys:g=[]:=by simpa using R
    refine⟨_,_,_,_,_,z,rfl,rfl,dY (⟨rfl,λf=>nN _,λf=>nR _,C++[g.map T.enc=[]],Zl.2 ⟨Y,by rw[hys];rfl,aw⟩,λf=> ?_⟩)⟩;unfold cX;rw[ho];dsimp only;rw[hc];dsimp only;rw[ha,ht];dsimp only;rw[j,hv,Q];dsimp only[TD.er];grind
   .split at E
    .rename_i w s' e' d hd;obtain⟨y0,p1,q1⟩:=yf.1 E;obtain⟨r,p2,q2⟩:=yf.1 q1;obtain⟨xs,p3,q3⟩:=yf.1 q2;obtain⟨p4,q4⟩:=Za q3;obtain⟨p5,q5⟩:=Za q4;simp only[yi,yP,yT]at p4;obtain⟨⟨⟨⟨⟨⟨⟨I,J⟩,F⟩,M⟩,g5⟩,g6⟩,S⟩,U⟩:=p4;simp only[cj,yi,yP]at p5
     have W:d.er (lk H)=.p (.arr r.n T.size (xs.map T.enc)):=by
      rw[Xb p1,TD.er,jm p2];obtain⟨e,p3⟩:=ZI p3;grind
     refine⟨_,_,_,_,_,q5,nZ hd rfl rfl,rfl,dY (⟨rfl,λf=>nN _,λf=>nR _,C++[n<=r.n,(n+(g.map T.enc).length)*i.bytes<=Zt,n+(g.map T.enc).length<=maxLen,ae=ae\/n=r.n],
      Zl.2 ⟨Y,p5.1,by simpa using p5.2.1,by simpa using p5.2.2,.inl rfl,aw⟩,λf=> ?_⟩)⟩
     unfold cX;rw[ho];dsimp only;rw[hc];dsimp only;rw[ha,ht];dsimp only;rw[j,hv,Q];dsimp only[TD.er];rw[yag];dsimp only;rw[G,U,k3 f,Z9 hd,ah.er,W];dsimp only;rw[yW (by simp[I,J,F,M,g5,g6,S]),Xs (Vu hd rfl rfl)];simp only[ah.er,TD.er,TP.pe,DC,yad,yaw,List.map_take]
    .cases E
  .cases h
 .rename_i T0;split at h
  .split at h
   .rename_i e j;obtain⟨i,G,h⟩:=yf.1 h;obtain⟨T,X,h⟩:=yf.1 h;obtain⟨g,A,h⟩:=yf.1 h;obtain⟨l,h⟩:=Za h;obtain⟨z,h⟩:=Za h;simp only[yi,yP]at l;obtain⟨⟨⟨I,J⟩,F⟩,M⟩:=l;obtain⟨S,U⟩:=mA z;refine⟨_,_,_,_,_,h,sb rfl,rfl,dY (⟨rfl,λf=> ?_,λf=> ?_,[(g.map T.enc).length*i.bytes<=Zt,(g.map T.enc).length<=maxLen],⟨by rw[yad];exact S,by rw[yad];exact U,aw⟩,λf=> ?_⟩)⟩
    .unfold bj;grind
    .unfold bH;grind
    .unfold cX;rw[ho];dsimp only;rw[hc];dsimp only;rw[ha,ht];dsimp only;rw[j,hv,Q,show(TD.p (TP.sl (ab af) T0 [])).er (lk H)=Dv.p (.sl (ab af) T0.size []) from rfl]
     dsimp only;rw[G,M,pu A,yag,yz];dsimp only;rw[yW (by simp only[yi];exact⟨I,J⟩),nW (lB rfl),Z2];simp only[ah.er,TD.er,TP.pe,DC,yad,F]
   .cases h
  split at h
  .split at h
   .rename_i e j;obtain⟨i,G,h⟩:=yf.1 h;obtain⟨T,X,h⟩:=yf.1 h;obtain⟨g,A,h⟩:=yf.1 h;obtain⟨l,h⟩:=Za h;obtain⟨z,h⟩:=Za h;simp only[yi,yP]at l;obtain⟨⟨⟨⟨⟨I,J⟩,F⟩,M⟩,g5⟩,g6⟩:=l;obtain⟨S,U⟩:=mA z;refine⟨_,_,_,_,_,h,pA g5,rfl,dY (⟨rfl,λf=> ?_,λf=> ?_,[(g.map T.enc).length*i.bytes<=Zt,(g.map T.enc).length<=maxLen],⟨by rw[yad];exact S,by rw[yad];exact U,aw⟩,λf=> ?_⟩)⟩
    .unfold bj;grind
    .unfold bH;grind
    .unfold cX;rw[ho];dsimp only;rw[hc];dsimp only;rw[ha,ht];dsimp only;rw[j,hv,Q,show(TD.p (TP.sl (ab af) T0 [])).er (lk H)=Dv.p (.sl (ab af) T0.size []) from rfl]
     dsimp only;rw[G,M,pu A,yag,yz];dsimp only;rw[yW (by simp only[yi];exact⟨I,J⟩),ZB3 g6,Z2,TD.er,pB,F]
   .cases h
  .cases h
 .cases h
def GJ(P:yg)(t u:yc)(all:yL TD)(H:yL ah)(K:Kn O)(y:TD):TD->yO O
 |.view id h s lo n=>match P.underlying t,H[id]? with
  |some (.slice e),ab (.var d ae)=>fm (lk H) h d λsub hs g=>sub.inner.bind λy0=>y0.dS.bind λr=>(mE (lk H) P r.t u y).bind λf=>
   (g (.p (.v (.arr r.n r.t) (r.l.take lo++(f++r.l.drop (lo+f.length)))))).bind λj=>
     if(ag (r.t.size=s)&&ag (P.cellsOf e=s)&&(P.info? e).isSome&&ag (f.length<=n)&&ag (lo+n<=r.n))=ae then K all (.p (.v (.int .i64) (f.length:Int))) (H.set id (.var j ae)) hs 2 else ad
  |_,_=>ad
 |_=>ad
theorem ZAK{t u:yc}{x y:yp}{c:Call}{A E:TD}(ho:o.op=.call c)(hc:c.callee=.builtin .copy)(ha:c.args.toList=[x,y])(ht:c.argTypes.toList=[t,u])
 (J:bq P ts t x=ab A) (M:bq P ts u y=ab E) (h:GJ P t u all H K E A=ab out):∃a d H' hs c,K a d H' hs c=ab out/\Good P o ts all H a d H' hs c:=by
 have Q:=Zu (L:=lk H) J;have R:=Zu (L:=lk H) M;unfold GJ at h;split at h
 .rename_i id F s lo n;split at h
  .rename_i e d S z;obtain⟨sub,hs,T,C,f,U,W,X⟩:=Xw _ _ _ _ h;obtain⟨y0,Y,f⟩:=yf.1 f;obtain⟨r,Z,f⟩:=yf.1 f;obtain⟨g,p3,f⟩:=yf.1 f;obtain⟨d',p4,f⟩:=yf.1 f;obtain⟨G,f⟩:=Za f;simp only[yi,yP]at G;obtain⟨⟨⟨⟨I,g2⟩,g3⟩,g4⟩,g5⟩:=G;have j:sub.er (lk H)=.p (.arr r.n r.t.size (r.l.map r.t.enc)):=by rw[Xb Y,TD.er,jm Z]
   refine⟨_,_,_,_,_,f,nZ z rfl rfl,rfl,dY (⟨rfl,λm=> ?_,λm=> ?_,C++[eA F=Wp F,(g.map r.t.enc).length<=n,lo+n<=r.n],Zl.2 ⟨U,(XR _).symm,by rw[yad];exact g4,g5,aw⟩,λm=> ?_⟩)⟩
   .unfold bj;rw[ho];dsimp only;rw[hc]
   .unfold bH;rw[ho];dsimp only;rw[hc]
   .unfold cX;rw[ho];dsimp only;rw[hc];dsimp only;rw[ha,ht];dsimp only;rw[S,Q,R];dsimp only[TD.er];rw[<-I,pu p3,Z9 z];dsimp only[ah.er];rw[W m,j];dsimp only;have:=X _ _ p4 m
    have e1:(TD.p (.v (.arr r.n r.t) (r.l.take lo++(g++r.l.drop (lo+g.length))))).er (lk H)=.p (.arr r.n r.t.size (oT (r.l.map r.t.enc) (g.map r.t.enc) lo)):=by
     show Dv.p (Pl.arr r.n r.t.size ((r.l.take lo++(g++r.l.drop (lo+g.length))).map r.t.enc))=_;unfold oT;simp_all
    rw[e1]at this;rw[this];dsimp only;rw[yW (by simp only[yi,yP];exact⟨⟨zP,by rw[I];exact g2⟩,g3⟩),Xs (Vu z rfl rfl),yad];rfl
  .cases h
 .cases h
def GK(H:yL ah)(id:Nat):Bool:=
 match H[id]? with
 |some (.var _ af)=>ae
 |_=>af
def GL(P:yg)(t:yc)(lo hi:yO Int)(all:yL TD)(H:yL ah)(K:Kn O):TD->yO O
 |.aj id f=>match P.underlying t with
  |some (.array n e)=>(nY H id).bind λd=>fm (lk H) f d λsub hs _=>sub.inner.bind λy=>y.dS.bind λr=>
   if(ag (n=r.n)&&okB P e r.t.size&&ag (n<=maxLen))=ae then if dX n lo hi=ae then(if GK H id=ae then K all (.p (.sl (ab ae) r.t (Vp r.l lo hi))) H (.eD::hs) 1 else
    K all (.p (.sl (ab ae) r.t (Vp r.l lo hi))) (H.set id (.var d af)) (.eD::hs) 2) else ad else ad
  |_=>ad
 |_=>ad
theorem ZDF{t:yc}{x:yp}{lo hi:yO yp}{l E:yO Int}{J:TD}(ho:o.op=.slice t x lo hi ad)(X:bq P ts t x=ab J)(hl:fw P ts lo=ab l)(A:fw P ts hi=ab E)
 (h:GL P t l E all H K J=ab out):∃a d H' hs c,K a d H' hs c=ab out/\Good P o ts all H a d H' hs c:=by
 have F:=Zu (L:=lk H) X;have hl:=Q0 (L:=lk H) hl;have A:=Q0 (L:=lk H) A;unfold GL at h;split at h
 .rename_i id G;split at h
  .rename_i n e I;obtain⟨d,Y,h⟩:=yf.1 h;obtain⟨st,M,Q⟩:=rX Y;obtain⟨sub,hs,Z,C,f,R,S,_⟩:=Xw _ _ _ _ h;obtain⟨y,p1,f⟩:=yf.1 f;obtain⟨r,p2,f⟩:=yf.1 f;obtain⟨T,f⟩:=Za f;obtain⟨U,f⟩:=Za f;have j:sub.er (lk H)=.p (.arr r.n r.t.size (r.l.map r.t.enc)):=by rw[Xb p1,TD.er,jm p2]
   have W:∀m,bj P o (TD.aG (lk H) ts) (.eD::hs++m)=ad:=λm=>by
    unfold bj;rw[ho];dsimp only;rw[I,F,hl,A];rfl
   split at f
   .rename_i z
    have g:st=af:=by
     unfold GK at z;grind
    subst g;refine⟨_,_,_,_,_,f,rfl,rfl,.inr (.inl ⟨rfl,rfl,W,C++[eA G=Wp G]++YQ n l E,Zl.2 ⟨Zl.2 ⟨R,(XR _).symm,aw⟩,mz U⟩,λm=> ?_⟩)⟩;unfold bH;rw[ho];dsimp only;rw[I,F,hl,A];dsimp only[TD.er];rw[yag];dsimp only;rw[Q];dsimp only;rw[S m,j];dsimp only;rw[yW (by simpa[okB,and_assoc] using T),TP.pe,vS]
   rename_i z
   have g:st=ae:=by
    unfold GK at z;grind
   subst g;refine⟨_,_,_,_,_,f,nZ M rfl rfl,rfl,dY (⟨rfl,W,λm=> ?_,C++[eA G=Wp G]++YQ n l E,Zl.2 ⟨Zl.2 ⟨R,(XR _).symm,aw⟩,mz U⟩,λm=> ?_⟩)⟩
   .unfold bH;rw[ho];dsimp only;rw[I,F,hl,A];dsimp only[TD.er];grind
   .unfold cX;rw[ho];dsimp only;rw[I,F,hl,A];dsimp only[TD.er];rw[yag];dsimp only;rw[Q];dsimp only;rw[S m,j];dsimp only;rw[yW (by simpa[okB,and_assoc] using T),Xs (Vu M rfl rfl),TP.pe,vS];rfl
  .cases h
 .cases h
def wj(dst:Tmp)(all:yL TD)(H:yL ah)(K:Kn O):TD->yO O
 |.view id f s lo n=>(nY H id).bind λd=>fm (lk H) f d λsub hs _=>sub.inner.bind λy=>y.dS.bind λr=>
  if(ag (r.t.size=s))=ae then if(ag (lo+n<=r.n))=ae then K all (.p (.sl (ab ae) r.t ((r.l.drop lo).take n))) (H.set id (.var d af)) (.still dst::hs) 2 else ad else ad
 |.rv id v s lo n=>match H[id]? with
  |some (.row w g _ e d)=>d.inner.bind λy=>y.dS.bind λr=>
   if(ag (r.t.size=s)&&ag (g=s)&&w==v)=ae then if(ag (lo+n<=r.n))=ae then K all (.p (.sl ad r.t ((r.l.drop lo).take n))) (H.set id (.row v s af e d)) [.still dst] 2 else ad else ad
  |_=>ad
 |_=>ad
theorem Zyv{dst:Tmp}{G:TD}(h:wj dst all H K G=ab out):∃a d H' hs,K a d H' (.still dst::hs) 2=ab out/\TD.aG (lk H') a=TD.aG (lk H) all/\a.length=all.length/\
 ∃C,aX C/\∀yK,jB (G.er (lk H)) (aJ H) (hs++yK)=ab (C,d.er (lk H'),aJ H',yK):=by
 unfold wj at h;split at h
 .rename_i id z s lo n;obtain⟨d,J,h⟩:=yf.1 h;obtain⟨st,I,M⟩:=rX J;obtain⟨sub,hs,Q,C,f,R,S,_⟩:=Xw _ _ _ _ h;obtain⟨y,A,f⟩:=yf.1 f;obtain⟨r,E,f⟩:=yf.1 f;obtain⟨j,f⟩:=Za f;obtain⟨m,f⟩:=Za f;have j:=yF j;have m:=yF m;have g:sub.er (lk H)=.p (.arr r.n r.t.size (r.l.map r.t.enc)):=by rw[Xb A,TD.er,jm E]
  refine⟨_,_,_,_,f,nZ I rfl rfl,rfl,C++[eA z=Wp z,lo+n<=r.n],Zl.2 ⟨R,(XR _).symm,m,aw⟩,λyK=> ?_⟩;unfold jB;rw[show(TD.view id z s lo n).er (lk H)=Dv.view id (Wp z) (z.map cg.i) s lo n from rfl]
  try dsimp only
  rw[M]
  try dsimp only
  rw[S yK,g]
  try dsimp only
  rw[yW j,Xs (Vu I rfl rfl),TD.er,TP.pe,List.map_take,List.map_drop,j]
  try rfl
 .rename_i id v s lo n;split at h
  .rename_i w T st e d F;obtain⟨y,A,f⟩:=yf.1 h;obtain⟨r,E,f⟩:=yf.1 f;obtain⟨j,f⟩:=Za f;obtain⟨m,f⟩:=Za f;simp only[yi,yP]at j;have m:=yF m;have g:d.er (lk H)=.p (.arr r.n r.t.size (r.l.map r.t.enc)):=by rw[Xb A,TD.er,jm E]
   refine⟨_,_,_,[],f,nZ F rfl rfl,rfl,[lo+n<=r.n],⟨m,aw⟩,λyK=> ?_⟩;rw[yz];unfold jB;rw[show(TD.rv id v s lo n).er (lk H)=Dv.rv id v s lo n from rfl]
   dsimp only;rw[Z9 F,ah.er,g];dsimp only;rw[yW (by simp[j]),Xs (Vu F rfl rfl),ah.er,g,TD.er,TP.pe,List.map_take,List.map_drop,j.1.1]
  .cases h
 .cases h
theorem Zyw{x:yp}{dst:Tmp}{f:TD}(ho:o.op=.assign x\/o.op=.move x)(hd:o.dst=ab dst)(j:bq P ts o.type x=ab f)(h:wj dst all H K f=ab out):
 ∃a d H' hs c,K a d H' hs c=ab out/\Good P o ts all H a d H' hs c:=by
 have A:=Zu (L:=lk H) j;obtain⟨a,d,H',hs,l,m,y,C,z,E⟩:=Zyv h;refine⟨_,_,_,_,_,l,m,y,dY (⟨rfl,λg=> ?_,λg=> ?_,C,z,λg=> ?_⟩)⟩
 .rcases ho with ho|ho <;> (unfold bj;rw[ho];rfl)
 .rcases ho with ho|ho <;> (unfold bH;rw[ho])
 .rcases ho with ho|ho
  .unfold cX;grind
  .unfold cX;grind
def TD.iO:TD->Bool
 |.rw _=>ae
 |_=>af
def TD.sh:TD->Bool
 |.rp _ _=>ae
 |_=>af
theorem ZB4{id:Nat}{T:Ty}{v:yL Unit}{st f:Bool}{e h:yc}{l g:yL T.aU}(hd:H[id]? =ab (.aY T v st e l))(hl:g.length=l.length):lk (H.set id (.aY T v f h g))=lk H:=by
 funext j;unfold lk;by_cases m:id=j
 .subst m;rw[ak hd,hd];show ab _=ab _;rw[hl]
 grind
def GM(P:yg)(t:yc)(i:Int)(all:yL TD)(H:yL ah)(K:Kn O):TD->yO O
 |.rw id=>match P.underlying t,H[id]? with
  |some (.slice e),ab (.aY T v st f l)=>if okB P e T.size=ae then if bi i l.length=ae then K all (.rp id [.ix i.toNat T.size]) H [] 0 else ad else ad
  |_,_=>ad
 |_=>ad
theorem Zwj{t:yc}{x ix:yp}{f:TD}{q:IntKind×Int}{g:TP}(ho:o.op=.indexAddr t x ix)(z:bq P ts t x=ab f)(hi:bq P ts 0 ix=ab (.p g))(hq:jl g=ab q)(h:GM P t q.2 all H K f=ab out):
 ∃a d H' hs c,K a d H' hs c=ab out/\Good P o ts all H a d H' hs c:=by
 have A:=Zu (L:=lk H) z;have j:=Zu (L:=lk H) hi;rw[TD.er,(pp hq).1]at j;unfold GM at h;split at h
 .rename_i id;split at h
  .rename_i e T v st G l E m;obtain⟨F,h⟩:=Za h;obtain⟨y,h⟩:=Za h;refine⟨_,_,_,_,_,h,rfl,rfl,.inl ⟨rfl,rfl,[0<=q.2,q.2 < (l.length:Int)],⟨(V4 y).1,(V4 y).2,aw⟩,λI=> ?_⟩⟩;simp only[yz];unfold bj;rw[ho];dsimp only;rw[E,A,j,(gK m).1,(gK m).2];dsimp only;rw[yW (by simpa[okB] using F)];simp[Wp,cg.o,cg.i]
  .cases h
 .cases h
def GN(P:yg)(t:yc)(lo hi:yO Int)(all:yL TD)(H:yL ah)(K:Kn O):TD->yO O
 |.rw id=>match P.underlying t,H[id]? with
  |some (.slice e),ab (.aY T v st f l)=>if okB P e T.size=ae then if dX l.length lo hi=ae then
    K all (.rv id v.length T.size (0+(lo.getD 0).toNat) ((hi.getD l.length).toNat - (lo.getD 0).toNat)) H [.bare] 0 else ad else ad
  |_,_=>ad
 |_=>ad
theorem ZAM{t:yc}{x:yp}{lo hi:yO yp}{l f:yO Int}{z:TD}(ho:o.op=.slice t x lo hi ad)(A:bq P ts t x=ab z)(hl:fw P ts lo=ab l)(E:fw P ts hi=ab f)(h:GN P t l f all H K z=ab out):
 ∃a d H' hs c,K a d H' hs c=ab out/\Good P o ts all H a d H' hs c:=by
 have F:=Zu (L:=lk H) A;have g:=Q0 (L:=lk H) hl;have j:=Q0 (L:=lk H) E;unfold GN at h;split at h
 .rename_i id;split at h
  .rename_i e T v st R G I J;obtain⟨M,h⟩:=Za h;obtain⟨Q,h⟩:=Za h;obtain⟨m,y⟩:=ZBY M;refine⟨_,_,_,_,_,h,rfl,rfl,.inl ⟨rfl,rfl,YQ G.length l f,mz Q,λS=> ?_⟩⟩;unfold bj;rw[ho];dsimp only;rw[I,F,(gK J).1,g,j];dsimp only;rw[yag,yz];dsimp only;rw[yW (by simp[m,y])];rfl
  .cases h
 .cases h
def GO(P:yg)(t:yc)(all:yL TD)(H:yL ah)(K:Kn O):TD->yO O
 |.rw id=>match P.underlying t,H[id]? with
  |some (.slice _),ab (.aY T v st f l)=>K all (.p (.v (.int .i64) (l.length:Int))) H [] 0
  |_,_=>ad
 |_=>ad
theorem ZAN{t:yc}{x:yp}{c:Call}{f:TD}(ho:o.op=.call c)(hc:c.callee=.builtin .len)(ha:c.args.toList=[x])(ht:c.argTypes.toList=[t])(g:bq P ts t x=ab f)(h:GO P t all H K f=ab out):
 ∃a d H' hs c,K a d H' hs c=ab out/\Good P o ts all H a d H' hs c:=by
 have j:=Zu (L:=lk H) g;unfold GO at h;split at h
 .rename_i id;split at h
  .rename_i e T v st z l m y;refine⟨_,_,_,_,_,h,rfl,rfl,.inl ⟨rfl,rfl,[],zP,λA=> ?_⟩⟩;simp only[yz];unfold bj;rw[ho];dsimp only;rw[hc];dsimp only;rw[ha,ht];dsimp only;rw[m,j,(gK y).1];rfl
  .cases h
 .cases h
def GP(P:yg)(t:yc)(all:yL TD)(H:yL ah)(K:Kn O):TD->yO O
 |.rp id f=>match H[id]? with
  |some (.aY T v st e l)=>fm (lk H) f (.p (.v (.arr l.length T) l)) λsub hs _=>if gi P t (sub.er (lk H))=ae then K all sub H hs 1 else ad
  |_=>ad
 |_=>ad
theorem Zyx{t:yc}{x:yp}{j:TD}(ho:o.op=.load t x)(z:bq P ts 0 x=ab j)(h:GP P t all H K j=ab out):∃a d H' hs c,K a d H' hs c=ab out/\Good P o ts all H a d H' hs c:=by
 have m:=Zu (L:=lk H) z;unfold GP at h;split at h
 .rename_i id f;split at h
  .rename_i T v st e l y;obtain⟨sub,hs,A,C,E,F,G,_⟩:=Xw _ _ _ _ h;obtain⟨J,I⟩:=Za E;refine⟨_,_,_,_,_,I,rfl,rfl,.inr (.inl ⟨rfl,rfl,λg=> ?_,C++[eA f=Wp f],Zl.2 ⟨F,(XR _).symm,aw⟩,λg=> ?_⟩)⟩
   .unfold bj;rw[ho];dsimp only;rw[m];rfl
   .unfold bH;rw[ho];dsimp only;rw[m,(gK y).2];dsimp only;rw[Z9 y];dsimp only[ah.er];have M:Yd (.p (.arr l.length T.size (l.map T.enc))) (f.map cg.i) (hs++g)=ab (C,eA f,sub.er (lk H),g):=G g;grind
  .cases h
 .cases h
def GQ(P:yg)(t:yc)(all:yL TD)(H:yL ah)(K:Kn O)(v:TD):TD->yO O
 |.rp id (.ix i s::r)=>match H[id]? with
  |some (.aY T u ae e l)=>if s=T.size then(l[i]?).bind λy=>fm (lk H) r (.p (.v T y)) λsub hs f=>(f (v.cW (lk H))).bind λd1=>d1.inner.bind λz=>(TP.to jL z T).bind λg=>
   if mI P t ((v.cW (lk H)).er (lk H)) (sub.er (lk H))=ae then K all .an (H.set id (.aY T u ae e (l.set i g))) (.el (T.enc y)::hs) 2 else ad else ad
  |_=>ad
 |_=>ad
theorem Zwl{t:yc}{x y:yp}{I j:TD}(ho:o.op=.store t x y)(M:bq P ts 0 x=ab I)(Q:bq P ts t y=ab j)(h:GQ P t all H K j I=ab out):
 ∃a d H' hs c,K a d H' hs c=ab out/\Good P o ts all H a d H' hs c:=by
 have R:=Zu (L:=lk H) M;have S:=Zu (L:=lk H) Q;unfold GQ at h;split at h
 .rename_i id i s r;split at h
  .rename_i T u e l A;split at h
   .rename_i E;obtain⟨y0,U,h⟩:=yf.1 h;obtain⟨sub,hs,W,C,g,X,Y,Z⟩:=Xw r (.p (.v T y0)) _ out h;obtain⟨d1,p1,g⟩:=yf.1 g;obtain⟨z,p2,g⟩:=yf.1 g;obtain⟨F,p3,g⟩:=yf.1 g;obtain⟨h4,g⟩:=Za g;have m:=h4;unfold mI at m;have J:lk (H.set id (.aY T u ae e (l.set i F)))=lk H:=ZB4 A (by rw[List.length_set])
    have hg:∀f,Yd (.p (.arr l.length T.size (l.map T.enc))) (i::r.map cg.i) (.el (T.enc y0)::(hs++f))=ab (((l.map T.enc)[i]? =ab (T.enc y0))::C,i*T.size+eA r,sub.er (lk H),f):=by
     intro f;unfold Yd;dsimp only;have:=Y f;rw[TD.er,TP.pe]at this;grind
    have hp:∀f,Wi ((j.cW (lk H)).er (lk H)) (.p (.arr l.length T.size (l.map T.enc))) (i::r.map cg.i) (.el (T.enc y0)::(hs++f))=ab (.p (.arr l.length T.size ((l.set i F).map T.enc))):=by
     intro f;have:=Z _ d1 p1 f;rw[TD.er,TP.pe]at this;unfold Wi;dsimp only;rw[this,Xb p2,TD.er];dsimp only;rw[nQ z T F p3, <-ybn]
    refine⟨_,_,_,_,_,g,by rw[J],rfl,dY (⟨rfl,λf=> ?_,λf=> ?_,(((l.map T.enc)[i]? =ab (T.enc y0))::C)++[i*T.size+eA r=Wp (.ix i s::r)],
     Zl.2 ⟨⟨rJ U,X⟩,by rw[XR,eA,cg.o,E],aw⟩,λf=> ?_⟩)⟩
    .unfold bj;rw[ho]
    .unfold bH;rw[ho]
    .unfold cX;rw[ho];dsimp only;rw[R,S,(gK A).2];dsimp only;rw[Z9 A];dsimp only[ah.er];rw[yah,show(cg.ix i s).i=i from rfl,yag,hg f]
     dsimp only;have G:jf (i::r.map cg.i) (.p (.arr l.length T.size (l.map T.enc))) (j.er (lk H))=ab ((j.cW (lk H)).er (lk H)):=GB (yQ:=.ix i s::r) (d:=.p (.v (.arr l.length T) l)) (v:=j) (new:=j.cW (lk H)) (L:=lk H) rfl;rw[G];dsimp only;rw[hp f];dsimp only;rw[yW (by simp only[yi]at m ⊢;exact⟨⟨m,by simp⟩,by simp[aR]⟩),Xs J];simp only[ah.er,List.length_set];rfl
   .cases h
  .cases h
 .cases h
def GR(dst:Tmp)(all:yL TD)(H:yL ah)(K:Kn O):TD->yO O
 |.rw id=>match H[id]? with
  |some (.aY T v st e l)=>K all (.p (.sl ad T l)) (H.set id (.aY T v af e l)) [.still dst] 2
  |_=>ad
 |_=>ad
theorem Zwn{x:yp}{dst:Tmp}{m:TD}(ho:o.op=.assign x\/o.op=.move x)(hd:o.dst=ab dst)(E:bq P ts o.type x=ab m)(h:GR dst all H K m=ab out):
 ∃a d H' hs c,K a d H' hs c=ab out/\Good P o ts all H a d H' hs c:=by
 have y:=Zu (L:=lk H) E;unfold GR at h;split at h
 .rename_i id;split at h
  .rename_i T v st e l j;have z:lk (H.set id (.aY T v af e l))=lk H:=ZB4 j rfl
   have A:∀g,jB ((TD.rw id).er (lk H)) (aJ H) g=ab ([0+l.length<=l.length],.p (.sl ad T.size (l.map T.enc)),aJ (H.set id (.aY T v af e l)),g):=by
    intro g;unfold jB;rw[(gK j).1];dsimp only;rw[Z9 j,ah.er];dsimp only;rw[yW (by simp),Xs z,ah.er,List.drop_zero, <-yad (f:=T.enc),yai]
   refine⟨_,_,_,_,_,h,by rw[z],rfl,dY (⟨rfl,λg=> ?_,λg=> ?_,[0+l.length<=l.length],⟨by omega,aw⟩,λg=> ?_⟩)⟩
   .rcases ho with ho|ho <;> (unfold bj;rw[ho];rfl)
   .rcases ho with ho|ho <;> (unfold bH;rw[ho])
   .rcases ho with ho|ho
    .unfold cX;rw[ho];dsimp only;rw[yag];dsimp only;rw[yW hd,y];exact A g
    .unfold cX;rw[ho];dsimp only;rw[yag];dsimp only;rw[yW hd,y];exact A g
  .cases h
 .cases h
theorem Zyy{L M:Lk}{n:Nat}(h:∀id t,id≠n->Yh L id t ad=Yh M id t ad)(x:ah)(f:x.free n=ae):x.er L=x.er M:=by
 cases x with
 |var d st=>rw[ah.er,ah.er,kI h d f]
 |row v s st e d=>rw[ah.er,ah.er,kI h d f]
 |bL t l v st e j d g=>rw[ah.er,ah.er,kI h d f]
 |_=>rfl
theorem wl{T:Ty}{v:yL Unit}{st:Bool}{e:yc}{l:yL T.aU}(h:H.all (ah.free H.length)=ae):aJ (H++[.aY T v st e l])=aJ H++[.row v.length T.size st e (.p (.arr l.length T.size (l.map T.enc)))]:=by
 unfold aJ;rw[yaw];congr 1;refine yci λx f=> ?_;have g:=yal.1 h x f;exact(Zyy (λid t j=>lC id t j) x g).symm
theorem wm{T:Ty}{v:yL Unit}{st:Bool}{e:yc}{l:yL T.aU}:(TD.rw H.length).er (lk (H++[.aY T v st e l]))=.rv H.length v.length T.size 0 l.length:=
 (gK (H:=H++[.aY T v st e l]) (List.getElem?_concat_length ..)).1
def GS(P:yg)(row:Bool)(t u:yc)(all:yL TD)(H:yL ah)(K:Kn O)(y:TD):TD->yO O
 |.rw id=>match P.underlying t,H[id]? with
  |some (.slice e),ab (.aY T v st g l)=>(P.info? e).bind λi=>sf P T u H (λf hs=>
   if(cu i&&ag (i.size=T.size)&&ag (P.cellsOf e=T.size)&&ag (g=e)&&ag (T.size≠0))=ae then if cj l.length f.length i.bytes=ae then
    K (TD.cF (lk H) id all) (.rw id) ((H.map (ah.stale (lk H) id)).set id (.aY T (()::v) st e (l++f))) (.raw::hs) 2 else ad else ad) y
  |_,_=>ad
 |.p (.sl (ab af) _ [])=>match P.underlying t with
  |some (.slice e)=>(P.info? e).bind λi=>(gH P iu e).bind λT=>(mE (lk H) P T u y).bind λf=>
   if(cu i&&i.size !=0&&ag (i.size=T.size)&&ag (P.cellsOf e=T.size)&&TD.frees H.length all&&H.all (ah.free H.length))=ae then if nT f.length i.bytes=ae then
    K all (.rw H.length) (H++[.aY T [] ae e f]) [.arr] 2 else ad else ad
  |_=>ad
 |_=>ad
theorem ZtB{row:Bool}{t u:yc}{x y:yp}{c:Call}{W X:TD}(ho:o.op=.call c)(hc:c.callee=.builtin .append)(ha:c.args.toList=[x,y])(ht:c.argTypes.toList=[t,u])
 (hv:aF P (TD.aG (lk H) ts) t x=W.er (lk H)) (hy:bq P ts u y=ab X) (h:GS P row t u all H K X W=ab out):∃a d H' hs c,K a d H' hs c=ab out/\Good P o ts all H a d H' hs c:=by
 have Y:=Zu (L:=lk H) hy;unfold GS at h;split at h
 .rename_i id;split at h
  .rename_i e T v st j l F G;obtain⟨i,I,h⟩:=yf.1 h;obtain⟨g,hs,C,Z,k2,k3⟩:=GF h;obtain⟨z,k6⟩:=Za Z;obtain⟨A,kk⟩:=Za k6;clear Z k6;simp only[yi,yP]at z;obtain⟨⟨⟨⟨J,M⟩,g3⟩,Q⟩,R⟩:=z;subst Q;simp only[cj,yi,yP]at A;have hlt:id < H.length:=(yu.1 G).1
   refine⟨_,_,_,_,_,kk,bT (λS t U=>VR (lk H) S t U) all,pD all,dY (⟨rfl,λm=> ?_,λm=> ?_,
    C++[l.length<=l.length,(l.length+(g.map T.enc).length)*i.bytes<=Zt,l.length+(g.map T.enc).length<=maxLen,st=ae\/l.length=l.length],Zl.2 ⟨k2,ym _,by simpa using A.1,by simpa using A.2,.inr rfl,aw⟩,λm=> ?_⟩)⟩
   .unfold bj;grind
   .unfold bH;grind
   .unfold cX;rw[ho];dsimp only;rw[hc];dsimp only;rw[ha,ht];dsimp only;rw[F,hv,Y,(gK G).1];rw[yag];dsimp only;rw[I,k3 m,Z9 G];dsimp only[ah.er]
    have E:((H.map (ah.stale (lk H) id)).set id (.aY T (()::v) st j (l++g)))[id]? =ab (.aY T (()::v) st j (l++g)):=by
     grind
    have hH:aJ ((H.map (ah.stale (lk H) id)).set id (.aY T (()::v) st j (l++g)))=(aJ H).set id (.row (v.length+1) T.size st j (.p (.arr (l.length+g.length) T.size (l.map T.enc++g.map T.enc)))):=by
     unfold aJ;rw[ybn,ybd]
     have:(ah.aY T (()::v) st j (l++g)).er (lk ((H.map (ah.stale (lk H) id)).set id (.aY T (()::v) st j (l++g))))=.row (v.length+1) T.size st j (.p (.arr (l.length+g.length) T.size (l.map T.enc++g.map T.enc))):=by
      simp only[ah.er,yaf,yl,yaw]
     rw[this];congr 1;refine yci λx hx=> ?_;exact rU (λid t U=>VR (lk H) id t U) x
    rw[yW (by simp[J,M,R]),hH,(gK E).1];simp only[yad,yaf,yl];rw[show(l.map T.enc).take l.length=l.map T.enc by rw[<-yad (f:=T.enc),yai]]
  .cases h
 .rename_i T0;split at h
  .rename_i e F;obtain⟨i,I,h⟩:=yf.1 h;obtain⟨T,h2,h⟩:=yf.1 h;obtain⟨g,h3,h⟩:=yf.1 h;obtain⟨z,h⟩:=Za h;obtain⟨A,h⟩:=Za h;simp only[yi,yP]at z;obtain⟨⟨⟨⟨⟨J,M⟩,g3⟩,Q⟩,R⟩,g6⟩:=z;obtain⟨g7,g8⟩:=mA A;refine⟨_,_,_,_,_,h,pA R,rfl,dY (⟨rfl,λm=> ?_,λm=> ?_,[(g.map T.enc).length*i.bytes<=Zt,(g.map T.enc).length<=maxLen],⟨by rw[yad];exact g7,by rw[yad];exact g8,aw⟩,λm=> ?_⟩)⟩
   .unfold bj;grind
   .unfold bH;grind
   .unfold cX;rw[ho];dsimp only;rw[hc];dsimp only;rw[ha,ht];dsimp only;rw[F,hv,Y,show(TD.p (TP.sl (ab af) T0 [])).er (lk H)=Dv.p (.sl (ab af) T0.size []) from rfl]
    dsimp only;rw[I,Q,pu h3,yag,yz];dsimp only;rw[yW (by simp only[yi];exact⟨J,M⟩),wl g6,Z2,wm,g3];grind
  .cases h
 .cases h
def GU(P:yg)(ts:yL TD)(t:yc)(len:Nat)(parts:yL (Nat×yp))(all:yL TD)(H:yL ah)(K:Kn O):yO O:=
 pr (lk H) P ts t len parts λT l e=>if(ag (l.length=len)&&TD.frees H.length all&&H.all (ah.free H.length))=ae then K all (.rw H.length) (H++[.aY T [] ae e l]) [.arr] 2 else ad
theorem ZAP{t:yc}{len:Nat}{parts:Array (Nat×yp)}(ho:o.op=.buildSlice t len parts)(h:GU P ts t len parts.toList all H K=ab out):
 ∃a d H' hs c,K a d H' hs c=ab out/\Good P o ts all H a d H' hs c:=by
 unfold GU at h;obtain⟨e,T,l,i,I,g,m,y,z,A,hs,E⟩:=wc h;obtain⟨f,g⟩:=Za g;simp only[yi,yP]at f;obtain⟨⟨f,F⟩,G⟩:=f;refine⟨_,_,_,_,_,g,pA F,rfl,dY (⟨rfl,λj=> ?_,λj=> ?_,[],zP,λj=> ?_⟩)⟩
 .unfold bj;rw[ho];rfl
 .unfold bH;rw[ho]
 .unfold cX;rw[ho];dsimp only;rw[yag,yz];dsimp only;rw[m];dsimp only;rw[y,z];dsimp only;rw[yW (by simpa using A),E,wl G,wm,Z2,hs,f];rfl
def GV(P:yg)(ts:yL TD)(t:yc)(len:Nat)(parts:yL (Nat×yp))(id:Nat)(all:yL TD)(H:yL ah)(K:Kn O):yO O:=
 pr (lk H) P ts t len parts λT l e=>match H[id]? with
  |some (.aY T' v _ f _)=>if(ag (l.length=len)&&ag (f=e)&&ag (T'.size=T.size))=ae then K (TD.cF (lk H) id all) (.rw id) ((H.map (ah.stale (lk H) id)).set id (.aY T (()::v) ae e l)) [.fresh id] 2 else ad
  |_=>ad
theorem Zyz{t:yc}{len id:Nat}{parts:Array (Nat×yp)}(ho:o.op=.buildSlice t len parts)(h:GV P ts t len parts.toList id all H K=ab out):
 ∃a d H' hs c,K a d H' hs c=ab out/\Good P o ts all H a d H' hs c:=by
 unfold GV at h;obtain⟨e,T,l,i,U,g,G,I,J,M,hs,A⟩:=wc h;split at g
 case h_2=>cases g
 rename_i T0 v st f W E;obtain⟨m,g⟩:=Za g;simp only[yi,yP]at m;obtain⟨⟨m,rfl⟩,Q⟩:=m;have R:id < H.length:=(yu.1 E).1
 have j:((H.map (ah.stale (lk H) id)).set id (.aY T (()::v) ae f l))[id]? =ab (.aY T (()::v) ae f l):=by
  grind
 have S:aJ ((H.map (ah.stale (lk H) id)).set id (.aY T (()::v) ae f l))=(aJ H).set id (.row (v.length+1) T.size ae f (.p (.arr l.length T.size (l.map T.enc)))):=by
  unfold aJ;rw[ybn,ybd]
  have:(ah.aY T (()::v) ae f l).er (lk ((H.map (ah.stale (lk H) id)).set id (.aY T (()::v) ae f l)))=.row (v.length+1) T.size ae f (.p (.arr l.length T.size (l.map T.enc))):=by
   simp only[ah.er,yaf]
  rw[this];congr 1;refine yci λx A=> ?_;exact rU (λid t y=>VR (lk H) id t y) x
 refine⟨_,_,_,_,_,g,bT (λz t y=>VR (lk H) z t y) all,pD all,dY (⟨rfl,λF=> ?_,λF=> ?_,[],zP,λF=> ?_⟩)⟩
 .unfold bj;rw[ho];rfl
 .unfold bH;rw[ho]
 .unfold cX;rw[ho];dsimp only;rw[yag,yz];dsimp only;rw[G,Z9 E];dsimp only[ah.er];rw[I,J];dsimp only;rw[yW (by rw[yi,yi,yT,yT];exact⟨⟨M,rfl⟩,Q.trans hs.symm⟩),A,S,(gK j).1,hs, <-m];grind
def GW(P:yg)(t:yc)(n f:Int)(all:yL TD)(H:yL ah)(K:Kn O):yO O:=
 match P.underlying t with
 |some (.slice e)=>(P.info? e).bind λi=>(gH P iu e).bind λT=>
  if(cu i&&i.size !=0&&ag (i.size=T.size)&&TD.frees H.length all&&H.all (ah.free H.length))=ae then if(ag (n=0)&&mG f i.bytes)=ae then K all (.rw H.length) (H++[.aY T [] ae e []]) [.arr] 2 else ad else ad
 |_=>ad
theorem ZyA{t:yc}{l c:yp}{n f:Num}(ho:o.op=.makeSlice t l c)(hl:(bq P ts 0 l).bind TD.num=ab n)(hc:(bq P ts 0 c).bind TD.num=ab f)(E:n.k=.i64)(m:f.k=.i64)
 (h:GW P t n.n f.n all H K=ab out):∃a d H' hs c,K a d H' hs c=ab out/\Good P o ts all H a d H' hs c:=by
 obtain⟨ld,F,G⟩:=yf.1 hl;obtain⟨cd,I,J⟩:=yf.1 hc;have y:=Zu (L:=lk H) F;have z:=Zu (L:=lk H) I;rw[Q1 G,E]at y;rw[Q1 J,m]at z;unfold GW at h;have M:∀hs,bj P o (TD.aG (lk H) ts) hs=ad:=λhs=>by unfold bj;rw[ho]
 have Q:∀hs,bH P o (TD.aG (lk H) ts) (aJ H) hs=ad:=λhs=>by unfold bH;rw[ho]
 split at h
 .rename_i e R;obtain⟨i,S,h⟩:=yf.1 h;obtain⟨T,h2,h⟩:=yf.1 h;obtain⟨g,h⟩:=Za h;obtain⟨j,h⟩:=Za h;simp only[yi,yP]at g;obtain⟨⟨⟨U,g⟩,W⟩,X⟩:=g;simp only[mG,yi,yP]at j;obtain⟨Y,Z⟩:=mA j.2.2;refine⟨_,_,_,_,_,h,pA W,rfl,dY (⟨rfl,λA=>M _,λA=>Q _,[n.n=0,0<=f.n,f.n.toNat*i.bytes<=Zt,f.n.toNat<=maxLen],⟨j.1,j.2.1,Y,Z,aw⟩,λA=> ?_⟩)⟩;unfold cX;rw[ho];dsimp only;rw[R,y,z];dsimp only;rw[S,yag,yz];dsimp only;rw[yW (by simpa using U),wl X,wm,Z2,g];rfl
 .cases h
def GX(P:yg)(t:yc)(dst:Tmp)(all:yL TD)(H:yL ah)(K:Kn O):TD->yO O
 |.p (.sl (ab af) T [])=>match P.underlying t with
  |some (.slice e)=>(P.info? e).bind λi=>if(cu i&&i.size !=0&&ag (i.size=T.size)&&TD.frees H.length all&&H.all (ah.free H.length))=ae then K all (.rw H.length) (H++[.aY T [] ae e []]) [.jy dst] 2 else ad
  |_=>ad
 |_=>ad
theorem Zwp{x:yp}{dst:Tmp}{f:TD}(ho:o.op=.assign x)(hd:o.dst=ab dst)(l:bq P ts o.type x=ab f)(h:GX P o.type dst all H K f=ab out):
 ∃a d H' hs c,K a d H' hs c=ab out/\Good P o ts all H a d H' hs c:=by
 have m:=Zu (L:=lk H) l;unfold GX at h;split at h
 .rename_i T;split at h
  .rename_i e y;obtain⟨i,z,h⟩:=yf.1 h;obtain⟨g,h⟩:=Za h;simp only[yi,yP]at g;obtain⟨⟨⟨A,E⟩,F⟩,G⟩:=g;refine⟨_,_,_,_,_,h,pA F,rfl,dY (⟨rfl,λj=> ?_,λj=> ?_,[],zP,λj=> ?_⟩)⟩
   .unfold bj;rw[ho];rfl
   .unfold bH;rw[ho]
   .unfold cX;rw[ho];dsimp only;rw[yag,yz];dsimp only;rw[yW hd,y,m,show(TD.p (TP.sl (ab af) T [])).er (lk H)=Dv.p (.sl (ab af) T.size []) from rfl]
    dsimp only;rw[z];dsimp only;rw[yW (by simpa using A),wl G,wm,Z2,E];rfl
  .cases h
 .cases h
def GY(P:yg)(t:yc)(lo hi:yO Int)(all:yL TD)(H:yL ah)(K:Kn O):TD->yO O
 |.rw id=>match P.underlying t,H[id]?,lo,hi with
  |some (.slice e),ab (.aY T v ae f l),ad,ab h=>if(okB P e T.size&&ag (T.size≠0))=ae then if(ag (0<=h)&&ag (h.toNat<=l.length))=ae then
    K (TD.cF (lk H) id all) (.rw id) ((H.map (ah.stale (lk H) id)).set id (.aY T v ae f (l.take h.toNat))) [.arr] 2 else ad else ad
  |_,_,_,_=>ad
 |_=>ad
theorem ZtC{t:yc}{x:yp}{lo hi:yO yp}{l Q:yO Int}{R:TD}(ho:o.op=.slice t x lo hi ad)(S:bq P ts t x=ab R)(hl:fw P ts lo=ab l)(Z:fw P ts hi=ab Q)(h:GY P t l Q all H K R=ab out):
 ∃a d H' hs c,K a d H' hs c=ab out/\Good P o ts all H a d H' hs c:=by
 have U:=Zu (L:=lk H) S;have m:=Q0 (L:=lk H) hl;have y:=Q0 (L:=lk H) Z;unfold GY at h;split at h
 .rename_i id;split at h
  .rename_i e T v j g f W A;obtain⟨E,h⟩:=Za h;obtain⟨F,h⟩:=Za h;simp only[yi,yP]at E F;obtain⟨G,I⟩:=ZBY E.1;have hlt:id < H.length:=(yu.1 A).1
   have z:((H.map (ah.stale (lk H) id)).set id (.aY T v ae j (g.take f.toNat)))[id]? =ab (.aY T v ae j (g.take f.toNat)):=by
    grind
   have X:(g.take f.toNat).length=f.toNat:=by rw[List.length_take];omega
   have hH:aJ ((H.map (ah.stale (lk H) id)).set id (.aY T v ae j (g.take f.toNat)))=(aJ H).set id (.row v.length T.size ae j (.p (.arr f.toNat T.size ((g.map T.enc).take f.toNat)))):=by
    unfold aJ;rw[ybn,ybd]
    have:(ah.aY T v ae j (g.take f.toNat)).er (lk ((H.map (ah.stale (lk H) id)).set id (.aY T v ae j (g.take f.toNat))))=.row v.length T.size ae j (.p (.arr f.toNat T.size ((g.map T.enc).take f.toNat))):=by
     simp only[ah.er,X,List.map_take]
    rw[this];congr 1;refine yci λx S=> ?_;exact rU (λid t J=>VR (lk H) id t J) x
   refine⟨_,_,_,_,_,h,bT (λM t J=>VR (lk H) M t J) all,pD all,dY (⟨rfl,λY=> ?_,λY=> ?_,[0<=f,f.toNat<=g.length],⟨F.1,F.2,aw⟩,λY=> ?_⟩)⟩
   .unfold bj;rw[ho];dsimp only;rw[W,U,(gK A).1,m,y];rfl
   .unfold bH;grind
   .unfold cX;rw[ho];dsimp only;rw[W,U,(gK A).1,m,y];dsimp only;rw[yag,yz];dsimp only;rw[Z9 A,ah.er];dsimp only;rw[yW (by simp[G,I,E.2]),hH,(gK z).1,X]
  .cases h
 .cases h
def ah.jP:ah->yO (Nat×Nat×Nat)
 |.aR t _ v _ _ g f=>ab (v.length,t.size,g.length+f.length)
 |.bL t _ v _ _ g _ f=>ab (v.length,t.size,g.length+(f.length+1))
 |_=>ad
theorem pE{L:Lk}{id:Nat}{v:yL Unit}{s N:Nat}(h:Yh L id aMW ad=([v,yx s (),yx N ()]:yL aMV)):
 (TD.rw id).er L=.rv id v.length s 0 N/\∀yQ,(TD.rp id yQ).er L=.aZ id v.length (Wp yQ) (yQ.map cg.i):=by
 refine⟨?_,λyQ=> ?_⟩
 .rw[TD.er];unfold eQ;rw[h];show Dv.rv id v.length (yx s ()).length 0 (yx N ()).length=_;grind
 .rw[TD.er];unfold eQ;rw[h];rfl
theorem lD{id:Nat}{x:ah}{q:Nat×Nat×Nat}(hd:H[id]? =ab x)(h:x.jP=ab q):(TD.rw id).er (lk H)=.rv id q.1 q.2.1 0 q.2.2/\∀yQ,(TD.rp id yQ).er (lk H)=.aZ id q.1 (Wp yQ) (yQ.map cg.i):=by
 cases x <;> first|cases h|skip
 all_goals
  refine pE ?_;unfold Yh lk;dsimp only;rw[hd];rfl
def GZ(P:yg)(t:yc)(i:Int)(all:yL TD)(H:yL ah)(K:Kn O):TD->yO O
 |.rw id=>match P.underlying t,(H[id]?).bind ah.jP with
  |some (.slice e),ab q=>if okB P e q.2.1=ae then if bi i q.2.2=ae then K all (.rp id [.ix i.toNat q.2.1]) H [] 0 else ad else ad
  |_,_=>ad
 |_=>ad
theorem Zwr{t:yc}{x ix:yp}{j:TD}{q:IntKind×Int}{l:TP}(ho:o.op=.indexAddr t x ix)(z:bq P ts t x=ab j)(hi:bq P ts 0 ix=ab (.p l))(hq:jl l=ab q)(h:GZ P t q.2 all H K j=ab out):
 ∃a d H' hs c,K a d H' hs c=ab out/\Good P o ts all H a d H' hs c:=by
 have A:=Zu (L:=lk H) z;have m:=Zu (L:=lk H) hi;rw[TD.er,(pp hq).1]at m;unfold GZ at h;split at h
 .rename_i id;split at h
  .rename_i e w E g;obtain⟨G,g,f⟩:=yf.1 g;obtain⟨F,h⟩:=Za h;obtain⟨y,h⟩:=Za h;refine⟨_,_,_,_,_,h,rfl,rfl,.inl ⟨rfl,rfl,[0<=q.2,q.2 < (w.2.2:Int)],⟨(V4 y).1,(V4 y).2,aw⟩,λI=> ?_⟩⟩;simp only[yz];unfold bj;rw[ho];dsimp only;rw[E,A,m,(lD g f).1,(lD g f).2];dsimp only;rw[yW (by simpa[okB] using F)];simp[Wp,cg.o,cg.i]
  .cases h
 .cases h
def HA(P:yg)(t:yc)(all:yL TD)(H:yL ah)(K:Kn O):TD->yO O
 |.rw id=>match P.underlying t,(H[id]?).bind ah.jP with
  |some (.slice _),ab q=>K all (.p (.v (.int .i64) (q.2.2:Int))) H [] 0
  |_,_=>ad
 |_=>ad
theorem ZAS{t:yc}{x:yp}{c:Call}{j:TD}(ho:o.op=.call c)(hc:c.callee=.builtin .len)(ha:c.args.toList=[x])(ht:c.argTypes.toList=[t])(l:bq P ts t x=ab j)(h:HA P t all H K j=ab out):
 ∃a d H' hs c,K a d H' hs c=ab out/\Good P o ts all H a d H' hs c:=by
 have m:=Zu (L:=lk H) l;unfold HA at h;split at h
 .rename_i id;split at h
  .rename_i e w y f;obtain⟨z,f,g⟩:=yf.1 f;refine⟨_,_,_,_,_,h,rfl,rfl,.inl ⟨rfl,rfl,[],zP,λA=> ?_⟩⟩;simp only[yz];unfold bj;rw[ho];dsimp only;rw[hc];dsimp only;rw[ha,ht];dsimp only;rw[y,m,(lD f g).1];rfl
  .cases h
 .cases h
theorem fI{xs:yL TP}{i:Nat}{z:TP}(h:i < xs.length):(xs.set i z)[i]? =ab z:=by rw[List.getElem?_set_self h]
def si:yL Nat->TP->(T:Ty)->yO T.aU
 |[],x,T=>match T with
  |.sl u=>if x.jN u=ae then ab [] else ad
  |_=>ad
 |i::r,x,T=>match x,T with
  |.agg f,.st g=>(f[i]?).bind λz=>(g[i]?).bind λU=>(si r z U).bind λy=>TP.jk gm (f.set i (.v U y)) g
  |_,_=>ad
theorem ZyC:∀(xs:yL TP)(f:yL Ty)(y:Ty.aO f)(i:Nat)(U:Ty)(z:U.aU),TP.jk gm xs f=ab y->xs[i]? =ab (.v U z)->(Ty.fl f y)[i]? =ab (.v U z)
 |[],f,y,i,U,z,h,k=>by simp at k
 |x::r,f,y,i,U,z,h,k=>by
  have g:rD (TP.to gm x) r.isEmpty (TP.jk gm r) f=ab y:=h
  match f,y,g with
  |[],_,g=>cases g
  |[t],y,g=>
   have j:(if r.isEmpty then TP.to gm x t else ad)=ab y:=g
   split at j
   .rename_i l
    cases r with
    |nil=>
     cases i with
     |zero=>
      cases k;obtain⟨e,rfl⟩:=VQ (show Ty.cast U t z=ab y from j)
      subst e
      rfl
     |succ i=>simp at k
    |cons _ _=>cases l
   .cases j
  |t::u::q,y,g=>
   obtain⟨m,j⟩:=po (α:=t.aU) (β:=Ty.aO (u::q)) g
   cases i with
   |zero=>
    cases k;obtain⟨e,A⟩:=VQ (show Ty.cast U t z=ab y.1 from m)
    subst e;show ab (TP.v U y.1)=_
    rw[A]
   |succ i=>
    rw[List.getElem?_cons_succ]at k;exact ZyC r (u::q) y.2 i U z j k
theorem ZyD:∀(E:yL Nat)(x:TP)(T:Ty)(y:T.aU),si E x T=ab y->x.pe=(Wo E (.v T y)).pe
 |[],x,T,y,h=>by
  cases T with
  |sl u=>
   simp only[si]at h;split at h
   .rename_i I;cases h;exact FW I
   .cases h
  |_=>cases h
 |i::r,x,T,y,h=>by
  simp only[si]at h;split at h
  .rename_i m f;obtain⟨z,F,h⟩:=yf.1 h;obtain⟨U,Y,h⟩:=yf.1 h;obtain⟨w,J,h⟩:=yf.1 h;have g:i < m.length:=(yu.1 F).1;have M:=ZyD r z U w J;have Z:=ZyC _ f y i U w h (fI g);have Q:=dP _ _ _ h;have R:(TP.v (.st f) y).parts=ab (Ty.fl f y):=rfl
   have A:Wo (i::r) (.v (.st f) y)=.agg ((Ty.fl f y).set i (Wo r (.v U w))):=by
    rw[Wo,R];grind
   have G:∀(l:yL TP)(q:TP),TP.cl (l.set i q)=(TP.cl l).set i q.pe:=λl q=>by rw[W0,ybn, <-W0]
   have S:TP.cl (Ty.fl f y)=(TP.cl m).set i (TP.v U w).pe:=((vI f y).trans Q.symm).trans (G _ _)
   have W:TP.cl ((Ty.fl f y).set i (Wo r (.v U w)))=TP.cl m:=by
    rw[G,S,List.set_set, <-M];refine List.ext_getElem? λj=> ?_;rw[List.getElem?_set];split
    .rename_i X;subst X;rw[yW (by rw[W0,yad];exact g),W0,yao,F];rfl
    .rfl
   rw[A];exact congrArg Pl.agg W.symm
  .cases h
def wn(f:yL Nat)(T:Ty):yL TP->yO (yL T.aU)
 |[]=>ab []
 |x::r=>match si f x T,wn f T r with
  |some y,ab g=>ab (y::g)
  |_,_=>ad
theorem ZuJ{f:yL Nat}{T:Ty}:∀{xs:yL TP}{ys:yL T.aU},wn f T xs=ab ys->TP.cl xs=ys.map λy=>(Wo f (.v T y)).pe
 |[],ys,h=>by cases h;rfl
 |x::r,ys,h=>by
  simp only[wn]at h;split at h
  .rename_i y g j l;cases h;rw[TP.cl,yah,ZyD f x T y j,ZuJ l]
  .cases h
def wo(L:Lk)(P:yg)(ts:yL TD)(e:yc):yL (Nat×yp)->yO (yL TP)
 |[]=>ab []
 |q::r=>match (bq P ts e q.2).bind (TD.flat L),wo L P ts e r with
  |some x,ab l=>if x.pe.size=P.cellsOf e then ab (x::l) else ad
  |_,_=>ad
theorem ZyE{L:Lk}{e:yc}:∀{parts:yL (Nat×yp)}{l:yL TP},wo L P ts e parts=ab l->
 Dv.aS (parts.map λq=>aF P (TD.aG L ts) e q.2)=ab (TP.cl l)/\(TP.cl l).all (λx=>x.size==P.cellsOf e)=ae
 |[],l,h=>by cases h;exact⟨rfl,rfl⟩
 |q::r,l,h=>by
  simp only[wo]at h;split at h
  .rename_i x A f g;obtain⟨d,j,m⟩:=yf.1 f;split at h
   .rename_i hs;cases h;obtain⟨y,z⟩:=ZyE g;refine⟨?_, ?_⟩
    .simp only[yah,Dv.aS];rw[Zu j,DJ m,y];rfl
    .simp only[TP.cl,List.all_cons,yi,yT];exact⟨hs,z⟩
   .cases h
  .cases h
def HB(P:yg)(ts:yL TD)(t:yc)(len:Nat)(parts:yL (Nat×yp))(all:yL TD)(H:yL ah)(K:Kn O):yO O:=
 match P.underlying t with
 |some (.slice e)=>(P.info? e).bind λi=>(wo (lk H) P ts e parts).bind λl=>
  if(parts.map (·.1)==yo len)&&(cu i&&i.size !=0&&ag (len*i.size<=16777216)) then K all (.p (.lw (ab ae) i.size l)) H [.bare] 0 else ad
 |_=>ad
theorem ZDG{t:yc}{len:Nat}{parts:Array (Nat×yp)}(ho:o.op=.buildSlice t len parts)(h:HB P ts t len parts.toList all H K=ab out):
 ∃a d H' hs c,K a d H' hs c=ab out/\Good P o ts all H a d H' hs c:=by
 unfold HB at h;split at h
 .rename_i e g;obtain⟨i,j,h⟩:=yf.1 h;obtain⟨l,m,h⟩:=yf.1 h;obtain⟨f,h⟩:=Za h;simp only[yi]at f;obtain⟨z,A⟩:=ZyE m
  have y:XI P (TD.aG (lk H) ts) e (P.cellsOf e) len parts.toList=ab (TP.cl l):=by
   unfold XI;grind
  refine⟨_,_,_,_,_,h,rfl,rfl,.inl ⟨rfl,rfl,[],zP,λE=> ?_⟩⟩;unfold bj;rw[ho];dsimp only;rw[yag,yz];dsimp only;rw[g];dsimp only;rw[j,y];dsimp only;rw[yW (by simpa only[yi] using f.2)];rfl
 .cases h
theorem ZB6{id:Nat}{e f:ah}(hd:H[id]? =ab e)(h:eR (ab f)=eR (ab e)):lk (H.set id f)=lk H:=by
 funext j;unfold lk
 all_goals grind
def HC(P:yg)(t u:yc)(all:yL TD)(H:yL ah)(K:Kn O)(y:TD):TD->yO O
 |.rw id=>match P.underlying t,P.underlying u,H[id]?,y with
  |some (.slice e),ab (.slice _),ab (.aR T h v st l g f),.p (.lw _ s m)=>(P.info? e).bind λi=>(wn h T m).bind λj=>
   if(cu i&&ag (i.size=T.size)&&ag (P.cellsOf e=T.size)&&ag (l=e)&&ag (T.size≠0)&&ag (s=T.size))=ae then if cj (g.length+f.length) j.length i.bytes=ae then
    K (TD.cF (lk H) id all) (.rw id) ((H.map (ah.stale (lk H) id)).set id (.aR T h (()::v) st e g (f++j))) [.raw] 2 else ad else ad
  |_,_,_,_=>ad
 |_=>ad
theorem ZtD{t u:yc}{x y:yp}{c:Call}{S U:TD}(ho:o.op=.call c)(hc:c.callee=.builtin .append)(ha:c.args.toList=[x,y])(ht:c.argTypes.toList=[t,u])
 (hv:aF P (TD.aG (lk H) ts) t x=S.er (lk H)) (X:bq P ts u y=ab U) (h:HC P t u all H K U S=ab out):∃a d H' hs c,K a d H' hs c=ab out/\Good P o ts all H a d H' hs c:=by
 have Y:=Zu (L:=lk H) X;unfold HC at h;split at h
 .rename_i id;split at h
  .rename_i e e2 T l v st m g f nn s z Z hu2 J;obtain⟨i,h1,h⟩:=yf.1 h;obtain⟨j,h2,h⟩:=yf.1 h;obtain⟨W,k6⟩:=Za h;obtain⟨M,kk⟩:=Za k6;simp only[yi,yP]at W;obtain⟨⟨⟨⟨⟨g1,g2⟩,g3⟩,g4⟩,g5⟩,g6⟩:=W;subst g4;subst g6;simp only[cj,yi,yP]at M;have hlt:id < H.length:=(yu.1 J).1;have A:=ZuJ h2;have E:(TP.cl z).length=j.length:=by rw[A,yad]
   have hq:=lD (q:=(v.length,T.size,g.length+f.length)) J rfl
   refine⟨_,_,_,_,_,kk,bT (λQ t R=>VR (lk H) Q t R) all,pD all,dY (⟨rfl,λI=> ?_,λI=> ?_,
    [g.length+f.length<=g.length+f.length,(g.length+f.length+(TP.cl z).length)*i.bytes<=Zt,g.length+f.length+(TP.cl z).length<=maxLen,st=ae\/g.length+f.length=g.length+f.length],
    ⟨ym _,by rw[E];exact M.1,by rw[E];exact M.2,.inr rfl,aw⟩,λI=> ?_⟩)⟩
   .unfold bj;grind
   .unfold bH;grind
   .have F:iM P T.size u (aJ H) I (aF P (TD.aG (lk H) ts) u y)=ab ([],TP.cl z,I):=by
     rw[Y,TD.er,TP.pe];unfold iM hP;grind
    unfold cX;rw[ho];dsimp only;rw[hc];dsimp only;rw[ha,ht];dsimp only;rw[Z,hv,hq.1];rw[yag,yz];dsimp only;rw[h1,F,Z9 J];dsimp only[ah.er]
    have G:((H.map (ah.stale (lk H) id)).set id (.aR T l (()::v) st m g (f++j)))[id]? =ab (.aR T l (()::v) st m g (f++j)):=by
     grind
    have hN:g.length+(f++j).length=g.length+f.length+j.length:=by rw[yl];omega
    have hH:aJ ((H.map (ah.stale (lk H) id)).set id (.aR T l (()::v) st m g (f++j)))=(aJ H).set id (.row (v.length+1) T.size st m (.p (.arr (g.length+f.length+j.length) T.size ((g.map T.enc++f.map λx=>(Wo l (.v T x)).pe)++TP.cl z)))):=by
     unfold aJ;rw[ybn,ybd]
     have:(ah.aR T l (()::v) st m g (f++j)).er (lk ((H.map (ah.stale (lk H) id)).set id (.aR T l (()::v) st m g (f++j))))=.row (v.length+1) T.size st m (.p (.arr (g.length+f.length+j.length) T.size ((g.map T.enc++f.map λx=>(Wo l (.v T x)).pe)++TP.cl z))):=by
      rw[ah.er,hN,A,yaw,yac];rfl
     rw[this];congr 1;refine yci λx hx=> ?_;exact rU (λid t R=>VR (lk H) id t R) x
    have hq2:=lD (q:=(v.length+1,T.size,g.length+(f++j).length)) G rfl;grind
  .cases h
 .cases h
theorem ZIG{α:Type}(a b:yL α)(x:α):(a++x::b)[a.length]? =ab x:=by rw[List.getElem?_append_right (ym _),Nat.sub_self];rfl
theorem ZB7{α:Type}(a b:yL α)(x y:α):(a++x::b).set a.length y=a++y::b:=by
 grind
def HD(P:yg)(t:yc)(all:yL TD)(H:yL ah)(K:Kn O):TD->yO O
 |.rp id (.ix i s::r)=>match H[id]? with
  |some (.bL T j v st e f g h)=>if ag (s=T.size)=ae then if ag (i=f.length)=ae then fm (lk H) r g λsub hs _=>if gi P t (sub.er (lk H))=ae then K all sub H hs 1 else ad else ad else ad
  |_=>ad
 |_=>ad
theorem ZyF{t:yc}{x:yp}{z:TD}(ho:o.op=.load t x)(F:bq P ts 0 x=ab z)(h:HD P t all H K z=ab out):∃a d H' hs c,K a d H' hs c=ab out/\Good P o ts all H a d H' hs c:=by
 have G:=Zu (L:=lk H) F;unfold HD at h;split at h
 .rename_i id i s r;split at h
  .rename_i T I v st e f l g A;obtain⟨m,E⟩:=Za h;obtain⟨j,J⟩:=Za E;clear E h;have m:=yF m;have j:=yF j;subst m;subst j;obtain⟨sub,hs,M,C,Q,R,X,_⟩:=Xw _ _ _ _ J;obtain⟨Y,S⟩:=Za Q;have U:=lD (q:=(v.length,T.size,f.length+(g.length+1))) A rfl;refine⟨_,_,_,_,_,S,rfl,rfl,.inr (.inl ⟨rfl,rfl,λy=> ?_,C++[f.length*T.size+eA r=Wp (.ix f.length T.size::r)],Zl.2 ⟨R,by rw[XR,eA,cg.o],aw⟩,λy=> ?_⟩)⟩
   .unfold bj;grind
   .unfold bH;rw[ho];dsimp only;rw[G,U.2];dsimp only;rw[Z9 A];dsimp only[ah.er]
    have W:Yd (.arr (f.length+(g.length+1)) T.size ((f.map λx=>.p (T.enc x))++l.er (lk H)::g.map λx=>.p (Wo I (.v T x)).pe)) (f.length::r.map cg.i) (hs++y)=ab (C,f.length*T.size+eA r,sub.er (lk H),y):=by
     unfold Yd;grind
    rw[yah,show(cg.ix f.length T.size).i=f.length from rfl,W]
    grind
  .cases h
 .cases h
def HE(P:yg)(t:yc)(all:yL TD)(H:yL ah)(K:Kn O)(v:TD):TD->yO O
 |.rp id (.ix i s::r)=>match H[id]? with
  |some (.bL T l u ae e f h g)=>if ag (s=T.size)=ae then if ag (i=f.length)=ae then fm (lk H) r h λsub hs j=>(j v).bind λd1=>
   if mI P t (v.er (lk H)) (sub.er (lk H))=ae then K all .an (H.set id (.bL T l u ae e f d1 g)) hs 2 else ad else ad else ad
  |_=>ad
 |_=>ad
theorem Zwu{t:yc}{x y:yp}{M E:TD}(ho:o.op=.store t x y)(S:bq P ts 0 x=ab M)(U:bq P ts t y=ab E)(h:HE P t all H K E M=ab out):
 ∃a d H' hs c,K a d H' hs c=ab out/\Good P o ts all H a d H' hs c:=by
 have W:=Zu (L:=lk H) S;have X:=Zu (L:=lk H) U;unfold HE at h;split at h
 .rename_i id i s r;split at h
  .rename_i T m u e f j g G;obtain⟨I,Q⟩:=Za h;obtain⟨z,Y⟩:=Za Q;clear Q h;have I:=yF I;have z:=yF z;subst I;subst z;obtain⟨sub,hs,Z,C,F,k2,k3,k4⟩:=Xw r j _ out Y;obtain⟨d1,p1,F⟩:=yf.1 F;obtain⟨h4,F⟩:=Za F;have A:=h4;unfold mI at A;have hq:=lD (q:=(u.length,T.size,f.length+(g.length+1))) G rfl;have R:lk (H.set id (.bL T m u ae e f d1 g))=lk H:=ZB6 G rfl;have hm:=ZIG (f.map λx=>Dv.p (T.enc x)) (g.map λx=>.p (Wo m (.v T x)).pe) (j.er (lk H));have J:=ZB7 (f.map λx=>Dv.p (T.enc x)) (g.map λx=>.p (Wo m (.v T x)).pe) (j.er (lk H)) (d1.er (lk H));rw[yad]at hm J
   have hg:∀l,Yd (.arr (f.length+(g.length+1)) T.size ((f.map λx=>.p (T.enc x))++j.er (lk H)::g.map λx=>.p (Wo m (.v T x)).pe)) (f.length::r.map cg.i) (hs++l)=ab (C,f.length*T.size+eA r,sub.er (lk H),l):=by
    intro l;unfold Yd;grind
   have hp:∀l,Wi (E.er (lk H)) (.arr (f.length+(g.length+1)) T.size ((f.map λx=>.p (T.enc x))++j.er (lk H)::g.map λx=>.p (Wo m (.v T x)).pe)) (f.length::r.map cg.i) (hs++l)=ab (.arr (f.length+(g.length+1)) T.size ((f.map λx=>.p (T.enc x))++d1.er (lk H)::g.map λx=>.p (Wo m (.v T x)).pe)):=by
    intro l;have:=k4 _ d1 p1 l;unfold Wi;grind
   refine⟨_,_,_,_,_,F,by rw[R],rfl,dY (⟨rfl,λl=> ?_,λl=> ?_,C++[f.length*T.size+eA r=Wp (.ix f.length T.size::r)],
    Zl.2 ⟨k2,by rw[XR,eA,cg.o],aw⟩,λl=> ?_⟩)⟩
   .unfold bj;rw[ho]
   .unfold bH;rw[ho]
   .unfold cX;rw[ho];dsimp only;rw[W,X,hq.2];dsimp only;rw[Z9 G];dsimp only[ah.er];rw[yah,show(cg.ix f.length T.size).i=f.length from rfl,hg l]
    dsimp only;rw[show jf (f.length::r.map cg.i) (.arr (f.length+(g.length+1)) T.size ((f.map λx=>.p (T.enc x))++j.er (lk H)::g.map λx=>.p (Wo m (.v T x)).pe)) (E.er (lk H))=ab (E.er (lk H)) from rfl]
    dsimp only;rw[hp l];dsimp only;rw[yW (by simp only[yi]at A ⊢;exact⟨⟨A,by simp⟩,by simp[aR]⟩),Xs R];rfl
  .cases h
 .cases h
def sj(H:yL ah):TD->Bool
 |.rw id=>((H[id]?).bind ah.jP).isSome
 |.rp id _=>((H[id]?).bind ah.jP).isSome
 |_=>af
def rnT(P:yg)(hi:HI)(o:yj)(ts:yL TD)(H:yL ah):Bool:=
 match o.op with
 |.load t x=>match bq P ts 0 x with
  |some d=>sj H d
  |none=>af
 |.store t x y=>match bq P ts 0 x with
  |some d=>sj H d
  |none=>af
 |.indexAddr t x ix=>match bq P ts t x with
  |some d=>sj H d
  |none=>af
 |.buildSlice t len parts=>match o.dst with
  |some d=>hi.lits.contains d
  |none=>af
 |.call c=>match c.callee with
  |.builtin .len=>match c.args.toList,c.argTypes.toList with
   |[x],[t]=>match bq P ts t x with
    |some d=>sj H d
    |none=>af
   |_,_=>af
  |.builtin .append=>match c.args.toList,c.argTypes.toList with
   |[x,y],[t,u]=>match bq P ts t x with
    |some d=>sj H d
    |none=>af
   |_,_=>af
  |_=>af
 |_=>af
def HF(P:yg)(hi:HI)(o:yj)(ts all:yL TD)(H:yL ah)(K:Kn O):yO O:=
 match o.op with
 |.load t x=>(bq P ts 0 x).bind λd=>HD P t all H K d
 |.store t x y=>(bq P ts 0 x).bind λa=>(bq P ts t y).bind λv=>HE P t all H K v a
 |.indexAddr t x ix=>(bq P ts t x).bind λa=>(bq P ts 0 ix).bind λb=>b.inner.bind λf=>(jl f).bind λq=>GZ P t q.2 all H K a
 |.buildSlice t len parts=>HB P ts t len parts.toList all H K
 |.call c=>match c.callee with
  |.builtin .len=>match c.args.toList,c.argTypes.toList with
   |[x],[t]=>(bq P ts t x).bind λd=>HA P t all H K d
   |_,_=>ad
  |.builtin .append=>match c.args.toList,c.argTypes.toList with
   |[x,y],[t,u]=>(bq P ts t x).bind λa=>(bq P ts u y).bind λb=>HC P t u all H K b a
   |_,_=>ad
  |_=>ad
 |_=>ad
theorem ZDH{hi:HI}(h:HF P hi o ts all H K=ab out):∃a d H' hs c,K a d H' hs c=ab out/\Good P o ts all H a d H' hs c:=by
 unfold HF at h;split at h
 .rename_i t x f;obtain⟨d,g,h⟩:=yf.1 h;exact ZyF f g h
 .rename_i t x y f;obtain⟨a,g,h⟩:=yf.1 h;obtain⟨v,j,h⟩:=yf.1 h;exact Zwu f g j h
 .rename_i t x ix f;obtain⟨a,g,h⟩:=yf.1 h;obtain⟨b,j,h⟩:=yf.1 h;obtain⟨F,A,h⟩:=yf.1 h;obtain⟨q,E,h⟩:=yf.1 h;rw[Xb A]at j;exact Zwr f g j E h
 .rename_i t len parts f;exact ZDG f h
 .rename_i c f;split at h
  .rename_i l;split at h
   .rename_i x t m z;obtain⟨d,g,h⟩:=yf.1 h;exact ZAS f l m z g h
   .cases h
  .rename_i l;split at h
   .rename_i x y t u m z;obtain⟨a,g,h⟩:=yf.1 h;obtain⟨b,j,h⟩:=yf.1 h;exact ZtD f l m z (Zu g) j h
   .cases h
  .cases h
 .cases h
end
end Go.Ev
end
section
namespace Go.Ev
abbrev TV:=Σ t:Ty,t.aU
inductive Sh where
 |v (t:Ty)
 |elem (t:Ty)
 |nil (t:Ty)
 |sl (nn:Bool) (t:Ty)
 |own (j:Nat) (t:Ty)
 |aj (j:Nat) (yQ:List cg)
 |mp (j:Nat)
 |rw(j:Nat)
 |rp (j s:Nat) (yQ:List cg)
 |view (j:Nat) (yQ:List cg) (s lo n:Nat)
 |rv (j ver s lo n:Nat)
 |fn (g:FuncId) (l:List Sh)
 |agg (l:List Sh)
 |arr (n s:Nat) (l:List Sh)
 |bp (l:List Sh)
 |iface (t:yc) (x:Sh)
 |sk (t u:yc) (x:Sh)
 |bX|fn0|eG|cC
 |an
instance:Inhabited Sh:=⟨.an⟩
def cg.beq:cg->cg->Bool
 |.gk i o,.gk j p=>ag (i=j)&&ag (o=p)
 |.ix i o,.ix j p=>ag (i=j)&&ag (o=p)
 |_,_=>af
def pF:yL cg->yL cg->Bool
 |[],[]=>ae
 |q::r,p::s=>q.beq p&&pF r s
 |_,_=>af
theorem wq:∀{l m:yL cg},pF l m=ae->l=m
 |[],[],_=>rfl
 |[],_::_,h=>by cases h
 |_::_,[],h=>by cases h
 |q::r,p::s,h=>by
  simp only[pF,yi]at h;rw[wq h.2];congr 1;cases q <;> cases p <;> simp[cg.beq]at h <;> simp[h.1]
def TD.toT(L:Lk)(t:Ty):TD->yO t.aU
 |.p x=>TP.to jL x t
 |.own id _ u c=>match t with
  |.sl w=>Ty.bw u w (Yh L id u c)
  |_=>ad
 |_=>ad
theorem ZK7{L:Lk}{t:Ty}{d:TD}{y:t.aU}(h:d.toT L t=ab y):Wk (d.er L) (.p (t.enc y)):=by
 cases d with
 |p x=>exact Wk.p (rE (show TP.to jL x t=ab y from h))
 |own id g u c=>
  cases t with
  |sl w=>
   obtain⟨e,f⟩:=ZI (show Ty.bw u w (Yh L id u c)=ab y from h)
   subst e;subst f
   exact Wk.nE (bm.refl _)
  |_=>cases h
 |_=>cases h
def ZMt(t:Ty):TD->yO t.aU
 |.elem x=>TP.to jL x t
 |_=>ad
theorem Wk.elem{x y:Pl}(h:bJ x y):Wk (.elem x) (.elem y):=⟨rfl,rfl,λσ vs r=>by
 simp only[yH]at r ⊢;obtain⟨b,o,f,e,g,j⟩:=r;exact⟨b,o,f,e,h.dq _ _ _ g,j⟩⟩
theorem cR.fn{f:FuncId}{g es:yL Dv}(h:cR g es):Wk (.fn f g) (.fn f es):=⟨rfl,rfl,λσ vs r=>by
 simp only[yH]at r ⊢;obtain⟨j,l,e,m,r⟩:=r;exact⟨j,l,e,m,h.vs r⟩⟩
theorem cR.sizes{f es:yL Dv}(h:cR f es)(s:Nat):(∀x,x∈f->x.size=s)->∀x,x∈es->x.size=s:=by
 induction h with
 |nil=>intro _ x hx;cases hx
 |cons h k j=>
  intro g x hx;rcases List.mem_cons.1 hx with rfl|hx
  .rw[<-h.size];exact g _ (List.mem_cons_self ..)
  .exact j (λy l=>g y (List.mem_cons_of_mem _ l)) x hx
theorem cR.arr{n s:Nat}{f es:yL Dv}(h:cR f es):Wk (.arr n s f) (.arr n s es):=⟨rfl,rfl,λσ vs r=>by
 simp only[yH]at r ⊢;obtain⟨g,j,l⟩:=r;have:=(cR.agg h).dq σ vs (by simp only[yH];exact l);simp only[yH]at this;exact⟨by rw[<-h.len];exact g,h.sizes s j,this⟩⟩
theorem Wk.iface{t:yc}{x y:Dv}(h:Wk x y):Wk (.iface t x) (.iface t y):=⟨rfl,rfl,λσ vs r=>by
 simp only[yH]at r ⊢;obtain⟨v,e,g,j⟩:=r;refine⟨v,e,λf=> ?_,λf=>h.dq _ _ (j (by rw[h.agg];exact f))⟩;obtain⟨l,m,z⟩:=g (by rw[h.agg];exact f);exact⟨l,m,h.dq _ _ z⟩⟩
mutual
def Sh.mt(L:Lk):Sh->TD->yO (TD×yL TV)
 |.v t,d=>(d.toT L t).map λy=>(.p (.v t y),[⟨t,y⟩])
 |.elem t,d=>(ZMt t d).map λy=>(.elem (.v t y),[⟨t,y⟩])
 |.nil t,d=>match d with
  |.p x=>if x.jN t=ae then ab (.p (.sl (ab af) t []),[]) else ad
  |_=>ad
 |.sl I t,d=>match d with
  |.p (.sl (ab b) u E)=>if b=I then(Ty.bw u t E).map λy=>(.p (.sl (ab I) t y),[⟨.sl t,y⟩]) else ad
  |_=>ad
 |.own j t,d=>match d with
  |.own id _ u ad=>if id=j/\u=t then ab (.own j ad t ad,[]) else ad
  |_=>ad
 |.aj j p,d=>match d with
  |.aj id q=>if id=j/\pF p q=ae then ab (.aj j p,[]) else ad
  |_=>ad
 |.mp j,d=>match d with
  |.mp id=>if id=j then ab (.mp j,[]) else ad
  |_=>ad
 |.rw j,d=>match d with
  |.rw id=>if id=j then ab (.rw j,[]) else ad
  |_=>ad
 |.rp j s p,d=>match d with
  |.rp id (.ix i h::q)=>if id=j/\h=s/\pF p q=ae then ab (.rp j (.ix i s::p),[⟨.int .i64,(i:Int)⟩]) else ad
  |_=>ad
 |.view j p s lo n,d=>match d with
  |.view id q h z G=>if id=j/\pF p q=ae/\s=h/\lo=z/\n=G then ab (.view j p s lo n,[]) else ad
  |_=>ad
 |.rv j F s lo n,d=>match d with
  |.rv id J h z G=>if id=j/\F=J/\s=h/\lo=z/\n=G then ab (.rv j F s lo n,[]) else ad
  |_=>ad
 |.fn g l,d=>match d with
  |.fn f A=>if f=g then(Sh.eU L l A).map λq=>(.fn g q.1,q.2) else ad
  |_=>ad
 |.agg l,d=>match d with
  |.agg A=>(Sh.eU L l A).map λq=>(.agg q.1,q.2)
  |.p x=>match x.parts with
   |some E=>(Sh.eU L l (E.map TD.p)).map λq=>(.agg q.1,q.2)
   |none=>ad
  |_=>ad
 |.arr n s l,d=>match d with
  |.arr m h A=>if m=n/\h=s then(Sh.eU L l A).map λq=>(.arr n s q.1,q.2) else ad
  |.p (.arr m h E)=>if m=n/\h=s then(Sh.eU L l (E.map TD.p)).map λq=>(.arr n s q.1,q.2) else ad
  |_=>ad
 |.bp l,d=>match d with
  |.bp A=>(Sh.eU L l A).map λq=>(.bp q.1,q.2)
  |_=>ad
 |.iface t x,d=>match d with
  |.iface u y=>if u=t then(Sh.mt L x y).map λq=>(.iface t q.1,q.2) else ad
  |_=>ad
 |.sk t u x,d=>match d with
  |.iface w y=>if Nat.beq w t=ae then(Sh.mt L x y).map λq=>(.iface t q.1,⟨.bool,ae⟩::q.2) else if Nat.beq w u=ae then(Sh.mt L x y).map λq=>(.iface u q.1,⟨.bool,af⟩::q.2) else ad
  |_=>ad
 |.bX,d=>match d with
  |.p .bX=>ab (.p .bX,[])
  |_=>ad
 |.fn0,d=>match d with
  |.p .fn0=>ab (.p .fn0,[])
  |_=>ad
 |.eG,d=>match d with
  |.p .eG=>ab (.p .eG,[])
  |_=>ad
 |.cC,d=>match d with
  |.p .cC=>ab (.p .cC,[])
  |_=>ad
 |.an,d=>if(d.er L).size=1/\(d.er L).isAgg=af then ab (.an,[]) else ad
def Sh.eU(L:Lk):yL Sh->yL TD->yO (yL TD×yL TV)
 |[],f=>match f with
  |[]=>ab ([],[])
  |_=>ad
 |s::r,f=>match f with
  |d::q=>match Sh.mt L s d,Sh.eU L r q with
   |some a,ab b=>ab (a.1::b.1,a.2++b.2)
   |_,_=>ad
  |[]=>ad
end
mutual
def Sh.fill:Sh->yL TV->yO (TD×yL TV)
 |.v t,vs=>match vs with
  |x::r=>(Ty.cast x.1 t x.2).map λy=>(.p (.v t y),r)
  |[]=>ad
 |.elem t,vs=>match vs with
  |x::r=>(Ty.cast x.1 t x.2).map λy=>(.elem (.v t y),r)
  |[]=>ad
 |.nil t,vs=>ab (.p (.sl (ab af) t []),vs)
 |.sl h t,vs=>match vs with
  |x::r=>(Ty.cast x.1 (.sl t) x.2).map λ(y:yL t.aU)=>(.p (.sl (ab h) t y),r)
  |[]=>ad
 |.own j t,vs=>ab (.own j ad t ad,vs)
 |.aj j p,vs=>ab (.aj j p,vs)
 |.mp j,vs=>ab (.mp j,vs)
 |.rw j,vs=>ab (.rw j,vs)
 |.rp j s p,vs=>match vs with
  |x::r=>(Ty.cast x.1 (.int .i64) x.2).map λ(i:Int)=>(.rp j (.ix i.toNat s::p),r)
  |[]=>ad
 |.view j p s lo n,vs=>ab (.view j p s lo n,vs)
 |.rv j f s lo n,vs=>ab (.rv j f s lo n,vs)
 |.fn g l,vs=>(Sh.fills l vs).map λq=>(.fn g q.1,q.2)
 |.agg l,vs=>(Sh.fills l vs).map λq=>(.agg q.1,q.2)
 |.arr n s l,vs=>(Sh.fills l vs).map λq=>(.arr n s q.1,q.2)
 |.bp l,vs=>(Sh.fills l vs).map λq=>(.bp q.1,q.2)
 |.iface t x,vs=>(Sh.fill x vs).map λq=>(.iface t q.1,q.2)
 |.sk t u x,vs=>match vs with
  |z::r=>(Ty.cast z.1 .bool z.2).bind λ(b:Bool)=>(Sh.fill x r).map λq=>(.iface (bif b then t else u) q.1,q.2)
  |[]=>ad
 |.bX,vs=>ab (.p .bX,vs)
 |.fn0,vs=>ab (.p .fn0,vs)
 |.eG,vs=>ab (.p .eG,vs)
 |.cC,vs=>ab (.p .cC,vs)
 |.an,vs=>ab (.an,vs)
def Sh.fills:yL Sh->yL TV->yO (yL TD×yL TV)
 |[],vs=>ab ([],vs)
 |s::r,vs=>(Sh.fill s vs).bind λa=>(Sh.fills r a.2).map λb=>(a.1::b.1,b.2)
end
theorem YZ(t:Ty)(x:t.aU):Ty.cast t t x=ab x:=by
 unfold Ty.cast;split
 all_goals grind
mutual
theorem od{L:Lk}:∀(s:Sh)(d:TD)(q:TD×yL TV),s.mt L d=ab q->∀yK,s.fill (q.2++yK)=ab (q.1,yK)
 |.v t,d,q,h,yK=>by
  simp only[Sh.mt]at h;obtain⟨y,_,rfl⟩:=Ze h
  simp[Sh.fill,YZ]
 |.elem t,d,q,h,yK=>by
  simp only[Sh.mt]at h;obtain⟨y,_,rfl⟩:=Ze h
  simp[Sh.fill,YZ]
 |.nil t,d,q,h,yK=>by
  simp only[Sh.mt]at h;split at h
  .split at h <;> cases h;rfl
  .cases h
 |.sl m t,d,q,h,yK=>by
  simp only[Sh.mt]at h;split at h
  .split at h
   .obtain⟨w,f,rfl⟩:=Ze h;exact congrArg (Option.map λ(y:yL t.aU)=>(TD.p (.sl (ab m) t y),yK)) (YZ (.sl t) w)
   .cases h
  .cases h
 |.own j t,d,q,h,yK=>by
  simp only[Sh.mt]at h;split at h
  .split at h <;> cases h;rfl
  .cases h
 |.aj j p,d,q,h,yK=>by
  simp only[Sh.mt]at h;split at h
  .split at h <;> cases h;rfl
  .cases h
 |.mp j,d,q,h,yK=>by
  simp only[Sh.mt]at h;split at h
  .split at h <;> cases h;rfl
  .cases h
 |.rw j,d,q,h,yK=>by
  simp only[Sh.mt]at h;split at h
  .split at h <;> cases h;rfl
  .cases h
 |.rp j s p,d,q,h,yK=>by
  simp only[Sh.mt]at h;split at h
  .rename_i id i A E;split at h
   .cases h;exact congrArg (Option.map λ(i:Int)=>(TD.rp j (.ix i.toNat s::p),yK)) (YZ (.int .i64) (i:Int))
   .cases h
  .cases h
 |.view j p s lo n,d,q,h,yK=>by
  simp only[Sh.mt]at h;split at h
  .split at h <;> cases h;rfl
  .cases h
 |.rv j z s lo n,d,q,h,yK=>by
  simp only[Sh.mt]at h;split at h
  .split at h <;> cases h;rfl
  .cases h
 |.fn g l,d,q,h,yK=>by
  simp only[Sh.mt]at h;split at h
  .split at h
   .obtain⟨w,f,rfl⟩:=Ze h;simp only[Sh.fill,bN l _ w f yK,yae]
   .cases h
  .cases h
 |.agg l,d,q,h,yK=>by
  simp only[Sh.mt]at h;split at h
  .obtain⟨w,f,rfl⟩:=Ze h;simp only[Sh.fill,bN l _ w f yK,yae]
  .split at h
   .obtain⟨w,f,rfl⟩:=Ze h;simp only[Sh.fill,bN l _ w f yK,yae]
   .cases h
  .cases h
 |.arr n s l,d,q,h,yK=>by
  simp only[Sh.mt]at h;split at h
  .split at h
   .obtain⟨w,f,rfl⟩:=Ze h;simp only[Sh.fill,bN l _ w f yK,yae]
   .cases h
  .split at h
   .obtain⟨w,f,rfl⟩:=Ze h;simp only[Sh.fill,bN l _ w f yK,yae]
   .cases h
  .cases h
 |.bp l,d,q,h,yK=>by
  simp only[Sh.mt]at h;split at h
  .obtain⟨w,f,rfl⟩:=Ze h;simp only[Sh.fill,bN l _ w f yK,yae]
  .cases h
 |.iface t x,d,q,h,yK=>by
  simp only[Sh.mt]at h;split at h
  .split at h
   .obtain⟨w,f,rfl⟩:=Ze h;simp only[Sh.fill,od x _ w f yK,yae]
   .cases h
  .cases h
 |.sk t u x,d,q,h,yK=>by
  simp only[Sh.mt]at h;split at h
  .split at h
   .obtain⟨w,f,rfl⟩:=Ze h;simp only[Sh.fill,yag,YZ,ya,od x _ w f yK,yae];rfl
   .split at h
    .obtain⟨w,f,rfl⟩:=Ze h;simp only[Sh.fill,yag,YZ,ya,od x _ w f yK,yae];rfl
    .cases h
  .cases h
 |.bX,d,q,h,yK=>by
  simp only[Sh.mt]at h
  split at h <;> cases h;rfl
 |.fn0,d,q,h,yK=>by
  simp only[Sh.mt]at h
  split at h <;> cases h;rfl
 |.eG,d,q,h,yK=>by
  simp only[Sh.mt]at h
  split at h <;> cases h;rfl
 |.cC,d,q,h,yK=>by
  simp only[Sh.mt]at h
  split at h <;> cases h;rfl
 |.an,d,q,h,yK=>by
  simp only[Sh.mt]at h;split at h <;> cases h;rfl
theorem bN{L:Lk}:∀(l:yL Sh)(f:yL TD)(q:yL TD×yL TV),Sh.eU L l f=ab q->∀yK,Sh.fills l (q.2++yK)=ab (q.1,yK)
 |[],f,q,h,yK=>by
  simp only[Sh.eU]at h
  split at h <;> cases h;rfl
 |s::r,f,q,h,yK=>by
  simp only[Sh.eU]at h;split at h
  .split at h
   .rename_i a b g j;cases h;simp only[Sh.fills,yac,od s _ a g,ya,bN r _ b j,yae]
   .cases h
  .cases h
end
theorem ZyG(ys:yL Pl):Wk (.p (.agg ys)) (.agg (ys.map .p)):=by
 have f:∀ys:yL Pl,Dv.sizes (ys.map .p)=Pl.sizes ys:=by
  intro ys
  induction ys with
  |nil=>rfl
  |cons y r g=>rw[yah,Dv.sizes,Pl.sizes,g];rfl
 refine⟨?_,rfl,λσ vs r=> ?_⟩
 .first|exact f ys|exact(f ys).symm
 .simp only[yH,aB]at r ⊢;exact jC.2 r
theorem ZFS{n s:Nat}(ys:yL Pl):Wk (.p (.arr n s ys)) (.arr n s (ys.map .p)):=by
 refine⟨rfl,rfl,λσ vs r=> ?_⟩;simp only[yH,aB]at r ⊢;refine⟨by rw[yad];exact r.1,λx f=> ?_,jC.2 r.2.2⟩;obtain⟨y,g,rfl⟩:=List.mem_map.1 f;exact r.2.1 y g
mutual
theorem mJ{L M:Lk}(m:∀id t,Yh L id t ad=Yh M id t ad):∀(s:Sh)(d:TD)(q:TD×yL TV),s.mt L d=ab q->Wk (d.er L) (q.1.er M)
 |.v t,d,q,h=>by
  simp only[Sh.mt]at h;obtain⟨y,f,rfl⟩:=Ze h
  exact ZK7 f
 |.elem t,d,q,h=>by
  simp only[Sh.mt]at h;obtain⟨y,f,rfl⟩:=Ze h;cases d <;> first|cases f|skip
  exact Wk.elem (rE f)
 |.nil t,d,q,h=>by
  simp only[Sh.mt]at h;split at h
  .split at h
   .rename_i F;cases h;refine Wk.of_eq ?_;rw[TD.er,FW F];rfl
   .cases h
  .cases h
 |.sl Q t,d,q,h=>by
  simp only[Sh.mt]at h;split at h
  .split at h
   .rename_i e;subst e;obtain⟨w,f,rfl⟩:=Ze h;obtain⟨e,G⟩:=ZI f;subst e;subst G;exact Wk.refl _
   .cases h
  .cases h
 |.own j t,d,q,h=>by
  simp only[Sh.mt]at h;split at h
  .split at h
   .rename_i e;obtain⟨rfl,rfl⟩:=e;cases h;rw[TD.er,TD.er,m];exact Wk.own rfl
   .cases h
  .cases h
 |.aj j p,d,q,h=>by
  simp only[Sh.mt]at h;split at h
  .split at h
   .rename_i e;obtain⟨rfl,e⟩:=e;cases h;rw[wq e];exact Wk.refl _
   .cases h
  .cases h
 |.mp j,d,q,h=>by
  simp only[Sh.mt]at h;split at h
  .split at h
   .rename_i e;subst e;cases h;exact Wk.refl _
   .cases h
  .cases h
 |.rw j,d,q,h=>by
  simp only[Sh.mt]at h;split at h
  .split at h
   .rename_i e;subst e;cases h;refine Wk.of_eq ?_;rw[TD.er,TD.er];simp only[eQ,m]
   .cases h
  .cases h
 |.rp j s p,d,q,h=>by
  simp only[Sh.mt]at h;split at h
  .split at h
   .rename_i e;obtain⟨rfl,rfl,e⟩:=e;cases h;rw[wq e];refine Wk.of_eq ?_;rw[TD.er,TD.er];simp only[eQ,m]
   .cases h
  .cases h
 |.view j p s lo n,d,q,h=>by
  simp only[Sh.mt]at h;split at h
  .split at h
   .rename_i e;obtain⟨rfl,e,rfl,rfl,rfl⟩:=e;cases h;rw[wq e];exact Wk.refl _
   .cases h
  .cases h
 |.rv j I s lo n,d,q,h=>by
  simp only[Sh.mt]at h;split at h
  .split at h
   .rename_i e;obtain⟨rfl,rfl,rfl,rfl,rfl⟩:=e;cases h;exact Wk.refl _
   .cases h
  .cases h
 |.fn g l,d,q,h=>by
  simp only[Sh.mt]at h;split at h
  .split at h
   .rename_i e;subst e;obtain⟨w,f,rfl⟩:=Ze h;exact cR.fn (dh m l _ w f)
   .cases h
  .cases h
 |.agg l,d,q,h=>by
  simp only[Sh.mt]at h;split at h
  .obtain⟨w,f,rfl⟩:=Ze h;exact cR.agg (dh m l _ w f)
  .split at h
   .rename_i A J;obtain⟨w,f,rfl⟩:=Ze h;have e:=DB J;have k:=cR.agg (dh m l _ w f);rw[rV]at k;rw[TD.er,e];have z:=ZyG (TP.cl A);exact⟨z.size.trans k.size,z.agg.trans k.agg,λσ vs r=>k.dq σ vs (z.dq σ vs r)⟩
   .cases h
  .cases h
 |.arr n s l,d,q,h=>by
  simp only[Sh.mt]at h;split at h
  .split at h
   .rename_i e;obtain⟨rfl,rfl⟩:=e;obtain⟨w,f,rfl⟩:=Ze h;exact cR.arr (dh m l _ w f)
   .cases h
  .split at h
   .rename_i E s0 A e;obtain⟨rfl,rfl⟩:=e;obtain⟨w,f,rfl⟩:=Ze h;have k:=cR.arr (n:=E) (s:=s0) (dh m l _ w f);rw[rV]at k;have z:=ZFS (n:=E) (s:=s0) (TP.cl A);exact⟨z.size.trans k.size,z.agg.trans k.agg,λσ vs r=>k.dq σ vs (z.dq σ vs r)⟩
   .cases h
  .cases h
 |.bp l,d,q,h=>by
  simp only[Sh.mt]at h;split at h
  .obtain⟨w,f,rfl⟩:=Ze h;exact cR.bp (dh m l _ w f)
  .cases h
 |.iface t x,d,q,h=>by
  simp only[Sh.mt]at h;split at h
  .split at h
   .rename_i e;subst e;obtain⟨w,f,rfl⟩:=Ze h;exact Wk.iface (mJ m x _ w f)
   .cases h
  .cases h
 |.sk t u x,d,q,h=>by
  simp only[Sh.mt]at h;split at h
  .split at h
   .rename_i e;have e:=Nat.eq_of_beq_eq_true e;subst e;obtain⟨w,f,rfl⟩:=Ze h;exact Wk.iface (mJ m x _ w f)
   .split at h
    .rename_i e;have e:=Nat.eq_of_beq_eq_true e;subst e;obtain⟨w,f,rfl⟩:=Ze h;exact Wk.iface (mJ m x _ w f)
    .cases h
  .cases h
 |.bX,d,q,h=>by
  simp only[Sh.mt]at h
  split at h <;> cases h;exact Wk.refl _
 |.fn0,d,q,h=>by
  simp only[Sh.mt]at h
  split at h <;> cases h;exact Wk.refl _
 |.eG,d,q,h=>by
  simp only[Sh.mt]at h
  split at h <;> cases h;exact Wk.refl _
 |.cC,d,q,h=>by
  simp only[Sh.mt]at h
  split at h <;> cases h;exact Wk.refl _
 |.an,d,q,h=>by
  simp only[Sh.mt]at h;split at h
  .rename_i e;cases h;exact Wk.an e.2 e.1
  .cases h
theorem dh{L M:Lk}(g:∀id t,Yh L id t ad=Yh M id t ad):∀(l:yL Sh)(f:yL TD)(q:yL TD×yL TV),Sh.eU L l f=ab q->cR (TD.aG L f) (TD.aG M q.1)
 |[],f,q,h=>by
  simp only[Sh.eU]at h
  split at h <;> cases h;exact .nil
 |s::r,f,q,h=>by
  simp only[Sh.eU]at h;split at h
  .split at h
   .rename_i a b j m;cases h;exact .cons (mJ g s _ a j) (dh g r _ b m)
   .cases h
  .cases h
end
inductive bG where
 |var (s:Sh) (st:Bool)
 |log (t:Ty) (e:yc)
 |map (tid:yc) (k v:Ty)
 |row (t:Ty) (st:Bool) (e:yc)
 |aR (t:Ty) (np:List Nat) (st:Bool) (e:yc)
 |bL (t:Ty) (np:List Nat) (st:Bool) (e:yc) (s:Sh)
 |oe (ver s:Nat) (st:Bool) (e:yc) (n:Nat) (l:List Sh)
 |gone
def jn(k v:Ty):Ty:=.sl (.st [k,v])
def HG(L:Lk)(t:Ty)(d:TD):yO t.aU:=(d.flat L).bind λx=>TP.to jL x t
theorem ZB8{L:Lk}{t:Ty}{d:TD}{y:t.aU}(h:HG L t d=ab y):Wk (d.er L) (.p (t.enc y)):=by
 obtain⟨x,l,m⟩:=yf.1 h;have f:(d.er L).flat=ab x.pe:=by rw[rI,l];rfl
 have g:Wk (d.er L) (.p x.pe):=⟨(uT _ _ f).symm,(BG f).symm,λσ vs r=>by simp only[yH];exact qG _ _ _ f r⟩;have j:=rE m;exact⟨g.size.trans j.size,g.agg.trans j.agg,λσ vs r=>(Wk.p j).dq σ vs (g.dq σ vs r)⟩
def bG.mt(L:Lk):bG->ah->yO (ah×yL TV)
 |.var s st,.var d f=>if st=f\/st=af then(s.mt L d).map λq=>(.var q.1 st,q.2) else ad
 |.log t e,.log u j M=>if e=j then(Ty.bw u t M).map λh=>(.log t e h,[⟨.sl t,h⟩]) else ad
 |.map G k v,.map I R Q l=>if G=I then(Ty.cast (jn R Q) (jn k v) l).map λ(m:yL (k.aU×v.aU))=>(.map G k v m,[⟨jn k v,m⟩]) else ad
 |.row t st e,.aY u v f j M=>if(st=f\/st=af)/\e=j then(Ty.bw u t M).map λh=>(.aY t v st e h,[⟨.sl (.st []),v⟩,⟨.sl t,h⟩]) else ad
 |.aR t E st e,.aR u z v f j A g=>if(st=f\/st=af)/\e=j/\E=z then(Ty.bw u t A).bind λh=>(Ty.bw u t g).map λzs=>
   (.aR t E v st e h zs,[⟨.sl (.st []),v⟩,⟨.sl t,h⟩,⟨.sl t,zs⟩]) else ad
 |.aR t E st e,.bL u z v f j A F g=>if st=f/\e=j/\E=z then(Ty.bw u t A).bind λh=>(Ty.bw u t g).bind λzs=>(HG L t F).map λy=>
   (.aR t E v st e (h++[y]) zs,[⟨.sl (.st []),v⟩,⟨.sl t,h++[y]⟩,⟨.sl t,zs⟩]) else ad
 |.bL t E st e s,.bL u z v f j A F g=>if st=f/\e=j/\E=z then(Ty.bw u t A).bind λh=>(Ty.bw u t g).bind λzs=>(s.mt L F).map λq=>
   (.bL t E v st e h q.1 zs,[⟨.sl (.st []),v⟩,⟨.sl t,h⟩,⟨.sl t,zs⟩]++q.2) else ad
 |.oe J s st e n l,.row Q S f j (.arr T U W)=>if J=Q/\s=S/\st=f/\e=j/\n=T/\s=U then(Sh.eU L l W).map λq=>(.row J s st e (.arr n s q.1),q.2) else ad
 |.gone,.gone=>ab (.gone,[])
 |_,_=>ad
def bG.fill:bG->yL TV->yO (ah×yL TV)
 |.var s st,vs=>(s.fill vs).map λq=>(.var q.1 st,q.2)
 |.log t e,vs=>match vs with
  |x::r=>(Ty.cast x.1 (.sl t) x.2).map λ(y:yL t.aU)=>(.log t e y,r)
  |[]=>ad
 |.map f k v,vs=>match vs with
  |x::r=>(Ty.cast x.1 (jn k v) x.2).map λ(y:yL (k.aU×v.aU))=>(.map f k v y,r)
  |[]=>ad
 |.row t st e,vs=>match vs with
  |x::y::r=>(Ty.cast x.1 aMW x.2).bind λ(v:yL Unit)=>(Ty.cast y.1 (.sl t) y.2).map λ(l:yL t.aU)=>(.aY t v st e l,r)
  |_=>ad
 |.aR t g st e,vs=>match vs with
  |x::y::z::r=>(Ty.cast x.1 aMW x.2).bind λ(v:yL Unit)=>(Ty.cast y.1 (.sl t) y.2).bind λ(l:yL t.aU)=>(Ty.cast z.1 (.sl t) z.2).bind λ(m:yL t.aU)=>ab (.aR t g v st e l m,r)
  |_=>ad
 |.bL t g st e s,vs=>match vs with
  |x::y::z::r=>(Ty.cast x.1 aMW x.2).bind λ(v:yL Unit)=>(Ty.cast y.1 (.sl t) y.2).bind λ(l:yL t.aU)=>(Ty.cast z.1 (.sl t) z.2).bind λ(m:yL t.aU)=>
   (s.fill r).map λq=>(.bL t g v st e l q.1 m,q.2)
  |_=>ad
 |.oe h s st e n l,vs=>(Sh.fills l vs).map λq=>(.row h s st e (.arr n s q.1),q.2)
 |.gone,vs=>ab (.gone,vs)
def bG.eU(L:Lk):yL bG->yL ah->yO (yL ah×yL TV)
 |[],[]=>ab ([],[])
 |s::r,d::q=>match bG.mt L s d,bG.eU L r q with
  |some a,ab b=>ab (a.1::b.1,a.2++b.2)
  |_,_=>ad
 |_,_=>ad
def bG.fills:yL bG->yL TV->yO (yL ah×yL TV)
 |[],vs=>ab ([],vs)
 |s::r,vs=>(bG.fill s vs).bind λa=>(bG.fills r a.2).map λb=>(a.1::b.1,b.2)
theorem HJ{O:Type}{t:Ty}(v:yL Unit)(a b:yL t.aU)(k:yL Unit->yL t.aU->yL t.aU->yO O):
 ((Ty.cast aMW aMW v).bind λ(v:yL Unit)=>(Ty.cast (.sl t) (.sl t) a).bind λ(l:yL t.aU)=>(Ty.cast (.sl t) (.sl t) b).bind λ(m:yL t.aU)=>k v l m)=k v a b:=by
 have f:=YZ aMW v;have g:=YZ (.sl t) a;have h:=YZ (.sl t) b;grind
theorem ZFU{L:Lk}{s:bG}{d:ah}{q:ah×yL TV}(h:s.mt L d=ab q)(yK:yL TV):s.fill (q.2++yK)=ab (q.1,yK):=by
 unfold bG.mt at h;split at h
 .split at h
  .obtain⟨w,f,rfl⟩:=Ze h;simp only[bG.fill,od _ _ w f yK,yae]
  .cases h
 .split at h
  .obtain⟨w,f,rfl⟩:=Ze h;rename_i t e _ _ _ _;exact congrArg (Option.map λ(y:yL t.aU)=>(ah.log t e y,yK)) (YZ (.sl t) w)
  .cases h
 .split at h
  .obtain⟨w,f,rfl⟩:=Ze h;rename_i F k v _ _ _ _ _;exact congrArg (Option.map λ(y:yL (k.aU×v.aU))=>(ah.map F k v y,yK)) (YZ (jn k v) w)
  .cases h
 .split at h
  .obtain⟨w,f,rfl⟩:=Ze h;rename_i t st e _ v _ _ _ _;have Q:=YZ aMW v;have R:=YZ (.sl t) w;show((Ty.cast aMW aMW v).bind λ(v:yL Unit)=>(Ty.cast (.sl t) (.sl t) w).map λ(l:yL t.aU)=>(ah.aY t v st e l,yK))=_;rw[Q,R];rfl
  .cases h
 .rename_i t j st e u z v A I E g;split at h
  .obtain⟨a,f,h⟩:=yf.1 h;obtain⟨b,J,rfl⟩:=Ze h;exact HJ v a b (λv l m=>ab (ah.aR t j v st e l m,yK))
  .cases h
 .rename_i t j st e u z v A I E G g;split at h
  .obtain⟨a,f,h⟩:=yf.1 h;obtain⟨b,J,h⟩:=yf.1 h;obtain⟨c,M,rfl⟩:=Ze h;exact HJ v (a++[c]) b (λv l m=>ab (ah.aR t j v st e l m,yK))
  .cases h
 .rename_i t j st e s u z v A I E G g;split at h
  .obtain⟨a,f,h⟩:=yf.1 h;obtain⟨b,J,h⟩:=yf.1 h;obtain⟨c,M,rfl⟩:=Ze h;have:=HJ v a b (λv l m=>(s.fill (c.2++yK)).map λq=>(ah.bL t j v st e l q.1 m,q.2));refine this.trans ?_;rw[od _ _ c M yK];rfl
  .cases h
 .split at h
  .obtain⟨w,f,rfl⟩:=Ze h;simp only[bG.fill,bN _ _ w f yK,yae]
  .cases h
 .cases h;rfl
 .cases h
theorem sn{L:Lk}:∀{l:yL bG}{H:yL ah}{q:yL ah×yL TV},bG.eU L l H=ab q->∀yK,bG.fills l (q.2++yK)=ab (q.1,yK)
 |[],[],q,h,yK=>by cases h;rfl
 |[],_::_,q,h,yK=>by cases h
 |_::_,[],q,h,yK=>by cases h
 |s::r,d::H,q,h,yK=>by
  simp only[bG.eU]at h;split at h
  .rename_i a b f g;cases h;simp only[bG.fills,yac,ZFU f,ya,sn g,yae]
  .cases h
theorem ZK9{L:Lk}{s:bG}{d:ah}{q:ah×yL TV}(h:s.mt L d=ab q):eR (ab q.1)=eR (ab d):=by
 unfold bG.mt at h;split at h
 .split at h
  .obtain⟨w,f,rfl⟩:=Ze h;rfl
  .cases h
 .split at h
  .obtain⟨w,f,rfl⟩:=Ze h;obtain⟨e,g⟩:=ZI f;grind
  .cases h
 .split at h
  .obtain⟨w,f,rfl⟩:=Ze h;rfl
  .cases h
 .split at h
  .obtain⟨w,f,rfl⟩:=Ze h;obtain⟨e,g⟩:=ZI f;subst e;subst g;rfl
  .cases h
 .split at h
  .obtain⟨a,f,h⟩:=yf.1 h;obtain⟨b,g,rfl⟩:=Ze h;obtain⟨e,l⟩:=ZI f;subst e;obtain⟨_,j⟩:=ZI g;subst l;subst j;rfl
  .cases h
 .split at h
  .obtain⟨a,f,h⟩:=yf.1 h;obtain⟨b,g,h⟩:=yf.1 h;obtain⟨c,l,rfl⟩:=Ze h;obtain⟨e,j⟩:=ZI f;subst e;obtain⟨_,m⟩:=ZI g;subst j;subst m;simp only[eR,yl,yaf,List.length_nil];grind
  .cases h
 .split at h
  .obtain⟨a,f,h⟩:=yf.1 h;obtain⟨b,g,h⟩:=yf.1 h;obtain⟨c,l,rfl⟩:=Ze h;obtain⟨e,j⟩:=ZI f;subst e;obtain⟨_,m⟩:=ZI g;subst j;subst m;rfl
  .cases h
 .split at h
  .obtain⟨w,f,rfl⟩:=Ze h;rfl
  .cases h
 all_goals grind
theorem so{L:Lk}:∀{l:yL bG}{H:yL ah}{q:yL ah×yL TV},bG.eU L l H=ab q->q.1.length=H.length/\lk q.1=lk H
 |[],[],q,h=>by cases h;exact⟨rfl,rfl⟩
 |[],_::_,q,h=>by cases h
 |_::_,[],q,h=>by cases h
 |s::r,d::H,q,h=>by
  simp only[bG.eU]at h;split at h
  .rename_i a b f g;cases h;obtain⟨j,m⟩:=so g;refine⟨by simp[j],funext λi=> ?_⟩
   cases i with
   |zero=>exact ZK9 f
   |succ i=>exact congrFun m i
  .cases h
theorem ZB9:∀(l:yL Dv){m m':yL Dv},cR m m'->cR (l++m) (l++m')
 |[],_,_,h=>h
 |x::l,_,_,h=>.cons (Wk.refl x) (ZB9 l h)
theorem ZCa{l m:yL Dv}{d d':Dv}(h:Wk d d'):cR (l++d::m) (l++d'::m):=ZB9 l (.cons h (cR.refl m))
theorem ZFV{n s:Nat}(xs:yL Pl):Wk (.arr n s (xs.map .p)) (.p (.arr n s xs)):=⟨rfl,rfl,λσ vs r=>by
 simp only[yH,aB]at r ⊢;obtain⟨f,g,h⟩:=r;exact⟨by simpa using f,λx j=>g (.p x) (List.mem_map_of_mem j),jC.1 h⟩⟩
theorem ZLa{n s:Nat}{d:Dv}{x:Pl}(l m:yL Pl)(h:Wk d (.p x)):Wk (.arr n s (l.map .p++d::m.map .p)) (.p (.arr n s (l++x::m))):=by
 have g:Wk (.arr n s (l.map .p++d::m.map .p)) (.arr n s (l.map .p++.p x::m.map .p)):=cR.arr (ZCa h);have f:=ZFV (n:=n) (s:=s) (l++x::m);rw[yaw,yah]at f;exact⟨rfl,rfl,λσ vs r=>f.dq σ vs (g.dq σ vs r)⟩
theorem ZCb{L M:Lk}{t:Ty}{f:yL Nat}{v:yL Unit}{st:Bool}{e:yc}{a b:yL t.aU}{mid:TD}{c:t.aU}(g:Wk (mid.er L) (.p (t.enc c))):
 eP ((ah.bL t f v st e a mid b).er L) ((ah.aR t f v st e (a++[c]) b).er M):=by
 have h:=ZLa (a.map t.enc) (b.map λx=>(Wo f (.v t x)).pe) (n:=a.length+(b.length+1)) (s:=t.size) g;rw[ybd,ybd]at h;have j:(a++[c]).length+b.length=a.length+(b.length+1):=by rw[yl,yaf,List.length_nil];omega
 have l:(a++[c]).map t.enc++(b.map λx=>(Wo f (.v t x)).pe)=a.map t.enc++t.enc c::b.map λx=>(Wo f (.v t x)).pe:=by rw[yaw,yac];rfl
 rw[ah.er,ah.er,j,l];exact .row ⟨h,rfl⟩
theorem ZLb{L M:Lk}(z:∀id t,Yh L id t ad=Yh M id t ad){s:bG}{d:ah}{q:ah×yL TV}(h:s.mt L d=ab q):eP (d.er L) (q.1.er M):=by
 unfold bG.mt at h;split at h
 .split at h
  .rename_i e;obtain⟨w,f,rfl⟩:=Ze h;rcases e with e|e
   .subst e;exact .var (mJ z _ _ w f)
   .subst e;exact .lj (mJ z _ _ w f)
  .cases h
 .split at h
  .rename_i e;subst e;obtain⟨w,f,rfl⟩:=Ze h;obtain⟨e,g⟩:=ZI f;subst e;subst g;exact .refl _
  .cases h
 .split at h
  .rename_i e;subst e;obtain⟨w,f,rfl⟩:=Ze h;obtain⟨e,g⟩:=VQ f;unfold jn at e;simp only[Ty.sl.injEq,Ty.st.injEq,List.cons.injEq,and_true]at e;obtain⟨j,l⟩:=e;subst j;subst l;subst g;exact .refl _
  .cases h
 .split at h
  .rename_i e;obtain⟨e0,j⟩:=e;subst j;obtain⟨w,f,rfl⟩:=Ze h;obtain⟨e,g⟩:=ZI f;subst e;subst g;rcases e0 with e0|e0
   .subst e0;exact .refl _
   .subst e0;exact .lock
  .cases h
 .split at h
  .rename_i e;obtain⟨e0,j,l⟩:=e;subst j;subst l;obtain⟨a,f,h⟩:=yf.1 h;obtain⟨b,g,rfl⟩:=Ze h;obtain⟨e,m⟩:=ZI f;subst e;obtain⟨_,y⟩:=ZI g;subst m;subst y;rcases e0 with e0|e0
   .subst e0;exact .refl _
   .subst e0;exact .lock
  .cases h
 .rename_i _ _ _ _ _ _ _ _ _ F G E;split at h
  .rename_i e;obtain⟨e0,j,l⟩:=e;subst e0;subst j;subst l;obtain⟨a,f,h⟩:=yf.1 h;obtain⟨b,g,h⟩:=yf.1 h;obtain⟨c,m,rfl⟩:=Ze h;obtain⟨e,y⟩:=ZI f;subst e;obtain⟨_,A⟩:=ZI g;subst y;subst A;exact ZCb (ZB8 m)
  .cases h
 .split at h
  .rename_i e;obtain⟨e0,j,l⟩:=e;subst e0;subst j;subst l;obtain⟨a,f,h⟩:=yf.1 h;obtain⟨b,g,h⟩:=yf.1 h;obtain⟨c,m,rfl⟩:=Ze h;obtain⟨e,y⟩:=ZI f;subst e;obtain⟨_,A⟩:=ZI g;subst y;subst A;rw[ah.er,ah.er];exact .row ⟨cR.arr (ZCa (mJ z _ _ c m)),rfl⟩
  .cases h
 .split at h
  .rename_i e;obtain⟨rfl,rfl,rfl,rfl,rfl,rfl⟩:=e;obtain⟨w,f,rfl⟩:=Ze h;rw[ah.er,ah.er,TD.er,TD.er];exact .row ⟨cR.arr (dh z _ _ w f),rfl⟩
  .cases h
 .cases h;exact .refl _
 .cases h
theorem sq{L M:Lk}(f:∀id t,Yh L id t ad=Yh M id t ad):∀{l:yL bG}{H:yL ah}{q:yL ah×yL TV},bG.eU L l H=ab q->bZ (H.map (ah.er L)) (q.1.map (ah.er M))
 |[],[],q,h=>by cases h;exact .nil
 |[],_::_,q,h=>by cases h
 |_::_,[],q,h=>by cases h
 |s::r,d::H,q,h=>by
  simp only[bG.eU]at h;split at h
  .rename_i a b g j;cases h;exact .cons (ZLb f g) (sq f j)
  .cases h
def dD:(ts:yL Ty)->Ty.aO ts->yL TV
 |[],_=>[]
 |[t],x=>[⟨t,x⟩]
 |t::u::r,x=>⟨t,x.1⟩::dD (u::r) x.2
def jQ:(ts:yL Ty)->yL TV->yO (Ty.aO ts)
 |[],[]=>ab ()
 |[t],[x]=>Ty.cast x.1 t x.2
 |t::u::r,x::l=>kH (Ty.cast x.1 t x.2) (jQ (u::r) l)
 |_,_=>ad
theorem mK:∀(ts:yL Ty)(l:yL TV)(x:Ty.aO ts),jQ ts l=ab x->dD ts x=l
 |[],[],x,h=>rfl
 |[],_::_,x,h=>by cases h
 |[t],[],x,h=>by cases h
 |[t],[y],x,h=>by
  obtain⟨e,f⟩:=VQ (show Ty.cast y.1 t y.2=ab x from h)
  obtain⟨u,y⟩:=y;dsimp only at e f;subst e;subst f
  rfl
 |[t],_::_::_,x,h=>by cases h
 |t::u::r,[],x,h=>by cases h
 |t::u::r,y::l,x,h=>by
  obtain⟨j,f⟩:=po (α:=t.aU) (β:=Ty.aO (u::r)) (show kH (Ty.cast y.1 t y.2) (jQ (u::r) l)=ab x from h)
  obtain⟨e,g⟩:=VQ j;obtain⟨m,y⟩:=y;dsimp only at e g;subst e;have:=mK (u::r) l x.2 f;show(⟨m,x.1⟩:TV)::dD (u::r) x.2=_;rw[this,g]
abbrev cH:=yL (Nat×Sh)
def ss(sl:cH)(n:Nat):yL Sh:=(yo n).map λi=>(sl.lookup i).getD .an
def V6(n:Nat)(sl:cH)(es:yL bG)(vs:yL TV):yO (yL TD×yL ah):=
 (Sh.fills (ss sl n) vs).bind λq=>(bG.fills es q.2).bind λw=>if w.2.isEmpty then ab (q.1,w.1) else ad
theorem HK:∀{l:yL Sh}{vs:yL TV}{q:yL TD×yL TV},Sh.fills l vs=ab q->q.1.length=l.length
 |[],vs,q,h=>by simp only[Sh.fills]at h;cases h;rfl
 |s::r,vs,q,h=>by
  simp only[Sh.fills]at h;obtain⟨a,g,h⟩:=yf.1 h;obtain⟨b,f,rfl⟩:=Ze h;simp[HK f]
theorem wr{n:Nat}{sl:cH}{es:yL bG}{vs:yL TV}{q:yL TD×yL ah}(h:V6 n sl es vs=ab q):q.1.length=n:=by
 unfold V6 at h;obtain⟨a,f,h⟩:=yf.1 h;obtain⟨b,g,h⟩:=yf.1 h;split at h
 .cases h;rw[HK f];simp[ss]
 .cases h
structure cw where
 ex:Ex
 sl:cH
 es:List bG
 ty:List Ty
def cw.sum:yL cw->Type
 |[]=>Empty
 |[e]=>Ty.aO e.ty
 |e::f::r=>Ty.aO e.ty⊕cw.sum (f::r)
abbrev Kc(O:Type):=Ex->yL TD->yL ah->yO O
def xT{O:Type}(n:Nat):(l:yL cw)->cw.sum l->Kc O->yO O
 |[],_,_=>ad
 |[e],o,K=>(V6 n e.sl e.es (dD e.ty o)).bind λs=>K e.ex s.1 s.2
 |e::f::r,o,K=>match (o:Ty.aO e.ty⊕cw.sum (f::r)) with
  |.inl o=>(V6 n e.sl e.es (dD e.ty o)).bind λs=>K e.ex s.1 s.2
  |.inr o=>xT n (f::r) o K
def og:(l:yL cw)->cw.sum l->cw->yL TV->Prop
 |[],_,_,_=>False
 |[e],o,x,vs=>x=e/\vs=dD e.ty o
 |e::f::r,o,x,vs=>match (o:Ty.aO e.ty⊕cw.sum (f::r)) with
  |.inl o=>x=e/\vs=dD e.ty o
  |.inr o=>og (f::r) o x vs
theorem wt{O:Type}{n:Nat}{K:Kc O}{out:O}:∀{l:yL cw}{o:cw.sum l},xT n l o K=ab out->∃e vs s,og l o e vs/\V6 n e.sl e.es vs=ab s/\K e.ex s.1 s.2=ab out
 |[],_,h=>by cases h
 |[e],o,h=>by
  obtain⟨s,g,j⟩:=yf.1 (show(V6 n e.sl e.es (dD e.ty o)).bind (λs=>K e.ex s.1 s.2)=ab out from h)
  exact⟨e,_,s,⟨rfl,rfl⟩,g,j⟩
 |e::f::r,.inl o,h=>by
  obtain⟨s,g,j⟩:=yf.1 (show(V6 n e.sl e.es (dD e.ty o)).bind (λs=>K e.ex s.1 s.2)=ab out from h)
  exact⟨e,_,s,⟨rfl,rfl⟩,g,j⟩
 |e::f::r,.inr o,h=>by
  obtain⟨m,vs,s,g,j,y⟩:=wt (l:=f::r) (o:=o) h;exact⟨m,vs,s,g,j,y⟩
theorem ZFW{A B:yL aq}(hl:A.length=B.length)(h:∀(i:Nat)(a b:aq),A[i]? =ab a->B[i]? =ab b->eP a b):bZ A B:=by
 induction A generalizing B with
 |nil=>cases B with
  |nil=>exact .nil
  |cons _ _=>simp at hl
 |cons a A f=>cases B with
  |nil=>simp at hl
  |cons b B=>exact .cons (h 0 a b rfl rfl) (f (by simpa using hl) λi a b g j=>h (i+1) a b g j)
def Ty.su(f:(T:Ty)->TD->yO T.aU):(g:yL Ty)->yL TD->yO (Ty.aO g)
 |[],[]=>ab ()
 |[t],[d]=>f t d
 |t::u::r,d::h=>kH (f t d) (Ty.su f (u::r) h)
 |_,_=>ad
def mkL{T:Ty}(f:TD->yO T.aU):yL TD->yO (yL T.aU)
 |[]=>ab []
 |d::r=>(kH (f d) (mkL f r)).map λq=>q.1::q.2
def ZMu(H:yL ah)(id:Nat)(u:Ty):yO (yL u.aU):=
 match H[id]? with
 |some (.aY f v af e l)=>Ty.bw f u l
 |_=>ad
def HL(H:yL ah):Nat->(T:Ty)->TD->yO T.aU
 |0,_,_=>ad
 |n+1,T,d=>match d with
  |.p x=>TP.to jL x T
  |.own id m t c=>rz ae t (Yh (lk H) id t c) T
  |.agg f=>rC (λg=>Ty.su (HL H n) g f) T
  |.rw id=>match T with
   |.sl u=>ZMu H id u
   |_=>ad
  |.rv id v s lo k=>match T with
   |.sl u=>match H[id]? with
    |some (.row w h af e d)=>if(w==v&&h==s&&s==u.size)=ae then match d with
      |.p x=>x.dS.bind λr=>(Ty.bw r.t u r.l).bind λl=>if ag (lo+k<=r.n)=ae then ab ((l.drop lo).take k) else ad
      |.arr N j f=>if(j==s&&ag (lo+k<=N))=ae then(mkL (HL H n u) f).map λ(l:yL u.aU)=>(l.drop lo).take k else ad
      |_=>ad
     else ad
    |_=>ad
   |_=>ad
  |.view id [] s lo k=>match T with
   |.sl u=>match H[id]? with
    |some (.var (.p x) af)=>if(s==u.size)=ae then x.dS.bind λr=>(Ty.bw r.t u r.l).bind λl=>if ag (lo+k<=r.n)=ae then ab ((l.drop lo).take k) else ad else ad
    |_=>ad
   |_=>ad
  |_=>ad
end Go.Ev
end
