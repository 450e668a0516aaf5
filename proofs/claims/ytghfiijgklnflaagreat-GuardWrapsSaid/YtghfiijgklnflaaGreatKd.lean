/- Parts of the proof, in one file. -/
import Derived.Test.YtghfiijgklnflaaGreatKc
open Option renaming some → ab, none → ad
open Bool renaming true → ae, false → af
open Decidable renaming decide → ag
open Bool renaming and_eq_true → yi, eq_iff_iff → ycq
open Go renaming TypeId → yb, Program → yg, Operand → yo
open List renaming nil_append → yw, length_map → yx, cons_append → yaa, replicate → yab, append_assoc → yac, map_cons → yaf, getElem?_map → yah, getElem?_append_left → yaj, map_append → yaq, getElem?_eq_none → yat, map_map → ybc, mem_map → ybj, map_set → ybl, all_eq_true → ybn, map_take → ycd, map_congr_left → ycj, length_replicate → ycp
open Nat renaming le_refl → ym, mod_eq_of_lt → yas, lt_of_le_of_lt → ydd
open Option renaming bind_eq_some_iff → yf, map_some → yz
open Option.some renaming injEq → yj, inj → ybp
open Prod.mk renaming injEq → yl
open UInt32 renaming ofNat → yby, toNat_ofNat' → yct
open UInt64 renaming ofNat → yai, toNat_ofNat' → yaz, toNat_lt → ybx, toNat_inj → ycz
open UInt8 renaming ofNat → yaw
set_option linter.unusedVariables false
set_option linter.unusedSimpArgs false
section
namespace Go.Ev
inductive Ty where
 |int (k:IntKind)
 |u8|u32|u64
 |bool
 |str
 |sl (t:Ty)
 |arr (n:Nat) (t:Ty)
 |st (fs:List Ty)
 deriving Inhabited
mutual
def Ty.aE:Ty->Type
 |.int _=>Int
 |.u8=>yB
 |.u32=>yV
 |.u64=>yU
 |.bool=>Bool
 |.str=>ByteArray
 |.sl t=>yL (Ty.aE t)
 |.arr _ t=>yL (Ty.aE t)
 |.st c=>Ty.aK c
def Ty.aK:yL Ty->Type
 |[]=>Unit
 |[t]=>Ty.aE t
 |t::u::r=>Ty.aE t×Ty.aK (u::r)
end
mutual
def Ty.size:Ty->Nat
 |.arr n t=>n*Ty.size t
 |.st c=>Ty.sizes c
 |_=>1
def Ty.sizes:yL Ty->Nat
 |[]=>0
 |t::r=>Ty.size t+Ty.sizes r
end
mutual
def Ty.dec:(a b:Ty)->Decidable (a=b)
 |.int k,.int l=>if h:k=l then isTrue (by rw[h]) else isFalse (by intro e;cases e;exact h rfl)
 |.u8,.u8=>isTrue rfl
 |.u32,.u32=>isTrue rfl
 |.u64,.u64=>isTrue rfl
 |.bool,.bool=>isTrue rfl
 |.str,.str=>isTrue rfl
 |.sl t,.sl u=>match Ty.dec t u with
  |isTrue h=>isTrue (by rw[h])
  |isFalse h=>isFalse (by intro e;cases e;exact h rfl)
 |.arr n t,.arr m u=>if k:n=m then match Ty.dec t u with
  |isTrue h=>isTrue (by rw[h,k])
  |isFalse h=>isFalse (by intro e;cases e;exact h rfl) else isFalse (by intro e;cases e;exact k rfl)
 |.st c,.st f=>match Ty.qi c f with
  |isTrue h=>isTrue (by rw[h])
  |isFalse h=>isFalse (by intro e;cases e;exact h rfl)
 |.int _,.u8=>isFalse nofun
 |.int _,.u32=>isFalse nofun
 |.int _,.u64=>isFalse nofun
 |.int _,.bool=>isFalse nofun
 |.int _,.str=>isFalse nofun
 |.int _,.sl _=>isFalse nofun
 |.int _,.arr _ _=>isFalse nofun
 |.int _,.st _=>isFalse nofun
 |.u8,.int _=>isFalse nofun
 |.u8,.u32=>isFalse nofun
 |.u8,.u64=>isFalse nofun
 |.u8,.bool=>isFalse nofun
 |.u8,.str=>isFalse nofun
 |.u8,.sl _=>isFalse nofun
 |.u8,.arr _ _=>isFalse nofun
 |.u8,.st _=>isFalse nofun
 |.u32,.int _=>isFalse nofun
 |.u32,.u8=>isFalse nofun
 |.u32,.u64=>isFalse nofun
 |.u32,.bool=>isFalse nofun
 |.u32,.str=>isFalse nofun
 |.u32,.sl _=>isFalse nofun
 |.u32,.arr _ _=>isFalse nofun
 |.u32,.st _=>isFalse nofun
 |.u64,.int _=>isFalse nofun
 |.u64,.u8=>isFalse nofun
 |.u64,.u32=>isFalse nofun
 |.u64,.bool=>isFalse nofun
 |.u64,.str=>isFalse nofun
 |.u64,.sl _=>isFalse nofun
 |.u64,.arr _ _=>isFalse nofun
 |.u64,.st _=>isFalse nofun
 |.bool,.int _=>isFalse nofun
 |.bool,.u8=>isFalse nofun
 |.bool,.u32=>isFalse nofun
 |.bool,.u64=>isFalse nofun
 |.bool,.str=>isFalse nofun
 |.bool,.sl _=>isFalse nofun
 |.bool,.arr _ _=>isFalse nofun
 |.bool,.st _=>isFalse nofun
 |.str,.int _=>isFalse nofun
 |.str,.u8=>isFalse nofun
 |.str,.u32=>isFalse nofun
 |.str,.u64=>isFalse nofun
 |.str,.bool=>isFalse nofun
 |.str,.sl _=>isFalse nofun
 |.str,.arr _ _=>isFalse nofun
 |.str,.st _=>isFalse nofun
 |.sl _,.int _=>isFalse nofun
 |.sl _,.u8=>isFalse nofun
 |.sl _,.u32=>isFalse nofun
 |.sl _,.u64=>isFalse nofun
 |.sl _,.bool=>isFalse nofun
 |.sl _,.str=>isFalse nofun
 |.sl _,.arr _ _=>isFalse nofun
 |.sl _,.st _=>isFalse nofun
 |.arr _ _,.int _=>isFalse nofun
 |.arr _ _,.u8=>isFalse nofun
 |.arr _ _,.u32=>isFalse nofun
 |.arr _ _,.u64=>isFalse nofun
 |.arr _ _,.bool=>isFalse nofun
 |.arr _ _,.str=>isFalse nofun
 |.arr _ _,.sl _=>isFalse nofun
 |.arr _ _,.st _=>isFalse nofun
 |.st _,.int _=>isFalse nofun
 |.st _,.u8=>isFalse nofun
 |.st _,.u32=>isFalse nofun
 |.st _,.u64=>isFalse nofun
 |.st _,.bool=>isFalse nofun
 |.st _,.str=>isFalse nofun
 |.st _,.sl _=>isFalse nofun
 |.st _,.arr _ _=>isFalse nofun
def Ty.qi:(a b:yL Ty)->Decidable (a=b)
 |[],[]=>isTrue rfl
 |t::r,u::q=>match Ty.dec t u,Ty.qi r q with
  |isTrue h,isTrue k=>isTrue (by rw[h,k])
  |isFalse h,_=>isFalse (by intro e;cases e;exact h rfl)
  |_,isFalse h=>isFalse (by intro e;cases e;exact h rfl)
 |[],_::_=>isFalse nofun
 |_::_,[]=>isFalse nofun
end
instance:DecidableEq Ty:=Ty.dec
def Ty.cast(t u:Ty)(x:t.aE):yO u.aE:=
 match Ty.dec t u with
 |isTrue h=>ab (h ▸ x)
 |isFalse _=>ad
def Ty.be(t u:Ty)(x:yL t.aE):yO (yL u.aE):=
 match Ty.dec t u with
 |isTrue h=>ab (h ▸ x)
 |isFalse _=>ad
theorem Qz{t u:Ty}{x:t.aE}{y:u.aE}(h:Ty.cast t u x=ab y):∃e:t=u,y=e ▸ x:=by
 unfold Ty.cast at h;split at h
 .rename_i e _;exact⟨e,(ybp h).symm⟩
 .cases h
theorem ZB{t u:Ty}{x:yL t.aE}{y:yL u.aE}(h:Ty.be t u x=ab y):∃e:t=u,y=e ▸ x:=by
 unfold Ty.be at h;split at h
 .rename_i e _;exact⟨e,(ybp h).symm⟩
 .cases h
mutual
def Ty.enc:(t:Ty)->t.aE->Pl
 |.int k,n=>.int k n
 |.u8,b=>.int .u8 (b.toNat:Int)
 |.u32,b=>.int .u32 (b.toNat:Int)
 |.u64,b=>.int .u64 (b.toNat:Int)
 |.bool,b=>.bool b
 |.str,s=>.str s
 |.sl t,l=>.sl ad (Ty.size t) (List.map (Ty.enc t) l)
 |.arr n t,l=>.arr n (Ty.size t) (List.map (Ty.enc t) l)
 |.st c,x=>.agg (Ty.encs c x)
def Ty.encs:(c:yL Ty)->Ty.aK c->yL Pl
 |[],_=>[]
 |[t],x=>[Ty.enc t x]
 |t::u::r,x=>Ty.enc t x.1::Ty.encs (u::r) x.2
end
mutual
theorem oi:∀(t:Ty)(x:t.aE),(t.enc x).size=t.size
 |.int _,_=>rfl
 |.u8,_=>rfl
 |.u32,_=>rfl
 |.u64,_=>rfl
 |.bool,_=>rfl
 |.str,_=>rfl
 |.sl _,_=>rfl
 |.arr _ _,_=>rfl
 |.st c,x=>by rw[Ty.enc,Pl.size,Ty.size];exact eJ c x
theorem eJ:∀(c:yL Ty)(x:Ty.aK c),Pl.sizes (Ty.encs c x)=Ty.sizes c
 |[],_=>rfl
 |[t],x=>by simp only[Ty.encs,Pl.sizes,Ty.sizes];rw[oi t x]
 |t::u::r,x=>by rw[Ty.encs,Pl.sizes,Ty.sizes,oi t x.1,eJ (u::r) x.2]
end
mutual
theorem tV:∀(t:Ty)(x:t.aE),(t.enc x).soft=t.enc x
 |.int _,_=>rfl
 |.u8,_=>rfl
 |.u32,_=>rfl
 |.u64,_=>rfl
 |.bool,_=>rfl
 |.str,_=>rfl
 |.sl _,_=>rfl
 |.arr n t,x=>by
  have c:∀l:yL t.aE,Pl.soft (.arr n t.size (l.map t.enc))=.arr n t.size (l.map t.enc):=by
   intro l;rw[Pl.soft,Pl.ck,ybc];congr 1;exact ycj λy _=>tV t y
  exact c x
 |.st e,x=>by rw[Ty.enc,Pl.soft,eK e x]
theorem eK:∀(c:yL Ty)(x:Ty.aK c),Pl.cy (Ty.encs c x)=Ty.encs c x
 |[],_=>rfl
 |[t],x=>by simp only[Ty.encs,Pl.cy];rw[tV t x]
 |t::u::r,x=>by rw[Ty.encs,Pl.cy,tV t x.1,eK (u::r) x.2]
end
theorem Zd{α β:Type}{f:α->β}{o:yO α}{y:β}(h:o.map f=ab y):∃x,o=ab x/\f x=y:=Option.map_eq_some_iff.1 h
def Ty.mJ:(c:yL Ty)->Ty.aK c->Nat->yO (Σ t:Ty,t.aE)
 |[],_,_=>ad
 |[t],x,0=>ab ⟨t,x⟩
 |[_],_,_+1=>ad
 |t::_::_,x,0=>ab ⟨t,x.1⟩
 |_::u::r,x,i+1=>Ty.mJ (u::r) x.2 i
def Ty.upd:(c:yL Ty)->Ty.aK c->Nat->(t:Ty)->t.aE->yO (Ty.aK c)
 |[],_,_,_,_=>ad
 |[t],_,0,u,y=>Ty.cast u t y
 |[_],_,_+1,_,_=>ad
 |t::v::r,x,0,u,y=>(Ty.cast u t y).map λz=>(z,x.2)
 |_::v::r,x,i+1,u,y=>(Ty.upd (v::r) x.2 i u y).map λz=>(x.1,z)
theorem SK:∀(c:yL Ty)(x:Ty.aK c)(i:Nat)(q:Σ t:Ty,t.aE),Ty.mJ c x i=ab q->(Ty.encs c x)[i]? =ab (q.1.enc q.2)
 |[],_,_,_,h=>by cases h
 |[t],x,0,q,h=>by cases h;rfl
 |[_],_,_+1,_,h=>by cases h
 |t::_::_,x,0,q,h=>by cases h;rfl
 |t::u::r,x,i+1,q,h=>by
  rw[Ty.encs,List.getElem?_cons_succ];exact SK (u::r) x.2 i q h
theorem SL:∀(c:yL Ty)(x:Ty.aK c)(i:Nat)(t:Ty)(y:t.aE)(z:Ty.aK c),Ty.upd c x i t y=ab z->Ty.encs c z=(Ty.encs c x).set i (t.enc y)
 |[],_,_,_,_,_,h=>by cases h
 |[t],x,0,u,y,z,h=>by
  obtain⟨e,rfl⟩:=Qz h;subst e
  rfl
 |[_],_,_+1,_,_,_,h=>by cases h
 |t::v::r,x,0,u,y,z,h=>by
  obtain⟨w,f,g⟩:=Zd (α:=t.aE) (β:=t.aE×Ty.aK (v::r)) h;subst g;obtain⟨e,rfl⟩:=Qz f;subst e
  rfl
 |t::v::r,x,i+1,u,y,z,h=>by
  obtain⟨w,f,g⟩:=Zd (α:=Ty.aK (v::r)) (β:=t.aE×Ty.aK (v::r)) h;subst g;show t.enc x.1::Ty.encs (v::r) w=(t.enc x.1::Ty.encs (v::r) x.2).set (i+1) (u.enc y);rw[List.set_cons_succ,SL (v::r) x.2 i u y w f]
inductive TP where
 |v (t:Ty) (x:t.aE)
 |sl (nn:Option Bool) (t:Ty) (xs:List t.aE)
 |agg (xs:List TP)
 |arr (n s:Nat) (xs:List TP)
 |ko (nn:Option Bool) (s:Nat) (xs:List TP)
 |bH|fn0|dy|bR
 |fQ (f:FuncId)
 |iface (t:yb) (x:TP)
instance:Inhabited TP:=⟨.bH⟩
mutual
def TP.pe:TP->Pl
 |.v t x=>t.enc x
 |.sl nn t c=>.sl nn t.size (c.map t.enc)
 |.agg c=>.agg (TP.bQ c)
 |.arr n s c=>.arr n s (TP.bQ c)
 |.ko nn s c=>.sl nn s (TP.bQ c)
 |.bH=>.bH
 |.fn0=>.fn0
 |.dy=>.dy
 |.bR=>.bR
 |.fQ f=>.fQ f
 |.iface t x=>.iface t (TP.pe x)
def TP.bQ:yL TP->yL Pl
 |[]=>[]
 |x::r=>x.pe::TP.bQ r
end
theorem VI:∀(xs:yL TP),TP.bQ xs=xs.map TP.pe
 |[]=>rfl
 |x::r=>by rw[TP.bQ,VI r];rfl
def Ty.dZ:(c:yL Ty)->Ty.aK c->yL TP
 |[],_=>[]
 |[t],x=>[.v t x]
 |t::u::r,x=>.v t x.1::Ty.dZ (u::r) x.2
theorem tW:∀(c:yL Ty)(x:Ty.aK c),TP.bQ (Ty.dZ c x)=Ty.encs c x
 |[],_=>rfl
 |[t],x=>rfl
 |t::u::r,x=>by
  show t.enc x.1::TP.bQ (Ty.dZ (u::r) x.2)=t.enc x.1::Ty.encs (u::r) x.2;rw[tW (u::r) x.2]
def TP.parts:TP->yO (yL TP)
 |.v (.st c) x=>ab (Ty.dZ c x)
 |.agg l=>ab l
 |_=>ad
theorem zR{x:TP}{l:yL TP}(h:x.parts=ab l):x.pe=.agg (TP.bQ l):=by
 cases x with
 |v t a=>
  cases t with
  |st c=>
   cases (show ab (Ty.dZ c a)=ab l from h)
   exact congrArg Pl.agg (tW c a).symm
  |_=>cases h
 |agg e=>cases h;rfl
 |_=>cases h
def Wi:yL Nat->TP->TP
 |[],x=>match x with
  |.v (.sl t) _=>.sl (ab af) t []
  |x=>x
 |i::r,x=>match x.parts with
  |some l=>match l[i]? with
   |some z=>.agg (l.set i (Wi r z))
   |none=>x
  |none=>x
inductive bN where
 |fC (i o:Nat)
 |ix (i s:Nat)
def bN.i:bN->Nat
 |.fC i _=>i
 |.ix i _=>i
def bN.o:bN->Nat
 |.fC _ o=>o
 |.ix i s=>i*s
def WW:yL bN->Nat
 |l=>l.foldl (λn q=>n+q.o) 0
inductive TD where
 |p (x:TP)
 |elem (x:TP)
 |am (id:Nat) (yM:List bN)
 |own (id:Nat) (nn:Option Bool) (t:Ty) (c:Option (List t.aE))
 |view (id:Nat) (yM:List bN) (s lo n:Nat)
 |agg (xs:List TD)
 |arr (n s:Nat) (xs:List TD)
 |fn (f:FuncId) (cap:List TD)
 |iface (t:yb) (x:TD)
 |bf (xs:List TD)
 |mp (id:Nat)
 |cz (id:Nat)
 |cC (id v:Nat) (ik:IntKind) (z:Int)
 |pm (id v:Nat)
 |rv (id v s lo n:Nat)
 |aW (id v:Nat) (yM:List bN)
 |rw(id:Nat)
 |rp (id:Nat) (yM:List bN)
 |an
instance:Inhabited TD:=⟨.an⟩
abbrev Lk:=Nat->yO (Σ t:Ty,yL t.aE)
def Yb(L:Lk)(id:Nat)(t:Ty):yO (yL t.aE)->yL t.aE
 |some c=>c
 |none=>match L id with
  |some q=>(Ty.be q.1 t q.2).getD []
  |none=>[]
abbrev _root_.aGS:Go.Ev.Ty:=.sl (.st [])
def dO(L:Lk)(id k:Nat):Nat:=(((Yb L id aGS ad)[k]?).getD []).length
mutual
def TD.er(L:Lk):TD->Dv
 |.p x=>.p x.pe
 |.elem x=>.elem x.pe
 |.am id e=>.am id (WW e) (e.map bN.i)
 |.own id nn t c=>.own id nn t.size ((Yb L id t c).map t.enc)
 |.view id e s lo n=>.view id (WW e) (e.map bN.i) s lo n
 |.agg g=>.agg (TD.au L g)
 |.arr n s g=>.arr n s (TD.au L g)
 |.fn f h=>.fn f (TD.au L h)
 |.iface t x=>.iface t (TD.er L x)
 |.bf g=>.bf (TD.au L g)
 |.mp id=>.mp id
 |.cz id=>.cz id
 |.cC id v j z=>.cC id v (.int j z)
 |.pm id v=>.pm id v
 |.rv id v s lo n=>.rv id v s lo n
 |.aW id v e=>.aW id v (WW e) (e.map bN.i)
 |.rw id=>.rv id (dO L id 0) (dO L id 1) 0 (dO L id 2)
 |.rp id e=>.aW id (dO L id 0) (WW e) (e.map bN.i)
 |.an=>.an
def TD.au(L:Lk):yL TD->yL Dv
 |[]=>[]
 |x::r=>x.er L::TD.au L r
end
theorem ZC{L:Lk}:∀(xs:yL TD),TD.au L xs=xs.map (TD.er L)
 |[]=>rfl
 |x::r=>by rw[TD.au,ZC r];rfl
inductive ah where
 |var (d:TD) (st:Bool)
 |log (t:Ty) (e:yb) (xs:List t.aE)
 |map (tid:yb) (k v:Ty) (l:List (k.aE×v.aE))
 |cN (v:Nat) (t:yb) (k k2 w:Ty) (l:List (k.aE×List (k2.aE×w.aE)))
 |dW (v:Nat) (k w:Ty) (l:List (k.aE×w.aE))
 |row (v s:Nat) (st:Bool) (e:yb) (d:TD)
 |aF (t:Ty) (v:List Unit) (st:Bool) (e:yb) (xs:List t.aE)
 |aJ (t:Ty) (np:List Nat) (v:List Unit) (st:Bool) (e:yb) (pre post:List t.aE)
 |bz (t:Ty) (np:List Nat) (v:List Unit) (st:Bool) (e:yb) (pre:List t.aE) (mid:TD) (post:List t.aE)
 |gone
instance:Inhabited ah:=⟨.gone⟩
def ah.er(L:Lk):ah->ar
 |.var d st=>.var (d.er L) st
 |.log t e g=>.log t.size e (g.map t.enc)
 |.map h k v l=>.map h (cv k.enc v.enc l)
 |.cN v y k z w l=>.maps v y y (l.map λq=>(k.enc q.1,cv z.enc w.enc q.2))
 |.dW v k w l=>.bA v (cv k.enc w.enc l)
 |.row v s st e d=>.row v s st e (d.er L)
 |.aF t v st e g=>.row v.length t.size st e (.p (.arr g.length t.size (g.map t.enc)))
 |.aJ t j v st e f c=>.row v.length t.size st e (.p (.arr (f.length+c.length) t.size (f.map t.enc++c.map λx=>(Wi j (.v t x)).pe)))
 |.bz t j v st e f m c=>.row v.length t.size st e (.arr (f.length+(c.length+1)) t.size ((f.map λx=>.p (t.enc x))++m.er L::c.map λx=>.p (Wi j (.v t x)).pe))
 |.gone=>.gone
abbrev _root_.aGV:=yL Unit
def dc:yO ah->yO (Σ t:Ty,yL t.aE)
 |some (.log t _ f)=>ab ⟨t,f⟩
 |some (.aF t v _ _ f)=>ab ⟨.sl (.st []),([v,yab t.size (),yab f.length ()]:yL aGV)⟩
 |some (.aJ t _ v _ _ e c)=>ab ⟨.sl (.st []),([v,yab t.size (),yab (e.length+c.length) ()]:yL aGV)⟩
 |some (.bz t _ v _ _ e _ c)=>ab ⟨.sl (.st []),([v,yab t.size (),yab (e.length+(c.length+1)) ()]:yL aGV)⟩
 |_=>ad
def lk(H:yL ah):Lk:=λid=>dc (H[id]?)
def aA(H:yL ah):yL ar:=H.map (ah.er (lk H))
theorem ZD{H:yL ah}{i:Nat}{e:ah}(h:H[i]? =ab e):(aA H)[i]? =ab (e.er (lk H)):=by rw[aA,yah,h];rfl
theorem QH{L:Lk}{ts:yL TD}{i:Nat}{d:TD}(h:ts[i]? =ab d):(TD.au L ts)[i]? =ab (d.er L):=by rw[ZC,yah,h];rfl
theorem ZE(H:yL ah):(aA H).length=H.length:=yx ..
theorem jz{L:Lk}(H:yL TD):(TD.au L H).length=H.length:=by rw[ZC];exact yx ..
def jA{α β:Type}:yO α->yO β->yO (α×β)
 |some a,ab b=>ab (a,b)
 |_,_=>ad
theorem QY{α β:Type}{a:yO α}{b:yO β}{q:α×β}(h:jA a b=ab q):a=ab q.1/\b=ab q.2:=by
 cases a with
 |none=>cases h
 |some x=>cases b with
  |none=>cases h
  |some y=>cases h;exact⟨rfl,rfl⟩
def qj(nn:Bool)(t:Ty)(xs:yL t.aE):(u:Ty)->yO u.aE
 |.sl u=>if nn then Ty.be t u xs else ad
 |_=>ad
def qk(f:(c:yL Ty)->yO (Ty.aK c)):(u:Ty)->yO u.aE
 |.st c=>f c
 |_=>ad
def tX(n s:Nat)(f:(t:Ty)->yO (yL t.aE)):(u:Ty)->yO u.aE
 |.arr m t=>if n=m/\s=t.size then f t else ad
 |_=>ad
def tY:(c:yL Ty)->yO (Ty.aK c)
 |[]=>ab ()
 |_=>ad
def ql(f:(t:Ty)->yO t.aE)(c:Bool)(g:(e:yL Ty)->yO (Ty.aK e)):(e:yL Ty)->yO (Ty.aK e)
 |[]=>ad
 |[t]=>if c then f t else ad
 |t::u::q=>jA (f t) (g (u::q))
mutual
def TP.to(ok:yO Bool->Bool):TP->(t:Ty)->yO t.aE
 |.v t x=>λu=>Ty.cast t u x
 |.sl nn t c=>qj (ok nn) t c
 |.agg c=>qk (TP.iu ok c)
 |.arr n s c=>tX n s (TP.kp ok c)
 |.ko _ _ _=>λ_=>ad
 |.bH=>λ_=>ad
 |.fn0=>λ_=>ad
 |.dy=>λ_=>ad
 |.bR=>λ_=>ad
 |.fQ _=>λ_=>ad
 |.iface _ _=>λ_=>ad
def TP.iu(ok:yO Bool->Bool):yL TP->(c:yL Ty)->yO (Ty.aK c)
 |[]=>tY
 |x::r=>ql (TP.to ok x) r.isEmpty (TP.iu ok r)
def TP.kp(ok:yO Bool->Bool):yL TP->(t:Ty)->yO (yL t.aE)
 |[]=>λ_=>ab []
 |x::r=>λt=>(jA (TP.to ok x t) (TP.kp ok r t)).map λq=>q.1::q.2
end
def gZ:yO Bool->Bool:=λ_=>ae
def eY:yO Bool->Bool:=Option.isNone
theorem tZ(t:Ty)(l:yL t.aE):(Ty.sl t).enc l=.sl ad t.size (l.map t.enc):=rfl
theorem zS(n:Nat)(t:Ty)(l:yL t.aE):(Ty.arr n t).enc l=.arr n t.size (l.map t.enc):=rfl
theorem zX{b:Bool}{nn:yO Bool}{t u:Ty}{xs:yL t.aE}{y:u.aE}(h:qj b t xs u=ab y):∃l:yL t.aE,b=ae/\u.enc y=.sl ad t.size (l.map t.enc)/\l=xs:=by
 cases u with
 |sl u=>
  have c:(if b then Ty.be t u xs else ad)=ab y:=h
  split at c
  .rename_i f;obtain⟨e,g⟩:=ZB c;subst e;subst g;exact⟨y,f,rfl,rfl⟩
  .cases c
 |_=>cases h
theorem AA{f:(c:yL Ty)->yO (Ty.aK c)}{u:Ty}{y:u.aE}(h:qk f u=ab y):∃(c:yL Ty)(z:Ty.aK c),f c=ab z/\u.enc y=.agg (Ty.encs c z):=by
 cases u with
 |st c=>exact⟨c,y,h,rfl⟩
 |_=>cases h
theorem SM{n s:Nat}{f:(t:Ty)->yO (yL t.aE)}{u:Ty}{y:u.aE}(h:tX n s f u=ab y):∃(t:Ty)(l:yL t.aE),f t=ab l/\u.enc y=.arr n s (l.map t.enc):=by
 cases u with
 |arr m t=>
  have c:(if n=m/\s=t.size then f t else ad)=ab y:=h
  split at c
  .rename_i e;obtain⟨rfl,rfl⟩:=e;exact⟨t,y,c,rfl⟩
  .cases c
 |_=>cases h
theorem SN{c:yL Ty}{y:Ty.aK c}(h:tY c=ab y):Ty.encs c y=[]:=by
 cases c with
 |nil=>rfl
 |cons _ _=>cases h
theorem SP{f:(t:Ty)->yO t.aE}{b:Bool}{g:(c:yL Ty)->yO (Ty.aK c)}{c:yL Ty}{y:Ty.aK c}(h:ql f b g c=ab y):
 ∃(t:Ty)(x:t.aE)(l:yL Pl),f t=ab x/\Ty.encs c y=t.enc x::l/\((b=ae/\l=[])\/∃(gs:yL Ty)(z:Ty.aK gs),g gs=ab z/\l=Ty.encs gs z):=by
 match c,y,h with
 |[],_,h=>cases h
 |[t],y,h=>
  have e:(if b then f t else ad)=ab y:=h
  split at e
  .rename_i j;exact⟨t,y,[],e,rfl,.inl ⟨j,rfl⟩⟩
  .cases e
 |t::u::q,y,h=>
  obtain⟨m,s⟩:=QY (α:=t.aE) (β:=Ty.aK (u::q)) h;exact⟨t,y.1,_,m,rfl,.inr ⟨u::q,y.2,s,rfl⟩⟩
mutual
theorem jB{ok:yO Bool->Bool}:∀(x:TP)(t:Ty)(y:t.aE),TP.to ok x t=ab y->x.pe.soft=t.enc y
 |.v t x,u,y,h=>by
  obtain⟨e,rfl⟩:=Qz (show Ty.cast t u x=ab y from h)
  subst e
  exact tV t x
 |.sl nn t c,u,y,h=>by
  obtain⟨l,_,f,j⟩:=zX (nn:=nn) (show qj (ok nn) t c u=ab y from h)
  rw[f,j]
  rfl
 |.agg c,u,y,h=>by
  obtain⟨m,z,g,f⟩:=AA (show qk (TP.iu ok c) u=ab y from h)
  rw[f];show Pl.agg (Pl.cy (TP.bQ c))=_
  rw[fV c m z g]
 |.arr n s c,u,y,h=>by
  obtain⟨t,l,g,f⟩:=SM (show tX n s (TP.kp ok c) u=ab y from h)
  rw[f];show Pl.arr n s (Pl.cy (TP.bQ c))=_
  rw[fW c t l g]
 |.ko _ _ _,_,_,h=>nomatch (show ad=ab _ from h)
 |.bH,_,_,h=>nomatch (show ad=ab _ from h)
 |.fn0,_,_,h=>nomatch (show ad=ab _ from h)
 |.dy,_,_,h=>nomatch (show ad=ab _ from h)
 |.bR,_,_,h=>nomatch (show ad=ab _ from h)
 |.fQ _,_,_,h=>nomatch (show ad=ab _ from h)
 |.iface _ _,_,_,h=>nomatch (show ad=ab _ from h)
theorem fV{ok:yO Bool->Bool}:∀(xs:yL TP)(c:yL Ty)(y:Ty.aK c),TP.iu ok xs c=ab y->Pl.cy (TP.bQ xs)=Ty.encs c y
 |[],c,y,h=>(SN (show tY c=ab y from h)).symm
 |x::r,c,y,h=>by
  obtain⟨t,a,l,f,g,j⟩:=SP (show ql (TP.to ok x) r.isEmpty (TP.iu ok r) c=ab y from h)
  rw[g];show x.pe.soft::Pl.cy (TP.bQ r)=_;rw[jB x t a f];rcases j with⟨e,rfl⟩|⟨m,z,e,rfl⟩
  .cases r with
   |nil=>rfl
   |cons _ _=>cases e
  .rw[fV r m z e]
theorem fW{ok:yO Bool->Bool}:∀(xs:yL TP)(t:Ty)(y:yL t.aE),TP.kp ok xs t=ab y->Pl.cy (TP.bQ xs)=y.map t.enc
 |[],_,y,h=>by
  cases (show ab []=ab y from h)
  rfl
 |x::r,t,y,h=>by
  obtain⟨q,c,rfl⟩:=Zd (show(jA (TP.to ok x t) (TP.kp ok r t)).map (λq=>q.1::q.2)=ab y from h)
  obtain⟨e,f⟩:=QY c;show x.pe.soft::Pl.cy (TP.bQ r)=_;rw[jB x t q.1 e,fW r t q.2 f,yaf]
end
theorem oj{ok:yO Bool->Bool}{x:TP}{t:Ty}{y:t.aE}(h:TP.to ok x t=ab y):bw x.pe (t.enc y):=jB x t y h ▸ kh x.pe
mutual
theorem ol:∀(x:TP)(t:Ty)(y:t.aE),TP.to eY x t=ab y->x.pe=t.enc y
 |.v t x,u,y,h=>by
  obtain⟨e,rfl⟩:=Qz (show Ty.cast t u x=ab y from h)
  subst e
  rfl
 |.sl nn t c,u,y,h=>by
  obtain⟨l,f,g,j⟩:=zX (nn:=nn) (show qj (eY nn) t c u=ab y from h)
  rw[g,j]
  cases nn with
  |none=>rfl
  |some _=>cases f
 |.agg c,u,y,h=>by
  obtain⟨m,z,f,g⟩:=AA (show qk (TP.iu eY c) u=ab y from h)
  rw[g];show Pl.agg (TP.bQ c)=_
  rw[dn c m z f]
 |.arr n s c,u,y,h=>by
  obtain⟨t,l,f,g⟩:=SM (show tX n s (TP.kp eY c) u=ab y from h)
  rw[g];show Pl.arr n s (TP.bQ c)=_
  rw[dT c t l f]
 |.ko _ _ _,_,_,h=>nomatch (show ad=ab _ from h)
 |.bH,_,_,h=>nomatch (show ad=ab _ from h)
 |.fn0,_,_,h=>nomatch (show ad=ab _ from h)
 |.dy,_,_,h=>nomatch (show ad=ab _ from h)
 |.bR,_,_,h=>nomatch (show ad=ab _ from h)
 |.fQ _,_,_,h=>nomatch (show ad=ab _ from h)
 |.iface _ _,_,_,h=>nomatch (show ad=ab _ from h)
theorem dn:∀(xs:yL TP)(c:yL Ty)(y:Ty.aK c),TP.iu eY xs c=ab y->TP.bQ xs=Ty.encs c y
 |[],c,y,h=>(SN (show tY c=ab y from h)).symm
 |x::r,c,y,h=>by
  obtain⟨t,a,l,f,g,j⟩:=SP (show ql (TP.to eY x) r.isEmpty (TP.iu eY r) c=ab y from h)
  rw[g];show x.pe::TP.bQ r=_;rw[ol x t a f];rcases j with⟨e,rfl⟩|⟨m,z,e,rfl⟩
  .cases r with
   |nil=>rfl
   |cons _ _=>cases e
  .rw[dn r m z e]
theorem dT:∀(xs:yL TP)(t:Ty)(y:yL t.aE),TP.kp eY xs t=ab y->TP.bQ xs=y.map t.enc
 |[],_,y,h=>by
  cases (show ab []=ab y from h)
  rfl
 |x::r,t,y,h=>by
  obtain⟨q,c,rfl⟩:=Zd (show(jA (TP.to eY x t) (TP.kp eY r t)).map (λq=>q.1::q.2)=ab y from h)
  obtain⟨e,f⟩:=QY c;show x.pe::TP.bQ r=_;rw[ol x t q.1 e,dT r t q.2 f,yaf]
end
mutual
def eZ(P:yg):Nat->yb->yO Ty
 |0,_=>ad
 |n+1,t=>match P.underlying t with
  |some (.int .u8)=>ab .u8
  |some (.int .u32)=>ab .u32
  |some (.int .u64)=>ab .u64
  |some (.int k)=>ab (.int k)
  |some .bool=>ab .bool
  |some .string=>ab .str
  |some (.slice e)=>(eZ P n e).map .sl
  |some (.array m e)=>(eZ P n e).map (.arr m)
  |some (.struct c)=>(lj P n (c.toList.map (·.type))).map .st
  |_=>ad
def lj(P:yg):Nat->yL yb->yO (yL Ty)
 |0,_=>ad
 |_+1,[]=>ab []
 |n+1,t::r=>match eZ P n t,lj P n r with
  |some a,ab b=>ab (a::b)
  |_,_=>ad
end
def AB(k:IntKind)(z:Int):TP:=
 match k with
 |.u8=>.v .u8 (yaw z.toNat)
 |.u32=>.v .u32 (yby z.toNat)
 |.u64=>.v .u64 (yai z.toNat)
 |k=>.v (.int k) z
def mK(k:IntKind)(z:Int):Bool:=
 match k with
 |.u8=>ag (0<=z)&&ag (z < 256)
 |.u32=>ag (0<=z)&&ag (z < 4294967296)
 |.u64=>ag (0<=z)&&ag (z < 18446744073709551616)
 |_=>ae
theorem ZJV{k:IntKind}{z:Int}(h:mK k z=ae):(AB k z).pe=.int k z:=by
 cases k <;> simp only[mK,yi,yP]at h <;> simp only[AB,TP.pe,Ty.enc]
 .simp only[Pl.int.injEq,true_and,UInt8.toNat_ofNat'];omega
 .simp only[Pl.int.injEq,true_and,yct];omega
 .simp only[Pl.int.injEq,true_and,yaz];omega
abbrev wi(z:Int):Int:=IntKind.i64.wrap z
def w8(z:Int):yB:=yaw (z % 256).toNat
def w32(z:Int):yV:=yby (z % 4294967296).toNat
def cK(z:Int):yU:=yai (z % 18446744073709551616).toNat
def ua(k:IntKind)(z:Int):TP:=
 match k with
 |.u8=>.v .u8 (w8 z)
 |.u32=>.v .u32 (w32 z)
 |.u64=>.v .u64 (cK z)
 |k=>.v (.int k) (k.wrap z)
theorem ZLP(z:Int):((w8 z).toNat:Int)=IntKind.u8.wrap z:=by
 simp only[w8,IntKind.wrap,IntKind.signed,IntKind.bits,UInt8.toNat_ofNat'];simp;omega
theorem ZJX(z:Int):((w32 z).toNat:Int)=IntKind.u32.wrap z:=by
 simp only[w32,IntKind.wrap,IntKind.signed,IntKind.bits,yct];simp;omega
theorem ZJY(z:Int):((cK z).toNat:Int)=IntKind.u64.wrap z:=by
 simp only[cK,IntKind.wrap,IntKind.signed,IntKind.bits,yaz];simp;omega
theorem SQ(k:IntKind)(z:Int):(ua k z).pe=.int k (k.wrap z):=by
 cases k <;> simp only[ua,TP.pe,Ty.enc,ZLP,ZJX,ZJY]
def AC:IntKind->Bool
 |.u8=>af
 |.u32=>af
 |.u64=>af
 |_=>ae
def iv:TP->yO (IntKind×Int)
 |.v (.int k) n=>if AC k then ab (k,n) else ad
 |.v .u8 b=>ab (.u8,(b.toNat:Int))
 |.v .u32 b=>ab (.u32,(b.toNat:Int))
 |.v .u64 b=>ab (.u64,(b.toNat:Int))
 |_=>ad
theorem om{x:TP}{q:IntKind×Int}(h:iv x=ab q):x.pe=.int q.1 q.2/\mK q.1 q.2=ae:=by
 unfold iv at h;split at h
 .rename_i k n;split at h
  .rename_i c;cases h;refine⟨rfl, ?_⟩;cases k <;> first|rfl|cases c
  .cases h
 .rename_i b;cases h;exact⟨rfl,by simp only[mK,yi,yP];have:=b.toNat_lt;omega⟩
 .rename_i b;cases h;exact⟨rfl,by simp only[mK,yi,yP];have:=b.toNat_lt;omega⟩
 .rename_i b;cases h;exact⟨rfl,by simp only[mK,yi,yP];have:=b.toNat_lt;omega⟩
 .cases h
def fJ:Nat:=40
def ub(P:yg)(t:yb)(l:yL TP):TP:=
 match eZ P fJ t with
 |some (.st c)=>match TP.iu eY l c with
  |some x=>.v (.st c) x
  |none=>.agg l
 |_=>.agg l
theorem SR{P:yg}(t:yb)(l:yL TP):(ub P t l).pe=.agg (TP.bQ l):=by
 unfold ub;split
 .rename_i c _;split
  .rename_i x h;show Pl.agg (Ty.encs c x)=_;rw[dn l c x h]
  .rfl
 .rfl
def uc(P:yg)(t:yb)(n s:Nat)(l:yL TP):TP:=
 match eZ P fJ t with
 |some (.arr _ u)=>if s=u.size then match TP.kp eY l u with
  |some x=>.v (.arr n u) x
  |none=>.arr n s l else .arr n s l
 |_=>.arr n s l
theorem SS{P:yg}(t:yb)(n s:Nat)(l:yL TP):(uc P t n s l).pe=.arr n s (TP.bQ l):=by
 unfold uc;split
 .rename_i u _;split
  .rename_i e;split
   .rename_i x h;show Pl.arr n u.size (List.map u.enc x)=_;rw[dT l u x h,e]
   .rfl
  .rfl
 .rfl
def qm(f:yb->Pl->yO TP):yL yb->yL Pl->yO (yL TP)
 |[],[]=>ab []
 |t::r,x::q=>match f t x,qm f r q with
  |some a,ab b=>ab (a::b)
  |_,_=>ad
 |_,_=>ad
def qn(P:yg):Nat->yb->Pl->yO TP
 |0,_,_=>ad
 |n+1,t,x=>match x with
  |.int k z=>if mK k z then ab (AB k z) else ad
  |.bool b=>ab (.v .bool b)
  |.str b=>ab (.v .str b)
  |.bH=>ab .bH
  |.fn0=>ab .fn0
  |.dy=>ab .dy
  |.bR=>ab .bR
  |.sl nn s []=>match P.underlying t with
   |some (.slice e)=>(eZ P fJ e).bind λT=>if s=T.size then ab (.sl nn T []) else ad
   |_=>ad
  |.agg c=>match P.underlying t with
   |some (.struct f)=>(qm (qn P n) (f.toList.map (·.type)) c).map (ub P t)
   |_=>ad
  |.arr m s c=>match P.underlying t with
   |some (.array _ e)=>(qm (qn P n) (yab c.length e) c).map (uc P t m s)
   |_=>ad
  |_=>ad
theorem AD{f:yb->Pl->yO TP}(h:∀t x y,f t x=ab y->y.pe=x):∀(l:yL yb)(xs:yL Pl)(r:yL TP),qm f l xs=ab r->TP.bQ r=xs
 |[],[],r,k=>by cases k;rfl
 |[],_::_,r,k=>by cases k
 |_::_,[],r,k=>by cases k
 |t::l,x::xs,r,k=>by
  simp only[qm]at k;split at k
  .rename_i a b c e;cases k;rw[TP.bQ,h t x a c,AD h l xs b e]
  .cases k
theorem AE{P:yg}:∀(n:Nat)(t:yb)(x:Pl)(y:TP),qn P n t x=ab y->y.pe=x
 |0,_,_,_,h=>by cases h
 |n+1,t,x,y,h=>by
  unfold qn at h;split at h
  .split at h
   .rename_i g;cases h;exact ZJV g
   .cases h
  .cases h;rfl
  .cases h;rfl
  .cases h;rfl
  .cases h;rfl
  .cases h;rfl
  .cases h;rfl
  .split at h
   .obtain⟨T,c,f⟩:=yf.1 h;split at f
    .rename_i e;cases f;rw[TP.pe,e];rfl
    .cases f
   .cases h
  .split at h
   .obtain⟨l,c,rfl⟩:=Zd h;rw[SR,AD (AE n) _ _ _ c]
   .cases h
  .split at h
   .obtain⟨l,c,rfl⟩:=Zd h;rw[SS,AD (AE n) _ _ _ c]
   .cases h
  .cases h
def ud(P:yg)(t:yb)(x:Pl):yO TP:=qn P 30 t x
def AF(P:yg)(t:yb)(v:Value):yO TD:=
 match nM P t v with
 |.p x=>(ud P t x).map .p
 |.fn f []=>ab (.fn f [])
 |_=>ad
def aS(P:yg)(ts:yL TD)(t:yb):yo->yO TD
 |.tmp i=>ab (ts.getD i .an)
 |.const v=>AF P t v
 |.global _=>ad
 |.func f=>if f < big then ab (.fn f []) else ad
theorem AG{P:yg}{t:yb}{x:Pl}{y:TP}(h:ud P t x=ab y):y.pe=x:=AE _ _ _ _ h
theorem ue{L:Lk}(ts:yL TD)(i:Nat):(TD.au L ts).getD i .an=(ts.getD i .an).er L:=by
 rw[ZC];simp only[List.getD_eq_getElem?_getD,yah];cases ts[i]? <;> rfl
theorem Zk{L:Lk}{P:yg}{ts:yL TD}{t:yb}{x:yo}{d:TD}(h:aS P ts t x=ab d):Zo P (TD.au L ts) t x=d.er L:=by
 cases x with
 |tmp i=>cases h;exact ue ts i
 |const v=>
  have c:AF P t v=ab d:=h;show nM P t v=d.er L;unfold AF at c;split at c
  .rename_i x g;obtain⟨y,j,rfl⟩:=Zd c;rw[g,TD.er,AG j]
  .rename_i f e;cases c;rw[e];rfl
  .cases c
 |global _=>cases h
 |func f=>
  have c:(if f < big then ab (TD.fn f []) else ad)=ab d:=h
  by_cases e:f < big
  .rw[yW e]at c;cases c;show(if f < big then Dv.fn f [] else .an)=_
   rw[yW e];rfl
  .rw[yX e]at c;cases c
structure HI where
 own:List Tmp:=[]
 still:List Tmp:=[]
 row:List Tmp:=[]
 bj:List Tmp:=[]
 deep:List yb:=[]
 eqs:Bool:=af
 bS:List Tmp:=[]
 aZ:List (Tmp×List (List Nat×Ty×yb)):=[]
 cO:List (Tmp×List (List Nat×Ty×yb)):=[]
 lits:List Tmp:=[]
 ST:List (Tmp×Tmp):=[]
 mkn:List Tmp:=[]
 deriving Inhabited
def cX(L:Lk)(P:yg)(o:Oper)(ts:yL TD)(d:TD)(hs:yL aj):Prop:=
 ∃C,aY C/\∀c,aU P o (TD.au L ts) (hs++c)=ab (C,d.er L,c)
def idx{α:Type}(l:yL α)(i:Int):yO α:=if 0<=i then l[i.toNat]? else ad
def ZN8(m n:Int):Int:=if n > m then n else m
def ZN9(m n:Int):Int:=if n < m then n else m
def bK(i:Int)(n:Nat):Bool:=ag (0<=i)&&ag (i < (n:Int))
def VQ(len:Nat):yO Int->yO Int->Bool
 |none,ad=>ae
 |none,ab h=>ag (0<=h)&&ag (h<=(len:Int))
 |some l,ad=>ag (0<=l)&&ag (l<=(len:Int))
 |some l,ab h=>ag (0<=l)&&(ag (l<=h)&&ag (h<=(len:Int)))
def kq(n b:Nat):Bool:=ag (n*b<=Zn)&&ag (n<=maxLen)
theorem qo{α:Type}{l:yL α}{i:Int}{y:α}(h:idx l i=ab y):0<=i/\l[i.toNat]? =ab y:=by
 unfold idx at h;split at h
 .exact⟨by assumption,h⟩
 .cases h
theorem QI{i:Int}{n:Nat}(h:bK i n=ae):0<=i/\i < (n:Int):=by simpa[bK] using h
theorem ll{len:Nat}{l h:yO Int}(k:VQ len l h=ae):aY (Xf len l h):=by
 cases l <;> cases h <;> simp only[VQ,yi,yP]at k <;> simp only[Xf,aY,and_true]
 .exact k
 .exact k
 .exact k
theorem jC{n b:Nat}(h:kq n b=ae):n*b<=Zn/\n<=maxLen:=by simpa[kq] using h
theorem Za{α:Type}{b:Bool}{k:yO α}{r:α}(h:(if b=ae then k else ad)=ab r):b=ae/\k=ab r:=by
 cases b
 .cases h
 .exact⟨rfl,h⟩
theorem uf{α β:Type}(f:α->β)(l:yL α)(a b:yO Int):(V4 l a b).map f=V4 (l.map f) a b:=by
 cases a <;> cases b <;> simp[V4]
def TP.fC:TP->Nat->yO TP
 |.v (.st c) x,i=>(Ty.mJ c x i).map λq=>.v q.1 q.2
 |.agg l,i=>l[i]?
 |_,_=>ad
theorem SU{x y:TP}{i:Nat}(h:x.fC i=ab y):∃xs,x.pe=.agg xs/\xs[i]? =ab y.pe:=by
 unfold TP.fC at h;split at h
 .obtain⟨q,c,rfl⟩:=Zd h;exact⟨_,rfl,SK _ _ _ q c⟩
 .exact⟨_,rfl,by rw[VI,yah,h];rfl⟩
 .cases h
structure Row where
 nn:Option Bool
 t:Ty
 l:List t.aE
def TP.row:TP->yO Row
 |.v (.sl t) l=>ab ⟨ad,t,l⟩
 |.sl nn t l=>ab ⟨nn,t,l⟩
 |_=>ad
theorem ZLR{x:TP}{r:Row}(h:x.row=ab r):x.pe=.sl r.nn r.t.size (r.l.map r.t.enc):=by
 unfold TP.row at h;split at h
 .cases h;rfl
 .cases h;rfl
 .cases h
structure mL where
 n:Nat
 t:Ty
 l:List t.aE
def TP.dk:TP->yO mL
 |.v (.arr n t) l=>ab ⟨n,t,l⟩
 |_=>ad
theorem V8{x:TP}{r:mL}(h:x.dk=ab r):x.pe=.arr r.n r.t.size (r.l.map r.t.enc):=by
 unfold TP.dk at h;split at h
 .cases h;rfl
 .cases h
def Ty.isAgg:Ty->Bool
 |.arr _ _=>ae
 |.st _=>ae
 |_=>af
theorem ug(t:Ty)(x:t.aE):(t.enc x).isAgg=t.isAgg:=by cases t <;> rfl
def TD.row(L:Lk):TD->yO Row
 |.p x=>x.row
 |.own id nn t c=>ab ⟨nn,t,Yb L id t c⟩
 |_=>ad
theorem lm{L:Lk}{x:TD}{r:Row}(h:x.row L=ab r):x.er L=.p (.sl r.nn r.t.size (r.l.map r.t.enc))\/∃id,x.er L=.own id r.nn r.t.size (r.l.map r.t.enc):=by
 unfold TD.row at h;split at h
 .exact .inl (by rw[TD.er,ZLR h])
 .cases h;exact .inr ⟨_,rfl⟩
 .cases h
def TD.plain(L:Lk):TD->yO TP
 |.p x=>ab x
 |.own id nn t c=>ab (.sl nn t (Yb L id t c))
 |_=>ad
theorem SV{L:Lk}{x:TD}{y:TP}(h:x.plain L=ab y):(x.er L).plain=ab y.pe:=by
 unfold TD.plain at h;split at h
 .cases h;rfl
 .cases h;rfl
 .cases h
mutual
def TD.flat(L:Lk):TD->yO TP
 |.p x=>ab x
 |.own id nn t c=>ab (.sl nn t (Yb L id t c))
 |.agg e=>(TD.aL L e).map .agg
 |_=>ad
def TD.aL(L:Lk):yL TD->yO (yL TP)
 |[]=>ab []
 |d::r=>match d.flat L,TD.aL L r with
  |some x,ab c=>ab (x::c)
  |_,_=>ad
end
mutual
theorem qp{L:Lk}:∀(d:TD),(d.er L).flat=(d.flat L).map TP.pe
 |.p x=>by rw[TD.er,Dv.flat,TD.flat];rfl
 |.own id nn t c=>by rw[TD.er,Dv.flat,TD.flat];rfl
 |.agg e=>by
  rw[TD.er,Dv.flat,TD.flat,eL e]
  cases TD.aL L e <;> rfl
 |.elem _=>rfl
 |.am _ _=>rfl
 |.view _ _ _ _ _=>rfl
 |.arr _ _ _=>rfl
 |.fn _ _=>rfl
 |.iface _ _=>rfl
 |.bf _=>rfl
 |.mp _=>rfl
 |.cz _=>rfl
 |.cC _ _ _ _=>rfl
 |.pm _ _=>rfl
 |.rv _ _ _ _ _=>rfl
 |.aW _ _ _=>rfl
 |.rw _=>rfl
 |.rp _ _=>rfl
 |.an=>rfl
theorem eL{L:Lk}:∀(c:yL TD),Dv.aL (TD.au L c)=(TD.aL L c).map TP.bQ
 |[]=>rfl
 |d::r=>by
  rw[TD.au,Dv.aL,TD.aL,qp d,eL r];cases d.flat L <;> cases TD.aL L r <;> rfl
end
theorem qq{L:Lk}{x:TD}{y:TP}(h:x.flat L=ab y):(x.er L).flat=ab y.pe:=by rw[qp,h];rfl
mutual
def TD.owns(ids:yL Nat):TD->Bool
 |.own id _ _ _=>ids.contains id
 |.agg c=>TD.de ids c
 |_=>af
def TD.de(ids:yL Nat):yL TD->Bool
 |[]=>af
 |d::r=>d.owns ids || TD.de ids r
end
mutual
theorem ZJ1{L:Lk}{ids:yL Nat}:∀(d:TD),(d.er L).owns ids=d.owns ids
 |.p x=>rfl
 |.own id nn t c=>rfl
 |.agg e=>by rw[TD.er,Dv.owns,TD.owns,eM e]
 |.elem _=>rfl
 |.am _ _=>rfl
 |.view _ _ _ _ _=>rfl
 |.arr _ _ _=>rfl
 |.fn _ _=>rfl
 |.iface _ _=>rfl
 |.bf _=>rfl
 |.mp _=>rfl
 |.cz _=>rfl
 |.cC _ _ _ _=>rfl
 |.pm _ _=>rfl
 |.rv _ _ _ _ _=>rfl
 |.aW _ _ _=>rfl
 |.rw _=>rfl
 |.rp _ _=>rfl
 |.an=>rfl
theorem eM{L:Lk}{ids:yL Nat}:∀(c:yL TD),Dv.de ids (TD.au L c)=TD.de ids c
 |[]=>rfl
 |d::r=>by rw[TD.au,Dv.de,TD.de,ZJ1 d,eM r]
end
def TD.df(L:Lk)(c:yL TD):TD:=
 match TD.aL L c with
 |some e=>.p (.agg e)
 |none=>.agg c
theorem SW{L:Lk}(c:yL TD):(TD.df L c).er L=Dv.df (TD.au L c):=by
 unfold TD.df Dv.df;rw[eL];cases TD.aL L c <;> rfl
section
variable{L:Lk}{P:yg}{o:Oper}{ts:yL TD}{O:Type}
def okB(P:yg)(e:yb)(s:Nat):Bool:=ag (P.cellsOf e=s)&&(P.info? e).isSome
def AH(L:Lk)(P:yg)(t:yb)(i:Nat)(K:TD->yL aj->yO O):TD->yO O
 |.p x=>(x.fC i).bind λz=>if(im P t (.p x.pe) i).isSome then K (.p z) [] else ad
 |.agg c=>(c[i]?).bind λz=>if(im P t (.agg (TD.au L c)) i).isSome then K z [] else ad
 |_=>ad
theorem SX{t:yb}{i:Nat}{K:TD->yL aj->yO O}{x:TD}{out:O}(h:AH L P t i K x=ab out):∃d,K d []=ab out/\im P t (x.er L) i=ab (d.er L):=by
 unfold AH at h;split at h
 .rename_i x;obtain⟨z,f,g⟩:=yf.1 h;obtain⟨j,l⟩:=Za g;refine⟨_,l, ?_⟩;obtain⟨y,s,m⟩:=SU f;rw[TD.er];obtain⟨d,c⟩:=Option.isSome_iff_exists.1 j;rw[c];unfold im at c;rw[s]at c;split at c
  .rename_i e;cases e;rw[m]at c;dsimp only at c;split at c
   .cases c;rfl
   .cases c
  .rename_i e;cases e
  .cases c
 .rename_i A;obtain⟨z,f,g⟩:=yf.1 h;obtain⟨j,l⟩:=Za g;refine⟨_,l, ?_⟩;have m:=QH (L:=L) f;rw[TD.er];obtain⟨d,c⟩:=Option.isSome_iff_exists.1 j;rw[c];unfold im at c;split at c
  .rename_i e;cases e
  .rename_i e;cases e;rw[m]at c;dsimp only at c;split at c
   .cases c;rfl
   .cases c
  .cases c
 .cases h
theorem mM(l:yL bN)(q:bN):WW (l++[q])=WW l+q.o:=by simp[WW]
def AI(P:yg)(t:yb)(i:Nat)(K:TD->yL aj->yO O):TD->yO O
 |.am id c=>match P.underlying t with
  |some (.struct e)=>match e[i]? with
   |some f=>if P.cellsOf f.type !=0&&(P.info? f.type).isSome then K (.am id (c++[.fC i f.offset])) [] else ad
   |none=>ad
  |_=>ad
 |.aW id v c=>match P.underlying t with
  |some (.struct e)=>match e[i]? with
   |some f=>if P.cellsOf f.type !=0&&(P.info? f.type).isSome then K (.aW id v (c++[.fC i f.offset])) [] else ad
   |none=>ad
  |_=>ad
 |.rp id c=>match P.underlying t with
  |some (.struct e)=>match e[i]? with
   |some f=>if P.cellsOf f.type !=0&&(P.info? f.type).isSome then K (.rp id (c++[.fC i f.offset])) [] else ad
   |none=>ad
  |_=>ad
 |.elem x=>(x.fC i).bind λz=>if(im P t (.p x.pe) i).isSome then K (.elem z) [] else ad
 |_=>ad
theorem Zre{t:yb}{i:Nat}{x:yo}{K:TD->yL aj->yO O}{y:TD}{out:O}(ho:o.op=.fieldAddr t x i)(hx:aS P ts 0 x=ab y)(h:AI P t i K y=ab out):∃d hs,K d hs=ab out/\cX L P o ts d hs:=by
 have m:=Zk (L:=L) hx;unfold AI at h;split at h
 .rename_i id A;split at h
  .rename_i j e;split at h
   .rename_i f l;obtain⟨c,g⟩:=Za h;refine⟨_,_,g,[],zZ,λs=> ?_⟩;simp only[yw];unfold aU;rw[ho];dsimp only;rw[e,m];dsimp only[TD.er];rw[l];dsimp only;rw[yW c,yaq,mM];rfl
   .cases h
  .cases h
 .rename_i id v A;split at h
  .rename_i j e;split at h
   .rename_i f l;obtain⟨c,g⟩:=Za h;refine⟨_,_,g,[],zZ,λs=> ?_⟩;simp only[yw];unfold aU;rw[ho];dsimp only;rw[e,m];dsimp only[TD.er];rw[l];dsimp only;rw[yW c,yaq,mM];rfl
   .cases h
  .cases h
 .rename_i id A;split at h
  .rename_i j e;split at h
   .rename_i f l;obtain⟨c,g⟩:=Za h;refine⟨_,_,g,[],zZ,λs=> ?_⟩;simp only[yw];unfold aU;rw[ho];dsimp only;rw[e,m];dsimp only[TD.er];rw[l];dsimp only;rw[yW c,yaq,mM];rfl
   .cases h
  .cases h
 .rename_i x;obtain⟨z,F,G⟩:=yf.1 h;obtain⟨c,g⟩:=Za G;refine⟨_,_,g,[],zZ,λs=> ?_⟩;obtain⟨d,I,E⟩:=SX (L:=L) (P:=P) (t:=t) (i:=i) (K:=λd _=>ab d) (x:=.p x) (out:=.p z) (by show(x.fC i).bind _=_;rw[F];exact yW c);cases I;simp only[yw];unfold aU;rw[ho];dsimp only;rw[m]
  have e:∃j,P.underlying t=ab (.struct j):=by
   unfold im at c;split at c
   .exact⟨_,by assumption⟩
   .exact⟨_,by assumption⟩
   .cases c
  obtain⟨j,e⟩:=e;rw[e];dsimp only[TD.er]at E ⊢;rw[E]
 .cases h
theorem qr{t:Ty}{l:yL t.aE}{i:Nat}{y:t.aE}(h:l[i]? =ab y):(l.map t.enc)[i]? =ab (t.enc y):=by rw[yah,h];rfl
def AJ(L:Lk)(P:yg)(t:yb)(i:Int)(K:TD->yL aj->yO O)(f:TD):yO O:=
 match P.underlying t,f with
 |some (.slice e),.view id c s lo n=>if okB P e s=ae then if bK i n=ae then K (.am id (c++[.ix (lo+i.toNat) s])) [] else ad else ad
 |some (.slice e),.rv id v s lo n=>if okB P e s=ae then if bK i n=ae then K (.aW id v [.ix (lo+i.toNat) s]) [] else ad else ad
 |some (.slice e),f=>(f.row L).bind λr=>if okB P e r.t.size=ae then(idx r.l i).bind λy=>K (.elem (.v r.t y)) [.el (r.t.enc y)] else ad
 |some (.array n e),.am id c=>if(P.info? e).isSome then if bK i n=ae then K (.am id (c++[.ix i.toNat (P.cellsOf e)])) [] else ad else ad
 |some (.array n e),.aW id v c=>if(P.info? e).isSome then if bK i n=ae then K (.aW id v (c++[.ix i.toNat (P.cellsOf e)])) [] else ad else ad
 |some (.array n e),.rp id c=>if(P.info? e).isSome then if bK i n=ae then K (.rp id (c++[.ix i.toNat (P.cellsOf e)])) [] else ad else ad
 |some (.array n e),.elem x=>x.dk.bind λr=>if ag (n=r.n)&&okB P e r.t.size then(idx r.l i).bind λy=>K (.elem (.v r.t y)) [.el (r.t.enc y)] else ad
 |_,_=>ad
theorem SY{e:yb}{s:Nat}(h:okB P e s=ae):P.cellsOf e=s/\(P.info? e).isSome=ae:=by simpa[okB] using h
theorem Zrf{t:yb}{x ix:yo}{K:TD->yL aj->yO O}{Q id:TD}{q:IntKind×Int}{S:TP}{out:O}(ho:o.op=.indexAddr t x ix)(hx:aS P ts t x=ab Q)(hi:aS P ts 0 ix=ab (.p S))(hq:iv S=ab q)
 (h:AJ L P t q.2 K Q=ab out):∃d hs,K d hs=ab out/\cX L P o ts d hs:=by
 have m:=Zk (L:=L) hx;have j:=Zk (L:=L) hi;rw[TD.er,(om hq).1]at j;unfold AJ at h;split at h
 .rename_i e id A s lo n c;obtain⟨f,h⟩:=Za h;obtain⟨g,h⟩:=Za h;refine⟨_,_,h,[0<=q.2,q.2 < (n:Int)],⟨(QI g).1,(QI g).2,aw⟩,λz=> ?_⟩;simp only[yw];unfold aU;rw[ho];dsimp only;rw[c,m,j];dsimp only[TD.er];rw[yW (by simpa[okB] using f),yaq,mM];rfl
 .rename_i e id v s lo n c;obtain⟨f,h⟩:=Za h;obtain⟨g,h⟩:=Za h;refine⟨_,_,h,[0<=q.2,q.2 < (n:Int)],⟨(QI g).1,(QI g).2,aw⟩,λz=> ?_⟩;simp only[yw];unfold aU;rw[ho];dsimp only;rw[c,m,j];dsimp only[TD.er];rw[yW (by simpa[okB] using f)];simp[WW,bN.o,bN.i]
 .rename_i e c _ _;obtain⟨r,E,h⟩:=yf.1 h;obtain⟨f,h⟩:=Za h;obtain⟨y,F,h⟩:=yf.1 h;obtain⟨G,I⟩:=qo F;refine⟨_,_,h,[0<=q.2,(r.l.map r.t.enc)[q.2.toNat]? =ab (r.t.enc y)],⟨G,qr I,aw⟩,λz=> ?_⟩;unfold aU;rw[ho];dsimp only;rcases lm E with M|⟨id,M⟩
  .rw[c,m,j,M];dsimp only;rw[yaa,yw];dsimp only;rw[yW (by simpa[okB] using f)];rfl
  .rw[c,m,j,M];dsimp only;rw[yaa,yw];dsimp only;rw[yW (by simpa[okB] using f)];rfl
 .rename_i n e id A c;obtain⟨f,h⟩:=Za h;obtain⟨g,h⟩:=Za h;refine⟨_,_,h,[0<=q.2,q.2 < (n:Int)],⟨(QI g).1,(QI g).2,aw⟩,λz=> ?_⟩;simp only[yw];unfold aU;rw[ho];dsimp only;rw[c,m,j];dsimp only[TD.er];rw[yW f,yaq,mM];rfl
 .rename_i n e id v A c;obtain⟨f,h⟩:=Za h;obtain⟨g,h⟩:=Za h;refine⟨_,_,h,[0<=q.2,q.2 < (n:Int)],⟨(QI g).1,(QI g).2,aw⟩,λz=> ?_⟩;simp only[yw];unfold aU;rw[ho];dsimp only;rw[c,m,j];dsimp only[TD.er];rw[yW f,yaq,mM];rfl
 .rename_i n e id A c;obtain⟨f,h⟩:=Za h;obtain⟨g,h⟩:=Za h;refine⟨_,_,h,[0<=q.2,q.2 < (n:Int)],⟨(QI g).1,(QI g).2,aw⟩,λz=> ?_⟩;simp only[yw];unfold aU;rw[ho];dsimp only;rw[c,m,j];dsimp only[TD.er];rw[yW f,yaq,mM];rfl
 .rename_i n e x c;obtain⟨r,E,h⟩:=yf.1 h;obtain⟨f,h⟩:=Za h;obtain⟨y,F,h⟩:=yf.1 h;obtain⟨G,I⟩:=qo F;refine⟨_,_,h,[0<=q.2,(r.l.map r.t.enc)[q.2.toNat]? =ab (r.t.enc y)],⟨G,qr I,aw⟩,λz=> ?_⟩;unfold aU;rw[ho];dsimp only;rw[c,m,j,TD.er,V8 E];rw[yaa,yw];dsimp only;rw[yW (by simpa[okB,and_assoc] using f)];rfl
 .cases h
def fD(s:ByteArray):yL yB:=s.data.toList
def TP.ku:TP->yO ByteArray
 |.v .str s=>ab s
 |_=>ad
theorem SZ{x:TP}{s:ByteArray}(h:x.ku=ab s):x.pe=.str s:=by
 unfold TP.ku at h;split at h
 .cases h;rfl
 .cases h
def TP.gJ:TP->yO Bool
 |.v .bool s=>ab s
 |_=>ad
theorem ZHc{x:TP}{s:Bool}(h:x.gJ=ab s):x.pe=.bool s:=by
 unfold TP.gJ at h;split at h
 .cases h;rfl
 .cases h
def AK(P:yg)(t:yb)(i:Int)(K:TD->yL aj->yO O)(x:TP):yO O:=
 match P.underlying t with
 |some (.array n e)=>match x with
  |.arr c s f=>if ag (n=c)&&okB P e s&&((P.underlying e).isSome&&s !=0) then(idx f i).bind λy=>if(Wa P e==y.pe.isAgg)=ae then K (.p y) [.el y.pe] else ad else ad
  |x=>x.dk.bind λr=>if ag (n=r.n)&&okB P e r.t.size&&(Wa P e==r.t.isAgg&&((P.underlying e).isSome&&r.t.size !=0)) then(idx r.l i).bind λy=>K (.p (.v r.t y)) [.el (r.t.enc y)] else ad
 |some .string=>x.ku.bind λs=>(idx (fD s) i).bind λb=>K (.p (.v .u8 b)) [.el (.int .u8 (b.toNat:Int))]
 |_=>ad
theorem ZzQ{t:yb}{x ix:yo}{K:TD->yL aj->yO O}{F:TP}{q:IntKind×Int}{G:TP}{out:O}(ho:o.op=.index t x ix)(hx:aS P ts t x=ab (.p F))(hi:aS P ts 0 ix=ab (.p G))(hq:iv G=ab q)
 (h:AK P t q.2 K F=ab out):∃d hs,K d hs=ab out/\cX L P o ts d hs:=by
 have A:=Zk (L:=L) hx;have m:=Zk (L:=L) hi;rw[TD.er,(om hq).1]at m;unfold AK at h;split at h
 .rename_i n e z;split at h
  .rename_i S s M;obtain⟨c,h⟩:=Za h;obtain⟨y,f,h⟩:=yf.1 h;obtain⟨Q,h⟩:=Za h;obtain⟨g,j⟩:=qo f;refine⟨_,_,h,[0<=q.2,(TP.bQ M)[q.2.toNat]? =ab y.pe],⟨g,by rw[VI,yah,j];rfl,aw⟩,λI=> ?_⟩;unfold aU;rw[ho];dsimp only;rw[z,A,m,TD.er,TP.pe];rw[yaa,yw];dsimp only;simp only[okB,yi,yP]at c;rw[yW (by simp only[yi,yP];exact⟨⟨⟨⟨⟨c.1.1,c.1.2.1⟩,Q⟩,c.2.1⟩,c.1.2.2⟩,c.2.2⟩)];rfl
  obtain⟨r,E,h⟩:=yf.1 h;obtain⟨c,h⟩:=Za h;obtain⟨y,f,h⟩:=yf.1 h;obtain⟨g,j⟩:=qo f;refine⟨_,_,h,[0<=q.2,(r.l.map r.t.enc)[q.2.toNat]? =ab (r.t.enc y)],⟨g,qr j,aw⟩,λI=> ?_⟩;unfold aU;rw[ho];dsimp only;rw[z,A,m,TD.er,V8 E];rw[yaa,yw];dsimp only;simp only[okB,yi,yP]at c;rw[yW (by rw[ug];simp only[yi,yP];exact⟨⟨⟨⟨⟨c.1.1,c.1.2.1⟩,c.2.1⟩,c.2.2.1⟩,c.1.2.2⟩,c.2.2.2⟩)];rfl
 .rename_i z;obtain⟨s,E,h⟩:=yf.1 h;obtain⟨y,f,h⟩:=yf.1 h;obtain⟨g,j⟩:=qo f;refine⟨_,_,h,[0<=q.2,(s.data.toList[q.2.toNat]?).map (λx:yB=>(x.toNat:Int))=ab (y.toNat:Int)],⟨g,by rw[show s.data.toList=fD s from rfl,j];rfl,aw⟩,λI=> ?_⟩
  unfold aU;rw[ho];dsimp only;rw[z,A,m,TD.er,SZ E];rfl
 .cases h
def ez(P:yg)(ts:yL TD):yO yo->yO (yO Int)
 |none=>ab ad
 |some x=>match aS P ts 0 x with
  |some (.p y)=>(iv y).map λq=>ab q.2
  |_=>ad
theorem hJ{x:yO yo}{l:yO Int}(h:ez P ts x=ab l):fU P (TD.au L ts) x=ab l:=by
 cases x with
 |none=>cases h;rfl
 |some x=>
  unfold ez at h;dsimp only at h;split at h
  .rename_i y c;obtain⟨q,e,rfl⟩:=Zd h;unfold fU;dsimp only;rw[Zk c,TD.er,(om e).1]
  .cases h
def AL(L:Lk)(P:yg)(t:yb)(lo hi:yO Int)(K:TD->yL aj->yO O)(c:TD):yO O:=
 match P.underlying t,c with
 |some (.slice e),.view id f s g n=>if okB P e s=ae then if VQ n lo hi=ae then K (.view id f s (g+(lo.getD 0).toNat) ((hi.getD n).toNat - (lo.getD 0).toNat)) [] else ad else ad
 |some (.slice e),.rv id v s g n=>if okB P e s=ae then if VQ n lo hi=ae then K (.rv id v s (g+(lo.getD 0).toNat) ((hi.getD n).toNat - (lo.getD 0).toNat)) [.bare] else ad else ad
 |some (.slice e),c=>(c.row L).bind λr=>if okB P e r.t.size=ae then if VQ r.l.length lo hi=ae then K (.p (.sl r.nn r.t (V4 r.l lo hi))) [] else ad else ad
 |some (.array n e),.elem x=>x.dk.bind λr=>if ag (n=r.n)&&okB P e r.t.size&&ag (n<=maxLen) then if VQ n lo hi=ae then K (.p (.sl (ab ae) r.t (V4 r.l lo hi))) [] else ad else ad
 |some (.array n e),.am id f=>if(P.info? e).isSome&&ag (n<=maxLen) then if VQ n lo hi=ae then K (.view id f (P.cellsOf e) (lo.getD 0).toNat ((hi.getD n).toNat - (lo.getD 0).toNat)) [.raw] else ad else ad
 |_,_=>ad
theorem ZzR{t:yb}{x:yo}{lo hi:yO yo}{l m:yO Int}{K:TD->yL aj->yO O}{F:TD}{out:O}(ho:o.op=.slice t x lo hi ad)(hx:aS P ts t x=ab F)(hl:ez P ts lo=ab l)(j:ez P ts hi=ab m)
 (h:AL L P t l m K F=ab out):∃d hs,K d hs=ab out/\cX L P o ts d hs:=by
 have y:=Zk (L:=L) hx;have hl:=hJ (L:=L) hl;have j:=hJ (L:=L) j;unfold AL at h;split at h
 .rename_i e id G s I n c;obtain⟨f,h⟩:=Za h;obtain⟨g,h⟩:=Za h;refine⟨_,_,h,Xf n l m,ll g,λz=> ?_⟩;simp only[yw];unfold aU;rw[ho];dsimp only;rw[c,y,hl,j];dsimp only[TD.er];rw[yW (by simpa[okB] using f)]
 .rename_i e id v s I n c;obtain⟨f,h⟩:=Za h;obtain⟨g,h⟩:=Za h;refine⟨_,_,h,Xf n l m,ll g,λz=> ?_⟩;unfold aU;rw[ho];dsimp only;rw[c,y,hl,j];dsimp only[TD.er];rw[yaa,yw];dsimp only;rw[yW (by simpa[okB] using f)]
 .rename_i e c _ _;obtain⟨r,A,h⟩:=yf.1 h;obtain⟨f,h⟩:=Za h;obtain⟨g,h⟩:=Za h;refine⟨_,_,h,Xf r.l.length l m,ll g,λz=> ?_⟩;simp only[yw];unfold aU;rw[ho];dsimp only;rw[TD.er,TP.pe,uf];rcases lm A with E|⟨id,E⟩
  .rw[c,y,hl,j,E];dsimp only;rw[yW (by simpa[okB] using f),yx]
  .rw[c,y,hl,j,E];dsimp only;rw[yW (by simpa[okB] using f),yx]
 .rename_i n e x c;obtain⟨r,A,h⟩:=yf.1 h;obtain⟨f,h⟩:=Za h;obtain⟨g,h⟩:=Za h;refine⟨_,_,h,Xf n l m,ll g,λz=> ?_⟩;simp only[yw];unfold aU;rw[ho];dsimp only;rw[c,y,hl,j,show(TD.elem x).er L=.elem x.pe from rfl,V8 A]
  dsimp only;rw[yW (by simpa[okB,and_assoc] using f),TD.er,TP.pe,uf]
 .rename_i n e id G c;obtain⟨f,h⟩:=Za h;obtain⟨g,h⟩:=Za h;refine⟨_,_,h,Xf n l m,ll g,λz=> ?_⟩;unfold aU;rw[ho];dsimp only;rw[c,y,hl,j];dsimp only[TD.er];rw[yaa,yw];dsimp only;rw[yW (by simpa using f)]
 .cases h
end
def AM(x:yB)(n:Nat):yB:=yaw (x.toNat*2 ^ n)
def AN(x:yB)(n:Nat):yB:=yaw (x.toNat / 2 ^ n)
theorem TA{n:Nat}(h:n < 256):IntKind.u8.wrap (n:Int)=(n:Int):=by
 simp only[IntKind.wrap,IntKind.signed,IntKind.bits];simp;omega
theorem uh(z:Int):IntKind.u8.wrap z=z % 256:=by
 simp only[IntKind.wrap,IntKind.signed,IntKind.bits];simp
theorem TB(op:BinOp)(x y:yB):bits op .u8 (x.toNat:Int) (y.toNat:Int)=((match op with|.and=>x&&&y|.or=>x|||y|.xor=>x^^^y|_=>x&&& ~~~y).toNat:Int):=by
 have e:∀z:yB,BitVec.ofInt (IntKind.u8.bits) (z.toNat:Int)=z.toBitVec:=λz=>by
  show BitVec.ofInt 8 (z.toNat:Int)=z.toBitVec;apply BitVec.eq_of_toNat_eq;rw[BitVec.ofInt_natCast,BitVec.toNat_ofNat];exact yas (UInt8.toNat_lt z)
 unfold bits;rw[e,e];cases op <;> exact TA (UInt8.toNat_lt _)
def AO:BinOp->yB->yB->yO yB
 |.add,x,y=>ab (x+y)
 |.sub,x,y=>ab (x - y)
 |.mul,x,y=>ab (x*y)
 |.and,x,y=>ab (x&&&y)
 |.or,x,y=>ab (x|||y)
 |.xor,x,y=>ab (x^^^y)
 |.andNot,x,y=>ab (x&&& ~~~y)
 |_,_,_=>ad
theorem ZLU{op:BinOp}{x y z:yB}(h:AO op x y=ab z)(yJ:yL aj):Xn op .u8 (x.toNat:Int) (y.toNat:Int) (.raw::yJ)=ab ([],.p (.int .u8 (z.toNat:Int)),yJ):=by
 cases op <;> simp only[AO,yj,reduceCtorEq]at h <;> subst h
 .simp only[Xn,fS,uh,UInt8.toNat_add];simp
 .have e:((x.toNat:Int) - (y.toNat:Int)) % 256=((x - y).toNat:Int):=by
   rw[UInt8.toNat_sub];have:=x.toNat_lt;have:=y.toNat_lt;omega
  simp only[Xn,fS,uh,e]
 .simp only[Xn,fS,uh,UInt8.toNat_mul];simp
 all_goals simp only[Xn,TB]
def AP:BinOp->yB->yB->yO yB
 |.quo,x,y=>ab (x / y)
 |.rem,x,y=>ab (x % y)
 |_,_,_=>ad
theorem ZLV{op:BinOp}{x y z:yB}(h:AP op x y=ab z)(yJ:yL aj):Xn op .u8 (x.toNat:Int) (y.toNat:Int) (.raw::yJ)=ab ([(y.toNat:Int)≠0],.p (.int .u8 (z.toNat:Int)),yJ):=by
 cases op <;> simp only[AP,yj,reduceCtorEq]at h <;> subst h
 .simp only[Xn,UInt8.toNat_div];rw[show(x.toNat:Int).tdiv (y.toNat:Int)=((x.toNat / y.toNat:Nat):Int) from rfl,TA (ydd (Nat.div_le_self ..) (UInt8.toNat_lt _))]
 .simp only[Xn,UInt8.toNat_mod];rfl
def AQ:BinOp->yB->yB->yO Bool
 |.eql,x,y=>ab (x==y)
 |.neq,x,y=>ab (x !=y)
 |.lss,x,y=>ab (ag (x < y))
 |.leq,x,y=>ab (ag (x<=y))
 |.gtr,x,y=>ab (ag (x > y))
 |.geq,x,y=>ab (ag (x >= y))
 |_,_,_=>ad
theorem ZJ2{op:BinOp}{x y:yB}{b:Bool}(h:AQ op x y=ab b)(yJ:yL aj):Xn op .u8 (x.toNat:Int) (y.toNat:Int) yJ=ab ([],.p (.bool b),yJ):=by
 have c:((x.toNat:Int)==(y.toNat:Int))=(x==y):=by
  rw[ycq];simp only[yT, <-UInt8.toNat_inj];omega
 have lt:∀a b:yB,ag ((a.toNat:Int) < (b.toNat:Int))=ag (a < b):=λa b=>by
  rw[ycq];simp[UInt8.lt_iff_toNat_lt]
 have le:∀a b:yB,ag ((a.toNat:Int)<=(b.toNat:Int))=ag (a<=b):=λa b=>by
  rw[ycq];simp[UInt8.le_iff_toNat_le]
 cases op <;> simp only[AQ,yj,reduceCtorEq]at h <;> subst h <;> simp only[Xn,GT.gt,GE.ge,lt,le,c,bne]
theorem ZJ3(x:yB)(y:Int)(yJ:yL aj):Vg .shl .u8 (x.toNat:Int) y (.raw::yJ)=ab ([0<=y],.p (.int .u8 ((AM x (min y.toNat 8)).toNat:Int)),yJ):=by
 simp only[Vg,uh,AM,UInt8.toNat_ofNat'];simp[show IntKind.u8.bits=8 from rfl]
theorem ZJ4(x:yB)(y:Int)(yJ:yL aj):Vg .shr .u8 (x.toNat:Int) y (.raw::yJ)=ab ([0<=y],.p (.int .u8 ((AN x (min y.toNat 8)).toNat:Int)),yJ):=by
 simp only[Vg,AN,UInt8.toNat_ofNat'];congr 4;rw[show IntKind.u8.bits=8 from rfl]
 have h:x.toNat / 2 ^ min y.toNat 8 < 256:=ydd (Nat.div_le_self ..) (UInt8.toNat_lt _);rw[yas h];rw[show((2:Int) ^ min y.toNat 8)=((2 ^ min y.toNat 8:Nat):Int) by simp,Int.fdiv_eq_ediv_of_nonneg _ (Int.natCast_nonneg _)];rfl
def fq(x:yV)(n:Nat):yV:=yby (x.toNat*2 ^ n)
def gq(x:yV)(n:Nat):yV:=yby (x.toNat / 2 ^ n)
theorem TC{n:Nat}(h:n < 4294967296):IntKind.u32.wrap (n:Int)=(n:Int):=by
 simp only[IntKind.wrap,IntKind.signed,IntKind.bits];simp;omega
theorem ui(z:Int):IntKind.u32.wrap z=z % 4294967296:=by
 simp only[IntKind.wrap,IntKind.signed,IntKind.bits];simp
theorem TE(op:BinOp)(x y:yV):bits op .u32 (x.toNat:Int) (y.toNat:Int)=((match op with|.and=>x&&&y|.or=>x|||y|.xor=>x^^^y|_=>x&&& ~~~y).toNat:Int):=by
 have e:∀z:yV,BitVec.ofInt (IntKind.u32.bits) (z.toNat:Int)=z.toBitVec:=λz=>by
  show BitVec.ofInt 32 (z.toNat:Int)=z.toBitVec;apply BitVec.eq_of_toNat_eq;rw[BitVec.ofInt_natCast,BitVec.toNat_ofNat];exact yas (UInt32.toNat_lt z)
 unfold bits;rw[e,e];cases op <;> exact TC (UInt32.toNat_lt _)
def AR:BinOp->yV->yV->yO yV
 |.add,x,y=>ab (x+y)
 |.sub,x,y=>ab (x - y)
 |.mul,x,y=>ab (x*y)
 |.and,x,y=>ab (x&&&y)
 |.or,x,y=>ab (x|||y)
 |.xor,x,y=>ab (x^^^y)
 |.andNot,x,y=>ab (x&&& ~~~y)
 |_,_,_=>ad
theorem ZJ5{op:BinOp}{x y z:yV}(h:AR op x y=ab z)(yJ:yL aj):Xn op .u32 (x.toNat:Int) (y.toNat:Int) (.raw::yJ)=ab ([],.p (.int .u32 (z.toNat:Int)),yJ):=by
 cases op <;> simp only[AR,yj,reduceCtorEq]at h <;> subst h
 .simp only[Xn,fS,ui,UInt32.toNat_add];simp
 .have e:((x.toNat:Int) - (y.toNat:Int)) % 4294967296=((x - y).toNat:Int):=by
   rw[UInt32.toNat_sub];have:=x.toNat_lt;have:=y.toNat_lt;omega
  simp only[Xn,fS,ui,e]
 .simp only[Xn,fS,ui,UInt32.toNat_mul];simp
 all_goals simp only[Xn,TE]
def AS:BinOp->yV->yV->yO yV
 |.quo,x,y=>ab (x / y)
 |.rem,x,y=>ab (x % y)
 |_,_,_=>ad
theorem ZJ6{op:BinOp}{x y z:yV}(h:AS op x y=ab z)(yJ:yL aj):Xn op .u32 (x.toNat:Int) (y.toNat:Int) (.raw::yJ)=ab ([(y.toNat:Int)≠0],.p (.int .u32 (z.toNat:Int)),yJ):=by
 cases op <;> simp only[AS,yj,reduceCtorEq]at h <;> subst h
 .simp only[Xn,UInt32.toNat_div];rw[show(x.toNat:Int).tdiv (y.toNat:Int)=((x.toNat / y.toNat:Nat):Int) from rfl,TC (ydd (Nat.div_le_self ..) (UInt32.toNat_lt _))]
 .simp only[Xn,UInt32.toNat_mod];rfl
def AT:BinOp->yV->yV->yO Bool
 |.eql,x,y=>ab (x==y)
 |.neq,x,y=>ab (x !=y)
 |.lss,x,y=>ab (ag (x < y))
 |.leq,x,y=>ab (ag (x<=y))
 |.gtr,x,y=>ab (ag (x > y))
 |.geq,x,y=>ab (ag (x >= y))
 |_,_,_=>ad
theorem ZHg{op:BinOp}{x y:yV}{b:Bool}(h:AT op x y=ab b)(yJ:yL aj):Xn op .u32 (x.toNat:Int) (y.toNat:Int) yJ=ab ([],.p (.bool b),yJ):=by
 have c:((x.toNat:Int)==(y.toNat:Int))=(x==y):=by
  rw[ycq];simp only[yT, <-UInt32.toNat_inj];omega
 have lt:∀a b:yV,ag ((a.toNat:Int) < (b.toNat:Int))=ag (a < b):=λa b=>by
  rw[ycq];simp[UInt32.lt_iff_toNat_lt]
 have le:∀a b:yV,ag ((a.toNat:Int)<=(b.toNat:Int))=ag (a<=b):=λa b=>by
  rw[ycq];simp[UInt32.le_iff_toNat_le]
 cases op <;> simp only[AT,yj,reduceCtorEq]at h <;> subst h <;> simp only[Xn,GT.gt,GE.ge,lt,le,c,bne]
theorem ZHh(x:yV)(y:Int)(yJ:yL aj):Vg .shl .u32 (x.toNat:Int) y (.raw::yJ)=ab ([0<=y],.p (.int .u32 ((fq x (min y.toNat 32)).toNat:Int)),yJ):=by
 simp only[Vg,ui,fq,yct];simp[show IntKind.u32.bits=32 from rfl]
theorem ZHi(x:yV)(y:Int)(yJ:yL aj):Vg .shr .u32 (x.toNat:Int) y (.raw::yJ)=ab ([0<=y],.p (.int .u32 ((gq x (min y.toNat 32)).toNat:Int)),yJ):=by
 simp only[Vg,gq,yct];congr 4;rw[show IntKind.u32.bits=32 from rfl]
 have h:x.toNat / 2 ^ min y.toNat 32 < 4294967296:=ydd (Nat.div_le_self ..) (UInt32.toNat_lt _);rw[yas h];rw[show((2:Int) ^ min y.toNat 32)=((2 ^ min y.toNat 32:Nat):Int) by simp,Int.fdiv_eq_ediv_of_nonneg _ (Int.natCast_nonneg _)];rfl
def QZ(x:yU)(n:Nat):yU:=yai (x.toNat*2 ^ n)
def ZI(x:yU)(n:Nat):yU:=yai (x.toNat / 2 ^ n)
theorem TF{n:Nat}(h:n < 18446744073709551616):IntKind.u64.wrap (n:Int)=(n:Int):=by
 simp only[IntKind.wrap,IntKind.signed,IntKind.bits];simp;omega
theorem uj(z:Int):IntKind.u64.wrap z=z % 18446744073709551616:=by
 simp only[IntKind.wrap,IntKind.signed,IntKind.bits];simp
theorem TG(op:BinOp)(x y:yU):bits op .u64 (x.toNat:Int) (y.toNat:Int)=((match op with|.and=>x&&&y|.or=>x|||y|.xor=>x^^^y|_=>x&&& ~~~y).toNat:Int):=by
 have e:∀z:yU,BitVec.ofInt (IntKind.u64.bits) (z.toNat:Int)=z.toBitVec:=λz=>by
  show BitVec.ofInt 64 (z.toNat:Int)=z.toBitVec;apply BitVec.eq_of_toNat_eq;rw[BitVec.ofInt_natCast,BitVec.toNat_ofNat];exact yas (ybx z)
 unfold bits;rw[e,e];cases op <;> exact TF (ybx _)
def AU:BinOp->yU->yU->yO yU
 |.add,x,y=>ab (x+y)
 |.sub,x,y=>ab (x - y)
 |.mul,x,y=>ab (x*y)
 |.and,x,y=>ab (x&&&y)
 |.or,x,y=>ab (x|||y)
 |.xor,x,y=>ab (x^^^y)
 |.andNot,x,y=>ab (x&&& ~~~y)
 |_,_,_=>ad
theorem ZJ7{op:BinOp}{x y z:yU}(h:AU op x y=ab z)(yJ:yL aj):Xn op .u64 (x.toNat:Int) (y.toNat:Int) (.raw::yJ)=ab ([],.p (.int .u64 (z.toNat:Int)),yJ):=by
 cases op <;> simp only[AU,yj,reduceCtorEq]at h <;> subst h
 .simp only[Xn,fS,uj,UInt64.toNat_add];simp
 .have e:((x.toNat:Int) - (y.toNat:Int)) % 18446744073709551616=((x - y).toNat:Int):=by
   rw[UInt64.toNat_sub];have:=x.toNat_lt;have:=y.toNat_lt;omega
  simp only[Xn,fS,uj,e]
 .simp only[Xn,fS,uj,UInt64.toNat_mul];simp
 all_goals simp only[Xn,TG]
def AV:BinOp->yU->yU->yO yU
 |.quo,x,y=>ab (x / y)
 |.rem,x,y=>ab (x % y)
 |_,_,_=>ad
theorem ZJ8{op:BinOp}{x y z:yU}(h:AV op x y=ab z)(yJ:yL aj):Xn op .u64 (x.toNat:Int) (y.toNat:Int) (.raw::yJ)=ab ([(y.toNat:Int)≠0],.p (.int .u64 (z.toNat:Int)),yJ):=by
 cases op <;> simp only[AV,yj,reduceCtorEq]at h <;> subst h
 .simp only[Xn,UInt64.toNat_div];rw[show(x.toNat:Int).tdiv (y.toNat:Int)=((x.toNat / y.toNat:Nat):Int) from rfl,TF (ydd (Nat.div_le_self ..) (ybx _))]
 .simp only[Xn,UInt64.toNat_mod];rfl
def AW:BinOp->yU->yU->yO Bool
 |.eql,x,y=>ab (x==y)
 |.neq,x,y=>ab (x !=y)
 |.lss,x,y=>ab (ag (x < y))
 |.leq,x,y=>ab (ag (x<=y))
 |.gtr,x,y=>ab (ag (x > y))
 |.geq,x,y=>ab (ag (x >= y))
 |_,_,_=>ad
theorem ZHl{op:BinOp}{x y:yU}{b:Bool}(h:AW op x y=ab b)(yJ:yL aj):Xn op .u64 (x.toNat:Int) (y.toNat:Int) yJ=ab ([],.p (.bool b),yJ):=by
 have c:((x.toNat:Int)==(y.toNat:Int))=(x==y):=by
  rw[ycq];simp only[yT, <-ycz];omega
 have lt:∀a b:yU,ag ((a.toNat:Int) < (b.toNat:Int))=ag (a < b):=λa b=>by
  rw[ycq];simp[UInt64.lt_iff_toNat_lt]
 have le:∀a b:yU,ag ((a.toNat:Int)<=(b.toNat:Int))=ag (a<=b):=λa b=>by
  rw[ycq];simp[UInt64.le_iff_toNat_le]
 cases op <;> simp only[AW,yj,reduceCtorEq]at h <;> subst h <;> simp only[Xn,GT.gt,GE.ge,lt,le,c,bne]
theorem ZHm(x:yU)(y:Int)(yJ:yL aj):Vg .shl .u64 (x.toNat:Int) y (.raw::yJ)=ab ([0<=y],.p (.int .u64 ((QZ x (min y.toNat 64)).toNat:Int)),yJ):=by
 simp only[Vg,uj,QZ,yaz];simp[show IntKind.u64.bits=64 from rfl]
theorem ZHn(x:yU)(y:Int)(yJ:yL aj):Vg .shr .u64 (x.toNat:Int) y (.raw::yJ)=ab ([0<=y],.p (.int .u64 ((ZI x (min y.toNat 64)).toNat:Int)),yJ):=by
 simp only[Vg,ZI,yaz];congr 4;rw[show IntKind.u64.bits=64 from rfl]
 have h:x.toNat / 2 ^ min y.toNat 64 < 18446744073709551616:=ydd (Nat.div_le_self ..) (ybx _);rw[yas h];rw[show((2:Int) ^ min y.toNat 64)=((2 ^ min y.toNat 64:Nat):Int) by simp,Int.fdiv_eq_ediv_of_nonneg _ (Int.natCast_nonneg _)];rfl
inductive Num where
 |u8 (x:UInt8)|u32 (x:UInt32)|u64 (x:UInt64)
 |i (k:IntKind) (x:Int)
def TP.num:TP->yO Num
 |.v (.int k) n=>if AC k then ab (.i k n) else ad
 |.v .u8 b=>ab (.u8 b)
 |.v .u32 b=>ab (.u32 b)
 |.v .u64 b=>ab (.u64 b)
 |_=>ad
def Num.k:Num->IntKind
 |.u8 _=>.u8|.u32 _=>.u32|.u64 _=>.u64|.i k _=>k
def Num.n:Num->Int
 |.u8 x=>(x.toNat:Int)|.u32 x=>(x.toNat:Int)|.u64 x=>(x.toNat:Int)|.i _ x=>x
theorem ZL1{x:TP}{a:Num}(h:x.num=ab a):x.pe=.int a.k a.n:=by
 unfold TP.num at h;split at h
 .split at h
  .cases h;rfl
  .cases h
 .cases h;rfl
 .cases h;rfl
 .cases h;rfl
 .cases h
def TD.num:TD->yO Num
 |.p x=>x.num
 |_=>ad
theorem V9{L:Lk}{x:TD}{a:Num}(h:x.num=ab a):x.er L=.p (.int a.k a.n):=by
 unfold TD.num at h;split at h
 .rw[TD.er,ZL1 h]
 .cases h
section
variable{L:Lk}{P:yg}{o:Oper}{ts:yL TD}{O:Type}
def ZOp:BinOp->Bool
 |.eql|.neq|.lss|.leq|.gtr|.geq=>ae
 |_=>af
def AX:BinOp->Int->Int->yO Bool
 |.eql,x,y=>ab (x==y)
 |.neq,x,y=>ab (x !=y)
 |.lss,x,y=>ab (ag (x < y))
 |.leq,x,y=>ab (ag (x<=y))
 |.gtr,x,y=>ab (ag (x > y))
 |.geq,x,y=>ab (ag (x >= y))
 |_,_,_=>ad
theorem ZJ9{op:BinOp}{k:IntKind}{x y:Int}{b:Bool}(h:AX op x y=ab b)(yJ:yL aj):Xn op k x y yJ=ab ([],.p (.bool b),yJ):=by
 cases op <;> simp only[AX,yj,reduceCtorEq]at h <;> subst h <;> rfl
def AY(k:IntKind):BinOp->Int->Int->yO Int
 |.add,x,y=>ab (k.wrap (x+y))
 |.sub,x,y=>ab (k.wrap (x - y))
 |.mul,x,y=>ab (k.wrap (x*y))
 |.and,x,y=>ab (bits .and k x y)
 |.or,x,y=>ab (bits .or k x y)
 |.xor,x,y=>ab (bits .xor k x y)
 |.andNot,x,y=>ab (bits .andNot k x y)
 |_,_,_=>ad
theorem ZL3{op:BinOp}{k:IntKind}{x y z:Int}(h:AY k op x y=ab z)(yJ:yL aj):Xn op k x y (.raw::yJ)=ab ([],.p (.int k z),yJ):=by
 cases op <;> simp only[AY,yj,reduceCtorEq]at h <;> subst h <;> rfl
def AZ(k:IntKind):BinOp->Int->Int->yO Int
 |.quo,x,y=>ab (k.wrap (x.tdiv y))
 |.rem,x,y=>ab (x.tmod y)
 |_,_,_=>ad
theorem ZL4{op:BinOp}{k:IntKind}{x y z:Int}(h:AZ k op x y=ab z)(yJ:yL aj):Xn op k x y (.raw::yJ)=ab ([y≠0],.p (.int k z),yJ):=by
 cases op <;> simp only[AZ,yj,reduceCtorEq]at h <;> subst h <;> rfl
def oo(b:yO Bool)(o:yO TP)(d:yO TP)(c:Bool)(K:TD->yL aj->yO O):yO O:=
 match b,o,d with
 |some b,_,_=>K (.p (.v .bool b)) []
 |none,ab z,_=>K (.p z) [.raw]
 |none,ad,ab z=>if c=ae then K (.p z) [.raw] else ad
 |none,ad,ad=>ad
def BA(op:BinOp)(x y:Num)(K:TD->yL aj->yO O):yO O:=
 match x,y with
 |.u8 a,.u8 b=>oo (AQ op a b) ((AO op a b).map (.v .u8)) ((AP op a b).map (.v .u8)) (b !=0) K
 |.u32 a,.u32 b=>oo (AT op a b) ((AR op a b).map (.v .u32)) ((AS op a b).map (.v .u32)) (b !=0) K
 |.u64 a,.u64 b=>oo (AW op a b) ((AU op a b).map (.v .u64)) ((AV op a b).map (.v .u64)) (b !=0) K
 |.i k a,.i l b=>if k=l/\AC k=ae then oo (AX op a b) ((AY k op a b).map (.v (.int k))) ((AZ k op a b).map (.v (.int k))) (b !=0) K else ad
 |_,_=>ad
theorem uk{k:IntKind}{op:BinOp}{x y:Int}{b:yO Bool}{o d:yO TP}{e:Bool}{K:TD->yL aj->yO O}{out:O}(h:oo b o d e K=ab out)
 (hb:∀c,b=ab c->∀yJ,Xn op k x y yJ=ab ([],.p (.bool c),yJ))
 (ho:∀z,o=ab z->∀yJ,Xn op k x y (.raw::yJ)=ab ([],.p z.pe,yJ))
 (hd:∀z,d=ab z->∀yJ,Xn op k x y (.raw::yJ)=ab ([y≠0],.p z.pe,yJ)) (hz:e=ae->y≠0):
 ∃d hs C,K d hs=ab out/\aY C/\∀yJ,Xn op k x y (hs++yJ)=ab (C,d.er L,yJ):=by
 unfold oo at h;split at h
 .exact⟨_,_,[],h,zZ,hb _ rfl⟩
 .exact⟨_,_,[],h,zZ,ho _ rfl⟩
 .obtain⟨f,g⟩:=Za h;exact⟨_,_,[y≠0],g,⟨hz f,aw⟩,hd _ rfl⟩
 .cases h
theorem ZzS{op:BinOp}{x y:Num}{K:TD->yL aj->yO O}{out:O}(h:BA op x y K=ab out):
 x.k=y.k/\∃d hs C,K d hs=ab out/\aY C/\∀yJ,Xn op x.k x.n y.n (hs++yJ)=ab (C,d.er L,yJ):=by
 unfold BA at h;split at h
 .rename_i a b;refine⟨rfl,uk h (λc j=>ZJ2 j) (λz f=> ?_) (λz f=> ?_) (λf=> ?_)⟩
  .obtain⟨q,g,rfl⟩:=Zd f;exact ZLU g
  .obtain⟨q,g,rfl⟩:=Zd f;exact ZLV g
  .simp only[yE,ne_eq]at f;intro e;exact f (UInt8.toNat_inj.1 (by simp only[Num.n]at e;show b.toNat=0;omega))
 .rename_i a b;refine⟨rfl,uk h (λc j=>ZHg j) (λz f=> ?_) (λz f=> ?_) (λf=> ?_)⟩
  .obtain⟨q,g,rfl⟩:=Zd f;exact ZJ5 g
  .obtain⟨q,g,rfl⟩:=Zd f;exact ZJ6 g
  .simp only[yE,ne_eq]at f;intro e;exact f (UInt32.toNat_inj.1 (by simp only[Num.n]at e;show b.toNat=0;omega))
 .rename_i a b;refine⟨rfl,uk h (λc j=>ZHl j) (λz f=> ?_) (λz f=> ?_) (λf=> ?_)⟩
  .obtain⟨q,g,rfl⟩:=Zd f;exact ZJ7 g
  .obtain⟨q,g,rfl⟩:=Zd f;exact ZJ8 g
  .simp only[yE,ne_eq]at f;intro e;exact f (ycz.1 (by simp only[Num.n]at e;show b.toNat=0;omega))
 .rename_i k a l b;split at h
  .rename_i e;obtain⟨rfl,e⟩:=e;refine⟨rfl,uk h (λc j=>ZJ9 j) (λz f=> ?_) (λz f=> ?_) (λf=> ?_)⟩
   .obtain⟨q,g,rfl⟩:=Zd f;exact ZL3 g
   .obtain⟨q,g,rfl⟩:=Zd f;exact ZL4 g
   .simpa[Num.n] using f
  .cases h
 .cases h
def BB:Num->Bool
 |.i _ n=>ag (0<=n)
 |_=>ae
theorem ZB8{x:Num}(h:BB x=ae):0<=x.n:=by
 cases x <;> simp only[BB,Num.n,yP]at h ⊢ <;> omega
def BC(op:BinOp)(x y:Num):yO TP:=
 match op,x with
 |.shl,.u8 a=>ab (.v .u8 (AM a (min y.n.toNat 8)))
 |.shl,.u32 a=>ab (.v .u32 (fq a (min y.n.toNat 32)))
 |.shl,.u64 a=>ab (.v .u64 (QZ a (min y.n.toNat 64)))
 |.shl,.i k a=>ab (.v (.int k) (k.wrap (a*2 ^ min y.n.toNat k.bits)))
 |.shr,.u8 a=>ab (.v .u8 (AN a (min y.n.toNat 8)))
 |.shr,.u32 a=>ab (.v .u32 (gq a (min y.n.toNat 32)))
 |.shr,.u64 a=>ab (.v .u64 (ZI a (min y.n.toNat 64)))
 |.shr,.i k a=>ab (.v (.int k) (a.fdiv (2 ^ min y.n.toNat k.bits)))
 |_,_=>ad
theorem ZL5{op:BinOp}{x y:Num}{z:TP}(h:BC op x y=ab z)(yJ:yL aj):Vg op x.k x.n y.n (.raw::yJ)=ab ([0<=y.n],.p z.pe,yJ):=by
 unfold BC at h
 split at h <;> first
  |(cases h;first|exact ZJ3 .. |exact ZHh .. |exact ZHm .. |exact ZJ4 .. |exact ZHi .. |exact ZHn .. |rfl)
  |cases h
mutual
def Ty.flat:Ty->Bool
 |.sl _=>af
 |.str=>af
 |.arr _ t=>Ty.flat t
 |.st c=>Ty.aL c
 |_=>ae
def Ty.aL:yL Ty->Bool
 |[]=>ae
 |t::r=>Ty.flat t&&Ty.aL r
end
mutual
theorem qt:∀(t:Ty)(x y:t.aE),t.flat=ae->t.enc x=t.enc y->x=y
 |.int k,x,y,_,h=>by injection h
 |.u8,x,y,_,h=>by injection h with _ h;exact UInt8.toNat_inj.1 (by omega)
 |.u32,x,y,_,h=>by injection h with _ h;exact UInt32.toNat_inj.1 (by omega)
 |.u64,x,y,_,h=>by injection h with _ h;exact ycz.1 (by omega)
 |.bool,x,y,_,h=>by injection h
 |.str,_,_,c,_=>nomatch c
 |.sl _,_,_,c,_=>nomatch c
 |.arr n t,x,y,c,h=>by
  injection h with _ _ h
  exact SD (λa b e=>qt t a b c e) h
 |.st f,x,y,c,h=>by
  injection h with h;exact fX f x y c h
theorem fX:∀(e:yL Ty)(x y:Ty.aK e),Ty.aL e=ae->Ty.encs e x=Ty.encs e y->x=y
 |[],_,_,_,_=>rfl
 |[t],x,y,f,h=>by
  simp only[Ty.encs,List.cons.injEq,and_true]at h;simp only[Ty.aL,Bool.and_true]at f
  exact qt t x y f h
 |t::u::r,x,y,f,h=>by
  have g:t.enc x.1::Ty.encs (u::r) x.2=t.enc y.1::Ty.encs (u::r) y.2:=h;have c:(t.flat&&Ty.aL (u::r))=ae:=f;rw[yi]at c;injection g with j l;exact Prod.ext (qt t x.1 y.1 c.1 j) (fX (u::r) x.2 y.2 c.2 l)
end
mutual
def Ty.cY:(t:Ty)->DecidableEq t.aE
 |.int _=>inferInstanceAs (DecidableEq Int)
 |.u8=>inferInstanceAs (DecidableEq yB)
 |.u32=>inferInstanceAs (DecidableEq yV)
 |.u64=>inferInstanceAs (DecidableEq yU)
 |.bool=>inferInstanceAs (DecidableEq Bool)
 |.str=>inferInstanceAs (DecidableEq ByteArray)
 |.sl t=>@instDecidableEqList t.aE (Ty.cY t)
 |.arr _ t=>@instDecidableEqList t.aE (Ty.cY t)
 |.st c=>Ty.qu c
def Ty.qu:(c:yL Ty)->DecidableEq (Ty.aK c)
 |[]=>inferInstanceAs (DecidableEq Unit)
 |[t]=>Ty.cY t
 |t::u::r=>@instDecidableEqProd t.aE (Ty.aK (u::r)) (Ty.cY t) (Ty.qu (u::r))
end
mutual
def lr(P:yg):Nat->yb->Ty->Bool
 |0,_,_=>af
 |n+1,t,T=>match P.underlying t,T with
  |some .bool,.bool=>ae
  |some (.int .u8),.u8=>ae
  |some (.int .u32),.u32=>ae
  |some (.int .u64),.u64=>ae
  |some (.int k),.int l=>ag (k=l)
  |some (.array m e),.arr c U=>ag (c=m)&&(ag (P.cellsOf e=U.size)&&(ag (U.size≠0)&&((P.info? e).isSome&&((P.underlying e).isSome&&(ag (Wa P e=U.isAgg)&&lr P n e U)))))
  |some (.struct f),.st Ts=>ag (P.stoodInHeld t=af)&&eN P n f.toList 0 Ts
  |_,_=>af
def eN(P:yg):Nat->yL Field->Nat->yL Ty->Bool
 |0,_,_,_=>af
 |_+1,[],_,[]=>ae
 |n+1,f::c,o,T::Ts=>ag (f.name≠ "_")&&(ag (f.offset=o)&&(ag (P.cellsOf f.type=T.size)&&((P.info? f.type).isSome&&((P.underlying f.type).isSome&&(ag (Wa P f.type=T.isAgg)&&(ag (T.size≠0)&&(lr P n f.type T&&eN P n c (o+T.size) Ts)))))))
 |_+1,_,_,_=>af
end
mutual
theorem qv:∀(n:Nat)(t:yb)(T:Ty),lr P n t T=ae->∀(x:T.aE),aO P n t (T.enc x)
 |0,_,_,h,_=>by simp[lr]at h
 |n+1,t,T,h,x=>by
  simp only[lr]at h;unfold aO;split at h
  .rename_i c;rw[c];trivial
  .rename_i c;rw[c];exact rfl
  .rename_i c;rw[c];exact rfl
  .rename_i c;rw[c];exact rfl
  .rename_i c;rw[c];simp only[yP]at h;exact h.symm
  .rename_i m e I U c;simp only[yi,yP]at h;obtain⟨f,g,j,l,s,A,E⟩:=h;rw[c];refine⟨f,g,j,l,s,λy F=> ?_⟩;obtain⟨z,_,rfl⟩:=ybj.1 F;exact⟨qv n e U E z,oi U z,by rw[ug];exact A⟩
  .rename_i G Ts c;simp only[yi,yP]at h;rw[c];exact⟨h.1,tS (λt x k=>k) _ _ _ (fY n G.toList 0 Ts h.2 x)⟩
  .cases h
theorem fY:∀(n:Nat)(c:yL Field)(o:Nat)(Ts:yL Ty),eN P n c o Ts=ae->∀(x:Ty.aK Ts),gR P (aO P n) c o (Ty.encs Ts x)
 |0,_,_,_,h,_=>by simp[eN]at h
 |n+1,[],_,[],_,_=>trivial
 |n+1,[],_,_::_,h,_=>by simp[eN]at h
 |n+1,_::_,_,[],h,_=>by simp[eN]at h
 |n+1,f::c,o,T::Ts,h,x=>by
  simp only[eN,yi,yP]at h;obtain⟨j,l,m,s,y,z,A,E,F⟩:=h
  have g:∃(a:T.aE)(b:Ty.aK Ts),Ty.encs (T::Ts) x=T.enc a::Ty.encs Ts b:=by
   cases Ts with
   |nil=>exact⟨x,(),rfl⟩
   |cons U r=>exact⟨x.1,x.2,rfl⟩
  obtain⟨a,b,e⟩:=g;rw[e];refine⟨j,l,by rw[oi];exact m,s,y,by rw[ug];exact z,by rw[oi];exact A,tT (qv n f.type T E a), ?_⟩;rw[oi];exact tS (λt x k=>tT k) _ _ _ (fY n c _ Ts F b)
end
end
end Go.Ev
end
section
namespace Go.Ev
section
variable{L:Lk}{P:yg}{o:Oper}{ts:yL TD}{O:Type}
def BD(r:lU):yO Bool:=
 match r with
 |some ([],.p (.bool b),[])=>ab b
 |_=>ad
theorem TH{t:yb}{x y:Dv}{b:Bool}(h:il P t x y []=ab ([],b,[]))(yJ:yL aj):il P t x y yJ=ab ([],b,yJ):=by
 unfold il at h ⊢
 split at h <;> first
  |(simp only[yj,yl,and_true,true_and]at h;subst h;rfl)
  |cases h
  |(split at h <;> first|(rename_i e;cases e)|cases h)
theorem ZFh{op:BinOp}{t:yb}{x y:Dv}{b:Bool}(h:BD (gn P op t x y [])=ab b)(yJ:yL aj):gn P op t x y yJ=ab ([],.p (.bool b),yJ):=by
 have c:gn P op t x y []=ab ([],.p (.bool b),[]):=by
  unfold BD at h;split at h
  .rename_i e;cases h;exact e
  .cases h
 clear h;unfold gn at c ⊢;split at c
 .split at c
  .cases op <;> simp[Vg]at c
  .split at c
   .rename_i k a z A _ j;simp only[j,if_true];rename_i hs;simp only[hs,if_false];cases op <;> simp only[Xn,fS,yj,yl,Dv.p.injEq,Pl.bool.injEq,and_true,true_and,reduceCtorEq]at c ⊢ <;> first|exact c|skip
    all_goals first|(cases c;done)|(cases c;simp;done)|(simp[sU]at c;done)
   .cases c
 .cases op <;> simp only[yj,yl,Dv.p.injEq,Pl.bool.injEq,and_true,true_and,reduceCtorEq]at c ⊢ <;> exact c
 .rename_i E F;cases op <;> first|cases c|skip
  .obtain⟨q,g,f⟩:=Zd c;simp only[yl,Dv.p.injEq,Pl.bool.injEq]at f;obtain⟨l,m,s⟩:=q;obtain⟨rfl,rfl,rfl⟩:=f;simp only[TH g yJ,yz]
  .obtain⟨q,g,f⟩:=Zd c;simp only[yl,Dv.p.injEq,Pl.bool.injEq]at f;obtain⟨l,m,s⟩:=q;obtain⟨rfl,rfl,rfl⟩:=f;simp only[TH g yJ,yz]
def TD.val:TD->yO (Σ t:Ty,t.aE)
 |.p (.v t x)=>ab ⟨t,x⟩
 |_=>ad
theorem BE{x:TD}{q:Σ t:Ty,t.aE}(h:x.val=ab q):x.er L=.p (q.1.enc q.2):=by
 unfold TD.val at h;split at h
 .cases h;rfl
 .cases h
def BF(P:yg)(t:yb):Bool:=
 match P.underlying t with
 |some (.array _ _)=>ae
 |some (.struct _)=>ae
 |_=>af
def BG(P:yg)(op:BinOp)(t:yb)(x y:TD)(K:TD->yL aj->yO O):yO O:=
 match x.val,y.val with
 |some a,ab b=>(Ty.cast b.1 a.1 b.2).bind λz=>
  if BF P t&&(a.1.isAgg&&(a.1.flat&&(lr P 20 t a.1&&ag (P.eqGuardType P.depth t=af)))) then
   match op with
   |.eql=>K (.p (.v .bool (@decide (a.2=z) (Ty.cY a.1 a.2 z)))) [.b (@decide (a.2=z) (Ty.cY a.1 a.2 z))]
   |.neq=>K (.p (.v .bool (!(@decide (a.2=z) (Ty.cY a.1 a.2 z))))) [.b (@decide (a.2=z) (Ty.cY a.1 a.2 z))]
   |_=>ad
  else ad
 |_,_=>ad
theorem qw{t:yb}{a:Σ t:Ty,t.aE}{z:a.1.aE}(h1:BF P t=ae)(h2:a.1.isAgg=ae)(h3:a.1.flat=ae)(h4:lr P 20 t a.1=ae)(h5:P.eqGuardType P.depth t=af)(yJ:yL aj):
 ∃C,aY C/\il P t (.p (a.1.enc a.2)) (.p (a.1.enc z)) (.b (@decide (a.2=z) (Ty.cY a.1 a.2 z))::yJ)=ab (C,@decide (a.2=z) (Ty.cY a.1 a.2 z),yJ)/\C=[aO P 20 t (a.1.enc a.2),aO P 20 t (a.1.enc z),(@decide (a.2=z) (Ty.cY a.1 a.2 z)=ae↔a.1.enc a.2=a.1.enc z)]:=by
 have f1:=qv 20 t a.1 h4 a.2;have f2:=qv 20 t a.1 h4 z
 have f3:(@decide (a.2=z) (Ty.cY a.1 a.2 z)=ae↔a.1.enc a.2=a.1.enc z):=by
  rw[@decide_eq_true_iff _ (Ty.cY a.1 a.2 z)];exact⟨λe=>by rw[e],λe=>qt a.1 _ _ h3 e⟩
 refine⟨[aO P 20 t (a.1.enc a.2),aO P 20 t (a.1.enc z),(@decide (a.2=z) (Ty.cY a.1 a.2 z)=ae↔a.1.enc a.2=a.1.enc z)],⟨f1,f2,f3,aw⟩, ?_,rfl⟩;generalize @decide (a.2=z) (Ty.cY a.1 a.2 z)=β at f3;generalize a.1.enc a.2=p at f1 f3 ⊢;generalize a.1.enc z=q at f2 f3 ⊢;clear f3;unfold BF at h1;unfold aO at f1 f2;unfold il;split at h1
 .rename_i m e c;rw[c]at f1 f2 ⊢;cases p <;> first|exact f1.elim|skip
  cases q <;> first|exact f2.elim|skip
  dsimp only;rw[yW h5]
 .rename_i m c;rw[c]at f1 f2 ⊢;cases p <;> first|exact f1.elim|skip
  cases q <;> first|exact f2.elim|skip
  dsimp only;rw[yW h5]
 .cases h1
theorem TI{t:yb}{x y:Pl}(hx:x.isAgg=ae)(op:BinOp)(hs:yL aj)(h:op=.eql\/op=.neq):gn P op t (.p x) (.p y) hs=(il P t (.p x) (.p y) hs).map λr=>(r.1,.p (.bool (if op=.eql then r.2.1 else !r.2.1)),r.2.2):=by
 cases x <;> first|cases hx|skip
 all_goals (unfold gn;rcases h with rfl|rfl <;> rfl)
theorem ZHo{op:BinOp}{t:yb}{x y:TD}{K:TD->yL aj->yO O}{out:O}(h:BG P op t x y K=ab out):∃d hs C,K d hs=ab out/\aY C/\∀yJ,gn P op t (x.er L) (y.er L) (hs++yJ)=ab (C,d.er L,yJ):=by
 unfold BG at h;split at h
 .rename_i a b A I;obtain⟨z,M,h⟩:=yf.1 h;obtain⟨E,h⟩:=Za h;simp only[yi,yP]at E;obtain⟨f,c,g,j,l⟩:=E
  have F:y.er L=.p (a.1.enc z):=by
   obtain⟨e,rfl⟩:=Qz M;rw[BE I];cases a;cases b;cases e;rfl
  have G:(a.1.enc a.2).isAgg=ae:=by rw[ug];exact c
  split at h
  .obtain⟨C,m,s,_⟩:=qw (P:=P) (z:=z) f c g j l [];refine⟨_,_,[aO P 20 t (a.1.enc a.2),aO P 20 t (a.1.enc z),(@decide (a.2=z) (Ty.cY a.1 a.2 z)=ae↔a.1.enc a.2=a.1.enc z)],h, ?_,λyJ=> ?_⟩
   .obtain⟨C,m,_,rfl⟩:=qw (P:=P) (z:=z) f c g j l [];exact m
   .obtain⟨C,_,s,rfl⟩:=qw (P:=P) (z:=z) f c g j l yJ;rw[BE A,F,TI G _ _ (.inl rfl),yaa,yw,s];rfl
  .refine⟨_,_,[aO P 20 t (a.1.enc a.2),aO P 20 t (a.1.enc z),(@decide (a.2=z) (Ty.cY a.1 a.2 z)=ae↔a.1.enc a.2=a.1.enc z)],h, ?_,λyJ=> ?_⟩
   .obtain⟨C,m,_,rfl⟩:=qw (P:=P) (z:=z) f c g j l [];exact m
   .obtain⟨C,_,s,rfl⟩:=qw (P:=P) (z:=z) f c g j l yJ;rw[BE A,F,TI G _ _ (.inr rfl),yaa,yw,s];rfl
  .cases h
 .cases h
def BH(L:Lk)(x y:TD):yO Bool:=
 match y with
 |.p (.sl (ab af) _ [])=>match x.row L with
  |some ⟨ad,_,l⟩=>ab l.isEmpty
  |_=>ad
 |_=>ad
theorem ZKa{x y:TD}{b:Bool}(h:BH L x y=ab b):∃s xs c,(x.er L=.p (.sl ad s xs)\/∃id,x.er L=.own id ad s xs)/\y.er L=.p (.sl (ab af) c [])/\xs.isEmpty=b:=by
 unfold BH at h;split at h
 .split at h
  .rename_i T q t l e;cases h;refine⟨t.size,l.map t.enc,T.size, ?_,rfl,by cases l <;> rfl⟩;rcases lm e with h|⟨id,h⟩
   .exact .inl h
   .exact .inr ⟨id,h⟩
  .cases h
 .cases h
def TJ(P:yg)(op:BinOp)(t:yb)(b:Bool)(K:TD->yL aj->yO O):yO O:=
 match P.underlying t with
 |some (.slice _)=>if b=ae then ad else match op with
  |.eql=>K (.p (.v .bool af)) [.bare]
  |.neq=>K (.p (.v .bool ae)) [.bare]
  |_=>ad
 |_=>ad
def BI(L:Lk)(P:yg)(op:BinOp)(t:yb)(x y:TD)(K:TD->yL aj->yO O):yO O:=
 match x.num,y.num with
 |some a,ab b=>if xq op then(BC op a b).bind λz=>if BB b=ae then K (.p z) [.raw] else ad else BA op a b K
 |_,_=>match BD (gn P op t (x.er L) (y.er L) []) with
  |some b=>K (.p (.v .bool b)) []
  |none=>match BH L x y with
   |some b=>TJ P op t b K
   |none=>BG P op t x y K
theorem ZFi{op:BinOp}{t:yb}{x y:TD}{K:TD->yL aj->yO O}{out:O}(h:BI L P op t x y K=ab out):∃d hs C,K d hs=ab out/\aY C/\∀yJ,gn P op t (x.er L) (y.er L) (hs++yJ)=ab (C,d.er L,yJ):=by
 unfold BI at h;split at h
 .rename_i a b G j;rw[V9 G,V9 j];split at h
  .rename_i f;obtain⟨z,c,h⟩:=yf.1 h;obtain⟨g,h⟩:=Za h;refine⟨_,_,[0<=b.n],h,⟨ZB8 g,aw⟩,λyJ=> ?_⟩;unfold gn;dsimp only;rw[yW f];exact ZL5 c yJ
  .rename_i f;obtain⟨I,d,hs,C,c,g,m⟩:=ZzS h;refine⟨d,hs,C,c,g,λyJ=> ?_⟩;unfold gn;dsimp only;rw[yX f,yW I];exact m yJ
 .split at h
  .rename_i b j;exact⟨_,_,[],h,zZ,ZFh j⟩
  .split at h
   .rename_i b j;obtain⟨s,A,M,c,g,m⟩:=ZKa j;unfold TJ at h;split at h
    .rename_i e F;split at h
     .cases h
     .rename_i E;have l:A≠[]:=by rintro rfl;exact E (by rw[<-m];rfl)
      split at h
      .refine⟨_,_,[A≠[]],h,⟨l,aw⟩,λyJ=> ?_⟩;unfold gn;rcases c with c|⟨id,c⟩ <;> (rw[c,g];dsimp only;unfold il;rw[F];rfl)
      .refine⟨_,_,[A≠[]],h,⟨l,aw⟩,λyJ=> ?_⟩;unfold gn;rcases c with c|⟨id,c⟩ <;> (rw[c,g];dsimp only;unfold il;rw[F];rfl)
      .cases h
    .cases h
   .exact ZHo h
def BJ(k:IntKind):Num->yO TP
 |.u8 b=>match k with
  |.u8=>ab (.v .u8 b)
  |.u32=>ab (.v .u32 (yby b.toNat))
  |.u64=>ab (.v .u64 (yai b.toNat))
  |.i64=>ab (.v (.int .i64) (b.toNat:Int))
  |_=>ad
 |.u32 b=>match k with
  |.u32=>ab (.v .u32 b)
  |.u64=>ab (.v .u64 (yai b.toNat))
  |.i64=>ab (.v (.int .i64) (b.toNat:Int))
  |_=>ad
 |.u64 b=>match k with
  |.u64=>ab (.v .u64 b)
  |_=>ad
 |.i _ _=>ad
theorem ZB9{k:IntKind}{a:Num}{z:TP}(h:BJ k a=ab z):V3 k a.n/\z.pe=.int k a.n:=by
 unfold BJ at h;split at h
 .rename_i b;have:=b.toNat_lt;split at h <;> first|cases h|skip
  all_goals
   refine⟨?_, ?_⟩
   .simp only[V3,IntKind.min,IntKind.max,IntKind.signed,IntKind.bits,Num.n];constructor <;> simp<;> omega
   .simp only[TP.pe,Ty.enc,Num.n,yct,yaz]
    try (congr 2;omega)
 .rename_i b;have:=b.toNat_lt;split at h <;> first|cases h|skip
  all_goals
   refine⟨?_, ?_⟩
   .simp only[V3,IntKind.min,IntKind.max,IntKind.signed,IntKind.bits,Num.n];constructor <;> simp<;> omega
   .simp only[TP.pe,Ty.enc,Num.n,yct,yaz]
    try (congr 2;omega)
 .rename_i b;have:=b.toNat_lt;split at h <;> first|cases h|skip
  refine⟨?_,rfl⟩;simp only[V3,IntKind.min,IntKind.max,IntKind.signed,IntKind.bits,Num.n];constructor <;> simp<;> omega
 .cases h
def bytesOf(l:yL yB):ByteArray:=⟨l.toArray⟩
theorem ZzU(l:yL yB):l.map (Ty.enc .u8)=(bytesOf l).data.toList.map λx=>.int .u8 (x.toNat:Int):=rfl
def TK(P:yg)(e:yb)(K:TD->yL aj->yO O)(r:Row):yO O:=
 (Ty.be r.t .u8 r.l).bind λl=>match P.underlying e with
   |some (.int .u8)=>K (.p (.v .str (bytesOf l))) [.el (.str (bytesOf l))]
   |_=>ad
def BK:TD->yO ByteArray
 |.p (.v t s)=>match t with
  |.str=>ab s
  |_=>ad
 |_=>ad
theorem ZKb{L:Lk}{x:TD}{b:ByteArray}(h:BK x=ab b):x.er L=.p (.str b):=by
 unfold BK at h;split at h
 .split at h
  .cases h;rfl
  .cases h
 .cases h
def BL(L:Lk)(P:yg)(src dst:yb)(K:TD->yL aj->yO O)(x:TD):yO O:=
 match P.underlying src,P.underlying dst with
 |some _,ab (.int k)=>x.num.bind λa=>match BJ k a with
  |some z=>K (.p z) [.bare]
  |none=>K (.p (ua k a.n)) [.raw]
 |some (.slice e),ab .string=>(x.row L).bind (TK P e K)
 |some .string,ab (.slice e)=>(BK x).bind λb=>match P.underlying e with
  |some (.int .u8)=>if ag (b.size<=maxLen)=ae then K (.p (.sl (ab ae) .u8 b.data.toList)) [] else ad
  |_=>ad
 |_,_=>ad
theorem ZCa{src dst:yb}{x:yo}{K:TD->yL aj->yO O}{E:TD}{out:O}(ho:o.op=.convert src dst x)(hx:aS P ts src x=ab E)(h:BL L P src dst K E=ab out):∃d hs,K d hs=ab out/\cX L P o ts d hs:=by
 have g:=Zk (L:=L) hx;unfold BL at h;split at h
 .rename_i q k c f;obtain⟨a,m,h⟩:=yf.1 h;rw[V9 m]at g;split at h
  .rename_i z G;obtain⟨I,M⟩:=ZB9 G;refine⟨_,_,h,[V3 k a.n],⟨I,aw⟩,λt=> ?_⟩;unfold aU;rw[ho];dsimp only;rw[c,f,g,TD.er,M];rfl
  .refine⟨_,_,h,[],zZ,λt=> ?_⟩;unfold aU;rw[ho];dsimp only;rw[c,f,g,TD.er,SQ];rfl
 .rename_i e c f;obtain⟨r,m,h⟩:=yf.1 h;unfold TK at h;obtain⟨l,j,y⟩:=yf.1 h;split at y
  .rename_i s;obtain⟨nn,Q,S⟩:=r;obtain⟨F,j⟩:=ZB j;dsimp only at F j;subst F;subst j;refine⟨_,_,y,[l.map (Ty.enc .u8)=(bytesOf l).data.toList.map λx=>.int .u8 (x.toNat:Int)],⟨ZzU l,aw⟩,λt=> ?_⟩;unfold aU;rw[ho];dsimp only;rcases lm m with A|⟨id,A⟩
   .rw[c,f,g,A];dsimp only;rw[yaa,yw,s];dsimp only;rw[yW (show Ty.u8.size=1 from rfl)]
    rfl
   .rw[c,f,g,A];dsimp only;rw[yaa,yw,s];dsimp only;rw[yW (show Ty.u8.size=1 from rfl)]
    rfl
  .cases y
 .rename_i e c f;obtain⟨b,m,h⟩:=yf.1 h;split at h
  .rename_i s;obtain⟨j,h⟩:=Za h;refine⟨_,_,h,[b.size<=maxLen],⟨yF j,aw⟩,λt=> ?_⟩;unfold aU;rw[ho];dsimp only;rw[c,f,g,ZKb m];dsimp only;rw[s];rfl
  .cases h
 .cases h
def qx(P:yg)(ts:yL TD)(f:Nat->yb):yL (Nat×yo)->yO (yL (Nat×TD))
 |[]=>ab []
 |q::r=>match aS P ts (f q.1) q.2,qx P ts f r with
  |some d,ab l=>ab ((q.1,d)::l)
  |_,_=>ad
theorem ul{f:Nat->yb}:∀{parts:yL (Nat×yo)}{l:yL (Nat×TD)},qx P ts f parts=ab l->go P (TD.au L ts) f parts=l.map λq=>(q.1,q.2.er L)
 |[],l,h=>by cases h;rfl
 |q::r,l,h=>by
  simp only[qx]at h;split at h
  .rename_i d g c e;cases h;have:=ul e;simp only[go,yaf]at this ⊢;rw[this,Zk c]
  .cases h
def qy(L:Lk):yL TD->yL (Nat×TD)->yO (yL TD)
 |c,[]=>ab c
 |c,(i,d)::r=>match c[i]? with
  |some e=>if(e.er L).size=(d.er L).size then qy L (c.set i d) r else ad
  |none=>ad
theorem BM:∀{l:yL (Nat×TD)}{c es:yL TD},qy L c l=ab es->gS (TD.au L c) (l.map λq=>(q.1,q.2.er L))=ab (TD.au L es)
 |[],c,es,h=>by cases h;rfl
 |(i,d)::r,c,es,h=>by
  simp only[qy]at h;split at h
  .rename_i e f;split at h
   .rename_i g;have:=BM h;simp only[yaf,gS,sW];rw[QH f];dsimp only;rw[yW g];rw[show(TD.au L c).set i (d.er L)=TD.au L (c.set i d) by rw[ZC,ZC,ybl]];exact this
   .cases h
  .cases h
def qz(P:yg):yL yb->yL Pl->yO (yL TP)
 |[],[]=>ab []
 |t::r,z::q=>match ud P t z,qz P r q with
  |some a,ab b=>ab (a::b)
  |_,_=>ad
 |_,_=>ad
theorem BN:∀{l:yL yb}{zs:yL Pl}{r:yL TP},qz P l zs=ab r->TP.bQ r=zs
 |[],[],r,h=>by cases h;rfl
 |[],_::_,r,h=>by cases h
 |_::_,[],r,h=>by cases h
 |t::l,z::zs,r,h=>by
  simp only[qz]at h;split at h
  .rename_i a b c e;cases h;rw[TP.bQ,AG c,BN e]
  .cases h
def lu(L:Lk):yL TD->yO (yL TP)
 |[]=>ab []
 |d::r=>match d.plain L,lu L r with
  |some a,ab b=>ab (a::b)
  |_,_=>ad
theorem TL{x:TD}(h:x.plain L=ad):(x.er L).plain=ad:=by
 cases x <;> first|rfl|cases h
theorem BO:∀(c:yL TD),iI (TD.au L c)=(lu L c).map TP.bQ
 |[]=>rfl
 |d::r=>by
  simp only[TD.au,iI,lu];rw[BO r]
  cases h:d.plain L with
  |none=>rw[TL h];cases lu L r <;> rfl
  |some a=>
   rw[SV h];cases lu L r <;> rfl
def BP(L:Lk)(P:yg)(t:yb)(c:yL TD):TD:=
 match lu L c with
 |some l=>.p (ub P t l)
 |none=>.agg c
theorem ZFj(t:yb)(c:yL TD):(BP L P t c).er L=pB (TD.au L c):=by
 unfold BP pB;rw[BO]
 cases lu L c with
 |none=>rfl
 |some l=>simp only[TD.er,SR,yz]
theorem BQ(l:yL TP):TD.au L (l.map .p)=(TP.bQ l).map .p:=by
 rw[ZC,VI,ybc,ybc];rfl
def BR(L:Lk)(P:yg)(ts:yL TD)(t:yb)(parts:yL (Nat×yo))(K:TD->yL aj->yO O):yO O:=
 match P.underlying t,YI P t with
 |some (.struct g),.p (.agg zs)=>(qz P (g.toList.map (·.type)) zs).bind λh=>(qx P ts (kU P t) parts).bind λc=>
  if(kT (c.map λq=>(q.1,q.2.er L))&&g.size==zs.length&&(List.range zs.length).all λi=>kS P g i (Pl.sizes (zs.take i)) ((zs.getD i default).size) ((zs.getD i default).isAgg))=ae then
   (qy L (h.map .p) c).bind λf=>K (BP L P t f) [] else ad
 |some (.array _ e),.p (.arr n s zs)=>(qz P (yab zs.length e) zs).bind λh=>(qx P ts (kU P t) parts).bind λc=>
  if(kT (c.map λq=>(q.1,q.2.er L))&&P.cellsOf e=s&&(P.info? e).isSome)=ae then
   (qy L (h.map .p) c).bind λf=>match lu L f with
     |some l=>K (.p (uc P t n s l)) []
     |none=>K (.arr n s f) [] else ad
 |_,_=>ad
theorem ZzV{t:yb}{parts:Array (Nat×yo)}{K:TD->yL aj->yO O}{out:O}(ho:o.op=.build t parts)(h:BR L P ts t parts.toList K=ab out):∃d hs,K d hs=ab out/\cX L P o ts d hs:=by
 unfold BR at h;split at h
 .rename_i M zs c f;obtain⟨G,x,h⟩:=yf.1 h;obtain⟨I,g,h⟩:=yf.1 h;obtain⟨j,h⟩:=Za h;obtain⟨A,y,h⟩:=yf.1 h;refine⟨_,_,h,[],zZ,λE=> ?_⟩;simp only[yw];unfold aU;rw[ho];dsimp only;rw[c,f];dsimp only;rw[ul g,yW j];have:=BM y;rw[BQ,BN x]at this;rw[this,ZFj];rfl
 .rename_i m e n s zs c f;obtain⟨G,x,h⟩:=yf.1 h;obtain⟨I,g,h⟩:=yf.1 h;obtain⟨j,h⟩:=Za h;obtain⟨A,y,h⟩:=yf.1 h;have:=BM y;rw[BQ,BN x]at this;have F:=BO (L:=L) A;split at h
  .rename_i l z;refine⟨_,_,h,[],zZ,λE=> ?_⟩;simp only[yw];unfold aU;rw[ho];dsimp only;rw[c,f];dsimp only;rw[ul g,yW j,this,Option.bind_some,F,z,TD.er,SS];rfl
  .rename_i z;refine⟨_,_,h,[],zZ,λE=> ?_⟩;simp only[yw];unfold aU;rw[ho];dsimp only;rw[c,f];dsimp only;rw[ul g,yW j,this,Option.bind_some,F,z];rfl
 .cases h
def um(L:Lk)(P:yg)(ts:yL TD)(e:yb)(T:Ty):yL (Nat×yo)->yO (yL T.aE)
 |[]=>ab []
 |q::r=>match (aS P ts e q.2).bind (TD.flat L) with
  |some x=>if x.pe.size=P.cellsOf e then jA (TP.to gZ x T) (um L P ts e T r) |>.map λp=>p.1::p.2 else ad
  |none=>ad
theorem TM{e:yb}{T:Ty}:∀{parts:yL (Nat×yo)}{l:yL T.aE},um L P ts e T parts=ab l->
 ∃xs,Dv.aL (parts.map λq=>Zo P (TD.au L ts) e q.2)=ab xs/\xs.all (λx=>x.size==P.cellsOf e)=ae/\xs.map Pl.soft=l.map T.enc
 |[],l,h=>by cases h;exact⟨[],rfl,rfl,rfl⟩
 |q::r,l,h=>by
  simp only[um]at h;split at h
  .rename_i x c;obtain⟨d,f,g⟩:=yf.1 c;split at h
   .rename_i hs;obtain⟨p,j,rfl⟩:=Zd h;obtain⟨m,s⟩:=QY j;obtain⟨xs,t,y,z⟩:=TM s;refine⟨x.pe::xs, ?_, ?_, ?_⟩
    .simp only[yaf,Dv.aL];rw[Zk f,qq g,t]
    .simp only[List.all_cons,yi,yT];exact⟨hs,y⟩
    .rw[yaf,jB x T _ m,z,yaf]
   .cases h
  .cases h
def mN(L:Lk)(P:yg)(ts:yL TD)(t:yb)(len:Nat)(parts:yL (Nat×yo))(K:(T:Ty)->yL T.aE->yb->yO O):yO O:=
 match P.underlying t with
 |some (.slice e)=>(eZ P fJ e).bind λT=>(P.info? e).bind λi=>(um L P ts e T parts).bind λl=>
  if(parts.map (·.1)==List.range len)&&(bP i&&i.size !=0&&ag (len*i.size<=16777216))&&(ag (i.size=T.size)&&ag (P.cellsOf e=i.size)) then K T l e else ad
 |_=>ad
theorem qA{t:yb}{len:Nat}{parts:yL (Nat×yo)}{K:(T:Ty)->yL T.aE->yb->yO O}{out:O}(h:mN L P ts t len parts K=ab out):
 ∃e T l i xs,K T l e=ab out/\P.underlying t=ab (.slice e)/\P.info? e=ab i/\Wx P (TD.au L ts) e (P.cellsOf e) len parts=ab xs/\(bP i&&i.size !=0&&ag (len*i.size<=16777216))=ae/\i.size=T.size/\xs.map Pl.soft=l.map T.enc:=by
 unfold mN at h;split at h
 .rename_i e f;obtain⟨T,y,h⟩:=yf.1 h;obtain⟨i,g,h⟩:=yf.1 h;obtain⟨l,j,h⟩:=yf.1 h;obtain⟨c,h⟩:=Za h;simp only[yi,yP]at c;obtain⟨xs,m,s,x⟩:=TM j;refine⟨e,T,l,i,xs,h,f,g, ?_, ?_,c.2.1,x⟩
  .unfold Wx;rw[yW c.1.1,m];dsimp only;rw[yW s]
  .simp only[yi,yP];exact c.1.2
 .cases h
def BS(L:Lk)(P:yg)(t:yb)(K:TD->yL aj->yO O)(x:TD):yO O:=
 match P.underlying t with
 |some (.slice _)=>match x with
  |.view _ _ _ _ n=>K (.p (.v (.int .i64) (n:Int))) []
  |.rv _ _ _ _ n=>K (.p (.v (.int .i64) (n:Int))) []
  |x=>(x.row L).bind λr=>K (.p (.v (.int .i64) (r.l.length:Int))) []
 |some (.array n _)=>K (.p (.v (.int .i64) (n:Int))) []
 |some .string=>match x with
  |.p x=>x.ku.bind λs=>K (.p (.v (.int .i64) (s.size:Int))) []
  |_=>ad
 |_=>ad
theorem ZFk{t:yb}{x:yo}{c:Call}{K:TD->yL aj->yO O}{y:TD}{out:O}(ho:o.op=.call c)(hc:c.callee=.builtin .len)(ha:c.args.toList=[x])(ht:c.argTypes.toList=[t])
 (hx:aS P ts t x=ab y) (h:BS L P t K y=ab out):∃d hs,K d hs=ab out/\cX L P o ts d hs:=by
 have g:=Zk (L:=L) hx;unfold BS at h;split at h
 .rename_i e f;split at h
  .refine⟨_,_,h,[],zZ,λj=> ?_⟩;simp only[yw];unfold aU;rw[ho];dsimp only;rw[hc];dsimp only;rw[ha,ht];dsimp only;rw[f,g];rfl
  .refine⟨_,_,h,[],zZ,λj=> ?_⟩;simp only[yw];unfold aU;rw[ho];dsimp only;rw[hc];dsimp only;rw[ha,ht];dsimp only;rw[f,g];rfl
  .obtain⟨r,l,h⟩:=yf.1 h;refine⟨_,_,h,[],zZ,λj=> ?_⟩;simp only[yw];unfold aU;rw[ho];dsimp only;rw[hc];dsimp only;rw[ha,ht];dsimp only;rcases lm l with m|⟨id,m⟩
   .rw[f,g,m];dsimp only;rw[yx];rfl
   .rw[f,g,m];dsimp only;rw[yx];rfl
 .rename_i n e f;refine⟨_,_,h,[],zZ,λj=> ?_⟩;simp only[yw];unfold aU;rw[ho];dsimp only;rw[hc];dsimp only;rw[ha,ht];dsimp only;rw[f];rfl
 .rename_i f;split at h
  .obtain⟨s,l,h⟩:=yf.1 h;refine⟨_,_,h,[],zZ,λj=> ?_⟩;simp only[yw];unfold aU;rw[ho];dsimp only;rw[hc];dsimp only;rw[ha,ht];dsimp only;rw[f,g,TD.er,SZ l];rfl
  .cases h
 .cases h
def kv(L:Lk)(P:yg)(T:Ty)(u:yb)(x:TD):yO (yL T.aE):=
 match P.underlying u with
 |some (.slice _)=>(x.row L).bind λr=>Ty.be r.t T r.l
 |some .string=>match x,T with
  |.p (.v .str s),.u8=>ab (fD s)
  |_,_=>ad
 |_=>ad
theorem mO{T:Ty}{u:yb}{x:TD}{l:yL T.aE}(h:kv L P T u x=ab l):gG P T.size u (x.er L)=ab (l.map T.enc):=by
 unfold kv at h;split at h
 .rename_i e c;obtain⟨r,g,h⟩:=yf.1 h;obtain⟨e,j⟩:=ZB h;obtain⟨nn,t,m⟩:=r;dsimp only at e j g;subst e;subst j;unfold gG;rcases lm g with f|⟨id,f⟩
  .rw[c,f];dsimp only;rw[yW (.inl rfl)]
  .rw[c,f];dsimp only;rw[yW rfl]
 .rename_i c;split at h
  .rename_i s;cases h;unfold gG;rw[c];rfl
  .cases h
 .cases h
def TD.boolT:TD->yO Bool
 |.p x=>x.gJ
 |_=>ad
theorem oq{x:TD}{b:Bool}(h:x.boolT=ab b):x.er L=.p (.bool b):=by
 unfold TD.boolT at h;split at h
 .rw[TD.er,ZHc h]
 .cases h
def TD.inner:TD->yO TP
 |.p x=>ab x
 |_=>ad
theorem Xo{x:TD}{y:TP}(h:x.inner=ab y):x=.p y:=by
 unfold TD.inner at h;split at h
 .cases h;rfl
 .cases h
def BT(L:Lk)(P:yg)(t:yb)(i:Int)(K:TD->yL aj->yO O)(a:TD):yO O:=
 match a with
 |.arr c s f=>match P.underlying t with
  |some (.array n e)=>(f[i.toNat]?).bind λd=>if ag (0<=i)&&ag (n=c)&&okB P e s&&(Wa P e==(d.er L).isAgg)&&((P.underlying e).isSome&&s !=0) then K d [] else ad
  |_=>ad
 |a=>a.inner.bind (AK P t i K)
theorem ZzW{t:yb}{x ix:yo}{K:TD->yL aj->yO O}{c:TD}{q:IntKind×Int}{f:TP}{out:O}(ho:o.op=.index t x ix)(hx:aS P ts t x=ab c)(hi:aS P ts 0 ix=ab (.p f))(hq:iv f=ab q)
 (h:BT L P t q.2 K c=ab out):∃d hs,K d hs=ab out/\cX L P o ts d hs:=by
 unfold BT at h;split at h
 .rename_i S s T;split at h
  .rename_i n e l;obtain⟨d,m,h⟩:=yf.1 h;obtain⟨g,h⟩:=Za h;have y:=Zk (L:=L) hx;have j:=Zk (L:=L) hi;rw[TD.er,(om hq).1]at j;simp only[okB,yi,yP]at g;obtain⟨⟨⟨⟨z,A⟩,E,F⟩,G⟩,I,M⟩:=g;refine⟨d,[],h,[0<=q.2],⟨z,aw⟩,λU=> ?_⟩;unfold aU;rw[ho];dsimp only;rw[l,y,j,TD.er];dsimp only;rw[QH m];dsimp only;rw[yW (by simp only[yi,yP];exact⟨⟨⟨⟨⟨A,E⟩,G⟩,I⟩,F⟩,M⟩)];rfl
  .cases h
 .obtain⟨W,Q,h⟩:=yf.1 h;rw[Xo Q]at hx;exact ZzQ ho hx hi hq h
def qB(P:yg)(ts:yL TD):yL yo->yO (yL TD)
 |[]=>ab []
 |x::r=>match aS P ts 0 x,qB P ts r with
  |some a,ab b=>ab (a::b)
  |_,_=>ad
theorem BU:∀{l:yL yo}{c:yL TD},qB P ts l=ab c->l.map (Zo P (TD.au L ts) 0)=TD.au L c
 |[],c,h=>by cases h;rfl
 |x::l,c,h=>by
  simp only[qB]at h;split at h
  .rename_i a b e f;cases h;rw[yaf,Zk e,BU f];rfl
  .cases h
def TN(P:yg)(t:yb)(K:TD->yL aj->yO O):TD->yO O
 |.elem x=>if ag (P.cellsOf t=x.pe.size)&&(Wa P t==x.pe.isAgg&&((P.underlying t).isSome&&(P.info? t).isSome)) then K (.p x) [] else ad
 |_=>ad
def TO(L:Lk)(P:yg)(ts:yL TD)(t u:yb)(x y:yo)(K:TD->yL aj->yO O):yO O:=
 match P.underlying t,aS P ts t x with
 |some (.slice e),ab (.p (.sl (ab af) _ []))=>(P.info? e).bind λi=>(eZ P fJ e).bind λT=>(aS P ts u y).bind λc=>(kv L P T u c).bind λl=>
  if(bP i&&i.size !=0)&&(ag (P.cellsOf e=T.size)&&ag (i.size=T.size)) then if kq l.length i.bytes=ae then K (.p (.sl ad T l)) [.gP] else ad else ad
 |_,_=>ad
def BV(P:yg)(t:yb)(l h m:yO Int)(K:TD->yL aj->yO O):TD->yO O
 |.rv _ _ _ _ n=>match P.underlying t with
  |some (.slice e)=>l.bind λl=>h.bind λh=>m.bind λm=>if(P.info? e).isSome=ae then if(ag (0<=l)&&ag (l<=h)&&ag (h<=m)&&ag (m<=(n:Int)))=ae then K .an [] else ad else ad
  |_=>ad
 |_=>ad
theorem Zxk{t:yb}{x g:yo}{lo hi:yO yo}{l j m:yO Int}{K:TD->yL aj->yO O}{y:TD}{out:O}(ho:o.op=.slice t x lo hi (ab g))(hx:aS P ts t x=ab y)(hl:ez P ts lo=ab l)(f:ez P ts hi=ab j)(hm:ez P ts (ab g)=ab m)
 (h:BV P t l j m K y=ab out):∃d hs,K d hs=ab out/\cX L P o ts d hs:=by
 have F:=Zk (L:=L) hx;have hl:=hJ (L:=L) hl;have f:=hJ (L:=L) f;have hm:=hJ (L:=L) hm;unfold BV at h;split at h
 .rename_i id v s T n;split at h
  .rename_i e G;obtain⟨z,I,h⟩:=yf.1 h;obtain⟨A,M,h⟩:=yf.1 h;obtain⟨E,Q,h⟩:=yf.1 h;subst I;subst M;subst Q;obtain⟨S,h⟩:=Za h;obtain⟨c,h⟩:=Za h;simp only[yi,yP]at c;refine⟨_,_,h,[0<=z,z<=A,A<=E,E<=(n:Int)],⟨c.1.1.1,c.1.1.2,c.1.2,c.2,aw⟩,λU=> ?_⟩;simp only[yw];unfold aU;rw[ho];dsimp only;rw[G,F,hl,f,hm];dsimp only[TD.er];rw[yW S]
  .cases h
 .cases h
def BW(P:yg)(t:yb)(K:TD->yL aj->yO O)(r:Row):yO O:=
 match P.underlying t with
 |some (.array n e)=>if(n !=0)=ae then if ag (n<=r.l.length)=ae then K (.elem (.v (.arr n r.t) (r.l.take n))) [] else ad else ad
 |_=>ad
theorem Zxm{t:yb}{x:yo}{K:TD->yL aj->yO O}{g:TD}{r:Row}{out:O}(ho:o.op=.sliceToArrayPointer t x)(hx:aS P ts 0 x=ab g)(y:g.row L=ab r)
 (h:BW P t K r=ab out):∃d hs,K d hs=ab out/\cX L P o ts d hs:=by
 have j:=Zk (L:=L) hx;unfold BW at h;split at h
 .rename_i n e m;obtain⟨s,h⟩:=Za h;obtain⟨c,h⟩:=Za h;have c:=yF c;refine⟨_,_,h,[n<=(r.l.map r.t.enc).length],⟨by rw[yx];exact c,aw⟩,λz=> ?_⟩;simp only[yw];unfold aU;rw[ho];dsimp only;rcases lm y with f|⟨id,f⟩
  .rw[m,j,f];dsimp only;rw[yW s, <-ycd];rfl
  .rw[m,j,f];dsimp only;rw[yW s, <-ycd];rfl
 .cases h
abbrev _root_.aGO:=yL yB
def BX(L:Lk)(x:TD):yO aGO:=(x.row L).bind λr=>Ty.be r.t .u8 r.l
def TQ(L:Lk)(K:TD->yL aj->yO O)(a b:TD):yO O:=(BX L a).bind λl=>(BX L b).bind λm=>K (.p (.v (.int .i64) (Go.Lib.compareBytes l m))) [.el (.str (bytesOf l)),.el (.str (bytesOf m))]
theorem TS{L:Lk}{x:TD}{l:yL yB}(h:BX L x=ab l):∃nn,(x.er L).bI []=.p (.sl nn 1 (gu (bytesOf l))):=by
 obtain⟨r,g,c⟩:=yf.1 h;obtain⟨nn,j,m⟩:=r;obtain⟨f,c⟩:=ZB c;dsimp only at f c;subst f;subst c;rcases lm g with e|⟨id,e⟩
 .rw[e];exact⟨_,rfl⟩
 .rw[e];exact⟨_,rfl⟩
def BY:Num->yO TP
 |.u8 b=>ab (.v .u8 (255^^^b))
 |.u32 b=>ab (.v .u32 (4294967295^^^b))
 |.u64 b=>ab (.v .u64 (18446744073709551615^^^b))
 |.i _ _=>ad
theorem ZKd{a:Num}{z:TP}(h:BY a=ab z):a.k.signed=af/\z.pe=.int a.k (bits .xor a.k a.k.max a.n):=by
 unfold BY at h;split at h
 .rename_i b;cases h;exact⟨rfl,congrArg (Pl.int .u8) (TB .xor 255 b).symm⟩
 .rename_i b;cases h;exact⟨rfl,congrArg (Pl.int .u32) (TE .xor 4294967295 b).symm⟩
 .rename_i b;cases h;exact⟨rfl,congrArg (Pl.int .u64) (TG .xor 18446744073709551615 b).symm⟩
 .cases h
def BZ(L:Lk)(P:yg)(o:Oper)(ts:yL TD)(K:TD->yL aj->yO O):yO O:=
 match o.op with
 |.move x=>(aS P ts o.type x).bind λd=>K d [.raw]
 |.assign x=>(aS P ts o.type x).bind λd=>K d [.raw]
 |.pick c a b=>((aS P ts 0 c).bind TD.boolT).bind λt=>(aS P ts o.type a).bind λA=>(aS P ts o.type b).bind λE=>if t=ae then K A [.b ae] else K E [.b af]
 |.nilCheck x=>match aS P ts 0 x with
  |some (.am id p)=>K (.am id p) []
  |some (.elem y)=>K (.elem y) []
  |some (.aW id v p)=>K (.aW id v p) []
  |some (.rp id p)=>K (.rp id p) []
  |some (.fn f c)=>K (.fn f c) []
  |_=>ad
 |.binOp F t x y G=>(aS P ts t x).bind λa=>(aS P ts G y).bind λb=>BI L P F t a b K
 |.unOp .not _ x=>((aS P ts 0 x).bind TD.boolT).bind λt=>K (.p (.v .bool (!t))) []
 |.unOp .neg _ x=>((aS P ts 0 x).bind TD.num).bind λa=>K (.p (ua a.k (0 - a.n))) [.raw]
 |.unOp .xor _ x=>((aS P ts 0 x).bind TD.num).bind λa=>(BY a).bind λz=>K (.p z) []
 |.convert src dst x=>(aS P ts src x).bind (BL L P src dst K)
 |.makeFunc (.func f) first captured=>if(first.isEmpty&&ag (f < big))=ae then(qB P ts captured.toList).bind λe=>K (.fn f e) [] else if captured.isEmpty=ae then(qB P ts first.toList).bind λe=>K (.fn (f+big) e) [] else ad
 |.makeInterface t x=>match P.underlying t with
  |some (.interface _)=>ad
  |some _=>(aS P ts t x).bind λd=>K (.iface t d) []
  |none=>ad
 |.field t x i=>(aS P ts t x).bind (AH L P t i K)
 |.fieldAddr t x i=>(aS P ts 0 x).bind (AI P t i K)
 |.indexAddr t x ix=>(aS P ts t x).bind λa=>(aS P ts 0 ix).bind λb=>b.inner.bind λj=>(iv j).bind λq=>AJ L P t q.2 K a
 |.index t x ix=>(aS P ts t x).bind λa=>(aS P ts 0 ix).bind λb=>b.inner.bind λj=>(iv j).bind λq=>BT L P t q.2 K a
 |.slice t x lo s ad=>(aS P ts t x).bind λa=>(ez P ts lo).bind λl=>(ez P ts s).bind λh=>AL L P t l h K a
 |.slice t x lo s (ab I)=>(aS P ts t x).bind λa=>(ez P ts lo).bind λl=>(ez P ts s).bind λh=>(ez P ts (ab I)).bind λm=>BV P t l h m K a
 |.sliceToArrayPointer t x=>(aS P ts 0 x).bind λa=>(a.row L).bind (BW P t K)
 |.extract x i=>match aS P ts 0 x with
  |some (.bf e)=>(e[i]?).bind λd=>K d []
  |_=>ad
 |.load t x=>(aS P ts 0 x).bind (TN P t K)
 |.build t parts=>BR L P ts t parts.toList K
 |.buildSlice t len parts=>mN L P ts t len parts.toList λT l _=>K (.p (.sl (ab ae) T l)) [.gP]
 |.call c=>match c.callee with
  |.builtin .len=>match c.args.toList,c.argTypes.toList with
   |[x],[t]=>(aS P ts t x).bind (BS L P t K)
   |_,_=>ad
  |.builtin .max=>match c.args.toList,c.argTypes.toList with
   |[x,y],[t,u]=>((aS P ts t x).bind TD.num).bind λa=>((aS P ts u y).bind TD.num).bind λb=>if(ag (a.k=.i64)&&ag (b.k=.i64))=ae then K (.p (.v (.int .i64) (ZN8 a.n b.n))) [] else ad
   |_,_=>ad
  |.builtin .min=>match c.args.toList,c.argTypes.toList with
   |[x,y],[t,u]=>((aS P ts t x).bind TD.num).bind λa=>((aS P ts u y).bind TD.num).bind λb=>if(ag (a.k=.i64)&&ag (b.k=.i64))=ae then K (.p (.v (.int .i64) (ZN9 a.n b.n))) [] else ad
   |_,_=>ad
  |.builtin .append=>match c.args.toList,c.argTypes.toList with
   |[x,y],[t,u]=>TO L P ts t u x y K
   |_,_=>ad
  |.value f=>match aS P ts 0 f with
   |some (.fn g [])=>if(lW P g&&c.args.size==c.argTypes.size)=ae then match c.args.toList,c.argTypes.toList with
     |[x,y],[t,u]=>(aS P ts t x).bind λa=>(aS P ts u y).bind λb=>TQ L K a b
     |_,_=>ad
    else ad
   |_=>ad
  |_=>ad
 |_=>ad
theorem ZHs{K:TD->yL aj->yO O}{out:O}(h:BZ L P o ts K=ab out):∃d hs,K d hs=ab out/\cX L P o ts d hs:=by
 unfold BZ at h;split at h
 .rename_i x s;obtain⟨d,j,h⟩:=yf.1 h;refine⟨_,_,h,[],zZ,λE=> ?_⟩;unfold aU;rw[s];dsimp only;rw[Zk j];rfl
 .rename_i x s;obtain⟨d,j,h⟩:=yf.1 h;refine⟨_,_,h,[],zZ,λE=> ?_⟩;unfold aU;rw[s];dsimp only;rw[Zk j];rfl
 .rename_i c a b s;obtain⟨t,j,h⟩:=yf.1 h;obtain⟨cd,U,j⟩:=yf.1 j;obtain⟨da,A,h⟩:=yf.1 h;obtain⟨db,F,h⟩:=yf.1 h;split at h
  .rename_i G;refine⟨_,_,h,[t=ae],⟨G,aw⟩,λE=> ?_⟩;unfold aU;rw[s];dsimp only;rw[Zk U,oq j,Zk A];rfl
  .rename_i G;refine⟨_,_,h,[t=af],⟨by simpa using G,aw⟩,λE=> ?_⟩;unfold aU;rw[s];dsimp only;rw[Zk U,oq j,Zk F];rfl
 .rename_i x s;split at h
  all_goals first|cases h;done|skip
  all_goals
   rename_i W;refine⟨_,_,h,[],zZ,λE=> ?_⟩;simp only[yw];unfold aU;rw[s];dsimp only;rw[Zk W];rfl
 .rename_i op t x y yt s;obtain⟨a,j,h⟩:=yf.1 h;obtain⟨b,A,h⟩:=yf.1 h;obtain⟨d,hs,C,F,M,I⟩:=ZFi h;refine⟨d,hs,F,C,M,λE=> ?_⟩;unfold aU;rw[s];dsimp only;rw[Zk j,Zk A];exact I E
 .rename_i t x s;obtain⟨b,j,h⟩:=yf.1 h;obtain⟨xd,U,j⟩:=yf.1 j;refine⟨_,_,h,[],zZ,λE=> ?_⟩;simp only[yw];unfold aU;rw[s];dsimp only;rw[Zk U,oq j];rfl
 .rename_i t x s;obtain⟨a,j,h⟩:=yf.1 h;obtain⟨xd,U,j⟩:=yf.1 j;refine⟨_,_,h,[],zZ,λE=> ?_⟩;unfold aU;rw[s];dsimp only;rw[Zk U,V9 j,TD.er,SQ];rfl
 .rename_i t x s;obtain⟨a,j,h⟩:=yf.1 h;obtain⟨xd,U,j⟩:=yf.1 j;obtain⟨z,A,h⟩:=yf.1 h;obtain⟨e1,e2⟩:=ZKd A;refine⟨_,_,h,[],zZ,λE=> ?_⟩;unfold aU;rw[s];dsimp only;rw[Zk U,V9 j,TD.er,e2];dsimp only;rw[e1];rfl
 .rename_i src dst x s;obtain⟨a,j,h⟩:=yf.1 h;exact ZCa s j h
 .rename_i f first captured s
  split at h
  .rename_i Y;obtain⟨ds,j,h⟩:=yf.1 h;refine⟨_,_,h,[],zZ,λE=> ?_⟩;simp only[yw];unfold aU;rw[s];dsimp only;rw[yW Y,BU j];rfl
  .rename_i Y;split at h
   .rename_i hf2;obtain⟨ds,j,h⟩:=yf.1 h;refine⟨_,_,h,[],zZ,λE=> ?_⟩;simp only[yw];unfold aU;rw[s];dsimp only;rw[yX Y,yW hf2,BU j];rfl
   .cases h
 .rename_i t x s;split at h
  .cases h
  .rename_i u Z hne;obtain⟨d,j,h⟩:=yf.1 h;refine⟨_,_,h,[],zZ,λE=> ?_⟩;simp only[yw];unfold aU;rw[s];dsimp only;rw[Zk j,hne];split
   .rename_i ms hh;exact absurd (ybp hh) (Z ms)
   .rfl
   .rename_i hh;cases hh
  .cases h
 .rename_i t x i s;obtain⟨a,j,h⟩:=yf.1 h;obtain⟨d,A,F⟩:=SX h;refine⟨_,_,A,[],zZ,λE=> ?_⟩;simp only[yw];unfold aU;rw[s];dsimp only;rw[Zk j,F];rfl
 .rename_i t x i s;obtain⟨a,j,h⟩:=yf.1 h;exact Zre s j h
 .rename_i t x ix s;obtain⟨a,j,h⟩:=yf.1 h;obtain⟨b,A,h⟩:=yf.1 h;obtain⟨ip,F,h⟩:=yf.1 h;obtain⟨q,M,h⟩:=yf.1 h;rw[Xo F]at A;exact Zrf (id:=.an) s j A M h
 .rename_i t x ix s;obtain⟨a,j,h⟩:=yf.1 h;obtain⟨b,A,h⟩:=yf.1 h;obtain⟨ip,F,h⟩:=yf.1 h;obtain⟨q,M,h⟩:=yf.1 h;rw[Xo F]at A;exact ZzW s j A M h
 .rename_i t x lo hi s;obtain⟨a,j,h⟩:=yf.1 h;obtain⟨l,A,h⟩:=yf.1 h;obtain⟨r,F,h⟩:=yf.1 h;exact ZzR s j A F h
 .rename_i t x lo hi mx s;obtain⟨a,j,h⟩:=yf.1 h;obtain⟨l,A,h⟩:=yf.1 h;obtain⟨r,F,h⟩:=yf.1 h;obtain⟨m,M,h⟩:=yf.1 h;exact Zxk s j A F M h
 .rename_i t x s;obtain⟨a,j,h⟩:=yf.1 h;obtain⟨r,A,h⟩:=yf.1 h;exact Zxm s j A h
 .rename_i x i s;split at h
  .rename_i ds W;obtain⟨d,j,h⟩:=yf.1 h;refine⟨_,_,h,[],zZ,λE=> ?_⟩;simp only[yw];unfold aU;rw[s];dsimp only;rw[Zk W];dsimp only[TD.er];rw[QH j];rfl
  .cases h
 .rename_i t x s;obtain⟨a,j,h⟩:=yf.1 h;unfold TN at h;split at h
  .obtain⟨A,h⟩:=Za h;refine⟨_,_,h,[],zZ,λE=> ?_⟩;simp only[yw];unfold aU;rw[s];dsimp only;rw[Zk j];dsimp only[TD.er];rw[yW (by simpa[and_assoc] using A)]
  .cases h
 .rename_i t parts s;exact ZzV s h
 .rename_i t len parts s;obtain⟨e,T,l,i,xs,j,Z,hi,hl,hz,hs,W⟩:=qA h;refine⟨_,_,j,[],zZ,λE=> ?_⟩;unfold aU;rw[s];dsimp only;rw[yaa,yw];dsimp only;rw[Z];dsimp only;rw[hi,hl];dsimp only;rw[yW (by simpa using hz),W,hs];rfl
 .rename_i c s;split at h
  .rename_i Q;split at h
   .rename_i x t S G;obtain⟨a,j,h⟩:=yf.1 h;exact ZFk s Q S G j h
   .cases h
  .rename_i Q;split at h
   .rename_i x y t u S G;obtain⟨m,j,h⟩:=yf.1 h;obtain⟨n,A,h⟩:=yf.1 h;obtain⟨xd,g1,g2⟩:=yf.1 j;obtain⟨yd,g3,g4⟩:=yf.1 A;obtain⟨I,h⟩:=Za h;simp only[yi,yP]at I;refine⟨_,_,h,[],zZ,λE=> ?_⟩;simp only[yw];unfold aU;rw[s];dsimp only;rw[Q];dsimp only;rw[S,G];dsimp only;rw[Zk g1,Zk g3,V9 g2,V9 g4,I.1,I.2];rfl
   .cases h
  .rename_i Q;split at h
   .rename_i x y t u S G;obtain⟨m,j,h⟩:=yf.1 h;obtain⟨n,A,h⟩:=yf.1 h;obtain⟨xd,g1,g2⟩:=yf.1 j;obtain⟨yd,g3,g4⟩:=yf.1 A;obtain⟨I,h⟩:=Za h;simp only[yi,yP]at I;refine⟨_,_,h,[],zZ,λE=> ?_⟩;simp only[yw];unfold aU;rw[s];dsimp only;rw[Q];dsimp only;rw[S,G];dsimp only;rw[Zk g1,Zk g3,V9 g2,V9 g4,I.1,I.2];rfl
   .cases h
  .rename_i Q;split at h
   .rename_i x y t u S G;unfold TO at h;split at h
    .rename_i e T0 Z W;obtain⟨i,j,h⟩:=yf.1 h;obtain⟨T,A,h⟩:=yf.1 h;obtain⟨yd,F,h⟩:=yf.1 h;obtain⟨l,M,h⟩:=yf.1 h;obtain⟨I,h⟩:=Za h;obtain⟨h6,h⟩:=Za h;simp only[yi,yP]at I;obtain⟨g1,g2⟩:=jC h6;refine⟨_,_,h,[(l.map T.enc).length*i.bytes<=Zn,(l.map T.enc).length<=maxLen],⟨by rw[yx];exact g1,by rw[yx];exact g2,aw⟩,λE=> ?_⟩;unfold aU;rw[s];dsimp only;rw[Q];dsimp only;rw[S,G,yaa,yw];dsimp only;rw[Z,Zk W,Zk F,show(TD.p (TP.sl (ab af) T0 [])).er L=Dv.p (.sl (ab af) T0.size []) from rfl]
     dsimp only;rw[j,I.2.1,mO M];dsimp only;rw[yW (by simpa using I.1)];rfl
    .cases h
   .cases h
  .rename_i f Q;split at h
   .rename_i g Y;obtain⟨hk,h⟩:=Za h;split at h
    .rename_i x y t u S G;obtain⟨a,j,h⟩:=yf.1 h;obtain⟨b,A,h⟩:=yf.1 h;unfold TQ at h;obtain⟨l,F,h⟩:=yf.1 h;obtain⟨m,M,h⟩:=yf.1 h;obtain⟨n1,e1⟩:=TS F;obtain⟨n2,e2⟩:=TS M;refine⟨_,_,h,[gu (bytesOf l)=gu (bytesOf l),gu (bytesOf m)=gu (bytesOf m)],⟨rfl,rfl,aw⟩,λE=> ?_⟩
     have hg:g < big:=by
      rw[yi]at hk;have X:=hk.1;unfold lW at X;rw[yi,yP]at X;exact X.1
     have e3:ZZ P [] (TD.au L ts) c g []=[.p (.sl n1 1 (gu (bytesOf l))),.p (.sl n2 1 (gu (bytesOf m)))]:=by
      unfold ZZ;rw[yW hg,S,G];simp only[List.zip_cons_cons,List.zip_nil_right,yaf,List.map_nil,List.append_nil];rw[Zk j,Zk A,e1,e2]
     unfold aU;rw[s];dsimp only;rw[Q];dsimp only;rw[Zk Y,yaa,yaa,yw,show TD.er L (.fn g [])=Dv.fn g [] from rfl]
     dsimp only;rw[yW hk,e3];dsimp only;rw[yW ⟨rfl,rfl⟩];rfl
    .cases h
   .cases h
  .cases h
 .cases h
end
end Go.Ev
end
section
namespace Go.Ev
mutual
theorem qC{L M:Lk}(h:∀id t,Yb L id t ad=Yb M id t ad):∀(d:TD),d.er L=d.er M
 |.p _=>rfl
 |.elem _=>rfl
 |.am _ _=>rfl
 |.own id nn t c=>by
  cases c with
  |none=>rw[TD.er,TD.er,h]
  |some _=>rfl
 |.view _ _ _ _ _=>rfl
 |.agg e=>by rw[TD.er,TD.er,cb h e]
 |.arr _ _ e=>by rw[TD.er,TD.er,cb h e]
 |.fn _ e=>by rw[TD.er,TD.er,cb h e]
 |.iface _ x=>by rw[TD.er,TD.er,qC h x]
 |.bf e=>by rw[TD.er,TD.er,cb h e]
 |.mp _=>rfl
 |.cz _=>rfl
 |.cC _ _ _ _=>rfl
 |.pm _ _=>rfl
 |.rv _ _ _ _ _=>rfl
 |.aW _ _ _=>rfl
 |.rw _=>by simp only[TD.er,dO,h]
 |.rp _ _=>by simp only[TD.er,dO,h]
 |.an=>rfl
theorem cb{L M:Lk}(h:∀id t,Yb L id t ad=Yb M id t ad):∀(c:yL TD),TD.au L c=TD.au M c
 |[]=>rfl
 |x::r=>by rw[TD.au,TD.au,qC h x,cb h r]
end
theorem ZHt{L M:Lk}(h:∀id t,Yb L id t ad=Yb M id t ad)(e:ah):e.er L=e.er M:=by
 cases e with
 |var d st=>rw[ah.er,ah.er,qC h]
 |row v s st e d=>rw[ah.er,ah.er,qC h]
 |bz t j v st e f g c=>rw[ah.er,ah.er,qC h]
 |_=>rfl
mutual
def TD.free(n:Nat):TD->Bool
 |.own id _ _ c=>c.isSome || id !=n
 |.rw id=>id !=n
 |.rp id _=>id !=n
 |.agg e=>TD.frees n e
 |.arr _ _ e=>TD.frees n e
 |.fn _ e=>TD.frees n e
 |.iface _ x=>TD.free n x
 |.bf e=>TD.frees n e
 |_=>ae
def TD.frees(n:Nat):yL TD->Bool
 |[]=>ae
 |x::r=>TD.free n x&&TD.frees n r
end
def ah.free(n:Nat):ah->Bool
 |.var d _=>d.free n
 |.row _ _ _ _ d=>d.free n
 |.bz _ _ _ _ _ _ d _=>d.free n
 |_=>ae
mutual
theorem iO{L M:Lk}{n:Nat}(h:∀id t,id≠n->Yb L id t ad=Yb M id t ad):∀(d:TD),d.free n=ae->d.er L=d.er M
 |.p _,_=>rfl
 |.elem _,_=>rfl
 |.am _ _,_=>rfl
 |.own id nn t c,e=>by
  cases c with
  |none=>
   have:id≠n:=by simpa[TD.free] using e
   rw[TD.er,TD.er,h id t this]
  |some _=>rfl
 |.view _ _ _ _ _,_=>rfl
 |.agg f,e=>by rw[TD.er,TD.er,cr h f e]
 |.arr _ _ f,e=>by rw[TD.er,TD.er,cr h f e]
 |.fn _ f,e=>by rw[TD.er,TD.er,cr h f e]
 |.iface _ x,e=>by rw[TD.er,TD.er,iO h x e]
 |.bf f,e=>by rw[TD.er,TD.er,cr h f e]
 |.mp _,_=>rfl
 |.cz _,_=>rfl
 |.cC _ _ _ _,_=>rfl
 |.pm _ _,_=>rfl
 |.rv _ _ _ _ _,_=>rfl
 |.aW _ _ _,_=>rfl
 |.rw id,e=>by
  have:id≠n:=by simpa[TD.free] using e
  simp only[TD.er,dO,h id _ this]
 |.rp id _,e=>by
  have:id≠n:=by simpa[TD.free] using e
  simp only[TD.er,dO,h id _ this]
 |.an,_=>rfl
theorem cr{L M:Lk}{n:Nat}(h:∀id t,id≠n->Yb L id t ad=Yb M id t ad):∀(c:yL TD),TD.frees n c=ae->TD.au L c=TD.au M c
 |[],_=>rfl
 |x::r,e=>by
  simp only[TD.frees,yi]at e;rw[TD.au,TD.au,iO h x e.1,cr h r e.2]
end
mutual
def TD.stale(L:Lk)(n:Nat):TD->TD
 |.own id nn t c=>if id=n then .own id nn t (ab (Yb L id t c)) else .own id nn t c
 |.agg g=>.agg (TD.bT L n g)
 |.arr m s g=>.arr m s (TD.bT L n g)
 |.fn f g=>.fn f (TD.bT L n g)
 |.iface t x=>.iface t (TD.stale L n x)
 |.bf g=>.bf (TD.bT L n g)
 |.p x=>.p x
 |.elem x=>.elem x
 |.am id e=>.am id e
 |.view id e s lo n=>.view id e s lo n
 |.mp id=>.mp id
 |.cz id=>.cz id
 |.cC id v h z=>.cC id v h z
 |.pm id v=>.pm id v
 |.rv id v s lo n=>.rv id v s lo n
 |.aW id v e=>.aW id v e
 |.rw id=>if id=n then .rv id (dO L id 0) (dO L id 1) 0 (dO L id 2) else .rw id
 |.rp id e=>if id=n then .aW id (dO L id 0) e else .rp id e
 |.an=>.an
def TD.bT(L:Lk)(n:Nat):yL TD->yL TD
 |[]=>[]
 |x::r=>TD.stale L n x::TD.bT L n r
end
def ah.stale(L:Lk)(n:Nat):ah->ah
 |.var d st=>.var (d.stale L n) st
 |.row v s st e d=>.row v s st e (d.stale L n)
 |.bz t g v st e f d c=>.bz t g v st e f (d.stale L n) c
 |e=>e
mutual
theorem qD{L M:Lk}{n:Nat}(h:∀id t,id≠n->Yb L id t ad=Yb M id t ad):∀(d:TD),(d.stale L n).er M=d.er L
 |.p _=>rfl
 |.elem _=>rfl
 |.am _ _=>rfl
 |.own id nn t c=>by
  rw[TD.stale];split
  .rfl
  .rename_i f
   cases c with
   |none=>rw[TD.er,TD.er,h id t f]
   |some _=>rfl
 |.view _ _ _ _ _=>rfl
 |.agg e=>by rw[TD.stale,TD.er,TD.er,bE h e]
 |.arr _ _ e=>by rw[TD.stale,TD.er,TD.er,bE h e]
 |.fn _ e=>by rw[TD.stale,TD.er,TD.er,bE h e]
 |.iface _ x=>by rw[TD.stale,TD.er,TD.er,qD h x]
 |.bf e=>by rw[TD.stale,TD.er,TD.er,bE h e]
 |.mp _=>rfl
 |.cz _=>rfl
 |.cC _ _ _ _=>rfl
 |.pm _ _=>rfl
 |.rv _ _ _ _ _=>rfl
 |.aW _ _ _=>rfl
 |.rw id=>by
  rw[TD.stale];split
  .rfl
  .rename_i f
   simp only[TD.er,dO,h id _ f]
 |.rp id _=>by
  rw[TD.stale];split
  .rfl
  .rename_i f
   simp only[TD.er,dO,h id _ f]
 |.an=>rfl
theorem bE{L M:Lk}{n:Nat}(h:∀id t,id≠n->Yb L id t ad=Yb M id t ad):∀(c:yL TD),TD.au M (TD.bT L n c)=TD.au L c
 |[]=>rfl
 |x::r=>by rw[TD.bT,TD.au,TD.au,qD h x,bE h r]
end
theorem ot{L M:Lk}{n:Nat}(h:∀id t,id≠n->Yb L id t ad=Yb M id t ad)(e:ah):(e.stale L n).er M=e.er L:=by
 cases e with
 |var d st=>rw[ah.stale,ah.er,ah.er,qD h]
 |row v s st e d=>rw[ah.stale,ah.er,ah.er,qD h]
 |bz t g v st e f d c=>rw[ah.stale,ah.er,ah.er,qD h]
 |_=>rfl
def ah.eO:ah->Bool
 |.log _ _ _=>ae
 |.aF _ _ _ _ _=>ae
 |.aJ _ _ _ _ _ _ _=>ae
 |.bz _ _ _ _ _ _ _ _=>ae
 |_=>af
theorem CA{e:ah}(h:e.eO=af):dc (ab e)=ad:=by
 cases e <;> first|rfl|cases h
theorem hP{H:yL ah}{e:ah}(h:e.eO=af):lk (H++[e])=lk H:=by
 funext id;unfold lk;rcases Nat.lt_trichotomy id H.length with hl|hl|hl
 .rw[yaj hl]
 .subst hl;rw[List.getElem?_concat_length,CA h,yat (ym _)];rfl
 .rw[yat (by simp;omega),yat (by omega)]
theorem Wc{H:yL ah}{id:Nat}{e x:ah}(hx:H[id]? =ab x)(h1:x.eO=af)(h2:e.eO=af):lk (H.set id e)=lk H:=by
 funext j;unfold lk;by_cases c:id=j
 .subst c;rw[ai hx,hx,CA h1,CA h2]
 .rw[al c]
theorem Q0{H:yL ah}{e:ah}(h:lk (H++[e])=lk H):aA (H++[e])=aA H++[e.er (lk H)]:=by
 unfold aA;rw[h,yaq];rfl
theorem YA{H:yL ah}{id:Nat}{e:ah}(h:lk (H.set id e)=lk H):aA (H.set id e)=(aA H).set id (e.er (lk H)):=by
 unfold aA;rw[h,ybl]
theorem uo{H:yL ah}{T:Ty}{e:yb}(id:Nat)(t:Ty):Yb (lk H) id t ad=Yb (lk (H++[.log T e []])) id t ad:=by
 unfold Yb lk;dsimp only;rcases Nat.lt_trichotomy id H.length with hl|hl|hl
 .rw[yaj hl]
 .subst hl;rw[List.getElem?_concat_length,yat (ym _)];show[]=(Ty.be T t []).getD []
  cases h:Ty.be T t [] with
  |none=>rfl
  |some y=>
   obtain⟨e,c⟩:=ZB h;subst e;subst c;rfl
 .rw[yat (by omega),yat (by simp;omega)]
theorem CB{H:yL ah}{T:Ty}{e:yb}:aA (H++[.log T e []])=aA H++[.log T.size e []]:=by
 unfold aA;rw[yaq];congr 1;exact ycj λx _=>(ZHt (λid t=>uo id t) x).symm
theorem kz{H:yL ah}{e:ah}(id:Nat)(t:Ty)(h:id≠H.length):Yb (lk H) id t ad=Yb (lk (H++[e])) id t ad:=by
 unfold Yb lk;dsimp only;rcases Nat.lt_or_gt_of_ne h with hl|hl
 .rw[yaj hl]
 .rw[yat (by omega),yat (by simp;omega)]
theorem TT{H:yL ah}{T:Ty}{e:yb}{l:yL T.aE}(h:H.all (ah.free H.length)=ae):aA (H++[.log T e l])=aA H++[.log T.size e (l.map T.enc)]:=by
 unfold aA;rw[yaq];congr 1;refine ycj λx f=> ?_
 cases x with
 |var d st=>
  rw[ah.er,ah.er];congr 1
  exact(iO (λid t c=>kz id t c) d (ybn.1 h _ f)).symm
 |row v s st e d=>
  rw[ah.er,ah.er];congr 1
  exact(iO (λid t c=>kz id t c) d (ybn.1 h _ f)).symm
 |bz t m v st e j d g=>
  rw[ah.er,ah.er,iO (λid t c=>kz id t c) d (ybn.1 h _ f)]
 |_=>rfl
theorem Ve{H:yL ah}{n:Nat}{e:ah}(L:Lk)(id:Nat)(t:Ty)(h:id≠n):Yb (lk H) id t ad=Yb (lk ((H.map (ah.stale L n)).set n e)) id t ad:=by
 have c:lk ((H.map (ah.stale L n)).set n e) id=lk H id:=by
  unfold lk;rw[al (Ne.symm h),yah]
  cases H[id]? with
  |none=>rfl
  |some x=>cases x <;> rfl
 unfold Yb;rw[c]
theorem ZHu{H:yL ah}{n:Nat}{T:Ty}{e:yb}{l:yL T.aE}:aA ((H.map (ah.stale (lk H) n)).set n (.log T e l))=(aA H).set n (.log T.size e (l.map T.enc)):=by
 unfold aA;rw[ybl,ybc];congr 1;refine ycj λx f=> ?_;exact ot (λid t c=>Ve (lk H) id t c) x
def TP.TU:TP->yO (Σ t:Ty,t.aE)
 |.v t x=>ab ⟨t,x⟩
 |_=>ad
def TP.mP:TP->Nat->TP->yO TP
 |.v (.st c) x,i,z=>match z.TU with
  |some q=>(Ty.upd c x i q.1 q.2).map (.v (.st c))
  |none=>ab (.agg ((Ty.dZ c x).set i z))
 |.agg l,i,z=>ab (.agg (l.set i z))
 |_,_,_=>ad
theorem ZKe{x y z:TP}{i:Nat}(h:x.mP i z=ab y):∀xs,x.pe=.agg xs->y.pe=.agg (xs.set i z.pe):=by
 cases x with
 |v u a=>
  cases u with
  |st f=>
   intro xs e;have c:Pl.agg (Ty.encs f a)=.agg xs:=e;injection c with c;subst c;simp only[TP.mP]at h;split at h
   .rename_i q g;obtain⟨j,m,rfl⟩:=Zd h
    have s:z=.v q.1 q.2:=by
     unfold TP.TU at g;split at g
     .cases g;rfl
     .cases g
    show Pl.agg (Ty.encs f j)=_;rw[SL f a i q.1 q.2 j m,s];rfl
   .cases h;show Pl.agg (TP.bQ ((Ty.dZ f a).set i z))=_;rw[VI,ybl, <-VI]
    exact congrArg (λl=>Pl.agg (l.set i z.pe)) (tW f a)
  |_=>cases h
 |agg l=>
  intro xs e;cases h;rw[TP.pe]at e;injection e with e;subst e
  rw[TP.pe,VI,VI,ybl]
 |_=>cases h
def TW(x:Pl)(i o:Nat):Bool:=
 match x with
 |.agg c=>o==Pl.sizes (c.take i)
 |_=>af
def TX(x:TP)(i:Nat):TD->yO TD
 |.p y=>(x.mP i y).map .p
 |d=>x.parts.map λl=>.agg ((l.map .p).set i d)
def CC(a:mL)(i:Nat):TD->yO TD
 |.p z=>(TP.to gZ z a.t).map λc=>.p (.v (.arr a.n a.t) (a.l.set i c))
 |d=>ab (.arr a.n a.t.size ((a.l.map λy=>TD.p (.v a.t y)).set i d))
theorem qE{L:Lk}(l:yL TP):TD.au L (l.map .p)=(TP.bQ l).map .p:=by
 rw[ZC,VI,ybc,ybc];rfl
def TY(n s:Nat)(xs:yL TP)(i:Nat):TD->yO TD
 |.p _=>ad
 |d=>ab (.arr n s ((xs.map .p).set i d))
abbrev Kg(O:Type):=TD->yL aj->(TD->yO TD)->yO O
def ei{O:Type}(L:Lk):yL bN->TD->Kg O->yO O
 |[],d,K=>K d [] ab
 |.fC i o::r,.p x,K=>(x.fC i).bind λz=>if TW x.pe i o=ae then ei L r (.p z) λsub hs c=>K sub hs λe=>(c e).bind λd=>TX x i d else ad
 |.ix i s::r,.p (.arr n g h),K=>(h[i]?).bind λz=>if s=g then ei L r (.p z) λsub hs c=>K sub (.el z.pe::hs) λe=>(c e).bind λd=>TY n g h i d else ad
 |.ix i s::r,.p x,K=>x.dk.bind λa=>if s=a.t.size then(a.l[i]?).bind λy=>ei L r (.p (.v a.t y)) λsub hs c=>K sub (.el (a.t.enc y)::hs) λe=>
   (c e).bind λd=>CC a i d else ad
 |.fC i o::r,.agg f,K=>(f[i]?).bind λz=>if o=Dv.sizes ((TD.au L f).take i) then ei L r z λsub hs c=>K sub hs λe=>(c e).map λy=>.agg (f.set i y) else ad
 |.ix i s::r,.arr n g f,K=>(f[i]?).bind λz=>if s=g then ei L r z λsub hs c=>K sub hs λe=>(c e).map λy=>.arr n g (f.set i y) else ad
 |_,_,_=>ad
def dF:yL bN->Nat
 |[]=>0
 |q::r=>q.o+dF r
theorem Ws(l:yL bN):WW l=dF l:=by
 have:∀(l:yL bN)(n:Nat),l.foldl (λn q=>n+q.o) n=n+dF l:=by
  intro l
  induction l with
  |nil=>intro n;rfl
  |cons q r c=>intro n;rw[List.foldl_cons,c,dF];omega
 rw[WW,this];omega
theorem X2{O:Type}{L:Lk}:∀(yM:yL bN)(d:TD)(K:Kg O)(out:O),ei L yM d K=ab out->
 ∃sub hs f C,K sub hs f=ab out/\aY C/\(∀yJ,Ym (d.er L) (yM.map bN.i) (hs++yJ)=ab (C,dF yM,sub.er L,yJ))/\
  ∀new d',f new=ab d'->∀yJ,WU (new.er L) (d.er L) (yM.map bN.i) (hs++yJ)=ab (d'.er L)
 |[],d,K,out,h=>⟨d,[],ab,[],h,zZ,λ_=>rfl,λnew d' h _=>by cases h;rfl⟩
 |q::r,d,K,out,h=>by
  cases q with
  |fC i o=>
   cases d with
   |p x=>
    simp only[ei]at h;obtain⟨z,j,h⟩:=yf.1 h;obtain⟨m,h⟩:=Za h;obtain⟨sub,hs,f,C,A,E,F,G⟩:=X2 r (.p z) _ out h;obtain⟨g,S,Y⟩:=SU j
    have h3:o=Pl.sizes (g.take i):=by
     unfold TW at m;rw[S]at m;simpa using m
    refine⟨sub,hs,_,C,A,E,λyJ=> ?_,λnew d' c yJ=> ?_⟩
    .rw[TD.er,S];show Ym (.p (.agg g)) (i::r.map bN.i) (hs++yJ)=_;unfold Ym;rw[Y];dsimp only;have:=F yJ;rw[TD.er]at this;rw[this,yz,dF,h3];rfl
    .obtain⟨d1,I,c⟩:=yf.1 c;have:=G new d1 I yJ;unfold TX at c;rw[TD.er]at this;rw[TD.er,S];show WU (new.er L) (.p (.agg g)) (i::r.map bN.i) (hs++yJ)=_;unfold WU;rw[Y];dsimp only;rw[this];split at c
     .obtain⟨x',T,rfl⟩:=Zd c;rw[TD.er,TD.er,ZKe T g S]
     .rename_i Q;obtain⟨l,T,rfl⟩:=Zd c
      have e3:TP.bQ l=g:=by
       have:=zR T;rw[S]at this;injection this with this;exact this.symm
      rw[TD.er,ZC,ybl, <-ZC,qE,e3]
      cases d1 <;> first|rfl|exact absurd rfl (Q _)
   |agg U=>
    simp only[ei]at h;obtain⟨z,j,h⟩:=yf.1 h;split at h
    .rename_i m;obtain⟨sub,hs,f,C,A,E,F,G⟩:=X2 r z _ out h;refine⟨sub,hs,_,C,A,E,λyJ=> ?_,λnew d' c yJ=> ?_⟩
     .rw[TD.er];show Ym (.agg (TD.au L U)) (i::r.map bN.i) (hs++yJ)=_;unfold Ym;rw[QH j];dsimp only;rw[F yJ,yz,dF,m];rfl
     .obtain⟨y,I,rfl⟩:=Zd c;rw[TD.er];show WU (new.er L) (.agg (TD.au L U)) (i::r.map bN.i) (hs++yJ)=_;unfold WU;rw[QH j];dsimp only;rw[G new y I yJ,yz,TD.er,ZC,ZC,ybl]
    .cases h
   |_=>cases h
  |ix i s=>
   cases d with
   |p x=>
    by_cases Z:∃n M g,x=.arr n M g
    .obtain⟨n,M,g,rfl⟩:=Z;simp only[ei]at h;obtain⟨z,j,h⟩:=yf.1 h;split at h
     .rename_i m;obtain⟨sub,hs,f,C,A,E,F,G⟩:=X2 r (.p z) _ out h;have hz:(TP.bQ g)[i]? =ab z.pe:=by rw[VI,yah,j];rfl
      refine⟨sub,_,_,((TP.bQ g)[i]? =ab z.pe)::C,A,⟨hz,E⟩,λyJ=> ?_,λnew d' c yJ=> ?_⟩
      .rw[TD.er,TP.pe];show Ym (.p (.arr n M (TP.bQ g))) (i::r.map bN.i) (_::(hs++yJ))=_;unfold Ym;dsimp only;have:=F yJ;rw[TD.er]at this;rw[this,yz,dF, <-m];rfl
      .obtain⟨d1,I,c⟩:=yf.1 c;have:=G new d1 I yJ;rw[TD.er]at this;rw[TD.er,TP.pe];show WU (new.er L) (.p (.arr n M (TP.bQ g))) (i::r.map bN.i) (_::(hs++yJ))=_;unfold WU;dsimp only;rw[this];by_cases W:∃y,d1=.p y
       .obtain⟨y,rfl⟩:=W;cases c
       .have e:TY n M g i d1=ab (.arr n M ((g.map .p).set i d1)):=by cases d1 <;> first|rfl|exact absurd ⟨_,rfl⟩ W
        rw[e]at c;cases c;rw[TD.er,ZC,ybl, <-ZC,qE];cases d1 <;> first|rfl|exact absurd ⟨_,rfl⟩ W
     .cases h
    have hg:ei L (.ix i s::r) (.p x) K=x.dk.bind λa=>if s=a.t.size then(a.l[i]?).bind λy=>ei L r (.p (.v a.t y)) λsub hs f=>K sub (.el (a.t.enc y)::hs) λnew=>(f new).bind λd=>CC a i d else ad:=by
     cases x <;> first|rfl|exact absurd ⟨_,_,_,rfl⟩ Z
    rw[hg]at h;obtain⟨a,j,h⟩:=yf.1 h;split at h
    .rename_i X;obtain⟨y,m,h⟩:=yf.1 h;obtain⟨sub,hs,f,C,A,E,F,G⟩:=X2 r (.p (.v a.t y)) _ out h;refine⟨sub,_,_,((a.l.map a.t.enc)[i]? =ab (a.t.enc y))::C,A,⟨qr m,E⟩,λyJ=> ?_,λnew d' c yJ=> ?_⟩
     .rw[TD.er,V8 j];show Ym (.p (.arr a.n a.t.size _)) (i::r.map bN.i) (_::(hs++yJ))=_;unfold Ym;dsimp only;have:=F yJ;rw[TD.er,TP.pe]at this;rw[this,yz,dF,X];rfl
     .obtain⟨d1,I,c⟩:=yf.1 c;have:=G new d1 I yJ;unfold CC at c;rw[TD.er,TP.pe]at this;rw[TD.er,V8 j];show WU (new.er L) (.p (.arr a.n a.t.size _)) (i::r.map bN.i) (_::(hs++yJ))=_;unfold WU;dsimp only;rw[this];split at c
      .rename_i z;obtain⟨y',T,rfl⟩:=Zd c;rw[TD.er];dsimp only;rw[jB z a.t y' T, <-ybl];rfl
      .rename_i Q;cases c;rw[TD.er,ZC,ybl,ybc,ybc];cases d1 <;> first|rfl|exact absurd rfl (Q _)
    .cases h
   |arr n M U=>
    simp only[ei]at h;obtain⟨z,j,h⟩:=yf.1 h;split at h
    .rename_i m;obtain⟨sub,hs,f,C,A,E,F,G⟩:=X2 r z _ out h;refine⟨sub,hs,_,C,A,E,λyJ=> ?_,λnew d' c yJ=> ?_⟩
     .rw[TD.er];show Ym (.arr n M (TD.au L U)) (i::r.map bN.i) (hs++yJ)=_;unfold Ym;rw[QH j];dsimp only;rw[F yJ,yz,dF, <-m];rfl
     .obtain⟨y,I,rfl⟩:=Zd c;rw[TD.er];show WU (new.er L) (.arr n M (TD.au L U)) (i::r.map bN.i) (hs++yJ)=_;unfold WU;rw[QH j];dsimp only;rw[G new y I yJ,yz,TD.er,ZC,ZC,ybl]
    .cases h
   |_=>cases h
theorem QJ{H:yL ah}{id:Nat}{T:Ty}{v:yL Unit}{st:Bool}{e:yb}{l:yL T.aE}(hd:H[id]? =ab (.aF T v st e l)):(TD.rw id).er (lk H)=.rv id v.length T.size 0 l.length/\
 ∀yM,(TD.rp id yM).er (lk H)=.aW id v.length (WW yM) (yM.map bN.i):=by
 have h:Yb (lk H) id aGS ad=([v,yab T.size (),yab l.length ()]:yL aGV):=by
  unfold Yb lk;dsimp only;rw[hd];rfl
 refine⟨?_,λyM=> ?_⟩
 .rw[TD.er];unfold dO;rw[h];show Dv.rv id v.length (yab T.size ()).length 0 (yab l.length ()).length=_;rw[ycp,ycp]
 .rw[TD.er];unfold dO;rw[h];rfl
abbrev Kn(O:Type):=yL TD->TD->yL ah->yL aj->Nat->yO O
def qF(P:yg)(o:Oper)(ts:yL TD)(H:yL ah)(d:TD)(hs:yL aj):Prop:=
 (∀c,aU P o (TD.au (lk H) ts) (hs++c)=ad)/\∃C,aY C/\∀c,bm P o (TD.au (lk H) ts) (aA H) (hs++c)=ab (C,d.er (lk H),c)
def iP(P:yg)(o:Oper)(ts:yL TD)(H:yL ah)(d:TD)(H':yL ah)(hs:yL aj):Prop:=
 (∀c,aU P o (TD.au (lk H) ts) (hs++c)=ad)/\(∀c,bm P o (TD.au (lk H) ts) (aA H) (hs++c)=ad)/\
   ∃C,aY C/\∀c,bZ P o (TD.au (lk H) ts) (aA H) (hs++c)=ab (C,d.er (lk H'),aA H',c)
theorem cJ{a b c d:Prop}(h:c):a\/b\/c\/d:=.inr (.inr (.inl h))
structure Good(P:yg)(o:Oper)(ts all:List TD)(H:List ah)(all':List TD)(d:TD)(H':List ah)(hs:List aj)(bu:Nat):Prop where
 same:TD.au (lk H') all'=TD.au (lk H) all
 len:all'.length=all.length
 op:(bu=0/\H'=H/\cX (lk H) P o ts d hs)\/(bu=1/\H'=H/\qF P o ts H d hs)\/(bu=2/\iP P o ts H d H' hs)\/(bu=3/\aA H'=aA H/\iP P o ts H d H' hs)
section
variable{P:yg}{o:Oper}{ts all:yL TD}{H:yL ah}{O:Type}{K:Kn O}{out:O}
def mQ(H:yL ah)(id:Nat):yO TD:=
 match H[id]? with
 |some (.var d _)=>ab d
 |_=>ad
theorem qG{id:Nat}{d:TD}(h:mQ H id=ab d):∃st,H[id]? =ab (.var d st)/\(aA H)[id]? =ab (.var (d.er (lk H)) st):=by
 unfold mQ at h;split at h
 .rename_i e st c;cases h;exact⟨st,c,ZD c⟩
 .cases h
def CD(H:yL ah)(id v:Nat):yO TD:=
 match H[id]? with
 |some (.row w _ _ _ d)=>if(w==v)=ae then ab d else ad
 |_=>ad
theorem ZzX{id v:Nat}{d:TD}(h:CD H id v=ab d):∃w s st e,H[id]? =ab (.row w s st e d)/\(w==v)=ae:=by
 unfold CD at h;split at h
 .rename_i w s st e g c;split at h
  .rename_i f;cases h;exact⟨w,s,st,e,c,f⟩
  .cases h
 .cases h
def CE(P:yg)(t:yb)(all:yL TD)(H:yL ah)(K:Kn O):TD->yO O
 |.am id c=>(mQ H id).bind λd=>ei (lk H) c d λsub hs _=>if gv P t (sub.er (lk H))=ae then K all sub H hs 1 else ad
 |.aW id v c=>(CD H id v).bind λd=>ei (lk H) c d λsub hs _=>if gv P t (sub.er (lk H))=ae then K all sub H hs 1 else ad
 |_=>ad
theorem ZCh{t:yb}{x:yo}{I:TD}(ho:o.op=.load t x)(hx:aS P ts 0 x=ab I)(h:CE P t all H K I=ab out):∃a d H' hs c,K a d H' hs c=ab out/\Good P o ts all H a d H' hs c:=by
 have j:=Zk (L:=lk H) hx;unfold CE at h;split at h
 .rename_i id f;obtain⟨d,l,h⟩:=yf.1 h;obtain⟨st,M,m⟩:=qG l;obtain⟨sub,hs,y,C,z,A,E,_⟩:=X2 _ _ _ _ h;obtain⟨F,G⟩:=Za z;refine⟨_,_,_,_,_,G,rfl,rfl,.inr (.inl ⟨rfl,rfl,λg=> ?_,C++[dF f=WW f],Zj.2 ⟨A,(Ws _).symm,aw⟩,λg=> ?_⟩)⟩
  .unfold aU;rw[ho];dsimp only;rw[j];rfl
  .unfold bm;rw[ho];dsimp only;rw[j];dsimp only[TD.er];rw[m];dsimp only;rw[E g];dsimp only;rw[yW F]
 .rename_i id v f;obtain⟨d,l,h⟩:=yf.1 h;obtain⟨w,s,st,e,M,m⟩:=ZzX l;obtain⟨sub,hs,y,C,z,A,E,_⟩:=X2 _ _ _ _ h;obtain⟨F,G⟩:=Za z;refine⟨_,_,_,_,_,G,rfl,rfl,.inr (.inl ⟨rfl,rfl,λg=> ?_,C++[dF f=WW f],Zj.2 ⟨A,(Ws _).symm,aw⟩,λg=> ?_⟩)⟩
  .unfold aU;rw[ho];dsimp only;rw[j];rfl
  .unfold bm;rw[ho];dsimp only;rw[j];dsimp only[TD.er];rw[ZD M];dsimp only[ah.er];rw[E g];dsimp only;rw[yW (by rw[yi];exact⟨F,m⟩)]
 .cases h
def CF(P:yg)(t:yb)(lo hi:yO Int)(all:yL TD)(H:yL ah)(K:Kn O):TD->yO O
 |.rv id v s f n=>match P.underlying t,H[id]? with
  |some (.slice e),ab (.row w c _ _ d)=>hi.bind λh=>(aJ (d.er (lk H)) c).bind λN=>if(P.cellsOf e=s&&(P.info? e).isSome&&w==v&&c==s&&c !=0)=ae then
    if(ag (0<=lo.getD 0)&&ag (lo.getD 0<=h)&&ag (f+h.toNat<=N))=ae then K all (.rv id v s (f+(lo.getD 0).toNat) (h.toNat - (lo.getD 0).toNat)) H [.raw] 1 else ad else ad
  |_,_=>ad
 |_=>ad
theorem ZzY{t:yb}{x:yo}{lo hi:yO yo}{l j:yO Int}{m:TD}(ho:o.op=.slice t x lo hi ad)(hx:aS P ts t x=ab m)(hl:ez P ts lo=ab l)(f:ez P ts hi=ab j)(h:CF P t l j all H K m=ab out):
 ∃a d H' hs c,K a d H' hs c=ab out/\Good P o ts all H a d H' hs c:=by
 have y:=Zk (L:=lk H) hx;have hl:=hJ (L:=lk H) hl;have f:=hJ (L:=lk H) f;unfold CF at h;split at h
 .rename_i id v s I n;split at h
  .rename_i e w X st Y d z M;obtain⟨A,Q,E⟩:=yf.1 h;obtain⟨N,S,F⟩:=yf.1 E;obtain⟨T,G⟩:=Za F;obtain⟨g,U⟩:=Za G;clear h E F G;simp only[yi,yP]at g;subst Q;refine⟨_,_,_,_,_,U,rfl,rfl,.inr (.inl ⟨rfl,rfl,λW=> ?_,[0<=l.getD 0,l.getD 0<=A,I+A.toNat<=N],⟨g.1.1,g.1.2,g.2,aw⟩,λW=> ?_⟩)⟩
   .unfold aU;rw[ho];dsimp only;rw[z,y,hl,f];rfl
   .unfold bm;rw[ho];dsimp only;rw[z,y,hl,f];dsimp only[TD.er];rw[yaa,yw];dsimp only;rw[ZD M];dsimp only[ah.er];rw[S];dsimp only;rw[yW T]
  .cases h
 .cases h
def lw{α β:Type}(o:yO α)(f:α->yO β)(g:yO β):yO β:=
 match o with
 |some a=>f a
 |none=>g
def fZ(P:yg)(c:yb)(k:Ty):Bool:=eS P c&&(k.flat&&lr P 20 c k)
structure qH where
 tid:yb
 k:Ty
 v:Ty
 l:List (k.aE×v.aE)
def mR(H:yL ah)(id:Nat):yO qH:=
 match H[id]? with
 |some (.map c k v l)=>ab ⟨c,k,v,l⟩
 |_=>ad
theorem ou{id:Nat}{m:qH}(h:mR H id=ab m):H[id]? =ab (.map m.tid m.k m.v m.l)/\(aA H)[id]? =ab (.map m.tid (cv m.k.enc m.v.enc m.l)):=by
 unfold mR at h;split at h
 .rename_i c;cases h;exact⟨c,ZD c⟩
 .cases h
def kA(x:TD)(k:Ty):yO k.aE:=x.inner.bind λy=>TP.to eY y k
theorem kB{L:Lk}{x:TD}{k:Ty}{y:k.aE}(h:kA x k=ab y):x.er L=.p (k.enc y):=by
 obtain⟨p,c,e⟩:=yf.1 h;rw[Xo c,TD.er,ol p k y e]
theorem lx{c:yb}{k:Ty}(h:fZ P c k=ae):∀x y:k.aE,k.enc x=k.enc y↔x=y:=by
 simp only[fZ,yi]at h;exact λx y=>⟨qt k x y h.2.1,λe=>by rw[e]⟩
theorem XJ{c:yb}{k:Ty}(h:fZ P c k=ae):∀x:k.aE,aO P 20 c (k.enc x):=by
 simp only[fZ,yi]at h;exact qv 20 c k h.2.2
theorem iQ{c:yb}{k:Ty}(h:fZ P c k=ae):eS P c=ae:=by
 simp only[fZ,yi]at h;exact h.1
def kC(P:yg)(t:yb):yO TP:=
 match YI P t with
 |.p z=>ud P t z
 |_=>ad
theorem mS{t:yb}{z:TP}(h:kC P t=ab z):YI P t=.p z.pe:=by
 unfold kC at h;split at h
 .rename_i y c;rw[c,AG h]
 .cases h
def qI(ok:Bool)(d:TD)(b:Bool):TD:=if ok then .bf [d,.p (.v .bool b)] else d
theorem up{L:Lk}{ok:Bool}{d:TD}{b:Bool}:(qI ok d b).er L=if ok then .bf [d.er L,.p (.bool b)] else d.er L:=by
 cases ok <;> rfl
def Q1{V:Type}(l:yL (Int×yL V))(z:Int):yL V:=match l.find? λq=>q.1==z with
 |some q=>q.2
 |none=>[]
def ft(k k2 w:Ty)(l:yL (k.aE×yL (k2.aE×w.aE))):yL (Pl×yL (Pl×Pl)):=l.map λq=>(k.enc q.1,cv k2.enc w.enc q.2)
theorem qJ{c:yb}{k k2 w:Ty}(h:fZ P c k=ae)(l:yL (k.aE×yL (k2.aE×w.aE))):fH P c (ft k k2 w l):=by
 intro q e;obtain⟨x,_,rfl⟩:=ybj.1 e;exact XJ h x.1
theorem TZ{e:IntKind}{k2 w:Ty}{l:yL (Int×yL (k2.aE×w.aE))}{z:Int}(h:(l.any λq=>q.1==z)=ae):(Pl.int e z,cv k2.enc w.enc (Q1 l z))∈ft (.int e) k2 w l:=by
 unfold Q1
 cases c:l.find? (λq=>q.1==z) with
 |some q=>
  have f:=List.find?_some c;have g:=List.mem_of_find?_eq_some c;refine ybj.2 ⟨q,g, ?_⟩;have:q.1=z:=eq_of_beq f;rw[<-this]
  rfl
 |none=>
  obtain⟨q,j,m⟩:=List.any_eq_true.1 h;exact absurd m (List.find?_eq_none.1 c q j)
theorem UA{c:IntKind}{k2 w:Ty}(l:yL (Int×yL (k2.aE×w.aE)))(z:Int):lV (ft (.int c) k2 w l) (.int c z) (cv k2.enc w.enc (Q1 l z)):=by
 cases h:l.any λq=>q.1==z with
 |true=>exact .inl (TZ h)
 |false=>
  refine .inr ⟨λg=> ?_, ?_⟩
  .obtain⟨p,j,e⟩:=ybj.1 g;obtain⟨q,m,rfl⟩:=ybj.1 j;have e:Pl.int c q.1=Pl.int c z:=e;injection e with _ s;exact absurd (beq_iff_eq.2 s) (List.any_eq_false.1 h q m)
  .unfold Q1
   cases f:l.find? (λq=>q.1==z) with
   |some q=>exact absurd (List.find?_some f) (List.any_eq_false.1 h q (List.mem_of_find?_eq_some f))
   |none=>rfl
theorem qK{id v:Nat}{c:yb}{k k2 w:Ty}{l:yL (k.aE×yL (k2.aE×w.aE))}(h:H[id]? =ab (.cN v c k k2 w l)):(aA H)[id]? =ab (.maps v c c (ft k k2 w l)):=ZD h
def CH(P:yg)(t:yb)(all:yL TD)(H:yL ah)(ok:Bool)(K:Kn O)(A:yb->yO TD):TD->yO O
 |.cz id=>match P.underlying t,H[id]? with
  |some (.map f j),ab (.cN v _ (.int g) _ _ _)=>(A f).bind λx=>(kA x (.int g)).bind λc=>
   if(!ok&&(fZ P f (.int g)&&sV P j))=ae then K all (.cC id v g c) H [] 1 else ad
  |_,_=>ad
 |.cC id v g z=>match P.underlying t,H[id]? with
  |some (.map f j),ab (.cN E m (.int h) e w l)=>match P.underlying m with
   |some (.map s _)=>(A f).bind λx=>(kA x e).bind λc=>(kC P j).bind λF=>
    if(fZ P s (.int h)&&(fZ P f e&&(Nat.beq v E&&(jl P j&&ag (g=h)))))=ae then
     lw (@gx e.aE w.aE (Ty.cY e) (Q1 l z) c) (λy=>K all (qI ok (.p (.v w y)) ae) H [.aN (cv e.enc w.enc (Q1 l z)),.el (w.enc y)] 1) (K all (qI ok (.p F) af) H [.aN (cv e.enc w.enc (Q1 l z)),.raw] 1)
    else ad
   |_=>ad
  |_,_=>ad
 |_=>ad
theorem Zxp{t:yb}{x ix:yo}{ok:Bool}{Z:TD}(ho:o.op=.lookup t x ix ok)(hx:aS P ts t x=ab Z)(h:CH P t all H ok K (λm=>aS P ts m ix) Z=ab out):
 ∃a d H' hs c,K a d H' hs c=ab out/\Good P o ts all H a d H' hs c:=by
 have S:=Zk (L:=lk H) hx
 have T:∀hs,aU P o (TD.au (lk H) ts) hs=ad:=λhs=>by
  unfold aU;rw[ho]
 unfold CH at h;split at h
 .rename_i id;split at h
  .rename_i m et v U g f w l M Q;obtain⟨kd,W,h⟩:=yf.1 h;obtain⟨e,X,h⟩:=yf.1 h;obtain⟨G,E⟩:=Za h;simp only[yi,Bool.not_eq_true']at G;obtain⟨rfl,A,j⟩:=G;have F:=Zk (L:=lk H) W;rw[kB X]at F;refine⟨_,_,_,_,_,E,rfl,rfl,.inr (.inl ⟨rfl,rfl,λ_=>T _,[aO P 20 m ((Ty.int g).enc e),fH P m (ft (.int g) f w l)],⟨XJ A e,qJ A l,aw⟩,λyJ=> ?_⟩)⟩;unfold bm;rw[ho];dsimp only;rw[M,S];dsimp only[TD.er];rw[F,qK Q]
   try dsimp only
   rw[yW (by rw[iQ A,j];rfl)];rfl
  .cases h
 .rename_i id v g z;split at h
  .rename_i m et v' U ik' f w l M Q;split at h
   .rename_i s et0 I;obtain⟨kd,W,h⟩:=yf.1 h;obtain⟨e,X,h⟩:=yf.1 h;obtain⟨zz,h4,h⟩:=yf.1 h;obtain⟨G,E⟩:=Za h;simp only[yi,yP]at G;obtain⟨A,j,h8,h9,rfl⟩:=G;have F:=Zk (L:=lk H) W;rw[kB X]at F;unfold lw at E;split at E
    .rename_i y Y
     refine⟨_,_,_,_,_,E,rfl,rfl,.inr (.inl ⟨rfl,rfl,λ_=>T _,[aO P 20 s (.int g z),fH P s (ft (.int g) f w l),lV (ft (.int g) f w l) (.int g z) (cv f.enc w.enc (Q1 l z)),aO P 20 m (f.enc e),VH P m (cv f.enc w.enc (Q1 l z)),WO (cv f.enc w.enc (Q1 l z)) (f.enc e) (ab (w.enc y))],
      ⟨XJ A z,qJ A l,UA l z,XJ j e,lh (XJ j) _,@SE _ _ (Ty.cY f) _ _ (lx j) _ _ _ Y,aw⟩,λyJ=> ?_⟩)⟩
     unfold bm;rw[ho];dsimp only;rw[M,S];dsimp only[TD.er];rw[F,qK Q]
     try dsimp only
     rw[yaa,yaa,yw]
     try dsimp only
     rw[I]
     try dsimp only
     rw[yW (by rw[iQ j,h8];rfl),up];rfl
    .rename_i Y
     refine⟨_,_,_,_,_,E,rfl,rfl,.inr (.inl ⟨rfl,rfl,λ_=>T _,[aO P 20 s (.int g z),fH P s (ft (.int g) f w l),lV (ft (.int g) f w l) (.int g z) (cv f.enc w.enc (Q1 l z)),aO P 20 m (f.enc e),VH P m (cv f.enc w.enc (Q1 l z)),WO (cv f.enc w.enc (Q1 l z)) (f.enc e) ad],
      ⟨XJ A z,qJ A l,UA l z,XJ j e,lh (XJ j) _,@SF _ _ (Ty.cY f) _ _ (lx j) _ _ (by rw[Y];rfl),aw⟩,λyJ=> ?_⟩)⟩
     unfold bm;rw[ho];dsimp only;rw[M,S];dsimp only[TD.er];rw[F,qK Q]
     try dsimp only
     rw[yaa,yaa,yw]
     try dsimp only
     rw[I]
     try dsimp only
     rw[yW (by rw[iQ j,h8,h9];rfl),up,mS h4];rfl
   .cases h
  .cases h
 .cases h
def CI(P:yg)(t:yb)(all:yL TD)(H:yL ah)(ok:Bool)(K:Kn O)(e:yb->yO TD):TD->yO O
 |.mp id=>match P.underlying t with
  |some (.map f g)=>(mR H id).bind λm=>(e f).bind λx=>(kA x m.k).bind λc=>(kC P g).bind λz=>
   if(fZ P f m.k&&jl P g)=ae then
    lw (@gx m.k.aE m.v.aE (Ty.cY m.k) m.l c) (λy=>K all (qI ok (.p (.v m.v y)) ae) H [.el (m.v.enc y)] 1) (K all (qI ok (.p z) af) H [.raw] 1)
   else ad
  |_=>ad
 |d=>CH P t all H ok K e d
theorem Zxr{t:yb}{x ix:yo}{ok:Bool}{A:TD}(ho:o.op=.lookup t x ix ok)(hx:aS P ts t x=ab A)(h:CI P t all H ok K (λg=>aS P ts g ix) A=ab out):
 ∃a d H' hs c,K a d H' hs c=ab out/\Good P o ts all H a d H' hs c:=by
 have E:=Zk (L:=lk H) hx;unfold CI at h;split at h
 .rename_i id;split at h
  .rename_i g W F;obtain⟨m,M,h⟩:=yf.1 h;obtain⟨X,Q,h⟩:=yf.1 h;obtain⟨e,S,h⟩:=yf.1 h;obtain⟨z,T,h⟩:=yf.1 h;obtain⟨f,h⟩:=Za h;rw[yi]at f;obtain⟨Y,G⟩:=ou M;have j:=Zk (L:=lk H) Q;rw[kB S]at j
   have I:∀hs,aU P o (TD.au (lk H) ts) hs=ad:=λhs=>by
    unfold aU;rw[ho]
   letI:=Ty.cY m.k
   unfold lw at h;split at h
   .rename_i y s
    refine⟨_,_,_,_,_,h,rfl,rfl,.inr (.inl ⟨rfl,rfl,λ_=>I _,[aO P 20 g (m.k.enc e),VH P g (cv m.k.enc m.v.enc m.l),WO (cv m.k.enc m.v.enc m.l) (m.k.enc e) (ab (m.v.enc y))],
     ⟨XJ f.1 e,lh (XJ f.1) _,@SE _ _ (Ty.cY m.k) _ _ (lx f.1) _ _ _ s,aw⟩,λU=> ?_⟩)⟩
    unfold bm;rw[ho];dsimp only;rw[F,E];dsimp only[TD.er];rw[j,G]
    try dsimp only
    rw[yaa,yw]
    try dsimp only
    rw[yW (iQ f.1),up];rfl
   .rename_i s
    refine⟨_,_,_,_,_,h,rfl,rfl,.inr (.inl ⟨rfl,rfl,λ_=>I _,[aO P 20 g (m.k.enc e),VH P g (cv m.k.enc m.v.enc m.l),WO (cv m.k.enc m.v.enc m.l) (m.k.enc e) ad],
     ⟨XJ f.1 e,lh (XJ f.1) _,@SF _ _ (Ty.cY m.k) _ _ (lx f.1) _ _ (by rw[s];rfl),aw⟩,λU=> ?_⟩)⟩
    unfold bm;rw[ho];dsimp only;rw[F,E];dsimp only[TD.er];rw[j,G]
    try dsimp only
    rw[yaa,yw]
    try dsimp only
    rw[yW (by rw[iQ f.1,f.2];rfl),up,mS T];rfl
  .cases h
 .exact Zxp ho hx h
def CJ(P:yg)(t:yb)(all:yL TD)(H:yL ah)(K:Kn O):TD->yO O
 |.mp id=>match P.underlying t with
  |some (.map _ _)=>(mR H id).bind λm=>K all (.p (.v (.int .i64) (m.l.length:Int))) H [] 1
  |_=>ad
 |_=>ad
theorem Zxt{t:yb}{x:yo}{c:Call}{e:TD}(ho:o.op=.call c)(hc:c.callee=.builtin .len)(ha:c.args.toList=[x])(ht:c.argTypes.toList=[t])(hx:aS P ts t x=ab e)(h:CJ P t all H K e=ab out):
 ∃a d H' hs c,K a d H' hs c=ab out/\Good P o ts all H a d H' hs c:=by
 have f:=Zk (L:=lk H) hx;unfold CJ at h;split at h
 .rename_i id;split at h
  .rename_i y z g;obtain⟨m,j,h⟩:=yf.1 h;obtain⟨A,l⟩:=ou j;refine⟨_,_,_,_,_,h,rfl,rfl,.inr (.inl ⟨rfl,rfl,λs=> ?_,[],zZ,λs=> ?_⟩)⟩
   .unfold aU;rw[ho];dsimp only;rw[hc];dsimp only;rw[ha,ht];dsimp only;rw[g,f]
   .unfold bm;rw[ho];dsimp only;rw[hc];dsimp only;rw[ha,ht];dsimp only;rw[g,f];dsimp only[TD.er];rw[l];simp[TP.pe,Ty.enc,cv]
  .cases h
 .cases h
theorem kD{e:ah}(h:e.eO=af):TD.au (lk (H++[e])) all=TD.au (lk H) all:=by rw[hP h]
theorem UB{T:Ty}{e:yb}:TD.au (lk (H++[.log T e []])) all=TD.au (lk H) all:=(cb (λid t=>uo id t) all).symm
theorem mT{e:ah}(h:TD.frees H.length all=ae):TD.au (lk (H++[e])) all=TD.au (lk H) all:=(cr (λid t c=>kz id t c) all h).symm
theorem mU{T:Ty}{e:yb}{l:yL T.aE}:Yb (lk (H++[.log T e l])) H.length T ad=l:=by
 unfold Yb lk;dsimp only;rw[List.getElem?_concat_length];show(Ty.be T T l).getD []=l;unfold Ty.be;split
 .rfl
 .rename_i h _;exact absurd rfl h
def CK(P:yg)(t:yb)(dst:Tmp)(all:yL TD)(H:yL ah)(K:Kn O):TD->yO O
 |.p (.sl (ab af) T [])=>match P.underlying t with
  |some (.slice e)=>(P.info? e).bind λi=>if(bP i&&i.size !=0&&ag (i.size=T.size))=ae then K all (.own H.length ad T ad) (H++[.log T e []]) [.fresh dst] 2 else ad
  |_=>ad
 |_=>ad
theorem Zz1{x:yo}{dst:Tmp}{g:TD}(ho:o.op=.assign x)(hd:o.dst=ab dst)(hx:aS P ts o.type x=ab g)(h:CK P o.type dst all H K g=ab out):
 ∃a d H' hs c,K a d H' hs c=ab out/\Good P o ts all H a d H' hs c:=by
 have l:=Zk (L:=lk H) hx;unfold CK at h;split at h
 .rename_i T;split at h
  .rename_i e m;obtain⟨i,s,h⟩:=yf.1 h;obtain⟨f,h⟩:=Za h;simp only[yi,yP]at f;refine⟨_,_,_,_,_,h,UB,rfl,cJ (⟨rfl,λj=> ?_,λj=> ?_,[],zZ,λj=> ?_⟩)⟩
   .unfold aU;rw[ho];rfl
   .unfold bm;rw[ho]
   .unfold bZ;rw[ho];dsimp only;rw[yaa,yw];dsimp only;rw[yW hd,m,l,show(TD.p (TP.sl (ab af) T [])).er (lk H)=Dv.p (.sl (ab af) T.size []) from rfl]
    dsimp only;rw[s];dsimp only;rw[yW (by simpa using f.1),CB,ZE,TD.er,mU,f.2];rfl
  .cases h
 .cases h
def CL(P:yg)(t:yb)(pm:Bool)(all:yL TD)(H:yL ah)(K:Kn O):yO O:=
 match P.underlying t with
 |some (.map g f)=>(eZ P fJ g).bind λk=>if MN P t=ae then(match P.underlying f with
   |some (.map c e)=>(eZ P fJ c).bind λh=>(eZ P fJ e).bind λw=>K all (.cz H.length) (H++[.cN 0 t k h w []]) [] 2
   |_=>ad)
  else(eZ P fJ f).bind λv=>if pm=ae then K all (.pm H.length 0) (H++[.dW 0 k v []]) [.pm] 2 else K all (.mp H.length) (H++[.map t k v []]) [.raw] 2
 |_=>ad
theorem ZuD{t:yb}{pm:Bool}(ho:o.op=.makeMap t ad)(h:CL P t pm all H K=ab out):∃a d H' hs c,K a d H' hs c=ab out/\Good P o ts all H a d H' hs c:=by
 unfold CL at h;split at h
 .rename_i j l m;obtain⟨k,s,h⟩:=yf.1 h;split at h
  .rename_i e;split at h
   .obtain⟨x,g,h⟩:=yf.1 h;obtain⟨w,y,h⟩:=yf.1 h;refine⟨_,_,_,_,_,h,kD rfl,rfl,cJ (⟨rfl,λf=> ?_,λf=> ?_,[],zZ,λf=> ?_⟩)⟩
    .unfold aU;rw[ho]
    .unfold bm;rw[ho]
    .unfold bZ;rw[ho];dsimp only;rw[yW e,Q0 (hP rfl),ZE];rfl
   .cases h
  .rename_i e;obtain⟨v,g,h⟩:=yf.1 h;split at h
   .refine⟨_,_,_,_,_,h,kD rfl,rfl,cJ (⟨rfl,λf=> ?_,λf=> ?_,[],zZ,λf=> ?_⟩)⟩
    .unfold aU;rw[ho]
    .unfold bm;rw[ho]
    .unfold bZ;rw[ho];dsimp only;rw[yX e,Q0 (hP rfl),ZE];rfl
   .refine⟨_,_,_,_,_,h,kD rfl,rfl,cJ (⟨rfl,λf=> ?_,λf=> ?_,[],zZ,λf=> ?_⟩)⟩
    .unfold aU;rw[ho]
    .unfold bm;rw[ho]
    .unfold bZ;rw[ho];dsimp only;rw[yX e,Q0 (hP rfl),ZE];rfl
 .cases h
def hT(n:Int)(b:Nat):Bool:=ag (0<=n)&&kq n.toNat b
def CM(P:yg)(t:yb)(own row:Bool)(n c:Int)(all:yL TD)(H:yL ah)(K:Kn O):yO O:=
 match P.underlying t with
 |some (.slice e)=>(P.info? e).bind λi=>(eZ P fJ e).bind λT=>
  if row then
   if(bP i&&i.size !=0&&ag (i.size=T.size))=ae then if(ag (n=0)&&hT c i.bytes)=ae then K all (.rv H.length 0 i.size 0 0) (H++[.row 0 i.size ae e (.p (.v (.arr 0 T) []))]) [.arr] 2 else ad else ad
  else if own then
   if(bP i&&i.size !=0&&ag (i.size=T.size))=ae then if(ag (n=0)&&hT c i.bytes)=ae then K all (.own H.length (ab ae) T ad) (H++[.log T e []]) [.own] 2 else ad else ad
  else(kC P e).bind λz=>(TP.to eY z T).bind λy=>
   if(bP i&&ag (i.size=1)&&z.pe.size==1&& !z.pe.isAgg&&ag (T.size=1))=ae then if(ag (c=n)&&hT n i.bytes)=ae then
    K all (.view H.length [] 1 0 n.toNat) (H++[.var (.p (.v (.arr n.toNat T) (yab n.toNat y))) ae]) [.raw] 2 else ad else ad
 |_=>ad
theorem Zrg{t:yb}{l c:yo}{n j:Num}{own row:Bool}(ho:o.op=.makeSlice t l c)(hl:(aS P ts 0 l).bind TD.num=ab n)(hc:(aS P ts 0 c).bind TD.num=ab j)(S:n.k=.i64)(F:j.k=.i64)
 (h:CM P t own row n.n j.n all H K=ab out):∃a d H' hs c,K a d H' hs c=ab out/\Good P o ts all H a d H' hs c:=by
 obtain⟨ld,U,W⟩:=yf.1 hl;obtain⟨cd,X,Y⟩:=yf.1 hc;have A:=Zk (L:=lk H) U;have E:=Zk (L:=lk H) X;rw[V9 W,S]at A;rw[V9 Y,F]at E;unfold CM at h;have G:∀hs,aU P o (TD.au (lk H) ts) hs=ad:=λhs=>by unfold aU;rw[ho]
 have I:∀hs,bm P o (TD.au (lk H) ts) (aA H) hs=ad:=λhs=>by unfold bm;rw[ho]
 split at h
 .rename_i e M;obtain⟨i,Q,h⟩:=yf.1 h;obtain⟨T,h2,h⟩:=yf.1 h;split at h
  .obtain⟨g,h⟩:=Za h;obtain⟨f,h⟩:=Za h;simp only[yi,yP]at g;simp only[hT,yi,yP]at f;obtain⟨s,x⟩:=jC f.2.2;refine⟨_,_,_,_,_,h,kD rfl,rfl,cJ (⟨rfl,λm=>G _,λm=>I _,[n.n=0,0<=j.n,j.n.toNat*i.bytes<=Zn,j.n.toNat<=maxLen],⟨f.1,f.2.1,s,x,aw⟩,λm=> ?_⟩)⟩;unfold bZ;rw[ho];dsimp only;rw[M,A,E];dsimp only;rw[Q,yaa,yw];dsimp only;rw[yW (by simpa using g.1),Q0 (hP rfl),ZE];simp only[ah.er,TD.er,TP.pe,zS,g.2];rfl
  split at h
  .obtain⟨g,h⟩:=Za h;obtain⟨f,h⟩:=Za h;simp only[yi,yP]at g;simp only[hT,yi,yP]at f;obtain⟨s,x⟩:=jC f.2.2;refine⟨_,_,_,_,_,h,UB,rfl,cJ (⟨rfl,λm=>G _,λm=>I _,[n.n=0,0<=j.n,j.n.toNat*i.bytes<=Zn,j.n.toNat<=maxLen],⟨f.1,f.2.1,s,x,aw⟩,λm=> ?_⟩)⟩;unfold bZ;rw[ho];dsimp only;rw[M,A,E];dsimp only;rw[Q,yaa,yw];dsimp only;rw[yW (by simpa using g.1),CB,ZE,TD.er,mU,g.2];rfl
  .obtain⟨z,Z,h⟩:=yf.1 h;obtain⟨y,z2,h⟩:=yf.1 h;obtain⟨g,h⟩:=Za h;obtain⟨f,h⟩:=Za h;simp only[yi,yP,yT]at g;simp only[hT,yi,yP]at f;obtain⟨s,x⟩:=jC f.2.2;refine⟨_,_,_,_,_,h,kD rfl,rfl,cJ (⟨rfl,λm=>G _,λm=>I _,[j.n=n.n,0<=n.n,n.n.toNat*i.bytes<=Zn,n.n.toNat<=maxLen],⟨f.1,f.2.1,s,x,aw⟩,λm=> ?_⟩)⟩;unfold bZ;rw[ho];dsimp only;rw[M,A,E];dsimp only;rw[Q,yaa,yw];dsimp only;rw[mS Z];dsimp only;rw[yW (by simp only[yi,yP];exact g.1),Q0 (hP rfl),ZE,ol z T y z2];simp only[ah.er,TD.er,TP.pe,WW,List.map_nil,List.foldl_nil];congr 5;show _=[ar.var (Dv.p (Pl.arr n.n.toNat T.size (List.map T.enc (yab n.n.toNat y)))) ae];rw[List.map_replicate,g.2]
 .cases h
end
end Go.Ev
end
section
namespace Go.Ev
section
variable{P:yg}{o:Oper}{ts all:yL TD}{H:yL ah}{O:Type}{K:Kn O}{out:O}
theorem VR{id:Nat}{e x:ah}(hx:H[id]? =ab x)(h1:x.eO=af)(h2:e.eO=af):TD.au (lk (H.set id e)) all=TD.au (lk H) all:=by rw[Wc hx h1 h2]
def jD{V:Type}(l:yL (Int×yL V))(z:Int)(x:yL V):yL (Int×yL V):=if(l.any λq=>q.1==z)=ae then l.map λq=>if(q.1==z)=ae then(z,x) else q else l++[(z,x)]
open Classical in
theorem ZFl{V:Type}(c:Int->Pl)(hi:∀a b,c a=c b↔a=b)(ev:yL V->yL (Pl×Pl))(l:yL (Int×yL V))(z:Int)(x:yL V):(jD l z x).map (λq=>(c q.1,ev q.2))=gm (l.map λq=>(c q.1,ev q.2)) (c z) (ev x):=by
 have f:(c z∈(l.map λq=>(c q.1,ev q.2)).map (·.1))↔(l.any λq=>q.1==z)=ae:=by
  rw[ybc];constructor
  .intro m;obtain⟨q,g,j⟩:=ybj.1 m;exact List.any_eq_true.2 ⟨q,g,beq_iff_eq.2 ((hi _ _).1 j)⟩
  .intro h;obtain⟨q,g,j⟩:=List.any_eq_true.1 h;exact ybj.2 ⟨q,g,by rw[<-eq_of_beq j];rfl⟩
 unfold jD gm;by_cases h:(l.any λq=>q.1==z)=ae
 .rw[yW h,yW (f.2 h),ybc,ybc];refine ycj λq s=> ?_;show(c (if(q.1==z)=ae then(z,x) else q).1,ev (if(q.1==z)=ae then(z,x) else q).2)=if c q.1=c z then(c z,ev x) else(c q.1,ev q.2)
  by_cases e:q.1=z
  .rw[yW (beq_iff_eq.2 e),yW (show c q.1=c z by rw[e])]
  .rw[yX (by rw[yT];exact e),yX (λp=>e ((hi _ _).1 p))]
 .rw[yX h,yX (λp=>h (f.1 p)),yaq];rfl
theorem UC{c:IntKind}{k2 w:Ty}(l:yL (Int×yL (k2.aE×w.aE)))(z:Int)(x:yL (k2.aE×w.aE)):ft (.int c) k2 w (jD l z x)=gm (ft (.int c) k2 w l) (.int c z) (cv k2.enc w.enc x):=
 ZFl (λz=>.int c z) (λa b=>⟨λh=>by injection h,λh=>by rw[h]⟩) (cv k2.enc w.enc) l z x
def ZMd{V:Type}(l:yL (Int×yL V))(z:Int):Bool:=l.any λq=>q.1==z
def CN(P:yg)(t:yb)(all:yL TD)(H:yL ah)(K:Kn O)(F G:yb->yO TD):TD->yO O
 |.cC id v h z=>match P.underlying t,H[id]? with
  |some (.map j A),ab (.cN I f (.int g) c w l)=>match P.underlying f with
   |some (.map E _)=>(F j).bind λx=>(kA x c).bind λe=>((G A).bind (TD.flat (lk H))).bind λM=>(TP.to gZ M w).bind λy=>
    if(fZ P E (.int g)&&(fZ P j c&&(Nat.beq v I&&(ag (h=g)&&ZMd l z))))=ae then
     K all .an (H.set id (.cN I f (.int g) c w (jD l z (@fB c.aE w.aE (Ty.cY c) (Q1 l z) e y)))) [.aN (cv c.enc w.enc (Q1 l z)),.aN (cv c.enc w.enc (@fB c.aE w.aE (Ty.cY c) (Q1 l z) e y)),.sR (ft (.int g) c w (jD l z (@fB c.aE w.aE (Ty.cY c) (Q1 l z) e y)))] 2 else ad
   |_=>ad
  |_,_=>ad
 |.cz id=>match P.underlying t,H[id]? with
  |some (.map j A),ab (.cN v f (.int h) c w l)=>(F j).bind λx=>(kA x (.int h)).bind λe=>match G A with
   |some (.pm m Q)=>match H[m]? with
    |some (.dW s a b [])=>if(fZ P j (.int h)&&Nat.beq Q s)=ae then
      K all .an ((H.set id (.cN (v+1) f (.int h) c w (jD l e []))).set m (.dW (s+1) a b [])) [.sR (ft (.int h) c w (jD l e []))] 2 else ad
    |_=>ad
   |_=>ad
  |_,_=>ad
 |_=>ad
theorem Zxv{t:yb}{x k v:yo}{xd:TD}(ho:o.op=.mapUpdate t x k v)(hx:aS P ts t x=ab xd)(h:CN P t all H K (λs=>aS P ts s k) (λW=>aS P ts W v) xd=ab out):
 ∃a d H' hs c,K a d H' hs c=ab out/\Good P o ts all H a d H' hs c:=by
 have hv:=Zk (L:=lk H) hx;unfold CN at h;split at h
 .rename_i id v g z;split at h
  .rename_i s W v' G ik' f w l X j;split at h
   .rename_i I et0 Y;obtain⟨kd,Z,h⟩:=yf.1 h;obtain⟨e,h3,h⟩:=yf.1 h;obtain⟨zz,h4,h⟩:=yf.1 h;obtain⟨zd,h40,h41⟩:=yf.1 h4;obtain⟨y,h60,h⟩:=yf.1 h;obtain⟨M,hh⟩:=Za h;simp only[yi,yP]at M;obtain⟨F,U,h8,rfl,h9⟩:=M;have Q:=Zk (L:=lk H) Z;rw[kB h3]at Q;have hz:=Zk (L:=lk H) h40
    letI:=Ty.cY f
    refine⟨_,_,_,_,_,hh,VR j rfl rfl,rfl,cJ (⟨rfl,λS=> ?_,λS=> ?_,[aO P 20 I (.int g z),fH P I (ft (.int g) f w l),(Pl.int g z,cv f.enc w.enc (Q1 l z))∈ft (.int g) f w l,aO P 20 s (f.enc e),VH P s (cv f.enc w.enc (Q1 l z)),QG (cv f.enc w.enc (Q1 l z)) (f.enc e) zz.pe.soft (cv f.enc w.enc (fB (Q1 l z) e y)),ft (.int g) f w (jD l z (fB (Q1 l z) e y))=gm (ft (.int g) f w l) (.int g z) (cv f.enc w.enc (fB (Q1 l z) e y))],
     ⟨XJ F z,qJ F l,TZ h9,XJ U e,lh (XJ U) _,by rw[jB zz w y h60];exact tU (lx U) _ _ _,UC l z _,aw⟩,λS=> ?_⟩)⟩
    .unfold aU;rw[ho]
    .unfold bm;rw[ho]
    .unfold bZ;rw[ho];dsimp only;rw[X,hv];dsimp only[TD.er];rw[Q,hz,qq h41,qK j]
     try dsimp only
     rw[yaa,yaa,yaa,yw]
     try dsimp only
     rw[Y]
     try dsimp only
     rw[yW (by rw[iQ U,h8];rfl),YA (Wc j rfl rfl)];rfl
   .cases h
  .cases h
 .rename_i id;split at h
  .rename_i s W v G g f w l X j;obtain⟨kd,Z,h⟩:=yf.1 h;obtain⟨e,h3,h⟩:=yf.1 h;split at h
   .rename_i A v2 hvd;split at h
    .rename_i T a b E;obtain⟨M,hh⟩:=Za h;simp only[yi]at M;obtain⟨F,h8⟩:=M;have Q:=Zk (L:=lk H) Z;rw[kB h3]at Q;have hz:=Zk (L:=lk H) hvd
     have hne:id≠A:=λq=>by
      rw[q,E]at j;cases j
     have m:(H.set id (.cN (v+1) G (.int g) f w (jD l e [])))[A]? =ab (.dW T a b []):=by rw[List.getElem?_set_ne hne];exact E
     have hp:(aA H)[A]? =ab (.bA T []):=ZD E
     refine⟨_,_,_,_,_,hh,by rw[VR m rfl rfl,VR j rfl rfl],rfl,cJ (⟨rfl,λS=> ?_,λS=> ?_,[aO P 20 s ((Ty.int g).enc e),fH P s (ft (.int g) f w l),ft (.int g) f w (jD l e [])=gm (ft (.int g) f w l) ((Ty.int g).enc e) []],
      ⟨XJ F e,qJ F l,UC l e [],aw⟩,λS=> ?_⟩)⟩
     .unfold aU;rw[ho]
     .unfold bm;rw[ho]
     .unfold bZ;rw[ho];dsimp only;rw[X,hv];dsimp only[TD.er];rw[Q,hz,qK j]
      try dsimp only[TD.er]
      rw[yaa,yw]
      try dsimp only
      rw[hp]
      try dsimp only
      rw[yW (by rw[iQ F,h8];rfl),YA (Wc m rfl rfl),Wc j rfl rfl,YA (Wc j rfl rfl)];rfl
    .cases h
   .cases h
  .cases h
 .cases h
def ov(P:yg)(t:yb)(all:yL TD)(H:yL ah)(K:Kn O)(f g:yb->yO TD):TD->yO O
 |.mp id=>match P.underlying t with
  |some (.map e h)=>(mR H id).bind λm=>(f e).bind λx=>(kA x m.k).bind λc=>((g h).bind (TD.flat (lk H))).bind λz=>(TP.to gZ z m.v).bind λy=>
   if fZ P e m.k=ae then K all .an (H.set id (.map m.tid m.k m.v (@fB m.k.aE m.v.aE (Ty.cY m.k) m.l c y))) [.aN (cv m.k.enc m.v.enc (@fB m.k.aE m.v.aE (Ty.cY m.k) m.l c y))] 2 else ad
  |_=>ad
 |_=>ad
theorem Zxw{t:yb}{x k v:yo}{A:TD}(ho:o.op=.mapUpdate t x k v)(hx:aS P ts t x=ab A)(h:ov P t all H K (λf=>aS P ts f k) (λE=>aS P ts E v) A=ab out):
 ∃a d H' hs c,K a d H' hs c=ab out/\Good P o ts all H a d H' hs c:=by
 have M:=Zk (L:=lk H) hx;unfold ov at h;split at h
 .rename_i id;split at h
  .rename_i f E Q;obtain⟨m,S,h⟩:=yf.1 h;obtain⟨kd,T,h⟩:=yf.1 h;obtain⟨e,U,h⟩:=yf.1 h;obtain⟨z,W,h⟩:=yf.1 h;obtain⟨zd,j,s⟩:=yf.1 W;obtain⟨y,X,h⟩:=yf.1 h;obtain⟨g,h⟩:=Za h;obtain⟨F,Y⟩:=ou S;have G:=Zk (L:=lk H) T;rw[kB U]at G;have Z:=Zk (L:=lk H) j
   letI:=Ty.cY m.k
   refine⟨_,_,_,_,_,h,VR F rfl rfl,rfl,cJ (⟨rfl,λI=> ?_,λI=> ?_,[aO P 20 f (m.k.enc e),VH P f (cv m.k.enc m.v.enc m.l),QG (cv m.k.enc m.v.enc m.l) (m.k.enc e) z.pe.soft (cv m.k.enc m.v.enc (fB m.l e y))],
    ⟨XJ g e,lh (XJ g) _,by rw[jB z m.v y X];exact tU (lx g) _ _ _,aw⟩,λI=> ?_⟩)⟩
   .unfold aU;rw[ho]
   .unfold bm;rw[ho]
   .unfold bZ;rw[ho];dsimp only;rw[Q,M];dsimp only[TD.er];rw[G,Z,qq s,Y]
    try dsimp only
    rw[yaa,yw]
    try dsimp only
    rw[yW (iQ g),YA (Wc F rfl rfl)];rfl
  .cases h
 .cases h
theorem Zxx{t:yb}{x k v:yo}{A:TD}(ho:o.op=.insert t x k v)(hx:aS P ts t x=ab A)(h:ov P t all H K (λf=>aS P ts f k) (λE=>aS P ts E v) A=ab out):
 ∃a d H' hs c,K a d H' hs c=ab out/\Good P o ts all H a d H' hs c:=by
 have M:=Zk (L:=lk H) hx;unfold ov at h;split at h
 .rename_i id;split at h
  .rename_i f E Q;obtain⟨m,S,h⟩:=yf.1 h;obtain⟨kd,T,h⟩:=yf.1 h;obtain⟨e,U,h⟩:=yf.1 h;obtain⟨z,W,h⟩:=yf.1 h;obtain⟨zd,j,s⟩:=yf.1 W;obtain⟨y,X,h⟩:=yf.1 h;obtain⟨g,h⟩:=Za h;obtain⟨F,Y⟩:=ou S;have G:=Zk (L:=lk H) T;rw[kB U]at G;have Z:=Zk (L:=lk H) j
   letI:=Ty.cY m.k
   refine⟨_,_,_,_,_,h,VR F rfl rfl,rfl,cJ (⟨rfl,λI=> ?_,λI=> ?_,[aO P 20 f (m.k.enc e),VH P f (cv m.k.enc m.v.enc m.l),QG (cv m.k.enc m.v.enc m.l) (m.k.enc e) z.pe.soft (cv m.k.enc m.v.enc (fB m.l e y))],
    ⟨XJ g e,lh (XJ g) _,by rw[jB z m.v y X];exact tU (lx g) _ _ _,aw⟩,λI=> ?_⟩)⟩
   .unfold aU;rw[ho]
   .unfold bm;rw[ho]
   .unfold bZ;rw[ho];dsimp only;rw[Q,M];dsimp only[TD.er];rw[G,Z,qq s,Y]
    try dsimp only
    rw[yaa,yw]
    try dsimp only
    rw[yW (iQ g),YA (Wc F rfl rfl)];rfl
  .cases h
 .cases h
def CO(P:yg)(t:yb)(all:yL TD)(H:yL ah)(K:Kn O)(e:yO TD):TD->yO O
 |.mp id=>match P.underlying t with
  |some (.map f g)=>(mR H id).bind λm=>e.bind λx=>(kA x m.k).bind λc=>
   if fZ P f m.k=ae then K all (.bf []) (H.set id (.map m.tid m.k m.v (@oh m.k.aE m.v.aE (Ty.cY m.k) m.l c))) [.aN (cv m.k.enc m.v.enc (@oh m.k.aE m.v.aE (Ty.cY m.k) m.l c))] 2 else ad
  |_=>ad
 |_=>ad
theorem Zxz{t u:yb}{x k:yo}{c:Call}{g:TD}(ho:o.op=.call c)(hc:c.callee=.builtin .delete)(ha:c.args.toList=[x,k])(ht:c.argTypes.toList=[t,u])(hx:aS P ts t x=ab g)
 (h:CO P t all H K (aS P ts u k) g=ab out):∃a d H' hs c,K a d H' hs c=ab out/\Good P o ts all H a d H' hs c:=by
 have A:=Zk (L:=lk H) hx;unfold CO at h;split at h
 .rename_i id;split at h
  .rename_i j Q E;obtain⟨m,F,h⟩:=yf.1 h;obtain⟨S,G,h⟩:=yf.1 h;obtain⟨e,I,h⟩:=yf.1 h;obtain⟨f,h⟩:=Za h;obtain⟨s,M⟩:=ou F;have y:=Zk (L:=lk H) G;rw[kB I]at y
   letI:=Ty.cY m.k
   refine⟨_,_,_,_,_,h,VR s rfl rfl,rfl,cJ (⟨rfl,λz=> ?_,λz=> ?_,[aO P 20 j (m.k.enc e),VH P j (cv m.k.enc m.v.enc m.l),fT (cv m.k.enc m.v.enc m.l) (m.k.enc e) (cv m.k.enc m.v.enc (oh m.l e))],
    ⟨XJ f e,lh (XJ f) _,SG (lx f) _ _,aw⟩,λz=> ?_⟩)⟩
   .unfold aU;rw[ho];dsimp only;rw[hc]
   .unfold bm;rw[ho];dsimp only;rw[hc]
   .unfold bZ;rw[ho];dsimp only;rw[hc];dsimp only;rw[ha,ht];dsimp only;rw[E,A];dsimp only[TD.er];rw[y,M]
    try dsimp only
    rw[yaa,yw]
    try dsimp only
    rw[yW (iQ f),YA (Wc s rfl rfl)];rfl
  .cases h
 .cases h
def TP.iR(x:TP)(T:Ty):Bool:=
 match x with
 |.sl (ab af) t []=>ag (t.size=T.size)
 |_=>af
theorem CP{x:TP}{T:Ty}(h:x.iR T=ae):x.pe=.sl (ab af) T.size []:=by
 unfold TP.iR at h;split at h
 .rename_i t;show Pl.sl (ab af) t.size []=_;rw[yF h]
 .cases h
def iw(T:Ty)(new:TD):yL Nat->TD->yO TD
 |[],.p x=>if x.iR T then ab new else ad
 |i::r,.p x=>x.parts.bind λl=>(l[i]?).bind λz=>(iw T new r (.p z)).map λy=>.agg ((l.map .p).set i y)
 |i::r,.agg c=>(c[i]?).bind λz=>(iw T new r z).map λy=>.agg (c.set i y)
 |_,_=>ad
theorem mV{L:Lk}{T:Ty}{new:TD}:∀(yM:yL Nat)(d d':TD),iw T new yM d=ab d'->XD (d.er L) yM T.size (new.er L)=ab (d'.er L)
 |[],d,d',h=>by
  cases d with
  |p x=>
   simp only[iw]at h;split at h
   .rename_i f;cases h;rw[TD.er,CP f];simp[XD]
   .cases h
  |_=>cases h
 |i::r,d,d',h=>by
  cases d with
  |p x=>
   simp only[iw]at h;obtain⟨l,g,h⟩:=yf.1 h;obtain⟨z,c,h⟩:=yf.1 h;obtain⟨y,e,rfl⟩:=Zd h;have:=mV (L:=L) r (.p z) y e;rw[TD.er,zR g];unfold XD;rw[show(TP.bQ l)[i]? =ab z.pe by rw[VI,yah,c];rfl];dsimp only;rw[TD.er]at this
   rw[this,yz,TD.er,ZC,ybl, <-ZC,BQ]
  |agg j=>
   simp only[iw]at h;obtain⟨z,c,h⟩:=yf.1 h;obtain⟨y,e,rfl⟩:=Zd h;have:=mV (L:=L) r z y e;rw[TD.er];unfold XD;rw[QH c];dsimp only
   rw[this,yz,TD.er,ZC,ZC,ybl]
  |_=>cases h
def qL(d:TD)(n:Nat):yL (yL Nat×Ty×yb)->yO (TD×yL (Ty×yb))
 |[]=>ab (d,[])
 |q::r=>(iw q.2.1 (.own n ad q.2.1 ad) q.1 d).bind λc=>(qL c (n+1) r).map λz=>(z.1,(q.2.1,q.2.2)::z.2)
def qM(l:yL (yL Nat×Ty×yb)):yL aj:=l.map λq=>.aZ q.1 q.2.1.size q.2.2
def lz(l:yL (Ty×yb)):yL ah:=l.map λq=>.log q.1 q.2 []
def UD(L:Lk)(n:Nat):Prop:=∀id t,n<=id->Yb L id t ad=[]
theorem CQ{L:Lk}:∀(l:yL (yL Nat×Ty×yb))(d:TD)(n:Nat)(z:TD×yL (Ty×yb)),UD L n->qL d n l=ab z->∀yJ,
 YM (d.er L) n (qM l++.raw::yJ)=(z.1.er L,z.2.map (λq=>ar.log q.1.size q.2 []),.raw::yJ)
 |[],d,n,z,c,h,yJ=>by cases h;rfl
 |q::r,d,n,z,c,h,yJ=>by
  simp only[qL]at h;obtain⟨f,g,h⟩:=yf.1 h;obtain⟨w,j,rfl⟩:=Zd h;have e:=mV (L:=L) q.1 d f g;rw[TD.er,c n q.2.1 (ym _)]at e;have m:=CQ r f (n+1) w (λid t h=>c id t (by omega)) j yJ;show YM (d.er L) n (.aZ q.1 q.2.1.size q.2.2::(qM r++.raw::yJ))=_;unfold YM;rw[show XD (d.er L) q.1 q.2.1.size (Dv.own n ad q.2.1.size [])=ab (f.er L) from e]
  dsimp only;rw[m];rfl
theorem UE(H:yL ah):UD (lk H) H.length:=λid t h=>by
 unfold Yb lk;rw[yat h];rfl
theorem CR:∀(l:yL (Ty×yb))(H:yL ah),(∀id t,Yb (lk H) id t ad=Yb (lk (H++lz l)) id t ad)/\aA (H++lz l)=aA H++l.map (λq=>ar.log q.1.size q.2 [])
 |[],H=>by simp[lz]
 |q::l,H=>by
  have e:H++lz (q::l)=(H++[.log q.1 q.2 []])++lz l:=by simp[lz]
  obtain⟨c,f⟩:=CR l (H++[.log q.1 q.2 []]);rw[e];refine⟨λid t=>(uo id t).trans (c id t), ?_⟩;rw[f,CB];simp
def newVar(hi:HI)(dst:yO Tmp)(d:TD)(all:yL TD)(H:yL ah)(K:Kn O):yO O:=
 match dst with
 |some t=>match hi.aZ.lookup t with
  |some l=>(qL d (H.length+1) l).bind λz=>K all (.am H.length []) (H++[.var z.1 ae]++lz z.2) (qM l++[.raw]) 2
  |none=>K all (.am H.length []) (H++[.var d ae]) [.raw] 2
 |none=>ad
theorem UF{hi:HI}{dst:yO Tmp}{d:TD}(h:newVar hi dst d all H K=ab out):
 ∃H' hs c e,K all (.am H.length []) H' hs 2=ab out/\TD.au (lk H') all=TD.au (lk H) all/\aA H'=aA H++ar.var c ae::e/\∀yJ,YM (d.er (lk H)) ((aA H).length+1) (hs++yJ)=(c,e,.raw::yJ):=by
 unfold newVar at h;split at h
 .rename_i t;split at h
  .rename_i l s;obtain⟨z,g,h⟩:=yf.1 h;obtain⟨j,m⟩:=CR z.2 (H++[.var z.1 ae]);have f:lk (H++[.var z.1 ae])=lk H:=hP rfl;refine⟨_,_,z.1.er (lk H),z.2.map (λq=>ar.log q.1.size q.2 []),h, ?_, ?_,λyJ=> ?_⟩
   .rw[<-cb j all,f]
   .rw[m,Q0 f];simp[ah.er]
   .rw[ZE,yac];exact CQ l d _ z (λid t x=>UE H id t (by omega)) g yJ
  .refine⟨_,_,d.er (lk H),[],h,kD rfl, ?_,λyJ=> ?_⟩
   .rw[Q0 (hP rfl)];rfl
   .rfl
 .cases h
def CS(P:yg)(hi:HI)(dst:yO Tmp)(t:yb)(all:yL TD)(H:yL ah)(K:Kn O):yO O:=
 (P.info? t).bind λi=>(kC P t).bind λz=>if(bP i&&gv P t (YI P t)&&(YI P t).bt)=ae then newVar hi dst (.p z) all H K else ad
theorem Zz3{hi:HI}{t:yb}(ho:o.op=.alloc t)(h:CS P hi o.dst t all H K=ab out):∃a d H' hs c,K a d H' hs c=ab out/\Good P o ts all H a d H' hs c:=by
 unfold CS at h;obtain⟨i,g,h⟩:=yf.1 h;obtain⟨z,j,h⟩:=yf.1 h;obtain⟨l,h⟩:=Za h;obtain⟨H',hs,A,E,m,s,x,y⟩:=UF h;refine⟨_,_,_,_,_,m,s,rfl,cJ (⟨rfl,λe=> ?_,λe=> ?_,[],zZ,λe=> ?_⟩)⟩
 .unfold aU;rw[ho]
 .unfold bm;rw[ho]
 .have f:=y e;rw[TD.er, <-mS j]at f;unfold bZ;rw[ho];dsimp only;rw[g];dsimp only;rw[f];dsimp only;rw[yW l,x,ZE];rfl
def uq(L:Lk)(d:TD):TD:=
 match d.plain L with
 |some y=>.p y
 |none=>d
theorem ZKg{L:Lk}(d:TD):(uq L d).er L=lX (d.er L):=by
 unfold uq lX
 cases h:d.plain L with
 |none=>rw[TL h]
 |some y=>rw[SV h];rfl
def CT(hi:HI)(dst:yO Tmp)(all:yL TD)(H:yL ah)(K:Kn O)(d:TD):yO O:=
 if((uq (lk H) d).er (lk H)).bt=ae then newVar hi dst (uq (lk H) d) all H K else ad
theorem ZFm{hi:HI}{t:yb}{x:yo}{f:TD}(ho:o.op=.box t x)(hx:aS P ts t x=ab f)(h:CT hi o.dst all H K f=ab out):∃a d H' hs c,K a d H' hs c=ab out/\Good P o ts all H a d H' hs c:=by
 have l:=Zk (L:=lk H) hx;unfold CT at h;obtain⟨g,h⟩:=Za h;obtain⟨H',hs,A,E,m,s,y,z⟩:=UF h;refine⟨_,_,_,_,_,m,s,rfl,cJ (⟨rfl,λe=> ?_,λe=> ?_,[],zZ,λe=> ?_⟩)⟩
 .unfold aU;rw[ho]
 .unfold bm;rw[ho]
 .have j:=z e;rw[ZKg]at j g;unfold bZ;rw[ho];dsimp only;rw[l,j];dsimp only;rw[yW g,y,ZE];rfl
def TD.cB(L:Lk)(v:TD):TD:=
 match v.flat L with
 |some x=>.p x
 |none=>v
theorem CU{L:Lk}(v:TD):(v.cB L).er L=(v.er L).cB:=by
 unfold TD.cB Dv.cB;rw[qp];cases v.flat L <;> rfl
def ur(L:Lk)(yM:yL bN)(d v:TD):yO TD:=
 match d,yM with
 |.p _,_=>ab (v.cB L)
 |_,[]=>ab (v.cB L)
 |_,_=>ab v
theorem CV{L:Lk}{yM:yL bN}{d v new:TD}(h:ur L yM d v=ab new):io (yM.map bN.i) (d.er L) (v.er L)=ab (new.er L):=by
 unfold ur at h;split at h
 .cases h;unfold io;rw[TD.er];dsimp only;rw[CU]
 .cases h;unfold io;split
  .rw[CU]
  .simp only[List.map_nil];rw[CU]
 .rename_i c e;cases h;unfold io;split
  .rename_i z f;cases d <;> first|cases f|skip
   rename_i q;exact absurd rfl (c q)
  .cases yM with
   |nil=>exact absurd rfl e
   |cons _ _=>rfl
def lA(P:yg)(t:yb)(new sub:Dv):Bool:=new.bt&&new.size==sub.size&&P.cellsOf t==new.size&&(P.info? t).isSome&&new.isAgg==sub.isAgg
def ZNu(hi:HI):yo->yL (yL Nat×Ty×yb)
 |.tmp t=>(hi.cO.lookup t).getD []
 |_=>[]
def CW(P:yg)(gs:yL (yL Nat×Ty×yb))(t:yb)(all:yL TD)(H:yL ah)(K:Kn O)(v:TD):TD->yO O
 |.am id g=>match H[id]? with
  |some (.var d ae)=>ei (lk H) g d λsub hs f=>(ur (lk H) g d v).bind λc=>(f c).bind λh=>(qL h H.length gs).bind λz=>
   if lA P t (c.er (lk H)) (sub.er (lk H))=ae then K all .an (H.set id (.var z.1 ae)++lz z.2) (hs++(qM gs++[.raw])) 2 else ad
  |_=>ad
 |.aW id j g=>match H[id]? with
  |some (.row w s ae e d)=>ei (lk H) g d λsub hs f=>(ur (lk H) g d v).bind λc=>(f c).bind λh=>
   if(lA P t (c.er (lk H)) (sub.er (lk H))&&w==j&&aJ (h.er (lk H)) s==aJ (d.er (lk H)) s)=ae then K all .an (H.set id (.row j s ae e h)) hs 2 else ad
  |_=>ad
 |_=>ad
theorem Zz4{gs:yL (yL Nat×Ty×yb)}{t:yb}{x y:yo}{Y Z:TD}(ho:o.op=.store t x y)(hx:aS P ts 0 x=ab Y)(hy:aS P ts t y=ab Z)(h:CW P gs t all H K Z Y=ab out):
 ∃a d H' hs c,K a d H' hs c=ab out/\Good P o ts all H a d H' hs c:=by
 have hv:=Zk (L:=lk H) hx;have hw:=Zk (L:=lk H) hy;unfold CW at h;split at h
 .rename_i id E;split at h
  .rename_i d A;obtain⟨sub,hs,I,C,M,Q,S,T⟩:=X2 _ _ _ _ h;obtain⟨j,U,f⟩:=yf.1 M;obtain⟨F,W,f⟩:=yf.1 f;obtain⟨z,X,f⟩:=yf.1 f;obtain⟨l,f⟩:=Za f;unfold lA at l;obtain⟨g1,g2⟩:=CR z.2 (H.set id (.var z.1 ae));have G:lk (H.set id (.var z.1 ae))=lk H:=Wc A rfl rfl;refine⟨_,_,_,_,_,f, ?_,rfl,cJ (⟨rfl,λg=> ?_,λg=> ?_,C++[dF E=WW E],Zj.2 ⟨Q,(Ws _).symm,aw⟩,λg=> ?_⟩)⟩
   .rw[<-cb g1 all,G]
   .unfold aU;rw[ho]
   .unfold bm;rw[ho]
   .have k5:=CQ gs F H.length z (UE H) X g;unfold bZ;rw[ho];dsimp only;rw[hv,hw];dsimp only[TD.er];rw[ZD A];dsimp only[ah.er];rw[yac,S (qM gs++[aj.raw]++g)];dsimp only;rw[CV U];dsimp only;rw[T j F W _];dsimp only;rw[yW l,ZE,yac];rw[show([aj.raw]++g)=.raw::g from rfl,k5]
    dsimp only;rw[g2,YA G];rfl
  .cases h
 .rename_i id v' E;split at h
  .rename_i w s e d A;obtain⟨sub,hs,I,C,M,Q,S,T⟩:=X2 _ _ _ _ h;obtain⟨j,U,f⟩:=yf.1 M;obtain⟨F,W,f⟩:=yf.1 f;obtain⟨l,f⟩:=Za f;rw[yi,yi]at l;obtain⟨⟨l,X⟩,h6⟩:=l;have m:=l;unfold lA at m;have G:lk (H.set id (.row v' s ae e F))=lk H:=Wc A rfl rfl;refine⟨_,_,_,_,_,f,VR A rfl rfl,rfl,cJ (⟨rfl,λg=> ?_,λg=> ?_,C++[dF E=WW E],Zj.2 ⟨Q,(Ws _).symm,aw⟩,λg=> ?_⟩)⟩
   .unfold aU;rw[ho]
   .unfold bm;rw[ho]
   .unfold bZ;rw[ho];dsimp only;rw[hv,hw];dsimp only[TD.er];rw[ZD A];dsimp only[ah.er];rw[S g];dsimp only;rw[CV U];dsimp only;rw[T j F W _];dsimp only;rw[yW (by simp only[yi]at m ⊢;exact⟨⟨m,X⟩,h6⟩),YA G];rfl
  .cases h
 .cases h
def CX(P:yg)(ts:yL TD)(t:yb)(len:Nat)(parts:yL (Nat×yo))(all:yL TD)(H:yL ah)(K:Kn O):yO O:=
 mN (lk H) P ts t len parts λT l e=>K all (.rv H.length 0 T.size 0 len) (H++[.row 0 T.size ae e (.p (.v (.arr len T) l))]) [.arr] 2
theorem ZxD{t:yb}{len:Nat}{parts:Array (Nat×yo)}(ho:o.op=.buildSlice t len parts)(h:CX P ts t len parts.toList all H K=ab out):
 ∃a d H' hs c,K a d H' hs c=ab out/\Good P o ts all H a d H' hs c:=by
 unfold CX at h;obtain⟨e,T,l,i,z,g,j,m,s,x,hs,y⟩:=qA h;refine⟨_,_,_,_,_,g,kD rfl,rfl,cJ (⟨rfl,λf=> ?_,λf=> ?_,[],zZ,λf=> ?_⟩)⟩
 .unfold aU;rw[ho];rfl
 .unfold bm;rw[ho]
 .unfold bZ;rw[ho];dsimp only;rw[yaa,yw];dsimp only;rw[j];dsimp only;rw[m,s];dsimp only;rw[yW (by simpa using x),y,Q0 (hP rfl),ZE,hs];rfl
def qN(P:yg)(ts:yL TD)(e:yb):yL (Nat×yo)->yO (yL TD)
 |[]=>ab []
 |q::r=>match aS P ts e q.2,qN P ts e r with
  |some d,ab c=>ab (d::c)
  |_,_=>ad
theorem UG{L:Lk}{e:yb}:∀{parts:yL (Nat×yo)}{c:yL TD},qN P ts e parts=ab c->(parts.map λq=>Zo P (TD.au L ts) e q.2)=TD.au L c
 |[],c,h=>by cases h;rfl
 |q::r,c,h=>by
  simp only[qN]at h;split at h
  .rename_i d l f g;cases h;rw[yaf,Zk f,UG g,TD.au]
  .cases h
def ZNv(P:yg)(ts:yL TD)(t:yb)(L:Lk)(parts:yL (Nat×yo)):Bool:=
 match P.underlying t with
 |some (.slice e)=>match qN P ts e parts with
  |some c=>c.all λd=>(d.flat L).isSome
  |none=>ae
 |_=>ae
def CY(P:yg)(ts:yL TD)(t:yb)(len:Nat)(parts:yL (Nat×yo))(all:yL TD)(H:yL ah)(K:Kn O):yO O:=
 match P.underlying t with
 |some (.slice e)=>(P.info? e).bind λi=>(qN P ts e parts).bind λc=>
  if((parts.map (·.1)==List.range len)&&((TD.au (lk H) c).all λd=>d.bt&&d.size==P.cellsOf e)&&(bP i&&i.size !=0&&ag (len*i.size<=16777216)))=ae then
   K all (.rv H.length 0 i.size 0 len) (H++[.row 0 i.size ae e (.arr len i.size c)]) [.raw] 2 else ad
 |_=>ad
theorem ZuE{t:yb}{len:Nat}{parts:Array (Nat×yo)}(ho:o.op=.buildSlice t len parts)(h:CY P ts t len parts.toList all H K=ab out):
 ∃a d H' hs c,K a d H' hs c=ab out/\Good P o ts all H a d H' hs c:=by
 unfold CY at h;split at h
 .rename_i e j;obtain⟨i,l,h⟩:=yf.1 h;obtain⟨m,s,h⟩:=yf.1 h;obtain⟨f,x⟩:=Za h;rw[yi,yi]at f;refine⟨_,_,_,_,_,x,kD rfl,rfl,cJ (⟨rfl,λg=> ?_,λg=> ?_,[],zZ,λg=> ?_⟩)⟩
  .unfold aU;rw[ho];rfl
  .unfold bm;rw[ho]
  .unfold bZ;rw[ho];dsimp only;rw[yaa,yw];dsimp only;rw[j];dsimp only
   have y:nO P (TD.au (lk H) ts) e (P.cellsOf e) len parts.toList=ab (TD.au (lk H) m):=by
    unfold nO;rw[yW f.1.1,UG s,yW f.1.2]
   rw[l,y];dsimp only;rw[yW (by simpa using f.2),Q0 (hP rfl),ZE];rfl
 .cases h
def CZ(P:yg)(ts:yL TD)(t:yb)(len:Nat)(parts:yL (Nat×yo))(all:yL TD)(H:yL ah)(K:Kn O):yO O:=
 mN (lk H) P ts t len parts λT l e=>if(TD.frees H.length all&&H.all (ah.free H.length))=ae then K all (.own H.length (ab ae) T ad) (H++[.log T e l]) [.own] 2 else ad
theorem ZxF{t:yb}{len:Nat}{parts:Array (Nat×yo)}(ho:o.op=.buildSlice t len parts)(h:CZ P ts t len parts.toList all H K=ab out):
 ∃a d H' hs c,K a d H' hs c=ab out/\Good P o ts all H a d H' hs c:=by
 unfold CZ at h;obtain⟨e,T,l,i,A,f,m,s,x,y,hs,z⟩:=qA h;obtain⟨g,f⟩:=Za f;rw[yi]at g;refine⟨_,_,_,_,_,f,mT g.1,rfl,cJ (⟨rfl,λj=> ?_,λj=> ?_,[],zZ,λj=> ?_⟩)⟩
 .unfold aU;rw[ho];rfl
 .unfold bm;rw[ho]
 .unfold bZ;rw[ho];dsimp only;rw[yaa,yw];dsimp only;rw[m];dsimp only;rw[s,x];dsimp only;rw[yW (by simpa using y),z,TT g.2,ZE,TD.er,mU,hs]
def qO(P:yg)(T:Ty)(u:yb)(H:yL ah)(K:yL T.aE->yL aj->yO O)(x:TD):yO O:=
 match x with
 |.view id c s lo n=>match P.underlying u with
  |some (.slice _)=>(mQ H id).bind λd=>ei (lk H) c d λsub hs _=>sub.inner.bind λy=>y.dk.bind λr=>(Ty.be r.t T r.l).bind λl=>
   if(ag (s=T.size))=ae then if(ag (lo+n<=r.n))=ae then K ((l.drop lo).take n) hs else ad else ad
  |_=>ad
 |.rv id v s lo n=>match P.underlying u,H[id]? with
  |some (.slice _),ab (.row w f _ _ d)=>d.inner.bind λy=>y.dk.bind λr=>(Ty.be r.t T r.l).bind λl=>
   if(ag (s=T.size)&&ag (f=T.size)&&w==v)=ae then if(ag (lo+n<=r.n))=ae then K ((l.drop lo).take n) [] else ad else ad
  |_,_=>ad
 |.rw id=>match P.underlying u,H[id]? with
  |some (.slice _),ab (.aF T' v st e g)=>(Ty.be T' T g).bind λl=>K l []
  |_,_=>ad
 |x=>(kv (lk H) P T u x).bind λl=>K l []
theorem DA{T:Ty}{u:yb}{x:TD}{K:yL T.aE->yL aj->yO O}(h:qO P T u H K x=ab out):
 ∃l hs C,K l hs=ab out/\aY C/\∀yJ,gV P T.size u (aA H) (hs++yJ) (x.er (lk H))=ab (C,l.map T.enc,yJ):=by
 unfold qO at h;split at h
 .rename_i id Q s lo n;split at h
  .rename_i e z;obtain⟨d,E,h⟩:=yf.1 h;obtain⟨st,h2,S⟩:=qG E;obtain⟨sub,hs,U,C,c,W,X,_⟩:=X2 _ _ _ _ h;obtain⟨y,F,c⟩:=yf.1 c;obtain⟨r,G,c⟩:=yf.1 c;obtain⟨l,g,c⟩:=yf.1 c;obtain⟨t,c⟩:=Za c;obtain⟨m,c⟩:=Za c;have t:=yF t;have m:=yF m
   have j:sub.er (lk H)=.p (.arr r.n T.size (l.map T.enc)):=by
    rw[Xo F,TD.er,V8 G];obtain⟨e,g⟩:=ZB g;obtain⟨Y,t0,Z⟩:=r;dsimp only at e g ⊢;subst e;subst g;rfl
   refine⟨_,_,C++[dF Q=WW Q,lo+n<=r.n],c,Zj.2 ⟨W,(Ws _).symm,m,aw⟩,λyJ=> ?_⟩;unfold gV;rw[TD.er];dsimp only;rw[z,S];dsimp only;rw[X yJ,j];dsimp only;rw[yW (by simp[t]),ycd,List.map_drop]
  .cases h
 .rename_i id v s lo n;split at h
  .rename_i e w s' st e' d z A;obtain⟨y,F,c⟩:=yf.1 h;obtain⟨r,G,c⟩:=yf.1 c;obtain⟨l,g,c⟩:=yf.1 c;obtain⟨t,c⟩:=Za c;obtain⟨m,c⟩:=Za c;simp only[yi,yP]at t;have m:=yF m
   have j:d.er (lk H)=.p (.arr r.n T.size (l.map T.enc)):=by
    rw[Xo F,TD.er,V8 G];obtain⟨e,g⟩:=ZB g;obtain⟨Y,t0,Z⟩:=r;dsimp only at e g ⊢;subst e;subst g;rfl
   refine⟨_,_,[lo+n<=r.n],c,⟨m,aw⟩,λyJ=> ?_⟩;unfold gV;rw[TD.er];dsimp only;rw[z,ZD A,ah.er,j];dsimp only;rw[yW (by simp[t]),ycd,List.map_drop];rfl
  .cases h
 .rename_i id;split at h
  .rename_i e T' v st e' l' z A;obtain⟨l,g,c⟩:=yf.1 h;obtain⟨eT,g⟩:=ZB g;subst eT;subst g;refine⟨l,[],[0+l.length<=l.length],c,⟨by omega,aw⟩,λyJ=> ?_⟩;unfold gV;rw[(QJ A).1];dsimp only;rw[z,ZD A,ah.er];dsimp only;rw[yW (by simp),List.drop_zero, <-yx (f:=T'.enc),List.take_length];simp
  .cases h
 .rename_i hx I M;obtain⟨l,E,h⟩:=yf.1 h;refine⟨l,[],[],h,zZ,λyJ=> ?_⟩;rw[yw];unfold gV;split
  .rename_i e;cases x <;> first|cases e|skip
   exact absurd rfl (hx _ _ _ _ _)
  .rename_i e;cases x <;> first|cases e|skip
   .exact absurd rfl (I _ _ _ _ _)
   .exact absurd rfl (M _)
  .rw[mO E];rfl
structure qP where
 t:Ty
 e:yb
 l:List t.aE
def DB(H:yL ah)(id:Nat):yO qP:=
 match H[id]? with
 |some (.log t e l)=>ab ⟨t,e,l⟩
 |_=>ad
theorem ZCm{id:Nat}{m:qP}(h:DB H id=ab m):H[id]? =ab (.log m.t m.e m.l):=by
 unfold DB at h;split at h
 .rename_i c;cases h;exact c
 .cases h
def bU(n m b:Nat):Bool:=ag ((n+m)*b<=Zn)&&ag (n+m<=maxLen)
def DC(P:yg)(own row:Bool)(t u:yb)(all:yL TD)(H:yL ah)(K:Kn O)(y:TD):TD->yO O
 |.own id nn T ad=>match P.underlying t with
  |some (.slice e)=>(P.info? e).bind λi=>(DB H id).bind λm=>(Ty.be m.t T m.l).bind λzs=>qO P T u H (λc hs=>
   if(bP i&&ag (i.size=T.size)&&ag (m.e=e)&&ag (T.size≠0))=ae then if bU zs.length c.length i.bytes=ae then
    K (TD.bT (lk H) id all) (.own id ad T ad) ((H.map (ah.stale (lk H) id)).set id (.log T e (zs++c))) hs 2 else ad else ad) y
  |_=>ad
 |.rv id v s lo n=>match P.underlying t with
  |some (.slice e)=>(P.info? e).bind λi=>(eZ P fJ e).bind λT=>qO P T u H (λc hs=>if c.isEmpty=ae then
    if(bP i&&ag (P.cellsOf e=T.size))=ae then K all (.rv id v s lo n) H (.bare::hs) 2 else ad
   else match H[id]? with
    |some (.row w f ae g d)=>d.inner.bind λy0=>y0.dk.bind λr=>(Ty.be r.t T r.l).bind λh=>
     if(bP i&&ag (i.size=T.size)&&ag (f=T.size)&&ag (g=e)&&ag (T.size≠0)&&w==v&&ag (lo=0)&&ag (s=T.size))=ae then if(ag (n<=r.n)&&bU n c.length i.bytes)=ae then
      K all (.rv id (v+1) s 0 (n+c.length)) (H.set id (.row (v+1) s ae e (.p (.v (.arr (n+c.length) T) (h.take n++c))))) (.raw::hs) 2 else ad else ad
    |_=>ad) y
  |_=>ad
 |.p (.sl (ab af) _ [])=>if row then match P.underlying t with
  |some (.slice e)=>(P.info? e).bind λi=>(eZ P fJ e).bind λT=>(kv (lk H) P T u y).bind λc=>
   if(bP i&&i.size !=0&&ag (i.size=T.size)&&ag (P.cellsOf e=T.size))=ae then if kq c.length i.bytes=ae then
    K all (.rv H.length 0 i.size 0 c.length) (H++[.row 0 i.size ae e (.p (.v (.arr c.length T) c))]) [.arr] 2 else ad else ad
  |_=>ad else if own then match P.underlying t with
  |some (.slice e)=>(P.info? e).bind λi=>(eZ P fJ e).bind λT=>(kv (lk H) P T u y).bind λc=>
   if(bP i&&i.size !=0&&ag (i.size=T.size)&&ag (P.cellsOf e=T.size)&&TD.frees H.length all&&H.all (ah.free H.length))=ae then if kq c.length i.bytes=ae then
    K all (.own H.length ad T ad) (H++[.log T e c]) [.own] 2 else ad else ad
  |_=>ad else ad
 |_=>ad
theorem ZHB{id:Nat}{T:Ty}{e:yb}{l:yL T.aE}(H:yL ah)(h:id < H.length):Yb (lk (H.set id (.log T e l))) id T ad=l:=by
 unfold Yb lk;dsimp only;rw[List.getElem?_set_self h];show(Ty.be T T l).getD []=l;unfold Ty.be;split
 .rfl
 .rename_i h _;exact absurd rfl h
theorem mW{L:Lk}{n:Nat}:∀(l:yL TD),(TD.bT L n l).length=l.length
 |[]=>rfl
 |_::r=>by rw[TD.bT,List.length_cons,List.length_cons,mW r]
def DD(H:yL ah):TD->TD
 |.own id nn T (ab zs)=>match H[id]? with
  |some (.log t e l)=>match Ty.be t T l with
   |some c=>if@decide (c=zs) (@instDecidableEqList T.aE (Ty.cY T) c zs)=ae then .own id nn T ad else .own id nn T (ab zs)
   |none=>.own id nn T (ab zs)
  |_=>.own id nn T (ab zs)
 |d=>d
theorem ZFn(d:TD):(DD H d).er (lk H)=d.er (lk H):=by
 unfold DD;split
 .rename_i id nn T zs;split
  .rename_i t e l f;split
   .rename_i g h;split
    .rename_i c;have c:=@of_decide_eq_true _ (@instDecidableEqList T.aE (Ty.cY T) g zs) c;rw[TD.er,TD.er]
     have:Yb (lk H) id T ad=zs:=by
      unfold Yb lk;dsimp only;rw[f];show(Ty.be t T l).getD []=zs;rw[h, <-c];rfl
     rw[this];rfl
    .rfl
   .rfl
  .rfl
 .rfl
theorem ZxH{own row:Bool}{t u:yb}{x y:yo}{c:Call}{xd yd:TD}(ho:o.op=.call c)(hc:c.callee=.builtin .append)(ha:c.args.toList=[x,y])(ht:c.argTypes.toList=[t,u])
 (hv:Zo P (TD.au (lk H) ts) t x=xd.er (lk H)) (hy:aS P ts u y=ab yd) (h:DC P own row t u all H K yd xd=ab out):∃a d H' hs c,K a d H' hs c=ab out/\Good P o ts all H a d H' hs c:=by
 have S:=Zk (L:=lk H) hy;unfold DC at h;split at h
 .rename_i id nn T;split at h
  .rename_i e l;obtain⟨i,A,h⟩:=yf.1 h;obtain⟨m,Z,h⟩:=yf.1 h;obtain⟨zs,E,h⟩:=yf.1 h;obtain⟨g,hs,C,F,k2,k3⟩:=DA h;obtain⟨j,k6⟩:=Za F;obtain⟨z,kk⟩:=Za k6;clear F k6;simp only[yi,yP]at j;obtain⟨⟨⟨I,M⟩,G⟩,Q⟩:=j;simp only[bU,yi,yP]at z;have hl:=ZCm Z;obtain⟨mt,me,ml⟩:=m;dsimp only at E G hl;obtain⟨eT,E⟩:=ZB E;subst eT;subst E;subst G;have hlt:id < H.length:=(List.getElem?_eq_some_iff.1 hl).1
   have ec:Yb (lk H) id mt ad=zs:=by
    unfold Yb lk;dsimp only;rw[hl];show(Ty.be mt mt zs).getD []=zs;unfold Ty.be;split
    .rfl
    .rename_i h _;exact absurd rfl h
   refine⟨_,_,_,_,_,kk,bE (λid' t hn=>Ve (lk H) id' t hn) all,mW all,cJ (⟨rfl,λf=> ?_,λf=> ?_,
    C++[zs.map mt.enc=zs.map mt.enc,((zs.map mt.enc).length+(g.map mt.enc).length)*i.bytes<=Zn,(zs.map mt.enc).length+(g.map mt.enc).length<=maxLen],Zj.2 ⟨k2,rfl,by simpa using z.1,by simpa using z.2,aw⟩,λf=> ?_⟩)⟩
   .unfold aU;rw[ho];dsimp only;rw[hc];dsimp only;rw[ha,ht];split
    .rename_i e1 e2 e3;simp only[List.cons.injEq,and_true]at e1 e2;obtain⟨rfl,rfl⟩:=e1;obtain⟨rfl,rfl⟩:=e2;rw[l,hv];rfl
    .rfl
   .unfold bm;rw[ho];dsimp only;rw[hc]
   .unfold bZ;rw[ho];dsimp only;rw[hc];dsimp only;rw[ha,ht];dsimp only;rw[l,hv,S];dsimp only[TD.er];rw[ec,A,k3 f,ZD hl];dsimp only[ah.er];rw[yW (by simp[I,M,Q]),ZHu,ZHB _ (by rw[yx];exact hlt),yaq]
  .cases h
 .rename_i id v s lo n;split at h
  .rename_i e l;obtain⟨i,A,h⟩:=yf.1 h;obtain⟨T,Z,h⟩:=yf.1 h;obtain⟨g,hs,C,F,k2,k3⟩:=DA h
   have nN:∀hs,aU P o (TD.au (lk H) ts) hs=ad:=λhs=>by
    unfold aU;rw[ho];dsimp only;rw[hc];dsimp only;rw[ha,ht]
    cases hs with
    |nil=>rfl
    |cons h0 hr=>cases h0 <;> first|rfl|(dsimp only;rw[l,hv];rfl)
   have nR:∀hs,bm P o (TD.au (lk H) ts) (aA H) hs=ad:=λhs=>by
    unfold bm;rw[ho];dsimp only;rw[hc]
   split at F
   .rename_i U;obtain⟨j,z⟩:=Za F;simp only[yi,yP]at j;have hys:g=[]:=by simpa using U
    refine⟨_,_,_,_,_,z,rfl,rfl,cJ (⟨rfl,λf=>nN _,λf=>nR _,C++[g.map T.enc=[]],Zj.2 ⟨k2,by rw[hys];rfl,aw⟩,λf=> ?_⟩)⟩;unfold bZ;rw[ho];dsimp only;rw[hc];dsimp only;rw[ha,ht];dsimp only;rw[l,hv,S];dsimp only[TD.er];rw[yaa];dsimp only;rw[A,j.2,k3 f];dsimp only;rw[yW j.1]
   .split at F
    .rename_i w s' e' d hd;obtain⟨y0,p1,q1⟩:=yf.1 F;obtain⟨r,p2,q2⟩:=yf.1 q1;obtain⟨xs,p3,q3⟩:=yf.1 q2;obtain⟨p4,q4⟩:=Za q3;obtain⟨p5,q5⟩:=Za q4;simp only[yi,yP,yT]at p4;obtain⟨⟨⟨⟨⟨⟨⟨I,M⟩,G⟩,Q⟩,g5⟩,g6⟩,W⟩,X⟩:=p4;simp only[bU,yi,yP]at p5
     have Y:d.er (lk H)=.p (.arr r.n T.size (xs.map T.enc)):=by
      rw[Xo p1,TD.er,V8 p2];obtain⟨e,p3⟩:=ZB p3;obtain⟨n0,t0,l0⟩:=r;dsimp only at e p3 ⊢;subst e;subst p3;rfl
     refine⟨_,_,_,_,_,q5,VR hd rfl rfl,rfl,cJ (⟨rfl,λf=>nN _,λf=>nR _,C++[n<=r.n,(n+(g.map T.enc).length)*i.bytes<=Zn,n+(g.map T.enc).length<=maxLen,ae=ae\/n=r.n],
      Zj.2 ⟨k2,p5.1,by simpa using p5.2.1,by simpa using p5.2.2,.inl rfl,aw⟩,λf=> ?_⟩)⟩
     unfold bZ;rw[ho];dsimp only;rw[hc];dsimp only;rw[ha,ht];dsimp only;rw[l,hv,S];dsimp only[TD.er];rw[yaa];dsimp only;rw[A,X,k3 f,ZD hd,ah.er,Y];dsimp only;rw[yW (by simp[I,M,G,Q,g5,g6,W]),YA (Wc hd rfl rfl)];simp only[ah.er,TD.er,TP.pe,zS,yx,yaq,ycd]
    .cases F
  .cases h
 .rename_i T0;split at h
  .split at h
   .rename_i e l;obtain⟨i,A,h⟩:=yf.1 h;obtain⟨T,Z,h⟩:=yf.1 h;obtain⟨g,E,h⟩:=yf.1 h;obtain⟨j,h⟩:=Za h;obtain⟨z,h⟩:=Za h;simp only[yi,yP]at j;obtain⟨⟨⟨I,M⟩,G⟩,Q⟩:=j;obtain⟨W,X⟩:=jC z;refine⟨_,_,_,_,_,h,kD rfl,rfl,cJ (⟨rfl,λf=> ?_,λf=> ?_,[(g.map T.enc).length*i.bytes<=Zn,(g.map T.enc).length<=maxLen],⟨by rw[yx];exact W,by rw[yx];exact X,aw⟩,λf=> ?_⟩)⟩
    .unfold aU;rw[ho];dsimp only;rw[hc];dsimp only;rw[ha,ht];rfl
    .unfold bm;rw[ho];dsimp only;rw[hc]
    .unfold bZ;rw[ho];dsimp only;rw[hc];dsimp only;rw[ha,ht];dsimp only;rw[l,hv,S,show(TD.p (TP.sl (ab af) T0 [])).er (lk H)=Dv.p (.sl (ab af) T0.size []) from rfl]
     dsimp only;rw[A,Q,mO E,yaa,yw];dsimp only;rw[yW (by simp only[yi];exact⟨I,M⟩),Q0 (hP rfl),ZE];simp only[ah.er,TD.er,TP.pe,zS,yx,G]
   .cases h
  split at h
  .split at h
   .rename_i e l;obtain⟨i,A,h⟩:=yf.1 h;obtain⟨T,Z,h⟩:=yf.1 h;obtain⟨g,E,h⟩:=yf.1 h;obtain⟨j,h⟩:=Za h;obtain⟨z,h⟩:=Za h;simp only[yi,yP]at j;obtain⟨⟨⟨⟨⟨I,M⟩,G⟩,Q⟩,g5⟩,g6⟩:=j;obtain⟨W,X⟩:=jC z;refine⟨_,_,_,_,_,h,mT g5,rfl,cJ (⟨rfl,λf=> ?_,λf=> ?_,[(g.map T.enc).length*i.bytes<=Zn,(g.map T.enc).length<=maxLen],⟨by rw[yx];exact W,by rw[yx];exact X,aw⟩,λf=> ?_⟩)⟩
    .unfold aU;rw[ho];dsimp only;rw[hc];dsimp only;rw[ha,ht];rfl
    .unfold bm;rw[ho];dsimp only;rw[hc]
    .unfold bZ;rw[ho];dsimp only;rw[hc];dsimp only;rw[ha,ht];dsimp only;rw[l,hv,S,show(TD.p (TP.sl (ab af) T0 [])).er (lk H)=Dv.p (.sl (ab af) T0.size []) from rfl]
     dsimp only;rw[A,Q,mO E,yaa,yw];dsimp only;rw[yW (by simp only[yi];exact⟨I,M⟩),TT g6,ZE,TD.er,mU,G]
   .cases h
  .cases h
 .cases h
def DE(P:yg)(t:yb)(all:yL TD)(H:yL ah)(K:Kn O):TD->yO O
 |.rv id v s lo n=>match P.underlying t,H[id]? with
  |some (.slice e),ab (.row w c ae f d)=>(P.info? e).bind λi=>(kC P e).bind λz=>d.inner.bind λy=>y.dk.bind λr=>(TP.to gZ z r.t).bind λg=>
   if(bP i&&ag (i.size=s)&&ag (c=s)&&ag (r.t.size=s)&&w==v&&s !=0&&z.pe.size==s&&ag (n=1))=ae then if ag (lo+1<=r.n)=ae then
    K all (.bf []) (H.set id (.row v s ae f (.p (.v (.arr r.n r.t) (r.l.set lo g))))) [] 2 else ad else ad
  |_,_=>ad
 |_=>ad
theorem Zz6{t:yb}{x:yo}{c:Call}{F:TD}(ho:o.op=.call c)(hc:c.callee=.builtin .clear)(ha:c.args.toList=[x])(ht:c.argTypes.toList=[t])
 (hx:aS P ts t x=ab F) (h:DE P t all H K F=ab out):∃a d H' hs c,K a d H' hs c=ab out/\Good P o ts all H a d H' hs c:=by
 have X:=Zk (L:=lk H) hx;unfold DE at h;split at h
 .rename_i id v s lo n;split at h
  .rename_i e w s' G d Y A;obtain⟨i,Z,h⟩:=yf.1 h;obtain⟨z,h2,h⟩:=yf.1 h;obtain⟨y,p1,I⟩:=yf.1 h;obtain⟨r,p2,M⟩:=yf.1 I;obtain⟨f,p3,Q⟩:=yf.1 M;obtain⟨S,T⟩:=Za Q;obtain⟨E,k1⟩:=Za T;clear I M Q T h;simp only[yi,yP]at S;obtain⟨⟨⟨⟨⟨⟨⟨g1,g2⟩,g3⟩,U⟩,g5⟩,g6⟩,g7⟩,W⟩:=S;have g8':=W;subst W;have E:=yF E;have g:d.er (lk H)=.p (.arr r.n r.t.size (r.l.map r.t.enc)):=by rw[Xo p1,TD.er,V8 p2]
   refine⟨_,_,_,_,_,k1,VR A rfl rfl,rfl,cJ (⟨rfl,λm=> ?_,λm=> ?_,[1=1,lo+1<=r.n],⟨rfl,E,aw⟩,λm=> ?_⟩)⟩
   .unfold aU;rw[ho];dsimp only;rw[hc]
   .unfold bm;rw[ho];dsimp only;rw[hc]
   .unfold bZ;rw[ho];dsimp only;rw[hc];dsimp only;rw[ha,ht];dsimp only;rw[Y,X];dsimp only[TD.er];rw[Z,mS h2,ZD A,ah.er,g];dsimp only;rw[yW (by simp only[yi,yP];exact⟨⟨⟨⟨⟨⟨g1,g2⟩,g3⟩,U⟩,g5⟩,g6⟩,g7⟩),YA (Wc A rfl rfl),jB z r.t f p3];have j:(r.l.set lo f).map r.t.enc=(r.l.map r.t.enc).set lo (r.t.enc f):=ybl ..;show ab ([1=1,lo+1<=r.n],Dv.bf [],(aA H).set id (ar.row v s ae G (.p (.arr r.n s ((r.l.map r.t.enc).set lo (r.t.enc f))))),m)=ab ([1=1,lo+1<=r.n],Dv.bf [],(aA H).set id (ar.row v s ae G (.p (.arr r.n r.t.size ((r.l.set lo f).map r.t.enc)))),m);rw[j,U]
  .cases h
 .cases h
def DF(P:yg)(t u:yb)(all:yL TD)(H:yL ah)(K:Kn O)(y:TD):TD->yO O
 |.view id g s lo n=>match P.underlying t,H[id]? with
  |some (.slice e),ab (.var d ae)=>ei (lk H) g d λsub hs f=>sub.inner.bind λy0=>y0.dk.bind λr=>(kv (lk H) P r.t u y).bind λc=>
   (f (.p (.v (.arr r.n r.t) (r.l.take lo++(c++r.l.drop (lo+c.length)))))).bind λh=>
     if(ag (r.t.size=s)&&ag (P.cellsOf e=s)&&(P.info? e).isSome&&ag (c.length<=n)&&ag (lo+n<=r.n))=ae then K all (.p (.v (.int .i64) (c.length:Int))) (H.set id (.var h ae)) hs 2 else ad
  |_,_=>ad
 |_=>ad
theorem ZCp{t u:yb}{x y:yo}{c:Call}{A E:TD}(ho:o.op=.call c)(hc:c.callee=.builtin .copy)(ha:c.args.toList=[x,y])(ht:c.argTypes.toList=[t,u])
 (hx:aS P ts t x=ab A) (M:aS P ts u y=ab E) (h:DF P t u all H K E A=ab out):∃a d H' hs c,K a d H' hs c=ab out/\Good P o ts all H a d H' hs c:=by
 have Q:=Zk (L:=lk H) hx;have S:=Zk (L:=lk H) M;unfold DF at h;split at h
 .rename_i id F s lo n;split at h
  .rename_i e d T z;obtain⟨sub,hs,U,C,f,W,X,Y⟩:=X2 _ _ _ _ h;obtain⟨y0,Z,f⟩:=yf.1 f;obtain⟨r,p2,f⟩:=yf.1 f;obtain⟨g,p3,f⟩:=yf.1 f;obtain⟨d',p4,f⟩:=yf.1 f;obtain⟨G,f⟩:=Za f;simp only[yi,yP]at G;obtain⟨⟨⟨⟨I,g2⟩,g3⟩,g4⟩,g5⟩:=G;have j:sub.er (lk H)=.p (.arr r.n r.t.size (r.l.map r.t.enc)):=by rw[Xo Z,TD.er,V8 p2]
   refine⟨_,_,_,_,_,f,VR z rfl rfl,rfl,cJ (⟨rfl,λm=> ?_,λm=> ?_,C++[dF F=WW F,(g.map r.t.enc).length<=n,lo+n<=r.n],Zj.2 ⟨W,(Ws _).symm,by rw[yx];exact g4,g5,aw⟩,λm=> ?_⟩)⟩
   .unfold aU;rw[ho];dsimp only;rw[hc]
   .unfold bm;rw[ho];dsimp only;rw[hc]
   .unfold bZ;rw[ho];dsimp only;rw[hc];dsimp only;rw[ha,ht];dsimp only;rw[T,Q,S];dsimp only[TD.er];rw[<-I,mO p3,ZD z];dsimp only[ah.er];rw[X m,j];dsimp only;have:=Y _ _ p4 m
    have e1:(TD.p (.v (.arr r.n r.t) (r.l.take lo++(g++r.l.drop (lo+g.length))))).er (lk H)=.p (.arr r.n r.t.size (nP (r.l.map r.t.enc) (g.map r.t.enc) lo)):=by
     show Dv.p (Pl.arr r.n r.t.size ((r.l.take lo++(g++r.l.drop (lo+g.length))).map r.t.enc))=_;unfold nP;rw[yaq,yaq,ycd,List.map_drop,yx]
    rw[e1]at this;rw[this];dsimp only;rw[yW (by simp only[yi,yP];exact⟨⟨zZ,by rw[I];exact g2⟩,g3⟩),YA (Wc z rfl rfl),yx];rfl
  .cases h
 .cases h
def DG(H:yL ah)(id:Nat):Bool:=
 match H[id]? with
 |some (.var _ af)=>ae
 |_=>af
def DH(P:yg)(t:yb)(lo hi:yO Int)(all:yL TD)(H:yL ah)(K:Kn O):TD->yO O
 |.am id c=>match P.underlying t with
  |some (.array n e)=>(mQ H id).bind λd=>ei (lk H) c d λsub hs _=>sub.inner.bind λy=>y.dk.bind λr=>
   if(ag (n=r.n)&&okB P e r.t.size&&ag (n<=maxLen))=ae then if VQ n lo hi=ae then(if DG H id=ae then K all (.p (.sl (ab ae) r.t (V4 r.l lo hi))) H (.bS::hs) 1 else
    K all (.p (.sl (ab ae) r.t (V4 r.l lo hi))) (H.set id (.var d af)) (.bS::hs) 2) else ad else ad
  |_=>ad
 |_=>ad
theorem ZFo{t:yb}{x:yo}{lo hi:yO yo}{l A:yO Int}{Q:TD}(ho:o.op=.slice t x lo hi ad)(hx:aS P ts t x=ab Q)(hl:ez P ts lo=ab l)(z:ez P ts hi=ab A)
 (h:DH P t l A all H K Q=ab out):∃a d H' hs c,K a d H' hs c=ab out/\Good P o ts all H a d H' hs c:=by
 have E:=Zk (L:=lk H) hx;have hl:=hJ (L:=lk H) hl;have z:=hJ (L:=lk H) z;unfold DH at h;split at h
 .rename_i id F;split at h
  .rename_i n e G;obtain⟨d,Y,h⟩:=yf.1 h;obtain⟨st,I,M⟩:=qG Y;obtain⟨sub,hs,Z,C,g,S,T,_⟩:=X2 _ _ _ _ h;obtain⟨y,p1,g⟩:=yf.1 g;obtain⟨r,p2,g⟩:=yf.1 g;obtain⟨U,g⟩:=Za g;obtain⟨W,g⟩:=Za g;have m:sub.er (lk H)=.p (.arr r.n r.t.size (r.l.map r.t.enc)):=by rw[Xo p1,TD.er,V8 p2]
   have X:∀s,aU P o (TD.au (lk H) ts) (.bS::hs++s)=ad:=λs=>by
    unfold aU;rw[ho];dsimp only;rw[G,E,hl,z];rfl
   split at g
   .rename_i f
    have j:st=af:=by
     unfold DG at f;rw[I]at f
     cases st with
     |false=>rfl
     |true=>cases f
    subst j;refine⟨_,_,_,_,_,g,rfl,rfl,.inr (.inl ⟨rfl,rfl,X,C++[dF F=WW F]++Xf n l A,Zj.2 ⟨Zj.2 ⟨S,(Ws _).symm,aw⟩,ll W⟩,λs=> ?_⟩)⟩;unfold bm;rw[ho];dsimp only;rw[G,E,hl,z];dsimp only[TD.er];rw[yaa];dsimp only;rw[M];dsimp only;rw[T s,m];dsimp only;rw[yW (by simpa[okB,and_assoc] using U),TP.pe,uf]
   rename_i f
   have j:st=ae:=by
    unfold DG at f;rw[I]at f
    cases st with
    |true=>rfl
    |false=>exact absurd rfl f
   subst j;refine⟨_,_,_,_,_,g,VR I rfl rfl,rfl,cJ (⟨rfl,X,λs=> ?_,C++[dF F=WW F]++Xf n l A,Zj.2 ⟨Zj.2 ⟨S,(Ws _).symm,aw⟩,ll W⟩,λs=> ?_⟩)⟩
   .unfold bm;rw[ho];dsimp only;rw[G,E,hl,z];dsimp only[TD.er];rw[yaa];dsimp only;rw[M]
   .unfold bZ;rw[ho];dsimp only;rw[G,E,hl,z];dsimp only[TD.er];rw[yaa];dsimp only;rw[M];dsimp only;rw[T s,m];dsimp only;rw[yW (by simpa[okB,and_assoc] using U),YA (Wc I rfl rfl),TP.pe,uf];rfl
  .cases h
 .cases h
def uu(dst:Tmp)(all:yL TD)(H:yL ah)(K:Kn O):TD->yO O
 |.view id c s lo n=>(mQ H id).bind λd=>ei (lk H) c d λsub hs _=>sub.inner.bind λy=>y.dk.bind λr=>
  if(ag (r.t.size=s))=ae then if(ag (lo+n<=r.n))=ae then K all (.p (.sl (ab ae) r.t ((r.l.drop lo).take n))) (H.set id (.var d af)) (.still dst::hs) 2 else ad else ad
 |.rv id v s lo n=>match H[id]? with
  |some (.row w f _ e d)=>d.inner.bind λy=>y.dk.bind λr=>
   if(ag (r.t.size=s)&&ag (f=s)&&w==v)=ae then if(ag (lo+n<=r.n))=ae then K all (.p (.sl ad r.t ((r.l.drop lo).take n))) (H.set id (.row v s af e d)) [.still dst] 2 else ad else ad
  |_=>ad
 |_=>ad
theorem Zz7{dst:Tmp}{E:TD}(h:uu dst all H K E=ab out):∃a d H' hs,K a d H' (.still dst::hs) 2=ab out/\TD.au (lk H') a=TD.au (lk H) all/\a.length=all.length/\
 ∃C,aY C/\∀yJ,iJ (E.er (lk H)) (aA H) (hs++yJ)=ab (C,d.er (lk H'),aA H',yJ):=by
 unfold uu at h;split at h
 .rename_i id m s lo n;obtain⟨d,G,h⟩:=yf.1 h;obtain⟨st,F,I⟩:=qG G;obtain⟨sub,hs,M,C,c,Q,S,_⟩:=X2 _ _ _ _ h;obtain⟨y,x,c⟩:=yf.1 c;obtain⟨r,z,c⟩:=yf.1 c;obtain⟨g,c⟩:=Za c;obtain⟨j,c⟩:=Za c;have g:=yF g;have j:=yF j;have f:sub.er (lk H)=.p (.arr r.n r.t.size (r.l.map r.t.enc)):=by rw[Xo x,TD.er,V8 z]
  refine⟨_,_,_,_,c,VR F rfl rfl,rfl,C++[dF m=WW m,lo+n<=r.n],Zj.2 ⟨Q,(Ws _).symm,j,aw⟩,λyJ=> ?_⟩;unfold iJ;rw[show(TD.view id m s lo n).er (lk H)=Dv.view id (WW m) (m.map bN.i) s lo n from rfl]
  try dsimp only
  rw[I]
  try dsimp only
  rw[S yJ,f]
  try dsimp only
  rw[yW g,YA (Wc F rfl rfl),TD.er,TP.pe,ycd,List.map_drop,g]
  try rfl
 .rename_i id v s lo n;split at h
  .rename_i w T st e d A;obtain⟨y,x,c⟩:=yf.1 h;obtain⟨r,z,c⟩:=yf.1 c;obtain⟨g,c⟩:=Za c;obtain⟨j,c⟩:=Za c;simp only[yi,yP]at g;have j:=yF j;have f:d.er (lk H)=.p (.arr r.n r.t.size (r.l.map r.t.enc)):=by rw[Xo x,TD.er,V8 z]
   refine⟨_,_,_,[],c,VR A rfl rfl,rfl,[lo+n<=r.n],⟨j,aw⟩,λyJ=> ?_⟩;rw[yw];unfold iJ;rw[show(TD.rv id v s lo n).er (lk H)=Dv.rv id v s lo n from rfl]
   dsimp only;rw[ZD A,ah.er,f];dsimp only;rw[yW (by simp[g]),YA (Wc A rfl rfl),ah.er,f,TD.er,TP.pe,ycd,List.map_drop,g.1.1]
  .cases h
 .cases h
theorem Zz8{x:yo}{dst:Tmp}{f:TD}(ho:o.op=.assign x\/o.op=.move x)(hd:o.dst=ab dst)(hx:aS P ts o.type x=ab f)(h:uu dst all H K f=ab out):
 ∃a d H' hs c,K a d H' hs c=ab out/\Good P o ts all H a d H' hs c:=by
 have g:=Zk (L:=lk H) hx;obtain⟨a,d,H',hs,l,m,s,C,t,j⟩:=Zz7 h;refine⟨_,_,_,_,_,l,m,s,cJ (⟨rfl,λe=> ?_,λe=> ?_,C,t,λe=> ?_⟩)⟩
 .rcases ho with ho|ho <;> (unfold aU;rw[ho];rfl)
 .rcases ho with ho|ho <;> (unfold bm;rw[ho])
 .rcases ho with ho|ho
  .unfold bZ;rw[ho];dsimp only;rw[yaa];dsimp only;rw[yW hd,g];exact j e
  .unfold bZ;rw[ho];dsimp only;rw[yaa];dsimp only;rw[yW hd,g];exact j e
end
end Go.Ev
end
