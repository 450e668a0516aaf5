/- Parts of the proof, in one file. -/
import Derived.Test.YtcbhhaigilifgaaGreatKc
open Option renaming some → ab, none → ad
open Bool renaming true → ae, false → af
open Decidable renaming decide → ag
open Bool renaming and_eq_true → yi
open Go renaming TypeId → yc, Program → yg, Oper → yj, Operand → yp, FuncId → yr
open List renaming length_append → yl, range → yn, getElem?_eq_some_iff → yu, replicate → yx, nil_append → yz, length_map → yaa, append_assoc → yab, cons_append → yaf, map_cons → yag, length_cons → yah, getElem?_map → yak, take_length → yal, all_eq_true → yan, map_append → yat, map_map → yaw, append_nil → yba, map_set → ybj, getElem?_eq_none → ybk, map_congr_left → ycd, map_take → yci
open Nat renaming le_refl → ym
open Option renaming bind_some → ya, bind_eq_some_iff → yf, map_some → yae
set_option linter.unusedVariables false
set_option linter.unusedSimpArgs false
section
namespace Go.Ev
section
variable{L:Lk}{P:yg}{o:yj}{ts:yL TD}{O:Type}
def TD.boolT:TD->yO Bool
 |.p x=>x.ib
 |_=>ad
theorem pC{x:TD}{b:Bool}(h:x.boolT=ab b):x.er L=.p (.bool b):=by
 unfold TD.boolT at h;split at h
 .rw[TD.er,ZIh h]
 .cases h
def TD.inner:TD->yO TP
 |.p x=>ab x
 |_=>ad
theorem XC{x:TD}{y:TP}(h:x.inner=ab y):x=.p y:=by
 unfold TD.inner at h;split at h
 .cases h;rfl
 .cases h
def EN(L:Lk)(P:yg)(t:yc)(i:Int)(K:TD->yL ar->yO O)(a:TD):yO O:=
 match a with
 |.arr f s g=>match P.underlying t with
  |some (.array n e)=>(g[i.toNat]?).bind λd=>if ag (0<=i)&&ag (n=f)&&okB P e s&&(X0 P e==(d.er L).isAgg)&&((P.underlying e).isSome&&s !=0) then K d [] else ad
  |_=>ad
 |a=>a.inner.bind (DE P t i K)
theorem ZBj{t:yc}{x ix:yp}{K:TD->yL ar->yO O}{g:TD}{q:IntKind×Int}{j:TP}{out:O}(ho:o.op=.index t x ix)(f:bo P ts t x=ab g)(hi:bo P ts 0 ix=ab (.p j))(hq:ji j=ab q)
 (h:EN L P t q.2 K g=ab out):∃d hs,K d hs=ab out/\dp L P o ts d hs:=by
 unfold EN at h;split at h
 .rename_i S s T;split at h
  .rename_i n e y;obtain⟨d,z,h⟩:=yf.1 h;obtain⟨l,h⟩:=Zb h;have A:=Zs (L:=L) f;have m:=Zs (L:=L) hi;rw[TD.er,(py hq).1]at m;simp only[okB,yi,yP]at l;obtain⟨⟨⟨⟨B,E⟩,F,G⟩,I⟩,M,Q⟩:=l;refine⟨d,[],h,[0<=q.2],⟨B,ao⟩,λU=> ?_⟩;unfold bj;rw[ho];dsimp only;rw[y,A,m,TD.er];dsimp only;rw[ll z];dsimp only;rw[yW (by simp only[yi,yP];exact⟨⟨⟨⟨⟨E,F⟩,I⟩,M⟩,G⟩,Q⟩)];rfl
  .cases h
 .obtain⟨W,R,h⟩:=yf.1 h;rw[XC R]at f;exact ZBc ho f hi hq h
def rT(P:yg)(ts:yL TD):yL yp->yO (yL TD)
 |[]=>ab []
 |x::r=>match bo P ts 0 x,rT P ts r with
  |some a,ab b=>ab (a::b)
  |_,_=>ad
theorem EO:∀{l:yL yp}{f:yL TD},rT P ts l=ab f->l.map (aC P (TD.aE L ts) 0)=TD.aE L f
 |[],f,h=>by cases h;rfl
 |x::l,f,h=>by
  simp only[rT]at h;split at h
  .rename_i a b g j;cases h;rw[yag,Zs g,EO j];rfl
  .cases h
def ZMS(P:yg)(t:yc)(K:TD->yL ar->yO O):TD->yO O
 |.elem x=>if ag (P.cellsOf t=x.pe.size)&&(X0 P t==x.pe.isAgg&&((P.underlying t).isSome&&(P.info? t).isSome)) then K (.p x) [] else ad
 |_=>ad
def ZMT(L:Lk)(P:yg)(ts:yL TD)(t u:yc)(x y:yp)(K:TD->yL ar->yO O):yO O:=
 match P.underlying t,bo P ts t x with
 |some (.slice e),ab (.p (.sl (ab af) _ []))=>(P.info? e).bind λi=>(gx P ia e).bind λT=>(bo P ts u y).bind λf=>(mD L P T u f).bind λl=>
  if(cq i&&i.size !=0)&&(ag (P.cellsOf e=T.size)&&ag (i.size=T.size)) then if nT l.length i.bytes=ae then K (.p (.sl ad T l)) [.iq] else ad else ad
 |_,_=>ad
def EP(P:yg)(t:yc)(l h m:yO Int)(K:TD->yL ar->yO O):TD->yO O
 |.rv _ _ _ _ n=>match P.underlying t with
  |some (.slice e)=>l.bind λl=>h.bind λh=>m.bind λm=>if(P.info? e).isSome=ae then if(ag (0<=l)&&ag (l<=h)&&ag (h<=m)&&ag (m<=(n:Int)))=ae then K .ak [] else ad else ad
  |_=>ad
 |_=>ad
theorem Zza{t:yc}{x j:yp}{lo hi:yO yp}{l y m:yO Int}{K:TD->yL ar->yO O}{z:TD}{out:O}(ho:o.op=.slice t x lo hi (ab j))(F:bo P ts t x=ab z)(hl:eY P ts lo=ab l)(g:eY P ts hi=ab y)(hm:eY P ts (ab j)=ab m)
 (h:EP P t l y m K z=ab out):∃d hs,K d hs=ab out/\dp L P o ts d hs:=by
 have G:=Zs (L:=L) F;have hl:=iC (L:=L) hl;have g:=iC (L:=L) g;have hm:=iC (L:=L) hm;unfold EP at h;split at h
 .rename_i id v s T n;split at h
  .rename_i e I;obtain⟨A,M,h⟩:=yf.1 h;obtain⟨B,Q,h⟩:=yf.1 h;obtain⟨E,R,h⟩:=yf.1 h;subst M;subst Q;subst R;obtain⟨S,h⟩:=Zb h;obtain⟨f,h⟩:=Zb h;simp only[yi,yP]at f;refine⟨_,_,h,[0<=A,A<=B,B<=E,E<=(n:Int)],⟨f.1.1.1,f.1.1.2,f.1.2,f.2,ao⟩,λU=> ?_⟩;simp only[yz];unfold bj;rw[ho];dsimp only;rw[I,G,hl,g,hm];dsimp only[TD.er];rw[yW S]
  .cases h
 .cases h
def EQ(P:yg)(t:yc)(K:TD->yL ar->yO O)(r:Row):yO O:=
 match P.underlying t with
 |some (.array n e)=>if(n !=0)=ae then if ag (n<=r.l.length)=ae then K (.elem (.v (.arr n r.t) (r.l.take n))) [] else ad else ad
 |_=>ad
theorem Zzc{t:yc}{x:yp}{K:TD->yL ar->yO O}{j:TD}{r:Row}{out:O}(ho:o.op=.sliceToArrayPointer t x)(A:bo P ts 0 x=ab j)(B:j.row L=ab r)
 (h:EQ P t K r=ab out):∃d hs,K d hs=ab out/\dp L P o ts d hs:=by
 have m:=Zs (L:=L) A;unfold EQ at h;split at h
 .rename_i n e y;obtain⟨z,h⟩:=Zb h;obtain⟨f,h⟩:=Zb h;have f:=yF f;refine⟨_,_,h,[n<=(r.l.map r.t.enc).length],⟨by rw[yaa];exact f,ao⟩,λE=> ?_⟩;simp only[yz];unfold bj;rw[ho];dsimp only;rcases mA B with g|⟨id,g⟩
  .rw[y,m,g];dsimp only;rw[yW z, <-yci];rfl
  .rw[y,m,g];dsimp only;rw[yW z, <-yci];rfl
 .cases h
abbrev _root_.aQa:=yL yB
def ER(L:Lk)(x:TD):yO aQa:=(x.row L).bind λr=>Ty.bv r.t .u8 r.l
def ZPh(L:Lk)(K:TD->yL ar->yO O)(a b:TD):yO O:=(ER L a).bind λl=>(ER L b).bind λm=>K (.p (.v (.int .i64) (Go.Lib.compareBytes l m))) [.el (.str (bytesOf l)),.el (.str (bytesOf m))]
theorem ZE8{L:Lk}{x:TD}{l:yL yB}(h:ER L x=ab l):∃nn,(x.er L).cn []=.p (.sl nn 1 (gM (bytesOf l))):=by
 obtain⟨r,m,f⟩:=yf.1 h;obtain⟨nn,rt,y⟩:=r;obtain⟨j,f⟩:=ZF f;dsimp only at j f;subst j;subst f;rcases mA m with g|⟨id,g⟩
 .rw[g];exact⟨_,rfl⟩
 .rw[g];exact⟨_,rfl⟩
def ES:Num->yO TP
 |.u8 b=>ab (.v .u8 (255^^^b))
 |.u32 b=>ab (.v .u32 (4294967295^^^b))
 |.u64 b=>ab (.v .u64 (18446744073709551615^^^b))
 |.i _ _=>ad
theorem ZLy{a:Num}{z:TP}(h:ES a=ab z):a.k.signed=af/\z.pe=.int a.k (bits .xor a.k a.k.max a.n):=by
 unfold ES at h;split at h
 .rename_i b;cases h;exact⟨rfl,congrArg (Pl.int .u8) (ZMR .xor 255 b).symm⟩
 .rename_i b;cases h;exact⟨rfl,congrArg (Pl.int .u32) (ZIj .xor 4294967295 b).symm⟩
 .rename_i b;cases h;exact⟨rfl,congrArg (Pl.int .u64) (ZIo .xor 18446744073709551615 b).symm⟩
 .cases h
def ET(L:Lk)(P:yg)(o:yj)(ts:yL TD)(K:TD->yL ar->yO O):yO O:=
 match o.op with
 |.move x=>(bo P ts o.type x).bind λd=>K d [.raw]
 |.assign x=>(bo P ts o.type x).bind λd=>K d [.raw]
 |.pick c a b=>((bo P ts 0 c).bind TD.boolT).bind λt=>(bo P ts o.type a).bind λE=>(bo P ts o.type b).bind λF=>if t=ae then K E [.b ae] else K F [.b af]
 |.nilCheck x=>match bo P ts 0 x with
  |some (.aj id p)=>K (.aj id p) []
  |some (.elem y)=>K (.elem y) []
  |some (.ba id v p)=>K (.ba id v p) []
  |some (.rp id p)=>K (.rp id p) []
  |some (.fn f c)=>K (.fn f c) []
  |_=>ad
 |.binOp G t x y I=>(bo P ts t x).bind λa=>(bo P ts I y).bind λb=>EC L P G t a b K
 |.unOp .not _ x=>((bo P ts 0 x).bind TD.boolT).bind λt=>K (.p (.v .bool (!t))) []
 |.unOp .neg _ x=>((bo P ts 0 x).bind TD.num).bind λa=>K (.p (vN a.k (0 - a.n))) [.raw]
 |.unOp .xor _ x=>((bo P ts 0 x).bind TD.num).bind λa=>(ES a).bind λz=>K (.p z) []
 |.convert src dst x=>(bo P ts src x).bind (EF L P src dst K)
 |.makeFunc (.func f) first captured=>if(first.isEmpty&&ag (f < big))=ae then(rT P ts captured.toList).bind λj=>K (.fn f j) [] else if captured.isEmpty=ae then(rT P ts first.toList).bind λj=>K (.fn (f+big) j) [] else ad
 |.makeInterface t x=>match P.underlying t with
  |some (.interface _)=>ad
  |some _=>(bo P ts t x).bind λd=>K (.iface t d) []
  |none=>ad
 |.field t x i=>(bo P ts t x).bind (DB L P t i K)
 |.fieldAddr t x i=>(bo P ts 0 x).bind (DC P t i K)
 |.indexAddr t x ix=>(bo P ts t x).bind λa=>(bo P ts 0 ix).bind λb=>b.inner.bind λA=>(ji A).bind λq=>DD L P t q.2 K a
 |.index t x ix=>(bo P ts t x).bind λa=>(bo P ts 0 ix).bind λb=>b.inner.bind λA=>(ji A).bind λq=>EN L P t q.2 K a
 |.slice t x lo B ad=>(bo P ts t x).bind λa=>(eY P ts lo).bind λl=>(eY P ts B).bind λh=>DF L P t l h K a
 |.slice t x lo B (ab M)=>(bo P ts t x).bind λa=>(eY P ts lo).bind λl=>(eY P ts B).bind λh=>(eY P ts (ab M)).bind λm=>EP P t l h m K a
 |.sliceToArrayPointer t x=>(bo P ts 0 x).bind λa=>(a.row L).bind (EQ P t K)
 |.extract x i=>match bo P ts 0 x with
  |some (.bm j)=>(j[i]?).bind λd=>K d []
  |_=>ad
 |.load t x=>(bo P ts 0 x).bind (ZMS P t K)
 |.build t parts=>EL L P ts t parts.toList K
 |.buildSlice t len parts=>pA L P ts t len parts.toList λT l _=>K (.p (.sl (ab ae) T l)) [.iq]
 |.call c=>match c.callee with
  |.builtin .len=>match c.args.toList,c.argTypes.toList with
   |[x],[t]=>(bo P ts t x).bind (EM L P t K)
   |_,_=>ad
  |.builtin .max=>match c.args.toList,c.argTypes.toList with
   |[x,y],[t,u]=>((bo P ts t x).bind TD.num).bind λa=>((bo P ts u y).bind TD.num).bind λb=>if(ag (a.k=.i64)&&ag (b.k=.i64))=ae then K (.p (.v (.int .i64) (ZQG a.n b.n))) [] else ad
   |_,_=>ad
  |.builtin .min=>match c.args.toList,c.argTypes.toList with
   |[x,y],[t,u]=>((bo P ts t x).bind TD.num).bind λa=>((bo P ts u y).bind TD.num).bind λb=>if(ag (a.k=.i64)&&ag (b.k=.i64))=ae then K (.p (.v (.int .i64) (vS a.n b.n))) [] else ad
   |_,_=>ad
  |.builtin .append=>match c.args.toList,c.argTypes.toList with
   |[x,y],[t,u]=>ZMT L P ts t u x y K
   |_,_=>ad
  |.value f=>match bo P ts 0 f with
   |some (.fn g [])=>if(nj P g&&c.args.size==c.argTypes.size)=ae then match c.args.toList,c.argTypes.toList with
     |[x,y],[t,u]=>(bo P ts t x).bind λa=>(bo P ts u y).bind λb=>ZPh L K a b
     |_,_=>ad
    else ad
   |_=>ad
  |_=>ad
 |_=>ad
theorem ZIx{K:TD->yL ar->yO O}{out:O}(h:ET L P o ts K=ab out):∃d hs,K d hs=ab out/\dp L P o ts d hs:=by
 unfold ET at h;split at h
 .rename_i x A;obtain⟨d,j,h⟩:=yf.1 h;refine⟨_,_,h,[],zP,λE=> ?_⟩;unfold bj;rw[A];dsimp only;rw[Zs j];rfl
 .rename_i x A;obtain⟨d,j,h⟩:=yf.1 h;refine⟨_,_,h,[],zP,λE=> ?_⟩;unfold bj;rw[A];dsimp only;rw[Zs j];rfl
 .rename_i c a b A;obtain⟨t,j,h⟩:=yf.1 h;obtain⟨cd,S,j⟩:=yf.1 j;obtain⟨da,B,h⟩:=yf.1 h;obtain⟨db,F,h⟩:=yf.1 h;split at h
  .rename_i G;refine⟨_,_,h,[t=ae],⟨G,ao⟩,λE=> ?_⟩;unfold bj;rw[A];dsimp only;rw[Zs S,pC j,Zs B];rfl
  .rename_i G;refine⟨_,_,h,[t=af],⟨by simpa using G,ao⟩,λE=> ?_⟩;unfold bj;rw[A];dsimp only;rw[Zs S,pC j,Zs F];rfl
 .rename_i x A;split at h
  all_goals first|cases h;done|skip
  all_goals
   rename_i U;refine⟨_,_,h,[],zP,λE=> ?_⟩;simp only[yz];unfold bj;rw[A];dsimp only;rw[Zs U];rfl
 .rename_i op t x y yt A;obtain⟨a,j,h⟩:=yf.1 h;obtain⟨b,B,h⟩:=yf.1 h;obtain⟨d,hs,C,F,M,I⟩:=ZGy h;refine⟨d,hs,F,C,M,λE=> ?_⟩;unfold bj;rw[A];dsimp only;rw[Zs j,Zs B];exact I E
 .rename_i t x A;obtain⟨b,j,h⟩:=yf.1 h;obtain⟨xd,S,j⟩:=yf.1 j;refine⟨_,_,h,[],zP,λE=> ?_⟩;simp only[yz];unfold bj;rw[A];dsimp only;rw[Zs S,pC j];rfl
 .rename_i t x A;obtain⟨a,j,h⟩:=yf.1 h;obtain⟨xd,S,j⟩:=yf.1 j;refine⟨_,_,h,[],zP,λE=> ?_⟩;unfold bj;rw[A];dsimp only;rw[Zs S,iD j,TD.er,ZE0];rfl
 .rename_i t x A;obtain⟨a,j,h⟩:=yf.1 h;obtain⟨xd,S,j⟩:=yf.1 j;obtain⟨z,B,h⟩:=yf.1 h;obtain⟨e1,e2⟩:=ZLy B;refine⟨_,_,h,[],zP,λE=> ?_⟩;unfold bj;rw[A];dsimp only;rw[Zs S,iD j,TD.er,e2];dsimp only;rw[e1];rfl
 .rename_i src dst x A;obtain⟨a,j,h⟩:=yf.1 h;exact ZDv A j h
 .rename_i f first captured A
  split at h
  .rename_i X;obtain⟨ds,j,h⟩:=yf.1 h;refine⟨_,_,h,[],zP,λE=> ?_⟩;simp only[yz];unfold bj;rw[A];dsimp only;rw[yW X,EO j];rfl
  .rename_i X;split at h
   .rename_i hf2;obtain⟨ds,j,h⟩:=yf.1 h;refine⟨_,_,h,[],zP,λE=> ?_⟩;simp only[yz];unfold bj;rw[A];dsimp only;rw[yX X,yW hf2,EO j];rfl
   .cases h
 .rename_i t x A;split at h
  .cases h
  .rename_i u Y hne;obtain⟨d,j,h⟩:=yf.1 h;refine⟨_,_,h,[],zP,λE=> ?_⟩;simp only[yz];unfold bj;rw[A];dsimp only;rw[Zs j,hne];split
   .rename_i ms hh;exact absurd (Option.some.inj hh) (Y ms)
   .rfl
   .rename_i hh;cases hh
  .cases h
 .rename_i t x i A;obtain⟨a,j,h⟩:=yf.1 h;obtain⟨d,B,F⟩:=Zsr h;refine⟨_,_,B,[],zP,λE=> ?_⟩;simp only[yz];unfold bj;rw[A];dsimp only;rw[Zs j,F];rfl
 .rename_i t x i A;obtain⟨a,j,h⟩:=yf.1 h;exact Ztf A j h
 .rename_i t x ix A;obtain⟨a,j,h⟩:=yf.1 h;obtain⟨b,B,h⟩:=yf.1 h;obtain⟨ip,F,h⟩:=yf.1 h;obtain⟨q,M,h⟩:=yf.1 h;rw[XC F]at B;exact Ztg (id:=.ak) A j B M h
 .rename_i t x ix A;obtain⟨a,j,h⟩:=yf.1 h;obtain⟨b,B,h⟩:=yf.1 h;obtain⟨ip,F,h⟩:=yf.1 h;obtain⟨q,M,h⟩:=yf.1 h;rw[XC F]at B;exact ZBj A j B M h
 .rename_i t x lo hi A;obtain⟨a,j,h⟩:=yf.1 h;obtain⟨l,B,h⟩:=yf.1 h;obtain⟨r,F,h⟩:=yf.1 h;exact ZBd A j B F h
 .rename_i t x lo hi mx A;obtain⟨a,j,h⟩:=yf.1 h;obtain⟨l,B,h⟩:=yf.1 h;obtain⟨r,F,h⟩:=yf.1 h;obtain⟨m,M,h⟩:=yf.1 h;exact Zza A j B F M h
 .rename_i t x A;obtain⟨a,j,h⟩:=yf.1 h;obtain⟨r,B,h⟩:=yf.1 h;exact Zzc A j B h
 .rename_i x i A;split at h
  .rename_i ds U;obtain⟨d,j,h⟩:=yf.1 h;refine⟨_,_,h,[],zP,λE=> ?_⟩;simp only[yz];unfold bj;rw[A];dsimp only;rw[Zs U];dsimp only[TD.er];rw[ll j];rfl
  .cases h
 .rename_i t x A;obtain⟨a,j,h⟩:=yf.1 h;unfold ZMS at h;split at h
  .obtain⟨B,h⟩:=Zb h;refine⟨_,_,h,[],zP,λE=> ?_⟩;simp only[yz];unfold bj;rw[A];dsimp only;rw[Zs j];dsimp only[TD.er];rw[yW (by simpa[and_assoc] using B)]
  .cases h
 .rename_i t parts A;exact ZBh A h
 .rename_i t len parts A;obtain⟨e,T,l,i,xs,j,Y,hi,hl,hz,hs,U⟩:=we h;refine⟨_,_,j,[],zP,λE=> ?_⟩;unfold bj;rw[A];dsimp only;rw[yaf,yz];dsimp only;rw[Y];dsimp only;rw[hi,hl];dsimp only;rw[yW (by simpa using hz),U,hs];rfl
 .rename_i c A;split at h
  .rename_i Q;split at h
   .rename_i x t R G;obtain⟨a,j,h⟩:=yf.1 h;exact ZGB A Q R G j h
   .cases h
  .rename_i Q;split at h
   .rename_i x y t u R G;obtain⟨m,j,h⟩:=yf.1 h;obtain⟨n,B,h⟩:=yf.1 h;obtain⟨xd,Z,g2⟩:=yf.1 j;obtain⟨yd,g3,g4⟩:=yf.1 B;obtain⟨I,h⟩:=Zb h;simp only[yi,yP]at I;refine⟨_,_,h,[],zP,λE=> ?_⟩;simp only[yz];unfold bj;rw[A];dsimp only;rw[Q];dsimp only;rw[R,G];dsimp only;rw[Zs Z,Zs g3,iD g2,iD g4,I.1,I.2];rfl
   .cases h
  .rename_i Q;split at h
   .rename_i x y t u R G;obtain⟨m,j,h⟩:=yf.1 h;obtain⟨n,B,h⟩:=yf.1 h;obtain⟨xd,Z,g2⟩:=yf.1 j;obtain⟨yd,g3,g4⟩:=yf.1 B;obtain⟨I,h⟩:=Zb h;simp only[yi,yP]at I;refine⟨_,_,h,[],zP,λE=> ?_⟩;simp only[yz];unfold bj;rw[A];dsimp only;rw[Q];dsimp only;rw[R,G];dsimp only;rw[Zs Z,Zs g3,iD g2,iD g4,I.1,I.2];rfl
   .cases h
  .rename_i Q;split at h
   .rename_i x y t u R G;unfold ZMT at h;split at h
    .rename_i e T0 Y U;obtain⟨i,j,h⟩:=yf.1 h;obtain⟨T,B,h⟩:=yf.1 h;obtain⟨yd,F,h⟩:=yf.1 h;obtain⟨l,M,h⟩:=yf.1 h;obtain⟨I,h⟩:=Zb h;obtain⟨h6,h⟩:=Zb h;simp only[yi,yP]at I;obtain⟨Z,g2⟩:=mz h6;refine⟨_,_,h,[(l.map T.enc).length*i.bytes<=Zr,(l.map T.enc).length<=maxLen],⟨by rw[yaa];exact Z,by rw[yaa];exact g2,ao⟩,λE=> ?_⟩;unfold bj;rw[A];dsimp only;rw[Q];dsimp only;rw[R,G,yaf,yz];dsimp only;rw[Y,Zs U,Zs F,show(TD.p (TP.sl (ab af) T0 [])).er L=Dv.p (.sl (ab af) T0.size []) from rfl]
     dsimp only;rw[j,I.2.1,pB M];dsimp only;rw[yW (by simpa using I.1)];rfl
    .cases h
   .cases h
  .rename_i f Q;split at h
   .rename_i g X;obtain⟨hk,h⟩:=Zb h;split at h
    .rename_i x y t u R G;obtain⟨a,j,h⟩:=yf.1 h;obtain⟨b,B,h⟩:=yf.1 h;unfold ZPh at h;obtain⟨l,F,h⟩:=yf.1 h;obtain⟨m,M,h⟩:=yf.1 h;obtain⟨n1,e1⟩:=ZE8 F;obtain⟨n2,e2⟩:=ZE8 M;refine⟨_,_,h,[gM (bytesOf l)=gM (bytesOf l),gM (bytesOf m)=gM (bytesOf m)],⟨rfl,rfl,ao⟩,λE=> ?_⟩
     have hg:g < big:=by
      rw[yi]at hk;have W:=hk.1;unfold nj at W;rw[yi,yP]at W;exact W.1
     have e3:Xe P [] (TD.aE L ts) c g []=[.p (.sl n1 1 (gM (bytesOf l))),.p (.sl n2 1 (gM (bytesOf m)))]:=by
      unfold Xe;rw[yW hg,R,G];simp only[List.zip_cons_cons,List.zip_nil_right,yag,List.map_nil,yba];rw[Zs j,Zs B,e1,e2]
     unfold bj;rw[A];dsimp only;rw[Q];dsimp only;rw[Zs X,yaf,yaf,yz,show TD.er L (.fn g [])=Dv.fn g [] from rfl]
     dsimp only;rw[yW hk,e3];dsimp only;rw[yW ⟨rfl,rfl⟩];rfl
    .cases h
   .cases h
  .cases h
 .cases h
end
end Go.Ev
end
section
namespace Go.Ev
mutual
theorem rU{L M:Lk}(h:∀id t,Yc L id t ad=Yc M id t ad):∀(d:TD),d.er L=d.er M
 |.p _=>rfl
 |.elem _=>rfl
 |.aj _ _=>rfl
 |.own id g t c=>by
  cases c with
  |none=>rw[TD.er,TD.er,h]
  |some _=>rfl
 |.view _ _ _ _ _=>rfl
 |.agg f=>by rw[TD.er,TD.er,cz h f]
 |.arr _ _ f=>by rw[TD.er,TD.er,cz h f]
 |.fn _ f=>by rw[TD.er,TD.er,cz h f]
 |.iface _ x=>by rw[TD.er,TD.er,rU h x]
 |.bm f=>by rw[TD.er,TD.er,cz h f]
 |.mp _=>rfl
 |.rv _ _ _ _ _=>rfl
 |.ba _ _ _=>rfl
 |.rw _=>by simp only[TD.er,ez,h]
 |.rp _ _=>by simp only[TD.er,ez,h]
 |.ak=>rfl
theorem cz{L M:Lk}(h:∀id t,Yc L id t ad=Yc M id t ad):∀(f:yL TD),TD.aE L f=TD.aE M f
 |[]=>rfl
 |x::r=>by rw[TD.aE,TD.aE,rU h x,cz h r]
end
theorem ZIy{L M:Lk}(h:∀id t,Yc L id t ad=Yc M id t ad)(e:ai):e.er L=e.er M:=by
 cases e with
 |var d st=>rw[ai.er,ai.er,rU h]
 |row v s st e d=>rw[ai.er,ai.er,rU h]
 |bK t l v st e g j f=>rw[ai.er,ai.er,rU h]
 |_=>rfl
mutual
def TD.free(n:Nat):TD->Bool
 |.own id _ _ c=>c.isSome || id !=n
 |.rw id=>id !=n
 |.rp id _=>id !=n
 |.agg f=>TD.frees n f
 |.arr _ _ f=>TD.frees n f
 |.fn _ f=>TD.frees n f
 |.iface _ x=>TD.free n x
 |.bm f=>TD.frees n f
 |_=>ae
def TD.frees(n:Nat):yL TD->Bool
 |[]=>ae
 |x::r=>TD.free n x&&TD.frees n r
end
def ai.free(n:Nat):ai->Bool
 |.var d _=>d.free n
 |.row _ _ _ _ d=>d.free n
 |.bK _ _ _ _ _ _ d _=>d.free n
 |_=>ae
mutual
theorem kA{L M:Lk}{n:Nat}(h:∀id t,id≠n->Yc L id t ad=Yc M id t ad):∀(d:TD),d.free n=ae->d.er L=d.er M
 |.p _,_=>rfl
 |.elem _,_=>rfl
 |.aj _ _,_=>rfl
 |.own id j t c,f=>by
  cases c with
  |none=>
   have:id≠n:=by simpa[TD.free] using f
   rw[TD.er,TD.er,h id t this]
  |some _=>rfl
 |.view _ _ _ _ _,_=>rfl
 |.agg g,f=>by rw[TD.er,TD.er,cV h g f]
 |.arr _ _ g,f=>by rw[TD.er,TD.er,cV h g f]
 |.fn _ g,f=>by rw[TD.er,TD.er,cV h g f]
 |.iface _ x,f=>by rw[TD.er,TD.er,kA h x f]
 |.bm g,f=>by rw[TD.er,TD.er,cV h g f]
 |.mp _,_=>rfl
 |.rv _ _ _ _ _,_=>rfl
 |.ba _ _ _,_=>rfl
 |.rw id,f=>by
  have:id≠n:=by simpa[TD.free] using f
  simp only[TD.er,ez,h id _ this]
 |.rp id _,f=>by
  have:id≠n:=by simpa[TD.free] using f
  simp only[TD.er,ez,h id _ this]
 |.ak,_=>rfl
theorem cV{L M:Lk}{n:Nat}(h:∀id t,id≠n->Yc L id t ad=Yc M id t ad):∀(f:yL TD),TD.frees n f=ae->TD.aE L f=TD.aE M f
 |[],_=>rfl
 |x::r,g=>by
  simp only[TD.frees,yi]at g;rw[TD.aE,TD.aE,kA h x g.1,cV h r g.2]
end
mutual
def TD.stale(L:Lk)(n:Nat):TD->TD
 |.own id j t c=>if id=n then .own id j t (ab (Yc L id t c)) else .own id j t c
 |.agg h=>.agg (TD.cA L n h)
 |.arr m s h=>.arr m s (TD.cA L n h)
 |.fn f h=>.fn f (TD.cA L n h)
 |.iface t x=>.iface t (TD.stale L n x)
 |.bm h=>.bm (TD.cA L n h)
 |.p x=>.p x
 |.elem x=>.elem x
 |.aj id g=>.aj id g
 |.view id g s lo n=>.view id g s lo n
 |.mp id=>.mp id
 |.rv id v s lo n=>.rv id v s lo n
 |.ba id v g=>.ba id v g
 |.rw id=>if id=n then .rv id (ez L id 0) (ez L id 1) 0 (ez L id 2) else .rw id
 |.rp id g=>if id=n then .ba id (ez L id 0) g else .rp id g
 |.ak=>.ak
def TD.cA(L:Lk)(n:Nat):yL TD->yL TD
 |[]=>[]
 |x::r=>TD.stale L n x::TD.cA L n r
end
def ai.stale(L:Lk)(n:Nat):ai->ai
 |.var d st=>.var (d.stale L n) st
 |.row v s st e d=>.row v s st e (d.stale L n)
 |.bK t h v st e g d f=>.bK t h v st e g (d.stale L n) f
 |e=>e
mutual
theorem rV{L M:Lk}{n:Nat}(h:∀id t,id≠n->Yc L id t ad=Yc M id t ad):∀(d:TD),(d.stale L n).er M=d.er L
 |.p _=>rfl
 |.elem _=>rfl
 |.aj _ _=>rfl
 |.own id j t c=>by
  rw[TD.stale];split
  .rfl
  .rename_i g
   cases c with
   |none=>rw[TD.er,TD.er,h id t g]
   |some _=>rfl
 |.view _ _ _ _ _=>rfl
 |.agg f=>by rw[TD.stale,TD.er,TD.er,bV h f]
 |.arr _ _ f=>by rw[TD.stale,TD.er,TD.er,bV h f]
 |.fn _ f=>by rw[TD.stale,TD.er,TD.er,bV h f]
 |.iface _ x=>by rw[TD.stale,TD.er,TD.er,rV h x]
 |.bm f=>by rw[TD.stale,TD.er,TD.er,bV h f]
 |.mp _=>rfl
 |.rv _ _ _ _ _=>rfl
 |.ba _ _ _=>rfl
 |.rw id=>by
  rw[TD.stale];split
  .rfl
  .rename_i g
   simp only[TD.er,ez,h id _ g]
 |.rp id _=>by
  rw[TD.stale];split
  .rfl
  .rename_i g
   simp only[TD.er,ez,h id _ g]
 |.ak=>rfl
theorem bV{L M:Lk}{n:Nat}(h:∀id t,id≠n->Yc L id t ad=Yc M id t ad):∀(f:yL TD),TD.aE M (TD.cA L n f)=TD.aE L f
 |[]=>rfl
 |x::r=>by rw[TD.cA,TD.aE,TD.aE,rV h x,bV h r]
end
theorem rW{L M:Lk}{n:Nat}(h:∀id t,id≠n->Yc L id t ad=Yc M id t ad)(e:ai):(e.stale L n).er M=e.er L:=by
 cases e with
 |var d st=>rw[ai.stale,ai.er,ai.er,rV h]
 |row v s st e d=>rw[ai.stale,ai.er,ai.er,rV h]
 |bK t j v st e g d f=>rw[ai.stale,ai.er,ai.er,rV h]
 |_=>rfl
def ai.fk:ai->Bool
 |.log _ _ _=>ae
 |.aV _ _ _ _ _=>ae
 |.aS _ _ _ _ _ _ _=>ae
 |.bK _ _ _ _ _ _ _ _=>ae
 |_=>af
theorem EU{e:ai}(h:e.fk=af):dS (ab e)=ad:=by
 cases e <;> first|rfl|cases h
theorem lw{H:yL ai}{e:ai}(h:e.fk=af):lk (H++[e])=lk H:=by
 funext id;unfold lk;rcases Nat.lt_trichotomy id H.length with hl|hl|hl
 .grind
 .subst hl;rw[List.getElem?_concat_length,EU h,ybk (ym _)];rfl
 grind
theorem gA{H:yL ai}{id:Nat}{e x:ai}(f:H[id]? =ab x)(h1:x.fk=af)(h2:e.fk=af):lk (H.set id e)=lk H:=by
 funext j;unfold lk;by_cases g:id=j
 .subst g;rw[an f,f,EU h1,EU h2]
 grind
theorem nW{H:yL ai}{e:ai}(h:lk (H++[e])=lk H):aG (H++[e])=aG H++[e.er (lk H)]:=by
 unfold aG;grind
theorem Wo{H:yL ai}{id:Nat}{e:ai}(h:lk (H.set id e)=lk H):aG (H.set id e)=(aG H).set id (e.er (lk H)):=by
 unfold aG;simp_all
theorem wg{H:yL ai}{T:Ty}{e:yc}(id:Nat)(t:Ty):Yc (lk H) id t ad=Yc (lk (H++[.log T e []])) id t ad:=by
 unfold Yc lk;dsimp only;rcases Nat.lt_trichotomy id H.length with hl|hl|hl
 .grind
 .subst hl;rw[List.getElem?_concat_length,ybk (ym _)];show[]=(Ty.bv T t []).getD []
  cases h:Ty.bv T t [] with
  |none=>rfl
  |some y=>
   obtain⟨e,f⟩:=ZF h;subst e;subst f;rfl
 grind
theorem EV{H:yL ai}{T:Ty}{e:yc}:aG (H++[.log T e []])=aG H++[.log T.size e []]:=by
 unfold aG;rw[yat];congr 1;exact ycd λx _=>(ZIy (λid t=>wg id t) x).symm
theorem lz{H:yL ai}{e:ai}(id:Nat)(t:Ty)(h:id≠H.length):Yc (lk H) id t ad=Yc (lk (H++[e])) id t ad:=by
 unfold Yc lk
 all_goals grind
theorem ZE9{H:yL ai}{T:Ty}{e:yc}{l:yL T.aT}(h:H.all (ai.free H.length)=ae):aG (H++[.log T e l])=aG H++[.log T.size e (l.map T.enc)]:=by
 unfold aG;rw[yat];congr 1;refine ycd λx g=> ?_
 cases x with
 |var d st=>
  rw[ai.er,ai.er];congr 1
  exact(kA (λid t f=>lz id t f) d (yan.1 h _ g)).symm
 |row v s st e d=>
  rw[ai.er,ai.er];congr 1
  exact(kA (λid t f=>lz id t f) d (yan.1 h _ g)).symm
 |bK t y v st e m d j=>
  rw[ai.er,ai.er,kA (λid t f=>lz id t f) d (yan.1 h _ g)]
 |_=>rfl
theorem QH{H:yL ai}{n:Nat}{e:ai}(L:Lk)(id:Nat)(t:Ty)(h:id≠n):Yc (lk H) id t ad=Yc (lk ((H.map (ai.stale L n)).set n e)) id t ad:=by
 have f:lk ((H.map (ai.stale L n)).set n e) id=lk H id:=by
  unfold lk;rw[cJ (Ne.symm h),yak]
  cases H[id]? with
  |none=>rfl
  |some x=>cases x <;> rfl
 unfold Yc;rw[f]
theorem ZIz{H:yL ai}{n:Nat}{T:Ty}{e:yc}{l:yL T.aT}:aG ((H.map (ai.stale (lk H) n)).set n (.log T e l))=(aG H).set n (.log T.size e (l.map T.enc)):=by
 unfold aG;rw[ybj,yaw];congr 1;refine ycd λx g=> ?_;exact rW (λid t f=>QH (lk H) id t f) x
def TP.isV:TP->yO (Σ t:Ty,t.aT)
 |.v t x=>ab ⟨t,x⟩
 |_=>ad
def TP.nX:TP->Nat->TP->yO TP
 |.v (.st f) x,i,z=>match z.isV with
  |some q=>(Ty.upd f x i q.1 q.2).map (.v (.st f))
  |none=>ab (.agg ((Ty.eQ f x).set i z))
 |.agg l,i,z=>ab (.agg (l.set i z))
 |_,_,_=>ad
theorem ZLz{x y z:TP}{i:Nat}(h:x.nX i z=ab y):∀xs,x.pe=.agg xs->y.pe=.agg (xs.set i z.pe):=by
 cases x with
 |v u a=>
  cases u with
  |st j=>
   intro xs g;have f:Pl.agg (Ty.encs j a)=.agg xs:=g;injection f with f;subst f;simp only[TP.nX]at h;split at h
   .rename_i q A;obtain⟨m,B,rfl⟩:=Ze h
    have E:z=.v q.1 q.2:=by
     unfold TP.isV at A
     all_goals grind
    show Pl.agg (Ty.encs j m)=_;rw[ZEW j a i q.1 q.2 m B,E];rfl
   .cases h;show Pl.agg (TP.cj ((Ty.eQ j a).set i z))=_;rw[VL,ybj, <-VL]
    exact congrArg (λl=>Pl.agg (l.set i z.pe)) (vH j a)
  |_=>cases h
 |agg l=>
  intro xs g;cases h;rw[TP.pe]at g;injection g with g;subst g
  rw[TP.pe,VL,VL,ybj]
 |_=>cases h
def ZPi(x:Pl)(i o:Nat):Bool:=
 match x with
 |.agg f=>o==Pl.sizes (f.take i)
 |_=>af
def ZMU(x:TP)(i:Nat):TD->yO TD
 |.p y=>(x.nX i y).map .p
 |d=>x.parts.map λl=>.agg ((l.map .p).set i d)
def EW(a:nU)(i:Nat):TD->yO TD
 |.p z=>(TP.to lr z a.t).map λf=>.p (.v (.arr a.n a.t) (a.l.set i f))
 |d=>ab (.arr a.n a.t.size ((a.l.map λy=>TD.p (.v a.t y)).set i d))
theorem rX{L:Lk}(l:yL TP):TD.aE L (l.map .p)=(TP.cj l).map .p:=by
 rw[ZI,VL,yaw,yaw];rfl
def ZMV(n s:Nat)(xs:yL TP)(i:Nat):TD->yO TD
 |.p _=>ad
 |d=>ab (.arr n s ((xs.map .p).set i d))
abbrev Kg(O:Type):=TD->yL ar->(TD->yO TD)->yO O
def eR{O:Type}(L:Lk):yL cg->TD->Kg O->yO O
 |[],d,K=>K d [] ab
 |.fV i o::r,.p x,K=>(x.fV i).bind λz=>if ZPi x.pe i o=ae then eR L r (.p z) λsub hs f=>K sub hs λg=>(f g).bind λd=>ZMU x i d else ad
 |.ix i s::r,.p (.arr n j m),K=>(m[i]?).bind λz=>if s=j then eR L r (.p z) λsub hs f=>K sub (.el z.pe::hs) λg=>(f g).bind λd=>ZMV n j m i d else ad
 |.ix i s::r,.p x,K=>x.dI.bind λa=>if s=a.t.size then(a.l[i]?).bind λy=>eR L r (.p (.v a.t y)) λsub hs f=>K sub (.el (a.t.enc y)::hs) λg=>
   (f g).bind λd=>EW a i d else ad
 |.fV i o::r,.agg h,K=>(h[i]?).bind λz=>if o=Dv.sizes ((TD.aE L h).take i) then eR L r z λsub hs f=>K sub hs λg=>(f g).map λy=>.agg (h.set i y) else ad
 |.ix i s::r,.arr n j h,K=>(h[i]?).bind λz=>if s=j then eR L r z λsub hs f=>K sub hs λg=>(f g).map λy=>.arr n j (h.set i y) else ad
 |_,_,_=>ad
def dT:yL cg->Nat
 |[]=>0
 |q::r=>q.o+dT r
theorem Wp(l:yL cg):WY l=dT l:=by
 have:∀(l:yL cg)(n:Nat),l.foldl (λn q=>n+q.o) n=n+dT l:=by
  intro l
  induction l with
  |nil=>intro n;rfl
  |cons q r f=>intro n;rw[List.foldl_cons,f,dT];omega
 rw[WY,this];omega
theorem XR{O:Type}{L:Lk}:∀(yQ:yL cg)(d:TD)(K:Kg O)(out:O),eR L yQ d K=ab out->
 ∃sub hs g C,K sub hs g=ab out/\aZ C/\(∀yK,Z9 (d.er L) (yQ.map cg.i) (hs++yK)=ab (C,dT yQ,sub.er L,yK))/\
  ∀new d',g new=ab d'->∀yK,WS (new.er L) (d.er L) (yQ.map cg.i) (hs++yK)=ab (d'.er L)
 |[],d,K,out,h=>⟨d,[],ab,[],h,zP,λ_=>rfl,λnew d' h _=>by cases h;rfl⟩
 |q::r,d,K,out,h=>by
  cases q with
  |fV i o=>
   cases d with
   |p x=>
    simp only[eR]at h;obtain⟨z,m,h⟩:=yf.1 h;obtain⟨A,h⟩:=Zb h;obtain⟨sub,hs,g,C,B,E,F,G⟩:=XR r (.p z) _ out h;obtain⟨j,T,X⟩:=ZIg m
    have Z:o=Pl.sizes (j.take i):=by
     unfold ZPi at A;grind
    refine⟨sub,hs,_,C,B,E,λyK=> ?_,λnew d' f yK=> ?_⟩
    .rw[TD.er,T];show Z9 (.p (.agg j)) (i::r.map cg.i) (hs++yK)=_;unfold Z9;rw[X];dsimp only;have:=F yK;rw[TD.er]at this;rw[this,yae,dT,Z];rfl
    .obtain⟨d1,I,f⟩:=yf.1 f;have:=G new d1 I yK;unfold ZMU at f;rw[TD.er]at this;rw[TD.er,T];show WS (new.er L) (.p (.agg j)) (i::r.map cg.i) (hs++yK)=_;unfold WS;rw[X];dsimp only;rw[this];split at f
     .obtain⟨x',R,rfl⟩:=Ze f;rw[TD.er,TD.er,ZLz R j T]
     .rename_i Q;obtain⟨l,R,rfl⟩:=Ze f
      have e3:TP.cj l=j:=by
       have:=CP R;grind
      rw[TD.er,ZI,ybj, <-ZI,rX,e3]
      cases d1 <;> first|rfl|exact absurd rfl (Q _)
   |agg S=>
    simp only[eR]at h;obtain⟨z,m,h⟩:=yf.1 h;split at h
    .rename_i A;obtain⟨sub,hs,g,C,B,E,F,G⟩:=XR r z _ out h;refine⟨sub,hs,_,C,B,E,λyK=> ?_,λnew d' f yK=> ?_⟩
     .rw[TD.er];show Z9 (.agg (TD.aE L S)) (i::r.map cg.i) (hs++yK)=_;unfold Z9;rw[ll m];dsimp only;rw[F yK,yae,dT,A];rfl
     .obtain⟨y,I,rfl⟩:=Ze f;rw[TD.er];show WS (new.er L) (.agg (TD.aE L S)) (i::r.map cg.i) (hs++yK)=_;unfold WS;rw[ll m];dsimp only;rw[G new y I yK,yae,TD.er,ZI,ZI,ybj]
    .cases h
   |_=>cases h
  |ix i s=>
   cases d with
   |p x=>
    by_cases Y:∃n M j,x=.arr n M j
    .obtain⟨n,M,j,rfl⟩:=Y;simp only[eR]at h;obtain⟨z,m,h⟩:=yf.1 h;split at h
     .rename_i A;obtain⟨sub,hs,g,C,B,E,F,G⟩:=XR r (.p z) _ out h;have hz:(TP.cj j)[i]? =ab z.pe:=by rw[VL,yak,m];rfl
      refine⟨sub,_,_,((TP.cj j)[i]? =ab z.pe)::C,B,⟨hz,E⟩,λyK=> ?_,λnew d' f yK=> ?_⟩
      .rw[TD.er,TP.pe];show Z9 (.p (.arr n M (TP.cj j))) (i::r.map cg.i) (_::(hs++yK))=_;unfold Z9;dsimp only;have:=F yK;rw[TD.er]at this;rw[this,yae,dT, <-A];rfl
      .obtain⟨d1,I,f⟩:=yf.1 f;have:=G new d1 I yK;rw[TD.er]at this;rw[TD.er,TP.pe];show WS (new.er L) (.p (.arr n M (TP.cj j))) (i::r.map cg.i) (_::(hs++yK))=_;unfold WS;dsimp only;rw[this];by_cases U:∃y,d1=.p y
       .obtain⟨y,rfl⟩:=U;cases f
       .have e:ZMV n M j i d1=ab (.arr n M ((j.map .p).set i d1)):=by cases d1 <;> first|rfl|exact absurd ⟨_,rfl⟩ U
        rw[e]at f;cases f;rw[TD.er,ZI,ybj, <-ZI,rX];cases d1 <;> first|rfl|exact absurd ⟨_,rfl⟩ U
     .cases h
    have hg:eR L (.ix i s::r) (.p x) K=x.dI.bind λa=>if s=a.t.size then(a.l[i]?).bind λy=>eR L r (.p (.v a.t y)) λsub hs g=>K sub (.el (a.t.enc y)::hs) λnew=>(g new).bind λd=>EW a i d else ad:=by
     cases x <;> first|rfl|exact absurd ⟨_,_,_,rfl⟩ Y
    rw[hg]at h;obtain⟨a,m,h⟩:=yf.1 h;split at h
    .rename_i W;obtain⟨y,A,h⟩:=yf.1 h;obtain⟨sub,hs,g,C,B,E,F,G⟩:=XR r (.p (.v a.t y)) _ out h;refine⟨sub,_,_,((a.l.map a.t.enc)[i]? =ab (a.t.enc y))::C,B,⟨rL A,E⟩,λyK=> ?_,λnew d' f yK=> ?_⟩
     .rw[TD.er,QQ m];show Z9 (.p (.arr a.n a.t.size _)) (i::r.map cg.i) (_::(hs++yK))=_;unfold Z9;dsimp only;have:=F yK;rw[TD.er,TP.pe]at this;rw[this,yae,dT,W];rfl
     .obtain⟨d1,I,f⟩:=yf.1 f;have:=G new d1 I yK;unfold EW at f;rw[TD.er,TP.pe]at this;rw[TD.er,QQ m];show WS (new.er L) (.p (.arr a.n a.t.size _)) (i::r.map cg.i) (_::(hs++yK))=_;unfold WS;dsimp only;rw[this];split at f
      .rename_i z;obtain⟨y',R,rfl⟩:=Ze f;rw[TD.er];dsimp only;rw[nQ z a.t y' R, <-ybj];rfl
      .rename_i Q;cases f;rw[TD.er,ZI,ybj,yaw,yaw];cases d1 <;> first|rfl|exact absurd rfl (Q _)
    .cases h
   |arr n M S=>
    simp only[eR]at h;obtain⟨z,m,h⟩:=yf.1 h;split at h
    .rename_i A;obtain⟨sub,hs,g,C,B,E,F,G⟩:=XR r z _ out h;refine⟨sub,hs,_,C,B,E,λyK=> ?_,λnew d' f yK=> ?_⟩
     .rw[TD.er];show Z9 (.arr n M (TD.aE L S)) (i::r.map cg.i) (hs++yK)=_;unfold Z9;rw[ll m];dsimp only;rw[F yK,yae,dT, <-A];rfl
     .obtain⟨y,I,rfl⟩:=Ze f;rw[TD.er];show WS (new.er L) (.arr n M (TD.aE L S)) (i::r.map cg.i) (hs++yK)=_;unfold WS;rw[ll m];dsimp only;rw[G new y I yK,yae,TD.er,ZI,ZI,ybj]
    .cases h
   |_=>cases h
theorem gg{H:yL ai}{id:Nat}{T:Ty}{v:yL Unit}{st:Bool}{e:yc}{l:yL T.aT}(hd:H[id]? =ab (.aV T v st e l)):(TD.rw id).er (lk H)=.rv id v.length T.size 0 l.length/\
 ∀yQ,(TD.rp id yQ).er (lk H)=.ba id v.length (WY yQ) (yQ.map cg.i):=by
 have h:Yc (lk H) id aQf ad=([v,yx T.size (),yx l.length ()]:yL aQh):=by
  unfold Yc lk;dsimp only;rw[hd];rfl
 refine⟨?_,λyQ=> ?_⟩
 .rw[TD.er];unfold ez;rw[h];show Dv.rv id v.length (yx T.size ()).length 0 (yx l.length ()).length=_;grind
 .rw[TD.er];unfold ez;rw[h];rfl
abbrev Kn(O:Type):=yL TD->TD->yL ai->yL ar->Nat->yO O
def rY(P:yg)(o:yj)(ts:yL TD)(H:yL ai)(d:TD)(hs:yL ar):Prop:=
 (∀f,bj P o (TD.aE (lk H) ts) (hs++f)=ad)/\∃C,aZ C/\∀f,bH P o (TD.aE (lk H) ts) (aG H) (hs++f)=ab (C,d.er (lk H),f)
def jD(P:yg)(o:yj)(ts:yL TD)(H:yL ai)(d:TD)(H':yL ai)(hs:yL ar):Prop:=
 (∀f,bj P o (TD.aE (lk H) ts) (hs++f)=ad)/\(∀f,bH P o (TD.aE (lk H) ts) (aG H) (hs++f)=ad)/\
   ∃C,aZ C/\∀f,cP P o (TD.aE (lk H) ts) (aG H) (hs++f)=ab (C,d.er (lk H'),aG H',f)
theorem dM{a b c d:Prop}(h:c):a\/b\/c\/d:=.inr (.inr (.inl h))
structure Good(P:yg)(o:yj)(ts all:List TD)(H:List ai)(all':List TD)(d:TD)(H':List ai)(hs:List ar)(bQ:Nat):Prop where
 same:TD.aE (lk H') all'=TD.aE (lk H) all
 len:all'.length=all.length
 op:(bQ=0/\H'=H/\dp (lk H) P o ts d hs)\/(bQ=1/\H'=H/\rY P o ts H d hs)\/(bQ=2/\jD P o ts H d H' hs)\/(bQ=3/\aG H'=aG H/\jD P o ts H d H' hs)
section
variable{P:yg}{o:yj}{ts all:yL TD}{H:yL ai}{O:Type}{K:Kn O}{out:O}
def nY(H:yL ai)(id:Nat):yO TD:=
 match H[id]? with
 |some (.var d _)=>ab d
 |_=>ad
theorem rZ{id:Nat}{d:TD}(h:nY H id=ab d):∃st,H[id]? =ab (.var d st)/\(aG H)[id]? =ab (.var (d.er (lk H)) st):=by
 unfold nY at h;split at h
 .rename_i g st f;cases h;exact⟨st,f,Z6 f⟩
 .cases h
def EX(H:yL ai)(id v:Nat):yO TD:=
 match H[id]? with
 |some (.row w _ _ _ d)=>if(w==v)=ae then ab d else ad
 |_=>ad
theorem ZBk{id v:Nat}{d:TD}(h:EX H id v=ab d):∃w s st e,H[id]? =ab (.row w s st e d)/\(w==v)=ae:=by
 unfold EX at h
 all_goals grind
def EY(P:yg)(t:yc)(all:yL TD)(H:yL ai)(K:Kn O):TD->yO O
 |.aj id f=>(nY H id).bind λd=>eR (lk H) f d λsub hs _=>if fS P t (sub.er (lk H))=ae then K all sub H hs 1 else ad
 |.ba id v f=>(EX H id v).bind λd=>eR (lk H) f d λsub hs _=>if fS P t (sub.er (lk H))=ae then K all sub H hs 1 else ad
 |_=>ad
theorem ZDB{t:yc}{x:yp}{B:TD}(ho:o.op=.load t x)(F:bo P ts 0 x=ab B)(h:EY P t all H K B=ab out):∃a d H' hs c,K a d H' hs c=ab out/\Good P o ts all H a d H' hs c:=by
 have g:=Zs (L:=lk H) F;unfold EY at h;split at h
 .rename_i id f;obtain⟨d,j,h⟩:=yf.1 h;obtain⟨st,E,G⟩:=rZ j;obtain⟨sub,hs,l,C,m,y,I,_⟩:=XR _ _ _ _ h;obtain⟨M,z⟩:=Zb m;refine⟨_,_,_,_,_,z,rfl,rfl,.inr (.inl ⟨rfl,rfl,λA=> ?_,C++[dT f=WY f],Zm.2 ⟨y,(Wp _).symm,ao⟩,λA=> ?_⟩)⟩
  .unfold bj;rw[ho];dsimp only;rw[g];rfl
  .unfold bH;rw[ho];dsimp only;rw[g];dsimp only[TD.er];grind
 .rename_i id v f;obtain⟨d,j,h⟩:=yf.1 h;obtain⟨w,s,st,e,E,G⟩:=ZBk j;obtain⟨sub,hs,l,C,m,y,I,_⟩:=XR _ _ _ _ h;obtain⟨M,z⟩:=Zb m;refine⟨_,_,_,_,_,z,rfl,rfl,.inr (.inl ⟨rfl,rfl,λA=> ?_,C++[dT f=WY f],Zm.2 ⟨y,(Wp _).symm,ao⟩,λA=> ?_⟩)⟩
  .unfold bj;rw[ho];dsimp only;rw[g];rfl
  .unfold bH;rw[ho];dsimp only;rw[g];dsimp only[TD.er];rw[Z6 E];dsimp only[ai.er];grind
 .cases h
def EZ(P:yg)(t:yc)(lo hi:yO Int)(all:yL TD)(H:yL ai)(K:Kn O):TD->yO O
 |.rv id v s g n=>match P.underlying t,H[id]? with
  |some (.slice e),ab (.row w f _ _ d)=>hi.bind λh=>(aS (d.er (lk H)) f).bind λN=>if(P.cellsOf e=s&&(P.info? e).isSome&&w==v&&f==s&&f !=0)=ae then
    if(ag (0<=lo.getD 0)&&ag (lo.getD 0<=h)&&ag (g+h.toNat<=N))=ae then K all (.rv id v s (g+(lo.getD 0).toNat) (h.toNat - (lo.getD 0).toNat)) H [.raw] 1 else ad else ad
  |_,_=>ad
 |_=>ad
theorem ZBl{t:yc}{x:yp}{lo hi:yO yp}{l j:yO Int}{m:TD}(ho:o.op=.slice t x lo hi ad)(G:bo P ts t x=ab m)(hl:eY P ts lo=ab l)(f:eY P ts hi=ab j)(h:EZ P t l j all H K m=ab out):
 ∃a d H' hs c,K a d H' hs c=ab out/\Good P o ts all H a d H' hs c:=by
 have y:=Zs (L:=lk H) G;have hl:=iC (L:=lk H) hl;have f:=iC (L:=lk H) f;unfold EZ at h;split at h
 .rename_i id v s I n;split at h
  .rename_i e w T st U d z M;obtain⟨A,Q,B⟩:=yf.1 h;obtain⟨N,W,E⟩:=yf.1 B;obtain⟨X,F⟩:=Zb E;obtain⟨g,R⟩:=Zb F;clear h B E F;simp only[yi,yP]at g;subst Q;refine⟨_,_,_,_,_,R,rfl,rfl,.inr (.inl ⟨rfl,rfl,λS=> ?_,[0<=l.getD 0,l.getD 0<=A,I+A.toNat<=N],⟨g.1.1,g.1.2,g.2,ao⟩,λS=> ?_⟩)⟩
   .unfold bj;rw[ho];dsimp only;rw[z,y,hl,f];rfl
   .unfold bH;rw[ho];dsimp only;rw[z,y,hl,f];dsimp only[TD.er];rw[yaf,yz];dsimp only;rw[Z6 M];dsimp only[ai.er];grind
  .cases h
 .cases h
def pD{α β:Type}(o:yO α)(f:α->yO β)(g:yO β):yO β:=
 match o with
 |some a=>f a
 |none=>g
def mE(P:yg)(f:yc)(k:Ty):Bool:=lX P f&&(k.flat&&mB P 20 f k)
structure sa where
 tid:yc
 k:Ty
 v:Ty
 l:List (k.aT×v.aT)
def sb(H:yL ai)(id:Nat):yO sa:=
 match H[id]? with
 |some (.map f k v l)=>ab ⟨f,k,v,l⟩
 |_=>ad
theorem FA{id:Nat}{m:sa}(h:sb H id=ab m):H[id]? =ab (.map m.tid m.k m.v m.l)/\(aG H)[id]? =ab (.map m.tid (fU m.k.enc m.v.enc m.l)):=by
 unfold sb at h;split at h
 .rename_i f;cases h;exact⟨f,Z6 f⟩
 .cases h
def FB(x:TD)(k:Ty):yO k.aT:=x.inner.bind λy=>TP.to fW y k
theorem ZBn{L:Lk}{x:TD}{k:Ty}{y:k.aT}(h:FB x k=ab y):x.er L=.p (k.enc y):=by
 obtain⟨p,f,g⟩:=yf.1 h;rw[XC f,TD.er,vM p k y g]
theorem FC{f:yc}{k:Ty}(h:mE P f k=ae):∀x y:k.aT,k.enc x=k.enc y↔x=y:=by
 simp only[mE,yi]at h;exact λx y=>⟨rM k x y h.2.1,λe=>by rw[e]⟩
theorem pE{f:yc}{k:Ty}(h:mE P f k=ae):∀x:k.aT,bu P 20 f (k.enc x):=by
 simp only[mE,yi]at h;exact rO 20 f k h.2.2
theorem FD{f:yc}{k:Ty}(h:mE P f k=ae):lX P f=ae:=by
 simp only[mE,yi]at h;exact h.1
def sd(P:yg)(t:yc):yO TP:=
 match bf P t with
 |.p z=>vQ P t z
 |_=>ad
theorem FE{t:yc}{z:TP}(h:sd P t=ab z):bf P t=.p z.pe:=by
 unfold sd at h;split at h
 .rename_i y f;rw[f,CZ h]
 .cases h
def FF(ok:Bool)(d:TD)(b:Bool):TD:=if ok then .bm [d,.p (.v .bool b)] else d
def FG(P:yg)(t:yc)(all:yL TD)(H:yL ai)(ok:Bool)(K:Kn O)(j:yc->yO TD):TD->yO O
 |.mp id=>match P.underlying t with
  |some (.map g h)=>(sb H id).bind λm=>(j g).bind λx=>(FB x m.k).bind λf=>(sd P h).bind λz=>
   if(mE P g m.k&&AS P h)=ae then
    pD (@hP m.k.aT m.v.aT (Ty.eK m.k) m.l f) (λy=>K all (FF ok (.p (.v m.v y)) ae) H [.el (m.v.enc y)] 1) (K all (FF ok (.p z) af) H [.raw] 1)
   else ad
  |_=>ad
 |_=>ad
theorem ZxL{L:Lk}{ok:Bool}{d:TD}{b:Bool}:(FF ok d b).er L=if ok then .bm [d.er L,.p (.bool b)] else d.er L:=by
 cases ok <;> rfl
theorem Zzg{t:yc}{x ix:yp}{ok:Bool}{E:TD}(ho:o.op=.lookup t x ix ok)(Q:bo P ts t x=ab E)(h:FG P t all H ok K (λj=>bo P ts j ix) E=ab out):
 ∃a d H' hs c,K a d H' hs c=ab out/\Good P o ts all H a d H' hs c:=by
 have F:=Zs (L:=lk H) Q;unfold FG at h;split at h
 .rename_i id;split at h
  .rename_i j X G;obtain⟨m,R,h⟩:=yf.1 h;obtain⟨Y,S,h⟩:=yf.1 h;obtain⟨f,T,h⟩:=yf.1 h;obtain⟨z,U,h⟩:=yf.1 h;obtain⟨g,h⟩:=Zb h;rw[yi]at g;obtain⟨Z,I⟩:=FA R;have A:=Zs (L:=lk H) S;rw[ZBn T]at A
   have M:∀hs,bj P o (TD.aE (lk H) ts) hs=ad:=λhs=>by
    unfold bj;rw[ho]
   letI:=Ty.eK m.k
   unfold pD at h;split at h
   .rename_i y B
    refine⟨_,_,_,_,_,h,rfl,rfl,.inr (.inl ⟨rfl,rfl,λ_=>M _,[bu P 20 j (m.k.enc f),iZ P j (fU m.k.enc m.v.enc m.l),V6 (fU m.k.enc m.v.enc m.l) (m.k.enc f) (ab (m.v.enc y))],
     ⟨pE g.1 f,CL (pE g.1) _,@ZDk _ _ (Ty.eK m.k) _ _ (FC g.1) _ _ _ B,ao⟩,λW=> ?_⟩)⟩
    unfold bH;rw[ho];dsimp only;rw[G,F];dsimp only[TD.er];rw[A,I]
    try dsimp only
    rw[yaf,yz]
    try dsimp only
    rw[yW (FD g.1),ZxL];rfl
   .rename_i B
    refine⟨_,_,_,_,_,h,rfl,rfl,.inr (.inl ⟨rfl,rfl,λ_=>M _,[bu P 20 j (m.k.enc f),iZ P j (fU m.k.enc m.v.enc m.l),V6 (fU m.k.enc m.v.enc m.l) (m.k.enc f) ad],
     ⟨pE g.1 f,CL (pE g.1) _,@ZDl _ _ (Ty.eK m.k) _ _ (FC g.1) _ _ (by rw[B];rfl),ao⟩,λW=> ?_⟩)⟩
    unfold bH;rw[ho];dsimp only;rw[G,F];dsimp only[TD.er];rw[A,I]
    try dsimp only
    rw[yaf,yz]
    try dsimp only
    rw[yW (by rw[FD g.1,g.2];rfl),ZxL,FE U];rfl
  .cases h
 .cases h
def FH(P:yg)(t:yc)(all:yL TD)(H:yL ai)(K:Kn O):TD->yO O
 |.mp id=>match P.underlying t with
  |some (.map _ _)=>(sb H id).bind λm=>K all (.p (.v (.int .i64) (m.l.length:Int))) H [] 1
  |_=>ad
 |_=>ad
theorem Zzi{t:yc}{x:yp}{c:Call}{f:TD}(ho:o.op=.call c)(hc:c.callee=.builtin .len)(ha:c.args.toList=[x])(ht:c.argTypes.toList=[t])(g:bo P ts t x=ab f)(h:FH P t all H K f=ab out):
 ∃a d H' hs c,K a d H' hs c=ab out/\Good P o ts all H a d H' hs c:=by
 have j:=Zs (L:=lk H) g;unfold FH at h;split at h
 .rename_i id;split at h
  .rename_i B E l;obtain⟨m,y,h⟩:=yf.1 h;obtain⟨F,z⟩:=FA y;refine⟨_,_,_,_,_,h,rfl,rfl,.inr (.inl ⟨rfl,rfl,λA=> ?_,[],zP,λA=> ?_⟩)⟩
   .unfold bj;grind
   .unfold bH;rw[ho];dsimp only;rw[hc];dsimp only;rw[ha,ht];dsimp only;rw[l,j];dsimp only[TD.er];rw[z];simp[TP.pe,Ty.enc,fU]
  .cases h
 .cases h
theorem se{e:ai}(h:e.fk=af):TD.aE (lk (H++[e])) all=TD.aE (lk H) all:=by rw[lw h]
theorem ZBp{T:Ty}{e:yc}:TD.aE (lk (H++[.log T e []])) all=TD.aE (lk H) all:=(cz (λid t=>wg id t) all).symm
theorem pF{e:ai}(h:TD.frees H.length all=ae):TD.aE (lk (H++[e])) all=TD.aE (lk H) all:=(cV (λid t f=>lz id t f) all h).symm
theorem pG{T:Ty}{e:yc}{l:yL T.aT}:Yc (lk (H++[.log T e l])) H.length T ad=l:=by
 unfold Yc lk;dsimp only;rw[List.getElem?_concat_length];show(Ty.bv T T l).getD []=l;unfold Ty.bv;split
 all_goals grind
def FJ(P:yg)(t:yc)(dst:Tmp)(all:yL TD)(H:yL ai)(K:Kn O):TD->yO O
 |.p (.sl (ab af) T [])=>match P.underlying t with
  |some (.slice e)=>(P.info? e).bind λi=>if(cq i&&i.size !=0&&ag (i.size=T.size))=ae then K all (.own H.length ad T ad) (H++[.log T e []]) [.fresh dst] 2 else ad
  |_=>ad
 |_=>ad
theorem ZBq{x:yp}{dst:Tmp}{g:TD}(ho:o.op=.assign x)(hd:o.dst=ab dst)(l:bo P ts o.type x=ab g)(h:FJ P o.type dst all H K g=ab out):
 ∃a d H' hs c,K a d H' hs c=ab out/\Good P o ts all H a d H' hs c:=by
 have m:=Zs (L:=lk H) l;unfold FJ at h;split at h
 .rename_i T;split at h
  .rename_i e y;obtain⟨i,z,h⟩:=yf.1 h;obtain⟨f,h⟩:=Zb h;simp only[yi,yP]at f;refine⟨_,_,_,_,_,h,ZBp,rfl,dM (⟨rfl,λj=> ?_,λj=> ?_,[],zP,λj=> ?_⟩)⟩
   .unfold bj;rw[ho];rfl
   .unfold bH;rw[ho]
   .unfold cP;rw[ho];dsimp only;rw[yaf,yz];dsimp only;rw[yW hd,y,m,show(TD.p (TP.sl (ab af) T [])).er (lk H)=Dv.p (.sl (ab af) T.size []) from rfl]
    dsimp only;rw[z];dsimp only;rw[yW (by simpa using f.1),EV,ZV,TD.er,pG,f.2];rfl
  .cases h
 .cases h
def FK(P:yg)(t:yc)(all:yL TD)(H:yL ai)(K:Kn O):yO O:=
 match P.underlying t with
 |some (.map f g)=>(gx P ia f).bind λk=>(gx P ia g).bind λv=>K all (.mp H.length) (H++[.map t k v []]) [] 2
 |_=>ad
theorem ZwI{t:yc}(ho:o.op=.makeMap t ad)(h:FK P t all H K=ab out):∃a d H' hs c,K a d H' hs c=ab out/\Good P o ts all H a d H' hs c:=by
 unfold FK at h;split at h
 .rename_i g j l;obtain⟨k,m,h⟩:=yf.1 h;obtain⟨v,y,h⟩:=yf.1 h;refine⟨_,_,_,_,_,h,se rfl,rfl,dM (⟨rfl,λf=> ?_,λf=> ?_,[],zP,λf=> ?_⟩)⟩
  .unfold bj;rw[ho]
  .unfold bH;rw[ho]
  .unfold cP;rw[ho];dsimp only;rw[nW (lw rfl),ZV];rfl
 .cases h
def mF(n:Int)(b:Nat):Bool:=ag (0<=n)&&nT n.toNat b
def FL(P:yg)(t:yc)(own row:Bool)(n f:Int)(all:yL TD)(H:yL ai)(K:Kn O):yO O:=
 match P.underlying t with
 |some (.slice e)=>(P.info? e).bind λi=>(gx P ia e).bind λT=>
  if row then
   if(cq i&&i.size !=0&&ag (i.size=T.size))=ae then if(ag (n=0)&&mF f i.bytes)=ae then K all (.rv H.length 0 i.size 0 0) (H++[.row 0 i.size ae e (.p (.v (.arr 0 T) []))]) [.arr] 2 else ad else ad
  else if own then
   if(cq i&&i.size !=0&&ag (i.size=T.size))=ae then if(ag (n=0)&&mF f i.bytes)=ae then K all (.own H.length (ab ae) T ad) (H++[.log T e []]) [.own] 2 else ad else ad
  else(sd P e).bind λz=>(TP.to fW z T).bind λy=>
   if(cq i&&ag (i.size=1)&&z.pe.size==1&& !z.pe.isAgg&&ag (T.size=1))=ae then if(ag (f=n)&&mF n i.bytes)=ae then
    K all (.view H.length [] 1 0 n.toNat) (H++[.var (.p (.v (.arr n.toNat T) (yx n.toNat y))) ae]) [.raw] 2 else ad else ad
 |_=>ad
theorem Zth{t:yc}{l c:yp}{n j:Num}{own row:Bool}(ho:o.op=.makeSlice t l c)(hl:(bo P ts 0 l).bind TD.num=ab n)(hc:(bo P ts 0 c).bind TD.num=ab j)(S:n.k=.i64)(G:j.k=.i64)
 (h:FL P t own row n.n j.n all H K=ab out):∃a d H' hs c,K a d H' hs c=ab out/\Good P o ts all H a d H' hs c:=by
 obtain⟨Z,U,W⟩:=yf.1 hl;obtain⟨cd,X,Y⟩:=yf.1 hc;have E:=Zs (L:=lk H) U;have F:=Zs (L:=lk H) X;rw[iD W,S]at E;rw[iD Y,G]at F;unfold FL at h;have I:∀hs,bj P o (TD.aE (lk H) ts) hs=ad:=λhs=>by unfold bj;rw[ho]
 have M:∀hs,bH P o (TD.aE (lk H) ts) (aG H) hs=ad:=λhs=>by unfold bH;rw[ho]
 split at h
 .rename_i e Q;obtain⟨i,R,h⟩:=yf.1 h;obtain⟨T,h2,h⟩:=yf.1 h;split at h
  .obtain⟨g,h⟩:=Zb h;obtain⟨f,h⟩:=Zb h;simp only[yi,yP]at g;simp only[mF,yi,yP]at f;obtain⟨A,B⟩:=mz f.2.2;refine⟨_,_,_,_,_,h,se rfl,rfl,dM (⟨rfl,λm=>I _,λm=>M _,[n.n=0,0<=j.n,j.n.toNat*i.bytes<=Zr,j.n.toNat<=maxLen],⟨f.1,f.2.1,A,B,ao⟩,λm=> ?_⟩)⟩;unfold cP;rw[ho];dsimp only;rw[Q,E,F];dsimp only;rw[R,yaf,yz];dsimp only;rw[yW (by simpa using g.1),nW (lw rfl),ZV];simp only[ai.er,TD.er,TP.pe,CR,g.2];rfl
  split at h
  .obtain⟨g,h⟩:=Zb h;obtain⟨f,h⟩:=Zb h;simp only[yi,yP]at g;simp only[mF,yi,yP]at f;obtain⟨A,B⟩:=mz f.2.2;refine⟨_,_,_,_,_,h,ZBp,rfl,dM (⟨rfl,λm=>I _,λm=>M _,[n.n=0,0<=j.n,j.n.toNat*i.bytes<=Zr,j.n.toNat<=maxLen],⟨f.1,f.2.1,A,B,ao⟩,λm=> ?_⟩)⟩;unfold cP;rw[ho];dsimp only;rw[Q,E,F];dsimp only;rw[R,yaf,yz];dsimp only;rw[yW (by simpa using g.1),EV,ZV,TD.er,pG,g.2];rfl
  .obtain⟨z,z1,h⟩:=yf.1 h;obtain⟨y,z2,h⟩:=yf.1 h;obtain⟨g,h⟩:=Zb h;obtain⟨f,h⟩:=Zb h;simp only[yi,yP,yT]at g;simp only[mF,yi,yP]at f;obtain⟨A,B⟩:=mz f.2.2;refine⟨_,_,_,_,_,h,se rfl,rfl,dM (⟨rfl,λm=>I _,λm=>M _,[j.n=n.n,0<=n.n,n.n.toNat*i.bytes<=Zr,n.n.toNat<=maxLen],⟨f.1,f.2.1,A,B,ao⟩,λm=> ?_⟩)⟩;unfold cP;rw[ho];dsimp only;rw[Q,E,F];dsimp only;rw[R,yaf,yz];dsimp only;rw[FE z1];dsimp only;rw[yW (by simp only[yi,yP];exact g.1),nW (lw rfl),ZV,vM z T y z2];simp only[ai.er,TD.er,TP.pe,WY,List.map_nil,List.foldl_nil];congr 5;show _=[aq.var (Dv.p (Pl.arr n.n.toNat T.size (List.map T.enc (yx n.n.toNat y)))) ae];rw[List.map_replicate,g.2]
 .cases h
end
end Go.Ev
end
section
namespace Go.Ev
section
variable{P:yg}{o:yj}{ts all:yL TD}{H:yL ai}{O:Type}{K:Kn O}{out:O}
theorem nZ{id:Nat}{e x:ai}(f:H[id]? =ab x)(h1:x.fk=af)(h2:e.fk=af):TD.aE (lk (H.set id e)) all=TD.aE (lk H) all:=by rw[gA f h1 h2]
def FM(P:yg)(t:yc)(all:yL TD)(H:yL ai)(K:Kn O)(h j:yc->yO TD):TD->yO O
 |.mp id=>match P.underlying t with
  |some (.map g A)=>(sb H id).bind λm=>(h g).bind λx=>(FB x m.k).bind λf=>((j A).bind (TD.flat (lk H))).bind λz=>(TP.to lr z m.v).bind λy=>
   if mE P g m.k=ae then K all .ak (H.set id (.map m.tid m.k m.v (@jg m.k.aT m.v.aT (Ty.eK m.k) m.l f y))) [.bU (fU m.k.enc m.v.enc (@jg m.k.aT m.v.aT (Ty.eK m.k) m.l f y))] 2 else ad
  |_=>ad
 |_=>ad
theorem Zzk{t:yc}{x k v:yp}{E:TD}(ho:o.op=.mapUpdate t x k v)(Q:bo P ts t x=ab E)(h:FM P t all H K (λg=>bo P ts g k) (λF=>bo P ts F v) E=ab out):
 ∃a d H' hs c,K a d H' hs c=ab out/\Good P o ts all H a d H' hs c:=by
 have R:=Zs (L:=lk H) Q;unfold FM at h;split at h
 .rename_i id;split at h
  .rename_i g F S;obtain⟨m,T,h⟩:=yf.1 h;obtain⟨kd,U,h⟩:=yf.1 h;obtain⟨f,W,h⟩:=yf.1 h;obtain⟨z,X,h⟩:=yf.1 h;obtain⟨zd,A,B⟩:=yf.1 X;obtain⟨y,Y,h⟩:=yf.1 h;obtain⟨j,h⟩:=Zb h;obtain⟨G,Z⟩:=FA T;have I:=Zs (L:=lk H) U;rw[ZBn W]at I;have hz:=Zs (L:=lk H) A
   letI:=Ty.eK m.k
   refine⟨_,_,_,_,_,h,nZ G rfl rfl,rfl,dM (⟨rfl,λM=> ?_,λM=> ?_,[bu P 20 g (m.k.enc f),iZ P g (fU m.k.enc m.v.enc m.l),gn (fU m.k.enc m.v.enc m.l) (m.k.enc f) z.pe.soft (fU m.k.enc m.v.enc (jg m.l f y))],
    ⟨pE j f,CL (pE j) _,by rw[nQ z m.v y Y];exact Zux (FC j) _ _ _,ao⟩,λM=> ?_⟩)⟩
   .unfold bj;rw[ho]
   .unfold bH;rw[ho]
   .unfold cP;rw[ho];dsimp only;rw[S,R];dsimp only[TD.er];rw[I,hz,DA B,Z]
    try dsimp only
    rw[yaf,yz]
    try dsimp only
    rw[yW (FD j),Wo (gA G rfl rfl)];rfl
  .cases h
 .cases h
def TP.jE(x:TP)(T:Ty):Bool:=
 match x with
 |.sl (ab af) t []=>ag (t.size=T.size)
 |_=>af
theorem FN{x:TP}{T:Ty}(h:x.jE T=ae):x.pe=.sl (ab af) T.size []:=by
 unfold TP.jE at h;split at h
 .rename_i t;show Pl.sl (ab af) t.size []=_;grind
 .cases h
def jF(T:Ty)(new:TD):yL Nat->TD->yO TD
 |[],.p x=>if x.jE T then ab new else ad
 |i::r,.p x=>x.parts.bind λl=>(l[i]?).bind λz=>(jF T new r (.p z)).map λy=>.agg ((l.map .p).set i y)
 |i::r,.agg f=>(f[i]?).bind λz=>(jF T new r z).map λy=>.agg (f.set i y)
 |_,_=>ad
theorem pH{L:Lk}{T:Ty}{new:TD}:∀(yQ:yL Nat)(d d':TD),jF T new yQ d=ab d'->XO (d.er L) yQ T.size (new.er L)=ab (d'.er L)
 |[],d,d',h=>by
  cases d with
  |p x=>
   simp only[jF]at h;split at h
   .rename_i j;cases h;rw[TD.er,FN j];simp[XO]
   .cases h
  |_=>cases h
 |i::r,d,d',h=>by
  cases d with
  |p x=>
   simp only[jF]at h;obtain⟨l,m,h⟩:=yf.1 h;obtain⟨z,f,h⟩:=yf.1 h;obtain⟨y,g,rfl⟩:=Ze h;have:=pH (L:=L) r (.p z) y g;rw[TD.er,CP m];unfold XO;rw[show(TP.cj l)[i]? =ab z.pe by rw[VL,yak,f];rfl];dsimp only;rw[TD.er]at this
   rw[this,yae,TD.er,ZI,ybj, <-ZI,EK]
  |agg A=>
   simp only[jF]at h;obtain⟨z,f,h⟩:=yf.1 h;obtain⟨y,g,rfl⟩:=Ze h;have:=pH (L:=L) r z y g;rw[TD.er];unfold XO;rw[ll f];dsimp only
   rw[this,yae,TD.er,ZI,ZI,ybj]
  |_=>cases h
def sf(d:TD)(n:Nat):yL (yL Nat×Ty×yc)->yO (TD×yL (Ty×yc))
 |[]=>ab (d,[])
 |q::r=>(jF q.2.1 (.own n ad q.2.1 ad) q.1 d).bind λf=>(sf f (n+1) r).map λz=>(z.1,(q.2.1,q.2.2)::z.2)
def sg(l:yL (yL Nat×Ty×yc)):yL ar:=l.map λq=>.cm q.1 q.2.1.size q.2.2
def mG(l:yL (Ty×yc)):yL ai:=l.map λq=>.log q.1 q.2 []
def ZID(L:Lk)(n:Nat):Prop:=∀id t,n<=id->Yc L id t ad=[]
theorem FO{L:Lk}:∀(l:yL (yL Nat×Ty×yc))(d:TD)(n:Nat)(z:TD×yL (Ty×yc)),ZID L n->sf d n l=ab z->∀yK,
 YF (d.er L) n (sg l++.raw::yK)=(z.1.er L,z.2.map (λq=>aq.log q.1.size q.2 []),.raw::yK)
 |[],d,n,z,f,h,yK=>by cases h;rfl
 |q::r,d,n,z,f,h,yK=>by
  simp only[sf]at h;obtain⟨g,j,h⟩:=yf.1 h;obtain⟨w,m,rfl⟩:=Ze h;have e:=pH (L:=L) q.1 d g j;rw[TD.er,f n q.2.1 (ym _)]at e;have y:=FO r g (n+1) w (λid t h=>f id t (by omega)) m yK;show YF (d.er L) n (.cm q.1 q.2.1.size q.2.2::(sg r++.raw::yK))=_;unfold YF;grind
theorem ZIE(H:yL ai):ZID (lk H) H.length:=λid t h=>by
 unfold Yc lk;rw[ybk h];rfl
theorem FP:∀(l:yL (Ty×yc))(H:yL ai),(∀id t,Yc (lk H) id t ad=Yc (lk (H++mG l)) id t ad)/\aG (H++mG l)=aG H++l.map (λq=>aq.log q.1.size q.2 [])
 |[],H=>by simp[mG]
 |q::l,H=>by
  have e:H++mG (q::l)=(H++[.log q.1 q.2 []])++mG l:=by simp[mG]
  obtain⟨f,g⟩:=FP l (H++[.log q.1 q.2 []]);rw[e];refine⟨λid t=>(wg id t).trans (f id t), ?_⟩;rw[g,EV];simp
def newVar(hi:HI)(dst:yO Tmp)(d:TD)(all:yL TD)(H:yL ai)(K:Kn O):yO O:=
 match dst with
 |some t=>match hi.cm.lookup t with
  |some l=>(sf d (H.length+1) l).bind λz=>K all (.aj H.length []) (H++[.var z.1 ae]++mG z.2) (sg l++[.raw]) 2
  |none=>K all (.aj H.length []) (H++[.var d ae]) [.raw] 2
 |none=>ad
theorem Zsu{hi:HI}{dst:yO Tmp}{d:TD}(h:newVar hi dst d all H K=ab out):
 ∃H' hs f g,K all (.aj H.length []) H' hs 2=ab out/\TD.aE (lk H') all=TD.aE (lk H) all/\aG H'=aG H++aq.var f ae::g/\∀yK,YF (d.er (lk H)) ((aG H).length+1) (hs++yK)=(f,g,.raw::yK):=by
 unfold newVar at h;split at h
 .rename_i t;split at h
  .rename_i l B;obtain⟨z,m,h⟩:=yf.1 h;obtain⟨y,A⟩:=FP z.2 (H++[.var z.1 ae]);have j:lk (H++[.var z.1 ae])=lk H:=lw rfl;refine⟨_,_,z.1.er (lk H),z.2.map (λq=>aq.log q.1.size q.2 []),h, ?_, ?_,λyK=> ?_⟩
   .rw[<-cz y all,j]
   .rw[A,nW j];simp[ai.er]
   .rw[ZV,yab];exact FO l d _ z (λid t E=>ZIE H id t (by omega)) m yK
  .refine⟨_,_,d.er (lk H),[],h,se rfl, ?_,λyK=> ?_⟩
   .rw[nW (lw rfl)];rfl
   .rfl
 .cases h
def FQ(P:yg)(hi:HI)(dst:yO Tmp)(t:yc)(all:yL TD)(H:yL ai)(K:Kn O):yO O:=
 (P.info? t).bind λi=>(sd P t).bind λz=>if(cq i&&fS P t (bf P t)&&(bf P t).bG)=ae then newVar hi dst (.p z) all H K else ad
theorem ZBs{hi:HI}{t:yc}(ho:o.op=.alloc t)(h:FQ P hi o.dst t all H K=ab out):∃a d H' hs c,K a d H' hs c=ab out/\Good P o ts all H a d H' hs c:=by
 unfold FQ at h;obtain⟨i,j,h⟩:=yf.1 h;obtain⟨z,l,h⟩:=yf.1 h;obtain⟨m,h⟩:=Zb h;obtain⟨H',hs,F,G,y,A,B,E⟩:=Zsu h;refine⟨_,_,_,_,_,y,A,rfl,dM (⟨rfl,λf=> ?_,λf=> ?_,[],zP,λf=> ?_⟩)⟩
 .unfold bj;rw[ho]
 .unfold bH;rw[ho]
 .have g:=E f;rw[TD.er, <-FE l]at g;unfold cP;rw[ho];dsimp only;rw[j];dsimp only;rw[g];dsimp only;rw[yW m,B,ZV];rfl
def wh(L:Lk)(d:TD):TD:=
 match d.plain L with
 |some y=>.p y
 |none=>d
theorem ZLB{L:Lk}(d:TD):(wh L d).er L=nq (d.er L):=by
 unfold wh nq
 cases h:d.plain L with
 |none=>rw[ZuH h]
 |some y=>rw[ZxH h];rfl
def FR(hi:HI)(dst:yO Tmp)(all:yL TD)(H:yL ai)(K:Kn O)(d:TD):yO O:=
 if((wh (lk H) d).er (lk H)).bG=ae then newVar hi dst (wh (lk H) d) all H K else ad
theorem ZGC{hi:HI}{t:yc}{x:yp}{g:TD}(ho:o.op=.box t x)(m:bo P ts t x=ab g)(h:FR hi o.dst all H K g=ab out):∃a d H' hs c,K a d H' hs c=ab out/\Good P o ts all H a d H' hs c:=by
 have y:=Zs (L:=lk H) m;unfold FR at h;obtain⟨j,h⟩:=Zb h;obtain⟨H',hs,F,G,z,A,B,E⟩:=Zsu h;refine⟨_,_,_,_,_,z,A,rfl,dM (⟨rfl,λf=> ?_,λf=> ?_,[],zP,λf=> ?_⟩)⟩
 .unfold bj;rw[ho]
 .unfold bH;rw[ho]
 .have l:=E f;rw[ZLB]at l j;unfold cP;rw[ho];dsimp only;rw[y,l];dsimp only;rw[yW j,B,ZV];rfl
def TD.cO(L:Lk)(v:TD):TD:=
 match v.flat L with
 |some x=>.p x
 |none=>v
theorem FS{L:Lk}(v:TD):(v.cO L).er L=(v.er L).cO:=by
 unfold TD.cO Dv.cO;rw[rK];cases v.flat L <;> rfl
def wj(L:Lk)(yQ:yL cg)(d v:TD):yO TD:=
 match d,yQ with
 |.p _,_=>ab (v.cO L)
 |_,[]=>ab (v.cO L)
 |_,_=>ab v
theorem FT{L:Lk}{yQ:yL cg}{d v new:TD}(h:wj L yQ d v=ab new):jc (yQ.map cg.i) (d.er L) (v.er L)=ab (new.er L):=by
 unfold wj at h;split at h
 .cases h;unfold jc;rw[TD.er];dsimp only;rw[FS]
 .cases h;unfold jc;split
  .rw[FS]
  .simp only[List.map_nil];rw[FS]
 .rename_i g j;cases h;unfold jc;split
  .rename_i z f;cases d <;> first|cases f|skip
   grind
  simp_all
def mH(P:yg)(t:yc)(new sub:Dv):Bool:=new.bG&&new.size==sub.size&&P.cellsOf t==new.size&&(P.info? t).isSome&&new.isAgg==sub.isAgg
def ZPj(hi:HI):yp->yL (yL Nat×Ty×yc)
 |.tmp t=>(hi.gf.lookup t).getD []
 |_=>[]
def FU(P:yg)(gs:yL (yL Nat×Ty×yc))(t:yc)(all:yL TD)(H:yL ai)(K:Kn O)(v:TD):TD->yO O
 |.aj id h=>match H[id]? with
  |some (.var d ae)=>eR (lk H) h d λsub hs g=>(wj (lk H) h d v).bind λf=>(g f).bind λj=>(sf j H.length gs).bind λz=>
   if mH P t (f.er (lk H)) (sub.er (lk H))=ae then K all .ak (H.set id (.var z.1 ae)++mG z.2) (hs++(sg gs++[.raw])) 2 else ad
  |_=>ad
 |.ba id l h=>match H[id]? with
  |some (.row w s ae e d)=>eR (lk H) h d λsub hs g=>(wj (lk H) h d v).bind λf=>(g f).bind λj=>
   if(mH P t (f.er (lk H)) (sub.er (lk H))&&w==l&&aS (j.er (lk H)) s==aS (d.er (lk H)) s)=ae then K all .ak (H.set id (.row l s ae e j)) hs 2 else ad
  |_=>ad
 |_=>ad
theorem ZBt{gs:yL (yL Nat×Ty×yc)}{t:yc}{x y:yp}{W X:TD}(ho:o.op=.store t x y)(hx:bo P ts 0 x=ab W)(hy:bo P ts t y=ab X)(h:FU P gs t all H K X W=ab out):
 ∃a d H' hs c,K a d H' hs c=ab out/\Good P o ts all H a d H' hs c:=by
 have Y:=Zs (L:=lk H) hx;have Z:=Zs (L:=lk H) hy;unfold FU at h;split at h
 .rename_i id B;split at h
  .rename_i d A;obtain⟨sub,hs,G,C,I,M,Q,R⟩:=XR _ _ _ _ h;obtain⟨j,S,f⟩:=yf.1 I;obtain⟨E,T,f⟩:=yf.1 f;obtain⟨z,U,f⟩:=yf.1 f;obtain⟨l,f⟩:=Zb f;unfold mH at l;obtain⟨g1,g2⟩:=FP z.2 (H.set id (.var z.1 ae));have F:lk (H.set id (.var z.1 ae))=lk H:=gA A rfl rfl;refine⟨_,_,_,_,_,f, ?_,rfl,dM (⟨rfl,λg=> ?_,λg=> ?_,C++[dT B=WY B],Zm.2 ⟨M,(Wp _).symm,ao⟩,λg=> ?_⟩)⟩
   .rw[<-cz g1 all,F]
   .unfold bj;rw[ho]
   .unfold bH;rw[ho]
   .have k5:=FO gs E H.length z (ZIE H) U g;unfold cP;rw[ho];dsimp only;rw[Y,Z];dsimp only[TD.er];rw[Z6 A];dsimp only[ai.er];rw[yab,Q (sg gs++[ar.raw]++g)];dsimp only;rw[FT S];dsimp only;rw[R j E T _];dsimp only;rw[yW l,ZV,yab];rw[show([ar.raw]++g)=.raw::g from rfl,k5]
    dsimp only;rw[g2,Wo F];rfl
  .cases h
 .rename_i id v' B;split at h
  .rename_i w s e d A;obtain⟨sub,hs,G,C,I,M,Q,R⟩:=XR _ _ _ _ h;obtain⟨j,S,f⟩:=yf.1 I;obtain⟨E,T,f⟩:=yf.1 f;obtain⟨l,f⟩:=Zb f;rw[yi,yi]at l;obtain⟨⟨l,U⟩,h6⟩:=l;have m:=l;unfold mH at m;have F:lk (H.set id (.row v' s ae e E))=lk H:=gA A rfl rfl;refine⟨_,_,_,_,_,f,nZ A rfl rfl,rfl,dM (⟨rfl,λg=> ?_,λg=> ?_,C++[dT B=WY B],Zm.2 ⟨M,(Wp _).symm,ao⟩,λg=> ?_⟩)⟩
   .unfold bj;rw[ho]
   .unfold bH;rw[ho]
   .unfold cP;rw[ho];dsimp only;rw[Y,Z];dsimp only[TD.er];rw[Z6 A];dsimp only[ai.er];rw[Q g];dsimp only;rw[FT S];dsimp only;rw[R j E T _];dsimp only;rw[yW (by simp only[yi]at m ⊢;exact⟨⟨m,U⟩,h6⟩),Wo F];rfl
  .cases h
 .cases h
def FV(P:yg)(ts:yL TD)(t:yc)(len:Nat)(parts:yL (Nat×yp))(all:yL TD)(H:yL ai)(K:Kn O):yO O:=
 pA (lk H) P ts t len parts λT l e=>if(TD.frees H.length all&&H.all (ai.free H.length))=ae then K all (.own H.length (ab ae) T ad) (H++[.log T e l]) [.own] 2 else ad
theorem Zzo{t:yc}{len:Nat}{parts:Array (Nat×yp)}(ho:o.op=.buildSlice t len parts)(h:FV P ts t len parts.toList all H K=ab out):
 ∃a d H' hs c,K a d H' hs c=ab out/\Good P o ts all H a d H' hs c:=by
 unfold FV at h;obtain⟨e,T,l,i,E,f,m,y,z,A,hs,B⟩:=we h;obtain⟨g,f⟩:=Zb f;rw[yi]at g;refine⟨_,_,_,_,_,f,pF g.1,rfl,dM (⟨rfl,λj=> ?_,λj=> ?_,[],zP,λj=> ?_⟩)⟩
 .unfold bj;rw[ho];rfl
 .unfold bH;rw[ho]
 .unfold cP;rw[ho];dsimp only;rw[yaf,yz];dsimp only;rw[m];dsimp only;rw[y,z];dsimp only;rw[yW (by simpa using A),B,ZE9 g.2,ZV,TD.er,pG,hs]
def sh(P:yg)(T:Ty)(u:yc)(H:yL ai)(K:yL T.aT->yL ar->yO O)(x:TD):yO O:=
 match x with
 |.view id f s lo n=>match P.underlying u with
  |some (.slice _)=>(nY H id).bind λd=>eR (lk H) f d λsub hs _=>sub.inner.bind λy=>y.dI.bind λr=>(Ty.bv r.t T r.l).bind λl=>
   if(ag (s=T.size))=ae then if(ag (lo+n<=r.n))=ae then K ((l.drop lo).take n) hs else ad else ad
  |_=>ad
 |.rv id v s lo n=>match P.underlying u,H[id]? with
  |some (.slice _),ab (.row w g _ _ d)=>d.inner.bind λy=>y.dI.bind λr=>(Ty.bv r.t T r.l).bind λl=>
   if(ag (s=T.size)&&ag (g=T.size)&&w==v)=ae then if(ag (lo+n<=r.n))=ae then K ((l.drop lo).take n) [] else ad else ad
  |_,_=>ad
 |.rw id=>match P.underlying u,H[id]? with
  |some (.slice _),ab (.aV T' v st e h)=>(Ty.bv T' T h).bind λl=>K l []
  |_,_=>ad
 |x=>(mD (lk H) P T u x).bind λl=>K l []
theorem FW{T:Ty}{u:yc}{x:TD}{K:yL T.aT->yL ar->yO O}(h:sh P T u H K x=ab out):
 ∃l hs C,K l hs=ab out/\aZ C/\∀yK,iz P T.size u (aG H) (hs++yK) (x.er (lk H))=ab (C,l.map T.enc,yK):=by
 unfold sh at h;split at h
 .rename_i id M s lo n;split at h
  .rename_i e A;obtain⟨d,F,h⟩:=yf.1 h;obtain⟨st,Y,Z⟩:=rZ F;obtain⟨sub,hs,Q,C,g,R,k3,_⟩:=XR _ _ _ _ h;obtain⟨y,G,g⟩:=yf.1 g;obtain⟨r,I,g⟩:=yf.1 g;obtain⟨l,j,g⟩:=yf.1 g;obtain⟨B,g⟩:=Zb g;obtain⟨z,g⟩:=Zb g;have B:=yF B;have z:=yF z
   have m:sub.er (lk H)=.p (.arr r.n T.size (l.map T.enc)):=by
    rw[XC G,TD.er,QQ I];obtain⟨e,j⟩:=ZF j;grind
   refine⟨_,_,C++[dT M=WY M,lo+n<=r.n],g,Zm.2 ⟨R,(Wp _).symm,z,ao⟩,λyK=> ?_⟩;unfold iz;rw[TD.er];simp_all
  .cases h
 .rename_i id v s lo n;split at h
  .rename_i e w s' st S d A E;obtain⟨y,G,g⟩:=yf.1 h;obtain⟨r,I,g⟩:=yf.1 g;obtain⟨l,j,g⟩:=yf.1 g;obtain⟨B,g⟩:=Zb g;obtain⟨z,g⟩:=Zb g;simp only[yi,yP]at B;have z:=yF z
   have m:d.er (lk H)=.p (.arr r.n T.size (l.map T.enc)):=by
    rw[XC G,TD.er,QQ I];obtain⟨e,j⟩:=ZF j;grind
   refine⟨_,_,[lo+n<=r.n],g,⟨z,ao⟩,λyK=> ?_⟩;unfold iz;rw[TD.er];dsimp only;rw[A,Z6 E,ai.er,m];simp_all
  .cases h
 .rename_i id;split at h
  .rename_i e T' v st S l' A E;obtain⟨l,j,g⟩:=yf.1 h;obtain⟨U,j⟩:=ZF j;subst U;subst j;refine⟨l,[],[0+l.length<=l.length],g,⟨by omega,ao⟩,λyK=> ?_⟩;unfold iz;rw[(gg E).1];dsimp only;rw[A,Z6 E,ai.er];dsimp only;rw[yW (by simp),List.drop_zero, <-yaa (f:=T'.enc),yal];simp
  .cases h
 .rename_i hx W X;obtain⟨l,F,h⟩:=yf.1 h;refine⟨l,[],[],h,zP,λyK=> ?_⟩;rw[yz];unfold iz;split
  .rename_i e;cases x <;> first|cases e|skip
   grind
  .rename_i e;cases x <;> first|cases e|skip
   all_goals grind
  .rw[pB F];rfl
structure si where
 t:Ty
 e:yc
 l:List t.aT
def FX(H:yL ai)(id:Nat):yO si:=
 match H[id]? with
 |some (.log t e l)=>ab ⟨t,e,l⟩
 |_=>ad
theorem ZDI{id:Nat}{m:si}(h:FX H id=ab m):H[id]? =ab (.log m.t m.e m.l):=by
 unfold FX at h
 all_goals grind
def cf(n m b:Nat):Bool:=ag ((n+m)*b<=Zr)&&ag (n+m<=maxLen)
def FY(P:yg)(own row:Bool)(t u:yc)(all:yL TD)(H:yL ai)(K:Kn O)(y:TD):TD->yO O
 |.own id z T ad=>match P.underlying t with
  |some (.slice e)=>(P.info? e).bind λi=>(FX H id).bind λm=>(Ty.bv m.t T m.l).bind λzs=>sh P T u H (λf hs=>
   if(cq i&&ag (i.size=T.size)&&ag (m.e=e)&&ag (T.size≠0))=ae then if cf zs.length f.length i.bytes=ae then
    K (TD.cA (lk H) id all) (.own id ad T ad) ((H.map (ai.stale (lk H) id)).set id (.log T e (zs++f))) hs 2 else ad else ad) y
  |_=>ad
 |.rv id v s lo n=>match P.underlying t with
  |some (.slice e)=>(P.info? e).bind λi=>(gx P ia e).bind λT=>sh P T u H (λf hs=>if f.isEmpty=ae then
    if(cq i&&ag (P.cellsOf e=T.size))=ae then K all (.rv id v s lo n) H (.bare::hs) 2 else ad
   else match H[id]? with
    |some (.row w g ae h d)=>d.inner.bind λy0=>y0.dI.bind λr=>(Ty.bv r.t T r.l).bind λj=>
     if(cq i&&ag (i.size=T.size)&&ag (g=T.size)&&ag (h=e)&&ag (T.size≠0)&&w==v&&ag (lo=0)&&ag (s=T.size))=ae then if(ag (n<=r.n)&&cf n f.length i.bytes)=ae then
      K all (.rv id (v+1) s 0 (n+f.length)) (H.set id (.row (v+1) s ae e (.p (.v (.arr (n+f.length) T) (j.take n++f))))) (.raw::hs) 2 else ad else ad
    |_=>ad) y
  |_=>ad
 |.p (.sl (ab af) _ [])=>if row then match P.underlying t with
  |some (.slice e)=>(P.info? e).bind λi=>(gx P ia e).bind λT=>(mD (lk H) P T u y).bind λf=>
   if(cq i&&i.size !=0&&ag (i.size=T.size)&&ag (P.cellsOf e=T.size))=ae then if nT f.length i.bytes=ae then
    K all (.rv H.length 0 i.size 0 f.length) (H++[.row 0 i.size ae e (.p (.v (.arr f.length T) f))]) [.arr] 2 else ad else ad
  |_=>ad else if own then match P.underlying t with
  |some (.slice e)=>(P.info? e).bind λi=>(gx P ia e).bind λT=>(mD (lk H) P T u y).bind λf=>
   if(cq i&&i.size !=0&&ag (i.size=T.size)&&ag (P.cellsOf e=T.size)&&TD.frees H.length all&&H.all (ai.free H.length))=ae then if nT f.length i.bytes=ae then
    K all (.own H.length ad T ad) (H++[.log T e f]) [.own] 2 else ad else ad
  |_=>ad else ad
 |_=>ad
theorem ZIG{id:Nat}{T:Ty}{e:yc}{l:yL T.aT}(H:yL ai)(h:id < H.length):Yc (lk (H.set id (.log T e l))) id T ad=l:=by
 unfold Yc lk;dsimp only;rw[List.getElem?_set_self h];show(Ty.bv T T l).getD []=l;unfold Ty.bv;split
 all_goals grind
theorem pI{L:Lk}{n:Nat}:∀(l:yL TD),(TD.cA L n l).length=l.length
 |[]=>rfl
 |_::r=>by rw[TD.cA,yah,yah,pI r]
def FZ(H:yL ai):TD->TD
 |.own id f T (ab zs)=>match H[id]? with
  |some (.log t e l)=>match Ty.bv t T l with
   |some g=>if@decide (g=zs) (@instDecidableEqList T.aT (Ty.eK T) g zs)=ae then .own id f T ad else .own id f T (ab zs)
   |none=>.own id f T (ab zs)
  |_=>.own id f T (ab zs)
 |d=>d
theorem ZGD(d:TD):(FZ H d).er (lk H)=d.er (lk H):=by
 unfold FZ;split
 .rename_i id j T zs;split
  .rename_i t e l g;split
   .rename_i h m;split
    .rename_i f;have f:=@of_decide_eq_true _ (@instDecidableEqList T.aT (Ty.eK T) h zs) f;rw[TD.er,TD.er]
     have:Yc (lk H) id T ad=zs:=by
      unfold Yc lk;dsimp only;rw[g];show(Ty.bv t T l).getD []=zs;grind
     rw[this];rfl
    .rfl
   .rfl
  .rfl
 .rfl
theorem Zzq{own row:Bool}{t u:yc}{x y:yp}{c:Call}{xd yd:TD}(ho:o.op=.call c)(hc:c.callee=.builtin .append)(ha:c.args.toList=[x,y])(ht:c.argTypes.toList=[t,u])
 (hv:aC P (TD.aE (lk H) ts) t x=xd.er (lk H)) (hy:bo P ts u y=ab yd) (h:FY P own row t u all H K yd xd=ab out):∃a d H' hs c,K a d H' hs c=ab out/\Good P o ts all H a d H' hs c:=by
 have Q:=Zs (L:=lk H) hy;unfold FY at h;split at h
 .rename_i id nn T;split at h
  .rename_i e j;obtain⟨i,F,h⟩:=yf.1 h;obtain⟨m,X,h⟩:=yf.1 h;obtain⟨zs,A,h⟩:=yf.1 h;obtain⟨g,hs,C,B,Y,k3⟩:=FW h;obtain⟨l,k6⟩:=Zb B;obtain⟨z,kk⟩:=Zb k6;clear B k6;simp only[yi,yP]at l;obtain⟨⟨⟨G,I⟩,E⟩,M⟩:=l;simp only[cf,yi,yP]at z;have Z:=ZDI X;obtain⟨mt,me,ml⟩:=m;dsimp only at A E Z;obtain⟨eT,A⟩:=ZF A;subst eT;subst A;subst E;have hlt:id < H.length:=(yu.1 Z).1
   have ec:Yc (lk H) id mt ad=zs:=by
    unfold Yc lk;dsimp only;rw[Z];show(Ty.bv mt mt zs).getD []=zs
    all_goals grind
   refine⟨_,_,_,_,_,kk,bV (λid' t hn=>QH (lk H) id' t hn) all,pI all,dM (⟨rfl,λf=> ?_,λf=> ?_,
    C++[zs.map mt.enc=zs.map mt.enc,((zs.map mt.enc).length+(g.map mt.enc).length)*i.bytes<=Zr,(zs.map mt.enc).length+(g.map mt.enc).length<=maxLen],Zm.2 ⟨Y,rfl,by simpa using z.1,by simpa using z.2,ao⟩,λf=> ?_⟩)⟩
   .unfold bj;rw[ho];dsimp only;rw[hc];dsimp only;rw[ha,ht];split
    .rename_i e1 e2 e3;simp only[List.cons.injEq,and_true]at e1 e2;obtain⟨rfl,rfl⟩:=e1;obtain⟨rfl,rfl⟩:=e2;rw[j,hv];rfl
    .rfl
   .unfold bH;grind
   .unfold cP;rw[ho];dsimp only;rw[hc];dsimp only;rw[ha,ht];dsimp only;rw[j,hv,Q];dsimp only[TD.er];rw[ec,F,k3 f,Z6 Z];dsimp only[ai.er];rw[yW (by simp[G,I,M]),ZIz,ZIG _ (by rw[yaa];exact hlt),yat]
  .cases h
 .rename_i id v s lo n;split at h
  .rename_i e j;obtain⟨i,F,h⟩:=yf.1 h;obtain⟨T,X,h⟩:=yf.1 h;obtain⟨g,hs,C,B,Y,k3⟩:=FW h
   have nN:∀hs,bj P o (TD.aE (lk H) ts) hs=ad:=λhs=>by
    unfold bj;rw[ho];dsimp only;rw[hc];dsimp only;rw[ha,ht]
    cases hs with
    |nil=>rfl
    |cons h0 hr=>cases h0 <;> first|rfl|(dsimp only;rw[j,hv];rfl)
   have nR:∀hs,bH P o (TD.aE (lk H) ts) (aG H) hs=ad:=λhs=>by
    unfold bH;grind
   split at B
   .rename_i R;obtain⟨l,z⟩:=Zb B;simp only[yi,yP]at l;have hys:g=[]:=by simpa using R
    refine⟨_,_,_,_,_,z,rfl,rfl,dM (⟨rfl,λf=>nN _,λf=>nR _,C++[g.map T.enc=[]],Zm.2 ⟨Y,by rw[hys];rfl,ao⟩,λf=> ?_⟩)⟩;unfold cP;rw[ho];dsimp only;rw[hc];dsimp only;rw[ha,ht];dsimp only;rw[j,hv,Q];dsimp only[TD.er];grind
   .split at B
    .rename_i w s' e' d hd;obtain⟨y0,p1,q1⟩:=yf.1 B;obtain⟨r,p2,q2⟩:=yf.1 q1;obtain⟨xs,p3,q3⟩:=yf.1 q2;obtain⟨p4,q4⟩:=Zb q3;obtain⟨p5,q5⟩:=Zb q4;simp only[yi,yP,yT]at p4;obtain⟨⟨⟨⟨⟨⟨⟨G,I⟩,E⟩,M⟩,g5⟩,g6⟩,S⟩,U⟩:=p4;simp only[cf,yi,yP]at p5
     have W:d.er (lk H)=.p (.arr r.n T.size (xs.map T.enc)):=by
      rw[XC p1,TD.er,QQ p2];obtain⟨e,p3⟩:=ZF p3;grind
     refine⟨_,_,_,_,_,q5,nZ hd rfl rfl,rfl,dM (⟨rfl,λf=>nN _,λf=>nR _,C++[n<=r.n,(n+(g.map T.enc).length)*i.bytes<=Zr,n+(g.map T.enc).length<=maxLen,ae=ae\/n=r.n],
      Zm.2 ⟨Y,p5.1,by simpa using p5.2.1,by simpa using p5.2.2,.inl rfl,ao⟩,λf=> ?_⟩)⟩
     unfold cP;rw[ho];dsimp only;rw[hc];dsimp only;rw[ha,ht];dsimp only;rw[j,hv,Q];dsimp only[TD.er];rw[yaf];dsimp only;rw[F,U,k3 f,Z6 hd,ai.er,W];dsimp only;rw[yW (by simp[G,I,E,M,g5,g6,S]),Wo (gA hd rfl rfl)];simp only[ai.er,TD.er,TP.pe,CR,yaa,yat,yci]
    .cases B
  .cases h
 .rename_i T0;split at h
  .split at h
   .rename_i e j;obtain⟨i,F,h⟩:=yf.1 h;obtain⟨T,X,h⟩:=yf.1 h;obtain⟨g,A,h⟩:=yf.1 h;obtain⟨l,h⟩:=Zb h;obtain⟨z,h⟩:=Zb h;simp only[yi,yP]at l;obtain⟨⟨⟨G,I⟩,E⟩,M⟩:=l;obtain⟨S,U⟩:=mz z;refine⟨_,_,_,_,_,h,se rfl,rfl,dM (⟨rfl,λf=> ?_,λf=> ?_,[(g.map T.enc).length*i.bytes<=Zr,(g.map T.enc).length<=maxLen],⟨by rw[yaa];exact S,by rw[yaa];exact U,ao⟩,λf=> ?_⟩)⟩
    .unfold bj;grind
    .unfold bH;grind
    .unfold cP;rw[ho];dsimp only;rw[hc];dsimp only;rw[ha,ht];dsimp only;rw[j,hv,Q,show(TD.p (TP.sl (ab af) T0 [])).er (lk H)=Dv.p (.sl (ab af) T0.size []) from rfl]
     dsimp only;rw[F,M,pB A,yaf,yz];dsimp only;rw[yW (by simp only[yi];exact⟨G,I⟩),nW (lw rfl),ZV];simp only[ai.er,TD.er,TP.pe,CR,yaa,E]
   .cases h
  split at h
  .split at h
   .rename_i e j;obtain⟨i,F,h⟩:=yf.1 h;obtain⟨T,X,h⟩:=yf.1 h;obtain⟨g,A,h⟩:=yf.1 h;obtain⟨l,h⟩:=Zb h;obtain⟨z,h⟩:=Zb h;simp only[yi,yP]at l;obtain⟨⟨⟨⟨⟨G,I⟩,E⟩,M⟩,g5⟩,g6⟩:=l;obtain⟨S,U⟩:=mz z;refine⟨_,_,_,_,_,h,pF g5,rfl,dM (⟨rfl,λf=> ?_,λf=> ?_,[(g.map T.enc).length*i.bytes<=Zr,(g.map T.enc).length<=maxLen],⟨by rw[yaa];exact S,by rw[yaa];exact U,ao⟩,λf=> ?_⟩)⟩
    .unfold bj;grind
    .unfold bH;grind
    .unfold cP;rw[ho];dsimp only;rw[hc];dsimp only;rw[ha,ht];dsimp only;rw[j,hv,Q,show(TD.p (TP.sl (ab af) T0 [])).er (lk H)=Dv.p (.sl (ab af) T0.size []) from rfl]
     dsimp only;rw[F,M,pB A,yaf,yz];dsimp only;rw[yW (by simp only[yi];exact⟨G,I⟩),ZE9 g6,ZV,TD.er,pG,E]
   .cases h
  .cases h
 .cases h
def GA(P:yg)(t u:yc)(all:yL TD)(H:yL ai)(K:Kn O)(y:TD):TD->yO O
 |.view id h s lo n=>match P.underlying t,H[id]? with
  |some (.slice e),ab (.var d ae)=>eR (lk H) h d λsub hs g=>sub.inner.bind λy0=>y0.dI.bind λr=>(mD (lk H) P r.t u y).bind λf=>
   (g (.p (.v (.arr r.n r.t) (r.l.take lo++(f++r.l.drop (lo+f.length)))))).bind λj=>
     if(ag (r.t.size=s)&&ag (P.cellsOf e=s)&&(P.info? e).isSome&&ag (f.length<=n)&&ag (lo+n<=r.n))=ae then K all (.p (.v (.int .i64) (f.length:Int))) (H.set id (.var j ae)) hs 2 else ad
  |_,_=>ad
 |_=>ad
theorem ZDK{t u:yc}{x y:yp}{c:Call}{A B:TD}(ho:o.op=.call c)(hc:c.callee=.builtin .copy)(ha:c.args.toList=[x,y])(ht:c.argTypes.toList=[t,u])
 (I:bo P ts t x=ab A) (M:bo P ts u y=ab B) (h:GA P t u all H K B A=ab out):∃a d H' hs c,K a d H' hs c=ab out/\Good P o ts all H a d H' hs c:=by
 have Q:=Zs (L:=lk H) I;have R:=Zs (L:=lk H) M;unfold GA at h;split at h
 .rename_i id E s lo n;split at h
  .rename_i e d S z;obtain⟨sub,hs,T,C,f,U,W,X⟩:=XR _ _ _ _ h;obtain⟨y0,Y,f⟩:=yf.1 f;obtain⟨r,Z,f⟩:=yf.1 f;obtain⟨g,p3,f⟩:=yf.1 f;obtain⟨d',p4,f⟩:=yf.1 f;obtain⟨F,f⟩:=Zb f;simp only[yi,yP]at F;obtain⟨⟨⟨⟨G,g2⟩,g3⟩,g4⟩,g5⟩:=F;have j:sub.er (lk H)=.p (.arr r.n r.t.size (r.l.map r.t.enc)):=by rw[XC Y,TD.er,QQ Z]
   refine⟨_,_,_,_,_,f,nZ z rfl rfl,rfl,dM (⟨rfl,λm=> ?_,λm=> ?_,C++[dT E=WY E,(g.map r.t.enc).length<=n,lo+n<=r.n],Zm.2 ⟨U,(Wp _).symm,by rw[yaa];exact g4,g5,ao⟩,λm=> ?_⟩)⟩
   .unfold bj;rw[ho];dsimp only;rw[hc]
   .unfold bH;rw[ho];dsimp only;rw[hc]
   .unfold cP;rw[ho];dsimp only;rw[hc];dsimp only;rw[ha,ht];dsimp only;rw[S,Q,R];dsimp only[TD.er];rw[<-G,pB p3,Z6 z];dsimp only[ai.er];rw[W m,j];dsimp only;have:=X _ _ p4 m
    have e1:(TD.p (.v (.arr r.n r.t) (r.l.take lo++(g++r.l.drop (lo+g.length))))).er (lk H)=.p (.arr r.n r.t.size (oY (r.l.map r.t.enc) (g.map r.t.enc) lo)):=by
     show Dv.p (Pl.arr r.n r.t.size ((r.l.take lo++(g++r.l.drop (lo+g.length))).map r.t.enc))=_;unfold oY;simp_all
    rw[e1]at this;rw[this];dsimp only;rw[yW (by simp only[yi,yP];exact⟨⟨zP,by rw[G];exact g2⟩,g3⟩),Wo (gA z rfl rfl),yaa];rfl
  .cases h
 .cases h
def GB(H:yL ai)(id:Nat):Bool:=
 match H[id]? with
 |some (.var _ af)=>ae
 |_=>af
def GC(P:yg)(t:yc)(lo hi:yO Int)(all:yL TD)(H:yL ai)(K:Kn O):TD->yO O
 |.aj id f=>match P.underlying t with
  |some (.array n e)=>(nY H id).bind λd=>eR (lk H) f d λsub hs _=>sub.inner.bind λy=>y.dI.bind λr=>
   if(ag (n=r.n)&&okB P e r.t.size&&ag (n<=maxLen))=ae then if dL n lo hi=ae then(if GB H id=ae then K all (.p (.sl (ab ae) r.t (Qb r.l lo hi))) H (.dX::hs) 1 else
    K all (.p (.sl (ab ae) r.t (Qb r.l lo hi))) (H.set id (.var d af)) (.dX::hs) 2) else ad else ad
  |_=>ad
 |_=>ad
theorem ZGE{t:yc}{x:yp}{lo hi:yO yp}{l B:yO Int}{I:TD}(ho:o.op=.slice t x lo hi ad)(X:bo P ts t x=ab I)(hl:eY P ts lo=ab l)(A:eY P ts hi=ab B)
 (h:GC P t l B all H K I=ab out):∃a d H' hs c,K a d H' hs c=ab out/\Good P o ts all H a d H' hs c:=by
 have E:=Zs (L:=lk H) X;have hl:=iC (L:=lk H) hl;have A:=iC (L:=lk H) A;unfold GC at h;split at h
 .rename_i id F;split at h
  .rename_i n e G;obtain⟨d,Y,h⟩:=yf.1 h;obtain⟨st,M,Q⟩:=rZ Y;obtain⟨sub,hs,Z,C,f,R,S,_⟩:=XR _ _ _ _ h;obtain⟨y,p1,f⟩:=yf.1 f;obtain⟨r,p2,f⟩:=yf.1 f;obtain⟨T,f⟩:=Zb f;obtain⟨U,f⟩:=Zb f;have j:sub.er (lk H)=.p (.arr r.n r.t.size (r.l.map r.t.enc)):=by rw[XC p1,TD.er,QQ p2]
   have W:∀m,bj P o (TD.aE (lk H) ts) (.dX::hs++m)=ad:=λm=>by
    unfold bj;rw[ho];dsimp only;rw[G,E,hl,A];rfl
   split at f
   .rename_i z
    have g:st=af:=by
     unfold GB at z;grind
    subst g;refine⟨_,_,_,_,_,f,rfl,rfl,.inr (.inl ⟨rfl,rfl,W,C++[dT F=WY F]++Xd n l B,Zm.2 ⟨Zm.2 ⟨R,(Wp _).symm,ao⟩,my U⟩,λm=> ?_⟩)⟩;unfold bH;rw[ho];dsimp only;rw[G,E,hl,A];dsimp only[TD.er];rw[yaf];dsimp only;rw[Q];dsimp only;rw[S m,j];dsimp only;rw[yW (by simpa[okB,and_assoc] using T),TP.pe,vT]
   rename_i z
   have g:st=ae:=by
    unfold GB at z;grind
   subst g;refine⟨_,_,_,_,_,f,nZ M rfl rfl,rfl,dM (⟨rfl,W,λm=> ?_,C++[dT F=WY F]++Xd n l B,Zm.2 ⟨Zm.2 ⟨R,(Wp _).symm,ao⟩,my U⟩,λm=> ?_⟩)⟩
   .unfold bH;rw[ho];dsimp only;rw[G,E,hl,A];dsimp only[TD.er];grind
   .unfold cP;rw[ho];dsimp only;rw[G,E,hl,A];dsimp only[TD.er];rw[yaf];dsimp only;rw[Q];dsimp only;rw[S m,j];dsimp only;rw[yW (by simpa[okB,and_assoc] using T),Wo (gA M rfl rfl),TP.pe,vT];rfl
  .cases h
 .cases h
def wl(dst:Tmp)(all:yL TD)(H:yL ai)(K:Kn O):TD->yO O
 |.view id f s lo n=>(nY H id).bind λd=>eR (lk H) f d λsub hs _=>sub.inner.bind λy=>y.dI.bind λr=>
  if(ag (r.t.size=s))=ae then if(ag (lo+n<=r.n))=ae then K all (.p (.sl (ab ae) r.t ((r.l.drop lo).take n))) (H.set id (.var d af)) (.still dst::hs) 2 else ad else ad
 |.rv id v s lo n=>match H[id]? with
  |some (.row w g _ e d)=>d.inner.bind λy=>y.dI.bind λr=>
   if(ag (r.t.size=s)&&ag (g=s)&&w==v)=ae then if(ag (lo+n<=r.n))=ae then K all (.p (.sl ad r.t ((r.l.drop lo).take n))) (H.set id (.row v s af e d)) [.still dst] 2 else ad else ad
  |_=>ad
 |_=>ad
theorem ZBv{dst:Tmp}{F:TD}(h:wl dst all H K F=ab out):∃a d H' hs,K a d H' (.still dst::hs) 2=ab out/\TD.aE (lk H') a=TD.aE (lk H) all/\a.length=all.length/\
 ∃C,aZ C/\∀yK,jw (F.er (lk H)) (aG H) (hs++yK)=ab (C,d.er (lk H'),aG H',yK):=by
 unfold wl at h;split at h
 .rename_i id z s lo n;obtain⟨d,I,h⟩:=yf.1 h;obtain⟨st,G,M⟩:=rZ I;obtain⟨sub,hs,Q,C,f,R,S,_⟩:=XR _ _ _ _ h;obtain⟨y,A,f⟩:=yf.1 f;obtain⟨r,B,f⟩:=yf.1 f;obtain⟨j,f⟩:=Zb f;obtain⟨m,f⟩:=Zb f;have j:=yF j;have m:=yF m;have g:sub.er (lk H)=.p (.arr r.n r.t.size (r.l.map r.t.enc)):=by rw[XC A,TD.er,QQ B]
  refine⟨_,_,_,_,f,nZ G rfl rfl,rfl,C++[dT z=WY z,lo+n<=r.n],Zm.2 ⟨R,(Wp _).symm,m,ao⟩,λyK=> ?_⟩;unfold jw;rw[show(TD.view id z s lo n).er (lk H)=Dv.view id (WY z) (z.map cg.i) s lo n from rfl]
  try dsimp only
  rw[M]
  try dsimp only
  rw[S yK,g]
  try dsimp only
  rw[yW j,Wo (gA G rfl rfl),TD.er,TP.pe,yci,List.map_drop,j]
  try rfl
 .rename_i id v s lo n;split at h
  .rename_i w T st e d E;obtain⟨y,A,f⟩:=yf.1 h;obtain⟨r,B,f⟩:=yf.1 f;obtain⟨j,f⟩:=Zb f;obtain⟨m,f⟩:=Zb f;simp only[yi,yP]at j;have m:=yF m;have g:d.er (lk H)=.p (.arr r.n r.t.size (r.l.map r.t.enc)):=by rw[XC A,TD.er,QQ B]
   refine⟨_,_,_,[],f,nZ E rfl rfl,rfl,[lo+n<=r.n],⟨m,ao⟩,λyK=> ?_⟩;rw[yz];unfold jw;rw[show(TD.rv id v s lo n).er (lk H)=Dv.rv id v s lo n from rfl]
   dsimp only;rw[Z6 E,ai.er,g];dsimp only;rw[yW (by simp[j]),Wo (gA E rfl rfl),ai.er,g,TD.er,TP.pe,yci,List.map_drop,j.1.1]
  .cases h
 .cases h
theorem ZBw{x:yp}{dst:Tmp}{f:TD}(ho:o.op=.assign x\/o.op=.move x)(hd:o.dst=ab dst)(j:bo P ts o.type x=ab f)(h:wl dst all H K f=ab out):
 ∃a d H' hs c,K a d H' hs c=ab out/\Good P o ts all H a d H' hs c:=by
 have A:=Zs (L:=lk H) j;obtain⟨a,d,H',hs,l,m,y,C,z,B⟩:=ZBv h;refine⟨_,_,_,_,_,l,m,y,dM (⟨rfl,λg=> ?_,λg=> ?_,C,z,λg=> ?_⟩)⟩
 .rcases ho with ho|ho <;> (unfold bj;rw[ho];rfl)
 .rcases ho with ho|ho <;> (unfold bH;rw[ho])
 .rcases ho with ho|ho
  .unfold cP;grind
  .unfold cP;grind
def TD.iE:TD->Bool
 |.rw _=>ae
 |_=>af
def TD.sj:TD->Bool
 |.rp _ _=>ae
 |_=>af
theorem ZFa{id:Nat}{T:Ty}{v:yL Unit}{st f:Bool}{e h:yc}{l g:yL T.aT}(hd:H[id]? =ab (.aV T v st e l))(hl:g.length=l.length):lk (H.set id (.aV T v f h g))=lk H:=by
 funext j;unfold lk;by_cases m:id=j
 .subst m;rw[an hd,hd];show ab _=ab _;rw[hl]
 grind
def GD(P:yg)(t:yc)(i:Int)(all:yL TD)(H:yL ai)(K:Kn O):TD->yO O
 |.rw id=>match P.underlying t,H[id]? with
  |some (.slice e),ab (.aV T v st f l)=>if okB P e T.size=ae then if bi i l.length=ae then K all (.rp id [.ix i.toNat T.size]) H [] 0 else ad else ad
  |_,_=>ad
 |_=>ad
theorem Zzt{t:yc}{x ix:yp}{f:TD}{q:IntKind×Int}{g:TP}(ho:o.op=.indexAddr t x ix)(z:bo P ts t x=ab f)(hi:bo P ts 0 ix=ab (.p g))(hq:ji g=ab q)(h:GD P t q.2 all H K f=ab out):
 ∃a d H' hs c,K a d H' hs c=ab out/\Good P o ts all H a d H' hs c:=by
 have A:=Zs (L:=lk H) z;have j:=Zs (L:=lk H) hi;rw[TD.er,(py hq).1]at j;unfold GD at h;split at h
 .rename_i id;split at h
  .rename_i e T v st F l B m;obtain⟨E,h⟩:=Zb h;obtain⟨y,h⟩:=Zb h;refine⟨_,_,_,_,_,h,rfl,rfl,.inl ⟨rfl,rfl,[0<=q.2,q.2 < (l.length:Int)],⟨(QP y).1,(QP y).2,ao⟩,λG=> ?_⟩⟩;simp only[yz];unfold bj;rw[ho];dsimp only;rw[B,A,j,(gg m).1,(gg m).2];dsimp only;rw[yW (by simpa[okB] using E)];simp[WY,cg.o,cg.i]
  .cases h
 .cases h
def GF(P:yg)(t:yc)(lo hi:yO Int)(all:yL TD)(H:yL ai)(K:Kn O):TD->yO O
 |.rw id=>match P.underlying t,H[id]? with
  |some (.slice e),ab (.aV T v st f l)=>if okB P e T.size=ae then if dL l.length lo hi=ae then
    K all (.rv id v.length T.size (0+(lo.getD 0).toNat) ((hi.getD l.length).toNat - (lo.getD 0).toNat)) H [.bare] 0 else ad else ad
  |_,_=>ad
 |_=>ad
theorem ZDM{t:yc}{x:yp}{lo hi:yO yp}{l f:yO Int}{z:TD}(ho:o.op=.slice t x lo hi ad)(A:bo P ts t x=ab z)(hl:eY P ts lo=ab l)(B:eY P ts hi=ab f)(h:GF P t l f all H K z=ab out):
 ∃a d H' hs c,K a d H' hs c=ab out/\Good P o ts all H a d H' hs c:=by
 have E:=Zs (L:=lk H) A;have g:=iC (L:=lk H) hl;have j:=iC (L:=lk H) B;unfold GF at h;split at h
 .rename_i id;split at h
  .rename_i e T v st R F G I;obtain⟨M,h⟩:=Zb h;obtain⟨Q,h⟩:=Zb h;obtain⟨m,y⟩:=ZE4 M;refine⟨_,_,_,_,_,h,rfl,rfl,.inl ⟨rfl,rfl,Xd F.length l f,my Q,λS=> ?_⟩⟩;unfold bj;rw[ho];dsimp only;rw[G,E,(gg I).1,g,j];dsimp only;rw[yaf,yz];dsimp only;rw[yW (by simp[m,y])];rfl
  .cases h
 .cases h
def GG(P:yg)(t:yc)(all:yL TD)(H:yL ai)(K:Kn O):TD->yO O
 |.rw id=>match P.underlying t,H[id]? with
  |some (.slice _),ab (.aV T v st f l)=>K all (.p (.v (.int .i64) (l.length:Int))) H [] 0
  |_,_=>ad
 |_=>ad
theorem ZDN{t:yc}{x:yp}{c:Call}{f:TD}(ho:o.op=.call c)(hc:c.callee=.builtin .len)(ha:c.args.toList=[x])(ht:c.argTypes.toList=[t])(g:bo P ts t x=ab f)(h:GG P t all H K f=ab out):
 ∃a d H' hs c,K a d H' hs c=ab out/\Good P o ts all H a d H' hs c:=by
 have j:=Zs (L:=lk H) g;unfold GG at h;split at h
 .rename_i id;split at h
  .rename_i e T v st z l m y;refine⟨_,_,_,_,_,h,rfl,rfl,.inl ⟨rfl,rfl,[],zP,λA=> ?_⟩⟩;simp only[yz];unfold bj;rw[ho];dsimp only;rw[hc];dsimp only;rw[ha,ht];dsimp only;rw[m,j,(gg y).1];rfl
  .cases h
 .cases h
def GH(P:yg)(t:yc)(all:yL TD)(H:yL ai)(K:Kn O):TD->yO O
 |.rp id f=>match H[id]? with
  |some (.aV T v st e l)=>eR (lk H) f (.p (.v (.arr l.length T) l)) λsub hs _=>if fS P t (sub.er (lk H))=ae then K all sub H hs 1 else ad
  |_=>ad
 |_=>ad
theorem ZBx{t:yc}{x:yp}{j:TD}(ho:o.op=.load t x)(z:bo P ts 0 x=ab j)(h:GH P t all H K j=ab out):∃a d H' hs c,K a d H' hs c=ab out/\Good P o ts all H a d H' hs c:=by
 have m:=Zs (L:=lk H) z;unfold GH at h;split at h
 .rename_i id f;split at h
  .rename_i T v st e l y;obtain⟨sub,hs,A,C,B,E,F,_⟩:=XR _ _ _ _ h;obtain⟨I,G⟩:=Zb B;refine⟨_,_,_,_,_,G,rfl,rfl,.inr (.inl ⟨rfl,rfl,λg=> ?_,C++[dT f=WY f],Zm.2 ⟨E,(Wp _).symm,ao⟩,λg=> ?_⟩)⟩
   .unfold bj;rw[ho];dsimp only;rw[m];rfl
   .unfold bH;rw[ho];dsimp only;rw[m,(gg y).2];dsimp only;rw[Z6 y];dsimp only[ai.er];have M:Z9 (.p (.arr l.length T.size (l.map T.enc))) (f.map cg.i) (hs++g)=ab (C,dT f,sub.er (lk H),g):=F g;grind
  .cases h
 .cases h
def GI(P:yg)(t:yc)(all:yL TD)(H:yL ai)(K:Kn O)(v:TD):TD->yO O
 |.rp id (.ix i s::r)=>match H[id]? with
  |some (.aV T u ae e l)=>if s=T.size then(l[i]?).bind λy=>eR (lk H) r (.p (.v T y)) λsub hs f=>(f (v.cO (lk H))).bind λd1=>d1.inner.bind λz=>(TP.to lr z T).bind λg=>
   if mH P t ((v.cO (lk H)).er (lk H)) (sub.er (lk H))=ae then K all .ak (H.set id (.aV T u ae e (l.set i g))) (.el (T.enc y)::hs) 2 else ad else ad
  |_=>ad
 |_=>ad
theorem Zzv{t:yc}{x y:yp}{G j:TD}(ho:o.op=.store t x y)(M:bo P ts 0 x=ab G)(Q:bo P ts t y=ab j)(h:GI P t all H K j G=ab out):
 ∃a d H' hs c,K a d H' hs c=ab out/\Good P o ts all H a d H' hs c:=by
 have R:=Zs (L:=lk H) M;have S:=Zs (L:=lk H) Q;unfold GI at h;split at h
 .rename_i id i s r;split at h
  .rename_i T u e l A;split at h
   .rename_i B;obtain⟨y0,U,h⟩:=yf.1 h;obtain⟨sub,hs,W,C,g,X,Y,Z⟩:=XR r (.p (.v T y0)) _ out h;obtain⟨d1,p1,g⟩:=yf.1 g;obtain⟨z,p2,g⟩:=yf.1 g;obtain⟨E,p3,g⟩:=yf.1 g;obtain⟨h4,g⟩:=Zb g;have m:=h4;unfold mH at m;have I:lk (H.set id (.aV T u ae e (l.set i E)))=lk H:=ZFa A (by rw[List.length_set])
    have hg:∀f,Z9 (.p (.arr l.length T.size (l.map T.enc))) (i::r.map cg.i) (.el (T.enc y0)::(hs++f))=ab (((l.map T.enc)[i]? =ab (T.enc y0))::C,i*T.size+dT r,sub.er (lk H),f):=by
     intro f;unfold Z9;dsimp only;have:=Y f;rw[TD.er,TP.pe]at this;grind
    have hp:∀f,WS ((j.cO (lk H)).er (lk H)) (.p (.arr l.length T.size (l.map T.enc))) (i::r.map cg.i) (.el (T.enc y0)::(hs++f))=ab (.p (.arr l.length T.size ((l.set i E).map T.enc))):=by
     intro f;have:=Z _ d1 p1 f;rw[TD.er,TP.pe]at this;unfold WS;dsimp only;rw[this,XC p2,TD.er];dsimp only;rw[nQ z T E p3, <-ybj]
    refine⟨_,_,_,_,_,g,by rw[I],rfl,dM (⟨rfl,λf=> ?_,λf=> ?_,(((l.map T.enc)[i]? =ab (T.enc y0))::C)++[i*T.size+dT r=WY (.ix i s::r)],
     Zm.2 ⟨⟨rL U,X⟩,by rw[Wp,dT,cg.o,B],ao⟩,λf=> ?_⟩)⟩
    .unfold bj;rw[ho]
    .unfold bH;rw[ho]
    .unfold cP;rw[ho];dsimp only;rw[R,S,(gg A).2];dsimp only;rw[Z6 A];dsimp only[ai.er];rw[yag,show(cg.ix i s).i=i from rfl,yaf,hg f]
     dsimp only;have F:jc (i::r.map cg.i) (.p (.arr l.length T.size (l.map T.enc))) (j.er (lk H))=ab ((j.cO (lk H)).er (lk H)):=FT (yQ:=.ix i s::r) (d:=.p (.v (.arr l.length T) l)) (v:=j) (new:=j.cO (lk H)) (L:=lk H) rfl;rw[F];dsimp only;rw[hp f];dsimp only;rw[yW (by simp only[yi]at m ⊢;exact⟨⟨m,by simp⟩,by simp[aS]⟩),Wo I];simp only[ai.er,List.length_set];rfl
   .cases h
  .cases h
 .cases h
def GJ(dst:Tmp)(all:yL TD)(H:yL ai)(K:Kn O):TD->yO O
 |.rw id=>match H[id]? with
  |some (.aV T v st e l)=>K all (.p (.sl ad T l)) (H.set id (.aV T v af e l)) [.still dst] 2
  |_=>ad
 |_=>ad
theorem Zzx{x:yp}{dst:Tmp}{m:TD}(ho:o.op=.assign x\/o.op=.move x)(hd:o.dst=ab dst)(B:bo P ts o.type x=ab m)(h:GJ dst all H K m=ab out):
 ∃a d H' hs c,K a d H' hs c=ab out/\Good P o ts all H a d H' hs c:=by
 have y:=Zs (L:=lk H) B;unfold GJ at h;split at h
 .rename_i id;split at h
  .rename_i T v st e l j;have z:lk (H.set id (.aV T v af e l))=lk H:=ZFa j rfl
   have A:∀g,jw ((TD.rw id).er (lk H)) (aG H) g=ab ([0+l.length<=l.length],.p (.sl ad T.size (l.map T.enc)),aG (H.set id (.aV T v af e l)),g):=by
    intro g;unfold jw;rw[(gg j).1];dsimp only;rw[Z6 j,ai.er];dsimp only;rw[yW (by simp),Wo z,ai.er,List.drop_zero, <-yaa (f:=T.enc),yal]
   refine⟨_,_,_,_,_,h,by rw[z],rfl,dM (⟨rfl,λg=> ?_,λg=> ?_,[0+l.length<=l.length],⟨by omega,ao⟩,λg=> ?_⟩)⟩
   .rcases ho with ho|ho <;> (unfold bj;rw[ho];rfl)
   .rcases ho with ho|ho <;> (unfold bH;rw[ho])
   .rcases ho with ho|ho
    .unfold cP;rw[ho];dsimp only;rw[yaf];dsimp only;rw[yW hd,y];exact A g
    .unfold cP;rw[ho];dsimp only;rw[yaf];dsimp only;rw[yW hd,y];exact A g
  .cases h
 .cases h
theorem ZBy{L M:Lk}{n:Nat}(h:∀id t,id≠n->Yc L id t ad=Yc M id t ad)(x:ai)(f:x.free n=ae):x.er L=x.er M:=by
 cases x with
 |var d st=>rw[ai.er,ai.er,kA h d f]
 |row v s st e d=>rw[ai.er,ai.er,kA h d f]
 |bK t l v st e j d g=>rw[ai.er,ai.er,kA h d f]
 |_=>rfl
theorem wm{T:Ty}{v:yL Unit}{st:Bool}{e:yc}{l:yL T.aT}(h:H.all (ai.free H.length)=ae):aG (H++[.aV T v st e l])=aG H++[.row v.length T.size st e (.p (.arr l.length T.size (l.map T.enc)))]:=by
 unfold aG;rw[yat];congr 1;refine ycd λx f=> ?_;have g:=yan.1 h x f;exact(ZBy (λid t j=>lz id t j) x g).symm
theorem wn{T:Ty}{v:yL Unit}{st:Bool}{e:yc}{l:yL T.aT}:(TD.rw H.length).er (lk (H++[.aV T v st e l]))=.rv H.length v.length T.size 0 l.length:=
 (gg (H:=H++[.aV T v st e l]) (List.getElem?_concat_length ..)).1
def GK(P:yg)(row:Bool)(t u:yc)(all:yL TD)(H:yL ai)(K:Kn O)(y:TD):TD->yO O
 |.rw id=>match P.underlying t,H[id]? with
  |some (.slice e),ab (.aV T v st g l)=>(P.info? e).bind λi=>sh P T u H (λf hs=>
   if(cq i&&ag (i.size=T.size)&&ag (P.cellsOf e=T.size)&&ag (g=e)&&ag (T.size≠0))=ae then if cf l.length f.length i.bytes=ae then
    K (TD.cA (lk H) id all) (.rw id) ((H.map (ai.stale (lk H) id)).set id (.aV T (()::v) st e (l++f))) (.raw::hs) 2 else ad else ad) y
  |_,_=>ad
 |.p (.sl (ab af) _ [])=>match P.underlying t with
  |some (.slice e)=>(P.info? e).bind λi=>(gx P ia e).bind λT=>(mD (lk H) P T u y).bind λf=>
   if(cq i&&i.size !=0&&ag (i.size=T.size)&&ag (P.cellsOf e=T.size)&&TD.frees H.length all&&H.all (ai.free H.length))=ae then if nT f.length i.bytes=ae then
    K all (.rw H.length) (H++[.aV T [] ae e f]) [.arr] 2 else ad else ad
  |_=>ad
 |_=>ad
theorem ZwJ{row:Bool}{t u:yc}{x y:yp}{c:Call}{W X:TD}(ho:o.op=.call c)(hc:c.callee=.builtin .append)(ha:c.args.toList=[x,y])(ht:c.argTypes.toList=[t,u])
 (hv:aC P (TD.aE (lk H) ts) t x=W.er (lk H)) (hy:bo P ts u y=ab X) (h:GK P row t u all H K X W=ab out):∃a d H' hs c,K a d H' hs c=ab out/\Good P o ts all H a d H' hs c:=by
 have Y:=Zs (L:=lk H) hy;unfold GK at h;split at h
 .rename_i id;split at h
  .rename_i e T v st j l E F;obtain⟨i,G,h⟩:=yf.1 h;obtain⟨g,hs,C,Z,k2,k3⟩:=FW h;obtain⟨z,k6⟩:=Zb Z;obtain⟨A,kk⟩:=Zb k6;clear Z k6;simp only[yi,yP]at z;obtain⟨⟨⟨⟨I,M⟩,g3⟩,Q⟩,R⟩:=z;subst Q;simp only[cf,yi,yP]at A;have hlt:id < H.length:=(yu.1 F).1
   refine⟨_,_,_,_,_,kk,bV (λS t U=>QH (lk H) S t U) all,pI all,dM (⟨rfl,λm=> ?_,λm=> ?_,
    C++[l.length<=l.length,(l.length+(g.map T.enc).length)*i.bytes<=Zr,l.length+(g.map T.enc).length<=maxLen,st=ae\/l.length=l.length],Zm.2 ⟨k2,ym _,by simpa using A.1,by simpa using A.2,.inr rfl,ao⟩,λm=> ?_⟩)⟩
   .unfold bj;grind
   .unfold bH;grind
   .unfold cP;rw[ho];dsimp only;rw[hc];dsimp only;rw[ha,ht];dsimp only;rw[E,hv,Y,(gg F).1];rw[yaf];dsimp only;rw[G,k3 m,Z6 F];dsimp only[ai.er]
    have B:((H.map (ai.stale (lk H) id)).set id (.aV T (()::v) st j (l++g)))[id]? =ab (.aV T (()::v) st j (l++g)):=by
     grind
    have hH:aG ((H.map (ai.stale (lk H) id)).set id (.aV T (()::v) st j (l++g)))=(aG H).set id (.row (v.length+1) T.size st j (.p (.arr (l.length+g.length) T.size (l.map T.enc++g.map T.enc)))):=by
     unfold aG;rw[ybj,yaw]
     have:(ai.aV T (()::v) st j (l++g)).er (lk ((H.map (ai.stale (lk H) id)).set id (.aV T (()::v) st j (l++g))))=.row (v.length+1) T.size st j (.p (.arr (l.length+g.length) T.size (l.map T.enc++g.map T.enc))):=by
      simp only[ai.er,yah,yl,yat]
     rw[this];congr 1;refine ycd λx hx=> ?_;exact rW (λid t U=>QH (lk H) id t U) x
    rw[yW (by simp[I,M,R]),hH,(gg B).1];simp only[yaa,yah,yl];rw[show(l.map T.enc).take l.length=l.map T.enc by rw[<-yaa (f:=T.enc),yal]]
  .cases h
 .rename_i T0;split at h
  .rename_i e E;obtain⟨i,G,h⟩:=yf.1 h;obtain⟨T,h2,h⟩:=yf.1 h;obtain⟨g,h3,h⟩:=yf.1 h;obtain⟨z,h⟩:=Zb h;obtain⟨A,h⟩:=Zb h;simp only[yi,yP]at z;obtain⟨⟨⟨⟨⟨I,M⟩,g3⟩,Q⟩,R⟩,g6⟩:=z;obtain⟨g7,g8⟩:=mz A;refine⟨_,_,_,_,_,h,pF R,rfl,dM (⟨rfl,λm=> ?_,λm=> ?_,[(g.map T.enc).length*i.bytes<=Zr,(g.map T.enc).length<=maxLen],⟨by rw[yaa];exact g7,by rw[yaa];exact g8,ao⟩,λm=> ?_⟩)⟩
   .unfold bj;grind
   .unfold bH;grind
   .unfold cP;rw[ho];dsimp only;rw[hc];dsimp only;rw[ha,ht];dsimp only;rw[E,hv,Y,show(TD.p (TP.sl (ab af) T0 [])).er (lk H)=Dv.p (.sl (ab af) T0.size []) from rfl]
    dsimp only;rw[G,Q,pB h3,yaf,yz];dsimp only;rw[yW (by simp only[yi];exact⟨I,M⟩),wm g6,ZV,wn,g3];grind
  .cases h
 .cases h
def GL(P:yg)(ts:yL TD)(t:yc)(len:Nat)(parts:yL (Nat×yp))(all:yL TD)(H:yL ai)(K:Kn O):yO O:=
 pA (lk H) P ts t len parts λT l e=>if(ag (l.length=len)&&TD.frees H.length all&&H.all (ai.free H.length))=ae then K all (.rw H.length) (H++[.aV T [] ae e l]) [.arr] 2 else ad
theorem ZDP{t:yc}{len:Nat}{parts:Array (Nat×yp)}(ho:o.op=.buildSlice t len parts)(h:GL P ts t len parts.toList all H K=ab out):
 ∃a d H' hs c,K a d H' hs c=ab out/\Good P o ts all H a d H' hs c:=by
 unfold GL at h;obtain⟨e,T,l,i,G,g,m,y,z,A,hs,B⟩:=we h;obtain⟨f,g⟩:=Zb g;simp only[yi,yP]at f;obtain⟨⟨f,E⟩,F⟩:=f;refine⟨_,_,_,_,_,g,pF E,rfl,dM (⟨rfl,λj=> ?_,λj=> ?_,[],zP,λj=> ?_⟩)⟩
 .unfold bj;rw[ho];rfl
 .unfold bH;rw[ho]
 .unfold cP;rw[ho];dsimp only;rw[yaf,yz];dsimp only;rw[m];dsimp only;rw[y,z];dsimp only;rw[yW (by simpa using A),B,wm F,wn,ZV,hs,f];rfl
def GM(P:yg)(ts:yL TD)(t:yc)(len:Nat)(parts:yL (Nat×yp))(id:Nat)(all:yL TD)(H:yL ai)(K:Kn O):yO O:=
 pA (lk H) P ts t len parts λT l e=>match H[id]? with
  |some (.aV T' v _ f _)=>if(ag (l.length=len)&&ag (f=e)&&ag (T'.size=T.size))=ae then K (TD.cA (lk H) id all) (.rw id) ((H.map (ai.stale (lk H) id)).set id (.aV T (()::v) ae e l)) [.fresh id] 2 else ad
  |_=>ad
theorem ZBz{t:yc}{len id:Nat}{parts:Array (Nat×yp)}(ho:o.op=.buildSlice t len parts)(h:GM P ts t len parts.toList id all H K=ab out):
 ∃a d H' hs c,K a d H' hs c=ab out/\Good P o ts all H a d H' hs c:=by
 unfold GM at h;obtain⟨e,T,l,i,U,g,F,G,I,M,hs,A⟩:=we h;split at g
 case h_2=>cases g
 rename_i T0 v st f W B;obtain⟨m,g⟩:=Zb g;simp only[yi,yP]at m;obtain⟨⟨m,rfl⟩,Q⟩:=m;have R:id < H.length:=(yu.1 B).1
 have j:((H.map (ai.stale (lk H) id)).set id (.aV T (()::v) ae f l))[id]? =ab (.aV T (()::v) ae f l):=by
  grind
 have S:aG ((H.map (ai.stale (lk H) id)).set id (.aV T (()::v) ae f l))=(aG H).set id (.row (v.length+1) T.size ae f (.p (.arr l.length T.size (l.map T.enc)))):=by
  unfold aG;rw[ybj,yaw]
  have:(ai.aV T (()::v) ae f l).er (lk ((H.map (ai.stale (lk H) id)).set id (.aV T (()::v) ae f l)))=.row (v.length+1) T.size ae f (.p (.arr l.length T.size (l.map T.enc))):=by
   simp only[ai.er,yah]
  rw[this];congr 1;refine ycd λx A=> ?_;exact rW (λid t y=>QH (lk H) id t y) x
 refine⟨_,_,_,_,_,g,bV (λz t y=>QH (lk H) z t y) all,pI all,dM (⟨rfl,λE=> ?_,λE=> ?_,[],zP,λE=> ?_⟩)⟩
 .unfold bj;rw[ho];rfl
 .unfold bH;rw[ho]
 .unfold cP;rw[ho];dsimp only;rw[yaf,yz];dsimp only;rw[F,Z6 B];dsimp only[ai.er];rw[G,I];dsimp only;rw[yW (by rw[yi,yi,yT,yT];exact⟨⟨M,rfl⟩,Q.trans hs.symm⟩),A,S,(gg j).1,hs, <-m];grind
def GN(P:yg)(t:yc)(n f:Int)(all:yL TD)(H:yL ai)(K:Kn O):yO O:=
 match P.underlying t with
 |some (.slice e)=>(P.info? e).bind λi=>(gx P ia e).bind λT=>
  if(cq i&&i.size !=0&&ag (i.size=T.size)&&TD.frees H.length all&&H.all (ai.free H.length))=ae then if(ag (n=0)&&mF f i.bytes)=ae then K all (.rw H.length) (H++[.aV T [] ae e []]) [.arr] 2 else ad else ad
 |_=>ad
theorem ZBA{t:yc}{l c:yp}{n f:Num}(ho:o.op=.makeSlice t l c)(hl:(bo P ts 0 l).bind TD.num=ab n)(hc:(bo P ts 0 c).bind TD.num=ab f)(B:n.k=.i64)(m:f.k=.i64)
 (h:GN P t n.n f.n all H K=ab out):∃a d H' hs c,K a d H' hs c=ab out/\Good P o ts all H a d H' hs c:=by
 obtain⟨ld,E,F⟩:=yf.1 hl;obtain⟨cd,G,I⟩:=yf.1 hc;have y:=Zs (L:=lk H) E;have z:=Zs (L:=lk H) G;rw[iD F,B]at y;rw[iD I,m]at z;unfold GN at h;have M:∀hs,bj P o (TD.aE (lk H) ts) hs=ad:=λhs=>by unfold bj;rw[ho]
 have Q:∀hs,bH P o (TD.aE (lk H) ts) (aG H) hs=ad:=λhs=>by unfold bH;rw[ho]
 split at h
 .rename_i e R;obtain⟨i,S,h⟩:=yf.1 h;obtain⟨T,h2,h⟩:=yf.1 h;obtain⟨g,h⟩:=Zb h;obtain⟨j,h⟩:=Zb h;simp only[yi,yP]at g;obtain⟨⟨⟨U,g⟩,W⟩,X⟩:=g;simp only[mF,yi,yP]at j;obtain⟨Y,Z⟩:=mz j.2.2;refine⟨_,_,_,_,_,h,pF W,rfl,dM (⟨rfl,λA=>M _,λA=>Q _,[n.n=0,0<=f.n,f.n.toNat*i.bytes<=Zr,f.n.toNat<=maxLen],⟨j.1,j.2.1,Y,Z,ao⟩,λA=> ?_⟩)⟩;unfold cP;rw[ho];dsimp only;rw[R,y,z];dsimp only;rw[S,yaf,yz];dsimp only;rw[yW (by simpa using U),wm X,wn,ZV,g];rfl
 .cases h
def GO(P:yg)(t:yc)(dst:Tmp)(all:yL TD)(H:yL ai)(K:Kn O):TD->yO O
 |.p (.sl (ab af) T [])=>match P.underlying t with
  |some (.slice e)=>(P.info? e).bind λi=>if(cq i&&i.size !=0&&ag (i.size=T.size)&&TD.frees H.length all&&H.all (ai.free H.length))=ae then K all (.rw H.length) (H++[.aV T [] ae e []]) [.jt dst] 2 else ad
  |_=>ad
 |_=>ad
theorem Zzz{x:yp}{dst:Tmp}{f:TD}(ho:o.op=.assign x)(hd:o.dst=ab dst)(l:bo P ts o.type x=ab f)(h:GO P o.type dst all H K f=ab out):
 ∃a d H' hs c,K a d H' hs c=ab out/\Good P o ts all H a d H' hs c:=by
 have m:=Zs (L:=lk H) l;unfold GO at h;split at h
 .rename_i T;split at h
  .rename_i e y;obtain⟨i,z,h⟩:=yf.1 h;obtain⟨g,h⟩:=Zb h;simp only[yi,yP]at g;obtain⟨⟨⟨A,B⟩,E⟩,F⟩:=g;refine⟨_,_,_,_,_,h,pF E,rfl,dM (⟨rfl,λj=> ?_,λj=> ?_,[],zP,λj=> ?_⟩)⟩
   .unfold bj;rw[ho];rfl
   .unfold bH;rw[ho]
   .unfold cP;rw[ho];dsimp only;rw[yaf,yz];dsimp only;rw[yW hd,y,m,show(TD.p (TP.sl (ab af) T [])).er (lk H)=Dv.p (.sl (ab af) T.size []) from rfl]
    dsimp only;rw[z];dsimp only;rw[yW (by simpa using A),wm F,wn,ZV,B];rfl
  .cases h
 .cases h
def GP(P:yg)(t:yc)(lo hi:yO Int)(all:yL TD)(H:yL ai)(K:Kn O):TD->yO O
 |.rw id=>match P.underlying t,H[id]?,lo,hi with
  |some (.slice e),ab (.aV T v ae f l),ad,ab h=>if(okB P e T.size&&ag (T.size≠0))=ae then if(ag (0<=h)&&ag (h.toNat<=l.length))=ae then
    K (TD.cA (lk H) id all) (.rw id) ((H.map (ai.stale (lk H) id)).set id (.aV T v ae f (l.take h.toNat))) [.arr] 2 else ad else ad
  |_,_,_,_=>ad
 |_=>ad
theorem ZwK{t:yc}{x:yp}{lo hi:yO yp}{l Q:yO Int}{R:TD}(ho:o.op=.slice t x lo hi ad)(S:bo P ts t x=ab R)(hl:eY P ts lo=ab l)(Z:eY P ts hi=ab Q)(h:GP P t l Q all H K R=ab out):
 ∃a d H' hs c,K a d H' hs c=ab out/\Good P o ts all H a d H' hs c:=by
 have U:=Zs (L:=lk H) S;have m:=iC (L:=lk H) hl;have y:=iC (L:=lk H) Z;unfold GP at h;split at h
 .rename_i id;split at h
  .rename_i e T v j g f W A;obtain⟨B,h⟩:=Zb h;obtain⟨E,h⟩:=Zb h;simp only[yi,yP]at B E;obtain⟨F,G⟩:=ZE4 B.1;have hlt:id < H.length:=(yu.1 A).1
   have z:((H.map (ai.stale (lk H) id)).set id (.aV T v ae j (g.take f.toNat)))[id]? =ab (.aV T v ae j (g.take f.toNat)):=by
    grind
   have X:(g.take f.toNat).length=f.toNat:=by rw[List.length_take];omega
   have hH:aG ((H.map (ai.stale (lk H) id)).set id (.aV T v ae j (g.take f.toNat)))=(aG H).set id (.row v.length T.size ae j (.p (.arr f.toNat T.size ((g.map T.enc).take f.toNat)))):=by
    unfold aG;rw[ybj,yaw]
    have:(ai.aV T v ae j (g.take f.toNat)).er (lk ((H.map (ai.stale (lk H) id)).set id (.aV T v ae j (g.take f.toNat))))=.row v.length T.size ae j (.p (.arr f.toNat T.size ((g.map T.enc).take f.toNat))):=by
     simp only[ai.er,X,yci]
    rw[this];congr 1;refine ycd λx S=> ?_;exact rW (λid t I=>QH (lk H) id t I) x
   refine⟨_,_,_,_,_,h,bV (λM t I=>QH (lk H) M t I) all,pI all,dM (⟨rfl,λY=> ?_,λY=> ?_,[0<=f,f.toNat<=g.length],⟨E.1,E.2,ao⟩,λY=> ?_⟩)⟩
   .unfold bj;rw[ho];dsimp only;rw[W,U,(gg A).1,m,y];rfl
   .unfold bH;grind
   .unfold cP;rw[ho];dsimp only;rw[W,U,(gg A).1,m,y];dsimp only;rw[yaf,yz];dsimp only;rw[Z6 A,ai.er];dsimp only;rw[yW (by simp[F,G,B.2]),hH,(gg z).1,X]
  .cases h
 .cases h
def ai.jG:ai->yO (Nat×Nat×Nat)
 |.aS t _ v _ _ g f=>ab (v.length,t.size,g.length+f.length)
 |.bK t _ v _ _ g _ f=>ab (v.length,t.size,g.length+(f.length+1))
 |_=>ad
theorem pJ{L:Lk}{id:Nat}{v:yL Unit}{s N:Nat}(h:Yc L id aQf ad=([v,yx s (),yx N ()]:yL aQh)):
 (TD.rw id).er L=.rv id v.length s 0 N/\∀yQ,(TD.rp id yQ).er L=.ba id v.length (WY yQ) (yQ.map cg.i):=by
 refine⟨?_,λyQ=> ?_⟩
 .rw[TD.er];unfold ez;rw[h];show Dv.rv id v.length (yx s ()).length 0 (yx N ()).length=_;grind
 .rw[TD.er];unfold ez;rw[h];rfl
theorem lA{id:Nat}{x:ai}{q:Nat×Nat×Nat}(hd:H[id]? =ab x)(h:x.jG=ab q):(TD.rw id).er (lk H)=.rv id q.1 q.2.1 0 q.2.2/\∀yQ,(TD.rp id yQ).er (lk H)=.ba id q.1 (WY yQ) (yQ.map cg.i):=by
 cases x <;> first|cases h|skip
 all_goals
  refine pJ ?_;unfold Yc lk;dsimp only;rw[hd];rfl
def GQ(P:yg)(t:yc)(i:Int)(all:yL TD)(H:yL ai)(K:Kn O):TD->yO O
 |.rw id=>match P.underlying t,(H[id]?).bind ai.jG with
  |some (.slice e),ab q=>if okB P e q.2.1=ae then if bi i q.2.2=ae then K all (.rp id [.ix i.toNat q.2.1]) H [] 0 else ad else ad
  |_,_=>ad
 |_=>ad
theorem ZzB{t:yc}{x ix:yp}{j:TD}{q:IntKind×Int}{l:TP}(ho:o.op=.indexAddr t x ix)(z:bo P ts t x=ab j)(hi:bo P ts 0 ix=ab (.p l))(hq:ji l=ab q)(h:GQ P t q.2 all H K j=ab out):
 ∃a d H' hs c,K a d H' hs c=ab out/\Good P o ts all H a d H' hs c:=by
 have A:=Zs (L:=lk H) z;have m:=Zs (L:=lk H) hi;rw[TD.er,(py hq).1]at m;unfold GQ at h;split at h
 .rename_i id;split at h
  .rename_i e w B g;obtain⟨F,g,f⟩:=yf.1 g;obtain⟨E,h⟩:=Zb h;obtain⟨y,h⟩:=Zb h;refine⟨_,_,_,_,_,h,rfl,rfl,.inl ⟨rfl,rfl,[0<=q.2,q.2 < (w.2.2:Int)],⟨(QP y).1,(QP y).2,ao⟩,λG=> ?_⟩⟩;simp only[yz];unfold bj;rw[ho];dsimp only;rw[B,A,m,(lA g f).1,(lA g f).2];dsimp only;rw[yW (by simpa[okB] using E)];simp[WY,cg.o,cg.i]
  .cases h
 .cases h
def GR(P:yg)(t:yc)(all:yL TD)(H:yL ai)(K:Kn O):TD->yO O
 |.rw id=>match P.underlying t,(H[id]?).bind ai.jG with
  |some (.slice _),ab q=>K all (.p (.v (.int .i64) (q.2.2:Int))) H [] 0
  |_,_=>ad
 |_=>ad
theorem ZDS{t:yc}{x:yp}{c:Call}{j:TD}(ho:o.op=.call c)(hc:c.callee=.builtin .len)(ha:c.args.toList=[x])(ht:c.argTypes.toList=[t])(l:bo P ts t x=ab j)(h:GR P t all H K j=ab out):
 ∃a d H' hs c,K a d H' hs c=ab out/\Good P o ts all H a d H' hs c:=by
 have m:=Zs (L:=lk H) l;unfold GR at h;split at h
 .rename_i id;split at h
  .rename_i e w y f;obtain⟨z,f,g⟩:=yf.1 f;refine⟨_,_,_,_,_,h,rfl,rfl,.inl ⟨rfl,rfl,[],zP,λA=> ?_⟩⟩;simp only[yz];unfold bj;rw[ho];dsimp only;rw[hc];dsimp only;rw[ha,ht];dsimp only;rw[y,m,(lA f g).1];rfl
  .cases h
 .cases h
theorem fl{xs:yL TP}{i:Nat}{z:TP}(h:i < xs.length):(xs.set i z)[i]? =ab z:=by rw[List.getElem?_set_self h]
def sk:yL Nat->TP->(T:Ty)->yO T.aT
 |[],x,T=>match T with
  |.sl u=>if x.jE u=ae then ab [] else ad
  |_=>ad
 |i::r,x,T=>match x,T with
  |.agg f,.st g=>(f[i]?).bind λz=>(g[i]?).bind λU=>(sk r z U).bind λy=>TP.jh fW (f.set i (.v U y)) g
  |_,_=>ad
theorem ZBC:∀(xs:yL TP)(f:yL Ty)(y:Ty.aK f)(i:Nat)(U:Ty)(z:U.aT),TP.jh fW xs f=ab y->xs[i]? =ab (.v U z)->(Ty.eQ f y)[i]? =ab (.v U z)
 |[],f,y,i,U,z,h,k=>by simp at k
 |x::r,f,y,i,U,z,h,k=>by
  have g:rG (TP.to fW x) r.isEmpty (TP.jh fW r) f=ab y:=h
  match f,y,g with
  |[],_,g=>cases g
  |[t],y,g=>
   have j:(if r.isEmpty then TP.to fW x t else ad)=ab y:=g
   split at j
   .rename_i l
    cases r with
    |nil=>
     cases i with
     |zero=>
      cases k;obtain⟨e,rfl⟩:=QG (show Ty.cast U t z=ab y from j)
      subst e
      rfl
     |succ i=>simp at k
    |cons _ _=>cases l
   .cases j
  |t::u::q,y,g=>
   obtain⟨m,j⟩:=mr (α:=t.aT) (β:=Ty.aK (u::q)) g
   cases i with
   |zero=>
    cases k;obtain⟨e,A⟩:=QG (show Ty.cast U t z=ab y.1 from m)
    subst e;show ab (TP.v U y.1)=_
    rw[A]
   |succ i=>
    rw[List.getElem?_cons_succ]at k;exact ZBC r (u::q) y.2 i U z j k
theorem ZBD:∀(B:yL Nat)(x:TP)(T:Ty)(y:T.aT),sk B x T=ab y->x.pe=(WX B (.v T y)).pe
 |[],x,T,y,h=>by
  cases T with
  |sl u=>
   simp only[sk]at h;split at h
   .rename_i F;cases h;exact FN F
   .cases h
  |_=>cases h
 |i::r,x,T,y,h=>by
  simp only[sk]at h;split at h
  .rename_i m f;obtain⟨z,E,h⟩:=yf.1 h;obtain⟨U,W,h⟩:=yf.1 h;obtain⟨w,G,h⟩:=yf.1 h;have g:i < m.length:=(yu.1 E).1;have I:=ZBD r z U w G;have X:=ZBC _ f y i U w h (fl g);have M:=dF _ _ _ h;have e5:(TP.v (.st f) y).parts=ab (Ty.eQ f y):=rfl
   have A:WX (i::r) (.v (.st f) y)=.agg ((Ty.eQ f y).set i (WX r (.v U w))):=by
    rw[WX,e5];grind
   have e6:∀(l:yL TP)(q:TP),TP.cj (l.set i q)=(TP.cj l).set i q.pe:=λl q=>by rw[VL,ybj, <-VL]
   have Q:TP.cj (Ty.eQ f y)=(TP.cj m).set i (TP.v U w).pe:=((vH f y).trans M.symm).trans (e6 _ _)
   have R:TP.cj ((Ty.eQ f y).set i (WX r (.v U w)))=TP.cj m:=by
    rw[e6,Q,List.set_set, <-I];refine List.ext_getElem? λj=> ?_;rw[List.getElem?_set];split
    .rename_i S;subst S;rw[yW (by rw[VL,yaa];exact g),VL,yak,E];rfl
    .rfl
   rw[A];exact congrArg Pl.agg R.symm
  .cases h
def wo(f:yL Nat)(T:Ty):yL TP->yO (yL T.aT)
 |[]=>ab []
 |x::r=>match sk f x T,wo f T r with
  |some y,ab g=>ab (y::g)
  |_,_=>ad
theorem ZxM{f:yL Nat}{T:Ty}:∀{xs:yL TP}{ys:yL T.aT},wo f T xs=ab ys->TP.cj xs=ys.map λy=>(WX f (.v T y)).pe
 |[],ys,h=>by cases h;rfl
 |x::r,ys,h=>by
  simp only[wo]at h;split at h
  .rename_i y g j l;cases h;rw[TP.cj,yag,ZBD f x T y j,ZxM l]
  .cases h
def wq(L:Lk)(P:yg)(ts:yL TD)(e:yc):yL (Nat×yp)->yO (yL TP)
 |[]=>ab []
 |q::r=>match (bo P ts e q.2).bind (TD.flat L),wq L P ts e r with
  |some x,ab l=>if x.pe.size=P.cellsOf e then ab (x::l) else ad
  |_,_=>ad
theorem ZBE{L:Lk}{e:yc}:∀{parts:yL (Nat×yp)}{l:yL TP},wq L P ts e parts=ab l->
 Dv.aW (parts.map λq=>aC P (TD.aE L ts) e q.2)=ab (TP.cj l)/\(TP.cj l).all (λx=>x.size==P.cellsOf e)=ae
 |[],l,h=>by cases h;exact⟨rfl,rfl⟩
 |q::r,l,h=>by
  simp only[wq]at h;split at h
  .rename_i x A f g;obtain⟨d,j,m⟩:=yf.1 f;split at h
   .rename_i hs;cases h;obtain⟨y,z⟩:=ZBE g;refine⟨?_, ?_⟩
    .simp only[yag,Dv.aW];rw[Zs j,DA m,y];rfl
    .simp only[TP.cj,List.all_cons,yi,yT];exact⟨hs,z⟩
   .cases h
  .cases h
def GS(P:yg)(ts:yL TD)(t:yc)(len:Nat)(parts:yL (Nat×yp))(all:yL TD)(H:yL ai)(K:Kn O):yO O:=
 match P.underlying t with
 |some (.slice e)=>(P.info? e).bind λi=>(wq (lk H) P ts e parts).bind λl=>
  if(parts.map (·.1)==yn len)&&(cq i&&i.size !=0&&ag (len*i.size<=16777216)) then K all (.p (.lj (ab ae) i.size l)) H [.bare] 0 else ad
 |_=>ad
theorem ZGF{t:yc}{len:Nat}{parts:Array (Nat×yp)}(ho:o.op=.buildSlice t len parts)(h:GS P ts t len parts.toList all H K=ab out):
 ∃a d H' hs c,K a d H' hs c=ab out/\Good P o ts all H a d H' hs c:=by
 unfold GS at h;split at h
 .rename_i e g;obtain⟨i,j,h⟩:=yf.1 h;obtain⟨l,m,h⟩:=yf.1 h;obtain⟨f,h⟩:=Zb h;simp only[yi]at f;obtain⟨z,A⟩:=ZBE m
  have y:Wc P (TD.aE (lk H) ts) e (P.cellsOf e) len parts.toList=ab (TP.cj l):=by
   unfold Wc;grind
  refine⟨_,_,_,_,_,h,rfl,rfl,.inl ⟨rfl,rfl,[],zP,λB=> ?_⟩⟩;unfold bj;rw[ho];dsimp only;rw[yaf,yz];dsimp only;rw[g];dsimp only;rw[j,y];dsimp only;rw[yW (by simpa only[yi] using f.2)];rfl
 .cases h
theorem ZFc{id:Nat}{e f:ai}(hd:H[id]? =ab e)(h:dS (ab f)=dS (ab e)):lk (H.set id f)=lk H:=by
 funext j;unfold lk
 all_goals grind
def GU(P:yg)(t u:yc)(all:yL TD)(H:yL ai)(K:Kn O)(y:TD):TD->yO O
 |.rw id=>match P.underlying t,P.underlying u,H[id]?,y with
  |some (.slice e),ab (.slice _),ab (.aS T h v st l g f),.p (.lj _ s m)=>(P.info? e).bind λi=>(wo h T m).bind λj=>
   if(cq i&&ag (i.size=T.size)&&ag (P.cellsOf e=T.size)&&ag (l=e)&&ag (T.size≠0)&&ag (s=T.size))=ae then if cf (g.length+f.length) j.length i.bytes=ae then
    K (TD.cA (lk H) id all) (.rw id) ((H.map (ai.stale (lk H) id)).set id (.aS T h (()::v) st e g (f++j))) [.raw] 2 else ad else ad
  |_,_,_,_=>ad
 |_=>ad
theorem ZwL{t u:yc}{x y:yp}{c:Call}{S U:TD}(ho:o.op=.call c)(hc:c.callee=.builtin .append)(ha:c.args.toList=[x,y])(ht:c.argTypes.toList=[t,u])
 (hv:aC P (TD.aE (lk H) ts) t x=S.er (lk H)) (X:bo P ts u y=ab U) (h:GU P t u all H K U S=ab out):∃a d H' hs c,K a d H' hs c=ab out/\Good P o ts all H a d H' hs c:=by
 have Y:=Zs (L:=lk H) X;unfold GU at h;split at h
 .rename_i id;split at h
  .rename_i e e2 T l v st m g f nn s z Z hu2 I;obtain⟨i,h1,h⟩:=yf.1 h;obtain⟨j,h2,h⟩:=yf.1 h;obtain⟨W,k6⟩:=Zb h;obtain⟨M,kk⟩:=Zb k6;simp only[yi,yP]at W;obtain⟨⟨⟨⟨⟨g1,g2⟩,g3⟩,g4⟩,g5⟩,g6⟩:=W;subst g4;subst g6;simp only[cf,yi,yP]at M;have hlt:id < H.length:=(yu.1 I).1;have A:=ZxM h2;have B:(TP.cj z).length=j.length:=by rw[A,yaa]
   have hq:=lA (q:=(v.length,T.size,g.length+f.length)) I rfl
   refine⟨_,_,_,_,_,kk,bV (λQ t R=>QH (lk H) Q t R) all,pI all,dM (⟨rfl,λG=> ?_,λG=> ?_,
    [g.length+f.length<=g.length+f.length,(g.length+f.length+(TP.cj z).length)*i.bytes<=Zr,g.length+f.length+(TP.cj z).length<=maxLen,st=ae\/g.length+f.length=g.length+f.length],
    ⟨ym _,by rw[B];exact M.1,by rw[B];exact M.2,.inr rfl,ao⟩,λG=> ?_⟩)⟩
   .unfold bj;grind
   .unfold bH;grind
   .have E:iz P T.size u (aG H) G (aC P (TD.aE (lk H) ts) u y)=ab ([],TP.cj z,G):=by
     rw[Y,TD.er,TP.pe];unfold iz iw;grind
    unfold cP;rw[ho];dsimp only;rw[hc];dsimp only;rw[ha,ht];dsimp only;rw[Z,hv,hq.1];rw[yaf,yz];dsimp only;rw[h1,E,Z6 I];dsimp only[ai.er]
    have F:((H.map (ai.stale (lk H) id)).set id (.aS T l (()::v) st m g (f++j)))[id]? =ab (.aS T l (()::v) st m g (f++j)):=by
     grind
    have hN:g.length+(f++j).length=g.length+f.length+j.length:=by rw[yl];omega
    have hH:aG ((H.map (ai.stale (lk H) id)).set id (.aS T l (()::v) st m g (f++j)))=(aG H).set id (.row (v.length+1) T.size st m (.p (.arr (g.length+f.length+j.length) T.size ((g.map T.enc++f.map λx=>(WX l (.v T x)).pe)++TP.cj z)))):=by
     unfold aG;rw[ybj,yaw]
     have:(ai.aS T l (()::v) st m g (f++j)).er (lk ((H.map (ai.stale (lk H) id)).set id (.aS T l (()::v) st m g (f++j))))=.row (v.length+1) T.size st m (.p (.arr (g.length+f.length+j.length) T.size ((g.map T.enc++f.map λx=>(WX l (.v T x)).pe)++TP.cj z))):=by
      rw[ai.er,hN,A,yat,yab];rfl
     rw[this];congr 1;refine ycd λx hx=> ?_;exact rW (λid t R=>QH (lk H) id t R) x
    have hq2:=lA (q:=(v.length+1,T.size,g.length+(f++j).length)) F rfl;grind
  .cases h
 .cases h
theorem ZLC{α:Type}(a b:yL α)(x:α):(a++x::b)[a.length]? =ab x:=by rw[List.getElem?_append_right (ym _),Nat.sub_self];rfl
theorem ZFd{α:Type}(a b:yL α)(x y:α):(a++x::b).set a.length y=a++y::b:=by
 grind
def GV(P:yg)(t:yc)(all:yL TD)(H:yL ai)(K:Kn O):TD->yO O
 |.rp id (.ix i s::r)=>match H[id]? with
  |some (.bK T j v st e f g h)=>if ag (s=T.size)=ae then if ag (i=f.length)=ae then eR (lk H) r g λsub hs _=>if fS P t (sub.er (lk H))=ae then K all sub H hs 1 else ad else ad else ad
  |_=>ad
 |_=>ad
theorem ZBF{t:yc}{x:yp}{z:TD}(ho:o.op=.load t x)(E:bo P ts 0 x=ab z)(h:GV P t all H K z=ab out):∃a d H' hs c,K a d H' hs c=ab out/\Good P o ts all H a d H' hs c:=by
 have F:=Zs (L:=lk H) E;unfold GV at h;split at h
 .rename_i id i s r;split at h
  .rename_i T G v st e f l g A;obtain⟨m,B⟩:=Zb h;obtain⟨j,I⟩:=Zb B;clear B h;have m:=yF m;have j:=yF j;subst m;subst j;obtain⟨sub,hs,M,C,Q,R,X,_⟩:=XR _ _ _ _ I;obtain⟨Y,S⟩:=Zb Q;have U:=lA (q:=(v.length,T.size,f.length+(g.length+1))) A rfl;refine⟨_,_,_,_,_,S,rfl,rfl,.inr (.inl ⟨rfl,rfl,λy=> ?_,C++[f.length*T.size+dT r=WY (.ix f.length T.size::r)],Zm.2 ⟨R,by rw[Wp,dT,cg.o],ao⟩,λy=> ?_⟩)⟩
   .unfold bj;grind
   .unfold bH;rw[ho];dsimp only;rw[F,U.2];dsimp only;rw[Z6 A];dsimp only[ai.er]
    have W:Z9 (.arr (f.length+(g.length+1)) T.size ((f.map λx=>.p (T.enc x))++l.er (lk H)::g.map λx=>.p (WX G (.v T x)).pe)) (f.length::r.map cg.i) (hs++y)=ab (C,f.length*T.size+dT r,sub.er (lk H),y):=by
     unfold Z9;grind
    rw[yag,show(cg.ix f.length T.size).i=f.length from rfl,W]
    grind
  .cases h
 .cases h
def GW(P:yg)(t:yc)(all:yL TD)(H:yL ai)(K:Kn O)(v:TD):TD->yO O
 |.rp id (.ix i s::r)=>match H[id]? with
  |some (.bK T l u ae e f h g)=>if ag (s=T.size)=ae then if ag (i=f.length)=ae then eR (lk H) r h λsub hs j=>(j v).bind λd1=>
   if mH P t (v.er (lk H)) (sub.er (lk H))=ae then K all .ak (H.set id (.bK T l u ae e f d1 g)) hs 2 else ad else ad else ad
  |_=>ad
 |_=>ad
theorem ZzE{t:yc}{x y:yp}{M B:TD}(ho:o.op=.store t x y)(S:bo P ts 0 x=ab M)(U:bo P ts t y=ab B)(h:GW P t all H K B M=ab out):
 ∃a d H' hs c,K a d H' hs c=ab out/\Good P o ts all H a d H' hs c:=by
 have W:=Zs (L:=lk H) S;have X:=Zs (L:=lk H) U;unfold GW at h;split at h
 .rename_i id i s r;split at h
  .rename_i T m u e f j g F;obtain⟨G,Q⟩:=Zb h;obtain⟨z,Y⟩:=Zb Q;clear Q h;have G:=yF G;have z:=yF z;subst G;subst z;obtain⟨sub,hs,Z,C,E,k2,k3,k4⟩:=XR r j _ out Y;obtain⟨d1,p1,E⟩:=yf.1 E;obtain⟨h4,E⟩:=Zb E;have A:=h4;unfold mH at A;have hq:=lA (q:=(u.length,T.size,f.length+(g.length+1))) F rfl;have R:lk (H.set id (.bK T m u ae e f d1 g))=lk H:=ZFc F rfl;have hm:=ZLC (f.map λx=>Dv.p (T.enc x)) (g.map λx=>.p (WX m (.v T x)).pe) (j.er (lk H));have I:=ZFd (f.map λx=>Dv.p (T.enc x)) (g.map λx=>.p (WX m (.v T x)).pe) (j.er (lk H)) (d1.er (lk H));rw[yaa]at hm I
   have hg:∀l,Z9 (.arr (f.length+(g.length+1)) T.size ((f.map λx=>.p (T.enc x))++j.er (lk H)::g.map λx=>.p (WX m (.v T x)).pe)) (f.length::r.map cg.i) (hs++l)=ab (C,f.length*T.size+dT r,sub.er (lk H),l):=by
    intro l;unfold Z9;grind
   have hp:∀l,WS (B.er (lk H)) (.arr (f.length+(g.length+1)) T.size ((f.map λx=>.p (T.enc x))++j.er (lk H)::g.map λx=>.p (WX m (.v T x)).pe)) (f.length::r.map cg.i) (hs++l)=ab (.arr (f.length+(g.length+1)) T.size ((f.map λx=>.p (T.enc x))++d1.er (lk H)::g.map λx=>.p (WX m (.v T x)).pe)):=by
    intro l;have:=k4 _ d1 p1 l;unfold WS;grind
   refine⟨_,_,_,_,_,E,by rw[R],rfl,dM (⟨rfl,λl=> ?_,λl=> ?_,C++[f.length*T.size+dT r=WY (.ix f.length T.size::r)],
    Zm.2 ⟨k2,by rw[Wp,dT,cg.o],ao⟩,λl=> ?_⟩)⟩
   .unfold bj;rw[ho]
   .unfold bH;rw[ho]
   .unfold cP;rw[ho];dsimp only;rw[W,X,hq.2];dsimp only;rw[Z6 F];dsimp only[ai.er];rw[yag,show(cg.ix f.length T.size).i=f.length from rfl,hg l]
    dsimp only;rw[show jc (f.length::r.map cg.i) (.arr (f.length+(g.length+1)) T.size ((f.map λx=>.p (T.enc x))++j.er (lk H)::g.map λx=>.p (WX m (.v T x)).pe)) (B.er (lk H))=ab (B.er (lk H)) from rfl]
    dsimp only;rw[hp l];dsimp only;rw[yW (by simp only[yi]at A ⊢;exact⟨⟨A,by simp⟩,by simp[aS]⟩),Wo R];rfl
  .cases h
 .cases h
def sn(H:yL ai):TD->Bool
 |.rw id=>((H[id]?).bind ai.jG).isSome
 |.rp id _=>((H[id]?).bind ai.jG).isSome
 |_=>af
def rnT(P:yg)(hi:HI)(o:yj)(ts:yL TD)(H:yL ai):Bool:=
 match o.op with
 |.load t x=>match bo P ts 0 x with
  |some d=>sn H d
  |none=>af
 |.store t x y=>match bo P ts 0 x with
  |some d=>sn H d
  |none=>af
 |.indexAddr t x ix=>match bo P ts t x with
  |some d=>sn H d
  |none=>af
 |.buildSlice t len parts=>match o.dst with
  |some d=>hi.lits.contains d
  |none=>af
 |.call c=>match c.callee with
  |.builtin .len=>match c.args.toList,c.argTypes.toList with
   |[x],[t]=>match bo P ts t x with
    |some d=>sn H d
    |none=>af
   |_,_=>af
  |.builtin .append=>match c.args.toList,c.argTypes.toList with
   |[x,y],[t,u]=>match bo P ts t x with
    |some d=>sn H d
    |none=>af
   |_,_=>af
  |_=>af
 |_=>af
def GX(P:yg)(hi:HI)(o:yj)(ts all:yL TD)(H:yL ai)(K:Kn O):yO O:=
 match o.op with
 |.load t x=>(bo P ts 0 x).bind λd=>GV P t all H K d
 |.store t x y=>(bo P ts 0 x).bind λa=>(bo P ts t y).bind λv=>GW P t all H K v a
 |.indexAddr t x ix=>(bo P ts t x).bind λa=>(bo P ts 0 ix).bind λb=>b.inner.bind λf=>(ji f).bind λq=>GQ P t q.2 all H K a
 |.buildSlice t len parts=>GS P ts t len parts.toList all H K
 |.call c=>match c.callee with
  |.builtin .len=>match c.args.toList,c.argTypes.toList with
   |[x],[t]=>(bo P ts t x).bind λd=>GR P t all H K d
   |_,_=>ad
  |.builtin .append=>match c.args.toList,c.argTypes.toList with
   |[x,y],[t,u]=>(bo P ts t x).bind λa=>(bo P ts u y).bind λb=>GU P t u all H K b a
   |_,_=>ad
  |_=>ad
 |_=>ad
theorem ZGG{hi:HI}(h:GX P hi o ts all H K=ab out):∃a d H' hs c,K a d H' hs c=ab out/\Good P o ts all H a d H' hs c:=by
 unfold GX at h;split at h
 .rename_i t x f;obtain⟨d,g,h⟩:=yf.1 h;exact ZBF f g h
 .rename_i t x y f;obtain⟨a,g,h⟩:=yf.1 h;obtain⟨v,j,h⟩:=yf.1 h;exact ZzE f g j h
 .rename_i t x ix f;obtain⟨a,g,h⟩:=yf.1 h;obtain⟨b,j,h⟩:=yf.1 h;obtain⟨E,A,h⟩:=yf.1 h;obtain⟨q,B,h⟩:=yf.1 h;rw[XC A]at j;exact ZzB f g j B h
 .rename_i t len parts f;exact ZGF f h
 .rename_i c f;split at h
  .rename_i l;split at h
   .rename_i x t m z;obtain⟨d,g,h⟩:=yf.1 h;exact ZDS f l m z g h
   .cases h
  .rename_i l;split at h
   .rename_i x y t u m z;obtain⟨a,g,h⟩:=yf.1 h;obtain⟨b,j,h⟩:=yf.1 h;exact ZwL f l m z (Zs g) j h
   .cases h
  .cases h
 .cases h
end
end Go.Ev
end
section
namespace Go.Ev
abbrev TV:=Σ t:Ty,t.aT
inductive Sh where
 |v (t:Ty)
 |elem (t:Ty)
 |nil (t:Ty)
 |sl (nn:Bool) (t:Ty)
 |own (j:Nat) (t:Ty)
 |aj (j:Nat) (yQ:List cg)
 |mp (j:Nat)
 |rw(j:Nat)
 |rp (j s:Nat) (yQ:List cg)
 |view (j:Nat) (yQ:List cg) (s lo n:Nat)
 |rv (j ver s lo n:Nat)
 |fn (g:yr) (l:List Sh)
 |agg (l:List Sh)
 |arr (n s:Nat) (l:List Sh)
 |bm (l:List Sh)
 |iface (t:yc) (x:Sh)
 |so (t u:yc) (x:Sh)
 |cb|fn0|ew|cD
 |ak
instance:Inhabited Sh:=⟨.ak⟩
def cg.beq:cg->cg->Bool
 |.fV i o,.fV j p=>ag (i=j)&&ag (o=p)
 |.ix i o,.ix j p=>ag (i=j)&&ag (o=p)
 |_,_=>af
def pK:yL cg->yL cg->Bool
 |[],[]=>ae
 |q::r,p::s=>q.beq p&&pK r s
 |_,_=>af
theorem wr:∀{l m:yL cg},pK l m=ae->l=m
 |[],[],_=>rfl
 |[],_::_,h=>by cases h
 |_::_,[],h=>by cases h
 |q::r,p::s,h=>by
  simp only[pK,yi]at h;rw[wr h.2];congr 1;cases q <;> cases p <;> simp[cg.beq]at h <;> simp[h.1]
def TD.toT(L:Lk)(t:Ty):TD->yO t.aT
 |.p x=>TP.to lr x t
 |.own id _ u c=>match t with
  |.sl w=>Ty.bv u w (Yc L id u c)
  |_=>ad
 |_=>ad
theorem ZNX{L:Lk}{t:Ty}{d:TD}{y:t.aT}(h:d.toT L t=ab y):Wk (d.er L) (.p (t.enc y)):=by
 cases d with
 |p x=>exact Wk.p (vL (show TP.to lr x t=ab y from h))
 |own id g u c=>
  cases t with
  |sl w=>
   obtain⟨e,f⟩:=ZF (show Ty.bv u w (Yc L id u c)=ab y from h)
   subst e;subst f
   exact Wk.nD (aY.refl _)
  |_=>cases h
 |_=>cases h
def ZPk(t:Ty):TD->yO t.aT
 |.elem x=>TP.to lr x t
 |_=>ad
theorem Wk.elem{x y:Pl}(h:bF x y):Wk (.elem x) (.elem y):=⟨rfl,rfl,λJ vs r=>by
 simp only[yH]at r ⊢;obtain⟨b,o,f,e,g,j⟩:=r;exact⟨b,o,f,e,h.df _ _ _ g,j⟩⟩
theorem cQ.fn{f:yr}{g es:yL Dv}(h:cQ g es):Wk (.fn f g) (.fn f es):=⟨rfl,rfl,λJ vs r=>by
 simp only[yH]at r ⊢;obtain⟨j,l,e,m,r⟩:=r;exact⟨j,l,e,m,h.vs r⟩⟩
theorem cQ.sizes{f es:yL Dv}(h:cQ f es)(s:Nat):(∀x,x∈f->x.size=s)->∀x,x∈es->x.size=s:=by
 induction h with
 |nil=>intro _ x hx;cases hx
 |cons h k j=>
  intro g x hx;rcases List.mem_cons.1 hx with rfl|hx
  .rw[<-h.size];exact g _ (List.mem_cons_self ..)
  .exact j (λy l=>g y (List.mem_cons_of_mem _ l)) x hx
theorem cQ.arr{n s:Nat}{f es:yL Dv}(h:cQ f es):Wk (.arr n s f) (.arr n s es):=⟨rfl,rfl,λJ vs r=>by
 simp only[yH]at r ⊢;obtain⟨g,j,l⟩:=r;have:=(cQ.agg h).df J vs (by simp only[yH];exact l);simp only[yH]at this;exact⟨by rw[<-h.len];exact g,h.sizes s j,this⟩⟩
theorem Wk.iface{t:yc}{x y:Dv}(h:Wk x y):Wk (.iface t x) (.iface t y):=⟨rfl,rfl,λJ vs r=>by
 simp only[yH]at r ⊢;obtain⟨v,e,g,j⟩:=r;refine⟨v,e,λf=> ?_,λf=>h.df _ _ (j (by rw[h.agg];exact f))⟩;obtain⟨l,m,z⟩:=g (by rw[h.agg];exact f);exact⟨l,m,h.df _ _ z⟩⟩
mutual
def Sh.mt(L:Lk):Sh->TD->yO (TD×yL TV)
 |.v t,d=>(d.toT L t).map λy=>(.p (.v t y),[⟨t,y⟩])
 |.elem t,d=>(ZPk t d).map λy=>(.elem (.v t y),[⟨t,y⟩])
 |.nil t,d=>match d with
  |.p x=>if x.jE t=ae then ab (.p (.sl (ab af) t []),[]) else ad
  |_=>ad
 |.sl G t,d=>match d with
  |.p (.sl (ab b) u B)=>if b=G then(Ty.bv u t B).map λy=>(.p (.sl (ab G) t y),[⟨.sl t,y⟩]) else ad
  |_=>ad
 |.own j t,d=>match d with
  |.own id _ u ad=>if id=j/\u=t then ab (.own j ad t ad,[]) else ad
  |_=>ad
 |.aj j p,d=>match d with
  |.aj id q=>if id=j/\pK p q=ae then ab (.aj j p,[]) else ad
  |_=>ad
 |.mp j,d=>match d with
  |.mp id=>if id=j then ab (.mp j,[]) else ad
  |_=>ad
 |.rw j,d=>match d with
  |.rw id=>if id=j then ab (.rw j,[]) else ad
  |_=>ad
 |.rp j s p,d=>match d with
  |.rp id (.ix i h::q)=>if id=j/\h=s/\pK p q=ae then ab (.rp j (.ix i s::p),[⟨.int .i64,(i:Int)⟩]) else ad
  |_=>ad
 |.view j p s lo n,d=>match d with
  |.view id q h z F=>if id=j/\pK p q=ae/\s=h/\lo=z/\n=F then ab (.view j p s lo n,[]) else ad
  |_=>ad
 |.rv j E s lo n,d=>match d with
  |.rv id I h z F=>if id=j/\E=I/\s=h/\lo=z/\n=F then ab (.rv j E s lo n,[]) else ad
  |_=>ad
 |.fn g l,d=>match d with
  |.fn f A=>if f=g then(Sh.eA L l A).map λq=>(.fn g q.1,q.2) else ad
  |_=>ad
 |.agg l,d=>match d with
  |.agg A=>(Sh.eA L l A).map λq=>(.agg q.1,q.2)
  |.p x=>match x.parts with
   |some B=>(Sh.eA L l (B.map TD.p)).map λq=>(.agg q.1,q.2)
   |none=>ad
  |_=>ad
 |.arr n s l,d=>match d with
  |.arr m h A=>if m=n/\h=s then(Sh.eA L l A).map λq=>(.arr n s q.1,q.2) else ad
  |.p (.arr m h B)=>if m=n/\h=s then(Sh.eA L l (B.map TD.p)).map λq=>(.arr n s q.1,q.2) else ad
  |_=>ad
 |.bm l,d=>match d with
  |.bm A=>(Sh.eA L l A).map λq=>(.bm q.1,q.2)
  |_=>ad
 |.iface t x,d=>match d with
  |.iface u y=>if u=t then(Sh.mt L x y).map λq=>(.iface t q.1,q.2) else ad
  |_=>ad
 |.so t u x,d=>match d with
  |.iface w y=>if Nat.beq w t=ae then(Sh.mt L x y).map λq=>(.iface t q.1,⟨.bool,ae⟩::q.2) else if Nat.beq w u=ae then(Sh.mt L x y).map λq=>(.iface u q.1,⟨.bool,af⟩::q.2) else ad
  |_=>ad
 |.cb,d=>match d with
  |.p .cb=>ab (.p .cb,[])
  |_=>ad
 |.fn0,d=>match d with
  |.p .fn0=>ab (.p .fn0,[])
  |_=>ad
 |.ew,d=>match d with
  |.p .ew=>ab (.p .ew,[])
  |_=>ad
 |.cD,d=>match d with
  |.p .cD=>ab (.p .cD,[])
  |_=>ad
 |.ak,d=>if(d.er L).size=1/\(d.er L).isAgg=af then ab (.ak,[]) else ad
def Sh.eA(L:Lk):yL Sh->yL TD->yO (yL TD×yL TV)
 |[],f=>match f with
  |[]=>ab ([],[])
  |_=>ad
 |s::r,f=>match f with
  |d::q=>match Sh.mt L s d,Sh.eA L r q with
   |some a,ab b=>ab (a.1::b.1,a.2++b.2)
   |_,_=>ad
  |[]=>ad
end
mutual
def Sh.fill:Sh->yL TV->yO (TD×yL TV)
 |.v t,vs=>match vs with
  |x::r=>(Ty.cast x.1 t x.2).map λy=>(.p (.v t y),r)
  |[]=>ad
 |.elem t,vs=>match vs with
  |x::r=>(Ty.cast x.1 t x.2).map λy=>(.elem (.v t y),r)
  |[]=>ad
 |.nil t,vs=>ab (.p (.sl (ab af) t []),vs)
 |.sl h t,vs=>match vs with
  |x::r=>(Ty.cast x.1 (.sl t) x.2).map λ(y:yL t.aT)=>(.p (.sl (ab h) t y),r)
  |[]=>ad
 |.own j t,vs=>ab (.own j ad t ad,vs)
 |.aj j p,vs=>ab (.aj j p,vs)
 |.mp j,vs=>ab (.mp j,vs)
 |.rw j,vs=>ab (.rw j,vs)
 |.rp j s p,vs=>match vs with
  |x::r=>(Ty.cast x.1 (.int .i64) x.2).map λ(i:Int)=>(.rp j (.ix i.toNat s::p),r)
  |[]=>ad
 |.view j p s lo n,vs=>ab (.view j p s lo n,vs)
 |.rv j f s lo n,vs=>ab (.rv j f s lo n,vs)
 |.fn g l,vs=>(Sh.fills l vs).map λq=>(.fn g q.1,q.2)
 |.agg l,vs=>(Sh.fills l vs).map λq=>(.agg q.1,q.2)
 |.arr n s l,vs=>(Sh.fills l vs).map λq=>(.arr n s q.1,q.2)
 |.bm l,vs=>(Sh.fills l vs).map λq=>(.bm q.1,q.2)
 |.iface t x,vs=>(Sh.fill x vs).map λq=>(.iface t q.1,q.2)
 |.so t u x,vs=>match vs with
  |z::r=>(Ty.cast z.1 .bool z.2).bind λ(b:Bool)=>(Sh.fill x r).map λq=>(.iface (bif b then t else u) q.1,q.2)
  |[]=>ad
 |.cb,vs=>ab (.p .cb,vs)
 |.fn0,vs=>ab (.p .fn0,vs)
 |.ew,vs=>ab (.p .ew,vs)
 |.cD,vs=>ab (.p .cD,vs)
 |.ak,vs=>ab (.ak,vs)
def Sh.fills:yL Sh->yL TV->yO (yL TD×yL TV)
 |[],vs=>ab ([],vs)
 |s::r,vs=>(Sh.fill s vs).bind λa=>(Sh.fills r a.2).map λb=>(a.1::b.1,b.2)
end
theorem Xl(t:Ty)(x:t.aT):Ty.cast t t x=ab x:=by
 unfold Ty.cast;split
 all_goals grind
mutual
theorem mI{L:Lk}:∀(s:Sh)(d:TD)(q:TD×yL TV),s.mt L d=ab q->∀yK,s.fill (q.2++yK)=ab (q.1,yK)
 |.v t,d,q,h,yK=>by
  simp only[Sh.mt]at h;obtain⟨y,_,rfl⟩:=Ze h
  simp[Sh.fill,Xl]
 |.elem t,d,q,h,yK=>by
  simp only[Sh.mt]at h;obtain⟨y,_,rfl⟩:=Ze h
  simp[Sh.fill,Xl]
 |.nil t,d,q,h,yK=>by
  simp only[Sh.mt]at h;split at h
  .split at h <;> cases h;rfl
  .cases h
 |.sl m t,d,q,h,yK=>by
  simp only[Sh.mt]at h;split at h
  .split at h
   .obtain⟨w,f,rfl⟩:=Ze h;exact congrArg (Option.map λ(y:yL t.aT)=>(TD.p (.sl (ab m) t y),yK)) (Xl (.sl t) w)
   .cases h
  .cases h
 |.own j t,d,q,h,yK=>by
  simp only[Sh.mt]at h;split at h
  .split at h <;> cases h;rfl
  .cases h
 |.aj j p,d,q,h,yK=>by
  simp only[Sh.mt]at h;split at h
  .split at h <;> cases h;rfl
  .cases h
 |.mp j,d,q,h,yK=>by
  simp only[Sh.mt]at h;split at h
  .split at h <;> cases h;rfl
  .cases h
 |.rw j,d,q,h,yK=>by
  simp only[Sh.mt]at h;split at h
  .split at h <;> cases h;rfl
  .cases h
 |.rp j s p,d,q,h,yK=>by
  simp only[Sh.mt]at h;split at h
  .rename_i id i A B;split at h
   .cases h;exact congrArg (Option.map λ(i:Int)=>(TD.rp j (.ix i.toNat s::p),yK)) (Xl (.int .i64) (i:Int))
   .cases h
  .cases h
 |.view j p s lo n,d,q,h,yK=>by
  simp only[Sh.mt]at h;split at h
  .split at h <;> cases h;rfl
  .cases h
 |.rv j z s lo n,d,q,h,yK=>by
  simp only[Sh.mt]at h;split at h
  .split at h <;> cases h;rfl
  .cases h
 |.fn g l,d,q,h,yK=>by
  simp only[Sh.mt]at h;split at h
  .split at h
   .obtain⟨w,f,rfl⟩:=Ze h;simp only[Sh.fill,bM l _ w f yK,yae]
   .cases h
  .cases h
 |.agg l,d,q,h,yK=>by
  simp only[Sh.mt]at h;split at h
  .obtain⟨w,f,rfl⟩:=Ze h;simp only[Sh.fill,bM l _ w f yK,yae]
  .split at h
   .obtain⟨w,f,rfl⟩:=Ze h;simp only[Sh.fill,bM l _ w f yK,yae]
   .cases h
  .cases h
 |.arr n s l,d,q,h,yK=>by
  simp only[Sh.mt]at h;split at h
  .split at h
   .obtain⟨w,f,rfl⟩:=Ze h;simp only[Sh.fill,bM l _ w f yK,yae]
   .cases h
  .split at h
   .obtain⟨w,f,rfl⟩:=Ze h;simp only[Sh.fill,bM l _ w f yK,yae]
   .cases h
  .cases h
 |.bm l,d,q,h,yK=>by
  simp only[Sh.mt]at h;split at h
  .obtain⟨w,f,rfl⟩:=Ze h;simp only[Sh.fill,bM l _ w f yK,yae]
  .cases h
 |.iface t x,d,q,h,yK=>by
  simp only[Sh.mt]at h;split at h
  .split at h
   .obtain⟨w,f,rfl⟩:=Ze h;simp only[Sh.fill,mI x _ w f yK,yae]
   .cases h
  .cases h
 |.so t u x,d,q,h,yK=>by
  simp only[Sh.mt]at h;split at h
  .split at h
   .obtain⟨w,f,rfl⟩:=Ze h;simp only[Sh.fill,yaf,Xl,ya,mI x _ w f yK,yae];rfl
   .split at h
    .obtain⟨w,f,rfl⟩:=Ze h;simp only[Sh.fill,yaf,Xl,ya,mI x _ w f yK,yae];rfl
    .cases h
  .cases h
 |.cb,d,q,h,yK=>by
  simp only[Sh.mt]at h
  split at h <;> cases h;rfl
 |.fn0,d,q,h,yK=>by
  simp only[Sh.mt]at h
  split at h <;> cases h;rfl
 |.ew,d,q,h,yK=>by
  simp only[Sh.mt]at h
  split at h <;> cases h;rfl
 |.cD,d,q,h,yK=>by
  simp only[Sh.mt]at h
  split at h <;> cases h;rfl
 |.ak,d,q,h,yK=>by
  simp only[Sh.mt]at h;split at h <;> cases h;rfl
theorem bM{L:Lk}:∀(l:yL Sh)(f:yL TD)(q:yL TD×yL TV),Sh.eA L l f=ab q->∀yK,Sh.fills l (q.2++yK)=ab (q.1,yK)
 |[],f,q,h,yK=>by
  simp only[Sh.eA]at h
  split at h <;> cases h;rfl
 |s::r,f,q,h,yK=>by
  simp only[Sh.eA]at h;split at h
  .split at h
   .rename_i a b g j;cases h;simp only[Sh.fills,yab,mI s _ a g,ya,bM r _ b j,yae]
   .cases h
  .cases h
end
theorem ZBG(ys:yL Pl):Wk (.p (.agg ys)) (.agg (ys.map .p)):=by
 have f:∀ys:yL Pl,Dv.sizes (ys.map .p)=Pl.sizes ys:=by
  intro ys
  induction ys with
  |nil=>rfl
  |cons y r g=>rw[yag,Dv.sizes,Pl.sizes,g];rfl
 refine⟨?_,rfl,λJ vs r=> ?_⟩
 .first|exact f ys|exact(f ys).symm
 .simp only[yH,aA]at r ⊢;exact jx.2 r
theorem ZIN{n s:Nat}(ys:yL Pl):Wk (.p (.arr n s ys)) (.arr n s (ys.map .p)):=by
 refine⟨rfl,rfl,λJ vs r=> ?_⟩;simp only[yH,aA]at r ⊢;refine⟨by rw[yaa];exact r.1,λx f=> ?_,jx.2 r.2.2⟩;obtain⟨y,g,rfl⟩:=List.mem_map.1 f;exact r.2.1 y g
mutual
theorem lB{L M:Lk}(m:∀id t,Yc L id t ad=Yc M id t ad):∀(s:Sh)(d:TD)(q:TD×yL TV),s.mt L d=ab q->Wk (d.er L) (q.1.er M)
 |.v t,d,q,h=>by
  simp only[Sh.mt]at h;obtain⟨y,f,rfl⟩:=Ze h
  exact ZNX f
 |.elem t,d,q,h=>by
  simp only[Sh.mt]at h;obtain⟨y,f,rfl⟩:=Ze h;cases d <;> first|cases f|skip
  exact Wk.elem (vL f)
 |.nil t,d,q,h=>by
  simp only[Sh.mt]at h;split at h
  .split at h
   .rename_i E;cases h;refine Wk.of_eq ?_;rw[TD.er,FN E];rfl
   .cases h
  .cases h
 |.sl Q t,d,q,h=>by
  simp only[Sh.mt]at h;split at h
  .split at h
   .rename_i e;subst e;obtain⟨w,f,rfl⟩:=Ze h;obtain⟨e,F⟩:=ZF f;subst e;subst F;exact Wk.refl _
   .cases h
  .cases h
 |.own j t,d,q,h=>by
  simp only[Sh.mt]at h;split at h
  .split at h
   .rename_i e;obtain⟨rfl,rfl⟩:=e;cases h;rw[TD.er,TD.er,m];exact Wk.own rfl
   .cases h
  .cases h
 |.aj j p,d,q,h=>by
  simp only[Sh.mt]at h;split at h
  .split at h
   .rename_i e;obtain⟨rfl,e⟩:=e;cases h;rw[wr e];exact Wk.refl _
   .cases h
  .cases h
 |.mp j,d,q,h=>by
  simp only[Sh.mt]at h;split at h
  .split at h
   .rename_i e;subst e;cases h;exact Wk.refl _
   .cases h
  .cases h
 |.rw j,d,q,h=>by
  simp only[Sh.mt]at h;split at h
  .split at h
   .rename_i e;subst e;cases h;refine Wk.of_eq ?_;rw[TD.er,TD.er];simp only[ez,m]
   .cases h
  .cases h
 |.rp j s p,d,q,h=>by
  simp only[Sh.mt]at h;split at h
  .split at h
   .rename_i e;obtain⟨rfl,rfl,e⟩:=e;cases h;rw[wr e];refine Wk.of_eq ?_;rw[TD.er,TD.er];simp only[ez,m]
   .cases h
  .cases h
 |.view j p s lo n,d,q,h=>by
  simp only[Sh.mt]at h;split at h
  .split at h
   .rename_i e;obtain⟨rfl,e,rfl,rfl,rfl⟩:=e;cases h;rw[wr e];exact Wk.refl _
   .cases h
  .cases h
 |.rv j G s lo n,d,q,h=>by
  simp only[Sh.mt]at h;split at h
  .split at h
   .rename_i e;obtain⟨rfl,rfl,rfl,rfl,rfl⟩:=e;cases h;exact Wk.refl _
   .cases h
  .cases h
 |.fn g l,d,q,h=>by
  simp only[Sh.mt]at h;split at h
  .split at h
   .rename_i e;subst e;obtain⟨w,f,rfl⟩:=Ze h;exact cQ.fn (cW m l _ w f)
   .cases h
  .cases h
 |.agg l,d,q,h=>by
  simp only[Sh.mt]at h;split at h
  .obtain⟨w,f,rfl⟩:=Ze h;exact cQ.agg (cW m l _ w f)
  .split at h
   .rename_i A I;obtain⟨w,f,rfl⟩:=Ze h;have e:=CP I;have k:=cQ.agg (cW m l _ w f);rw[rX]at k;rw[TD.er,e];have z:=ZBG (TP.cj A);exact⟨z.size.trans k.size,z.agg.trans k.agg,λJ vs r=>k.df J vs (z.df J vs r)⟩
   .cases h
  .cases h
 |.arr n s l,d,q,h=>by
  simp only[Sh.mt]at h;split at h
  .split at h
   .rename_i e;obtain⟨rfl,rfl⟩:=e;obtain⟨w,f,rfl⟩:=Ze h;exact cQ.arr (cW m l _ w f)
   .cases h
  .split at h
   .rename_i B s0 A e;obtain⟨rfl,rfl⟩:=e;obtain⟨w,f,rfl⟩:=Ze h;have k:=cQ.arr (n:=B) (s:=s0) (cW m l _ w f);rw[rX]at k;have z:=ZIN (n:=B) (s:=s0) (TP.cj A);exact⟨z.size.trans k.size,z.agg.trans k.agg,λJ vs r=>k.df J vs (z.df J vs r)⟩
   .cases h
  .cases h
 |.bm l,d,q,h=>by
  simp only[Sh.mt]at h;split at h
  .obtain⟨w,f,rfl⟩:=Ze h;exact cQ.bm (cW m l _ w f)
  .cases h
 |.iface t x,d,q,h=>by
  simp only[Sh.mt]at h;split at h
  .split at h
   .rename_i e;subst e;obtain⟨w,f,rfl⟩:=Ze h;exact Wk.iface (lB m x _ w f)
   .cases h
  .cases h
 |.so t u x,d,q,h=>by
  simp only[Sh.mt]at h;split at h
  .split at h
   .rename_i e;have e:=Nat.eq_of_beq_eq_true e;subst e;obtain⟨w,f,rfl⟩:=Ze h;exact Wk.iface (lB m x _ w f)
   .split at h
    .rename_i e;have e:=Nat.eq_of_beq_eq_true e;subst e;obtain⟨w,f,rfl⟩:=Ze h;exact Wk.iface (lB m x _ w f)
    .cases h
  .cases h
 |.cb,d,q,h=>by
  simp only[Sh.mt]at h
  split at h <;> cases h;exact Wk.refl _
 |.fn0,d,q,h=>by
  simp only[Sh.mt]at h
  split at h <;> cases h;exact Wk.refl _
 |.ew,d,q,h=>by
  simp only[Sh.mt]at h
  split at h <;> cases h;exact Wk.refl _
 |.cD,d,q,h=>by
  simp only[Sh.mt]at h
  split at h <;> cases h;exact Wk.refl _
 |.ak,d,q,h=>by
  simp only[Sh.mt]at h;split at h
  .rename_i e;cases h;exact Wk.ak e.2 e.1
  .cases h
theorem cW{L M:Lk}(g:∀id t,Yc L id t ad=Yc M id t ad):∀(l:yL Sh)(f:yL TD)(q:yL TD×yL TV),Sh.eA L l f=ab q->cQ (TD.aE L f) (TD.aE M q.1)
 |[],f,q,h=>by
  simp only[Sh.eA]at h
  split at h <;> cases h;exact .nil
 |s::r,f,q,h=>by
  simp only[Sh.eA]at h;split at h
  .split at h
   .rename_i a b j m;cases h;exact .cons (lB g s _ a j) (cW g r _ b m)
   .cases h
  .cases h
end
inductive bC where
 |var (s:Sh) (st:Bool)
 |log (t:Ty) (e:yc)
 |map (tid:yc) (k v:Ty)
 |row (t:Ty) (st:Bool) (e:yc)
 |aS (t:Ty) (np:List Nat) (st:Bool) (e:yc)
 |bK (t:Ty) (np:List Nat) (st:Bool) (e:yc) (s:Sh)
 |oc (ver s:Nat) (st:Bool) (e:yc) (n:Nat) (l:List Sh)
 |gone
def jj(k v:Ty):Ty:=.sl (.st [k,v])
def GY(L:Lk)(t:Ty)(d:TD):yO t.aT:=(d.flat L).bind λx=>TP.to lr x t
theorem ZFe{L:Lk}{t:Ty}{d:TD}{y:t.aT}(h:GY L t d=ab y):Wk (d.er L) (.p (t.enc y)):=by
 obtain⟨x,l,m⟩:=yf.1 h;have f:(d.er L).flat=ab x.pe:=by rw[rK,l];rfl
 have g:Wk (d.er L) (.p x.pe):=⟨(uW _ _ f).symm,(AX f).symm,λJ vs r=>by simp only[yH];exact qK _ _ _ f r⟩;have j:=vL m;exact⟨g.size.trans j.size,g.agg.trans j.agg,λJ vs r=>(Wk.p j).df J vs (g.df J vs r)⟩
def bC.mt(L:Lk):bC->ai->yO (ai×yL TV)
 |.var s st,.var d f=>if st=f\/st=af then(s.mt L d).map λq=>(.var q.1 st,q.2) else ad
 |.log t e,.log u j M=>if e=j then(Ty.bv u t M).map λh=>(.log t e h,[⟨.sl t,h⟩]) else ad
 |.map F k v,.map G R Q l=>if F=G then(Ty.cast (jj R Q) (jj k v) l).map λ(m:yL (k.aT×v.aT))=>(.map F k v m,[⟨jj k v,m⟩]) else ad
 |.row t st e,.aV u v f j M=>if(st=f\/st=af)/\e=j then(Ty.bv u t M).map λh=>(.aV t v st e h,[⟨.sl (.st []),v⟩,⟨.sl t,h⟩]) else ad
 |.aS t B st e,.aS u z v f j A g=>if(st=f\/st=af)/\e=j/\B=z then(Ty.bv u t A).bind λh=>(Ty.bv u t g).map λzs=>
   (.aS t B v st e h zs,[⟨.sl (.st []),v⟩,⟨.sl t,h⟩,⟨.sl t,zs⟩]) else ad
 |.aS t B st e,.bK u z v f j A E g=>if st=f/\e=j/\B=z then(Ty.bv u t A).bind λh=>(Ty.bv u t g).bind λzs=>(GY L t E).map λy=>
   (.aS t B v st e (h++[y]) zs,[⟨.sl (.st []),v⟩,⟨.sl t,h++[y]⟩,⟨.sl t,zs⟩]) else ad
 |.bK t B st e s,.bK u z v f j A E g=>if st=f/\e=j/\B=z then(Ty.bv u t A).bind λh=>(Ty.bv u t g).bind λzs=>(s.mt L E).map λq=>
   (.bK t B v st e h q.1 zs,[⟨.sl (.st []),v⟩,⟨.sl t,h⟩,⟨.sl t,zs⟩]++q.2) else ad
 |.oc I s st e n l,.row Q S f j (.arr T U W)=>if I=Q/\s=S/\st=f/\e=j/\n=T/\s=U then(Sh.eA L l W).map λq=>(.row I s st e (.arr n s q.1),q.2) else ad
 |.gone,.gone=>ab (.gone,[])
 |_,_=>ad
def bC.fill:bC->yL TV->yO (ai×yL TV)
 |.var s st,vs=>(s.fill vs).map λq=>(.var q.1 st,q.2)
 |.log t e,vs=>match vs with
  |x::r=>(Ty.cast x.1 (.sl t) x.2).map λ(y:yL t.aT)=>(.log t e y,r)
  |[]=>ad
 |.map f k v,vs=>match vs with
  |x::r=>(Ty.cast x.1 (jj k v) x.2).map λ(y:yL (k.aT×v.aT))=>(.map f k v y,r)
  |[]=>ad
 |.row t st e,vs=>match vs with
  |x::y::r=>(Ty.cast x.1 aQf x.2).bind λ(v:yL Unit)=>(Ty.cast y.1 (.sl t) y.2).map λ(l:yL t.aT)=>(.aV t v st e l,r)
  |_=>ad
 |.aS t g st e,vs=>match vs with
  |x::y::z::r=>(Ty.cast x.1 aQf x.2).bind λ(v:yL Unit)=>(Ty.cast y.1 (.sl t) y.2).bind λ(l:yL t.aT)=>(Ty.cast z.1 (.sl t) z.2).bind λ(m:yL t.aT)=>ab (.aS t g v st e l m,r)
  |_=>ad
 |.bK t g st e s,vs=>match vs with
  |x::y::z::r=>(Ty.cast x.1 aQf x.2).bind λ(v:yL Unit)=>(Ty.cast y.1 (.sl t) y.2).bind λ(l:yL t.aT)=>(Ty.cast z.1 (.sl t) z.2).bind λ(m:yL t.aT)=>
   (s.fill r).map λq=>(.bK t g v st e l q.1 m,q.2)
  |_=>ad
 |.oc h s st e n l,vs=>(Sh.fills l vs).map λq=>(.row h s st e (.arr n s q.1),q.2)
 |.gone,vs=>ab (.gone,vs)
def bC.eA(L:Lk):yL bC->yL ai->yO (yL ai×yL TV)
 |[],[]=>ab ([],[])
 |s::r,d::q=>match bC.mt L s d,bC.eA L r q with
  |some a,ab b=>ab (a.1::b.1,a.2++b.2)
  |_,_=>ad
 |_,_=>ad
def bC.fills:yL bC->yL TV->yO (yL ai×yL TV)
 |[],vs=>ab ([],vs)
 |s::r,vs=>(bC.fill s vs).bind λa=>(bC.fills r a.2).map λb=>(a.1::b.1,b.2)
theorem GZ{O:Type}{t:Ty}(v:yL Unit)(a b:yL t.aT)(k:yL Unit->yL t.aT->yL t.aT->yO O):
 ((Ty.cast aQf aQf v).bind λ(v:yL Unit)=>(Ty.cast (.sl t) (.sl t) a).bind λ(l:yL t.aT)=>(Ty.cast (.sl t) (.sl t) b).bind λ(m:yL t.aT)=>k v l m)=k v a b:=by
 have f:=Xl aQf v;have g:=Xl (.sl t) a;have h:=Xl (.sl t) b;grind
theorem ZIP{L:Lk}{s:bC}{d:ai}{q:ai×yL TV}(h:s.mt L d=ab q)(yK:yL TV):s.fill (q.2++yK)=ab (q.1,yK):=by
 unfold bC.mt at h;split at h
 .split at h
  .obtain⟨w,f,rfl⟩:=Ze h;simp only[bC.fill,mI _ _ w f yK,yae]
  .cases h
 .split at h
  .obtain⟨w,f,rfl⟩:=Ze h;rename_i t e _ _ _ _;exact congrArg (Option.map λ(y:yL t.aT)=>(ai.log t e y,yK)) (Xl (.sl t) w)
  .cases h
 .split at h
  .obtain⟨w,f,rfl⟩:=Ze h;rename_i E k v _ _ _ _ _;exact congrArg (Option.map λ(y:yL (k.aT×v.aT))=>(ai.map E k v y,yK)) (Xl (jj k v) w)
  .cases h
 .split at h
  .obtain⟨w,f,rfl⟩:=Ze h;rename_i t st e _ v _ _ _ _;have Q:=Xl aQf v;have R:=Xl (.sl t) w;show((Ty.cast aQf aQf v).bind λ(v:yL Unit)=>(Ty.cast (.sl t) (.sl t) w).map λ(l:yL t.aT)=>(ai.aV t v st e l,yK))=_;rw[Q,R];rfl
  .cases h
 .rename_i t j st e u z v A G B g;split at h
  .obtain⟨a,f,h⟩:=yf.1 h;obtain⟨b,I,rfl⟩:=Ze h;exact GZ v a b (λv l m=>ab (ai.aS t j v st e l m,yK))
  .cases h
 .rename_i t j st e u z v A G B F g;split at h
  .obtain⟨a,f,h⟩:=yf.1 h;obtain⟨b,I,h⟩:=yf.1 h;obtain⟨c,M,rfl⟩:=Ze h;exact GZ v (a++[c]) b (λv l m=>ab (ai.aS t j v st e l m,yK))
  .cases h
 .rename_i t j st e s u z v A G B F g;split at h
  .obtain⟨a,f,h⟩:=yf.1 h;obtain⟨b,I,h⟩:=yf.1 h;obtain⟨c,M,rfl⟩:=Ze h;have:=GZ v a b (λv l m=>(s.fill (c.2++yK)).map λq=>(ai.bK t j v st e l q.1 m,q.2));refine this.trans ?_;rw[mI _ _ c M yK];rfl
  .cases h
 .split at h
  .obtain⟨w,f,rfl⟩:=Ze h;simp only[bC.fill,bM _ _ w f yK,yae]
  .cases h
 .cases h;rfl
 .cases h
theorem pL{L:Lk}:∀{l:yL bC}{H:yL ai}{q:yL ai×yL TV},bC.eA L l H=ab q->∀yK,bC.fills l (q.2++yK)=ab (q.1,yK)
 |[],[],q,h,yK=>by cases h;rfl
 |[],_::_,q,h,yK=>by cases h
 |_::_,[],q,h,yK=>by cases h
 |s::r,d::H,q,h,yK=>by
  simp only[bC.eA]at h;split at h
  .rename_i a b f g;cases h;simp only[bC.fills,yab,ZIP f,ya,pL g,yae]
  .cases h
theorem ZNZ{L:Lk}{s:bC}{d:ai}{q:ai×yL TV}(h:s.mt L d=ab q):dS (ab q.1)=dS (ab d):=by
 unfold bC.mt at h;split at h
 .split at h
  .obtain⟨w,f,rfl⟩:=Ze h;rfl
  .cases h
 .split at h
  .obtain⟨w,f,rfl⟩:=Ze h;obtain⟨e,g⟩:=ZF f;grind
  .cases h
 .split at h
  .obtain⟨w,f,rfl⟩:=Ze h;rfl
  .cases h
 .split at h
  .obtain⟨w,f,rfl⟩:=Ze h;obtain⟨e,g⟩:=ZF f;subst e;subst g;rfl
  .cases h
 .split at h
  .obtain⟨a,f,h⟩:=yf.1 h;obtain⟨b,g,rfl⟩:=Ze h;obtain⟨e,l⟩:=ZF f;subst e;obtain⟨_,j⟩:=ZF g;subst l;subst j;rfl
  .cases h
 .split at h
  .obtain⟨a,f,h⟩:=yf.1 h;obtain⟨b,g,h⟩:=yf.1 h;obtain⟨c,l,rfl⟩:=Ze h;obtain⟨e,j⟩:=ZF f;subst e;obtain⟨_,m⟩:=ZF g;subst j;subst m;simp only[dS,yl,yah,List.length_nil];grind
  .cases h
 .split at h
  .obtain⟨a,f,h⟩:=yf.1 h;obtain⟨b,g,h⟩:=yf.1 h;obtain⟨c,l,rfl⟩:=Ze h;obtain⟨e,j⟩:=ZF f;subst e;obtain⟨_,m⟩:=ZF g;subst j;subst m;rfl
  .cases h
 .split at h
  .obtain⟨w,f,rfl⟩:=Ze h;rfl
  .cases h
 all_goals grind
theorem pM{L:Lk}:∀{l:yL bC}{H:yL ai}{q:yL ai×yL TV},bC.eA L l H=ab q->q.1.length=H.length/\lk q.1=lk H
 |[],[],q,h=>by cases h;exact⟨rfl,rfl⟩
 |[],_::_,q,h=>by cases h
 |_::_,[],q,h=>by cases h
 |s::r,d::H,q,h=>by
  simp only[bC.eA]at h;split at h
  .rename_i a b f g;cases h;obtain⟨j,m⟩:=pM g;refine⟨by simp[j],funext λi=> ?_⟩
   cases i with
   |zero=>exact ZNZ f
   |succ i=>exact congrFun m i
  .cases h
theorem ZFf:∀(l:yL Dv){m m':yL Dv},cQ m m'->cQ (l++m) (l++m')
 |[],_,_,h=>h
 |x::l,_,_,h=>.cons (Wk.refl x) (ZFf l h)
theorem ZFg{l m:yL Dv}{d d':Dv}(h:Wk d d'):cQ (l++d::m) (l++d'::m):=ZFf l (.cons h (cQ.refl m))
theorem ZIQ{n s:Nat}(xs:yL Pl):Wk (.arr n s (xs.map .p)) (.p (.arr n s xs)):=⟨rfl,rfl,λJ vs r=>by
 simp only[yH,aA]at r ⊢;obtain⟨f,g,h⟩:=r;exact⟨by simpa using f,λx j=>g (.p x) (List.mem_map_of_mem j),jx.1 h⟩⟩
theorem ZN0{n s:Nat}{d:Dv}{x:Pl}(l m:yL Pl)(h:Wk d (.p x)):Wk (.arr n s (l.map .p++d::m.map .p)) (.p (.arr n s (l++x::m))):=by
 have g:Wk (.arr n s (l.map .p++d::m.map .p)) (.arr n s (l.map .p++.p x::m.map .p)):=cQ.arr (ZFg h);have f:=ZIQ (n:=n) (s:=s) (l++x::m);rw[yat,yag]at f;exact⟨rfl,rfl,λJ vs r=>f.df J vs (g.df J vs r)⟩
theorem ZFh{L M:Lk}{t:Ty}{f:yL Nat}{v:yL Unit}{st:Bool}{e:yc}{a b:yL t.aT}{mid:TD}{c:t.aT}(g:Wk (mid.er L) (.p (t.enc c))):
 eB ((ai.bK t f v st e a mid b).er L) ((ai.aS t f v st e (a++[c]) b).er M):=by
 have h:=ZN0 (a.map t.enc) (b.map λx=>(WX f (.v t x)).pe) (n:=a.length+(b.length+1)) (s:=t.size) g;rw[yaw,yaw]at h;have j:(a++[c]).length+b.length=a.length+(b.length+1):=by rw[yl,yah,List.length_nil];omega
 have l:(a++[c]).map t.enc++(b.map λx=>(WX f (.v t x)).pe)=a.map t.enc++t.enc c::b.map λx=>(WX f (.v t x)).pe:=by rw[yat,yab];rfl
 rw[ai.er,ai.er,j,l];exact .row ⟨h,rfl⟩
theorem ZN1{L M:Lk}(z:∀id t,Yc L id t ad=Yc M id t ad){s:bC}{d:ai}{q:ai×yL TV}(h:s.mt L d=ab q):eB (d.er L) (q.1.er M):=by
 unfold bC.mt at h;split at h
 .split at h
  .rename_i e;obtain⟨w,f,rfl⟩:=Ze h;rcases e with e|e
   .subst e;exact .var (lB z _ _ w f)
   .subst e;exact .la (lB z _ _ w f)
  .cases h
 .split at h
  .rename_i e;subst e;obtain⟨w,f,rfl⟩:=Ze h;obtain⟨e,g⟩:=ZF f;subst e;subst g;exact .refl _
  .cases h
 .split at h
  .rename_i e;subst e;obtain⟨w,f,rfl⟩:=Ze h;obtain⟨e,g⟩:=QG f;unfold jj at e;simp only[Ty.sl.injEq,Ty.st.injEq,List.cons.injEq,and_true]at e;obtain⟨j,l⟩:=e;subst j;subst l;subst g;exact .refl _
  .cases h
 .split at h
  .rename_i e;obtain⟨e0,j⟩:=e;subst j;obtain⟨w,f,rfl⟩:=Ze h;obtain⟨e,g⟩:=ZF f;subst e;subst g;rcases e0 with e0|e0
   .subst e0;exact .refl _
   .subst e0;exact .lock
  .cases h
 .split at h
  .rename_i e;obtain⟨e0,j,l⟩:=e;subst j;subst l;obtain⟨a,f,h⟩:=yf.1 h;obtain⟨b,g,rfl⟩:=Ze h;obtain⟨e,m⟩:=ZF f;subst e;obtain⟨_,y⟩:=ZF g;subst m;subst y;rcases e0 with e0|e0
   .subst e0;exact .refl _
   .subst e0;exact .lock
  .cases h
 .rename_i _ _ _ _ _ _ _ _ _ E F B;split at h
  .rename_i e;obtain⟨e0,j,l⟩:=e;subst e0;subst j;subst l;obtain⟨a,f,h⟩:=yf.1 h;obtain⟨b,g,h⟩:=yf.1 h;obtain⟨c,m,rfl⟩:=Ze h;obtain⟨e,y⟩:=ZF f;subst e;obtain⟨_,A⟩:=ZF g;subst y;subst A;exact ZFh (ZFe m)
  .cases h
 .split at h
  .rename_i e;obtain⟨e0,j,l⟩:=e;subst e0;subst j;subst l;obtain⟨a,f,h⟩:=yf.1 h;obtain⟨b,g,h⟩:=yf.1 h;obtain⟨c,m,rfl⟩:=Ze h;obtain⟨e,y⟩:=ZF f;subst e;obtain⟨_,A⟩:=ZF g;subst y;subst A;rw[ai.er,ai.er];exact .row ⟨cQ.arr (ZFg (lB z _ _ c m)),rfl⟩
  .cases h
 .split at h
  .rename_i e;obtain⟨rfl,rfl,rfl,rfl,rfl,rfl⟩:=e;obtain⟨w,f,rfl⟩:=Ze h;rw[ai.er,ai.er,TD.er,TD.er];exact .row ⟨cQ.arr (cW z _ _ w f),rfl⟩
  .cases h
 .cases h;exact .refl _
 .cases h
theorem pN{L M:Lk}(f:∀id t,Yc L id t ad=Yc M id t ad):∀{l:yL bC}{H:yL ai}{q:yL ai×yL TV},bC.eA L l H=ab q->ca (H.map (ai.er L)) (q.1.map (ai.er M))
 |[],[],q,h=>by cases h;exact .nil
 |[],_::_,q,h=>by cases h
 |_::_,[],q,h=>by cases h
 |s::r,d::H,q,h=>by
  simp only[bC.eA]at h;split at h
  .rename_i a b g j;cases h;exact .cons (ZN1 f g) (pN f j)
  .cases h
def dq:(ts:yL Ty)->Ty.aK ts->yL TV
 |[],_=>[]
 |[t],x=>[⟨t,x⟩]
 |t::u::r,x=>⟨t,x.1⟩::dq (u::r) x.2
def jk:(ts:yL Ty)->yL TV->yO (Ty.aK ts)
 |[],[]=>ab ()
 |[t],[x]=>Ty.cast x.1 t x.2
 |t::u::r,x::l=>kz (Ty.cast x.1 t x.2) (jk (u::r) l)
 |_,_=>ad
theorem lC:∀(ts:yL Ty)(l:yL TV)(x:Ty.aK ts),jk ts l=ab x->dq ts x=l
 |[],[],x,h=>rfl
 |[],_::_,x,h=>by cases h
 |[t],[],x,h=>by cases h
 |[t],[y],x,h=>by
  obtain⟨e,f⟩:=QG (show Ty.cast y.1 t y.2=ab x from h)
  obtain⟨u,y⟩:=y;dsimp only at e f;subst e;subst f
  rfl
 |[t],_::_::_,x,h=>by cases h
 |t::u::r,[],x,h=>by cases h
 |t::u::r,y::l,x,h=>by
  obtain⟨j,f⟩:=mr (α:=t.aT) (β:=Ty.aK (u::r)) (show kz (Ty.cast y.1 t y.2) (jk (u::r) l)=ab x from h)
  obtain⟨e,g⟩:=QG j;obtain⟨m,y⟩:=y;dsimp only at e g;subst e;have:=lC (u::r) l x.2 f;show(⟨m,x.1⟩:TV)::dq (u::r) x.2=_;rw[this,g]
abbrev cF:=yL (Nat×Sh)
def pO(sl:cF)(n:Nat):yL Sh:=(yn n).map λi=>(sl.lookup i).getD .ak
def QS(n:Nat)(sl:cF)(es:yL bC)(vs:yL TV):yO (yL TD×yL ai):=
 (Sh.fills (pO sl n) vs).bind λq=>(bC.fills es q.2).bind λw=>if w.2.isEmpty then ab (q.1,w.1) else ad
theorem wt:∀{l:yL Sh}{vs:yL TV}{q:yL TD×yL TV},Sh.fills l vs=ab q->q.1.length=l.length
 |[],vs,q,h=>by simp only[Sh.fills]at h;cases h;rfl
 |s::r,vs,q,h=>by
  simp only[Sh.fills]at h;obtain⟨a,g,h⟩:=yf.1 h;obtain⟨b,f,rfl⟩:=Ze h;simp[wt f]
theorem wu{n:Nat}{sl:cF}{es:yL bC}{vs:yL TV}{q:yL TD×yL ai}(h:QS n sl es vs=ab q):q.1.length=n:=by
 unfold QS at h;obtain⟨a,f,h⟩:=yf.1 h;obtain⟨b,g,h⟩:=yf.1 h;split at h
 .cases h;rw[wt f];simp[pO]
 .cases h
structure bX where
 ex:Ex
 sl:cF
 es:List bC
 ty:List Ty
def bX.sum:yL bX->Type
 |[]=>Empty
 |[e]=>Ty.aK e.ty
 |e::f::r=>Ty.aK e.ty⊕bX.sum (f::r)
abbrev Kc(O:Type):=Ex->yL TD->yL ai->yO O
def xT{O:Type}(n:Nat):(l:yL bX)->bX.sum l->Kc O->yO O
 |[],_,_=>ad
 |[e],o,K=>(QS n e.sl e.es (dq e.ty o)).bind λs=>K e.ex s.1 s.2
 |e::f::r,o,K=>match (o:Ty.aK e.ty⊕bX.sum (f::r)) with
  |.inl o=>(QS n e.sl e.es (dq e.ty o)).bind λs=>K e.ex s.1 s.2
  |.inr o=>xT n (f::r) o K
def mJ:(l:yL bX)->bX.sum l->bX->yL TV->Prop
 |[],_,_,_=>False
 |[e],o,x,vs=>x=e/\vs=dq e.ty o
 |e::f::r,o,x,vs=>match (o:Ty.aK e.ty⊕bX.sum (f::r)) with
  |.inl o=>x=e/\vs=dq e.ty o
  |.inr o=>mJ (f::r) o x vs
theorem wv{O:Type}{n:Nat}{K:Kc O}{out:O}:∀{l:yL bX}{o:bX.sum l},xT n l o K=ab out->∃e vs s,mJ l o e vs/\QS n e.sl e.es vs=ab s/\K e.ex s.1 s.2=ab out
 |[],_,h=>by cases h
 |[e],o,h=>by
  obtain⟨s,g,j⟩:=yf.1 (show(QS n e.sl e.es (dq e.ty o)).bind (λs=>K e.ex s.1 s.2)=ab out from h)
  exact⟨e,_,s,⟨rfl,rfl⟩,g,j⟩
 |e::f::r,.inl o,h=>by
  obtain⟨s,g,j⟩:=yf.1 (show(QS n e.sl e.es (dq e.ty o)).bind (λs=>K e.ex s.1 s.2)=ab out from h)
  exact⟨e,_,s,⟨rfl,rfl⟩,g,j⟩
 |e::f::r,.inr o,h=>by
  obtain⟨m,vs,s,g,j,y⟩:=wv (l:=f::r) (o:=o) h;exact⟨m,vs,s,g,j,y⟩
theorem HA{A B:yL aq}(hl:A.length=B.length)(h:∀(i:Nat)(a b:aq),A[i]? =ab a->B[i]? =ab b->eB a b):ca A B:=by
 induction A generalizing B with
 |nil=>cases B with
  |nil=>exact .nil
  |cons _ _=>simp at hl
 |cons a A f=>cases B with
  |nil=>simp at hl
  |cons b B=>exact .cons (h 0 a b rfl rfl) (f (by simpa using hl) λi a b g j=>h (i+1) a b g j)
def Ty.od(f:(T:Ty)->TD->yO T.aT):(g:yL Ty)->yL TD->yO (Ty.aK g)
 |[],[]=>ab ()
 |[t],[d]=>f t d
 |t::u::r,d::h=>kz (f t d) (Ty.od f (u::r) h)
 |_,_=>ad
def HB{T:Ty}(f:TD->yO T.aT):yL TD->yO (yL T.aT)
 |[]=>ab []
 |d::r=>(kz (f d) (HB f r)).map λq=>q.1::q.2
def HC(H:yL ai)(id:Nat)(u:Ty):yO (yL u.aT):=
 match H[id]? with
 |some (.aV f v af e l)=>Ty.bv f u l
 |_=>ad
theorem ZIS{H:yL ai}{id:Nat}{u:Ty}{l:yL u.aT}(h:HC H id u=ab l):bT (aG H) ((TD.rw id).er (lk H)) ((Ty.sl u).enc l):=by
 unfold HC at h;split at h
 .rename_i g v e z j;obtain⟨m,h⟩:=ZF h;subst m;subst h;have y:(aG H)[id]? =ab (.row v.length g.size af e (.p (.arr l.length g.size (l.map g.enc)))):=Z6 j;have:=bT.rC (lo:=0) (n:=l.length) y (by omega);rw[(gg j).1,vK];rw[List.drop_zero, <-yaa (f:=g.enc),yal,yaa]at this;exact this
 .cases h
def sq(H:yL ai):Nat->(T:Ty)->TD->yO T.aT
 |0,_,_=>ad
 |n+1,T,d=>match d with
  |.p x=>TP.to lr x T
  |.own id m t c=>rE ae t (Yc (lk H) id t c) T
  |.agg f=>rF (λg=>Ty.od (sq H n) g f) T
  |.rw id=>match T with
   |.sl u=>HC H id u
   |_=>ad
  |.rv id v s lo k=>match T with
   |.sl u=>match H[id]? with
    |some (.row w h af e d)=>if(w==v&&h==s&&s==u.size)=ae then match d with
      |.p x=>x.dI.bind λr=>(Ty.bv r.t u r.l).bind λl=>if ag (lo+k<=r.n)=ae then ab ((l.drop lo).take k) else ad
      |.arr N j f=>if(j==s&&ag (lo+k<=N))=ae then(HB (sq H n u) f).map λ(l:yL u.aT)=>(l.drop lo).take k else ad
      |_=>ad
     else ad
    |_=>ad
   |_=>ad
  |.view id [] s lo k=>match T with
   |.sl u=>match H[id]? with
    |some (.var (.p x) af)=>if(s==u.size)=ae then x.dI.bind λr=>(Ty.bv r.t u r.l).bind λl=>if ag (lo+k<=r.n)=ae then ab ((l.drop lo).take k) else ad else ad
    |_=>ad
   |_=>ad
  |_=>ad
theorem ZFi{H:yL aq}{L:Lk}{f:(T:Ty)->TD->yO T.aT}(m:∀T d y,f T d=ab y->bT H (d.er L) (T.enc y)):∀(l:yL Ty)(j:yL TD)(y:Ty.aK l),Ty.od f l j=ab y->
 (TD.aE L j).length=(Ty.encs l y).length/\∀(i:Nat)(d:Dv)(z:Pl),(TD.aE L j)[i]? =ab d->(Ty.encs l y)[i]? =ab z->bT H d z
 |[],[],y,h=>⟨rfl,λi d z g _=>by simp[TD.aE]at g⟩
 |[],_::_,y,h=>by cases h
 |[t],[],y,h=>by cases h
 |[t],[d],y,h=>by
  refine⟨rfl,λi B z g A=> ?_⟩
  cases i with
  |zero=>cases g;cases A;exact m t d y h
  |succ i=>simp[TD.aE]at g
 |[t],_::_::_,y,h=>by cases h
 |t::u::r,[],y,h=>by cases h
 |t::u::r,d::j,y,h=>by
  obtain⟨g,A⟩:=mr (α:=t.aT) (β:=Ty.aK (u::r)) h;obtain⟨G,I⟩:=ZFi m (u::r) j y.2 A;refine⟨by rw[TD.aE,Ty.encs,yah,yah,G],λi B z E F=> ?_⟩
  cases i with
  |zero=>cases E;cases F;exact m t d y.1 g
  |succ i=>exact I i B z E F
theorem ZIT{H:yL aq}{L:Lk}{T:Ty}{f:TD->yO T.aT}(m:∀d y,f d=ab y->bT H (d.er L) (T.enc y)):∀(g:yL TD)(l:yL T.aT),HB f g=ab l->
 (TD.aE L g).length=(l.map T.enc).length/\∀(i:Nat)(d:Dv)(z:Pl),(TD.aE L g)[i]? =ab d->(l.map T.enc)[i]? =ab z->bT H d z
 |[],l,h=>by cases h;exact⟨rfl,λi d z j _=>by simp[TD.aE]at j⟩
 |d::g,l,h=>by
  obtain⟨q,j,rfl⟩:=Ze h;obtain⟨j,E⟩:=mr j;obtain⟨F,G⟩:=ZIT m g q.2 E;refine⟨by rw[TD.aE,yag,yah,yah,F],λi I z A B=> ?_⟩
  cases i with
  |zero=>cases A;cases B;exact m d q.1 j
  |succ i=>exact G i I z A B
theorem HD{H:yL ai}:∀(n:Nat)(T:Ty)(d:TD)(y:T.aT),sq H n T d=ab y->bT (aG H) (d.er (lk H)) (T.enc y)
 |0,_,_,_,h=>by cases h
 |n+1,T,d,y,h=>by
  unfold sq at h;split at h
  .exact .wk (.p _) (vL h)
  .rename_i id Y t c;obtain⟨l,_,j,rfl⟩:=CS (nn:=ad) h;rw[j,TD.er];exact .wk (.own id Y t.size _) (bF.gq (aY.refl _))
  .rename_i M;obtain⟨Z,z,h1,j⟩:=CT h;rw[j,TD.er];obtain⟨Q,R⟩:=ZFi (λT d y=>HD n T d y) Z M z h1;exact .agg Q R
  .rename_i id
   cases T with
   |sl u=>exact ZIS h
   |_=>cases h
  .rename_i id v s lo k;split at h
   .rename_i u;split at h
    .rename_i w s' e dd S;obtain⟨E,g⟩:=Zb h;clear h;simp only[yi,yT]at E;obtain⟨⟨U,W⟩,m⟩:=E;have A:=Z6 S;rw[U,W,m]at A;split at g
     .rename_i x;obtain⟨r,B,F⟩:=yf.1 g;obtain⟨l,f,G⟩:=yf.1 F;obtain⟨I,X⟩:=Zb G;cases X;obtain⟨rn,rt,rl⟩:=r;obtain⟨j,f⟩:=ZF f;dsimp only at j f I;subst j;subst f;rw[ai.er,TD.er,QQ B]at A;have:=bT.rC A (yF I);rw[vK,yci,List.map_drop,TD.er,m];exact this
     .rename_i N s2 M;obtain⟨B,F⟩:=Zb g;simp only[yi,yT,yP]at B;obtain⟨q1,B⟩:=B;obtain⟨l,f,G⟩:=Ze F;subst G;obtain⟨Q,R⟩:=ZIT (λd y=>HD n u d y) M l f;rw[ai.er,TD.er,q1,m]at A;have:=bT.CM A B Q R;rw[vK,yci,List.map_drop,TD.er,m];exact this
     .cases g
    .cases h
   .cases h
  .rename_i id s lo k;split at h
   .rename_i u;split at h
    .rename_i x S;obtain⟨E,g⟩:=Zb h;rw[yT]at E;have A:=Z6 S;obtain⟨r,B,F⟩:=yf.1 g;obtain⟨l,f,G⟩:=yf.1 F;obtain⟨I,X⟩:=Zb G;cases X;obtain⟨rn,rt,rl⟩:=r;obtain⟨j,f⟩:=ZF f;dsimp only at j f I;subst j;subst f;rw[ai.er,TD.er,QQ B]at A;have:=bT.vw A (yF I);rw[vK,yci,List.map_drop,TD.er,E];exact .wk this (bF.gq (aY.refl _))
    .cases h
   .cases h
  .cases h
def ss:ai->ai
 |.row v s _ e d=>.row v s af e d
 |.aV t v _ e l=>.aV t v af e l
 |e=>e
def oe(ids:yL Nat)(H:yL ai):yL ai:=(yn H.length).zipWith (λi e=>if ids.contains i then ss e else e) H
theorem ZIU(e:ai):dS (ab (ss e))=dS (ab e):=by cases e <;> rfl
theorem Zsv(ids:yL Nat)(H:yL ai)(i:Nat):(oe ids H)[i]? =(H[i]?).map λe=>if ids.contains i then ss e else e:=by
 unfold oe;rw[List.getElem?_zipWith];rcases Nat.lt_or_ge i H.length with h|h
 .rw[List.getElem?_range h,List.getElem?_eq_getElem h];rfl
 .rw[ybk (by simpa using h),ybk h];rfl
theorem ZuR(ids:yL Nat)(H:yL ai):lk (oe ids H)=lk H:=by
 funext i;unfold lk;rw[Zsv]
 cases H[i]? with
 |none=>rfl
 |some e=>
  show dS (ab (if ids.contains i=ae then ss e else e))=_
  split
  .exact ZIU e
  .rfl
theorem ZDV(ids:yL Nat)(H:yL ai):ca (aG H) (aG (oe ids H)):=by
 refine HA (by rw[ZV,ZV];unfold oe;simp) λi a b f g=> ?_;unfold aG at f g;rw[yak]at f g;rw[ZuR,Zsv]at g
 cases h:H[i]? with
 |none=>rw[h]at f;cases f
 |some e=>
  rw[h]at f g;cases f;cases g;show eB (e.er (lk H)) (ai.er (lk H) (if ids.contains i=ae then ss e else e))
  split
  .cases e <;> first|exact .refl _|exact .lock
  .exact .refl _
def HE:yL ai->Nat->Bool
 |H,i=>match H[i]? with
  |some (.row _ _ _ _ _)=>ae
  |some (.aV _ _ _ _ _)=>ae
  |_=>af
mutual
def TD.rn(f:Nat->yO Nat):TD->yO TD
 |.p x=>ab (.p x)
 |.elem x=>ab (.elem x)
 |.aj id h=>(f id).map λi=>.aj i h
 |.own id m t c=>(f id).map λi=>.own i m t c
 |.view id h s lo n=>(f id).map λi=>.view i h s lo n
 |.agg j=>(TD.bB f j).map .agg
 |.arr n s j=>(TD.bB f j).map (.arr n s)
 |.fn g l=>(TD.bB f l).map (.fn g)
 |.iface t x=>(TD.rn f x).map (.iface t)
 |.bm j=>(TD.bB f j).map .bm
 |.mp id=>(f id).map .mp
 |.rv id v s lo n=>(f id).map λi=>.rv i v s lo n
 |.ba id v h=>(f id).map λi=>.ba i v h
 |.rw id=>(f id).map .rw
 |.rp id h=>(f id).map λi=>.rp i h
 |.ak=>ab .ak
def TD.bB(f:Nat->yO Nat):yL TD->yO (yL TD)
 |[]=>ab []
 |x::r=>match TD.rn f x,TD.bB f r with
  |some y,ab g=>ab (y::g)
  |_,_=>ad
end
def ai.rn(f:Nat->yO Nat):ai->yO ai
 |.var d st=>(d.rn f).map λg=>.var g st
 |.row v s st e d=>(d.rn f).map λg=>.row v s st e g
 |.bK t l v st e j d h=>(d.rn f).map λg=>.bK t l v st e j g h
 |e=>ab e
def ai.bB(f:Nat->yO Nat):yL ai->yO (yL ai)
 |[]=>ab []
 |x::r=>match ai.rn f x,ai.bB f r with
  |some y,ab g=>ab (y::g)
  |_,_=>ad
def Rc(f:Nat->yO Nat)(L M:Lk):Prop:=∀id j t,f id=ab j->Yc L id t ad=Yc M j t ad
theorem ZLD{f:Nat->yO Nat}{L M:Lk}(h:Rc f L M){id j:Nat}(e:f id=ab j)(t:Ty)(c:yO (yL t.aT)):Yc L id t c=Yc M j t c:=by
 cases c with
 |none=>exact h id j t e
 |some _=>rfl
mutual
theorem ic{f:Nat->yO Nat}{L M:Lk}(h:Rc f L M):∀(d d':TD),d.rn f=ab d'->Dv.rn f (d.er L)=ab (d'.er M)
 |.p x,d',e=>by cases e;rfl
 |.elem x,d',e=>by cases e;rfl
 |.aj id m,d',e=>by
  obtain⟨i,j,rfl⟩:=Ze e
  simp only[TD.er,Dv.rn,j,yae]
 |.own id y t c,d',e=>by
  obtain⟨i,j,rfl⟩:=Ze e
  simp only[TD.er,Dv.rn,j,yae,ZLD h j]
 |.view id m s lo n,d',e=>by
  obtain⟨i,j,rfl⟩:=Ze e
  simp only[TD.er,Dv.rn,j,yae]
 |.agg l,d',e=>by
  obtain⟨i,j,rfl⟩:=Ze e
  simp only[TD.er,Dv.rn,dk h l i j,yae]
 |.arr n s l,d',e=>by
  obtain⟨i,j,rfl⟩:=Ze e
  simp only[TD.er,Dv.rn,dk h l i j,yae]
 |.fn g l,d',e=>by
  obtain⟨i,j,rfl⟩:=Ze e
  simp only[TD.er,Dv.rn,dk h l i j,yae]
 |.iface t x,d',e=>by
  obtain⟨i,j,rfl⟩:=Ze e
  simp only[TD.er,Dv.rn,ic h x i j,yae]
 |.bm l,d',e=>by
  obtain⟨i,j,rfl⟩:=Ze e
  simp only[TD.er,Dv.rn,dk h l i j,yae]
 |.mp id,d',e=>by
  obtain⟨i,j,rfl⟩:=Ze e
  simp only[TD.er,Dv.rn,j,yae]
 |.rv id v s lo n,d',e=>by
  obtain⟨i,j,rfl⟩:=Ze e
  simp only[TD.er,Dv.rn,j,yae]
 |.ba id v m,d',e=>by
  obtain⟨i,j,rfl⟩:=Ze e
  simp only[TD.er,Dv.rn,j,yae]
 |.rw id,d',e=>by
  obtain⟨i,j,rfl⟩:=Ze e
  simp only[TD.er,Dv.rn,j,yae,ez,h _ _ _ j]
 |.rp id m,d',e=>by
  obtain⟨i,j,rfl⟩:=Ze e
  simp only[TD.er,Dv.rn,j,yae,ez,h _ _ _ j]
 |.ak,d',e=>by cases e;rfl
theorem dk{f:Nat->yO Nat}{L M:Lk}(h:Rc f L M):∀(g es:yL TD),TD.bB f g=ab es->Dv.bB f (TD.aE L g)=ab (TD.aE M es)
 |[],es,e=>by cases e;rfl
 |x::r,es,e=>by
  simp only[TD.bB]at e;split at e
  .rename_i y j l m;cases e;simp only[TD.aE,Dv.bB,ic h x y l,dk h r j m]
  .cases e
end
theorem HF{α:Type}(f:Nat->yO Nat)(g:α->Pl):∀(l:yL α)(m:yL Dv),Dv.bB f ((l.map λx=>.p (g x))++m)=(Dv.bB f m).map λq=>(l.map λx=>.p (g x))++q
 |[],m=>by cases h:Dv.bB f m <;> simp[h]
 |x::l,m=>by
  rw[yag,yaf,Dv.bB,Dv.rn,HF f g l m];cases Dv.bB f m <;> rfl
theorem ZLE{α β:Type}{f:Nat->yO Nat}{g:α->Pl}{j:β->Pl}{l:yL α}{d d':Dv}{m:yL β}(h:Dv.rn f d=ab d'):
 Dv.bB f ((l.map λx=>.p (g x))++d::m.map λx=>.p (j x))=ab ((l.map λx=>.p (g x))++d'::m.map λx=>.p (j x)):=by
 have e:=HF f j m [];rw[yba]at e;rw[HF,Dv.bB,h,e];simp[Dv.bB]
theorem ZIV{f:Nat->yO Nat}{L M:Lk}(h:Rc f L M){e j:ai}(k:e.rn f=ab j):aq.rn f (e.er L)=ab (j.er M):=by
 cases e with
 |var d st=>
  obtain⟨i,g,rfl⟩:=Ze k
  simp only[ai.er,aq.rn,ic h d i g,yae]
 |row v s st e d=>
  obtain⟨i,g,rfl⟩:=Ze k
  simp only[ai.er,aq.rn,ic h d i g,yae]
 |bK t y v st e m d l=>
  obtain⟨i,g,rfl⟩:=Ze k
  simp only[ai.er,aq.rn,Dv.rn,ZLE (ic h d i g),yae]
 |_=>cases k;rfl
theorem ZFj{f:Nat->yO Nat}{L M:Lk}(h:Rc f L M):∀(g es:yL ai),ai.bB f g=ab es->aq.bB f (g.map (ai.er L))=ab (es.map (ai.er M))
 |[],es,e=>by cases e;rfl
 |x::r,es,e=>by
  simp only[ai.bB]at e;split at e
  .rename_i y j l m;cases e;simp only[yag,aq.bB,ZIV h l,ZFj h r j m]
  .cases e
theorem ZIW{f:Nat->yO Nat}{e g:ai}(k:e.rn f=ab g):dS (ab g)=dS (ab e):=by
 cases e with
 |var d st=>obtain⟨i,h,rfl⟩:=Ze k;rfl
 |row v s st e d=>obtain⟨i,h,rfl⟩:=Ze k;rfl
 |bK t m v st e l d j=>obtain⟨i,h,rfl⟩:=Ze k;rfl
 |_=>cases k;rfl
theorem ZBK{f:Nat->yO Nat}:∀{g es:yL ai},ai.bB f g=ab es->es.length=g.length/\∀(j:Nat),dS (es[j]?)=dS (g[j]?)
 |[],es,e=>by cases e;exact⟨rfl,λ_=>rfl⟩
 |x::r,es,e=>by
  simp only[ai.bB]at e;split at e
  .rename_i y A h l;cases e;obtain⟨m,z⟩:=ZBK l;refine⟨by simp[m],λj=> ?_⟩
   cases j with
   |zero=>exact ZIW h
   |succ j=>exact z j
  .cases e
def Vi(H:yL ai)(all:yL Nat):yL Nat->yO (yL ai)
 |[]=>ab []
 |id::r=>match (H[id]?).bind (ai.rn (bg all)),Vi H all r with
  |some e,ab f=>ab (e::f)
  |_,_=>ad
theorem HG{H:yL ai}{all:yL Nat}:∀{ids:yL Nat}{Hin:yL ai},Vi H all ids=ab Hin->Hin.length=ids.length/\∀(j id:Nat),ids[j]? =ab id->id < H.length/\dS (Hin[j]?)=dS (H[id]?)
 |[],Hin,h=>by cases h;exact⟨rfl,λj id e=>by simp at e⟩
 |i::r,Hin,h=>by
  simp only[Vi]at h;split at h
  .rename_i e B l m;cases h;obtain⟨y,z⟩:=HG m;obtain⟨E,f,A⟩:=yf.1 l;refine⟨by simp[y],λj id g=> ?_⟩
   cases j with
   |zero=>
    cases g
    exact⟨(yu.1 f).1,by rw[f];exact ZIW A⟩
   |succ j=>exact z j id g
  .cases h
theorem Vj{H:yL ai}{all:yL Nat}{M:Lk}(h:Rc (bg all) (lk H) M):∀{ids:yL Nat}{Hin:yL ai},Vi H all ids=ab Hin->aN (aG H) all ids=ab (Hin.map (ai.er M))
 |[],Hin,e=>by cases e;rfl
 |i::r,Hin,e=>by
  simp only[Vi]at e;split at e
  .rename_i m y f g;cases e;obtain⟨z,j,l⟩:=yf.1 f;simp only[aN,Z6 j,ya,ZIV h l,Vj h g,yag]
  .cases e
mutual
def TD.lay(L:Lk)(S:yL Nat):TD->TD
 |.own id j t c=>if S.contains id then .own id j t (ab (Yc L id t c)) else .own id j t c
 |.agg h=>.agg (TD.lays L S h)
 |.arr m s h=>.arr m s (TD.lays L S h)
 |.fn f h=>.fn f (TD.lays L S h)
 |.iface t x=>.iface t (TD.lay L S x)
 |.bm h=>.bm (TD.lays L S h)
 |.p x=>.p x
 |.elem x=>.elem x
 |.aj id g=>.aj id g
 |.view id g s lo n=>.view id g s lo n
 |.mp id=>.mp id
 |.rv id v s lo n=>.rv id v s lo n
 |.ba id v g=>.ba id v g
 |.rw id=>if S.contains id then .rv id (ez L id 0) (ez L id 1) 0 (ez L id 2) else .rw id
 |.rp id g=>if S.contains id then .ba id (ez L id 0) g else .rp id g
 |.ak=>.ak
def TD.lays(L:Lk)(S:yL Nat):yL TD->yL TD
 |[]=>[]
 |x::r=>TD.lay L S x::TD.lays L S r
end
mutual
def TD.under(n:Nat):TD->Bool
 |.own id _ _ c=>c.isSome || decide (id < n)
 |.rw id=>ag (id < n)
 |.rp id _=>ag (id < n)
 |.agg f=>TD.dD n f
 |.arr _ _ f=>TD.dD n f
 |.fn _ f=>TD.dD n f
 |.iface _ x=>TD.under n x
 |.bm f=>TD.dD n f
 |_=>ae
def TD.dD(n:Nat):yL TD->Bool
 |[]=>ae
 |x::r=>TD.under n x&&TD.dD n r
end
def ai.lay(L:Lk)(S:yL Nat):ai->ai
 |.var d st=>.var (d.lay L S) st
 |.row v s st e d=>.row v s st e (d.lay L S)
 |.bK t h v st e g d f=>.bK t h v st e g (d.lay L S) f
 |e=>e
def ai.under(n:Nat):ai->Bool
 |.var d _=>d.under n
 |.row _ _ _ _ d=>d.under n
 |.bK _ _ _ _ _ _ d _=>d.under n
 |_=>ae
def Lo(S:yL Nat)(n:Nat)(L M:Lk):Prop:=∀id t,S.contains id=af->id < n->Yc L id t ad=Yc M id t ad
mutual
theorem su{L M:Lk}{S:yL Nat}{n:Nat}(h:Lo S n L M):∀(d:TD),d.under n=ae->(d.lay L S).er M=d.er L
 |.p _,_=>rfl
 |.elem _,_=>rfl
 |.aj _ _,_=>rfl
 |.own id l t c,f=>by
  rw[TD.lay];split
  .rfl
  .rename_i j
   cases c with
   |none=>
    have:id < n:=by simpa[TD.under] using f
    rw[TD.er,TD.er,h id t (by simpa using j) this]
   |some _=>rfl
 |.view _ _ _ _ _,_=>rfl
 |.agg g,f=>by rw[TD.lay,TD.er,TD.er,dG h g f]
 |.arr _ _ g,f=>by rw[TD.lay,TD.er,TD.er,dG h g f]
 |.fn _ g,f=>by rw[TD.lay,TD.er,TD.er,dG h g f]
 |.iface _ x,f=>by rw[TD.lay,TD.er,TD.er,su h x f]
 |.bm g,f=>by rw[TD.lay,TD.er,TD.er,dG h g f]
 |.mp _,_=>rfl
 |.rv _ _ _ _ _,_=>rfl
 |.ba _ _ _,_=>rfl
 |.rw id,f=>by
  rw[TD.lay];split
  .rfl
  .rename_i j;have:id < n:=by simpa[TD.under] using f
   simp only[TD.er,ez,h id _ (by simpa using j) this]
 |.rp id _,f=>by
  rw[TD.lay];split
  .rfl
  .rename_i j;have:id < n:=by simpa[TD.under] using f
   simp only[TD.er,ez,h id _ (by simpa using j) this]
 |.ak,_=>rfl
theorem dG{L M:Lk}{S:yL Nat}{n:Nat}(h:Lo S n L M):∀(f:yL TD),TD.dD n f=ae->TD.aE M (TD.lays L S f)=TD.aE L f
 |[],_=>rfl
 |x::r,g=>by
  simp only[TD.dD,yi]at g;rw[TD.lays,TD.aE,TD.aE,su h x g.1,dG h r g.2]
end
theorem ZBL{L:Lk}{S:yL Nat}:∀(l:yL TD),(TD.lays L S l).length=l.length
 |[]=>rfl
 |_::r=>by rw[TD.lays,yah,yah,ZBL r]
theorem ZLF{L M:Lk}{S:yL Nat}{n:Nat}(h:Lo S n L M){e:ai}(f:e.under n=ae):(e.lay L S).er M=e.er L:=by
 cases e with
 |var d st=>rw[ai.lay,ai.er,ai.er,su h d f]
 |row v s st e d=>rw[ai.lay,ai.er,ai.er,su h d f]
 |bK t l v st e j d g=>rw[ai.lay,ai.er,ai.er,su h d f]
 |_=>rfl
theorem ZLG{L:Lk}{S:yL Nat}(e:yO ai):dS (e.map (ai.lay L S))=dS e:=by
 cases e with
 |none=>rfl
 |some e=>cases e <;> rfl
theorem Zsw{α β:Type}(f:α->β):∀(ids:yL Nat)(A B:yL α),(aw A ids B).map f=aw (A.map f) ids (B.map f)
 |[],A,B=>by simp[aw]
 |id::r,A,[]=>by simp[aw]
 |id::r,A,b::B=>by simp only[aw,yag];rw[Zsw f r,ybj]
def TD.cn(L:Lk)(ids:yL Nat):TD->TD
 |.own id g t c=>if ids.contains id then .own id g t c else .p (.sl g t (Yc L id t c))
 |.agg f=>if TD.dy ids f then .agg f else TD.dz L f
 |d=>d
theorem HJ{L:Lk}{ids:yL Nat}(d:TD):(d.cn L ids).er L=Dv.cn ids (d.er L):=by
 cases d with
 |own id f t c=>
  rw[TD.cn,TD.er,Dv.cn]
  split <;> rfl
 |p _=>rfl
 |elem _=>rfl
 |aj _ _=>rfl
 |view _ _ _ _ _=>rfl
 |agg g=>
  rw[TD.cn,TD.er,Dv.cn,fh];split
  .rw[TD.er]
  .exact ZE3 _
 |arr _ _ _=>rfl
 |fn _ _=>rfl
 |iface _ _=>rfl
 |bm _=>rfl
 |mp _=>rfl
 |rv _ _ _ _ _=>rfl
 |ba _ _ _=>rfl
 |rw _=>rfl
 |rp _ _=>rfl
 |ak=>rfl
def og(P:yg)(ts:yL TD):yL yp->yL yc->yO (yL TD)
 |[],_=>ab []
 |_,[]=>ab []
 |x::r,t::q=>match bo P ts t x,og P ts r q with
  |some a,ab b=>ab (a::b)
  |_,_=>ad
theorem ww{P:yg}{ts:yL TD}{L:Lk}(ids:yL Nat):∀{l:yL yp}{ty:yL yc}{f:yL TD},og P ts l ty=ab f->
 ((l.zip ty).map λq=>(aC P (TD.aE L ts) q.2 q.1).cn ids)=TD.aE L (f.map (TD.cn L ids))
 |[],ty,f,h=>by cases h;rfl
 |x::r,[],f,h=>by cases h;rfl
 |x::r,t::q,f,h=>by
  simp only[og]at h;split at h
  .rename_i a b g j;cases h;simp only[List.zip_cons_cons,yag,TD.aE,Zs (L:=L) g,HJ,ww ids j]
  .cases h
theorem ZFk{L:Lk}(ids:yL Nat)(f:yL TD):(TD.aE L f).map (Dv.cn ids)=TD.aE L (f.map (TD.cn L ids)):=by
 rw[ZI,ZI,yaw,yaw];exact ycd λx _=>(HJ x).symm
structure Fs(P:yg)where
 g:yr
 ps:List Sh
 es:List bC
 ins:List Ty
 xs:List bX
 M:Ty.aK ins->Option (bX.sum xs)
def Fs.Ok{P:yg}(s:Fs P):Prop:=
 ∀x o,s.M x=ab o->∃f R H,Sh.fills s.ps (dq s.ins x)=ab (f,R)/\bC.fills s.es R=ab (H,[])/\
  ∀e vs h,mJ s.xs o e vs->QS 1 e.sl e.es vs=ab h->∃r,h.1=[r]/\bZ P s.g (TD.aE (lk H) f) (aG H) (r.er (lk h.2)) (aG h.2)
def dt{P:yg}:yL (Fs P)->Prop
 |[]=>True
 |s::r=>s.Ok/\dt r
mutual
def Sh.ids:Sh->TD->yL (Nat×Nat)
 |.own j _,d=>match d with
  |.own id _ _ ad=>[(j,id)]
  |_=>[]
 |.aj j _,d=>match d with
  |.aj id _=>[(j,id)]
  |_=>[]
 |.mp j,d=>match d with
  |.mp id=>[(j,id)]
  |_=>[]
 |.rw j,d=>match d with
  |.rw id=>[(j,id)]
  |_=>[]
 |.rp j _ _,d=>match d with
  |.rp id _=>[(j,id)]
  |_=>[]
 |.view j _ _ _ _,d=>match d with
  |.view id _ _ _ _=>[(j,id)]
  |_=>[]
 |.rv j _ _ _ _,d=>match d with
  |.rv id _ _ _ _=>[(j,id)]
  |_=>[]
 |.fn _ l,d=>match d with
  |.fn _ f=>Sh.gN l f
  |_=>[]
 |.agg l,d=>match d with
  |.agg f=>Sh.gN l f
  |_=>[]
 |.arr _ _ l,d=>match d with
  |.arr _ _ f=>Sh.gN l f
  |_=>[]
 |.bm l,d=>match d with
  |.bm f=>Sh.gN l f
  |_=>[]
 |.iface _ x,d=>match d with
  |.iface _ y=>Sh.ids x y
  |_=>[]
 |_,_=>[]
def Sh.gN:yL Sh->yL TD->yL (Nat×Nat)
 |[],_=>[]
 |s::r,f=>match f with
  |d::q=>Sh.ids s d++Sh.gN r q
  |[]=>[]
end
def HK(H:yL ai):yL bC->Nat->yL (Nat×Nat)->yL (Nat×Nat)
 |[],_,l=>l
 |e::r,j,l=>HK H r (j+1) (match e,(l.lookup j).bind λid=>H[id]? with
  |.var s _,ab (.var d _)=>l++Sh.ids s d
  |.oc _ _ _ _ _ sl,ab (.row _ _ _ _ (.arr _ _ f))=>l++Sh.gN sl f
  |_,_=>l)
def ZIX(H:yL ai):yO Nat:=(yn H.length).reverse.find? λi=>match H[i]? with
 |some .gone=>ae
 |_=>af
def ZPl(H:yL ai)(f:yL Sh)(es:yL bC)(g:yL TD):yO (yL Nat):=
 match f,es with
 |[],[.gone]=>(ZIX H).map λi=>[i]
 |_,_=>
  let l:=HK H es 0 (Sh.gN f g)
  (yn es.length).mapM λj=>l.lookup j
def wz{P:yg}(s:Fs P)(H:yL ai)(args:yL TD)(ids:yL Nat):yO (Ty.aK s.ins):=
 if once ids then(TD.bB (bg ids) (args.map (TD.cn (lk H) ids))).bind λf=>(Vi H ids ids).bind λHin=>
  (Sh.eA (lk Hin) s.ps f).bind λq=>(bC.eA (lk Hin) s.es Hin).bind λw=>jk s.ins (q.2++w.2)
 else ad
theorem fY{H Hin:yL ai}{ids:yL Nat}(h:Vi H ids ids=ab Hin):Rc (bg ids) (lk H) (lk Hin):=by
 intro id j t e;obtain⟨l,f⟩:=HG h;have g:=cv e;have:=(f j id g).2;unfold Yc lk;grind
theorem ZLH{P:yg}{s:Fs P}{H:yL ai}{args:yL TD}{ids:yL Nat}{x:Ty.aK s.ins}(h:wz s H args ids=ab x):
 once ids=ae/\∃Hin a2 j H3 R,Vi H ids ids=ab Hin/\aN (aG H) ids ids=ab (aG Hin)/\Dv.bB (bg ids) (TD.aE (lk H) (args.map (TD.cn (lk H) ids)))=ab (TD.aE (lk Hin) a2)/\
  Sh.fills s.ps (dq s.ins x)=ab (j,R)/\bC.fills s.es R=ab (H3,[])/\cQ (TD.aE (lk Hin) a2) (TD.aE (lk H3) j)/\ca (aG Hin) (aG H3):=by
 unfold wz at h;split at h
 .rename_i y;obtain⟨a2,z,h⟩:=yf.1 h;obtain⟨Hin,f,h⟩:=yf.1 h;obtain⟨q,l,h⟩:=yf.1 h;obtain⟨w,g,h⟩:=yf.1 h;obtain⟨B,A⟩:=pM g;have e:=lC _ _ _ h;have m:∀id t,Yc (lk Hin) id t ad=Yc (lk w.1) id t ad:=λid t=>by rw[A]
  refine⟨y,Hin,a2,q.1,w.1,w.2,f,Vj (fY f) f,dk (fY f) _ _ z, ?_, ?_,cW m _ _ _ l,pN m g⟩
  .rw[e];exact bM _ _ _ l _
  .have:=pL g [];grind
 .cases h
section
variable{P:yg}{o:yj}{ts all:yL TD}{H:yL ai}{O:Type}{K:Kn O}{out:O}
def wA(all:yL TD)(H:yL ai)(K:Kn O)(ids:yL Nat)(r:TD)(Hn:yL ai):yO O:=
 if(ids.isEmpty&&Hn.isEmpty)=ae then(r.rn λ_=>ad).bind λf=>K all f H [.call (r.er (lk [])) [] []] 0 else
 (r.rn (aU ids H.length)).bind λf=>(ai.bB (aU ids H.length) Hn).bind λHb=>
   if(ag (ids.length<=Hn.length)&&TD.dD H.length all&&H.all (ai.under H.length))=ae then
    K (TD.lays (lk H) ids all) f (aw (H.map (ai.lay (lk H) ids)) ids Hb) [.call (r.er (lk Hn)) (aG Hn) ids] 2
   else ad
def HL(s:Fs P)(all:yL TD)(H:yL ai)(K:Kn O)(args:yL TD)(ids:yL Nat)(x:Ty.aK s.ins):yO O:=
 (s.M x).bind λy=>xT 1 s.xs y λ_ rs Hn=>match rs with
   |[r]=>wA all H K ids r Hn
   |_=>ad
def sv(g:yr)(all:yL TD)(H:yL ai)(K:Kn O)(args:yL TD)(f:yO O):yL (Fs P)->yO O
 |[]=>f
 |s::h=>if s.g=g then match (ZPl H s.ps s.es args).bind λids=>(wz s H args ids).map λx=>(ids,x) with
   |some q=>HL s all H K args q.1 q.2
   |none=>sv g all H K args f h
  else sv g all H K args f h
structure Rs(P:yg)where
 g:yr
 ps:List Sh
 es:List bC
 ins:List Ty
 r:Sh
 t:List Ty
 M:Ty.aK ins->Option (Ty.aK t)
def Rs.Ok{P:yg}(s:Rs P):Prop:=
 ∀x o,s.M x=ab o->∃f R H,Sh.fills s.ps (dq s.ins x)=ab (f,R)/\bC.fills s.es R=ab (H,[])/\
  ∀q,Sh.fill s.r (dq s.t o)=ab q->bZ P s.g (TD.aE (lk H) f) (aG H) (q.1.er (lk H)) (aG H)
def mK{P:yg}:yL (Rs P)->Prop
 |[]=>True
 |s::r=>s.Ok/\mK r
structure Sp(P:yg)where
 l:List (Fs P):=[]
 hd:(O:Type)->yr->List TD->List ai->(TD->List ai->Option O)->Option O:=λ_ _ _ _ _=>ad
 mt:List (yc×String×yr):=[]
 ro:List (Rs P):=[]
def oh(P:yg)(hd:(O:Type)->yr->yL TD->yL ai->(TD->yL ai->yO O)->yO O):Prop:=
 ∀(O:Type)(g:yr)(f:yL TD)(H:yL ai)(K:TD->yL ai->yO O)(out:O),hd O g f H K=ab out->
  ∃r H',K r H'=ab out/\bZ P g (TD.aE (lk H) f) (aG H) (r.er (lk H')) (aG H')
def gO(P:yg):yL (yc×String×yr)->Prop
 |[]=>True
 |q::r=>oV P q.1 q.2.1 q.2.2/\gO P r
def sw:yL (yc×String×yr)->yc->String->yO yr
 |[],_,_=>ad
 |q::r,t,n=>if q.1=t then if q.2.1=n then ab q.2.2 else sw r t n else sw r t n
theorem HM:∀{l:yL (yc×String×yr)}{t:yc}{n:String}{g:yr},gO P l->sw l t n=ab g->oV P t n g
 |[],_,_,_,_,h=>by cases h
 |q::r,t,n,g,f,h=>by
  unfold sw at h;split at h
  .rename_i j;split at h
   .rename_i m;cases h;rw[<-j, <-m];exact f.1
   .exact HM f.2 h
  .exact HM f.2 h
structure dU(s:Sp P):Prop where
 l:dt s.l
 hd:oh P s.hd
 mt:gO P s.mt
 ro:mK s.ro
theorem ZLJ:oh P (λ_ _ _ _ _=>ad):=λ_ _ _ _ _ _ h=>by cases h
theorem kB{l:yL (Fs P)}(h:dt l):dU ({ l:=l}:Sp P):=⟨h,ZLJ,zP,ao⟩
mutual
def TD.look:TD->yL Nat
 |.aj id _=>[id]
 |.own id _ _ _=>[id]
 |.view id _ _ _ _=>[id]
 |.mp id=>[id]
 |.rv id _ _ _ _=>[id]
 |.ba id _ _=>[id]
 |.rw id=>[id]
 |.rp id _=>[id]
 |.agg f=>TD.looks f
 |.arr _ _ f=>TD.looks f
 |.fn _ f=>TD.looks f
 |.iface _ x=>TD.look x
 |.bm f=>TD.looks f
 |_=>[]
def TD.looks:yL TD->yL Nat
 |[]=>[]
 |x::r=>TD.look x++TD.looks r
end
def ai.look:ai->yL Nat
 |.var d _=>d.look
 |.row _ _ _ _ d=>d.look
 |.bK _ _ _ _ _ _ d _=>d.look
 |_=>[]
def mL(h:yL ai):Nat->yL Nat->yL Nat->yL Nat
 |0,_,f=>f
 |_+1,[],f=>f
 |k+1,id::r,f=>if f.contains id then mL h k r f else mL h k (((h[id]?).map ai.look).getD []++r) (id::f)
def HN(sp:Sp P)(g:yr)(all:yL TD)(H:yL ai)(K:Kn O)(args:yL TD):yO O:=
 let ids:=mL H 100000 (TD.looks args) []
 if once ids then(TD.bB (bg ids) (args.map (TD.cn (lk H) ids))).bind λf=>(Vi H ids ids).bind λHin=>
  sp.hd O g f Hin λr Hn=>wA all H K ids r Hn
 else ad
def HO(sp:Sp P)(g:yr)(all:yL TD)(H:yL ai)(K:Kn O)(args:yL TD):yO O:=sv g all H K args (HN sp g all H K args) sp.l
structure dV(P:yg)(g:yr)(all args:List TD)(H:List ai)(a':List TD)(d:TD)(H':List ai)(hs:List ar)(bQ:Nat):Prop where
 same:TD.aE (lk H') a'=TD.aE (lk H) all
 len:a'.length=all.length
 op:∃(ids:List Nat)(Hin Hn Hb:List aq)(az:List Dv)(r:Dv),once ids=ae/\ids.length<=Hn.length/\aN (aG H) ids ids=ab Hin/\
  Dv.bB (bg ids) (TD.aE (lk H) (args.map (TD.cn (lk H) ids)))=ab az/\bZ P g az Hin r Hn/\r.rn (aU ids H.length)=ab (d.er (lk H'))/\aq.bB (aU ids H.length) Hn=ab Hb/\
  aG H'=aw (aG H) ids Hb/\hs=[.call r Hn ids]/\(bQ=2/\¬(ids=[]/\Hn=[])\/(bQ=3/\aG H'=aG H/\¬(ids=[]/\Hn=[]))\/bQ=0/\ids=[]/\Hn=[]/\H'=H/\a'=all/\r=d.er (lk H')/\r.rn (λ_=>ad)=ab r)
theorem ZDY(n:Nat):once (yn n)=ae:=by
 have f:∀(l:yL Nat),l.Nodup->once l=ae:=by
  intro l
  induction l with
  |nil=>intro _;rfl
  |cons x r g=>
   intro h;rw[List.nodup_cons]at h;simp only[once,yi,Bool.not_eq_true',g h.2,and_true];simpa using h.1
 grind
theorem ZxN{g:yr}{args:yL TD}{ids:yL Nat}{Hin:yL ai}{az:yL Dv}{A:TD}{Hn:yL ai}(l:once ids=ae)(p1:Vi H ids ids=ab Hin)(p2:aN (aG H) ids ids=ab (aG Hin))
 (p3:Dv.bB (bg ids) (TD.aE (lk H) (args.map (TD.cn (lk H) ids)))=ab az) (m:bZ P g az (aG Hin) (A.er (lk Hn)) (aG Hn)) (h:wA all H K ids A Hn=ab out):
 ∃a d H' hs c,K a d H' hs c=ab out/\dV P g all args H a d H' hs c:=by
 unfold wA at h;split at h
 .rename_i y;rw[yi]at y;have i1:ids=[]:=by simpa using y.1
  have Q:Hn=[]:=by simpa using y.2
  subst i1;subst Q;obtain⟨Y,z,h⟩:=yf.1 h;have f1:=ic (L:=lk []) (M:=lk H) (λid j t e=>by cases e) _ _ z;have f2:=re (f:=λ_=>ad) _ _ f1;have f3:A.er (lk [])=Y.er (lk H):=Option.some.inj (f2.symm.trans f1);have B:Hin=[]:=by cases p1;rfl
  subst B;refine⟨_,_,_,_,_,h,rfl,rfl,[],[],[],[],az,A.er (lk []),rfl,ym _,rfl,p3,m, ?_,rfl, ?_,rfl,.inr (.inr ⟨rfl,rfl,rfl,rfl,rfl,f3,f2⟩)⟩
  .rw[<-f3];exact re _ _ f1
  .rw[TU]
 rename_i R;obtain⟨Y,z,h⟩:=yf.1 h;obtain⟨Hb,E,h⟩:=yf.1 h;obtain⟨Z,h⟩:=Zb h;simp only[yi,yP]at Z;obtain⟨⟨I,k2⟩,k3⟩:=Z;obtain⟨S,b2⟩:=ZBK E;obtain⟨s1,s2⟩:=HG p1
 have T:∀i,i∈ids->i < H.length:=λi U=>by
  obtain⟨j,hj⟩:=List.getElem?_of_mem U;grind
 have F:Lo ids H.length (lk H) (lk (aw (H.map (ai.lay (lk H) ids)) ids Hb)):=by
  intro id t W hl;unfold Yc lk;dsimp only
  rw[qX _ _ _ id (by rw[S];exact I) (by rw[yaa];exact hl) (λhm=>by
   rw[List.contains_eq_any_beq]at W;simp at W;exact W id hm rfl),yak,ZLG]
 have G:Rc (aU ids H.length) (lk Hn) (lk (aw (H.map (ai.lay (lk H) ids)) ids Hb)):=by
  intro j i t e
  have X:lk (aw (H.map (ai.lay (lk H) ids)) ids Hb) i=lk Hn j:=by
   show dS ((aw (H.map (ai.lay (lk H) ids)) ids Hb)[i]?)=dS (Hn[j]?);rw[<-b2 j];unfold aU at e;split at e
   .rw[vf _ _ _ j i l (by rw[S];exact I) (λi U=>by rw[yaa];exact T i U) e]
   .rename_i hj;cases e;have:=vg (H.map (ai.lay (lk H) ids)) ids Hb j (by rw[S];exact I) (by omega);grind
  unfold Yc;rw[X]
 have e2:(aw (H.map (ai.lay (lk H) ids)) ids Hb).map (ai.er (lk (aw (H.map (ai.lay (lk H) ids)) ids Hb)))=aw (aG H) ids (Hb.map (ai.er (lk (aw (H.map (ai.lay (lk H) ids)) ids Hb)))):=by
  rw[Zsw,yaw];congr 1;refine ycd λe he=> ?_;exact ZLF F (yan.1 k3 e he)
 have f1:=ic G _ _ z;have f2:=ZFj G _ _ E;refine⟨_,_,_,_,_,h,dG F all k2,ZBL all,ids,aG Hin,aG Hn,_,az,A.er (lk Hn),l,by rw[ZV];exact I,p2,p3,m,f1,f2,e2,rfl,.inl ⟨rfl,λhh=>R ?_⟩⟩;have Q:Hn=[]:=by have:=hh.2;unfold aG at this;simpa using this
 rw[Q,hh.1];rfl
theorem ZwM{args:yL TD}{s:Fs P}{ids:yL Nat}{x:Ty.aK s.ins}(ok:s.Ok)(hp:wz s H args ids=ab x)(h:HL s all H K args ids x=ab out):
 ∃a d H' hs c,K a d H' hs c=ab out/\dV P s.g all args H a d H' hs c:=by
 unfold HL at h;obtain⟨y,I,B⟩:=yf.1 h;obtain⟨e,vs,E,l,z,m⟩:=wv B;clear B h;obtain⟨j,Hin,Y,Z,H3,R,M,Q,S,T,U,W,X⟩:=ZLH hp;obtain⟨args,R1,H4,F,G,f⟩:=ok x y I;obtain⟨r4,A,f⟩:=f e vs E l z;rw[A]at m;dsimp only at m;rw[T]at F;cases F;rw[U]at G;cases G;generalize E.2=Hn at m f;exact ZxN j M Q S (ZLc f W X) m
theorem HP{Q:yL TD->TD->yL ai->yL ar->Nat->Prop}{g:yr}{args:yL TD}{m:yO O}(y:∀{a d H' hs c},dV P g all args H a d H' hs c->Q a d H' hs c)(ho:m=ab out->∃a d H' hs c,K a d H' hs c=ab out/\Q a d H' hs c):∀{l:yL (Fs P)},dt l->sv g all H K args m l=ab out->
 ∃a d H' hs c,K a d H' hs c=ab out/\Q a d H' hs c
 |[],_,h=>ho h
 |s::r,f,h=>by
  unfold sv at h;split at h
  .rename_i A;split at h
   .rename_i q j;obtain⟨ids,B,j⟩:=yf.1 j;obtain⟨x,z,rfl⟩:=Ze j;obtain⟨a,d,H',hs,c,E,F⟩:=ZwM f.1 z h;grind
   .exact HP y ho f.2 h
  .exact HP y ho f.2 h
theorem ZI0{sp:Sp P}{g:yr}{args:yL TD}(ok:dU sp)(h:HN sp g all H K args=ab out):∃a d H' hs c,K a d H' hs c=ab out/\dV P g all args H a d H' hs c:=by
 unfold HN at h;dsimp only at h;generalize mL H 100000 (TD.looks args) []=ids at h;obtain⟨j,h⟩:=Zb h;obtain⟨z,l,h⟩:=yf.1 h;obtain⟨Hin,f,h⟩:=yf.1 h;obtain⟨r,Hn,m,y⟩:=ok.hd _ _ _ _ _ _ h;exact ZxN j f (Vj (fY f) f) (dk (fY f) _ _ l) y m
theorem ZBN{sp:Sp P}{g:yr}{args:yL TD}(ok:dU sp)(h:HO sp g all H K args=ab out):∃a d H' hs c,K a d H' hs c=ab out/\dV P g all args H a d H' hs c:=
 HP (λh=>h) (λh=>ZI0 ok h) ok.l h
theorem ZGH{c:Call}{f:yp}{g:yr}{cap az:yL TD}{a:yL TD}{d:TD}{H':yL ai}{hs:yL ar}{M:Nat}(ho:o.op=.call c)(hc:c.callee=.value f)(U:bo P ts 0 f=ab (.fn g cap))
 (hb:(iy P (fI g)&&c.args.size==c.argTypes.size)=ae) (ha:og P ts c.args.toList c.argTypes.toList=ab az) (h:dV P (fI g) all (if g < big then az++cap else cap++az) H a d H' hs M):Good P o ts all H a d H' hs M:=by
 have m:=Zs (L:=lk H) U;obtain⟨ids,Hin,Hn,Hb,A,r,y,B,Q,R,l,f1,f2,z,rfl,E⟩:=h.op
 have S:Xe P ids (TD.aE (lk H) ts) c g (TD.aE (lk H) cap)=TD.aE (lk H) ((if g < big then az++cap else cap++az).map (TD.cn (lk H) ids)):=by
  unfold Xe;split
  .rw[ww ids ha,ZFk,yat,ZI,ZI,ZI,yat]
  .rw[ww ids ha,ZFk,yat,ZI,ZI,ZI,yat]
 have T:¬(ids=[]/\Hn=[])->jD P o ts H d H' [.call r Hn ids]:=λj=>by
  refine⟨λF=> ?_,λF=> ?_,[bZ P (fI g) A Hin r Hn],⟨l,ao⟩,λF=> ?_⟩
  .unfold bj;rw[ho];dsimp only;rw[hc];dsimp only;rw[m];dsimp only[TD.er];rw[yaf,yz];split
   .rename_i W z;exfalso;simp only[List.cons.injEq,ar.call.injEq]at z;exact j ⟨z.1.2.2,z.1.2.1⟩
   .rename_i z;cases z
   .rfl
  .unfold bH;rw[ho];dsimp only;rw[hc]
  .unfold cP;rw[ho];dsimp only;rw[hc];dsimp only;rw[m];dsimp only[TD.er];rw[yaf,yz];dsimp only;rw[yW (by simp only[yi,yP]at hb ⊢;exact⟨⟨hb,y⟩,B⟩)];rw[S,R,Q,ZV,f1,f2];dsimp only;rw[z]
 rcases E with⟨rfl,j⟩|⟨rfl,G,j⟩|⟨rfl,rfl,rfl,rfl,rfl,rfl,I⟩
 .exact⟨h.same,h.len,dM ⟨rfl,T j⟩⟩
 .exact⟨h.same,h.len,.inr (.inr (.inr ⟨rfl,G,T j⟩))⟩
 .refine⟨h.same,h.len,.inl ⟨rfl,rfl,[bZ P (fI g) A [] (d.er (lk H')) []],⟨?_,ao⟩,λF=> ?_⟩⟩
  .cases Q;exact l
  .unfold bj;rw[ho];dsimp only;rw[hc];dsimp only;rw[m];dsimp only[TD.er];rw[yaf,yz];dsimp only;rw[yW hb,S, <-qZ,R,qZ,I]
theorem ZGI{c:Call}{j:yp}{f:String}{t:yc}{x:TD}{g:yr}{az:yL TD}{a:yL TD}{d:TD}{H':yL ai}{hs:yL ar}{E:Nat}(ho:o.op=.call c)(hc:c.callee=.invoke j f)(F:bo P ts 0 j=ab (.iface t x))
 (hm:oV P t f g) (hb:(iy P g&&c.args.size==c.argTypes.size)=ae) (ha:og P ts c.args.toList c.argTypes.toList=ab az) (h:dV P g all (x::az) H a d H' hs E):Good P o ts all H a d H' (.ir g::hs) 2:=by
 have y:=Zs (L:=lk H) F;obtain⟨ids,Hin,Hn,Hb,z,r,l,A,G,I,m,f1,f2,R,rfl,M⟩:=h.op
 have Q:(x.er (lk H)).cn ids::Xe P ids (TD.aE (lk H) ts) c 0 []=TD.aE (lk H) ((x::az).map (TD.cn (lk H) ids)):=by
  unfold Xe;rw[yW (by decide),ww ids ha,List.map_nil,yba,yag,TD.aE,HJ]
 refine⟨h.same,h.len,dM (⟨rfl,λB=> ?_,λB=> ?_,[oV P t f g,bZ P g z Hin r Hn],⟨hm,m,ao⟩,λB=> ?_⟩)⟩
 .unfold bj;grind
 .unfold bH;grind
 .unfold cP;rw[ho];dsimp only;rw[hc];dsimp only;rw[y];dsimp only[TD.er];rw[yaf,yaf,yz];dsimp only;rw[yW (by simp only[yi,yP]at hb ⊢;exact⟨⟨hb,l⟩,A⟩)];rw[Q,I,G,ZV,f1,f2];grind
end
end Go.Ev
end
section
namespace Go.Ev
section
variable{P:yg}{o:yj}{ts all:yL TD}{H:yL ai}{O:Type}{K:Kn O}{out:O}
def TD.oi:TD->Bool
 |.view _ _ _ _ _=>ae
 |_=>af
def TD.eZ:TD->Bool
 |.p (.sl (ab af) _ [])=>ae
 |_=>af
def TD.sx:TD->Bool
 |.aj _ _=>ae
 |_=>af
def TD.oj:TD->Bool
 |.ba _ _ _=>ae
 |_=>af
def TD.sy:TD->Bool
 |.rv _ _ _ _ _=>ae
 |_=>af
def ZLK(a:TD)(lo hi:yO Int):Bool:=
 match a with
 |.rv _ _ _ _ n=> !dL n lo hi
 |_=>af
def TD.sA:TD->Bool
 |.own _ _ _ _=>ae
 |_=>af
def TD.HQ:TD->Bool
 |.mp _=>ae
 |_=>af
def iF(l:yL Tmp):yO Tmp->Bool
 |some t=>l.contains t
 |none=>af
def iG(P:yg)(o:yj)(ts all:yL TD)(H:yL ai)(K:Kn O):yO O:=ET (lk H) P o ts λd hs=>K all d H hs 0
theorem Wx(h:iG P o ts all H K=ab out):∃a d H' hs c,K a d H' hs c=ab out/\Good P o ts all H a d H' hs c:=by
 obtain⟨d,hs,f,g⟩:=ZIx h;exact⟨_,_,_,_,_,f,rfl,rfl,.inl ⟨rfl,rfl,g⟩⟩
def wB(P:yg)(hi:HI)(o:yj)(x:yp)(asg:Bool)(ts all:yL TD)(H:yL ai)(K:Kn O):yO O:=
 match o.dst,bo P ts o.type x with
 |some t,ab d=>if hi.still.contains t&&(d.oi || d.sy) then wl t all H K d else if hi.still.contains t&&d.iE then GJ t all H K d else if asg&&(hi.cE.contains t&&d.eZ) then GO P o.type t all H K d else if asg&&(hi.own.contains t&&d.eZ) then FJ P o.type t all H K d else iG P o ts all H K
 |_,_=>iG P o ts all H K
def TD.lD(d:TD):yO Num:=
 match d.num with
 |some a=>if a.k=.i64 then ab a else ad
 |none=>ad
def sB(P:yg)(hi:HI)(aF:Sp P)(o:yj)(ts all:yL TD)(H:yL ai)(K:Kn O):yO O:=
 if rnT P hi o ts H=ae then GX P hi o ts all H K else
 match o.op with
 |.move x=>wB P hi o x af ts all H K
 |.assign x=>wB P hi o x ae ts all H K
 |.slice t x lo h ad=>if iF hi.dX o.dst then(bo P ts t x).bind λa=>(eY P ts lo).bind λl=>(eY P ts h).bind λr=>GC P t l r all H K a
  else(bo P ts t x).bind λa=>(eY P ts lo).bind λl=>(eY P ts h).bind λr=>if(iF hi.cE o.dst&&a.iE)=ae then GP P t l r all H K a else if a.iE=ae then GF P t l r all H K a else if ZLK a l r=ae then EZ P t l r all H K a else iG P o ts all H K
 |.load t x=>(bo P ts 0 x).bind λd=>if d.sx || d.oj then EY P t all H K d else if d.sj then GH P t all H K d else iG P o ts all H K
 |.lookup t x ix F=>(bo P ts t x).bind λd=>FG P t all H F K (λB=>bo P ts B ix) d
 |.makeMap t ad=>FK P t all H K
 |.makeSlice t l c=>((bo P ts 0 l).bind TD.lD).bind λn=>((bo P ts 0 c).bind TD.lD).bind λE=>if iF hi.cE o.dst then GN P t n.n E.n all H K else FL P t (iF hi.own o.dst) (iF hi.row o.dst) n.n E.n all H K
 |.mapUpdate t x k v=>(bo P ts t x).bind λd=>FM P t all H K (λB=>bo P ts B k) (λG=>bo P ts G v) d
 |.alloc t=>FQ P hi o.dst t all H K
 |.box t x=>(bo P ts t x).bind (FR hi o.dst all H K)
 |.store t x y=>(bo P ts 0 x).bind λa=>(bo P ts t y).bind λv=>if a.sj then GI P t all H K v a else FU P (ZPj hi x) t all H K v a
 |.buildSlice t len parts=>if iF hi.cE o.dst then(match (o.dst.bind λd=>hi.rew.lookup d).bind λs=>all[s]? with
  |some (.rw id)=>GM P ts t len parts.toList id all H K
  |_=>GL P ts t len parts.toList all H K) else if iF hi.own o.dst then FV P ts t len parts.toList all H K else iG P o ts all H K
 |.indexAddr t x ix=>(bo P ts t x).bind λa=>if a.iE then(bo P ts 0 ix).bind λb=>b.inner.bind λI=>(ji I).bind λq=>GD P t q.2 all H K a else iG P o ts all H K
 |.call c=>match c.callee with
  |.builtin .len=>match c.args.toList,c.argTypes.toList with
   |[x],[t]=>(bo P ts t x).bind λd=>if d.HQ then FH P t all H K d else if d.iE then GG P t all H K d else iG P o ts all H K
   |_,_=>ad
  |.builtin .max=>iG P o ts all H K
  |.builtin .min=>iG P o ts all H K
  |.builtin .append=>match c.args.toList,c.argTypes.toList with
   |[x,y],[t,u]=>(bo P ts t x).bind λa=>(bo P ts u y).bind λb=>if a.iE || (a.eZ&&iF hi.cE o.dst) then GK P ae t u all H K b a else if a.sA || a.sy || (a.eZ&&(iF hi.own o.dst || iF hi.row o.dst)) then FY P (iF hi.own o.dst) (iF hi.row o.dst) t u all H K b (if hi.eqs=ae then FZ H a else a) else iG P o ts all H K
   |_,_=>ad
  |.builtin .copy=>match c.args.toList,c.argTypes.toList with
   |[x,y],[t,u]=>(bo P ts t x).bind λa=>(bo P ts u y).bind λb=>GA P t u all H K b a
   |_,_=>ad
  |.value f=>match bo P ts 0 f with
   |some (.fn g j)=>if(iy P (fI g)&&c.args.size==c.argTypes.size)=ae then(og P ts c.args.toList c.argTypes.toList).bind λA=>HO aF (fI g) all H K (if g < big then A++j else j++A) else iG P o ts all H K
   |_=>ad
  |.invoke m z=>match bo P ts 0 m with
   |some (.iface t x)=>(sw aF.mt t z).bind λg=>if(iy P g&&c.args.size==c.argTypes.size)=ae then(og P ts c.args.toList c.argTypes.toList).bind λA=>HO aF g all H (λa d H' hs _=>K a d H' (.ir g::hs) 2) (x::A) else ad
   |_=>ad
  |_=>ad
 |_=>iG P o ts all H K
theorem mM{d:TD}{n:Num}(h:d.lD=ab n):d.num=ab n/\n.k=.i64:=by
 unfold TD.lD at h
 all_goals grind
theorem ZuV{hi:HI}{x:yp}{asg:Bool}(ho:if asg=ae then o.op=.assign x else o.op=.move x)(h:wB P hi o x asg ts all H K=ab out):∃a d H' hs c,K a d H' hs c=ab out/\Good P o ts all H a d H' hs c:=by
 unfold wB at h;split at h
 .rename_i t d g j;split at h
  .refine ZBw (x:=x) ?_ g j h
   all_goals grind
  split at h
  .refine Zzx (x:=x) ?_ g j h
   all_goals grind
  split at h
  .rename_i f;rw[yi]at f;rw[yW f.1]at ho;exact Zzz ho g j h
  .split at h
   .rename_i f;rw[yi]at f;rw[yW f.1]at ho;exact ZBq ho g j h
   .exact Wx h
 .exact Wx h
theorem HR{hi:HI}{aF:Sp P}(ok:dU aF)(h:sB P hi aF o ts all H K=ab out):∃a d H' hs c,K a d H' hs c=ab out/\Good P o ts all H a d H' hs c:=by
 unfold sB at h;split at h
 .exact ZGG h
 split at h
 .rename_i x j;exact ZuV (asg:=af) j h
 .rename_i x j;exact ZuV (asg:=ae) j h
 .rename_i t x lo Z j;split at h
  .obtain⟨a,m,h⟩:=yf.1 h;obtain⟨l,z,h⟩:=yf.1 h;obtain⟨r,B,h⟩:=yf.1 h;exact ZGE j m z B h
  .obtain⟨a,m,h⟩:=yf.1 h;obtain⟨l,z,h⟩:=yf.1 h;obtain⟨r,B,h⟩:=yf.1 h;split at h
   .exact ZwK j m z B h
   split at h
   .exact ZDM j m z B h
   split at h
   .exact ZBl j m z B h
   .exact Wx h
 .rename_i t x j;obtain⟨d,m,h⟩:=yf.1 h;split at h
  .exact ZDB j m h
  split at h
  .exact ZBx j m h
  .exact Wx h
 .rename_i t x ix okk j;obtain⟨d,m,h⟩:=yf.1 h;exact Zzg j m h
 .rename_i t j;exact ZwI j h
 .rename_i t l c j;obtain⟨n,m,h⟩:=yf.1 h;obtain⟨n',z,h⟩:=yf.1 h;obtain⟨d1,T,G⟩:=yf.1 m;obtain⟨d2,U,I⟩:=yf.1 z;split at h
  .exact ZBA j (by rw[T];exact(mM G).1) (by rw[U];exact(mM I).1) (mM G).2 (mM I).2 h
  exact Zth j (by rw[T];exact(mM G).1) (by rw[U];exact(mM I).1) (mM G).2 (mM I).2 h
 .rename_i t x k v j;obtain⟨d,m,h⟩:=yf.1 h;exact Zzk j m h
 .rename_i t j;exact ZBs j h
 .rename_i t x j;obtain⟨d,m,h⟩:=yf.1 h;exact ZGC j m h
 .rename_i t x y j;obtain⟨a,m,h⟩:=yf.1 h;obtain⟨v,z,h⟩:=yf.1 h;split at h
  .exact Zzv j m z h
  .exact ZBt j m z h
 .rename_i t len parts j;split at h
  .split at h
   .exact ZBz j h
   .exact ZDP j h
  split at h
  .exact Zzo j h
  .exact Wx h
 .rename_i t x ix j;obtain⟨a,m,h⟩:=yf.1 h;split at h
  .obtain⟨b,z,h⟩:=yf.1 h;obtain⟨ip,B,h⟩:=yf.1 h;obtain⟨q,h4,h⟩:=yf.1 h;rw[XC B]at z;exact Zzt j m z h4 h
  .exact Wx h
 .rename_i c j;split at h
  .rename_i A;split at h
   .rename_i x t E F;obtain⟨d,m,h⟩:=yf.1 h;split at h
    .exact Zzi j A E F m h
    split at h
    .exact ZDN j A E F m h
    .exact Wx h
   .cases h
  .exact Wx h
  .exact Wx h
  .rename_i A;split at h
   .rename_i x y t u E F;obtain⟨a,m,h⟩:=yf.1 h;obtain⟨b,z,h⟩:=yf.1 h;split at h
    .exact ZwJ j A E F (Zs m) z h
    split at h
    .refine Zzq j A E F ?_ z h;split
     .rw[ZGD];exact Zs m
     .exact Zs m
    .exact Wx h
   .cases h
  .rename_i A;split at h
   .rename_i x y t u E F;obtain⟨a,m,h⟩:=yf.1 h;obtain⟨b,z,h⟩:=yf.1 h;exact ZDK j A E F m z h
   .cases h
  .rename_i f A;split at h
   .rename_i g cap M;split at h
    .rename_i Q;obtain⟨az,m,h⟩:=yf.1 h;obtain⟨a,d,H',hs,W,R,S⟩:=ZBN ok h;exact⟨a,d,H',hs,W,R,ZGH j A M Q m S⟩
    .exact Wx h
   .cases h
  .rename_i X Y A;split at h
   .rename_i t x M;obtain⟨g,hg,h⟩:=yf.1 h;obtain⟨Q,h⟩:=Zb h;obtain⟨az,m,h⟩:=yf.1 h;obtain⟨a,d,H',hs,W,R,S⟩:=ZBN ok h;exact⟨a,d,H',_,_,R,ZGI j A M (HM ok.mt hg) Q m S⟩
   .cases h
  .cases h
 .exact Wx h
def HT(ops:Array yj)(j:Nat):yO Tmp:=(ops[j]?).bind (·.dst)
def kC(b:Bool):TD:=.p (.v .bool b)
def ZI1:TD->Bool
 |.bm []=>ae
 |_=>af
def gT(P:yg)(hi:HI)(aF:Sp P)(ops:Array yj)(o:yj)(ts all:yL TD)(H:yL ai)(K:Kn O):yO O:=
 match o.guard with
 |none=>sB P hi aF o ts all H K
 |some (j,f)=>(HT ops j).bind λt=>match (ts.getD t .ak).boolT with
  |some b=>
   if b=ae then
    if ae=f then sB P hi aF o (ts.set t (kC ae)) (all.set t (kC ae)) H λa d H' hs c=>K a d H' (.b ae::hs) c
    else K (all.set t (kC ae)) (.bm []) H [.b ae] 0
   else
    if af=f then sB P hi aF o (ts.set t (kC af)) (all.set t (kC af)) H λa d H' hs c=>K a d H' (.b af::hs) c
    else K (all.set t (kC af)) (.bm []) H [.b af] 0
  |none=>if ZI1 (ts.getD t .ak) then K all (.bm []) H [.raw] 0 else ad
structure sC(P:yg)(ops:Array yj)(o:yj)(ts all:List TD)(H:List ai)(all':List TD)(d:TD)(H':List ai)(hs:List ar)(bQ:Nat):Prop where
 same:TD.aE (lk H') all'=TD.aE (lk H) all
 len:all'.length=all.length
 op:∃C,aZ C/\∀yK,cY P ops o (TD.aE (lk H) ts) (aG H) (hs++yK)=ab (C,d.er (lk H'),aG H',yK)
 sam:bQ=3->aG H'=aG H
 bQ:∀yK,bL P o (TD.aE (lk H) ts) (aG H) (hs++yK)<=bQ
theorem HU{d:TD}{a:yL TD}{H':yL ai}{hs:yL ar}{c:Nat}(h:Good P o ts all H a d H' hs c):∃C,aZ C/\(∀yK,cw P o (TD.aE (lk H) ts) (aG H) (hs++yK)=ab (C,d.er (lk H'),aG H',yK))/\
 ∀yK,(if(bj P o (TD.aE (lk H) ts) (hs++yK)).isSome then 0 else if(bH P o (TD.aE (lk H) ts) (aG H) (hs++yK)).isSome then 1 else 2)<=c:=by
 rcases h.op with⟨rfl,rfl,C,l,g⟩|⟨rfl,rfl,j,C,l,g⟩|⟨rfl,j,f,C,l,g⟩|⟨rfl,_,j,f,C,l,g⟩
 .exact⟨C,l,λyK=>by unfold cw;rw[g yK],λyK=>by rw[g yK];simp⟩
 .exact⟨C,l,λyK=>by unfold cw;rw[j yK];dsimp only;rw[g yK],λyK=>by rw[j yK,g yK];simp⟩
 .exact⟨C,l,λyK=>by unfold cw;rw[j yK];dsimp only;rw[f yK];exact g yK,λyK=>by rw[j yK,f yK];simp⟩
 .exact⟨C,l,λyK=>by unfold cw;rw[j yK];dsimp only;rw[f yK];exact g yK,λyK=>by rw[j yK,f yK];simp⟩
theorem HV{d:TD}{a:yL TD}{H':yL ai}{hs:yL ar}{c:Nat}(h:Good P o ts all H a d H' hs c)(hc:c=3):aG H'=aG H:=by
 subst hc;rcases h.op with⟨e,_⟩|⟨e,_⟩|⟨e,_⟩|⟨_,e,_⟩
 all_goals grind
theorem ZBO{l:yL TD}{t:Nat}{b:Bool}(h:(l.getD t .ak).boolT=ab b):l.getD t .ak=kC b:=by
 unfold TD.boolT at h;split at h
 .rename_i x f;unfold TP.ib at h;split at h
  .cases h;exact f
  .cases h
 .cases h
theorem bA{l:yL TD}{t:Nat}{d:TD}(h:l.getD t .ak=d):(l.set t d)=l:=by
 apply List.ext_getElem?
 all_goals grind
theorem ZFm{hi:HI}{aF:Sp P}{ops:Array yj}(ok:dU aF)(W:∀j z t,o.guard=ab (j,z)->HT ops j=ab t->ts.getD t .ak=all.getD t .ak)(h:gT P hi aF ops o ts all H K=ab out):
 ∃a d H' hs c,K a d H' hs c=ab out/\sC P ops o ts all H a d H' hs c:=by
 unfold gT at h;split at h
 .rename_i g;obtain⟨a,d,H',hs,c,B,l⟩:=HR ok h;obtain⟨C,G,I,R⟩:=HU l;refine⟨a,d,H',hs,c,B,l.same,l.len,⟨C++[],Zm.2 ⟨G,ao⟩,λm=> ?_⟩,HV l,λm=> ?_⟩
  .unfold cY;rw[g];dsimp only;rw[I m];rfl
  .unfold bL;grind
 .rename_i j z g;obtain⟨t,S,y⟩:=yf.1 h;clear h;have M:=W j z t g S
  have f:((ops[j]?).bind (·.dst)).map (λt=>(TD.aE (lk H) ts).getD t .ak)=ab ((ts.getD t .ak).er (lk H)):=by
   rw[show(ops[j]?).bind (·.dst)=ab t from S,yae,vR]
  split at y
  .rename_i b T;have Q:=ZBO T;have U:all.getD t .ak=kC b:=by rw[<-M];exact Q
   have F:(ts.getD t .ak).er (lk H)=.p (.bool b):=pC T;split at y
   .rename_i A;subst A;rw[bA Q,bA U]at y;split at y
    .rename_i E;subst E;obtain⟨a,d,H',hs,c,B,l⟩:=HR ok y;obtain⟨C,G,I,R⟩:=HU l;refine⟨a,d,H',_,c,B,l.same,l.len,⟨(ae=ae)::C++[],Zm.2 ⟨⟨rfl,G⟩,ao⟩,λm=> ?_⟩,HV l,λm=> ?_⟩
     .unfold cY;rw[g];dsimp only;rw[f,F];simp only[yaf,if_true,I m];rfl
     .unfold bL;grind
    .rename_i E;refine⟨_,_,_,_,_,y,rfl,rfl,⟨[ae=ae],⟨rfl,ao⟩,λm=> ?_⟩,λ_=>rfl,λm=> ?_⟩
     .unfold cY;rw[g];dsimp only;rw[f,F];simp only[yaf,yz,yX E];rfl
     .unfold bL;grind
   .rename_i A;have A:b=af:=by simpa using A
    subst A;rw[bA Q,bA U]at y;split at y
    .rename_i E;subst E;obtain⟨a,d,H',hs,c,B,l⟩:=HR ok y;obtain⟨C,G,I,R⟩:=HU l;refine⟨a,d,H',_,c,B,l.same,l.len,⟨(af=af)::C++[],Zm.2 ⟨⟨rfl,G⟩,ao⟩,λm=> ?_⟩,HV l,λm=> ?_⟩
     .unfold cY;rw[g];dsimp only;rw[f,F];simp only[yaf,if_true,I m];rfl
     .unfold bL;grind
    .rename_i E;refine⟨_,_,_,_,_,y,rfl,rfl,⟨[af=af],⟨rfl,ao⟩,λm=> ?_⟩,λ_=>rfl,λm=> ?_⟩
     .unfold cY;rw[g];dsimp only;rw[f,F];simp only[yaf,yz,yX E];rfl
     .unfold bL;grind
  .obtain⟨B,y⟩:=Zb y
   have F:(ts.getD t .ak).er (lk H)=.bm []:=by
    unfold ZI1 at B;split at B
    .rename_i X;rw[X];rfl
    .cases B
   refine⟨_,_,_,_,_,y,rfl,rfl,⟨[],zP,λm=> ?_⟩,λ_=>rfl,λm=> ?_⟩
   .unfold cY;rw[g];dsimp only;rw[f,F];rfl
   .unfold bL;grind
def pP(ts:yL TD)(dst:yO Tmp)(d:TD):yL TD:=
 match dst with
 |some i=>ts.set i d
 |none=>ts
theorem ZBP{L:Lk}(dst:yO Tmp)(d:TD):TD.aE L (pP ts dst d)=fB (TD.aE L ts) dst (d.er L):=by
 cases dst with
 |none=>rfl
 |some i=>simp only[pP,fB,ZI,ybj]
theorem ZxP(dst:yO Tmp)(d:TD):(pP ts dst d).length=ts.length:=by
 cases dst <;> simp[pP]
def sD(P:yg)(hi:HI)(aF:Sp P)(ops:Array yj):yL yj->yL TD->yL ai->(yL TD->yL ai->yL ar->yO O)->yO O
 |[],all,H,K=>K all H []
 |o::r,all,H,K=>gT P hi aF ops o all all H λa d H' hs _=>sD P hi aF ops r (pP a o.dst d) H' λf g hs'=>K f g (hs++hs')
theorem ZxQ{hi:HI}{aF:Sp P}{ops:Array yj}(ok:dU aF):∀(l:yL yj)(all:yL TD)(H:yL ai)(K:yL TD->yL ai->yL ar->yO O),sD P hi aF ops l all H K=ab out->
 ∃a h hs C,K a h hs=ab out/\a.length=all.length/\aZ C/\∀yK,cu P ops l (TD.aE (lk H) all) (aG H) (hs++yK)=ab (C,TD.aE (lk h) a,aG h,yK)
 |[],all,H,K,h=>⟨all,H,[],[],h,rfl,zP,λ_=>rfl⟩
 |o::r,all,H,K,h=>by
  unfold sD at h;obtain⟨a,d,H',hs,c,g,f⟩:=ZFm ok (λ_ _ _ _ _=>rfl) h;obtain⟨j,m,hs',C',y,z,A,B⟩:=ZxQ ok r _ _ _ g;obtain⟨C,E,F⟩:=f.op;refine⟨j,m,_,C++C',y,by rw[z,ZxP,f.len],Zm.2 ⟨E,A⟩,λyK=> ?_⟩;unfold cu;rw[yab,F (hs'++yK)];dsimp only;rw[<-f.same, <-ZBP,B yK]
end
end Go.Ev
end
