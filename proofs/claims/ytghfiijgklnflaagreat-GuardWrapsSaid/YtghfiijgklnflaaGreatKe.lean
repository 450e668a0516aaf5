/- Parts of the proof, in one file. -/
import Derived.Test.YtghfiijgklnflaaGreatKd
open Option renaming some → ab, none → ad
open Bool renaming true → ae, false → af
open Decidable renaming decide → ag
open Array renaming getD_eq_getD_getElem? → ydi
open Bool renaming and_eq_true → yi, false_eq_true → ybw, or_eq_true → yco
open Go renaming TypeId → yb, Program → yg, Operand → yo, FuncId → yr
open List renaming length_append → yn, getElem?_eq_some_iff → yp, range → yu, nil_append → yw, length_map → yx, cons_append → yaa, replicate → yab, append_assoc → yac, getElem?_eq_getElem → yae, map_cons → yaf, take_length → yag, getElem?_map → yah, length_cons → yam, map_append → yaq, getElem?_eq_none → yat, length_set → yax, append_nil → ybb, map_map → ybc, ext_getElem? → ybg, map_set → ybl, all_eq_true → ybn, getElem?_cons_zero → ybt, map_take → ycd, length_nil → yce, getElem?_take → ycg, map_congr_left → ycj, length_replicate → ycp, getElem?_set_self → ycw, getD_eq_getElem?_getD → ydg
open Nat renaming le_refl → ym, beq → yap, lt_or_ge → yck, eq_of_beq_eq_true → ydb
open Option renaming bind_some → ya, bind_eq_some_iff → yf, map_eq_some_iff → yq, map_some → yz
open Option.some renaming injEq → yj, inj → ybp
open Prod.mk renaming injEq → yl
set_option linter.unusedVariables false
set_option linter.unusedSimpArgs false
section
namespace Go.Ev
section
variable{P:yg}{o:Oper}{ts all:yL TD}{H:yL ah}{O:Type}{K:Kn O}{out:O}
def TD.gy:TD->Bool
 |.rw _=>ae
 |_=>af
def TD.qQ:TD->Bool
 |.rp _ _=>ae
 |_=>af
theorem UH{id:Nat}{T:Ty}{v:yL Unit}{st c:Bool}{e g:yb}{l l':yL T.aE}(hd:H[id]? =ab (.aF T v st e l))(hl:l'.length=l.length):lk (H.set id (.aF T v c g l'))=lk H:=by
 funext j;unfold lk;by_cases f:id=j
 .subst f;rw[ai hd,hd];show ab _=ab _;rw[hl]
 .rw[al f]
def DI(P:yg)(t:yb)(i:Int)(all:yL TD)(H:yL ah)(K:Kn O):TD->yO O
 |.rw id=>match P.underlying t,H[id]? with
  |some (.slice e),ab (.aF T v st c l)=>if okB P e T.size=ae then if bK i l.length=ae then K all (.rp id [.ix i.toNat T.size]) H [] 0 else ad else ad
  |_,_=>ad
 |_=>ad
theorem ZxK{t:yb}{x ix:yo}{f:TD}{q:IntKind×Int}{g:TP}(ho:o.op=.indexAddr t x ix)(hx:aS P ts t x=ab f)(hi:aS P ts 0 ix=ab (.p g))(hq:iv g=ab q)(h:DI P t q.2 all H K f=ab out):
 ∃a d H' hs c,K a d H' hs c=ab out/\Good P o ts all H a d H' hs c:=by
 have y:=Zk (L:=lk H) hx;have j:=Zk (L:=lk H) hi;rw[TD.er,(om hq).1]at j;unfold DI at h;split at h
 .rename_i id;split at h
  .rename_i e T v st E l z m;obtain⟨A,h⟩:=Za h;obtain⟨s,h⟩:=Za h;refine⟨_,_,_,_,_,h,rfl,rfl,.inl ⟨rfl,rfl,[0<=q.2,q.2 < (l.length:Int)],⟨(QI s).1,(QI s).2,aw⟩,λF=> ?_⟩⟩;simp only[yw];unfold aU;rw[ho];dsimp only;rw[z,y,j,(QJ m).1,(QJ m).2];dsimp only;rw[yW (by simpa[okB] using A)];simp[WW,bN.o,bN.i]
  .cases h
 .cases h
def DJ(P:yg)(t:yb)(lo hi:yO Int)(all:yL TD)(H:yL ah)(K:Kn O):TD->yO O
 |.rw id=>match P.underlying t,H[id]? with
  |some (.slice e),ab (.aF T v st c l)=>if okB P e T.size=ae then if VQ l.length lo hi=ae then
    K all (.rv id v.length T.size (0+(lo.getD 0).toNat) ((hi.getD l.length).toNat - (lo.getD 0).toNat)) H [.bare] 0 else ad else ad
  |_,_=>ad
 |_=>ad
theorem ZCr{t:yb}{x:yo}{lo hi:yO yo}{l f:yO Int}{y:TD}(ho:o.op=.slice t x lo hi ad)(hx:aS P ts t x=ab y)(hl:ez P ts lo=ab l)(z:ez P ts hi=ab f)(h:DJ P t l f all H K y=ab out):
 ∃a d H' hs c,K a d H' hs c=ab out/\Good P o ts all H a d H' hs c:=by
 have A:=Zk (L:=lk H) hx;have g:=hJ (L:=lk H) hl;have j:=hJ (L:=lk H) z;unfold DJ at h;split at h
 .rename_i id;split at h
  .rename_i e T v st Q E F G;obtain⟨I,h⟩:=Za h;obtain⟨M,h⟩:=Za h;obtain⟨m,s⟩:=SY I;refine⟨_,_,_,_,_,h,rfl,rfl,.inl ⟨rfl,rfl,Xf E.length l f,ll M,λS=> ?_⟩⟩;unfold aU;rw[ho];dsimp only;rw[F,A,(QJ G).1,g,j];dsimp only;rw[yaa,yw];dsimp only;rw[yW (by simp[m,s])];rfl
  .cases h
 .cases h
def DK(P:yg)(t:yb)(all:yL TD)(H:yL ah)(K:Kn O):TD->yO O
 |.rw id=>match P.underlying t,H[id]? with
  |some (.slice _),ab (.aF T v st c l)=>K all (.p (.v (.int .i64) (l.length:Int))) H [] 0
  |_,_=>ad
 |_=>ad
theorem ZCs{t:yb}{x:yo}{c:Call}{f:TD}(ho:o.op=.call c)(hc:c.callee=.builtin .len)(ha:c.args.toList=[x])(ht:c.argTypes.toList=[t])(hx:aS P ts t x=ab f)(h:DK P t all H K f=ab out):
 ∃a d H' hs c,K a d H' hs c=ab out/\Good P o ts all H a d H' hs c:=by
 have g:=Zk (L:=lk H) hx;unfold DK at h;split at h
 .rename_i id;split at h
  .rename_i e T v st s l j m;refine⟨_,_,_,_,_,h,rfl,rfl,.inl ⟨rfl,rfl,[],zZ,λy=> ?_⟩⟩;simp only[yw];unfold aU;rw[ho];dsimp only;rw[hc];dsimp only;rw[ha,ht];dsimp only;rw[j,g,(QJ m).1];rfl
  .cases h
 .cases h
def DL(P:yg)(t:yb)(all:yL TD)(H:yL ah)(K:Kn O):TD->yO O
 |.rp id c=>match H[id]? with
  |some (.aF T v st e l)=>ei (lk H) c (.p (.v (.arr l.length T) l)) λsub hs _=>if gv P t (sub.er (lk H))=ae then K all sub H hs 1 else ad
  |_=>ad
 |_=>ad
theorem Zz9{t:yb}{x:yo}{j:TD}(ho:o.op=.load t x)(hx:aS P ts 0 x=ab j)(h:DL P t all H K j=ab out):∃a d H' hs c,K a d H' hs c=ab out/\Good P o ts all H a d H' hs c:=by
 have m:=Zk (L:=lk H) hx;unfold DL at h;split at h
 .rename_i id f;split at h
  .rename_i T v st e l s;obtain⟨sub,hs,y,C,z,A,E,_⟩:=X2 _ _ _ _ h;obtain⟨F,G⟩:=Za z;refine⟨_,_,_,_,_,G,rfl,rfl,.inr (.inl ⟨rfl,rfl,λg=> ?_,C++[dF f=WW f],Zj.2 ⟨A,(Ws _).symm,aw⟩,λg=> ?_⟩)⟩
   .unfold aU;rw[ho];dsimp only;rw[m];rfl
   .unfold bm;rw[ho];dsimp only;rw[m,(QJ s).2];dsimp only;rw[ZD s];dsimp only[ah.er];have I:Ym (.p (.arr l.length T.size (l.map T.enc))) (f.map bN.i) (hs++g)=ab (C,dF f,sub.er (lk H),g):=E g;rw[I];dsimp only;rw[yW (by rw[yi];exact⟨F,by simp⟩)]
  .cases h
 .cases h
def DM(P:yg)(t:yb)(all:yL TD)(H:yL ah)(K:Kn O)(v:TD):TD->yO O
 |.rp id (.ix i s::r)=>match H[id]? with
  |some (.aF T u ae e l)=>if s=T.size then(l[i]?).bind λy=>ei (lk H) r (.p (.v T y)) λsub hs c=>(c (v.cB (lk H))).bind λd1=>d1.inner.bind λz=>(TP.to gZ z T).bind λf=>
   if lA P t ((v.cB (lk H)).er (lk H)) (sub.er (lk H))=ae then K all .an (H.set id (.aF T u ae e (l.set i f))) (.el (T.enc y)::hs) 2 else ad else ad
  |_=>ad
 |_=>ad
theorem ZxM{t:yb}{x y:yo}{I j:TD}(ho:o.op=.store t x y)(hx:aS P ts 0 x=ab I)(Q:aS P ts t y=ab j)(h:DM P t all H K j I=ab out):
 ∃a d H' hs c,K a d H' hs c=ab out/\Good P o ts all H a d H' hs c:=by
 have S:=Zk (L:=lk H) hx;have U:=Zk (L:=lk H) Q;unfold DM at h;split at h
 .rename_i id i s r;split at h
  .rename_i T u e l A;split at h
   .rename_i E;obtain⟨y0,W,h⟩:=yf.1 h;obtain⟨sub,hs,X,C,g,Y,Z,k4⟩:=X2 r (.p (.v T y0)) _ out h;obtain⟨d1,p1,g⟩:=yf.1 g;obtain⟨z,p2,g⟩:=yf.1 g;obtain⟨F,p3,g⟩:=yf.1 g;obtain⟨h4,g⟩:=Za g;have m:=h4;unfold lA at m;have M:lk (H.set id (.aF T u ae e (l.set i F)))=lk H:=UH A (by rw[yax])
    have hg:∀f,Ym (.p (.arr l.length T.size (l.map T.enc))) (i::r.map bN.i) (.el (T.enc y0)::(hs++f))=ab (((l.map T.enc)[i]? =ab (T.enc y0))::C,i*T.size+dF r,sub.er (lk H),f):=by
     intro f;unfold Ym;dsimp only;have:=Z f;rw[TD.er,TP.pe]at this;rw[this,yz]
    have hp:∀f,WU ((j.cB (lk H)).er (lk H)) (.p (.arr l.length T.size (l.map T.enc))) (i::r.map bN.i) (.el (T.enc y0)::(hs++f))=ab (.p (.arr l.length T.size ((l.set i F).map T.enc))):=by
     intro f;have:=k4 _ d1 p1 f;rw[TD.er,TP.pe]at this;unfold WU;dsimp only;rw[this,Xo p2,TD.er];dsimp only;rw[jB z T F p3, <-ybl]
    refine⟨_,_,_,_,_,g,by rw[M],rfl,cJ (⟨rfl,λf=> ?_,λf=> ?_,(((l.map T.enc)[i]? =ab (T.enc y0))::C)++[i*T.size+dF r=WW (.ix i s::r)],
     Zj.2 ⟨⟨qr W,Y⟩,by rw[Ws,dF,bN.o,E],aw⟩,λf=> ?_⟩)⟩
    .unfold aU;rw[ho]
    .unfold bm;rw[ho]
    .unfold bZ;rw[ho];dsimp only;rw[S,U,(QJ A).2];dsimp only;rw[ZD A];dsimp only[ah.er];rw[yaf,show(bN.ix i s).i=i from rfl,yaa,hg f]
     dsimp only;have G:io (i::r.map bN.i) (.p (.arr l.length T.size (l.map T.enc))) (j.er (lk H))=ab ((j.cB (lk H)).er (lk H)):=CV (yM:=.ix i s::r) (d:=.p (.v (.arr l.length T) l)) (v:=j) (new:=j.cB (lk H)) (L:=lk H) rfl;rw[G];dsimp only;rw[hp f];dsimp only;rw[yW (by simp only[yi]at m ⊢;exact⟨⟨m,by simp⟩,by simp[aJ]⟩),YA M];simp only[ah.er,yax];rfl
   .cases h
  .cases h
 .cases h
def DN(dst:Tmp)(all:yL TD)(H:yL ah)(K:Kn O):TD->yO O
 |.rw id=>match H[id]? with
  |some (.aF T v st e l)=>K all (.p (.sl ad T l)) (H.set id (.aF T v af e l)) [.still dst] 2
  |_=>ad
 |_=>ad
theorem ZxO{x:yo}{dst:Tmp}{m:TD}(ho:o.op=.assign x\/o.op=.move x)(hd:o.dst=ab dst)(hx:aS P ts o.type x=ab m)(h:DN dst all H K m=ab out):
 ∃a d H' hs c,K a d H' hs c=ab out/\Good P o ts all H a d H' hs c:=by
 have s:=Zk (L:=lk H) hx;unfold DN at h;split at h
 .rename_i id;split at h
  .rename_i T v st e l j;have t:lk (H.set id (.aF T v af e l))=lk H:=UH j rfl
   have y:∀g,iJ ((TD.rw id).er (lk H)) (aA H) g=ab ([0+l.length<=l.length],.p (.sl ad T.size (l.map T.enc)),aA (H.set id (.aF T v af e l)),g):=by
    intro g;unfold iJ;rw[(QJ j).1];dsimp only;rw[ZD j,ah.er];dsimp only;rw[yW (by simp),YA t,ah.er,List.drop_zero, <-yx (f:=T.enc),yag]
   refine⟨_,_,_,_,_,h,by rw[t],rfl,cJ (⟨rfl,λg=> ?_,λg=> ?_,[0+l.length<=l.length],⟨by omega,aw⟩,λg=> ?_⟩)⟩
   .rcases ho with ho|ho <;> (unfold aU;rw[ho];rfl)
   .rcases ho with ho|ho <;> (unfold bm;rw[ho])
   .rcases ho with ho|ho
    .unfold bZ;rw[ho];dsimp only;rw[yaa];dsimp only;rw[yW hd,s];exact y g
    .unfold bZ;rw[ho];dsimp only;rw[yaa];dsimp only;rw[yW hd,s];exact y g
  .cases h
 .cases h
theorem DO{L M:Lk}{n:Nat}(h:∀id t,id≠n->Yb L id t ad=Yb M id t ad)(x:ah)(c:x.free n=ae):x.er L=x.er M:=by
 cases x with
 |var d st=>rw[ah.er,ah.er,iO h d c]
 |row v s st e d=>rw[ah.er,ah.er,iO h d c]
 |bz t j v st e g d f=>rw[ah.er,ah.er,iO h d c]
 |_=>rfl
theorem qR{T:Ty}{v:yL Unit}{st:Bool}{e:yb}{l:yL T.aE}(h:H.all (ah.free H.length)=ae):aA (H++[.aF T v st e l])=aA H++[.row v.length T.size st e (.p (.arr l.length T.size (l.map T.enc)))]:=by
 unfold aA;rw[yaq];congr 1;refine ycj λx c=> ?_;have f:=ybn.1 h x c;exact(DO (λid t g=>kz id t g) x f).symm
theorem qS{T:Ty}{v:yL Unit}{st:Bool}{e:yb}{l:yL T.aE}:(TD.rw H.length).er (lk (H++[.aF T v st e l]))=.rv H.length v.length T.size 0 l.length:=
 (QJ (H:=H++[.aF T v st e l]) (List.getElem?_concat_length ..)).1
def DP(P:yg)(row:Bool)(t u:yb)(all:yL TD)(H:yL ah)(K:Kn O)(y:TD):TD->yO O
 |.rw id=>match P.underlying t,H[id]? with
  |some (.slice e),ab (.aF T v st f l)=>(P.info? e).bind λi=>qO P T u H (λc hs=>
   if(bP i&&ag (i.size=T.size)&&ag (P.cellsOf e=T.size)&&ag (f=e)&&ag (T.size≠0))=ae then if bU l.length c.length i.bytes=ae then
    K (TD.bT (lk H) id all) (.rw id) ((H.map (ah.stale (lk H) id)).set id (.aF T (()::v) st e (l++c))) (.raw::hs) 2 else ad else ad) y
  |_,_=>ad
 |.p (.sl (ab af) _ [])=>match P.underlying t with
  |some (.slice e)=>(P.info? e).bind λi=>(eZ P fJ e).bind λT=>(kv (lk H) P T u y).bind λc=>
   if(bP i&&i.size !=0&&ag (i.size=T.size)&&ag (P.cellsOf e=T.size)&&TD.frees H.length all&&H.all (ah.free H.length))=ae then if kq c.length i.bytes=ae then
    K all (.rw H.length) (H++[.aF T [] ae e c]) [.arr] 2 else ad else ad
  |_=>ad
 |_=>ad
theorem ZuF{row:Bool}{t u:yb}{x y:yo}{c:Call}{Y Z:TD}(ho:o.op=.call c)(hc:c.callee=.builtin .append)(ha:c.args.toList=[x,y])(ht:c.argTypes.toList=[t,u])
 (hv:Zo P (TD.au (lk H) ts) t x=Y.er (lk H)) (hy:aS P ts u y=ab Z) (h:DP P row t u all H K Z Y=ab out):∃a d H' hs c,K a d H' hs c=ab out/\Good P o ts all H a d H' hs c:=by
 have hw:=Zk (L:=lk H) hy;unfold DP at h;split at h
 .rename_i id;split at h
  .rename_i e T v st j l E F;obtain⟨i,G,h⟩:=yf.1 h;obtain⟨g,hs,C,k1,k2,k3⟩:=DA h;obtain⟨s,k6⟩:=Za k1;obtain⟨z,kk⟩:=Za k6;clear k1 k6;simp only[yi,yP]at s;obtain⟨⟨⟨⟨I,M⟩,g3⟩,Q⟩,S⟩:=s;subst Q;simp only[bU,yi,yP]at z;have U:id < H.length:=(yp.1 F).1
   refine⟨_,_,_,_,_,kk,bE (λW t X=>Ve (lk H) W t X) all,mW all,cJ (⟨rfl,λm=> ?_,λm=> ?_,
    C++[l.length<=l.length,(l.length+(g.map T.enc).length)*i.bytes<=Zn,l.length+(g.map T.enc).length<=maxLen,st=ae\/l.length=l.length],Zj.2 ⟨k2,ym _,by simpa using z.1,by simpa using z.2,.inr rfl,aw⟩,λm=> ?_⟩)⟩
   .unfold aU;rw[ho];dsimp only;rw[hc];dsimp only;rw[ha,ht,yaa]
   .unfold bm;rw[ho];dsimp only;rw[hc]
   .unfold bZ;rw[ho];dsimp only;rw[hc];dsimp only;rw[ha,ht];dsimp only;rw[E,hv,hw,(QJ F).1];rw[yaa];dsimp only;rw[G,k3 m,ZD F];dsimp only[ah.er]
    have A:((H.map (ah.stale (lk H) id)).set id (.aF T (()::v) st j (l++g)))[id]? =ab (.aF T (()::v) st j (l++g)):=by
     rw[ycw (by rw[yx];exact U)]
    have hH:aA ((H.map (ah.stale (lk H) id)).set id (.aF T (()::v) st j (l++g)))=(aA H).set id (.row (v.length+1) T.size st j (.p (.arr (l.length+g.length) T.size (l.map T.enc++g.map T.enc)))):=by
     unfold aA;rw[ybl,ybc]
     have:(ah.aF T (()::v) st j (l++g)).er (lk ((H.map (ah.stale (lk H) id)).set id (.aF T (()::v) st j (l++g))))=.row (v.length+1) T.size st j (.p (.arr (l.length+g.length) T.size (l.map T.enc++g.map T.enc))):=by
      simp only[ah.er,yam,yn,yaq]
     rw[this];congr 1;refine ycj λx hx=> ?_;exact ot (λid t X=>Ve (lk H) id t X) x
    rw[yW (by simp[I,M,S]),hH,(QJ A).1];simp only[yx,yam,yn];rw[show(l.map T.enc).take l.length=l.map T.enc by rw[<-yx (f:=T.enc),yag]]
  .cases h
 .rename_i T0;split at h
  .rename_i e E;obtain⟨i,G,h⟩:=yf.1 h;obtain⟨T,h2,h⟩:=yf.1 h;obtain⟨g,h3,h⟩:=yf.1 h;obtain⟨s,h⟩:=Za h;obtain⟨z,h⟩:=Za h;simp only[yi,yP]at s;obtain⟨⟨⟨⟨⟨I,M⟩,g3⟩,Q⟩,S⟩,g6⟩:=s;obtain⟨g7,g8⟩:=jC z;refine⟨_,_,_,_,_,h,mT S,rfl,cJ (⟨rfl,λm=> ?_,λm=> ?_,[(g.map T.enc).length*i.bytes<=Zn,(g.map T.enc).length<=maxLen],⟨by rw[yx];exact g7,by rw[yx];exact g8,aw⟩,λm=> ?_⟩)⟩
   .unfold aU;rw[ho];dsimp only;rw[hc];dsimp only;rw[ha,ht];rfl
   .unfold bm;rw[ho];dsimp only;rw[hc]
   .unfold bZ;rw[ho];dsimp only;rw[hc];dsimp only;rw[ha,ht];dsimp only;rw[E,hv,hw,show(TD.p (TP.sl (ab af) T0 [])).er (lk H)=Dv.p (.sl (ab af) T0.size []) from rfl]
    dsimp only;rw[G,Q,mO h3,yaa,yw];dsimp only;rw[yW (by simp only[yi];exact⟨I,M⟩),qR g6,ZE,qS,g3];simp only[yx,yce]
  .cases h
 .cases h
def DQ(P:yg)(ts:yL TD)(t:yb)(len:Nat)(parts:yL (Nat×yo))(all:yL TD)(H:yL ah)(K:Kn O):yO O:=
 mN (lk H) P ts t len parts λT l e=>if(ag (l.length=len)&&TD.frees H.length all&&H.all (ah.free H.length))=ae then K all (.rw H.length) (H++[.aF T [] ae e l]) [.arr] 2 else ad
theorem ZCu{t:yb}{len:Nat}{parts:Array (Nat×yo)}(ho:o.op=.buildSlice t len parts)(h:DQ P ts t len parts.toList all H K=ab out):
 ∃a d H' hs c,K a d H' hs c=ab out/\Good P o ts all H a d H' hs c:=by
 unfold DQ at h;obtain⟨e,T,l,i,F,g,m,s,x,y,hs,z⟩:=qA h;obtain⟨f,g⟩:=Za g;simp only[yi,yP]at f;obtain⟨⟨f,A⟩,E⟩:=f;refine⟨_,_,_,_,_,g,mT A,rfl,cJ (⟨rfl,λj=> ?_,λj=> ?_,[],zZ,λj=> ?_⟩)⟩
 .unfold aU;rw[ho];rfl
 .unfold bm;rw[ho]
 .unfold bZ;rw[ho];dsimp only;rw[yaa,yw];dsimp only;rw[m];dsimp only;rw[s,x];dsimp only;rw[yW (by simpa using y),z,qR E,qS,ZE,hs,f];rfl
def DR(P:yg)(ts:yL TD)(t:yb)(len:Nat)(parts:yL (Nat×yo))(id:Nat)(all:yL TD)(H:yL ah)(K:Kn O):yO O:=
 mN (lk H) P ts t len parts λT l e=>match H[id]? with
  |some (.aF T' v _ c _)=>if(ag (l.length=len)&&ag (c=e)&&ag (T'.size=T.size))=ae then K (TD.bT (lk H) id all) (.rw id) ((H.map (ah.stale (lk H) id)).set id (.aF T (()::v) ae e l)) [.fresh id] 2 else ad
  |_=>ad
theorem ZAa{t:yb}{len id:Nat}{parts:Array (Nat×yo)}(ho:o.op=.buildSlice t len parts)(h:DR P ts t len parts.toList id all H K=ab out):
 ∃a d H' hs c,K a d H' hs c=ab out/\Good P o ts all H a d H' hs c:=by
 unfold DR at h;obtain⟨e,T,l,i,W,g,G,I,M,Q,hs,A⟩:=qA h;split at g
 case h_2=>cases g
 rename_i T0 v st f X E;obtain⟨m,g⟩:=Za g;simp only[yi,yP]at m;obtain⟨⟨m,rfl⟩,S⟩:=m;have s:id < H.length:=(yp.1 E).1
 have j:((H.map (ah.stale (lk H) id)).set id (.aF T (()::v) ae f l))[id]? =ab (.aF T (()::v) ae f l):=by
  rw[ycw (by rw[yx];exact s)]
 have U:aA ((H.map (ah.stale (lk H) id)).set id (.aF T (()::v) ae f l))=(aA H).set id (.row (v.length+1) T.size ae f (.p (.arr l.length T.size (l.map T.enc)))):=by
  unfold aA;rw[ybl,ybc]
  have:(ah.aF T (()::v) ae f l).er (lk ((H.map (ah.stale (lk H) id)).set id (.aF T (()::v) ae f l)))=.row (v.length+1) T.size ae f (.p (.arr l.length T.size (l.map T.enc))):=by
   simp only[ah.er,yam]
  rw[this];congr 1;refine ycj λx A=> ?_;exact ot (λid t y=>Ve (lk H) id t y) x
 refine⟨_,_,_,_,_,g,bE (λz t y=>Ve (lk H) z t y) all,mW all,cJ (⟨rfl,λF=> ?_,λF=> ?_,[],zZ,λF=> ?_⟩)⟩
 .unfold aU;rw[ho];rfl
 .unfold bm;rw[ho]
 .unfold bZ;rw[ho];dsimp only;rw[yaa,yw];dsimp only;rw[G,ZD E];dsimp only[ah.er];rw[I,M];dsimp only;rw[yW (by rw[yi,yi,yT,yT];exact⟨⟨Q,rfl⟩,S.trans hs.symm⟩),A,U,(QJ j).1,hs, <-m];simp only[yam]
def DS(P:yg)(t:yb)(n c:Int)(all:yL TD)(H:yL ah)(K:Kn O):yO O:=
 match P.underlying t with
 |some (.slice e)=>(P.info? e).bind λi=>(eZ P fJ e).bind λT=>
  if(bP i&&i.size !=0&&ag (i.size=T.size)&&TD.frees H.length all&&H.all (ah.free H.length))=ae then if(ag (n=0)&&hT c i.bytes)=ae then K all (.rw H.length) (H++[.aF T [] ae e []]) [.arr] 2 else ad else ad
 |_=>ad
theorem ZAb{t:yb}{l c:yo}{n f:Num}(ho:o.op=.makeSlice t l c)(hl:(aS P ts 0 l).bind TD.num=ab n)(hc:(aS P ts 0 c).bind TD.num=ab f)(z:n.k=.i64)(m:f.k=.i64)
 (h:DS P t n.n f.n all H K=ab out):∃a d H' hs c,K a d H' hs c=ab out/\Good P o ts all H a d H' hs c:=by
 obtain⟨ld,A,E⟩:=yf.1 hl;obtain⟨cd,F,G⟩:=yf.1 hc;have s:=Zk (L:=lk H) A;have x:=Zk (L:=lk H) F;rw[V9 E,z]at s;rw[V9 G,m]at x;unfold DS at h;have I:∀hs,aU P o (TD.au (lk H) ts) hs=ad:=λhs=>by unfold aU;rw[ho]
 have M:∀hs,bm P o (TD.au (lk H) ts) (aA H) hs=ad:=λhs=>by unfold bm;rw[ho]
 split at h
 .rename_i e Q;obtain⟨i,S,h⟩:=yf.1 h;obtain⟨T,h2,h⟩:=yf.1 h;obtain⟨g,h⟩:=Za h;obtain⟨j,h⟩:=Za h;simp only[yi,yP]at g;obtain⟨⟨⟨U,g⟩,W⟩,X⟩:=g;simp only[hT,yi,yP]at j;obtain⟨Y,Z⟩:=jC j.2.2;refine⟨_,_,_,_,_,h,mT W,rfl,cJ (⟨rfl,λy=>I _,λy=>M _,[n.n=0,0<=f.n,f.n.toNat*i.bytes<=Zn,f.n.toNat<=maxLen],⟨j.1,j.2.1,Y,Z,aw⟩,λy=> ?_⟩)⟩;unfold bZ;rw[ho];dsimp only;rw[Q,s,x];dsimp only;rw[S,yaa,yw];dsimp only;rw[yW (by simpa using U),qR X,qS,ZE,g];rfl
 .cases h
def DT(P:yg)(t:yb)(n c:Int)(all:yL TD)(H:yL ah)(K:Kn O):yO O:=
 match P.underlying t with
 |some (.slice e)=>(P.info? e).bind λi=>(eZ P fJ e).bind λT=>(kC P e).bind λz=>(TP.to eY z T).bind λy=>
  if(bP i&&ag (i.size=1)&&z.pe.size==1&& !z.pe.isAgg&&ag (T.size=1)&&TD.frees H.length all&&H.all (ah.free H.length))=ae then
   if(ag (c=n)&&hT n i.bytes)=ae then K all (.rw H.length) (H++[.aF T [] ae e (yab n.toNat y)]) [.bS] 2 else ad else ad
 |_=>ad
theorem ZxQ{t:yb}{l c:yo}{n f:Num}(ho:o.op=.makeSlice t l c)(hl:(aS P ts 0 l).bind TD.num=ab n)(hc:(aS P ts 0 c).bind TD.num=ab f)(E:n.k=.i64)(m:f.k=.i64)
 (h:DT P t n.n f.n all H K=ab out):∃a d H' hs c,K a d H' hs c=ab out/\Good P o ts all H a d H' hs c:=by
 obtain⟨ld,F,G⟩:=yf.1 hl;obtain⟨cd,I,M⟩:=yf.1 hc;have s:=Zk (L:=lk H) F;have x:=Zk (L:=lk H) I;rw[V9 G,E]at s;rw[V9 M,m]at x;unfold DT at h;have Q:∀hs,aU P o (TD.au (lk H) ts) hs=ad:=λhs=>by unfold aU;rw[ho]
 have S:∀hs,bm P o (TD.au (lk H) ts) (aA H) hs=ad:=λhs=>by unfold bm;rw[ho]
 split at h
 .rename_i e U;obtain⟨i,W,h⟩:=yf.1 h;obtain⟨T,h2,h⟩:=yf.1 h;obtain⟨z,X,h⟩:=yf.1 h;obtain⟨y,Y,h⟩:=yf.1 h;obtain⟨g,h⟩:=Za h;obtain⟨j,h⟩:=Za h;simp only[yi,yP,yT]at g;obtain⟨⟨⟨Z,g⟩,g5⟩,g6⟩:=g;simp only[hT,yi,yP]at j;obtain⟨g1,g2⟩:=jC j.2.2;refine⟨_,_,_,_,_,h,mT g5,rfl,cJ (⟨rfl,λA=>Q _,λA=>S _,[f.n=n.n,0<=n.n,n.n.toNat*i.bytes<=Zn,n.n.toNat<=maxLen],⟨j.1,j.2.1,g1,g2,aw⟩,λA=> ?_⟩)⟩;unfold bZ;rw[ho];dsimp only;rw[U,s,x];dsimp only;rw[W,yaa,yw];dsimp only;rw[mS X];dsimp only;rw[yW (by simp only[yi,yP];exact Z),qR g6,qS,ZE,ol z T y Y];rw[yce];rw[List.map_replicate,g,ycp]
 .cases h
def DU(P:yg)(t:yb)(dst:Tmp)(all:yL TD)(H:yL ah)(K:Kn O):TD->yO O
 |.p (.sl (ab af) T [])=>match P.underlying t with
  |some (.slice e)=>(P.info? e).bind λi=>if(bP i&&i.size !=0&&ag (i.size=T.size)&&TD.frees H.length all&&H.all (ah.free H.length))=ae then K all (.rw H.length) (H++[.aF T [] ae e []]) [.iH dst] 2 else ad
  |_=>ad
 |_=>ad
theorem ZxS{x:yo}{dst:Tmp}{f:TD}(ho:o.op=.assign x)(hd:o.dst=ab dst)(hx:aS P ts o.type x=ab f)(h:DU P o.type dst all H K f=ab out):
 ∃a d H' hs c,K a d H' hs c=ab out/\Good P o ts all H a d H' hs c:=by
 have l:=Zk (L:=lk H) hx;unfold DU at h;split at h
 .rename_i T;split at h
  .rename_i e m;obtain⟨i,s,h⟩:=yf.1 h;obtain⟨g,h⟩:=Za h;simp only[yi,yP]at g;obtain⟨⟨⟨t,y⟩,z⟩,A⟩:=g;refine⟨_,_,_,_,_,h,mT z,rfl,cJ (⟨rfl,λj=> ?_,λj=> ?_,[],zZ,λj=> ?_⟩)⟩
   .unfold aU;rw[ho];rfl
   .unfold bm;rw[ho]
   .unfold bZ;rw[ho];dsimp only;rw[yaa,yw];dsimp only;rw[yW hd,m,l,show(TD.p (TP.sl (ab af) T [])).er (lk H)=Dv.p (.sl (ab af) T.size []) from rfl]
    dsimp only;rw[s];dsimp only;rw[yW (by simpa using t),qR A,qS,ZE,y];rfl
  .cases h
 .cases h
def DV(P:yg)(t:yb)(lo hi:yO Int)(all:yL TD)(H:yL ah)(K:Kn O):TD->yO O
 |.rw id=>match P.underlying t,H[id]?,lo,hi with
  |some (.slice e),ab (.aF T v ae c l),ad,ab h=>if(okB P e T.size&&ag (T.size≠0))=ae then if(ag (0<=h)&&ag (h.toNat<=l.length))=ae then
    K (TD.bT (lk H) id all) (.rw id) ((H.map (ah.stale (lk H) id)).set id (.aF T v ae c (l.take h.toNat))) [.arr] 2 else ad else ad
  |_,_,_,_=>ad
 |_=>ad
theorem ZuG{t:yb}{x:yo}{lo hi:yO yo}{l W:yO Int}{X:TD}(ho:o.op=.slice t x lo hi ad)(hx:aS P ts t x=ab X)(hl:ez P ts lo=ab l)(hh:ez P ts hi=ab W)(h:DV P t l W all H K X=ab out):
 ∃a d H' hs c,K a d H' hs c=ab out/\Good P o ts all H a d H' hs c:=by
 have A:=Zk (L:=lk H) hx;have j:=hJ (L:=lk H) hl;have m:=hJ (L:=lk H) hh;unfold DV at h;split at h
 .rename_i id;split at h
  .rename_i e T v s g f E y;obtain⟨F,h⟩:=Za h;obtain⟨G,h⟩:=Za h;simp only[yi,yP]at F G;obtain⟨I,M⟩:=SY F.1;have Q:id < H.length:=(yp.1 y).1
   have z:((H.map (ah.stale (lk H) id)).set id (.aF T v ae s (g.take f.toNat)))[id]? =ab (.aF T v ae s (g.take f.toNat)):=by
    rw[ycw (by rw[yx];exact Q)]
   have Y:(g.take f.toNat).length=f.toNat:=by rw[List.length_take];omega
   have hH:aA ((H.map (ah.stale (lk H) id)).set id (.aF T v ae s (g.take f.toNat)))=(aA H).set id (.row v.length T.size ae s (.p (.arr f.toNat T.size ((g.map T.enc).take f.toNat)))):=by
    unfold aA;rw[ybl,ybc]
    have:(ah.aF T v ae s (g.take f.toNat)).er (lk ((H.map (ah.stale (lk H) id)).set id (.aF T v ae s (g.take f.toNat))))=.row v.length T.size ae s (.p (.arr f.toNat T.size ((g.map T.enc).take f.toNat))):=by
     simp only[ah.er,Y,ycd]
    rw[this];congr 1;refine ycj λx hx=> ?_;exact ot (λid t S=>Ve (lk H) id t S) x
   refine⟨_,_,_,_,_,h,bE (λU t S=>Ve (lk H) U t S) all,mW all,cJ (⟨rfl,λZ=> ?_,λZ=> ?_,[0<=f,f.toNat<=g.length],⟨G.1,G.2,aw⟩,λZ=> ?_⟩)⟩
   .unfold aU;rw[ho];dsimp only;rw[E,A,(QJ y).1,j,m];rfl
   .unfold bm;rw[ho];dsimp only;rw[E,A,(QJ y).1,j,m];rfl
   .unfold bZ;rw[ho];dsimp only;rw[E,A,(QJ y).1,j,m];dsimp only;rw[yaa,yw];dsimp only;rw[ZD y,ah.er];dsimp only;rw[yW (by simp[I,M,F.2]),hH,(QJ z).1,Y]
  .cases h
 .cases h
def DW(P:yg)(src dst:yb)(all:yL TD)(H:yL ah)(K:Kn O):TD->yO O
 |.rw id=>match P.underlying src,H[id]? with
  |some (.slice e),ab (.aF T v ae c l)=>match P.underlying e with
   |some (.int .u8)=>if(ag (src=dst)&&ag (T.size=1)&&ag (l.length≠0))=ae then
     K (TD.bT (lk H) id all) (.p (.sl (ab ae) T l)) ((H.map (ah.stale (lk H) id)).set id (.aF T (()::v) ae c [])) [] 2 else ad
   |_=>ad
  |_,_=>ad
 |_=>ad
theorem ZAc{src dst:yb}{x:yo}{s:TD}(ho:o.op=.convert src dst x)(hx:aS P ts src x=ab s)(h:DW P src dst all H K s=ab out):
 ∃a d H' hs c,K a d H' hs c=ab out/\Good P o ts all H a d H' hs c:=by
 have y:=Zk (L:=lk H) hx;unfold DW at h;split at h
 .rename_i id;split at h
  .rename_i e T v f Q z g;split at h
   .rename_i F;obtain⟨A,G⟩:=Za h;clear h;simp only[yi,yP]at A;obtain⟨⟨rfl,j⟩,I⟩:=A
    have M:aA ((H.map (ah.stale (lk H) id)).set id (.aF T (()::v) ae f []))=(aA H).set id (.row (v.length+1) T.size ae f (.p (.arr 0 T.size []))):=by
     unfold aA;rw[ybl,ybc]
     have:(ah.aF T (()::v) ae f []).er (lk ((H.map (ah.stale (lk H) id)).set id (.aF T (()::v) ae f [])))=.row (v.length+1) T.size ae f (.p (.arr 0 T.size [])):=by
      simp only[ah.er,yam,yce,List.map_nil]
     rw[this];congr 1;refine ycj λx hx=> ?_;exact ot (λid t l=>Ve (lk H) id t l) x
    refine⟨_,_,_,_,_,G,bE (λm t l=>Ve (lk H) m t l) all,mW all,cJ (⟨rfl,λE=> ?_,λE=> ?_,[],zZ,λE=> ?_⟩)⟩
    .unfold aU;rw[ho];dsimp only;rw[z,y,(QJ g).1]
    .unfold bm;rw[ho]
    .unfold bZ;rw[ho];dsimp only;rw[z,y,(QJ g).1];dsimp only;rw[ZD g,ah.er,F];dsimp only;rw[yW (by simp[j,I]),M,j];simp[TD.er,TP.pe,j]
   .cases h
  .cases h
 .cases h
def ah.iS:ah->yO (Nat×Nat×Nat)
 |.aJ t _ v _ _ e c=>ab (v.length,t.size,e.length+c.length)
 |.bz t _ v _ _ e _ c=>ab (v.length,t.size,e.length+(c.length+1))
 |_=>ad
theorem uv{L:Lk}{id:Nat}{v:yL Unit}{s N:Nat}(h:Yb L id aGS ad=([v,yab s (),yab N ()]:yL aGV)):
 (TD.rw id).er L=.rv id v.length s 0 N/\∀yM,(TD.rp id yM).er L=.aW id v.length (WW yM) (yM.map bN.i):=by
 refine⟨?_,λyM=> ?_⟩
 .rw[TD.er];unfold dO;rw[h];show Dv.rv id v.length (yab s ()).length 0 (yab N ()).length=_;rw[ycp,ycp]
 .rw[TD.er];unfold dO;rw[h];rfl
theorem kE{id:Nat}{x:ah}{q:Nat×Nat×Nat}(hd:H[id]? =ab x)(h:x.iS=ab q):(TD.rw id).er (lk H)=.rv id q.1 q.2.1 0 q.2.2/\∀yM,(TD.rp id yM).er (lk H)=.aW id q.1 (WW yM) (yM.map bN.i):=by
 cases x <;> first|cases h|skip
 all_goals
  refine uv ?_;unfold Yb lk;dsimp only;rw[hd];rfl
def DX(P:yg)(t:yb)(i:Int)(all:yL TD)(H:yL ah)(K:Kn O):TD->yO O
 |.rw id=>match P.underlying t,(H[id]?).bind ah.iS with
  |some (.slice e),ab q=>if okB P e q.2.1=ae then if bK i q.2.2=ae then K all (.rp id [.ix i.toNat q.2.1]) H [] 0 else ad else ad
  |_,_=>ad
 |_=>ad
theorem ZxU{t:yb}{x ix:yo}{j:TD}{q:IntKind×Int}{l:TP}(ho:o.op=.indexAddr t x ix)(hx:aS P ts t x=ab j)(hi:aS P ts 0 ix=ab (.p l))(hq:iv l=ab q)(h:DX P t q.2 all H K j=ab out):
 ∃a d H' hs c,K a d H' hs c=ab out/\Good P o ts all H a d H' hs c:=by
 have y:=Zk (L:=lk H) hx;have m:=Zk (L:=lk H) hi;rw[TD.er,(om hq).1]at m;unfold DX at h;split at h
 .rename_i id;split at h
  .rename_i e w z g;obtain⟨E,g,f⟩:=yf.1 g;obtain⟨A,h⟩:=Za h;obtain⟨s,h⟩:=Za h;refine⟨_,_,_,_,_,h,rfl,rfl,.inl ⟨rfl,rfl,[0<=q.2,q.2 < (w.2.2:Int)],⟨(QI s).1,(QI s).2,aw⟩,λF=> ?_⟩⟩;simp only[yw];unfold aU;rw[ho];dsimp only;rw[z,y,m,(kE g f).1,(kE g f).2];dsimp only;rw[yW (by simpa[okB] using A)];simp[WW,bN.o,bN.i]
  .cases h
 .cases h
def DY(P:yg)(t:yb)(all:yL TD)(H:yL ah)(K:Kn O):TD->yO O
 |.rw id=>match P.underlying t,(H[id]?).bind ah.iS with
  |some (.slice _),ab q=>K all (.p (.v (.int .i64) (q.2.2:Int))) H [] 0
  |_,_=>ad
 |_=>ad
theorem ZCy{t:yb}{x:yo}{c:Call}{j:TD}(ho:o.op=.call c)(hc:c.callee=.builtin .len)(ha:c.args.toList=[x])(ht:c.argTypes.toList=[t])(hx:aS P ts t x=ab j)(h:DY P t all H K j=ab out):
 ∃a d H' hs c,K a d H' hs c=ab out/\Good P o ts all H a d H' hs c:=by
 have l:=Zk (L:=lk H) hx;unfold DY at h;split at h
 .rename_i id;split at h
  .rename_i e w m f;obtain⟨s,f,g⟩:=yf.1 f;refine⟨_,_,_,_,_,h,rfl,rfl,.inl ⟨rfl,rfl,[],zZ,λy=> ?_⟩⟩;simp only[yw];unfold aU;rw[ho];dsimp only;rw[hc];dsimp only;rw[ha,ht];dsimp only;rw[m,l,(kE f g).1];rfl
  .cases h
 .cases h
theorem eP{xs:yL TP}{i:Nat}{z:TP}(h:i < xs.length):(xs.set i z)[i]? =ab z:=by rw[ycw h]
def qT:yL Nat->TP->(T:Ty)->yO T.aE
 |[],x,T=>match T with
  |.sl u=>if x.iR u=ae then ab [] else ad
  |_=>ad
 |i::r,x,T=>match x,T with
  |.agg c,.st e=>(c[i]?).bind λz=>(e[i]?).bind λU=>(qT r z U).bind λy=>TP.iu eY (c.set i (.v U y)) e
  |_,_=>ad
theorem UI:∀(xs:yL TP)(c:yL Ty)(y:Ty.aK c)(i:Nat)(U:Ty)(z:U.aE),TP.iu eY xs c=ab y->xs[i]? =ab (.v U z)->(Ty.dZ c y)[i]? =ab (.v U z)
 |[],c,y,i,U,z,h,k=>by simp at k
 |x::r,c,y,i,U,z,h,k=>by
  have f:ql (TP.to eY x) r.isEmpty (TP.iu eY r) c=ab y:=h
  match c,y,f with
  |[],_,f=>cases f
  |[t],y,f=>
   have g:(if r.isEmpty then TP.to eY x t else ad)=ab y:=f
   split at g
   .rename_i j
    cases r with
    |nil=>
     cases i with
     |zero=>
      cases k;obtain⟨e,rfl⟩:=Qz (show Ty.cast U t z=ab y from g)
      subst e
      rfl
     |succ i=>simp at k
    |cons _ _=>cases j
   .cases g
  |t::u::q,y,f=>
   obtain⟨l,g⟩:=QY (α:=t.aE) (β:=Ty.aK (u::q)) f
   cases i with
   |zero=>
    cases k;obtain⟨e,m⟩:=Qz (show Ty.cast U t z=ab y.1 from l)
    subst e;show ab (TP.v U y.1)=_
    rw[m]
   |succ i=>
    rw[List.getElem?_cons_succ]at k;exact UI r (u::q) y.2 i U z g k
theorem UJ:∀(m:yL Nat)(x:TP)(T:Ty)(y:T.aE),qT m x T=ab y->x.pe=(Wi m (.v T y)).pe
 |[],x,T,y,h=>by
  cases T with
  |sl u=>
   simp only[qT]at h;split at h
   .rename_i A;cases h;exact CP A
   .cases h
  |_=>cases h
 |i::r,x,T,y,h=>by
  simp only[qT]at h;split at h
  .rename_i f c;obtain⟨z,s,h⟩:=yf.1 h;obtain⟨U,X,h⟩:=yf.1 h;obtain⟨w,E,h⟩:=yf.1 h;have e:i < f.length:=(yp.1 s).1;have F:=UJ r z U w E;have G:=UI _ c y i U w h (eP e);have I:=dn _ _ _ h;have M:(TP.v (.st c) y).parts=ab (Ty.dZ c y):=rfl
   have g:Wi (i::r) (.v (.st c) y)=.agg ((Ty.dZ c y).set i (Wi r (.v U w))):=by
    rw[Wi,M];dsimp only;rw[G]
   have t:∀(l:yL TP)(q:TP),TP.bQ (l.set i q)=(TP.bQ l).set i q.pe:=λl q=>by rw[VI,ybl, <-VI]
   have Q:TP.bQ (Ty.dZ c y)=(TP.bQ f).set i (TP.v U w).pe:=((tW c y).trans I.symm).trans (t _ _)
   have S:TP.bQ ((Ty.dZ c y).set i (Wi r (.v U w)))=TP.bQ f:=by
    rw[t,Q,List.set_set, <-F];refine ybg λj=> ?_;rw[List.getElem?_set];split
    .rename_i W;subst W;rw[yW (by rw[VI,yx];exact e),VI,yah,s];rfl
    .rfl
   rw[g];exact congrArg Pl.agg S.symm
  .cases h
def uw(c:yL Nat)(T:Ty):yL TP->yO (yL T.aE)
 |[]=>ab []
 |x::r=>match qT c x T,uw c T r with
  |some y,ab e=>ab (y::e)
  |_,_=>ad
theorem UK{c:yL Nat}{T:Ty}:∀{xs:yL TP}{ys:yL T.aE},uw c T xs=ab ys->TP.bQ xs=ys.map λy=>(Wi c (.v T y)).pe
 |[],ys,h=>by cases h;rfl
 |x::r,ys,h=>by
  simp only[uw]at h;split at h
  .rename_i y e f g;cases h;rw[TP.bQ,yaf,UJ c x T y f,UK g]
  .cases h
def ux(L:Lk)(P:yg)(ts:yL TD)(e:yb):yL (Nat×yo)->yO (yL TP)
 |[]=>ab []
 |q::r=>match (aS P ts e q.2).bind (TD.flat L),ux L P ts e r with
  |some x,ab l=>if x.pe.size=P.cellsOf e then ab (x::l) else ad
  |_,_=>ad
theorem UL{L:Lk}{e:yb}:∀{parts:yL (Nat×yo)}{l:yL TP},ux L P ts e parts=ab l->
 Dv.aL (parts.map λq=>Zo P (TD.au L ts) e q.2)=ab (TP.bQ l)/\(TP.bQ l).all (λx=>x.size==P.cellsOf e)=ae
 |[],l,h=>by cases h;exact⟨rfl,rfl⟩
 |q::r,l,h=>by
  simp only[ux]at h;split at h
  .rename_i x t c f;obtain⟨d,g,j⟩:=yf.1 c;split at h
   .rename_i hs;cases h;obtain⟨m,s⟩:=UL f;refine⟨?_, ?_⟩
    .simp only[yaf,Dv.aL];rw[Zk g,qq j,m];rfl
    .simp only[TP.bQ,List.all_cons,yi,yT];exact⟨hs,s⟩
   .cases h
  .cases h
def DZ(P:yg)(ts:yL TD)(t:yb)(len:Nat)(parts:yL (Nat×yo))(all:yL TD)(H:yL ah)(K:Kn O):yO O:=
 match P.underlying t with
 |some (.slice e)=>(P.info? e).bind λi=>(ux (lk H) P ts e parts).bind λl=>
  if(parts.map (·.1)==yu len)&&(bP i&&i.size !=0&&ag (len*i.size<=16777216)) then K all (.p (.ko (ab ae) i.size l)) H [.bare] 0 else ad
 |_=>ad
theorem ZFp{t:yb}{len:Nat}{parts:Array (Nat×yo)}(ho:o.op=.buildSlice t len parts)(h:DZ P ts t len parts.toList all H K=ab out):
 ∃a d H' hs c,K a d H' hs c=ab out/\Good P o ts all H a d H' hs c:=by
 unfold DZ at h;split at h
 .rename_i e g;obtain⟨i,j,h⟩:=yf.1 h;obtain⟨l,m,h⟩:=yf.1 h;obtain⟨f,h⟩:=Za h;simp only[yi]at f;obtain⟨s,x⟩:=UL m
  have y:Wx P (TD.au (lk H) ts) e (P.cellsOf e) len parts.toList=ab (TP.bQ l):=by
   unfold Wx;rw[yW f.1,s];dsimp only;rw[yW x]
  refine⟨_,_,_,_,_,h,rfl,rfl,.inl ⟨rfl,rfl,[],zZ,λz=> ?_⟩⟩;unfold aU;rw[ho];dsimp only;rw[yaa,yw];dsimp only;rw[g];dsimp only;rw[j,y];dsimp only;rw[yW (by simpa only[yi] using f.2)];rfl
 .cases h
theorem EA{id:Nat}{e c:ah}(hd:H[id]? =ab e)(h:dc (ab c)=dc (ab e)):lk (H.set id c)=lk H:=by
 funext j;unfold lk;by_cases f:id=j
 .subst f;rw[ai hd,hd,h]
 .rw[al f]
def EB(P:yg)(t u:yb)(all:yL TD)(H:yL ah)(K:Kn O)(y:TD):TD->yO O
 |.rw id=>match P.underlying t,P.underlying u,H[id]?,y with
  |some (.slice e),ab (.slice _),ab (.aJ T g v st j f c),.p (.ko _ s l)=>(P.info? e).bind λi=>(uw g T l).bind λh=>
   if(bP i&&ag (i.size=T.size)&&ag (P.cellsOf e=T.size)&&ag (j=e)&&ag (T.size≠0)&&ag (s=T.size))=ae then if bU (f.length+c.length) h.length i.bytes=ae then
    K (TD.bT (lk H) id all) (.rw id) ((H.map (ah.stale (lk H) id)).set id (.aJ T g (()::v) st e f (c++h))) [.raw] 2 else ad else ad
  |_,_,_,_=>ad
 |_=>ad
theorem ZuH{t u:yb}{x y:yo}{c:Call}{Z yd:TD}(ho:o.op=.call c)(hc:c.callee=.builtin .append)(ha:c.args.toList=[x,y])(ht:c.argTypes.toList=[t,u])
 (hv:Zo P (TD.au (lk H) ts) t x=Z.er (lk H)) (hy:aS P ts u y=ab yd) (h:EB P t u all H K yd Z=ab out):∃a d H' hs c,K a d H' hs c=ab out/\Good P o ts all H a d H' hs c:=by
 have hw:=Zk (L:=lk H) hy;unfold EB at h;split at h
 .rename_i id;split at h
  .rename_i e e2 T l v st m g f nn s A hu M Q;obtain⟨i,h1,h⟩:=yf.1 h;obtain⟨j,h2,h⟩:=yf.1 h;obtain⟨k4,k6⟩:=Za h;obtain⟨S,kk⟩:=Za k6;simp only[yi,yP]at k4;obtain⟨⟨⟨⟨⟨g1,g2⟩,g3⟩,g4⟩,g5⟩,g6⟩:=k4;subst g4;subst g6;simp only[bU,yi,yP]at S;have U:id < H.length:=(yp.1 Q).1;have E:=UK h2;have z:(TP.bQ A).length=j.length:=by rw[E,yx]
   have hq:=kE (q:=(v.length,T.size,g.length+f.length)) Q rfl
   refine⟨_,_,_,_,_,kk,bE (λW t X=>Ve (lk H) W t X) all,mW all,cJ (⟨rfl,λI=> ?_,λI=> ?_,
    [g.length+f.length<=g.length+f.length,(g.length+f.length+(TP.bQ A).length)*i.bytes<=Zn,g.length+f.length+(TP.bQ A).length<=maxLen,st=ae\/g.length+f.length=g.length+f.length],
    ⟨ym _,by rw[z];exact S.1,by rw[z];exact S.2,.inr rfl,aw⟩,λI=> ?_⟩)⟩
   .unfold aU;rw[ho];dsimp only;rw[hc];dsimp only;rw[ha,ht,yaa]
   .unfold bm;rw[ho];dsimp only;rw[hc]
   .have F:gV P T.size u (aA H) I (Zo P (TD.au (lk H) ts) u y)=ab ([],TP.bQ A,I):=by
     rw[hw,TD.er,TP.pe];unfold gV gG;dsimp only;rw[M];dsimp only;rw[yW (.inl rfl)];rfl
    unfold bZ;rw[ho];dsimp only;rw[hc];dsimp only;rw[ha,ht];dsimp only;rw[hu,hv,hq.1];rw[yaa,yw];dsimp only;rw[h1,F,ZD Q];dsimp only[ah.er]
    have G:((H.map (ah.stale (lk H) id)).set id (.aJ T l (()::v) st m g (f++j)))[id]? =ab (.aJ T l (()::v) st m g (f++j)):=by
     rw[ycw (by rw[yx];exact U)]
    have hN:g.length+(f++j).length=g.length+f.length+j.length:=by rw[yn];omega
    have hH:aA ((H.map (ah.stale (lk H) id)).set id (.aJ T l (()::v) st m g (f++j)))=(aA H).set id (.row (v.length+1) T.size st m (.p (.arr (g.length+f.length+j.length) T.size ((g.map T.enc++f.map λx=>(Wi l (.v T x)).pe)++TP.bQ A)))):=by
     unfold aA;rw[ybl,ybc]
     have:(ah.aJ T l (()::v) st m g (f++j)).er (lk ((H.map (ah.stale (lk H) id)).set id (.aJ T l (()::v) st m g (f++j))))=.row (v.length+1) T.size st m (.p (.arr (g.length+f.length+j.length) T.size ((g.map T.enc++f.map λx=>(Wi l (.v T x)).pe)++TP.bQ A))):=by
      rw[ah.er,hN,E,yaq,yac];rfl
     rw[this];congr 1;refine ycj λx hx=> ?_;exact ot (λid t X=>Ve (lk H) id t X) x
    have Y:=kE (q:=(v.length+1,T.size,g.length+(f++j).length)) G rfl;rw[yW (by simp[g1,g2,g5]),hH,Y.1,z,hN]
    have ht:(g.map T.enc++f.map λx=>(Wi l (.v T x)).pe).take (g.length+f.length)=g.map T.enc++f.map λx=>(Wi l (.v T x)).pe:=by
     rw[List.take_of_length_le (by rw[yn,yx,yx];exact ym _)]
    rw[ht];rfl
  .cases h
 .cases h
theorem EC{α:Type}(a b:yL α)(x:α):(a++x::b)[a.length]? =ab x:=by rw[List.getElem?_append_right (ym _),Nat.sub_self];rfl
theorem UM{α:Type}(a b:yL α)(x y:α):(a++x::b).set a.length y=a++y::b:=by
 rw[List.set_append,yX (by omega),Nat.sub_self];rfl
def ED(P:yg)(t:yb)(all:yL TD)(H:yL ah)(K:Kn O):TD->yO O
 |.rp id (.ix i s::r)=>match H[id]? with
  |some (.bz T h v st e c f g)=>if ag (s=T.size)=ae then if ag (i=c.length)=ae then ei (lk H) r f λsub hs _=>if gv P t (sub.er (lk H))=ae then K all sub H hs 1 else ad else ad else ad
  |_=>ad
 |_=>ad
theorem ZAh{t:yb}{x:yo}{z:TD}(ho:o.op=.load t x)(hx:aS P ts 0 x=ab z)(h:ED P t all H K z=ab out):∃a d H' hs c,K a d H' hs c=ab out/\Good P o ts all H a d H' hs c:=by
 have A:=Zk (L:=lk H) hx;unfold ED at h;split at h
 .rename_i id i s r;split at h
  .rename_i T E v st e f l g F;obtain⟨y,G⟩:=Za h;obtain⟨j,I⟩:=Za G;clear G h;have y:=yF y;have j:=yF j;subst y;subst j;obtain⟨sub,hs,M,C,Q,S,U,_⟩:=X2 _ _ _ _ I;obtain⟨W,X⟩:=Za Q;have Y:=kE (q:=(v.length,T.size,f.length+(g.length+1))) F rfl;refine⟨_,_,_,_,_,X,rfl,rfl,.inr (.inl ⟨rfl,rfl,λm=> ?_,C++[f.length*T.size+dF r=WW (.ix f.length T.size::r)],Zj.2 ⟨S,by rw[Ws,dF,bN.o],aw⟩,λm=> ?_⟩)⟩
   .unfold aU;rw[ho];dsimp only;rw[A];rfl
   .unfold bm;rw[ho];dsimp only;rw[A,Y.2];dsimp only;rw[ZD F];dsimp only[ah.er]
    have Z:Ym (.arr (f.length+(g.length+1)) T.size ((f.map λx=>.p (T.enc x))++l.er (lk H)::g.map λx=>.p (Wi E (.v T x)).pe)) (f.length::r.map bN.i) (hs++m)=ab (C,f.length*T.size+dF r,sub.er (lk H),m):=by
     unfold Ym;have:=EC (f.map λx=>Dv.p (T.enc x)) (g.map λx=>.p (Wi E (.v T x)).pe) (l.er (lk H));rw[yx]at this;rw[this];dsimp only;rw[U m];rfl
    rw[yaf,show(bN.ix f.length T.size).i=f.length from rfl,Z]
    dsimp only;rw[yW (by rw[yi];exact⟨W,by simp⟩)]
  .cases h
 .cases h
def EE(P:yg)(t:yb)(all:yL TD)(H:yL ah)(K:Kn O)(v:TD):TD->yO O
 |.rp id (.ix i s::r)=>match H[id]? with
  |some (.bz T j u ae e c g f)=>if ag (s=T.size)=ae then if ag (i=c.length)=ae then ei (lk H) r g λsub hs h=>(h v).bind λd1=>
   if lA P t (v.er (lk H)) (sub.er (lk H))=ae then K all .an (H.set id (.bz T j u ae e c d1 f)) hs 2 else ad else ad else ad
  |_=>ad
 |_=>ad
theorem ZxZ{t:yb}{x y:yo}{S E:TD}(ho:o.op=.store t x y)(hx:aS P ts 0 x=ab S)(X:aS P ts t y=ab E)(h:EE P t all H K E S=ab out):
 ∃a d H' hs c,K a d H' hs c=ab out/\Good P o ts all H a d H' hs c:=by
 have Y:=Zk (L:=lk H) hx;have Z:=Zk (L:=lk H) X;unfold EE at h;split at h
 .rename_i id i s r;split at h
  .rename_i T m u e f j g I;obtain⟨M,U⟩:=Za h;obtain⟨z,h9⟩:=Za U;clear U h;have M:=yF M;have z:=yF z;subst M;subst z;obtain⟨sub,hs,put,C,F,k2,k3,k4⟩:=X2 r j _ out h9;obtain⟨d1,p1,F⟩:=yf.1 F;obtain⟨h4,F⟩:=Za F;have A:=h4;unfold lA at A;have hq:=kE (q:=(u.length,T.size,f.length+(g.length+1))) I rfl;have W:lk (H.set id (.bz T m u ae e f d1 g))=lk H:=EA I rfl;have Q:=EC (f.map λx=>Dv.p (T.enc x)) (g.map λx=>.p (Wi m (.v T x)).pe) (j.er (lk H));have G:=UM (f.map λx=>Dv.p (T.enc x)) (g.map λx=>.p (Wi m (.v T x)).pe) (j.er (lk H)) (d1.er (lk H));rw[yx]at Q G
   have hg:∀l,Ym (.arr (f.length+(g.length+1)) T.size ((f.map λx=>.p (T.enc x))++j.er (lk H)::g.map λx=>.p (Wi m (.v T x)).pe)) (f.length::r.map bN.i) (hs++l)=ab (C,f.length*T.size+dF r,sub.er (lk H),l):=by
    intro l;unfold Ym;rw[Q];dsimp only;rw[k3 l];rfl
   have hp:∀l,WU (E.er (lk H)) (.arr (f.length+(g.length+1)) T.size ((f.map λx=>.p (T.enc x))++j.er (lk H)::g.map λx=>.p (Wi m (.v T x)).pe)) (f.length::r.map bN.i) (hs++l)=ab (.arr (f.length+(g.length+1)) T.size ((f.map λx=>.p (T.enc x))++d1.er (lk H)::g.map λx=>.p (Wi m (.v T x)).pe)):=by
    intro l;have:=k4 _ d1 p1 l;unfold WU;rw[Q];dsimp only;rw[this,yz,G]
   refine⟨_,_,_,_,_,F,by rw[W],rfl,cJ (⟨rfl,λl=> ?_,λl=> ?_,C++[f.length*T.size+dF r=WW (.ix f.length T.size::r)],
    Zj.2 ⟨k2,by rw[Ws,dF,bN.o],aw⟩,λl=> ?_⟩)⟩
   .unfold aU;rw[ho]
   .unfold bm;rw[ho]
   .unfold bZ;rw[ho];dsimp only;rw[Y,Z,hq.2];dsimp only;rw[ZD I];dsimp only[ah.er];rw[yaf,show(bN.ix f.length T.size).i=f.length from rfl,hg l]
    dsimp only;rw[show io (f.length::r.map bN.i) (.arr (f.length+(g.length+1)) T.size ((f.map λx=>.p (T.enc x))++j.er (lk H)::g.map λx=>.p (Wi m (.v T x)).pe)) (E.er (lk H))=ab (E.er (lk H)) from rfl]
    dsimp only;rw[hp l];dsimp only;rw[yW (by simp only[yi]at A ⊢;exact⟨⟨A,by simp⟩,by simp[aJ]⟩),YA W];rfl
  .cases h
 .cases h
def qU(H:yL ah):TD->Bool
 |.rw id=>((H[id]?).bind ah.iS).isSome
 |.rp id _=>((H[id]?).bind ah.iS).isSome
 |_=>af
def rnT(P:yg)(hi:HI)(o:Oper)(ts:yL TD)(H:yL ah):Bool:=
 match o.op with
 |.load t x=>match aS P ts 0 x with
  |some d=>qU H d
  |none=>af
 |.store t x y=>match aS P ts 0 x with
  |some d=>qU H d
  |none=>af
 |.indexAddr t x ix=>match aS P ts t x with
  |some d=>qU H d
  |none=>af
 |.buildSlice t len parts=>match o.dst with
  |some d=>hi.lits.contains d
  |none=>af
 |.call c=>match c.callee with
  |.builtin .len=>match c.args.toList,c.argTypes.toList with
   |[x],[t]=>match aS P ts t x with
    |some d=>qU H d
    |none=>af
   |_,_=>af
  |.builtin .append=>match c.args.toList,c.argTypes.toList with
   |[x,y],[t,u]=>match aS P ts t x with
    |some d=>qU H d
    |none=>af
   |_,_=>af
  |_=>af
 |_=>af
def EF(P:yg)(hi:HI)(o:Oper)(ts all:yL TD)(H:yL ah)(K:Kn O):yO O:=
 match o.op with
 |.load t x=>(aS P ts 0 x).bind λd=>ED P t all H K d
 |.store t x y=>(aS P ts 0 x).bind λa=>(aS P ts t y).bind λv=>EE P t all H K v a
 |.indexAddr t x ix=>(aS P ts t x).bind λa=>(aS P ts 0 ix).bind λb=>b.inner.bind λe=>(iv e).bind λq=>DX P t q.2 all H K a
 |.buildSlice t len parts=>DZ P ts t len parts.toList all H K
 |.call c=>match c.callee with
  |.builtin .len=>match c.args.toList,c.argTypes.toList with
   |[x],[t]=>(aS P ts t x).bind λd=>DY P t all H K d
   |_,_=>ad
  |.builtin .append=>match c.args.toList,c.argTypes.toList with
   |[x,y],[t,u]=>(aS P ts t x).bind λa=>(aS P ts u y).bind λb=>EB P t u all H K b a
   |_,_=>ad
  |_=>ad
 |_=>ad
theorem ZFq{hi:HI}(h:EF P hi o ts all H K=ab out):∃a d H' hs c,K a d H' hs c=ab out/\Good P o ts all H a d H' hs c:=by
 unfold EF at h;split at h
 .rename_i t x e;obtain⟨d,f,h⟩:=yf.1 h;exact ZAh e f h
 .rename_i t x y e;obtain⟨a,f,h⟩:=yf.1 h;obtain⟨v,g,h⟩:=yf.1 h;exact ZxZ e f g h
 .rename_i t x ix e;obtain⟨a,f,h⟩:=yf.1 h;obtain⟨b,g,h⟩:=yf.1 h;obtain⟨A,s,h⟩:=yf.1 h;obtain⟨q,z,h⟩:=yf.1 h;rw[Xo s]at g;exact ZxU e f g z h
 .rename_i t len parts e;exact ZFp e h
 .rename_i c e;split at h
  .rename_i j;split at h
   .rename_i x t l m;obtain⟨d,f,h⟩:=yf.1 h;exact ZCy e j l m f h
   .cases h
  .rename_i j;split at h
   .rename_i x y t u l m;obtain⟨a,f,h⟩:=yf.1 h;obtain⟨b,g,h⟩:=yf.1 h;exact ZuH e j l m (Zk f) g h
   .cases h
  .cases h
 .cases h
end
end Go.Ev
end
section
namespace Go.Ev
abbrev TV:=Σ t:Ty,t.aE
inductive Sh where
 |v (t:Ty)
 |elem (t:Ty)
 |nil (t:Ty)
 |sl (nn:Bool) (t:Ty)
 |own (j:Nat) (t:Ty)
 |am (j:Nat) (yM:List bN)
 |mp (j:Nat)
 |rw(j:Nat)
 |rp (j s:Nat) (yM:List bN)
 |view (j:Nat) (yM:List bN) (s lo n:Nat)
 |rv (j ver s lo n:Nat)
 |fn (g:yr) (l:List Sh)
 |agg (l:List Sh)
 |arr (n s:Nat) (l:List Sh)
 |bf (l:List Sh)
 |iface (t:yb) (x:Sh)
 |qV (t u:yb) (x:Sh)
 |bH|fn0|dy|bR
 |an
instance:Inhabited Sh:=⟨.an⟩
def bN.beq:bN->bN->Bool
 |.fC i o,.fC j p=>ag (i=j)&&ag (o=p)
 |.ix i o,.ix j p=>ag (i=j)&&ag (o=p)
 |_,_=>af
def ow:yL bN->yL bN->Bool
 |[],[]=>ae
 |q::r,p::s=>q.beq p&&ow r s
 |_,_=>af
theorem qW:∀{l m:yL bN},ow l m=ae->l=m
 |[],[],_=>rfl
 |[],_::_,h=>by cases h
 |_::_,[],h=>by cases h
 |q::r,p::s,h=>by
  simp only[ow,yi]at h;rw[qW h.2];congr 1;cases q <;> cases p <;> simp[bN.beq]at h <;> simp[h.1]
def TD.EG(L:Lk)(t:Ty):TD->yO t.aE
 |.p x=>TP.to gZ x t
 |.own id _ u c=>match t with
  |.sl w=>Ty.be u w (Yb L id u c)
  |_=>ad
 |_=>ad
theorem ZMi{L:Lk}{t:Ty}{d:TD}{y:t.aE}(h:d.EG L t=ab y):Wk (d.er L) (.p (t.enc y)):=by
 cases d with
 |p x=>exact Wk.p (oj (show TP.to gZ x t=ab y from h))
 |own id nn u c=>
  cases t with
  |sl w=>
   obtain⟨e,f⟩:=ZB (show Ty.be u w (Yb L id u c)=ab y from h)
   subst e;subst f
   exact Wk.mq (bc.refl _)
  |_=>cases h
 |_=>cases h
def ZNw(t:Ty):TD->yO t.aE
 |.elem x=>TP.to gZ x t
 |_=>ad
theorem Wk.elem{x y:Pl}(h:bw x y):Wk (.elem x) (.elem y):=⟨rfl,rfl,λJ vs r=>by
 simp only[yG]at r ⊢;obtain⟨b,o,c,e,f,g⟩:=r;exact⟨b,o,c,e,h.cG _ _ _ f,g⟩⟩
theorem cu.fn{f:yr}{c es:yL Dv}(h:cu c es):Wk (.fn f c) (.fn f es):=⟨rfl,rfl,λJ vs r=>by
 simp only[yG]at r ⊢;obtain⟨g,j,e,l,r⟩:=r;exact⟨g,j,e,l,h.vs r⟩⟩
theorem cu.sizes{c es:yL Dv}(h:cu c es)(s:Nat):(∀x,x∈c->x.size=s)->∀x,x∈es->x.size=s:=by
 induction h with
 |nil=>intro _ x hx;cases hx
 |cons h k f=>
  intro e x hx;rcases List.mem_cons.1 hx with rfl|hx
  .rw[<-h.size];exact e _ (List.mem_cons_self ..)
  .exact f (λy g=>e y (List.mem_cons_of_mem _ g)) x hx
theorem cu.arr{n s:Nat}{c es:yL Dv}(h:cu c es):Wk (.arr n s c) (.arr n s es):=⟨rfl,rfl,λJ vs r=>by
 simp only[yG]at r ⊢;obtain⟨e,f,g⟩:=r;have:=(cu.agg h).cG J vs (by simp only[yG];exact g);simp only[yG]at this;exact⟨by rw[<-h.len];exact e,h.sizes s f,this⟩⟩
theorem Wk.iface{t:yb}{x y:Dv}(h:Wk x y):Wk (.iface t x) (.iface t y):=⟨rfl,rfl,λJ vs r=>by
 simp only[yG]at r ⊢;obtain⟨v,e,f,g⟩:=r;refine⟨v,e,λc=> ?_,λc=>h.cG _ _ (g (by rw[h.agg];exact c))⟩;obtain⟨j,l,m⟩:=f (by rw[h.agg];exact c);exact⟨j,l,h.cG _ _ m⟩⟩
mutual
def Sh.mt(L:Lk):Sh->TD->yO (TD×yL TV)
 |.v t,d=>(d.EG L t).map λy=>(.p (.v t y),[⟨t,y⟩])
 |.elem t,d=>(ZNw t d).map λy=>(.elem (.v t y),[⟨t,y⟩])
 |.nil t,d=>match d with
  |.p x=>if x.iR t=ae then ab (.p (.sl (ab af) t []),[]) else ad
  |_=>ad
 |.sl nn t,d=>match d with
  |.p (.sl (ab b) u z)=>if b=nn then(Ty.be u t z).map λy=>(.p (.sl (ab nn) t y),[⟨.sl t,y⟩]) else ad
  |_=>ad
 |.own j t,d=>match d with
  |.own id _ u ad=>if id=j/\u=t then ab (.own j ad t ad,[]) else ad
  |_=>ad
 |.am j p,d=>match d with
  |.am id q=>if id=j/\ow p q=ae then ab (.am j p,[]) else ad
  |_=>ad
 |.mp j,d=>match d with
  |.mp id=>if id=j then ab (.mp j,[]) else ad
  |_=>ad
 |.rw j,d=>match d with
  |.rw id=>if id=j then ab (.rw j,[]) else ad
  |_=>ad
 |.rp j s p,d=>match d with
  |.rp id (.ix i c::q)=>if id=j/\c=s/\ow p q=ae then ab (.rp j (.ix i s::p),[⟨.int .i64,(i:Int)⟩]) else ad
  |_=>ad
 |.view j p s lo n,d=>match d with
  |.view id q c e E=>if id=j/\ow p q=ae/\s=c/\lo=e/\n=E then ab (.view j p s lo n,[]) else ad
  |_=>ad
 |.rv j A s lo n,d=>match d with
  |.rv id F c e E=>if id=j/\A=F/\s=c/\lo=e/\n=E then ab (.rv j A s lo n,[]) else ad
  |_=>ad
 |.fn g l,d=>match d with
  |.fn f h=>if f=g then(Sh.cZ L l h).map λq=>(.fn g q.1,q.2) else ad
  |_=>ad
 |.agg l,d=>match d with
  |.agg h=>(Sh.cZ L l h).map λq=>(.agg q.1,q.2)
  |.p x=>match x.parts with
   |some z=>(Sh.cZ L l (z.map TD.p)).map λq=>(.agg q.1,q.2)
   |none=>ad
  |_=>ad
 |.arr n s l,d=>match d with
  |.arr m c h=>if m=n/\c=s then(Sh.cZ L l h).map λq=>(.arr n s q.1,q.2) else ad
  |.p (.arr m c z)=>if m=n/\c=s then(Sh.cZ L l (z.map TD.p)).map λq=>(.arr n s q.1,q.2) else ad
  |_=>ad
 |.bf l,d=>match d with
  |.bf h=>(Sh.cZ L l h).map λq=>(.bf q.1,q.2)
  |_=>ad
 |.iface t x,d=>match d with
  |.iface u y=>if u=t then(Sh.mt L x y).map λq=>(.iface t q.1,q.2) else ad
  |_=>ad
 |.qV t u x,d=>match d with
  |.iface w y=>if yap w t=ae then(Sh.mt L x y).map λq=>(.iface t q.1,⟨.bool,ae⟩::q.2) else if yap w u=ae then(Sh.mt L x y).map λq=>(.iface u q.1,⟨.bool,af⟩::q.2) else ad
  |_=>ad
 |.bH,d=>match d with
  |.p .bH=>ab (.p .bH,[])
  |_=>ad
 |.fn0,d=>match d with
  |.p .fn0=>ab (.p .fn0,[])
  |_=>ad
 |.dy,d=>match d with
  |.p .dy=>ab (.p .dy,[])
  |_=>ad
 |.bR,d=>match d with
  |.p .bR=>ab (.p .bR,[])
  |_=>ad
 |.an,d=>if(d.er L).size=1/\(d.er L).isAgg=af then ab (.an,[]) else ad
def Sh.cZ(L:Lk):yL Sh->yL TD->yO (yL TD×yL TV)
 |[],c=>match c with
  |[]=>ab ([],[])
  |_=>ad
 |s::r,c=>match c with
  |d::q=>match Sh.mt L s d,Sh.cZ L r q with
   |some a,ab b=>ab (a.1::b.1,a.2++b.2)
   |_,_=>ad
  |[]=>ad
end
mutual
def Sh.fill:Sh->yL TV->yO (TD×yL TV)
 |.v t,vs=>match vs with
  |x::r=>(Ty.cast x.1 t x.2).map λy=>(.p (.v t y),r)
  |[]=>ad
 |.elem t,vs=>match vs with
  |x::r=>(Ty.cast x.1 t x.2).map λy=>(.elem (.v t y),r)
  |[]=>ad
 |.nil t,vs=>ab (.p (.sl (ab af) t []),vs)
 |.sl nn t,vs=>match vs with
  |x::r=>(Ty.cast x.1 (.sl t) x.2).map λ(y:yL t.aE)=>(.p (.sl (ab nn) t y),r)
  |[]=>ad
 |.own j t,vs=>ab (.own j ad t ad,vs)
 |.am j p,vs=>ab (.am j p,vs)
 |.mp j,vs=>ab (.mp j,vs)
 |.rw j,vs=>ab (.rw j,vs)
 |.rp j s p,vs=>match vs with
  |x::r=>(Ty.cast x.1 (.int .i64) x.2).map λ(i:Int)=>(.rp j (.ix i.toNat s::p),r)
  |[]=>ad
 |.view j p s lo n,vs=>ab (.view j p s lo n,vs)
 |.rv j c s lo n,vs=>ab (.rv j c s lo n,vs)
 |.fn g l,vs=>(Sh.fills l vs).map λq=>(.fn g q.1,q.2)
 |.agg l,vs=>(Sh.fills l vs).map λq=>(.agg q.1,q.2)
 |.arr n s l,vs=>(Sh.fills l vs).map λq=>(.arr n s q.1,q.2)
 |.bf l,vs=>(Sh.fills l vs).map λq=>(.bf q.1,q.2)
 |.iface t x,vs=>(Sh.fill x vs).map λq=>(.iface t q.1,q.2)
 |.qV t u x,vs=>match vs with
  |z::r=>(Ty.cast z.1 .bool z.2).bind λ(b:Bool)=>(Sh.fill x r).map λq=>(.iface (bif b then t else u) q.1,q.2)
  |[]=>ad
 |.bH,vs=>ab (.p .bH,vs)
 |.fn0,vs=>ab (.p .fn0,vs)
 |.dy,vs=>ab (.p .dy,vs)
 |.bR,vs=>ab (.p .bR,vs)
 |.an,vs=>ab (.an,vs)
def Sh.fills:yL Sh->yL TV->yO (yL TD×yL TV)
 |[],vs=>ab ([],vs)
 |s::r,vs=>(Sh.fill s vs).bind λa=>(Sh.fills r a.2).map λb=>(a.1::b.1,b.2)
end
theorem YB(t:Ty)(x:t.aE):Ty.cast t t x=ab x:=by
 unfold Ty.cast;split
 .rfl
 .rename_i h _;exact absurd rfl h
mutual
theorem mX{L:Lk}:∀(s:Sh)(d:TD)(q:TD×yL TV),s.mt L d=ab q->∀yJ,s.fill (q.2++yJ)=ab (q.1,yJ)
 |.v t,d,q,h,yJ=>by
  simp only[Sh.mt]at h;obtain⟨y,_,rfl⟩:=Zd h
  simp[Sh.fill,YB]
 |.elem t,d,q,h,yJ=>by
  simp only[Sh.mt]at h;obtain⟨y,_,rfl⟩:=Zd h
  simp[Sh.fill,YB]
 |.nil t,d,q,h,yJ=>by
  simp only[Sh.mt]at h;split at h
  .split at h <;> cases h;rfl
  .cases h
 |.sl nn t,d,q,h,yJ=>by
  simp only[Sh.mt]at h;split at h
  .split at h
   .obtain⟨w,c,rfl⟩:=Zd h;exact congrArg (Option.map λ(y:yL t.aE)=>(TD.p (.sl (ab nn) t y),yJ)) (YB (.sl t) w)
   .cases h
  .cases h
 |.own j t,d,q,h,yJ=>by
  simp only[Sh.mt]at h;split at h
  .split at h <;> cases h;rfl
  .cases h
 |.am j p,d,q,h,yJ=>by
  simp only[Sh.mt]at h;split at h
  .split at h <;> cases h;rfl
  .cases h
 |.mp j,d,q,h,yJ=>by
  simp only[Sh.mt]at h;split at h
  .split at h <;> cases h;rfl
  .cases h
 |.rw j,d,q,h,yJ=>by
  simp only[Sh.mt]at h;split at h
  .split at h <;> cases h;rfl
  .cases h
 |.rp j s p,d,q,h,yJ=>by
  simp only[Sh.mt]at h;split at h
  .rename_i id i f m;split at h
   .cases h;exact congrArg (Option.map λ(i:Int)=>(TD.rp j (.ix i.toNat s::p),yJ)) (YB (.int .i64) (i:Int))
   .cases h
  .cases h
 |.view j p s lo n,d,q,h,yJ=>by
  simp only[Sh.mt]at h;split at h
  .split at h <;> cases h;rfl
  .cases h
 |.rv j e s lo n,d,q,h,yJ=>by
  simp only[Sh.mt]at h;split at h
  .split at h <;> cases h;rfl
  .cases h
 |.fn g l,d,q,h,yJ=>by
  simp only[Sh.mt]at h;split at h
  .split at h
   .obtain⟨w,c,rfl⟩:=Zd h;simp only[Sh.fill,bv l _ w c yJ,yz]
   .cases h
  .cases h
 |.agg l,d,q,h,yJ=>by
  simp only[Sh.mt]at h;split at h
  .obtain⟨w,c,rfl⟩:=Zd h;simp only[Sh.fill,bv l _ w c yJ,yz]
  .split at h
   .obtain⟨w,c,rfl⟩:=Zd h;simp only[Sh.fill,bv l _ w c yJ,yz]
   .cases h
  .cases h
 |.arr n s l,d,q,h,yJ=>by
  simp only[Sh.mt]at h;split at h
  .split at h
   .obtain⟨w,c,rfl⟩:=Zd h;simp only[Sh.fill,bv l _ w c yJ,yz]
   .cases h
  .split at h
   .obtain⟨w,c,rfl⟩:=Zd h;simp only[Sh.fill,bv l _ w c yJ,yz]
   .cases h
  .cases h
 |.bf l,d,q,h,yJ=>by
  simp only[Sh.mt]at h;split at h
  .obtain⟨w,c,rfl⟩:=Zd h;simp only[Sh.fill,bv l _ w c yJ,yz]
  .cases h
 |.iface t x,d,q,h,yJ=>by
  simp only[Sh.mt]at h;split at h
  .split at h
   .obtain⟨w,c,rfl⟩:=Zd h;simp only[Sh.fill,mX x _ w c yJ,yz]
   .cases h
  .cases h
 |.qV t u x,d,q,h,yJ=>by
  simp only[Sh.mt]at h;split at h
  .split at h
   .obtain⟨w,c,rfl⟩:=Zd h;simp only[Sh.fill,yaa,YB,ya,mX x _ w c yJ,yz];rfl
   .split at h
    .obtain⟨w,c,rfl⟩:=Zd h;simp only[Sh.fill,yaa,YB,ya,mX x _ w c yJ,yz];rfl
    .cases h
  .cases h
 |.bH,d,q,h,yJ=>by
  simp only[Sh.mt]at h
  split at h <;> cases h;rfl
 |.fn0,d,q,h,yJ=>by
  simp only[Sh.mt]at h
  split at h <;> cases h;rfl
 |.dy,d,q,h,yJ=>by
  simp only[Sh.mt]at h
  split at h <;> cases h;rfl
 |.bR,d,q,h,yJ=>by
  simp only[Sh.mt]at h
  split at h <;> cases h;rfl
 |.an,d,q,h,yJ=>by
  simp only[Sh.mt]at h;split at h <;> cases h;rfl
theorem bv{L:Lk}:∀(l:yL Sh)(c:yL TD)(q:yL TD×yL TV),Sh.cZ L l c=ab q->∀yJ,Sh.fills l (q.2++yJ)=ab (q.1,yJ)
 |[],c,q,h,yJ=>by
  simp only[Sh.cZ]at h
  split at h <;> cases h;rfl
 |s::r,c,q,h,yJ=>by
  simp only[Sh.cZ]at h;split at h
  .split at h
   .rename_i a b e f;cases h;simp only[Sh.fills,yac,mX s _ a e,ya,bv r _ b f,yz]
   .cases h
  .cases h
end
theorem UN(ys:yL Pl):Wk (.p (.agg ys)) (.agg (ys.map .p)):=by
 have c:∀ys:yL Pl,Dv.sizes (ys.map .p)=Pl.sizes ys:=by
  intro ys
  induction ys with
  |nil=>rfl
  |cons y r e=>rw[yaf,Dv.sizes,Pl.sizes,e];rfl
 refine⟨?_,rfl,λJ vs r=> ?_⟩
 .first|exact c ys|exact(c ys).symm
 .simp only[yG,aq]at r ⊢;exact jq.2 r
theorem ZHI{n s:Nat}(ys:yL Pl):Wk (.p (.arr n s ys)) (.arr n s (ys.map .p)):=by
 refine⟨rfl,rfl,λJ vs r=> ?_⟩;simp only[yG,aq]at r ⊢;refine⟨by rw[yx];exact r.1,λx c=> ?_,jq.2 r.2.2⟩;obtain⟨y,e,rfl⟩:=List.mem_map.1 c;exact r.2.1 y e
mutual
theorem lB{L M:Lk}(f:∀id t,Yb L id t ad=Yb M id t ad):∀(s:Sh)(d:TD)(q:TD×yL TV),s.mt L d=ab q->Wk (d.er L) (q.1.er M)
 |.v t,d,q,h=>by
  simp only[Sh.mt]at h;obtain⟨y,c,rfl⟩:=Zd h
  exact ZMi c
 |.elem t,d,q,h=>by
  simp only[Sh.mt]at h;obtain⟨y,c,rfl⟩:=Zd h;cases d <;> first|cases c|skip
  exact Wk.elem (oj c)
 |.nil t,d,q,h=>by
  simp only[Sh.mt]at h;split at h
  .split at h
   .rename_i E;cases h;refine Wk.of_eq ?_;rw[TD.er,CP E];rfl
   .cases h
  .cases h
 |.sl nn t,d,q,h=>by
  simp only[Sh.mt]at h;split at h
  .split at h
   .rename_i e;subst e;obtain⟨w,c,rfl⟩:=Zd h;obtain⟨e,F⟩:=ZB c;subst e;subst F;exact Wk.refl _
   .cases h
  .cases h
 |.own j t,d,q,h=>by
  simp only[Sh.mt]at h;split at h
  .split at h
   .rename_i e;obtain⟨rfl,rfl⟩:=e;cases h;rw[TD.er,TD.er,f];exact Wk.own rfl
   .cases h
  .cases h
 |.am j p,d,q,h=>by
  simp only[Sh.mt]at h;split at h
  .split at h
   .rename_i e;obtain⟨rfl,e⟩:=e;cases h;rw[qW e];exact Wk.refl _
   .cases h
  .cases h
 |.mp j,d,q,h=>by
  simp only[Sh.mt]at h;split at h
  .split at h
   .rename_i e;subst e;cases h;exact Wk.refl _
   .cases h
  .cases h
 |.rw j,d,q,h=>by
  simp only[Sh.mt]at h;split at h
  .split at h
   .rename_i e;subst e;cases h;refine Wk.of_eq ?_;rw[TD.er,TD.er];simp only[dO,f]
   .cases h
  .cases h
 |.rp j s p,d,q,h=>by
  simp only[Sh.mt]at h;split at h
  .split at h
   .rename_i e;obtain⟨rfl,rfl,e⟩:=e;cases h;rw[qW e];refine Wk.of_eq ?_;rw[TD.er,TD.er];simp only[dO,f]
   .cases h
  .cases h
 |.view j p s lo n,d,q,h=>by
  simp only[Sh.mt]at h;split at h
  .split at h
   .rename_i e;obtain⟨rfl,e,rfl,rfl,rfl⟩:=e;cases h;rw[qW e];exact Wk.refl _
   .cases h
  .cases h
 |.rv j G s lo n,d,q,h=>by
  simp only[Sh.mt]at h;split at h
  .split at h
   .rename_i e;obtain⟨rfl,rfl,rfl,rfl,rfl⟩:=e;cases h;exact Wk.refl _
   .cases h
  .cases h
 |.fn g l,d,q,h=>by
  simp only[Sh.mt]at h;split at h
  .split at h
   .rename_i e;subst e;obtain⟨w,c,rfl⟩:=Zd h;exact cu.fn (cw f l _ w c)
   .cases h
  .cases h
 |.agg l,d,q,h=>by
  simp only[Sh.mt]at h;split at h
  .obtain⟨w,c,rfl⟩:=Zd h;exact cu.agg (cw f l _ w c)
  .split at h
   .rename_i z I;obtain⟨w,c,rfl⟩:=Zd h;have e:=zR I;have k:=cu.agg (cw f l _ w c);rw[qE]at k;rw[TD.er,e];have m:=UN (TP.bQ z);exact⟨m.size.trans k.size,m.agg.trans k.agg,λJ vs r=>k.cG J vs (m.cG J vs r)⟩
   .cases h
  .cases h
 |.arr n s l,d,q,h=>by
  simp only[Sh.mt]at h;split at h
  .split at h
   .rename_i e;obtain⟨rfl,rfl⟩:=e;obtain⟨w,c,rfl⟩:=Zd h;exact cu.arr (cw f l _ w c)
   .cases h
  .split at h
   .rename_i A s0 z e;obtain⟨rfl,rfl⟩:=e;obtain⟨w,c,rfl⟩:=Zd h;have k:=cu.arr (n:=A) (s:=s0) (cw f l _ w c);rw[qE]at k;have m:=ZHI (n:=A) (s:=s0) (TP.bQ z);exact⟨m.size.trans k.size,m.agg.trans k.agg,λJ vs r=>k.cG J vs (m.cG J vs r)⟩
   .cases h
  .cases h
 |.bf l,d,q,h=>by
  simp only[Sh.mt]at h;split at h
  .obtain⟨w,c,rfl⟩:=Zd h;exact cu.bf (cw f l _ w c)
  .cases h
 |.iface t x,d,q,h=>by
  simp only[Sh.mt]at h;split at h
  .split at h
   .rename_i e;subst e;obtain⟨w,c,rfl⟩:=Zd h;exact Wk.iface (lB f x _ w c)
   .cases h
  .cases h
 |.qV t u x,d,q,h=>by
  simp only[Sh.mt]at h;split at h
  .split at h
   .rename_i e;have e:=ydb e;subst e;obtain⟨w,c,rfl⟩:=Zd h;exact Wk.iface (lB f x _ w c)
   .split at h
    .rename_i e;have e:=ydb e;subst e;obtain⟨w,c,rfl⟩:=Zd h;exact Wk.iface (lB f x _ w c)
    .cases h
  .cases h
 |.bH,d,q,h=>by
  simp only[Sh.mt]at h
  split at h <;> cases h;exact Wk.refl _
 |.fn0,d,q,h=>by
  simp only[Sh.mt]at h
  split at h <;> cases h;exact Wk.refl _
 |.dy,d,q,h=>by
  simp only[Sh.mt]at h
  split at h <;> cases h;exact Wk.refl _
 |.bR,d,q,h=>by
  simp only[Sh.mt]at h
  split at h <;> cases h;exact Wk.refl _
 |.an,d,q,h=>by
  simp only[Sh.mt]at h;split at h
  .rename_i e;cases h;exact Wk.an e.2 e.1
  .cases h
theorem cw{L M:Lk}(e:∀id t,Yb L id t ad=Yb M id t ad):∀(l:yL Sh)(c:yL TD)(q:yL TD×yL TV),Sh.cZ L l c=ab q->cu (TD.au L c) (TD.au M q.1)
 |[],c,q,h=>by
  simp only[Sh.cZ]at h
  split at h <;> cases h;exact .nil
 |s::r,c,q,h=>by
  simp only[Sh.cZ]at h;split at h
  .split at h
   .rename_i a b f g;cases h;exact .cons (lB e s _ a f) (cw e r _ b g)
   .cases h
  .cases h
end
inductive bh where
 |var (s:Sh) (st:Bool)
 |log (t:Ty) (e:yb)
 |map (tid:yb) (k v:Ty)
 |row (t:Ty) (st:Bool) (e:yb)
 |aJ (t:Ty) (np:List Nat) (st:Bool) (e:yb)
 |bz (t:Ty) (np:List Nat) (st:Bool) (e:yb) (s:Sh)
 |mY (ver s:Nat) (st:Bool) (e:yb) (n:Nat) (l:List Sh)
 |gone
def iy(k v:Ty):Ty:=.sl (.st [k,v])
def EH(L:Lk)(t:Ty)(d:TD):yO t.aE:=(d.flat L).bind λx=>TP.to gZ x t
theorem UO{L:Lk}{t:Ty}{d:TD}{y:t.aE}(h:EH L t d=ab y):Wk (d.er L) (.p (t.enc y)):=by
 obtain⟨x,g,j⟩:=yf.1 h;have c:(d.er L).flat=ab x.pe:=by rw[qp,g];rfl
 have e:Wk (d.er L) (.p x.pe):=⟨(tn _ _ c).symm,(xw c).symm,λJ vs r=>by simp only[yG];exact pG _ _ _ c r⟩;have f:=oj j;exact⟨e.size.trans f.size,e.agg.trans f.agg,λJ vs r=>(Wk.p f).cG J vs (e.cG J vs r)⟩
def bh.mt(L:Lk):bh->ah->yO (ah×yL TV)
 |.var s st,.var d c=>if st=c\/st=af then(s.mt L d).map λq=>(.var q.1 st,q.2) else ad
 |.log t e,.log u h I=>if e=h then(Ty.be u t I).map λg=>(.log t e g,[⟨.sl t,g⟩]) else ad
 |.map E k v,.map F Q M l=>if E=F then(Ty.cast (iy Q M) (iy k v) l).map λ(m:yL (k.aE×v.aE))=>(.map E k v m,[⟨iy k v,m⟩]) else ad
 |.row t st e,.aF u v c h I=>if(st=c\/st=af)/\e=h then(Ty.be u t I).map λg=>(.aF t v st e g,[⟨.sl (.st []),v⟩,⟨.sl t,g⟩]) else ad
 |.aJ t z st e,.aJ u j v c h x f=>if(st=c\/st=af)/\e=h/\z=j then(Ty.be u t x).bind λg=>(Ty.be u t f).map λzs=>
   (.aJ t z v st e g zs,[⟨.sl (.st []),v⟩,⟨.sl t,g⟩,⟨.sl t,zs⟩]) else ad
 |.aJ t z st e,.bz u j v c h x A f=>if st=c/\e=h/\z=j then(Ty.be u t x).bind λg=>(Ty.be u t f).bind λzs=>(EH L t A).map λy=>
   (.aJ t z v st e (g++[y]) zs,[⟨.sl (.st []),v⟩,⟨.sl t,g++[y]⟩,⟨.sl t,zs⟩]) else ad
 |.bz t z st e s,.bz u j v c h x A f=>if st=c/\e=h/\z=j then(Ty.be u t x).bind λg=>(Ty.be u t f).bind λzs=>(s.mt L A).map λq=>
   (.bz t z v st e g q.1 zs,[⟨.sl (.st []),v⟩,⟨.sl t,g⟩,⟨.sl t,zs⟩]++q.2) else ad
 |.mY G s st e n l,.row M S c h (.arr T U W)=>if G=M/\s=S/\st=c/\e=h/\n=T/\s=U then(Sh.cZ L l W).map λq=>(.row G s st e (.arr n s q.1),q.2) else ad
 |.gone,.gone=>ab (.gone,[])
 |_,_=>ad
def bh.fill:bh->yL TV->yO (ah×yL TV)
 |.var s st,vs=>(s.fill vs).map λq=>(.var q.1 st,q.2)
 |.log t e,vs=>match vs with
  |x::r=>(Ty.cast x.1 (.sl t) x.2).map λ(y:yL t.aE)=>(.log t e y,r)
  |[]=>ad
 |.map c k v,vs=>match vs with
  |x::r=>(Ty.cast x.1 (iy k v) x.2).map λ(y:yL (k.aE×v.aE))=>(.map c k v y,r)
  |[]=>ad
 |.row t st e,vs=>match vs with
  |x::y::r=>(Ty.cast x.1 aGS x.2).bind λ(v:yL Unit)=>(Ty.cast y.1 (.sl t) y.2).map λ(l:yL t.aE)=>(.aF t v st e l,r)
  |_=>ad
 |.aJ t f st e,vs=>match vs with
  |x::y::z::r=>(Ty.cast x.1 aGS x.2).bind λ(v:yL Unit)=>(Ty.cast y.1 (.sl t) y.2).bind λ(l:yL t.aE)=>(Ty.cast z.1 (.sl t) z.2).bind λ(m:yL t.aE)=>ab (.aJ t f v st e l m,r)
  |_=>ad
 |.bz t f st e s,vs=>match vs with
  |x::y::z::r=>(Ty.cast x.1 aGS x.2).bind λ(v:yL Unit)=>(Ty.cast y.1 (.sl t) y.2).bind λ(l:yL t.aE)=>(Ty.cast z.1 (.sl t) z.2).bind λ(m:yL t.aE)=>
   (s.fill r).map λq=>(.bz t f v st e l q.1 m,q.2)
  |_=>ad
 |.mY g s st e n l,vs=>(Sh.fills l vs).map λq=>(.row g s st e (.arr n s q.1),q.2)
 |.gone,vs=>ab (.gone,vs)
def bh.cZ(L:Lk):yL bh->yL ah->yO (yL ah×yL TV)
 |[],[]=>ab ([],[])
 |s::r,d::q=>match bh.mt L s d,bh.cZ L r q with
  |some a,ab b=>ab (a.1::b.1,a.2++b.2)
  |_,_=>ad
 |_,_=>ad
def bh.fills:yL bh->yL TV->yO (yL ah×yL TV)
 |[],vs=>ab ([],vs)
 |s::r,vs=>(bh.fill s vs).bind λa=>(bh.fills r a.2).map λb=>(a.1::b.1,b.2)
theorem EI{O:Type}{t:Ty}(v:yL Unit)(a b:yL t.aE)(k:yL Unit->yL t.aE->yL t.aE->yO O):
 ((Ty.cast aGS aGS v).bind λ(v:yL Unit)=>(Ty.cast (.sl t) (.sl t) a).bind λ(l:yL t.aE)=>(Ty.cast (.sl t) (.sl t) b).bind λ(m:yL t.aE)=>k v l m)=k v a b:=by
 have c:=YB aGS v;have e:=YB (.sl t) a;have f:=YB (.sl t) b;rw[c,e,f];rfl
theorem ZHK{L:Lk}{s:bh}{d:ah}{q:ah×yL TV}(h:s.mt L d=ab q)(yJ:yL TV):s.fill (q.2++yJ)=ab (q.1,yJ):=by
 unfold bh.mt at h;split at h
 .split at h
  .obtain⟨w,f,rfl⟩:=Zd h;simp only[bh.fill,mX _ _ w f yJ,yz]
  .cases h
 .split at h
  .obtain⟨w,f,rfl⟩:=Zd h;rename_i t e _ _ _ _;exact congrArg (Option.map λ(y:yL t.aE)=>(ah.log t e y,yJ)) (YB (.sl t) w)
  .cases h
 .split at h
  .obtain⟨w,f,rfl⟩:=Zd h;rename_i E k v _ _ _ _ _;exact congrArg (Option.map λ(y:yL (k.aE×v.aE))=>(ah.map E k v y,yJ)) (YB (iy k v) w)
  .cases h
 .split at h
  .obtain⟨w,f,rfl⟩:=Zd h;rename_i t st e _ v _ _ _ _;have Q:=YB aGS v;have S:=YB (.sl t) w;show((Ty.cast aGS aGS v).bind λ(v:yL Unit)=>(Ty.cast (.sl t) (.sl t) w).map λ(l:yL t.aE)=>(ah.aF t v st e l,yJ))=_;rw[Q,S];rfl
  .cases h
 .rename_i t j st e u x v z G A g;split at h
  .obtain⟨a,f,h⟩:=yf.1 h;obtain⟨b,I,rfl⟩:=Zd h;exact EI v a b (λv l m=>ab (ah.aJ t j v st e l m,yJ))
  .cases h
 .rename_i t j st e u x v z G A F g;split at h
  .obtain⟨a,f,h⟩:=yf.1 h;obtain⟨b,I,h⟩:=yf.1 h;obtain⟨c,M,rfl⟩:=Zd h;exact EI v (a++[c]) b (λv l m=>ab (ah.aJ t j v st e l m,yJ))
  .cases h
 .rename_i t j st e s u x v z G A F g;split at h
  .obtain⟨a,f,h⟩:=yf.1 h;obtain⟨b,I,h⟩:=yf.1 h;obtain⟨c,M,rfl⟩:=Zd h;have:=EI v a b (λv l m=>(s.fill (c.2++yJ)).map λq=>(ah.bz t j v st e l q.1 m,q.2));refine this.trans ?_;rw[mX _ _ c M yJ];rfl
  .cases h
 .split at h
  .obtain⟨w,f,rfl⟩:=Zd h;simp only[bh.fill,bv _ _ w f yJ,yz]
  .cases h
 .cases h;rfl
 .cases h
theorem oz{L:Lk}:∀{l:yL bh}{H:yL ah}{q:yL ah×yL TV},bh.cZ L l H=ab q->∀yJ,bh.fills l (q.2++yJ)=ab (q.1,yJ)
 |[],[],q,h,yJ=>by cases h;rfl
 |[],_::_,q,h,yJ=>by cases h
 |_::_,[],q,h,yJ=>by cases h
 |s::r,d::H,q,h,yJ=>by
  simp only[bh.cZ]at h;split at h
  .rename_i a b c e;cases h;simp only[bh.fills,yac,ZHK c,ya,oz e,yz]
  .cases h
theorem ZMk{L:Lk}{s:bh}{d:ah}{q:ah×yL TV}(h:s.mt L d=ab q):dc (ab q.1)=dc (ab d):=by
 unfold bh.mt at h;split at h
 .split at h
  .obtain⟨w,f,rfl⟩:=Zd h;rfl
  .cases h
 .split at h
  .obtain⟨w,f,rfl⟩:=Zd h;obtain⟨e,g⟩:=ZB f;subst e;subst g;rfl
  .cases h
 .split at h
  .obtain⟨w,f,rfl⟩:=Zd h;rfl
  .cases h
 .split at h
  .obtain⟨w,f,rfl⟩:=Zd h;obtain⟨e,g⟩:=ZB f;subst e;subst g;rfl
  .cases h
 .split at h
  .obtain⟨a,f,h⟩:=yf.1 h;obtain⟨b,g,rfl⟩:=Zd h;obtain⟨e,l⟩:=ZB f;subst e;obtain⟨_,j⟩:=ZB g;subst l;subst j;rfl
  .cases h
 .split at h
  .obtain⟨a,f,h⟩:=yf.1 h;obtain⟨b,g,h⟩:=yf.1 h;obtain⟨c,l,rfl⟩:=Zd h;obtain⟨e,j⟩:=ZB f;subst e;obtain⟨_,m⟩:=ZB g;subst j;subst m;simp only[dc,yn,yam,yce];rw[Nat.add_assoc,Nat.add_comm (0+1)]
  .cases h
 .split at h
  .obtain⟨a,f,h⟩:=yf.1 h;obtain⟨b,g,h⟩:=yf.1 h;obtain⟨c,l,rfl⟩:=Zd h;obtain⟨e,j⟩:=ZB f;subst e;obtain⟨_,m⟩:=ZB g;subst j;subst m;rfl
  .cases h
 .split at h
  .obtain⟨w,f,rfl⟩:=Zd h;rfl
  .cases h
 .cases h;rfl
 .cases h
theorem qX{L:Lk}:∀{l:yL bh}{H:yL ah}{q:yL ah×yL TV},bh.cZ L l H=ab q->q.1.length=H.length/\lk q.1=lk H
 |[],[],q,h=>by cases h;exact⟨rfl,rfl⟩
 |[],_::_,q,h=>by cases h
 |_::_,[],q,h=>by cases h
 |s::r,d::H,q,h=>by
  simp only[bh.cZ]at h;split at h
  .rename_i a b c e;cases h;obtain⟨f,g⟩:=qX e;refine⟨by simp[f],funext λi=> ?_⟩
   cases i with
   |zero=>exact ZMk c
   |succ i=>exact congrFun g i
  .cases h
theorem UP:∀(l:yL Dv){m m':yL Dv},cu m m'->cu (l++m) (l++m')
 |[],_,_,h=>h
 |x::l,_,_,h=>.cons (Wk.refl x) (UP l h)
theorem UQ{l m:yL Dv}{d d':Dv}(h:Wk d d'):cu (l++d::m) (l++d'::m):=UP l (.cons h (cu.refl m))
theorem ZHL{n s:Nat}(xs:yL Pl):Wk (.arr n s (xs.map .p)) (.p (.arr n s xs)):=⟨rfl,rfl,λJ vs r=>by
 simp only[yG,aq]at r ⊢;obtain⟨c,e,f⟩:=r;exact⟨by simpa using c,λx g=>e (.p x) (List.mem_map_of_mem g),jq.1 f⟩⟩
theorem ZMl{n s:Nat}{d:Dv}{x:Pl}(l m:yL Pl)(h:Wk d (.p x)):Wk (.arr n s (l.map .p++d::m.map .p)) (.p (.arr n s (l++x::m))):=by
 have e:Wk (.arr n s (l.map .p++d::m.map .p)) (.arr n s (l.map .p++.p x::m.map .p)):=cu.arr (UQ h);have c:=ZHL (n:=n) (s:=s) (l++x::m);rw[yaq,yaf]at c;exact⟨rfl,rfl,λJ vs r=>c.cG J vs (e.cG J vs r)⟩
theorem UR{L M:Lk}{t:Ty}{f:yL Nat}{v:yL Unit}{st:Bool}{e:yb}{a b:yL t.aE}{mid:TD}{c:t.aE}(g:Wk (mid.er L) (.p (t.enc c))):
 dI ((ah.bz t f v st e a mid b).er L) ((ah.aJ t f v st e (a++[c]) b).er M):=by
 have h:=ZMl (a.map t.enc) (b.map λx=>(Wi f (.v t x)).pe) (n:=a.length+(b.length+1)) (s:=t.size) g;rw[ybc,ybc]at h;have j:(a++[c]).length+b.length=a.length+(b.length+1):=by rw[yn,yam,yce];omega
 have l:(a++[c]).map t.enc++(b.map λx=>(Wi f (.v t x)).pe)=a.map t.enc++t.enc c::b.map λx=>(Wi f (.v t x)).pe:=by rw[yaq,yac];rfl
 rw[ah.er,ah.er,j,l];exact .row ⟨h,rfl⟩
theorem ZMm{L M:Lk}(y:∀id t,Yb L id t ad=Yb M id t ad){s:bh}{d:ah}{q:ah×yL TV}(h:s.mt L d=ab q):dI (d.er L) (q.1.er M):=by
 unfold bh.mt at h;split at h
 .split at h
  .rename_i e;obtain⟨w,f,rfl⟩:=Zd h;rcases e with e|e
   .subst e;exact .var (lB y _ _ w f)
   .subst e;exact .kg (lB y _ _ w f)
  .cases h
 .split at h
  .rename_i e;subst e;obtain⟨w,f,rfl⟩:=Zd h;obtain⟨e,g⟩:=ZB f;subst e;subst g;exact .refl _
  .cases h
 .split at h
  .rename_i e;subst e;obtain⟨w,f,rfl⟩:=Zd h;obtain⟨e,g⟩:=Qz f;unfold iy at e;simp only[Ty.sl.injEq,Ty.st.injEq,List.cons.injEq,and_true]at e;obtain⟨j,l⟩:=e;subst j;subst l;subst g;exact .refl _
  .cases h
 .split at h
  .rename_i e;obtain⟨e0,j⟩:=e;subst j;obtain⟨w,f,rfl⟩:=Zd h;obtain⟨e,g⟩:=ZB f;subst e;subst g;rcases e0 with e0|e0
   .subst e0;exact .refl _
   .subst e0;exact .lock
  .cases h
 .split at h
  .rename_i e;obtain⟨e0,j,l⟩:=e;subst j;subst l;obtain⟨a,f,h⟩:=yf.1 h;obtain⟨b,g,rfl⟩:=Zd h;obtain⟨e,m⟩:=ZB f;subst e;obtain⟨_,x⟩:=ZB g;subst m;subst x;rcases e0 with e0|e0
   .subst e0;exact .refl _
   .subst e0;exact .lock
  .cases h
 .rename_i _ _ _ _ _ _ _ _ _ E F A;split at h
  .rename_i e;obtain⟨e0,j,l⟩:=e;subst e0;subst j;subst l;obtain⟨a,f,h⟩:=yf.1 h;obtain⟨b,g,h⟩:=yf.1 h;obtain⟨c,m,rfl⟩:=Zd h;obtain⟨e,x⟩:=ZB f;subst e;obtain⟨_,z⟩:=ZB g;subst x;subst z;exact UR (UO m)
  .cases h
 .split at h
  .rename_i e;obtain⟨e0,j,l⟩:=e;subst e0;subst j;subst l;obtain⟨a,f,h⟩:=yf.1 h;obtain⟨b,g,h⟩:=yf.1 h;obtain⟨c,m,rfl⟩:=Zd h;obtain⟨e,x⟩:=ZB f;subst e;obtain⟨_,z⟩:=ZB g;subst x;subst z;rw[ah.er,ah.er];exact .row ⟨cu.arr (UQ (lB y _ _ c m)),rfl⟩
  .cases h
 .split at h
  .rename_i e;obtain⟨rfl,rfl,rfl,rfl,rfl,rfl⟩:=e;obtain⟨w,f,rfl⟩:=Zd h;rw[ah.er,ah.er,TD.er,TD.er];exact .row ⟨cu.arr (cw y _ _ w f),rfl⟩
  .cases h
 .cases h;exact .refl _
 .cases h
theorem qY{L M:Lk}(c:∀id t,Yb L id t ad=Yb M id t ad):∀{l:yL bh}{H:yL ah}{q:yL ah×yL TV},bh.cZ L l H=ab q->ca (H.map (ah.er L)) (q.1.map (ah.er M))
 |[],[],q,h=>by cases h;exact .nil
 |[],_::_,q,h=>by cases h
 |_::_,[],q,h=>by cases h
 |s::r,d::H,q,h=>by
  simp only[bh.cZ]at h;split at h
  .rename_i a b e f;cases h;exact .cons (ZMm c e) (qY c f)
  .cases h
def dN:(ts:yL Ty)->Ty.aK ts->yL TV
 |[],_=>[]
 |[t],x=>[⟨t,x⟩]
 |t::u::r,x=>⟨t,x.1⟩::dN (u::r) x.2
def hU:(ts:yL Ty)->yL TV->yO (Ty.aK ts)
 |[],[]=>ab ()
 |[t],[x]=>Ty.cast x.1 t x.2
 |t::u::r,x::l=>jA (Ty.cast x.1 t x.2) (hU (u::r) l)
 |_,_=>ad
theorem jE:∀(ts:yL Ty)(l:yL TV)(x:Ty.aK ts),hU ts l=ab x->dN ts x=l
 |[],[],x,h=>rfl
 |[],_::_,x,h=>by cases h
 |[t],[],x,h=>by cases h
 |[t],[y],x,h=>by
  obtain⟨e,c⟩:=Qz (show Ty.cast y.1 t y.2=ab x from h)
  obtain⟨u,y⟩:=y;dsimp only at e c;subst e;subst c
  rfl
 |[t],_::_::_,x,h=>by cases h
 |t::u::r,[],x,h=>by cases h
 |t::u::r,y::l,x,h=>by
  obtain⟨g,c⟩:=QY (α:=t.aE) (β:=Ty.aK (u::r)) (show jA (Ty.cast y.1 t y.2) (hU (u::r) l)=ab x from h)
  obtain⟨e,f⟩:=Qz g;obtain⟨j,y⟩:=y;dsimp only at e f;subst e;have:=jE (u::r) l x.2 c;show(⟨j,x.1⟩:TV)::dN (u::r) x.2=_;rw[this,f]
abbrev ce:=yL (Nat×Sh)
def qZ(sl:ce)(n:Nat):yL Sh:=(yu n).map λi=>(sl.lookup i).getD .an
def Q2(n:Nat)(sl:ce)(es:yL bh)(vs:yL TV):yO (yL TD×yL ah):=
 (Sh.fills (qZ sl n) vs).bind λq=>(bh.fills es q.2).bind λw=>if w.2.isEmpty then ab (q.1,w.1) else ad
theorem EJ:∀{l:yL Sh}{vs:yL TV}{q:yL TD×yL TV},Sh.fills l vs=ab q->q.1.length=l.length
 |[],vs,q,h=>by simp only[Sh.fills]at h;cases h;rfl
 |s::r,vs,q,h=>by
  simp only[Sh.fills]at h;obtain⟨a,e,h⟩:=yf.1 h;obtain⟨b,c,rfl⟩:=Zd h;simp[EJ c]
theorem uz{n:Nat}{sl:ce}{es:yL bh}{vs:yL TV}{q:yL TD×yL ah}(h:Q2 n sl es vs=ab q):q.1.length=n:=by
 unfold Q2 at h;obtain⟨a,c,h⟩:=yf.1 h;obtain⟨b,e,h⟩:=yf.1 h;split at h
 .cases h;rw[EJ c];simp[qZ]
 .cases h
structure bW where
 ex:Ex
 sl:ce
 es:List bh
 ty:List Ty
def bW.sum:yL bW->Type
 |[]=>Empty
 |[e]=>Ty.aK e.ty
 |e::f::r=>Ty.aK e.ty⊕bW.sum (f::r)
abbrev Kc(O:Type):=Ex->yL TD->yL ah->yO O
def xT{O:Type}(n:Nat):(l:yL bW)->bW.sum l->Kc O->yO O
 |[],_,_=>ad
 |[e],o,K=>(Q2 n e.sl e.es (dN e.ty o)).bind λs=>K e.ex s.1 s.2
 |e::f::r,o,K=>match (o:Ty.aK e.ty⊕bW.sum (f::r)) with
  |.inl o=>(Q2 n e.sl e.es (dN e.ty o)).bind λs=>K e.ex s.1 s.2
  |.inr o=>xT n (f::r) o K
def mZ:(l:yL bW)->bW.sum l->bW->yL TV->Prop
 |[],_,_,_=>False
 |[e],o,x,vs=>x=e/\vs=dN e.ty o
 |e::f::r,o,x,vs=>match (o:Ty.aK e.ty⊕bW.sum (f::r)) with
  |.inl o=>x=e/\vs=dN e.ty o
  |.inr o=>mZ (f::r) o x vs
theorem re{O:Type}{n:Nat}{K:Kc O}{out:O}:∀{l:yL bW}{o:bW.sum l},xT n l o K=ab out->∃e vs s,mZ l o e vs/\Q2 n e.sl e.es vs=ab s/\K e.ex s.1 s.2=ab out
 |[],_,h=>by cases h
 |[e],o,h=>by
  obtain⟨s,c,g⟩:=yf.1 (show(Q2 n e.sl e.es (dN e.ty o)).bind (λs=>K e.ex s.1 s.2)=ab out from h)
  exact⟨e,_,s,⟨rfl,rfl⟩,c,g⟩
 |e::f::r,.inl o,h=>by
  obtain⟨s,c,g⟩:=yf.1 (show(Q2 n e.sl e.es (dN e.ty o)).bind (λs=>K e.ex s.1 s.2)=ab out from h)
  exact⟨e,_,s,⟨rfl,rfl⟩,c,g⟩
 |e::f::r,.inr o,h=>by
  obtain⟨j,vs,s,c,g,m⟩:=re (l:=f::r) (o:=o) h;exact⟨j,vs,s,c,g,m⟩
theorem EK{A B:yL ar}(hl:A.length=B.length)(h:∀(i:Nat)(a b:ar),A[i]? =ab a->B[i]? =ab b->dI a b):ca A B:=by
 induction A generalizing B with
 |nil=>cases B with
  |nil=>exact .nil
  |cons _ _=>simp at hl
 |cons a A c=>cases B with
  |nil=>simp at hl
  |cons b B=>exact .cons (h 0 a b rfl rfl) (c (by simpa using hl) λi a b e f=>h (i+1) a b e f)
def Ty.na(f:(T:Ty)->TD->yO T.aE):(c:yL Ty)->yL TD->yO (Ty.aK c)
 |[],[]=>ab ()
 |[t],[d]=>f t d
 |t::u::r,d::e=>jA (f t d) (Ty.na f (u::r) e)
 |_,_=>ad
def EL{T:Ty}(f:TD->yO T.aE):yL TD->yO (yL T.aE)
 |[]=>ab []
 |d::r=>(jA (f d) (EL f r)).map λq=>q.1::q.2
def EM(H:yL ah)(id:Nat)(u:Ty):yO (yL u.aE):=
 match H[id]? with
 |some (.aF c v af e l)=>Ty.be c u l
 |_=>ad
theorem ZHN{H:yL ah}{id:Nat}{u:Ty}{l:yL u.aE}(h:EM H id u=ab l):bp (aA H) ((TD.rw id).er (lk H)) ((Ty.sl u).enc l):=by
 unfold EM at h;split at h
 .rename_i c v e s g;obtain⟨j,h⟩:=ZB h;subst j;subst h;have m:(aA H)[id]? =ab (.row v.length c.size af e (.p (.arr l.length c.size (l.map c.enc)))):=ZD g;have:=bp.mI (lo:=0) (n:=l.length) m (by omega);rw[(QJ g).1,tZ];rw[List.drop_zero, <-yx (f:=c.enc),yag,yx]at this;exact this
 .cases h
def oA(H:yL ah):Nat->(T:Ty)->TD->yO T.aE
 |0,_,_=>ad
 |n+1,T,d=>match d with
  |.p x=>TP.to gZ x T
  |.own id nn t c=>qj ae t (Yb (lk H) id t c) T
  |.agg f=>qk (λg=>Ty.na (oA H n) g f) T
  |.rw id=>match T with
   |.sl u=>EM H id u
   |_=>ad
  |.rv id v s lo k=>match T with
   |.sl u=>match H[id]? with
    |some (.row w h af e d)=>if(w==v&&h==s&&s==u.size)=ae then match d with
      |.p x=>x.dk.bind λr=>(Ty.be r.t u r.l).bind λl=>if ag (lo+k<=r.n)=ae then ab ((l.drop lo).take k) else ad
      |.arr N j f=>if(j==s&&ag (lo+k<=N))=ae then(EL (oA H n u) f).map λ(l:yL u.aE)=>(l.drop lo).take k else ad
      |_=>ad
     else ad
    |_=>ad
   |_=>ad
  |.view id [] s lo k=>match T with
   |.sl u=>match H[id]? with
    |some (.var (.p x) af)=>if(s==u.size)=ae then x.dk.bind λr=>(Ty.be r.t u r.l).bind λl=>if ag (lo+k<=r.n)=ae then ab ((l.drop lo).take k) else ad else ad
    |_=>ad
   |_=>ad
  |_=>ad
theorem US{H:yL ar}{L:Lk}{f:(T:Ty)->TD->yO T.aE}(j:∀T d y,f T d=ab y->bp H (d.er L) (T.enc y)):∀(g:yL Ty)(e:yL TD)(y:Ty.aK g),Ty.na f g e=ab y->
 (TD.au L e).length=(Ty.encs g y).length/\∀(i:Nat)(d:Dv)(z:Pl),(TD.au L e)[i]? =ab d->(Ty.encs g y)[i]? =ab z->bp H d z
 |[],[],y,h=>⟨rfl,λi d z c _=>by simp[TD.au]at c⟩
 |[],_::_,y,h=>by cases h
 |[t],[],y,h=>by cases h
 |[t],[d],y,h=>by
  refine⟨rfl,λi m z c l=> ?_⟩
  cases i with
  |zero=>cases c;cases l;exact j t d y h
  |succ i=>simp[TD.au]at c
 |[t],_::_::_,y,h=>by cases h
 |t::u::r,[],y,h=>by cases h
 |t::u::r,d::e,y,h=>by
  obtain⟨c,l⟩:=QY (α:=t.aE) (β:=Ty.aK (u::r)) h;obtain⟨A,E⟩:=US j (u::r) e y.2 l;refine⟨by rw[TD.au,Ty.encs,yam,yam,A],λi m z s x=> ?_⟩
  cases i with
  |zero=>cases s;cases x;exact j t d y.1 c
  |succ i=>exact E i m z s x
theorem UT{H:yL ar}{L:Lk}{T:Ty}{f:TD->yO T.aE}(g:∀d y,f d=ab y->bp H (d.er L) (T.enc y)):∀(c:yL TD)(l:yL T.aE),EL f c=ab l->
 (TD.au L c).length=(l.map T.enc).length/\∀(i:Nat)(d:Dv)(z:Pl),(TD.au L c)[i]? =ab d->(l.map T.enc)[i]? =ab z->bp H d z
 |[],l,h=>by cases h;exact⟨rfl,λi d z e _=>by simp[TD.au]at e⟩
 |d::c,l,h=>by
  obtain⟨q,e,rfl⟩:=Zd h;obtain⟨e,s⟩:=QY e;obtain⟨t,x⟩:=UT g c q.2 s;refine⟨by rw[TD.au,yaf,yam,yam,t],λi A z j m=> ?_⟩
  cases i with
  |zero=>cases j;cases m;exact g d q.1 e
  |succ i=>exact x i A z j m
theorem uA{H:yL ah}:∀(n:Nat)(T:Ty)(d:TD)(y:T.aE),oA H n T d=ab y->bp (aA H) (d.er (lk H)) (T.enc y)
 |0,_,_,_,h=>by cases h
 |n+1,T,d,y,h=>by
  unfold oA at h;split at h
  .exact .wk (.p _) (oj h)
  .rename_i id nn t c;obtain⟨l,_,j,rfl⟩:=zX (nn:=ad) h;rw[j,TD.er];exact .wk (.own id nn t.size _) (bw.gH (bc.refl _))
  .rename_i Q;obtain⟨fs,z,h1,j⟩:=AA h;rw[j,TD.er];obtain⟨S,U⟩:=US (λT d y=>uA n T d y) fs Q z h1;exact .agg S U
  .rename_i id
   cases T with
   |sl u=>exact ZHN h
   |_=>cases h
  .rename_i id v s lo k;split at h
   .rename_i u;split at h
    .rename_i w s' e dd W;obtain⟨F,g⟩:=Za h;clear h;simp only[yi,yT]at F;obtain⟨⟨X,Y⟩,m⟩:=F;have A:=ZD W;rw[X,Y,m]at A;split at g
     .rename_i x;obtain⟨r,E,G⟩:=yf.1 g;obtain⟨l,f,I⟩:=yf.1 G;obtain⟨M,Z⟩:=Za I;cases Z;obtain⟨rn,rt,rl⟩:=r;obtain⟨j,f⟩:=ZB f;dsimp only at j f M;subst j;subst f;rw[ah.er,TD.er,V8 E]at A;have:=bp.mI A (yF M);rw[tZ,ycd,List.map_drop,TD.er,m];exact this
     .rename_i N s2 Q;obtain⟨E,G⟩:=Za g;simp only[yi,yT,yP]at E;obtain⟨q1,E⟩:=E;obtain⟨l,f,I⟩:=Zd G;subst I;obtain⟨S,U⟩:=UT (λd y=>uA n u d y) Q l f;rw[ah.er,TD.er,q1,m]at A;have:=bp.qh A E S U;rw[tZ,ycd,List.map_drop,TD.er,m];exact this
     .cases g
    .cases h
   .cases h
  .rename_i id s lo k;split at h
   .rename_i u;split at h
    .rename_i x W;obtain⟨F,g⟩:=Za h;rw[yT]at F;have A:=ZD W;obtain⟨r,E,G⟩:=yf.1 g;obtain⟨l,f,I⟩:=yf.1 G;obtain⟨M,Z⟩:=Za I;cases Z;obtain⟨rn,rt,rl⟩:=r;obtain⟨j,f⟩:=ZB f;dsimp only at j f M;subst j;subst f;rw[ah.er,TD.er,V8 E]at A;have:=bp.vw A (yF M);rw[tZ,ycd,List.map_drop,TD.er,F];exact .wk this (bw.gH (bc.refl _))
    .cases h
   .cases h
  .cases h
def oB:ah->ah
 |.row v s _ e d=>.row v s af e d
 |.aF t v _ e l=>.aF t v af e l
 |e=>e
def nb(ids:yL Nat)(H:yL ah):yL ah:=(yu H.length).zipWith (λi e=>if ids.contains i then oB e else e) H
theorem ZHP(e:ah):dc (ab (oB e))=dc (ab e):=by cases e <;> rfl
theorem UU(ids:yL Nat)(H:yL ah)(i:Nat):(nb ids H)[i]? =(H[i]?).map λe=>if ids.contains i then oB e else e:=by
 unfold nb;rw[List.getElem?_zipWith];rcases yck i H.length with h|h
 .rw[List.getElem?_range h,yae h];rfl
 .rw[yat (by simpa using h),yat h];rfl
theorem UV(ids:yL Nat)(H:yL ah):lk (nb ids H)=lk H:=by
 funext i;unfold lk;rw[UU]
 cases H[i]? with
 |none=>rfl
 |some e=>
  show dc (ab (if ids.contains i=ae then oB e else e))=_
  split
  .exact ZHP e
  .rfl
theorem ZCC(ids:yL Nat)(H:yL ah):ca (aA H) (aA (nb ids H)):=by
 refine EK (by rw[ZE,ZE];unfold nb;simp) λi a b c f=> ?_;unfold aA at c f;rw[yah]at c f;rw[UV,UU]at f
 cases g:H[i]? with
 |none=>rw[g]at c;cases c
 |some e=>
  rw[g]at c f;cases c;cases f;show dI (e.er (lk H)) (ah.er (lk H) (if ids.contains i=ae then oB e else e))
  split
  .cases e <;> first|exact .refl _|exact .lock
  .exact .refl _
def EN:yL ah->Nat->Bool
 |H,i=>match H[i]? with
  |some (.row _ _ _ _ _)=>ae
  |some (.aF _ _ _ _ _)=>ae
  |_=>af
def lC:ah->ah
 |.var d _=>.var d af
 |e=>oB e
theorem ZHQ(e:ah):dc (ab (lC e))=dc (ab e):=by cases e <;> rfl
def oC:ah->ah
 |.var d _=>.var d ae
 |.row v s _ e d=>.row v s ae e d
 |.aF t v _ e l=>.aF t v ae e l
 |.aJ t c v _ e a b=>.aJ t c v ae e a b
 |.bz t c v _ e a d b=>.bz t c v ae e a d b
 |e=>e
def nc(id:Nat)(H:yL ah):yL ah:=(yu H.length).zipWith (λi e=>if i=id then lC e else oC e) H
theorem ZHR(e:ah):dc (ab (oC e))=dc (ab e):=by cases e <;> rfl
theorem UW(id:Nat)(H:yL ah)(i:Nat):(nc id H)[i]? =(H[i]?).map λe=>if i=id then lC e else oC e:=by
 unfold nc;rw[List.getElem?_zipWith];rcases yck i H.length with h|h
 .rw[List.getElem?_range h,yae h];rfl
 .rw[yat (by simpa using h),yat h];rfl
theorem UX(id:Nat)(H:yL ah):lk (nc id H)=lk H:=by
 funext i;unfold lk;rw[UW]
 cases H[i]? with
 |none=>rfl
 |some e=>
  show dc (ab (if i=id then lC e else oC e))=_
  split
  .exact ZHQ e
  .exact ZHR e
def kF:ar->ar
 |.var d _=>.var d af
 |.row v s _ e d=>.row v s af e d
 |e=>e
def uB:ar->Bool
 |.var _ af=>ae
 |.row _ _ af _ _=>ae
 |_=>af
theorem ZKh(e:ar):dI e (kF e):=by cases e <;> first|exact .bS|exact .lock|exact .refl _
theorem ZMn{e:ar}(h:uB e=ae):kF e=e:=by
 cases e with
 |var d st=>cases st <;> first|rfl|cases h
 |row v s st e d=>cases st <;> first|rfl|cases h
 |_=>cases h
theorem ZFr{L:Lk}{x:ah}(h:kF ((lC x).er L)=(lC x).er L):(lC x).er L=kF (x.er L):=by
 cases x <;> first|rfl|exact h.symm
theorem ZHS{L:Lk}(x:ah):uB ((oC x).er L)=af:=by cases x <;> rfl
theorem ZKi{a b:ar}(h:cn (ab a)=cn (ab b)):kF a=kF b:=by
 cases a <;> cases b <;> simp_all[cn,kF]
theorem UY{H H':yL ar}(j:∀(i:Nat)(e:ar),uB e=ae->H[i]? =ab e->H'[i]? =ab e){d:Dv}{x:Pl}(h:bp H d x):bp H' d x:=by
 induction h with
 |p x=>exact .p x
 |own id nn s m=>exact .own id nn s m
 |agg l h f=>exact .agg l f
 |mI g c=>exact .mI (j _ _ rfl g) c
 |qh g c l h f=>exact .qh (j _ _ rfl g) c l f
 |vw g c=>exact .vw (j _ _ rfl g) c
 |wk h k f=>exact .wk f k
theorem ZFs{J:Sg}(ok:Ok J){id:Nat}{H:yL ah}(hE:cn (J.H[id]?)=cn ((aA H)[id]?)):∃H2,ca J.H H2/\∀(d:Dv)(x:Pl),bp (aA (nc id H)) d x->bp H2 d x:=by
 have g:∀(i:Nat)(e:ar),uB e=ae->(aA (nc id H))[i]? =ab e->i=id/\∃c,(aA H)[id]? =ab c/\e=kF c:=by
  intro i e f h;unfold aA at h;rw[yah,UX,UW]at h
  cases m:H[i]? with
  |none=>rw[m]at h;cases h
  |some c=>
   rw[m]at h;have j:(if i=id then lC c else oC c).er (lk H)=e:=ybp h
   clear h;by_cases s:i=id
   .rw[yW s]at j;subst s;refine⟨rfl,_,ZD m, ?_⟩;subst j;exact ZFr (ZMn f)
   .rw[yX s]at j;subst j;rw[ZHS]at f;cases f
 cases l:J.H[id]? with
 |none=>exact⟨J.H,ca.refl _,λd x h=>UY (λi e f q=>by
   obtain⟨_,c,t,_⟩:=g i e f q;rw[t,l]at hE
   cases c <;> simp[cn]at hE) h⟩
 |some y=>
  refine⟨J.H.set id (kF y),ca.dh l (ZKh y),λd x h=>UY (λi e f q=> ?_) h⟩;obtain⟨rfl,c,t,rfl⟩:=g i e f q;rw[t,l]at hE;rw[ycw (yp.1 l).1,ZKi hE]
mutual
def TD.rn(f:Nat->yO Nat):TD->yO TD
 |.p x=>ab (.p x)
 |.elem x=>ab (.elem x)
 |.am id e=>(f id).map λi=>.am i e
 |.own id nn t c=>(f id).map λi=>.own i nn t c
 |.view id e s lo n=>(f id).map λi=>.view i e s lo n
 |.agg h=>(TD.bi f h).map .agg
 |.arr n s h=>(TD.bi f h).map (.arr n s)
 |.fn g j=>(TD.bi f j).map (.fn g)
 |.iface t x=>(TD.rn f x).map (.iface t)
 |.bf h=>(TD.bi f h).map .bf
 |.mp id=>(f id).map .mp
 |.cz id=>(f id).map .cz
 |.cC id v l z=>(f id).map λi=>.cC i v l z
 |.pm id v=>(f id).map λi=>.pm i v
 |.rv id v s lo n=>(f id).map λi=>.rv i v s lo n
 |.aW id v e=>(f id).map λi=>.aW i v e
 |.rw id=>(f id).map .rw
 |.rp id e=>(f id).map λi=>.rp i e
 |.an=>ab .an
def TD.bi(f:Nat->yO Nat):yL TD->yO (yL TD)
 |[]=>ab []
 |x::r=>match TD.rn f x,TD.bi f r with
  |some y,ab c=>ab (y::c)
  |_,_=>ad
end
def ah.rn(f:Nat->yO Nat):ah->yO ah
 |.var d st=>(d.rn f).map λc=>.var c st
 |.row v s st e d=>(d.rn f).map λc=>.row v s st e c
 |.bz t j v st e h d g=>(d.rn f).map λc=>.bz t j v st e h c g
 |e=>ab e
def ah.bi(f:Nat->yO Nat):yL ah->yO (yL ah)
 |[]=>ab []
 |x::r=>match ah.rn f x,ah.bi f r with
  |some y,ab c=>ab (y::c)
  |_,_=>ad
def Rc(f:Nat->yO Nat)(L M:Lk):Prop:=∀id j t,f id=ab j->Yb L id t ad=Yb M j t ad
theorem ZKj{f:Nat->yO Nat}{L M:Lk}(h:Rc f L M){id j:Nat}(e:f id=ab j)(t:Ty)(c:yO (yL t.aE)):Yb L id t c=Yb M j t c:=by
 cases c with
 |none=>exact h id j t e
 |some _=>rfl
mutual
theorem iz{f:Nat->yO Nat}{L M:Lk}(h:Rc f L M):∀(d d':TD),d.rn f=ab d'->Dv.rn f (d.er L)=ab (d'.er M)
 |.p x,d',e=>by cases e;rfl
 |.elem x,d',e=>by cases e;rfl
 |.am id m,d',e=>by
  obtain⟨i,j,rfl⟩:=Zd e
  simp only[TD.er,Dv.rn,j,yz]
 |.own id nn t c,d',e=>by
  obtain⟨i,j,rfl⟩:=Zd e
  simp only[TD.er,Dv.rn,j,yz,ZKj h j]
 |.view id m s lo n,d',e=>by
  obtain⟨i,j,rfl⟩:=Zd e
  simp only[TD.er,Dv.rn,j,yz]
 |.agg l,d',e=>by
  obtain⟨i,j,rfl⟩:=Zd e
  simp only[TD.er,Dv.rn,cx h l i j,yz]
 |.arr n s l,d',e=>by
  obtain⟨i,j,rfl⟩:=Zd e
  simp only[TD.er,Dv.rn,cx h l i j,yz]
 |.fn g l,d',e=>by
  obtain⟨i,j,rfl⟩:=Zd e
  simp only[TD.er,Dv.rn,cx h l i j,yz]
 |.iface t x,d',e=>by
  obtain⟨i,j,rfl⟩:=Zd e
  simp only[TD.er,Dv.rn,iz h x i j,yz]
 |.bf l,d',e=>by
  obtain⟨i,j,rfl⟩:=Zd e
  simp only[TD.er,Dv.rn,cx h l i j,yz]
 |.mp id,d',e=>by
  obtain⟨i,j,rfl⟩:=Zd e
  simp only[TD.er,Dv.rn,j,yz]
 |.cz id,d',e=>by
  obtain⟨i,j,rfl⟩:=Zd e
  simp only[TD.er,Dv.rn,j,yz]
 |.cC id v y z,d',e=>by
  obtain⟨i,j,rfl⟩:=Zd e
  simp only[TD.er,Dv.rn,j,yz]
 |.pm id v,d',e=>by
  obtain⟨i,j,rfl⟩:=Zd e
  simp only[TD.er,Dv.rn,j,yz]
 |.rv id v s lo n,d',e=>by
  obtain⟨i,j,rfl⟩:=Zd e
  simp only[TD.er,Dv.rn,j,yz]
 |.aW id v m,d',e=>by
  obtain⟨i,j,rfl⟩:=Zd e
  simp only[TD.er,Dv.rn,j,yz]
 |.rw id,d',e=>by
  obtain⟨i,j,rfl⟩:=Zd e
  simp only[TD.er,Dv.rn,j,yz,dO,h _ _ _ j]
 |.rp id m,d',e=>by
  obtain⟨i,j,rfl⟩:=Zd e
  simp only[TD.er,Dv.rn,j,yz,dO,h _ _ _ j]
 |.an,d',e=>by cases e;rfl
theorem cx{f:Nat->yO Nat}{L M:Lk}(h:Rc f L M):∀(c es:yL TD),TD.bi f c=ab es->Dv.bi f (TD.au L c)=ab (TD.au M es)
 |[],es,e=>by cases e;rfl
 |x::r,es,e=>by
  simp only[TD.bi]at e;split at e
  .rename_i y g j l;cases e;simp only[TD.au,Dv.bi,iz h x y j,cx h r g l]
  .cases e
end
theorem EO{α:Type}(f:Nat->yO Nat)(g:α->Pl):∀(l:yL α)(m:yL Dv),Dv.bi f ((l.map λx=>.p (g x))++m)=(Dv.bi f m).map λq=>(l.map λx=>.p (g x))++q
 |[],m=>by cases h:Dv.bi f m <;> simp[h]
 |x::l,m=>by
  rw[yaf,yaa,Dv.bi,Dv.rn,EO f g l m];cases Dv.bi f m <;> rfl
theorem ZKk{α β:Type}{f:Nat->yO Nat}{g:α->Pl}{c:β->Pl}{l:yL α}{d d':Dv}{m:yL β}(h:Dv.rn f d=ab d'):
 Dv.bi f ((l.map λx=>.p (g x))++d::m.map λx=>.p (c x))=ab ((l.map λx=>.p (g x))++d'::m.map λx=>.p (c x)):=by
 have e:=EO f c m [];rw[ybb]at e;rw[EO,Dv.bi,h,e];simp[Dv.bi]
theorem UZ{f:Nat->yO Nat}{L M:Lk}(h:Rc f L M){e g:ah}(k:e.rn f=ab g):ar.rn f (e.er L)=ab (g.er M):=by
 cases e with
 |var d st=>
  obtain⟨i,c,rfl⟩:=Zd k
  simp only[ah.er,ar.rn,iz h d i c,yz]
 |row v s st e d=>
  obtain⟨i,c,rfl⟩:=Zd k
  simp only[ah.er,ar.rn,iz h d i c,yz]
 |bz t m v st e l d j=>
  obtain⟨i,c,rfl⟩:=Zd k
  simp only[ah.er,ar.rn,Dv.rn,ZKk (iz h d i c),yz]
 |_=>cases k;rfl
theorem ZD9{f:Nat->yO Nat}{L M:Lk}(h:Rc f L M):∀(c es:yL ah),ah.bi f c=ab es->ar.bi f (c.map (ah.er L))=ab (es.map (ah.er M))
 |[],es,e=>by cases e;rfl
 |x::r,es,e=>by
  simp only[ah.bi]at e;split at e
  .rename_i y g j l;cases e;simp only[yaf,ar.bi,UZ h j,ZD9 h r g l]
  .cases e
theorem ZHU{f:Nat->yO Nat}{e c:ah}(k:e.rn f=ab c):dc (ab c)=dc (ab e):=by
 cases e with
 |var d st=>obtain⟨i,g,rfl⟩:=Zd k;rfl
 |row v s st e d=>obtain⟨i,g,rfl⟩:=Zd k;rfl
 |bz t l v st e j d h=>obtain⟨i,g,rfl⟩:=Zd k;rfl
 |_=>cases k;rfl
theorem ZAk{f:Nat->yO Nat}:∀{c es:yL ah},ah.bi f c=ab es->es.length=c.length/\∀(j:Nat),dc (es[j]?)=dc (c[j]?)
 |[],es,e=>by cases e;exact⟨rfl,λ_=>rfl⟩
 |x::r,es,e=>by
  simp only[ah.bi]at e;split at e
  .rename_i y s g h;cases e;obtain⟨l,m⟩:=ZAk h;refine⟨by simp[l],λj=> ?_⟩
   cases j with
   |zero=>exact ZHU g
   |succ j=>exact m j
  .cases e
def Wz(H:yL ah)(all:yL Nat):yL Nat->yO (yL ah)
 |[]=>ab []
 |id::r=>match (H[id]?).bind (ah.rn (aR all)),Wz H all r with
  |some e,ab c=>ab (e::c)
  |_,_=>ad
theorem uC{H:yL ah}{all:yL Nat}:∀{ids:yL Nat}{Hin:yL ah},Wz H all ids=ab Hin->Hin.length=ids.length/\∀(j id:Nat),ids[j]? =ab id->id < H.length/\dc (Hin[j]?)=dc (H[id]?)
 |[],Hin,h=>by cases h;exact⟨rfl,λj id e=>by simp at e⟩
 |i::r,Hin,h=>by
  simp only[Wz]at h;split at h
  .rename_i e x g l;cases h;obtain⟨m,s⟩:=uC l;obtain⟨y,c,t⟩:=yf.1 g;refine⟨by simp[m],λj id f=> ?_⟩
   cases j with
   |zero=>
    cases f
    exact⟨(yp.1 c).1,by rw[c];exact ZHU t⟩
   |succ j=>exact s j id f
  .cases h
theorem WQ{H:yL ah}{all:yL Nat}{M:Lk}(h:Rc (aR all) (lk H) M):∀{ids:yL Nat}{Hin:yL ah},Wz H all ids=ab Hin->aH (aA H) all ids=ab (Hin.map (ah.er M))
 |[],Hin,e=>by cases e;rfl
 |i::r,Hin,e=>by
  simp only[Wz]at e;split at e
  .rename_i l m c f;cases e;obtain⟨s,g,j⟩:=yf.1 c;simp only[aH,ZD g,ya,UZ h j,WQ h f,yaf]
  .cases e
mutual
def TD.lay(L:Lk)(S:yL Nat):TD->TD
 |.own id nn t c=>if S.contains id then .own id nn t (ab (Yb L id t c)) else .own id nn t c
 |.agg g=>.agg (TD.lays L S g)
 |.arr m s g=>.arr m s (TD.lays L S g)
 |.fn f g=>.fn f (TD.lays L S g)
 |.iface t x=>.iface t (TD.lay L S x)
 |.bf g=>.bf (TD.lays L S g)
 |.p x=>.p x
 |.elem x=>.elem x
 |.am id e=>.am id e
 |.view id e s lo n=>.view id e s lo n
 |.mp id=>.mp id
 |.cz id=>.cz id
 |.cC id v h z=>.cC id v h z
 |.pm id v=>.pm id v
 |.rv id v s lo n=>.rv id v s lo n
 |.aW id v e=>.aW id v e
 |.rw id=>if S.contains id then .rv id (dO L id 0) (dO L id 1) 0 (dO L id 2) else .rw id
 |.rp id e=>if S.contains id then .aW id (dO L id 0) e else .rp id e
 |.an=>.an
def TD.lays(L:Lk)(S:yL Nat):yL TD->yL TD
 |[]=>[]
 |x::r=>TD.lay L S x::TD.lays L S r
end
mutual
def TD.under(n:Nat):TD->Bool
 |.own id _ _ c=>c.isSome || decide (id < n)
 |.rw id=>ag (id < n)
 |.rp id _=>ag (id < n)
 |.agg e=>TD.dl n e
 |.arr _ _ e=>TD.dl n e
 |.fn _ e=>TD.dl n e
 |.iface _ x=>TD.under n x
 |.bf e=>TD.dl n e
 |_=>ae
def TD.dl(n:Nat):yL TD->Bool
 |[]=>ae
 |x::r=>TD.under n x&&TD.dl n r
end
def ah.lay(L:Lk)(S:yL Nat):ah->ah
 |.var d st=>.var (d.lay L S) st
 |.row v s st e d=>.row v s st e (d.lay L S)
 |.bz t g v st e f d c=>.bz t g v st e f (d.lay L S) c
 |e=>e
def ah.under(n:Nat):ah->Bool
 |.var d _=>d.under n
 |.row _ _ _ _ d=>d.under n
 |.bz _ _ _ _ _ _ d _=>d.under n
 |_=>ae
def Lo(S:yL Nat)(n:Nat)(L M:Lk):Prop:=∀id t,S.contains id=af->id < n->Yb L id t ad=Yb M id t ad
mutual
theorem rf{L M:Lk}{S:yL Nat}{n:Nat}(h:Lo S n L M):∀(d:TD),d.under n=ae->(d.lay L S).er M=d.er L
 |.p _,_=>rfl
 |.elem _,_=>rfl
 |.am _ _,_=>rfl
 |.own id nn t c,e=>by
  rw[TD.lay];split
  .rfl
  .rename_i g
   cases c with
   |none=>
    have:id < n:=by simpa[TD.under] using e
    rw[TD.er,TD.er,h id t (by simpa using g) this]
   |some _=>rfl
 |.view _ _ _ _ _,_=>rfl
 |.agg f,e=>by rw[TD.lay,TD.er,TD.er,dp h f e]
 |.arr _ _ f,e=>by rw[TD.lay,TD.er,TD.er,dp h f e]
 |.fn _ f,e=>by rw[TD.lay,TD.er,TD.er,dp h f e]
 |.iface _ x,e=>by rw[TD.lay,TD.er,TD.er,rf h x e]
 |.bf f,e=>by rw[TD.lay,TD.er,TD.er,dp h f e]
 |.mp _,_=>rfl
 |.cz _,_=>rfl
 |.cC _ _ _ _,_=>rfl
 |.pm _ _,_=>rfl
 |.rv _ _ _ _ _,_=>rfl
 |.aW _ _ _,_=>rfl
 |.rw id,e=>by
  rw[TD.lay];split
  .rfl
  .rename_i g;have:id < n:=by simpa[TD.under] using e
   simp only[TD.er,dO,h id _ (by simpa using g) this]
 |.rp id _,e=>by
  rw[TD.lay];split
  .rfl
  .rename_i g;have:id < n:=by simpa[TD.under] using e
   simp only[TD.er,dO,h id _ (by simpa using g) this]
 |.an,_=>rfl
theorem dp{L M:Lk}{S:yL Nat}{n:Nat}(h:Lo S n L M):∀(c:yL TD),TD.dl n c=ae->TD.au M (TD.lays L S c)=TD.au L c
 |[],_=>rfl
 |x::r,e=>by
  simp only[TD.dl,yi]at e;rw[TD.lays,TD.au,TD.au,rf h x e.1,dp h r e.2]
end
theorem ZAl{L:Lk}{S:yL Nat}:∀(l:yL TD),(TD.lays L S l).length=l.length
 |[]=>rfl
 |_::r=>by rw[TD.lays,yam,yam,ZAl r]
theorem ZKl{L M:Lk}{S:yL Nat}{n:Nat}(h:Lo S n L M){e:ah}(c:e.under n=ae):(e.lay L S).er M=e.er L:=by
 cases e with
 |var d st=>rw[ah.lay,ah.er,ah.er,rf h d c]
 |row v s st e d=>rw[ah.lay,ah.er,ah.er,rf h d c]
 |bz t j v st e g d f=>rw[ah.lay,ah.er,ah.er,rf h d c]
 |_=>rfl
theorem ZKm{L:Lk}{S:yL Nat}(e:yO ah):dc (e.map (ah.lay L S))=dc e:=by
 cases e with
 |none=>rfl
 |some e=>cases e <;> rfl
theorem ZqB{α β:Type}(f:α->β):∀(ids:yL Nat)(A B:yL α),(ao A ids B).map f=ao (A.map f) ids (B.map f)
 |[],A,B=>by simp[ao]
 |id::r,A,[]=>by simp[ao]
 |id::r,A,b::B=>by simp only[ao,yaf];rw[ZqB f r,ybl]
def TD.bI(L:Lk)(ids:yL Nat):TD->TD
 |.own id nn t c=>if ids.contains id then .own id nn t c else .p (.sl nn t (Yb L id t c))
 |.agg e=>if TD.de ids e then .agg e else TD.df L e
 |d=>d
theorem EP{L:Lk}{ids:yL Nat}(d:TD):(d.bI L ids).er L=Dv.bI ids (d.er L):=by
 cases d with
 |own id nn t c=>
  rw[TD.bI,TD.er,Dv.bI]
  split <;> rfl
 |p _=>rfl
 |elem _=>rfl
 |am _ _=>rfl
 |view _ _ _ _ _=>rfl
 |agg e=>
  rw[TD.bI,TD.er,Dv.bI,eM];split
  .rw[TD.er]
  .exact SW _
 |arr _ _ _=>rfl
 |fn _ _=>rfl
 |iface _ _=>rfl
 |bf _=>rfl
 |mp _=>rfl
 |cz _=>rfl
 |cC _ _ _ _=>rfl
 |pm _ _=>rfl
 |rv _ _ _ _ _=>rfl
 |aW _ _ _=>rfl
 |rw _=>rfl
 |rp _ _=>rfl
 |an=>rfl
def lD(P:yg)(ts:yL TD):yL yo->yL yb->yO (yL TD)
 |[],_=>ab []
 |_,[]=>ab []
 |x::r,t::q=>match aS P ts t x,lD P ts r q with
  |some a,ab b=>ab (a::b)
  |_,_=>ad
theorem oD{P:yg}{ts:yL TD}{L:Lk}(ids:yL Nat):∀{l:yL yo}{ty:yL yb}{c:yL TD},lD P ts l ty=ab c->
 ((l.zip ty).map λq=>(Zo P (TD.au L ts) q.2 q.1).bI ids)=TD.au L (c.map (TD.bI L ids))
 |[],ty,c,h=>by cases h;rfl
 |x::r,[],c,h=>by cases h;rfl
 |x::r,t::q,c,h=>by
  simp only[lD]at h;split at h
  .rename_i a b e f;cases h;simp only[List.zip_cons_cons,yaf,TD.au,Zk (L:=L) e,EP,oD ids f]
  .cases h
theorem uD{L:Lk}(ids:yL Nat)(c:yL TD):(TD.au L c).map (Dv.bI ids)=TD.au L (c.map (TD.bI L ids)):=by
 rw[ZC,ZC,ybc,ybc];exact ycj λx _=>(EP x).symm
structure Fs(P:yg)where
 g:yr
 ps:List Sh
 es:List bh
 ins:List Ty
 xs:List bW
 M:Ty.aK ins->Option (bW.sum xs)
def Fs.Ok{P:yg}(s:Fs P):Prop:=
 ∀x o,s.M x=ab o->∃c R H,Sh.fills s.ps (dN s.ins x)=ab (c,R)/\bh.fills s.es R=ab (H,[])/\
  ∀e vs f,mZ s.xs o e vs->Q2 1 e.sl e.es vs=ab f->∃r,f.1=[r]/\cF P s.g (TD.au (lk H) c) (aA H) (r.er (lk f.2)) (aA f.2)
def cP{P:yg}:yL (Fs P)->Prop
 |[]=>True
 |s::r=>s.Ok/\cP r
mutual
def Sh.ids:Sh->TD->yL (Nat×Nat)
 |.own j _,d=>match d with
  |.own id _ _ ad=>[(j,id)]
  |_=>[]
 |.am j _,d=>match d with
  |.am id _=>[(j,id)]
  |_=>[]
 |.mp j,d=>match d with
  |.mp id=>[(j,id)]
  |_=>[]
 |.rw j,d=>match d with
  |.rw id=>[(j,id)]
  |_=>[]
 |.rp j _ _,d=>match d with
  |.rp id _=>[(j,id)]
  |_=>[]
 |.view j _ _ _ _,d=>match d with
  |.view id _ _ _ _=>[(j,id)]
  |_=>[]
 |.rv j _ _ _ _,d=>match d with
  |.rv id _ _ _ _=>[(j,id)]
  |_=>[]
 |.fn _ l,d=>match d with
  |.fn _ c=>Sh.gz l c
  |_=>[]
 |.agg l,d=>match d with
  |.agg c=>Sh.gz l c
  |_=>[]
 |.arr _ _ l,d=>match d with
  |.arr _ _ c=>Sh.gz l c
  |_=>[]
 |.bf l,d=>match d with
  |.bf c=>Sh.gz l c
  |_=>[]
 |.iface _ x,d=>match d with
  |.iface _ y=>Sh.ids x y
  |_=>[]
 |_,_=>[]
def Sh.gz:yL Sh->yL TD->yL (Nat×Nat)
 |[],_=>[]
 |s::r,c=>match c with
  |d::q=>Sh.ids s d++Sh.gz r q
  |[]=>[]
end
def EQ(H:yL ah):yL bh->Nat->yL (Nat×Nat)->yL (Nat×Nat)
 |[],_,l=>l
 |e::r,j,l=>EQ H r (j+1) (match e,(l.lookup j).bind λid=>H[id]? with
  |.var s _,ab (.var d _)=>l++Sh.ids s d
  |.mY _ _ _ _ _ sl,ab (.row _ _ _ _ (.arr _ _ c))=>l++Sh.gz sl c
  |_,_=>l)
def ZHV(H:yL ah):yO Nat:=(yu H.length).reverse.find? λi=>match H[i]? with
 |some .gone=>ae
 |_=>af
def ZLp(H:yL ah)(c:yL Sh)(es:yL bh)(e:yL TD):yO (yL Nat):=
 match c,es with
 |[],[.gone]=>(ZHV H).map λi=>[i]
 |_,_=>
  let l:=EQ H es 0 (Sh.gz c e)
  (yu es.length).mapM λj=>l.lookup j
def uE{P:yg}(s:Fs P)(H:yL ah)(args:yL TD)(ids:yL Nat):yO (Ty.aK s.ins):=
 if once ids then(TD.bi (aR ids) (args.map (TD.bI (lk H) ids))).bind λc=>(Wz H ids ids).bind λHin=>
  (Sh.cZ (lk Hin) s.ps c).bind λq=>(bh.cZ (lk Hin) s.es Hin).bind λw=>hU s.ins (q.2++w.2)
 else ad
theorem fu{H Hin:yL ah}{ids:yL Nat}(h:Wz H ids ids=ab Hin):Rc (aR ids) (lk H) (lk Hin):=by
 intro id j t e;obtain⟨g,c⟩:=uC h;have f:=bL e;have:=(c j id f).2;unfold Yb lk;dsimp only;rw[this]
theorem ZKn{P:yg}{s:Fs P}{H:yL ah}{args:yL TD}{ids:yL Nat}{x:Ty.aK s.ins}(h:uE s H args ids=ab x):
 once ids=ae/\∃Hin a2 g H3 R,Wz H ids ids=ab Hin/\aH (aA H) ids ids=ab (aA Hin)/\Dv.bi (aR ids) (TD.au (lk H) (args.map (TD.bI (lk H) ids)))=ab (TD.au (lk Hin) a2)/\
  Sh.fills s.ps (dN s.ins x)=ab (g,R)/\bh.fills s.es R=ab (H3,[])/\cu (TD.au (lk Hin) a2) (TD.au (lk H3) g)/\ca (aA Hin) (aA H3):=by
 unfold uE at h;split at h
 .rename_i m;obtain⟨a2,y,h⟩:=yf.1 h;obtain⟨Hin,c,h⟩:=yf.1 h;obtain⟨q,j,h⟩:=yf.1 h;obtain⟨w,f,h⟩:=yf.1 h;obtain⟨A,z⟩:=qX f;have e:=jE _ _ _ h;have l:∀id t,Yb (lk Hin) id t ad=Yb (lk w.1) id t ad:=λid t=>by rw[z]
  refine⟨m,Hin,a2,q.1,w.1,w.2,c,WQ (fu c) c,cx (fu c) _ _ y, ?_, ?_,cw l _ _ _ j,qY l f⟩
  .rw[e];exact bv _ _ _ j _
  .have:=oz f []
   rwa [ybb]at this
 .cases h
section
variable{P:yg}{o:Oper}{ts all:yL TD}{H:yL ah}{O:Type}{K:Kn O}{out:O}
def uF(all:yL TD)(H:yL ah)(K:Kn O)(ids:yL Nat)(r:TD)(Hn:yL ah):yO O:=
 if(ids.isEmpty&&Hn.isEmpty)=ae then(r.rn λ_=>ad).bind λc=>K all c H [.call (r.er (lk [])) [] []] 0 else
 (r.rn (aM ids H.length)).bind λc=>(ah.bi (aM ids H.length) Hn).bind λHb=>
   if(ag (ids.length<=Hn.length)&&TD.dl H.length all&&H.all (ah.under H.length))=ae then
    K (TD.lays (lk H) ids all) c (ao (H.map (ah.lay (lk H) ids)) ids Hb) [.call (r.er (lk Hn)) (aA Hn) ids] 2
   else ad
def ER(s:Fs P)(all:yL TD)(H:yL ah)(K:Kn O)(args:yL TD)(ids:yL Nat)(x:Ty.aK s.ins):yO O:=
 (s.M x).bind λy=>xT 1 s.xs y λ_ rs Hn=>match rs with
   |[r]=>uF all H K ids r Hn
   |_=>ad
def oE(g:yr)(all:yL TD)(H:yL ah)(K:Kn O)(args:yL TD)(c:yO O):yL (Fs P)->yO O
 |[]=>c
 |s::e=>if s.g=g then match (ZLp H s.ps s.es args).bind λids=>(uE s H args ids).map λx=>(ids,x) with
   |some q=>ER s all H K args q.1 q.2
   |none=>oE g all H K args c e
  else oE g all H K args c e
mutual
def Sh.gA:Sh->TD->Bool
 |.v t,d=>match d with
  |.p (.v u _)=>match Ty.dec u t with
   |isTrue _=>ae
   |isFalse _=>af
  |_=>af
 |.own _ _,d=>match d with
  |.own _ ad _ ad=>ae
  |_=>af
 |.am _ _,d=>match d with
  |.am _ _=>ae
  |_=>af
 |.mp _,d=>match d with
  |.mp _=>ae
  |_=>af
 |.rw _,d=>match d with
  |.rw _=>ae
  |_=>af
 |.agg l,d=>match d with
  |.agg c=>Sh.gB l c
  |_=>af
 |.arr _ _ l,d=>match d with
  |.arr _ _ c=>Sh.gB l c
  |_=>af
 |.bH,_=>ae
 |.fn0,_=>ae
 |.dy,_=>ae
 |.bR,_=>ae
 |_,_=>af
def Sh.gB:yL Sh->yL TD->Bool
 |[],[]=>ae
 |s::r,d::q=>Sh.gA s d&&Sh.gB r q
 |_,_=>af
end
theorem ZOa{L:Lk}{t:Ty}{d:TD}{q:TD×yL TV}(h:Sh.gA (.v t) d=ae)(k:Sh.mt L (.v t) d=ab q):q.1=d:=by
 unfold Sh.gA at h;split at h
 .rename_i u y;split at h
  .rename_i e _;subst e;unfold Sh.mt TD.EG TP.to at k;dsimp only at k;rw[YB,yz]at k;cases k;rfl
  .cases h
 .cases h
theorem ZMp{L:Lk}{j:Nat}{t:Ty}{d:TD}{q:TD×yL TV}(h:Sh.gA (.own j t) d=ae)(k:Sh.mt L (.own j t) d=ab q):q.1=d:=by
 unfold Sh.gA at h;split at h
 .unfold Sh.mt at k;dsimp only at k;split at k
  .rename_i e;obtain⟨rfl,rfl⟩:=e;cases k;rfl
  .cases k
 .cases h
theorem ZMq{L:Lk}{j:Nat}{p:yL bN}{d:TD}{q:TD×yL TV}(h:Sh.gA (.am j p) d=ae)(k:Sh.mt L (.am j p) d=ab q):q.1=d:=by
 unfold Sh.gA at h;split at h
 .unfold Sh.mt at k;dsimp only at k;split at k
  .rename_i e;obtain⟨rfl,c⟩:=e;have:=qW c;subst this;cases k;rfl
  .cases k
 .cases h
theorem ZNx{L:Lk}{j:Nat}{d:TD}{q:TD×yL TV}(h:Sh.gA (.mp j) d=ae)(k:Sh.mt L (.mp j) d=ab q):q.1=d:=by
 unfold Sh.gA at h;split at h
 .unfold Sh.mt at k;dsimp only at k;split at k
  .rename_i e;subst e;cases k;rfl
  .cases k
 .cases h
theorem ZNy{L:Lk}{j:Nat}{d:TD}{q:TD×yL TV}(h:Sh.gA (.rw j) d=ae)(k:Sh.mt L (.rw j) d=ab q):q.1=d:=by
 unfold Sh.gA at h;split at h
 .unfold Sh.mt at k;dsimp only at k;split at k
  .rename_i e;subst e;cases k;rfl
  .cases k
 .cases h
mutual
theorem ZLq{L:Lk}:∀(s:Sh)(d:TD)(q:TD×yL TV),Sh.gA s d=ae->Sh.mt L s d=ab q->q.1=d
 |.v t,d,q,h,k=>ZOa h k
 |.own j t,d,q,h,k=>ZMp h k
 |.am j p,d,q,h,k=>ZMq h k
 |.mp j,d,q,h,k=>ZNx h k
 |.rw j,d,q,h,k=>ZNy h k
 |.agg l,.agg c,q,h,k=>by
  have k:(Sh.cZ L l c).map (λq=>(TD.agg q.1,q.2))=ab q:=by unfold Sh.mt at k;exact k
  have h:Sh.gB l c=ae:=by unfold Sh.gA at h;exact h
  obtain⟨w,f,g⟩:=Zd k;rw[<-g]
  exact congrArg TD.agg (fE l c w h f)
 |.arr n s l,.arr m x c,q,h,k=>by
  have k:(if m=n/\x=s then(Sh.cZ L l c).map (λq=>(TD.arr n s q.1,q.2)) else ad)=ab q:=by unfold Sh.mt at k;exact k
  have h:Sh.gB l c=ae:=by unfold Sh.gA at h;exact h
  split at k
  .rename_i e;obtain⟨w,f,g⟩:=Zd k;rw[<-g,e.1,e.2];exact congrArg (TD.arr n s) (fE l c w h f)
  .cases k
 |.bH,d,q,h,k=>by
  unfold Sh.mt at k
  split at k <;> first|(cases k;rfl)|cases k
 |.fn0,d,q,h,k=>by
  unfold Sh.mt at k
  split at k <;> first|(cases k;rfl)|cases k
 |.dy,d,q,h,k=>by
  unfold Sh.mt at k
  split at k <;> first|(cases k;rfl)|cases k
 |.bR,d,q,h,k=>by
  unfold Sh.mt at k;split at k <;> first|(cases k;rfl)|cases k
theorem fE{L:Lk}:∀(l:yL Sh)(c:yL TD)(q:yL TD×yL TV),Sh.gB l c=ae->Sh.cZ L l c=ab q->q.1=c
 |[],[],q,_,k=>by
  simp only[Sh.cZ]at k;cases k
  rfl
 |[],_::_,_,h,_=>by cases h
 |_::_,[],_,h,_=>by cases h
 |s::r,d::c,q,h,k=>by
  simp only[Sh.gB,yi]at h;simp only[Sh.cZ]at k;split at k
  .rename_i a b e f;cases k;rw[ZLq s d a h.1 e,fE r c b h.2 f]
  .cases k
end
def bh.ES:bh->ah->Bool
 |.var s st,.var d c=>(st==c)&&s.gA d
 |.log t _,.log u _ _=>match Ty.dec u t with
  |isTrue _=>ae
  |isFalse _=>af
 |.gone,.gone=>ae
 |_,_=>af
theorem ZMr{L:Lk}{s:bh}{d:ah}{q:ah×yL TV}(h:s.ES d=ae)(k:s.mt L d=ab q):q.1=d:=by
 unfold bh.ES at h;split at h
 .simp only[yi,yT]at h;obtain⟨rfl,h⟩:=h;simp only[bh.mt]at k;split at k
  .obtain⟨w,c,rfl⟩:=Zd k;show ah.var w.1 _=_;rw[ZLq _ _ w h c]
  .cases k
 .split at h
  .rename_i e _;subst e;simp only[bh.mt]at k;split at k
   .rename_i e;subst e;obtain⟨w,c,rfl⟩:=Zd k;obtain⟨f,g⟩:=ZB c;cases f;subst g;rfl
   .cases k
  .cases h
 .simp only[bh.mt]at k;cases k;rfl
 .cases h
def bh.uG:yL bh->yL ah->Bool
 |[],[]=>ae
 |s::r,d::q=>s.ES d&&bh.uG r q
 |_,_=>af
theorem ZAm{L:Lk}:∀{l:yL bh}{c:yL ah}{q:yL ah×yL TV},bh.uG l c=ae->bh.cZ L l c=ab q->q.1=c
 |[],[],q,_,k=>by
  simp only[bh.cZ]at k;cases k
  rfl
 |[],_::_,_,h,_=>by cases h
 |_::_,[],_,h,_=>by cases h
 |s::r,d::c,q,h,k=>by
  simp only[bh.uG,yi]at h;simp only[bh.cZ]at k;split at k
  .rename_i a b e f;cases k;rw[ZMr h.1 e,ZAm h.2 f]
  .cases k
structure Rs(P:yg)where
 g:yr
 ps:List Sh
 es:List bh
 ins:List Ty
 r:Sh
 t:List Ty
 M:Ty.aK ins->Option (Ty.aK t)
def Rs.Ok{P:yg}(s:Rs P):Prop:=
 ∀x o,s.M x=ab o->∃c R H,Sh.fills s.ps (dN s.ins x)=ab (c,R)/\bh.fills s.es R=ab (H,[])/\
  ∀q,Sh.fill s.r (dN s.t o)=ab q->cF P s.g (TD.au (lk H) c) (aA H) (q.1.er (lk H)) (aA H)
def iT{P:yg}:yL (Rs P)->Prop
 |[]=>True
 |s::r=>s.Ok/\iT r
mutual
theorem uH{f g:Nat->yO Nat}(c:∀i j,f i=ab j->g j=ab i):∀(d d':Dv),d.rn f=ab d'->d'.rn g=ab d
 |.p x,d',h=>by cases h;rfl
 |.elem x,d',h=>by cases h;rfl
 |.am id o p,d',h=>by
  simp only[Dv.rn,yq]at h;obtain⟨i,e,rfl⟩:=h
  simp only[Dv.rn,c _ _ e,yz]
 |.own id nn s l,d',h=>by
  simp only[Dv.rn,yq]at h;obtain⟨i,e,rfl⟩:=h
  simp only[Dv.rn,c _ _ e,yz]
 |.view id o p s lo n,d',h=>by
  simp only[Dv.rn,yq]at h;obtain⟨i,e,rfl⟩:=h
  simp only[Dv.rn,c _ _ e,yz]
 |.agg l,d',h=>by
  simp only[Dv.rn,yq]at h;obtain⟨i,e,rfl⟩:=h
  simp only[Dv.rn,dm c _ _ e,yz]
 |.arr n s l,d',h=>by
  simp only[Dv.rn,yq]at h;obtain⟨i,e,rfl⟩:=h
  simp only[Dv.rn,dm c _ _ e,yz]
 |.fn k l,d',h=>by
  simp only[Dv.rn,yq]at h;obtain⟨i,e,rfl⟩:=h
  simp only[Dv.rn,dm c _ _ e,yz]
 |.iface t x,d',h=>by
  simp only[Dv.rn,yq]at h;obtain⟨i,e,rfl⟩:=h
  simp only[Dv.rn,uH c _ _ e,yz]
 |.bf l,d',h=>by
  simp only[Dv.rn,yq]at h;obtain⟨i,e,rfl⟩:=h
  simp only[Dv.rn,dm c _ _ e,yz]
 |.mp id,d',h=>by
  simp only[Dv.rn,yq]at h;obtain⟨i,e,rfl⟩:=h
  simp only[Dv.rn,c _ _ e,yz]
 |.cz id,d',h=>by
  simp only[Dv.rn,yq]at h;obtain⟨i,e,rfl⟩:=h
  simp only[Dv.rn,c _ _ e,yz]
 |.cC id v k,d',h=>by
  simp only[Dv.rn,yq]at h;obtain⟨i,e,rfl⟩:=h
  simp only[Dv.rn,c _ _ e,yz]
 |.pm id v,d',h=>by
  simp only[Dv.rn,yq]at h;obtain⟨i,e,rfl⟩:=h
  simp only[Dv.rn,c _ _ e,yz]
 |.rv id v s lo n,d',h=>by
  simp only[Dv.rn,yq]at h;obtain⟨i,e,rfl⟩:=h
  simp only[Dv.rn,c _ _ e,yz]
 |.aW id v o p,d',h=>by
  simp only[Dv.rn,yq]at h;obtain⟨i,e,rfl⟩:=h
  simp only[Dv.rn,c _ _ e,yz]
 |.an,d',h=>by cases h;rfl
theorem dm{f g:Nat->yO Nat}(c:∀i j,f i=ab j->g j=ab i):∀(d d':yL Dv),Dv.bi f d=ab d'->Dv.bi g d'=ab d
 |[],d',h=>by cases h;rfl
 |x::r,d',h=>by
  simp only[Dv.bi]at h;split at h
  .rename_i y e l m;cases h;simp only[Dv.bi,uH c x y l,dm c r e m]
  .cases h
end
theorem ZHW{f g:Nat->yO Nat}(c:∀i j,f i=ab j->g j=ab i){e m:ar}(h:e.rn f=ab m):m.rn g=ab e:=by
 cases e with
 |var d st=>
  simp only[ar.rn,yq]at h;obtain⟨y,l,rfl⟩:=h
  simp only[ar.rn,uH c _ _ l,yz]
 |row v s st t d=>
  simp only[ar.rn,yq]at h;obtain⟨y,l,rfl⟩:=h
  simp only[ar.rn,uH c _ _ l,yz]
 |log _ _ _=>cases h;rfl
 |map _ _=>cases h;rfl
 |maps _ _ _ _=>cases h;rfl
 |bA _ _=>cases h;rfl
 |gone=>cases h;rfl
theorem ZHX{H:yL ar}{ids:yL Nat}{Hin:yL ar}(ho:once ids=ae)(h:aH H ids ids=ab Hin):∃Hb,ar.bi (aM ids H.length) Hin=ab Hb/\ao H ids Hb=H:=by
 have s:∀i j,aR ids i=ab j->aM ids H.length j=ab i:=by
  intro i j e;have c:=bL e;unfold aM;rw[yW (yp.1 c).1,c]
 have t:∀(l:yL Nat)(A:yL ar),aH H ids l=ab A->∃B,ar.bi (aM ids H.length) A=ab B/\B.length=l.length/\∀(j id:Nat),l[j]? =ab id->B[j]? =H[id]? /\id < H.length:=by
  intro l
  induction l with
  |nil=>
   intro A f;simp only[aH,yj]at f;subst f
   exact⟨[],rfl,rfl,λj id c=>by simp at c⟩
  |cons x r M=>
   intro A f;simp only[aH]at f;split at f
   .rename_i e Q S T;cases f;obtain⟨B,y,F,m⟩:=M Q T;obtain⟨U,G,W⟩:=yf.1 S;refine⟨U::B, ?_,by simp[F],λj id c=> ?_⟩
    .simp only[ar.bi,ZHW s W,y]
    .cases j with
     |zero=>
      simp only[ybt,yj]at c;subst c
      exact⟨by rw[ybt,G],(yp.1 G).1⟩
     |succ j=>exact m j id (by simpa using c)
   .cases f
 obtain⟨Hb,y,F,m⟩:=t ids Hin h
 have z:∀i,i∈ids->i < H.length:=λi E=>by
  obtain⟨j,c⟩:=List.getElem?_of_mem E;exact(m j i c).2
 refine⟨Hb,y, ?_⟩;have g:ids.length<=Hb.length:=by omega
 apply ybg;intro i;have X:(ao H ids Hb).length=H.length:=by rw[tB _ _ _ g];omega
 by_cases E:i < H.length
 .by_cases I:i∈ids
  .obtain⟨j,c⟩:=List.getElem?_of_mem I;rw[pV H ids Hb j i ho g z c,(m j i c).1]
  .exact Qy H ids Hb i g E I
 .rw[yat (by omega),yat (by omega)]
structure Sp(P:yg)where
 l:List (Fs P):=[]
 hd:(O:Type)->yr->List TD->List ah->(TD->List ah->Option O)->Option O:=λ_ _ _ _ _=>ad
 mt:List (yb×String×yr):=[]
 ro:List (Rs P):=[]
def nf(P:yg)(hd:(O:Type)->yr->yL TD->yL ah->(TD->yL ah->yO O)->yO O):Prop:=
 ∀(O:Type)(g:yr)(c:yL TD)(H:yL ah)(K:TD->yL ah->yO O)(out:O),hd O g c H K=ab out->
  ∃r H',K r H'=ab out/\cF P g (TD.au (lk H) c) (aA H) (r.er (lk H')) (aA H')
def gC(P:yg):yL (yb×String×yr)->Prop
 |[]=>True
 |q::r=>jk P q.1 q.2.1 q.2.2/\gC P r
def rg:yL (yb×String×yr)->yb->String->yO yr
 |[],_,_=>ad
 |q::r,t,n=>if q.1=t then if q.2.1=n then ab q.2.2 else rg r t n else rg r t n
theorem ET:∀{l:yL (yb×String×yr)}{t:yb}{n:String}{g:yr},gC P l->rg l t n=ab g->jk P t n g
 |[],_,_,_,_,h=>by cases h
 |q::r,t,n,g,c,h=>by
  unfold rg at h;split at h
  .rename_i e;split at h
   .rename_i f;cases h;rw[<-e, <-f];exact c.1
   .exact ET c.2 h
  .exact ET c.2 h
structure dt(s:Sp P):Prop where
 l:cP s.l
 hd:nf P s.hd
 mt:gC P s.mt
 ro:iT s.ro
theorem ZKp:nf P (λ_ _ _ _ _=>ad):=λ_ _ _ _ _ _ h=>by cases h
theorem rh{l:yL (Fs P)}(h:cP l):dt ({ l:=l}:Sp P):=⟨h,ZKp,zZ,aw⟩
mutual
def TD.look:TD->yL Nat
 |.am id _=>[id]
 |.own id _ _ _=>[id]
 |.view id _ _ _ _=>[id]
 |.mp id=>[id]
 |.cz id=>[id]
 |.cC id _ _ _=>[id]
 |.pm id _=>[id]
 |.rv id _ _ _ _=>[id]
 |.aW id _ _=>[id]
 |.rw id=>[id]
 |.rp id _=>[id]
 |.agg c=>TD.looks c
 |.arr _ _ c=>TD.looks c
 |.fn _ c=>TD.looks c
 |.iface _ x=>TD.look x
 |.bf c=>TD.looks c
 |_=>[]
def TD.looks:yL TD->yL Nat
 |[]=>[]
 |x::r=>TD.look x++TD.looks r
end
def ah.look:ah->yL Nat
 |.var d _=>d.look
 |.row _ _ _ _ d=>d.look
 |.bz _ _ _ _ _ _ d _=>d.look
 |_=>[]
def lE(h:yL ah):Nat->yL Nat->yL Nat->yL Nat
 |0,_,c=>c
 |_+1,[],c=>c
 |k+1,id::r,c=>if c.contains id then lE h k r c else lE h k (((h[id]?).map ah.look).getD []++r) (id::c)
def uI(sp:Sp P)(g:yr)(all:yL TD)(H:yL ah)(K:Kn O)(args:yL TD):yO O:=
 let ids:=lE H 100000 (TD.looks args) []
 if once ids then(TD.bi (aR ids) (args.map (TD.bI (lk H) ids))).bind λc=>(Wz H ids ids).bind λHin=>
  sp.hd O g c Hin λr Hn=>uF all H K ids r Hn
 else ad
def ri(g:yr)(all:yL TD)(H:yL ah)(K:Kn O)(args:yL TD)(c:yO O):yL (Rs P)->yO O
 |[]=>c
 |s::e=>if s.g=g then(ZLp H s.ps s.es args).bind λids=>(Wz H ids ids).bind λHin=>if(once ids&& !ids.isEmpty&&bh.uG s.es Hin)=ae then
   (TD.bi (aR ids) (args.map (TD.bI (lk H) ids))).bind λf=>(Sh.cZ (lk Hin) s.ps f).bind λq=>(bh.cZ (lk Hin) s.es Hin).bind λw=>(hU s.ins (q.2++w.2)).bind λx=>
     (s.M x).bind λy=>(Sh.fill s.r (dN s.t y)).bind λq=>(q.1.rn λ_=>ad).bind λh=>K all h H [.call (q.1.er (lk Hin)) (aA Hin) ids] 3
   else ad
  else ri g all H K args c e
def ZLr(sp:Sp P)(g:yr)(all:yL TD)(H:yL ah)(K:Kn O)(args:yL TD):yO O:=ri g all H K args (oE g all H K args (uI sp g all H K args) sp.l) sp.ro
def dX(h:yL ah):yL Sh->yL TD->yO (yL TV×yL Pl)
 |[],[]=>ab ([],[])
 |.v t::r,d::q=>(oA h 100 t d).bind λy=>(dX h r q).map λw=>(⟨t,y⟩::w.1,t.enc y::w.2)
 |_,_=>ad
def TD.lF:TD->yO Pl
 |.p (.v t x)=>if t.flat=ae then ab (t.enc x) else ad
 |_=>ad
mutual
theorem uJ:∀(t:Ty)(x:t.aE),t.flat=ae->(t.enc x).flat=ae
 |.int _,_,_=>rfl
 |.u8,_,_=>rfl
 |.u32,_,_=>rfl
 |.u64,_,_=>rfl
 |.bool,_,_=>rfl
 |.str,_,h=>by cases h
 |.sl _,_,h=>by cases h
 |.arr n t,x,h=>by
  have c:∀l:yL t.aE,Pl.aL (l.map t.enc)=ae:=by
   intro l
   induction l with
   |nil=>rfl
   |cons y r e=>rw[yaf,Pl.aL,uJ t y h,e];rfl
  exact c x
 |.st f,x,h=>fv f x h
theorem fv:∀(c:yL Ty)(x:Ty.aK c),Ty.aL c=ae->Pl.aL (Ty.encs c x)=ae
 |[],_,_=>rfl
 |[t],x,h=>by
  simp only[Ty.aL,Bool.and_true]at h;rw[Ty.encs,Pl.aL,uJ t x h]
  rfl
 |t::u::r,x,h=>by
  have e:(t.flat&&Ty.aL (u::r))=ae:=h;rw[yi]at e;rw[Ty.encs,Pl.aL,uJ t x.1 e.1,fv (u::r) x.2 e.2];rfl
end
theorem Zs9{d:TD}{p:Pl}{L:Lk}(h:d.lF=ab p):d.er L=.p p/\p.flat=ae:=by
 cases d with
 |p x=>
  cases x with
  |v t y=>
   replace h:(if t.flat=ae then ab (t.enc y) else ad)=ab p:=h
   split at h
   .rename_i c;cases h;exact⟨rfl,uJ t y c⟩
   .cases h
  |_=>cases h
 |_=>cases h
def rj(g:yr)(all:yL TD)(H:yL ah)(K:Kn O)(args:yL TD)(c:yO O):yL (Fs P)->yO O
 |[]=>c
 |s::e=>if s.g=g/\s.es.isEmpty=ae then match (Dv.eE (TD.au (lk H) (args.map (TD.bI (lk H) [])))).bind λid=>dX (nc id H) s.ps (args.map (TD.bI (lk H) [])) with
   |some q=>(hU s.ins q.1).bind λx=>(s.M x).bind λy=>xT 1 s.xs y λ_ rs Hn=>match rs,Hn with
    |[r],[]=>r.lF.bind λp=>K all r H [.el (.agg q.2),.call (.p p) [] []] 1
    |_,_=>ad
   |none=>rj g all H K args c e
  else rj g all H K args c e
def ZLs(sp:Sp P)(g:yr)(all:yL TD)(H:yL ah)(K:Kn O)(args:yL TD):yO O:=ri g all H K args (oE g all H K args (rj g all H K args (uI sp g all H K args) sp.l) sp.l) sp.ro
structure cU(P:yg)(g:yr)(all args:List TD)(H:List ah)(a':List TD)(d:TD)(H':List ah)(hs:List aj)(bu:Nat):Prop where
 same:TD.au (lk H') a'=TD.au (lk H) all
 len:a'.length=all.length
 op:∃(ids:List Nat)(Hin Hn Hb:List ar)(az:List Dv)(r:Dv),once ids=ae/\ids.length<=Hn.length/\aH (aA H) ids ids=ab Hin/\
  Dv.bi (aR ids) (TD.au (lk H) (args.map (TD.bI (lk H) ids)))=ab az/\cF P g az Hin r Hn/\r.rn (aM ids H.length)=ab (d.er (lk H'))/\ar.bi (aM ids H.length) Hn=ab Hb/\
  aA H'=ao (aA H) ids Hb/\hs=[.call r Hn ids]/\(bu=2/\¬(ids=[]/\Hn=[])\/(bu=3/\aA H'=aA H/\¬(ids=[]/\Hn=[]))\/bu=0/\ids=[]/\Hn=[]/\H'=H/\a'=all/\r=d.er (lk H')/\r.rn (λ_=>ad)=ab r)
theorem Zv0{g:yr}{args:yL TD}{ids:yL Nat}{Hin:yL ah}{az:yL Dv}{y:TD}{Hn:yL ah}(l:once ids=ae)(p1:Wz H ids ids=ab Hin)(p2:aH (aA H) ids ids=ab (aA Hin))
 (p3:Dv.bi (aR ids) (TD.au (lk H) (args.map (TD.bI (lk H) ids)))=ab az) (m:cF P g az (aA Hin) (y.er (lk Hn)) (aA Hn)) (h:uF all H K ids y Hn=ab out):
 ∃a d H' hs c,K a d H' hs c=ab out/\cU P g all args H a d H' hs c:=by
 unfold uF at h;split at h
 .rename_i s;rw[yi]at s;have i1:ids=[]:=by simpa using s.1
  have I:Hn=[]:=by simpa using s.2
  subst i1;subst I;obtain⟨Y,x,h⟩:=yf.1 h;have f1:=iz (L:=lk []) (M:=lk H) (λid j t e=>by cases e) _ _ x;have f2:=mD (f:=λ_=>ad) _ _ f1;have f3:y.er (lk [])=Y.er (lk H):=ybp (f2.symm.trans f1);have z:Hin=[]:=by cases p1;rfl
  subst z;refine⟨_,_,_,_,_,h,rfl,rfl,[],[],[],[],az,y.er (lk []),rfl,ym _,rfl,p3,m, ?_,rfl, ?_,rfl,.inr (.inr ⟨rfl,rfl,rfl,rfl,rfl,f3,f2⟩)⟩
  .rw[<-f3];exact mD _ _ f1
  .rw[OE]
 rename_i Q;obtain⟨Y,x,h⟩:=yf.1 h;obtain⟨Hb,A,h⟩:=yf.1 h;obtain⟨Z,h⟩:=Za h;simp only[yi,yP]at Z;obtain⟨⟨G,k2⟩,k3⟩:=Z;obtain⟨S,b2⟩:=ZAk A;obtain⟨s1,s2⟩:=uC p1
 have T:∀i,i∈ids->i < H.length:=λi U=>by
  obtain⟨j,hj⟩:=List.getElem?_of_mem U;exact(s2 j i hj).1
 have E:Lo ids H.length (lk H) (lk (ao (H.map (ah.lay (lk H) ids)) ids Hb)):=by
  intro id t W hl;unfold Yb lk;dsimp only
  rw[Qy _ _ _ id (by rw[S];exact G) (by rw[yx];exact hl) (λhm=>by
   rw[List.contains_eq_any_beq]at W;simp at W;exact W id hm rfl),yah,ZKm]
 have F:Rc (aM ids H.length) (lk Hn) (lk (ao (H.map (ah.lay (lk H) ids)) ids Hb)):=by
  intro j i t e
  have X:lk (ao (H.map (ah.lay (lk H) ids)) ids Hb) i=lk Hn j:=by
   show dc ((ao (H.map (ah.lay (lk H) ids)) ids Hb)[i]?)=dc (Hn[j]?);rw[<-b2 j];unfold aM at e;split at e
   .rw[pV _ _ _ j i l (by rw[S];exact G) (λi U=>by rw[yx];exact T i U) e]
   .rename_i hj;cases e;have:=tC (H.map (ah.lay (lk H) ids)) ids Hb j (by rw[S];exact G) (by omega);rw[yx]at this;rw[this]
  unfold Yb;rw[X]
 have e2:(ao (H.map (ah.lay (lk H) ids)) ids Hb).map (ah.er (lk (ao (H.map (ah.lay (lk H) ids)) ids Hb)))=ao (aA H) ids (Hb.map (ah.er (lk (ao (H.map (ah.lay (lk H) ids)) ids Hb)))):=by
  rw[ZqB,ybc];congr 1;refine ycj λe he=> ?_;exact ZKl E (ybn.1 k3 e he)
 have f1:=iz F _ _ x;have f2:=ZD9 F _ _ A;refine⟨_,_,_,_,_,h,dp E all k2,ZAl all,ids,aA Hin,aA Hn,_,az,y.er (lk Hn),l,by rw[ZE];exact G,p2,p3,m,f1,f2,e2,rfl,.inl ⟨rfl,λhh=>Q ?_⟩⟩;have I:Hn=[]:=by have:=hh.2;unfold aA at this;simpa using this
 rw[I,hh.1];rfl
theorem ZuI{args:yL TD}{s:Fs P}{ids:yL Nat}{x:Ty.aK s.ins}(ok:s.Ok)(hp:uE s H args ids=ab x)(h:ER s all H K args ids x=ab out):
 ∃a d H' hs c,K a d H' hs c=ab out/\cU P s.g all args H a d H' hs c:=by
 unfold ER at h;obtain⟨y,I,A⟩:=yf.1 h;obtain⟨e,vs,E,l,t,m⟩:=re A;clear A h;obtain⟨j,Hin,Y,Z,H3,R,M,Q,S,T,U,W,X⟩:=ZKn hp;obtain⟨args,R1,H4,F,G,f⟩:=ok x y I;obtain⟨r4,z,f⟩:=f e vs E l t;rw[z]at m;dsimp only at m;rw[T]at F;cases F;rw[U]at G;cases G;generalize E.2=Hn at m f;exact Zv0 j M Q S (SA f W X) m
theorem uK{Q:yL TD->TD->yL ah->yL aj->Nat->Prop}{g:yr}{args:yL TD}{m:yO O}(e:∀{a d H' hs c},cU P g all args H a d H' hs c->Q a d H' hs c)(ho:m=ab out->∃a d H' hs c,K a d H' hs c=ab out/\Q a d H' hs c):∀{l:yL (Fs P)},cP l->oE g all H K args m l=ab out->
 ∃a d H' hs c,K a d H' hs c=ab out/\Q a d H' hs c
 |[],_,h=>ho h
 |s::r,f,h=>by
  unfold oE at h;split at h
  .rename_i t;split at h
   .rename_i q j;obtain⟨ids,E,j⟩:=yf.1 j;obtain⟨x,y,rfl⟩:=Zd j;obtain⟨a,d,H',hs,c,z,A⟩:=ZuI f.1 y h;exact⟨a,d,H',hs,c,z,e (t ▸ A)⟩
   .exact uK e ho f.2 h
  .exact uK e ho f.2 h
theorem ZAp{sp:Sp P}{g:yr}{args:yL TD}(ok:dt sp)(h:uI sp g all H K args=ab out):∃a d H' hs c,K a d H' hs c=ab out/\cU P g all args H a d H' hs c:=by
 unfold uI at h;dsimp only at h;generalize lE H 100000 (TD.looks args) []=ids at h;obtain⟨f,h⟩:=Za h;obtain⟨s,j,h⟩:=yf.1 h;obtain⟨Hin,e,h⟩:=yf.1 h;obtain⟨r,Hn,l,m⟩:=ok.hd _ _ _ _ _ _ h;exact Zv0 f e (WQ (fu e) e) (cx (fu e) _ _ j) m l
theorem EU{Q:yL TD->TD->yL ah->yL aj->Nat->Prop}{g:yr}{args:yL TD}{F:yO O}(G:∀{a d H' hs c},cU P g all args H a d H' hs c->Q a d H' hs c)(ho:F=ab out->∃a d H' hs c,K a d H' hs c=ab out/\Q a d H' hs c):∀{l:yL (Rs P)},iT l->ri g all H K args F l=ab out->
 ∃a d H' hs c,K a d H' hs c=ab out/\Q a d H' hs c
 |[],_,h=>ho h
 |s::r,I,h=>by
  unfold ri at h;split at h
  .rename_i hg;obtain⟨ids,_,h⟩:=yf.1 h;obtain⟨Hin,E,h⟩:=yf.1 h;obtain⟨S,h⟩:=Za h;simp only[yi,Bool.not_eq_true',List.isEmpty_eq_false_iff]at S;obtain⟨⟨T,k2⟩,k3⟩:=S;obtain⟨a2,h3,h⟩:=yf.1 h;obtain⟨q,U,h⟩:=yf.1 h;obtain⟨⟨A,w2⟩,W,h⟩:=yf.1 h;obtain⟨x,h6,h⟩:=yf.1 h;obtain⟨y,h7,h⟩:=yf.1 h;obtain⟨z,h8,h⟩:=yf.1 h;obtain⟨r',h9,h⟩:=yf.1 h;have hw:A=Hin:=ZAm k3 W;subst hw;obtain⟨az,R,H3,X,Y,m⟩:=I.1 x y h7;have e:=jE _ _ _ h6;rw[e,bv _ _ _ U _]at X;cases X;have Z:=oz W [];rw[ybb]at Z;rw[Z]at Y;cases Y;have m:=m z h8;have p2:=WQ (fu E) E;have p3:=cx (fu E) _ _ h3;have m:=SA m (cw (λ_ _=>rfl) _ _ _ U) (ca.refl _);have f1:=iz (f:=λ_=>ad) (L:=lk A) (M:=lk H) (λid j t e=>by cases e) _ _ h9;have f2:=mD (f:=λ_=>ad) _ _ f1;have f3:z.1.er (lk A)=r'.er (lk H):=ybp (f2.symm.trans f1);obtain⟨Hb,b1,b2⟩:=ZHX T p2;have zV:=(uC E).1;refine⟨_,_,_,_,_,h,G ⟨rfl,rfl,ids,aA A,aA A,Hb,TD.au (lk A) a2,z.1.er (lk A),T,by rw[ZE];omega,p2,p3,hg ▸ m, ?_,by rw[<-ZE H];exact b1,b2.symm,rfl,.inr (.inl ⟨rfl,rfl,λhh=>k2 hh.1⟩)⟩⟩;rw[<-f3];exact mD _ _ f1
  .exact EU G ho I.2 h
theorem ZHZ{sp:Sp P}{g:yr}{args:yL TD}(ok:dt sp)(h:ZLr sp g all H K args=ab out):∃a d H' hs c,K a d H' hs c=ab out/\cU P g all args H a d H' hs c:=
 EU (λh=>h) (λh=>uK (λh=>h) (λh=>ZAp ok h) ok.l h) ok.ro h
structure iU(P:yg)(g:yr)(all args:List TD)(H:List ah)(a':List TD)(d:TD)(H':List ah)(hs:List aj)(bu:Nat):Prop where
 zO:a'=all
 hH:H'=H
 kG:bu=1
 op:∃(id:Nat)(ps:List Pl)(p:Pl),Dv.eE (TD.au (lk H) (args.map (TD.bI (lk H) [])))=ab id/\d.er (lk H)=.p p/\p.flat=ae/\hs=[.el (.agg ps),.call (.p p) [] []]/\jW id (cn ((aA H)[id]?)) (TD.au (lk H) (args.map (TD.bI (lk H) []))) ps/\cF P g (ps.map Dv.p) [] (.p p) []
theorem ZEa{h:yL ah}:∀{e:yL Sh}{c:yL TD}{q:yL TV×yL Pl},dX h e c=ab q->∃es,Sh.fills e q.1=ab (es,[])/\(∀L,TD.au L es=q.2.map Dv.p)/\c.length=q.2.length/\
 ∀(i:Nat)(d:Dv)(y:Pl),(TD.au (lk h) c)[i]? =ab d->q.2[i]? =ab y->bp (aA h) d y
 |[],[],q,k=>by cases k;exact⟨[],rfl,λ_=>rfl,rfl,λi d y k=>by simp[TD.au]at k⟩
 |.v t::r,d::c,q,k=>by
  unfold dX at k;obtain⟨y,j,k⟩:=yf.1 k;obtain⟨w,l,rfl⟩:=Zd k;obtain⟨es,f1,f2,f3,f4⟩:=ZEa l;refine⟨.p (.v t y)::es, ?_,λL=> ?_,by simp[f3],λi m z f g=> ?_⟩
  .have s:Sh.fill (.v t) (⟨t,y⟩::w.1)=ab (.p (.v t y),w.1):=congrArg (Option.map λz:t.aE=>(TD.p (.v t z),w.1)) (YB t y);simp only[Sh.fills,s,ya,f1,yz]
  .rw[TD.au,f2];rfl
  .cases i with
   |zero=>cases f;cases g;exact uA _ _ _ _ j
   |succ i=>exact f4 i m z f g
 |[],_::_,_,k=>by simp[dX]at k
 |.v _::_,[],_,k=>by simp[dX]at k
 |.elem _::_,_,_,k=>by simp[dX]at k
 |.nil _::_,_,_,k=>by simp[dX]at k
 |.sl _ _::_,_,_,k=>by simp[dX]at k
 |.own _ _::_,_,_,k=>by simp[dX]at k
 |.am _ _::_,_,_,k=>by simp[dX]at k
 |.mp _::_,_,_,k=>by simp[dX]at k
 |.rw _::_,_,_,k=>by simp[dX]at k
 |.rp _ _ _::_,_,_,k=>by simp[dX]at k
 |.view _ _ _ _ _::_,_,_,k=>by simp[dX]at k
 |.rv _ _ _ _ _::_,_,_,k=>by simp[dX]at k
 |.fn _ _::_,_,_,k=>by simp[dX]at k
 |.agg _::_,_,_,k=>by simp[dX]at k
 |.arr _ _ _::_,_,_,k=>by simp[dX]at k
 |.bf _::_,_,_,k=>by simp[dX]at k
 |.iface _ _::_,_,_,k=>by simp[dX]at k
 |.bH::_,_,_,k=>by simp[dX]at k
 |.fn0::_,_,_,k=>by simp[dX]at k
 |.dy::_,_,_,k=>by simp[dX]at k
 |.bR::_,_,_,k=>by simp[dX]at k
 |.an::_,_,_,k=>by simp[dX]at k
theorem Zv1{J:Sg}(ok:Ok J):∀{f:yL Dv}{g:yL Pl}{vs:yL Value},f.length=g.length->(∀(i:Nat)(d:Dv)(y:Pl),f[i]? =ab d->g[i]? =ab y->bp J.H d y)->aB J f vs->aB (gU J) (g.map Dv.p) vs
 |[],[],vs,_,_,h=>by simpa[aB] using h
 |[],_::_,_,c,_,_=>by simp at c
 |_::_,[],_,c,_,_=>by simp at c
 |d::f,y::g,vs,c,l,h=>by
  simp only[aB]at h;obtain⟨v,j,rfl,t,x⟩:=h;have m:=SI ok (l 0 d y rfl rfl) (v:=v) t
  have mono:∀(b o:Nat)(v:Value),J.w.cell? ⟨b,o,ad⟩=ab v->J.aV b o->(gU J).w.cell? ⟨b,o,ad⟩=ab v/\(gU J).aV b o:=λb o v h _=>⟨h,by
   rcases yck b J.w.heap.size with q|q
   .exact .inl q
   .exact .inr q,λid e q=>by simp[gU]at q⟩
  rw[yaf];simp only[aB];refine⟨v,j,rfl,⟨λq=> ?_,λq=> ?_⟩,Zv1 ok (by simpa using c) (λi d y z A=>l (i+1) d y (by simpa using z) (by simpa using A)) x⟩
  .obtain⟨E,F,s⟩:=m.1 q;refine⟨E,F, ?_⟩;simp only[yG]at s ⊢;exact Vd mono y _ s
  .have:=m.2 q;simp only[yG]at this ⊢;exact Vd mono y _ this
theorem EV{g:yr}{args:yL TD}{yR:yO O}{Q:yL TD->TD->yL ah->yL aj->Nat->Prop}(M:∀{a d H' hs c},iU P g all args H a d H' hs c->Q a d H' hs c)(ho:yR=ab out->∃a d H' hs c,K a d H' hs c=ab out/\Q a d H' hs c):∀{l:yL (Fs P)},cP l->rj g all H K args yR l=ab out->
 ∃a d H' hs c,K a d H' hs c=ab out/\Q a d H' hs c
 |[],_,h=>ho h
 |s::r,S,h=>by
  unfold rj at h;split at h
  .rename_i T;obtain⟨T,U⟩:=T;split at h
   .rename_i q W;obtain⟨id,hid,W⟩:=yf.1 W;obtain⟨x,h6,h⟩:=yf.1 h;obtain⟨y,h7,h⟩:=yf.1 h;obtain⟨e,vs,s',m,X,t⟩:=re h;split at t
    .rename_i rr Y z;obtain⟨p,hp,t⟩:=yf.1 t;obtain⟨az,R,H3,q1,Z,f⟩:=S.1 x y h7;obtain⟨r4,A,f⟩:=f e vs s' m X;rw[Y]at A;cases A;obtain⟨es,f1,f2,f3,f4⟩:=ZEa W;rw[jE _ _ _ h6,f1]at q1;cases q1;have E:s.es=[]:=by simpa using U
     rw[E]at Z
     have:H3=[]:=by
      simp only[bh.fills,yj,yl]at Z;exact Z.1.symm
     subst this;rw[z,f2]at f;obtain⟨F,hfl⟩:=Zs9 (L:=lk s'.2) hp;obtain⟨G,_⟩:=Zs9 (L:=lk H) hp;rw[z]at F;rw[F]at f;refine⟨_,_,_,_,_,t,M ⟨rfl,rfl,rfl,id,q.2,p,hid,G,hfl,rfl, ?_,T ▸ f⟩⟩;intro J vs I hH hv;obtain⟨H2,hw,j⟩:=ZFs I hH;obtain⟨to,ok'⟩:=js (H':=H2) I hw;have zV:(TD.au (lk H) (args.map (TD.bI (lk H) []))).length=q.2.length:=by rw[jz];exact f3
     have hv':aB { J with H:=H2} (TD.au (lk H) (args.map (TD.bI (lk H) []))) vs:=cg to.leaf _ _ hv;have hlk:lk (nc id H)=lk H:=UX _ _;exact Zv1 (J:={ J with H:=H2}) ok' zV (λi d y k1 k2=>j _ _ (f4 i d y (by rw[hlk];exact k1) k2)) hv'
    .cases t
   .exact EV M ho S.2 h
  .exact EV M ho S.2 h
theorem ZH0{sp:Sp P}{g:yr}{args:yL TD}(ok:dt sp)(h:ZLs sp g all H K args=ab out):∃a d H' hs c,K a d H' hs c=ab out/\(cU P g all args H a d H' hs c\/iU P g all args H a d H' hs c):=
 EU .inl (λh=>uK .inl (λh=>EV .inr (λh=>by
  obtain⟨a,d,H',hs,c,e,f⟩:=ZAp ok h;exact⟨a,d,H',hs,c,e,.inl f⟩) ok.l h) ok.l h) ok.ro h
theorem ZFt{c:Call}{f:yo}{g:yr}{cap az:yL TD}{a:yL TD}{d:TD}{H':yL ah}{hs:yL aj}{F:Nat}(ho:o.op=.call c)(hc:c.callee=.value f)(S:aS P ts 0 f=ab (.fn g cap))
 (hb:(gp P (dQ g)&&c.args.size==c.argTypes.size)=ae) (ha:lD P ts c.args.toList c.argTypes.toList=ab az) (h:cU P (dQ g) all (if g < big then az++cap else cap++az) H a d H' hs F):Good P o ts all H a d H' hs F:=by
 have j:=Zk (L:=lk H) S;obtain⟨ids,Hin,Hn,Hb,t,r,m,x,G,I,l,f1,f2,s,rfl,y⟩:=h.op
 have M:ZZ P ids (TD.au (lk H) ts) c g (TD.au (lk H) cap)=TD.au (lk H) ((if g < big then az++cap else cap++az).map (TD.bI (lk H) ids)):=by
  unfold ZZ;split
  .rw[oD ids ha,uD,yaq,ZC,ZC,ZC,yaq]
  .rw[oD ids ha,uD,yaq,ZC,ZC,ZC,yaq]
 have Q:¬(ids=[]/\Hn=[])->iP P o ts H d H' [.call r Hn ids]:=λe=>by
  refine⟨λz=> ?_,λz=> ?_,[cF P (dQ g) t Hin r Hn],⟨l,aw⟩,λz=> ?_⟩
  .unfold aU;rw[ho];dsimp only;rw[hc];dsimp only;rw[j];dsimp only[TD.er];rw[yaa,yw];split
   .rename_i T s;exfalso;simp only[List.cons.injEq,aj.call.injEq]at s;exact e ⟨s.1.2.2,s.1.2.1⟩
   .rename_i s;cases s
   .rfl
  .unfold bm;rw[ho];dsimp only;rw[hc];dsimp only;rw[j];rfl
  .unfold bZ;rw[ho];dsimp only;rw[hc];dsimp only;rw[j];dsimp only[TD.er];rw[yaa,yw];dsimp only;rw[yW (by simp only[yi,yP]at hb ⊢;exact⟨⟨hb,m⟩,x⟩)];rw[M,I,G,ZE,f1,f2];dsimp only;rw[s]
 rcases y with⟨rfl,e⟩|⟨rfl,A,e⟩|⟨rfl,rfl,rfl,rfl,rfl,rfl,E⟩
 .exact⟨h.same,h.len,cJ ⟨rfl,Q e⟩⟩
 .exact⟨h.same,h.len,.inr (.inr (.inr ⟨rfl,A,Q e⟩))⟩
 .refine⟨h.same,h.len,.inl ⟨rfl,rfl,[cF P (dQ g) t [] (d.er (lk H')) []],⟨?_,aw⟩,λz=> ?_⟩⟩
  .cases G;exact l
  .unfold aU;rw[ho];dsimp only;rw[hc];dsimp only;rw[j];dsimp only[TD.er];rw[yaa,yw];dsimp only;rw[yW hb,M, <-pX,I,pX,E]
theorem ZH1{c:Call}{f:yo}{g:yr}{cap az:yL TD}{a:yL TD}{d:TD}{H':yL ah}{hs:yL aj}{l:Nat}(ho:o.op=.call c)(hc:c.callee=.value f)(t:aS P ts 0 f=ab (.fn g cap))
 (hb:(gp P (dQ g)&&c.args.size==c.argTypes.size)=ae) (ha:lD P ts c.args.toList c.argTypes.toList=ab az) (h:iU P (dQ g) all (if g < big then az++cap else cap++az) H a d H' hs l):Good P o ts all H a d H' hs l:=by
 have e:=Zk (L:=lk H) t;obtain⟨rfl,rfl,rfl,id,m,p,hid,x,y,rfl,z,j⟩:=h
 have s:ZZ P [] (TD.au (lk H') ts) c g (TD.au (lk H') cap)=TD.au (lk H') ((if g < big then az++cap else cap++az).map (TD.bI (lk H') [])):=by
  unfold ZZ;split
  .rw[oD [] ha,uD,yaq,ZC,ZC,ZC,yaq]
  .rw[oD [] ha,uD,yaq,ZC,ZC,ZC,yaq]
 refine⟨rfl,rfl,.inr (.inl ⟨rfl,rfl,λA=> ?_,[jW id (cn ((aA H')[id]?)) (ZZ P [] (TD.au (lk H') ts) c g (TD.au (lk H') cap)) m,cF P (dQ g) (m.map Dv.p) [] (.p p) []],⟨by rw[s];exact z,j,aw⟩,λA=> ?_⟩)⟩
 .unfold aU;rw[ho];dsimp only;rw[hc];dsimp only;rw[e];rfl
 .unfold bm;rw[ho];dsimp only;rw[hc];dsimp only;rw[e];dsimp only[TD.er];rw[yaa,yaa,yw];dsimp only;rw[show Dv.eE (ZZ P [] (TD.au (lk H') ts) c g (TD.au (lk H') cap))=ab id by rw[s];exact hid];dsimp only;rw[yW (by simp only[yi]at hb ⊢;exact⟨hb,y⟩),x]
theorem ZFu{c:Call}{f:yo}{e:String}{t:yb}{x:TD}{g:yr}{az:yL TD}{a:yL TD}{d:TD}{H':yL ah}{hs:yL aj}{A:Nat}(ho:o.op=.call c)(hc:c.callee=.invoke f e)(E:aS P ts 0 f=ab (.iface t x))
 (hm:jk P t e g) (hb:(gp P g&&c.args.size==c.argTypes.size)=ae) (ha:lD P ts c.args.toList c.argTypes.toList=ab az) (h:cU P g all (x::az) H a d H' hs A):Good P o ts all H a d H' (.gQ g::hs) 2:=by
 have m:=Zk (L:=lk H) E;obtain⟨ids,Hin,Hn,Hb,s,r,j,y,F,G,l,f1,f2,I,rfl,M⟩:=h.op
 have Q:(x.er (lk H)).bI ids::ZZ P ids (TD.au (lk H) ts) c 0 []=TD.au (lk H) ((x::az).map (TD.bI (lk H) ids)):=by
  unfold ZZ;rw[yW (by decide),oD ids ha,List.map_nil,ybb,yaf,TD.au,EP]
 refine⟨h.same,h.len,cJ (⟨rfl,λz=> ?_,λz=> ?_,[jk P t e g,cF P g s Hin r Hn],⟨hm,l,aw⟩,λz=> ?_⟩)⟩
 .unfold aU;rw[ho];dsimp only;rw[hc]
 .unfold bm;rw[ho];dsimp only;rw[hc]
 .unfold bZ;rw[ho];dsimp only;rw[hc];dsimp only;rw[m];dsimp only[TD.er];rw[yaa,yaa,yw];dsimp only;rw[yW (by simp only[yi,yP]at hb ⊢;exact⟨⟨hb,j⟩,y⟩)];rw[Q,G,F,ZE,f1,f2];dsimp only;rw[I]
end
end Go.Ev
end
section
namespace Go.Ev
section
variable{P:yg}{o:Oper}{ts all:yL TD}{H:yL ah}{O:Type}{K:Kn O}{out:O}
def TD.ng:TD->Bool
 |.view _ _ _ _ _=>ae
 |_=>af
def TD.eA:TD->Bool
 |.p (.sl (ab af) _ [])=>ae
 |_=>af
def TD.rk:TD->Bool
 |.am _ _=>ae
 |_=>af
def TD.nh:TD->Bool
 |.aW _ _ _=>ae
 |_=>af
def TD.ni:TD->Bool
 |.rv _ _ _ _ _=>ae
 |_=>af
def ZKq(a:TD)(lo hi:yO Int):Bool:=
 match a with
 |.rv _ _ _ _ n=> !VQ n lo hi
 |_=>af
def TD.rm:TD->Bool
 |.own _ _ _ _=>ae
 |_=>af
def TD.ru:TD->Bool
 |.mp _=>ae
 |_=>af
def gb(l:yL Tmp):yO Tmp->Bool
 |some t=>l.contains t
 |none=>af
def gK(P:yg)(o:Oper)(ts all:yL TD)(H:yL ah)(K:Kn O):yO O:=BZ (lk H) P o ts λd hs=>K all d H hs 0
theorem Wd(h:gK P o ts all H K=ab out):∃a d H' hs c,K a d H' hs c=ab out/\Good P o ts all H a d H' hs c:=by
 obtain⟨d,hs,e,f⟩:=ZHs h;exact⟨_,_,_,_,_,e,rfl,rfl,.inl ⟨rfl,rfl,f⟩⟩
def EW(H:yL ah):TD->TD
 |.rv id v s lo n=>match H[id]? with
  |some (.aF T c _ _ l)=>if(yap v c.length&&yap s T.size&&yap lo 0&&yap n l.length)=ae then .rw id else .rv id v s lo n
  |_=>.rv id v s lo n
 |d=>d
theorem ZCF{H:yL ah}(d:TD):(EW H d).er (lk H)=d.er (lk H):=by
 unfold EW;split
 .rename_i id v s lo n;split
  .rename_i T g st e l f;split
   .rename_i c;simp only[yi,Nat.beq_eq]at c;obtain⟨⟨⟨rfl,rfl⟩,rfl⟩,rfl⟩:=c;rw[(QJ f).1,TD.er]
   .rfl
  .rfl
 .rfl
def uL(P:yg)(hi:HI)(o:Oper)(x:yo)(asg:Bool)(ts all:yL TD)(H:yL ah)(K:Kn O):yO O:=
 match o.dst,aS P ts o.type x with
 |some t,ab d=>if hi.still.contains t&&(d.ng || d.ni) then uu t all H K d else if hi.still.contains t&&d.gy then DN t all H K d else if asg&&(hi.bj.contains t&&d.eA) then DU P o.type t all H K d else if asg&&(hi.own.contains t&&d.eA) then CK P o.type t all H K d else if hi.bj.contains t&&d.ni then K all (EW H d) H [.raw] 0 else gK P o ts all H K
 |_,_=>gK P o ts all H K
def TD.kH(d:TD):yO Num:=
 match d.num with
 |some a=>if a.k=.i64 then ab a else ad
 |none=>ad
def rx(P:yg)(hi:HI)(aD:Sp P)(o:Oper)(ts all:yL TD)(H:yL ah)(K:Kn O):yO O:=
 if rnT P hi o ts H=ae then EF P hi o ts all H K else
 match o.op with
 |.move x=>uL P hi o x af ts all H K
 |.assign x=>uL P hi o x ae ts all H K
 |.slice t x lo h ad=>if gb hi.bS o.dst then(aS P ts t x).bind λa=>(ez P ts lo).bind λl=>(ez P ts h).bind λr=>DH P t l r all H K a
  else(aS P ts t x).bind λa=>(ez P ts lo).bind λl=>(ez P ts h).bind λr=>if(gb hi.bj o.dst&&a.gy)=ae then DV P t l r all H K a else if a.gy=ae then DJ P t l r all H K a else if ZKq a l r=ae then CF P t l r all H K a else gK P o ts all H K
 |.load t x=>(aS P ts 0 x).bind λd=>if d.rk || d.nh then CE P t all H K d else if d.qQ then DL P t all H K d else gK P o ts all H K
 |.lookup t x ix G=>(aS P ts t x).bind λd=>CI P t all H G K (λe=>aS P ts e ix) d
 |.makeMap t ad=>CL P t (gb hi.own o.dst) all H K
 |.makeSlice t l c=>((aS P ts 0 l).bind TD.kH).bind λn=>((aS P ts 0 c).bind TD.kH).bind λF=>if gb hi.mkn o.dst then DT P t n.n F.n all H K else if gb hi.bj o.dst then DS P t n.n F.n all H K else CM P t (gb hi.own o.dst) (gb hi.row o.dst) n.n F.n all H K
 |.mapUpdate t x k v=>(aS P ts t x).bind λd=>if d.ru=ae then ov P t all H K (λe=>aS P ts e k) (λj=>aS P ts j v) d else CN P t all H K (λe=>aS P ts e k) (λj=>aS P ts j v) d
 |.insert t x k v=>(aS P ts t x).bind λd=>ov P t all H K (λe=>aS P ts e k) (λj=>aS P ts j v) d
 |.alloc t=>CS P hi o.dst t all H K
 |.convert src dst x=>(aS P ts src x).bind λa=>if a.gy then DW P src dst all H K a else gK P o ts all H K
 |.box t x=>(aS P ts t x).bind (CT hi o.dst all H K)
 |.store t x y=>(aS P ts 0 x).bind λa=>(aS P ts t y).bind λv=>if a.qQ then DM P t all H K v a else CW P (ZNu hi x) t all H K v a
 |.buildSlice t len parts=>if gb hi.bj o.dst then(match (o.dst.bind λd=>hi.ST.lookup d).bind λs=>all[s]? with
  |some (.rw id)=>DR P ts t len parts.toList id all H K
  |_=>DQ P ts t len parts.toList all H K) else if gb hi.row o.dst then(if(ZNv P ts t (lk H) parts.toList&& !gb hi.own o.dst)=ae then CX P ts t len parts.toList all H K else CY P ts t len parts.toList all H K) else if gb hi.own o.dst then CZ P ts t len parts.toList all H K else gK P o ts all H K
 |.indexAddr t x ix=>(aS P ts t x).bind λa=>if a.gy then(aS P ts 0 ix).bind λb=>b.inner.bind λI=>(iv I).bind λq=>DI P t q.2 all H K a else gK P o ts all H K
 |.call c=>match c.callee with
  |.builtin .len=>match c.args.toList,c.argTypes.toList with
   |[x],[t]=>(aS P ts t x).bind λd=>if d.ru then CJ P t all H K d else if d.gy then DK P t all H K d else gK P o ts all H K
   |_,_=>ad
  |.builtin .max=>gK P o ts all H K
  |.builtin .min=>gK P o ts all H K
  |.builtin .append=>match c.args.toList,c.argTypes.toList with
   |[x,y],[t,u]=>(aS P ts t x).bind λa=>(aS P ts u y).bind λb=>if a.gy || (a.eA&&gb hi.bj o.dst) then DP P ae t u all H K b a else if a.rm || a.ni || (a.eA&&(gb hi.own o.dst || gb hi.row o.dst)) then DC P (gb hi.own o.dst) (gb hi.row o.dst) t u all H K b (if hi.eqs=ae then DD H a else a) else gK P o ts all H K
   |_,_=>ad
  |.builtin .copy=>match c.args.toList,c.argTypes.toList with
   |[x,y],[t,u]=>(aS P ts t x).bind λa=>(aS P ts u y).bind λb=>DF P t u all H K b a
   |_,_=>ad
  |.builtin .clear=>match c.args.toList,c.argTypes.toList with
   |[x],[t]=>(aS P ts t x).bind λa=>DE P t all H K a
   |_,_=>ad
  |.builtin .delete=>match c.args.toList,c.argTypes.toList with
   |[x,y],[t,u]=>(aS P ts t x).bind λa=>CO P t all H K (aS P ts u y) a
   |_,_=>ad
  |.value f=>match aS P ts 0 f with
   |some (.fn g m)=>if(gp P (dQ g)&&c.args.size==c.argTypes.size)=ae then(lD P ts c.args.toList c.argTypes.toList).bind λE=>ZLs aD (dQ g) all H K (if g < big then E++m else m++E) else gK P o ts all H K
   |_=>ad
  |.invoke z A=>match aS P ts 0 z with
   |some (.iface t x)=>(rg aD.mt t A).bind λg=>if(gp P g&&c.args.size==c.argTypes.size)=ae then(lD P ts c.args.toList c.argTypes.toList).bind λE=>ZLr aD g all H (λa d H' hs _=>K a d H' (.gQ g::hs) 2) (x::E) else ad
   |_=>ad
  |_=>ad
 |_=>gK P o ts all H K
theorem Vf{d:TD}{n:Num}(h:d.kH=ab n):d.num=ab n/\n.k=.i64:=by
 unfold TD.kH at h;split at h
 .rename_i a c;split at h
  .rename_i e;cases h;exact⟨c,e⟩
  .cases h
 .cases h
theorem Zta{hi:HI}{x:yo}{asg:Bool}(ho:if asg=ae then o.op=.assign x else o.op=.move x)(h:uL P hi o x asg ts all H K=ab out):∃a d H' hs c,K a d H' hs c=ab out/\Good P o ts all H a d H' hs c:=by
 unfold uL at h;split at h
 .rename_i t d g e;split at h
  .refine Zz8 (x:=x) ?_ g e h;cases asg
   .exact .inr ho
   .exact .inl ho
  split at h
  .refine ZxO (x:=x) ?_ g e h;cases asg
   .exact .inr ho
   .exact .inl ho
  split at h
  .rename_i f;rw[yi]at f;rw[yW f.1]at ho;exact ZxS ho g e h
  .split at h
   .rename_i f;rw[yi]at f;rw[yW f.1]at ho;exact Zz1 ho g e h
   .split at h
    .refine⟨_,_,_,_,_,h,rfl,rfl,.inl ⟨rfl,rfl,[],zZ,λj=> ?_⟩⟩;rw[ZCF, <-Zk (L:=lk H) e];cases asg
     .have ho:o.op=.move x:=ho;unfold aU;rw[ho];rfl
     .have ho:o.op=.assign x:=ho;unfold aU;rw[ho];rfl
    .exact Wd h
 .exact Wd h
theorem EX{hi:HI}{aD:Sp P}(ok:dt aD)(h:rx P hi aD o ts all H K=ab out):∃a d H' hs c,K a d H' hs c=ab out/\Good P o ts all H a d H' hs c:=by
 unfold rx at h;split at h
 .exact ZFq h
 split at h
 .rename_i x e;exact Zta (asg:=af) e h
 .rename_i x e;exact Zta (asg:=ae) e h
 .rename_i t x lo Y e;split at h
  .obtain⟨a,j,h⟩:=yf.1 h;obtain⟨l,m,h⟩:=yf.1 h;obtain⟨r,E,h⟩:=yf.1 h;exact ZFo e j m E h
  .obtain⟨a,j,h⟩:=yf.1 h;obtain⟨l,m,h⟩:=yf.1 h;obtain⟨r,E,h⟩:=yf.1 h;split at h
   .exact ZuG e j m E h
   split at h
   .exact ZCr e j m E h
   split at h
   .exact ZzY e j m E h
   .exact Wd h
 .rename_i t x e;obtain⟨d,j,h⟩:=yf.1 h;split at h
  .exact ZCh e j h
  split at h
  .exact Zz9 e j h
  .exact Wd h
 .rename_i t x ix Z e;obtain⟨d,j,h⟩:=yf.1 h;exact Zxr e j h
 .rename_i t e;exact ZuD e h
 .rename_i t l c e;obtain⟨n,j,h⟩:=yf.1 h;obtain⟨n',m,h⟩:=yf.1 h;obtain⟨d1,S,F⟩:=yf.1 j;obtain⟨d2,T,G⟩:=yf.1 m;split at h
  .exact ZxQ e (by rw[S];exact(Vf F).1) (by rw[T];exact(Vf G).1) (Vf F).2 (Vf G).2 h
  split at h
  .exact ZAb e (by rw[S];exact(Vf F).1) (by rw[T];exact(Vf G).1) (Vf F).2 (Vf G).2 h
  exact Zrg e (by rw[S];exact(Vf F).1) (by rw[T];exact(Vf G).1) (Vf F).2 (Vf G).2 h
 .rename_i t x k v e;obtain⟨d,j,h⟩:=yf.1 h;split at h
  .exact Zxw e j h
  .exact Zxv e j h
 .rename_i t x k v e;obtain⟨d,j,h⟩:=yf.1 h;exact Zxx e j h
 .rename_i t e;exact Zz3 e h
 .rename_i src dst x e;obtain⟨d,j,h⟩:=yf.1 h;split at h
  .exact ZAc e j h
  .exact Wd h
 .rename_i t x e;obtain⟨d,j,h⟩:=yf.1 h;exact ZFm e j h
 .rename_i t x y e;obtain⟨a,j,h⟩:=yf.1 h;obtain⟨v,m,h⟩:=yf.1 h;split at h
  .exact ZxM e j m h
  .exact Zz4 e j m h
 .rename_i t len parts e;split at h
  .split at h
   .exact ZAa e h
   .exact ZCu e h
  split at h
  .split at h
   .exact ZxD e h
   .exact ZuE e h
  split at h
  .exact ZxF e h
  .exact Wd h
 .rename_i t x ix e;obtain⟨a,j,h⟩:=yf.1 h;split at h
  .obtain⟨b,m,h⟩:=yf.1 h;obtain⟨ip,E,h⟩:=yf.1 h;obtain⟨q,h4,h⟩:=yf.1 h;rw[Xo E]at m;exact ZxK e j m h4 h
  .exact Wd h
 .rename_i c e;split at h
  .rename_i s;split at h
   .rename_i x t z A;obtain⟨d,j,h⟩:=yf.1 h;split at h
    .exact Zxt e s z A j h
    split at h
    .exact ZCs e s z A j h
    .exact Wd h
   .cases h
  .exact Wd h
  .exact Wd h
  .rename_i s;split at h
   .rename_i x y t u z A;obtain⟨a,j,h⟩:=yf.1 h;obtain⟨b,m,h⟩:=yf.1 h;split at h
    .exact ZuF e s z A (Zk j) m h
    split at h
    .refine ZxH e s z A ?_ m h;split
     .rw[ZFn];exact Zk j
     .exact Zk j
    .exact Wd h
   .cases h
  .rename_i s;split at h
   .rename_i x y t u z A;obtain⟨a,j,h⟩:=yf.1 h;obtain⟨b,m,h⟩:=yf.1 h;exact ZCp e s z A j m h
   .cases h
  .rename_i s;split at h
   .rename_i x t z A;obtain⟨a,j,h⟩:=yf.1 h;exact Zz6 e s z A j h
   .cases h
  .rename_i s;split at h
   .rename_i x y t u z A;obtain⟨a,j,h⟩:=yf.1 h;exact Zxz e s z A j h
   .cases h
  .rename_i f s;split at h
   .rename_i g cap I;split at h
    .rename_i M;obtain⟨az,j,h⟩:=yf.1 h;obtain⟨a,d,H',hs,U,Q,k2⟩:=ZH0 ok h;rcases k2 with k2|k2
     .exact⟨a,d,H',hs,U,Q,ZFt e s I M j k2⟩
     .exact⟨a,d,H',hs,U,Q,ZH1 e s I M j k2⟩
    .exact Wd h
   .cases h
  .rename_i W X s;split at h
   .rename_i t x I;obtain⟨g,hg,h⟩:=yf.1 h;obtain⟨M,h⟩:=Za h;obtain⟨az,j,h⟩:=yf.1 h;obtain⟨a,d,H',hs,U,Q,k2⟩:=ZHZ ok h;exact⟨a,d,H',_,_,Q,ZFu e s I (ET ok.mt hg) M j k2⟩
   .cases h
  .cases h
 .exact Wd h
def EY(ops:Array Oper)(j:Nat):yO Tmp:=(ops[j]?).bind (·.dst)
def jF(b:Bool):TD:=.p (.v .bool b)
def ZH2:TD->Bool
 |.bf []=>ae
 |_=>af
def gT(P:yg)(hi:HI)(aD:Sp P)(ops:Array Oper)(o:Oper)(ts all:yL TD)(H:yL ah)(K:Kn O):yO O:=
 match o.guard with
 |none=>rx P hi aD o ts all H K
 |some (j,e)=>(EY ops j).bind λt=>match (ts.getD t .an).boolT with
  |some b=>
   if b=ae then
    if ae=e then rx P hi aD o (ts.set t (jF ae)) (all.set t (jF ae)) H λa d H' hs c=>K a d H' (.b ae::hs) c
    else K (all.set t (jF ae)) (.bf []) H [.b ae] 0
   else
    if af=e then rx P hi aD o (ts.set t (jF af)) (all.set t (jF af)) H λa d H' hs c=>K a d H' (.b af::hs) c
    else K (all.set t (jF af)) (.bf []) H [.b af] 0
  |none=>if ZH2 (ts.getD t .an) then K all (.bf []) H [.raw] 0 else ad
structure ry(P:yg)(ops:Array Oper)(o:Oper)(ts all:List TD)(H:List ah)(all':List TD)(d:TD)(H':List ah)(hs:List aj)(bu:Nat):Prop where
 same:TD.au (lk H') all'=TD.au (lk H) all
 len:all'.length=all.length
 op:∃C,aY C/\∀yJ,cR P ops o (TD.au (lk H) ts) (aA H) (hs++yJ)=ab (C,d.er (lk H'),aA H',yJ)
 sam:bu=3->aA H'=aA H
 bu:∀yJ,bC P o (TD.au (lk H) ts) (aA H) (hs++yJ)<=bu
theorem EZ{d:TD}{a:yL TD}{H':yL ah}{hs:yL aj}{c:Nat}(h:Good P o ts all H a d H' hs c):∃C,aY C/\(∀yJ,eG P o (TD.au (lk H) ts) (aA H) (hs++yJ)=ab (C,d.er (lk H'),aA H',yJ))/\
 ∀yJ,(if(aU P o (TD.au (lk H) ts) (hs++yJ)).isSome then 0 else if(bm P o (TD.au (lk H) ts) (aA H) (hs++yJ)).isSome then 1 else 2)<=c:=by
 rcases h.op with⟨rfl,rfl,C,j,f⟩|⟨rfl,rfl,g,C,j,f⟩|⟨rfl,g,e,C,j,f⟩|⟨rfl,_,g,e,C,j,f⟩
 .exact⟨C,j,λyJ=>by unfold eG;rw[f yJ],λyJ=>by rw[f yJ];simp⟩
 .exact⟨C,j,λyJ=>by unfold eG;rw[g yJ];dsimp only;rw[f yJ],λyJ=>by rw[g yJ,f yJ];simp⟩
 .exact⟨C,j,λyJ=>by unfold eG;rw[g yJ];dsimp only;rw[e yJ];exact f yJ,λyJ=>by rw[g yJ,e yJ];simp⟩
 .exact⟨C,j,λyJ=>by unfold eG;rw[g yJ];dsimp only;rw[e yJ];exact f yJ,λyJ=>by rw[g yJ,e yJ];simp⟩
theorem FA{d:TD}{a:yL TD}{H':yL ah}{hs:yL aj}{c:Nat}(h:Good P o ts all H a d H' hs c)(hc:c=3):aA H'=aA H:=by
 subst hc;rcases h.op with⟨e,_⟩|⟨e,_⟩|⟨e,_⟩|⟨_,e,_⟩
 .cases e
 .cases e
 .cases e
 .exact e
theorem ZAq{l:yL TD}{t:Nat}{b:Bool}(h:(l.getD t .an).boolT=ab b):l.getD t .an=jF b:=by
 unfold TD.boolT at h;split at h
 .rename_i x c;unfold TP.gJ at h;split at h
  .cases h;exact c
  .cases h
 .cases h
theorem bD{l:yL TD}{t:Nat}{d:TD}(h:l.getD t .an=d):(l.set t d)=l:=by
 apply ybg;intro i;rw[List.getElem?_set];split
 .rename_i e;subst e;split
  .rename_i c;rw[<-h,ydg,yae c];rfl
  .rename_i c;rw[yat (by omega)]
 .rfl
theorem ZEc{hi:HI}{aD:Sp P}{ops:Array Oper}(ok:dt aD)(U:∀j s t,o.guard=ab (j,s)->EY ops j=ab t->ts.getD t .an=all.getD t .an)(h:gT P hi aD ops o ts all H K=ab out):
 ∃a d H' hs c,K a d H' hs c=ab out/\ry P ops o ts all H a d H' hs c:=by
 unfold gT at h;split at h
 .rename_i e;obtain⟨a,d,H',hs,c,y,l⟩:=EX ok h;obtain⟨C,E,F,G⟩:=EZ l;refine⟨a,d,H',hs,c,y,l.same,l.len,⟨C++[],Zj.2 ⟨E,aw⟩,λg=> ?_⟩,FA l,λg=> ?_⟩
  .unfold cR;rw[e];dsimp only;rw[F g];rfl
  .unfold bC;rw[e];exact G g
 .rename_i j s e;obtain⟨t,Q,m⟩:=yf.1 h;clear h;have I:=U j s t e Q
  have f:((ops[j]?).bind (·.dst)).map (λt=>(TD.au (lk H) ts).getD t .an)=ab ((ts.getD t .an).er (lk H)):=by
   rw[show(ops[j]?).bind (·.dst)=ab t from Q,yz,ue]
  split at m
  .rename_i b S;have M:=ZAq S;have T:all.getD t .an=jF b:=by rw[<-I];exact M
   have A:(ts.getD t .an).er (lk H)=.p (.bool b):=oq S;split at m
   .rename_i x;subst x;rw[bD M,bD T]at m;split at m
    .rename_i z;subst z;obtain⟨a,d,H',hs,c,y,l⟩:=EX ok m;obtain⟨C,E,F,G⟩:=EZ l;refine⟨a,d,H',_,c,y,l.same,l.len,⟨(ae=ae)::C++[],Zj.2 ⟨⟨rfl,E⟩,aw⟩,λg=> ?_⟩,FA l,λg=> ?_⟩
     .unfold cR;rw[e];dsimp only;rw[f,A];simp only[yaa,if_true,F g];rfl
     .unfold bC;rw[e];simp only[yaa,if_true];exact G g
    .rename_i z;refine⟨_,_,_,_,_,m,rfl,rfl,⟨[ae=ae],⟨rfl,aw⟩,λg=> ?_⟩,λ_=>rfl,λg=> ?_⟩
     .unfold cR;rw[e];dsimp only;rw[f,A];simp only[yaa,yw,yX z];rfl
     .unfold bC;rw[e];simp only[yaa,yX z];exact ym _
   .rename_i x;have x:b=af:=by simpa using x
    subst x;rw[bD M,bD T]at m;split at m
    .rename_i z;subst z;obtain⟨a,d,H',hs,c,y,l⟩:=EX ok m;obtain⟨C,E,F,G⟩:=EZ l;refine⟨a,d,H',_,c,y,l.same,l.len,⟨(af=af)::C++[],Zj.2 ⟨⟨rfl,E⟩,aw⟩,λg=> ?_⟩,FA l,λg=> ?_⟩
     .unfold cR;rw[e];dsimp only;rw[f,A];simp only[yaa,if_true,F g];rfl
     .unfold bC;rw[e];simp only[yaa,if_true];exact G g
    .rename_i z;refine⟨_,_,_,_,_,m,rfl,rfl,⟨[af=af],⟨rfl,aw⟩,λg=> ?_⟩,λ_=>rfl,λg=> ?_⟩
     .unfold cR;rw[e];dsimp only;rw[f,A];simp only[yaa,yw,yX z];rfl
     .unfold bC;rw[e];simp only[yaa,yX z];exact ym _
  .obtain⟨y,m⟩:=Za m
   have A:(ts.getD t .an).er (lk H)=.bf []:=by
    unfold ZH2 at y;split at y
    .rename_i W;rw[W];rfl
    .cases y
   refine⟨_,_,_,_,_,m,rfl,rfl,⟨[],zZ,λg=> ?_⟩,λ_=>rfl,λg=> ?_⟩
   .unfold cR;rw[e];dsimp only;rw[f,A];rfl
   .unfold bC;rw[e];exact ym _
def oF(ts:yL TD)(dst:yO Tmp)(d:TD):yL TD:=
 match dst with
 |some i=>ts.set i d
 |none=>ts
theorem ZAr{L:Lk}(dst:yO Tmp)(d:TD):TD.au L (oF ts dst d)=fI (TD.au L ts) dst (d.er L):=by
 cases dst with
 |none=>rfl
 |some i=>simp only[oF,fI,ZC,ybl]
theorem Zv3(dst:yO Tmp)(d:TD):(oF ts dst d).length=ts.length:=by
 cases dst <;> simp[oF]
def nj(P:yg)(hi:HI)(aD:Sp P)(ops:Array Oper):yL Oper->yL TD->yL ah->(yL TD->yL ah->yL aj->yO O)->yO O
 |[],all,H,K=>K all H []
 |o::r,all,H,K=>gT P hi aD ops o all all H λa d H' hs _=>nj P hi aD ops r (oF a o.dst d) H' λc e hs'=>K c e (hs++hs')
theorem FB{hi:HI}{aD:Sp P}{ops:Array Oper}(ok:dt aD):∀(l:yL Oper)(all:yL TD)(H:yL ah)(K:yL TD->yL ah->yL aj->yO O),nj P hi aD ops l all H K=ab out->
 ∃a h hs C,K a h hs=ab out/\a.length=all.length/\aY C/\∀yJ,jm P ops l (TD.au (lk H) all) (aA H) (hs++yJ)=ab (C,TD.au (lk h) a,aA h,yJ)
 |[],all,H,K,h=>⟨all,H,[],[],h,rfl,zZ,λ_=>rfl⟩
 |o::r,all,H,K,h=>by
  unfold nj at h;obtain⟨a,d,H',hs,c,f,e⟩:=ZEc ok (λ_ _ _ _ _=>rfl) h;obtain⟨g,j,hs',C',m,s,t,x⟩:=FB ok r _ _ _ f;obtain⟨C,y,z⟩:=e.op;refine⟨g,j,_,C++C',m,by rw[s,Zv3,e.len],Zj.2 ⟨y,t⟩,λyJ=> ?_⟩;unfold jm;rw[yac,z (hs'++yJ)];dsimp only;rw[<-e.same, <-ZAr,x yJ]
end
end Go.Ev
end
section
namespace Go.Ev
section
variable{P:yg}{o:Oper}{ts all:yL TD}{H:yL ah}{O:Type}{out:O}
def gD(keep:yL Nat):Nat->yL TD->yL TD
 |_,[]=>[]
 |i,d::r=>(if keep.contains i then d else .an)::gD keep (i+1) r
theorem rz{L:Lk}(keep:yL Nat):∀(l:yL TD)(k:Nat),TD.au L (gD keep k l)=ZR keep k (TD.au L l)
 |[],_=>rfl
 |d::r,k=>by
  rw[gD,TD.au,TD.au,ZR,rz keep r];split <;> rfl
theorem Zv4(keep:yL Nat):∀(l:yL TD)(k t:Nat),keep.contains (k+t)=ae->(gD keep k l).getD t .an=l.getD t .an
 |[],_,_,_=>rfl
 |d::r,k,0,h=>by
  have c:keep.contains k=ae:=h
  simp only[gD,c,if_true,List.getD_cons_zero]
 |d::r,k,t+1,h=>by
  simp only[gD,List.getD_cons_succ];exact Zv4 keep r (k+1) t (by rw[show k+1+t=k+(t+1) by omega];exact h)
mutual
def Pl.ba:Pl->Pl->Bool
 |.int k n,.int l m=>ag (k=l)&&ag (n=m)
 |.bool a,.bool b=>a==b
 |.str a,.str b=>ag (a=b)
 |.bH,.bH=>ae
 |.fn0,.fn0=>ae
 |.dy,.dy=>ae
 |.bR,.bR=>ae
 |.fQ f,.fQ g=>yap f g
 |.agg c,.agg e=>Pl.bV c e
 |.arr n s c,.arr m u e=>yap n m&&yap s u&&Pl.bV c e
 |.sl a s c,.sl b u e=>a==b&&yap s u&&Pl.bV c e
 |.iface t x,.iface u y=>yap t u&&Pl.ba x y
 |_,_=>af
def Pl.bV:yL Pl->yL Pl->Bool
 |[],[]=>ae
 |x::r,y::q=>Pl.ba x y&&Pl.bV r q
 |_,_=>af
end
mutual
theorem Pl.ct:∀(a b:Pl),Pl.ba a b=ae->a=b
 |.int k n,b,h=>by cases b <;> simp_all[Pl.ba]
 |.bool k,b,h=>by cases b <;> simp_all[Pl.ba]
 |.str k,b,h=>by cases b <;> simp_all[Pl.ba]
 |.bH,b,h=>by cases b <;> simp_all[Pl.ba]
 |.fn0,b,h=>by cases b <;> simp_all[Pl.ba]
 |.dy,b,h=>by cases b <;> simp_all[Pl.ba]
 |.bR,b,h=>by cases b <;> simp_all[Pl.ba]
 |.fQ f,b,h=>by cases b <;> simp_all[Pl.ba]
 |.agg c,b,h=>by cases b <;> simp_all[Pl.ba];exact Pl.bF _ _ h
 |.arr n s c,b,h=>by cases b <;> simp_all[Pl.ba];exact Pl.bF _ _ h.2
 |.sl n s c,b,h=>by cases b <;> simp_all[Pl.ba];exact Pl.bF _ _ h.2
 |.iface t x,b,h=>by cases b <;> simp_all[Pl.ba];exact Pl.ct _ _ h.2
theorem Pl.bF:∀(a b:yL Pl),Pl.bV a b=ae->a=b
 |[],[],_=>rfl
 |[],_::_,h=>by cases h
 |_::_,[],h=>by cases h
 |x::r,y::q,h=>by
  simp only[Pl.bV,yi]at h;rw[Pl.ct x y h.1,Pl.bF r q h.2]
end
def oG:yL Nat->yL Nat->Bool
 |[],[]=>ae
 |x::r,y::q=>yap x y&&oG r q
 |_,_=>af
theorem uM:∀(a b:yL Nat),oG a b=ae->a=b
 |[],[],_=>rfl
 |[],_::_,h=>by cases h
 |_::_,[],h=>by cases h
 |x::r,y::q,h=>by
  simp only[oG,yi]at h;rw[ydb h.1,uM r q h.2]
mutual
def Dv.ba:Dv->Dv->Bool
 |.p x,.p y=>Pl.ba x y
 |.elem x,.elem y=>Pl.ba x y
 |.am i o l,.am j q m=>yap i j&&yap o q&&oG l m
 |.own i a s h,.own j b u z=>yap i j&&a==b&&yap s u&&Pl.bV h z
 |.view i o l a b c,.view I M G A E F=>yap i I&&yap o M&&oG l G&&yap a A&&yap b E&&yap c F
 |.agg h,.agg z=>Dv.bV h z
 |.arr n s h,.arr m u z=>yap n m&&yap s u&&Dv.bV h z
 |.fn f h,.fn g z=>yap f g&&Dv.bV h z
 |.iface t x,.iface u y=>yap t u&&Dv.ba x y
 |.bf h,.bf z=>Dv.bV h z
 |.mp i,.mp j=>yap i j
 |.cz i,.cz j=>yap i j
 |.rv a b c d e,.rv A E F Q S=>yap a A&&yap b E&&yap c F&&yap d Q&&yap e S
 |.aW a b c l,.aW A E F G=>yap a A&&yap b E&&yap c F&&oG l G
 |.an,.an=>ae
 |_,_=>af
def Dv.bV:yL Dv->yL Dv->Bool
 |[],[]=>ae
 |x::r,y::q=>Dv.ba x y&&Dv.bV r q
 |_,_=>af
end
theorem eQ{a b:Nat}(h:yap a b=ae):a=b:=ydb h
mutual
theorem Dv.ct:∀(a b:Dv),Dv.ba a b=ae->a=b
 |.p x,b,h=>by
  cases b <;> simp only[Dv.ba,ybw]at h
  rw[Pl.ct _ _ h]
 |.elem x,b,h=>by
  cases b <;> simp only[Dv.ba,ybw]at h
  rw[Pl.ct _ _ h]
 |.am i o l,b,h=>by
  cases b <;> simp only[Dv.ba,ybw,yi]at h
  rw[eQ h.1.1,eQ h.1.2,uM _ _ h.2]
 |.own i a s g,b,h=>by
  cases b <;> simp only[Dv.ba,ybw,yi,yT]at h
  rw[eQ h.1.1.1,h.1.1.2,eQ h.1.2,Pl.bF _ _ h.2]
 |.view i o l a k c,b,h=>by
  cases b <;> simp only[Dv.ba,ybw,yi]at h
  rw[eQ h.1.1.1.1.1,eQ h.1.1.1.1.2,uM _ _ h.1.1.1.2,eQ h.1.1.2,eQ h.1.2,eQ h.2]
 |.agg g,b,h=>by
  cases b <;> simp only[Dv.ba,ybw]at h
  rw[Dv.bF _ _ h]
 |.arr n s g,b,h=>by
  cases b <;> simp only[Dv.ba,ybw,yi]at h
  rw[eQ h.1.1,eQ h.1.2,Dv.bF _ _ h.2]
 |.fn f g,b,h=>by
  cases b <;> simp only[Dv.ba,ybw,yi]at h
  rw[eQ h.1,Dv.bF _ _ h.2]
 |.iface t x,b,h=>by
  cases b <;> simp only[Dv.ba,ybw,yi]at h
  rw[eQ h.1,Dv.ct _ _ h.2]
 |.bf g,b,h=>by
  cases b <;> simp only[Dv.ba,ybw]at h
  rw[Dv.bF _ _ h]
 |.mp i,b,h=>by
  cases b <;> simp only[Dv.ba,ybw]at h
  rw[eQ h]
 |.cz i,b,h=>by
  cases b <;> simp only[Dv.ba,ybw]at h
  rw[eQ h]
 |.cC i v k,b,h=>by
  cases b <;> simp only[Dv.ba,ybw]at h
 |.pm i v,b,h=>by
  cases b <;> simp only[Dv.ba,ybw]at h
 |.rv a k c d e,b,h=>by
  cases b <;> simp only[Dv.ba,ybw,yi]at h
  rw[eQ h.1.1.1.1,eQ h.1.1.1.2,eQ h.1.1.2,eQ h.1.2,eQ h.2]
 |.aW a k c l,b,h=>by
  cases b <;> simp only[Dv.ba,ybw,yi]at h
  rw[eQ h.1.1.1,eQ h.1.1.2,eQ h.1.2,uM _ _ h.2]
 |.an,b,h=>by
  cases b <;> simp only[Dv.ba,ybw]at h;rfl
theorem Dv.bF:∀(a b:yL Dv),Dv.bV a b=ae->a=b
 |[],[],_=>rfl
 |[],_::_,h=>by cases h
 |_::_,[],h=>by cases h
 |x::r,y::q,h=>by
  simp only[Dv.bV,yi]at h;rw[Dv.ct x y h.1,Dv.bF r q h.2]
end
def ar.ba:yO ar->yO ar->Bool
 |some (.var d _),ab (.var e _)=>Dv.ba d e
 |_,_=>af
theorem ar.iV{a b:yO ar}(h:ar.ba a b=ae):cn a=cn b:=by
 unfold ar.ba at h;split at h
 .rw[Dv.ct _ _ h];rfl
 .cases h
structure TR where
 bu:Nat
 rd:Option Nat
 tc:Option (List Nat)
 n:Nat
 push:Bool
 loc:Bool
 m:Nat
 sm:Nat->Bool
 ex:Bool
def uN(P:yg)(o:Oper)(ts:yL Dv)(hs:yL aj)(n id:Nat):Bool:=
 match o.guard,hs with
 |some (_,c),.b β::hs'=>if β=c then(match iK P o ts hs' with|some l=> !l.contains id&&ag (id < n)|none=>af) else af
 |_,_=>af
def uO(P:yg)(hi:HI)(aD:Sp P)(ops:Array Oper):yL Oper->yL TD->yL ah->(yL TD->yL ah->yL TR->yL aj->yO O)->yO O
 |[],all,H,K=>K all H [] []
 |o::r,all,H,K=>gT P hi aD ops o (gD (looks ops o) 0 all) all H λa d H' hs c=>uO P hi aD ops r (oF a o.dst d) H' λe f rs hs'=>
   K e f (⟨c,pC P o (TD.au (lk H) (gD (looks ops o) 0 all)),jY P o (TD.au (lk H) (gD (looks ops o) 0 all)) hs,H.length,ir o hs H.length,jX o hs,H'.length,λid=>(c==3) || uN P o (TD.au (lk H) (gD (looks ops o) 0 all)) hs H.length id || ar.ba ((aA H')[id]?) ((aA H)[id]?),jn o⟩::rs) (hs++hs')
def iW(R:Rec)(r:TR):Prop:=R.bu<=r.bu/\(R.rd=r.rd/\R.ex=r.ex)/\(∀l,r.tc=ab l->R.tc=ab l)/\R.H.length=r.n/\(r.push=ae->R.push=ae)/\(r.loc=ae->R.loc=ae)/\R.H'.length=r.m/\∀id,r.sm id=ae->cn (R.H'[id]?)=cn (R.H[id]?)
inductive cV:List Rec->List TR->Prop where
 |nil:cV [] []
 |cons {R:Rec} {r:TR} {Rs:List Rec} {rs:List TR} (h:iW R r) (k:cV Rs rs):cV (R::Rs) (r::rs)
theorem Ztd{ts:yL Dv}{hs yJ:yL aj}{l:yL Nat}(h:iK P o ts hs=ab l):iK P o ts (hs++yJ)=ab l:=by
 unfold iK at h ⊢;split at h <;> first|exact h|skip
 .cases hs with
  |nil=>cases h
  |cons x r=>rw[yaa];cases x <;> exact h
 split at h <;> first|exact h|skip
 all_goals
  split at h
  .exact h
  .cases h
theorem ZKs{ts:yL Dv}{hs yJ:yL aj}{l:yL Nat}(h:jY P o ts hs=ab l):jY P o ts (hs++yJ)=ab l:=by
 unfold jY at h ⊢;split at h
 .rename_i c;rw[yW c];exact Ztd h
 .cases h
theorem ZH3{hs yJ:yL aj}(h:jX o hs=ae):jX o (hs++yJ)=ae:=by
 unfold jX at h ⊢;rw[yi]at h ⊢;refine⟨h.1, ?_⟩;have h:=h.2;split at h
 .split at h
  .split at h
   .exact h
   .cases h
  .split at h
   .exact h
   .cases h
  .cases h
 .cases h
theorem ZFv{hs yJ:yL aj}{n:Nat}(h:ir o hs n=ae):ir o (hs++yJ) n=ae:=by
 unfold ir at h ⊢;rw[yi]at h ⊢;refine⟨h.1, ?_⟩;have h:=h.2;split at h
 .rfl
 .split at h
  .split at h
   .exact h
   .cases h
  .cases h
 .cases h
theorem ZKt{ops:Array Oper}{ts:yL Dv}{H:yL ar}{hs yJ:yL aj}{C:yL Prop}{d:Dv}{H':yL ar}{e:yL aj}{id:Nat}(h:cR P ops o ts H (hs++yJ)=ab (C,d,H',e))(ht:uN P o ts hs H.length id=ae):cn (H'[id]?)=cn (H[id]?):=by
 unfold uN at ht;split at ht
 .rename_i j g β hs' t;split at ht
  .rename_i x;split at ht
   .rename_i l y;rw[yi]at ht;have z:id < H.length:=by simpa using ht.2
    have A:l.contains id=af:=by simpa using ht.1
    rw[yaa]at h;unfold cR at h;rw[t]at h;dsimp only at h;split at h
    .rename_i F G m I f;cases f;rw[yW x,yq]at h;obtain⟨⟨C1,d1,H1,E⟩,c,s⟩:=h;simp only[yl]at s;obtain⟨_,_,rfl,_⟩:=s;unfold eG at c;split at c
     .cases c;rfl
     .split at c
      .cases c;rfl
      .exact RC c (Ztd y) z A
    .rename_i f;cases f
    .cases h
   .cases ht
  .cases ht
 .cases ht
theorem Zte{hi:HI}{aD:Sp P}{ops:Array Oper}(ok:dt aD):∀(l:yL Oper)(all:yL TD)(H:yL ah)(K:yL TD->yL ah->yL TR->yL aj->yO O),uO P hi aD ops l all H K=ab out->
 ∃a h rs hs C,K a h rs hs=ab out/\a.length=all.length/\aY C/\∀yJ,∃RS,lZ P ops l (TD.au (lk H) all) (aA H) (hs++yJ)=ab (C,RS,TD.au (lk h) a,aA h,yJ)/\cV RS rs
 |[],all,H,K,h=>⟨all,H,[],[],[],h,rfl,zZ,λ_=>⟨[],rfl,.nil⟩⟩
 |o::r,all,H,K,h=>by
  unfold uO at h
  have g:∀j e t,o.guard=ab (j,e)->EY ops j=ab t->(gD (looks ops o) 0 all).getD t .an=all.getD t .an:=by
   intro j e t x hs;refine Zv4 _ _ _ _ ?_;rw[Nat.zero_add];unfold looks;rw[x];dsimp only;rw[show(ops[j]?).bind (·.dst)=ab t from hs]
   simp
  obtain⟨a,d,H',hs,c,y,f⟩:=ZEc ok g h;obtain⟨z,A,rs,hs',C',E,F,G,I⟩:=Zte ok r _ _ _ y;obtain⟨C,M,s⟩:=f.op;refine⟨z,A,_,_,C++C',E,by rw[F,Zv3,f.len],Zj.2 ⟨M,G⟩,λyJ=> ?_⟩;obtain⟨RS,Q,S⟩:=I yJ;unfold lZ;rw[<-rz,yac,s (hs'++yJ)];dsimp only;rw[<-f.same, <-ZAr,Q]
  refine⟨_,rfl,.cons ⟨f.bu _,⟨rfl,rfl⟩,λl m=> ?_,ZE _,λT=>by rw[ZE];exact ZFv T,λm=>ZH3 m,ZE _,λid hs=>by
   have hs:(c==3 || uN P o (TD.au (lk H) (gD (looks ops o) 0 all)) _ H.length id || ar.ba ((aA H')[id]?) ((aA H)[id]?))=ae:=hs;rw[yco,yco]at hs;rcases hs with(h5|h5)|h5
   .rw[f.sam (by simpa using h5)]
   .exact ZKt (s []) (by rw[ZE];exact h5)
   .exact ar.iV h5⟩ S⟩
  exact ZKs m
def uP(ops:Array Oper)(c:yL Nat)(free comm:Nat->Nat->Bool):Bool:=
 let l:=ops.toList;let A:=xt l;let n:=l.length
 (c.length==n)&&pD l 0&&
 ((yu n).all λi=>match l[i]? with|some o=>A.getD i 0==mb A i o|none=>ae)&&
 ((yu n).all λi=>(yu n).all λj=>i==j || gW l i==ad || !(gW l i==gW l j))&&
 ((yu n).all λi=>match l[i]? with
   |some o=>let k:=looks ops o
    (yu n).all λj=>match gW l j with
      |some t=>i==j || !(k.contains t) || (if j < i then(A.getD i 0).testBit j else(A.getD j 0).testBit i)
      |none=>ae
   |none=>ae)&&
 ((yu n).all λi=>c.getD i 0==0 || (yu n).all λj=>i==j || decide (c.getD j 0 < 2) || (if j < i then(A.getD i 0).testBit j else(A.getD j 0).testBit i) || (ag (c.getD i 0<=1)&&free i j) || comm i j)
def FC(rs:yL TR)(i j:Nat):Bool:=
 match rs[i]?,rs[j]? with
 |some r,ab q=>match r.rd with
  |some id=>ag (id < q.n)&&ag (id < r.n)&&(if r.ex=ae then q.push else((match q.tc with|some l=> !l.contains id|none=>af) || q.sm id))
  |none=>af
 |_,_=>af
def cT(rs:yL TR)(c:Nat)(r:TR):Bool:=r.loc || (r.push&&r.m==r.n+1&&(rs.take c).all λq=>ag (q.n<=r.n))
def cI(rs:yL TR):Nat:=match rs.findIdx? (λr=>r.loc&&r.bu==2) with
 |some c=>c
 |none=>match rs.findIdx? (λr=>r.loc&&r.bu==3) with
  |some c=>c
  |none=>(rs.findIdx? (λr=>r.push)).getD 0
def uQ(rs:yL TR)(i j:Nat):Bool:=
 let c:=cI rs
 ((rs[c]?).map (cT rs c)).getD af&&((i==c&&ag (c < j)&&((rs[j]?).map (·.push)).getD af) || (j==c&&ag (c < i)&&((rs[i]?).map (·.push)).getD af))
theorem FD{RS:yL Rec}{rs:yL TR}(h:cV RS rs):RS.length=rs.length:=by
 induction h with
 |nil=>rfl
 |cons _ _ c=>simp[c]
theorem rA{RS:yL Rec}{rs:yL TR}(h:cV RS rs):∀{i:Nat}{r:TR},rs[i]? =ab r->∃R,RS[i]? =ab R/\iW R r:=by
 induction h with
 |nil=>intro i r h;simp at h
 |cons h k e=>
  intro i r c
  cases i with
  |zero=>cases c;exact⟨_,rfl,h⟩
  |succ i=>exact e c
theorem ZFw{RS:yL Rec}{rs:yL TR}(h:cV RS rs):∀{i:Nat}{R:Rec},RS[i]? =ab R->∃r,rs[i]? =ab r/\iW R r:=by
 induction h with
 |nil=>intro i r h;simp at h
 |cons h k e=>
  intro i r c
  cases i with
  |zero=>cases c;exact⟨_,rfl,h⟩
  |succ i=>exact e c
theorem ZAs{RS:yL Rec}{rs:yL TR}(h:cV RS rs)(i:Nat):(RS.map (·.bu)).getD i 0<=(rs.map (·.bu)).getD i 0:=by
 simp only[ydg,yah]
 cases c:rs[i]? with
 |none=>
  have:RS[i]? =ad:=by rw[List.getElem?_eq_none_iff]at c ⊢;rw[FD h];exact c
  rw[this]
  exact ym _
 |some r=>
  obtain⟨R,e,k⟩:=rA h c;rw[e];exact k.1
theorem ZKu{ops:Array Oper}{RS:yL Rec}{rs:yL TR}(h:cV RS rs)(k:uP ops (rs.map (·.bu)) (FC rs) (uQ rs)=ae)(hn:rs.length=ops.size):sY ops RS=ae:=by
 unfold uP at k;unfold sY;simp only[yi]at k ⊢;obtain⟨⟨⟨⟨⟨k1,k2⟩,k3⟩,k4⟩,k5⟩,Z⟩:=k;refine⟨⟨⟨⟨⟨?_,k2⟩,k3⟩,k4⟩,k5⟩, ?_⟩
 .simpa[FD h] using k1
 .have F:∃c,c∈yu (ops.toList.length+1)/\∀i j,uQ rs i j=ae->jo RS c i j=ae:=by
   have t:∀(k:Nat),((rs[k]?).map (·.push)).getD af=ae->((RS[k]?).map (·.push)).getD af=ae:=by
    intro k s
    cases m:rs[k]? with
    |none=>rw[m]at s;cases s
    |some r=>
     obtain⟨R,z,e⟩:=rA h m;rw[m]at s;rw[z];exact e.2.2.2.2.1 s
   refine⟨if cI rs < rs.length then cI rs else 0, ?_,λi j f=> ?_⟩
   .rw[List.mem_range];split
    .rename_i y;rw[hn]at y;have:ops.toList.length=ops.size:=by simp
     omega
    .omega
   .unfold uQ at f;dsimp only at f;generalize cI rs=c at f ⊢;rw[yi]at f;obtain⟨h1,h2⟩:=f
    cases m:rs[c]? with
    |none=>rw[m]at h1;cases h1
    |some r=>
     have y:=(yp.1 m).1;rw[yW y];obtain⟨R,z,e⟩:=rA h m;rw[m]at h1;unfold jo;rw[yi];refine⟨?_, ?_⟩
     .rw[z];show sX RS c R=ae;have h1:cT rs c r=ae:=h1;unfold cT at h1;unfold sX;rw[yco]at h1 ⊢;rcases h1 with h1|h1
      .exact .inl (e.2.2.2.2.2.1 h1)
      .simp only[yi,yT,ybn,yP]at h1 ⊢;obtain⟨⟨b1,b2⟩,b3⟩:=h1;refine .inr ⟨⟨e.2.2.2.2.1 b1,by rw[e.2.2.2.2.2.2.1,e.2.2.2.1];exact b2⟩,λq G=> ?_⟩;obtain⟨k,s⟩:=List.mem_iff_getElem?.1 G;rw[ycg]at s;split at s
       .rename_i I;obtain⟨q2,f1,f2⟩:=ZFw h s;rw[f2.2.2.2.1,e.2.2.2.1];refine b3 q2 (List.mem_iff_getElem?.2 ⟨k, ?_⟩);rw[ycg,yW I];exact f1
       .cases s
     .simp only[yco,yi]at h2 ⊢;rcases h2 with⟨⟨M,S⟩,T⟩|⟨⟨M,S⟩,T⟩
      .exact .inl ⟨⟨M,S⟩,t _ T⟩
      .exact .inr ⟨⟨M,S⟩,t _ T⟩
  obtain⟨c,U,W⟩:=F;rw[List.any_eq_true];refine⟨c,U, ?_⟩;rw[ybn]at Z ⊢;intro i hi;have:=Z i hi;have hc:=ZAs h i;simp only[yco]at this ⊢;rcases this with h0|h1
  .left;have h0:(rs.map (·.bu)).getD i 0=0:=by simpa using h0
   have:(RS.map (·.bu)).getD i 0=0:=by omega
   simpa using this
  .by_cases hz:(RS.map (·.bu)).getD i 0=0
   .left;simpa using hz
   .right;rw[ybn]at h1 ⊢;intro j hj;have h2:=h1 j hj;have hd:=ZAs h j;simp only[yco,yi,yP]at h2 ⊢;rcases h2 with(((h2|h2)|h2)|h2)|h2
    .exact .inl (.inl (.inl (.inl h2)))
    .refine .inl (.inl (.inl (.inr ?_)));have:(RS.map (·.bu)).getD j 0≠2:=by omega
     simpa using this
    .exact .inl (.inl (.inr h2))
    .refine .inl (.inr ⟨?_, ?_⟩)
     .have:(RS.map (·.bu)).getD i 0=1:=by omega
      simpa using this
     .have x:=h2.2;unfold FC at x;unfold kV;split at x
      .rename_i r q m G;obtain⟨R,z,e⟩:=rA h m;obtain⟨Q,e3,E⟩:=rA h G;rw[z,e3];dsimp only;split at x
       .rename_i id X;rw[e.2.1.1,X];dsimp only;rw[E.2.2.2.1,e.2.2.2.1];rw[yi]at x ⊢;refine⟨x.1, ?_⟩;have g:=x.2;rw[e.2.1.2];by_cases A:r.ex=ae
        .rw[yW A]at g ⊢;exact E.2.2.2.2.1 g
        rw[yX A]at g ⊢;rw[yco]at g ⊢;rcases g with h5|h5
        .left;split at h5
         .rename_i l Y;rw[E.2.2.1 l Y];exact h5
         .cases h5
        .right;exact@decide_eq_true _ (Classical.propDecidable _) (E.2.2.2.2.2.2.2 id h5)
       .cases x
      .cases x
    .exact .inr (W i j h2)
def rB:ah->ah
 |.var d _=>.var d af
 |e=>e
def oH(ids:yL Nat)(H:yL ah):yL ah:=(yu H.length).zipWith (λi e=>if ids.contains i then rB e else e) H
theorem ZKv(e:ah):dc (ab (rB e))=dc (ab e):=by cases e <;> rfl
theorem Ztg(ids:yL Nat)(H:yL ah)(i:Nat):(oH ids H)[i]? =(H[i]?).map λe=>if ids.contains i then rB e else e:=by
 unfold oH;rw[List.getElem?_zipWith];rcases yck i H.length with h|h
 .rw[List.getElem?_range h,yae h];rfl
 .rw[yat (by simpa using h),yat h];rfl
theorem Zv6(ids:yL Nat)(H:yL ah):lk (oH ids H)=lk H:=by
 funext i;unfold lk;rw[Ztg]
 cases H[i]? with
 |none=>rfl
 |some e=>
  show dc (ab (if ids.contains i=ae then rB e else e))=_
  split
  .exact ZKv e
  .rfl
theorem ZFx(ids:yL Nat)(H:yL ah):ca (aA H) (aA (oH ids H)):=by
 refine EK (by rw[ZE,ZE];unfold oH;simp) λi a b c f=> ?_;unfold aA at c f;rw[yah]at c f;rw[Zv6,Ztg]at f
 cases g:H[i]? with
 |none=>rw[g]at c;cases c
 |some e=>
  rw[g]at c f;cases c;cases f;show dI (e.er (lk H)) (ah.er (lk H) (if ids.contains i=ae then rB e else e))
  split
  .cases e <;> first|exact .refl _|exact .bS
  .exact .refl _
theorem ZH6{c:Code}{ts f:yL Dv}{H0 H1 H2:yL ar}{j:Ex}(h:ca H0 H1)(r:Wq P c ts H1 j f H2):Wq P c ts H0 j f H2:=by
 intro J a l m s;obtain⟨to,g⟩:=js l (H':=H1) (by rw[m];exact h);refine wp_mono (r { J with H:=H1} a g rfl (s.to to.leaf)) ?_;rintro e E F ⟨rfl,J2,t,x,y,z,A⟩;exact⟨rfl,J2,t,x,to.trans y,z,A⟩
def ZH7(ops:yL Oper)(all:yL TD):Nat->Tmp->yO Nat
 |0,_=>ad
 |n+1,x=>match ops.find? λo=>o.dst==ab x with
  |some o=>match o.op with
   |.fieldAddr _ (.tmp y) _=>ZH7 ops all n y
   |_=>ad
  |none=>match all.getD x .an with
   |.am id _=>ab id
   |_=>ad
def ZNz(hi:HI)(ops:yL Oper)(all:yL TD)(o:Oper):yO Nat:=
 match o.op with
 |.slice _ (.tmp x) _ _ ad=>if gb hi.bS o.dst then ZH7 ops all 4 x else ad
 |_=>ad
def rC(hi:HI)(ops:Array Oper)(all:yL TD)(H:yL ah):yL ah:=
 match hi.bS with
 |[]=>H
 |_=>match ops.toList.filterMap (ZNz hi ops.toList all) with
  |[]=>H
  |ids=>oH ids H
theorem ZFy(hi:HI)(ops:Array Oper)(all:yL TD)(H:yL ah):ca (aA H) (aA (rC hi ops all H))/\lk (rC hi ops all H)=lk H:=by
 unfold rC;split
 .exact⟨ca.refl _,rfl⟩
 .split
  .exact⟨ca.refl _,rfl⟩
  .exact⟨ZFx _ _,Zv6 _ _⟩
def FE(P:yg)(hi:HI)(aD:Sp P)(ops:Array Oper)(all:yL TD)(H:yL ah)(K:yL TD->yL ah->yO O):yO O:=
 if P.follows .mixedOrders then uO P hi aD ops ops.toList all (rC hi ops all H) λa h rs _=>if uP ops (rs.map (·.bu)) (FC rs) (uQ rs)=ae then K a h else ad else ad
theorem ZFz{hi:HI}{aD:Sp P}{ops:Array Oper}{K:yL TD->yL ah->yO O}(ok:dt aD)(h:FE P hi aD ops all H K=ab out):∃a h,K a h=ab out/\a.length=all.length/\∀id,Wq P (.region id ops ae) (TD.au (lk H) all) (aA H) .normal (TD.au (lk h) a) (aA h):=by
 unfold FE at h;split at h
 .rename_i l;obtain⟨e,f⟩:=ZFy hi ops all H;generalize rC hi ops all H=H0 at h e f;obtain⟨a,m,rs,hs,C,s,t,x,y⟩:=Zte ok _ _ _ _ h;obtain⟨c,z⟩:=Za s;refine⟨a,m,z,t,λid=> ?_⟩;obtain⟨RS,g,j⟩:=y [];rw[<-f];refine ZH6 e (RX (hs:=hs) (hs':=[]) (C:=C) ?_ x);simp only[ev,if_true];unfold sZ;rw[yW l];rw[ybb]at g;rw[g];dsimp only;rw[yW (ZKu j c (by have:=FD j;unfold uP at c;simp only[yi]at c;simpa using c.1.1.1.1.1))];rfl
 .cases h
theorem ZFA{hi:HI}{aD:Sp P}{ops:Array Oper}{K:yL TD->yL ah->yL aj->yO O}(ok:dt aD)(h:nj P hi aD ops ops.toList all H K=ab out):∃a h hs,K a h hs=ab out/\a.length=all.length/\∀id,Wq P (.region id ops af) (TD.au (lk H) all) (aA H) .normal (TD.au (lk h) a) (aA h):=by
 obtain⟨a,c,hs,C,e,f,g,j⟩:=FB ok _ _ _ _ h;refine⟨a,c,hs,e,f,λid=> ?_⟩;refine RX (hs:=hs) (hs':=[]) (C:=C) ?_ g;have:=j [];rw[ybb]at this;simp only[ev,ybw,if_false,this];rfl
end
end Go.Ev
end
section
namespace Go.Ev
section
variable{P:yg}{a:Act}{J:Sg}{ts:yL Dv}
theorem Zti{ops:Array Oper}(Q:Exit->Act->World->Prop){g:yL Dv}(more:yL Nat):∀(l:yL Oper)(k:Nat)(ts:yL Dv)(J:Sg)(a:Act)(hs hs':yL aj)(C:yL Prop)(H':yL ar),
 (∀(j:Nat)(x:Oper),l[j]? =ab x->ops[k+j]? =ab x)->Ok J->ay J ts a->jm P ops l ts J.H hs=ab (C,g,H',hs')->aY C->
 (∀m J',J'.H=H'->To J J'->Ok J'->ay J' g m->wpOps P ops Q more m J'.w)->wpOps P ops Q (List.range' k l.length++more) a J.w
 |[],k,ts,J,a,hs,hs',C,H',_,s,t,h,I,y=>by
  simp only[jm,yj,yl]at h;obtain⟨rfl,rfl,rfl,rfl⟩:=h
  exact y a J rfl (To.refl J) s t
 |o::l,k,ts,J,a,hs,hs',C,H',M,s,t,h,I,y=>by
  simp only[jm]at h;split at h
  .rename_i C1 d1 H1 z T;split at h
   .rename_i C2 U H2 W X;simp only[yj,yl]at h;obtain⟨rfl,rfl,rfl,rfl⟩:=h;obtain⟨Y,Z⟩:=Zj.1 I;have h0:ops[k]? =ab o:=by simpa using M 0 o rfl
    simp only[yam,List.range'_succ,yaa,wpOps,h0]
    have c:=tL (P:=P) (ops:=ops) s t T Y (wpOps P ops Q (List.range' (k+1) l.length++more)) Q (λv J1 e1 A E e=>by
     subst e1
     exact Zti Q more l (k+1) _ J1 _ z _ C2 _ (λj x hx=>by have:=M (j+1) x (by simpa using hx);simpa[Nat.add_assoc,Nat.add_comm 1 j] using this) E e X Z
      (λm J' e2 F G f=>y m J' e2 (A.trans F) G f))
    by_cases S:Region.wanted o (yielded ops a.tmps)=ae
    .rw[yW S]at c ⊢;exact .inl c
    .rw[yX S]at c ⊢;exact c
   .cases h
  .cases h
theorem uR{ops:Array Oper}{Q:Exit->Act->World->Prop}{i:Nat}{yJ:yL Nat}{o:Oper}{v:Value}{w w':World}(g:ops[i]? =ab o)(n:o.guard=ad)(hx:(execOp a.eval o).run P w=.ok (.value v) w')
 (k:wpOps P ops Q yJ (a.put o.dst v) w'):wpOps P ops Q (i::yJ) a w:=by
 have c:Region.wanted o (yielded ops a.tmps)=ae:=by simp[Region.wanted,n]
 simp only[wpOps,g];rw[yW c];refine .inl ?_;unfold Oper.wp;rw[hx];exact k
theorem ZCI{ops:Array Oper}{Q:Exit->Act->World->Prop}{i:Nat}{yJ:yL Nat}{o:Oper}{w w':World}(g:ops[i]? =ab o)(n:o.guard=ad)(hx:(execOp a.eval o).run P w=.ok .skip w')
 (k:wpOps P ops Q yJ (a.put o.dst undef) w'):wpOps P ops Q (i::yJ) a w:=by
 have c:Region.wanted o (yielded ops a.tmps)=ae:=by simp[Region.wanted,n]
 simp only[wpOps,g];rw[yW c];refine .inl ?_;unfold Oper.wp;rw[hx];exact k
theorem uS{t:Nat}{v:Value}(h:t < a.tmps.size):(a.put (ab t) v).eval (.tmp t)=v:=by
 show(a.tmps.setIfInBounds t v).getD t undef=v;simp[ydi,Array.getElem?_setIfInBounds,h]
theorem FF{t s:Nat}{v:Value}(h:s≠t):(a.put (ab t) v).eval (.tmp s)=a.eval (.tmp s):=by
 show(a.tmps.setIfInBounds t v).getD s undef=a.tmps.getD s undef;simp[ydi,Array.getElem?_setIfInBounds,h,Ne.symm h]
theorem uT{J':Sg}{t:Nat}{v:Value}(h:ay J' ts a):ay J' (ts.set t .an) (a.put (ab t) v):=
 mG (o:={ (default:Oper) with dst:=ab t}) h Wb
theorem ZKw{ops:Array Oper}{Q:Exit->Act->World->Prop}{p t0 t1 t2 t3:Nat}{o1 o2 o3 o4 o5:Oper}(g1:ops[p]? =ab o1)(g2:ops[p+1]? =ab o2)(g3:ops[p+2]? =ab o3)(g4:ops[p+3]? =ab o4)(g5:ops[p+4]? =ab o5)
 (n1:o1.guard=ad) (n2:o2.guard=ad) (n3:o3.guard=ad) (n4:o4.guard=ad) (n5:o5.guard=ad) {t tt u t5 kt et e:yb} {m k y m5:yo} {c:Call} {id:Nat}
 (h1:o1.op=.mapEntry t m k) (d1:o1.dst=ab t0) (h2:o2.op=.extract (.tmp t0) 0) (d2:o2.dst=ab t1) (h3:o3.op=.call c) (hc:c.callee=.builtin .append) (ha:c.args.toList=[.tmp t1,y]) (hty:c.argTypes.toList=[tt,u]) (d3:o3.dst=ab t2)
 (h4:o4.op=.extract (.tmp t0) 1) (d4:o4.dst=ab t3) (h5:o5.op=.entryStore t5 m5 (.tmp t3) (.tmp t2)) (d5:o5.dst=ad) (q01:t0≠t1) (q02:t0≠t2) (q23:t2≠t3) (l0:t0 < ts.length) (l1:t1 < ts.length) (l2:t2 < ts.length) (l3:t3 < ts.length)
 (ok:Ok J) (yK:ay J ts a) {kk:Pl} {tm:yb} {s0:Nat} {i:TypeInfo} {ys:yL Pl} (hu:P.underlying t=ab (.map kt et)) (hm:Zo P ts t m=.mp id) (hk:Zo P ts kt k=.p kk) (hH:J.H[id]? =ab (.map tm [])) (hkt:eS P kt=ae) (W:aO P 20 kt kk)
 (I:jl P et=ae) (hzd:YI P et=.p (.sl (ab af) s0 [])) (htt:P.underlying tt=ab (.slice e)) (hi:P.info? e=ab i) (hz:bP i=ae) (hne:i.size≠0)
 (hsrc:gG P (P.cellsOf e) u (Zo P ((ts.set t0 .an).set t1 .an) u y)=ab ys) (hb:ys.length*i.bytes<=Zn) (hmx:ys.length<=maxLen) (hm5:Zo P ((((ts.set t0 .an).set t1 .an).set t2 .an).set t3 .an) t5 m5=.mp id)
 (hQ:∀a' J',J'.H=J.H.set id (.map tm [(kk,.sl ad (P.cellsOf e) ys)])->To J J'->Ok J'->ay J' ((((ts.set t0 .an).set t1 .an).set t2 .an).set t3 .an) a'->Q .normal a' J'.w):wpOps P ops Q [p,p+1,p+2,p+3,p+4] a J.w:=by
 have M:=Zh (P:=P) yK t m;rw[hm]at M;obtain⟨b,S,M⟩:=mE M;have A:=Zh (P:=P) yK kt k;rw[hk]at A;obtain⟨b',es,f,e1,T,hkr,hbo⟩:=ok.cA id _ _ hH S;cases e1
 have hes:es= #[]:=by
  have:=zl _ _ (OQ hkr);have h0:es.toList=[]:=List.eq_nil_of_length_eq_zero this;exact Array.toList_inj.1 h0
 subst hes;obtain⟨F,hF,hrunF⟩:=VE (P:=P) hkt W A;have hchk:=Xk (em:=af) 20 kt kk _ W A 9980
 have hfind:(Instr.findKey kt (a.eval k) ([]:yL MapEntry)).run P J.w=.ok ad J.w:=by
  rcases zc (v:=kk) hF [] [] 0 [(kk,kk)] (OQ hkr) (λq hq=>by cases hq) (by simp[QG]) with⟨j,e',_,f2,_⟩|⟨f1,_⟩
  .simp at f2
  .exact hrunF _ _ f1
 obtain⟨zv,hzv,hzr⟩:∃z,(zeroValue et).run P J.w=.ok z J.w/\yH J (YI P et) z:=by
  unfold jl at I;split at I
  .rename_i i hi
   cases hzz:i.zero with
   |none=>simp[hzz]at I
   |some z=>
    refine⟨z,by simp[zeroValue,typeInfo,hi,hzz], ?_⟩;unfold YI;rw[hi];simp only[hzz];exact VB
  .cases I
 rw[hzd]at hzr;have hzn:=kZ hzr;subst hzn;let X:MapEntry:={ key:=a.eval k,val:=.slice ad 0 0,born:=f};obtain⟨E,g⟩:=lc (es':= #[X]) (clock':=f+1) ok hH S T (l:=[(kk,.sl (ab af) s0 [])]) (OR ⟨A,hzr,aw⟩) (nZ (es:= #[]) hbo rfl);let J1:Sg:={ J with m:=J.m.set id (ab b),H:=J.H.set id (.map tm [(kk,.sl (ab af) s0 [])]),w:={ J.w with heap:=J.w.heap.setIfInBounds b (.map #[X] (f+1))}};have E:To J J1:=E;have g:Ok J1:=g
 have x1:(execOp a.eval o1).run P J.w=.ok (.value (.tuple #[.slice ad 0 0,goInt f])) J1.w:=by
  have:(Instr.mapEntry t (a.eval m) (a.eval k)).run P J.w=.ok (.tuple #[.slice ad 0 0,goInt f]) J1.w:=by
   simp only[Instr.mapEntry,Sem.run_bind,run_underlying hu,Result.andThen_ok,M,Yt T,hchk,hfind,hzv,Go.MapKept.run_setObj_map _ T,Sem.run_pure];rfl
  simp[execOp,h1,this]
 refine uR g1 n1 x1 ?_;rw[d1];have r1:ay J1 (ts.set t0 .an) (a.put (ab t0) (.tuple #[.slice ad 0 0,goInt f])):=uT (yK.to E.leaf);generalize ha1:a.put (ab t0) (.tuple #[.slice ad 0 0,goInt f])=a1 at r1 ⊢;have ht0:t0 < a.tmps.size:=by rw[yK.size];exact l0
 have v1:a1.eval (.tmp t0)=.tuple #[.slice ad 0 0,goInt f]:=by rw[<-ha1];exact uS ht0
 have x2:(execOp a1.eval o2).run P J1.w=.ok (.value (.slice ad 0 0)) J1.w:=by
  have:(Instr.extract (a1.eval (.tmp t0)) 0).run P J1.w=.ok (.slice ad 0 0) J1.w:=by rw[v1];simp[Instr.extract]
  simp[execOp,h2,this]
 refine uR g2 n2 x2 ?_;rw[d2];have r2:ay J1 ((ts.set t0 .an).set t1 .an) (a1.put (ab t1) (.slice ad 0 0)):=uT r1;have s1:t1 < a1.tmps.size:=by rw[r1.size,yax];exact l1
 generalize ha2:a1.put (ab t1) (.slice ad 0 0)=a2 at r2 ⊢;have v2:a2.eval (.tmp t1)=.slice ad 0 0:=by rw[<-ha2];exact uS s1
 have v20:a2.eval (.tmp t0)=.tuple #[.slice ad 0 0,goInt f]:=by rw[<-ha2,FF q01];exact v1
 have hce:P.cellsOf e=i.size:=by simp[Program.cellsOf,hi]
 have key:∃U s,(execOp a2.eval o3).run P J1.w=.ok (.value U) s/\To J1 { J1 with w:=s}/\Ok { J1 with w:=s}/\s.heap[b]? =ab (.map #[X] (f+1))/\yH { J1 with w:=s} (.p (.sl ad (P.cellsOf e) ys)) U:=by
  obtain⟨gs1,gs2⟩:=Go.MapKept.heap_set (w:=J.w) (o':=.map #[X] (f+1)) T;rcases Qt (P:=P) (ty:=o3.type) (u:=u) (y:=y) g r2 htt hi hz hne (nW (P:=P) r2 hsrc) hb hmx with⟨rfl,zU⟩|⟨zW,yJ,hys,zO,hr,hge,hcm,hcs,zU⟩
  .exact⟨_,J1.w,Yi h3 hc ha hty (by rw[v2];exact zU),To.refl J1,g,gs1,Yp (λ_ hx=>by cases hx) (ym _) (by simp[maxLen]) (Yd _) (λ_=>rfl) (λh=>absurd rfl h)⟩
  .have hg:=Xs J1.w (.cells (zW.toArray++yJ) e) ad;obtain⟨to,ok'⟩:=pK g hg;have zV:zW.length=ys.length*i.size:=by rw[aG _ _ hr,aI zO]
   have hlt:b < J1.w.heap.size:=g.lt id b (ai S);refine⟨_,_,Yi h3 hc ha hty (by rw[v2];exact zU),to,ok',(hg.block b hlt (by simp)).trans gs1, ?_⟩;rw[hce];exact xQ (Yd _) ok' zO (ax to.leaf.cells _ _ hr) (b:=J1.w.heap.size) (cells:=zW) (heap_alloc_new J1.w.drew _) (g.new _ (ym _)) (tw g) (by simp) hge hcm
 obtain⟨U,s,x3,to3,ok3,hb3,hv3⟩:=key;refine uR g3 n3 x3 ?_;rw[d3];let J3:Sg:={ J1 with w:=s};have r3:ay J3 (((ts.set t0 .an).set t1 .an).set t2 .an) (a2.put (ab t2) U):=uT (r2.to to3.leaf);have s2:t2 < a2.tmps.size:=by rw[r2.size,yax,yax];exact l2
 generalize ha3:a2.put (ab t2) U=a3 at r3 ⊢;have v30:a3.eval (.tmp t0)=.tuple #[.slice ad 0 0,goInt f]:=by rw[<-ha3,FF q02];exact v20
 have v32:a3.eval (.tmp t2)=U:=by rw[<-ha3];exact uS s2
 have x4:(execOp a3.eval o4).run P s=.ok (.value (goInt f)) s:=by
  have:(Instr.extract (a3.eval (.tmp t0)) 1).run P s=.ok (goInt f) s:=by rw[v30];simp[Instr.extract]
  simp[execOp,h4,this]
 refine uR g4 n4 x4 ?_;rw[d4];have r4:ay J3 ((((ts.set t0 .an).set t1 .an).set t2 .an).set t3 .an) (a3.put (ab t3) (goInt f)):=uT r3;have s3:t3 < a3.tmps.size:=by rw[r3.size,yax,yax,yax];exact l3
 generalize ha4:a3.put (ab t3) (goInt f)=a4 at r4 ⊢;have v43:a4.eval (.tmp t3)=goInt f:=by rw[<-ha4];exact uS s3
 have v42:a4.eval (.tmp t2)=U:=by rw[<-ha4,FF q23];exact v32
 have x:=Zh (P:=P) r4 t5 m5;rw[hm5]at x;obtain⟨b5,Y,x⟩:=mE x;have Z:J3.m[id]? =ab (ab b):=ai S;rw[Z]at Y;cases Y;have hH3:J3.H[id]? =ab (.map tm [(kk,.sl (ab af) s0 [])]):=ai hH;let G:MapEntry:={ key:=a.eval k,val:=U,born:=f};obtain⟨to5,ok5⟩:=lc (es':= #[G]) (clock':=f+1) ok3 hH3 Z hb3 (l:=[(kk,.sl ad (P.cellsOf e) ys)]) (OR ⟨Y5 to3.leaf (Y5 E.leaf A),hv3,aw⟩) (nZ (es:= #[]) hbo rfl)
 have x5:(execOp a4.eval o5).run P s=.ok .skip { s with heap:=s.heap.setIfInBounds b (.map #[G] (f+1))}:=by
  have hmod:(#[X].modify 0 λe=>{ e with val:=U})= #[G]:=by
   apply Array.ext';simp[X,G,Array.toList_modify]
  have hfi:(#[X].findIdx? λe=>(e.born:Int)==(f:Int))=ab 0:=by
   simp[Array.findIdx?,Array.findIdx?.loop,X]
  have:(Instr.entryStore t5 (a4.eval m5) (a4.eval (.tmp t3)) (a4.eval (.tmp t2))).run P s=.ok () { s with heap:=s.heap.setIfInBounds b (.map #[G] (f+1))}:=by
   rw[x,v43,v42];simp only[Instr.entryStore,goInt,asInt,asIntOf,Sem.run_bind,Yt hb3,Result.andThen_ok,Sem.run_pure,hfi,hmod,Go.MapKept.run_setObj_map _ hb3]
  simp[execOp,h5,this]
 refine ZCI g5 n5 x5 ?_;rw[d5];refine hQ a4 _ ?_ (E.trans (to3.trans to5)) ok5 (r4.to to5.leaf);show(J.H.set id (.map tm [(kk,.sl (ab af) s0 [])])).set id (.map tm [(kk,.sl ad (P.cellsOf e) ys)])=_;rw[List.set_set]
end
end Go.Ev
end
section
namespace Go.Ev
section
variable{P:yg}{all:yL TD}{H:yL ah}{O:Type}{out:O}
def uU(o:Oper):yO (yb×yo×yo×Tmp):=
 match o.op,o.dst,o.guard with
 |.mapEntry t m k,ab d,ad=>ab (t,m,k,d)
 |_,_,_=>ad
theorem ZFB{o:Oper}{q:yb×yo×yo×Tmp}(h:uU o=ab q):o.op=.mapEntry q.1 q.2.1 q.2.2.1/\o.dst=ab q.2.2.2/\o.guard=ad:=by
 unfold uU at h;split at h
 .rename_i c e f;cases h;exact⟨c,e,f⟩
 .cases h
def uV(o:Oper)(t n:Nat):yO Tmp:=
 match o.op,o.dst,o.guard with
 |.extract (.tmp x) m,ab d,ad=>if(ag (x=t)&&ag (m=n))=ae then ab d else ad
 |_,_,_=>ad
theorem Zv7{o:Oper}{t n:Nat}{q:Tmp}(h:uV o t n=ab q):o.op=.extract (.tmp t) n/\o.dst=ab q/\o.guard=ad:=by
 unfold uV at h;split at h
 .rename_i e f g;obtain⟨c,j⟩:=Za h;clear h;simp only[yi,yP]at c;obtain⟨rfl,rfl⟩:=c;cases j;exact⟨e,f,g⟩
 .cases h
structure ApO where
 c:Call
 y:yo
 t:yb
 u:yb
 d:Tmp
def FG(o:Oper)(t:Nat):yO ApO:=
 match o.op,o.dst,o.guard with
 |.call c,ab d,ad=>match c.callee with
  |.builtin .append=>match c.args.toList,c.argTypes.toList with
   |[.tmp x,y],[e,u]=>if ag (x=t)=ae then ab ⟨c,y,e,u,d⟩ else ad
   |_,_=>ad
  |_=>ad
 |_,_,_=>ad
theorem ZFC{o:Oper}{t:Nat}{q:ApO}(h:FG o t=ab q):o.op=.call q.c/\q.c.callee=.builtin .append/\q.c.args.toList=[.tmp t,q.y]/\q.c.argTypes.toList=[q.t,q.u]/\o.dst=ab q.d/\o.guard=ad:=by
 unfold FG at h;split at h
 .rename_i f g j;split at h
  .rename_i l;split at h
   .rename_i m s;obtain⟨e,x⟩:=Za h;clear h;have e:=yF e;subst e;cases x;exact⟨f,l,m,s,g,j⟩
   .cases h
  .cases h
 .cases h
def FH(o:Oper)(s v:Nat):yO (yb×yo):=
 match o.op,o.dst,o.guard with
 |.entryStore t m (.tmp x) (.tmp y),ad,ad=>if(ag (x=s)&&ag (y=v))=ae then ab (t,m) else ad
 |_,_,_=>ad
theorem ZFD{o:Oper}{s v:Nat}{q:yb×yo}(h:FH o s v=ab q):o.op=.entryStore q.1 q.2 (.tmp s) (.tmp v)/\o.dst=ad/\o.guard=ad:=by
 unfold FH at h;split at h
 .rename_i e f g;obtain⟨c,j⟩:=Za h;clear h;simp only[yi,yP]at c;obtain⟨rfl,rfl⟩:=c;cases j;exact⟨e,f,g⟩
 .cases h
def ZNA(P:yg)(t:yb)(m k:yo)(E u:yb)(y:yo)(t5:yb)(F:yo)(all f g:yL TD)(H:yL ah)(K:yL ah->yO O):yO O:=
 match P.underlying t,aS P all t m,aS P g t5 F,P.underlying E with
 |some (.map s x),ab (.mp id),ab (.mp h),ab (.slice e)=>(mR H id).bind λc=>(aS P all s k).bind λG=>(kA G c.k).bind λj=>(kC P x).bind λz=>
  match z with
  |.sl (ab af) _ []=>(P.info? e).bind λi=>(eZ P fJ e).bind λT=>(aS P f u y).bind λI=>(kv (lk H) P T u I).bind λA=>(TP.to eY (.v (.sl T) A) c.v).bind λv=>
   if(ag (id=h)&&c.l.isEmpty&&fZ P s c.k&&jl P x&&bP i&&ag (i.size≠0)&&ag (P.cellsOf e=T.size)&&kq A.length i.bytes)=ae then
    K (H.set id (.map c.tid c.k c.v [(j,v)])) else ad
  |_=>ad
 |_,_,_,_=>ad
def uW(P:yg)(l:yL Oper)(all:yL TD)(H:yL ah)(K:yL TD->yL ah->yO O):yO O:=
 match l with
 |[g,h,j,m,s]=>(uU g).bind λc=>(uV h c.2.2.2 0).bind λt1=>(FG j t1).bind λe=>(uV m c.2.2.2 1).bind λt3=>(FH s t3 e.d).bind λf=>
  if(ag (c.2.2.2≠t1)&&ag (c.2.2.2≠e.d)&&ag (e.d≠t3)&&ag (c.2.2.2 < all.length)&&ag (t1 < all.length)&&ag (e.d < all.length)&&ag (t3 < all.length))=ae then
   ZNA P c.1 c.2.1 c.2.2.1 e.t e.u e.y f.1 f.2 all ((all.set c.2.2.2 .an).set t1 .an) ((((all.set c.2.2.2 .an).set t1 .an).set e.d .an).set t3 .an) H
    (K ((((all.set c.2.2.2 .an).set t1 .an).set e.d .an).set t3 .an))
  else ad
 |_=>ad
theorem jG{L:Lk}(l:yL TD)(i:Nat)(d:TD):TD.au L (l.set i d)=(TD.au L l).set i (d.er L):=by rw[ZC,ZC,ybl]
theorem ZCJ{ops:Array Oper}{l:yL Oper}{p:Nat}{K:yL TD->yL ah->yO O}(f:∀(j:Nat)(x:Oper),l[j]? =ab x->ops[p+j]? =ab x)(h:uW P l all H K=ab out):
 ∃a H',K a H'=ab out/\a.length=all.length/\l.length=5/\∀(Q:Exit->Act->World->Prop)(s:Act)(J:Sg),Ok J->J.H=aA H->ay J (TD.au (lk H) all) s->
  (∀I J',J'.H=aA H'->To J J'->Ok J'->ay J' (TD.au (lk H') a) I->Q .normal I J'.w)->wpOps P ops Q (List.range' p 5) s J.w:=by
 unfold uW at h;split at h
 .rename_i X Y Z o4 o5;obtain⟨⟨t,m,k,t0⟩,h1,h⟩:=yf.1 h;obtain⟨t1,h2,h⟩:=yf.1 h;obtain⟨⟨c,y,tt,u,t2⟩,h3,h⟩:=yf.1 h;obtain⟨t3,h4,h⟩:=yf.1 h;obtain⟨⟨t5,m5⟩,h5,h⟩:=yf.1 h;obtain⟨hq,h⟩:=Za h;obtain⟨a1,a2,a3⟩:=ZFB h1;obtain⟨b1,b2,b3⟩:=Zv7 h2;obtain⟨c1,c2,c3,c4,c5,c6⟩:=ZFC h3;obtain⟨d1,d2,d3⟩:=Zv7 h4;obtain⟨e1,e2,e3⟩:=ZFD h5;simp only[yi,yP]at hq;obtain⟨⟨⟨⟨⟨⟨q1,q2⟩,q3⟩,q4⟩,q5⟩,q6⟩,q7⟩:=hq;dsimp only at h a1 a2 b1 c1 c2 c3 c4 c5 d1 e1 q1 q2 q3 q4 q5 q6 q7;unfold ZNA at h;split at h
  .rename_i kt et id id' e hu hm M S;obtain⟨E,f1,h⟩:=yf.1 h;obtain⟨kd,f2,h⟩:=yf.1 h;obtain⟨A,f3,h⟩:=yf.1 h;obtain⟨z,f4,h⟩:=yf.1 h;split at h
   .rename_i zt;obtain⟨i,f5,h⟩:=yf.1 h;obtain⟨T,f6,h⟩:=yf.1 h;obtain⟨yd,f7,h⟩:=yf.1 h;obtain⟨ys,f8,h⟩:=yf.1 h;obtain⟨v,f9,h⟩:=yf.1 h;obtain⟨f10,U⟩:=Za h;clear h;simp only[yi,yP]at f10;obtain⟨⟨⟨⟨⟨⟨⟨r1,r2⟩,r3⟩,r4⟩,r5⟩,r6⟩,r7⟩,r8⟩:=f10;subst r1;obtain⟨g1,g2⟩:=ou f1;have W:=List.isEmpty_iff.1 r2;have F:lk (H.set id (.map E.tid E.k E.v [(A,v)]))=lk H:=Wc g1 rfl rfl;have hv:Pl.sl ad T.size (ys.map T.enc)=E.v.enc v:=ol _ _ _ f9;refine⟨_,_,U,by simp,rfl,λQ s J ok hH yK hQ=> ?_⟩;have hk:=Zk (L:=lk H) f2;rw[kB f3]at hk;have G:=Zk (L:=lk H) hm;rw[TD.er]at G;have g:=Zk (L:=lk H) M;rw[TD.er]at g;have hy:=Zk (L:=lk H) f7;rw[W]at g2;obtain⟨s1,s2⟩:=jC r8
    refine ZKw (P:=P) (J:=J) (ts:=TD.au (lk H) all) (a:=s) (Q:=Q) (p:=p) (o1:=X) (o2:=Y) (o3:=Z) (o4:=o4) (o5:=o5) (by simpa using f 0 X rfl) (f 1 Y rfl) (f 2 Z rfl) (f 3 o4 rfl) (f 4 o5 rfl)
     a3 b3 c6 d3 e3 a1 a2 b1 b2 c1 c2 c3 c4 c5 d1 d2 e1 e2 q1 q2 q3 (by rw[jz];exact q4) (by rw[jz];exact q5) (by rw[jz];exact q6) (by rw[jz];exact q7)
     ok yK (kk:=E.k.enc A) (tm:=E.tid) (s0:=zt.size) (ys:=ys.map T.enc) (i:=i) hu G hk (by rw[hH];exact g2) (iQ r3) (XJ r3 A) r4 (mS f4) S f5 r5 r6 ?_ (by rw[yx];exact s1) (by rw[yx];exact s2) ?_ ?_
    .rw[jG,jG]at hy;rw[r7];rw[show(Dv.an)=TD.er (lk H) .an from rfl,hy]
     exact mO f8
    .rw[jG,jG,jG,jG]at g;exact g
    .intro I J' w1 w2 w3 w4;refine hQ I J' ?_ w2 w3 ?_
     .rw[YA F,w1,hH,r7,hv];rfl
     .rw[F,jG,jG,jG,jG];exact w4
   .cases h
  .cases h
 .cases h
def ZMv(ops:Array Oper):Bool:=
 match ops.toList.drop (ops.size - 5) with
 |[c,_,_,_,_]=>(uU c).isSome
 |_=>af
theorem ZFE{hi:HI}{aD:Sp P}{ops:Array Oper}{K:yL TD->yL ah->yO O}(ok:dt aD)
 (h:nj P hi aD ops (ops.toList.take (ops.size - 5)) all H (λa h _=>uW P (ops.toList.drop (ops.size - 5)) a h K)=ab out):
 ∃a h,K a h=ab out/\a.length=all.length/\∀id,Wq P (.region id ops af) (TD.au (lk H) all) (aA H) .normal (TD.au (lk h) a) (aA h):=by
 obtain⟨a,h',hs,C,G,I,M,Q⟩:=FB ok _ _ _ _ h
 have g:∀(j:Nat)(x:Oper),(ops.toList.drop (ops.size - 5))[j]? =ab x->ops[(ops.size - 5)+j]? =ab x:=λj x c=>by
  rw[List.getElem?_drop]at c;simpa using c
 obtain⟨S,T,U,W,X,Y⟩:=ZCJ g G;refine⟨S,T,U,by rw[W,I],λid=> ?_⟩;intro J l t Z yK;refine wp_region ?_;have F:=Q [];rw[ybb]at F
 have hl:ops.size=(ops.size - 5)+5:=by
  rw[List.length_drop,Array.length_toList]at X;omega
 have hr:yu ops.size=List.range' 0 (ops.toList.take (ops.size - 5)).length++List.range' (ops.size - 5) 5:=by
  rw[List.length_take,Array.length_toList,Nat.min_eq_left (by omega),List.range_eq_range']
  conv=>lhs;rw[hl]
  have:=List.range'_append (s:=0) (m:=ops.size - 5) (n:=5) (step:=1);simp only[Nat.zero_add,Nat.one_mul]at this;exact this.symm
 rw[hr];refine Zti (P:=P) (ops:=ops) _ (List.range' (ops.size - 5) 5) _ 0 _ J l hs [] C _ (λj x c=> ?_) t yK (by rw[Z];exact F) M ?_
 .rw[ycg]at c;split at c
  .simpa using c
  .cases c
 .intro a' J' e1 y z e;refine Y _ a' J' z e1 e λa'' J'' e2 A E f=> ?_;exact⟨rfl,J'',rfl,e2,y.trans A,E,f⟩
end
end Go.Ev
end
