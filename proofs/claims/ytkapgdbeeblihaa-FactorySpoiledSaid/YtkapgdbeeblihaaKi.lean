/- Parts of the proof, in one file. -/
import Derived.Test.YtkapgdbeeblihaaKh
open List renaming getElem?_set_self → ycl
open Option renaming bind_some → yb
open UInt64 renaming ofNat → yae, toNat_inj → yca
set_option linter.unusedVariables false
set_option linter.unusedSimpArgs false
section
set_option maxRecDepth 4000
namespace Go.Proofs.Ytkapgdbeeblihaa
open Go Go.Ev
noncomputable section
def ZE(F:Nat)(s:((List UInt64)×(List FactorySub)×Int×Int×Int×UInt64×Bool×Int×Int)):Option (((List UInt64)×(List FactorySub)×Int×Int×Int×UInt64×Bool×Int×Int)⊕(Bool⊕((List UInt64)×(List FactorySub)×Int×Int×Int×UInt64×Bool×Int))):=
 let y815:Bool:=decide (s.2.2.2.2.2.2.2.2 < (s.2.1.length:Int))
 if y815=true then
  (idx s.2.1 s.2.2.2.2.2.2.2.2).bind λe816=>
  if(decide (e816.2.2 < 0))=true then
   some (.inr (.inl s.2.2.2.2.2.2.1))
  else
  (idx s.2.1 s.2.2.2.2.2.2.2.2).bind λe817=>
  if(decide (e817.2.2 > 1099511627776))=true then
   some (.inr (.inl s.2.2.2.2.2.2.1))
  else
  (idx s.2.1 s.2.2.2.2.2.2.2.2).bind λe818=>
  some (.inl (s.1,s.2.1,s.2.2.1,s.2.2.2.1,s.2.2.2.2.1,s.2.2.2.2.2.1,s.2.2.2.2.2.2.1,wi (s.2.2.2.2.2.2.2.1+e818.2.2),wi (s.2.2.2.2.2.2.2.2+1)))
 else
 some (.inr (.inr (s.1,s.2.1,s.2.2.1,s.2.2.2.1,s.2.2.2.2.1,s.2.2.2.2.2.1,s.2.2.2.2.2.2.1,s.2.2.2.2.2.2.2.1)))
abbrev ZGx:List Ty:=[(.sl .u64),(.sl Zl),yI,yI,yI,.u64,.bool,yI,yI]
def XG:Lp:=⟨[(0,.v (.sl .u64)),(1,.v (.sl Zl)),(2,.v yI),(3,.v yI),(4,.v yI),(5,.v .u64),(13,.v .bool),(14,.v yI),(15,.v yI)],[],ZGx,[⟨.ret,[(12,.v .bool)],[],[.bool]⟩,⟨.exit 0,[(0,.v (.sl .u64)),(1,.v (.sl Zl)),(2,.v yI),(3,.v yI),(4,.v yI),(5,.v .u64),(13,.v .bool),(14,.v yI)],[],[(.sl .u64),(.sl Zl),yI,yI,yI,.u64,.bool,yI]⟩],Zk (ZE fuel) fuel⟩
def ZFS:HI:={ own:=[123,125,126,131],still:=[12,70,71,74,75,76,77,82,83,84,85,115,116,117,119,141,142,148,151,152,153,154],rowt:=[23,24,123,125,126,131,135,146]}
theorem Vw:XG.okA Try.prog 4 0:=ZV ZFS [] [] trivial
def ZX(F:Nat)(a0:(List UInt64))(a1:(List FactorySub))(a2:Int)(a3:Int)(a4:Int)(a5:UInt64):Option (Bool):=
 ((some true)).bind λo814=>
 if(decide ((a0.length:Int) < 2))=true then
  some o814
 else
 if(decide ((a0.length:Int) > 4))=true then
  some o814
 else
 if(decide ((a1.length:Int) > 5))=true then
  some o814
 else
 (Zk (ZE F) F (a0,a1,a2,a3,a4,a5,o814,0,0)).bind λo819=>
 match o819 with
 |.inl o820=>
  some o820
 |.inr o821=>
  (XV F o821.1 o821.2.2.2.2.2.2.2 10 0).bind λo822=>
  (Xt F o822 o821.2.2.1 o821.2.1 o821.1).bind λo823=>
  (Z0 F o822 o821.2.2.1 o821.2.1 o823.1).bind λo824=>
  if(!o823.2)=true then
   some o821.2.2.2.2.2.2.1
  else
  if(o824.2 !=0)=true then
   some o821.2.2.2.2.2.2.1
  else
  if(decide (o821.2.2.2.1 < 0))=true then
   some o821.2.2.2.2.2.2.1
  else
  if(decide (o821.2.2.2.1 ≥ (o821.1.length:Int)))=true then
   some o821.2.2.2.2.2.2.1
  else
  if(decide (o821.2.2.2.2.1 < 0))=true then
   some o821.2.2.2.2.2.2.1
  else
  if(decide (o821.2.2.2.2.1 > 2))=true then
   some o821.2.2.2.2.2.2.1
  else
  if(ZaW o823.1.length (some 1) none)=true then
   (Z0 F o822 o821.2.2.1 o821.2.1 (o823.1.drop 1)).bind λo825=>
   if(apB 0 o823.1.length 24)=true then
    (idx o823.1 o821.2.2.2.1).bind λe826=>
    if(apB 0 e826.length 16)=true then
     if((e826.length:Int)!=3)=true then
      some false
     else
     if(inB o821.2.2.2.2.1 e826.length)=true then
      (e826[o821.2.2.2.2.1.toNat]?).bind λe827=>
      (Wo F e827.2 o821.2.2.2.2.2.1).bind λo828=>
      if(inB o821.2.2.2.2.1 e826.length)=true then
       (e826[o821.2.2.2.2.1.toNat]?).bind λe829=>
       if(inB o821.2.2.2.1 o823.1.length)=true then
        (o823.1[o821.2.2.2.1.toNat]?).bind λe830=>
        let y831:(List (List Sig)):=o823.1.set o821.2.2.2.1.toNat (e826.set o821.2.2.2.2.1.toNat (e829.1,o828))
        (Z0 F o822 o821.2.2.1 o821.2.1 y831).bind λo832=>
        if((o821.2.2.2.2.2.1 % 2305843009213688669)==0)=true then
         if o821.2.2.2.2.2.2.1=true then
          if(o825.2==7)=true then
           some (o832.2==0)
          else
          some false
         else
         some false
        else
        if o821.2.2.2.2.2.2.1=true then
         if(o825.2==7)=true then
          if(o832.2==7)=true then
           some ((o832.1.length:Int)==0)
          else
          some false
         else
         some false
        else
        some false
       else
       none
      else
      none
     else
     none
    else
    none
   else
   none
  else
  none
def QG(F:Nat):Fs Try.prog:=⟨4,[.v (.sl .u64),.v (.sl Zl),.v yI,.v yI,.v yI,.v .u64],[],[(.sl .u64),(.sl Zl),yI,yI,yI,.u64],[⟨.ret,[(0,.v .bool)],[],[.bool]⟩],λx=>ZX F x.1 x.2.1 x.2.2.1 x.2.2.2.1 x.2.2.2.2.1 x.2.2.2.2.2⟩
def Zai:Fs Try.prog:=QG fuel
theorem QH:Zai.Ok:=fnO ZFS [(0,XG)] [ZDw,ZaN,Qb,Zb9,Zcb] ⟨ZE9,Zag,V5,ZaB,Zgw,ytt⟩ ⟨Vw,ytt⟩
end
end Go.Proofs.Ytkapgdbeeblihaa
end
section
set_option maxRecDepth 10000
namespace Go.Proofs.Ytkapgdbeeblihaa
open Go Go.Ev
theorem ZDa(a b:UInt64):Wo fuel a b=some (yae ((a.toNat+b.toNat) % ord)):=by
 unfold Wo WR;rw[yb,yb];congr 1;apply yca.1;have h1:a.toNat % ord < ord:=ZfZ;have h2:b.toNat % ord < ord:=ZfZ;have h3:(a.toNat+b.toNat) % ord < ord:=ZfZ;have e:ord=2305843009213688669:=rfl;rw[Zg1,UInt64.toNat_add,Zg1,Zg1,ZhX];rw[Nat.mod_eq_of_lt (show a.toNat % ord+b.toNat % ord < 2 ^ 64 by rw[e] at h1 h2 ⊢;omega)];exact(Nat.add_mod ..).symm
theorem ZDb{p:UInt64}{m:List UInt8}{r a b:UInt64}(h1:ZaG p m (r,a)=true)(h2:ZaG p m (r,b)=true):a=b:=by
 unfold ZaG at h1 h2;rw[decide_eq_true_iff] at h1 h2;obtain⟨_,_,_,a1,a2⟩:=h1;obtain⟨_,_,_,b1,b2⟩:=h2;have e:B a.toNat=B b.toNat:=a2.trans b2.symm;have e2:=congrArg UInt64.toNat e;rw[Zg2,Zg2] at e2;exact yca.1 (ZCN a1 b1 e2)
theorem ZFa{p:UInt64}{m:List UInt8}{s:Sig}(h:ZaG p m s=true):s.2.toNat < ord:=by
 unfold ZaG at h;rw[decide_eq_true_iff] at h;exact h.2.2.2.1
theorem set_same{α:Type}{l:List α}{k:Nat}{e:α}(h:l[k]? =some e):l.set k e=l:=by
 apply List.ext_getElem?;intro i;rw[List.getElem?_set];split
 ·rename_i hi;subst hi;split
  ·exact h.symm
  ·rename_i hn;rw[List.getElem?_eq_none (by omega)]
 ·rfl
theorem ZBG(ks:List UInt64){subs:List FactorySub}(hl:subs.length≤1000)(no whose which:Int)(by_:UInt64):∃x,Zk (ZE fuel) fuel (ks,subs,no,whose,which,by_,true,(0:Int),(0:Int))=some x∧
 (x=.inl true∨∃z,x=.inr (ks,subs,no,whose,which,by_,true,z)):=by
 refine WS (step:=ZE fuel) subs.length (λk s=>∃z,s=(ks,subs,no,whose,which,by_,true,z,(k:Int))) _ ⟨0,rfl⟩ (by omega) ?_ ?_
 ·rintro k _ hk ⟨z,rfl⟩;obtain⟨e,he,hm⟩:=ZA hk;unfold ZE;dsimp only;rw[if_pos (Xe hk),ZM he,yb];by_cases c1:e.2.2 < 0
  ·right;rw[if_pos (decide_eq_true c1)];exact⟨_,rfl,.inl rfl⟩
  rw[if_neg (by rw[decide_eq_true_iff];exact c1),yb];by_cases c2:e.2.2 > 1099511627776
  ·right;rw[if_pos (decide_eq_true c2)];exact⟨_,rfl,.inl rfl⟩
  left;rw[if_neg (by rw[decide_eq_true_iff];exact c2),yb,ZT (by omega)];exact⟨_,rfl,_,rfl⟩
 ·rintro _ ⟨z,rfl⟩;unfold ZE;dsimp only;rw[if_neg (by rw[Yt];decide)];exact⟨_,rfl,.inr ⟨_,rfl⟩⟩
theorem Zus{ks:List UInt64}{subs:List FactorySub}(hs:∀s,s∈subs→Zg4 s)(no whose which:Int)(by_:UInt64):ZX fuel ks subs no whose which by_=some true:=by
 unfold ZX;rw[yb];by_cases c1:(ks.length:Int) < 2
 ·rw[if_pos (decide_eq_true c1)]
 rw[if_neg (by rw[decide_eq_true_iff];exact c1)];by_cases c2:(ks.length:Int) > 4
 ·rw[if_pos (decide_eq_true c2)]
 rw[if_neg (by rw[decide_eq_true_iff];exact c2)];by_cases c3:(subs.length:Int) > 5
 ·rw[if_pos (decide_eq_true c3)]
 rw[if_neg (by rw[decide_eq_true_iff];exact c3)];obtain⟨x,e1,rfl|⟨z,rfl⟩⟩:=ZBG ks (subs:=subs) (by omega) no whose which by_
 ·rw[e1,yb]
 rw[e1,yb];dsimp only;have hkl:(ZeU ks z 10 0).2.2.1.length=ks.length:=ZyN ..;have hk:(ZeU ks z 10 0).2.2.1.length≤1000:=by omega
 rw[ZC8 (by omega),yb];obtain⟨⟨sgs,ok⟩,e2,hn⟩:=Zwa hk (ZxE ..) (no:=no) (subs:=subs) (by omega) hs (ks:=ks) (by omega);rw[e2,yb];dsimp only at hn ⊢;have full:∀l:List (List Sig),l.length≤1000000→_:=λl hl=>ZC7 hk (ZxE ks z 10 0) (no:=no) (subs:=subs) (by omega) hs (sgs:=l) hl
 have key:(CutP (ZeU ks z 10 0) no subs∧Zur (ZeU ks z 10 0) no subs sgs∧Z0 fuel (ZeU ks z 10 0) no subs sgs=some (ZDv (ZeU ks z 10 0) no subs sgs,0))∨∃e:Int,e≠0∧Z0 fuel (ZeU ks z 10 0) no subs sgs=some ([],e):=by
  rcases full sgs (by omega) with⟨hc,⟨hv,e3⟩|⟨hv,e3⟩⟩|⟨hc,e,he,e3⟩
  ·exact .inl ⟨hc,hv,e3⟩
  ·exact .inr ⟨7,by decide,e3⟩
  ·exact .inr ⟨e,he,e3⟩
 rcases key with⟨hc,hv,e3⟩|⟨e,he,e3⟩
 rotate_left
 ·rw[e3,yb];dsimp only;cases ok
  ·rw[if_pos (by decide)]
  ·rw[if_neg (by decide),if_pos (bne_iff_ne.2 he)]
 rw[e3,yb];dsimp only;cases ok
 ·rw[if_pos (by decide)]
 rw[if_neg (by decide),if_neg (by decide)];by_cases c4:whose < 0
 ·rw[if_pos (decide_eq_true c4)]
 rw[if_neg (by rw[decide_eq_true_iff];exact c4)];by_cases c5:whose ≥ (ks.length:Int)
 ·rw[if_pos (decide_eq_true c5)]
 rw[if_neg (by rw[decide_eq_true_iff];exact c5)];by_cases c6:which < 0
 ·rw[if_pos (decide_eq_true c6)]
 rw[if_neg (by rw[decide_eq_true_iff];exact c6)];by_cases c7:which > 2
 ·rw[if_pos (decide_eq_true c7)]
 rw[if_neg (by rw[decide_eq_true_iff];exact c7)];obtain⟨h1,h2,h3⟩:=hv;rw[hkl] at h1;rw[if_pos (show ZaW sgs.length (some 1) none=true by simp[ZaW];omega)]
 have lack:Z0 fuel (ZeU ks z 10 0) no subs (sgs.drop 1)=some ([],7):=by
  rcases full (sgs.drop 1) (by rw[List.length_drop];omega) with⟨_,⟨hv2,_⟩|⟨_,e4⟩⟩|⟨hc2,_⟩
  ·have:=hv2.1;rw[List.length_drop,hkl] at this;omega
  ·exact e4
  ·exact absurd hc hc2
 rw[lack,yb,if_pos (YH (by omega) (by omega))];obtain⟨w,hw⟩:∃w:Nat,whose=(w:Int):=⟨whose.toNat,by omega⟩;obtain⟨q,hq⟩:∃q:Nat,which=(q:Int):=⟨which.toNat,by omega⟩;subst hw;subst hq;obtain⟨s,hs1,hsm⟩:=ZA (l:=sgs) (k:=w) (by omega);have hs3:=h2 s hsm;obtain⟨g,hg1,_⟩:=ZA (l:=s) (k:=q) (by omega)
 rw[ZM hs1,yb,if_pos (YH (by omega) (by omega)),if_neg (by rw[hs3];decide),if_pos (Wg (by omega) (by omega)),Int.toNat_natCast,hg1,yb,ZDa,yb,
  if_pos (Wg (by omega) (by omega)),yb,if_pos (Wg (by omega) (by omega)),Int.toNat_natCast,hs1,yb]
 have hv:=h3 q (by omega) w (by omega)
 have hsg:Zjx sgs w q=g:=by
  unfold Zjx;rw[Xy hs1,Xy hg1]
 rw[hsg] at hv;have hlt:=ZFa hv;have eb:(by_ % 2305843009213688669).toNat=by_.toNat % ord:=Zg1 by_;generalize hbad:sgs.set w (s.set q (g.1,yae ((g.2.toNat+by_.toNat) % ord)))=bad;have hbl:bad.length=sgs.length:=by rw[←hbad,List.length_set]
 by_cases c8:by_.toNat % ord=0
 ·
  have hsame:bad=sgs:=by
   have hmod:yae ((g.2.toNat+by_.toNat) % ord)=g.2:=by
    apply yca.1;rw[ZhX,Nat.add_mod,c8,Nat.add_zero,Nat.mod_mod,Nat.mod_eq_of_lt hlt]
   rw[←hbad,hmod,set_same (e:=(g.1,g.2)) hg1,set_same hs1]
  rw[hsame,e3,yb,if_pos (by
   rw[beq_iff_eq];apply yca.1;rw[eb,c8];rfl),if_pos rfl,if_pos (by decide)]
  rfl
 ·have spoilt:Z0 fuel (ZeU ks z 10 0) no subs bad=some ([],7):=by
   rcases full bad (by rw[hbl];omega) with⟨_,⟨hv2,_⟩|⟨_,e4⟩⟩|⟨hc2,_⟩
   ·exfalso;have hv3:=hv2.2.2 q (by omega) w (by rw[hbl];omega)
    have hsg2:Zjx bad w q=(g.1,yae ((g.2.toNat+by_.toNat) % ord)):=by
     unfold Zjx;rw[Xy (e:=s.set q (g.1,yae ((g.2.toNat+by_.toNat) % ord))) (by rw[←hbad,ycl (by omega)]),Xy (e:=(g.1,yae ((g.2.toNat+by_.toNat) % ord))) (by rw[ycl (by omega)])]
    rw[hsg2] at hv3;have:=ZDb (show ZaG _ _ (g.1,g.2)=true from hv) hv3
    have e5:=congrArg UInt64.toNat this;rw[ZhX] at e5;unfold ord at e5 c8 hlt;omega
   ·exact e4
   ·exact absurd hc hc2
  rw[spoilt,yb,if_neg (by
   rw[beq_iff_eq];intro e5;have:=congrArg UInt64.toNat e5;rw[eb] at this;exact c8 this),if_pos rfl,if_pos (by decide),if_pos (by decide)]
  rfl
end Go.Proofs.Ytkapgdbeeblihaa
end
