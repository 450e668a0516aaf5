/- Parts of the proof, in one file. -/
import Derived.Test.YtdhclndplbopgaaGreatKg
open Int renaming toNat_natCast → yau
open List renaming length_append → yo, length_map → yy, getElem?_eq_getElem → yab, append_assoc → yad, mem_cons → yae, mem_append → yah, take_length → yao, not_mem_nil → yap, map_append → yas, mem_singleton → yav, append_nil → yaz, getElem?_cons_zero → ybb, getElem_of_mem → ybx, mem_map → ycc
open Nat renaming le_trans → ybl
open Option renaming bind_some → ya
set_option linter.unusedVariables false
set_option linter.unusedSimpArgs false
section
set_option maxRecDepth 4000
namespace Go.Proofs.YtdhclndplbopgaaGreat
open Go Go.Ev
theorem ZNb{ch:Chan}{s:yG}{own:Int}{bo bp:Basics}{to tp:Terms}{hO hP:Int}(d:Sd ch s own bo bp to tp hO hP)(c:Cond)(per:yU):Vl yD ch c own per=some (Zqt own tp.2.2.1 (WC bp.2.2.2.2 per) (Y2 bo.2.2.2.1 per) (Y2 bp.2.2.2.1 per) c):=by
 have hown:=d.o;have hpeer:wi (1 - own)=1 - own:=ZU (by omega) (by omega);have q1:inB (1 - own) 2=true:=ZJ (by omega) (by omega);have q2:inB own 2=true:=ZJ (by omega) (by omega);unfold Vl Zqt;simp only[hpeer,q1,q2,if_true,d.bO,d.bP,d.tO,d.tP,ya,ZrQ,ZDF];by_cases h:c.1=own
 ·rw[yW (beq_iff_eq.2 h),yW h]
 ·rw[yX (by rw[yT];exact h),yX h]
theorem ZNc{ch:Chan}{s:yG}{own:Int}{bo bp:Basics}{to tp:Terms}{hO hP:Int}(d:Sd ch s own bo bp to tp hO hP)(per:yU){l:yL Cond}(hl:l.length<=16){acc:yL Zc}(hb:acc.length<=4)(ha:∀e,e∈acc->LockWf e.1.2):
 ((Zb (ZD yD) yD (own,per,Xu Wo acc,l,(0:Int),ch,s,((([]:yL In),([]:yL Out),(0:Int)),([]:yL V1)))).bind λo1051=>
    (Zb (ZE yD) yD (o1051.2.1,(0:Int),o1051.2.2.1,o1051.2.2.2.1,o1051.2.2.2.2,([(o1051.2.2.1.1,(0,[],0))]:yL In),wi ((wi (2*o1051.2.2.2.1.1))+o1051.1),([]:yL V1),([]:yL Out))).bind λo1054=>
    some (((o1054.2.2.2.1,o1054.2.2.2.2.2.2,o1054.2.2.2.2.1),o1054.2.2.2.2.2.1),(0:Int)))=some (ZDJ ch s own (Xu Wo (acc++l.map λc=>stp (Zj6 own tp.2.2.1 (WC bp.2.2.2.2 per) (Y2 bo.2.2.2.1 per) (Y2 bp.2.2.2.1 per) c))),0):=by
 generalize hz:((([]:yL In),([]:yL Out),(0:Int)),([]:yL V1))=z
 have e:=Zt (step:=ZD yD) l.length (λk:Nat=>(own,per,Xu Wo (acc++(l.take k).map λc=>stp (Zj6 own tp.2.2.1 (WC bp.2.2.2.2 per) (Y2 bo.2.2.2.1 per) (Y2 bp.2.2.2.1 per) c)),l,(k:Int),ch,s,z)) (x:=(own,Xu Wo (acc++l.map λc=>stp (Zj6 own tp.2.2.1 (WC bp.2.2.2.2 per) (Y2 bo.2.2.2.1 per) (Y2 bp.2.2.2.1 per) c)),ch,s,z)) (by
  intro k hk;obtain⟨c,hc,_⟩:=Zg hk;have hlk:=ZwB own tp.2.2.1 (WC bp.2.2.2.2 per) (Y2 bo.2.2.2.1 per) (Y2 bp.2.2.2.1 per) c
  have hwf:∀m,m∈Xu Wo (acc++(l.take k).map λc=>stp (Zj6 own tp.2.2.1 (WC bp.2.2.2.2 per) (Y2 bo.2.2.2.1 per) (Y2 bp.2.2.2.1 per) c))->LockWf m.1.2:=by
   intro m hm;rcases yah.1 ((Ztn _).1 hm) with h|h
   ·exact ha m h
   ·obtain⟨c',_,rfl⟩:=ycc.1 h;exact ZwB own tp.2.2.1 (WC bp.2.2.2.2 per) (Y2 bo.2.2.2.1 per) (Y2 bp.2.2.2.1 per) c'
  have hln:(Xu Wo (acc++(l.take k).map λc=>stp (Zj6 own tp.2.2.1 (WC bp.2.2.2.2 per) (Y2 bo.2.2.2.1 per) (Y2 bp.2.2.2.1 per) c))).length<=100:=by
   rw[Zix,yo,yy,List.length_take];omega
  unfold ZD;dsimp only;rw[yW (ZF hk)];simp only[Zp hc,ya,ZNb d];rw[Zo (by omega),Qa hc,yas, <-yad,List.map_cons,List.map_nil,ZuG];by_cases h:c.1=own
  ·rw[yW (beq_iff_eq.2 h),Zzf hln hlk hwf,ya,show stp (Zj6 own tp.2.2.1 (WC bp.2.2.2.2 per) (Y2 bo.2.2.2.1 per) (Y2 bp.2.2.2.1 per) c)=((c.2.2.1,Zqt own tp.2.2.1 (WC bp.2.2.2.2 per) (Y2 bo.2.2.2.1 per) (Y2 bp.2.2.2.1 per) c),(5,c)) by unfold Zj6;rw[yW h];rfl]
  ·rw[yX (by rw[yT];exact h),Zzf hln hlk hwf,ya,show stp (Zj6 own tp.2.2.1 (WC bp.2.2.2.2 per) (Y2 bo.2.2.2.1 per) (Y2 bp.2.2.2.1 per) c)=((c.2.2.1,Zqt own tp.2.2.1 (WC bp.2.2.2.2 per) (Y2 bo.2.2.2.1 per) (Y2 bp.2.2.2.1 per) c),(6,c)) by unfold Zj6;rw[yX h];rfl]) (by
  unfold ZD;dsimp only;rw[yX (by rw[Zz];decide),yao]) (by omega)
 have e:Zb (ZD yD) yD (own,per,Xu Wo (acc++(l.take 0).map λc=>stp (Zj6 own tp.2.2.1 (WC bp.2.2.2.2 per) (Y2 bo.2.2.2.1 per) (Y2 bp.2.2.2.1 per) c)),l,(0:Int),ch,s,z)=_:=e;rw[List.take_zero,List.map_nil,yaz] at e;rw[e,ya];unfold ZDJ;dsimp only;generalize hr:Xu Wo (acc++l.map λc=>stp (Zj6 own tp.2.2.1 (WC bp.2.2.2.2 per) (Y2 bo.2.2.2.1 per) (Y2 bp.2.2.2.1 per) c))=r
 have hrl:r.length<=20:=by
  rw[<-hr,Zix,yo,yy];omega
 generalize wi (wi (2*s.1)+own)=nt
 have e2:=Zt (step:=ZE yD) r.length (λk:Nat=>(r,(k:Int),ch,s,z,([(ch.1,(0,[],0))]:yL In),nt,(r.take k).map (λx:Zc=>x.2),(r.take k).map (λx:Zc=>x.1))) (x:=(ch,s,z,([(ch.1,(0,[],0))]:yL In),nt,r.map (λx:Zc=>x.2),r.map (λx:Zc=>x.1))) (by
  intro k hk;obtain⟨e,he,_⟩:=Zg hk;unfold ZE;dsimp only;rw[yW (ZF hk),Zp he,ya,ya,Zo (by omega),Qa he,yW (ZT (by simp;omega) (by simp;omega)),yW (ZT (by simp;omega) (by simp;omega)),yas,yas];rfl) (by
  unfold ZE;dsimp only;rw[yX (by rw[Zz];decide),yao]) (by omega)
 have e2:Zb (ZE yD) yD (r,(0:Int),ch,s,z,([(ch.1,(0,[],0))]:yL In),nt,([]:yL V1),([]:yL Out))=_:=e2;rw[e2,ya]
theorem ZF0(p:yU):XZ yD p=some (Za9 p):=by
 unfold XZ VT;rw[yW (ZT (by simp) (by simp)),ya];rfl
theorem W2{l acc:yL Zc}(e:l=Xu Wo acc){n:Int}{lk:ZR}(h:LockWf lk)(ro:V1)(hl:acc.length<=50)(hw:∀e,e∈acc->LockWf e.1.2):Zh yD l ((n,lk),ro)=some (Xu Wo (acc++[stp (mkC n lk ro)])):=by
 rw[ZuG,e];exact Zzf (by rw[Zix];omega) h λe he=>hw e ((Ztn _).1 he)
theorem ZNd{ch:Chan}{s:yG}{own:Int}{per:yU}(hr:Z5 yD ch s=some true)(r:StR ch s)(hp:QA per.toNat){bo bp:Basics}{to tp:Terms}{hO hP:Int}(d:Sd ch s own bo bp to tp hO hP):
 Yk yD ch s own per=some (ZDJ ch s own (Xu Wo ((Zzi ch s own per bo bp to tp hO hP).map stp)),0):=by
 have hown:=d.o;have hpeer:wi (1 - own)=1 - own:=ZU (by omega) (by omega);have q1:inB (1 - own) 2=true:=ZJ (by omega) (by omega);have q2:inB own 2=true:=ZJ (by omega) (by omega);have hl20:s.2.2.1.length<=20:=by have:=r.len;omega
 have hrO:=Zzh hown hown d.tO hr hl20 d.vO d.o0 d.o1;have hrP:=Zzh hown (of:=1 - own) (by omega) d.tO hr hl20 d.vP d.p0 d.p1;have hsh:=(Ztr hown d.tO hl20).2;unfold Zzi;generalize Zzg ch.2.2.2.2 s own hO (Zes to s.2.2.1).length=a at*;generalize Zzg ch.2.2.2.2 s (1 - own) hP (Zes to s.2.2.1).length=b at*;have hl16:(Zes to s.2.2.1).length<=16:=ybl (Ztq _ _) r.len;have tl:=λ{acc:yL Zc}(hb:acc.length<=4)(ha:∀e,e∈acc->LockWf e.1.2)=>ZNc d per hl16 hb ha;have s1:∀z:Int,Ys yD to z=some (decide (z >= to.1)):=λz=>rfl;have lateIs:∀x y:yU,QQ yD x y tp.2.2.1=some (V2 y x tp.2.2.1):=λ_ _=>rfl;have ancIs:∀x:yU,Zx yD x=some (Vm x):=λ_=>rfl;have wA:=ZbI bo.1;have wB:=ZbI bp.1;have wP:=ZwA bp.2.1;have wL:=ZDI (WC bp.2.2.2.2 per) (Y2 bo.2.2.1 per) tp.2.2.1;unfold Yk itm;rw[Za7,ya,yY hp];rw[show((0:Int),(0:Int),(0:Int),(0:yU),(0:Int))=zcd from rfl]
 by_cases h0:own=0
 ·rw[yX (show¬((own !=0)=true) by rw[h0];decide),yX (show¬(!true)=true by decide),hr,ya,yX (show¬(!true)=true by decide)];simp only[hr,hpeer,q1,q2,if_true,d.bO,d.bP,d.tO,d.tP,ya,ZrQ,ZDF,hrO,hrP,s1,lateIs,ancIs,ZF0,hsh];by_cases ha:a >= to.1
  ·rw[yW (yY ha),yW ha];by_cases hb:b >= to.1
   ·rw[yW hb];simp only[yW (yY hb)];have p1:Zh yD [] ((a,(V2 (WC bp.2.2.2.2 per) (Y2 bo.2.2.1 per) tp.2.2.1)),(1,zcd))=some (Xu Wo ([]++[stp (mkC a (V2 (WC bp.2.2.2.2 per) (Y2 bo.2.2.1 per) tp.2.2.1) (1,zcd))])):=W2 (l:=[]) (acc:=[]) rfl wL (1,zcd) (by simp) (by simp);simp only[p1,ya];rw[W2 (l:=Xu Wo (([]:yL Zc)++[stp (mkC a (V2 (WC bp.2.2.2.2 per) (Y2 bo.2.2.1 per) tp.2.2.1) (1,zcd))])) (acc:=([]:yL Zc)++[stp (mkC a (V2 (WC bp.2.2.2.2 per) (Y2 bo.2.2.1 per) tp.2.2.1) (1,zcd))]) rfl wP (2,zcd) (by simp) (by intro e he;simp only[yah,yae,yap,or_false,false_or] at he;rcases he with rfl;exact wL),ya];rw[W2 (l:=Xu Wo (([]:yL Zc)++[stp (mkC a (V2 (WC bp.2.2.2.2 per) (Y2 bo.2.2.1 per) tp.2.2.1) (1,zcd))]++[stp (mkC b (Za9 bp.2.1) (2,zcd))])) (acc:=([]:yL Zc)++[stp (mkC a (V2 (WC bp.2.2.2.2 per) (Y2 bo.2.2.1 per) tp.2.2.1) (1,zcd))]++[stp (mkC b (Za9 bp.2.1) (2,zcd))]) rfl wA (3,zcd) (by simp) (by intro e he;simp only[yah,yae,yap,or_false,false_or] at he;rcases he with rfl|rfl;exact wL;exact wP),ya];rw[W2 (l:=Xu Wo (([]:yL Zc)++[stp (mkC a (V2 (WC bp.2.2.2.2 per) (Y2 bo.2.2.1 per) tp.2.2.1) (1,zcd))]++[stp (mkC b (Za9 bp.2.1) (2,zcd))]++[stp (mkC 330 (Vm bo.1) (3,zcd))])) (acc:=([]:yL Zc)++[stp (mkC a (V2 (WC bp.2.2.2.2 per) (Y2 bo.2.2.1 per) tp.2.2.1) (1,zcd))]++[stp (mkC b (Za9 bp.2.1) (2,zcd))]++[stp (mkC 330 (Vm bo.1) (3,zcd))]) rfl wB (4,zcd) (by simp) (by intro e he;simp only[yah,yae,yap,or_false,false_or] at he;rcases he with(rfl|rfl)|rfl;exact wL;exact wP;exact wA),ya];refine Eq.trans (tl (acc:=([]:yL Zc)++[stp (mkC a (V2 (WC bp.2.2.2.2 per) (Y2 bo.2.2.1 per) tp.2.2.1) (1,zcd))]++[stp (mkC b (Za9 bp.2.1) (2,zcd))]++[stp (mkC 330 (Vm bo.1) (3,zcd))]++[stp (mkC 330 (Vm bp.1) (4,zcd))]) ?_ (by intro e he;simp only[yah,yae,yap,or_false,false_or] at he;rcases he with((rfl|rfl)|rfl)|rfl;exact wL;exact wP;exact wA;exact wB)) ?_
    ·simp
    ·simp[Function.comp_def]
   ·rw[yX hb];simp only[yX (show¬decide (b >= to.1)=true by rw[yN];exact hb)];have p1:Zh yD [] ((a,(V2 (WC bp.2.2.2.2 per) (Y2 bo.2.2.1 per) tp.2.2.1)),(1,zcd))=some (Xu Wo ([]++[stp (mkC a (V2 (WC bp.2.2.2.2 per) (Y2 bo.2.2.1 per) tp.2.2.1) (1,zcd))])):=W2 (l:=[]) (acc:=[]) rfl wL (1,zcd) (by simp) (by simp);simp only[p1,ya];rw[W2 (l:=Xu Wo (([]:yL Zc)++[stp (mkC a (V2 (WC bp.2.2.2.2 per) (Y2 bo.2.2.1 per) tp.2.2.1) (1,zcd))])) (acc:=([]:yL Zc)++[stp (mkC a (V2 (WC bp.2.2.2.2 per) (Y2 bo.2.2.1 per) tp.2.2.1) (1,zcd))]) rfl wA (3,zcd) (by simp) (by intro e he;simp only[yah,yae,yap,or_false,false_or] at he;rcases he with rfl;exact wL),ya];rw[W2 (l:=Xu Wo (([]:yL Zc)++[stp (mkC a (V2 (WC bp.2.2.2.2 per) (Y2 bo.2.2.1 per) tp.2.2.1) (1,zcd))]++[stp (mkC 330 (Vm bo.1) (3,zcd))])) (acc:=([]:yL Zc)++[stp (mkC a (V2 (WC bp.2.2.2.2 per) (Y2 bo.2.2.1 per) tp.2.2.1) (1,zcd))]++[stp (mkC 330 (Vm bo.1) (3,zcd))]) rfl wB (4,zcd) (by simp) (by intro e he;simp only[yah,yae,yap,or_false,false_or] at he;rcases he with rfl|rfl;exact wL;exact wA),ya];refine Eq.trans (tl (acc:=([]:yL Zc)++[stp (mkC a (V2 (WC bp.2.2.2.2 per) (Y2 bo.2.2.1 per) tp.2.2.1) (1,zcd))]++[stp (mkC 330 (Vm bo.1) (3,zcd))]++[stp (mkC 330 (Vm bp.1) (4,zcd))]) ?_ (by intro e he;simp only[yah,yae,yap,or_false,false_or] at he;rcases he with(rfl|rfl)|rfl;exact wL;exact wA;exact wB)) ?_
    ·simp
    ·simp[Function.comp_def]
  ·rw[yX (by rw[yN];exact ha),yX ha];by_cases hb:b >= to.1
   ·rw[yW (yY hb),yW hb];have p2:Zh yD [] ((b,(Za9 bp.2.1)),(2,zcd))=some (Xu Wo ([]++[stp (mkC b (Za9 bp.2.1) (2,zcd))])):=W2 (l:=[]) (acc:=[]) rfl wP (2,zcd) (by simp) (by simp);simp only[p2,ya];rw[W2 (l:=Xu Wo (([]:yL Zc)++[stp (mkC b (Za9 bp.2.1) (2,zcd))])) (acc:=([]:yL Zc)++[stp (mkC b (Za9 bp.2.1) (2,zcd))]) rfl wA (3,zcd) (by simp) (by intro e he;simp only[yah,yae,yap,or_false,false_or] at he;rcases he with rfl;exact wP),ya];rw[W2 (l:=Xu Wo (([]:yL Zc)++[stp (mkC b (Za9 bp.2.1) (2,zcd))]++[stp (mkC 330 (Vm bo.1) (3,zcd))])) (acc:=([]:yL Zc)++[stp (mkC b (Za9 bp.2.1) (2,zcd))]++[stp (mkC 330 (Vm bo.1) (3,zcd))]) rfl wB (4,zcd) (by simp) (by intro e he;simp only[yah,yae,yap,or_false,false_or] at he;rcases he with rfl|rfl;exact wP;exact wA),ya];refine Eq.trans (tl (acc:=([]:yL Zc)++[stp (mkC b (Za9 bp.2.1) (2,zcd))]++[stp (mkC 330 (Vm bo.1) (3,zcd))]++[stp (mkC 330 (Vm bp.1) (4,zcd))]) ?_ (by intro e he;simp only[yah,yae,yap,or_false,false_or] at he;rcases he with(rfl|rfl)|rfl;exact wP;exact wA;exact wB)) ?_
    ·simp
    ·simp[Function.comp_def]
   ·rw[yX (by rw[yN];exact hb),yX hb];have p3:Zh yD [] ((330,(Vm bo.1)),(3,zcd))=some (Xu Wo ([]++[stp (mkC 330 (Vm bo.1) (3,zcd))])):=W2 (l:=[]) (acc:=[]) rfl wA (3,zcd) (by simp) (by simp);simp only[p3,ya];rw[W2 (l:=Xu Wo (([]:yL Zc)++[stp (mkC 330 (Vm bo.1) (3,zcd))])) (acc:=([]:yL Zc)++[stp (mkC 330 (Vm bo.1) (3,zcd))]) rfl wB (4,zcd) (by simp) (by intro e he;simp only[yah,yae,yap,or_false,false_or] at he;rcases he with rfl;exact wA),ya];refine Eq.trans (tl (acc:=([]:yL Zc)++[stp (mkC 330 (Vm bo.1) (3,zcd))]++[stp (mkC 330 (Vm bp.1) (4,zcd))]) ?_ (by intro e he;simp only[yah,yae,yap,or_false,false_or] at he;rcases he with rfl|rfl;exact wA;exact wB)) ?_
    ·simp
    ·simp[Function.comp_def]
 ·rw[yW (show((own !=0)=true) from bne_iff_ne.2 h0),yX (show¬((own !=1)=true) by rw[show own=1 by omega];decide),yX (show¬(!true)=true by decide),hr,ya,yX (show¬(!true)=true by decide)]
  simp only[hr,hpeer,q1,q2,if_true,d.bO,d.bP,d.tO,d.tP,ya,ZrQ,ZDF,hrO,hrP,s1,lateIs,ancIs,ZF0,hsh];by_cases ha:a >= to.1
  ·rw[yW (yY ha),yW ha];by_cases hb:b >= to.1
   ·rw[yW hb];simp only[yW (yY hb)];have p1:Zh yD [] ((a,(V2 (WC bp.2.2.2.2 per) (Y2 bo.2.2.1 per) tp.2.2.1)),(1,zcd))=some (Xu Wo ([]++[stp (mkC a (V2 (WC bp.2.2.2.2 per) (Y2 bo.2.2.1 per) tp.2.2.1) (1,zcd))])):=W2 (l:=[]) (acc:=[]) rfl wL (1,zcd) (by simp) (by simp);simp only[p1,ya];rw[W2 (l:=Xu Wo (([]:yL Zc)++[stp (mkC a (V2 (WC bp.2.2.2.2 per) (Y2 bo.2.2.1 per) tp.2.2.1) (1,zcd))])) (acc:=([]:yL Zc)++[stp (mkC a (V2 (WC bp.2.2.2.2 per) (Y2 bo.2.2.1 per) tp.2.2.1) (1,zcd))]) rfl wP (2,zcd) (by simp) (by intro e he;simp only[yah,yae,yap,or_false,false_or] at he;rcases he with rfl;exact wL),ya];rw[W2 (l:=Xu Wo (([]:yL Zc)++[stp (mkC a (V2 (WC bp.2.2.2.2 per) (Y2 bo.2.2.1 per) tp.2.2.1) (1,zcd))]++[stp (mkC b (Za9 bp.2.1) (2,zcd))])) (acc:=([]:yL Zc)++[stp (mkC a (V2 (WC bp.2.2.2.2 per) (Y2 bo.2.2.1 per) tp.2.2.1) (1,zcd))]++[stp (mkC b (Za9 bp.2.1) (2,zcd))]) rfl wA (3,zcd) (by simp) (by intro e he;simp only[yah,yae,yap,or_false,false_or] at he;rcases he with rfl|rfl;exact wL;exact wP),ya];rw[W2 (l:=Xu Wo (([]:yL Zc)++[stp (mkC a (V2 (WC bp.2.2.2.2 per) (Y2 bo.2.2.1 per) tp.2.2.1) (1,zcd))]++[stp (mkC b (Za9 bp.2.1) (2,zcd))]++[stp (mkC 330 (Vm bo.1) (3,zcd))])) (acc:=([]:yL Zc)++[stp (mkC a (V2 (WC bp.2.2.2.2 per) (Y2 bo.2.2.1 per) tp.2.2.1) (1,zcd))]++[stp (mkC b (Za9 bp.2.1) (2,zcd))]++[stp (mkC 330 (Vm bo.1) (3,zcd))]) rfl wB (4,zcd) (by simp) (by intro e he;simp only[yah,yae,yap,or_false,false_or] at he;rcases he with(rfl|rfl)|rfl;exact wL;exact wP;exact wA),ya];refine Eq.trans (tl (acc:=([]:yL Zc)++[stp (mkC a (V2 (WC bp.2.2.2.2 per) (Y2 bo.2.2.1 per) tp.2.2.1) (1,zcd))]++[stp (mkC b (Za9 bp.2.1) (2,zcd))]++[stp (mkC 330 (Vm bo.1) (3,zcd))]++[stp (mkC 330 (Vm bp.1) (4,zcd))]) ?_ (by intro e he;simp only[yah,yae,yap,or_false,false_or] at he;rcases he with((rfl|rfl)|rfl)|rfl;exact wL;exact wP;exact wA;exact wB)) ?_
    ·simp
    ·simp[Function.comp_def]
   ·rw[yX hb];simp only[yX (show¬decide (b >= to.1)=true by rw[yN];exact hb)];have p1:Zh yD [] ((a,(V2 (WC bp.2.2.2.2 per) (Y2 bo.2.2.1 per) tp.2.2.1)),(1,zcd))=some (Xu Wo ([]++[stp (mkC a (V2 (WC bp.2.2.2.2 per) (Y2 bo.2.2.1 per) tp.2.2.1) (1,zcd))])):=W2 (l:=[]) (acc:=[]) rfl wL (1,zcd) (by simp) (by simp);simp only[p1,ya];rw[W2 (l:=Xu Wo (([]:yL Zc)++[stp (mkC a (V2 (WC bp.2.2.2.2 per) (Y2 bo.2.2.1 per) tp.2.2.1) (1,zcd))])) (acc:=([]:yL Zc)++[stp (mkC a (V2 (WC bp.2.2.2.2 per) (Y2 bo.2.2.1 per) tp.2.2.1) (1,zcd))]) rfl wA (3,zcd) (by simp) (by intro e he;simp only[yah,yae,yap,or_false,false_or] at he;rcases he with rfl;exact wL),ya];rw[W2 (l:=Xu Wo (([]:yL Zc)++[stp (mkC a (V2 (WC bp.2.2.2.2 per) (Y2 bo.2.2.1 per) tp.2.2.1) (1,zcd))]++[stp (mkC 330 (Vm bo.1) (3,zcd))])) (acc:=([]:yL Zc)++[stp (mkC a (V2 (WC bp.2.2.2.2 per) (Y2 bo.2.2.1 per) tp.2.2.1) (1,zcd))]++[stp (mkC 330 (Vm bo.1) (3,zcd))]) rfl wB (4,zcd) (by simp) (by intro e he;simp only[yah,yae,yap,or_false,false_or] at he;rcases he with rfl|rfl;exact wL;exact wA),ya];refine Eq.trans (tl (acc:=([]:yL Zc)++[stp (mkC a (V2 (WC bp.2.2.2.2 per) (Y2 bo.2.2.1 per) tp.2.2.1) (1,zcd))]++[stp (mkC 330 (Vm bo.1) (3,zcd))]++[stp (mkC 330 (Vm bp.1) (4,zcd))]) ?_ (by intro e he;simp only[yah,yae,yap,or_false,false_or] at he;rcases he with(rfl|rfl)|rfl;exact wL;exact wA;exact wB)) ?_
    ·simp
    ·simp[Function.comp_def]
  ·rw[yX (by rw[yN];exact ha),yX ha];by_cases hb:b >= to.1
   ·rw[yW (yY hb),yW hb];have p2:Zh yD [] ((b,(Za9 bp.2.1)),(2,zcd))=some (Xu Wo ([]++[stp (mkC b (Za9 bp.2.1) (2,zcd))])):=W2 (l:=[]) (acc:=[]) rfl wP (2,zcd) (by simp) (by simp);simp only[p2,ya];rw[W2 (l:=Xu Wo (([]:yL Zc)++[stp (mkC b (Za9 bp.2.1) (2,zcd))])) (acc:=([]:yL Zc)++[stp (mkC b (Za9 bp.2.1) (2,zcd))]) rfl wA (3,zcd) (by simp) (by intro e he;simp only[yah,yae,yap,or_false,false_or] at he;rcases he with rfl;exact wP),ya];rw[W2 (l:=Xu Wo (([]:yL Zc)++[stp (mkC b (Za9 bp.2.1) (2,zcd))]++[stp (mkC 330 (Vm bo.1) (3,zcd))])) (acc:=([]:yL Zc)++[stp (mkC b (Za9 bp.2.1) (2,zcd))]++[stp (mkC 330 (Vm bo.1) (3,zcd))]) rfl wB (4,zcd) (by simp) (by intro e he;simp only[yah,yae,yap,or_false,false_or] at he;rcases he with rfl|rfl;exact wP;exact wA),ya];refine Eq.trans (tl (acc:=([]:yL Zc)++[stp (mkC b (Za9 bp.2.1) (2,zcd))]++[stp (mkC 330 (Vm bo.1) (3,zcd))]++[stp (mkC 330 (Vm bp.1) (4,zcd))]) ?_ (by intro e he;simp only[yah,yae,yap,or_false,false_or] at he;rcases he with(rfl|rfl)|rfl;exact wP;exact wA;exact wB)) ?_
    ·simp
    ·simp[Function.comp_def]
   ·rw[yX (by rw[yN];exact hb),yX hb];have p3:Zh yD [] ((330,(Vm bo.1)),(3,zcd))=some (Xu Wo ([]++[stp (mkC 330 (Vm bo.1) (3,zcd))])):=W2 (l:=[]) (acc:=[]) rfl wA (3,zcd) (by simp) (by simp);simp only[p3,ya];rw[W2 (l:=Xu Wo (([]:yL Zc)++[stp (mkC 330 (Vm bo.1) (3,zcd))])) (acc:=([]:yL Zc)++[stp (mkC 330 (Vm bo.1) (3,zcd))]) rfl wB (4,zcd) (by simp) (by intro e he;simp only[yah,yae,yap,or_false,false_or] at he;rcases he with rfl;exact wA),ya];refine Eq.trans (tl (acc:=([]:yL Zc)++[stp (mkC 330 (Vm bo.1) (3,zcd))]++[stp (mkC 330 (Vm bp.1) (4,zcd))]) ?_ (by intro e he;simp only[yah,yae,yap,or_false,false_or] at he;rcases he with rfl|rfl;exact wA;exact wB)) ?_
    ·simp
    ·simp[Function.comp_def]
theorem ZRW(z:Int):wi z<=9223372036854775807:=by
 have e2:wi z=if(decide (z % 18446744073709551616 >= 9223372036854775808))=true then z % 18446744073709551616 - 18446744073709551616 else z % 18446744073709551616:=rfl
 rw[e2];by_cases h:z % 18446744073709551616 >= 9223372036854775808
 ·rw[yW (yY h)];omega
 ·rw[yX (by rw[yN];exact h)];omega
theorem ZI1{own:Int}{per:yU}{bo bp:Basics}{to tp:Terms}{a b:Int}{l:yL Cond}:∀e,e∈itm own per bo bp to tp a b l->∃n lk ro,e=mkC n lk ro/\LockWf lk:=by
 intro e he;unfold itm at he;rcases yah.1 he with he|he
 ·rcases yah.1 he with he|he
  ·rcases yah.1 he with he|he
   ·by_cases h:a >= to.1
    ·rw[yW h] at he;rw[yav.1 he];exact⟨_,_,_,rfl,ZDI _ _ _⟩
    ·rw[yX h] at he;cases he
   ·by_cases h:b >= to.1
    ·rw[yW h] at he;rw[yav.1 he];exact⟨_,_,_,rfl,ZwA _⟩
    ·rw[yX h] at he;cases he
  ·simp only[yae,yap,or_false] at he;rcases he with rfl|rfl
   ·exact⟨_,_,_,rfl,ZbI _⟩
   ·exact⟨_,_,_,rfl,ZbI _⟩
 ·obtain⟨c,_,rfl⟩:=ycc.1 he;exact⟨_,_,_,rfl,ZwB _ _ _ _ _ _⟩
theorem ZOQ{own:Int}{per:yU}{bo bp:Basics}{to tp:Terms}{a b:Int}{l:yL Cond}(hl:l.length<=16):(itm own per bo bp to tp a b l).length<=20:=by
 unfold itm;by_cases h1:a >= to.1
 ·by_cases h2:b >= to.1
  ·rw[yW h1,yW h2];simp;omega
  ·rw[yW h1,yX h2];simp;omega
 ·by_cases h2:b >= to.1
  ·rw[yX h1,yW h2];simp;omega
  ·rw[yX h1,yX h2];simp;omega
structure CmOk(ch:Chan)(c:Commit):Prop where
 ins:c.1.1=[(ch.1,(0,[],0))]
 outs:c.1.2.1.length<=20
 same:c.2.length=c.1.2.1.length
 note:c.1.2.2<=9223372036854775807
 locks:∀o,o∈c.1.2.1->LockWf o.2/\o.2.length<=3/\∀b,b∈o.2->b.1.length<=1
theorem Zts{own:Int}:VG yD own=some (decide (own=0\/own=1)):=by
 unfold VG;by_cases h:own=0
 ·rw[yW (beq_iff_eq.2 h),yY (p:=own=0\/own=1) (.inl h)]
 ·rw[yX (by rw[yT];exact h)];by_cases h1:own=1
  ·rw[yY (p:=own=0\/own=1) (.inr h1),h1];rfl
  ·rw[yZ (p:=own=0\/own=1) (by omega)];exact congrArg some (by simpa using h1)
def noC:Commit:=(([],[],0),[])
theorem ZBm{ch:Chan}(w:ChWf ch){s:yG}(hs:s.2.1.length=2)(own:Int)(per:yU):
 ∃c e,WS yD ch s own per=some (c,e)/\Yk yD ch s own per=some (c,e)/\(c=noC\/CmOk ch c):=by
 obtain⟨rb,r1,r2,r3⟩:=ZFS w hs;by_cases ho:own=0\/own=1
 ·by_cases hp:QA per.toNat
  ·cases rb with
   |true=>
    have r:=r3 rfl;obtain⟨bo,bp,to,tp,hO,hP,d⟩:=Sd.all w r ho;have hm:=ZNd r2 r hp d;have hk:=λe(he:e∈Zzi ch s own per bo bp to tp hO hP)=>ZI1 e he;rw[<-ZM1 (Zzi ch s own per bo bp to tp hO hP) (key:=Zco) (λe he=>by obtain⟨n,lk,ro,rfl,_⟩:=hk e he;rfl)] at hm;refine⟨_,_,ZNa r1 r hp d,hm,.inr ⟨rfl, ?_, ?_,ZRW _, ?_⟩⟩
    ·unfold ZDJ;dsimp only;rw[yy,yy,Zix];exact ZOQ (ybl (Ztq _ _) r.len)
    ·unfold ZDJ;dsimp only;rw[yy,yy,yy,yy]
    ·intro o ho;unfold ZDJ at ho;dsimp only at ho;obtain⟨m,hm1,rfl⟩:=ycc.1 ho;obtain⟨x,hx,rfl⟩:=ycc.1 hm1;have hx:=(Ztn _).1 hx;unfold Zzi itm at hx;refine⟨?_, ?_⟩
     ·obtain⟨n,lk,ro,rfl,h⟩:=ZI1 x hx;exact h
     ·have z1:∀a b q,(V2 a b q).length<=3/\∀e,e∈V2 a b q->e.1.length<=1:=λa b q=>⟨by simp[V2],λe he=>by simp[V2] at he;rcases he with rfl|rfl <;> simp⟩;have z2:∀a,(Za9 a).length<=3/\∀e,e∈Za9 a->e.1.length<=1:=λa=>⟨by simp[Za9],λe he=>by simp[Za9] at he;rw[he];simp⟩;have z3:∀a,(Vm a).length<=3/\∀e,e∈Vm a->e.1.length<=1:=λa=>⟨by simp[Vm],λe he=>by simp[Vm] at he;rcases he with rfl|rfl <;> simp⟩
      have z4:∀ow q a b c k,(Zqt ow q a b c k).length<=3/\∀e,e∈Zqt ow q a b c k->e.1.length<=1:=by
       intro ow q a b c k;unfold Zqt;split
       ·exact⟨by simp,λe he=>by simp at he;rcases he with rfl|rfl|rfl <;> simp⟩
       ·exact⟨by simp,λe he=>by simp at he;rcases he with rfl|rfl|rfl <;> simp⟩
      rcases yah.1 hx with hx|hx
      ·rcases yah.1 hx with hx|hx
       ·rcases yah.1 hx with hx|hx
        ·split at hx
         ·rw[yav.1 hx];exact z1 _ _ _
         ·cases hx
        ·split at hx
         ·rw[yav.1 hx];exact z2 _
         ·cases hx
       ·simp only[yae,yap,or_false] at hx;rcases hx with rfl|rfl
        ·exact z3 _
        ·exact z3 _
      ·obtain⟨c,_,rfl⟩:=ycc.1 hx
       exact z4 _ _ _ _ _ _
   |false=>
    refine⟨noC,14, ?_, ?_,.inl rfl⟩
    ·unfold WS;rw[Zts,ya,yY ho,yX (show¬(!true)=true by decide),Zit,ya,yY hp,yX (show¬(!true)=true by decide),r1,ya,yW (show(!false)=true by decide)];rfl
    ·unfold Yk;rw[Za7,ya,yY hp];rcases ho with rfl|rfl
     ·rw[yX (show¬(((0:Int)!=0)=true) by decide),yX (show¬(!true)=true by decide),r2,ya,yW (show(!false)=true by decide)];rfl
     ·rw[yW (show((1:Int)!=0)=true by decide),yX (show¬(((1:Int)!=1)=true) by decide),yX (show¬(!true)=true by decide),r2,ya,yW (show(!false)=true by decide)];rfl
  ·refine⟨noC,1, ?_, ?_,.inl rfl⟩
   ·unfold WS;rw[Zts,ya,yY ho,yX (show¬(!true)=true by decide),Zit,ya,yZ hp,yW (show(!false)=true by decide)];rfl
   ·unfold Yk;rw[Za7,ya,yZ hp];rcases ho with rfl|rfl
    ·rw[yX (show¬(((0:Int)!=0)=true) by decide),yW (show(!false)=true by decide)];rfl
    ·rw[yW (show((1:Int)!=0)=true by decide),yX (show¬(((1:Int)!=1)=true) by decide),yW (show(!false)=true by decide)];rfl
 ·refine⟨noC,1, ?_, ?_,.inl rfl⟩
  ·unfold WS;rw[Zts,ya,yZ ho,yW (show(!false)=true by decide)];rfl
  ·unfold Yk;rw[Za7,ya,yW (show(own !=0)=true from bne_iff_ne.2 λh=>ho (.inl h)),yW (show(own !=1)=true from bne_iff_ne.2 λh=>ho (.inr h))]
   rfl
theorem ZKi{ch:Chan}(w:ChWf ch){s:yG}(hs:s.2.1.length=2)(own of:Int):∃z,Zg3 yD ch s own of=some z/\ZW yD ch s own of=some z:=by
 obtain⟨rb,r1,r2,r3⟩:=ZFS w hs;unfold Zg3;rw[Zts,ya,Zts]
 cases rb with
 |false=>
  refine⟨0, ?_, ?_⟩
  ·by_cases ho:own=0\/own=1
   ·rw[yY ho,yX (show¬(!true)=true by decide),ya];by_cases hf:of=0\/of=1
    ·rw[yY hf,yX (show¬(!true)=true by decide),r1,ya,yW (show(!false)=true by decide)]
    ·rw[yZ hf,yW (show(!false)=true by decide)]
   ·rw[yZ ho,yW (show(!false)=true by decide)]
  ·unfold ZW
   rw[r2,ya,yW (show(!false)=true by decide)]
 |true=>
  have r:=r3 rfl;have hl20:s.2.2.1.length<=20:=by have:=r.len;omega
  by_cases ho:own=0\/own=1
  ·rw[yY ho,yX (show¬(!true)=true by decide),ya];by_cases hf:of=0\/of=1
   ·rw[yY hf,yX (show¬(!true)=true by decide),r1,ya,yX (show¬(!true)=true by decide)];obtain⟨bo,bp,to,tp,hO,hP,d⟩:=Sd.all w r ho
    obtain⟨h,hh,h0,h1⟩:∃h,s.2.1[of.toNat]? =some h/\0<=h/\h<=1125899906842624:=by
     by_cases e:of=own
     ·exact⟨hO,by rw[e];exact d.vO,d.o0,d.o1⟩
     ·exact⟨hP,by rw[show of=1 - own by omega];exact d.vP,d.p0,d.p1⟩
    rw[ZDH ho hf d.tO hl20 hh h0 h1,ya];exact⟨_,rfl,Zzh ho hf d.tO r2 hl20 hh h0 h1⟩
   ·rw[yZ hf,yW (show(!false)=true by decide)];refine⟨0,rfl, ?_⟩;unfold ZW;rw[r2,ya,yX (show¬(!true)=true by decide)];have f0:(of !=0)=true:=bne_iff_ne.2 λh=>hf (.inl h);have f1:(of !=1)=true:=bne_iff_ne.2 λh=>hf (.inr h);rcases ho with rfl|rfl
    ·rw[yX (show¬(((0:Int)!=0)=true) by decide),yW f0,yW f1]
    ·rw[yW (show((1:Int)!=0)=true by decide),yX (show¬(((1:Int)!=1)=true) by decide),yW f0,yW f1]
  ·rw[yZ ho,yW (show(!false)=true by decide)];refine⟨0,rfl, ?_⟩;unfold ZW;rw[r2,ya,yX (show¬(!true)=true by decide),yW (show(own !=0)=true from bne_iff_ne.2 λh=>ho (.inl h)),yW (show(own !=1)=true from bne_iff_ne.2 λh=>ho (.inr h))]
theorem ZDK{ch:Chan}(w:ChWf ch):∃a b,ZbG yD ch=some [([a,b],0,0,0)]/\Vs yD ch=some [([a,b],0,0,0)]:=by
 obtain⟨b0,b1,hb⟩:=ZpK w.b;unfold ZbG Vs ZrF Zb1 Zku VT ZX;rw[hb,ybb,List.getElem?_cons_succ,ybb];simp only[ya];rw[yW (ZT (by simp) (by simp))];exact⟨b0.1,b1.1,rfl,rfl⟩
theorem ZHF(t:Tx):∃p,ZeH yD t=some p/\Qd yD t=some p:=by
 unfold ZeH Qd;by_cases h:t.2.2 < 0
 ·rw[yW (yY h)];exact⟨_,rfl,rfl⟩
 ·rw[yX (by rw[yN];exact h)];exact⟨_,rfl,rfl⟩
theorem Zcn{I X:Type}{step:I->yO (I⊕X)}(n:Nat)(st:Nat->I)(ok:Nat->Prop)(good:X)(bad:Nat->X)
 (h1:∀k,k < n->(∀j,j < k->ok j)->ok k->step (st k)=some (.inl (st (k+1)))) (h2:∀k,k < n->(∀j,j < k->ok j)->¬ok k->step (st k)=some (.inr (bad k))) (he:(∀j,j < n->ok j)->step (st n)=some (.inr good)) (hn:n < 18446744073709551616):
 ∃x,Zb step yD (st 0)=some x/\(Zbx n ok/\x=good\/¬Zbx n ok/\∃k,x=bad k):=by
 refine Ws (step:=step) n (λk s=>s=st k/\∀j,j < k->ok j) _ (i:=st 0) ⟨rfl,λj h=>by omega⟩ hn ?_ ?_
 ·rintro k _ hk ⟨rfl,hj⟩;by_cases h:ok k
  ·left;refine⟨_,h1 k hk hj h,rfl,λj hjk=> ?_⟩;by_cases e:j=k
   ·rw[e];exact h
   ·exact hj j (by omega)
  ·right;exact⟨_,h2 k hk hj h,.inr ⟨λq=>h (q k hk),k,rfl⟩⟩
 ·rintro _ ⟨rfl,hj⟩;exact⟨_,he hj,.inl ⟨hj,rfl⟩⟩
theorem ZBn{K V:Type}[DecidableEq K](k:K)(v:V)(k':K):∀m:yL (K×V),Zr9 (ZvG m k v) k'=if k'=k then some v else Zr9 m k'
 |[]=>rfl
 |q::m=>by
  have ih:=ZBn k v k' m;unfold ZvG;by_cases h:k=q.1
  ·rw[yW h];unfold Zr9;by_cases h2:k'=k
   ·rw[yW h2,yW h2]
   ·rw[yX h2,yX h2,yX (by rw[<-h];exact h2)]
  ·rw[yX h];unfold Zr9;by_cases h3:k'=q.1
   ·rw[yW h3,yW h3,yX (by rw[h3];exact λq=>h q.symm)]
   ·rw[yX h3,yX h3,ih]
def Zph(l:yL In):yL (XP×Bool):=l.foldl (λm x=>ZvG m x.1 true) []
theorem ZI2{l:yL In}{k:Nat}{x:In}(h:l[k]? =some x):Zph (l.take (k+1))=ZvG (Zph (l.take k)) x.1 true:=by
 rw[Qa h,Zph,List.foldl_append];rfl
theorem Zzj(l:yL In)(p:XP):∀k,k<=l.length->(Zr9 (Zph (l.take k)) p=some true/\(∃j y,j < k/\l[j]? =some y/\y.1=p))\/(Zr9 (Zph (l.take k)) p=none/\∀j y,j < k->l[j]? =some y->y.1≠p)
 |0,_=>.inr ⟨rfl,λj y h=>by omega⟩
 |k+1,hk=>by
  obtain⟨x,hx,_⟩:=Zg (l:=l) (k:=k) (by omega);rw[ZI2 hx,ZBn];by_cases h:p=x.1
  ·rw[yW h];exact .inl ⟨rfl,k,x,by omega,hx,h.symm⟩
  ·rw[yX h];rcases Zzj l p k (by omega) with⟨h1,j,y,h2,h3,h4⟩|⟨h1,h2⟩
   ·exact .inl ⟨h1,j,y,by omega,h3,h4⟩
   ·refine .inr ⟨h1,λj y h3 h4=> ?_⟩;by_cases e:j=k
    ·subst e;rw[hx] at h4;cases h4;exact λq=>h q.symm
    ·exact h2 j y (by omega) h4
def Ztt(w:XQ):Prop:=0<=w.1/\w.1 < 4/\w.2.1.length<=12
instance(w:XQ):Decidable (Ztt w):=by unfold Ztt;infer_instance
theorem ZNe(w:XQ):Zfb yD w=some (decide (Ztt w)):=by
 unfold Zfb;refine(W1 (q:=w.1 < 4/\(w.2.1.length:Int)<=12) (Zml _ _ rfl)).trans (congrArg some (decide_eq_decide.2 ?_));unfold Ztt;omega
theorem ZI3(w:XQ):WZ yD w=some (decide (Ztt w)):=by
 unfold WZ;refine(W1 (q:=w.1<=3/\(w.2.1.length:Int)<=12) (Zml _ _ rfl)).trans (congrArg some (decide_eq_decide.2 ?_));unfold Ztt;omega
def ZKj(l:yL In)(k:Nat):Prop:=∀x,l[k]? =some x->(0<=x.1.2/\x.1.2 < 64)/\Ztt x.2/\∀j y,j < k->l[j]? =some y->y.1≠x.1
theorem ZKk(t:Tx)(hl:t.1.length<=100):∃x,Zb (Za4 yD) yD (t.1,(t.1.length:Int),(0:Int),t,([]:yL (XP×Bool)))=some x/\(Zbx t.1.length (ZKj t.1)/\x=.inr (t,Zph t.1)\/¬Zbx t.1.length (ZKj t.1)/\∃k:Nat,x=.inl (false,t,Zph (t.1.take k))):=by
 refine Zcn t.1.length (λk:Nat=>(t.1,(t.1.length:Int),(k:Int),t,Zph (t.1.take k))) (ZKj t.1) (Sum.inr (t,Zph t.1)) (λk=>Sum.inl (false,t,Zph (t.1.take k))) ?_ ?_ ?_ (by omega)
 ·intro k hk _ hok;obtain⟨x,hx,_⟩:=Zg hk;obtain⟨o1,o2,o3⟩:=hok x hx;unfold Za4;dsimp only;rw[yW (ZF hk),Zp hx,ya];rcases Zzj t.1 x.1 k (by omega) with⟨_,j,y,h2,h3,h4⟩|⟨h1,_⟩
  ·exact absurd h4 (o3 j y h2 h3)
  ·rw[h1];unfold ZAI;dsimp only;rw[yX (show¬decide (x.1.2 < 0)=true by rw[yN];omega),yX (show¬decide (x.1.2 >= 64)=true by rw[yN];omega),ZNe,ya,yY o2,yX (by decide),Zo (by omega),ZI2 hx]
 ·intro k hk _ hno;obtain⟨x,hx,_⟩:=Zg hk;unfold Za4;dsimp only;rw[yW (ZF hk),Zp hx,ya];rcases Zzj t.1 x.1 k (by omega) with⟨h1,_⟩|⟨h1,h2⟩
  ·rw[h1];unfold ZAI;dsimp only;rw[yW rfl]
  ·rw[h1];unfold ZAI;dsimp only;by_cases c1:x.1.2 < 0
   ·rw[yW (yY c1)]
   ·rw[yX (show¬decide (x.1.2 < 0)=true by rw[yN];exact c1)];by_cases c2:x.1.2 >= 64
    ·rw[yW (yY c2)]
    ·rw[yX (show¬decide (x.1.2 >= 64)=true by rw[yN];exact c2),ZNe,ya];by_cases c3:Ztt x.2
     ·refine absurd ?_ hno;intro x' hx';rw[hx] at hx';cases hx';exact⟨⟨by omega,by omega⟩,c3,h2⟩
     ·rw[yZ c3,yW (by decide)]
 ·intro _;unfold Za4;dsimp only;rw[yX (by rw[Zz];decide),yao]
theorem ZBo(t:Tx){k:Nat}(hk:k<=100)(hkl:k<=t.1.length)(x:In):∃r,Zb (Yl yD) yD ((k:Int),(0:Int),t,x)=some r/\((∀j y,j < k->t.1[j]? =some y->y.1≠x.1)/\r=.inr ((k:Int),t,x)\/(¬∀j y,j < k->t.1[j]? =some y->y.1≠x.1)/\r=.inl (false,t,x)):=by
 obtain⟨r,r1,r2⟩:=Zcn (step:=Yl yD) k (λj:Nat=>((k:Int),(j:Int),t,x)) (λj=>∀y,t.1[j]? =some y->y.1≠x.1) (.inr ((k:Int),t,x)) (λ_=>.inl (false,t,x)) (by
  intro j hj _ hok;obtain⟨y,hy,_⟩:=Zg (l:=t.1) (k:=j) (by omega);unfold Yl;dsimp only;rw[yW (ZF hj),Zp hy,ya,yX (by rw[yN];exact hok y hy),Zo (by omega)]) (by
  intro j hj _ hno;obtain⟨y,hy,_⟩:=Zg (l:=t.1) (k:=j) (by omega)
  have h:y.1=x.1:=by
   by_cases h:y.1=x.1
   ·exact h
   ·refine absurd ?_ hno;intro y' hy';rw[hy] at hy';cases hy';exact h
  unfold Yl;dsimp only;rw[yW (ZF hj),Zp hy,ya,yW (yY h)]) (by
  intro _;unfold Yl;dsimp only;rw[yX (by rw[Zz];decide)]) (by omega)
 refine⟨r,r1, ?_⟩;rcases r2 with⟨h1,h2⟩|⟨h1,_,h2⟩
 ·exact .inl ⟨λj y hj hy=>h1 j hj y hy,h2⟩
 ·exact .inr ⟨λq=>h1 λj hj y hy=>q j y hj hy,h2⟩
theorem ZKl(t:Tx)(hl:t.1.length<=100):∃x,Zb (YV yD) yD ((0:Int),t)=some x/\(Zbx t.1.length (ZKj t.1)/\x=.inr t\/¬Zbx t.1.length (ZKj t.1)/\∃k:Nat,x=.inl (false,t)):=by
 refine Zcn t.1.length (λk:Nat=>((k:Int),t)) (ZKj t.1) (Sum.inr t) (λ_=>Sum.inl (false,t)) ?_ ?_ ?_ (by omega)
 ·intro k hk _ hok;obtain⟨x,hx,_⟩:=Zg hk;obtain⟨o1,o2,o3⟩:=hok x hx;unfold YV;dsimp only;rw[yW (ZF hk),Zp hx,ya,yX (show¬decide (x.1.2 < 0)=true by rw[yN];omega),yX (show¬decide (x.1.2 > 63)=true by rw[yN];omega),ZI3,ya,yY o2,yX (by decide)];obtain⟨r,r1,⟨_,rfl⟩|⟨h,_⟩⟩:=ZBo t (k:=k) (by omega) (by omega) x
  ·rw[r1,ya];dsimp only;rw[Zo (by omega)]
  ·exact absurd o3 h
 ·intro k hk _ hno;obtain⟨x,hx,_⟩:=Zg hk;unfold YV;dsimp only;rw[yW (ZF hk),Zp hx,ya];by_cases c1:x.1.2 < 0
  ·rw[yW (yY c1)]
  ·rw[yX (show¬decide (x.1.2 < 0)=true by rw[yN];exact c1)];by_cases c2:x.1.2 > 63
   ·rw[yW (yY c2)]
   ·rw[yX (show¬decide (x.1.2 > 63)=true by rw[yN];exact c2),ZI3,ya];by_cases c3:Ztt x.2
    ·rw[yY c3,yX (by decide)];obtain⟨r,r1,⟨h,rfl⟩|⟨h,rfl⟩⟩:=ZBo t (k:=k) (by omega) (by omega) x
     ·refine absurd ?_ hno;intro x' hx';rw[hx] at hx';cases hx';exact⟨⟨by omega,by omega⟩,c3,h⟩
     ·rw[r1,ya]
    ·rw[yZ c3,yW (by decide)]
 ·intro _;unfold YV;dsimp only;rw[yX (by rw[Zz];decide)]
theorem ZF1(z:Int):ZhF yD z=some (decide (0<=z/\z<=1125899906842624)):=Zml (z >= 0) (z<=1125899906842624) rfl
theorem ZF2{a b:Int}(h0:0<=a)(h1:a<=1125899906842624):ZhG yD a b=some (if(0<=b/\b<=1125899906842624)/\a+b<=1125899906842624 then(a+b,true) else(0,false)):=by
 unfold ZhG;rw[ZF1,ya,yY (p:=0<=a/\a<=1125899906842624) ⟨h0,h1⟩,yX (show¬(!true)=true by decide),ZF1,ya];by_cases hb:0<=b/\b<=1125899906842624
 ·rw[yY hb,yX (show¬(!true)=true by decide),ZU (z:=1125899906842624 - b) (by omega) (by omega),ZU (z:=a+b) (by omega) (by omega)];by_cases h:a+b<=1125899906842624
  ·rw[yX (show¬decide (a > 1125899906842624 - b)=true by rw[yN];omega),yW ⟨hb,h⟩]
  ·rw[yW (show decide (a > 1125899906842624 - b)=true from yY (by omega)),yX λq=>h q.2]
 ·rw[yZ hb,yW (show(!false)=true by decide),yX λq=>hb q.1]
structure TxL(t:Tx):Prop where
 ins:t.1.length<=70
 outs:t.2.1.length<=70
 locks:∀o,o∈t.2.1->LockWf o.2
def ZNf(o:Out):Prop:=(0<=o.1/\o.1<=1125899906842624)/\Zbo o.2/\Zdc o.2
def ZF3(l:yL Out)(k:Nat):Prop:=∀o,l[k]? =some o->ZNf o/\Zf2 (l.take (k+1))<=1125899906842624
def Zzk(l:yL Out)(k:Nat):Prop:=∀o,l[k]? =some o->ZNf o
theorem ZDL{l:yL Out}:∀k,k<=l.length->(∀j,j < k->Zzk l j)->0<=Zf2 (l.take k)/\Zf2 (l.take k)<=k*1125899906842624
 |0,_,_=>by simp[Zf2]
 |k+1,hk,h=>by
  obtain⟨o,ho,_⟩:=Zg (l:=l) (k:=k) (by omega);have ih:=ZDL k (by omega) λj hj=>h j (by omega);have hc:=(h k (by omega) o ho).1;rw[Zk3 ho];omega
theorem ZHG{t:Tx}(hl:TxL t)(m:yL (XP×Bool)):∃x,Zb (Za5 yD) yD ((0:Int),t.2.1,(t.2.1.length:Int),(0:Int),t,m)=some x/\(Zbx t.2.1.length (ZF3 t.2.1)/\x=.inr (t,m)\/¬Zbx t.2.1.length (ZF3 t.2.1)/\∃k:Nat,x=.inl (false,t,m)):=by
 have hw:=hl.outs
 have sm:∀k,k<=t.2.1.length->(∀j,j < k->ZF3 t.2.1 j)->0<=Zf2 (t.2.1.take k)/\Zf2 (t.2.1.take k)<=1125899906842624:=by
  intro k hk h;refine⟨(ZDL k hk λj hj o ho=>(h j hj o ho).1).1, ?_⟩
  cases k with
  |zero=>simp[Zf2]
  |succ k=>
   obtain⟨o,ho,_⟩:=Zg (l:=t.2.1) (k:=k) (by omega);exact(h k (by omega) o ho).2
 refine Zcn t.2.1.length (λk:Nat=>(Zf2 (t.2.1.take k),t.2.1,(t.2.1.length:Int),(k:Int),t,m)) (ZF3 t.2.1) (Sum.inr (t,m)) (λ_=>Sum.inl (false,t,m)) ?_ ?_ ?_ (by omega)
 ·intro k hk hj hok;obtain⟨o,ho,hm⟩:=Zg hk;obtain⟨⟨o1,o2⟩,o3⟩:=hok o ho;rw[Zk3 ho] at o3;obtain⟨s0,s1⟩:=sm k (by omega) hj;obtain⟨b,b1,b2⟩:=Ziw (hl.locks o hm);unfold Za5;dsimp only;rw[yW (ZF hk),Zp ho,ya,ZF2 s0 s1,yW ⟨o1,o3⟩,ya,yX (by simp),b1,ya,b2.2 o2,yX (by decide),Zo (by omega),Zk3 ho]
 ·intro k hk hj hno;obtain⟨o,ho,hm⟩:=Zg hk;obtain⟨s0,s1⟩:=sm k (by omega) hj;obtain⟨b,b1,b2⟩:=Ziw (hl.locks o hm);unfold Za5;dsimp only;rw[yW (ZF hk),Zp ho,ya,ZF2 s0 s1,ya];by_cases c:(0<=o.1/\o.1<=1125899906842624)/\Zf2 (t.2.1.take k)+o.1<=1125899906842624
  ·rw[yW c,yX (by simp),b1,ya]
   cases b with
   |true=>
    refine absurd ?_ hno;intro o' ho';rw[ho] at ho';cases ho';rw[Zk3 ho]
    exact⟨⟨c.1,b2.1 rfl⟩,c.2⟩
   |false=>rw[yW (by decide)]
  ·rw[yX c,yW (by simp)]
 ·intro _;unfold Za5;dsimp only;rw[yX (by rw[Zz];decide)]
theorem ZHH{t:Tx}(hl:TxL t):∃x,Zb (YW yD) yD ((0:Int),(0:Int),t)=some x/\(Zbx t.2.1.length (Zzk t.2.1)/\x=.inr (Zf2 t.2.1,t)\/¬Zbx t.2.1.length (Zzk t.2.1)/\∃k:Nat,x=.inl (false,t)):=by
 have hw:=hl.outs;refine Zcn t.2.1.length (λk:Nat=>(Zf2 (t.2.1.take k),(k:Int),t)) (Zzk t.2.1) (Sum.inr (Zf2 t.2.1,t)) (λ_=>Sum.inl (false,t)) ?_ ?_ ?_ (by omega)
 ·intro k hk hj hok;obtain⟨o,ho,hm⟩:=Zg hk;obtain⟨o1,o2⟩:=hok o ho;obtain⟨s0,s1⟩:=ZDL k (by omega) hj;obtain⟨b,b1,b2⟩:=Zha (hl.locks o hm);have hk70:(k:Int)<=70:=by omega
  unfold YW;dsimp only;rw[yW (ZF hk),Zp ho,ya,yX (show¬decide (o.1 < 0)=true by rw[yN];omega),yX (show¬decide (o.1 > 1125899906842624)=true by rw[yN];omega),b1,ya,b2.2 o2,yX (by decide),Zo (by omega),Zk3 ho,ZU (z:=Zf2 (t.2.1.take k)+o.1) (by omega) (by omega)]
 ·intro k hk hj hno;obtain⟨o,ho,hm⟩:=Zg hk;obtain⟨b,b1,b2⟩:=Zha (hl.locks o hm);unfold YW;dsimp only;rw[yW (ZF hk),Zp ho,ya];by_cases c1:o.1 < 0
  ·rw[yW (yY c1)]
  ·rw[yX (show¬decide (o.1 < 0)=true by rw[yN];exact c1)];by_cases c2:o.1 > 1125899906842624
   ·rw[yW (yY c2)]
   ·rw[yX (show¬decide (o.1 > 1125899906842624)=true by rw[yN];exact c2),b1,ya]
    cases b with
    |true=>
     refine absurd ?_ hno;intro o' ho';rw[ho] at ho';cases ho'
     exact⟨⟨by omega,by omega⟩,b2.1 rfl⟩
    |false=>rw[yW (by decide)]
 ·intro _;unfold YW;dsimp only;rw[yX (by rw[Zz];decide),yao]
theorem ZF4{l:yL Out}(hl:l.length<=70):Zbx l.length (ZF3 l)↔Zbx l.length (Zzk l)/\Zf2 l<=1125899906842624:=by
 constructor
 ·intro h;refine⟨λk hk o ho=>(h k hk o ho).1, ?_⟩
  cases hn:l.length with
  |zero=>
   rw[List.eq_nil_of_length_eq_zero hn]
   simp[Zf2]
  |succ k=>
   obtain⟨o,ho,_⟩:=Zg (l:=l) (k:=k) (by omega);have:=(h k (by omega) o ho).2
   rwa [show k+1=l.length by omega,yao] at this
 ·rintro⟨h1,h2⟩ k hk o ho;refine⟨h1 k hk o ho, ?_⟩
  have zU:∀e,e∈l->0<=e.1:=by
   intro e he;obtain⟨j,j1,j2⟩:=ybx he;exact(h1 j j1 e (by rw[yab j1,j2])).1.1
  have hs:Zf2 l=Zf2 (l.take (k+1))+Zf2 (l.drop (k+1)):=by
   have q:=congrArg Zf2 (List.take_append_drop (k+1) l);rw[<-q];unfold Zf2;rw[yas,List.sum_append]
  have hd:0<=Zf2 (l.drop (k+1)):=ZMK (by
   intro x hx;obtain⟨e,he,rfl⟩:=ycc.1 hx;exact zU e (List.mem_of_mem_drop he))
  omega
theorem ZDM{t:Tx}(hl:TxL t):∃b:Bool,ZpG yD t=some b/\Qf yD t=some b/\(b=true->ZQO t):=by
 unfold ZpG Qf;by_cases c1:(t.1.length:Int) < 1
 ·rw[yW (yY c1),yW (yY c1)];exact⟨false,rfl,rfl,λh=>by cases h⟩
 have c1':¬decide ((t.1.length:Int) < 1)=true:=by rw[yN];exact c1
 rw[yX c1',yX c1'];by_cases c2:(t.1.length:Int) > 64
 ·rw[yW (yY c2),yW (yY c2)];exact⟨false,rfl,rfl,λh=>by cases h⟩
 have c2':¬decide ((t.1.length:Int) > 64)=true:=by rw[yN];exact c2
 rw[yX c2',yX c2'];by_cases c3:(t.2.1.length:Int) > 64
 ·rw[yW (yY c3),yW (yY c3)];exact⟨false,rfl,rfl,λh=>by cases h⟩
 have c3':¬decide ((t.2.1.length:Int) > 64)=true:=by rw[yN];exact c3
 rw[yX c3',yX c3'];by_cases c4:t.2.2 < 0
 ·rw[yW (yY c4),yW (yY c4)];exact⟨false,rfl,rfl,λh=>by cases h⟩
 have c4':¬decide (t.2.2 < 0)=true:=by rw[yN];exact c4
 rw[yX c4',yX c4'];have h70:=hl.ins;obtain⟨x,x1,x2⟩:=ZKk t (by omega);obtain⟨y,y1,y2⟩:=ZKl t (by omega);rw[x1,y1,ya,ya];rcases x2 with⟨hI,rfl⟩|⟨hI,k,rfl⟩
 ·rcases y2 with⟨_,rfl⟩|⟨hI',_⟩
  ·dsimp only;obtain⟨x,x1,x2⟩:=ZHG hl (Zph t.1);obtain⟨y,y1,y2⟩:=ZHH hl;rw[x1,y1,ya,ya];rcases x2 with⟨hO,rfl⟩|⟨hO,k,rfl⟩
   ·obtain⟨hO1,hO2⟩:=(ZF4 hl.outs).1 hO;rcases y2 with⟨_,rfl⟩|⟨hO',_⟩
    ·dsimp only;rw[yY hO2];refine⟨true,rfl,rfl,λ_=>⟨by omega,by omega,by omega,by omega,λx hx=> ?_,λo ho=> ?_⟩⟩
     ·obtain⟨j,j1,j2⟩:=ybx hx;obtain⟨q1,q2,_⟩:=hI j j1 x (by rw[yab j1,j2]);exact⟨q1.1,q1.2,q2.1,q2.2.1,q2.2.2⟩
     ·obtain⟨j,j1,j2⟩:=ybx ho;obtain⟨q1,q2⟩:=hO1 j j1 o (by rw[yab j1,j2]);exact⟨q1.1,q1.2,q2.1,q2.2⟩
    ·exact absurd hO1 hO'
   ·rcases y2 with⟨hO',rfl⟩|⟨_,_,rfl⟩
    ·dsimp only;rw[yZ (p:=Zf2 t.2.1<=1125899906842624) λq=>hO ((ZF4 hl.outs).2 ⟨hO',q⟩)];exact⟨false,rfl,rfl,λh=>by cases h⟩
    ·exact⟨false,rfl,rfl,λh=>by cases h⟩
  ·exact absurd hI hI'
 ·rcases y2 with⟨hI',_⟩|⟨_,_,rfl⟩
  ·exact absurd hI' hI
  ·exact⟨false,rfl,rfl,λh=>by cases h⟩
theorem ZKm{t:Tx}(hw:ZFL t)(h:ZQO t):Qg yD t=some (Zpf t):=by
 obtain⟨ins,outs,note⟩:=t;obtain⟨w1,w2⟩:=hw;obtain⟨t1,t2,t3,t4,t5,t6⟩:=h;dsimp only at w1 w2 t1 t2 t3 t4 t5 t6;have r1:=Z8 (n:=ins.length) (by omega);have r2:=Z8 (n:=outs.length) (by omega);have ci:∀k,(cat inF (ins.take k)).length<=64*41:=Zdd (λx hx=>ZIT (w1 x hx) (t5 x hx)) t2;have co:∀k,(cat ZuF (outs.take k)).length<=64*551:=Zdd (λx hx=>ZFM (t6 x hx)) t3;have ci':=ci ins.length;rw[yao] at ci';have co':=co outs.length;rw[yao] at co';unfold Qg;dsimp only;rw[ZeM (by omega) (by omega) (by simp),ya,List.nil_append,yau]
 have q:=Zt (step:=YX yD) ins.length (λk:Nat=>(WQ ins.length++cat inF (ins.take k),(k:Int),(ins,outs,note))) (x:=(WQ ins.length++cat inF ins,(ins,outs,note))) (by
  intro k hk;obtain⟨e,he,hm⟩:=Zg hk;have hc:=ci k;have h32:=w1 e hm;have hi:=t5 e hm;unfold YX;dsimp only;rw[yW (ZF hk),Zp he,ya,ZFO (by rw[yo];omega) h32,ya,ya,ZeM hi.1 (by have:=hi.2.1;omega) (by simp only[yo];omega),ya,Zo (by omega),Zbw he];unfold inF;simp only[yad]) (by
  unfold YX;dsimp only;rw[yX (by rw[Zz];decide),yao]) (by omega)
 rw[show cat inF (ins.take 0)=[] from rfl,yaz] at q
 have q:Zb (YX yD) yD (WQ ins.length,(0:Int),(ins,outs,note))=_:=q;rw[q,ya];dsimp only;rw[ZeM (by omega) (by omega) (by rw[yo];omega),ya,yau]
 have p:=Zt (step:=YY yD) outs.length (λk:Nat=>(WQ ins.length++cat inF ins++WQ outs.length++cat ZuF (outs.take k),(k:Int),(ins,outs,note))) (x:=(WQ ins.length++cat inF ins++WQ outs.length++cat ZuF outs,(ins,outs,note))) (by
  intro k hk;obtain⟨e,he,hm⟩:=Zg hk;have hc:=co k;obtain⟨o1,o2,o3,o4⟩:=t6 e hm;have hl:=ZpJ o3;have hr:=Z8 (n:=e.1.toNat) (by omega);unfold YY;dsimp only;rw[yW (ZF hk),Zp he,ya,ZeM o1 (by omega) (by simp only[yo];omega),ya,ya,ZvE o3 o4,ya,ZDA (by simp only[yo];omega) (by omega),ya,Zo (by omega),Zbw he];unfold ZuF;simp only[yad]) (by
  unfold YY;dsimp only;rw[yX (by rw[Zz];decide),yao]) (by omega)
 rw[show cat ZuF (outs.take 0)=[] from rfl,yaz] at p
 have p:Zb (YY yD) yD (WQ ins.length++cat inF ins++WQ outs.length,(0:Int),(ins,outs,note))=_:=p;rw[p,ya];dsimp only;rw[ZeM t4 w2 (by simp only[yo];omega),ya];unfold Zpf;simp only[yad]
theorem ZBp{t:Tx}(h:(Zpf t).length<=40000):∀x,x∈[Zpf t]->x.length<=60000:=λx hx=>by
 rw[yav.1 hx];omega
theorem ZpM{t:Tx}(hl:TxL t)(hw:ZFL t):∃n,ZrG yD t=some n/\Wm yD t=some n/\n.length=32:=by
 obtain⟨b,b1,b2,b3⟩:=ZDM hl;unfold ZrG Wm;rw[b1,b2,ya,ya]
 cases b with
 |false=>exact⟨_,rfl,rfl,rfl⟩
 |true=>
  have h:=b3 rfl;obtain⟨p1,p2⟩:=ZMJ hw h;rw[yX (by decide),yX (by decide),p1,ZKm hw h,ya,ya,Zza (by decide) (by simp) (ZBp p2),Ztk (by decide) (by simp) (ZBp p2)];exact⟨_,rfl,rfl,Sha.ZR0 _⟩
instance(k:yU):Decidable (Key k):=by unfold Key;infer_instance
theorem tk1:tk 1=1:=ZPi ZMg
theorem ZNg(p:yU)(h:QA p.toNat):ad p 1=p:=by
 rw[<-UInt64.toNat_inj,ZQM,ZPi h,tk1];show p.toNat*1 % mdl=_;rw[Nat.mul_one,Nat.mod_eq_of_lt h.2.1]
theorem ZI4(k:yU):ZkA yD k=some (decide (Key k)):=by
 unfold ZkA;rw[ZBe,ya];by_cases h:k.toNat < ord
 ·rw[yW (yY h)];congr 1;by_cases h0:k=0
  ·subst h0;rw[yZ (by unfold Key;exact λh=>absurd h.1 (by decide))];rfl
  ·have:0 < k.toNat:=by
    rcases Nat.eq_zero_or_pos k.toNat with h1|h1
    ·exact absurd (UInt64.toNat_inj.1 h1) h0
    ·exact h1
   rw[yY (p:=Key k) ⟨this,h⟩];exact bne_iff_ne.2 h0
 ·rw[yX (by rw[yN];exact h),yZ (λhk=>h hk.2)]
theorem ZuI(p:yU):Zce yD p=some (Ww p.toNat):=by
 unfold Zce
 have e:=Zt (step:=Qs yD) 8 (λk:Nat=>(p,(8:Int),(k:Int),Zpc (Ww p.toNat) 8 k)) (x:=Ww p.toNat) (by
  intro k hk;have hb:(Ww p.toNat)[k]? =_:=Zuw p hk;have hl:(Ww p.toNat).length=8:=rfl;unfold Qs;dsimp only;have q1:min (56 - 8*(k:Int)).toNat 64=56 - 8*k:=by omega
  rw[yW (yY (by omega)),ZU (z:=8*(k:Int)) (by omega) (by omega),ZU (z:=56 - 8*(k:Int)) (by omega) (by omega),yW (yY (by omega)),yW (ZJ (by omega) (by omega)),yau,Nat.zero_add,ZuC (by omega) (by omega),ya,Zo (by omega),q1,ZuD hb (by omega)]) (by
  unfold Qs;dsimp only;rw[yX (ynd (by omega)),ZuE (n:=8) (Xq _)]) (by omega)
 have e:Zb (Qs yD) yD (p,(8:Int),(0:Int),([0,0,0,0,0,0,0,0]:yL yB))=_:=e;rw[e,ya];rfl
noncomputable def chF(r p:yU)(m:yL yB):yU:=frF (Sha.sha (Zwe ZMu [Ww r.toNat,Ww p.toNat,m]))
theorem ZOR(r p:yU){m:yL yB}(hm:m.length=32):Q0 yD r p m=some (chF r p m):=by
 unfold Q0
 rw[ZuI,ya,ZuI,ya,Zza (by decide) (by simp) (by
  intro l hl;simp only[yae,yap,or_false] at hl;rcases hl with rfl|rfl|rfl
  ·exact ybl (Nat.le_of_eq (Xq _)) (by decide)
  ·exact ybl (Nat.le_of_eq (Xq _)) (by decide)
  ·omega),ya,ZDy (Sha.ZR0 _),ya]
 rfl
noncomputable def noF(k:yU)(m:yL yB):yU:=frF (Sha.sha (Zwe ZMv [Ww k.toNat,m]))
noncomputable def sgF(k:yU)(m:yL yB):Sig:=
 if Key k then(B (noF k m).toNat,UInt64.ofNat (((noF k m).toNat+(UInt64.ofNat ((chF (B (noF k m).toNat) (B k.toNat) m).toNat*k.toNat % ord)).toNat) % ord)) else(0,0)
theorem ZOS(k:yU){m:yL yB}(hm:m.length=32):ZlL yD k m=some (sgF k m):=by
 unfold ZlL sgF;rw[ZI4,ya];by_cases hk:Key k
 ·rw[yY hk,yX (by decide),yW hk,ZuI,ya,Zza (by decide) (by simp) (by
   intro l hl;simp only[yae,yap,or_false] at hl;rcases hl with rfl|rfl
   ·exact ybl (Nat.le_of_eq (Xq _)) (by decide)
   ·omega),ya,ZDy (Sha.ZR0 _),ya]
  unfold ZlK;rw[ZDr,ya,ZHv,ZNg _ (ZRS _),ya,ZDr,ya,ZOR _ _ hm,ya,ZOC,ya,ZIQ,ya];rfl
 ·rw[yZ hk,yW (by decide),yX hk]
theorem ZNh(r p:yU){m:yL yB}(hm:m.length=32):WH yD r p m=some (chF r p m):=by
 unfold WH Qj
 rw[Ztj,Ztj,ya,ya,ya,ya,Ztk (by decide) (by simp) (by
  intro l hl;simp only[yae,yap,or_false] at hl;rcases hl with rfl|rfl|rfl
  ·exact ybl (Nat.le_of_eq (Xq _)) (by decide)
  ·exact ybl (Nat.le_of_eq (Xq _)) (by decide)
  ·omega),ya,Zy9 (Sha.ZR0 _),ya]
 rfl
theorem ZOT(k:yU):Zam yD k=some (decide (Key k)):=by
 rw[<-ZI4];unfold Zam ZkA;rw[ZHy,ZBe]
theorem ZNi(k:yU){m:yL yB}(hm:m.length=32):QV yD k m=some (sgF k m):=by
 unfold QV sgF;rw[ZOT,ya];by_cases hk:Key k
 ·rw[yY hk,yX (by decide),yW hk,Ztj,ya,Ztk (by decide) (by simp) (by
   intro l hl;simp only[yae,yap,or_false] at hl;rcases hl with rfl|rfl
   ·exact ybl (Nat.le_of_eq (Xq _)) (by decide)
   ·omega),ya,Zy9 (Sha.ZR0 _),ya]
  unfold Zb2;rw[Zy3,ya,Zzd,ZNg _ (ZRS _),ya,Zy3,ya,ZNh _ _ hm,ya,ZOH,ya,ZOF,ya];rw[Nat.mul_comm];rfl
 ·rw[yZ hk,yW (by decide),yX hk]
theorem ZNj(k:Kit){t:Tx}(hl:TxL t)(hw:ZFL t):∃g,Zg6 yD k t=some g/\QW yD k t=some g:=by
 obtain⟨n,n1,n2,n3⟩:=ZpM hl hw;unfold Zg6 QW;simp only[n1,n2,ya,ZOS _ n3,ZNi _ n3];exact⟨_,rfl,rfl⟩
theorem CmOk.txl{ch:Chan}{c:Commit}(h:CmOk ch c):TxL c.1:=⟨by rw[h.ins];simp,by have:=h.outs;omega,λo ho=>(h.locks o ho).1⟩
theorem CmOk.wf{ch:Chan}{c:Commit}(h:CmOk ch c)(hh:ch.1.1.length=32):ZFL c.1:=⟨λx hx=>by rw[h.ins] at hx;rw[yav.1 hx];exact hh,h.note⟩
theorem ZHI{ch:Chan}(w:ChWf ch)(hh:ch.1.1.length=32){s:yG}(hs:s.2.1.length=2)(own:Int)(per:yU){t:Tx}(hl:TxL t)(hw:ZFL t):∃b,ZeK yD ch s own per t=some b/\Qh yD ch s own per t=some b:=by
 obtain⟨c,e,c1,c2,c3⟩:=ZBm w hs own per;obtain⟨n,n1,n2,_⟩:=ZpM hl hw
 obtain⟨m,m1,m2,_⟩:∃m,ZrG yD c.1=some m/\Wm yD c.1=some m/\m.length=32:=by
  rcases c3 with rfl|h
  ·exact ZpM ⟨by simp[noC],by simp[noC],λo ho=>by cases ho⟩ ⟨λx hx=>(by cases hx),by simp[noC]⟩
  ·exact ZpM h.txl (h.wf hh)
 unfold ZeK Qh;rw[c1,c2,ya,ya];dsimp only;by_cases he:e=0
 ·rw[yW (beq_iff_eq.2 he),yX (by rw[yE];exact λq=>q he)];simp only[m1,m2,n1,n2,ya];exact⟨_,rfl,rfl⟩
 ·rw[yX (by rw[yT];exact he),yW (bne_iff_ne.2 he)];exact⟨_,rfl,rfl⟩
theorem same_set{α:Type}{l:yL α}{k:Nat}{e:α}(h:l[k]? =some e):l.set k e=l:=by
 obtain⟨h1,h2⟩:=List.getElem?_eq_some_iff.1 h;rw[<-h2];exact List.set_getElem_self h1
structure TxF(t:Tx):Prop where
 ins:t.1.length<=70
 outs:t.2.1.length<=70
 sigs:∀x,x∈t.1->x.2.2.1.length<=20
 brs:∀o,o∈t.2.1->o.2.length<=6/\∀b,b∈o.2->b.1.length<=20
theorem TxF.txl{t:Tx}(h:TxF t):TxL t:=⟨h.ins,h.outs,λo ho=>⟨by have:=(h.brs o ho).1;omega,λb hb=>by have:=(h.brs o ho).2 b hb;omega⟩⟩
theorem ZPl{l:yL Zn}(h:l.length<=6):(l=[]/\Xb yD l=some (.inr []))\/(l≠[]/\Xb yD l=some (.inl ([()],l))):=by
 unfold Xb Zem Ze6 ZcP;by_cases e:l=[]
 ·subst e;rw[yW (show([]:yL Zn).isEmpty=true from rfl),yW (ZT (by simp) (by simp))]
  exact .inl ⟨rfl,rfl⟩
 ·have e':¬l.isEmpty=true:=by rw[List.isEmpty_iff];exact e
  rw[yX e',yX e',yW (ZT (by omega) (by omega))];exact .inr ⟨e,rfl⟩
theorem ZPm{l:yL yU}(h:l.length<=20):ZX yD l=some l:=by
 unfold ZX;rw[yW (ZT (by omega) (by omega))]
theorem ZPn{l:yL Sig}(h:l.length<=20):ZcO yD l=some l:=by
 unfold ZcO;rw[yW (ZT (by omega) (by omega))]
theorem ZQY{t:Tx}(h:TxF t)(n:Int)(z:Tx)(u:yL Unit)(x:yL In):Zb (Wz yD) yD ((t.2.1.length:Int),(0:Int),n,z,u,x,[()],t.2.1)=some (n,z,u,x,[()],t.2.1):=by
 have h70:=h.outs;refine Zt t.2.1.length (λk:Nat=>((t.2.1.length:Int),(k:Int),n,z,u,x,[()],t.2.1)) ?_ ?_ (by omega)
 ·intro k hk;obtain⟨o,ho,hm⟩:=Zg hk;obtain⟨b1,b2⟩:=h.brs o hm;unfold Wz;dsimp only;rw[yW (ZF hk),yW (ZJ (by omega) (by omega)),yau,ho,ya];rcases ZPl b1 with⟨e,e2⟩|⟨e,e2⟩
  ·rw[e2,ya];dsimp only
   have q:Zb (WT yD) yD ((k:Int),([]:yL Zn),(t.2.1.length:Int),(k:Int),(([]:yL Zn).length:Int),(0:Int),n,z,u,x,[()],t.2.1)=some ((k:Int),([]:yL Zn),(t.2.1.length:Int),(k:Int),n,z,u,x,[()],t.2.1):=by
    refine Zt 0 (λj:Nat=>((k:Int),([]:yL Zn),(t.2.1.length:Int),(k:Int),(([]:yL Zn).length:Int),(j:Int),n,z,u,x,[()],t.2.1)) (λj hj=>absurd hj (by omega)) ?_ (by omega);unfold WT;dsimp only;rw[yX (by simp)]
   rw[q,ya];dsimp only;rw[yW (ZJ (by omega) (by omega)),yau,ho,ya,Zo (by omega),same_set (by rw[ho, <-e])]
  ·rw[e2,ya];dsimp only
   have q:Zb (Wy yD) yD ((k:Int),(t.2.1.length:Int),(k:Int),(o.2.length:Int),(0:Int),n,z,u,x,[()],t.2.1,[()],o.2)=some ((k:Int),(t.2.1.length:Int),(k:Int),n,z,u,x,[()],t.2.1,[()],o.2):=by
    refine Zt o.2.length (λj:Nat=>((k:Int),(t.2.1.length:Int),(k:Int),(o.2.length:Int),(j:Int),n,z,u,x,[()],t.2.1,[()],o.2)) ?_ ?_ (by omega)
    ·intro j hj;obtain⟨b,hb,hbm⟩:=Zg hj;unfold Wy;dsimp only;rw[yW (ZF hj),yW (ZJ (by omega) (by omega)),yau,hb,ya,ZPm (b2 b hbm),ya,yW (ZJ (by omega) (by omega)),ya,Zo (by omega),same_set hb]
    ·unfold Wy;dsimp only;rw[yX (by rw[Zz];decide)]
   rw[q,ya];dsimp only;rw[yW (ZJ (by omega) (by omega)),yau,ho,ya,Zo (by omega),same_set ho]
 ·unfold Wz;dsimp only;rw[yX (by rw[Zz];decide)]
theorem ZQZ{t:Tx}(h:TxF t)(x:yL In)(n:Int)(z:Tx):Zb (XS yD) yD ((t.2.1.length:Int),(0:Int),x,n,z,[()],t.2.1)=some (x,n,z,[()],t.2.1):=by
 have h70:=h.outs;refine Zt t.2.1.length (λk:Nat=>((t.2.1.length:Int),(k:Int),x,n,z,[()],t.2.1)) ?_ ?_ (by omega)
 ·intro k hk;obtain⟨o,ho,hm⟩:=Zg hk;obtain⟨b1,b2⟩:=h.brs o hm;unfold XS;dsimp only;rw[yW (ZF hk),yW (ZJ (by omega) (by omega)),yau,ho,ya];rcases ZPl b1 with⟨e,e2⟩|⟨e,e2⟩
  ·rw[e2,ya];dsimp only
   have q:Zb (XK yD) yD ((k:Int),([]:yL Zn),(t.2.1.length:Int),(k:Int),(([]:yL Zn).length:Int),(0:Int),x,n,z,[()],t.2.1)=some ((k:Int),([]:yL Zn),(t.2.1.length:Int),(k:Int),x,n,z,[()],t.2.1):=by
    refine Zt 0 (λj:Nat=>((k:Int),([]:yL Zn),(t.2.1.length:Int),(k:Int),(([]:yL Zn).length:Int),(j:Int),x,n,z,[()],t.2.1)) (λj hj=>absurd hj (by omega)) ?_ (by omega);unfold XK;dsimp only;rw[yX (by simp)]
   rw[q,ya];dsimp only;rw[yW (ZJ (by omega) (by omega)),yau,ho,ya,Zo (by omega),same_set (by rw[ho, <-e])]
  ·rw[e2,ya];dsimp only
   have q:Zb (YZ yD) yD ((k:Int),(t.2.1.length:Int),(k:Int),(o.2.length:Int),(0:Int),x,n,z,[()],t.2.1,[()],o.2)=some ((k:Int),(t.2.1.length:Int),(k:Int),x,n,z,[()],t.2.1,[()],o.2):=by
    refine Zt o.2.length (λj:Nat=>((k:Int),(t.2.1.length:Int),(k:Int),(o.2.length:Int),(j:Int),x,n,z,[()],t.2.1,[()],o.2)) ?_ ?_ (by omega)
    ·intro j hj;obtain⟨b,hb,hbm⟩:=Zg hj;unfold YZ;dsimp only;rw[yW (ZF hj),yW (ZJ (by omega) (by omega)),yau,hb,ya,ZPm (b2 b hbm),ya,yW (ZJ (by omega) (by omega)),ya,Zo (by omega),same_set hb]
    ·unfold YZ;dsimp only;rw[yX (by rw[Zz];decide)]
   rw[q,ya];dsimp only;rw[yW (ZJ (by omega) (by omega)),yau,ho,ya,Zo (by omega),same_set ho]
 ·unfold XS;dsimp only;rw[yX (by rw[Zz];decide)]
theorem ZRX{t:Tx}(h:TxF t)(n:Int)(z:Tx)(u:yL Unit)(o:yL Out):Zb (Wx yD) yD ((t.1.length:Int),(0:Int),n,z,[()],t.1,u,o)=some (n,z,[()],t.1,u,o):=by
 have h70:=h.ins;refine Zt t.1.length (λk:Nat=>((t.1.length:Int),(k:Int),n,z,[()],t.1,u,o)) ?_ ?_ (by omega)
 ·intro k hk;obtain⟨x,hx,hm⟩:=Zg hk;unfold Wx;dsimp only;rw[yW (ZF hk),yW (ZJ (by omega) (by omega)),yau,hx,ya,ZPn (h.sigs x hm),ya,yW (ZJ (by omega) (by omega)),ya,Zo (by omega),same_set hx]
 ·unfold Wx;dsimp only;rw[yX (by rw[Zz];decide)]
theorem ZRY{t:Tx}(h:TxF t)(o:yL Out)(n:Int)(z:Tx):Zb (XR yD) yD ((t.1.length:Int),(0:Int),o,n,z,[()],t.1)=some (o,n,z,[()],t.1):=by
 have h70:=h.ins;refine Zt t.1.length (λk:Nat=>((t.1.length:Int),(k:Int),o,n,z,[()],t.1)) ?_ ?_ (by omega)
 ·intro k hk;obtain⟨x,hx,hm⟩:=Zg hk;unfold XR;dsimp only;rw[yW (ZF hk),yW (ZJ (by omega) (by omega)),yau,hx,ya,ZPn (h.sigs x hm),ya,yW (ZJ (by omega) (by omega)),ya,Zo (by omega),same_set hx]
 ·unfold XR;dsimp only;rw[yX (by rw[Zz];decide)]
theorem ZOU(n:Int)(z:Tx)(u:yL Unit)(x:yL In):Zb (WU yD) yD ((([]:yL Out).length:Int),(0:Int),([]:yL Out),n,z,u,x)=some (([]:yL Out),n,z,u,x):=by
 refine Zt 0 (λj:Nat=>((([]:yL Out).length:Int),(j:Int),([]:yL Out),n,z,u,x)) (λj hj=>absurd hj (by omega)) ?_ (by omega);unfold WU;dsimp only;rw[yX (by simp)]
theorem ZQ0(n:Int)(z:Tx)(u:yL Unit)(o:yL Out):Zb (WV yD) yD ((([]:yL In).length:Int),(0:Int),([]:yL In),n,z,u,o)=some (([]:yL In),n,z,u,o):=by
 refine Zt 0 (λj:Nat=>((([]:yL In).length:Int),(j:Int),([]:yL In),n,z,u,o)) (λj hj=>absurd hj (by omega)) ?_ (by omega);unfold WV;dsimp only;rw[yX (by simp)]
theorem ZOV(x z:Tx):Zb (WW yD) yD ((([]:yL In).length:Int),(0:Int),x,z)=some (x,z):=by
 refine Zt 0 (λj:Nat=>((([]:yL In).length:Int),(j:Int),x,z)) (λj hj=>absurd hj (by omega)) ?_ (by omega);unfold WW;dsimp only;rw[yX (by simp)]
theorem ZNk(x z:Tx):Zb (WX yD) yD ((([]:yL Out).length:Int),(0:Int),x,z)=some (x,z):=by
 refine Zt 0 (λj:Nat=>((([]:yL Out).length:Int),(j:Int),x,z)) (λj hj=>absurd hj (by omega)) ?_ (by omega);unfold WX;dsimp only;rw[yX (by simp)]
def Ztu(t:Tx)(a b:Sig):Tx:=match t with
 |([],outs,note)=>([],outs,note)
 |(x::r,outs,note)=>((x.1,(0,[a,b],0))::r,outs,note)
theorem ZOW{t:Tx}(h:TxF t)(a b:Sig):Zg2 yD t a b=some (Ztu t a b):=by
 have h70:=h.ins;have h71:=h.outs;obtain⟨ins,outs,note⟩:=t;dsimp only at h70 h71;unfold Zg2 ZcQ;dsimp only;generalize hz:(([]:yL In),([]:yL Out),(0:Int))=z
 cases ins with
 |nil=>
  have hi:Q6 yD ([]:yL In)=some (.inr []):=by
   unfold Q6 Zs3;rw[yW (show([]:yL In).isEmpty=true from rfl),yW (ZT (by simp) (by simp))]
   rfl
  rw[hi,ya];dsimp only
  cases outs with
  |nil=>
   have ho:YF yD ([]:yL Out)=some (.inr []):=by
    unfold YF Zky;rw[yW (show([]:yL Out).isEmpty=true from rfl),yW (ZT (by simp) (by simp))]
    rfl
   rw[ho,ya];dsimp only;rw[ZOV _ _,ya];dsimp only;rw[ZNk _ _,ya,ya];dsimp only;rw[yX (by simp)]
   rfl
  |cons o r=>
   have ho:YF yD (o::r)=some (.inl ([()],o::r)):=by
    unfold YF ZeI Ze7;rw[yX (by simp),yX (by simp),yW (ZT (by omega) (by omega))];rfl
   rw[ho,ya];dsimp only;rw[ZQ0 _ _ _ _,ya];dsimp only;have q:=ZQZ h [] note z;dsimp only at q;rw[q,ya,ya];dsimp only;rw[yX (by simp)]
   rfl
 |cons x l=>
  have hi:Q6 yD (x::l)=some (.inl ([()],x::l)):=by
   unfold Q6 ZlD ZlC;rw[yX (by simp),yX (by simp),yW (ZT (by omega) (by omega))];rfl
  rw[hi,ya];dsimp only
  cases outs with
  |nil=>
   have ho:YF yD ([]:yL Out)=some (.inr []):=by
    unfold YF Zky;rw[yW (show([]:yL Out).isEmpty=true from rfl),yW (ZT (by simp) (by simp))]
    rfl
   rw[ho,ya];dsimp only;have q:=ZRY h [] note z;dsimp only at q;rw[q,ya];dsimp only;rw[ZOU _ _ _ _,ya,ya];dsimp only;rw[yW (yY (by simp)),yW (ZJ (by omega) (by simp)),ybb,ya]
   rfl
  |cons o r=>
   have ho:YF yD (o::r)=some (.inl ([()],o::r)):=by
    unfold YF ZeI Ze7;rw[yX (by simp),yX (by simp),yW (ZT (by omega) (by omega))];rfl
   rw[ho,ya];dsimp only;have q:=ZRX h note z [()] (o::r);dsimp only at q;rw[q,ya];dsimp only;have q:=ZQY h note z [()] (x::l);dsimp only at q;rw[q,ya,ya];dsimp only;rw[yW (yY (by simp)),yW (ZJ (by omega) (by simp)),ybb,ya];rfl
theorem ZNl{t:Tx}(h:TxF t)(a b:Sig):QT yD t a b=some (Ztu t a b):=by
 have h70:=h.ins;obtain⟨ins,outs,note⟩:=t;dsimp only at h70;unfold QT;dsimp only
 cases ins with
 |nil=>
  rw[yW (by decide)]
  rfl
 |cons x l=>
  have hl:l.length<=70:=by simp at h70;omega
  have hd:((x::l).drop 1).length<=70:=hl;rw[yX (by rw[yT];simp;omega),show idx (x::l) (0:Int)=some x from Zp (k:=0) rfl,ya,yW (show Zbp (x::l).length (some (1:Int)) none=true by simp[Zbp];omega),yW (ZT (by omega) (by omega))]
  rfl
theorem ZKn{w:XQ}(hl:w.2.1.length<=1000000):Vr yD w w=some true:=by
 unfold Vr
 have q:=Zt (step:=Yr yD) w.2.1.length (λk:Nat=>((k:Int),w,w)) (x:=.inr (w,w)) (by
  intro k hk;obtain⟨e,he,_⟩:=Zg hk;unfold Yr;dsimp only;rw[yW (ZF hk),Zp he,ya,ya,yX (by simp),Zo (by omega)]) (by
  unfold Yr;dsimp only;rw[yX (by rw[Zz];decide)]) (by omega)
 have q:Zb (Yr yD) yD ((0:Int),w,w)=_:=q;rw[yX (by simp),yX (by simp),yX (by simp),q,ya]
theorem ZHJ{l:ZR}(hl:l.length<=1000000)(hk:∀b,b∈l->b.1.length<=1000000):QR yD l l=some true:=by
 unfold QR
 have q:=Zt (step:=Xi yD) l.length (λk:Nat=>((k:Int),l,l)) (x:=.inr (l,l)) (by
  intro k hk2;obtain⟨e,he,hm⟩:=Zg hk2;have hb:=hk e hm
  have p:=Zt (step:=Xh yD) e.1.length (λj:Nat=>((k:Int),(j:Int),l,l,e,e)) (x:=.inr ((k:Int),l,l,e,e)) (by
   intro j hj;obtain⟨d,hd,_⟩:=Zg hj;unfold Xh;dsimp only;rw[yW (ZF hj),Zp hd,ya,ya,yX (by simp),Zo (by omega)]) (by
   unfold Xh;dsimp only;rw[yX (by rw[Zz];decide)]) (by omega)
  have p:Zb (Xh yD) yD ((k:Int),(0:Int),l,l,e,e)=_:=p;unfold Xi;dsimp only;rw[yW (ZF hk2),Zp he,ya,ya,yX (by simp),yX (by simp),yX (by simp),yX (by simp),p,ya];dsimp only;rw[Zo (by omega)]) (by
  unfold Xi;dsimp only;rw[yX (by rw[Zz];decide)]) (by omega)
 have q:Zb (Xi yD) yD ((0:Int),l,l)=_:=q;rw[yX (by simp),q,ya]
theorem ZrR{t:Tx}(h1:t.1.length<=1000000)(h2:t.2.1.length<=1000000)(h3:∀x,x∈t.1->x.2.2.1.length<=1000000)(h4:∀o,o∈t.2.1->o.2.length<=1000000/\∀b,b∈o.2->b.1.length<=1000000):Wl yD t t=some true:=by
 unfold Wl
 have q:=Zt (step:=Xj yD) t.1.length (λk:Nat=>((k:Int),t,t)) (x:=.inr (t,t)) (by
  intro k hk;obtain⟨e,he,hm⟩:=Zg hk;unfold Xj;dsimp only;rw[yW (ZF hk),Zp he,ya,ya,yX (by simp),ya,ya,ZKn (h3 e hm),ya,yX (by decide),Zo (by omega)]) (by
  unfold Xj;dsimp only;rw[yX (by rw[Zz];decide)]) (by omega)
 have q:Zb (Xj yD) yD ((0:Int),t,t)=_:=q
 have p:=Zt (step:=Xk yD) t.2.1.length (λk:Nat=>((k:Int),t,t)) (x:=.inr (t,t)) (by
  intro k hk;obtain⟨e,he,hm⟩:=Zg hk;obtain⟨g1,g2⟩:=h4 e hm;unfold Xk;dsimp only;rw[yW (ZF hk),Zp he,ya,ya,yX (by simp),ya,ya,ZHJ g1 g2,ya,yX (by decide),Zo (by omega)]) (by
  unfold Xk;dsimp only;rw[yX (by rw[Zz];decide)]) (by omega)
 have p:Zb (Xk yD) yD ((0:Int),t,t)=_:=p;rw[yX (by simp),yX (by simp),yX (by simp),q,ya];dsimp only;rw[p,ya]
theorem ZKo{l:yL Sig}(h:l.length<=1000000):Zg7 yD l l=some true:=by
 unfold Zg7
 have q:=Zt (step:=VA yD) l.length (λk:Nat=>(l,l,(l.length:Int),(k:Int))) (x:=.inr ()) (by
  intro k hk;obtain⟨e,he,_⟩:=Zg hk;unfold VA;dsimp only;rw[yW (ZF hk),Zp he,ya,ya,yX (by simp),Zo (by omega)]) (by
  unfold VA;dsimp only;rw[yX (by rw[Zz];decide)]) (by omega)
 have q:Zb (VA yD) yD (l,l,(l.length:Int),(0:Int))=_:=q;rw[yX (by simp),q,ya]
theorem ZKp{l:yL yU}(h:l.length<=1000000):Zdb yD l l=some true:=by
 unfold Zdb
 have q:=Zt (step:=WI yD) l.length (λk:Nat=>(l,l,(l.length:Int),(k:Int))) (x:=.inr ()) (by
  intro k hk;obtain⟨e,he,_⟩:=Zg hk;unfold WI;dsimp only;rw[yW (ZF hk),Zp he,ya,ya,yX (by simp),Zo (by omega)]) (by
  unfold WI;dsimp only;rw[yX (by rw[Zz];decide)]) (by omega)
 have q:Zb (WI yD) yD (l,l,(l.length:Int),(0:Int))=_:=q;rw[yX (by simp),q,ya]
theorem ZHK{l:yL V1}(h:l.length<=1000000):ZpI yD l l=some true:=by
 unfold ZpI
 have q:=Zt (step:=Za6 yD) l.length (λk:Nat=>(l,l,(l.length:Int),(k:Int))) (x:=.inr ()) (by
  intro k hk;obtain⟨e,he,_⟩:=Zg hk;unfold Za6;dsimp only;rw[yW (ZF hk),Zp he,ya,ya,yX (by simp),Zo (by omega)]) (by
  unfold Za6;dsimp only;rw[yX (by rw[Zz];decide)]) (by omega)
 have q:Zb (Za6 yD) yD (l,l,(l.length:Int),(0:Int))=_:=q;rw[yX (by simp),q,ya]
theorem ZOX{x:In}(h:x.2.2.1.length<=1000000):Zmf yD x x=some true:=by
 unfold Zmf;rw[yW (yY rfl),yW (beq_self_eq_true _),yW (beq_self_eq_true _),ZKo h,ya]
theorem ZOY{x:Zn}(h:x.1.length<=1000000):Zmg yD x x=some true:=by
 unfold Zmg;rw[yW (beq_self_eq_true _),yW (beq_self_eq_true _),yW (beq_self_eq_true _),ZKp h,ya]
theorem ZNm{l:yL Zn}(h:l.length<=1000000)(hk:∀x,x∈l->x.1.length<=1000000):ZbH yD l l=some true:=by
 unfold ZbH
 have q:=Zt (step:=Wn yD) l.length (λk:Nat=>(l,l,(l.length:Int),(k:Int))) (x:=.inr ()) (by
  intro k hk2;obtain⟨e,he,hm⟩:=Zg hk2;unfold Wn;dsimp only;rw[yW (ZF hk2),Zp he,ya,ya,ZOY (hk e hm),ya,yX (by simp),Zo (by omega)]) (by
  unfold Wn;dsimp only;rw[yX (by rw[Zz];decide)]) (by omega)
 have q:Zb (Wn yD) yD (l,l,(l.length:Int),(0:Int))=_:=q;rw[yX (by simp),q,ya]
theorem ZNn{x:Out}(h:x.2.length<=1000000)(hk:∀b,b∈x.2->b.1.length<=1000000):Zmh yD x x=some true:=by
 unfold Zmh;rw[yW (beq_self_eq_true _),ZNm h hk,ya]
theorem ZNo{l:yL In}(h:l.length<=1000000)(hk:∀x,x∈l->x.2.2.1.length<=1000000):Zjh yD l l=some true:=by
 unfold Zjh
 have q:=Zt (step:=Qt yD) l.length (λk:Nat=>(l,l,(l.length:Int),(k:Int))) (x:=.inr ()) (by
  intro k hk2;obtain⟨e,he,hm⟩:=Zg hk2;unfold Qt;dsimp only;rw[yW (ZF hk2),Zp he,ya,ya,ZOX (hk e hm),ya,yX (by simp),Zo (by omega)]) (by
  unfold Qt;dsimp only;rw[yX (by rw[Zz];decide)]) (by omega)
 have q:Zb (Qt yD) yD (l,l,(l.length:Int),(0:Int))=_:=q;rw[yX (by simp),q,ya]
theorem ZKq{l:yL Out}(h:l.length<=1000000)(hk:∀x,x∈l->x.2.length<=1000000/\∀b,b∈x.2->b.1.length<=1000000):Zg8 yD l l=some true:=by
 unfold Zg8
 have q:=Zt (step:=VB yD) l.length (λk:Nat=>(l,l,(l.length:Int),(k:Int))) (x:=.inr ()) (by
  intro k hk2;obtain⟨e,he,hm⟩:=Zg hk2;unfold VB;dsimp only;rw[yW (ZF hk2),Zp he,ya,ya,ZNn (hk e hm).1 (hk e hm).2,ya,yX (by simp),Zo (by omega)]) (by
  unfold VB;dsimp only;rw[yX (by rw[Zz];decide)]) (by omega)
 have q:Zb (VB yD) yD (l,l,(l.length:Int),(0:Int))=_:=q;rw[yX (by simp),q,ya]
theorem ZOZ{t:Tx}(h1:t.1.length<=1000000)(h2:t.2.1.length<=1000000)(h3:∀x,x∈t.1->x.2.2.1.length<=1000000)(h4:∀o,o∈t.2.1->o.2.length<=1000000/\∀b,b∈o.2->b.1.length<=1000000):Zth yD t t=some true:=by
 unfold Zth;rw[yW (beq_self_eq_true _),ZNo h1 h3,ya,yW rfl,ZKq h2 h4,ya]
theorem ZF5{l:yL V1}(h:l.length<=1000000):Qe yD l l=some true:=by
 unfold Qe
 have q:=Zt (step:=YU yD) l.length (λk:Nat=>(l,l,(k:Int))) (x:=.inr ()) (by
  intro k hk;obtain⟨e,he,_⟩:=Zg hk;unfold YU;dsimp only;rw[yW (ZF hk),Zp he,ya,ya,yX (by simp),Zo (by omega)]) (by
  unfold YU;dsimp only;rw[yX (by rw[Zz];decide)]) (by omega)
 have q:Zb (YU yD) yD (l,l,(0:Int))=_:=q;rw[yX (by simp),q,ya]
theorem ZHL{l:ZR}(h:l.length<=1000000)(hk:∀b,b∈l->b.1.length<=1000000):QU yD l l=some true:=by
 unfold QU
 have q:=Zt (step:=Xm yD) l.length (λk:Nat=>((k:Int),l,l)) (x:=.inr (l,l)) (by
  intro k hk2;obtain⟨e,he,hm⟩:=Zg hk2;have hb:=hk e hm
  have p:=Zt (step:=Xl yD) e.1.length (λj:Nat=>((k:Int),(j:Int),l,l,e,e)) (x:=.inr ((k:Int),l,l,e,e)) (by
   intro j hj;obtain⟨d,hd,_⟩:=Zg hj;unfold Xl;dsimp only;rw[yW (ZF hj),Zp hd,ya,ya,yX (by simp),Zo (by omega)]) (by
   unfold Xl;dsimp only;rw[yX (by rw[Zz];decide)]) (by omega)
  have p:Zb (Xl yD) yD ((k:Int),(0:Int),l,l,e,e)=_:=p;unfold Xm;dsimp only;rw[yW (ZF hk2),Zp he,ya,ya,yX (by simp),yX (by simp),yX (by simp),yX (by simp),p,ya];dsimp only;rw[Zo (by omega)]) (by
  unfold Xm;dsimp only;rw[yX (by rw[Zz];decide)]) (by omega)
 have q:Zb (Xm yD) yD ((0:Int),l,l)=_:=q;rw[yX (by simp),q,ya]
theorem ZNp{ch:Chan}{c:Commit}(h:c=noC\/CmOk ch c):QS yD c c=some true/\Zg9 yD c c=some true:=by
 have hb:c.1.1.length<=1000000/\c.1.2.1.length<=1000000/\c.2.length<=1000000/\(∀x,x∈c.1.1->x.2.2.1.length<=1000000)/\∀o,o∈c.1.2.1->o.2.length<=1000000/\∀b,b∈o.2->b.1.length<=1000000:=by
  rcases h with rfl|h
  ·exact⟨by simp[noC],by simp[noC],by simp[noC],λx hx=>(by cases hx),λo ho=>by cases ho⟩
  ·have ho:=h.outs;have hs:=h.same;refine⟨by rw[h.ins];simp,by omega,by omega,λx hx=> ?_,λo hm=>⟨by have:=(h.locks o hm).2.1;omega,λb hb=>by have:=(h.locks o hm).2.2 b hb;omega⟩⟩;rw[h.ins] at hx;rw[yav.1 hx];simp
 obtain⟨h1,h2,h3,h4,h5⟩:=hb;constructor
 ·unfold QS;rw[ZrR h1 h2 h4 h5,ya,yW rfl,ZF5 h3,ya]
 ·unfold Zg9;rw[ZOZ h1 h2 h4 h5,ya,yW rfl,ZHK h3,ya]
theorem ZNq{t:Tx}(h:TxF t)(a b:Sig):Wl yD (Ztu t a b) (Ztu t a b)=some true:=by
 have h70:=h.ins;have h71:=h.outs;have h72:=h.sigs;have h73:=h.brs;obtain⟨ins,outs,note⟩:=t;dsimp only at h70 h71 h72 h73
 cases ins with
 |nil=>exact ZrR (by simp[Ztu]) (by simp[Ztu];omega) (λx hx=>by simp[Ztu] at hx) (λo ho=>⟨by have:=(h73 o (by simpa[Ztu] using ho)).1;omega,λb hb=>by have:=(h73 o (by simpa[Ztu] using ho)).2 b hb;omega⟩)
 |cons x l=>
  refine ZrR (by simp[Ztu] at h70 ⊢;omega) (by simp[Ztu];omega) (λy hy=> ?_) (λo ho=>⟨by have:=(h73 o (by simpa[Ztu] using ho)).1;omega,λb hb=>by have:=(h73 o (by simpa[Ztu] using ho)).2 b hb;omega⟩);simp only[Ztu,yae] at hy;rcases hy with rfl|hy
  ·simp
  ·have:=h72 y (List.mem_cons_of_mem _ hy);omega
end Go.Proofs.YtdhclndplbopgaaGreat
end
