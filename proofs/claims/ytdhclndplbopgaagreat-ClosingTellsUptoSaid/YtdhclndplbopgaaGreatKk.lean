/- Parts of the proof, in one file. -/
import Derived.Test.YtdhclndplbopgaaGreatKj
open Bool renaming and_eq_true → yi
open Go renaming TypeId → yc, Value → yh
open List renaming getElem?_eq_some_iff → yq, getElem?_eq_getElem → yab, map_cons → yaj, mem_singleton → yam, mem_cons_self → yay, mem_cons_of_mem → yba, append_nil → ybd, mem_cons → ybh, mem_append → ycg
open Nat renaming le_refl → yj, le_trans → ybm
open Option renaming bind_some → ya
set_option linter.unusedVariables false
set_option linter.unusedSimpArgs false
section
set_option maxRecDepth 4000
namespace Go.Proofs.YtdhclndplbopgaaGreat
open Go Go.Ev
noncomputable section
def YO(F:Nat)(v:Zz×yL Kit×yH)(a1:yL yG)(a2:yL Int)(b0:Bool):yO Bool:=
 (v.2.1[1]?).bind λe1=>
 (a1[1]?).bind λe2=>
 (a2[1]?).bind λe3=>
 (YV F v.1 e1 1 v.2.2 e2 e3).bind λo4=>
 match o4 with
 |.inl o5=>
  (v.2.1[1]?).bind λe6=>
  (a1[1]?).bind λe7=>
  (a2[1]?).bind λe8=>
  (ZK F v.1 e6 1 v.2.2 e7 e8).bind λo9=>
  match o9 with
  |.inl o10=>
   if(o5 !=o10)=true then
    some false
   else
   if(!(true==(o5 !=0)))=true then
    some false
   else
   some b0
  |.inr (a,_,_,_,_,_,_,_,_,_)=>
   if(o5 !=a)=true then
    some false
   else
   if(!(true==(o5 !=0)))=true then
    some false
   else
   some b0
 |.inr (b,_,_,_,_,_,_,_,_,_,_,_,_)=>
  (v.2.1[1]?).bind λe11=>
  (a1[1]?).bind λe12=>
  (a2[1]?).bind λe13=>
  (ZK F v.1 e11 1 v.2.2 e12 e13).bind λo14=>
  match o14 with
  |.inl o15=>
   if(b !=o15)=true then
    some false
   else
   if(!(false==(b !=0)))=true then
    some false
   else
   some b0
  |.inr (a,_,_,_,_,_,_,_,_,_)=>
   if(b !=a)=true then
    some false
   else
   if(!(false==(b !=0)))=true then
    some false
   else
   some b0
def YF(F:Nat)(a0:yM)(a1:(yL yG))(a2:(yL Int))(a3:(yL Zu))(a4:yG)(a5:Int):yO (Bool):=
 ((some true)).bind λo1311=>
 (a1[0]?).bind λe1312=>
 (WZ F e1312).bind λo1313=>
 if(!o1313)=true then
  some o1311
 else
 (a1[1]?).bind λe1314=>
 (WZ F e1314).bind λo1315=>
 if(!o1315)=true then
  some o1311
 else
 (WZ F a4).bind λo1316=>
 if(!o1316)=true then
  some o1311
 else
 if(decide ((a3.length:Int) > 20))=true then
  some o1311
 else
 (Zak F a0).bind λo1317=>
 (a1[0]?).bind λe1318=>
 (Yt F o1317.1 o1317.2.2 [e1318,a4] a5).bind λo1319=>
 (a1[0]?).bind λe1320=>
 (YL F o1317.1 o1317.2.2 [e1320,a4] a5).bind λo1321=>
 (YJ F o1319.1 o1321.1).bind λo1322=>
 if(!o1322)=true then
  some false
 else
 if(o1319.2 !=o1321.2)=true then
  some false
 else
 (o1317.2.1[0]?).bind λe1323=>
 (a1[0]?).bind λe1324=>
 (a2[0]?).bind λe1325=>
 (YV F o1317.1 e1323 0 o1317.2.2 e1324 e1325).bind λo1326=>
 match o1326 with
 |.inl o1327=>
  (o1317.2.1[0]?).bind λe1328=>
  (a1[0]?).bind λe1329=>
  (a2[0]?).bind λe1330=>
  (ZK F o1317.1 e1328 0 o1317.2.2 e1329 e1330).bind λo1331=>
  match o1331 with
  |.inl o1332=>
   if(o1327 !=o1332)=true then
    some false
   else
   if(!(true==(o1327 !=0)))=true then
    some false
   else
   YO F o1317 a1 a2 o1311
  |.inr (c,_,_,_,_,_,_,_,_,_)=>
   if(o1327 !=c)=true then
    some false
   else
   if(!(true==(o1327 !=0)))=true then
    some false
   else
   YO F o1317 a1 a2 o1311
 |.inr (K,L,M,N,O,P,Q,R,S,T,U,V,W)=>
  (o1317.2.1[0]?).bind λe1371=>
  (a1[0]?).bind λe1372=>
  (a2[0]?).bind λe1373=>
  (ZK F o1317.1 e1371 0 o1317.2.2 e1372 e1373).bind λo1374=>
  match o1374 with
  |.inl o1375=>
   if(K !=o1375)=true then
    some false
   else
   if(!(false==(K !=0)))=true then
    some false
   else
   YO F o1317 a1 a2 o1311
  |.inr (z,A,B,C,D,E,G,H,I,J)=>
   if(K !=z)=true then
    some false
   else
   if(!(false==(K !=0)))=true then
    some false
   else
   (o1317.2.1[1]?).bind λe1395=>
   (a1[1]?).bind λe1396=>
   (a2[1]?).bind λe1397=>
   (YV F o1317.1 e1395 1 o1317.2.2 e1396 e1397).bind λo1398=>
   match o1398 with
   |.inl o1399=>
    (o1317.2.1[1]?).bind λe1400=>
    (a1[1]?).bind λe1401=>
    (a2[1]?).bind λe1402=>
    (ZK F o1317.1 e1400 1 o1317.2.2 e1401 e1402).bind λo1403=>
    match o1403 with
    |.inl o1404=>
     if(o1399 !=o1404)=true then
      some false
     else
     if(!(true==(o1399 !=0)))=true then
      some false
     else
     some o1311
    |.inr (a,_,_,_,_,_,_,_,_,_)=>
     if(o1399 !=a)=true then
      some false
     else
     if(!(true==(o1399 !=0)))=true then
      some false
     else
     some o1311
   |.inr (l,m,n,o,p,q,r,t,u,v,w,x,y)=>
    (o1317.2.1[1]?).bind λe1407=>
    (a1[1]?).bind λe1408=>
    (a2[1]?).bind λe1409=>
    (ZK F o1317.1 e1407 1 o1317.2.2 e1408 e1409).bind λo1410=>
    match o1410 with
    |.inl o1411=>
     if(l !=o1411)=true then
      some false
     else
     if(!(false==(l !=0)))=true then
      some false
     else
     some o1311
    |.inr (b,c,d,e,f,g,h,i,j,k)=>
     if(l !=b)=true then
      some false
     else
     if(!(false==(l !=0)))=true then
      some false
     else
     (Zb (Z4 F) F (a3,o1311,0,a0,a1,a2,a4,o1317.1,o1317.2.1,o1317.2.2,o1319.1,o1321.1,L,M,N,O,P,Q,R,S,T,U,V,W,A,B,C,D,E,G,H,I,J,m,n,o,p,q,r,t,u,v,w,x,y,c,d,e,f,g,h,i,j,k)).bind λo1572=>
     match o1572 with
     |.inl (a,_,_,_,_,_,_,_,_,_,_,_,_,_,_,_,_,_,_,_,_,_,_,_,_,_,_,_,_,_,_,_,_,_,_,_,_,_,_,_,_,_,_,_,_,_,_,_,_,_,_,_)=>
      some a
     |.inr (a,_,_,_,_,_,_,_,_,_,_,_,_,_,_,_,_,_,_,_,_,_,_,_,_,_,_,_,_,_,_,_,_,_,_,_,_,_,_,_,_,_,_,_,_,_,_,_,_,_,_,_)=>
      some a
def ZhD:Fs Tryz.prog:=⟨4,[.v Zv,.v (.arr 2 Ze),.v (.arr 2 yI),.v (.sl ZB),.v Ze,.v yI],[],[Zv,(.arr 2 Ze),(.arr 2 yI),(.sl ZB),Ze,yI],(zE .bool),λx=>YF yD x.1 x.2.1 x.2.2.1 x.2.2.2.1 x.2.2.2.2.1 x.2.2.2.2.2⟩
theorem ZgA:ZhD.Ok:=Ztx (fi:={ hi:=ZNT,lp:=[(1,Zay)],gh:=[(13,.melt 22),(15,.melt 23)],un:=3}) (specs:={ l:=[ZMa,ZiR,ZgS,Ziq,Va,ZbZ,Zp1,ZiS]}) (okS ⟨ZNR,Zpj,ZfY,Zgp,Qm,Zfz,ZwP,Zpk,ytt⟩) ⟨Zd6,ytt⟩
end
end Go.Proofs.YtdhclndplbopgaaGreat
end
section
set_option maxRecDepth 4000
namespace Go.Proofs.YtdhclndplbopgaaGreat
open Go Go.Ev
theorem ZGe{α:Type}{l:yL α}(h:l≠[])(n:Nat):∃e,idx l (Int.tmod (n:Int) (l.length:Int))=some e/\e∈l:=by
 have hl:0 < l.length:=List.length_pos_iff.2 h;rw[<-Int.ofNat_tmod];have hm:=Nat.mod_lt n hl;refine⟨l[n % l.length],Zq (yab hm),List.getElem_mem hm⟩
section
variable{A:Int}{k0 k1:Kit}{op:Int}{s:yH}{h0 h1:Int}
theorem ZGf{me:Int}{own:yG}(g:LockOk own){lk:yL yG}{fee:Int}{zB hd:yL Msg}(iv:Iv op h0 h1 me own lk fee zB hd)(k kp:Kit)(m:Msg)(sg:Sig):(tkF op h0 h1 me k kp own m lk fee sg zB hd).1.length<=1000000:=by
 have:=iv.sd.len;unfold tkF;split
 ·split
  ·simp
  ·split
   ·simp
   ·split
    ·simp
    ·have:=(iv.sd.said2 op me (if 1 - me=op then rat m else fee) g (sgn k (clT op h0 h1 (lkp me own (rdF (byt m)).1) (if 1 - me=op then rat m else fee)))).len
     dsimp only;omega
 ·split
  ·split
   ·simp
   ·split <;> simp
  ·simp
theorem ZGg(z:Cz A k0 k1 op s h0 h1){me:Int}(hme:me=0\/me=1){own:yG}(g:LockOk own/\LockPt own){lk:yL yG}{fee:Int}{zB hd:yL Msg}(iv:Iv op h0 h1 me own lk fee zB hd)(k:Kit)(sg:Sig):
 YJ yD (dnF op h0 h1 me k lk fee sg hd).1 (dnF op h0 h1 me k lk fee sg hd).1=some true:=by
 unfold dnF;by_cases hn:fnd hd 13=none
 ·rw[yW hn];exact Zmn (by simp) (by simp) (by simp) (by simp)
 ·rw[yX hn];have hne:=HdOk.ne13 hn;obtain⟨l',rfl,hl'⟩:=iv.lk;obtain⟨f0,f1⟩:=iv.fe (.inr hne);obtain⟨r,o,c1,_⟩:=z.made hme g (hl' hne) f0 f1;rw[c1];have hl:=o.len;refine Zmn (by simp) (by show r.length<=_;omega) (λx hx=> ?_) (λx hx=> ?_)
  ·rw[yam.1 hx];dsimp only;split <;> simp
  ·obtain⟨_,_,q1,q2⟩:=o.out x hx;have:=q1.2.1;exact⟨by omega,λb hb=>by have:=(q1.2.2 b hb).1;omega⟩
def ZxF(op h0 h1:Int)(s:yH)(A:Int)(k0 k1:Kit)(l0 l1:yG)(zP:yL Zu)(P:yM)(to:yL yG)(fees:yL Int)(zO:yG)(ks:yL Kit)(t u:Tx)(i:Int)(q:ZC9):Prop:=
 ∃alk afe asg asd ahd blk bfe bsg bsd bhd,q=(zP,true,i,P,to,fees,zO,Zo A k0 k1 op,ks,s,t,u,Zo A k0 k1 op,Z3 k0 k1 0,(0:Int),s.1,s.2.1,s.2.2.2,alk,afe,asg,([]:yL Cond),asd,ahd,Zo A k0 k1 op,Z3 k0 k1 0,(0:Int),s,alk,afe,asg,asd,ahd,Zo A k0 k1 op,Z3 k0 k1 1,(1:Int),s.1,s.2.1,s.2.2.2,blk,bfe,bsg,([]:yL Cond),bsd,bhd,Zo A k0 k1 op,Z3 k0 k1 1,(1:Int),s,blk,bfe,bsg,bsd,bhd)/\Iv op h0 h1 0 l0 alk afe asd ahd/\Iv op h0 h1 1 l1 blk bfe bsd bhd
theorem ZMd(z:Cz A k0 k1 op s h0 h1){l0 l1:yG}(g0:LockOk l0/\LockPt l0)(g1:LockOk l1/\LockPt l1){zP:yL Zu}(P:yM)(to:yL yG)(fees:yL Int)(zO:yG)(ks:yL Kit)(t u:Tx)(e:Zu){j:Nat}(hl:j < 20){m:Msg}(hbm:(byt m).length<=2000000)
 {alk:yL yG} {afe:Int} {asg:Sig} {asd ahd:yL Msg} {blk:yL yG} {bfe:Int} {bsg:Sig} {bsd bhd:yL Msg} (ia:Iv op h0 h1 0 l0 alk afe asd ahd) (ib:Iv op h0 h1 1 l1 blk bfe bsd bhd):
 ∃q,Zr yD (.inr (.inr (zP,true,(j:Int),(0:Int),P,to,fees,zO,Zo A k0 k1 op,ks,s,t,u,Zo A k0 k1 op,Z3 k0 k1 0,(0:Int),s.1,s.2.1,s.2.2.2,alk,afe,asg,([]:yL Cond),asd,ahd,Zo A k0 k1 op,Z3 k0 k1 0,(0:Int),s,alk,afe,asg,asd,ahd,Zo A k0 k1 op,Z3 k0 k1 1,(1:Int),s.1,s.2.1,s.2.2.2,blk,bfe,bsg,([]:yL Cond),bsd,bhd,Zo A k0 k1 op,Z3 k0 k1 1,(1:Int),s,blk,bfe,bsg,bsd,bhd,e,m)))=some (.inl q)/\ZxF op h0 h1 s A k0 k1 l0 l1 zP P to fees zO ks t u (j+1:Nat) q:=by
 unfold Zr;dsimp only;rw[yW (by rfl)];rw[ZC3 z (.inl rfl) g0 ia hbm asg,ya];dsimp only;rw[ZC7 z (.inl rfl) g0 ia hbm asg,ya];dsimp only;have iv:=ZMc z (.inl rfl) g0 ia (Z3 k0 k1 0) (Z3 k0 k1 (1 - 0)) m asg;have hml:=ZGf g0.1 ia (Z3 k0 k1 0) (Z3 k0 k1 (1 - 0)) m asg;generalize tkF op h0 h1 0 (Z3 k0 k1 0) (Z3 k0 k1 (1 - 0)) l0 m alk afe asg asd ahd=T at iv hml ⊢;obtain⟨r,er,tlk,tfe,tsg,tsd,thd⟩:=T;dsimp only at iv hml ⊢;have hds:=ZGg z (.inl rfl) g0 iv (Z3 k0 k1 0) tsg;have htl:=iv.sd.len;rw[ZGd z (.inl rfl) g0 iv tsg,ya];dsimp only;rw[ZC8 z (.inl rfl) g0 iv tsg,ya];dsimp only;rw[hds,ya,Ze1 hml,ya,yX (by decide),yX (by simp),yX (by decide),yX (by simp),Zr6 iv.sd,ya];dsimp only;rw[ZhL (by omega),ya];dsimp only;rw[Ze1 (by omega),ya,yX (by decide),Zn (by omega)];exact⟨_,rfl,tlk,tfe,tsg,tsd,thd,blk,bfe,bsg,bsd,bhd,rfl,iv,ib⟩
theorem ZO4(z:Cz A k0 k1 op s h0 h1){l0 l1:yG}(g0:LockOk l0/\LockPt l0)(g1:LockOk l1/\LockPt l1){zP:yL Zu}(P:yM)(to:yL yG)(fees:yL Int)(zO:yG)(ks:yL Kit)(t u:Tx)(e:Zu){j:Nat}(hl:j < 20){m:Msg}(hbe:e.2.2.2.2.1.length<=1048576)(hbm:(byt m).length<=2000000)
 {alk:yL yG} {afe:Int} {asg:Sig} {asd ahd:yL Msg} {blk:yL yG} {bfe:Int} {bsg:Sig} {bsd bhd:yL Msg} (ia:Iv op h0 h1 0 l0 alk afe asd ahd) (ib:Iv op h0 h1 1 l1 blk bfe bsd bhd):
 ∃q,((Z2 yD (zP,true,(j:Int),(0:Int),bsd,P,to,fees,zO,Zo A k0 k1 op,ks,s,t,u,Zo A k0 k1 op,Z3 k0 k1 0,(0:Int),s.1,s.2.1,s.2.2.2,alk,afe,asg,([]:yL Cond),asd,ahd,Zo A k0 k1 op,Z3 k0 k1 0,(0:Int),s,alk,afe,asg,asd,ahd,Zo A k0 k1 op,Z3 k0 k1 1,(1:Int),s.1,s.2.1,s.2.2.2,blk,bfe,bsg,([]:yL Cond),bsd,bhd,Zo A k0 k1 op,Z3 k0 k1 1,(1:Int),s,blk,bfe,bsg,bsd,bhd,e,m)).bind λo=>Zr yD o)=some (.inl q)/\ZxF op h0 h1 s A k0 k1 l0 l1 zP P to fees zO ks t u (j+1:Nat) q:=by
 have hla:=ia.sd.len;have hlb:=ib.sd.len;unfold Z2;dsimp only;by_cases d0:(bits .and .i64 e.1 3==0)=true
 ·rw[yW d0,yW (by rfl),ZC4 (.inl rfl) g0 ia,ya];dsimp only;rw[Zs9 (.inl rfl) g0 ia,ya];dsimp only;have iv:=ZKk g0.1 ia;have:=iv.sd.len;rw[Ze1 (by omega),ya,yX (by decide),ya];unfold Zr;dsimp only;rw[Zn (by omega)];exact⟨_,rfl,alk,afe,asg,_,ahd,blk,bfe,bsg,bsd,bhd,rfl,iv,ib⟩
 ·rw[yX d0]
  have two:∃q,((if((bsd.length:Int)==0)=true then some (.inr (.inl (zP,true,(j:Int),P,to,fees,zO,Zo A k0 k1 op,ks,s,t,u,Zo A k0 k1 op,Z3 k0 k1 0,(0:Int),s.1,s.2.1,s.2.2.2,alk,afe,asg,([]:yL Cond),asd,ahd,Zo A k0 k1 op,Z3 k0 k1 0,(0:Int),s,alk,afe,asg,asd,ahd,Zo A k0 k1 op,Z3 k0 k1 1,(1:Int),s.1,s.2.1,s.2.2.2,blk,bfe,bsg,([]:yL Cond),bsd,bhd,Zo A k0 k1 op,Z3 k0 k1 1,(1:Int),s,blk,bfe,bsg,bsd,bhd,e,m))) else if((bsd.length:Int)!=0)=true then(idx bsd (Int.tmod (e.2.2.1.toNat:Int) (bsd.length:Int))).bind λx=>some (.inr (.inr (zP,true,(j:Int),(0:Int),P,to,fees,zO,Zo A k0 k1 op,ks,s,t,u,Zo A k0 k1 op,Z3 k0 k1 0,(0:Int),s.1,s.2.1,s.2.2.2,alk,afe,asg,([]:yL Cond),asd,ahd,Zo A k0 k1 op,Z3 k0 k1 0,(0:Int),s,alk,afe,asg,asd,ahd,Zo A k0 k1 op,Z3 k0 k1 1,(1:Int),s.1,s.2.1,s.2.2.2,blk,bfe,bsg,([]:yL Cond),bsd,bhd,Zo A k0 k1 op,Z3 k0 k1 1,(1:Int),s,blk,bfe,bsg,bsd,bhd,e,x))) else none:yO (dT8⊕dT9⊕ZLL)).bind λo=>Zr yD o)=some (.inl q)/\ZxF op h0 h1 s A k0 k1 l0 l1 zP P to fees zO ks t u (j+1:Nat) q:=by
   by_cases hz:bsd=[]
   ·rw[yW (by rw[hz];rfl),ya];unfold Zr;dsimp only;rw[Zn (by omega)];exact⟨_,rfl,alk,afe,asg,asd,ahd,blk,bfe,bsg,bsd,bhd,rfl,ia,ib⟩
   ·have hz2:(bsd.length:Int)≠0:=λh=>hz (List.length_eq_zero_iff.1 (by omega));rw[yX (by rw[yT];exact hz2),yW (bne_iff_ne.2 hz2)];obtain⟨x,hx,hmm⟩:=ZGe hz e.2.2.1.toNat
    rw[hx,ya,ya];exact ZMd z g0 g1 P to fees zO ks t u e hl (by have:=ib.sd.byt x hmm;omega) ia ib
  by_cases d1:(bits .and .i64 e.1 3==1)=true
  ·rw[yW d1];exact two
  ·rw[yX d1];by_cases d2:(bits .and .i64 e.1 3==2)=true
   ·rw[yW d2];exact two
   ·rw[yX d2,ya];exact ZMd z g0 g1 P to fees zO ks t u e hl hbm ia ib
theorem ZMe(z:Cz A k0 k1 op s h0 h1){l0 l1:yG}(g0:LockOk l0/\LockPt l0)(g1:LockOk l1/\LockPt l1){zP:yL Zu}(P:yM)(to:yL yG)(fees:yL Int)(zO:yG)(ks:yL Kit)(t u:Tx)(e:Zu){j:Nat}(hl:j < 20){m:Msg}(hbm:(byt m).length<=2000000)
 {alk:yL yG} {afe:Int} {asg:Sig} {asd ahd:yL Msg} {blk:yL yG} {bfe:Int} {bsg:Sig} {bsd bhd:yL Msg} (ia:Iv op h0 h1 0 l0 alk afe asd ahd) (ib:Iv op h0 h1 1 l1 blk bfe bsd bhd):
 ∃q,Zr yD (.inr (.inr (zP,true,(j:Int),(1:Int),P,to,fees,zO,Zo A k0 k1 op,ks,s,t,u,Zo A k0 k1 op,Z3 k0 k1 0,(0:Int),s.1,s.2.1,s.2.2.2,alk,afe,asg,([]:yL Cond),asd,ahd,Zo A k0 k1 op,Z3 k0 k1 0,(0:Int),s,alk,afe,asg,asd,ahd,Zo A k0 k1 op,Z3 k0 k1 1,(1:Int),s.1,s.2.1,s.2.2.2,blk,bfe,bsg,([]:yL Cond),bsd,bhd,Zo A k0 k1 op,Z3 k0 k1 1,(1:Int),s,blk,bfe,bsg,bsd,bhd,e,m)))=some (.inl q)/\ZxF op h0 h1 s A k0 k1 l0 l1 zP P to fees zO ks t u (j+1:Nat) q:=by
 unfold Zr;dsimp only;rw[yX (by decide),yW (by rfl)];rw[ZC3 z (.inr rfl) g1 ib hbm bsg,ya];dsimp only;rw[ZC7 z (.inr rfl) g1 ib hbm bsg,ya];dsimp only;have iv:=ZMc z (.inr rfl) g1 ib (Z3 k0 k1 1) (Z3 k0 k1 (1 - 1)) m bsg;have hml:=ZGf g1.1 ib (Z3 k0 k1 1) (Z3 k0 k1 (1 - 1)) m bsg;generalize tkF op h0 h1 1 (Z3 k0 k1 1) (Z3 k0 k1 (1 - 1)) l1 m blk bfe bsg bsd bhd=T at iv hml ⊢;obtain⟨r,er,tlk,tfe,tsg,tsd,thd⟩:=T;dsimp only at iv hml ⊢;have hds:=ZGg z (.inr rfl) g1 iv (Z3 k0 k1 1) tsg;have htl:=iv.sd.len;rw[ZGd z (.inr rfl) g1 iv tsg,ya];dsimp only;rw[ZC8 z (.inr rfl) g1 iv tsg,ya];dsimp only;rw[hds,ya,Ze1 hml,ya,yX (by decide),yX (by simp),yX (by decide),yX (by simp),Zr6 iv.sd,ya];dsimp only;rw[ZhL (by omega),ya];dsimp only;rw[Ze1 (by omega),ya,yX (by decide),Zn (by omega)];exact⟨_,rfl,alk,afe,asg,asd,ahd,tlk,tfe,tsg,tsd,thd,rfl,ia,iv⟩
theorem ZO5(z:Cz A k0 k1 op s h0 h1){l0 l1:yG}(g0:LockOk l0/\LockPt l0)(g1:LockOk l1/\LockPt l1){zP:yL Zu}(P:yM)(to:yL yG)(fees:yL Int)(zO:yG)(ks:yL Kit)(t u:Tx)(e:Zu){j:Nat}(hl:j < 20){m:Msg}(hbe:e.2.2.2.2.1.length<=1048576)(hbm:(byt m).length<=2000000)
 {alk:yL yG} {afe:Int} {asg:Sig} {asd ahd:yL Msg} {blk:yL yG} {bfe:Int} {bsg:Sig} {bsd bhd:yL Msg} (ia:Iv op h0 h1 0 l0 alk afe asd ahd) (ib:Iv op h0 h1 1 l1 blk bfe bsd bhd):
 ∃q,((Z2 yD (zP,true,(j:Int),(1:Int),asd,P,to,fees,zO,Zo A k0 k1 op,ks,s,t,u,Zo A k0 k1 op,Z3 k0 k1 0,(0:Int),s.1,s.2.1,s.2.2.2,alk,afe,asg,([]:yL Cond),asd,ahd,Zo A k0 k1 op,Z3 k0 k1 0,(0:Int),s,alk,afe,asg,asd,ahd,Zo A k0 k1 op,Z3 k0 k1 1,(1:Int),s.1,s.2.1,s.2.2.2,blk,bfe,bsg,([]:yL Cond),bsd,bhd,Zo A k0 k1 op,Z3 k0 k1 1,(1:Int),s,blk,bfe,bsg,bsd,bhd,e,m)).bind λo=>Zr yD o)=some (.inl q)/\ZxF op h0 h1 s A k0 k1 l0 l1 zP P to fees zO ks t u (j+1:Nat) q:=by
 have hla:=ia.sd.len;have hlb:=ib.sd.len;unfold Z2;dsimp only;by_cases d0:(bits .and .i64 e.1 3==0)=true
 ·rw[yW d0,yX (by decide),yW (by rfl),ZC4 (.inr rfl) g1 ib,ya];dsimp only;rw[Zs9 (.inr rfl) g1 ib,ya];dsimp only;have iv:=ZKk g1.1 ib;have:=iv.sd.len;rw[Ze1 (by omega),ya,yX (by decide),ya];unfold Zr;dsimp only;rw[Zn (by omega)];exact⟨_,rfl,alk,afe,asg,asd,ahd,blk,bfe,bsg,_,bhd,rfl,ia,iv⟩
 ·rw[yX d0]
  have two:∃q,((if((asd.length:Int)==0)=true then some (.inr (.inl (zP,true,(j:Int),P,to,fees,zO,Zo A k0 k1 op,ks,s,t,u,Zo A k0 k1 op,Z3 k0 k1 0,(0:Int),s.1,s.2.1,s.2.2.2,alk,afe,asg,([]:yL Cond),asd,ahd,Zo A k0 k1 op,Z3 k0 k1 0,(0:Int),s,alk,afe,asg,asd,ahd,Zo A k0 k1 op,Z3 k0 k1 1,(1:Int),s.1,s.2.1,s.2.2.2,blk,bfe,bsg,([]:yL Cond),bsd,bhd,Zo A k0 k1 op,Z3 k0 k1 1,(1:Int),s,blk,bfe,bsg,bsd,bhd,e,m))) else if((asd.length:Int)!=0)=true then(idx asd (Int.tmod (e.2.2.1.toNat:Int) (asd.length:Int))).bind λx=>some (.inr (.inr (zP,true,(j:Int),(1:Int),P,to,fees,zO,Zo A k0 k1 op,ks,s,t,u,Zo A k0 k1 op,Z3 k0 k1 0,(0:Int),s.1,s.2.1,s.2.2.2,alk,afe,asg,([]:yL Cond),asd,ahd,Zo A k0 k1 op,Z3 k0 k1 0,(0:Int),s,alk,afe,asg,asd,ahd,Zo A k0 k1 op,Z3 k0 k1 1,(1:Int),s.1,s.2.1,s.2.2.2,blk,bfe,bsg,([]:yL Cond),bsd,bhd,Zo A k0 k1 op,Z3 k0 k1 1,(1:Int),s,blk,bfe,bsg,bsd,bhd,e,x))) else none:yO (dT8⊕dT9⊕ZLL)).bind λo=>Zr yD o)=some (.inl q)/\ZxF op h0 h1 s A k0 k1 l0 l1 zP P to fees zO ks t u (j+1:Nat) q:=by
   by_cases hz:asd=[]
   ·rw[yW (by rw[hz];rfl),ya];unfold Zr;dsimp only;rw[Zn (by omega)];exact⟨_,rfl,alk,afe,asg,asd,ahd,blk,bfe,bsg,bsd,bhd,rfl,ia,ib⟩
   ·have hz2:(asd.length:Int)≠0:=λh=>hz (List.length_eq_zero_iff.1 (by omega));rw[yX (by rw[yT];exact hz2),yW (bne_iff_ne.2 hz2)];obtain⟨x,hx,hmm⟩:=ZGe hz e.2.2.1.toNat
    rw[hx,ya,ya];exact ZMe z g0 g1 P to fees zO ks t u e hl (by have:=ia.sd.byt x hmm;omega) ia ib
  by_cases d1:(bits .and .i64 e.1 3==1)=true
  ·rw[yW d1];exact two
  ·rw[yX d1];by_cases d2:(bits .and .i64 e.1 3==2)=true
   ·rw[yW d2];exact two
   ·rw[yX d2,ya];exact ZMe z g0 g1 P to fees zO ks t u e hl hbm ia ib
theorem ZLP(z:Cz A k0 k1 op s h0 h1){l0 l1:yG}(g0:LockOk l0/\LockPt l0)(g1:LockOk l1/\LockPt l1){zP:yL Zu}(P:yM)(to:yL yG)(fees:yL Int)(zO:yG)(ks:yL Kit)(t u:Tx){j:Nat}(hj:j < zP.length)(hl:zP.length<=20)(hb:∀e,e∈zP->e.2.2.2.2.1.length<=1048576){q:ZC9}(hq:ZxF op h0 h1 s A k0 k1 l0 l1 zP P to fees zO ks t u j q):
 ∃q',Z4 yD q=some (.inl q')/\ZxF op h0 h1 s A k0 k1 l0 l1 zP P to fees zO ks t u (j+1:Nat) q':=by
 obtain⟨alk,afe,asg,asd,ahd,blk,bfe,bsg,bsd,bhd,rfl,ia,ib⟩:=hq;obtain⟨e,he,hm⟩:=Zk hj;have hbe:=hb e hm;have hla:=ia.sd.len;have hlb:=ib.sd.len
 have hw:((e.2.1 % 2).toNat:Int)=0\/((e.2.1 % 2).toNat:Int)=1:=by
  rw[UInt8.toNat_mod];have:e.2.1.toNat % (2:yB).toNat < 2:=Nat.mod_lt _ (by decide);omega
 unfold Z4;dsimp only;rw[yW (ZV hj),Zq he,ya];have hbe2:(byt (e.2.2.2.1,0,0,(0,0,0,0,0),0,[],e.2.2.2.2.2.1,e.2.2.2.2.2.2,yzz,0,([],[],0),(0,0,0,0,0),(0,0,0,0,0,0),e.2.2.2.2.1)).length<=2000000:=by show e.2.2.2.2.1.length<=_;omega
 rcases hw with hw|hw
 ·rw[yW (beq_iff_eq.2 hw),Zr6 ib.sd,ya];dsimp only;exact ZO4 z g0 g1 P to fees zO ks t u e (by omega) hbe hbe2 ia ib
 ·rw[yX (by rw[hw];decide),yW (beq_iff_eq.2 hw),Zr6 ia.sd,ya];dsimp only;exact ZO5 z g0 g1 P to fees zO ks t u e (by omega) hbe hbe2 ia ib
theorem ZLQ(z:Cz A k0 k1 op s h0 h1){l0 l1:yG}(g0:LockOk l0/\LockPt l0)(g1:LockOk l1/\LockPt l1){zP:yL Zu}(P:yM)(to:yL yG)(fees:yL Int)(zO:yG)(ks:yL Kit)(t u:Tx)(hl:zP.length<=20)(hb:∀e,e∈zP->e.2.2.2.2.1.length<=1048576){q:ZC9}(hq:ZxF op h0 h1 s A k0 k1 l0 l1 zP P to fees zO ks t u 0 q):
 ∃x:ZxE,Zb (Z4 yD) yD q=some (.inr x)/\x.1=true:=by
 obtain⟨x,h1,h2⟩:=Ym (step:=Z4 yD) zP.length (λk q=>ZxF op h0 h1 s A k0 k1 l0 l1 zP P to fees zO ks t u (k:Int) q) (λx=>∃y:ZxE,x=.inr y/\y.1=true) (i:=q) hq (by omega) (by
  intro k q hk hq;exact .inl (ZLP z g0 g1 P to fees zO ks t u hk hl hb hq)) (by
  rintro q ⟨alk,afe,asg,asd,ahd,blk,bfe,bsg,bsd,bhd,rfl,ia,ib⟩;unfold Z4;dsimp only;rw[yX (by rw[ZH];decide)];exact⟨_,rfl,_,rfl,rfl⟩)
 obtain⟨y,rfl,h3⟩:=h2;exact⟨y,h1,h3⟩
theorem ZLR(c:ChOk A k0 k1 op)(hs:StIn A s h0 h1)(hc:hav op h0 h1 >= cost s.2.2.2 s.2.2.1.length)(l0 l1:yG)(fee:Int):YJ yD (mkF op h0 h1 s.2.2.1 l0 l1 fee).1 (mkF op h0 h1 s.2.2.1 l0 l1 fee).1=some true:=by
 have no:∀e:Int,YJ yD ((([],[],0),e):Tx×Int).1 ((([],[],0),e):Tx×Int).1=some true:=λe=>Zmn (by simp) (by simp) (by simp) (by simp);by_cases hn:s.2.2.1=[]
 ·by_cases q0:LockOk l0/\LockPt l0
  ·by_cases q1:LockOk l1/\LockPt l1
   ·by_cases f:52<=fee/\fee<=hav op h0 h1
    ·obtain⟨r,e,o⟩:=Cz.good ⟨c,hs,hc,hn⟩ q0 q1 f.1 f.2;rw[hn,e];have hl:=o.len;refine Zmn (by show 1<=_;omega) (by show r.length<=_;omega) (λx hx=>by rw[yam.1 hx];simp) (λx hx=> ?_);obtain⟨_,_,p1,p2⟩:=o.out x hx;have:=p1.2.1;exact⟨by omega,λb hb=>by have:=(p1.2.2 b hb).1;omega⟩
    ·unfold mkF;rw[yX (λh=>h hn),yX (by rintro(h|h);exact h q0;exact h q1),yW f];exact no _
   ·unfold mkF;rw[yX (λh=>h hn),yW (.inr q1)];exact no _
  ·unfold mkF;rw[yX (λh=>h hn),yW (.inl q0)];exact no _
 ·unfold mkF;rw[yW hn];exact no _
end
theorem Zw4{A:Int}{k0 k1:Kit}{op:Int}{s:yH}{h0 h1:Int}(h:ChOk A k0 k1 op)(hs:StIn A s h0 h1)(hc:hav op h0 h1 >= cost s.2.2.2 s.2.2.1.length){me:Int}(hme:me=0\/me=1){l:yG}(hl:Ze0 l)(fee:Int):
 (∃e:Int,e≠0/\YV yD (Zo A k0 k1 op) (Z3 k0 k1 me) me s l fee=some (.inl e)/\ZK yD (Zo A k0 k1 op) (Z3 k0 k1 me) me s l fee=some (.inl e))\/
 (s.2.2.1=[]/\(LockOk l/\LockPt l)/\Iv op h0 h1 me l (([([]:yG),([]:yG)]:yL yG).set me.toNat l) fee [] []/\
   YV yD (Zo A k0 k1 op) (Z3 k0 k1 me) me s l fee=some (.inr (0,Zo A k0 k1 op,Z3 k0 k1 me,me,s.1,s.2.1,s.2.2.2,([([]:yG),([]:yG)]:yL yG).set me.toNat l,fee,((0:yU),(0:yU)),([]:yL Cond),([]:yL Msg),([]:yL Msg)))/\
   ZK yD (Zo A k0 k1 op) (Z3 k0 k1 me) me s l fee=some (.inr (0,Zo A k0 k1 op,Z3 k0 k1 me,me,s,([([]:yG),([]:yG)]:yL yG).set me.toNat l,fee,((0:yU),(0:yU)),([]:yL Msg),([]:yL Msg)))):=by
 obtain⟨r,_,q,n⟩:=ZNU h hs hc hme hl fee;have m:=ZLO h hs hc hme hl fee q;rw[n,m];by_cases c0:r=false
 ·rw[yW c0,yW c0];exact .inl ⟨1,by decide,rfl,rfl⟩
 rw[yX c0,yX c0];by_cases c1:s.2.2.1=[]
 ·have hnn:¬(s.2.2.1≠[]):=λh=>h c1;rw[yX hnn,yX hnn];by_cases c2:Zm8 op h0 h1 me fee=false
  ·rw[yW c2,yW c2];exact .inl ⟨13,by decide,rfl,rfl⟩
  rw[yX c2,yX c2];rw[Bool.not_eq_false] at c0 c2;have hk:([([]:yG),([]:yG)]:yL yG).set me.toNat l=lkp me l []:=by rcases hme with rfl|rfl <;> rfl
  exact .inr ⟨c1,q.1 c0,⟨⟨[],hk,λh=>absurd rfl h⟩,λh=>h.elim (λh=>ZKj c2 h) (λh=>absurd rfl h),.inl rfl,.inl rfl⟩,rfl,rfl⟩
 ·rw[yW c1,yW c1];exact .inl ⟨14,by decide,rfl,rfl⟩
theorem ZO6{A:Int}{k0 k1:Kit}{op:Int}{s:yH}{h0 h1:Int}(h:ChOk A k0 k1 op)(hs:StIn A s h0 h1)(hc:hav op h0 h1 >= cost s.2.2.2 s.2.2.1.length){l1:yG}(hl:Ze0 l1)(l0:yG)(f0 f1:Int):
 YO yD (Zo A k0 k1 op,[k0,k1],s) [l0,l1] [f0,f1] true=some true:=by
 have i1:∀{α:Type}(a b:α),([a,b]:yL α)[(1:Nat)]? =some b:=λa b=>rfl;unfold YO;dsimp only;simp only[i1,ya];rcases Zw4 h hs hc (.inr rfl) hl f1 with⟨x1,y1,n1,m1⟩|⟨ec,g1,ib,n1,m1⟩
 ·rw[show YV yD (Zo A k0 k1 op) k1 1 s l1 f1=some (.inl x1) from n1,ya]
  dsimp only;rw[show ZK yD (Zo A k0 k1 op) k1 1 s l1 f1=some (.inl x1) from m1,ya]
  dsimp only;rw[yX (by simp),yX (by simp[y1])]
 ·rw[show YV yD (Zo A k0 k1 op) k1 1 s l1 f1=_ from n1,ya]
  dsimp only;rw[show ZK yD (Zo A k0 k1 op) k1 1 s l1 f1=_ from m1,ya]
  dsimp only;rw[yX (by decide),yX (by decide)]
theorem ZHA{p:yM}(hp:PlayOk p)(l0 l1:yG)(f0 f1:Int){zP:yL Zu}(hb:∀e,e∈zP->e.2.2.2.2.1.length<=1048576)(zO:yG)(fee:Int):
 YF yD p [l0,l1] [f0,f1] zP zO fee=some true:=by
 obtain⟨A,k0,k1,op,s,e1,e2,⟨h0,h1,hs,hc⟩,_⟩:=made hp;obtain⟨b0,w0,v0⟩:=ZEJ l0;obtain⟨b1,w1,v1⟩:=ZEJ l1;obtain⟨b2,w2,v2⟩:=ZEJ zO;have i0:∀{α:Type}(a b:α),([a,b]:yL α)[(0:Nat)]? =some a:=λa b=>rfl;have i1:∀{α:Type}(a b:α),([a,b]:yL α)[(1:Nat)]? =some b:=λa b=>rfl;unfold YF;rw[ya,i0,ya,w0,ya]
 cases b0 with
 |false=>rw[yW (by decide)]
 |true=>
 rw[yX (by decide),i1,ya,w1,ya]
 cases b1 with
 |false=>rw[yW (by decide)]
 |true=>
 rw[yX (by decide),w2,ya]
 cases b2 with
 |false=>rw[yW (by decide)]
 |true=>
 rw[yX (by decide)];by_cases hl:(zP.length:Int) > 20
 ·rw[yW (yY hl)]
 rw[yX (by rw[yN];exact hl),e1,ya];dsimp only;rw[i0,ya,Zr2 e2 hs hc (v0 rfl) (v2 rfl),ya,ya,Zs6 e2 hs hc (v0 rfl) (v2 rfl),ya,ZLR e2 hs hc,ya,yX (by decide),yX (by simp)];rw[i0,i1,i1,ya,ya,ya];rcases Zw4 e2 hs hc (.inl rfl) (v0 rfl) f0 with⟨x0,y0,n0,m0⟩|⟨ec,g0,ia,n0,m0⟩
 ·rw[show YV yD (Zo A k0 k1 op) k0 0 s l0 f0=some (.inl x0) from n0,ya]
  dsimp only;rw[ya,ya,ya,show ZK yD (Zo A k0 k1 op) k0 0 s l0 f0=some (.inl x0) from m0,ya]
  dsimp only;rw[yX (by simp),yX (by simp[y0])];exact ZO6 e2 hs hc (v1 rfl) l0 f0 f1
 ·rw[show YV yD (Zo A k0 k1 op) k0 0 s l0 f0=_ from n0,ya]
  dsimp only;rw[ya,ya,ya,show ZK yD (Zo A k0 k1 op) k0 0 s l0 f0=_ from m0,ya]
  dsimp only;rw[yX (by decide),yX (by decide),ya,ya,ya];rcases Zw4 e2 hs hc (.inr rfl) (v1 rfl) f1 with⟨x1,y1,n1,m1⟩|⟨_,g1,ib,n1,m1⟩
  ·rw[show YV yD (Zo A k0 k1 op) k1 1 s l1 f1=some (.inl x1) from n1,ya]
   dsimp only;rw[ya,ya,ya,show ZK yD (Zo A k0 k1 op) k1 1 s l1 f1=some (.inl x1) from m1,ya]
   dsimp only;rw[yX (by simp),yX (by simp[y1])]
  ·rw[show YV yD (Zo A k0 k1 op) k1 1 s l1 f1=_ from n1,ya]
   dsimp only;rw[ya,ya,ya,show ZK yD (Zo A k0 k1 op) k1 1 s l1 f1=_ from m1,ya]
   dsimp only;rw[yX (by decide),yX (by decide)];obtain⟨⟨x,y⟩,q1,rfl⟩:=ZLQ ⟨e2,hs,hc,ec⟩ g0 g1 p [l0,l1] [f0,f1] zO [k0,k1] (mkF op h0 h1 s.2.2.1 l0 zO fee).1 (mkF op h0 h1 s.2.2.1 l0 zO fee).1 (by omega) hb (q:=(zP,true,(0:Int),p,[l0,l1],[f0,f1],zO,Zo A k0 k1 op,[k0,k1],s,(mkF op h0 h1 s.2.2.1 l0 zO fee).1,(mkF op h0 h1 s.2.2.1 l0 zO fee).1,Zo A k0 k1 op,Z3 k0 k1 0,(0:Int),s.1,s.2.1,s.2.2.2,_,f0,(0,0),[],[],[],Zo A k0 k1 op,Z3 k0 k1 0,(0:Int),s,_,f0,(0,0),[],[],Zo A k0 k1 op,Z3 k0 k1 1,(1:Int),s.1,s.2.1,s.2.2.2,_,f1,(0,0),[],[],[],Zo A k0 k1 op,Z3 k0 k1 1,(1:Int),s,_,f1,(0,0),[],[])) ⟨_,f0,(0,0),[],[],_,f1,(0,0),[],[],rfl,ia,ib⟩;rw[q1,ya]
end Go.Proofs.YtdhclndplbopgaaGreat
end
section
namespace Go.Ev
open Go.RowKit Go.WideShapes Go.ChangeShapes
mutual
def Pl.le(N:Nat):Pl->Prop
 |.sl _ _ xs=>xs.length<=N/\Pl.leL N xs
 |.arr _ _ xs=>Pl.leL N xs
 |.agg xs=>Pl.leL N xs
 |_=>True
def Pl.leL(N:Nat):yL Pl->Prop
 |[]=>True
 |x::r=>Pl.le N x/\Pl.leL N r
end
theorem ZAS{N:Nat}:∀{l:yL Pl},(∀y,y∈l->Pl.le N y)->Pl.leL N l
 |[],_=>trivial
 |x::r,h=>⟨h x (yay ..),ZAS λy hy=>h y (yba _ hy)⟩
theorem ZGh{N:Nat}:∀{l:yL Pl},Pl.leL N l->∀y,y∈l->Pl.le N y
 |x::r,h,y,hy=>by
  rcases ybh.1 hy with rfl|hy
  ·exact h.1
  ·exact ZGh h.2 y hy
def ZO7{H:Type}(bk:DataW H->Nat):Prop:=(∀elems yQ,elems.length<=bk (.slice elems yQ)/\∀d,d∈elems->bk d<=bk (.slice elems yQ))/\∀parts,∀d,d∈parts->bk d<=bk (.agg parts)
def Qd{H:Type}(d:DataW H)(x:Pl):Prop:=∀bk:DataW H->Nat,ZO7 bk->∀N,bk d<=N->Pl.le N x
section
variable{H:Type}{enc:yc×yh->H}{P:Program}{w:World}{base:Nat}{sp:Nat->Bool}{held:Bool}
theorem ZDa{e:yc}{n m:Nat}{a:Addr}{s:Nat}(hs:0 < s){elems:yL (DataW H×yL MemPlace)}{len:Nat}(zY:elems.length=len)
 (ih:∀(cs:yL yh)(x:DataW H×yL MemPlace),DataW.trod enc P w base sp held m e cs=some x->cs.length=s->∃pl,wtP P n e pl/\repC w Zz7 pl cs/\Qd x.1 pl)
 (h:∀i,i < len->(w.cells? base (a.add (i*s)) s).bind (DataW.trod enc P w base sp held m e)=elems[i]?):
 ∀k,k<=len->∃(xs:yL Pl)(us:yL yh),xs.length=k/\(∀y,y∈xs->wtP P n e y/\∃z,z∈elems.map (·.1)/\Qd z y)/\allSz s xs/\us.length=k*s/\repCs w Zz7 xs us/\(∀j u,us[j]? =some u->w.cell? (a.add j)=some u)
 |0,_=>⟨[],[],rfl,(λy hy=>by cases hy),(λy hy=>by cases hy),by simp,by simp[repCs],by simp⟩
 |k+1,hk=>by
  obtain⟨xs,us,h1,h2,h3,h4,h5,h6⟩:=ZDa hs zY ih h k (by omega);have hk':=h k (by omega);rw[yab (by omega)] at hk';obtain⟨cs,hc,ht⟩:=Option.bind_eq_some_iff.1 hk';obtain⟨c1,c2⟩:=ZG6 hc;obtain⟨pl,p1,p2,p3⟩:=ih cs _ ht c1;have psz:pl.size=s:=by rw[<-Vt _ _ p2,c1]
  refine⟨xs++[pl],us++cs,by simp[h1],λy hy=> ?_,λy hy=> ?_,by simp[h4,c1,Nat.add_mul],WH h5 (by simpa[repCs] using p2),λj u hu=> ?_⟩
  ·rcases ycg.1 hy with hy|hy
   ·exact h2 y hy
   ·rw[yam.1 hy];exact⟨p1,_,List.mem_map.2 ⟨_,List.getElem_mem _,rfl⟩,p3⟩
  ·rcases ycg.1 hy with hy|hy
   ·exact h3 y hy
   ·rw[yam.1 hy];exact psz
  ·by_cases hj:j < us.length
   ·rw[List.getElem?_append_left hj] at hu;exact h6 j u hu
   ·rw[List.getElem?_append_right (by omega)] at hu;have:=c2 _ _ hu;rw[Addr.add_add] at this;rw[<-this];congr 2;omega
theorem ZyV{e:yc}{n m:Nat}{s:Nat}{cs:yL yh}{elems:yL (DataW H×yL MemPlace)}{len:Nat}(zY:elems.length=len)(hcs:cs.length=len*s)
 (ih:∀(cs:yL yh)(x:DataW H×yL MemPlace),DataW.trod enc P w base sp held m e cs=some x->cs.length=s->∃pl,wtP P n e pl/\repC w Zz7 pl cs/\Qd x.1 pl)
 (h:∀i,i < len->DataW.trod enc P w base sp held m e ((cs.drop (i*s)).take s)=elems[i]?):
 ∀k,k<=len->∃(xs:yL Pl),xs.length=k/\(∀y,y∈xs->wtP P n e y/\∃z,z∈elems.map (·.1)/\Qd z y)/\allSz s xs/\repCs w Zz7 xs (cs.take (k*s))
 |0,_=>⟨[],rfl,(λy hy=>by cases hy),(λy hy=>by cases hy),by simp[repCs]⟩
 |k+1,hk=>by
  obtain⟨xs,h1,h2,h3,h5⟩:=ZyV zY hcs ih h k (by omega);have hk':=h k (by omega);rw[yab (by omega)] at hk';have hle:k*s+s<=len*s:=by rw[<-Nat.succ_mul];exact Nat.mul_le_mul_right _ hk
  have c1:((cs.drop (k*s)).take s).length=s:=by simp;omega
  obtain⟨pl,p1,p2,p3⟩:=ih _ _ hk' c1;have psz:pl.size=s:=by rw[<-Vt _ _ p2,c1]
  refine⟨xs++[pl],by simp[h1],λy hy=> ?_,λy hy=> ?_, ?_⟩
  ·rcases ycg.1 hy with hy|hy
   ·exact h2 y hy
   ·rw[yam.1 hy];exact⟨p1,_,List.mem_map.2 ⟨_,List.getElem_mem _,rfl⟩,p3⟩
  ·rcases ycg.1 hy with hy|hy
   ·exact h3 y hy
   ·rw[yam.1 hy];exact psz
  ·rw[Nat.add_mul,Nat.one_mul,List.take_add];exact WH h5 (by simpa[repCs] using p2)
theorem Zw5{n m:Nat}{cs:yL yh}
 (ih:∀(t:yc),Y3 P n t=true->∀(cs:yL yh)(x:DataW H×yL MemPlace),DataW.trod enc P w base sp held m t cs=some x->∃pl,wtP P n t pl/\repC w Zz7 pl cs/\Qd x.1 pl) {D:yL (DataW H)}:
 ∀(fs:yL Field)(o:Nat),(∀f,f∈fs->Y3 P n f.type=true)->(∀(j:Nat)f,fs[j]? =some f->f.offset=o+((fs.take j).map λf=>P.cellsOf f.type).sum)->
  cs.length=o+(fs.map λf=>P.cellsOf f.type).sum->(∀(j:Nat)f,fs[j]? =some f->∃x,DataW.trod enc P w base sp held m f.type ((cs.drop f.offset).take (P.cellsOf f.type))=some x/\x.1∈D)->
  ∃(xs:yL Pl),ZLg (wtP P n) fs xs/\repCs w Zz7 xs (cs.drop o)/\∀y,y∈xs->∃z,z∈D/\Qd z y
 |[],o,_,_,hl,_=>⟨[],zT,by simp only[repCs];apply List.drop_eq_nil_of_le;simp at hl;omega,λy hy=>by cases hy⟩
 |f::fs,o,hp,ho,hl,h=>by
  obtain⟨x,hx,hxD⟩:=h 0 f rfl;have ho0:=ho 0 f rfl;simp at ho0;rw[ho0] at hx;obtain⟨pl,p1,p2,p3⟩:=ih f.type (hp f (yay ..)) _ _ hx;simp only[yaj,List.sum_cons] at hl
  obtain⟨xs,q1,q2,q3⟩:=Zw5 ih fs (o+P.cellsOf f.type) (λg hg=>hp g (yba _ hg)) (λj g hg=>by
   have:=ho (j+1) g hg;simp only[List.take_succ_cons,yaj,List.sum_cons] at this;omega) (by omega) (λj g hg=>h (j+1) g hg)
  refine⟨pl::xs,⟨p1,q1⟩, ?_,λy hy=> ?_⟩
  rotate_left
  ·rcases ybh.1 hy with rfl|hy
   ·exact⟨_,hxD,p3⟩
   ·exact q3 y hy
  simp only[repCs];refine⟨(cs.drop o).take (P.cellsOf f.type),(cs.drop o).drop (P.cellsOf f.type),(List.take_append_drop ..).symm,p2, ?_⟩;rw[List.drop_drop];exact q2
theorem ZKm:∀(n m:Nat)(t:yc),Y3 P n t=true->∀(cs:yL yh)(x:DataW H×yL MemPlace),DataW.trod enc P w base sp held m t cs=some x->∃pl,wtP P n t pl/\repC w Zz7 pl cs/\Qd x.1 pl:=by
 intro n
 induction n with
 |zero=>intro m t h;simp[Y3] at h
 |succ n ih=>
  intro m t ht cs x h;unfold Y3 at ht;split at ht
  ·rename_i hu;obtain⟨b,rfl,_⟩:=DataW.trod_bool hu h;exact⟨.bool b,by simp[wtP,hu],by simp[repC],λ_ _ _ _=>ytt⟩
  ·rename_i k hu;obtain⟨z,rfl,rfl,hw⟩:=DataW.trod_int hu h;exact⟨.int k z,by simp[wtP,hu,hw],by simp[repC],λ_ _ _ _=>ytt⟩
  ·rename_i hu;obtain⟨s,rfl,h2⟩:=DataW.trod_string hu h;exact⟨.str s,by simp[wtP,hu];exact h2.2,by simp[repC],λ_ _ _ _=>ytt⟩
  ·rename_i e hu;simp only[yi,yP] at ht;rcases DataW.trod_slice hu h with⟨rfl,rfl⟩|⟨a,len,cap,elems,yQ,m',rfl,rfl,rfl,_,hle,hcap,zY,hel,_⟩
   ·exact⟨.sl none (P.cellsOf e) [],by simp[wtP,hu],by simp only[repC];exact⟨(λy hy=>by cases hy),none,0,rfl,yj _,Nat.zero_le _,YX _,λ_=>rfl,λh=>absurd rfl h⟩,λ_ _ _ _=>⟨Nat.zero_le _,ytt⟩⟩
   ·obtain⟨xs,us,h1,h2,h3,h4,h5,h6⟩:=ZDa (n:=n) ht.2 zY (λcs x hx _=>ih m' e ht.1 cs x hx) hel len (yj _);refine⟨.sl none (P.cellsOf e) xs,by simp only[wtP,hu];exact⟨zT,zT,by omega,λy hy=>(h2 y hy).1⟩, ?_,λbk hb N hN=> ?_⟩
    rotate_left
    ·obtain⟨w1,w2⟩:=hb.1 (elems.map (·.1)) (yQ.map (·.1));refine⟨?_,ZAS λy hy=> ?_⟩
     ·rw[List.length_map] at w1;have hN':bk (.slice (elems.map (·.1)) (yQ.map (·.1)))<=N:=hN;omega
     ·obtain⟨_,z,z1,z2⟩:=h2 y hy;exact z2 bk hb N (ybm (w2 z z1) hN)
    simp only[repC];refine⟨h3,some a,cap,by rw[h1],by omega,hcap,YX _,by simp,λhne=> ?_⟩
    have hpos:0 < us.length:=by
     rw[h4];have:0 < len:=by rw[<-h1];exact List.length_pos_iff.2 hne
     exact Nat.mul_pos this ht.2
    have hc0:=h6 0 us[0] (yab hpos);obtain⟨b,o,spot⟩:=a
    have hspot:spot=none:=by
     cases spot with
     |none=>rfl
     |some z=>
      exfalso;unfold World.cell? at hc0;split at hc0
      ·simp[Addr.add] at hc0
      ·cases hc0
    subst hspot;exact⟨b,o,us,rfl,h5,λj u hu=>⟨by have:=h6 j u hu;rwa [Addr.add_lit] at this,ytt⟩⟩
  ·rename_i k e hu;simp only[yi,yT] at ht;obtain⟨elems,m',rfl,rfl,hl,zY,hel⟩:=DataW.trod_array hu h;obtain⟨xs,h1,h2,h3,h4⟩:=ZyV (n:=n) (s:=P.cellsOf e) zY (by rw[hl,ht.2]) (λcs x hx _=>ih m' e ht.1 cs x hx) hel k (yj _);rw[List.take_of_length_le (by rw[hl,ht.2];exact yj _)] at h4;refine⟨.arr k (P.cellsOf e) xs,by simp only[wtP,hu];exact⟨zT,zT,h1,λy hy=>(h2 y hy).1⟩,by simp only[repC];exact⟨h1,h3,h4⟩,λbk hb N hN=>ZAS λy hy=> ?_⟩;obtain⟨_,z,z1,z2⟩:=h2 y hy;exact z2 bk hb N (ybm (hb.2 _ z z1) hN)
  ·rename_i fs hu;simp only[yi,yT,List.all_eq_true] at ht;obtain⟨⟨t1,t2⟩,t3⟩:=ht;obtain⟨elems,m',rfl,rfl,hl,zY,hel⟩:=DataW.trod_struct hu h
   obtain⟨xs,q1,q2,q3⟩:=Zw5 (D:=elems.map (·.1)) (n:=n) (m:=m') (cs:=cs) (λt ht cs x hx=>ih m' t ht cs x hx) fs.toList 0 t1 (λj f hf=>by
    have hj:j < fs.toList.length:=(yq.1 hf).1;have:=t3 j (by simpa using hj);rw[hf] at this;simpa using this) (by rw[hl,t2];omega) (λj f hf=>by
    have hj:j < fs.toList.length:=(yq.1 hf).1;have:=hel j f (by simpa using hf);rw[yab (by rw[zY];simpa using hj)] at this;exact⟨_,this,List.mem_map.2 ⟨_,List.getElem_mem _,rfl⟩⟩)
   refine⟨.agg xs,by simp only[wtP,hu];exact q1,by simp only[repC];simpa using q2,λbk hb N hN=>ZAS λy hy=> ?_⟩;obtain⟨z,z1,z2⟩:=q3 y hy;exact z2 bk hb N (ybm (hb.2 _ z z1) hN)
  ·cases ht
end
end Go.Ev
namespace Go.Ev
open Go.RowKit Go.WideShapes Go.ChangeShapes
section
variable{H:Type}{enc:yc×yh->H}{P:Program}
theorem ZDb{W:World}{n:Nat}(hval:∀(t:yc)(v:yh),Vd P t=true->Value.okWide P W .any 0 t v->∃a,v=.agg a):
 ∀(ts:yL yc)(vs:yL yh)(ds:yL (DataW H))(ps:yL MemPlace),(∀t,t∈ts->Y3 P n t=true)->(∀(j:Nat)t v,ts[j]? =some t->vs[j]? =some v->(Vd P t=true->∃a,v=.agg a)/\(Vd P t=false->v.cells.toList=[v]))->
  DataW.TrodAll enc P W 0 (λ_=>true) true ts vs ds ps->∃xs,ZLh P n ts xs/\repVs (sg0 W) (xs.map .p) vs/\∀x,x∈xs->∃d,d∈ds/\Qd d x
 |[],[],[],_,_,_,_=>⟨[],zT,by simp[repVs],λx hx=>by cases hx⟩
 |[],_::_,_,_,_,_,h=>by simp[DataW.TrodAll] at h
 |[],[],_::_,_,_,_,h=>by simp[DataW.TrodAll] at h
 |_::_,[],_,_,_,_,h=>by simp[DataW.TrodAll] at h
 |_::_,_::_,[],_,_,_,h=>by simp[DataW.TrodAll] at h
 |t::ts,v::vs,d::ds,ps,hp,hv,h=>by
  obtain⟨p,q,⟨yD,h1⟩,h2,rfl⟩:=h;obtain⟨x,x1,x2,x3⟩:=ZKm n yD t (hp t (yay ..)) _ _ h1;obtain⟨xs,xs1,xs2,xs3⟩:=ZDb hval ts vs ds q (λu hu=>hp u (yba _ hu)) (λj u w' hj hw=>hv (j+1) u w' hj hw) h2;obtain⟨v1,v2⟩:=hv 0 t v rfl rfl;refine⟨x::xs,⟨x1,xs1⟩, ?_,λy hy=> ?_⟩
  rotate_left
  ·rcases ybh.1 hy with rfl|hy
   ·exact⟨_,yay ..,x3⟩
   ·obtain⟨z,z1,z2⟩:=xs3 y hy;exact⟨z,yba _ z1,z2⟩
  simp only[yaj,repVs];have ha:=ZM6 x1;exact⟨v,vs,rfl,Zv6 x2 rfl (λe=>v1 (by rw[<-ha];exact e)) (λe=>v2 (by rw[<-ha];exact e)),xs2⟩
theorem Zur{f:FuncId}{fn:Func}{s:ChangeSpec}{n:Nat}{tb:yc}(hr:fn.resultTypes= #[tb])(ht:P.underlying tb=some .bool)(hv:s.vars=[])
 (hs:∀ds:yL (DataW H),ds.length=fn.params.toList.length->s.fn H ds={ results:=[.lit (.bool true)],args:=ds}) (hp:∀t,t∈fn.params.toList->Y3 P n t=true)
 (W:World) (base:Nat) (args:Array yh) (ds gs:yL (DataW H)) (before:yL MemPlace)
 (hval:∀(j:Nat)t v,fn.params[j]? =some t->args[j]? =some v->Value.okWide P W .any base t v) (hW:DataW.Whole enc P fn.params.toList s.vars false W args.toList ds gs before)
 (hc:∀xs:yL Pl,ZLh P n fn.params.toList xs->(∀x,x∈xs->∃d,d∈ds/\Qd d x)->Con P f (xs.map .p) [] (.p (.bool true)) []):
 Calls P f args W λe W'=>∃v,e=.returned v/\s.post enc P fn false true false false W args v W':=by
 have hW':=hW;obtain⟨p,q,hA,hV,rfl,hfz,hnd⟩:=hW;rw[hv] at hV
 obtain⟨rfl,rfl⟩:gs=[]/\q=[]:=by
  cases gs with
  |nil=>exact⟨rfl,hV⟩
  |cons g r=>simp[DataW.TrodVars] at hV
 have zY:=trodAll_length hA
 obtain⟨xs,x1,x2,x3⟩:=ZDb (enc:=enc) (P:=P) (W:=W) (n:=n) (λt v ha hok=>by
  unfold Value.okWide at hok;unfold Vd at ha;split at hok
  ·obtain⟨cs,rfl,_⟩:=hok;exact⟨cs,rfl⟩
  ·obtain⟨cs,rfl,_⟩:=hok;exact⟨cs,rfl⟩
  ·rename_i h1 h2;split at ha
   ·rename_i fs hu;exact absurd hu (h1 fs)
   ·rename_i k e hu;exact absurd hu (h2 k e)
   ·cases ha) fn.params.toList args.toList ds p hp (λj t v hj hvv=>by
  have hok:=hval j t v (by simpa using hj) (by simpa using hvv);refine⟨λha=> ?_,λha=> ?_⟩
  ·unfold Value.okWide at hok;unfold Vd at ha;split at hok
   ·obtain⟨cs,rfl,_⟩:=hok;exact⟨cs,rfl⟩
   ·obtain⟨cs,rfl,_⟩:=hok;exact⟨cs,rfl⟩
   ·rename_i h1 h2;split at ha
    ·rename_i fs hu;exact absurd hu (h1 fs)
    ·rename_i k e hu;exact absurd hu (h2 k e)
    ·cases ha
  ·obtain⟨m,hm⟩:∃m,Y3 P (m+1) t=true:=by
    have:=hp t (List.mem_of_getElem? hj)
    cases n with
    |zero=>simp[Y3] at this
    |succ n=>exact⟨n,this⟩
   unfold Value.okWide at hok;unfold Y3 at hm;unfold Vd at ha;split at hm <;> rename_i hu <;> simp only[hu] at hok ha
   all_goals first
    |(cases ha;done)
    |(cases hm;done)
    |(unfold Cell.okWide Cell.ok at hok;simp only[hu] at hok;cases v <;> first|rfl|(simp at hok;done))) hA
 have hcall:=hc xs x1 x3 (sg0 W) args.toList (ZM5 W) rfl x2;rw[Array.toArray_toList] at hcall;refine Calls.mono hcall ?_;rintro e W' ⟨v,σ',rfl,rfl,hH,hto,hok,yR⟩;have hbv:v=.bool true:=by simpa[yK,Dv.isAgg,Pl.isAgg,yJ,repC] using yR
 subst hbv;have hb:=ZCf hto;simp only[ybd] at hW';have hlt:=hW'.lt
 have hsame:∀z∈p,W.sameAt σ'.w z:=by
  intro z hz;have hz':=hlt z hz
  cases z with
  |cell b o=>exact hb.cell (p:=⟨b,o,none⟩) hz'
  |map b=>exact hb.block b hz'
 have hfn:=hs ds zY.2;refine⟨_,rfl,Zv7 (pa:=p) (pv:=[]) hW' (λb sp hd=> ?_) (λsp h=> ?_) (λsp h=> ?_) (by simp) hb ?_⟩
 ·rw[ybd,hfn,hr];exact trodAll_cons_mk (shut_bool ht _) trodAll_mk0
 ·rw[ybd,hfn];exact Zpw fn.params.toList args.toList ds p hp hA hsame h
 ·rw[ybd,hfn,hv];rfl
 ·intro j t r hj hjr;rw[hr] at hj hjr
  cases j with
  |zero=>
   simp at hj;subst hj;have:r=.bool true:=by simpa[Value.resultList] using hjr.symm
   subst this
   exact okWide_bool_mk ht _
  |succ j=>simp at hj
end
end Go.Ev
end
