/- Parts of the proof, in one file. -/
import Derived.Test.YtpgpjjjoglafdaaGreatKf
open BitVec renaming ofInt → ybr
open Go.Proofs.Tryz renaming prog → yb
open Int renaming toNat_natCast → ybe
open List renaming length_append → yo, getElem?_eq_some_iff → yq, range → yr, replicate → yv, nil_append → yx, length_map → yy, append_assoc → yab, getElem?_eq_getElem → yac, map_cons → yad, length_take → yaf, length_cons → yah, getElem?_map → yai, take_length → yaj, map_append → yam, getElem?_eq_none → yan, getElem?_append_right → yaq, append_nil → yar, mem_cons_self → yas, mem_cons_of_mem → yat, mem_singleton → yau, map_map → yav, getElem?_cons_succ → yaw, mem_cons → ybc, getElem?_cons_zero → ybd, eq_nil_of_length_eq_zero → ybf, ext_getElem? → ybj, take_append_drop → ybk, mem_append → ybm, mem_map → ybu, mem_of_mem_take → ybz, map_nil → ycf, length_replicate → ycj, getElem_of_mem → yck, take_of_length_le → ycr, not_mem_nil → ycs, getElem?_set_self → ycw, getD_eq_getElem?_getD → ycx, mem_of_mem_drop → ycz, getElem?_set_ne → ydb
open Nat renaming le_refl → ym, add → yu, mod_eq_of_lt → yao, mod_lt → ybh, mul_comm → ybt, le_trans → ybw, two_pow_add_eq_or_of_lt → yda
open Option renaming bind_some → ya
open UInt32 renaming toNat → yal, ofNat → ybp, toNat_ofNat' → ycq
open UInt64 renaming ofNat → yae, toNat_ofNat' → ybb, toNat_lt → ybs, lt_iff_toNat_lt → ycb, le_iff_toNat_le → ycv
open UInt8 renaming toNat → yak, ofNat → yay
set_option linter.unusedVariables false
set_option linter.unusedSimpArgs false
section
set_option maxRecDepth 4000
namespace Go.Proofs.YtpgpjjjoglafdaaGreat
open Go Go.Ev Go.Sha
theorem Zca(x:yV)(n k:Nat)(h:n+k=32)(hn:0 < n){z:Int}(hz:z=(n:Int)):∃o,ZB yD x z=some o/\o.toNat=lo (Nat.shiftRight (dbl x.toNat) n):=by
 subst hz;unfold ZB;rw[ZO (z:=32 - (n:Int)) (by omega) (by omega),yW (yY (by omega)),yW (yY (by omega))];refine⟨_,rfl, ?_⟩;have e1:min ((n:Int)).toNat 32=n:=by omega
 have e2:min (32 - (n:Int)).toNat 32=k:=by omega
 rw[e1,e2,UInt32.or_comm];exact ZK6 x h hn
theorem ZME(a b c d:yB):((((Zaf (ybp a.toNat) 24)|||(Zaf (ybp b.toNat) 16))|||(Zaf (ybp c.toNat) 8))|||(ybp d.toNat)).toNat=((a.toNat*256+b.toNat)*256+c.toNat)*256+d.toNat:=by
 have h1:=a.toNat_lt;have h2:=b.toNat_lt;have h3:=c.toNat_lt;have h4:=d.toNat_lt
 have hs:∀(x:yB)(n:Nat),n<=24->(Zaf (ybp x.toNat) n).toNat=x.toNat*2 ^ n:=by
  intro x n hn;have hx:=x.toNat_lt;unfold Zaf;rw[ycq,ycq,yao (a:=x.toNat) (by omega)];refine yao ?_
  calc x.toNat*2 ^ n < 2 ^ 8*2 ^ n:=Nat.mul_lt_mul_of_pos_right hx (Nat.two_pow_pos n)
   _=2 ^ (8+n):=(Nat.pow_add ..).symm
   _<=2 ^ 32:=Nat.pow_le_pow_right (by omega) (by omega)
 rw[Zyz,Zyz,Zyz,hs _ _ (by omega),hs _ _ (by omega),hs _ _ (by omega),ycq,yao (a:=d.toNat) (by omega)]
 have k1:Nat.lor (a.toNat*2 ^ 24) (b.toNat*2 ^ 16)=2 ^ 16*(a.toNat*256+b.toNat):=by
  rw[ybt a.toNat,show Nat.lor (2 ^ 24*a.toNat) (b.toNat*2 ^ 16)=2 ^ 24*a.toNat|||b.toNat*2 ^ 16 from rfl, <-yda (by omega)]
  omega
 have k2:Nat.lor (2 ^ 16*(a.toNat*256+b.toNat)) (c.toNat*2 ^ 8)=2 ^ 8*((a.toNat*256+b.toNat)*256+c.toNat):=by
  rw[show Nat.lor (2 ^ 16*(a.toNat*256+b.toNat)) (c.toNat*2 ^ 8)=2 ^ 16*(a.toNat*256+b.toNat)|||c.toNat*2 ^ 8 from rfl, <-yda (by omega)]
  omega
 rw[k1,k2,show Nat.lor (2 ^ 8*((a.toNat*256+b.toNat)*256+c.toNat)) d.toNat=2 ^ 8*((a.toNat*256+b.toNat)*256+c.toNat)|||d.toNat from rfl, <-yda (by omega)]
 omega
theorem ZNQ(e f g:yV):((e&&&f)^^^((4294967295^^^e)&&&g)).toNat=ch e.toNat f.toNat g.toNat:=by
 rw[<-ZNy];congr 1;apply UInt32.toBitVec_inj.1;apply BitVec.eq_of_getLsbD_eq;intro i hi
 have h1:(4294967295:yV).toBitVec.getLsbD i=true:=by
  rw[show(4294967295:yV).toBitVec=BitVec.allOnes 32 from rfl,BitVec.getLsbD_allOnes]
  exact yY hi
 simp only[UInt32.toBitVec_xor,UInt32.toBitVec_and,BitVec.getLsbD_xor,BitVec.getLsbD_and,h1];cases e.toBitVec.getLsbD i <;> cases f.toBitVec.getLsbD i <;> cases g.toBitVec.getLsbD i <;> rfl
theorem ZNR(a b c:yV):(((a&&&b)^^^(a&&&c))^^^(b&&&c)).toNat=mj a.toNat b.toNat c.toNat:=by
 rw[<-ZNz];congr 1;apply UInt32.toBitVec_inj.1;apply BitVec.eq_of_getLsbD_eq;intro i hi;simp only[UInt32.toBitVec_xor,UInt32.toBitVec_and,UInt32.toBitVec_or,BitVec.getLsbD_xor,BitVec.getLsbD_and,BitVec.getLsbD_or];cases a.toBitVec.getLsbD i <;> cases b.toBitVec.getLsbD i <;> cases c.toBitVec.getLsbD i <;> rfl
theorem ZIf{l:yL yB}(h:l.length=64):∃o,WK yD l=some o/\o.length=64/\∀(i:Nat)x,o[i]? =some x->x.toNat=wd (Z2 (l.map yak)) i:=by
 unfold WK
 have hset:∀(w:yL yV)(y:yV),y.toNat=wd (Z2 (l.map yak)) w.length->(∀(j:Nat)x,w[j]? =some x->x.toNat=wd (Z2 (l.map yak)) j)->∀(j:Nat)x,(w++[y])[j]? =some x->x.toNat=wd (Z2 (l.map yak)) j:=by
  intro w y hy hw j x hx;by_cases hj:j < w.length
  ·rw[List.getElem?_append_left hj] at hx;exact hw j x hx
  ·rw[yaq (by omega)] at hx
   have:j=w.length:=by
    have:=(yq.1 hx).1;simp at this;omega
   subst this;rw[Nat.sub_self] at hx;cases hx;exact hy
 obtain⟨w0,g1,g2,g3⟩:=X6 (step:=Xb yD) 16 (λk s=>∃w,s=(l,(k:Int),w)/\w.length=k/\∀(j:Nat)x,w[j]? =some x->x.toNat=wd (Z2 (l.map yak)) j) (λw=>w.length=16/\∀(j:Nat)x,w[j]? =some x->x.toNat=wd (Z2 (l.map yak)) j) (i:=(l,(0:Int),([]:yL yV))) ⟨_,rfl,rfl,λj x hx=>by simp at hx⟩ (by omega) (by
  rintro k _ hk ⟨w,rfl,hw,hv⟩;left;obtain⟨x0,q0,_⟩:=Ze (l:=l) (k:=4*k) (by omega);obtain⟨x1,q1,_⟩:=Ze (l:=l) (k:=4*k+1) (by omega);obtain⟨x2,q2,_⟩:=Ze (l:=l) (k:=4*k+2) (by omega);obtain⟨x3,q3,_⟩:=Ze (l:=l) (k:=4*k+3) (by omega);unfold Xb;dsimp only;rw[ZO (z:=4*(k:Int)) (by omega) (by omega),ZO (z:=4*(k:Int)+1) (by omega) (by omega),ZO (z:=4*(k:Int)+2) (by omega) (by omega),ZO (z:=4*(k:Int)+3) (by omega) (by omega)]
  rw[yW (yY (by omega)),show 4*(k:Int)=((4*k:Nat):Int) by omega,show((4*k:Nat):Int)+1=((4*k+1:Nat):Int) by omega,show((4*k:Nat):Int)+2=((4*k+2:Nat):Int) by omega,show((4*k:Nat):Int)+3=((4*k+3:Nat):Int) by omega,
   Zl q0,ya,Zl q1,ya,Zl q2,ya,Zl q3,ya,yW (ZU (by omega) (by omega)),Zp (by omega)]
  refine⟨_,rfl,_,rfl,by rw[yo,List.length_singleton];omega,hset w _ ?_ hv⟩;have mg:∀(k:Nat)(x:yB),l[k]? =some x->(l.map yak)[k]? =some x.toNat:=λk x hx=>by rw[yai,hx];rfl
  have hwg:=Zj8 k (l.map yak) _ _ _ _ (mg _ _ q0) (mg _ _ q1) (mg _ _ q2) (mg _ _ q3);rw[ZME,hw];have b0:=x0.toNat_lt;have b1:=x1.toNat_lt;have b2:=x2.toNat_lt;have b3:=x3.toNat_lt;exact(ZAN _ (by omega) hwg (by omega)).symm) (by
  rintro _ ⟨w,rfl,hw,hv⟩;unfold Xb;dsimp only;rw[yX (ynd (by omega))];exact⟨_,rfl,hw,hv⟩)
 rw[g1,ya]
 obtain⟨w1,k1,k2,k3⟩:=X6 (step:=Xc yD) 48 (λk s=>∃w,s=(((16+k:Nat):Int),w)/\w.length=16+k/\∀(j:Nat)x,w[j]? =some x->x.toNat=wd (Z2 (l.map yak)) j) (λw=>w.length=64/\∀(j:Nat)x,w[j]? =some x->x.toNat=wd (Z2 (l.map yak)) j) (i:=((16:Int),w0)) ⟨_,rfl,g2,g3⟩ (by omega) (by
  rintro k _ hk ⟨w,rfl,hw,hv⟩;left;obtain⟨e1,he1,_⟩:=Ze (l:=w) (k:=k+1) (by omega);obtain⟨e2,he2,_⟩:=Ze (l:=w) (k:=k+14) (by omega);obtain⟨e3,he3,_⟩:=Ze (l:=w) (k:=k) (by omega);obtain⟨e4,he4,_⟩:=Ze (l:=w) (k:=k+9) (by omega);obtain⟨o1,ho1,p1⟩:=Zca e1 7 25 rfl (by omega) (z:=7) rfl;obtain⟨o2,ho2,p2⟩:=Zca e1 18 14 rfl (by omega) (z:=18) rfl;obtain⟨o3,ho3,p3⟩:=Zca e2 17 15 rfl (by omega) (z:=17) rfl;obtain⟨o4,ho4,p4⟩:=Zca e2 19 13 rfl (by omega) (z:=19) rfl;unfold Xc;dsimp only;rw[yW (yY (by omega)),ZO (z:=((16+k:Nat):Int) - 15) (by omega) (by omega),ZO (z:=((16+k:Nat):Int) - 2) (by omega) (by omega),ZO (z:=((16+k:Nat):Int) - 16) (by omega) (by omega),ZO (z:=((16+k:Nat):Int) - 7) (by omega) (by omega)];rw[show((16+k:Nat):Int) - 15=((k+1:Nat):Int) by omega,show((16+k:Nat):Int) - 2=((k+14:Nat):Int) by omega,show((16+k:Nat):Int) - 16=(k:Int) by omega,show((16+k:Nat):Int) - 7=((k+9:Nat):Int) by omega]
  rw[Zl he1,ya,Zl he2,ya,ho1,ya,ho2,ya,ho3,ya,ho4,ya,Zl he3,ya,Zl he4,ya,
   yW (ZU (by omega) (by omega)),Zp (by omega)]
  refine⟨_,rfl,_,rfl,by rw[yo,List.length_singleton];omega,hset w _ ?_ hv⟩;have hn:=ZyA (Z2 (l.map yak)) k;rw[<-hv _ _ he1, <-hv _ _ he2, <-hv _ _ he3, <-hv _ _ he4] at hn;rw[hw,Nat.add_comm 16 k,hn,Qw,Qw,Qw,ZNu e1 p1 p2,ZNv e2 p3 p4];exact ZNA ..) (by
  rintro _ ⟨w,rfl,hw,hv⟩;unfold Xc;dsimp only;rw[yX (ynd (by omega))];exact⟨_,rfl,hw,hv⟩)
 rw[k1,ya];exact⟨_,rfl,k2,k3⟩
theorem ZIg{st:yL yV}{l:yL yB}(hs:st.length=8)(h:l.length=64):∃o,WL yD st l=some o/\o.map yal=ZhX (st.map yal) (Z2 (l.map yak)):=by
 unfold WL;obtain⟨w,hw,hwl,hwv⟩:=ZIf h;obtain⟨k,hk,hkv⟩:∃k,Q5 yD=some k/\k.map yal=ks:=⟨_,rfl,rfl⟩;have hkl:k.length=64:=by rw[<-yy (f:=yal),hkv];rfl
 generalize hws:Z2 (l.map yak)=ws at hwv;rw[hw,ya,hk,ya,yW (ZU (by omega) (by omega))]
 obtain⟨x,g1,u,v,rfl,g2,g3⟩:=X6 (step:=Xd yD) 64 (λi s=>∃u v,s=(st,w,k,(i:Int),u,v)/\v.length=8/\v.map yal=rs ws (st.map yal) i) (λx=>∃u v,x=(st,u,v)/\v.length=8/\v.map yal=rs ws (st.map yal) 64) (i:=(st,w,k,(0:Int),([()]:yL Unit),st)) ⟨_,_,rfl,hs,rfl⟩ (by omega) (by
  rintro i _ hi ⟨u,v,rfl,he,hv⟩;left
  match v,he,hv with
  |[x0,x1,x2,x3,x4,x5,x6,x7],_,hv=>
   obtain⟨e1,he1,_⟩:=Ze (l:=k) (k:=i) (by omega);obtain⟨e2,he2,_⟩:=Ze (l:=w) (k:=i) (by omega);obtain⟨o1,ho1,p1⟩:=Zca x4 6 26 rfl (by omega) (z:=6) rfl;obtain⟨o2,ho2,p2⟩:=Zca x4 11 21 rfl (by omega) (z:=11) rfl;obtain⟨o3,ho3,p3⟩:=Zca x4 25 7 rfl (by omega) (z:=25) rfl;obtain⟨o4,ho4,p4⟩:=Zca x0 2 30 rfl (by omega) (z:=2) rfl;obtain⟨o5,ho5,p5⟩:=Zca x0 13 19 rfl (by omega) (z:=13) rfl;obtain⟨o6,ho6,p6⟩:=Zca x0 22 10 rfl (by omega) (z:=22) rfl;have hb:∀n:Nat,n < 8->inB (n:Int) ([x0,x1,x2,x3,x4,x5,x6,x7]:yL yV).length=true:=λn hn=>Yc (by omega) (by simp;omega);have b0:=hb 0 (by omega);have b1:=hb 1 (by omega);have b2:=hb 2 (by omega);have b3:=hb 3 (by omega);have b4:=hb 4 (by omega);have b5:=hb 5 (by omega);have b6:=hb 6 (by omega);have b7:=hb 7 (by omega);unfold Xd;dsimp only;generalize ZB yD=R at ho1 ho2 ho3 ho4 ho5 ho6 ⊢;rw[yW (yY (by omega))];have c0:inB 0 ([x0,x1,x2,x3,x4,x5,x6,x7]:yL yV).length=true:=b0;have c1:inB 1 ([x0,x1,x2,x3,x4,x5,x6,x7]:yL yV).length=true:=b1;have c2:inB 2 ([x0,x1,x2,x3,x4,x5,x6,x7]:yL yV).length=true:=b2;have c3:inB 3 ([x0,x1,x2,x3,x4,x5,x6,x7]:yL yV).length=true:=b3;have c4:inB 4 ([x0,x1,x2,x3,x4,x5,x6,x7]:yL yV).length=true:=b4;have c5:inB 5 ([x0,x1,x2,x3,x4,x5,x6,x7]:yL yV).length=true:=b5;have c6:inB 6 ([x0,x1,x2,x3,x4,x5,x6,x7]:yL yV).length=true:=b6;have c7:inB 7 ([x0,x1,x2,x3,x4,x5,x6,x7]:yL yV).length=true:=b7;simp only[c0,c1,c2,c3,c4,c5,c6,c7,if_true,ybd,yaw,ya,ho1,ho2,ho3,ho4,ho5,ho6,Zl he1,Zl he2];rw[Zp (by omega)];refine⟨_,rfl,_,_,rfl,rfl, ?_⟩;rw[show rs ws (st.map yal) (i+1)=rnd (rs ws (st.map yal) i) (ks.getD i 0) (wd ws i) from rfl, <-hv]
   have hk1:ks.getD i 0=e1.toNat:=by
    rw[<-hkv,ycx,yai,he1];rfl
   rw[hk1, <-hwv i e2 he2];simp only[yad,ycf];rw[ZtR]
   have kt:((x7+((o1^^^o2)^^^o3))+((x4&&&x5)^^^((4294967295^^^x4)&&&x6))+e1+e2).toNat=lo (yu (yu (yu (yu x7.toNat (S1 x4.toNat)) (ch x4.toNat x5.toNat x6.toNat)) e1.toNat) e2.toNat):=by
    rw[Qw,Qw,Qw,Qw,ZNx x4 p1 p2 p3,ZNQ];exact ZNB ..
   have ka:((x7+((o1^^^o2)^^^o3))+((x4&&&x5)^^^((4294967295^^^x4)&&&x6))+e1+e2+((o4^^^o5)^^^o6)+(((x0&&&x1)^^^(x0&&&x2))^^^(x1&&&x2))).toNat=lo (yu (yu (yu (yu (yu (yu x7.toNat (S1 x4.toNat)) (ch x4.toNat x5.toNat x6.toNat)) e1.toNat) e2.toNat) (S0 x0.toNat)) (mj x0.toNat x1.toNat x2.toNat)):=by
    rw[Qw,Qw,kt,ZNw x0 p4 p5 p6,ZNR];exact ZNC ..
   have ke:(x3+(((x7+((o1^^^o2)^^^o3))+((x4&&&x5)^^^((4294967295^^^x4)&&&x6)))+e1+e2)).toNat=lo (yu x3.toNat (yu (yu (yu (yu x7.toNat (S1 x4.toNat)) (ch x4.toNat x5.toNat x6.toNat)) e1.toNat) e2.toNat)):=by
    rw[Qw,kt];exact ZND ..
   rw[ka,ke]) (by
  rintro _ ⟨u,v,rfl,he,hv⟩;unfold Xd;dsimp only;rw[yX (ynd (by omega))];exact⟨_,rfl,_,_,rfl,he,hv⟩)
 rw[g1,ya];have hml:(ZhX (st.map yal) ws).length=8:=Zez (by rw[yy];exact hs)
 obtain⟨x,q1,q2⟩:=X6 (step:=Xe yD) 8 (λi s=>∃e,s=(st,(i:Int),u,e)/\e.length=8/\∀(j:Nat)x,e[j]? =some x->if j < i then(ZhX (st.map yal) ws)[j]? =some x.toNat else(rs ws (st.map yal) 64)[j]? =some x.toNat) (λx=>x.2.map yal=ZhX (st.map yal) ws) (i:=(st,(0:Int),u,v)) ⟨_,rfl,g2,λj x hx=>by
  rw[yX (by omega), <-g3,yai,hx];rfl⟩ (by omega) (by
  rintro i _ hi ⟨e,rfl,he,hv⟩;left;obtain⟨e1,he1,_⟩:=Ze (l:=e) (k:=i) (by omega);obtain⟨e2,he2,_⟩:=Ze (l:=st) (k:=i) (by omega);unfold Xe;dsimp only;rw[yW (yY (by omega)),yW (Yc (by omega) (by omega)),ybe,he1,ya,Zl he2,ya,yW (Yc (by omega) (by omega)),ya,Zp (by omega)];refine⟨_,rfl,_,rfl,by rw[List.length_set];exact he, ?_⟩;intro j x hx;by_cases hji:j=i
  ·subst hji;rw[ycw (by omega)] at hx;cases hx;rw[yW (by omega),Qw];have k1:=hv _ _ he1;rw[yX (by omega)] at k1;unfold ZhX;rw[List.getElem?_zipWith,k1,yai,he2];rfl
  ·rw[ydb (Ne.symm hji)] at hx;have k1:=hv j x hx;by_cases hj:j < i
   ·rw[yW hj] at k1;rw[yW (by omega)];exact k1
   ·rw[yX hj] at k1;rw[yX (by omega)];exact k1) (by
  rintro _ ⟨e,rfl,he,hv⟩;unfold Xe;dsimp only;rw[yX (ynd (by omega))];refine⟨_,rfl, ?_⟩;dsimp only;apply ybj;intro j;rw[yai];by_cases hj:j < 8
  ·obtain⟨x,hx,_⟩:=Ze (l:=e) (k:=j) (by omega);have:=hv j x hx;rw[yW hj] at this;rw[hx,this];rfl
  ·rw[yan (by omega),yan (by omega)];rfl)
 dsimp only;rw[q1,ya];exact⟨_,rfl,q2⟩
def rb8(n:Nat):yL yB:=(be8 n).map yay
theorem Zuz(n:yU){k:Nat}(hk:k < 8):(rb8 n.toNat)[k]? =some (w8 ((Zw n (56 - 8*k)).toNat:Int)):=by
 have h:∀m:Nat,w8 ((Zw n m).toNat:Int)=yay (n.toNat / 2 ^ m % 256):=by
  intro m;unfold w8 Zw;rw[ybb,yao (Nat.lt_of_le_of_lt (Nat.div_le_self _ _) (ybs n))];congr 1
 rw[h]
 match k,hk with
 |0,_=>rfl
 |1,_=>rfl
 |2,_=>rfl
 |3,_=>rfl
 |4,_=>rfl
 |5,_=>rfl
 |6,_=>rfl
 |7,_=>
  show some (yay (n.toNat % 256))=some (yay (n.toNat / 2 ^ 0 % 256));rw[Nat.pow_zero,Nat.div_one]
theorem ZMF{l:yL yB}(h:l.length<=4294967296):Wz yD l=some (l++([128]:yL yB)++yv (zs l.length) 0++rb8 (8*l.length)):=by
 unfold Wz;have hlt:l.length % 64 < 64:=ybh _ (by omega);rw[yW (ZU (by omega) (by omega)),yW (ZU (by omega) (by omega))]
 obtain⟨x,h1,h2⟩:=X6 (step:=YZ yD) (zs l.length) (λj s=>s=(l,l++([128]:yL yB)++yv j 0)) (λx=>x=(l,l++([128]:yL yB)++yv (zs l.length) 0)) (i:=(l,l++([128]:yL yB))) (by simp) (by unfold zs;omega) (by
  rintro j _ hj rfl;left;unfold YZ;dsimp only;have hl:(l++([128]:yL yB)++yv j 0).length=l.length+1+j:=by rw[yo,yo,ycj];rfl
  have hm:Int.tmod ((l++([128]:yL yB)++yv j 0).length:Int) 64=(((l.length+1+j) % 64:Nat):Int):=by rw[hl];rfl
  rw[hm];unfold zs at hj;rw[yW (by simp;omega),yW (ZU (by omega) (by omega))];exact⟨_,rfl,by rw[yab,List.replicate_succ']⟩) (by
  rintro _ rfl;unfold YZ;dsimp only;have hl:(l++([128]:yL yB)++yv (zs l.length) 0).length=l.length+1+zs l.length:=by rw[yo,yo,ycj];rfl
  have hm:Int.tmod ((l++([128]:yL yB)++yv (zs l.length) 0).length:Int) 64=(((l.length+1+zs l.length) % 64:Nat):Int):=by rw[hl];rfl
  rw[hm,yX (by simp;unfold zs;omega)];exact⟨_,rfl,rfl⟩)
 rw[h1,ya,h2];dsimp only;generalize hp:l++([128]:yL yB)++yv (zs l.length) 0=p
 have hpl:p.length<=l.length+65:=by
  rw[<-hp,yo,yo,ycj];unfold zs;simp;omega
 have hn:(8*w64 (l.length:Int)).toNat=8*l.length:=by
  rw[UInt64.toNat_mul];unfold w64;rw[ybb];show 8*((((l.length:Nat):Int) % 18446744073709551616).toNat % 2 ^ 64) % 2 ^ 64=_;omega
 generalize hN:8*w64 (l.length:Int)=N at hn
 obtain⟨x,g1,g2⟩:=X6 (step:=Y2 yD) 8 (λk s=>s=(N,56 - 8*(k:Int),p++(rb8 N.toNat).take k)) (λx=>x=p++rb8 N.toNat) (i:=(N,(56:Int),p)) (by simp) (by omega) (by
  rintro k _ hk rfl;left;unfold Y2;dsimp only;rw[yW (yY (by omega)),yW (yY (by omega)),yW (ZU (by simp;omega) (by simp;omega)),ZO (z:=56 - 8*(k:Int) - 8) (by omega) (by omega)];refine⟨_,rfl, ?_⟩;rw[WM (Zuz N hk),show min (56 - 8*(k:Int)).toNat 64=56 - 8*k by omega,yab,show 56 - 8*((k+1:Nat):Int)=56 - 8*(k:Int) - 8 by omega]) (by
  rintro _ rfl;unfold Y2;dsimp only;rw[yX (ynd (by omega))];exact⟨_,rfl,rfl⟩)
 rw[g1,ya,g2,hn]
theorem ZMG{l:yL yB}(h:l.length<=4294967296):X2 yD l=some (sha l):=by
 unfold X2;obtain⟨f,hf,hfl⟩:∃f,Qf yD=some f/\f.map yal=ZbR:=⟨_,rfl,rfl⟩;have hf8:f.length=8:=by rw[<-yy (f:=yal),hfl];rfl
 rw[ZMF h,ya,hf,ya];generalize hE:l++([128]:yL yB)++yv (zs l.length) 0++rb8 (8*l.length)=E
 have hEm:E.map yak=ZeB l:=by
  unfold ZeB;rw[<-hE];simp only[yam,List.map_replicate,yad,ycf,rb8,yav,yab,List.singleton_append]
  have:be8 (8*l.length)=(be8 (8*l.length)).map (yak ∘ yay):=by
   simp[be8]
  rw[<-this];simp
 have hEl:E.length=64*((l.length+72) / 64):=by rw[<-yy (f:=yak),hEm,ZtU]
 generalize hz:yzz=z;have hzl:z.length=32:=by rw[<-hz];rfl
 obtain⟨x,h1,v,rfl,g1,g2⟩:=X6 (step:=Xl yD) ((l.length+72) / 64) (λc s=>∃d,s=(E,d,((64*c:Nat):Int),z)/\d.length=8/\d.map yal=ZeA c (E.map yak) ZbR) (λx=>∃v,x=(v,z)/\v.length=8/\v.map yal=ZeA ((l.length+72) / 64) (E.map yak) ZbR) (i:=(E,f,(0:Int),z)) ⟨_,rfl,hf8,hfl⟩ (by omega) (by
  rintro c _ hc ⟨d,rfl,hd,hv⟩;left;unfold Xl;dsimp only;obtain⟨m,hm1,hm2⟩:=ZIg (st:=d) (l:=(E.take (64*c+64)).drop (64*c)) hd (by rw[List.length_drop,yaf];omega);rw[yW (yY (by omega)),ZO (z:=((64*c:Nat):Int)+64) (by omega) (by omega),yW (by simp only[Zeh,Bool.and_eq_true,yP];omega),show(((64*c:Nat):Int)+64).toNat=64*c+64 by omega,ybe,hm1,ya];refine⟨_,rfl,_,by rw[show((64*c:Nat):Int)+64=((64*(c+1):Nat):Int) by omega], ?_, ?_⟩
  ·rw[<-yy (f:=yal),hm2];exact Zez (by rw[yy];exact hd)
  ·rw[hm2,Zlp,hv, <-List.map_drop, <-List.map_take];congr 3;rw[List.drop_take];congr 1;omega) (by
  rintro _ ⟨d,rfl,hd,hv⟩;unfold Xl;dsimp only;rw[yX (ynd (by omega))];exact⟨_,rfl,_,rfl,hd,hv⟩)
 rw[h1,ya];dsimp only;generalize hv2:ZeA ((l.length+72) / 64) (E.map yak) ZbR=v2 at g2
 obtain⟨x,k1,o,rfl,k2,k3⟩:=X6 (step:=Xm yD) 32 (λi s=>∃o,s=(v,(i:Int),z,o)/\o.length=32/\∀(j:Nat),j < i->o[j]? =some (Go.Sha.ZH9 v2 j)) (λx=>∃o,x=(z,o)/\o.length=32/\∀(j:Nat),j < 32->o[j]? =some (Go.Sha.ZH9 v2 j)) (i:=(v,(0:Int),z,z)) ⟨_,rfl,hzl,λj hj=>by omega⟩ (by omega) (by
  rintro i _ hi ⟨o,rfl,ho,hv⟩;left;unfold Xm;dsimp only;have e1:Int.tdiv (i:Int) 4=((i / 4:Nat):Int):=rfl;have e2:Int.tmod (i:Int) 4=((i % 4:Nat):Int):=rfl;obtain⟨x1,hx1,_⟩:=Ze (l:=v) (k:=i / 4) (by omega);obtain⟨x2,hx2,_⟩:=Ze (l:=o) (k:=i) (by omega);rw[yW (yY (by omega)),e1,e2,ZO (z:=((i / 4:Nat):Int)) (by omega) (by omega),ZO (z:=8*((i % 4:Nat):Int)) (by omega) (by omega),ZO (z:=24 - 8*((i % 4:Nat):Int)) (by omega) (by omega),Zl hx1,ya,yW (yY (by omega)),yW (Yc (by omega) (by omega)),ybe,hx2,ya,Zp (by omega)];refine⟨_,rfl,_,rfl,by rw[List.length_set];exact ho, ?_⟩;intro j hj;by_cases hji:j=i
  ·subst hji;rw[ycw (by omega)];congr 1;unfold Go.Sha.ZH9
   have hx:v2.getD (j / 4) 0=x1.toNat:=by
    rw[<-g2,ycx,yai,hx1];rfl
   rw[hx,show min (24 - 8*((j % 4:Nat):Int)).toNat 32=24 - 8*(j % 4) by omega,ZwH];unfold w8;have e3:∀m:Nat,(((m:Nat):Int) % 256).toNat=m % 256:=λm=>by omega
   rw[e3,show Nat.shiftRight x1.toNat (24 - 8*(j % 4))=x1.toNat >>> (24 - 8*(j % 4)) from rfl,Nat.shiftRight_eq_div_pow]
   exact UInt8.toNat_inj.1 (by simp)
  ·rw[ydb (Ne.symm hji)];exact hv j (by omega)) (by
  rintro _ ⟨o,rfl,ho,hv⟩;unfold Xm;dsimp only;rw[yX (ynd (by omega))];exact⟨_,rfl,_,rfl,ho,hv⟩)
 rw[k1,ya,ZC1, <-hEm,hv2];congr 1;apply ybj;intro j;by_cases hj:j < 32
 ·rw[k3 j hj,yai,List.getElem?_range hj];rfl
 ·rw[yan (by show o.length<=j;omega),yan (by simp;omega)]
noncomputable def Xz(F:Nat)(a0:yL yB):yO (yL yB):=if decide (a0.length<=4294967296)=true then some (sha a0) else X2 F a0
noncomputable def ZlI(F:Nat):Fs yb:={ Qg F with M:=λx=>Xz F x}
noncomputable def ZeZ:Fs yb:=ZlI yD
theorem ZlJ:ZeZ.Ok:=Zm6 (s:=Qg yD) ZkI λx=>by
 show Xz yD x=X2 yD x;unfold Xz;split
 ·rename_i h;exact(ZMG (yF h)).symm
 ·rfl
theorem ZIh{l:yL yB}(h:l.length<=4294967296):Xz yD l=some (sha l):=yW (yY h)
end Go.Proofs.YtpgpjjjoglafdaaGreat
end
section
set_option maxRecDepth 4000
namespace Go.Proofs.YtpgpjjjoglafdaaGreat
open Go Go.Ev
noncomputable section
def Z8(F:Nat)(s:(yU×Int×(yL yB)×(yL yB))):yO ((yU×Int×(yL yB)×(yL yB))⊕((yL yB)×(yL yB))):=
 if(decide (s.2.1 >= 0))=true then
  if(decide (0<=s.2.1))=true then
   let y796:yB:=w8 ((Zw s.1 (min s.2.1.toNat 64)).toNat:Int)
   if(apB s.2.2.2.length 1 1)=true then
    some (.inl (s.1,wi (s.2.1 - 8),s.2.2.1,s.2.2.2++([y796]:yL yB)))
   else
   none
  else
  none
 else
 some (.inr (s.2.2.1,s.2.2.2))
def Zak:Lp:=⟨[(0,.v .u64),(3,.own 1 .u8),(4,.v yI)],[.log .u8 5,.log .u8 5],[.u64,yI,(.sl .u8),(.sl .u8)],[⟨.exit 0,[(3,.own 1 .u8)],[.log .u8 5,.log .u8 5],[(.sl .u8),(.sl .u8)]⟩],Zb (Z8 yD) yD⟩
theorem Ze0:Zak.okA yb 134 0:=Zu { own:=[2,3,9,15,16]} [] [] trivial
def X7(F:Nat)(a0:yU):yO ((yL yB)):=
 (Zb (Z8 F) F (a0,56,[],[])).bind λo797=>
 some o797.2
def Zhf(F:Nat):Fs yb:=⟨134,[.v .u64],[],[.u64],[⟨.ret,[(0,.own 0 .u8)],[.log .u8 5],[(.sl .u8)]⟩],λx=>X7 F x⟩
def Za3:Fs yb:=Zhf yD
theorem Zhg:Za3.Ok:=fnO { own:=[2,3,9,15,16]} [(0,Zak)] [] trivial ⟨Ze0,ytt⟩
def Yl(F:Nat)(s:((yL (yL yB))×Int×(yL yB)×(yL yB))):yO (((yL (yL yB))×Int×(yL yB)×(yL yB))⊕((yL yB)×(yL yB))):=
 if(decide (s.2.1 < (s.1.length:Int)))=true then
  (idx s.1 s.2.1).bind λe799=>
  (Vu F (w64 (e799.length:Int))).bind λo800=>
  if(apB s.2.2.2.length o800.length 1)=true then
   (idx s.1 s.2.1).bind λe801=>
   if(apB ((s.2.2.2++o800).length) e801.length 1)=true then
    some (.inl (s.1,wi (s.2.1+1),s.2.2.1,(s.2.2.2++o800)++e801))
   else
   none
  else
  none
 else
 some (.inr (s.2.2.1,s.2.2.2))
def Zde:Lp:=⟨[(1,.v (.sl (.sl .u8))),(4,.ref 0 []),(5,.own 1 .u8),(6,.v yI)],zK,[(.sl (.sl .u8)),yI,(.arr 32 .u8),(.sl .u8)],[⟨.exit 0,[(4,.ref 0 []),(5,.own 1 .u8)],zK,[(.arr 32 .u8),(.sl .u8)]⟩],Zb (Yl yD) yD⟩
def ZNS:HI:={ own:=[5,11,14,28,30,31,36],still:=[10,26,37]}
theorem Zig:Zde.okA yb 96 0:=Zu ZNS [] [Zdc] ⟨ZkE,ytt⟩
def WA(F:Nat)(a0:ByteArray)(a1:(yL (yL yB))):yO ((yL yB)):=
 (X7 F (w64 (a0.size:Int))).bind λo798=>
 if(decide (a0.size<=maxLen))=true then
  if(apB o798.length a0.data.toList.length 1)=true then
   (Zb (Yl F) F (a1,0,yzz,o798++a0.data.toList)).bind λo802=>
   (Xz F o802.2).bind λo803=>
   some o803
  else
  none
 else
 none
def ZlK(F:Nat):Fs yb:=⟨96,[.v .str,.v (.sl (.sl .u8))],[],[.str,(.sl (.sl .u8))],(zN (.arr 32 .u8)),λx=>WA F x.1 x.2⟩
def Q6:Fs yb:=ZlK yD
theorem Zdf:Q6.Ok:=fnO ZNS [(0,Zde)] [Za3,ZeZ] ⟨Zhg,ZlJ,ytt⟩ ⟨Zig,ytt⟩
def XA(F:Nat)(rc:Int->yO ((yL yB)))(a0:Int):yO ((yL yB)):=
 if(decide (a0 < 128))=true then
  some [w8 a0]
 else
 (rc (wi (Int.tdiv a0 128))).bind λo804=>
 if(apB 1 o804.length 1)=true then
  let y805:(yL yB):=([(w8 (Int.tmod a0 128))+128]:yL yB)++o804
  some y805
 else
 none
def Vv(rc:Int->yO ((yL yB))):Fs yb:=⟨172,[.v yI],[],[yI],(zN (.sl .u8)),λx=>rc x⟩
def ZOc:HI:={ own:=[3,13,14,18],still:=[2,16]}
theorem Zjg(rc:Int->yO ((yL yB)))(hr:(Vv rc).Ok):(Vv (XA yD rc)).Ok:=fnO ZOc [] [(Vv rc)] ⟨hr,ytt⟩
def WB(F k:Nat):Int->yO ((yL yB)):=Nat.rec (motive:=λ_=>Int->yO ((yL yB))) (λ_=>none) (λ_ ih=>XA F ih) k
theorem ZcA:∀k,(Vv (WB yD k)).Ok
 |0=>λx o h=>by cases (show none=some o from h)
 |k+1=>Zjg _ (ZcA k)
def VW(F:Nat)(a0:Int):yO ((yL yB)):=WB F 12 a0
def ZlL(F:Nat):Fs yb:=⟨172,[.v yI],[],[yI],(zN (.sl .u8)),λx=>VW F x⟩
def Q7:Fs yb:=ZlL yD
theorem Zdg:Q7.Ok:=ZcA 12
def ZQ(F:Nat)(a0:(yL yB))(a1:Int):yO ((yL yB)):=
 if(apB 0 a0.length 1)=true then
  if(decide (a1 >= 0))=true then
   (VW F a1).bind λo806=>
   if(apB a0.length o806.length 1)=true then
    some (a0++o806)
   else
   none
  else
  some a0
 else
 none
def ZlM(F:Nat):Fs yb:=⟨136,[.v (.sl .u8),.v yI],[],[(.sl .u8),yI],(zN (.sl .u8)),λx=>ZQ F x.1 x.2⟩
def Xr:Fs yb:=ZlM yD
def ZOd:HI:={ own:=[5,6,8,11,14],still:=[4,12]}
theorem XE:Xr.Ok:=fnO ZOd [] [Q7] ⟨Zdg,ytt⟩
def Z9(F:Nat)(s:(Int×(yL yB)×(yL yB))):yO ((Int×(yL yB)×(yL yB))⊕((yL yB)×(yL yB))):=
 if(decide (s.1 < 32))=true then
  if(inB s.1 32)=true then
   (s.2.1[s.1.toNat]?).bind λe807=>
   if(apB s.2.2.length 1 1)=true then
    some (.inl (wi (s.1+1),s.2.1,s.2.2++([e807]:yL yB)))
   else
   none
  else
  none
 else
 some (.inr (s.2.1,s.2.2))
def Zal:Lp:=⟨[(3,.ref 0 []),(5,.own 1 .u8),(6,.v yI)],zK,[yI,(.arr 32 .u8),(.sl .u8)],[⟨.exit 0,[(5,.own 1 .u8)],zK,[(.arr 32 .u8),(.sl .u8)]⟩],Zb (Z9 yD) yD⟩
def ZNT:HI:={ own:=[5,7,9,14,19],still:=[4]}
theorem Ze1:Zal.okA yb 137 0:=Zu ZNT [] [] trivial
def X8(F:Nat)(a0:(yL yB))(a1:(yL yB)):yO ((yL yB)):=
 if(apB 0 a0.length 1)=true then
  (Zb (Z9 F) F (0,a1,a0)).bind λo808=>
  some o808.2
 else
 none
def Zhh(F:Nat):Fs yb:=⟨137,[.v (.sl .u8),.v (.arr 32 .u8)],[],[(.sl .u8),(.arr 32 .u8)],(zN (.sl .u8)),λx=>X8 F x.1 x.2⟩
def Za4:Fs yb:=Zhh yD
theorem Zhi:Za4.Ok:=fnO ZNT [(0,Zal)] [] trivial ⟨Ze1,ytt⟩
def Qh(F:Nat)(a0:(yL yB))(a1:Int):yO ((yL yB)):=
 if(apB 0 a0.length 1)=true then
  if(decide (a1 >= 0))=true then
   (VW F a1).bind λo809=>
   if(apB a0.length o809.length 1)=true then
    some (a0++o809)
   else
   none
  else
  some a0
 else
 none
def Zih(F:Nat):Fs yb:=⟨136,[.v (.sl .u8),.v yI],[],[(.sl .u8),yI],[⟨.ret,[(0,.own 0 .u8)],[.log .u8 5],[(.sl .u8)]⟩],λx=>Qh F x.1 x.2⟩
def Zbt:Fs yb:=Zih yD
def ZOe:HI:={ own:=[4,5,6,8,11,14,15],still:=[12]}
theorem Zii:Zbt.Ok:=fnO ZOe [] [Q7] ⟨Zdg,ytt⟩
def XL(F:Nat)(a0:(yL yB))(a1:(yL yB)):yO ((yL yB)):=
 (Qh F a0 (a1.length:Int)).bind λo810=>
 if(apB o810.length a1.length 1)=true then
  some (o810++a1)
 else
 none
def Zgx(F:Nat):Fs yb:=⟨138,[.v (.sl .u8),.v (.sl .u8)],[],[(.sl .u8),(.sl .u8)],(zN (.sl .u8)),λx=>XL F x.1 x.2⟩
def Zam:Fs yb:=Zgx yD
def ZOf:HI:={ own:=[5,9,10,12],still:=[4,6,8]}
theorem Zgy:Zam.Ok:=fnO ZOf [] [Zbt] ⟨Zii,ytt⟩
def Yf(F:Nat)(s:(yU×Int×(yL yB))):yO ((yU×Int×(yL yB))⊕(yL yB)):=
 if(decide (s.2.1 >= 0))=true then
  let y811:yU:=Zw s.1 (min ((w64 (wi (8*s.2.1))).toNat:Int).toNat 64)
  if(apB s.2.2.length 1 1)=true then
   some (.inl (s.1,wi (s.2.1 - 1),s.2.2++([w8 (y811.toNat:Int)]:yL yB)))
  else
  none
 else
 some (.inr s.2.2)
def Za5:Lp:=⟨[(1,.v .u64),(5,.own 0 .u8),(6,.v yI)],[.log .u8 5],[.u64,yI,(.sl .u8)],[⟨.exit 0,[(5,.own 0 .u8)],[.log .u8 5],[(.sl .u8)]⟩],Zb (Yf yD) yD⟩
def ZNU:HI:={ own:=[5,7,9,14,22],still:=[4]}
theorem Zfg:Za5.okA yb 144 0:=Zu ZNU [] [] trivial
def Ym(F:Nat)(a0:(yL yB))(a1:yU):yO ((yL yB)):=
 if(apB 0 a0.length 1)=true then
  (Zb (Yf F) F (a1,7,a0)).bind λo812=>
  some o812
 else
 none
def Zij(F:Nat):Fs yb:=⟨144,[.v (.sl .u8),.v .u64],[],[(.sl .u8),.u64],(zN (.sl .u8)),λx=>Ym F x.1 x.2⟩
def X9:Fs yb:=Zij yD
theorem Vw:X9.Ok:=fnO ZNU [(0,Za5)] [] trivial ⟨Zfg,ytt⟩
def Ys(F:Nat)(s:((yL yB)×Int×Int×Z4×Branch)):yO (((yL yB)×Int×Int×Z4×Branch)⊕((yL yB)×Int×Z4×Branch)):=
 if(decide (s.2.2.1 < (s.2.2.2.2.1.length:Int)))=true then
  (idx s.2.2.2.2.1 s.2.2.1).bind λe817=>
  (Ym F s.1 e817).bind λo818=>
  some (.inl (o818,s.2.1,wi (s.2.2.1+1),s.2.2.2.1,s.2.2.2.2))
 else
 some (.inr (s.1,s.2.1,s.2.2.2.1,s.2.2.2.2))
def Zbu:Lp:=⟨[(1,.ref 0 []),(3,.v (.sl .u8)),(4,.v yI),(5,.ref 1 []),(6,.v yI)],[.var (.v ZC) true,.var (.v Zk) true],[(.sl .u8),yI,yI,ZC,Zk],[⟨.exit 2,[(1,.ref 0 []),(3,.v (.sl .u8)),(4,.v yI),(5,.ref 1 [])],[.var (.v ZC) true,.var (.v Zk) true],[(.sl .u8),yI,ZC,Zk]⟩],Zb (Ys yD) yD⟩
def ZMH:HI:={ still:=[2,7,12,26,29,38,43,45,47,49,51,53,55]}
theorem Zgz:Zbu.okA yb 139 1:=Zu ZMH [] [X9] ⟨Vw,ytt⟩
def Yt(F:Nat)(s:((yL yB)×Int×Z4)):yO (((yL yB)×Int×Z4)⊕((yL yB)×Z4)):=
 if(decide (s.2.1 < (s.2.2.length:Int)))=true then
  (idx s.2.2 s.2.1).bind λe815=>
  (ZQ F s.1 (e815.1.length:Int)).bind λo816=>
  (Zb (Ys F) F (o816,s.2.1,0,s.2.2,e815)).bind λo819=>
  (ZQ F o819.1 o819.2.2.2.2.1).bind λo820=>
  (ZQ F o820 o819.2.2.2.2.2.1).bind λo821=>
  (Ym F o821 o819.2.2.2.2.2.2).bind λo822=>
  some (.inl (o822,wi (o819.2.1+1),o819.2.2.1))
 else
 some (.inr (s.1,s.2.2))
def Zbv:Lp:=⟨[(1,.ref 0 []),(3,.v (.sl .u8)),(4,.v yI)],[.var (.v ZC) true],[(.sl .u8),yI,ZC],[⟨.exit 0,[(3,.v (.sl .u8))],[.var (.v ZC) true],[(.sl .u8),ZC]⟩],Zb (Yt yD) yD⟩
theorem ZgA:Zbv.okA yb 139 0:=Zu ZMH [(1,Zbu)] [Xr,X9] ⟨XE,Vw,ytt⟩ ⟨Zgz,ytt⟩
def WN(F:Nat)(a0:Z4):yO ((yL yB)):=
 (Xg F a0).bind λo813=>
 if(!o813)=true then
  some []
 else
 (ZQ F [] (a0.length:Int)).bind λo814=>
 (Zb (Yt F) F (o814,0,a0)).bind λo823=>
 some o823.1
def Zjh(F:Nat):Fs yb:=⟨139,[.v ZC],[],[ZC],(zN (.sl .u8)),λx=>WN F x⟩
def ZcB:Fs yb:=Zjh yD
theorem Zji:ZcB.Ok:=fnO ZMH [(0,Zbv)] [Qe,Xr] ⟨Zbj,XE,ytt⟩ ⟨ZgA,ytt⟩
def Yu(F:Nat)(s:((yL yB)×Int×Tx)):yO (((yL yB)×Int×Tx)⊕((yL yB)×Tx)):=
 if(decide (s.2.1 < (s.2.2.1.length:Int)))=true then
  (idx s.2.2.1 s.2.1).bind λe825=>
  (X8 F s.1 e825.1.1).bind λo826=>
  (idx s.2.2.1 s.2.1).bind λe827=>
  (ZQ F o826 e827.1.2).bind λo828=>
  some (.inl (o828,wi (s.2.1+1),s.2.2))
 else
 some (.inr (s.1,s.2.2))
def Zbw:Lp:=⟨[(1,.ref 0 []),(3,.v (.sl .u8)),(4,.v yI)],[.var (.v yTx) true],[(.sl .u8),yI,yTx],[⟨.exit 0,[(1,.ref 0 []),(3,.v (.sl .u8))],[.var (.v yTx) true],[(.sl .u8),yTx]⟩],Zb (Yu yD) yD⟩
def ZMI:HI:={ still:=[2,8,17,24,26,33,35,38,47,53,55,61,62,64,66]}
theorem ZgB:Zbw.okA yb 97 0:=Zu ZMI [] [Za4,Xr] ⟨Zhi,XE,ytt⟩
def Yw(F:Nat)(s:((yL yB)×Int×Tx)):yO (((yL yB)×Int×Tx)⊕((yL yB)×Tx)):=
 if(decide (s.2.1 < (s.2.2.2.1.length:Int)))=true then
  (idx s.2.2.2.1 s.2.1).bind λe831=>
  (ZQ F s.1 e831.1).bind λo832=>
  (idx s.2.2.2.1 s.2.1).bind λe833=>
  (WN F e833.2).bind λo834=>
  (XL F o832 o834).bind λo835=>
  some (.inl (o835,wi (s.2.1+1),s.2.2))
 else
 some (.inr (s.1,s.2.2))
def Zbx:Lp:=⟨[(1,.ref 0 []),(3,.v (.sl .u8)),(5,.v yI)],[.var (.v yTx) true],[(.sl .u8),yI,yTx],[⟨.exit 2,[(1,.ref 0 []),(3,.v (.sl .u8))],[.var (.v yTx) true],[(.sl .u8),yTx]⟩],Zb (Yw yD) yD⟩
theorem ZgC:Zbx.okA yb 97 1:=Zu ZMI [] [Xr,ZcB,Zam] ⟨XE,Zji,Zgy,ytt⟩
def WO(F:Nat)(a0:Tx):yO ((yL yB)):=
 (ZQ F [] (a0.1.length:Int)).bind λo824=>
 (Zb (Yu F) F (o824,0,a0)).bind λo829=>
 (ZQ F o829.1 (o829.2.2.1.length:Int)).bind λo830=>
 (Zb (Yw F) F (o830,0,o829.2)).bind λo836=>
 (ZQ F o836.1 o836.2.2.2).bind λo837=>
 some o837
def Zjj(F:Nat):Fs yb:=⟨97,[.v yTx],[],[yTx],(zN (.sl .u8)),λx=>WO F x⟩
def ZcC:Fs yb:=Zjj yD
theorem Zjk:ZcC.Ok:=fnO ZMI [(0,Zbw),(1,Zbx)] [Xr] ⟨XE,ytt⟩ ⟨ZgB,ZgC,ytt⟩
def Yx(F:Nat)(a0:Tx):yO ((yL yB)):=
 (WJ F a0).bind λo838=>
 if(!o838)=true then
  some yzz
 else
 (WO F a0).bind λo839=>
 (WA F ZLb [o839]).bind λo840=>
 some o840
def Znr(F:Nat):Fs yb:=⟨55,[.v yTx],[],[yTx],(zN (.arr 32 .u8)),λx=>Yx F x⟩
def ZfY:Fs yb:=Znr yD
theorem Zns:ZfY.Ok:=fnO { still:=[3,7,9]} [] [Zct,ZcC,Q6] ⟨Zjb,Zjk,Zdf,ytt⟩
def WP(F:Nat)(a0:Int)(a1:Bool):yO ((Int×Bool)):=
 if(a0==1)=true then
  if a1=true then
   some (1,false)
  else
  if(a0==5)=true then
   if a1=true then
    some (2,false)
   else
   some (1,true)
  else
  if(a0==6)=true then
   if a1=true then
    some (1,true)
   else
   some (2,false)
  else
  some ((-1),false)
 else
 if(a0==5)=true then
  if a1=true then
   some (2,false)
  else
  some (1,true)
 else
 if(a0==6)=true then
  if a1=true then
   some (1,true)
  else
  some (2,false)
 else
 some ((-1),false)
def Zjl(F:Nat):Fs yb:=⟨56,[.v yI,.v .bool],[],[yI,.bool],[⟨.ret,[(0,.tup [.v yI,.v .bool])],[],[yI,.bool]⟩],λx=>WP F x.1 x.2⟩
def ZcD:Fs yb:=Zjl yD
theorem Zjm:ZcD.Ok:=fnO { still:=[4,5]} [] [] trivial
def WQ(F:Nat)(a0:Branch)(a1:Int):yO (Int):=
 some (ZzR a0.2.1 (wi (a1+a0.2.2.1)))
def Zjn(F:Nat):Fs yb:=⟨57,[.v Zk,.v yI],[],[Zk,yI],(zN yI),λx=>WQ F x.1 x.2⟩
def ZcE:Fs yb:=Zjn yD
theorem Zjo:ZcE.Ok:=fnO { still:=[4]} [] [] trivial
def WR(F:Nat)(a0:yU):yO (yU):=
 (YA F a0).bind λo841=>
 if o841=true then
  some a0
 else
 some 1
def Zjp(F:Nat):Fs yb:=⟨140,[.v .u64],[],[.u64],(zN .u64),λx=>WR F x⟩
def ZcF:Fs yb:=Zjp yD
theorem Zjq:ZcF.Ok:=fnO { still:=[2,3]} [] [Xw] ⟨X5,ytt⟩
def WS(F:Nat)(a0:yU)(a1:yU):yO (yU):=
 (WR F a0).bind λo842=>
 (Yz F o842 (a1 % 2305843009213688669)).bind λo843=>
 some o843
def Zjr(F:Nat):Fs yb:=⟨98,[.v .u64,.v .u64],[],[.u64,.u64],(zN .u64),λx=>WS F x.1 x.2⟩
def ZcG:Fs yb:=Zjr yD
theorem Zjs:ZcG.Ok:=fnO { still:=[4,5,6,8]} [] [ZcF,Qd] ⟨Zjq,Zbg,ytt⟩
def X3(F:Nat)(a0:yU):yO (yU):=
 (WS F 4 a0).bind λo844=>
 some o844
def ZkJ(F:Nat):Fs yb:=⟨58,[.v .u64],[],[.u64],(zN .u64),λx=>X3 F x⟩
def QB:Fs yb:=ZkJ yD
theorem ZcH:QB.Ok:=fnO { still:=[2,3]} [] [ZcG] ⟨Zjs,ytt⟩
abbrev dT6:Type:=(Int×Int×Int×(yL yU)×Int×Int×Chan×Kit×Commit×(yL Zv)×(yL yB)×ZbS×Out×Zv)
def Xn(F:Nat)(s:dT6):yO (dT6⊕dT6):=
 let y853:Bool:=decide (s.2.2.2.2.2.1 < (s.2.2.2.1.length:Int))
 if y853=true then
  (idx s.2.2.2.1 s.2.2.2.2.2.1).bind λe854=>
  (X3 F e854).bind λo855=>
  if(o855 !=s.2.2.2.2.2.2.2.2.2.2.2.1.2.2.2.2.1)=true then
   some (.inl (s.1,s.2.1,s.2.2.1,s.2.2.2.1,s.2.2.2.2.1,wi (s.2.2.2.2.2.1+1),s.2.2.2.2.2.2.1,s.2.2.2.2.2.2.2.1,s.2.2.2.2.2.2.2.2.1,s.2.2.2.2.2.2.2.2.2.1,s.2.2.2.2.2.2.2.2.2.2.1,s.2.2.2.2.2.2.2.2.2.2.2.1,s.2.2.2.2.2.2.2.2.2.2.2.2.1,s.2.2.2.2.2.2.2.2.2.2.2.2.2))
  else
  some (.inr (s.1,s.2.1,s.2.2.1,s.2.2.2.1,s.2.2.2.2.1,s.2.2.2.2.2.1,s.2.2.2.2.2.2.1,s.2.2.2.2.2.2.2.1,s.2.2.2.2.2.2.2.2.1,s.2.2.2.2.2.2.2.2.2.1,s.2.2.2.2.2.2.2.2.2.2.1,s.2.2.2.2.2.2.2.2.2.2.2.1,s.2.2.2.2.2.2.2.2.2.2.2.2.1,s.2.2.2.2.2.2.2.2.2.2.2.2.2))
 else
 some (.inr (s.1,s.2.1,s.2.2.1,s.2.2.2.1,s.2.2.2.2.1,s.2.2.2.2.2.1,s.2.2.2.2.2.2.1,s.2.2.2.2.2.2.2.1,s.2.2.2.2.2.2.2.2.1,s.2.2.2.2.2.2.2.2.2.1,s.2.2.2.2.2.2.2.2.2.2.1,s.2.2.2.2.2.2.2.2.2.2.2.1,s.2.2.2.2.2.2.2.2.2.2.2.2.1,s.2.2.2.2.2.2.2.2.2.2.2.2.2))
def ZNV:yL ESh:=[.var (.v ZK) true,.var (.v XW) true,.var (.v ZL) true,.log Zn 77,.var (.v (.arr 32 .u8)) true,.var (.v Zg0) true,.var (.v Xi) true,.var (.v Zn) true]
abbrev tL9:yL Ty:=[yI,yI,yI,(.sl .u64),yI,yI,ZK,XW,ZL,(.sl Zn),(.arr 32 .u8),Zg0,Xi,Zn]
def ZcI:Lp:=⟨[(2,.v yI),(3,.v yI),(6,.v yI),(7,.v (.sl .u64)),(12,.ref 2 []),(18,.own 3 Zn),(19,.ref 4 []),(20,.v yI),(21,.ref 5 []),(22,.ref 6 []),(25,.ref 7 []),(26,.v yI)],ZNV,tL9,[⟨.exit 2,[(2,.v yI),(3,.v yI),(6,.v yI),(7,.v (.sl .u64)),(12,.ref 2 []),(18,.own 3 Zn),(19,.ref 4 []),(20,.v yI),(22,.ref 6 []),(25,.ref 7 []),(26,.v yI)],ZNV,tL9⟩],Zb (Xn yD) yD⟩
def ZMJ:HI:={ own:=[18,136,139],still:=[16,27,56,78,81,97,98,110,132,133]}
theorem Zhj:ZcI.okA yb 10 1:=Zu ZMJ [] [QB] ⟨ZcH,ytt⟩
def Z0(F:Nat)(s:(Int×Int×Int×(yL yU)×Int×Chan×Kit×Commit×(yL Zv)×(yL yB))):yO ((Int×Int×Int×(yL yU)×Int×Chan×Kit×Commit×(yL Zv)×(yL yB))⊕(Chan×Kit×Commit×(yL Zv)×(yL yB))):=
 let y847:Bool:=decide (s.2.2.2.2.1 < (s.2.2.2.2.2.2.2.1.2.length:Int))
 if y847=true then
  (idx s.2.2.2.2.2.2.2.1.2 s.2.2.2.2.1).bind λe848=>
  (idx s.2.2.2.2.2.2.2.1.1.2.1 s.2.2.2.2.1).bind λe849=>
  (WP F e848.1 (s.1==s.2.1)).bind λo850=>
  if(decide (o850.1 < 0))=true then
   some (.inl (s.1,s.2.1,s.2.2.1,s.2.2.2.1,wi (s.2.2.2.2.1+1),s.2.2.2.2.2.1,s.2.2.2.2.2.2.1,s.2.2.2.2.2.2.2.1,s.2.2.2.2.2.2.2.2.1,s.2.2.2.2.2.2.2.2.2))
  else
  (idx e849.2 o850.1).bind λe851=>
  (WQ F e851 s.2.2.1).bind λo852=>
  if o850.2=true then
   (Zb (Xn F) F (s.1,s.2.1,s.2.2.1,s.2.2.2.1,s.2.2.2.2.1,0,s.2.2.2.2.2.1,s.2.2.2.2.2.2.1,s.2.2.2.2.2.2.2.1,s.2.2.2.2.2.2.2.2.1,s.2.2.2.2.2.2.2.2.2,e848,e849,((s.2.2.2.2.2.2.2.2.2,s.2.2.2.2.1),e849,o850.1,0,o852,0))).bind λo856=>
   if(o856.2.2.2.2.2.1==(o856.2.2.2.1.length:Int))=true then
    some (.inl (o856.1,o856.2.1,o856.2.2.1,o856.2.2.2.1,wi (o856.2.2.2.2.1+1),o856.2.2.2.2.2.2.1,o856.2.2.2.2.2.2.2.1,o856.2.2.2.2.2.2.2.2.1,o856.2.2.2.2.2.2.2.2.2.1,o856.2.2.2.2.2.2.2.2.2.2.1))
   else
   (idx o856.2.2.2.1 o856.2.2.2.2.2.1).bind λe857=>
   (idx o856.2.2.2.2.2.2.2.2.2.2.2.2.1.2 2).bind λe858=>
   (WQ F e858 o856.2.2.1).bind λo859=>
   if(apB o856.2.2.2.2.2.2.2.2.2.1.length 1 104)=true then
    let y860:(yL Zv):=o856.2.2.2.2.2.2.2.2.2.1++([(o856.2.2.2.2.2.2.2.2.2.2.2.2.2.1,o856.2.2.2.2.2.2.2.2.2.2.2.2.2.2.1,o856.2.2.2.2.2.2.2.2.2.2.2.2.2.2.2.1,e857,o856.2.2.2.2.2.2.2.2.2.2.2.2.2.2.2.2.2.1,o859)]:yL Zv)
    some (.inl (o856.1,o856.2.1,o856.2.2.1,o856.2.2.2.1,wi (o856.2.2.2.2.1+1),o856.2.2.2.2.2.2.1,o856.2.2.2.2.2.2.2.1,o856.2.2.2.2.2.2.2.2.1,y860,o856.2.2.2.2.2.2.2.2.2.2.1))
   else
   none
  else
  if(apB s.2.2.2.2.2.2.2.2.1.length 1 104)=true then
   let y861:(yL Zv):=s.2.2.2.2.2.2.2.2.1++([((s.2.2.2.2.2.2.2.2.2,s.2.2.2.2.1),e849,o850.1,0,o852,0)]:yL Zv)
   some (.inl (s.1,s.2.1,s.2.2.1,s.2.2.2.1,wi (s.2.2.2.2.1+1),s.2.2.2.2.2.1,s.2.2.2.2.2.2.1,s.2.2.2.2.2.2.2.1,y861,s.2.2.2.2.2.2.2.2.2))
  else
  none
 else
 some (.inr (s.2.2.2.2.2.1,s.2.2.2.2.2.2.1,s.2.2.2.2.2.2.2.1,s.2.2.2.2.2.2.2.2.1,s.2.2.2.2.2.2.2.2.2))
abbrev ZOg:yL Ty:=[yI,yI,yI,(.sl .u64),yI,ZK,XW,ZL,(.sl Zn),(.arr 32 .u8)]
abbrev zF:List ESh:=[.var (.v ZK) true,.var (.v XW) true,.var (.v ZL) true,.log Zn 77,.var (.v (.arr 32 .u8)) true]
def ZcJ:Lp:=⟨[(2,.v yI),(3,.v yI),(6,.v yI),(7,.v (.sl .u64)),(12,.ref 2 []),(18,.own 3 Zn),(19,.ref 4 []),(20,.v yI)],zF,ZOg,[⟨.exit 0,[(18,.own 3 Zn)],zF,[ZK,XW,ZL,(.sl Zn),(.arr 32 .u8)]⟩],Zb (Z0 yD) yD⟩
theorem Zhk:ZcJ.okA yb 10 0:=Zu ZMJ [(1,ZcI)] [ZcD,ZcE] ⟨Zjm,Zjo,ytt⟩ ⟨Zhj,ytt⟩
def Vx(F:Nat)(a0:Chan)(a1:Kit)(a2:Int)(a3:Int)(a4:Commit)(a5:yU)(a6:Int)(a7:(yL yU)):yO ((yL Zv)):=
 (YA F a5).bind λo845=>
 if(a2 !=0)=true then
  if(a2 !=1)=true then
   some []
  else
  if(a3 !=0)=true then
   if(a3 !=1)=true then
    some []
   else
   if(!o845)=true then
    some []
   else
   if(decide (a6 < 0))=true then
    some []
   else
   if(decide (a6 > 1048576))=true then
    some []
   else
   (Yx F a4.1).bind λo846=>
   (Zb (Z0 F) F (a2,a3,a6,a7,0,a0,a1,a4,[],o846)).bind λo862=>
   some o862.2.2.2.1
  else
  if(!o845)=true then
   some []
  else
  if(decide (a6 < 0))=true then
   some []
  else
  if(decide (a6 > 1048576))=true then
   some []
  else
  (Yx F a4.1).bind λo863=>
  (Zb (Z0 F) F (a2,a3,a6,a7,0,a0,a1,a4,[],o863)).bind λo864=>
  some o864.2.2.2.1
 else
 if(a3 !=0)=true then
  if(a3 !=1)=true then
   some []
  else
  if(!o845)=true then
   some []
  else
  if(decide (a6 < 0))=true then
   some []
  else
  if(decide (a6 > 1048576))=true then
   some []
  else
  (Yx F a4.1).bind λo865=>
  (Zb (Z0 F) F (a2,a3,a6,a7,0,a0,a1,a4,[],o865)).bind λo866=>
  some o866.2.2.2.1
 else
 if(!o845)=true then
  some []
 else
 if(decide (a6 < 0))=true then
  some []
 else
 if(decide (a6 > 1048576))=true then
  some []
 else
 (Yx F a4.1).bind λo867=>
 (Zb (Z0 F) F (a2,a3,a6,a7,0,a0,a1,a4,[],o867)).bind λo868=>
 some o868.2.2.2.1
def ZkK(F:Nat):Fs yb:=⟨10,[.v ZK,.v XW,.v yI,.v yI,.v ZL,.v .u64,.v yI,.v (.sl .u64)],[],[ZK,XW,yI,yI,ZL,.u64,yI,(.sl .u64)],(zN (.sl Zn)),λx=>Vx F x.1 x.2.1 x.2.2.1 x.2.2.2.1 x.2.2.2.2.1 x.2.2.2.2.2.1 x.2.2.2.2.2.2.1 x.2.2.2.2.2.2.2⟩
def Zdh:Fs yb:=ZkK yD
theorem ZkL:Zdh.Ok:=fnO ZMJ [(0,ZcJ)] [Xw,ZfY] ⟨X5,Zns,ytt⟩ ⟨Zhk,ytt⟩
def ZbU(F:Nat)(a0:yU):yO (yU):=
 some (a0 % 2305843009213688669)
def Znt(F:Nat):Fs yb:=⟨143,[.v .u64],[],[.u64],(zN .u64),λx=>ZbU F x⟩
def ZfZ:Fs yb:=Znt yD
theorem Znu:ZfZ.Ok:=fnO { still:=[2]} [] [] trivial
def Za6(F:Nat)(a0:yU)(a1:yU):yO (yU):=
 (ZbU F a0).bind λo869=>
 (ZbU F a1).bind λo870=>
 some ((o869+o870) % 2305843009213688669)
def ZlN(F:Nat):Fs yb:=⟨100,[.v .u64,.v .u64],[],[.u64,.u64],(zN .u64),λx=>Za6 F x.1 x.2⟩
def Ze2:Fs yb:=ZlN yD
theorem ZlO:Ze2.Ok:=fnO { still:=[4,5,7]} [] [ZfZ] ⟨Znu,ytt⟩
def YE(F:Nat)(s:(yU×Int×Int×(yL yB))):yO ((yU×Int×Int×(yL yB))⊕(yU×Int×(yL yB))):=
 if(decide (s.2.2.1 >= 0))=true then
  if(inB s.2.1 32)=true then
   (s.2.2.2[s.2.1.toNat]?).bind λe871=>
   let y872:yU:=Zw (yae e871.toNat) (min ((w64 s.2.2.1).toNat:Int).toNat 64)
   some (.inl (((2*s.1)+(y872&&&1)) % 2305843009213688668,s.2.1,wi (s.2.2.1 - 1),s.2.2.2))
  else
  none
 else
 some (.inr (s.1,s.2.1,s.2.2.2))
def ZcK:Lp:=⟨[(1,.ref 0 []),(3,.v .u64),(4,.v yI),(5,.v yI)],[.var (.v (.arr 32 .u8)) true],[.u64,yI,yI,(.arr 32 .u8)],[⟨.exit 2,[(1,.ref 0 []),(3,.v .u64),(4,.v yI)],[.var (.v (.arr 32 .u8)) true],[.u64,yI,(.arr 32 .u8)]⟩],Zb (YE yD) yD⟩
theorem Zhl:ZcK.okA yb 145 1:=Zu { still:=[2]} [] [] trivial
def YF(F:Nat)(s:(yU×Int×(yL yB))):yO ((yU×Int×(yL yB))⊕(yU×(yL yB))):=
 if(decide (s.2.1 < 32))=true then
  (Zb (YE F) F (s.1,s.2.1,7,s.2.2)).bind λo873=>
  some (.inl (o873.1,wi (o873.2.1+1),o873.2.2))
 else
 some (.inr (s.1,s.2.2))
def ZcL:Lp:=⟨[(1,.ref 0 []),(3,.v .u64),(4,.v yI)],[.var (.v (.arr 32 .u8)) true],[.u64,yI,(.arr 32 .u8)],[⟨.exit 0,[(3,.v .u64)],[.var (.v (.arr 32 .u8)) true],[.u64,(.arr 32 .u8)]⟩],Zb (YF yD) yD⟩
theorem Zhm:ZcL.okA yb 145 0:=Zu { still:=[2]} [(1,ZcK)] [] trivial ⟨Zhl,ytt⟩
def Vy(F:Nat)(a0:(yL yB)):yO (yU):=
 (Zb (YF F) F (0,0,a0)).bind λo874=>
 some (o874.1+1)
def ZkM(F:Nat):Fs yb:=⟨145,[.v (.arr 32 .u8)],[],[(.arr 32 .u8)],(zN .u64),λx=>Vy F x⟩
def Zdi:Fs yb:=ZkM yD
theorem ZkN:Zdi.Ok:=fnO { still:=[2]} [(0,ZcL)] [] trivial ⟨Zhm,ytt⟩
def WC(F:Nat)(a0:ByteArray)(a1:yU)(a2:yU):yO (yU):=
 (Ym F [] a1).bind λo875=>
 (Ym F [] a2).bind λo876=>
 (WA F a0 [o875,o876]).bind λo877=>
 (Vy F o877).bind λo878=>
 some o878
def Zik(F:Nat):Fs yb:=⟨101,[.v .str,.v .u64,.v .u64],[],[.str,.u64,.u64],(zN .u64),λx=>WC F x.1 x.2.1 x.2.2⟩
def Zby:Fs yb:=Zik yD
def ZOh:HI:={ still:=[6,9,10,12,13,15,18,19]}
theorem Zil:Zby.Ok:=fnO ZOh [] [X9,Q6,Zdi] ⟨Vw,Zdf,ZkN,ytt⟩
def Y3(F:Nat)(a0:yU)(a1:yU):yO (yU):=
 (X3 F a0).bind λo879=>
 (WC F ZAR a1 o879).bind λo880=>
 (Za6 F a0 o880).bind λo881=>
 some o881
def Zfh(F:Nat):Fs yb:=⟨60,[.v .u64,.v .u64],[],[.u64,.u64],(zN .u64),λx=>Y3 F x.1 x.2⟩
def QL:Fs yb:=Zfh yD
theorem Zfi:QL.Ok:=fnO { still:=[4,5,6,7,8,9]} [] [QB,Zby,Ze2] ⟨ZcH,Zil,ZlO,ytt⟩
def YG(F:Nat)(s:(yU×(yL Zv)×Int×Kit×Commit×(yL yU))):yO ((yU×(yL Zv)×Int×Kit×Commit×(yL yU))⊕(Kit×Commit×(yL yU))):=
 if(decide (s.2.2.1 < (s.2.1.length:Int)))=true then
  (idx s.2.1 s.2.2.1).bind λe882=>
  if(decide (e882.1.2 < 0))=true then
   if(apB s.2.2.2.2.2.length 1 8)=true then
    some (.inl (s.1,s.2.1,wi (s.2.2.1+1),s.2.2.2.1,s.2.2.2.2.1,s.2.2.2.2.2++([0]:yL yU)))
   else
   none
  else
  if(decide (e882.1.2 >= (s.2.2.2.2.1.2.length:Int)))=true then
   if(apB s.2.2.2.2.2.length 1 8)=true then
    some (.inl (s.1,s.2.1,wi (s.2.2.1+1),s.2.2.2.1,s.2.2.2.2.1,s.2.2.2.2.2++([0]:yL yU)))
   else
   none
  else
  (idx s.2.2.2.2.1.2 e882.1.2).bind λe883=>
  if(e883.1==1)=true then
   (Y3 F s.2.2.2.1.2.2.1 s.1).bind λo884=>
   if(apB s.2.2.2.2.2.length 1 8)=true then
    some (.inl (s.1,s.2.1,wi (s.2.2.1+1),s.2.2.2.1,s.2.2.2.2.1,s.2.2.2.2.2++([o884]:yL yU)))
   else
   none
  else
  (Y3 F s.2.2.2.1.2.2.2.1 s.1).bind λo885=>
  if(apB s.2.2.2.2.2.length 1 8)=true then
   some (.inl (s.1,s.2.1,wi (s.2.2.1+1),s.2.2.2.1,s.2.2.2.2.1,s.2.2.2.2.2++([o885]:yL yU)))
  else
  none
 else
 some (.inr (s.2.2.2.1,s.2.2.2.2.1,s.2.2.2.2.2))
def ZcM:Lp:=⟨[(2,.v .u64),(3,.v (.sl Zn)),(4,.ref 0 []),(5,.ref 1 []),(9,.own 2 .u64),(10,.v yI)],[.var (.v XW) true,.var (.v ZL) true,.log .u64 36],[.u64,(.sl Zn),yI,XW,ZL,(.sl .u64)],[⟨.exit 0,[(9,.own 2 .u64)],[.var (.v XW) true,.var (.v ZL) true,.log .u64 36],[XW,ZL,(.sl .u64)]⟩],Zb (YG yD) yD⟩
def ZNW:HI:={ own:=[9,34,36,48,53],still:=[8,49,50]}
theorem Zhn:ZcM.okA yb 12 0:=Zu ZNW [] [QL] ⟨Zfi,ytt⟩
def Vz(F:Nat)(a0:Kit)(a1:Commit)(a2:yU)(a3:(yL Zv)):yO ((yL yU)):=
 (Zb (YG F) F (a2,a3,0,a0,a1,[])).bind λo886=>
 some o886.2.2
def ZkO(F:Nat):Fs yb:=⟨12,[.v XW,.v ZL,.v .u64,.v (.sl Zn)],[],[XW,ZL,.u64,(.sl Zn)],(zN (.sl .u64)),λx=>Vz F x.1 x.2.1 x.2.2.1 x.2.2.2⟩
def Zdj:Fs yb:=ZkO yD
theorem ZkP:Zdj.Ok:=fnO ZNW [(0,ZcM)] [] trivial ⟨Zhn,ytt⟩
def YH(F:Nat)(s:(Int×Int×Z4×Z4×Branch×Branch)):yO ((Int×Int×Z4×Z4×Branch×Branch)⊕((Bool×Z4×Z4×Branch×Branch)⊕(Int×Z4×Z4×Branch×Branch))):=
 if(decide (s.2.1 < (s.2.2.2.2.1.1.length:Int)))=true then
  (idx s.2.2.2.2.1.1 s.2.1).bind λe889=>
  (idx s.2.2.2.2.2.1 s.2.1).bind λe890=>
  if(e889 !=e890)=true then
   some (.inr (.inl (false,s.2.2.1,s.2.2.2.1,s.2.2.2.2.1,s.2.2.2.2.2)))
  else
  some (.inl (s.1,wi (s.2.1+1),s.2.2.1,s.2.2.2.1,s.2.2.2.2.1,s.2.2.2.2.2))
 else
 some (.inr (.inr (s.1,s.2.2.1,s.2.2.2.1,s.2.2.2.2.1,s.2.2.2.2.2)))
abbrev zI:List ESh:=[.var (.v ZC) true,.var (.v ZC) true,.var (.v Zk) true,.var (.v Zk) true]
def ZcN:Lp:=⟨[(2,.ref 0 []),(3,.ref 1 []),(5,.v yI),(6,.ref 2 []),(7,.ref 3 []),(8,.v yI)],zI,[yI,yI,ZC,ZC,Zk,Zk],[⟨.ret,[(4,.v .bool)],zI,[.bool,ZC,ZC,Zk,Zk]⟩,⟨.exit 2,[(2,.ref 0 []),(3,.ref 1 []),(5,.v yI)],zI,[yI,ZC,ZC,Zk,Zk]⟩],Zb (YH yD) yD⟩
theorem Zho:ZcN.okA yb 61 1:=Zu { still:=[4]} [] [] trivial
def YI(F:Nat)(s:(Int×Z4×Z4)):yO ((Int×Z4×Z4)⊕((Bool×Z4×Z4)⊕(Z4×Z4))):=
 if(decide (s.1 < (s.2.1.length:Int)))=true then
  (idx s.2.1 s.1).bind λe887=>
  (idx s.2.2 s.1).bind λe888=>
  if((e887.1.length:Int)!=(e888.1.length:Int))=true then
   some (.inr (.inl (false,s.2.1,s.2.2)))
  else
  if(e887.2.1 !=e888.2.1)=true then
   some (.inr (.inl (false,s.2.1,s.2.2)))
  else
  if(e887.2.2.1 !=e888.2.2.1)=true then
   some (.inr (.inl (false,s.2.1,s.2.2)))
  else
  if(e887.2.2.2 !=e888.2.2.2)=true then
   some (.inr (.inl (false,s.2.1,s.2.2)))
  else
  (Zb (YH F) F (s.1,0,s.2.1,s.2.2,e887,e888)).bind λo891=>
  match o891 with
  |.inl o892=>
   some (.inr (.inl (o892.1,o892.2.1,o892.2.2.1)))
  |.inr o893=>
   some (.inl (wi (o893.1+1),o893.2.1,o893.2.2.1))
 else
 some (.inr (.inr (s.2.1,s.2.2)))
def ZcO:Lp:=⟨[(2,.ref 0 []),(3,.ref 1 []),(5,.v yI)],[.var (.v ZC) true,.var (.v ZC) true],[yI,ZC,ZC],[⟨.ret,[(4,.v .bool)],[.var (.v ZC) true,.var (.v ZC) true],[.bool,ZC,ZC]⟩,⟨.exit 0,[],[.var (.v ZC) true,.var (.v ZC) true],[ZC,ZC]⟩],Zb (YI yD) yD⟩
theorem Zhp:ZcO.okA yb 61 0:=Zu { still:=[4]} [(1,ZcN)] [] trivial ⟨Zho,ytt⟩
def VA(F:Nat)(a0:Z4)(a1:Z4):yO (Bool):=
 if((a0.length:Int)!=(a1.length:Int))=true then
  some false
 else
 (Zb (YI F) F (0,a0,a1)).bind λo894=>
 match o894 with
 |.inl o895=>
  some o895.1
 |.inr o896=>
  some true
def ZkQ(F:Nat):Fs yb:=⟨61,[.v ZC,.v ZC],[],[ZC,ZC],(zN .bool),λx=>VA F x.1 x.2⟩
def Zdk:Fs yb:=ZkQ yD
theorem ZkR:Zdk.Ok:=fnO { still:=[4]} [(0,ZcO)] [] trivial ⟨Zhp,ytt⟩
def YJ(F:Nat)(s:((yL Zv)×(yL Zv)×Int)):yO (((yL Zv)×(yL Zv)×Int)⊕(Bool⊕Unit)):=
 if(decide (s.2.2 < (s.1.length:Int)))=true then
  (idx s.1 s.2.2).bind λe897=>
  (idx s.2.1 s.2.2).bind λe898=>
  if(!(decide (e897.1=e898.1)))=true then
   some (.inr (.inl false))
  else
  if(e897.2.1.1 !=e898.2.1.1)=true then
   some (.inr (.inl false))
  else
  (VA F e897.2.1.2 e898.2.1.2).bind λo899=>
  if(!o899)=true then
   some (.inr (.inl false))
  else
  if(e897.2.2.1 !=e898.2.2.1)=true then
   some (.inr (.inl false))
  else
  if(e897.2.2.2.1 !=e898.2.2.2.1)=true then
   some (.inr (.inl false))
  else
  if(e897.2.2.2.2.1 !=e898.2.2.2.2.1)=true then
   some (.inr (.inl false))
  else
  if(e897.2.2.2.2.2 !=e898.2.2.2.2.2)=true then
   some (.inr (.inl false))
  else
  some (.inl (s.1,s.2.1,wi (s.2.2+1)))
 else
 some (.inr (.inr ()))
def ZcP:Lp:=⟨[(0,.v (.sl Zn)),(1,.v (.sl Zn)),(5,.v yI)],[],[(.sl Zn),(.sl Zn),yI],[⟨.ret,[(4,.v .bool)],[],[.bool]⟩,⟨.exit 0,[],[],[]⟩],Zb (YJ yD) yD⟩
theorem Zhq:ZcP.okA yb 13 0:=Zu { still:=[4,44,47]} [] [Zdk] ⟨ZkR,ytt⟩
def X4(F:Nat)(a0:(yL Zv))(a1:(yL Zv)):yO (Bool):=
 if((a0.length:Int)!=(a1.length:Int))=true then
  some false
 else
 (Zb (YJ F) F (a0,a1,0)).bind λo900=>
 match o900 with
 |.inl o901=>
  some o901
 |.inr o902=>
  some true
def ZkS(F:Nat):Fs yb:=⟨13,[.v (.sl Zn),.v (.sl Zn)],[],[(.sl Zn),(.sl Zn)],(zN .bool),λx=>X4 F x.1 x.2⟩
def Zdl:Fs yb:=ZkS yD
theorem ZkT:Zdl.Ok:=fnO { still:=[4,44,47]} [(0,ZcP)] [] trivial ⟨Zhq,ytt⟩
def YK(F:Nat)(s:((yL Zv)×Int×Int)):yO (((yL Zv)×Int×Int)⊕Int):=
 if(decide (s.2.2 < (s.1.length:Int)))=true then
  (idx s.1 s.2.2).bind λe903=>
  some (.inl (s.1,ZzR s.2.1 e903.2.2.2.2.1,wi (s.2.2+1)))
 else
 some (.inr s.2.1)
def ZcQ:Lp:=⟨[(0,.v (.sl Zn)),(3,.v yI),(4,.v yI)],[],[(.sl Zn),yI,yI],[⟨.exit 0,[(3,.v yI)],[],[yI]⟩],Zb (YK yD) yD⟩
theorem Zhr:ZcQ.okA yb 15 0:=Zu { still:=[2]} [] [] trivial
def VB(F:Nat)(a0:(yL Zv)):yO (Int):=
 (Zb (YK F) F (a0,0,0)).bind λo904=>
 some o904
def ZkU(F:Nat):Fs yb:=⟨15,[.v (.sl Zn)],[],[(.sl Zn)],(zN yI),λx=>VB F x⟩
def Zdm:Fs yb:=ZkU yD
theorem ZkV:Zdm.Ok:=fnO { still:=[2]} [(0,ZcQ)] [] trivial ⟨Zhr,ytt⟩
def WT(F:Nat)(a0:Zv)(a1:Int):yO (Bool):=
 if(decide (a1 >= a0.2.2.2.2.1))=true then
  if(a0.2.2.2.2.2==0)=true then
   some true
  else
  some (decide (a0.2.2.2.2.2 > a1))
 else
 some false
def Zjt(F:Nat):Fs yb:=⟨62,[.v Zn,.v yI],[],[Zn,yI],(zN .bool),λx=>WT F x.1 x.2⟩
def ZcR:Fs yb:=Zjt yD
theorem Zju:ZcR.Ok:=fnO { still:=[4]} [] [] trivial
def YL(F:Nat)(s:((yL Zv)×Int×Int×(yL Zv))):yO (((yL Zv)×Int×Int×(yL Zv))⊕(yL Zv)):=
 if(decide (s.2.2.1 < (s.1.length:Int)))=true then
  (idx s.1 s.2.2.1).bind λe905=>
  (WT F e905 s.2.1).bind λo906=>
  if o906=true then
   (idx s.1 s.2.2.1).bind λe907=>
   if(apB s.2.2.2.length 1 104)=true then
    some (.inl (s.1,s.2.1,wi (s.2.2.1+1),s.2.2.2++([e907]:yL Zv)))
   else
   none
  else
  some (.inl (s.1,s.2.1,wi (s.2.2.1+1),s.2.2.2))
 else
 some (.inr s.2.2.2)
def ZcS:Lp:=⟨[(0,.v (.sl Zn)),(1,.v yI),(5,.own 0 Zn),(6,.v yI)],[.log Zn 77],[(.sl Zn),yI,yI,(.sl Zn)],[⟨.exit 0,[(5,.own 0 Zn)],[.log Zn 77],[(.sl Zn)]⟩],Zb (YL yD) yD⟩
def ZNX:HI:={ own:=[5,19,25],still:=[4,16,17]}
theorem Zhs:ZcS.okA yb 17 0:=Zu ZNX [] [ZcR] ⟨Zju,ytt⟩
def VC(F:Nat)(a0:(yL Zv))(a1:Int):yO ((yL Zv)):=
 (Zb (YL F) F (a0,a1,0,[])).bind λo908=>
 some o908
def ZkW(F:Nat):Fs yb:=⟨17,[.v (.sl Zn),.v yI],[],[(.sl Zn),yI],(zN (.sl Zn)),λx=>VC F x.1 x.2⟩
def Zdn:Fs yb:=ZkW yD
theorem ZkX:Zdn.Ok:=fnO ZNX [(0,ZcS)] [] trivial ⟨Zhs,ytt⟩
end
end Go.Proofs.YtpgpjjjoglafdaaGreat
end
section
set_option maxRecDepth 4000
namespace Go.Proofs.YtpgpjjjoglafdaaGreat
open Go Go.Ev
theorem ZIi{m:Nat}(hm:0 < m):∀(f a n o:Nat),o < m->pwm m f a n o < m
 |0,_,_,o,h=>h
 |f+1,a,n,o,h=>by
  rw[pwm];split
  ·exact h
  ·refine ZIi hm f _ _ _ ?_;split
   ·exact ybh _ hm
   ·exact h
theorem ZIj{m:Nat}(hm:1 < m)(k a n:Nat)(h:n < 2 ^ k):pwm m k a n 1=a ^ n % m:=by
 rw[<-yao (ZIi (by omega) k a n 1 hm),ZEn k a n 1 h,Nat.one_mul]
instance(a:Nat):Decidable (IsPt a):=by unfold IsPt;infer_instance
theorem ZMK{z:Nat}(h:z < mdl):z < 18446744073709551616:=Nat.lt_trans h (by decide)
theorem ZC8{z:Nat}(h:z < mdl):(yae z).toNat=z:=by
 rw[ybb,yao (ZMK h)]
theorem Zr6(z:Nat):z % mdl < mdl:=ybh _ (by decide)
theorem ZBc(a n:yU):ZaH yD a n=some (yae (a.toNat ^ n.toNat % mdl)):=by
 unfold ZaH;rw[ZIj (by decide) 64 a.toNat n.toNat (ybs n)];rfl
theorem ZwN{a n:yU}(h:a.toNat < mdl):Yz yD a n=some (yae (a.toNat ^ n.toNat % mdl)):=by
 unfold Yz;rw[yW (yY (show a.toNat < 4611686018427377339 from h)),ZIj (by decide) 64 a.toNat n.toNat (ybs n)]
 rfl
theorem ZIk{z:Nat}(h:z < mdl):(yae z==1)=decide (z=1):=by
 rw[Bool.eq_iff_iff,yT,yN, <-UInt64.toNat_inj,ZC8 h];rfl
theorem ZcT(p:yU):XI yD p=some (decide (IsPt p.toNat)):=by
 unfold XI;by_cases h1:0 < p.toNat
 ·rw[yW (yY (show p > 0 from ycb.2 h1))]
  by_cases h2:p.toNat < mdl
  ·rw[yW (yY (show p < 4611686018427377339 from ycb.2 h2)),ZBc,ya,ZIk (Zr6 _)]
   congr 1;rw[decide_eq_decide];exact⟨λh=>⟨h1,h2,h⟩,λh=>h.2.2⟩
  ·rw[yX (by rw[yN];exact λh=>h2 (ycb.1 h)),yZ (λh=>h2 h.2.1)]
 ·rw[yX (by rw[yN];exact λh=>h1 (ycb.1 h)),yZ (λh=>h1 h.1)]
theorem Zls(p:yU):YA yD p=some (decide (IsPt p.toNat)):=by
 unfold YA;by_cases h1:0 < p.toNat
 ·rw[yW (yY (show p >= 1 from ycv.2 h1))]
  by_cases h2:p.toNat < mdl
  ·rw[yW (yY (show p < 4611686018427377339 from ycb.2 h2)),ZwN h2,ya,ZIk (Zr6 _)]
   congr 1;rw[decide_eq_decide];exact⟨λh=>⟨h1,h2,h⟩,λh=>h.2.2⟩
  ·rw[yX (by rw[yN];exact λh=>h2 (ycb.1 h)),yZ (λh=>h2 h.2.1)]
 ·rw[yX (by rw[yN];exact λh=>h1 (ycv.1 h)),yZ (λh=>h1 h.1)]
def tk(p:yU):yU:=if IsPt p.toNat then p else 1
theorem ZBd(p:yU):IsPt (tk p).toNat:=by
 unfold tk;split
 ·assumption
 ·exact ZMo
theorem ZBe(p:yU):ZaN yD p=some (tk p):=by
 unfold ZaN tk;rw[ZcT,ya];by_cases h:IsPt p.toNat
 ·rw[yW (yY h),yW h]
 ·rw[yX (by rw[yN];exact h),yX h]
theorem ZFN(p:yU):WR yD p=some (tk p):=by
 unfold WR tk;rw[Zls,ya];by_cases h:IsPt p.toNat
 ·rw[yW (yY h),yW h]
 ·rw[yX (by rw[yN];exact h),yX h]
def sc(p:yU)(n:Nat):yU:=yae ((tk p).toNat ^ n % mdl)
theorem ZIl(p:yU)(n:Nat):sc p (n % ord)=sc p n:=by
 unfold sc;rw[ZKj (ZBd p)]
theorem ZBf(k:yU):(k % 2305843009213688669).toNat=k.toNat % ord:=by
 rw[UInt64.toNat_mod];rfl
theorem ZuA(p k:yU):Qn yD p k=some (sc p k.toNat):=by
 unfold Qn;rw[ZBe,ya,ZBc,ya,ZBf, <-ZIl];rfl
theorem ZFO(p k:yU):WS yD p k=some (sc p k.toNat):=by
 unfold WS;rw[ZFN,ya,ZwN (ZBd p).2.1,ya,ZBf, <-ZIl];rfl
def B(n:Nat):yU:=sc 4 n
theorem Zr7(k:yU):Ya yD k=some (B k.toNat):=by
 unfold Ya;rw[ZuA,ya];rfl
theorem ZuB(k:yU):X3 yD k=some (B k.toNat):=by
 unfold X3;rw[ZFO,ya];rfl
def ad(p q:yU):yU:=yae ((tk p).toNat*(tk q).toNat % mdl)
theorem ZML(p q:yU):(ad p q).toNat=(tk p).toNat*(tk q).toNat % mdl:=ZC8 (Zr6 _)
theorem ZLd(p q:yU):IsPt (ad p q).toNat:=by
 rw[ZML];exact ZMp (ZBd p) (ZBd q)
theorem ZIm(a b:yU):Yb yD a b=some (yae (a.toNat*b.toNat % mdl)):=ZAJ a b
def ZrO:yL yU->Nat->Nat
 |[],o=>o
 |p::r,o=>ZrO r (o*(tk p).toNat % mdl)
theorem ZEx:∀(l:yL yU)(o:Nat),o < mdl->ZrO l o < mdl
 |[],o,h=>h
 |p::r,o,h=>ZEx r _ (Zr6 _)
theorem ZMM{l:yL yU}(hl:l.length<=1000):ZhU yD l=some (yae (ZrO l 1)):=by
 have key:∀(k:Nat),k<=l.length->ZrO (l.take k) 1 < mdl:=λk _=>ZEx _ _ (by decide)
 have app:∀(l:yL yU)(p:yU)(o:Nat),ZrO (l++[p]) o=ZrO l o*(tk p).toNat % mdl:=by
  intro l
  induction l with
  |nil=>intro p o;rfl
  |cons q r ih=>intro p o;exact ih p _
 unfold ZhU
 rw[show((1:yU),l,(l.length:Int),(0:Int))=(λk:Nat=>(yae (ZrO (l.take k) 1),l,(l.length:Int),(k:Int))) 0 from rfl,
  Zt (x:=yae (ZrO l 1)) l.length (λk:Nat=>(yae (ZrO (l.take k) 1),l,(l.length:Int),(k:Int))) ?_ ?_ (by omega),ya]
 ·intro k hk;obtain⟨e,he,_⟩:=Ze hk;unfold Zb1;dsimp only;rw[yW (ZF hk),Zl he,ya,ZBe,ya,ZIm,ya,Zp (by omega),WM he,app,ZC8 (key k (by omega))]
 ·unfold Zb1;dsimp only;rw[yX (by rw[ZA];decide),yaj]
theorem ZIn(p q:yU):ZbN yD p q=some (ad p q):=by
 unfold ZbN;rw[ZMM (by simp),ya];unfold ad ZrO ZrO ZrO;rw[Nat.one_mul,yao (ZBd p).2.1]
theorem ZMN{z:Nat}:(yae (z % ord)).toNat=z % ord:=by
 rw[ybb,yao (Nat.lt_trans (ybh _ (by decide)) (by decide))]
theorem ZIo{z:Nat}:z % ord < ord:=ybh _ (by decide)
theorem ZEy(a b:yU):ZeS yD a b=some (yae ((a.toNat+b.toNat) % ord)):=by
 unfold ZeS Zd1 Zc5;rw[ya,ya,ya];congr 1;have ha:a.toNat % ord < ord:=ZIo;have hb:b.toNat % ord < ord:=ZIo;rw[<-UInt64.toNat_inj,ZBf,UInt64.toNat_add,ZBf,ZBf,ZMN,yao (a:=a.toNat % ord+b.toNat % ord) (by unfold ord at*;omega), <-Nat.add_mod]
theorem ZwO{ls:yL (yL yB)}(h:ls.flatten.length<=1000000000)(hn:ls.length<=1000):YM yD ls=some ls.flatten:=by
 unfold YM
 rw[show(ls,(0:Int),ls,(ls.length:Int),(0:Int))=(λk:Nat=>(ls,((ls.take k).flatten.length:Int),ls,(ls.length:Int),(k:Int))) 0 from rfl,
  Zt (x:=(ls,(ls.flatten.length:Int))) ls.length (λk:Nat=>(ls,((ls.take k).flatten.length:Int),ls,(ls.length:Int),(k:Int))) ?_ ?_ (by omega),ya]
 ·have hg:Ztj (ls.flatten.length:Int)=some []:=by
   unfold Ztj;rw[yW];rw[Bool.and_eq_true];exact⟨yY (by omega),yY (by unfold Zm;omega)⟩
  dsimp only
  rw[hg,ya,show(ls,(ls.length:Int),(0:Int),([]:yL yB))=(λk:Nat=>(ls,(ls.length:Int),(k:Int),(ls.take k).flatten)) 0 from rfl,
   Zt (x:=ls.flatten) ls.length (λk:Nat=>(ls,(ls.length:Int),(k:Int),(ls.take k).flatten)) ?_ ?_ (by omega),ya]
  ·intro k hk;obtain⟨e,he,_⟩:=Ze hk;have hf:=ZwM he;have hl:=ZEw ls (k+1);rw[hf,yo] at hl;unfold Y6;dsimp only;rw[yW (ZF hk),Zl he,ya,yW (ZU (by omega) (by omega)),Zp (by omega),hf]
  ·unfold Y6;dsimp only;rw[yX (by rw[ZA];decide),yaj]
 ·intro k hk;obtain⟨e,he,_⟩:=Ze hk;have hf:=ZwM he;have hl:=ZEw ls (k+1);rw[hf,yo] at hl;unfold Y5;dsimp only;rw[yW (ZF hk),Zl he,ya,ZO (z:=((ls.take k).flatten.length:Int)+(e.length:Int)) (by omega) (by omega),yX (ynd (by omega)),Zp (by omega),hf,yo];rfl
 ·unfold Y5;dsimp only;rw[yX (by rw[ZA];decide),yaj]
theorem ZyX{a b:yL yB}(h:a.length+b.length<=1000000000):Q4 yD a b=some (a++b):=by
 unfold Q4;rw[ZwO (by simp;omega) (by simp),ya];simp
def XF(n:Nat):yL yB:=if h:n < 128 then[yay n] else yay (n % 128+128)::XF (n / 128)
termination_by n
decreasing_by omega
theorem Ze3{n:Nat}(h:n < 128):XF n=[yay n]:=by rw[XF,dif_pos h]
theorem ZuC{n:Nat}(h:¬n < 128):XF n=yay (n % 128+128)::XF (n / 128):=by rw[XF,dif_neg h]
theorem ZEz:∀(j n:Nat),n < 128 ^ (j+1)->(XF n).length<=j+1
 |0,n,h=>by rw[Ze3 (by omega)];exact ym _
 |j+1,n,h=>by
  by_cases h0:n < 128
  ·rw[Ze3 h0,List.length_singleton];omega
  ·rw[ZuC h0];have:=ZEz j (n / 128) (by rw[Nat.pow_succ] at h;omega);simp only[yah];omega
theorem ZV{n:Nat}(h:n<=9223372036854775807):(XF n).length<=9:=ZEz 8 n (by omega)
theorem ZIp{n:Nat}(h:n<=9223372036854775807):Zg1 yD (n:Int)=some (XF n):=by
 unfold Zg1;refine Exists.elim (WW (step:=ZdO yD) (λs=>∃m:Nat,s.1=(m:Int)/\m<=n/\s.2++XF m=XF n) (λs=>s.1.toNat) (λx=>∃m:Nat,x.1=(m:Int)/\m < 128/\x.2++XF m=XF n) ?_ ((n:Int),([]:yL yB)) ⟨n,rfl,ym _,rfl⟩ (by dsimp only;omega)) ?_
 ·rintro⟨_,o⟩ ⟨m,rfl,hm,ho⟩;unfold ZdO;dsimp only at ho ⊢;have hr:=congrArg List.length ho;have hl:=ZV h;rw[yo] at hr;by_cases h1:m < 128
  ·right;rw[yX (ynd (by omega))];exact⟨_,rfl,m,rfl,h1,ho⟩
  ·left;rw[yW (yY (by omega)),yW (ZU (by omega) (by omega))];have e1:Int.tmod (m:Int) 128=((m % 128:Nat):Int):=rfl;have e2:Int.tdiv (m:Int) 128=((m / 128:Nat):Int):=rfl;rw[e1,e2,ZO (z:=((m % 128:Nat):Int)+128) (by omega) (by omega),ZO (z:=((m / 128:Nat):Int)) (by omega) (by omega)];refine⟨_,rfl,⟨m / 128,rfl,by omega, ?_⟩,by dsimp only;omega⟩;dsimp only;rw[<-ho,ZuC h1,yab];congr 1;rw[List.singleton_append];congr 1;unfold w8;congr 1;omega
 ·rintro⟨_,o⟩ ⟨h1,m,rfl,h2,h3⟩;dsimp only at h3 ⊢;have hr:=congrArg List.length h3;have hl:=ZV h;rw[yo] at hr;rw[h1,ya];dsimp only;rw[yW (ZU (by omega) (by omega)), <-h3,Ze3 h2];congr 3;unfold w8;congr 1;omega
theorem Zim{b:yL yB}{z:Int}(h0:0<=z)(h:z<=9223372036854775807)(hb:b.length<=1000000):Wl yD b z=some (b++XF z.toNat):=by
 obtain⟨n,rfl⟩:=Int.eq_ofNat_of_zero_le h0;have:=ZV (n:=n) (by omega);unfold Wl;rw[yX (ynd (by omega)),ZIp (by omega),ya,ZyX (by omega),ya,ybe]
theorem ZC9{b h:yL yB}(hb:b.length<=1000000)(hh:h.length<=1000000):Zb8 yD b h=some (b++h):=by
 unfold Zb8;rw[ZyX (by omega),ya]
theorem ZBg{b c:yL yB}(hb:b.length<=1000000)(hc:c.length<=1000000):ZaT yD b c=some (b++(XF c.length++c)):=by
 have:=ZV (n:=c.length) (by omega);unfold ZaT;rw[ZIp (by omega),ya,ZwO (by simp;omega) (by simp),ya];simp
def ZmF(l:yL yB)(n k:Nat):yL yB:=l.take k++yv (n - k) 0
theorem ZwP{l:yL yB}{n k:Nat}(h:k < l.length)(h2:l.length<=n):(ZmF l n k)[k]? =some 0:=by
 unfold ZmF;have h3:(l.take k).length=k:=by simp;omega
 rw[yaq (by omega),h3,List.getElem?_replicate];simp;omega
theorem ZwQ{l:yL yB}{n k:Nat}{d:yB}(hx:l[k]? =some d)(h2:l.length<=n):(ZmF l n k).set k d=ZmF l n (k+1):=by
 have h:k < l.length:=(yq.1 hx).1;have h3:(l.take k).length=k:=by simp;omega
 unfold ZmF;rw[WM hx,List.set_append_right _ _ (by omega),h3,Nat.sub_self];have e:n - k=(n - (k+1))+1:=by omega
 rw[e,List.replicate_succ];simp
theorem ZwR{l:yL yB}{n:Nat}(h:l.length=n):ZmF l n n=l:=by
 unfold ZmF;rw[<-h];simp
def Znv(n:Nat):yL yB:=(yr 8).map λi=>yay (n / 2 ^ (56 - 8*i))
theorem Ze4(n:Nat):(Znv n).length=8:=by simp[Znv]
theorem ZuD(n:Nat){k:Nat}(hk:k < 8):(Znv n)[k]? =some (yay (n / 2 ^ (56 - 8*k))):=by simp[Znv,hk]
theorem ZuE(x:yU){m:Nat}:w8 ((Zw x m).toNat:Int)=yay (x.toNat / 2 ^ m):=by
 unfold w8 Zw;have h:x.toNat / 2 ^ m < 18446744073709551616:=Nat.lt_of_le_of_lt (Nat.div_le_self ..) (ybs _);rw[ybb,yao h];apply UInt8.toNat_inj.1;rw[UInt8.toNat_ofNat',UInt8.toNat_ofNat'];omega
theorem ZwS{b:yL yB}(x:yU)(hb:b.length<=1000000):ZaQ yD b x=some (b++Znv x.toNat):=by
 unfold ZaQ
 rw[show(b,x,(0:Int),([0,0,0,0,0,0,0,0]:yL yB))=(λk:Nat=>(b,x,(k:Int),ZmF (Znv x.toNat) 8 k)) 0 from rfl,
  Zt (x:=(b,Znv x.toNat)) 8 (λk:Nat=>(b,x,(k:Int),ZmF (Znv x.toNat) 8 k)) ?_ ?_ (by omega),ya]
 ·dsimp only;rw[ZyX (by rw[Ze4];omega),ya]
 ·intro k hk;unfold QT;dsimp only;have hl:=Ze4 x.toNat
  rw[yW (yY (by omega)),ZO (z:=8*(k:Int)) (by omega) (by omega),ZO (z:=56 - 8*(k:Int)) (by omega) (by omega),yW (yY (by omega)),yW (Yc (by omega) (by omega)),
   ybe,ZwP (by omega) (by omega),ya,Zp (by omega)]
  have e:min (56 - 8*(k:Int)).toNat 64=56 - 8*k:=by omega
  rw[e,ZuE,ZwQ (ZuD _ hk) (by omega)]
 ·unfold QT;dsimp only;rw[yX (by simp),ZwR (Ze4 _)]
def ZyY(b:Branch):Prop:=b.1.length<=12/\0<=b.2.1/\b.2.1<=1048576/\0<=b.2.2.1/\b.2.2.1<=1048576
def ZyZ(b:Branch):Prop:=(∀p,p∈b.1->IsPt p.toNat)/\(b.2.2.2≠0->IsPt b.2.2.2.toNat)
def We(l:Z4):Prop:=0 < l.length/\l.length<=4/\∀b,b∈l->ZyY b
def Qi(l:Z4):Prop:=∀b,b∈l->ZyZ b
theorem ZDa(p:yU):VJ yD p=some (!decide (IsPt p.toNat)):=by
 unfold VJ;rw[ZcT,ya]
theorem ZIq{p:yU}(h:IsPt p.toNat):VJ yD p=some false:=by rw[ZDa,yY h];rfl
theorem ZNY{l:yL yU}(hl:l.length<=12)(h:∀p,p∈l->IsPt p.toNat):Xy yD l=some false:=by
 unfold Xy VU
 rw[show(l,(l.length:Int),(0:Int))=(λk:Nat=>(l,(l.length:Int),(k:Int))) 0 from rfl,
  Zt (x:=.inr ()) l.length (λk:Nat=>(l,(l.length:Int),(k:Int))) ?_ ?_ (by omega),ya]
 ·rfl
 ·intro k hk;obtain⟨e,he,hm⟩:=Ze hk;unfold Yk;dsimp only;rw[yW (ZF hk),Zl he,ya,ZIq (h e hm),ya,Zp (by omega)];rfl
 ·unfold Yk;dsimp only;rw[yX (by rw[ZA];decide)]
theorem ZwT{z:Int}(h0:0<=z)(h1:z<=1048576):Vp yD z=some true:=by
 unfold Vp;rw[yW (yY h0),yY h1]
theorem Znw{l:Z4}(h:We l)(hp:Qi l):Ws yD l=some true:=by
 unfold Ws;obtain⟨h0,h1,h2⟩:=h
 rw[show(l,(l.length:Int),(0:Int),l)=(λk:Nat=>(l,(l.length:Int),(k:Int),l)) 0 from rfl,
  Zt (x:=.inr l) l.length (λk:Nat=>(l,(l.length:Int),(k:Int),l)) ?_ ?_ (by omega),ya]
 ·dsimp only;rw[yW (yY (by omega)),yY (by omega)]
 ·intro k hk;obtain⟨e,he,hm⟩:=Ze hk;obtain⟨e1,e2,e3,e4,e5⟩:=h2 e hm;obtain⟨p1,p2⟩:=hp e hm;unfold X1;dsimp only;rw[yW (ZF hk),Zl he,ya,yX (ynd (by omega)),ZNY e1 p1,ya,ZwT e2 e3,ya,ZwT e4 e5,ya,Zp (by omega),yX (by decide),yX (by decide),yX (by decide)];by_cases hz:e.2.2.2=0
  ·rw[yX (by simp[hz])]
  ·rw[yW (by simp[hz]),ZIq (p2 hz),ya,yX (by decide)]
 ·unfold X1;dsimp only;rw[yX (by rw[ZA];decide)]
def ZKt(t:Tx):Prop:=(∀x,x∈t.1->x.1.1.length=32)/\t.2.2<=9223372036854775807
def ZMO(x:In):Prop:=0<=x.1.2/\x.1.2 < 64/\0<=x.2.1/\x.2.1 < 4/\x.2.2.1.length<=12
def OutOk(o:Out):Prop:=0<=o.1/\o.1<=1125899906842624/\We o.2/\Qi o.2
def ZIr(t:Tx):Prop:=0 < t.1.length/\t.1.length<=64/\t.2.1.length<=64/\0<=t.2.2/\(∀x,x∈t.1->ZMO x)/\∀o,o∈t.2.1->OutOk o
def cat{α:Type}(f:α->yL yB)(l:yL α):yL yB:=(l.map f).flatten
theorem QM{α:Type}{f:α->yL yB}{l:yL α}{k:Nat}{e:α}(h:l[k]? =some e):cat f (l.take (k+1))=cat f (l.take k)++f e:=by
 unfold cat
 rw[WM h,yam,List.flatten_append];simp
theorem ZIs{α:Type}{f:α->yL yB}{l:yL α}{e:α}:cat f (e::l)=f e++cat f l:=rfl
theorem ZEA{α:Type}{f:α->yL yB}{c:Nat}:∀{l:yL α},(∀x,x∈l->(f x).length<=c)->(cat f l).length<=l.length*c
 |[],_=>by simp[cat]
 |e::l,h=>by
  have h1:=h e (yas ..);have h2:=ZEA (l:=l) λx hx=>h x (yat _ hx);rw[ZIs,yo,yah,Nat.succ_mul];omega
theorem Za7{α:Type}{f:α->yL yB}{c n:Nat}{l:yL α}(h:∀x,x∈l->(f x).length<=c)(hn:l.length<=n)(k:Nat):(cat f (l.take k)).length<=n*c:=by
 refine ybw (ZEA λx hx=>h x (ybz hx)) (Nat.mul_le_mul_right c ?_);rw[yaf];omega
def Zy0(p:yU):yL yB:=Znv p.toNat
def brF(b:Branch):yL yB:=XF b.1.length++(cat Zy0 b.1++(XF b.2.1.toNat++(XF b.2.2.1.toNat++Znv b.2.2.2.toNat)))
def ZkY(l:Z4):yL yB:=XF l.length++cat brF l
theorem ZkZ{l:yL yU}(h:l.length<=12)(k:Nat):(cat Zy0 (l.take k)).length<=96:=Za7 (c:=8) (λx _=>Nat.le_of_eq (Ze4 _)) h k
theorem Zy1{b:Branch}(h:b.1.length<=12/\0<=b.2.1/\b.2.1<=1048576/\0<=b.2.2.1/\b.2.2.1<=1048576):(brF b).length<=131:=by
 have h1:=ZkZ h.1 b.1.length;rw[yaj] at h1;have h2:=ZV (n:=b.1.length) (by omega);have h3:=ZV (n:=b.2.1.toNat) (by omega);have h4:=ZV (n:=b.2.2.1.toNat) (by omega);have h5:=Ze4 b.2.2.2.toNat
 unfold brF;simp only[yo];omega
theorem Zlt{l:Z4}(h:We l):(ZkY l).length<=533:=by
 have h1:=Za7 (f:=brF) (c:=131) (λx hx=>Zy1 (h.2.2 x hx)) h.2.1 l.length;rw[yaj] at h1;have h2:=ZV (n:=l.length) (by have:=h.2.1;omega);unfold ZkY;rw[yo];omega
theorem ZFP{c:yL yB}(hc:c.length<=100000){bs:yL Branch}{n i:Int}{ks:yL yU}{l:Z4}{e:Branch}(hk:ks.length<=12):
 Zb (Qb yD) yD (c,bs,n,i,ks,(ks.length:Int),(0:Int),l,e)=some (c++cat Zy0 ks,bs,n,i,l,e):=by
 rw[show(c,bs,n,i,ks,(ks.length:Int),(0:Int),l,e)=(λk:Nat=>(c++cat Zy0 (ks.take k),bs,n,i,ks,(ks.length:Int),(k:Int),l,e)) 0 by simp[cat]];refine Zt ks.length (λk:Nat=>(c++cat Zy0 (ks.take k),bs,n,i,ks,(ks.length:Int),(k:Int),l,e)) ?_ ?_ (by omega)
 ·intro k hk2;obtain⟨e,he,_⟩:=Ze hk2;have hl:=ZkZ hk k;unfold Qb;dsimp only;rw[yW (ZF hk2),Zl he,ya,ZwS _ (by rw[yo];omega),ya,Zp (by omega),QM he,yab];rfl
 ·unfold Qb;dsimp only;rw[yX (by rw[ZA];decide),yaj]
theorem ZuF{l:Z4}(h:We l)(hp:Qi l):Zcr yD l=some (ZkY l):=by
 unfold Zcr;have h0:=h.2.1;have h9:=ZV (n:=l.length) (by omega);rw[Znw h hp,ya,yX (by decide),Zim (by omega) (by omega) (by simp),ya,yx,ybe]
 rw[show(XF l.length,l,(l.length:Int),(0:Int),l)=(λk:Nat=>(XF l.length++cat brF (l.take k),l,(l.length:Int),(k:Int),l)) 0 by simp[cat],
  Zt (x:=(ZkY l,l)) l.length (λk:Nat=>(XF l.length++cat brF (l.take k),l,(l.length:Int),(k:Int),l)) ?_ ?_ (by omega),ya]
 ·intro k hk;obtain⟨e,he,hm⟩:=Ze hk;obtain⟨e1,e2,e3,e4,e5⟩:=h.2.2 e hm;have hl:=Za7 (f:=brF) (c:=131) (λx hx=>Zy1 (h.2.2 x hx)) h.2.1 k;have hr:=ZV (n:=e.1.length) (by omega);have hr2:=ZV (n:=e.2.1.toNat) (by omega);have hr3:=ZV (n:=e.2.2.1.toNat) (by omega);have hk8:=ZkZ e1 e.1.length;rw[yaj] at hk8;unfold ZaR;dsimp only
  rw[yW (ZF hk),Zl he,ya,Zim (by omega) (by omega) (by rw[yo];omega),ya,ybe,
   ZFP (by simp only[yo];omega) e1,ya]
  dsimp only
  rw[Zim e2 (by omega) (by simp only[yo];omega),ya,Zim e4 (by omega) (by simp only[yo];omega),ya,
   ZwS _ (by simp only[yo];omega),ya,Zp (by omega),QM he]
  unfold brF;simp only[yab]
 ·unfold ZaR;dsimp only;rw[yX (by rw[ZA];decide),yaj];rfl
def inF(x:In):yL yB:=x.1.1++XF x.1.2.toNat
def Zqm(o:Out):yL yB:=XF o.1.toNat++(XF (ZkY o.2).length++ZkY o.2)
def Zk0(t:Tx):yL yB:=XF t.1.length++(cat inF t.1++(XF t.2.1.length++(cat Zqm t.2.1++XF t.2.2.toNat)))
theorem ZEB{x:In}(h:x.1.1.length=32)(k:ZMO x):(inF x).length<=41:=by
 have:=ZV (n:=x.1.2.toNat) (by have:=k.2.1;omega);unfold inF;rw[yo];omega
theorem ZBh{o:Out}(k:OutOk o):(Zqm o).length<=551:=by
 have h1:=Zlt k.2.2.1;have h2:=ZV (n:=o.1.toNat) (by have:=k.2.1;omega);have h3:=ZV (n:=(ZkY o.2).length) (by omega);unfold Zqm;simp only[yo];omega
theorem ZIt{t:Tx}(hw:ZKt t)(h:ZIr t):Zlr yD t=some (Zk0 t)/\(Zk0 t).length<=40000:=by
 obtain⟨ins,outs,note⟩:=t;obtain⟨w2,w3⟩:=hw;obtain⟨h1,h2,h3,h4,h5,h6⟩:=h;dsimp only at w2 w3 h1 h2 h3 h4 h5 h6;have li:=λk=>Za7 (f:=inF) (c:=41) (λx hx=>ZEB (w2 x hx) (h5 x hx)) h2 k;have lo:=λk=>Za7 (f:=Zqm) (c:=551) (λx hx=>ZBh (h6 x hx)) h3 k;have li1:=li ins.length;have lo1:=lo outs.length;rw[yaj] at li1 lo1;have r1:=ZV (n:=ins.length) (by omega);have r2:=ZV (n:=outs.length) (by omega);have r3:=ZV (n:=note.toNat) (by omega);refine⟨?_,by unfold Zk0;simp only[yo];omega⟩;unfold Zlr;dsimp only;rw[Zim (by omega) (by omega) (by simp),ya,yx,ybe]
 rw[show(XF ins.length,ins,(ins.length:Int),(0:Int),(ins,outs,note))=(λk:Nat=>(XF ins.length++cat inF (ins.take k),ins,(ins.length:Int),(k:Int),(ins,outs,note))) 0 by simp[cat],
  Zt (x:=(XF ins.length++cat inF ins,(ins,outs,note))) ins.length (λk:Nat=>(XF ins.length++cat inF (ins.take k),ins,(ins.length:Int),(k:Int),(ins,outs,note))) ?_ ?_ (by omega),ya]
 ·dsimp only;rw[Zim (by omega) (by omega) (by rw[yo];omega),ya,ybe];generalize hp:XF ins.length++cat inF ins++XF outs.length=pre;have hpl:pre.length<=3000:=by rw[<-hp];simp only[yo];omega
  rw[show(pre,outs,(outs.length:Int),(0:Int),(ins,outs,note))=(λk:Nat=>(pre++cat Zqm (outs.take k),outs,(outs.length:Int),(k:Int),(ins,outs,note))) 0 by simp[cat],
   Zt (x:=(pre++cat Zqm outs,(ins,outs,note))) outs.length (λk:Nat=>(pre++cat Zqm (outs.take k),outs,(outs.length:Int),(k:Int),(ins,outs,note))) ?_ ?_ (by omega),ya]
  ·dsimp only;rw[Zim h4 w3 (by rw[yo];omega),ya, <-hp];unfold Zk0;simp only[yab]
  ·intro k hk;obtain⟨e,he,hm⟩:=Ze hk;have hlk:=lo k;have hok:=h6 e hm;have hlo:=hok.2.2.1;have hll:=Zlt hlo;have hrl:=ZV (n:=e.1.toNat) (by have:=hok.2.1;omega);unfold ZdQ;dsimp only
   rw[yW (ZF hk),Zl he,ya,Zim hok.1 (by have:=hok.2.1;omega) (by rw[yo];omega),ya,ZuF hok.2.2.1 hok.2.2.2,ya,
    ZBg (by simp only[yo];omega) (by omega),ya,Zp (by omega),QM he]
   unfold Zqm;simp only[yab]
  ·unfold ZdQ;dsimp only;rw[yX (by rw[ZA];decide),yaj]
 ·intro k hk;obtain⟨e,he,hm⟩:=Ze hk;have hlk:=li k;have h32:=w2 e hm;have hok:=h5 e hm;unfold ZdP;dsimp only
  rw[yW (ZF hk),Zl he,ya,ZC9 (by rw[yo];omega) (by omega),ya,Zim hok.1 (by have:=hok.2.1;omega) (by simp only[yo];omega),ya,
   Zp (by omega),QM he]
  unfold inF;simp only[yab]
 ·unfold ZdP;dsimp only;rw[yX (by rw[ZA];decide),yaj]
def amts(l:yL Out):Int:=(l.map (·.1)).sum
theorem ZbV{l:yL Out}{k:Nat}{e:Out}(h:l[k]? =some e):amts (l.take (k+1))=amts (l.take k)+e.1:=by
 unfold amts;rw[WM h,yam,List.sum_append];simp
theorem ZDb:∀{l:yL Int},(∀x,x∈l->0<=x)->0<=l.sum
 |[],_=>by simp
 |x::r,h=>by
  have:=ZDb (l:=r) λy hy=>h y (yat _ hy);have:=h x (yas ..);rw[List.sum_cons];omega
theorem ZEC{l:yL Out}(h:∀o,o∈l->OutOk o)(k:Nat):0<=amts (l.take k)/\amts (l.take k)<=amts l:=by
 have h1:∀(l:yL Out),(∀o,o∈l->OutOk o)->0<=amts l:=λl h=>ZDb λx hx=>by
  obtain⟨o,ho,rfl⟩:=ybu.1 hx;exact(h o ho).1
 refine⟨h1 _ λo ho=>h o (ybz ho), ?_⟩;have:=h1 (l.drop k) λo ho=>h o (ycz ho)
 have e:amts l=amts (l.take k)+amts (l.drop k):=by
  unfold amts;rw[<-List.sum_append, <-yam,ybk]
 omega
theorem ZBi{z:Int}(h0:0<=z)(h1:z<=1125899906842624):Q3 yD z=some true:=by
 unfold Q3;rw[yW (yY h0),yY h1]
theorem ZKu{a b:Int}(h0:0<=a)(h1:0<=b)(h2:a+b<=1125899906842624):ZaI yD a b=some (a+b,true):=by
 unfold ZaI;rw[ZBi h0 (by omega),ya,yX (by decide),ZBi h1 (by omega),ya,yX (by decide),ZO (z:=1125899906842624 - b) (by omega) (by omega),ZO (z:=a+b) (by omega) (by omega),yX (ynd (by omega))]
theorem ZDc{x:In}(h:ZMO x):Ve yD x.2=some true:=by
 obtain⟨_,_,h1,h2,h3⟩:=h;unfold Ve;rw[yW (yY h1),yW (yY h2),yY (by omega)]
theorem ZIu{x:In}{outs:yL Out}{note:Int}(h:ZIr ([x],outs,note))(hs:amts outs<=1125899906842624):VK yD ([x],outs,note)=some true:=by
 obtain⟨h1,h2,h3,h4,h5,h6⟩:=h;dsimp only at h3 h4 h5 h6;have hx:=h5 x (yau.2 rfl);unfold VK;dsimp only;rw[yX (by simp),yX (by simp),yX (ynd (by omega)),yX (ynd (by omega))]
 obtain⟨y,g1,m,rfl⟩:=X6 (step:=XJ yD) 1 (λk s=>∃m,s=([x],(1:Int),(k:Int),([x],outs,note),m)/\(k=0->m=[])) (λy=>∃m,y=.inr (([x],outs,note),m)) (i:=([x],(([x]:yL In).length:Int),(0:Int),([x],outs,note),([]:yL (ZS×Bool)))) ⟨_,rfl,λ_=>rfl⟩ (by omega) (by
  rintro k _ hk ⟨m,rfl,hm⟩;left;have e:k=0:=by omega
  subst e;rw[hm rfl];unfold XJ;dsimp only;have e1:Zdv ([]:yL (ZS×Bool)) x.1=none:=rfl;rw[yW (yY (by omega)),Zl (show([x]:yL In)[0]? =some x from rfl),ya,e1]
  unfold ZqF;dsimp only;rw[yX (by rw[yN];have:=hx.1;omega),yX (by rw[yN];have:=hx.2.1;omega),ZDc hx,ya,yX (by decide)];exact⟨_,rfl,_,rfl,λh=>by omega⟩) (by
  rintro _ ⟨m,rfl,hm⟩;unfold XJ;dsimp only;rw[yX (ynd (by omega))];exact⟨_,rfl,_,rfl⟩)
 rw[g1,ya];dsimp only
 rw[show((0:Int),outs,(outs.length:Int),(0:Int),([x],outs,note),m)=(λk:Nat=>(amts (outs.take k),outs,(outs.length:Int),(k:Int),([x],outs,note),m)) 0 from rfl,
  Zt (x:=.inr (([x],outs,note),m)) outs.length (λk:Nat=>(amts (outs.take k),outs,(outs.length:Int),(k:Int),([x],outs,note),m)) ?_ ?_ (by omega),ya]
 ·intro k hk;obtain⟨e,he,hm⟩:=Ze hk;obtain⟨o1,o2,o3,o4⟩:=h6 e hm;have hk1:=ZEC h6 k;have hk2:=ZEC h6 (k+1);rw[ZbV he] at hk2;unfold Wv;dsimp only;rw[yW (ZF hk),Zl he,ya,ZKu hk1.1 o1 (by omega),ya,Znw o3 o4,ya,Zp (by omega),ZbV he];rfl
 ·unfold Wv;dsimp only;rw[yX (by rw[ZA];decide)]
def z32:yL yB:=yzz
def Ahd(a b:Cond):Prop:=a.1 < b.1\/a.1=b.1/\a.2.1 < b.2.1
instance(a b:Cond):Decidable (Ahd a b):=by unfold Ahd;infer_instance
def frG(h:yL yB):Nat->Nat
 |0=>0
 |k+1=>(256*frG h k+(h.getD k 0).toNat) % 2305843009213688668
theorem ZIv(h:yL yB)(k:Nat):frG h k < 2305843009213688668:=by
 cases k with
 |zero=>exact(by decide:(0:Nat) < 2305843009213688668)
 |succ k=>exact ybh _ (by decide)
def frF(h:yL yB):yU:=yae (frG h 32)+1
theorem Zy2{z:Nat}(h:z < 2305843009213688668):(yae z).toNat=z:=by
 rw[ybb,yao (by omega)]
theorem ZMP(x:yU)(n:Nat):(V0 x n).toNat=x.toNat*2 ^ n % 18446744073709551616:=ybb ..
theorem ZKv(n:Nat)(b:yB)(hn:n < 2305843009213688668):((V0 (yae n) 8)|||(yae b.toNat)).toNat=n*256 % 18446744073709551616+b.toNat:=by
 have hb:b.toNat < 256:=b.toNat_lt;rw[UInt64.toNat_or,ZMP,Zy2 hn,ybb,yao (a:=b.toNat) (by omega)];have h2:n*2 ^ 8 % 2 ^ 64=(n % 2 ^ 56)*2 ^ 8:=by omega
 rw[show n*2 ^ 8 % 18446744073709551616=(n % 2 ^ 56)*2 ^ 8 from h2,ybt, <-yda (by omega:b.toNat < 2 ^ 8)]
theorem ZKw{h:yL yB}(hl:h.length=32):Vc yD h=some (frF h):=by
 unfold Vc
 have e:=Zt (step:=W1 yD) 32 (λk:Nat=>(yae (frG h k),h,(k:Int),h)) (x:=(yae (frG h 32),h)) (by
  intro k hk;obtain⟨e,he,_⟩:=Ze (l:=h) (k:=k) (by omega);unfold W1;dsimp only;rw[yW (yY (by omega)),Zl he,ya];unfold W9;rw[yW (by decide),ya,Zp (by omega)];have hn:=ZIv h k;have hb:e.toNat < 256:=e.toNat_lt;have hd:h.getD k 0=e:=by simp[List.getD,he]
  rw[show(2305843009213688668:yU).toNat=2305843009213688668 from rfl,ZKv _ _ hn,V3,Zy2 hn]
  have h2:frG h k / 2 ^ 56*18446744073709551616+(frG h k*256 % 18446744073709551616+e.toNat)=256*frG h k+e.toNat:=by omega
  rw[h2,show frG h (k+1)=(256*frG h k+(h.getD k 0).toNat) % 2305843009213688668 from rfl,hd]) (by
  unfold W1;dsimp only;rw[yX (ynd (by omega))]) (by omega)
 have e:Zb (W1 yD) yD ((0:yU),h,(0:Int),h)=_:=e;rw[e,ya];rfl
theorem ZIw{h:yL yB}(hl:h.length=32):Vy yD h=some (frF h):=by
 unfold Vy
 have e:=Zt (step:=YF yD) 32 (λk:Nat=>(yae (frG h k),(k:Int),h)) (x:=(yae (frG h 32),h)) (by
  intro k hk;obtain⟨e,he,_⟩:=Ze (l:=h) (k:=k) (by omega);have hb:e.toNat < 256:=e.toNat_lt;have hd:h.getD k 0=e:=by simp[List.getD,he]
  have hn:=ZIv h k;unfold YF;dsimp only;rw[yW (yY (by omega))]
  have g:=Zt (step:=YE yD) 8 (λj:Nat=>(yae ((2 ^ j*frG h k+e.toNat / 2 ^ (8 - j)) % 2305843009213688668),(k:Int),7 - (j:Int),h)) (x:=(yae ((256*frG h k+e.toNat) % 2305843009213688668),(k:Int),h)) (by
   intro j hj;unfold YE;dsimp only;rw[yW (yY (by omega)),yW (Yc (by omega) (by omega)),ybe,he,ya,ZO (z:=7 - (j:Int) - 1) (by omega) (by omega)]
   have q1:(min ((w64 (7 - (j:Int))).toNat:Int).toNat 64)=7 - j:=by
    have:(w64 (7 - (j:Int))).toNat=7 - j:=by
     unfold w64;rw[ybb];omega
    omega
   rw[q1,show(7:Int) - (j:Int) - 1=7 - ((j+1:Nat):Int) by omega];refine congrArg (λx=>some (Sum.inl (x,(k:Int),7 - ((j+1:Nat):Int),h))) ?_;have m1:(2 ^ j*frG h k+e.toNat / 2 ^ (8 - j)) % 2305843009213688668 < 2305843009213688668:=ybh _ (by decide);rw[<-UInt64.toNat_inj,UInt64.toNat_mod,UInt64.toNat_add,UInt64.toNat_mul,Zy2 m1,Zy2 (ybh _ (by decide)),UInt64.toNat_and,V3,ybb,yao (a:=e.toNat) (by omega)];rw[show(1:yU).toNat=1 from rfl,Nat.and_one_is_mod,show(2:yU).toNat=2 from rfl,show(2305843009213688668:yU).toNat=2305843009213688668 from rfl]
   have m2:e.toNat / 2 ^ (8 - (j+1))=2*(e.toNat / 2 ^ (8 - j))+e.toNat / 2 ^ (7 - j) % 2:=by
    rw[show 8 - (j+1)=7 - j by omega,show 8 - j=(7 - j)+1 by omega,Nat.pow_succ, <-Nat.div_div_eq_div_mul];omega
   have m3:2 ^ (j+1)*frG h k=2*(2 ^ j*frG h k):=by rw[Nat.pow_succ,ybt (2 ^ j) 2,Nat.mul_assoc]
   rw[m2,m3];generalize 2 ^ j*frG h k=u at*;generalize e.toNat / 2 ^ (8 - j)=v at*;generalize e.toNat / 2 ^ (7 - j)=t at*;omega) (by
   unfold YE;dsimp only;rw[yX (ynd (by omega))];simp) (by omega)
  rw[show(2 ^ 0*frG h k+e.toNat / 2 ^ (8 - 0)) % 2305843009213688668=frG h k by
   rw[show 2 ^ (8 - 0)=256 from rfl,Nat.div_eq_of_lt hb,Nat.pow_zero,Nat.one_mul,Nat.add_zero,yao hn]] at g
  have g:Zb (YE yD) yD (yae (frG h k),(k:Int),(7:Int),h)=_:=g;rw[g,ya,Zp (by omega),show frG h (k+1)=(256*frG h k+(h.getD k 0).toNat) % 2305843009213688668 from rfl,hd]) (by
  unfold YF;dsimp only;rw[yX (ynd (by omega))]) (by omega)
 have e:Zb (YF yD) yD ((0:yU),(0:Int),h)=_:=e;rw[e,ya];rfl
theorem Wa(n:Nat):(Wc n).length=8:=rfl
theorem ZIx(n:yU):Vu yD n=some (Wc n.toNat):=by
 unfold Vu
 have e:=Zt (step:=YD yD) 8 (λk:Nat=>(n,56 - 8*(k:Int),(Wc n.toNat).take k)) (x:=Wc n.toNat) (by
  intro k hk;have hb:(Wc n.toNat)[k]? =_:=Zuz n hk;have hl:((Wc n.toNat).take k).length<=8:=by rw[yaf];exact ybw (Nat.min_le_right _ _) (ym _)
  unfold YD;dsimp only;have q1:min (56 - 8*(k:Int)).toNat 64=56 - 8*k:=by omega
  rw[yW (yY (by omega)),yW (yY (by omega)),yW (ZU (by omega) (by omega)),ZO (z:=56 - 8*(k:Int) - 8) (by omega) (by omega),q1,show 56 - 8*(k:Int) - 8=56 - 8*((k+1:Nat):Int) by omega,List.take_add_one,hb];rfl) (by
  unfold YD;dsimp only;rw[yX (ynd (by omega))];rfl) (by omega)
 have e:Zb (YD yD) yD (n,(56:Int),([]:yL yB))=_:=e;rw[e,ya]
theorem ZFQ(n:yU):X7 yD n=some (Wc n.toNat):=by
 unfold X7
 have e:=Zt (step:=Z8 yD) 8 (λk:Nat=>(n,56 - 8*(k:Int),([]:yL yB),(Wc n.toNat).take k)) (x:=(([]:yL yB),Wc n.toNat)) (by
  intro k hk;have hb:(Wc n.toNat)[k]? =_:=Zuz n hk;have hl:((Wc n.toNat).take k).length<=8:=by rw[yaf];exact ybw (Nat.min_le_right _ _) (ym _)
  unfold Z8;dsimp only;have q1:min (56 - 8*(k:Int)).toNat 64=56 - 8*k:=by omega
  rw[yW (yY (by omega)),yW (yY (by omega)),yW (ZU (by omega) (by omega)),ZO (z:=56 - 8*(k:Int) - 8) (by omega) (by omega),q1,show 56 - 8*(k:Int) - 8=56 - 8*((k+1:Nat):Int) by omega,List.take_add_one,hb];rfl) (by
  unfold Z8;dsimp only;rw[yX (ynd (by omega))];rfl) (by omega)
 have e:Zb (Z8 yD) yD (n,(56:Int),([]:yL yB),([]:yL yB))=_:=e;rw[e,ya]
def tgF(l:yL yB):yL yB:=Wc l.length++l
def ZvL(s:ByteArray)(ls:yL (yL yB)):yL yB:=Wc s.size++ZhK s++cat tgF ls
theorem ZBj(s:ByteArray):(ZhK s).length=s.size:=by
 unfold ZhK;rw[Array.length_toList];rfl
theorem Zr8{ls:yL (yL yB)}(h2:ls.length<=10)(h3:∀l,l∈ls->l.length<=60000)(k:Nat):(cat tgF (ls.take k)).length<=10*60008:=
 Za7 (c:=60008) (λl hl=>by have:=h3 l hl;unfold tgF;rw[yo,Wa];omega) h2 k
theorem ZDd{s:ByteArray}{ls:yL (yL yB)}(h1:s.size<=100)(h2:ls.length<=10)(h3:∀l,l∈ls->l.length<=60000):VI yD s ls=some (Sha.sha (ZvL s ls)):=by
 unfold VI;have hs:=ZBj s;have p1:WF yD (s.size:Int) []=some (Wc s.size):=ZyC (b:=[]) (by simp);rw[p1,ya,yW (ZU (by rw[hs,Wa];omega) (by rw[hs,Wa];omega))]
 have e:=Zt (step:=Qq yD) ls.length (λk:Nat=>(ls,(ls.length:Int),(k:Int),z32,Wc s.size++ZhK s++cat tgF (ls.take k))) (x:=(z32,ZvL s ls)) (by
  intro k hk;obtain⟨e,he,hm⟩:=Ze hk;have:=h3 e hm;have hc:=Zr8 h2 h3 k;unfold Qq;dsimp only;rw[yW (yY (by omega)),Zl he,ya,ZyC (by simp only[yo,Wa,hs];omega),ya,yW (ZU (by simp only[yo,Wa,hs];omega) (by simp only[yo,Wa,hs];omega)),Zp (by omega),QM he];simp only[tgF,yab]) (by
  unfold Qq;dsimp only;rw[yX (by rw[ZA];decide),yaj];rfl) (by omega)
 rw[show cat tgF (ls.take 0)=[] from rfl,yar] at e
 have e:Zb (Qq yD) yD (ls,(ls.length:Int),(0:Int),yzz,Wc s.size++ZhK s)=_:=e;have hc:=Zr8 h2 h3 ls.length;rw[yaj] at hc;rw[e,ya,ZKq (by show(ZvL s ls).length<=_;unfold ZvL;simp only[yo,Wa,hs];omega),ya]
theorem ZED{s:ByteArray}{ls:yL (yL yB)}(h1:s.size<=100)(h2:ls.length<=10)(h3:∀l,l∈ls->l.length<=60000):WA yD s ls=some (Sha.sha (ZvL s ls)):=by
 unfold WA;have hs:=ZBj s
 have w:∀n:Nat,n<=1000000->(w64 (n:Int)).toNat=n:=λn hn=>by
  unfold w64;rw[ybb];omega
 have hs':s.data.toList.length=s.size:=hs;rw[ZFQ,ya,w _ (by omega),yW (yY (by unfold maxLen;omega)),yW (ZU (by rw[hs',Wa];omega) (by rw[hs',Wa];omega))]
 have e:=Zt (step:=Yl yD) ls.length (λk:Nat=>(ls,(k:Int),z32,Wc s.size++ZhK s++cat tgF (ls.take k))) (x:=(z32,ZvL s ls)) (by
  intro k hk;obtain⟨e,he,hm⟩:=Ze hk;have:=h3 e hm;have hc:=Zr8 h2 h3 k;unfold Yl;dsimp only;rw[yW (ZF hk),Zl he,ya,ZIx,ya,w _ (by omega),yW (ZU (by simp only[yo,Wa,hs];omega) (by simp only[yo,Wa,hs];omega)),ya,yW (ZU (by simp only[yo,Wa,hs];omega) (by simp only[yo,Wa,hs];omega)),Zp (by omega),QM he];simp only[tgF,yab]) (by
  unfold Yl;dsimp only;rw[yX (by rw[ZA];decide),yaj];rfl) (by omega)
 rw[show cat tgF (ls.take 0)=[] from rfl,yar] at e
 have e:Zb (Yl yD) yD (ls,(0:Int),z32,Wc s.size++s.data.toList)=_:=e;have hc:=Zr8 h2 h3 ls.length;rw[yaj] at hc;show(Option.bind (Zb (Yl yD) yD (ls,(0:Int),z32,Wc s.size++s.data.toList)) λo85=>(Xz yD o85.2).bind λo86=>some o86)=_;rw[e,ya,ZIh (by show(ZvL s ls).length<=_;unfold ZvL;simp only[yo,Wa,hs];omega),ya]
theorem Zy3{n:Nat}(h:n < 256):w8 (n:Int)=yay n:=by
 unfold w8;congr 1;omega
theorem ZMQ:∀(k n:Nat),n < 128 ^ (k+1)->n<=9223372036854775807->WB yD (k+1) (n:Int)=some (XF n):=by
 intro k
 induction k with
 |zero=>
  intro n h h2;have h:n < 128:=by simpa using h
  show XA yD (WB yD 0) (n:Int)=_;unfold XA
  rw[yW (yY (by omega)),Ze3 h,Zy3 (by omega)]
 |succ k ih=>
  intro n h h2;show XA yD (WB yD (k+1)) (n:Int)=_;unfold XA;by_cases h0:n < 128
  ·rw[yW (yY (by omega)),Ze3 h0,Zy3 (by omega)]
  ·have hd:n / 128 < 128 ^ (k+1):=by
    rw[Nat.div_lt_iff_lt_mul (by decide)];rw[Nat.pow_succ] at h;exact h
   have e1:wi (Int.tdiv (n:Int) 128)=((n / 128:Nat):Int):=by
    rw[show Int.tdiv (n:Int) 128=((n / 128:Nat):Int) from rfl,ZO (by omega) (by omega)]
   have hl:=ZV (n:=n / 128) (by omega);rw[yX (ynd (by omega)),e1,ih _ hd (by omega),ya,yW (ZU (by omega) (by omega)),ZuC h0]
   have e2:w8 (Int.tmod (n:Int) 128)+128=yay (n % 128+128):=by
    rw[show Int.tmod (n:Int) 128=((n % 128:Nat):Int) from rfl,Zy3 (by omega), <-UInt8.toNat_inj,UInt8.toNat_add,UInt8.toNat_ofNat',UInt8.toNat_ofNat']
    show(n % 128 % 256+128) % 256=_;omega
   rw[e2];rfl
theorem ZKx{n:Nat}(h:n<=9223372036854775807):VW yD (n:Int)=some (XF n):=ZMQ 11 n (by omega) h
theorem Zcb{b:yL yB}{z:Int}(h0:0<=z)(h:z<=9223372036854775807)(hb:b.length<=1000000):ZQ yD b z=some (b++XF z.toNat):=by
 obtain⟨n,rfl⟩:=Int.eq_ofNat_of_zero_le h0;have hl:=ZV (n:=n) (by omega);unfold ZQ;rw[yW (ZU (by omega) (by omega)),yW (yY (by omega)),ZKx (by omega),ya,yW (ZU (by omega) (by omega)),ybe]
theorem ZIy{b:yL yB}{z:Int}(h0:0<=z)(h:z<=9223372036854775807)(hb:b.length<=1000000):Qh yD b z=some (b++XF z.toNat):=Zcb h0 h hb
theorem Zin{b:yL yB}(x:yU)(hb:b.length<=1000000):Ym yD b x=some (b++Znv x.toNat):=by
 unfold Ym;rw[yW (ZU (by omega) (by omega))]
 have e:=Zt (step:=Yf yD) 8 (λk:Nat=>(x,7 - (k:Int),b++(Znv x.toNat).take k)) (x:=b++Znv x.toNat) (by
  intro k hk;have hl:((Znv x.toNat).take k).length<=8:=by rw[yaf];omega
  unfold Yf;dsimp only
  have q1:(min ((w64 (wi (8*(7 - (k:Int))))).toNat:Int).toNat 64)=56 - 8*k:=by
   rw[ZO (z:=8*(7 - (k:Int))) (by omega) (by omega)]
   have:(w64 (8*(7 - (k:Int)))).toNat=56 - 8*k:=by
    unfold w64;rw[ybb];omega
   omega
  rw[yW (yY (by omega)),yW (ZU (by rw[yo];omega) (by rw[yo];omega)),ZO (z:=7 - (k:Int) - 1) (by omega) (by omega),q1,ZuE,show 7 - (k:Int) - 1=7 - ((k+1:Nat):Int) by omega,List.take_add_one,ZuD _ hk,yab];rfl) (by
  unfold Yf;dsimp only;rw[yX (ynd (by omega)),ycr (by rw[Ze4];exact ym _)]) (by omega)
 have e:Zb (Yf yD) yD (x,(7:Int),b++[])=_:=e;rw[yar] at e;rw[e,ya]
theorem ZBk{b h:yL yB}(hb:b.length<=1000000)(hh:h.length=32):X8 yD b h=some (b++h):=by
 unfold X8;rw[yW (ZU (by omega) (by omega))]
 have e:=Zt (step:=Z9 yD) 32 (λk:Nat=>((k:Int),h,b++h.take k)) (x:=(h,b++h)) (by
  intro k hk;obtain⟨e,he,_⟩:=Ze (l:=h) (k:=k) (by omega);have hl:(h.take k).length<=32:=by rw[yaf];omega
  unfold Z9;dsimp only;rw[yW (yY (by omega)),yW (Yc (by omega) (by omega)),ybe,he,ya,yW (ZU (by rw[yo];omega) (by rw[yo];omega)),Zp (by omega),List.take_add_one,he,yab];rfl) (by
  unfold Z9;dsimp only;rw[yX (ynd (by omega)),ycr (by omega)]) (by omega)
 have e:Zb (Z9 yD) yD ((0:Int),h,b++[])=_:=e;rw[yar] at e;rw[e,ya]
theorem Zy4{b c:yL yB}(hb:b.length<=1000000)(hc:c.length<=1000000):XL yD b c=some (b++(XF c.length++c)):=by
 unfold XL;have hl:=ZV (n:=c.length) (by omega);rw[ZIy (by omega) (by omega) hb,ya,ybe,yW (ZU (by rw[yo];omega) (by rw[yo];omega)),yab]
theorem ZKy(a b:yU):Za6 yD a b=some (yae ((a.toNat+b.toNat) % ord)):=by
 rw[<-ZEy];rfl
theorem ZFR{lo hi:Int}{l:yL Int}(hl:l.length<=100)(h:∀x,x∈l->lo<=x/\x<=hi):ZW yD lo hi l=some true:=by
 unfold ZW YP Xk;rw[show(l,(l.length:Int),(0:Int),lo,hi)=(λk:Nat=>(l,(l.length:Int),(k:Int),lo,hi)) 0 from rfl,Zt (x:=.inr (lo,hi)) l.length (λk:Nat=>(l,(l.length:Int),(k:Int),lo,hi)) ?_ ?_ (by omega),ya]
 ·rfl
 ·intro k hk;obtain⟨e,he,hm⟩:=Ze hk;have:=h e hm;unfold ZM QR;dsimp only;rw[yW (ZF hk),Zl he,ya,yX (ynd (by omega)),ya,yZ (by omega),yX (by simp),Zp (by omega)]
 ·unfold ZM;dsimp only;rw[yX (by rw[ZA];decide)]
theorem w1{lo hi z:Int}(h1:lo<=z)(h2:z<=hi):ZW yD lo hi [z]=some true:=ZFR (by simp) λx hx=>by rw[yau.1 hx];exact⟨h1,h2⟩
theorem ZbW(a b:Int):Yp yD a b=some (if a < b then-1 else if a > b then 1 else 0):=by
 unfold Yp ZaJ;rw[ya,ya];have e:∀z:Int,(z !=z)=false:=λz=>by simp
 rw[e,e,yX (by decide),yX (by decide)];by_cases h1:a < b
 ·rw[yW (yY h1),yW h1]
 ·rw[yX (by rw[yN];exact h1),yX h1];by_cases h2:a > b
  ·rw[yW (yY h2),yW h2]
  ·rw[yX (by rw[yN];exact h2),yX h2]
def orL:yL Int->Int
 |[]=>0
 |z::r=>if z≠0 then z else orL r
theorem ZLe{l:yL Int}(hl:l.length<=100):Zcl yD l=some (orL l):=by
 have key:∀(d k f:Nat),k+d=l.length->d < f->∃x,Zb (W0 yD) f ((0:Int),l,(l.length:Int),(k:Int))=some x/\(x=.inl (orL (l.drop k))\/x=.inr 0/\orL (l.drop k)=0):=by
  intro d
  induction d with
  |zero=>
   intro k f h hf;obtain⟨f,rfl⟩:=Nat.exists_eq_succ_of_ne_zero (n:=f) (by omega);have:k=l.length:=by omega
   subst this;unfold Zb W0;dsimp only;rw[yX (by rw[ZA];decide),ya]
   exact⟨_,rfl,.inr ⟨rfl,by rw[List.drop_length];rfl⟩⟩
  |succ d ih=>
   intro k f h hf;obtain⟨f,rfl⟩:=Nat.exists_eq_succ_of_ne_zero (n:=f) (by omega);have hk:k < l.length:=by omega
   obtain⟨e,he,hm⟩:=Ze hk
   have hd:l.drop k=e::l.drop (k+1):=by
    rw[List.drop_eq_getElem_cons hk];rw[yac hk] at he;cases he;rfl
   rw[hd];unfold Zb W0;dsimp only;rw[yW (ZF hk),Zl he,ya];by_cases h0:e=0
   ·subst h0;rw[yX (by decide),ya,Zp (by omega)];exact ih (k+1) f (by omega) (by omega)
   ·rw[yW (bne_iff_ne.2 h0),ya];exact⟨_,rfl,.inl (by unfold orL;rw[yW h0])⟩
 unfold Zcl;obtain⟨x,h1,h2⟩:=key l.length 0 yD (by omega) (by rw[ZdA];omega);rw[List.drop_zero] at h2;show Option.bind (Zb (W0 yD) yD ((0:Int),l,(l.length:Int),((0:Nat):Int))) _=_;rw[h1,ya];rcases h2 with rfl|⟨rfl,h2⟩
 ·rfl
 ·rw[h2]
theorem Zo7(p q:Prop)[Decidable p][Decidable q]{b:Bool}(h:b=decide (p/\q)):(if decide p=true then some (decide q) else some false)=some b:=by
 subst h;by_cases h1:p
 ·rw[yW (yY h1)];by_cases h2:q
  ·rw[yY h2,yY ⟨h1,h2⟩]
  ·rw[yZ h2,yZ λh=>h2 h.2]
 ·rw[yX (by rw[yN];exact h1),yZ λh=>h1 h.1]
theorem ZMR(z a b:Int):Xu yD z a b=some (decide (a<=z/\z<=b)):=Zo7 _ _ rfl
def TermOk(t:Terms):Prop:=(0<=t.1/\t.1<=65536)/\(1<=t.2.2.1/\t.2.2.1<=4096)/\(0<=t.2.2.2.1/\t.2.2.2.1<=16)/\(t.1<=t.2.1/\t.2.1<=1125899906842624)/\(1<=t.2.2.2.2.1/\t.2.2.2.2.1<=1125899906842624)/\(0<=t.2.2.2.2.2/\t.2.2.2.2.2<=1125899906842624)
instance(t:Terms):Decidable (TermOk t):=by unfold TermOk;infer_instance
theorem Za8{p q:Prop}[Decidable p][Decidable q][Decidable (p/\q)]{x:yO Bool}(h:x=some (decide q)):(if decide p=true then x else some false)=some (decide (p/\q)):=by
 rw[h];exact Zo7 p q (by congr)
theorem ZIz(t:Terms):ZdD yD t=some (decide (TermOk t)):=by
 unfold ZdD;simp only[ZMR,ya];exact Za8 (Za8 (Za8 (Za8 (Za8 rfl))))
def pts(b:Basics):yL yU:=[b.1,b.2.1,b.2.2.1,b.2.2.2.1,b.2.2.2.2]
def Zo8(p:yU):Prop:=IsPt p.toNat/\p≠1
instance(p:yU):Decidable (Zo8 p):=by unfold Zo8;infer_instance
def Zan(b:Basics):Prop:=∀p,p∈pts b->Zo8 p
instance(b:Basics):Decidable (Zan b):=by unfold Zan;infer_instance
theorem ZIA(p:yU):QQ yD p=some (!decide (Zo8 p)):=by
 unfold QQ;rw[ZcT,ya];by_cases h:p=1
 ·rw[yW (beq_iff_eq.2 h),yZ (p:=Zo8 p) λk=>k.2 h];rfl
 ·rw[yX (by rw[yT];exact h)];by_cases k:IsPt p.toNat
  ·rw[yY k,yY (p:=Zo8 p) ⟨k,h⟩]
  ·rw[yZ k,yZ (p:=Zo8 p) λq=>k q.1]
theorem ZFS(b:Basics):Zb0 yD b=some (decide (Zan b)):=by
 unfold Zb0 Zet Zes
 obtain⟨x,h1,h2⟩:=X6 (step:=Wq yD) 5 (λk s=>s=(pts b,(5:Int),(k:Int))/\∀j p,j < k->(pts b)[j]? =some p->Zo8 p) (λx=>(∃j:Nat,x=.inl (j:Int)/\¬Zan b)\/x=.inr ()/\Zan b) (i:=(pts b,((pts b).length:Int),(0:Int))) ⟨rfl,λj p hj=>by omega⟩ (by omega) (by
  rintro k _ hk ⟨rfl,hj⟩;obtain⟨p,hp,hm⟩:=Ze (l:=pts b) (k:=k) hk;unfold Wq;dsimp only;rw[yW (yY (by omega)),Zl hp,ya,ZIA,ya,Zp (by omega)];by_cases h:Zo8 p
  ·left;rw[yY h,yX (by decide)];refine⟨_,rfl,rfl,λj q hjk hq=> ?_⟩;by_cases e:j=k
   ·subst e;rw[hp] at hq;cases hq;exact h
   ·exact hj j q (by omega) hq
  ·right;rw[yZ h,yW (by decide)];exact⟨_,rfl,.inl ⟨k,rfl,λzU=>h (zU p hm)⟩⟩) (by
  rintro _ ⟨rfl,hj⟩;unfold Wq;dsimp only;rw[yX (ynd (by omega))];refine⟨_,rfl,.inr ⟨rfl,λp hp=> ?_⟩⟩;obtain⟨j,hj1,hj2⟩:=yck hp;exact hj j p hj1 (by rw[yac hj1,hj2]))
 rw[show([b.1,b.2.1,b.2.2.1,b.2.2.2.1,b.2.2.2.2]:yL yU)=pts b from rfl,h1,ya]
 rcases h2 with⟨j,rfl,h⟩|⟨rfl,h⟩
 ·dsimp only;rw[ya,ya,yY (show(j:Int) >= 0 by omega),yZ h];rfl
 ·dsimp only;rw[ya,ya,yY h];rfl
structure ChWf(ch:Chan):Prop where
 b:ch.2.2.1.length=2
 t:ch.2.2.2.1.length=2
 a0: -9223372036854775808<=ch.2.1
 a1:ch.2.1<=9223372036854775807
 n0: -9223372036854775808<=ch.1.2
 n1:ch.1.2<=9223372036854775807
 o0: -9223372036854775808<=ch.2.2.2.2
 o1:ch.2.2.2.2<=9223372036854775807
def SideOk(ch:Chan):Prop:=∀i:Nat,i < 2->∀t b,ch.2.2.2.1[i]? =some t->ch.2.2.1[i]? =some b->TermOk t/\Zan b
open Classical in
theorem Zo9{α:Type}{l:yL α}(h:l.length=2):∃a b,l=[a,b]:=by
 match l,h with
 |[a,b],_=>exact⟨a,b,rfl⟩
theorem ZIB{a:ZS}{A:Int}{b0 b1:Basics}{t0 t1:Terms}{op:Int}:SideOk (a,A,[b0,b1],[t0,t1],op)↔(TermOk t0/\Zan b0)/\TermOk t1/\Zan b1:=by
 constructor
 ·intro h;exact⟨h 0 (by omega) t0 b0 rfl rfl,h 1 (by omega) t1 b1 rfl rfl⟩
 ·rintro⟨h0,h1⟩ i hi t b ht hb
  match i,hi with
  |0,_=>cases ht;cases hb;exact h0
  |1,_=>cases ht;cases hb;exact h1
theorem ZBl(ch:Chan)(l:yL Terms){k:Nat}(hk:k < 2){t:Terms}{b:Basics}(ht:l[k]? =some t)(hb:ch.2.2.1[k]? =some b):
 VH yD (l,(k:Int),ch)=some (if TermOk t/\Zan b then .inl (l,((k+1:Nat):Int),ch) else .inr (.inl (1,ch))):=by
 unfold VH;dsimp only;rw[yW (yY (by omega)),Zl ht,ya,ZIz,ya,yW (Yc (by omega) (by omega)),ybe,hb,ya,ZFS,ya,Zp (by omega)];by_cases h1:TermOk t
 ·rw[yY h1,yX (by decide)];by_cases h2:Zan b
  ·rw[yY h2,yX (by decide),yW ⟨h1,h2⟩]
  ·rw[yZ h2,yW (by decide),yX λh=>h2 h.2]
 ·rw[yZ h1,yW (by decide),yX λh=>h1 h.1]
theorem ZIC(ch:Chan)(l:yL Terms){t0 t1:Terms}{b0 b1:Basics}(ht:l=[t0,t1])(hb:ch.2.2.1=[b0,b1]):
 Zb (VH yD) yD (l,(0:Int),ch)=some (if(TermOk t0/\Zan b0)/\TermOk t1/\Zan b1 then .inr ch else .inl (1,ch)):=by
 subst ht;have s0:=ZBl ch [t0,t1] (k:=0) (by omega) (t:=t0) (b:=b0) rfl (by rw[hb];rfl);have s1:=ZBl ch [t0,t1] (k:=1) (by omega) (t:=t1) (b:=b1) rfl (by rw[hb];rfl);by_cases h0:TermOk t0/\Zan b0
 ·rw[yW h0] at s0;by_cases h1:TermOk t1/\Zan b1
  ·rw[yW h1] at s1;rw[yW ⟨h0,h1⟩];refine Zt 2 (λk:Nat=>([t0,t1],(k:Int),ch)) ?_ ?_ (by omega)
   ·intro k hk;rcases (show k=0\/k=1 by omega) with rfl|rfl
    ·exact s0
    ·exact s1
   ·unfold VH;rfl
  ·rw[yX h1] at s1;rw[yX λh=>h1 h.2];exact Zt 1 (λk:Nat=>([t0,t1],(k:Int),ch)) (λk hk=>by rw[show k=0 by omega];exact s0) s1 (by omega)
 ·rw[yX h0] at s0;rw[yX λh=>h0 h.1];exact Zt 0 (λk:Nat=>([t0,t1],(k:Int),ch)) (λk hk=>absurd hk (by omega)) s0 (by omega)
theorem ZBm(X:BitVec 64):(X&&& ~~~(1#64))=0#64↔X=0#64\/X=1#64:=by
 constructor
 ·intro h
  have hb:∀i:Nat,1<=i->X.getLsbD i=false:=by
   intro i hi;have:=congrArg (λy=>BitVec.getLsbD y i) h;simp only[BitVec.getLsbD_and,BitVec.getLsbD_not,BitVec.getLsbD_zero] at this;by_cases h64:i < 64
   ·have h1:(1#64).getLsbD i=false:=by
     rw[BitVec.getLsbD_one];simp;omega
    rw[h1] at this;simpa[h64] using this
   ·exact BitVec.getLsbD_of_ge X i (by omega)
  cases h0:X.getLsbD 0 with
  |false=>
   left;apply BitVec.eq_of_getLsbD_eq;intro i hi
   match i with
   |0=>rw[h0];simp
   |j+1=>rw[hb (j+1) (by omega)];simp
  |true=>
   right;apply BitVec.eq_of_getLsbD_eq;intro i hi
   match i with
   |0=>rw[h0];rfl
   |j+1=>
    rw[hb (j+1) (by omega),BitVec.getLsbD_one];simp
 ·rintro(rfl|rfl) <;> rfl
theorem Zqn{op:Int}(o0: -9223372036854775808<=op)(o1:op<=9223372036854775807):((bits .andNot .i64 op 1)!=0)= !decide (0<=op/\op<=1):=by
 have e:bits .andNot .i64 op 1=IntKind.i64.wrap ((ybr 64 op&&& ~~~(1#64)).toNat:Int):=rfl;have hlt:=(ybr 64 op&&& ~~~(1#64)).isLt
 have hw:∀n:Nat,n < 18446744073709551616->(IntKind.i64.wrap (n:Int)=0↔n=0):=by
  intro n hn;have e2:IntKind.i64.wrap (n:Int)=if(decide ((n:Int) % 18446744073709551616 >= 9223372036854775808))=true then(n:Int) % 18446744073709551616 - 18446744073709551616 else(n:Int) % 18446744073709551616:=rfl
  rw[e2];by_cases hm:(n:Int) % 18446744073709551616 >= 9223372036854775808
  ·rw[yW (yY hm)];omega
  ·rw[yX (by rw[yN];exact hm)];omega
 have hx:(ybr 64 op&&& ~~~(1#64)).toNat=0↔0<=op/\op<=1:=by
  rw[show((ybr 64 op&&& ~~~(1#64)).toNat=0↔(ybr 64 op&&& ~~~(1#64))=0#64) from⟨λh=>BitVec.eq_of_toNat_eq h,λh=>by rw[h];rfl⟩,ZBm]
  have hn:(ybr 64 op).toNat=(op % 18446744073709551616).toNat:=by rw[BitVec.toNat_ofInt];rfl
  constructor
  ·rintro(h|h)
   ·have:=congrArg BitVec.toNat h;rw[hn] at this;simp at this;omega
   ·have:=congrArg BitVec.toNat h;rw[hn] at this;simp at this;omega
  ·rintro⟨h0,h1⟩;rcases (show op=0\/op=1 by omega) with rfl|rfl
   ·exact .inl rfl
   ·exact .inr rfl
 rw[e];by_cases h:0<=op/\op<=1
 ·rw[yY h,(hw _ hlt).2 (hx.2 h)];rfl
 ·rw[yZ h];exact bne_iff_ne.2 λk=>h (hx.1 ((hw _ hlt).1 k))
theorem ZMS{ch:Chan}(w:ChWf ch):∃e:Int,ZhS yD ch=some e/\(e=0->(1<=ch.2.1/\ch.2.1<=1125899906842624)/\(0<=ch.1.2/\ch.1.2<=63)/\(ch.2.2.2.2=0\/ch.2.2.2.2=1)/\SideOk ch):=by
 obtain⟨b0,b1,hb⟩:=Zo9 w.b;obtain⟨t0,t1,ht⟩:=Zo9 w.t;have a0:=w.a0;have o0:=w.o0;have o1:=w.o1;obtain⟨⟨id,no⟩,A,bs,ts,op⟩:=ch;dsimp only at hb ht a0 o0 o1;subst hb;subst ht;have hop:=Zqn o0 o1;unfold ZhS;dsimp only;by_cases h1:1<=A/\A<=1125899906842624
 ·rw[yX (show¬decide (A < 1)=true by rw[yN];omega),yX (show¬decide (A > 1125899906842624)=true by rw[yN];omega)];by_cases h2:0<=no/\no<=63
  ·rw[yX (show¬decide (no < 0)=true by rw[yN];omega),yX (show¬decide (no >= 64)=true by rw[yN];omega)];rw[hop];by_cases h3:0<=op/\op<=1
   ·rw[yY h3,yX (by decide),ZIC _ _ rfl rfl,ya];by_cases h4:(TermOk t0/\Zan b0)/\TermOk t1/\Zan b1
    ·rw[yW h4];dsimp only;obtain⟨_,_,_,q0,_⟩:=h4.1.1;obtain⟨p0,_⟩:=h4.1.1;obtain⟨_,_,_,q1,_⟩:=h4.2.1;obtain⟨p1,_⟩:=h4.2.1
     have n0:ZaI yD t0.2.1 t1.2.1=if t0.2.1+t1.2.1<=1125899906842624 then some (t0.2.1+t1.2.1,true) else some (0,false):=by
      unfold ZaI Q3;rw[yW (yY (show t0.2.1 >= 0 by omega)),yW (yY (show t1.2.1 >= 0 by omega)),ya,ya,yY (show t0.2.1<=1125899906842624 by omega),yY (show t1.2.1<=1125899906842624 by omega),yX (by decide),yX (by decide),ZO (z:=1125899906842624 - t1.2.1) (by omega) (by omega),ZO (z:=t0.2.1+t1.2.1) (by omega) (by omega)];by_cases h:t0.2.1+t1.2.1<=1125899906842624
      ·rw[yX (ynd (by omega)),yW h]
      ·rw[yW (yY (by omega)),yX h]
     rw[ybd,yaw,ybd,ya,ya,n0];refine⟨if t0.2.1+t1.2.1 > A then 10 else 0, ?_,λ_=>⟨h1,h2,by omega,ZIB.2 h4⟩⟩
     ·by_cases h5:t0.2.1+t1.2.1<=1125899906842624
      ·rw[yW h5,ya,yX (show¬(!true)=true by decide)];by_cases h6:t0.2.1+t1.2.1 > A
       ·rw[yW (yY h6),yW h6]
       ·rw[yX (by rw[yN];exact h6),yX h6]
      ·rw[yX h5,ya,yW (show(!false)=true by decide),yW (by omega)]
    ·rw[yX h4];exact⟨1,rfl,λh=>absurd h (by decide)⟩
   ·rw[yZ h3,yW (by decide)];exact⟨1,rfl,λh=>absurd h (by decide)⟩
  ·refine⟨1, ?_,λh=>absurd h (by decide)⟩;by_cases h:no < 0
   ·rw[yW (yY h)]
   ·rw[yX (by rw[yN];exact h),yW (yY (by omega))]
 ·refine⟨1, ?_,λh=>absurd h (by decide)⟩;by_cases h:A < 1
  ·rw[yW (yY h)]
  ·rw[yX (by rw[yN];exact h),yW (yY (by omega))]
theorem ZwU{lo hi:Int}{l:yL Int}(hl:l.length<=100):ZW yD lo hi l=some (decide (∀x,x∈l->lo<=x/\x<=hi)):=by
 unfold ZW YP Xk
 obtain⟨x,h1,h2⟩:=X6 (step:=ZM yD) l.length (λk s=>s=(l,(l.length:Int),(k:Int),lo,hi)/\∀(j:Nat)z,j < k->l[j]? =some z->lo<=z/\z<=hi) (λx=>(∃j:Nat,x=.inl ((j:Int),lo,hi)/\¬∀z,z∈l->lo<=z/\z<=hi)\/x=.inr (lo,hi)/\∀z,z∈l->lo<=z/\z<=hi) (i:=(l,(l.length:Int),(0:Int),lo,hi)) ⟨rfl,λj z hj=>by omega⟩ (by omega) (by
  rintro k _ hk ⟨rfl,hj⟩;obtain⟨z,hz,hm⟩:=Ze hk;unfold ZM QR;dsimp only;rw[yW (ZF hk),Zl hz,ya,Zp (by omega)];by_cases h:z < lo
  ·right;rw[yW (yY h),ya,yW rfl];exact⟨_,rfl,.inl ⟨k,rfl,λzU=>by have:=zU z hm;omega⟩⟩
  ·rw[yX (by rw[yN];exact h),ya];by_cases h':z > hi
   ·right;rw[yW (yY h')];exact⟨_,rfl,.inl ⟨k,rfl,λzU=>by have:=zU z hm;omega⟩⟩
   ·left;rw[yX (by rw[yN];exact h')];refine⟨_,rfl,rfl,λj q hjk hq=> ?_⟩;by_cases e:j=k
    ·subst e;rw[hz] at hq;cases hq;omega
    ·exact hj j q (by omega) hq) (by
  rintro _ ⟨rfl,hj⟩;unfold ZM;dsimp only;rw[yX (by rw[ZA];decide)];refine⟨_,rfl,.inr ⟨rfl,λp hp=> ?_⟩⟩;obtain⟨j,hj1,hj2⟩:=yck hp;exact hj j p hj1 (by rw[yac hj1,hj2]))
 rw[h1,ya];rcases h2 with⟨j,rfl,h⟩|⟨rfl,h⟩
 ·dsimp only;rw[ya,ya,yY (show(j:Int) >= 0 by omega),yZ h];rfl
 ·dsimp only;rw[ya,ya,yY h];rfl
theorem Zy5(lo hi z:Int):ZW yD lo hi [z]=some (decide (lo<=z/\z<=hi)):=by
 rw[ZwU (by simp)];exact congrArg some (decide_eq_decide.2 (by simp))
theorem ZKz(lo hi y z:Int):ZW yD lo hi [y,z]=some (decide ((lo<=y/\y<=hi)/\lo<=z/\z<=hi)):=by
 rw[ZwU (by simp)];exact congrArg some (decide_eq_decide.2 (by simp))
def ZuG(c:Cond):Prop:=(0<=c.1/\c.1<=1)/\(1<=c.2.1/\c.2.1<=1048576)/\(1<=c.2.2.1/\c.2.2.1<=1125899906842624)/\(1<=c.2.2.2.2/\c.2.2.2.2<=1048576)/\Zo8 c.2.2.2.1
instance(c:Cond):Decidable (ZuG c):=by unfold ZuG;infer_instance
theorem ZKA(c:Cond):ZfC yD c=some (decide (ZuG c)):=by
 unfold ZfC;simp only[Zy5,ya,ZcT];refine Za8 (Za8 (Za8 (Za8 ?_)));by_cases k:IsPt c.2.2.2.1.toNat
 ·rw[yY k,yW rfl];by_cases h:c.2.2.2.1=1
  ·rw[yZ (p:=Zo8 c.2.2.2.1) λq=>q.2 h,h];rfl
  ·rw[yY (p:=Zo8 c.2.2.2.1) ⟨k,h⟩];exact congrArg some (bne_iff_ne.2 h)
 ·rw[yZ k,yX (by decide),yZ (p:=Zo8 c.2.2.2.1) λq=>k q.1]
def ZwV(a b:Cond):Prop:=a.1 < b.1\/a.1=b.1/\a.2.1 < b.2.1
instance(a b:Cond):Decidable (ZwV a b):=by unfold ZwV;infer_instance
theorem ZID(a b:Cond):∃v,ZdG yD a b=some v/\(v >= 0↔¬ZwV a b):=by
 unfold ZdG;rw[ZbW,ZbW,ya,ya,ZLe (by simp),ya];refine⟨_,rfl, ?_⟩;unfold ZwV;by_cases h1:a.1 < b.1
 ·simp only[yW h1,orL];simp[h1]
 ·by_cases h2:a.1 > b.1
  ·simp only[yX h1,yW h2,orL];simp;omega
  ·simp only[yX h1,yX h2,orL];by_cases h3:a.2.1 < b.2.1
   ·simp only[yW h3];simp;omega
   ·by_cases h4:a.2.1 > b.2.1
    ·simp only[yX h3,yW h4];simp;omega
    ·simp only[yX h3,yX h4];simp;omega
def ZMT(to:Int)(o:Int×Int)(c:Cond):Int×Int:=if c.1=wi (1 - to) then(wi (o.1+1),wi (o.2+c.2.2.1)) else o
def off(to:Int)(l:yL Cond):Int×Int:=l.foldl (ZMT to) (0,0)
theorem ZMU{to:Int}{l:yL Cond}{k:Nat}{c:Cond}(h:l[k]? =some c):off to (l.take (k+1))=ZMT to (off to (l.take k)) c:=by
 rw[WM h,off,List.foldl_append];rfl
theorem ZDe(s:yG)(to:Int)(hl:s.2.2.1.length<=1000):ZaL yD s to=some (off to s.2.2.1):=by
 unfold ZaL;rw[show((to,(0:Int),(0:Int),s.2.2.1,(s.2.2.1.length:Int),(0:Int),s):Int×Int×Int×yL Cond×Int×Int×yG)=(λk:Nat=>(to,(off to (s.2.2.1.take k)).1,(off to (s.2.2.1.take k)).2,s.2.2.1,(s.2.2.1.length:Int),(k:Int),s)) 0 from rfl]
 rw[Zt (x:=((off to s.2.2.1).1,(off to s.2.2.1).2,s)) s.2.2.1.length (λk:Nat=>(to,(off to (s.2.2.1.take k)).1,(off to (s.2.2.1.take k)).2,s.2.2.1,(s.2.2.1.length:Int),(k:Int),s)) ?_ ?_ (by omega),ya]
 ·intro k hk;obtain⟨c,hc,hm⟩:=Ze hk;unfold VS;dsimp only;rw[yW (ZF hk),Zl hc,ya,Zp (by omega),ZMU hc];unfold ZMT;by_cases h:c.1=wi (1 - to)
  ·rw[yW (beq_iff_eq.2 h),yW h]
  ·rw[yX (by rw[yT];exact h),yX h]
 ·unfold VS;dsimp only;rw[yX (by rw[ZA];decide),yaj]
def ZIE(o:Int)(c:Cond):Int:=wi (o+c.2.2.1)
def totF(z:Int)(l:yL Cond):Int:=l.foldl ZIE z
theorem ZMV{z:Int}{l:yL Cond}{k:Nat}{c:Cond}(h:l[k]? =some c):totF z (l.take (k+1))=ZIE (totF z (l.take k)) c:=by
 rw[WM h,totF,List.foldl_append];rfl
theorem ZIF(s:yG){a b:Int}(h2:s.2.1=[a,b])(hl:s.2.2.1.length<=1000):ZdH yD s=some (totF (wi (a+b)) s.2.2.1):=by
 unfold ZdH;rw[h2,ybd,yaw,ybd,ya,ya];rw[show((wi (a+b),s.2.2.1,(s.2.2.1.length:Int),(0:Int),s):Int×yL Cond×Int×Int×yG)=(λk:Nat=>(totF (wi (a+b)) (s.2.2.1.take k),s.2.2.1,(s.2.2.1.length:Int),(k:Int),s)) 0 from rfl]
 rw[Zt (x:=(totF (wi (a+b)) s.2.2.1,s)) s.2.2.1.length (λk:Nat=>(totF (wi (a+b)) (s.2.2.1.take k),s.2.2.1,(s.2.2.1.length:Int),(k:Int),s)) ?_ ?_ (by omega),ya]
 ·intro k hk;obtain⟨c,hc,hm⟩:=Ze hk;unfold QS;dsimp only;rw[yW (ZF hk),Zl hc,ya,Zp (by omega),ZMV hc];rfl
 ·unfold QS;dsimp only;rw[yX (by rw[ZA];decide),yaj]
def feeF(r n:Int):Int:=if 0<=r/\r<=1000 then if 0<=n/\n<=16 then r*(68+8*n) else 0 else 0
theorem ZFT{r n:Int}(h1:0<=r)(h2:r<=1000)(h3:0<=n)(h4:n<=16):wi (r*(68+8*n))=r*(68+8*n):=by
 have:=Int.mul_nonneg h1 (show 0<=68+8*n by omega);have:=Int.mul_le_mul h2 (show 68+8*n<=196 by omega) (by omega) (by omega);exact ZO (by omega) (by omega)
theorem ZIG(r n:Int):Zew yD r n=some (feeF r n):=by
 unfold Zew Zf7 feeF;by_cases h1:r < 0
 ·rw[yW (yY h1),yX (show¬(0<=r/\r<=1000) by omega)]
 ·rw[yX (show¬decide (r < 0)=true by rw[yN];exact h1)];by_cases h2:r > 1000
  ·rw[yW (yY h2),yX (show¬(0<=r/\r<=1000) by omega)]
  ·rw[yX (show¬decide (r > 1000)=true by rw[yN];exact h2),yW (show 0<=r/\r<=1000 by omega)];by_cases h3:n < 0
   ·rw[yW (yY h3),yX (show¬(0<=n/\n<=16) by omega),ya,Int.mul_zero];rfl
   ·rw[yX (show¬decide (n < 0)=true by rw[yN];exact h3)];by_cases h4:n > 16
    ·rw[yW (yY h4),yX (show¬(0<=n/\n<=16) by omega),ya,Int.mul_zero];rfl
    ·rw[yX (show¬decide (n > 16)=true by rw[yN];exact h4),yW (show 0<=n/\n<=16 by omega),ya,ZO (z:=8*n) (by omega) (by omega),ZO (z:=68+8*n) (by omega) (by omega),ZFT (by omega) (by omega) (by omega) (by omega)]
theorem ZKB(ch:Chan)(s:yG):ZfD yD ch s=some (wi (feeF s.2.2.2 (s.2.2.1.length:Int)+660)):=by
 unfold ZfD;rw[ZIG,ya]
def Za9(n:Nat)(ok:Nat->Prop):Prop:=∀k,k < n->ok k
open Classical in
theorem ZBn{I X:Type}{step:I->yO (I⊕X)}(n:Nat)(st:Nat->I)(ok:Nat->Prop)(good bad:X)
 (h1:∀k,k < n->ok k->step (st k)=some (.inl (st (k+1)))) (h2:∀k,k < n->¬ok k->step (st k)=some (.inr bad)) (he:step (st n)=some (.inr good)) (hn:n < 18446744073709551616):
 Zb step yD (st 0)=some (if Za9 n ok then good else bad):=by
 obtain⟨x,e,rfl⟩:=X6 (step:=step) n (λk s=>s=st k/\∀j,j < k->ok j) (λx=>x=if Za9 n ok then good else bad) (i:=st 0) ⟨rfl,λj h=>by omega⟩ hn (by
  rintro k _ hk ⟨rfl,hj⟩;by_cases h:ok k
  ·left;refine⟨_,h1 k hk h,rfl,λj hjk=> ?_⟩;by_cases e:j=k
   ·rw[e];exact h
   ·exact hj j (by omega)
  ·right;exact⟨_,h2 k hk h,by rw[yX λq=>h (q k hk)]⟩) (by
  rintro _ ⟨rfl,hj⟩;exact⟨_,he,by rw[yW (show Za9 n ok from hj)]⟩)
 exact e
def CondAt(ch:Chan)(l:yL Cond)(k:Nat):Prop:=∀c,l[k]? =some c->ZuG c/\(∀p,0 < k->l[k - 1]? =some p->ZwV p c)/\∀t,ch.2.2.2.1[(1 - c.1).toNat]? =some t->t.2.2.2.2.1<=c.2.2.1
def SideAt(ch:Chan)(l:yL Cond)(k:Nat):Prop:=∀t,ch.2.2.2.1[k]? =some t->(off (k:Int) l).1<=t.2.2.2.1/\(off (k:Int) l).2<=t.2.2.2.2.2
theorem ZDf{ch:Chan}(w:ch.2.2.2.1.length=2){c:Cond}(h:0<=c.1/\c.1<=1):wi (1 - c.1)=1 - c.1/\inB (wi (1 - c.1)) 2=true/\∃t,ch.2.2.2.1[(wi (1 - c.1)).toNat]? =some t/\ch.2.2.2.1[(1 - c.1).toNat]? =some t:=by
 have e:wi (1 - c.1)=1 - c.1:=ZO (by omega) (by omega);rw[e];obtain⟨t,ht,_⟩:=Ze (l:=ch.2.2.2.1) (k:=(1 - c.1).toNat) (by omega);exact⟨rfl,Yc (by omega) (by omega),t,ht,ht⟩
theorem ZuH{ch:Chan}(w:ch.2.2.2.1.length=2)(s:yG){k:Nat}(hk:k < s.2.2.1.length)(hl:s.2.2.1.length<=16):
 (CondAt ch s.2.2.1 k->XC yD (s.2.2.1,(s.2.2.1.length:Int),(k:Int),ch,s)=some (.inl (s.2.2.1,(s.2.2.1.length:Int),((k+1:Nat):Int),ch,s)))/\
 (¬CondAt ch s.2.2.1 k->XC yD (s.2.2.1,(s.2.2.1.length:Int),(k:Int),ch,s)=some (.inr (.inl (false,ch,s)))):=by
 obtain⟨c,hc,hm⟩:=Ze hk;unfold XC;dsimp only;rw[yW (ZF hk)];simp only[Zl hc,ya,ZKA];rw[Zp (by omega)];by_cases hf:ZuG c
 ·rw[yY hf,yX (show¬(!true)=true by decide)];obtain⟨e,hb,t,ht,ht'⟩:=ZDf w hf.1;simp only[yW hb];rw[ht,ya];by_cases hk0:k=0
  ·subst hk0;rw[yX (show¬decide (((0:Nat):Int) > 0)=true by decide)];by_cases hd:c.2.2.1 < t.2.2.2.2.1
   ·have bad:¬CondAt ch s.2.2.1 0:=λq=>by
     have:=(q c hc).2.2 t ht';omega
    refine⟨λq=>absurd q bad,λ_=> ?_⟩;rw[yW (yY hd)]
   ·have good:CondAt ch s.2.2.1 0:=λc' hc'=>by
     rw[hc] at hc';cases hc';refine⟨hf,λp h0=>by omega,λt' h'=> ?_⟩;rw[ht'] at h';cases h';omega
    refine⟨λ_=> ?_,λq=>absurd good q⟩;rw[yX (show¬decide (c.2.2.1 < t.2.2.2.2.1)=true by rw[yN];exact hd)]
  ·obtain⟨p,hp,_⟩:=Ze (l:=s.2.2.1) (k:=k - 1) (by omega)
   have ek:wi ((k:Int) - 1)=((k - 1:Nat):Int):=by
    rw[ZO (by omega) (by omega)];omega
   rw[yW (show decide ((k:Int) > 0)=true from yY (by omega)),ek,Zl hp]
   simp only[ya];obtain⟨v,hv,hv2⟩:=ZID p c;rw[hv];simp only[ya];by_cases ha:ZwV p c
   ·by_cases hd:c.2.2.1 < t.2.2.2.2.1
    ·have bad:¬CondAt ch s.2.2.1 k:=λq=>by
      have:=(q c hc).2.2 t ht';omega
     refine⟨λq=>absurd q bad,λ_=> ?_⟩;rw[yW (yY hd)]
    ·have good:CondAt ch s.2.2.1 k:=λc' hc'=>by
      rw[hc] at hc';cases hc';refine⟨hf,λp' h0 hp'=> ?_,λt' h'=> ?_⟩
      ·rw[hp] at hp';cases hp';exact ha
      ·rw[ht'] at h';cases h';omega
     refine⟨λ_=> ?_,λq=>absurd good q⟩;rw[yX (show¬decide (c.2.2.1 < t.2.2.2.2.1)=true by rw[yN];exact hd),yX (show¬decide (v >= 0)=true by rw[yN];exact λq=>hv2.1 q ha)]
   ·have bad:¬CondAt ch s.2.2.1 k:=λq=>ha ((q c hc).2.1 p (by omega) hp);refine⟨λq=>absurd q bad,λ_=> ?_⟩;rw[yW (show decide (v >= 0)=true from yY (hv2.2 ha))]
    by_cases hd:c.2.2.1 < t.2.2.2.2.1
    ·rw[yW (yY hd)]
    ·rw[yX (show¬decide (c.2.2.1 < t.2.2.2.2.1)=true by rw[yN];exact hd)]
 ·have bad:¬CondAt ch s.2.2.1 k:=λq=>hf (q c hc).1;refine⟨λq=>absurd q bad,λ_=> ?_⟩;rw[yZ hf,yW (show(!false)=true by decide)]
open Classical in
theorem ZDg{ch:Chan}(w:ch.2.2.2.1.length=2)(s:yG)(hl:s.2.2.1.length<=16):
 Zb (XC yD) yD (s.2.2.1,(s.2.2.1.length:Int),(0:Int),ch,s)=some (if Za9 s.2.2.1.length (CondAt ch s.2.2.1) then .inr (ch,s) else .inl (false,ch,s)):=by
 ·refine ZBn s.2.2.1.length (λk:Nat=>(s.2.2.1,(s.2.2.1.length:Int),(k:Int),ch,s)) (CondAt ch s.2.2.1) _ _ (λk hk h=>((ZuH w s hk hl).1 h)) (λk hk h=>((ZuH w s hk hl).2 h)) ?_ (by omega);unfold XC;dsimp only;rw[yX (by rw[ZA];decide)]
theorem ZuI{ch:Chan}(w:ch.2.2.2.1.length=2)(s:yG){k:Nat}(hk:k < 2)(hl:s.2.2.1.length<=16):
 (SideAt ch s.2.2.1 k->Wi yD (ch.2.2.2.1,(k:Int),ch,s)=some (.inl (ch.2.2.2.1,((k+1:Nat):Int),ch,s)))/\
 (¬SideAt ch s.2.2.1 k->Wi yD (ch.2.2.2.1,(k:Int),ch,s)=some (.inr (.inl (false,ch,s)))):=by
 obtain⟨t,ht,_⟩:=Ze (l:=ch.2.2.2.1) (k:=k) (by omega);unfold Wi;dsimp only;rw[yW (show decide ((k:Int) < 2)=true from yY (by omega)),Zl ht,ya,ZDe s _ (by omega),ya,Zp (by omega)]
 by_cases h1:(off (k:Int) s.2.2.1).1 > t.2.2.2.1
 ·have bad:¬SideAt ch s.2.2.1 k:=λq=>by
   have:=(q t ht).1;omega
  refine⟨λq=>absurd q bad,λ_=> ?_⟩;rw[yW (yY h1)]
 ·rw[yX (show¬decide ((off (k:Int) s.2.2.1).1 > t.2.2.2.1)=true by rw[yN];exact h1)];by_cases h2:(off (k:Int) s.2.2.1).2 > t.2.2.2.2.2
  ·have bad:¬SideAt ch s.2.2.1 k:=λq=>by
    have:=(q t ht).2;omega
   refine⟨λq=>absurd q bad,λ_=> ?_⟩;rw[yW (yY h2)]
  ·have good:SideAt ch s.2.2.1 k:=λt' h'=>by
    rw[ht] at h';cases h';omega
   refine⟨λ_=> ?_,λq=>absurd good q⟩;rw[yX (show¬decide ((off (k:Int) s.2.2.1).2 > t.2.2.2.2.2)=true by rw[yN];exact h2)]
open Classical in
theorem ZDh{ch:Chan}(w:ch.2.2.2.1.length=2)(s:yG)(hl:s.2.2.1.length<=16):
 Zb (Wi yD) yD (ch.2.2.2.1,(0:Int),ch,s)=some (if Za9 2 (SideAt ch s.2.2.1) then .inr (ch,s) else .inl (false,ch,s)):=by
 ·exact ZBn 2 (λk:Nat=>(ch.2.2.2.1,(k:Int),ch,s)) (SideAt ch s.2.2.1) _ _ (λk hk h=>((ZuI w s hk hl).1 h)) (λk hk h=>((ZuI w s hk hl).2 h)) rfl (by omega)
structure StR(ch:Chan)(s:yG):Prop where
 am:1<=ch.2.1/\ch.2.1<=1125899906842624
 at_:0<=ch.1.2/\ch.1.2<=63
 op:ch.2.2.2.2=0\/ch.2.2.2.2=1
 side:SideOk ch
 no:0<=s.1/\s.1<=1048576
 have_:∃a b,s.2.1=[a,b]/\(0<=a/\a<=1125899906842624)/\(0<=b/\b<=1125899906842624)/\totF (wi (a+b)) s.2.2.1=ch.2.1/\(ch.2.2.2.2=0->a >= wi (feeF s.2.2.2 (s.2.2.1.length:Int)+660))/\(ch.2.2.2.2=1->b >= wi (feeF s.2.2.2 (s.2.2.1.length:Int)+660))
 rate:0<=s.2.2.2/\s.2.2.2<=1000
 len:s.2.2.1.length<=16
 conds:∀k,k < s.2.2.1.length->CondAt ch s.2.2.1 k
 sides:∀k,k < 2->SideAt ch s.2.2.1 k
theorem ZIH{ch:Chan}(w:ChWf ch){s:yG}(hw:s.2.1.length=2):∃b:Bool,ZaM yD ch s=some b/\(b=true->StR ch s):=by
 obtain⟨e,f1,f3⟩:=ZMS w;obtain⟨a,b,hs⟩:=Zo9 hw;unfold ZaM;rw[f1,ya];by_cases he:e=0
 ·subst he;obtain⟨q1,q2,q3,q4⟩:=f3 rfl;rw[yX (show¬(((0:Int)!=0)=true) by decide),Zy5,ya,hs];by_cases h1:0<=s.1/\s.1<=1048576
  ·rw[yY h1,yX (show¬(!true)=true by decide),ybd,yaw,ybd];simp only[ya,ZKz,Zy5];by_cases h2:0<=a/\a<=1125899906842624
   ·by_cases h3:0<=b/\b<=1125899906842624
    ·rw[yY (p:=(0<=a/\a<=1125899906842624)/\0<=b/\b<=1125899906842624) ⟨h2,h3⟩];rw[yX (show¬(!true)=true by decide)];by_cases h4:0<=s.2.2.2/\s.2.2.2<=1000
     ·rw[yY h4,yX (show¬(!true)=true by decide)];by_cases h5:s.2.2.1.length<=16
      ·have h5':¬decide ((s.2.2.1.length:Int) > 16)=true:=by rw[yN];omega
       rw[yX h5',ZDg w.t s h5,ya];by_cases h6:Za9 s.2.2.1.length (CondAt ch s.2.2.1)
       ·rw[yW h6];dsimp only;rw[ZDh w.t s h5,ya];by_cases h7:Za9 2 (SideAt ch s.2.2.1)
        ·rw[yW h7];dsimp only;rw[ZIF s hs (by omega),ya];by_cases h8:totF (wi (a+b)) s.2.2.1=ch.2.1
         ·rw[yW (beq_iff_eq.2 h8),hs,ZKB];rcases q3 with q|q
          ·rw[q,yW (by decide)];refine⟨decide (a >= wi (feeF s.2.2.2 (s.2.2.1.length:Int)+660)),rfl,λh=>⟨q1,q2,.inl q,q4,h1,⟨a,b,hs,h2,h3,h8,λ_=>yF h,λh=> ?_⟩,h4,h5,h6,h7⟩⟩;rw[q] at h;exact absurd h (by decide)
          ·rw[q,yW (by decide)];refine⟨decide (b >= wi (feeF s.2.2.2 (s.2.2.1.length:Int)+660)),rfl,λh=>⟨q1,q2,.inr q,q4,h1,⟨a,b,hs,h2,h3,h8,λh=> ?_,λ_=>yF h⟩,h4,h5,h6,h7⟩⟩;rw[q] at h;exact absurd h (by decide)
         ·have h8':¬(totF (wi (a+b)) s.2.2.1==ch.2.1)=true:=by rw[yT];exact h8
          rw[yX h8'];exact⟨false,rfl,λh=>absurd h (by decide)⟩
        ·rw[yX h7];exact⟨false,rfl,λh=>absurd h (by decide)⟩
       ·rw[yX h6];exact⟨false,rfl,λh=>absurd h (by decide)⟩
      ·have h5':decide ((s.2.2.1.length:Int) > 16)=true:=yY (by omega);rw[yW h5'];exact⟨false,rfl,λh=>absurd h (by decide)⟩
     ·rw[yZ h4];exact⟨false,rfl,λh=>absurd h (by decide)⟩
    ·rw[yZ (p:=(0<=a/\a<=1125899906842624)/\0<=b/\b<=1125899906842624) λq=>h3 q.2];exact⟨false,rfl,λh=>absurd h (by decide)⟩
   ·rw[yZ (p:=(0<=a/\a<=1125899906842624)/\0<=b/\b<=1125899906842624) λq=>h2 q.1];exact⟨false,rfl,λh=>absurd h (by decide)⟩
  ·rw[yZ h1];exact⟨false,rfl,λh=>absurd h (by decide)⟩
 ·have he':(e !=0)=true:=bne_iff_ne.2 he;rw[yW he'];exact⟨false,rfl,λh=>absurd h (by decide)⟩
theorem ZEE(x:yU):Znv x.toNat=Wc x.toNat:=by
 apply ybj;intro k;by_cases hk:k < 8
 ·have h:(Wc x.toNat)[k]? =_:=Zuz x hk;rw[ZuD _ hk,h,ZuE]
 ·rw[yan (by rw[Ze4];omega),yan (by rw[Wa];omega)]
theorem ZFU(p:yU):ZfJ yD p=some (Wc p.toNat):=by
 unfold ZfJ
 have e:=Zt (step:=W2 yD) 8 (λk:Nat=>(p,(k:Int),ZmF (Wc p.toNat) 8 k)) (x:=Wc p.toNat) (by
  intro k hk;have hb:(Wc p.toNat)[k]? =_:=Zuz p hk;have hl:(Wc p.toNat).length=8:=rfl;unfold W2;dsimp only;have q1:min (56 - 8*(k:Int)).toNat 64=56 - 8*k:=by omega
  rw[yW (yY (by omega)),ZO (z:=8*(k:Int)) (by omega) (by omega),ZO (z:=56 - 8*(k:Int)) (by omega) (by omega),yW (yY (by omega)),yW (Yc (by omega) (by omega)),ybe,ZwP (by omega) (by omega),ya,Zp (by omega),q1,ZwQ hb (by omega)]) (by
  unfold W2;dsimp only;rw[yX (ynd (by omega)),ZwR (n:=8) (Wa _)]) (by omega)
 have e:Zb (W2 yD) yD (p,(0:Int),([0,0,0,0,0,0,0,0]:yL yB))=_:=e;rw[e,ya];rfl
noncomputable def ZFV(s:ByteArray)(a b:yU):yU:=frF (Sha.sha (ZvL s [Wc a.toNat,Wc b.toNat]))
theorem ZEF(a b:yU):∀l,l∈[Wc a.toNat,Wc b.toNat]->l.length<=60000:=by
 intro l hl;simp only[ybc,ycs,or_false] at hl;rcases hl with rfl|rfl
 ·exact ybw (Nat.le_of_eq (Wa _)) (by decide)
 ·exact ybw (Nat.le_of_eq (Wa _)) (by decide)
theorem Zy6{s:ByteArray}(hs:s.size<=100)(a b:yU):Vn yD s [a,b]=some (ZFV s a b):=by
 unfold Vn
 have e:=Zt (step:=Wj yD) 2 (λk:Nat=>(s,[a,b],(2:Int),(k:Int),[Wc a.toNat,Wc b.toNat].take k)) (x:=(s,[Wc a.toNat,Wc b.toNat])) (by
  intro k hk;obtain⟨p,hp,_⟩:=Ze (l:=[a,b]) (k:=k) (by simp;omega)
  have hq:[Wc a.toNat,Wc b.toNat][k]? =some (Wc p.toNat):=by
   rcases (show k=0\/k=1 by omega) with rfl|rfl
   ·cases hp;rfl
   ·cases hp;rfl
  have hl:([Wc a.toNat,Wc b.toNat].take k).length<=2:=by rw[yaf];exact Nat.min_le_right _ _
  unfold Wj;dsimp only;rw[yW (yY (by omega)),Zl hp,ya,ZFU,ya,yW (ZU (by omega) (by omega)),Zp (by omega),List.take_add_one,hq];rfl) (by
  unfold Wj;dsimp only;rw[yX (ynd (by omega))];rfl) (by omega)
 have e:Zb (Wj yD) yD (s,[a,b],(([a,b]:yL yU).length:Int),(0:Int),([]:yL (yL yB)))=_:=e;rw[e,ya];dsimp only;rw[ZDd hs (by simp) (ZEF a b),ya,ZKw (Sha.ZN2 _),ya];rfl
theorem ZKC{s:ByteArray}(hs:s.size<=100)(a b:yU):WC yD s a b=some (ZFV s a b):=by
 unfold WC;rw[Zin _ (by simp),Zin _ (by simp),ya,ya,yx,yx,ZEE,ZEE,ZED hs (by simp) (ZEF a b),ya,ZIw (Sha.ZN2 _),ya];rfl
noncomputable def mixF(a p:yU):yU:=ad a (B (ZFV ZAR p a).toNat)
noncomputable def revF(a p:yU):yU:=ad (sc a (ZFV ZEu a p).toNat) (sc p (ZFV ZEu p a).toNat)
theorem ZMW(a p:yU):Zd0 yD a p=some (mixF a p):=by
 unfold Zd0;rw[Zy6 (by decide),ya,Zr7,ya,ZIn,ya];rfl
theorem ZFW(a p:yU):ZdL yD a p=some (revF a p):=by
 unfold ZdL;rw[Zy6 (by decide),ya,ZuA,ya,Zy6 (by decide),ya,ZuA,ya,ZIn,ya];rfl
theorem Zy7(a p:yU):IsPt (mixF a p).toNat:=ZLd _ _
theorem ZEG(a p:yU):IsPt (revF a p).toNat:=ZLd _ _
theorem ZFX{l:yL yU}(hl:l.length<=9223372036854775807):∃b,Xy yD l=some b/\(b=false->∀p,p∈l->IsPt p.toNat):=by
 unfold Xy VU
 obtain⟨x,h1,h2⟩:=X6 (step:=Yk yD) l.length (λk s=>s=(l,(l.length:Int),(k:Int))/\∀j p,j < k->l[j]? =some p->IsPt p.toNat) (λx=>(∃k:Nat,x=.inl (k:Int))\/x=.inr ()/\∀p,p∈l->IsPt p.toNat) (i:=(l,(l.length:Int),(0:Int))) ⟨rfl,λj p hj=>by omega⟩ (by omega) (by
  rintro k _ hk ⟨rfl,hj⟩;obtain⟨e,he,_⟩:=Ze hk;unfold Yk;dsimp only;rw[yW (ZF hk),Zl he,ya,ZDa,ya,Zp (by omega)];by_cases hp:IsPt e.toNat
  ·rw[yY hp];left;refine⟨_,rfl,rfl,λj p h3 h4=> ?_⟩;by_cases h5:j < k
   ·exact hj j p h5 h4
   ·have:j=k:=by omega
    subst this;rw[he] at h4;cases h4;exact hp
  ·rw[yZ hp];right;exact⟨_,rfl,.inl ⟨k,rfl⟩⟩) (by
  rintro _ ⟨rfl,hj⟩;unfold Yk;dsimp only;rw[yX (by rw[ZA];decide)];refine⟨_,rfl,.inr ⟨rfl,λp hp=> ?_⟩⟩;obtain⟨j,hj1,hj2⟩:=yck hp;exact hj j p hj1 (by rw[yac hj1,hj2]))
 rw[h1,ya];rcases h2 with⟨k,rfl⟩|⟨rfl,h2⟩
 ·dsimp only;rw[ya];refine⟨_,rfl,λh=> ?_⟩;exact absurd (of_decide_eq_false h) (by omega)
 ·exact⟨_,rfl,λ_=>h2⟩
def LockWf(l:Z4):Prop:=l.length<=9223372036854775807/\∀b,b∈l->b.1.length<=9223372036854775807
theorem Zrf(z:Int):∃b,Vp yD z=some b/\(b=true->0<=z/\z<=1048576):=by
 unfold Vp;by_cases h:z >= 0
 ·rw[yW (yY h)];exact⟨_,rfl,λh2=>⟨h,yF h2⟩⟩
 ·rw[yX (by rw[yN];exact h)];exact⟨_,rfl,λh2=>by cases h2⟩
theorem Ze5{l:Z4}(hl:LockWf l):∃b,Ws yD l=some b/\(b=true↔We l/\Qi l):=by
 have key:∃b,Ws yD l=some b/\(b=true->We l/\Qi l):=by
  unfold Ws;obtain⟨h0,h1⟩:=hl
  obtain⟨x,hx,hp⟩:=X6 (step:=X1 yD) l.length (λk s=>s=(l,(l.length:Int),(k:Int),l)/\∀j b,j < k->l[j]? =some b->ZyY b/\ZyZ b)
   (λx=>x=.inl (false,l)\/(x=.inr l/\∀b,b∈l->ZyY b/\ZyZ b)) (i:=(l,(l.length:Int),(0:Int),l)) ⟨rfl,λj b hj=>by omega⟩ (by omega) (by
   rintro k _ hk ⟨rfl,hj⟩;obtain⟨e,he,hm⟩:=Ze hk
   have hnext:(ZyY e/\ZyZ e)->∀j b,j < k+1->l[j]? =some b->ZyY b/\ZyZ b:=by
    intro hE j b h2 h3;by_cases h4:j < k
    ·exact hj j b h4 h3
    ·have:j=k:=by omega
     subst this;rw[he] at h3;cases h3;exact hE
   unfold X1;dsimp only;rw[yW (ZF hk),Zl he,ya];by_cases k1:(e.1.length:Int) > 12
   ·right;rw[yW (yY k1)];exact⟨_,rfl,.inl rfl⟩
   rw[yX (by rw[yN];exact k1)];obtain⟨b,hb,hbp⟩:=ZFX (h1 e hm);rw[hb,ya]
   cases b with
   |true=>right;exact⟨_,rfl,.inl rfl⟩
   |false=>
    obtain⟨c,hc,hc2⟩:=Zrf e.2.1;obtain⟨d,hd,hd2⟩:=Zrf e.2.2.1;rw[yX (by decide),hc,ya,hd,ya]
    cases c with
    |false=>right;exact⟨_,rfl,.inl rfl⟩
    |true=>
     cases d with
     |false=>right;exact⟨_,rfl,.inl rfl⟩
     |true=>
      have hn:=λhz:e.2.2.2≠0->IsPt e.2.2.2.toNat=>hnext ⟨⟨by omega,(hc2 rfl).1,(hc2 rfl).2,(hd2 rfl).1,(hd2 rfl).2⟩,hbp rfl,hz⟩;rw[yX (by decide),yX (by decide),Zp (by omega)];by_cases hz:e.2.2.2=0
      ·rw[yX (by rw[hz];decide)];left;exact⟨_,rfl,rfl,hn λh=>absurd hz h⟩
      ·rw[yW (by simp[hz]),ZDa,ya];by_cases hpt:IsPt e.2.2.2.toNat
       ·rw[yY hpt];left;exact⟨_,rfl,rfl,hn λ_=>hpt⟩
       ·rw[yZ hpt];right;exact⟨_,rfl,.inl rfl⟩) (by
   rintro _ ⟨rfl,hj⟩;unfold X1;dsimp only;rw[yX (by rw[ZA];decide)];refine⟨_,rfl,.inr ⟨rfl,λb hb=> ?_⟩⟩;obtain⟨j,hj1,hj2⟩:=yck hb;exact hj j b hj1 (by rw[yac hj1,hj2]))
  rw[hx,ya];rcases hp with rfl|⟨rfl,hp⟩
  ·exact⟨_,rfl,λh=>by cases h⟩
  ·dsimp only;by_cases h2:(l.length:Int) > 0
   ·rw[yW (yY h2)];refine⟨_,rfl,λh3=>⟨⟨by omega, ?_,λb hb=>(hp b hb).1⟩,λb hb=>(hp b hb).2⟩⟩;have:=yF h3;omega
   ·rw[yX (by rw[yN];exact h2)];exact⟨_,rfl,λh=>by cases h⟩
 obtain⟨b,h1,h2⟩:=key;refine⟨b,h1,h2,λh=> ?_⟩;rw[Znw h.1 h.2] at h1;exact(Option.some.inj h1).symm
theorem ZBo{e:Branch}(hw:e.1.length<=9223372036854775807):∃b,Wy yD e=some b/\(b=true↔ZyY e/\ZyZ e):=by
 unfold Wy;by_cases c1:(e.1.length:Int) > 12
 ·rw[yW (yY c1)];exact⟨_,rfl,λh=>(by cases h),λh=>by have:=h.1.1;omega⟩
 rw[yX (by rw[yN];exact c1)];by_cases c2:e.2.1 < 0
 ·rw[yW (yY c2)];exact⟨_,rfl,λh=>(by cases h),λh=>by have:=h.1.2.1;omega⟩
 rw[yX (by rw[yN];exact c2)];by_cases c3:e.2.1 > 1048576
 ·rw[yW (yY c3)];exact⟨_,rfl,λh=>(by cases h),λh=>by have:=h.1.2.2.1;omega⟩
 rw[yX (by rw[yN];exact c3)];by_cases c4:e.2.2.1 < 0
 ·rw[yW (yY c4)];exact⟨_,rfl,λh=>(by cases h),λh=>by have:=h.1.2.2.2.1;omega⟩
 rw[yX (by rw[yN];exact c4)];by_cases c5:e.2.2.1 > 1048576
 ·rw[yW (yY c5)];exact⟨_,rfl,λh=>(by cases h),λh=>by have:=h.1.2.2.2.2;omega⟩
 rw[yX (by rw[yN];exact c5)];have ok:ZyY e:=⟨by omega,by omega,by omega,by omega,by omega⟩
 obtain⟨x,h1,h2⟩:=X6 (step:=YY yD) e.1.length (λk s=>s=((k:Int),e)/\∀j p,j < k->e.1[j]? =some p->IsPt p.toNat) (λx=>(x=.inl (false,e)/\¬ZyZ e)\/(x=.inr e/\∀p,p∈e.1->IsPt p.toNat)) (i:=((0:Int),e)) ⟨rfl,λj p hj=>by omega⟩ (by omega) (by
  rintro k _ hk ⟨rfl,hj⟩;obtain⟨d,hd,hm⟩:=Ze hk;unfold YY;dsimp only;rw[yW (ZF hk),Zl hd,ya,Zls,ya];by_cases hp:IsPt d.toNat
  ·left;rw[yY hp,yX (by decide),Zp (by omega)];refine⟨_,rfl,rfl,λj p h3 h4=> ?_⟩;by_cases h5:j < k
   ·exact hj j p h5 h4
   ·have:j=k:=by omega
    subst this;rw[hd] at h4;cases h4;exact hp
  ·right;rw[yZ hp,yW (by decide)];exact⟨_,rfl,.inl ⟨rfl,λh=>hp (h.1 d hm)⟩⟩) (by
  rintro _ ⟨rfl,hj⟩;unfold YY;dsimp only;rw[yX (by rw[ZA];decide)];refine⟨_,rfl,.inr ⟨rfl,λp hp=> ?_⟩⟩;obtain⟨j,j1,j2⟩:=yck hp;exact hj j p j1 (by rw[yac j1,j2]))
 rw[h1,ya];rcases h2 with⟨rfl,h2⟩|⟨rfl,h2⟩
 ·exact⟨_,rfl,λh=>(by cases h),λh=>absurd h.2 h2⟩
 ·dsimp only;rw[Zls,ya];by_cases h0:e.2.2.2=0
  ·rw[yW (beq_iff_eq.2 h0)];exact⟨_,rfl,λ_=>⟨ok,h2,λh=>absurd h0 h⟩,λ_=>rfl⟩
  ·rw[yX (by rw[yT];exact h0)];refine⟨_,rfl,λh=>⟨ok,h2,λ_=>yF h⟩,λh=>yY (h.2.2 h0)⟩
theorem Zio{l:Z4}(hl:LockWf l):∃b,Xg yD l=some b/\(b=true↔We l/\Qi l):=by
 obtain⟨w0,w1⟩:=hl;unfold Xg;by_cases c1:(l.length:Int) < 1
 ·rw[yW (yY c1)];exact⟨_,rfl,λh=>(by cases h),λh=>by have:=h.1.1;omega⟩
 rw[yX (by rw[yN];exact c1)];by_cases c2:(l.length:Int) > 4
 ·rw[yW (yY c2)];exact⟨_,rfl,λh=>(by cases h),λh=>by have:=h.1.2.1;omega⟩
 rw[yX (by rw[yN];exact c2)]
 obtain⟨x,h1,h2⟩:=X6 (step:=Xa yD) l.length (λk s=>s=((k:Int),l)/\∀j b,j < k->l[j]? =some b->ZyY b/\ZyZ b) (λx=>(x=.inl (false,l)/\¬(We l/\Qi l))\/(x=.inr l/\∀b,b∈l->ZyY b/\ZyZ b)) (i:=((0:Int),l)) ⟨rfl,λj p hj=>by omega⟩ (by omega) (by
  rintro k _ hk ⟨rfl,hj⟩;obtain⟨d,hd,hm⟩:=Ze hk;obtain⟨b,b1,b2⟩:=ZBo (w1 d hm);unfold Xa;dsimp only;rw[yW (ZF hk),Zl hd,ya,b1,ya]
  cases b with
  |true=>
   left;rw[yX (by decide),Zp (by omega)];refine⟨_,rfl,rfl,λj p h3 h4=> ?_⟩;by_cases h5:j < k
   ·exact hj j p h5 h4
   ·have:j=k:=by omega
    subst this;rw[hd] at h4;cases h4
    exact b2.1 rfl
  |false=>
   right;rw[yW (by decide)];exact⟨_,rfl,.inl ⟨rfl,λh=>by have:=b2.2 ⟨h.1.2.2 d hm,h.2 d hm⟩;cases this⟩⟩) (by
  rintro _ ⟨rfl,hj⟩;unfold Xa;dsimp only;rw[yX (by rw[ZA];decide)];refine⟨_,rfl,.inr ⟨rfl,λp hp=> ?_⟩⟩;obtain⟨j,j1,j2⟩:=yck hp;exact hj j p j1 (by rw[yac j1,j2]))
 rw[h1,ya];rcases h2 with⟨rfl,h2⟩|⟨rfl,h2⟩
 ·exact⟨_,rfl,λh=>(by cases h),λh=>absurd h h2⟩
 ·exact⟨_,rfl,λ_=>⟨⟨by omega,by omega,λb hb=>(h2 b hb).1⟩,λb hb=>(h2 b hb).2⟩,λ_=>rfl⟩
theorem ZII{l:Z4}(h:We l)(hp:Qi l):Xg yD l=some true:=by
 obtain⟨b,b1,b2⟩:=Zio (l:=l) ⟨by have:=h.2.1;omega,λb hb=>by have:=(h.2.2 b hb).1;omega⟩;rw[b1,b2.2 ⟨h,hp⟩]
theorem ZDi{c:yL yB}(hc:c.length<=100000){i:Int}{l:Z4}{e:Branch}(hk:e.1.length<=12):
 Zb (Ys yD) yD (c,i,(0:Int),l,e)=some (c++cat Zy0 e.1,i,l,e):=by
 have q:=Zt (step:=Ys yD) e.1.length (λk:Nat=>(c++cat Zy0 (e.1.take k),i,(k:Int),l,e)) (x:=(c++cat Zy0 e.1,i,l,e)) (by
  intro k hk2;obtain⟨d,hd,_⟩:=Ze hk2;have hl:=ZkZ hk k;unfold Ys;dsimp only;rw[yW (ZF hk2),Zl hd,ya,Zin _ (by rw[yo];omega),ya,Zp (by omega),QM hd,yab];rfl) (by
  unfold Ys;dsimp only;rw[yX (by rw[ZA];decide),yaj]) (by omega)
 rw[show cat Zy0 (e.1.take 0)=[] from rfl,yar] at q
 exact q
theorem ZBp{l:Z4}(h:We l)(hp:Qi l):WN yD l=some (ZkY l):=by
 unfold WN;have h0:=h.2.1;have h9:=ZV (n:=l.length) (by omega);rw[ZII h hp,ya,yX (by decide),Zcb (by omega) (by omega) (by simp),ya,yx,ybe]
 have q:=Zt (step:=Yt yD) l.length (λk:Nat=>(XF l.length++cat brF (l.take k),(k:Int),l)) (x:=(ZkY l,l)) (by
  intro k hk;obtain⟨e,he,hm⟩:=Ze hk;obtain⟨e1,e2,e3,e4,e5⟩:=h.2.2 e hm;have hl:=Za7 (f:=brF) (c:=131) (λx hx=>Zy1 (h.2.2 x hx)) h.2.1 k;have hr:=ZV (n:=e.1.length) (by omega);have hr2:=ZV (n:=e.2.1.toNat) (by omega);have hr3:=ZV (n:=e.2.2.1.toNat) (by omega);have hk8:=ZkZ e1 e.1.length;rw[yaj] at hk8;unfold Yt;dsimp only
  rw[yW (ZF hk),Zl he,ya,Zcb (by omega) (by omega) (by rw[yo];omega),ya,ybe,
   ZDi (by simp only[yo];omega) e1,ya]
  dsimp only
  rw[Zcb e2 (by omega) (by simp only[yo];omega),ya,Zcb e4 (by omega) (by simp only[yo];omega),ya,
   Zin _ (by simp only[yo];omega),ya,Zp (by omega),QM he]
  unfold brF;simp only[yab]) (by
  unfold Yt;dsimp only;rw[yX (by rw[ZA];decide),yaj];rfl) (by omega)
 rw[show cat brF (l.take 0)=[] from rfl,yar] at q
 have q:Zb (Yt yD) yD (XF l.length,(0:Int),l)=_:=q;rw[q,ya]
open Classical in
noncomputable def ZIJ(l:Z4):yL yB:=if We l/\Qi l then Sha.sha (ZvL ZLa [ZkY l]) else z32
theorem ZBq(l:Z4):(ZIJ l).length=32:=by
 unfold ZIJ;by_cases h:We l/\Qi l
 ·rw[yW h];exact Sha.ZN2 _
 ·rw[yX h];rfl
theorem ZIK{l:Z4}(h:We l):∀x,x∈[ZkY l]->x.length<=60000:=λx hx=>by
 have:=Zlt h;rw[yau.1 hx];omega
theorem ZKD{l:Z4}(hl:LockWf l):Zlq yD l=some (ZIJ l):=by
 obtain⟨b,b1,b2⟩:=Ze5 hl;unfold Zlq ZIJ;rw[b1,ya];by_cases h:We l/\Qi l
 ·rw[b2.2 h,yX (show¬(!true)=true by decide),yW h,ZuF h.1 h.2,ya,ZDd (by decide) (by simp) (ZIK h.1),ya]
 ·have:b=false:=by
   cases b with
   |true=>exact absurd (b2.1 rfl) h
   |false=>rfl
  rw[this,yW (show(!false)=true by decide),yX h];rfl
abbrev Zht:Type:=Out×ZbS
def WG:yL Int->yL Int->Bool
 |a::l,b::r=>decide (a < b) || (decide (a=b)&&WG l r)
 |_,_=>false
theorem VL{a b:Int}{l r:yL Int}:WG (a::l) (b::r)=true↔a < b\/a=b/\WG l r=true:=by
 simp[WG]
theorem Zrg:∀l,WG l l=false
 |[]=>rfl
 |a::l=>by
  have ih:=Zrg l
  cases h:WG (a::l) (a::l) with
  |false=>rfl
  |true=>
   rcases VL.1 h with h|h
   ·omega
   ·rw[ih] at h;cases h.2
theorem Zip:∀{a b c:yL Int},WG a b=true->WG b c=true->WG a c=true
 |[],_,_,h,_=>by cases h
 |_::_,[],_,h,_=>by cases h
 |_::_,_::_,[],_,h=>by cases h
 |x::a,y::b,z::c,h1,h2=>by
  rw[VL] at h1 h2 ⊢;rcases h1 with h1|⟨h1,h3⟩
  ·rcases h2 with h2|⟨h2,_⟩
   ·exact .inl (by omega)
   ·exact .inl (by omega)
  ·rcases h2 with h2|⟨h2,h4⟩
   ·exact .inl (by omega)
   ·exact .inr ⟨by omega,Zip h3 h4⟩
theorem ZBr:∀{a b:yL Int},a.length=b.length->WG a b=false->WG b a=false->a=b
 |[],[],_,_,_=>rfl
 |[],_::_,h,_,_=>by cases h
 |_::_,[],h,_,_=>by cases h
 |x::a,y::b,h,h1,h2=>by
  have n1:¬(WG (x::a) (y::b)=true):=by rw[h1];decide
  have n2:¬(WG (y::b) (x::a)=true):=by rw[h2];decide
  rw[VL] at n1 n2;have e:x=y:=by omega
  subst e
  rw[ZBr (a:=a) (b:=b) (by simpa using h) (by
   cases k:WG a b with
   |false=>rfl
   |true=>exact absurd (.inr ⟨rfl,k⟩) n1) (by
   cases k:WG b a with
   |false=>rfl
   |true=>exact absurd (.inr ⟨rfl,k⟩) n2)]
theorem ZBs:∀{u v r s:yL Int},u.length=v.length->(WG (u++r) (v++s)=true↔WG u v=true\/u=v/\WG r s=true)
 |[],[],r,s,_=>by simp[WG]
 |[],_::_,_,_,h=>by cases h
 |_::_,[],_,_,h=>by cases h
 |x::u,y::v,r,s,h=>by
  rw[List.cons_append,List.cons_append,VL,VL,ZBs (u:=u) (v:=v) (by simpa using h)];constructor
  ·rintro(h|⟨h,h2|⟨h2,h3⟩⟩)
   ·exact .inl (.inl h)
   ·exact .inl (.inr ⟨h,h2⟩)
   ·exact .inr ⟨by rw[h,h2],h3⟩
  ·rintro((h|⟨h,h2⟩)|⟨h,h3⟩)
   ·exact .inl h
   ·exact .inr ⟨h,.inl h2⟩
   ·cases h;exact .inr ⟨rfl,.inr ⟨rfl,h3⟩⟩
theorem ZFY{a b:yL Int}(h:WG a b=true):WG b a=false:=by
 cases k:WG b a with
 |false=>rfl
 |true=>
  have:=Zip h k;rw[Zrg] at this;cases this
def Qt{α:Type}(key:α->yL Int)(x:α):yL α->yL α
 |[]=>[x]
 |e::r=>if WG (key x) (key e)=true then x::e::r else e::Qt key x r
def Srt{α:Type}(key:α->yL Int)(l:yL α):Prop:=l.Pairwise λa b=>WG (key b) (key a)=false
theorem ZBt{α:Type}{key:α->yL Int}{x y:α}(h:WG (key x) (key y)=true):∀P:yL α,Qt key x (P++[y])=Qt key x P++[y]
 |[]=>by simp[Qt,h]
 |e::r=>by
  have ih:=ZBt h r;by_cases k:WG (key x) (key e)=true
  ·simp[Qt,k]
  ·simp[Qt,k,ih]
theorem ZEH{α:Type}{key:α->yL Int}{x:α}:∀P:yL α,(∀e,e∈P->WG (key x) (key e)=false)->Qt key x P=P++[x]
 |[],_=>rfl
 |e::r,h=>by
  have ih:=ZEH r λa ha=>h a (yat _ ha);have k:=h e (yas);simp[Qt,k,ih]
theorem ZuJ{α:Type}{key:α->yL Int}{x y:α}:∀{l:yL α},y∈Qt key x l↔y=x\/y∈l
 |[]=>by simp[Qt]
 |e::r=>by
  have ih:=ZuJ (key:=key) (x:=x) (y:=y) (l:=r);by_cases k:WG (key x) (key e)=true
  ·simp[Qt,k]
  ·rw[show Qt key x (e::r)=e::Qt key x r by simp[Qt,k],ybc,ybc,ih];constructor
   ·rintro(h|h|h)
    ·exact .inr (.inl h)
    ·exact .inl h
    ·exact .inr (.inr h)
   ·rintro(h|h|h)
    ·exact .inr (.inl h)
    ·exact .inl h
    ·exact .inr (.inr h)
theorem ZBu{α:Type}{key:α->yL Int}{x:α}:∀l:yL α,(Qt key x l).length=l.length+1
 |[]=>rfl
 |e::r=>by
  have ih:=ZBu (key:=key) (x:=x) r;by_cases k:WG (key x) (key e)=true
  ·simp[Qt,k]
  ·simp[Qt,k,ih]
theorem ZBv{α:Type}{key:α->yL Int}{x:α}:∀{l:yL α},Srt key l->Srt key (Qt key x l)
 |[],_=>List.pairwise_singleton _ _
 |e::r,h=>by
  have h':=List.pairwise_cons.1 h;by_cases k:WG (key x) (key e)=true
  ·rw[show Qt key x (e::r)=x::e::r by simp[Qt,k]];refine List.pairwise_cons.2 ⟨λb hb=> ?_,h⟩;rcases ybc.1 hb with rfl|hb
   ·exact ZFY k
   ·cases q:WG (key b) (key x) with
    |false=>rfl
    |true=>
     have:=Zip q k;rw[h'.1 b hb] at this;cases this
  ·rw[show Qt key x (e::r)=e::Qt key x r by simp[Qt,k]];refine List.pairwise_cons.2 ⟨λb hb=> ?_,ZBv h'.2⟩;rcases ZuJ.1 hb with rfl|hb
   ·simpa using k
   ·exact h'.1 b hb
def Zba{α:Type}(key:α->yL Int)(l:yL α):yL α:=l.foldl (λacc x=>Qt key x acc) []
theorem ZFZ{α:Type}{key:α->yL Int}(l:yL α)(x:α):Zba key (l++[x])=Qt key x (Zba key l):=by
 unfold Zba;rw[List.foldl_append];rfl
theorem ZIL{α:Type}{key:α->yL Int}(l:yL α):Srt key (Zba key l):=by
 unfold Zba
 have h:∀(l acc:yL α),Srt key acc->Srt key (l.foldl (λacc x=>Qt key x acc) acc):=by
  intro l
  induction l with
  |nil=>exact λ_ h=>h
  |cons e r ih=>exact λacc h=>ih _ (ZBv h)
 exact h l [] List.Pairwise.nil
theorem ZuK{α:Type}{key:α->yL Int}(l:yL α):(Zba key l).length=l.length:=by
 unfold Zba
 have h:∀(l acc:yL α),(l.foldl (λacc x=>Qt key x acc) acc).length=acc.length+l.length:=by
  intro l
  induction l with
  |nil=>exact λ_=>rfl
  |cons e r ih=>
   intro acc;rw[List.foldl_cons,ih,ZBu,yah];omega
 rw[h l []];simp
theorem ZIM{α:Type}{key:α->yL Int}{y:α}(l:yL α):y∈Zba key l↔y∈l:=by
 unfold Zba
 have h:∀(l acc:yL α),(y∈l.foldl (λacc x=>Qt key x acc) acc↔y∈acc\/y∈l):=by
  intro l
  induction l with
  |nil=>exact λ_=>by simp
  |cons e r ih=>
   intro acc;rw[List.foldl_cons,ih,ZuJ,ybc];constructor
   ·rintro((h|h)|h)
    ·exact .inr (.inl h)
    ·exact .inl h
    ·exact .inr (.inr h)
   ·rintro(h|h|h)
    ·exact .inl (.inr h)
    ·exact .inl (.inl h)
    ·exact .inr h
 rw[h l []];simp
theorem ZIN{α:Type}{key:α->yL Int}{n:Nat}{x y:α}{P:yL α}(hk:∀e,e∈x::(P++[y])->(key e).length=n)(hs:Srt key (P++[y]))(h:WG (key x) (key y)=false):Qt key x (P++[y])=P++[y]++[x]:=by
 refine ZEH _ λe he=> ?_
 cases q:WG (key x) (key e) with
 |false=>rfl
 |true=>
  rcases ybm.1 he with h1|h1
  ·have h2:WG (key y) (key e)=false:=(List.pairwise_append.1 hs).2.2 e h1 y (by simp)
   cases q2:WG (key y) (key x) with
   |true=>
    rw[Zip q2 q] at h2
    cases h2
   |false=>
    have:=ZBr (by rw[hk x (by simp),hk y (by simp)]) h q2;rw[<-this,q] at h2;cases h2
  ·rw[yau.1 h1,h] at q;cases q
def bm(x:yL yB):yL Int:=x.map λb=>(b.toNat:Int)
theorem ZIO(x:yL yB):(bm x).length=x.length:=yy _
def Q8(x:Zf):yL Int:=x.1.1::(bm x.2.2++[x.2.1.1,x.2.1.2.1,x.2.1.2.2.1])
theorem ZIP{x:Zf}(h:x.2.2.length=32):(Q8 x).length=36:=by
 simp[Q8,bm,h]
theorem ZMX{a a' d d' f f' i i':Int}{u v:yL Int}(h:u.length=v.length):WG (a::(u++[d,f,i])) (a'::(v++[d',f',i']))=true↔a < a'\/a=a'/\(WG u v=true\/u=v/\(d < d'\/d=d'/\(f < f'\/f=f'/\i < i'))):=by
 rw[VL,ZBs h,VL,VL,VL];have:¬(WG [] []=true):=by decide
 simp[this]
theorem ZwW:∀{x y:yL yB},x.length=y.length->(Go.Lib.compareBytes x y < 0↔WG (bm x) (bm y)=true)/\(Go.Lib.compareBytes x y=0↔bm x=bm y)
 |[],[],_=>by simp[Go.Lib.compareBytes,bm,WG]
 |[],_::_,h=>by cases h
 |_::_,[],h=>by cases h
 |a::x,b::y,h=>by
  have ih:=ZwW (x:=x) (y:=y) (by simpa using h);have e1:bm (a::x)=(a.toNat:Int)::bm x:=rfl;have e2:bm (b::y)=(b.toNat:Int)::bm y:=rfl;rw[e1,e2,VL,List.cons.injEq];unfold Go.Lib.compareBytes;by_cases h1:a < b
  ·have h1':=UInt8.lt_iff_toNat_lt.1 h1;rw[yW h1];exact⟨⟨λ_=>.inl (by omega),λ_=>by decide⟩,⟨λh=>absurd h (by decide),λh=>by omega⟩⟩
  ·have h1':¬a.toNat < b.toNat:=λq=>h1 (UInt8.lt_iff_toNat_lt.2 q);rw[yX h1];by_cases h2:b < a
   ·have h2':=UInt8.lt_iff_toNat_lt.1 h2;rw[yW h2];exact⟨⟨λh=>absurd h (by decide),λh=>by omega⟩,⟨λh=>absurd h (by decide),λh=>by omega⟩⟩
   ·have h2':¬b.toNat < a.toNat:=λq=>h2 (UInt8.lt_iff_toNat_lt.2 q);rw[yX h2];have e:a.toNat=b.toNat:=by omega
    refine⟨⟨λh=>.inr ⟨by omega,ih.1.1 h⟩,λh=> ?_⟩,⟨λh=>⟨by omega,ih.2.1 h⟩,λh=>ih.2.2 h.2⟩⟩;rcases h with h|h
    ·omega
    ·exact ih.1.2 h.2
theorem Zpa{c:Int}{r:yL Int}:orL (c::r) < 0↔c < 0\/c=0/\orL r < 0:=by
 rw[show orL (c::r)=if c≠0 then c else orL r from rfl]
 by_cases h:c=0
 ·rw[yX (by simp[h])];constructor
  ·exact λq=>.inr ⟨h,q⟩
  ·rintro(q|q)
   ·omega
   ·exact q.2
 ·rw[yW h];constructor
  ·exact λq=>.inl q
  ·rintro(q|q)
   ·exact q
   ·exact absurd q.1 h
theorem Zpb{a b:Int}:(if a < b then(-1:Int) else if a > b then 1 else 0) < 0↔a < b:=by
 by_cases h:a < b
 ·rw[yW h];exact⟨λ_=>h,λ_=>by decide⟩
 ·rw[yX h];by_cases h2:a > b
  ·rw[yW h2];exact⟨λq=>absurd q (by decide),λq=>absurd q h⟩
  ·rw[yX h2];exact⟨λq=>absurd q (by decide),λq=>absurd q h⟩
theorem Zlu{a b:Int}:(if a < b then(-1:Int) else if a > b then 1 else 0)=0↔a=b:=by
 by_cases h:a < b
 ·rw[yW h];exact⟨λq=>absurd q (by decide),λq=>by omega⟩
 ·rw[yX h];by_cases h2:a > b
  ·rw[yW h2];exact⟨λq=>absurd q (by decide),λq=>by omega⟩
  ·rw[yX h2];exact⟨λ_=>by omega,λ_=>rfl⟩
theorem ZKE{a b:Zf}(ha:a.2.2.length=32)(hb:b.2.2.length=32):∃z,ZaP yD a b=some z/\(z < 0↔WG (Q8 a) (Q8 b)=true):=by
 unfold ZaP ZeE;rw[ZbW,ya,ya,ZbW,ya,ZbW,ya,ZbW,ya,ZLe (by simp),ya];refine⟨_,rfl, ?_⟩;obtain⟨c1,c2⟩:=ZwW (x:=a.2.2) (y:=b.2.2) (by omega);unfold Q8;rw[ZMX (by rw[ZIO,ZIO];omega),Zpa,Zpa,Zpa,Zpa,Zpa,Zpb,Zpb,Zpb,Zpb,Zlu,Zlu,Zlu,Zlu,c1,c2];have:¬(orL [] < 0):=by decide
 simp only[this,and_false,or_false]
theorem ZIQ(n:Int)(i:Nat):∀(P:yL Zf)(f:Nat)(u:yL Unit)(x:Zf)(Q:yL Zf),P.length < f->P.length+Q.length+1<=100->(∀e,e∈P++x::Q->e.2.2.length=32)->Srt Q8 P->
 Zb (Xf yD) f ((0:Int),n,(i:Int),(P.length:Int),u,P++x::Q)=some ((0:Int),n,(i:Int),u,Qt Q8 x P++Q):=by
 intro P
 induction h:P.length generalizing P with
 |zero=>
  intro f u x Q hf hl hk hs;have:P=[]:=ybf h;subst this;obtain⟨f,rfl⟩:=Nat.exists_eq_succ_of_ne_zero (n:=f) (by omega);unfold Zb Xf;dsimp only;rw[yX (ynd (by omega)),ya]
  rfl
 |succ j ih=>
  intro f u x Q hf hl hk hs;obtain⟨f,rfl⟩:=Nat.exists_eq_succ_of_ne_zero (n:=f) (by omega)
  obtain⟨P',y,rfl⟩:∃P' y,P=P'++[y]:=by
   have hne:P≠[]:=λe=>by rw[e] at h;cases h
   exact⟨P.dropLast,P.getLast hne,(List.dropLast_concat_getLast hne).symm⟩
  have hj:P'.length=j:=by simpa using h
  have el:P'++[y]++x::Q=P'++y::x::Q:=by simp
  have hx:(P'++y::x::Q)[j+1]? =some x:=by
   rw[yaq (by omega),show j+1 - P'.length=1 by omega];rfl
  have hy:(P'++y::x::Q)[j]? =some y:=by
   rw[yaq (by omega),show j - P'.length=0 by omega];rfl
  have zW:(P'++y::x::Q).length=j+2+Q.length:=by simp;omega
  have hset:(P'++y::x::Q).set (j+1) y=P'++y::y::Q:=by
   rw[List.set_append_right _ _ (by omega),show j+1 - P'.length=1 by omega];rfl
  have hset2:(P'++y::y::Q).set j x=P'++x::y::Q:=by
   rw[List.set_append_right _ _ (by omega),show j - P'.length=0 by omega];rfl
  have hw:(P'++y::y::Q)[j]? =some y:=by
   rw[yaq (by omega),show j - P'.length=0 by omega];rfl
  have hlen2:(P'++y::y::Q).length=j+2+Q.length:=by simp;omega
  have e1:wi (((j+1:Nat):Int) - 1)=(j:Int):=by rw[ZO (by omega) (by omega)];omega
  obtain⟨z,z1,z2⟩:=ZKE (hk x (by simp)) (hk y (by simp));rw[el]
  have hstep:Xf yD ((0:Int),n,(i:Int),((j+1:Nat):Int),u,P'++y::x::Q)=if z < 0 then some (.inl ((0:Int),n,(i:Int),(j:Int),u,P'++x::y::Q)) else some (.inr ((0:Int),n,(i:Int),u,P'++y::x::Q)):=by
   unfold Xf;dsimp only;rw[yW (yY (by omega)),e1,yW (Yc (by omega) (by omega)),ybe,ybe,hx,ya,yW (Yc (by omega) (by omega)),hy,ya,z1,ya];by_cases h0:z < 0
   ·rw[yW (yY h0),yW (Yc (by omega) (by omega)),ya,yW (Yc (by omega) (by omega)),ya,yW (Yc (by omega) (by omega)),ya,hset,yW (Yc (by omega) (by omega)),hw,ya,yW h0,hset2]
   ·rw[yX (by rw[yN];exact h0),yX h0]
  unfold Zb;rw[hstep];have hs':=List.pairwise_append.1 hs;by_cases h0:z < 0
  ·rw[yW h0,ya];dsimp only
   rw[ih P' hj f u x (y::Q) (by omega) (by simp;omega) (λe he=>hk e (by
    simp only[ybm,ybc,ycs,or_false] at he ⊢;rcases he with he|he|he|he
    ·exact .inl (.inl he)
    ·exact .inr (.inl he)
    ·exact .inl (.inr he)
    ·exact .inr (.inr he))) hs'.1,ZBt (z2.1 h0)]
   simp
  ·rw[yX h0,ya];dsimp only
   have q:WG (Q8 x) (Q8 y)=false:=by
    cases q:WG (Q8 x) (Q8 y) with
    |false=>rfl
    |true=>exact absurd (z2.2 q) h0
   rw[ZIN (n:=36) (λe he=>ZIP (hk e (by
    simp only[ybm,ybc,ycs,or_false] at he ⊢;rcases he with he|he|he
    ·exact .inr (.inl he)
    ·exact .inl (.inl he)
    ·exact .inl (.inr he)))) hs q]
   simp
theorem ZF0{α:Type}{l:yL α}{k:Nat}{e:α}(h:l[k]? =some e):l.drop k=e::l.drop (k+1):=by
 obtain⟨h1,h2⟩:=yq.1 h;rw[List.drop_eq_getElem_cons h1,h2]
theorem ZF1(u:yL Unit){l:yL Zf}(hl:l.length<=20)(hk:∀e,e∈l->e.2.2.length=32):Xq yD (0:Int) (l.length:Int) u l=some (u,Zba Q8 l):=by
 unfold Xq;rw[show wi ((0:Int)+1)=1 from rfl]
 by_cases h0:l=[]
 ·subst h0
  have e:Zb (ZR yD) yD ((0:Int),(([]:yL Zf).length:Int),(1:Int),u,([]:yL Zf))=some (u,[]):=by
   refine Zt 0 (λk:Nat=>((0:Int),(([]:yL Zf).length:Int),(1:Int),u,([]:yL Zf))) (λk hk=>by omega) ?_ (by omega);unfold ZR;dsimp only;rw[yX (by rw[yN];simp)]
  rw[e,ya];rfl
 have hpos:0 < l.length:=List.length_pos_iff.2 h0
 have e:=Zt (step:=ZR yD) (l.length - 1) (λk:Nat=>((0:Int),(l.length:Int),((k+1:Nat):Int),u,Zba Q8 (l.take (k+1))++l.drop (k+1))) (x:=(u,Zba Q8 l)) (by
  intro k hk2;obtain⟨x,hx,hm⟩:=Ze (l:=l) (k:=k+1) (by omega);have hL:(Zba Q8 (l.take (k+1))).length=k+1:=by rw[ZuK,yaf];omega
  have hs:=ZIQ (l.length:Int) (k+1) (Zba Q8 (l.take (k+1))) yD u x (l.drop (k+1+1)) (by rw[ZdA];omega) (by rw[hL,List.length_drop];omega) (by
   intro e he;rcases ybm.1 he with h|h
   ·exact hk e (ybz ((ZIM _).1 h))
   ·rcases ybc.1 h with rfl|h
    ·exact hk _ hm
    ·exact hk e (ycz h)) (ZIL _)
  rw[hL] at hs;unfold ZR;dsimp only;rw[yW (yY (by omega)),ZF0 hx,hs,ya];dsimp only;rw[Zp (by omega),WM hx,ZFZ]) (by
  unfold ZR;dsimp only;rw[yX (ynd (by omega)),show l.length - 1+1=l.length by omega,yaj,List.drop_length,yar]) (by omega)
 have e2:Zba Q8 (l.take 1)++l.drop 1=l:=by
  match l,h0 with
  |a::r,_=>rfl
 have e:Zb (ZR yD) yD ((0:Int),(l.length:Int),(1:Int),u,Zba Q8 (l.take 1)++l.drop 1)=_:=e;rw[e2] at e;rw[e,ya]
theorem ZDj(u:yL Unit)(l:yL Zf){a b:Int}(h:b<=a)(h0:0<=a)(h1:a<=100):Xq yD a b u l=some (u,l):=by
 unfold Xq;rw[ZO (z:=a+1) (by omega) (by omega)]
 have e:Zb (ZR yD) yD (a,b,a+1,u,l)=some (u,l):=by
  refine Zt 0 (λk:Nat=>(a,b,a+1,u,l)) (λk hk=>by omega) ?_ (by omega);unfold ZR;dsimp only;rw[yX (ynd (by omega))]
 rw[e,ya]
theorem ZIR(u:yL Unit){l:yL Zf}(hl:l.length<=20)(hk:∀e,e∈l->e.2.2.length=32):Wt yD u l=some (u,Zba Q8 l):=by
 have r1:=ZF1 u hl hk;have hrl:=ZuK (key:=Q8) l
 have fin:Zb (Vq yD) yD ((l.length:Int),(20:Int),u,Zba Q8 l)=some (u,Zba Q8 l):=by
  refine Zt 0 (λk:Nat=>((l.length:Int),(20:Int),u,Zba Q8 l)) (λk hk=>by omega) ?_ (by omega);unfold Vq;dsimp only;rw[yX (ynd (by omega))]
 unfold Wt Zc4;by_cases h20:l.length=20
 ·have e:Zb (YS yD) yD ((l.length:Int),(20:Int),(0:Int),(20:Int),u,l)=some ((l.length:Int),(20:Int),(20:Int),u,Zba Q8 l):=by
   refine Zt 1 (λk:Nat=>if k=0 then((l.length:Int),(20:Int),(0:Int),(20:Int),u,l) else((l.length:Int),(20:Int),(20:Int),(40:Int),u,Zba Q8 l)) ?_ ?_ (by omega)
   ·intro k hk;have:k=0:=by omega
    subst this;rw[yW rfl,yX (by omega)];unfold YS;dsimp only;rw[h20] at r1;rw[yW (yY (by omega))];rw[show((20:Nat):Int)=20 from rfl] at r1
    rw[r1,ya];dsimp only;rw[yW (by simp[hrl])];rfl
   ·rw[yX (by omega)];unfold YS;dsimp only;rw[yX (ynd (by omega))]
  rw[e,ya];dsimp only;rw[ZDj u _ (by omega) (by omega) (by omega),ya];dsimp only;rw[fin,ya,ya]
 ·have e:Zb (YS yD) yD ((l.length:Int),(20:Int),(0:Int),(20:Int),u,l)=some ((l.length:Int),(20:Int),(0:Int),u,l):=by
   refine Zt 0 (λk:Nat=>((l.length:Int),(20:Int),(0:Int),(20:Int),u,l)) (λk hk=>by omega) ?_ (by omega);unfold YS;dsimp only;rw[yX (ynd (by omega))]
  rw[e,ya];dsimp only;rw[r1,ya];dsimp only;rw[fin,ya,ya]
def Zbc(t:Terms)(l:yL Cond):yL Cond:=l.filter λc=>decide (c.2.2.1 >= t.1)
theorem ZuL(t:Terms)(l:yL Cond):(Zbc t l).length<=l.length:=List.length_filter_le _ _
theorem ZIS{t:Terms}{l:yL Cond}{c:Cond}(h:c∈Zbc t l):c∈l:=(List.mem_filter.1 h).1
theorem ZKF{t:Terms}{l:yL Cond}{k:Nat}{c:Cond}(h:l[k]? =some c):Zbc t (l.take (k+1))=Zbc t (l.take k)++(if c.2.2.1 >= t.1 then[c] else[]):=by
 rw[WM h];unfold Zbc;rw[List.filter_append];congr 1;by_cases q:c.2.2.1 >= t.1
 ·rw[yW q];simp[q]
 ·rw[yX q];simp;omega
theorem ZBw{ch:Chan}{own:Int}(ho:own=0\/own=1){t:Terms}(ht:ch.2.2.2.1[own.toNat]? =some t){s:yG}(hl:s.2.2.1.length<=20):XQ yD ch s own=some (Zbc t s.2.2.1):=by
 have hb:inB own 2=true:=Yc (by omega) (by omega);have hk2:∀k,(Zbc t (s.2.2.1.take k)).length<=20:=λk=>by have:=ZuL t (s.2.2.1.take k);rw[yaf] at this;omega
 ·unfold XQ
  have e:=Zt (step:=XT yD) s.2.2.1.length (λk:Nat=>(own,s.2.2.1,(s.2.2.1.length:Int),(k:Int),ch,s,Zbc t (s.2.2.1.take k))) (x:=(ch,s,Zbc t s.2.2.1)) (by
   intro k hk;obtain⟨c,hc,_⟩:=Ze hk;have:=hk2 k;unfold XT Vo;dsimp only;rw[yW (ZF hk),Zl hc,ya,yW hb,ht,ya,ya,Zp (by omega),ZKF hc];by_cases q:c.2.2.1 >= t.1
   ·rw[yW (yY q),yW (ZU (by omega) (by omega)),yW q]
   ·rw[yX (by rw[yN];exact q),yX q,yar]) (by
   unfold XT;dsimp only;rw[yX (by rw[ZA];decide),yaj]) (by omega)
  have e:Zb (XT yD) yD (own,s.2.2.1,(s.2.2.1.length:Int),(0:Int),ch,s,([]:yL Cond))=_:=e;rw[e,ya]
def Znx(op:Int)(s:yG)(of h:Int)(n:Nat):Int:=if of=op then h - (feeF s.2.2.2 (n:Int)+660) else h
theorem Zy8{r n:Int}:0<=feeF r n/\feeF r n<=196000:=by
 unfold feeF;by_cases h1:0<=r/\r<=1000
 ·rw[yW h1];by_cases h2:0<=n/\n<=16
  ·rw[yW h2];have:=Int.mul_nonneg h1.1 (show 0<=68+8*n by omega);have:=Int.mul_le_mul h1.2 (show 68+8*n<=196 by omega) (by omega) (by omega);omega
  ·rw[yX h2];omega
 ·rw[yX h1];omega
theorem ZEI{ch:Chan}{own of:Int}(ho:own=0\/own=1)(hf:of=0\/of=1){t:Terms}(ht:ch.2.2.2.1[own.toNat]? =some t){s:yG}(hl:s.2.2.1.length<=20){h:Int}(hh:s.2.1[of.toNat]? =some h)(h0:0<=h)(h1:h<=1125899906842624):
 Qr yD ch s own of=some (Znx ch.2.2.2.2 s of h (Zbc t s.2.2.1).length):=by
 have hb:inB of 2=true:=Yc (by omega) (by omega);have hq:=Zy8 (r:=s.2.2.2) (n:=((Zbc t s.2.2.1).length:Int));unfold Qr Znx;rw[yW hb,hh,ya];by_cases e:of=ch.2.2.2.2
 ·rw[yW (beq_iff_eq.2 e),ZBw ho ht hl,ya,ZIG,ya,yW e,ZO (z:=feeF s.2.2.2 ((Zbc t s.2.2.1).length:Int)+660) (by omega) (by omega),ZO (by omega) (by omega)]
 ·rw[yX (by rw[yT];exact e),yX e]
noncomputable def mkC(n:Int)(lk:Z4)(ro:ZbS):Zf:=((n,lk),ro,ZIJ lk)
def stp(x:Zf):Zht:=(x.1,x.2.1)
theorem Qu{n:Int}{lk:Z4}(h:LockWf lk)(ro:ZbS)(u:yL Unit){acc:yL Zf}(hl:acc.length<=100):ZN yD n lk ro u acc=some (()::u,acc++[mkC n lk ro]):=by
 unfold ZN;rw[ZKD h,ya,yW (ZU (by omega) (by omega))];rfl
def zcd:Cond:=(0,0,0,0,0)
def Zqo(rev late:yU)(d:Int):Z4:=[([rev],0,0,0),([late],0,d,0)]
def ZrP(p:yU):Z4:=[([p],0,0,0)]
def Zpc(p:yU):Z4:=[([p],0,0,0),([],0,16,0)]
def Zny(own w:Int)(rev ow pe:yU)(c:Cond):Z4:=if c.1=own then[([rev],0,0,0),([pe],0,0,c.2.2.2.1),([ow],c.2.2.2.2,w,0)] else[([rev],0,0,0),([ow],0,w,c.2.2.2.1),([pe],c.2.2.2.2,0,0)]
theorem ZKG(a b:yU)(d:Int):LockWf (Zqo a b d):=⟨by simp[Zqo],λb hb=>by simp[Zqo] at hb;rcases hb with rfl|rfl <;> simp⟩
theorem ZEJ(a:yU):LockWf (ZrP a):=⟨by simp[ZrP],λb hb=>by simp[ZrP] at hb;rw[hb];simp⟩
theorem Zf0(a:yU):LockWf (Zpc a):=⟨by simp[Zpc],λb hb=>by simp[Zpc] at hb;rcases hb with rfl|rfl <;> simp⟩
theorem ZKH(own w:Int)(rev ow pe:yU)(c:Cond):LockWf (Zny own w rev ow pe c):=by
 unfold Zny;split
 ·exact⟨by simp,λb hb=>by simp at hb;rcases hb with rfl|rfl|rfl <;> simp⟩
 ·exact⟨by simp,λb hb=>by simp at hb;rcases hb with rfl|rfl|rfl <;> simp⟩
noncomputable def ZuM(own w:Int)(rev ow pe:yU)(c:Cond):Zf:=mkC c.2.2.1 (Zny own w rev ow pe c) ((if c.1=own then 5 else 6),c)
def ZBx(ch:Chan)(s:yG)(own:Int)(l:yL Zht):Commit:=(([(ch.1,(0,[],0))],l.map (·.1),wi (wi (2*s.1)+own)),l.map (·.2))
theorem ZIT{own w:Int}{rev ow pe:yU}{l:yL Cond}(hl:l.length<=16)(ch:Chan)(s:yG){acc:yL Zf}(hb:acc.length<=4)(ha:∀e,e∈acc->e.2.2.length=32)(u:yL Unit):
 ((Zb (YQ yD) yD (own,w,rev,ow,pe,l,(l.length:Int),(0:Int),ch,s,((([]:yL In),([]:yL Out),(0:Int)),([]:yL ZbS)),u,acc)).bind λo723=>
      (Wt yD o723.2.2.2.2.1 o723.2.2.2.2.2).bind λo724=>
      if(decide (o723.2.2.2.2.1.length=o724.1.length)&&(decide (40=40)&&decide ((yv o723.2.2.2.2.2.length ()).length=o724.2.length)))=true then
       (Zb (Xh yD) yD ((o724.2.length:Int),(0:Int),o723.2.1,o723.2.2.1,o723.2.2.2.1,o724.1,o724.2,([(o723.2.1.1,(0,[],0))]:yL In),wi ((wi (2*o723.2.2.1.1))+o723.1),([]:yL ZbS),([]:yL Out))).bind λo725=>
       some (((o725.2.2.2.2.2.1,o725.2.2.2.2.2.2.2.2,o725.2.2.2.2.2.2.1),o725.2.2.2.2.2.2.2.1),(0:Int))
      else
      none)=some (ZBx ch s own ((Zba Q8 (acc++l.map (ZuM own w rev ow pe))).map stp),0):=by
 obtain⟨x,g1,u1,rfl⟩:=X6 (step:=YQ yD) l.length (λk q=>∃u1,q=(own,w,rev,ow,pe,l,(l.length:Int),(k:Int),ch,s,((([]:yL In),([]:yL Out),(0:Int)),([]:yL ZbS)),u1,acc++(l.take k).map (ZuM own w rev ow pe)))
  (λx=>∃u1,x=(own,ch,s,((([]:yL In),([]:yL Out),(0:Int)),([]:yL ZbS)),u1,acc++l.map (ZuM own w rev ow pe))) (i:=(own,w,rev,ow,pe,l,(l.length:Int),(0:Int),ch,s,((([]:yL In),([]:yL Out),(0:Int)),([]:yL ZbS)),u,acc)) ⟨u,by simp⟩ (by omega) (by
  rintro k _ hk ⟨u1,rfl⟩;left;obtain⟨e,he,hm⟩:=Ze hk
  have hal:(acc++(l.take k).map (ZuM own w rev ow pe)).length<=100:=by
   rw[yo,yy,yaf];omega
  have hlk:=ZKH own w rev ow pe e;unfold YQ;dsimp only;rw[yW (ZF hk),Zl he,ya,Zp (by omega),WM he,yam];by_cases hf:e.1=own
  ·have e1:Zny own w rev ow pe e=[([rev],0,0,0),([pe],0,0,e.2.2.2.1),([ow],e.2.2.2.2,w,0)]:=by unfold Zny;rw[yW hf]
   have e2:ZuM own w rev ow pe e=mkC e.2.2.1 (Zny own w rev ow pe e) (5,e):=by unfold ZuM;rw[yW hf]
   rw[e1] at hlk e2;rw[yW (by rw[hf];exact beq_self_eq_true _),Qu hlk ((5:Int),e) u1 hal,ya,yad,ycf,e2,yab];exact⟨_,rfl,_,rfl⟩
  ·have e1:Zny own w rev ow pe e=[([rev],0,0,0),([ow],0,w,e.2.2.2.1),([pe],e.2.2.2.2,0,0)]:=by unfold Zny;rw[yX hf]
   have e2:ZuM own w rev ow pe e=mkC e.2.2.1 (Zny own w rev ow pe e) (6,e):=by unfold ZuM;rw[yX hf]
   rw[e1] at hlk e2;rw[yX (by rw[yT];exact hf),Qu hlk ((6:Int),e) u1 hal,ya,yad,ycf,e2,yab];exact⟨_,rfl,_,rfl⟩) (by
  rintro _ ⟨u1,rfl⟩;unfold YQ;dsimp only;rw[yX (by rw[ZA];decide),yaj];exact⟨_,rfl,_,rfl⟩)
 rw[g1,ya];unfold ZBx;dsimp only;generalize ha1:acc++l.map (ZuM own w rev ow pe)=a1
 have hal:a1.length<=20:=by
  rw[<-ha1,yo,yy];omega
 have hkk:∀e,e∈a1->e.2.2.length=32:=by
  intro e he;rw[<-ha1] at he;rcases ybm.1 he with h|h
  ·exact ha e h
  ·obtain⟨c,_,rfl⟩:=ybu.1 h;exact ZBq _
 have hrl:=ZuK (key:=Q8) a1;rw[ZIR u1 hal hkk,ya];dsimp only;rw[yW (by simp[hrl])];generalize Zba Q8 a1=r at hrl;generalize wi (wi (2*s.1)+own)=nt;generalize hz:((([]:yL In),([]:yL Out),(0:Int)),([]:yL ZbS))=z
 rw[show((r.length:Int),(0:Int),ch,s,z,u1,r,([(ch.1,(0,[],0))]:yL In),nt,([]:yL ZbS),([]:yL Out))=(λk:Nat=>((r.length:Int),(k:Int),ch,s,z,u1,r,([(ch.1,(0,[],0))]:yL In),nt,(r.take k).map (λx:Zf=>x.2.1),(r.take k).map (λx:Zf=>x.1))) 0 from rfl,
  Zt (x:=(ch,s,z,u1,r,([(ch.1,(0,[],0))]:yL In),nt,r.map (λx:Zf=>x.2.1),r.map (λx:Zf=>x.1))) r.length (λk:Nat=>((r.length:Int),(k:Int),ch,s,z,u1,r,([(ch.1,(0,[],0))]:yL In),nt,(r.take k).map (λx:Zf=>x.2.1),(r.take k).map (λx:Zf=>x.1))) ?_ ?_ (by omega),ya]
 ·rw[yav,yav];rfl
 ·intro k hk;obtain⟨e,he,hm⟩:=Ze hk;unfold Xh;dsimp only;rw[yW (ZF hk),yW (Yc (by omega) (by omega)),ybe,he,ya,Zp (by omega),WM he,yW (ZU (by simp;omega) (by simp;omega)),yW (ZU (by simp;omega) (by simp;omega)),yam,yam];rfl
 ·unfold Xh;dsimp only;rw[yX (by rw[ZA];decide),yaj]
theorem ZKI(p:yU):ZgS yD p=some (ZrP p):=by
 unfold ZgS ZpG Vk;rw[yW (ZU (by simp) (by simp)),ya,ya];rfl
noncomputable def itm(own:Int)(per:yU)(bo bp:Basics)(to tp:Terms)(a b:Int)(l:yL Cond):yL Zf:=
 ((if a >= to.1 then[mkC a (Zqo (revF bp.2.2.2.2 per) (mixF bo.2.2.1 per) tp.2.2.1) (1,zcd)] else[])++(if b >= to.1 then[mkC b (ZrP bp.2.1) (2,zcd)] else[])++[mkC 330 (Zpc bo.1) (3,zcd),mkC 330 (Zpc bp.1) (4,zcd)])++l.map (ZuM own tp.2.2.1 (revF bp.2.2.2.2 per) (mixF bo.2.2.2.1 per) (mixF bp.2.2.2.1 per))
structure Sd(ch:Chan)(s:yG)(own:Int)(bo bp:Basics)(to tp:Terms)(hO hP:Int):Prop where
 o:own=0\/own=1
 bO:ch.2.2.1[own.toNat]? =some bo
 bP:ch.2.2.1[(1 - own).toNat]? =some bp
 tO:ch.2.2.2.1[own.toNat]? =some to
 tP:ch.2.2.2.1[(1 - own).toNat]? =some tp
 vO:s.2.1[own.toNat]? =some hO
 vP:s.2.1[(1 - own).toNat]? =some hP
 o0:0<=hO
 o1:hO<=1125899906842624
 p0:0<=hP
 p1:hP<=1125899906842624
theorem Sd.all{ch:Chan}{s:yG}(w:ChWf ch)(r:StR ch s){own:Int}(ho:own=0\/own=1):∃bo bp to tp hO hP,Sd ch s own bo bp to tp hO hP:=by
 obtain⟨b0,b1,hb⟩:=Zo9 w.b;obtain⟨t0,t1,ht⟩:=Zo9 w.t;obtain⟨a,b,hs,h1,h2,_⟩:=r.have_;rcases ho with rfl|rfl
 ·exact⟨b0,b1,t0,t1,a,b,.inl rfl,by rw[hb];rfl,by rw[hb];rfl,by rw[ht];rfl,by rw[ht];rfl,by rw[hs];rfl,by rw[hs];rfl,h1.1,h1.2,h2.1,h2.2⟩
 ·exact⟨b1,b0,t1,t0,b,a,.inr rfl,by rw[hb];rfl,by rw[hb];rfl,by rw[ht];rfl,by rw[ht];rfl,by rw[hs];rfl,by rw[hs];rfl,h2.1,h2.2,h1.1,h1.2⟩
noncomputable def ZuN(ch:Chan)(s:yG)(own:Int)(per:yU)(bo bp:Basics)(to tp:Terms)(hO hP:Int):yL Zf:=
 itm own per bo bp to tp (Znx ch.2.2.2.2 s own hO (Zbc to s.2.2.1).length) (Znx ch.2.2.2.2 s (1 - own) hP (Zbc to s.2.2.1).length) (Zbc to s.2.2.1)
theorem ZIU{ch:Chan}{s:yG}{own:Int}{per:yU}(hr:ZaM yD ch s=some true)(r:StR ch s)(hp:IsPt per.toNat){bo bp:Basics}{to tp:Terms}{hO hP:Int}(d:Sd ch s own bo bp to tp hO hP):
 Wu yD ch s own per=some (ZBx ch s own ((Zba Q8 (ZuN ch s own per bo bp to tp hO hP)).map stp),0):=by
 have hown:=d.o
 have hside:Qm yD own=some true:=by
  unfold Qm;rcases hown with rfl|rfl <;> rfl
 have hpeer:wi (1 - own)=1 - own:=ZO (by omega) (by omega);have q1:inB (1 - own) 2=true:=Yc (by omega) (by omega);have q2:inB own 2=true:=Yc (by omega) (by omega);have hl20:s.2.2.1.length<=20:=by have:=r.len;omega
 have hrO:=ZEI hown hown d.tO hl20 d.vO d.o0 d.o1;have hrP:=ZEI hown (of:=1 - own) (by omega) d.tO hl20 d.vP d.p0 d.p1;have hsh:=ZBw hown d.tO hl20;unfold ZuN;generalize Znx ch.2.2.2.2 s own hO (Zbc to s.2.2.1).length=a at*;generalize Znx ch.2.2.2.2 s (1 - own) hP (Zbc to s.2.2.1).length=b at*;have hl16:(Zbc to s.2.2.1).length<=16:=ybw (ZuL _ _) r.len;have tl:=λ{acc:yL Zf}(hb:acc.length<=4)(ha:∀e,e∈acc->e.2.2.length=32)(u:yL Unit)=>ZIT (own:=own) (w:=tp.2.2.1) (rev:=revF bp.2.2.2.2 per) (ow:=mixF bo.2.2.2.1 per) (pe:=mixF bp.2.2.2.1 per) hl16 ch s hb ha u;have s1:∀z:Int,Vo yD to z=some (decide (z >= to.1)):=λz=>rfl;have lateIs:∀x y:yU,Znd yD x y tp.2.2.1=some (Zqo y x tp.2.2.1):=λ_ _=>rfl;have ancIs:∀x:yU,Xt yD x=some (Zpc x):=λ_=>rfl;have lens:∀(n:Int)(lk:Z4)(ro:ZbS),(mkC n lk ro).2.2.length=32:=λn lk ro=>ZBq lk;unfold Wu itm;rw[hside,ya,yX (show¬(!true)=true by decide),ZcT,ya,yY hp,yX (show¬(!true)=true by decide),hr,ya,yX (show¬(!true)=true by decide)];rw[show((0:Int),(0:Int),(0:Int),(0:yU),(0:Int))=zcd from rfl]
 simp only[hpeer,q1,q2,if_true,d.bO,d.bP,d.tO,d.tP,ya,ZFW,ZMW,hrO,hrP,s1,lateIs,ancIs,ZKI,hsh];have lt:=λx y=>ZKG x y tp.2.2.1;by_cases ha:a >= to.1
 ·rw[yW (yY ha),yW ha];simp only[Qu (lt _ _) ((1:Int),zcd) [] (acc:=[]) (by simp),ya];by_cases hb:b >= to.1
  ·rw[yW (yY hb),yW hb];rw[Qu (ZEJ _) _ _ (by simp),ya];dsimp only;rw[Qu (Zf0 _) _ _ (by simp),ya];dsimp only;rw[Qu (Zf0 _) _ _ (by simp),ya];dsimp only;refine Eq.trans (tl ?_ ?_ _) ?_
   ·simp
   ·intro e he;simp only[ybm,ybc,ycs,or_false,false_or] at he;rcases he with((rfl|rfl)|rfl)|rfl <;> exact lens _ _ _
   ·simp
  ·rw[yX (by rw[yN];exact hb),yX hb];rw[Qu (Zf0 _) _ _ (by simp),ya];dsimp only;rw[Qu (Zf0 _) _ _ (by simp),ya];dsimp only;refine Eq.trans (tl ?_ ?_ _) ?_
   ·simp
   ·intro e he;simp only[ybm,ybc,ycs,or_false,false_or] at he;rcases he with(rfl|rfl)|rfl <;> exact lens _ _ _
   ·simp
 ·rw[yX (by rw[yN];exact ha),yX ha];by_cases hb:b >= to.1
  ·rw[yW (yY hb),yW hb];rw[Qu (ZEJ _) _ _ (by simp),ya];dsimp only;rw[Qu (Zf0 _) _ _ (by simp),ya];dsimp only;rw[Qu (Zf0 _) _ _ (by simp),ya];dsimp only;refine Eq.trans (tl ?_ ?_ _) ?_
   ·simp
   ·intro e he;simp only[ybm,ybc,ycs,or_false,false_or] at he;rcases he with(rfl|rfl)|rfl <;> exact lens _ _ _
   ·simp
  ·rw[yX (by rw[yN];exact hb),yX hb];rw[Qu (Zf0 _) _ _ (by simp),ya];dsimp only;rw[Qu (Zf0 _) _ _ (by simp),ya];dsimp only;refine Eq.trans (tl ?_ ?_ _) ?_
   ·simp
   ·intro e he;simp only[ybm,ybc,ycs,or_false,false_or] at he;rcases he with rfl|rfl <;> exact lens _ _ _
   ·simp
theorem Zy9{own:Int}:Qm yD own=some (decide (own=0\/own=1)):=by
 unfold Qm;by_cases h:own=0
 ·rw[yW (beq_iff_eq.2 h),yY (p:=own=0\/own=1) (.inl h)]
 ·rw[yX (by rw[yT];exact h)];by_cases h1:own=1
  ·rw[yY (p:=own=0\/own=1) (.inr h1),h1];rfl
  ·rw[yZ (p:=own=0\/own=1) (by omega)];exact congrArg some (by simpa using h1)
def KO(own w:Int)(rev late ow pe:yU)(lk:Z4)(ro:ZbS):Prop:=
 (ro.1=1/\lk=Zqo rev late w)\/(ro.1=2\/ro.1=3\/ro.1=4)\/((ro.1=5/\ro.2.1=own\/ro.1=6/\ro.2.1=1 - own)/\lk=Zny own w rev ow pe ro.2/\Zo8 ro.2.2.2.2.1/\1<=ro.2.2.2.2.2/\ro.2.2.2.2.2<=1048576)
theorem ZwX{α:Type}{key:α->yL Int}{x:α}:∀l:yL α,(Qt key x l).Perm (x::l)
 |[]=>.refl _
 |y::r=>by
  unfold Qt;split
  ·exact .refl _
  ·exact((ZwX r).cons y).trans (.swap _ _ _)
theorem ZF2{α:Type}{key:α->yL Int}(l:yL α):(Zba key l).Perm l:=by
 unfold Zba
 have h:∀(l acc:yL α),(l.foldl (λacc x=>Qt key x acc) acc).Perm (acc++l):=by
  intro l
  induction l with
  |nil=>intro acc;rw[yar];exact .refl _
  |cons x r ih=>
   intro acc;exact(ih (Qt key x acc)).trans (((ZwX acc).append_right r).trans List.perm_middle.symm)
 exact h l []
theorem ZIV{l m:yL Int}(h:l.Perm m):l.sum=m.sum:=by
 induction h with
 |nil=>rfl
 |cons x _ ih=>rw[List.sum_cons,List.sum_cons,ih]
 |swap x y l=>rw[List.sum_cons,List.sum_cons,List.sum_cons,List.sum_cons];omega
 |trans _ _ h1 h2=>exact h1.trans h2
def Znz(l:yL Cond):Int:=(l.map λc=>c.2.2.1).sum
theorem ZKJ{l:yL Cond}(h:∀c,c∈l->0<=c.2.2.1/\c.2.2.1<=1125899906842624):0<=Znz l/\Znz l<=l.length*1125899906842624:=by
 induction l with
 |nil=>simp[Znz]
 |cons c r ih=>
  have h1:=h c (yas ..);have h2:=ih λx hx=>h x (yat _ hx);unfold Znz at h2 ⊢;rw[yad,List.sum_cons,yah];omega
theorem ZBy{l:yL Cond}(p:Cond->Bool)(h:∀c,c∈l->0<=c.2.2.1/\c.2.2.1<=1125899906842624):Znz (l.filter p)<=Znz l:=by
 induction l with
 |nil=>exact Int.le_refl _
 |cons c r ih=>
  have h1:=h c (yas ..);have h2:=ih λx hx=>h x (yat _ hx);unfold Znz at h2 ⊢;rw[yad,List.sum_cons,List.filter_cons];split
  ·rw[yad,List.sum_cons];omega
  ·omega
theorem ZEK:∀(l:yL Cond)(z:Int),(∀c,c∈l->0<=c.2.2.1/\c.2.2.1<=1125899906842624)->0<=z->z+l.length*1125899906842624<=9223372036854775807->totF z l=z+Znz l
 |[],z,_,_,_=>by simp[totF,Znz]
 |c::r,z,h,h0,h1=>by
  have hc:=h c (yas ..);rw[yah] at h1
  have e:ZIE z c=z+c.2.2.1:=by
   unfold ZIE;exact ZO (by omega) (by omega)
  show totF (ZIE z c) r=_;rw[e,ZEK r (z+c.2.2.1) (λx hx=>h x (yat _ hx)) (by omega) (by omega)];unfold Znz;rw[yad,List.sum_cons];omega
theorem ZIW{r:Int}{n m:Nat}(h0:0<=r)(h1:r<=1000)(h:n<=m)(hm:m<=16):feeF r (n:Int)<=feeF r (m:Int):=by
 unfold feeF;rw[yW ⟨h0,h1⟩,yW ⟨by omega,by omega⟩,yW ⟨h0,h1⟩,yW ⟨by omega,by omega⟩];exact Int.mul_le_mul_of_nonneg_left (by omega) h0
structure CmC(ch:Chan)(own:Int)(per:UInt64)(c:Commit):Prop where
 ins:c.1.1=[(ch.1,(0,[],0))]
 fund:0<=ch.1.2/\ch.1.2<=63
 same:c.2.length=c.1.2.1.length
 outs:c.1.2.1.length<=20
 note:0<=c.1.2.2/\c.1.2.2<=9223372036854775807
 ok:∀o,o∈c.1.2.1->OutOk o
 amt:amts c.1.2.1<=1125899906842624
 o:own=0\/own=1
 pt:IsPt per.toNat
 ex:∃bo bp tp,ch.2.2.1[own.toNat]? =some bo/\ch.2.2.1[(1 - own).toNat]? =some bp/\TermOk tp/\∀(k:Nat)ou ro,c.1.2.1[k]? =some ou->c.2[k]? =some ro->
  KO own tp.2.2.1 (revF bp.2.2.2.2 per) (mixF bo.2.2.1 per) (mixF bo.2.2.2.1 per) (mixF bp.2.2.2.1 per) ou.2 ro
theorem ZMY{a b:yU}{d:Int}(h0:0<=d)(h1:d<=4096)(ha:IsPt a.toNat)(hb:IsPt b.toNat):We (Zqo a b d)/\Qi (Zqo a b d):=by
 refine⟨⟨by simp[Zqo],by simp[Zqo],λe he=> ?_⟩,λe he=> ?_⟩
 ·simp[Zqo] at he;rcases he with rfl|rfl <;> exact⟨by simp,by simp,by simp,by simp<;> omega,by simp<;> omega⟩
 ·simp[Zqo] at he;rcases he with rfl|rfl
  ·exact⟨λp hp=>by simp at hp;rw[hp];exact ha,λh=>absurd rfl h⟩
  ·exact⟨λp hp=>by simp at hp;rw[hp];exact hb,λh=>absurd rfl h⟩
theorem ZMZ{p:yU}(h:IsPt p.toNat):We (ZrP p)/\Qi (ZrP p):=by
 refine⟨⟨by simp[ZrP],by simp[ZrP],λe he=> ?_⟩,λe he=> ?_⟩
 ·simp[ZrP] at he;rw[he];exact⟨by simp,by simp,by simp,by simp,by simp⟩
 ·simp[ZrP] at he;rw[he];exact⟨λq hq=>by simp at hq;rw[hq];exact h,λh=>absurd rfl h⟩
theorem ZIX{p:yU}(h:IsPt p.toNat):We (Zpc p)/\Qi (Zpc p):=by
 refine⟨⟨by simp[Zpc],by simp[Zpc],λe he=> ?_⟩,λe he=> ?_⟩
 ·simp[Zpc] at he;rcases he with rfl|rfl <;> exact⟨by simp,by simp,by simp,by simp,by simp⟩
 ·simp[Zpc] at he;rcases he with rfl|rfl
  ·exact⟨λq hq=>by simp at hq;rw[hq];exact h,λh=>absurd rfl h⟩
  ·exact⟨λq hq=>by simp at hq,λh=>absurd rfl h⟩
theorem ZM0{own w:Int}{rev ow pe:yU}{c:Cond}(h0:0<=w)(h1:w<=4096)(hr:IsPt rev.toNat)(ho:IsPt ow.toNat)(hp:IsPt pe.toNat)(hc:IsPt c.2.2.2.1.toNat)(e0:1<=c.2.2.2.2)(e1:c.2.2.2.2<=1048576):
 We (Zny own w rev ow pe c)/\Qi (Zny own w rev ow pe c):=by
 unfold Zny;split
 ·refine⟨⟨by simp,by simp,λe he=> ?_⟩,λe he=> ?_⟩
  ·simp at he;rcases he with rfl|rfl|rfl <;> exact⟨by simp,by simp<;> omega,by simp<;> omega,by simp<;> omega,by simp<;> omega⟩
  ·simp at he;rcases he with rfl|rfl|rfl
   ·exact⟨λq hq=>by simp at hq;rw[hq];exact hr,λh=>absurd rfl h⟩
   ·exact⟨λq hq=>by simp at hq;rw[hq];exact hp,λ_=>hc⟩
   ·exact⟨λq hq=>by simp at hq;rw[hq];exact ho,λh=>absurd rfl h⟩
 ·refine⟨⟨by simp,by simp,λe he=> ?_⟩,λe he=> ?_⟩
  ·simp at he;rcases he with rfl|rfl|rfl <;> exact⟨by simp,by simp<;> omega,by simp<;> omega,by simp<;> omega,by simp<;> omega⟩
  ·simp at he;rcases he with rfl|rfl|rfl
   ·exact⟨λq hq=>by simp at hq;rw[hq];exact hr,λh=>absurd rfl h⟩
   ·exact⟨λq hq=>by simp at hq;rw[hq];exact ho,λ_=>hc⟩
   ·exact⟨λq hq=>by simp at hq;rw[hq];exact hp,λh=>absurd rfl h⟩
def ZNZ(own w:Int)(rev late ow pe:yU)(x:Zf):Prop:=OutOk x.1/\KO own w rev late ow pe x.1.2 x.2.1
theorem ZIY{ch:Chan}{s:yG}(r:StR ch s):∀c,c∈s.2.2.1->ZuG c:=λc hc=>by
 obtain⟨k,hk⟩:=List.getElem?_of_mem hc;exact(r.conds k (yq.1 hk).1 c hk).1
theorem ZM1{own:Int}{per:yU}{bo bp:Basics}{to tp:Terms}{a b:Int}{l:yL Cond}(ho:own=0\/own=1)(hd:TermOk tp)(hbo:Zan bo)(hbp:Zan bp)(ha:0<=a/\a<=1125899906842624)(hb:0<=b/\b<=1125899906842624)(hl:∀c,c∈l->ZuG c):
 ∀x,x∈itm own per bo bp to tp a b l->ZNZ own tp.2.2.1 (revF bp.2.2.2.2 per) (mixF bo.2.2.1 per) (mixF bo.2.2.2.1 per) (mixF bp.2.2.2.1 per) x:=by
 intro x hx
 have d0:0<=tp.2.2.1/\tp.2.2.1<=4096:=by
  obtain⟨_,h,_⟩:=hd;omega
 unfold itm at hx;rcases ybm.1 hx with hx|hx
 ·rcases ybm.1 hx with hx|hx
  ·rcases ybm.1 hx with hx|hx
   ·split at hx
    ·rw[yau.1 hx];obtain⟨q1,q2⟩:=ZMY d0.1 d0.2 (ZEG bp.2.2.2.2 per) (Zy7 bo.2.2.1 per);exact⟨⟨ha.1,ha.2,q1,q2⟩,.inl ⟨rfl,rfl⟩⟩
    ·cases hx
   ·split at hx
    ·rw[yau.1 hx];obtain⟨q1,q2⟩:=ZMZ (hbp bp.2.1 (by simp[pts])).1;exact⟨⟨hb.1,hb.2,q1,q2⟩,.inr (.inl (.inl rfl))⟩
    ·cases hx
  ·simp only[ybc,ycs,or_false] at hx;rcases hx with rfl|rfl
   ·obtain⟨q1,q2⟩:=ZIX (hbo bo.1 (by simp[pts])).1;exact⟨⟨show(0:Int)<=330 by decide,show(330:Int)<=1125899906842624 by decide,q1,q2⟩,.inr (.inl (.inr (.inl rfl)))⟩
   ·obtain⟨q1,q2⟩:=ZIX (hbp bp.1 (by simp[pts])).1;exact⟨⟨show(0:Int)<=330 by decide,show(330:Int)<=1125899906842624 by decide,q1,q2⟩,.inr (.inl (.inr (.inr rfl)))⟩
 ·obtain⟨c,hc,rfl⟩:=ybu.1 hx;obtain⟨f1,f2,f3,f4,f5⟩:=hl c hc;obtain⟨q1,q2⟩:=ZM0 (own:=own) d0.1 d0.2 (ZEG bp.2.2.2.2 per) (Zy7 bo.2.2.2.1 per) (Zy7 bp.2.2.2.1 per) (c:=c) f5.1 f4.1 f4.2;refine⟨⟨by show 0<=c.2.2.1;omega,f3.2,q1,q2⟩,.inr (.inr ⟨?_,rfl,f5,f4.1,f4.2⟩)⟩;by_cases h:c.1=own
  ·left;exact⟨by show(if c.1=own then(5:Int) else 6)=5;rw[yW h],h⟩
  ·right;exact⟨by show(if c.1=own then(5:Int) else 6)=6;rw[yX h],by show c.1=1 - own;omega⟩
theorem ZKK{own:Int}{per:yU}{bo bp:Basics}{to tp:Terms}{a b:Int}{l:yL Cond}(ha:0<=a)(hb:0<=b):((itm own per bo bp to tp a b l).map λx=>x.1.1).sum<=a+b+660+Znz l:=by
 have e:((l.map (ZuM own tp.2.2.1 (revF bp.2.2.2.2 per) (mixF bo.2.2.2.1 per) (mixF bp.2.2.2.1 per))).map λx=>x.1.1).sum=Znz l:=by
  rw[yav];rfl
 unfold itm;rw[yam,yam,yam,List.sum_append,List.sum_append,List.sum_append,e]
 have h1:(List.map (λx:Zf=>x.1.1) (if a >= to.1 then[mkC a (Zqo (revF bp.2.2.2.2 per) (mixF bo.2.2.1 per) tp.2.2.1) (1,zcd)] else[])).sum<=a:=by
  split
  ·simp[mkC]
  ·simpa using ha
 have h2:(List.map (λx:Zf=>x.1.1) (if b >= to.1 then[mkC b (ZrP bp.2.1) (2,zcd)] else[])).sum<=b:=by
  split
  ·simp[mkC]
  ·simpa using hb
 have h3:(List.map (λx:Zf=>x.1.1) [mkC 330 (Zpc bo.1) (3,zcd),mkC 330 (Zpc bp.1) (4,zcd)]).sum=660:=by simp[mkC]
 omega
theorem ZKL{own:Int}{per:yU}{bo bp:Basics}{to tp:Terms}{a b:Int}{l:yL Cond}(hl:l.length<=16):(itm own per bo bp to tp a b l).length<=20:=by
 unfold itm;by_cases h1:a >= to.1
 ·by_cases h2:b >= to.1
  ·rw[yW h1,yW h2];simp;omega
  ·rw[yW h1,yX h2];simp;omega
 ·by_cases h2:b >= to.1
  ·rw[yX h1,yW h2];simp;omega
  ·rw[yX h1,yX h2];simp;omega
def noC:Commit:=(([],[],0),[])
theorem ZKM{ch:Chan}(w:ChWf ch){s:yG}(hs:s.2.1.length=2)(own:Int)(per:yU):
 ∃c e,Wu yD ch s own per=some (c,e)/\(e=0->CmC ch own per c):=by
 obtain⟨rb,r1,r3⟩:=ZIH w hs;by_cases ho:own=0\/own=1
 ·by_cases hp:IsPt per.toNat
  ·cases rb with
   |true=>
    have r:=r3 rfl;obtain⟨bo,bp,to,tp,hO,hP,d⟩:=Sd.all w r ho;refine⟨_,_,ZIU r1 r hp d,λ_=> ?_⟩
    have hside:TermOk to/\Zan bo/\TermOk tp/\Zan bp:=by
     have q1:=r.side own.toNat (by omega) to bo d.tO d.bO;have q2:=r.side (1 - own).toNat (by omega) tp bp d.tP d.bP;exact⟨q1.1,q1.2,q2.1,q2.2⟩
    have hfine:=ZIY r
    have hamt:∀c,c∈s.2.2.1->0<=c.2.2.1/\c.2.2.1<=1125899906842624:=λc hc=>by
     obtain⟨_,_,h,_⟩:=hfine c hc;omega
    have zW:=r.len;have hshl:=ZuL to s.2.2.1;have hq:=Zy8 (r:=s.2.2.2) (n:=((Zbc to s.2.2.1).length:Int));have hqa:=Zy8 (r:=s.2.2.2) (n:=(s.2.2.1.length:Int));have hmono:=ZIW (n:=(Zbc to s.2.2.1).length) (m:=s.2.2.1.length) r.rate.1 r.rate.2 hshl zW;have hc:=ZKJ hamt;have hcf:Znz (Zbc to s.2.2.1)<=Znz s.2.2.1:=ZBy _ hamt;obtain⟨p,q,e0,e1,e2,e3,e4,e5⟩:=r.have_;have hcost:wi (feeF s.2.2.2 (s.2.2.1.length:Int)+660)=feeF s.2.2.2 (s.2.2.1.length:Int)+660:=ZO (by omega) (by omega);rw[hcost] at e4 e5;rw[ZO (z:=p+q) (by omega) (by omega),ZEK _ _ hamt (by omega) (by omega)] at e3
    have hboth:hO+hP+Znz s.2.2.1=ch.2.1/\(ch.2.2.2.2=own->hO >= feeF s.2.2.2 (s.2.2.1.length:Int)+660)/\(ch.2.2.2.2=1 - own->hP >= feeF s.2.2.2 (s.2.2.1.length:Int)+660):=by
     have v1:=d.vO;have v2:=d.vP;rw[e0] at v1 v2;rcases ho with rfl|rfl
     ·cases v1;cases v2;exact⟨e3,e4,e5⟩
     ·cases v1;cases v2;exact⟨by omega,e5,e4⟩
    obtain⟨b1,b2,b3⟩:=hboth;have am:=r.am;have o0:=d.o0;have p0:=d.p0;have o1:=d.o1;have p1:=d.p1
    have hA:0<=Znx ch.2.2.2.2 s own hO (Zbc to s.2.2.1).length/\Znx ch.2.2.2.2 s own hO (Zbc to s.2.2.1).length<=1125899906842624:=by
     unfold Znx;split
     ·rename_i h;have:=b2 h.symm;omega
     ·omega
    have hB:0<=Znx ch.2.2.2.2 s (1 - own) hP (Zbc to s.2.2.1).length/\Znx ch.2.2.2.2 s (1 - own) hP (Zbc to s.2.2.1).length<=1125899906842624:=by
     unfold Znx;split
     ·rename_i h;have:=b3 h.symm;omega
     ·omega
    have hAB:Znx ch.2.2.2.2 s own hO (Zbc to s.2.2.1).length+Znx ch.2.2.2.2 s (1 - own) hP (Zbc to s.2.2.1).length+660<=hO+hP:=by
     have hop:=r.op;unfold Znx;by_cases h:own=ch.2.2.2.2
     ·rw[yW h,yX (by omega)];omega
     ·rw[yX h,yW (by omega)];omega
    have hitm:∀x,x∈ZuN ch s own per bo bp to tp hO hP->ZNZ own tp.2.2.1 (revF bp.2.2.2.2 per) (mixF bo.2.2.1 per) (mixF bo.2.2.2.1 per) (mixF bp.2.2.2.1 per) x:=
     ZM1 ho hside.2.2.1 hside.2.1 hside.2.2.2 hA hB λc hc=>hfine c (ZIS hc)
    have hperm:(Zba Q8 (ZuN ch s own per bo bp to tp hO hP)).Perm (ZuN ch s own per bo bp to tp hO hP):=ZF2 _;generalize hL:Zba Q8 (ZuN ch s own per bo bp to tp hO hP)=L at hperm;have hno:=r.no
    have hnote:wi (wi (2*s.1)+own)=2*s.1+own:=by
     rw[ZO (z:=2*s.1) (by omega) (by omega),ZO (by omega) (by omega)]
    refine⟨rfl,r.at_, ?_, ?_, ?_, ?_, ?_,ho,hp,bo,bp,tp,d.bO,d.bP,hside.2.2.1, ?_⟩
    ·unfold ZBx;dsimp only;rw[yy,yy,yy,yy]
    ·unfold ZBx;dsimp only;rw[yy,yy,hperm.length_eq];exact ZKL (ybw hshl zW)
    ·show 0<=wi (wi (2*s.1)+own)/\wi (wi (2*s.1)+own)<=9223372036854775807;rw[hnote];omega
    ·intro o h;unfold ZBx at h;dsimp only at h;rw[yav] at h;obtain⟨x,hx,rfl⟩:=ybu.1 h;exact(hitm x (hperm.mem_iff.1 hx)).1
    ·unfold amts ZBx;dsimp only;rw[yav,yav];show(L.map λx=>x.1.1).sum<=_;rw[ZIV (hperm.map _)];have:=ZKK (own:=own) (per:=per) (bo:=bo) (bp:=bp) (to:=to) (tp:=tp) (l:=Zbc to s.2.2.1) hA.1 hB.1;unfold ZuN;omega
    ·intro k ou ro h1 h2;unfold ZBx at h1 h2;dsimp only at h1 h2;rw[yav,yai] at h1 h2;obtain⟨x,hx,rfl⟩:=Option.map_eq_some_iff.1 h1;rw[hx] at h2;cases h2
     exact(hitm x (hperm.mem_iff.1 (List.mem_of_getElem? hx))).2
   |false=>
    refine⟨noC,14, ?_,λh=>absurd h (by decide)⟩;unfold Wu;rw[Zy9,ya,yY ho,yX (show¬(!true)=true by decide),ZcT,ya,yY hp,yX (show¬(!true)=true by decide),r1,ya,yW (show(!false)=true by decide)];rfl
  ·refine⟨noC,1, ?_,λh=>absurd h (by decide)⟩;unfold Wu;rw[Zy9,ya,yY ho,yX (show¬(!true)=true by decide),ZcT,ya,yZ hp,yW (show(!false)=true by decide)];rfl
 ·refine⟨noC,1, ?_,λh=>absurd h (by decide)⟩;unfold Wu;rw[Zy9,ya,yZ ho,yW (show(!false)=true by decide)];rfl
theorem Zhu{I X:Type}{step:I->yO (I⊕X)}(n:Nat)(st:Nat->I)(ok:Nat->Prop)(good:X)(bad:Nat->X)
 (h1:∀k,k < n->(∀j,j < k->ok j)->ok k->step (st k)=some (.inl (st (k+1)))) (h2:∀k,k < n->(∀j,j < k->ok j)->¬ok k->step (st k)=some (.inr (bad k))) (he:(∀j,j < n->ok j)->step (st n)=some (.inr good)) (hn:n < 18446744073709551616):
 ∃x,Zb step yD (st 0)=some x/\(Za9 n ok/\x=good\/¬Za9 n ok/\∃k,x=bad k):=by
 refine X6 (step:=step) n (λk s=>s=st k/\∀j,j < k->ok j) _ (i:=st 0) ⟨rfl,λj h=>by omega⟩ hn ?_ ?_
 ·rintro k _ hk ⟨rfl,hj⟩;by_cases h:ok k
  ·left;refine⟨_,h1 k hk hj h,rfl,λj hjk=> ?_⟩;by_cases e:j=k
   ·rw[e];exact h
   ·exact hj j (by omega)
  ·right;exact⟨_,h2 k hk hj h,.inr ⟨λq=>h (q k hk),k,rfl⟩⟩
 ·rintro _ ⟨rfl,hj⟩;exact⟨_,he hj,.inl ⟨hj,rfl⟩⟩
theorem ZwY{K V:Type}[DecidableEq K](k:K)(v:V)(k':K):∀m:yL (K×V),Zdv (Zpt m k v) k'=if k'=k then some v else Zdv m k'
 |[]=>rfl
 |q::m=>by
  have ih:=ZwY k v k' m;unfold Zpt;by_cases h:k=q.1
  ·rw[yW h];unfold Zdv;by_cases h2:k'=k
   ·rw[yW h2,yW h2]
   ·rw[yX h2,yX h2,yX (by rw[<-h];exact h2)]
  ·rw[yX h];unfold Zdv;by_cases h3:k'=q.1
   ·rw[yW h3,yW h3,yX (by rw[h3];exact λq=>h q.symm)]
   ·rw[yX h3,yX h3,ih]
def Zk1(l:yL In):yL (ZS×Bool):=l.foldl (λm x=>Zpt m x.1 true) []
theorem ZEL{l:yL In}{k:Nat}{x:In}(h:l[k]? =some x):Zk1 (l.take (k+1))=Zpt (Zk1 (l.take k)) x.1 true:=by
 rw[WM h,Zk1,List.foldl_append];rfl
theorem ZuO(l:yL In)(p:ZS):∀k,k<=l.length->(Zdv (Zk1 (l.take k)) p=some true/\(∃j y,j < k/\l[j]? =some y/\y.1=p))\/(Zdv (Zk1 (l.take k)) p=none/\∀j y,j < k->l[j]? =some y->y.1≠p)
 |0,_=>.inr ⟨rfl,λj y h=>by omega⟩
 |k+1,hk=>by
  obtain⟨x,hx,_⟩:=Ze (l:=l) (k:=k) (by omega);rw[ZEL hx,ZwY];by_cases h:p=x.1
  ·rw[yW h];exact .inl ⟨rfl,k,x,by omega,hx,h.symm⟩
  ·rw[yX h];rcases ZuO l p k (by omega) with⟨h1,j,y,h2,h3,h4⟩|⟨h1,h2⟩
   ·exact .inl ⟨h1,j,y,by omega,h3,h4⟩
   ·refine .inr ⟨h1,λj y h3 h4=> ?_⟩;by_cases e:j=k
    ·subst e;rw[hx] at h4;cases h4;exact λq=>h q.symm
    ·exact h2 j y (by omega) h4
def Zpd(w:ZdM):Prop:=0<=w.1/\w.1 < 4/\w.2.1.length<=12
instance(w:ZdM):Decidable (Zpd w):=by unfold Zpd;infer_instance
theorem ZIZ(w:ZdM):Ve yD w=some (decide (Zpd w)):=by
 unfold Ve;refine(Za8 (q:=w.1 < 4/\(w.2.1.length:Int)<=12) (Zo7 _ _ rfl)).trans (congrArg some (decide_eq_decide.2 ?_));unfold Zpd;omega
theorem ZEM(w:ZdM):XK yD w=some (decide (Zpd w)):=by
 unfold XK;refine(Za8 (q:=w.1<=3/\(w.2.1.length:Int)<=12) (Zo7 _ _ rfl)).trans (congrArg some (decide_eq_decide.2 ?_));unfold Zpd;omega
def ZF3(l:yL In)(k:Nat):Prop:=∀x,l[k]? =some x->(0<=x.1.2/\x.1.2 < 64)/\Zpd x.2/\∀j y,j < k->l[j]? =some y->y.1≠x.1
theorem ZF4(t:Tx)(hl:t.1.length<=100):∃x,Zb (XJ yD) yD (t.1,(t.1.length:Int),(0:Int),t,([]:yL (ZS×Bool)))=some x/\(Za9 t.1.length (ZF3 t.1)/\x=.inr (t,Zk1 t.1)\/¬Za9 t.1.length (ZF3 t.1)/\∃k:Nat,x=.inl (false,t,Zk1 (t.1.take k))):=by
 refine Zhu t.1.length (λk:Nat=>(t.1,(t.1.length:Int),(k:Int),t,Zk1 (t.1.take k))) (ZF3 t.1) (Sum.inr (t,Zk1 t.1)) (λk=>Sum.inl (false,t,Zk1 (t.1.take k))) ?_ ?_ ?_ (by omega)
 ·intro k hk _ hok;obtain⟨x,hx,_⟩:=Ze hk;obtain⟨o1,o2,o3⟩:=hok x hx;unfold XJ;dsimp only;rw[yW (ZF hk),Zl hx,ya];rcases ZuO t.1 x.1 k (by omega) with⟨_,j,y,h2,h3,h4⟩|⟨h1,_⟩
  ·exact absurd h4 (o3 j y h2 h3)
  ·rw[h1];unfold ZqF;dsimp only;rw[yX (show¬decide (x.1.2 < 0)=true by rw[yN];omega),yX (show¬decide (x.1.2 >= 64)=true by rw[yN];omega),ZIZ,ya,yY o2,yX (by decide),Zp (by omega),ZEL hx]
 ·intro k hk _ hno;obtain⟨x,hx,_⟩:=Ze hk;unfold XJ;dsimp only;rw[yW (ZF hk),Zl hx,ya];rcases ZuO t.1 x.1 k (by omega) with⟨h1,_⟩|⟨h1,h2⟩
  ·rw[h1];unfold ZqF;dsimp only;rw[yW rfl]
  ·rw[h1];unfold ZqF;dsimp only;by_cases c1:x.1.2 < 0
   ·rw[yW (yY c1)]
   ·rw[yX (show¬decide (x.1.2 < 0)=true by rw[yN];exact c1)];by_cases c2:x.1.2 >= 64
    ·rw[yW (yY c2)]
    ·rw[yX (show¬decide (x.1.2 >= 64)=true by rw[yN];exact c2),ZIZ,ya];by_cases c3:Zpd x.2
     ·refine absurd ?_ hno;intro x' hx';rw[hx] at hx';cases hx';exact⟨⟨by omega,by omega⟩,c3,h2⟩
     ·rw[yZ c3,yW (by decide)]
 ·intro _;unfold XJ;dsimp only;rw[yX (by rw[ZA];decide),yaj]
theorem ZwZ(t:Tx){k:Nat}(hk:k<=100)(hkl:k<=t.1.length)(x:In):∃r,Zb (Z5 yD) yD ((k:Int),(0:Int),t,x)=some r/\((∀j y,j < k->t.1[j]? =some y->y.1≠x.1)/\r=.inr ((k:Int),t,x)\/(¬∀j y,j < k->t.1[j]? =some y->y.1≠x.1)/\r=.inl (false,t,x)):=by
 obtain⟨r,r1,r2⟩:=Zhu (step:=Z5 yD) k (λj:Nat=>((k:Int),(j:Int),t,x)) (λj=>∀y,t.1[j]? =some y->y.1≠x.1) (.inr ((k:Int),t,x)) (λ_=>.inl (false,t,x)) (by
  intro j hj _ hok;obtain⟨y,hy,_⟩:=Ze (l:=t.1) (k:=j) (by omega);unfold Z5;dsimp only;rw[yW (ZF hj),Zl hy,ya,yX (by rw[yN];exact hok y hy),Zp (by omega)]) (by
  intro j hj _ hno;obtain⟨y,hy,_⟩:=Ze (l:=t.1) (k:=j) (by omega)
  have h:y.1=x.1:=by
   by_cases h:y.1=x.1
   ·exact h
   ·refine absurd ?_ hno;intro y' hy';rw[hy] at hy';cases hy';exact h
  unfold Z5;dsimp only;rw[yW (ZF hj),Zl hy,ya,yW (yY h)]) (by
  intro _;unfold Z5;dsimp only;rw[yX (by rw[ZA];decide)]) (by omega)
 refine⟨r,r1, ?_⟩;rcases r2 with⟨h1,h2⟩|⟨h1,_,h2⟩
 ·exact .inl ⟨λj y hj hy=>h1 j hj y hy,h2⟩
 ·exact .inr ⟨λq=>h1 λj hj y hy=>q j y hj hy,h2⟩
theorem ZF5(t:Tx)(hl:t.1.length<=100):∃x,Zb (Yq yD) yD ((0:Int),t)=some x/\(Za9 t.1.length (ZF3 t.1)/\x=.inr t\/¬Za9 t.1.length (ZF3 t.1)/\∃k:Nat,x=.inl (false,t)):=by
 refine Zhu t.1.length (λk:Nat=>((k:Int),t)) (ZF3 t.1) (Sum.inr t) (λ_=>Sum.inl (false,t)) ?_ ?_ ?_ (by omega)
 ·intro k hk _ hok;obtain⟨x,hx,_⟩:=Ze hk;obtain⟨o1,o2,o3⟩:=hok x hx;unfold Yq;dsimp only;rw[yW (ZF hk),Zl hx,ya,yX (show¬decide (x.1.2 < 0)=true by rw[yN];omega),yX (show¬decide (x.1.2 > 63)=true by rw[yN];omega),ZEM,ya,yY o2,yX (by decide)];obtain⟨r,r1,⟨_,rfl⟩|⟨h,_⟩⟩:=ZwZ t (k:=k) (by omega) (by omega) x
  ·rw[r1,ya];dsimp only;rw[Zp (by omega)]
  ·exact absurd o3 h
 ·intro k hk _ hno;obtain⟨x,hx,_⟩:=Ze hk;unfold Yq;dsimp only;rw[yW (ZF hk),Zl hx,ya];by_cases c1:x.1.2 < 0
  ·rw[yW (yY c1)]
  ·rw[yX (show¬decide (x.1.2 < 0)=true by rw[yN];exact c1)];by_cases c2:x.1.2 > 63
   ·rw[yW (yY c2)]
   ·rw[yX (show¬decide (x.1.2 > 63)=true by rw[yN];exact c2),ZEM,ya];by_cases c3:Zpd x.2
    ·rw[yY c3,yX (by decide)];obtain⟨r,r1,⟨h,rfl⟩|⟨h,rfl⟩⟩:=ZwZ t (k:=k) (by omega) (by omega) x
     ·refine absurd ?_ hno;intro x' hx';rw[hx] at hx';cases hx';exact⟨⟨by omega,by omega⟩,c3,h⟩
     ·rw[r1,ya]
    ·rw[yZ c3,yW (by decide)]
 ·intro _;unfold Yq;dsimp only;rw[yX (by rw[ZA];decide)]
theorem ZBz(z:Int):Q3 yD z=some (decide (0<=z/\z<=1125899906842624)):=Zo7 (z >= 0) (z<=1125899906842624) rfl
theorem ZBA{a b:Int}(h0:0<=a)(h1:a<=1125899906842624):ZaI yD a b=some (if(0<=b/\b<=1125899906842624)/\a+b<=1125899906842624 then(a+b,true) else(0,false)):=by
 unfold ZaI;rw[ZBz,ya,yY (p:=0<=a/\a<=1125899906842624) ⟨h0,h1⟩,yX (show¬(!true)=true by decide),ZBz,ya];by_cases hb:0<=b/\b<=1125899906842624
 ·rw[yY hb,yX (show¬(!true)=true by decide),ZO (z:=1125899906842624 - b) (by omega) (by omega),ZO (z:=a+b) (by omega) (by omega)];by_cases h:a+b<=1125899906842624
  ·rw[yX (show¬decide (a > 1125899906842624 - b)=true by rw[yN];omega),yW ⟨hb,h⟩]
  ·rw[yW (show decide (a > 1125899906842624 - b)=true from yY (by omega)),yX λq=>h q.2]
 ·rw[yZ hb,yW (show(!false)=true by decide),yX λq=>hb q.1]
structure TxL(t:Tx):Prop where
 ins:t.1.length<=70
 outs:t.2.1.length<=70
 locks:∀o,o∈t.2.1->LockWf o.2
def ZI0(o:Out):Prop:=(0<=o.1/\o.1<=1125899906842624)/\We o.2/\Qi o.2
def ZBB(l:yL Out)(k:Nat):Prop:=∀o,l[k]? =some o->ZI0 o/\amts (l.take (k+1))<=1125899906842624
def ZuP(l:yL Out)(k:Nat):Prop:=∀o,l[k]? =some o->ZI0 o
theorem Zza{l:yL Out}:∀k,k<=l.length->(∀j,j < k->ZuP l j)->0<=amts (l.take k)/\amts (l.take k)<=k*1125899906842624
 |0,_,_=>by simp[amts]
 |k+1,hk,h=>by
  obtain⟨o,ho,_⟩:=Ze (l:=l) (k:=k) (by omega);have ih:=Zza k (by omega) λj hj=>h j (by omega);have hc:=(h k (by omega) o ho).1;rw[ZbV ho];omega
theorem ZDk{t:Tx}(hl:TxL t)(m:yL (ZS×Bool)):∃x,Zb (Wv yD) yD ((0:Int),t.2.1,(t.2.1.length:Int),(0:Int),t,m)=some x/\(Za9 t.2.1.length (ZBB t.2.1)/\x=.inr (t,m)\/¬Za9 t.2.1.length (ZBB t.2.1)/\∃k:Nat,x=.inl (false,t,m)):=by
 have hw:=hl.outs
 have sm:∀k,k<=t.2.1.length->(∀j,j < k->ZBB t.2.1 j)->0<=amts (t.2.1.take k)/\amts (t.2.1.take k)<=1125899906842624:=by
  intro k hk h;refine⟨(Zza k hk λj hj o ho=>(h j hj o ho).1).1, ?_⟩
  cases k with
  |zero=>simp[amts]
  |succ k=>
   obtain⟨o,ho,_⟩:=Ze (l:=t.2.1) (k:=k) (by omega);exact(h k (by omega) o ho).2
 refine Zhu t.2.1.length (λk:Nat=>(amts (t.2.1.take k),t.2.1,(t.2.1.length:Int),(k:Int),t,m)) (ZBB t.2.1) (Sum.inr (t,m)) (λ_=>Sum.inl (false,t,m)) ?_ ?_ ?_ (by omega)
 ·intro k hk hj hok;obtain⟨o,ho,hm⟩:=Ze hk;obtain⟨⟨o1,o2⟩,o3⟩:=hok o ho;rw[ZbV ho] at o3;obtain⟨s0,s1⟩:=sm k (by omega) hj;obtain⟨b,b1,b2⟩:=Ze5 (hl.locks o hm);unfold Wv;dsimp only;rw[yW (ZF hk),Zl ho,ya,ZBA s0 s1,yW ⟨o1,o3⟩,ya,yX (by simp),b1,ya,b2.2 o2,yX (by decide),Zp (by omega),ZbV ho]
 ·intro k hk hj hno;obtain⟨o,ho,hm⟩:=Ze hk;obtain⟨s0,s1⟩:=sm k (by omega) hj;obtain⟨b,b1,b2⟩:=Ze5 (hl.locks o hm);unfold Wv;dsimp only;rw[yW (ZF hk),Zl ho,ya,ZBA s0 s1,ya];by_cases c:(0<=o.1/\o.1<=1125899906842624)/\amts (t.2.1.take k)+o.1<=1125899906842624
  ·rw[yW c,yX (by simp),b1,ya]
   cases b with
   |true=>
    refine absurd ?_ hno;intro o' ho';rw[ho] at ho';cases ho';rw[ZbV ho]
    exact⟨⟨c.1,b2.1 rfl⟩,c.2⟩
   |false=>rw[yW (by decide)]
  ·rw[yX c,yW (by simp)]
 ·intro _;unfold Wv;dsimp only;rw[yX (by rw[ZA];decide)]
theorem ZDl{t:Tx}(hl:TxL t):∃x,Zb (Yr yD) yD ((0:Int),(0:Int),t)=some x/\(Za9 t.2.1.length (ZuP t.2.1)/\x=.inr (amts t.2.1,t)\/¬Za9 t.2.1.length (ZuP t.2.1)/\∃k:Nat,x=.inl (false,t)):=by
 have hw:=hl.outs;refine Zhu t.2.1.length (λk:Nat=>(amts (t.2.1.take k),(k:Int),t)) (ZuP t.2.1) (Sum.inr (amts t.2.1,t)) (λ_=>Sum.inl (false,t)) ?_ ?_ ?_ (by omega)
 ·intro k hk hj hok;obtain⟨o,ho,hm⟩:=Ze hk;obtain⟨o1,o2⟩:=hok o ho;obtain⟨s0,s1⟩:=Zza k (by omega) hj;obtain⟨b,b1,b2⟩:=Zio (hl.locks o hm);have hk70:(k:Int)<=70:=by omega
  unfold Yr;dsimp only;rw[yW (ZF hk),Zl ho,ya,yX (show¬decide (o.1 < 0)=true by rw[yN];omega),yX (show¬decide (o.1 > 1125899906842624)=true by rw[yN];omega),b1,ya,b2.2 o2,yX (by decide),Zp (by omega),ZbV ho,ZO (z:=amts (t.2.1.take k)+o.1) (by omega) (by omega)]
 ·intro k hk hj hno;obtain⟨o,ho,hm⟩:=Ze hk;obtain⟨b,b1,b2⟩:=Zio (hl.locks o hm);unfold Yr;dsimp only;rw[yW (ZF hk),Zl ho,ya];by_cases c1:o.1 < 0
  ·rw[yW (yY c1)]
  ·rw[yX (show¬decide (o.1 < 0)=true by rw[yN];exact c1)];by_cases c2:o.1 > 1125899906842624
   ·rw[yW (yY c2)]
   ·rw[yX (show¬decide (o.1 > 1125899906842624)=true by rw[yN];exact c2),b1,ya]
    cases b with
    |true=>
     refine absurd ?_ hno;intro o' ho';rw[ho] at ho';cases ho'
     exact⟨⟨by omega,by omega⟩,b2.1 rfl⟩
    |false=>rw[yW (by decide)]
 ·intro _;unfold Yr;dsimp only;rw[yX (by rw[ZA];decide),yaj]
theorem ZBC{l:yL Out}(hl:l.length<=70):Za9 l.length (ZBB l)↔Za9 l.length (ZuP l)/\amts l<=1125899906842624:=by
 constructor
 ·intro h;refine⟨λk hk o ho=>(h k hk o ho).1, ?_⟩
  cases hn:l.length with
  |zero=>
   rw[ybf hn]
   simp[amts]
  |succ k=>
   obtain⟨o,ho,_⟩:=Ze (l:=l) (k:=k) (by omega);have:=(h k (by omega) o ho).2
   rwa [show k+1=l.length by omega,yaj] at this
 ·rintro⟨h1,h2⟩ k hk o ho;refine⟨h1 k hk o ho, ?_⟩
  have zU:∀e,e∈l->0<=e.1:=by
   intro e he;obtain⟨j,j1,j2⟩:=yck he;exact(h1 j j1 e (by rw[yac j1,j2])).1.1
  have hs:amts l=amts (l.take (k+1))+amts (l.drop (k+1)):=by
   have q:=congrArg amts (ybk (k+1) l);rw[<-q];unfold amts;rw[yam,List.sum_append]
  have hd:0<=amts (l.drop (k+1)):=ZDb (by
   intro x hx;obtain⟨e,he,rfl⟩:=ybu.1 hx;exact zU e (ycz he))
  omega
theorem Zzb{t:Tx}(hl:TxL t):∃b:Bool,VK yD t=some b/\WJ yD t=some b/\(b=true->ZIr t):=by
 unfold VK WJ;by_cases c1:(t.1.length:Int) < 1
 ·rw[yW (yY c1),yW (yY c1)];exact⟨false,rfl,rfl,λh=>by cases h⟩
 have c1':¬decide ((t.1.length:Int) < 1)=true:=by rw[yN];exact c1
 rw[yX c1',yX c1'];by_cases c2:(t.1.length:Int) > 64
 ·rw[yW (yY c2),yW (yY c2)];exact⟨false,rfl,rfl,λh=>by cases h⟩
 have c2':¬decide ((t.1.length:Int) > 64)=true:=by rw[yN];exact c2
 rw[yX c2',yX c2'];by_cases c3:(t.2.1.length:Int) > 64
 ·rw[yW (yY c3),yW (yY c3)];exact⟨false,rfl,rfl,λh=>by cases h⟩
 have c3':¬decide ((t.2.1.length:Int) > 64)=true:=by rw[yN];exact c3
 rw[yX c3',yX c3'];by_cases c4:t.2.2 < 0
 ·rw[yW (yY c4),yW (yY c4)];exact⟨false,rfl,rfl,λh=>by cases h⟩
 have c4':¬decide (t.2.2 < 0)=true:=by rw[yN];exact c4
 rw[yX c4',yX c4'];have h70:=hl.ins;obtain⟨x,x1,x2⟩:=ZF4 t (by omega);obtain⟨y,y1,y2⟩:=ZF5 t (by omega);rw[x1,y1,ya,ya];rcases x2 with⟨hI,rfl⟩|⟨hI,k,rfl⟩
 ·rcases y2 with⟨_,rfl⟩|⟨hI',_⟩
  ·dsimp only;obtain⟨x,x1,x2⟩:=ZDk hl (Zk1 t.1);obtain⟨y,y1,y2⟩:=ZDl hl;rw[x1,y1,ya,ya];rcases x2 with⟨hO,rfl⟩|⟨hO,k,rfl⟩
   ·obtain⟨hO1,hO2⟩:=(ZBC hl.outs).1 hO;rcases y2 with⟨_,rfl⟩|⟨hO',_⟩
    ·dsimp only;rw[yY hO2];refine⟨true,rfl,rfl,λ_=>⟨by omega,by omega,by omega,by omega,λx hx=> ?_,λo ho=> ?_⟩⟩
     ·obtain⟨j,j1,j2⟩:=yck hx;obtain⟨q1,q2,_⟩:=hI j j1 x (by rw[yac j1,j2]);exact⟨q1.1,q1.2,q2.1,q2.2.1,q2.2.2⟩
     ·obtain⟨j,j1,j2⟩:=yck ho;obtain⟨q1,q2⟩:=hO1 j j1 o (by rw[yac j1,j2]);exact⟨q1.1,q1.2,q2.1,q2.2⟩
    ·exact absurd hO1 hO'
   ·rcases y2 with⟨hO',rfl⟩|⟨_,_,rfl⟩
    ·dsimp only;rw[yZ (p:=amts t.2.1<=1125899906842624) λq=>hO ((ZBC hl.outs).2 ⟨hO',q⟩)];exact⟨false,rfl,rfl,λh=>by cases h⟩
    ·exact⟨false,rfl,rfl,λh=>by cases h⟩
  ·exact absurd hI hI'
 ·rcases y2 with⟨hI',_⟩|⟨_,_,rfl⟩
  ·exact absurd hI' hI
  ·exact⟨false,rfl,rfl,λh=>by cases h⟩
theorem ZF6{t:Tx}(hw:ZKt t)(h:ZIr t):WO yD t=some (Zk0 t):=by
 obtain⟨ins,outs,note⟩:=t;obtain⟨w1,w2⟩:=hw;obtain⟨t1,t2,t3,t4,t5,t6⟩:=h;dsimp only at w1 w2 t1 t2 t3 t4 t5 t6;have r1:=ZV (n:=ins.length) (by omega);have r2:=ZV (n:=outs.length) (by omega);have ci:∀k,(cat inF (ins.take k)).length<=64*41:=Za7 (λx hx=>ZEB (w1 x hx) (t5 x hx)) t2;have co:∀k,(cat Zqm (outs.take k)).length<=64*551:=Za7 (λx hx=>ZBh (t6 x hx)) t3;have ci':=ci ins.length;rw[yaj] at ci';have co':=co outs.length;rw[yaj] at co';unfold WO;dsimp only;rw[Zcb (by omega) (by omega) (by simp),ya,yx,ybe]
 have q:=Zt (step:=Yu yD) ins.length (λk:Nat=>(XF ins.length++cat inF (ins.take k),(k:Int),(ins,outs,note))) (x:=(XF ins.length++cat inF ins,(ins,outs,note))) (by
  intro k hk;obtain⟨e,he,hm⟩:=Ze hk;have hc:=ci k;have h32:=w1 e hm;have hi:=t5 e hm;unfold Yu;dsimp only;rw[yW (ZF hk),Zl he,ya,ZBk (by rw[yo];omega) h32,ya,ya,Zcb hi.1 (by have:=hi.2.1;omega) (by simp only[yo];omega),ya,Zp (by omega),QM he];unfold inF;simp only[yab]) (by
  unfold Yu;dsimp only;rw[yX (by rw[ZA];decide),yaj]) (by omega)
 rw[show cat inF (ins.take 0)=[] from rfl,yar] at q
 have q:Zb (Yu yD) yD (XF ins.length,(0:Int),(ins,outs,note))=_:=q;rw[q,ya];dsimp only;rw[Zcb (by omega) (by omega) (by rw[yo];omega),ya,ybe]
 have p:=Zt (step:=Yw yD) outs.length (λk:Nat=>(XF ins.length++cat inF ins++XF outs.length++cat Zqm (outs.take k),(k:Int),(ins,outs,note))) (x:=(XF ins.length++cat inF ins++XF outs.length++cat Zqm outs,(ins,outs,note))) (by
  intro k hk;obtain⟨e,he,hm⟩:=Ze hk;have hc:=co k;obtain⟨o1,o2,o3,o4⟩:=t6 e hm;have hl:=Zlt o3;have hr:=ZV (n:=e.1.toNat) (by omega);unfold Yw;dsimp only;rw[yW (ZF hk),Zl he,ya,Zcb o1 (by omega) (by simp only[yo];omega),ya,ya,ZBp o3 o4,ya,Zy4 (by simp only[yo];omega) (by omega),ya,Zp (by omega),QM he];unfold Zqm;simp only[yab]) (by
  unfold Yw;dsimp only;rw[yX (by rw[ZA];decide),yaj]) (by omega)
 rw[show cat Zqm (outs.take 0)=[] from rfl,yar] at p
 have p:Zb (Yw yD) yD (XF ins.length++cat inF ins++XF outs.length,(0:Int),(ins,outs,note))=_:=p;rw[p,ya];dsimp only;rw[Zcb t4 w2 (by simp only[yo];omega),ya];unfold Zk0;simp only[yab]
theorem Zw0{t:Tx}(h:(Zk0 t).length<=40000):∀x,x∈[Zk0 t]->x.length<=60000:=λx hx=>by
 rw[yau.1 hx];omega
theorem ZF7{t:Tx}(hl:TxL t)(hw:ZKt t):∃n,Zp9 yD t=some n/\Yx yD t=some n/\n.length=32:=by
 obtain⟨b,b1,b2,b3⟩:=Zzb hl;unfold Zp9 Yx;rw[b1,b2,ya,ya]
 cases b with
 |false=>exact⟨_,rfl,rfl,rfl⟩
 |true=>
  have h:=b3 rfl;obtain⟨p1,p2⟩:=ZIt hw h;rw[yX (by decide),yX (by decide),p1,ZF6 hw h,ya,ya,ZDd (by decide) (by simp) (Zw0 p2),ZED (by decide) (by simp) (Zw0 p2)];exact⟨_,rfl,rfl,Sha.ZN2 _⟩
def ZvM(d:Int)(b:Bool):yO (Int×Bool):=if b=true then(if d=1 then some (1,false) else if d=5 then some (2,false) else if d=6 then some (1,true) else none) else(if d=5 then some (1,true) else if d=6 then some (2,false) else none)
theorem ZI1(d:Int)(b:Bool):Zdv ([([1,1],(1,false)),([5,1],(2,false)),([5,0],(1,true)),([6,1],(1,true)),([6,0],(2,false))]:yL ((yL Int)×ZA2)) ([d,if b=true then 1 else 0]:yL Int)=ZvM d b:=by
 unfold ZvM;cases b
 ·by_cases h5:d=5
  ·subst h5;simp[Zdv]
  ·by_cases h6:d=6
   ·subst h6;simp[Zdv]
   ·simp[Zdv,h5,h6]
 ·by_cases h1:d=1
  ·subst h1;simp[Zdv]
  ·by_cases h5:d=5
   ·subst h5;simp[Zdv]
   ·by_cases h6:d=6
    ·subst h6;simp[Zdv]
    ·simp[Zdv,h1,h5,h6]
theorem ZI2(d:Int)(b:Bool):WP yD d b=some (match ZvM d b with|some q=>q|none=>((-1:Int),false)):=by
 unfold WP ZvM;cases b
 ·by_cases h1:d=1
  ·subst h1;rfl
  ·by_cases h5:d=5
   ·subst h5;rfl
   ·by_cases h6:d=6
    ·subst h6;rfl
    ·simp[h1,h5,h6]
 ·by_cases h1:d=1
  ·subst h1;rfl
  ·by_cases h5:d=5
   ·subst h5;rfl
   ·by_cases h6:d=6
    ·subst h6;rfl
    ·simp[h1,h5,h6]
def opF(h:Int)(b:Branch):Int:=ZzR b.2.1 (wi (h+b.2.2.1))
noncomputable def Ziq(l:yL yU)(p:yU):Nat:=l.findIdx λk=>B k.toNat==p
noncomputable def ZDm(l:yL yU)(p:yU):yO yU:=l[Ziq l p]?
theorem ZI3{l:yL yU}{p:yU}{k:Nat}(h:k < Ziq l p):∃e,l[k]? =some e/\(B e.toNat==p)=false:=by
 have hl:Ziq l p<=l.length:=List.findIdx_le_length;have hk:k < l.length:=by omega
 refine⟨l[k],yac hk, ?_⟩;have:=List.not_of_lt_findIdx h;simpa using this
theorem ZI4{l:yL yU}{p e:yU}(h:l[Ziq l p]? =some e):(B e.toNat==p)=true:=by
 obtain⟨h1,h2⟩:=yq.1 h;unfold Ziq at h1 h2;generalize hf:(λk:yU=>B k.toNat==p)=f at h1 h2;have:=List.findIdx_getElem (xs:=l) (p:=f) (w:=h1);rw[h2, <-hf] at this;exact this
theorem ZF8{l:yL yU}(hl:l.length<=100)(p:yU):Zb9 yD l p=some (match ZDm l p with|some k=>(k,true)|none=>((0:yU),false)):=by
 have hi:Ziq l p<=l.length:=List.findIdx_le_length;unfold Zb9
 have e:=Zt (step:=XV yD) (Ziq l p) (λk:Nat=>(p,l,(l.length:Int),(k:Int))) (x:=match ZDm l p with|some k=>.inl (k,true)|none=>.inr ()) (by
  intro k hk;obtain⟨e,he,hb⟩:=ZI3 hk;unfold XV;dsimp only;rw[yW (ZF (by omega)),Zl he,ya,Zr7,ya,yX (by rw[hb];decide),Zp (by omega)]) (by
  unfold XV;dsimp only
  cases hs:ZDm l p with
  |none=>
   have hs:l[Ziq l p]? =none:=hs;have:l.length<=Ziq l p:=List.getElem?_eq_none_iff.1 hs
   rw[yX (ynd (by omega))]
  |some e=>
   have hs:l[Ziq l p]? =some e:=hs;have:=(yq.1 hs).1;rw[yW (ZF this),Zl hs,ya,Zr7,ya,yW (ZI4 hs)]) (by omega)
 have e:Zb (XV yD) yD (p,l,(l.length:Int),(0:Int))=_:=e;rw[e,ya];cases ZDm l p <;> rfl
theorem ZF9{l:yL yU}(hl:l.length<=100)(me own h i:Int)(ch:Chan)(kit:Kit)(c:Commit)(acc:yL Zv)(id:yL yB)(r:ZbS)(o:Out)(x:Zv):
 Zb (Xn yD) yD (me,own,h,l,i,(0:Int),ch,kit,c,acc,id,r,o,x)=some (me,own,h,l,i,(Ziq l r.2.2.2.2.1:Int),ch,kit,c,acc,id,r,o,x):=by
 have hi:Ziq l r.2.2.2.2.1<=l.length:=List.findIdx_le_length;refine Zt (Ziq l r.2.2.2.2.1) (λk:Nat=>(me,own,h,l,i,(k:Int),ch,kit,c,acc,id,r,o,x)) ?_ ?_ (by omega)
 ·intro k hk;obtain⟨e,he,hb⟩:=ZI3 hk;unfold Xn;dsimp only;rw[yW (ZF (by omega)),Zl he,ya,ZuB,ya,yW (by simpa using hb),Zp (by omega)]
 ·unfold Xn;dsimp only;by_cases h1:Ziq l r.2.2.2.2.1 < l.length
  ·have hs:l[Ziq l r.2.2.2.2.1]? =some l[Ziq l r.2.2.2.2.1]:=yac h1;rw[yW (ZF h1),Zl hs,ya,ZuB,ya,yX (by have:=ZI4 hs;simpa using this)]
  ·rw[yX (ynd (by omega))]
noncomputable def ZBD(id:yL yB)(h:Int)(known:yL yU)(own:Bool)(n:Nat)(o:Out)(r:ZbS):yO Zv:=
 (ZvM r.1 own).bind λq=>(o.2[q.1.toNat]?).bind λb=>if q.2=true then(ZDm known r.2.2.2.2.1).bind λk=>(o.2[2]?).map λb2=>((id,(n:Int)),o,q.1,k,opF h b,opF h b2) else some ((id,(n:Int)),o,q.1,0,opF h b,0)
noncomputable def ZBE(id:yL yB)(h:Int)(known:yL yU)(own:Bool)(c:Commit)(n:Nat):yO Zv:=(c.1.2.1[n]?).bind λo=>(c.2[n]?).bind λr=>ZBD id h known own n o r
noncomputable def ZrQ(id:yL yB)(h:Int)(known:yL yU)(own:Bool)(c:Commit)(n:Nat):yL Zv:=(yr n).filterMap (ZBE id h known own c)
theorem Zw1(id:yL yB)(h:Int)(known:yL yU)(own:Bool)(c:Commit)(n:Nat):ZrQ id h known own c (n+1)=ZrQ id h known own c n++(ZBE id h known own c n).toList:=by
 unfold ZrQ;rw[List.range_succ,List.filterMap_append];congr 1
theorem ZuQ(id:yL yB)(h:Int)(known:yL yU)(own:Bool)(c:Commit)(n:Nat):(ZrQ id h known own c n).length<=n:=by
 unfold ZrQ;have:=List.length_filterMap_le (ZBE id h known own c) (yr n)
 rwa [List.length_range] at this
theorem ZI5{own w:Int}{rev late ow pe:yU}{lk:Z4}{ro:ZbS}(hk:KO own w rev late ow pe lk ro){b:Bool}{q:Int×Bool}(hq:ZvM ro.1 b=some q):1<=q.1/\q.1<=2/\(∃e,lk[q.1.toNat]? =some e)/\(q.2=true->∃e,lk[2]? =some e):=by
 rcases hk with⟨h1,rfl⟩|h|⟨h,rfl,_⟩
 ·rw[h1] at hq;cases b
  ·cases hq
  ·cases hq;exact⟨by decide,by decide,⟨_,rfl⟩,λh=>by cases h⟩
 ·exfalso;unfold ZvM at hq;split at hq
  ·rw[yX (by omega),yX (by omega),yX (by omega)] at hq;cases hq
  ·rw[yX (by omega),yX (by omega)] at hq;cases hq
 ·have h3:(Zny own w rev ow pe ro.2).length=3:=by unfold Zny;split <;> rfl
  have hq2:1<=q.1/\q.1<=2:=by
   unfold ZvM at hq;split at hq
   ·rw[yX (by omega)] at hq;split at hq
    ·cases hq;exact⟨by decide,by decide⟩
    ·split at hq
     ·cases hq;exact⟨by decide,by decide⟩
     ·cases hq
   ·split at hq
    ·cases hq;exact⟨by decide,by decide⟩
    ·split at hq
     ·cases hq;exact⟨by decide,by decide⟩
     ·cases hq
  exact⟨hq2.1,hq2.2,⟨_,yac (by omega)⟩,λ_=>⟨_,yac (by omega)⟩⟩
theorem set_same{α:Type}{l:yL α}{k:Nat}{e:α}(h:l[k]? =some e):l.set k e=l:=by
 apply ybj;intro j;by_cases hj:j=k
 ·subst hj;rw[ycw (yq.1 h).1,h]
 ·rw[ydb (Ne.symm hj)]
theorem Zw2{o:Out}(h:We o.2):QK yD o=some o:=by
 obtain⟨h0,h4,hb⟩:=h
 have hne:¬(o.2.isEmpty=true):=by
  rw[List.isEmpty_iff];intro e;rw[e] at h0;exact absurd h0 (by decide)
 unfold QK ZaV Qs ZaU;rw[yX hne,yX hne,yW (ZU (by omega) (by omega))]
 have e:=Zt (step:=XU yD) o.2.length (λk:Nat=>((o.2.length:Int),(k:Int),o.1,(((0:Int),([]:Z4)):Out),([()]:yL Unit),o.2)) (x:=(o.1,(((0:Int),([]:Z4)):Out),([()]:yL Unit),o.2)) (by
  intro k hk;obtain⟨e,he,hm⟩:=Ze hk;have:=(hb e hm).1;unfold XU Vk;dsimp only;rw[yW (ZF hk),yW (Yc (by omega) (by omega)),ybe,he,ya,yW (ZU (by omega) (by omega)),ya,yW (Yc (by omega) (by omega)),ya,Zp (by omega)];rw[show((e.1,e.2.1,e.2.2.1,e.2.2.2):Branch)=e from rfl,set_same he]) (by
  unfold XU;dsimp only;rw[yX (by rw[ZA];decide)]) (by omega)
 have e:Zb (XU yD) yD ((o.2.length:Int),(0:Int),o.1,(((0:Int),([]:Z4)):Out),([()]:yL Unit),o.2)=_:=e;simp only[Option.map_some,ya];rw[e,ya]
theorem ZKN{ch:Chan}{own:Int}{per:yU}{c:Commit}(w:CmC ch own per c)(hf:ch.1.1.length=32):∃id,id.length=32/\Zp9 yD c.1=some id/\Yx yD c.1=some id/\VK yD c.1=some true/\Zkm yD c.1=some ((yr c.1.2.1.length).map λk:Nat=>(id,(k:Int))):=by
 have hL:TxL c.1:=⟨by rw[w.ins];simp,by have:=w.outs;omega,λo ho=>by
  obtain⟨_,_,⟨h0,h4,hb⟩,_⟩:=w.ok o ho;exact⟨by omega,λb hb'=>by have:=(hb b hb').1;omega⟩⟩
 have hW:ZKt c.1:=⟨λx hx=>by rw[w.ins] at hx;rw[yau.1 hx];exact hf,w.note.2⟩
 have hO:ZIr c.1:=⟨by rw[w.ins];simp,by rw[w.ins];simp,by have:=w.outs;omega,w.note.1,λx hx=>by
  rw[w.ins] at hx;rw[yau.1 hx];have:=w.fund;exact⟨by show 0<=ch.1.2;omega,by show ch.1.2 < 64;omega,show(0:Int)<=0 by decide,show(0:Int) < 4 by decide,by simp⟩,w.ok⟩
 have e:c.1=([(ch.1,(0,[],0))],c.1.2.1,c.1.2.2):=by rw[<-w.ins]
 have hr:VK yD c.1=some true:=by
  rw[e] at hO ⊢;exact ZIu hO w.amt
 obtain⟨id,i1,i2,i3⟩:=ZF7 hL hW;refine⟨id,i3,i1,i2,hr, ?_⟩;unfold Zkm;rw[i1,ya,hr,ya,yX (show¬(!true)=true by decide)];have ho:=w.outs
 have q:=Zt (step:=Zai yD) c.1.2.1.length (λk:Nat=>((c.1.2.1.length:Int),(k:Int),c.1,(yr k).map (λk:Nat=>(id,(k:Int))),id)) (x:=(c.1,(yr c.1.2.1.length).map (λk:Nat=>(id,(k:Int))),id)) (by
  intro k hk;unfold Zai;dsimp only;rw[yW (ZF hk),yW (ZU (by rw[yy,List.length_range];omega) (by rw[yy,List.length_range];omega)),Zp (by omega),List.range_succ,yam];rfl) (by
  unfold Zai;dsimp only;rw[yX (by rw[ZA];decide)]) (by omega)
 have q:Zb (Zai yD) yD ((c.1.2.1.length:Int),(0:Int),c.1,([]:yL ZS),id)=_:=q;rw[q,ya]
end Go.Proofs.YtpgpjjjoglafdaaGreat
end
