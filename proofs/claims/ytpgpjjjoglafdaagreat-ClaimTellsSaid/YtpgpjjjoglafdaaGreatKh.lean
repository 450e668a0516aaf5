/- Parts of the proof, in one file. -/
import Derived.Test.YtpgpjjjoglafdaaGreatKg
open List renaming range → yr, append_nil → yar
open Option renaming bind_some → ya
set_option linter.unusedVariables false
set_option linter.unusedSimpArgs false
section
set_option maxRecDepth 4000
namespace Go.Proofs.YtpgpjjjoglafdaaGreat
open Go Go.Ev
theorem ZBF{o:Out}{b:Int}(h0:0<=b){e:Branch}(he:o.2[b.toNat]? =some e)(h:Int):ZaW yD o b h=some (opF h e):=by
 unfold ZaW idx;rw[yW h0,he,ya];rfl
theorem Zw3(e:Branch)(h:Int):WQ yD e h=some (opF h e):=rfl
theorem ZDn{ch:Chan}{own:Int}{per:yU}{c:Commit}(w:CmC ch own per c){id:yL yB}{known:yL yU}(hk:known.length<=20)(h:Int)(b:Bool)(ch0:Chan)(kit:Kit):
 Zb (Qc yD) yD (h,known,(if b=true then(1:Int) else 0),(yr c.1.2.1.length).map (λk:Nat=>(id,(k:Int))),c.2,(c.2.length:Int),(0:Int),ch0,kit,c,([]:yL Zv))=some (ch0,kit,c,ZrQ id h known b c c.2.length):=by
 have ho:=w.outs;have hs:=w.same;obtain⟨bo,bp,tp,_,_,_,hK⟩:=w.ex;refine Zt c.2.length (λk:Nat=>(h,known,(if b=true then(1:Int) else 0),(yr c.1.2.1.length).map (λk:Nat=>(id,(k:Int))),c.2,(c.2.length:Int),(k:Int),ch0,kit,c,ZrQ id h known b c k)) ?_ ?_ (by omega)
 ·intro k hk;obtain⟨r,hr,_⟩:=Ze hk;obtain⟨o,hoo,hm⟩:=Ze (l:=c.1.2.1) (k:=k) (by omega);have hl:=ZuQ id h known b c k
  have hmade:((yr c.1.2.1.length).map (λk:Nat=>(id,(k:Int))))[k]? =some (id,(k:Int)):=by
   rw[List.getElem?_map,List.getElem?_range (by omega)];rfl
  have ec:ZBE id h known b c k=ZBD id h known b k o r:=by
   unfold ZBE;rw[hoo,ya,hr,ya]
  unfold Qc Zkq;dsimp only;rw[yW (ZF hk),Zl hr,ya,ya,ZI1,Zw1,ec,Zp (by omega)];unfold ZBD
  cases hq:ZvM r.1 b with
  |none=>
   rw[Option.bind_none,Option.toList_none,yar]
   rfl
  |some q=>
   obtain⟨q1,q2,⟨e,he⟩,q3⟩:=ZI5 (hK k o r hoo hr) hq;rw[ya,he,ya];show((idx c.1.2.1 (k:Int)).bind λe488=>_)=_;rw[Zl hoo,ya,Zl hmade,ya,Zw2 (w.ok o hm).2.2.1,ya,ZBF (by omega) he,ya];by_cases hs2:q.2=true
   ·obtain⟨e2,he2⟩:=q3 hs2;rw[yW hs2,yW hs2,ZF8 (by omega),ya]
    cases hsec:ZDm known r.2.2.2.2.1 with
    |none=>
     rw[yW (show(!false)=true by decide),Option.bind_none,Option.toList_none,yar]
    |some s=>
     dsimp only;rw[yX (show¬(!true)=true by decide),ZBF (by decide) (e:=e2) (by exact he2),ya,yW (ZU (by omega) (by omega)),ya,he2,Option.map_some,Option.toList_some]
   ·rw[yX hs2,yX hs2,yW (ZU (by omega) (by omega)),Option.toList_some]
 ·unfold Qc;dsimp only;rw[yX (by rw[ZA];decide)]
theorem ZDo{ch:Chan}{own:Int}{per:yU}{c:Commit}(w:CmC ch own per c){id:yL yB}{known:yL yU}(hk:known.length<=20)(h:Int)(me ow:Int)(ch0:Chan)(kit:Kit):
 Zb (Z0 yD) yD (me,ow,h,known,(0:Int),ch0,kit,c,([]:yL Zv),id)=some (ch0,kit,c,ZrQ id h known (me==ow) c c.2.length,id):=by
 have ho:=w.outs;have hs:=w.same;obtain⟨bo,bp,tp,_,_,_,hK⟩:=w.ex;refine Zt c.2.length (λk:Nat=>(me,ow,h,known,(k:Int),ch0,kit,c,ZrQ id h known (me==ow) c k,id)) ?_ ?_ (by omega)
 ·intro k hk;obtain⟨r,hr,_⟩:=Ze hk;obtain⟨o,hoo,hm⟩:=Ze (l:=c.1.2.1) (k:=k) (by omega);have hl:=ZuQ id h known (me==ow) c k
  have ec:ZBE id h known (me==ow) c k=ZBD id h known (me==ow) k o r:=by
   unfold ZBE;rw[hoo,ya,hr,ya]
  unfold Z0;dsimp only;rw[yW (ZF hk),Zl hr,ya,Zl hoo,ya,ZI2,ya,Zw1,ec,Zp (by omega)];unfold ZBD
  cases hq:ZvM r.1 (me==ow) with
  |none=>
   rw[Option.bind_none,Option.toList_none,yar]
   rfl
  |some q=>
   obtain⟨q1,q2,⟨e,he⟩,q3⟩:=ZI5 (hK k o r hoo hr) hq;dsimp only
   have hidx:idx o.2 q.1=some e:=by
    unfold idx;rw[yW (by omega),he]
   rw[yX (ynd (by omega)),ya,he,ya,hidx,ya,Zw3,ya];by_cases hs2:q.2=true
   ·obtain⟨e2,he2⟩:=q3 hs2;rw[yW hs2,yW hs2,ZF9 (by omega),ya];dsimp only;have hi:Ziq known r.2.2.2.2.1<=known.length:=List.findIdx_le_length
    cases hsec:ZDm known r.2.2.2.2.1 with
    |none=>
     have hs:known[Ziq known r.2.2.2.2.1]? =none:=hsec;have:=List.getElem?_eq_none_iff.1 hs
     rw[yW (beq_iff_eq.2 (by omega)),Option.bind_none,Option.toList_none,yar,Zp (by omega)]
    |some s=>
     have hs:known[Ziq known r.2.2.2.2.1]? =some s:=hsec;have:=(List.getElem?_eq_some_iff.1 hs).1;rw[yX (by rw[yT];omega),Zl hs,ya,show idx o.2 2=some e2 from he2,ya,Zw3,ya,yW (ZU (by omega) (by omega)),ya,he2,Option.map_some,Option.toList_some,Zp (by omega)]
   ·rw[yX hs2,yX hs2,yW (ZU (by omega) (by omega)),Option.toList_some]
 ·unfold Z0;dsimp only;rw[yX (by rw[ZA];decide)]
theorem ZM2{a b:Int}(ha:a=0\/a=1)(hb:b=0\/b=1):wi (1 - bits .xor .i64 a b)=if(a==b)=true then 1 else 0:=by
 rcases ha with rfl|rfl <;> rcases hb with rfl|rfl <;> rfl
noncomputable def ZDp(id:yL yB)(h:Int)(known:yL yU)(me own:Int)(c:Commit):yL Zv:=if(me=0\/me=1)/\0<=h/\h<=1048576 then ZrQ id h known (me==own) c c.2.length else[]
theorem ZI6{ch:Chan}{own:Int}{per:yU}{c:Commit}(w:CmC ch own per c){id:yL yB}(hm:Zkm yD c.1=some ((yr c.1.2.1.length).map λk:Nat=>(id,(k:Int)))){known:yL yU}(hk:known.length<=20){me h:Int}(m0: -9223372036854775808<=me)(m1:me<=9223372036854775807)(ch0:Chan)(kit:Kit):
 ZfR yD ch0 kit me own c per h known=some (ZDp id h known me own c):=by
 have ho:=w.o;unfold ZfR ZDp;rw[Zqn m0 m1,Zqn (by omega) (by omega)];by_cases h1:me=0\/me=1
 ·rw[yY (show 0<=me/\me<=1 by omega),yX (by decide),yY (show 0<=own/\own<=1 by omega),yX (by decide),ZcT,ya,yY w.pt,yX (by decide)];by_cases h2:0<=h
  ·rw[yX (ynd (by omega))];by_cases h3:h<=1048576
   ·rw[yX (ynd (by omega)),hm,ya,ZM2 h1 ho,ZDn w hk,ya,yW ⟨h1,h2,h3⟩]
   ·rw[yW (yY (by omega)),yX λq=>h3 q.2.2]
  ·rw[yW (yY (by omega)),yX λq=>h2 q.2.1]
 ·rw[yZ (show¬(0<=me/\me<=1) by omega),yW (by decide),yX λq=>h1 q.1]
theorem ZI7{ch:Chan}{own:Int}{per:yU}{c:Commit}(w:CmC ch own per c){id:yL yB}(hid:Yx yD c.1=some id){known:yL yU}(hk:known.length<=20)(me h:Int)(ch0:Chan)(kit:Kit):
 Vx yD ch0 kit me own c per h known=some (ZDp id h known me own c):=by
 have ho:=w.o;unfold Vx ZDp;rw[Zls,ya,yY w.pt];simp only[ZDo w hk,hid,ya];by_cases h1:me=0
 ·rw[yX (by rw[h1];decide)];rcases ho with rfl|rfl
  ·rw[yX (by decide),yX (by decide)];by_cases h2:0<=h
   ·rw[yX (ynd (by omega))];by_cases h3:h<=1048576
    ·rw[yX (ynd (by omega)),yW ⟨.inl h1,h2,h3⟩]
    ·rw[yW (yY (by omega)),yX λq=>h3 q.2.2]
   ·rw[yW (yY (by omega)),yX λq=>h2 q.2.1]
  ·rw[yW (by decide),yX (by decide),yX (by decide)];by_cases h2:0<=h
   ·rw[yX (ynd (by omega))];by_cases h3:h<=1048576
    ·rw[yX (ynd (by omega)),yW ⟨.inl h1,h2,h3⟩]
    ·rw[yW (yY (by omega)),yX λq=>h3 q.2.2]
   ·rw[yW (yY (by omega)),yX λq=>h2 q.2.1]
 ·rw[yW (bne_iff_ne.2 h1)];by_cases h11:me=1
  ·rw[yX (by rw[h11];decide)];rcases ho with rfl|rfl
   ·rw[yX (by decide),yX (by decide)];by_cases h2:0<=h
    ·rw[yX (ynd (by omega))];by_cases h3:h<=1048576
     ·rw[yX (ynd (by omega)),yW ⟨.inr h11,h2,h3⟩]
     ·rw[yW (yY (by omega)),yX λq=>h3 q.2.2]
    ·rw[yW (yY (by omega)),yX λq=>h2 q.2.1]
   ·rw[yW (by decide),yX (by decide),yX (by decide)];by_cases h2:0<=h
    ·rw[yX (ynd (by omega))];by_cases h3:h<=1048576
     ·rw[yX (ynd (by omega)),yW ⟨.inr h11,h2,h3⟩]
     ·rw[yW (yY (by omega)),yX λq=>h3 q.2.2]
    ·rw[yW (yY (by omega)),yX λq=>h2 q.2.1]
  ·rw[yW (bne_iff_ne.2 h11),yX λq=>by rcases q.1 with q|q <;> contradiction]
end Go.Proofs.YtpgpjjjoglafdaaGreat
end
