/- Parts of the proof, in one file. -/
import Derived.Test.YtpgpjjjoglafdaaGreatKi
open BitVec renaming ofInt → ybr
open Int renaming toNat_natCast → ybe
open List renaming replicate → yv, length_map → yy, length_take → yaf, take_length → yaj, getElem?_eq_none → yan, append_nil → yar
open Option renaming bind_some → ya, bind_eq_some_iff → yf
set_option linter.unusedVariables false
set_option linter.unusedSimpArgs false
section
set_option maxRecDepth 4000
namespace Go.Proofs.YtpgpjjjoglafdaaGreat
open Go Go.Ev
noncomputable section
def ZY(F:Nat)(s:(Bool×(yL yU)×(yL yU)×Int×Chan×(yL Kit)×yG×Commit)):yO ((Bool×(yL yU)×(yL yU)×Int×Chan×(yL Kit)×yG×Commit)⊕((Bool×Chan×(yL Kit)×yG×Commit)⊕(Bool×Chan×(yL Kit)×yG×Commit))):=
 if(decide (s.2.2.2.1 < (s.2.1.length:Int)))=true then
  (idx s.2.1 s.2.2.2.1).bind λe935=>
  (idx s.2.2.1 s.2.2.2.1).bind λe936=>
  if(e935 !=e936)=true then
   some (.inr (.inl (false,s.2.2.2.2.1,s.2.2.2.2.2.1,s.2.2.2.2.2.2.1,s.2.2.2.2.2.2.2)))
  else
  some (.inl (s.1,s.2.1,s.2.2.1,wi (s.2.2.2.1+1),s.2.2.2.2.1,s.2.2.2.2.2.1,s.2.2.2.2.2.2.1,s.2.2.2.2.2.2.2))
 else
 some (.inr (.inr (s.1,s.2.2.2.2.1,s.2.2.2.2.2.1,s.2.2.2.2.2.2.1,s.2.2.2.2.2.2.2)))
abbrev zH:List ESh:=[.var (.v ZK) true,.var (.v (.arr 2 XW)) true,.var (.v Zy) true,.var (.v ZL) true]
def Qj:Lp:=⟨[(17,.v .bool),(23,.v (.sl .u64)),(24,.v (.sl .u64)),(25,.v yI)],zH,[.bool,(.sl .u64),(.sl .u64),yI,ZK,(.arr 2 XW),Zy,ZL],[⟨.ret,[(16,.v .bool)],zH,[.bool,ZK,(.arr 2 XW),Zy,ZL]⟩,⟨.exit 0,[(17,.v .bool)],zH,[.bool,ZK,(.arr 2 XW),Zy,ZL]⟩],Zb (ZY yD) yD⟩
def ZN1:HI:={ still:=[16,28,29,30,31,35,36,46,49,50,51,52,53,54,55,57,60,61,62,63,64,65,66,70,71,72,73,77,78,79,80,82,83,94,96,101,103,104,105,107,108]}
theorem ZcU:Qj.okA Tryz.prog 3 0:=Zu ZN1 [] [] trivial
def YN(F:Nat)(a0:Chan)(a1:(yL Kit))(a2:yG)(a3:Int)(a4:Int)(a5:yU)(a6:Int)(a7:(yL yU)):yO (Bool):=
 ((some true)).bind λo918=>
 (Wu F a0 a2 a4 a5).bind λo919=>
 (VV F a2 a7).bind λo920=>
 if(!o920)=true then
  some o918
 else
 if(o919.2 !=0)=true then
  some o918
 else
 if(inB (bits .and .i64 a3 1) 2)=true then
  (a1[(bits .and .i64 a3 1).toNat]?).bind λe921=>
  (ZfR F a0 e921 a3 a4 o919.1 a5 a6 a7).bind λo922=>
  if(inB (bits .and .i64 a3 1) 2)=true then
   (a1[(bits .and .i64 a3 1).toNat]?).bind λe923=>
   (Vx F a0 e923 a3 a4 o919.1 a5 a6 a7).bind λo924=>
   if(inB (bits .and .i64 a3 1) 2)=true then
    (a1[(bits .and .i64 a3 1).toNat]?).bind λe925=>
    (ZfS F e925 o919.1 a5 o922).bind λo926=>
    if(inB (bits .and .i64 a3 1) 2)=true then
     (a1[(bits .and .i64 a3 1).toNat]?).bind λe927=>
     (Vz F e927 o919.1 a5 o924).bind λo928=>
     (X4 F o922 o924).bind λo929=>
     if(!o929)=true then
      some false
     else
     if((o926.length:Int)!=(o928.length:Int))=true then
      some false
     else
     (ZfT F o922).bind λo930=>
     (VB F o924).bind λo931=>
     if(o930 !=o931)=true then
      some false
     else
     (ZfU F o922 (wi (a6+9))).bind λo932=>
     (VC F o924 (wi (a6+9))).bind λo933=>
     (X4 F o932 o933).bind λo934=>
     if(!o934)=true then
      some false
     else
     (Zb (ZY F) F (o918,o926,o928,0,a0,a1,a2,o919.1)).bind λo937=>
     match o937 with
     |.inl o938=>
      some o938.1
     |.inr o939=>
      some o939.1
    else
    none
   else
   none
  else
  none
 else
 none
def Ze6(F:Nat):Fs Tryz.prog:=⟨3,[.v ZK,.v (.arr 2 XW),.v Zy,.v yI,.v yI,.v .u64,.v yI,.v (.sl .u64)],[],[ZK,(.arr 2 XW),Zy,yI,yI,.u64,yI,(.sl .u64)],(zN .bool),λx=>YN F x.1 x.2.1 x.2.2.1 x.2.2.2.1 x.2.2.2.2.1 x.2.2.2.2.2.1 x.2.2.2.2.2.2.1 x.2.2.2.2.2.2.2⟩
def Zfj:Fs Tryz.prog:=Ze6 yD
theorem Ze7:Zfj.Ok:=fnO ZN1 [(0,Qj)] [ZLf,Zmj,ZeY,ZoO,Zdh,ZoU,Zdj,Zdl,ZoV,Zdm,ZoW,Zdn] ⟨ZM5,Zkj,ZlG,Zmn,ZkL,Zmp,ZkP,ZkT,Zmr,ZkV,Zmu,ZkX,ytt⟩ ⟨ZcU,ytt⟩
end
end Go.Proofs.YtpgpjjjoglafdaaGreat
end
section
set_option maxRecDepth 4000
namespace Go.Proofs.YtpgpjjjoglafdaaGreat
open Go Go.Ev
def ZBG(l:yL Zv):Prop:=l.length<=20/\∀x,x∈l->We x.2.1.2
theorem ZKP{id:yL yB}{h:Int}{known:yL yU}{b:Bool}{c:Commit}{n:Nat}{x:Zv}(hx:x∈ZrQ id h known b c n):∃k o r,k < n/\c.1.2.1[k]? =some o/\c.2[k]? =some r/\ZBD id h known b k o r=some x:=by
 unfold ZrQ at hx;obtain⟨k,hk,hx⟩:=List.mem_filterMap.1 hx;unfold ZBE at hx;obtain⟨o,ho,hx⟩:=yf.1 hx;obtain⟨r,hr,hx⟩:=yf.1 hx;exact⟨k,o,r,List.mem_range.1 hk,ho,hr,hx⟩
theorem ZKQ{id:yL yB}{h:Int}{known:yL yU}{b:Bool}{k:Nat}{o:Out}{r:ZbS}{x:Zv}(hx:ZBD id h known b k o r=some x):x.1=(id,(k:Int))/\x.2.1=o:=by
 unfold ZBD at hx;obtain⟨q,hq,hx⟩:=yf.1 hx;obtain⟨e,he,hx⟩:=yf.1 hx;split at hx
 ·obtain⟨s,hs,hx⟩:=yf.1 hx;obtain⟨e2,he2,hx⟩:=Option.map_eq_some_iff.1 hx;rw[<-hx];exact⟨rfl,rfl⟩
 ·cases hx;exact⟨rfl,rfl⟩
theorem ZM6{ch:Chan}{own:Int}{per:yU}{c:Commit}(w:CmC ch own per c)(id:yL yB)(h:Int)(known:yL yU)(me:Int):ZBG (ZDp id h known me own c):=by
 have ho:=w.outs;have hs:=w.same;unfold ZDp;split
 ·refine⟨Nat.le_trans (ZuQ ..) (by omega),λx hx=> ?_⟩;obtain⟨k,o,r,hk,h1,h2,h3⟩:=ZKP hx;rw[(ZKQ h3).2];exact(w.ok o (List.mem_of_getElem? h1)).2.2.1
 ·exact⟨by simp,λx hx=>by cases hx⟩
theorem ZM7{l:Z4}(h:We l):VA yD l l=some true:=by
 obtain⟨_,h4,hb⟩:=h;unfold VA;rw[yX (by simp)]
 have e:=Zt (step:=YI yD) l.length (λk:Nat=>((k:Int),l,l)) (x:=.inr (l,l)) (by
  intro k hk;obtain⟨b,hbk,hm⟩:=Ze hk;have hb12:=(hb b hm).1
  have e1:=Zt (step:=YH yD) b.1.length (λj:Nat=>((k:Int),(j:Int),l,l,b,b)) (x:=.inr ((k:Int),l,l,b,b)) (by
   intro j hj;obtain⟨p,hp,_⟩:=Ze hj;unfold YH;dsimp only;rw[yW (ZF hj),Zl hp,ya,ya,yX (by simp),Zp (by omega)]) (by
   unfold YH;dsimp only;rw[yX (by rw[ZA];decide)]) (by omega)
  have e1:Zb (YH yD) yD ((k:Int),(0:Int),l,l,b,b)=_:=e1;unfold YI;dsimp only;rw[yW (ZF hk),Zl hbk,ya,ya,yX (by simp),yX (by simp),yX (by simp),yX (by simp),e1,ya];dsimp only;rw[Zp (by omega)]) (by
  unfold YI;dsimp only;rw[yX (by rw[ZA];decide)]) (by omega)
 have e:Zb (YI yD) yD ((0:Int),l,l)=_:=e;rw[e,ya]
theorem ZI9{l:yL Zv}(h:ZBG l):X4 yD l l=some true:=by
 obtain⟨h20,hk⟩:=h;unfold X4;rw[yX (by simp)]
 have e:=Zt (step:=YJ yD) l.length (λk:Nat=>(l,l,(k:Int))) (x:=.inr ()) (by
  intro k hk2;obtain⟨x,hx,hm⟩:=Ze hk2;unfold YJ;dsimp only;rw[yW (ZF hk2),Zl hx,ya,ya,yX (by simp),yX (by simp),ZM7 (hk x hm),ya,yX (by simp),yX (by simp),yX (by simp),yX (by simp),yX (by simp),Zp (by omega)]) (by
  unfold YJ;dsimp only;rw[yX (by rw[ZA];decide)]) (by omega)
 have e:Zb (YJ yD) yD (l,l,(0:Int))=_:=e;rw[e,ya]
noncomputable def msF(a p:yU):yU:=UInt64.ofNat ((a.toNat+(ZFV ZAR p (B a.toNat)).toNat) % ord)
theorem ZLg(a p:yU):VF yD a p=some (msF a p):=by
 unfold VF;rw[Zr7,ya,Zy6 (by decide),ya,ZEy,ya];rfl
theorem ZJa(a p:yU):Y3 yD a p=some (msF a p):=by
 unfold Y3;rw[ZuB,ya,ZKC (by decide),ya,ZKy,ya];rfl
noncomputable def kyF(kit:Kit)(c:Commit)(per:yU)(x:Zv):yU:=
 if x.1.2 < 0 then 0 else match c.2[x.1.2.toNat]? with|none=>0|some r=>if r.1=1 then msF kit.2.2.1 per else msF kit.2.2.2.1 per
theorem ZJb(kit:Kit)(c:Commit)(per:yU){l:yL Zv}(h:l.length<=20)(hc:c.2.length<=100):ZfS yD kit c per l=some (l.map (kyF kit c per)):=by
 unfold ZfS
 have q:((decide ((l.length:Int)=(l.length:Int)))&&(ZgO (l.length:Int) 8))=true:=by
  rw[yY rfl,Bool.true_and];unfold ZgO ZzS;rw[yY (show(0:Int)<=(l.length:Int) by omega),Bool.true_and,ybe];rw[Bool.and_eq_true,yN,yN];simp only[Zm,maxLen];omega
 rw[yW q,ybe]
 have e:=Zt (step:=W3 yD) l.length (λk:Nat=>(per,l,(l.length:Int),(k:Int),kit,c,([]:yL Unit),(l.take k).map (kyF kit c per)++yv (l.length - k) (0:yU))) (x:=(kit,c,([]:yL Unit),l.map (kyF kit c per))) (by
  intro k hk;obtain⟨x,hx,_⟩:=Ze hk
  have zW:((l.take k).map (kyF kit c per)++yv (l.length - k) (0:yU)).length=l.length:=by
   rw[List.length_append,yy,yaf,List.length_replicate];omega
  have yM:yv (l.length - k) (0:yU)=0::yv (l.length - (k+1)) 0:=by
   rw[show l.length - k=(l.length - (k+1))+1 by omega,List.replicate_succ]
  have hat:((l.take k).map (kyF kit c per)++yv (l.length - k) (0:yU))[k]? =some 0:=by
   rw[List.getElem?_append_right (by rw[yy,yaf];omega),yM,yy,yaf,show k - min k l.length=0 by omega];rfl
  have hset:∀v,((l.take k).map (kyF kit c per)++yv (l.length - k) (0:yU)).set k v=(l.take k).map (kyF kit c per)++v::yv (l.length - (k+1)) 0:=by
   intro v;rw[List.set_append_right _ _ (by rw[yy,yaf];omega),yM,yy,yaf,show k - min k l.length=0 by omega];rfl
  have hnext:(l.take (k+1)).map (kyF kit c per)++yv (l.length - (k+1)) (0:yU)=(l.take k).map (kyF kit c per)++kyF kit c per x::yv (l.length - (k+1)) 0:=by
   rw[WM hx,List.map_append,List.append_assoc];rfl
  unfold W3;dsimp only;rw[yW (ZF hk),Zl hx,ya,hnext,Zp (by omega)];rw[show kyF kit c per x=(if x.1.2 < 0 then 0 else match c.2[x.1.2.toNat]? with|none=>0|some r=>if r.1=1 then msF kit.2.2.1 per else msF kit.2.2.2.1 per) from rfl]
  by_cases h0:x.1.2 < 0
  ·rw[yW (yY h0),yW h0,yM]
  ·rw[yX (by rw[yN];exact h0),yX h0];by_cases h1:x.1.2 >= (c.2.length:Int)
   ·rw[yW (yY h1),yan (by omega),yM]
   ·rw[yX (by rw[yN];exact h1)];obtain⟨r,hr,_⟩:=Ze (l:=c.2) (k:=x.1.2.toNat) (by omega)
    have hi:idx c.2 x.1.2=some r:=by
     unfold idx;rw[yW (by omega),hr]
    rw[hi,ya,hr];dsimp only;by_cases h2:r.1=1
    ·rw[yW (beq_iff_eq.2 h2),yW h2,ZLg,ya,zW,yW (Yc (by omega) (by omega)),ybe,hat,ya,hset]
    ·rw[yX (by rw[yT];exact h2),yX h2,ZLg,ya,zW,yW (Yc (by omega) (by omega)),ybe,hat,ya,hset]) (by
  unfold W3;dsimp only;rw[yX (by rw[ZA];decide),yaj,Nat.sub_self,List.replicate_zero,yar]) (by omega)
 have e:Zb (W3 yD) yD (per,l,(l.length:Int),(0:Int),kit,c,([]:yL Unit),([]:yL yU)++yv (l.length - 0) (0:yU))=_:=e;rw[List.nil_append,Nat.sub_zero] at e;rw[e,ya]
theorem ZJc(kit:Kit)(c:Commit)(per:yU){l:yL Zv}(h:l.length<=20)(hc:c.2.length<=100):Vz yD kit c per l=some (l.map (kyF kit c per)):=by
 unfold Vz
 have e:=Zt (step:=YG yD) l.length (λk:Nat=>(per,l,(k:Int),kit,c,(l.take k).map (kyF kit c per))) (x:=(kit,c,l.map (kyF kit c per))) (by
  intro k hk;obtain⟨x,hx,_⟩:=Ze hk
  have zW:((l.take k).map (kyF kit c per)).length=k:=by
   rw[yy,yaf];omega
  have hap:apB ((l.take k).map (kyF kit c per)).length 1 8=true:=ZU (by omega) (by omega);unfold YG;dsimp only;rw[yW (ZF hk),Zl hx,ya,WM hx,List.map_append,List.map_cons,List.map_nil,Zp (by omega)];rw[show kyF kit c per x=(if x.1.2 < 0 then 0 else match c.2[x.1.2.toNat]? with|none=>0|some r=>if r.1=1 then msF kit.2.2.1 per else msF kit.2.2.2.1 per) from rfl]
  by_cases h0:x.1.2 < 0
  ·rw[yW (yY h0),yW h0,yW hap]
  ·rw[yX (by rw[yN];exact h0),yX h0];by_cases h1:x.1.2 >= (c.2.length:Int)
   ·rw[yW (yY h1),yan (by omega),yW hap]
   ·rw[yX (by rw[yN];exact h1)];obtain⟨r,hr,_⟩:=Ze (l:=c.2) (k:=x.1.2.toNat) (by omega)
    have hi:idx c.2 x.1.2=some r:=by
     unfold idx;rw[yW (by omega),hr]
    rw[hi,ya,hr];dsimp only;by_cases h2:r.1=1
    ·rw[yW (beq_iff_eq.2 h2),yW h2,ZJa,ya,yW hap]
    ·rw[yX (by rw[yT];exact h2),yX h2,ZJa,ya,yW hap]) (by
  unfold YG;dsimp only;rw[yX (by rw[ZA];decide),yaj]) (by omega)
 have e:Zb (YG yD) yD (per,l,(0:Int),kit,c,([]:yL yU))=_:=e;rw[e,ya]
def Zpe(l:yL Zv):Int:=l.foldl (λn x=>ZzR n x.2.2.2.2.1) 0
theorem ZEN{l:yL Zv}{k:Nat}{x:Zv}(h:l[k]? =some x):Zpe (l.take (k+1))=ZzR (Zpe (l.take k)) x.2.2.2.2.1:=by
 unfold Zpe;rw[WM h,List.foldl_append];rfl
theorem ZBH{l:yL Zv}(h:l.length<=20):ZfT yD l=some (Zpe l)/\VB yD l=some (Zpe l):=by
 constructor
 ·unfold ZfT
  have e:=Zt (step:=W4 yD) l.length (λk:Nat=>(Zpe (l.take k),l,(l.length:Int),(k:Int))) (x:=Zpe l) (by
   intro k hk;obtain⟨x,hx,_⟩:=Ze hk;unfold W4;dsimp only;rw[yW (ZF hk),Zl hx,ya,ZEN hx,Zp (by omega)]) (by
   unfold W4;dsimp only;rw[yX (by rw[ZA];decide),yaj]) (by omega)
  have e:Zb (W4 yD) yD ((0:Int),l,(l.length:Int),(0:Int))=_:=e;rw[e,ya]
 ·unfold VB
  have e:=Zt (step:=YK yD) l.length (λk:Nat=>(l,Zpe (l.take k),(k:Int))) (x:=Zpe l) (by
   intro k hk;obtain⟨x,hx,_⟩:=Ze hk;unfold YK;dsimp only;rw[yW (ZF hk),Zl hx,ya,ZEN hx,Zp (by omega)]) (by
   unfold YK;dsimp only;rw[yX (by rw[ZA];decide),yaj]) (by omega)
  have e:Zb (YK yD) yD (l,(0:Int),(0:Int))=_:=e;rw[e,ya]
def Zk2(at_:Int)(x:Zv):Bool:=decide (x.2.2.2.2.1<=at_/\(x.2.2.2.2.2=0\/at_ < x.2.2.2.2.2))
theorem ZBI(x:Zv)(t:Int):ZdR yD x t=some (Zk2 t x)/\WT yD x t=some (Zk2 t x):=by
 unfold ZdR WT Zk2;by_cases h1:x.2.2.2.2.1<=t
 ·have h1':t >= x.2.2.2.2.1:=h1;simp only[yY h1,yY h1',if_true];by_cases h2:x.2.2.2.2.2=0
  ·simp only[yW (beq_iff_eq.2 h2),yY (show x.2.2.2.2.1<=t/\(x.2.2.2.2.2=0\/t < x.2.2.2.2.2) from⟨h1,.inl h2⟩)]
   exact⟨zP,ytt⟩
  ·have h2':¬(x.2.2.2.2.2==0)=true:=by rw[yT];exact h2
   simp only[yX h2'];refine⟨congrArg some (decide_eq_decide.2 ?_),congrArg some (decide_eq_decide.2 ?_)⟩
   ·exact⟨λh=>⟨h1,.inr h⟩,λh=>h.2.resolve_left h2⟩
   ·exact⟨λh=>⟨h1,.inr h⟩,λh=>h.2.resolve_left h2⟩
 ·have h1':¬(t >= x.2.2.2.2.1):=h1;simp only[yZ h1,yZ h1',yZ (show¬(x.2.2.2.2.1<=t/\(x.2.2.2.2.2=0\/t < x.2.2.2.2.2)) from λh=>h1 h.1)]
  exact⟨rfl,rfl⟩
theorem Zw4{l:yL Zv}{k:Nat}{x:Zv}(t:Int)(h:l[k]? =some x):(l.take (k+1)).filter (Zk2 t)=(l.take k).filter (Zk2 t)++(if Zk2 t x=true then[x] else[]):=by
 rw[WM h,List.filter_append];congr 1;rw[List.filter_cons,List.filter_nil]
theorem ZEO{l:yL Zv}(h:ZBG l)(t:Int):ZfU yD l t=some (l.filter (Zk2 t))/\VC yD l t=some (l.filter (Zk2 t)):=by
 obtain⟨h20,hk⟩:=h
 have hln:∀k,((l.take k).filter (Zk2 t)).length<=20:=λk=>by
  have h1:=List.length_filter_le (Zk2 t) (l.take k);rw[yaf] at h1;omega
 constructor
 ·unfold ZfU
  have e:=Zt (step:=W5 yD) l.length (λk:Nat=>(t,l,(l.length:Int),(k:Int),(l.take k).filter (Zk2 t))) (x:=l.filter (Zk2 t)) (by
   intro k hk2;obtain⟨x,hx,hm⟩:=Ze hk2;have:=hln k;unfold W5;dsimp only;rw[yW (ZF hk2),Zl hx,ya,(ZBI x t).1,ya,Zw4 t hx,Zp (by omega)];by_cases ha:Zk2 t x=true
   ·rw[yW ha,yW ha,Zw2 (hk x hm),ya,yW (ZU (by omega) (by omega))]
   ·rw[yX ha,yX ha,yar]) (by
   unfold W5;dsimp only;rw[yX (by rw[ZA];decide),yaj]) (by omega)
  have e:Zb (W5 yD) yD (t,l,(l.length:Int),(0:Int),([]:yL Zv))=_:=e;rw[e,ya]
 ·unfold VC
  have e:=Zt (step:=YL yD) l.length (λk:Nat=>(l,t,(k:Int),(l.take k).filter (Zk2 t))) (x:=l.filter (Zk2 t)) (by
   intro k hk2;obtain⟨x,hx,hm⟩:=Ze hk2;have:=hln k;unfold YL;dsimp only;rw[yW (ZF hk2),Zl hx,ya,(ZBI x t).2,ya,Zw4 t hx,Zp (by omega)];by_cases ha:Zk2 t x=true
   ·rw[yW ha,yW ha,ya,yW (ZU (by omega) (by omega))]
   ·rw[yX ha,yX ha,yar]) (by
   unfold YL;dsimp only;rw[yX (by rw[ZA];decide),yaj]) (by omega)
  have e:Zb (YL yD) yD (l,t,(0:Int),([]:yL Zv))=_:=e;rw[e,ya]
theorem ZKR{l:yL Zv}(h:ZBG l)(t:Int):ZBG (l.filter (Zk2 t)):=⟨Nat.le_trans (List.length_filter_le _ _) h.1,λx hx=>h.2 x (List.mem_filter.1 hx).1⟩
theorem ZKS(m:Int):bits .and .i64 m 1=0\/bits .and .i64 m 1=1:=by
 have e:bits .and .i64 m 1=IntKind.i64.wrap ((ybr 64 m&&&1#64).toNat:Int):=rfl;rw[e,BitVec.toNat_and];have h:(1#64).toNat=1:=rfl;rw[h,Nat.and_one_is_mod];rcases (show(ybr 64 m).toNat % 2=0\/(ybr 64 m).toNat % 2=1 by omega) with h|h <;> rw[h]
 ·exact .inl rfl
 ·exact .inr rfl
theorem ZM8(s:yG)(known:yL yU):∃b,VV yD s known=some b/\(b=true->known.length<=20):=by
 unfold VV;by_cases h:(s.2.2.1.length:Int)<=20
 ·rw[yW (yY h)];exact⟨_,rfl,λq=>by have:=yF q;omega⟩
 ·rw[yX (by rw[yN];exact h)];exact⟨false,rfl,λq=>absurd q (by decide)⟩
theorem ZGa{ch:Chan}(w:ChWf ch)(hf:ch.1.1.length=32){kits:yL Kit}(hk:kits.length=2){s:yG}(hs:s.2.1.length=2){me:Int}(m0: -9223372036854775808<=me)(m1:me<=9223372036854775807)(own:Int)(per:yU)(h:Int)(known:yL yU):
 YN yD ch kits s me own per h known=some true:=by
 obtain⟨c,e,hm,hc⟩:=ZKM w hs own per;obtain⟨b,hb,hfew⟩:=ZM8 s known;unfold YN;rw[ya,hm,ya,hb,ya]
 cases b with
 |false=>rw[yW (by decide)]
 |true=>
  rw[yX (by decide)];by_cases he:e=0
  ·rw[yX (show¬((e !=0)=true) by rw[he];decide)];have hC:=hc he;have hkn:=hfew rfl;have hro:c.2.length<=100:=by have:=hC.outs;have:=hC.same;omega
   obtain⟨id,i0,i1,i2,i3,i4⟩:=ZKN hC hf
   have hi:inB (bits .and .i64 me 1) 2=true/\∃kit,kits[(bits .and .i64 me 1).toNat]? =some kit:=by
    rcases ZKS me with h|h <;> rw[h]
    ·obtain⟨kit,hkit,_⟩:=Ze (l:=kits) (k:=0) (by omega);exact⟨by decide,kit,hkit⟩
    ·obtain⟨kit,hkit,_⟩:=Ze (l:=kits) (k:=1) (by omega);exact⟨by decide,kit,hkit⟩
   obtain⟨hi,kit,hkit⟩:=hi;have hL:=ZM6 hC id h known me;have hR:=ZKR hL (wi (h+9));simp only[hi,if_true,hkit,ya,ZI6 hC i4 hkn m0 m1,ZI7 hC i2 hkn];generalize ZDp id h known me own c=l at hL hR;rw[ZJb kit c per hL.1 hro,ya,ZJc kit c per hL.1 hro,ya,ZI9 hL,ya,yX (by decide),yX (by simp),(ZBH hL.1).1,ya,(ZBH hL.1).2,ya,yX (by simp),(ZEO hL _).1,ya,(ZEO hL _).2,ya,ZI9 hR,ya,yX (by decide)];have hl:(l.map (kyF kit c per)).length<=20:=by rw[yy];exact hL.1
   generalize l.map (kyF kit c per)=ks at hl
   have e:=Zt (step:=ZY yD) ks.length (λk:Nat=>(true,ks,ks,(k:Int),ch,kits,s,c)) (x:=.inr (true,ch,kits,s,c)) (by
    intro k hk;obtain⟨x,hx,_⟩:=Ze hk;unfold ZY;dsimp only;rw[yW (ZF hk),Zl hx,ya,ya,yX (by simp),Zp (by omega)]) (by
    unfold ZY;dsimp only;rw[yX (by rw[ZA];decide)]) (by omega)
   have e:Zb (ZY yD) yD (true,ks,ks,(0:Int),ch,kits,s,c)=_:=e;rw[e,ya]
  ·rw[yW (show(e !=0)=true from bne_iff_ne.2 he)]
end Go.Proofs.YtpgpjjjoglafdaaGreat
end
