/- Parts of the proof, in one file. -/
import Derived.Test.YtpgpjjjoglafdaaGreatKh
open Go.Proofs.Tryz renaming prog → yb
open List renaming getElem?_eq_some_iff → yq
open Option renaming bind_some → ya, bind_eq_some_iff → yf
set_option linter.unusedVariables false
set_option linter.unusedSimpArgs false
section
set_option maxRecDepth 4000
namespace Go.Proofs.YtpgpjjjoglafdaaGreat
open Go Go.Ev
noncomputable section
abbrev zJ:=Chan×(yL Kit)×yG×Commit×(yL (yL ZL))
abbrev dT7:Type:=(Int×yU×Int×(yL yU)×Bool×Int×zJ)
def Zv(F:Nat)(s:dT7):yO (dT7⊕(Int×(yL yU)×Bool×zJ)):=
 if(decide (s.2.2.2.2.2.1 < 2))=true then
  if(inB s.2.2.2.2.2.1 2)=true then
   (s.2.2.2.2.2.2.2.1[s.2.2.2.2.2.1.toNat]?).bind λe943=>
   (Zdv F s.2.2.2.2.2.2.1 e943 s.2.2.2.2.2.1 s.1 s.2.2.2.2.2.2.2.2.2.1 s.2.1 s.2.2.1 s.2.2.2.1).bind λo944=>
   if(inB s.2.2.2.2.2.1 2)=true then
    (s.2.2.2.2.2.2.2.2.2.2[s.2.2.2.2.2.1.toNat]?).bind λe945=>
    let y946:(yL (yL ZL)):=s.2.2.2.2.2.2.2.2.2.2.set s.2.2.2.2.2.1.toNat o944
    some (.inl (s.1,s.2.1,s.2.2.1,s.2.2.2.1,s.2.2.2.2.1,wi (s.2.2.2.2.2.1+1),s.2.2.2.2.2.2.1,s.2.2.2.2.2.2.2.1,s.2.2.2.2.2.2.2.2.1,s.2.2.2.2.2.2.2.2.2.1,y946))
   else
   none
  else
  none
 else
 some (.inr (s.1,s.2.2.2.1,s.2.2.2.2.1,s.2.2.2.2.2.2.1,s.2.2.2.2.2.2.2.1,s.2.2.2.2.2.2.2.2.1,s.2.2.2.2.2.2.2.2.2.1,s.2.2.2.2.2.2.2.2.2.2))
abbrev ZJR:yL Ty:=[yI,.u64,yI,(.sl .u64),.bool,yI,ZJ,(.arr 2 WE),Zq,Z0,(.arr 2 (.sl Zu))]
abbrev zE:List ESh:=[.var (.v ZJ) true,.var (.v (.arr 2 WE)) true,.var (.v Zq) true,.var (.v Z0) true,.var (.v (.arr 2 (.sl Zu))) true]
def Vf:Lp:=⟨[(3,.v yI),(4,.v .u64),(5,.v yI),(6,.v (.sl .u64)),(7,.ref 0 []),(8,.ref 1 []),(15,.v .bool),(16,.ref 3 []),(18,.ref 4 []),(19,.v yI)],zE,ZJR,[⟨.exit 0,[(3,.v yI),(6,.v (.sl .u64)),(15,.v .bool),(16,.ref 3 []),(18,.ref 4 [])],zE,[yI,(.sl .u64),.bool,ZJ,(.arr 2 WE),Zq,Z0,(.arr 2 (.sl Zu))]⟩],Zc (Zv yD) yD⟩
def ZIT:HI:={ still:=[14,30,31,32,33,37,38,59,62,63,64,65,66,67,68,85,86,91,92,117,118,125,126,133,136,178]}
theorem Za1:Vf.okA yb 4 0:=ZN ZIT [] [Zk5] ⟨ZiH,ytt⟩
def ZI(F:Nat)(s:(Int×(yL yU)×Bool×Int×zJ)):yO ((Int×(yL yU)×Bool×Int×zJ)⊕((Bool×zJ)⊕(Bool×zJ))):=
 let y948:Bool:=decide (s.2.2.2.1 < (s.2.2.2.2.2.2.2.1.2.length:Int))
 if y948=true then
  (idx s.2.2.2.2.2.2.2.1.2 s.2.2.2.1).bind λe949=>
  if(inB s.1 2)=true then
   (s.2.2.2.2.2.2.2.2[s.1.toNat]?).bind λe950=>
   (ZF F e950 s.2.2.2.1).bind λo951=>
   if(inB (wi (1 - s.1)) 2)=true then
    (s.2.2.2.2.2.2.2.2[(wi (1 - s.1)).toNat]?).bind λe952=>
    (ZF F e952 s.2.2.2.1).bind λo953=>
    if(e949.1==1)=true then
     if(decide (o951 < 0))=true then
      some (.inr (.inl (false,s.2.2.2.2.1,s.2.2.2.2.2.1,s.2.2.2.2.2.2.1,s.2.2.2.2.2.2.2.1,s.2.2.2.2.2.2.2.2)))
     else
     if(decide (o953 >= 0))=true then
      some (.inr (.inl (false,s.2.2.2.2.1,s.2.2.2.2.2.1,s.2.2.2.2.2.2.1,s.2.2.2.2.2.2.2.1,s.2.2.2.2.2.2.2.2)))
     else
     some (.inl (s.1,s.2.1,s.2.2.1,wi (s.2.2.2.1+1),s.2.2.2.2.1,s.2.2.2.2.2.1,s.2.2.2.2.2.2.1,s.2.2.2.2.2.2.2.1,s.2.2.2.2.2.2.2.2))
    else
    if(e949.1==5)=true then
     if(inB e949.2.1 2)=true then
      (s.2.2.2.2.2.2.2.2[e949.2.1.toNat]?).bind λe954=>
      (ZF F e954 s.2.2.2.1).bind λo955=>
      if(inB (wi (1 - e949.2.1)) 2)=true then
       (s.2.2.2.2.2.2.2.2[(wi (1 - e949.2.1)).toNat]?).bind λe956=>
       (ZF F e956 s.2.2.2.1).bind λo957=>
       if(decide (o955 < 0))=true then
        some (.inr (.inl (false,s.2.2.2.2.1,s.2.2.2.2.2.1,s.2.2.2.2.2.2.1,s.2.2.2.2.2.2.2.1,s.2.2.2.2.2.2.2.2)))
       else
       (YQ F s.2.1 e949.2.2.2.2.1).bind λo958=>
       if(!((decide (o957 >= 0))==o958))=true then
        some (.inr (.inl (false,s.2.2.2.2.1,s.2.2.2.2.2.1,s.2.2.2.2.2.2.1,s.2.2.2.2.2.2.2.1,s.2.2.2.2.2.2.2.2)))
       else
       if(decide (o957 >= 0))=true then
        if(inB e949.2.1 2)=true then
         (s.2.2.2.2.2.2.2.2[e949.2.1.toNat]?).bind λe959=>
         (idx e959 o955).bind λe960=>
         if(inB (wi (1 - e949.2.1)) 2)=true then
          (s.2.2.2.2.2.2.2.2[(wi (1 - e949.2.1)).toNat]?).bind λe961=>
          (idx e961 o957).bind λe962=>
          if(e962.2.2.2.2.2 !=e960.2.2.2.2.1)=true then
           some (.inr (.inl (false,s.2.2.2.2.1,s.2.2.2.2.2.1,s.2.2.2.2.2.2.1,s.2.2.2.2.2.2.2.1,s.2.2.2.2.2.2.2.2)))
          else
          if(e960.2.2.2.2.2 !=0)=true then
           some (.inr (.inl (false,s.2.2.2.2.1,s.2.2.2.2.2.1,s.2.2.2.2.2.2.1,s.2.2.2.2.2.2.2.1,s.2.2.2.2.2.2.2.2)))
          else
          if(e960.2.2.1==e962.2.2.1)=true then
           some (.inr (.inl (false,s.2.2.2.2.1,s.2.2.2.2.2.1,s.2.2.2.2.2.2.1,s.2.2.2.2.2.2.2.1,s.2.2.2.2.2.2.2.2)))
          else
          (ZO F e962.2.2.2.1).bind λo963=>
          if(o963 !=e949.2.2.2.2.1)=true then
           some (.inr (.inl (false,s.2.2.2.2.1,s.2.2.2.2.2.1,s.2.2.2.2.2.2.1,s.2.2.2.2.2.2.2.1,s.2.2.2.2.2.2.2.2)))
          else
          if(decide (e960.2.2.2.2.1 < e949.2.2.2.2.2))=true then
           some (.inr (.inl (false,s.2.2.2.2.1,s.2.2.2.2.2.1,s.2.2.2.2.2.2.1,s.2.2.2.2.2.2.2.1,s.2.2.2.2.2.2.2.2)))
          else
          some (.inl (s.1,s.2.1,s.2.2.1,wi (s.2.2.2.1+1),s.2.2.2.2.1,s.2.2.2.2.2.1,s.2.2.2.2.2.2.1,s.2.2.2.2.2.2.2.1,s.2.2.2.2.2.2.2.2))
         else
         none
        else
        none
       else
       some (.inl (s.1,s.2.1,s.2.2.1,wi (s.2.2.2.1+1),s.2.2.2.2.1,s.2.2.2.2.2.1,s.2.2.2.2.2.2.1,s.2.2.2.2.2.2.2.1,s.2.2.2.2.2.2.2.2))
      else
      none
     else
     none
    else
    if(e949.1==6)=true then
     if(inB e949.2.1 2)=true then
      (s.2.2.2.2.2.2.2.2[e949.2.1.toNat]?).bind λe964=>
      (ZF F e964 s.2.2.2.1).bind λo965=>
      if(inB (wi (1 - e949.2.1)) 2)=true then
       (s.2.2.2.2.2.2.2.2[(wi (1 - e949.2.1)).toNat]?).bind λe966=>
       (ZF F e966 s.2.2.2.1).bind λo967=>
       if(decide (o965 < 0))=true then
        some (.inr (.inl (false,s.2.2.2.2.1,s.2.2.2.2.2.1,s.2.2.2.2.2.2.1,s.2.2.2.2.2.2.2.1,s.2.2.2.2.2.2.2.2)))
       else
       (YQ F s.2.1 e949.2.2.2.2.1).bind λo968=>
       if(!((decide (o967 >= 0))==o968))=true then
        some (.inr (.inl (false,s.2.2.2.2.1,s.2.2.2.2.2.1,s.2.2.2.2.2.2.1,s.2.2.2.2.2.2.2.1,s.2.2.2.2.2.2.2.2)))
       else
       if(decide (o967 >= 0))=true then
        if(inB e949.2.1 2)=true then
         (s.2.2.2.2.2.2.2.2[e949.2.1.toNat]?).bind λe969=>
         (idx e969 o965).bind λe970=>
         if(inB (wi (1 - e949.2.1)) 2)=true then
          (s.2.2.2.2.2.2.2.2[(wi (1 - e949.2.1)).toNat]?).bind λe971=>
          (idx e971 o967).bind λe972=>
          if(e972.2.2.2.2.2 !=e970.2.2.2.2.1)=true then
           some (.inr (.inl (false,s.2.2.2.2.1,s.2.2.2.2.2.1,s.2.2.2.2.2.2.1,s.2.2.2.2.2.2.2.1,s.2.2.2.2.2.2.2.2)))
          else
          if(e970.2.2.2.2.2 !=0)=true then
           some (.inr (.inl (false,s.2.2.2.2.1,s.2.2.2.2.2.1,s.2.2.2.2.2.2.1,s.2.2.2.2.2.2.2.1,s.2.2.2.2.2.2.2.2)))
          else
          if(e970.2.2.1==e972.2.2.1)=true then
           some (.inr (.inl (false,s.2.2.2.2.1,s.2.2.2.2.2.1,s.2.2.2.2.2.2.1,s.2.2.2.2.2.2.2.1,s.2.2.2.2.2.2.2.2)))
          else
          (ZO F e972.2.2.2.1).bind λo973=>
          if(o973 !=e949.2.2.2.2.1)=true then
           some (.inr (.inl (false,s.2.2.2.2.1,s.2.2.2.2.2.1,s.2.2.2.2.2.2.1,s.2.2.2.2.2.2.2.1,s.2.2.2.2.2.2.2.2)))
          else
          if(decide (e970.2.2.2.2.1 < e949.2.2.2.2.2))=true then
           some (.inr (.inl (false,s.2.2.2.2.1,s.2.2.2.2.2.1,s.2.2.2.2.2.2.1,s.2.2.2.2.2.2.2.1,s.2.2.2.2.2.2.2.2)))
          else
          some (.inl (s.1,s.2.1,s.2.2.1,wi (s.2.2.2.1+1),s.2.2.2.2.1,s.2.2.2.2.2.1,s.2.2.2.2.2.2.1,s.2.2.2.2.2.2.2.1,s.2.2.2.2.2.2.2.2))
         else
         none
        else
        none
       else
       some (.inl (s.1,s.2.1,s.2.2.1,wi (s.2.2.2.1+1),s.2.2.2.2.1,s.2.2.2.2.2.1,s.2.2.2.2.2.2.1,s.2.2.2.2.2.2.2.1,s.2.2.2.2.2.2.2.2))
      else
      none
     else
     none
    else
    if(decide (o951 >= 0))=true then
     some (.inr (.inl (false,s.2.2.2.2.1,s.2.2.2.2.2.1,s.2.2.2.2.2.2.1,s.2.2.2.2.2.2.2.1,s.2.2.2.2.2.2.2.2)))
    else
    if(decide (o953 >= 0))=true then
     some (.inr (.inl (false,s.2.2.2.2.1,s.2.2.2.2.2.1,s.2.2.2.2.2.2.1,s.2.2.2.2.2.2.2.1,s.2.2.2.2.2.2.2.2)))
    else
    some (.inl (s.1,s.2.1,s.2.2.1,wi (s.2.2.2.1+1),s.2.2.2.2.1,s.2.2.2.2.2.1,s.2.2.2.2.2.2.1,s.2.2.2.2.2.2.2.1,s.2.2.2.2.2.2.2.2))
   else
   none
  else
  none
 else
 some (.inr (.inr (s.2.2.1,s.2.2.2.2.1,s.2.2.2.2.2.1,s.2.2.2.2.2.2.1,s.2.2.2.2.2.2.2.1,s.2.2.2.2.2.2.2.2)))
abbrev ZJS:yL Ty:=[yI,(.sl .u64),.bool,yI,ZJ,(.arr 2 WE),Zq,Z0,(.arr 2 (.sl Zu))]
def Vg:Lp:=⟨[(3,.v yI),(6,.v (.sl .u64)),(15,.v .bool),(16,.ref 3 []),(18,.ref 4 []),(20,.v yI)],zE,ZJS,[⟨.ret,[(14,.v .bool)],zE,[.bool,ZJ,(.arr 2 WE),Zq,Z0,(.arr 2 (.sl Zu))]⟩,⟨.exit 2,[(15,.v .bool)],zE,[.bool,ZJ,(.arr 2 WE),Zq,Z0,(.arr 2 (.sl Zu))]⟩],Zc (ZI yD) yD⟩
theorem Za2:Vg.okA yb 4 1:=ZN ZIT [] [Zbk,ZaZ,Y4] ⟨Zhp,Zf6,YE,ytt⟩
def Yo(F:Nat)(a0:Chan)(a1:(yL Kit))(a2:yG)(a3:Int)(a4:yU)(a5:Int)(a6:(yL yU)):yO (Bool):=
 ((some true)).bind λo940=>
 (XO F a0 a2 a3 a4).bind λo941=>
 (WW F a2 a6).bind λo942=>
 if(!o942)=true then
  some o940
 else
 if(o941.2 !=0)=true then
  some o940
 else
 if(decide (a5 < 0))=true then
  some o940
 else
 if(decide (a5 > 1000000))=true then
  some o940
 else
 (Zc (Zv F) F (a3,a4,a5,a6,o940,0,a0,a1,a2,o941.1,[[],[]])).bind λo947=>
 (Zc (ZI F) F (o947.1,o947.2.1,o947.2.2.1,0,o947.2.2.2.1,o947.2.2.2.2.1,o947.2.2.2.2.2.1,o947.2.2.2.2.2.2.1,o947.2.2.2.2.2.2.2)).bind λo974=>
 match o974 with
 |.inl o975=>
  some o975.1
 |.inr o976=>
  some o976.1
def ZcR(F:Nat):Fs yb:=⟨4,[.v ZJ,.v (.arr 2 WE),.v Zq,.v yI,.v .u64,.v yI,.v (.sl .u64)],[],[ZJ,(.arr 2 WE),Zq,yI,.u64,yI,(.sl .u64)],(zN .bool),λx=>Yo F x.1 x.2.1 x.2.2.1 x.2.2.2.1 x.2.2.2.2.1 x.2.2.2.2.2.1 x.2.2.2.2.2.2⟩
def ZcX:Fs yb:=ZcR yD
theorem ZcS:ZcX.Ok:=fnO ZIT [(0,Vf),(1,Vg)] [ZHa,ZiD,ZcO] ⟨ZIS,ZgY,Zh6,ytt⟩ ⟨Za1,Za2,ytt⟩
end
end Go.Proofs.YtpgpjjjoglafdaaGreat
end
section
set_option maxRecDepth 4000
namespace Go.Proofs.YtpgpjjjoglafdaaGreat
open Go Go.Ev
theorem ZGN{id:yL yB}{h:Int}{known:yL yU}{b:Bool}{c:Commit}{n:Nat}{x:ZL}(hx:x∈XY id h known b c n):∃k o r,k < n/\c.1.2.1[k]? =some o/\c.2[k]? =some r/\Zas id h known b k o r=some x:=by
 unfold XY at hx;obtain⟨k,hk,hx⟩:=List.mem_filterMap.1 hx;unfold Zzw at hx;obtain⟨o,ho,hx⟩:=yf.1 hx;obtain⟨r,hr,hx⟩:=yf.1 hx;exact⟨k,o,r,List.mem_range.1 hk,ho,hr,hx⟩
theorem ZAU{id:yL yB}{h:Int}{known:yL yU}{b:Bool}{k:Nat}{o:Out}{r:QH}{x:ZL}(hx:Zas id h known b k o r=some x):x.1=(id,(k:Int))/\x.2.1=o:=by
 unfold Zas at hx;obtain⟨q,hq,hx⟩:=yf.1 hx;obtain⟨e,he,hx⟩:=yf.1 hx;split at hx
 ·obtain⟨s,hs,hx⟩:=yf.1 hx;obtain⟨e2,he2,hx⟩:=Option.map_eq_some_iff.1 hx;rw[<-hx];exact⟨rfl,rfl⟩
 ·cases hx;exact⟨rfl,rfl⟩
theorem ZIU(s:yG)(known:yL yU):∃b,WW yD s known=some b/\(b=true->known.length<=20):=by
 unfold WW;by_cases h:(s.2.2.1.length:Int)<=20
 ·rw[yW (yY h)];exact⟨_,rfl,λq=>by have:=yF q;omega⟩
 ·rw[yX (by rw[yN];exact h)];exact⟨false,rfl,λq=>absurd q (by decide)⟩
theorem ZGO{l:yL ZL}(hl:l.length<=100)(n:Int):∃z,ZF yD l n=some z/\((z= -1/\∀x,x∈l->x.1.2≠n)\/∃(j:Nat)(x:ZL),z=(j:Int)/\l[j]? =some x/\x.1.2=n):=by
 unfold ZF
 obtain⟨r,h1,h2⟩:=QR (step:=YV yD) l.length (λk s=>s=(l,n,(k:Int))/\∀j x,j < k->l[j]? =some x->x.1.2≠n)
  (λr=>(∃(j:Nat)(x:ZL),r=.inl (j:Int)/\l[j]? =some x/\x.1.2=n)\/r=.inr ()/\∀x,x∈l->x.1.2≠n) (i:=(l,n,(0:Int))) ⟨rfl,λj x hj=>absurd hj (by omega)⟩ (by omega) (by
  rintro k _ hk ⟨rfl,hj⟩;obtain⟨x,hx,_⟩:=Zk hk;unfold YV;dsimp only;rw[yW (ZM hk),Zo hx,ya];by_cases hn:x.1.2=n
  ·right;rw[yW (beq_iff_eq.2 hn)];exact⟨_,rfl,.inl ⟨k,x,rfl,hx,hn⟩⟩
  ·left;rw[yX (by rw[yT];exact hn),Zt (by omega)];refine⟨_,rfl,rfl,λj y hjk hy=> ?_⟩;by_cases e:j=k
   ·subst e;rw[hx] at hy;cases hy;exact hn
   ·exact hj j y (by omega) hy) (by
  rintro _ ⟨rfl,hj⟩;unfold YV;dsimp only;rw[yX (by rw[ZH];decide)];refine⟨_,rfl,.inr ⟨rfl,λx hx=> ?_⟩⟩;obtain⟨j,hjx⟩:=List.getElem?_of_mem hx;exact hj j x (yq.1 hjx).1 hjx)
 rw[h1,ya];rcases h2 with⟨j,x,rfl,q1,q2⟩|⟨rfl,q⟩
 ·exact⟨_,rfl,.inr ⟨j,x,rfl,q1,q2⟩⟩
 ·exact⟨_,rfl,.inl ⟨rfl,q⟩⟩
theorem ZE6{id:yL yB}{h:Int}{known:yL yU}{b:Bool}{c:Commit}(hl:c.2.length<=20)(hs:c.2.length=c.1.2.1.length){n:Nat}(hn:n < c.2.length){o:Out}{r:QH}(ho:c.1.2.1[n]? =some o)(hr:c.2[n]? =some r):
 ∃z,ZF yD (XY id h known b c c.2.length) (n:Int)=some z/\
  ((z= -1/\Zas id h known b n o r=none)\/∃(j:Nat)(x:ZL),z=(j:Int)/\(XY id h known b c c.2.length)[j]? =some x/\Zas id h known b n o r=some x):=by
 have hll:=ZxK id h known b c c.2.length;obtain⟨z,hz,hc⟩:=ZGO (l:=XY id h known b c c.2.length) (by omega) (n:Int);refine⟨z,hz, ?_⟩;rcases hc with⟨rfl,hno⟩|⟨j,x,rfl,hx,hxn⟩
 ·left;refine⟨rfl, ?_⟩
  cases hcl:Zas id h known b n o r with
  |none=>rfl
  |some x=>
   exfalso;refine hno x ?_ (by rw[(ZAU hcl).1]);unfold XY;refine List.mem_filterMap.2 ⟨n,List.mem_range.2 hn, ?_⟩;unfold Zzw;rw[ho,ya,hr,ya,hcl]
 ·right;refine⟨j,x,rfl,hx, ?_⟩;obtain⟨k,o2,r2,hk,h1,h2,h3⟩:=ZGN (List.mem_of_getElem? hx);rw[(ZAU h3).1] at hxn;have hxn:(k:Int)=(n:Int):=hxn;have:k=n:=by omega
  subst this;rw[ho] at h1;rw[hr] at h2;cases h1;cases h2;exact h3
theorem ZE7{l:yL yU}(hl:l.length<=100)(p:yU):YQ yD l p=some ((ZjP l p).isSome):=by
 have hi:ZjO l p<=l.length:=List.findIdx_le_length;unfold YQ
 have e:=Zz (step:=Yg yD) (ZjO l p) (λk:Nat=>(l,p,(k:Int))) (x:=match ZjP l p with|some k=>.inl true|none=>.inr ()) (by
  intro k hk;obtain⟨e,he,hb⟩:=ZE4 hk;unfold Yg;dsimp only;rw[yW (ZM (by omega)),Zo he,ya,ZhS,ya,yX (by rw[hb];decide),Zt (by omega)]) (by
  unfold Yg;dsimp only
  cases hs:ZjP l p with
  |none=>
   have hs:l[ZjO l p]? =none:=hs;have:l.length<=ZjO l p:=List.getElem?_eq_none_iff.1 hs
   rw[yX (ynd (by omega))]
  |some e=>
   have hs:l[ZjO l p]? =some e:=hs;have:=(yq.1 hs).1;rw[yW (ZM this),Zo hs,ya,ZhS,ya,yW (Zzv hs)]) (by omega)
 have e:Zc (Yg yD) yD (l,p,(0:Int))=_:=e;rw[e,ya];cases ZjP l p <;> rfl
theorem ZE8{l:yL yU}{p k:yU}(h:ZjP l p=some k):B k.toNat=p:=by
 have:=Zzv (l:=l) (p:=p) (e:=k) h;simpa using this
theorem Zzy{own w:Int}{rev ow pe:yU}{o:Out}{r:QH}(ho:own=0\/own=1)(hr:r.1=5/\r.2.1=own\/r.1=6/\r.2.1=1 - own)(hl:o.2=Zf7 own w rev ow pe r.2)(id:yL yB)(h:Int)(known:yL yU)(n:Nat):
 (∃x,Zas id h known (r.2.1==own) n o r=some x/\x.2.2.2.2.2=0/\x.2.2.1=2/\x.2.2.2.2.1 >= r.2.2.2.2.2)/\
 (Zas id h known (1 - r.2.1==own) n o r=none/\ZjP known r.2.2.2.2.1=none\/∃y k,ZjP known r.2.2.2.2.1=some k/\Zas id h known (1 - r.2.1==own) n o r=some y/\y.2.2.1=1/\y.2.2.2.1=k/\∀x,Zas id h known (r.2.1==own) n o r=some x->y.2.2.2.2.2=x.2.2.2.2.1):=by
 have mx:∀a b:Int,ZBn a b >= a:=λa b=>by unfold ZBn;split <;> omega
 rcases hr with⟨r1,r2⟩|⟨r1,r2⟩
 ·have e1:(r.2.1==own)=true:=beq_iff_eq.2 r2;have e2:(1 - r.2.1==own)=false:=beq_eq_false_iff_ne.2 (by omega);rw[e1,e2]
  have hl':o.2=[([rev],0,0,0),([pe],0,0,r.2.2.2.2.1),([ow],r.2.2.2.2.2,w,0)]:=by
   rw[hl];unfold Zf7;rw[yW r2]
  have w1:ZjN r.1 true=some (2,false):=by rw[r1];rfl
  have w2:ZjN r.1 false=some (1,true):=by rw[r1];rfl
  have c1:Zas id h known true n o r=some ((id,(n:Int)),o,2,0,opF h ([ow],r.2.2.2.2.2,w,0),0):=by
   unfold Zas;rw[w1,ya,hl'];rfl
  refine⟨⟨_,c1,rfl,rfl,mx _ _⟩, ?_⟩
  cases hs:ZjP known r.2.2.2.2.1 with
  |none=>
   left;refine⟨?_,rfl⟩;unfold Zas;rw[w2,ya,hl',hs]
   rfl
  |some k=>
   right;refine⟨((id,(n:Int)),o,1,k,opF h ([pe],0,0,r.2.2.2.2.1),opF h ([ow],r.2.2.2.2.2,w,0)),k,rfl, ?_,rfl,rfl,λx hx=> ?_⟩
   ·unfold Zas;rw[w2,ya,hl',hs];rfl
   ·rw[c1] at hx;cases hx;rfl
 ·have e1:(r.2.1==own)=false:=beq_eq_false_iff_ne.2 (by omega);have e2:(1 - r.2.1==own)=true:=beq_iff_eq.2 (by omega);rw[e1,e2]
  have hl':o.2=[([rev],0,0,0),([ow],0,w,r.2.2.2.2.1),([pe],r.2.2.2.2.2,0,0)]:=by
   rw[hl];unfold Zf7;rw[yX (by omega)]
  have w1:ZjN r.1 false=some (2,false):=by rw[r1];rfl
  have w2:ZjN r.1 true=some (1,true):=by rw[r1];rfl
  have c1:Zas id h known false n o r=some ((id,(n:Int)),o,2,0,opF h ([pe],r.2.2.2.2.2,0,0),0):=by
   unfold Zas;rw[w1,ya,hl'];rfl
  refine⟨⟨_,c1,rfl,rfl,mx _ _⟩, ?_⟩
  cases hs:ZjP known r.2.2.2.2.1 with
  |none=>
   left;refine⟨?_,rfl⟩;unfold Zas;rw[w2,ya,hl',hs]
   rfl
  |some k=>
   right;refine⟨((id,(n:Int)),o,1,k,opF h ([ow],0,w,r.2.2.2.2.1),opF h ([pe],r.2.2.2.2.2,0,0)),k,rfl, ?_,rfl,rfl,λx hx=> ?_⟩
   ·unfold Zas;rw[w2,ya,hl',hs];rfl
   ·rw[c1] at hx;cases hx;rfl
theorem Zvh{r:QH}(hr:r.1=2\/r.1=3\/r.1=4)(b:Bool)(id:yL yB)(h:Int)(known:yL yU)(n:Nat)(o:Out):Zas id h known b n o r=none:=by
 have:ZjN r.1 b=none:=by
  unfold ZjN;split
  ·rw[yX (by omega),yX (by omega),yX (by omega)]
  ·rw[yX (by omega),yX (by omega)]
 unfold Zas;rw[this];rfl
theorem ZxN{r:QH}(hr:r.1=1){o:Out}{a b:yU}{w:Int}(hl:o.2=Zls a b w)(id:yL yB)(h:Int)(known:yL yU)(n:Nat):(∃x,Zas id h known true n o r=some x)/\Zas id h known false n o r=none:=by
 have w1:ZjN r.1 true=some (1,false):=by rw[hr];rfl
 have w2:ZjN r.1 false=none:=by rw[hr];rfl
 refine⟨⟨((id,(n:Int)),o,1,0,opF h ([b],0,w,0),0), ?_⟩, ?_⟩
 ·unfold Zas;rw[w1,ya,hl];rfl
 ·unfold Zas;rw[w2];rfl
theorem ZxO{ch:Chan}{own:Int}{per:yU}{c:Commit}(w:CmC ch own per c){id:yL yB}{h:Int}{known:yL yU}(hk:known.length<=20)(head:Bool)(ch0:Chan)(kits:yL Kit)(s:yG){n:Nat}(hn:n < c.2.length):
 ZI yD (own,known,head,(n:Int),ch0,kits,s,c,[XY id h known ((0:Int)==own) c c.2.length,XY id h known ((1:Int)==own) c c.2.length])=
  some (.inl (own,known,head,((n+1:Nat):Int),ch0,kits,s,c,[XY id h known ((0:Int)==own) c c.2.length,XY id h known ((1:Int)==own) c c.2.length])):=by
 have ho:=w.outs;have hs:=w.same;have hown:=w.o;obtain⟨bo,bp,tp,_,_,_,hK⟩:=w.ex;obtain⟨r,hr,_⟩:=Zk hn;obtain⟨o,hoo,hm⟩:=Zk (l:=c.1.2.1) (k:=n) (by omega);have hko:=hK n o r hoo hr;have hl20:c.2.length<=20:=by omega
 have hget:∀i:Int,i=0\/i=1->inB i 2=true/\([XY id h known ((0:Int)==own) c c.2.length,XY id h known ((1:Int)==own) c c.2.length])[i.toNat]? =some (XY id h known (i==own) c c.2.length):=by
  rintro i (rfl|rfl) <;> exact⟨rfl,rfl⟩
 have hfind:=λb:Bool=>ZE6 (id:=id) (h:=h) (known:=known) (b:=b) hl20 hs hn hoo hr;have hp:wi (1 - own)=1 - own:=Z1 (by omega) (by omega);obtain⟨g1,g2⟩:=hget own hown;obtain⟨g3,g4⟩:=hget (1 - own) (by omega);obtain⟨a,ha,ha2⟩:=hfind (own==own);obtain⟨b,hb,hb2⟩:=hfind (1 - own==own);have eo:(own==own)=true:=by simp
 have ep:(1 - own==own)=false:=beq_eq_false_iff_ne.2 (by omega);generalize hR:[XY id h known ((0:Int)==own) c c.2.length,XY id h known ((1:Int)==own) c c.2.length]=R at*;unfold ZI;dsimp only;rw[yW (ZM hn),Zo hr,ya,yW g1,g2,ya,ha,ya,hp,yW g3,g4,ya,hb,ya,Zt (by omega)];rcases hko with⟨h1,h2⟩|h1|⟨h1,h2,h3,h4,h5⟩
 ·obtain⟨⟨x,q1⟩,q2⟩:=ZxN h1 h2 id h known n;rw[eo,q1] at ha2;rw[ep,q2] at hb2
  have ha3:¬a < 0:=by
   rcases ha2 with⟨_,q⟩|⟨j,y,rfl,_⟩
   ·cases q
   ·omega
  have hb3:¬b >= 0:=by
   rcases hb2 with⟨rfl,_⟩|⟨j,y,_,_,q⟩
   ·decide
   ·cases q
  rw[yW (beq_iff_eq.2 h1),yX (by rw[yN];exact ha3),yX (by rw[yN];exact hb3)]
 ·rw[Zvh h1] at ha2 hb2
  have ha3:¬a >= 0:=by
   rcases ha2 with⟨rfl,_⟩|⟨j,y,_,_,q⟩
   ·decide
   ·cases q
  have hb3:¬b >= 0:=by
   rcases hb2 with⟨rfl,_⟩|⟨j,y,_,_,q⟩
   ·decide
   ·cases q
  rw[yX (by rw[yT];omega),yX (by rw[yT];omega),yX (by rw[yT];omega),yX (by rw[yN];exact ha3),yX (by rw[yN];exact hb3)]
 ·obtain⟨⟨x,x1,x2,x3,x4⟩,hy⟩:=Zzy hown h1 h2 id h known n
  have hf:r.2.1=0\/r.2.1=1:=by
   rcases h1 with⟨_,q⟩|⟨_,q⟩
   ·rw[q];exact hown
   ·rw[q];rcases hown with q|q <;> rw[q] <;> simp
  obtain⟨g5,g6⟩:=hget r.2.1 hf;obtain⟨g7,g8⟩:=hget (1 - r.2.1) (by rcases hf with q|q <;> rw[q] <;> simp);have hp2:wi (1 - r.2.1)=1 - r.2.1:=by rcases hf with q|q <;> rw[q] <;> rfl
  obtain⟨u,hu,hu2⟩:=hfind (r.2.1==own);obtain⟨v,hv,hv2⟩:=hfind (1 - r.2.1==own);rw[x1] at hu2
  obtain⟨j,x',rfl,hxj,e⟩:∃(j:Nat)(x':ZL),u=(j:Int)/\(XY id h known (r.2.1==own) c c.2.length)[j]? =some x'/\some x=some x':=by
   rcases hu2 with⟨_,q⟩|q
   ·cases q
   ·exact q
  cases e
  have key:∀(d:Bool),d=true->(if d=true then
   (if inB r.2.1 2=true then(R[r.2.1.toNat]?).bind λe919=>(ZF yD e919 (n:Int)).bind λo920=>
     if inB (wi (1 - r.2.1)) 2=true then(R[(wi (1 - r.2.1)).toNat]?).bind λe921=>(ZF yD e921 (n:Int)).bind λo922=>
      if decide (o920 < 0)=true then some (Sum.inr (Sum.inl (false,ch0,kits,s,c,R)))
      else(YQ yD known r.2.2.2.2.1).bind λo923=>
       if(!(decide (o922 >= 0)==o923))=true then some (Sum.inr (Sum.inl (false,ch0,kits,s,c,R)))
       else if decide (o922 >= 0)=true then
        if inB r.2.1 2=true then(R[r.2.1.toNat]?).bind λe924=>(idx e924 o920).bind λe925=>
         if inB (wi (1 - r.2.1)) 2=true then(R[(wi (1 - r.2.1)).toNat]?).bind λe926=>(idx e926 o922).bind λe927=>
          if(e927.2.2.2.2.2 !=e925.2.2.2.2.1)=true then some (Sum.inr (Sum.inl (false,ch0,kits,s,c,R)))
          else if(e925.2.2.2.2.2 !=0)=true then some (Sum.inr (Sum.inl (false,ch0,kits,s,c,R)))
          else if(e925.2.2.1==e927.2.2.1)=true then some (Sum.inr (Sum.inl (false,ch0,kits,s,c,R)))
          else(ZO yD e927.2.2.2.1).bind λo928=>
           if(o928 !=r.2.2.2.2.1)=true then some (Sum.inr (Sum.inl (false,ch0,kits,s,c,R)))
           else if decide (e925.2.2.2.2.1 < r.2.2.2.2.2)=true then some (Sum.inr (Sum.inl (false,ch0,kits,s,c,R)))
           else some (Sum.inl (own,known,head,((n+1:Nat):Int),ch0,kits,s,c,R))
         else none
        else none
       else some (Sum.inl (own,known,head,((n+1:Nat):Int),ch0,kits,s,c,R))
     else none
   else none) else(none:yO ((Int×(yL yU)×Bool×Int×zJ)⊕((Bool×zJ)⊕(Bool×zJ)))))=some (Sum.inl (own,known,head,((n+1:Nat):Int),ch0,kits,s,c,R)):=by
   intro d hd;rw[yW hd,yW g5,g6,ya,hu,ya,hp2,yW g7,g8,ya,hv,ya,yX (ynd (by omega)),ZE7 (by omega),ya];rcases hy with⟨y1,y2⟩|⟨y,k,y2,y1,y3,y4,y5⟩
   ·rw[y1] at hv2
    have hv3:v= -1:=by
     rcases hv2 with⟨q,_⟩|⟨_,_,_,_,q⟩
     ·exact q
     ·cases q
    subst hv3;rw[y2,yX (by decide),yX (by decide)]
   ·rw[y1] at hv2
    obtain⟨i,y',rfl,hyi,e⟩:∃(i:Nat)(y':ZL),v=(i:Int)/\(XY id h known (1 - r.2.1==own) c c.2.length)[i]? =some y'/\some y=some y':=by
     rcases hv2 with⟨_,q⟩|q
     ·cases q
     ·exact q
    cases e;have hi0:decide ((i:Int) >= 0)=true:=yY (by omega);rw[y2,hi0,yX (show¬((!(true==(some k).isSome))=true) by simp),yW rfl,yW g5,ya,Zo hxj,ya,yW g7,ya,Zo hyi,ya];rw[yX (by rw[yE];exact λq=>q (y5 x x1)),yX (by rw[yE];exact λq=>q x2),yX (by rw[yT,x3,y3];decide),ZhS,ya,y4,yX (by rw[yE];exact λq=>q (ZE8 y2)),yX (ynd (by omega))]
  rcases h1 with⟨r1,_⟩|⟨r1,_⟩
  ·rw[yX (by rw[yT];omega),yW (beq_iff_eq.2 r1)];exact key true rfl
  ·rw[yX (by rw[yT];omega),yX (by rw[yT];omega),yW (beq_iff_eq.2 r1)];exact key true rfl
theorem ZCf{ch:Chan}(w:ChWf ch)(hf:ch.1.1.length=32){kits:yL Kit}(hk:kits.length=2){s:yG}(hs:s.2.1.length=2)(own:Int)(per:yU)(h:Int)(known:yL yU):
 Yo yD ch kits s own per h known=some true:=by
 obtain⟨c,e,hm,hc⟩:=ZGJ w hs own per;obtain⟨b,hb,hfew⟩:=ZIU s known;unfold Yo;rw[ya,hm,ya,hb,ya]
 cases b with
 |false=>rw[yW (by decide)]
 |true=>
  rw[yX (by decide)];by_cases he:e=0
  ·rw[yX (show¬((e !=0)=true) by rw[he];decide)];have hC:=hc he;have hkn:=hfew rfl;have ho:=hC.outs;have hsm:=hC.same;obtain⟨id,i0,i1,i2,i3,i4⟩:=ZGK hC hf;by_cases h0:h < 0
   ·rw[yW (yY h0)]
   ·rw[yX (by rw[yN];exact h0)];by_cases h1:h > 1000000
    ·rw[yW (yY h1)]
    ·rw[yX (by rw[yN];exact h1)];obtain⟨k0,hk0,_⟩:=Zk (l:=kits) (k:=0) (by omega);obtain⟨k1,hk1,_⟩:=Zk (l:=kits) (k:=1) (by omega)
     have hL:∀i:Int,i=0\/i=1->ZGL id h known i own c=XY id h known (i==own) c c.2.length:=λi hi=>by
      unfold ZGL;rw[yW ⟨hi,by omega,by omega⟩]
     have s0:Zv yD (own,per,h,known,true,(0:Int),ch,kits,s,c,([[],[]]:yL (yL ZL)))=some (.inl (own,per,h,known,true,(1:Int),ch,kits,s,c,[XY id h known ((0:Int)==own) c c.2.length,[]])):=by
      unfold Zv;dsimp only;rw[yW (show decide ((0:Int) < 2)=true by decide),yW (show inB (0:Int) 2=true by decide)];show(kits[0]?).bind _=_;rw[hk0,ya,ZxM hC i4 hkn (by decide) (by decide),ya,hL 0 (.inl rfl)];rfl
     have s1:Zv yD (own,per,h,known,true,(1:Int),ch,kits,s,c,[XY id h known ((0:Int)==own) c c.2.length,[]])=some (.inl (own,per,h,known,true,(2:Int),ch,kits,s,c,[XY id h known ((0:Int)==own) c c.2.length,XY id h known ((1:Int)==own) c c.2.length])):=by
      unfold Zv;dsimp only;rw[yW (show decide ((1:Int) < 2)=true by decide),yW (show inB (1:Int) 2=true by decide)];show(kits[1]?).bind _=_;rw[hk1,ya,ZxM hC i4 hkn (by decide) (by decide),ya,hL 1 (.inr rfl)];rfl
     have s2:Zv yD (own,per,h,known,true,(2:Int),ch,kits,s,c,[XY id h known ((0:Int)==own) c c.2.length,XY id h known ((1:Int)==own) c c.2.length])=some (.inr (own,known,true,ch,kits,s,c,[XY id h known ((0:Int)==own) c c.2.length,XY id h known ((1:Int)==own) c c.2.length])):=by
      unfold Zv;dsimp only;rw[yX (show¬(decide ((2:Int) < 2)=true) by decide)]
     have e0:Zc (Zv yD) yD (own,per,h,known,true,(0:Int),ch,kits,s,c,([[],[]]:yL (yL ZL)))=_:=
      Zz 2 (λk:Nat=>if k=0 then(own,per,h,known,true,(0:Int),ch,kits,s,c,([[],[]]:yL (yL ZL))) else if k=1 then(own,per,h,known,true,(1:Int),ch,kits,s,c,[XY id h known ((0:Int)==own) c c.2.length,[]]) else(own,per,h,known,true,(2:Int),ch,kits,s,c,[XY id h known ((0:Int)==own) c c.2.length,XY id h known ((1:Int)==own) c c.2.length])) (λk hk=>by
       rcases (show k=0\/k=1 by omega) with rfl|rfl
       ·exact s0
       ·exact s1) s2 (by omega)
     rw[e0,ya];dsimp only
     have e1:=Zz (step:=ZI yD) c.2.length (λn:Nat=>(own,known,true,(n:Int),ch,kits,s,c,[XY id h known ((0:Int)==own) c c.2.length,XY id h known ((1:Int)==own) c c.2.length])) (x:=.inr (true,ch,kits,s,c,[XY id h known ((0:Int)==own) c c.2.length,XY id h known ((1:Int)==own) c c.2.length])) (λn hn=>ZxO hC hkn true ch kits s hn) (by
      unfold ZI;dsimp only;rw[yX (by rw[ZH];decide)]) (by omega)
     have e1:Zc (ZI yD) yD (own,known,true,(0:Int),ch,kits,s,c,[XY id h known ((0:Int)==own) c c.2.length,XY id h known ((1:Int)==own) c c.2.length])=_:=e1;rw[e1,ya]
  ·rw[yW (show(e !=0)=true from bne_iff_ne.2 he)]
end Go.Proofs.YtpgpjjjoglafdaaGreat
end
