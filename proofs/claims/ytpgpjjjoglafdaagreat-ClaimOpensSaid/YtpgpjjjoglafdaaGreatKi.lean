/- Parts of the proof, in one file. -/
import Derived.Test.YtpgpjjjoglafdaaGreatKh
open Go.Proofs.Tryz renaming prog → yb
open Int renaming toNat_natCast → yay
open List renaming getElem?_eq_some_iff → yq, replicate → yv, length_map → yy, getElem?_eq_getElem → yz, length_take → yae, map_append → yai, getElem?_map → yaj, take_length → yak, mem_singleton → yao, mem_of_getElem? → ybc, mem_map → ybl, getElem_of_mem → ybt
open Option renaming bind_some → ya, bind_eq_some_iff → yf, map_eq_some_iff → yp
open UInt64 renaming ofNat → yaf, toNat_inj → ycl
set_option linter.unusedVariables false
set_option linter.unusedSimpArgs false
section
set_option maxRecDepth 4000
namespace Go.Proofs.YtpgpjjjoglafdaaGreat
open Go Go.Ev
noncomputable section
abbrev dT9:Type:=(Int×Int×Int×(yL yU)×yU×Int×Bool×yU×Int×Chan×(yL Kit)×yG×(yL yB))
abbrev ZLq:Type:=(Int×Int×Int×(yL yU)×yU×Int×Bool×yU×Chan×(yL Kit)×yG×(yL yB))
def Zq(F:Nat)(s:dT9):yO (dT9⊕ZLq):=
 if(decide (s.2.2.2.2.2.2.2.2.1 < 2))=true then
  if(inB s.2.2.2.2.2.2.2.2.1 2)=true then
   (s.2.2.2.2.2.2.2.2.2.2.1[s.2.2.2.2.2.2.2.2.1.toNat]?).bind λe997=>
   (VS F e997).bind λo998=>
   if(inB s.2.2.2.2.2.2.2.2.1 2)=true then
    (s.2.2.2.2.2.2.2.2.2.1.2.2.1[s.2.2.2.2.2.2.2.2.1.toNat]?).bind λe999=>
    some (.inl (s.1,s.2.1,s.2.2.1,s.2.2.2.1,s.2.2.2.2.1,s.2.2.2.2.2.1,s.2.2.2.2.2.2.1,s.2.2.2.2.2.2.2.1,wi (s.2.2.2.2.2.2.2.2.1+1),(s.2.2.2.2.2.2.2.2.2.1.1,s.2.2.2.2.2.2.2.2.2.1.2.1,s.2.2.2.2.2.2.2.2.2.1.2.2.1.set s.2.2.2.2.2.2.2.2.1.toNat o998,s.2.2.2.2.2.2.2.2.2.1.2.2.2.1,s.2.2.2.2.2.2.2.2.2.1.2.2.2.2),s.2.2.2.2.2.2.2.2.2.2.1,s.2.2.2.2.2.2.2.2.2.2.2.1,s.2.2.2.2.2.2.2.2.2.2.2.2))
   else
   none
  else
  none
 else
 some (.inr (s.1,s.2.1,s.2.2.1,s.2.2.2.1,s.2.2.2.2.1,s.2.2.2.2.2.1,s.2.2.2.2.2.2.1,s.2.2.2.2.2.2.2.1,s.2.2.2.2.2.2.2.2.2.1,s.2.2.2.2.2.2.2.2.2.2.1,s.2.2.2.2.2.2.2.2.2.2.2.1,s.2.2.2.2.2.2.2.2.2.2.2.2))
abbrev ZLr:yL Ty:=[yI,yI,yI,(.sl .u64),.u64,yI,.bool,.u64,ZK,(.arr 2 W0),Zt,(.arr 32 .u8)]
abbrev ZLs:yL Ty:=[yI,yI,yI,(.sl .u64),.u64,yI,.bool,.u64,yI,ZK,(.arr 2 W0),Zt,(.arr 32 .u8)]
abbrev zG:List ESh:=[.var (.v ZK) true,.var (.v (.arr 2 W0)) true,.var (.v Zt) true,.var (.v (.arr 32 .u8)) true]
def VH:Lp:=⟨[(3,.v yI),(4,.v yI),(6,.v yI),(7,.v (.sl .u64)),(8,.v .u64),(9,.v yI),(10,.ref 0 []),(11,.ref 1 []),(12,.ref 2 []),(21,.v .bool),(22,.v .u64),(23,.v yI)],zG,ZLs,[⟨.exit 0,[(3,.v yI),(4,.v yI),(6,.v yI),(7,.v (.sl .u64)),(8,.v .u64),(9,.v yI),(10,.ref 0 []),(11,.ref 1 []),(12,.ref 2 []),(21,.v .bool),(22,.v .u64)],zG,ZLr⟩],Zc (Zq yD) yD⟩
def ZKh:HI:={ still:=[20,35,37,38,73,78,79,80,81,85,88,89,90,91,92,93,94,98,99,100,101,112,113,114,115,116,117,128,164,218,219,220,221,223,227,231,232,233,234,237,242,251,252,253,254,257,262]}
theorem ZbA:VH.okA yb 5 0:=ZN ZKh [] [ZeD] ⟨ZhP,ytt⟩
def Zw(F:Nat)(s:(Int×Bool×(yL Claim)×Int×Chan×(yL Kit)×yG×(yL yB)×Commit×Tx)):yO ((Int×Bool×(yL Claim)×Int×Chan×(yL Kit)×yG×(yL yB)×Commit×Tx)⊕((Bool×Chan×(yL Kit)×yG×(yL yB)×Commit×Tx)⊕(Bool×Chan×(yL Kit)×yG×(yL yB)×Commit×Tx))):=
 if(decide (s.2.2.2.1 < (s.2.2.1.length:Int)))=true then
  (idx s.2.2.1 s.2.2.2.1).bind λe1010=>
  (idx s.2.2.2.2.2.2.2.2.2.1 s.2.2.2.1).bind λe1011=>
  (QA F s.2.2.2.2.2.2.2.2.1.1).bind λo1012=>
  if(!(decide (e1010.1.1=o1012)))=true then
   some (.inr (.inl (false,s.2.2.2.2.1,s.2.2.2.2.2.1,s.2.2.2.2.2.2.1,s.2.2.2.2.2.2.2.1,s.2.2.2.2.2.2.2.2.1,s.2.2.2.2.2.2.2.2.2)))
  else
  if(decide (e1010.1.2 < 0))=true then
   some (.inr (.inl (false,s.2.2.2.2.1,s.2.2.2.2.2.1,s.2.2.2.2.2.2.1,s.2.2.2.2.2.2.2.1,s.2.2.2.2.2.2.2.2.1,s.2.2.2.2.2.2.2.2.2)))
  else
  let y1013:Bool:=decide (e1010.1.2 >= (s.2.2.2.2.2.2.2.2.1.1.2.1.length:Int))
  if y1013=true then
   some (.inr (.inl (false,s.2.2.2.2.1,s.2.2.2.2.2.1,s.2.2.2.2.2.2.1,s.2.2.2.2.2.2.2.1,s.2.2.2.2.2.2.2.2.1,s.2.2.2.2.2.2.2.2.2)))
  else
  (idx s.2.2.2.2.2.2.2.2.1.1.2.1 e1010.1.2).bind λe1014=>
  if(e1010.2.1.1 !=e1014.1)=true then
   some (.inr (.inl (false,s.2.2.2.2.1,s.2.2.2.2.2.1,s.2.2.2.2.2.2.1,s.2.2.2.2.2.2.2.1,s.2.2.2.2.2.2.2.2.1,s.2.2.2.2.2.2.2.2.2)))
  else
  (idx s.2.2.2.2.2.2.2.2.2.1 s.2.2.2.1).bind λe1015=>
  if(!(decide (e1015.1=e1010.1)))=true then
   some (.inr (.inl (false,s.2.2.2.2.1,s.2.2.2.2.2.1,s.2.2.2.2.2.2.1,s.2.2.2.2.2.2.2.1,s.2.2.2.2.2.2.2.2.1,s.2.2.2.2.2.2.2.2.2)))
  else
  (idx s.2.2.2.2.2.2.2.2.1.1.2.1 e1010.1.2).bind λe1016=>
  (QA F s.2.2.2.2.2.2.2.2.2).bind λo1017=>
  (QC F e1016.2 e1011.2 o1017 e1010.2.2.2.2.1 (wi (e1010.2.2.2.2.1 - s.1))).bind λo1018=>
  if(o1018 !=0)=true then
   some (.inr (.inl (false,s.2.2.2.2.1,s.2.2.2.2.2.1,s.2.2.2.2.2.2.1,s.2.2.2.2.2.2.2.1,s.2.2.2.2.2.2.2.2.1,s.2.2.2.2.2.2.2.2.2)))
  else
  (QA F s.2.2.2.2.2.2.2.2.2).bind λo1019=>
  (QC F e1016.2 e1011.2 o1019 (wi (e1010.2.2.2.2.1+5)) (wi ((wi (e1010.2.2.2.2.1+5)) - s.1))).bind λo1020=>
  if(o1020 !=0)=true then
   some (.inr (.inl (false,s.2.2.2.2.1,s.2.2.2.2.2.1,s.2.2.2.2.2.2.1,s.2.2.2.2.2.2.2.1,s.2.2.2.2.2.2.2.2.1,s.2.2.2.2.2.2.2.2.2)))
  else
  if(decide (e1010.2.2.2.2.1 > s.1))=true then
   (QA F s.2.2.2.2.2.2.2.2.2).bind λo1021=>
   (QC F e1016.2 e1011.2 o1021 (wi (e1010.2.2.2.2.1 - 1)) (wi ((wi (e1010.2.2.2.2.1 - 1)) - s.1))).bind λo1022=>
   if(o1022 !=11)=true then
    some (.inr (.inl (false,s.2.2.2.2.1,s.2.2.2.2.2.1,s.2.2.2.2.2.2.1,s.2.2.2.2.2.2.2.1,s.2.2.2.2.2.2.2.2.1,s.2.2.2.2.2.2.2.2.2)))
   else
   some (.inl (s.1,s.2.1,s.2.2.1,wi (s.2.2.2.1+1),s.2.2.2.2.1,s.2.2.2.2.2.1,s.2.2.2.2.2.2.1,s.2.2.2.2.2.2.2.1,s.2.2.2.2.2.2.2.2.1,s.2.2.2.2.2.2.2.2.2))
  else
  some (.inl (s.1,s.2.1,s.2.2.1,wi (s.2.2.2.1+1),s.2.2.2.2.1,s.2.2.2.2.2.1,s.2.2.2.2.2.2.1,s.2.2.2.2.2.2.2.1,s.2.2.2.2.2.2.2.2.1,s.2.2.2.2.2.2.2.2.2))
 else
 some (.inr (.inr (s.2.1,s.2.2.2.2.1,s.2.2.2.2.2.1,s.2.2.2.2.2.2.1,s.2.2.2.2.2.2.2.1,s.2.2.2.2.2.2.2.2.1,s.2.2.2.2.2.2.2.2.2)))
abbrev ZLt:yL Ty:=[yI,.bool,(.sl Zy),yI,ZK,(.arr 2 W0),Zt,(.arr 32 .u8),Yh,yTx]
abbrev zT:List ESh:=[.var (.v ZK) true,.var (.v (.arr 2 W0)) true,.var (.v Zt) true,.var (.v (.arr 32 .u8)) true,.var (.v Yh) true,.var (.v yTx) true]
def VI:Lp:=⟨[(6,.v yI),(21,.v .bool),(24,.ref 4 []),(26,.v (.sl Zy)),(28,.ref 5 []),(30,.v yI)],zT,ZLt,[⟨.ret,[(20,.v .bool)],zT,[.bool,ZK,(.arr 2 W0),Zt,(.arr 32 .u8),Yh,yTx]⟩,⟨.exit 2,[(21,.v .bool)],zT,[.bool,ZK,(.arr 2 W0),Zt,(.arr 32 .u8),Yh,yTx]⟩],Zc (Zw yD) yD⟩
theorem ZbB:VI.okA yb 5 1:=ZN ZKh [] [Zo1,Zoa] ⟨Zrd,ZvY,ytt⟩
def Yq(F:Nat)(a0:Chan)(a1:(yL Kit))(a2:yG)(a3:Int)(a4:Int)(a5:(yL yB))(a6:Int)(a7:(yL yU))(a8:yU)(a9:Int):yO (Bool):=
 ((some true)).bind λo994=>
 (Zeb F a5).bind λo995=>
 (Vk F a2 a7).bind λo996=>
 if(!o996)=true then
  some o994
 else
 if(a3 !=0)=true then
  if(a3 !=1)=true then
   some o994
  else
  if(a8==0)=true then
   some o994
  else
  if(decide (a8 >= 2305843009213688669))=true then
   some o994
  else
  if(decide (a6 < 0))=true then
   some o994
  else
  if(decide (a6 > 1000000))=true then
   some o994
  else
  (Zc (Zq F) F (a3,a4,a6,a7,a8,a9,o994,o995,0,a0,a1,a2,a5)).bind λo1000=>
  (Y9 F o1000.2.2.2.2.2.2.2.2.1 o1000.2.2.2.2.2.2.2.2.2.2.1 o1000.2.1 o1000.2.2.2.2.2.2.2.1).bind λo1001=>
  if(inB o1000.1 2)=true then
   (o1000.2.2.2.2.2.2.2.2.2.1[o1000.1.toNat]?).bind λe1002=>
   (WF F o1000.2.2.2.2.2.2.2.2.1 e1002 o1000.1 o1000.2.1 o1001.1 o1000.2.2.2.2.2.2.2.1 o1000.2.2.1 o1000.2.2.2.1).bind λo1003=>
   if(inB o1000.1 2)=true then
    (o1000.2.2.2.2.2.2.2.2.2.1[o1000.1.toNat]?).bind λe1004=>
    (QN F e1004 o1001.1 o1000.2.2.2.2.2.2.2.1 o1003).bind λo1005=>
    if(o1001.2 !=0)=true then
     some o1000.2.2.2.2.2.2.1
    else
    if((o1003.length:Int)==0)=true then
     some o1000.2.2.2.2.2.2.1
    else
    (ZL F o1000.2.2.2.2.1).bind λo1006=>
    (W5 F o1006).bind λo1007=>
    (WG F o1003 o1005 o1007 o1000.2.2.2.2.2.1).bind λo1008=>
    if(o1008.2 !=0)=true then
     if o1000.2.2.2.2.2.2.1=true then
      if(o1008.2==8)=true then
       some true
      else
      (YU F o1005).bind λo1009=>
      some o1009
     else
     some false
    else
    if((o1008.1.1.length:Int)!=(o1003.length:Int))=true then
     some false
    else
    if((o1008.1.2.1.length:Int)!=1)=true then
     some false
    else
    (Zc (Zw F) F (o1000.2.2.1,o1000.2.2.2.2.2.2.1,o1003,0,o1000.2.2.2.2.2.2.2.2.1,o1000.2.2.2.2.2.2.2.2.2.1,o1000.2.2.2.2.2.2.2.2.2.2.1,o1000.2.2.2.2.2.2.2.2.2.2.2,o1001.1,o1008.1)).bind λo1023=>
    match o1023 with
    |.inl o1024=>
     some o1024.1
    |.inr o1025=>
     some o1025.1
   else
   none
  else
  none
 else
 if(a8==0)=true then
  some o994
 else
 if(decide (a8 >= 2305843009213688669))=true then
  some o994
 else
 if(decide (a6 < 0))=true then
  some o994
 else
 if(decide (a6 > 1000000))=true then
  some o994
 else
 (Zc (Zq F) F (a3,a4,a6,a7,a8,a9,o994,o995,0,a0,a1,a2,a5)).bind λo1026=>
 (Y9 F o1026.2.2.2.2.2.2.2.2.1 o1026.2.2.2.2.2.2.2.2.2.2.1 o1026.2.1 o1026.2.2.2.2.2.2.2.1).bind λo1027=>
 if(inB o1026.1 2)=true then
  (o1026.2.2.2.2.2.2.2.2.2.1[o1026.1.toNat]?).bind λe1028=>
  (WF F o1026.2.2.2.2.2.2.2.2.1 e1028 o1026.1 o1026.2.1 o1027.1 o1026.2.2.2.2.2.2.2.1 o1026.2.2.1 o1026.2.2.2.1).bind λo1029=>
  if(inB o1026.1 2)=true then
   (o1026.2.2.2.2.2.2.2.2.2.1[o1026.1.toNat]?).bind λe1030=>
   (QN F e1030 o1027.1 o1026.2.2.2.2.2.2.2.1 o1029).bind λo1031=>
   if(o1027.2 !=0)=true then
    some o1026.2.2.2.2.2.2.1
   else
   if((o1029.length:Int)==0)=true then
    some o1026.2.2.2.2.2.2.1
   else
   (ZL F o1026.2.2.2.2.1).bind λo1032=>
   (W5 F o1032).bind λo1033=>
   (WG F o1029 o1031 o1033 o1026.2.2.2.2.2.1).bind λo1034=>
   if(o1034.2 !=0)=true then
    if o1026.2.2.2.2.2.2.1=true then
     if(o1034.2==8)=true then
      some true
     else
     (YU F o1031).bind λo1035=>
     some o1035
    else
    some false
   else
   if((o1034.1.1.length:Int)!=(o1029.length:Int))=true then
    some false
   else
   if((o1034.1.2.1.length:Int)!=1)=true then
    some false
   else
   (Zc (Zw F) F (o1026.2.2.1,o1026.2.2.2.2.2.2.1,o1029,0,o1026.2.2.2.2.2.2.2.2.1,o1026.2.2.2.2.2.2.2.2.2.1,o1026.2.2.2.2.2.2.2.2.2.2.1,o1026.2.2.2.2.2.2.2.2.2.2.2,o1027.1,o1034.1)).bind λo1036=>
   match o1036 with
   |.inl o1037=>
    some o1037.1
   |.inr o1038=>
    some o1038.1
  else
  none
 else
 none
def Zdx(F:Nat):Fs yb:=⟨5,[.v ZK,.v (.arr 2 W0),.v Zt,.v yI,.v yI,.v (.arr 32 .u8),.v yI,.v (.sl .u64),.v .u64,.v yI],[],[ZK,(.arr 2 W0),Zt,yI,yI,(.arr 32 .u8),yI,(.sl .u64),.u64,yI],(zN .bool),λx=>Yq F x.1 x.2.1 x.2.2.1 x.2.2.2.1 x.2.2.2.2.1 x.2.2.2.2.2.1 x.2.2.2.2.2.2.1 x.2.2.2.2.2.2.2.1 x.2.2.2.2.2.2.2.2.1 x.2.2.2.2.2.2.2.2.2⟩
def ZdE:Fs yb:=Zdx yD
theorem Zdy:ZdE.Ok:=fnO ZKh [(0,VH),(1,VI)] [ZIx,ZlR,Zdt,Zji,ZlJ,ZlP,YL,Zj4,ZlZ,Zbz] ⟨ZKg,Zjs,ZiJ,Zhz,Zjm,Zjo,Ym,Zg5,ZsO,ZgJ,ytt⟩ ⟨ZbA,ZbB,ytt⟩
end
end Go.Proofs.YtpgpjjjoglafdaaGreat
end
section
set_option maxRecDepth 4000
namespace Go.Proofs.YtpgpjjjoglafdaaGreat
open Go Go.Ev
def ZKX(l:yL Claim):Prop:=l.length<=20/\∀x,x∈l->Xm x.2.1.2
theorem Zwi{id:yL yB}{h:Int}{known:yL yU}{b:Bool}{c:Commit}{n:Nat}{x:Claim}(hx:x∈Zh1 id h known b c n):∃k o r,k < n/\c.1.2.1[k]? =some o/\c.2[k]? =some r/\ZbQ id h known b k o r=some x:=by
 unfold Zh1 at hx;obtain⟨k,hk,hx⟩:=List.mem_filterMap.1 hx;unfold Zma at hx;obtain⟨o,ho,hx⟩:=yf.1 hx;obtain⟨r,hr,hx⟩:=yf.1 hx;exact⟨k,o,r,List.mem_range.1 hk,ho,hr,hx⟩
theorem Zo3{id:yL yB}{h:Int}{known:yL yU}{b:Bool}{k:Nat}{o:Out}{r:Qy}{x:Claim}(hx:ZbQ id h known b k o r=some x):x.1=(id,(k:Int))/\x.2.1=o:=by
 unfold ZbQ at hx;obtain⟨q,hq,hx⟩:=yf.1 hx;obtain⟨e,he,hx⟩:=yf.1 hx;split at hx
 ·obtain⟨s,hs,hx⟩:=yf.1 hx;obtain⟨e2,he2,hx⟩:=yp.1 hx;rw[<-hx];exact⟨rfl,rfl⟩
 ·cases hx;exact⟨rfl,rfl⟩
theorem ZKi{ch:Chan}{own:Int}{per:yU}{c:Commit}(w:CmC ch own per c)(id:yL yB)(h:Int)(known:yL yU)(me:Int):ZKX (ZsQ id h known me own c):=by
 have ho:=w.outs;have hs:=w.same;unfold ZsQ;split
 ·refine⟨Nat.le_trans (ZyJ ..) (by omega),λx hx=> ?_⟩;obtain⟨k,o,r,hk,h1,h2,h3⟩:=Zwi hx;rw[(Zo3 h3).2];exact(w.ok o (ybc h1)).2.2.1
 ·exact⟨by simp,λx hx=>by cases hx⟩
noncomputable def msF(a p:yU):yU:=yaf ((a.toNat+(ZFZ ZBO p (B a.toNat)).toNat) % ord)
theorem ZIy(a p:yU):W1 yD a p=some (msF a p):=by
 unfold W1;rw[Wj,ya,Zwb (by decide),ya,ZBS,ya];rfl
noncomputable def kyF(kit:Kit)(c:Commit)(per:yU)(x:Claim):yU:=
 if x.1.2 < 0 then 0 else match c.2[x.1.2.toNat]? with|none=>0|some r=>if r.1=1 then msF kit.2.2.1 per else msF kit.2.2.2.1 per
theorem ZyL(kit:Kit)(c:Commit)(per:yU){l:yL Claim}(h:l.length<=20)(hc:c.2.length<=100):QN yD kit c per l=some (l.map (kyF kit c per)):=by
 unfold QN
 have q:((decide ((l.length:Int)=(l.length:Int)))&&(ZeR (l.length:Int) 8))=true:=by
  rw[yY rfl,Bool.true_and];unfold ZeR ZwY;rw[yY (show(0:Int)<=(l.length:Int) by omega),Bool.true_and,yay];rw[Bool.and_eq_true,yN,yN];simp only[Zk,maxLen];omega
 rw[yW q,yay]
 have e:=Zs (step:=Wr yD) l.length (λk:Nat=>(per,l,(l.length:Int),(k:Int),kit,c,([]:yL Unit),(l.take k).map (kyF kit c per)++yv (l.length - k) (0:yU))) (x:=(kit,c,([]:yL Unit),l.map (kyF kit c per))) (by
  intro k hk;obtain⟨x,hx,_⟩:=Zg hk
  have zW:((l.take k).map (kyF kit c per)++yv (l.length - k) (0:yU)).length=l.length:=by
   rw[List.length_append,yy,yae,List.length_replicate];omega
  have yM:yv (l.length - k) (0:yU)=0::yv (l.length - (k+1)) 0:=by
   rw[show l.length - k=(l.length - (k+1))+1 by omega,List.replicate_succ]
  have hat:((l.take k).map (kyF kit c per)++yv (l.length - k) (0:yU))[k]? =some 0:=by
   rw[List.getElem?_append_right (by rw[yy,yae];omega),yM,yy,yae,show k - min k l.length=0 by omega];rfl
  have hset:∀v,((l.take k).map (kyF kit c per)++yv (l.length - k) (0:yU)).set k v=(l.take k).map (kyF kit c per)++v::yv (l.length - (k+1)) 0:=by
   intro v;rw[List.set_append_right _ _ (by rw[yy,yae];omega),yM,yy,yae,show k - min k l.length=0 by omega];rfl
  have hnext:(l.take (k+1)).map (kyF kit c per)++yv (l.length - (k+1)) (0:yU)=(l.take k).map (kyF kit c per)++kyF kit c per x::yv (l.length - (k+1)) 0:=by
   rw[Vl hx,yai,List.append_assoc];rfl
  unfold Wr;dsimp only;rw[yW (ZG hk),Zl hx,ya,hnext,Zp (by omega)];rw[show kyF kit c per x=(if x.1.2 < 0 then 0 else match c.2[x.1.2.toNat]? with|none=>0|some r=>if r.1=1 then msF kit.2.2.1 per else msF kit.2.2.2.1 per) from rfl]
  by_cases h0:x.1.2 < 0
  ·rw[yW (yY h0),yW h0,yM]
  ·rw[yX (by rw[yN];exact h0),yX h0];by_cases h1:x.1.2 >= (c.2.length:Int)
   ·rw[yW (yY h1),List.getElem?_eq_none (by omega),yM]
   ·rw[yX (by rw[yN];exact h1)];obtain⟨r,hr,_⟩:=Zg (l:=c.2) (k:=x.1.2.toNat) (by omega)
    have hi:idx c.2 x.1.2=some r:=by
     unfold idx;rw[yW (by omega),hr]
    rw[hi,ya,hr];dsimp only;by_cases h2:r.1=1
    ·rw[yW (beq_iff_eq.2 h2),yW h2,ZIy,ya,zW,yW (ZZ (by omega) (by omega)),yay,hat,ya,hset]
    ·rw[yX (by rw[yT];exact h2),yX h2,ZIy,ya,zW,yW (ZZ (by omega) (by omega)),yay,hat,ya,hset]) (by
  unfold Wr;dsimp only;rw[yX (by rw[Zz];decide),yak,Nat.sub_self,List.replicate_zero,List.append_nil]) (by omega)
 have e:Zc (Wr yD) yD (per,l,(l.length:Int),(0:Int),kit,c,([]:yL Unit),([]:yL yU)++yv (l.length - 0) (0:yU))=_:=e;rw[List.nil_append,Nat.sub_zero] at e;rw[e,ya]
theorem ZKj(s:yG)(known:yL yU):∃b,Vk yD s known=some b/\(b=true->known.length<=20):=by
 unfold Vk;by_cases h:(s.2.2.1.length:Int)<=20
 ·rw[yW (yY h)];exact⟨_,rfl,λq=>by have:=yF q;omega⟩
 ·rw[yX (by rw[yN];exact h)];exact⟨false,rfl,λq=>absurd q (by decide)⟩
theorem ZyM{id:yL yB}{h:Int}{known:yL yU}{b:Bool}{c:Commit}:∀n,(Zh1 id h known b c n).Pairwise λx y=>x.1.2≠y.1.2
 |0=>by unfold Zh1;exact List.Pairwise.nil
 |n+1=>by
  rw[Znk,List.pairwise_append];refine⟨ZyM n, ?_,λx hx y hy=> ?_⟩
  ·cases Zma id h known b c n with
   |none=>exact List.Pairwise.nil
   |some z=>exact List.pairwise_singleton _ _
  ·obtain⟨k,o,r,hk,_,_,h3⟩:=Zwi hx
   cases hz:Zma id h known b c n with
   |none=>rw[hz] at hy;cases hy
   |some z=>
    rw[hz,Option.toList_some,yao] at hy;subst hy;unfold Zma at hz;obtain⟨o2,_,hz⟩:=yf.1 hz;obtain⟨r2,_,hz⟩:=yf.1 hz;rw[(Zo3 h3).1,(Zo3 hz).1];show(k:Int)≠(n:Int);omega
theorem ZyN{l:yL yU}{p k:yU}(h:Zwh l p=some k):B k.toNat=p:=by
 have:=ZGk (l:=l) (p:=p) (e:=k) h;simpa using this
theorem Zwj{r:Qy}(hr:r.1=2\/r.1=3\/r.1=4)(b:Bool)(id:yL yB)(h:Int)(known:yL yU)(n:Nat)(o:Out):ZbQ id h known b n o r=none:=by
 have:ZiN r.1 b=none:=by
  unfold ZiN;split
  ·rw[yX (by omega),yX (by omega),yX (by omega)]
  ·rw[yX (by omega),yX (by omega)]
 unfold ZbQ;rw[this];rfl
theorem ZyO{r:Qy}(hr:r.1=1){o:Out}{a b:yU}{w:Int}(hl:o.2=Zl8 a b w)(id:yL yB)(h:Int)(known:yL yU)(n:Nat):(∃x,ZbQ id h known true n o r=some x)/\ZbQ id h known false n o r=none:=by
 have w1:ZiN r.1 true=some (1,false):=by rw[hr];rfl
 have w2:ZiN r.1 false=none:=by rw[hr];rfl
 refine⟨⟨((id,(n:Int)),o,1,0,opF h ([b],0,w,0),0), ?_⟩, ?_⟩
 ·unfold ZbQ;rw[w1,ya,hl];rfl
 ·unfold ZbQ;rw[w2];rfl
theorem Zks(p:yU):∃o,QO yD p=some o/\o.length=8:=by
 unfold QO
 obtain⟨x,h1,h2⟩:=WW (step:=VF yD) 8 (λk s=>∃c,s=(p,(8:Int),(k:Int),c)/\c.length=8) (λx=>x.length=8) (i:=(p,(8:Int),(0:Int),([0,0,0,0,0,0,0,0]:yL yB))) ⟨_,rfl,rfl⟩ (by omega) (by
  rintro k _ hk ⟨c,rfl,hc⟩;left;obtain⟨e,he,_⟩:=Zg (l:=c) (k:=k) (by omega);unfold VF;dsimp only;rw[yW (yY (by omega)),ZP (z:=8*(k:Int)) (by omega) (by omega),ZP (z:=56 - 8*(k:Int)) (by omega) (by omega),yW (yY (by omega)),yW (ZZ (by omega) (by omega)),yay,Nat.zero_add,he,ya,Zp (by omega)];exact⟨_,rfl,_,rfl,by rw[List.length_set];exact hc⟩) (by
  rintro _ ⟨c,rfl,hc⟩;unfold VF;dsimp only;rw[yX (ynd (by omega))];exact⟨_,rfl,hc⟩)
 rw[h1,ya];exact⟨_,rfl,by simp[h2]⟩
theorem ZyP(r p:yU){m:yL yB}(hm:m.length=32):∃k,W2 yD r p m=some k:=by
 unfold W2;obtain⟨a,a1,a2⟩:=Zks r;obtain⟨b,b1,b2⟩:=Zks p
 obtain⟨c,c1,c2⟩:=ZBT (s:=ZIr) (ls:=[a,b,m]) (by decide) (by simp) (by
  intro l hl;simp only[List.mem_cons,List.not_mem_nil,or_false] at hl;rcases hl with rfl|rfl|rfl <;> omega)
 obtain⟨k,k1,k2⟩:=Zv1 c2;rw[a1,ya,b1,ya,c1,ya,k1,ya];exact⟨_,rfl⟩
theorem tk1:tk 1=1:=Zob ZAb
theorem ZKk(n:Nat):sc 1 n=1:=by
 rw[<-ycl,ZvZ,tk1,show(1:yU).toNat=1 from rfl,Nat.one_pow]
 rfl
theorem ZKl(p:yU)(h:IsPt p.toNat):ad p 1=p:=by
 rw[<-ycl,ZAm,Zob h,tk1];show p.toNat*1 % mdl=_;rw[Nat.mul_one,Nat.mod_eq_of_lt h.2.1]
instance(k:yU):Decidable (Key k):=by unfold Key;infer_instance
theorem ZH6(k:yU):Ziu yD k=some (decide (Key k)):=by
 unfold Ziu;rw[Zfd,ya];by_cases h:k.toNat < ord
 ·rw[yW (yY h)];congr 1;by_cases h0:k=0
  ·subst h0;rw[yZ (by unfold Key;exact λh=>absurd h.1 (by decide))];rfl
  ·have:0 < k.toNat:=by
    rcases Nat.eq_zero_or_pos k.toNat with h1|h1
    ·exact absurd (ycl.1 h1) h0
    ·exact h1
   rw[yY (p:=Key k) ⟨this,h⟩];exact bne_iff_ne.2 h0
 ·rw[yX (by rw[yN];exact h),yZ (λhk=>h hk.2)]
theorem ZH7{k:yU}(hk:Key k){m:yL yB}(hm:m.length=32):∃s,ZfT yD k m=some s/\YS yD (B k.toNat) m s=some true:=by
 obtain⟨a,a1,a2⟩:=Zks k
 obtain⟨c,c1,c2⟩:=ZBT (s:=ZIs) (ls:=[a,m]) (by decide) (by simp) (by
  intro l hl;simp only[List.mem_cons,List.not_mem_nil,or_false] at hl;rcases hl with rfl|rfl <;> omega)
 obtain⟨n,n1,n2⟩:=Zv1 c2;obtain⟨x,x1⟩:=ZyP (B n.toNat) (B k.toNat) hm;refine⟨(B n.toNat,yaf ((n.toNat+(yaf (x.toNat*k.toNat % ord)).toNat) % ord)), ?_, ?_⟩
 ·unfold ZfT;rw[ZH6,ya,yY hk,yX (by decide),a1,ya,c1,ya,n1,ya];unfold ZfS;rw[Wj,ya,ZAo,ZKl _ (Zv0 _),ya,Wj,ya,x1,ya,ZHK,ya,ZBS,ya];rfl
 ·unfold YS Zat
  have hr:Xr yD (yaf ((n.toNat+(yaf (x.toNat*k.toNat % ord)).toNat) % ord))=some true:=by
   rw[Zfd,Zrz,yY Znf]
  dsimp only;rw[yX (by rw[yT];exact ZKU hk),XQ,yY (Zv0 _),ya,yX (by decide),XQ,yY (show IsPt (1:yU).toNat from ZAb),ya,yX (by decide),XQ,yY (Zv0 _),ya,yX (by decide),hr,ya,yX (by decide),x1,ya,ZhW,ya,ZFH,ya,ZAn (by simp),ya,Wj,ya,ya]
  refine congrArg some ?_;rw[yT,ZIv,Zrz,ZLp, <-ycl,ZhX]
  have e1:(tk (sc 1 (ord - 1))).toNat=1:=by
   rw[ZKk,tk1];rfl
  unfold ZiM ZiM ZiM ZiM;rw[Zrw (Ziv _),Zob (Zv0 _),Zob (Zv0 _),e1,Nat.one_mul,Nat.mul_one,ZhX,ZhX,Nat.mod_mod,Nat.mod_mod, <-Nat.mul_mod, <-Nat.pow_add];rw[Nat.mul_comm k.toNat, <-ZhX, <-ZhX, <-ZFF,Nat.add_mod_mod,ZFF]
theorem ite_some{α:Type}{c:Prop}[Decidable c]{a b:yO α}(h1:∃x,a=some x)(h2:∃x,b=some x):∃x,(if c then a else b)=some x:=by
 split
 ·exact h1
 ·exact h2
theorem ZAC(p:yU){m:yL yB}(hm:m.length=32)(s:Sig):∃b,YS yD p m s=some b:=by
 obtain⟨x,x1⟩:=ZyP s.1 p hm
 have h:∃b,Zat yD p m 1 s=some b:=by
  unfold Zat
  rw[XQ,XQ,XQ,Zfd,ya,ya,ya,ya,x1,ya,ZhW,ya,ZFH,ya,ZAn (by simp),ya,Wj,ya];exact ite_some ⟨_,rfl⟩ (ite_some ⟨_,rfl⟩ (ite_some ⟨_,rfl⟩ (ite_some ⟨_,rfl⟩ (ite_some ⟨_,rfl⟩ ⟨_,rfl⟩))))
 obtain⟨b,hb⟩:=h;unfold YS;rw[hb,ya];exact⟨_,rfl⟩
theorem ZDo{ks:yL yU}{l:Z3}{w:Wh}{m:yL yB}{b:Branch}(hn:ks.length<=100)(hw:w.2.1.length=ks.length)(hm:m.length=32):
 ∃x,Zc (XC yD) yD (ks,(ks.length:Int),(0:Int),l,w,m,b)=some x/\((∀(i:Nat)p s,ks[i]? =some p->w.2.1[i]? =some s->YS yD p m s=some true)->x=.inr (l,w,m,b)):=by
 refine WW (step:=XC yD) ks.length (λk q=>q=(ks,(ks.length:Int),(k:Int),l,w,m,b)) _ (i:=(ks,(ks.length:Int),(0:Int),l,w,m,b)) rfl (by omega) ?_ ?_
 ·rintro k _ hk rfl;obtain⟨p,hp,_⟩:=Zg hk;obtain⟨s,hs,_⟩:=Zg (l:=w.2.1) (k:=k) (by omega);obtain⟨v,hv⟩:=ZAC p hm s;unfold XC;dsimp only;rw[yW (ZG hk),Zl hp,ya,Zl hs,ya,hv,ya,Zp (by omega)]
  cases v with
  |true=>left;exact⟨_,rfl,rfl⟩
  |false=>
   right;refine⟨_,rfl,λh=> ?_⟩;have:=h k p s hp hs;rw[hv] at this;cases this
 ·rintro _ rfl;unfold XC;dsimp only;rw[yX (by rw[Zz];decide)];exact⟨_,rfl,λ_=>rfl⟩
theorem ZGn{l:Z3}(hl:Xm l/\Wx l){br:Nat}{p x:yU}{af dl:Int}(hb:l[br]? =some ([p],af,dl,x)){sg:Sig}{sec:yU}{m:yL yB}(hm:m.length=32)(h a:Int)(hv:YS yD p m sg=some true)(hx:x=0\/x=B sec.toNat):
 QC yD l ((br:Int),([sg]:yL Sig),sec) m h a=some (if h < af\/a < dl then 11 else 0):=by
 have hbl:br < l.length:=(yq.1 hb).1;obtain⟨q,q1,q2⟩:=ZDo (ks:=[p]) (l:=l) (w:=((br:Int),([sg]:yL Sig),sec)) (m:=m) (b:=([p],af,dl,x)) (by simp) (by simp) hm;have h4:=hl.1.2.1
 have hq:q=.inr (l,((br:Int),([sg]:yL Sig),sec),m,([p],af,dl,x)):=by
  refine q2 ?_;intro i p' s' h1 h2
  match i,h1,h2 with
  |0,h1,h2=>
   cases h1;cases h2
   exact hv
  |i+1,h1,h2=>simp at h1
 subst hq;unfold QC;rw[Zdv hl.1 hl.2,ya,yX (by decide)];dsimp only;rw[yX (ynd (by omega)),yX (ynd (by omega)),Zl hb,ya];dsimp only;by_cases h1:h < af
 ·rw[yW (yY h1),yW (.inl h1)]
 rw[yX (by rw[yN];exact h1)];by_cases h2:a < dl
 ·rw[yW (yY h2),yW (.inr h2)]
 rw[yX (by rw[yN];exact h2)];have hno:¬(h < af\/a < dl):=by omega
 have q1':Zc (XC yD) yD ([p],(([p]:yL yU).length:Int),(0:Int),l,((br:Int),([sg]:yL Sig),sec),m,([p],af,dl,x))=some (.inr (l,((br:Int),([sg]:yL Sig),sec),m,([p],af,dl,x))):=q1;rw[yX hno];by_cases h3:x=0
 ·rw[yX (by simp[h3]),yX (by simp),q1',ya]
 ·rw[yW (bne_iff_ne.2 h3),Wj,ya]
  have h5:B sec.toNat=x:=by
   rcases hx with hx|hx
   ·exact absurd hx h3
   ·exact hx.symm
  rw[yX (by simp[h5]),yX (by simp),q1',ya]
theorem ZAD{t:Tx}(hl:TxL t)(h1:0 < t.1.length)(h2:t.1.length<=64)(h3:t.2.1.length<=64)(h4:0<=t.2.2)(hI:W3 t.1.length (ZyG t.1))(hO:W3 t.2.1.length (ZrO t.2.1)):Y4 yD t=some true:=by
 obtain⟨x,x1,x2⟩:=Zt3 t (by omega);obtain⟨y,y1,y2⟩:=ZrQ hl (Zei t.1)
 have x3:x=.inr (t,Zei t.1):=by
  rcases x2 with⟨_,h⟩|⟨h,_⟩
  ·exact h
  ·exact absurd hI h
 have y3:y=.inr (t,Zei t.1):=by
  rcases y2 with⟨_,h⟩|⟨h,_⟩
  ·exact h
  ·exact absurd hO h
 rw[x3] at x1;rw[y3] at y1;unfold Y4;rw[yX (show¬decide ((t.1.length:Int) < 1)=true by rw[yN];omega),yX (show¬decide ((t.1.length:Int) > 64)=true by rw[yN];omega),yX (show¬decide ((t.2.1.length:Int) > 64)=true by rw[yN];omega),yX (show¬decide (t.2.2 < 0)=true by rw[yN];omega),x1,ya];dsimp only;rw[y1,ya]
structure ClOk(l:List Claim):Prop where
 pos:0 < l.length
 len:l.length<=20
 idl:∀x,x∈l->x.1.1.length=32
 at_:∀x,x∈l->0<=x.1.2/\x.1.2 < 64
 ne:∀(i j:Nat)x y,i < j->l[i]? =some x->l[j]? =some y->x.1≠y.1
structure MkT(l:List Claim)(o:Out)(t:Tx):Prop where
 out:t.2=([o],0)
 src:t.1.map (λx=>x.1)=l.map λx=>x.1
 wit:∀x,x∈t.1->WitIn x.2
def bare(l:yL Claim):yL In:=l.map λx=>(x.1,((0:Int),([]:yL Sig),(0:yU)))
noncomputable def idT(l:yL Claim)(o:Out):yL yB:=nmF (bare l,[o],(0:Int))
theorem MkT.len{l:yL Claim}{o:Out}{t:Tx}(h:MkT l o t):t.1.length=l.length:=by
 have:=congrArg List.length h.src
 rwa [yy,yy] at this
theorem MkT.at1{l:yL Claim}{o:Out}{t:Tx}(h:MkT l o t){j:Nat}{x:In}(hx:t.1[j]? =some x):∃y,l[j]? =some y/\y.1=x.1:=by
 have e:(t.1.map (λx=>x.1))[j]? =(l.map λx=>x.1)[j]? :=by rw[h.src]
 rw[yaj,yaj,hx] at e;obtain⟨y,h1,h2⟩:=yp.1 e.symm;exact⟨y,h1,h2⟩
theorem MkT.at2{l:yL Claim}{o:Out}{t:Tx}(h:MkT l o t){j:Nat}{y:Claim}(hy:l[j]? =some y):∃x,t.1[j]? =some x/\x.1=y.1:=by
 have e:(t.1.map (λx=>x.1))[j]? =(l.map λx=>x.1)[j]? :=by rw[h.src]
 rw[yaj,yaj,hy] at e;obtain⟨x,h1,h2⟩:=yp.1 e;exact⟨x,h1,h2⟩
theorem ZB5{l:yL Claim}{o:Out}:MkT l o (bare l,[o],0):=by
 refine⟨rfl, ?_, ?_⟩
 ·unfold bare;rw[List.map_map];rfl
 ·intro x hx;unfold bare at hx;obtain⟨y,_,rfl⟩:=ybl.1 hx;exact⟨show(0:Int)<=0 by decide,show(0:Int) < 4 by decide,by simp⟩
theorem MkT.plain{l:yL Claim}{o:Out}{t:Tx}(h:MkT l o t):ZbP t=ZbP (bare l,[o],0):=by
 obtain⟨ins,q⟩:=t;have h1:q=([o],0):=h.out;subst h1
 have e:∀a:yL In,cat inF a=((a.map λx=>x.1).map λp:ZI=>p.1++Xl p.2.toNat).flatten:=λa=>by
  unfold cat
  rw[List.map_map];rfl
 have h2:ins.map (λx=>x.1)=l.map λx=>x.1:=h.src;have h3:(bare l).map (λx=>x.1)=l.map λx=>x.1:=(ZB5 (o:=o)).src
 have h4:ins.length=(bare l).length:=by
  have:=h.len;unfold bare;rw[yy];exact this
 unfold ZbP;dsimp only;rw[e,e,h2,h3,h4]
theorem ZyQ{l:yL Claim}(hc:ClOk l){o:Out}(ho:Zkr o){t:Tx}(h:MkT l o t):Y4 yD t=some true/\QA yD t=some (idT l o)/\(idT l o).length=32:=by
 have zW:=h.len;have hpl:=h.plain;have p0:=hc.pos;have p1:=hc.len;have q1:=λ{j:Nat}{x:In}(hx:t.1[j]? =some x)=>h.at1 hx;have q2:=h.wit;have ho':=h.out;obtain⟨ins,q⟩:=t;have h1:q=([o],0):=ho';subst h1
 have hl:TxL (ins,[o],0):=⟨by dsimp only at zW ⊢;omega,by simp,λx hx=>by
  rw[yao.1 hx];exact⟨by have:=ho.2.1.2.1;omega,λb hb=>by have:=(ho.2.1.2.2 b hb).1;omega⟩⟩
 have hI:W3 ins.length (ZyG ins):=by
  intro k hk x hx;obtain⟨y,y1,y2⟩:=q1 hx;have ha:=hc.at_ y (ybc y1);rw[y2] at ha;refine⟨ha,q2 x (ybc hx),λj z hj hz=> ?_⟩;obtain⟨v,v1,v2⟩:=q1 hz;rw[<-v2, <-y2];exact hc.ne j k v y hj v1 y1
 have hO:W3 [o].length (ZrO [o]):=by
  intro k hk x hx;have:k=0:=by simp at hk;omega
  subst this;cases hx;refine⟨ho, ?_⟩;show amts [o]<=_;unfold amts;have:=ho.1;simp;omega
 dsimp only at zW;have hr:=ZAD hl (by dsimp only;omega) (by dsimp only;omega) (by simp) (by simp) hI hO
 have hw:ZFK (ins,[o],0):=⟨λx hx=>by
  obtain⟨j,j1,j2⟩:=ybt hx;obtain⟨y,y1,y2⟩:=q1 (j:=j) (x:=x) (by rw[<-j2];exact yz j1);rw[<-y2];exact hc.idl y (ybc y1),by dsimp only;omega⟩
 have hok:ZC5 (ins,[o],0):=by
  refine⟨by dsimp only;omega,by dsimp only;omega,by simp,by simp,λx hx=> ?_,λx hx=> ?_⟩
  ·obtain⟨j,j1,j2⟩:=ybt hx;obtain⟨r1,r2,_⟩:=hI j j1 x (by rw[<-j2];exact yz j1);exact⟨r1.1,r1.2,r2.1,r2.2.1,r2.2.2⟩
  ·rw[yao.1 hx];exact⟨ho.1.1,ho.1.2,ho.2.1,ho.2.2⟩
 obtain⟨g1,g2⟩:=Zyo hw hok;refine⟨hr, ?_, ?_⟩
 ·unfold QA;rw[hr,ya,yX (by decide),g1,ya,Zv7 (by decide) (by simp) (Znj g2),ya];unfold idT nmF;rw[hpl]
 ·unfold idT nmF;exact Sha.ZK2 _
theorem ZyR{ins:yL In}(i0:0 < ins.length)(i1:ins.length<=64)(hx:∀x,x∈ins->x.2.2.1.length<=12){outs:yL Out}(h0:0 < outs.length)(h1:outs.length<=64)(ho:∀o,o∈outs->Xm o.2)(note:Int):∃u v,Qf yD (ins,outs,note)=some (note,u,ins,v,outs):=by
 unfold Qf ZfV ZfU ZeA Zee;dsimp only
 have he:¬outs.isEmpty=true:=by
  intro h;rw[List.isEmpty_iff] at h;rw[h] at h0;simp at h0
 have hi:¬ins.isEmpty=true:=by
  intro h;rw[List.isEmpty_iff] at h;rw[h] at i0;simp at i0
 rw[yX hi,yW (ZX (by omega) (by omega)),ya,yX he,yW (ZX (by omega) (by omega)),ya];dsimp only;generalize hz:(([]:yL In),([]:yL Out),(0:Int))=z
 have l0:Zc (Ws yD) yD ((ins.length:Int),(0:Int),note,z,[()],ins,[()],outs)=some (note,z,[()],ins,[()],outs):=by
  refine Zs ins.length (λk:Nat=>((ins.length:Int),(k:Int),note,z,[()],ins,[()],outs)) ?_ ?_ (by omega)
  ·intro k hk;obtain⟨x,e0,em⟩:=Zg hk
   have hs:Ze7 yD x.2.2.1=some x.2.2.1:=by
    have:=hx x em;unfold Ze7;rw[yW (ZX (by omega) (by omega))]
   unfold Ws;dsimp only;rw[yW (ZG hk),yW (ZZ (by omega) (by omega)),yay,e0,ya,hs,ya,yW (ZZ (by omega) (by omega)),ya,Zp (by omega),show ins.set k (x.1,(x.2.1,x.2.2.1,x.2.2.2))=ins from set_same e0]
  ·unfold Ws;dsimp only;rw[yX (by rw[Zz];decide)]
 rw[l0,ya];dsimp only
 have l1:Zc (Wu yD) yD ((outs.length:Int),(0:Int),note,z,[()],ins,[()],outs)=some (note,z,[()],ins,[()],outs):=by
  refine Zs outs.length (λk:Nat=>((outs.length:Int),(k:Int),note,z,[()],ins,[()],outs)) ?_ ?_ (by omega)
  ·intro k hk;obtain⟨o,hok,hom⟩:=Zg hk;obtain⟨g1,g2,g3⟩:=ho o hom
   have hbe:¬o.2.isEmpty=true:=by
    intro h;rw[List.isEmpty_iff] at h;rw[h] at g1;simp at g1
   have hbr:XG yD o.2=some ([()],o.2):=by
    unfold XG VD;rw[yX hbe,yW (ZX (by omega) (by omega))]
   unfold Wu;dsimp only;rw[yW (ZG hk),yW (ZZ (by omega) (by omega)),yay,hok,ya,hbr,ya];dsimp only
   have l2:Zc (Wt yD) yD ((k:Int),(outs.length:Int),(k:Int),(o.2.length:Int),(0:Int),note,z,[()],ins,[()],outs,[()],o.2)=some ((k:Int),(outs.length:Int),(k:Int),note,z,[()],ins,[()],outs,[()],o.2):=by
    refine Zs o.2.length (λj:Nat=>((k:Int),(outs.length:Int),(k:Int),(o.2.length:Int),(j:Int),note,z,[()],ins,[()],outs,[()],o.2)) ?_ ?_ (by omega)
    ·intro j hj;obtain⟨b,hb,hbm⟩:=Zg hj;obtain⟨b1,_⟩:=g3 b hbm
     have hk9:Xj yD b.1=some b.1:=by
      unfold Xj;rw[yW (ZX (by omega) (by omega))]
     unfold Wt;dsimp only;rw[yW (ZG hj),yW (ZZ (by omega) (by omega)),yay,hb,ya,hk9,ya,yW (ZZ (by omega) (by omega)),ya,Zp (by omega),show o.2.set j (b.1,b.2.1,b.2.2.1,b.2.2.2)=o.2 from set_same hb]
    ·unfold Wt;dsimp only;rw[yX (by rw[Zz];decide)]
   rw[l2,ya];dsimp only;rw[yW (ZZ (by omega) (by omega)),yay,hok,ya,Zp (by omega),show outs.set k (o.1,o.2)=outs from set_same hok]
  ·unfold Wu;dsimp only;rw[yX (by rw[Zz];decide)]
 rw[l1,ya];exact⟨_,_,rfl⟩
theorem ZGo{e:yU}(he:Key e):Zeg yD [e]=some false:=by
 have hz:(e==0)=false:=by
  rw[beq_eq_false_iff_ne];rintro rfl;exact absurd he.1 (by decide)
 have h1:ZfP yD e=some false:=by
  unfold ZfP;rw[hz,yX (by decide),Zfd,ya,yY he.2];rfl
 have l0:Zc (Y5 yD) yD ([e],(1:Int),(0:Int))=some (.inr ()):=by
  refine Zs 1 (λk:Nat=>([e],(1:Int),(k:Int))) ?_ ?_ (by omega)
  ·intro k hk;have:k=0:=by omega
   subst this;unfold Y5;dsimp only;rw[yW (yY (by decide)),Zl (k:=0) (show[e][0]? =some e from rfl),ya,h1,ya,yX (by decide)]
   rfl
  ·unfold Y5;dsimp only;rw[yX (show¬decide (((1:Nat):Int) < 1)=true by decide)]
 unfold Zeg ZbN;show((Zc (Y5 yD) yD ([e],(1:Int),(0:Int))).bind _).bind _=_;rw[l0,ya];rfl
theorem ZDp{l:yL Claim}(hc:ClOk l){o:Out}(ho:Zkr o){t:Tx}(ht:MkT l o t){k:Nat}{y:Claim}(hy:l[k]? =some y){br:Int}(b0:0<=br)(b1:br < 4){e:yU}(he:Key e)(sec:yU):
 ∃sg,YS yD (B e.toNat) (idT l o) sg=some true/\ZlW yD t (k:Int) br [e] sec=some ((t.1.set k (y.1,(br,[sg],sec)),t.2),0):=by
 obtain⟨r1,r2,r3⟩:=ZyQ hc ho ht;obtain⟨x,hx,hxy⟩:=ht.at2 hy;have hkl:k < t.1.length:=(yq.1 hx).1;have zW:=ht.len;have p0:=hc.pos;have p1:=hc.len;obtain⟨sg,s1,s2⟩:=ZH7 he r3;refine⟨sg,s2, ?_⟩;have hwit:WitIn (br,([]:yL Sig),sec):=⟨b0,b1,by simp⟩
 have l0:Zc (QP yD) yD ((k:Int),[e],(1:Int),(0:Int),t,(([]:yL In),([]:yL Out),(0:Int)),br,sec,([]:yL Sig),idT l o)=some ((k:Int),t,(([]:yL In),([]:yL Out),(0:Int)),br,sec,[sg],idT l o):=by
  refine Zs 1 (λi:Nat=>((k:Int),[e],(1:Int),(i:Int),t,(([]:yL In),([]:yL Out),(0:Int)),br,sec,(if i=0 then([]:yL Sig) else[sg]),idT l o)) ?_ ?_ (by omega)
  ·intro i hi;have:i=0:=by omega
   subst this;unfold QP;dsimp only;rw[yW (yY (by decide)),Zl (k:=0) (show[e][0]? =some e from rfl),ya,s1,ya]
   rfl
  ·unfold QP;dsimp only;rw[yX (show¬decide (((1:Nat):Int) < 1)=true by decide)];rfl
 obtain⟨u,v,hcp⟩:=ZyR (ins:=t.1) (by omega) (by omega) (λz hz=>(ht.wit z hz).2.2) (outs:=[o]) (by simp) (by simp) (λz hz=>by rw[yao.1 hz];exact ho.2.1) 0;have ht2:t=(t.1,[o],0):=by rw[<-ht.out]
 unfold ZlW;rw[r1,ya,yX (by decide),yX (show¬decide ((k:Int) < 0)=true by rw[yN];omega),yX (show¬decide ((k:Int) >= (t.1.length:Int))=true by rw[yN];omega),ZAz,ya,yY hwit,yX (by decide),yX (show¬decide ((([e]:yL yU).length:Int) > 12)=true by simp),ZGo he,ya,yX (by decide),r2,ya];show(Zc (QP yD) yD ((k:Int),[e],(1:Int),(0:Int),t,(([]:yL In),([]:yL Out),(0:Int)),br,sec,([]:yL Sig),idT l o)).bind _=_;rw[l0,ya];dsimp only;rw[show Qf yD t=some (0,u,t.1,v,[o]) by rw[ht2];exact hcp,ya];dsimp only;rw[yW (ZZ (by omega) (by omega)),yay,hx,ya,hxy,ht.out]
theorem ZKm{l:yL Claim}{o:Out}{t:Tx}(ht:MkT l o t){k:Nat}{y:Claim}(hy:l[k]? =some y){w:Wh}(hw:WitIn w):MkT l o (t.1.set k (y.1,w),t.2):=by
 refine⟨ht.out, ?_, ?_⟩
 ·show(t.1.set k (y.1,w)).map (λx=>x.1)=_;rw[List.map_set,ht.src];exact set_same (by rw[yaj,hy];rfl)
 ·intro x hx;rcases List.mem_or_eq_of_mem_set hx with h|rfl
  ·exact ht.wit x h
  ·exact hw
def YG(l:yL Claim):Int:=(l.map λx=>x.2.1.1).sum
theorem ZrR{l:yL Claim}{k:Nat}{x:Claim}(h:l[k]? =some x):YG (l.take (k+1))=YG (l.take k)+x.2.1.1:=by
 unfold YG;rw[Vl h,yai,List.sum_append];simp
theorem ZDq{l:yL Claim}{k:Nat}{x:Claim}(h:l[k]? =some x):bare (l.take (k+1))=bare (l.take k)++[(x.1,((0:Int),([]:yL Sig),(0:yU)))]:=by
 unfold bare;rw[Vl h,yai];rfl
theorem ZyS{ins:yL In}(hl:ins.length<=100){x:Claim}(h:∀y,y∈ins->y.1≠x.1):Zdr yD ins x=some (false,x):=by
 have e:=Zs (step:=Wv yD) ins.length (λk:Nat=>(ins,(ins.length:Int),(k:Int),x)) (x:=.inr x) (by
  intro k hk;obtain⟨y,hy,hm⟩:=Zg hk;unfold Wv ZeB;dsimp only;rw[yW (ZG hk),Zl hy,ya,ya];dsimp only;rw[yX (by rw[yN];exact h y hm),Zp (by omega)]) (by
  unfold Wv;dsimp only;rw[yX (by rw[Zz];decide)]) (by omega)
 have e:Zc (Wv yD) yD (ins,(ins.length:Int),(0:Int),x)=some (.inr x):=e;unfold Zdr ZhO;rw[e,ya];rfl
theorem ZGp{l:yL Claim}(hc:ClOk l){ks:yL yU}(hk:ks.length=l.length)(ho:∀e,e∈ks->e.toNat < ord)(hs:∀k,k<=l.length->0<=YG (l.take k)/\YG (l.take k)<=1125899906842624)(ha:∀x,x∈l->0<=x.2.1.1/\x.2.1.1<=1125899906842624)(fee:Int)(to:Z3):
 ∃x,Zc (XP yD) yD (l,ks,fee,(0:Int),l,(l.length:Int),(0:Int),to,(([]:yL In),([]:yL Out),(0:Int)),(0:Int),([]:yL In),([]:yL Out))=some x/\
  (W3 l.length (λk=>∀e,ks[k]? =some e->e≠0)/\x=.inr (l,ks,fee,YG l,to,(([]:yL In),([]:yL Out),(0:Int)),(0:Int),bare l,([]:yL Out))\/
   ¬W3 l.length (λk=>∀e,ks[k]? =some e->e≠0)/\∃k:Nat,x=.inl (1,to,(([]:yL In),([]:yL Out),(0:Int)),(0:Int),bare (l.take k),([]:yL Out))):=by
 have p1:=hc.len
 have key:∀k,k < l.length->∃x e,l[k]? =some x/\ks[k]? =some e/\Vt yD (YG (l.take k)) x.2.1.1=some (YG (l.take (k+1)),true)/\Zdr yD (bare (l.take k)) x=some (false,x)/\Xr yD e=some true:=by
  intro k hkl;obtain⟨x,hx,hm⟩:=Zg hkl;obtain⟨e,he,hem⟩:=Zg (l:=ks) (k:=k) (by omega);obtain⟨s0,s1⟩:=hs k (by omega);have s2:=(hs (k+1) (by omega)).2;rw[ZrR hx] at s2;refine⟨x,e,hx,he, ?_, ?_, ?_⟩
  ·rw[ZrN s0 s1,yW ⟨ha x hm,s2⟩,ZrR hx]
  ·refine ZyS (by unfold bare;rw[yy,yae];omega) ?_;intro y hy;unfold bare at hy;obtain⟨z,hz,rfl⟩:=ybl.1 hy;obtain⟨j,j1,j2⟩:=ybt hz;have j3:j < k:=by rw[yae] at j1;omega
   have j4:l[j]? =some z:=by
    have:(l.take k)[j]? =some z:=by rw[yz j1,j2]
    rwa [List.getElem?_take_of_lt j3] at this
   exact hc.ne j k z x j3 j4 hx
  ·rw[Zfd,yY (ho e hem)]
 have e:=Zcw (step:=XP yD) l.length (λk:Nat=>(l,ks,fee,YG (l.take k),l,(l.length:Int),(k:Int),to,(([]:yL In),([]:yL Out),(0:Int)),(0:Int),bare (l.take k),([]:yL Out))) (λk=>∀e,ks[k]? =some e->e≠0) (Sum.inr (l,ks,fee,YG l,to,(([]:yL In),([]:yL Out),(0:Int)),(0:Int),bare l,([]:yL Out))) (λk=>Sum.inl (1,to,(([]:yL In),([]:yL Out),(0:Int)),(0:Int),bare (l.take k),([]:yL Out))) ?_ ?_ ?_ (by omega)
 ·exact e
 ·intro k hkl _ hok;obtain⟨x,e,hx,he,h1,h2,h3⟩:=key k hkl;have hz:¬(e==0)=true:=by rw[yT];exact hok e he
  unfold XP;dsimp only;rw[yW (ZG hkl),Zl hx,ya,h1,ya,h2,ya,Zl he,ya,ya,h3,ya];dsimp only;rw[yX (by decide),yX (by decide),yX hz,yX (by decide),yW (ZX (by unfold bare;rw[yy,yae];omega) (by unfold bare;rw[yy,yae];omega)),Zp (by omega),ZDq hx]
 ·intro k hkl _ hno;obtain⟨x,e,hx,he,h1,h2,h3⟩:=key k hkl
  have hz:(e==0)=true:=by
   rw[yT];refine Classical.byContradiction λhne=>hno λe' he'=> ?_;rw[he] at he';cases he';exact hne
  unfold XP;dsimp only;rw[yW (ZG hkl),Zl hx,ya,h1,ya,h2,ya,Zl he,ya];dsimp only;rw[yX (by decide),yX (by decide),yW hz]
 ·intro _;unfold XP;dsimp only;rw[yX (by rw[Zz];decide),yak]
def Sgd(l:yL Claim)(ks:yL yU)(o:Out)(t:Tx)(k:Nat):Prop:=∀(i:Nat)x e,i < k->l[i]? =some x->ks[i]? =some e->∃sg,t.1[i]? =some (x.1,(x.2.2.1,[sg],x.2.2.2.1))/\YS yD (B e.toNat) (idT l o) sg=some true
theorem ZGq{l:yL Claim}(hc:ClOk l){ks:yL yU}(hk:ks.length=l.length)(ho:∀e,e∈ks->Key e)(hb:∀x,x∈l->0<=x.2.2.1/\x.2.2.1 < 4){o:Out}(hco:Zkr o)(to:Z3)(z:Tx)(q:yL In):
 ∃x,Zc (Ww yD) yD (ks,l,(l.length:Int),(0:Int),to,z,(bare l,[o],0),q,([]:yL Out))=some x/\∃t,x=.inr (to,z,t,q,([]:yL Out))/\MkT l o t/\Sgd l ks o t l.length:=by
 have p1:=hc.len;refine WW (step:=Ww yD) l.length (λk s=>∃t,s=(ks,l,(l.length:Int),(k:Int),to,z,t,q,([]:yL Out))/\MkT l o t/\Sgd l ks o t k) _ (i:=(ks,l,(l.length:Int),(0:Int),to,z,(bare l,[o],0),q,([]:yL Out))) ⟨_,rfl,ZB5,λi _ _ hi=>by omega⟩ (by omega) ?_ ?_
 ·rintro k _ hkl ⟨t,rfl,ht,hS⟩;obtain⟨x,hx,hm⟩:=Zg hkl;obtain⟨e,he,hem⟩:=Zg (l:=ks) (k:=k) (by omega);obtain⟨b0,b1⟩:=hb x hm;obtain⟨sg,s1,s2⟩:=ZDp hc hco ht hx b0 b1 (ho e hem) x.2.2.2.1;left;unfold Ww;dsimp only;rw[yW (ZG hkl),Zl hx,ya,Zl he,ya,s2,ya];dsimp only;rw[yX (by decide),Zp (by omega)];refine⟨_,rfl,_,rfl,ZKm ht hx ⟨b0,b1,by simp⟩, ?_⟩;intro i y f hi hy hf;have zW:=ht.len;by_cases hik:i=k
  ·subst hik;rw[hx] at hy;rw[he] at hf;cases hy;cases hf;exact⟨sg,List.getElem?_set_self (by omega),s1⟩
  ·obtain⟨sg',g1,g2⟩:=hS i y f (by omega) hy hf;refine⟨sg', ?_,g2⟩;show(t.1.set k _)[i]? =_;rw[List.getElem?_set_ne (Ne.symm hik)];exact g1
 ·rintro _ ⟨t,rfl,ht,hS⟩;unfold Ww;dsimp only;rw[yX (by rw[Zz];decide)];exact⟨_,rfl,t,rfl,ht,hS⟩
theorem ZGr{l:yL Claim}(hc:ClOk l){ks:yL yU}(hk:ks.length=l.length)(ho:∀e,e∈ks->e.toNat < ord)(hs:∀k,k<=l.length->0<=YG (l.take k)/\YG (l.take k)<=1125899906842624)(ha:∀x,x∈l->0<=x.2.1.1/\x.2.1.1<=1125899906842624)(hb:∀x,x∈l->0<=x.2.2.1/\x.2.2.1 < 4){to:Z3}(hto:Xm to/\Wx to)(fee:Int):
 (∃e,e∈ks/\e=0)/\WG yD l ks to fee=some (([],[],0),1)\/WG yD l ks to fee=some (([],[],0),8)\/
 ∃t o,WG yD l ks to fee=some (t,0)/\Zkr o/\MkT l o t/\Sgd l ks o t l.length:=by
 have p0:=hc.pos;have p1:=hc.len;obtain⟨x,x1,x2⟩:=ZGp hc hk ho hs ha fee to;unfold WG;rw[yX (show¬decide ((l.length:Int) < 1)=true by rw[yN];omega),yX (show¬decide ((l.length:Int) > 64)=true by rw[yN];omega),yX (show¬((l.length:Int)!=(ks.length:Int))=true by rw[yE,hk];simp),Zdv hto.1 hto.2,ya,yX (by decide),x1,ya];rcases x2 with⟨hA,rfl⟩|⟨hA,k,rfl⟩
 ·have hKey:∀e,e∈ks->Key e:=by
   intro e he;obtain⟨j,j1,j2⟩:=ybt he;have hne:=hA j (by omega) e (by rw[<-j2];exact yz j1);refine⟨?_,ho e he⟩;rcases Nat.eq_zero_or_pos e.toNat with h|h
   ·exact absurd (ycl.1 h) hne
   ·exact h
  dsimp only;have hs':=hs l.length (Nat.le_refl _);rw[yak] at hs';by_cases f0:fee < 0
  ·rw[yW (yY f0)];exact .inr (.inl rfl)
  rw[yX (show¬decide (fee < 0)=true by rw[yN];exact f0)];by_cases f1:fee > YG l
  ·rw[yW (yY f1)];exact .inr (.inl rfl)
  rw[yX (show¬decide (fee > YG l)=true by rw[yN];exact f1),ZP (z:=YG l - fee) (by omega) (by omega)];have hco:Zkr (YG l - fee,to):=⟨⟨by dsimp only;omega,by dsimp only;omega⟩,hto⟩;obtain⟨y,y1,t,y2,y3,y4⟩:=ZGq hc hk hKey hb hco to (([]:yL In),([]:yL Out),(0:Int)) (bare l);rw[y1,ya,y2];exact .inr (.inr ⟨t,_,rfl,hco,y3,y4⟩)
 ·dsimp only;left;refine⟨?_,rfl⟩;refine Classical.byContradiction λhno=>hA λj hj e he h0=>hno ⟨e,ybc he,h0⟩
theorem ZKY(a p:yU):B (msF a p).toNat=mixF (B a.toNat) p:=by
 unfold msF mixF;rw[ZIv,ZLo]
theorem ZKZ(a p:yU):(msF a p).toNat < ord:=by
 unfold msF;rw[Zrz];exact Znf
theorem ZK0(kit:Kit)(c:Commit)(per:yU)(x:Claim):(kyF kit c per x).toNat < ord:=by
 have z:(0:yU).toNat < ord:=by decide
 unfold kyF;split
 ·exact z
 ·split
  ·exact z
  ·split <;> exact ZKZ _ _
theorem ZH8{own w:Int}{rev late ow pe:yU}{o:Out}{r:Qy}(ho:own=0\/own=1)(hk:KO own w rev late ow pe o.2 r){b:Bool}{id:yL yB}{h:Int}{known:yL yU}{n:Nat}{x:Claim}(hx:ZbQ id h known b n o r=some x):
 ∃(br:Nat)(p:yU)(af dl:Int)(xp:yU),x.1=(id,(n:Int))/\x.2.1=o/\x.2.2.1=(br:Int)/\o.2[br]? =some ([p],af,dl,xp)/\(xp=0\/xp=B x.2.2.2.1.toNat)/\x.2.2.2.2.1=Zzj af (wi (h+dl))/\(r.1=1/\b=true/\p=late\/r.1≠1/\p=if b=true then ow else pe):=by
 rcases hk with⟨r1,hl⟩|hr|⟨hr,hl,_⟩
 ·cases b with
  |false=>
   rw[(ZyO r1 hl id h known n).2] at hx
   cases hx
  |true=>
   have w1:ZiN r.1 true=some (1,false):=by rw[r1];rfl
   have c1:ZbQ id h known true n o r=some ((id,(n:Int)),o,1,0,opF h ([late],0,w,0),0):=by
    unfold ZbQ;rw[w1,ya,hl];rfl
   rw[c1] at hx;cases hx;exact⟨1,late,0,w,0,rfl,rfl,rfl,by rw[hl];rfl,.inl rfl,rfl,.inl ⟨r1,rfl,rfl⟩⟩
 ·rw[Zwj hr] at hx;cases hx
 ·rcases hr with⟨r1,r2⟩|⟨r1,r2⟩
  ·have hl':o.2=[([rev],0,0,0),([pe],0,0,r.2.2.2.2.1),([ow],r.2.2.2.2.2,w,0)]:=by
    rw[hl];unfold Zh0;rw[yW r2]
   cases b with
   |true=>
    have w1:ZiN r.1 true=some (2,false):=by rw[r1];rfl
    have c1:ZbQ id h known true n o r=some ((id,(n:Int)),o,2,0,opF h ([ow],r.2.2.2.2.2,w,0),0):=by
     unfold ZbQ;rw[w1,ya,hl'];rfl
    rw[c1] at hx;cases hx
    exact⟨2,ow,r.2.2.2.2.2,w,0,rfl,rfl,rfl,by rw[hl'];rfl,.inl rfl,rfl,.inr ⟨by rw[r1];decide,rfl⟩⟩
   |false=>
    have w2:ZiN r.1 false=some (1,true):=by rw[r1];rfl
    cases hs:Zwh known r.2.2.2.2.1 with
    |none=>
     unfold ZbQ at hx;rw[w2,ya,hl',hs] at hx
     cases hx
    |some k=>
     have c1:ZbQ id h known false n o r=some ((id,(n:Int)),o,1,k,opF h ([pe],0,0,r.2.2.2.2.1),opF h ([ow],r.2.2.2.2.2,w,0)):=by
      unfold ZbQ;rw[w2,ya,hl',hs];rfl
     rw[c1] at hx;cases hx;exact⟨1,pe,0,0,r.2.2.2.2.1,rfl,rfl,rfl,by rw[hl'];rfl,.inr (ZyN hs).symm,rfl,.inr ⟨by rw[r1];decide,rfl⟩⟩
  ·have hl':o.2=[([rev],0,0,0),([ow],0,w,r.2.2.2.2.1),([pe],r.2.2.2.2.2,0,0)]:=by
    rw[hl];unfold Zh0;rw[yX (by omega)]
   cases b with
   |false=>
    have w1:ZiN r.1 false=some (2,false):=by rw[r1];rfl
    have c1:ZbQ id h known false n o r=some ((id,(n:Int)),o,2,0,opF h ([pe],r.2.2.2.2.2,0,0),0):=by
     unfold ZbQ;rw[w1,ya,hl'];rfl
    rw[c1] at hx;cases hx
    exact⟨2,pe,r.2.2.2.2.2,0,0,rfl,rfl,rfl,by rw[hl'];rfl,.inl rfl,rfl,.inr ⟨by rw[r1];decide,rfl⟩⟩
   |true=>
    have w2:ZiN r.1 true=some (1,true):=by rw[r1];rfl
    cases hs:Zwh known r.2.2.2.2.1 with
    |none=>
     unfold ZbQ at hx;rw[w2,ya,hl',hs] at hx
     cases hx
    |some k=>
     have c1:ZbQ id h known true n o r=some ((id,(n:Int)),o,1,k,opF h ([ow],0,w,r.2.2.2.2.1),opF h ([pe],r.2.2.2.2.2,0,0)):=by
      unfold ZbQ;rw[w2,ya,hl',hs];rfl
     rw[c1] at hx;cases hx;exact⟨1,ow,0,w,r.2.2.2.2.1,rfl,rfl,rfl,by rw[hl'];rfl,.inr (ZyN hs).symm,rfl,.inr ⟨by rw[r1];decide,rfl⟩⟩
theorem ZGs{l:yL Claim}(h:∀x,x∈l->0<=x.2.1.1):∀d k,k+d=l.length->0<=YG (l.take k)/\YG (l.take k)<=YG l:=by
 have nn:∀m:yL Claim,(∀x,x∈m->0<=x.2.1.1)->0<=YG m:=by
  intro m
  induction m with
  |nil=>intro _;unfold YG;simp
  |cons a m ih=>
   intro hm;have h1:=hm a (List.mem_cons_self ..);have h2:=ih λx hx=>hm x (List.mem_cons_of_mem _ hx);unfold YG at h2 ⊢;rw[List.map_cons,List.sum_cons];omega
 intro d k _;refine⟨nn _ λx hx=>h x (List.mem_of_mem_take hx), ?_⟩
 have e:YG l=YG (l.take k)+YG (l.drop k):=by
  unfold YG;rw[<-List.sum_append, <-yai,List.take_append_drop]
 have:=nn (l.drop k) λx hx=>h x (List.mem_of_mem_drop hx);omega
theorem ZB6{id:yL yB}{h:Int}{known:yL yU}{b:Bool}{c:Commit}(hs:c.2.length=c.1.2.1.length)(ho:∀o,o∈c.1.2.1->0<=o.1):∀n,n<=c.2.length->YG (Zh1 id h known b c n)<=amts (c.1.2.1.take n)
 |0,_=>by
  unfold Zh1 YG amts
  simp
 |n+1,hn=>by
  have ih:=ZB6 hs ho (id:=id) (h:=h) (known:=known) (b:=b) n (by omega);obtain⟨o,o1,o2⟩:=Zg (l:=c.1.2.1) (k:=n) (by omega);have h0:=ho o o2;rw[Znk,QQ o1]
  have e:YG (Zh1 id h known b c n++(Zma id h known b c n).toList)=YG (Zh1 id h known b c n)+YG (Zma id h known b c n).toList:=by
   unfold YG;rw[yai,List.sum_append]
  rw[e]
  have e2:YG (Zma id h known b c n).toList<=o.1:=by
   cases hz:Zma id h known b c n with
   |none=>
    show YG []<=_;unfold YG
    simpa using h0
   |some z=>
    unfold Zma at hz;obtain⟨o3,h3,hz⟩:=yf.1 hz;obtain⟨r3,_,hz⟩:=yf.1 hz;rw[o1] at h3;cases h3;have:=(Zo3 hz).2;show YG [z]<=_;unfold YG;simp[this]
  omega
theorem Zh2{α:Type}{p:Prop}[Decidable p]{a b v:α}(h1:a=v)(h2:b=v):(if p then a else b)=v:=by
 split
 ·exact h1
 ·exact h2
theorem ZH9(ch:Chan)(kit:Kit)(me own:Int)(per:yU)(h:Int)(known:yL yU):WF yD ch kit me own noC per h known=some []:=by
 have hr:Y4 yD (([]:yL In),([]:yL Out),(0:Int))=some false:=by
  unfold Y4;rw[yW (by decide)]
 have hm:Zbx yD noC.1=some []:=by
  show Zbx yD (([]:yL In),([]:yL Out),(0:Int))=some [];unfold Zbx QA;rw[hr,ya,yW (by decide),ya,ya,yW (by decide)]
 unfold WF;rw[XQ,ya,hm,ya]
 have e:∀i,i=(h,known,wi (1 - bits .xor .i64 me own),([]:yL ZI),([]:yL Qy),(0:Int),(0:Int),ch,kit,noC,([]:yL Claim))->Zc (Xd yD) yD i=some (ch,kit,noC,([]:yL Claim)):=by
  rintro _ rfl;refine Zs 0 (λ_:Nat=>(h,known,wi (1 - bits .xor .i64 me own),([]:yL ZI),([]:yL Qy),(0:Int),(0:Int),ch,kit,noC,([]:yL Claim))) (λk hk=>by omega) ?_ (by omega);unfold Xd;dsimp only;rw[yX (show¬decide ((0:Int) < 0)=true by decide)]
 refine Zh2 rfl (Zh2 rfl (Zh2 rfl (Zh2 rfl (Zh2 rfl ?_))));show(Zc (Xd yD) yD (h,known,wi (1 - bits .xor .i64 me own),([]:yL ZI),([]:yL Qy),(0:Int),(0:Int),ch,kit,noC,([]:yL Claim))).bind _=_;rw[e _ rfl,ya]
theorem ZGt{l:yL yU}(hl:l.length<=100)(h:∃e,e∈l/\e=0):YU yD l=some true:=by
 obtain⟨r,h1,h2⟩:=WW (step:=Xt yD) l.length (λk s=>s=(l,(k:Int))/\∀j e,j < k->l[j]? =some e->e≠0) (λr=>r=.inl true) (i:=(l,(0:Int))) ⟨rfl,λj e hj=>by omega⟩ (by omega) (by
  rintro k _ hk ⟨rfl,hj⟩;obtain⟨e,he,_⟩:=Zg hk;unfold Xt;dsimp only;rw[yW (ZG hk),Zl he,ya];by_cases h0:e=0
  ·right;rw[yW (beq_iff_eq.2 h0)];exact⟨_,rfl,rfl⟩
  ·left;rw[yX (by rw[yT];exact h0),Zp (by omega)];refine⟨_,rfl,rfl,λj f hj' hf=> ?_⟩;by_cases hjk:j=k
   ·subst hjk;rw[he] at hf;cases hf;exact h0
   ·exact hj j f (by omega) hf) (by
  rintro _ ⟨rfl,hj⟩;obtain⟨e,he,h0⟩:=h;obtain⟨j,j1,j2⟩:=ybt he;exact absurd h0 (hj j e j1 (by rw[<-j2];exact yz j1)))
 unfold YU;rw[h1,ya,h2]
noncomputable def Za0(k:Kit):Basics:=(B k.1.toNat,B k.2.1.toNat,B k.2.2.1.toNat,B k.2.2.2.1.toNat,B k.2.2.2.2.1.toNat)
theorem Zt5(k:Kit):VS yD k=some (Za0 k):=by
 unfold VS;rw[Wj,ya,Wj,ya,Wj,ya,Wj,ya,Wj,ya];rfl
theorem ZK1(k:Kit):(Za0 k).2.2.1=B k.2.2.1.toNat:=rfl
theorem ZIz(k:Kit):(Za0 k).2.2.2.1=B k.2.2.2.1.toNat:=rfl
noncomputable def opT(F:Nat)(a0:Chan)(a1:(yL Kit))(a2:yG)(a3:Int)(a4:Int)(a5:(yL yB))(a6:Int)(a7:(yL yU))(a8:yU)(a9:Int)(o994:Bool)(o995:yU):yO (Bool):=
 if(a8==0)=true then
  some o994
 else
 if(decide (a8 >= 2305843009213688669))=true then
  some o994
 else
 if(decide (a6 < 0))=true then
  some o994
 else
 if(decide (a6 > 1000000))=true then
  some o994
 else
 (Zc (Zq F) F (a3,a4,a6,a7,a8,a9,o994,o995,0,a0,a1,a2,a5)).bind λo1026=>
 (Y9 F o1026.2.2.2.2.2.2.2.2.1 o1026.2.2.2.2.2.2.2.2.2.2.1 o1026.2.1 o1026.2.2.2.2.2.2.2.1).bind λo1027=>
 if(inB o1026.1 2)=true then
  (o1026.2.2.2.2.2.2.2.2.2.1[o1026.1.toNat]?).bind λe1028=>
  (WF F o1026.2.2.2.2.2.2.2.2.1 e1028 o1026.1 o1026.2.1 o1027.1 o1026.2.2.2.2.2.2.2.1 o1026.2.2.1 o1026.2.2.2.1).bind λo1029=>
  if(inB o1026.1 2)=true then
   (o1026.2.2.2.2.2.2.2.2.2.1[o1026.1.toNat]?).bind λe1030=>
   (QN F e1030 o1027.1 o1026.2.2.2.2.2.2.2.1 o1029).bind λo1031=>
   if(o1027.2 !=0)=true then
    some o1026.2.2.2.2.2.2.1
   else
   if((o1029.length:Int)==0)=true then
    some o1026.2.2.2.2.2.2.1
   else
   (ZL F o1026.2.2.2.2.1).bind λo1032=>
   (W5 F o1032).bind λo1033=>
   (WG F o1029 o1031 o1033 o1026.2.2.2.2.2.1).bind λo1034=>
   if(o1034.2 !=0)=true then
    if o1026.2.2.2.2.2.2.1=true then
     if(o1034.2==8)=true then
      some true
     else
     (YU F o1031).bind λo1035=>
     some o1035
    else
    some false
   else
   if((o1034.1.1.length:Int)!=(o1029.length:Int))=true then
    some false
   else
   if((o1034.1.2.1.length:Int)!=1)=true then
    some false
   else
   (Zc (Zw F) F (o1026.2.2.1,o1026.2.2.2.2.2.2.1,o1029,0,o1026.2.2.2.2.2.2.2.2.1,o1026.2.2.2.2.2.2.2.2.2.1,o1026.2.2.2.2.2.2.2.2.2.2.1,o1026.2.2.2.2.2.2.2.2.2.2.2,o1027.1,o1034.1)).bind λo1036=>
   match o1036 with
   |.inl o1037=>
    some o1037.1
   |.inr o1038=>
    some o1038.1
  else
  none
 else
 none
theorem ZAE{ch:Chan}{own:Int}{per:yU}{c:Commit}(w:CmC ch own per c){id:yL yB}(hid:QA yD c.1=some id){h:Int}(h0:0<=h)(h1:h<=1000000){l:yL Claim}{t:Tx}{o':Out}{x:Claim}{sg:Sig}{k:Nat}(hk:k < l.length)(hk2:l.length<=20)(hx:l[k]? =some x){n br:Nat}{o:Out}{p xp:yU}{af dl:Int}
 (x1:x.1=(id,(n:Int))) (x2:x.2.1=o) (x3:x.2.2.1=(br:Int)) (x4:o.2[br]? =some ([p],af,dl,xp)) (x5:xp=0\/xp=B x.2.2.2.1.toNat) (x6:x.2.2.2.2.1=Zzj af (wi (h+dl))) (ho:c.1.2.1[n]? =some o) (ht:t.1[k]? =some (x.1,(x.2.2.1,[sg],x.2.2.2.1))) (hti:QA yD t=some (idT l o')) (htl:(idT l o').length=32) (hv:YS yD p (idT l o') sg=some true) (head:Bool) (ch':Chan) (kits:yL Kit) (s:yG) (sec:yL yB):
 Zw yD (h,head,l,(k:Int),ch',kits,s,sec,c,t)=some (.inl (h,head,l,((k+1:Nat):Int),ch',kits,s,sec,c,t)):=by
 have hok:=w.ok o (ybc ho);have hlk:Xm o.2/\Wx o.2:=⟨hok.2.2.1,hok.2.2.2⟩;have hbr:=hlk.1.2.2 _ (ybc x4);obtain⟨_,a0,a1,d0,d1⟩:=hbr;dsimp only at a0 a1 d0 d1
 have hO:x.2.2.2.2.1=(if h+dl > af then h+dl else af):=by
  rw[x6,ZP (z:=h+dl) (by omega) (by omega)];rfl
 have hop:∀hh a:Int,QC yD o.2 (x.2.2.1,[sg],x.2.2.2.1) (idT l o') hh a=some (if hh < af\/a < dl then 11 else 0):=λhh a=>by
  rw[x3];exact ZGn hlk x4 htl hh a hv x5
 have hn:n < c.1.2.1.length:=(yq.1 ho).1;generalize hOp:x.2.2.2.2.1=op at hO;have b1:¬(op < af\/op - h < dl):=by rw[hO];split <;> omega
 have b2:¬(op+5 < af\/op+5 - h < dl):=by rw[hO];split <;> omega
 have b3:op > h->(op - 1 < af\/op - 1 - h < dl):=by rw[hO];split <;> omega
 have b4:0<=op/\op<=3000000:=by rw[hO];split <;> omega
 unfold Zw;dsimp only;rw[yW (ZG hk),Zl hx,ya,Zl ht,ya,hid,ya]
 have q:idx c.1.2.1 x.1.2=some o:=by
  rw[x1];exact Zl ho
 rw[yX (show¬(!decide (x.1.1=id))=true by rw[x1];simp),yX (show¬decide (x.1.2 < 0)=true by rw[x1,yN];dsimp only;omega),yX (show¬decide (x.1.2 >= (c.1.2.1.length:Int))=true by rw[x1,yN];dsimp only;omega),q,ya,yX (show¬(x.2.1.1 !=o.1)=true by rw[x2];simp)];rw[ya];dsimp only;rw[yX (show¬(!decide (x.1=x.1))=true by simp),ya,hti,ya,hOp,hop,ya,ZP (z:=op - h) (by omega) (by omega),yX b1,yX (by decide),ya,ZP (z:=op+5) (by omega) (by omega),ZP (z:=op+5 - h) (by omega) (by omega),hop,ya,yX b2,yX (by decide)];by_cases hgt:op > h
 ·rw[yW (yY hgt),ya,ZP (z:=op - 1) (by omega) (by omega),ZP (z:=op - 1 - h) (by omega) (by omega),hop,ya,yW (b3 hgt),yX (by decide),Zp (by omega)]
 ·rw[yX (by rw[yN];exact hgt),Zp (by omega)]
theorem ZGu{kits:yL Kit}{k0 k1:Kit}(hk0:kits[0]? =some k0)(hk1:kits[1]? =some k1)(me own h:Int)(known:yL yU)(to:yU)(fee:Int)(per:yU)(a:ZI)(A:Int)(b0 b1:Basics)(ts:yL Terms)(op:Int)(s:yG)(sec:yL yB):
 Zc (Zq yD) yD (me,own,h,known,to,fee,true,per,(0:Int),(a,A,[b0,b1],ts,op),kits,s,sec)=some (me,own,h,known,to,fee,true,per,(a,A,[Za0 k0,Za0 k1],ts,op),kits,s,sec):=by
 have s0:Zq yD (me,own,h,known,to,fee,true,per,(0:Int),(a,A,[b0,b1],ts,op),kits,s,sec)=some (.inl (me,own,h,known,to,fee,true,per,(1:Int),(a,A,[Za0 k0,b1],ts,op),kits,s,sec)):=by
  unfold Zq;dsimp only;rw[yW (show decide ((0:Int) < 2)=true by decide),yW (show inB (0:Int) 2=true by decide)];show(kits[0]?).bind _=_;rw[hk0,ya,Zt5,ya,yW (show inB (0:Int) 2=true by decide)];rfl
 have s1:Zq yD (me,own,h,known,to,fee,true,per,(1:Int),(a,A,[Za0 k0,b1],ts,op),kits,s,sec)=some (.inl (me,own,h,known,to,fee,true,per,(2:Int),(a,A,[Za0 k0,Za0 k1],ts,op),kits,s,sec)):=by
  unfold Zq;dsimp only;rw[yW (show decide ((1:Int) < 2)=true by decide),yW (show inB (1:Int) 2=true by decide)];show(kits[1]?).bind _=_;rw[hk1,ya,Zt5,ya,yW (show inB (1:Int) 2=true by decide)];rfl
 have s2:Zq yD (me,own,h,known,to,fee,true,per,(2:Int),(a,A,[Za0 k0,Za0 k1],ts,op),kits,s,sec)=some (.inr (me,own,h,known,to,fee,true,per,(a,A,[Za0 k0,Za0 k1],ts,op),kits,s,sec)):=by
  unfold Zq;dsimp only;rw[yX (show¬(decide ((2:Int) < 2)=true) by decide)]
 exact Zs 2 (λk:Nat=>if k=0 then(me,own,h,known,to,fee,true,per,(0:Int),(a,A,[b0,b1],ts,op),kits,s,sec) else if k=1 then(me,own,h,known,to,fee,true,per,(1:Int),(a,A,[Za0 k0,b1],ts,op),kits,s,sec) else(me,own,h,known,to,fee,true,per,(2:Int),(a,A,[Za0 k0,Za0 k1],ts,op),kits,s,sec)) (λk hk=>by
  rcases (show k=0\/k=1 by omega) with rfl|rfl
  ·exact s0
  ·exact s1) s2 (by omega)
theorem ZB7{ch:Chan}(w:ChWf ch)(hf:ch.1.1.length=32){kits:yL Kit}(hk:kits.length=2){s:yG}(hs:s.2.1.length=2){me:Int}(hme:me=0\/me=1)(own:Int)(sec:yL yB)(h:Int){known:yL yU}(hkn:known.length<=20)(to:yU)(fee:Int)(f:yU):
 opT yD ch kits s me own sec h known to fee true (B f.toNat)=some true:=by
 unfold opT;by_cases t0:(to==0)=true
 ·rw[yW t0]
 rw[yX t0];by_cases t1:decide (to >= 2305843009213688669)=true
 ·rw[yW t1]
 rw[yX t1];by_cases h0:h < 0
 ·rw[yW (yY h0)]
 rw[yX (by rw[yN];exact h0)];by_cases h1:h > 1000000
 ·rw[yW (yY h1)]
 rw[yX (by rw[yN];exact h1)];obtain⟨k0,hk0,_⟩:=Zg (l:=kits) (k:=0) (by omega);obtain⟨k1,hk1,_⟩:=Zg (l:=kits) (k:=1) (by omega);have hb2:=w.b;obtain⟨a,A,bs,ts,op⟩:=ch;dsimp only at hb2
 obtain⟨b0,b1,rfl⟩:∃b0 b1,bs=[b0,b1]:=by
  match bs,hb2 with
  |[x,y],_=>exact⟨x,y,rfl⟩
 rw[ZGu hk0 hk1,ya];dsimp only;have w':ChWf (a,A,[Za0 k0,Za0 k1],ts,op):=⟨rfl,show ts.length=2 from w.t,show-9223372036854775808<=A from w.a0,show A<=9223372036854775807 from w.a1,show-9223372036854775808<=a.2 from w.n0,show a.2<=9223372036854775807 from w.n1,show-9223372036854775808<=op from w.o0,show op<=9223372036854775807 from w.o1⟩
 have hch:([Za0 k0,Za0 k1]:yL Basics)[me.toNat]? =some (Za0 (if me=0 then k0 else k1)):=by
  rcases hme with rfl|rfl
  ·rw[yW rfl];rfl
  ·rw[yX (by decide)];rfl
 generalize hC':((a,A,[Za0 k0,Za0 k1],ts,op):Chan)=ch at w';have hbas:ch.2.2.1=[Za0 k0,Za0 k1]:=by rw[<-hC']
 have hf':ch.1.1.length=32:=by rw[<-hC'];exact(show a.1.length=32 from hf)
 obtain⟨c,e,hm,hc,hc2⟩:=ZGi w' hs own (B f.toNat);rw[hm,ya]
 have hkit:kits[me.toNat]? =some (if me=0 then k0 else k1):=by
  rcases hme with rfl|rfl
  ·exact hk0
  ·exact hk1
 have hin:inB me 2=true:=ZZ (by omega) (by omega);rw[yW hin,hkit,ya];generalize hK:(if me=0 then k0 else k1)=kit at hkit
 by_cases he:e=0
 ·have w2:=hc he;obtain⟨id,i0,i1,i2,i3,i4⟩:=ZH4 w2 hf';have hro:c.2.length<=100:=by have:=w2.outs;have:=w2.same;omega
  have hok:=ZKi w2 id h known me;dsimp only;rw[ZGl w2 i4 hkn (by omega) (by omega),ya,yW hin,ya,ZyL kit c _ hok.1 hro,ya,yX (show¬(e !=0)=true by rw[he];decide)]
  have hlst:ZsQ id h known me own c=Zh1 id h known (me==own) c c.2.length:=by
   unfold ZsQ;rw[yW ⟨hme,by omega,by omega⟩]
  have hmem:∀x,x∈ZsQ id h known me own c->∃(n:Nat)(o:Out)(br:Nat)(p:yU)(af dl:Int)(xp:yU),n < 20/\c.1.2.1[n]? =some o/\x.1=(id,(n:Int))/\x.2.1=o/\x.2.2.1=(br:Int)/\o.2[br]? =some ([p],af,dl,xp)/\(xp=0\/xp=B x.2.2.2.1.toNat)/\x.2.2.2.2.1=Zzj af (wi (h+dl))/\p=B (kyF kit c (B f.toNat) x).toNat:=by
   intro x hx;rw[hlst] at hx;obtain⟨n,o,r,hn,q1,q2,q3⟩:=Zwi hx;obtain⟨bo,bp,tp,g1,g2,_,g4⟩:=w2.ex;obtain⟨br,p,af,dl,xp,x1,x2,x3,x4,x5,x6,x7⟩:=ZH8 w2.o (g4 n o r q1 q2) q3;refine⟨n,o,br,p,af,dl,xp,by have:=w2.outs;have:=w2.same;omega,q1,x1,x2,x3,x4,x5,x6, ?_⟩
   have hky:kyF kit c (B f.toNat) x=if r.1=1 then msF kit.2.2.1 (B f.toNat) else msF kit.2.2.2.1 (B f.toNat):=by
    unfold kyF;rw[x1];dsimp only;rw[yX (by omega),yay,q2]
   rw[hbas] at g1 g2
   have hmine:(me==own)=true->bo=Za0 kit:=λhq=>by
    have hq:=beq_iff_eq.1 hq;subst hq;rw[hch,hK] at g1;exact(Option.some.inj g1).symm
   have hpeer:(me==own)=false->bp=Za0 kit:=λhq=>by
    have hq:=beq_eq_false_iff_ne.1 hq;have:1 - own=me:=by have:=w2.o;omega
    rw[this,hch,hK] at g2;exact(Option.some.inj g2).symm
   rw[hky];rcases x7 with⟨r1,hb,hp⟩|⟨r1,hp⟩
   ·rw[yW r1,ZKY,hp,hmine hb,ZK1]
   ·rw[yX r1,ZKY,hp]
    cases hb:(me==own) with
    |true=>
     rw[yW rfl,hmine hb,ZIz]
    |false=>
     rw[yX (by decide),hpeer hb,ZIz]
  have hsum:YG (ZsQ id h known me own c)<=1125899906842624:=by
   rw[hlst];have q:=ZB6 (id:=id) (h:=h) (known:=known) (b:=me==own) w2.same (λo ho=>(w2.ok o ho).1) c.2.length (Nat.le_refl _);rw[w2.same,yak] at q;have:=w2.amt;rw[w2.same];omega
  have hpw:(ZsQ id h known me own c).Pairwise λx y=>x.1.2≠y.1.2:=by
   rw[hlst];exact ZyM _
  generalize ZsQ id h known me own c=l at hok hmem hsum hpw;by_cases hl0:l.length=0
  ·rw[yW (by rw[yT];omega)]
  rw[yX (by rw[yT];omega),Wj,ya]
  have hkey:W5 yD (B to.toNat)=some (Zni (B to.toNat)):=by
   unfold W5 Zim Xj;rw[yW (ZX (by simp) (by simp))];rfl
  rw[hkey,ya]
  have hcl:ClOk l:=by
   refine⟨by omega,hok.1,λx hx=> ?_,λx hx=> ?_, ?_⟩
   ·obtain⟨n,o,br,p,af,dl,xp,_,_,x1,_⟩:=hmem x hx;rw[x1];exact i0
   ·obtain⟨n,o,br,p,af,dl,xp,hn,_,x1,_⟩:=hmem x hx;rw[x1];dsimp only;omega
   ·intro i j x y hij hx hy hxy;obtain⟨a1,a2⟩:=yq.1 hx;obtain⟨c1,c2⟩:=yq.1 hy;have:=List.pairwise_iff_getElem.1 hpw i j a1 c1 hij;rw[a2,c2] at this;exact this (by rw[hxy])
  have hamt:∀x,x∈l->0<=x.2.1.1/\x.2.1.1<=1125899906842624:=λx hx=>by
   obtain⟨n,o,br,p,af,dl,xp,hn,q1,x1,x2,_⟩:=hmem x hx;have:=w2.ok o (ybc q1);rw[x2];exact⟨this.1,this.2.1⟩
  have hbr:∀x,x∈l->0<=x.2.2.1/\x.2.2.1 < 4:=λx hx=>by
   obtain⟨n,o,br,p,af,dl,xp,hn,q1,x1,x2,x3,x4,_⟩:=hmem x hx;have:=w2.ok o (ybc q1);have h4:=this.2.2.1.2.1;have hlt:=(yq.1 x4).1;rw[x3];omega
  have hks:∀e,e∈l.map (kyF kit c (B f.toNat))->e.toNat < ord:=λe he=>by
   obtain⟨x,_,rfl⟩:=ybl.1 he;exact ZK0 _ _ _ _
  have hsm:∀k,k<=l.length->0<=YG (l.take k)/\YG (l.take k)<=1125899906842624:=λk hkl=>by
   have:=ZGs (λx hx=>(hamt x hx).1) (l.length - k) k (by omega);omega
  have hlen20:=hok.1;rcases ZGr hcl (by rw[yy]) hks hsm hamt hbr (ZGf (Zv0 to.toNat)) fee with⟨hz,hM⟩|hM|⟨t,o',hM,hco,hT,hS⟩
  ·rw[hM,ya];dsimp only;rw[yW (by decide),yW rfl,yX (by decide),ZGt (by rw[yy];omega) hz];rfl
  ·rw[hM,ya];dsimp only;rw[yW (by decide),yW rfl,yW (by decide)]
  ·obtain⟨_,t2,t3⟩:=ZyQ hcl hco hT;have hlt:=hT.len;rw[hM,ya];dsimp only;rw[yX (by decide),yX (by rw[yE,hlt];simp),yX (by rw[hT.out];simp)]
   have e1:=Zs (step:=Zw yD) l.length (λk:Nat=>(h,true,l,(k:Int),ch,kits,s,sec,c,t)) (x:=.inr (true,ch,kits,s,sec,c,t)) (λk hkl=>by
    obtain⟨x,hx,hxm⟩:=Zg hkl;obtain⟨n,o,br,p,af,dl,xp,hn,q1,x1,x2,x3,x4,x5,x6,x7⟩:=hmem x hxm;obtain⟨sg,g1,g2⟩:=hS k x (kyF kit c (B f.toNat) x) hkl hx (by rw[yaj,hx];rfl);rw[<-x7] at g2;exact ZAE w2 i1 (by omega) (by omega) hkl (by omega) hx x1 x2 x3 x4 x5 x6 q1 g1 t2 t3 g2 true ch kits s sec) (by
    unfold Zw;dsimp only;rw[yX (by rw[Zz];decide)]) (by omega)
   have e1:Zc (Zw yD) yD (h,true,l,(0:Int),ch,kits,s,sec,c,t)=_:=e1;rw[e1,ya]
 ·rw[hc2 he,ZH9,ya,yW hin,ya,ZyL kit noC _ (l:=[]) (by simp) (by decide),ya,yW (show(e !=0)=true from bne_iff_ne.2 he)]
theorem ZDr{ch:Chan}(w:ChWf ch)(hf:ch.1.1.length=32){kits:yL Kit}(hk:kits.length=2){s:yG}(hs:s.2.1.length=2)(me own:Int){sec:yL yB}(hsec:sec.length=32)(h:Int)(known:yL yU)(to:yU)(fee:Int):
 Yq yD ch kits s me own sec h known to fee=some true:=by
 obtain⟨f,f1,f2⟩:=Zv1 hsec;obtain⟨b,hb,hfew⟩:=ZKj s known
 have hper:Zeb yD sec=some (B f.toNat):=by
  unfold Zeb;rw[f1,ya,Wj,ya]
 unfold Yq;rw[ya,hper,ya,hb,ya]
 cases b with
 |false=>rw[yW (by decide)]
 |true=>
  rw[yX (by decide)];by_cases m0:me=0
  ·rw[yX (show¬(me !=0)=true by rw[m0];decide)];exact ZB7 w hf hk hs (.inl m0) own sec h (hfew rfl) to fee f
  ·rw[yW (show(me !=0)=true from bne_iff_ne.2 m0)]
   by_cases m1:me=1
   ·rw[yX (show¬(me !=1)=true by rw[m1];decide)];exact ZB7 w hf hk hs (.inr m1) own sec h (hfew rfl) to fee f
   ·rw[yW (show(me !=1)=true from bne_iff_ne.2 m1)]
end Go.Proofs.YtpgpjjjoglafdaaGreat
end
