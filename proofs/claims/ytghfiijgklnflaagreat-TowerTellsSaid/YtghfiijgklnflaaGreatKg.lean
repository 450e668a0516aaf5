/- Parts of the proof, in one file. -/
import Derived.Test.YtghfiijgklnflaaGreatKf
open Go.Proofs.Tryz renaming prog → yc
set_option linter.unusedVariables false
section
set_option maxRecDepth 4000
namespace Go.Proofs.YtghfiijgklnflaaGreat
open Go Go.Ev
noncomputable section
def X7(F:Nat)(s0:Zb):yO (((yL yB)×Zb)):=
 (Zu F s0).bind λo573=>
 if o573.2.2=true then
  some ([],o573.2)
 else
 (YC F o573.1 o573.2).bind λo574=>
 some (o574.1,o574.2)
def Q3:Fs yc:=⟨124,[.ref 0 []],[.var (.v Za) true],[Za],[⟨.ret,[(0,.v (.sl .u8))],[.var (.v Za) true],[(.sl .u8),Za]⟩],λx=>X7 yD x⟩
theorem Zfc:Q3.Ok:=fnO { still:=[2,4,10,11]} [] [ZZ,X5] ⟨Z7,W0,ytt⟩
def Yb(F:Nat):((yL yB)×Int×Int×qO)->yO (((yL yB)×Int×Int×qO)⊕((Bool×qO)⊕((yL yB)×qO)))
 |(h,b,a,i,c,d,e,f,g)=>
 if(decide (a < b))=true then
  if(decide (a < 65))=true then
   (Zt F c).bind λo571=>
   if o571.1=true then
    (Zu F o571.2).bind λo572=>
    (X7 F o572.2).bind λo575=>
    (Vh F o575.1).bind λo576=>
    if(!o576.2)=true then
     some (.inr (.inl (false,([],[],0),o575.2,d,e,f,g)))
    else
    if(apB e.length 1 32)=true then
     let y577:(yL Out):=e++([(o572.1,o576.1)]:yL Out)
     some (.inl (h,b,wi (a+1),i,o575.2,d,y577,f,g))
    else
    none
   else
   some (.inr (.inr (h,i,o571.2,d,e,f,g)))
  else
  some (.inr (.inr (h,i,c,d,e,f,g)))
 else
 some (.inr (.inr (h,i,c,d,e,f,g)))
def ZeP:Lp:=⟨[(0,.v (.sl .u8)),(2,.ref 0 []),(4,.ref 1 []),(5,.ref 2 []),(8,.v yI),(9,.v yI)],zE,tL5,[⟨.ret,[(2,.ref 0 []),(3,.v .bool)],zE,[.bool,yTx,Za,yI,(.sl Wr),(.sl (.st [])),(.sl yIn)]⟩,⟨.exit 2,[(0,.v (.sl .u8)),(2,.ref 0 []),(4,.ref 1 []),(5,.ref 2 [])],zE,[(.sl .u8),yTx,Za,yI,(.sl Wr),(.sl (.st [])),(.sl yIn)]⟩],Zf (Yb yD) yD⟩
def ZKf:HI:={ own:=[33,41,73,76],still:=[3,14,17,27,34,36,43,53,58,62,63,78,87,95,99,103,108,113],rowt:=[33,41,93],gst:=[(5,[([1],Wr,130)]),(10,[([1,0],Zr,133)])]}
theorem ZiY:ZeP.okA yc 69 1:=Zy ZKf [] [YL,ZZ,Q3,Zfu] ⟨Xh,Z7,Zfc,ZlD,ytt⟩
def Z4(F:Nat):(Int×Int×Zb×XA×Int×yU×(yL Sig))->yO ((Int×Int×Zb×XA×Int×yU×(yL Sig))⊕(Zb×XA×Int×yU×(yL Sig)))
 |(b,a,c,e,f,g,d)=>
 if(decide (a < b))=true then
  if(decide (a < 13))=true then
   (Zt F c).bind λo585=>
   if o585.1=true then
    (Z3 F o585.2).bind λo586=>
    (Z3 F o586.2).bind λo587=>
    if(apB d.length 1 16)=true then
     some (.inl (b,wi (a+1),o587.2,e,f,g,d++([(o586.1,o587.1)]:yL Sig)))
    else
    none
   else
   some (.inr (o585.2,e,f,g,d))
  else
  some (.inr (c,e,f,g,d))
 else
 some (.inr (c,e,f,g,d))
abbrev zG:List ESh:=[.var (.v Za) true,.var (.v Z6) true,.var (.agg [.v yI,.own 3 ZgD,.v .u64]) true,.log ZgD 140]
def ZbX:Lp:=⟨[(0,.ref 0 []),(2,.ref 1 []),(3,.ref 2 []),(4,.v yI),(5,.v yI)],zG,[yI,yI,Za,Z6,yI,.u64,(.sl ZgD)],[⟨.exit 0,[(0,.ref 0 []),(2,.ref 1 []),(3,.ref 2 [])],zG,[Za,Z6,yI,.u64,(.sl ZgD)]⟩],Zf (Z4 yD) yD⟩
def ZLc:HI:={ own:=[25,32],still:=[6,9,19,26,28,34],gst:=[(3,[([1],ZgD,140)])]}
theorem ZgP:ZbX.okA yc 125 0:=Zy ZLc [] [YL,Xg] ⟨Xh,X6,ytt⟩
def Xq(F:Nat)(s0:Zb):yO ((XA×Zb)):=
 (Zu F s0).bind λo583=>
 (Zu F o583.2).bind λo584=>
 (Zf (Z4 F) F (o584.1,0,o584.2,(0,[],0),o583.1,0,[])).bind λ(a,_,b,_,c)=>
 (Z3 F a).bind λo589=>
 some ((b,c,o589.1),o589.2)
def ZcM:Fs yc:=⟨125,[.ref 0 []],[.var (.v Za) true],[Za],[⟨.ret,[(0,.v Z6)],[.var (.v Za) true],[Z6,Za]⟩],λx=>Xq yD x⟩
theorem ZiZ:ZcM.Ok:=fnO ZLc [(0,ZbX)] [ZZ,Xg] ⟨Z7,X6,ytt⟩ ⟨ZgP,ytt⟩
def Yc(F:Nat):((yL yB)×Int×qO)->yO (((yL yB)×Int×qO)⊕((yL yB)×qO))
 |(d,a,e,c,f,g,h,b)=>
 if(decide (a < (b.length:Int)))=true then
  (Zt F c).bind λo582=>
  if o582.1=true then
   (Xq F o582.2).bind λo590=>
   if(inB a b.length)=true then
    (b[a.toNat]?).bind λe591=>
    some (.inl (d,wi (a+1),e,o590.2,f,g,h,b.set a.toNat (e591.1,o590.1)))
   else
   none
  else
  some (.inr (d,e,o582.2,f,g,h,b))
 else
 some (.inr (d,e,c,f,g,h,b))
abbrev tL6:yL Ty:=[(.sl .u8),yI,yTx,Za,yI,(.sl Wr),(.sl (.st [])),(.sl yIn)]
def ZeQ:Lp:=⟨[(0,.v (.sl .u8)),(2,.ref 0 []),(4,.ref 1 []),(5,.ref 2 []),(13,.v yI)],zE,tL6,[⟨.exit 4,[(0,.v (.sl .u8)),(2,.ref 0 []),(4,.ref 1 []),(5,.ref 2 [])],zE,[(.sl .u8),yTx,Za,yI,(.sl Wr),(.sl (.st [])),(.sl yIn)]⟩],Zf (Yc yD) yD⟩
theorem Zi0:ZeQ.okA yc 69 2:=Zy ZKf [] [YL,ZcM] ⟨Xh,ZiZ,ytt⟩
def Wh(F:Nat)(s0:Zb):yO ((Int×Zb)):=
 some ((s0.1.length:Int),s0)
def ZaE:Fs yc:=⟨126,[.ref 0 []],[.var (.v Za) true],[Za],[⟨.ret,[(0,.v yI)],[.var (.v Za) true],[yI,Za]⟩],λx=>Wh yD x⟩
theorem ZfW:ZaE.Ok:=fnO { still:=[2]} [] [] trivial
def XE(F:Nat)(a0:(yL yB)):yO ((Tx×Bool)):=
 (Vg F a0).bind λo559=>
 (Zu F o559).bind λo560=>
 (Zf (Ya F) F (a0,o560.1,0,([],[],0),o560.2,0,[],[],[])).bind λ(m,n,l,o,p,q,r)=>
 (Zu F l).bind λo570=>
 (Zf (Yb F) F (m,o570.1,0,n,o570.2,o,p,q,r)).bind λo578=>
 match o578 with
 |.inl (b,a,_,_,_,_,_)=>
  some (a,b)
 |.inr (g,h,f,_,i,j,k)=>
  (Zu F f).bind λo581=>
  (Zf (Yc F) F (g,0,h,o581.2,o581.1,i,j,k)).bind λ(e,_,a,d,c,_,b)=>
  (Zt F a).bind λo593=>
  if(!o593.1)=true then
   some (([],[],0),false)
  else
  (Wh F o593.2).bind λo594=>
  if(decide (o594.1 > 0))=true then
   some (([],[],0),false)
  else
  (Z0 F (b,c,d)).bind λo595=>
  if(!o595)=true then
   some (([],[],0),false)
  else
  (V5 F (b,c,d)).bind λo596=>
  let y597:Bool:= !((V1 o596).data.toList==(V1 e).data.toList)
  if y597=true then
   some (([],[],0),false)
  else
  some ((b,c,d),true)
def Zfv:Fs yc:=⟨69,[.v (.sl .u8)],[],[(.sl .u8)],[⟨.ret,[(0,.tup [.v yTx,.v .bool])],[],[yTx,.bool]⟩],λx=>XE yD x⟩
theorem ZlE:Zfv.Ok:=ZiA (fi:={ hi:=ZKf,lp:=[(0,ZeO),(1,ZeP),(2,ZeQ)],gh:=[(3,.rowt 5 [0] yIn 123),(28,.done 5)]}) (specs:={ l:=[Za9,ZZ,YL,ZaE,WB,ZeN]}) (okS ⟨ZeK,Z7,Xh,ZfW,Vp,ZkF,ytt⟩) ⟨ZiX,ZiY,Zi0,ytt⟩
def Wp(F:Nat)(s:((yL yB)×(yL yB)×Int)):yO (((yL yB)×(yL yB)×Int)⊕(Bool⊕Unit)):=
 if(decide (s.2.2 < (s.1.length:Int)))=true then
  (idx s.1 s.2.2).bind λe598=>
  (idx s.2.1 s.2.2).bind λe599=>
  if(e598 !=e599)=true then
   some (.inr (.inl false))
  else
  some (.inl (s.1,s.2.1,wi (s.2.2+1)))
 else
 some (.inr (.inr ()))
def ZeR:Lp:=⟨[(0,.v (.sl .u8)),(1,.v (.sl .u8)),(5,.v yI)],[],[(.sl .u8),(.sl .u8),yI],[⟨.ret,[(4,.v .bool)],[],[.bool]⟩,⟨.exit 0,[],[],[]⟩],Zf (Wp yD) yD⟩
theorem Zi1:ZeR.okA yc 75 0:=Zy { still:=[4]} [] [] trivial
def QD(F:Nat)(a0:(yL yB))(a1:(yL yB)):yO (Bool):=
 if((a0.length:Int)!=(a1.length:Int))=true then
  some false
 else
 (Zf (Wp F) F (a0,a1,0)).bind λo600=>
 match o600 with
 |.inl o601=>
  some o601
 |.inr o602=>
  some true
def Zfw:Fs yc:=⟨75,[.v (.sl .u8),.v (.sl .u8)],[],[(.sl .u8),(.sl .u8)],(zZ .bool),λx=>QD yD x.1 x.2⟩
theorem ZlF:Zfw.Ok:=fnO { still:=[4]} [(0,ZeR)] [] trivial ⟨Zi1,ytt⟩
def ZjX(F:Nat)(a0:(yL yB))(a1:(yL yB)):yO (((yL yB)×Bool)):=
 if(decide ((wi ((a1.length:Int) - 8)) < 0))=true then
  some ([],false)
 else
 if(decide ((wi ((a1.length:Int) - 8)) > 65536))=true then
  some ([],false)
 else
 if(VZ a1.length none (some (wi ((a1.length:Int) - 8))))=true then
  (ZiE F a0 (a1.take ((wi ((a1.length:Int) - 8)).toNat))).bind λo603=>
  if(VZ a1.length (some (wi ((a1.length:Int) - 8))) none)=true then
   if(decide (8<=(a1.drop ((wi ((a1.length:Int) - 8)).toNat)).length))=true then
    let y604:Bool:= !(decide (o603=(a1.drop ((wi ((a1.length:Int) - 8)).toNat)).take 8))
    if y604=true then
     some ([],false)
    else
    if(VZ a1.length none (some (wi ((a1.length:Int) - 8))))=true then
     (ZjJ F a0 (a1.take ((wi ((a1.length:Int) - 8)).toNat))).bind λo605=>
     some (o605,true)
    else
    none
   else
   none
  else
  none
 else
 none
def ZjY(F:Nat):Fs yc:=⟨83,[.v (.arr 32 .u8),.v (.sl .u8)],[],[(.arr 32 .u8),(.sl .u8)],[⟨.ret,[(0,.tup [.v (.sl .u8),.v .bool])],[],[(.sl .u8),.bool]⟩],λx=>ZjX F x.1 x.2⟩
def ZqC:Fs yc:=ZjY yD
theorem ZoF:ZqC.Ok:=fnO { still:=[4,5,17,20,29,32]} [] [Znq,Zqp] ⟨Zqq,Zw1,ytt⟩
def ZgQ(F:Nat)(a0:(yL yB)):yO (Zb):=
 (Yw F a0).bind λo606=>
 some (o606,false)
def ZlG:Fs yc:=⟨140,[.v (.sl .u8)],[],[(.sl .u8)],[⟨.ret,[(0,.ref 0 [])],[.var (.v Za) true],[Za]⟩],λx=>ZgQ yD x⟩
theorem ZoG:ZlG.Ok:=fnO { still:=[2,3]} [] [Vb] ⟨QY,ytt⟩
def ZN(F:Nat)(s:((yL yB)×(yL yB)×Int×Int)):yO (((yL yB)×(yL yB)×Int×Int)⊕(Bool⊕Unit)):=
 if(decide (s.2.2.2 < s.2.2.1))=true then
  (idx s.1 s.2.2.2).bind λe607=>
  (idx s.2.1 s.2.2.2).bind λe608=>
  if(e607 !=e608)=true then
   some (.inr (.inl false))
  else
  some (.inl (s.1,s.2.1,s.2.2.1,wi (s.2.2.2+1)))
 else
 some (.inr (.inr ()))
def Za2:Lp:=⟨[(0,.v (.sl .u8)),(1,.v (.sl .u8)),(12,.v yI),(13,.v yI)],[],[(.sl .u8),(.sl .u8),yI,yI],[⟨.ret,[(4,.v .bool)],[],[.bool]⟩,⟨.exit 0,[],[],[]⟩],Zf (ZN yD) yD⟩
theorem Zfd:Za2.okA yc 186 0:=Zy { still:=[4]} [] [] trivial
def Ye(F:Nat)(a0:(yL yB))(a1:(yL yB)):yO (Bool):=
 if((a0.length:Int)!=(a1.length:Int))=true then
  some false
 else
 (Zf (ZN F) F (a0,a1,(a0.length:Int),0)).bind λo609=>
 match o609 with
 |.inl o610=>
  some o610
 |.inr o611=>
  some true
def Zbf:Fs yc:=⟨186,[.v (.sl .u8),.v (.sl .u8)],[],[(.sl .u8),(.sl .u8)],(zZ .bool),λx=>Ye yD x.1 x.2⟩
theorem Zhl:Zbf.Ok:=fnO { still:=[4]} [(0,Za2)] [] trivial ⟨Zfd,ytt⟩
def Ws(F:Nat)(s0:Int)(s2:Zb):yO ((Bool×Int×Zb)):=
 if(decide (s0 >= (s2.1.length:Int)))=true then
  some (true,s0,s2)
 else
 if(decide (s0 > 8))=true then
  some (true,s0,s2)
 else
 if(decide (s0 > 0))=true then
  (idx s2.1 s0).bind λe613=>
  some (e613==0,s0,s2)
 else
 some (false,s0,s2)
def Zfx:Fs yc:=⟨183,[.ref 0 [],.ref 1 []],[.var (.v yI) true,.var (.ref 2 []) true,.var (.v Za) true],[yI,Za],[⟨.ret,[(0,.v .bool)],[.var (.v yI) true,.var (.ref 2 []) true,.var (.v Za) true],[.bool,yI,Za]⟩],λx=>Ws yD x.1 x.2⟩
theorem ZlH:Zfx.Ok:=fnO { still:=[2]} [] [] trivial
def VL(F:Nat)(s0:Zb):yO (Zb):=
 some ([],true)
def Zbz:Fs yc:=⟨184,[.ref 0 []],[.var (.v Za) true],[Za],[⟨.ret,[(0,.tup [])],[.var (.v Za) true],[Za]⟩],λx=>VL yD x⟩
theorem Zfy:Zbz.Ok:=fnO {} [] [] trivial
def WQ(F:Nat)(s:(Int×Zb×Int)):yO ((Int×Zb×Int)⊕((Int×Zb×Int)⊕(Int×Zb×Int))):=
 (Ws F s.2.2 s.2.1).bind λo614=>
 if o614.1=true then
  (VL F o614.2.2).bind λo615=>
  some (.inr (.inl (0,o615,o614.2.1)))
 else
 (idx o614.2.2.1 o614.2.1).bind λe616=>
 if(decide (0<=wi (7*o614.2.1)))=true then
  let y617:Int:=wi (((e616 % 128).toNat:Int)*2 ^ (min (wi (7*o614.2.1)).toNat 64))
  if(decide (e616 < 128))=true then
   some (.inr (.inr (bits .or .i64 s.1 y617,o614.2.2,wi (o614.2.1+1))))
  else
  some (.inl (bits .or .i64 s.1 y617,o614.2.2,wi (o614.2.1+1)))
 else
 none
abbrev zR:List ESh:=[.var (.v Za) true,.var (.ref 0 []) true,.var (.v yI) true]
def ZgR:Lp:=⟨[(1,.ref 1 []),(3,.v yI),(4,.ref 2 []),(5,.fn 183 [.ref 2 [],.ref 1 []])],zR,[yI,Za,yI],[⟨.ret,[(2,.v yI)],zR,[yI,Za,yI]⟩,⟨.exit 0,[(1,.ref 1 []),(3,.v yI),(4,.ref 2 [])],zR,[yI,Za,yI]⟩],Zf (WQ yD) yD⟩
theorem ZkG:ZgR.okA yc 142 0:=Zy { still:=[2,10]} [] [Zfx,Zbz] ⟨ZlH,Zfy,ytt⟩
def Z5(F:Nat)(s0:Zb):yO ((Int×Zb)):=
 (Zf (WQ F) F (0,s0,0)).bind λo618=>
 match o618 with
 |.inl o619=>
  some (o619.1,o619.2.1)
 |.inr o620=>
  if(VZ o620.2.1.1.length (some o620.2.2) none)=true then
   some (o620.1,(o620.2.1.1.drop o620.2.2.toNat,o620.2.1.2))
  else
  none
def YQ:Fs yc:=⟨142,[.ref 0 []],[.var (.v Za) true],[Za],[⟨.ret,[(0,.v yI)],[.var (.v Za) true],[yI,Za]⟩],λx=>Z5 yD x⟩
theorem Y3:YQ.Ok:=fnO { still:=[2,10]} [(0,ZgR)] [] trivial ⟨ZkG,ytt⟩
def WJ(F:Nat)(a1:Int)(s0:Zb):yO (((yL yB)×Zb)):=
 if s0.2=true then
  (VL F s0).bind λo623=>
  some ([],o623)
 else
 if(decide (a1 > (s0.1.length:Int)))=true then
  (VL F s0).bind λo624=>
  some ([],o624)
 else
 if(VZ s0.1.length none (some a1))=true then
  (Yw F (s0.1.take a1.toNat)).bind λo625=>
  if(VZ s0.1.length (some a1) none)=true then
   some (o625,(s0.1.drop a1.toNat,s0.2))
  else
  none
 else
 none
def QE:Fs yc:=⟨185,[.ref 0 [],.v yI],[.var (.v Za) true],[yI,Za],[⟨.ret,[(0,.v (.sl .u8))],[.var (.v Za) true],[(.sl .u8),Za]⟩],λx=>WJ yD x.1 x.2⟩
theorem Zba:QE.Ok:=fnO { still:=[4,19,26]} [] [Zbz,Vb] ⟨Zfy,QY,ytt⟩
def V6(F:Nat):(yU×(yL yB)×Int×Int×Zb)->yO ((yU×(yL yB)×Int×Int×Zb)⊕(yU×Zb))
 |(d,c,b,a,e)=>
 if(decide (a < b))=true then
  (idx c a).bind λe627=>
  some (.inl ((Zag d 8)|||(UInt64.ofNat e627.toNat),c,b,wi (a+1),e))
 else
 some (.inr (d,e))
def ZgS:Lp:=⟨[(3,.v .u64),(7,.v (.sl .u8)),(8,.v yI),(9,.v yI)],[.var (.v Za) true],[.u64,(.sl .u8),yI,yI,Za],[⟨.exit 0,[(3,.v .u64)],[.var (.v Za) true],[.u64,Za]⟩],Zf (V6 yD) yD⟩
theorem ZkH:ZgS.okA yc 146 0:=Zy { still:=[2,6]} [] [] trivial
def XP(F:Nat)(s0:Zb):yO ((yU×Zb)):=
 (WJ F 8 s0).bind λo626=>
 (Zf (V6 F) F (0,o626.1,(o626.1.length:Int),0,o626.2)).bind λo628=>
 some (o628.1,o628.2)
def VM:Fs yc:=⟨146,[.ref 0 []],[.var (.v Za) true],[Za],[⟨.ret,[(0,.v .u64)],[.var (.v Za) true],[.u64,Za]⟩],λx=>XP yD x⟩
theorem QF:VM.Ok:=fnO { still:=[2,6]} [(0,ZgS)] [QE] ⟨Zba,ytt⟩ ⟨ZkH,ytt⟩
abbrev dT2:Type:=((yL yB)×Int×Int×Int×Int×Z8×Zb×(yL ZH)×Int×Int×yU×(yL yU))
abbrev dT3:Type:=((yL yB)×Int×Int×Z8×Zb×(yL ZH)×Int×Int×yU×(yL yU))
def ZLd:yL ESh:=[.var (.v ZE) true,.var (.v Za) true,.var (.agg [.own 3 Zr]) true,.log Zr 133,.var (.agg [.own 5 .u64,.v yI,.v yI,.v .u64]) true,.log .u64 128]
abbrev tL7:yL Ty:=[(.sl .u8),yI,yI,ZE,Za,(.sl Zr),yI,yI,.u64,(.sl .u64)]
abbrev tL8:yL Ty:=[(.sl .u8),yI,yI,yI,yI,ZE,Za,(.sl Zr),yI,yI,.u64,(.sl .u64)]
def ZKg:HI:={ own:=[31,35,48,51],still:=[3,10,12,19,32,38,40,44,53,57,58,59],ghost:=[(5,[([0],Zr,133)]),(8,[([0],.u64,128)])]}
def Wv(F:Nat):dT2->yO (dT2⊕dT3)
 |(e,f,g,b,a,h,c,i,j,k,l,d)=>
 if(decide (a < b))=true then
  (XP F c).bind λo643=>
  if(apB d.length 1 8)=true then
   let y644:(yL yU):=d++([o643.1]:yL yU)
   some (.inl (e,f,g,b,wi (a+1),h,o643.2,i,j,k,l,y644))
  else
  none
 else
 some (.inr (e,f,g,h,c,i,j,k,l,d))
def ZoH:Lp:=⟨[(0,.v (.sl .u8)),(2,.ref 0 []),(4,.ref 1 []),(5,.ref 2 []),(6,.v yI),(7,.v yI),(8,.ref 4 []),(27,.v yI),(28,.v yI)],ZLd,tL8,[⟨.exit 2,[(0,.v (.sl .u8)),(2,.ref 0 []),(4,.ref 1 []),(5,.ref 2 []),(6,.v yI),(7,.v yI),(8,.ref 4 [])],ZLd,tL7⟩],Zf (Wv yD) yD⟩
theorem ZqU:ZoH.okA yc 144 1:=Zy ZKg [] [VM] ⟨QF,ytt⟩
def VX(F:Nat):((yL yB)×Int×Int×Z8×Zb×(yL ZH))->yO (((yL yB)×Int×Int×Z8×Zb×(yL ZH))⊕((yL yB)×Z8×Zb×(yL ZH)))
 |(k,i,h,l,j,m)=>
 if(decide (h < i))=true then
  (Z5 F j).bind λo642=>
  if(h==4)=true then
   some (.inr (k,l,o642.2,m))
  else
  if(decide (o642.1 > 12))=true then
   some (.inr (k,l,o642.2,m))
  else
  (Zf (Wv F) F (k,i,h,o642.1,0,l,o642.2,m,0,0,0,[])).bind λ(d,e,f,g,a,b,_,_,_,c)=>
  (Z5 F a).bind λo646=>
  (Z5 F o646.2).bind λo647=>
  (XP F o647.2).bind λo648=>
  if(apB b.length 1 48)=true then
   let y649:(yL ZH):=b++([(c,o646.1,o647.1,o648.1)]:yL ZH)
   some (.inl (d,e,wi (f+1),g,o648.2,y649))
  else
  none
 else
 some (.inr (k,l,j,m))
def ZoI:Lp:=⟨[(0,.v (.sl .u8)),(2,.ref 0 []),(4,.ref 1 []),(5,.ref 2 []),(6,.v yI),(7,.v yI)],[.var (.v ZE) true,.var (.v Za) true,.var (.agg [.own 3 Zr]) true,.log Zr 133],[(.sl .u8),yI,yI,ZE,Za,(.sl Zr)],[⟨.exit 0,[(0,.v (.sl .u8)),(2,.ref 0 []),(5,.ref 2 [])],[.var (.v ZE) true,.var (.v Za) true,.var (.agg [.own 3 Zr]) true,.log Zr 133],[(.sl .u8),ZE,Za,(.sl Zr)]⟩],Zf (VX yD) yD⟩
theorem ZqV:ZoI.okA yc 144 0:=Zy ZKg [(1,ZoH)] [YQ,VM] ⟨Y3,QF,ytt⟩ ⟨ZqU,ytt⟩
def ZbA(F:Nat)(a0:(yL yB)):yO ((Z8×Bool)):=
 (ZgQ F a0).bind λo640=>
 (Z5 F o640).bind λo641=>
 (Zf (VX F) F (a0,o641.1,0,[],o641.2,[])).bind λo650=>
 (VC F o650.2.2.2).bind λo651=>
 if(!o651)=true then
  some ([],false)
 else
 (Zes F o650.2.2.2).bind λo652=>
 (Ye F o652 o650.1).bind λo653=>
 if(!o653)=true then
  some ([],false)
 else
 some (o650.2.2.2,true)
def ZqD:Fs yc:=⟨144,[.v (.sl .u8)],[],[(.sl .u8)],[⟨.ret,[(0,.tup [.v ZE,.v .bool])],[],[ZE,.bool]⟩],λx=>ZbA yD x⟩
theorem Zw4:ZqD.Ok:=fnO ZKg [(0,ZoI)] [ZlG,YQ,ZfR,ZjM,Zbf] ⟨ZoG,Y3,Zh6,ZmY,Zhl,ytt⟩ ⟨ZqV,ytt⟩
def ZdR(F:Nat)(a0:Int)(s1:Zb):yO ((Int×Zb)):=
 (Z5 F s1).bind λo655=>
 if(decide (o655.1 > a0))=true then
  some ((-1),o655.2)
 else
 some (o655.1,o655.2)
def ZlI:Fs yc:=⟨141,[.v yI,.ref 0 []],[.var (.ref 1 []) true,.var (.v Za) true],[yI,Za],[⟨.ret,[(0,.v yI)],[.var (.ref 1 []) true,.var (.v Za) true],[yI,Za]⟩],λx=>ZdR yD x.1 x.2⟩
theorem ZoJ:ZlI.Ok:=fnO { still:=[3,5]} [] [YQ] ⟨Y3,ytt⟩
def Q4(F:Nat)(s0:Zb):yO (((yL yB)×Zb)):=
 (WJ F 32 s0).bind λo657=>
 if(decide (o657.1.length<=32)&&decide (0+32<=32))=true then
  let y658:(yL yB):=yzz.take 0++(o657.1++yzz.drop (0+o657.1.length))
  some (y658,o657.2)
 else
 none
def ZgT:Fs yc:=⟨143,[.ref 0 []],[.var (.v Za) true],[Za],[⟨.ret,[(0,.v (.arr 32 .u8))],[.var (.v Za) true],[(.arr 32 .u8),Za]⟩],λx=>Q4 yD x⟩
theorem Zmx:ZgT.Ok:=fnO { still:=[5]} [] [QE] ⟨Zba,ytt⟩
abbrev qB:=Tx×Int×(yL Out)×(yL Unit)×(yL In)×(yL In)×Zb
abbrev dT4:Type:=(Int×Int×Int×qB)
def VN(F:Nat):dT4->yO (dT4⊕(Int×qB))
 |(f,b,a,g,h,i,j,d,e,c)=>
 if(decide (a < b))=true then
  (Q4 F c).bind λo659=>
  (Z5 F o659.2).bind λo660=>
  if(apB (d.length+e.length) 1 80)=true then
   let y661:(yL In):=e++([((o659.1,o660.1),(0,[],0))]:yL In)
   some (.inl (f,b,wi (a+1),g,h,i,()::j,d,y661,o660.2))
  else
  none
 else
 some (.inr (f,g,h,i,j,d,e,c))
def Zy1:yL ESh:=[.var (.v yTx) true,.var (.agg [.rw 3,.own 2 Wr,.v yI]) true,.log Wr 130,.rowN yIn [1,1] true 123,.var (.v Za) true,.var (.ref 4 []) true]
abbrev tL9:yL Ty:=[yI,yTx,yI,(.sl Wr),(.sl (.st [])),(.sl yIn),(.sl yIn),Za]
abbrev ZLG:yL Ty:=[yI,yI,yI,yTx,yI,(.sl Wr),(.sl (.st [])),(.sl yIn),(.sl yIn),Za]
def Ztd:Lp:=⟨[(2,.ref 0 []),(4,.ref 1 []),(5,.ref 5 []),(6,.fn 141 [.ref 5 []]),(7,.v yI),(20,.v yI),(21,.v yI)],Zy1,ZLG,[⟨.exit 0,[(2,.ref 0 []),(4,.ref 1 []),(5,.ref 5 []),(6,.fn 141 [.ref 5 []]),(7,.v yI)],Zy1,tL9⟩],Zf (VN yD) yD⟩
def ZLH:HI:={ own:=[24,32,55,58,92,99],still:=[3,15,25,27,40,44,45,61,76,93,95,104,116,121,126],rowt:=[24,32,71],ghost:=[(4,[([1],Wr,130)])],lits:=[31]}
theorem Zt9:Ztd.okA yc 84 0:=Zy ZLH [] [ZgT,YQ] ⟨Zmx,Y3,ytt⟩
def QG(F:Nat)(s0:Zb):yO (((yL yB)×Zb)):=
 (Z5 F s0).bind λo665=>
 if o665.2.2=true then
  some ([],o665.2)
 else
 (WJ F o665.1 o665.2).bind λo666=>
 some (o666.1,o666.2)
def Zfz:Fs yc:=⟨145,[.ref 0 []],[.var (.v Za) true],[Za],[⟨.ret,[(0,.v (.sl .u8))],[.var (.v Za) true],[(.sl .u8),Za]⟩],λx=>QG yD x⟩
theorem ZlJ:Zfz.Ok:=fnO { still:=[2,4,10,11]} [] [YQ,QE] ⟨Y3,Zba,ytt⟩
abbrev dT5:Type:=(Int×Int×Int×Int×qB)
def VO(F:Nat):dT5->yO (dT5⊕((Bool×qB)⊕(Int×Int×qB)))
 |(i,j,b,a,k,d,e,f,g,h,c)=>
 if(decide (a < b))=true then
  (Z5 F c).bind λo664=>
  (QG F o664.2).bind λo667=>
  (ZbA F o667.1).bind λo668=>
  if(!o668.2)=true then
   some (.inr (.inl (false,([],[],0),d,e,f,g,h,o667.2)))
  else
  if(apB e.length 1 32)=true then
   let y669:(yL Out):=e++([(o664.1,o668.1)]:yL Out)
   some (.inl (i,j,b,wi (a+1),k,d,y669,f,g,h,o667.2))
  else
  none
 else
 some (.inr (.inr (i,j,k,d,e,f,g,h,c)))
abbrev ZLe:yL Ty:=[yI,yI,yTx,yI,(.sl Wr),(.sl (.st [])),(.sl yIn),(.sl yIn),Za]
abbrev ZLf:yL Ty:=[yI,yI,yI,yI,yTx,yI,(.sl Wr),(.sl (.st [])),(.sl yIn),(.sl yIn),Za]
def Zte:Lp:=⟨[(2,.ref 0 []),(4,.ref 1 []),(5,.ref 5 []),(6,.fn 141 [.ref 5 []]),(7,.v yI),(8,.v yI),(37,.v yI),(38,.v yI)],Zy1,ZLf,[⟨.ret,[(2,.ref 0 []),(3,.v .bool)],Zy1,[.bool,yTx,yI,(.sl Wr),(.sl (.st [])),(.sl yIn),(.sl yIn),Za]⟩,⟨.exit 2,[(2,.ref 0 []),(4,.ref 1 []),(5,.ref 5 []),(6,.fn 141 [.ref 5 []]),(7,.v yI),(8,.v yI)],Zy1,ZLe⟩],Zf (VO yD) yD⟩
def ZIm:HI:={ own:=[24,32,55,58,92,99],still:=[3,15,25,27,40,44,45,61,76,93,95,104,116,121,126],rowt:=[24,32,71],ghost:=[(4,[([1],Wr,130)])],gst:=[(9,[([1,0],Zr,133)])],lits:=[31]}
theorem Zua:Zte.okA yc 84 1:=Zy ZIm [] [YQ,Zfz,ZqD] ⟨Y3,ZlJ,Zw4,ytt⟩
abbrev dT6:Type:=(Int×Int×Int×Int×Int×Int×Int×Tx×Int×(yL Out)×(yL Unit)×(yL In)×(yL In)×Xs×Int×yU×Zb×(yL Sig))
abbrev dT7:Type:=(Int×Int×Int×Int×Int×Tx×Int×(yL Out)×(yL Unit)×(yL In)×(yL In)×Xs×Int×yU×Zb×(yL Sig))
def VP(F:Nat):dT6->yO (dT6⊕dT7)
 |(g,h,c,i,j,b,a,k,l,m,n,d,o,p,q,r,e,f)=>
 if(decide (a < b))=true then
  if(decide (c.toNat=d.length))=true then
   (XP F e).bind λo679=>
   (XP F o679.2).bind λo680=>
   if(apB f.length 1 16)=true then
    let y681:(yL Sig):=f++([(o679.1,o680.1)]:yL Sig)
    if(decide (c.toNat=d.length))=true then
     some (.inl (g,h,(c.toNat:Int),i,j,b,wi (a+1),k,l,m,n,d,o,p,q,r,o680.2,y681))
    else
    none
   else
   none
  else
  none
 else
 some (.inr (g,h,(c.toNat:Int),i,j,k,l,m,n,d,o,p,q,r,e,f))
def ZLg:yL ESh:=[.var (.v yTx) true,.var (.agg [.rw 3,.own 2 Wr,.v yI]) true,.log Wr 130,.rowM yIn [1,1] true 123 (.agg [.v XG,.agg [.v yI,.own 6 ZgD,.v .u64]]),.var (.v Za) true,.var (.ref 4 []) true,.log ZgD 140]
abbrev ZLI:yL Ty:=[yI,yI,yI,yI,yI,yTx,yI,(.sl Wr),(.sl (.st [])),(.sl yIn),(.sl yIn),XG,yI,.u64,Za,(.sl ZgD)]
abbrev ZLJ:yL Ty:=[yI,yI,yI,yI,yI,yI,yI,yTx,yI,(.sl Wr),(.sl (.st [])),(.sl yIn),(.sl yIn),XG,yI,.u64,Za,(.sl ZgD)]
def Ztf:Lp:=⟨[(2,.ref 0 []),(4,.ref 1 []),(5,.ref 5 []),(6,.fn 141 [.ref 5 []]),(7,.v yI),(8,.v yI),(13,.rp 3 36 [.fld 1 33]),(66,.v yI),(67,.v yI),(85,.v yI),(86,.v yI)],ZLg,ZLJ,[⟨.exit 6,[(2,.ref 0 []),(4,.ref 1 []),(5,.ref 5 []),(6,.fn 141 [.ref 5 []]),(7,.v yI),(8,.v yI),(13,.rp 3 36 [.fld 1 33]),(66,.v yI),(67,.v yI)],ZLg,ZLI⟩],Zf (VP yD) yD⟩
theorem Zub:Ztf.okA yc 84 3:=Zy ZIm [] [VM] ⟨QF,ytt⟩
def VQ(F:Nat):dT5->yO (dT5⊕((Bool×qB)⊕(Int×Int×qB)))
 |(y,z,q,p,A,v,w,x,r,t,u)=>
 if(decide (p < q))=true then
  if(decide (p=(r.length:Int)))=true then
   ZwB t λx675 r676=>
    if(inB p (r.length+(r676.length+1)))=true then
     (Z5 F u).bind λo677=>
     if(decide (p.toNat=r.length))=true then
      (ZdR F 12 o677.2).bind λo678=>
      if(decide (o678.1 < 0))=true then
       some (.inr (.inl (false,([],[],0),v,w,x,r++([(x675.1,(o677.1,[],x675.2.2.2))]:yL In),r676,o678.2)))
      else
      (Zf (VP F) F (y,z,(p.toNat:Int),q,p,o678.1,0,A,v,w,x,r,r676,x675.1,o677.1,x675.2.2.2,o678.2,[])).bind λ(d,e,b,f,g,h,i,j,k,c,o,l,m,_,a,n)=>
      (XP F a).bind λo683=>
      if(decide (b.toNat=c.length))=true then
       some (.inl (d,e,f,wi (g+1),h,i,j,k,c++([(l,(m,n,o683.1))]:yL In),o,o683.2))
      else
      none
     else
     none
    else
    none
  else
  none
 else
 some (.inr (.inr (y,z,A,v,w,x,r,t,u)))
def Ztg:Lp:=⟨[(2,.ref 0 []),(4,.ref 1 []),(5,.ref 5 []),(6,.fn 141 [.ref 5 []]),(7,.v yI),(8,.v yI),(66,.v yI),(67,.v yI)],Zy1,ZLf,[⟨.ret,[(2,.ref 0 []),(3,.v .bool)],Zy1,[.bool,yTx,yI,(.sl Wr),(.sl (.st [])),(.sl yIn),(.sl yIn),Za]⟩,⟨.exit 4,[(2,.ref 0 []),(4,.ref 1 []),(5,.ref 5 []),(7,.v yI),(8,.v yI)],Zy1,ZLe⟩],Zf (VQ yD) yD⟩
theorem Zuc:Ztg.okA yc 84 2:=ZwH (fi:={ hi:=ZIm,lp:=[(3,Ztf)],gh:=[(4,.focus 12 ZgD 140)]}) (specs:={ l:=[YQ,ZlI,VM]}) (okS ⟨Y3,ZoJ,QF,ytt⟩) ⟨Zub,ytt⟩
def Zbm(F:Nat)(s0:Zb):yO ((Bool×Zb)):=
 some (!s0.2,s0)
def Zi2:Fs yc:=⟨147,[.ref 0 []],[.var (.v Za) true],[Za],[⟨.ret,[(0,.v .bool)],[.var (.v Za) true],[.bool,Za]⟩],λx=>Zbm yD x⟩
theorem ZoK:Zi2.Ok:=fnO { still:=[2]} [] [] trivial
def Q5(F:Nat)(s0:Zb):yO ((Int×Zb)):=
 some ((s0.1.length:Int),s0)
def ZgU:Fs yc:=⟨148,[.ref 0 []],[.var (.v Za) true],[Za],[⟨.ret,[(0,.v yI)],[.var (.v Za) true],[yI,Za]⟩],λx=>Q5 yD x⟩
theorem Zmy:ZgU.Ok:=fnO { still:=[2]} [] [] trivial
def ZgV(F:Nat)(a0:(yL yB)):yO ((Tx×Bool)):=
 (ZgQ F a0).bind λo654=>
 (ZdR F 64 o654).bind λo656=>
 (Zf (VN F) F (o656.1,o656.1,0,([],[],0),0,[],[],[],[],o656.2)).bind λ(q,r,t,u,v,w,x,p)=>
 (ZdR F 64 p).bind λo663=>
 (Zf (VO F) F (q,o663.1,o663.1,0,r,t,u,v,w,x,o663.2)).bind λo670=>
 match o670 with
 |.inl (b,a,_,_,_,_,_,_)=>
  some (a,b)
 |.inr (k,l,m,_,n,o,i,j,h)=>
  (Z5 F h).bind λo673=>
  let y674:Int:=(((i.length+j.length):Nat):Int)
  (Zf (VQ F) F (k,l,y674,0,m,o673.1,n,o,i,j,o673.2)).bind λo684=>
  match o684 with
  |.inl (b,a,_,_,_,_,_,_)=>
   some (a,b)
  |.inr (b,c,_,g,f,_,e,a,d)=>
   if a.isEmpty=true then
    if(decide (b < 0))=true then
     some (([],[],0),false)
    else
    if(decide (c < 0))=true then
     some (([],[],0),false)
    else
    (Zbm F d).bind λo687=>
    if(!o687.1)=true then
     some (([],[],0),false)
    else
    (Q5 F o687.2).bind λo688=>
    if(decide (o688.1 > 0))=true then
     some (([],[],0),false)
    else
    (Qd F (e,f,g)).bind λo689=>
    if(!o689)=true then
     some (([],[],0),false)
    else
    some ((e,f,g),true)
   else
   none
def Znv(F:Nat):Fs yc:=⟨84,[.v (.sl .u8)],[],[(.sl .u8)],[⟨.ret,[(0,.tup [.v yTx,.v .bool])],[],[yTx,.bool]⟩],λx=>ZgV F x⟩
def Zvm:Fs yc:=Znv yD
theorem Zth:Zvm.Ok:=ZiA (fi:={ hi:=ZIm,lp:=[(0,Ztd),(1,Zte),(2,Ztg)],gh:=[(2,.rows 4 [0] yIn 123 [1,1]),(41,.done 4)]}) (specs:={ l:=[ZlG,ZlI,YQ,Zi2,ZgU,ZgH]}) (okS ⟨ZoG,ZoJ,Y3,ZoK,Zmy,Zep,ytt⟩) ⟨Zt9,Zua,Zuc,ytt⟩
end
end Go.Proofs.YtghfiijgklnflaaGreat
end
