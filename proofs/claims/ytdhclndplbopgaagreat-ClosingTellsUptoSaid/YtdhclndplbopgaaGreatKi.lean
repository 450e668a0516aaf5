/- Parts of the proof, in one file. -/
import Derived.Test.YtdhclndplbopgaaGreatKh
open Go.Proofs.Tryz renaming prog → yb
open Int renaming toNat_natCast → yar
open List renaming getElem?_eq_some_iff → yq, map_cons → yaj, mem_singleton → yam, mem_append → ycg
open Option renaming bind_some → ya
set_option linter.unusedVariables false
set_option linter.unusedSimpArgs false
section
set_option maxRecDepth 4000
namespace Go.Proofs.YtdhclndplbopgaaGreat
open Go Go.Ev
noncomputable section
abbrev ZB:Ty:=(.st [yI,.u8,.u8,yI,(.sl .u8),yI,Zy])
abbrev Zu:Type:=(Int×yB×yB×Int×(yL yB)×Int×Sig)
def ZbP(F:Nat)(a1:Msg)(s0:(yL Msg)):yO ((yL Msg)):=
 (Qx F s0 a1.1).bind λo1270=>
 if o1270.2=true then
  some s0
 else
 (Vg F a1.2.2.2.2.2.2.2.2.2.2.2.2.2).bind λo1271=>
 if(apB s0.length 1 328)=true then
  let y1272:(yL Msg):=s0++([(a1.1,0,0,(0,0,0,0,0),0,[],a1.2.2.2.2.2.2.1,a1.2.2.2.2.2.2.2.1,yzz,0,([],[],0),(0,0,0,0,0),(0,0,0,0,0,0),o1271)]:yL Msg)
  some y1272
 else
 none
def ZjO:Fs yb:=⟨102,[.own 0 Zc,.v Zc],[.log Zc 99],[Zc,(.sl Zc)],[⟨.ret,[(0,.own 0 Zc)],[.log Zc 99],[(.sl Zc)]⟩],λx=>ZbP yD x.1 x.2⟩
def ZPF:HI:={ own:=[0,4,15,16,28],still:=[8,10,20]}
theorem ZqG:ZjO.Ok:=fnO ZPF [] [Zbi,Zgs] ⟨Zau,ZeR,ytt⟩
abbrev dT5:Type:=(Int×Int×Zz×Kit×Int×Int×(yL Int)×Int×(yL yG)×Int×Sig×(yL Cond)×(yL Msg)×(yL Msg)×(yL Msg))
abbrev dT6:Type:=(Zz×Kit×Int×Int×(yL Int)×Int×(yL yG)×Int×Sig×(yL Cond)×(yL Msg)×(yL Msg)×(yL Msg))
def VN(F:Nat)(s:dT5):yO (dT5⊕dT6):=
 if(decide (s.2.1 < s.1))=true then
  (idx s.2.2.2.2.2.2.2.2.2.2.2.2.1 s.2.1).bind λe1269=>
  (ZbP F e1269 s.2.2.2.2.2.2.2.2.2.2.2.2.2.2).bind λo1273=>
  some (.inl (s.1,wi (s.2.1+1),s.2.2.1,s.2.2.2.1,s.2.2.2.2.1,s.2.2.2.2.2.1,s.2.2.2.2.2.2.1,s.2.2.2.2.2.2.2.1,s.2.2.2.2.2.2.2.2.1,s.2.2.2.2.2.2.2.2.2.1,s.2.2.2.2.2.2.2.2.2.2.1,s.2.2.2.2.2.2.2.2.2.2.2.1,s.2.2.2.2.2.2.2.2.2.2.2.2.1,s.2.2.2.2.2.2.2.2.2.2.2.2.2.1,o1273))
 else
 some (.inr (s.2.2.1,s.2.2.2.1,s.2.2.2.2.1,s.2.2.2.2.2.1,s.2.2.2.2.2.2.1,s.2.2.2.2.2.2.2.1,s.2.2.2.2.2.2.2.2.1,s.2.2.2.2.2.2.2.2.2.1,s.2.2.2.2.2.2.2.2.2.2.1,s.2.2.2.2.2.2.2.2.2.2.2.1,s.2.2.2.2.2.2.2.2.2.2.2.2.1,s.2.2.2.2.2.2.2.2.2.2.2.2.2.1,s.2.2.2.2.2.2.2.2.2.2.2.2.2.2))
def ZOW:yL ESh:=[.var (.agg [.v Zh,.v ZF,.v yI,.agg [.v yI,.v (.arr 2 yI),.own 1 ZE,.v yI],.v (.arr 2 Ze),.v yI,.own 2 Zc,.own 3 Zc,.v Zy]) true,.log ZE 97,.log Zc 99,.log Zc 99,.log Zc 99]
abbrev ZPG:yL Ty:=[Zh,ZF,yI,yI,(.arr 2 yI),yI,(.arr 2 Ze),yI,Zy,(.sl ZE),(.sl Zc),(.sl Zc),(.sl Zc)]
abbrev ZPH:yL Ty:=[yI,yI,Zh,ZF,yI,yI,(.arr 2 yI),yI,(.arr 2 Ze),yI,Zy,(.sl ZE),(.sl Zc),(.sl Zc),(.sl Zc)]
def Zgd:Lp:=⟨[(3,.own 4 Zc),(9,.own 2 Zc),(10,.v yI),(11,.v yI)],ZOW,ZPH,[⟨.exit 0,[(3,.own 4 Zc)],ZOW,ZPG⟩],Zb (VN yD) yD⟩
def ZOX:HI:={ own:=[3,15,17],still:=[2,15,16]}
theorem Zlh:Zgd.okA yb 32 0:=Zx ZOX [] [ZjO] ⟨ZqG,ytt⟩
def ZN(F:Nat)(s0_0:Zz)(s0_1:Kit)(s0_2:Int)(s0_3:Int)(s0_4:(yL Int))(s0_5:Int)(s0_6:(yL yG))(s0_7:Int)(s0_8:Sig)(s1:(yL Cond))(s2:(yL Msg))(s3:(yL Msg)):yO (((yL Msg)×qO)):=
 (Zb (VN F) F ((s2.length:Int),0,s0_0,s0_1,s0_2,s0_3,s0_4,s0_5,s0_6,s0_7,s0_8,s1,s2,s3,[])).bind λo1274=>
 some (o1274.2.2.2.2.2.2.2.2.2.2.2.2,o1274.1,o1274.2.1,o1274.2.2.1,o1274.2.2.2.1,o1274.2.2.2.2.1,o1274.2.2.2.2.2.1,o1274.2.2.2.2.2.2.1,o1274.2.2.2.2.2.2.2.1,o1274.2.2.2.2.2.2.2.2.1,o1274.2.2.2.2.2.2.2.2.2.1,o1274.2.2.2.2.2.2.2.2.2.2.1,o1274.2.2.2.2.2.2.2.2.2.2.2.1)
def QP:Fs yb:=⟨32,[.ref 0 []],zF,[Zh,ZF,yI,yI,(.arr 2 yI),yI,(.arr 2 Ze),yI,Zy,(.sl ZE),(.sl Zc),(.sl Zc)],[⟨.ret,[(0,.v (.sl Zc))],zF,[(.sl Zc),Zh,ZF,yI,yI,(.arr 2 yI),yI,(.arr 2 Ze),yI,Zy,(.sl ZE),(.sl Zc),(.sl Zc)]⟩],λx=>ZN yD x.1 x.2.1 x.2.2.1 x.2.2.2.1 x.2.2.2.2.1 x.2.2.2.2.2.1 x.2.2.2.2.2.2.1 x.2.2.2.2.2.2.2.1 x.2.2.2.2.2.2.2.2.1 x.2.2.2.2.2.2.2.2.2.1 x.2.2.2.2.2.2.2.2.2.2.1 x.2.2.2.2.2.2.2.2.2.2.2⟩
theorem ZbF:QP.Ok:=fnO ZOX [(0,Zgd)] [] trivial ⟨Zlh,ytt⟩
def Xk(F:Nat)(a1:Msg)(s0:(yL Msg)):yO ((yL Msg)):=
 (Qx F s0 a1.1).bind λo1278=>
 if o1278.2=true then
  some s0
 else
 (Vg F a1.2.2.2.2.2.2.2.2.2.2.2.2.2).bind λo1279=>
 if(apB s0.length 1 328)=true then
  let y1280:(yL Msg):=s0++([(a1.1,0,0,(0,0,0,0,0),0,[],a1.2.2.2.2.2.2.1,a1.2.2.2.2.2.2.2.1,yzz,0,([],[],0),(0,0,0,0,0),(0,0,0,0,0,0),o1279)]:yL Msg)
  some y1280
 else
 none
def Zd1:Fs yb:=⟨102,[.own 0 Zc,.v Zc],[.log Zc 99],[Zc,(.sl Zc)],[⟨.ret,[(0,.own 0 Zc)],[.log Zc 99],[(.sl Zc)]⟩],λx=>Xk yD x.1 x.2⟩
theorem Zi2:Zd1.Ok:=fnO ZPe [] [Zbi,Zgs] ⟨Zau,ZeR,ytt⟩
def YR(F:Nat)(a1:Msg)(s0_0:Zz)(s0_1:Kit)(s0_2:Int)(s0_3:Int)(s0_4:(yL Int))(s0_5:Int)(s0_6:(yL yG))(s0_7:Int)(s0_8:Sig)(s1:(yL Cond))(s2:(yL Msg))(s3:(yL Msg)):yO ((qO)):=
 (Xk F a1 s2).bind λo1281=>
 some (s0_0,s0_1,s0_2,s0_3,s0_4,s0_5,s0_6,s0_7,s0_8,s1,o1281,s3)
def Zd2:Fs yb:=⟨103,[.ref 0 [],.v Zc],zF,[Zc,Zh,ZF,yI,yI,(.arr 2 yI),yI,(.arr 2 Ze),yI,Zy,(.sl ZE),(.sl Zc),(.sl Zc)],[⟨.ret,[(0,.tup [])],zF,[Zh,ZF,yI,yI,(.arr 2 yI),yI,(.arr 2 Ze),yI,Zy,(.sl ZE),(.sl Zc),(.sl Zc)]⟩],λx=>YR yD x.1 x.2.1 x.2.2.1 x.2.2.2.1 x.2.2.2.2.1 x.2.2.2.2.2.1 x.2.2.2.2.2.2.1 x.2.2.2.2.2.2.2.1 x.2.2.2.2.2.2.2.2.1 x.2.2.2.2.2.2.2.2.2.1 x.2.2.2.2.2.2.2.2.2.2.1 x.2.2.2.2.2.2.2.2.2.2.2.1 x.2.2.2.2.2.2.2.2.2.2.2.2⟩
theorem Zi3:Zd2.Ok:=fnO { own:=[8],still:=[8,9]} [] [Zd1] ⟨Zi2,ytt⟩
def Yi(F:Nat)(s0_0:Zz)(s0_1:Kit)(s0_2:Int)(s0_3:Int)(s0_4:(yL Int))(s0_5:Int)(s0_6:(yL yG))(s0_7:Int)(s0_8:Sig)(s1:(yL Cond))(s2:(yL Msg))(s3:(yL Msg)):yO (((yL Msg)×qO)):=
 if(s0_2==s0_0.2.2.2.2)=true then
  if(inB s0_2 2)=true then
   (s0_6[s0_2.toNat]?).bind λe1276=>
   (Q6 F e1276).bind λo1277=>
   (YR F (12,0,0,(0,0,0,0,0),0,[],s0_7,(0,0),yzz,0,([],[],0),(0,0,0,0,0),(0,0,0,0,0,0),o1277) s0_0 s0_1 s0_2 s0_3 s0_4 s0_5 s0_6 s0_7 s0_8 s1 s2 s3).bind λo1282=>
   (ZN F o1282.1 o1282.2.1 o1282.2.2.1 o1282.2.2.2.1 o1282.2.2.2.2.1 o1282.2.2.2.2.2.1 o1282.2.2.2.2.2.2.1 o1282.2.2.2.2.2.2.2.1 o1282.2.2.2.2.2.2.2.2.1 o1282.2.2.2.2.2.2.2.2.2.1 o1282.2.2.2.2.2.2.2.2.2.2.1 o1282.2.2.2.2.2.2.2.2.2.2.2).bind λo1283=>
   some (o1283.1,o1283.2.1,o1283.2.2.1,o1283.2.2.2.1,o1283.2.2.2.2.1,o1283.2.2.2.2.2.1,o1283.2.2.2.2.2.2.1,o1283.2.2.2.2.2.2.2.1,o1283.2.2.2.2.2.2.2.2.1,o1283.2.2.2.2.2.2.2.2.2.1,o1283.2.2.2.2.2.2.2.2.2.2.1,o1283.2.2.2.2.2.2.2.2.2.2.2.1,o1283.2.2.2.2.2.2.2.2.2.2.2.2)
  else
  none
 else
 if(inB s0_2 2)=true then
  (s0_6[s0_2.toNat]?).bind λe1284=>
  (Q6 F e1284).bind λo1285=>
  (YR F (12,0,0,(0,0,0,0,0),0,[],0,(0,0),yzz,0,([],[],0),(0,0,0,0,0),(0,0,0,0,0,0),o1285) s0_0 s0_1 s0_2 s0_3 s0_4 s0_5 s0_6 s0_7 s0_8 s1 s2 s3).bind λo1286=>
  (ZN F o1286.1 o1286.2.1 o1286.2.2.1 o1286.2.2.2.1 o1286.2.2.2.2.1 o1286.2.2.2.2.2.1 o1286.2.2.2.2.2.2.1 o1286.2.2.2.2.2.2.2.1 o1286.2.2.2.2.2.2.2.2.1 o1286.2.2.2.2.2.2.2.2.2.1 o1286.2.2.2.2.2.2.2.2.2.2.1 o1286.2.2.2.2.2.2.2.2.2.2.2).bind λo1287=>
  some (o1287.1,o1287.2.1,o1287.2.2.1,o1287.2.2.2.1,o1287.2.2.2.2.1,o1287.2.2.2.2.2.1,o1287.2.2.2.2.2.2.1,o1287.2.2.2.2.2.2.2.1,o1287.2.2.2.2.2.2.2.2.1,o1287.2.2.2.2.2.2.2.2.2.1,o1287.2.2.2.2.2.2.2.2.2.2.1,o1287.2.2.2.2.2.2.2.2.2.2.2.1,o1287.2.2.2.2.2.2.2.2.2.2.2.2)
 else
 none
def Zb9:Fs yb:=⟨34,[.ref 0 []],zF,[Zh,ZF,yI,yI,(.arr 2 yI),yI,(.arr 2 Ze),yI,Zy,(.sl ZE),(.sl Zc),(.sl Zc)],[⟨.ret,[(0,.v (.sl Zc))],zF,[(.sl Zc),Zh,ZF,yI,yI,(.arr 2 yI),yI,(.arr 2 Ze),yI,Zy,(.sl ZE),(.sl Zc),(.sl Zc)]⟩],λx=>Yi yD x.1 x.2.1 x.2.2.1 x.2.2.2.1 x.2.2.2.2.1 x.2.2.2.2.2.1 x.2.2.2.2.2.2.1 x.2.2.2.2.2.2.2.1 x.2.2.2.2.2.2.2.2.1 x.2.2.2.2.2.2.2.2.2.1 x.2.2.2.2.2.2.2.2.2.2.1 x.2.2.2.2.2.2.2.2.2.2.2⟩
theorem Zge:Zb9.Ok:=fnO { still:=[2,30,33,35]} [] [Zdq,Zd2,QP] ⟨Zcb,Zi3,ZbF,ytt⟩
def Xl(F:Nat)(s:(Int×Int×qL)):yO ((Int×Int×qL)⊕((Bool×qL)⊕(qL))):=
 let y1289:Bool:=decide (s.2.1 < (s.2.2.2.2.2.2.2.2.2.1.length:Int))
 if y1289=true then
  (idx s.2.2.2.2.2.2.2.2.2.1 s.2.1).bind λe1290=>
  if(e1290.1==s.1)=true then
   some (.inr (.inl (true,s.2.2.1,s.2.2.2.1,s.2.2.2.2.1,s.2.2.2.2.2.1,s.2.2.2.2.2.2.1,s.2.2.2.2.2.2.2.1,s.2.2.2.2.2.2.2.2.1,s.2.2.2.2.2.2.2.2.2.1,s.2.2.2.2.2.2.2.2.2.2)))
  else
  some (.inl (s.1,wi (s.2.1+1),s.2.2.1,s.2.2.2.1,s.2.2.2.2.1,s.2.2.2.2.2.1,s.2.2.2.2.2.2.1,s.2.2.2.2.2.2.2.1,s.2.2.2.2.2.2.2.2.1,s.2.2.2.2.2.2.2.2.2.1,s.2.2.2.2.2.2.2.2.2.2))
 else
 some (.inr (.inr (s.2.2.1,s.2.2.2.1,s.2.2.2.2.1,s.2.2.2.2.2.1,s.2.2.2.2.2.2.1,s.2.2.2.2.2.2.2.1,s.2.2.2.2.2.2.2.2.1,s.2.2.2.2.2.2.2.2.2.1,s.2.2.2.2.2.2.2.2.2.2)))
def ZNS:yL ESh:=zD
abbrev ZPI:yL Ty:=[.bool,Zh,ZF,yI,Zf,(.arr 2 Ze),yI,Zy,(.sl Zc),(.sl Zc)]
abbrev ZPJ:yL Ty:=[yI,yI,Zh,ZF,yI,Zf,(.arr 2 Ze),yI,Zy,(.sl Zc),(.sl Zc)]
def Zcg:Lp:=⟨[(0,.ref 0 []),(1,.v yI),(5,.v yI)],ZNS,ZPJ,[⟨.ret,[(4,.v .bool)],ZNS,ZPI⟩,⟨.exit 0,[],ZNS,[Zh,ZF,yI,Zf,(.arr 2 Ze),yI,Zy,(.sl Zc),(.sl Zc)]⟩],Zb (Xl yD) yD⟩
theorem ZhB:Zcg.okA yb 105 0:=Zx { still:=[4]} [] [] trivial
def Wj(F:Nat)(a1:Int)(s0_0:Zz)(s0_1:Kit)(s0_2:Int)(s0_3:yH)(s0_4:(yL yG))(s0_5:Int)(s0_6:Sig)(s1:(yL Msg))(s2:(yL Msg)):yO ((Bool×qL)):=
 (Zb (Xl F) F (a1,0,s0_0,s0_1,s0_2,s0_3,s0_4,s0_5,s0_6,s1,s2)).bind λo1291=>
 match o1291 with
 |.inl o1292=>
  some (o1292.1,o1292.2.1,o1292.2.2.1,o1292.2.2.2.1,o1292.2.2.2.2.1,o1292.2.2.2.2.2.1,o1292.2.2.2.2.2.2.1,o1292.2.2.2.2.2.2.2.1,o1292.2.2.2.2.2.2.2.2.1,o1292.2.2.2.2.2.2.2.2.2)
 |.inr o1293=>
  some (false,o1293.1,o1293.2.1,o1293.2.2.1,o1293.2.2.2.1,o1293.2.2.2.2.1,o1293.2.2.2.2.2.1,o1293.2.2.2.2.2.2.1,o1293.2.2.2.2.2.2.2.1,o1293.2.2.2.2.2.2.2.2)
def Q2:Fs yb:=⟨105,[.ref 0 [],.v yI],zD,[yI,Zh,ZF,yI,Zf,(.arr 2 Ze),yI,Zy,(.sl Zc),(.sl Zc)],[⟨.ret,[(0,.v .bool)],zD,[.bool,Zh,ZF,yI,Zf,(.arr 2 Ze),yI,Zy,(.sl Zc),(.sl Zc)]⟩],λx=>Wj yD x.1 x.2.1 x.2.2.1 x.2.2.2.1 x.2.2.2.2.1 x.2.2.2.2.2.1 x.2.2.2.2.2.2.1 x.2.2.2.2.2.2.2.1 x.2.2.2.2.2.2.2.2.1 x.2.2.2.2.2.2.2.2.2⟩
theorem Zch:Q2.Ok:=fnO { still:=[4]} [(0,Zcg)] [] trivial ⟨ZhB,ytt⟩
def Z8(F:Nat)(s0_0:Zz)(s0_1:Kit)(s0_2:Int)(s0_3:yH)(s0_4:(yL yG))(s0_5:Int)(s0_6:Sig)(s1:(yL Msg))(s2:(yL Msg)):yO (((yL Msg)×qL)):=
 if(apB 0 s1.length 328)=true then
  some (s1,s0_0,s0_1,s0_2,s0_3,s0_4,s0_5,s0_6,s1,s2)
 else
 none
def WM:Fs yb:=⟨40,[.ref 0 []],zD,[Zh,ZF,yI,Zf,(.arr 2 Ze),yI,Zy,(.sl Zc),(.sl Zc)],[⟨.ret,[(0,.v (.sl Zc))],zD,[(.sl Zc),Zh,ZF,yI,Zf,(.arr 2 Ze),yI,Zy,(.sl Zc),(.sl Zc)]⟩],λx=>Z8 yD x.1 x.2.1 x.2.2.1 x.2.2.2.1 x.2.2.2.2.1 x.2.2.2.2.2.1 x.2.2.2.2.2.2.1 x.2.2.2.2.2.2.2.1 x.2.2.2.2.2.2.2.2⟩
theorem VY:WM.Ok:=fnO { own:=[3,8],still:=[2]} [] [] trivial
def Y2(F:Nat)(s0_0:Zz)(s0_1:Kit)(s0_2:Int)(s0_3:yH)(s0_4:(yL yG))(s0_5:Int)(s0_6:Sig)(s1:(yL Msg))(s2:(yL Msg)):yO (((yL Msg)×qL)):=
 (Wj F 12 s0_0 s0_1 s0_2 s0_3 s0_4 s0_5 s0_6 s1 s2).bind λo1294=>
 if(!o1294.1)=true then
  if(o1294.2.2.2.1==o1294.2.1.2.2.2.2)=true then
   if(inB o1294.2.2.2.1 2)=true then
    (o1294.2.2.2.2.2.1[o1294.2.2.2.1.toNat]?).bind λe1295=>
    (Xp F e1295).bind λo1296=>
    if(apB o1294.2.2.2.2.2.2.2.2.1.length 1 328)=true then
     let y1297:(yL Msg):=o1294.2.2.2.2.2.2.2.2.1++([(12,0,0,(0,0,0,0,0),0,[],o1294.2.2.2.2.2.2.1,(0,0),yzz,0,([],[],0),(0,0,0,0,0),(0,0,0,0,0,0),o1296)]:yL Msg)
     (Z8 F o1294.2.1 o1294.2.2.1 o1294.2.2.2.1 o1294.2.2.2.2.1 o1294.2.2.2.2.2.1 o1294.2.2.2.2.2.2.1 o1294.2.2.2.2.2.2.2.1 y1297 o1294.2.2.2.2.2.2.2.2.2).bind λo1298=>
     some (o1298.1,o1298.2.1,o1298.2.2.1,o1298.2.2.2.1,o1298.2.2.2.2.1,o1298.2.2.2.2.2.1,o1298.2.2.2.2.2.2.1,o1298.2.2.2.2.2.2.2.1,o1298.2.2.2.2.2.2.2.2.1,o1298.2.2.2.2.2.2.2.2.2)
    else
    none
   else
   none
  else
  if(inB o1294.2.2.2.1 2)=true then
   (o1294.2.2.2.2.2.1[o1294.2.2.2.1.toNat]?).bind λe1299=>
   (Xp F e1299).bind λo1300=>
   if(apB o1294.2.2.2.2.2.2.2.2.1.length 1 328)=true then
    let y1301:(yL Msg):=o1294.2.2.2.2.2.2.2.2.1++([(12,0,0,(0,0,0,0,0),0,[],0,(0,0),yzz,0,([],[],0),(0,0,0,0,0),(0,0,0,0,0,0),o1300)]:yL Msg)
    (Z8 F o1294.2.1 o1294.2.2.1 o1294.2.2.2.1 o1294.2.2.2.2.1 o1294.2.2.2.2.2.1 o1294.2.2.2.2.2.2.1 o1294.2.2.2.2.2.2.2.1 y1301 o1294.2.2.2.2.2.2.2.2.2).bind λo1302=>
    some (o1302.1,o1302.2.1,o1302.2.2.1,o1302.2.2.2.1,o1302.2.2.2.2.1,o1302.2.2.2.2.2.1,o1302.2.2.2.2.2.2.1,o1302.2.2.2.2.2.2.2.1,o1302.2.2.2.2.2.2.2.2.1,o1302.2.2.2.2.2.2.2.2.2)
   else
   none
  else
  none
 else
 (Z8 F o1294.2.1 o1294.2.2.1 o1294.2.2.2.1 o1294.2.2.2.2.1 o1294.2.2.2.2.2.1 o1294.2.2.2.2.2.2.1 o1294.2.2.2.2.2.2.2.1 o1294.2.2.2.2.2.2.2.2.1 o1294.2.2.2.2.2.2.2.2.2).bind λo1303=>
 some (o1303.1,o1303.2.1,o1303.2.2.1,o1303.2.2.2.1,o1303.2.2.2.2.1,o1303.2.2.2.2.2.1,o1303.2.2.2.2.2.2.1,o1303.2.2.2.2.2.2.2.1,o1303.2.2.2.2.2.2.2.2.1,o1303.2.2.2.2.2.2.2.2.2)
def Qz:Fs yb:=⟨35,[.ref 0 []],zD,[Zh,ZF,yI,Zf,(.arr 2 Ze),yI,Zy,(.sl Zc),(.sl Zc)],[⟨.ret,[(0,.v (.sl Zc))],zD,[(.sl Zc),Zh,ZF,yI,Zf,(.arr 2 Ze),yI,Zy,(.sl Zc),(.sl Zc)]⟩],λx=>Y2 yD x.1 x.2.1 x.2.2.1 x.2.2.2.1 x.2.2.2.2.1 x.2.2.2.2.2.1 x.2.2.2.2.2.2.1 x.2.2.2.2.2.2.2.1 x.2.2.2.2.2.2.2.2⟩
def ZPK:HI:={ own:=[25,39],still:=[2,4,34,42]}
theorem ZbW:Qz.Ok:=fnO ZPK [] [Q2,Qo,WM] ⟨Zch,ZaI,VY,ytt⟩
abbrev zS:=yM×(yL yG)×(yL Int)×yG×Zz×(yL Kit)×yH×Tx×Tx×Zz×Kit×Int×Int×(yL Int)×Int×(yL yG)×Int×Sig×(yL Cond)×(yL Msg)×(yL Msg)×Zz×Kit×Int×yH×(yL yG)×Int×Sig×(yL Msg)×(yL Msg)×Zz×Kit×Int×Int×(yL Int)×Int×(yL yG)×Int×Sig×(yL Cond)×(yL Msg)×(yL Msg)×Zz×Kit×Int×yH×(yL yG)×Int×Sig×(yL Msg)×(yL Msg)×Zu×Msg
abbrev dT7:Type:=((yL Zu)×Bool×Int×Int×(yL Msg)×zS)
abbrev dT8:Type:=(Bool×zS)
abbrev dT9:Type:=((yL Zu)×Bool×Int×zS)
abbrev ZLL:Type:=((yL Zu)×Bool×Int×Int×zS)
def Z2(F:Nat):dT7->yO (dT8⊕dT9⊕ZLL)
 |(y,z,A,B,C,D,E,G,H,I,J,K,L,M,N,O,P,Q,R,S,T,U,V,W,X,Y,Z,b0,b1,b2,b3,b4,b5,b6,b7,b8,b9,c0,c1,c2,c3,c4,c5,c6,c7,c8,c9,d0,d1,d2,d3,d4,d5,d6,d7,d8,d9,f0)=>
 if((bits .and .i64 d9.1 3)==0)=true then
  if(B==0)=true then
   (Yi F N O P Q R S T U V W X Y).bind λ(k,l,m,n,o,p,q,r,t,u,v,w,x)=>
   (Y2 F Z b0 b1 b2 b3 b4 b5 b6 b7).bind λ(a,b,c,d,e,f,g,h,i,j)=>
   (YM F k a).bind λo1417=>
   if(!o1417)=true then
    some (.inl (false,D,E,G,H,I,J,K,L,M,l,m,n,o,p,q,r,t,u,v,w,x,b,c,d,e,f,g,h,i,j,b8,b9,c0,c1,c2,c3,c4,c5,c6,c7,c8,c9,d0,d1,d2,d3,d4,d5,d6,d7,d8,d9,f0))
   else
   some (.inr (.inl (y,z,A,D,E,G,H,I,J,K,L,M,l,m,n,o,p,q,r,t,u,v,w,x,b,c,d,e,f,g,h,i,j,b8,b9,c0,c1,c2,c3,c4,c5,c6,c7,c8,c9,d0,d1,d2,d3,d4,d5,d6,d7,d8,d9,f0)))
  else
  if(B==1)=true then
   (Yi F b8 b9 c0 c1 c2 c3 c4 c5 c6 c7 c8 c9).bind λ(k,l,m,n,o,p,q,r,t,u,v,w,x)=>
   (Y2 F d0 d1 d2 d3 d4 d5 d6 d7 d8).bind λ(a,b,c,d,e,f,g,h,i,j)=>
   (YM F k a).bind λo1420=>
   if(!o1420)=true then
    some (.inl (false,D,E,G,H,I,J,K,L,M,N,O,P,Q,R,S,T,U,V,W,X,Y,Z,b0,b1,b2,b3,b4,b5,b6,b7,l,m,n,o,p,q,r,t,u,v,w,x,b,c,d,e,f,g,h,i,j,d9,f0))
   else
   some (.inr (.inl (y,z,A,D,E,G,H,I,J,K,L,M,N,O,P,Q,R,S,T,U,V,W,X,Y,Z,b0,b1,b2,b3,b4,b5,b6,b7,l,m,n,o,p,q,r,t,u,v,w,x,b,c,d,e,f,g,h,i,j,d9,f0)))
  else
  none
 else
 if((bits .and .i64 d9.1 3)==1)=true then
  if((C.length:Int)==0)=true then
   some (.inr (.inl (y,z,A,D,E,G,H,I,J,K,L,M,N,O,P,Q,R,S,T,U,V,W,X,Y,Z,b0,b1,b2,b3,b4,b5,b6,b7,b8,b9,c0,c1,c2,c3,c4,c5,c6,c7,c8,c9,d0,d1,d2,d3,d4,d5,d6,d7,d8,d9,f0)))
  else
  if((C.length:Int)!=0)=true then
   let y1421:Int:=Int.tmod (d9.2.2.1.toNat:Int) (C.length:Int)
   (idx C y1421).bind λe1422=>
   some (.inr (.inr (y,z,A,B,D,E,G,H,I,J,K,L,M,N,O,P,Q,R,S,T,U,V,W,X,Y,Z,b0,b1,b2,b3,b4,b5,b6,b7,b8,b9,c0,c1,c2,c3,c4,c5,c6,c7,c8,c9,d0,d1,d2,d3,d4,d5,d6,d7,d8,d9,e1422)))
  else
  none
 else
 if((bits .and .i64 d9.1 3)==2)=true then
  if((C.length:Int)==0)=true then
   some (.inr (.inl (y,z,A,D,E,G,H,I,J,K,L,M,N,O,P,Q,R,S,T,U,V,W,X,Y,Z,b0,b1,b2,b3,b4,b5,b6,b7,b8,b9,c0,c1,c2,c3,c4,c5,c6,c7,c8,c9,d0,d1,d2,d3,d4,d5,d6,d7,d8,d9,f0)))
  else
  if((C.length:Int)!=0)=true then
   let y1423:Int:=Int.tmod (d9.2.2.1.toNat:Int) (C.length:Int)
   (idx C y1423).bind λe1424=>
   some (.inr (.inr (y,z,A,B,D,E,G,H,I,J,K,L,M,N,O,P,Q,R,S,T,U,V,W,X,Y,Z,b0,b1,b2,b3,b4,b5,b6,b7,b8,b9,c0,c1,c2,c3,c4,c5,c6,c7,c8,c9,d0,d1,d2,d3,d4,d5,d6,d7,d8,d9,e1424)))
  else
  none
 else
 some (.inr (.inr (y,z,A,B,D,E,G,H,I,J,K,L,M,N,O,P,Q,R,S,T,U,V,W,X,Y,Z,b0,b1,b2,b3,b4,b5,b6,b7,b8,b9,c0,c1,c2,c3,c4,c5,c6,c7,c8,c9,d0,d1,d2,d3,d4,d5,d6,d7,d8,d9,f0)))
def ZGa:yL ESh:=[.var (.v Zv) true,.var (.v (.arr 2 Ze)) true,.var (.v (.arr 2 yI)) true,.var (.v Ze) true,.var (.v Zh) true,.var (.v (.arr 2 ZF)) true,.var (.v Zf) true,.var (.v yTx) true,.var (.v yTx) true,.var (.arr 2 1 [.ref 11 [],.ref 18 []]) true,.var (.arr 2 1 [.ref 15 [],.ref 22 []]) true,.var (.agg [.v Zh,.v ZF,.v yI,.agg [.v yI,.v (.arr 2 yI),.own 12 ZE,.v yI],.v (.arr 2 Ze),.v yI,.own 13 Zc,.own 14 Zc,.v Zy]) true,.log ZE 97,.log Zc 99,.log Zc 99,.var (.agg [.v Zh,.v ZF,.v yI,.v Zf,.v (.arr 2 Ze),.v yI,.own 16 Zc,.own 17 Zc,.v Zy]) true,.log Zc 99,.log Zc 99,.var (.agg [.v Zh,.v ZF,.v yI,.agg [.v yI,.v (.arr 2 yI),.own 19 ZE,.v yI],.v (.arr 2 Ze),.v yI,.own 20 Zc,.own 21 Zc,.v Zy]) true,.log ZE 97,.log Zc 99,.log Zc 99,.var (.agg [.v Zh,.v ZF,.v yI,.v Zf,.v (.arr 2 Ze),.v yI,.own 23 Zc,.own 24 Zc,.v Zy]) true,.log Zc 99,.log Zc 99,.var (.v ZB) true,.var (.v Zc) true]
abbrev ZPL:yL Ty:=[.bool,Zv,(.arr 2 Ze),(.arr 2 yI),Ze,Zh,(.arr 2 ZF),Zf,yTx,yTx,Zh,ZF,yI,yI,(.arr 2 yI),yI,(.arr 2 Ze),yI,Zy,(.sl ZE),(.sl Zc),(.sl Zc),Zh,ZF,yI,Zf,(.arr 2 Ze),yI,Zy,(.sl Zc),(.sl Zc),Zh,ZF,yI,yI,(.arr 2 yI),yI,(.arr 2 Ze),yI,Zy,(.sl ZE),(.sl Zc),(.sl Zc),Zh,ZF,yI,Zf,(.arr 2 Ze),yI,Zy,(.sl Zc),(.sl Zc),ZB,Zc]
abbrev ZPM:yL Ty:=[(.sl ZB),.bool,yI,Zv,(.arr 2 Ze),(.arr 2 yI),Ze,Zh,(.arr 2 ZF),Zf,yTx,yTx,Zh,ZF,yI,yI,(.arr 2 yI),yI,(.arr 2 Ze),yI,Zy,(.sl ZE),(.sl Zc),(.sl Zc),Zh,ZF,yI,Zf,(.arr 2 Ze),yI,Zy,(.sl Zc),(.sl Zc),Zh,ZF,yI,yI,(.arr 2 yI),yI,(.arr 2 Ze),yI,Zy,(.sl ZE),(.sl Zc),(.sl Zc),Zh,ZF,yI,Zf,(.arr 2 Ze),yI,Zy,(.sl Zc),(.sl Zc),ZB,Zc]
abbrev ZPN:yL Ty:=[(.sl ZB),.bool,yI,yI,Zv,(.arr 2 Ze),(.arr 2 yI),Ze,Zh,(.arr 2 ZF),Zf,yTx,yTx,Zh,ZF,yI,yI,(.arr 2 yI),yI,(.arr 2 Ze),yI,Zy,(.sl ZE),(.sl Zc),(.sl Zc),Zh,ZF,yI,Zf,(.arr 2 Ze),yI,Zy,(.sl Zc),(.sl Zc),Zh,ZF,yI,yI,(.arr 2 yI),yI,(.arr 2 Ze),yI,Zy,(.sl ZE),(.sl Zc),(.sl Zc),Zh,ZF,yI,Zf,(.arr 2 Ze),yI,Zy,(.sl Zc),(.sl Zc),ZB,Zc]
abbrev ZPO:yL Ty:=[(.sl ZB),.bool,yI,yI,(.sl Zc),Zv,(.arr 2 Ze),(.arr 2 yI),Ze,Zh,(.arr 2 ZF),Zf,yTx,yTx,Zh,ZF,yI,yI,(.arr 2 yI),yI,(.arr 2 Ze),yI,Zy,(.sl ZE),(.sl Zc),(.sl Zc),Zh,ZF,yI,Zf,(.arr 2 Ze),yI,Zy,(.sl Zc),(.sl Zc),Zh,ZF,yI,yI,(.arr 2 yI),yI,(.arr 2 Ze),yI,Zy,(.sl ZE),(.sl Zc),(.sl Zc),Zh,ZF,yI,Zf,(.arr 2 Ze),yI,Zy,(.sl Zc),(.sl Zc),ZB,Zc]
def Zax:Lp:=⟨[(3,.v (.sl ZB)),(13,.v .bool),(22,.ref 9 []),(23,.ref 10 []),(29,.v yI),(30,.ref 25 []),(31,.v yI),(32,.ref 26 []),(33,.v (.sl Zc))],ZGa,ZPO,[⟨.ret,[(12,.v .bool)],ZGa,ZPL⟩,⟨.exit 3,[(3,.v (.sl ZB)),(13,.v .bool),(22,.ref 9 []),(23,.ref 10 []),(29,.v yI)],ZGa,ZPM⟩,⟨.normal,[(3,.v (.sl ZB)),(13,.v .bool),(22,.ref 9 []),(23,.ref 10 []),(29,.v yI),(31,.v yI),(32,.ref 26 [])],ZGa,ZPN⟩],Z2 yD⟩
def ZNT:HI:={ still:=[12,45,50,55,66,72,73,77,78,83,84,88,89,93,94,108,111,112,113,116,119,124,127,128,129,132,135,200,209,210,213,214,235,236,243,244,251,258,262,263,265,266,286,287,290,291]}
theorem Zd5:Zax.Is yb (Qt yb 4) (ZgD (Zdc yb 4 1) 7):=ZD8 (n:=0) (g:=4) (fi:={ hi:=ZNT,gh:=[(3,.split 31 [0,1])],un:=3}) (specs:={ l:=[Zb9,Qz,Zb7]}) (okS ⟨Zge,ZbW,Zf2,ytt⟩)
def Xq(F:Nat)(s0_0:Zz)(s0_1:Kit)(s0_2:Int)(s0_3:Int)(s0_4:(yL Int))(s0_5:Int)(s0_6:(yL yG))(s0_7:Int)(s0_8:Sig)(s1:(yL Cond))(s2:(yL Msg))(s3:(yL Msg)):yO ((Tx×qO)):=
 (Yt F s0_0 (s0_3,s0_4,s1,s0_5) s0_6 s0_7).bind λo1436=>
 some (o1436.1,s0_0,s0_1,s0_2,s0_3,s0_4,s0_5,s0_6,s0_7,s0_8,s1,s2,s3)
def Zot:Fs yb:=⟨110,[.ref 0 []],zF,[Zh,ZF,yI,yI,(.arr 2 yI),yI,(.arr 2 Ze),yI,Zy,(.sl ZE),(.sl Zc),(.sl Zc)],[⟨.ret,[(0,.v yTx)],zF,[yTx,Zh,ZF,yI,yI,(.arr 2 yI),yI,(.arr 2 Ze),yI,Zy,(.sl ZE),(.sl Zc),(.sl Zc)]⟩],λx=>Xq yD x.1 x.2.1 x.2.2.1 x.2.2.2.1 x.2.2.2.2.1 x.2.2.2.2.2.1 x.2.2.2.2.2.2.1 x.2.2.2.2.2.2.2.1 x.2.2.2.2.2.2.2.2.1 x.2.2.2.2.2.2.2.2.2.1 x.2.2.2.2.2.2.2.2.2.2.1 x.2.2.2.2.2.2.2.2.2.2.2⟩
theorem Zm6:Zot.Ok:=fnO { still:=[9,13,17,21]} [] [Ziq] ⟨Zgp,ytt⟩
def ZL(F:Nat)(x0:Zz)(x1:Kit)(x2:Int)(x3:Int)(x4:(yL Int))(x5:Int)(x6:(yL yG))(x7:Int)(x8:Sig)(x9:(yL Cond))(x10:(yL Msg))(x11:(yL Msg)):yO (Tx):=(Xq F x0 x1 x2 x3 x4 x5 x6 x7 x8 x9 x10 x11).map λo=>o.1
def ZbG:Rs yb:=⟨110,[.ref 0 []],zF,[Zh,ZF,yI,yI,(.arr 2 yI),yI,(.arr 2 Ze),yI,Zy,(.sl ZE),(.sl Zc),(.sl Zc)],.v yTx,[yTx],λx=>ZL yD x.1 x.2.1 x.2.2.1 x.2.2.2.1 x.2.2.2.2.1 x.2.2.2.2.2.1 x.2.2.2.2.2.2.1 x.2.2.2.2.2.2.2.1 x.2.2.2.2.2.2.2.2.1 x.2.2.2.2.2.2.2.2.2.1 x.2.2.2.2.2.2.2.2.2.2.1 x.2.2.2.2.2.2.2.2.2.2.2⟩
theorem Zc1:ZbG.Ok:=by
 rintro⟨x0,x1,x2,x3,x4,x5,x6,x7,x8,x9,x10,x11⟩ o h;obtain⟨y,h1,h2⟩:=Zd (show(Xq yD x0 x1 x2 x3 x4 x5 x6 x7 x8 x9 x10 x11).map (λo=>o.1)=some o from h)
 have hk:y=(y.1,x0,x1,x2,x3,x4,x5,x6,x7,x8,x9,x10,x11):=by
  unfold Xq at h1;obtain⟨z,g1,g2⟩:=Option.bind_eq_some_iff.1 h1;cases g2;rfl
 obtain⟨args,R,H,q1,q2,q3⟩:=Zm6 (x0,x1,x2,x3,x4,x5,x6,x7,x8,x9,x10,x11) y h1;refine⟨args,R,H,q1,q2,λq hq=> ?_⟩;subst h2;obtain⟨r,e1,e2⟩:=q3 _ _ ([q.1],H) ⟨rfl,rfl⟩ (by rw[hk];cases q1;cases q2;cases hq;rfl);cases e1;exact e2
def Z9(F:Nat)(a1:Msg)(s0_0:Zz)(s0_1:Kit)(s0_2:Int)(s0_3:Int)(s0_4:(yL Int))(s0_5:Int)(s0_6:(yL yG))(s0_7:Int)(s0_8:Sig)(s1:(yL Cond))(s2:(yL Msg))(s3:(yL Msg)):yO (((yL Msg)×Int×qO)):=
 (Qx F s3 12).bind λo1429=>
 if(a1.1==12)=true then
  (W6 F a1.2.2.2.2.2.2.2.2.2.2.2.2.2).bind λo1430=>
  if o1429.2=true then
   (Zht F o1429.1.2.2.2.2.2.2.2.2.2.2.2.2.2 a1.2.2.2.2.2.2.2.2.2.2.2.2.2).bind λo1431=>
   if(!o1431)=true then
    some ([],4,s0_0,s0_1,s0_2,s0_3,s0_4,s0_5,s0_6,s0_7,s0_8,s1,s2,s3)
   else
   if(o1429.1.2.2.2.2.2.2.1 !=a1.2.2.2.2.2.2.1)=true then
    some ([],4,s0_0,s0_1,s0_2,s0_3,s0_4,s0_5,s0_6,s0_7,s0_8,s1,s2,s3)
   else
   if(!o1430.2)=true then
    some ([],2,s0_0,s0_1,s0_2,s0_3,s0_4,s0_5,s0_6,s0_7,s0_8,s1,s2,s3)
   else
   (XD F s0_0 (s0_3,s0_4,s1,s0_5) (wi (1 - s0_2)) a1.2.2.2.2.2.2.1).bind λo1432=>
   if(!o1432)=true then
    some ([],13,s0_0,s0_1,s0_2,s0_3,s0_4,s0_5,s0_6,s0_7,s0_8,s1,s2,s3)
   else
   (Xk F a1 s3).bind λo1433=>
   if(inB (wi (1 - s0_2)) 2)=true then
    (s0_6[(wi (1 - s0_2)).toNat]?).bind λe1434=>
    if((wi (1 - s0_2))==s0_0.2.2.2.2)=true then
     (Yi F s0_0 s0_1 s0_2 s0_3 s0_4 s0_5 (s0_6.set ((wi (1 - s0_2)).toNat) o1430.1) a1.2.2.2.2.2.2.1 s0_8 s1 s2 o1433).bind λ(_,A,B,C,D,E,G,H,I,J,K,L,M)=>
     (ZL F A B C D E G H I J K L M).bind λo1437=>
     (Xd F B o1437).bind λo1438=>
     (YR F (13,0,0,(0,0,0,0,0),0,[],0,o1438,yzz,0,([],[],0),(0,0,0,0,0),(0,0,0,0,0,0),[]) A B C D E G H I J K L M).bind λ(n,o,p,q,r,t,u,v,w,x,y,z)=>
     (ZN F n o p q r t u v w x y z).bind λ(a,b,c,d,e,f,g,h,i,j,k,l,m)=>
     some (a,0,b,c,d,e,f,g,h,i,j,k,l,m)
    else
    (Yi F s0_0 s0_1 s0_2 s0_3 s0_4 s0_5 (s0_6.set ((wi (1 - s0_2)).toNat) o1430.1) s0_7 s0_8 s1 s2 o1433).bind λ(_,A,B,C,D,E,G,H,I,J,K,L,M)=>
    (ZL F A B C D E G H I J K L M).bind λo1442=>
    (Xd F B o1442).bind λo1443=>
    (YR F (13,0,0,(0,0,0,0,0),0,[],0,o1443,yzz,0,([],[],0),(0,0,0,0,0),(0,0,0,0,0,0),[]) A B C D E G H I J K L M).bind λ(n,o,p,q,r,t,u,v,w,x,y,z)=>
    (ZN F n o p q r t u v w x y z).bind λ(a,b,c,d,e,f,g,h,i,j,k,l,m)=>
    some (a,0,b,c,d,e,f,g,h,i,j,k,l,m)
   else
   none
  else
  if(!o1430.2)=true then
   some ([],2,s0_0,s0_1,s0_2,s0_3,s0_4,s0_5,s0_6,s0_7,s0_8,s1,s2,s3)
  else
  (XD F s0_0 (s0_3,s0_4,s1,s0_5) (wi (1 - s0_2)) a1.2.2.2.2.2.2.1).bind λo1446=>
  if(!o1446)=true then
   some ([],13,s0_0,s0_1,s0_2,s0_3,s0_4,s0_5,s0_6,s0_7,s0_8,s1,s2,s3)
  else
  (Xk F a1 s3).bind λo1447=>
  if(inB (wi (1 - s0_2)) 2)=true then
   (s0_6[(wi (1 - s0_2)).toNat]?).bind λe1448=>
   if((wi (1 - s0_2))==s0_0.2.2.2.2)=true then
    (Yi F s0_0 s0_1 s0_2 s0_3 s0_4 s0_5 (s0_6.set ((wi (1 - s0_2)).toNat) o1430.1) a1.2.2.2.2.2.2.1 s0_8 s1 s2 o1447).bind λ(_,A,B,C,D,E,G,H,I,J,K,L,M)=>
    (ZL F A B C D E G H I J K L M).bind λo1450=>
    (Xd F B o1450).bind λo1451=>
    (YR F (13,0,0,(0,0,0,0,0),0,[],0,o1451,yzz,0,([],[],0),(0,0,0,0,0),(0,0,0,0,0,0),[]) A B C D E G H I J K L M).bind λ(n,o,p,q,r,t,u,v,w,x,y,z)=>
    (ZN F n o p q r t u v w x y z).bind λ(a,b,c,d,e,f,g,h,i,j,k,l,m)=>
    some (a,0,b,c,d,e,f,g,h,i,j,k,l,m)
   else
   (Yi F s0_0 s0_1 s0_2 s0_3 s0_4 s0_5 (s0_6.set ((wi (1 - s0_2)).toNat) o1430.1) s0_7 s0_8 s1 s2 o1447).bind λ(_,A,B,C,D,E,G,H,I,J,K,L,M)=>
   (ZL F A B C D E G H I J K L M).bind λo1455=>
   (Xd F B o1455).bind λo1456=>
   (YR F (13,0,0,(0,0,0,0,0),0,[],0,o1456,yzz,0,([],[],0),(0,0,0,0,0),(0,0,0,0,0,0),[]) A B C D E G H I J K L M).bind λ(n,o,p,q,r,t,u,v,w,x,y,z)=>
   (ZN F n o p q r t u v w x y z).bind λ(a,b,c,d,e,f,g,h,i,j,k,l,m)=>
   some (a,0,b,c,d,e,f,g,h,i,j,k,l,m)
  else
  none
 else
 if(a1.1==13)=true then
  if(!o1429.2)=true then
   some ([],14,s0_0,s0_1,s0_2,s0_3,s0_4,s0_5,s0_6,s0_7,s0_8,s1,s2,s3)
  else
  if(inB (wi (1 - s0_2)) 2)=true then
   (s0_0.2.2.1[(wi (1 - s0_2)).toNat]?).bind λe1459=>
   (ZL F s0_0 s0_1 s0_2 s0_3 s0_4 s0_5 s0_6 s0_7 s0_8 s1 s2 s3).bind λo1460=>
   (ZsM F o1460).bind λo1461=>
   (Zhv F e1459.1 o1461 a1.2.2.2.2.2.2.2.1).bind λo1462=>
   if(!o1462)=true then
    some ([],7,s0_0,s0_1,s0_2,s0_3,s0_4,s0_5,s0_6,s0_7,s0_8,s1,s2,s3)
   else
   (Xk F a1 s3).bind λo1463=>
   some ([],0,s0_0,s0_1,s0_2,s0_3,s0_4,s0_5,s0_6,s0_7,a1.2.2.2.2.2.2.2.1,s1,s2,o1463)
  else
  none
 else
 some ([],1,s0_0,s0_1,s0_2,s0_3,s0_4,s0_5,s0_6,s0_7,s0_8,s1,s2,s3)
def Zi4:Fs yb:=⟨36,[.ref 0 [],.v Zc],zF,[Zc,Zh,ZF,yI,yI,(.arr 2 yI),yI,(.arr 2 Ze),yI,Zy,(.sl ZE),(.sl Zc),(.sl Zc)],[⟨.ret,[(0,.tup [.v (.sl Zc),.v yI])],zF,[(.sl Zc),yI,Zh,ZF,yI,yI,(.arr 2 yI),yI,(.arr 2 Ze),yI,Zy,(.sl ZE),(.sl Zc),(.sl Zc)]⟩],λx=>Z9 yD x.1 x.2.1 x.2.2.1 x.2.2.2.1 x.2.2.2.2.1 x.2.2.2.2.2.1 x.2.2.2.2.2.2.1 x.2.2.2.2.2.2.2.1 x.2.2.2.2.2.2.2.2.1 x.2.2.2.2.2.2.2.2.2.1 x.2.2.2.2.2.2.2.2.2.2.1 x.2.2.2.2.2.2.2.2.2.2.2.1 x.2.2.2.2.2.2.2.2.2.2.2.2⟩
def ZPP:HI:={ own:=[72,134],still:=[4,5,20,30,38,40,58,62,63,65,72,73,95,97,101,102,103,105,107,122,123,124,125,127,134,135]}
theorem Zpo:Zi4.Ok:=Ztx (fi:={ hi:=ZPP}) (specs:={ l:=[Zd1,Zbi,ZnI,ZpS,Zdn,Zb9,Zj5,Zd2,QP,ZAl,ZpU],mt:=[],ro:=[ZbG]}) (okR ⟨Zi2,Zau,ZlL,Zn2,Zcq,Zge,Ziz,Zi3,ZbF,ZwD,Zn3,ytt⟩ trivial ⟨Zc1,ytt⟩)
def ZyS:yL ESh:=[.var (.agg [.v Zh,.v ZF,.v yI,.v Zf,.v (.arr 2 Ze),.v yI,.own 1 Zc,.own 2 Zc,.v Zy]) true,.log Zc 99,.log Zc 99,.var (.v Zc) true]
abbrev ZPQ:yL Ty:=[.bool,Zh,ZF,yI,Zf,(.arr 2 Ze),yI,Zy,(.sl Zc),(.sl Zc),Zc]
abbrev ZPR:yL Ty:=[yI,yI,Zh,ZF,yI,Zf,(.arr 2 Ze),yI,Zy,(.sl Zc),(.sl Zc),Zc]
abbrev qU:=Zz×Kit×Int×yH×(yL yG)×Int×Sig×(yL Msg)×(yL Msg)×Msg
def Xa(F:Nat)(s:(Int×Int×qU)):yO ((Int×Int×qU)⊕((Bool×qU)⊕(qU))):=
 let y1471:Bool:=decide (s.2.1 < (s.2.2.2.2.2.2.2.2.2.2.1.length:Int))
 if y1471=true then
  (idx s.2.2.2.2.2.2.2.2.2.2.1 s.2.1).bind λe1472=>
  if(e1472.1==s.1)=true then
   (idx s.2.2.2.2.2.2.2.2.2.2.1 s.2.1).bind λe1473=>
   some (.inr (.inl (true,s.2.2.1,s.2.2.2.1,s.2.2.2.2.1,s.2.2.2.2.2.1,s.2.2.2.2.2.2.1,s.2.2.2.2.2.2.2.1,s.2.2.2.2.2.2.2.2.1,s.2.2.2.2.2.2.2.2.2.1,s.2.2.2.2.2.2.2.2.2.2.1,e1473)))
  else
  some (.inl (s.1,wi (s.2.1+1),s.2.2.1,s.2.2.2.1,s.2.2.2.2.1,s.2.2.2.2.2.1,s.2.2.2.2.2.2.1,s.2.2.2.2.2.2.2.1,s.2.2.2.2.2.2.2.2.1,s.2.2.2.2.2.2.2.2.2.1,s.2.2.2.2.2.2.2.2.2.2.1,s.2.2.2.2.2.2.2.2.2.2.2))
 else
 some (.inr (.inr (s.2.2.1,s.2.2.2.1,s.2.2.2.2.1,s.2.2.2.2.2.1,s.2.2.2.2.2.2.1,s.2.2.2.2.2.2.2.1,s.2.2.2.2.2.2.2.2.1,s.2.2.2.2.2.2.2.2.2.1,s.2.2.2.2.2.2.2.2.2.2.1,s.2.2.2.2.2.2.2.2.2.2.2)))
def ZbX:Lp:=⟨[(0,.ref 0 []),(1,.v yI),(4,.ref 3 []),(6,.v yI)],ZyS,ZPR,[⟨.ret,[(4,.ref 3 []),(5,.v .bool)],ZyS,ZPQ⟩,⟨.exit 0,[(4,.ref 3 [])],ZyS,[Zh,ZF,yI,Zf,(.arr 2 Ze),yI,Zy,(.sl Zc),(.sl Zc),Zc]⟩],Zb (Xa yD) yD⟩
theorem Zgy:ZbX.okA yb 112 0:=Zx { still:=[5]} [] [] trivial
def YE(F:Nat)(a1:Int)(s0_0:Zz)(s0_1:Kit)(s0_2:Int)(s0_3:yH)(s0_4:(yL yG))(s0_5:Int)(s0_6:Sig)(s1:(yL Msg))(s2:(yL Msg)):yO ((Msg×Bool×qL)):=
 (Zb (Xa F) F (a1,0,s0_0,s0_1,s0_2,s0_3,s0_4,s0_5,s0_6,s1,s2,(0,0,0,(0,0,0,0,0),0,[],0,(0,0),yzz,0,([],[],0),(0,0,0,0,0),(0,0,0,0,0,0),[]))).bind λo1474=>
 match o1474 with
 |.inl o1475=>
  some (o1475.2.2.2.2.2.2.2.2.2.2,o1475.1,o1475.2.1,o1475.2.2.1,o1475.2.2.2.1,o1475.2.2.2.2.1,o1475.2.2.2.2.2.1,o1475.2.2.2.2.2.2.1,o1475.2.2.2.2.2.2.2.1,o1475.2.2.2.2.2.2.2.2.1,o1475.2.2.2.2.2.2.2.2.2.1)
 |.inr o1476=>
  some ((0,0,0,(0,0,0,0,0),0,[],0,(0,0),yzz,0,([],[],0),(0,0,0,0,0),(0,0,0,0,0,0),[]),false,o1476.1,o1476.2.1,o1476.2.2.1,o1476.2.2.2.1,o1476.2.2.2.2.1,o1476.2.2.2.2.2.1,o1476.2.2.2.2.2.2.1,o1476.2.2.2.2.2.2.2.1,o1476.2.2.2.2.2.2.2.2.1)
def WN:Fs yb:=⟨112,[.ref 0 [],.v yI],zD,[yI,Zh,ZF,yI,Zf,(.arr 2 Ze),yI,Zy,(.sl Zc),(.sl Zc)],[⟨.ret,[(0,.tup [.v Zc,.v .bool])],zD,[Zc,.bool,Zh,ZF,yI,Zf,(.arr 2 Ze),yI,Zy,(.sl Zc),(.sl Zc)]⟩],λx=>YE yD x.1 x.2.1 x.2.2.1 x.2.2.2.1 x.2.2.2.2.1 x.2.2.2.2.2.1 x.2.2.2.2.2.2.1 x.2.2.2.2.2.2.2.1 x.2.2.2.2.2.2.2.2.1 x.2.2.2.2.2.2.2.2.2⟩
theorem VZ:WN.Ok:=fnO { still:=[5]} [(0,ZbX)] [] trivial ⟨Zgy,ytt⟩
abbrev ZOY:Type:=(Int×Bool×Zz×Kit×Int×yH×(yL yG)×Int×Sig×(yL Msg)×(yL Msg)×Msg×Msg)
abbrev ZPS:Type:=((yL Msg)×Int×Zz×Kit×Int×yH×(yL yG)×Int×Sig×(yL Msg)×(yL Msg)×Msg×Msg)
def XK(F:Nat):ZOY->yO (ZPS⊕ZOY)
 |(a,b,c,d,e,f,g,h,i,j,k,l,m)=>
 if b=true then
  let y1478:Bool:= !((WX m.2.2.2.2.2.2.2.2.2.2.2.2.2).data.toList==(WX l.2.2.2.2.2.2.2.2.2.2.2.2.2).data.toList)
  if y1478=true then
   some (.inl ([],4,c,d,e,f,g,h,i,j,k,l,m))
  else
  if(m.2.2.2.2.2.2.1 !=l.2.2.2.2.2.2.1)=true then
   some (.inl ([],4,c,d,e,f,g,h,i,j,k,l,m))
  else
  some (.inr (a,b,c,d,e,f,g,h,i,j,k,l,m))
 else
 some (.inr (a,b,c,d,e,f,g,h,i,j,k,l,m))
def ZKe:yL ESh:=[.var (.agg [.v Zh,.v ZF,.v yI,.v Zf,.v (.arr 2 Ze),.v yI,.own 1 Zc,.own 2 Zc,.v Zy]) true,.log Zc 99,.log Zc 99,.var (.v Zc) true,.var (.v Zc) true]
abbrev ZPT:yL Ty:=[(.sl Zc),yI,Zh,ZF,yI,Zf,(.arr 2 Ze),yI,Zy,(.sl Zc),(.sl Zc),Zc,Zc]
abbrev ZOZ:yL Ty:=[yI,.bool,Zh,ZF,yI,Zf,(.arr 2 Ze),yI,Zy,(.sl Zc),(.sl Zc),Zc,Zc]
def Za1:Lp:=⟨[(0,.ref 0 []),(3,.ref 3 []),(6,.v yI),(7,.ref 4 []),(8,.v .bool)],ZKe,ZOZ,[⟨.ret,[(4,.v (.sl Zc)),(5,.v yI)],ZKe,ZPT⟩,⟨.normal,[(0,.ref 0 []),(3,.ref 3 []),(6,.v yI),(8,.v .bool)],ZKe,ZOZ⟩],XK yD⟩
def ZCY:HI:={ own:=[99,102,105,112,162,171,232,235,238,245],still:=[4,5,29,52,69,73,75,133,135,142,146,150,154,166,167,174,180,190,194,198,202,213,214,215,217,222]}
theorem Ze2:Za1.Is yb (Qt yb 37) (ZgD (ZgD (VQ yb 37) 2) 2):=ZG3 0 37 ZCY [] [] trivial
end
end Go.Proofs.YtdhclndplbopgaaGreat
end
section
set_option maxRecDepth 4000
namespace Go.Proofs.YtdhclndplbopgaaGreat
open Go Go.Ev
theorem ZEJ(l:yG):∃b,WZ yD l=some b/\(b=true->Ze0 l):=by
 unfold WZ
 obtain⟨x,h1,h2⟩:=Ym (step:=WU yD) 7 (λk s=>s=((k:Int),l)/\∀j e,j < k->l[j]? =some e->e.1.length<=20) (λx=>(∃y,x=.inl (false,y))\/x=.inr l/\∀j e,j < 7->l[j]? =some e->e.1.length<=20) (i:=((0:Int),l)) ⟨rfl,λj e hj=>by omega⟩ (by omega) (by
  rintro k _ hk ⟨rfl,hj⟩;unfold WU;dsimp only;by_cases hl:k < l.length
  ·obtain⟨e,he,_⟩:=Zk hl;rw[yW (ZV hl),yW (yY (by omega)),Zq he,ya];by_cases h20:(e.1.length:Int) > 20
   ·rw[yW (yY h20)];right;exact⟨_,rfl,.inl ⟨_,rfl⟩⟩
   ·rw[yX (by rw[yN];exact h20),Zn (by omega)];left;refine⟨_,rfl,rfl,λj f h3 h4=> ?_⟩;by_cases h5:j < k
    ·exact hj j f h5 h4
    ·have:j=k:=by omega
     subst this;rw[he] at h4;cases h4;omega
  ·rw[yX (ynd (by omega))];right;refine⟨_,rfl,.inr ⟨rfl,λj e _ h4=> ?_⟩⟩;have:=(yq.1 h4).1;exact hj j e (by omega) h4) (by
  rintro _ ⟨rfl,hj⟩;unfold WU;dsimp only;by_cases hl:7 < l.length
  ·rw[yW (yY (by omega)),yX (by simp)];exact⟨_,rfl,.inr ⟨rfl,hj⟩⟩
  ·rw[yX (ynd (by omega))];exact⟨_,rfl,.inr ⟨rfl,hj⟩⟩)
 rw[h1,ya];rcases h2 with⟨y,rfl⟩|⟨rfl,h2⟩
 ·exact⟨_,rfl,λh=>by cases h⟩
 ·refine⟨_,rfl,λh=> ?_⟩;have h6:=yF h;refine⟨by omega,λb hb=> ?_⟩;obtain⟨j,hj1,hj2⟩:=List.getElem_of_mem hb;have:=h2 j b (by omega) (by rw[List.getElem?_eq_getElem hj1,hj2]);omega
theorem ZHu{l r:yL Out}(h:l.Perm r):amts l=amts r:=by
 unfold amts
 induction h with
 |nil=>rfl
 |cons x _ ih=>rw[yaj,yaj,List.sum_cons,List.sum_cons,ih]
 |swap x y l=>rw[yaj,yaj,yaj,yaj,List.sum_cons,List.sum_cons,List.sum_cons,List.sum_cons];omega
 |trans _ _ ih1 ih2=>rw[ih1,ih2]
def shn(n:Int):Int:=if n >= 100 then n else 0
theorem ZKf(op h0 h1 fee:Int)(l0 l1:yG):amts (outs0 op h0 h1 fee l0 l1)=shn (ZdZ op h0 h1 fee 0)+shn (ZdZ op h0 h1 fee 1):=by
 unfold outs0 Zos shn amts;split <;> split <;> simp
theorem ZLM{op h0 h1 fee:Int}{l0 l1:yG}{o:Out}(h:o∈outs0 op h0 h1 fee l0 l1):o.1 >= 100/\∃i:Int,(i=0\/i=1)/\o=(ZdZ op h0 h1 fee i,ZqE l0 l1 i):=by
 unfold outs0 Zos at h;rw[ycg] at h;rcases h with h|h
 all_goals
  split at h
  ·rw[yam] at h;subst h;exact⟨by assumption,_,by simp,rfl⟩
  ·simp at h
theorem ZAP{op h0 h1 fee:Int}(p0:0<=h0)(p1:0<=h1)(hA:h0+h1<=4300000000)(f0:52<=fee)(f1:fee<=hav op h0 h1)(i:Int):0<=ZdZ op h0 h1 fee i/\ZdZ op h0 h1 fee i<=4300000000:=by
 unfold ZdZ hav at*;by_cases hi:i=op
 ·subst hi;rw[yW rfl];split at f1 <;> split <;> omega
 ·rw[yX hi];split <;> omega
theorem Mk.outs{op h0 h1 fee:Int}{l0 l1:yG}{r:yL Out}(h:Mk op h0 h1 fee l0 l1 r)(p0:0<=h0)(p1:0<=h1)(hA:h0+h1<=4300000000)(f0:52<=fee)(f1:fee<=hav op h0 h1)(g0:LockOk l0/\LockPt l0)(g1:LockOk l1/\LockPt l1):
 r.length<=2/\(∀o,o∈r->o.1 >= 100/\o.1<=4300000000/\OutOk o)/\amts r=shn (ZdZ op h0 h1 fee 0)+shn (ZdZ op h0 h1 fee 1)/\TxWf (([((z32,0),(0,[],0))]:yL In),r,2097154)/\TxOk (([((z32,0),(0,[],0))]:yL In),r,2097154)/\amts r<=1125899906842624:=by
 have hl:=h.pm.length_eq;have hl2:=Zs5 op h0 h1 fee l0 l1;have q0:=ZAP p0 p1 hA f0 f1 0;have q1:=ZAP p0 p1 hA f0 f1 1
 have ho:∀o,o∈r->o.1 >= 100/\o.1<=4300000000/\OutOk o:=by
  intro o ho;obtain⟨h1',i,hi,rfl⟩:=ZLM (h.pm.mem_iff.1 ho);have hp:=ZAP p0 p1 hA f0 f1 i;refine⟨h1',hp.2,by dsimp only;omega,by dsimp only;omega, ?_⟩;rcases hi with rfl|rfl
  ·exact g0
  ·exact g1
 have hs:amts r=shn (ZdZ op h0 h1 fee 0)+shn (ZdZ op h0 h1 fee 1):=by rw[ZHu h.pm,ZKf]
 have hx:∀x,x∈([((z32,0),(0,[],0))]:yL In)->x=((z32,0),(0,[],0)):=λx hx=>yam.1 hx;refine⟨by omega,ho,hs,⟨λx h=>by rw[hx x h];rfl,by show(2097154:Int)<=_;decide⟩,⟨by simp,by simp,by dsimp only;omega,by show(0:Int)<=2097154;decide,λx h=>by rw[hx x h];refine⟨by decide,by decide,by decide,by decide,by decide⟩,λo h=>(ho o h).2.2⟩, ?_⟩;rw[hs];unfold shn;split <;> split <;> omega
def Zm7:Msg:=((0:Int),(0:Int),(0:Int),((0:Int),(0:Int),(0:Int),(0:yU),(0:Int)),(0:yU),([]:yL yB),(0:Int),((0:yU),(0:yU)),yzz,(0:yU),(([]:yL In),([]:yL Out),(0:Int)),((0:yU),(0:yU),(0:yU),(0:yU),(0:yU)),((0:Int),(0:Int),(0:Int),(0:Int),(0:Int),(0:Int)),([]:yL yB))
def fnd(l:yL Msg)(k:Int):yO Msg:=l.find? λe=>e.1==k
theorem ZKg{l:yL Msg}(hl:l.length<=1000000)(k:Int):(fnd l k=none/\ZnP yD l k=some (-1,k))\/∃(j:Nat)(e:Msg),fnd l k=some e/\l[j]? =some e/\ZnP yD l k=some ((j:Int),k):=by
 unfold ZnP
 obtain⟨x,g1,g2⟩:=Ym (step:=ZfE yD) l.length (λj s=>s=(l,(l.length:Int),(j:Int),k)/\fnd l k=fnd (l.drop j) k) (λx=>(x=.inr k/\fnd l k=none)\/∃(j:Nat)(e:Msg),x=.inl ((j:Int),k)/\fnd l k=some e/\l[j]? =some e) (i:=(l,(l.length:Int),(0:Int),k)) ⟨rfl,rfl⟩ (by omega) (by
  rintro j _ hk ⟨rfl,hj⟩;obtain⟨e,he,hm⟩:=Zk hk;unfold ZfE Zgq;dsimp only;rw[yW (ZV hk),Zq he,ya,ya,Zn (by omega)];rw[ZAE he] at hj;unfold fnd at hj ⊢;rw[List.find?_cons] at hj;by_cases h:e.1=k
  ·have hb:(e.1==k)=true:=by rw[h];exact beq_self_eq_true _
   rw[hb] at hj;right;dsimp only;rw[yW hb];exact⟨_,rfl,.inr ⟨j,e,rfl,hj,he⟩⟩
  ·have hb:(e.1==k)=false:=by rw[beq_eq_false_iff_ne];exact h
   rw[hb] at hj;left;dsimp only;rw[yX (by rw[hb];decide)];exact⟨_,rfl,rfl,hj⟩) (by
  rintro _ ⟨rfl,hj⟩;unfold ZfE;dsimp only;rw[yX (by rw[ZH];decide)];rw[List.drop_length] at hj;exact⟨_,rfl,.inl ⟨rfl,hj⟩⟩)
 rw[g1,ya];rcases g2 with⟨rfl,g2⟩|⟨j,e,rfl,g2,g3⟩
 ·exact .inl ⟨g2,rfl⟩
 ·exact .inr ⟨j,e,g2,g3,rfl⟩
theorem Zd3{l:yL Msg}(hl:l.length<=1000000)(k:Int):Qx yD l k=some ((fnd l k).getD Zm7,(fnd l k).isSome):=by
 unfold Qx;rcases ZKg hl k with⟨h1,h2⟩|⟨j,e,h1,h2,h3⟩
 ·rw[h2,h1,ya];rfl
 ·rw[h3,h1,ya,yX (ynd (by omega)),Zq h2];rfl
theorem ZyT{b:yL yB}(h:b.length<=1000000000):Vg yD b=some b:=by
 unfold Vg;rw[yW (ZD (by omega) (by omega))]
def ZKh(m:Msg):Msg:=(m.1,0,0,(0,0,0,0,0),0,[],m.2.2.2.2.2.2.1,m.2.2.2.2.2.2.2.1,yzz,0,([],[],0),(0,0,0,0,0),(0,0,0,0,0,0),m.2.2.2.2.2.2.2.2.2.2.2.2.2)
def byt(m:Msg):yL yB:=m.2.2.2.2.2.2.2.2.2.2.2.2.2
def YH(l:yL Msg)(m:Msg):yL Msg:=if(fnd l m.1).isSome=true then l else l++[ZKh m]
theorem ZKi{l:yL Msg}{m:Msg}(hl:l.length<=1000000)(hm:(byt m).length<=1000000000):ZbP yD m l=some (YH l m):=by
 unfold ZbP YH;rw[Zd3 hl,ya];dsimp only;split
 ·rfl
 ·have hb:Vg yD m.2.2.2.2.2.2.2.2.2.2.2.2.2=some m.2.2.2.2.2.2.2.2.2.2.2.2.2:=ZyT hm;rw[hb,ya,yW (ZD (by omega) (by omega))];rfl
theorem Zw3{l:yL Msg}{m:Msg}(hl:l.length<=1000000)(hm:(byt m).length<=1000000000):Xk yD m l=some (YH l m):=by
 unfold Xk YH;rw[Zd3 hl,ya];dsimp only;split
 ·rfl
 ·have hb:Vg yD m.2.2.2.2.2.2.2.2.2.2.2.2.2=some m.2.2.2.2.2.2.2.2.2.2.2.2.2:=ZyT hm;rw[hb,ya,yW (ZD (by omega) (by omega))];rfl
def Zks(l:yL Msg):yL Msg:=l.foldl YH []
theorem ZoY(l:yL Msg)(m:Msg):(YH l m).length<=l.length+1:=by
 unfold YH;split <;> simp
theorem ZCZ:∀(l acc:yL Msg),(l.foldl YH acc).length<=acc.length+l.length
 |[],acc=>by simp
 |m::r,acc=>by
  have h1:=ZCZ r (YH acc m);have h2:=ZoY acc m;rw[List.foldl_cons,List.length_cons];omega
theorem Zr4{l:yL Msg}(hl:l.length<=100000)(hm:∀m,m∈l->(byt m).length<=1000000000)(c:Zz)(k:Kit)(me no:Int)(hv:yL Int)(r:Int)(lk:yL yG)(fee:Int)(sg:Sig)(cs:yL Cond)(hd:yL Msg):
 ZN yD c k me no hv r lk fee sg cs l hd=some (Zks l,c,k,me,no,hv,r,lk,fee,sg,cs,l,hd):=by
 unfold ZN
 rw[show((l.length:Int),(0:Int),c,k,me,no,hv,r,lk,fee,sg,cs,l,hd,([]:yL Msg))=(λj:Nat=>((l.length:Int),(j:Int),c,k,me,no,hv,r,lk,fee,sg,cs,l,hd,Zks (l.take j))) 0 from rfl,
  Zt (x:=(c,k,me,no,hv,r,lk,fee,sg,cs,l,hd,Zks l)) l.length (λj:Nat=>((l.length:Int),(j:Int),c,k,me,no,hv,r,lk,fee,sg,cs,l,hd,Zks (l.take j))) ?_ ?_ (by omega),ya]
 ·intro j hj;obtain⟨e,he,hme⟩:=Zk hj;have h1:=ZCZ (l.take j) [];rw[List.length_take] at h1;unfold VN;dsimp only;rw[yW (ZV hj),Zq he,ya,ZKi (by unfold Zks;simp at h1 ⊢;omega) (hm e hme),ya,Zn (by omega),ZdM he];unfold Zks;rw[List.foldl_append];rfl
 ·unfold VN;dsimp only;rw[yX (by rw[ZH];decide),List.take_length]
theorem ZHv(k:Kit):Zhx yD k=some (Ye k):=by
 unfold Zhx;rw[Zhz,ya,Zhz,ya,Zhz,ya,Zhz,ya,Zhz,ya];rfl
def Z3(k0 k1:Kit)(me:Int):Kit:=if me=1 then k1 else k0
def Zm8(op h0 h1 me fee:Int):Bool:=if me=op then decide (52<=fee/\fee<=hav op h0 h1) else fee==0
theorem ZGb{A:Int}{k0 k1:Kit}{op:Int}(ho:op=0\/op=1){s:yH}{h0 h1:Int}(hv:s.2.1=[h0,h1])(me fee:Int):XD yD (Zo A k0 k1 op) s me fee=some (Zm8 op h0 h1 me fee):=by
 unfold Zm8;by_cases h:me=op
 ·rw[yW h,h,ZuP ho hv]
 ·rw[yX h,ZLx h]
theorem ZNU{A:Int}{k0 k1:Kit}{op:Int}(h:ChOk A k0 k1 op){s:yH}{h0 h1:Int}(hs:StIn A s h0 h1)(hc:hav op h0 h1 >= cost s.2.2.2 s.2.2.1.length){me:Int}(hme:me=0\/me=1){l:yG}(hl:Ze0 l)(fee:Int):
 ∃r,XV yD l=some r/\(r=true↔LockOk l/\LockPt l)/\YV yD (Zo A k0 k1 op) (Z3 k0 k1 me) me s l fee=
  if r=false then some (.inl 1) else if s.2.2.1≠[] then some (.inl 14) else if Zm8 op h0 h1 me fee=false then some (.inl 13)
  else some (.inr (0,Zo A k0 k1 op,Z3 k0 k1 me,me,s.1,s.2.1,s.2.2.2,([([]:yG),([]:yG)]:yL yG).set me.toNat l,fee,((0:yU),(0:yU)),([]:yL Cond),([]:yL Msg),([]:yL Msg))):=by
 obtain⟨r,r1,r2⟩:=ZdY hl;refine⟨r,r1,r2, ?_⟩;have hB:(Zo A k0 k1 op).2.2.1[me.toNat]? =some (Ye (Z3 k0 k1 me)):=by rcases hme with rfl|rfl <;> rfl
 unfold YV;rw[yX (ynd (by omega)),yX (ynd (by omega)),r1,ya]
 cases r with
 |false=>rw[yW (by decide),yW rfl]
 |true=>
  rw[yX (by decide),yX (by decide),ZHv,ya,yW (Ys hme),hB,ya,yX (by simp),ZqF h hs hc,ya];by_cases hn:s.2.2.1=[]
  ·rw[yX (by rw[hn];decide),yX (by simp[hn]),ZGb h.o hs.hv,ya]
   cases Zm8 op h0 h1 me fee with
   |false=>rw[yW (by decide),yW rfl]
   |true=>
    rw[yX (by decide),yX (by decide),ZAG (r2.1 rfl).1 (r2.1 rfl).2,ya,yW (Ys hme)];have hz:([([]:yG),([]:yG)]:yL yG)[me.toNat]? =some []:=by rcases hme with rfl|rfl <;> rfl
    rw[hz,ya]
  ·rw[yW (by simp[hn]),yW hn]
def V0(op me fee:Int):Int:=if me=op then fee else 0
def VL(rate:Int)(b:yL yB):Msg:=(12,0,0,(0,0,0,0,0),0,[],rate,(0,0),yzz,0,([],[],0),(0,0,0,0,0),(0,0,0,0,0,0),b)
theorem ZEK{l:yL Msg}{m:Msg}(hl:l.length<=1000000)(hm:(byt m).length<=1000000000)(c:Zz)(k:Kit)(me no:Int)(hv:yL Int)(r:Int)(lk:yL yG)(fee:Int)(sg:Sig)(cs:yL Cond)(hd:yL Msg):
 YR yD m c k me no hv r lk fee sg cs l hd=some (c,k,me,no,hv,r,lk,fee,sg,cs,YH l m,hd):=by
 unfold YR;rw[Zw3 hl hm,ya]
theorem ZC0{A:Int}{k0 k1:Kit}{op:Int}{me:Int}(hme:me=0\/me=1){lk:yL yG}{l:yG}(hlk:lk[me.toNat]? =some l)(h:LockOk l)(hp:LockPt l){zB:yL Msg}(hl:zB.length<=10000)(hm:∀m,m∈zB->(byt m).length<=1000000000)(k:Kit)(no:Int)(hv:yL Int)(r:Int)(fee:Int)(sg:Sig)(cs:yL Cond)(hd:yL Msg):
 Yi yD (Zo A k0 k1 op) k me no hv r lk fee sg cs zB hd=some (Zks (YH zB (VL (V0 op me fee) (XQ l))),Zo A k0 k1 op,k,me,no,hv,r,lk,fee,sg,cs,YH zB (VL (V0 op me fee) (XQ l)),hd):=by
 have hO:(Zo A k0 k1 op).2.2.2.2=op:=rfl;have zY:=Q1 h
 have ha:∀m:Msg,(byt m).length<=1000000000->(YH zB m).length<=100000/\∀x,x∈YH zB m->(byt x).length<=1000000000:=by
  intro m hm2;refine⟨by have:=ZoY zB m;omega,λx hx=> ?_⟩;unfold YH at hx;split at hx
  ·exact hm x hx
  ·rcases ycg.1 hx with hx|hx
   ·exact hm x hx
   ·rw[yam.1 hx];exact hm2
 have hb:∀rate,(byt (VL rate (XQ l))).length<=1000000000:=λrate=>by
  show(XQ l).length<=_;omega
 unfold Yi V0;unfold VL at hb ⊢;rw[hO];generalize Zo A k0 k1 op=c;by_cases he:me=op
 ·rw[yW (by rw[he];exact beq_self_eq_true _),yW (Ys hme),hlk,ya,ZeZ h hp,ya];rw[ZEK (by omega) (hb fee),ya];dsimp only;rw[Zr4 (ha _ (hb fee)).1 (ha _ (hb fee)).2,ya,yW he]
 ·rw[yX (by rw[yT];exact he),yW (Ys hme),hlk,ya,ZeZ h hp,ya];rw[ZEK (by omega) (hb 0),ya];dsimp only;rw[Zr4 (ha _ (hb 0)).1 (ha _ (hb 0)).2,ya,yX he]
def rat(m:Msg):Int:=m.2.2.2.2.2.2.1
def ZC1(m:Msg):Sig:=m.2.2.2.2.2.2.2.1
def byM(g:Sig):Msg:=(13,0,0,(0,0,0,0,0),0,[],0,g,yzz,0,([],[],0),(0,0,0,0,0),(0,0,0,0,0,0),[])
def lkp(me:Int)(own l:yG):yL yG:=if me=0 then[own,l] else[l,own]
theorem ZAQ{me:Int}(h:me=0\/me=1)(own l:yG):(lkp me own l)[me.toNat]? =some own:=by rcases h with rfl|rfl <;> rfl
theorem ZAR{me:Int}(h:me=0\/me=1)(own l l':yG):(lkp me own l).set (wi (1 - me)).toNat l'=lkp me own l'/\(lkp me own l)[(wi (1 - me)).toNat]? =some l/\inB (wi (1 - me)) 2=true/\wi (1 - me)=1 - me:=by
 rcases h with rfl|rfl <;> exact⟨rfl,rfl,rfl,rfl⟩
theorem ZHw(a b:yL yB):((WX a).data.toList==(WX b).data.toList)=decide (a=b):=by
 have:∀l:yL yB,(WX l).data.toList=l:=λl=>by simp[WX]
 rw[this,this];by_cases h:a=b
 ·subst h;simp
 ·rw[yZ h,beq_eq_false_iff_ne];exact h
theorem ZoZ(a b:yL yB):Zht yD a b=some (decide (a=b)):=by
 unfold Zht;rw[ZHw]
theorem ZC2{l:yL Msg}(hl:l.length<=1000)(hm:∀m,m∈l->(byt m).length<=1000000000):∀m:Msg,(byt m).length<=1000000000->(YH l m).length<=1001/\∀x,x∈YH l m->(byt x).length<=1000000000:=by
 intro m hm2;refine⟨by have:=ZoY l m;omega,λx hx=> ?_⟩;unfold YH at hx;split at hx
 ·exact hm x hx
 ·rcases ycg.1 hx with hx|hx
  ·exact hm x hx
  ·rw[yam.1 hx];exact hm2
def said2(op me fee:Int)(own:yG)(g:Sig)(zB:yL Msg):yL Msg:=YH (YH zB (VL (V0 op me fee) (XQ own))) (byM g)
theorem ZHx{A:Int}{k0 k1:Kit}{op:Int}{s:yH}{me:Int}(hme:me=0\/me=1)(hn:s.2.2.1=[]){k:Kit}{own l:yG}(g0:LockOk own)(g1:LockPt own){zB hd:yL Msg}(h1:zB.length<=100)(h2:∀m,m∈zB->(byt m).length<=1000000000){fee:Int}{t:Tx}{g:Sig}(sg:Sig)
 (hmk:Yt yD (Zo A k0 k1 op) s (lkp me own l) fee=some (t,0)) (hsg:Xd yD k t=some g):
 ((Yi yD (Zo A k0 k1 op) k me s.1 s.2.1 s.2.2.2 (lkp me own l) fee sg [] zB hd).bind λx=>
   (ZL yD x.2.1 x.2.2.1 x.2.2.2.1 x.2.2.2.2.1 x.2.2.2.2.2.1 x.2.2.2.2.2.2.1 x.2.2.2.2.2.2.2.1 x.2.2.2.2.2.2.2.2.1 x.2.2.2.2.2.2.2.2.2.1 x.2.2.2.2.2.2.2.2.2.2.1 x.2.2.2.2.2.2.2.2.2.2.2.1 x.2.2.2.2.2.2.2.2.2.2.2.2).bind λt=>
   (Xd yD x.2.2.1 t).bind λg=>
   (YR yD (byM g) x.2.1 x.2.2.1 x.2.2.2.1 x.2.2.2.2.1 x.2.2.2.2.2.1 x.2.2.2.2.2.2.1 x.2.2.2.2.2.2.2.1 x.2.2.2.2.2.2.2.2.1 x.2.2.2.2.2.2.2.2.2.1 x.2.2.2.2.2.2.2.2.2.2.1 x.2.2.2.2.2.2.2.2.2.2.2.1 x.2.2.2.2.2.2.2.2.2.2.2.2).bind λy=>
   (ZN yD y.1 y.2.1 y.2.2.1 y.2.2.2.1 y.2.2.2.2.1 y.2.2.2.2.2.1 y.2.2.2.2.2.2.1 y.2.2.2.2.2.2.2.1 y.2.2.2.2.2.2.2.2.1 y.2.2.2.2.2.2.2.2.2.1 y.2.2.2.2.2.2.2.2.2.2.1 y.2.2.2.2.2.2.2.2.2.2.2).bind λz=>
   some (z.1,(0:Int),z.2))=
 some (Zks (said2 op me fee own g zB),(0:Int),Zo A k0 k1 op,k,me,s.1,s.2.1,s.2.2.2,lkp me own l,fee,sg,([]:yL Cond),said2 op me fee own g zB,hd):=by
 have hb:(byt (VL (V0 op me fee) (XQ own))).length<=1000000000:=by
  have:=Q1 g0;show(XQ own).length<=_;omega
 have hb2:(byt (byM g)).length<=1000000000:=by show(0:Nat)<=_;omega
 obtain⟨a1,a2⟩:=ZC2 (by omega) h2 _ hb
 obtain⟨b1,b2⟩:(said2 op me fee own g zB).length<=100000/\∀x,x∈said2 op me fee own g zB->(byt x).length<=1000000000:=by
  unfold said2;have:=ZoY zB (VL (V0 op me fee) (XQ own));obtain⟨q1,q2⟩:=ZC2 (by omega) a2 _ hb2;exact⟨by omega,q2⟩
 rw[ZC0 hme (ZAQ hme own l) g0 g1 (by omega) h2,ya]
 have hc:ZL yD (Zo A k0 k1 op) k me s.1 s.2.1 s.2.2.2 (lkp me own l) fee sg [] (YH zB (VL (V0 op me fee) (XQ own))) hd=some t:=by
  unfold ZL Xq;rw[show(s.1,s.2.1,([]:yL Cond),s.2.2.2)=s by rw[<-hn],hmk,ya];rfl
 dsimp only;rw[hc,ya,hsg,ya,ZEK (by omega) hb2,ya];dsimp only;rw[show YH (YH zB (VL (V0 op me fee) (XQ own))) (byM g)=said2 op me fee own g zB from rfl,Zr4 b1 b2,ya]
theorem ZuS{A:Int}{k0 k1:Kit}{op:Int}(ho:op=0\/op=1){s:yH}{h0 h1:Int}(hv:s.2.1=[h0,h1])(hn:s.2.2.1=[])(me fee:Int):XD yD (Zo A k0 k1 op) (s.1,s.2.1,([]:yL Cond),s.2.2.2) me fee=some (Zm8 op h0 h1 me fee):=by
 rw[show(s.1,s.2.1,([]:yL Cond),s.2.2.2)=s by rw[<-hn],ZGb ho hv]
theorem ZNV{A:Int}{k0 k1:Kit}{op:Int}(ho:op=0\/op=1){s:yH}{h0 h1:Int}(hv:s.2.1=[h0,h1])(hn:s.2.2.1=[]){me:Int}(hme:me=0\/me=1){k:Kit}{own l l':yG}(g0:LockOk own)(g1:LockPt own){m:Msg}(hm:m.1=12)(hmb:(byt m).length<=1000000000)
 (hr:W6 yD (byt m)=some (l,true)) (hfit:Zm8 op h0 h1 (1 - me) (rat m)=true) {zB hd:yL Msg} (hf:fnd hd 12=none\/∃o,fnd hd 12=some o/\byt o=byt m/\rat o=rat m)
 (h1':zB.length<=100) (h2:∀m,m∈zB->(byt m).length<=1000000000) (h3:hd.length<=100) {fee fee':Int} (hfe:fee'=if 1 - me=op then rat m else fee) {t:Tx} {g:Sig} (sg:Sig)
 (hmk:Yt yD (Zo A k0 k1 op) s (lkp me own l) fee'=some (t,0)) (hsg:Xd yD k t=some g):
 Z9 yD m (Zo A k0 k1 op) k me s.1 s.2.1 s.2.2.2 (lkp me own l') fee sg [] zB hd=
  some (Zks (said2 op me fee' own g zB),(0:Int),Zo A k0 k1 op,k,me,s.1,s.2.1,s.2.2.2,lkp me own l,fee',sg,([]:yL Cond),said2 op me fee' own g zB,YH hd m):=by
 obtain⟨e1,e2,e3,e4⟩:=ZAR hme own l' l;have hO:(Zo A k0 k1 op).2.2.2.2=op:=rfl;have hon:Xk yD m hd=some (YH hd m):=Zw3 (by omega) hmb;have hr:W6 yD m.2.2.2.2.2.2.2.2.2.2.2.2.2=some (l,true):=hr;have tl:=ZHx (A:=A) (k0:=k0) (k1:=k1) (op:=op) (hd:=YH hd m) hme hn g0 g1 h1' h2 sg hmk hsg;unfold Z9;rw[Zd3 (by omega),ya,yW (by rw[hm];rfl),hr,ya];rw[e1,e2,e3,e4,hO];rcases hf with hf|⟨o,hf,hb,hra⟩
 ·rw[hf,yX (by simp),yX (by simp),ZuS ho hv hn];rw[show m.2.2.2.2.2.2.1=rat m from rfl,hfit,ya,yX (by decide),hon,ya,yW rfl,ya]
  by_cases hp:1 - me=op
  ·rw[yW hp] at hfe;subst hfe;rw[yW (by rw[hp];exact beq_self_eq_true _)];exact tl
  ·rw[yX hp] at hfe;subst hfe;rw[yX (by rw[yT];exact hp)];exact tl
 ·rw[hf,yW (by rfl)];rw[show(Option.getD (some o) Zm7,Option.isSome (some o)).1.2.2.2.2.2.2.2.2.2.2.2.2.2=byt m from hb,show m.2.2.2.2.2.2.2.2.2.2.2.2.2=byt m from rfl,ZoZ,yY rfl,ya,yX (by decide)]
  rw[show(Option.getD (some o) Zm7,Option.isSome (some o)).1.2.2.2.2.2.2.1=rat m from hra,show m.2.2.2.2.2.2.1=rat m from rfl,yX (by simp),yX (by simp),ZuS ho hv hn]
  rw[hfit,ya,yX (by decide),hon,ya,yW rfl,ya];by_cases hp:1 - me=op
  ·rw[yW hp] at hfe;subst hfe;rw[yW (by rw[hp];exact beq_self_eq_true _)];exact tl
  ·rw[yX hp] at hfe;subst hfe;rw[yX (by rw[yT];exact hp)];exact tl
theorem ZHy{c:Zz}{k:Kit}{me no:Int}{hv:yL Int}{r:Int}{lk:yL yG}{fee:Int}{sg:Sig}{cs:yL Cond}{m:Msg}(hm:m.1=13){zB hd:yL Msg}(hf:fnd hd 12=none)(h3:hd.length<=100):
 Z9 yD m c k me no hv r lk fee sg cs zB hd=some (([]:yL Msg),(14:Int),c,k,me,no,hv,r,lk,fee,sg,cs,zB,hd):=by
 unfold Z9;rw[Zd3 (by omega),ya,yX (by rw[hm];decide),yW (by rw[hm];rfl),hf,yW (by decide)]
theorem set_same{α:Type}{l:yL α}{k:Nat}{e:α}(h:l[k]? =some e):l.set k e=l:=by
 apply List.ext_getElem?;intro j;by_cases hj:j=k
 ·subst hj;rw[List.getElem?_set_self (yq.1 h).1,h]
 ·rw[List.getElem?_set_ne (Ne.symm hj)]
theorem ZLN{x:In}(hx:x.2.2.1.length<=12){outs:yL Out}(h1:outs.length<=64)(ho:∀o,o∈outs->LockOk o.2)(note:Int)(sa sb:Sig):ZdG yD ([x],outs,note) sa sb=some ([(x.1,(0,[sa,sb],0))],outs,note):=by
 unfold ZdG ZdF ZlY ZlX;dsimp only;rw[yX (by simp),yW (ZD (by simp) (by simp)),ya];have e0:([x]:yL In)[(0:Nat)]? =some x:=rfl
 have hs:ZdB yD x.2.2.1=some x.2.2.1:=by
  unfold ZdB;rw[yW (ZD (by omega) (by omega))]
 by_cases he:outs.isEmpty=true
 ·have he':outs=[]:=List.isEmpty_iff.1 he;subst he'
  have hc:WD yD ([]:yL Out)=some (.inr []):=by
   unfold WD;rw[yW he];unfold ZdA;rw[yW (ZD (by simp) (by simp))];rfl
  rw[hc,ya];dsimp only;generalize hz:(([]:yL In),([]:yL Out),(0:Int))=z
  have l0:Zb (X9 yD) yD ((([x]:yL In).length:Int),(0:Int),([]:yL Out),note,z,[()],[x])=some (([]:yL Out),note,z,[()],[x]):=by
   refine Zt 1 (λk:Nat=>((([x]:yL In).length:Int),(k:Int),([]:yL Out),note,z,[()],[x])) ?_ ?_ (by omega)
   ·intro k hk;have:k=0:=by omega
    subst this;unfold X9;dsimp only;rw[yW (yY (by simp)),yW (Yz (by omega) (by simp)),yar,e0,ya,hs,ya,yW (Yz (by omega) (by simp)),ya];rfl
   ·unfold X9;dsimp only;rw[yX (by simp)]
  rw[l0,ya];dsimp only
  have l1:Zb (Vh yD) yD ((([]:yL Out).length:Int),(0:Int),([]:yL Out),note,z,[()],[x])=some (([]:yL Out),note,z,[()],[x]):=by
   refine Zt 0 (λk:Nat=>((([]:yL Out).length:Int),(k:Int),([]:yL Out),note,z,[()],[x])) (λk hk=>absurd hk (by omega)) ?_ (by omega);unfold Vh;dsimp only;rw[yX (by simp)]
  rw[l1,ya,ya];dsimp only;rw[yW (by simp),yW (Yz (by omega) (by simp))];rfl
 ·have hc:WD yD outs=some (.inl ([()],outs)):=by
   unfold WD ZdC Zcs;rw[yX he,yX he,yW (ZD (by omega) (by omega))];rfl
  rw[hc,ya];dsimp only;generalize hz:(([]:yL In),([]:yL Out),(0:Int))=z
  have l0:Zb (WQ yD) yD ((([x]:yL In).length:Int),(0:Int),note,z,[()],[x],[()],outs)=some (note,z,[()],[x],[()],outs):=by
   refine Zt 1 (λk:Nat=>((([x]:yL In).length:Int),(k:Int),note,z,[()],[x],[()],outs)) ?_ ?_ (by omega)
   ·intro k hk;have:k=0:=by omega
    subst this;have e0:([x]:yL In)[(0:Nat)]? =some x:=rfl
    have hs:ZdB yD x.2.2.1=some x.2.2.1:=by
     unfold ZdB;rw[yW (ZD (by omega) (by omega))]
    unfold WQ;dsimp only;rw[yW (yY (by simp)),yW (Yz (by omega) (by simp)),yar,e0,ya,hs,ya,yW (Yz (by omega) (by simp)),ya];rfl
   ·unfold WQ;dsimp only;rw[yX (by simp)]
  rw[l0,ya];dsimp only
  have l1:Zb (WS yD) yD ((outs.length:Int),(0:Int),note,z,[()],[x],[()],outs)=some (note,z,[()],[x],[()],outs):=by
   refine Zt outs.length (λk:Nat=>((outs.length:Int),(k:Int),note,z,[()],[x],[()],outs)) ?_ ?_ (by omega)
   ·intro k hk;obtain⟨o,hok,hom⟩:=Zk hk;obtain⟨g1,g2,g3⟩:=ho o hom
    have hbe:¬o.2.isEmpty=true:=by
     intro h;rw[List.isEmpty_iff] at h;rw[h] at g1;simp at g1
    have hbr:QZ yD o.2=some ([()],o.2):=by
     unfold QZ ZdD;rw[yX hbe,yW (ZD (by omega) (by omega))]
    unfold WS;dsimp only;rw[yW (ZV hk),yW (Yz (by omega) (by omega)),yar,hok,ya,hbr,ya];dsimp only
    have l2:Zb (WR yD) yD ((k:Int),(outs.length:Int),(k:Int),(o.2.length:Int),(0:Int),note,z,[()],[x],[()],outs,[()],o.2)=some ((k:Int),(outs.length:Int),(k:Int),note,z,[()],[x],[()],outs,[()],o.2):=by
     refine Zt o.2.length (λj:Nat=>((k:Int),(outs.length:Int),(k:Int),(o.2.length:Int),(j:Int),note,z,[()],[x],[()],outs,[()],o.2)) ?_ ?_ (by omega)
     ·intro j hj;obtain⟨b,hb,hbm⟩:=Zk hj;obtain⟨b1,_⟩:=g3 b hbm
      have hk9:WP yD b.1=some b.1:=by
       unfold WP;rw[yW (ZD (by omega) (by omega))]
      unfold WR;dsimp only;rw[yW (ZV hj),yW (Yz (by omega) (by omega)),yar,hb,ya,hk9,ya,yW (Yz (by omega) (by omega)),ya,Zn (by omega),show o.2.set j (b.1,b.2.1,b.2.2.1,b.2.2.2)=o.2 from set_same hb]
     ·unfold WR;dsimp only;rw[yX (by rw[ZH];decide)]
    rw[l2,ya];dsimp only;rw[yW (Yz (by omega) (by omega)),yar,hok,ya,Zn (by omega),show outs.set k (o.1,o.2)=outs from set_same hok]
   ·unfold WS;dsimp only;rw[yX (by rw[ZH];decide)]
  rw[l1,ya,ya];dsimp only;rw[yW (by simp),yW (Yz (by omega) (by simp))];rfl
end Go.Proofs.YtdhclndplbopgaaGreat
end
section
set_option maxRecDepth 4000
namespace Go.Proofs.YtdhclndplbopgaaGreat
open Go Go.Ev
noncomputable section
abbrev qB:=Zz×Kit×Int×yH×(yL yG)×Int×Sig×(yL Msg)×(yL Msg)×Msg×Msg×yG
abbrev ZNW:Type:=(Int×Bool×qB)
abbrev ZPU:Type:=((yL Msg)×Int×qB)
def XL(F:Nat):ZNW->yO (ZPU⊕ZNW)
 |(a,b,c,d,e,f,g,h,i,j,k,l,m,n)=>
 if(a==c.2.2.2.2)=true then
  (Xt F c f l.2.2.2.2.2.2.1).bind λo1483=>
  if(!o1483)=true then
   some (.inl ([],13,c,d,e,f,g,h,i,j,k,l,m,n))
  else
  if(a !=c.2.2.2.2)=true then
   if(l.2.2.2.2.2.2.1 !=0)=true then
    some (.inl ([],13,c,d,e,f,g,h,i,j,k,l,m,n))
   else
   some (.inr (a,b,c,d,e,f,g,h,i,j,k,l,m,n))
  else
  some (.inr (a,b,c,d,e,f,g,h,i,j,k,l,m,n))
 else
 if(a !=c.2.2.2.2)=true then
  if(l.2.2.2.2.2.2.1 !=0)=true then
   some (.inl ([],13,c,d,e,f,g,h,i,j,k,l,m,n))
  else
  some (.inr (a,b,c,d,e,f,g,h,i,j,k,l,m,n))
 else
 some (.inr (a,b,c,d,e,f,g,h,i,j,k,l,m,n))
def Zr5:yL ESh:=[.var (.agg [.v Zh,.v ZF,.v yI,.v Zf,.v (.arr 2 Ze),.v yI,.own 1 Zc,.own 2 Zc,.v Zy]) true,.log Zc 99,.log Zc 99,.var (.v Zc) true,.var (.v Zc) true,.var (.v Ze) true]
abbrev ZPV:yL Ty:=[(.sl Zc),yI,Zh,ZF,yI,Zf,(.arr 2 Ze),yI,Zy,(.sl Zc),(.sl Zc),Zc,Zc,Ze]
abbrev ZNX:yL Ty:=[yI,.bool,Zh,ZF,yI,Zf,(.arr 2 Ze),yI,Zy,(.sl Zc),(.sl Zc),Zc,Zc,Ze]
def Za2:Lp:=⟨[(0,.ref 0 []),(3,.ref 3 []),(6,.v yI),(8,.v .bool),(9,.ref 5 [])],Zr5,ZNX,[⟨.ret,[(4,.v (.sl Zc)),(5,.v yI)],Zr5,ZPV⟩,⟨.normal,[(0,.ref 0 []),(3,.ref 3 []),(6,.v yI),(8,.v .bool),(9,.ref 5 [])],Zr5,ZNX⟩],XL yD⟩
theorem Ze3:Za2.Is yb (Qt yb 37) (ZgD (ZgD (VQ yb 37) 2) 9):=ZG3 0 37 ZCY [] [Zal] ⟨Zb6,ytt⟩
abbrev ZO0:Type:=(Int×qB)
def XM(F:Nat):ZNW->yO ZO0
 |(a,b,c,d,e,f,g,h,i,j,k,l,m,n)=>
 if(!b)=true then
  if(apB 0 l.2.2.2.2.2.2.2.2.2.2.2.2.2.length 1)=true then
   if(apB k.length 1 328)=true then
    let y1487:(yL Msg):=k++([(l.1,0,0,(0,0,0,0,0),0,[],l.2.2.2.2.2.2.1,l.2.2.2.2.2.2.2.1,yzz,0,([],[],0),(0,0,0,0,0),(0,0,0,0,0,0),l.2.2.2.2.2.2.2.2.2.2.2.2.2)]:yL Msg)
    some (a,c,d,e,f,g,h,i,j,y1487,l,m,n)
   else
   none
  else
  none
 else
 some (a,c,d,e,f,g,h,i,j,k,l,m,n)
abbrev ZO1:yL Ty:=[yI,Zh,ZF,yI,Zf,(.arr 2 Ze),yI,Zy,(.sl Zc),(.sl Zc),Zc,Zc,Ze]
def Za3:Lp:=⟨[(0,.ref 0 []),(3,.ref 3 []),(6,.v yI),(8,.v .bool),(9,.ref 5 [])],Zr5,ZNX,[⟨.normal,[(0,.ref 0 []),(3,.ref 3 []),(6,.v yI),(9,.ref 5 [])],Zr5,ZO1⟩],XM yD⟩
theorem Ze4:Za3.Is yb (Qt yb 37) (ZgD (ZgD (VQ yb 37) 2) 12):=ZG3 0 37 ZCY [] [] trivial
def XN(F:Nat):ZO0->yO (qB)
 |(a,b,c,d,e,f,g,h,i,j,k,l,m)=>
 if(a==b.2.2.2.2)=true then
  some (b,c,d,e,f,k.2.2.2.2.2.2.1,h,i,j,k,l,m)
 else
 some (b,c,d,e,f,g,h,i,j,k,l,m)
abbrev ZNY:yL Ty:=[Zh,ZF,yI,Zf,(.arr 2 Ze),yI,Zy,(.sl Zc),(.sl Zc),Zc,Zc,Ze]
def Za4:Lp:=⟨[(0,.ref 0 []),(3,.ref 3 []),(6,.v yI)],Zr5,ZO1,[⟨.normal,[(0,.ref 0 [])],Zr5,ZNY⟩],XN yD⟩
theorem Ze5:Za4.Is yb (Qt yb 37) (ZgD (ZgD (VQ yb 37) 2) 15):=ZG3 0 37 ZCY [] [] trivial
def XO(F:Nat):(qB)->yO (qB)
 |(k,l,m,n,o,p,q,r,t,u,v,w)=>
 (Wj F 13 k l m n o p q r t).bind λ(a,b,f,h,c,d,e,i,g,j)=>
 if(!a)=true then
  (YL F b c d e).bind λo1493=>
  (XS F f o1493.1).bind λo1494=>
  if(apB g.length 1 328)=true then
   let y1495:(yL Msg):=g++([(13,0,0,(0,0,0,0,0),0,[],0,o1494,yzz,0,([],[],0),(0,0,0,0,0),(0,0,0,0,0,0),[])]:yL Msg)
   some (b,f,h,c,d,e,i,y1495,j,u,v,w)
  else
  none
 else
 some (b,f,h,c,d,e,i,g,j,u,v,w)
def Za5:Lp:=⟨[(0,.ref 0 [])],Zr5,ZNY,[⟨.normal,[(0,.ref 0 [])],Zr5,ZNY⟩],XO yD⟩
theorem Ze6:Za5.Is yb (Qt yb 37) (ZgD (ZgD (VQ yb 37) 2) 18):=ZG3 0 37 ZCY [] [Q2,Va,Zb8] ⟨Zch,Qm,Zf7,ytt⟩
abbrev ZPW:Type:=((yL Msg)×Int×qU)
def V1(F:Nat):(Int×qU)->yO (ZPW⊕(Int×qU))
 |(g2,g3,g4,g5,g6,g7,g8,g9,h0,h1,h2)=>
 if(h2.1==12)=true then
  (YE F 12 g3 g4 g5 g6 g7 g8 g9 h0 h1).bind λ(g1,f1,f2,f3,f4,f5,f6,f7,f8,f9,g0)=>
  (XK F (g2,f1,f2,f3,f4,f5,f6,f7,f8,f9,g0,h2,g1)).bind λo1479=>
  match o1479 with
  |.inl (a,b,c,d,e,f,g,h,i,j,k,l,_)=>
   some (.inl (a,b,c,d,e,f,g,h,i,j,k,l))
  |.inr (d8,d9,c9,d0,d1,d2,d3,d4,d5,d6,d7,c8,f0)=>
   (WF F c8.2.2.2.2.2.2.2.2.2.2.2.2.2).bind λo1482=>
   if(!o1482.2)=true then
    some (.inl ([],2,c9,d0,d1,d2,d3,d4,d5,d6,d7,c8))
   else
   (XL F (d8,d9,c9,d0,d1,d2,d3,d4,d5,d6,d7,c8,f0,o1482.1)).bind λo1484=>
   match o1484 with
   |.inl (a,b,c,d,e,f,g,h,i,j,k,l,_,_)=>
    some (.inl (a,b,c,d,e,f,g,h,i,j,k,l))
   |.inr (b4,b5,b6,b7,b8,b9,c0,c1,c2,c3,c4,c5,c6,c7)=>
    (XM F (b4,b5,b6,b7,b8,b9,c0,c1,c2,c3,c4,c5,c6,c7)).bind λ(R,T,U,V,W,S,Y,Z,b0,b1,b2,b3,X)=>
    if(inB R 2)=true then
     (S[R.toNat]?).bind λe1489=>
     (XN F (R,T,U,V,W,S.set R.toNat X,Y,Z,b0,b1,b2,b3,X)).bind λ(E,G,H,I,J,K,L,M,N,O,P,Q)=>
     (Y2 F E G H I J K L M N).bind λ(_,v,w,x,y,z,A,B,C,D)=>
     (XO F (v,w,x,y,z,A,B,C,D,O,P,Q)).bind λ(k,l,m,n,o,p,q,r,t,u,_,_)=>
     (Z8 F k l m n o p q r t).bind λ(a,b,c,d,e,f,g,h,i,j)=>
     some (.inl (a,0,b,c,d,e,f,g,h,i,j,u))
    else
    none
 else
 some (.inr (g2,g3,g4,g5,g6,g7,g8,g9,h0,h1,h2))
abbrev ZPX:yL Ty:=[(.sl Zc),yI,Zh,ZF,yI,Zf,(.arr 2 Ze),yI,Zy,(.sl Zc),(.sl Zc),Zc]
abbrev ZO2:yL Ty:=[yI,Zh,ZF,yI,Zf,(.arr 2 Ze),yI,Zy,(.sl Zc),(.sl Zc),Zc]
def Zci:Lp:=⟨[(0,.ref 0 []),(3,.ref 3 []),(6,.v yI)],ZyS,ZO2,[⟨.ret,[(4,.v (.sl Zc)),(5,.v yI)],ZyS,ZPX⟩,⟨.normal,[(0,.ref 0 []),(3,.ref 3 []),(6,.v yI)],ZyS,ZO2⟩],V1 yD⟩
theorem ZhC:Zci.Is yb (Qt yb 37) (ZgD (VQ yb 37) 2):=ZD8 (n:=0) (g:=37) (fi:={ hi:=ZCY,bk:=[(2,Za1),(9,Za2),(12,Za3),(15,Za4),(18,Za5)]}) (specs:={ l:=[WN,Zg1,Qz,WM]}) (okS ⟨VZ,Zom,ZbW,VY,ytt⟩) (hb:=⟨Ze2,Ze3,Ze4,Ze5,Ze6,ytt⟩)
abbrev ZPY:Type:=(Bool×Zz×Kit×Int×yH×(yL yG)×Int×Sig×(yL Msg)×(yL Msg)×Msg×Msg×Tx×Msg)
abbrev ZPZ:Type:=(Zz×Kit×Int×yH×(yL yG)×Int×Sig×(yL Msg)×(yL Msg)×Msg×Msg×Tx×Msg)
def Wl(F:Nat):ZPY->yO ZPZ
 |(a,b,c,d,e,f,g,h,i,j,k,l,m,n)=>
 if(!a)=true then
  if(apB 0 k.2.2.2.2.2.2.2.2.2.2.2.2.2.length 1)=true then
   if(apB j.length 1 328)=true then
    let y1507:(yL Msg):=j++([(k.1,0,0,(0,0,0,0,0),0,[],k.2.2.2.2.2.2.1,k.2.2.2.2.2.2.2.1,yzz,0,([],[],0),(0,0,0,0,0),(0,0,0,0,0,0),k.2.2.2.2.2.2.2.2.2.2.2.2.2)]:yL Msg)
    some (b,c,d,e,f,g,h,i,y1507,k,l,m,n)
   else
   none
  else
  none
 else
 some (b,c,d,e,f,g,h,i,j,k,l,m,n)
def ZMb:yL ESh:=[.var (.agg [.v Zh,.v ZF,.v yI,.v Zf,.v (.arr 2 Ze),.v yI,.own 1 Zc,.own 2 Zc,.v Zy]) true,.log Zc 99,.log Zc 99,.var (.v Zc) true,.var (.v Zc) true,.var (.v yTx) true,.var (.v Zc) true]
abbrev ZP0:yL Ty:=[Zh,ZF,yI,Zf,(.arr 2 Ze),yI,Zy,(.sl Zc),(.sl Zc),Zc,Zc,yTx,Zc]
abbrev ZP1:yL Ty:=[.bool,Zh,ZF,yI,Zf,(.arr 2 Ze),yI,Zy,(.sl Zc),(.sl Zc),Zc,Zc,yTx,Zc]
def ZbY:Lp:=⟨[(0,.ref 0 []),(3,.ref 3 []),(19,.v .bool)],ZMb,ZP1,[⟨.normal,[(0,.ref 0 []),(3,.ref 3 [])],ZMb,ZP0⟩],Wl yD⟩
theorem Zgz:ZbY.Is yb (Qt yb 37) (ZgD (VQ yb 37) 38):=ZG3 0 37 ZCY [] [] trivial
def Wm(F:Nat)(a1:Msg)(s0_0:Zz)(s0_1:Kit)(s0_2:Int)(s0_3:yH)(s0_4:(yL yG))(s0_5:Int)(s0_6:Sig)(s1:(yL Msg))(s2:(yL Msg)):yO (((yL Msg)×Int×qL)):=
 (V1 F (wi (1 - s0_2),s0_0,s0_1,s0_2,s0_3,s0_4,s0_5,s0_6,s1,s2,a1)).bind λo1498=>
 match o1498 with
 |.inl (a,b,c,d,e,f,g,h,i,j,k,_)=>
  some (a,b,c,d,e,f,g,h,i,j,k)
 |.inr (R,I,J,K,L,M,N,O,P,Q,H)=>
  if(H.1 !=13)=true then
   some ([],1,I,J,K,L,M,N,O,P,Q)
  else
  (YE F 12 I J K L M N O P Q).bind λ(G,v,w,x,y,z,A,B,C,D,E)=>
  if(!v)=true then
   some ([],14,w,x,y,z,A,B,C,D,E)
  else
  (YL F w z A B).bind λo1502=>
  if(inB R 2)=true then
   (w.2.2.1[R.toNat]?).bind λe1503=>
   (Vw F o1502.1).bind λo1504=>
   (Qp F e1503.1 o1504 H.2.2.2.2.2.2.2.1).bind λo1505=>
   if(!o1505)=true then
    some ([],7,w,x,y,z,A,B,C,D,E)
   else
   (YE F 13 w x y z A B C D E).bind λ(u,j,k,l,m,n,o,p,q,r,t)=>
   (Wl F (j,k,l,m,n,o,p,q,r,t,H,G,o1502.1,u)).bind λ(a,b,c,d,e,f,_,h,i,g,_,_,_)=>
   some ([],0,a,b,c,d,e,f,g.2.2.2.2.2.2.2.1,h,i)
  else
  none
def Zc2:Fs yb:=⟨37,[.ref 0 [],.v Zc],zD,[Zc,Zh,ZF,yI,Zf,(.arr 2 Ze),yI,Zy,(.sl Zc),(.sl Zc)],[⟨.ret,[(0,.tup [.v (.sl Zc),.v yI])],zD,[(.sl Zc),yI,Zh,ZF,yI,Zf,(.arr 2 Ze),yI,Zy,(.sl Zc),(.sl Zc)]⟩],λx=>Wm yD x.1 x.2.1 x.2.2.1 x.2.2.2.1 x.2.2.2.2.1 x.2.2.2.2.2.1 x.2.2.2.2.2.2.1 x.2.2.2.2.2.2.2.1 x.2.2.2.2.2.2.2.2.1 x.2.2.2.2.2.2.2.2.2⟩
theorem Zkt:Zc2.Ok:=Ztx (fi:={ hi:=ZCY,bk:=[(2,Zci),(38,ZbY)]}) (specs:={ l:=[WN,Va,ZdS,ZeE]}) (okS ⟨VZ,Qm,ZiT,Zmh,ytt⟩) (hb:=⟨ZhC,Zgz,ytt⟩)
def Wn(F:Nat)(s0_0:Zz)(s0_1:Kit)(s0_2:Int)(s0_3:Int)(s0_4:(yL Int))(s0_5:Int)(s0_6:(yL yG))(s0_7:Int)(s0_8:Sig)(s1:(yL Cond))(s2:(yL Msg))(s3:(yL Msg)):yO ((Tx×Bool×qO)):=
 (Qx F s3 13).bind λo1517=>
 if(!o1517.2)=true then
  some (([],[],0),false,s0_0,s0_1,s0_2,s0_3,s0_4,s0_5,s0_6,s0_7,s0_8,s1,s2,s3)
 else
 (ZL F s0_0 s0_1 s0_2 s0_3 s0_4 s0_5 s0_6 s0_7 s0_8 s1 s2 s3).bind λo1518=>
 (Xd F s0_1 o1518).bind λo1519=>
 if(inB s0_2 2)=true then
  (([s0_8,s0_8]:yL Sig)[s0_2.toNat]?).bind λe1520=>
  ((([s0_8,s0_8]:yL Sig).set s0_2.toNat o1519)[0]?).bind λe1521=>
  ((([s0_8,s0_8]:yL Sig).set s0_2.toNat o1519)[1]?).bind λe1522=>
  (ZdG F o1518 e1521 e1522).bind λo1523=>
  some (o1523,true,s0_0,s0_1,s0_2,s0_3,s0_4,s0_5,s0_6,s0_7,s0_8,s1,s2,s3)
 else
 none
def Zi5:Fs yb:=⟨38,[.ref 0 []],zF,[Zh,ZF,yI,yI,(.arr 2 yI),yI,(.arr 2 Ze),yI,Zy,(.sl ZE),(.sl Zc),(.sl Zc)],[⟨.ret,[(0,.tup [.v yTx,.v .bool])],zF,[yTx,.bool,Zh,ZF,yI,yI,(.arr 2 yI),yI,(.arr 2 Ze),yI,Zy,(.sl ZE),(.sl Zc),(.sl Zc)]⟩],λx=>Wn yD x.1 x.2.1 x.2.2.1 x.2.2.2.1 x.2.2.2.2.1 x.2.2.2.2.2.1 x.2.2.2.2.2.2.1 x.2.2.2.2.2.2.2.1 x.2.2.2.2.2.2.2.2.1 x.2.2.2.2.2.2.2.2.2.1 x.2.2.2.2.2.2.2.2.2.2.1 x.2.2.2.2.2.2.2.2.2.2.2⟩
def ZP2:HI:={ still:=[3,12,19,37,38,41,43,45]}
theorem Zpp:Zi5.Ok:=Ztx (fi:={ hi:=ZP2}) (specs:={ l:=[Zbi,Zj5,ZpW],mt:=[],ro:=[ZbG]}) (okR ⟨Zau,Ziz,Zn6,ytt⟩ trivial ⟨Zc1,ytt⟩)
def Wo(F:Nat)(s0_0:Zz)(s0_1:Kit)(s0_2:Int)(s0_3:yH)(s0_4:(yL yG))(s0_5:Int)(s0_6:Sig)(s1:(yL Msg))(s2:(yL Msg)):yO ((Tx×Bool×qL)):=
 (YE F 13 s0_0 s0_1 s0_2 s0_3 s0_4 s0_5 s0_6 s1 s2).bind λ(_,a,b,c,d,e,f,g,h,i,j)=>
 if(!a)=true then
  some (([],[],0),false,b,c,d,e,f,g,h,i,j)
 else
 (YL F b e f g).bind λo1530=>
 (XS F c o1530.1).bind λo1531=>
 if(d==0)=true then
  (WG F o1530.1 o1531 h).bind λo1532=>
  some (o1532,true,b,c,d,e,f,g,h,i,j)
 else
 (WG F o1530.1 h o1531).bind λo1533=>
 some (o1533,true,b,c,d,e,f,g,h,i,j)
def Zc3:Fs yb:=⟨39,[.ref 0 []],zD,[Zh,ZF,yI,Zf,(.arr 2 Ze),yI,Zy,(.sl Zc),(.sl Zc)],[⟨.ret,[(0,.tup [.v yTx,.v .bool])],zD,[yTx,.bool,Zh,ZF,yI,Zf,(.arr 2 Ze),yI,Zy,(.sl Zc),(.sl Zc)]⟩],λx=>Wo yD x.1 x.2.1 x.2.2.1 x.2.2.2.1 x.2.2.2.2.1 x.2.2.2.2.2.1 x.2.2.2.2.2.2.1 x.2.2.2.2.2.2.2.1 x.2.2.2.2.2.2.2.2⟩
def ZP3:HI:={ still:=[3,10,21,25,29,33,40,41,48,49,53,55,59,60]}
theorem Zku:Zc3.Ok:=fnO ZP3 [] [WN,Va,Zb8,Zg2] ⟨VZ,Qm,Zf7,Zon,ytt⟩
end
end Go.Proofs.YtdhclndplbopgaaGreat
end
section
set_option maxRecDepth 4000
namespace Go.Proofs.YtdhclndplbopgaaGreat
open Go Go.Ev
theorem ZHz(c:Zz)(k:Kit)(me no:Int)(hv:yL Int)(r:Int)(lk:yL yG)(fee:Int)(sg:Sig)(cs:yL Cond)(zB:yL Msg){hd:yL Msg}(hl:hd.length<=1000000)(h:fnd hd 13=none):
 Wn yD c k me no hv r lk fee sg cs zB hd=some ((([]:yL In),([]:yL Out),(0:Int)),false,c,k,me,no,hv,r,lk,fee,sg,cs,zB,hd):=by
 unfold Wn;rw[Zd3 hl,ya,h];rfl
theorem Zp4{l:yG}(h:LockOk l):Ze0 l:=⟨by have:=h.2.1;omega,λb hb=>by have:=(h.2.2 b hb).1;omega⟩
theorem ZGc{b:yL yB}(h:(rdF b).2=true):LockOk (rdF b).1/\LockPt (rdF b).1:=by
 unfold rdF at h ⊢;by_cases hx:∃l,LockOk l/\LockPt l/\XQ l=b
 ·rw[dif_pos hx];exact⟨hx.choose_spec.1,hx.choose_spec.2.1⟩
 ·rw[dif_neg hx] at h;cases h
def Tn(r:yL Out):Tx:=([((z32,0),(0,[],0))],r,2097154)
structure TnOk(r:List Out):Prop where
 len:r.length<=2
 out:∀o,o∈r->OutOk o
 wf:TxWf (Tn r)
 ok:TxOk (Tn r)
 am:amts r<=1125899906842624
structure Cz(A:Int)(k0 k1:Kit)(op:Int)(s:yH)(h0 h1:Int):Prop where
 c:ChOk A k0 k1 op
 st:StIn A s h0 h1
 w:hav op h0 h1 >= cost s.2.2.2 s.2.2.1.length
 e:s.2.2.1=[]
noncomputable def clT(op h0 h1:Int)(lk:yL yG)(fee:Int):Tx:=(mkF op h0 h1 [] (lk.getD 0 []) (lk.getD 1 []) fee).1
noncomputable def sgn(k:Kit)(t:Tx):Sig:=sgF k.1 (Zg3 (VX t))
abbrev Es:=yL yG×Int×Sig×yL Msg×yL Msg
open Classical in
noncomputable def tkF(op h0 h1 me:Int)(k kp:Kit)(own:yG)(m:Msg)(lk:yL yG)(fee:Int)(sg:Sig)(zB hd:yL Msg):yL Msg×Int×Es:=
 if m.1=12 then
  if∃o,fnd hd 12=some o/\¬(byt o=byt m/\rat o=rat m) then([],4,lk,fee,sg,zB,hd)
  else if(rdF (byt m)).2=false then([],2,lk,fee,sg,zB,hd)
  else if Zm8 op h0 h1 (1 - me) (rat m)=false then([],13,lk,fee,sg,zB,hd)
  else(said2 op me (if 1 - me=op then rat m else fee) own (sgn k (clT op h0 h1 (lkp me own (rdF (byt m)).1) (if 1 - me=op then rat m else fee))) zB,0,lkp me own (rdF (byt m)).1,if 1 - me=op then rat m else fee,sg,said2 op me (if 1 - me=op then rat m else fee) own (sgn k (clT op h0 h1 (lkp me own (rdF (byt m)).1) (if 1 - me=op then rat m else fee))) zB,YH hd m)
 else if m.1=13 then
  if fnd hd 12=none then([],14,lk,fee,sg,zB,hd)
  else if Zw0 (B kp.1.toNat) (Zg3 (VX (clT op h0 h1 lk fee))) (ZC1 m)=false then([],7,lk,fee,sg,zB,hd)
  else([],0,lk,fee,ZC1 m,zB,YH hd m)
 else([],1,lk,fee,sg,zB,hd)
noncomputable def dnF(op h0 h1 me:Int)(k:Kit)(lk:yL yG)(fee:Int)(sg:Sig)(hd:yL Msg):Tx×Bool:=
 if fnd hd 13=none then(([],[],0),false)
 else(([((z32,0),(0,if me=0 then[sgn k (clT op h0 h1 lk fee),sg] else[sg,sgn k (clT op h0 h1 lk fee)],0))],(clT op h0 h1 lk fee).2.1,2097154),true)
def SdOk(l:yL Msg):Prop:=l=[]\/∃r b,b.length<=10000/\(l=[VL r b]\/∃g,l=[VL r b,byM g])
def HdOk(l:yL Msg):Prop:=l=[]\/∃h,h.1=12/\(l=[h]\/∃w,w.1=13/\l=[h,w])
structure Iv(op h0 h1 me:Int)(own:yG)(lk:List yG)(fee:Int)(zB hd:List Msg):Prop where
 lk:∃l,lk=lkp me own l/\(hd≠[]->LockOk l/\LockPt l)
 fe:me=op\/hd≠[]->52<=fee/\fee<=hav op h0 h1
 sd:SdOk zB
 hd:HdOk hd
theorem HdOk.none12{l:yL Msg}(h:HdOk l)(hn:fnd l 12=none):l=[]:=by
 rcases h with rfl|⟨m,h1,rfl|⟨w,_,rfl⟩⟩
 ·rfl
 ·unfold fnd at hn;rw[List.find?_cons,show(m.1==12)=true by rw[h1];rfl] at hn;cases hn
 ·unfold fnd at hn;rw[List.find?_cons,show(m.1==12)=true by rw[h1];rfl] at hn;cases hn
theorem HdOk.ne13{l:yL Msg}(h:fnd l 13≠none):l≠[]:=λe=>h (by rw[e];rfl)
theorem HdOk.ne12{l:yL Msg}(h:fnd l 12≠none):l≠[]:=λe=>h (by rw[e];rfl)
theorem HdOk.len{l:yL Msg}(h:HdOk l):l.length<=2:=by
 rcases h with rfl|⟨m,_,rfl|⟨w,_,rfl⟩⟩ <;> simp
theorem SdOk.len{l:yL Msg}(h:SdOk l):l.length<=2:=by
 rcases h with rfl|⟨r,b,_,rfl|⟨g,rfl⟩⟩ <;> simp
theorem SdOk.byt{l:yL Msg}(h:SdOk l):∀m,m∈l->(byt m).length<=10000:=by
 intro m hm;rcases h with rfl|⟨r,b,hb,rfl|⟨g,rfl⟩⟩
 ·cases hm
 ·rw[yam.1 hm];exact hb
 ·rcases List.mem_cons.1 hm with rfl|hm
  ·exact hb
  ·rw[yam.1 hm];exact Nat.zero_le _
theorem SdOk.byt'{l:yL Msg}(h:SdOk l):∀m,m∈l->(Go.Proofs.YtdhclndplbopgaaGreat.byt m).length<=1000000000:=λm hm=>by have:=h.byt m hm;omega
theorem SdOk.again{l:yL Msg}(h:SdOk l):Zks l=l:=by
 rcases h with rfl|⟨r,b,hb,rfl|⟨g,rfl⟩⟩ <;> rfl
theorem SdOk.said2{l:yL Msg}(h:SdOk l)(op me fee:Int){own:yG}(ho:LockOk own)(g:Sig):SdOk (said2 op me fee own g l):=by
 have:=Q1 ho;rcases h with rfl|⟨r,b,hb,rfl|⟨g',rfl⟩⟩
 ·exact .inr ⟨V0 op me fee,XQ own,by omega,.inr ⟨g,rfl⟩⟩
 ·exact .inr ⟨r,b,hb,.inr ⟨g,rfl⟩⟩
 ·exact .inr ⟨r,b,hb,.inr ⟨g',rfl⟩⟩
theorem SdOk.once{l:yL Msg}(h:SdOk l)(r:Int){b:yL yB}(hb:b.length<=10000):SdOk (YH l (VL r b)):=by
 rcases h with rfl|⟨r',b',hb',rfl|⟨g',rfl⟩⟩
 ·exact .inr ⟨r,b,hb,.inl rfl⟩
 ·exact .inr ⟨r',b',hb',.inl rfl⟩
 ·exact .inr ⟨r',b',hb',.inr ⟨g',rfl⟩⟩
theorem HdOk.once12{l:yL Msg}(h:HdOk l){m:Msg}(hm:m.1=12):HdOk (YH l m)/\YH l m≠[]:=by
 unfold YH;split
 ·rename_i q;exact⟨h,λe=>by rw[e] at q;cases q⟩
 ·rename_i q;rw[hm,Option.not_isSome_iff_eq_none] at q;rw[h.none12 q];exact⟨.inr ⟨ZKh m,hm,.inl rfl⟩,by simp⟩
theorem HdOk.once13{l:yL Msg}(h:HdOk l){m:Msg}(hm:m.1=13)(hn:fnd l 12≠none):HdOk (YH l m)/\YH l m≠[]:=by
 unfold YH;split
 ·exact⟨h,HdOk.ne12 hn⟩
 ·rename_i q;rcases h with rfl|⟨x,h1,rfl|⟨w,h2,rfl⟩⟩
  ·exact absurd rfl hn
  ·exact⟨.inr ⟨x,h1,.inr ⟨ZKh m,hm,rfl⟩⟩,by simp⟩
  ·exfalso;apply q;unfold fnd;rw[hm,List.find?_cons,show(x.1==13)=false by rw[h1];rfl,List.find?_cons,show(w.1==13)=true by rw[h2];rfl];rfl
section
variable{A:Int}{k0 k1:Kit}{op:Int}{s:yH}{h0 h1:Int}
theorem Cz.good(z:Cz A k0 k1 op s h0 h1){l0 l1:yG}(g0:LockOk l0/\LockPt l0)(g1:LockOk l1/\LockPt l1){fee:Int}(f0:52<=fee)(f1:fee<=hav op h0 h1):∃r,mkF op h0 h1 [] l0 l1 fee=(Tn r,0)/\TnOk r:=by
 obtain⟨r,m1,m2⟩:=ZLy z.c z.st z.w z.e g0 g1 f0 f1;have m:=Zr2 z.c z.st z.w (Zp4 g0.1) (Zp4 g1.1) fee;rw[m1,z.e] at m;have hA:=z.c.hi;have ht:=z.st.tot;rw[z.e,show amtC ([]:yL Cond)=0 from rfl] at ht
 obtain⟨q1,q2,q3,q4,q5,q6⟩:=m2.outs z.st.p0 z.st.p1 (by omega) f0 f1 g0 g1;exact⟨r,(Option.some.inj m).symm,q1,λo ho=>(q2 o ho).2.2,q4,q5,q6⟩
theorem Cz.made(z:Cz A k0 k1 op s h0 h1){me:Int}(hme:me=0\/me=1){own l:yG}(g0:LockOk own/\LockPt own)(g1:LockOk l/\LockPt l){fee:Int}(f0:52<=fee)(f1:fee<=hav op h0 h1):
 ∃r,TnOk r/\clT op h0 h1 (lkp me own l) fee=Tn r/\Yt yD (Zo A k0 k1 op) s (lkp me own l) fee=some (Tn r,0)/\YL yD (Zo A k0 k1 op) s (lkp me own l) fee=some (Tn r,0):=by
 rcases hme with rfl|rfl
 ·obtain⟨r,e,o⟩:=z.good g0 g1 f0 f1;have a:=Zr2 z.c z.st z.w (Zp4 g0.1) (Zp4 g1.1) fee;have b:=Zs6 z.c z.st z.w (Zp4 g0.1) (Zp4 g1.1) fee;rw[z.e,e] at a b;exact⟨r,o,congrArg Prod.fst e,a,b⟩
 ·obtain⟨r,e,o⟩:=z.good g1 g0 f0 f1;have a:=Zr2 z.c z.st z.w (Zp4 g1.1) (Zp4 g0.1) fee;have b:=Zs6 z.c z.st z.w (Zp4 g1.1) (Zp4 g0.1) fee;rw[z.e,e] at a b;exact⟨r,o,congrArg Prod.fst e,a,b⟩
theorem ZKj{me fee:Int}(h:Zm8 op h0 h1 me fee=true)(hm:me=op):52<=fee/\fee<=hav op h0 h1:=by
 unfold Zm8 at h;rw[yW hm,yN] at h;exact h
theorem ZEL{me:Int}(z:Cz A k0 k1 op s h0 h1)(hme:me=0\/me=1){own:yG}{lk:yL yG}{fee:Int}{zB hd:yL Msg}(iv:Iv op h0 h1 me own lk fee zB hd){q:Int}(hf:Zm8 op h0 h1 (1 - me) q=true):
 52<=(if 1 - me=op then q else fee)/\(if 1 - me=op then q else fee)<=hav op h0 h1:=by
 have ho:=z.c.o;split
 ·rename_i h;exact ZKj hf h
 ·exact iv.fe (.inl (by omega))
theorem ZMc(z:Cz A k0 k1 op s h0 h1){me:Int}(hme:me=0\/me=1){own:yG}(g:LockOk own/\LockPt own){lk:yL yG}{fee:Int}{zB hd:yL Msg}(iv:Iv op h0 h1 me own lk fee zB hd)(k kp:Kit)(m:Msg)(sg:Sig):
 Iv op h0 h1 me own (tkF op h0 h1 me k kp own m lk fee sg zB hd).2.2.1 (tkF op h0 h1 me k kp own m lk fee sg zB hd).2.2.2.1 (tkF op h0 h1 me k kp own m lk fee sg zB hd).2.2.2.2.2.1 (tkF op h0 h1 me k kp own m lk fee sg zB hd).2.2.2.2.2.2:=by
 unfold tkF;split
 ·rename_i h12;split
  ·exact iv
  ·split
   ·exact iv
   ·rename_i hr;rw[Bool.not_eq_false] at hr;split
    ·exact iv
    ·rename_i hf;rw[Bool.not_eq_false] at hf;obtain⟨o1,o2⟩:=iv.hd.once12 h12;exact⟨⟨_,rfl,λ_=>ZGc hr⟩,λ_=>ZEL z hme iv hf,iv.sd.said2 _ _ _ g.1 _,o1⟩
 ·split
  ·rename_i h13;split
   ·exact iv
   ·rename_i hn;split
    ·exact iv
    ·obtain⟨o1,o2⟩:=iv.hd.once13 h13 hn;exact⟨⟨iv.lk.choose,iv.lk.choose_spec.1,λ_=>iv.lk.choose_spec.2 (HdOk.ne12 hn)⟩,λ_=>iv.fe (.inr (HdOk.ne12 hn)),iv.sd,o1⟩
  ·exact iv
theorem ZC3(z:Cz A k0 k1 op s h0 h1){me:Int}(hme:me=0\/me=1){own:yG}(g:LockOk own/\LockPt own){lk:yL yG}{fee:Int}{zB hd:yL Msg}(iv:Iv op h0 h1 me own lk fee zB hd){m:Msg}(hb:(byt m).length<=2000000)(sg:Sig):
 Z9 yD m (Zo A k0 k1 op) (Z3 k0 k1 me) me s.1 s.2.1 s.2.2.2 lk fee sg [] zB hd=
  (λr:yL Msg×Int×Es=>some (r.1,r.2.1,Zo A k0 k1 op,Z3 k0 k1 me,me,s.1,s.2.1,s.2.2.2,r.2.2.1,r.2.2.2.1,r.2.2.2.2.1,([]:yL Cond),r.2.2.2.2.2.1,r.2.2.2.2.2.2)) (tkF op h0 h1 me (Z3 k0 k1 me) (Z3 k0 k1 (1 - me)) own m lk fee sg zB hd):=by
 have hl:=iv.hd.len;have hsl:=iv.sd.len;have hr:W6 yD m.2.2.2.2.2.2.2.2.2.2.2.2.2=some (rdF (byt m)):=ZF9 hb;obtain⟨l',el,hl'⟩:=iv.lk;obtain⟨e1,e2,e3,e4⟩:=ZAR hme own l' [];unfold tkF;by_cases h12:m.1=12
 ·rw[yW h12];by_cases hT:∃o,fnd hd 12=some o/\¬(byt o=byt m/\rat o=rat m)
  ·rw[yW hT];obtain⟨o,ho,hne⟩:=hT;unfold Z9;rw[Zd3 (by omega),ya,yW (by rw[h12];rfl),hr,ya,ho,yW (by rfl)];rw[show(Option.getD (some o) Zm7,Option.isSome (some o)).1.2.2.2.2.2.2.2.2.2.2.2.2.2=byt o from rfl,show m.2.2.2.2.2.2.2.2.2.2.2.2.2=byt m from rfl,ZoZ,ya]
   by_cases hq:byt o=byt m
   ·rw[yY hq,yX (by decide),show(Option.getD (some o) Zm7,Option.isSome (some o)).1.2.2.2.2.2.2.1=rat o from rfl,show m.2.2.2.2.2.2.1=rat m from rfl,yW (bne_iff_ne.2 λh=>hne ⟨hq,h⟩)]
   ·rw[yZ hq,yW (by decide)]
  ·rw[yX hT]
   have hf:fnd hd 12=none\/∃o,fnd hd 12=some o/\byt o=byt m/\rat o=rat m:=by
    cases hc:fnd hd 12 with
    |none=>exact .inl rfl
    |some o=>exact .inr ⟨o,rfl,Classical.not_not.1 λhn=>hT ⟨o,hc,hn⟩⟩
   by_cases h2:(rdF (byt m)).2=false
   ·rw[yW h2];unfold Z9;rw[Zd3 (by omega),ya,yW (by rw[h12];rfl),hr,ya];rcases hf with hf|⟨o,hf,hq,hra⟩
    ·rw[hf,yX (by simp),h2,yW (by decide)]
    ·rw[hf,yW (by rfl),show(Option.getD (some o) Zm7,Option.isSome (some o)).1.2.2.2.2.2.2.2.2.2.2.2.2.2=byt m from hq,show m.2.2.2.2.2.2.2.2.2.2.2.2.2=byt m from rfl,ZoZ,yY rfl,ya,yX (by decide),show(Option.getD (some o) Zm7,Option.isSome (some o)).1.2.2.2.2.2.2.1=rat m from hra,show m.2.2.2.2.2.2.1=rat m from rfl,yX (by simp),h2,yW (by decide)]
   ·rw[yX h2];rw[Bool.not_eq_false] at h2;have hr2:W6 yD (byt m)=some ((rdF (byt m)).1,true):=by rw[ZF9 hb, <-h2]
    by_cases h3:Zm8 op h0 h1 (1 - me) (rat m)=false
    ·rw[yW h3];unfold Z9;rw[Zd3 (by omega),ya,yW (by rw[h12];rfl),hr,ya];rcases hf with hf|⟨o,hf,hq,hra⟩
     ·rw[hf,yX (by simp),h2,yX (by decide),ZuS z.c.o z.st.hv z.e,e4,show m.2.2.2.2.2.2.1=rat m from rfl,h3,ya,yW (by decide)]
     ·rw[hf,yW (by rfl),show(Option.getD (some o) Zm7,Option.isSome (some o)).1.2.2.2.2.2.2.2.2.2.2.2.2.2=byt m from hq,show m.2.2.2.2.2.2.2.2.2.2.2.2.2=byt m from rfl,ZoZ,yY rfl,ya,yX (by decide),show(Option.getD (some o) Zm7,Option.isSome (some o)).1.2.2.2.2.2.2.1=rat m from hra,show m.2.2.2.2.2.2.1=rat m from rfl,yX (by simp),h2,yX (by decide),ZuS z.c.o z.st.hv z.e,e4,h3,ya,yW (by decide)]
    ·rw[yX h3];rw[Bool.not_eq_false] at h3;obtain⟨f0,f1⟩:=ZEL z hme iv h3;obtain⟨r,o,c1,c2,c3⟩:=z.made hme g (ZGc h2) f0 f1;have hsg:Xd yD (Z3 k0 k1 me) (Tn r)=some (sgn (Z3 k0 k1 me) (Tn r)):=ZCX o.wf o.ok o.am;rw[c1,el];have key:=ZNV z.c.o z.st.hv z.e hme g.1 g.2 h12 (by omega) hr2 h3 hf (by omega) iv.sd.byt' (by omega) rfl sg (l':=l') c2 hsg;rw[(iv.sd.said2 _ _ _ g.1 _).again] at key;exact key
 ·rw[yX h12];by_cases h13:m.1=13
  ·rw[yW h13];by_cases hn:fnd hd 12=none
   ·rw[yW hn];exact ZHy h13 hn (by omega)
   ·rw[yX hn];have hne:=HdOk.ne12 hn;obtain⟨f0,f1⟩:=iv.fe (.inr hne);obtain⟨r,o,c1,c2,c3⟩:=z.made hme g (hl' hne) f0 f1;subst el;have hon:Xk yD m hd=some (YH hd m):=Zw3 (by omega) (by omega)
    have hc:ZL yD (Zo A k0 k1 op) (Z3 k0 k1 me) me s.1 s.2.1 s.2.2.2 (lkp me own l') fee sg [] zB hd=some (Tn r):=by
     unfold ZL Xq;rw[show(s.1,s.2.1,([]:yL Cond),s.2.2.2)=s by rw[<-z.e],c2,ya];rfl
    have hB:(Zo A k0 k1 op).2.2.1[(1 - me).toNat]? =some (Ye (Z3 k0 k1 (1 - me))):=by rcases hme with rfl|rfl <;> rfl
    rw[c1];unfold Z9
    cases hcs:fnd hd 12 with
    |none=>exact absurd hcs hn
    |some q=>
     rw[Zd3 (by omega),ya,yX (by rw[h13];decide),yW (by rw[h13];rfl),hcs,yX (by simp),e3,e4,hB,yW rfl,ya,hc,ya,show ZsM yD (Tn r)=some (Zg3 (VX (Tn r))) from(ZFU o.wf o.ok o.am).1,ya]
     rw[show(Ye (Z3 k0 k1 (1 - me))).1=B (Z3 k0 k1 (1 - me)).1.toNat from rfl,show m.2.2.2.2.2.2.2.1=ZC1 m from rfl,ZHp _ (show(Zg3 (VX (Tn r))).length=32 from(ZFU o.wf o.ok o.am).2),ya]
     show(if(!Zw0 (B (Z3 k0 k1 (1 - me)).1.toNat) (Zg3 (VX (Tn r))) (ZC1 m))=true then _ else _)=_
     cases hv:Zw0 (B (Z3 k0 k1 (1 - me)).1.toNat) (Zg3 (VX (Tn r))) (ZC1 m) with
     |false=>rw[yW (by decide),yW rfl]
     |true=>rw[yX (by decide),hon,ya,yX (by decide)]
  ·rw[yX h13];unfold Z9;rw[Zd3 (by omega),ya,yX (by rw[yT];exact h12),yX (by rw[yT];exact h13)]
theorem ZGd(z:Cz A k0 k1 op s h0 h1){me:Int}(hme:me=0\/me=1){own:yG}(g:LockOk own/\LockPt own){lk:yL yG}{fee:Int}{zB hd:yL Msg}(iv:Iv op h0 h1 me own lk fee zB hd)(sg:Sig):
 Wn yD (Zo A k0 k1 op) (Z3 k0 k1 me) me s.1 s.2.1 s.2.2.2 lk fee sg [] zB hd=
  (λr:Tx×Bool=>some (r.1,r.2,Zo A k0 k1 op,Z3 k0 k1 me,me,s.1,s.2.1,s.2.2.2,lk,fee,sg,([]:yL Cond),zB,hd)) (dnF op h0 h1 me (Z3 k0 k1 me) lk fee sg hd):=by
 have hl:=iv.hd.len;unfold dnF;by_cases hn:fnd hd 13=none
 ·rw[yW hn,ZHz _ _ _ _ _ _ _ _ _ _ _ (by omega) hn]
 ·rw[yX hn];have hne:=HdOk.ne13 hn;obtain⟨l',rfl,hl'⟩:=iv.lk;obtain⟨f0,f1⟩:=iv.fe (.inr hne);obtain⟨r,o,c1,c2,c3⟩:=z.made hme g (hl' hne) f0 f1
  have hc:ZL yD (Zo A k0 k1 op) (Z3 k0 k1 me) me s.1 s.2.1 s.2.2.2 (lkp me own l') fee sg [] zB hd=some (Tn r):=by
   unfold ZL Xq;rw[show(s.1,s.2.1,([]:yL Cond),s.2.2.2)=s by rw[<-z.e],c2,ya];rfl
  have hsg:Xd yD (Z3 k0 k1 me) (Tn r)=some (sgn (Z3 k0 k1 me) (Tn r)):=ZCX o.wf o.ok o.am;have hfu:∀a b,ZdG yD (Tn r) a b=some ([((z32,0),(0,[a,b],0))],r,2097154):=λa b=>ZLN (by simp) (by have:=o.len;omega) (λx hx=>(o.out x hx).2.2.1) _ a b;rw[c1];unfold Wn
  cases hcs:fnd hd 13 with
  |none=>exact absurd hcs hn
  |some q=>
   rw[Zd3 (by omega),ya,hcs,yX (by simp),hc,ya,hsg,ya];rcases hme with rfl|rfl
   ·rw[yW (by rfl)];exact(by rw[show((([sg,sg]:yL Sig).set (0:Int).toNat (sgn (Z3 k0 k1 0) (Tn r)))[0]?)=some (sgn (Z3 k0 k1 0) (Tn r)) from rfl,show((([sg,sg]:yL Sig).set (0:Int).toNat (sgn (Z3 k0 k1 0) (Tn r)))[1]?)=some sg from rfl,show(([sg,sg]:yL Sig)[(0:Int).toNat]?)=some sg from rfl,ya,ya,ya,hfu,ya];rfl)
   ·rw[yW (by rfl)];exact(by rw[show((([sg,sg]:yL Sig).set (1:Int).toNat (sgn (Z3 k0 k1 1) (Tn r)))[0]?)=some sg from rfl,show((([sg,sg]:yL Sig).set (1:Int).toNat (sgn (Z3 k0 k1 1) (Tn r)))[1]?)=some (sgn (Z3 k0 k1 1) (Tn r)) from rfl,show(([sg,sg]:yL Sig)[(1:Int).toNat]?)=some sg from rfl,ya,ya,ya,hfu,ya];rfl)
theorem ZC4{me:Int}(hme:me=0\/me=1){own:yG}(g:LockOk own/\LockPt own){lk:yL yG}{fee:Int}{zB hd:yL Msg}(iv:Iv op h0 h1 me own lk fee zB hd)(c:Kit)(no:Int)(hv:yL Int)(r:Int)(sg:Sig)(cs:yL Cond):
 Yi yD (Zo A k0 k1 op) c me no hv r lk fee sg cs zB hd=some (YH zB (VL (V0 op me fee) (XQ own)),Zo A k0 k1 op,c,me,no,hv,r,lk,fee,sg,cs,YH zB (VL (V0 op me fee) (XQ own)),hd):=by
 have hsl:=iv.sd.len;have:=Q1 g.1;obtain⟨l',rfl,_⟩:=iv.lk;rw[ZC0 hme (ZAQ hme own l') g.1 g.2 (by omega) iv.sd.byt',(iv.sd.once _ (by omega)).again]
theorem ZKk{me:Int}{own:yG}(g:LockOk own){lk:yL yG}{fee:Int}{zB hd:yL Msg}(iv:Iv op h0 h1 me own lk fee zB hd):Iv op h0 h1 me own lk fee (YH zB (VL (V0 op me fee) (XQ own))) hd:=
 ⟨iv.lk,iv.fe,iv.sd.once _ (by have:=Q1 g;omega),iv.hd⟩
theorem Zr6{l:yL Msg}(h:SdOk l)(c:Zz)(k:Kit)(me no:Int)(hv:yL Int)(r:Int)(lk:yL yG)(fee:Int)(sg:Sig)(cs:yL Cond)(hd:yL Msg):
 ZN yD c k me no hv r lk fee sg cs l hd=some (l,c,k,me,no,hv,r,lk,fee,sg,cs,l,hd):=by
 have:=h.len;rw[Zr4 (by omega) h.byt',h.again]
end
theorem ZC5{l:yL Msg}{j:Nat}{e:Msg}{k:Int}(he:l[j]? =some e)(hj:fnd l k=fnd (l.drop j) k):(e.1=k/\fnd l k=some e)\/(e.1≠k/\fnd l k=fnd (l.drop (j+1)) k):=by
 rw[ZAE he] at hj;unfold fnd at hj ⊢;rw[List.find?_cons] at hj;by_cases h:e.1=k
 ·rw[show(e.1==k)=true by rw[h];exact beq_self_eq_true _] at hj;exact .inl ⟨h,hj⟩
 ·rw[show(e.1==k)=false by rw[beq_eq_false_iff_ne];exact h] at hj;exact .inr ⟨h,hj⟩
theorem ZC6{l:yL Msg}(hl:l.length<=1000000)(kd:Int)(c:Zz)(k:Kit)(me:Int)(s:yH)(lk:yL yG)(fee:Int)(sg:Sig)(hd:yL Msg):
 Wj yD kd c k me s lk fee sg l hd=some ((fnd l kd).isSome,c,k,me,s,lk,fee,sg,l,hd):=by
 unfold Wj
 obtain⟨x,g1,g2⟩:=Ym (step:=Xl yD) l.length (λj q=>q=(kd,(j:Int),c,k,me,s,lk,fee,sg,l,hd)/\fnd l kd=fnd (l.drop j) kd) (λx=>(x=.inr (c,k,me,s,lk,fee,sg,l,hd)/\fnd l kd=none)\/∃e,x=.inl (true,c,k,me,s,lk,fee,sg,l,hd)/\fnd l kd=some e) (i:=(kd,(0:Int),c,k,me,s,lk,fee,sg,l,hd)) ⟨rfl,rfl⟩ (by omega) (by
  rintro j _ hk ⟨rfl,hj⟩;obtain⟨e,he,hm⟩:=Zk hk;unfold Xl;dsimp only;rw[yW (ZV hk),Zq he,ya,Zn (by omega)];rcases ZC5 he hj with⟨h,hf⟩|⟨h,hf⟩
  ·right;rw[yW (beq_iff_eq.2 h)];exact⟨_,rfl,.inr ⟨e,rfl,hf⟩⟩
  ·left;rw[yX (by rw[yT];exact h)];exact⟨_,rfl,rfl,hf⟩) (by
  rintro _ ⟨rfl,hj⟩;unfold Xl;dsimp only;rw[yX (by rw[ZH];decide)];rw[List.drop_length] at hj;exact⟨_,rfl,.inl ⟨rfl,hj⟩⟩)
 rw[g1,ya];rcases g2 with⟨rfl,g2⟩|⟨e,rfl,g2⟩ <;> rw[g2] <;> rfl
theorem Zo0{hd:yL Msg}(hl:hd.length<=1000000)(kd:Int)(c:Zz)(k:Kit)(me:Int)(s:yH)(lk:yL yG)(fee:Int)(sg:Sig)(zB:yL Msg):
 YE yD kd c k me s lk fee sg zB hd=some ((fnd hd kd).getD Zm7,(fnd hd kd).isSome,c,k,me,s,lk,fee,sg,zB,hd):=by
 unfold YE
 obtain⟨x,g1,g2⟩:=Ym (step:=Xa yD) hd.length (λj q=>q=(kd,(j:Int),c,k,me,s,lk,fee,sg,zB,hd,Zm7)/\fnd hd kd=fnd (hd.drop j) kd) (λx=>(x=.inr (c,k,me,s,lk,fee,sg,zB,hd,Zm7)/\fnd hd kd=none)\/∃e,x=.inl (true,c,k,me,s,lk,fee,sg,zB,hd,e)/\fnd hd kd=some e) (i:=(kd,(0:Int),c,k,me,s,lk,fee,sg,zB,hd,Zm7)) ⟨rfl,rfl⟩ (by omega) (by
  rintro j _ hk ⟨rfl,hj⟩;obtain⟨e,he,hm⟩:=Zk hk;unfold Xa;dsimp only;rw[yW (ZV hk),Zq he,ya,Zn (by omega)];rcases ZC5 he hj with⟨h,hf⟩|⟨h,hf⟩
  ·right;rw[yW (beq_iff_eq.2 h),ya];exact⟨_,rfl,.inr ⟨e,rfl,hf⟩⟩
  ·left;rw[yX (by rw[yT];exact h)];exact⟨_,rfl,rfl,hf⟩) (by
  rintro _ ⟨rfl,hj⟩;unfold Xa;dsimp only;rw[yX (by rw[ZH];decide)];rw[List.drop_length] at hj;exact⟨_,rfl,.inl ⟨rfl,hj⟩⟩)
 unfold Zm7 at g1;rw[g1,ya];rcases g2 with⟨rfl,g2⟩|⟨e,rfl,g2⟩ <;> rw[g2] <;> rfl
theorem ZhL{l:yL Msg}(hl:l.length<=1000000)(c:Zz)(k:Kit)(me:Int)(s:yH)(lk:yL yG)(fee:Int)(sg:Sig)(hd:yL Msg):
 Z8 yD c k me s lk fee sg l hd=some (l,c,k,me,s,lk,fee,sg,l,hd):=by
 unfold Z8;rw[yW (ZD (by omega) (by omega))]
section
variable{A:Int}{k0 k1:Kit}{op:Int}{s:yH}{h0 h1:Int}
theorem Zs9{me:Int}(hme:me=0\/me=1){own:yG}(g:LockOk own/\LockPt own){lk:yL yG}{fee:Int}{zB hd:yL Msg}(iv:Iv op h0 h1 me own lk fee zB hd)(c:Kit)(st:yH)(sg:Sig):
 Y2 yD (Zo A k0 k1 op) c me st lk fee sg zB hd=some (YH zB (VL (V0 op me fee) (XQ own)),Zo A k0 k1 op,c,me,st,lk,fee,sg,YH zB (VL (V0 op me fee) (XQ own)),hd):=by
 have hsl:=iv.sd.len;obtain⟨l',rfl,_⟩:=iv.lk;have hlk:=ZAQ hme own l';unfold Y2;rw[ZC6 (by omega),ya];dsimp only;by_cases hf:fnd zB 12=none
 ·have e:YH zB (VL (V0 op me fee) (XQ own))=zB++[VL (V0 op me fee) (XQ own)]:=by
   unfold YH;rw[show(VL (V0 op me fee) (XQ own)).1=12 from rfl,hf]
   rfl
  rw[hf,yW (by rfl),show(Zo A k0 k1 op).2.2.2.2=op from rfl,e]
  by_cases h:me=op
  ·rw[yW (beq_iff_eq.2 h),yW (Ys hme),hlk,ya,Zgc g.1 g.2,ya,yW (ZD (by omega) (by omega)),ZhL (by simp;omega),ya,show V0 op me fee=fee from yW h]
   rfl
  ·rw[yX (by rw[yT];exact h),yW (Ys hme),hlk,ya,Zgc g.1 g.2,ya,yW (ZD (by omega) (by omega)),ZhL (by simp;omega),ya,show V0 op me fee=0 from yX h]
   rfl
 ·have e:YH zB (VL (V0 op me fee) (XQ own))=zB:=by
   unfold YH;rw[show(VL (V0 op me fee) (XQ own)).1=12 from rfl,yW (by rw[Option.isSome_iff_ne_none];exact hf)]
  cases hq:fnd zB 12 with
  |none=>exact absurd hq hf
  |some q=>rw[yX (by simp),ZhL (by omega),ya,e]
theorem ZyU{β:Type}{me:Int}(hme:me=0\/me=1)(h:ChOk A k0 k1 op)(hs:StIn A s h0 h1){zz:yL yG}(hz:zz[me.toNat]? =some [])(fee:Int)(y:Int⊕β):
 (if(!decide (s.2.2.1=[]))=true then some (Sum.inl (14:Int)) else
   if(me==(Zo A k0 k1 op).2.2.2.2)=true then(Xt yD (Zo A k0 k1 op) s fee).bind λo=>
    if(!o)=true then some (Sum.inl 13) else
    if(me !=(Zo A k0 k1 op).2.2.2.2)=true then
     if(fee !=0)=true then some (Sum.inl 13) else if(inB me 2)=true then(zz[me.toNat]?).bind λe=>some y else none
    else if(inB me 2)=true then(zz[me.toNat]?).bind λe=>some y else none
   else
    if(me !=(Zo A k0 k1 op).2.2.2.2)=true then
     if(fee !=0)=true then some (Sum.inl 13) else if(inB me 2)=true then(zz[me.toNat]?).bind λe=>some y else none
    else if(inB me 2)=true then(zz[me.toNat]?).bind λe=>some y else none)=
 if s.2.2.1≠[] then some (Sum.inl 14) else if Zm8 op h0 h1 me fee=false then some (Sum.inl 13) else some y:=by
 rw[show(Zo A k0 k1 op).2.2.2.2=op from rfl,yW (Ys hme),hz]
 by_cases hn:s.2.2.1=[]
 ·rw[yX (by rw[hn];decide),yX (show¬(s.2.2.1≠[]) from λh=>h hn),ZAM h.o hs.hv,ya]
  unfold Zm8;by_cases hm:me=op
  ·rw[yW (beq_iff_eq.2 hm),yW hm,yX (show¬(me !=op)=true by rw[yE];exact λh=>h hm)];cases decide (52<=fee/\fee<=hav op h0 h1) <;> rfl
  ·rw[yX (by rw[yT];exact hm),yX hm,yW (bne_iff_ne.2 hm)];by_cases hf:fee=0
   ·subst hf;rfl
   ·rw[yW (bne_iff_ne.2 hf),yW (by rw[beq_eq_false_iff_ne];exact hf)]
 ·rw[yW (by rw[yZ hn];rfl),yW (show s.2.2.1≠[] from hn)]
theorem ZLO(h:ChOk A k0 k1 op)(hs:StIn A s h0 h1)(hc:hav op h0 h1 >= cost s.2.2.2 s.2.2.1.length){me:Int}(hme:me=0\/me=1){l:yG}(hl:Ze0 l)(fee:Int){r:Bool}(hr:r=true↔LockOk l/\LockPt l):
 ZK yD (Zo A k0 k1 op) (Z3 k0 k1 me) me s l fee=
  if r=false then some (.inl 1) else if s.2.2.1≠[] then some (.inl 14) else if Zm8 op h0 h1 me fee=false then some (.inl 13)
  else some (.inr (0,Zo A k0 k1 op,Z3 k0 k1 me,me,s,([([]:yG),([]:yG)]:yL yG).set me.toNat l,fee,((0:yU),(0:yU)),([]:yL Msg),([]:yL Msg))):=by
 obtain⟨b,e1,e2⟩:=Zd0 hl
 have hb:b=r:=by
  cases b <;> cases r <;> simp_all
 subst hb;have hB:(Zo A k0 k1 op).2.2.1[me.toNat]? =some (Ye (Z3 k0 k1 me)):=by rcases hme with rfl|rfl <;> rfl
 have hO:(Zo A k0 k1 op).2.2.2.2=op:=rfl;have hz:([([]:yG),([]:yG)]:yL yG)[me.toNat]? =some []:=by rcases hme with rfl|rfl <;> rfl
 unfold ZK;rw[e1,ya];have hfront:me=0\/me≠0/\me=1:=by omega
 rcases hfront with q|⟨q,q1⟩
 ·rw[yX (by rw[yE];exact λh=>h q)]
  cases b with
  |false=>rw[yW (by decide),yW rfl]
  |true=>
   rw[yX (by decide),yX (show¬(true=false) by decide),Zw2,ya,yW (Ys hme),hB,ya,yX (by simp),ZAL h hs hc,ya];exact ZyU hme h hs hz fee _
 ·rw[yW (bne_iff_ne.2 q),yX (by rw[yE];exact λh=>h q1)]
  cases b with
  |false=>rw[yW (by decide),yW rfl]
  |true=>
   rw[yX (by decide),yX (show¬(true=false) by decide),Zw2,ya,yW (Ys hme),hB,ya,yX (by simp),ZAL h hs hc,ya];exact ZyU hme h hs hz fee _
end
end Go.Proofs.YtdhclndplbopgaaGreat
end
section
set_option maxRecDepth 4000
namespace Go.Proofs.YtdhclndplbopgaaGreat
open Go Go.Ev
open Classical in
theorem rb1(p:Int)(c:Zz)(k:Kit)(me:Int)(s:yH)(lk:yL yG)(fee:Int)(sg:Sig)(zB hd:yL Msg)(m:Msg):
 XK yD (p,(fnd hd 12).isSome,c,k,me,s,lk,fee,sg,zB,hd,m,(fnd hd 12).getD Zm7)=
  if∃o,fnd hd 12=some o/\¬(byt o=byt m/\rat o=rat m) then some (.inl ([],4,c,k,me,s,lk,fee,sg,zB,hd,m,(fnd hd 12).getD Zm7)) else some (.inr (p,(fnd hd 12).isSome,c,k,me,s,lk,fee,sg,zB,hd,m,(fnd hd 12).getD Zm7)):=by
 unfold XK;dsimp only
 cases hf:fnd hd 12 with
 |none=>
  rw[yX (by simp),yX (by rintro⟨o,h,_⟩;cases h)]
 |some o=>
  rw[yW (by rfl),show Option.getD (some o) Zm7=o from rfl,show o.2.2.2.2.2.2.2.2.2.2.2.2.2=byt o from rfl,show m.2.2.2.2.2.2.2.2.2.2.2.2.2=byt m from rfl,Zmm,show o.2.2.2.2.2.2.1=rat o from rfl,show m.2.2.2.2.2.2.1=rat m from rfl]
  by_cases hq:byt o=byt m
  ·rw[yY hq,yX (by decide)];by_cases hr:rat o=rat m
   ·rw[yX (by rw[yE];exact λh=>h hr),yX (by rintro⟨o',h,hn⟩;cases h;exact hn ⟨hq,hr⟩)]
   ·rw[yW (bne_iff_ne.2 hr),yW ⟨o,rfl,λh=>hr h.2⟩]
  ·rw[yZ hq,yW (by decide),yW ⟨o,rfl,λh=>hq h.1⟩]
section
variable{A:Int}{k0 k1:Kit}{op:Int}{s:yH}{h0 h1:Int}
theorem rb3(z:Cz A k0 k1 op s h0 h1)(p:Int)(w:Bool)(k:Kit)(me:Int)(lk:yL yG)(fee:Int)(sg:Sig)(zB hd:yL Msg)(m o:Msg)(l:yG):
 XL yD (p,w,Zo A k0 k1 op,k,me,s,lk,fee,sg,zB,hd,m,o,l)=
  if Zm8 op h0 h1 p (rat m)=false then some (.inl ([],13,Zo A k0 k1 op,k,me,s,lk,fee,sg,zB,hd,m,o,l)) else some (.inr (p,w,Zo A k0 k1 op,k,me,s,lk,fee,sg,zB,hd,m,o,l)):=by
 unfold XL;dsimp only;rw[show(Zo A k0 k1 op).2.2.2.2=op from rfl,ZAM z.c.o z.st.hv,ya,show m.2.2.2.2.2.2.1=rat m from rfl]
 unfold Zm8;by_cases hm:p=op
 ·rw[yW (beq_iff_eq.2 hm),yW hm,yX (show¬(p !=op)=true by rw[yE];exact λh=>h hm)];cases decide (52<=rat m/\rat m<=hav op h0 h1) <;> rfl
 ·rw[yX (by rw[yT];exact hm),yX hm,yW (bne_iff_ne.2 hm)];by_cases hf:rat m=0
  ·rw[hf];rfl
  ·rw[yW (bne_iff_ne.2 hf),yW (by rw[beq_eq_false_iff_ne];exact hf)]
theorem rb4{m:Msg}(hm:m.1=12)(hb:(byt m).length<=2000000){hd:yL Msg}(hl:hd.length<=100)(p:Int)(c:Zz)(k:Kit)(me:Int)(lk:yL yG)(fee:Int)(sg:Sig)(zB:yL Msg)(o:Msg)(l:yG):
 XM yD (p,(fnd hd 12).isSome,c,k,me,s,lk,fee,sg,zB,hd,m,o,l)=some (p,c,k,me,s,lk,fee,sg,zB,YH hd m,m,o,l):=by
 have hb':m.2.2.2.2.2.2.2.2.2.2.2.2.2.length<=2000000:=hb;unfold XM YH;dsimp only;rw[hm]
 cases hf:fnd hd 12 with
 |none=>
  rw[yW (by rfl),yW (ZD (by omega) (by omega)),yW (ZD (by omega) (by omega)),yX (by simp),show ZKh m=(m.1,0,0,(0,0,0,0,0),0,[],m.2.2.2.2.2.2.1,m.2.2.2.2.2.2.2.1,yzz,0,([],[],0),(0,0,0,0,0),(0,0,0,0,0,0),m.2.2.2.2.2.2.2.2.2.2.2.2.2) from rfl,hm]
 |some q=>rw[yX (by simp),yW (by rfl)]
theorem rb5(p:Int)(k:Kit)(me:Int)(lk:yL yG)(fee:Int)(sg:Sig)(zB hd:yL Msg)(m o:Msg)(l:yG):
 XN yD (p,Zo A k0 k1 op,k,me,s,lk,fee,sg,zB,hd,m,o,l)=some (Zo A k0 k1 op,k,me,s,lk,if p=op then rat m else fee,sg,zB,hd,m,o,l):=by
 unfold XN;dsimp only;rw[show(Zo A k0 k1 op).2.2.2.2=op from rfl]
 by_cases h:p=op
 ·rw[yW (beq_iff_eq.2 h),yW h];rfl
 ·rw[yX (by rw[yT];exact h),yX h]
theorem rb6{k:Kit}{lk:yL yG}{fee:Int}{r:yL Out}(o:TnOk r)(hmk:YL yD (Zo A k0 k1 op) s lk fee=some (Tn r,0)){zB:yL Msg}(hl:zB.length<=100)(me:Int)(sg:Sig)(hd:yL Msg)(m q:Msg)(l:yG):
 XO yD (Zo A k0 k1 op,k,me,s,lk,fee,sg,zB,hd,m,q,l)=some (Zo A k0 k1 op,k,me,s,lk,fee,sg,YH zB (byM (sgn k (Tn r))),hd,m,q,l):=by
 have hsg:XS yD k (Tn r)=some (sgn k (Tn r)):=ZyR o.wf o.ok o.am;unfold XO YH;dsimp only;rw[ZC6 (by omega),ya,show(byM (sgn k (Tn r))).1=13 from rfl]
 dsimp only
 cases hf:fnd zB 13 with
 |none=>
  rw[yW (by rfl),hmk,ya];dsimp only;rw[hsg,ya,yW (ZD (by omega) (by omega)),yX (by simp)]
  rfl
 |some q=>rw[yX (by simp),yW (by rfl)]
theorem ZP4{m:Msg}(hm:m.1=13)(hb:(byt m).length<=2000000){hd:yL Msg}(hl:hd.length<=100)(c:Zz)(k:Kit)(me:Int)(lk:yL yG)(fee:Int)(sg:Sig)(zB:yL Msg)(o:Msg)(t:Tx)(u:Msg):
 Wl yD ((fnd hd 13).isSome,c,k,me,s,lk,fee,sg,zB,hd,m,o,t,u)=some (c,k,me,s,lk,fee,sg,zB,YH hd m,m,o,t,u):=by
 have hb':m.2.2.2.2.2.2.2.2.2.2.2.2.2.length<=2000000:=hb;unfold Wl YH;dsimp only;rw[hm]
 cases hf:fnd hd 13 with
 |none=>
  rw[yW (by rfl),yW (ZD (by omega) (by omega)),yW (ZD (by omega) (by omega)),yX (by simp),show ZKh m=(m.1,0,0,(0,0,0,0,0),0,[],m.2.2.2.2.2.2.1,m.2.2.2.2.2.2.2.1,yzz,0,([],[],0),(0,0,0,0,0),(0,0,0,0,0,0),m.2.2.2.2.2.2.2.2.2.2.2.2.2) from rfl,hm]
 |some q=>rw[yX (by simp),yW (by rfl)]
theorem ZC7(z:Cz A k0 k1 op s h0 h1){me:Int}(hme:me=0\/me=1){own:yG}(g:LockOk own/\LockPt own){lk:yL yG}{fee:Int}{zB hd:yL Msg}(iv:Iv op h0 h1 me own lk fee zB hd){m:Msg}(hb:(byt m).length<=2000000)(sg:Sig):
 Wm yD m (Zo A k0 k1 op) (Z3 k0 k1 me) me s lk fee sg zB hd=
  (λr:yL Msg×Int×Es=>some (r.1,r.2.1,Zo A k0 k1 op,Z3 k0 k1 me,me,s,r.2.2.1,r.2.2.2.1,r.2.2.2.2.1,r.2.2.2.2.2.1,r.2.2.2.2.2.2)) (tkF op h0 h1 me (Z3 k0 k1 me) (Z3 k0 k1 (1 - me)) own m lk fee sg zB hd):=by
 have hl:=iv.hd.len;have hsl:=iv.sd.len;have hr:WF yD m.2.2.2.2.2.2.2.2.2.2.2.2.2=some (rdF (byt m)):=ZJ9 hb;obtain⟨l',el,hl'⟩:=iv.lk;obtain⟨e1,e2,e3,e4⟩:=ZAR hme own l' (rdF (byt m)).1;rw[e4] at e1 e2 e3;unfold tkF Wm V1;dsimp only;rw[e4];by_cases h12:m.1=12
 ·rw[yW h12,yW (by rw[h12];rfl),Zo0 (by omega),ya];dsimp only;rw[rb1];by_cases hT:∃o,fnd hd 12=some o/\¬(byt o=byt m/\rat o=rat m)
  ·rw[yW hT,yW hT,ya,ya]
  ·rw[yX hT,yX hT,ya];dsimp only;rw[hr,ya];by_cases h2:(rdF (byt m)).2=false
   ·rw[yW (by rw[h2];rfl),yW h2,ya]
   ·rw[yX (by rw[Bool.not_eq_false] at h2;rw[h2];decide),yX h2,rb3 z];rw[Bool.not_eq_false] at h2;by_cases h3:Zm8 op h0 h1 (1 - me) (rat m)=false
    ·rw[yW h3,yW h3,ya,ya]
    ·rw[yX h3,yX h3,ya];rw[Bool.not_eq_false] at h3;dsimp only;rw[rb4 h12 hb (by omega),ya];dsimp only;obtain⟨f0,f1⟩:=ZEL z hme iv h3;obtain⟨r,o,c1,c2,c3⟩:=z.made hme g (ZGc h2) f0 f1;obtain⟨o1,o2⟩:=iv.hd.once12 h12;have iv':Iv op h0 h1 me own (lkp me own (rdF (byt m)).1) (if 1 - me=op then rat m else fee) zB (YH hd m):=⟨⟨_,rfl,λ_=>ZGc h2⟩,λ_=>⟨f0,f1⟩,iv.sd,o1⟩
     have:=(ZKk g.1 iv').sd.len;rw[el,e3,yW rfl,e2,ya,e1,rb5,ya];dsimp only;rw[Zs9 hme g iv',ya];dsimp only;rw[rb6 o c3 (by omega),ya,c1];dsimp only;rw[show YH (YH zB (VL (V0 op me (if 1 - me=op then rat m else fee)) (XQ own))) (byM (sgn (Z3 k0 k1 me) (Tn r)))=said2 op me (if 1 - me=op then rat m else fee) own (sgn (Z3 k0 k1 me) (Tn r)) zB from rfl]
     have hs2:=(iv.sd.said2 op me (if 1 - me=op then rat m else fee) g.1 (sgn (Z3 k0 k1 me) (Tn r))).len
     rw[ZhL (by omega),ya,ya]
 ·rw[yX h12,yX (by rw[yT];exact h12),ya];dsimp only;by_cases h13:m.1=13
  ·rw[yW h13,yX (by rw[yE];exact λh=>h h13),Zo0 (by omega),ya];dsimp only;by_cases hn:fnd hd 12=none
   ·rw[yW hn,hn,yW (by rfl)]
   ·rw[yX hn];have hne:=HdOk.ne12 hn;obtain⟨f0,f1⟩:=iv.fe (.inr hne);obtain⟨r,o,c1,c2,c3⟩:=z.made hme g (hl' hne) f0 f1;subst el;have hB:(Zo A k0 k1 op).2.2.1[(1 - me).toNat]? =some (Ye (Z3 k0 k1 (1 - me))):=by rcases hme with rfl|rfl <;> rfl
    rw[yX (by cases hq:fnd hd 12 with|none=>exact absurd hq hn|some q=>simp),c3,ya,e3,yW rfl,hB,ya];dsimp only;rw[show Vw yD (Tn r)=_ from ZKa o.wf o.ok o.am,ya,c1,show(Ye (Z3 k0 k1 (1 - me))).1=B (Z3 k0 k1 (1 - me)).1.toNat from rfl,show m.2.2.2.2.2.2.2.1=ZC1 m from rfl,ZEH _ (Zs8 o.wf o.ok o.am),ya]
    show(if(!Zw0 (B (Z3 k0 k1 (1 - me)).1.toNat) (Zg3 (VX (Tn r))) (ZC1 m))=true then _ else _)=_
    cases hv:Zw0 (B (Z3 k0 k1 (1 - me)).1.toNat) (Zg3 (VX (Tn r))) (ZC1 m) with
    |false=>rw[yW (by decide),yW rfl]
    |true=>
     rw[yX (by decide),Zo0 (by omega),ya];dsimp only;rw[ZP4 h13 hb (by omega),ya,yX (by decide)];rfl
  ·rw[yX h13,yW (bne_iff_ne.2 h13)]
theorem ZC8(z:Cz A k0 k1 op s h0 h1){me:Int}(hme:me=0\/me=1){own:yG}(g:LockOk own/\LockPt own){lk:yL yG}{fee:Int}{zB hd:yL Msg}(iv:Iv op h0 h1 me own lk fee zB hd)(sg:Sig):
 Wo yD (Zo A k0 k1 op) (Z3 k0 k1 me) me s lk fee sg zB hd=
  (λr:Tx×Bool=>some (r.1,r.2,Zo A k0 k1 op,Z3 k0 k1 me,me,s,lk,fee,sg,zB,hd)) (dnF op h0 h1 me (Z3 k0 k1 me) lk fee sg hd):=by
 have hl:=iv.hd.len;unfold dnF Wo;rw[Zo0 (by omega),ya];dsimp only;by_cases hn:fnd hd 13=none
 ·rw[yW hn,hn,yW (by rfl)]
 ·rw[yX hn];have hne:=HdOk.ne13 hn;obtain⟨l',rfl,hl'⟩:=iv.lk;obtain⟨f0,f1⟩:=iv.fe (.inr hne);obtain⟨r,o,c1,c2,c3⟩:=z.made hme g (hl' hne) f0 f1;have hsg:XS yD (Z3 k0 k1 me) (Tn r)=some (sgn (Z3 k0 k1 me) (Tn r)):=ZyR o.wf o.ok o.am;have hfu:∀a b,WG yD (Tn r) a b=some ([((z32,0),(0,[a,b],0))],r,2097154):=λa b=>ZKc _ _ _ a b;rw[yX (by cases hq:fnd hd 13 with|none=>exact absurd hq hn|some q=>simp),c3,ya,c1];dsimp only;rw[hsg,ya,hfu,hfu,ya,ya];rcases hme with rfl|rfl <;> rfl
end
end Go.Proofs.YtdhclndplbopgaaGreat
end
