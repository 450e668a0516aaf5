/- Parts of the proof, in one file. -/
import Derived.Test.YtghfiijgklnflaaGreatKh
open Go.Proofs.Tryz renaming prog → yc
open List renaming replicate → yac
set_option linter.unusedVariables false
section
set_option maxRecDepth 4000
namespace Go.Proofs.YtghfiijgklnflaaGreat
open Go Go.Ev
noncomputable section
def Q6(F:Nat)(a0:(yL Ze)):yO (((yL Unit)×(yL Ze))):=
 if(apB 0 a0.length 40)=true then
  some ([()],a0)
 else
 none
def Znw:Fs yc:=⟨65,[.sl true Zd],[],[(.sl Zd)],[⟨.ret,[(0,.rw 0)],[.row Zd true 36],[(.sl (.st [])),(.sl Zd)]⟩],λx=>Q6 yD x⟩
theorem Zmz:Znw.Ok:=fnO { own:=[5,7],rowt:=[2,5,7]} [] [] trivial
def V7(F:Nat)(a0:(yL Ze)):yO (((yL Unit)×(yL Ze))):=if a0.isEmpty=true then none else Q6 F a0
def ZaF:Fs yc:=⟨65,[.v (.sl Zd)],[],[(.sl Zd)],[⟨.ret,[(0,.rw 0)],[.row Zd true 36],[(.sl (.st [])),(.sl Zd)]⟩],λx=>V7 yD x⟩
theorem Zdr:ZaF.Ok:=ZId (t:=Zd) (xs:=[⟨.ret,[(0,.rw 0)],[.row Zd true 36],[(.sl (.st [])),(.sl Zd)]⟩]) (MA:=λ(x:(yL Ze))=>Q6 yD x) Zmz rfl (λ_ _=>rfl)
def ZLi:HI:={ still:=[4,20,22,24],rowt:=[21]}
def ZV(F:Nat)(a1:Int)(s0_0:Int)(s0_1:Int)(s0_2:Bool)(s1_0:(yL Unit))(s1_1:(yL Ze)):yO ((Bool×Int×Int×Bool×(yL Unit)×(yL Ze))⊕(Bool×Int×Int×Bool×(yL Unit)×(yL Ze)×(yL Unit)×(yL Ze))):=
 if(decide (a1 < 0))=true then
  some (.inl (false,s0_0,s0_1,s0_2,s1_0,s1_1))
 else
 if(decide (a1 >= (s1_1.length:Int)))=true then
  some (.inl (false,s0_0,s0_1,s0_2,s1_0,s1_1))
 else
 if(VZ s1_1.length none (some a1))=true then
  if(apB 0 ((s1_1.take a1.toNat).length) 40)=true then
   if(VZ s1_1.length (some (wi (a1+1))) none)=true then
    if(apB ((s1_1.take a1.toNat).length) ((s1_1.drop ((wi (a1+1)).toNat)).length) 40)=true then
     let y712:(yL Ze):=(s1_1.take a1.toNat)++(s1_1.drop ((wi (a1+1)).toNat))
     some (.inr (true,s0_0,s0_1,s0_2,s1_0,s1_1,[(),()],y712))
    else
    none
   else
   none
  else
  none
 else
 none
abbrev zQ:List ESh:=[.var (.agg [.v yI,.v yI,.rw 1,.v .bool]) true,.row Zd true 36]
def Za3:Fs yc:=⟨19,[.ref 0 [],.v yI],zQ,[yI,yI,yI,.bool,(.sl (.st [])),(.sl Zd)],[⟨.ret,[(0,.v .bool)],zQ,[.bool,yI,yI,.bool,(.sl (.st [])),(.sl Zd)]⟩,⟨.ret,[(0,.v .bool)],[.var (.agg [.v yI,.v yI,.rw 2,.v .bool]) true,.row Zd false 36,.row Zd true 36],[.bool,yI,yI,.bool,(.sl (.st [])),(.sl Zd),(.sl (.st [])),(.sl Zd)]⟩],λx=>ZV yD x.1 x.2.1 x.2.2.1 x.2.2.2.1 x.2.2.2.2.1 x.2.2.2.2.2⟩
def ZLK:HI:={ own:=[5,24,25,33],still:=[4],rowt:=[17]}
theorem ZgW:Za3.Ok:=ZiA (fi:={ hi:=ZLK,gh:=[(4,.done 0)]}) (specs:={ l:=[]}) (okS trivial)
abbrev qL:=Int×Int×Unit×(yL Unit)×(yL Ze)
def ZB(F:Nat)(s0_0:Int)(s0_1:Int)(s0_2:Unit)(s1_0:(yL Unit))(s1_1:(yL Ze)):yO ((Int×qL)):=
 some ((s1_1.length:Int),s0_0,s0_1,s0_2,s1_0,s1_1)
def ZfA:Fs yc:=⟨28,[.ref 0 []],[.var (.agg [.v yI,.v yI,.rw 1,.iface 96 (.v (.st []))]) true,.row Zd true 36],[yI,yI,(.st []),(.sl (.st [])),(.sl Zd)],[⟨.ret,[(0,.v yI)],[.var (.agg [.v yI,.v yI,.rw 1,.iface 96 (.v (.st []))]) true,.row Zd true 36],[yI,yI,yI,(.st []),(.sl (.st [])),(.sl Zd)]⟩],λx=>ZB yD x.1 x.2.1 x.2.2.1 x.2.2.2.1 x.2.2.2.2⟩
theorem ZlK:ZfA.Ok:=fnO { still:=[2]} [] [] trivial
def Zw(F:Nat)(s0_0:Int)(s0_1:Int)(s0_2:Unit)(s1_0:(yL Unit))(s1_1:(yL Ze)):yO ((Int×qL)):=
 some ((s1_1.length:Int),s0_0,s0_1,s0_2,s1_0,s1_1)
def ZcN:Fs yc:=⟨28,[.ref 0 []],[.var (.agg [.v yI,.v yI,.rw 1,.iface 105 (.v (.st []))]) true,.row Zd true 36],[yI,yI,(.st []),(.sl (.st [])),(.sl Zd)],[⟨.ret,[(0,.v yI)],[.var (.agg [.v yI,.v yI,.rw 1,.iface 105 (.v (.st []))]) true,.row Zd true 36],[yI,yI,yI,(.st []),(.sl (.st [])),(.sl Zd)]⟩],λx=>Zw yD x.1 x.2.1 x.2.2.1 x.2.2.2.1 x.2.2.2.2⟩
theorem Zi3:ZcN.Ok:=fnO { still:=[2]} [] [] trivial
theorem ZAU:ZnC yc 96 "corsned/tower.look" 224:=λv args w=>by kernel_rfl
abbrev dT8:Type:=((yL Tx)×Int×Int×(yL Ze)×Int×Int×Int×Int×Unit×(yL Unit)×(yL Ze)×Unit×(yL ((yL yB)×(yL Ze)))×(yL Tx)×Tx×(yL yB))
abbrev dT9:Type:=((yL Tx)×Int×Int×Int×Int×Unit×(yL Unit)×(yL Ze)×Unit×(yL ((yL yB)×(yL Ze)))×(yL Tx)×Tx×(yL yB))
abbrev ZLL:yL Ty:=[(.sl yTx),yI,yI,yI,yI,(.st []),(.sl (.st [])),(.sl Zd),(.st []),(Zks (.arr 16 .u8) (.sl Zd)),(.sl yTx),yTx,(.arr 32 .u8)]
abbrev ZLM:yL Ty:=[(.sl yTx),yI,yI,(.sl Zd),yI,yI,yI,yI,(.st []),(.sl (.st [])),(.sl Zd),(.st []),(Zks (.arr 16 .u8) (.sl Zd)),(.sl yTx),yTx,(.arr 32 .u8)]
def ZKk:HI:={ own:=[10,33,37,76,79],still:=[6,46,49,52,61,62,64,71]}
abbrev ZLj:Type:=((yL Tx)×Int×Int×Int×Int×Unit×(yL Unit)×(yL Ze)×Unit×(yL ((yL yB)×(yL Ze)))×(yL Tx))
abbrev ZLN:Type:=(Int×Int×Unit×(yL Unit)×(yL Ze)×Unit×(yL ((yL yB)×(yL Ze)))×(yL Tx))
abbrev ZLO:yL Ty:=[yI,yI,(.st []),(.sl (.st [])),(.sl Zd),(.st []),(Zks (.arr 16 .u8) (.sl Zd)),(.sl yTx)]
abbrev ZLP:yL Ty:=[(.sl yTx),yI,yI,yI,yI,(.st []),(.sl (.st [])),(.sl Zd),(.st []),(Zks (.arr 16 .u8) (.sl Zd)),(.sl yTx)]
abbrev ZLk:Type:=((yL Tx)×Int×Bool×Int×Int×Int×Bool×(yL Unit)×(yL Ze)×(yL Tx)×(yL yB))
def ZK(F:Nat):ZLk->yO (ZLk⊕((yL Tx)×Int×Int×Int×Bool×(yL Unit)×(yL Ze)×(yL Tx)×(yL yB)))
 |(e,f,c,a,g,h,i,j,b,k,d)=>
 let y758:Bool:=decide (a < (b.length:Int))
 if y758=true then
  if c=true then
   if(inB a b.length)=true then
    (b[a.toNat]?).bind λe759=>
    (Vf F d).bind λo760=>
    if(!(decide (e759.1=o760)))=true then
     some (.inl (e,f,c,wi (a+1),g,h,i,j,b,k,d))
    else
    (VF F d).bind λo761=>
    if(inB a b.length)=true then
     (b[a.toNat]?).bind λe762=>
     (QC F o761 e762.2).bind λo763=>
     if(!o763.2)=true then
      some (.inl (e,f,c,wi (a+1),g,h,i,j,b,k,d))
     else
     (XE F o763.1).bind λo764=>
     if o764.2=true then
      if(apB k.length 1 56)=true then
       some (.inl (e,f,c,wi (a+1),g,h,i,j,b,k++([o764.1]:yL Tx),d))
      else
      none
     else
     some (.inl (e,f,c,wi (a+1),g,h,i,j,b,k,d))
    else
    none
   else
   none
  else
  some (.inr (e,f,g,h,i,j,b,k,d))
 else
 some (.inr (e,f,g,h,i,j,b,k,d))
abbrev ZLQ:yL Ty:=[(.sl yTx),yI,yI,yI,.bool,(.sl (.st [])),(.sl Zd),(.sl yTx),(.arr 32 .u8)]
abbrev ZLR:yL Ty:=[(.sl yTx),yI,.bool,yI,yI,yI,.bool,(.sl (.st [])),(.sl Zd),(.sl yTx),(.arr 32 .u8)]
abbrev zD:List ESh:=[.var (.agg [.v yI,.v yI,.rw 1,.v .bool]) true,.row Zd true 36,.log yTx 57,.var (.v (.arr 32 .u8)) true]
def ZaG:Lp:=⟨[(0,.ref 0 []),(1,.v (.sl yTx)),(5,.own 2 yTx),(6,.v yI),(7,.v .bool),(8,.ref 3 []),(9,.v yI)],zD,ZLR,[⟨.exit 2,[(0,.ref 0 []),(1,.v (.sl yTx)),(5,.own 2 yTx),(6,.v yI)],zD,ZLQ⟩],Zf (ZK yD) yD⟩
def ZKl:HI:={ own:=[5,82,85],still:=[4,30,35,57,61,62,70,77]}
theorem ZeS:ZaG.okA yc 23 1:=Zy ZKl [] [Za8,Zbx,Zft,Zfv] ⟨ZeA,Zfn,ZlC,ZlE,ytt⟩
def Z2(F:Nat):((yL Tx)×Int×Int×Int×Bool×(yL Unit)×(yL Ze)×(yL Tx))->yO (((yL Tx)×Int×Int×Int×Bool×(yL Unit)×(yL Ze)×(yL Tx))⊕(Int×Int×Bool×(yL Unit)×(yL Ze)×(yL Tx)))
 |(j,i,l,m,k,n,o,p)=>
 if(decide (i < (j.length:Int)))=true then
  if(!k)=true then
   (idx j i).bind λe754=>
   (Z0 F e754).bind λo755=>
   (idx j i).bind λe756=>
   (Za0 F e756).bind λo757=>
   (Zf (ZK F) F (j,i,o755,0,l,m,k,n,o,p,o757)).bind λ(a,b,c,d,e,f,g,h,_)=>
   some (.inl (a,wi (b+1),c,d,e,f,g,h))
  else
  some (.inr (l,m,k,n,o,p))
 else
 some (.inr (l,m,k,n,o,p))
def ZaH:Lp:=⟨[(0,.ref 0 []),(1,.v (.sl yTx)),(5,.own 2 yTx),(6,.v yI)],[.var (.agg [.v yI,.v yI,.rw 1,.v .bool]) true,.row Zd true 36,.log yTx 57],[(.sl yTx),yI,yI,yI,.bool,(.sl (.st [])),(.sl Zd),(.sl yTx)],[⟨.exit 0,[(5,.own 2 yTx)],[.var (.agg [.v yI,.v yI,.rw 1,.v .bool]) true,.row Zd true 36,.log yTx 57],[yI,yI,.bool,(.sl (.st [])),(.sl Zd),(.sl yTx)]⟩],Zf (Z2 yD) yD⟩
theorem ZeT:ZaH.okA yc 23 0:=Zy ZKl [(1,ZaG)] [WB,ZhT] ⟨Vp,Znu,ytt⟩ ⟨ZeS,ytt⟩
def Yn(F:Nat)(a1:(yL Tx))(s0_0:Int)(s0_1:Int)(s0_2:Bool)(s1_0:(yL Unit))(s1_1:(yL Ze)):yO (((yL Tx)×Int×Int×Bool×(yL Unit)×(yL Ze))):=
 (Zf (Z2 F) F (a1,0,s0_0,s0_1,s0_2,s1_0,s1_1,[])).bind λ(b,c,d,e,f,a)=>
 some (a,b,c,d,e,f)
def Za4:Fs yc:=⟨23,[.ref 0 [],.v (.sl yTx)],zQ,[(.sl yTx),yI,yI,.bool,(.sl (.st [])),(.sl Zd)],[⟨.ret,[(0,.v (.sl yTx))],zQ,[(.sl yTx),yI,yI,.bool,(.sl (.st [])),(.sl Zd)]⟩],λx=>Yn yD x.1 x.2.1 x.2.2.1 x.2.2.2.1 x.2.2.2.2.1 x.2.2.2.2.2⟩
theorem ZgX:Za4.Ok:=fnO ZKl [(0,ZaH)] [] trivial ⟨ZeT,ytt⟩
theorem ZAV:ZnC yc 96 "corsned/tower.prove" 225:=λv args w=>by kernel_rfl
abbrev ZLl:Type:=(Int×Int×Int×Int×Unit×(yL Unit)×(yL Ze)×Unit×(yL yB)×(yL yB)×(yL yB)×(yL yB))
abbrev ZLS:Type:=(Bool×Int×Int×Unit×(yL Unit)×(yL Ze)×Unit×(yL yB)×(yL yB)×(yL yB)×(yL yB))
abbrev ZLT:Type:=(Int×Int×Unit×(yL Unit)×(yL Ze)×Unit×(yL yB)×(yL yB)×(yL yB)×(yL yB))
abbrev ZLU:yL Ty:=[.bool,yI,yI,(.st []),(.sl (.st [])),(.sl Zd),(.st []),(.arr 32 .u8),(.arr 16 .u8),(.arr 32 .u8),(.arr 32 .u8)]
abbrev ZLV:yL Ty:=[yI,yI,(.st []),(.sl (.st [])),(.sl Zd),(.st []),(.arr 32 .u8),(.arr 16 .u8),(.arr 32 .u8),(.arr 32 .u8)]
abbrev ZLW:yL Ty:=[yI,yI,yI,yI,(.st []),(.sl (.st [])),(.sl Zd),(.st []),(.arr 32 .u8),(.arr 16 .u8),(.arr 32 .u8),(.arr 32 .u8)]
def ZCp:ByteArray:=⟨#[108,105,101]⟩
abbrev ZLm:Type:=(Int×Int×Int×Bool×(yL Unit)×(yL Ze)×(yL yB)×(yL yB)×(yL yB)×(yL yB))
abbrev ZLX:Type:=(Bool×Int×Int×Bool×(yL Unit)×(yL Ze)×(yL yB)×(yL yB)×(yL yB)×(yL yB))
abbrev ZLY:Type:=(Int×Int×Bool×(yL Unit)×(yL Ze)×(yL yB)×(yL yB)×(yL yB)×(yL yB))
def YG(F:Nat):ZLm->yO (ZLm⊕(ZLX⊕ZLY))
 |(a,f,g,h,i,b,e,c,d,j)=>
 if(decide (a < (b.length:Int)))=true then
  if(inB a b.length)=true then
   (b[a.toNat]?).bind λe780=>
   if(decide (e780.1=c))=true then
    if(inB a b.length)=true then
     (b[a.toNat]?).bind λe781=>
     (X1 F e781.2).bind λo782=>
     if(decide (o782=d))=true then
      if(inB a b.length)=true then
       (b[a.toNat]?).bind λe783=>
       (Wa F e e783).bind λo784=>
       some (.inr (.inl (true,f,g,h,i,b,e,c,d,o784)))
      else
      none
     else
     some (.inl (wi (a+1),f,g,h,i,b,e,c,d,j))
    else
    none
   else
   some (.inl (wi (a+1),f,g,h,i,b,e,c,d,j))
  else
  none
 else
 some (.inr (.inr (f,g,h,i,b,e,c,d,j)))
def ZKm:yL ESh:=[.var (.agg [.v yI,.v yI,.rw 1,.v .bool]) true,.row Zd true 36,.var (.v (.arr 32 .u8)) true,.var (.v (.arr 16 .u8)) true,.var (.v (.arr 32 .u8)) true,.var (.v (.arr 32 .u8)) true]
abbrev ZLZ:yL Ty:=[.bool,yI,yI,.bool,(.sl (.st [])),(.sl Zd),(.arr 32 .u8),(.arr 16 .u8),(.arr 32 .u8),(.arr 32 .u8)]
abbrev ZL0:yL Ty:=[yI,yI,.bool,(.sl (.st [])),(.sl Zd),(.arr 32 .u8),(.arr 16 .u8),(.arr 32 .u8),(.arr 32 .u8)]
abbrev ZL1:yL Ty:=[yI,yI,yI,.bool,(.sl (.st [])),(.sl Zd),(.arr 32 .u8),(.arr 16 .u8),(.arr 32 .u8),(.arr 32 .u8)]
def Q7:Lp:=⟨[(0,.ref 0 []),(5,.ref 2 []),(6,.ref 3 []),(7,.ref 4 []),(8,.ref 5 []),(10,.v yI)],ZKm,ZL1,[⟨.ret,[(8,.ref 5 []),(9,.v .bool)],ZKm,ZLZ⟩,⟨.exit 0,[(8,.ref 5 [])],ZKm,ZL0⟩],Zf (YG yD) yD⟩
def ZLn:HI:={ still:=[9,15,16,18,47,52,59]}
theorem ZdS:Q7.okA yc 25 0:=Zy ZLn [] [Zbw,Zaw] ⟨Zfk,Zc9,ytt⟩
def Yi(F:Nat)(a1:(yL yB))(a2:(yL yB))(a3:(yL yB))(s0_0:Int)(s0_1:Int)(s0_2:Bool)(s1_0:(yL Unit))(s1_1:(yL Ze)):yO (((yL yB)×Bool×Int×Int×Bool×(yL Unit)×(yL Ze))):=
 if s0_2=true then
  (Ys F [] a1).bind λo778=>
  (YA F ZCp [o778]).bind λo779=>
  some (o779,true,s0_0,s0_1,s0_2,s1_0,s1_1)
 else
 (Zf (YG F) F (0,s0_0,s0_1,s0_2,s1_0,s1_1,a1,a2,a3,yzz)).bind λo785=>
 match o785 with
 |.inl (b,c,d,e,f,g,_,_,_,a)=>
  some (a,b,c,d,e,f,g)
 |.inr (a,b,c,d,e,_,_,_,_)=>
  some (yzz,false,a,b,c,d,e)
def ZaI:Fs yc:=⟨25,[.ref 0 [],.v (.arr 32 .u8),.v (.arr 16 .u8),.v (.arr 32 .u8)],zQ,[(.arr 32 .u8),(.arr 16 .u8),(.arr 32 .u8),yI,yI,.bool,(.sl (.st [])),(.sl Zd)],[⟨.ret,[(0,.tup [.v (.arr 32 .u8),.v .bool])],zQ,[(.arr 32 .u8),.bool,yI,yI,.bool,(.sl (.st [])),(.sl Zd)]⟩],λx=>Yi yD x.1 x.2.1 x.2.2.1 x.2.2.2.1 x.2.2.2.2.1 x.2.2.2.2.2.1 x.2.2.2.2.2.2.1 x.2.2.2.2.2.2.2⟩
theorem ZfX:ZaI.Ok:=fnO ZLn [(0,Q7)] [Y9,Y2] ⟨XJ,Xj,ytt⟩ ⟨ZdS,ytt⟩
def ZfY(F:Nat)(a0:(yL yB))(a1:(yL yB)):yO (Bool):=
 let y791:Bool:=(V1 a0).data.toList==(V1 a1).data.toList
 some y791
def ZmZ:Fs yc:=⟨73,[.v (.sl .u8),.v (.sl .u8)],[],[(.sl .u8),(.sl .u8)],(zZ .bool),λx=>ZfY yD x.1 x.2⟩
theorem Zti:ZmZ.Ok:=fnO { still:=[4]} [] [] trivial
def V8(F:Nat)(a0:Ze)(s0:Ze):yO ((Bool×Ze)):=
 if(decide (a0.1=s0.1))=true then
  (ZfY F a0.2 s0.2).bind λo792=>
  some (o792,s0)
 else
 some (false,s0)
def ZeU:Fs yc:=⟨72,[.v Zd,.ref 0 []],[.var (.v Zd) true],[Zd,Zd],[⟨.ret,[(0,.v .bool)],[.var (.v Zd) true],[.bool,Zd]⟩],λx=>V8 yD x.1 x.2⟩
theorem ZkI:ZeU.Ok:=fnO { still:=[3,11,13]} [] [ZmZ] ⟨Zti,ytt⟩
def Vi(F:Nat)(s:((yL Ze)×Int×Int×Ze)):yO (((yL Ze)×Int×Int×Ze)⊕((Int×Ze)⊕Ze)):=
 if(decide (s.2.2.1 < s.2.1))=true then
  (idx s.1 s.2.2.1).bind λe790=>
  (V8 F e790 s.2.2.2).bind λo793=>
  if o793.1=true then
   some (.inr (.inl (s.2.2.1,o793.2)))
  else
  some (.inl (s.1,s.2.1,wi (s.2.2.1+1),o793.2))
 else
 some (.inr (.inr s.2.2.2))
def ZhU:Lp:=⟨[(0,.v (.sl Zd)),(1,.fn 72 [.ref 0 []]),(7,.v yI),(8,.v yI)],[.var (.v Zd) true],[(.sl Zd),yI,yI,Zd],[⟨.ret,[(4,.v yI)],[.var (.v Zd) true],[yI,Zd]⟩,⟨.exit 0,[],[.var (.v Zd) true],[Zd]⟩],Zf (Vi yD) yD⟩
theorem ZlL:ZhU.okA yc 131 0:=Zy { still:=[4,15]} [] [ZeU] ⟨ZkI,ytt⟩
def Zfe(F:Nat)(a0:(yL Ze))(s0:Ze):yO ((Int×Ze)):=
 (Zf (Vi F) F (a0,(a0.length:Int),0,s0)).bind λo794=>
 match o794 with
 |.inl o795=>
  some (o795.1,o795.2)
 |.inr o796=>
  some ((-1),o796)
def Zi4:Fs yc:=⟨131,[.v (.sl Zd),.fn 72 [.ref 0 []]],[.var (.v Zd) true],[(.sl Zd),Zd],[⟨.ret,[(0,.v yI)],[.var (.v Zd) true],[yI,Zd]⟩],λx=>Zfe yD x.1 x.2⟩
theorem ZoL:Zi4.Ok:=fnO { still:=[4,15]} [(0,ZhU)] [] trivial ⟨ZlL,ytt⟩
def ZLo:HI:={ own:=[47,55],still:=[6,29,30,51]}
def YR(F:Nat):(Int×Int×Int×Bool×(yL Unit)×(yL Ze)×Ze)->yO ((Int×Int×Int×Bool×(yL Unit)×(yL Ze)×Ze)⊕((Int×Int×Int×Bool×(yL Unit)×(yL Ze)×Ze)⊕(Int×Int×Bool×(yL Unit)×(yL Ze)×Ze)))
 |(a,d,e,f,g,b,c)=>
 if(decide (a < (b.length:Int)))=true then
  if(inB a b.length)=true then
   (b[a.toNat]?).bind λe803=>
   if(decide (e803.1=c.1))=true then
    if(inB a b.length)=true then
     (b[a.toNat]?).bind λe804=>
     (QD F e804.2 c.2).bind λo805=>
     if o805=true then
      some (.inr (.inl (4,d,e,f,g,b,c)))
     else
     some (.inl (wi (a+1),d,e,f,g,b,c))
    else
    none
   else
   some (.inl (wi (a+1),d,e,f,g,b,c))
  else
  none
 else
 some (.inr (.inr (d,e,f,g,b,c)))
abbrev zH:List ESh:=[.var (.agg [.v yI,.v yI,.rw 1,.v .bool]) true,.row Zd true 36,.var (.v Zd) true]
def ZaJ:Lp:=⟨[(0,.ref 0 []),(4,.ref 2 []),(7,.v yI)],zH,[yI,yI,yI,.bool,(.sl (.st [])),(.sl Zd),Zd],[⟨.ret,[(6,.v yI)],zH,[yI,yI,yI,.bool,(.sl (.st [])),(.sl Zd),Zd]⟩,⟨.exit 0,[(0,.ref 0 []),(4,.ref 2 [])],zH,[yI,yI,.bool,(.sl (.st [])),(.sl Zd),Zd]⟩],Zf (YR yD) yD⟩
def ZLp:HI:={ own:=[71,74,77,80],still:=[6,52,54]}
theorem ZeV:ZaJ.okA yc 27 0:=Zy ZLp [] [Zfw] ⟨ZlF,ytt⟩
def Xw(F:Nat)(a1:Ze)(a2:Int)(s0_0:Int)(s0_1:Int)(s0_2:Bool)(s1_0:(yL Unit))(s1_1:(yL Ze)):yO ((Int×Int×Int×Bool×(yL Unit)×(yL Ze))):=
 if((a1.2.length:Int)==0)=true then
  some (2,s0_0,s0_1,s0_2,s1_0,s1_1)
 else
 if(decide ((a1.2.length:Int) > 8192))=true then
  some (2,s0_0,s0_1,s0_2,s1_0,s1_1)
 else
 if(decide (a2 < s0_0))=true then
  some (8,s0_0,s0_1,s0_2,s1_0,s1_1)
 else
 (Zf (YR F) F (0,s0_0,s0_1,s0_2,s1_0,s1_1,a1)).bind λo806=>
 match o806 with
 |.inl (a,b,c,d,e,f,_)=>
  some (a,b,c,d,e,f)
 |.inr (c,b,d,e,a,f)=>
  let y809:Bool:=decide ((a.length:Int) >= b)
  if y809=true then
   some (3,c,b,d,e,a)
  else
  if(apB 0 f.2.length 1)=true then
   if(apB a.length 1 40)=true then
    let y810:(yL Ze):=a++([(f.1,f.2)]:yL Ze)
    some (0,c,b,d,()::e,y810)
   else
   none
  else
  none
def Za5:Fs yc:=⟨27,[.ref 0 [],.v Zd,.v yI],zQ,[Zd,yI,yI,yI,.bool,(.sl (.st [])),(.sl Zd)],[⟨.ret,[(0,.v yI)],zQ,[yI,yI,yI,.bool,(.sl (.st [])),(.sl Zd)]⟩],λx=>Xw yD x.1 x.2.1 x.2.2.1 x.2.2.2.1 x.2.2.2.2.1 x.2.2.2.2.2.1 x.2.2.2.2.2.2⟩
theorem ZgY:Za5.Ok:=fnO ZLp [(0,ZaJ)] [] trivial ⟨ZeV,ytt⟩
def Zl(F:Nat)(s0_0:Int)(s0_1:Int)(s0_2:Unit)(s1_0:(yL Unit))(s1_1:(yL Ze)):yO ((Int×qL)):=
 some ((s1_1.length:Int),s0_0,s0_1,s0_2,s1_0,s1_1)
abbrev zJ:List ESh:=[.var (.agg [.v yI,.v yI,.rw 1,.iface 96 (.v (.st []))]) true,.row Zd false 36]
def ZcO:Fs yc:=⟨28,[.ref 0 []],zJ,[yI,yI,(.st []),(.sl (.st [])),(.sl Zd)],[⟨.ret,[(0,.v yI)],zJ,[yI,yI,yI,(.st []),(.sl (.st [])),(.sl Zd)]⟩],λx=>Zl yD x.1 x.2.1 x.2.2.1 x.2.2.2.1 x.2.2.2.2⟩
theorem Zi5:ZcO.Ok:=fnO { still:=[2]} [] [] trivial
def Y4(F:Nat)(a1:Int)(s0_0:Int)(s0_1:Int)(s0_2:Unit)(s1_0:(yL Unit))(s1_1:(yL Ze)):yO ((Bool×qL)⊕(Bool×Int×Int×Unit×(yL Unit)×(yL Ze)×(yL Unit)×(yL Ze))):=
 if(decide (a1 < 0))=true then
  some (.inl (false,s0_0,s0_1,s0_2,s1_0,s1_1))
 else
 if(decide (a1 >= (s1_1.length:Int)))=true then
  some (.inl (false,s0_0,s0_1,s0_2,s1_0,s1_1))
 else
 (V7 F s1_1).bind λo819=>
 (ZAG (t:=Zd) a1 (wi (a1+1)) o819.1 o819.2).bind λo820=>
 some (.inr (true,s0_0,s0_1,s0_2,s1_0,s1_1,o820.1,o820.2))
def Zds:Fs yc:=⟨18,[.ref 0 [],.v yI],zJ,[yI,yI,yI,(.st []),(.sl (.st [])),(.sl Zd)],[⟨.ret,[(0,.v .bool)],zJ,[.bool,yI,yI,(.st []),(.sl (.st [])),(.sl Zd)]⟩,⟨.ret,[(0,.v .bool)],[.var (.agg [.v yI,.v yI,.rw 2,.iface 96 (.v (.st []))]) true,.row Zd false 36,.row Zd true 36],[.bool,yI,yI,(.st []),(.sl (.st [])),(.sl Zd),(.sl (.st [])),(.sl Zd)]⟩],λx=>Y4 yD x.1 x.2.1 x.2.2.1 x.2.2.2.1 x.2.2.2.2.1 x.2.2.2.2.2⟩
theorem ZjZ:Zds.Ok:=ZiA (fi:={ hi:=ZLi,gh:=[(4,.done 0)]}) (specs:={ l:=[ZaF,ZfN]}) (okS ⟨Zdr,Zh1,ytt⟩)
def WR(F:Nat)(a1:Bool)(s0_0:Int)(s0_1:Int)(s0_2:Unit)(s1_0:(yL Unit))(s1_1:(yL Ze)):yO ((Int×Int×Unit×(yL Unit)×(yL Ze))⊕(Int×Int×Unit×(yL Unit)×(yL Ze))):=
 if a1=true then
  some (.inl (s0_0,s0_1,(),s1_0,s1_1))
 else
 some (.inr (s0_0,s0_1,(),s1_0,s1_1))
abbrev zI:List ESh:=[.var (.agg [.v yI,.v yI,.rw 1,.iface 105 (.v (.st []))]) true,.row Zd false 36]
def ZeW:Fs yc:=⟨20,[.ref 0 [],.v .bool],zJ,[.bool,yI,yI,(.st []),(.sl (.st [])),(.sl Zd)],[⟨.ret,[(0,.tup [])],zI,[yI,yI,(.st []),(.sl (.st [])),(.sl Zd)]⟩,⟨.ret,[(0,.tup [])],zJ,[yI,yI,(.st []),(.sl (.st [])),(.sl Zd)]⟩],λx=>WR yD x.1 x.2.1 x.2.2.1 x.2.2.2.1 x.2.2.2.2.1 x.2.2.2.2.2⟩
theorem ZkJ:ZeW.Ok:=fnO {} [] [] trivial
def Zm(F:Nat)(s0_0:Int)(s0_1:Int)(s0_2:Unit)(s1_0:(yL Unit))(s1_1:(yL Ze)):yO ((Int×qL)):=
 some ((s1_1.length:Int),s0_0,s0_1,s0_2,s1_0,s1_1)
def ZcP:Fs yc:=⟨28,[.ref 0 []],zI,[yI,yI,(.st []),(.sl (.st [])),(.sl Zd)],[⟨.ret,[(0,.v yI)],zI,[yI,yI,yI,(.st []),(.sl (.st [])),(.sl Zd)]⟩],λx=>Zm yD x.1 x.2.1 x.2.2.1 x.2.2.2.1 x.2.2.2.2⟩
theorem Zi6:ZcP.Ok:=fnO { still:=[2]} [] [] trivial
noncomputable def Q8(s:((yL Tx)×Int×Int×Int×Int×Unit×(yL Unit)×(yL Ze)×Unit×(yL ((yL yB)×(yL Ze))))):((yL Tx)×Int×Int×Unit×(yL Unit)×(yL Ze)×Unit×(yL ((yL yB)×(yL Ze)))):=(s.1,s.2.2.2.1,s.2.2.2.2.1,s.2.2.2.2.2.1,s.2.2.2.2.2.2.1,s.2.2.2.2.2.2.2.1,s.2.2.2.2.2.2.2.2.1,(@ZjD (yL yB) Ze (Ty.deq (.arr 16 .u8)) (λp:Ze=>p.1) s.2.2.2.2.2.2.2.1))
noncomputable def Ww(s:((yL Tx)×Int×Int×Int×Int×Unit×(yL Unit)×(yL Ze)×Unit×(yL ((yL yB)×(yL Ze))))):yO ((yL Tx)×Int×Int×Unit×(yL Unit)×(yL Ze)×Unit×(yL ((yL yB)×(yL Ze)))):=@ZFZ (yL yB) Ze ((yL Tx)×Int×Int×Unit×(yL Unit)×(yL Ze)×Unit×(yL ((yL yB)×(yL Ze)))) s.2.2.1 s.2.1 s.2.2.2.2.2.2.2.1 s.2.2.2.2.2.2.2.2.2 40 (Q8 s)
abbrev zP:List ESh:=[.var (.agg [.v yI,.v yI,.rw 1,.iface 96 (.v (.st []))]) true,.row Zd false 36,.var (.v (.st [])) true,.map 253 (.arr 16 .u8) (.sl Zd)]
noncomputable def XQ:Lp:=⟨[(2,.v (.sl yTx)),(7,.mp 3),(24,.rw 1),(25,.v yI),(26,.v yI)],zP,[(.sl yTx),yI,yI,yI,yI,(.st []),(.sl (.st [])),(.sl Zd),(.st []),(Zks (.arr 16 .u8) (.sl Zd))],[⟨.exit 0,[(2,.v (.sl yTx)),(7,.mp 3)],zP,[(.sl yTx),yI,yI,(.st []),(.sl (.st [])),(.sl Zd),(.st []),(Zks (.arr 16 .u8) (.sl Zd))]⟩],Ww⟩
noncomputable def Zp:Code:=Zbq yc 224 0
noncomputable def Vj(s:((yL Tx)×Int×Int×Int×Int×Unit×(yL Unit)×(yL Ze)×Unit×(yL ((yL yB)×(yL Ze))))):yL TD×yL TEnt:=(VY 83 XQ.sl XQ.es (ofD XQ.I s)).getD ([],[])
noncomputable def Vx(s:((yL Tx)×Int×Int×Int×Int×Unit×(yL Unit)×(yL Ze)×Unit×(yL ((yL yB)×(yL Ze))))):yL TEnt:=(Vj s).2.set 3 .gone
noncomputable def Y5:HI:={ own:=[10,33,37,76,79],still:=[6,46,49,52,61,62,64,71]}
noncomputable def Vk(s:((yL Tx)×Int×Int×Int×Int×Unit×(yL Unit)×(yL Ze)×Unit×(yL ((yL yB)×(yL Ze)))))(z:Int):yL TD:=((ZtS yc Y5 (gA Zp) (gA Zp).toList (((Vj s).1.set 7 .junk).set 26 (.p (.v yI z))) (Vx s)).getD ([],[])).1
noncomputable def Vl(s:((yL Tx)×Int×Int×Int×Int×Unit×(yL Unit)×(yL Ze)×Unit×(yL ((yL yB)×(yL Ze)))))(z:Int)(p:Ze):yL TD:=(((Vk s z).set 28 (.rp 1 [.ix z.toNat 17])).set 29 (.p (.v Zd p))).set 9 (.ref 4 [])
noncomputable def X8(s:((yL Tx)×Int×Int×Int×Int×Unit×(yL Unit)×(yL Ze)×Unit×(yL ((yL yB)×(yL Ze)))))(z:Int)(p:Ze):yL TEnt:=Vx s++[.var (.p (.v Zd p)) true]
noncomputable def ZaK(s:((yL Tx)×Int×Int×Int×Int×Unit×(yL Unit)×(yL Ze)×Unit×(yL ((yL yB)×(yL Ze)))))(z:Int)(p:Ze):yL TD:=((ZtS yc Y5 (gC Zp) (((gC Zp).toList.take 5).drop 1) ((Vl s z p).set 30 .junk) (X8 s z p)).getD ([],[])).1
noncomputable def ZgZ(s:((yL Tx)×Int×Int×Int×Int×Unit×(yL Unit)×(yL Ze)×Unit×(yL ((yL yB)×(yL Ze)))))(z:Int)(p:Ze):yL TD:=((ZtS yc Y5 (gD Zp) (gD Zp).toList (((((ZaK s z p).set 36 .junk).set 33 .junk).set 37 .junk).set 38 .junk) (X8 s z p)).getD ([],[])).1
theorem Zg0:XQ.Ok yc (ZjC yc 224) (Zbq yc 224 0):=
 ZJP (P:=yc) (N:=83) 3 4 5 6 0 1 27 7 30 26 36 33 37 38 3 4 (gA Zp) (gB Zp) (gC Zp) (gD Zp) (by kernel_rfl) (K:=(.arr 16 .u8)) (T:=Zd) (tid:=253) (e:=36) (kt:=31) (t:=253) (tt:=43) (u:=43) (t5:=253) (et:=43) Y5 [2,24,25,26] [2] Vj
  (λs:((yL Tx)×Int×Int×Int×Int×Unit×(yL Unit)×(yL Ze)×Unit×(yL ((yL yB)×(yL Ze))))=>s.2.2.2.2.2.2.2.1) (λp:Ze=>p.1) (λs:((yL Tx)×Int×Int×Int×Int×Unit×(yL Unit)×(yL Ze)×Unit×(yL ((yL yB)×(yL Ze))))=>s.2.2.1) (λs:((yL Tx)×Int×Int×Int×Int×Unit×(yL Unit)×(yL Ze)×Unit×(yL ((yL yB)×(yL Ze))))=>s.2.1) (λs:((yL Tx)×Int×Int×Int×Int×Unit×(yL Unit)×(yL Ze)×Unit×(yL ((yL yB)×(yL Ze))))=>s.2.2.2.2.2.2.2.2.2) Q8 (ZsD (gC Zp) 5) (ZsD (gC Zp) 6) (ZsD (gC Zp) 7) (ZsD (gC Zp) 8) (ZsD (gC Zp) 9) (.tmp 32) (.tmp 35) (ZJN (ZsD (gC Zp) 7)) 17 (ZJO yc 36) Vk Vl ZaK ZgZ X8
  (λs=>by kernel_rfl) (λs=>by kernel_rfl) (λs=>by kernel_rfl) (λs=>⟨by kernel_rfl,by kernel_rfl,by kernel_rfl,by kernel_rfl,by kernel_rfl⟩) (λs=>⟨by kernel_rfl,by kernel_rfl⟩) (λs z=>by kernel_rfl) (λs z=>by kernel_rfl)
  (λs j p hp=>by
  have h1:ZtS yc Y5 (gB Zp) (gB Zp).toList (Vk s (j:Int)) (Vx s)=if inB (j:Int) (@id (yL Ze) s.2.2.2.2.2.2.2.1).length=true then((@id (yL Ze) s.2.2.2.2.2.2.2.1)[(j:Int).toNat]?).bind λp=>some (Vl s (j:Int) p,X8 s (j:Int) p) else none:=by kernel_rfl
  have hp:(@id (yL Ze) s.2.2.2.2.2.2.2.1)[j]? =some p:=hp;exact h1.trans (by rw[yW (ZJM hp),Int.toNat_natCast,hp];rfl))
  (λs z p=>by kernel_rfl) (λs z p=>by kernel_rfl) (λs z p=>by kernel_rfl) (λs z p=>by kernel_rfl) (λs z p=>⟨by kernel_rfl,by kernel_rfl⟩) (by kernel_rfl) (by kernel_rfl) ⟨by kernel_rfl,by kernel_rfl,by kernel_rfl⟩ (by kernel_rfl) (by decide)
  ⟨by kernel_rfl,by kernel_rfl,by kernel_rfl,by kernel_rfl,by kernel_rfl,by kernel_rfl,by kernel_rfl,by kernel_rfl,by kernel_rfl,by kernel_rfl,by kernel_rfl,by kernel_rfl,by kernel_rfl,by kernel_rfl,by kernel_rfl,by kernel_rfl,by kernel_rfl,by kernel_rfl,by kernel_rfl,by kernel_rfl,by kernel_rfl,by kernel_rfl,by kernel_rfl⟩ ⟨by kernel_rfl,by kernel_rfl,by kernel_rfl,by kernel_rfl,by kernel_rfl⟩ (by kernel_rfl) (by kernel_rfl) (by decide)
def Yo(F:Nat):dT8->yO (dT8⊕dT9)
 |(e,f,g,c,b,a,h,i,j,k,l,m,n,o,p,d)=>
 if(decide (a < b))=true then
  (idx c a).bind λe854=>
  (ZdO F d).bind λo855=>
  (ZjX F o855 e854.2).bind λo856=>
  if(!o856.2)=true then
   some (.inl (e,f,g,c,b,wi (a+1),h,i,j,k,l,m,n,o,p,d))
  else
  (ZgV F o856.1).bind λo857=>
  if o857.2=true then
   if(apB o.length 1 56)=true then
    let y858:(yL Tx):=o++([o857.1]:yL Tx)
    some (.inl (e,f,g,c,b,wi (a+1),h,i,j,k,l,m,n,y858,p,d))
   else
   none
  else
  some (.inl (e,f,g,c,b,wi (a+1),h,i,j,k,l,m,n,o,p,d))
 else
 some (.inr (e,f,g,h,i,j,k,l,m,n,o,p,d))
def ZLq:yL ESh:=[.var (.agg [.v yI,.v yI,.rw 1,.iface 96 (.v (.st []))]) true,.row Zd false 36,.var (.v (.st [])) true,.map 253 (.arr 16 .u8) (.sl Zd),.log yTx 57,.var (.v yTx) true,.var (.v (.arr 32 .u8)) true]
def ZbY:Lp:=⟨[(7,.mp 3),(10,.own 4 yTx),(13,.ref 6 []),(40,.v (.sl yTx)),(41,.v yI),(42,.v yI),(54,.v (.sl Zd)),(55,.v yI),(56,.v yI)],ZLq,ZLM,[⟨.exit 4,[(7,.mp 3),(10,.own 4 yTx),(40,.v (.sl yTx)),(41,.v yI),(42,.v yI)],ZLq,ZLL⟩],Zf (Yo yD) yD⟩
theorem Zg1:ZbY.okA yc 224 2:=Zy ZKk [] [ZhO,ZqC,Zvm] ⟨ZfQ,ZoF,Zth,ytt⟩
def Xx(F:Nat):ZLj->yO (ZLj⊕ZLN)
 |(n,m,l,o,p,q,r,t,u,v,w)=>
 if(decide (l < m))=true then
  (idx n l).bind λe849=>
  (Qd F e849).bind λo850=>
  if(!o850)=true then
   some (.inl (n,m,wi (l+1),o,p,q,r,t,u,v,w))
  else
  (Ztb F e849).bind λo851=>
  (ZbN F o851).bind λo852=>
  Zk0 (Zek v o852) (λe853=>
   (Zf (Yo F) F (n,m,l,e853,(e853.length:Int),0,o,p,q,r,t,u,v,w,e849,o851)).bind λ(a,b,c,d,e,f,g,h,i,j,k,_,_)=>
   some (.inl (a,b,wi (c+1),d,e,f,g,h,i,j,k))) (
   (Zf (Yo F) F (n,m,l,[],0,0,o,p,q,r,t,u,v,w,e849,o851)).bind λ(a,b,c,d,e,f,g,h,i,j,k,_,_)=>
   some (.inl (a,b,wi (c+1),d,e,f,g,h,i,j,k)))
 else
 some (.inr (o,p,q,r,t,u,v,w))
def ZIP:yL ESh:=[.var (.agg [.v yI,.v yI,.rw 1,.iface 96 (.v (.st []))]) true,.row Zd false 36,.var (.v (.st [])) true,.map 253 (.arr 16 .u8) (.sl Zd),.log yTx 57]
def ZbZ:Lp:=⟨[(7,.mp 3),(10,.own 4 yTx),(40,.v (.sl yTx)),(41,.v yI),(42,.v yI)],ZIP,ZLP,[⟨.exit 2,[(10,.own 4 yTx)],ZIP,ZLO⟩],Zf (Xx yD) yD⟩
theorem Zg2:ZbZ.okA yc 224 1:=Zy ZKk [(2,ZbY)] [ZgH,ZCm,ZfP] ⟨Zep,ZyY,Zd6,ytt⟩ ⟨Zg1,ytt⟩
def QT(F:Nat)(a0:Unit)(a2:(yL Tx))(s0_0:Int)(s0_1:Int)(s0_2:Unit)(s1_0:(yL Unit))(s1_1:(yL Ze)):yO (((yL Tx)×qL)):=
 (Ww (a2,(s1_1.length:Int),0,s0_0,s0_1,s0_2,s1_0,s1_1,a0,([]:yL ((yL yB)×(yL Ze))))).bind λo848=>
 (Zf (Xx F) F (o848.1,(o848.1.length:Int),0,o848.2.1,o848.2.2.1,o848.2.2.2.1,o848.2.2.2.2.1,o848.2.2.2.2.2.1,o848.2.2.2.2.2.2.1,o848.2.2.2.2.2.2.2,[])).bind λ(b,c,d,e,f,_,_,a)=>
 some (a,b,c,d,e,f)
def ZcQ:Fs yc:=⟨224,[.v (.st []),.ref 0 [],.v (.sl yTx)],zJ,[(.st []),(.sl yTx),yI,yI,(.st []),(.sl (.st [])),(.sl Zd)],[⟨.ret,[(0,.v (.sl yTx))],zJ,[(.sl yTx),yI,yI,(.st []),(.sl (.st [])),(.sl Zd)]⟩],λx=>QT yD x.1 x.2.1 x.2.2.1 x.2.2.2.1 x.2.2.2.2.1 x.2.2.2.2.2.1 x.2.2.2.2.2.2⟩
theorem Zi7:ZcQ.Ok:=fnO ZKk [(0,XQ),(1,ZbZ)] [] trivial ⟨Zg0,Zg2,ytt⟩
def VR(F:Nat)(a1:(yL Tx))(s0_0:Int)(s0_1:Int)(s0_2:Unit)(s1_0:(yL Unit))(s1_1:(yL Ze)):yO (((yL Tx)×qL)):=
 (QT F s0_2 a1 s0_0 s0_1 s0_2 s1_0 s1_1).bind λ(a,b,c,d,e,f)=>
 some (a,b,c,d,e,f)
def Zdt:Fs yc:=⟨22,[.ref 0 [],.v (.sl yTx)],zJ,[(.sl yTx),yI,yI,(.st []),(.sl (.st [])),(.sl Zd)],[⟨.ret,[(0,.v (.sl yTx))],zJ,[(.sl yTx),yI,yI,(.st []),(.sl (.st [])),(.sl Zd)]⟩],λx=>VR yD x.1 x.2.1 x.2.2.1 x.2.2.2.1 x.2.2.2.2.1 x.2.2.2.2.2⟩
theorem Zj0:Zdt.Ok:=ZiA (fi:={ hi:={ still:=[4]}}) (specs:={ l:=[ZcQ],mt:=[(96, "corsned/tower.look",224)]}) (okM ⟨Zi7,ytt⟩ ⟨ZAU,ytt⟩)
def Xi(F:Nat):ZLl->yO (ZLl⊕(ZLS⊕ZLT))
 |(b,a,g,h,i,j,c,k,f,d,e,l)=>
 if(decide (a < b))=true then
  if(inB a c.length)=true then
   (c[a.toNat]?).bind λe867=>
   if(decide (e867.1=d))=true then
    (Zf6 F e867.2).bind λo868=>
    if(decide (o868=e))=true then
     (ZaW F f e867).bind λo869=>
     some (.inr (.inl (true,g,h,i,j,c,k,f,d,e,o869)))
    else
    some (.inl (b,wi (a+1),g,h,i,j,c,k,f,d,e,l))
   else
   some (.inl (b,wi (a+1),g,h,i,j,c,k,f,d,e,l))
  else
  none
 else
 some (.inr (.inr (g,h,i,j,c,k,f,d,e,l)))
def ZGr:yL ESh:=[.var (.agg [.v yI,.v yI,.rw 1,.iface 96 (.v (.st []))]) true,.row Zd false 36,.var (.v (.st [])) true,.var (.v (.arr 32 .u8)) true,.var (.v (.arr 16 .u8)) true,.var (.v (.arr 32 .u8)) true,.var (.v (.arr 32 .u8)) true]
def Zbg:Lp:=⟨[(7,.ref 3 []),(8,.ref 4 []),(9,.ref 5 []),(10,.ref 6 []),(17,.rw 1),(18,.v yI),(19,.v yI)],ZGr,ZLW,[⟨.ret,[(10,.ref 6 []),(11,.v .bool)],ZGr,ZLU⟩,⟨.exit 0,[(10,.ref 6 [])],ZGr,ZLV⟩],Zf (Xi yD) yD⟩
theorem ZfZ:Zbg.okA yc 225 0:=Zy { still:=[11,29,34,35]} [] [Znj,Zh0] ⟨Zle,ZgB,ytt⟩
def QH(F:Nat)(a0:Unit)(a2:(yL yB))(a3:(yL yB))(a4:(yL yB))(s0_0:Int)(s0_1:Int)(s0_2:Unit)(s1_0:(yL Unit))(s1_1:(yL Ze)):yO (((yL yB)×Bool×qL)):=
 (Zf (Xi F) F ((s1_1.length:Int),0,s0_0,s0_1,s0_2,s1_0,s1_1,a0,a2,a3,a4,yzz)).bind λo870=>
 match o870 with
 |.inl (b,c,d,e,f,g,_,_,_,_,a)=>
  some (a,b,c,d,e,f,g)
 |.inr (a,b,c,d,e,_,_,_,_,_)=>
  some (yzz,false,a,b,c,d,e)
def Zb0:Fs yc:=⟨225,[.v (.st []),.ref 0 [],.v (.arr 32 .u8),.v (.arr 16 .u8),.v (.arr 32 .u8)],zJ,[(.st []),(.arr 32 .u8),(.arr 16 .u8),(.arr 32 .u8),yI,yI,(.st []),(.sl (.st [])),(.sl Zd)],[⟨.ret,[(0,.tup [.v (.arr 32 .u8),.v .bool])],zJ,[(.arr 32 .u8),.bool,yI,yI,(.st []),(.sl (.st [])),(.sl Zd)]⟩],λx=>QH yD x.1 x.2.1 x.2.2.1 x.2.2.2.1 x.2.2.2.2.1 x.2.2.2.2.2.1 x.2.2.2.2.2.2.1 x.2.2.2.2.2.2.2.1 x.2.2.2.2.2.2.2.2⟩
theorem Zip:Zb0.Ok:=fnO { still:=[11,29,34,35]} [(0,Zbg)] [] trivial ⟨ZfZ,ytt⟩
def Vr(F:Nat)(a1:(yL yB))(a2:(yL yB))(a3:(yL yB))(s0_0:Int)(s0_1:Int)(s0_2:Unit)(s1_0:(yL Unit))(s1_1:(yL Ze)):yO (((yL yB)×Bool×qL)):=
 (QH F s0_2 a1 a2 a3 s0_0 s0_1 s0_2 s1_0 s1_1).bind λ(a,b,c,d,e,f,g)=>
 some (a,b,c,d,e,f,g)
def ZcR:Fs yc:=⟨24,[.ref 0 [],.v (.arr 32 .u8),.v (.arr 16 .u8),.v (.arr 32 .u8)],zJ,[(.arr 32 .u8),(.arr 16 .u8),(.arr 32 .u8),yI,yI,(.st []),(.sl (.st [])),(.sl Zd)],[⟨.ret,[(0,.tup [.v (.arr 32 .u8),.v .bool])],zJ,[(.arr 32 .u8),.bool,yI,yI,(.st []),(.sl (.st [])),(.sl Zd)]⟩],λx=>Vr yD x.1 x.2.1 x.2.2.1 x.2.2.2.1 x.2.2.2.2.1 x.2.2.2.2.2.1 x.2.2.2.2.2.2.1 x.2.2.2.2.2.2.2⟩
theorem Zi8:ZcR.Ok:=ZiA (fi:={ hi:={ still:=[9]}}) (specs:={ l:=[Zb0],mt:=[(96, "corsned/tower.prove",225)]}) (okM ⟨Zip,ytt⟩ ⟨ZAV,ytt⟩)
def VS(F:Nat)(s0_0:(yL Unit))(s0_1:(yL Ze))(s1:Ze):yO ((Bool×(yL Unit)×(yL Ze)×Ze)):=
 (Zfe F s0_1 s1).bind λo877=>
 some (decide (o877.1 >= 0),s0_0,s0_1,o877.2)
def ZbB:Fs yc:=⟨71,[.rw 0,.fn 72 [.ref 1 []]],[.row Zd false 36,.var (.v Zd) true],[(.sl (.st [])),(.sl Zd),Zd],[⟨.ret,[(0,.v .bool)],[.row Zd false 36,.var (.v Zd) true],[.bool,(.sl (.st [])),(.sl Zd),Zd]⟩],λx=>VS yD x.1 x.2.1 x.2.2⟩
theorem ZfB:ZbB.Ok:=fnO { still:=[4,5,6]} [] [Zi4] ⟨ZoL,ytt⟩
def WD(F:Nat)(a1:Ze)(a2:Int)(s0_0:Int)(s0_1:Int)(s0_2:Unit)(s1_0:(yL Unit))(s1_1:(yL Ze)):yO ((Int×qL)):=
 if((a1.2.length:Int)==0)=true then
  some (2,s0_0,s0_1,s0_2,s1_0,s1_1)
 else
 if(decide ((a1.2.length:Int) > 8192))=true then
  some (2,s0_0,s0_1,s0_2,s1_0,s1_1)
 else
 if(decide (a2 < s0_0))=true then
  some (8,s0_0,s0_1,s0_2,s1_0,s1_1)
 else
 (VS F s1_0 s1_1 a1).bind λo878=>
 if o878.1=true then
  if(decide (s1_0.length=o878.2.1.length)&&(decide (17=17)&&decide ((yac s1_1.length ()).length=o878.2.2.1.length)))=true then
   some (4,s0_0,s0_1,s0_2,o878.2.1,o878.2.2.1)
  else
  none
 else
 if(decide (s1_0.length=o878.2.1.length)&&(decide (17=17)&&decide ((yac s1_1.length ()).length=o878.2.2.1.length)))=true then
  if(decide ((o878.2.2.1.length:Int) >= s0_1))=true then
   some (3,s0_0,s0_1,s0_2,o878.2.1,o878.2.2.1)
  else
  (ZaX F o878.2.2.2.2).bind λo879=>
  if(apB o878.2.2.1.length 1 40)=true then
   let y880:(yL Ze):=o878.2.2.1++([(o878.2.2.2.1,o879)]:yL Ze)
   some (0,s0_0,s0_1,s0_2,()::o878.2.1,y880)
  else
  none
 else
 none
def Zdu:Fs yc:=⟨26,[.ref 0 [],.v Zd,.v yI],zJ,[Zd,yI,yI,yI,(.st []),(.sl (.st [])),(.sl Zd)],[⟨.ret,[(0,.v yI)],zJ,[yI,yI,yI,(.st []),(.sl (.st [])),(.sl Zd)]⟩],λx=>WD yD x.1 x.2.1 x.2.2.1 x.2.2.2.1 x.2.2.2.2.1 x.2.2.2.2.2.1 x.2.2.2.2.2.2⟩
theorem Zj1:Zdu.Ok:=ZiA (fi:={ hi:=ZLo,gh:=[(7,.fresh 0 2),(8,.fresh 0 2)]}) (specs:={ l:=[ZbB,Zfa]}) (okS ⟨ZfB,ZdN,ytt⟩)
def ZaL(F:Nat)(a1:Int)(s0_0:Int)(s0_1:Int)(s0_2:Unit)(s1_0:(yL Unit))(s1_1:(yL Ze)):yO ((Bool×qL)⊕(Bool×Int×Int×Unit×(yL Unit)×(yL Ze)×(yL Unit)×(yL Ze))):=
 if(decide (a1 < 0))=true then
  some (.inl (false,s0_0,s0_1,s0_2,s1_0,s1_1))
 else
 if(decide (a1 >= (s1_1.length:Int)))=true then
  some (.inl (false,s0_0,s0_1,s0_2,s1_0,s1_1))
 else
 (V7 F s1_1).bind λo887=>
 (ZAG (t:=Zd) a1 (wi (a1+1)) o887.1 o887.2).bind λo888=>
 some (.inr (true,s0_0,s0_1,s0_2,s1_0,s1_1,o888.1,o888.2))
def Zdv:Fs yc:=⟨18,[.ref 0 [],.v yI],zI,[yI,yI,yI,(.st []),(.sl (.st [])),(.sl Zd)],[⟨.ret,[(0,.v .bool)],zI,[.bool,yI,yI,(.st []),(.sl (.st [])),(.sl Zd)]⟩,⟨.ret,[(0,.v .bool)],[.var (.agg [.v yI,.v yI,.rw 2,.iface 105 (.v (.st []))]) true,.row Zd false 36,.row Zd true 36],[.bool,yI,yI,(.st []),(.sl (.st [])),(.sl Zd),(.sl (.st [])),(.sl Zd)]⟩],λx=>ZaL yD x.1 x.2.1 x.2.2.1 x.2.2.2.1 x.2.2.2.2.1 x.2.2.2.2.2⟩
theorem Zj2:Zdv.Ok:=ZiA (fi:={ hi:=ZLi,gh:=[(4,.done 0)]}) (specs:={ l:=[ZaF,ZfN]}) (okS ⟨Zdr,Zh1,ytt⟩)
def WS(F:Nat)(a1:Bool)(s0_0:Int)(s0_1:Int)(s0_2:Unit)(s1_0:(yL Unit))(s1_1:(yL Ze)):yO ((Int×Int×Unit×(yL Unit)×(yL Ze))⊕(Int×Int×Unit×(yL Unit)×(yL Ze))):=
 if a1=true then
  some (.inl (s0_0,s0_1,(),s1_0,s1_1))
 else
 some (.inr (s0_0,s0_1,(),s1_0,s1_1))
def ZeX:Fs yc:=⟨20,[.ref 0 [],.v .bool],zI,[.bool,yI,yI,(.st []),(.sl (.st [])),(.sl Zd)],[⟨.ret,[(0,.tup [])],zI,[yI,yI,(.st []),(.sl (.st [])),(.sl Zd)]⟩,⟨.ret,[(0,.tup [])],zJ,[yI,yI,(.st []),(.sl (.st [])),(.sl Zd)]⟩],λx=>WS yD x.1 x.2.1 x.2.2.1 x.2.2.2.1 x.2.2.2.2.1 x.2.2.2.2.2⟩
theorem ZkK:ZeX.Ok:=fnO {} [] [] trivial
theorem Zy4:ZnC yc 105 "corsned/tower.look" 226:=λv args w=>by kernel_rfl
def Zi9(F:Nat)(a0:Unit)(a2:(yL Tx))(s0_0:Int)(s0_1:Int)(s0_2:Unit)(s1_0:(yL Unit))(s1_1:(yL Ze)):yO (((yL Tx)×qL)):=
 some ([],s0_0,s0_1,s0_2,s1_0,s1_1)
def ZhV:Fs yc:=⟨226,[.v (.st []),.ref 0 [],.v (.sl yTx)],zI,[(.st []),(.sl yTx),yI,yI,(.st []),(.sl (.st [])),(.sl Zd)],[⟨.ret,[(0,.v (.sl yTx))],zI,[(.sl yTx),yI,yI,(.st []),(.sl (.st [])),(.sl Zd)]⟩],λx=>Zi9 yD x.1 x.2.1 x.2.2.1 x.2.2.2.1 x.2.2.2.2.1 x.2.2.2.2.2.1 x.2.2.2.2.2.2⟩
theorem Znx:ZhV.Ok:=fnO { still:=[6]} [] [] trivial
def ZaM(F:Nat)(a1:(yL Tx))(s0_0:Int)(s0_1:Int)(s0_2:Unit)(s1_0:(yL Unit))(s1_1:(yL Ze)):yO (((yL Tx)×qL)):=
 (Zi9 F s0_2 a1 s0_0 s0_1 s0_2 s1_0 s1_1).bind λ(a,b,c,d,e,f)=>
 some (a,b,c,d,e,f)
def Zdw:Fs yc:=⟨22,[.ref 0 [],.v (.sl yTx)],zI,[(.sl yTx),yI,yI,(.st []),(.sl (.st [])),(.sl Zd)],[⟨.ret,[(0,.v (.sl yTx))],zI,[(.sl yTx),yI,yI,(.st []),(.sl (.st [])),(.sl Zd)]⟩],λx=>ZaM yD x.1 x.2.1 x.2.2.1 x.2.2.2.1 x.2.2.2.2.1 x.2.2.2.2.2⟩
theorem Zj3:Zdw.Ok:=ZiA (fi:={ hi:={ still:=[4]}}) (specs:={ l:=[ZhV],mt:=[(105, "corsned/tower.look",226)]}) (okM ⟨Znx,ytt⟩ ⟨Zy4,ytt⟩)
theorem Zy5:ZnC yc 105 "corsned/tower.prove" 227:=λv args w=>by kernel_rfl
def ZcS(F:Nat)(a0:Unit)(a2:(yL yB))(a3:(yL yB))(a4:(yL yB))(s0_0:Int)(s0_1:Int)(s0_2:Unit)(s1_0:(yL Unit))(s1_1:(yL Ze)):yO (((yL yB)×Bool×qL)):=
 (QP F ZCp [a2]).bind λo921=>
 some (o921,true,s0_0,s0_1,s0_2,s1_0,s1_1)
def Zg3:Fs yc:=⟨227,[.v (.st []),.ref 0 [],.v (.arr 32 .u8),.v (.arr 16 .u8),.v (.arr 32 .u8)],zI,[(.st []),(.arr 32 .u8),(.arr 16 .u8),(.arr 32 .u8),yI,yI,(.st []),(.sl (.st [])),(.sl Zd)],[⟨.ret,[(0,.tup [.v (.arr 32 .u8),.v .bool])],zI,[(.arr 32 .u8),.bool,yI,yI,(.st []),(.sl (.st [])),(.sl Zd)]⟩],λx=>ZcS yD x.1 x.2.1 x.2.2.1 x.2.2.2.1 x.2.2.2.2.1 x.2.2.2.2.2.1 x.2.2.2.2.2.2.1 x.2.2.2.2.2.2.2.1 x.2.2.2.2.2.2.2.2⟩
theorem ZmA:Zg3.Ok:=fnO { still:=[11,13],frz:=[12]} [] [Zam] ⟨Qi,ytt⟩
def Vs(F:Nat)(a1:(yL yB))(a2:(yL yB))(a3:(yL yB))(s0_0:Int)(s0_1:Int)(s0_2:Unit)(s1_0:(yL Unit))(s1_1:(yL Ze)):yO (((yL yB)×Bool×qL)):=
 (ZcS F s0_2 a1 a2 a3 s0_0 s0_1 s0_2 s1_0 s1_1).bind λ(a,b,c,d,e,f,g)=>
 some (a,b,c,d,e,f,g)
def ZcT:Fs yc:=⟨24,[.ref 0 [],.v (.arr 32 .u8),.v (.arr 16 .u8),.v (.arr 32 .u8)],zI,[(.arr 32 .u8),(.arr 16 .u8),(.arr 32 .u8),yI,yI,(.st []),(.sl (.st [])),(.sl Zd)],[⟨.ret,[(0,.tup [.v (.arr 32 .u8),.v .bool])],zI,[(.arr 32 .u8),.bool,yI,yI,(.st []),(.sl (.st [])),(.sl Zd)]⟩],λx=>Vs yD x.1 x.2.1 x.2.2.1 x.2.2.2.1 x.2.2.2.2.1 x.2.2.2.2.2.1 x.2.2.2.2.2.2.1 x.2.2.2.2.2.2.2⟩
theorem Zja:ZcT.Ok:=ZiA (fi:={ hi:={ still:=[9]}}) (specs:={ l:=[Zg3],mt:=[(105, "corsned/tower.prove",227)]}) (okM ⟨ZmA,ytt⟩ ⟨Zy5,ytt⟩)
def ZaN(F:Nat)(a1:Ze)(a2:Int)(s0_0:Int)(s0_1:Int)(s0_2:Unit)(s1_0:(yL Unit))(s1_1:(yL Ze)):yO ((Int×qL)):=
 if((a1.2.length:Int)==0)=true then
  some (2,s0_0,s0_1,s0_2,s1_0,s1_1)
 else
 if(decide ((a1.2.length:Int) > 8192))=true then
  some (2,s0_0,s0_1,s0_2,s1_0,s1_1)
 else
 if(decide (a2 < s0_0))=true then
  some (8,s0_0,s0_1,s0_2,s1_0,s1_1)
 else
 (VS F s1_0 s1_1 a1).bind λo926=>
 if o926.1=true then
  if(decide (s1_0.length=o926.2.1.length)&&(decide (17=17)&&decide ((yac s1_1.length ()).length=o926.2.2.1.length)))=true then
   some (4,s0_0,s0_1,s0_2,o926.2.1,o926.2.2.1)
  else
  none
 else
 if(decide (s1_0.length=o926.2.1.length)&&(decide (17=17)&&decide ((yac s1_1.length ()).length=o926.2.2.1.length)))=true then
  if(decide ((o926.2.2.1.length:Int) >= s0_1))=true then
   some (3,s0_0,s0_1,s0_2,o926.2.1,o926.2.2.1)
  else
  (ZaX F o926.2.2.2.2).bind λo927=>
  if(apB o926.2.2.1.length 1 40)=true then
   let y928:(yL Ze):=o926.2.2.1++([(o926.2.2.2.1,o927)]:yL Ze)
   some (0,s0_0,s0_1,s0_2,()::o926.2.1,y928)
  else
  none
 else
 none
def Zdx:Fs yc:=⟨26,[.ref 0 [],.v Zd,.v yI],zI,[Zd,yI,yI,yI,(.st []),(.sl (.st [])),(.sl Zd)],[⟨.ret,[(0,.v yI)],zI,[yI,yI,yI,(.st []),(.sl (.st [])),(.sl Zd)]⟩],λx=>ZaN yD x.1 x.2.1 x.2.2.1 x.2.2.2.1 x.2.2.2.2.1 x.2.2.2.2.2.1 x.2.2.2.2.2.2⟩
theorem Zj4:Zdx.Ok:=ZiA (fi:={ hi:=ZLo,gh:=[(7,.fresh 0 2),(8,.fresh 0 2)]}) (specs:={ l:=[ZbB,Zfa]}) (okS ⟨ZfB,ZdN,ytt⟩)
end
end Go.Proofs.YtghfiijgklnflaaGreat
end
