/- Parts of the proof, in one file. -/
import Derived.Test.YtehgcchjaamddaaKe
set_option linter.unusedVariables false
set_option linter.unusedSimpArgs false
section
set_option maxRecDepth 4000
namespace Go.Proofs.Ytehgcchjaamddaa
open Go Go.Ev
noncomputable section
def ZO (F:Nat) (a0:(List UInt8)):Option ((List UInt8)):=
 if (apB 0 a0.length 1)=true then
  some a0
 else
 none
def XJ (F:Nat):Fs Try.prog:=⟨34,[.sl true .u8],[],[(.sl .u8)],[⟨.ret,[(0,.v (.sl .u8))],[],[(.sl .u8)]⟩],fun x=>ZO F x⟩
def ZdN:Fs Try.prog:=XJ fuel
theorem Vn:ZdN.Ok:=Zn (fi:={ hi:={ own:=[5,7],still:=[2]},lp:=[]}) (specs:={ l:=[]}) (okS trivial) trivial (by decide+kernel) (fun x=>by kernel_rfl)
def W6 (F:Nat):Option ((List UInt8)):=
 some ([]:List UInt8)
def Xa (F:Nat):Fs Try.prog:=⟨34,[.nil .u8],[],[],[⟨.ret,[(0,.v (.sl .u8))],[],[(.sl .u8)]⟩],fun x=>W6 F⟩
def ZbP:Fs Try.prog:=Xa fuel
theorem Wx:ZbP.Ok:=Zn (fi:={ hi:={ own:=[5,7],still:=[2]},lp:=[]}) (specs:={ l:=[]}) (okS trivial) trivial (by decide+kernel) (fun x=>by kernel_rfl)
def Xh (F:Nat):Fs Try.prog:=⟨34,[.v (.sl .u8)],[],[(.sl .u8)],[⟨.ret,[(0,.v (.sl .u8))],[],[(.sl .u8)]⟩],fun x=>ZO F x⟩
def Xw:Fs Try.prog:=Xh fuel
theorem Xi:Xw.Ok:=ZrV (t:=.u8) (xs:=[⟨.ret,[(0,.v (.sl .u8))],[],[(.sl .u8)]⟩]) (MA:=fun (x:(List UInt8))=>ZO fuel x) (MB:=fun _=>W6 fuel) Vn Wx rfl
def Zg8 (F:Nat):Option ((List UInt32)):=
 some ([1779033703,3144134277,1013904242,2773480762,1359893119,2600822924,528734635,1541459225]:List UInt32)
def ZdO (F:Nat):Fs Try.prog:=⟨36,[],[],[],[⟨.ret,[(0,.v (.arr 8 .u32))],[],[(.arr 8 .u32)]⟩],fun x=>Zg8 F⟩
def ZkC:Fs Try.prog:=ZdO fuel
theorem ZiQ:ZkC.Ok:=Zn (fi:={ hi:={},lp:=[]}) (specs:={ l:=[]}) (okS trivial) trivial (by decide+kernel) (fun x=>by kernel_rfl)
def Zw (F:Nat) (a0:UInt32) (a1:Int):Option (UInt32):=
 let y123:UInt32:=ZgK a0 (min (((w64 a1)&&&31).toNat:Int).toNat 32)
 let y124:UInt32:=Zf1 a0 (min ((32 - ((w64 a1)&&&31)).toNat:Int).toNat 32)
 some (y123|||y124)
def W7 (F:Nat):Fs Try.prog:=⟨65,[.v .u32,.v (.int .i64)],[],[.u32,(.int .i64)],[⟨.ret,[(0,.v .u32)],[],[.u32]⟩],fun x=>Zw F x.1 x.2⟩
def Vq:Fs Try.prog:=W7 fuel
theorem W8:Vq.Ok:=Zn (fi:={ hi:={ still:=[4]},lp:=[]}) (specs:={ l:=[]}) (okS trivial) trivial (by decide+kernel) (fun x=>by kernel_rfl)
def ZbQ (F:Nat) (a0:(List UInt8)):Option (UInt32):=
 (idx a0 0).bind fun e125=>
 (idx a0 1).bind fun e126=>
 let y127:UInt32:=(ZgK (UInt32.ofNat e125.toNat) 24)|||(ZgK (UInt32.ofNat e126.toNat) 16)
 (idx a0 2).bind fun e128=>
 (idx a0 3).bind fun e129=>
 let y130:UInt32:=(y127|||(ZgK (UInt32.ofNat e128.toNat) 8))|||(UInt32.ofNat e129.toNat)
 some y130
def Zcv (F:Nat):Fs Try.prog:=⟨72,[.v (.sl .u8)],[],[(.sl .u8)],[⟨.ret,[(0,.v .u32)],[],[.u32]⟩],fun x=>ZbQ F x⟩
def ZiR:Fs Try.prog:=Zcv fuel
theorem Zg9:ZiR.Ok:=Zn (fi:={ hi:={ still:=[2]},lp:=[]}) (specs:={ l:=[]}) (okS trivial) trivial (by decide+kernel) (fun x=>by kernel_rfl)
def WK (F:Nat) (s:((List UInt8)×Int×(List UInt32))):Option (((List UInt8)×Int×(List UInt32))⊕(List UInt32)):=
 if (decide (s.2.1 < 64))=true then
  if (decide (s.2.1 < 16))=true then
   if (Vu s.1.length (some (wi (4*s.2.1))) none)=true then
    (ZbQ F (s.1.drop ((wi (4*s.2.1)).toNat))).bind fun o131=>
    if (inB s.2.1 64)=true then
     (s.2.2[s.2.1.toNat]?).bind fun e132=>
     some (.inl (s.1,wi (s.2.1+1),s.2.2.set s.2.1.toNat o131))
    else
    none
   else
   none
  else
  if (inB (wi (s.2.1 - 15)) 64)=true then
   (s.2.2[(wi (s.2.1 - 15)).toNat]?).bind fun e133=>
   if (inB (wi (s.2.1 - 2)) 64)=true then
    (s.2.2[(wi (s.2.1 - 2)).toNat]?).bind fun e134=>
    (Zw F e133 (-7:Int)).bind fun o135=>
    (Zw F e133 (-18:Int)).bind fun o136=>
    (Zw F e134 (-17:Int)).bind fun o137=>
    (Zw F e134 (-19:Int)).bind fun o138=>
    if (inB (wi (s.2.1 - 16)) 64)=true then
     (s.2.2[(wi (s.2.1 - 16)).toNat]?).bind fun e139=>
     if (inB (wi (s.2.1 - 7)) 64)=true then
      (s.2.2[(wi (s.2.1 - 7)).toNat]?).bind fun e140=>
      let y141:UInt32:=(e139+((o135^^^o136)^^^(Zf1 e133 3)))+e140
      if (inB s.2.1 64)=true then
       (s.2.2[s.2.1.toNat]?).bind fun e142=>
       let y143:(List UInt32):=s.2.2.set s.2.1.toNat (y141+((o137^^^o138)^^^(Zf1 e134 10)))
       some (.inl (s.1,wi (s.2.1+1),y143))
      else
      none
     else
     none
    else
    none
   else
   none
  else
  none
 else
 some (.inr s.2.2)
def Zen:Lp:=⟨[(0,.v (.sl .u8)),(2,.ref 0 []),(8,.v (.int .i64))],[.var (.v (.arr 64 .u32)) true],[(.sl .u8),(.int .i64),(.arr 64 .u32)],[⟨.exit 0,[(2,.ref 0 [])],[.var (.v (.arr 64 .u32)) true],[(.arr 64 .u32)]⟩],Zk (WK fuel) fuel⟩
theorem Zic:Zen.Ok Try.prog (Zt Try.prog 63) (Zp Try.prog 63 0):=Zq (fi:={ hi:={ still:=[17,28,30,36,38]},lp:=[]}) (specs:={ l:=[ZiR,Vq]}) (okS ⟨Zg9,W8,trivial⟩) trivial (by kernel_rfl) (fun v=>by kernel_rfl)
def QA (F:Nat) (a0:(List UInt8)):Option ((List UInt32)):=
 (Zk (WK F) F (a0,(0:Int),([0,0,0,0,0,0,0,0,0,0,0,0,0,0,0,0,0,0,0,0,0,0,0,0,0,0,0,0,0,0,0,0,0,0,0,0,0,0,0,0,0,0,0,0,0,0,0,0,0,0,0,0,0,0,0,0,0,0,0,0,0,0,0,0]:List UInt32))).bind fun o144=>
 some o144
def Zak (F:Nat):Fs Try.prog:=⟨63,[.v (.sl .u8)],[],[(.sl .u8)],[⟨.ret,[(0,.v (.arr 64 .u32))],[],[(.arr 64 .u32)]⟩],fun x=>QA F x⟩
def Zf8:Fs Try.prog:=Zak fuel
theorem Zeo:Zf8.Ok:=Zn (fi:={ hi:={ still:=[17,28,30,36,38]},lp:=[(0,Zen)]}) (specs:={ l:=[]}) (okS trivial) ⟨Zic,trivial⟩ (by decide+kernel) (fun x=>by kernel_rfl)
def Zha (F:Nat):Option ((List UInt32)):=
 some ([1116352408,1899447441,3049323471,3921009573,961987163,1508970993,2453635748,2870763221,3624381080,310598401,607225278,1426881987,1925078388,2162078206,2614888103,3248222580,3835390401,4022224774,264347078,604807628,770255983,1249150122,1555081692,1996064986,2554220882,2821834349,2952996808,3210313671,3336571891,3584528711,113926993,338241895,666307205,773529912,1294757372,1396182291,1695183700,1986661051,2177026350,2456956037,2730485921,2820302411,3259730800,3345764771,3516065817,3600352804,4094571909,275423344,430227734,506948616,659060556,883997877,958139571,1322822218,1537002063,1747873779,1955562222,2024104815,2227730452,2361852424,2428436474,2756734187,3204031479,3329325298]:List UInt32)
def ZdP (F:Nat):Fs Try.prog:=⟨64,[],[],[],[⟨.ret,[(0,.v (.arr 64 .u32))],[],[(.arr 64 .u32)]⟩],fun x=>Zha F⟩
def ZkD:Fs Try.prog:=ZdP fuel
theorem ZiS:ZkD.Ok:=Zn (fi:={ hi:={},lp:=[]}) (specs:={ l:=[]}) (okS trivial) trivial (by decide+kernel) (fun x=>by kernel_rfl)
def Wo (F:Nat) (s:(Int×(List UInt32)×(List UInt32)×(List UInt32)×(List UInt32)×(List UInt32))):Option ((Int×(List UInt32)×(List UInt32)×(List UInt32)×(List UInt32)×(List UInt32))⊕((List UInt32)×(List UInt32)×(List UInt32)×(List UInt32)×(List UInt32))):=
 if (decide (s.1 < 64))=true then
  (s.2.2.2.2.2[4]?).bind fun e147=>
  (Zw F e147 (-6:Int)).bind fun o148=>
  (s.2.2.2.2.2[4]?).bind fun e149=>
  (Zw F e149 (-11:Int)).bind fun o150=>
  (s.2.2.2.2.2[4]?).bind fun e151=>
  (Zw F e151 (-25:Int)).bind fun o152=>
  (s.2.2.2.2.2[7]?).bind fun e153=>
  (s.2.2.2.2.2[6]?).bind fun e154=>
  (s.2.2.2.2.2[4]?).bind fun e155=>
  (s.2.2.2.2.2[5]?).bind fun e156=>
  (s.2.2.2.2.2[6]?).bind fun e157=>
  let y158:UInt32:=(e153+((o148^^^o150)^^^o152))+(e154^^^(e155&&&(e156^^^e157)))
  if (inB s.1 64)=true then
   (s.2.2.2.2.1[s.1.toNat]?).bind fun e159=>
   if (inB s.1 64)=true then
    (s.2.2.2.1[s.1.toNat]?).bind fun e160=>
    (s.2.2.2.2.2[0]?).bind fun e161=>
    (Zw F e161 (-2:Int)).bind fun o162=>
    (s.2.2.2.2.2[0]?).bind fun e163=>
    (Zw F e163 (-13:Int)).bind fun o164=>
    (s.2.2.2.2.2[0]?).bind fun e165=>
    (Zw F e165 (-22:Int)).bind fun o166=>
    (s.2.2.2.2.2[0]?).bind fun e167=>
    (s.2.2.2.2.2[1]?).bind fun e168=>
    (s.2.2.2.2.2[2]?).bind fun e169=>
    (s.2.2.2.2.2[0]?).bind fun e170=>
    (s.2.2.2.2.2[1]?).bind fun e171=>
    let y172:UInt32:=((y158+e159)+e160)+((o162^^^o164)^^^o166)
    let y173:UInt32:=y172+((e167&&&e168)|||(e169&&&(e170|||e171)))
    (s.2.2.2.2.2[0]?).bind fun e174=>
    (s.2.2.2.2.2[1]?).bind fun e175=>
    (s.2.2.2.2.2[2]?).bind fun e176=>
    (s.2.2.2.2.2[3]?).bind fun e177=>
    (s.2.2.2.2.2[4]?).bind fun e178=>
    (s.2.2.2.2.2[5]?).bind fun e179=>
    (s.2.2.2.2.2[6]?).bind fun e180=>
    some (.inl (wi (s.1+1),s.2.1,s.2.2.1,s.2.2.2.1,s.2.2.2.2.1,([y173,e174,e175,e176,e177+((y158+e159)+e160),e178,e179,e180]:List UInt32)))
   else
   none
  else
  none
 else
 some (.inr (s.2.1,s.2.2.1,s.2.2.2.1,s.2.2.2.2.1,s.2.2.2.2.2))
def Zdo:Lp:=⟨[(2,.ref 0 []),(4,.ref 1 []),(5,.ref 2 []),(6,.ref 3 []),(7,.ref 4 []),(18,.v (.int .i64))],[.var (.v (.arr 8 .u32)) true,.var (.v (.arr 8 .u32)) true,.var (.v (.arr 64 .u32)) true,.var (.v (.arr 64 .u32)) true,.var (.v (.arr 8 .u32)) true],[(.int .i64),(.arr 8 .u32),(.arr 8 .u32),(.arr 64 .u32),(.arr 64 .u32),(.arr 8 .u32)],[⟨.exit 0,[(2,.ref 0 []),(4,.ref 1 []),(7,.ref 4 [])],[.var (.v (.arr 8 .u32)) true,.var (.v (.arr 8 .u32)) true,.var (.v (.arr 64 .u32)) true,.var (.v (.arr 64 .u32)) true,.var (.v (.arr 8 .u32)) true],[(.arr 8 .u32),(.arr 8 .u32),(.arr 64 .u32),(.arr 64 .u32),(.arr 8 .u32)]⟩],Zk (Wo fuel) fuel⟩
theorem Zhb:Zdo.Ok Try.prog (Zt Try.prog 37) (Zp Try.prog 37 0):=Zq (fi:={ hi:={ still:=[14,22,25,29,57,60,64]},lp:=[]}) (specs:={ l:=[Vq]}) (okS ⟨W8,trivial⟩) trivial (by kernel_rfl) (fun v=>by kernel_rfl)
def Wp (F:Nat) (s:(Int×(List UInt32)×(List UInt32)×(List UInt32)×(List UInt32)×(List UInt32))):Option ((Int×(List UInt32)×(List UInt32)×(List UInt32)×(List UInt32)×(List UInt32))⊕((List UInt32)×(List UInt32)×(List UInt32)×(List UInt32)×(List UInt32))):=
 if (decide (s.1 < 8))=true then
  if (inB s.1 8)=true then
   (s.2.2.2.2.2[s.1.toNat]?).bind fun e182=>
   if (inB s.1 8)=true then
    (s.2.1[s.1.toNat]?).bind fun e183=>
    if (inB s.1 8)=true then
     (s.2.2.2.2.2[s.1.toNat]?).bind fun e184=>
     some (.inl (wi (s.1+1),s.2.1,s.2.2.1,s.2.2.2.1,s.2.2.2.2.1,s.2.2.2.2.2.set s.1.toNat (e182+e183)))
    else
    none
   else
   none
  else
  none
 else
 some (.inr (s.2.1,s.2.2.1,s.2.2.2.1,s.2.2.2.2.1,s.2.2.2.2.2))
def Zdp:Lp:=⟨[(2,.ref 0 []),(4,.ref 1 []),(7,.ref 4 []),(104,.v (.int .i64))],[.var (.v (.arr 8 .u32)) true,.var (.v (.arr 8 .u32)) true,.var (.v (.arr 64 .u32)) true,.var (.v (.arr 64 .u32)) true,.var (.v (.arr 8 .u32)) true],[(.int .i64),(.arr 8 .u32),(.arr 8 .u32),(.arr 64 .u32),(.arr 64 .u32),(.arr 8 .u32)],[⟨.exit 2,[(4,.ref 1 []),(7,.ref 4 [])],[.var (.v (.arr 8 .u32)) true,.var (.v (.arr 8 .u32)) true,.var (.v (.arr 64 .u32)) true,.var (.v (.arr 64 .u32)) true,.var (.v (.arr 8 .u32)) true],[(.arr 8 .u32),(.arr 8 .u32),(.arr 64 .u32),(.arr 64 .u32),(.arr 8 .u32)]⟩],Zk (Wp fuel) fuel⟩
theorem Zhc:Zdp.Ok Try.prog (Zt Try.prog 37) (Zp Try.prog 37 1):=Zq (fi:={ hi:={ still:=[14,22,25,29,57,60,64]},lp:=[]}) (specs:={ l:=[]}) (okS trivial) trivial (by kernel_rfl) (fun v=>by kernel_rfl)
def Wy (F:Nat) (a0:(List UInt32)) (a1:(List UInt8)):Option ((List UInt32)):=
 (QA F a1).bind fun o145=>
 (Zha F).bind fun o146=>
 (Zk (Wo F) F ((0:Int),a0,([0,0,0,0,0,0,0,0]:List UInt32),o145,o146,a0)).bind fun o181=>
 (Zk (Wp F) F ((0:Int),o181.1,o181.2.1,o181.2.2.1,o181.2.2.2.1,o181.2.2.2.2)).bind fun o185=>
 some o185.2.2.2.2
def QB (F:Nat):Fs Try.prog:=⟨37,[.v (.arr 8 .u32),.v (.sl .u8)],[],[(.arr 8 .u32),(.sl .u8)],[⟨.ret,[(0,.v (.arr 8 .u32))],[],[(.arr 8 .u32)]⟩],fun x=>Wy F x.1 x.2⟩
def Zal:Fs Try.prog:=QB fuel
theorem QC:Zal.Ok:=Zn (fi:={ hi:={ still:=[14,22,25,29,57,60,64]},lp:=[(0,Zdo),(1,Zdp)]}) (specs:={ l:=[Zf8,ZkD]}) (okS ⟨Zeo,ZiS,trivial⟩) ⟨Zhb,Zhc,trivial⟩ (by decide+kernel) (fun x=>by kernel_rfl)
def ZP (F:Nat) (a0:(List UInt8)):Option ((List UInt8)):=
 if (apB 0 a0.length 1)=true then
  some a0
 else
 none
def Xb (F:Nat):Fs Try.prog:=⟨34,[.sl true .u8],[],[(.sl .u8)],[⟨.ret,[(0,.own 0 .u8)],[.log .u8 5],[(.sl .u8)]⟩],fun x=>ZP F x⟩
def ZbR:Fs Try.prog:=Xb fuel
theorem Wz:ZbR.Ok:=Zn (fi:={ hi:={ own:=[2,5,7]},lp:=[]}) (specs:={ l:=[]}) (okS trivial) trivial (by decide+kernel) (fun x=>by kernel_rfl)
def W9 (F:Nat):Option ((List UInt8)):=
 some ([]:List UInt8)
def Xc (F:Nat):Fs Try.prog:=⟨34,[.nil .u8],[],[],[⟨.ret,[(0,.own 0 .u8)],[.log .u8 5],[(.sl .u8)]⟩],fun x=>W9 F⟩
def ZbS:Fs Try.prog:=Xc fuel
theorem WA:ZbS.Ok:=Zn (fi:={ hi:={ own:=[2,5,7]},lp:=[]}) (specs:={ l:=[]}) (okS trivial) trivial (by decide+kernel) (fun x=>by kernel_rfl)
def YJ (F:Nat):Fs Try.prog:=⟨34,[.v (.sl .u8)],[],[(.sl .u8)],[⟨.ret,[(0,.own 0 .u8)],[.log .u8 5],[(.sl .u8)]⟩],fun x=>ZP F x⟩
def We:Fs Try.prog:=YJ fuel
theorem X7:We.Ok:=ZrV (t:=.u8) (xs:=[⟨.ret,[(0,.own 0 .u8)],[.log .u8 5],[(.sl .u8)]⟩]) (MA:=fun (x:(List UInt8))=>ZP fuel x) (MB:=fun _=>W9 fuel) Wz WA rfl
def Zaw (F:Nat) (s:((List UInt8)×(List UInt8)×(List UInt8))):Option (((List UInt8)×(List UInt8)×(List UInt8))⊕((List UInt8)×(List UInt8)×(List UInt8))):=
 if ((Int.tmod (s.2.2.length:Int) 64)!=56)=true then
  if (apB s.2.2.length 1 1)=true then
   some (.inl (s.1,s.2.1,s.2.2++([0]:List UInt8)))
  else
  none
 else
 some (.inr (s.1,s.2.1,s.2.2))
def ZkE:Lp:=⟨[(0,.v (.sl .u8)),(2,.ref 0 []),(3,.own 1 .u8)],[.var (.v (.arr 32 .u8)) true,.log .u8 5],[(.sl .u8),(.arr 32 .u8),(.sl .u8)],[⟨.exit 0,[(0,.v (.sl .u8)),(2,.ref 0 []),(3,.own 1 .u8)],[.var (.v (.arr 32 .u8)) true,.log .u8 5],[(.sl .u8),(.arr 32 .u8),(.sl .u8)]⟩],Zk (Zaw fuel) fuel⟩
theorem ZmL:ZkE.Ok Try.prog (Zt Try.prog 14) (Zp Try.prog 14 0):=Zq (fi:={ hi:={ own:=[3,14,16,21,23,24,28,43],still:=[13,24,27,35,37,44,46]},lp:=[]}) (specs:={ l:=[]}) (okS trivial) trivial (by kernel_rfl) (fun v=>by kernel_rfl)
def Vj (F:Nat) (s:(Int×Int×(List UInt8)×(List UInt8))):Option ((Int×Int×(List UInt8)×(List UInt8))⊕((List UInt8)×(List UInt8))):=
 if (decide (s.2.1 ≥ 0))=true then
  if (decide (0≤s.2.1))=true then
   if (apB s.2.2.1.length 1 1)=true then
    let y189:(List UInt8):=s.2.2.1++([w8 (Int.fdiv s.1 (2 ^ (min s.2.1.toNat 64)))]:List UInt8)
    some (.inl (s.1,wi (s.2.1 - 8),y189,s.2.2.2))
   else
   none
  else
  none
 else
 some (.inr (s.2.2.1,s.2.2.2))
def Zf9:Lp:=⟨[(0,.own 0 .u8),(1,.v (.int .i64)),(5,.v (.int .i64))],[.log .u8 5,.log .u8 5],[(.int .i64),(.int .i64),(.sl .u8),(.sl .u8)],[⟨.exit 0,[(0,.own 0 .u8)],[.log .u8 5,.log .u8 5],[(.sl .u8),(.sl .u8)]⟩],Zk (Vj fuel) fuel⟩
theorem Zjs:Zf9.Ok Try.prog (Zt Try.prog 35) (Zp Try.prog 35 0):=Zq (fi:={ hi:={ own:=[0,4,10,16,17]},lp:=[]}) (specs:={ l:=[]}) (okS trivial) trivial (by kernel_rfl) (fun v=>by kernel_rfl)
def XX (F:Nat) (a1:Int) (s0:(List UInt8)):Option ((List UInt8)):=
 (Zk (Vj F) F (a1,(56:Int),s0,([]:List UInt8))).bind fun o190=>
 some o190.1
def WB (F:Nat):Fs Try.prog:=⟨35,[.own 0 .u8,.v (.int .i64)],[.log .u8 5],[(.int .i64),(.sl .u8)],[⟨.ret,[(0,.own 0 .u8)],[.log .u8 5],[(.sl .u8)]⟩],fun x=>XX F x.1 x.2⟩
def Zcw:Fs Try.prog:=WB fuel
theorem VH:Zcw.Ok:=Zn (fi:={ hi:={ own:=[0,4,10,16,17]},lp:=[(0,Zf9)]}) (specs:={ l:=[]}) (okS trivial) ⟨Zjs,trivial⟩ (by decide+kernel) (fun x=>by kernel_rfl)
def Zax (F:Nat) (s:((List UInt8)×(List UInt8)×(List UInt8)×(List UInt32))):Option (((List UInt8)×(List UInt8)×(List UInt8)×(List UInt32))⊕((List UInt8)×(List UInt8)×(List UInt32))):=
 if (decide ((s.1.length:Int) ≥ 64))=true then
  if (Vu s.1.length none (some 64))=true then
   (Wy F s.2.2.2 (s.1.take 64)).bind fun o193=>
   if (Vu s.1.length (some 64) none)=true then
    some (.inl (s.1.drop 64,s.2.1,s.2.2.1,o193))
   else
   none
  else
  none
 else
 some (.inr (s.2.1,s.2.2.1,s.2.2.2))
def ZkF:Lp:=⟨[(0,.v (.sl .u8)),(2,.ref 0 []),(3,.own 1 .u8),(4,.ref 2 [])],[.var (.v (.arr 32 .u8)) true,.log .u8 5,.var (.v (.arr 8 .u32)) true],[(.sl .u8),(.arr 32 .u8),(.sl .u8),(.arr 8 .u32)],[⟨.exit 2,[(2,.ref 0 []),(3,.own 1 .u8),(4,.ref 2 [])],[.var (.v (.arr 32 .u8)) true,.log .u8 5,.var (.v (.arr 8 .u32)) true],[(.arr 32 .u8),(.sl .u8),(.arr 8 .u32)]⟩],Zk (Zax fuel) fuel⟩
theorem ZmM:ZkF.Ok Try.prog (Zt Try.prog 14) (Zp Try.prog 14 1):=Zq (fi:={ hi:={ own:=[3,14,16,21,23,24,28,43],still:=[13,24,27,35,37,44,46]},lp:=[]}) (specs:={ l:=[Zal]}) (okS ⟨QC,trivial⟩) trivial (by kernel_rfl) (fun v=>by kernel_rfl)
def Zay (F:Nat) (s:((List UInt8)×(List UInt8)×(List UInt8)×(List UInt32))):Option (((List UInt8)×(List UInt8)×(List UInt8)×(List UInt32))⊕((List UInt8)×(List UInt8)×(List UInt32))):=
 if (decide ((s.1.length:Int) > 0))=true then
  if (Vu s.1.length none (some 64))=true then
   (Wy F s.2.2.2 (s.1.take 64)).bind fun o196=>
   if (Vu s.1.length (some 64) none)=true then
    some (.inl (s.1.drop 64,s.2.1,s.2.2.1,o196))
   else
   none
  else
  none
 else
 some (.inr (s.2.1,s.2.2.1,s.2.2.2))
def ZkG:Lp:=⟨[(2,.ref 0 []),(3,.v (.sl .u8)),(4,.ref 2 [])],[.var (.v (.arr 32 .u8)) true,.log .u8 5,.var (.v (.arr 8 .u32)) true],[(.sl .u8),(.arr 32 .u8),(.sl .u8),(.arr 8 .u32)],[⟨.exit 4,[(2,.ref 0 []),(4,.ref 2 [])],[.var (.v (.arr 32 .u8)) true,.log .u8 5,.var (.v (.arr 8 .u32)) true],[(.arr 32 .u8),(.sl .u8),(.arr 8 .u32)]⟩],Zk (Zay fuel) fuel⟩
theorem ZmN:ZkG.Ok Try.prog (Zt Try.prog 14) (Zp Try.prog 14 2):=Zq (fi:={ hi:={ own:=[3,14,16,21,23,24,28,43],still:=[13,24,27,35,37,44,46]},lp:=[]}) (specs:={ l:=[Zal]}) (okS ⟨QC,trivial⟩) trivial (by kernel_rfl) (fun v=>by kernel_rfl)
def Zaz (F:Nat) (s:(Int×(List UInt8)×(List UInt8)×(List UInt32))):Option ((Int×(List UInt8)×(List UInt8)×(List UInt32))⊕((List UInt8)×(List UInt8)×(List UInt32))):=
 if (decide (s.1 < 32))=true then
  if (inB (wi (Int.tdiv s.1 4)) 8)=true then
   (s.2.2.2[(wi (Int.tdiv s.1 4)).toNat]?).bind fun e198=>
   if (decide (0≤wi (24 - (wi (8*(Int.tmod s.1 4))))))=true then
    let y199:UInt32:=Zf1 e198 (min (wi (24 - (wi (8*(Int.tmod s.1 4))))).toNat 32)
    if (inB s.1 32)=true then
     (s.2.1[s.1.toNat]?).bind fun e200=>
     some (.inl (wi (s.1+1),s.2.1.set s.1.toNat (w8 (y199.toNat:Int)),s.2.2.1,s.2.2.2))
    else
    none
   else
   none
  else
  none
 else
 some (.inr (s.2.1,s.2.2.1,s.2.2.2))
def ZkH:Lp:=⟨[(2,.ref 0 []),(4,.ref 2 []),(48,.v (.int .i64))],[.var (.v (.arr 32 .u8)) true,.log .u8 5,.var (.v (.arr 8 .u32)) true],[(.int .i64),(.arr 32 .u8),(.sl .u8),(.arr 8 .u32)],[⟨.exit 6,[(2,.ref 0 [])],[.var (.v (.arr 32 .u8)) true,.log .u8 5,.var (.v (.arr 8 .u32)) true],[(.arr 32 .u8),(.sl .u8),(.arr 8 .u32)]⟩],Zk (Zaz fuel) fuel⟩
theorem ZmO:ZkH.Ok Try.prog (Zt Try.prog 14) (Zp Try.prog 14 3):=Zq (fi:={ hi:={ own:=[3,14,16,21,23,24,28,43],still:=[13,24,27,35,37,44,46]},lp:=[]}) (specs:={ l:=[]}) (okS trivial) trivial (by kernel_rfl) (fun v=>by kernel_rfl)
def Zcx (F:Nat) (a0:(List UInt8)):Option ((List UInt8)):=
 let y186:Int:=wi ((a0.length:Int) - (Int.tmod (a0.length:Int) 64))
 if (Vu a0.length (some y186) none)=true then
  (ZP F (a0.drop y186.toNat)).bind fun o187=>
  if (apB o187.length 1 1)=true then
   (Zk (Zaw F) F (a0,([0,0,0,0,0,0,0,0,0,0,0,0,0,0,0,0,0,0,0,0,0,0,0,0,0,0,0,0,0,0,0,0]:List UInt8),o187++([128]:List UInt8))).bind fun o188=>
   (XX F (wi (8*(o188.1.length:Int))) o188.2.2).bind fun o191=>
   (Zg8 F).bind fun o192=>
   (Zk (Zax F) F (o188.1,o188.2.1,o191,o192)).bind fun o194=>
   (Zk (Zay F) F (o194.2.1,o194.1,o194.2.1,o194.2.2)).bind fun o197=>
   (Zk (Zaz F) F ((0:Int),o197.1,o197.2.1,o197.2.2)).bind fun o201=>
   some o201.1
  else
  none
 else
 none
def Zfh (F:Nat):Fs Try.prog:=⟨14,[.v (.sl .u8)],[],[(.sl .u8)],[⟨.ret,[(0,.v (.arr 32 .u8))],[],[(.arr 32 .u8)]⟩],fun x=>Zcx F x⟩
def ZtN:Fs Try.prog:=Zfh fuel
theorem Zr1:ZtN.Ok:=Zn (fi:={ hi:={ own:=[3,14,16,21,23,24,28,43],still:=[13,24,27,35,37,44,46]},lp:=[(0,ZkE),(1,ZkF),(2,ZkG),(3,ZkH)]}) (specs:={ l:=[Zcw,We,ZkC]}) (okS ⟨VH,X7,ZiQ,trivial⟩) ⟨ZmL,ZmM,ZmN,ZmO,trivial⟩ (by decide+kernel) (fun x=>by kernel_rfl)
end
end Go.Proofs.Ytehgcchjaamddaa
end
section
namespace Go.Sha
open Go.Ev
noncomputable def Vz {α:Type} (n:Nat) (k:Nat→α):α:=Nat.rec (motive:=fun _=>α) (k 0) (fun m _=>k (Nat.succ m)) n
theorem YU {α:Type} (n:Nat) (k:Nat→α):Vz n k=k n:=by cases n <;> rfl
def dbl (x:Nat):Nat:=Nat.mul x 4294967297
def s0 (x:Nat):Nat:=Nat.xor (Nat.xor (Nat.shiftRight (dbl x) 7) (Nat.shiftRight (dbl x) 18)) (Nat.shiftRight x 3)
def s1 (x:Nat):Nat:=Nat.xor (Nat.xor (Nat.shiftRight (dbl x) 17) (Nat.shiftRight (dbl x) 19)) (Nat.shiftRight x 10)
def S0 (x:Nat):Nat:=Nat.xor (Nat.xor (Nat.shiftRight (dbl x) 2) (Nat.shiftRight (dbl x) 13)) (Nat.shiftRight (dbl x) 22)
def S1 (x:Nat):Nat:=Nat.xor (Nat.xor (Nat.shiftRight (dbl x) 6) (Nat.shiftRight (dbl x) 11)) (Nat.shiftRight (dbl x) 25)
def ch (e f g:Nat):Nat:=Nat.xor g (Nat.land e (Nat.xor f g))
def mj (a b c:Nat):Nat:=Nat.lor (Nat.land a b) (Nat.land c (Nat.lor a b))
def lo (x:Nat):Nat:=Nat.mod x 4294967296
def kw (W:Nat):Nat:=lo (Nat.add (Nat.add (Nat.add (Nat.shiftRight W 480) (s0 (lo (Nat.shiftRight W 448)))) (lo (Nat.shiftRight W 192))) (s1 (lo (Nat.shiftRight W 32))))
def kn (W:Nat):Nat:=Nat.mod (Nat.add (Nat.mul W 4294967296) (kw W)) (Nat.pow 2 512)
noncomputable def kst (k:Nat) (ih:Nat→Nat→Nat→Nat→Nat→Nat→Nat→Nat→Nat→Nat) (W a b c d e f g h:Nat):Nat:=
 Vz (Nat.add (Nat.add (Nat.add (Nat.add h (S1 e)) (ch e f g)) k) (Nat.shiftRight W 480)) fun t=>
     Vz (lo (Nat.add (Nat.add t (S0 a)) (mj a b c))) fun a'=>Vz (lo (Nat.add d t)) fun e'=>Vz (kn W) fun W'=>ih W' a' a b c e' e f g
noncomputable def kgo (ks:List Nat) (K:Nat→Nat→Nat→Nat→Nat→Nat→Nat→Nat→Nat):Nat→Nat→Nat→Nat→Nat→Nat→Nat→Nat→Nat→Nat:=
 List.rec (motive:=fun _=>Nat→Nat→Nat→Nat→Nat→Nat→Nat→Nat→Nat→Nat) (fun _=>K) (fun k _ ih=>kst k ih) ks
def ks:List Nat:=[1116352408,1899447441,3049323471,3921009573,961987163,1508970993,2453635748,2870763221,3624381080,310598401,607225278,1426881987,1925078388,2162078206,2614888103,3248222580,3835390401,4022224774,264347078,604807628,770255983,1249150122,1555081692,1996064986,2554220882,2821834349,2952996808,3210313671,3336571891,3584528711,113926993,338241895,666307205,773529912,1294757372,1396182291,1695183700,1986661051,2177026350,2456956037,2730485921,2820302411,3259730800,3345764771,3516065817,3600352804,4094571909,275423344,430227734,506948616,659060556,883997877,958139571,1322822218,1537002063,1747873779,1955562222,2024104815,2227730452,2361852424,2428436474,2756734187,3204031479,3329325298]
def w32 (H i:Nat):Nat:=lo (Nat.shiftRight H i)
def cat (H x:Nat):Nat:=Nat.add (Nat.mul H 4294967296) (lo x)
noncomputable def ZBn (H B:Nat):Nat:=
 Vz (w32 H 224) fun a=>Vz (w32 H 192) fun b=>Vz (w32 H 160) fun c=>Vz (w32 H 128) fun d=>Vz (w32 H 96) fun e=>Vz (w32 H 64) fun f=>Vz (w32 H 32) fun g=>Vz (w32 H 0) fun h=>
  kgo ks (fun a' b' c' d' e' f' g' h'=>cat (cat (cat (cat (cat (cat (cat (cat 0 (Nat.add a' a)) (Nat.add b' b)) (Nat.add c' c)) (Nat.add d' d)) (Nat.add e' e)) (Nat.add f' f)) (Nat.add g' g)) (Nat.add h' h)) B a b c d e f g h
noncomputable def pk (l:List Nat) (n:Nat):Nat:=List.rec (motive:=fun _=>Nat→Nat) (fun n=>n) (fun x _ ih n=>Vz (Nat.add (Nat.mul n 256) x) ih) l n
noncomputable def ZCS (n:Nat) (l:List Nat) (H:Nat):Nat:=
 Nat.rec (motive:=fun _=>List Nat→Nat→Nat) (fun _ H=>H) (fun _ ih l H=>Vz (ZBn H (pk (l.take 64) 0)) fun H'=>ih (l.drop 64) H') n l H
noncomputable def ZW (H:Nat) (l:List Nat):List UInt8:=List.rec (motive:=fun _=>List UInt8) [] (fun s _ ih=>Vz (Nat.mod (Nat.shiftRight H s) 256) fun x=>UInt8.ofNat x::ih) l
def Zvi:List Nat:=[248,240,232,224,216,208,200,192,184,176,168,160,152,144,136,128,120,112,104,96,88,80,72,64,56,48,40,32,24,16,8,0]
def be8 (n:Nat):List Nat:=[n / 2 ^ 56 % 256,n / 2 ^ 48 % 256,n / 2 ^ 40 % 256,n / 2 ^ 32 % 256,n / 2 ^ 24 % 256,n / 2 ^ 16 % 256,n / 2 ^ 8 % 256,n % 256]
def zs (n:Nat):Nat:=(119 - n % 64) % 64
def H0:Nat:=cat (cat (cat (cat (cat (cat (cat (cat 0 1779033703) 3144134277) 1013904242) 2773480762) 1359893119) 2600822924) 528734635) 1541459225
noncomputable def sha (l:List UInt8):List UInt8:=
 Vz l.length fun n=>Vz (ZCS (Nat.div (Nat.add n 72) 64) (l.map UInt8.toNat++(128::(List.replicate (zs n) 0++be8 (8*n)))) H0) fun H=>ZW H Zvi
theorem Zhd (x y:UInt32):(x+y).toNat=lo (x.toNat+y.toNat):=by rw [UInt32.toNat_add];rfl
theorem ZiT (x y:UInt32):(x^^^y).toNat=Nat.xor x.toNat y.toNat:=UInt32.toNat_xor ..
theorem ZzK (x y:UInt32):(x&&&y).toNat=Nat.land x.toNat y.toNat:=UInt32.toNat_and ..
theorem ZxN (x y:UInt32):(x|||y).toNat=Nat.lor x.toNat y.toNat:=UInt32.toNat_or ..
theorem ZCT (x:UInt32):x.toNat < 4294967296:=x.toNat_lt
theorem ZtO (x:UInt32) (n:Nat):(Zf1 x n).toNat=Nat.shiftRight x.toNat n:=by
 unfold Zf1
 rw [UInt32.toNat_ofNat',show Nat.shiftRight x.toNat n=x.toNat >>> n from rfl,Nat.shiftRight_eq_div_pow]
 exact Nat.mod_eq_of_lt (Nat.lt_of_le_of_lt (Nat.div_le_self _ _) (ZCT x))
theorem ZBK (x:Nat):lo x < 4294967296:=Nat.mod_lt _ (by omega)
theorem QZ {x:Nat} (h:x < 4294967296):lo x=x:=Nat.mod_eq_of_lt h
theorem ZDn (x:UInt32) {n k:Nat} (h:n+k=32) (hn:0 < n):(ZgK x k|||Zf1 x n).toNat=lo (Nat.shiftRight (dbl x.toNat) n):=by
 rw [ZxN,ZtO]
 unfold ZgK
 have hx:=ZCT x
 generalize x.toNat=m at hx
 have hp:2 ^ n*2 ^ k=4294967296:=by rw [←Nat.pow_add,h]
 rw [UInt32.toNat_ofNat',show Nat.shiftRight m n=m >>> n from rfl,Nat.shiftRight_eq_div_pow,show Nat.shiftRight (dbl m) n=(dbl m) >>> n from rfl,Nat.shiftRight_eq_div_pow]
 have e1:m*2 ^ k % 2 ^ 32=2 ^ k*(m % 2 ^ n):=by
  rw [show (2:Nat) ^ 32=2 ^ n*2 ^ k from hp.symm,Nat.mul_mod_mul_right]
  exact Nat.mul_comm ..
 have hd:m / 2 ^ n < 2 ^ k:=by
  rw [Nat.div_lt_iff_lt_mul (Nat.two_pow_pos n),Nat.mul_comm,hp]
  exact hx
 rw [e1,show Nat.lor (2 ^ k*(m % 2 ^ n)) (m / 2 ^ n)=2 ^ k*(m % 2 ^ n)|||m / 2 ^ n from rfl, ←Nat.two_pow_add_eq_or_of_lt hd]
 have e2:dbl m=2 ^ n*(m*2 ^ k)+m:=by
  unfold dbl
  rw [Nat.mul_left_comm,hp,show Nat.mul m 4294967297=m*4294967297 from rfl]
  omega
 rw [e2,Nat.mul_add_div (Nat.two_pow_pos n)]
 unfold lo
 rw [show Nat.mod (m*2 ^ k+m / 2 ^ n) 4294967296=(m*2 ^ k+m / 2 ^ n) % 4294967296 from rfl,Nat.add_mod,show m*2 ^ k % 4294967296=2 ^ k*(m % 2 ^ n) from e1,Nat.mod_eq_of_lt (a:=m / 2 ^ n) (b:=4294967296) (by rw [←hp];exact Nat.lt_of_lt_of_le hd (Nat.le_mul_of_pos_left _ (Nat.two_pow_pos n)))]
 refine (Nat.mod_eq_of_lt ?_).symm
 have hm:m % 2 ^ n < 2 ^ n:=Nat.mod_lt _ (Nat.two_pow_pos n)
 calc 2 ^ k*(m % 2 ^ n)+m / 2 ^ n < 2 ^ k*(m % 2 ^ n)+2 ^ k:=by omega
  _=2 ^ k*(m % 2 ^ n+1):=by rw [Nat.mul_add,Nat.mul_one]
  _≤2 ^ k*2 ^ n:=Nat.mul_le_mul_left _ hm
  _=4294967296:=by rw [Nat.mul_comm,hp]
theorem Zhe (x y:Nat):lo (Nat.xor x y)=Nat.xor (lo x) (lo y):=Nat.xor_mod_two_pow (n:=32)
theorem ZzL (x:UInt32) (n:Nat):lo (Nat.shiftRight x.toNat n)=Nat.shiftRight x.toNat n:=by
 rw [←ZtO]
 exact QZ (ZCT _)
theorem ZDB (x:UInt32) {a b:UInt32} (ha:a.toNat=lo (Nat.shiftRight (dbl x.toNat) 7)) (hb:b.toNat=lo (Nat.shiftRight (dbl x.toNat) 18)):((a^^^b)^^^Zf1 x 3).toNat=lo (s0 x.toNat):=by
 unfold s0
 rw [ZiT,ZiT,ZtO,ha,hb,Zhe,Zhe,ZzL]
theorem ZDC (x:UInt32) {a b:UInt32} (ha:a.toNat=lo (Nat.shiftRight (dbl x.toNat) 17)) (hb:b.toNat=lo (Nat.shiftRight (dbl x.toNat) 19)):((a^^^b)^^^Zf1 x 10).toNat=lo (s1 x.toNat):=by
 unfold s1
 rw [ZiT,ZiT,ZtO,ha,hb,Zhe,Zhe,ZzL]
theorem ZDD (x:UInt32) {a b c:UInt32} (ha:a.toNat=lo (Nat.shiftRight (dbl x.toNat) 2)) (hb:b.toNat=lo (Nat.shiftRight (dbl x.toNat) 13)) (hc:c.toNat=lo (Nat.shiftRight (dbl x.toNat) 22)):((a^^^b)^^^c).toNat=lo (S0 x.toNat):=by
 unfold S0
 rw [ZiT,ZiT,ha,hb,hc,Zhe,Zhe]
theorem ZDE (x:UInt32) {a b c:UInt32} (ha:a.toNat=lo (Nat.shiftRight (dbl x.toNat) 6)) (hb:b.toNat=lo (Nat.shiftRight (dbl x.toNat) 11)) (hc:c.toNat=lo (Nat.shiftRight (dbl x.toNat) 25)):((a^^^b)^^^c).toNat=lo (S1 x.toNat):=by
 unfold S1
 rw [ZiT,ZiT,ha,hb,hc,Zhe,Zhe]
theorem ZDF (e f g:UInt32):(g^^^(e&&&(f^^^g))).toNat=ch e.toNat f.toNat g.toNat:=by
 unfold ch
 rw [ZiT,ZzK,ZiT]
theorem ZDG (a b c:UInt32):((a&&&b)|||(c&&&(a|||b))).toNat=mj a.toNat b.toNat c.toNat:=by
 unfold mj
 rw [ZxN,ZzK,ZzK,ZxN]
theorem ZDH (a b c d:Nat):lo (lo (lo (a+lo b)+c)+lo d)=lo (a+b+c+d):=by
 show (((a+b % 4294967296) % 4294967296+c) % 4294967296+d % 4294967296) % 4294967296=(a+b+c+d) % 4294967296
 omega
theorem ZDI (a b c d e:Nat):lo (lo (lo (lo (a+lo b)+c)+d)+e)=lo (Nat.add (Nat.add (Nat.add (Nat.add a b) c) d) e):=by
 show ((((a+b % 4294967296) % 4294967296+c) % 4294967296+d) % 4294967296+e) % 4294967296=(a+b+c+d+e) % 4294967296
 omega
theorem ZDJ (t s m:Nat):lo (lo (lo t+lo s)+m)=lo (Nat.add (Nat.add t s) m):=by
 show ((t % 4294967296+s % 4294967296) % 4294967296+m) % 4294967296=(t+s+m) % 4294967296
 omega
theorem ZDK (d t:Nat):lo (d+lo t)=lo (Nat.add d t):=by
 show (d+t % 4294967296) % 4294967296=(d+t) % 4294967296
 omega
def pw (n:Nat) (l:List Nat):Nat:=l.foldl (fun n x=>n*4294967296+x) n
theorem Zvj:∀(l:List Nat) (n:Nat),(∀x,x∈l→x < 4294967296)→pw n l / 2 ^ (32*l.length)=n
 |[],n,_=>by simp [pw]
 |x::r,n,h=>by
  have ih:=Zvj r (n*4294967296+x) (fun y hy=>h y (List.mem_cons_of_mem _ hy))
  have hx:=h x (List.mem_cons_self ..)
  rw [show pw n (x::r)=pw (n*4294967296+x) r from rfl,List.length_cons,show 32*(r.length+1)=32*r.length+32 by omega,Nat.pow_add, ←Nat.div_div_eq_div_mul,ih]
  omega
theorem ZkI:∀(l:List Nat) (n:Nat),pw n l=n*2 ^ (32*l.length)+pw 0 l
 |[],n=>by simp [pw]
 |x::r,n=>by
  rw [show pw n (x::r)=pw (n*4294967296+x) r from rfl,show pw 0 (x::r)=pw (0*4294967296+x) r from rfl,ZkI r (n*4294967296+x),ZkI r (0*4294967296+x),List.length_cons,show 32*(r.length+1)=32+32*r.length by omega,Nat.pow_add,Nat.zero_mul,
   Nat.zero_add,Nat.add_mul, ←Nat.mul_assoc,Nat.add_assoc]
theorem ZBL:∀(l:List Nat),(∀x,x∈l→x < 4294967296)→pw 0 l < 2 ^ (32*l.length)
 |[],_=>by simp [pw]
 |x::r,h=>by
  have ih:=ZBL r (fun y hy=>h y (List.mem_cons_of_mem _ hy))
  have hx:=h x (List.mem_cons_self ..)
  rw [show pw 0 (x::r)=pw (0*4294967296+x) r from rfl,ZkI,List.length_cons,show 32*(r.length+1)=32+32*r.length by omega,Nat.pow_add,Nat.zero_mul,Nat.zero_add]
  have:(x+1)*2 ^ (32*r.length)≤2 ^ 32*2 ^ (32*r.length):=Nat.mul_le_mul_right _ (by omega)
  rw [Nat.add_mul,Nat.one_mul] at this
  omega
theorem ZBM {n x s:Nat} {r:List Nat} (h:∀y,y∈r→y < 4294967296) (hs:s=32*r.length):Nat.shiftRight (pw n (x::r)) s=n*4294967296+x:=by
 subst hs
 rw [show Nat.shiftRight (pw n (x::r)) (32*r.length)=pw n (x::r) >>> (32*r.length) from rfl,Nat.shiftRight_eq_div_pow]
 exact Zvj r (n*4294967296+x) h
theorem ZBN {n x s:Nat} {r:List Nat} (hx:x < 4294967296) (h:∀y,y∈r→y < 4294967296) (hs:s=32*r.length):lo (Nat.shiftRight (pw n (x::r)) s)=x:=by
 rw [ZBM h hs]
 show (n*4294967296+x) % 4294967296=x
 omega
theorem Zvk (n:Nat) (l r:List Nat):pw n (l++r)=pw (pw n l) r:=List.foldl_append ..
theorem Zwu (n x:Nat) (r:List Nat):pw n (x::r)=pw (n*4294967296+x) r:=rfl
theorem Zdq {v l r:List Nat} {x s:Nat} (e:v=l++x::r) (h:∀y,y∈v→y < 4294967296) (hs:s=32*r.length):lo (Nat.shiftRight (pw 0 v) s)=x:=by
 rw [e] at h ⊢
 rw [Zvk]
 exact ZBN (h x (by simp)) (fun y hy=>h y (by simp [hy])) hs
def wd (ws:List Nat) (n:Nat):Nat:=if h:n < 16 then lo (ws.getD n 0) else lo (wd ws (n - 16)+s0 (wd ws (n - 15))+wd ws (n - 7)+s1 (wd ws (n - 2)))
termination_by n
decreasing_by all_goals omega
theorem ZDo (ws:List Nat) (n:Nat):wd ws n < 4294967296:=by
 rw [wd]
 split <;> exact ZBK _
theorem Zwv (ws:List Nat) (n:Nat):wd ws (n+16)=lo (wd ws n+s0 (wd ws (n+1))+wd ws (n+9)+s1 (wd ws (n+14))):=by
 rw [wd,dif_neg (by omega)]
 simp only [Nat.add_sub_cancel,show n+16 - 15=n+1 by omega,show n+16 - 7=n+9 by omega,show n+16 - 2=n+14 by omega]
def win (ws:List Nat) (i:Nat):List Nat:=[wd ws i,wd ws (i+1),wd ws (i+2),wd ws (i+3),wd ws (i+4),wd ws (i+5),wd ws (i+6),wd ws (i+7),wd ws (i+8),wd ws (i+9),wd ws (i+10),wd ws (i+11),wd ws (i+12),wd ws (i+13),wd ws (i+14),wd ws (i+15)]
theorem Zvl {ws:List Nat} {i:Nat} {l:List Nat} (h:∀x,x∈l→∃j,x=wd ws j):∀x,x∈l→x < 4294967296:=fun x hx=>by
 obtain ⟨j,rfl⟩:=h x hx
 exact ZDo _ _
theorem Zww (ws:List Nat) (i:Nat):Nat.shiftRight (pw 0 (win ws i)) 480=wd ws i:=by
 have h:=ZBM (n:=0) (x:=wd ws i) (s:=480) (r:=(win ws i).tail) (Zvl (ws:=ws) (i:=i) (fun x hx=>by
  simp only [win,List.tail_cons,List.mem_cons,List.not_mem_nil,or_false] at hx
  rcases hx with h|h|h|h|h|h|h|h|h|h|h|h|h|h|h <;> exact ⟨_,h⟩)) rfl
 rw [Nat.zero_mul,Nat.zero_add] at h
 exact h
theorem ZCU (ws:List Nat) (i:Nat):kw (pw 0 (win ws i))=wd ws (i+16):=by
 have key:∀(l r:List Nat) (x s:Nat),win ws i=l++x::r→s=32*r.length→lo (Nat.shiftRight (pw 0 (win ws i)) s)=x:=by
  intro l r x s e hs
  have hall:∀y,y∈win ws i→y < 4294967296:=Zvl (i:=i) fun x hx=>by
   simp only [win,List.mem_cons,List.not_mem_nil,or_false] at hx
   rcases hx with h|h|h|h|h|h|h|h|h|h|h|h|h|h|h|h <;> exact ⟨_,h⟩
  rw [e] at hall ⊢
  rw [Zvk]
  exact ZBN (hall x (by simp)) (fun y hy=>hall y (by simp [hy])) hs
 unfold kw
 rw [Zww,key [_] _ (wd ws (i+1)) 448 rfl rfl,key [_,_,_,_,_,_,_,_,_] _ (wd ws (i+9)) 192 rfl rfl,key [_,_,_,_,_,_,_,_,_,_,_,_,_,_] _ (wd ws (i+14)) 32 rfl rfl,Zwv]
 rfl
theorem ZBo (a b m:Nat) (h:b < 2 ^ m):Nat.mod (a*2 ^ m+b) (Nat.pow 2 m)=b:=by
 show (a*2 ^ m+b) % 2 ^ m=b
 rw [Nat.mul_comm,Nat.mul_add_mod]
 exact Nat.mod_eq_of_lt h
theorem ZCV (ws:List Nat) (i:Nat):kn (pw 0 (win ws i))=pw 0 (win ws (i+1)):=by
 have e:Nat.add (Nat.mul (pw 0 (win ws i)) 4294967296) (kw (pw 0 (win ws i)))=pw (wd ws i) (win ws (i+1)):=by
  rw [ZCU]
  show pw 0 (win ws i)*4294967296+wd ws (i+16)=pw (wd ws i) (win ws (i+1))
  rw [show wd ws i=0*4294967296+wd ws i by omega]
  rfl
 unfold kn
 rw [e,ZkI]
 have hl:(win ws (i+1)).length=16:=rfl
 have hlt:=ZBL (win ws (i+1)) (Zvl (i:=i+1) fun x hx=>by
  simp only [win,List.mem_cons,List.not_mem_nil,or_false] at hx
  rcases hx with h|h|h|h|h|h|h|h|h|h|h|h|h|h|h|h <;> exact ⟨_,h⟩)
 rw [show 512=32*(win ws (i+1)).length by rw [hl]]
 exact ZBo _ _ _ hlt
def rnd (v:List Nat) (k w:Nat):List Nat:=match v with
 |[a,b,c,d,e,f,g,h]=>[lo (Nat.add (Nat.add (Nat.add (Nat.add (Nat.add (Nat.add h (S1 e)) (ch e f g)) k) w) (S0 a)) (mj a b c)),a,b,c,lo (Nat.add d (Nat.add (Nat.add (Nat.add (Nat.add h (S1 e)) (ch e f g)) k) w)),e,f,g]
 |_=>[]
def rs (ws v:List Nat):Nat→List Nat
 |0=>v
 |i+1=>rnd (rs ws v i) (ks.getD i 0) (wd ws i)
theorem ZBp {v:List Nat} (h:v.length=8) (k w:Nat):(rnd v k w).length=8:=by
 match v,h with
 |[a,b,c,d,e,f,g,h],_=>rfl
theorem Zr2 {ws v:List Nat} (h:v.length=8):∀i,(rs ws v i).length=8
 |0=>h
 |i+1=>ZBp (Zr2 h i) _ _
noncomputable def ZzM (f:Nat→Nat→Nat→Nat→Nat→Nat→Nat→Nat→Nat) (v:List Nat):Nat:=match v with
 |[a,b,c,d,e,f',g,h]=>f a b c d e f' g h
 |_=>0
theorem Zh6 {F:Nat→Nat→Nat→Nat→Nat→Nat→Nat→Nat→Nat} {a b c d e f g h:Nat}:ZzM F [a,b,c,d,e,f,g,h]=F a b c d e f g h:=rfl
theorem ZzN (k:Nat) (l:List Nat) (K:Nat→Nat→Nat→Nat→Nat→Nat→Nat→Nat→Nat):kgo (k::l) K=kst k (kgo l K):=rfl
theorem ZtP (a b c d e f g h k w:Nat):rnd [a,b,c,d,e,f,g,h] k w=[lo (Nat.add (Nat.add (Nat.add (Nat.add (Nat.add (Nat.add h (S1 e)) (ch e f g)) k) w) (S0 a)) (mj a b c)),a,b,c,lo (Nat.add d (Nat.add (Nat.add (Nat.add (Nat.add h (S1 e)) (ch e f g)) k) w)),e,f,g]:=rfl
theorem ZCW (k:Nat) (ih:Nat→Nat→Nat→Nat→Nat→Nat→Nat→Nat→Nat→Nat) (W a b c d e f g h:Nat):kst k ih W a b c d e f g h=
 ih (kn W) (lo (Nat.add (Nat.add (Nat.add (Nat.add (Nat.add (Nat.add h (S1 e)) (ch e f g)) k) (Nat.shiftRight W 480)) (S0 a)) (mj a b c))) a b c (lo (Nat.add d (Nat.add (Nat.add (Nat.add (Nat.add h (S1 e)) (ch e f g)) k) (Nat.shiftRight W 480)))) e f g:=by
 unfold kst
 rw [YU,YU,YU,YU]
theorem ZzO {ws v:List Nat} {K:Nat→Nat→Nat→Nat→Nat→Nat→Nat→Nat→Nat} {k w:Nat} {l:List Nat} (hv:v.length=8) {W:Nat} (hW:Nat.shiftRight W 480=w):ZzM (kgo (k::l) K W) v=ZzM (kgo l K (kn W)) (rnd v k w):=by
 match v,hv with
 |[a,b,c,d,e,f,g,h],_=>
  rw [ZzN,Zh6,ZCW,hW,ZtP,Zh6]
theorem Zwx {ws v:List Nat} {K:Nat→Nat→Nat→Nat→Nat→Nat→Nat→Nat→Nat} (hv:v.length=8):∀(m i:Nat),i+m=64→ZzM (kgo (ks.drop i) K (pw 0 (win ws i))) (rs ws v i)=ZzM K (rs ws v 64)
 |0,i,h=>by
  have e:i=64:=by omega
  subst e
  rw [show ks.drop 64=[] from rfl]
  generalize pw 0 (win ws 64)=W
  rfl
 |m+1,i,h=>by
  have hi:i < ks.length:=by show i < 64;omega
  rw [List.drop_eq_getElem_cons hi,ZzO (ws:=ws) (Zr2 hv i) (Zww ws i),ZCV]
  have:=Zwx (ws:=ws) (K:=K) hv m (i+1) (by omega)
  rw [show rs ws v (i+1)=rnd (rs ws v i) (ks.getD i 0) (wd ws i) from rfl,show ks.getD i 0=ks[i] by rw [List.getD_eq_getElem?_getD,List.getElem?_eq_getElem hi];rfl] at this
  exact this
def ZkJ (v ws:List Nat):List Nat:=List.zipWith (fun x y=>lo (x+y)) (rs ws v 64) v
theorem Zhf {v ws:List Nat} (h:v.length=8):(ZkJ v ws).length=8:=by
 rw [ZkJ,List.length_zipWith,Zr2 h,h]
 rfl
theorem Zwy {v ws:List Nat}:∀x,x∈ZkJ v ws→x < 4294967296:=by
 intro x hx
 unfold ZkJ at hx
 rw [List.mem_iff_getElem] at hx
 obtain ⟨i,hi,rfl⟩:=hx
 rw [List.getElem_zipWith]
 exact ZBK _
theorem ZBq {v ws:List Nat} (hv:v.length=8) (hlt:∀x,x∈v→x < 4294967296) (hw:ws.length=16) (hwl:∀x,x∈ws→x < 4294967296):ZBn (pw 0 v) (pw 0 ws)=pw 0 (ZkJ v ws):=by
 have e0:ws=win ws 0:=by
  match ws,hw with
  |[a0,a1,a2,a3,a4,a5,a6,a7,a8,a9,a10,a11,a12,a13,a14,a15],_=>
   simp only [List.mem_cons,List.not_mem_nil,or_false,forall_eq_or_imp,forall_eq] at hwl
   obtain ⟨h0,h1,h2,h3,h4,h5,h6,h7,h8,h9,h10,h11,h12,h13,h14,h15⟩:=hwl
   have hs:∀n,n < 16→wd [a0,a1,a2,a3,a4,a5,a6,a7,a8,a9,a10,a11,a12,a13,a14,a15] n=lo ([a0,a1,a2,a3,a4,a5,a6,a7,a8,a9,a10,a11,a12,a13,a14,a15].getD n 0):=fun n hn=>by rw [wd,dif_pos hn]
   unfold win
   rw [hs 0 (by omega),hs (0+1) (by omega),hs (0+2) (by omega),hs (0+3) (by omega),hs (0+4) (by omega),hs (0+5) (by omega),hs (0+6) (by omega),hs (0+7) (by omega),hs (0+8) (by omega),hs (0+9) (by omega),hs (0+10) (by omega),hs (0+11) (by omega),hs (0+12) (by omega),hs (0+13) (by omega),hs (0+14) (by omega),hs (0+15) (by omega)]
   show _=[lo a0,lo a1,lo a2,lo a3,lo a4,lo a5,lo a6,lo a7,lo a8,lo a9,lo a10,lo a11,lo a12,lo a13,lo a14,lo a15]
   rw [QZ h0,QZ h1,QZ h2,QZ h3,QZ h4,QZ h5,QZ h6,QZ h7,QZ h8,QZ h9,QZ h10,QZ h11,QZ h12,QZ h13,QZ h14,QZ h15]
 match v,hv with
 |[a,b,c,d,e,f,g,h],hv=>
  have ea:w32 (pw 0 [a,b,c,d,e,f,g,h]) 224=a:=Zdq (l:=[]) (r:=[b,c,d,e,f,g,h]) rfl hlt rfl
  have eb:w32 (pw 0 [a,b,c,d,e,f,g,h]) 192=b:=Zdq (l:=[a]) (r:=[c,d,e,f,g,h]) rfl hlt rfl
  have ec:w32 (pw 0 [a,b,c,d,e,f,g,h]) 160=c:=Zdq (l:=[a,b]) (r:=[d,e,f,g,h]) rfl hlt rfl
  have ed:w32 (pw 0 [a,b,c,d,e,f,g,h]) 128=d:=Zdq (l:=[a,b,c]) (r:=[e,f,g,h]) rfl hlt rfl
  have ee:w32 (pw 0 [a,b,c,d,e,f,g,h]) 96=e:=Zdq (l:=[a,b,c,d]) (r:=[f,g,h]) rfl hlt rfl
  have ef:w32 (pw 0 [a,b,c,d,e,f,g,h]) 64=f:=Zdq (l:=[a,b,c,d,e]) (r:=[g,h]) rfl hlt rfl
  have eg:w32 (pw 0 [a,b,c,d,e,f,g,h]) 32=g:=Zdq (l:=[a,b,c,d,e,f]) (r:=[h]) rfl hlt rfl
  have eh:w32 (pw 0 [a,b,c,d,e,f,g,h]) 0=h:=Zdq (l:=[a,b,c,d,e,f,g]) (r:=[]) rfl hlt rfl
  unfold ZBn
  rw [ea,eb,ec,ed,ee,ef,eg,eh,YU,YU,YU,YU,YU,YU,YU,YU]
  have hr:=Zwx (ws:=ws) (v:=[a,b,c,d,e,f,g,h]) (K:=fun a' b' c' d' e' f' g' h'=>cat (cat (cat (cat (cat (cat (cat (cat 0 (Nat.add a' a)) (Nat.add b' b)) (Nat.add c' c)) (Nat.add d' d)) (Nat.add e' e)) (Nat.add f' f)) (Nat.add g' g)) (Nat.add h' h)) rfl 64 0 rfl
  rw [←e0,show ks.drop 0=ks from rfl,show rs ws [a,b,c,d,e,f,g,h] 0=[a,b,c,d,e,f,g,h] from rfl,Zh6] at hr
  rw [hr]
  unfold ZkJ
  generalize rs ws [a,b,c,d,e,f,g,h] 64=q,Zr2 (ws:=ws) hv 64=hq
  match q,hq with
  |[a',b',c',d',e',f',g',h'],_=>
   rw [Zh6]
   simp only [List.zipWith_cons_cons,List.zipWith_nil_right,Zwu,cat]
   rfl
theorem Zm9 (x:Nat) (l:List Nat) (n:Nat):pk (x::l) n=pk l (n*256+x):=by
 show Vz (Nat.add (Nat.mul n 256) x) (pk l)=_
 rw [YU]
 rfl
def YO:List Nat→List Nat
 |a::b::c::d::r=>(((a*256+b)*256+c)*256+d)::YO r
 |_=>[]
theorem ZtQ:∀(m:Nat) (l:List Nat) (n:Nat),l.length=4*m→pk l n=pw n (YO l)
 |0,[],n,_=>rfl
 |0,_::_,_,h=>by simp at h
 |m+1,[],_,h=>by simp at h
 |m+1,[_],_,h=>by simp at h;omega
 |m+1,[_,_],_,h=>by simp at h;omega
 |m+1,[_,_,_],_,h=>by simp at h;omega
 |m+1,a::b::c::d::r,n,h=>by
  rw [Zm9,Zm9,Zm9,Zm9,YO]
  rw [ZtQ m r _ (by simp at h;omega),Zwu]
  have e:(((n*256+a)*256+b)*256+c)*256+d=n*4294967296+(((a*256+b)*256+c)*256+d):=by omega
  rw [e]
theorem Zmq:∀(m:Nat) (l:List Nat),l.length=4*m→(YO l).length=m
 |0,[],_=>rfl
 |0,_::_,h=>by simp at h
 |m+1,[],h=>by simp at h
 |m+1,[_],h=>by simp at h;omega
 |m+1,[_,_],h=>by simp at h;omega
 |m+1,[_,_,_],h=>by simp at h;omega
 |m+1,a::b::c::d::r,h=>by
  rw [YO,List.length_cons,Zmq m r (by simp at h;omega)]
theorem ZoC:∀(m:Nat) (l:List Nat),l.length=4*m→(∀x,x∈l→x < 256)→∀x,x∈YO l→x < 4294967296
 |0,[],_,_,x,hx=>by simp [YO] at hx
 |0,_::_,h,_,_,_=>by simp at h
 |m+1,[],h,_,_,_=>by simp at h
 |m+1,[_],h,_,_,_=>by simp at h;omega
 |m+1,[_,_],h,_,_,_=>by simp at h;omega
 |m+1,[_,_,_],h,_,_,_=>by simp at h;omega
 |m+1,a::b::c::d::r,h,hl,x,hx=>by
  rw [YO] at hx
  have h1:=hl a (by simp)
  have h2:=hl b (by simp)
  have h3:=hl c (by simp)
  have h4:=hl d (by simp)
  rcases List.mem_cons.1 hx with rfl|hx
  ·omega
  ·exact ZoC m r (by simp at h;omega) (fun y hy=>hl y (by simp [hy])) x hx
theorem Zmr:∀(i:Nat) (l:List Nat) (a b c d:Nat),l[4*i]? =some a→l[4*i+1]? =some b→l[4*i+2]? =some c→l[4*i+3]? =some d→(YO l)[i]? =some (((a*256+b)*256+c)*256+d)
 |0,[],_,_,_,_,h,_,_,_=>by simp at h
 |0,[_],_,_,_,_,_,h,_,_=>by simp at h
 |0,[_,_],_,_,_,_,_,_,h,_=>by simp at h
 |0,[_,_,_],_,_,_,_,_,_,_,h=>by simp at h
 |0,a::b::c::d::r,_,_,_,_,h1,h2,h3,h4=>by
  simp at h1 h2 h3 h4
  subst h1 h2 h3 h4
  rfl
 |i+1,[],_,_,_,_,h,_,_,_=>by simp at h
 |i+1,[_],_,_,_,_,h,_,_,_=>by simp [show 4*(i+1)=4*i+3+1 by omega] at h
 |i+1,[_,_],_,_,_,_,h,_,_,_=>by simp [show 4*(i+1)=4*i+2+1+1 by omega] at h
 |i+1,[_,_,_],_,_,_,_,h,_,_,_=>by simp [show 4*(i+1)=4*i+1+1+1+1 by omega] at h
 |i+1,a::b::c::d::r,_,_,_,_,h1,h2,h3,h4=>by
  rw [YO,List.getElem?_cons_succ]
  exact Zmr i r _ _ _ _ (by simpa [show 4*(i+1)=4*i+1+1+1+1 by omega] using h1) (by simpa [show 4*(i+1)+1=4*i+1+1+1+1+1 by omega] using h2)
   (by simpa [show 4*(i+1)+2=4*i+2+1+1+1+1 by omega] using h3) (by simpa [show 4*(i+1)+3=4*i+3+1+1+1+1 by omega] using h4)
def Zep:Nat→List Nat→List Nat→List Nat
 |0,_,v=>v
 |n+1,l,v=>Zep n (l.drop 64) (ZkJ v (YO (l.take 64)))
theorem Zwz:∀(n:Nat) (l v:List Nat),l.length=64*n→(∀x,x∈l→x < 256)→v.length=8→(∀x,x∈v→x < 4294967296)→ZCS n l (pw 0 v)=pw 0 (Zep n l v)
 |0,l,v,_,_,_,_=>rfl
 |n+1,l,v,h1,h2,h3,h4=>by
  show Vz (ZBn (pw 0 v) (pk (l.take 64) 0)) (ZCS n (l.drop 64))=_
  have hl:(l.take 64).length=4*16:=by rw [List.length_take];omega
  rw [YU,ZtQ 16 _ 0 hl,ZBq h3 h4 (Zmq 16 _ hl) (ZoC 16 _ hl fun x hx=>h2 x (List.mem_of_mem_take hx))]
  exact Zwz n (l.drop 64) _ (by rw [List.length_drop];omega) (fun x hx=>h2 x (List.mem_of_mem_drop hx)) (Zhf h3) Zwy
theorem ZtR:∀(n:Nat) (l v:List Nat),v.length=8→(Zep n l v).length=8
 |0,_,_,h=>h
 |n+1,l,v,h=>ZtR n _ _ (Zhf h)
theorem ZwA:∀(n:Nat) (l v:List Nat),(∀x,x∈v→x < 4294967296)→∀x,x∈Zep n l v→x < 4294967296
 |0,_,_,h=>h
 |n+1,l,v,h=>ZwA n _ _ Zwy
theorem ZoD:∀(n m:Nat) (l r v:List Nat),l.length=64*n→Zep (n+m) (l++r) v=Zep m r (Zep n l v)
 |0,m,l,r,v,h=>by
  have:l=[]:=List.length_eq_zero_iff.1 (by omega)
  subst this
  rw [Nat.zero_add]
  rfl
 |n+1,m,l,r,v,h=>by
  rw [show n+1+m=(n+m)+1 by omega,Zep,List.drop_append_of_le_length (by omega),List.take_append_of_le_length (by omega),ZoD n m _ r _ (by rw [List.length_drop];omega)]
  rfl
theorem ZlH:∀(c:Nat) (l v:List Nat),Zep (c+1) l v=ZkJ (Zep c l v) (YO ((l.drop (64*c)).take 64))
 |0,l,v=>by rw [Nat.mul_zero,List.drop_zero];rfl
 |c+1,l,v=>by
  rw [show Zep (c+1+1) l v=Zep (c+1) (l.drop 64) (ZkJ v (YO (l.take 64))) from rfl,ZlH c,List.drop_drop,show 64+64*c=64*(c+1) by omega]
  rfl
theorem ZzP (ws:List Nat) {n x:Nat} (hn:n < 16) (h:ws[n]? =some x) (hx:x < 4294967296):wd ws n=x:=by
 rw [wd,dif_pos hn,List.getD_eq_getElem?_getD,h]
 exact QZ hx
def ZzQ (v:List Nat) (k:Nat):UInt8:=UInt8.ofNat (v.getD (k / 4) 0 / 2 ^ (24 - 8*(k % 4)))
theorem ZBr {v:List Nat} (hv:v.length=8) (hlt:∀x,x∈v→x < 4294967296):ZW (pw 0 v) Zvi=(List.range 32).map (ZzQ v):=by
 have hgo:∀(H:Nat) (l:List Nat),ZW H l=l.map fun s=>UInt8.ofNat (H / 2 ^ s % 256):=by
  intro H l
  induction l with
  |nil=>rfl
  |cons s r ih=>
   show Vz (Nat.mod (Nat.shiftRight H s) 256) (fun x=>UInt8.ofNat x::ZW H r)=_
   rw [YU,ih,List.map_cons,show Nat.shiftRight H s=H >>> s from rfl,Nat.shiftRight_eq_div_pow]
   rfl
 have hb:∀(l r:List Nat) (x j s:Nat),v=l++x::r→j≤24→s=32*r.length+j→UInt8.ofNat (pw 0 v / 2 ^ s % 256)=UInt8.ofNat (x / 2 ^ j):=by
  intro l r x j s e hj hs
  have hall:=hlt
  rw [e] at hall
  have h1:pw 0 v / 2 ^ (32*r.length)=pw 0 l*4294967296+x:=by
   rw [e,Zvk]
   exact Zvj r _ (fun y hy=>hall y (by simp [hy]))
  rw [hs,Nat.pow_add, ←Nat.div_div_eq_div_mul,h1]
  have h2:pw 0 l*4294967296+x=2 ^ j*(pw 0 l*2 ^ (24 - j)*256)+x:=by
   rw [show (4294967296:Nat)=2 ^ j*2 ^ (24 - j)*256 by rw [←Nat.pow_add,show j+(24 - j)=24 by omega]]
   congr 1
   ac_rfl
  rw [h2,Nat.mul_add_div (Nat.two_pow_pos j),Nat.mul_comm (pw 0 l*2 ^ (24 - j)) 256,Nat.mul_add_mod]
  exact UInt8.toNat_inj.1 (by simp)
 match v,hv with
 |[a,b,c,d,e,f,g,h],_=>
  rw [hgo]
  simp only [Zvi,List.map_cons,List.map_nil]
  rw [hb [] [b,c,d,e,f,g,h] a 24 248 rfl (by omega) rfl,hb [] [b,c,d,e,f,g,h] a 16 240 rfl (by omega) rfl,hb [] [b,c,d,e,f,g,h] a 8 232 rfl (by omega) rfl,hb [] [b,c,d,e,f,g,h] a 0 224 rfl (by omega) rfl,
   hb [a] [c,d,e,f,g,h] b 24 216 rfl (by omega) rfl,hb [a] [c,d,e,f,g,h] b 16 208 rfl (by omega) rfl,hb [a] [c,d,e,f,g,h] b 8 200 rfl (by omega) rfl,hb [a] [c,d,e,f,g,h] b 0 192 rfl (by omega) rfl,
   hb [a,b] [d,e,f,g,h] c 24 184 rfl (by omega) rfl,hb [a,b] [d,e,f,g,h] c 16 176 rfl (by omega) rfl,hb [a,b] [d,e,f,g,h] c 8 168 rfl (by omega) rfl,hb [a,b] [d,e,f,g,h] c 0 160 rfl (by omega) rfl,
   hb [a,b,c] [e,f,g,h] d 24 152 rfl (by omega) rfl,hb [a,b,c] [e,f,g,h] d 16 144 rfl (by omega) rfl,hb [a,b,c] [e,f,g,h] d 8 136 rfl (by omega) rfl,hb [a,b,c] [e,f,g,h] d 0 128 rfl (by omega) rfl,
   hb [a,b,c,d] [f,g,h] e 24 120 rfl (by omega) rfl,hb [a,b,c,d] [f,g,h] e 16 112 rfl (by omega) rfl,hb [a,b,c,d] [f,g,h] e 8 104 rfl (by omega) rfl,hb [a,b,c,d] [f,g,h] e 0 96 rfl (by omega) rfl,
   hb [a,b,c,d,e] [g,h] f 24 88 rfl (by omega) rfl,hb [a,b,c,d,e] [g,h] f 16 80 rfl (by omega) rfl,hb [a,b,c,d,e] [g,h] f 8 72 rfl (by omega) rfl,hb [a,b,c,d,e] [g,h] f 0 64 rfl (by omega) rfl,
   hb [a,b,c,d,e,f] [h] g 24 56 rfl (by omega) rfl,hb [a,b,c,d,e,f] [h] g 16 48 rfl (by omega) rfl,hb [a,b,c,d,e,f] [h] g 8 40 rfl (by omega) rfl,hb [a,b,c,d,e,f] [h] g 0 32 rfl (by omega) rfl,
   hb [a,b,c,d,e,f,g] [] h 24 24 rfl (by omega) rfl,hb [a,b,c,d,e,f,g] [] h 16 16 rfl (by omega) rfl,hb [a,b,c,d,e,f,g] [] h 8 8 rfl (by omega) rfl,hb [a,b,c,d,e,f,g] [] h 0 0 rfl (by omega) rfl]
  rfl
def Zfi (l:List UInt8):List Nat:=l.map UInt8.toNat++(128::(List.replicate (zs l.length) 0++be8 (8*l.length)))
def Zfj:List Nat:=[1779033703,3144134277,1013904242,2773480762,1359893119,2600822924,528734635,1541459225]
theorem Zvm (l:List UInt8):(Zfi l).length=64*((l.length+72) / 64):=by
 unfold Zfi
 simp only [List.length_append,List.length_map,List.length_cons,List.length_replicate,be8,List.length_nil,zs]
 omega
theorem ZxO (l:List UInt8):∀x,x∈Zfi l→x < 256:=by
 intro x hx
 unfold Zfi at hx
 simp only [List.mem_append,List.mem_map,List.mem_cons,List.mem_replicate,be8,List.not_mem_nil,or_false] at hx
 rcases hx with ⟨y,_,rfl⟩|rfl|⟨_,rfl⟩|h
 ·exact y.toNat_lt
 ·omega
 ·omega
 ·rcases h with h|h|h|h|h|h|h|h <;> rw [h] <;> exact Nat.mod_lt _ (by omega)
theorem ZzR (l:List UInt8):sha l=(List.range 32).map (ZzQ (Zep ((l.length+72) / 64) (Zfi l) Zfj)):=by
 unfold sha
 rw [YU,YU,show H0=pw 0 Zfj from rfl,show l.map UInt8.toNat++(128::(List.replicate (zs l.length) 0++be8 (8*l.length)))=Zfi l from rfl,
  show Nat.div (Nat.add l.length 72) 64=(l.length+72) / 64 from rfl]
 have hf:∀x,x∈Zfj→x < 4294967296:=by decide
 rw [Zwz _ _ _ (Zvm l) (ZxO l) rfl hf]
 exact ZBr (ZtR _ _ _ rfl) (ZwA _ _ _ hf)
theorem ZDz (l:List UInt8):(sha l).length=32:=by rw [ZzR];simp
end Go.Sha
end
section
set_option maxRecDepth 4000
namespace Go.Proofs.Ytehgcchjaamddaa
open Go Go.Ev Go.Sha
theorem ZdQ (x:UInt32) (n k:Nat) (h:n+k=32) (hn:0 < n) {z:Int} (hz:((w64 z)&&&31).toNat=k):∃o,Zw fuel x z=some o∧o.toNat=lo (Nat.shiftRight (dbl x.toNat) n):=by
 refine ⟨_,rfl, ?_⟩
 have e1:((((w64 z)&&&31).toNat:Int)).toNat=k:=by rw [hz];rfl
 have e2:(32 - ((w64 z)&&&31)).toNat=n:=by
  have h1:((w64 z)&&&31)=UInt64.ofNat k:=UInt64.toNat_inj.1 (by rw [hz,UInt64.toNat_ofNat'];omega)
  rw [h1,UInt64.toNat_sub,UInt64.toNat_ofNat']
  show (2 ^ 64 - k % 2 ^ 64+32) % 2 ^ 64=n
  omega
 rw [e1,show ((((32 - ((w64 z)&&&31)).toNat:Nat):Int)).toNat=n by rw [e2];rfl,Nat.min_eq_left (by omega),Nat.min_eq_left (by omega)]
 exact ZDn x h hn
theorem ZCX {l:List UInt8} {a b c d:UInt8} (ha:l[0]? =some a) (hb:l[1]? =some b) (hc:l[2]? =some c) (hd:l[3]? =some d):∃o,ZbQ fuel l=some o∧o.toNat=((a.toNat*256+b.toNat)*256+c.toNat)*256+d.toNat:=by
 unfold ZbQ
 rw [ZbH (i:=0) (by omega) ha,ZbH (i:=1) (by omega) hb,ZbH (i:=2) (by omega) hc,ZbH (i:=3) (by omega) hd]
 refine ⟨_,rfl, ?_⟩
 have h1:=a.toNat_lt
 have h2:=b.toNat_lt
 have h3:=c.toNat_lt
 have h4:=d.toNat_lt
 have hs:∀(x:UInt8) (n:Nat),n≤24→(ZgK (UInt32.ofNat x.toNat) n).toNat=x.toNat*2 ^ n:=by
  intro x n hn
  have hx:=x.toNat_lt
  unfold ZgK
  rw [UInt32.toNat_ofNat',UInt32.toNat_ofNat',Nat.mod_eq_of_lt (a:=x.toNat) (by omega)]
  refine Nat.mod_eq_of_lt ?_
  calc x.toNat*2 ^ n < 2 ^ 8*2 ^ n:=Nat.mul_lt_mul_of_pos_right hx (Nat.two_pow_pos n)
   _=2 ^ (8+n):=(Nat.pow_add ..).symm
   _≤2 ^ 32:=Nat.pow_le_pow_right (by omega) (by omega)
 rw [ZxN,ZxN,ZxN,hs _ _ (by omega),hs _ _ (by omega),hs _ _ (by omega),UInt32.toNat_ofNat',Nat.mod_eq_of_lt (a:=d.toNat) (by omega)]
 have k1:Nat.lor (a.toNat*2 ^ 24) (b.toNat*2 ^ 16)=2 ^ 16*(a.toNat*256+b.toNat):=by
  rw [Nat.mul_comm a.toNat,show Nat.lor (2 ^ 24*a.toNat) (b.toNat*2 ^ 16)=2 ^ 24*a.toNat|||b.toNat*2 ^ 16 from rfl, ←Nat.two_pow_add_eq_or_of_lt (by omega)]
  omega
 have k2:Nat.lor (2 ^ 16*(a.toNat*256+b.toNat)) (c.toNat*2 ^ 8)=2 ^ 8*((a.toNat*256+b.toNat)*256+c.toNat):=by
  rw [show Nat.lor (2 ^ 16*(a.toNat*256+b.toNat)) (c.toNat*2 ^ 8)=2 ^ 16*(a.toNat*256+b.toNat)|||c.toNat*2 ^ 8 from rfl, ←Nat.two_pow_add_eq_or_of_lt (by omega)]
  omega
 rw [k1,k2,show Nat.lor (2 ^ 8*((a.toNat*256+b.toNat)*256+c.toNat)) d.toNat=2 ^ 8*((a.toNat*256+b.toNat)*256+c.toNat)|||d.toNat from rfl, ←Nat.two_pow_add_eq_or_of_lt (by omega)]
 omega
theorem ZzS {l:List UInt8} (h:l.length=64):∃o,QA fuel l=some o∧o.length=64∧∀(i:Nat) x,i < 64→o[i]? =some x→x.toNat=wd (YO (l.map UInt8.toNat)) i:=by
 unfold QA
 generalize hz:([0,0,0,0,0,0,0,0,0,0,0,0,0,0,0,0,0,0,0,0,0,0,0,0,0,0,0,0,0,0,0,0,0,0,0,0,0,0,0,0,0,0,0,0,0,0,0,0,0,0,0,0,0,0,0,0,0,0,0,0,0,0,0,0]:List UInt32)=z
 have hzl:z.length=64:=by rw [←hz];rfl
 refine Exists.elim (Y0 (step:=WK fuel) (fun s=>s.1=l∧0≤s.2.1∧s.2.1≤64∧s.2.2.length=64∧∀(j:Nat) x,(j:Int) < s.2.1→s.2.2[j]? =some x→x.toNat=wd (YO (l.map UInt8.toNat)) j) (fun s=>(64 - s.2.1).toNat)
  (fun o=>o.length=64∧∀(j:Nat) x,j < 64→o[j]? =some x→x.toNat=wd (YO (l.map UInt8.toNat)) j) ?_ (l,(0:Int),z) ⟨rfl,Int.le_refl _,by dsimp only;omega,hzl,fun j x hj=>by dsimp only at hj;omega⟩ (by dsimp only;omega)) ?_
 rotate_left
 ·rintro o ⟨h1,h2⟩
  exact ⟨o,by rw [h1];rfl,h2⟩
 ·rintro ⟨b,i,w⟩ ⟨hb,h0,h64,hw,hv⟩
  dsimp only at hb h0 h64 hw hv
  subst hb
  unfold WK
  dsimp only
  have hset:∀(y:UInt32),y.toNat=wd (YO (b.map UInt8.toNat)) i.toNat→i < 64→∀(j:Nat) x,(j:Int) < i+1→(w.set i.toNat y)[j]? =some x→x.toNat=wd (YO (b.map UInt8.toNat)) j:=by
   intro y hy hi j x hj hx
   by_cases hji:j=i.toNat
   ·subst hji
    rw [List.getElem?_set_self (by omega)] at hx
    cases hx
    exact hy
   ·rw [List.getElem?_set_ne (Ne.symm hji)] at hx
    exact hv j x (by omega) hx
  by_cases hi:i < 64
  ·left
   rw [if_pos (decide_eq_true hi)]
   obtain ⟨e,he⟩:=Qq (l:=w) (i:=i.toNat) (by omega)
   by_cases h16:i < 16
   ·rw [if_pos (decide_eq_true h16),Y1 (z:=4*i) (by omega) (by omega),if_pos (by simp only [Vu,Bool.and_eq_true,decide_eq_true_eq];omega)]
    have g:∀k:Nat,k < 4→∃x,b[4*i.toNat+k]? =some x:=fun k hk=>Qq (by omega)
    obtain ⟨x0,g0⟩:=g 0 (by omega)
    obtain ⟨x1,g1⟩:=g 1 (by omega)
    obtain ⟨x2,g2⟩:=g 2 (by omega)
    obtain ⟨x3,g3⟩:=g 3 (by omega)
    have e4:(4*i).toNat=4*i.toNat:=by omega
    obtain ⟨o,ho,hoe⟩:=ZCX (l:=b.drop (4*i).toNat) (by rw [List.getElem?_drop,e4];exact g0) (by rw [List.getElem?_drop,e4];exact g1) (by rw [List.getElem?_drop,e4];exact g2) (by rw [List.getElem?_drop,e4];exact g3)
    rw [ho,Option.bind_some,if_pos (WG h0 (by omega)),he,Option.bind_some,Y1 (z:=i+1) (by omega) (by omega)]
    refine ⟨_,rfl,⟨rfl,by dsimp only;omega,by dsimp only;omega,by dsimp only;rw [List.length_set];exact hw,hset o ?_ hi⟩,by dsimp only;omega⟩
    have mg:∀(k:Nat) (x:UInt8),b[k]? =some x→(b.map UInt8.toNat)[k]? =some x.toNat:=fun k x hx=>by rw [List.getElem?_map,hx];rfl
    have hwg:=Zmr i.toNat (b.map UInt8.toNat) _ _ _ _ (mg _ _ g0) (mg _ _ g1) (mg _ _ g2) (mg _ _ g3)
    rw [hoe]
    have b0:=x0.toNat_lt
    have b1:=x1.toNat_lt
    have b2:=x2.toNat_lt
    have b3:=x3.toNat_lt
    exact (ZzP _ (by omega) hwg (by omega)).symm
   ·rw [if_neg (by simpa using h16)]
    rw [Y1 (z:=i - 15) (by omega) (by omega),Y1 (z:=i - 2) (by omega) (by omega),Y1 (z:=i - 16) (by omega) (by omega),Y1 (z:=i - 7) (by omega) (by omega),Y1 (z:=i+1) (by omega) (by omega)]
    obtain ⟨e1,he1⟩:=Qq (l:=w) (i:=(i - 15).toNat) (by omega)
    obtain ⟨e2,he2⟩:=Qq (l:=w) (i:=(i - 2).toNat) (by omega)
    obtain ⟨e3,he3⟩:=Qq (l:=w) (i:=(i - 16).toNat) (by omega)
    obtain ⟨e4,he4⟩:=Qq (l:=w) (i:=(i - 7).toNat) (by omega)
    have v1:=hv _ _ (by omega) he1
    have v2:=hv _ _ (by omega) he2
    have v3:=hv _ _ (by omega) he3
    have v4:=hv _ _ (by omega) he4
    rw [if_pos (WG (by omega) (by omega)),he1,Option.bind_some,if_pos (WG (by omega) (by omega)),he2,Option.bind_some]
    obtain ⟨o1,ho1,p1⟩:=ZdQ e1 7 25 rfl (by omega) (z:= -7) rfl
    obtain ⟨o2,ho2,p2⟩:=ZdQ e1 18 14 rfl (by omega) (z:= -18) rfl
    obtain ⟨o3,ho3,p3⟩:=ZdQ e2 17 15 rfl (by omega) (z:= -17) rfl
    obtain ⟨o4,ho4,p4⟩:=ZdQ e2 19 13 rfl (by omega) (z:= -19) rfl
    rw [ho1,Option.bind_some,ho2,Option.bind_some,ho3,Option.bind_some,ho4,Option.bind_some]
    rw [if_pos (WG (by omega) (by omega)),he3,Option.bind_some,if_pos (WG (by omega) (by omega)),he4,Option.bind_some]
    try dsimp only
    rw [if_pos (WG h0 (by omega)),he,Option.bind_some]
    refine ⟨_,rfl,⟨rfl,by dsimp only;omega,by dsimp only;omega,by dsimp only;rw [List.length_set];exact hw,hset _ ?_ hi⟩,by dsimp only;omega⟩
    have hn:=Zwv (YO (b.map UInt8.toNat)) (i - 16).toNat
    rw [show (i - 16).toNat+16=i.toNat by omega,show (i - 16).toNat+1=(i - 15).toNat by omega,show (i - 16).toNat+9=(i - 7).toNat by omega,show (i - 16).toNat+14=(i - 2).toNat by omega, ←v1, ←v2, ←v3, ←v4] at hn
    rw [hn]
    rw [Zhd,Zhd,Zhd,ZDB e1 p1 p2,ZDC e2 p3 p4]
    exact ZDH ..
  ·right
   rw [if_neg (by simpa using hi)]
   exact ⟨_,rfl,hw,fun j x hj hx=>hv j x (by omega) hx⟩
theorem ZzT {st:List UInt32} {l:List UInt8} (hs:st.length=8) (h:l.length=64):∃o,Wy fuel st l=some o∧o.map UInt32.toNat=ZkJ (st.map UInt32.toNat) (YO (l.map UInt8.toNat)):=by
 unfold Wy
 obtain ⟨w,hw,hwl,hwv⟩:=ZzS h
 obtain ⟨k,hk,hkv⟩:∃k,Zha fuel=some k∧k.map UInt32.toNat=ks:=⟨_,rfl,rfl⟩
 have hkl:k.length=64:=by rw [←List.length_map (f:=UInt32.toNat),hkv];rfl
 generalize hws:YO (l.map UInt8.toNat)=ws at hwv
 rw [hw,Option.bind_some,hk,Option.bind_some]
 refine Exists.elim (Y0 (step:=Wo fuel) (fun s=>0≤s.1∧s.1≤64∧s.2.1=st∧s.2.2.2.1=w∧s.2.2.2.2.1=k∧s.2.2.2.2.2.length=8∧s.2.2.2.2.2.map UInt32.toNat=rs ws (st.map UInt32.toNat) s.1.toNat) (fun s=>(64 - s.1).toNat)
  (fun o=>o.1=st∧o.2.2.2.2.length=8∧o.2.2.2.2.map UInt32.toNat=rs ws (st.map UInt32.toNat) 64) ?_ ((0:Int),st,([0,0,0,0,0,0,0,0]:List UInt32),w,k,st) ⟨Int.le_refl _,by dsimp only;omega,rfl,rfl,rfl,hs,rfl⟩ (by dsimp only;omega)) ?_
 rotate_left
 ·rintro o ⟨h1,p0,p1,p2⟩
  rw [h1,Option.bind_some]
  have hml:(ZkJ (st.map UInt32.toNat) ws).length=8:=Zhf (by rw [List.length_map];exact hs)
  refine Exists.elim (Y0 (step:=Wp fuel) (fun s=>0≤s.1∧s.1≤8∧s.2.1=st∧s.2.2.2.2.2.length=8∧(∀(j:Nat) x,s.2.2.2.2.2[j]? =some x→if (j:Int) < s.1 then (ZkJ (st.map UInt32.toNat) ws)[j]? =some x.toNat else (rs ws (st.map UInt32.toNat) 64)[j]? =some x.toNat)) (fun s=>(8 - s.1).toNat)
   (fun o=>o.2.2.2.2.map UInt32.toNat=ZkJ (st.map UInt32.toNat) ws) ?_ ((0:Int),o.1,o.2.1,o.2.2.1,o.2.2.2.1,o.2.2.2.2) ⟨Int.le_refl _,by dsimp only;omega,p0,p1,fun j x hx=>by
     dsimp only at hx ⊢
     rw [if_neg (by omega), ←p2,List.getElem?_map,hx]
     rfl⟩ (by dsimp only;omega)) ?_
  rotate_left
  ·rintro q ⟨h2,q2⟩
   rw [h2,Option.bind_some]
   exact ⟨_,rfl,q2⟩
  ·rintro ⟨i,a,b,c,d,e⟩ ⟨h0,h8,ha,he,hv⟩
   dsimp only at h0 h8 ha he hv
   subst ha
   unfold Wp
   dsimp only
   by_cases hi:i < 8
   ·left
    obtain ⟨e1,he1⟩:=Qq (l:=e) (i:=i.toNat) (by omega)
    obtain ⟨e2,he2⟩:=Qq (l:=a) (i:=i.toNat) (by omega)
    simp only [decide_eq_true hi,if_true,WG h0 (show i < ((8:Nat):Int) by omega),he1,he2,Option.bind_some]
    rw [Y1 (z:=i+1) (by omega) (by omega)]
    refine ⟨_,rfl,⟨by dsimp only;omega,by dsimp only;omega,rfl,by dsimp only;rw [List.length_set];exact he, ?_⟩,by dsimp only;omega⟩
    intro j x hx
    dsimp only at hx ⊢
    by_cases hji:j=i.toNat
    ·subst hji
     rw [List.getElem?_set_self (by omega)] at hx
     cases hx
     rw [if_pos (by omega),Zhd]
     have k1:=hv _ _ he1
     rw [if_neg (by omega)] at k1
     unfold ZkJ
     rw [List.getElem?_zipWith,k1,List.getElem?_map,he2]
     rfl
    ·rw [List.getElem?_set_ne (Ne.symm hji)] at hx
     have k1:=hv j x hx
     by_cases hj:(j:Int) < i
     ·rw [if_pos hj] at k1
      rw [if_pos (by omega)]
      exact k1
     ·rw [if_neg hj] at k1
      rw [if_neg (by omega)]
      exact k1
   ·right
    rw [if_neg (by simpa using hi)]
    refine ⟨_,rfl, ?_⟩
    dsimp only
    apply List.ext_getElem?
    intro j
    rw [List.getElem?_map]
    by_cases hj:j < 8
    ·obtain ⟨x,hx⟩:=Qq (l:=e) (i:=j) (by omega)
     have:=hv j x hx
     rw [if_pos (by omega)] at this
     rw [hx,this]
     rfl
    ·rw [List.getElem?_eq_none (by omega),List.getElem?_eq_none (by omega)]
     rfl
 ·rintro ⟨i,a,b,c,d,e⟩ ⟨h0,h64,ha,hc,hd,he,hv⟩
  dsimp only at h0 h64 ha hc hd he hv
  subst ha hc hd
  unfold Wo
  dsimp only
  by_cases hi:i < 64
  ·left
   match e,he,hv with
   |[x0,x1,x2,x3,x4,x5,x6,x7],_,hv=>
    obtain ⟨e1,he1⟩:=Qq (l:=d) (i:=i.toNat) (by omega)
    obtain ⟨e2,he2⟩:=Qq (l:=c) (i:=i.toNat) (by omega)
    obtain ⟨o1,ho1,p1⟩:=ZdQ x4 6 26 rfl (by omega) (z:= -6) rfl
    obtain ⟨o2,ho2,p2⟩:=ZdQ x4 11 21 rfl (by omega) (z:= -11) rfl
    obtain ⟨o3,ho3,p3⟩:=ZdQ x4 25 7 rfl (by omega) (z:= -25) rfl
    obtain ⟨o4,ho4,p4⟩:=ZdQ x0 2 30 rfl (by omega) (z:= -2) rfl
    obtain ⟨o5,ho5,p5⟩:=ZdQ x0 13 19 rfl (by omega) (z:= -13) rfl
    obtain ⟨o6,ho6,p6⟩:=ZdQ x0 22 10 rfl (by omega) (z:= -22) rfl
    generalize Zw fuel=R at ho1 ho2 ho3 ho4 ho5 ho6 ⊢
    rw [if_pos (decide_eq_true hi)]
    simp only [List.getElem?_cons_zero,List.getElem?_cons_succ]
    rw [Option.bind_some,ho1,Option.bind_some,Option.bind_some,ho2,Option.bind_some,Option.bind_some,ho3,Option.bind_some,Option.bind_some,Option.bind_some,Option.bind_some,Option.bind_some,Option.bind_some]
    rw [if_pos (WG h0 (show i < ((64:Nat):Int) by omega)),he1,Option.bind_some,if_pos (WG h0 (show i < ((64:Nat):Int) by omega)),he2,Option.bind_some,Option.bind_some,ho4,Option.bind_some,Option.bind_some,ho5,Option.bind_some,Option.bind_some,ho6]
    rw [Option.bind_some,Option.bind_some,Option.bind_some,Option.bind_some,Option.bind_some,Option.bind_some]
    rw [Option.bind_some,Option.bind_some,Option.bind_some,Option.bind_some,Option.bind_some,Option.bind_some,Option.bind_some]
    rw [Y1 (z:=i+1) (by omega) (by omega)]
    refine ⟨_,rfl,⟨by dsimp only;omega,by dsimp only;omega,rfl,rfl,rfl,rfl, ?_⟩,by dsimp only;omega⟩
    dsimp only
    rw [show (i+1).toNat=i.toNat+1 by omega,show rs ws (a.map UInt32.toNat) (i.toNat+1)=rnd (rs ws (a.map UInt32.toNat) i.toNat) (ks.getD i.toNat 0) (wd ws i.toNat) from rfl, ←hv]
    have hk1:ks.getD i.toNat 0=e1.toNat:=by
     rw [←hkv,List.getD_eq_getElem?_getD,List.getElem?_map,he1]
     rfl
    rw [hk1, ←hwv i.toNat e2 (by omega) he2]
    simp only [List.map_cons,List.map_nil]
    rw [ZtP]
    have kt:((x7+((o1^^^o2)^^^o3))+(x6^^^(x4&&&(x5^^^x6)))+e1+e2).toNat=lo (Nat.add (Nat.add (Nat.add (Nat.add x7.toNat (S1 x4.toNat)) (ch x4.toNat x5.toNat x6.toNat)) e1.toNat) e2.toNat):=by
     rw [Zhd,Zhd,Zhd,Zhd,ZDE x4 p1 p2 p3,ZDF]
     exact ZDI ..
    have ka:((x7+((o1^^^o2)^^^o3))+(x6^^^(x4&&&(x5^^^x6)))+e1+e2+((o4^^^o5)^^^o6)+((x0&&&x1)|||(x2&&&(x0|||x1)))).toNat=lo (Nat.add (Nat.add (Nat.add (Nat.add (Nat.add (Nat.add x7.toNat (S1 x4.toNat)) (ch x4.toNat x5.toNat x6.toNat)) e1.toNat) e2.toNat) (S0 x0.toNat)) (mj x0.toNat x1.toNat x2.toNat)):=by
     rw [Zhd,Zhd,kt,ZDD x0 p4 p5 p6,ZDG]
     exact ZDJ ..
    have ke:(x3+(((x7+((o1^^^o2)^^^o3))+(x6^^^(x4&&&(x5^^^x6))))+e1+e2)).toNat=lo (Nat.add x3.toNat (Nat.add (Nat.add (Nat.add (Nat.add x7.toNat (S1 x4.toNat)) (ch x4.toNat x5.toNat x6.toNat)) e1.toNat) e2.toNat)):=by
     rw [Zhd,kt]
     exact ZDK ..
    rw [ka,ke]
  ·right
   rw [if_neg (by simpa using hi)]
   have e64:i=64:=by omega
   subst e64
   exact ⟨_,rfl,rfl,he,hv⟩
def ZxP (n:Nat):List UInt8:=(be8 n).map UInt8.ofNat
theorem ZwB {n:Nat} {b:List UInt8} (h:b.length≤1000000000000):XX fuel (n:Int) b=some (b++ZxP n):=by
 unfold XX
 obtain ⟨o,h1,h2⟩:=Y0 (step:=Vj fuel) (fun s=>∃k:Nat,k≤8∧s.1=(n:Int)∧s.2.1=56 - 8*(k:Int)∧s.2.2.1=b++(ZxP n).take k) (fun s=>(s.2.1+8).toNat) (fun o=>o.1=b++ZxP n) (by
  rintro ⟨a,i,c,d⟩ ⟨k,hk,ha,hi,hc⟩
  dsimp only at ha hi hc
  subst ha
  unfold Vj
  dsimp only
  have hcl:c.length≤b.length+8:=by rw [hc,List.length_append,List.length_take];omega
  by_cases h0:i ≥ 0
  ·left
   rw [if_pos (decide_eq_true h0),if_pos (decide_eq_true h0),if_pos (Xt (by omega) (by omega)),Y1 (z:=i - 8) (by omega) (by omega)]
   refine ⟨_,rfl,⟨k+1,by omega,rfl,by dsimp only;omega, ?_⟩,by dsimp only;omega⟩
   dsimp only
   have hw:∀m:Nat,w8 (Int.fdiv (n:Int) (2 ^ m))=UInt8.ofNat (n / 2 ^ m % 256):=by
    intro m
    unfold w8
    rw [Int.fdiv_eq_ediv_of_nonneg _ (by exact Int.le_of_lt (Int.pow_pos (by omega)))]
    congr 1
   have hmin:min i.toNat 64=56 - 8*k:=by omega
   rw [hmin,hw,hc,List.append_assoc]
   congr 1
   have hk8:k < 8:=by omega
   match k,hk8 with
   |0,_=>rfl
   |1,_=>rfl
   |2,_=>rfl
   |3,_=>rfl
   |4,_=>rfl
   |5,_=>rfl
   |6,_=>rfl
   |7,_=>
    show _++[UInt8.ofNat (n / 2 ^ 0 % 256)]=_
    rw [Nat.pow_zero,Nat.div_one]
    rfl
  ·right
   rw [if_neg (by simpa using h0)]
   have hk8:k=8:=by omega
   subst hk8
   exact ⟨_,rfl,hc⟩) (((n:Int),(56:Int),b,([]:List UInt8))) ⟨0,by omega,rfl,by simp,by simp⟩ (by dsimp only;omega)
 rw [h1,Option.bind_some,h2]
theorem ZCY {l:List UInt8} (h:l.length≤4294967296):Zcx fuel l=some (sha l):=by
 unfold Zcx
 have hm:Int.tmod (l.length:Int) 64=((l.length % 64:Nat):Int):=by
  rw [Int.tmod_eq_emod_of_nonneg (by omega)]
  omega
 have hlt:l.length % 64 < 64:=Nat.mod_lt _ (by omega)
 have hle:l.length % 64≤l.length:=Nat.mod_le _ _
 rw [hm,Y1 (z:=(l.length:Int) - ((l.length % 64:Nat):Int)) (by omega) (by omega)]
 dsimp only
 rw [if_pos (by simp only [Vu,Bool.and_eq_true,decide_eq_true_eq];omega)]
 have hq:((l.length:Int) - ((l.length % 64:Nat):Int)).toNat=64*(l.length / 64):=by omega
 rw [hq]
 have hdl:(l.drop (64*(l.length / 64))).length=l.length % 64:=by
  rw [List.length_drop]
  omega
 generalize ht:l.drop (64*(l.length / 64))=t at hdl
 have hcl:ZP fuel t=some t:=by
  unfold ZP
  rw [if_pos (Xt (by omega) (by omega))]
 rw [hcl,Option.bind_some,if_pos (Xt (by omega) (by omega))]
 generalize hz:([0,0,0,0,0,0,0,0,0,0,0,0,0,0,0,0,0,0,0,0,0,0,0,0,0,0,0,0,0,0,0,0]:List UInt8)=z
 have hzl:z.length=32:=by rw [←hz];rfl
 have hzs:zs l.length=(119 - t.length) % 64:=by unfold zs;rw [hdl]
 obtain ⟨o,h1,p1,p2,p3⟩:=Y0 (step:=Zaw fuel) (fun s=>s.1=l∧s.2.1=z∧∃j,j≤zs l.length∧s.2.2=t++([128]:List UInt8)++List.replicate j 0) (fun s=>184 - s.2.2.length)
  (fun o=>o.1=l∧o.2.1=z∧o.2.2=t++([128]:List UInt8)++List.replicate (zs l.length) 0) (by
  rintro ⟨a,b,c⟩ ⟨k1,k2,j,k3,k4⟩
  dsimp only at k1 k2 k3 k4
  have hcl:c.length=t.length+1+j:=by rw [k4,List.length_append,List.length_append,List.length_replicate];rfl
  unfold Zaw
  dsimp only
  have hm:Int.tmod (c.length:Int) 64=((c.length % 64:Nat):Int):=by
   rw [Int.tmod_eq_emod_of_nonneg (by omega)]
   omega
  rw [hm]
  by_cases hi:c.length % 64=56
  ·right
   rw [if_neg (by simp;omega)]
   have:j=zs l.length:=by omega
   subst this
   exact ⟨_,rfl,k1,k2,k4⟩
  ·left
   rw [if_pos (by simp;omega),if_pos (Xt (by omega) (by omega))]
   have hj:j≠zs l.length:=fun e=>hi (by omega)
   refine ⟨_,rfl,⟨k1,k2,j+1,by omega, ?_⟩, ?_⟩
   ·dsimp only
    rw [k4,List.append_assoc,List.replicate_succ',List.append_assoc]
   ·dsimp only
    rw [List.length_append,List.length_singleton]
    omega) (l,z,t++([128]:List UInt8)) ⟨rfl,rfl,0,Nat.zero_le _,by simp⟩ (by dsimp only;omega)
 rw [h1,Option.bind_some,p1,p2,p3,Y1 (z:=8*(l.length:Int)) (by omega) (by omega),show 8*(l.length:Int)=((8*l.length:Nat):Int) by omega,ZwB (by
  rw [List.length_append,List.length_append,List.length_replicate]
  simp
  omega),Option.bind_some]
 obtain ⟨f,hf,hfl⟩:∃f,Zg8 fuel=some f∧f.map UInt32.toNat=Zfj:=⟨_,rfl,rfl⟩
 have hf8:f.length=8:=by rw [←List.length_map (f:=UInt32.toNat),hfl];rfl
 rw [hf,Option.bind_some]
 generalize hE:t++([128]:List UInt8)++List.replicate (zs l.length) 0++ZxP (8*l.length)=E
 have hEl:E.length=64*((t.length+72) / 64):=by
  rw [←hE]
  simp only [List.length_append,List.length_replicate,List.length_singleton,ZxP,List.length_map,be8,List.length_cons,List.length_nil]
  omega
 obtain ⟨o3,h3,r1,r2,r3,r4⟩:=Y0 (step:=Zax fuel) (fun s=>s.2.1=z∧s.2.2.1=E∧s.2.2.2.length=8∧∃c,c≤l.length / 64∧s.1=l.drop (64*c)∧s.2.2.2.map UInt32.toNat=Zep c (l.map UInt8.toNat) Zfj) (fun s=>s.1.length)
  (fun x=>x.1=z∧x.2.1=E∧x.2.2.length=8∧x.2.2.map UInt32.toNat=Zep (l.length / 64) (l.map UInt8.toNat) Zfj) (by
  rintro ⟨a,b,c,d⟩ ⟨k1,k2,k3,j,k4,k5,k6⟩
  dsimp only at k1 k2 k3 k4 k5 k6
  have hal:a.length=l.length - 64*j:=by rw [k5,List.length_drop]
  unfold Zax
  dsimp only
  by_cases hi:(a.length:Int) ≥ 64
  ·left
   obtain ⟨m,hm1,hm2⟩:=ZzT (st:=d) (l:=a.take 64) k3 (by rw [List.length_take];omega)
   rw [if_pos (decide_eq_true hi),if_pos (by simp only [Vu,Bool.and_eq_true,decide_eq_true_eq];omega),hm1,Option.bind_some,if_pos (by simp only [Vu,Bool.and_eq_true,decide_eq_true_eq];omega)]
   refine ⟨_,rfl,⟨k1,k2, ?_,j+1,by omega, ?_, ?_⟩,by dsimp only;rw [List.length_drop];omega⟩
   ·dsimp only
    rw [←List.length_map (f:=UInt32.toNat),hm2]
    exact Zhf (by rw [List.length_map];exact k3)
   ·dsimp only
    rw [k5,List.drop_drop]
    congr 1
   ·dsimp only
    rw [hm2,ZlH,k6,k5,List.map_take,List.map_drop]
  ·right
   rw [if_neg (by simpa using hi)]
   have:j=l.length / 64:=by omega
   subst this
   exact ⟨_,rfl,k1,k2,k3,k6⟩) (l,z,E,f) ⟨rfl,rfl,hf8,0,Nat.zero_le _,by simp,hfl⟩ (by dsimp only;omega)
 rw [h3,Option.bind_some,r1,r2]
 generalize hv1:Zep (l.length / 64) (l.map UInt8.toNat) Zfj=v1 at r4
 obtain ⟨o4,h4,s1,s2,s3⟩:=Y0 (step:=Zay fuel) (fun s=>s.2.1=z∧s.2.2.2.length=8∧∃c,c≤E.length / 64∧s.1=E.drop (64*c)∧s.2.2.2.map UInt32.toNat=Zep c (E.map UInt8.toNat) v1) (fun s=>s.1.length)
  (fun x=>x.1=z∧x.2.2.length=8∧x.2.2.map UInt32.toNat=Zep (E.length / 64) (E.map UInt8.toNat) v1) (by
  rintro ⟨a,b,c,d⟩ ⟨k1,k3,j,k4,k5,k6⟩
  dsimp only at k1 k3 k4 k5 k6
  have hal:a.length=E.length - 64*j:=by rw [k5,List.length_drop]
  unfold Zay
  dsimp only
  by_cases hi:(a.length:Int) > 0
  ·left
   obtain ⟨m,hm1,hm2⟩:=ZzT (st:=d) (l:=a.take 64) k3 (by rw [List.length_take];omega)
   rw [if_pos (decide_eq_true hi),if_pos (by simp only [Vu,Bool.and_eq_true,decide_eq_true_eq];omega),hm1,Option.bind_some,if_pos (by simp only [Vu,Bool.and_eq_true,decide_eq_true_eq];omega)]
   refine ⟨_,rfl,⟨k1, ?_,j+1,by omega, ?_, ?_⟩,by dsimp only;rw [List.length_drop];omega⟩
   ·dsimp only
    rw [←List.length_map (f:=UInt32.toNat),hm2]
    exact Zhf (by rw [List.length_map];exact k3)
   ·dsimp only
    rw [k5,List.drop_drop]
    congr 1
   ·dsimp only
    rw [hm2,ZlH,k6,k5,List.map_take,List.map_drop]
  ·right
   rw [if_neg (by simpa using hi)]
   have:j=E.length / 64:=by omega
   subst this
   exact ⟨_,rfl,k1,k3,k6⟩) (E,z,E,o3.2.2) ⟨rfl,r3,0,Nat.zero_le _,by simp,r4⟩ (by dsimp only;omega)
 rw [h4,Option.bind_some]
 generalize hv2:Zep (E.length / 64) (E.map UInt8.toNat) v1=v2 at s3
 obtain ⟨o5,h5,t1,t2⟩:=Y0 (step:=Zaz fuel) (fun s=>0≤s.1∧s.1≤32∧s.2.1.length=32∧s.2.2.2=o4.2.2∧∀(j:Nat),(j:Int) < s.1→s.2.1[j]? =some (Go.Sha.ZzQ v2 j)) (fun s=>(32 - s.1).toNat)
  (fun x=>x.1.length=32∧∀(j:Nat),j < 32→x.1[j]? =some (Go.Sha.ZzQ v2 j)) (by
  rintro ⟨i,a,b,c⟩ ⟨h0,h32,ha,hc,hv⟩
  dsimp only at h0 h32 ha hc hv
  subst hc
  unfold Zaz
  dsimp only
  by_cases hi:i < 32
  ·left
   rw [if_pos (decide_eq_true hi)]
   have e1:Int.tdiv i 4=i / 4:=Int.tdiv_eq_ediv_of_nonneg h0
   have e2:Int.tmod i 4=i % 4:=Int.tmod_eq_emod_of_nonneg h0
   rw [e1,e2,Y1 (z:=i / 4) (by omega) (by omega),Y1 (z:=8*(i % 4)) (by omega) (by omega),Y1 (z:=24 - 8*(i % 4)) (by omega) (by omega),Y1 (z:=i+1) (by omega) (by omega)]
   obtain ⟨x1,hx1⟩:=Qq (l:=o4.2.2) (i:=(i / 4).toNat) (by omega)
   obtain ⟨x2,hx2⟩:=Qq (l:=a) (i:=i.toNat) (by omega)
   rw [if_pos (WG (by omega) (by omega)),hx1,Option.bind_some,if_pos (decide_eq_true (by omega))]
   try dsimp only
   rw [if_pos (WG (by omega) (by omega)),hx2,Option.bind_some]
   refine ⟨_,rfl,⟨by dsimp only;omega,by dsimp only;omega,by dsimp only;rw [List.length_set];exact ha,rfl, ?_⟩,by dsimp only;omega⟩
   intro j hj
   dsimp only at hj ⊢
   by_cases hji:j=i.toNat
   ·subst hji
    rw [List.getElem?_set_self (by omega)]
    congr 1
    unfold Go.Sha.ZzQ
    have hx:v2.getD (i.toNat / 4) 0=x1.toNat:=by
     rw [←s3,List.getD_eq_getElem?_getD,List.getElem?_map,show i.toNat / 4=(i / 4).toNat by omega,hx1]
     rfl
    rw [hx,show min (24 - 8*(i % 4)).toNat 32=24 - 8*(i.toNat % 4) by omega,ZtO]
    unfold w8
    have e3:∀m:Nat,(((m:Nat):Int) % 256).toNat=m % 256:=fun m=>by omega
    rw [e3,show Nat.shiftRight x1.toNat (24 - 8*(i.toNat % 4))=x1.toNat >>> (24 - 8*(i.toNat % 4)) from rfl,Nat.shiftRight_eq_div_pow]
    exact UInt8.toNat_inj.1 (by simp)
   ·rw [List.getElem?_set_ne (Ne.symm hji)]
    exact hv j (by omega)
  ·right
   rw [if_neg (by simpa using hi)]
   exact ⟨_,rfl,ha,fun j hj=>hv j (by omega)⟩) ((0:Int),o4.1,o4.2.1,o4.2.2) ⟨Int.le_refl _,by dsimp only;omega,by dsimp only;rw [s1];exact hzl,rfl,fun j hj=>by dsimp only at hj;omega⟩ (by dsimp only;omega)
 rw [h5,Option.bind_some,ZzR]
 congr 1
 have hpad:Zfi l=(l.take (64*(l.length / 64))).map UInt8.toNat++E.map UInt8.toNat:=by
  unfold Zfi
  rw [←hE, ←ht]
  simp only [List.map_append,List.map_replicate,List.map_cons,List.map_nil,ZxP,List.map_map]
  rw [←List.append_assoc, ←List.append_assoc, ←List.append_assoc, ←List.map_append,List.take_append_drop]
  have:be8 (8*l.length)=(be8 (8*l.length)).map (UInt8.toNat ∘ UInt8.ofNat):=by
   simp [be8]
  rw [←this]
  simp
 have hw:((l.take (64*(l.length / 64))).map UInt8.toNat).length=64*(l.length / 64):=by
  rw [List.length_map,List.length_take]
  omega
 have hv:v2=Zep ((l.length+72) / 64) (Zfi l) Zfj:=by
  rw [hpad,show (l.length+72) / 64=l.length / 64+E.length / 64 by omega,ZoD _ _ _ _ _ hw, ←hv2, ←hv1]
  congr 1
  have:=ZoD (l.length / 64) 0 _ ((l.drop (64*(l.length / 64))).map UInt8.toNat) Zfj hw
  rw [←List.map_append,List.take_append_drop,Nat.add_zero] at this
  exact this
 rw [←hv]
 apply List.ext_getElem?
 intro j
 by_cases hj:j < 32
 ·rw [t2 j hj,List.getElem?_map,List.getElem?_range hj]
  rfl
 ·rw [List.getElem?_eq_none (by omega),List.getElem?_eq_none (by simp;omega)]
noncomputable def ZF (F:Nat) (a0:List UInt8):Option (List UInt8):=if decide (a0.length≤4294967296)=true then some (sha a0) else Zcx F a0
noncomputable def Zhg (F:Nat):Fs Try.prog:={ Zfh F with M:=fun x=>ZF F x}
noncomputable def Zcy:Fs Try.prog:=Zhg fuel
theorem ZaS:Zcy.Ok:=ZCO (s:=Zfh fuel) Zr1 fun x=>by
 show ZF fuel x=Zcx fuel x
 unfold ZF
 split
 ·rename_i h
  exact (ZCY (of_decide_eq_true h)).symm
 ·rfl
theorem ZBs {l:List UInt8} (h:l.length≤4294967296):ZF fuel l=some (sha l):=if_pos (decide_eq_true h)
end Go.Proofs.Ytehgcchjaamddaa
end
section
set_option maxRecDepth 4000
namespace Go.Proofs.Ytehgcchjaamddaa
open Go Go.Ev
noncomputable section
def QD (F:Nat):Fs Try.prog:=⟨35,[.nil .u8,.v (.int .i64)],[],[(.int .i64)],(WB F).xs,fun x=>(WB F).M (x,([]:List UInt8))⟩
def Zeq:Fs Try.prog:=QD fuel
theorem Zdr:Zeq.Ok:=ZCE (i1:=[(.int .i64)]) (i2:=[(.int .i64),(.sl .u8)]) (fun x=>(x,([]:List UInt8))) VH (fun _=>rfl) (fun _=>⟨_,rfl⟩)
def ZbT (F:Nat) (s:((List (List UInt8))×Int×Int×(List UInt8)×(List UInt8))):Option (((List (List UInt8))×Int×Int×(List UInt8)×(List UInt8))⊕((List UInt8)×(List UInt8))):=
 if (decide (s.2.2.1 < s.2.1))=true then
  (idx s.1 s.2.2.1).bind fun e203=>
  (XX F (e203.length:Int) s.2.2.2.2).bind fun o204=>
  if (apB o204.length e203.length 1)=true then
   some (.inl (s.1,s.2.1,wi (s.2.2.1+1),s.2.2.2.1,o204++e203))
  else
  none
 else
 some (.inr (s.2.2.2.1,s.2.2.2.2))
def Zms:Lp:=⟨[(4,.ref 0 []),(5,.own 1 .u8),(13,.v (.sl (.sl .u8))),(14,.v (.int .i64)),(15,.v (.int .i64))],[.var (.v (.arr 32 .u8)) true,.log .u8 5],[(.sl (.sl .u8)),(.int .i64),(.int .i64),(.arr 32 .u8),(.sl .u8)],[⟨.exit 0,[(4,.ref 0 []),(5,.own 1 .u8)],[.var (.v (.arr 32 .u8)) true,.log .u8 5],[(.arr 32 .u8),(.sl .u8)]⟩],Zk (ZbT fuel) fuel⟩
theorem ZoE:Zms.Ok Try.prog (Zt Try.prog 16) (Zp Try.prog 16 0):=Zq (fi:={ hi:={ own:=[5,10,12,19,22,24],still:=[9,19,21,26]},lp:=[]}) (specs:={ l:=[Zcw]}) (okS ⟨VH,trivial⟩) trivial (by kernel_rfl) (fun v=>by kernel_rfl)
def Zz (F:Nat) (a0:ByteArray) (a1:(List (List UInt8))):Option ((List UInt8)):=
 (XX F (a0.size:Int) ([]:List UInt8)).bind fun o202=>
 if (apB o202.length ((Zia a0).length) 1)=true then
  (Zk (ZbT F) F (a1,(a1.length:Int),(0:Int),([0,0,0,0,0,0,0,0,0,0,0,0,0,0,0,0,0,0,0,0,0,0,0,0,0,0,0,0,0,0,0,0]:List UInt8),o202++(Zia a0))).bind fun o205=>
  (ZF F o205.2).bind fun o206=>
  some o206
 else
 none
def Zhh (F:Nat):Fs Try.prog:=⟨16,[.v .str,.v (.sl (.sl .u8))],[],[.str,(.sl (.sl .u8))],[⟨.ret,[(0,.v (.arr 32 .u8))],[],[(.arr 32 .u8)]⟩],fun x=>Zz F x.1 x.2⟩
def Xx:Fs Try.prog:=Zhh fuel
theorem YV:Xx.Ok:=Zn (fi:={ hi:={ own:=[5,10,12,19,22,24],still:=[9,19,21,26]},lp:=[(0,Zms)]}) (specs:={ l:=[Zeq,Zcy]}) (okS ⟨Zdr,ZaS,trivial⟩) ⟨ZoE,trivial⟩ (by decide+kernel) (fun x=>by kernel_rfl)
def ZBO:ByteArray:=⟨#[104,105,110,116]⟩
def Wg (F:Nat) (a0:(List UInt8)):Option ((List UInt8)):=
 (Zz F ZBO ([a0]:List (List UInt8))).bind fun o207=>
 if (decide (16≤(o207.take 16).length))=true then
  some ((o207.take 16).take 16)
 else
 none
def ZdR (F:Nat):Fs Try.prog:=⟨27,[.v (.arr 32 .u8)],[],[(.arr 32 .u8)],[⟨.ret,[(0,.v (.arr 16 .u8))],[],[(.arr 16 .u8)]⟩],fun x=>Wg F x⟩
def ZbU:Fs Try.prog:=ZdR fuel
theorem ZaA:ZbU.Ok:=Zn (fi:={ hi:={ still:=[5],frz:=[4,7]},lp:=[]}) (specs:={ l:=[Xx]}) (okS ⟨YV,trivial⟩) trivial (by decide+kernel) (fun x=>by kernel_rfl)
def Zfk (F:Nat) (a0:(List UInt8)):Option ((UInt64×(List UInt8))):=
 some ((0:UInt64),a0)
def Zfl (F:Nat):Fs Try.prog:=⟨77,[.v (.arr 32 .u8)],[],[(.arr 32 .u8)],[⟨.ret,[(0,.fn 80 [.ref 0 [],.ref 1 []])],[.var (.v .u64) true,.var (.v (.arr 32 .u8)) true],[.u64,(.arr 32 .u8)]⟩],fun x=>Zfk F x⟩
def Zhi:Fs Try.prog:=Zfl fuel
theorem Zfm:Zhi.Ok:=Zn (fi:={ hi:={ still:=[2]},lp:=[]}) (specs:={ l:=[]}) (okS trivial) trivial (by decide+kernel) (fun x=>by kernel_rfl)
def Zga (F:Nat) (s:(Int×UInt64×(List UInt8)×(List UInt8)×(List UInt8))):Option ((Int×UInt64×(List UInt8)×(List UInt8)×(List UInt8))⊕(UInt64×(List UInt8)×(List UInt8)×(List UInt8))):=
 if (decide (s.1 < 8))=true then
  if (decide (0≤wi (56 - (wi (8*s.1)))))=true then
   let y209:UInt64:=Yi s.2.1 (min (wi (56 - (wi (8*s.1)))).toNat 64)
   if (inB s.1 8)=true then
    (s.2.2.2.2[s.1.toNat]?).bind fun e210=>
    some (.inl (wi (s.1+1),s.2.1,s.2.2.1,s.2.2.2.1,s.2.2.2.2.set s.1.toNat (w8 (y209.toNat:Int))))
   else
   none
  else
  none
 else
 some (.inr (s.2.1,s.2.2.1,s.2.2.2.1,s.2.2.2.2))
def Zhj:Lp:=⟨[(0,.ref 0 []),(1,.ref 1 []),(2,.ref 2 []),(3,.ref 3 []),(5,.v (.int .i64))],[.var (.v .u64) true,.var (.v (.arr 32 .u8)) true,.var (.v (.arr 32 .u8)) true,.var (.v (.arr 8 .u8)) true],[(.int .i64),.u64,(.arr 32 .u8),(.arr 32 .u8),(.arr 8 .u8)],[⟨.exit 0,[(0,.ref 0 []),(1,.ref 1 []),(2,.ref 2 []),(3,.ref 3 [])],[.var (.v .u64) true,.var (.v (.arr 32 .u8)) true,.var (.v (.arr 32 .u8)) true,.var (.v (.arr 8 .u8)) true],[.u64,(.arr 32 .u8),(.arr 32 .u8),(.arr 8 .u8)]⟩],Zk (Zga fuel) fuel⟩
theorem ZkK:Zhj.Ok Try.prog (Zt Try.prog 80) (Zp Try.prog 80 0):=Zq (fi:={ hi:={ still:=[21],frz:=[19,20]},lp:=[]}) (specs:={ l:=[]}) (okS trivial) trivial (by kernel_rfl) (fun v=>by kernel_rfl)
def ZzU:ByteArray:=⟨#[115,116,114,101,97,109]⟩
def Zr3 (F:Nat) (s0:UInt64) (s1:(List UInt8)):Option (((List UInt8)×UInt64×(List UInt8))):=
 (Zk (Zga F) F ((0:Int),s0,s1,([0,0,0,0,0,0,0,0,0,0,0,0,0,0,0,0,0,0,0,0,0,0,0,0,0,0,0,0,0,0,0,0]:List UInt8),([0,0,0,0,0,0,0,0]:List UInt8))).bind fun o211=>
 (Zz F ZzU ([o211.2.1,o211.2.2.2]:List (List UInt8))).bind fun o212=>
 some (o212,o211.1+1,o211.2.1)
def Zcz (F:Nat):Fs Try.prog:=⟨80,[.ref 0 [],.ref 1 []],[.var (.v .u64) true,.var (.v (.arr 32 .u8)) true],[.u64,(.arr 32 .u8)],[⟨.ret,[(0,.v (.arr 32 .u8))],[.var (.v .u64) true,.var (.v (.arr 32 .u8)) false],[(.arr 32 .u8),.u64,(.arr 32 .u8)]⟩],fun x=>Zr3 F x.1 x.2⟩
def ZpC:Fs Try.prog:=Zcz fuel
theorem ZoF:ZpC.Ok:=Zn (fi:={ hi:={ still:=[21],frz:=[19,20]},lp:=[(0,Zhj)]}) (specs:={ l:=[Xx]}) (okS ⟨YV,trivial⟩) ⟨ZkK,trivial⟩ (by decide+kernel) (fun x=>by kernel_rfl)
def Xy (F:Nat) (s:(Int×UInt64×(List UInt8)×(List UInt8)×(List UInt8))):Option ((Int×UInt64×(List UInt8)×(List UInt8)×(List UInt8))⊕(UInt64×(List UInt8)×(List UInt8)×(List UInt8))):=
 if (decide (s.1 < 8))=true then
  if (decide (0≤wi (56 - (wi (8*s.1)))))=true then
   let y214:UInt64:=Yi s.2.1 (min (wi (56 - (wi (8*s.1)))).toNat 64)
   if (inB s.1 8)=true then
    (s.2.2.2.2[s.1.toNat]?).bind fun e215=>
    some (.inl (wi (s.1+1),s.2.1,s.2.2.1,s.2.2.2.1,s.2.2.2.2.set s.1.toNat (w8 (y214.toNat:Int))))
   else
   none
  else
  none
 else
 some (.inr (s.2.1,s.2.2.1,s.2.2.2.1,s.2.2.2.2))
def Zds:Lp:=⟨[(0,.ref 0 []),(1,.ref 1 []),(2,.ref 2 []),(3,.ref 3 []),(5,.v (.int .i64))],[.var (.v .u64) true,.var (.v (.arr 32 .u8)) false,.var (.v (.arr 32 .u8)) true,.var (.v (.arr 8 .u8)) true],[(.int .i64),.u64,(.arr 32 .u8),(.arr 32 .u8),(.arr 8 .u8)],[⟨.exit 0,[(0,.ref 0 []),(1,.ref 1 []),(2,.ref 2 []),(3,.ref 3 [])],[.var (.v .u64) true,.var (.v (.arr 32 .u8)) false,.var (.v (.arr 32 .u8)) true,.var (.v (.arr 8 .u8)) true],[.u64,(.arr 32 .u8),(.arr 32 .u8),(.arr 8 .u8)]⟩],Zk (Xy fuel) fuel⟩
theorem Zhk:Zds.Ok Try.prog (Zt Try.prog 80) (Zp Try.prog 80 0):=Zq (fi:={ hi:={ still:=[21],frz:=[19,20]},lp:=[]}) (specs:={ l:=[]}) (okS trivial) trivial (by kernel_rfl) (fun v=>by kernel_rfl)
def WC (F:Nat) (s0:UInt64) (s1:(List UInt8)):Option (((List UInt8)×UInt64×(List UInt8))):=
 (Zk (Xy F) F ((0:Int),s0,s1,([0,0,0,0,0,0,0,0,0,0,0,0,0,0,0,0,0,0,0,0,0,0,0,0,0,0,0,0,0,0,0,0]:List UInt8),([0,0,0,0,0,0,0,0]:List UInt8))).bind fun o216=>
 (Zz F ZzU ([o216.2.1,o216.2.2.2]:List (List UInt8))).bind fun o217=>
 some (o217,o216.1+1,o216.2.1)
def QE (F:Nat):Fs Try.prog:=⟨80,[.ref 0 [],.ref 1 []],[.var (.v .u64) true,.var (.v (.arr 32 .u8)) false],[.u64,(.arr 32 .u8)],[⟨.ret,[(0,.v (.arr 32 .u8))],[.var (.v .u64) true,.var (.v (.arr 32 .u8)) false],[(.arr 32 .u8),.u64,(.arr 32 .u8)]⟩],fun x=>WC F x.1 x.2⟩
def Zam:Fs Try.prog:=QE fuel
theorem QF:Zam.Ok:=Zn (fi:={ hi:={ still:=[21],frz:=[19,20]},lp:=[(0,Zds)]}) (specs:={ l:=[Xx]}) (okS ⟨YV,trivial⟩) ⟨Zhk,trivial⟩ (by decide+kernel) (fun x=>by kernel_rfl)
def Zgb (F:Nat) (s:(Int×(List UInt8)×(List UInt8)×UInt64×(List UInt8))):Option ((Int×(List UInt8)×(List UInt8)×UInt64×(List UInt8))⊕(Int×(List UInt8)×(List UInt8)×UInt64×(List UInt8))):=
 if (decide ((s.2.2.1.length:Int) < s.1))=true then
  (WC F s.2.2.2.1 s.2.2.2.2).bind fun o218=>
  if (apB s.2.2.1.length o218.1.length 1)=true then
   some (.inl (s.1,s.2.1,s.2.2.1++o218.1,o218.2.1,o218.2.2))
  else
  none
 else
 some (.inr (s.1,s.2.1,s.2.2.1,s.2.2.2.1,s.2.2.2.2))
def Zhl:Lp:=⟨[(1,.v (.int .i64)),(5,.own 1 .u8),(6,.fn 80 [.ref 2 [],.ref 3 []])],[.var (.v (.arr 32 .u8)) true,.log .u8 5,.var (.v .u64) true,.var (.v (.arr 32 .u8)) false],[(.int .i64),(.arr 32 .u8),(.sl .u8),.u64,(.arr 32 .u8)],[⟨.exit 0,[(1,.v (.int .i64)),(5,.own 1 .u8)],[.var (.v (.arr 32 .u8)) true,.log .u8 5,.var (.v .u64) true,.var (.v (.arr 32 .u8)) false],[(.int .i64),(.arr 32 .u8),(.sl .u8),.u64,(.arr 32 .u8)]⟩],Zk (Zgb fuel) fuel⟩
theorem ZkL:Zhl.Ok Try.prog (Zt Try.prog 71) (Zp Try.prog 71 0):=Zq (fi:={ hi:={ own:=[5,16,25,27],still:=[4,17],frz:=[26]},lp:=[]}) (specs:={ l:=[Zam]}) (okS ⟨QF,trivial⟩) trivial (by kernel_rfl) (fun v=>by kernel_rfl)
def Zr4 (F:Nat) (a0:(List UInt8)) (a1:Int):Option ((List UInt8)):=
 if (decide (a1 < 0))=true then
  some ([]:List UInt8)
 else
 if (decide (a1 > 65536))=true then
  some ([]:List UInt8)
 else
 if (true&&(Zf2 (wi (a1+32)) 1))=true then
  (Zfk F a0).bind fun o208=>
  (Zk (Zgb F) F (a1,a0,([]:List UInt8),o208.1,o208.2)).bind fun o219=>
  if (Vu o219.2.2.1.length none (some o219.1))=true then
   some (o219.2.2.1.take o219.1.toNat)
  else
  none
 else
 none
def ZcA (F:Nat):Fs Try.prog:=⟨71,[.v (.arr 32 .u8),.v (.int .i64)],[],[(.arr 32 .u8),(.int .i64)],[⟨.ret,[(0,.v (.sl .u8))],[],[(.sl .u8)]⟩],fun x=>Zr4 F x.1 x.2⟩
def ZpD:Fs Try.prog:=ZcA fuel
theorem ZoG:ZpD.Ok:=Zn (fi:={ hi:={ own:=[5,16,25,27],still:=[4,17],frz:=[26]},lp:=[(0,Zhl)]}) (specs:={ l:=[Zhi]}) (okS ⟨Zfm,trivial⟩) ⟨ZkL,trivial⟩ (by decide+kernel) (fun x=>by kernel_rfl)
def Wq (F:Nat) (s:(Int×(List UInt8)×(List Unit)×(List UInt8)×(List Unit)×(List UInt8)×UInt64×(List UInt8))):Option ((Int×(List UInt8)×(List Unit)×(List UInt8)×(List Unit)×(List UInt8)×UInt64×(List UInt8))⊕(Int×(List UInt8)×(List Unit)×(List UInt8)×(List Unit)×(List UInt8)×UInt64×(List UInt8))):=
 if (decide ((s.2.2.2.2.2.1.length:Int) < s.1))=true then
  (WC F s.2.2.2.2.2.2.1 s.2.2.2.2.2.2.2).bind fun o222=>
  if (apB s.2.2.2.2.2.1.length o222.1.length 1)=true then
   some (.inl (s.1,s.2.1,s.2.2.1,s.2.2.2.1,()::s.2.2.2.2.1,s.2.2.2.2.2.1++o222.1,o222.2.1,o222.2.2))
  else
  none
 else
 some (.inr (s.1,s.2.1,s.2.2.1,s.2.2.2.1,s.2.2.2.2.1,s.2.2.2.2.2.1,s.2.2.2.2.2.2.1,s.2.2.2.2.2.2.2))
def Zdt:Lp:=⟨[(1,.v (.int .i64)),(5,.rw 2),(6,.fn 80 [.ref 3 [],.ref 4 []])],[.var (.v (.arr 32 .u8)) true,.row .u8 true 5,.row .u8 true 5,.var (.v .u64) true,.var (.v (.arr 32 .u8)) false],[(.int .i64),(.arr 32 .u8),(.sl (.st [])),(.sl .u8),(.sl (.st [])),(.sl .u8),.u64,(.arr 32 .u8)],[⟨.exit 0,[(1,.v (.int .i64)),(5,.rw 2)],[.var (.v (.arr 32 .u8)) true,.row .u8 true 5,.row .u8 true 5,.var (.v .u64) true,.var (.v (.arr 32 .u8)) false],[(.int .i64),(.arr 32 .u8),(.sl (.st [])),(.sl .u8),(.sl (.st [])),(.sl .u8),.u64,(.arr 32 .u8)]⟩],Zk (Wq fuel) fuel⟩
theorem Zhm:Zdt.Ok Try.prog (Zt Try.prog 71) (Zp Try.prog 71 0):=Zq (fi:={ hi:={ own:=[5,16,25,27],still:=[17],rowt:=[4,5,16,25,27,28,30],frz:=[26]},lp:=[]}) (specs:={ l:=[Zam]}) (okS ⟨QF,trivial⟩) trivial (by kernel_rfl) (fun v=>by kernel_rfl)
def Xd (F:Nat) (a0:(List UInt8)) (a1:Int):Option (((List Unit)×(List UInt8))):=
 if (decide (a1 < 0))=true then
  some (([]:List Unit),([]:List UInt8))
 else
 if (decide (a1 > 65536))=true then
  some (([]:List Unit),([]:List UInt8))
 else
 if (true&&(Zf2 (wi (a1+32)) 1))=true then
  (Zfk F a0).bind fun o220=>
  (Zk (Wq F) F (a1,a0,([]:List Unit),([]:List UInt8),([]:List Unit),([]:List UInt8),o220.1,o220.2)).bind fun o223=>
  if (decide (0≤o223.1)&&decide (o223.1.toNat≤o223.2.2.2.2.2.1.length))=true then
   some (o223.2.2.2.2.1,o223.2.2.2.2.2.1.take o223.1.toNat)
  else
  none
 else
 none
def QG (F:Nat):Fs Try.prog:=⟨71,[.v (.arr 32 .u8),.v (.int .i64)],[],[(.arr 32 .u8),(.int .i64)],[⟨.ret,[(0,.rw 0)],[.row .u8 true 5],[(.sl (.st [])),(.sl .u8)]⟩],fun x=>Xd F x.1 x.2⟩
def Zan:Fs Try.prog:=QG fuel
theorem QH:Zan.Ok:=Zn (fi:={ hi:={ own:=[5,16,25,27],still:=[17],rowt:=[4,5,16,25,27,28,30],frz:=[26]},lp:=[(0,Zdt)]}) (specs:={ l:=[Zhi]}) (okS ⟨Zfm,trivial⟩) ⟨Zhm,trivial⟩ (by decide+kernel) (fun x=>by kernel_rfl)
def ZaB (F:Nat) (s:((List UInt8)×Int×Int×(List UInt8)×(List Unit)×(List UInt8))):Option (((List UInt8)×Int×Int×(List UInt8)×(List Unit)×(List UInt8))⊕((List UInt8)×(List Unit)×(List UInt8))):=
 if (decide (s.2.2.1 < s.2.1))=true then
  if (inB s.2.2.1 s.2.2.2.2.2.length)=true then
   (s.2.2.2.2.2[s.2.2.1.toNat]?).bind fun e225=>
   (idx s.1 s.2.2.1).bind fun e226=>
   if (inB s.2.2.1 s.2.2.2.2.2.length)=true then
    (s.2.2.2.2.2[s.2.2.1.toNat]?).bind fun e227=>
    some (.inl (s.1,s.2.1,wi (s.2.2.1+1),s.2.2.2.1,s.2.2.2.2.1,s.2.2.2.2.2.set s.2.2.1.toNat (e225^^^e226)))
   else
   none
  else
  none
 else
 some (.inr (s.2.2.2.1,s.2.2.2.2.1,s.2.2.2.2.2))
def ZkM:Lp:=⟨[(1,.v (.sl .u8)),(5,.rw 1),(12,.v (.int .i64)),(13,.v (.int .i64))],[.var (.v (.arr 32 .u8)) true,.row .u8 true 5],[(.sl .u8),(.int .i64),(.int .i64),(.arr 32 .u8),(.sl (.st [])),(.sl .u8)],[⟨.exit 0,[(5,.rw 1)],[.var (.v (.arr 32 .u8)) true,.row .u8 true 5],[(.arr 32 .u8),(.sl (.st [])),(.sl .u8)]⟩],Zk (ZaB fuel) fuel⟩
theorem ZmP:ZkM.Ok Try.prog (Zt Try.prog 60) (Zp Try.prog 60 0):=Zq (fi:={ hi:={ still:=[4,7,9],rowt:=[5,10,16]},lp:=[]}) (specs:={ l:=[]}) (okS trivial) trivial (by kernel_rfl) (fun v=>by kernel_rfl)
def Zfn (F:Nat) (a0:(List UInt8)) (a1:(List UInt8)):Option ((List UInt8)):=
 (Xd F a0 (a1.length:Int)).bind fun o224=>
 (Zk (ZaB F) F (a1,(a1.length:Int),(0:Int),a0,o224.1,o224.2)).bind fun o228=>
 some o228.2.2
def Zfo (F:Nat):Fs Try.prog:=⟨60,[.v (.arr 32 .u8),.v (.sl .u8)],[],[(.arr 32 .u8),(.sl .u8)],[⟨.ret,[(0,.v (.sl .u8))],[],[(.sl .u8)]⟩],fun x=>Zfn F x.1 x.2⟩
def Zmt:Fs Try.prog:=Zfo fuel
theorem ZkN:Zmt.Ok:=Zn (fi:={ hi:={ still:=[4,7,9],rowt:=[5,10,16]},lp:=[(0,ZkM)]}) (specs:={ l:=[Zan]}) (okS ⟨QH,trivial⟩) ⟨ZmP,trivial⟩ (by decide+kernel) (fun x=>by kernel_rfl)
def ZBP:ByteArray:=⟨#[115,101,97,108]⟩
def Zer (F:Nat) (a0:(List UInt8)) (a1:(List UInt8)):Option ((List UInt8)):=
 (Zz F ZBP ([a0,a1]:List (List UInt8))).bind fun o229=>
 if (decide (8≤(o229.take 8).length))=true then
  some ((o229.take 8).take 8)
 else
 none
def Zhn (F:Nat):Fs Try.prog:=⟨61,[.v (.arr 32 .u8),.v (.sl .u8)],[],[(.arr 32 .u8),(.sl .u8)],[⟨.ret,[(0,.v (.arr 8 .u8))],[],[(.arr 8 .u8)]⟩],fun x=>Zer F x.1 x.2⟩
def Zjt:Fs Try.prog:=Zhn fuel
theorem Zho:Zjt.Ok:=Zn (fi:={ hi:={ still:=[8],frz:=[6,10]},lp:=[]}) (specs:={ l:=[Xx]}) (okS ⟨YV,trivial⟩) trivial (by decide+kernel) (fun x=>by kernel_rfl)
def Vk (F:Nat) (s:((List UInt8)×Int×Int×(List UInt8)×(List Unit)×(List UInt8)×(List Unit)×(List UInt8))):Option (((List UInt8)×Int×Int×(List UInt8)×(List Unit)×(List UInt8)×(List Unit)×(List UInt8))⊕((List UInt8)×(List Unit)×(List UInt8)×(List Unit)×(List UInt8))):=
 if (decide (s.2.2.1 < s.2.1))=true then
  if (inB s.2.2.1 s.2.2.2.2.2.2.2.length)=true then
   (s.2.2.2.2.2.2.2[s.2.2.1.toNat]?).bind fun e231=>
   (idx s.1 s.2.2.1).bind fun e232=>
   if (inB s.2.2.1 s.2.2.2.2.2.2.2.length)=true then
    (s.2.2.2.2.2.2.2[s.2.2.1.toNat]?).bind fun e233=>
    let y234:(List UInt8):=s.2.2.2.2.2.2.2.set s.2.2.1.toNat (e231^^^e232)
    some (.inl (s.1,s.2.1,wi (s.2.2.1+1),s.2.2.2.1,s.2.2.2.2.1,s.2.2.2.2.2.1,s.2.2.2.2.2.2.1,y234))
   else
   none
  else
  none
 else
 some (.inr (s.2.2.2.1,s.2.2.2.2.1,s.2.2.2.2.2.1,s.2.2.2.2.2.2.1,s.2.2.2.2.2.2.2))
def Zgc:Lp:=⟨[(1,.v (.sl .u8)),(5,.rw 2),(12,.v (.int .i64)),(13,.v (.int .i64))],[.var (.v (.arr 32 .u8)) true,.row .u8 true 5,.row .u8 true 5],[(.sl .u8),(.int .i64),(.int .i64),(.arr 32 .u8),(.sl (.st [])),(.sl .u8),(.sl (.st [])),(.sl .u8)],[⟨.exit 0,[(5,.rw 2)],[.var (.v (.arr 32 .u8)) true,.row .u8 true 5,.row .u8 true 5],[(.arr 32 .u8),(.sl (.st [])),(.sl .u8),(.sl (.st [])),(.sl .u8)]⟩],Zk (Vk fuel) fuel⟩
theorem Zju:Zgc.Ok Try.prog (Zt Try.prog 60) (Zp Try.prog 60 0):=Zq (fi:={ hi:={ still:=[7,9],rowt:=[4,5,10,16,27]},lp:=[]}) (specs:={ l:=[]}) (okS trivial) trivial (by kernel_rfl) (fun v=>by kernel_rfl)
def ZaC (F:Nat) (a0:(List UInt8)) (a1:(List UInt8)):Option (((List Unit)×(List UInt8))):=
 (Xd F a0 (a1.length:Int)).bind fun o230=>
 (Zk (Vk F) F (a1,(a1.length:Int),(0:Int),a0,([]:List Unit),([]:List UInt8),o230.1,o230.2)).bind fun o235=>
 some (o235.2.2.2.1,o235.2.2.2.2)
def Zba (F:Nat):Fs Try.prog:=⟨60,[.v (.arr 32 .u8),.v (.sl .u8)],[],[(.arr 32 .u8),(.sl .u8)],[⟨.ret,[(0,.rw 0)],[.row .u8 true 5],[(.sl (.st [])),(.sl .u8)]⟩],fun x=>ZaC F x.1 x.2⟩
def Zhp:Fs Try.prog:=Zba fuel
theorem Zgd:Zhp.Ok:=Zn (fi:={ hi:={ still:=[7,9],rowt:=[4,5,10,16,27]},lp:=[(0,Zgc)]}) (specs:={ l:=[Zan]}) (okS ⟨QH,trivial⟩) ⟨Zju,trivial⟩ (by decide+kernel) (fun x=>by kernel_rfl)
def Zfp (F:Nat) (a0:(List UInt8)) (a1:(List UInt8)):Option ((List UInt8)):=
 if (decide ((a1.length:Int) > 65536))=true then
  some ([]:List UInt8)
 else
 (ZaC F a0 a1).bind fun o236=>
 (Zer F a0 o236.2).bind fun o237=>
 if (apB o236.2.length o237.length 1)=true then
  some (o236.2++o237)
 else
 none
def Zfq (F:Nat):Fs Try.prog:=⟨28,[.v (.arr 32 .u8),.v (.sl .u8)],[],[(.arr 32 .u8),(.sl .u8)],[⟨.ret,[(0,.v (.sl .u8))],[],[(.sl .u8)]⟩],fun x=>Zfp F x.1 x.2⟩
def Zmu:Fs Try.prog:=Zfq fuel
theorem ZkO:Zmu.Ok:=Zn (fi:={ hi:={ own:=[5,12,16,18],still:=[4,10,11,13,14],frz:=[17]},lp:=[]}) (specs:={ l:=[Zhp,Zjt]}) (okS ⟨Zgd,Zho,trivial⟩) trivial (by decide+kernel) (fun x=>by kernel_rfl)
def ZBQ:ByteArray:=⟨#[116,111,119,101,114]⟩
def VQ (F:Nat) (a0:(List UInt8)):Option ((List UInt8)):=
 (Zz F ZBQ ([a0]:List (List UInt8))).bind fun o238=>
 some o238
def Zfr (F:Nat):Fs Try.prog:=⟨29,[.v (.arr 32 .u8)],[],[(.arr 32 .u8)],[⟨.ret,[(0,.v (.arr 32 .u8))],[],[(.arr 32 .u8)]⟩],fun x=>VQ F x⟩
def Zdu:Fs Try.prog:=Zfr fuel
theorem ZbV:Zdu.Ok:=Zn (fi:={ hi:={ still:=[4],frz:=[3]},lp:=[]}) (specs:={ l:=[Xx]}) (okS ⟨YV,trivial⟩) trivial (by decide+kernel) (fun x=>by kernel_rfl)
def XC (F:Nat) (a0:Tx) (a1:(List UInt8)):Option (Zc):=
 (Wg F a1).bind fun o239=>
 (VQ F a1).bind fun o240=>
 (Zem F a0).bind fun o241=>
 (Zfp F o240 o241).bind fun o242=>
 some (o239,o242)
def X8 (F:Nat):Fs Try.prog:=⟨8,[.v yTx,.v (.arr 32 .u8)],[],[yTx,(.arr 32 .u8)],[⟨.ret,[(0,.v Zb)],[],[Zb]⟩],fun x=>XC F x.1 x.2⟩
def QI:Fs Try.prog:=X8 fuel
theorem V4:QI.Ok:=Zn (fi:={ hi:={ still:=[5,7,8,9,10]},lp:=[]}) (specs:={ l:=[ZbU,Zdu,Zjr,Zmu]}) (okS ⟨ZaA,ZbV,Zg7,ZkO,trivial⟩) trivial (by decide+kernel) (fun x=>by kernel_rfl)
def ZBR:ByteArray:=⟨#[116,120]⟩
def Zhq (F:Nat) (a0:Tx):Option ((List UInt8)):=
 (Y3 F a0).bind fun o243=>
 if (!o243)=true then
  some ([0,0,0,0,0,0,0,0,0,0,0,0,0,0,0,0,0,0,0,0,0,0,0,0,0,0,0,0,0,0,0,0]:List UInt8)
 else
 (Zel F a0).bind fun o244=>
 (Zz F ZBR ([o244]:List (List UInt8))).bind fun o245=>
 some o245
def ZoH (F:Nat):Fs Try.prog:=⟨9,[.v yTx],[],[yTx],[⟨.ret,[(0,.v (.arr 32 .u8))],[],[(.arr 32 .u8)]⟩],fun x=>Zhq F x⟩
def Zna:Fs Try.prog:=ZoH fuel
theorem ZkP:Zna.Ok:=Zn (fi:={ hi:={ still:=[3,7,9]},lp:=[]}) (specs:={ l:=[VN,Zjq,Xx]}) (okS ⟨W0,Zg5,YV,trivial⟩) trivial (by decide+kernel) (fun x=>by kernel_rfl)
def Yx (F:Nat) (a0:(List UInt8)):Option ((List UInt8)):=
 if (apB 0 a0.length 1)=true then
  some a0
 else
 none
def ZcB (F:Nat):Fs Try.prog:=⟨33,[.sl true .u8],[],[(.sl .u8)],[⟨.ret,[(0,.v (.sl .u8))],[],[(.sl .u8)]⟩],fun x=>Yx F x⟩
def ZpE:Fs Try.prog:=ZcB fuel
theorem Zhr:ZpE.Ok:=Zn (fi:={ hi:={ own:=[5,7],still:=[2]},lp:=[]}) (specs:={ l:=[]}) (okS trivial) trivial (by decide+kernel) (fun x=>by kernel_rfl)
def Zge (F:Nat):Option ((List UInt8)):=
 some ([]:List UInt8)
def QJ (F:Nat):Fs Try.prog:=⟨33,[.nil .u8],[],[],[⟨.ret,[(0,.v (.sl .u8))],[],[(.sl .u8)]⟩],fun x=>Zge F⟩
def ZlI:Fs Try.prog:=QJ fuel
theorem Zdv:ZlI.Ok:=Zn (fi:={ hi:={ own:=[5,7],still:=[2]},lp:=[]}) (specs:={ l:=[]}) (okS trivial) trivial (by decide+kernel) (fun x=>by kernel_rfl)
def Zao (F:Nat):Fs Try.prog:=⟨33,[.v (.sl .u8)],[],[(.sl .u8)],[⟨.ret,[(0,.v (.sl .u8))],[],[(.sl .u8)]⟩],fun x=>Yx F x⟩
def WD:Fs Try.prog:=Zao fuel
theorem X9:WD.Ok:=ZrV (t:=.u8) (xs:=[⟨.ret,[(0,.v (.sl .u8))],[],[(.sl .u8)]⟩]) (MA:=fun (x:(List UInt8))=>Yx fuel x) (MB:=fun _=>Zge fuel) Zhr Zdv rfl
def ZaD (F:Nat) (a0:(List UInt64)):Option ((List UInt64)):=
 if (apB 0 a0.length 8)=true then
  some a0
 else
 none
def Zbb (F:Nat):Fs Try.prog:=⟨73,[.sl true .u64],[],[(.sl .u64)],[⟨.ret,[(0,.v (.sl .u64))],[],[(.sl .u64)]⟩],fun x=>ZaD F x⟩
def ZoI:Fs Try.prog:=Zbb fuel
theorem Zgf:ZoI.Ok:=Zn (fi:={ hi:={ own:=[5,7],still:=[2]},lp:=[]}) (specs:={ l:=[]}) (okS trivial) trivial (by decide+kernel) (fun x=>by kernel_rfl)
def Zes (F:Nat):Option ((List UInt64)):=
 some ([]:List UInt64)
def VR (F:Nat):Fs Try.prog:=⟨73,[.nil .u64],[],[],[⟨.ret,[(0,.v (.sl .u64))],[],[(.sl .u64)]⟩],fun x=>Zes F⟩
def ZkQ:Fs Try.prog:=VR fuel
theorem ZcC:ZkQ.Ok:=Zn (fi:={ hi:={ own:=[5,7],still:=[2]},lp:=[]}) (specs:={ l:=[]}) (okS trivial) trivial (by decide+kernel) (fun x=>by kernel_rfl)
def QK (F:Nat):Fs Try.prog:=⟨73,[.v (.sl .u64)],[],[(.sl .u64)],[⟨.ret,[(0,.v (.sl .u64))],[],[(.sl .u64)]⟩],fun x=>ZaD F x⟩
def Zet:Fs Try.prog:=QK fuel
theorem Zdw:Zet.Ok:=ZrV (t:=.u64) (xs:=[⟨.ret,[(0,.v (.sl .u64))],[],[(.sl .u64)]⟩]) (MA:=fun (x:(List UInt64))=>ZaD fuel x) (MB:=fun _=>Zes fuel) Zgf ZcC rfl
def ZqB (F:Nat) (a0:(List UInt64)):Option (XZ):=
 (ZaD F a0).bind fun o246=>
 some ([(o246,0,0,0)]:XZ)
def Zhs (F:Nat):Fs Try.prog:=⟨66,[.v (.sl .u64)],[],[(.sl .u64)],[⟨.ret,[(0,.v Y2)],[],[Y2]⟩],fun x=>ZqB F x⟩
def ZoJ:Fs Try.prog:=Zhs fuel
theorem Zmv:ZoJ.Ok:=Zn (fi:={ hi:={ still:=[3]},lp:=[]}) (specs:={ l:=[Zet]}) (okS ⟨Zdw,trivial⟩) trivial (by decide+kernel) (fun x=>by kernel_rfl)
def ZqC (F:Nat) (a0:UInt64):Option (XZ):=
 (ZqB F ([a0]:List UInt64)).bind fun o247=>
 some o247
def Zht (F:Nat):Fs Try.prog:=⟨40,[.v .u64],[],[.u64],[⟨.ret,[(0,.v Y2)],[],[Y2]⟩],fun x=>ZqC F x⟩
def ZoK:Fs Try.prog:=Zht fuel
theorem Zmw:ZoK.Ok:=Zn (fi:={ hi:={ still:=[4]},lp:=[]}) (specs:={ l:=[ZoJ]}) (okS ⟨Zmv,trivial⟩) trivial (by decide+kernel) (fun x=>by kernel_rfl)
def ZkR (F:Nat) (a0:UInt64):Option (UInt64):=
 (Qu F a0).bind fun o248=>
 if o248=true then
  some a0
 else
 some (1:UInt64)
def ZcD (F:Nat):Fs Try.prog:=⟨74,[.v .u64],[],[.u64],[⟨.ret,[(0,.v .u64)],[],[.u64]⟩],fun x=>ZkR F x⟩
def ZiU:Fs Try.prog:=ZcD fuel
theorem Zhu:ZiU.Ok:=Zn (fi:={ hi:={ still:=[2,3]},lp:=[]}) (specs:={ l:=[ZdI]}) (okS ⟨Zcr,trivial⟩) trivial (by decide+kernel) (fun x=>by kernel_rfl)
def ZkS (F:Nat) (a0:UInt64) (a1:UInt64):Option (UInt64):=
 (ZkR F a0).bind fun o249=>
 (Qt F o249 (a1 % 2305843009213688669)).bind fun o250=>
 some o250
def ZcE (F:Nat):Fs Try.prog:=⟨67,[.v .u64,.v .u64],[],[.u64,.u64],[⟨.ret,[(0,.v .u64)],[],[.u64]⟩],fun x=>ZkS F x.1 x.2⟩
def ZiV:Fs Try.prog:=ZcE fuel
theorem Zhv:ZiV.Ok:=Zn (fi:={ hi:={ still:=[4,5,6,8]},lp:=[]}) (specs:={ l:=[ZiU,ZdH]}) (okS ⟨Zhu,Zcp,trivial⟩) trivial (by decide+kernel) (fun x=>by kernel_rfl)
def Zmx (F:Nat) (a0:UInt64):Option (UInt64):=
 (ZkS F (4:UInt64) a0).bind fun o251=>
 some o251
def ZdS (F:Nat):Fs Try.prog:=⟨41,[.v .u64],[],[.u64],[⟨.ret,[(0,.v .u64)],[],[.u64]⟩],fun x=>Zmx F x⟩
def ZkT:Fs Try.prog:=ZdS fuel
theorem ZiW:ZkT.Ok:=Zn (fi:={ hi:={ still:=[2,3]},lp:=[]}) (specs:={ l:=[ZiV]}) (okS ⟨Zhv,trivial⟩) trivial (by decide+kernel) (fun x=>by kernel_rfl)
def Zjv (F:Nat) (a0:Int):Option (Tx):=
 (Zmx F (3:UInt64)).bind fun o252=>
 (ZqC F o252).bind fun o253=>
 some (([(([0,0,0,0,0,0,0,0,0,0,0,0,0,0,0,0,0,0,0,0,0,0,0,0,0,0,0,0,0,0,0,0],0),(0,[],0))]:List In),([(5,o253)]:List Out),a0)
def Va (F:Nat):Fs Try.prog:=⟨17,[.v (.int .i64)],[],[(.int .i64)],[⟨.ret,[(0,.v yTx)],[],[yTx]⟩],fun x=>Zjv F x⟩
def Zid:Fs Try.prog:=Va fuel
theorem Zhw:Zid.Ok:=Zn (fi:={ hi:={ still:=[5]},lp:=[]}) (specs:={ l:=[ZkT,ZoK]}) (okS ⟨ZiW,Zmw,trivial⟩) trivial (by decide+kernel) (fun x=>by kernel_rfl)
def Zmy (F:Nat) (s:((List Sig)×(List Sig)×Int×Int)):Option (((List Sig)×(List Sig)×Int×Int)⊕(Bool⊕Unit)):=
 if (decide (s.2.2.2 < s.2.2.1))=true then
  (idx s.1 s.2.2.2).bind fun e254=>
  (idx s.2.1 s.2.2.2).bind fun e255=>
  if (!(decide (e254=e255)))=true then
   some (.inr (.inl false))
  else
  some (.inl (s.1,s.2.1,s.2.2.1,wi (s.2.2.2+1)))
 else
 some (.inr (.inr ()))
def ZoL:Lp:=⟨[(0,.v (.sl Zgj)),(1,.v (.sl Zgj)),(12,.v (.int .i64)),(13,.v (.int .i64))],[],[(.sl Zgj),(.sl Zgj),(.int .i64),(.int .i64)],[⟨.ret,[(4,.v .bool)],[],[.bool]⟩,⟨.exit 0,[],[],[]⟩],Zk (Zmy fuel) fuel⟩
theorem ZpF:ZoL.Ok Try.prog (Zt Try.prog 43) (Zp Try.prog 43 0):=Zq (fi:={ hi:={ still:=[4]},lp:=[]}) (specs:={ l:=[]}) (okS trivial) trivial (by kernel_rfl) (fun v=>by kernel_rfl)
def ZtS (F:Nat) (a0:(List Sig)) (a1:(List Sig)):Option (Bool):=
 if ((a0.length:Int)!=(a1.length:Int))=true then
  some false
 else
 (Zk (Zmy F) F (a0,a1,(a0.length:Int),(0:Int))).bind fun o256=>
 match o256 with
 |.inl o257=>
  some o257
 |.inr o258=>
  some true
def Zjw (F:Nat):Fs Try.prog:=⟨43,[.v (.sl Zgj),.v (.sl Zgj)],[],[(.sl Zgj),(.sl Zgj)],[⟨.ret,[(0,.v .bool)],[],[.bool]⟩],fun x=>ZtS F x.1 x.2⟩
def ZqD:Fs Try.prog:=Zjw fuel
theorem ZoM:ZqD.Ok:=Zn (fi:={ hi:={ still:=[4]},lp:=[(0,ZoL)]}) (specs:={ l:=[]}) (okS trivial) ⟨ZpF,trivial⟩ (by decide+kernel) (fun x=>by kernel_rfl)
def ZoN (F:Nat) (a0:In) (a1:In):Option (Bool):=
 if (decide (a0.1=a1.1))=true then
  if (a0.2.1==a1.2.1)=true then
   if (a0.2.2.2==a1.2.2.2)=true then
    (ZtS F a0.2.2.1 a1.2.2.1).bind fun o259=>
    some o259
   else
   some false
  else
  some false
 else
 some false
def Zfs (F:Nat):Fs Try.prog:=⟨42,[.v yIn,.v yIn],[],[yIn,yIn],[⟨.ret,[(0,.v .bool)],[],[.bool]⟩],fun x=>ZoN F x.1 x.2⟩
def Zmz:Fs Try.prog:=Zfs fuel
theorem ZkU:Zmz.Ok:=Zn (fi:={ hi:={ still:=[4,31,34]},lp:=[]}) (specs:={ l:=[ZqD]}) (okS ⟨ZoM,trivial⟩) trivial (by decide+kernel) (fun x=>by kernel_rfl)
def Zeu (F:Nat) (s:((List UInt64)×(List UInt64)×Int×Int)):Option (((List UInt64)×(List UInt64)×Int×Int)⊕(Bool⊕Unit)):=
 if (decide (s.2.2.2 < s.2.2.1))=true then
  (idx s.1 s.2.2.2).bind fun e260=>
  (idx s.2.1 s.2.2.2).bind fun e261=>
  if (e260 !=e261)=true then
   some (.inr (.inl false))
  else
  some (.inl (s.1,s.2.1,s.2.2.1,wi (s.2.2.2+1)))
 else
 some (.inr (.inr ()))
def Zgg:Lp:=⟨[(0,.v (.sl .u64)),(1,.v (.sl .u64)),(12,.v (.int .i64)),(13,.v (.int .i64))],[],[(.sl .u64),(.sl .u64),(.int .i64),(.int .i64)],[⟨.ret,[(4,.v .bool)],[],[.bool]⟩,⟨.exit 0,[],[],[]⟩],Zk (Zeu fuel) fuel⟩
theorem Zjx:Zgg.Ok Try.prog (Zt Try.prog 45) (Zp Try.prog 45 0):=Zq (fi:={ hi:={ still:=[4]},lp:=[]}) (specs:={ l:=[]}) (okS trivial) trivial (by kernel_rfl) (fun v=>by kernel_rfl)
def ZiX (F:Nat) (a0:(List UInt64)) (a1:(List UInt64)):Option (Bool):=
 if ((a0.length:Int)!=(a1.length:Int))=true then
  some false
 else
 (Zk (Zeu F) F (a0,a1,(a0.length:Int),(0:Int))).bind fun o262=>
 match o262 with
 |.inl o263=>
  some o263
 |.inr o264=>
  some true
def Zbc (F:Nat):Fs Try.prog:=⟨45,[.v (.sl .u64),.v (.sl .u64)],[],[(.sl .u64),(.sl .u64)],[⟨.ret,[(0,.v .bool)],[],[.bool]⟩],fun x=>ZiX F x.1 x.2⟩
def Zhx:Fs Try.prog:=Zbc fuel
theorem Zgh:Zhx.Ok:=Zn (fi:={ hi:={ still:=[4]},lp:=[(0,Zgg)]}) (specs:={ l:=[]}) (okS trivial) ⟨Zjx,trivial⟩ (by decide+kernel) (fun x=>by kernel_rfl)
def ZoO (F:Nat) (a0:Ye) (a1:Ye):Option (Bool):=
 if (a0.2.1==a1.2.1)=true then
  if (a0.2.2.1==a1.2.2.1)=true then
   if (a0.2.2.2==a1.2.2.2)=true then
    (ZiX F a0.1 a1.1).bind fun o265=>
    some o265
   else
   some false
  else
  some false
 else
 some false
def Zft (F:Nat):Fs Try.prog:=⟨44,[.v Zv,.v Zv],[],[Zv,Zv],[⟨.ret,[(0,.v .bool)],[],[.bool]⟩],fun x=>ZoO F x.1 x.2⟩
def ZmA:Fs Try.prog:=Zft fuel
theorem ZkV:ZmA.Ok:=Zn (fi:={ hi:={ still:=[4,26,28]},lp:=[]}) (specs:={ l:=[Zhx]}) (okS ⟨Zgh,trivial⟩) trivial (by decide+kernel) (fun x=>by kernel_rfl)
def ZoP (F:Nat) (s:((List In)×(List In)×Int×Int)):Option (((List In)×(List In)×Int×Int)⊕(Bool⊕Unit)):=
 if (decide (s.2.2.2 < s.2.2.1))=true then
  (idx s.2.1 s.2.2.2).bind fun e266=>
  (idx s.1 s.2.2.2).bind fun e267=>
  (ZoN F e266 e267).bind fun o268=>
  if (!o268)=true then
   some (.inr (.inl false))
  else
  some (.inl (s.1,s.2.1,s.2.2.1,wi (s.2.2.2+1)))
 else
 some (.inr (.inr ()))
def ZqE:Lp:=⟨[(1,.v (.sl yIn)),(2,.fn 42 []),(15,.v (.sl yIn)),(16,.v (.int .i64)),(17,.v (.int .i64))],[],[(.sl yIn),(.sl yIn),(.int .i64),(.int .i64)],[⟨.ret,[(6,.v .bool)],[],[.bool]⟩,⟨.exit 0,[],[],[]⟩],Zk (ZoP fuel) fuel⟩
theorem Zr5:ZqE.Ok Try.prog (Zt Try.prog 48) (Zp Try.prog 48 0):=Zq (fi:={ hi:={ still:=[6,27,28]},lp:=[]}) (specs:={ l:=[Zmz]}) (okS ⟨ZkU,trivial⟩) trivial (by kernel_rfl) (fun v=>by kernel_rfl)
def ZwC (F:Nat) (a0:(List In)) (a1:(List In)):Option (Bool):=
 if ((a0.length:Int)!=(a1.length:Int))=true then
  some false
 else
 (Zk (ZoP F) F (a1,a0,(a0.length:Int),(0:Int))).bind fun o269=>
 match o269 with
 |.inl o270=>
  some o270
 |.inr o271=>
  some true
def ZlJ (F:Nat):Fs Try.prog:=⟨48,[.v (.sl yIn),.v (.sl yIn),.fn 42 []],[],[(.sl yIn),(.sl yIn)],[⟨.ret,[(0,.v .bool)],[],[.bool]⟩],fun x=>ZwC F x.1 x.2⟩
def ZtT:Fs Try.prog:=ZlJ fuel
theorem ZqF:ZtT.Ok:=Zn (fi:={ hi:={ still:=[6,27,28]},lp:=[(0,ZqE)]}) (specs:={ l:=[]}) (okS trivial) ⟨Zr5,trivial⟩ (by decide+kernel) (fun x=>by kernel_rfl)
def Zhy (F:Nat) (s:((List Ye)×(List Ye)×Int×Int)):Option (((List Ye)×(List Ye)×Int×Int)⊕(Bool⊕Unit)):=
 if (decide (s.2.2.2 < s.2.2.1))=true then
  (idx s.2.1 s.2.2.2).bind fun e275=>
  (idx s.1 s.2.2.2).bind fun e276=>
  (ZoO F e275 e276).bind fun o277=>
  if (!o277)=true then
   some (.inr (.inl false))
  else
  some (.inl (s.1,s.2.1,s.2.2.1,wi (s.2.2.2+1)))
 else
 some (.inr (.inr ()))
def ZiY:Lp:=⟨[(1,.v (.sl Zv)),(2,.fn 44 []),(15,.v (.sl Zv)),(16,.v (.int .i64)),(17,.v (.int .i64))],[],[(.sl Zv),(.sl Zv),(.int .i64),(.int .i64)],[⟨.ret,[(6,.v .bool)],[],[.bool]⟩,⟨.exit 0,[],[],[]⟩],Zk (Zhy fuel) fuel⟩
theorem ZlK:ZiY.Ok Try.prog (Zt Try.prog 47) (Zp Try.prog 47 0):=Zq (fi:={ hi:={ still:=[6,27,28]},lp:=[]}) (specs:={ l:=[ZmA]}) (okS ⟨ZkV,trivial⟩) trivial (by kernel_rfl) (fun v=>by kernel_rfl)
def ZmB (F:Nat) (a0:(List Ye)) (a1:(List Ye)):Option (Bool):=
 if ((a0.length:Int)!=(a1.length:Int))=true then
  some false
 else
 (Zk (Zhy F) F (a1,a0,(a0.length:Int),(0:Int))).bind fun o278=>
 match o278 with
 |.inl o279=>
  some o279
 |.inr o280=>
  some true
def ZdT (F:Nat):Fs Try.prog:=⟨47,[.v (.sl Zv),.v (.sl Zv),.fn 44 []],[],[(.sl Zv),(.sl Zv)],[⟨.ret,[(0,.v .bool)],[],[.bool]⟩],fun x=>ZmB F x.1 x.2⟩
def ZkW:Fs Try.prog:=ZdT fuel
theorem ZiZ:ZkW.Ok:=Zn (fi:={ hi:={ still:=[6,27,28]},lp:=[(0,ZiY)]}) (specs:={ l:=[]}) (okS trivial) ⟨ZlK,trivial⟩ (by decide+kernel) (fun x=>by kernel_rfl)
def ZoQ (F:Nat) (a0:Out) (a1:Out):Option (Bool):=
 if (a0.1==a1.1)=true then
  (ZmB F a0.2 a1.2).bind fun o281=>
  some o281
 else
 some false
def Zfu (F:Nat):Fs Try.prog:=⟨46,[.v YI,.v YI,.ref 0 []],[.var (.fn 44 []) true],[YI,YI],[⟨.ret,[(0,.v .bool)],[.var (.fn 44 []) true],[.bool]⟩],fun x=>ZoQ F x.1 x.2⟩
def ZmC:Fs Try.prog:=Zfu fuel
theorem ZkX:ZmC.Ok:=Zn (fi:={ hi:={ still:=[5,14,17,18]},lp:=[]}) (specs:={ l:=[ZkW]}) (okS ⟨ZiZ,trivial⟩) trivial (by decide+kernel) (fun x=>by kernel_rfl)
def ZmD (F:Nat) (s:((List Out)×(List Out)×Int×Int)):Option (((List Out)×(List Out)×Int×Int)⊕(Bool⊕Unit)):=
 if (decide (s.2.2.2 < s.2.2.1))=true then
  (idx s.2.1 s.2.2.2).bind fun e273=>
  (idx s.1 s.2.2.2).bind fun e274=>
  (ZoQ F e273 e274).bind fun o282=>
  if (!o282)=true then
   some (.inr (.inl false))
  else
  some (.inl (s.1,s.2.1,s.2.2.1,wi (s.2.2.2+1)))
 else
 some (.inr (.inr ()))
def ZoR:Lp:=⟨[(1,.v (.sl YI)),(2,.fn 46 [.ref 0 []]),(15,.v (.sl YI)),(16,.v (.int .i64)),(17,.v (.int .i64))],[.var (.fn 44 []) true],[(.sl YI),(.sl YI),(.int .i64),(.int .i64)],[⟨.ret,[(6,.v .bool)],[.var (.fn 44 []) true],[.bool]⟩,⟨.exit 0,[],[.var (.fn 44 []) true],[]⟩],Zk (ZmD fuel) fuel⟩
theorem ZpG:ZoR.Ok Try.prog (Zt Try.prog 49) (Zp Try.prog 49 0):=Zq (fi:={ hi:={ still:=[6,27,28]},lp:=[]}) (specs:={ l:=[ZmC]}) (okS ⟨ZkX,trivial⟩) trivial (by kernel_rfl) (fun v=>by kernel_rfl)
def ZtU (F:Nat) (a0:(List Out)) (a1:(List Out)):Option (Bool):=
 if ((a0.length:Int)!=(a1.length:Int))=true then
  some false
 else
 (Zk (ZmD F) F (a1,a0,(a0.length:Int),(0:Int))).bind fun o283=>
 match o283 with
 |.inl o284=>
  some o284
 |.inr o285=>
  some true
def Zjy (F:Nat):Fs Try.prog:=⟨49,[.v (.sl YI),.v (.sl YI),.fn 46 [.ref 0 []]],[.var (.fn 44 []) true],[(.sl YI),(.sl YI)],[⟨.ret,[(0,.v .bool)],[.var (.fn 44 []) true],[.bool]⟩],fun x=>ZtU F x.1 x.2⟩
def ZqG:Fs Try.prog:=Zjy fuel
theorem ZoS:ZqG.Ok:=Zn (fi:={ hi:={ still:=[6,27,28]},lp:=[(0,ZoR)]}) (specs:={ l:=[]}) (okS trivial) ⟨ZpG,trivial⟩ (by decide+kernel) (fun x=>by kernel_rfl)
def ZzV (F:Nat) (a0:Tx) (a1:Tx):Option (Bool):=
 if (a0.2.2==a1.2.2)=true then
  (ZwC F a0.1 a1.1).bind fun o272=>
  if o272=true then
   (ZtU F a0.2.1 a1.2.1).bind fun o286=>
   some o286
  else
  some false
 else
 some false
def Zjz (F:Nat):Fs Try.prog:=⟨18,[.v yTx,.v yTx],[],[yTx,yTx],[⟨.ret,[(0,.v .bool)],[],[.bool]⟩],fun x=>ZzV F x.1 x.2⟩
def ZxQ:Fs Try.prog:=Zjz fuel
theorem Zvn:ZxQ.Ok:=Zn (fi:={ hi:={ still:=[4,16,18,19,24,26,27]},lp:=[]}) (specs:={ l:=[ZtT,ZqG]}) (okS ⟨ZqF,ZoS,trivial⟩) trivial (by decide+kernel) (fun x=>by kernel_rfl)
def ZDp:ByteArray:=⟨#[112,114,111,118,101]⟩
def Zfv (F:Nat) (a0:(List UInt8)) (a1:Zc):Option ((List UInt8)):=
 (Zz F ZDp ([a0,a1.2]:List (List UInt8))).bind fun o287=>
 some o287
def ZcF (F:Nat):Fs Try.prog:=⟨19,[.v (.arr 32 .u8),.v Zb],[],[(.arr 32 .u8),Zb],[⟨.ret,[(0,.v (.arr 32 .u8))],[],[(.arr 32 .u8)]⟩],fun x=>Zfv F x.1 x.2⟩
def ZdU:Fs Try.prog:=ZcF fuel
theorem ZcG:ZdU.Ok:=Zn (fi:={ hi:={ still:=[8],frz:=[5]},lp:=[]}) (specs:={ l:=[Xx]}) (okS ⟨YV,trivial⟩) trivial (by decide+kernel) (fun x=>by kernel_rfl)
end
end Go.Proofs.Ytehgcchjaamddaa
end
section
set_option maxRecDepth 100000
namespace Go.Proofs.Ytehgcchjaamddaa
open Go Go.Ev
noncomputable section
def his:FuncId→HI
 |4=>{ eqs:=true,own:=[],still:=[0,20,21,22,24,25,27,28,30,31,33,36,39,40,42,44,45,49,51,53,55,57,60,61,63,65,66,88,89,97,98,115],row:=[],deep:=[],frz:=[],ghost:=[],gst:=[]}
 |15=>{ eqs:=true,own:=[],still:=[],row:=[],deep:=[],frz:=[],ghost:=[],gst:=[]}
 |11=>{ eqs:=true,own:=[],still:=[],row:=[],deep:=[],frz:=[],ghost:=[],gst:=[]}
 |12=>{ eqs:=true,own:=[],still:=[4],row:=[],deep:=[],frz:=[],ghost:=[],gst:=[]}
 |13=>{ eqs:=true,own:=[],still:=[9],row:=[],deep:=[],frz:=[],ghost:=[],gst:=[]}
 |10=>{ eqs:=true,own:=[47,55],still:=[6,29,30,51],row:=[],deep:=[],frz:=[],ghost:=[],gst:=[]}
 |20=>{ eqs:=true,own:=[],still:=[2],row:=[],deep:=[],frz:=[],ghost:=[],gst:=[]}
 |8=>{ eqs:=true,own:=[],still:=[5,7,8,9,10],row:=[],deep:=[],frz:=[],ghost:=[],gst:=[]}
 |18=>{ eqs:=true,own:=[],still:=[4,16,18,19,24,26,27],row:=[],deep:=[],frz:=[],ghost:=[],gst:=[]}
 |38=>{ eqs:=true,own:=[],still:=[],row:=[],deep:=[],frz:=[],ghost:=[],gst:=[]}
 |39=>{ eqs:=true,own:=[],still:=[],row:=[5],deep:=[],frz:=[],ghost:=[],gst:=[]}
 |30=>{ eqs:=true,own:=[],still:=[4,5,6],row:=[],deep:=[],frz:=[],ghost:=[],gst:=[]}
 |31=>{ eqs:=true,own:=[],still:=[3,11,13],row:=[],deep:=[],frz:=[],ghost:=[],gst:=[]}
 |28=>{ eqs:=true,own:=[],still:=[],row:=[],deep:=[30],frz:=[17],ghost:=[],gst:=[]}
 |42=>{ eqs:=true,own:=[],still:=[4,31,34],row:=[],deep:=[],frz:=[],ghost:=[],gst:=[]}
 |44=>{ eqs:=true,own:=[],still:=[4,26,28],row:=[],deep:=[],frz:=[],ghost:=[],gst:=[]}
 |46=>{ eqs:=true,own:=[],still:=[5,14,17,18],row:=[],deep:=[],frz:=[],ghost:=[],gst:=[]}
 |47=>{ eqs:=true,own:=[],still:=[6,27,28],row:=[],deep:=[],frz:=[],ghost:=[],gst:=[]}
 |48=>{ eqs:=true,own:=[],still:=[6,27,28],row:=[],deep:=[],frz:=[],ghost:=[],gst:=[]}
 |49=>{ eqs:=true,own:=[],still:=[6,27,28],row:=[],deep:=[],frz:=[],ghost:=[],gst:=[]}
 |62=>{ eqs:=true,own:=[],still:=[4,15],row:=[],deep:=[],frz:=[],ghost:=[],gst:=[]}
 |60=>{ eqs:=true,own:=[],still:=[],row:=[],deep:=[],frz:=[],ghost:=[],gst:=[]}
 |71=>{ eqs:=true,own:=[],still:=[],row:=[16],deep:=[],frz:=[26],ghost:=[],gst:=[]}
 |99=>{ eqs:=true,own:=[10,33,37,76,79],still:=[6,46,49,52,61,62,64,71],row:=[],deep:=[],frz:=[],ghost:=[],gst:=[]}
 |100=>{ eqs:=true,own:=[],still:=[11,29,34,35],row:=[],deep:=[],frz:=[],ghost:=[],gst:=[]}
 |101=>{ eqs:=true,own:=[],still:=[],row:=[],deep:=[30,4],frz:=[],ghost:=[],gst:=[]}
 |102=>{ eqs:=true,own:=[],still:=[],row:=[32,99],deep:=[25,4],frz:=[],ghost:=[(4,[([1],YI,69)])],gst:=[]}
 |104=>{ eqs:=true,own:=[],still:=[3,5],row:=[],deep:=[],frz:=[],ghost:=[],gst:=[]}
 |107=>{ eqs:=true,own:=[],still:=[],row:=[],deep:=[],frz:=[],ghost:=[(8,[([0],.u64,74)]),(5,[([0],Zv,109)])],gst:=[]}
 |116=>{ eqs:=true,own:=[],still:=[6],row:=[],deep:=[],frz:=[],ghost:=[],gst:=[]}
 |117=>{ eqs:=true,own:=[],still:=[11,13],row:=[],deep:=[],frz:=[12],ghost:=[],gst:=[]}
 |5=>{ eqs:=true,own:=[],still:=[2,57,73,75,83],row:=[],deep:=[],frz:=[],ghost:=[],gst:=[]}
 |6=>{ eqs:=true,own:=[],still:=[2,8,11,20,23,24,28,38,40,41,43,46,49],row:=[],deep:=[],frz:=[],ghost:=[],gst:=[]}
 |9=>{ eqs:=true,own:=[],still:=[3,7,9],row:=[],deep:=[],frz:=[],ghost:=[],gst:=[]}
 |24=>{ eqs:=true,own:=[],still:=[2,10,19,22,23,26,29,32,41,43,44,46,47,50,52],row:=[],deep:=[],frz:=[],ghost:=[],gst:=[]}
 |21=>{ eqs:=true,own:=[],still:=[2],row:=[],deep:=[],frz:=[],ghost:=[],gst:=[]}
 |80=>{ eqs:=true,own:=[],still:=[21],row:=[],deep:=[],frz:=[19,20],ghost:=[],gst:=[]}
 |77=>{ eqs:=true,own:=[],still:=[2],row:=[],deep:=[],frz:=[],ghost:=[],gst:=[]}
 |23=>{ eqs:=true,own:=[],still:=[2,19,20,25,31,42],row:=[],deep:=[],frz:=[],ghost:=[],gst:=[]}
 |50=>{ eqs:=true,own:=[],still:=[2],row:=[],deep:=[],frz:=[],ghost:=[],gst:=[]}
 |51=>{ eqs:=true,own:=[],still:=[2,3],row:=[],deep:=[],frz:=[],ghost:=[],gst:=[]}
 |52=>{ eqs:=true,own:=[],still:=[2,10],row:=[],deep:=[],frz:=[],ghost:=[],gst:=[]}
 |53=>{ eqs:=true,own:=[],still:=[4,5,6],row:=[],deep:=[],frz:=[],ghost:=[],gst:=[]}
 |54=>{ eqs:=true,own:=[],still:=[2],row:=[],deep:=[],frz:=[],ghost:=[],gst:=[]}
 |57=>{ eqs:=true,own:=[],still:=[2,8,13,22,25,34,35,38,40,41,43,44,46],row:=[],deep:=[],frz:=[],ghost:=[],gst:=[]}
 |58=>{ eqs:=true,own:=[],still:=[4,7],row:=[],deep:=[],frz:=[],ghost:=[],gst:=[]}
 |59=>{ eqs:=true,own:=[3,8,14,15,19],still:=[2],row:=[],deep:=[],frz:=[],ghost:=[],gst:=[]}
 |55=>{ eqs:=true,own:=[],still:=[4,5,6],row:=[],deep:=[],frz:=[6],ghost:=[],gst:=[]}
 |56=>{ eqs:=true,own:=[],still:=[4,7,10],row:=[],deep:=[],frz:=[],ghost:=[],gst:=[]}
 |25=>{ eqs:=true,own:=[],still:=[4,7,9,10,11],row:=[],deep:=[],frz:=[],ghost:=[],gst:=[]}
 |26=>{ eqs:=true,own:=[],still:=[4,19,20],row:=[],deep:=[],frz:=[20],ghost:=[],gst:=[]}
 |69=>{ eqs:=true,own:=[],still:=[4,15],row:=[],deep:=[],frz:=[],ghost:=[],gst:=[]}
 |66=>{ eqs:=true,own:=[],still:=[3],row:=[],deep:=[],frz:=[],ghost:=[],gst:=[]}
 |43=>{ eqs:=true,own:=[],still:=[4],row:=[],deep:=[],frz:=[],ghost:=[],gst:=[]}
 |45=>{ eqs:=true,own:=[],still:=[4],row:=[],deep:=[],frz:=[],ghost:=[],gst:=[]}
 |103=>{ eqs:=true,own:=[],still:=[2,3],row:=[],deep:=[],frz:=[],ghost:=[],gst:=[]}
 |105=>{ eqs:=true,own:=[],still:=[2,10],row:=[],deep:=[],frz:=[],ghost:=[],gst:=[]}
 |106=>{ eqs:=true,own:=[],still:=[5],row:=[],deep:=[],frz:=[],ghost:=[],gst:=[]}
 |108=>{ eqs:=true,own:=[],still:=[2,4,10,11],row:=[],deep:=[],frz:=[],ghost:=[],gst:=[]}
 |109=>{ eqs:=true,own:=[],still:=[2,6],row:=[],deep:=[],frz:=[],ghost:=[],gst:=[]}
 |110=>{ eqs:=true,own:=[],still:=[2],row:=[],deep:=[],frz:=[],ghost:=[],gst:=[]}
 |111=>{ eqs:=true,own:=[],still:=[2],row:=[],deep:=[],frz:=[],ghost:=[],gst:=[]}
 |112=>{ eqs:=true,own:=[],still:=[2],row:=[],deep:=[],frz:=[],ghost:=[],gst:=[]}
 |113=>{ eqs:=true,own:=[],still:=[],row:=[],deep:=[],frz:=[],ghost:=[],gst:=[]}
 |114=>{ eqs:=true,own:=[],still:=[4,19,26],row:=[],deep:=[],frz:=[],ghost:=[],gst:=[]}
 |115=>{ eqs:=true,own:=[],still:=[4],row:=[],deep:=[],frz:=[],ghost:=[],gst:=[]}
 |61=>{ eqs:=true,own:=[],still:=[],row:=[8],deep:=[],frz:=[6,10],ghost:=[],gst:=[]}
 |16=>{ eqs:=true,own:=[5,10,12,19,22,24],still:=[9,19,21,26],row:=[],deep:=[],frz:=[],ghost:=[],gst:=[]}
 |14=>{ eqs:=true,own:=[3,14,16,21,23,24,28,43],still:=[13,24,27,35,37,44,46],row:=[],deep:=[],frz:=[],ghost:=[],gst:=[]}
 |35=>{ eqs:=true,own:=[0,10,16],still:=[4],row:=[],deep:=[],frz:=[],ghost:=[],gst:=[]}
 |27=>{ eqs:=true,own:=[],still:=[5],row:=[],deep:=[],frz:=[4,7],ghost:=[],gst:=[]}
 |29=>{ eqs:=true,own:=[],still:=[4],row:=[],deep:=[],frz:=[3],ghost:=[],gst:=[]}
 |19=>{ eqs:=true,own:=[],still:=[8],row:=[],deep:=[],frz:=[5],ghost:=[],gst:=[]}
 |33=>{ eqs:=true,own:=[5,7],still:=[2],row:=[],deep:=[],frz:=[],ghost:=[],gst:=[]}
 |34=>{ eqs:=true,own:=[5,7],still:=[2],row:=[],deep:=[],frz:=[],ghost:=[],gst:=[]}
 |_=>{}
def ZCZ:List (Fs Try.prog):=[Zfb 18446744073709551616,ZdC 18446744073709551616,Zfc 18446744073709551616,Zjn 18446744073709551616,ZdD 18446744073709551616,ZdE 18446744073709551616,Wn 18446744073709551616,ZdF 18446744073709551616,ZdG 18446744073709551616,Zcn 18446744073709551616,Zco 18446744073709551616,Zcq 18446744073709551616,Za6 18446744073709551616,Zct 18446744073709551616,Za8 18446744073709551616,Zfe 18446744073709551616,ZdK 18446744073709551616,ZgY 18446744073709551616,Vw 18446744073709551616,Xu 18446744073709551616,Zff 18446744073709551616,ZgZ 18446744073709551616,Zg1 18446744073709551616,Za9 18446744073709551616,Zaj 18446744073709551616,Zcu 18446744073709551616,ZdL 18446744073709551616,Zg4 18446744073709551616,Zg6 18446744073709551616,XJ 18446744073709551616,Xa 18446744073709551616,Xh 18446744073709551616,ZdO 18446744073709551616,W7 18446744073709551616,Zcv 18446744073709551616,Zak 18446744073709551616,ZdP 18446744073709551616,QB 18446744073709551616,Xb 18446744073709551616,Xc 18446744073709551616,YJ 18446744073709551616,WB 18446744073709551616,Zhg 18446744073709551616,QD 18446744073709551616,Zhh 18446744073709551616,ZdR 18446744073709551616,Zfl 18446744073709551616,Zcz 18446744073709551616,QE 18446744073709551616,ZcA 18446744073709551616,QG 18446744073709551616,Zfo 18446744073709551616,Zhn 18446744073709551616,Zba 18446744073709551616,Zfq 18446744073709551616,Zfr 18446744073709551616,X8 18446744073709551616,ZoH 18446744073709551616,ZcB 18446744073709551616,QJ 18446744073709551616,Zao 18446744073709551616,Zbb 18446744073709551616,VR 18446744073709551616,QK 18446744073709551616,Zhs 18446744073709551616,Zht 18446744073709551616,ZcD 18446744073709551616,ZcE 18446744073709551616,ZdS 18446744073709551616,Va 18446744073709551616,Zjw 18446744073709551616,Zfs 18446744073709551616,Zbc 18446744073709551616,Zft 18446744073709551616,ZlJ 18446744073709551616,ZdT 18446744073709551616,Zfu 18446744073709551616,Zjy 18446744073709551616,Zjz 18446744073709551616,ZcF 18446744073709551616]
def specs:=ZCZ.map Fs.fo
def ZDq:List (TypeId×String×FuncId):=[(79, "corsned/tower.look",99),(79, "corsned/tower.prove",100),(92, "corsned/tower.look",116),(92, "corsned/tower.prove",117)]
theorem ZzW:AllOk specs:=ZtD ⟨okN Zfb Zkq,okN ZdC ZiE,okN Zfc Zkt,okN Zjn Zou,okN ZdD ZiF,okN ZdE ZiG,okN Wn Qs,okN ZdF ZiJ,okN ZdG ZiK,okN Zcn ZgU,okN Zco Zcp,okN Zcq Zcr,okN Za6 Za7,okN Zct ZgW,okN Za8 Zf5,okN Zfe ZkA,okN ZdK Zau,okN ZgY W0,okN Vw Vx,okN Xu Xv,okN Zff ZbJ,okN ZgZ Zg0,okN Zg1 W3,okN Za9 Zf6,okN Zaj Zek,okN Zcu W4,okN ZdL ZdM,okN Zg4 Zg5,okN Zg6 Zg7,okN XJ Vn,okN Xa Wx,okN Xh Xi,okN ZdO ZiQ,okN W7 W8,okN Zcv Zg9,okN Zak Zeo,okN ZdP ZiS,okN QB QC,okN Xb Wz,okN Xc WA,okN YJ X7,okN WB VH,okN Zhg ZaS,okN QD Zdr,okN Zhh YV,okN ZdR ZaA,okN Zfl Zfm,okN Zcz ZoF,okN QE QF,okN ZcA ZoG,okN QG QH,okN Zfo ZkN,okN Zhn Zho,okN Zba Zgd,okN Zfq ZkO,okN Zfr ZbV,okN X8 V4,okN ZoH ZkP,okN ZcB Zhr,okN QJ Zdv,okN Zao X9,okN Zbb Zgf,okN VR ZcC,okN QK Zdw,okN Zhs Zmv,okN Zht Zmw,okN ZcD Zhu,okN ZcE Zhv,okN ZdS ZiW,okN Va Zhw,okN Zjw ZoM,okN Zfs ZkU,okN Zbc Zgh,okN Zft ZkV,okN ZlJ ZqF,okN ZdT ZiZ,okN Zfu ZkX,okN Zjy ZoS,okN Zjz Zvn,okN ZcF ZcG,trivial⟩
theorem Zvo:ZjL Try.prog 79 "corsned/tower.look" 99:=fun v args w=>by kernel_rfl
theorem ZtV:ZjL Try.prog 79 "corsned/tower.prove" 100:=fun v args w=>by kernel_rfl
theorem ZtW:ZjL Try.prog 92 "corsned/tower.look" 116:=fun v args w=>by kernel_rfl
theorem ZtX:ZjL Try.prog 92 "corsned/tower.prove" 117:=fun v args w=>by kernel_rfl
theorem ZBt:MtOk Try.prog ZDq:=⟨Zvo,ZtV,ZtW,ZtX,trivial⟩
theorem ran:ZCI Try.prog his specs ZDq 100 4=some true:=by decide+kernel
def ZC0 (F:Nat):Fs Try.prog:=⟨4,[],[],[],[⟨.ret,[(0,.v .bool)],[],[.bool]⟩],fun _=>some true⟩
def ZBS:Fs Try.prog:=ZC0 fuel
theorem ZC1:ZBS.Ok:=ZCJ ZzW ZBt ran
end
end Go.Proofs.Ytehgcchjaamddaa
end
section
set_option maxRecDepth 4000
namespace Go.Proofs.Ytehgcchjaamddaa
open Go Go.Ev
noncomputable section
def ZkY (F:Nat) (a0:(List UInt8)) (a1:(List UInt8)):Option (Bool):=
 let y298:Bool:=(ZhX a0).data.toList==(ZhX a1).data.toList
 some y298
def ZoT (F:Nat):Fs Try.prog:=⟨32,[.v (.sl .u8),.v (.sl .u8)],[],[(.sl .u8),(.sl .u8)],[⟨.ret,[(0,.v .bool)],[],[.bool]⟩],fun x=>ZkY F x.1 x.2⟩
def Zi0:Fs Try.prog:=ZoT fuel
theorem ZoU:Zi0.Ok:=Zn (fi:={ hi:={ still:=[4]},lp:=[]}) (specs:={ l:=[]}) (okS trivial) trivial (by decide+kernel) (fun x=>by kernel_rfl)
def Zbn (F:Nat) (a0:Zc) (s0:Zc):Option ((Bool×Zc)):=
 if (decide (a0.1=s0.1))=true then
  (ZkY F a0.2 s0.2).bind fun o299=>
  some (o299,s0)
 else
 some (false,s0)
def Zgk (F:Nat):Fs Try.prog:=⟨31,[.v Zb,.ref 0 []],[.var (.v Zb) true],[Zb,Zb],[⟨.ret,[(0,.v .bool)],[.var (.v Zb) true],[.bool,Zb]⟩],fun x=>Zbn F x.1 x.2⟩
def ZaT:Fs Try.prog:=Zgk fuel
theorem Zgl:ZaT.Ok:=Zn (fi:={ hi:={ still:=[3,11,13]},lp:=[]}) (specs:={ l:=[Zi0]}) (okS ⟨ZoU,trivial⟩) trivial (by decide+kernel) (fun x=>by kernel_rfl)
def QL (F:Nat) (s:((List Zc)×Int×Int×Zc)):Option (((List Zc)×Int×Int×Zc)⊕((Int×Zc)⊕Zc)):=
 if (decide (s.2.2.1 < s.2.1))=true then
  (idx s.1 s.2.2.1).bind fun e297=>
  (Zbn F e297 s.2.2.2).bind fun o300=>
  if o300.1=true then
   some (.inr (.inl (s.2.2.1,o300.2)))
  else
  some (.inl (s.1,s.2.1,wi (s.2.2.1+1),o300.2))
 else
 some (.inr (.inr s.2.2.2))
def Zev:Lp:=⟨[(0,.v (.sl Zb)),(1,.fn 31 [.ref 0 []]),(7,.v (.int .i64)),(8,.v (.int .i64))],[.var (.v Zb) true],[(.sl Zb),(.int .i64),(.int .i64),Zb],[⟨.ret,[(4,.v (.int .i64))],[.var (.v Zb) true],[(.int .i64),Zb]⟩,⟨.exit 0,[],[.var (.v Zb) true],[Zb]⟩],Zk (QL fuel) fuel⟩
theorem Zie:Zev.Ok Try.prog (Zt Try.prog 62) (Zp Try.prog 62 0):=Zq (fi:={ hi:={ still:=[4,15]},lp:=[]}) (specs:={ l:=[ZaT]}) (okS ⟨Zgl,trivial⟩) trivial (by kernel_rfl) (fun v=>by kernel_rfl)
def Vb (F:Nat) (a0:(List Zc)) (s0:Zc):Option ((Int×Zc)):=
 (Zk (QL F) F (a0,(a0.length:Int),(0:Int),s0)).bind fun o301=>
 match o301 with
 |.inl o302=>
  some (o302.1,o302.2)
 |.inr o303=>
  some ((-1:Int),o303)
def ZlL (F:Nat):Fs Try.prog:=⟨62,[.v (.sl Zb),.fn 31 [.ref 0 []]],[.var (.v Zb) true],[(.sl Zb),Zb],[⟨.ret,[(0,.v (.int .i64))],[.var (.v Zb) true],[(.int .i64),Zb]⟩],fun x=>Vb F x.1 x.2⟩
def Zbd:Fs Try.prog:=ZlL fuel
theorem Zew:Zbd.Ok:=Zn (fi:={ hi:={ still:=[4,15]},lp:=[(0,Zev)]}) (specs:={ l:=[]}) (okS trivial) ⟨Zie,trivial⟩ (by decide+kernel) (fun x=>by kernel_rfl)
def QM (F:Nat) (a0:(List Zc)) (s0:Zc):Option ((Bool×Zc)):=
 (Vb F a0 s0).bind fun o304=>
 some (decide (o304.1 ≥ 0),o304.2)
def ZlM (F:Nat):Fs Try.prog:=⟨30,[.v (.sl Zb),.fn 31 [.ref 0 []]],[.var (.v Zb) true],[(.sl Zb),Zb],[⟨.ret,[(0,.v .bool)],[.var (.v Zb) true],[.bool,Zb]⟩],fun x=>QM F x.1 x.2⟩
def Zbe:Fs Try.prog:=ZlM fuel
theorem Zex:Zbe.Ok:=Zn (fi:={ hi:={ still:=[4,5,6]},lp:=[]}) (specs:={ l:=[Zbd]}) (okS ⟨Zew,trivial⟩) trivial (by decide+kernel) (fun x=>by kernel_rfl)
def Y5 (F:Nat) (a1:Zc) (a2:Int) (s0_0:Int) (s0_1:Int) (s0_2:Unit) (s1:(List Zc)):Option ((Int×Int×Int×Unit×(List Zc))):=
 if ((a1.2.length:Int)==0)=true then
  some ((2:Int),s0_0,s0_1,s0_2,s1)
 else
 if (decide ((a1.2.length:Int) > 8192))=true then
  some ((2:Int),s0_0,s0_1,s0_2,s1)
 else
 if (decide (a2 < s0_0))=true then
  some ((8:Int),s0_0,s0_1,s0_2,s1)
 else
 (QM F s1 a1).bind fun o305=>
 if o305.1=true then
  some ((4:Int),s0_0,s0_1,s0_2,s1)
 else
 if (decide ((s1.length:Int) ≥ s0_1))=true then
  some ((3:Int),s0_0,s0_1,s0_2,s1)
 else
 (Yx F o305.2.2).bind fun o306=>
 if (apB s1.length 1 40)=true then
  some ((0:Int),s0_0,s0_1,s0_2,s1++([(o305.2.1,o306)]:List Zc))
 else
 none
def Zif (F:Nat):Fs Try.prog:=⟨10,[.ref 0 [],.v Zb,.v (.int .i64)],[.var (.agg [.v (.int .i64),.v (.int .i64),.own 1 Zb,.iface 79 (.v (.st []))]) true,.log Zb 36],[Zb,(.int .i64),(.int .i64),(.int .i64),(.st []),(.sl Zb)],[⟨.ret,[(0,.v (.int .i64))],[.var (.agg [.v (.int .i64),.v (.int .i64),.own 1 Zb,.iface 79 (.v (.st []))]) true,.log Zb 36],[(.int .i64),(.int .i64),(.int .i64),(.st []),(.sl Zb)]⟩],fun x=>Y5 F x.1 x.2.1 x.2.2.1 x.2.2.2.1 x.2.2.2.2.1 x.2.2.2.2.2⟩
def ZcH:Fs Try.prog:=Zif fuel
theorem Zig:ZcH.Ok:=Zn (fi:={ hi:={ own:=[47,55],still:=[6,29,30,51]},lp:=[]}) (specs:={ l:=[Zbe,WD]}) (okS ⟨Zex,X9,trivial⟩) trivial (by decide+kernel) (fun x=>by kernel_rfl)
def Vl (F:Nat) (a1:Bool) (s0_0:Int) (s0_1:Int) (s0_2:Unit) (s1:(List Zc)):Option ((Int×Int×Unit×(List Zc))⊕(Int×Int×Unit×(List Zc))):=
 if a1=true then
  some (.inl (s0_0,s0_1,(),s1))
 else
 some (.inr (s0_0,s0_1,(),s1))
def ZjA (F:Nat):Fs Try.prog:=⟨11,[.ref 0 [],.v .bool],[.var (.agg [.v (.int .i64),.v (.int .i64),.own 1 Zb,.iface 79 (.v (.st []))]) true,.log Zb 36],[.bool,(.int .i64),(.int .i64),(.st []),(.sl Zb)],[⟨.ret,[(0,.tup [])],[.var (.agg [.v (.int .i64),.v (.int .i64),.own 1 Zb,.iface 92 (.v (.st []))]) true,.log Zb 36],[(.int .i64),(.int .i64),(.st []),(.sl Zb)]⟩,⟨.ret,[(0,.tup [])],[.var (.agg [.v (.int .i64),.v (.int .i64),.own 1 Zb,.iface 79 (.v (.st []))]) true,.log Zb 36],[(.int .i64),(.int .i64),(.st []),(.sl Zb)]⟩],fun x=>Vl F x.1 x.2.1 x.2.2.1 x.2.2.2.1 x.2.2.2.2⟩
def Zdx:Fs Try.prog:=ZjA fuel
theorem ZjB:Zdx.Ok:=Zn (fi:={ hi:={},lp:=[]}) (specs:={ l:=[]}) (okS trivial) trivial (by decide+kernel) (fun x=>by kernel_rfl)
theorem ZoV:ZjL Try.prog 92 "corsned/tower.look" 116:=fun v args w=>by kernel_rfl
def Zey (F:Nat) (a0:Unit) (a2:(List Tx)) (s0_0:Int) (s0_1:Int) (s0_2:Unit) (s1:(List Zc)):Option (((List Tx)×Int×Int×Unit×(List Zc))):=
 some (([]:List Tx),s0_0,s0_1,s0_2,s1)
def ZjC (F:Nat):Fs Try.prog:=⟨116,[.v (.st []),.ref 0 [],.v (.sl yTx)],[.var (.agg [.v (.int .i64),.v (.int .i64),.own 1 Zb,.iface 92 (.v (.st []))]) true,.log Zb 36],[(.st []),(.sl yTx),(.int .i64),(.int .i64),(.st []),(.sl Zb)],[⟨.ret,[(0,.v (.sl yTx))],[.var (.agg [.v (.int .i64),.v (.int .i64),.own 1 Zb,.iface 92 (.v (.st []))]) true,.log Zb 36],[(.sl yTx),(.int .i64),(.int .i64),(.st []),(.sl Zb)]⟩],fun x=>Zey F x.1 x.2.1 x.2.2.1 x.2.2.2.1 x.2.2.2.2.1 x.2.2.2.2.2⟩
def Zdy:Fs Try.prog:=ZjC fuel
theorem ZjD:Zdy.Ok:=Zn (fi:={ hi:={ still:=[6]},lp:=[]}) (specs:={ l:=[]}) (okS trivial) trivial (by decide+kernel) (fun x=>by kernel_rfl)
def Yy (F:Nat) (a1:(List Tx)) (s0_0:Int) (s0_1:Int) (s0_2:Unit) (s1:(List Zc)):Option (((List Tx)×Int×Int×Unit×(List Zc))):=
 (Zey F s0_2 a1 s0_0 s0_1 s0_2 s1).bind fun o310=>
 some (o310.1,o310.2.1,o310.2.2.1,o310.2.2.2.1,o310.2.2.2.2)
def Zih (F:Nat):Fs Try.prog:=⟨12,[.ref 0 [],.v (.sl yTx)],[.var (.agg [.v (.int .i64),.v (.int .i64),.own 1 Zb,.iface 92 (.v (.st []))]) true,.log Zb 36],[(.sl yTx),(.int .i64),(.int .i64),(.st []),(.sl Zb)],[⟨.ret,[(0,.v (.sl yTx))],[.var (.agg [.v (.int .i64),.v (.int .i64),.own 1 Zb,.iface 92 (.v (.st []))]) true,.log Zb 36],[(.sl yTx),(.int .i64),(.int .i64),(.st []),(.sl Zb)]⟩],fun x=>Yy F x.1 x.2.1 x.2.2.1 x.2.2.2.1 x.2.2.2.2⟩
def ZcI:Fs Try.prog:=Zih fuel
theorem Zii:ZcI.Ok:=Zn (fi:={ hi:={ still:=[4]},lp:=[]}) (specs:={ l:=[Zdy],mt:=[(92, "corsned/tower.look",116)]}) (okM ⟨ZjD,trivial⟩ ⟨ZoV,trivial⟩) trivial (by decide+kernel) (fun x=>by kernel_rfl)
theorem ZoW:ZjL Try.prog 92 "corsned/tower.prove" 117:=fun v args w=>by kernel_rfl
def QN:ByteArray:=⟨#[108,105,101]⟩
def QO (F:Nat) (a0:Unit) (a2:(List UInt8)) (a3:(List UInt8)) (a4:(List UInt8)) (s0_0:Int) (s0_1:Int) (s0_2:Unit) (s1:(List Zc)):Option (((List UInt8)×Bool×Int×Int×Unit×(List Zc))):=
 (Zz F QN ([a2]:List (List UInt8))).bind fun o313=>
 some (o313,true,s0_0,s0_1,s0_2,s1)
def Zij (F:Nat):Fs Try.prog:=⟨117,[.v (.st []),.ref 0 [],.v (.arr 32 .u8),.v (.arr 16 .u8),.v (.arr 32 .u8)],[.var (.agg [.v (.int .i64),.v (.int .i64),.own 1 Zb,.iface 92 (.v (.st []))]) true,.log Zb 36],[(.st []),(.arr 32 .u8),(.arr 16 .u8),(.arr 32 .u8),(.int .i64),(.int .i64),(.st []),(.sl Zb)],[⟨.ret,[(0,.tup [.v (.arr 32 .u8),.v .bool])],[.var (.agg [.v (.int .i64),.v (.int .i64),.own 1 Zb,.iface 92 (.v (.st []))]) true,.log Zb 36],[(.arr 32 .u8),.bool,(.int .i64),(.int .i64),(.st []),(.sl Zb)]⟩],fun x=>QO F x.1 x.2.1 x.2.2.1 x.2.2.2.1 x.2.2.2.2.1 x.2.2.2.2.2.1 x.2.2.2.2.2.2.1 x.2.2.2.2.2.2.2⟩
def ZcJ:Fs Try.prog:=Zij fuel
theorem Zik:ZcJ.Ok:=Zn (fi:={ hi:={ still:=[11,13],frz:=[12]},lp:=[]}) (specs:={ l:=[Xx]}) (okS ⟨YV,trivial⟩) trivial (by decide+kernel) (fun x=>by kernel_rfl)
def YK (F:Nat) (a1:(List UInt8)) (a2:(List UInt8)) (a3:(List UInt8)) (s0_0:Int) (s0_1:Int) (s0_2:Unit) (s1:(List Zc)):Option (((List UInt8)×Bool×Int×Int×Unit×(List Zc))):=
 (QO F s0_2 a1 a2 a3 s0_0 s0_1 s0_2 s1).bind fun o314=>
 some (o314.1,o314.2.1,o314.2.2.1,o314.2.2.2.1,o314.2.2.2.2.1,o314.2.2.2.2.2)
def Zhz (F:Nat):Fs Try.prog:=⟨13,[.ref 0 [],.v (.arr 32 .u8),.v (.arr 16 .u8),.v (.arr 32 .u8)],[.var (.agg [.v (.int .i64),.v (.int .i64),.own 1 Zb,.iface 92 (.v (.st []))]) true,.log Zb 36],[(.arr 32 .u8),(.arr 16 .u8),(.arr 32 .u8),(.int .i64),(.int .i64),(.st []),(.sl Zb)],[⟨.ret,[(0,.tup [.v (.arr 32 .u8),.v .bool])],[.var (.agg [.v (.int .i64),.v (.int .i64),.own 1 Zb,.iface 92 (.v (.st []))]) true,.log Zb 36],[(.arr 32 .u8),.bool,(.int .i64),(.int .i64),(.st []),(.sl Zb)]⟩],fun x=>YK F x.1 x.2.1 x.2.2.1 x.2.2.2.1 x.2.2.2.2.1 x.2.2.2.2.2.1 x.2.2.2.2.2.2⟩
def Zbo:Fs Try.prog:=Zhz fuel
theorem ZhA:Zbo.Ok:=Zn (fi:={ hi:={ still:=[9]},lp:=[]}) (specs:={ l:=[ZcJ],mt:=[(92, "corsned/tower.prove",117)]}) (okM ⟨Zik,trivial⟩ ⟨ZoW,trivial⟩) trivial (by decide+kernel) (fun x=>by kernel_rfl)
def Vr (F:Nat) (a1:Bool) (s0_0:Int) (s0_1:Int) (s0_2:Unit) (s1:(List Zc)):Option ((Int×Int×Unit×(List Zc))⊕(Int×Int×Unit×(List Zc))):=
 if a1=true then
  some (.inl (s0_0,s0_1,(),s1))
 else
 some (.inr (s0_0,s0_1,(),s1))
def Zgm (F:Nat):Fs Try.prog:=⟨11,[.ref 0 [],.v .bool],[.var (.agg [.v (.int .i64),.v (.int .i64),.own 1 Zb,.iface 92 (.v (.st []))]) true,.log Zb 36],[.bool,(.int .i64),(.int .i64),(.st []),(.sl Zb)],[⟨.ret,[(0,.tup [])],[.var (.agg [.v (.int .i64),.v (.int .i64),.own 1 Zb,.iface 92 (.v (.st []))]) true,.log Zb 36],[(.int .i64),(.int .i64),(.st []),(.sl Zb)]⟩,⟨.ret,[(0,.tup [])],[.var (.agg [.v (.int .i64),.v (.int .i64),.own 1 Zb,.iface 79 (.v (.st []))]) true,.log Zb 36],[(.int .i64),(.int .i64),(.st []),(.sl Zb)]⟩],fun x=>Vr F x.1 x.2.1 x.2.2.1 x.2.2.2.1 x.2.2.2.2⟩
def ZaU:Fs Try.prog:=Zgm fuel
theorem Zgn:ZaU.Ok:=Zn (fi:={ hi:={},lp:=[]}) (specs:={ l:=[]}) (okS trivial) trivial (by decide+kernel) (fun x=>by kernel_rfl)
def QP (F:Nat) (a0:(List Zc)):Option (((List Unit)×(List Zc))):=
 if (apB 0 a0.length 40)=true then
  some (([()]:List Unit),a0)
 else
 none
def ZlN (F:Nat):Fs Try.prog:=⟨39,[.sl true Zb],[],[(.sl Zb)],[⟨.ret,[(0,.rw 0)],[.row Zb true 36],[(.sl (.st [])),(.sl Zb)]⟩],fun x=>QP F x⟩
def ZmQ:Fs Try.prog:=ZlN fuel
theorem ZlO:ZmQ.Ok:=Zn (fi:={ hi:={ own:=[5,7],rowt:=[2,5,7]},lp:=[]}) (specs:={ l:=[]}) (okS trivial) trivial (by decide+kernel) (fun x=>by kernel_rfl)
def Vm (F:Nat) (a0:(List Zc)):Option (((List Unit)×(List Zc))):=if a0.isEmpty=true then none else QP F a0
def ZjE (F:Nat):Fs Try.prog:=⟨39,[.v (.sl Zb)],[],[(.sl Zb)],[⟨.ret,[(0,.rw 0)],[.row Zb true 36],[(.sl (.st [])),(.sl Zb)]⟩],fun x=>Vm F x⟩
def QQ:Fs Try.prog:=ZjE fuel
theorem ZcK:QQ.Ok:=ZBk (t:=Zb) (xs:=[⟨.ret,[(0,.rw 0)],[.row Zb true 36],[(.sl (.st [])),(.sl Zb)]⟩]) (MA:=fun (x:(List Zc))=>QP fuel x) ZlO rfl (fun _ _=>rfl)
def Zbf:Fs Try.prog:=⟨38,[.rw 0,.v (.int .i64),.v (.int .i64)],[.row Zb true 36],[(.int .i64),(.int .i64),(.sl (.st [])),(.sl Zb)],[⟨.ret,[(0,.rw 0)],[.row Zb true 36],[(.sl (.st [])),(.sl Zb)]⟩],fun x=>ZxH (t:=Zb) x.1 x.2.1 x.2.2.1 x.2.2.2⟩
theorem Zez:Zbf.Ok:=ZCP (z:=.agg [.arr 16 1 (List.replicate 16 (.int .u8 0)),.sl none 1 []]) (fun x=>by kernel_rfl)
def Yz (F:Nat) (a1:Int) (s0_0:Int) (s0_1:Int) (s0_2:Unit) (s1:(List Zc)):Option ((Bool×Int×Int×Unit×(List Zc))⊕(Bool×Int×Int×Unit×(List Zc)×(List Unit)×(List Zc))):=
 if (decide (a1 < 0))=true then
  some (.inl (false,s0_0,s0_1,s0_2,s1))
 else
 if (decide (a1 ≥ (s1.length:Int)))=true then
  some (.inl (false,s0_0,s0_1,s0_2,s1))
 else
 (Vm F s1).bind fun o319=>
 (ZxH (t:=Zb) a1 (wi (a1+1)) o319.1 o319.2).bind fun o320=>
 some (.inr (true,s0_0,s0_1,s0_2,s1,o320.1,o320.2))
def Zil (F:Nat):Fs Try.prog:=⟨15,[.ref 0 [],.v (.int .i64)],[.var (.agg [.v (.int .i64),.v (.int .i64),.own 1 Zb,.iface 92 (.v (.st []))]) true,.log Zb 36],[(.int .i64),(.int .i64),(.int .i64),(.st []),(.sl Zb)],[⟨.ret,[(0,.v .bool)],[.var (.agg [.v (.int .i64),.v (.int .i64),.own 1 Zb,.iface 92 (.v (.st []))]) true,.log Zb 36],[.bool,(.int .i64),(.int .i64),(.st []),(.sl Zb)]⟩,⟨.ret,[(0,.v .bool)],[.var (.agg [.v (.int .i64),.v (.int .i64),.rw 2,.iface 92 (.v (.st []))]) true,.log Zb 36,.row Zb true 36],[.bool,(.int .i64),(.int .i64),(.st []),(.sl Zb),(.sl (.st [])),(.sl Zb)]⟩],fun x=>Yz F x.1 x.2.1 x.2.2.1 x.2.2.2.1 x.2.2.2.2⟩
def ZcL:Fs Try.prog:=Zil fuel
theorem Zim:ZcL.Ok:=Zn (fi:={ hi:={ still:=[4,20,22,24],rowt:=[21]},lp:=[]}) (specs:={ l:=[QQ,Zbf]}) (okS ⟨ZcK,Zez,trivial⟩) trivial (by decide+kernel) (fun x=>by kernel_rfl)
def Vc (F:Nat) (a1:Zc) (a2:Int) (s0_0:Int) (s0_1:Int) (s0_2:Unit) (s1:(List Zc)):Option ((Int×Int×Int×Unit×(List Zc))):=
 if ((a1.2.length:Int)==0)=true then
  some ((2:Int),s0_0,s0_1,s0_2,s1)
 else
 if (decide ((a1.2.length:Int) > 8192))=true then
  some ((2:Int),s0_0,s0_1,s0_2,s1)
 else
 if (decide (a2 < s0_0))=true then
  some ((8:Int),s0_0,s0_1,s0_2,s1)
 else
 (QM F s1 a1).bind fun o331=>
 if o331.1=true then
  some ((4:Int),s0_0,s0_1,s0_2,s1)
 else
 if (decide ((s1.length:Int) ≥ s0_1))=true then
  some ((3:Int),s0_0,s0_1,s0_2,s1)
 else
 (Yx F o331.2.2).bind fun o332=>
 if (apB s1.length 1 40)=true then
  some ((0:Int),s0_0,s0_1,s0_2,s1++([(o331.2.1,o332)]:List Zc))
 else
 none
def Zfw (F:Nat):Fs Try.prog:=⟨10,[.ref 0 [],.v Zb,.v (.int .i64)],[.var (.agg [.v (.int .i64),.v (.int .i64),.own 1 Zb,.iface 92 (.v (.st []))]) true,.log Zb 36],[Zb,(.int .i64),(.int .i64),(.int .i64),(.st []),(.sl Zb)],[⟨.ret,[(0,.v (.int .i64))],[.var (.agg [.v (.int .i64),.v (.int .i64),.own 1 Zb,.iface 92 (.v (.st []))]) true,.log Zb 36],[(.int .i64),(.int .i64),(.int .i64),(.st []),(.sl Zb)]⟩],fun x=>Vc F x.1 x.2.1 x.2.2.1 x.2.2.2.1 x.2.2.2.2.1 x.2.2.2.2.2⟩
def Q0:Fs Try.prog:=Zfw fuel
theorem Zfx:Q0.Ok:=Zn (fi:={ hi:={ own:=[47,55],still:=[6,29,30,51]},lp:=[]}) (specs:={ l:=[Zbe,WD]}) (okS ⟨Zex,X9,trivial⟩) trivial (by decide+kernel) (fun x=>by kernel_rfl)
def ZaV (F:Nat) (a0:Unit) (a2:(List UInt8)) (a3:(List UInt8)) (a4:(List UInt8)) (s0_0:Int) (s0_1:Int) (s0_2:Unit) (s1_0:(List Unit)) (s1_1:(List Zc)):Option (((List UInt8)×Bool×Int×Int×Unit×(List Unit)×(List Zc))):=
 (Zz F QN ([a2]:List (List UInt8))).bind fun o336=>
 some (o336,true,s0_0,s0_1,s0_2,s1_0,s1_1)
def Zfy (F:Nat):Fs Try.prog:=⟨117,[.v (.st []),.ref 0 [],.v (.arr 32 .u8),.v (.arr 16 .u8),.v (.arr 32 .u8)],[.var (.agg [.v (.int .i64),.v (.int .i64),.rw 1,.iface 92 (.v (.st []))]) true,.row Zb true 36],[(.st []),(.arr 32 .u8),(.arr 16 .u8),(.arr 32 .u8),(.int .i64),(.int .i64),(.st []),(.sl (.st [])),(.sl Zb)],[⟨.ret,[(0,.tup [.v (.arr 32 .u8),.v .bool])],[.var (.agg [.v (.int .i64),.v (.int .i64),.rw 1,.iface 92 (.v (.st []))]) true,.row Zb true 36],[(.arr 32 .u8),.bool,(.int .i64),(.int .i64),(.st []),(.sl (.st [])),(.sl Zb)]⟩],fun x=>ZaV F x.1 x.2.1 x.2.2.1 x.2.2.2.1 x.2.2.2.2.1 x.2.2.2.2.2.1 x.2.2.2.2.2.2.1 x.2.2.2.2.2.2.2.1 x.2.2.2.2.2.2.2.2⟩
def Q1:Fs Try.prog:=Zfy fuel
theorem Zfz:Q1.Ok:=Zn (fi:={ hi:={ still:=[11,13],frz:=[12]},lp:=[]}) (specs:={ l:=[Xx]}) (okS ⟨YV,trivial⟩) trivial (by decide+kernel) (fun x=>by kernel_rfl)
def Z1 (F:Nat) (a1:(List UInt8)) (a2:(List UInt8)) (a3:(List UInt8)) (s0_0:Int) (s0_1:Int) (s0_2:Unit) (s1_0:(List Unit)) (s1_1:(List Zc)):Option (((List UInt8)×Bool×Int×Int×Unit×(List Unit)×(List Zc))):=
 (ZaV F s0_2 a1 a2 a3 s0_0 s0_1 s0_2 s1_0 s1_1).bind fun o337=>
 some (o337.1,o337.2.1,o337.2.2.1,o337.2.2.2.1,o337.2.2.2.2.1,o337.2.2.2.2.2.1,o337.2.2.2.2.2.2)
def ZeA (F:Nat):Fs Try.prog:=⟨13,[.ref 0 [],.v (.arr 32 .u8),.v (.arr 16 .u8),.v (.arr 32 .u8)],[.var (.agg [.v (.int .i64),.v (.int .i64),.rw 1,.iface 92 (.v (.st []))]) true,.row Zb true 36],[(.arr 32 .u8),(.arr 16 .u8),(.arr 32 .u8),(.int .i64),(.int .i64),(.st []),(.sl (.st [])),(.sl Zb)],[⟨.ret,[(0,.tup [.v (.arr 32 .u8),.v .bool])],[.var (.agg [.v (.int .i64),.v (.int .i64),.rw 1,.iface 92 (.v (.st []))]) true,.row Zb true 36],[(.arr 32 .u8),.bool,(.int .i64),(.int .i64),(.st []),(.sl (.st [])),(.sl Zb)]⟩],fun x=>Z1 F x.1 x.2.1 x.2.2.1 x.2.2.2.1 x.2.2.2.2.1 x.2.2.2.2.2.1 x.2.2.2.2.2.2.1 x.2.2.2.2.2.2.2⟩
def QR:Fs Try.prog:=ZeA fuel
theorem ZeB:QR.Ok:=Zn (fi:={ hi:={ still:=[9]},lp:=[]}) (specs:={ l:=[Q1],mt:=[(92, "corsned/tower.prove",117)]}) (okM ⟨Zfz,trivial⟩ ⟨ZoW,trivial⟩) trivial (by decide+kernel) (fun x=>by kernel_rfl)
def Zbp (F:Nat) (a0:Unit) (a2:(List Tx)) (s0_0:Int) (s0_1:Int) (s0_2:Unit) (s1_0:(List Unit)) (s1_1:(List Zc)):Option (((List Tx)×Int×Int×Unit×(List Unit)×(List Zc))):=
 some (([]:List Tx),s0_0,s0_1,s0_2,s1_0,s1_1)
def Zgo (F:Nat):Fs Try.prog:=⟨116,[.v (.st []),.ref 0 [],.v (.sl yTx)],[.var (.agg [.v (.int .i64),.v (.int .i64),.rw 1,.iface 92 (.v (.st []))]) true,.row Zb true 36],[(.st []),(.sl yTx),(.int .i64),(.int .i64),(.st []),(.sl (.st [])),(.sl Zb)],[⟨.ret,[(0,.v (.sl yTx))],[.var (.agg [.v (.int .i64),.v (.int .i64),.rw 1,.iface 92 (.v (.st []))]) true,.row Zb true 36],[(.sl yTx),(.int .i64),(.int .i64),(.st []),(.sl (.st [])),(.sl Zb)]⟩],fun x=>Zbp F x.1 x.2.1 x.2.2.1 x.2.2.2.1 x.2.2.2.2.1 x.2.2.2.2.2.1 x.2.2.2.2.2.2⟩
def ZaW:Fs Try.prog:=Zgo fuel
theorem Zgp:ZaW.Ok:=Zn (fi:={ hi:={ still:=[6]},lp:=[]}) (specs:={ l:=[]}) (okS trivial) trivial (by decide+kernel) (fun x=>by kernel_rfl)
def Z6 (F:Nat) (a1:(List Tx)) (s0_0:Int) (s0_1:Int) (s0_2:Unit) (s1_0:(List Unit)) (s1_1:(List Zc)):Option (((List Tx)×Int×Int×Unit×(List Unit)×(List Zc))):=
 (Zbp F s0_2 a1 s0_0 s0_1 s0_2 s1_0 s1_1).bind fun o340=>
 some (o340.1,o340.2.1,o340.2.2.1,o340.2.2.2.1,o340.2.2.2.2.1,o340.2.2.2.2.2)
def ZfA (F:Nat):Fs Try.prog:=⟨12,[.ref 0 [],.v (.sl yTx)],[.var (.agg [.v (.int .i64),.v (.int .i64),.rw 1,.iface 92 (.v (.st []))]) true,.row Zb true 36],[(.sl yTx),(.int .i64),(.int .i64),(.st []),(.sl (.st [])),(.sl Zb)],[⟨.ret,[(0,.v (.sl yTx))],[.var (.agg [.v (.int .i64),.v (.int .i64),.rw 1,.iface 92 (.v (.st []))]) true,.row Zb true 36],[(.sl yTx),(.int .i64),(.int .i64),(.st []),(.sl (.st [])),(.sl Zb)]⟩],fun x=>Z6 F x.1 x.2.1 x.2.2.1 x.2.2.2.1 x.2.2.2.2.1 x.2.2.2.2.2⟩
def Q2:Fs Try.prog:=ZfA fuel
theorem ZfB:Q2.Ok:=Zn (fi:={ hi:={ still:=[4]},lp:=[]}) (specs:={ l:=[ZaW],mt:=[(92, "corsned/tower.look",116)]}) (okM ⟨Zgp,trivial⟩ ⟨ZoV,trivial⟩) trivial (by decide+kernel) (fun x=>by kernel_rfl)
def WL (F:Nat) (s0_0:(List Unit)) (s0_1:(List Zc)) (s1:Zc):Option ((Bool×(List Unit)×(List Zc)×Zc)):=
 (Vb F s0_1 s1).bind fun o342=>
 some (decide (o342.1 ≥ 0),s0_0,s0_1,o342.2)
def Zin (F:Nat):Fs Try.prog:=⟨30,[.rw 0,.fn 31 [.ref 1 []]],[.row Zb true 36,.var (.v Zb) true],[(.sl (.st [])),(.sl Zb),Zb],[⟨.ret,[(0,.v .bool)],[.row Zb false 36,.var (.v Zb) true],[.bool,(.sl (.st [])),(.sl Zb),Zb]⟩],fun x=>WL F x.1 x.2.1 x.2.2⟩
def VS:Fs Try.prog:=Zin fuel
theorem Zbq:VS.Ok:=Zn (fi:={ hi:={ still:=[4,5,6]},lp:=[]}) (specs:={ l:=[Zbd]}) (okS ⟨Zew,trivial⟩) trivial (by decide+kernel) (fun x=>by kernel_rfl)
def Z7 (F:Nat) (a1:Zc) (a2:Int) (s0_0:Int) (s0_1:Int) (s0_2:Unit) (s1_0:(List Unit)) (s1_1:(List Zc)):Option ((Int×Int×Int×Unit×(List Unit)×(List Zc))⊕(Int×Int×Int×Unit×(List Unit)×(List Zc))):=
 if ((a1.2.length:Int)==0)=true then
  some (.inl ((2:Int),s0_0,s0_1,s0_2,s1_0,s1_1))
 else
 if (decide ((a1.2.length:Int) > 8192))=true then
  some (.inl ((2:Int),s0_0,s0_1,s0_2,s1_0,s1_1))
 else
 if (decide (a2 < s0_0))=true then
  some (.inl ((8:Int),s0_0,s0_1,s0_2,s1_0,s1_1))
 else
 (WL F s1_0 s1_1 a1).bind fun o343=>
 if o343.1=true then
  if (decide (s1_0.length=o343.2.1.length)&&(decide (17=17)&&decide ((List.replicate s1_1.length ()).length=o343.2.2.1.length)))=true then
   some (.inr ((4:Int),s0_0,s0_1,s0_2,o343.2.1,o343.2.2.1))
  else
  none
 else
 if (decide (s1_0.length=o343.2.1.length)&&(decide (17=17)&&decide ((List.replicate s1_1.length ()).length=o343.2.2.1.length)))=true then
  if (decide ((o343.2.2.1.length:Int) ≥ s0_1))=true then
   some (.inr ((3:Int),s0_0,s0_1,s0_2,o343.2.1,o343.2.2.1))
  else
  (Yx F o343.2.2.2.2).bind fun o344=>
  if (apB o343.2.2.1.length 1 40)=true then
   let y345:(List Zc):=o343.2.2.1++([(o343.2.2.2.1,o344)]:List Zc)
   some (.inr ((0:Int),s0_0,s0_1,s0_2,()::o343.2.1,y345))
  else
  none
 else
 none
def ZfC (F:Nat):Fs Try.prog:=⟨10,[.ref 0 [],.v Zb,.v (.int .i64)],[.var (.agg [.v (.int .i64),.v (.int .i64),.rw 1,.iface 92 (.v (.st []))]) true,.row Zb true 36],[Zb,(.int .i64),(.int .i64),(.int .i64),(.st []),(.sl (.st [])),(.sl Zb)],[⟨.ret,[(0,.v (.int .i64))],[.var (.agg [.v (.int .i64),.v (.int .i64),.rw 1,.iface 92 (.v (.st []))]) true,.row Zb true 36],[(.int .i64),(.int .i64),(.int .i64),(.st []),(.sl (.st [])),(.sl Zb)]⟩,⟨.ret,[(0,.v (.int .i64))],[.var (.agg [.v (.int .i64),.v (.int .i64),.rw 1,.iface 92 (.v (.st []))]) true,.row Zb false 36],[(.int .i64),(.int .i64),(.int .i64),(.st []),(.sl (.st [])),(.sl Zb)]⟩],fun x=>Z7 F x.1 x.2.1 x.2.2.1 x.2.2.2.1 x.2.2.2.2.1 x.2.2.2.2.2.1 x.2.2.2.2.2.2⟩
def Q3:Fs Try.prog:=ZfC fuel
theorem ZfD:Q3.Ok:=Zn (fi:={ hi:={ own:=[47,55],still:=[6,29,30,51]},lp:=[],gh:=[(7,.fresh 0 2),(8,.fresh 0 2)]}) (specs:={ l:=[VS,WD]}) (okS ⟨Zbq,X9,trivial⟩) trivial (by decide+kernel) (fun x=>by kernel_rfl)
def Z8 (F:Nat) (a1:Int) (s0_0:Int) (s0_1:Int) (s0_2:Unit) (s1_0:(List Unit)) (s1_1:(List Zc)):Option ((Bool×Int×Int×Unit×(List Unit)×(List Zc))):=
 if (decide (a1 < 0))=true then
  some (false,s0_0,s0_1,s0_2,s1_0,s1_1)
 else
 if (decide (a1 ≥ (s1_1.length:Int)))=true then
  some (false,s0_0,s0_1,s0_2,s1_0,s1_1)
 else
 none
def ZfE (F:Nat):Fs Try.prog:=⟨15,[.ref 0 [],.v (.int .i64)],[.var (.agg [.v (.int .i64),.v (.int .i64),.rw 1,.iface 92 (.v (.st []))]) true,.row Zb true 36],[(.int .i64),(.int .i64),(.int .i64),(.st []),(.sl (.st [])),(.sl Zb)],[⟨.ret,[(0,.v .bool)],[.var (.agg [.v (.int .i64),.v (.int .i64),.rw 1,.iface 92 (.v (.st []))]) true,.row Zb true 36],[.bool,(.int .i64),(.int .i64),(.st []),(.sl (.st [])),(.sl Zb)]⟩],fun x=>Z8 F x.1 x.2.1 x.2.2.1 x.2.2.2.1 x.2.2.2.2.1 x.2.2.2.2.2⟩
def Q4:Fs Try.prog:=ZfE fuel
theorem ZfF:Q4.Ok:=Zn (fi:={ hi:={ still:=[4,20,22,24],rowt:=[21]},lp:=[]}) (specs:={ l:=[]}) (okS trivial) trivial (by decide+kernel) (fun x=>by kernel_rfl)
theorem ZqH:ZjL Try.prog 79 "corsned/tower.look" 99:=fun v args w=>by kernel_rfl
noncomputable def VA (s:((List Tx)×Int×Int×Int×Int×Unit×(List Zc)×Unit×(List ((List UInt8)×(List Zc))))):((List Tx)×Int×Int×Unit×(List Zc)×Unit×(List ((List UInt8)×(List Zc)))):=(s.1,s.2.2.2.1,s.2.2.2.2.1,s.2.2.2.2.2.1,s.2.2.2.2.2.2.1,s.2.2.2.2.2.2.2.1,(@Zei (List UInt8) Zc (Ty.deq (.arr 16 .u8)) (fun p:Zc=>p.1) s.2.2.2.2.2.2.1))
noncomputable def XD (s:((List Tx)×Int×Int×Int×Int×Unit×(List Zc)×Unit×(List ((List UInt8)×(List Zc))))):Option ((List Tx)×Int×Int×Unit×(List Zc)×Unit×(List ((List UInt8)×(List Zc)))):=@Zvg (List UInt8) Zc ((List Tx)×Int×Int×Unit×(List Zc)×Unit×(List ((List UInt8)×(List Zc)))) s.2.2.1 s.2.1 s.2.2.2.2.2.2.1 s.2.2.2.2.2.2.2.2 40 (VA s)
noncomputable def YW:Lp:=⟨[(2,.v (.sl yTx)),(7,.mp 3),(24,.own 1 Zb),(25,.v (.int .i64)),(26,.v (.int .i64))],[.var (.agg [.v (.int .i64),.v (.int .i64),.own 1 Zb,.iface 79 (.v (.st []))]) true,.log Zb 36,.var (.v (.st [])) true,.map 164 (.arr 16 .u8) (.sl Zb)],[(.sl yTx),(.int .i64),(.int .i64),(.int .i64),(.int .i64),(.st []),(.sl Zb),(.st []),(ZbG (.arr 16 .u8) (.sl Zb))],[⟨.exit 0,[(2,.v (.sl yTx)),(7,.mp 3)],[.var (.agg [.v (.int .i64),.v (.int .i64),.own 1 Zb,.iface 79 (.v (.st []))]) true,.log Zb 36,.var (.v (.st [])) true,.map 164 (.arr 16 .u8) (.sl Zb)],[(.sl yTx),(.int .i64),(.int .i64),(.st []),(.sl Zb),(.st []),(ZbG (.arr 16 .u8) (.sl Zb))]⟩],XD⟩
noncomputable def Zm:Code:=Zp Try.prog 99 0
noncomputable def Wa (s:((List Tx)×Int×Int×Int×Int×Unit×(List Zc)×Unit×(List ((List UInt8)×(List Zc))))):List TD×List TEnt:=(XY 83 YW.sl YW.es (ofD YW.I s)).getD ([],[])
noncomputable def Wr (s:((List Tx)×Int×Int×Int×Int×Unit×(List Zc)×Unit×(List ((List UInt8)×(List Zc))))):List TEnt:=(Wa s).2.set 3 .gone
noncomputable def Yo:HI:={ own:=[10,33,37,76,79],still:=[6,46,49,52,61,62,64,71]}
noncomputable def Wb (s:((List Tx)×Int×Int×Int×Int×Unit×(List Zc)×Unit×(List ((List UInt8)×(List Zc))))) (z:Int):List TD:=((Zkp Try.prog Yo (gA Zm) (gA Zm).toList (((Wa s).1.set 7 .junk).set 26 (.p (.v (.int .i64) z))) (Wr s)).getD ([],[])).1
noncomputable def Wc (s:((List Tx)×Int×Int×Int×Int×Unit×(List Zc)×Unit×(List ((List UInt8)×(List Zc))))) (z:Int) (p:Zc):List TD:=(((Wb s z).set 28 (.elem (.v Zb p))).set 29 (.p (.v Zb p))).set 9 (.ref 4 [])
noncomputable def Y6 (s:((List Tx)×Int×Int×Int×Int×Unit×(List Zc)×Unit×(List ((List UInt8)×(List Zc))))) (z:Int) (p:Zc):List TEnt:=Wr s++[.var (.p (.v Zb p)) true]
noncomputable def V5 (s:((List Tx)×Int×Int×Int×Int×Unit×(List Zc)×Unit×(List ((List UInt8)×(List Zc))))) (z:Int) (p:Zc):List TD:=((Zkp Try.prog Yo (gC Zm) (((gC Zm).toList.take 5).drop 1) ((Wc s z p).set 30 .junk) (Y6 s z p)).getD ([],[])).1
noncomputable def ZeC (s:((List Tx)×Int×Int×Int×Int×Unit×(List Zc)×Unit×(List ((List UInt8)×(List Zc))))) (z:Int) (p:Zc):List TD:=((Zkp Try.prog Yo (gD Zm) (gD Zm).toList (((((V5 s z p).set 36 .junk).set 33 .junk).set 37 .junk).set 38 .junk) (Y6 s z p)).getD ([],[])).1
theorem ZeD:YW.Ok Try.prog (Zt Try.prog 99) (Zp Try.prog 99 0):=
 ZzI (P:=Try.prog) (N:=83) 3 4 5 6 0 1 27 7 30 26 36 33 37 38 3 4 (gA Zm) (gB Zm) (gC Zm) (gD Zm) (by kernel_rfl) (K:=(.arr 16 .u8)) (T:=Zb) (tid:=164) (e:=36) (kt:=34) (t:=164) (tt:=80) (u:=80) (t5:=164) (et:=80) Yo [2,24,25,26] [2] Wa
  (fun s:((List Tx)×Int×Int×Int×Int×Unit×(List Zc)×Unit×(List ((List UInt8)×(List Zc))))=>s.2.2.2.2.2.2.1) (fun p:Zc=>p.1) (fun s:((List Tx)×Int×Int×Int×Int×Unit×(List Zc)×Unit×(List ((List UInt8)×(List Zc))))=>s.2.2.1) (fun s:((List Tx)×Int×Int×Int×Int×Unit×(List Zc)×Unit×(List ((List UInt8)×(List Zc))))=>s.2.1) (fun s:((List Tx)×Int×Int×Int×Int×Unit×(List Zc)×Unit×(List ((List UInt8)×(List Zc))))=>s.2.2.2.2.2.2.2.2) VA (ZgS (gC Zm) 5) (ZgS (gC Zm) 6) (ZgS (gC Zm) 7) (ZgS (gC Zm) 8) (ZgS (gC Zm) 9) (.tmp 32) (.tmp 35) (ZzG (ZgS (gC Zm) 7)) 17 (ZzH Try.prog 36) Wb Wc V5 ZeC Y6
  (fun s=>by kernel_rfl) (fun s=>by kernel_rfl) (fun s=>by kernel_rfl) (fun s=>⟨by kernel_rfl,by kernel_rfl,by kernel_rfl,by kernel_rfl,by kernel_rfl⟩) (fun s=>⟨by kernel_rfl,by kernel_rfl⟩) (fun s z=>by kernel_rfl) (fun s z=>by kernel_rfl)
  (fun s j p hp=>by
  have h1:Zkp Try.prog Yo (gB Zm) (gB Zm).toList (Wb s (j:Int)) (Wr s)=(idx (s.2.2.2.2.2.2.1) (j:Int)).bind fun p=>some (Wc s (j:Int) p,Y6 s (j:Int) p):=by kernel_rfl
  exact h1.trans (by rw [ZCQ hp];rfl))
  (fun s z p=>by kernel_rfl) (fun s z p=>by kernel_rfl) (fun s z p=>by kernel_rfl) (fun s z p=>by kernel_rfl) (fun s z p=>⟨by kernel_rfl,by kernel_rfl⟩) (by kernel_rfl) (by kernel_rfl) ⟨by kernel_rfl,by kernel_rfl,by kernel_rfl⟩ (by kernel_rfl) (by decide)
  ⟨by kernel_rfl,by kernel_rfl,by kernel_rfl,by kernel_rfl,by kernel_rfl,by kernel_rfl,by kernel_rfl,by kernel_rfl,by kernel_rfl,by kernel_rfl,by kernel_rfl,by kernel_rfl,by kernel_rfl,by kernel_rfl,by kernel_rfl,by kernel_rfl,by kernel_rfl,by kernel_rfl,by kernel_rfl,by kernel_rfl,by kernel_rfl,by kernel_rfl,by kernel_rfl⟩ ⟨by kernel_rfl,by kernel_rfl,by kernel_rfl,by kernel_rfl,by kernel_rfl⟩ (by kernel_rfl) (by kernel_rfl) (by decide)
def Zap (F:Nat) (a0:(List UInt8)) (a1:(List UInt8)):Option (((List UInt8)×Bool)):=
 if (decide ((wi ((a1.length:Int) - 8)) < 0))=true then
  some (([]:List UInt8),false)
 else
 if (decide ((wi ((a1.length:Int) - 8)) > 65536))=true then
  some (([]:List UInt8),false)
 else
 if (Vu a1.length none (some (wi ((a1.length:Int) - 8))))=true then
  (Zer F a0 (a1.take ((wi ((a1.length:Int) - 8)).toNat))).bind fun o377=>
  if (Vu a1.length (some (wi ((a1.length:Int) - 8))) none)=true then
   if (decide (8≤(a1.drop ((wi ((a1.length:Int) - 8)).toNat)).length))=true then
    let y378:Bool:= !(decide (o377=(a1.drop ((wi ((a1.length:Int) - 8)).toNat)).take 8))
    if y378=true then
     some (([]:List UInt8),false)
    else
    if (Vu a1.length none (some (wi ((a1.length:Int) - 8))))=true then
     (Zfn F a0 (a1.take ((wi ((a1.length:Int) - 8)).toNat))).bind fun o379=>
     some (o379,true)
    else
    none
   else
   none
  else
  none
 else
 none
def Zr6 (F:Nat):Fs Try.prog:=⟨101,[.v (.arr 32 .u8),.v (.sl .u8)],[],[(.arr 32 .u8),(.sl .u8)],[⟨.ret,[(0,.tup [.v (.sl .u8),.v .bool])],[],[(.sl .u8),.bool]⟩],fun x=>Zap F x.1 x.2⟩
def ZhB:Fs Try.prog:=Zr6 fuel
theorem ZkZ:ZhB.Ok:=Zn (fi:={ hi:={ still:=[4,5,17,20,29,32]},lp:=[]}) (specs:={ l:=[Zjt,Zmt]}) (okS ⟨Zho,ZkN,trivial⟩) trivial (by decide+kernel) (fun x=>by kernel_rfl)
abbrev Ze:Ty:=(.st [(.sl .u8),.bool])
abbrev Zf:Type:=((List UInt8)×Bool)
abbrev Zf.b (x:Zf):(List UInt8):=x.1
abbrev Zf.no (x:Zf):Bool:=x.2
def ZcM (F:Nat) (a0:(List UInt8)):Option (Zf):=
 (ZO F a0).bind fun o381=>
 some (o381,false)
def Zr7 (F:Nat):Fs Try.prog:=⟨103,[.v (.sl .u8)],[],[(.sl .u8)],[⟨.ret,[(0,.ref 0 [])],[.var (.v Ze) true],[Ze]⟩],fun x=>ZcM F x⟩
def ZhC:Fs Try.prog:=Zr7 fuel
theorem Zk0:ZhC.Ok:=Zn (fi:={ hi:={ still:=[2,3]},lp:=[]}) (specs:={ l:=[Xw]}) (okS ⟨Xi,trivial⟩) trivial (by decide+kernel) (fun x=>by kernel_rfl)
def YL (F:Nat) (s0:Int) (s2:Zf):Option ((Bool×Int×Zf)):=
 if (decide (s0 ≥ (s2.1.length:Int)))=true then
  some (true,s0,s2)
 else
 if (decide (s0 > 8))=true then
  some (true,s0,s2)
 else
 if (decide (s0 > 0))=true then
  (idx s2.1 s0).bind fun e383=>
  some (e383==0,s0,s2)
 else
 some (false,s0,s2)
def ZhD (F:Nat):Fs Try.prog:=⟨112,[.ref 0 [],.ref 1 []],[.var (.v (.int .i64)) true,.var (.ref 2 []) true,.var (.v Ze) true],[(.int .i64),Ze],[⟨.ret,[(0,.v .bool)],[.var (.v (.int .i64)) true,.var (.ref 2 []) true,.var (.v Ze) true],[.bool,(.int .i64),Ze]⟩],fun x=>YL F x.1 x.2⟩
def Zbr:Fs Try.prog:=ZhD fuel
theorem ZhE:Zbr.Ok:=Zn (fi:={ hi:={ still:=[2]},lp:=[]}) (specs:={ l:=[]}) (okS trivial) trivial (by decide+kernel) (fun x=>by kernel_rfl)
def XV (F:Nat) (s0:Zf):Option (Zf):=
 some (([]:List UInt8),true)
def Zio (F:Nat):Fs Try.prog:=⟨113,[.ref 0 []],[.var (.v Ze) true],[Ze],[⟨.ret,[(0,.tup [])],[.var (.v Ze) true],[Ze]⟩],fun x=>XV F x⟩
def VT:Fs Try.prog:=Zio fuel
theorem Zbs:VT.Ok:=Zn (fi:={ hi:={},lp:=[]}) (specs:={ l:=[]}) (okS trivial) trivial (by decide+kernel) (fun x=>by kernel_rfl)
def Xe (F:Nat) (s:(Int×Zf×Int)):Option ((Int×Zf×Int)⊕((Int×Zf×Int)⊕(Int×Zf×Int))):=
 (YL F s.2.2 s.2.1).bind fun o384=>
 if o384.1=true then
  (XV F o384.2.2).bind fun o385=>
  some (.inr (.inl ((0:Int),o385,o384.2.1)))
 else
 (idx o384.2.2.1 o384.2.1).bind fun e386=>
 if (decide (0≤wi (7*o384.2.1)))=true then
  let y387:Int:=wi (((e386 % 128).toNat:Int)*2 ^ (min (wi (7*o384.2.1)).toNat 64))
  if (decide (e386 < 128))=true then
   some (.inr (.inr (bits .or .i64 s.1 y387,o384.2.2,wi (o384.2.1+1))))
  else
  some (.inl (bits .or .i64 s.1 y387,o384.2.2,wi (o384.2.1+1)))
 else
 none
def ZcN:Lp:=⟨[(1,.ref 1 []),(3,.v (.int .i64)),(4,.ref 2 []),(5,.fn 112 [.ref 2 [],.ref 1 []])],[.var (.v Ze) true,.var (.ref 0 []) true,.var (.v (.int .i64)) true],[(.int .i64),Ze,(.int .i64)],[⟨.ret,[(2,.v (.int .i64))],[.var (.v Ze) true,.var (.ref 0 []) true,.var (.v (.int .i64)) true],[(.int .i64),Ze,(.int .i64)]⟩,⟨.exit 0,[(1,.ref 1 []),(3,.v (.int .i64)),(4,.ref 2 [])],[.var (.v Ze) true,.var (.ref 0 []) true,.var (.v (.int .i64)) true],[(.int .i64),Ze,(.int .i64)]⟩],Zk (Xe fuel) fuel⟩
theorem Zgq:ZcN.Ok Try.prog (Zt Try.prog 105) (Zp Try.prog 105 0):=Zq (fi:={ hi:={ still:=[2,10]},lp:=[]}) (specs:={ l:=[Zbr,VT]}) (okS ⟨ZhE,Zbs,trivial⟩) trivial (by kernel_rfl) (fun v=>by kernel_rfl)
def ZB (F:Nat) (s0:Zf):Option ((Int×Zf)):=
 (Zk (Xe F) F ((0:Int),s0,(0:Int))).bind fun o388=>
 match o388 with
 |.inl o389=>
  some (o389.1,o389.2.1)
 |.inr o390=>
  if (Vu o390.2.1.1.length (some o390.2.2) none)=true then
   some (o390.1,(o390.2.1.1.drop o390.2.2.toNat,o390.2.1.2))
  else
  none
def ZjF (F:Nat):Fs Try.prog:=⟨105,[.ref 0 []],[.var (.v Ze) true],[Ze],[⟨.ret,[(0,.v (.int .i64))],[.var (.v Ze) true],[(.int .i64),Ze]⟩],fun x=>ZB F x⟩
def Z2:Fs Try.prog:=ZjF fuel
theorem Z9:Z2.Ok:=Zn (fi:={ hi:={ still:=[2,10]},lp:=[(0,ZcN)]}) (specs:={ l:=[]}) (okS trivial) ⟨Zgq,trivial⟩ (by decide+kernel) (fun x=>by kernel_rfl)
def Zaq (F:Nat) (a0:Int) (s1:Zf):Option ((Int×Zf)):=
 (ZB F s1).bind fun o391=>
 if (decide (o391.1 > a0))=true then
  some ((-1:Int),o391.2)
 else
 some (o391.1,o391.2)
def Zr8 (F:Nat):Fs Try.prog:=⟨104,[.v (.int .i64),.ref 0 []],[.var (.ref 1 []) true,.var (.v Ze) true],[(.int .i64),Ze],[⟨.ret,[(0,.v (.int .i64))],[.var (.ref 1 []) true,.var (.v Ze) true],[(.int .i64),Ze]⟩],fun x=>Zaq F x.1 x.2⟩
def ZhF:Fs Try.prog:=Zr8 fuel
theorem Zk1:ZhF.Ok:=Zn (fi:={ hi:={ still:=[3,5]},lp:=[]}) (specs:={ l:=[Z2]}) (okS ⟨Z9,trivial⟩) trivial (by decide+kernel) (fun x=>by kernel_rfl)
def Y7 (F:Nat) (a1:Int) (s0:Zf):Option (((List UInt8)×Zf)):=
 if s0.2=true then
  (XV F s0).bind fun o393=>
  some (([]:List UInt8),o393)
 else
 if (decide (a1 > (s0.1.length:Int)))=true then
  (XV F s0).bind fun o394=>
  some (([]:List UInt8),o394)
 else
 if (Vu s0.1.length none (some a1))=true then
  (ZO F (s0.1.take a1.toNat)).bind fun o395=>
  if (Vu s0.1.length (some a1) none)=true then
   some (o395,(s0.1.drop a1.toNat,s0.2))
  else
  none
 else
 none
def Zip (F:Nat):Fs Try.prog:=⟨114,[.ref 0 [],.v (.int .i64)],[.var (.v Ze) true],[(.int .i64),Ze],[⟨.ret,[(0,.v (.sl .u8))],[.var (.v Ze) true],[(.sl .u8),Ze]⟩],fun x=>Y7 F x.1 x.2⟩
def Ws:Fs Try.prog:=Zip fuel
theorem Vs:Ws.Ok:=Zn (fi:={ hi:={ still:=[4,19,26]},lp:=[]}) (specs:={ l:=[VT,Xw]}) (okS ⟨Zbs,Xi,trivial⟩) trivial (by decide+kernel) (fun x=>by kernel_rfl)
def WM (F:Nat) (s0:Zf):Option (((List UInt8)×Zf)):=
 (Y7 F (32:Int) s0).bind fun o396=>
 if (decide (o396.1.length≤32)&&decide (0+32≤32))=true then
  let y397:(List UInt8):=([0,0,0,0,0,0,0,0,0,0,0,0,0,0,0,0,0,0,0,0,0,0,0,0,0,0,0,0,0,0,0,0]:List UInt8).take 0++(o396.1++([0,0,0,0,0,0,0,0,0,0,0,0,0,0,0,0,0,0,0,0,0,0,0,0,0,0,0,0,0,0,0,0]:List UInt8).drop (0+o396.1.length))
  some (y397,o396.2)
 else
 none
def Ziq (F:Nat):Fs Try.prog:=⟨106,[.ref 0 []],[.var (.v Ze) true],[Ze],[⟨.ret,[(0,.v (.arr 32 .u8))],[.var (.v Ze) true],[(.arr 32 .u8),Ze]⟩],fun x=>WM F x⟩
def ZcO:Fs Try.prog:=Ziq fuel
theorem Zir:ZcO.Ok:=Zn (fi:={ hi:={ still:=[5]},lp:=[]}) (specs:={ l:=[Ws]}) (okS ⟨Vs,trivial⟩) trivial (by decide+kernel) (fun x=>by kernel_rfl)
def ZaX (F:Nat) (s:(Int×Int×Int×Tx×Int×(List Out)×(List Unit)×(List In)×(List In)×Zf)):Option ((Int×Int×Int×Tx×Int×(List Out)×(List Unit)×(List In)×(List In)×Zf)⊕(Int×Tx×Int×(List Out)×(List Unit)×(List In)×(List In)×Zf)):=
 if (decide (s.2.2.1 < s.2.1))=true then
  (WM F s.2.2.2.2.2.2.2.2.2).bind fun o398=>
  (ZB F o398.2).bind fun o399=>
  if (apB (s.2.2.2.2.2.2.2.1.length+s.2.2.2.2.2.2.2.2.1.length) 1 80)=true then
   let y400:(List In):=s.2.2.2.2.2.2.2.2.1++([((o398.1,o399.1),(0,[],0))]:List In)
   some (.inl (s.1,s.2.1,wi (s.2.2.1+1),s.2.2.2.1,s.2.2.2.2.1,s.2.2.2.2.2.1,()::s.2.2.2.2.2.2.1,s.2.2.2.2.2.2.2.1,y400,o399.2))
  else
  none
 else
 some (.inr (s.1,s.2.2.2.1,s.2.2.2.2.1,s.2.2.2.2.2.1,s.2.2.2.2.2.2.1,s.2.2.2.2.2.2.2.1,s.2.2.2.2.2.2.2.2.1,s.2.2.2.2.2.2.2.2.2))
def ZoX:Lp:=⟨[(2,.ref 0 []),(4,.ref 1 []),(5,.ref 5 []),(6,.fn 104 [.ref 5 []]),(7,.v (.int .i64)),(20,.v (.int .i64)),(21,.v (.int .i64))],[.var (.v yTx) true,.var (.agg [.rw 3,.own 2 YI,.v (.int .i64)]) true,.log YI 69,.rowN yIn [1,1] true 63,.var (.v Ze) true,.var (.ref 4 []) true],[(.int .i64),(.int .i64),(.int .i64),yTx,(.int .i64),(.sl YI),(.sl (.st [])),(.sl yIn),(.sl yIn),Ze],[⟨.exit 0,[(2,.ref 0 []),(4,.ref 1 []),(5,.ref 5 []),(6,.fn 104 [.ref 5 []]),(7,.v (.int .i64))],[.var (.v yTx) true,.var (.agg [.rw 3,.own 2 YI,.v (.int .i64)]) true,.log YI 69,.rowN yIn [1,1] true 63,.var (.v Ze) true,.var (.ref 4 []) true],[(.int .i64),yTx,(.int .i64),(.sl YI),(.sl (.st [])),(.sl yIn),(.sl yIn),Ze]⟩],Zk (ZaX fuel) fuel⟩
theorem ZpH:ZoX.Ok Try.prog (Zt Try.prog 102) (Zp Try.prog 102 0):=Zq (fi:={ hi:={ own:=[24,32,55,58,92,99],still:=[3,15,25,27,40,44,45,61,76,93,95,104,116,121,126],rowt:=[24,32,71],ghost:=[(4,[([1],YI,69)])],lits:=[31]},lp:=[]}) (specs:={ l:=[ZcO,Z2]}) (okS ⟨Zir,Z9,trivial⟩) trivial (by kernel_rfl) (fun v=>by kernel_rfl)
def Wt (F:Nat) (s0:Zf):Option (((List UInt8)×Zf)):=
 (ZB F s0).bind fun o404=>
 if o404.2.2=true then
  some (([]:List UInt8),o404.2)
 else
 (Y7 F o404.1 o404.2).bind fun o405=>
 some (o405.1,o405.2)
def ZhG (F:Nat):Fs Try.prog:=⟨108,[.ref 0 []],[.var (.v Ze) true],[Ze],[⟨.ret,[(0,.v (.sl .u8))],[.var (.v Ze) true],[(.sl .u8),Ze]⟩],fun x=>Wt F x⟩
def Zbt:Fs Try.prog:=ZhG fuel
theorem ZhH:Zbt.Ok:=Zn (fi:={ hi:={ still:=[2,4,10,11]},lp:=[]}) (specs:={ l:=[Z2,Ws]}) (okS ⟨Z9,Vs,trivial⟩) trivial (by decide+kernel) (fun x=>by kernel_rfl)
end
end Go.Proofs.Ytehgcchjaamddaa
end
section
set_option maxRecDepth 4000
namespace Go.Proofs.Ytehgcchjaamddaa
open Go Go.Ev
noncomputable section
def X1 (F:Nat) (s:(UInt64×(List UInt8)×Int×Int×Zf)):Option ((UInt64×(List UInt8)×Int×Int×Zf)⊕(UInt64×Zf)):=
 if (decide (s.2.2.2.1 < s.2.2.1))=true then
  (idx s.2.1 s.2.2.2.1).bind fun e411=>
  some (.inl ((Zbj s.1 8)|||(UInt64.ofNat e411.toNat),s.2.1,s.2.2.1,wi (s.2.2.2.1+1),s.2.2.2.2))
 else
 some (.inr (s.1,s.2.2.2.2))
def ZcP:Lp:=⟨[(3,.v .u64),(7,.v (.sl .u8)),(8,.v (.int .i64)),(9,.v (.int .i64))],[.var (.v Ze) true],[.u64,(.sl .u8),(.int .i64),(.int .i64),Ze],[⟨.exit 0,[(3,.v .u64)],[.var (.v Ze) true],[.u64,Ze]⟩],Zk (X1 fuel) fuel⟩
theorem Zgr:ZcP.Ok Try.prog (Zt Try.prog 109) (Zp Try.prog 109 0):=Zq (fi:={ hi:={ still:=[2,6]},lp:=[]}) (specs:={ l:=[]}) (okS trivial) trivial (by kernel_rfl) (fun v=>by kernel_rfl)
def Yp (F:Nat) (s0:Zf):Option ((UInt64×Zf)):=
 (Y7 F (8:Int) s0).bind fun o410=>
 (Zk (X1 F) F ((0:UInt64),o410.1,(o410.1.length:Int),(0:Int),o410.2)).bind fun o412=>
 some (o412.1,o412.2)
def ZjG (F:Nat):Fs Try.prog:=⟨109,[.ref 0 []],[.var (.v Ze) true],[Ze],[⟨.ret,[(0,.v .u64)],[.var (.v Ze) true],[.u64,Ze]⟩],fun x=>Yp F x⟩
def XW:Fs Try.prog:=ZjG fuel
theorem Wu:XW.Ok:=Zn (fi:={ hi:={ still:=[2,6]},lp:=[(0,ZcP)]}) (specs:={ l:=[Ws]}) (okS ⟨Vs,trivial⟩) ⟨Zgr,trivial⟩ (by decide+kernel) (fun x=>by kernel_rfl)
def YA (F:Nat) (s:((List UInt8)×(List UInt8)×Int×Int)):Option (((List UInt8)×(List UInt8)×Int×Int)⊕(Bool⊕Unit)):=
 if (decide (s.2.2.2 < s.2.2.1))=true then
  (idx s.1 s.2.2.2).bind fun e423=>
  (idx s.2.1 s.2.2.2).bind fun e424=>
  if (e423 !=e424)=true then
   some (.inr (.inl false))
  else
  some (.inl (s.1,s.2.1,s.2.2.1,wi (s.2.2.2+1)))
 else
 some (.inr (.inr ()))
def Vo:Lp:=⟨[(0,.v (.sl .u8)),(1,.v (.sl .u8)),(12,.v (.int .i64)),(13,.v (.int .i64))],[],[(.sl .u8),(.sl .u8),(.int .i64),(.int .i64)],[⟨.ret,[(4,.v .bool)],[],[.bool]⟩,⟨.exit 0,[],[],[]⟩],Zk (YA fuel) fuel⟩
theorem Zbg:Vo.Ok Try.prog (Zt Try.prog 115) (Zp Try.prog 115 0):=Zq (fi:={ hi:={ still:=[4]},lp:=[]}) (specs:={ l:=[]}) (okS trivial) trivial (by kernel_rfl) (fun v=>by kernel_rfl)
def Y8 (F:Nat) (a0:(List UInt8)) (a1:(List UInt8)):Option (Bool):=
 if ((a0.length:Int)!=(a1.length:Int))=true then
  some false
 else
 (Zk (YA F) F (a0,a1,(a0.length:Int),(0:Int))).bind fun o425=>
 match o425 with
 |.inl o426=>
  some o426
 |.inr o427=>
  some true
def ZcX (F:Nat):Fs Try.prog:=⟨115,[.v (.sl .u8),.v (.sl .u8)],[],[(.sl .u8),(.sl .u8)],[⟨.ret,[(0,.v .bool)],[],[.bool]⟩],fun x=>Y8 F x.1 x.2⟩
def VB:Fs Try.prog:=ZcX fuel
theorem ZcY:VB.Ok:=Zn (fi:={ hi:={ still:=[4]},lp:=[(0,Vo)]}) (specs:={ l:=[]}) (okS trivial) ⟨Zbg,trivial⟩ (by decide+kernel) (fun x=>by kernel_rfl)
def VC (F:Nat) (s:((List UInt8)×Int×Int×Int×Int×XZ×Zf×(List Ye)×Int×Int×UInt64×(List UInt64))):Option (((List UInt8)×Int×Int×Int×Int×XZ×Zf×(List Ye)×Int×Int×UInt64×(List UInt64))⊕((List UInt8)×Int×Int×XZ×Zf×(List Ye)×Int×Int×UInt64×(List UInt64))):=
 if (decide (s.2.2.2.2.1 < s.2.2.2.1))=true then
  (Yp F s.2.2.2.2.2.2.1).bind fun o432=>
  if (apB s.2.2.2.2.2.2.2.2.2.2.2.length 1 8)=true then
   let y433:(List UInt64):=s.2.2.2.2.2.2.2.2.2.2.2++([o432.1]:List UInt64)
   some (.inl (s.1,s.2.1,s.2.2.1,s.2.2.2.1,wi (s.2.2.2.2.1+1),s.2.2.2.2.2.1,o432.2,s.2.2.2.2.2.2.2.1,s.2.2.2.2.2.2.2.2.1,s.2.2.2.2.2.2.2.2.2.1,s.2.2.2.2.2.2.2.2.2.2.1,y433))
  else
  none
 else
 some (.inr (s.1,s.2.1,s.2.2.1,s.2.2.2.2.2.1,s.2.2.2.2.2.2.1,s.2.2.2.2.2.2.2.1,s.2.2.2.2.2.2.2.2.1,s.2.2.2.2.2.2.2.2.2.1,s.2.2.2.2.2.2.2.2.2.2.1,s.2.2.2.2.2.2.2.2.2.2.2))
def Zk2:Lp:=⟨[(0,.v (.sl .u8)),(2,.ref 0 []),(4,.ref 1 []),(5,.ref 2 []),(6,.v (.int .i64)),(7,.v (.int .i64)),(8,.ref 4 []),(27,.v (.int .i64)),(28,.v (.int .i64))],[.var (.v Y2) true,.var (.v Ze) true,.var (.agg [.own 3 Zv]) true,.log Zv 109,.var (.agg [.own 5 .u64,.v (.int .i64),.v (.int .i64),.v .u64]) true,.log .u64 74],[(.sl .u8),(.int .i64),(.int .i64),(.int .i64),(.int .i64),Y2,Ze,(.sl Zv),(.int .i64),(.int .i64),.u64,(.sl .u64)],[⟨.exit 2,[(0,.v (.sl .u8)),(2,.ref 0 []),(4,.ref 1 []),(5,.ref 2 []),(6,.v (.int .i64)),(7,.v (.int .i64)),(8,.ref 4 [])],[.var (.v Y2) true,.var (.v Ze) true,.var (.agg [.own 3 Zv]) true,.log Zv 109,.var (.agg [.own 5 .u64,.v (.int .i64),.v (.int .i64),.v .u64]) true,.log .u64 74],[(.sl .u8),(.int .i64),(.int .i64),Y2,Ze,(.sl Zv),(.int .i64),(.int .i64),.u64,(.sl .u64)]⟩],Zk (VC fuel) fuel⟩
theorem ZmR:Zk2.Ok Try.prog (Zt Try.prog 107) (Zp Try.prog 107 1):=Zq (fi:={ hi:={ own:=[31,35,48,51],still:=[3,10,12,19,32,38,40,44,53,57,58,59],ghost:=[(5,[([0],Zv,109)]),(8,[([0],.u64,74)])]},lp:=[]}) (specs:={ l:=[XW]}) (okS ⟨Wu,trivial⟩) trivial (by kernel_rfl) (fun v=>by kernel_rfl)
def ZaE (F:Nat) (s:((List UInt8)×Int×Int×XZ×Zf×(List Ye))):Option (((List UInt8)×Int×Int×XZ×Zf×(List Ye))⊕((List UInt8)×XZ×Zf×(List Ye))):=
 if (decide (s.2.2.1 < s.2.1))=true then
  (ZB F s.2.2.2.2.1).bind fun o431=>
  if (s.2.2.1==4)=true then
   some (.inr (s.1,s.2.2.2.1,o431.2,s.2.2.2.2.2))
  else
  if (decide (o431.1 > 12))=true then
   some (.inr (s.1,s.2.2.2.1,o431.2,s.2.2.2.2.2))
  else
  (Zk (VC F) F (s.1,s.2.1,s.2.2.1,o431.1,(0:Int),s.2.2.2.1,o431.2,s.2.2.2.2.2,(0:Int),(0:Int),(0:UInt64),([]:List UInt64))).bind fun o434=>
  (ZB F o434.2.2.2.2.1).bind fun o435=>
  (ZB F o435.2).bind fun o436=>
  (Yp F o436.2).bind fun o437=>
  if (apB o434.2.2.2.2.2.1.length 1 48)=true then
   let y438:(List Ye):=o434.2.2.2.2.2.1++([(o434.2.2.2.2.2.2.2.2.2,o435.1,o436.1,o437.1)]:List Ye)
   some (.inl (o434.1,o434.2.1,wi (o434.2.2.1+1),o434.2.2.2.1,o437.2,y438))
  else
  none
 else
 some (.inr (s.1,s.2.2.2.1,s.2.2.2.2.1,s.2.2.2.2.2))
def Zk3:Lp:=⟨[(0,.v (.sl .u8)),(2,.ref 0 []),(4,.ref 1 []),(5,.ref 2 []),(6,.v (.int .i64)),(7,.v (.int .i64))],[.var (.v Y2) true,.var (.v Ze) true,.var (.agg [.own 3 Zv]) true,.log Zv 109],[(.sl .u8),(.int .i64),(.int .i64),Y2,Ze,(.sl Zv)],[⟨.exit 0,[(0,.v (.sl .u8)),(2,.ref 0 []),(5,.ref 2 [])],[.var (.v Y2) true,.var (.v Ze) true,.var (.agg [.own 3 Zv]) true,.log Zv 109],[(.sl .u8),Y2,Ze,(.sl Zv)]⟩],Zk (ZaE fuel) fuel⟩
theorem ZmS:Zk3.Ok Try.prog (Zt Try.prog 107) (Zp Try.prog 107 0):=Zq (fi:={ hi:={ own:=[31,35,48,51],still:=[3,10,12,19,32,38,40,44,53,57,58,59],ghost:=[(5,[([0],Zv,109)]),(8,[([0],.u64,74)])]},lp:=[(1,Zk2)]}) (specs:={ l:=[Z2,XW]}) (okS ⟨Z9,Wu,trivial⟩) ⟨ZmR,trivial⟩ (by kernel_rfl) (fun v=>by kernel_rfl)
def ZfG (F:Nat) (a0:(List UInt8)):Option ((XZ×Bool)):=
 (ZcM F a0).bind fun o429=>
 (ZB F o429).bind fun o430=>
 (Zk (ZaE F) F (a0,o430.1,(0:Int),([]:XZ),o430.2,([]:List Ye))).bind fun o439=>
 (Xl F o439.2.2.2).bind fun o440=>
 if (!o440)=true then
  some (([]:XZ),false)
 else
 (ZaR F o439.2.2.2).bind fun o441=>
 (Y8 F o441 o439.1).bind fun o442=>
 if (!o442)=true then
  some (([]:XZ),false)
 else
 some (o439.2.2.2,true)
def Zr9 (F:Nat):Fs Try.prog:=⟨107,[.v (.sl .u8)],[],[(.sl .u8)],[⟨.ret,[(0,.tup [.v Y2,.v .bool])],[],[Y2,.bool]⟩],fun x=>ZfG F x⟩
def ZmE:Fs Try.prog:=Zr9 fuel
theorem Zsa:ZmE.Ok:=Zn (fi:={ hi:={ own:=[31,35,48,51],still:=[3,10,12,19,32,38,40,44,53,57,58,59],ghost:=[(5,[([0],Zv,109)]),(8,[([0],.u64,74)])]},lp:=[(0,Zk3)]}) (specs:={ l:=[ZhC,Z2,ZbI,Zfg,VB]}) (okS ⟨Zk0,Z9,Zau,ZdM,ZcY,trivial⟩) ⟨ZmS,trivial⟩ (by decide+kernel) (fun x=>by kernel_rfl)
def ZaY (F:Nat) (s:(Int×Int×Int×Int×Tx×Int×(List Out)×(List Unit)×(List In)×(List In)×Zf)):Option ((Int×Int×Int×Int×Tx×Int×(List Out)×(List Unit)×(List In)×(List In)×Zf)⊕((Bool×Tx×Int×(List Out)×(List Unit)×(List In)×(List In)×Zf)⊕(Int×Int×Tx×Int×(List Out)×(List Unit)×(List In)×(List In)×Zf))):=
 if (decide (s.2.2.2.1 < s.2.2.1))=true then
  (ZB F s.2.2.2.2.2.2.2.2.2.2).bind fun o403=>
  (Wt F o403.2).bind fun o406=>
  (ZfG F o406.1).bind fun o443=>
  if (!o443.2)=true then
   some (.inr (.inl (false,(([]:List In),([]:List Out),(0:Int)),s.2.2.2.2.2.1,s.2.2.2.2.2.2.1,s.2.2.2.2.2.2.2.1,s.2.2.2.2.2.2.2.2.1,s.2.2.2.2.2.2.2.2.2.1,o406.2)))
  else
  if (apB s.2.2.2.2.2.2.1.length 1 32)=true then
   let y444:(List Out):=s.2.2.2.2.2.2.1++([(o403.1,o443.1)]:List Out)
   some (.inl (s.1,s.2.1,s.2.2.1,wi (s.2.2.2.1+1),s.2.2.2.2.1,s.2.2.2.2.2.1,y444,s.2.2.2.2.2.2.2.1,s.2.2.2.2.2.2.2.2.1,s.2.2.2.2.2.2.2.2.2.1,o406.2))
  else
  none
 else
 some (.inr (.inr (s.1,s.2.1,s.2.2.2.2.1,s.2.2.2.2.2.1,s.2.2.2.2.2.2.1,s.2.2.2.2.2.2.2.1,s.2.2.2.2.2.2.2.2.1,s.2.2.2.2.2.2.2.2.2.1,s.2.2.2.2.2.2.2.2.2.2)))
def ZoY:Lp:=⟨[(2,.ref 0 []),(4,.ref 1 []),(5,.ref 5 []),(6,.fn 104 [.ref 5 []]),(7,.v (.int .i64)),(8,.v (.int .i64)),(37,.v (.int .i64)),(38,.v (.int .i64))],[.var (.v yTx) true,.var (.agg [.rw 3,.own 2 YI,.v (.int .i64)]) true,.log YI 69,.rowN yIn [1,1] true 63,.var (.v Ze) true,.var (.ref 4 []) true],[(.int .i64),(.int .i64),(.int .i64),(.int .i64),yTx,(.int .i64),(.sl YI),(.sl (.st [])),(.sl yIn),(.sl yIn),Ze],[⟨.ret,[(2,.ref 0 []),(3,.v .bool)],[.var (.v yTx) true,.var (.agg [.rw 3,.own 2 YI,.v (.int .i64)]) true,.log YI 69,.rowN yIn [1,1] true 63,.var (.v Ze) true,.var (.ref 4 []) true],[.bool,yTx,(.int .i64),(.sl YI),(.sl (.st [])),(.sl yIn),(.sl yIn),Ze]⟩,⟨.exit 2,[(2,.ref 0 []),(4,.ref 1 []),(5,.ref 5 []),(6,.fn 104 [.ref 5 []]),(7,.v (.int .i64)),(8,.v (.int .i64))],[.var (.v yTx) true,.var (.agg [.rw 3,.own 2 YI,.v (.int .i64)]) true,.log YI 69,.rowN yIn [1,1] true 63,.var (.v Ze) true,.var (.ref 4 []) true],[(.int .i64),(.int .i64),yTx,(.int .i64),(.sl YI),(.sl (.st [])),(.sl yIn),(.sl yIn),Ze]⟩],Zk (ZaY fuel) fuel⟩
theorem ZpI:ZoY.Ok Try.prog (Zt Try.prog 102) (Zp Try.prog 102 1):=Zq (fi:={ hi:={ own:=[24,32,55,58,92,99],still:=[3,15,25,27,40,44,45,61,76,93,95,104,116,121,126],rowt:=[24,32,71],ghost:=[(4,[([1],YI,69)])],gst:=[(9,[([1,0],Zv,109)])],lits:=[31]},lp:=[]}) (specs:={ l:=[Z2,Zbt,ZmE]}) (okS ⟨Z9,ZhH,Zsa,trivial⟩) trivial (by kernel_rfl) (fun v=>by kernel_rfl)
def ZaZ (F:Nat) (s:(Int×Int×Int×Int×Int×Int×Int×Tx×Int×(List Out)×(List Unit)×(List In)×(List In)×YT×Int×UInt64×Zf×(List Sig))):Option ((Int×Int×Int×Int×Int×Int×Int×Tx×Int×(List Out)×(List Unit)×(List In)×(List In)×YT×Int×UInt64×Zf×(List Sig))⊕(Int×Int×Int×Int×Int×Tx×Int×(List Out)×(List Unit)×(List In)×(List In)×YT×Int×UInt64×Zf×(List Sig))):=
 if (decide (s.2.2.2.2.2.2.1 < s.2.2.2.2.2.1))=true then
  if (decide (s.2.2.1.toNat=s.2.2.2.2.2.2.2.2.2.2.2.1.length))=true then
   (Yp F s.2.2.2.2.2.2.2.2.2.2.2.2.2.2.2.2.1).bind fun o454=>
   (Yp F o454.2).bind fun o455=>
   if (apB s.2.2.2.2.2.2.2.2.2.2.2.2.2.2.2.2.2.length 1 16)=true then
    let y456:(List Sig):=s.2.2.2.2.2.2.2.2.2.2.2.2.2.2.2.2.2++([(o454.1,o455.1)]:List Sig)
    if (decide (s.2.2.1.toNat=s.2.2.2.2.2.2.2.2.2.2.2.1.length))=true then
     some (.inl (s.1,s.2.1,(s.2.2.1.toNat:Int),s.2.2.2.1,s.2.2.2.2.1,s.2.2.2.2.2.1,wi (s.2.2.2.2.2.2.1+1),s.2.2.2.2.2.2.2.1,s.2.2.2.2.2.2.2.2.1,s.2.2.2.2.2.2.2.2.2.1,s.2.2.2.2.2.2.2.2.2.2.1,s.2.2.2.2.2.2.2.2.2.2.2.1,s.2.2.2.2.2.2.2.2.2.2.2.2.1,s.2.2.2.2.2.2.2.2.2.2.2.2.2.1,s.2.2.2.2.2.2.2.2.2.2.2.2.2.2.1,s.2.2.2.2.2.2.2.2.2.2.2.2.2.2.2.1,o455.2,y456))
    else
    none
   else
   none
  else
  none
 else
 some (.inr (s.1,s.2.1,(s.2.2.1.toNat:Int),s.2.2.2.1,s.2.2.2.2.1,s.2.2.2.2.2.2.2.1,s.2.2.2.2.2.2.2.2.1,s.2.2.2.2.2.2.2.2.2.1,s.2.2.2.2.2.2.2.2.2.2.1,s.2.2.2.2.2.2.2.2.2.2.2.1,s.2.2.2.2.2.2.2.2.2.2.2.2.1,s.2.2.2.2.2.2.2.2.2.2.2.2.2.1,s.2.2.2.2.2.2.2.2.2.2.2.2.2.2.1,s.2.2.2.2.2.2.2.2.2.2.2.2.2.2.2.1,s.2.2.2.2.2.2.2.2.2.2.2.2.2.2.2.2.1,s.2.2.2.2.2.2.2.2.2.2.2.2.2.2.2.2.2))
def ZoZ:Lp:=⟨[(2,.ref 0 []),(4,.ref 1 []),(5,.ref 5 []),(6,.fn 104 [.ref 5 []]),(7,.v (.int .i64)),(8,.v (.int .i64)),(13,.rp 3 36 [.fld 1 33]),(66,.v (.int .i64)),(67,.v (.int .i64)),(85,.v (.int .i64)),(86,.v (.int .i64))],[.var (.v yTx) true,.var (.agg [.rw 3,.own 2 YI,.v (.int .i64)]) true,.log YI 69,.rowM yIn [1,1] true 63 (.agg [.v Yg,.agg [.v (.int .i64),.own 6 Zgj,.v .u64]]),.var (.v Ze) true,.var (.ref 4 []) true,.log Zgj 76],[(.int .i64),(.int .i64),(.int .i64),(.int .i64),(.int .i64),(.int .i64),(.int .i64),yTx,(.int .i64),(.sl YI),(.sl (.st [])),(.sl yIn),(.sl yIn),Yg,(.int .i64),.u64,Ze,(.sl Zgj)],[⟨.exit 6,[(2,.ref 0 []),(4,.ref 1 []),(5,.ref 5 []),(6,.fn 104 [.ref 5 []]),(7,.v (.int .i64)),(8,.v (.int .i64)),(13,.rp 3 36 [.fld 1 33]),(66,.v (.int .i64)),(67,.v (.int .i64))],[.var (.v yTx) true,.var (.agg [.rw 3,.own 2 YI,.v (.int .i64)]) true,.log YI 69,.rowM yIn [1,1] true 63 (.agg [.v Yg,.agg [.v (.int .i64),.own 6 Zgj,.v .u64]]),.var (.v Ze) true,.var (.ref 4 []) true,.log Zgj 76],[(.int .i64),(.int .i64),(.int .i64),(.int .i64),(.int .i64),yTx,(.int .i64),(.sl YI),(.sl (.st [])),(.sl yIn),(.sl yIn),Yg,(.int .i64),.u64,Ze,(.sl Zgj)]⟩],Zk (ZaZ fuel) fuel⟩
theorem ZpJ:ZoZ.Ok Try.prog (Zt Try.prog 102) (Zp Try.prog 102 3):=Zq (fi:={ hi:={ own:=[24,32,55,58,92,99],still:=[3,15,25,27,40,44,45,61,76,93,95,104,116,121,126],rowt:=[24,32,71],ghost:=[(4,[([1],YI,69)])],gst:=[(9,[([1,0],Zv,109)])],lits:=[31]},lp:=[]}) (specs:={ l:=[XW]}) (okS ⟨Wu,trivial⟩) trivial (by kernel_rfl) (fun v=>by kernel_rfl)
def Za0 (F:Nat) (s:(Int×Int×Int×Int×Tx×Int×(List Out)×(List Unit)×(List In)×(List In)×Zf)):Option ((Int×Int×Int×Int×Tx×Int×(List Out)×(List Unit)×(List In)×(List In)×Zf)⊕((Bool×Tx×Int×(List Out)×(List Unit)×(List In)×(List In)×Zf)⊕(Int×Int×Tx×Int×(List Out)×(List Unit)×(List In)×(List In)×Zf))):=
 if (decide (s.2.2.2.1 < s.2.2.1))=true then
  if (decide (s.2.2.2.1=(s.2.2.2.2.2.2.2.2.1.length:Int)))=true then
   Zu1 s.2.2.2.2.2.2.2.2.2.1 fun x450 r451=>
    if (inB s.2.2.2.1 (s.2.2.2.2.2.2.2.2.1.length+(r451.length+1)))=true then
     (ZB F s.2.2.2.2.2.2.2.2.2.2).bind fun o452=>
     if (decide (s.2.2.2.1.toNat=s.2.2.2.2.2.2.2.2.1.length))=true then
      (Zaq F (12:Int) o452.2).bind fun o453=>
      if (decide (o453.1 < 0))=true then
       some (.inr (.inl (false,(([]:List In),([]:List Out),(0:Int)),s.2.2.2.2.2.1,s.2.2.2.2.2.2.1,s.2.2.2.2.2.2.2.1,s.2.2.2.2.2.2.2.2.1++([(x450.1,(o452.1,[],x450.2.2.2))]:List In),r451,o453.2)))
      else
      (Zk (ZaZ F) F (s.1,s.2.1,(s.2.2.2.1.toNat:Int),s.2.2.1,s.2.2.2.1,o453.1,(0:Int),s.2.2.2.2.1,s.2.2.2.2.2.1,s.2.2.2.2.2.2.1,s.2.2.2.2.2.2.2.1,s.2.2.2.2.2.2.2.2.1,r451,x450.1,o452.1,x450.2.2.2,o453.2,([]:List Sig))).bind fun o457=>
      (Yp F o457.2.2.2.2.2.2.2.2.2.2.2.2.2.2.1).bind fun o458=>
      if (decide (o457.2.2.1.toNat=o457.2.2.2.2.2.2.2.2.2.1.length))=true then
       some (.inl (o457.1,o457.2.1,o457.2.2.2.1,wi (o457.2.2.2.2.1+1),o457.2.2.2.2.2.1,o457.2.2.2.2.2.2.1,o457.2.2.2.2.2.2.2.1,o457.2.2.2.2.2.2.2.2.1,o457.2.2.2.2.2.2.2.2.2.1++([(o457.2.2.2.2.2.2.2.2.2.2.2.1,(o457.2.2.2.2.2.2.2.2.2.2.2.2.1,o457.2.2.2.2.2.2.2.2.2.2.2.2.2.2.2,o458.1))]:List In),o457.2.2.2.2.2.2.2.2.2.2.1,o458.2))
      else
      none
     else
     none
    else
    none
  else
  none
 else
 some (.inr (.inr (s.1,s.2.1,s.2.2.2.2.1,s.2.2.2.2.2.1,s.2.2.2.2.2.2.1,s.2.2.2.2.2.2.2.1,s.2.2.2.2.2.2.2.2.1,s.2.2.2.2.2.2.2.2.2.1,s.2.2.2.2.2.2.2.2.2.2)))
def Zo0:Lp:=⟨[(2,.ref 0 []),(4,.ref 1 []),(5,.ref 5 []),(6,.fn 104 [.ref 5 []]),(7,.v (.int .i64)),(8,.v (.int .i64)),(66,.v (.int .i64)),(67,.v (.int .i64))],[.var (.v yTx) true,.var (.agg [.rw 3,.own 2 YI,.v (.int .i64)]) true,.log YI 69,.rowN yIn [1,1] true 63,.var (.v Ze) true,.var (.ref 4 []) true],[(.int .i64),(.int .i64),(.int .i64),(.int .i64),yTx,(.int .i64),(.sl YI),(.sl (.st [])),(.sl yIn),(.sl yIn),Ze],[⟨.ret,[(2,.ref 0 []),(3,.v .bool)],[.var (.v yTx) true,.var (.agg [.rw 3,.own 2 YI,.v (.int .i64)]) true,.log YI 69,.rowN yIn [1,1] true 63,.var (.v Ze) true,.var (.ref 4 []) true],[.bool,yTx,(.int .i64),(.sl YI),(.sl (.st [])),(.sl yIn),(.sl yIn),Ze]⟩,⟨.exit 4,[(2,.ref 0 []),(4,.ref 1 []),(5,.ref 5 []),(7,.v (.int .i64)),(8,.v (.int .i64))],[.var (.v yTx) true,.var (.agg [.rw 3,.own 2 YI,.v (.int .i64)]) true,.log YI 69,.rowN yIn [1,1] true 63,.var (.v Ze) true,.var (.ref 4 []) true],[(.int .i64),(.int .i64),yTx,(.int .i64),(.sl YI),(.sl (.st [])),(.sl yIn),(.sl yIn),Ze]⟩],Zk (Za0 fuel) fuel⟩
theorem ZpK:Zo0.Ok Try.prog (Zt Try.prog 102) (Zp Try.prog 102 2):=Zq (fi:={ hi:={ own:=[24,32,55,58,92,99],still:=[3,15,25,27,40,44,45,61,76,93,95,104,116,121,126],rowt:=[24,32,71],ghost:=[(4,[([1],YI,69)])],gst:=[(9,[([1,0],Zv,109)])],lits:=[31]},lp:=[(3,ZoZ)],gh:=[(4,.focus 12 Zgj 76)]}) (specs:={ l:=[Z2,ZhF,XW]}) (okS ⟨Z9,Zk1,Wu,trivial⟩) ⟨ZpJ,trivial⟩ (by kernel_rfl) (fun v=>by kernel_rfl)
def Zbh (F:Nat) (s0:Zf):Option ((Bool×Zf)):=
 some (!s0.2,s0)
def Zk4 (F:Nat):Fs Try.prog:=⟨110,[.ref 0 []],[.var (.v Ze) true],[Ze],[⟨.ret,[(0,.v .bool)],[.var (.v Ze) true],[.bool,Ze]⟩],fun x=>Zbh F x⟩
def ZeE:Fs Try.prog:=Zk4 fuel
theorem Zk5:ZeE.Ok:=Zn (fi:={ hi:={ still:=[2]},lp:=[]}) (specs:={ l:=[]}) (okS trivial) trivial (by decide+kernel) (fun x=>by kernel_rfl)
def QS (F:Nat) (s0:Zf):Option ((Int×Zf)):=
 some ((s0.1.length:Int),s0)
def Zis (F:Nat):Fs Try.prog:=⟨111,[.ref 0 []],[.var (.v Ze) true],[Ze],[⟨.ret,[(0,.v (.int .i64))],[.var (.v Ze) true],[(.int .i64),Ze]⟩],fun x=>QS F x⟩
def ZcQ:Fs Try.prog:=Zis fuel
theorem Zit:ZcQ.Ok:=Zn (fi:={ hi:={ still:=[2]},lp:=[]}) (specs:={ l:=[]}) (okS trivial) trivial (by decide+kernel) (fun x=>by kernel_rfl)
def ZeF (F:Nat) (a0:(List UInt8)):Option ((Tx×Bool)):=
 (ZcM F a0).bind fun o382=>
 (Zaq F (64:Int) o382).bind fun o392=>
 (Zk (ZaX F) F (o392.1,o392.1,(0:Int),(([]:List In),([]:List Out),(0:Int)),(0:Int),([]:List Out),([]:List Unit),([]:List In),([]:List In),o392.2)).bind fun o401=>
 (Zaq F (64:Int) o401.2.2.2.2.2.2.2).bind fun o402=>
 (Zk (ZaY F) F (o401.1,o402.1,o402.1,(0:Int),o401.2.1,o401.2.2.1,o401.2.2.2.1,o401.2.2.2.2.1,o401.2.2.2.2.2.1,o401.2.2.2.2.2.2.1,o402.2)).bind fun o445=>
 match o445 with
 |.inl o446=>
  some (o446.2.1,o446.1)
 |.inr o447=>
  (ZB F o447.2.2.2.2.2.2.2.2).bind fun o448=>
  let y449:Int:=(((o447.2.2.2.2.2.2.1.length+o447.2.2.2.2.2.2.2.1.length):Nat):Int)
  (Zk (Za0 F) F (o447.1,o447.2.1,y449,(0:Int),o447.2.2.1,o448.1,o447.2.2.2.2.1,o447.2.2.2.2.2.1,o447.2.2.2.2.2.2.1,o447.2.2.2.2.2.2.2.1,o448.2)).bind fun o459=>
  match o459 with
  |.inl o460=>
   some (o460.2.1,o460.1)
  |.inr o461=>
   if o461.2.2.2.2.2.2.2.1.isEmpty=true then
    if (decide (o461.1 < 0))=true then
     some ((([]:List In),([]:List Out),(0:Int)),false)
    else
    if (decide (o461.2.1 < 0))=true then
     some ((([]:List In),([]:List Out),(0:Int)),false)
    else
    (Zbh F o461.2.2.2.2.2.2.2.2).bind fun o462=>
    if (!o462.1)=true then
     some ((([]:List In),([]:List Out),(0:Int)),false)
    else
    (QS F o462.2).bind fun o463=>
    if (decide (o463.1 > 0))=true then
     some ((([]:List In),([]:List Out),(0:Int)),false)
    else
    (Y3 F (o461.2.2.2.2.2.2.1,o461.2.2.2.2.1,o461.2.2.2.1)).bind fun o464=>
    if (!o464)=true then
     some ((([]:List In),([]:List Out),(0:Int)),false)
    else
    some ((o461.2.2.2.2.2.2.1,o461.2.2.2.2.1,o461.2.2.2.1),true)
   else
   none
def Zvp (F:Nat):Fs Try.prog:=⟨102,[.v (.sl .u8)],[],[(.sl .u8)],[⟨.ret,[(0,.tup [.v yTx,.v .bool])],[],[yTx,.bool]⟩],fun x=>ZeF F x⟩
def ZlP:Fs Try.prog:=Zvp fuel
theorem Zo1:ZlP.Ok:=Zn (fi:={ hi:={ own:=[24,32,55,58,92,99],still:=[3,15,25,27,40,44,45,61,76,93,95,104,116,121,126],rowt:=[24,32,71],ghost:=[(4,[([1],YI,69)])],gst:=[(9,[([1,0],Zv,109)])],lits:=[31]},lp:=[(0,ZoX),(1,ZoY),(2,Zo0)],gh:=[(2,.rows 4 [0] yIn 63 [1,1]),(41,.done 4)]}) (specs:={ l:=[ZhC,ZhF,Z2,ZeE,ZcQ,VN]}) (okS ⟨Zk0,Zk1,Z9,Zk5,Zit,W0,trivial⟩) ⟨ZpH,ZpI,ZpK,trivial⟩ (by decide+kernel) (fun x=>by kernel_rfl)
def Yh (F:Nat) (s:((List Tx)×Int×Int×(List Zc)×Int×Int×Int×Int×Unit×(List Zc)×Unit×(List ((List UInt8)×(List Zc)))×(List Tx)×Tx×(List UInt8))):Option (((List Tx)×Int×Int×(List Zc)×Int×Int×Int×Int×Unit×(List Zc)×Unit×(List ((List UInt8)×(List Zc)))×(List Tx)×Tx×(List UInt8))⊕((List Tx)×Int×Int×Int×Int×Unit×(List Zc)×Unit×(List ((List UInt8)×(List Zc)))×(List Tx)×Tx×(List UInt8))):=
 if (decide (s.2.2.2.2.2.1 < s.2.2.2.2.1))=true then
  (idx s.2.2.2.1 s.2.2.2.2.2.1).bind fun e375=>
  (VQ F s.2.2.2.2.2.2.2.2.2.2.2.2.2.2).bind fun o376=>
  (Zap F o376 e375.2).bind fun o380=>
  if (!o380.2)=true then
   some (.inl (s.1,s.2.1,s.2.2.1,s.2.2.2.1,s.2.2.2.2.1,wi (s.2.2.2.2.2.1+1),s.2.2.2.2.2.2.1,s.2.2.2.2.2.2.2.1,s.2.2.2.2.2.2.2.2.1,s.2.2.2.2.2.2.2.2.2.1,s.2.2.2.2.2.2.2.2.2.2.1,s.2.2.2.2.2.2.2.2.2.2.2.1,s.2.2.2.2.2.2.2.2.2.2.2.2.1,s.2.2.2.2.2.2.2.2.2.2.2.2.2.1,s.2.2.2.2.2.2.2.2.2.2.2.2.2.2))
  else
  (ZeF F o380.1).bind fun o465=>
  if o465.2=true then
   if (apB s.2.2.2.2.2.2.2.2.2.2.2.2.1.length 1 56)=true then
    let y466:(List Tx):=s.2.2.2.2.2.2.2.2.2.2.2.2.1++([o465.1]:List Tx)
    some (.inl (s.1,s.2.1,s.2.2.1,s.2.2.2.1,s.2.2.2.2.1,wi (s.2.2.2.2.2.1+1),s.2.2.2.2.2.2.1,s.2.2.2.2.2.2.2.1,s.2.2.2.2.2.2.2.2.1,s.2.2.2.2.2.2.2.2.2.1,s.2.2.2.2.2.2.2.2.2.2.1,s.2.2.2.2.2.2.2.2.2.2.2.1,y466,s.2.2.2.2.2.2.2.2.2.2.2.2.2.1,s.2.2.2.2.2.2.2.2.2.2.2.2.2.2))
   else
   none
  else
  some (.inl (s.1,s.2.1,s.2.2.1,s.2.2.2.1,s.2.2.2.2.1,wi (s.2.2.2.2.2.1+1),s.2.2.2.2.2.2.1,s.2.2.2.2.2.2.2.1,s.2.2.2.2.2.2.2.2.1,s.2.2.2.2.2.2.2.2.2.1,s.2.2.2.2.2.2.2.2.2.2.1,s.2.2.2.2.2.2.2.2.2.2.2.1,s.2.2.2.2.2.2.2.2.2.2.2.2.1,s.2.2.2.2.2.2.2.2.2.2.2.2.2.1,s.2.2.2.2.2.2.2.2.2.2.2.2.2.2))
 else
 some (.inr (s.1,s.2.1,s.2.2.1,s.2.2.2.2.2.2.1,s.2.2.2.2.2.2.2.1,s.2.2.2.2.2.2.2.2.1,s.2.2.2.2.2.2.2.2.2.1,s.2.2.2.2.2.2.2.2.2.2.1,s.2.2.2.2.2.2.2.2.2.2.2.1,s.2.2.2.2.2.2.2.2.2.2.2.2.1,s.2.2.2.2.2.2.2.2.2.2.2.2.2.1,s.2.2.2.2.2.2.2.2.2.2.2.2.2.2))
def Za1:Lp:=⟨[(7,.mp 3),(10,.own 4 yTx),(13,.ref 6 []),(40,.v (.sl yTx)),(41,.v (.int .i64)),(42,.v (.int .i64)),(54,.v (.sl Zb)),(55,.v (.int .i64)),(56,.v (.int .i64))],[.var (.agg [.v (.int .i64),.v (.int .i64),.own 1 Zb,.iface 79 (.v (.st []))]) true,.log Zb 36,.var (.v (.st [])) true,.map 164 (.arr 16 .u8) (.sl Zb),.log yTx 25,.var (.v yTx) true,.var (.v (.arr 32 .u8)) true],[(.sl yTx),(.int .i64),(.int .i64),(.sl Zb),(.int .i64),(.int .i64),(.int .i64),(.int .i64),(.st []),(.sl Zb),(.st []),(ZbG (.arr 16 .u8) (.sl Zb)),(.sl yTx),yTx,(.arr 32 .u8)],[⟨.exit 4,[(7,.mp 3),(10,.own 4 yTx),(40,.v (.sl yTx)),(41,.v (.int .i64)),(42,.v (.int .i64))],[.var (.agg [.v (.int .i64),.v (.int .i64),.own 1 Zb,.iface 79 (.v (.st []))]) true,.log Zb 36,.var (.v (.st [])) true,.map 164 (.arr 16 .u8) (.sl Zb),.log yTx 25,.var (.v yTx) true,.var (.v (.arr 32 .u8)) true],[(.sl yTx),(.int .i64),(.int .i64),(.int .i64),(.int .i64),(.st []),(.sl Zb),(.st []),(ZbG (.arr 16 .u8) (.sl Zb)),(.sl yTx),yTx,(.arr 32 .u8)]⟩],Zk (Yh fuel) fuel⟩
theorem ZeG:Za1.Ok Try.prog (Zt Try.prog 99) (Zp Try.prog 99 2):=Zq (fi:={ hi:={ own:=[10,33,37,76,79],still:=[6,46,49,52,61,62,64,71]},lp:=[]}) (specs:={ l:=[Zdu,ZhB,ZlP]}) (okS ⟨ZbV,ZkZ,Zo1,trivial⟩) trivial (by kernel_rfl) (fun v=>by kernel_rfl)
def XE (F:Nat) (s:((List Tx)×Int×Int×Int×Int×Unit×(List Zc)×Unit×(List ((List UInt8)×(List Zc)))×(List Tx))):Option (((List Tx)×Int×Int×Int×Int×Unit×(List Zc)×Unit×(List ((List UInt8)×(List Zc)))×(List Tx))⊕(Int×Int×Unit×(List Zc)×Unit×(List ((List UInt8)×(List Zc)))×(List Tx))):=
 if (decide (s.2.2.1 < s.2.1))=true then
  (idx s.1 s.2.2.1).bind fun e370=>
  (Y3 F e370).bind fun o371=>
  if (!o371)=true then
   some (.inl (s.1,s.2.1,wi (s.2.2.1+1),s.2.2.2.1,s.2.2.2.2.1,s.2.2.2.2.2.1,s.2.2.2.2.2.2.1,s.2.2.2.2.2.2.2.1,s.2.2.2.2.2.2.2.2.1,s.2.2.2.2.2.2.2.2.2))
  else
  (Zhq F e370).bind fun o372=>
  (Wg F o372).bind fun o373=>
  Zl6 (Zd9 s.2.2.2.2.2.2.2.2.1 o373) (fun e374=>
   (Zk (Yh F) F (s.1,s.2.1,s.2.2.1,e374,(e374.length:Int),(0:Int),s.2.2.2.1,s.2.2.2.2.1,s.2.2.2.2.2.1,s.2.2.2.2.2.2.1,s.2.2.2.2.2.2.2.1,s.2.2.2.2.2.2.2.2.1,s.2.2.2.2.2.2.2.2.2,e370,o372)).bind fun o467=>
   some (.inl (o467.1,o467.2.1,wi (o467.2.2.1+1),o467.2.2.2.1,o467.2.2.2.2.1,o467.2.2.2.2.2.1,o467.2.2.2.2.2.2.1,o467.2.2.2.2.2.2.2.1,o467.2.2.2.2.2.2.2.2.1,o467.2.2.2.2.2.2.2.2.2.1))) (
   (Zk (Yh F) F (s.1,s.2.1,s.2.2.1,([]:List Zc),(0:Int),(0:Int),s.2.2.2.1,s.2.2.2.2.1,s.2.2.2.2.2.1,s.2.2.2.2.2.2.1,s.2.2.2.2.2.2.2.1,s.2.2.2.2.2.2.2.2.1,s.2.2.2.2.2.2.2.2.2,e370,o372)).bind fun o468=>
   some (.inl (o468.1,o468.2.1,wi (o468.2.2.1+1),o468.2.2.2.1,o468.2.2.2.2.1,o468.2.2.2.2.2.1,o468.2.2.2.2.2.2.1,o468.2.2.2.2.2.2.2.1,o468.2.2.2.2.2.2.2.2.1,o468.2.2.2.2.2.2.2.2.2.1)))
 else
 some (.inr (s.2.2.2.1,s.2.2.2.2.1,s.2.2.2.2.2.1,s.2.2.2.2.2.2.1,s.2.2.2.2.2.2.2.1,s.2.2.2.2.2.2.2.2.1,s.2.2.2.2.2.2.2.2.2))
def Za2:Lp:=⟨[(7,.mp 3),(10,.own 4 yTx),(40,.v (.sl yTx)),(41,.v (.int .i64)),(42,.v (.int .i64))],[.var (.agg [.v (.int .i64),.v (.int .i64),.own 1 Zb,.iface 79 (.v (.st []))]) true,.log Zb 36,.var (.v (.st [])) true,.map 164 (.arr 16 .u8) (.sl Zb),.log yTx 25],[(.sl yTx),(.int .i64),(.int .i64),(.int .i64),(.int .i64),(.st []),(.sl Zb),(.st []),(ZbG (.arr 16 .u8) (.sl Zb)),(.sl yTx)],[⟨.exit 2,[(10,.own 4 yTx)],[.var (.agg [.v (.int .i64),.v (.int .i64),.own 1 Zb,.iface 79 (.v (.st []))]) true,.log Zb 36,.var (.v (.st [])) true,.map 164 (.arr 16 .u8) (.sl Zb),.log yTx 25],[(.int .i64),(.int .i64),(.st []),(.sl Zb),(.st []),(ZbG (.arr 16 .u8) (.sl Zb)),(.sl yTx)]⟩],Zk (XE fuel) fuel⟩
theorem ZeH:Za2.Ok Try.prog (Zt Try.prog 99) (Zp Try.prog 99 1):=Zq (fi:={ hi:={ own:=[10,33,37,76,79],still:=[6,46,49,52,61,62,64,71]},lp:=[(2,Za1)]}) (specs:={ l:=[VN,Zna,ZbU]}) (okS ⟨W0,ZkP,ZaA,trivial⟩) ⟨ZeG,trivial⟩ (by kernel_rfl) (fun v=>by kernel_rfl)
def VU (F:Nat) (a0:Unit) (a2:(List Tx)) (s0_0:Int) (s0_1:Int) (s0_2:Unit) (s1:(List Zc)):Option (((List Tx)×Int×Int×Unit×(List Zc))):=
 (XD (a2,(s1.length:Int),(0:Int),s0_0,s0_1,s0_2,s1,a0,([]:List ((List UInt8)×(List Zc))))).bind fun o369=>
 (Zk (XE F) F (o369.1,(o369.1.length:Int),(0:Int),o369.2.1,o369.2.2.1,o369.2.2.2.1,o369.2.2.2.2.1,o369.2.2.2.2.2.1,o369.2.2.2.2.2.2,([]:List Tx))).bind fun o469=>
 some (o469.2.2.2.2.2.2,o469.1,o469.2.1,o469.2.2.1,o469.2.2.2.1)
def ZhI (F:Nat):Fs Try.prog:=⟨99,[.v (.st []),.ref 0 [],.v (.sl yTx)],[.var (.agg [.v (.int .i64),.v (.int .i64),.own 1 Zb,.iface 79 (.v (.st []))]) true,.log Zb 36],[(.st []),(.sl yTx),(.int .i64),(.int .i64),(.st []),(.sl Zb)],[⟨.ret,[(0,.v (.sl yTx))],[.var (.agg [.v (.int .i64),.v (.int .i64),.own 1 Zb,.iface 79 (.v (.st []))]) true,.log Zb 36],[(.sl yTx),(.int .i64),(.int .i64),(.st []),(.sl Zb)]⟩],fun x=>VU F x.1 x.2.1 x.2.2.1 x.2.2.2.1 x.2.2.2.2.1 x.2.2.2.2.2⟩
def Zbu:Fs Try.prog:=ZhI fuel
theorem ZhJ:Zbu.Ok:=Zn (fi:={ hi:={ own:=[10,33,37,76,79],still:=[6,46,49,52,61,62,64,71]},lp:=[(0,YW),(1,Za2)]}) (specs:={ l:=[]}) (okS trivial) ⟨ZeD,ZeH,trivial⟩ (by decide+kernel) (fun x=>by kernel_rfl)
def ZR (F:Nat) (a1:(List Tx)) (s0_0:Int) (s0_1:Int) (s0_2:Unit) (s1:(List Zc)):Option (((List Tx)×Int×Int×Unit×(List Zc))):=
 (VU F s0_2 a1 s0_0 s0_1 s0_2 s1).bind fun o470=>
 some (o470.1,o470.2.1,o470.2.2.1,o470.2.2.2.1,o470.2.2.2.2)
def ZfH (F:Nat):Fs Try.prog:=⟨12,[.ref 0 [],.v (.sl yTx)],[.var (.agg [.v (.int .i64),.v (.int .i64),.own 1 Zb,.iface 79 (.v (.st []))]) true,.log Zb 36],[(.sl yTx),(.int .i64),(.int .i64),(.st []),(.sl Zb)],[⟨.ret,[(0,.v (.sl yTx))],[.var (.agg [.v (.int .i64),.v (.int .i64),.own 1 Zb,.iface 79 (.v (.st []))]) true,.log Zb 36],[(.sl yTx),(.int .i64),(.int .i64),(.st []),(.sl Zb)]⟩],fun x=>ZR F x.1 x.2.1 x.2.2.1 x.2.2.2.1 x.2.2.2.2⟩
def Q5:Fs Try.prog:=ZfH fuel
theorem ZfI:Q5.Ok:=Zn (fi:={ hi:={ still:=[4]},lp:=[]}) (specs:={ l:=[Zbu],mt:=[(79, "corsned/tower.look",99)]}) (okM ⟨ZhJ,trivial⟩ ⟨ZqH,trivial⟩) trivial (by decide+kernel) (fun x=>by kernel_rfl)
def ZH (F:Nat) (a1:Int) (s0_0:Int) (s0_1:Int) (s0_2:Unit) (s1:(List Zc)):Option ((Bool×Int×Int×Unit×(List Zc))⊕(Bool×Int×Int×Unit×(List Zc)×(List Unit)×(List Zc))):=
 if (decide (a1 < 0))=true then
  some (.inl (false,s0_0,s0_1,s0_2,s1))
 else
 if (decide (a1 ≥ (s1.length:Int)))=true then
  some (.inl (false,s0_0,s0_1,s0_2,s1))
 else
 (Vm F s1).bind fun o472=>
 (ZxH (t:=Zb) a1 (wi (a1+1)) o472.1 o472.2).bind fun o473=>
 some (.inr (true,s0_0,s0_1,s0_2,s1,o473.1,o473.2))
def ZfJ (F:Nat):Fs Try.prog:=⟨15,[.ref 0 [],.v (.int .i64)],[.var (.agg [.v (.int .i64),.v (.int .i64),.own 1 Zb,.iface 79 (.v (.st []))]) true,.log Zb 36],[(.int .i64),(.int .i64),(.int .i64),(.st []),(.sl Zb)],[⟨.ret,[(0,.v .bool)],[.var (.agg [.v (.int .i64),.v (.int .i64),.own 1 Zb,.iface 79 (.v (.st []))]) true,.log Zb 36],[.bool,(.int .i64),(.int .i64),(.st []),(.sl Zb)]⟩,⟨.ret,[(0,.v .bool)],[.var (.agg [.v (.int .i64),.v (.int .i64),.rw 2,.iface 79 (.v (.st []))]) true,.log Zb 36,.row Zb true 36],[.bool,(.int .i64),(.int .i64),(.st []),(.sl Zb),(.sl (.st [])),(.sl Zb)]⟩],fun x=>ZH F x.1 x.2.1 x.2.2.1 x.2.2.2.1 x.2.2.2.2⟩
def Q6:Fs Try.prog:=ZfJ fuel
theorem ZfK:Q6.Ok:=Zn (fi:={ hi:={ still:=[4,20,22,24],rowt:=[21]},lp:=[]}) (specs:={ l:=[QQ,Zbf]}) (okS ⟨ZcK,Zez,trivial⟩) trivial (by decide+kernel) (fun x=>by kernel_rfl)
theorem Zo2:ZjL Try.prog 79 "corsned/tower.prove" 100:=fun v args w=>by kernel_rfl
def QT (F:Nat) (s:(Int×Int×Int×Int×Unit×(List Zc)×Unit×(List UInt8)×(List UInt8)×(List UInt8)×(List UInt8))):Option ((Int×Int×Int×Int×Unit×(List Zc)×Unit×(List UInt8)×(List UInt8)×(List UInt8)×(List UInt8))⊕((Bool×Int×Int×Unit×(List Zc)×Unit×(List UInt8)×(List UInt8)×(List UInt8)×(List UInt8))⊕(Int×Int×Unit×(List Zc)×Unit×(List UInt8)×(List UInt8)×(List UInt8)×(List UInt8)))):=
 if (decide (s.2.1 < s.1))=true then
  (idx s.2.2.2.2.2.1 s.2.1).bind fun e481=>
  if (decide (e481.1=s.2.2.2.2.2.2.2.2.1))=true then
   (ZF F e481.2).bind fun o482=>
   if (decide (o482=s.2.2.2.2.2.2.2.2.2.1))=true then
    (Zfv F s.2.2.2.2.2.2.2.1 e481).bind fun o483=>
    some (.inr (.inl (true,s.2.2.1,s.2.2.2.1,s.2.2.2.2.1,s.2.2.2.2.2.1,s.2.2.2.2.2.2.1,s.2.2.2.2.2.2.2.1,s.2.2.2.2.2.2.2.2.1,s.2.2.2.2.2.2.2.2.2.1,o483)))
   else
   some (.inl (s.1,wi (s.2.1+1),s.2.2.1,s.2.2.2.1,s.2.2.2.2.1,s.2.2.2.2.2.1,s.2.2.2.2.2.2.1,s.2.2.2.2.2.2.2.1,s.2.2.2.2.2.2.2.2.1,s.2.2.2.2.2.2.2.2.2.1,s.2.2.2.2.2.2.2.2.2.2))
  else
  some (.inl (s.1,wi (s.2.1+1),s.2.2.1,s.2.2.2.1,s.2.2.2.2.1,s.2.2.2.2.2.1,s.2.2.2.2.2.2.1,s.2.2.2.2.2.2.2.1,s.2.2.2.2.2.2.2.2.1,s.2.2.2.2.2.2.2.2.2.1,s.2.2.2.2.2.2.2.2.2.2))
 else
 some (.inr (.inr (s.2.2.1,s.2.2.2.1,s.2.2.2.2.1,s.2.2.2.2.2.1,s.2.2.2.2.2.2.1,s.2.2.2.2.2.2.2.1,s.2.2.2.2.2.2.2.2.1,s.2.2.2.2.2.2.2.2.2.1,s.2.2.2.2.2.2.2.2.2.2)))
def Q7:Lp:=⟨[(7,.ref 3 []),(8,.ref 4 []),(9,.ref 5 []),(10,.ref 6 []),(17,.own 1 Zb),(18,.v (.int .i64)),(19,.v (.int .i64))],[.var (.agg [.v (.int .i64),.v (.int .i64),.own 1 Zb,.iface 79 (.v (.st []))]) true,.log Zb 36,.var (.v (.st [])) true,.var (.v (.arr 32 .u8)) true,.var (.v (.arr 16 .u8)) true,.var (.v (.arr 32 .u8)) true,.var (.v (.arr 32 .u8)) true],[(.int .i64),(.int .i64),(.int .i64),(.int .i64),(.st []),(.sl Zb),(.st []),(.arr 32 .u8),(.arr 16 .u8),(.arr 32 .u8),(.arr 32 .u8)],[⟨.ret,[(10,.ref 6 []),(11,.v .bool)],[.var (.agg [.v (.int .i64),.v (.int .i64),.own 1 Zb,.iface 79 (.v (.st []))]) true,.log Zb 36,.var (.v (.st [])) true,.var (.v (.arr 32 .u8)) true,.var (.v (.arr 16 .u8)) true,.var (.v (.arr 32 .u8)) true,.var (.v (.arr 32 .u8)) true],[.bool,(.int .i64),(.int .i64),(.st []),(.sl Zb),(.st []),(.arr 32 .u8),(.arr 16 .u8),(.arr 32 .u8),(.arr 32 .u8)]⟩,⟨.exit 0,[(10,.ref 6 [])],[.var (.agg [.v (.int .i64),.v (.int .i64),.own 1 Zb,.iface 79 (.v (.st []))]) true,.log Zb 36,.var (.v (.st [])) true,.var (.v (.arr 32 .u8)) true,.var (.v (.arr 16 .u8)) true,.var (.v (.arr 32 .u8)) true,.var (.v (.arr 32 .u8)) true],[(.int .i64),(.int .i64),(.st []),(.sl Zb),(.st []),(.arr 32 .u8),(.arr 16 .u8),(.arr 32 .u8),(.arr 32 .u8)]⟩],Zk (QT fuel) fuel⟩
theorem ZdV:Q7.Ok Try.prog (Zt Try.prog 100) (Zp Try.prog 100 0):=Zq (fi:={ hi:={ still:=[11,29,34,35]},lp:=[]}) (specs:={ l:=[Zcy,ZdU]}) (okS ⟨ZaS,ZcG,trivial⟩) trivial (by kernel_rfl) (fun v=>by kernel_rfl)
def Zbv (F:Nat) (a0:Unit) (a2:(List UInt8)) (a3:(List UInt8)) (a4:(List UInt8)) (s0_0:Int) (s0_1:Int) (s0_2:Unit) (s1:(List Zc)):Option (((List UInt8)×Bool×Int×Int×Unit×(List Zc))):=
 (Zk (QT F) F ((s1.length:Int),(0:Int),s0_0,s0_1,s0_2,s1,a0,a2,a3,a4,([0,0,0,0,0,0,0,0,0,0,0,0,0,0,0,0,0,0,0,0,0,0,0,0,0,0,0,0,0,0,0,0]:List UInt8))).bind fun o484=>
 match o484 with
 |.inl o485=>
  some (o485.2.2.2.2.2.2.2.2.2,o485.1,o485.2.1,o485.2.2.1,o485.2.2.2.1,o485.2.2.2.2.1)
 |.inr o486=>
  some (([0,0,0,0,0,0,0,0,0,0,0,0,0,0,0,0,0,0,0,0,0,0,0,0,0,0,0,0,0,0,0,0]:List UInt8),false,o486.1,o486.2.1,o486.2.2.1,o486.2.2.2.1)
def Zgs (F:Nat):Fs Try.prog:=⟨100,[.v (.st []),.ref 0 [],.v (.arr 32 .u8),.v (.arr 16 .u8),.v (.arr 32 .u8)],[.var (.agg [.v (.int .i64),.v (.int .i64),.own 1 Zb,.iface 79 (.v (.st []))]) true,.log Zb 36],[(.st []),(.arr 32 .u8),(.arr 16 .u8),(.arr 32 .u8),(.int .i64),(.int .i64),(.st []),(.sl Zb)],[⟨.ret,[(0,.tup [.v (.arr 32 .u8),.v .bool])],[.var (.agg [.v (.int .i64),.v (.int .i64),.own 1 Zb,.iface 79 (.v (.st []))]) true,.log Zb 36],[(.arr 32 .u8),.bool,(.int .i64),(.int .i64),(.st []),(.sl Zb)]⟩],fun x=>Zbv F x.1 x.2.1 x.2.2.1 x.2.2.2.1 x.2.2.2.2.1 x.2.2.2.2.2.1 x.2.2.2.2.2.2.1 x.2.2.2.2.2.2.2⟩
def Za3:Fs Try.prog:=Zgs fuel
theorem Zgt:Za3.Ok:=Zn (fi:={ hi:={ still:=[11,29,34,35]},lp:=[(0,Q7)]}) (specs:={ l:=[]}) (okS trivial) ⟨ZdV,trivial⟩ (by decide+kernel) (fun x=>by kernel_rfl)
def XF (F:Nat) (a1:(List UInt8)) (a2:(List UInt8)) (a3:(List UInt8)) (s0_0:Int) (s0_1:Int) (s0_2:Unit) (s1:(List Zc)):Option (((List UInt8)×Bool×Int×Int×Unit×(List Zc))):=
 (Zbv F s0_2 a1 a2 a3 s0_0 s0_1 s0_2 s1).bind fun o487=>
 some (o487.1,o487.2.1,o487.2.2.1,o487.2.2.2.1,o487.2.2.2.2.1,o487.2.2.2.2.2)
def ZeI (F:Nat):Fs Try.prog:=⟨13,[.ref 0 [],.v (.arr 32 .u8),.v (.arr 16 .u8),.v (.arr 32 .u8)],[.var (.agg [.v (.int .i64),.v (.int .i64),.own 1 Zb,.iface 79 (.v (.st []))]) true,.log Zb 36],[(.arr 32 .u8),(.arr 16 .u8),(.arr 32 .u8),(.int .i64),(.int .i64),(.st []),(.sl Zb)],[⟨.ret,[(0,.tup [.v (.arr 32 .u8),.v .bool])],[.var (.agg [.v (.int .i64),.v (.int .i64),.own 1 Zb,.iface 79 (.v (.st []))]) true,.log Zb 36],[(.arr 32 .u8),.bool,(.int .i64),(.int .i64),(.st []),(.sl Zb)]⟩],fun x=>XF F x.1 x.2.1 x.2.2.1 x.2.2.2.1 x.2.2.2.2.1 x.2.2.2.2.2.1 x.2.2.2.2.2.2⟩
def QU:Fs Try.prog:=ZeI fuel
theorem ZeJ:QU.Ok:=Zn (fi:={ hi:={ still:=[9]},lp:=[]}) (specs:={ l:=[Za3],mt:=[(79, "corsned/tower.prove",100)]}) (okM ⟨Zgt,trivial⟩ ⟨Zo2,trivial⟩) trivial (by decide+kernel) (fun x=>by kernel_rfl)
def XK (F:Nat) (s:(Int×Int×Int×Int×Unit×(List Unit)×(List Zc)×Unit×(List UInt8)×(List UInt8)×(List UInt8)×(List UInt8))):Option ((Int×Int×Int×Int×Unit×(List Unit)×(List Zc)×Unit×(List UInt8)×(List UInt8)×(List UInt8)×(List UInt8))⊕((Bool×Int×Int×Unit×(List Unit)×(List Zc)×Unit×(List UInt8)×(List UInt8)×(List UInt8)×(List UInt8))⊕(Int×Int×Unit×(List Unit)×(List Zc)×Unit×(List UInt8)×(List UInt8)×(List UInt8)×(List UInt8)))):=
 if (decide (s.2.1 < s.1))=true then
  if (inB s.2.1 s.2.2.2.2.2.2.1.length)=true then
   (s.2.2.2.2.2.2.1[s.2.1.toNat]?).bind fun e494=>
   if (decide (e494.1=s.2.2.2.2.2.2.2.2.2.1))=true then
    (ZF F e494.2).bind fun o495=>
    if (decide (o495=s.2.2.2.2.2.2.2.2.2.2.1))=true then
     (Zfv F s.2.2.2.2.2.2.2.2.1 e494).bind fun o496=>
     some (.inr (.inl (true,s.2.2.1,s.2.2.2.1,s.2.2.2.2.1,s.2.2.2.2.2.1,s.2.2.2.2.2.2.1,s.2.2.2.2.2.2.2.1,s.2.2.2.2.2.2.2.2.1,s.2.2.2.2.2.2.2.2.2.1,s.2.2.2.2.2.2.2.2.2.2.1,o496)))
    else
    some (.inl (s.1,wi (s.2.1+1),s.2.2.1,s.2.2.2.1,s.2.2.2.2.1,s.2.2.2.2.2.1,s.2.2.2.2.2.2.1,s.2.2.2.2.2.2.2.1,s.2.2.2.2.2.2.2.2.1,s.2.2.2.2.2.2.2.2.2.1,s.2.2.2.2.2.2.2.2.2.2.1,s.2.2.2.2.2.2.2.2.2.2.2))
   else
   some (.inl (s.1,wi (s.2.1+1),s.2.2.1,s.2.2.2.1,s.2.2.2.2.1,s.2.2.2.2.2.1,s.2.2.2.2.2.2.1,s.2.2.2.2.2.2.2.1,s.2.2.2.2.2.2.2.2.1,s.2.2.2.2.2.2.2.2.2.1,s.2.2.2.2.2.2.2.2.2.2.1,s.2.2.2.2.2.2.2.2.2.2.2))
  else
  none
 else
 some (.inr (.inr (s.2.2.1,s.2.2.2.1,s.2.2.2.2.1,s.2.2.2.2.2.1,s.2.2.2.2.2.2.1,s.2.2.2.2.2.2.2.1,s.2.2.2.2.2.2.2.2.1,s.2.2.2.2.2.2.2.2.2.1,s.2.2.2.2.2.2.2.2.2.2.1,s.2.2.2.2.2.2.2.2.2.2.2)))
def VD:Lp:=⟨[(7,.ref 3 []),(8,.ref 4 []),(9,.ref 5 []),(10,.ref 6 []),(17,.rw 1),(18,.v (.int .i64)),(19,.v (.int .i64))],[.var (.agg [.v (.int .i64),.v (.int .i64),.rw 1,.iface 79 (.v (.st []))]) true,.row Zb true 36,.var (.v (.st [])) true,.var (.v (.arr 32 .u8)) true,.var (.v (.arr 16 .u8)) true,.var (.v (.arr 32 .u8)) true,.var (.v (.arr 32 .u8)) true],[(.int .i64),(.int .i64),(.int .i64),(.int .i64),(.st []),(.sl (.st [])),(.sl Zb),(.st []),(.arr 32 .u8),(.arr 16 .u8),(.arr 32 .u8),(.arr 32 .u8)],[⟨.ret,[(10,.ref 6 []),(11,.v .bool)],[.var (.agg [.v (.int .i64),.v (.int .i64),.rw 1,.iface 79 (.v (.st []))]) true,.row Zb true 36,.var (.v (.st [])) true,.var (.v (.arr 32 .u8)) true,.var (.v (.arr 16 .u8)) true,.var (.v (.arr 32 .u8)) true,.var (.v (.arr 32 .u8)) true],[.bool,(.int .i64),(.int .i64),(.st []),(.sl (.st [])),(.sl Zb),(.st []),(.arr 32 .u8),(.arr 16 .u8),(.arr 32 .u8),(.arr 32 .u8)]⟩,⟨.exit 0,[(10,.ref 6 [])],[.var (.agg [.v (.int .i64),.v (.int .i64),.rw 1,.iface 79 (.v (.st []))]) true,.row Zb true 36,.var (.v (.st [])) true,.var (.v (.arr 32 .u8)) true,.var (.v (.arr 16 .u8)) true,.var (.v (.arr 32 .u8)) true,.var (.v (.arr 32 .u8)) true],[(.int .i64),(.int .i64),(.st []),(.sl (.st [])),(.sl Zb),(.st []),(.arr 32 .u8),(.arr 16 .u8),(.arr 32 .u8),(.arr 32 .u8)]⟩],Zk (XK fuel) fuel⟩
theorem ZbW:VD.Ok Try.prog (Zt Try.prog 100) (Zp Try.prog 100 0):=Zq (fi:={ hi:={ still:=[11,29,34,35]},lp:=[]}) (specs:={ l:=[Zcy,ZdU]}) (okS ⟨ZaS,ZcG,trivial⟩) trivial (by kernel_rfl) (fun v=>by kernel_rfl)
def Wv (F:Nat) (a0:Unit) (a2:(List UInt8)) (a3:(List UInt8)) (a4:(List UInt8)) (s0_0:Int) (s0_1:Int) (s0_2:Unit) (s1_0:(List Unit)) (s1_1:(List Zc)):Option (((List UInt8)×Bool×Int×Int×Unit×(List Unit)×(List Zc))):=
 (Zk (XK F) F ((s1_1.length:Int),(0:Int),s0_0,s0_1,s0_2,s1_0,s1_1,a0,a2,a3,a4,([0,0,0,0,0,0,0,0,0,0,0,0,0,0,0,0,0,0,0,0,0,0,0,0,0,0,0,0,0,0,0,0]:List UInt8))).bind fun o497=>
 match o497 with
 |.inl o498=>
  some (o498.2.2.2.2.2.2.2.2.2.2,o498.1,o498.2.1,o498.2.2.1,o498.2.2.2.1,o498.2.2.2.2.1,o498.2.2.2.2.2.1)
 |.inr o499=>
  some (([0,0,0,0,0,0,0,0,0,0,0,0,0,0,0,0,0,0,0,0,0,0,0,0,0,0,0,0,0,0,0,0]:List UInt8),false,o499.1,o499.2.1,o499.2.2.1,o499.2.2.2.1,o499.2.2.2.2.1)
def ZdW (F:Nat):Fs Try.prog:=⟨100,[.v (.st []),.ref 0 [],.v (.arr 32 .u8),.v (.arr 16 .u8),.v (.arr 32 .u8)],[.var (.agg [.v (.int .i64),.v (.int .i64),.rw 1,.iface 79 (.v (.st []))]) true,.row Zb true 36],[(.st []),(.arr 32 .u8),(.arr 16 .u8),(.arr 32 .u8),(.int .i64),(.int .i64),(.st []),(.sl (.st [])),(.sl Zb)],[⟨.ret,[(0,.tup [.v (.arr 32 .u8),.v .bool])],[.var (.agg [.v (.int .i64),.v (.int .i64),.rw 1,.iface 79 (.v (.st []))]) true,.row Zb true 36],[(.arr 32 .u8),.bool,(.int .i64),(.int .i64),(.st []),(.sl (.st [])),(.sl Zb)]⟩],fun x=>Wv F x.1 x.2.1 x.2.2.1 x.2.2.2.1 x.2.2.2.2.1 x.2.2.2.2.2.1 x.2.2.2.2.2.2.1 x.2.2.2.2.2.2.2.1 x.2.2.2.2.2.2.2.2⟩
def V6:Fs Try.prog:=ZdW fuel
theorem ZdX:V6.Ok:=Zn (fi:={ hi:={ still:=[11,29,34,35]},lp:=[(0,VD)]}) (specs:={ l:=[]}) (okS trivial) ⟨ZbW,trivial⟩ (by decide+kernel) (fun x=>by kernel_rfl)
def ZE (F:Nat) (a1:(List UInt8)) (a2:(List UInt8)) (a3:(List UInt8)) (s0_0:Int) (s0_1:Int) (s0_2:Unit) (s1_0:(List Unit)) (s1_1:(List Zc)):Option (((List UInt8)×Bool×Int×Int×Unit×(List Unit)×(List Zc))):=
 (Wv F s0_2 a1 a2 a3 s0_0 s0_1 s0_2 s1_0 s1_1).bind fun o500=>
 some (o500.1,o500.2.1,o500.2.2.1,o500.2.2.2.1,o500.2.2.2.2.1,o500.2.2.2.2.2.1,o500.2.2.2.2.2.2)
def ZeK (F:Nat):Fs Try.prog:=⟨13,[.ref 0 [],.v (.arr 32 .u8),.v (.arr 16 .u8),.v (.arr 32 .u8)],[.var (.agg [.v (.int .i64),.v (.int .i64),.rw 1,.iface 79 (.v (.st []))]) true,.row Zb true 36],[(.arr 32 .u8),(.arr 16 .u8),(.arr 32 .u8),(.int .i64),(.int .i64),(.st []),(.sl (.st [])),(.sl Zb)],[⟨.ret,[(0,.tup [.v (.arr 32 .u8),.v .bool])],[.var (.agg [.v (.int .i64),.v (.int .i64),.rw 1,.iface 79 (.v (.st []))]) true,.row Zb true 36],[(.arr 32 .u8),.bool,(.int .i64),(.int .i64),(.st []),(.sl (.st [])),(.sl Zb)]⟩],fun x=>ZE F x.1 x.2.1 x.2.2.1 x.2.2.2.1 x.2.2.2.2.1 x.2.2.2.2.2.1 x.2.2.2.2.2.2.1 x.2.2.2.2.2.2.2⟩
def QV:Fs Try.prog:=ZeK fuel
theorem ZeL:QV.Ok:=Zn (fi:={ hi:={ still:=[9]},lp:=[]}) (specs:={ l:=[V6],mt:=[(79, "corsned/tower.prove",100)]}) (okM ⟨ZdX,trivial⟩ ⟨Zo2,trivial⟩) trivial (by decide+kernel) (fun x=>by kernel_rfl)
end
end Go.Proofs.Ytehgcchjaamddaa
end
