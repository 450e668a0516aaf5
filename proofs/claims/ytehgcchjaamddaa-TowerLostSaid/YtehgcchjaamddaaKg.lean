/- Parts of the proof, in one file. -/
import Derived.Test.YtehgcchjaamddaaKf
set_option linter.unusedVariables false
set_option linter.unusedSimpArgs false
section
set_option maxRecDepth 4000
namespace Go.Proofs.Ytehgcchjaamddaa
open Go Go.Ev
noncomputable section
noncomputable def WN (s:((List Tx)×Int×Int×Int×Int×Unit×(List Unit)×(List Zc)×Unit×(List ((List UInt8)×(List Zc))))):((List Tx)×Int×Int×Unit×(List Unit)×(List Zc)×Unit×(List ((List UInt8)×(List Zc)))):=(s.1,s.2.2.2.1,s.2.2.2.2.1,s.2.2.2.2.2.1,s.2.2.2.2.2.2.1,s.2.2.2.2.2.2.2.1,s.2.2.2.2.2.2.2.2.1,(@Zei (List UInt8) Zc (Ty.deq (.arr 16 .u8)) (fun p:Zc=>p.1) s.2.2.2.2.2.2.2.1))
noncomputable def YP (s:((List Tx)×Int×Int×Int×Int×Unit×(List Unit)×(List Zc)×Unit×(List ((List UInt8)×(List Zc))))):Option ((List Tx)×Int×Int×Unit×(List Unit)×(List Zc)×Unit×(List ((List UInt8)×(List Zc)))):=@Zvg (List UInt8) Zc ((List Tx)×Int×Int×Unit×(List Unit)×(List Zc)×Unit×(List ((List UInt8)×(List Zc)))) s.2.2.1 s.2.1 s.2.2.2.2.2.2.2.1 s.2.2.2.2.2.2.2.2.2 40 (WN s)
noncomputable def Yq:Lp:=⟨[(2,.v (.sl yTx)),(7,.mp 3),(24,.rw 1),(25,.v (.int .i64)),(26,.v (.int .i64))],[.var (.agg [.v (.int .i64),.v (.int .i64),.rw 1,.iface 79 (.v (.st []))]) true,.row Zb true 36,.var (.v (.st [])) true,.map 164 (.arr 16 .u8) (.sl Zb)],[(.sl yTx),(.int .i64),(.int .i64),(.int .i64),(.int .i64),(.st []),(.sl (.st [])),(.sl Zb),(.st []),(ZbG (.arr 16 .u8) (.sl Zb))],[⟨.exit 0,[(2,.v (.sl yTx)),(7,.mp 3)],[.var (.agg [.v (.int .i64),.v (.int .i64),.rw 1,.iface 79 (.v (.st []))]) true,.row Zb true 36,.var (.v (.st [])) true,.map 164 (.arr 16 .u8) (.sl Zb)],[(.sl yTx),(.int .i64),(.int .i64),(.st []),(.sl (.st [])),(.sl Zb),(.st []),(ZbG (.arr 16 .u8) (.sl Zb))]⟩],YP⟩
noncomputable def Zj:Code:=Zp Try.prog 99 0
noncomputable def Xz (s:((List Tx)×Int×Int×Int×Int×Unit×(List Unit)×(List Zc)×Unit×(List ((List UInt8)×(List Zc))))):List TD×List TEnt:=(XY 83 Yq.sl Yq.es (ofD Yq.I s)).getD ([],[])
noncomputable def XL (s:((List Tx)×Int×Int×Int×Int×Unit×(List Unit)×(List Zc)×Unit×(List ((List UInt8)×(List Zc))))):List TEnt:=(Xz s).2.set 3 .gone
noncomputable def Ya:HI:={ own:=[10,33,37,76,79],still:=[6,46,49,52,61,62,64,71]}
noncomputable def XA (s:((List Tx)×Int×Int×Int×Int×Unit×(List Unit)×(List Zc)×Unit×(List ((List UInt8)×(List Zc))))) (z:Int):List TD:=((Zkp Try.prog Ya (gA Zj) (gA Zj).toList (((Xz s).1.set 7 .junk).set 26 (.p (.v (.int .i64) z))) (XL s)).getD ([],[])).1
noncomputable def XB (s:((List Tx)×Int×Int×Int×Int×Unit×(List Unit)×(List Zc)×Unit×(List ((List UInt8)×(List Zc))))) (z:Int) (p:Zc):List TD:=(((XA s z).set 28 (.rp 1 [.ix z.toNat 17])).set 29 (.p (.v Zb p))).set 9 (.ref 4 [])
noncomputable def YB (s:((List Tx)×Int×Int×Int×Int×Unit×(List Unit)×(List Zc)×Unit×(List ((List UInt8)×(List Zc))))) (z:Int) (p:Zc):List TEnt:=XL s++[.var (.p (.v Zb p)) true]
noncomputable def Vd (s:((List Tx)×Int×Int×Int×Int×Unit×(List Unit)×(List Zc)×Unit×(List ((List UInt8)×(List Zc))))) (z:Int) (p:Zc):List TD:=((Zkp Try.prog Ya (gC Zj) (((gC Zj).toList.take 5).drop 1) ((XB s z p).set 30 .junk) (YB s z p)).getD ([],[])).1
noncomputable def ZcR (s:((List Tx)×Int×Int×Int×Int×Unit×(List Unit)×(List Zc)×Unit×(List ((List UInt8)×(List Zc))))) (z:Int) (p:Zc):List TD:=((Zkp Try.prog Ya (gD Zj) (gD Zj).toList (((((Vd s z p).set 36 .junk).set 33 .junk).set 37 .junk).set 38 .junk) (YB s z p)).getD ([],[])).1
theorem ZcS:Yq.Ok Try.prog (Zt Try.prog 99) (Zp Try.prog 99 0):=
 ZzI (P:=Try.prog) (N:=83) 3 4 5 6 0 1 27 7 30 26 36 33 37 38 3 4 (gA Zj) (gB Zj) (gC Zj) (gD Zj) (by kernel_rfl) (K:=(.arr 16 .u8)) (T:=Zb) (tid:=164) (e:=36) (kt:=34) (t:=164) (tt:=80) (u:=80) (t5:=164) (et:=80) Ya [2,24,25,26] [2] Xz
  (fun s:((List Tx)×Int×Int×Int×Int×Unit×(List Unit)×(List Zc)×Unit×(List ((List UInt8)×(List Zc))))=>s.2.2.2.2.2.2.2.1) (fun p:Zc=>p.1) (fun s:((List Tx)×Int×Int×Int×Int×Unit×(List Unit)×(List Zc)×Unit×(List ((List UInt8)×(List Zc))))=>s.2.2.1) (fun s:((List Tx)×Int×Int×Int×Int×Unit×(List Unit)×(List Zc)×Unit×(List ((List UInt8)×(List Zc))))=>s.2.1) (fun s:((List Tx)×Int×Int×Int×Int×Unit×(List Unit)×(List Zc)×Unit×(List ((List UInt8)×(List Zc))))=>s.2.2.2.2.2.2.2.2.2) WN (ZgS (gC Zj) 5) (ZgS (gC Zj) 6) (ZgS (gC Zj) 7) (ZgS (gC Zj) 8) (ZgS (gC Zj) 9) (.tmp 32) (.tmp 35) (ZzG (ZgS (gC Zj) 7)) 17 (ZzH Try.prog 36) XA XB Vd ZcR YB
  (fun s=>by kernel_rfl) (fun s=>by kernel_rfl) (fun s=>by kernel_rfl) (fun s=>⟨by kernel_rfl,by kernel_rfl,by kernel_rfl,by kernel_rfl,by kernel_rfl⟩) (fun s=>⟨by kernel_rfl,by kernel_rfl⟩) (fun s z=>by kernel_rfl) (fun s z=>by kernel_rfl)
  (fun s j p hp=>by
  have h1:Zkp Try.prog Ya (gB Zj) (gB Zj).toList (XA s (j:Int)) (XL s)=if inB (j:Int) (@id (List Zc) s.2.2.2.2.2.2.2.1).length=true then ((@id (List Zc) s.2.2.2.2.2.2.2.1)[(j:Int).toNat]?).bind fun p=>some (XB s (j:Int) p,YB s (j:Int) p) else none:=by kernel_rfl
  have hp:(@id (List Zc) s.2.2.2.2.2.2.2.1)[j]? =some p:=hp
  exact h1.trans (by rw [if_pos (ZCR hp),Int.toNat_natCast,hp];rfl))
  (fun s z p=>by kernel_rfl) (fun s z p=>by kernel_rfl) (fun s z p=>by kernel_rfl) (fun s z p=>by kernel_rfl) (fun s z p=>⟨by kernel_rfl,by kernel_rfl⟩) (by kernel_rfl) (by kernel_rfl) ⟨by kernel_rfl,by kernel_rfl,by kernel_rfl⟩ (by kernel_rfl) (by decide)
  ⟨by kernel_rfl,by kernel_rfl,by kernel_rfl,by kernel_rfl,by kernel_rfl,by kernel_rfl,by kernel_rfl,by kernel_rfl,by kernel_rfl,by kernel_rfl,by kernel_rfl,by kernel_rfl,by kernel_rfl,by kernel_rfl,by kernel_rfl,by kernel_rfl,by kernel_rfl,by kernel_rfl,by kernel_rfl,by kernel_rfl,by kernel_rfl,by kernel_rfl,by kernel_rfl⟩ ⟨by kernel_rfl,by kernel_rfl,by kernel_rfl,by kernel_rfl,by kernel_rfl⟩ (by kernel_rfl) (by kernel_rfl) (by decide)
def Yk (F:Nat) (s:((List Tx)×Int×Int×(List Zc)×Int×Int×Int×Int×Unit×(List Unit)×(List Zc)×Unit×(List ((List UInt8)×(List Zc)))×(List Tx)×Tx×(List UInt8))):Option (((List Tx)×Int×Int×(List Zc)×Int×Int×Int×Int×Unit×(List Unit)×(List Zc)×Unit×(List ((List UInt8)×(List Zc)))×(List Tx)×Tx×(List UInt8))⊕((List Tx)×Int×Int×Int×Int×Unit×(List Unit)×(List Zc)×Unit×(List ((List UInt8)×(List Zc)))×(List Tx)×Tx×(List UInt8))):=
 if (decide (s.2.2.2.2.2.1 < s.2.2.2.2.1))=true then
  (idx s.2.2.2.1 s.2.2.2.2.2.1).bind fun e509=>
  (VQ F s.2.2.2.2.2.2.2.2.2.2.2.2.2.2.2).bind fun o510=>
  (Zap F o510 e509.2).bind fun o511=>
  if (!o511.2)=true then
   some (.inl (s.1,s.2.1,s.2.2.1,s.2.2.2.1,s.2.2.2.2.1,wi (s.2.2.2.2.2.1+1),s.2.2.2.2.2.2.1,s.2.2.2.2.2.2.2.1,s.2.2.2.2.2.2.2.2.1,s.2.2.2.2.2.2.2.2.2.1,s.2.2.2.2.2.2.2.2.2.2.1,s.2.2.2.2.2.2.2.2.2.2.2.1,s.2.2.2.2.2.2.2.2.2.2.2.2.1,s.2.2.2.2.2.2.2.2.2.2.2.2.2.1,s.2.2.2.2.2.2.2.2.2.2.2.2.2.2.1,s.2.2.2.2.2.2.2.2.2.2.2.2.2.2.2))
  else
  (ZeF F o511.1).bind fun o512=>
  if o512.2=true then
   if (apB s.2.2.2.2.2.2.2.2.2.2.2.2.2.1.length 1 56)=true then
    let y513:(List Tx):=s.2.2.2.2.2.2.2.2.2.2.2.2.2.1++([o512.1]:List Tx)
    some (.inl (s.1,s.2.1,s.2.2.1,s.2.2.2.1,s.2.2.2.2.1,wi (s.2.2.2.2.2.1+1),s.2.2.2.2.2.2.1,s.2.2.2.2.2.2.2.1,s.2.2.2.2.2.2.2.2.1,s.2.2.2.2.2.2.2.2.2.1,s.2.2.2.2.2.2.2.2.2.2.1,s.2.2.2.2.2.2.2.2.2.2.2.1,s.2.2.2.2.2.2.2.2.2.2.2.2.1,y513,s.2.2.2.2.2.2.2.2.2.2.2.2.2.2.1,s.2.2.2.2.2.2.2.2.2.2.2.2.2.2.2))
   else
   none
  else
  some (.inl (s.1,s.2.1,s.2.2.1,s.2.2.2.1,s.2.2.2.2.1,wi (s.2.2.2.2.2.1+1),s.2.2.2.2.2.2.1,s.2.2.2.2.2.2.2.1,s.2.2.2.2.2.2.2.2.1,s.2.2.2.2.2.2.2.2.2.1,s.2.2.2.2.2.2.2.2.2.2.1,s.2.2.2.2.2.2.2.2.2.2.2.1,s.2.2.2.2.2.2.2.2.2.2.2.2.1,s.2.2.2.2.2.2.2.2.2.2.2.2.2.1,s.2.2.2.2.2.2.2.2.2.2.2.2.2.2.1,s.2.2.2.2.2.2.2.2.2.2.2.2.2.2.2))
 else
 some (.inr (s.1,s.2.1,s.2.2.1,s.2.2.2.2.2.2.1,s.2.2.2.2.2.2.2.1,s.2.2.2.2.2.2.2.2.1,s.2.2.2.2.2.2.2.2.2.1,s.2.2.2.2.2.2.2.2.2.2.1,s.2.2.2.2.2.2.2.2.2.2.2.1,s.2.2.2.2.2.2.2.2.2.2.2.2.1,s.2.2.2.2.2.2.2.2.2.2.2.2.2.1,s.2.2.2.2.2.2.2.2.2.2.2.2.2.2.1,s.2.2.2.2.2.2.2.2.2.2.2.2.2.2.2))
def V7:Lp:=⟨[(7,.mp 3),(10,.own 4 yTx),(13,.ref 6 []),(40,.v (.sl yTx)),(41,.v (.int .i64)),(42,.v (.int .i64)),(54,.v (.sl Zb)),(55,.v (.int .i64)),(56,.v (.int .i64))],[.var (.agg [.v (.int .i64),.v (.int .i64),.rw 1,.iface 79 (.v (.st []))]) true,.row Zb true 36,.var (.v (.st [])) true,.map 164 (.arr 16 .u8) (.sl Zb),.log yTx 25,.var (.v yTx) true,.var (.v (.arr 32 .u8)) true],[(.sl yTx),(.int .i64),(.int .i64),(.sl Zb),(.int .i64),(.int .i64),(.int .i64),(.int .i64),(.st []),(.sl (.st [])),(.sl Zb),(.st []),(ZbG (.arr 16 .u8) (.sl Zb)),(.sl yTx),yTx,(.arr 32 .u8)],[⟨.exit 4,[(7,.mp 3),(10,.own 4 yTx),(40,.v (.sl yTx)),(41,.v (.int .i64)),(42,.v (.int .i64))],[.var (.agg [.v (.int .i64),.v (.int .i64),.rw 1,.iface 79 (.v (.st []))]) true,.row Zb true 36,.var (.v (.st [])) true,.map 164 (.arr 16 .u8) (.sl Zb),.log yTx 25,.var (.v yTx) true,.var (.v (.arr 32 .u8)) true],[(.sl yTx),(.int .i64),(.int .i64),(.int .i64),(.int .i64),(.st []),(.sl (.st [])),(.sl Zb),(.st []),(ZbG (.arr 16 .u8) (.sl Zb)),(.sl yTx),yTx,(.arr 32 .u8)]⟩],Zk (Yk fuel) fuel⟩
theorem ZcT:V7.Ok Try.prog (Zt Try.prog 99) (Zp Try.prog 99 2):=Zq (fi:={ hi:={ own:=[10,33,37,76,79],still:=[6,46,49,52,61,62,64,71]},lp:=[]}) (specs:={ l:=[Zdu,ZhB,ZlP]}) (okS ⟨ZbV,ZkZ,Zo1,trivial⟩) trivial (by kernel_rfl) (fun v=>by kernel_rfl)
def YQ (F:Nat) (s:((List Tx)×Int×Int×Int×Int×Unit×(List Unit)×(List Zc)×Unit×(List ((List UInt8)×(List Zc)))×(List Tx))):Option (((List Tx)×Int×Int×Int×Int×Unit×(List Unit)×(List Zc)×Unit×(List ((List UInt8)×(List Zc)))×(List Tx))⊕(Int×Int×Unit×(List Unit)×(List Zc)×Unit×(List ((List UInt8)×(List Zc)))×(List Tx))):=
 if (decide (s.2.2.1 < s.2.1))=true then
  (idx s.1 s.2.2.1).bind fun e504=>
  (Y3 F e504).bind fun o505=>
  if (!o505)=true then
   some (.inl (s.1,s.2.1,wi (s.2.2.1+1),s.2.2.2.1,s.2.2.2.2.1,s.2.2.2.2.2.1,s.2.2.2.2.2.2.1,s.2.2.2.2.2.2.2.1,s.2.2.2.2.2.2.2.2.1,s.2.2.2.2.2.2.2.2.2.1,s.2.2.2.2.2.2.2.2.2.2))
  else
  (Zhq F e504).bind fun o506=>
  (Wg F o506).bind fun o507=>
  Zl6 (Zd9 s.2.2.2.2.2.2.2.2.2.1 o507) (fun e508=>
   (Zk (Yk F) F (s.1,s.2.1,s.2.2.1,e508,(e508.length:Int),(0:Int),s.2.2.2.1,s.2.2.2.2.1,s.2.2.2.2.2.1,s.2.2.2.2.2.2.1,s.2.2.2.2.2.2.2.1,s.2.2.2.2.2.2.2.2.1,s.2.2.2.2.2.2.2.2.2.1,s.2.2.2.2.2.2.2.2.2.2,e504,o506)).bind fun o514=>
   some (.inl (o514.1,o514.2.1,wi (o514.2.2.1+1),o514.2.2.2.1,o514.2.2.2.2.1,o514.2.2.2.2.2.1,o514.2.2.2.2.2.2.1,o514.2.2.2.2.2.2.2.1,o514.2.2.2.2.2.2.2.2.1,o514.2.2.2.2.2.2.2.2.2.1,o514.2.2.2.2.2.2.2.2.2.2.1))) (
   (Zk (Yk F) F (s.1,s.2.1,s.2.2.1,([]:List Zc),(0:Int),(0:Int),s.2.2.2.1,s.2.2.2.2.1,s.2.2.2.2.2.1,s.2.2.2.2.2.2.1,s.2.2.2.2.2.2.2.1,s.2.2.2.2.2.2.2.2.1,s.2.2.2.2.2.2.2.2.2.1,s.2.2.2.2.2.2.2.2.2.2,e504,o506)).bind fun o515=>
   some (.inl (o515.1,o515.2.1,wi (o515.2.2.1+1),o515.2.2.2.1,o515.2.2.2.2.1,o515.2.2.2.2.2.1,o515.2.2.2.2.2.2.1,o515.2.2.2.2.2.2.2.1,o515.2.2.2.2.2.2.2.2.1,o515.2.2.2.2.2.2.2.2.2.1,o515.2.2.2.2.2.2.2.2.2.2.1)))
 else
 some (.inr (s.2.2.2.1,s.2.2.2.2.1,s.2.2.2.2.2.1,s.2.2.2.2.2.2.1,s.2.2.2.2.2.2.2.1,s.2.2.2.2.2.2.2.2.1,s.2.2.2.2.2.2.2.2.2.1,s.2.2.2.2.2.2.2.2.2.2))
def V8:Lp:=⟨[(7,.mp 3),(10,.own 4 yTx),(40,.v (.sl yTx)),(41,.v (.int .i64)),(42,.v (.int .i64))],[.var (.agg [.v (.int .i64),.v (.int .i64),.rw 1,.iface 79 (.v (.st []))]) true,.row Zb true 36,.var (.v (.st [])) true,.map 164 (.arr 16 .u8) (.sl Zb),.log yTx 25],[(.sl yTx),(.int .i64),(.int .i64),(.int .i64),(.int .i64),(.st []),(.sl (.st [])),(.sl Zb),(.st []),(ZbG (.arr 16 .u8) (.sl Zb)),(.sl yTx)],[⟨.exit 2,[(10,.own 4 yTx)],[.var (.agg [.v (.int .i64),.v (.int .i64),.rw 1,.iface 79 (.v (.st []))]) true,.row Zb true 36,.var (.v (.st [])) true,.map 164 (.arr 16 .u8) (.sl Zb),.log yTx 25],[(.int .i64),(.int .i64),(.st []),(.sl (.st [])),(.sl Zb),(.st []),(ZbG (.arr 16 .u8) (.sl Zb)),(.sl yTx)]⟩],Zk (YQ fuel) fuel⟩
theorem ZcU:V8.Ok Try.prog (Zt Try.prog 99) (Zp Try.prog 99 1):=Zq (fi:={ hi:={ own:=[10,33,37,76,79],still:=[6,46,49,52,61,62,64,71]},lp:=[(2,V7)]}) (specs:={ l:=[VN,Zna,ZbU]}) (okS ⟨W0,ZkP,ZaA,trivial⟩) ⟨ZcT,trivial⟩ (by kernel_rfl) (fun v=>by kernel_rfl)
def WH (F:Nat) (a0:Unit) (a2:(List Tx)) (s0_0:Int) (s0_1:Int) (s0_2:Unit) (s1_0:(List Unit)) (s1_1:(List Zc)):Option (((List Tx)×Int×Int×Unit×(List Unit)×(List Zc))):=
 (YP (a2,(s1_1.length:Int),(0:Int),s0_0,s0_1,s0_2,s1_0,s1_1,a0,([]:List ((List UInt8)×(List Zc))))).bind fun o503=>
 (Zk (YQ F) F (o503.1,(o503.1.length:Int),(0:Int),o503.2.1,o503.2.2.1,o503.2.2.2.1,o503.2.2.2.2.1,o503.2.2.2.2.2.1,o503.2.2.2.2.2.2.1,o503.2.2.2.2.2.2.2,([]:List Tx))).bind fun o516=>
 some (o516.2.2.2.2.2.2.2,o516.1,o516.2.1,o516.2.2.1,o516.2.2.2.1,o516.2.2.2.2.1)
def ZeM (F:Nat):Fs Try.prog:=⟨99,[.v (.st []),.ref 0 [],.v (.sl yTx)],[.var (.agg [.v (.int .i64),.v (.int .i64),.rw 1,.iface 79 (.v (.st []))]) true,.row Zb true 36],[(.st []),(.sl yTx),(.int .i64),(.int .i64),(.st []),(.sl (.st [])),(.sl Zb)],[⟨.ret,[(0,.v (.sl yTx))],[.var (.agg [.v (.int .i64),.v (.int .i64),.rw 1,.iface 79 (.v (.st []))]) true,.row Zb true 36],[(.sl yTx),(.int .i64),(.int .i64),(.st []),(.sl (.st [])),(.sl Zb)]⟩],fun x=>WH F x.1 x.2.1 x.2.2.1 x.2.2.2.1 x.2.2.2.2.1 x.2.2.2.2.2.1 x.2.2.2.2.2.2⟩
def QW:Fs Try.prog:=ZeM fuel
theorem ZeN:QW.Ok:=Zn (fi:={ hi:={ own:=[10,33,37,76,79],still:=[6,46,49,52,61,62,64,71]},lp:=[(0,Yq),(1,V8)]}) (specs:={ l:=[]}) (okS trivial) ⟨ZcS,ZcU,trivial⟩ (by decide+kernel) (fun x=>by kernel_rfl)
def ZI (F:Nat) (a1:(List Tx)) (s0_0:Int) (s0_1:Int) (s0_2:Unit) (s1_0:(List Unit)) (s1_1:(List Zc)):Option (((List Tx)×Int×Int×Unit×(List Unit)×(List Zc))):=
 (WH F s0_2 a1 s0_0 s0_1 s0_2 s1_0 s1_1).bind fun o517=>
 some (o517.1,o517.2.1,o517.2.2.1,o517.2.2.2.1,o517.2.2.2.2.1,o517.2.2.2.2.2)
def ZfL (F:Nat):Fs Try.prog:=⟨12,[.ref 0 [],.v (.sl yTx)],[.var (.agg [.v (.int .i64),.v (.int .i64),.rw 1,.iface 79 (.v (.st []))]) true,.row Zb true 36],[(.sl yTx),(.int .i64),(.int .i64),(.st []),(.sl (.st [])),(.sl Zb)],[⟨.ret,[(0,.v (.sl yTx))],[.var (.agg [.v (.int .i64),.v (.int .i64),.rw 1,.iface 79 (.v (.st []))]) true,.row Zb true 36],[(.sl yTx),(.int .i64),(.int .i64),(.st []),(.sl (.st [])),(.sl Zb)]⟩],fun x=>ZI F x.1 x.2.1 x.2.2.1 x.2.2.2.1 x.2.2.2.2.1 x.2.2.2.2.2⟩
def Q8:Fs Try.prog:=ZfL fuel
theorem ZfM:Q8.Ok:=Zn (fi:={ hi:={ still:=[4]},lp:=[]}) (specs:={ l:=[QW],mt:=[(79, "corsned/tower.look",99)]}) (okM ⟨ZeN,trivial⟩ ⟨ZqH,trivial⟩) trivial (by decide+kernel) (fun x=>by kernel_rfl)
def ZJ (F:Nat) (a1:Zc) (a2:Int) (s0_0:Int) (s0_1:Int) (s0_2:Unit) (s1_0:(List Unit)) (s1_1:(List Zc)):Option ((Int×Int×Int×Unit×(List Unit)×(List Zc))⊕(Int×Int×Int×Unit×(List Unit)×(List Zc))):=
 if ((a1.2.length:Int)==0)=true then
  some (.inl ((2:Int),s0_0,s0_1,s0_2,s1_0,s1_1))
 else
 if (decide ((a1.2.length:Int) > 8192))=true then
  some (.inl ((2:Int),s0_0,s0_1,s0_2,s1_0,s1_1))
 else
 if (decide (a2 < s0_0))=true then
  some (.inl ((8:Int),s0_0,s0_1,s0_2,s1_0,s1_1))
 else
 (WL F s1_0 s1_1 a1).bind fun o519=>
 if o519.1=true then
  if (decide (s1_0.length=o519.2.1.length)&&(decide (17=17)&&decide ((List.replicate s1_1.length ()).length=o519.2.2.1.length)))=true then
   some (.inr ((4:Int),s0_0,s0_1,s0_2,o519.2.1,o519.2.2.1))
  else
  none
 else
 if (decide (s1_0.length=o519.2.1.length)&&(decide (17=17)&&decide ((List.replicate s1_1.length ()).length=o519.2.2.1.length)))=true then
  if (decide ((o519.2.2.1.length:Int) ≥ s0_1))=true then
   some (.inr ((3:Int),s0_0,s0_1,s0_2,o519.2.1,o519.2.2.1))
  else
  (Yx F o519.2.2.2.2).bind fun o520=>
  if (apB o519.2.2.1.length 1 40)=true then
   let y521:(List Zc):=o519.2.2.1++([(o519.2.2.2.1,o520)]:List Zc)
   some (.inr ((0:Int),s0_0,s0_1,s0_2,()::o519.2.1,y521))
  else
  none
 else
 none
def ZfN (F:Nat):Fs Try.prog:=⟨10,[.ref 0 [],.v Zb,.v (.int .i64)],[.var (.agg [.v (.int .i64),.v (.int .i64),.rw 1,.iface 79 (.v (.st []))]) true,.row Zb true 36],[Zb,(.int .i64),(.int .i64),(.int .i64),(.st []),(.sl (.st [])),(.sl Zb)],[⟨.ret,[(0,.v (.int .i64))],[.var (.agg [.v (.int .i64),.v (.int .i64),.rw 1,.iface 79 (.v (.st []))]) true,.row Zb true 36],[(.int .i64),(.int .i64),(.int .i64),(.st []),(.sl (.st [])),(.sl Zb)]⟩,⟨.ret,[(0,.v (.int .i64))],[.var (.agg [.v (.int .i64),.v (.int .i64),.rw 1,.iface 79 (.v (.st []))]) true,.row Zb false 36],[(.int .i64),(.int .i64),(.int .i64),(.st []),(.sl (.st [])),(.sl Zb)]⟩],fun x=>ZJ F x.1 x.2.1 x.2.2.1 x.2.2.2.1 x.2.2.2.2.1 x.2.2.2.2.2.1 x.2.2.2.2.2.2⟩
def Q9:Fs Try.prog:=ZfN fuel
theorem ZfO:Q9.Ok:=Zn (fi:={ hi:={ own:=[47,55],still:=[6,29,30,51]},lp:=[],gh:=[(7,.fresh 0 2),(8,.fresh 0 2)]}) (specs:={ l:=[VS,WD]}) (okS ⟨Zbq,X9,trivial⟩) trivial (by decide+kernel) (fun x=>by kernel_rfl)
def ZK (F:Nat) (a1:Int) (s0_0:Int) (s0_1:Int) (s0_2:Unit) (s1_0:(List Unit)) (s1_1:(List Zc)):Option ((Bool×Int×Int×Unit×(List Unit)×(List Zc))):=
 if (decide (a1 < 0))=true then
  some (false,s0_0,s0_1,s0_2,s1_0,s1_1)
 else
 if (decide (a1 ≥ (s1_1.length:Int)))=true then
  some (false,s0_0,s0_1,s0_2,s1_0,s1_1)
 else
 none
def ZfP (F:Nat):Fs Try.prog:=⟨15,[.ref 0 [],.v (.int .i64)],[.var (.agg [.v (.int .i64),.v (.int .i64),.rw 1,.iface 79 (.v (.st []))]) true,.row Zb true 36],[(.int .i64),(.int .i64),(.int .i64),(.st []),(.sl (.st [])),(.sl Zb)],[⟨.ret,[(0,.v .bool)],[.var (.agg [.v (.int .i64),.v (.int .i64),.rw 1,.iface 79 (.v (.st []))]) true,.row Zb true 36],[.bool,(.int .i64),(.int .i64),(.st []),(.sl (.st [])),(.sl Zb)]⟩],fun x=>ZK F x.1 x.2.1 x.2.2.1 x.2.2.2.1 x.2.2.2.2.1 x.2.2.2.2.2⟩
def Zaa:Fs Try.prog:=ZfP fuel
theorem ZfQ:Zaa.Ok:=Zn (fi:={ hi:={ still:=[4,20,22,24],rowt:=[21]},lp:=[]}) (specs:={ l:=[]}) (okS trivial) trivial (by decide+kernel) (fun x=>by kernel_rfl)
def Yr (F:Nat) (a0:Tx) (a1:Tx) (a2:(List UInt8)):Option (Bool):=
 ((some true)).bind fun o288=>
 (Y3 F a0).bind fun o289=>
 if (!o289)=true then
  some o288
 else
 (Y3 F a1).bind fun o290=>
 if (!o290)=true then
  some o288
 else
 (Zem F a1).bind fun o291=>
 if (decide ((o291.length:Int) > 8000))=true then
  some o288
 else
 (Zjm F (0:Int) (3:Int)).bind fun o292=>
 match o292 with
 |.inl o293=>
  some false
 |.inr o294=>
  (Zhq F a0).bind fun o295=>
  (XC F a1 o295).bind fun o296=>
  (Y5 F o296 (0:Int) o294.1 o294.2.1 o294.2.2.1 o294.2.2.2).bind fun o307=>
  if (o307.1 !=0)=true then
   some false
  else
  (Vl F true o307.2.1 o307.2.2.1 o307.2.2.2.1 o307.2.2.2.2).bind fun o308=>
  match o308 with
  |.inl o309=>
   (Yy F ([a0]:List Tx) o309.1 o309.2.1 o309.2.2.1 o309.2.2.2).bind fun o311=>
   (ZF F o296.2).bind fun o312=>
   (YK F a2 o296.1 o312 o311.2.1 o311.2.2.1 o311.2.2.2.1 o311.2.2.2.2).bind fun o315=>
   (Vr F false o315.2.2.1 o315.2.2.2.1 o315.2.2.2.2.1 o315.2.2.2.2.2).bind fun o316=>
   match o316 with
   |.inl o317=>
    (Yy F ([a0]:List Tx) o317.1 o317.2.1 o317.2.2.1 o317.2.2.2).bind fun o318=>
    (Yz F (0:Int) o318.2.1 o318.2.2.1 o318.2.2.2.1 o318.2.2.2.2).bind fun o321=>
    match o321 with
    |.inl o322=>
     if (!o322.1)=true then
      some false
     else
     (Yz F (0:Int) o322.2.1 o322.2.2.1 o322.2.2.2.1 o322.2.2.2.2).bind fun o323=>
     match o323 with
     |.inl o324=>
      if o324.1=true then
       some false
      else
      (Yz F (-1:Int) o324.2.1 o324.2.2.1 o324.2.2.2.1 o324.2.2.2.2).bind fun o325=>
      match o325 with
      |.inl o326=>
       if o326.1=true then
        some false
       else
       (ZF F o296.2).bind fun o327=>
       (YK F a2 o296.1 o327 o326.2.1 o326.2.2.1 o326.2.2.2.1 o326.2.2.2.2).bind fun o328=>
       if o288=true then
        if ((o311.1.length:Int)==0)=true then
         if o315.2.1=true then
          (Zz F QN ([a2]:List (List UInt8))).bind fun o329=>
          if (decide (o315.1=o329))=true then
           if ((o318.1.length:Int)==1)=true then
            if (!o328.2.1)=true then
             (Yy F ([a0]:List Tx) o328.2.2.1 o328.2.2.2.1 o328.2.2.2.2.1 o328.2.2.2.2.2).bind fun o330=>
             if ((o330.1.length:Int)==0)=true then
              (Vc F o296 (0:Int) o330.2.1 o330.2.2.1 o330.2.2.2.1 o330.2.2.2.2).bind fun o333=>
              some (o333.1==0)
             else
             some false
            else
            some false
           else
           some false
          else
          some false
         else
         some false
        else
        some false
       else
       some false
      |.inr o334=>
       if o334.1=true then
        some false
       else
       (ZF F o296.2).bind fun o335=>
       (Z1 F a2 o296.1 o335 o334.2.1 o334.2.2.1 o334.2.2.2.1 o334.2.2.2.2.2.1 o334.2.2.2.2.2.2).bind fun o338=>
       if o288=true then
        if ((o311.1.length:Int)==0)=true then
         if o315.2.1=true then
          (Zz F QN ([a2]:List (List UInt8))).bind fun o339=>
          if (decide (o315.1=o339))=true then
           if ((o318.1.length:Int)==1)=true then
            if (!o338.2.1)=true then
             (Z6 F ([a0]:List Tx) o338.2.2.1 o338.2.2.2.1 o338.2.2.2.2.1 o338.2.2.2.2.2.1 o338.2.2.2.2.2.2).bind fun o341=>
             if ((o341.1.length:Int)==0)=true then
              (Z7 F o296 (0:Int) o341.2.1 o341.2.2.1 o341.2.2.2.1 o341.2.2.2.2.1 o341.2.2.2.2.2).bind fun o346=>
              match o346 with
              |.inl o347=>
               some (o347.1==0)
              |.inr o348=>
               some (o348.1==0)
             else
             some false
            else
            some false
           else
           some false
          else
          some false
         else
         some false
        else
        some false
       else
       some false
     |.inr o349=>
      if o349.1=true then
       some false
      else
      (Z8 F (-1:Int) o349.2.1 o349.2.2.1 o349.2.2.2.1 o349.2.2.2.2.2.1 o349.2.2.2.2.2.2).bind fun o350=>
      if o350.1=true then
       some false
      else
      (ZF F o296.2).bind fun o351=>
      (Z1 F a2 o296.1 o351 o350.2.1 o350.2.2.1 o350.2.2.2.1 o350.2.2.2.2.1 o350.2.2.2.2.2).bind fun o352=>
      if o288=true then
       if ((o311.1.length:Int)==0)=true then
        if o315.2.1=true then
         (Zz F QN ([a2]:List (List UInt8))).bind fun o353=>
         if (decide (o315.1=o353))=true then
          if ((o318.1.length:Int)==1)=true then
           if (!o352.2.1)=true then
            (Z6 F ([a0]:List Tx) o352.2.2.1 o352.2.2.2.1 o352.2.2.2.2.1 o352.2.2.2.2.2.1 o352.2.2.2.2.2.2).bind fun o354=>
            if ((o354.1.length:Int)==0)=true then
             (Z7 F o296 (0:Int) o354.2.1 o354.2.2.1 o354.2.2.2.1 o354.2.2.2.2.1 o354.2.2.2.2.2).bind fun o355=>
             match o355 with
             |.inl o356=>
              some (o356.1==0)
             |.inr o357=>
              some (o357.1==0)
            else
            some false
           else
           some false
          else
          some false
         else
         some false
        else
        some false
       else
       some false
      else
      some false
    |.inr o358=>
     if (!o358.1)=true then
      some false
     else
     (Z8 F (0:Int) o358.2.1 o358.2.2.1 o358.2.2.2.1 o358.2.2.2.2.2.1 o358.2.2.2.2.2.2).bind fun o359=>
     if o359.1=true then
      some false
     else
     (Z8 F (-1:Int) o359.2.1 o359.2.2.1 o359.2.2.2.1 o359.2.2.2.2.1 o359.2.2.2.2.2).bind fun o360=>
     if o360.1=true then
      some false
     else
     (ZF F o296.2).bind fun o361=>
     (Z1 F a2 o296.1 o361 o360.2.1 o360.2.2.1 o360.2.2.2.1 o360.2.2.2.2.1 o360.2.2.2.2.2).bind fun o362=>
     if o288=true then
      if ((o311.1.length:Int)==0)=true then
       if o315.2.1=true then
        (Zz F QN ([a2]:List (List UInt8))).bind fun o363=>
        if (decide (o315.1=o363))=true then
         if ((o318.1.length:Int)==1)=true then
          if (!o362.2.1)=true then
           (Z6 F ([a0]:List Tx) o362.2.2.1 o362.2.2.2.1 o362.2.2.2.2.1 o362.2.2.2.2.2.1 o362.2.2.2.2.2.2).bind fun o364=>
           if ((o364.1.length:Int)==0)=true then
            (Z7 F o296 (0:Int) o364.2.1 o364.2.2.1 o364.2.2.2.1 o364.2.2.2.2.1 o364.2.2.2.2.2).bind fun o365=>
            match o365 with
            |.inl o366=>
             some (o366.1==0)
            |.inr o367=>
             some (o367.1==0)
           else
           some false
          else
          some false
         else
         some false
        else
        some false
       else
       some false
      else
      some false
     else
     some false
   |.inr o368=>
    (ZR F ([a0]:List Tx) o368.1 o368.2.1 o368.2.2.1 o368.2.2.2).bind fun o471=>
    (ZH F (0:Int) o471.2.1 o471.2.2.1 o471.2.2.2.1 o471.2.2.2.2).bind fun o474=>
    match o474 with
    |.inl o475=>
     if (!o475.1)=true then
      some false
     else
     (ZH F (0:Int) o475.2.1 o475.2.2.1 o475.2.2.2.1 o475.2.2.2.2).bind fun o476=>
     match o476 with
     |.inl o477=>
      if o477.1=true then
       some false
      else
      (ZH F (-1:Int) o477.2.1 o477.2.2.1 o477.2.2.2.1 o477.2.2.2.2).bind fun o478=>
      match o478 with
      |.inl o479=>
       if o479.1=true then
        some false
       else
       (ZF F o296.2).bind fun o480=>
       (XF F a2 o296.1 o480 o479.2.1 o479.2.2.1 o479.2.2.2.1 o479.2.2.2.2).bind fun o488=>
       if o288=true then
        if ((o311.1.length:Int)==0)=true then
         if o315.2.1=true then
          (Zz F QN ([a2]:List (List UInt8))).bind fun o489=>
          if (decide (o315.1=o489))=true then
           if ((o471.1.length:Int)==1)=true then
            if (!o488.2.1)=true then
             (ZR F ([a0]:List Tx) o488.2.2.1 o488.2.2.2.1 o488.2.2.2.2.1 o488.2.2.2.2.2).bind fun o490=>
             if ((o490.1.length:Int)==0)=true then
              (Y5 F o296 (0:Int) o490.2.1 o490.2.2.1 o490.2.2.2.1 o490.2.2.2.2).bind fun o491=>
              some (o491.1==0)
             else
             some false
            else
            some false
           else
           some false
          else
          some false
         else
         some false
        else
        some false
       else
       some false
      |.inr o492=>
       if o492.1=true then
        some false
       else
       (ZF F o296.2).bind fun o493=>
       (ZE F a2 o296.1 o493 o492.2.1 o492.2.2.1 o492.2.2.2.1 o492.2.2.2.2.2.1 o492.2.2.2.2.2.2).bind fun o501=>
       if o288=true then
        if ((o311.1.length:Int)==0)=true then
         if o315.2.1=true then
          (Zz F QN ([a2]:List (List UInt8))).bind fun o502=>
          if (decide (o315.1=o502))=true then
           if ((o471.1.length:Int)==1)=true then
            if (!o501.2.1)=true then
             (ZI F ([a0]:List Tx) o501.2.2.1 o501.2.2.2.1 o501.2.2.2.2.1 o501.2.2.2.2.2.1 o501.2.2.2.2.2.2).bind fun o518=>
             if ((o518.1.length:Int)==0)=true then
              (ZJ F o296 (0:Int) o518.2.1 o518.2.2.1 o518.2.2.2.1 o518.2.2.2.2.1 o518.2.2.2.2.2).bind fun o522=>
              match o522 with
              |.inl o523=>
               some (o523.1==0)
              |.inr o524=>
               some (o524.1==0)
             else
             some false
            else
            some false
           else
           some false
          else
          some false
         else
         some false
        else
        some false
       else
       some false
     |.inr o525=>
      if o525.1=true then
       some false
      else
      (ZK F (-1:Int) o525.2.1 o525.2.2.1 o525.2.2.2.1 o525.2.2.2.2.2.1 o525.2.2.2.2.2.2).bind fun o526=>
      if o526.1=true then
       some false
      else
      (ZF F o296.2).bind fun o527=>
      (ZE F a2 o296.1 o527 o526.2.1 o526.2.2.1 o526.2.2.2.1 o526.2.2.2.2.1 o526.2.2.2.2.2).bind fun o528=>
      if o288=true then
       if ((o311.1.length:Int)==0)=true then
        if o315.2.1=true then
         (Zz F QN ([a2]:List (List UInt8))).bind fun o529=>
         if (decide (o315.1=o529))=true then
          if ((o471.1.length:Int)==1)=true then
           if (!o528.2.1)=true then
            (ZI F ([a0]:List Tx) o528.2.2.1 o528.2.2.2.1 o528.2.2.2.2.1 o528.2.2.2.2.2.1 o528.2.2.2.2.2.2).bind fun o530=>
            if ((o530.1.length:Int)==0)=true then
             (ZJ F o296 (0:Int) o530.2.1 o530.2.2.1 o530.2.2.2.1 o530.2.2.2.2.1 o530.2.2.2.2.2).bind fun o531=>
             match o531 with
             |.inl o532=>
              some (o532.1==0)
             |.inr o533=>
              some (o533.1==0)
            else
            some false
           else
           some false
          else
          some false
         else
         some false
        else
        some false
       else
       some false
      else
      some false
    |.inr o534=>
     if (!o534.1)=true then
      some false
     else
     (ZK F (0:Int) o534.2.1 o534.2.2.1 o534.2.2.2.1 o534.2.2.2.2.2.1 o534.2.2.2.2.2.2).bind fun o535=>
     if o535.1=true then
      some false
     else
     (ZK F (-1:Int) o535.2.1 o535.2.2.1 o535.2.2.2.1 o535.2.2.2.2.1 o535.2.2.2.2.2).bind fun o536=>
     if o536.1=true then
      some false
     else
     (ZF F o296.2).bind fun o537=>
     (ZE F a2 o296.1 o537 o536.2.1 o536.2.2.1 o536.2.2.2.1 o536.2.2.2.2.1 o536.2.2.2.2.2).bind fun o538=>
     if o288=true then
      if ((o311.1.length:Int)==0)=true then
       if o315.2.1=true then
        (Zz F QN ([a2]:List (List UInt8))).bind fun o539=>
        if (decide (o315.1=o539))=true then
         if ((o471.1.length:Int)==1)=true then
          if (!o538.2.1)=true then
           (ZI F ([a0]:List Tx) o538.2.2.1 o538.2.2.2.1 o538.2.2.2.2.1 o538.2.2.2.2.2.1 o538.2.2.2.2.2.2).bind fun o540=>
           if ((o540.1.length:Int)==0)=true then
            (ZJ F o296 (0:Int) o540.2.1 o540.2.2.1 o540.2.2.2.1 o540.2.2.2.2.1 o540.2.2.2.2.2).bind fun o541=>
            match o541 with
            |.inl o542=>
             some (o542.1==0)
            |.inr o543=>
             some (o543.1==0)
           else
           some false
          else
          some false
         else
         some false
        else
        some false
       else
       some false
      else
      some false
     else
     some false
  |.inr o544=>
   (ZR F ([a0]:List Tx) o544.1 o544.2.1 o544.2.2.1 o544.2.2.2).bind fun o545=>
   (ZF F o296.2).bind fun o546=>
   (XF F a2 o296.1 o546 o545.2.1 o545.2.2.1 o545.2.2.2.1 o545.2.2.2.2).bind fun o547=>
   (Vl F false o547.2.2.1 o547.2.2.2.1 o547.2.2.2.2.1 o547.2.2.2.2.2).bind fun o548=>
   match o548 with
   |.inl o549=>
    (Yy F ([a0]:List Tx) o549.1 o549.2.1 o549.2.2.1 o549.2.2.2).bind fun o550=>
    (Yz F (0:Int) o550.2.1 o550.2.2.1 o550.2.2.2.1 o550.2.2.2.2).bind fun o551=>
    match o551 with
    |.inl o552=>
     if (!o552.1)=true then
      some false
     else
     (Yz F (0:Int) o552.2.1 o552.2.2.1 o552.2.2.2.1 o552.2.2.2.2).bind fun o553=>
     match o553 with
     |.inl o554=>
      if o554.1=true then
       some false
      else
      (Yz F (-1:Int) o554.2.1 o554.2.2.1 o554.2.2.2.1 o554.2.2.2.2).bind fun o555=>
      match o555 with
      |.inl o556=>
       if o556.1=true then
        some false
       else
       (ZF F o296.2).bind fun o557=>
       (YK F a2 o296.1 o557 o556.2.1 o556.2.2.1 o556.2.2.2.1 o556.2.2.2.2).bind fun o558=>
       if o288=true then
        if ((o545.1.length:Int)==0)=true then
         if o547.2.1=true then
          (Zz F QN ([a2]:List (List UInt8))).bind fun o559=>
          if (decide (o547.1=o559))=true then
           if ((o550.1.length:Int)==1)=true then
            if (!o558.2.1)=true then
             (Yy F ([a0]:List Tx) o558.2.2.1 o558.2.2.2.1 o558.2.2.2.2.1 o558.2.2.2.2.2).bind fun o560=>
             if ((o560.1.length:Int)==0)=true then
              (Vc F o296 (0:Int) o560.2.1 o560.2.2.1 o560.2.2.2.1 o560.2.2.2.2).bind fun o561=>
              some (o561.1==0)
             else
             some false
            else
            some false
           else
           some false
          else
          some false
         else
         some false
        else
        some false
       else
       some false
      |.inr o562=>
       if o562.1=true then
        some false
       else
       (ZF F o296.2).bind fun o563=>
       (Z1 F a2 o296.1 o563 o562.2.1 o562.2.2.1 o562.2.2.2.1 o562.2.2.2.2.2.1 o562.2.2.2.2.2.2).bind fun o564=>
       if o288=true then
        if ((o545.1.length:Int)==0)=true then
         if o547.2.1=true then
          (Zz F QN ([a2]:List (List UInt8))).bind fun o565=>
          if (decide (o547.1=o565))=true then
           if ((o550.1.length:Int)==1)=true then
            if (!o564.2.1)=true then
             (Z6 F ([a0]:List Tx) o564.2.2.1 o564.2.2.2.1 o564.2.2.2.2.1 o564.2.2.2.2.2.1 o564.2.2.2.2.2.2).bind fun o566=>
             if ((o566.1.length:Int)==0)=true then
              (Z7 F o296 (0:Int) o566.2.1 o566.2.2.1 o566.2.2.2.1 o566.2.2.2.2.1 o566.2.2.2.2.2).bind fun o567=>
              match o567 with
              |.inl o568=>
               some (o568.1==0)
              |.inr o569=>
               some (o569.1==0)
             else
             some false
            else
            some false
           else
           some false
          else
          some false
         else
         some false
        else
        some false
       else
       some false
     |.inr o570=>
      if o570.1=true then
       some false
      else
      (Z8 F (-1:Int) o570.2.1 o570.2.2.1 o570.2.2.2.1 o570.2.2.2.2.2.1 o570.2.2.2.2.2.2).bind fun o571=>
      if o571.1=true then
       some false
      else
      (ZF F o296.2).bind fun o572=>
      (Z1 F a2 o296.1 o572 o571.2.1 o571.2.2.1 o571.2.2.2.1 o571.2.2.2.2.1 o571.2.2.2.2.2).bind fun o573=>
      if o288=true then
       if ((o545.1.length:Int)==0)=true then
        if o547.2.1=true then
         (Zz F QN ([a2]:List (List UInt8))).bind fun o574=>
         if (decide (o547.1=o574))=true then
          if ((o550.1.length:Int)==1)=true then
           if (!o573.2.1)=true then
            (Z6 F ([a0]:List Tx) o573.2.2.1 o573.2.2.2.1 o573.2.2.2.2.1 o573.2.2.2.2.2.1 o573.2.2.2.2.2.2).bind fun o575=>
            if ((o575.1.length:Int)==0)=true then
             (Z7 F o296 (0:Int) o575.2.1 o575.2.2.1 o575.2.2.2.1 o575.2.2.2.2.1 o575.2.2.2.2.2).bind fun o576=>
             match o576 with
             |.inl o577=>
              some (o577.1==0)
             |.inr o578=>
              some (o578.1==0)
            else
            some false
           else
           some false
          else
          some false
         else
         some false
        else
        some false
       else
       some false
      else
      some false
    |.inr o579=>
     if (!o579.1)=true then
      some false
     else
     (Z8 F (0:Int) o579.2.1 o579.2.2.1 o579.2.2.2.1 o579.2.2.2.2.2.1 o579.2.2.2.2.2.2).bind fun o580=>
     if o580.1=true then
      some false
     else
     (Z8 F (-1:Int) o580.2.1 o580.2.2.1 o580.2.2.2.1 o580.2.2.2.2.1 o580.2.2.2.2.2).bind fun o581=>
     if o581.1=true then
      some false
     else
     (ZF F o296.2).bind fun o582=>
     (Z1 F a2 o296.1 o582 o581.2.1 o581.2.2.1 o581.2.2.2.1 o581.2.2.2.2.1 o581.2.2.2.2.2).bind fun o583=>
     if o288=true then
      if ((o545.1.length:Int)==0)=true then
       if o547.2.1=true then
        (Zz F QN ([a2]:List (List UInt8))).bind fun o584=>
        if (decide (o547.1=o584))=true then
         if ((o550.1.length:Int)==1)=true then
          if (!o583.2.1)=true then
           (Z6 F ([a0]:List Tx) o583.2.2.1 o583.2.2.2.1 o583.2.2.2.2.1 o583.2.2.2.2.2.1 o583.2.2.2.2.2.2).bind fun o585=>
           if ((o585.1.length:Int)==0)=true then
            (Z7 F o296 (0:Int) o585.2.1 o585.2.2.1 o585.2.2.2.1 o585.2.2.2.2.1 o585.2.2.2.2.2).bind fun o586=>
            match o586 with
            |.inl o587=>
             some (o587.1==0)
            |.inr o588=>
             some (o588.1==0)
           else
           some false
          else
          some false
         else
         some false
        else
        some false
       else
       some false
      else
      some false
     else
     some false
   |.inr o589=>
    (ZR F ([a0]:List Tx) o589.1 o589.2.1 o589.2.2.1 o589.2.2.2).bind fun o590=>
    (ZH F (0:Int) o590.2.1 o590.2.2.1 o590.2.2.2.1 o590.2.2.2.2).bind fun o591=>
    match o591 with
    |.inl o592=>
     if (!o592.1)=true then
      some false
     else
     (ZH F (0:Int) o592.2.1 o592.2.2.1 o592.2.2.2.1 o592.2.2.2.2).bind fun o593=>
     match o593 with
     |.inl o594=>
      if o594.1=true then
       some false
      else
      (ZH F (-1:Int) o594.2.1 o594.2.2.1 o594.2.2.2.1 o594.2.2.2.2).bind fun o595=>
      match o595 with
      |.inl o596=>
       if o596.1=true then
        some false
       else
       (ZF F o296.2).bind fun o597=>
       (XF F a2 o296.1 o597 o596.2.1 o596.2.2.1 o596.2.2.2.1 o596.2.2.2.2).bind fun o598=>
       if o288=true then
        if ((o545.1.length:Int)==0)=true then
         if o547.2.1=true then
          (Zz F QN ([a2]:List (List UInt8))).bind fun o599=>
          if (decide (o547.1=o599))=true then
           if ((o590.1.length:Int)==1)=true then
            if (!o598.2.1)=true then
             (ZR F ([a0]:List Tx) o598.2.2.1 o598.2.2.2.1 o598.2.2.2.2.1 o598.2.2.2.2.2).bind fun o600=>
             if ((o600.1.length:Int)==0)=true then
              (Y5 F o296 (0:Int) o600.2.1 o600.2.2.1 o600.2.2.2.1 o600.2.2.2.2).bind fun o601=>
              some (o601.1==0)
             else
             some false
            else
            some false
           else
           some false
          else
          some false
         else
         some false
        else
        some false
       else
       some false
      |.inr o602=>
       if o602.1=true then
        some false
       else
       (ZF F o296.2).bind fun o603=>
       (ZE F a2 o296.1 o603 o602.2.1 o602.2.2.1 o602.2.2.2.1 o602.2.2.2.2.2.1 o602.2.2.2.2.2.2).bind fun o604=>
       if o288=true then
        if ((o545.1.length:Int)==0)=true then
         if o547.2.1=true then
          (Zz F QN ([a2]:List (List UInt8))).bind fun o605=>
          if (decide (o547.1=o605))=true then
           if ((o590.1.length:Int)==1)=true then
            if (!o604.2.1)=true then
             (ZI F ([a0]:List Tx) o604.2.2.1 o604.2.2.2.1 o604.2.2.2.2.1 o604.2.2.2.2.2.1 o604.2.2.2.2.2.2).bind fun o606=>
             if ((o606.1.length:Int)==0)=true then
              (ZJ F o296 (0:Int) o606.2.1 o606.2.2.1 o606.2.2.2.1 o606.2.2.2.2.1 o606.2.2.2.2.2).bind fun o607=>
              match o607 with
              |.inl o608=>
               some (o608.1==0)
              |.inr o609=>
               some (o609.1==0)
             else
             some false
            else
            some false
           else
           some false
          else
          some false
         else
         some false
        else
        some false
       else
       some false
     |.inr o610=>
      if o610.1=true then
       some false
      else
      (ZK F (-1:Int) o610.2.1 o610.2.2.1 o610.2.2.2.1 o610.2.2.2.2.2.1 o610.2.2.2.2.2.2).bind fun o611=>
      if o611.1=true then
       some false
      else
      (ZF F o296.2).bind fun o612=>
      (ZE F a2 o296.1 o612 o611.2.1 o611.2.2.1 o611.2.2.2.1 o611.2.2.2.2.1 o611.2.2.2.2.2).bind fun o613=>
      if o288=true then
       if ((o545.1.length:Int)==0)=true then
        if o547.2.1=true then
         (Zz F QN ([a2]:List (List UInt8))).bind fun o614=>
         if (decide (o547.1=o614))=true then
          if ((o590.1.length:Int)==1)=true then
           if (!o613.2.1)=true then
            (ZI F ([a0]:List Tx) o613.2.2.1 o613.2.2.2.1 o613.2.2.2.2.1 o613.2.2.2.2.2.1 o613.2.2.2.2.2.2).bind fun o615=>
            if ((o615.1.length:Int)==0)=true then
             (ZJ F o296 (0:Int) o615.2.1 o615.2.2.1 o615.2.2.2.1 o615.2.2.2.2.1 o615.2.2.2.2.2).bind fun o616=>
             match o616 with
             |.inl o617=>
              some (o617.1==0)
             |.inr o618=>
              some (o618.1==0)
            else
            some false
           else
           some false
          else
          some false
         else
         some false
        else
        some false
       else
       some false
      else
      some false
    |.inr o619=>
     if (!o619.1)=true then
      some false
     else
     (ZK F (0:Int) o619.2.1 o619.2.2.1 o619.2.2.2.1 o619.2.2.2.2.2.1 o619.2.2.2.2.2.2).bind fun o620=>
     if o620.1=true then
      some false
     else
     (ZK F (-1:Int) o620.2.1 o620.2.2.1 o620.2.2.2.1 o620.2.2.2.2.1 o620.2.2.2.2.2).bind fun o621=>
     if o621.1=true then
      some false
     else
     (ZF F o296.2).bind fun o622=>
     (ZE F a2 o296.1 o622 o621.2.1 o621.2.2.1 o621.2.2.2.1 o621.2.2.2.2.1 o621.2.2.2.2.2).bind fun o623=>
     if o288=true then
      if ((o545.1.length:Int)==0)=true then
       if o547.2.1=true then
        (Zz F QN ([a2]:List (List UInt8))).bind fun o624=>
        if (decide (o547.1=o624))=true then
         if ((o590.1.length:Int)==1)=true then
          if (!o623.2.1)=true then
           (ZI F ([a0]:List Tx) o623.2.2.1 o623.2.2.2.1 o623.2.2.2.2.1 o623.2.2.2.2.2.1 o623.2.2.2.2.2.2).bind fun o625=>
           if ((o625.1.length:Int)==0)=true then
            (ZJ F o296 (0:Int) o625.2.1 o625.2.2.1 o625.2.2.2.1 o625.2.2.2.2.1 o625.2.2.2.2.2).bind fun o626=>
            match o626 with
            |.inl o627=>
             some (o627.1==0)
            |.inr o628=>
             some (o628.1==0)
           else
           some false
          else
          some false
         else
         some false
        else
        some false
       else
       some false
      else
      some false
     else
     some false
def ZcZ (F:Nat):Fs Try.prog:=⟨3,[.v yTx,.v yTx,.v (.arr 32 .u8)],[],[yTx,yTx,(.arr 32 .u8)],[⟨.ret,[(0,.v .bool)],[],[.bool]⟩],fun x=>Yr F x.1 x.2.1 x.2.2⟩
def ZdY:Fs Try.prog:=ZcZ fuel
theorem Zc0:ZdY.Ok:=Zn (fi:={ hi:={ still:=[6,17,21,26,35,36,37,39,40,43,45,47,50,51,53,55,56,60,62,64,66,70,74,78,79,81,83,84,100,114,116,122,123],frz:=[99]},lp:=[]}) (specs:={ l:=[ZBS,VN,Zjr,Zme,Zna,QI,ZcH,Zdx,ZcI,Zcy,Zbo,ZaU,ZcL,Xx,Q0,QR,Q2,Q3,Q4,Q5,Q6,QU,QV,Q8,Q9,Zaa]}) (okS ⟨ZC1,W0,Zg7,Zkq,ZkP,V4,Zig,ZjB,Zii,ZaS,ZhA,Zgn,Zim,YV,Zfx,ZeB,ZfB,ZfD,ZfF,ZfI,ZfK,ZeJ,ZeL,ZfM,ZfO,ZfQ,trivial⟩) trivial (by decide+kernel) (fun x=>by kernel_rfl)
end
end Go.Proofs.Ytehgcchjaamddaa
end
section
set_option maxRecDepth 4000
namespace Go.Proofs.Ytehgcchjaamddaa
open Go Go.Ev
theorem ZwD {I X:Type} {step:I→Option (I⊕X)} {st:Nat→I} {x:X} (n:Nat) (hs:∀k,k < n→step (st k)=some (.inl (st (k+1)))) (he:step (st n)=some (.inr x)):∀(d k f:Nat),k+d=n→d < f→Zk step f (st k)=some x
 |0,k,f+1,h,_=>by
  have e:k=n:=by omega
  subst e
  unfold Zk
  rw [he,Option.bind_some]
 |d+1,k,f+1,h,hf=>by
  unfold Zk
  rw [hs k (by omega),Option.bind_some]
  exact ZwD n hs he d (k+1) f (by omega) (by omega)
theorem YR {I X:Type} {step:I→Option (I⊕X)} (n:Nat) (st:Nat→I) {x:X} (hs:∀k,k < n→step (st k)=some (.inl (st (k+1)))) (he:step (st n)=some (.inr x)) (hn:n < 18446744073709551616):
 Zk step fuel (st 0)=some x:=ZwD n hs he n 0 fuel (by omega) (by rw [Zkn];exact hn)
theorem ZtY {I X:Type} {step:I→Option (I⊕X)} {Post:X→Prop} (n:Nat) (S:Nat→I→Prop) (hs:∀k s,k < n→S k s→(∃t,step s=some (.inl t)∧S (k+1) t)∨∃x,step s=some (.inr x)∧Post x)
 (he:∀s,S n s→∃x,step s=some (.inr x)∧Post x):∀(d k f:Nat) (s:I),k+d=n→d < f→S k s→∃x,Zk step f s=some x∧Post x
 |0,k,f+1,s,h,_,hS=>by
  have e:k=n:=by omega
  subst e
  obtain ⟨x,h1,h2⟩:=he s hS
  unfold Zk
  rw [h1,Option.bind_some]
  exact ⟨x,rfl,h2⟩
 |d+1,k,f+1,s,h,hf,hS=>by
  unfold Zk
  rcases hs k s (by omega) hS with ⟨t,h1,h2⟩|⟨x,h1,h2⟩
  ·rw [h1,Option.bind_some]
   exact ZtY n S hs he d (k+1) f t (by omega) (by omega) h2
  ·rw [h1,Option.bind_some]
   exact ⟨x,rfl,h2⟩
theorem Zk6 {I X:Type} {step:I→Option (I⊕X)} (n:Nat) (S:Nat→I→Prop) (Post:X→Prop) {i:I} (h0:S 0 i) (hn:n < 18446744073709551616)
 (hs:∀k s,k < n→S k s→(∃t,step s=some (.inl t)∧S (k+1) t)∨∃x,step s=some (.inr x)∧Post x)
 (he:∀s,S n s→∃x,step s=some (.inr x)∧Post x):∃x,Zk step fuel i=some x∧Post x:=ZtY n S hs he n 0 fuel i (by omega) (by rw [Zkn];exact hn) h0
theorem XM {a b:Nat} (h:a < b):decide ((a:Int) < (b:Int))=true:=decide_eq_true (by omega)
theorem YD {a:Nat}:decide ((a:Int) < (a:Int))=false:=decide_eq_false (by omega)
theorem Yf {k:Nat} (h:k < 9223372036854775807):wi ((k:Int)+1)=((k+1:Nat):Int):=by
 rw [Y1 (by omega) (by omega)]
 omega
theorem Xj {α:Type} {l:List α} {k:Nat} {y:α} (h:l[k]? =some y):idx l (k:Int)=some y:=ZbH (by omega) (by simpa using h)
theorem ZqI {α:Type} {ls:List (List α)} {k:Nat} {e:List α} (h:ls[k]? =some e):(ls.take (k+1)).flatten=(ls.take k).flatten++e:=by
 rw [List.take_add_one,h]
 simp
theorem ZwE {α:Type} (ls:List (List α)) (k:Nat):(ls.take k).flatten.length≤ls.flatten.length:=by
 have h:=congrArg (fun l=>(List.flatten l).length) (List.take_append_drop k ls)
 simp only [List.flatten_append,List.length_append] at h
 omega
theorem ZbX {α:Type} {l:List α} {k:Nat} {e:α} (h:l[k]? =some e):l.take (k+1)=l.take k++[e]:=by
 rw [List.take_add_one,h]
 rfl
theorem ZS {α:Type} {l:List α} {k:Nat} (h:k < l.length):∃e,l[k]? =some e∧e∈l:=⟨l[k],List.getElem?_eq_getElem h,List.getElem_mem h⟩
theorem ZqJ {ls:List (List UInt8)} (h:ls.flatten.length≤1000000000) (hn:ls.length≤1000):Yj fuel ls=some ls.flatten:=by
 unfold Yj
 rw [show (ls,(0:Int),ls,(ls.length:Int),(0:Int))=(fun k:Nat=>(ls,((ls.take k).flatten.length:Int),ls,(ls.length:Int),(k:Int))) 0 from rfl,
  YR (x:=(ls,(ls.flatten.length:Int))) ls.length (fun k:Nat=>(ls,((ls.take k).flatten.length:Int),ls,(ls.length:Int),(k:Int))) ?_ ?_ (by omega),Option.bind_some]
 ·have hg:Zol (ls.flatten.length:Int)=some []:=by
   unfold Zol
   rw [if_pos]
   rw [Bool.and_eq_true]
   exact ⟨decide_eq_true (by omega),decide_eq_true (by unfold bytesBound;omega)⟩
  dsimp only
  rw [hg,Option.bind_some,show (ls,(ls.length:Int),(0:Int),([]:List UInt8))=(fun k:Nat=>(ls,(ls.length:Int),(k:Int),(ls.take k).flatten)) 0 from rfl,
   YR (x:=ls.flatten) ls.length (fun k:Nat=>(ls,(ls.length:Int),(k:Int),(ls.take k).flatten)) ?_ ?_ (by omega),Option.bind_some]
  ·intro k hk
   obtain ⟨e,he,_⟩:=ZS hk
   have hf:=ZqI he
   have hl:=ZwE ls (k+1)
   rw [hf,List.length_append] at hl
   unfold Yu
   dsimp only
   rw [if_pos (XM hk),Xj he,Option.bind_some,if_pos (Xt (by omega) (by omega)),Yf (by omega),hf]
  ·unfold Yu
   dsimp only
   rw [if_neg (by rw [YD];decide),List.take_length]
 ·intro k hk
  obtain ⟨e,he,_⟩:=ZS hk
  have hf:=ZqI he
  have hl:=ZwE ls (k+1)
  rw [hf,List.length_append] at hl
  unfold Yt
  dsimp only
  rw [if_pos (XM hk),Xj he,Option.bind_some,Y1 (z:=((ls.take k).flatten.length:Int)+(e.length:Int)) (by omega) (by omega),if_neg (by rw [decide_eq_true_iff];omega),Yf (by omega),hf,List.length_append]
  rfl
 ·unfold Yt
  dsimp only
  rw [if_neg (by rw [YD];decide),List.take_length]
theorem Zsb {a b:List UInt8} (h:a.length+b.length≤1000000000):VO fuel a b=some (a++b):=by
 unfold VO
 rw [ZqJ (by simp;omega) (by simp),Option.bind_some]
 simp
def YX (n:Nat):List UInt8:=if h:n < 128 then [UInt8.ofNat n] else UInt8.ofNat (n % 128+128)::YX (n / 128)
termination_by n
decreasing_by omega
theorem ZfR {n:Nat} (h:n < 128):YX n=[UInt8.ofNat n]:=by rw [YX,dif_pos h]
theorem Zo3 {n:Nat} (h:¬n < 128):YX n=UInt8.ofNat (n % 128+128)::YX (n / 128):=by rw [YX,dif_neg h]
theorem ZwF:∀(j n:Nat),n < 128 ^ (j+1)→(YX n).length≤j+1
 |0,n,h=>by rw [ZfR (by omega)];exact Nat.le_refl _
 |j+1,n,h=>by
  by_cases h0:n < 128
  ·rw [ZfR h0,List.length_singleton];omega
  ·rw [Zo3 h0]
   have:=ZwF j (n / 128) (by rw [Nat.pow_succ] at h;omega)
   simp only [List.length_cons]
   omega
theorem ZD {n:Nat} (h:n≤9223372036854775807):(YX n).length≤9:=ZwF 8 n (by omega)
theorem ZBu (n:Nat):YX n≠[]:=by
 rw [YX]
 split <;> simp
theorem ZzX {n:Nat} (h:n≤9223372036854775807):Zej fuel (n:Int)=some (YX n):=by
 unfold Zej
 refine Exists.elim (Y0 (step:=ZbK fuel) (fun s=>∃m:Nat,s.1=(m:Int)∧m≤n∧s.2++YX m=YX n) (fun s=>s.1.toNat) (fun x=>∃m:Nat,x.1=(m:Int)∧m < 128∧x.2++YX m=YX n) ?_ ((n:Int),([]:List UInt8)) ⟨n,rfl,Nat.le_refl _,rfl⟩ (by dsimp only;omega)) ?_
 ·rintro ⟨_,o⟩ ⟨m,rfl,hm,ho⟩
  unfold ZbK
  dsimp only at ho ⊢
  have hr:=congrArg List.length ho
  have hl:=ZD h
  rw [List.length_append] at hr
  by_cases h1:m < 128
  ·right
   rw [if_neg (by rw [decide_eq_true_iff];omega)]
   exact ⟨_,rfl,m,rfl,h1,ho⟩
  ·left
   rw [if_pos (decide_eq_true (by omega)),if_pos (Xt (by omega) (by omega))]
   have e1:Int.tmod (m:Int) 128=((m % 128:Nat):Int):=rfl
   have e2:Int.tdiv (m:Int) 128=((m / 128:Nat):Int):=rfl
   rw [e1,e2,Y1 (z:=((m % 128:Nat):Int)+128) (by omega) (by omega),Y1 (z:=((m / 128:Nat):Int)) (by omega) (by omega)]
   refine ⟨_,rfl,⟨m / 128,rfl,by omega, ?_⟩,by dsimp only;omega⟩
   dsimp only
   rw [←ho,Zo3 h1,List.append_assoc]
   congr 1
   rw [List.singleton_append]
   congr 1
   unfold w8
   congr 1
   omega
 ·rintro ⟨_,o⟩ ⟨h1,m,rfl,h2,h3⟩
  dsimp only at h3 ⊢
  have hr:=congrArg List.length h3
  have hl:=ZD h
  rw [List.length_append] at hr
  rw [h1,Option.bind_some]
  dsimp only
  rw [if_pos (Xt (by omega) (by omega)), ←h3,ZfR h2]
  congr 3
  unfold w8
  congr 1
  omega
theorem ZcV {b:List UInt8} {z:Int} (h0:0≤z) (h:z≤9223372036854775807) (hb:b.length≤1000000):Y4 fuel b z=some (b++YX z.toNat):=by
 obtain ⟨n,rfl⟩:=Int.eq_ofNat_of_zero_le h0
 have:=ZD (n:=n) (by omega)
 unfold Y4
 rw [if_neg (by rw [decide_eq_true_iff];omega),ZzX (by omega),Option.bind_some,Zsb (by omega),Option.bind_some,Int.toNat_natCast]
theorem Zvq {b h:List UInt8} (hb:b.length≤1000000) (hh:h.length≤1000000):Zav fuel b h=some (b++h):=by
 unfold Zav
 rw [Zsb (by omega),Option.bind_some]
theorem ZtZ {b c:List UInt8} (hb:b.length≤1000000) (hc:c.length≤1000000):Qy fuel b c=some (b++(YX c.length++c)):=by
 have:=ZD (n:=c.length) (by omega)
 unfold Qy
 rw [ZzX (by omega),Option.bind_some,ZqJ (by simp;omega) (by simp),Option.bind_some]
 simp
end Go.Proofs.Ytehgcchjaamddaa
end
section
set_option maxRecDepth 4000
namespace Go.Proofs.Ytehgcchjaamddaa
open Go Go.Ev
def Zk7 (l:List UInt8) (n k:Nat):List UInt8:=l.take k++List.replicate (n - k) 0
theorem ZxR {l:List UInt8} {n k:Nat} (h:k < l.length) (h2:l.length≤n):(Zk7 l n k)[k]? =some 0:=by
 unfold Zk7
 have h3:(l.take k).length=k:=by simp;omega
 rw [List.getElem?_append_right (by omega),h3,List.getElem?_replicate]
 simp
 omega
theorem ZxS {l:List UInt8} {n k:Nat} {d:UInt8} (hx:l[k]? =some d) (h2:l.length≤n):(Zk7 l n k).set k d=Zk7 l n (k+1):=by
 have h:k < l.length:=(List.getElem?_eq_some_iff.1 hx).1
 have h3:(l.take k).length=k:=by simp;omega
 unfold Zk7
 rw [ZbX hx,List.set_append_right _ _ (by omega),h3,Nat.sub_self]
 have e:n - k=(n - (k+1))+1:=by omega
 rw [e,List.replicate_succ]
 simp
theorem ZxT {l:List UInt8} {n:Nat} (h:l.length=n):Zk7 l n n=l:=by
 unfold Zk7
 rw [←h]
 simp
def ZhK (n:Nat):List UInt8:=(List.range 8).map fun i=>UInt8.ofNat (n / 2 ^ (56 - 8*i))
theorem YE (n:Nat):(ZhK n).length=8:=by simp [ZhK]
theorem Zt0 (n:Nat) {k:Nat} (hk:k < 8):(ZhK n)[k]? =some (UInt8.ofNat (n / 2 ^ (56 - 8*k))):=by simp [ZhK,hk]
theorem ZzY (x:UInt64) {m:Nat}:w8 ((Yi x m).toNat:Int)=UInt8.ofNat (x.toNat / 2 ^ m):=by
 unfold w8 Yi
 have h:x.toNat / 2 ^ m < 18446744073709551616:=Nat.lt_of_le_of_lt (Nat.div_le_self ..) (UInt64.toNat_lt _)
 rw [UInt64.toNat_ofNat',Nat.mod_eq_of_lt h]
 apply UInt8.toNat_inj.1
 rw [UInt8.toNat_ofNat',UInt8.toNat_ofNat']
 omega
theorem ZeO {b:List UInt8} (x:UInt64) (hb:b.length≤1000000):XU fuel b x=some (b++ZhK x.toNat):=by
 unfold XU
 rw [show (b,x,(0:Int),([0,0,0,0,0,0,0,0]:List UInt8))=(fun k:Nat=>(b,x,(k:Int),Zk7 (ZhK x.toNat) 8 k)) 0 from rfl,
  YR (x:=(b,ZhK x.toNat)) 8 (fun k:Nat=>(b,x,(k:Int),Zk7 (ZhK x.toNat) 8 k)) ?_ ?_ (by omega),Option.bind_some]
 ·dsimp only
  rw [Zsb (by rw [YE];omega),Option.bind_some]
 ·intro k hk
  unfold VG
  dsimp only
  have hl:=YE x.toNat
  rw [if_pos (decide_eq_true (by omega)),Y1 (z:=8*(k:Int)) (by omega) (by omega),Y1 (z:=56 - 8*(k:Int)) (by omega) (by omega),if_pos (decide_eq_true (by omega)),if_pos (WG (by omega) (by omega)),
   Int.toNat_natCast,ZxR (by omega) (by omega),Option.bind_some,Yf (by omega)]
  have e:min (56 - 8*(k:Int)).toNat 64=56 - 8*k:=by omega
  rw [e,ZzY,ZxS (Zt0 _ hk) (by omega)]
 ·unfold VG
  dsimp only
  rw [if_neg (by simp),ZxT (YE _)]
def beF (l:List UInt8):Nat→Nat
 |0=>0
 |k+1=>beF l k*256+((l[k]?).map UInt8.toNat).getD 0
theorem ZzZ (l:List UInt8):∀k,beF l k < 256 ^ k
 |0=>by simp [beF]
 |k+1=>by
  have:=ZzZ l k
  have h:((l[k]?).map UInt8.toNat).getD 0 < 256:=by
   cases l[k]? with
   |none=>simp
   |some d=>exact d.toNat_lt
  rw [beF,Nat.pow_succ]
  omega
theorem ZwG (n:Nat):∀k,k≤8→n < 18446744073709551616→beF (ZhK n) k=n / 2 ^ (64 - 8*k)
 |0,_,h=>by rw [beF,Nat.div_eq_of_lt (by omega)]
 |k+1,hk,h=>by
  rw [beF,ZwG n k (by omega) h,Zt0 n (by omega)]
  have e:(64 - 8*k)=(56 - 8*k)+8:=by omega
  have e2:64 - 8*(k+1)=56 - 8*k:=by omega
  rw [e,e2,Nat.pow_add, ←Nat.div_div_eq_div_mul]
  simp
  omega
def Zbw (r:Zf) (n:Nat):List UInt8×Zf:=if r.2=true∨r.1.length < n then ([],([],true)) else (r.1.take n,(r.1.drop n,r.2))
theorem Zsc {n:Nat} {z:Int} (h0:0≤z) (h:z≤(n:Int)):Vu n (some z) none=true:=by simp [Vu,h0,h]
theorem Zsd {n:Nat} {z:Int} (h0:0≤z) (h:z≤(n:Int)):Vu n none (some z)=true:=by simp [Vu,h0,h]
theorem Zt1 {l:List UInt8} (h:l.length≤1000000000):ZO fuel l=some l:=by
 unfold ZO
 rw [if_pos (Xt (by omega) (by omega))]
theorem Zse {z:Int} {r:Zf} (h0:0≤z) (h:r.1.length≤1000000):Y7 fuel z r=some (Zbw r z.toNat):=by
 obtain ⟨b,no⟩:=r
 obtain ⟨n,rfl⟩:=Int.eq_ofNat_of_zero_le h0
 unfold Y7 Zbw XV
 dsimp only at h ⊢
 rw [Int.toNat_natCast]
 by_cases h1:no=true
 ·rw [if_pos h1,Option.bind_some,if_pos (.inl h1)]
 by_cases h2:b.length < n
 ·rw [if_neg h1,if_pos (decide_eq_true (by omega)),Option.bind_some,if_pos (.inr h2)]
 rw [if_neg h1,if_neg (by rw [decide_eq_true_iff];omega),if_pos (Zsd (by omega) (by omega)),Zt1 (by rw [List.length_take];omega),Option.bind_some,if_pos (Zsc (by omega) (by omega)),if_neg (by rintro (h|h);exact h1 h;exact h2 h)]
theorem ZqK (r:Zf) (n:Nat):(Zbw r n).1.length≤n∧(Zbw r n).2.1.length≤r.1.length:=by
 unfold Zbw
 split
 ·simp
 ·simp;omega
theorem Zo4 {b r:List UInt8} {n:Nat} (h:b.length=n):Zbw (b++r,false) n=(b,(r,false)):=by
 subst h
 unfold Zbw
 rw [if_neg (by simp)]
 simp
def ZwH (r:Zf):List UInt8×Zf:=((Zbw r 32).1++List.replicate (32 - (Zbw r 32).1.length) 0,(Zbw r 32).2)
theorem Zz0 {r:Zf} (h:r.1.length≤1000000):WM fuel r=some (ZwH r):=by
 unfold WM ZwH
 rw [Zse (by omega) h,Option.bind_some]
 have hl:=ZqK r 32
 rw [show (32:Int).toNat=32 from rfl,if_pos (by rw [Bool.and_eq_true];exact ⟨decide_eq_true hl.1,rfl⟩)]
 generalize (Zbw r 32).1=l at hl
 rw [List.take_zero,List.nil_append,show ([0,0,0,0,0,0,0,0,0,0,0,0,0,0,0,0,0,0,0,0,0,0,0,0,0,0,0,0,0,0,0,0]:List UInt8)=List.replicate 32 0 from rfl,List.drop_replicate,Nat.zero_add]
theorem Zz1 {b r:List UInt8} (h:b.length=32):ZwH (b++r,false)=(b,(r,false)):=by
 unfold ZwH
 rw [Zo4 h,h]
 simp
def ZBv (r:Zf):UInt64×Zf:=(UInt64.ofNat (beF (Zbw r 8).1 (Zbw r 8).1.length),(Zbw r 8).2)
theorem Zz2 {l:List UInt8} {k:Nat} {d:UInt8} (hk:k < 8) (hx:l[k]? =some d):(Zbj (UInt64.ofNat (beF l k)) 8)|||(UInt64.ofNat d.toNat)=UInt64.ofNat (beF l (k+1)):=by
 have h1:=ZzZ l k
 have h2:256 ^ k≤256 ^ 7:=Nat.pow_le_pow_right (by omega) (by omega)
 have h3:=d.toNat_lt
 apply UInt64.toNat_inj.1
 unfold Zbj
 rw [UInt64.toNat_or,UInt64.toNat_ofNat',UInt64.toNat_ofNat',UInt64.toNat_ofNat',UInt64.toNat_ofNat',Nat.mod_eq_of_lt (a:=beF l k) (by omega),Nat.mod_eq_of_lt (a:=d.toNat) (by omega),Nat.mod_eq_of_lt (a:=beF l k*2 ^ 8) (by omega),beF,hx,
  Nat.mul_comm (beF l k) (2 ^ 8), ←Nat.two_pow_add_eq_or_of_lt (by omega)]
 simp
 omega
theorem Zk8 {r:Zf} (h:r.1.length≤1000000):Yp fuel r=some (ZBv r):=by
 unfold Yp ZBv
 rw [Zse (by omega) h,Option.bind_some]
 have hl:=ZqK r 8
 rw [show (8:Int).toNat=8 from rfl]
 generalize Zbw r 8=q at hl
 obtain ⟨l,s⟩:=q
 dsimp only at hl ⊢
 rw [show ((0:UInt64),l,(l.length:Int),(0:Int),s)=(fun k:Nat=>(UInt64.ofNat (beF l k),l,(l.length:Int),(k:Int),s)) 0 from rfl,
  YR (x:=(UInt64.ofNat (beF l l.length),s)) l.length (fun k:Nat=>(UInt64.ofNat (beF l k),l,(l.length:Int),(k:Int),s)) ?_ ?_ (by omega),Option.bind_some]
 ·intro k hk
  obtain ⟨e,he,_⟩:=ZS hk
  unfold X1
  dsimp only
  rw [if_pos (XM hk),Xj he,Option.bind_some,Zz2 (by omega) he,Yf (by omega)]
 ·unfold X1
  dsimp only
  rw [if_neg (by rw [YD];decide)]
theorem Zk9 (x:UInt64) (r:List UInt8):ZBv (ZhK x.toNat++r,false)=(x,(r,false)):=by
 unfold ZBv
 rw [Zo4 (YE _),YE]
 dsimp only
 rw [ZwG _ 8 (by omega) (UInt64.toNat_lt _)]
 simp
def Wh (b:List UInt8):Nat→Nat→Nat→Bool×Nat×Nat
 |0,k,_=>(false,0,k)
 |f+1,k,n=>match b[k]? with
  |none=>(false,0,k)
  |some d=>if 8 < k∨(0 < k∧d.toNat=0) then (false,0,k) else if d.toNat < 128 then (true,n+d.toNat % 128*128 ^ k,k+1) else Wh b f (k+1) (n+d.toNat % 128*128 ^ k)
theorem ZjH {b:List UInt8} {f k n:Nat} (h:b.length≤k):Wh b (f+1) k n=(false,0,k):=by
 simp [Wh,List.getElem?_eq_none h]
theorem ZlQ {b:List UInt8} {f k n:Nat} {d:UInt8} (hx:b[k]? =some d) (h:8 < k):Wh b (f+1) k n=(false,0,k):=by
 simp [Wh,hx,h]
theorem ZfS {b:List UInt8} {f k n:Nat} {d:UInt8} (hx:b[k]? =some d) (_:¬8 < k) (h:0 < k∧d.toNat=0):Wh b (f+1) k n=(false,0,k):=by
 rw [Wh,hx]
 exact if_pos (.inr h)
theorem ZfT {b:List UInt8} {f k n:Nat} {d:UInt8} (hx:b[k]? =some d) (h2:¬8 < k) (h3:¬(0 < k∧d.toNat=0)) (h4:d.toNat < 128):Wh b (f+1) k n=(true,n+d.toNat % 128*128 ^ k,k+1):=by
 rw [Wh,hx]
 show (if 8 < k∨(0 < k∧d.toNat=0) then _ else _)=_
 rw [if_neg (by rintro (h|h);exact h2 h;exact h3 h),if_pos h4]
theorem ZfU {b:List UInt8} {f k n:Nat} {d:UInt8} (hx:b[k]? =some d) (h2:¬8 < k) (h3:¬(0 < k∧d.toNat=0)) (h4:¬d.toNat < 128):Wh b (f+1) k n=Wh b f (k+1) (n+d.toNat % 128*128 ^ k):=by
 rw [Wh,hx]
 show (if 8 < k∨(0 < k∧d.toNat=0) then _ else _)=_
 rw [if_neg (by rintro (h|h);exact h2 h;exact h3 h),if_neg h4]
theorem Zt2 (n k:Nat) (d:UInt8) (hn:n < 128 ^ k) (hk:k≤8):n+d.toNat % 128*128 ^ k < 9223372036854775808:=by
 have h1:d.toNat % 128*128 ^ k≤127*128 ^ k:=Nat.mul_le_mul_right _ (by omega)
 have h2:128 ^ (k+1)≤128 ^ 9:=Nat.pow_le_pow_right (by omega) (by omega)
 rw [Nat.pow_succ] at h2
 omega
theorem ZqL (n k:Nat) (d:UInt8) (hn:n < 128 ^ k):n+d.toNat % 128*128 ^ k < 128 ^ (k+1):=by
 have h1:d.toNat % 128*128 ^ k≤127*128 ^ k:=Nat.mul_le_mul_right _ (by omega)
 rw [Nat.pow_succ]
 omega
theorem Zt3 (b:List UInt8):∀(f k n:Nat),(Wh b f k n).1=true→(Wh b f k n).2.2≤b.length
 |0,k,n,h=>by simp [Wh] at h
 |f+1,k,n,h=>by
  by_cases h1:b.length≤k
  ·rw [ZjH h1] at h;cases h
  have hx:=List.getElem?_eq_getElem (Nat.lt_of_not_le h1)
  by_cases h2:8 < k
  ·rw [ZlQ hx h2] at h;cases h
  by_cases h3:0 < k∧b[k].toNat=0
  ·rw [ZfS hx h2 h3] at h;cases h
  by_cases h4:b[k].toNat < 128
  ·rw [ZfT hx h2 h3 h4];simp;omega
  ·rw [ZfU hx h2 h3 h4] at h ⊢
   exact Zt3 b f _ _ h
theorem Zt4 (b:List UInt8):∀(f k n:Nat),n < 128 ^ k→k≤9→(Wh b f k n).2.1≤9223372036854775807
 |0,k,n,h,_=>by simp [Wh]
 |f+1,k,n,h,hk=>by
  by_cases h1:b.length≤k
  ·rw [ZjH h1];simp
  have hx:=List.getElem?_eq_getElem (Nat.lt_of_not_le h1)
  by_cases h2:8 < k
  ·rw [ZlQ hx h2];simp
  by_cases h3:0 < k∧b[k].toNat=0
  ·rw [ZfS hx h2 h3];simp
  by_cases h4:b[k].toNat < 128
  ·rw [ZfT hx h2 h3 h4]
   have:=Zt2 n k b[k] h (by omega)
   show n+b[k].toNat % 128*128 ^ k≤_
   omega
  ·rw [ZfU hx h2 h3 h4]
   exact Zt4 b f _ _ (ZqL n k _ h) (by omega)
theorem ZwI {a:List UInt8} {k:Nat} {x:UInt8} {r:List UInt8} (h:a.length=k):(a++x::r)[k]? =some x:=by
 rw [List.getElem?_append_right (by omega),h,Nat.sub_self];rfl
theorem Zla {n:Nat} (h:n < 256):(UInt8.ofNat n).toNat=n:=by simp [Nat.mod_eq_of_lt h]
theorem ZqM:∀(f n:Nat) (pre rest:List UInt8) (k acc:Nat),pre.length=k→k+(YX n).length≤9→(YX n).length≤f→(0 < k→0 < n)→
 Wh (pre++(YX n++rest)) f k acc=(true,acc+n*128 ^ k,k+(YX n).length)
 |0,n,pre,rest,k,acc,_,_,hf,_=>by
  have:=List.length_pos_iff.2 (ZBu n);omega
 |f+1,n,pre,rest,k,acc,hp,hk,hf,h0=>by
  by_cases h:n < 128
  ·rw [ZfR h] at hk ⊢
   have hx:(pre++([UInt8.ofNat n]++rest))[k]? =some (UInt8.ofNat n):=ZwI hp
   have e:(UInt8.ofNat n).toNat=n:=Zla (by omega)
   simp at hk
   rw [ZfT hx (by omega) (by rw [e];omega) (by rw [e];exact h),e,Nat.mod_eq_of_lt h]
   rfl
  ·rw [Zo3 h] at hk hf ⊢
   have hx:(pre++((UInt8.ofNat (n % 128+128)::YX (n / 128))++rest))[k]? =some (UInt8.ofNat (n % 128+128)):=ZwI hp
   have e:(UInt8.ofNat (n % 128+128)).toNat=n % 128+128:=Zla (by omega)
   simp only [List.length_cons] at hk hf ⊢
   rw [ZfU hx (by omega) (by rw [e];omega) (by rw [e];omega),e]
   have:=ZqM f (n / 128) (pre++[UInt8.ofNat (n % 128+128)]) rest (k+1) (acc+(n % 128+128) % 128*128 ^ k) (by simp [hp]) (by omega) (by omega) (by omega)
   rw [List.append_assoc] at this
   simp only [List.cons_append,List.nil_append] at this ⊢
   rw [this]
   have e2:n=n % 128+128*(n / 128):=by omega
   have e3:(n % 128+128) % 128=n % 128:=by omega
   rw [e3,Nat.pow_succ]
   refine Prod.ext rfl (Prod.ext ?_ (by simp;omega))
   show acc+n % 128*128 ^ k+n / 128*(128 ^ k*128)=acc+n*128 ^ k
   rw [show n / 128*(128 ^ k*128)=128*(n / 128)*128 ^ k by rw [Nat.mul_comm (128 ^ k) 128, ←Nat.mul_assoc,Nat.mul_comm (n / 128) 128],Nat.add_assoc, ←Nat.add_mul, ←e2]
def Zgu (r:Zf):Int×Zf:=if (Wh r.1 10 0 0).1=true then (((Wh r.1 10 0 0).2.1:Int),(r.1.drop (Wh r.1 10 0 0).2.2,r.2)) else (0,([],true))
theorem ZaF {z:Int} (h0:0≤z) (hz:z≤9223372036854775807) (rest:List UInt8):Zgu (YX z.toNat++rest,false)=(z,(rest,false)):=by
 obtain ⟨n,rfl⟩:=Int.eq_ofNat_of_zero_le h0
 have hl:=ZD (n:=n) (by omega)
 have:=ZqM 10 n [] rest 0 0 rfl (by omega) (by omega) (by omega)
 simp only [List.nil_append,Nat.zero_add,Nat.pow_zero,Nat.mul_one] at this
 unfold Zgu
 rw [Int.toNat_natCast]
 dsimp only
 rw [this]
 simp
theorem Zz3 (r:Zf):0≤(Zgu r).1∧(Zgu r).1≤9223372036854775807∧(Zgu r).2.1.length≤r.1.length:=by
 unfold Zgu
 split
 ·have:=Zt4 r.1 10 0 0 (by omega) (by omega)
  refine ⟨by dsimp only;omega,by dsimp only;omega, ?_⟩
  rw [List.length_drop]
  omega
 ·simp
theorem Zz4 {n k:Nat} {d:UInt8} (hn:n < 128 ^ k) (hk:k≤8):bits .or .i64 (n:Int) (wi (((d % 128).toNat:Int)*2 ^ (min (wi (7*(k:Int))).toNat 64)))=((n+d.toNat % 128*128 ^ k:Nat):Int):=by
 have e0:(wi (7*(k:Int)))=((7*k:Nat):Int):=by rw [Y1 (by omega) (by omega)];omega
 have e1:min ((7*k:Nat):Int).toNat 64=7*k:=by omega
 have e2:128 ^ k=2 ^ (7*k):=by rw [Nat.pow_mul]
 have h1:=Zt2 n k d hn hk
 have e3:((d % 128).toNat:Int)*2 ^ (7*k)=((d.toNat % 128*128 ^ k:Nat):Int):=by
  rw [e2,UInt8.toNat_mod]
  push_cast
  rfl
 rw [e0,e1,e3,Y1 (by omega) (by omega)]
 refine Go.Ev.Zni (op:=.or) (k:=.i64) ?_ (by omega) ⟨by show -9223372036854775808≤_;omega,by show _≤9223372036854775807;omega⟩ (by omega) ⟨by show -9223372036854775808≤_;omega,by show _≤9223372036854775807;omega⟩ ⟨by show -9223372036854775808≤_;omega,by show _≤9223372036854775807;omega⟩
 show some _=some _
 congr 1
 simp only [Int.toNat_natCast]
 rw [e2] at hn ⊢
 have:=Nat.two_pow_add_eq_or_of_lt hn (d.toNat % 128)
 rw [Nat.mul_comm,Nat.or_comm, ←this]
 omega
theorem Zlb {b:List UInt8} {no:Bool} {k:Nat} (hb:b.length≤1000000) (h:b.length≤k∨8 < k∨(0 < k∧b[k]? =some 0)):YL fuel (k:Int) (b,no)=some (true,(k:Int),(b,no)):=by
 unfold YL
 dsimp only
 by_cases h1:b.length≤k
 ·rw [if_pos (decide_eq_true (by omega))]
 rw [if_neg (by rw [decide_eq_true_iff];omega)]
 by_cases h2:8 < k
 ·rw [if_pos (decide_eq_true (by omega))]
 rw [if_neg (by rw [decide_eq_true_iff];omega)]
 rcases h with h|h|⟨h,h3⟩
 ·exact absurd h h1
 ·exact absurd h h2
 rw [if_pos (decide_eq_true (by omega)),Xj h3,Option.bind_some]
 rfl
theorem ZxU {b:List UInt8} {no:Bool} {k:Nat} {d:UInt8} (hb:b.length≤1000000) (hx:b[k]? =some d) (h2:¬8 < k) (h3:¬(0 < k∧d.toNat=0)):YL fuel (k:Int) (b,no)=some (false,(k:Int),(b,no)):=by
 unfold YL
 have h1:k < b.length:=(List.getElem?_eq_some_iff.1 hx).1
 dsimp only
 rw [if_neg (by rw [decide_eq_true_iff];omega),if_neg (by rw [decide_eq_true_iff];omega)]
 by_cases h4:0 < k
 ·rw [if_pos (decide_eq_true (by omega)),Xj hx,Option.bind_some]
  have:(d==0)=false:=by
   rw [beq_eq_false_iff_ne]
   intro h
   exact h3 ⟨h4,by rw [h];rfl⟩
  rw [this]
 ·rw [if_neg (by rw [decide_eq_true_iff];omega)]
theorem Zt5 {b:List UInt8} {no:Bool} (hb:b.length≤1000000):∀(f k n m:Nat),k+f=10→f < m→n < 128 ^ k→
 Zk (Xe fuel) m ((n:Int),(b,no),(k:Int))=some (if (Wh b f k n).1=true then .inr (((Wh b f k n).2.1:Int),(b,no),((Wh b f k n).2.2:Int)) else .inl ((0:Int),([],true),((Wh b f k n).2.2:Int)))
 |f,k,n,0,_,h,_=>by omega
 |0,k,n,m+1,h,_,_=>by
  unfold Zk Xe
  dsimp only
  rw [Zlb hb (.inr (.inl (by omega))),Option.bind_some]
  rfl
 |f+1,k,n,m+1,h,hf,hn=>by
  unfold Zk Xe
  dsimp only
  by_cases h1:b.length≤k
  ·rw [ZjH h1,Zlb hb (.inl h1),Option.bind_some]
   rfl
  obtain ⟨d,hx,_⟩:=ZS (l:=b) (k:=k) (by omega)
  by_cases h2:8 < k
  ·rw [ZlQ hx h2,Zlb hb (.inr (.inl h2)),Option.bind_some]
   rfl
  by_cases h3:0 < k∧d.toNat=0
  ·rw [ZfS hx h2 h3,Zlb hb (.inr (.inr ⟨h3.1,by rw [hx,show d=0 from UInt8.toNat_inj.1 h3.2]⟩)),Option.bind_some]
   rfl
  rw [ZxU hb hx h2 h3,Option.bind_some]
  dsimp only
  rw [if_neg (by decide),Xj hx,Option.bind_some,Zz4 hn (by omega),
   if_pos (decide_eq_true (by rw [Y1 (by omega) (by omega)];omega)),Yf (by omega)]
  have hlt:decide (d < 128)=decide (d.toNat < 128):=by
   rw [Bool.eq_iff_iff,decide_eq_true_iff,decide_eq_true_iff,UInt8.lt_iff_toNat_lt]
   rfl
  rw [hlt]
  by_cases h4:d.toNat < 128
  ·rw [ZfT hx h2 h3 h4,if_pos (decide_eq_true h4)]
   rfl
  ·rw [ZfU hx h2 h3 h4,if_neg (by rw [decide_eq_true_iff];exact h4)]
   exact Zt5 hb f (k+1) _ m (by omega) (by omega) (ZqL n k d hn)
theorem ZdZ {r:Zf} (h:r.1.length≤1000000):ZB fuel r=some (Zgu r):=by
 obtain ⟨b,no⟩:=r
 unfold ZB Zgu
 dsimp only at h ⊢
 have:=Zt5 (no:=no) h 10 0 0 fuel (by omega) (by rw [Zkn];omega) (by omega)
 rw [show ((0:Nat):Int)=0 from rfl] at this
 rw [this,Option.bind_some]
 by_cases hg:(Wh b 10 0 0).1=true
 ·have hl:=Zt3 b 10 0 0 hg
  rw [if_pos hg,if_pos hg]
  dsimp only
  rw [if_pos (Zsc (by omega) (by omega)),Int.toNat_natCast]
 ·rw [if_neg hg,if_neg hg]
def Zsf (r:Zf):List UInt8×Zf:=if (Zgu r).2.2=true then ([],(Zgu r).2) else Zbw (Zgu r).2 (Zgu r).1.toNat
theorem Zz5 {r:Zf} (h:r.1.length≤1000000):Wt fuel r=some (Zsf r):=by
 unfold Wt Zsf
 have hl:=Zz3 r
 rw [ZdZ h,Option.bind_some]
 by_cases h1:(Zgu r).2.2=true
 ·rw [if_pos h1,if_pos h1]
 ·rw [if_neg h1,if_neg h1,Zse hl.1 (by omega),Option.bind_some]
theorem ZxV {c:List UInt8} (hc:c.length≤1000000) (rest:List UInt8):Zsf (YX c.length++(c++rest),false)=(c,(rest,false)):=by
 unfold Zsf
 have:=ZaF (z:=(c.length:Int)) (by omega) (by omega) (c++rest)
 rw [Int.toNat_natCast] at this
 rw [this,if_neg (by simp),Int.toNat_natCast,Zo4 rfl]
theorem ZwJ {b:List UInt8} (h:b.length≤1000000):ZcM fuel b=some (b,false):=by
 unfold ZcM
 rw [Zt1 (by omega),Option.bind_some]
end Go.Proofs.Ytehgcchjaamddaa
end
section
set_option maxRecDepth 4000
namespace Go.Proofs.Ytehgcchjaamddaa
open Go Go.Ev
theorem ZwK (a m:UInt64):(a - a / m*m).toNat=a.toNat % m.toNat:=by
 have h1:a.toNat / m.toNat*m.toNat≤a.toNat:=Nat.div_mul_le_self _ _
 have h2:=UInt64.toNat_lt a
 have h3:(a / m*m).toNat=a.toNat / m.toNat*m.toNat:=by
  rw [UInt64.toNat_mul,UInt64.toNat_div,Nat.mod_eq_of_lt (by omega)]
 have h4:(a / m*m)≤a:=by rw [UInt64.le_iff_toNat_le,h3];exact h1
 rw [UInt64.toNat_sub_of_le _ _ h4,h3]
 have:=Nat.div_add_mod a.toNat m.toNat
 rw [Nat.mul_comm] at this
 omega
theorem Zt6 {r y:UInt64} (hr:r.toNat < 4294967296) (hy:y.toNat < 4294967296) (h:¬(r+y ≥ 4294967296)):(r+y).toNat=r.toNat+y.toNat∧(r+y).toNat < 4294967296:=by
 have e:(r+y).toNat=r.toNat+y.toNat:=by
  rw [UInt64.toNat_add,Nat.mod_eq_of_lt (by omega)]
 refine ⟨e, ?_⟩
 rw [ge_iff_le,UInt64.le_iff_toNat_le] at h
 exact Nat.lt_of_not_le h
theorem ZC2 {yn1:UInt64} (h1:2147483648≤yn1.toNat) (h2:yn1.toNat < 4294967296) (i) (hi:i.2.2.1=yn1) (hr:i.2.2.2.2.2.2.2.2.toNat < 4294967296):∃x,Zk (WX fuel) fuel i=some x∧x.2.2.1=yn1:=by
 refine Y0 (step:=WX fuel) (fun s=>s.2.2.1=yn1∧s.2.2.2.2.2.2.2.2.toNat < 4294967296) (fun s=>4294967296 - s.2.2.2.2.2.2.2.2.toNat) (fun x=>x.2.2.1=yn1) ?_ i ⟨hi,hr⟩ (by omega)
 rintro ⟨a,b,c,d,e,f,g,q,r⟩ ⟨k1,k2⟩
 dsimp only at k1 k2
 subst k1
 unfold WX
 dsimp only
 have key:(∃j,(if decide (r+c ≥ 4294967296)=true then some (Sum.inr (a,b,c,d,e,f,g,q - 1)) else some (Sum.inl (a,b,c,d,e,f,g,q - 1,r+c)):Option ((UInt64×UInt64×UInt64×UInt64×UInt64×UInt64×UInt64×UInt64×UInt64)⊕(UInt64×UInt64×UInt64×UInt64×UInt64×UInt64×UInt64×UInt64)))=some (.inl j)∧(j.2.2.1=c∧j.2.2.2.2.2.2.2.2.toNat < 4294967296)∧4294967296 - j.2.2.2.2.2.2.2.2.toNat < 4294967296 - r.toNat)∨
  (∃x,(if decide (r+c ≥ 4294967296)=true then some (Sum.inr (a,b,c,d,e,f,g,q - 1)) else some (Sum.inl (a,b,c,d,e,f,g,q - 1,r+c)):Option ((UInt64×UInt64×UInt64×UInt64×UInt64×UInt64×UInt64×UInt64×UInt64)⊕(UInt64×UInt64×UInt64×UInt64×UInt64×UInt64×UInt64×UInt64)))=some (.inr x)∧x.2.2.1=c):=by
  by_cases h:r+c ≥ 4294967296
  ·right
   rw [if_pos (decide_eq_true h)]
   exact ⟨_,rfl,rfl⟩
  ·left
   rw [if_neg (by rw [decide_eq_true_iff];exact h)]
   obtain ⟨m1,m2⟩:=Zt6 k2 h2 h
   exact ⟨_,rfl,⟨rfl,m2⟩,by dsimp only;omega⟩
 split
 ·exact key
 ·split
  ·exact key
  ·right
   exact ⟨_,rfl,rfl⟩
theorem ZC3 {yn1:UInt64} (h1:2147483648≤yn1.toNat) (h2:yn1.toNat < 4294967296) (i) (hi:i.2.2.1=yn1) (hr:i.2.2.2.2.2.2.1.toNat < 4294967296):∃x,Zk (WY fuel) fuel i=some x∧True:=by
 refine Y0 (step:=WY fuel) (fun s=>s.2.2.1=yn1∧s.2.2.2.2.2.2.1.toNat < 4294967296) (fun s=>4294967296 - s.2.2.2.2.2.2.1.toNat) (fun _=>True) ?_ i ⟨hi,hr⟩ (by omega)
 rintro ⟨a,b,c,d,e,f,r,g,q⟩ ⟨k1,k2⟩
 dsimp only at k1 k2
 subst k1
 unfold WY
 dsimp only
 have key:(∃j,(if decide (r+c ≥ 4294967296)=true then some (Sum.inr (a,b,e,f,g,q - 1)) else some (Sum.inl (a,b,c,d,e,f,r+c,g,q - 1)):Option ((UInt64×UInt64×UInt64×UInt64×UInt64×UInt64×UInt64×UInt64×UInt64)⊕(UInt64×UInt64×UInt64×UInt64×UInt64×UInt64)))=some (.inl j)∧(j.2.2.1=c∧j.2.2.2.2.2.2.1.toNat < 4294967296)∧4294967296 - j.2.2.2.2.2.2.1.toNat < 4294967296 - r.toNat)∨
  (∃x,(if decide (r+c ≥ 4294967296)=true then some (Sum.inr (a,b,e,f,g,q - 1)) else some (Sum.inl (a,b,c,d,e,f,r+c,g,q - 1)):Option ((UInt64×UInt64×UInt64×UInt64×UInt64×UInt64×UInt64×UInt64×UInt64)⊕(UInt64×UInt64×UInt64×UInt64×UInt64×UInt64)))=some (.inr x)∧True):=by
  by_cases h:r+c ≥ 4294967296
  ·right
   rw [if_pos (decide_eq_true h)]
   exact ⟨_,rfl,trivial⟩
  ·left
   rw [if_neg (by rw [decide_eq_true_iff];exact h)]
   obtain ⟨m1,m2⟩:=Zt6 k2 h2 h
   exact ⟨_,rfl,⟨rfl,m2⟩,by dsimp only;omega⟩
 split
 ·exact key
 ·split
  ·exact key
  ·right
   exact ⟨_,rfl,trivial⟩
theorem ZC4:WW fuel 4611686018427377339=some 2:=by kernel_rfl
theorem ZBw {a b:UInt64} (h:a.toNat < 4611686018427377339):∃o,Zdl fuel a b 4611686018427377339=some o:=by
 unfold Zdl
 rw [if_neg (by decide),if_neg (by rw [decide_eq_true_iff,UInt64.le_iff_toNat_le];exact Nat.not_le.2 h)]
 split
 ·rw [if_pos (by decide),if_pos (by decide)]
  exact ⟨_,rfl⟩
 rw [ZC4,Option.bind_some]
 dsimp only
 have e1:(Zbj 4611686018427377339 (min ((w64 2).toNat:Int).toNat 64))=18446744073709509356:=by kernel_rfl
 have e2:Yi 18446744073709509356 32=(4294967295:UInt64):=by kernel_rfl
 rw [e1,e2,if_pos (by decide)]
 generalize ((Zbj a (min ((w64 2).toNat:Int).toNat 64))|||_:UInt64)=u
 obtain ⟨x,x1,x2⟩:=ZC2 (yn1:=4294967295) (by decide) (by decide) (18446744073709509356,w64 2,4294967295,18446744073709509356&&&4294967295,u,Yi (Zbj b (min ((w64 2).toNat:Int).toNat 64)) 32,(Zbj b (min ((w64 2).toNat:Int).toNat 64))&&&4294967295,u / 4294967295,u - u / 4294967295*4294967295) rfl (by
  dsimp only
  rw [ZwK]
  exact Nat.lt_trans (Nat.mod_lt _ (by decide)) (by decide))
 rw [x1,Option.bind_some,x2,if_pos (by decide)]
 generalize (x.2.2.2.2.1*4294967296+x.2.2.2.2.2.1 - x.2.2.2.2.2.2.2*x.1:UInt64)=v
 obtain ⟨z,z1,_⟩:=ZC3 (yn1:=4294967295) (by decide) (by decide) (x.1,x.2.1,4294967295,x.2.2.2.1,x.2.2.2.2.2.2.1,x.2.2.2.2.2.2.2,v - v / 4294967295*4294967295,v,v / 4294967295) rfl (by
  dsimp only
  rw [ZwK]
  exact Nat.lt_trans (Nat.mod_lt _ (by decide)) (by decide))
 rw [z1,Option.bind_some]
 exact ⟨_,rfl⟩
theorem ZBx (a b:UInt64):∃o,Zdm fuel a b 4611686018427377339=some o:=by
 unfold Zdm
 obtain ⟨o,h⟩:=ZBw (a:=a % 4611686018427377339) (b:=b) (by
  rw [UInt64.toNat_mod]
  exact Nat.mod_lt _ (by decide))
 rw [if_pos (by decide),h,Option.bind_some]
 exact ⟨_,rfl⟩
theorem ZqN (a b:UInt64):∃o,Vi fuel a b=some o:=by
 unfold Vi
 obtain ⟨q,hq⟩:∃q,ZgT fuel a b=some q:=⟨_,rfl⟩
 obtain ⟨o,h⟩:=ZBx q.1 q.2
 rw [hq,Option.bind_some,h,Option.bind_some]
 exact ⟨_,rfl⟩
theorem ZxW (a n:UInt64):∃o,Qt fuel a n=some o:=by
 unfold Qt
 obtain ⟨x,h1,_⟩:=Y0 (step:=VF fuel) (fun _=>True) (fun s=>s.2.1.toNat) (fun _=>True) (by
  rintro ⟨a,n,o⟩ _
  unfold VF
  dsimp only
  by_cases h:n > 0
  ·left
   have hn:(Yi n 1).toNat < n.toNat:=by
    unfold Yi
    have h0:0 < n.toNat:=UInt64.lt_iff_toNat_lt.1 h
    rw [UInt64.toNat_ofNat']
    have:=UInt64.toNat_lt n
    omega
   obtain ⟨p,hp⟩:=ZqN o a
   obtain ⟨q,hq⟩:=ZqN a a
   rw [if_pos (decide_eq_true h),hp,hq,Option.bind_some,Option.bind_some]
   split
   ·exact ⟨_,rfl,trivial,hn⟩
   ·exact ⟨_,rfl,trivial,hn⟩
  ·right
   rw [if_neg (by rw [decide_eq_true_iff];exact h)]
   exact ⟨_,rfl,trivial⟩) (a,n,(1:UInt64)) trivial (UInt64.toNat_lt _)
 rw [h1,Option.bind_some]
 exact ⟨_,rfl⟩
theorem ZxX (p:UInt64):∃b,Qu fuel p=some b:=by
 unfold Qu
 split
 ·split
  ·obtain ⟨o,h⟩:=ZxW p 2305843009213688669
   rw [h,Option.bind_some]
   exact ⟨_,rfl⟩
  ·exact ⟨_,rfl⟩
 ·exact ⟨_,rfl⟩
theorem ZwL (p:UInt64):∃b,Vv fuel p=some b:=by
 unfold Vv
 obtain ⟨o,h⟩:=ZxX p
 rw [h,Option.bind_some]
 exact ⟨_,rfl⟩
theorem Zvr {l:List UInt64} (hl:l.length≤9223372036854775807):∃b,Zfd fuel l=some b:=by
 unfold Zfd ZdJ
 obtain ⟨x,h1,_⟩:=Zk6 (step:=X5 fuel) l.length (fun k s=>s=(l,(l.length:Int),(k:Int))) (fun _=>True) (i:=(l,(l.length:Int),(0:Int))) rfl (by omega) (by
  rintro k _ hk rfl
  obtain ⟨e,he,_⟩:=ZS hk
  obtain ⟨b,hb⟩:=ZwL e
  unfold X5
  dsimp only
  rw [if_pos (XM hk),Xj he,Option.bind_some,hb,Option.bind_some,Yf (by omega)]
  cases b with
  |true=>right;exact ⟨_,rfl,trivial⟩
  |false=>left;exact ⟨_,rfl,rfl⟩) (by
  rintro _ rfl
  unfold X5
  dsimp only
  rw [if_neg (by rw [YD];decide)]
  exact ⟨_,rfl,trivial⟩)
 rw [h1,Option.bind_some]
 cases x with
 |inl y=>exact ⟨_,rfl⟩
 |inr y=>exact ⟨_,rfl⟩
def ZjI (l:XZ):Prop:=l.length≤9223372036854775807∧∀b,b∈l→b.1.length≤9223372036854775807
def Zo5 (l:XZ):Prop:=0 < l.length∧l.length≤4∧∀b,b∈l→b.1.length≤12∧0≤b.2.1∧b.2.1≤1048576∧0≤b.2.2.1∧b.2.2.1≤1048576
theorem ZmF (z:Int):∃b,Qv fuel z=some b∧(b=true→0≤z∧z≤1048576):=by
 unfold Qv
 by_cases h:z ≥ 0
 ·rw [if_pos (decide_eq_true h)]
  exact ⟨_,rfl,fun h2=>⟨h,of_decide_eq_true h2⟩⟩
 ·rw [if_neg (by rw [decide_eq_true_iff];exact h)]
  exact ⟨_,rfl,fun h2=>by cases h2⟩
theorem Zo6 {l:XZ} (hl:ZjI l):∃b,Xl fuel l=some b∧(b=true→Zo5 l):=by
 unfold Xl
 obtain ⟨h0,h1⟩:=hl
 obtain ⟨x,hx,hp⟩:=Zk6 (step:=WZ fuel) l.length (fun k s=>s=(l,(l.length:Int),(k:Int),l)∧∀j b,j < k→l[j]? =some b→b.1.length≤12∧0≤b.2.1∧b.2.1≤1048576∧0≤b.2.2.1∧b.2.2.1≤1048576)
  (fun x=>x=.inl (false,l)∨(x=.inr l∧∀b,b∈l→b.1.length≤12∧0≤b.2.1∧b.2.1≤1048576∧0≤b.2.2.1∧b.2.2.1≤1048576)) (i:=(l,(l.length:Int),(0:Int),l)) ⟨rfl,fun j b hj=>by omega⟩ (by omega) (by
  rintro k _ hk ⟨rfl,hj⟩
  obtain ⟨e,he,hm⟩:=ZS hk
  have hnext:(e.1.length≤12∧0≤e.2.1∧e.2.1≤1048576∧0≤e.2.2.1∧e.2.2.1≤1048576)→∀j b,j < k+1→l[j]? =some b→b.1.length≤12∧0≤b.2.1∧b.2.1≤1048576∧0≤b.2.2.1∧b.2.2.1≤1048576:=by
   intro hE j b h2 h3
   by_cases h4:j < k
   ·exact hj j b h4 h3
   ·have:j=k:=by omega
    subst this
    rw [he] at h3
    cases h3
    exact hE
  unfold WZ
  dsimp only
  rw [if_pos (XM hk),Xj he,Option.bind_some]
  by_cases k1:(e.1.length:Int) > 12
  ·right
   rw [if_pos (decide_eq_true k1)]
   exact ⟨_,rfl,.inl rfl⟩
  rw [if_neg (by rw [decide_eq_true_iff];exact k1)]
  obtain ⟨b,hb⟩:=Zvr (h1 e hm)
  rw [hb,Option.bind_some]
  cases b with
  |true=>right;exact ⟨_,rfl,.inl rfl⟩
  |false=>
   obtain ⟨c,hc,hc2⟩:=ZmF e.2.1
   obtain ⟨d,hd,hd2⟩:=ZmF e.2.2.1
   rw [if_neg (by decide),hc,Option.bind_some,hd,Option.bind_some]
   cases c with
   |false=>right;exact ⟨_,rfl,.inl rfl⟩
   |true=>
    cases d with
    |false=>right;exact ⟨_,rfl,.inl rfl⟩
    |true=>
     have hn:=hnext ⟨by omega,(hc2 rfl).1,(hc2 rfl).2,(hd2 rfl).1,(hd2 rfl).2⟩
     rw [if_neg (by decide),if_neg (by decide),Yf (by omega)]
     split
     ·obtain ⟨f,hf⟩:=ZwL e.2.2.2
      rw [hf,Option.bind_some]
      cases f with
      |true=>right;exact ⟨_,rfl,.inl rfl⟩
      |false=>left;exact ⟨_,rfl,rfl,hn⟩
     ·left;exact ⟨_,rfl,rfl,hn⟩) (by
  rintro _ ⟨rfl,hj⟩
  unfold WZ
  dsimp only
  rw [if_neg (by rw [YD];decide)]
  refine ⟨_,rfl,.inr ⟨rfl,fun b hb=> ?_⟩⟩
  obtain ⟨j,hj1,hj2⟩:=List.getElem_of_mem hb
  exact hj j b hj1 (by rw [List.getElem?_eq_getElem hj1,hj2]))
 rw [hx,Option.bind_some]
 rcases hp with rfl|⟨rfl,hp⟩
 ·exact ⟨_,rfl,fun h=>by cases h⟩
 ·dsimp only
  by_cases h2:(l.length:Int) > 0
  ·rw [if_pos (decide_eq_true h2)]
   refine ⟨_,rfl,fun h3=>⟨by omega, ?_,hp⟩⟩
   have:=of_decide_eq_true h3
   omega
  ·rw [if_neg (by rw [decide_eq_true_iff];exact h2)]
   exact ⟨_,rfl,fun h=>by cases h⟩
def Zsg (t:Tx):Prop:=(∀o,o∈t.2.1→ZjI o.2)∧(∀x,x∈t.1→x.1.1.length=32)∧t.2.2≤9223372036854775807
def Zsh (x:In):Prop:=0≤x.1.2∧x.1.2 < 64∧0≤x.2.1∧x.2.1 < 4∧x.2.2.1.length≤12
def Zo7 (o:Out):Prop:=0≤o.1∧o.1≤1125899906842624∧Xl fuel o.2=some true
def Zz6 (t:Tx):Prop:=0 < t.1.length∧t.1.length≤64∧t.2.1.length≤64∧0≤t.2.2∧(∀x,x∈t.1→Zsh x)∧∀o,o∈t.2.1→Zo7 o
theorem Zsi (w:Zkr):∃b,ZaO fuel w=some b∧(b=true→0≤w.1∧w.1 < 4∧w.2.1.length≤12):=by
 unfold ZaO
 by_cases h:w.1 ≥ 0
 ·rw [if_pos (decide_eq_true h)]
  by_cases h2:w.1 < 4
  ·rw [if_pos (decide_eq_true h2)]
   exact ⟨_,rfl,fun h3=>⟨h,h2,by have:=of_decide_eq_true h3;omega⟩⟩
  ·rw [if_neg (by rw [decide_eq_true_iff];exact h2)]
   exact ⟨_,rfl,fun h2=>by cases h2⟩
 ·rw [if_neg (by rw [decide_eq_true_iff];exact h)]
  exact ⟨_,rfl,fun h2=>by cases h2⟩
theorem Zo8 (z:Int):∃b,Zcm fuel z=some b∧(b=true→0≤z∧z≤1125899906842624):=by
 unfold Zcm
 by_cases h:z ≥ 0
 ·rw [if_pos (decide_eq_true h)]
  exact ⟨_,rfl,fun h2=>⟨h,of_decide_eq_true h2⟩⟩
 ·rw [if_neg (by rw [decide_eq_true_iff];exact h)]
  exact ⟨_,rfl,fun h2=>by cases h2⟩
theorem Zz7 (a b:Int):∃r,Zku fuel a b=some r∧(r.2=true→0≤b∧b≤1125899906842624):=by
 unfold Zku
 obtain ⟨c,hc,_⟩:=Zo8 a
 obtain ⟨d,hd,hd2⟩:=Zo8 b
 rw [hc,Option.bind_some,hd,Option.bind_some]
 cases c with
 |false=>exact ⟨_,rfl,fun h=>by cases h⟩
 |true=>
  rw [if_neg (by decide)]
  cases d with
  |false=>exact ⟨_,rfl,fun h=>by cases h⟩
  |true=>
   rw [if_neg (by decide)]
   split
   ·exact ⟨_,rfl,fun h=>by cases h⟩
   ·exact ⟨_,rfl,fun _=>hd2 rfl⟩
theorem Zo9 {t:Tx} (hw:Zsg t):∃b,Y3 fuel t=some b∧(b=true→Zz6 t):=by
 obtain ⟨ins,ZW,note⟩:=t
 unfold Y3
 dsimp only
 have hw:∀o,o∈ZW→ZjI o.2:=hw.1
 by_cases h1:(ins.length:Int) < 1
 ·rw [if_pos (decide_eq_true h1)]
  exact ⟨_,rfl,fun h=>by cases h⟩
 rw [if_neg (by rw [decide_eq_true_iff];exact h1)]
 by_cases h2:(ins.length:Int) > 64
 ·rw [if_pos (decide_eq_true h2)]
  exact ⟨_,rfl,fun h=>by cases h⟩
 rw [if_neg (by rw [decide_eq_true_iff];exact h2)]
 by_cases h3:(ZW.length:Int) > 64
 ·rw [if_pos (decide_eq_true h3)]
  exact ⟨_,rfl,fun h=>by cases h⟩
 rw [if_neg (by rw [decide_eq_true_iff];exact h3)]
 by_cases h4:note < 0
 ·rw [if_pos (decide_eq_true h4)]
  exact ⟨_,rfl,fun h=>by cases h⟩
 rw [if_neg (by rw [decide_eq_true_iff];exact h4)]
 obtain ⟨x,hx,hp⟩:=Zk6 (step:=Qw fuel) ins.length (fun k s=>(∃m,s=(ins,(ins.length:Int),(k:Int),(ins,ZW,note),m))∧∀j x,j < k→ins[j]? =some x→Zsh x)
  (fun x=>(∃m,x=.inl (false,(ins,ZW,note),m))∨((∃m,x=.inr ((ins,ZW,note),m))∧∀x,x∈ins→Zsh x)) (i:=(ins,(ins.length:Int),(0:Int),(ins,ZW,note),([]:List (YT×Bool)))) ⟨⟨_,rfl⟩,fun j b hj=>by omega⟩ (by omega) (by
  rintro k _ hk ⟨⟨m,rfl⟩,hj⟩
  obtain ⟨e,he,hm⟩:=ZS hk
  have hnext:Zsh e→∀j b,j < k+1→ins[j]? =some b→Zsh b:=by
   intro hE j b h2 h3
   by_cases h4:j < k
   ·exact hj j b h4 h3
   ·have:j=k:=by omega
    subst this
    rw [he] at h3
    cases h3
    exact hE
  unfold Qw
  dsimp only
  rw [if_pos (XM hk),Xj he,Option.bind_some]
  obtain ⟨w,hw1,hw2⟩:=Zsi e.2
  generalize Zd9 m e.1=mo
  unfold Zl6
  rcases mo with _|b
  rotate_left
  ·dsimp only
   split
   ·right;exact ⟨_,rfl,.inl ⟨_,rfl⟩⟩
   by_cases k1:e.1.2 < 0
   ·right
    rw [if_pos (decide_eq_true k1)]
    exact ⟨_,rfl,.inl ⟨_,rfl⟩⟩
   rw [if_neg (by rw [decide_eq_true_iff];exact k1)]
   by_cases k2:e.1.2 ≥ 64
   ·right
    rw [if_pos (decide_eq_true k2)]
    exact ⟨_,rfl,.inl ⟨_,rfl⟩⟩
   rw [if_neg (by rw [decide_eq_true_iff];exact k2),hw1,Option.bind_some]
   cases w with
   |false=>right;exact ⟨_,rfl,.inl ⟨_,rfl⟩⟩
   |true=>
    left
    rw [Yf (by omega)]
    exact ⟨_,rfl,⟨_,rfl⟩,hnext ⟨by omega,by omega,hw2 rfl⟩⟩
  ·by_cases k1:e.1.2 < 0
   ·right
    rw [if_pos (decide_eq_true k1)]
    exact ⟨_,rfl,.inl ⟨_,rfl⟩⟩
   rw [if_neg (by rw [decide_eq_true_iff];exact k1)]
   by_cases k2:e.1.2 ≥ 64
   ·right
    rw [if_pos (decide_eq_true k2)]
    exact ⟨_,rfl,.inl ⟨_,rfl⟩⟩
   rw [if_neg (by rw [decide_eq_true_iff];exact k2),hw1,Option.bind_some]
   cases w with
   |false=>right;exact ⟨_,rfl,.inl ⟨_,rfl⟩⟩
   |true=>
    left
    rw [Yf (by omega)]
    exact ⟨_,rfl,⟨_,rfl⟩,hnext ⟨by omega,by omega,hw2 rfl⟩⟩) (by
  rintro _ ⟨⟨m,rfl⟩,hj⟩
  unfold Qw
  dsimp only
  rw [if_neg (by rw [YD];decide)]
  refine ⟨_,rfl,.inr ⟨⟨_,rfl⟩,fun b hb=> ?_⟩⟩
  obtain ⟨j,hj1,hj2⟩:=List.getElem_of_mem hb
  exact hj j b hj1 (by rw [List.getElem?_eq_getElem hj1,hj2]))
 rw [hx,Option.bind_some]
 rcases hp with ⟨m,rfl⟩|⟨⟨m,rfl⟩,hp⟩
 ·exact ⟨_,rfl,fun h=>by cases h⟩
 dsimp only
 obtain ⟨y,hy,hq⟩:=Zk6 (step:=Qx fuel) ZW.length (fun k s=>(∃z,s=(z,ZW,(ZW.length:Int),(k:Int),(ins,ZW,note),m))∧∀j x,j < k→ZW[j]? =some x→Zo7 x)
  (fun x=>x=.inl (false,(ins,ZW,note),m)∨(x=.inr ((ins,ZW,note),m)∧∀x,x∈ZW→Zo7 x)) (i:=((0:Int),ZW,(ZW.length:Int),(0:Int),(ins,ZW,note),m)) ⟨⟨_,rfl⟩,fun j b hj=>by omega⟩ (by omega) (by
  rintro k _ hk ⟨⟨z,rfl⟩,hj⟩
  obtain ⟨e,he,hm⟩:=ZS hk
  have hnext:Zo7 e→∀j b,j < k+1→ZW[j]? =some b→Zo7 b:=by
   intro hE j b h2 h3
   by_cases h4:j < k
   ·exact hj j b h4 h3
   ·have:j=k:=by omega
    subst this
    rw [he] at h3
    cases h3
    exact hE
  unfold Qx
  dsimp only
  obtain ⟨r,hr1,hr2⟩:=Zz7 z e.1
  obtain ⟨w,hw1,hw2⟩:=Zo6 (hw e hm)
  rw [if_pos (XM hk),Xj he,Option.bind_some,hr1,Option.bind_some,hw1,Option.bind_some]
  obtain ⟨r1,r2⟩:=r
  cases r2 with
  |false=>right;exact ⟨_,rfl,.inl rfl⟩
  |true=>
   cases w with
   |false=>right;exact ⟨_,rfl,.inl rfl⟩
   |true=>
    left
    rw [Yf (by omega)]
    exact ⟨_,rfl,⟨_,rfl⟩,hnext ⟨(hr2 rfl).1,(hr2 rfl).2,hw1⟩⟩) (by
  rintro _ ⟨⟨z,rfl⟩,hj⟩
  unfold Qx
  dsimp only
  rw [if_neg (by rw [YD];decide)]
  refine ⟨_,rfl,.inr ⟨rfl,fun b hb=> ?_⟩⟩
  obtain ⟨j,hj1,hj2⟩:=List.getElem_of_mem hb
  exact hj j b hj1 (by rw [List.getElem?_eq_getElem hj1,hj2]))
 rw [hy,Option.bind_some]
 rcases hq with rfl|⟨rfl,hq⟩
 ·exact ⟨_,rfl,fun h=>by cases h⟩
 ·exact ⟨_,rfl,fun _=>⟨by dsimp only;omega,by dsimp only;omega,by dsimp only;omega,by dsimp only;omega,hp,hq⟩⟩
end Go.Proofs.Ytehgcchjaamddaa
end
section
set_option maxRecDepth 4000
namespace Go.Proofs.Ytehgcchjaamddaa
open Go Go.Ev
theorem Zt7 {n:Nat} {b:List UInt8} (h:b.length≤1000000):∃o,XX fuel (n:Int) b=some o∧o.length=b.length+8:=
 ⟨_,ZwB (by omega),by rw [List.length_append];rfl⟩
theorem ZwM {l:List UInt8} (h:l.length≤900000):∃o,ZF fuel l=some o∧o.length=32:=⟨_,ZBs (by omega),Sha.ZDz l⟩
theorem Zh7 {s:ByteArray} {ls:List (List UInt8)} (h1:s.size≤100) (h2:ls.length≤10) (h3:∀l,l∈ls→l.length≤60000):∃o,Zz fuel s ls=some o∧o.length=32:=by
 unfold Zz
 obtain ⟨o,p1,p2⟩:=Zt7 (n:=s.size) (b:=[]) (by simp)
 have hsl:(Zia s).length=s.size:=by
  unfold Zia
  rw [Array.length_toList]
  rfl
 rw [p1,Option.bind_some,if_pos (Xt (by rw [hsl,p2];simp;omega) (by rw [hsl,p2];simp;omega))]
 refine Exists.elim (Y0 (step:=ZbT fuel) (fun x=>x.1=ls∧x.2.1=(ls.length:Int)∧0≤x.2.2.1∧x.2.2.1≤(ls.length:Int)∧x.2.2.2.2.length≤200+60100*x.2.2.1.toNat) (fun x=>((ls.length:Int) - x.2.2.1).toNat) (fun x=>x.2.length≤700000) ?_ (ls,(ls.length:Int),(0:Int),([0,0,0,0,0,0,0,0,0,0,0,0,0,0,0,0,0,0,0,0,0,0,0,0,0,0,0,0,0,0,0,0]:List UInt8),o++Zia s) ⟨rfl,rfl,Int.le_refl _,by dsimp only;omega,by dsimp only;rw [List.length_append,p2,hsl];simp;omega⟩ (by dsimp only;omega)) ?_
 rotate_left
 ·rintro q ⟨q1,q2⟩
  rw [q1,Option.bind_some]
  obtain ⟨r,r1,r2⟩:=ZwM (l:=q.2) (by omega)
  rw [r1,Option.bind_some]
  exact ⟨_,rfl,r2⟩
 ·rintro ⟨a,n,i,c,d⟩ ⟨k1,k2,k3,k4,k5⟩
  dsimp only at k1 k2 k3 k4 k5
  subst k1
  subst k2
  unfold ZbT
  dsimp only
  by_cases hi:i < (a.length:Int)
  ·left
   obtain ⟨e,he⟩:=Qq (l:=a) (i:=i.toNat) (by omega)
   have hel:=h3 e (List.mem_of_getElem? he)
   obtain ⟨x,x1,x2⟩:=Zt7 (n:=e.length) (b:=d) (by omega)
   rw [if_pos (decide_eq_true hi),ZbH k3 he,Option.bind_some,x1,Option.bind_some,if_pos (Xt (by omega) (by omega)),Y1 (z:=i+1) (by omega) (by omega)]
   exact ⟨_,rfl,⟨rfl,rfl,by dsimp only;omega,by dsimp only;omega,by dsimp only;rw [List.length_append];omega⟩,by dsimp only;omega⟩
  ·right
   rw [if_neg (by simpa using hi)]
   exact ⟨_,rfl,by dsimp only;omega⟩
end Go.Proofs.Ytehgcchjaamddaa
end
section
set_option maxRecDepth 4000
namespace Go.Proofs.Ytehgcchjaamddaa
open Go Go.Ev
def cat {α:Type} (f:α→List UInt8) (l:List α):List UInt8:=(l.map f).flatten
theorem ZeP {α:Type} {f:α→List UInt8} {l:List α} {k:Nat} {e:α} (h:l[k]? =some e):cat f (l.take (k+1))=cat f (l.take k)++f e:=by
 unfold cat
 rw [ZbX h,List.map_append,List.flatten_append]
 simp
theorem Zpa {α:Type} {f:α→List UInt8} {l:List α} {e:α}:cat f (e::l)=f e++cat f l:=rfl
theorem Zsj {α:Type} {f:α→List UInt8} {c:Nat}:∀{l:List α},(∀x,x∈l→(f x).length≤c)→(cat f l).length≤l.length*c
 |[],_=>by simp [cat]
 |e::l,h=>by
  have h1:=h e (List.mem_cons_self ..)
  have h2:=Zsj (l:=l) fun x hx=>h x (List.mem_cons_of_mem _ hx)
  rw [Zpa,List.length_append,List.length_cons,Nat.succ_mul]
  omega
theorem Za4 {α:Type} {f:α→List UInt8} {c n:Nat} {l:List α} (h:∀x,x∈l→(f x).length≤c) (hn:l.length≤n) (k:Nat):(cat f (l.take k)).length≤n*c:=by
 refine Nat.le_trans (Zsj fun x hx=>h x (List.mem_of_mem_take hx)) (Nat.mul_le_mul_right c ?_)
 rw [List.length_take]
 omega
def Zpb (p:UInt64):List UInt8:=ZhK p.toNat
def brF (b:Ye):List UInt8:=YX b.1.length++(cat Zpb b.1++(YX b.2.1.toNat++(YX b.2.2.1.toNat++ZhK b.2.2.2.toNat)))
def ZhL (l:XZ):List UInt8:=YX l.length++cat brF l
theorem Zpc {l:List UInt64} (h:l.length≤12) (k:Nat):(cat Zpb (l.take k)).length≤96:=Za4 (c:=8) (fun x _=>Nat.le_of_eq (YE _)) h k
theorem Zsk {b:Ye} (h:b.1.length≤12∧0≤b.2.1∧b.2.1≤1048576∧0≤b.2.2.1∧b.2.2.1≤1048576):(brF b).length≤131:=by
 have h1:=Zpc h.1 b.1.length
 rw [List.take_length] at h1
 have h2:=ZD (n:=b.1.length) (by omega)
 have h3:=ZD (n:=b.2.1.toNat) (by omega)
 have h4:=ZD (n:=b.2.2.1.toNat) (by omega)
 have h5:=YE b.2.2.2.toNat
 unfold brF
 simp only [List.length_append]
 omega
theorem Zh8 {l:XZ} (h:Zo5 l):(ZhL l).length≤533:=by
 have h1:=Za4 (f:=brF) (c:=131) (fun x hx=>Zsk (h.2.2 x hx)) h.2.1 l.length
 rw [List.take_length] at h1
 have h2:=ZD (n:=l.length) (by have:=h.2.1;omega)
 unfold ZhL
 rw [List.length_append]
 omega
theorem ZxY {c:List UInt8} (hc:c.length≤100000) {bs:List Ye} {n i:Int} {ks:List UInt64} {l:XZ} {e:Ye} (hk:ks.length≤12):
 Zk (W5 fuel) fuel (c,bs,n,i,ks,(ks.length:Int),(0:Int),l,e)=some (c++cat Zpb ks,bs,n,i,l,e):=by
 rw [show (c,bs,n,i,ks,(ks.length:Int),(0:Int),l,e)=(fun k:Nat=>(c++cat Zpb (ks.take k),bs,n,i,ks,(ks.length:Int),(k:Int),l,e)) 0 by simp [cat]]
 refine YR ks.length (fun k:Nat=>(c++cat Zpb (ks.take k),bs,n,i,ks,(ks.length:Int),(k:Int),l,e)) ?_ ?_ (by omega)
 ·intro k hk2
  obtain ⟨e,he,_⟩:=ZS hk2
  have hl:=Zpc hk k
  unfold W5
  dsimp only
  rw [if_pos (XM hk2),Xj he,Option.bind_some,ZeO _ (by rw [List.length_append];omega),Option.bind_some,Yf (by omega),ZeP he,List.append_assoc]
  rfl
 ·unfold W5
  dsimp only
  rw [if_neg (by rw [YD];decide),List.take_length]
theorem Zpd {l:XZ} (hr:Xl fuel l=some true) (h:Zo5 l):ZaR fuel l=some (ZhL l):=by
 unfold ZaR
 have h0:=h.2.1
 have h9:=ZD (n:=l.length) (by omega)
 rw [hr,Option.bind_some,if_neg (by decide),ZcV (by omega) (by omega) (by simp),Option.bind_some,List.nil_append,Int.toNat_natCast]
 rw [show (YX l.length,l,(l.length:Int),(0:Int),l)=(fun k:Nat=>(YX l.length++cat brF (l.take k),l,(l.length:Int),(k:Int),l)) 0 by simp [cat],
  YR (x:=(ZhL l,l)) l.length (fun k:Nat=>(YX l.length++cat brF (l.take k),l,(l.length:Int),(k:Int),l)) ?_ ?_ (by omega),Option.bind_some]
 ·intro k hk
  obtain ⟨e,he,hm⟩:=ZS hk
  obtain ⟨e1,e2,e3,e4,e5⟩:=h.2.2 e hm
  have hl:=Za4 (f:=brF) (c:=131) (fun x hx=>Zsk (h.2.2 x hx)) h.2.1 k
  have hr:=ZD (n:=e.1.length) (by omega)
  have hr2:=ZD (n:=e.2.1.toNat) (by omega)
  have hr3:=ZD (n:=e.2.2.1.toNat) (by omega)
  have hk8:=Zpc e1 e.1.length
  rw [List.take_length] at hk8
  unfold Qz
  dsimp only
  rw [if_pos (XM hk),Xj he,Option.bind_some,ZcV (by omega) (by omega) (by rw [List.length_append];omega),Option.bind_some,Int.toNat_natCast,
   ZxY (by simp only [List.length_append];omega) e1,Option.bind_some]
  dsimp only
  rw [ZcV e2 (by omega) (by simp only [List.length_append];omega),Option.bind_some,ZcV e4 (by omega) (by simp only [List.length_append];omega),Option.bind_some,
   ZeO _ (by simp only [List.length_append];omega),Option.bind_some,Yf (by omega),ZeP he]
  unfold brF
  simp only [List.append_assoc]
 ·unfold Qz
  dsimp only
  rw [if_neg (by rw [YD];decide),List.take_length]
  rfl
def inF (x:In):List UInt8:=x.1.1++YX x.1.2.toNat
def ZjJ (o:Out):List UInt8:=YX o.1.toNat++(YX (ZhL o.2).length++ZhL o.2)
def ZhM (t:Tx):List UInt8:=YX t.1.length++(cat inF t.1++(YX t.2.1.length++(cat ZjJ t.2.1++YX t.2.2.toNat)))
def ZjK (s:Sig):List UInt8:=ZhK s.1.toNat++ZhK s.2.toNat
def ZfV (x:In):List UInt8:=YX x.2.1.toNat++(YX x.2.2.1.length++(cat ZjK x.2.2.1++ZhK x.2.2.2.toNat))
def txF (t:Tx):List UInt8:=ZhM t++cat ZfV t.1
theorem Zsl {l:XZ} (hw:ZjI l) (hr:Xl fuel l=some true):Zo5 l:=by
 obtain ⟨b,h1,h2⟩:=Zo6 hw
 rw [hr] at h1
 cases h1
 exact h2 rfl
theorem Zsm {x:In} (h:x.1.1.length=32) (k:Zsh x):(inF x).length≤41:=by
 have:=ZD (n:=x.1.2.toNat) (by have:=k.2.1;omega)
 unfold inF
 rw [List.length_append]
 omega
theorem Zpe {o:Out} (h:ZjI o.2) (k:Zo7 o):(ZjJ o).length≤551:=by
 have h1:=Zh8 (Zsl h k.2.2)
 have h2:=ZD (n:=o.1.toNat) (by have:=k.2.1;omega)
 have h3:=ZD (n:=(ZhL o.2).length) (by omega)
 unfold ZjJ
 simp only [List.length_append]
 omega
theorem Zlc {l:List Sig} (h:l.length≤12) (k:Nat):(cat ZjK (l.take k)).length≤192:=Za4 (c:=16) (fun x _=>by unfold ZjK;rw [List.length_append,YE,YE];exact Nat.le_refl _) h k
theorem Zld {x:In} (k:Zsh x):(ZfV x).length≤218:=by
 obtain ⟨_,_,k1,k2,k3⟩:=k
 have h1:=Zlc k3 x.2.2.1.length
 rw [List.take_length] at h1
 have h2:=ZD (n:=x.2.1.toNat) (by omega)
 have h3:=ZD (n:=x.2.2.1.length) (by omega)
 have h5:=YE x.2.2.2.toNat
 unfold ZfV
 simp only [List.length_append]
 omega
theorem Zpf {t:Tx} (hw:Zsg t) (h:Zz6 t):Zel fuel t=some (ZhM t)∧(ZhM t).length≤40000:=by
 obtain ⟨ins,ZW,note⟩:=t
 obtain ⟨w1,w2,w3⟩:=hw
 obtain ⟨h1,h2,h3,h4,h5,h6⟩:=h
 dsimp only at w1 w2 w3 h1 h2 h3 h4 h5 h6
 have li:=fun k=>Za4 (f:=inF) (c:=41) (fun x hx=>Zsm (w2 x hx) (h5 x hx)) h2 k
 have lo:=fun k=>Za4 (f:=ZjJ) (c:=551) (fun x hx=>Zpe (w1 x hx) (h6 x hx)) h3 k
 have li1:=li ins.length
 have lo1:=lo ZW.length
 rw [List.take_length] at li1 lo1
 have r1:=ZD (n:=ins.length) (by omega)
 have r2:=ZD (n:=ZW.length) (by omega)
 have r3:=ZD (n:=note.toNat) (by omega)
 refine ⟨?_,by unfold ZhM;simp only [List.length_append];omega⟩
 unfold Zel
 dsimp only
 rw [ZcV (by omega) (by omega) (by simp),Option.bind_some,List.nil_append,Int.toNat_natCast]
 rw [show (YX ins.length,ins,(ins.length:Int),(0:Int),(ins,ZW,note))=(fun k:Nat=>(YX ins.length++cat inF (ins.take k),ins,(ins.length:Int),(k:Int),(ins,ZW,note))) 0 by simp [cat],
  YR (x:=(YX ins.length++cat inF ins,(ins,ZW,note))) ins.length (fun k:Nat=>(YX ins.length++cat inF (ins.take k),ins,(ins.length:Int),(k:Int),(ins,ZW,note))) ?_ ?_ (by omega),Option.bind_some]
 ·dsimp only
  rw [ZcV (by omega) (by omega) (by rw [List.length_append];omega),Option.bind_some,Int.toNat_natCast]
  generalize hp:YX ins.length++cat inF ins++YX ZW.length=pre
  have hpl:pre.length≤3000:=by rw [←hp];simp only [List.length_append];omega
  rw [show (pre,ZW,(ZW.length:Int),(0:Int),(ins,ZW,note))=(fun k:Nat=>(pre++cat ZjJ (ZW.take k),ZW,(ZW.length:Int),(k:Int),(ins,ZW,note))) 0 by simp [cat],
   YR (x:=(pre++cat ZjJ ZW,(ins,ZW,note))) ZW.length (fun k:Nat=>(pre++cat ZjJ (ZW.take k),ZW,(ZW.length:Int),(k:Int),(ins,ZW,note))) ?_ ?_ (by omega),Option.bind_some]
  ·dsimp only
   rw [ZcV h4 w3 (by rw [List.length_append];omega),Option.bind_some, ←hp]
   unfold ZhM
   simp only [List.append_assoc]
  ·intro k hk
   obtain ⟨e,he,hm⟩:=ZS hk
   have hlk:=lo k
   have hok:=h6 e hm
   have hlo:=Zsl (w1 e hm) hok.2.2
   have hll:=Zh8 hlo
   have hrl:=ZD (n:=e.1.toNat) (by have:=hok.2.1;omega)
   unfold ZbM
   dsimp only
   rw [if_pos (XM hk),Xj he,Option.bind_some,ZcV hok.1 (by have:=hok.2.1;omega) (by rw [List.length_append];omega),Option.bind_some,Zpd hok.2.2 hlo,Option.bind_some,
    ZtZ (by simp only [List.length_append];omega) (by omega),Option.bind_some,Yf (by omega),ZeP he]
   unfold ZjJ
   simp only [List.append_assoc]
  ·unfold ZbM
   dsimp only
   rw [if_neg (by rw [YD];decide),List.take_length]
 ·intro k hk
  obtain ⟨e,he,hm⟩:=ZS hk
  have hlk:=li k
  have h32:=w2 e hm
  have hok:=h5 e hm
  unfold ZbL
  dsimp only
  rw [if_pos (XM hk),Xj he,Option.bind_some,Zvq (by rw [List.length_append];omega) (by omega),Option.bind_some,ZcV hok.1 (by have:=hok.2.1;omega) (by simp only [List.length_append];omega),Option.bind_some,
   Yf (by omega),ZeP he]
  unfold inF
  simp only [List.append_assoc]
 ·unfold ZbL
  dsimp only
  rw [if_neg (by rw [YD];decide),List.take_length]
theorem Zz8 {t:Tx} (hw:Zsg t) (hr:Y3 fuel t=some true) (h:Zz6 t):Zem fuel t=some (txF t):=by
 obtain ⟨hp,hl⟩:=Zpf hw h
 unfold Zem
 rw [hr,Option.bind_some,if_neg (by decide),hp,Option.bind_some]
 unfold txF
 generalize ZhM t=pre at hl
 obtain ⟨ins,ZW,note⟩:=t
 obtain ⟨h1,h2,h3,h4,h5,h6⟩:=h
 dsimp only at h2 h5 ⊢
 have li:=fun k=>Za4 (f:=ZfV) (c:=218) (fun x hx=>Zld (h5 x hx)) h2 k
 rw [show (pre,ins,(ins.length:Int),(0:Int),(ins,ZW,note))=(fun k:Nat=>(pre++cat ZfV (ins.take k),ins,(ins.length:Int),(k:Int),(ins,ZW,note))) 0 by simp [cat],
  YR (x:=(pre++cat ZfV ins,(ins,ZW,note))) ins.length (fun k:Nat=>(pre++cat ZfV (ins.take k),ins,(ins.length:Int),(k:Int),(ins,ZW,note))) ?_ ?_ (by omega),Option.bind_some]
 ·intro k hk
  obtain ⟨e,he,hm⟩:=ZS hk
  have hlk:=li k
  obtain ⟨_,_,k1,k2,k3⟩:=h5 e hm
  have r1:=ZD (n:=e.2.1.toNat) (by omega)
  have r2:=ZD (n:=e.2.2.1.length) (by omega)
  unfold ZbO
  dsimp only
  rw [if_pos (XM hk),Xj he,Option.bind_some,ZcV k1 (by omega) (by rw [List.length_append];omega),Option.bind_some,ZcV (by omega) (by omega) (by simp only [List.length_append];omega),Option.bind_some,Int.toNat_natCast]
  generalize hq:pre++cat ZfV (ins.take k)++YX e.2.1.toNat++YX e.2.2.1.length=q
  have hql:q.length≤60000:=by rw [←hq];simp only [List.length_append];omega
  rw [show (q,ins,(ins.length:Int),(k:Int),e.2.2.1,(e.2.2.1.length:Int),(0:Int),(ins,ZW,note),e)=(fun j:Nat=>(q++cat ZjK (e.2.2.1.take j),ins,(ins.length:Int),(k:Int),e.2.2.1,(e.2.2.1.length:Int),(j:Int),(ins,ZW,note),e)) 0 by simp [cat],
   YR (x:=(q++cat ZjK e.2.2.1,ins,(ins.length:Int),(k:Int),(ins,ZW,note),e)) e.2.2.1.length (fun j:Nat=>(q++cat ZjK (e.2.2.1.take j),ins,(ins.length:Int),(k:Int),e.2.2.1,(e.2.2.1.length:Int),(j:Int),(ins,ZW,note),e)) ?_ ?_ (by omega),Option.bind_some]
  ·have hs:=Zlc k3 e.2.2.1.length
   rw [List.take_length] at hs
   dsimp only
   rw [ZeO _ (by rw [List.length_append];omega),Option.bind_some,Yf (by omega),ZeP he, ←hq]
   unfold ZfV
   simp only [List.append_assoc]
  ·intro j hj
   obtain ⟨f,hf,_⟩:=ZS hj
   have hs:=Zlc k3 j
   have hu:=YE f.1.toNat
   unfold ZbN
   dsimp only
   rw [if_pos (XM hj),Xj hf,Option.bind_some,ZeO _ (by rw [List.length_append];omega),Option.bind_some,ZeO _ (by simp only [List.length_append];omega),Option.bind_some,Yf (by omega),ZeP hf]
   unfold ZjK
   simp only [List.append_assoc]
  ·unfold ZbN
   dsimp only
   rw [if_neg (by rw [YD];decide),List.take_length]
 ·unfold ZbO
  dsimp only
  rw [if_neg (by rw [YD];decide),List.take_length]
end Go.Proofs.Ytehgcchjaamddaa
end
section
set_option maxRecDepth 4000
namespace Go.Proofs.Ytehgcchjaamddaa
open Go Go.Ev
theorem Znb {α:Type} {l:List α} {k:Nat} {e:α} (h:l[k]? =some e):l.drop k=e::l.drop (k+1):=by
 obtain ⟨h1,h2⟩:=List.getElem?_eq_some_iff.1 h
 rw [List.drop_eq_getElem_cons h1,h2]
theorem ZhN {α:Type} {f:α→List UInt8} {l:List α} {k:Nat} {e:α} (h:l[k]? =some e):cat f (l.drop k)=f e++cat f (l.drop (k+1)):=by
 rw [Znb h,Zpa]
theorem YC {α:Type} {f:α→List UInt8} {c n:Nat} {l:List α} (h:∀x,x∈l→(f x).length≤c) (hn:l.length≤n) (k:Nat):(cat f (l.drop k)).length≤n*c:=by
 refine Nat.le_trans (Zsj fun x hx=>h x (List.mem_of_mem_drop hx)) (Nat.mul_le_mul_right c ?_)
 rw [List.length_drop]
 omega
theorem Zvs {a:List UInt8} (h:a.length≤1000000):Y8 fuel a a=some true:=by
 unfold Y8
 rw [if_neg (by simp),show (a,a,(a.length:Int),(0:Int))=(fun k:Nat=>(a,a,(a.length:Int),(k:Int))) 0 from rfl,YR (x:=.inr ()) a.length (fun k:Nat=>(a,a,(a.length:Int),(k:Int))) ?_ ?_ (by omega),Option.bind_some]
 ·intro k hk
  obtain ⟨e,he,_⟩:=ZS hk
  unfold YA
  dsimp only
  rw [if_pos (XM hk),Xj he,Option.bind_some,Option.bind_some,Yf (by omega),if_neg (by simp)]
 ·unfold YA
  dsimp only
  rw [if_neg (by rw [YD];decide)]
theorem ZxZ {b:List UInt8} {n i:Int} {l:XZ} {rest:List UInt8} {acc:List Ye} {i1 i2:Int} {u:UInt64} {ks:List UInt64} (hk:ks.length≤12) (hr:rest.length≤100000):
 Zk (VC fuel) fuel (b,n,i,(ks.length:Int),(0:Int),l,(cat Zpb ks++rest,false),acc,i1,i2,u,([]:List UInt64))=some (b,n,i,l,(rest,false),acc,i1,i2,u,ks):=by
 refine YR ks.length (fun k:Nat=>(b,n,i,(ks.length:Int),(k:Int),l,(cat Zpb (ks.drop k)++rest,false),acc,i1,i2,u,ks.take k)) ?_ ?_ (by omega)
 ·intro k hk2
  obtain ⟨e,he,_⟩:=ZS hk2
  have hl:=YC (f:=Zpb) (c:=8) (fun x _=>Nat.le_of_eq (YE _)) hk k
  unfold VC
  dsimp only
  rw [if_pos (XM hk2),Zk8 (by dsimp only;rw [List.length_append];omega),Option.bind_some,ZhN he,List.append_assoc]
  unfold Zpb
  rw [Zk9,if_pos (Xt (by rw [List.length_take];omega) (by rw [List.length_take];omega)),Yf (by omega),ZbX he]
 ·unfold VC
  dsimp only
  rw [if_neg (by rw [YD];decide),List.drop_length,List.take_length]
  rfl
theorem Zx0 {l:XZ} (hr:Xl fuel l=some true) (h:Zo5 l):ZfG fuel (ZhL l)=some (l,true):=by
 have hlen:=Zh8 h
 unfold ZfG
 rw [ZwJ (by omega),Option.bind_some,ZdZ (by dsimp only;omega),Option.bind_some]
 have h0:=h.2.1
 have e0:Zgu (ZhL l,false)=((l.length:Int),(cat brF l,false)):=by
  have:=ZaF (z:=(l.length:Int)) (by omega) (by omega) (cat brF l)
  rw [Int.toNat_natCast] at this
  exact this
 have hbl:∀k,(cat brF (l.drop k)).length≤4*131:=YC (fun x hx=>Zsk (h.2.2 x hx)) h0
 rw [e0]
 dsimp only
 generalize hb:ZhL l=b at hlen
 rw [show (b,(l.length:Int),(0:Int),([]:XZ),(cat brF l,false),([]:List Ye))=(fun k:Nat=>(b,(l.length:Int),(k:Int),([]:XZ),(cat brF (l.drop k),false),l.take k)) 0 from rfl,
  YR (x:=(b,([]:XZ),(([]:List UInt8),false),l)) l.length (fun k:Nat=>(b,(l.length:Int),(k:Int),([]:XZ),(cat brF (l.drop k),false),l.take k)) ?_ ?_ (by omega),Option.bind_some]
 ·dsimp only
  rw [hr,Option.bind_some,if_neg (by decide),Zpd hr h,Option.bind_some,hb,Zvs (by omega),Option.bind_some]
  rfl
 ·intro k hk
  obtain ⟨e,he,hm⟩:=ZS hk
  obtain ⟨e1,e2,e3,e4,e5⟩:=h.2.2 e hm
  have hl:=hbl k
  have hl2:=hbl (k+1)
  have r2:=ZD (n:=e.2.1.toNat) (by omega)
  have r3:=ZD (n:=e.2.2.1.toNat) (by omega)
  have r4:=YE e.2.2.2.toNat
  have hks:=YC (f:=Zpb) (c:=8) (l:=e.1) (fun x _=>Nat.le_of_eq (YE _)) e1 0
  rw [List.drop_zero] at hks
  unfold ZaE
  dsimp only
  rw [if_pos (XM hk),ZdZ (by dsimp only;omega),Option.bind_some,if_neg (by rw [beq_iff_eq];omega),ZhN he]
  unfold brF
  simp only [List.append_assoc]
  have q1:=ZaF (z:=(e.1.length:Int)) (by omega) (by omega) (cat Zpb e.1++(YX e.2.1.toNat++(YX e.2.2.1.toNat++(ZhK e.2.2.2.toNat++cat brF (l.drop (k+1))))))
  rw [Int.toNat_natCast] at q1
  unfold brF at q1 hl2
  rw [q1]
  dsimp only
  rw [if_neg (by rw [decide_eq_true_iff];omega),ZxZ e1 (by simp only [List.length_append];omega),Option.bind_some]
  dsimp only
  rw [ZdZ (by simp only [List.length_append];omega),Option.bind_some,ZaF e2 (by omega)]
  dsimp only
  rw [ZdZ (by simp only [List.length_append];omega),Option.bind_some,ZaF e4 (by omega)]
  dsimp only
  rw [Zk8 (by simp only [List.length_append];omega),Option.bind_some,Zk9,if_pos (Xt (by rw [List.length_take];omega) (by rw [List.length_take];omega)),Yf (by omega),ZbX he]
 ·unfold ZaE
  dsimp only
  rw [if_neg (by rw [YD];decide),List.drop_length,List.take_length]
  rfl
end Go.Proofs.Ytehgcchjaamddaa
end
section
set_option maxRecDepth 4000
namespace Go.Proofs.Ytehgcchjaamddaa
open Go Go.Ev
def ZBy (m:Int) (r:Zf):Int×Zf:=(if (Zgu r).1 > m then -1 else (Zgu r).1,(Zgu r).2)
theorem Zsn {m:Int} {r:Zf} (h:r.1.length≤1000000):Zaq fuel m r=some (ZBy m r):=by
 unfold Zaq ZBy
 rw [ZdZ h,Option.bind_some]
 by_cases hk:(Zgu r).1 > m
 ·rw [if_pos (decide_eq_true hk),if_pos hk]
 ·rw [if_neg (by rw [decide_eq_true_iff];exact hk),if_neg hk]
theorem Zso {m z:Int} (h0:0≤z) (h1:z≤m) (hm:m≤1000) (rest:List UInt8):ZBy m (YX z.toNat++rest,false)=(z,(rest,false)):=by
 unfold ZBy
 rw [ZaF h0 (by omega),if_neg (by omega)]
end Go.Proofs.Ytehgcchjaamddaa
end
section
set_option maxRecDepth 4000
namespace Go.Proofs.Ytehgcchjaamddaa
open Go Go.Ev
def bare (x:In):In:=(x.1,(0,[],0))
theorem Zz9 {n0 nt:Int} {T:Tx} {ins:List In} {rest:List UInt8} (hn:ins.length≤64) (hw:∀x,x∈ins→x.1.1.length=32) (hok:∀x,x∈ins→Zsh x) (hr:rest.length≤100000):
 Zk (ZaX fuel) fuel (n0,(ins.length:Int),(0:Int),T,nt,([]:List Out),([]:List Unit),([]:List In),([]:List In),(cat inF ins++rest,false))=some (n0,T,nt,([]:List Out),List.replicate ins.length (),([]:List In),ins.map bare,(rest,false)):=by
 refine YR ins.length (fun k:Nat=>(n0,(ins.length:Int),(k:Int),T,nt,([]:List Out),List.replicate k (),([]:List In),(ins.take k).map bare,(cat inF (ins.drop k)++rest,false))) ?_ ?_ (by omega)
 ·intro k hk
  obtain ⟨e,he,hm⟩:=ZS hk
  have hl:=YC (f:=inF) (c:=41) (fun x hx=>Zsm (hw x hx) (hok x hx)) hn k
  have hl2:=YC (f:=inF) (c:=41) (fun x hx=>Zsm (hw x hx) (hok x hx)) hn (k+1)
  obtain ⟨k1,k2,_⟩:=hok e hm
  have r1:=ZD (n:=e.1.2.toNat) (by omega)
  have h32:=hw e hm
  unfold ZaX
  dsimp only
  rw [if_pos (XM hk),Zz0 (by simp only [List.length_append];omega),Option.bind_some,ZhN he]
  unfold inF at hl2 ⊢
  rw [List.append_assoc,List.append_assoc,Zz1 h32]
  dsimp only
  rw [ZdZ (by simp only [List.length_append];omega),Option.bind_some,ZaF k1 (by omega),if_pos (Xt (by simp;omega) (by simp;omega)),Yf (by omega),ZbX he,List.map_append]
  rfl
 ·unfold ZaX
  dsimp only
  rw [if_neg (by rw [YD];decide),List.drop_length,List.take_length]
  rfl
theorem Zx1 {n0 m0 nt:Int} {T:Tx} {v:List Unit} {ins:List In} {ZW:List Out} {rest:List UInt8} (hn:ZW.length≤64) (hw:∀x,x∈ZW→ZjI x.2) (hok:∀x,x∈ZW→Zo7 x) (hr:rest.length≤100000):
 Zk (ZaY fuel) fuel (n0,m0,(ZW.length:Int),(0:Int),T,nt,([]:List Out),v,([]:List In),ins,(cat ZjJ ZW++rest,false))=some (.inr (n0,m0,T,nt,ZW,v,([]:List In),ins,(rest,false))):=by
 refine YR ZW.length (fun k:Nat=>(n0,m0,(ZW.length:Int),(k:Int),T,nt,ZW.take k,v,([]:List In),ins,(cat ZjJ (ZW.drop k)++rest,false))) ?_ ?_ (by omega)
 ·intro k hk
  obtain ⟨e,he,hm⟩:=ZS hk
  have hl:=YC (f:=ZjJ) (c:=551) (fun x hx=>Zpe (hw x hx) (hok x hx)) hn k
  have hl2:=YC (f:=ZjJ) (c:=551) (fun x hx=>Zpe (hw x hx) (hok x hx)) hn (k+1)
  obtain ⟨k1,k2,k3⟩:=hok e hm
  have hlo:=Zsl (hw e hm) k3
  have hll:=Zh8 hlo
  have r1:=ZD (n:=e.1.toNat) (by omega)
  have r2:=ZD (n:=(ZhL e.2).length) (by omega)
  unfold ZaY
  dsimp only
  rw [if_pos (XM hk),ZdZ (by simp only [List.length_append];omega),Option.bind_some,ZhN he]
  unfold ZjJ at hl2 ⊢
  simp only [List.append_assoc]
  rw [ZaF k1 (by omega)]
  dsimp only
  rw [Zz5 (by simp only [List.length_append];omega),Option.bind_some,ZxV (by omega)]
  dsimp only
  rw [Zx0 k3 hlo,Option.bind_some]
  dsimp only
  rw [if_neg (by decide),if_pos (Xt (by rw [List.length_take];omega) (by rw [List.length_take];omega)),Yf (by omega),ZbX he]
 ·unfold ZaY
  dsimp only
  rw [if_neg (by rw [YD];decide),List.drop_length,List.take_length]
  rfl
theorem Zx2 {n0 m0 len i nt:Int} {T:Tx} {ZW:List Out} {v:List Unit} {pre post:List In} {fr:YT} {br:Int} {sec:UInt64} {l:List Sig} {rest:List UInt8} (hs:l.length≤12) (hr:rest.length≤100000):
 Zk (ZaZ fuel) fuel (n0,m0,((pre.length:Nat):Int),len,i,(l.length:Int),(0:Int),T,nt,ZW,v,pre,post,fr,br,sec,(cat ZjK l++rest,false),([]:List Sig))=some (n0,m0,((pre.length:Nat):Int),len,i,T,nt,ZW,v,pre,post,fr,br,sec,(rest,false),l):=by
 refine YR l.length (fun k:Nat=>(n0,m0,((pre.length:Nat):Int),len,i,(l.length:Int),(k:Int),T,nt,ZW,v,pre,post,fr,br,sec,(cat ZjK (l.drop k)++rest,false),l.take k)) ?_ ?_ (by omega)
 ·intro k hk
  obtain ⟨e,he,hm⟩:=ZS hk
  have hsl:∀x,x∈l→(ZjK x).length≤16:=fun x _=>by unfold ZjK;rw [List.length_append,YE,YE];exact Nat.le_refl _
  have hl:=YC (f:=ZjK) (c:=16) hsl hs k
  have hl2:=YC (f:=ZjK) (c:=16) hsl hs (k+1)
  have hu:=YE e.2.toNat
  unfold ZaZ
  dsimp only
  rw [if_pos (XM hk),if_pos (decide_eq_true (Int.toNat_natCast _)),Zk8 (by simp only [List.length_append];omega),Option.bind_some,ZhN he]
  unfold ZjK at hl2 ⊢
  rw [List.append_assoc,List.append_assoc,Zk9]
  dsimp only
  rw [Zk8 (by simp only [List.length_append];omega),Option.bind_some,Zk9,if_pos (Xt (by rw [List.length_take];omega) (by rw [List.length_take];omega)),if_pos (decide_eq_true (Int.toNat_natCast _)),Yf (by omega),ZbX he,Int.toNat_natCast]
 ·unfold ZaZ
  dsimp only
  rw [if_neg (by rw [YD];decide),List.drop_length,List.take_length,Int.toNat_natCast]
  rfl
theorem Zx3 {n0 m0 nt:Int} {T:Tx} {ZW:List Out} {v:List Unit} {ins:List In} (hn:ins.length≤64) (hok:∀x,x∈ins→Zsh x):
 Zk (Za0 fuel) fuel (n0,m0,((ins.length:Nat):Int),(0:Int),T,nt,ZW,v,([]:List In),ins.map bare,(cat ZfV ins,false))=some (.inr (n0,m0,T,nt,ZW,v,ins,([]:List In),([],false))):=by
 refine YR ins.length (fun k:Nat=>(n0,m0,((ins.length:Nat):Int),(k:Int),T,nt,ZW,v,ins.take k,(ins.drop k).map bare,(cat ZfV (ins.drop k),false))) ?_ ?_ (by omega)
 ·intro k hk
  obtain ⟨e,he,hm⟩:=ZS hk
  have hl:=YC (f:=ZfV) (c:=218) (fun x hx=>Zld (hok x hx)) hn k
  have hl2:=YC (f:=ZfV) (c:=218) (fun x hx=>Zld (hok x hx)) hn (k+1)
  obtain ⟨_,_,k1,k2,k3⟩:=hok e hm
  have hs:=Zlc k3 e.2.2.1.length
  rw [List.take_length] at hs
  have r1:=ZD (n:=e.2.1.toNat) (by omega)
  have r2:=ZD (n:=e.2.2.1.length) (by omega)
  have r3:=YE e.2.2.2.toNat
  have ht:(ins.take k).length=k:=by rw [List.length_take];omega
  unfold Za0
  dsimp only
  rw [if_pos (XM hk),if_pos (decide_eq_true (by omega)),Znb he,List.map_cons]
  dsimp only [Zu1]
  rw [if_pos (WG (by omega) (by rw [List.length_map,List.length_drop,ht];omega)),ZdZ (by rw [←Znb he];dsimp only;omega),Option.bind_some,if_pos (decide_eq_true (by omega)),Zpa]
  unfold ZfV at hl2 ⊢
  simp only [List.append_assoc]
  rw [ZaF k1 (by omega)]
  dsimp only
  rw [Zsn (by simp only [List.length_append];omega),Option.bind_some]
  have q1:=Zso (m:=12) (z:=(e.2.2.1.length:Int)) (by omega) (by omega) (by omega) (cat ZjK e.2.2.1++(ZhK e.2.2.2.toNat++cat ZfV (ins.drop (k+1))))
  rw [Int.toNat_natCast] at q1
  unfold ZfV at q1
  rw [q1]
  dsimp only
  rw [if_neg (by rw [decide_eq_true_iff];omega)]
  have e1:(((k:Int).toNat:Nat):Int)=(((ins.take k).length:Nat):Int):=by omega
  rw [e1,Zx2 k3 (by simp only [List.length_append];omega),Option.bind_some]
  dsimp only
  rw [Zk8 (by simp only [List.length_append];omega),Option.bind_some,Zk9,if_pos (decide_eq_true (by omega)),Yf (by omega),ZbX he]
  rfl
 ·unfold Za0
  dsimp only
  rw [if_neg (by rw [YD];decide),List.drop_length,List.take_length]
  rfl
theorem ZBz {t:Tx} (hw:Zsg t) (h:Zz6 t):(txF t).length≤60000:=by
 have h1:=(Zpf hw h).2
 have h2:=Za4 (f:=ZfV) (c:=218) (fun x hx=>Zld (h.2.2.2.2.1 x hx)) h.2.1 t.1.length
 rw [List.take_length] at h2
 unfold txF
 rw [List.length_append]
 omega
theorem ZBA {t:Tx} (hw:Zsg t) (hr:Y3 fuel t=some true) (h:Zz6 t):ZeF fuel (txF t)=some (t,true):=by
 have hlen:=ZBz hw h
 obtain ⟨ins,ZW,note⟩:=t
 obtain ⟨w1,w2,w3⟩:=hw
 obtain ⟨h1,h2,h3,h4,h5,h6⟩:=h
 dsimp only at w1 w2 w3 h1 h2 h3 h4 h5 h6
 unfold ZeF
 rw [ZwJ (by omega),Option.bind_some,Zsn (by dsimp only;omega),Option.bind_some]
 unfold txF ZhM at hlen ⊢
 simp only [List.append_assoc,List.length_append] at hlen ⊢
 have q1:=Zso (m:=64) (z:=(ins.length:Int)) (by omega) (by omega) (by omega) (cat inF ins++(YX ZW.length++(cat ZjJ ZW++(YX note.toNat++cat ZfV ins))))
 rw [Int.toNat_natCast] at q1
 rw [q1]
 dsimp only
 rw [Zz9 h2 w2 h5 (by simp only [List.length_append];omega),Option.bind_some]
 dsimp only
 have q2:=Zso (m:=64) (z:=(ZW.length:Int)) (by omega) (by omega) (by omega) (cat ZjJ ZW++(YX note.toNat++cat ZfV ins))
 rw [Int.toNat_natCast] at q2
 rw [Zsn (by simp only [List.length_append];omega),Option.bind_some,q2]
 dsimp only
 rw [Zx1 h3 w1 h6 (by simp only [List.length_append];omega),Option.bind_some]
 dsimp only
 rw [ZdZ (by simp only [List.length_append];omega),Option.bind_some,ZaF h4 w3,List.length_nil,Nat.zero_add,List.length_map]
 dsimp only
 rw [Zx3 h2 h5,Option.bind_some]
 dsimp only
 rw [if_pos List.isEmpty_nil,if_neg (by rw [decide_eq_true_iff];omega),if_neg (by rw [decide_eq_true_iff];omega)]
 unfold Zbh QS
 rw [Option.bind_some,if_neg (by decide),Option.bind_some,if_neg (by decide),hr,Option.bind_some,if_neg (by decide)]
end Go.Proofs.Ytehgcchjaamddaa
end
section
set_option maxRecDepth 4000
namespace Go.Proofs.Ytehgcchjaamddaa
open Go Go.Ev
theorem ZAa {no:UInt64} {key:List UInt8} (hk:key.length≤50000):∃h,WC fuel no key=some (h,no+1,key)∧h.length=32:=by
 unfold WC
 generalize ([0,0,0,0,0,0,0,0,0,0,0,0,0,0,0,0,0,0,0,0,0,0,0,0,0,0,0,0,0,0,0,0]:List UInt8)=z
 obtain ⟨x,h1,b,rfl,h2⟩:=Zk6 (step:=Xy fuel) 8 (fun k s=>∃b,s=((k:Int),no,key,z,b)∧b.length=8) (fun x=>∃b,x=(no,key,z,b)∧b.length=8) (i:=((0:Int),no,key,z,([0,0,0,0,0,0,0,0]:List UInt8))) ⟨_,rfl,rfl⟩ (by omega) (by
  rintro k _ hk ⟨b,rfl,h2⟩
  left
  obtain ⟨e,he,_⟩:=ZS (l:=b) (k:=k) (by omega)
  unfold Xy
  dsimp only
  rw [if_pos (decide_eq_true (by omega)),Y1 (z:=8*(k:Int)) (by omega) (by omega),Y1 (z:=56 - 8*(k:Int)) (by omega) (by omega),if_pos (decide_eq_true (by omega)),if_pos (WG (by omega) (by omega)),
   Int.toNat_natCast,he,Option.bind_some,Yf (by omega)]
  exact ⟨_,rfl,_,rfl,by rw [List.length_set];exact h2⟩) (by
  rintro _ ⟨b,rfl,h2⟩
  unfold Xy
  dsimp only
  rw [if_neg (by simp)]
  exact ⟨_,rfl,_,rfl,h2⟩)
 rw [h1,Option.bind_some]
 dsimp only
 obtain ⟨h,h3,h4⟩:=Zh7 (s:=ZzU) (ls:=[key,b]) (by decide) (by simp) (by
  intro l hl
  rcases List.mem_cons.1 hl with rfl|hl
  ·omega
  ·rw [List.mem_singleton.1 hl];omega)
 rw [h3,Option.bind_some]
 exact ⟨h,rfl,h4⟩
theorem Zvt {key:List UInt8} {n:Nat} (hk:key.length≤50000) (hn:n≤65536):∃v s,Xd fuel key (n:Int)=some (v,s)∧s.length=n:=by
 unfold Xd Zfk
 have hb:(true&&Zf2 (wi ((n:Int)+32)) 1)=true:=by
  rw [Y1 (by omega) (by omega),Bool.true_and]
  unfold Zf2 lenB
  rw [Bool.and_eq_true,Bool.and_eq_true]
  exact ⟨decide_eq_true (by omega),decide_eq_true (by unfold bytesBound;omega),decide_eq_true (by unfold maxLen;omega)⟩
 rw [if_neg (by rw [decide_eq_true_iff];omega),if_neg (by rw [decide_eq_true_iff];omega),if_pos hb,Option.bind_some]
 dsimp only
 obtain ⟨x,h1,k,v,o,no,rfl,h2⟩:=Y0 (step:=Wq fuel) (fun s=>∃v o no,s=((n:Int),key,([]:List Unit),([]:List UInt8),v,o,no,key)∧o.length≤65600) (fun s=>65600 - s.2.2.2.2.2.1.length) (fun x=>∃k v o no,x=((n:Int),key,([]:List Unit),([]:List UInt8),v,o,no,k)∧n≤o.length) (by
  rintro _ ⟨v,o,no,rfl,h2⟩
  unfold Wq
  dsimp only
  by_cases hl:(o.length:Int) < (n:Int)
  ·left
   obtain ⟨h,h3,h4⟩:=ZAa (no:=no) hk
   rw [if_pos (decide_eq_true hl),h3,Option.bind_some]
   dsimp only
   rw [if_pos (Xt (by omega) (by omega))]
   exact ⟨_,rfl,⟨_,_,_,rfl,by rw [List.length_append];omega⟩,by dsimp only;rw [List.length_append];omega⟩
  ·right
   rw [if_neg (by rw [decide_eq_true_iff];exact hl)]
   exact ⟨_,rfl,_,_,_,_,rfl,by omega⟩) ((n:Int),key,([]:List Unit),([]:List UInt8),([]:List Unit),([]:List UInt8),(0:UInt64),key) ⟨_,_,_,rfl,by simp⟩ (by simp)
 rw [h1,Option.bind_some]
 dsimp only
 rw [if_pos (by rw [Bool.and_eq_true];exact ⟨decide_eq_true (by omega),decide_eq_true (by omega)⟩)]
 exact ⟨_,_,rfl,by rw [List.length_take];omega⟩
def ZfW (s b:List UInt8):List UInt8:=List.zipWith (· ^^^ ·) s b
def ZlR (s b:List UInt8) (k:Nat):List UInt8:=(ZfW s b).take k++s.drop k
theorem ZeQ {s b:List UInt8} (h:s.length=b.length):(ZfW s b).length=b.length:=by unfold ZfW;rw [List.length_zipWith];omega
theorem Zt8 {s b:List UInt8} {k:Nat} {x:UInt8} (h:s.length=b.length) (hx:s[k]? =some x):(ZlR s b k)[k]? =some x:=by
 have hk:=(List.getElem?_eq_some_iff.1 hx).1
 have hl:=ZeQ h
 unfold ZlR
 rw [List.getElem?_append_right (by rw [List.length_take];omega),List.length_take,List.getElem?_drop]
 rw [←hx]
 congr 1
 omega
theorem Zt9 {s b:List UInt8} {k:Nat} {x y:UInt8} (h:s.length=b.length) (hx:s[k]? =some x) (hy:b[k]? =some y):(ZlR s b k).set k (x^^^y)=ZlR s b (k+1):=by
 have hk:=(List.getElem?_eq_some_iff.1 hx).1
 have hl:=ZeQ h
 have hz:(ZfW s b)[k]? =some (x^^^y):=by
  unfold ZfW
  rw [List.getElem?_zipWith,hx,hy]
 unfold ZlR
 rw [ZbX hz,List.set_append_right _ _ (by rw [List.length_take];omega),List.length_take,Znb hx,List.append_assoc]
 congr 1
 rw [show k - min k (ZfW s b).length=0 by omega]
 rfl
theorem Zle {s b:List UInt8} {k:Nat} (h:s.length=b.length):(ZlR s b k).length=b.length:=by
 have hl:=ZeQ h
 unfold ZlR
 rw [List.length_append,List.length_take,List.length_drop]
 omega
theorem Zpg:∀{s b:List UInt8},s.length=b.length→ZfW s (ZfW s b)=b
 |[],[],_=>rfl
 |x::s,y::b,h=>by
  have ih:=Zpg (s:=s) (b:=b) (by simpa using h)
  unfold ZfW at ih ⊢
  rw [List.zipWith_cons_cons,List.zipWith_cons_cons,ih]
  congr 1
  rw [←UInt8.xor_assoc,UInt8.xor_self,UInt8.zero_xor]
theorem ZBB {key b s:List UInt8} {v:List Unit} (h:Xd fuel key (b.length:Int)=some (v,s)) (hl:s.length=b.length) (hb:b.length≤1000000):Zfn fuel key b=some (ZfW s b):=by
 unfold Zfn
 rw [h,Option.bind_some]
 dsimp only
 rw [show (b,(b.length:Int),(0:Int),key,v,s)=(fun k:Nat=>(b,(b.length:Int),(k:Int),key,v,ZlR s b k)) 0 from rfl,
  YR (x:=(key,v,ZfW s b)) b.length (fun k:Nat=>(b,(b.length:Int),(k:Int),key,v,ZlR s b k)) ?_ ?_ (by omega),Option.bind_some]
 ·intro k hk
  obtain ⟨y,hy,_⟩:=ZS hk
  obtain ⟨x,hx,_⟩:=ZS (l:=s) (k:=k) (by omega)
  unfold ZaB
  dsimp only
  rw [if_pos (XM hk),if_pos (WG (by omega) (by rw [Zle hl];omega)),Int.toNat_natCast,Zt8 hl hx,Option.bind_some,Xj hy,Option.bind_some,Option.bind_some,Yf (by omega),Zt9 hl hx hy,if_pos (WG (by omega) (by rw [Zle hl];omega))]
 ·unfold ZaB
  dsimp only
  rw [if_neg (by rw [YD];decide)]
  unfold ZlR
  rw [List.take_of_length_le (by rw [ZeQ hl];exact Nat.le_refl _),List.drop_of_length_le (by omega),List.append_nil]
theorem ZAb {key b s:List UInt8} {v:List Unit} (h:Xd fuel key (b.length:Int)=some (v,s)) (hl:s.length=b.length) (hb:b.length≤1000000):ZaC fuel key b=some (v,ZfW s b):=by
 unfold ZaC
 rw [h,Option.bind_some]
 dsimp only
 rw [show (b,(b.length:Int),(0:Int),key,([]:List Unit),([]:List UInt8),v,s)=(fun k:Nat=>(b,(b.length:Int),(k:Int),key,([]:List Unit),([]:List UInt8),v,ZlR s b k)) 0 from rfl,
  YR (x:=(key,([]:List Unit),([]:List UInt8),v,ZfW s b)) b.length (fun k:Nat=>(b,(b.length:Int),(k:Int),key,([]:List Unit),([]:List UInt8),v,ZlR s b k)) ?_ ?_ (by omega),Option.bind_some]
 ·intro k hk
  obtain ⟨y,hy,_⟩:=ZS hk
  obtain ⟨x,hx,_⟩:=ZS (l:=s) (k:=k) (by omega)
  unfold Vk
  dsimp only
  rw [if_pos (XM hk),if_pos (WG (by omega) (by rw [Zle hl];omega)),Int.toNat_natCast,Zt8 hl hx,Option.bind_some,Xj hy,Option.bind_some,Option.bind_some,Yf (by omega),Zt9 hl hx hy,if_pos (WG (by omega) (by rw [Zle hl];omega))]
 ·unfold Vk
  dsimp only
  rw [if_neg (by rw [YD];decide)]
  unfold ZlR
  rw [List.take_of_length_le (by rw [ZeQ hl];exact Nat.le_refl _),List.drop_of_length_le (by omega),List.append_nil]
theorem Zua {key h:List UInt8} (hk:key.length≤50000) (hh:h.length≤50000):∃t,Zer fuel key h=some t∧t.length=8:=by
 unfold Zer
 obtain ⟨o,h3,h4⟩:=Zh7 (s:=ZBP) (ls:=[key,h]) (by decide) (by simp) (by
  intro l hl
  rcases List.mem_cons.1 hl with rfl|hl
  ·omega
  ·rw [List.mem_singleton.1 hl];omega)
 rw [h3,Option.bind_some,if_pos (decide_eq_true (by rw [List.length_take];omega))]
 exact ⟨_,rfl,by rw [List.length_take,List.length_take];omega⟩
theorem Zx4 {key x:List UInt8} (hk:key.length≤50000) (hx:x.length≤40000):∃b,Zfp fuel key x=some b∧b.length=x.length+8∧Zap fuel key b=some (x,true):=by
 obtain ⟨v,s,hs1,hs2⟩:=Zvt (key:=key) (n:=x.length) hk (by omega)
 have hl:=ZeQ hs2
 obtain ⟨t,ht1,ht2⟩:=Zua (key:=key) (h:=ZfW s x) hk (by omega)
 have hb:(ZfW s x++t).length=x.length+8:=by rw [List.length_append];omega
 refine ⟨ZfW s x++t, ?_,hb, ?_⟩
 ·unfold Zfp
  rw [if_neg (by rw [decide_eq_true_iff];omega),ZAb hs1 hs2 (by omega),Option.bind_some]
  dsimp only
  rw [ht1,Option.bind_some,if_pos (Xt (by omega) (by omega))]
 ·have e1:(ZfW s x++t).take x.length=ZfW s x:=by rw [←hl,List.take_left]
  have e2:(ZfW s x++t).drop x.length=t:=by rw [←hl,List.drop_left]
  unfold Zap
  rw [hb,Y1 (z:=((x.length+8:Nat):Int) - 8) (by omega) (by omega),show (((x.length+8:Nat):Int) - 8).toNat=x.length by omega]
  rw [if_neg (by rw [decide_eq_true_iff];omega),if_neg (by rw [decide_eq_true_iff];omega),if_pos (Zsd (by omega) (by omega)),e1,e2,ht1,Option.bind_some,if_pos (Zsc (by omega) (by omega)),if_pos (decide_eq_true (by omega))]
  dsimp only
  rw [List.take_of_length_le (l:=t) (by omega),if_neg (by simp),ZBB (v:=v) (s:=s) (by rw [hl];exact hs1) (by omega) (by omega),Option.bind_some,Zpg hs2,if_pos (Zsd (by omega) (by omega))]
theorem ZAc {id:List UInt8} (h:id.length≤50000):∃o,Wg fuel id=some o:=by
 unfold Wg
 obtain ⟨o,h3,h4⟩:=Zh7 (s:=ZBO) (ls:=[id]) (by decide) (by simp) (by
  intro l hl
  rw [List.mem_singleton.1 hl];omega)
 rw [h3,Option.bind_some,if_pos (decide_eq_true (by rw [List.length_take];omega))]
 exact ⟨_,rfl⟩
theorem ZBC {id:List UInt8} (h:id.length≤50000):∃o,VQ fuel id=some o∧o.length=32:=by
 unfold VQ
 obtain ⟨o,h3,h4⟩:=Zh7 (s:=ZBQ) (ls:=[id]) (by decide) (by simp) (by
  intro l hl
  rw [List.mem_singleton.1 hl];omega)
 rw [h3,Option.bind_some]
 exact ⟨_,rfl,h4⟩
theorem ZC5 {t:Tx} (hw:Zsg t):∃o,Zhq fuel t=some o∧o.length=32:=by
 unfold Zhq
 obtain ⟨b,hb,hb2⟩:=Zo9 hw
 rw [hb,Option.bind_some]
 cases b with
 |false=>exact ⟨_,rfl,rfl⟩
 |true=>
  obtain ⟨h1,h2⟩:=Zpf hw (hb2 rfl)
  obtain ⟨o,h3,h4⟩:=Zh7 (s:=ZBR) (ls:=[ZhM t]) (by decide) (by simp) (by
   intro l hl
   rw [List.mem_singleton.1 hl];omega)
  rw [if_neg (by decide),h1,Option.bind_some,h3,Option.bind_some]
  exact ⟨_,rfl,h4⟩
end Go.Proofs.Ytehgcchjaamddaa
end
section
set_option maxRecDepth 4000
namespace Go.Proofs.Ytehgcchjaamddaa
open Go Go.Ev
theorem Zph {I X:Type} {step:I→Option (I⊕X)} {i:I} {x:X} (h:step i=some (.inr x)):Zk step fuel i=some x:=YR 0 (fun _=>i) (fun k hk=>by omega) h (by omega)
theorem Zpi {I X:Type} {step:I→Option (I⊕X)} {i j:I} {x:X} (h:step i=some (.inl j)) (k:step j=some (.inr x)):Zk step fuel i=some x:=
 YR 1 (fun n=>if n=0 then i else j) (fun n hn=>by
  have:n=0:=by omega
  subst this
  exact h) k (by omega)
theorem ZBT (p:Zc):Vb fuel [] p=some (-1,p):=by
 unfold Vb
 rw [Zph (x:=.inr p) (by
  unfold QL
  dsimp only
  rw [if_neg (by simp)]),Option.bind_some]
theorem ZDr {p:Zc} (h0:0 < p.2.length) (h:p.2.length≤8192):Y5 fuel p 0 0 3 () []=some (0,0,3,(),[p]):=by
 have hc:Yx fuel p.2=some p.2:=by
  unfold Yx
  rw [if_pos (Xt (by omega) (by omega))]
 unfold Y5 QM
 rw [if_neg (by rw [beq_iff_eq];omega),if_neg (by rw [decide_eq_true_iff];omega),if_neg (by decide),ZBT,Option.bind_some,Option.bind_some]
 dsimp only
 rw [if_neg (by simp),if_neg (by simp),hc,Option.bind_some,if_pos (Xt (by simp) (by simp))]
 rfl
theorem ZDs {p:Zc} {v:List Unit} (h0:0 < p.2.length) (h:p.2.length≤8192):ZJ fuel p 0 0 3 () v []=some (.inr (0,0,3,(),()::v,[p])):=by
 have hc:Yx fuel p.2=some p.2:=by
  unfold Yx
  rw [if_pos (Xt (by omega) (by omega))]
 unfold ZJ WL
 rw [if_neg (by rw [beq_iff_eq];omega),if_neg (by rw [decide_eq_true_iff];omega),if_neg (by decide),ZBT,Option.bind_some,Option.bind_some]
 dsimp only
 rw [if_neg (by simp),if_pos (by simp),if_neg (by simp),hc,Option.bind_some,if_pos (Xt (by simp) (by simp))]
 rfl
theorem ZDt {p:Zc}:ZH fuel 0 0 3 () [p]=some (.inr (true,0,3,(),[p],[()],[])):=by
 unfold ZH Vm QP
 rw [if_neg (by decide),if_neg (by simp),if_neg (by simp),if_pos (Xt (by simp) (by simp)),Option.bind_some]
 rfl
theorem ZDu {v:List Unit}:ZK fuel 0 0 3 () v []=some (false,0,3,(),v,[]):=rfl
theorem ZDv {v:List Unit}:ZK fuel (-1) 0 3 () v []=some (false,0,3,(),v,[]):=rfl
theorem ZC6 {n hint sum:List UInt8} {v:List Unit}:∃z,ZE fuel n hint sum 0 3 () v []=some (z,false,0,3,(),v,[]):=by
 unfold ZE Wv
 generalize ([0,0,0,0,0,0,0,0,0,0,0,0,0,0,0,0,0,0,0,0,0,0,0,0,0,0,0,0,0,0,0,0]:List UInt8)=z
 rw [Zph (x:=.inr (0,3,(),v,[],(),n,hint,sum,z)) (by
  unfold XK
  dsimp only
  rw [if_neg (by simp)]),Option.bind_some]
 exact ⟨z,rfl⟩
theorem ZDw {K V:Type} [i:DecidableEq K] (j:DecidableEq K) (f:V→K) (p:V):@Zd9 K (List V) i (@Zei K V j f [p]) (f p)=some [p]:=by
 have:j=i:=Subsingleton.elim _ _
 subst this
 simp [Zei,ZBm,Zjb,Zd9]
theorem ZDx {a b:Tx} {id hint key s x:List UInt8} (ra:Y3 fuel a=some true) (i1:Zhq fuel a=some id) (hi:Wg fuel id=some hint) (k1:VQ fuel id=some key) (s3:Zap fuel key s=some (x,true)) (hr:ZeF fuel x=some (b,true)):
 ZR fuel [a] 0 3 () [(hint,s)]=some ([b],0,3,(),[(hint,s)]):=by
 unfold ZR VU
 have h0:XD ([a],(([(hint,s)]:List Zc).length:Int),(0:Int),0,3,(),[(hint,s)],(),([]:List ((List UInt8)×(List Zc))))=some ([a],0,3,(),[(hint,s)],(),(@Zei (List UInt8) Zc (Ty.deq (.arr 16 .u8)) (fun p:Zc=>p.1) [(hint,s)])):=by
  unfold XD Zvg
  refine if_pos ?_
  have:lenB ([(hint,s)]:List Zc).length 40=true:=rfl
  simp only [this,decide_true,List.isEmpty_nil,Bool.and_self]
 rw [h0,Option.bind_some]
 dsimp only
 have hg:=ZDw (K:=List UInt8) (V:=Zc) (Ty.deq (.arr 16 .u8)) (fun p:Zc=>p.1) (hint,s)
 dsimp only at hg
 generalize (@Zei (List UInt8) Zc (Ty.deq (.arr 16 .u8)) (fun p:Zc=>p.1) [(hint,s)])=m at hg
 have hin:Zk (Yh fuel) fuel ([a],(([a]:List Tx).length:Int),(0:Int),[(hint,s)],(([(hint,s)]:List Zc).length:Int),(0:Int),0,3,(),[(hint,s)],(),m,([]:List Tx),a,id)=some ([a],(([a]:List Tx).length:Int),(0:Int),0,3,(),[(hint,s)],(),m,[b],a,id):=by
  refine Zpi (j:=([a],(([a]:List Tx).length:Int),(0:Int),[(hint,s)],(([(hint,s)]:List Zc).length:Int),(1:Int),0,3,(),[(hint,s)],(),m,[b],a,id)) ?_ ?_
  ·unfold Yh
   dsimp only
   rw [if_pos (by simp),ZbH (y:=((hint,s):Zc)) (by omega) rfl,Option.bind_some,k1,Option.bind_some]
   dsimp only
   rw [s3,Option.bind_some]
   dsimp only
   rw [if_neg (by decide),hr,Option.bind_some]
   dsimp only
   rw [if_pos rfl,if_pos (Xt (by simp) (by simp)),Y1 (z:=0+1) (by omega) (by omega)]
   rfl
  ·unfold Yh
   dsimp only
   rw [if_neg (by simp)]
 rw [Zpi (j:=([a],(([a]:List Tx).length:Int),(1:Int),0,3,(),[(hint,s)],(),m,[b])) (x:=(0,3,(),[(hint,s)],(),m,[b])) ?_ ?_,Option.bind_some,Option.bind_some]
 ·unfold XE
  dsimp only
  rw [if_pos (by simp),ZbH (y:=a) (by omega) rfl,Option.bind_some,ra,Option.bind_some,if_neg (by decide),i1,Option.bind_some,hi,Option.bind_some,hg]
  unfold Zl6
  dsimp only
  rw [hin,Option.bind_some]
  dsimp only
  rw [Y1 (z:=0+1) (by omega) (by omega)]
  rfl
 ·unfold XE
  dsimp only
  rw [if_neg (by simp)]
theorem ZDy {a:Tx} {id hint:List UInt8} {v:List Unit} (ra:Y3 fuel a=some true) (i1:Zhq fuel a=some id) (hi:Wg fuel id=some hint):
 ZI fuel [a] 0 3 () v []=some ([],0,3,(),v,[]):=by
 unfold ZI WH
 have h0:YP ([a],(([]:List Zc).length:Int),(0:Int),0,3,(),v,[],(),([]:List ((List UInt8)×(List Zc))))=some ([a],0,3,(),v,[],(),[]):=by
  unfold YP Zvg
  refine if_pos ?_
  have:lenB ([]:List Zc).length 40=true:=rfl
  simp only [this,decide_true,List.isEmpty_nil,Bool.and_self]
 rw [h0,Option.bind_some]
 dsimp only
 have hin:Zk (Yk fuel) fuel ([a],(([a]:List Tx).length:Int),(0:Int),([]:List Zc),(0:Int),(0:Int),0,3,(),v,[],(),[],([]:List Tx),a,id)=some ([a],(([a]:List Tx).length:Int),(0:Int),0,3,(),v,[],(),[],[],a,id):=Zph (by
  unfold Yk
  dsimp only
  rw [if_neg (by simp)])
 rw [Zpi (j:=([a],(([a]:List Tx).length:Int),(1:Int),0,3,(),v,[],(),[],[])) (x:=(0,3,(),v,[],(),[],[])) ?_ ?_,Option.bind_some,Option.bind_some]
 ·unfold YQ
  dsimp only
  rw [if_pos (by simp),ZbH (y:=a) (by omega) rfl,Option.bind_some,ra,Option.bind_some,if_neg (by decide),i1,Option.bind_some,hi,Option.bind_some]
  unfold Zl6 Zd9
  dsimp only
  rw [hin,Option.bind_some]
  dsimp only
  rw [Y1 (z:=0+1) (by omega) (by omega)]
  rfl
 ·unfold YQ
  dsimp only
  rw [if_neg (by simp)]
theorem ZAd {a b:Tx} {nonce:List UInt8} (ha:Zsg a) (hb:Zsg b) (hn:nonce.length≤10000):Yr fuel a b nonce=some true:=by
 unfold Yr
 rw [Option.bind_some]
 obtain ⟨r,ra,ra2⟩:=Zo9 ha
 rw [ra,Option.bind_some]
 cases r with
 |false=>rfl
 |true=>
 rw [if_neg (by decide)]
 obtain ⟨r,rb,rb2⟩:=Zo9 hb
 rw [rb,Option.bind_some]
 cases r with
 |false=>rfl
 |true=>
 have okb:=rb2 rfl
 have bb:=Zz8 hb rb okb
 rw [if_neg (by decide),bb,Option.bind_some]
 by_cases c4:((txF b).length:Int) > 8000
 ·rw [if_pos (decide_eq_true c4)]
 have hnew:Zjm fuel 0 3=some (.inr (0,3,(),[])):=rfl
 rw [if_neg (by rw [decide_eq_true_iff];exact c4),hnew,Option.bind_some]
 dsimp only
 obtain ⟨id,i1,i2⟩:=ZC5 ha
 obtain ⟨hint,hi⟩:=ZAc (id:=id) (by omega)
 obtain ⟨key,k1,k2⟩:=ZBC (id:=id) (by omega)
 obtain ⟨s,s1,s2,s3⟩:=Zx4 (key:=key) (x:=txF b) (by omega) (by omega)
 have hwr:XC fuel b id=some (hint,s):=by
  unfold XC
  rw [hi,Option.bind_some,k1,Option.bind_some,bb,Option.bind_some,s1,Option.bind_some]
 obtain ⟨sm,hs,_⟩:=ZwM (l:=s) (by omega)
 obtain ⟨lie,hl,_⟩:=Zh7 (s:=QN) (ls:=[nonce]) (by decide) (by simp) (by
  intro l hl
  rw [List.mem_singleton.1 hl];omega)
 rw [i1,Option.bind_some,hwr,Option.bind_some,ZDr (p:=(hint,s)) (by dsimp only;omega) (by dsimp only;omega),Option.bind_some]
 dsimp only
 rw [if_neg (by decide)]
 have hlie:Vl fuel true 0 3 () [(hint,s)]=some (.inl (0,3,(),[(hint,s)])):=rfl
 have hlook:Yy fuel ([a]:List Tx) 0 3 () [(hint,s)]=some ([],0,3,(),[(hint,s)]):=rfl
 have hprove:YK fuel nonce hint sm 0 3 () [(hint,s)]=some (lie,true,0,3,(),[(hint,s)]):=by
  unfold YK QO
  rw [hl,Option.bind_some,Option.bind_some]
 have hlie2:Vr fuel false 0 3 () [(hint,s)]=some (.inr (0,3,(),[(hint,s)])):=rfl
 rw [hlie,Option.bind_some]
 dsimp only
 rw [hlook,Option.bind_some,hs,Option.bind_some]
 dsimp only
 rw [hprove,Option.bind_some]
 dsimp only
 rw [hlie2,Option.bind_some]
 dsimp only
 rw [ZDx ra i1 hi k1 s3 (ZBA hb rb okb),Option.bind_some]
 dsimp only
 rw [ZDt,Option.bind_some]
 dsimp only
 obtain ⟨z,hz⟩:=ZC6 (n:=nonce) (hint:=hint) (sum:=sm) (v:=[()])
 rw [if_neg (by decide),ZDu,Option.bind_some]
 dsimp only
 rw [if_neg (by decide),ZDv,Option.bind_some]
 dsimp only
 rw [if_neg (by decide),Option.bind_some,hz,Option.bind_some,if_pos rfl]
 dsimp only
 rw [if_pos (by decide),if_pos rfl,hl,Option.bind_some,if_pos (decide_eq_true rfl),if_pos (by simp),if_pos (by decide),ZDy ra i1 hi,Option.bind_some]
 dsimp only
 rw [if_pos (by decide),ZDs (p:=(hint,s)) (by dsimp only;omega) (by dsimp only;omega),Option.bind_some]
 rfl
end Go.Proofs.Ytehgcchjaamddaa
end
