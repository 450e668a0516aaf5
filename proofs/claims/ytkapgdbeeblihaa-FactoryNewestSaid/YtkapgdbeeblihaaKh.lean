/- Parts of the proof, in one file. -/
import Derived.Test.YtkapgdbeeblihaaKg
set_option linter.unusedVariables false
section
set_option maxRecDepth 100000
namespace Go.Proofs.Ytkapgdbeeblihaa
open Go Go.Ev
noncomputable section
def his:FuncId→HI
 |5=>{ eqs:=true,own:=[],still:=[0,23,25,27,31,32,33,38,39,40,45,46,47,52,54,59,61,62,67,71,74,91,94,96,99,101,104,106,109,111,114,155,160],row:=[],deep:=[],frz:=[],ghost:=[],gst:=[]}
 |_=>{}
def ghs:FuncId→List (Nat×GOp)
 |_=>[]
def ZGT:List (Fs Try.prog):=[Vx 18446744073709551616,Vy 18446744073709551616,WU 18446744073709551616,ZbI 18446744073709551616,Zc9 18446744073709551616,ZbK 18446744073709551616,ZbE 18446744073709551616,ZbM 18446744073709551616,ZbL 18446744073709551616,Zfl 18446744073709551616,Qc 18446744073709551616,Qd 18446744073709551616]
def specs:=ZGT
def ZHD:List (TypeId×String×FuncId):=[]
theorem ZDg:AllOk specs:=⟨okN Vx Zbn,okN Vy Zhe,okN WU Q8,okN ZbI ZbJ,okN Zc9 Zg6,okN ZbK ZmW,okN ZbE ZfQ,okN ZbM ZmX,okN ZbL Zf5,okN Zfl ZjY,okN Qc XO,okN Qd ZiP,ytt⟩
theorem ZEO:MtOk Try.prog ZHD:=trivial
theorem ran:ZGi Try.prog his specs ZHD 100 5 ghs=some true:=by decide+kernel
def ZGU(F:Nat):Fs Try.prog:=⟨5,[],[],[],[⟨.ret,[(0,.v .bool)],[],[.bool]⟩],λ_=>some true⟩
def ZFh:Fs Try.prog:=ZGU fuel
theorem ZGV:ZFh.Ok:=ZGj ZDg ZEO ran
end
end Go.Proofs.Ytkapgdbeeblihaa
end
