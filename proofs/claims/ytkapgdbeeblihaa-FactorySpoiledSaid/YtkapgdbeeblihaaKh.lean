/- Parts of the proof, in one file. -/
import Derived.Test.YtkapgdbeeblihaaKg
set_option linter.unusedVariables false
section
set_option maxRecDepth 100000
namespace Go.Proofs.Ytkapgdbeeblihaa
open Go Go.Ev
noncomputable section
def his:FuncId→HI
 |5=>{ eqs:=true,own:=[],still:=[0,23,25,27,31,32,33,38,39,40,45,46,47,52,54,59,61,62,67,71,74,91,94,96,99,101,104,106,109,111,114,155,160],row:=[],deep:=[],frz:=[],ghost:=[],gst:=[]}
 |_=>{}
def ghs:FuncId→List (Nat×GOp)
 |_=>[]
def ZE7:List (Fs Try.prog):=[WE 18446744073709551616,WF 18446744073709551616,XW 18446744073709551616,ZaA 18446744073709551616,Zb6 18446744073709551616,ZaC 18446744073709551616,Zaw 18446744073709551616,ZaE 18446744073709551616,ZaD 18446744073709551616,Zec 18446744073709551616,Vh 18446744073709551616,Vi 18446744073709551616]
def specs:=ZE7
def ZFR:List (TypeId×String×FuncId):=[]
theorem ZBF:AllOk specs:=⟨okN WE Zag,okN WF ZfX,okN XW V5,okN ZaA ZaB,okN Zb6 ZfP,okN ZaC ZlM,okN Zaw ZlD,okN ZaE ZlO,okN ZaD ZlN,okN Zec ZrW,okN Vh ZhC,okN Vi ZhD,ytt⟩
theorem ZC9:MtOk Try.prog ZFR:=trivial
theorem ran:ZEs Try.prog his specs ZFR 100 5 ghs=some true:=by decide+kernel
def ZE8(F:Nat):Fs Try.prog:=⟨5,[],[],[],[⟨.ret,[(0,.v .bool)],[],[.bool]⟩],λ_=>some true⟩
def ZDw:Fs Try.prog:=ZE8 fuel
theorem ZE9:ZDw.Ok:=ZEt ZBF ZC9 ran
end
end Go.Proofs.Ytkapgdbeeblihaa
end
