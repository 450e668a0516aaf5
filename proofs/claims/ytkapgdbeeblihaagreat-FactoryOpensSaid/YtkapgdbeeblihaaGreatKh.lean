/- Parts of the proof, in one file. -/
import Derived.Test.YtkapgdbeeblihaaGreatKg
open Go.Proofs.Tryz renaming prog → yf
set_option linter.unusedVariables false
section
set_option maxRecDepth 100000
namespace Go.Proofs.YtkapgdbeeblihaaGreat
open Go Go.Ev
noncomputable section
def his:FuncId→HI
 |4=>{ eqs:=true,own:=[],still:=[0,23,25,27,31,32,33,38,39,40,45,46,47,52,54,59,61,62,67,71,74,91,94,96,99,101,104,106,109,111,114,155,160],row:=[],deep:=[],frz:=[],ghost:=[],gst:=[]}
 |_=>{}
def ghs:FuncId→List (Nat×GOp)
 |_=>[]
def ZGG:List (Fs yf):=[W3 18446744073709551616,W4 18446744073709551616,Wn 18446744073709551616,Zbe 18446744073709551616,ZcK 18446744073709551616,Zbh 18446744073709551616,Zba 18446744073709551616,Zbg 18446744073709551616,Zbi 18446744073709551616,Ze1 18446744073709551616,VL 18446744073709551616,VM 18446744073709551616]
def specs:=ZGG
def ZHx:List (TypeId×String×FuncId):=[]
theorem ZDa:AllOk specs:=⟨okN W3 ZaU,okN W4 ZgY,okN Wn QA,okN Zbe Zbf,okN ZcK ZcL,okN Zbh ZmN,okN Zba Zfz,okN Zbg ZfO,okN Zbi ZfR,okN Ze1 ZjM,okN VL Zcy,okN VM ZcA,ytt⟩
theorem ZEJ:MtOk yf ZHx:=trivial
theorem ran:ZF4 yf his specs ZHx 100 4 ghs=some true:=by decide+kernel
def ZGH(F:Nat):Fs yf:=⟨4,[],[],[],[⟨.ret,[(0,.v .bool)],[],[.bool]⟩],λ_=>some true⟩
def ZE8:Fs yf:=ZGH fuel
theorem ZGI:ZE8.Ok:=ZF5 ZDa ZEJ ran
end
end Go.Proofs.YtkapgdbeeblihaaGreat
end
