/- Parts of the proof, in one file. -/
import Derived.Test.YtdhclndplbopgaaGreatKh
open Go.Proofs.Tryz renaming prog → yb
set_option linter.unusedVariables false
section
set_option maxRecDepth 100000
namespace Go.Proofs.YtdhclndplbopgaaGreat
open Go Go.Ev
noncomputable section
def his:FuncId->HI
 |5=>{ eqs:=true,own:=[],still:=[0,27,32,35,36,37,42,43,44,49,50,55,56,57,62,63,64,88,93,95,97,98,100,102,103,130,131,136,137,142,143,241,242,247,249,250,255,256,257,258,262,263,264,265],row:=[],deep:=[],frz:=[],ghost:=[],gst:=[]}
 |_=>{}
def ghs:FuncId->yL (Nat×GOp)
 |_=>[]
def ZQ1:yL (Fs yb):=[ZaQ 18446744073709551616,ZjP 18446744073709551616,Zh4 18446744073709551616,ZfZ 18446744073709551616,Zh9 18446744073709551616,Zh7 18446744073709551616,Zh8 18446744073709551616,ZcR 18446744073709551616,ZyJ 18446744073709551616,Zl1 18446744073709551616,Zf0 18446744073709551616]
def specs:=ZQ1
def ZRZ:yL (TypeId×String×FuncId):=[]
theorem ZNr:AllOk specs:=⟨okN ZaQ ZoJ,okN ZjP ZAe,okN Zh4 Zh5,okN ZfZ ZmK,okN Zh9 Zou,okN Zh7 Zop,okN Zh8 Zoq,okN ZcR Zjc,okN ZyJ ZyK,okN Zl1 ZDj,okN Zf0 ZmN,ytt⟩
theorem ZO0:MtOk yb ZRZ:=trivial
theorem ran:ZQf yb his specs ZRZ 100 5 ghs=some true:=by decide+kernel
def ZQ2(F:Nat):Fs yb:=⟨5,[],[],[],(zN .bool),λ_=>some true⟩
def ZPo:Fs yb:=ZQ2 yD
theorem ZQ3:ZPo.Ok:=ZQg ZNr ZO0 ran
end
end Go.Proofs.YtdhclndplbopgaaGreat
end
