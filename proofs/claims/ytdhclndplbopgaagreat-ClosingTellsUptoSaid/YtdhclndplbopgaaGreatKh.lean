/- Parts of the proof, in one file. -/
import Derived.Test.YtdhclndplbopgaaGreatKg
open Go.Proofs.Tryz renaming prog → yb
set_option linter.unusedVariables false
section
set_option maxRecDepth 100000
namespace Go.Proofs.YtdhclndplbopgaaGreat
open Go Go.Ev
noncomputable section
def his:FuncId->HI
 |25=>{ eqs:=true,own:=[],still:=[0,42,66,70,79,82,94,97,102,105,110,113,121,124,129,132,141,142,147,148,153,158,173,174,177,182,183,186,191,192,195,232,233,253],row:=[],deep:=[],frz:=[],ghost:=[],gst:=[]}
 |85=>{ eqs:=true,own:=[],still:=[7,8,20,45,48,49,50,55,56,57],row:=[],deep:=[],frz:=[],ghost:=[],gst:=[]}
 |174=>{ eqs:=true,own:=[],still:=[6],row:=[],deep:=[],frz:=[],ghost:=[],gst:=[]}
 |30=>{ eqs:=true,own:=[],still:=[12,13,23,28,37,38,42,43,44,45,58],row:=[],deep:=[],frz:=[],ghost:=[(55,[([6],Zc,99),([7],Zc,99)])],gst:=[]}
 |34=>{ eqs:=true,own:=[],still:=[2,30,33,35],row:=[],deep:=[],frz:=[],ghost:=[],gst:=[]}
 |36=>{ eqs:=true,own:=[72,134],still:=[4,5,20,30,38,40,58,62,63,65,72,73,95,97,101,102,103,105,107,122,123,124,125,127,134,135],row:=[],deep:=[],frz:=[],ghost:=[],gst:=[]}
 |32=>{ eqs:=true,own:=[3,15,17],still:=[2,15,16],row:=[],deep:=[],frz:=[],ghost:=[],gst:=[]}
 |103=>{ eqs:=true,own:=[8],still:=[8,9],row:=[],deep:=[],frz:=[],ghost:=[],gst:=[]}
 |102=>{ eqs:=true,own:=[0,16,28],still:=[4,8,10,20],row:=[],deep:=[],frz:=[],ghost:=[],gst:=[]}
 |107=>{ eqs:=true,own:=[],still:=[5,7,8],row:=[],deep:=[],frz:=[],ghost:=[],gst:=[]}
 |38=>{ eqs:=true,own:=[],still:=[3,12,19,37,38,41,43,45],row:=[],deep:=[],frz:=[],ghost:=[],gst:=[]}
 |110=>{ eqs:=true,own:=[],still:=[9,13,17,21],row:=[],deep:=[],frz:=[],ghost:=[],gst:=[]}
 |189=>{ eqs:=true,own:=[],still:=[3],row:=[],deep:=[],frz:=[],ghost:=[],gst:=[]}
 |188=>{ eqs:=true,own:=[],still:=[4,15],row:=[],deep:=[],frz:=[],ghost:=[],gst:=[]}
 |26=>{ eqs:=true,own:=[],still:=[2],row:=[],deep:=[],frz:=[],ghost:=[],gst:=[]}
 |183=>{ eqs:=true,own:=[5,7],still:=[2],row:=[],deep:=[],frz:=[],ghost:=[],gst:=[]}
 |_=>{}
def ghs:FuncId->yL (Nat×GOp)
 |85=>[(8,.melt 13),(14,.nn 17)]
 |30=>[(10,.any 14 4 (.arr 2 Ze))]
 |_=>[]
def ZNP:yL (Fs yb):=[Zbx 18446744073709551616,Zgj 18446744073709551616,Zif 18446744073709551616,Zgm 18446744073709551616,Zgo 18446744073709551616,Zn7 18446744073709551616,ZjW 18446744073709551616,ZjZ 18446744073709551616,ZlK 18446744073709551616,ZiG 18446744073709551616,Ziy 18446744073709551616,ZiE 18446744073709551616,ZiB 18446744073709551616,ZwC 18446744073709551616,ZqC 18446744073709551616,Zmb 18446744073709551616,VU 18446744073709551616,VT 18446744073709551616,Zir 18446744073709551616,Zdt 18446744073709551616,ZeQ 18446744073709551616,ZiA 18446744073709551616,Zgr 18446744073709551616]
def specs:=ZNP
def ZOV:yL (TypeId×String×FuncId):=[]
theorem ZKd:AllOk specs:=⟨okN Zbx ZfY,okN Zgj Zcq,okN Zif Zig,okN Zgm Zgn,okN Zgo Zgp,okN Zn7 ZCt,okN ZjW ZaD,okN ZjZ Zcb,okN ZlK ZlL,okN ZiG Zod,okN Ziy Ziz,okN ZiE Zn6,okN ZiB Zn3,okN ZwC ZwD,okN ZqC ZEs,okN Zmb ZAx,okN VU ZbS,okN VT ZbQ,okN Zir ZnQ,okN Zdt ZjC,okN ZeQ ZeR,okN ZiA Zn2,okN Zgr Zau,ytt⟩
theorem ZLK:MtOk yb ZOV:=trivial
theorem ran:ZM3 yb his specs ZOV 100 25 ghs=some true:=by decide+kernel
def ZNQ(F:Nat):Fs yb:=⟨25,[],[],[],(zE .bool),λ_=>some true⟩
def ZMa:Fs yb:=ZNQ yD
theorem ZNR:ZMa.Ok:=ZM4 ZKd ZLK ran
end
end Go.Proofs.YtdhclndplbopgaaGreat
end
