/- Parts of the proof, in one file. -/
import Derived.Test.YtekdgjajmennjaaGreatKg
open Go.Proofs.Tryz renaming prog → ya
set_option linter.unusedVariables false
section
set_option maxRecDepth 100000
namespace Go.Proofs.YtekdgjajmennjaaGreat
open Go Go.Ev
noncomputable section
def his:FuncId→HI
 |6=>{ eqs:=true,own:=[],still:=[0,21,31,34,35,40,41,50,51,52,61,62,63,67,70,71,72,77,78,79,84,85,86,91,94,135,136,141,142],row:=[],rowt:=[],deep:=[],frz:=[],ghost:=[],gst:=[]}
 |27=>{ eqs:=true,own:=[],still:=[2,3,33,39,77,85,93,98,99,100,101,106,109,110,111,114,119,121,122,123],row:=[],rowt:=[],deep:=[],frz:=[],ghost:=[],gst:=[]}
 |82=>{ eqs:=true,own:=[],still:=[12,13,20,30,36,40,45,46,66,77,81,85,86],row:=[],rowt:=[],deep:=[],frz:=[],ghost:=[],gst:=[]}
 |165=>{ eqs:=true,own:=[],still:=[6,15,17,25,26,27,28,32,33,51,53,54,55],row:=[],rowt:=[],deep:=[],frz:=[],ghost:=[],gst:=[]}
 |167=>{ eqs:=true,own:=[],still:=[3,7],row:=[],rowt:=[],deep:=[],frz:=[],ghost:=[],gst:=[]}
 |220=>{ eqs:=true,own:=[63,67],still:=[27,28],row:=[],rowt:=[],deep:=[],frz:=[],ghost:=[],gst:=[]}
 |246=>{ eqs:=true,own:=[5,26,42],still:=[4],row:=[],rowt:=[],deep:=[],frz:=[],ghost:=[],gst:=[]}
 |84=>{ eqs:=true,own:=[],still:=[12,17,25,26,27,31,32],row:=[],rowt:=[],deep:=[],frz:=[],ghost:=[],gst:=[]}
 |163=>{ eqs:=true,own:=[],still:=[0],row:=[],rowt:=[],deep:=[],frz:=[],ghost:=[],gst:=[]}
 |164=>{ eqs:=true,own:=[],still:=[2,9,20,24],row:=[],rowt:=[],deep:=[],frz:=[],ghost:=[],gst:=[]}
 |28=>{ eqs:=true,own:=[],still:=[],row:=[],rowt:=[],deep:=[],frz:=[],ghost:=[],gst:=[]}
 |29=>{ eqs:=true,own:=[],still:=[5,53,57,59,60,62,67,81,83,87,89,91],row:=[],rowt:=[],deep:=[],frz:=[],ghost:=[],gst:=[]}
 |_=>{}
def ghs:FuncId→List (Nat×GOp)
 |_=>[]
def ZMY:List (Fs ya):=[WL 18446744073709551616,Zcd 18446744073709551616,ZdX 18446744073709551616,Zd5 18446744073709551616,ZfI 18446744073709551616,Q3 18446744073709551616,Zjx 18446744073709551616,ZfJ 18446744073709551616,ZfD 18446744073709551616,ZdI 18446744073709551616,Zan 18446744073709551616,Zen 18446744073709551616,Zeq 18446744073709551616,Zet 18446744073709551616,Zhy 18446744073709551616,Qg 18446744073709551616,Zug 18446744073709551616,Zhg 18446744073709551616,Zeo 18446744073709551616,Zg3 18446744073709551616,Zc7 18446744073709551616,ZdP 18446744073709551616,Zc8 18446744073709551616,Zef 18446744073709551616,Zad 18446744073709551616,Zjn 18446744073709551616,Zca 18446744073709551616]
def specs:=ZMY.map Fs.fo
def ZNQ:List (TypeId×String×FuncId):=[]
theorem ZJf:AllOk specs:=ZBb ⟨okN WL Ziv,okN Zcd Zh8,okN ZdX Zt0,okN Zd5 Zt3,okN ZfI ZvA,okN Q3 Zfb,okN Zjx Zjy,okN ZfJ XO,okN ZfD XL,okN ZdI Xo,okN Zan ZoC,okN Zen ZuG,okN Zeq ZuJ,okN Zet ZuK,okN Zhy Zzw,okN Qg ZmN,okN Zug ZjB,okN Zhg ZcX,okN Zeo Zj2,okN Zg3 Zg4,ZzF,okN ZdP Zja,ZzG,okN Zef ZjT,okN Zad Zoy,okN Zjn X9,okN Zca VX,ytt⟩
theorem ZKS:MtOk ya ZNQ:=trivial
theorem ran:ZMf ya his specs ZNQ 100 6 ghs=some true:=by decide+kernel
def ZMZ(F:Nat):Fs ya:=⟨6,[],[],[],[⟨.ret,[(0,.v .bool)],[],[.bool]⟩],λ_=>some true⟩
def ZLi:Fs ya:=ZMZ fuel
theorem ZM0:ZLi.Ok:=ZMg ZJf ZKS ran
end
end Go.Proofs.YtekdgjajmennjaaGreat
end
