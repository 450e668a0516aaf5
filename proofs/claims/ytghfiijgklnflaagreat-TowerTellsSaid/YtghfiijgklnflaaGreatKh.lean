/- Parts of the proof, in one file. -/
import Derived.Test.YtghfiijgklnflaaGreatKg
open Go.Proofs.Tryz renaming prog → yc
set_option linter.unusedVariables false
section
set_option maxRecDepth 100000
namespace Go.Proofs.YtghfiijgklnflaaGreat
open Go Go.Ev
noncomputable section
def his:FuncId->HI
 |8=>{ eqs:=true,own:=[],still:=[0,20,21,22,24,25,27,28,30,31,33,36,39,40,42,44,45,49,51,53,55,57,60,61,63,65,66,88,89,97,98,115],row:=[],rowt:=[],deep:=[],frz:=[],ghost:=[],gst:=[]}
 |10=>{ eqs:=true,own:=[],still:=[4],row:=[],rowt:=[],deep:=[],frz:=[],ghost:=[],gst:=[]}
 |18=>{ eqs:=true,own:=[],still:=[4,20,22,24],row:=[],rowt:=[],deep:=[],frz:=[],ghost:=[],gst:=[]}
 |20=>{ eqs:=true,own:=[],still:=[],row:=[],rowt:=[],deep:=[],frz:=[],ghost:=[],gst:=[]}
 |22=>{ eqs:=true,own:=[],still:=[4],row:=[],rowt:=[],deep:=[],frz:=[],ghost:=[],gst:=[]}
 |24=>{ eqs:=true,own:=[],still:=[9],row:=[],rowt:=[],deep:=[],frz:=[],ghost:=[],gst:=[]}
 |26=>{ eqs:=true,own:=[47,55],still:=[6,29,30,51],row:=[],rowt:=[],deep:=[],frz:=[],ghost:=[],gst:=[]}
 |28=>{ eqs:=true,own:=[],still:=[2],row:=[],rowt:=[],deep:=[],frz:=[],ghost:=[],gst:=[]}
 |224=>{ eqs:=true,own:=[10,33,37,76,79],still:=[6,46,49,52,61,62,64,71],row:=[],rowt:=[],deep:=[],frz:=[],ghost:=[],gst:=[]}
 |225=>{ eqs:=true,own:=[],still:=[11,29,34,35],row:=[],rowt:=[],deep:=[],frz:=[],ghost:=[],gst:=[]}
 |226=>{ eqs:=true,own:=[],still:=[6],row:=[],rowt:=[],deep:=[],frz:=[],ghost:=[],gst:=[]}
 |227=>{ eqs:=true,own:=[],still:=[11,13],row:=[],rowt:=[],deep:=[],frz:=[12],ghost:=[],gst:=[]}
 |65=>{ eqs:=true,own:=[],still:=[],row:=[],rowt:=[5],deep:=[],frz:=[],ghost:=[],gst:=[]}
 |71=>{ eqs:=true,own:=[],still:=[4,5,6],row:=[],rowt:=[],deep:=[],frz:=[],ghost:=[],gst:=[]}
 |72=>{ eqs:=true,own:=[],still:=[3,11,13],row:=[],rowt:=[],deep:=[],frz:=[],ghost:=[],gst:=[]}
 |131=>{ eqs:=true,own:=[],still:=[4,15],row:=[],rowt:=[],deep:=[],frz:=[],ghost:=[],gst:=[]}
 |_=>{}
def ghs:FuncId->yL (Nat×GOp)
 |_=>[]
def ZKh:yL (Fs yc):=[Zap 18446744073709551616,Qe 18446744073709551616,Ztc 18446744073709551616,Zlr 18446744073709551616,Znk 18446744073709551616,Zld 18446744073709551616,Zh5 18446744073709551616,ZjI 18446744073709551616,ZgA 18446744073709551616,ZjY 18446744073709551616,Znv 18446744073709551616,Zlf 18446744073709551616,ZmL 18446744073709551616,ZgC 18446744073709551616,Zco 18446744073709551616,ZdM 18446744073709551616]
def specs:=ZKh
def ZLh:yL (TypeId×String×FuncId):=[(96, "corsned/tower.look",224),(96, "corsned/tower.prove",225),(105, "corsned/tower.look",226),(105, "corsned/tower.prove",227)]
theorem ZGq:AllOk specs:=⟨okN Zap Zln,okN Qe ZiJ,okN Ztc ZyY,okN Zlr Zep,okN Znk ZAQ,okN Zld Zle,okN Zh5 Zd6,okN ZjI ZfQ,okN ZgA ZgB,okN ZjY ZoF,okN Znv Zth,okN Zlf Qi,okN ZmL Zh1,okN ZgC Zlg,okN Zco ZhK,okN ZdM ZdN,ytt⟩
theorem Zy2:ZnC yc 96 "corsned/tower.look" 224:=λv args w=>by kernel_rfl
theorem Zy3:ZnC yc 96 "corsned/tower.prove" 225:=λv args w=>by kernel_rfl
theorem Zw5:ZnC yc 105 "corsned/tower.look" 226:=λv args w=>by kernel_rfl
theorem Zw6:ZnC yc 105 "corsned/tower.prove" 227:=λv args w=>by kernel_rfl
theorem ZIn:MtOk yc ZLh:=⟨Zy2,⟨Zy3,⟨Zw5,⟨Zw6,ytt⟩⟩⟩⟩
theorem ran:ZJF yc his specs ZLh 100 8 ghs=some true:=by decide+kernel
def ZKi(F:Nat):Fs yc:=⟨8,[],[],[],(zZ .bool),λ_=>some true⟩
def ZIO:Fs yc:=ZKi yD
theorem ZKj:ZIO.Ok:=ZJG ZGq ZIn ran
end
end Go.Proofs.YtghfiijgklnflaaGreat
end
