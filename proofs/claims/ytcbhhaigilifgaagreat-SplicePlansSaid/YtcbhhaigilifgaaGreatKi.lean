/- Parts of the proof, in one file. -/
import Derived.Test.YtcbhhaigilifgaaGreatKh
open Option renaming some → ab, none → ad
open Bool renaming true → ae, false → af
open Decidable renaming decide → ag
open Go.Proofs.Tryz renaming prog → yb
set_option linter.unusedVariables false
section
set_option maxRecDepth 100000
namespace Go.Proofs.YtcbhhaigilifgaaGreat
open Go Go.Ev
noncomputable section
def fH:FuncId->HI
 |8=>{ eqs:=ae,own:=[],still:=[0,36,55,56,57,67,68,69,76,77,80,86,90,93,94,95,100,101,102,107,109,110,111,115,116,117,118,120,122,125,130,181,203,205,258,260],row:=[],cE:=[],deep:=[],dX:=[],cm:=[],gf:=[]}
 |25=>{ eqs:=ae,own:=[55,60],still:=[7,28,29,30,40,42,47],row:=[],cE:=[],deep:=[],dX:=[],cm:=[],gf:=[]}
 |29=>{ eqs:=ae,own:=[10,29,35,37],still:=[10,11,16,17,18,19,30,32],row:=[],cE:=[],deep:=[],dX:=[],cm:=[],gf:=[]}
 |30=>{ eqs:=ae,own:=[],still:=[10,16,17,18,19,50,52,53,57],row:=[],cE:=[],deep:=[],dX:=[],cm:=[],gf:=[]}
 |34=>{ eqs:=ae,own:=[],still:=[6,8,9],row:=[],cE:=[],deep:=[],dX:=[],cm:=[],gf:=[]}
 |35=>{ eqs:=ae,own:=[],still:=[5],row:=[],cE:=[69],deep:=[],dX:=[],cm:=[],gf:=[]}
 |68=>{ eqs:=ae,own:=[],still:=[4,8,9],row:=[],cE:=[],deep:=[],dX:=[],cm:=[],gf:=[]}
 |124=>{ eqs:=ae,own:=[],still:=[4,15],row:=[],cE:=[],deep:=[],dX:=[],cm:=[],gf:=[]}
 |125=>{ eqs:=ae,own:=[],still:=[3],row:=[],cE:=[],deep:=[],dX:=[],cm:=[],gf:=[]}
 |_=>{}
def iX:FuncId->yL (Nat×kD)
 |25=>[(10,.fresh 0 0),(11,.fresh 0 0)]
 |34=>[(3,.fresh 0 0)]
 |_=>[]
def ZO9:yL (Fs yb):=[QM 18446744073709551616,MJ 18446744073709551616,MC 18446744073709551616,LL 18446744073709551616,MM 18446744073709551616,Qx 18446744073709551616,ML 18446744073709551616,MN 18446744073709551616,NE 18446744073709551616,KS 18446744073709551616,NF 18446744073709551616]
def aF:=ZO9.map Fs.fo
def ZQB:yL (TypeId×String×FuncId):=[]
def fv:FuncId->yL (Nat×Lp)
 |25=>[(4,(RN 18446744073709551616).fo)]
 |_=>[]
theorem ZPa:sS yb fv:=ZLZ λg=>by
 unfold fv;split
 .exact⟨Lp.sT (isN RN ZlV),ao⟩
 .exact trivial
theorem ZKZ:dt aF:=ZB3 ⟨jM QM ZlB,jM MJ ZmN,jM MC MD,jM LL Zid,jM MM Zxd,jM Qx Zk3,jM ML ZsZ,jM MN Zxe,jM NE Zv8,jM KS KU,jM NF Zwb,ao⟩
theorem ZML:gO yb ZQB:=trivial
theorem ran:JB yb fH aF ZQB 100 8 iX fv=ab ae:=by decide+kernel
def ZPb(F:Nat):Fs yb:=⟨8,[],[],[],(zN .bool),λ_=>ab ae⟩
def ZNk:Fs yb:=ZPb yD
theorem ZPc:ZNk.Ok:=ZOa ZKZ ZML ran ZPa
end
end Go.Proofs.YtcbhhaigilifgaaGreat
end
