/- Parts of the proof, in one file. -/
import Derived.Test.YtcbhhaigilifgaaGreatKh
open Option renaming some → ab, none → ad
open Bool renaming true → ae, false → af
open Decidable renaming decide → ag
open Go.Proofs.Tryz renaming prog → yb
set_option linter.unusedVariables false
section
set_option maxRecDepth 100000
namespace Go.Proofs.YtcbhhaigilifgaaGreat
open Go Go.Ev
noncomputable section
def eX:FuncId->HI
 |8=>{ eqs:=ae,own:=[],still:=[0,36,55,56,57,67,68,69,76,77,80,86,90,93,94,95,100,101,102,107,109,110,111,115,116,117,118,120,122,125,130,181,203,205,258,260],row:=[],cL:=[],deep:=[],eC:=[],cq:=[],gM:=[]}
 |25=>{ eqs:=ae,own:=[55,60],still:=[7,28,29,30,40,42,47],row:=[],cL:=[],deep:=[],eC:=[],cq:=[],gM:=[]}
 |29=>{ eqs:=ae,own:=[10,29,35,37],still:=[10,11,16,17,18,19,30,32],row:=[],cL:=[],deep:=[],eC:=[],cq:=[],gM:=[]}
 |30=>{ eqs:=ae,own:=[],still:=[10,16,17,18,19,50,52,53,57],row:=[],cL:=[],deep:=[],eC:=[],cq:=[],gM:=[]}
 |34=>{ eqs:=ae,own:=[],still:=[6,8,9],row:=[],cL:=[],deep:=[],eC:=[],cq:=[],gM:=[]}
 |35=>{ eqs:=ae,own:=[],still:=[5],row:=[],cL:=[69],deep:=[],eC:=[],cq:=[],gM:=[]}
 |68=>{ eqs:=ae,own:=[],still:=[4,8,9],row:=[],cL:=[],deep:=[],eC:=[],cq:=[],gM:=[]}
 |124=>{ eqs:=ae,own:=[],still:=[4,15],row:=[],cL:=[],deep:=[],eC:=[],cq:=[],gM:=[]}
 |125=>{ eqs:=ae,own:=[],still:=[3],row:=[],cL:=[],deep:=[],eC:=[],cq:=[],gM:=[]}
 |_=>{}
def iX:FuncId->yL (Nat×kG)
 |25=>[(10,.fresh 0 0),(11,.fresh 0 0)]
 |34=>[(3,.fresh 0 0)]
 |_=>[]
def ZLh:yL (Fs yb):=[VL 18446744073709551616,Qq 18446744073709551616,LL 18446744073709551616,KW 18446744073709551616,MC 18446744073709551616,Vw 18446744073709551616,LX 18446744073709551616,MD 18446744073709551616,MU 18446744073709551616,KE 18446744073709551616,MV 18446744073709551616]
def aJ:=ZLh.map Fs.fo
def ZMt:yL (TypeId×String×FuncId):=[]
def fI:FuncId->yL (Nat×Lp)
 |25=>[(4,(PR 18446744073709551616).fo)]
 |_=>[]
theorem ZLi:sF yb fI:=ZIb λg=>by
 unfold fI;split
 .exact⟨Lp.sG (isN PR Zid),aB⟩
 .exact trivial
theorem ZG8:dA aJ:=Zyd ⟨jR VL Zh9,jR Qq ZcP,jR LL LM,jR KW Zfs,jR MC Ztg,jR Vw Zhz,jR LX LZ,jR MD Zth,jR MU Zr6,jR KE KG,jR MV Zr9,aB⟩
theorem ZI3:gX yb ZMt:=trivial
theorem ran:IS yb eX aJ ZMt 100 8 iX fI=ab ae:=by decide+kernel
def ZLj(F:Nat):Fs yb:=⟨8,[],[],[],(zN .bool),λ_=>ab ae⟩
def ZJv:Fs yb:=ZLj yD
theorem ZLk:ZJv.Ok:=ZKr ZG8 ZI3 ran ZLi
end
end Go.Proofs.YtcbhhaigilifgaaGreat
end
