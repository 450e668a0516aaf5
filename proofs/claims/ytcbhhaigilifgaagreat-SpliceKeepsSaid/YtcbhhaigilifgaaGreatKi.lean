/- Parts of the proof, in one file. -/
import Derived.Test.YtcbhhaigilifgaaGreatKh
open Option renaming some → ab, none → ad
open Bool renaming true → ae, false → af
open Decidable renaming decide → ag
open Go.Proofs.Tryz renaming prog → yb
set_option linter.unusedVariables false
section
set_option maxRecDepth 100000
namespace Go.Proofs.YtcbhhaigilifgaaGreat
open Go Go.Ev
noncomputable section
def eZ:FuncId->HI
 |8=>{ eqs:=ae,own:=[],still:=[0,36,55,56,57,67,68,69,76,77,80,86,90,93,94,95,100,101,102,107,109,110,111,115,116,117,118,120,122,125,130,181,203,205,258,260],row:=[],cO:=[],deep:=[],eD:=[],cq:=[],gR:=[]}
 |25=>{ eqs:=ae,own:=[55,60],still:=[7,28,29,30,40,42,47],row:=[],cO:=[],deep:=[],eD:=[],cq:=[],gR:=[]}
 |29=>{ eqs:=ae,own:=[10,29,35,37],still:=[10,11,16,17,18,19,30,32],row:=[],cO:=[],deep:=[],eD:=[],cq:=[],gR:=[]}
 |30=>{ eqs:=ae,own:=[],still:=[10,16,17,18,19,50,52,53,57],row:=[],cO:=[],deep:=[],eD:=[],cq:=[],gR:=[]}
 |34=>{ eqs:=ae,own:=[],still:=[6,8,9],row:=[],cO:=[],deep:=[],eD:=[],cq:=[],gR:=[]}
 |35=>{ eqs:=ae,own:=[],still:=[5],row:=[],cO:=[69],deep:=[],eD:=[],cq:=[],gR:=[]}
 |68=>{ eqs:=ae,own:=[],still:=[4,8,9],row:=[],cO:=[],deep:=[],eD:=[],cq:=[],gR:=[]}
 |124=>{ eqs:=ae,own:=[],still:=[4,15],row:=[],cO:=[],deep:=[],eD:=[],cq:=[],gR:=[]}
 |125=>{ eqs:=ae,own:=[],still:=[3],row:=[],cO:=[],deep:=[],eD:=[],cq:=[],gR:=[]}
 |_=>{}
def ja:FuncId->yL (Nat×kK)
 |25=>[(10,.fresh 0 0),(11,.fresh 0 0)]
 |34=>[(3,.fresh 0 0)]
 |_=>[]
def ZMd:yL (Fs yb):=[VY 18446744073709551616,QK 18446744073709551616,MF 18446744073709551616,LN 18446744073709551616,MS 18446744073709551616,VI 18446744073709551616,MR 18446744073709551616,MT 18446744073709551616,NK 18446744073709551616,KS 18446744073709551616,NL 18446744073709551616]
def aK:=ZMd.map Fs.fo
def ZNq:yL (TypeId×String×FuncId):=[]
def fP:FuncId->yL (Nat×Lp)
 |25=>[(4,(RW 18446744073709551616).fo)]
 |_=>[]
theorem ZMe:sU yb fP:=ZI3 λg=>by
 unfold fP;split
 .exact⟨Lp.sV (isN RW ZiT),aw⟩
 .exact trivial
theorem ZH1:dC aK:=Zy2 ⟨jX VY ZiO,jX QK Zdh,jX MF MG,jX LN ZfZ,jX MS Zt7,jX VI Zib,jX MR ZpS,jX MT Zt8,jX NK ZsU,jX KS KU,jX NL ZsX,aw⟩
theorem ZJX:ib yb ZNq:=trivial
theorem ran:JF yb eZ aK ZNq 100 8 ja fP=ab ae:=by decide+kernel
def ZMf(F:Nat):Fs yb:=⟨8,[],[],[],(zN .bool),λ_=>ab ae⟩
def ZKt:Fs yb:=ZMf yD
theorem ZMg:ZKt.Ok:=ZLn ZH1 ZJX ran ZMe
end
end Go.Proofs.YtcbhhaigilifgaaGreat
end
