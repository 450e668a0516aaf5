/- Parts of the proof, in one file. -/
import Derived.Test.YtekdgjajmennjaaGreatKh
open Option renaming some → ab, none → ae
open Bool renaming true → af, false → ag
open Decidable renaming decide → ah
open Go.Proofs.Tryz renaming prog → yb
set_option linter.unusedVariables false
section
set_option maxRecDepth 100000
namespace Go.Proofs.YtekdgjajmennjaaGreat
open Go Go.Ev
noncomputable section
def go:FuncId->HI
 |6=>{ eqs:=af,own:=[],still:=[0,21,31,34,35,40,41,50,51,52,61,62,63,67,70,71,72,77,78,79,84,85,86,91,94,135,136,141,142],row:=[],bM:=[],deep:=[],cK:=[],bP:=[],eJ:=[]}
 |27=>{ eqs:=af,own:=[],still:=[2,3,33,39,77,85,93,98,99,100,101,106,109,110,111,114,119,121,122,123],row:=[],bM:=[],deep:=[],cK:=[],bP:=[],eJ:=[]}
 |82=>{ eqs:=af,own:=[],still:=[12,13,20,30,36,40,45,46,66,77,81,85,86],row:=[],bM:=[],deep:=[],cK:=[],bP:=[],eJ:=[]}
 |165=>{ eqs:=af,own:=[],still:=[6,15,17,25,26,27,28,32,33,51,53,54,55],row:=[],bM:=[],deep:=[],cK:=[],bP:=[],eJ:=[]}
 |167=>{ eqs:=af,own:=[],still:=[3,7],row:=[],bM:=[],deep:=[],cK:=[],bP:=[],eJ:=[]}
 |220=>{ eqs:=af,own:=[63,67],still:=[27,28],row:=[],bM:=[],deep:=[],cK:=[],bP:=[],eJ:=[]}
 |246=>{ eqs:=af,own:=[5,26,42],still:=[4],row:=[],bM:=[],deep:=[],cK:=[],bP:=[],eJ:=[]}
 |84=>{ eqs:=af,own:=[],still:=[12,17,25,26,27,31,32],row:=[],bM:=[],deep:=[],cK:=[],bP:=[],eJ:=[]}
 |163=>{ eqs:=af,own:=[],still:=[0],row:=[],bM:=[],deep:=[],cK:=[],bP:=[],eJ:=[]}
 |164=>{ eqs:=af,own:=[],still:=[2,9,20,24],row:=[],bM:=[],deep:=[],cK:=[],bP:=[],eJ:=[]}
 |28=>{ eqs:=af,own:=[],still:=[],row:=[],bM:=[],deep:=[],cK:=[],bP:=[],eJ:=[]}
 |29=>{ eqs:=af,own:=[],still:=[5,53,57,59,60,62,67,81,83,87,89,91],row:=[],bM:=[],deep:=[],cK:=[],bP:=[],eJ:=[]}
 |_=>{}
def iG:FuncId->yL (Nat×kl)
 |_=>[]
def ZTI:yL (Fs yb):=[RC 18446744073709551616,PD 18446744073709551616,NO 18446744073709551616,NV 18446744073709551616,OG 18446744073709551616,OF 18446744073709551616,OO 18446744073709551616,OI 18446744073709551616,ME 18446744073709551616,LS 18446744073709551616,RG 18446744073709551616,PU 18446744073709551616,PZ 18446744073709551616,RB 18446744073709551616,RF 18446744073709551616,RJ 18446744073709551616,OX 18446744073709551616,OD 18446744073709551616,PX 18446744073709551616,LX 18446744073709551616,CY 18446744073709551616,MF 18446744073709551616,CZ 18446744073709551616,PM 18446744073709551616,PV 18446744073709551616,NK 18446744073709551616,NI 18446744073709551616]
def aB:=ZTI.map Fs.fo
def ZUS:yL (TypeId×String×FuncId):=[]
theorem ZPd:cG aB:=ZGQ ⟨eu RC Zo9,eu PD ZoM,eu NO Zp9,eu NV Zqc,eu OG Zsx,eu OF ZkZ,eu OO OQ,eu OI Qi,eu ME Qg,eu LS Vq,eu RG Zvq,eu PU ZA1,eu PZ ZA3,eu RB ZA4,eu RF ZE5,eu RJ ZtP,eu OX tZ,eu OD zL,eu PX ZqL,eu LX LZ,ZFk,eu MF ZpX,ZFl,eu PM ZqC,eu PV Zvm,eu NK QS,eu NI zi,ao⟩
theorem ZRg:gJ yb ZUS:=trivial
theorem ran:KV yb go aB ZUS 100 6 iG=ab af:=by decide+kernel
def ZTJ(F:Nat):Fs yb:=⟨6,[],[],[],(zP .bool),λ_=>ab af⟩
def ZRT:Fs yb:=ZTJ yD
theorem ZTK:ZRT.Ok:=ZST ZPd ZRg ran
end
end Go.Proofs.YtekdgjajmennjaaGreat
end
