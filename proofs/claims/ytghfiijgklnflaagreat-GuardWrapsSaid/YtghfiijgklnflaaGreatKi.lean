/- Parts of the proof, in one file. -/
import Derived.Test.YtghfiijgklnflaaGreatKh
open Option renaming some → ab, none → ad
open Bool renaming true → ae, false → af
open Decidable renaming decide → ag
open Go.Proofs.Tryz renaming prog → yc
set_option linter.unusedVariables false
section
set_option maxRecDepth 100000
namespace Go.Proofs.YtghfiijgklnflaaGreat
open Go Go.Ev
noncomputable section
def fG:FuncId->HI
 |29=>{ eqs:=ae,own:=[],still:=[0,29,32,33,38,39,44,45,70,71,88,91,92,95,96,100,103,104,107,108,112,113,120,121,131,159,162,167,170,174,179,181,185,186,187,191,195,201,207,208,211,216,217,222,223,228,229,232,237],row:=[79],bj:=[28],deep:=[],bS:=[],aZ:=[],cO:=[]}
 |38=>{ eqs:=ae,own:=[],still:=[2],row:=[],bj:=[],deep:=[],bS:=[],aZ:=[],cO:=[]}
 |39=>{ eqs:=ae,own:=[],still:=[6,30],row:=[],bj:=[8,24,27,29,32,38],deep:=[],bS:=[],aZ:=[],cO:=[]}
 |41=>{ eqs:=ae,own:=[62,66,74],still:=[6,8,23,24,63],row:=[],bj:=[],deep:=[],bS:=[],aZ:=[],cO:=[]}
 |42=>{ eqs:=ae,own:=[],still:=[8,9,52,53,55,57,58,65,66],row:=[],bj:=[],deep:=[],bS:=[],aZ:=[],cO:=[]}
 |43=>{ eqs:=ae,own:=[],still:=[4],row:=[],bj:=[],deep:=[],bS:=[],aZ:=[],cO:=[]}
 |44=>{ eqs:=ae,own:=[],still:=[4,5,6,7,8],row:=[],bj:=[],deep:=[],bS:=[],aZ:=[],cO:=[]}
 |46=>{ eqs:=ae,own:=[],still:=[10,19,20,21,43,44,45,53,54,55,58,59,67,68],row:=[],bj:=[],deep:=[],bS:=[],aZ:=[],cO:=[]}
 |47=>{ eqs:=ae,own:=[5,24,28],still:=[4,18,19,25],row:=[],bj:=[],deep:=[],bS:=[],aZ:=[],cO:=[]}
 |95=>{ eqs:=ae,own:=[],still:=[3,12],row:=[],bj:=[],deep:=[],bS:=[6],aZ:=[],cO:=[]}
 |97=>{ eqs:=ae,own:=[],still:=[5,7,8,10,11],row:=[],bj:=[],deep:=[],bS:=[],aZ:=[],cO:=[]}
 |96=>{ eqs:=ae,own:=[],still:=[6,7],row:=[],bj:=[0,4],deep:=[],bS:=[],aZ:=[],cO:=[]}
 |149=>{ eqs:=ae,own:=[],still:=[15,16,17,24,25,26,37,40,41,42,56,57,58,59],row:=[],bj:=[0,14,23,36,55],deep:=[],bS:=[],aZ:=[],cO:=[]}
 |187=>{ eqs:=ae,own:=[],still:=[26,31],row:=[],bj:=[0,37,39],deep:=[],bS:=[],aZ:=[],cO:=[]}
 |99=>{ eqs:=ae,own:=[],still:=[4,8,9],row:=[],bj:=[],deep:=[],bS:=[],aZ:=[],cO:=[]}
 |151=>{ eqs:=ae,own:=[],still:=[3,4,5],row:=[],bj:=[],deep:=[],bS:=[],aZ:=[],cO:=[]}
 |101=>{ eqs:=ae,own:=[5,30,33],still:=[4],row:=[],bj:=[],deep:=[],bS:=[],aZ:=[],cO:=[]}
 |106=>{ eqs:=ae,own:=[],still:=[4,5,6],row:=[],bj:=[],deep:=[],bS:=[],aZ:=[],cO:=[]}
 |156=>{ eqs:=ae,own:=[],still:=[4],row:=[],bj:=[],deep:=[],bS:=[],aZ:=[],cO:=[]}
 |10=>{ eqs:=ae,own:=[],still:=[4],row:=[],bj:=[],deep:=[],bS:=[],aZ:=[],cO:=[]}
 |18=>{ eqs:=ae,own:=[],still:=[4,20,22,24],row:=[],bj:=[],deep:=[],bS:=[],aZ:=[],cO:=[]}
 |24=>{ eqs:=ae,own:=[],still:=[9],row:=[],bj:=[],deep:=[],bS:=[],aZ:=[],cO:=[]}
 |26=>{ eqs:=ae,own:=[47,55],still:=[6,29,30,51],row:=[],bj:=[],deep:=[],bS:=[],aZ:=[],cO:=[]}
 |28=>{ eqs:=ae,own:=[],still:=[2],row:=[],bj:=[],deep:=[],bS:=[],aZ:=[],cO:=[]}
 |72=>{ eqs:=ae,own:=[],still:=[3,11,13],row:=[],bj:=[],deep:=[],bS:=[],aZ:=[],cO:=[]}
 |71=>{ eqs:=ae,own:=[],still:=[4,5,6],row:=[],bj:=[],deep:=[],bS:=[],aZ:=[],cO:=[]}
 |131=>{ eqs:=ae,own:=[],still:=[4,15],row:=[],bj:=[],deep:=[],bS:=[],aZ:=[],cO:=[]}
 |64=>{ eqs:=ae,own:=[22,26],still:=[6],row:=[],bj:=[],deep:=[],bS:=[],aZ:=[],cO:=[]}
 |65=>{ eqs:=ae,own:=[],still:=[],row:=[],bj:=[5],deep:=[],bS:=[],aZ:=[],cO:=[]}
 |224=>{ eqs:=ae,own:=[10,33,37,76,79],still:=[6,46,49,52,61,62,64,71],row:=[],bj:=[],deep:=[],bS:=[],aZ:=[],cO:=[]}
 |225=>{ eqs:=ae,own:=[],still:=[11,29,34,35],row:=[],bj:=[],deep:=[],bS:=[],aZ:=[],cO:=[]}
 |226=>{ eqs:=ae,own:=[],still:=[6],row:=[],bj:=[],deep:=[],bS:=[],aZ:=[],cO:=[]}
 |227=>{ eqs:=ae,own:=[],still:=[11,13],row:=[],bj:=[],deep:=[],bS:=[12],aZ:=[],cO:=[]}
 |_=>{}
def ii:FuncId->yL (Nat×jH)
 |_=>[]
def ZNh:yL (Fs yc):=[JC 18446744073709551616,JK 18446744073709551616,KU 18446744073709551616,IZ 18446744073709551616,JQ 18446744073709551616,JM 18446744073709551616,IR 18446744073709551616,JL 18446744073709551616,HS 18446744073709551616,HU 18446744073709551616,HW 18446744073709551616,JR 18446744073709551616,JD 18446744073709551616,JJ 18446744073709551616,HT 18446744073709551616,ZmZ 18446744073709551616,JN 18446744073709551616,JO 18446744073709551616,JP 18446744073709551616,JS 18446744073709551616]
def aD:=ZNh.map Fs.fo
def ZN5:yL (TypeId×String×FuncId):=[(96, "corsned/tower.look",224),(96, "corsned/tower.prove",225),(105, "corsned/tower.look",226),(105, "corsned/tower.prove",227)]
theorem ZJA:cP aD:=ZAK ⟨fy JC Zna,fy JK Znb,fy KU Zvj,fy IZ JB,fy JQ Zvh,fy JM Zlp,fy IR wm,fy JL Zt7,fy HS ZqL,fy HU vR,fy HW HY,fy JR Zt8,fy JD ZoY,fy JJ Zt4,fy HT oU,fy ZmZ ZuT,fy JN Zlq,fy JO Zhq,fy JP Ziu,fy JS ZA7,aw⟩
theorem ZBA:jk yc 96 "corsned/tower.look" 224:=λv c w=>by kernel_rfl
theorem ZBB:jk yc 96 "corsned/tower.prove" 225:=λv c w=>by kernel_rfl
theorem Zzb:jk yc 105 "corsned/tower.look" 226:=λv c w=>by kernel_rfl
theorem Zzc:jk yc 105 "corsned/tower.prove" 227:=λv c w=>by kernel_rfl
theorem ZLe:gC yc ZN5:=⟨ZBA,⟨ZBB,⟨Zzb,⟨Zzc,aw⟩⟩⟩⟩
theorem ran:GQ yc fG aD ZN5 100 29 ii=ab ae:=by decide+kernel
def ZNi(F:Nat):Fs yc:=⟨29,[],[],[],(zP .bool),λ_=>ab ae⟩
def ZLz:Fs yc:=ZNi yD
theorem ZNj:ZLz.Ok:=ZMG ZJA ZLe ran
end
end Go.Proofs.YtghfiijgklnflaaGreat
end
