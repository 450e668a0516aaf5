/- Parts of the proof, in one file. -/
import Derived.Test.YtekdgjajmennjaaGreatKh
open Option renaming some → ab, none → ae
open Bool renaming true → af, false → ag
open Decidable renaming decide → ah
open Go.Proofs.Tryz renaming prog → yb
set_option linter.unusedVariables false
section
set_option maxRecDepth 100000
namespace Go.Proofs.YtekdgjajmennjaaGreat
open Go Go.Ev
noncomputable section
def fL:FuncId->HI
 |6=>{ eqs:=af,own:=[],still:=[0,21,31,34,35,40,41,50,51,52,61,62,63,67,70,71,72,77,78,79,84,85,86,91,94,135,136,141,142],row:=[],bU:=[],deep:=[],cW:=[],cb:=[],ff:=[]}
 |27=>{ eqs:=af,own:=[],still:=[2,3,33,39,77,85,93,98,99,100,101,106,109,110,111,114,119,121,122,123],row:=[],bU:=[],deep:=[],cW:=[],cb:=[],ff:=[]}
 |82=>{ eqs:=af,own:=[],still:=[12,13,20,30,36,40,45,46,66,77,81,85,86],row:=[],bU:=[],deep:=[],cW:=[],cb:=[],ff:=[]}
 |165=>{ eqs:=af,own:=[],still:=[6,15,17,25,26,27,28,32,33,51,53,54,55],row:=[],bU:=[],deep:=[],cW:=[],cb:=[],ff:=[]}
 |167=>{ eqs:=af,own:=[],still:=[3,7],row:=[],bU:=[],deep:=[],cW:=[],cb:=[],ff:=[]}
 |220=>{ eqs:=af,own:=[63,67],still:=[27,28],row:=[],bU:=[],deep:=[],cW:=[],cb:=[],ff:=[]}
 |246=>{ eqs:=af,own:=[5,26,42],still:=[4],row:=[],bU:=[],deep:=[],cW:=[],cb:=[],ff:=[]}
 |84=>{ eqs:=af,own:=[],still:=[12,17,25,26,27,31,32],row:=[],bU:=[],deep:=[],cW:=[],cb:=[],ff:=[]}
 |163=>{ eqs:=af,own:=[],still:=[0],row:=[],bU:=[],deep:=[],cW:=[],cb:=[],ff:=[]}
 |164=>{ eqs:=af,own:=[],still:=[2,9,20,24],row:=[],bU:=[],deep:=[],cW:=[],cb:=[],ff:=[]}
 |28=>{ eqs:=af,own:=[],still:=[],row:=[],bU:=[],deep:=[],cW:=[],cb:=[],ff:=[]}
 |29=>{ eqs:=af,own:=[],still:=[5,53,57,59,60,62,67,81,83,87,89,91],row:=[],bU:=[],deep:=[],cW:=[],cb:=[],ff:=[]}
 |_=>{}
def im:FuncId->yL (Nat×jK)
 |_=>[]
def ZPX:yL (Fs yb):=[Vs 18446744073709551616,LL 18446744073709551616,KA 18446744073709551616,KF 18446744073709551616,KU 18446744073709551616,KR 18446744073709551616,LB 18446744073709551616,KW 18446744073709551616,IT 18446744073709551616,IK 18446744073709551616,NA 18446744073709551616,ML 18446744073709551616,MV 18446744073709551616,MW 18446744073709551616,MZ 18446744073709551616,Q4 18446744073709551616,LI 18446744073709551616,KQ 18446744073709551616,MQ 18446744073709551616,IP 18446744073709551616,xR 18446744073709551616,IU 18446744073709551616,xS 18446744073709551616,LX 18446744073709551616,MN 18446744073709551616,JV 18446744073709551616,JT 18446744073709551616]
def aA:=ZPX.map Fs.fo
def ZQV:yL (TypeId×String×FuncId):=[]
theorem ZLQ:cP aA:=ZC8 ⟨eE Vs ZjA,eE LL Zs7,eE KA Zvy,eE KF ZvB,eE KU Zmm,eE KR KT,eE LB LD,eE KW Wz,eE IT Wv,eE IK Xt,eE NA ZpQ,eE ML xu,eE MV ZkZ,eE MW Zk1,eE MZ ZBj,eE Q4 Zn0,eE LI nA,eE KQ sG,eE MQ xx,eE IP vW,ZBx,eE IU wa,ZBy,eE LX LZ,eE MN Zgo,eE JV Wq,eE JT QM,au⟩
theorem ZNJ:gb yb ZQV:=trivial
theorem ran:HM yb fL aA ZQV 100 6 im=ab af:=by decide+kernel
def ZPY(F:Nat):Fs yb:=⟨6,[],[],[],(zN .bool),λ_=>ab af⟩
def ZN9:Fs yb:=ZPY yD
theorem ZPZ:ZN9.Ok:=ZO7 ZLQ ZNJ ran
end
end Go.Proofs.YtekdgjajmennjaaGreat
end
