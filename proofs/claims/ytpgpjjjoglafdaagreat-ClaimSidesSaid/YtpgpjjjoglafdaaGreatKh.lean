/- Parts of the proof, in one file. -/
import Derived.Test.YtpgpjjjoglafdaaGreatKg
open Go.Proofs.Tryz renaming prog → yb
set_option linter.unusedVariables false
section
set_option maxRecDepth 100000
namespace Go.Proofs.YtpgpjjjoglafdaaGreat
open Go Go.Ev
noncomputable section
def his:FuncId->HI
 |6=>{ eqs:=true,own:=[],still:=[0,19,22,23,24,28,29,30,31,32,34,35,36,37,38,40,41,42,43,45,46,47,48,72,73,74,75,80,83,84,85,90,92,93,98,99,100,302,307,315,321,328],row:=[],deep:=[],frz:=[],ghost:=[],gst:=[]}
 |23=>{ eqs:=true,own:=[83,88],still:=[9,36,49,52,57,58,76,114,115,117,122,124],row:=[],deep:=[],frz:=[],ghost:=[(10,[([0],yIn,90)])],gst:=[]}
 |_=>{}
def ghs:FuncId->yL (Nat×GOp)
 |_=>[]
def ZIQ:yL (Fs yb):=[WM 18446744073709551616,Wz 18446744073709551616,Vw 18446744073709551616,ZdT 18446744073709551616,ZcE 18446744073709551616,ZdP 18446744073709551616,ZdQ 18446744073709551616,ZdR 18446744073709551616,ZdS 18446744073709551616,ZcJ 18446744073709551616,Zgt 18446744073709551616,ZdM 18446744073709551616,ZdK 18446744073709551616,Zjo 18446744073709551616,ZcK 18446744073709551616,ZjH 18446744073709551616,Zfg 18446744073709551616,ZdV 18446744073709551616,Zbe 18446744073709551616]
def specs:=ZIQ
def ZJw:yL (TypeId×String×FuncId):=[]
theorem ZE5:AllOk specs:=⟨okN WM Zf1,okN Wz Zfi,okN Vw Zbj,okN ZdT ZrN,okN ZcE ZgY,okN ZdP ZiH,okN ZdQ ZrK,okN ZdR ZrL,okN ZdS ZrM,okN ZcJ Zg9,okN Zgt Zm3,okN ZdM ZaD,okN ZdK YE,okN Zjo Zjp,okN ZcK ZcL,okN ZjH Zzd,okN Zfg Zu3,okN ZdV ZiU,okN Zbe ZfW,ytt⟩
theorem ZGM:MtOk yb ZJw:=trivial
theorem ran:ZH2 yb his specs ZJw 100 6 ghs=some true:=by decide+kernel
def ZIR(F:Nat):Fs yb:=⟨6,[],[],[],(zN .bool),λ_=>some true⟩
def ZHa:Fs yb:=ZIR yD
theorem ZIS:ZHa.Ok:=ZH3 ZE5 ZGM ran
end
end Go.Proofs.YtpgpjjjoglafdaaGreat
end
