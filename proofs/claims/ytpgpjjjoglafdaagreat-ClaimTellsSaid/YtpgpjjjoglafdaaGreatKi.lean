/- Parts of the proof, in one file. -/
import Derived.Test.YtpgpjjjoglafdaaGreatKh
open Go.Proofs.Tryz renaming prog → yb
set_option linter.unusedVariables false
section
set_option maxRecDepth 100000
namespace Go.Proofs.YtpgpjjjoglafdaaGreat
open Go Go.Ev
noncomputable section
def his:FuncId->HI
 |6=>{ eqs:=true,own:=[],still:=[0,19,22,23,24,28,29,30,31,32,34,35,36,37,38,40,41,42,43,45,46,47,48,72,73,74,75,80,83,84,85,90,92,93,98,99,100,302,307,315,321,328],row:=[],deep:=[],frz:=[],ghost:=[],gst:=[]}
 |23=>{ eqs:=true,own:=[83,88],still:=[9,36,49,52,57,58,76,114,115,117,122,124],row:=[],deep:=[],frz:=[],ghost:=[(10,[([0],yIn,90)])],gst:=[]}
 |_=>{}
def ghs:FuncId->yL (Nat×GOp)
 |_=>[]
def ZM3:yL (Fs yb):=[VN 18446744073709551616,Vr 18446744073709551616,Qz 18446744073709551616,Zgk 18446744073709551616,ZeN 18446744073709551616,Zgg 18446744073709551616,Zgh 18446744073709551616,Zgi 18446744073709551616,Zgj 18446744073709551616,ZeT 18446744073709551616,ZjP 18446744073709551616,Zgd 18446744073709551616,Zgb 18446744073709551616,Zm8 18446744073709551616,ZeU 18446744073709551616,Znq 18446744073709551616,Zh5 18446744073709551616,Zgm 18446744073709551616,Zc6 18446744073709551616]
def specs:=ZM3
def ZN0:yL (TypeId×String×FuncId):=[]
theorem ZI8:AllOk specs:=⟨okN VN Zi1,okN Vr Zh7,okN Qz Zdb,okN Zgk ZvC,okN ZeN Zkj,okN Zgg Zmn,okN Zgh Zmp,okN Zgi Zmr,okN Zgj Zmu,okN ZeT Zks,okN ZjP ZqP,okN Zgd Zb7,okN Zgb XP,okN Zm8 Zm9,okN ZeU ZeV,okN Znq ZC6,okN Zh5 ZyW,okN Zgm ZmD,okN Zc6 ZiW,ytt⟩
theorem ZKO:MtOk yb ZN0:=trivial
theorem ran:ZL8 yb his specs ZN0 100 6 ghs=some true:=by decide+kernel
def ZM4(F:Nat):Fs yb:=⟨6,[],[],[],(zN .bool),λ_=>some true⟩
def ZLf:Fs yb:=ZM4 yD
theorem ZM5:ZLf.Ok:=ZL9 ZI8 ZKO ran
end
end Go.Proofs.YtpgpjjjoglafdaaGreat
end
