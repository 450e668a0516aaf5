/- Parts of the proof, in one file. -/
import Derived.Test.YtpgpjjjoglafdaaGreatKg
open Go.Proofs.Tryz renaming prog → yb
set_option linter.unusedVariables false
section
set_option maxRecDepth 100000
namespace Go.Proofs.YtpgpjjjoglafdaaGreat
open Go Go.Ev
noncomputable section
def his:FuncId->HI
 |6=>{ eqs:=true,own:=[],still:=[0,19,22,23,24,28,29,30,31,32,34,35,36,37,38,40,41,42,43,45,46,47,48,72,73,74,75,80,83,84,85,90,92,93,98,99,100,302,307,315,321,328],row:=[],deep:=[],frz:=[],ghost:=[],gst:=[]}
 |23=>{ eqs:=true,own:=[83,88],still:=[9,36,49,52,57,58,76,114,115,117,122,124],row:=[],deep:=[],frz:=[],ghost:=[(10,[([0],yIn,90)])],gst:=[]}
 |_=>{}
def ghs:FuncId->yL (Nat×GOp)
 |_=>[]
def ZKe:yL (Fs yb):=[Va 18446744073709551616,WU 18446744073709551616,VZ 18446744073709551616,Zez 18446744073709551616,Zdj 18446744073709551616,Zev 18446744073709551616,Zew 18446744073709551616,Zex 18446744073709551616,Zey 18446744073709551616,Zdp 18446744073709551616,Zg4 18446744073709551616,Zes 18446744073709551616,Zeq 18446744073709551616,Zj6 18446744073709551616,Zdq 18446744073709551616,Zkm 18446744073709551616,ZfW 18446744073709551616,ZeC 18446744073709551616,ZbO 18446744073709551616]
def specs:=ZKe
def ZKW:yL (TypeId×String×FuncId):=[]
theorem ZGm:AllOk specs:=⟨okN Va ZgE,okN WU ZfX,okN VZ ZbV,okN Zez Zjs,okN Zdj Zhz,okN Zev Zjm,okN Zew Zjo,okN Zex ZsD,okN Zey ZsE,okN Zdp ZhI,okN Zg4 Zg5,okN Zes W8,okN Zeq Ym,okN Zj6 ZfD,okN Zdq VE,okN Zkm Zro,okN ZfW ZlY,okN ZeC Zjy,okN ZbO Zgz,ytt⟩
theorem ZH5:MtOk yb ZKW:=trivial
theorem ran:ZJr yb his specs ZKW 100 6 ghs=some true:=by decide+kernel
def ZKf(F:Nat):Fs yb:=⟨6,[],[],[],(zN .bool),λ_=>some true⟩
def ZIx:Fs yb:=ZKf yD
theorem ZKg:ZIx.Ok:=ZJs ZGm ZH5 ran
end
end Go.Proofs.YtpgpjjjoglafdaaGreat
end
