/- TowerLost: a tower that lost a packet, or lies, tells nothing of it, and does not prove it as it must; whatever two transactions and nonce: the call returns true and leaves its arguments as they were. No condition beyond the row's own. -/
import Derived.Test.YtehgcchjaamddaaKg
set_option linter.unusedVariables false
set_option linter.unusedSimpArgs false
namespace Go.Proofs.Ytehgcchjaamddaa
open Go.Ev
theorem own:ownKnob Try.prog.godebug=none:=by kernel_rfl
theorem mem_Mem {α:Type} {x:α} {l:List α} (h:x∈l):List.Mem x l:=h
theorem wf_max {z:Int} (h:Ty.Wf (.int .i64) z):z≤9223372036854775807:=by
 have h1:(Lit.int IntKind.i64 z).wf=true:=h
 simp only [Lit.wf,IntKind.min,IntKind.max,IntKind.signed,IntKind.bits] at h1
 simp at h1
 omega
theorem wf_lock {l:XZ} (h:Ty.Wf Y2 l):ZjI l:=
 have h1:Ty.Wf (.sl Zv) l:=h
 ⟨h1.1,fun b hb=>
  have h2:Ty.Wf Zv b:=h1.2 b (mem_Mem hb)
  h2.1.1⟩
theorem wf_tx {t:Tx} (h:Ty.Wf yTx t):Zsg t:=
 ⟨fun o ho=>
  have h1:Ty.Wf (.sl YI) t.2.1:=h.2.1
  have h2:Ty.Wf YI o:=h1.2 o (mem_Mem ho)
  wf_lock h2.2,fun x hx=>
  have h1:Ty.Wf (.sl yIn) t.1:=h.1
  have h2:Ty.Wf yIn x:=h1.2 x (mem_Mem hx)
  have h3:Ty.Wf Yg x.1:=h2.1
  h3.1.1,wf_max h.2.2⟩
theorem lost_true (v:Ty.dens [yTx,yTx,.arr 32 .u8]) (hv:Ty.Wfs [yTx,yTx,.arr 32 .u8] v):Yr fuel v.1 v.2.1 v.2.2=some true:=by
 obtain ⟨a,b,f⟩:=v
 obtain ⟨h1,h2,h6⟩:=hv
 have h8:f.length=32:=h6.1
 show Yr fuel a b f=some true
 exact ZAd (wf_tx h1) (wf_tx h2) (Nat.le_trans (Nat.le_of_eq h8) (by decide))
set_option maxRecDepth 100000 in
theorem towerLost_calls {H:Type} {enc:TypeId×Value→H} (W:World) (base:Nat) (args:Array Value) (ds gs:List (DataW H)) (before:List MemPlace)
 (hval:∀(j:Nat) t v,Try.f3.params[j]? =some t→args[j]? =some v→Value.okWide Try.prog W .any base t v) (hW:DataW.Whole enc Try.prog Try.f3.params.toList Rows.towerLostSpec.vars false W args.toList ds gs before):
 Calls Try.prog 3 args W fun e W'=>∃v,e=.returned v∧Rows.towerLostSpec.post enc Try.prog Try.f3 false true false false W args v W':=by
 refine ZrZ (n:=20) (tb:=4) (by kernel_rfl) (by kernel_rfl) rfl ?_ ?_ W base args ds gs before hval hW ?_
 ·intro ds hds
  rw [Try.params3] at hds
  match ds,hds with
  |[a,b,c],_=>rfl
 ·rw [Try.params3]
  exact List.all_eq_true.1 (by kernel_rfl:List.all [25,25,27] (Z3 Try.prog 20)=true)
 ·intro xs hxs _
  rw [Try.params3] at hxs
  obtain ⟨v,hv,rfl⟩:=Zwm (m:=60) (Ts:=[yTx,yTx,.arr 32 .u8]) (by kernel_rfl) hxs
  exact ZBg Zc0 (lost_true v hv)
set_option maxRecDepth 100000 in
theorem towerLost_lifted (os:Os) (started:os.Started) (H:Type) (enc:TypeId×Value→H):
 ReturnsInHanded {} Try.checked os 3 .any (Rows.towerLostSpec.pre6 enc Try.prog Try.f3 Rows.towerLostRow.domain false) (Rows.towerLostSpec.post enc Try.prog Try.f3 false true false false):=by
 refine returnsInHanded_of_change (C:=Try.checked) own started (by kernel_rfl) Try.func3
  (ChangeSpec.witness6 (enc:=enc) (C:=Try.checked) false ⟨#[], #[.agg #[.slice none 0 0,.slice none 0 0,.int .i64 0],.agg #[.slice none 0 0,.slice none 0 0,.int .i64 0],.agg (Array.replicate 32 (.int .u8 0))],[]⟩ 8 (by kernel_rfl) (by kernel_rfl) (by kernel_rfl) (by kernel_rfl)) ?_
 intro W base args ds gs before hval hW _ _
 exact towerLost_calls W base args ds gs before hval hW
theorem towerLost_holds:Rows.TowerLostSaid:=
 OpenClaim.holds_of_wide 3 Try.f3 rfl rfl rfl rfl rfl rfl rfl ⟨rfl,rfl,rfl,rfl,rfl⟩ rfl rfl rfl rfl rfl (by kernel_rfl) Try.func3 (by kernel_rfl)
  (of_decide_eq_true (by kernel_rfl)) (by unfold Func.isWrapper;first|(rw [if_pos (by decide+kernel)];kernel_rfl)|(rw [if_neg (by decide+kernel)];exact ⟨rfl,rfl⟩))
  (fun os started H enc _=>towerLost_lifted os started H enc)
#print axioms towerLost_holds
end Go.Proofs.Ytehgcchjaamddaa
