/- TowerTells: whatever the price, the room, the acts and the sum: the call returns true and leaves its arguments as they were. No condition beyond the row's own. -/
import Derived.Test.YtghfiijgklnflaaGreatKk
set_option linter.unusedVariables false
set_option linter.unusedSimpArgs false
namespace Go.Proofs.YtghfiijgklnflaaGreat
open Go.Ev
theorem own:ownKnob Tryz.prog.godebug=none:=by kernel_rfl
theorem mem_Mem {α:Type} {x:α} {l:yL α} (h:x∈l):List.Mem x l:=h
theorem wf_max {z:Int} (h:Ty.Wf (.int .i64) z):z<=9223372036854775807:=by
 have h1:(Lit.int IntKind.i64 z).wf=true:=h
 simp only [Lit.wf,IntKind.min,IntKind.max,IntKind.signed,IntKind.bits] at h1
 simp at h1
 omega
theorem wf_lock {l:Z8} (h:Ty.Wf ZE l):LockWf l:=
 have h1:Ty.Wf (.sl Zr) l:=h
 ⟨h1.1,fun b hb=>
  have h2:Ty.Wf Zr b:=h1.2 b (mem_Mem hb)
  h2.1.1⟩
theorem wf_tx {t:Tx} (h:Ty.Wf yTx t):TxAny t:=
 ⟨fun o ho=>
  have h1:Ty.Wf (.sl Wr) t.2.1:=h.2.1
  have h2:Ty.Wf Wr o:=h1.2 o (mem_Mem ho)
  wf_lock h2.2,fun x hx=>
  have h1:Ty.Wf (.sl yIn) t.1:=h.1
  have h2:Ty.Wf yIn x:=h1.2 x (mem_Mem hx)
  have h3:Ty.Wf XG x.1:=h2.1
  h3.1.1,wf_max h.2.2⟩
theorem wf_act {a:Corsnedlaw42Act} (h:Ty.Wf ZT a):ActWf a:=
 ⟨have h1:Ty.Wf (.arr 32 .u8) a.2.2.2.2.2.1:=h.2.2.2.2.2.1
  h1.1,fun t ht=>
   have h1:Ty.Wf (.sl yTx) a.2.2.2.2.1:=h.2.2.2.2.1
   wf_tx (h1.2 t (mem_Mem ht))⟩
theorem towerTells_true (v:Ty.dens [.int .i64,.int .i64,.sl ZT,.arr 32 .u8]) (hv:Ty.Wfs [.int .i64,.int .i64,.sl ZT,.arr 32 .u8] v):Xy yD v.1 v.2.1 v.2.2.1 v.2.2.2=some true:=by
 obtain ⟨a,b,c,d⟩:=v
 obtain ⟨h1,h2,h3,h4⟩:=hv
 have h5:Ty.Wf (.sl ZT) c:=h3
 have h6:d.length=32:=h4.1
 show Xy yD a b c d=some true
 exact ZEg h5.1 (fun x hx=>wf_act (h5.2 x (mem_Mem hx))) h6
set_option maxRecDepth 100000 in
theorem towerTells_calls {H:Type} {enc:TypeId×Value->H} (W:World) (base:Nat) (args:Array Value) (ds gs:yL (DataW H)) (before:yL MemPlace)
 (hval:∀(j:Nat) t v,Tryz.f3.params[j]? =some t->args[j]? =some v->Value.okWide Tryz.prog W .any base t v) (hW:DataW.Whole enc Tryz.prog Tryz.f3.params.toList Rows.towerTellsSpec.vars false W args.toList ds gs before):
 Calls Tryz.prog 3 args W fun e W'=>∃v,e=.returned v/\Rows.towerTellsSpec.post enc Tryz.prog Tryz.f3 false true false false W args v W':=by
 refine ZwL (n:=20) (tb:=4) (by kernel_rfl) (by kernel_rfl) rfl ?_ ?_ W base args ds gs before hval hW ?_
 ·intro ds hds
  rw [Tryz.params3] at hds
  match ds,hds with
  |[a,b,c,d],_=>rfl
 ·rw [Tryz.params3]
  exact List.all_eq_true.1 (by kernel_rfl:List.all [3,3,22,24] (YV Tryz.prog 20)=true)
 ·intro xs hxs _
  rw [Tryz.params3] at hxs
  obtain ⟨v,hv,rfl⟩:=ZB3 (m:=60) (Ts:=[.int .i64,.int .i64,.sl ZT,.arr 32 .u8]) (by kernel_rfl) hxs
  exact ZIa Zg4 (towerTells_true v hv)
set_option maxRecDepth 100000 in
theorem towerTells_lifted (os:Os) (started:os.Started) (H:Type) (enc:TypeId×Value->H):
 ReturnsInHanded {} Tryz.checked os 3 .any (Rows.towerTellsSpec.pre6 enc Tryz.prog Tryz.f3 Rows.towerTellsRow.domain false) (Rows.towerTellsSpec.post enc Tryz.prog Tryz.f3 false true false false):=by
 refine returnsInHanded_of_change (C:=Tryz.checked) own started (by kernel_rfl) Tryz.func3
  (ChangeSpec.witness6 (enc:=enc) (C:=Tryz.checked) false ⟨#[], #[.int .i64 0,.int .i64 0,.slice none 0 0,.agg (Array.replicate 32 (.int .u8 0))],[]⟩ 8 (by kernel_rfl) (by kernel_rfl) (by kernel_rfl) (by kernel_rfl)) ?_
 intro W base args ds gs before hval hW _ _
 exact towerTells_calls W base args ds gs before hval hW
theorem towerTells_holds:Rows.TowerTellsSaid:=
 OpenClaim.holds_of_wide 3 Tryz.f3 rfl rfl rfl rfl rfl rfl rfl ⟨rfl,rfl,rfl,rfl,rfl⟩ rfl rfl rfl rfl rfl (by kernel_rfl) Tryz.func3 (by kernel_rfl)
  (yF (by kernel_rfl)) (by unfold Func.isWrapper;first|(rw [yW (by decide+kernel)];kernel_rfl)|(rw [yX (by decide+kernel)];exact ⟨rfl,rfl⟩))
  (fun os started H enc _=>towerTells_lifted os started H enc)
#print axioms towerTells_holds
end Go.Proofs.YtghfiijgklnflaaGreat
