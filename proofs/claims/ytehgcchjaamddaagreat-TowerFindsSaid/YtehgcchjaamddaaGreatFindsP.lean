/- TowerFinds: whatever others let it hold, a tower that was let hold the packet of a transaction for another one tells of it as soon as that is looked at, and proves that it holds it; the call returns true and leaves its arguments as they were. No condition beyond the row's own. -/
import Derived.Test.YtehgcchjaamddaaGreatKg
set_option linter.unusedVariables false
set_option linter.unusedSimpArgs false
namespace Go.Proofs.YtehgcchjaamddaaGreat
open Go.Ev
theorem own:ownKnob Tryz.prog.godebug=none:=by kernel_rfl
theorem mem_Mem {α:Type} {x:α} {l:List α} (h:x∈l):List.Mem x l:=h
theorem wf_max {z:Int} (h:Ty.Wf (.int .i64) z):z≤9223372036854775807:=by
 have h1:(Lit.int IntKind.i64 z).wf=true:=h
 simp only [Lit.wf,IntKind.min,IntKind.max,IntKind.signed,IntKind.bits] at h1
 simp at h1
 omega
theorem wf_packets {l:List Zf} (h:Ty.Wf (.sl Zb) l):∀p,p∈l→p.2.length≤9223372036854775807:=fun p hp=>
 have h1:Ty.Wf Zb p:=h.2 p (mem_Mem hp)
 h1.2.1
theorem wf_lock {l:Xn} (h:Ty.Wf YS l):ZaT l:=
 have h1:Ty.Wf (.sl Zu) l:=h
 ⟨h1.1,fun b hb=>
  have h2:Ty.Wf Zu b:=h1.2 b (mem_Mem hb)
  h2.1.1⟩
theorem wf_tx {t:Tx} (h:Ty.Wf yTx t):ZlA t:=
 ⟨fun o ho=>
  have h1:Ty.Wf (.sl YE) t.2.1:=h.2.1
  have h2:Ty.Wf YE o:=h1.2 o (mem_Mem ho)
  wf_lock h2.2,fun x hx=>
  have h1:Ty.Wf (.sl yIn) t.1:=h.1
  have h2:Ty.Wf yIn x:=h1.2 x (mem_Mem hx)
  have h3:Ty.Wf Yd x.1:=h2.1
  h3.1.1,wf_max h.2.2⟩
theorem finds_true (v:Ty.dens [.sl Zb,.sl Zb,yTx,yTx,.sl yTx,.arr 32 .u8]) (hv:Ty.Wfs [.sl Zb,.sl Zb,yTx,yTx,.sl yTx,.arr 32 .u8] v):Yg fuel v.1 v.2.1 v.2.2.1 v.2.2.2.1 v.2.2.2.2.1 v.2.2.2.2.2=some true:=by
 obtain ⟨a,b,c,d,e,f⟩:=v
 obtain ⟨h1,h2,h3,h4,h5,h6⟩:=hv
 have h7:Ty.Wf (.sl yTx) e:=h5
 have h8:f.length=32:=h6.1
 show Yg fuel a b c d e f=some true
 exact ZwU (wf_packets h1) (wf_packets h2) (wf_tx h3) (wf_tx h4) (fun t ht=>wf_tx (h7.2 t (mem_Mem ht))) (Nat.le_trans (Nat.le_of_eq h8) (by decide))
set_option maxRecDepth 100000 in
theorem towerFinds_calls {H:Type} {enc:TypeId×Value→H} (W:World) (base:Nat) (args:Array Value) (ds gs:List (DataW H)) (before:List MemPlace)
 (hval:∀(j:Nat) t v,Tryz.f4.params[j]? =some t→args[j]? =some v→Value.okWide Tryz.prog W .any base t v) (hW:DataW.Whole enc Tryz.prog Tryz.f4.params.toList Rows.towerFindsSpec.vars false W args.toList ds gs before):
 Calls Tryz.prog 4 args W fun e W'=>∃v,e=.returned v∧Rows.towerFindsSpec.post enc Tryz.prog Tryz.f4 false true false false W args v W':=by
 refine ZqF (n:=20) (tb:=4) (by kernel_rfl) (by kernel_rfl) rfl ?_ ?_ W base args ds gs before hval hW ?_
 ·intro ds hds
  rw [Tryz.params4] at hds
  match ds,hds with
  |[a,b,c,d,e,f],_=>rfl
 ·rw [Tryz.params4]
  exact List.all_eq_true.1 (by kernel_rfl:List.all [43,43,57,57,37,24] (Z5 Tryz.prog 20)=true)
 ·intro xs hxs _
  rw [Tryz.params4] at hxs
  obtain ⟨v,hv,rfl⟩:=Zu4 (m:=60) (Ts:=[.sl Zb,.sl Zb,yTx,yTx,.sl yTx,.arr 32 .u8]) (by kernel_rfl) hxs
  exact Zz7 Zcn (finds_true v hv)
set_option maxRecDepth 100000 in
theorem towerFinds_lifted (os:Os) (started:os.Started) (H:Type) (enc:TypeId×Value→H):
 ReturnsInHanded {} Tryz.checked os 4 .any (Rows.towerFindsSpec.pre6 enc Tryz.prog Tryz.f4 Rows.towerFindsRow.domain false) (Rows.towerFindsSpec.post enc Tryz.prog Tryz.f4 false true false false):=by
 refine returnsInHanded_of_change (C:=Tryz.checked) own started (by kernel_rfl) Tryz.func4
  (ChangeSpec.witness6 (enc:=enc) (C:=Tryz.checked) false ⟨#[], #[.slice none 0 0,.slice none 0 0,.agg #[.slice none 0 0,.slice none 0 0,.int .i64 0],.agg #[.slice none 0 0,.slice none 0 0,.int .i64 0],.slice none 0 0,.agg (Array.replicate 32 (.int .u8 0))],[]⟩ 8 (by kernel_rfl) (by kernel_rfl) (by kernel_rfl) (by kernel_rfl)) ?_
 intro W base args ds gs before hval hW _ _
 exact towerFinds_calls W base args ds gs before hval hW
theorem towerFinds_holds:Rows.TowerFindsSaid:=
 OpenClaim.holds_of_wide 4 Tryz.f4 rfl rfl rfl rfl rfl rfl rfl ⟨rfl,rfl,rfl,rfl,rfl⟩ rfl rfl rfl rfl rfl (by kernel_rfl) Tryz.func4 (by kernel_rfl)
  (of_decide_eq_true (by kernel_rfl)) (by unfold Func.isWrapper;first|(rw [if_pos (by decide+kernel)];kernel_rfl)|(rw [if_neg (by decide+kernel)];exact ⟨rfl,rfl⟩))
  (fun os started H enc _=>towerFinds_lifted os started H enc)
#print axioms towerFinds_holds
end Go.Proofs.YtehgcchjaamddaaGreat
