/- BackupNever: whatever is kept, whatever the transaction, the lock and the fee: the call returns true and leaves its arguments as they were. No condition beyond the row's own. -/
import Derived.Test.YtekdgjajmennjaaGreatKi
set_option linter.unusedVariables false
set_option linter.unusedSimpArgs false
namespace Go.Proofs.YtekdgjajmennjaaGreat
open Go.Ev
theorem own:ownKnob Tryz.prog.godebug=none:=by kernel_rfl
theorem mem_Mem {α:Type} {x:α} {l:List α} (h:x∈l):List.Mem x l:=h
theorem wf_i64 {z:Int} (h:Ty.Wf (.int .i64) z): -9223372036854775808≤z∧z≤9223372036854775807:=by
 have h1:(Lit.int IntKind.i64 z).wf=true:=h
 simp only [Lit.wf,IntKind.min,IntKind.max,IntKind.signed,IntKind.bits] at h1
 simp at h1
 omega
theorem wf_lock {l:Lock} (h:Ty.Wf ZB l):LockWf l:=
 have h1:Ty.Wf (.sl Zg) l:=h
 ⟨h1.1,fun b hb=>
  have h2:Ty.Wf Zg b:=h1.2 b (mem_Mem hb)
  h2.1.1⟩
theorem wf_tx {t:Tx} (h:Ty.Wf yTx t):ZDF t∧∀o,o∈t.2.1→LockWf o.2:=
 ⟨⟨fun x hx=>
   have h1:Ty.Wf (.sl yIn) t.1:=h.1
   have h2:Ty.Wf yIn x:=h1.2 x (mem_Mem hx)
   have h3:Ty.Wf Zb x.1:=h2.1
   h3.1.1,(wf_i64 h.2.2).2⟩,fun o ho=>
   have h1:Ty.Wf (.sl Zt) t.2.1:=h.2.1
   have h2:Ty.Wf Zt o:=h1.2 o (mem_Mem ho)
   wf_lock h2.2⟩
theorem wf_chan {ch:Chan} (h:Ty.Wf Yb ch):ChWf ch:=by
 obtain ⟨h1,h2,h3,h4,h5⟩:=h
 have g1:Ty.Wf Zb ch.1:=h1
 have g2:Ty.Wf (.int .i64) ch.2.1:=h2
 have g3:Ty.Wf (.arr 2 ZcM) ch.2.2.1:=h3
 have g4:Ty.Wf (.arr 2 Zb1) ch.2.2.2.1:=h4
 have g5:Ty.Wf (.int .i64) ch.2.2.2.2:=h5
 have g6:Ty.Wf (.int .i64) ch.1.2:=g1.2
 exact ⟨g3.1,g4.1,(wf_i64 g2).1,(wf_i64 g2).2,(wf_i64 g6).1,(wf_i64 g6).2,(wf_i64 g5).1,(wf_i64 g5).2⟩
theorem backupNever_true (v:Ty.dens [Zf,yTx,ZB,.int .i64]) (hv:Ty.Wfs [Zf,yTx,ZB,.int .i64] v):Yj fuel v.1 v.2.1 v.2.2.1 v.2.2.2=some true:=by
 obtain ⟨a,b,c,d⟩:=v
 obtain ⟨h1,h2,h3,h4⟩:=hv
 have h5:Ty.Wf Yb a.1:=h1.1
 show Yj fuel a b c d=some true
 exact ZGp (wf_chan h5) (wf_tx h2).1 (wf_tx h2).2 (wf_lock h3) (wf_i64 h4).1 (wf_i64 h4).2
set_option maxRecDepth 100000 in
theorem backupNever_calls {H:Type} {enc:TypeId×Value→H} (W:World) (base:Nat) (args:Array Value) (ds gs:List (DataW H)) (before:List MemPlace)
 (hval:∀(j:Nat) t v,Tryz.f4.params[j]? =some t→args[j]? =some v→Value.okWide Tryz.prog W .any base t v) (hW:DataW.Whole enc Tryz.prog Tryz.f4.params.toList Rows.backupNeverSpec.vars false W args.toList ds gs before):
 Calls Tryz.prog 4 args W fun e W'=>∃v,e=.returned v∧Rows.backupNeverSpec.post enc Tryz.prog Tryz.f4 false true false false W args v W':=by
 refine ZyD (n:=20) (tb:=4) (by kernel_rfl) (by kernel_rfl) rfl ?_ ?_ W base args ds gs before hval hW ?_
 ·intro ds hds
  rw [Tryz.params4] at hds
  match ds,hds with
  |[a,b,c,d],_=>rfl
 ·rw [Tryz.params4]
  exact List.all_eq_true.1 (by kernel_rfl:List.all [40,45,48,3] (Yd Tryz.prog 20)=true)
 ·intro xs hxs _
  rw [Tryz.params4] at hxs
  obtain ⟨v,hv,rfl⟩:=ZEI (m:=60) (Ts:=[Zf,yTx,ZB,.int .i64]) (by kernel_rfl) hxs
  exact ZKr Zda (backupNever_true v hv)
set_option maxRecDepth 100000 in
theorem backupNever_lifted (os:Os) (started:os.Started) (H:Type) (enc:TypeId×Value→H):
 ReturnsInHanded {} Tryz.checked os 4 .any (Rows.backupNeverSpec.pre6 enc Tryz.prog Tryz.f4 Rows.backupNeverRow.domain false) (Rows.backupNeverSpec.post enc Tryz.prog Tryz.f4 false true false false):=by
 refine returnsInHanded_of_change (C:=Tryz.checked) own started (by kernel_rfl) Tryz.func4
  (ChangeSpec.witness6 (enc:=enc) (C:=Tryz.checked) false ⟨#[], #[.agg (Array.replicate 32 (.int .u8 0)++Array.replicate 2 (.int .i64 0)++Array.replicate 10 (.int .u64 0)++Array.replicate 13 (.int .i64 0)++Array.replicate 5 (.int .u64 0)++Array.replicate 32 (.int .u8 0)++Array.replicate 3 (.int .i64 0)),.agg #[.slice none 0 0,.slice none 0 0,.int .i64 0],.agg #[.slice none 0 0],.int .i64 0],[]⟩ 8 (by kernel_rfl) (by kernel_rfl) (by kernel_rfl) (by kernel_rfl)) ?_
 intro W base args ds gs before hval hW _ _
 exact backupNever_calls W base args ds gs before hval hW
theorem backupNever_holds:Rows.BackupNeverSaid:=
 OpenClaim.holds_of_wide 4 Tryz.f4 rfl rfl rfl rfl rfl rfl rfl ⟨rfl,rfl,rfl,rfl,rfl⟩ rfl rfl rfl rfl rfl (by kernel_rfl) Tryz.func4 (by kernel_rfl)
  (of_decide_eq_true (by kernel_rfl)) (by unfold Func.isWrapper;first|(rw [if_pos (by decide+kernel)];kernel_rfl)|(rw [if_neg (by decide+kernel)];exact ⟨rfl,rfl⟩))
  (fun os started H enc _=>backupNever_lifted os started H enc)
#print axioms backupNever_holds
end Go.Proofs.YtekdgjajmennjaaGreat
