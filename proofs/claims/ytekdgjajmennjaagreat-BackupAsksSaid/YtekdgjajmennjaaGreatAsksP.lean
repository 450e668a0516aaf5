/- BackupAsks: whatever the setup, the message and the number: the call returns true and leaves its arguments as they were. No condition beyond the row's own. -/
import Derived.Test.YtekdgjajmennjaaGreatKj
set_option linter.unusedVariables false
set_option linter.unusedSimpArgs false
namespace Go.Proofs.YtekdgjajmennjaaGreat
open Go.Ev
theorem own:ownKnob Tryz.prog.godebug=none:=by kernel_rfl
theorem mem_Mem {α:Type} {x:α} {l:yL α} (h:x∈l):List.Mem x l:=h
theorem wf_i64 {z:Int} (h:Ty.Wf (.int .i64) z): -9223372036854775808<=z/\z<=9223372036854775807:=by
 have h1:(Lit.int IntKind.i64 z).wf=true:=h
 simp only [Lit.wf,IntKind.min,IntKind.max,IntKind.signed,IntKind.bits]at h1
 simp at h1
 omega
theorem backupAsks_true (v:Ty.aI [ZA,iG,.u64]) (hv:Ty.sj [ZA,iG,.u64] v):YK yD v.1 v.2.1 v.2.2=some true:=by
 obtain ⟨x,m,b⟩:=v
 obtain ⟨h0,_,_⟩:=hv
 have g:Ty.Wf ZA x:=h0
 obtain ⟨g1,g2,g3,g4,g5⟩:=g
 have g1:Ty.Wf (.arr 2 (.arr 32 .u8)) x.1:=g1
 have g2:Ty.Wf (.arr 2 iF) x.2.1:=g2
 have g3:Ty.Wf (.arr 2 (.int .i64)) x.2.2.1:=g3
 have g4:Ty.Wf (.int .i64) x.2.2.2.1:=g4
 show YK yD x m b=some true
 exact ZLU ⟨g1.1,fun s hs=>
  have h1:Ty.Wf (.arr 32 .u8) s:=g1.2 s (mem_Mem hs)
  h1.1,g2.1,g3.1,(wf_i64 g4).1,(wf_i64 g4).2⟩ m b
set_option maxRecDepth 100000 in
theorem backupAsks_calls {H:Type} {enc:TypeId×Value->H} (W:World) (base:Nat) (args:Array Value) (ds gs:yL (DataW H)) (before:yL MemPlace)
 (hval:∀(j:Nat) t v,Tryz.f5.params[j]? =some t->args[j]? =some v->Value.okWide Tryz.prog W .any base t v) (hW:DataW.Whole enc Tryz.prog Tryz.f5.params.toList Rows.backupAsksSpec.vars false W args.toList ds gs before):
 Calls Tryz.prog 5 args W fun e W'=>∃v,e=.returned v/\Rows.backupAsksSpec.post enc Tryz.prog Tryz.f5 false true false false W args v W':=by
 refine ZAr (n:=20) (tb:=4) (by kernel_rfl) (by kernel_rfl) rfl ?_ ?_ W base args ds gs before hval hW ?_
 .intro ds hds
  rw [Tryz.params5]at hds
  match ds,hds with
  |[a,b,c],_=>rfl
 .rw [Tryz.params5]
  exact List.all_eq_true.1 (by kernel_rfl:List.all [90,65,36] (Yr Tryz.prog 20)=true)
 .intro xs hxs _
  rw [Tryz.params5]at hxs
  obtain ⟨v,hv,rfl⟩:=ZGU (m:=60) (Ts:=[ZA,iG,.u64]) (by kernel_rfl) hxs
  exact ZM1 Zfv (backupAsks_true v hv)
set_option maxRecDepth 100000 in
theorem backupAsks_lifted (os:Os) (started:os.Started) (H:Type) (enc:TypeId×Value->H):
 ReturnsInHanded {} Tryz.checked os 5 .any (Rows.backupAsksSpec.pre6 enc Tryz.prog Tryz.f5 Rows.backupAsksRow.domain false) (Rows.backupAsksSpec.post enc Tryz.prog Tryz.f5 false true false false):=by
 refine returnsInHanded_of_change (C:=Tryz.checked) own started (by kernel_rfl) Tryz.func5
  (ChangeSpec.witness6 (enc:=enc) (C:=Tryz.checked) false ⟨#[], #[.agg (Array.replicate 64 (.int .u8 0)++Array.replicate 16 (.int .i64 0)),.agg (Array.replicate 6 (.int .i64 0)++Array.replicate 1 (.int .u64 0)++Array.replicate 1 (.int .i64 0)++Array.replicate 1 (.int .u64 0)++ #[.slice none 0 0]++Array.replicate 1 (.int .i64 0)++Array.replicate 2 (.int .u64 0)++Array.replicate 32 (.int .u8 0)++Array.replicate 1 (.int .u64 0)++ #[.slice none 0 0]++ #[.slice none 0 0]++Array.replicate 1 (.int .i64 0)++Array.replicate 5 (.int .u64 0)++Array.replicate 6 (.int .i64 0)++ #[.slice none 0 0]),.int .u64 0],[]⟩ 8 (by kernel_rfl) (by kernel_rfl) (by kernel_rfl) (by kernel_rfl)) ?_
 intro W base args ds gs before hval hW _ _
 exact backupAsks_calls W base args ds gs before hval hW
theorem backupAsks_holds:Rows.BackupAsksSaid:=
 OpenClaim.holds_of_wide 5 Tryz.f5 rfl rfl rfl rfl rfl rfl rfl ⟨rfl,rfl,rfl,rfl,rfl⟩ rfl rfl rfl rfl rfl (by kernel_rfl) Tryz.func5 (by kernel_rfl)
  (yF (by kernel_rfl)) (by unfold Func.isWrapper;first|(rw [yW (by decide+kernel)];kernel_rfl)|(rw [yX (by decide+kernel)];exact ⟨rfl,rfl⟩))
  (fun os started H enc _=>backupAsks_lifted os started H enc)
#print axioms backupAsks_holds
end Go.Proofs.YtekdgjajmennjaaGreat
