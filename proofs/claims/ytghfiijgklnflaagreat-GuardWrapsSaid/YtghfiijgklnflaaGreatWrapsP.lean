/- GuardWraps: whatever the transaction, the name and the packet: the call returns true and leaves its arguments as they were. No condition beyond the row's own. -/
import Derived.Test.YtghfiijgklnflaaGreatKk
set_option linter.unusedVariables false
set_option linter.unusedSimpArgs false
namespace Go.Proofs.YtghfiijgklnflaaGreat
open Go.Ev
theorem own:ownKnob Tryz.prog.godebug=none:=by kernel_rfl
theorem mem_Mem {α:Type} {x:α} {l:yL α} (h:x∈l):List.Mem x l:=h
theorem wf_i64 {z:Int} (h:Ty.Wf (.int .i64) z): -9223372036854775808<=z/\z<=9223372036854775807:=by
 have h1:(Lit.int IntKind.i64 z).wf=true:=h
 simp only [Lit.wf,IntKind.min,IntKind.max,IntKind.signed,IntKind.bits]at h1
 try simp at h1
 omega
theorem wf_tx {t:Tx} (h:Ty.Wf aQ t):jN t:=by
 obtain ⟨h1,h2,h3⟩:=h
 have g1:Ty.Wf (.sl bX) t.1:=h1
 have g3:Ty.Wf (.int .i64) t.2.2:=h3
 refine ⟨fun x hx=> ?_,(wf_i64 g3).2⟩
 obtain ⟨k1,_⟩:=(show Ty.Wf bX x from g1.2 x (mem_Mem hx))
 obtain ⟨k2,_⟩:=(show Ty.Wf Xu x.1 from k1)
 exact (show Ty.Wf (.arr 32 .u8) x.1.1 from k2).1
theorem guardWraps_true (v:Ty.aK [aQ,.arr 32 .u8,ZY]) (hv:Ty.rP [aQ,.arr 32 .u8,ZY] v):Wm yD v.1 v.2.1 v.2.2=some true:=by
 obtain ⟨a,b,c⟩:=v
 obtain ⟨h1,h2,h3⟩:=hv
 exact ZGr (wf_tx h1) (show Ty.Wf (.arr 32 .u8) b from h2).1
set_option maxRecDepth 100000 in
theorem guardWraps_calls {H:Type} {enc:TypeId×Value->H} (W:World) (base:Nat) (args:Array Value) (ds gs:yL (DataW H)) (before:yL MemPlace)
 (hval:∀(j:Nat) t v,Tryz.f4.params[j]? =some t->args[j]? =some v->Value.okWide Tryz.prog W .any base t v) (hW:DataW.Whole enc Tryz.prog Tryz.f4.params.toList Rows.guardWrapsSpec.vars false W args.toList ds gs before):
 Calls Tryz.prog 4 args W fun e W'=>∃v,e=.returned v/\Rows.guardWrapsSpec.post enc Tryz.prog Tryz.f4 false true false false W args v W':=by
 refine Zyi (n:=20) (tb:=4) (by kernel_rfl) (by kernel_rfl) rfl ?_ ?_ W base args ds gs before hval hW ?_
 .intro ds hds
  rw [Tryz.params4]at hds
  match ds,hds with
  |[a,b,c],_=>rfl
 .rw [Tryz.params4]
  exact List.all_eq_true.1 (by kernel_rfl:List.all [57,24,36] (YL Tryz.prog 20)=true)
 .intro xs hxs _
  rw [Tryz.params4]at hxs
  obtain ⟨v,hv,rfl⟩:=ZEt (m:=60) (Ts:=[aQ,.arr 32 .u8,ZY]) (by kernel_rfl) hxs
  exact ZKR ZgG (guardWraps_true v hv)
set_option maxRecDepth 100000 in
theorem guardWraps_lifted (os:Os) (started:os.Started) (H:Type) (enc:TypeId×Value->H):
 ReturnsInHanded {} Tryz.checked os 4 .any (Rows.guardWrapsSpec.pre6 enc Tryz.prog Tryz.f4 Rows.guardWrapsRow.domain false) (Rows.guardWrapsSpec.post enc Tryz.prog Tryz.f4 false true false false):=by
 refine returnsInHanded_of_change (C:=Tryz.checked) own started (by kernel_rfl) Tryz.func4
  (ChangeSpec.witness6 (enc:=enc) (C:=Tryz.checked) false ⟨#[], #[.agg #[.slice none 0 0,.slice none 0 0,.int .i64 0],.agg (Array.replicate 32 (.int .u8 0)),.agg (Array.replicate 16 (.int .u8 0)++ #[.slice none 0 0])],[]⟩ 8 (by kernel_rfl) (by kernel_rfl) (by kernel_rfl) (by kernel_rfl)) ?_
 intro W base args ds gs before hval hW _ _
 exact guardWraps_calls W base args ds gs before hval hW
theorem guardWraps_holds:Rows.GuardWrapsSaid:=
 OpenClaim.holds_of_wide 4 Tryz.f4 rfl rfl rfl rfl rfl rfl rfl ⟨rfl,rfl,rfl,rfl,rfl⟩ rfl rfl rfl rfl rfl (by kernel_rfl) Tryz.func4 (by kernel_rfl)
  (yF (by kernel_rfl)) (by unfold Func.isWrapper;first|(rw [yW (by decide+kernel)];kernel_rfl)|(rw [yX (by decide+kernel)];exact ⟨rfl,rfl⟩))
  (fun os started H enc _=>guardWraps_lifted os started H enc)
#print axioms guardWraps_holds
end Go.Proofs.YtghfiijgklnflaaGreat
