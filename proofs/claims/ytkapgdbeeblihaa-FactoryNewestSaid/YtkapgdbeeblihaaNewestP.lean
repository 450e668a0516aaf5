/- FactoryNewest: whatever the keys, the two cuts' subs and numbers, the step and the height: the call returns true and leaves its arguments as they were. No condition beyond the row's own. -/
import Derived.Test.YtkapgdbeeblihaaKj
set_option linter.unusedVariables false
set_option linter.unusedSimpArgs false
namespace Go.Proofs.Ytkapgdbeeblihaa
open Go.Ev
theorem own:ownKnob Try.prog.godebug=none:=by kernel_rfl
theorem wf_i64 {z:Int} (h:Ty.Wf (.int .i64) z): -9223372036854775808≤z∧z≤9223372036854775807:=by
 have h1:(Lit.int IntKind.i64 z).wf=true:=h
 simp only [Lit.wf,IntKind.min,IntKind.max,IntKind.signed,IntKind.bits] at h1
 simp at h1
 omega
theorem wf_subs {l:List FactorySub} (h:Ty.Wf (.sl Zg) l):∀s,s∈l→Zhj s∧ -9223372036854775808≤s.2.2∧s.2.2≤9223372036854775807:=fun s hs=>by
 have h0:List.length l≤maxLen∧∀x,List.Mem x l→Ty.Wf Zg x:=h
 obtain ⟨h1,h2,h3⟩:=h0.2 s hs
 have g1:Ty.Wf (.arr 2 (.int .i64)) s.1:=h1
 have g2:Ty.Wf (.arr 2 .u64) s.2.1:=h2
 have g3:Ty.Wf (.int .i64) s.2.2:=h3
 exact ⟨⟨g1.1,g2.1⟩,wf_i64 g3⟩
theorem factoryNewest_true (v:Ty.dens [.sl .u64,.sl Zg,.sl Zg,.int .i64,.int .i64,.int .i64,.int .i64]) (hv:Ty.Wfs [.sl .u64,.sl Zg,.sl Zg,.int .i64,.int .i64,.int .i64,.int .i64] v):Ye fuel v.1 v.2.1 v.2.2.1 v.2.2.2.1 v.2.2.2.2.1 v.2.2.2.2.2.1 v.2.2.2.2.2.2=some true:=by
 obtain ⟨a,b,c,d,e,f,g⟩:=v
 obtain ⟨h1,h2,h3,h4,h5,h6,h7⟩:=hv
 show Ye fuel a b c d e f g=some true
 exact ZxD (fun s hs=>(wf_subs h2 s hs).1) (fun s hs=>(wf_subs h3 s hs).1) d e f g (wf_i64 h5).2
set_option maxRecDepth 100000 in
theorem factoryNewest_calls {H:Type} {enc:TypeId×Value→H} (W:World) (base:Nat) (args:Array Value) (ds gs:List (DataW H)) (before:List MemPlace)
 (hval:∀(j:Nat) t v,Try.f3.params[j]? =some t→args[j]? =some v→Value.okWide Try.prog W .any base t v) (hW:DataW.Whole enc Try.prog Try.f3.params.toList Rows.factoryNewestSpec.vars false W args.toList ds gs before):
 Calls Try.prog 3 args W fun e W'=>∃v,e=.returned v∧Rows.factoryNewestSpec.post enc Try.prog Try.f3 false true false false W args v W':=by
 refine Zs0 (n:=20) (tb:=4) (by kernel_rfl) (by kernel_rfl) rfl ?_ ?_ W base args ds gs before hval hW ?_
 ·intro ds hds
  rw [Try.params3] at hds
  match ds,hds with
  |[a,b,c,d,e,f,g],_=>rfl
 ·rw [Try.params3]
  exact List.all_eq_true.1 (by kernel_rfl:List.all [22,23,23,3,3,3,3] (Yg Try.prog 20)=true)
 ·intro xs hxs _
  rw [Try.params3] at hxs
  obtain ⟨v,hv,rfl⟩:=ZyB (m:=60) (Ts:=[.sl .u64,.sl Zg,.sl Zg,.int .i64,.int .i64,.int .i64,.int .i64]) (by kernel_rfl) hxs
  exact ZEp Zbq (factoryNewest_true v hv)
set_option maxRecDepth 100000 in
theorem factoryNewest_lifted (os:Os) (started:os.Started) (H:Type) (enc:TypeId×Value→H):
 ReturnsInHanded {} Try.checked os 3 .any (Rows.factoryNewestSpec.pre6 enc Try.prog Try.f3 Rows.factoryNewestRow.domain false) (Rows.factoryNewestSpec.post enc Try.prog Try.f3 false true false false):=by
 refine returnsInHanded_of_change (C:=Try.checked) own started (by kernel_rfl) Try.func3
  (ChangeSpec.witness6 (enc:=enc) (C:=Try.checked) false ⟨#[], #[.slice none 0 0,.slice none 0 0,.slice none 0 0,.int .i64 0,.int .i64 0,.int .i64 0,.int .i64 0],[]⟩ 8 (by kernel_rfl) (by kernel_rfl) (by kernel_rfl) (by kernel_rfl)) ?_
 intro W base args ds gs before hval hW _ _
 exact factoryNewest_calls W base args ds gs before hval hW
theorem factoryNewest_holds:Rows.FactoryNewestSaid:=
 OpenClaim.holds_of_wide 3 Try.f3 rfl rfl rfl rfl rfl rfl rfl ⟨rfl,rfl,rfl,rfl,rfl⟩ rfl rfl rfl rfl rfl (by kernel_rfl) Try.func3 (by kernel_rfl)
  (of_decide_eq_true (by kernel_rfl)) (by unfold Func.isWrapper;first|(rw [if_pos (by decide+kernel)];kernel_rfl)|(rw [if_neg (by decide+kernel)];exact ⟨rfl,rfl⟩))
  (fun os started H enc _=>factoryNewest_lifted os started H enc)
#print axioms factoryNewest_holds
end Go.Proofs.Ytkapgdbeeblihaa
