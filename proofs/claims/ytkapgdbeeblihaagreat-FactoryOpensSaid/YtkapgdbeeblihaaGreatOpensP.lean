/- FactoryOpens: whatever the keys, the subs, the number, the step, the fee and the height: the call returns true and leaves its arguments as they were. No condition beyond the row's own. -/
import Derived.Test.YtkapgdbeeblihaaGreatKj
set_option linter.unusedVariables false
set_option linter.unusedSimpArgs false
namespace Go.Proofs.YtkapgdbeeblihaaGreat
open Go.Ev
theorem own:ownKnob Tryz.prog.godebug=none:=by kernel_rfl
theorem wf_i64 {z:Int} (h:Ty.Wf (.int .i64) z): -9223372036854775808≤z∧z≤9223372036854775807:=by
 have h1:(Lit.int IntKind.i64 z).wf=true:=h
 simp only [Lit.wf,IntKind.min,IntKind.max,IntKind.signed,IntKind.bits] at h1
 simp at h1
 omega
theorem wf_subs {l:List FactorySub} (h:Ty.Wf (.sl Zj) l):∀s,s∈l→ZfU s∧ -9223372036854775808≤s.2.2∧s.2.2≤9223372036854775807:=fun s hs=>by
 have h0:List.length l≤maxLen∧∀x,List.Mem x l→Ty.Wf Zj x:=h
 obtain ⟨h1,h2,h3⟩:=h0.2 s hs
 have g1:Ty.Wf (.arr 2 (.int .i64)) s.1:=h1
 have g2:Ty.Wf (.arr 2 .u64) s.2.1:=h2
 have g3:Ty.Wf (.int .i64) s.2.2:=h3
 exact ⟨⟨g1.1,g2.1⟩,wf_i64 g3⟩
theorem factoryOpens_true (v:Ty.dens [.sl .u64,.sl Zj,.int .i64,.int .i64,.int .i64,.int .i64]) (hv:Ty.Wfs [.sl .u64,.sl Zj,.int .i64,.int .i64,.int .i64,.int .i64] v):Yc fuel v.1 v.2.1 v.2.2.1 v.2.2.2.1 v.2.2.2.2.1 v.2.2.2.2.2=some true:=by
 obtain ⟨a,b,c,d,e,f⟩:=v
 obtain ⟨h1,h2,h3,h4,h5,h6⟩:=hv
 show Yc fuel a b c d e f=some true
 exact ZAh (fun s hs=>(wf_subs h2 s hs).1) c d e f
set_option maxRecDepth 100000 in
theorem factoryOpens_calls {H:Type} {enc:TypeId×Value→H} (W:World) (base:Nat) (args:Array Value) (ds gs:List (DataW H)) (before:List MemPlace)
 (hval:∀(j:Nat) t v,Tryz.f3.params[j]? =some t→args[j]? =some v→Value.okWide Tryz.prog W .any base t v) (hW:DataW.Whole enc Tryz.prog Tryz.f3.params.toList Rows.factoryOpensSpec.vars false W args.toList ds gs before):
 Calls Tryz.prog 3 args W fun e W'=>∃v,e=.returned v∧Rows.factoryOpensSpec.post enc Tryz.prog Tryz.f3 false true false false W args v W':=by
 refine ZsM (n:=20) (tb:=4) (by kernel_rfl) (by kernel_rfl) rfl ?_ ?_ W base args ds gs before hval hW ?_
 ·intro ds hds
  rw [Tryz.params3] at hds
  match ds,hds with
  |[a,b,c,d,e,f],_=>rfl
 ·rw [Tryz.params3]
  exact List.all_eq_true.1 (by kernel_rfl:List.all [22,23,3,3,3,3] (Z7 Tryz.prog 20)=true)
 ·intro xs hxs _
  rw [Tryz.params3] at hxs
  obtain ⟨v,hv,rfl⟩:=Zyu (m:=60) (Ts:=[.sl .u64,.sl Zj,.int .i64,.int .i64,.int .i64,.int .i64]) (by kernel_rfl) hxs
  exact ZEh Zbk (factoryOpens_true v hv)
set_option maxRecDepth 100000 in
theorem factoryOpens_lifted (os:Os) (started:os.Started) (H:Type) (enc:TypeId×Value→H):
 ReturnsInHanded {} Tryz.checked os 3 .any (Rows.factoryOpensSpec.pre6 enc Tryz.prog Tryz.f3 Rows.factoryOpensRow.domain false) (Rows.factoryOpensSpec.post enc Tryz.prog Tryz.f3 false true false false):=by
 refine returnsInHanded_of_change (C:=Tryz.checked) own started (by kernel_rfl) Tryz.func3
  (ChangeSpec.witness6 (enc:=enc) (C:=Tryz.checked) false ⟨#[], #[.slice none 0 0,.slice none 0 0,.int .i64 0,.int .i64 0,.int .i64 0,.int .i64 0],[]⟩ 8 (by kernel_rfl) (by kernel_rfl) (by kernel_rfl) (by kernel_rfl)) ?_
 intro W base args ds gs before hval hW _ _
 exact factoryOpens_calls W base args ds gs before hval hW
theorem factoryOpens_holds:Rows.FactoryOpensSaid:=
 OpenClaim.holds_of_wide 3 Tryz.f3 rfl rfl rfl rfl rfl rfl rfl ⟨rfl,rfl,rfl,rfl,rfl⟩ rfl rfl rfl rfl rfl (by kernel_rfl) Tryz.func3 (by kernel_rfl)
  (of_decide_eq_true (by kernel_rfl)) (by unfold Func.isWrapper;first|(rw [if_pos (by decide+kernel)];kernel_rfl)|(rw [if_neg (by decide+kernel)];exact ⟨rfl,rfl⟩))
  (fun os started H enc _=>factoryOpens_lifted os started H enc)
#print axioms factoryOpens_holds
end Go.Proofs.YtkapgdbeeblihaaGreat
