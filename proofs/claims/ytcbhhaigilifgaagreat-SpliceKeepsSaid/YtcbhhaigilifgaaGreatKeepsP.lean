/- SpliceKeeps: whatever the setup and the wishes: the call returns true and leaves its arguments as they were. No condition beyond the row's own. -/
import Derived.Test.YtcbhhaigilifgaaGreatKk
set_option linter.unusedVariables false
set_option linter.unusedSimpArgs false
namespace Go.Proofs.YtcbhhaigilifgaaGreat
open Go.Ev
theorem own:ownKnob Tryz.prog.godebug=none:=by kernel_rfl
theorem mem_Mem {α:Type} {x:α} {l:yL α} (h:x∈l):List.Mem x l:=h
theorem wf_i64 {z:Int} (h:Ty.Wf (.int .i64) z): -9223372036854775808<=z/\z<=9223372036854775807:=by
 have h1:(Lit.int IntKind.i64 z).wf=true:=h
 simp only [Lit.wf,IntKind.min,IntKind.max,IntKind.signed,IntKind.bits]at h1
 try simp at h1
 omega
theorem wf_point {p:ZK} (h:Ty.Wf ZQ p):p.1.length=32/\ -9223372036854775808<=p.2/\p.2<=9223372036854775807:=by
 obtain ⟨h1,h2⟩:=h
 have g1:Ty.Wf (.arr 32 .u8) p.1:=h1
 have g2:Ty.Wf (.int .i64) p.2:=h2
 exact ⟨g1.1,(wf_i64 g2).1,(wf_i64 g2).2⟩
theorem wf_wish {x:ai} (h:Ty.Wf Zd x):oL x:=by
 obtain ⟨h1,h2,h3⟩:=h
 have g1:Ty.Wf (.sl QG) x.1:=h1
 intro c hc
 obtain ⟨k1,_⟩:=(show Ty.Wf QG c from g1.2 c (mem_Mem hc))
 exact (wf_point (show Ty.Wf ZQ c.1 from k1)).1
theorem wf_wishes {l:yL ai} (h:Ty.Wf (.arr 2 Zd) l):l.length=2/\∀x,x∈l->oL x:=⟨h.1,fun x hx=>wf_wish (show Ty.Wf Zd x from h.2 x (mem_Mem hx))⟩
theorem wf_setup {x:aC} (h:Ty.Wf Zp x):kp x:=by
 obtain ⟨h1,h2,h3,h4,h5,h6⟩:=h
 have g1:Ty.Wf (.arr 2 (.arr 32 .u8)) x.1:=h1
 have g2:Ty.Wf (.arr 2 kf) x.2.1:=h2
 have g3:Ty.Wf (.arr 2 (.int .i64)) x.2.2.1:=h3
 have g4:Ty.Wf (.int .i64) x.2.2.2.1:=h4
 have g5:Ty.Wf (.int .i64) x.2.2.2.2.1:=h5
 exact ⟨g1.1,fun a ha=>(show Ty.Wf (.arr 32 .u8) a from g1.2 a (mem_Mem ha)).1,g2.1,g3.1,fun a ha=>wf_i64 (show Ty.Wf (.int .i64) a from g3.2 a (mem_Mem ha)),wf_i64 g4⟩
theorem spliceKeeps_true (v:Ty.aO [Zp,.arr 2 Zd]) (hv:Ty.sW [Zp,.arr 2 Zd] v):Xu yD v.1 v.2=some true:=by
 obtain ⟨a,b⟩:=v
 obtain ⟨h1,h2⟩:=hv
 exact ZEJ (wf_setup h1) (wf_wishes h2).1 (wf_wishes h2).2
set_option maxRecDepth 100000 in
theorem spliceKeeps_calls {H:Type} {enc:TypeId×Value->H} (W:World) (base:Nat) (args:Array Value) (ds gs:yL (DataW H)) (before:yL MemPlace)
 (hval:∀(j:Nat) t v,Tryz.f5.params[j]? =some t->args[j]? =some v->Value.okWide Tryz.prog W .any base t v) (hW:DataW.Whole enc Tryz.prog Tryz.f5.params.toList Rows.spliceKeepsSpec.vars false W args.toList ds gs before):
 Calls Tryz.prog 5 args W fun e W'=>∃v,e=.returned v/\Rows.spliceKeepsSpec.post enc Tryz.prog Tryz.f5 false true false false W args v W':=by
 refine ZwL (n:=20) (tb:=4) (by kernel_rfl) (by kernel_rfl) rfl ?_ ?_ W base args ds gs before hval hW ?_
 .intro ds hds
  rw [Tryz.params5]at hds
  match ds,hds with
  |[a,b],_=>rfl
 .rw [Tryz.params5]
  exact List.all_eq_true.1 (by kernel_rfl:List.all [65,44] (Yw Tryz.prog 20)=true)
 .intro xs hxs _
  rw [Tryz.params5]at hxs
  obtain ⟨v,hv,rfl⟩:=ZCu (m:=60) (Ts:=[Zp,.arr 2 Zd]) (by kernel_rfl) hxs
  exact ZI8 Zei (spliceKeeps_true v hv)
set_option maxRecDepth 100000 in
theorem spliceKeeps_lifted (os:Os) (started:os.Started) (H:Type) (enc:TypeId×Value->H):
 ReturnsInHanded {} Tryz.checked os 5 .any (Rows.spliceKeepsSpec.pre6 enc Tryz.prog Tryz.f5 Rows.spliceKeepsRow.domain false) (Rows.spliceKeepsSpec.post enc Tryz.prog Tryz.f5 false true false false):=by
 refine returnsInHanded_of_change (C:=Tryz.checked) own started (by kernel_rfl) Tryz.func5
  (ChangeSpec.witness6 (enc:=enc) (C:=Tryz.checked) false ⟨#[], #[.agg (Array.replicate 64 (.int .u8 0)++Array.replicate 16 (.int .i64 0)++ #[.slice none 0 0]),.agg #[.slice none 0 0,.slice none 0 0,.int .i64 0,.slice none 0 0,.slice none 0 0,.int .i64 0]],[]⟩ 8 (by kernel_rfl) (by kernel_rfl) (by kernel_rfl) (by kernel_rfl)) ?_
 intro W base args ds gs before hval hW _ _
 exact spliceKeeps_calls W base args ds gs before hval hW
theorem spliceKeeps_holds:Rows.SpliceKeepsSaid:=
 OpenClaim.holds_of_wide 5 Tryz.f5 rfl rfl rfl rfl rfl rfl rfl ⟨rfl,rfl,rfl,rfl,rfl⟩ rfl rfl rfl rfl rfl (by kernel_rfl) Tryz.func5 (by kernel_rfl)
  (yF (by kernel_rfl)) (by unfold Func.isWrapper;first|(rw [yW (by decide+kernel)];kernel_rfl)|(rw [yX (by decide+kernel)];exact ⟨rfl,rfl⟩))
  (fun os started H enc _=>spliceKeeps_lifted os started H enc)
#print axioms spliceKeeps_holds
end Go.Proofs.YtcbhhaigilifgaaGreat
