/- SplicePlans: whatever the channel, the state and the wishes: the call returns true and leaves its arguments as they were. No condition beyond the row's own. -/
import Derived.Test.YtcbhhaigilifgaaGreatKl
set_option linter.unusedVariables false
set_option linter.unusedSimpArgs false
namespace Go.Proofs.YtcbhhaigilifgaaGreat
open Go.Ev
theorem own:ownKnob Tryz.prog.godebug=none:=by kernel_rfl
theorem mem_Mem {α:Type} {x:α} {l:yL α} (h:x∈l):List.Mem x l:=h
theorem wf_i64 {z:Int} (h:Ty.Wf (.int .i64) z): -9223372036854775808<=z/\z<=9223372036854775807:=by
 have h1:(Lit.int IntKind.i64 z).wf=true:=h
 simp only [Lit.wf,IntKind.min,IntKind.max,IntKind.signed,IntKind.bits]at h1
 try simp at h1
 omega
theorem wf_point {p:ZO} (h:Ty.Wf ZQ p):p.1.length=32/\ -9223372036854775808<=p.2/\p.2<=9223372036854775807:=by
 obtain ⟨h1,h2⟩:=h
 have g1:Ty.Wf (.arr 32 .u8) p.1:=h1
 have g2:Ty.Wf (.int .i64) p.2:=h2
 exact ⟨g1.1,(wf_i64 g2).1,(wf_i64 g2).2⟩
theorem wf_wish {x:ah} (h:Ty.Wf Za x):oS x:=by
 obtain ⟨h1,h2,h3⟩:=h
 have g1:Ty.Wf (.sl Xm) x.1:=h1
 intro c hc
 obtain ⟨k1,_⟩:=(show Ty.Wf Xm c from g1.2 c (mem_Mem hc))
 exact (wf_point (show Ty.Wf ZQ c.1 from k1)).1
theorem wf_wishes {l:yL ah} (h:Ty.Wf (.arr 2 Za) l):l.length=2/\∀x,x∈l->oS x:=⟨h.1,fun x hx=>wf_wish (show Ty.Wf Za x from h.2 x (mem_Mem hx))⟩
theorem wf_chan {ch:Chan} (h:Ty.Wf Zf ch):iN ch/\ch.1.1.length=32:=by
 obtain ⟨h1,h2,h3,h4,h5⟩:=h
 have g1:Ty.Wf ZQ ch.1:=h1
 have g2:Ty.Wf (.int .i64) ch.2.1:=h2
 have g3:Ty.Wf (.arr 2 jR) ch.2.2.1:=h3
 have g4:Ty.Wf (.arr 2 iK) ch.2.2.2.1:=h4
 have g5:Ty.Wf (.int .i64) ch.2.2.2.2:=h5
 obtain ⟨p1,p2,p3⟩:=wf_point g1
 exact ⟨⟨g3.1,g4.1,(wf_i64 g2).1,(wf_i64 g2).2,p2,p3,(wf_i64 g5).1,(wf_i64 g5).2⟩,p1⟩
theorem wf_state {s:yG} (h:Ty.Wf Zc s):s.2.1.length=2:=by
 obtain ⟨h1,h2,h3,h4⟩:=h
 have g2:Ty.Wf (.arr 2 (.int .i64)) s.2.1:=h2
 exact g2.1
theorem splicePlans_true (v:Ty.aK [Zf,Zc,.arr 2 Za]) (hv:Ty.sV [Zf,Zc,.arr 2 Za] v):XQ yD v.1 v.2.1 v.2.2=some true:=by
 obtain ⟨a,b,c⟩:=v
 obtain ⟨h1,h2,h3⟩:=hv
 exact ZHG (wf_chan h1).1 (wf_chan h1).2 (wf_state h2) (wf_wishes h3).1 (wf_wishes h3).2
set_option maxRecDepth 100000 in
theorem splicePlans_calls {H:Type} {enc:TypeId×Value->H} (W:World) (base:Nat) (args:Array Value) (ds gs:yL (DataW H)) (before:yL MemPlace)
 (hval:∀(j:Nat) t v,Tryz.f3.params[j]? =some t->args[j]? =some v->Value.okWide Tryz.prog W .any base t v) (hW:DataW.Whole enc Tryz.prog Tryz.f3.params.toList Rows.splicePlansSpec.vars false W args.toList ds gs before):
 Calls Tryz.prog 3 args W fun e W'=>∃v,e=.returned v/\Rows.splicePlansSpec.post enc Tryz.prog Tryz.f3 false true false false W args v W':=by
 refine ZzV (n:=20) (tb:=4) (by kernel_rfl) (by kernel_rfl) rfl ?_ ?_ W base args ds gs before hval hW ?_
 .intro ds hds
  rw [Tryz.params3]at hds
  match ds,hds with
  |[a,b,c],_=>rfl
 .rw [Tryz.params3]
  exact List.all_eq_true.1 (by kernel_rfl:List.all [35,39,44] (YE Tryz.prog 20)=true)
 .intro xs hxs _
  rw [Tryz.params3]at hxs
  obtain ⟨v,hv,rfl⟩:=ZFB (m:=60) (Ts:=[Zf,Zc,.arr 2 Za]) (by kernel_rfl) hxs
  exact ZL5 Zgh (splicePlans_true v hv)
set_option maxRecDepth 100000 in
theorem splicePlans_lifted (os:Os) (started:os.Started) (H:Type) (enc:TypeId×Value->H):
 ReturnsInHanded {} Tryz.checked os 3 .any (Rows.splicePlansSpec.pre6 enc Tryz.prog Tryz.f3 Rows.splicePlansRow.domain false) (Rows.splicePlansSpec.post enc Tryz.prog Tryz.f3 false true false false):=by
 refine returnsInHanded_of_change (C:=Tryz.checked) own started (by kernel_rfl) Tryz.func3
  (ChangeSpec.witness6 (enc:=enc) (C:=Tryz.checked) false ⟨#[], #[.agg (Array.replicate 32 (.int .u8 0)++Array.replicate 2 (.int .i64 0)++Array.replicate 10 (.int .u64 0)++Array.replicate 13 (.int .i64 0)),.agg #[.int .i64 0,.int .i64 0,.int .i64 0,.slice none 0 0,.int .i64 0],.agg #[.slice none 0 0,.slice none 0 0,.int .i64 0,.slice none 0 0,.slice none 0 0,.int .i64 0]],[]⟩ 8 (by kernel_rfl) (by kernel_rfl) (by kernel_rfl) (by kernel_rfl)) ?_
 intro W base args ds gs before hval hW _ _
 exact splicePlans_calls W base args ds gs before hval hW
theorem splicePlans_holds:Rows.SplicePlansSaid:=
 OpenClaim.holds_of_wide 3 Tryz.f3 rfl rfl rfl rfl rfl rfl rfl ⟨rfl,rfl,rfl,rfl,rfl⟩ rfl rfl rfl rfl rfl (by kernel_rfl) Tryz.func3 (by kernel_rfl)
  (yF (by kernel_rfl)) (by unfold Func.isWrapper;first|(rw [yW (by decide+kernel)];kernel_rfl)|(rw [yX (by decide+kernel)];exact ⟨rfl,rfl⟩))
  (fun os started H enc _=>splicePlans_lifted os started H enc)
#print axioms splicePlans_holds
end Go.Proofs.YtcbhhaigilifgaaGreat
