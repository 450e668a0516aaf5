/- ClosingMeets: whichever messages were lost, came twice, or in whatever order, once all that was said has come, both ends have the same transaction, which may come for the funding coin, and pays each side what it has: whatever the play: the call returns true and leaves its arguments as they were. No condition beyond the row's own. -/
import Derived.Test.YtmkgbalfkhaflaaGreatKh
set_option linter.unusedVariables false
set_option linter.unusedSimpArgs false
namespace Go.Proofs.YtmkgbalfkhaflaaGreat
open Go.Ev
theorem own:ownKnob Tryz.prog.godebug=none:=by kernel_rfl
theorem mem_Mem {α:Type} {x:α} {l:List α} (h:x∈l):List.Mem x l:=h
theorem wf_u16 {z:Int} (h:Ty.Wf (.int .u16) z):0≤z∧z≤65535:=by
 have h1:(Lit.int IntKind.u16 z).wf=true:=h
 simp only [Lit.wf,IntKind.min,IntKind.max,IntKind.signed,IntKind.bits] at h1
 simp at h1
 omega
theorem wf_play {p:Corsnedlaw21Play} (h:Ty.Wf Ze p):PlayOk p:=by
 obtain ⟨h1,h2,h3,h4,h5,h6,h7,h8⟩:=h
 have g1:Ty.Wf (.arr 2 (.arr 32 .u8)) p.1:=h1
 have g6:Ty.Wf (.sl Wx) p.2.2.2.2.2.1:=h6
 have g7:Ty.Wf (.int .u16) p.2.2.2.2.2.2.1:=h7
 have g8:Ty.Wf (.arr 32 .u8) p.2.2.2.2.2.2.2:=h8
 refine ⟨g1.1,fun x hx=> ?_,g6.1,fun o ho=> ?_,(wf_u16 g7).1,(wf_u16 g7).2,g8.1⟩
 ·have k:Ty.Wf (.arr 32 .u8) x:=g1.2 x (mem_Mem hx)
  exact k.1
 ·have k:Ty.Wf Wx o:=g6.2 o (mem_Mem ho)
  obtain ⟨k1,k2,k3,k4⟩:=k
  have q2:Ty.Wf (.int .u16) o.2.1:=k2
  have q3:Ty.Wf (.int .u16) o.2.2.1:=k3
  exact ⟨(wf_u16 q2).1,(wf_u16 q2).2,(wf_u16 q3).1,(wf_u16 q3).2⟩
theorem closingMeets_true (v:Ty.dens [Ze,.int .u16,.sl .u8,.int .u16]) (hv:Ty.Wfs [Ze,.int .u16,.sl .u8,.int .u16] v):YE fuel v.1 v.2.1 v.2.2.1 v.2.2.2=some true:=by
 obtain ⟨a,b,c,d⟩:=v
 obtain ⟨h1,h2,h3,h4⟩:=hv
 show YE fuel a b c d=some true
 exact Cx.meets (wf_play h1) (wf_u16 h2).1 (wf_u16 h2).2 c (wf_u16 h4).1 (wf_u16 h4).2
set_option maxRecDepth 100000 in
theorem closingMeets_calls {H:Type} {enc:TypeId×Value→H} (W:World) (base:Nat) (args:Array Value) (ds gs:List (DataW H)) (before:List MemPlace)
 (hval:∀(j:Nat) t v,Tryz.f6.params[j]? =some t→args[j]? =some v→Value.okWide Tryz.prog W .any base t v) (hW:DataW.Whole enc Tryz.prog Tryz.f6.params.toList Rows.closingMeetsSpec.vars false W args.toList ds gs before):
 Calls Tryz.prog 6 args W fun e W'=>∃v,e=.returned v∧Rows.closingMeetsSpec.post enc Tryz.prog Tryz.f6 false true false false W args v W':=by
 refine Zxj (n:=20) (tb:=4) (by kernel_rfl) (by kernel_rfl) rfl ?_ ?_ W base args ds gs before hval hW ?_
 ·intro ds hds
  rw [Tryz.params6] at hds
  match ds,hds with
  |[a,b,c,d],_=>rfl
 ·rw [Tryz.params6]
  exact List.all_eq_true.1 (by kernel_rfl:List.all [29,27,74,27] (Yw Tryz.prog 20)=true)
 ·intro xs hxs _
  rw [Tryz.params6] at hxs
  obtain ⟨v,hv,rfl⟩:=ZCn (m:=60) (Ts:=[Ze,.int .u16,.sl .u8,.int .u16]) (by kernel_rfl) hxs
  exact ZIe Zem (closingMeets_true v hv)
set_option maxRecDepth 100000 in
theorem closingMeets_lifted (os:Os) (started:os.Started) (H:Type) (enc:TypeId×Value→H):
 ReturnsInHanded {} Tryz.checked os 6 .any (Rows.closingMeetsSpec.pre6 enc Tryz.prog Tryz.f6 Rows.closingMeetsRow.domain false) (Rows.closingMeetsSpec.post enc Tryz.prog Tryz.f6 false true false false):=by
 refine returnsInHanded_of_change (C:=Tryz.checked) own started (by kernel_rfl) Tryz.func6
  (ChangeSpec.witness6 (enc:=enc) (C:=Tryz.checked) false ⟨#[], #[.agg (Array.replicate 64 (.int .u8 0)++ #[.int .u32 0,.int .u32 0,.int .u8 0,.int .u8 0,.slice none 0 0,.int .u16 0]++Array.replicate 32 (.int .u8 0)),.int .u16 0,.slice none 0 0,.int .u16 0],[]⟩ 8 (by kernel_rfl) (by kernel_rfl) (by kernel_rfl) (by kernel_rfl)) ?_
 intro W base args ds gs before hval hW _ _
 exact closingMeets_calls W base args ds gs before hval hW
theorem closingMeets_holds:Rows.ClosingMeetsSaid:=
 OpenClaim.holds_of_wide 6 Tryz.f6 rfl rfl rfl rfl rfl rfl rfl ⟨rfl,rfl,rfl,rfl,rfl⟩ rfl rfl rfl rfl rfl (by kernel_rfl) Tryz.func6 (by kernel_rfl)
  (of_decide_eq_true (by kernel_rfl)) (by unfold Func.isWrapper;first|(rw [if_pos (by decide+kernel)];kernel_rfl)|(rw [if_neg (by decide+kernel)];exact ⟨rfl,rfl⟩))
  (fun os started H enc _=>closingMeets_lifted os started H enc)
#print axioms closingMeets_holds
end Go.Proofs.YtmkgbalfkhaflaaGreat
