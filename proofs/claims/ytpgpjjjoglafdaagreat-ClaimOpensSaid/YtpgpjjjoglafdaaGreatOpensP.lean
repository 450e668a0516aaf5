/- ClaimOpens: whatever the channel, the kits, the state, the side, the owner, the secret, the height, the known secrets, the scalar to pay to and the fee: the call returns true and leaves its arguments as they were. No condition beyond the row's own. -/
import Derived.Test.YtpgpjjjoglafdaaGreatKi
set_option linter.unusedVariables false
set_option linter.unusedSimpArgs false
namespace Go.Proofs.YtpgpjjjoglafdaaGreat
open Go.Ev
theorem own:ownKnob Tryz.prog.godebug=none:=by kernel_rfl
theorem wf_i64 {z:Int} (h:Ty.Wf (.int .i64) z): -9223372036854775808<=z/\z<=9223372036854775807:=by
 have h1:(Lit.int IntKind.i64 z).wf=true:=h
 simp only [Lit.wf,IntKind.min,IntKind.max,IntKind.signed,IntKind.bits] at h1
 simp at h1
 omega
theorem wf_point {p:ZI} (h:Ty.Wf ZM p):p.1.length=32/\ -9223372036854775808<=p.2/\p.2<=9223372036854775807:=by
 obtain ⟨h1,h2⟩:=h
 have g1:Ty.Wf (.arr 32 .u8) p.1:=h1
 have g2:Ty.Wf (.int .i64) p.2:=h2
 exact ⟨g1.1,(wf_i64 g2).1,(wf_i64 g2).2⟩
theorem wf_chan {ch:Chan} (h:Ty.Wf ZK ch):ChWf ch/\ch.1.1.length=32:=by
 obtain ⟨h1,h2,h3,h4,h5⟩:=h
 have g1:Ty.Wf ZM ch.1:=h1
 have g2:Ty.Wf (.int .i64) ch.2.1:=h2
 have g3:Ty.Wf (.arr 2 Ziq) ch.2.2.1:=h3
 have g4:Ty.Wf (.arr 2 Zen) ch.2.2.2.1:=h4
 have g5:Ty.Wf (.int .i64) ch.2.2.2.2:=h5
 obtain ⟨p1,p2,p3⟩:=wf_point g1
 exact ⟨⟨g3.1,g4.1,(wf_i64 g2).1,(wf_i64 g2).2,p2,p3,(wf_i64 g5).1,(wf_i64 g5).2⟩,p1⟩
theorem wf_state {s:yG} (h:Ty.Wf Zt s):s.2.1.length=2:=by
 obtain ⟨h1,h2,h3,h4⟩:=h
 have g2:Ty.Wf (.arr 2 (.int .i64)) s.2.1:=h2
 exact g2.1
theorem wf_kits {k:yL Kit} (h:Ty.Wf (.arr 2 W0) k):k.length=2:=h.1
theorem claimOpens_true (v:Ty.dens [ZK,.arr 2 W0,Zt,.int .i64,.int .i64,.arr 32 .u8,.int .i64,.sl .u64,.u64,.int .i64]) (hv:Ty.Wfs [ZK,.arr 2 W0,Zt,.int .i64,.int .i64,.arr 32 .u8,.int .i64,.sl .u64,.u64,.int .i64] v):Yq yD v.1 v.2.1 v.2.2.1 v.2.2.2.1 v.2.2.2.2.1 v.2.2.2.2.2.1 v.2.2.2.2.2.2.1 v.2.2.2.2.2.2.2.1 v.2.2.2.2.2.2.2.2.1 v.2.2.2.2.2.2.2.2.2=some true:=by
 obtain ⟨a,b,c,d,e,f,g,h,i,j⟩:=v
 obtain ⟨h1,h2,h3,h4,h5,h6,h7,h8,h9,h10⟩:=hv
 show Yq yD a b c d e f g h i j=some true
 exact ZDr (wf_chan h1).1 (wf_chan h1).2 (wf_kits h2) (wf_state h3) d e (show f.length=32 from h6.1) g h i j
set_option maxRecDepth 100000 in
theorem claimOpens_calls {H:Type} {enc:TypeId×Value->H} (W:World) (base:Nat) (args:Array Value) (ds gs:yL (DataW H)) (before:yL MemPlace)
 (hval:∀(j:Nat) t v,Tryz.f5.params[j]? =some t->args[j]? =some v->Value.okWide Tryz.prog W .any base t v) (hW:DataW.Whole enc Tryz.prog Tryz.f5.params.toList Rows.claimOpensSpec.vars false W args.toList ds gs before):
 Calls Tryz.prog 5 args W fun e W'=>∃v,e=.returned v/\Rows.claimOpensSpec.post enc Tryz.prog Tryz.f5 false true false false W args v W':=by
 refine Zvm (n:=20) (tb:=4) (by kernel_rfl) (by kernel_rfl) rfl ?_ ?_ W base args ds gs before hval hW ?_
 ·intro ds hds
  rw [Tryz.params5] at hds
  match ds,hds with
  |[a,b,c,d,e,f,g,h,i,j],_=>rfl
 ·rw [Tryz.params5]
  exact List.all_eq_true.1 (by kernel_rfl:List.all [35,39,43,3,3,23,3,44,36,3] (Z8 Tryz.prog 20)=true)
 ·intro xs hxs _
  rw [Tryz.params5] at hxs
  obtain ⟨v,hv,rfl⟩:=ZBy (m:=60) (Ts:=[ZK,.arr 2 W0,Zt,.int .i64,.int .i64,.arr 32 .u8,.int .i64,.sl .u64,.u64,.int .i64]) (by kernel_rfl) hxs
  exact ZHu Zdy (claimOpens_true v hv)
set_option maxRecDepth 100000 in
theorem claimOpens_lifted (os:Os) (started:os.Started) (H:Type) (enc:TypeId×Value->H):
 ReturnsInHanded {} Tryz.checked os 5 .any (Rows.claimOpensSpec.pre6 enc Tryz.prog Tryz.f5 Rows.claimOpensRow.domain false) (Rows.claimOpensSpec.post enc Tryz.prog Tryz.f5 false true false false):=by
 refine returnsInHanded_of_change (C:=Tryz.checked) own started (by kernel_rfl) Tryz.func5
  (ChangeSpec.witness6 (enc:=enc) (C:=Tryz.checked) false ⟨#[], #[.agg (Array.replicate 32 (.int .u8 0)++Array.replicate 2 (.int .i64 0)++Array.replicate 10 (.int .u64 0)++Array.replicate 13 (.int .i64 0)),.agg (Array.replicate 5 (.int .u64 0)++Array.replicate 32 (.int .u8 0)++Array.replicate 5 (.int .u64 0)++Array.replicate 32 (.int .u8 0)),.agg #[.int .i64 0,.int .i64 0,.int .i64 0,.slice none 0 0,.int .i64 0],.int .i64 0,.int .i64 0,.agg (Array.replicate 32 (.int .u8 0)),.int .i64 0,.slice none 0 0,.int .u64 0,.int .i64 0],[]⟩ 8 (by kernel_rfl) (by kernel_rfl) (by kernel_rfl) (by kernel_rfl)) ?_
 intro W base args ds gs before hval hW _ _
 exact claimOpens_calls W base args ds gs before hval hW
theorem claimOpens_holds:Rows.ClaimOpensSaid:=
 OpenClaim.holds_of_wide 5 Tryz.f5 rfl rfl rfl rfl rfl rfl rfl ⟨rfl,rfl,rfl,rfl,rfl⟩ rfl rfl rfl rfl rfl (by kernel_rfl) Tryz.func5 (by kernel_rfl)
  (yF (by kernel_rfl)) (by unfold Func.isWrapper;first|(rw [yW (by decide+kernel)];kernel_rfl)|(rw [yX (by decide+kernel)];exact ⟨rfl,rfl⟩))
  (fun os started H enc _=>claimOpens_lifted os started H enc)
#print axioms claimOpens_holds
end Go.Proofs.YtpgpjjjoglafdaaGreat
