/- BackupTells: whatever the key, whatever is kept, whatever the bytes, the transaction, the lock and the fee: the call returns true and leaves its arguments as they were. No condition beyond the row's own. -/
import Derived.Test.YtekdgjajmennjaaGreatKj
set_option linter.unusedVariables false
set_option linter.unusedSimpArgs false
namespace Go.Proofs.YtekdgjajmennjaaGreat
open Go.Ev
theorem own:ownKnob Tryz.prog.godebug=none:=by kernel_rfl
theorem mem_Mem {α:Type} {x:α} {l:yL α} (h:x∈l):List.Mem x l:=h
theorem wf_i64 {z:Int} (h:Ty.Wf (.int .i64) z): -9223372036854775808<=z/\z<=9223372036854775807:=by
 have h1:(Lit.int IntKind.i64 z).wf=true:=h
 simp only [Lit.wf,IntKind.min,IntKind.max,IntKind.signed,IntKind.bits]at h1
 simp at h1
 omega
theorem wf_lock {l:ZG} (h:Ty.Wf Zk l):dq l:=
 have h1:Ty.Wf (.sl Zg) l:=h
 ⟨h1.1,fun b hb=>
  have h2:Ty.Wf Zg b:=h1.2 b (mem_Mem hb)
  h2.1.1⟩
theorem wf_tx {t:Tx} (h:Ty.Wf ax t):kB t/\∀o,o∈t.2.1->dq o.2:=
 ⟨⟨fun x hx=>
   have h1:Ty.Wf (.sl bj) t.1:=h.1
   have h2:Ty.Wf bj x:=h1.2 x (mem_Mem hx)
   have h3:Ty.Wf Zh x.1:=h2.1
   h3.1.1,(wf_i64 h.2.2).2⟩,fun o ho=>
   have h1:Ty.Wf (.sl Zw) t.2.1:=h.2.1
   have h2:Ty.Wf Zw o:=h1.2 o (mem_Mem ho)
   wf_lock h2.2⟩
theorem wf_chan {ch:Chan} (h:Ty.Wf Z0 ch):dR ch:=by
 obtain ⟨h1,h2,h3,h4,h5⟩:=h
 have g1:Ty.Wf Zh ch.1:=h1
 have g2:Ty.Wf (.int .i64) ch.2.1:=h2
 have g3:Ty.Wf (.arr 2 VX) ch.2.2.1:=h3
 have g4:Ty.Wf (.arr 2 ib) ch.2.2.2.1:=h4
 have g5:Ty.Wf (.int .i64) ch.2.2.2.2:=h5
 have g6:Ty.Wf (.int .i64) ch.1.2:=g1.2
 exact ⟨g3.1,g4.1,(wf_i64 g2).1,(wf_i64 g2).2,(wf_i64 g6).1,(wf_i64 g6).2,(wf_i64 g5).1,(wf_i64 g5).2⟩
theorem backupTells_true (v:Ty.aH [.arr 32 .u8,Zc,.sl .u8,ax,Zk,.int .i64]) (hv:Ty.tn [.arr 32 .u8,Zc,.sl .u8,ax,Zk,.int .i64] v):Y4 yD v.1 v.2.1 v.2.2.1 v.2.2.2.1 v.2.2.2.2.1 v.2.2.2.2.2=some true:=by
 obtain ⟨key,a,y,b,c,d⟩:=v
 obtain ⟨h0,h1,_,h2,h3,h4⟩:=hv
 have g0:Ty.Wf (.arr 32 .u8) key:=h0
 have h5:Ty.Wf Z0 a.1:=h1.1
 have h6:Ty.Wf Zh a.1.1:=h5.1
 have h7:Ty.Wf fN a.2.1:=h1.2.1
 have h8:Ty.Wf (.arr 32 .u8) a.2.1.2.2.2.2.2:=h7.2.2.2.2.2
 show Y4 yD key a y b c d=some true
 exact ZMz g0.1 (wf_chan h5) h6.1.1 h8.1 (wf_tx h2).1 (wf_tx h2).2 (wf_lock h3)
set_option maxRecDepth 100000 in
theorem backupTells_calls {H:Type} {enc:TypeId×Value->H} (W:World) (base:Nat) (args:Array Value) (ds gs:yL (DataW H)) (before:yL MemPlace)
 (hval:∀(j:Nat) t v,Tryz.f3.params[j]? =some t->args[j]? =some v->Value.okWide Tryz.prog W .any base t v) (hW:DataW.Whole enc Tryz.prog Tryz.f3.params.toList Rows.backupTellsSpec.vars false W args.toList ds gs before):
 Calls Tryz.prog 3 args W fun e W'=>∃v,e=.returned v/\Rows.backupTellsSpec.post enc Tryz.prog Tryz.f3 false true false false W args v W':=by
 refine ZEA (n:=20) (tb:=4) (by kernel_rfl) (by kernel_rfl) rfl ?_ ?_ W base args ds gs before hval hW ?_
 .intro ds hds
  rw [Tryz.params3]at hds
  match ds,hds with
  |[a,b,c,d,e,f],_=>rfl
 .rw [Tryz.params3]
  exact List.all_eq_true.1 (by kernel_rfl:List.all [23,40,41,45,48,3] (YJ Tryz.prog 20)=true)
 .intro xs hxs _
  rw [Tryz.params3]at hxs
  obtain ⟨v,hv,rfl⟩:=ZKr (m:=60) (Ts:=[.arr 32 .u8,Zc,.sl .u8,ax,Zk,.int .i64]) (by kernel_rfl) hxs
  exact ZQM Zir (backupTells_true v hv)
set_option maxRecDepth 100000 in
theorem backupTells_lifted (os:Os) (started:os.Started) (H:Type) (enc:TypeId×Value->H):
 ReturnsInHanded {} Tryz.checked os 3 .any (Rows.backupTellsSpec.pre6 enc Tryz.prog Tryz.f3 Rows.backupTellsRow.domain false) (Rows.backupTellsSpec.post enc Tryz.prog Tryz.f3 false true false false):=by
 refine returnsInHanded_of_change (C:=Tryz.checked) own started (by kernel_rfl) Tryz.func3
  (ChangeSpec.witness6 (enc:=enc) (C:=Tryz.checked) false ⟨#[], #[.agg (Array.replicate 32 (.int .u8 0)),.agg (Array.replicate 32 (.int .u8 0)++Array.replicate 2 (.int .i64 0)++Array.replicate 10 (.int .u64 0)++Array.replicate 13 (.int .i64 0)++Array.replicate 5 (.int .u64 0)++Array.replicate 32 (.int .u8 0)++Array.replicate 3 (.int .i64 0)),.slice none 0 0,.agg #[.slice none 0 0,.slice none 0 0,.int .i64 0],.agg #[.slice none 0 0],.int .i64 0],[]⟩ 8 (by kernel_rfl) (by kernel_rfl) (by kernel_rfl) (by kernel_rfl)) ?_
 intro W base args ds gs before hval hW _ _
 exact backupTells_calls W base args ds gs before hval hW
theorem backupTells_holds:Rows.BackupTellsSaid:=
 OpenClaim.holds_of_wide 3 Tryz.f3 rfl rfl rfl rfl rfl rfl rfl ⟨rfl,rfl,rfl,rfl,rfl⟩ rfl rfl rfl rfl rfl (by kernel_rfl) Tryz.func3 (by kernel_rfl)
  (yF (by kernel_rfl)) (by unfold Func.isWrapper;first|(rw [yW (by decide+kernel)];kernel_rfl)|(rw [yX (by decide+kernel)];exact ⟨rfl,rfl⟩))
  (fun os started H enc _=>backupTells_lifted os started H enc)
#print axioms backupTells_holds
end Go.Proofs.YtekdgjajmennjaaGreat
