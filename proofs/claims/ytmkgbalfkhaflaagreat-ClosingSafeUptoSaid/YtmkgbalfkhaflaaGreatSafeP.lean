/- ClosingSafe: whatever an end is told, in whatever order, and however often: what it takes for the closing transaction pays its side what it has, to its own lock: whatever the play: the call returns true and leaves its arguments as they were. Where what it reads is of bulk at most 1048576: the second form. -/
import Derived.Test.YtmkgbalfkhaflaaGreatKg
set_option linter.unusedVariables false
set_option linter.unusedSimpArgs false
namespace Go.Proofs.YtmkgbalfkhaflaaGreat
open Go.Ev
theorem own:ownKnob Tryz.prog.godebug=none:=by kernel_rfl
theorem mem_Mem {α:Type} {x:α} {l:List α} (h:x∈l):List.Mem x l:=h
theorem wf_u16 {z:Int} (h:Ty.Wf (.int .u16) z):0≤z∧z≤65535:=by
 have h1:(Lit.int IntKind.u16 z).wf=true:=h
 simp only [Lit.wf,IntKind.min,IntKind.max,IntKind.signed,IntKind.bits] at h1
 simp at h1
 omega
theorem wf_play {p:Corsnedlaw21Play} (h:Ty.Wf Zg p):PlayOk p:=by
 obtain ⟨h1,h2,h3,h4,h5,h6,h7,h8⟩:=h
 have g1:Ty.Wf (.arr 2 (.arr 32 .u8)) p.1:=h1
 have g6:Ty.Wf (.sl Wr) p.2.2.2.2.2.1:=h6
 have g7:Ty.Wf (.int .u16) p.2.2.2.2.2.2.1:=h7
 have g8:Ty.Wf (.arr 32 .u8) p.2.2.2.2.2.2.2:=h8
 refine ⟨g1.1,fun x hx=> ?_,g6.1,fun o ho=> ?_,(wf_u16 g7).1,(wf_u16 g7).2,g8.1⟩
 ·have k:Ty.Wf (.arr 32 .u8) x:=g1.2 x (mem_Mem hx)
  exact k.1
 ·have k:Ty.Wf Wr o:=g6.2 o (mem_Mem ho)
  obtain ⟨k1,k2,k3,k4⟩:=k
  have q2:Ty.Wf (.int .u16) o.2.1:=k2
  have q3:Ty.Wf (.int .u16) o.2.2.1:=k3
  exact ⟨(wf_u16 q2).1,(wf_u16 q2).2,(wf_u16 q3).1,(wf_u16 q3).2⟩
theorem steps_le {N:Nat} {l:Ty.den (.sl ZP)} (h:Pl.le N ((Ty.sl ZP).enc l)) (e:Ye) (he:List.Mem e l):e.2.2.2.2.1.length≤N:=by
 have h1:=ZCm h.2 _ (List.mem_map.2 ⟨e,he,rfl⟩)
 have h2:(List.map (fun b:UInt8=>Pl.int .u8 (b.toNat:Int)) e.2.2.2.2.1).length≤N:=h1.2.2.2.2.1.1
 rwa [List.length_map] at h2
theorem closingSafe_true (v:Ty.dens [Zg,.u8,.int .u16,.sl ZP]) (hv:Ty.Wfs [Zg,.u8,.int .u16,.sl ZP] v) (hb:∀e:Ye,List.Mem e v.2.2.2→e.2.2.2.2.1.length≤1048576):YM fuel v.1 v.2.1 v.2.2.1 v.2.2.2=some true:=by
 obtain ⟨a,b,c,d⟩:=v
 obtain ⟨h1,h2,h3,h4⟩:=hv
 show YM fuel a b c d=some true
 exact Cx.safe (wf_play h1) b (wf_u16 h3).1 (wf_u16 h3).2 hb
theorem bulk_one {H:Type} (d:DataW H):1≤Rows.uptoBulk d:=by
 cases d with
 |lit l=>cases l <;> simp [Rows.uptoBulk]
 |nil=>simp [Rows.uptoBulk]
 |ptr d=>simp [Rows.uptoBulk]
 |slice elems spare=>simp [Rows.uptoBulk]
 |agg parts=>simp [Rows.uptoBulk]
 |iface t d=>simp [Rows.uptoBulk]
 |map entries=>simp [Rows.uptoBulk]
 |held h=>simp [Rows.uptoBulk]
theorem bulk_all {H:Type} (l:List (DataW H)):l.length≤Rows.uptoBulkAll l∧∀d,d∈l→Rows.uptoBulk d≤Rows.uptoBulkAll l:=by
 induction l with
 |nil=>exact ⟨by simp,fun d hd=>by cases hd⟩
 |cons x r ih=>
  have:=bulk_one x
  simp only [Rows.uptoBulkAll,List.length_cons]
  refine ⟨by omega,fun d hd=> ?_⟩
  rcases List.mem_cons.1 hd with rfl|hd
  ·omega
  ·have:=ih.2 d hd
   omega
theorem bulk_ok {H:Type}:ZLa (H:=H) Rows.uptoBulk:=by
 refine ⟨fun elems rest=>⟨?_,fun d hd=> ?_⟩,fun parts d hd=> ?_⟩
 ·have:=(bulk_all elems).1
  simp only [Rows.uptoBulk]
  omega
 ·have:=(bulk_all elems).2 d hd
  simp only [Rows.uptoBulk]
  omega
 ·have:=(bulk_all parts).2 d hd
  simp only [Rows.uptoBulk]
  omega
set_option maxRecDepth 100000 in
theorem closingSafe_calls {H:Type} {enc:TypeId×Value→H} (W:World) (base:Nat) (args:Array Value) (ds gs:List (DataW H)) (before:List MemPlace)
 (hval:∀(j:Nat) t v,Tryz.f4.params[j]? =some t→args[j]? =some v→Value.okWide Tryz.prog W .any base t v) (hW:DataW.Whole enc Tryz.prog Tryz.f4.params.toList Rows.closingSafeSpec.vars false W args.toList ds gs before)
 (hk:Rows.uptoSmall H (ds++gs)=true):
 Calls Tryz.prog 4 args W fun e W'=>∃v,e=.returned v∧Rows.closingSafeSpec.post enc Tryz.prog Tryz.f4 false true false false W args v W':=by
 have hbk:Rows.uptoBulkAll (ds++gs)≤1048576:=of_decide_eq_true hk
 refine ZqW (n:=20) (tb:=4) (by kernel_rfl) (by kernel_rfl) rfl ?_ ?_ W base args ds gs before hval hW ?_
 ·intro ds hds
  rw [Tryz.params4] at hds
  match ds,hds with
  |[a,b,c,d],_=>rfl
 ·rw [Tryz.params4]
  exact List.all_eq_true.1 (by kernel_rfl:List.all [29,5,27,70] (YA Tryz.prog 20)=true)
 ·intro xs hxs hle
  have hle:∀x,x∈xs→Pl.le 1048576 x:=fun x hx=>by
   obtain ⟨d,d1,d2⟩:=hle x hx
   exact d2 _ bulk_ok _ (Nat.le_trans ((bulk_all _).2 d (List.mem_append.2 (.inl d1))) hbk)
  rw [Tryz.params4] at hxs
  obtain ⟨v,hv,rfl⟩:=ZBH (m:=60) (Ts:=[Zg,.u8,.int .u16,.sl ZP]) (by kernel_rfl) hxs
  exact ZHs Ze0 (closingSafe_true v hv (steps_le (hle _ (.tail _ (.tail _ (.tail _ (.head _)))))))
set_option maxRecDepth 100000 in
theorem closingSafe_lifted (os:Os) (started:os.Started) (H:Type) (enc:TypeId×Value→H) (F:Stop.Interp):
 ReturnsInHanded {} Tryz.checked os 4 .any ((Rows.OpenSpec.upto Rows.closingSafeSpec).pre6 enc Tryz.prog Tryz.f4 Rows.closingSafeUptoRow.domain false) (((Rows.OpenSpec.upto Rows.closingSafeSpec).at F).post enc Tryz.prog Tryz.f4 false true false false):=by
 refine returnsInHanded_of_cond (C:=Tryz.checked) (s:=Rows.OpenSpec.upto Rows.closingSafeSpec) (k:=Rows.uptoSmall) rfl own started (by kernel_rfl) Tryz.func4
  (OpenSpec.witness (enc:=enc) (C:=Tryz.checked) (s:=Rows.OpenSpec.upto Rows.closingSafeSpec) (k:=Rows.uptoSmall) rfl false ⟨#[], #[.agg (Array.replicate 64 (.int .u8 0)++ #[.int .u32 0,.int .u32 0,.int .u8 0,.int .u8 0,.slice none 0 0,.int .u16 0]++Array.replicate 32 (.int .u8 0)),.int .u8 0,.int .u16 0,.slice none 0 0],[]⟩ 8 (by kernel_rfl) (by kernel_rfl) (by kernel_rfl)
    (x:=([.agg [.agg [.agg (List.replicate 32 (.lit (.int .u8 0))),.agg (List.replicate 32 (.lit (.int .u8 0)))],.lit (.int .u32 0),.lit (.int .u32 0),.lit (.int .u8 0),.lit (.int .u8 0),.nil,.lit (.int .u16 0),.agg (List.replicate 32 (.lit (.int .u8 0)))],.lit (.int .u8 0),.lit (.int .u16 0),.nil],[],[])) (by kernel_rfl) rfl (by kernel_rfl)) ?_
 intro W base args ds gs before hval hW _ hk _
 exact closingSafe_calls W base args ds gs before hval hW hk
theorem closingSafe_holds:Rows.ClosingSafeUptoSaid:=
 OpenClaim.holds_of_cond 4 Tryz.f4 rfl rfl rfl rfl rfl rfl rfl ⟨rfl,rfl,rfl,rfl,rfl⟩ rfl rfl rfl rfl rfl (by kernel_rfl) Tryz.func4 (by kernel_rfl)
  (of_decide_eq_true (by kernel_rfl)) (by unfold Func.isWrapper;first|(rw [if_pos (by decide+kernel)];kernel_rfl)|(rw [if_neg (by decide+kernel)];exact ⟨rfl,rfl⟩))
  (fun os started H enc _ F=>closingSafe_lifted os started H enc F)
#print axioms closingSafe_holds
end Go.Proofs.YtmkgbalfkhaflaaGreat
