/- ClosingTells: whatever the play, the locks, the fees and the zP: what each step tells, and which transaction is done, and what a closing transaction is, is what the document says: whatever the play: the call returns true and leaves its arguments as they were. Where what it reads is of bulk at most 1048576: the second form. -/
import Derived.Test.YtdhclndplbopgaaGreatKk
set_option linter.unusedVariables false
set_option linter.unusedSimpArgs false
namespace Go.Proofs.YtdhclndplbopgaaGreat
open Go.Ev
theorem own:ownKnob Tryz.prog.godebug=none:=by kernel_rfl
theorem mem_Mem {α:Type} {x:α} {l:yL α} (h:x∈l):List.Mem x l:=h
theorem wf_u16 {z:Int} (h:Ty.Wf (.int .u16) z):0<=z/\z<=65535:=by
 have h1:(Lit.int IntKind.u16 z).wf=true:=h
 simp only [Lit.wf,IntKind.min,IntKind.max,IntKind.signed,IntKind.bits] at h1
 simp at h1
 omega
theorem wf_play {p:yM} (h:Ty.Wf Zv p):PlayOk p:=by
 obtain ⟨h1,h2,h3,h4,h5,h6,h7,h8⟩:=h
 have g1:Ty.Wf (.arr 2 (.arr 32 .u8)) p.1:=h1
 have g6:Ty.Wf (.sl VJ) p.2.2.2.2.2.1:=h6
 have g7:Ty.Wf (.int .u16) p.2.2.2.2.2.2.1:=h7
 have g8:Ty.Wf (.arr 32 .u8) p.2.2.2.2.2.2.2:=h8
 refine ⟨g1.1,fun x hx=> ?_,g6.1,fun o ho=> ?_,(wf_u16 g7).1,(wf_u16 g7).2,g8.1⟩
 ·have k:Ty.Wf (.arr 32 .u8) x:=g1.2 x (mem_Mem hx)
  exact k.1
 ·have k:Ty.Wf VJ o:=g6.2 o (mem_Mem ho)
  obtain ⟨k1,k2,k3,k4⟩:=k
  have q2:Ty.Wf (.int .u16) o.2.1:=k2
  have q3:Ty.Wf (.int .u16) o.2.2.1:=k3
  exact ⟨(wf_u16 q2).1,(wf_u16 q2).2,(wf_u16 q3).1,(wf_u16 q3).2⟩
theorem tells_law {p:yM} (hp:PlayOk p) {b:yL yG} (h2:Ty.Wf (.arr 2 Ze) b) {c:yL Int} (h3:Ty.Wf (.arr 2 (.int .i64)) c) {st:yL Zu} (hb:∀e,e∈st->e.2.2.2.2.1.length<=1048576) (o:yG) (fee:Int):YF yD p b c st o fee=some true:=by
 have hl:b.length=2:=h2.1
 have hl2:c.length=2:=h3.1
 match b,c,hl,hl2 with
 |[x,y],[u,w],_,_=>exact ZHA hp x y u w hb o fee
theorem steps_le {N:Nat} {l:Ty.den (.sl ZB)} (h:Pl.le N ((Ty.sl ZB).enc l)) (e:Zu) (he:List.Mem e l):e.2.2.2.2.1.length<=N:=by
 have h1:=ZGh h.2 _ (List.mem_map.2 ⟨e,he,rfl⟩)
 have h2:(List.map (fun b:yB=>Pl.int .u8 (b.toNat:Int)) e.2.2.2.2.1).length<=N:=h1.2.2.2.2.1.1
 rwa [List.length_map] at h2
theorem closingTells_true (v:Ty.dens [Zv,.arr 2 Ze,.arr 2 (.int .i64),.sl ZB,Ze,.int .i64]) (hv:Ty.Wfs [Zv,.arr 2 Ze,.arr 2 (.int .i64),.sl ZB,Ze,.int .i64] v) (hb:∀e:Zu,List.Mem e v.2.2.2.1->e.2.2.2.2.1.length<=1048576):YF yD v.1 v.2.1 v.2.2.1 v.2.2.2.1 v.2.2.2.2.1 v.2.2.2.2.2=some true:=by
 obtain ⟨a,b,c,d,e,f⟩:=v
 obtain ⟨h1,h2,h3,h4,h5,h6⟩:=hv
 show YF yD a b c d e f=some true
 exact tells_law (wf_play h1) h2 h3 (fun e he=>hb e (mem_Mem he)) e f
theorem bulk_one {H:Type} (d:DataW H):1<=Rows.uptoBulk d:=by
 cases d with
 |lit l=>cases l <;> simp [Rows.uptoBulk]
 |nil=>simp [Rows.uptoBulk]
 |ptr d=>simp [Rows.uptoBulk]
 |slice elems spare=>simp [Rows.uptoBulk]
 |agg parts=>simp [Rows.uptoBulk]
 |iface t d=>simp [Rows.uptoBulk]
 |map entries=>simp [Rows.uptoBulk]
 |held h=>simp [Rows.uptoBulk]
theorem bulk_all {H:Type} (l:yL (DataW H)):l.length<=Rows.uptoBulkAll l/\∀d,d∈l->Rows.uptoBulk d<=Rows.uptoBulkAll l:=by
 induction l with
 |nil=>exact ⟨by simp,fun d hd=>by cases hd⟩
 |cons x r ih=>
  have:=bulk_one x
  simp only [Rows.uptoBulkAll,List.length_cons]
  refine ⟨by omega,fun d hd=> ?_⟩
  rcases List.mem_cons.1 hd with rfl|hd
  ·omega
  ·have:=ih.2 d hd
   omega
theorem bulk_ok {H:Type}:ZO7 (H:=H) Rows.uptoBulk:=by
 refine ⟨fun elems yQ=>⟨?_,fun d hd=> ?_⟩,fun parts d hd=> ?_⟩
 ·have:=(bulk_all elems).1
  simp only [Rows.uptoBulk]
  omega
 ·have:=(bulk_all elems).2 d hd
  simp only [Rows.uptoBulk]
  omega
 ·have:=(bulk_all parts).2 d hd
  simp only [Rows.uptoBulk]
  omega
set_option maxRecDepth 100000 in
theorem closingTells_calls {H:Type} {enc:TypeId×Value->H} (W:World) (base:Nat) (args:Array Value) (ds gs:yL (DataW H)) (before:yL MemPlace)
 (hval:∀(j:Nat) t v,Tryz.f4.params[j]? =some t->args[j]? =some v->Value.okWide Tryz.prog W .any base t v) (hW:DataW.Whole enc Tryz.prog Tryz.f4.params.toList Rows.closingTellsSpec.vars false W args.toList ds gs before)
 (hk:Rows.uptoSmall H (ds++gs)=true):
 Calls Tryz.prog 4 args W fun e W'=>∃v,e=.returned v/\Rows.closingTellsSpec.post enc Tryz.prog Tryz.f4 false true false false W args v W':=by
 have hbk:Rows.uptoBulkAll (ds++gs)<=1048576:=yF hk
 refine Zur (n:=20) (tb:=4) (by kernel_rfl) (by kernel_rfl) rfl ?_ ?_ W base args ds gs before hval hW ?_
 ·intro ds hds
  rw [Tryz.params4] at hds
  match ds,hds with
  |[a,b,c,d,e,f],_=>rfl
 ·rw [Tryz.params4]
  exact List.all_eq_true.1 (by kernel_rfl:List.all [76,77,36,78,65,3] (Y3 Tryz.prog 20)=true)
 ·intro xs hxs hle
  have hle:∀x,x∈xs->Pl.le 1048576 x:=fun x hx=>by
   obtain ⟨d,d1,d2⟩:=hle x hx
   exact d2 _ bulk_ok _ (Nat.le_trans ((bulk_all _).2 d (List.mem_append.2 (.inl d1))) hbk)
  rw [Tryz.params4] at hxs
  obtain ⟨v,hv,rfl⟩:=ZFA (m:=60) (Ts:=[Zv,.arr 2 Ze,.arr 2 (.int .i64),.sl ZB,Ze,.int .i64]) (by kernel_rfl) hxs
  exact ZLi ZgA (closingTells_true v hv (steps_le (hle _ (.tail _ (.tail _ (.tail _ (.head _)))))))
set_option maxRecDepth 100000 in
theorem closingTells_lifted (os:Os) (started:os.Started) (H:Type) (enc:TypeId×Value->H) (F:Stop.Interp):
 ReturnsInHanded {} Tryz.checked os 4 .any ((Rows.OpenSpec.upto Rows.closingTellsSpec).pre6 enc Tryz.prog Tryz.f4 Rows.closingTellsUptoRow.domain false) (((Rows.OpenSpec.upto Rows.closingTellsSpec).at F).post enc Tryz.prog Tryz.f4 false true false false):=by
 refine returnsInHanded_of_cond (C:=Tryz.checked) (s:=Rows.OpenSpec.upto Rows.closingTellsSpec) (k:=Rows.uptoSmall) rfl own started (by kernel_rfl) Tryz.func4
  (OpenSpec.witness (enc:=enc) (C:=Tryz.checked) (s:=Rows.OpenSpec.upto Rows.closingTellsSpec) (k:=Rows.uptoSmall) rfl false ⟨#[], #[.agg (Array.replicate 64 (.int .u8 0)++ #[.int .u32 0,.int .u32 0,.int .u8 0,.int .u8 0,.slice none 0 0,.int .u16 0]++Array.replicate 32 (.int .u8 0)),.agg #[.slice none 0 0,.slice none 0 0],.agg #[.int .i64 0,.int .i64 0],.slice none 0 0,.agg #[.slice none 0 0],.int .i64 0],[]⟩ 8 (by kernel_rfl) (by kernel_rfl) (by kernel_rfl)
    (x:=([.agg [.agg [.agg (List.replicate 32 (.lit (.int .u8 0))),.agg (List.replicate 32 (.lit (.int .u8 0)))],.lit (.int .u32 0),.lit (.int .u32 0),.lit (.int .u8 0),.lit (.int .u8 0),.nil,.lit (.int .u16 0),.agg (List.replicate 32 (.lit (.int .u8 0)))],.agg [.agg [.nil],.agg [.nil]],.agg [.lit (.int .i64 0),.lit (.int .i64 0)],.nil,.agg [.nil],.lit (.int .i64 0)],[],[])) (by kernel_rfl) rfl (by kernel_rfl)) ?_
 intro W base args ds gs before hval hW _ hk _
 exact closingTells_calls W base args ds gs before hval hW hk
theorem closingTells_holds:Rows.ClosingTellsUptoSaid:=
 OpenClaim.holds_of_cond 4 Tryz.f4 rfl rfl rfl rfl rfl rfl rfl ⟨rfl,rfl,rfl,rfl,rfl⟩ rfl rfl rfl rfl rfl (by kernel_rfl) Tryz.func4 (by kernel_rfl)
  (yF (by kernel_rfl)) (by unfold Func.isWrapper;first|(rw [yW (by decide+kernel)];kernel_rfl)|(rw [yX (by decide+kernel)];exact ⟨rfl,rfl⟩))
  (fun os started H enc _ F=>closingTells_lifted os started H enc F)
#print axioms closingTells_holds
end Go.Proofs.YtdhclndplbopgaaGreat
