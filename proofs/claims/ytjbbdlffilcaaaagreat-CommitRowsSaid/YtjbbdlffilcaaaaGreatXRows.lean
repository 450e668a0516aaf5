/- Parts of the proof, in one file. -/
import Derived.Test.YtjbbdlffilcaaaaGreatKg
open Go.Proofs.Tryz renaming prog → yb
open List renaming getElem?_eq_some_iff → yl, length_map → yp, getElem?_map → yx
open Option renaming bind_some → ya
set_option linter.unusedVariables false
set_option linter.unusedSimpArgs false
section
set_option maxRecDepth 4000
namespace Go.Proofs.YtjbbdlffilcaaaaGreat
open Go Go.Ev
theorem tot_nil {α:Type} (f:α→Int):tot f []=0:=rfl
theorem tot_app {α:Type} (f:α→Int) (l r:List α):tot f (l++r)=tot f l+tot f r:=by
 unfold tot
 rw [List.map_append,List.sum_append]
theorem tot_take {α:Type} (f:α→Int) {l:List α} {k:Nat} {e:α} (h:l[k]? =some e):tot f (l.take (k+1))=tot f (l.take k)+f e:=by
 rw [QU h,tot_app]
 show _+(f e+0)=_
 omega
theorem tot_perm {α:Type} (f:α→Int) {l r:List α} (h:l.Perm r):tot f l=tot f r:=by
 induction h with
 |nil=>rfl
 |cons x _ ih=>rw [YD,YD,ih]
 |swap x y l=>rw [YD,YD,YD,YD];omega
 |trans _ _ h1 h2=>rw [h1,h2]
theorem tot_map {α β:Type} (f:β→Int) (g:α→β) (l:List α):tot f (l.map g)=tot (fun x=>f (g x)) l:=by
 unfold tot
 rw [List.map_map]
 rfl
theorem tot_eq {α:Type} {f g:α→Int}:∀{l:List α},(∀x,x∈l→f x=g x)→tot f l=tot g l
 |[],_=>rfl
 |x::r,h=>by rw [YD,YD,h x (List.mem_cons_self ..),tot_eq (l:=r) fun y hy=>h y (List.mem_cons_of_mem _ hy)]
theorem items_tot {O P:Kit} {w own:Int} {per:UInt64} {a b:Int} {l:List ZB} (f:Out×Role→Int):tot f (items O P w own per a b l)=(if a ≥ 100 then f ((a,ZgZ O P w per),(1,zc)) else 0)+(if b ≥ 100 then f ((b,ZpT P),(2,zc)) else 0)+f ((330,Zhq O),(3,zc))+f ((330,Zhq P),(4,zc))+tot (fun c=>f (Zf5 O P w own per c)) l:=by
 unfold items Zg0
 rw [tot_app,tot_app,tot_app,tot_map]
 split <;> split <;> simp only [YD,tot_nil] <;> omega
end Go.Proofs.YtjbbdlffilcaaaaGreat
end
section
set_option maxRecDepth 4000
namespace Go.Proofs.YtjbbdlffilcaaaaGreat
open Go Go.Ev
noncomputable section
def Xi (F:Nat) (s:(Int×Bool×Int×Corsnedlaw21Play×ZO×(List Kit)×State×ZZ)):Option ((Int×Bool×Int×Corsnedlaw21Play×ZO×(List Kit)×State×ZZ)⊕((Bool×Corsnedlaw21Play×ZO×(List Kit)×State×ZZ)⊕(Int×Bool×Corsnedlaw21Play×ZO×(List Kit)×State×ZZ))):=
 let y987:Bool:=decide (s.2.2.1 < (s.2.2.2.2.2.2.2.1.2.1.length:Int))
 if y987=true then
  (idx s.2.2.2.2.2.2.2.1.2.1 s.2.2.1).bind fun e988=>
  (idx s.2.2.2.2.2.2.2.1.2.1 (wi (s.2.2.1 - 1))).bind fun e989=>
  if (decide (e988.1 < e989.1))=true then
   some (.inr (.inl (false,s.2.2.2.1,s.2.2.2.2.1,s.2.2.2.2.2.1,s.2.2.2.2.2.2.1,s.2.2.2.2.2.2.2)))
  else
  some (.inl (s.1,s.2.1,wi (s.2.2.1+1),s.2.2.2.1,s.2.2.2.2.1,s.2.2.2.2.2.1,s.2.2.2.2.2.2.1,s.2.2.2.2.2.2.2))
 else
 some (.inr (.inr (s.1,s.2.1,s.2.2.2.1,s.2.2.2.2.1,s.2.2.2.2.2.1,s.2.2.2.2.2.2.1,s.2.2.2.2.2.2.2)))
def QO:Lp:=⟨[(1,.v (.int .i64)),(7,.v .bool),(8,.ref 1 []),(10,.ref 3 []),(11,.ref 4 []),(13,.v (.int .i64))],[.var (.v Zb) true,.var (.v Zq) true,.var (.v (.arr 2 XE)) true,.var (.v Ze) true,.var (.v Zy) true],[(.int .i64),.bool,(.int .i64),Zb,Zq,(.arr 2 XE),Ze,Zy],[⟨.ret,[(6,.v .bool)],[.var (.v Zb) true,.var (.v Zq) true,.var (.v (.arr 2 XE)) true,.var (.v Ze) true,.var (.v Zy) true],[.bool,Zb,Zq,(.arr 2 XE),Ze,Zy]⟩,⟨.exit 0,[(1,.v (.int .i64)),(7,.v .bool),(8,.ref 1 []),(10,.ref 3 []),(11,.ref 4 [])],[.var (.v Zb) true,.var (.v Zq) true,.var (.v (.arr 2 XE)) true,.var (.v Ze) true,.var (.v Zy) true],[(.int .i64),.bool,Zb,Zq,(.arr 2 XE),Ze,Zy]⟩],Zd (Xi fuel) fuel⟩
theorem Zds:QO.Ok yb (Zp yb 6) (Zo yb 6 0):=Zk (fi:={ hi:={ still:=[6,20,26,27,28,29,40,163,169]},lp:=[]}) (specs:={ l:=[]}) (okS trivial) trivial (by kernel_rfl) (fun v=>by kernel_rfl)
def Yn (F:Nat) (s:(Int×Bool×Int×Int×Int×Corsnedlaw21Play×ZO×(List Kit)×State×ZZ)):Option ((Int×Bool×Int×Int×Int×Corsnedlaw21Play×ZO×(List Kit)×State×ZZ)⊕(Int×Bool×Int×Int×Corsnedlaw21Play×ZO×(List Kit)×State×ZZ)):=
 let y994:Bool:=decide (s.2.2.2.2.1 < (s.2.2.2.2.2.2.2.2.2.2.length:Int))
 if y994=true then
  (idx s.2.2.2.2.2.2.2.2.2.2 s.2.2.2.2.1).bind fun e995=>
  (idx s.2.2.2.2.2.2.2.2.1.2.2.1 s.2.2.1).bind fun e996=>
  if (decide (e995.2=e996))=true then
   (idx s.2.2.2.2.2.2.2.2.2.1.2.1 s.2.2.2.2.1).bind fun e997=>
   (idx s.2.2.2.2.2.2.2.2.1.2.2.1 s.2.2.1).bind fun e998=>
   if (e997.1==e998.2.2.1)=true then
    (idx s.2.2.2.2.2.2.2.2.2.2 s.2.2.2.2.1).bind fun e999=>
    (idx s.2.2.2.2.2.2.2.2.1.2.2.1 s.2.2.1).bind fun e1000=>
    if ((e999.1==5)==(e1000.1==s.1))=true then
     some (.inl (s.1,s.2.1,s.2.2.1,wi (s.2.2.2.1+1),wi (s.2.2.2.2.1+1),s.2.2.2.2.2.1,s.2.2.2.2.2.2.1,s.2.2.2.2.2.2.2.1,s.2.2.2.2.2.2.2.2.1,s.2.2.2.2.2.2.2.2.2))
    else
    some (.inl (s.1,s.2.1,s.2.2.1,s.2.2.2.1,wi (s.2.2.2.2.1+1),s.2.2.2.2.2.1,s.2.2.2.2.2.2.1,s.2.2.2.2.2.2.2.1,s.2.2.2.2.2.2.2.2.1,s.2.2.2.2.2.2.2.2.2))
   else
   some (.inl (s.1,s.2.1,s.2.2.1,s.2.2.2.1,wi (s.2.2.2.2.1+1),s.2.2.2.2.2.1,s.2.2.2.2.2.2.1,s.2.2.2.2.2.2.2.1,s.2.2.2.2.2.2.2.2.1,s.2.2.2.2.2.2.2.2.2))
  else
  some (.inl (s.1,s.2.1,s.2.2.1,s.2.2.2.1,wi (s.2.2.2.2.1+1),s.2.2.2.2.2.1,s.2.2.2.2.2.2.1,s.2.2.2.2.2.2.2.1,s.2.2.2.2.2.2.2.2.1,s.2.2.2.2.2.2.2.2.2))
 else
 some (.inr (s.1,s.2.1,s.2.2.1,s.2.2.2.1,s.2.2.2.2.2.1,s.2.2.2.2.2.2.1,s.2.2.2.2.2.2.2.1,s.2.2.2.2.2.2.2.2.1,s.2.2.2.2.2.2.2.2.2))
def QP:Lp:=⟨[(1,.v (.int .i64)),(7,.v .bool),(8,.ref 1 []),(10,.ref 3 []),(11,.ref 4 []),(14,.v (.int .i64)),(15,.v (.int .i64)),(16,.v (.int .i64))],[.var (.v Zb) true,.var (.v Zq) true,.var (.v (.arr 2 XE)) true,.var (.v Ze) true,.var (.v Zy) true],[(.int .i64),.bool,(.int .i64),(.int .i64),(.int .i64),Zb,Zq,(.arr 2 XE),Ze,Zy],[⟨.exit 4,[(1,.v (.int .i64)),(7,.v .bool),(8,.ref 1 []),(10,.ref 3 []),(11,.ref 4 []),(14,.v (.int .i64)),(15,.v (.int .i64))],[.var (.v Zb) true,.var (.v Zq) true,.var (.v (.arr 2 XE)) true,.var (.v Ze) true,.var (.v Zy) true],[(.int .i64),.bool,(.int .i64),(.int .i64),Zb,Zq,(.arr 2 XE),Ze,Zy]⟩],Zd (Yn fuel) fuel⟩
theorem Zdt:QP.Ok yb (Zp yb 6) (Zo yb 6 2):=Zk (fi:={ hi:={ still:=[6,20,26,27,28,29,40,163,169]},lp:=[]}) (specs:={ l:=[]}) (okS trivial) trivial (by kernel_rfl) (fun v=>by kernel_rfl)
def Xj (F:Nat) (s:(Int×Bool×Int×Corsnedlaw21Play×ZO×(List Kit)×State×ZZ)):Option ((Int×Bool×Int×Corsnedlaw21Play×ZO×(List Kit)×State×ZZ)⊕((Bool×Corsnedlaw21Play×ZO×(List Kit)×State×ZZ)⊕(Bool×Corsnedlaw21Play×ZO×(List Kit)×State×ZZ))):=
 let y993:Bool:=decide (s.2.2.1 < (s.2.2.2.2.2.2.1.2.2.1.length:Int))
 if y993=true then
  (Zd (Yn F) F (s.1,s.2.1,s.2.2.1,(0:Int),(0:Int),s.2.2.2.1,s.2.2.2.2.1,s.2.2.2.2.2.1,s.2.2.2.2.2.2.1,s.2.2.2.2.2.2.2)).bind fun o1001=>
  if (inB o1001.1 2)=true then
   (o1001.2.2.2.2.2.1.2.2.2.1[o1001.1.toNat]?).bind fun e1002=>
   (idx o1001.2.2.2.2.2.2.2.1.2.2.1 o1001.2.2.1).bind fun e1003=>
   (Wn F e1002 e1003.2.2.1).bind fun o1004=>
   if o1004=true then
    if (o1001.2.2.2.1 !=1)=true then
     some (.inr (.inl (false,o1001.2.2.2.2.1,o1001.2.2.2.2.2.1,o1001.2.2.2.2.2.2.1,o1001.2.2.2.2.2.2.2.1,o1001.2.2.2.2.2.2.2.2)))
    else
    if (!o1004)=true then
     if (o1001.2.2.2.1 !=0)=true then
      some (.inr (.inl (false,o1001.2.2.2.2.1,o1001.2.2.2.2.2.1,o1001.2.2.2.2.2.2.1,o1001.2.2.2.2.2.2.2.1,o1001.2.2.2.2.2.2.2.2)))
     else
     some (.inl (o1001.1,o1001.2.1,wi (o1001.2.2.1+1),o1001.2.2.2.2.1,o1001.2.2.2.2.2.1,o1001.2.2.2.2.2.2.1,o1001.2.2.2.2.2.2.2.1,o1001.2.2.2.2.2.2.2.2))
    else
    some (.inl (o1001.1,o1001.2.1,wi (o1001.2.2.1+1),o1001.2.2.2.2.1,o1001.2.2.2.2.2.1,o1001.2.2.2.2.2.2.1,o1001.2.2.2.2.2.2.2.1,o1001.2.2.2.2.2.2.2.2))
   else
   if (!o1004)=true then
    if (o1001.2.2.2.1 !=0)=true then
     some (.inr (.inl (false,o1001.2.2.2.2.1,o1001.2.2.2.2.2.1,o1001.2.2.2.2.2.2.1,o1001.2.2.2.2.2.2.2.1,o1001.2.2.2.2.2.2.2.2)))
    else
    some (.inl (o1001.1,o1001.2.1,wi (o1001.2.2.1+1),o1001.2.2.2.2.1,o1001.2.2.2.2.2.1,o1001.2.2.2.2.2.2.1,o1001.2.2.2.2.2.2.2.1,o1001.2.2.2.2.2.2.2.2))
   else
   some (.inl (o1001.1,o1001.2.1,wi (o1001.2.2.1+1),o1001.2.2.2.2.1,o1001.2.2.2.2.2.1,o1001.2.2.2.2.2.2.1,o1001.2.2.2.2.2.2.2.1,o1001.2.2.2.2.2.2.2.2))
  else
  none
 else
 some (.inr (.inr (s.2.1,s.2.2.2.1,s.2.2.2.2.1,s.2.2.2.2.2.1,s.2.2.2.2.2.2.1,s.2.2.2.2.2.2.2)))
def QQ:Lp:=⟨[(1,.v (.int .i64)),(7,.v .bool),(8,.ref 1 []),(10,.ref 3 []),(11,.ref 4 []),(14,.v (.int .i64))],[.var (.v Zb) true,.var (.v Zq) true,.var (.v (.arr 2 XE)) true,.var (.v Ze) true,.var (.v Zy) true],[(.int .i64),.bool,(.int .i64),Zb,Zq,(.arr 2 XE),Ze,Zy],[⟨.ret,[(6,.v .bool)],[.var (.v Zb) true,.var (.v Zq) true,.var (.v (.arr 2 XE)) true,.var (.v Ze) true,.var (.v Zy) true],[.bool,Zb,Zq,(.arr 2 XE),Ze,Zy]⟩,⟨.exit 2,[(7,.v .bool)],[.var (.v Zb) true,.var (.v Zq) true,.var (.v (.arr 2 XE)) true,.var (.v Ze) true,.var (.v Zy) true],[.bool,Zb,Zq,(.arr 2 XE),Ze,Zy]⟩],Zd (Xj fuel) fuel⟩
theorem Zdu:QQ.Ok yb (Zp yb 6) (Zo yb 6 1):=Zk (fi:={ hi:={ still:=[6,20,26,27,28,29,40,163,169]},lp:=[(2,QP)]}) (specs:={ l:=[ZcG]}) (okS ⟨ZfB,trivial⟩) ⟨Zdt,trivial⟩ (by kernel_rfl) (fun v=>by kernel_rfl)
def YS (F:Nat) (a0:Corsnedlaw21Play) (a1:Int) (a2:UInt64):Option (Bool):=
 ((some true)).bind fun o982=>
 (Yf F a0).bind fun o983=>
 (commit_MakeM F o983.1 o983.2.2 a1 a2).bind fun o984=>
 if (decide (a1 < 0))=true then
  if o982=true then
   if (o984.2==1)=true then
    if ((o984.1.2.length:Int)==0)=true then
     some ((o984.1.1.2.1.length:Int)==0)
    else
    some false
   else
   some false
  else
  some false
 else
 if (decide (a1 > 1))=true then
  if o982=true then
   if (o984.2==1)=true then
    if ((o984.1.2.length:Int)==0)=true then
     some ((o984.1.1.2.1.length:Int)==0)
    else
    some false
   else
   some false
  else
  some false
 else
 (YT F a2).bind fun o985=>
 if (!o985)=true then
  if o982=true then
   if (o984.2==1)=true then
    if ((o984.1.2.length:Int)==0)=true then
     some ((o984.1.1.2.1.length:Int)==0)
    else
    some false
   else
   some false
  else
  some false
 else
 if (o984.2 !=0)=true then
  some false
 else
 let y986:Bool:=(o984.1.2.length:Int)!=(o984.1.1.2.1.length:Int)
 if y986=true then
  some false
 else
 (Zd (Xi F) F (a1,o982,(1:Int),a0,o983.1,o983.2.1,o983.2.2,o984.1)).bind fun o990=>
 match o990 with
 |.inl o991=>
  some o991.1
 |.inr o992=>
  (Zd (Xj F) F (o992.1,o992.2.1,(0:Int),o992.2.2.1,o992.2.2.2.1,o992.2.2.2.2.1,o992.2.2.2.2.2.1,o992.2.2.2.2.2.2)).bind fun o1005=>
  match o1005 with
  |.inl o1006=>
   some o1006.1
  |.inr o1007=>
   some o1007.1
def Zf9 (F:Nat):Fs yb:=⟨6,[.v Zb,.v (.int .i64),.v .u64],[],[Zb,(.int .i64),.u64],[⟨.ret,[(0,.v .bool)],[],[.bool]⟩],fun x=>YS F x.1 x.2.1 x.2.2⟩
def Zgj:Fs yb:=Zf9 fuel
theorem Zga:Zgj.Ok:=Zg (fi:={ hi:={ still:=[6,20,26,27,28,29,40,163,169]},lp:=[(0,QO),(1,QQ)]}) (specs:={ l:=[ZvW,XD,Va,Wp]}) (okS ⟨Zt1,Xc,WB,WA,trivial⟩) ⟨Zds,Zdu,trivial⟩ (by decide+kernel) (fun x=>by kernel_rfl)
end
end Go.Proofs.YtjbbdlffilcaaaaGreat
end
section
set_option maxRecDepth 4000
namespace Go.Proofs.YtjbbdlffilcaaaaGreat
open Go Go.Ev
theorem ZGd (d z:Int):Wn fuel (Tm d) z=some (decide (z ≥ 100)):=rfl
end Go.Proofs.YtjbbdlffilcaaaaGreat
end
section
set_option maxRecDepth 4000
namespace Go.Proofs.YtjbbdlffilcaaaaGreat
open Go Go.Ev
def amF (d:Int) (x:Out×Role):Int:=if x.2.1=d then x.1.1 else 0
section
variable {p:Corsnedlaw21Play} {A:Int} {k0 k1:Kit} {op own:Int} {s:State} {h0 h1:Int} {per:UInt64} {m:List (Out×Role)}
theorem Cm.am (c:Cm p A k0 k1 op own s h0 h1 per m) (d:Int):tot (amF d) m=(if rst op own h0 h1 s.2.2.2 (shw s.2.2.1).length ≥ 100 then (if 1=d then rst op own h0 h1 s.2.2.2 (shw s.2.2.1).length else 0) else 0)+(if rst op (1 - own) h0 h1 s.2.2.2 (shw s.2.2.1).length ≥ 100 then (if 2=d then rst op (1 - own) h0 h1 s.2.2.2 (shw s.2.2.1).length else 0) else 0)+(if 3=d then 330 else 0)+(if 4=d then 330 else 0)+tot (fun x:ZB=>if (if x.1=own then (5:Int) else 6)=d then x.2.2.1 else 0) (shw s.2.2.1):=by
 rw [tot_perm _ c.pm,items_tot]
 rfl
end
def isO (own:Int) (c:ZB) (x:Out×Role):Int:=if x.2.2=c∧x.1.1=c.2.2.1∧((x.2.1==5)=(c.1==own)) then 1 else 0
theorem ZJj (own:Int) (c:ZB) (x:Out×Role):0≤isO own c x∧isO own c x≤1:=by
 unfold isO
 split <;> omega
theorem ZHw {P:Corsnedlaw21Play} {ch:ZO} {ks:List Kit} {s:State} {own:Int} {m:List (Out×Role)} (hm:m.length≤20) {ins:List In} {note:Int} {j:Nat} {c:ZB} (hc:s.2.2.1[j]? =some c):
 Zd (Yn fuel) fuel (own,true,(j:Int),(0:Int),(0:Int),P,ch,ks,s,((ins,m.map (·.1),note),m.map (·.2)))=some (own,true,(j:Int),tot (isO own c) m,P,ch,ks,s,((ins,m.map (·.1),note),m.map (·.2))):=by
 refine ZG m.length (fun k:Nat=>(own,true,(j:Int),tot (isO own c) (m.take k),(k:Int),P,ch,ks,s,((ins,m.map (·.1),note),m.map (·.2)))) ?_ ?_ (by omega)
 ·intro k hk
  obtain ⟨x,hxk,hxm⟩:=Zj hk
  have hl:(m.take k).length≤20:=by rw [List.length_take];omega
  have b2:=ZnE (f:=isO own c) (c:=1) (l:=m.take k) fun x _=>ZJj own c x
  unfold Yn
  dsimp only
  rw [yp,if_pos (ZY hk),Zr (show (m.map (fun x:Out×Role=>x.2))[k]? =some x.2 by rw [yx,hxk];rfl),Zr (show (m.map (fun x:Out×Role=>x.1))[k]? =some x.1 by rw [yx,hxk];rfl),Zr hc,Zu (by omega),tot_take _ hxk]
  simp only [ya]
  rw [Zv (z:=tot (isO own c) (m.take k)+1) (by omega) (by omega)]
  unfold isO
  by_cases q1:x.2.2=c
  ·rw [if_pos (decide_eq_true q1)]
   by_cases q2:x.1.1=c.2.2.1
   ·rw [if_pos (by rw [q2];exact beq_self_eq_true _)]
    by_cases q3:(x.2.1==5)=(c.1==own)
    ·rw [if_pos (by rw [q3];exact beq_self_eq_true _),if_pos ⟨q1,q2,q3⟩]
    ·rw [if_neg (by rw [beq_iff_eq];exact q3),if_neg (fun h=>q3 h.2.2),Int.add_zero]
   ·rw [if_neg (by rw [beq_iff_eq];exact q2),if_neg (fun h=>q2 h.2.1),Int.add_zero]
  ·rw [if_neg (by rw [decide_eq_true_iff];exact q1),if_neg (fun h=>q1 h.1),Int.add_zero]
 ·unfold Yn
  dsimp only
  rw [yp,if_neg (by rw [ZQ];decide),List.take_length]
theorem one_of {c:ZB}:∀{l:List ZB},l.Pairwise Ahd→tot (fun x:ZB=>if x=c then (1:Int) else 0) l=if c∈l then 1 else 0
 |[],_=>by simp [tot]
 |e::r,h=>by
  obtain ⟨h1,h2⟩:=List.pairwise_cons.1 h
  rw [YD,one_of h2]
  by_cases hc:e=c
  ·subst hc
   have:e ∉ r:=fun hm=>by
    have:=h1 e hm
    unfold Ahd at this
    omega
   rw [if_pos rfl,if_neg this,if_pos (List.mem_cons_self ..)]
   rfl
  ·rw [if_neg hc]
   by_cases hm:c∈r
   ·rw [if_pos hm,if_pos (List.mem_cons_of_mem _ hm)]
    rfl
   ·rw [if_neg hm,if_neg (by
     intro h
     rcases List.mem_cons.1 h with h|h
     ·exact hc h.symm
     ·exact hm h)]
    rfl
theorem Cm.rows {p:Corsnedlaw21Play} {A:Int} {k0 k1:Kit} {op own:Int} {s:State} {h0 h1:Int} {per:UInt64} {m:List (Out×Role)} (cm:Cm p A k0 k1 op own s h0 h1 per m) {c:ZB} (hc:c∈s.2.2.1):tot (isO own c) m=if c.2.2.1 ≥ 100 then 1 else 0:=by
 have hci:=cm.st.cs c hc
 have hz:zc≠c:=fun h=>by
  have h2:(1:Int)≤c.2.1:=hci.2.1
  rw [←h] at h2
  exact absurd h2 (by decide)
 have z:∀(o:Out) (d:Int),isO own c (o,(d,zc))=0:=fun o d=>if_neg fun h=>hz h.1
 have e:tot (fun x:ZB=>isO own c (Zf5 (kO k0 k1 own) (kP k0 k1 own) (wt own) own per x)) (shw s.2.2.1)=tot (fun x:ZB=>if x=c then (1:Int) else 0) (shw s.2.2.1):=by
  refine tot_eq fun x _=> ?_
  unfold isO Zf5
  dsimp only
  by_cases h:x=c
  ·rw [if_pos h,if_pos]
   subst h
   refine ⟨rfl,rfl, ?_⟩
   by_cases h2:x.1=own
   ·rw [if_pos h2,h2]
    simp
   ·rw [if_neg h2]
    have:(x.1==own)=false:=by
     rw [beq_eq_false_iff_ne]
     exact h2
    rw [this]
    rfl
  ·rw [if_neg h,if_neg fun h2=>h h2.1]
 have hsr:(shw s.2.2.1).Pairwise Ahd:=cm.st.srt.filter _
 rw [tot_perm _ cm.pm,items_tot,z,z,z,z,e,one_of hsr]
 by_cases h:c.2.2.1 ≥ 100
 ·rw [if_pos (ZeB.2 ⟨hc,h⟩),if_pos h]
  split <;> split <;> rfl
 ·rw [if_neg (fun h2=>h (ZeB.1 h2).2),if_neg h]
  split <;> split <;> rfl
theorem ZHx {A:Int} {k0 k1:Kit} {op:Int} {s:State} {side:Int} {per:UInt64} (h:¬((side=0∨side=1)∧WT per.toNat)):commit_MakeM fuel (chan A k0 k1 op) s side per=some (((([]:List In),([]:List Out),(0:Int)),([]:List Role)),(1:Int)):=by
 have hs:W0 fuel side=some (decide (side=0∨side=1)):=by
  unfold W0
  by_cases h0:side=0
  ·rw [if_pos (by rw [h0];rfl),decide_eq_true (.inl h0)]
  ·rw [if_neg (by rw [beq_iff_eq];exact h0)]
   by_cases h1:side=1
   ·rw [decide_eq_true (.inr h1),h1]
    rfl
   ·rw [decide_eq_false (by omega)]
    refine congrArg some ?_
    rw [beq_eq_false_iff_ne]
    exact h1
 unfold commit_MakeM
 rw [hs,ya]
 by_cases h1:side=0∨side=1
 ·rw [decide_eq_true h1,if_neg (by decide),Yc,ya,decide_eq_false (fun h2=>h ⟨h1,h2⟩),if_pos (by decide)]
 ·rw [decide_eq_false h1,if_pos (by decide)]
theorem ZGe {p:Corsnedlaw21Play} (hp:PlayOk p) (side:Int) (per:UInt64):YS fuel p side per=some true:=by
 obtain ⟨A,k0,k1,op,s,h0,h1,e1,e2,e3,e4⟩:=ZoT hp
 unfold YS
 rw [ya,e1,ya]
 dsimp only
 by_cases hok:(side=0∨side=1)∧WT per.toNat
 ·obtain ⟨hown,hper⟩:=hok
  obtain ⟨m,cm⟩:=e4 side per hown hper
  obtain ⟨d,hd⟩:=ZpS hown
  have hT:(chan A k0 k1 op).2.2.2.1=[Tm 5,Tm 6]:=rfl
  have hlen:=cm.len
  rw [cm.mkd,ya,if_neg (by rw [decide_eq_true_iff];omega),if_neg (by rw [decide_eq_true_iff];omega),Yc,ya,decide_eq_true hper,if_neg (by decide)]
  dsimp only
  rw [if_neg (by decide),if_neg (by simp)]
  have hl:=cm.st.len
  have hrw:=fun {c:ZB} (hc:c∈s.2.2.1)=>cm.rows hc
  have hin:=fun {j:Nat} {c:ZB} (hc:s.2.2.1[j]? =some c)=>ZHw (P:=p) (ch:=chan A k0 k1 op) (ks:=[k0,k1]) (s:=s) (own:=side) (m:=m) hlen (ins:=[((z32,0),(0,[],0))]) (note:=2*s.1+side) hc
  have h4:1≤m.length:=by
   rw [cm.pm.length_eq,Zh9]
   omega
  rw [show (side,true,(1:Int),p,chan A k0 k1 op,[k0,k1],s,((([((z32,0),(0,[],0))]:List In),m.map (fun x:Out×Role=>x.1),2*s.1+side),m.map (fun x:Out×Role=>x.2)))=(fun k:Nat=>(side,true,((k+1:Nat):Int),p,chan A k0 k1 op,[k0,k1],s,((([((z32,0),(0,[],0))]:List In),m.map (fun x:Out×Role=>x.1),2*s.1+side),m.map (fun x:Out×Role=>x.2)))) 0 from rfl,
   ZG (x:=.inr (side,true,p,chan A k0 k1 op,[k0,k1],s,((([((z32,0),(0,[],0))]:List In),m.map (fun x:Out×Role=>x.1),2*s.1+side),m.map (fun x:Out×Role=>x.2)))) (m.length - 1) (fun k:Nat=>(side,true,((k+1:Nat):Int),p,chan A k0 k1 op,[k0,k1],s,((([((z32,0),(0,[],0))]:List In),m.map (fun x:Out×Role=>x.1),2*s.1+side),m.map (fun x:Out×Role=>x.2)))) ?_ ?_ (by omega),ya]
  ·dsimp only
   generalize hC:((([((z32,0),(0,[],0))]:List In),m.map (fun x:Out×Role=>x.1),2*s.1+side),m.map (fun x:Out×Role=>x.2))=C at hin
   rw [show (side,true,(0:Int),p,chan A k0 k1 op,[k0,k1],s,C)=(fun k:Nat=>(side,true,(k:Int),p,chan A k0 k1 op,[k0,k1],s,C)) 0 from rfl,
    ZG (x:=.inr (true,p,chan A k0 k1 op,[k0,k1],s,C)) s.2.2.1.length (fun k:Nat=>(side,true,(k:Int),p,chan A k0 k1 op,[k0,k1],s,C)) ?_ ?_ (by omega),ya]
   ·intro k hk
    obtain ⟨c,hc,hcm⟩:=Zj hk
    unfold Xj
    dsimp only
    rw [if_pos (ZY hk),hin hc,ya]
    dsimp only
    rw [if_pos (YC hown),hT,hd,ya,Zr hc,ya,ZGd,ya,hrw hcm,Zu (by omega)]
    by_cases h100:c.2.2.1 ≥ 100
    ·rw [decide_eq_true h100,if_pos rfl,if_pos h100,if_neg (by decide),if_neg (by decide)]
    ·rw [decide_eq_false h100,if_neg (by decide),if_neg h100,if_pos (by decide),if_neg (by decide)]
   ·unfold Xj
    dsimp only
    rw [if_neg (by rw [ZQ];decide)]
  ·intro k hk
   obtain ⟨x,hxk,hxm⟩:=Zj (l:=m) (k:=k+1) (by omega)
   obtain ⟨y,hyk,hym⟩:=Zj (l:=m) (k:=k) (by omega)
   have hxy:y.1.1≤x.1.1:=by
    have:=List.pairwise_iff_getElem.1 cm.so k (k+1) (by omega) (by omega) (by omega)
    rw [(yl.1 hxk).2,(yl.1 hyk).2] at this
    exact this
   unfold Xi
   dsimp only
   rw [yp,if_pos (decide_eq_true (by omega)),Zv (z:=((k+1:Nat):Int) - 1) (by omega) (by omega),show ((k+1:Nat):Int) - 1=(k:Int) by omega,Zr (show (m.map (fun x:Out×Role=>x.1))[k+1]? =some x.1 by rw [yx,hxk];rfl),ya,Zr (show (m.map (fun x:Out×Role=>x.1))[k]? =some y.1 by rw [yx,hyk];rfl),ya,if_neg (by rw [decide_eq_true_iff];omega),Zu (by omega)]
  ·unfold Xi
   dsimp only
   rw [yp,if_neg (by rw [decide_eq_true_iff];omega)]
 ·rw [ZHx hok,ya]
  dsimp only
  have e:(if ((1:Int)==1)=true then if ((([]:List Role).length:Int)==0)=true then some ((([]:List Out).length:Int)==0) else some false else some false)=some true:=rfl
  by_cases g1:side < 0
  ·rw [if_pos (decide_eq_true g1),if_pos rfl]
   exact e
  ·rw [if_neg (by rw [decide_eq_true_iff];exact g1)]
   by_cases g2:side > 1
   ·rw [if_pos (decide_eq_true g2),if_pos rfl]
    exact e
   ·rw [if_neg (by rw [decide_eq_true_iff];exact g2),Yc,ya,decide_eq_false (fun h=>hok ⟨by omega,h⟩),if_pos (by decide),if_pos rfl]
    exact e
end Go.Proofs.YtjbbdlffilcaaaaGreat
end
