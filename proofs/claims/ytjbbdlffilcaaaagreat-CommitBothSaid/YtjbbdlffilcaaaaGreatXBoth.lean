/- Parts of the proof, in one file. -/
import Derived.Test.YtjbbdlffilcaaaaGreatKg
open Go.Proofs.Tryz renaming prog → yb
open List renaming length_map → yp
open Option renaming bind_some → ya, bind → yao
set_option linter.unusedVariables false
set_option linter.unusedSimpArgs false
section
set_option maxRecDepth 4000
namespace Go.Proofs.YtjbbdlffilcaaaaGreat
open Go Go.Ev
noncomputable section
def Wa (F:Nat) (s:(Int×Int×Int×Int×ZZ)):Option ((Int×Int×Int×Int×ZZ)⊕(Int×Int×ZZ)):=
 if (decide (s.2.2.2.1 < (s.2.2.2.2.2.length:Int)))=true then
  let y881:Bool:=decide (s.2.2.2.1 < (s.2.2.2.2.1.2.1.length:Int))
  if y881=true then
   (idx s.2.2.2.2.2 s.2.2.2.1).bind fun e882=>
   if (e882.1==s.1)=true then
    (idx s.2.2.2.2.1.2.1 s.2.2.2.1).bind fun e883=>
    some (.inl (s.1,wi (s.2.1+e883.1),wi (s.2.2.1+1),wi (s.2.2.2.1+1),s.2.2.2.2))
   else
   some (.inl (s.1,s.2.1,s.2.2.1,wi (s.2.2.2.1+1),s.2.2.2.2))
  else
  some (.inr (s.2.1,s.2.2.1,s.2.2.2.2))
 else
 some (.inr (s.2.1,s.2.2.1,s.2.2.2.2))
def ZbI:Lp:=⟨[(1,.v (.int .i64)),(2,.ref 0 []),(6,.v (.int .i64)),(7,.v (.int .i64)),(8,.v (.int .i64))],[.var (.v Zy) true],[(.int .i64),(.int .i64),(.int .i64),(.int .i64),Zy],[⟨.exit 0,[(6,.v (.int .i64)),(7,.v (.int .i64))],[.var (.v Zy) true],[(.int .i64),(.int .i64),Zy]⟩],Zd (Wa fuel) fuel⟩
theorem Zgh:ZbI.Ok yb (Zp yb 19) (Zo yb 19 0):=Zk (fi:={ hi:={ still:=[4,5]},lp:=[]}) (specs:={ l:=[]}) (okS trivial) trivial (by kernel_rfl) (fun v=>by kernel_rfl)
def Yy (F:Nat) (a0:ZZ) (a1:Int):Option ((Int×Int)):=
 (Zd (Wa F) F (a1,(0:Int),(0:Int),(0:Int),a0)).bind fun o884=>
 some (o884.1,o884.2.1)
def Zi5 (F:Nat):Fs yb:=⟨19,[.v Zy,.v (.int .i64)],[],[Zy,(.int .i64)],[⟨.ret,[(0,.tup [.v (.int .i64),.v (.int .i64)])],[],[(.int .i64),(.int .i64)]⟩],fun x=>Yy F x.1 x.2⟩
def V2:Fs yb:=Zi5 fuel
theorem ZbJ:V2.Ok:=Zg (fi:={ hi:={ still:=[4,5]},lp:=[(0,ZbI)]}) (specs:={ l:=[]}) (okS trivial) ⟨Zgh,trivial⟩ (by decide+kernel) (fun x=>by kernel_rfl)
end
end Go.Proofs.YtjbbdlffilcaaaaGreat
end
section
set_option maxRecDepth 4000
namespace Go.Proofs.YtjbbdlffilcaaaaGreat
open Go Go.Ev
theorem perOf_is {h:List UInt8} (hl:h.length=32):∃k,Xd fuel h=some k∧Key k∧YM fuel h=some (B k.toNat):=by
 obtain ⟨k,h1,h2⟩:=ZbE hl
 refine ⟨k,h1,h2, ?_⟩
 unfold YM
 rw [h1,ya,Xz,ya]
end Go.Proofs.YtjbbdlffilcaaaaGreat
end
section
set_option maxRecDepth 4000
namespace Go.Proofs.YtjbbdlffilcaaaaGreat
open Go Go.Ev
theorem tot_nil {α:Type} (f:α→Int):tot f []=0:=rfl
theorem tot_app {α:Type} (f:α→Int) (l r:List α):tot f (l++r)=tot f l+tot f r:=by
 unfold tot
 rw [List.map_append,List.sum_append]
theorem tot_take {α:Type} (f:α→Int) {l:List α} {k:Nat} {e:α} (h:l[k]? =some e):tot f (l.take (k+1))=tot f (l.take k)+f e:=by
 rw [QU h,tot_app]
 show _+(f e+0)=_
 omega
theorem tot_perm {α:Type} (f:α→Int) {l r:List α} (h:l.Perm r):tot f l=tot f r:=by
 induction h with
 |nil=>rfl
 |cons x _ ih=>rw [YD,YD,ih]
 |swap x y l=>rw [YD,YD,YD,YD];omega
 |trans _ _ h1 h2=>rw [h1,h2]
theorem tot_map {α β:Type} (f:β→Int) (g:α→β) (l:List α):tot f (l.map g)=tot (fun x=>f (g x)) l:=by
 unfold tot
 rw [List.map_map]
 rfl
theorem tot_eq {α:Type} {f g:α→Int}:∀{l:List α},(∀x,x∈l→f x=g x)→tot f l=tot g l
 |[],_=>rfl
 |x::r,h=>by rw [YD,YD,h x (List.mem_cons_self ..),tot_eq (l:=r) fun y hy=>h y (List.mem_cons_of_mem _ hy)]
theorem items_tot {O P:Kit} {w own:Int} {per:UInt64} {a b:Int} {l:List ZB} (f:Out×Role→Int):tot f (items O P w own per a b l)=(if a ≥ 100 then f ((a,ZgZ O P w per),(1,zc)) else 0)+(if b ≥ 100 then f ((b,ZpT P),(2,zc)) else 0)+f ((330,Zhq O),(3,zc))+f ((330,Zhq P),(4,zc))+tot (fun c=>f (Zf5 O P w own per c)) l:=by
 unfold items Zg0
 rw [tot_app,tot_app,tot_app,tot_map]
 split <;> split <;> simp only [YD,tot_nil] <;> omega
section
variable {p:Corsnedlaw21Play} {A:Int} {k0 k1:Kit} {op own:Int} {s:State} {h0 h1:Int} {per:UInt64} {m:List (Out×Role)}
theorem Cm.good (c:Cm p A k0 k1 op own s h0 h1 per m):∀x,x∈m→Good x∧0≤x.1.1∧x.1.1≤4300000000:=by
 have:=c.ch.hi
 refine c.mem (fun a ha hA=>⟨.inl ⟨.inl rfl,ha⟩,by dsimp only;omega,by dsimp only;omega⟩) (fun b hb hA=>⟨.inl ⟨.inr rfl,hb⟩,by dsimp only;omega,by dsimp only;omega⟩) ⟨.inr (.inl ⟨.inl rfl,rfl⟩),show (0:Int)≤330 by decide,show (330:Int)≤4300000000 by decide⟩ ⟨.inr (.inl ⟨.inr rfl,rfl⟩),show (0:Int)≤330 by decide,show (330:Int)≤4300000000 by decide⟩ ?_
 intro x hx hc h100
 refine ⟨.inr (.inr ⟨?_,h100⟩), ?_, ?_⟩
 ·show (if x.1=own then (5:Int) else 6)=5∨(if x.1=own then (5:Int) else 6)=6
  split
  ·exact .inl rfl
  ·exact .inr rfl
 ·show 0≤x.2.2.1
  omega
 ·show x.2.2.1≤_
  have:=hc.2.2.2.2.1
  omega
end
end Go.Proofs.YtjbbdlffilcaaaaGreat
end
section
set_option maxRecDepth 4000
namespace Go.Proofs.YtjbbdlffilcaaaaGreat
open Go Go.Ev
noncomputable section
def Xh (F:Nat) (s:(Bool×Int×Corsnedlaw21Play×ZO×(List Kit)×State×ZZ×ZZ×(List Int)×(List Int))):Option ((Bool×Int×Corsnedlaw21Play×ZO×(List Kit)×State×ZZ×ZZ×(List Int)×(List Int))⊕((Bool×Corsnedlaw21Play×ZO×(List Kit)×State×ZZ×ZZ×(List Int)×(List Int))⊕(Bool×Corsnedlaw21Play×ZO×(List Kit)×State×ZZ×ZZ×(List Int)×(List Int)))):=
 if (decide (s.2.1 < 4))=true then
  if (inB s.2.1 4)=true then
   (s.2.2.2.2.2.2.2.2.1[s.2.1.toNat]?).bind fun e946=>
   (Yy F s.2.2.2.2.2.2.1 e946).bind fun o947=>
   if (inB s.2.1 4)=true then
    (s.2.2.2.2.2.2.2.2.2[s.2.1.toNat]?).bind fun e948=>
    (Yy F s.2.2.2.2.2.2.2.1 e948).bind fun o949=>
    if (o947.1 !=o949.1)=true then
     some (.inr (.inl (false,s.2.2.1,s.2.2.2.1,s.2.2.2.2.1,s.2.2.2.2.2.1,s.2.2.2.2.2.2.1,s.2.2.2.2.2.2.2.1,s.2.2.2.2.2.2.2.2.1,s.2.2.2.2.2.2.2.2.2)))
    else
    if (o947.2 !=o949.2)=true then
     some (.inr (.inl (false,s.2.2.1,s.2.2.2.1,s.2.2.2.2.1,s.2.2.2.2.2.1,s.2.2.2.2.2.2.1,s.2.2.2.2.2.2.2.1,s.2.2.2.2.2.2.2.2.1,s.2.2.2.2.2.2.2.2.2)))
    else
    some (.inl (s.1,wi (s.2.1+1),s.2.2.1,s.2.2.2.1,s.2.2.2.2.1,s.2.2.2.2.2.1,s.2.2.2.2.2.2.1,s.2.2.2.2.2.2.2.1,s.2.2.2.2.2.2.2.2.1,s.2.2.2.2.2.2.2.2.2))
   else
   none
  else
  none
 else
 some (.inr (.inr (s.1,s.2.2.1,s.2.2.2.1,s.2.2.2.2.1,s.2.2.2.2.2.1,s.2.2.2.2.2.2.1,s.2.2.2.2.2.2.2.1,s.2.2.2.2.2.2.2.2.1,s.2.2.2.2.2.2.2.2.2)))
def QN:Lp:=⟨[(3,.v .bool),(4,.ref 1 []),(8,.ref 4 []),(10,.ref 5 []),(12,.ref 6 []),(13,.ref 7 []),(14,.v (.int .i64))],[.var (.v Zb) true,.var (.v Zq) true,.var (.v (.arr 2 XE)) true,.var (.v Ze) true,.var (.v Zy) true,.var (.v Zy) true,.var (.v (.arr 4 (.int .i64))) true,.var (.v (.arr 4 (.int .i64))) true],[.bool,(.int .i64),Zb,Zq,(.arr 2 XE),Ze,Zy,Zy,(.arr 4 (.int .i64)),(.arr 4 (.int .i64))],[⟨.ret,[(2,.v .bool)],[.var (.v Zb) true,.var (.v Zq) true,.var (.v (.arr 2 XE)) true,.var (.v Ze) true,.var (.v Zy) true,.var (.v Zy) true,.var (.v (.arr 4 (.int .i64))) true,.var (.v (.arr 4 (.int .i64))) true],[.bool,Zb,Zq,(.arr 2 XE),Ze,Zy,Zy,(.arr 4 (.int .i64)),(.arr 4 (.int .i64))]⟩,⟨.exit 0,[(3,.v .bool),(4,.ref 1 []),(8,.ref 4 []),(10,.ref 5 [])],[.var (.v Zb) true,.var (.v Zq) true,.var (.v (.arr 2 XE)) true,.var (.v Ze) true,.var (.v Zy) true,.var (.v Zy) true,.var (.v (.arr 4 (.int .i64))) true,.var (.v (.arr 4 (.int .i64))) true],[.bool,Zb,Zq,(.arr 2 XE),Ze,Zy,Zy,(.arr 4 (.int .i64)),(.arr 4 (.int .i64))]⟩],Zd (Xh fuel) fuel⟩
theorem Zdr:QN.Ok yb (Zp yb 4) (Zo yb 4 0):=Zk (fi:={ hi:={ still:=[2,25,31,34,35,36,41,42,43,74,77,82,85,98,103]},lp:=[]}) (specs:={ l:=[V2]}) (okS ⟨ZbJ,trivial⟩) trivial (by kernel_rfl) (fun v=>by kernel_rfl)
def XV (F:Nat) (a0:Corsnedlaw21Play):Option (Bool):=
 ((some true)).bind fun o941=>
 (Yf F a0).bind fun o942=>
 (YM F a0.2.2.2.2.2.2.2).bind fun o943=>
 (commit_MakeM F o942.1 o942.2.2 (0:Int) o943).bind fun o944=>
 (commit_MakeM F o942.1 o942.2.2 (1:Int) o943).bind fun o945=>
 if (o944.2 !=0)=true then
  some false
 else
 if (o945.2 !=0)=true then
  some false
 else
 if ((o944.1.1.1.length:Int)!=1)=true then
  some false
 else
 if ((o945.1.1.1.length:Int)!=1)=true then
  some false
 else
 (Zd (Xh F) F (o941,(0:Int),a0,o942.1,o942.2.1,o942.2.2,o944.1,o945.1,([1,2,5,6]:List Int),([2,1,6,5]:List Int))).bind fun o950=>
 match o950 with
 |.inl o951=>
  some o951.1
 |.inr o952=>
  (Yy F o952.2.2.2.2.2.1 (3:Int)).bind fun o953=>
  (Yy F o952.2.2.2.2.2.2.1 (4:Int)).bind fun o954=>
  if o952.1=true then
   if (o953.1==330)=true then
    if (o954.1==330)=true then
     if (o953.2==1)=true then
      if (o954.2==1)=true then
       let y955:Bool:=(o952.2.2.2.2.2.1.2.length:Int)==(o952.2.2.2.2.2.2.1.2.length:Int)
       if y955=true then
        (idx o952.2.2.2.2.2.1.1.1 0).bind fun e956=>
        if (decide (e956.1=o952.2.2.1.1))=true then
         (idx o952.2.2.2.2.2.2.1.1.1 0).bind fun e957=>
         some (decide (e957.1=o952.2.2.1.1))
        else
        some false
       else
       some false
      else
      some false
     else
     some false
    else
    some false
   else
   some false
  else
  some false
def Zf6 (F:Nat):Fs yb:=⟨4,[.v Zb],[],[Zb],[⟨.ret,[(0,.v .bool)],[],[.bool]⟩],fun x=>XV F x⟩
def Zgi:Fs yb:=Zf6 fuel
theorem Zf7:Zgi.Ok:=Zg (fi:={ hi:={ still:=[2,25,31,34,35,36,41,42,43,74,77,82,85,98,103]},lp:=[(0,QN)]}) (specs:={ l:=[ZvW,XD,Q2,Va,V2]}) (okS ⟨Zt1,Xc,VY,WB,ZbJ,trivial⟩) ⟨Zdr,trivial⟩ (by decide+kernel) (fun x=>by kernel_rfl)
end
end Go.Proofs.YtjbbdlffilcaaaaGreat
end
section
set_option maxRecDepth 4000
namespace Go.Proofs.YtjbbdlffilcaaaaGreat
open Go Go.Ev
def amF (d:Int) (x:Out×Role):Int:=if x.2.1=d then x.1.1 else 0
def ctF (d:Int) (x:Out×Role):Int:=if x.2.1=d then 1 else 0
theorem ZvX {m:List (Out×Role)} (hm:m.length≤20) (hx:∀x,x∈m→0≤x.1.1∧x.1.1≤4300000000) (ins:List In) (note d:Int):Yy fuel ((ins,m.map (·.1),note),m.map (·.2)) d=some (tot (amF d) m,tot (ctF d) m):=by
 unfold Yy
 rw [show (d,(0:Int),(0:Int),(0:Int),((ins,m.map (fun x:Out×Role=>x.1),note),m.map (fun x:Out×Role=>x.2)))=(fun k:Nat=>(d,tot (amF d) (m.take k),tot (ctF d) (m.take k),(k:Int),((ins,m.map (fun x:Out×Role=>x.1),note),m.map (fun x:Out×Role=>x.2)))) 0 from rfl,
  ZG (x:=(tot (amF d) m,tot (ctF d) m,((ins,m.map (fun x:Out×Role=>x.1),note),m.map (fun x:Out×Role=>x.2)))) m.length (fun k:Nat=>(d,tot (amF d) (m.take k),tot (ctF d) (m.take k),(k:Int),((ins,m.map (fun x:Out×Role=>x.1),note),m.map (fun x:Out×Role=>x.2)))) ?_ ?_ (by omega),ya]
 ·intro k hk
  obtain ⟨x,hxk,hxm⟩:=Zj hk
  have hl:(m.take k).length≤20:=by rw [List.length_take];omega
  have b1:=ZnE (f:=amF d) (c:=4300000000) (l:=m.take k) fun x hx'=>by
   have:=hx x (List.mem_of_mem_take hx')
   unfold amF
   split <;> omega
  have b2:=ZnE (f:=ctF d) (c:=1) (l:=m.take k) fun x _=>by
   unfold ctF
   split <;> omega
  have b3:=hx x hxm
  unfold Wa
  dsimp only
  rw [yp,yp,if_pos (ZY hk),if_pos (ZY hk),Zr (show (m.map (fun x:Out×Role=>x.2))[k]? =some x.2 by rw [List.getElem?_map,hxk];rfl),ya,Zr (show (m.map (fun x:Out×Role=>x.1))[k]? =some x.1 by rw [List.getElem?_map,hxk];rfl),ya,Zu (by omega),tot_take _ hxk,tot_take _ hxk]
  unfold amF ctF
  by_cases h:x.2.1=d
  ·rw [if_pos (by rw [h];exact beq_self_eq_true _),if_pos h,if_pos h,Zv (z:=tot (fun x:Out×Role=>if x.2.1=d then x.1.1 else 0) (m.take k)+x.1.1) (by unfold amF at b1;omega) (by unfold amF at b1;omega),Zv (z:=tot (fun x:Out×Role=>if x.2.1=d then 1 else 0) (m.take k)+1) (by unfold ctF at b2;omega) (by unfold ctF at b2;omega)]
  ·rw [if_neg (by rw [beq_iff_eq];exact h),if_neg h,if_neg h,Int.add_zero,Int.add_zero]
 ·unfold Wa
  dsimp only
  rw [yp,if_neg (by rw [ZQ];decide),List.take_length]
section
variable {p:Corsnedlaw21Play} {A:Int} {k0 k1:Kit} {op own:Int} {s:State} {h0 h1:Int} {per:UInt64} {m:List (Out×Role)}
theorem Cm.am (c:Cm p A k0 k1 op own s h0 h1 per m) (d:Int):tot (amF d) m=(if rst op own h0 h1 s.2.2.2 (shw s.2.2.1).length ≥ 100 then (if 1=d then rst op own h0 h1 s.2.2.2 (shw s.2.2.1).length else 0) else 0)+(if rst op (1 - own) h0 h1 s.2.2.2 (shw s.2.2.1).length ≥ 100 then (if 2=d then rst op (1 - own) h0 h1 s.2.2.2 (shw s.2.2.1).length else 0) else 0)+(if 3=d then 330 else 0)+(if 4=d then 330 else 0)+tot (fun x:ZB=>if (if x.1=own then (5:Int) else 6)=d then x.2.2.1 else 0) (shw s.2.2.1):=by
 rw [tot_perm _ c.pm,items_tot]
 rfl
theorem Cm.ct (c:Cm p A k0 k1 op own s h0 h1 per m) (d:Int):tot (ctF d) m=(if rst op own h0 h1 s.2.2.2 (shw s.2.2.1).length ≥ 100 then (if 1=d then 1 else 0) else 0)+(if rst op (1 - own) h0 h1 s.2.2.2 (shw s.2.2.1).length ≥ 100 then (if 2=d then 1 else 0) else 0)+(if 3=d then 1 else 0)+(if 4=d then 1 else 0)+tot (fun x:ZB=>if (if x.1=own then (5:Int) else 6)=d then 1 else 0) (shw s.2.2.1):=by
 rw [tot_perm _ c.pm,items_tot]
 rfl
end
theorem ZJ3 {α:Type} (l:List α):tot (fun _:α=>(0:Int)) l=0:=by
 induction l with
 |nil=>rfl
 |cons x r ih=>rw [YD,ih];rfl
theorem ZGc {p:Corsnedlaw21Play} (hp:PlayOk p):XV fuel p=some true:=by
 obtain ⟨A,k0,k1,op,s,h0,h1,e1,e2,e3,e4⟩:=ZoT hp
 obtain ⟨f,f1,f2,f3⟩:=perOf_is hp.per
 unfold XV
 rw [ya,e1,ya,f3,ya]
 dsimp only
 obtain ⟨m,cm⟩:=e4 0 _ (.inl rfl) (Q5 f.toNat)
 obtain ⟨n,cn⟩:=e4 1 _ (.inr rfl) (Q5 f.toNat)
 have hst:=cm.st
 have am:=fun d=>ZvX cm.len (fun x hx=>(cm.good x hx).2) ([((z32,0),(0,[],0))]:List In) (2*s.1+0) d
 have an:=fun d=>ZvX cn.len (fun x hx=>(cn.good x hx).2) ([((z32,0),(0,[],0))]:List In) (2*s.1+1) d
 rw [cm.mkd,ya,cn.mkd,ya]
 dsimp only
 rw [if_neg (by decide),if_neg (by decide),if_neg (by simp),if_neg (by simp)]
 have hcs:∀x,x∈shw s.2.2.1→x.1=0∨x.1=1:=fun x hx=>(hst.cs x (ZeB.1 hx).1).1
 have len:m.length=n.length:=by
  rw [cm.pm.length_eq,cn.pm.length_eq,Zh9,Zh9,show (1:Int) - 0=1 from rfl,show (1:Int) - 1=0 from rfl]
  omega
 have key:∀(g:ZB→Int),(tot (fun x:ZB=>if (if x.1=(0:Int) then (5:Int) else 6)=5 then g x else 0) (shw s.2.2.1)=tot (fun x:ZB=>if (if x.1=(1:Int) then (5:Int) else 6)=6 then g x else 0) (shw s.2.2.1))∧(tot (fun x:ZB=>if (if x.1=(0:Int) then (5:Int) else 6)=6 then g x else 0) (shw s.2.2.1)=tot (fun x:ZB=>if (if x.1=(1:Int) then (5:Int) else 6)=5 then g x else 0) (shw s.2.2.1)):=by
  intro g
  refine ⟨tot_eq fun x hx=> ?_,tot_eq fun x hx=> ?_⟩
  ·rcases hcs x hx with h|h <;> rw [h] <;> rfl
  ·rcases hcs x hx with h|h <;> rw [h] <;> rfl
 have low:∀(own d:Int) (g:ZB→Int),d≤4→tot (fun x:ZB=>if (if x.1=own then (5:Int) else 6)=d then g x else 0) (shw s.2.2.1)=0:=by
  intro own d g hd
  have e:tot (fun x:ZB=>if (if x.1=own then (5:Int) else 6)=d then g x else 0) (shw s.2.2.1)=tot (fun _:ZB=>(0:Int)) (shw s.2.2.1):=tot_eq fun x _=>if_neg (by split <;> omega)
  rw [e,ZJ3]
 have a1:tot (amF 1) m=tot (amF 2) n:=by rw [cm.am,cn.am,low 0 1 _ (by decide),low 1 2 _ (by decide)];simp
 have a2:tot (amF 2) m=tot (amF 1) n:=by rw [cm.am,cn.am,low 0 2 _ (by decide),low 1 1 _ (by decide)];simp
 have a5:tot (amF 5) m=tot (amF 6) n:=by rw [cm.am,cn.am,(key fun x=>x.2.2.1).1];simp
 have a6:tot (amF 6) m=tot (amF 5) n:=by rw [cm.am,cn.am,(key fun x=>x.2.2.1).2];simp
 have c1:tot (ctF 1) m=tot (ctF 2) n:=by rw [cm.ct,cn.ct,low 0 1 _ (by decide),low 1 2 _ (by decide)];simp
 have c2:tot (ctF 2) m=tot (ctF 1) n:=by rw [cm.ct,cn.ct,low 0 2 _ (by decide),low 1 1 _ (by decide)];simp
 have c5:tot (ctF 5) m=tot (ctF 6) n:=by rw [cm.ct,cn.ct,(key fun _=>1).1];simp
 have c6:tot (ctF 6) m=tot (ctF 5) n:=by rw [cm.ct,cn.ct,(key fun _=>1).2];simp
 have a3:tot (amF 3) m=330:=by rw [cm.am,low 0 3 _ (by decide)];simp
 have c3:tot (ctF 3) m=1:=by rw [cm.ct,low 0 3 _ (by decide)];simp
 have a4:tot (amF 4) n=330:=by rw [cn.am,low 1 4 _ (by decide)];simp
 have c4:tot (ctF 4) n=1:=by rw [cn.ct,low 1 4 _ (by decide)];simp
 generalize hC:((([((z32,0),(0,[],0))]:List In),m.map (fun x:Out×Role=>x.1),2*s.1+0),m.map (fun x:Out×Role=>x.2))=C at am
 generalize hD:((([((z32,0),(0,[],0))]:List In),n.map (fun x:Out×Role=>x.1),2*s.1+1),n.map (fun x:Out×Role=>x.2))=D at an
 rw [show (true,(0:Int),p,chan A k0 k1 op,[k0,k1],s,C,D,([1,2,5,6]:List Int),([2,1,6,5]:List Int))=(fun k:Nat=>(true,(k:Int),p,chan A k0 k1 op,[k0,k1],s,C,D,([1,2,5,6]:List Int),([2,1,6,5]:List Int))) 0 from rfl,
  ZG (x:=.inr (true,p,chan A k0 k1 op,[k0,k1],s,C,D,([1,2,5,6]:List Int),([2,1,6,5]:List Int))) 4 (fun k:Nat=>(true,(k:Int),p,chan A k0 k1 op,[k0,k1],s,C,D,([1,2,5,6]:List Int),([2,1,6,5]:List Int))) ?_ ?_ (by omega),ya]
 ·dsimp only
  rw [am,ya,an,ya,if_pos rfl,a3,c3,a4,c4,if_pos (by decide),if_pos (by decide),if_pos (by decide),if_pos (by decide), ←hC, ←hD]
  dsimp only
  rw [if_pos (by simp [len]),Zaj (i:=0) (by omega) (show ([((z32,0),(0,[],0))]:List In)[(0:Int).toNat]? =some ((z32,0),(0,[],0)) from rfl),ya,if_pos (decide_eq_true (show (((z32,0),(0,[],0)):In).1=(chan A k0 k1 op).1 from rfl)),ya,decide_eq_true (show (((z32,0),(0,[],0)):In).1=(chan A k0 k1 op).1 from rfl)]
 ·intro k hk
  unfold Xh
  dsimp only
  rw [if_pos (decide_eq_true (by omega)),if_pos (ZW (by omega) (by omega)),Int.toNat_natCast,Zu (by omega)]
  match k,hk with
  |0,_=>
   show yao (some (1:Int)) _=_
   rw [ya,am,ya,if_pos (ZW (by omega) (by omega))]
   show yao (some (2:Int)) _=_
   rw [ya,an,ya,if_neg (by simp [a1]),if_neg (by simp [c1])]
  |1,_=>
   show yao (some (2:Int)) _=_
   rw [ya,am,ya,if_pos (ZW (by omega) (by omega))]
   show yao (some (1:Int)) _=_
   rw [ya,an,ya,if_neg (by simp [a2]),if_neg (by simp [c2])]
  |2,_=>
   show yao (some (5:Int)) _=_
   rw [ya,am,ya,if_pos (ZW (by omega) (by omega))]
   show yao (some (6:Int)) _=_
   rw [ya,an,ya,if_neg (by simp [a5]),if_neg (by simp [c5])]
  |3,_=>
   show yao (some (6:Int)) _=_
   rw [ya,am,ya,if_pos (ZW (by omega) (by omega))]
   show yao (some (5:Int)) _=_
   rw [ya,an,ya,if_neg (by simp [a6]),if_neg (by simp [c6])]
 ·unfold Xh
  dsimp only
  rw [if_neg (by rw [decide_eq_true_iff];omega)]
def isO (own:Int) (c:ZB) (x:Out×Role):Int:=if x.2.2=c∧x.1.1=c.2.2.1∧((x.2.1==5)=(c.1==own)) then 1 else 0
theorem one_of {c:ZB}:∀{l:List ZB},l.Pairwise Ahd→tot (fun x:ZB=>if x=c then (1:Int) else 0) l=if c∈l then 1 else 0
 |[],_=>by simp [tot]
 |e::r,h=>by
  obtain ⟨h1,h2⟩:=List.pairwise_cons.1 h
  rw [YD,one_of h2]
  by_cases hc:e=c
  ·subst hc
   have:e ∉ r:=fun hm=>by
    have:=h1 e hm
    unfold Ahd at this
    omega
   rw [if_pos rfl,if_neg this,if_pos (List.mem_cons_self ..)]
   rfl
  ·rw [if_neg hc]
   by_cases hm:c∈r
   ·rw [if_pos hm,if_pos (List.mem_cons_of_mem _ hm)]
    rfl
   ·rw [if_neg hm,if_neg (by
     intro h
     rcases List.mem_cons.1 h with h|h
     ·exact hc h.symm
     ·exact hm h)]
    rfl
theorem Cm.rows {p:Corsnedlaw21Play} {A:Int} {k0 k1:Kit} {op own:Int} {s:State} {h0 h1:Int} {per:UInt64} {m:List (Out×Role)} (cm:Cm p A k0 k1 op own s h0 h1 per m) {c:ZB} (hc:c∈s.2.2.1):tot (isO own c) m=if c.2.2.1 ≥ 100 then 1 else 0:=by
 have hci:=cm.st.cs c hc
 have hz:zc≠c:=fun h=>by
  have h2:(1:Int)≤c.2.1:=hci.2.1
  rw [←h] at h2
  exact absurd h2 (by decide)
 have z:∀(o:Out) (d:Int),isO own c (o,(d,zc))=0:=fun o d=>if_neg fun h=>hz h.1
 have e:tot (fun x:ZB=>isO own c (Zf5 (kO k0 k1 own) (kP k0 k1 own) (wt own) own per x)) (shw s.2.2.1)=tot (fun x:ZB=>if x=c then (1:Int) else 0) (shw s.2.2.1):=by
  refine tot_eq fun x _=> ?_
  unfold isO Zf5
  dsimp only
  by_cases h:x=c
  ·rw [if_pos h,if_pos]
   subst h
   refine ⟨rfl,rfl, ?_⟩
   by_cases h2:x.1=own
   ·rw [if_pos h2,h2]
    simp
   ·rw [if_neg h2]
    have:(x.1==own)=false:=by
     rw [beq_eq_false_iff_ne]
     exact h2
    rw [this]
    rfl
  ·rw [if_neg h,if_neg fun h2=>h h2.1]
 have hsr:(shw s.2.2.1).Pairwise Ahd:=cm.st.srt.filter _
 rw [tot_perm _ cm.pm,items_tot,z,z,z,z,e,one_of hsr]
 by_cases h:c.2.2.1 ≥ 100
 ·rw [if_pos (ZeB.2 ⟨hc,h⟩),if_pos h]
  split <;> split <;> rfl
 ·rw [if_neg (fun h2=>h (ZeB.1 h2).2),if_neg h]
  split <;> split <;> rfl
end Go.Proofs.YtjbbdlffilcaaaaGreat
end
