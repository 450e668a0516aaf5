/- Parts of the proof, in one file. -/
import Derived.Test.YtmkgbalfkhaflaaGreatKf
open Go.Proofs.Tryz renaming prog → ya
open Int renaming toNat_natCast → ybq
open List renaming getElem?_eq_some_iff → yj, length_append → yl, nil_append → yq, getElem?_eq_getElem → yw, map_cons → yx, length_cons → yz, length_take → yab, append_assoc → yae, getElem?_cons_succ → yaj, getElem?_append_right → yak, map_append → yan, mem_cons_self → yao, getElem?_cons_zero → yaq, mem_cons_of_mem → yar, mem_singleton → yat, append_nil → ybb, take_length → ybo, mem_of_mem_take → ybp, mem_cons → yby, getElem_of_mem → ycq
open Nat renaming mod_eq_of_lt → yai, mod_lt → ybd, mul_comm → ybe, mul_le_mul_right → ybr, two_pow_add_eq_or_of_lt → yco
open Option renaming bind_some → yb, bind → ybm
open UInt64 renaming ofNat → yaf, toNat_ofNat' → ybc, toNat_lt → ybg, lt_iff_toNat_lt → ybs, le_iff_toNat_le → yck
open UInt8 renaming ofNat → yal
set_option linter.unusedVariables false
set_option linter.unusedSimpArgs false
section
set_option maxRecDepth 4000
namespace Go.Proofs.YtmkgbalfkhaflaaGreat
open Go Go.Ev
noncomputable section
def Y3 (F:Nat) (a0:UInt64):Option (Bool):=
 if (decide (a0 ≥ 1))=true then
  if (decide (a0 < 4611686018427377339))=true then
   (Yn F a0 (2305843009213688669:UInt64)).bind fun o667=>
   some (o667==1)
  else
  some false
 else
 some false
def Zih (F:Nat):Fs ya:=⟨98,[.v .u64],[],[.u64],[⟨.ret,[(0,.v .bool)],[],[.bool]⟩],fun x=>Y3 F x⟩
def Wi:Fs ya:=Zih fuel
theorem Vh:Wi.Ok:=Ze (fi:={ hi:={ still:=[2,10]},lp:=[]}) (specs:={ l:=[VV]}) (okS ⟨ZaN,trivial⟩) trivial (by decide+kernel) (fun x=>by kernel_rfl)
def Wv (F:Nat) (a0:UInt64):Option (UInt64):=
 (Y3 F a0).bind fun o668=>
 if o668=true then
  some a0
 else
 some (1:UInt64)
def Zii (F:Nat):Fs ya:=⟨166,[.v .u64],[],[.u64],[⟨.ret,[(0,.v .u64)],[],[.u64]⟩],fun x=>Wv F x⟩
def Zb3:Fs ya:=Zii fuel
theorem Zij:Zb3.Ok:=Ze (fi:={ hi:={ still:=[2,3]},lp:=[]}) (specs:={ l:=[Wi]}) (okS ⟨Vh,trivial⟩) trivial (by decide+kernel) (fun x=>by kernel_rfl)
def Ww (F:Nat) (a0:UInt64) (a1:UInt64):Option (UInt64):=
 (Wv F a0).bind fun o669=>
 (Yn F o669 (a1 % 2305843009213688669)).bind fun o670=>
 some o670
def Zik (F:Nat):Fs ya:=⟨133,[.v .u64,.v .u64],[],[.u64,.u64],[⟨.ret,[(0,.v .u64)],[],[.u64]⟩],fun x=>Ww F x.1 x.2⟩
def Zb4:Fs ya:=Zik fuel
theorem Zil:Zb4.Ok:=Ze (fi:={ hi:={ still:=[4,5,6,8]},lp:=[]}) (specs:={ l:=[Zb3,VV]}) (okS ⟨Zij,ZaN,trivial⟩) trivial (by decide+kernel) (fun x=>by kernel_rfl)
def Yj (F:Nat) (a0:UInt64):Option (UInt64):=
 (Ww F (4:UInt64) a0).bind fun o671=>
 some o671
def ZjU (F:Nat):Fs ya:=⟨87,[.v .u64],[],[.u64],[⟨.ret,[(0,.v .u64)],[],[.u64]⟩],fun x=>Yj F x⟩
def ZcP:Fs ya:=ZjU fuel
theorem ZjV:ZcP.Ok:=Ze (fi:={ hi:={ still:=[2,3]},lp:=[]}) (specs:={ l:=[Zb4]}) (okS ⟨Zil,trivial⟩) trivial (by decide+kernel) (fun x=>by kernel_rfl)
def Wj (F:Nat) (a0:Kit):Option (WC):=
 (Yj F a0.1).bind fun o672=>
 (Yj F a0.2.1).bind fun o673=>
 (Yj F a0.2.2.1).bind fun o674=>
 (Yj F a0.2.2.2.1).bind fun o675=>
 (Yj F a0.2.2.2.2.1).bind fun o676=>
 some (o672,o673,o674,o675,o676)
def Zhk (F:Nat):Fs ya:=⟨33,[.v Vz],[],[Vz],[⟨.ret,[(0,.v Vn)],[],[Vn]⟩],fun x=>Wj F x⟩
def ZaO:Fs ya:=Zhk fuel
theorem Zhl:ZaO.Ok:=Ze (fi:={ hi:={ still:=[4,7,10,13,16]},lp:=[]}) (specs:={ l:=[ZcP]}) (okS ⟨ZjV,trivial⟩) trivial (by decide+kernel) (fun x=>by kernel_rfl)
def ZJ (F:Nat) (a0:Int) (a1:Int) (a2:Int):Option (Bool):=
 if (decide (a0 ≥ a1))=true then
  some (decide (a0≤a2))
 else
 some false
def Zmi (F:Nat):Fs ya:=⟨134,[.v (.int .i64),.v (.int .i64),.v (.int .i64)],[],[(.int .i64),(.int .i64),(.int .i64)],[⟨.ret,[(0,.v .bool)],[],[.bool]⟩],fun x=>ZJ F x.1 x.2.1 x.2.2⟩
def Wl:Fs ya:=Zmi fuel
theorem WZ:Wl.Ok:=Ze (fi:={ hi:={ still:=[6]},lp:=[]}) (specs:={ l:=[]}) (okS trivial) trivial (by decide+kernel) (fun x=>by kernel_rfl)
def Wx (F:Nat) (a0:VF):Option (Bool):=
 (ZJ F a0.1 (0:Int) (65536:Int)).bind fun o677=>
 if o677=true then
  (ZJ F a0.2.1 a0.1 (1125899906842624:Int)).bind fun o678=>
  if o678=true then
   (ZJ F a0.2.2.1 (1:Int) (4096:Int)).bind fun o679=>
   if o679=true then
    (ZJ F a0.2.2.2.1 (0:Int) (16:Int)).bind fun o680=>
    if o680=true then
     (ZJ F a0.2.2.2.2.1 (1:Int) (1125899906842624:Int)).bind fun o681=>
     if o681=true then
      (ZJ F a0.2.2.2.2.2 (0:Int) (1125899906842624:Int)).bind fun o682=>
      some o682
     else
     some false
    else
    some false
   else
   some false
  else
  some false
 else
 some false
def Zim (F:Nat):Fs ya:=⟨135,[.v Zcg],[],[Zcg],[⟨.ret,[(0,.v .bool)],[],[.bool]⟩],fun x=>Wx F x⟩
def Zb5:Fs ya:=Zim fuel
theorem Zin:Zb5.Ok:=Ze (fi:={ hi:={ still:=[2,5,9,11,16,22,27,32]},lp:=[]}) (specs:={ l:=[Wl]}) (okS ⟨WZ,trivial⟩) trivial (by decide+kernel) (fun x=>by kernel_rfl)
def Vt (F:Nat) (a0:UInt64):Option (Bool):=
 (Y3 F a0).bind fun o683=>
 if o683=true then
  some (a0 !=1)
 else
 some false
def ZkU (F:Nat):Fs ya:=⟨136,[.v .u64],[],[.u64],[⟨.ret,[(0,.v .bool)],[],[.bool]⟩],fun x=>Vt F x⟩
def Zeo:Fs ya:=ZkU fuel
theorem ZkV:Zeo.Ok:=Ze (fi:={ hi:={ still:=[2,3]},lp:=[]}) (specs:={ l:=[Wi]}) (okS ⟨Vh,trivial⟩) trivial (by decide+kernel) (fun x=>by kernel_rfl)
def Xp (F:Nat) (s:(Int×(List UInt64)×Int×Z6×WC)):Option ((Int×(List UInt64)×Int×Z6×WC)⊕((Int×Z6×WC)⊕(Int×Z6×WC))):=
 if (decide (s.2.2.1 < 5))=true then
  (idx s.2.1 s.2.2.1).bind fun e690=>
  (Vt F e690).bind fun o691=>
  if (!o691)=true then
   some (.inr (.inl ((1:Int),s.2.2.2.1,s.2.2.2.2)))
  else
  some (.inl (s.1,s.2.1,wi (s.2.2.1+1),s.2.2.2.1,s.2.2.2.2))
 else
 some (.inr (.inr (s.1,s.2.2.2.1,s.2.2.2.2)))
def ZcQ:Lp:=⟨[(1,.ref 0 []),(3,.v (.int .i64)),(5,.v (.sl .u64)),(6,.v (.int .i64))],[.var (.v Zu) true,.var (.v Vn) true],[(.int .i64),(.sl .u64),(.int .i64),Zu,Vn],[⟨.ret,[(2,.v (.int .i64))],[.var (.v Zu) true,.var (.v Vn) true],[(.int .i64),Zu,Vn]⟩,⟨.exit 2,[(1,.ref 0 []),(3,.v (.int .i64))],[.var (.v Zu) true,.var (.v Vn) true],[(.int .i64),Zu,Vn]⟩],Zc (Xp fuel) fuel⟩
theorem Zhm:ZcQ.Ok ya (Zl ya 88) (Zk ya 88 1):=Zg (fi:={ hi:={ still:=[2,8,14,20,46,56]},lp:=[]}) (specs:={ l:=[Zeo]}) (okS ⟨ZkV,trivial⟩) trivial (by kernel_rfl) (fun v=>by kernel_rfl)
def Wm (F:Nat) (s:(Int×Z6)):Option ((Int×Z6)⊕((Int×Z6)⊕Z6)):=
 if (decide (s.1 < 2))=true then
  if (inB s.1 2)=true then
   (s.2.2.2.1[s.1.toNat]?).bind fun e687=>
   if (inB s.1 2)=true then
    (s.2.2.2.2.1[s.1.toNat]?).bind fun e688=>
    (Wx F e688).bind fun o689=>
    if (!o689)=true then
     some (.inr (.inl ((1:Int),s.2)))
    else
    (Zc (Xp F) F (s.1,([e687.1,e687.2.1,e687.2.2.1,e687.2.2.2.1,e687.2.2.2.2]:List UInt64),(0:Int),s.2,e687)).bind fun o692=>
    match o692 with
    |.inl o693=>
     some (.inr (.inl (o693.1,o693.2.1)))
    |.inr o694=>
     some (.inl (wi (o694.1+1),o694.2.1))
   else
   none
  else
  none
 else
 some (.inr (.inr s.2))
def ZcR:Lp:=⟨[(1,.ref 0 []),(3,.v (.int .i64))],[.var (.v Zu) true],[(.int .i64),Zu],[⟨.ret,[(2,.v (.int .i64))],[.var (.v Zu) true],[(.int .i64),Zu]⟩,⟨.exit 0,[(1,.ref 0 [])],[.var (.v Zu) true],[Zu]⟩],Zc (Wm fuel) fuel⟩
theorem Zhn:ZcR.Ok ya (Zl ya 88) (Zk ya 88 0):=Zg (fi:={ hi:={ still:=[2,8,14,20,46,56]},lp:=[(1,ZcQ)]}) (specs:={ l:=[Zb5]}) (okS ⟨Zin,trivial⟩) ⟨Zhm,trivial⟩ (by kernel_rfl) (fun v=>by kernel_rfl)
def Vu (F:Nat) (a0:Z6):Option (Int):=
 (ZJ F a0.2.1 (1:Int) (1125899906842624:Int)).bind fun o684=>
 if (!o684)=true then
  some (1:Int)
 else
 (ZJ F a0.1.2 (0:Int) (63:Int)).bind fun o685=>
 if (!o685)=true then
  some (1:Int)
 else
 (ZJ F a0.2.2.2.2 (0:Int) (1:Int)).bind fun o686=>
 if (!o686)=true then
  some (1:Int)
 else
 (Zc (Wm F) F ((0:Int),a0)).bind fun o695=>
 match o695 with
 |.inl o696=>
  some o696.1
 |.inr o697=>
  (o697.2.2.2.1[0]?).bind fun e698=>
  (o697.2.2.2.1[1]?).bind fun e699=>
  if (decide ((wi (e698.2.1+e699.2.1)) > o697.2.1))=true then
   some (10:Int)
  else
  some (0:Int)
def ZkW (F:Nat):Fs ya:=⟨88,[.v Zu],[],[Zu],[⟨.ret,[(0,.v (.int .i64))],[],[(.int .i64)]⟩],fun x=>Vu F x⟩
def Zep:Fs ya:=ZkW fuel
theorem ZkX:Zep.Ok:=Ze (fi:={ hi:={ still:=[2,8,14,20,46,56]},lp:=[(0,ZcR)]}) (specs:={ l:=[Wl]}) (okS ⟨WZ,trivial⟩) ⟨Zhn,trivial⟩ (by decide+kernel) (fun x=>by kernel_rfl)
def ZX (F:Nat) (a0:Int) (a1:Int) (a2:Int):Option (Bool):=
 if (decide (a0 ≥ a1))=true then
  some (decide (a0≤a2))
 else
 some false
def Zmj (F:Nat):Fs ya:=⟨89,[.v (.int .i64),.v (.int .i64),.v (.int .i64)],[],[(.int .i64),(.int .i64),(.int .i64)],[⟨.ret,[(0,.v .bool)],[],[.bool]⟩],fun x=>ZX F x.1 x.2.1 x.2.2⟩
def Zay:Fs ya:=Zmj fuel
theorem Zeq:Zay.Ok:=Ze (fi:={ hi:={ still:=[6]},lp:=[]}) (specs:={ l:=[]}) (okS trivial) trivial (by decide+kernel) (fun x=>by kernel_rfl)
def XU (F:Nat) (a0:ZS):Option (Bool):=
 (Y3 F a0.2.2.2.1).bind fun o700=>
 if o700=true then
  if (a0.2.2.2.1 !=1)=true then
   (ZX F a0.1 (0:Int) (1:Int)).bind fun o701=>
   if o701=true then
    (ZX F a0.2.1 (1:Int) (1048576:Int)).bind fun o702=>
    if o702=true then
     (ZX F a0.2.2.1 (1:Int) (1125899906842624:Int)).bind fun o703=>
     if o703=true then
      (ZX F a0.2.2.2.2 (1:Int) (1048576:Int)).bind fun o704=>
      some o704
     else
     some false
    else
    some false
   else
   some false
  else
  some false
 else
 some false
def ZjW (F:Nat):Fs ya:=⟨90,[.v Xk],[],[Xk],[⟨.ret,[(0,.v .bool)],[],[.bool]⟩],fun x=>XU F x⟩
def Qg:Fs ya:=ZjW fuel
theorem Zb6:Qg.Ok:=Ze (fi:={ hi:={ still:=[2,5,15,20,25,30]},lp:=[]}) (specs:={ l:=[Wi,Zay]}) (okS ⟨Vh,Zeq,trivial⟩) trivial (by decide+kernel) (fun x=>by kernel_rfl)
def XE (F:Nat) (a0:ZS) (a1:ZS):Option (Bool):=
 if (decide (a0.1 < a1.1))=true then
  some true
 else
 if (a0.1==a1.1)=true then
  some (decide (a0.2.1 < a1.2.1))
 else
 some false
def Zio (F:Nat):Fs ya:=⟨91,[.v Xk,.v Xk],[],[Xk,Xk],[⟨.ret,[(0,.v .bool)],[],[.bool]⟩],fun x=>XE F x.1 x.2⟩
def VW:Fs ya:=Zio fuel
theorem ZaP:VW.Ok:=Ze (fi:={ hi:={ still:=[4]},lp:=[]}) (specs:={ l:=[]}) (okS trivial) trivial (by decide+kernel) (fun x=>by kernel_rfl)
def Yt (F:Nat) (s:(Int×Int×Int×Int×State)):Option ((Int×Int×Int×Int×State)⊕(Int×Int×State)):=
 let y705:Bool:=decide (s.2.2.2.1 < (s.2.2.2.2.2.2.1.length:Int))
 if y705=true then
  (idx s.2.2.2.2.2.2.1 s.2.2.2.1).bind fun e706=>
  if (e706.1==(wi (1 - s.1)))=true then
   (idx s.2.2.2.2.2.2.1 s.2.2.2.1).bind fun e707=>
   some (.inl (s.1,wi (s.2.1+1),wi (s.2.2.1+e707.2.2.1),wi (s.2.2.2.1+1),s.2.2.2.2))
  else
  some (.inl (s.1,s.2.1,s.2.2.1,wi (s.2.2.2.1+1),s.2.2.2.2))
 else
 some (.inr (s.2.1,s.2.2.1,s.2.2.2.2))
def QQ:Lp:=⟨[(1,.v (.int .i64)),(2,.ref 0 []),(6,.v (.int .i64)),(7,.v (.int .i64)),(8,.v (.int .i64))],[.var (.v Zh) true],[(.int .i64),(.int .i64),(.int .i64),(.int .i64),Zh],[⟨.exit 0,[(6,.v (.int .i64)),(7,.v (.int .i64))],[.var (.v Zh) true],[(.int .i64),(.int .i64),Zh]⟩],Zc (Yt fuel) fuel⟩
theorem Zer:QQ.Ok ya (Zl ya 92) (Zk ya 92 0):=Zg (fi:={ hi:={ still:=[4,5]},lp:=[]}) (specs:={ l:=[]}) (okS trivial) trivial (by kernel_rfl) (fun v=>by kernel_rfl)
def Xd (F:Nat) (a0:State) (a1:Int):Option ((Int×Int)):=
 (Zc (Yt F) F (a1,(0:Int),(0:Int),(0:Int),a0)).bind fun o708=>
 some (o708.1,o708.2.1)
def Zgn (F:Nat):Fs ya:=⟨92,[.v Zh,.v (.int .i64)],[],[Zh,(.int .i64)],[⟨.ret,[(0,.tup [.v (.int .i64),.v (.int .i64)])],[],[(.int .i64),(.int .i64)]⟩],fun x=>Xd F x.1 x.2⟩
def W0:Fs ya:=Zgn fuel
theorem QR:W0.Ok:=Ze (fi:={ hi:={ still:=[4,5]},lp:=[(0,QQ)]}) (specs:={ l:=[]}) (okS trivial) ⟨Zer,trivial⟩ (by decide+kernel) (fun x=>by kernel_rfl)
def XH (F:Nat) (s:(Int×Int×State)):Option ((Int×Int×State)⊕(Int×State)):=
 if (decide (s.2.1 < (s.2.2.2.2.1.length:Int)))=true then
  (idx s.2.2.2.2.1 s.2.1).bind fun e711=>
  some (.inl (wi (s.1+e711.2.2.1),wi (s.2.1+1),s.2.2))
 else
 some (.inr (s.1,s.2.2))
def ZaQ:Lp:=⟨[(1,.ref 0 []),(3,.v (.int .i64)),(4,.v (.int .i64))],[.var (.v Zh) true],[(.int .i64),(.int .i64),Zh],[⟨.exit 0,[(3,.v (.int .i64))],[.var (.v Zh) true],[(.int .i64),Zh]⟩],Zc (XH fuel) fuel⟩
theorem ZfD:ZaQ.Ok ya (Zl ya 93) (Zk ya 93 0):=Zg (fi:={ hi:={ still:=[2]},lp:=[]}) (specs:={ l:=[]}) (okS trivial) trivial (by kernel_rfl) (fun v=>by kernel_rfl)
def Wy (F:Nat) (a0:State):Option (Int):=
 (a0.2.1[0]?).bind fun e709=>
 (a0.2.1[1]?).bind fun e710=>
 (Zc (XH F) F (wi (e709+e710),(0:Int),a0)).bind fun o712=>
 some o712.1
def Zip (F:Nat):Fs ya:=⟨93,[.v Zh],[],[Zh],[⟨.ret,[(0,.v (.int .i64))],[],[(.int .i64)]⟩],fun x=>Wy F x⟩
def Zb7:Fs ya:=Zip fuel
theorem Ziq:Zb7.Ok:=Ze (fi:={ hi:={ still:=[2]},lp:=[(0,ZaQ)]}) (specs:={ l:=[]}) (okS trivial) ⟨ZfD,trivial⟩ (by decide+kernel) (fun x=>by kernel_rfl)
def VX (F:Nat) (a0:Int):Option (Int):=
 (ZJ F a0 (0:Int) (16:Int)).bind fun o713=>
 if (!o713)=true then
  some (0:Int)
 else
 some (wi (36+(wi ((wi (4+a0))*8))))
def Zho (F:Nat):Fs ya:=⟨167,[.v (.int .i64)],[],[(.int .i64)],[⟨.ret,[(0,.v (.int .i64))],[],[(.int .i64)]⟩],fun x=>VX F x⟩
def ZaR:Fs ya:=Zho fuel
theorem Zhp:ZaR.Ok:=Ze (fi:={ hi:={ still:=[2,3]},lp:=[]}) (specs:={ l:=[Wl]}) (okS ⟨WZ,trivial⟩) trivial (by decide+kernel) (fun x=>by kernel_rfl)
def Vv (F:Nat) (a0:Int) (a1:Int):Option (Int):=
 (ZJ F a0 (0:Int) (1000:Int)).bind fun o714=>
 if (!o714)=true then
  some (0:Int)
 else
 (VX F a1).bind fun o715=>
 some (wi (a0*o715))
def ZkY (F:Nat):Fs ya:=⟨137,[.v (.int .i64),.v (.int .i64)],[],[(.int .i64),(.int .i64)],[⟨.ret,[(0,.v (.int .i64))],[],[(.int .i64)]⟩],fun x=>Vv F x.1 x.2⟩
def Zes:Fs ya:=ZkY fuel
theorem ZkZ:Zes.Ok:=Ze (fi:={ hi:={ still:=[4,5,9]},lp:=[]}) (specs:={ l:=[Wl,ZaR]}) (okS ⟨WZ,Zhp,trivial⟩) trivial (by decide+kernel) (fun x=>by kernel_rfl)
def Yz (F:Nat) (a0:Z6) (a1:State):Option (Int):=
 (Vv F a1.2.2.2 (a1.2.2.1.length:Int)).bind fun o716=>
 some (wi (o716+660))
def ZjX (F:Nat):Fs ya:=⟨94,[.v Zu,.v Zh],[],[Zu,Zh],[⟨.ret,[(0,.v (.int .i64))],[],[(.int .i64)]⟩],fun x=>Yz F x.1 x.2⟩
def Qh:Fs ya:=ZjX fuel
theorem Zb8:Qh.Ok:=Ze (fi:={ hi:={ still:=[4,6,9]},lp:=[]}) (specs:={ l:=[Zes]}) (okS ⟨ZkZ,trivial⟩) trivial (by decide+kernel) (fun x=>by kernel_rfl)
def XI (F:Nat) (s:(Int×Z6×State)):Option ((Int×Z6×State)⊕((Bool×Z6×State)⊕(Z6×State))):=
 if (decide (s.1 < (s.2.2.2.2.1.length:Int)))=true then
  (idx s.2.2.2.2.1 s.1).bind fun e724=>
  (XU F e724).bind fun o725=>
  if (!o725)=true then
   some (.inr (.inl (false,s.2.1,s.2.2)))
  else
  if (decide (s.1 > 0))=true then
   (idx s.2.2.2.2.1 (wi (s.1 - 1))).bind fun e726=>
   (idx s.2.2.2.2.1 s.1).bind fun e727=>
   (XE F e726 e727).bind fun o728=>
   if (!o728)=true then
    some (.inr (.inl (false,s.2.1,s.2.2)))
   else
   (idx s.2.2.2.2.1 s.1).bind fun e729=>
   (idx s.2.2.2.2.1 s.1).bind fun e730=>
   if (inB (wi (1 - e730.1)) 2)=true then
    (s.2.1.2.2.2.1[(wi (1 - e730.1)).toNat]?).bind fun e731=>
    if (decide (e729.2.2.1 < e731.2.2.2.2.1))=true then
     some (.inr (.inl (false,s.2.1,s.2.2)))
    else
    some (.inl (wi (s.1+1),s.2.1,s.2.2))
   else
   none
  else
  (idx s.2.2.2.2.1 s.1).bind fun e732=>
  (idx s.2.2.2.2.1 s.1).bind fun e733=>
  if (inB (wi (1 - e733.1)) 2)=true then
   (s.2.1.2.2.2.1[(wi (1 - e733.1)).toNat]?).bind fun e734=>
   if (decide (e732.2.2.1 < e734.2.2.2.2.1))=true then
    some (.inr (.inl (false,s.2.1,s.2.2)))
   else
   some (.inl (wi (s.1+1),s.2.1,s.2.2))
  else
  none
 else
 some (.inr (.inr (s.2.1,s.2.2)))
def ZaS:Lp:=⟨[(2,.ref 0 []),(3,.ref 1 []),(5,.v (.int .i64))],[.var (.v Zu) true,.var (.v Zh) true],[(.int .i64),Zu,Zh],[⟨.ret,[(4,.v .bool)],[.var (.v Zu) true,.var (.v Zh) true],[.bool,Zu,Zh]⟩,⟨.exit 0,[(2,.ref 0 []),(3,.ref 1 [])],[.var (.v Zu) true,.var (.v Zh) true],[Zu,Zh]⟩],Zc (XI fuel) fuel⟩
theorem ZfE:ZaS.Ok ya (Zl ya 34) (Zk ya 34 0):=Zg (fi:={ hi:={ still:=[4,10,15,22,29,35,56,69,74,104,105,125,136,137]},lp:=[]}) (specs:={ l:=[Qg,VW]}) (okS ⟨Zb6,ZaP,trivial⟩) trivial (by kernel_rfl) (fun v=>by kernel_rfl)
def XJ (F:Nat) (s:(Int×Z6×State)):Option ((Int×Z6×State)⊕((Bool×Z6×State)⊕(Z6×State))):=
 if (decide (s.1 < 2))=true then
  (Xd F s.2.2 s.1).bind fun o738=>
  if (inB s.1 2)=true then
   (s.2.1.2.2.2.1[s.1.toNat]?).bind fun e739=>
   if (decide (o738.1 > e739.2.2.2.1))=true then
    some (.inr (.inl (false,s.2.1,s.2.2)))
   else
   if (inB s.1 2)=true then
    (s.2.1.2.2.2.1[s.1.toNat]?).bind fun e740=>
    if (decide (o738.2 > e740.2.2.2.2.2))=true then
     some (.inr (.inl (false,s.2.1,s.2.2)))
    else
    some (.inl (wi (s.1+1),s.2.1,s.2.2))
   else
   none
  else
  none
 else
 some (.inr (.inr (s.2.1,s.2.2)))
def ZaT:Lp:=⟨[(2,.ref 0 []),(3,.ref 1 []),(7,.v (.int .i64))],[.var (.v Zu) true,.var (.v Zh) true],[(.int .i64),Zu,Zh],[⟨.ret,[(4,.v .bool)],[.var (.v Zu) true,.var (.v Zh) true],[.bool,Zu,Zh]⟩,⟨.exit 2,[(2,.ref 0 []),(3,.ref 1 [])],[.var (.v Zu) true,.var (.v Zh) true],[Zu,Zh]⟩],Zc (XJ fuel) fuel⟩
theorem ZfF:ZaT.Ok ya (Zl ya 34) (Zk ya 34 1):=Zg (fi:={ hi:={ still:=[4,10,15,22,29,35,56,69,74,104,105,125,136,137]},lp:=[]}) (specs:={ l:=[W0]}) (okS ⟨QR,trivial⟩) trivial (by kernel_rfl) (fun v=>by kernel_rfl)
def Y4 (F:Nat) (a0:Z6) (a1:State):Option (Bool):=
 (Vu F a0).bind fun o717=>
 if (o717 !=0)=true then
  some false
 else
 (ZX F a1.1 (0:Int) (1048576:Int)).bind fun o718=>
 if (!o718)=true then
  some false
 else
 (a1.2.1[0]?).bind fun e719=>
 (ZX F e719 (0:Int) (1125899906842624:Int)).bind fun o720=>
 if (!o720)=true then
  some false
 else
 (a1.2.1[1]?).bind fun e721=>
 (ZX F e721 (0:Int) (1125899906842624:Int)).bind fun o722=>
 if (!o722)=true then
  some false
 else
 (ZX F a1.2.2.2 (0:Int) (1000:Int)).bind fun o723=>
 if (!o723)=true then
  some false
 else
 if (decide ((a1.2.2.1.length:Int) > 16))=true then
  some false
 else
 (Zc (XI F) F ((0:Int),a0,a1)).bind fun o735=>
 match o735 with
 |.inl o736=>
  some o736.1
 |.inr o737=>
  (Zc (XJ F) F ((0:Int),o737.1,o737.2)).bind fun o741=>
  match o741 with
  |.inl o742=>
   some o742.1
  |.inr o743=>
   (Wy F o743.2).bind fun o744=>
   if (o744==o743.1.2.1)=true then
    if (inB o743.1.2.2.2.2 2)=true then
     (o743.2.2.1[o743.1.2.2.2.2.toNat]?).bind fun e745=>
     (Yz F o743.1 o743.2).bind fun o746=>
     some (decide (e745 ≥ o746))
    else
    none
   else
   some false
def Zir (F:Nat):Fs ya:=⟨34,[.v Zu,.v Zh],[],[Zu,Zh],[⟨.ret,[(0,.v .bool)],[],[.bool]⟩],fun x=>Y4 F x.1 x.2⟩
def VY:Fs ya:=Zir fuel
theorem ZaU:VY.Ok:=Ze (fi:={ hi:={ still:=[4,10,15,22,29,35,56,69,74,104,105,125,136,137]},lp:=[(0,ZaS),(1,ZaT)]}) (specs:={ l:=[Zep,Zay,Zb7,Qh]}) (okS ⟨ZkX,Zeq,Ziq,Zb8,trivial⟩) ⟨ZfE,ZfF,trivial⟩ (by decide+kernel) (fun x=>by kernel_rfl)
abbrev XV:Ty:=(.st [.u8,(.int .u16),(.int .u16),.u64])
abbrev Vw:Type:=(UInt8×Int×Int×UInt64)
def VZ (F:Nat) (a0:Vw):Option (UInt64):=
 some (1+(a0.2.2.2 % 2305843009213688668))
def Zhq (F:Nat):Fs ya:=⟨36,[.v XV],[],[XV],[⟨.ret,[(0,.v .u64)],[],[.u64]⟩],fun x=>VZ F x⟩
def ZaV:Fs ya:=Zhq fuel
theorem Zhr:ZaV.Ok:=Ze (fi:={ hi:={ still:=[2]},lp:=[]}) (specs:={ l:=[]}) (okS trivial) trivial (by decide+kernel) (fun x=>by kernel_rfl)
def YZ (F:Nat) (s:(Int×Int×Int×State)):Option ((Int×Int×Int×State)⊕((Int×State)⊕State)):=
 if (decide (s.2.2.1 < (s.2.2.2.2.2.1.length:Int)))=true then
  (idx s.2.2.2.2.2.1 s.2.2.1).bind fun e747=>
  if (e747.1==s.1)=true then
   (idx s.2.2.2.2.2.1 s.2.2.1).bind fun e748=>
   if (e748.2.1==s.2.1)=true then
    some (.inr (.inl (s.2.2.1,s.2.2.2)))
   else
   some (.inl (s.1,s.2.1,wi (s.2.2.1+1),s.2.2.2))
  else
  some (.inl (s.1,s.2.1,wi (s.2.2.1+1),s.2.2.2))
 else
 some (.inr (.inr s.2.2.2))
def ZaW:Lp:=⟨[(1,.v (.int .i64)),(2,.v (.int .i64)),(3,.ref 0 []),(7,.v (.int .i64))],[.var (.v Zh) true],[(.int .i64),(.int .i64),(.int .i64),Zh],[⟨.ret,[(6,.v (.int .i64))],[.var (.v Zh) true],[(.int .i64),Zh]⟩,⟨.exit 0,[],[.var (.v Zh) true],[Zh]⟩],Zc (YZ fuel) fuel⟩
theorem ZfG:ZaW.Ok ya (Zl ya 96) (Zk ya 96 0):=Zg (fi:={ hi:={ still:=[6]},lp:=[]}) (specs:={ l:=[]}) (okS trivial) trivial (by kernel_rfl) (fun v=>by kernel_rfl)
def Wz (F:Nat) (a0:State) (a1:Int) (a2:Int):Option (Int):=
 (Zc (YZ F) F (a1,a2,(0:Int),a0)).bind fun o749=>
 match o749 with
 |.inl o750=>
  some o750.1
 |.inr o751=>
  some (-1:Int)
def Zis (F:Nat):Fs ya:=⟨96,[.v Zh,.v (.int .i64),.v (.int .i64)],[],[Zh,(.int .i64),(.int .i64)],[⟨.ret,[(0,.v (.int .i64))],[],[(.int .i64)]⟩],fun x=>Wz F x.1 x.2.1 x.2.2⟩
def Zb9:Fs ya:=Zis fuel
theorem Zit:Zb9.Ok:=Ze (fi:={ hi:={ still:=[6]},lp:=[(0,ZaW)]}) (specs:={ l:=[]}) (okS trivial) ⟨ZfG,trivial⟩ (by decide+kernel) (fun x=>by kernel_rfl)
def Xe (F:Nat) (s:(Bool×Int×State×ZS×State×Int×(List Int)×Int×(List ZS))):Option ((Bool×Int×State×ZS×State×Int×(List Int)×Int×(List ZS))⊕(Bool×State×ZS×State×Int×(List Int)×Int×(List ZS))):=
 if (decide (s.2.1 < (s.2.2.1.2.2.1.length:Int)))=true then
  if (!s.1)=true then
   (idx s.2.2.1.2.2.1 s.2.1).bind fun e752=>
   (XE F s.2.2.2.1 e752).bind fun o753=>
   if o753=true then
    if (apB s.2.2.2.2.2.2.2.2.length 1 40)=true then
     (idx s.2.2.1.2.2.1 s.2.1).bind fun e754=>
     if (apB ((s.2.2.2.2.2.2.2.2++([s.2.2.2.1]:List ZS)).length) 1 40)=true then
      let y755:(List ZS):=(s.2.2.2.2.2.2.2.2++([s.2.2.2.1]:List ZS))++([e754]:List ZS)
      some (.inl (true,wi (s.2.1+1),s.2.2.1,s.2.2.2.1,s.2.2.2.2.1,s.2.2.2.2.2.1,s.2.2.2.2.2.2.1,s.2.2.2.2.2.2.2.1,y755))
     else
     none
    else
    none
   else
   (idx s.2.2.1.2.2.1 s.2.1).bind fun e756=>
   if (apB s.2.2.2.2.2.2.2.2.length 1 40)=true then
    some (.inl (s.1,wi (s.2.1+1),s.2.2.1,s.2.2.2.1,s.2.2.2.2.1,s.2.2.2.2.2.1,s.2.2.2.2.2.2.1,s.2.2.2.2.2.2.2.1,s.2.2.2.2.2.2.2.2++([e756]:List ZS)))
   else
   none
  else
  (idx s.2.2.1.2.2.1 s.2.1).bind fun e757=>
  if (apB s.2.2.2.2.2.2.2.2.length 1 40)=true then
   some (.inl (s.1,wi (s.2.1+1),s.2.2.1,s.2.2.2.1,s.2.2.2.2.1,s.2.2.2.2.2.1,s.2.2.2.2.2.2.1,s.2.2.2.2.2.2.2.1,s.2.2.2.2.2.2.2.2++([e757]:List ZS)))
  else
  none
 else
 some (.inr (s.1,s.2.2.1,s.2.2.2.1,s.2.2.2.2.1,s.2.2.2.2.2.1,s.2.2.2.2.2.2.1,s.2.2.2.2.2.2.2.1,s.2.2.2.2.2.2.2.2))
def Zca:Lp:=⟨[(2,.ref 0 []),(3,.ref 1 []),(4,.ref 2 []),(5,.ref 3 []),(6,.v .bool),(7,.v (.int .i64))],[.var (.v Zh) true,.var (.v Xk) true,.var (.v Zh) true,.var (.agg [.v (.int .i64),.v (.arr 2 (.int .i64)),.own 4 Xk,.v (.int .i64)]) true,.log Xk 82],[.bool,(.int .i64),Zh,Xk,Zh,(.int .i64),(.arr 2 (.int .i64)),(.int .i64),(.sl Xk)],[⟨.exit 0,[(3,.ref 1 []),(4,.ref 2 []),(5,.ref 3 []),(6,.v .bool)],[.var (.v Zh) true,.var (.v Xk) true,.var (.v Zh) true,.var (.agg [.v (.int .i64),.v (.arr 2 (.int .i64)),.own 4 Xk,.v (.int .i64)]) true,.log Xk 82],[.bool,Zh,Xk,Zh,(.int .i64),(.arr 2 (.int .i64)),(.int .i64),(.sl Xk)]⟩],Zc (Xe fuel) fuel⟩
theorem Zgo:Zca.Ok ya (Zl ya 97) (Zk ya 97 0):=Zg (fi:={ hi:={ own:=[29,32,35,42,47,50],still:=[20,25],gst:=[(9,[([2],Xk,82)])]},lp:=[]}) (specs:={ l:=[VW]}) (okS ⟨ZaP,trivial⟩) trivial (by kernel_rfl) (fun v=>by kernel_rfl)
def W1 (F:Nat) (a0:State) (a1:ZS):Option (State):=
 (Zc (Xe F) F (false,(0:Int),a0,a1,((0:Int),([0,0]:List Int),([]:List ZS),(0:Int)),a0.1,a0.2.1,a0.2.2.2,([]:List ZS))).bind fun o758=>
 if (!o758.1)=true then
  if (apB o758.2.2.2.2.2.2.2.length 1 40)=true then
   if (inB o758.2.2.1.1 2)=true then
    (o758.2.2.2.2.2.1[o758.2.2.1.1.toNat]?).bind fun e759=>
    if (inB o758.2.2.1.1 2)=true then
     (o758.2.2.2.2.2.1[o758.2.2.1.1.toNat]?).bind fun e760=>
     some (o758.2.2.2.2.1,o758.2.2.2.2.2.1.set o758.2.2.1.1.toNat (wi (e759 - o758.2.2.1.2.2.1)),o758.2.2.2.2.2.2.2++([o758.2.2.1]:List ZS),o758.2.2.2.2.2.2.1)
    else
    none
   else
   none
  else
  none
 else
 if (inB o758.2.2.1.1 2)=true then
  (o758.2.2.2.2.2.1[o758.2.2.1.1.toNat]?).bind fun e761=>
  if (inB o758.2.2.1.1 2)=true then
   (o758.2.2.2.2.2.1[o758.2.2.1.1.toNat]?).bind fun e762=>
   some (o758.2.2.2.2.1,o758.2.2.2.2.2.1.set o758.2.2.1.1.toNat (wi (e761 - o758.2.2.1.2.2.1)),o758.2.2.2.2.2.2.2,o758.2.2.2.2.2.2.1)
  else
  none
 else
 none
def ZjY (F:Nat):Fs ya:=⟨97,[.v Zh,.v Xk],[],[Zh,Xk],[⟨.ret,[(0,.v Zh)],[],[Zh]⟩],fun x=>W1 F x.1 x.2⟩
def ZcS:Fs ya:=ZjY fuel
theorem ZjZ:ZcS.Ok:=Ze (fi:={ hi:={ own:=[29,32,35,42,47,50],still:=[20,25],gst:=[(9,[([2],Xk,82)])]},lp:=[(0,Zca)]}) (specs:={ l:=[]}) (okS trivial) ⟨Zgo,trivial⟩ (by decide+kernel) (fun x=>by kernel_rfl)
def Vx (F:Nat) (a0:Z6) (a1:State) (a2:ZS):Option ((State×Int)):=
 (Y4 F a0 a1).bind fun o774=>
 (XU F a2).bind fun o775=>
 if (!o774)=true then
  some (((0:Int),([0,0]:List Int),([]:List ZS),(0:Int)),(1:Int))
 else
 if (!o775)=true then
  some (((0:Int),([0,0]:List Int),([]:List ZS),(0:Int)),(1:Int))
 else
 (Wz F a1 a2.1 a2.2.1).bind fun o776=>
 if (decide (o776 ≥ 0))=true then
  some (((0:Int),([0,0]:List Int),([]:List ZS),(0:Int)),(4:Int))
 else
 if (inB (wi (1 - a2.1)) 2)=true then
  (a0.2.2.2.1[(wi (1 - a2.1)).toNat]?).bind fun e777=>
  (Xd F a1 (wi (1 - a2.1))).bind fun o778=>
  if (decide (a2.2.2.1 < e777.2.2.2.2.1))=true then
   some (((0:Int),([0,0]:List Int),([]:List ZS),(0:Int)),(9:Int))
  else
  if ((a1.2.2.1.length:Int)==16)=true then
   some (((0:Int),([0,0]:List Int),([]:List ZS),(0:Int)),(3:Int))
  else
  if (decide (o778.1 ≥ e777.2.2.2.1))=true then
   some (((0:Int),([0,0]:List Int),([]:List ZS),(0:Int)),(3:Int))
  else
  let y779:Bool:=decide ((wi (o778.2+a2.2.2.1)) > e777.2.2.2.2.2)
  if y779=true then
   some (((0:Int),([0,0]:List Int),([]:List ZS),(0:Int)),(6:Int))
  else
  (W1 F a1 a2).bind fun o780=>
  (Yz F a0 o780).bind fun o781=>
  if (inB a2.1 2)=true then
   (o780.2.1[a2.1.toNat]?).bind fun e782=>
   if (decide (e782 < 0))=true then
    some (((0:Int),([0,0]:List Int),([]:List ZS),(0:Int)),(8:Int))
   else
   if (inB a0.2.2.2.2 2)=true then
    (o780.2.1[a0.2.2.2.2.toNat]?).bind fun e783=>
    if (decide (e783 < o781))=true then
     some (((0:Int),([0,0]:List Int),([]:List ZS),(0:Int)),(8:Int))
    else
    if (inB a2.1 2)=true then
     (o780.2.1[a2.1.toNat]?).bind fun e784=>
     if (a2.1==a0.2.2.2.2)=true then
      if (decide ((wi (e784 - o781)) < e777.2.1))=true then
       some (((0:Int),([0,0]:List Int),([]:List ZS),(0:Int)),(10:Int))
      else
      some (o780,(0:Int))
     else
     if (decide (e784 < e777.2.1))=true then
      some (((0:Int),([0,0]:List Int),([]:List ZS),(0:Int)),(10:Int))
     else
     some (o780,(0:Int))
    else
    none
   else
   none
  else
  none
 else
 none
def Zk0 (F:Nat):Fs ya:=⟨37,[.v Zu,.v Zh,.v Xk],[],[Zu,Zh,Xk],[⟨.ret,[(0,.tup [.v Zh,.v (.int .i64)])],[],[Zh,(.int .i64)]⟩],fun x=>Vx F x.1 x.2.1 x.2.2⟩
def Zet:Fs ya:=Zk0 fuel
theorem Zk1:Zet.Ok:=Ze (fi:={ hi:={ still:=[7,16,17,19,28,30,32,43,46,75,76,78,79]},lp:=[]}) (specs:={ l:=[VY,Qg,Zb9,W0,ZcS,Qh]}) (okS ⟨ZaU,Zb6,Zit,QR,ZjZ,Zb8,trivial⟩) trivial (by decide+kernel) (fun x=>by kernel_rfl)
abbrev Zm:Ty:=(.st [(.arr 2 (.arr 32 .u8)),.u32,.u32,.u8,.u8,(.sl XV),(.int .u16),(.arr 32 .u8)])
abbrev Corsnedlaw21Play:Type:=((List (List UInt8))×UInt32×UInt32×UInt8×UInt8×(List Vw)×Int×(List UInt8))
def Xf (F:Nat) (s:(Int×Corsnedlaw21Play×Z6×(List Kit)×State×(List Kit)×Z6)):Option ((Int×Corsnedlaw21Play×Z6×(List Kit)×State×(List Kit)×Z6)⊕(Corsnedlaw21Play×Z6×(List Kit)×State×(List Kit)×Z6)):=
 if (decide (s.1 < 2))=true then
  if (inB s.1 2)=true then
   (s.2.2.2.2.2.1[s.1.toNat]?).bind fun e806=>
   (Wj F e806).bind fun o807=>
   if (inB s.1 2)=true then
    (s.2.2.2.2.2.2.2.2.1[s.1.toNat]?).bind fun e808=>
    if (inB s.1 2)=true then
     (s.2.2.2.2.2.2.2.2.2.1[s.1.toNat]?).bind fun e809=>
     some (.inl (wi (s.1+1),s.2.1,s.2.2.1,s.2.2.2.1,s.2.2.2.2.1,s.2.2.2.2.2.1,(s.2.2.2.2.2.2.1,s.2.2.2.2.2.2.2.1,s.2.2.2.2.2.2.2.2.1.set s.1.toNat o807,s.2.2.2.2.2.2.2.2.2.1.set s.1.toNat ((100:Int),(200:Int),wi (5+s.1),(16:Int),(1:Int),(1125899906842624:Int)),s.2.2.2.2.2.2.2.2.2.2)))
    else
    none
   else
   none
  else
  none
 else
 some (.inr (s.2.1,s.2.2.1,s.2.2.2.1,s.2.2.2.2.1,s.2.2.2.2.2.1,s.2.2.2.2.2.2))
def Zcb:Lp:=⟨[(1,.ref 0 []),(2,.ref 1 []),(3,.ref 2 []),(4,.ref 3 []),(5,.ref 4 []),(6,.ref 5 []),(7,.v (.int .i64))],[.var (.v Zm) true,.var (.v Zu) true,.var (.v (.arr 2 Vz)) true,.var (.v Zh) true,.var (.v (.arr 2 Vz)) true,.var (.v Zu) true],[(.int .i64),Zm,Zu,(.arr 2 Vz),Zh,(.arr 2 Vz),Zu],[⟨.exit 0,[(1,.ref 0 []),(2,.ref 1 []),(3,.ref 2 []),(4,.ref 3 []),(5,.ref 4 []),(6,.ref 5 [])],[.var (.v Zm) true,.var (.v Zu) true,.var (.v (.arr 2 Vz)) true,.var (.v Zh) true,.var (.v (.arr 2 Vz)) true,.var (.v Zu) true],[Zm,Zu,(.arr 2 Vz),Zh,(.arr 2 Vz),Zu]⟩],Zc (Xf fuel) fuel⟩
theorem Zgp:Zcb.Ok ya (Zl ya 8) (Zk ya 8 0):=Zg (fi:={ hi:={ still:=[17,21,40,75,76,117,118,126,127,128]},lp:=[]}) (specs:={ l:=[ZaO]}) (okS ⟨Zhl,trivial⟩) trivial (by kernel_rfl) (fun v=>by kernel_rfl)
def Z9 (F:Nat) (s:(Int×Corsnedlaw21Play×Z6×(List Kit)×State×(List Kit)×Z6×State)):Option ((Int×Corsnedlaw21Play×Z6×(List Kit)×State×(List Kit)×Z6×State)⊕(Corsnedlaw21Play×Z6×(List Kit)×State×(List Kit)×Z6×State)):=
 if (decide (s.1 < (s.2.1.2.2.2.2.2.1.length:Int)))=true then
  if (decide (s.1 < 20))=true then
   (idx s.2.1.2.2.2.2.2.1 s.1).bind fun e815=>
   (VZ F e815).bind fun o816=>
   (Y6 F o816).bind fun o817=>
   (Vx F s.2.2.2.2.2.2.1 s.2.2.2.2.2.2.2 (((e815.1 % 2).toNat:Int),wi (s.1+1),wi (1+(wi e815.2.1)),o817,wi (1+(wi e815.2.2.1)))).bind fun o818=>
   if (o818.2==0)=true then
    some (.inl (wi (s.1+1),s.2.1,s.2.2.1,s.2.2.2.1,s.2.2.2.2.1,s.2.2.2.2.2.1,s.2.2.2.2.2.2.1,o818.1))
   else
   some (.inl (wi (s.1+1),s.2.1,s.2.2.1,s.2.2.2.1,s.2.2.2.2.1,s.2.2.2.2.2.1,s.2.2.2.2.2.2.1,s.2.2.2.2.2.2.2))
  else
  some (.inr (s.2.1,s.2.2.1,s.2.2.2.1,s.2.2.2.2.1,s.2.2.2.2.2.1,s.2.2.2.2.2.2.1,s.2.2.2.2.2.2.2))
 else
 some (.inr (s.2.1,s.2.2.1,s.2.2.2.1,s.2.2.2.2.1,s.2.2.2.2.2.1,s.2.2.2.2.2.2.1,s.2.2.2.2.2.2.2))
def Zcc:Lp:=⟨[(1,.ref 0 []),(2,.ref 1 []),(3,.ref 2 []),(4,.ref 3 []),(5,.ref 4 []),(6,.ref 5 []),(8,.ref 6 []),(10,.v (.int .i64))],[.var (.v Zm) true,.var (.v Zu) true,.var (.v (.arr 2 Vz)) true,.var (.v Zh) true,.var (.v (.arr 2 Vz)) true,.var (.v Zu) true,.var (.v Zh) true],[(.int .i64),Zm,Zu,(.arr 2 Vz),Zh,(.arr 2 Vz),Zu,Zh],[⟨.exit 2,[(2,.ref 1 []),(3,.ref 2 []),(4,.ref 3 []),(5,.ref 4 []),(6,.ref 5 []),(8,.ref 6 [])],[.var (.v Zm) true,.var (.v Zu) true,.var (.v (.arr 2 Vz)) true,.var (.v Zh) true,.var (.v (.arr 2 Vz)) true,.var (.v Zu) true,.var (.v Zh) true],[Zm,Zu,(.arr 2 Vz),Zh,(.arr 2 Vz),Zu,Zh]⟩],Zc (Z9 fuel) fuel⟩
theorem Zgq:Zcc.Ok ya (Zl ya 8) (Zk ya 8 1):=Zg (fi:={ hi:={ still:=[17,21,40,75,76,117,118,126,127,128]},lp:=[]}) (specs:={ l:=[ZaV,Zap,Zet]}) (okS ⟨Zhr,ZbB,Zk1,trivial⟩) trivial (by kernel_rfl) (fun v=>by kernel_rfl)
def W2 (F:Nat) (a0:Corsnedlaw21Play):Option ((Z6×(List Kit)×State)):=
 (a0.1[0]?).bind fun e802=>
 (We F e802).bind fun o803=>
 (a0.1[1]?).bind fun e804=>
 (We F e804).bind fun o805=>
 (Zc (Xf F) F ((0:Int),a0,((([0,0,0,0,0,0,0,0,0,0,0,0,0,0,0,0,0,0,0,0,0,0,0,0,0,0,0,0,0,0,0,0]:List UInt8),(0:Int)),(0:Int),([(0,0,0,0,0),(0,0,0,0,0)]:List WC),([(0,0,0,0,0,0),(0,0,0,0,0,0)]:List VF),(0:Int)),([(0,0,0,0,0,[0,0,0,0,0,0,0,0,0,0,0,0,0,0,0,0,0,0,0,0,0,0,0,0,0,0,0,0,0,0,0,0]),(0,0,0,0,0,[0,0,0,0,0,0,0,0,0,0,0,0,0,0,0,0,0,0,0,0,0,0,0,0,0,0,0,0,0,0,0,0])]:List Kit),((0:Int),([0,0]:List Int),([]:List ZS),(0:Int)),([o803,o805]:List Kit),((([0,0,0,0,0,0,0,0,0,0,0,0,0,0,0,0,0,0,0,0,0,0,0,0,0,0,0,0,0,0,0,0]:List UInt8),(0:Int)),wi (20000+(a0.2.1.toNat:Int)),([(0,0,0,0,0),(0,0,0,0,0)]:List WC),([(0,0,0,0,0,0),(0,0,0,0,0,0)]:List VF),((a0.2.2.2.2.1 % 2).toNat:Int)))).bind fun o810=>
 if ((wi (o810.2.2.2.2.2.2.1+1))!=0)=true then
  let y811:Int:=Int.tmod (o810.1.2.2.1.toNat:Int) (wi (o810.2.2.2.2.2.2.1+1))
  (Y4 F o810.2.2.2.2.2 (wi o810.1.2.2.2.2.2.2.1,([y811,wi (o810.2.2.2.2.2.2.1 - y811)]:List Int),([]:List ZS),((o810.1.2.2.2.1 % 8).toNat:Int))).bind fun o812=>
  if (!o812)=true then
   if (inB o810.2.2.2.2.2.2.2.2.2 2)=true then
    (([y811,wi (o810.2.2.2.2.2.2.1 - y811)]:List Int)[o810.2.2.2.2.2.2.2.2.2.toNat]?).bind fun e813=>
    if (inB (wi (1 - o810.2.2.2.2.2.2.2.2.2)) 2)=true then
     ((([y811,wi (o810.2.2.2.2.2.2.1 - y811)]:List Int).set o810.2.2.2.2.2.2.2.2.2.toNat o810.2.2.2.2.2.2.1)[(wi (1 - o810.2.2.2.2.2.2.2.2.2)).toNat]?).bind fun e814=>
     (Zc (Z9 F) F ((0:Int),o810.1,o810.2.1,o810.2.2.1,o810.2.2.2.1,o810.2.2.2.2.1,o810.2.2.2.2.2,(wi o810.1.2.2.2.2.2.2.1,(([y811,wi (o810.2.2.2.2.2.2.1 - y811)]:List Int).set o810.2.2.2.2.2.2.2.2.2.toNat o810.2.2.2.2.2.2.1).set ((wi (1 - o810.2.2.2.2.2.2.2.2.2)).toNat) (0:Int),([]:List ZS),((o810.1.2.2.2.1 % 8).toNat:Int)))).bind fun o819=>
     some (o819.2.2.2.2.2.1,o819.2.2.2.2.1,o819.2.2.2.2.2.2)
    else
    none
   else
   none
  else
  (Zc (Z9 F) F ((0:Int),o810.1,o810.2.1,o810.2.2.1,o810.2.2.2.1,o810.2.2.2.2.1,o810.2.2.2.2.2,(wi o810.1.2.2.2.2.2.2.1,([y811,wi (o810.2.2.2.2.2.2.1 - y811)]:List Int),([]:List ZS),((o810.1.2.2.2.1 % 8).toNat:Int)))).bind fun o820=>
  some (o820.2.2.2.2.2.1,o820.2.2.2.2.1,o820.2.2.2.2.2.2)
 else
 none
def V0 (F:Nat):Fs ya:=⟨8,[.v Zm],[],[Zm],[⟨.ret,[(0,.tup [.v Zu,.v (.arr 2 Vz),.v Zh])],[],[Zu,(.arr 2 Vz),Zh]⟩],fun x=>W2 F x⟩
def ZcT:Fs ya:=V0 fuel
theorem Zcd:ZcT.Ok:=Ze (fi:={ hi:={ still:=[17,21,40,75,76,117,118,126,127,128]},lp:=[(0,Zcb),(1,Zcc)]}) (specs:={ l:=[Zen,VY]}) (okS ⟨ZkT,ZaU,trivial⟩) ⟨Zgp,Zgq,trivial⟩ (by decide+kernel) (fun x=>by kernel_rfl)
def Ztu (F:Nat) (a0:UInt64):Option (UInt64):=
 (V7 F a0).bind fun o824=>
 (V2 F o824 (2305843009213688668:UInt64)).bind fun o825=>
 some o825
def ZxG (F:Nat):Fs ya:=⟨115,[.v .u64],[],[.u64],[⟨.ret,[(0,.v .u64)],[],[.u64]⟩],fun x=>Ztu F x⟩
def Zp0:Fs ya:=ZxG fuel
theorem ZxH:Zp0.Ok:=Ze (fi:={ hi:={ still:=[2,3,4]},lp:=[]}) (specs:={ l:=[ZbA,Zbq]}) (okS ⟨Zea,ZdT,trivial⟩) trivial (by decide+kernel) (fun x=>by kernel_rfl)
def ZnY (F:Nat) (a0:UInt64) (a1:(List UInt8)) (a2:UInt64) (a3:Sig):Option (Bool):=
 if (a0==1)=true then
  some false
 else
 (Xm F a0).bind fun o826=>
 if (!o826)=true then
  some false
 else
 (Xm F a2).bind fun o827=>
 if (!o827)=true then
  some false
 else
 (Xm F a3.1).bind fun o828=>
 if (!o828)=true then
  some false
 else
 (Zg5 F a3.2).bind fun o829=>
 if (!o829)=true then
  some false
 else
 (Zcy F a3.1 a0 a1).bind fun o830=>
 (Zao F a0 o830).bind fun o831=>
 (Ztu F a2).bind fun o832=>
 (Zl9 F ([a3.1,o831,o832]:List UInt64)).bind fun o833=>
 (Y6 F a3.2).bind fun o834=>
 some (o834==o833)
def Ztv (F:Nat):Fs ya:=⟨56,[.v .u64,.v (.arr 32 .u8),.v .u64,.v W5],[],[.u64,(.arr 32 .u8),.u64,W5],[⟨.ret,[(0,.v .bool)],[],[.bool]⟩],fun x=>ZnY F x.1 x.2.1 x.2.2.1 x.2.2.2⟩
def ZlC:Fs ya:=Ztv fuel
theorem Ztw:ZlC.Ok:=Ze (fi:={ hi:={ still:=[8,13,18,24,30,36,38,39,40,41,43,45,48]},lp:=[]}) (specs:={ l:=[Vc,Zfx,Zbh,Zfy,Zp0,ZjG,Zap]}) (okS ⟨VJ,ZjB,Ze8,ZjC,ZxH,ZnQ,ZbB,trivial⟩) trivial (by decide+kernel) (fun x=>by kernel_rfl)
def ZxI (F:Nat) (a0:UInt64) (a1:(List UInt8)) (a2:Sig):Option (Bool):=
 (ZnY F a0 a1 (1:UInt64) a2).bind fun o835=>
 some o835
def Zeu (F:Nat):Fs ya:=⟨19,[.v .u64,.v (.arr 32 .u8),.v W5],[],[.u64,(.arr 32 .u8),W5],[⟨.ret,[(0,.v .bool)],[],[.bool]⟩],fun x=>ZxI F x.1 x.2.1 x.2.2⟩
def ZuC:Fs ya:=Zeu fuel
theorem Ztx:ZuC.Ok:=Ze (fi:={ hi:={ still:=[6,7,8,9]},lp:=[]}) (specs:={ l:=[ZlC]}) (okS ⟨Ztw,trivial⟩) trivial (by decide+kernel) (fun x=>by kernel_rfl)
def ZxJ (F:Nat) (a0:(List UInt8)) (a1:(List UInt8)):Option (Bool):=
 let y836:Bool:=(WQ a0).data.toList==(WQ a1).data.toList
 some y836
def Zev (F:Nat):Fs ya:=⟨52,[.v (.sl .u8),.v (.sl .u8)],[],[(.sl .u8),(.sl .u8)],[⟨.ret,[(0,.v .bool)],[],[.bool]⟩],fun x=>ZxJ F x.1 x.2⟩
def ZuD:Fs ya:=Zev fuel
theorem Zty:ZuD.Ok:=Ze (fi:={ hi:={ still:=[4]},lp:=[]}) (specs:={ l:=[]}) (okS trivial) trivial (by decide+kernel) (fun x=>by kernel_rfl)
def Zj0 (F:Nat) (s:((List Sig)×(List Sig)×Int×Int)):Option (((List Sig)×(List Sig)×Int×Int)⊕(Bool⊕Unit)):=
 if (decide (s.2.2.2 < s.2.2.1))=true then
  (idx s.1 s.2.2.2).bind fun e837=>
  (idx s.2.1 s.2.2.2).bind fun e838=>
  if (!(decide (e837=e838)))=true then
   some (.inr (.inl false))
  else
  some (.inl (s.1,s.2.1,s.2.2.1,wi (s.2.2.2+1)))
 else
 some (.inr (.inr ()))
def ZlD:Lp:=⟨[(0,.v (.sl W5)),(1,.v (.sl W5)),(12,.v (.int .i64)),(13,.v (.int .i64))],[],[(.sl W5),(.sl W5),(.int .i64),(.int .i64)],[⟨.ret,[(4,.v .bool)],[],[.bool]⟩,⟨.exit 0,[],[],[]⟩],Zc (Zj0 fuel) fuel⟩
theorem Zo3:ZlD.Ok ya (Zl ya 78) (Zk ya 78 0):=Zg (fi:={ hi:={ still:=[4]},lp:=[]}) (specs:={ l:=[]}) (okS trivial) trivial (by kernel_rfl) (fun v=>by kernel_rfl)
end
end Go.Proofs.YtmkgbalfkhaflaaGreat
end
section
set_option maxRecDepth 4000
namespace Go.Proofs.YtmkgbalfkhaflaaGreat
open Go Go.Ev
noncomputable section
def Zp1 (F:Nat) (a0:(List Sig)) (a1:(List Sig)):Option (Bool):=
 if ((a0.length:Int)!=(a1.length:Int))=true then
  some false
 else
 (Zc (Zj0 F) F (a0,a1,(a0.length:Int),(0:Int))).bind fun o839=>
 match o839 with
 |.inl o840=>
  some o840
 |.inr o841=>
  some true
def ZuE (F:Nat):Fs ya:=⟨78,[.v (.sl W5),.v (.sl W5)],[],[(.sl W5),(.sl W5)],[⟨.ret,[(0,.v .bool)],[],[.bool]⟩],fun x=>Zp1 F x.1 x.2⟩
def ZnZ:Fs ya:=ZuE fuel
theorem ZuF:ZnZ.Ok:=Ze (fi:={ hi:={ still:=[4]},lp:=[(0,ZlD)]}) (specs:={ l:=[]}) (okS trivial) ⟨Zo3,trivial⟩ (by decide+kernel) (fun x=>by kernel_rfl)
def Ztz (F:Nat) (a0:In) (a1:In):Option (Bool):=
 if (decide (a0.1=a1.1))=true then
  if (a0.2.1==a1.2.1)=true then
   if (a0.2.2.2==a1.2.2.2)=true then
    (Zp1 F a0.2.2.1 a1.2.2.1).bind fun o842=>
    some o842
   else
   some false
  else
  some false
 else
 some false
def ZxK (F:Nat):Fs ya:=⟨77,[.v yIn,.v yIn],[],[yIn,yIn],[⟨.ret,[(0,.v .bool)],[],[.bool]⟩],fun x=>Ztz F x.1 x.2⟩
def Zp2:Fs ya:=ZxK fuel
theorem ZxL:Zp2.Ok:=Ze (fi:={ hi:={ still:=[4,31,34]},lp:=[]}) (specs:={ l:=[ZnZ]}) (okS ⟨ZuF,trivial⟩) trivial (by decide+kernel) (fun x=>by kernel_rfl)
def Zgr (F:Nat) (s:((List UInt64)×(List UInt64)×Int×Int)):Option (((List UInt64)×(List UInt64)×Int×Int)⊕(Bool⊕Unit)):=
 if (decide (s.2.2.2 < s.2.2.1))=true then
  (idx s.1 s.2.2.2).bind fun e843=>
  (idx s.2.1 s.2.2.2).bind fun e844=>
  if (e843 !=e844)=true then
   some (.inr (.inl false))
  else
  some (.inl (s.1,s.2.1,s.2.2.1,wi (s.2.2.2+1)))
 else
 some (.inr (.inr ()))
def Zh1:Lp:=⟨[(0,.v (.sl .u64)),(1,.v (.sl .u64)),(12,.v (.int .i64)),(13,.v (.int .i64))],[],[(.sl .u64),(.sl .u64),(.int .i64),(.int .i64)],[⟨.ret,[(4,.v .bool)],[],[.bool]⟩,⟨.exit 0,[],[],[]⟩],Zc (Zgr fuel) fuel⟩
theorem Zmk:Zh1.Ok ya (Zl ya 61) (Zk ya 61 0):=Zg (fi:={ hi:={ still:=[4]},lp:=[]}) (specs:={ l:=[]}) (okS trivial) trivial (by kernel_rfl) (fun v=>by kernel_rfl)
def ZlE (F:Nat) (a0:(List UInt64)) (a1:(List UInt64)):Option (Bool):=
 if ((a0.length:Int)!=(a1.length:Int))=true then
  some false
 else
 (Zc (Zgr F) F (a0,a1,(a0.length:Int),(0:Int))).bind fun o845=>
 match o845 with
 |.inl o846=>
  some o846
 |.inr o847=>
  some true
def ZqC (F:Nat):Fs ya:=⟨61,[.v (.sl .u64),.v (.sl .u64)],[],[(.sl .u64),(.sl .u64)],[⟨.ret,[(0,.v .bool)],[],[.bool]⟩],fun x=>ZlE F x.1 x.2⟩
def Zj1:Fs ya:=ZqC fuel
theorem ZqD:Zj1.Ok:=Ze (fi:={ hi:={ still:=[4]},lp:=[(0,Zh1)]}) (specs:={ l:=[]}) (okS trivial) ⟨Zmk,trivial⟩ (by decide+kernel) (fun x=>by kernel_rfl)
def ZtA (F:Nat) (a0:ZO) (a1:ZO):Option (Bool):=
 if (a0.2.1==a1.2.1)=true then
  if (a0.2.2.1==a1.2.2.1)=true then
   if (a0.2.2.2==a1.2.2.2)=true then
    (ZlE F a0.1 a1.1).bind fun o848=>
    some o848
   else
   some false
  else
  some false
 else
 some false
def ZxM (F:Nat):Fs ya:=⟨79,[.v Zw,.v Zw],[],[Zw,Zw],[⟨.ret,[(0,.v .bool)],[],[.bool]⟩],fun x=>ZtA F x.1 x.2⟩
def Zp3:Fs ya:=ZxM fuel
theorem ZxN:Zp3.Ok:=Ze (fi:={ hi:={ still:=[4,26,28]},lp:=[]}) (specs:={ l:=[Zj1]}) (okS ⟨ZqD,trivial⟩) trivial (by decide+kernel) (fun x=>by kernel_rfl)
def ZlF (F:Nat) (s:((List In)×(List In)×Int×Int)):Option (((List In)×(List In)×Int×Int)⊕(Bool⊕Unit)):=
 if (decide (s.2.2.2 < s.2.2.1))=true then
  (idx s.2.1 s.2.2.2).bind fun e849=>
  (idx s.1 s.2.2.2).bind fun e850=>
  (Ztz F e849 e850).bind fun o851=>
  if (!o851)=true then
   some (.inr (.inl false))
  else
  some (.inl (s.1,s.2.1,s.2.2.1,wi (s.2.2.2+1)))
 else
 some (.inr (.inr ()))
def Zn0:Lp:=⟨[(1,.v (.sl yIn)),(2,.fn 77 []),(15,.v (.sl yIn)),(16,.v (.int .i64)),(17,.v (.int .i64))],[],[(.sl yIn),(.sl yIn),(.int .i64),(.int .i64)],[⟨.ret,[(6,.v .bool)],[],[.bool]⟩,⟨.exit 0,[],[],[]⟩],Zc (ZlF fuel) fuel⟩
theorem ZqE:Zn0.Ok ya (Zl ya 81) (Zk ya 81 0):=Zg (fi:={ hi:={ still:=[6,27,28]},lp:=[]}) (specs:={ l:=[Zp2]}) (okS ⟨ZxL,trivial⟩) trivial (by kernel_rfl) (fun v=>by kernel_rfl)
def ZtB (F:Nat) (a0:(List In)) (a1:(List In)):Option (Bool):=
 if ((a0.length:Int)!=(a1.length:Int))=true then
  some false
 else
 (Zc (ZlF F) F (a1,a0,(a0.length:Int),(0:Int))).bind fun o852=>
 match o852 with
 |.inl o853=>
  some o853
 |.inr o854=>
  some true
def ZxO (F:Nat):Fs ya:=⟨81,[.v (.sl yIn),.v (.sl yIn),.fn 77 []],[],[(.sl yIn),(.sl yIn)],[⟨.ret,[(0,.v .bool)],[],[.bool]⟩],fun x=>ZtB F x.1 x.2⟩
def Zp4:Fs ya:=ZxO fuel
theorem ZxP:Zp4.Ok:=Ze (fi:={ hi:={ still:=[6,27,28]},lp:=[(0,Zn0)]}) (specs:={ l:=[]}) (okS trivial) ⟨ZqE,trivial⟩ (by decide+kernel) (fun x=>by kernel_rfl)
def Zff (F:Nat) (s:((List ZO)×(List ZO)×Int×Int)):Option (((List ZO)×(List ZO)×Int×Int)⊕(Bool⊕Unit)):=
 if (decide (s.2.2.2 < s.2.2.1))=true then
  (idx s.2.1 s.2.2.2).bind fun e858=>
  (idx s.1 s.2.2.2).bind fun e859=>
  (ZtA F e858 e859).bind fun o860=>
  if (!o860)=true then
   some (.inr (.inl false))
  else
  some (.inl (s.1,s.2.1,s.2.2.1,wi (s.2.2.2+1)))
 else
 some (.inr (.inr ()))
def Zgs:Lp:=⟨[(1,.v (.sl Zw)),(2,.fn 79 []),(15,.v (.sl Zw)),(16,.v (.int .i64)),(17,.v (.int .i64))],[],[(.sl Zw),(.sl Zw),(.int .i64),(.int .i64)],[⟨.ret,[(6,.v .bool)],[],[.bool]⟩,⟨.exit 0,[],[],[]⟩],Zc (Zff fuel) fuel⟩
theorem Zk2:Zgs.Ok ya (Zl ya 59) (Zk ya 59 0):=Zg (fi:={ hi:={ still:=[6,27,28]},lp:=[]}) (specs:={ l:=[Zp3]}) (okS ⟨ZxN,trivial⟩) trivial (by kernel_rfl) (fun v=>by kernel_rfl)
def Zj2 (F:Nat) (a0:(List ZO)) (a1:(List ZO)):Option (Bool):=
 if ((a0.length:Int)!=(a1.length:Int))=true then
  some false
 else
 (Zc (Zff F) F (a1,a0,(a0.length:Int),(0:Int))).bind fun o861=>
 match o861 with
 |.inl o862=>
  some o862
 |.inr o863=>
  some true
def Zo4 (F:Nat):Fs ya:=⟨59,[.v (.sl Zw),.v (.sl Zw),.fn 79 []],[],[(.sl Zw),(.sl Zw)],[⟨.ret,[(0,.v .bool)],[],[.bool]⟩],fun x=>Zj2 F x.1 x.2⟩
def Zh2:Fs ya:=Zo4 fuel
theorem Zo5:Zh2.Ok:=Ze (fi:={ hi:={ still:=[6,27,28]},lp:=[(0,Zgs)]}) (specs:={ l:=[]}) (okS trivial) ⟨Zk2,trivial⟩ (by decide+kernel) (fun x=>by kernel_rfl)
def ZtC (F:Nat) (a0:Out) (a1:Out):Option (Bool):=
 if (a0.1==a1.1)=true then
  (Zj2 F a0.2 a1.2).bind fun o864=>
  some o864
 else
 some false
def ZxQ (F:Nat):Fs ya:=⟨80,[.v ZU,.v ZU,.ref 0 []],[.var (.fn 79 []) true],[ZU,ZU],[⟨.ret,[(0,.v .bool)],[.var (.fn 79 []) true],[.bool]⟩],fun x=>ZtC F x.1 x.2⟩
def Zp5:Fs ya:=ZxQ fuel
theorem ZxR:Zp5.Ok:=Ze (fi:={ hi:={ still:=[5,14,17,18]},lp:=[]}) (specs:={ l:=[Zh2]}) (okS ⟨Zo5,trivial⟩) trivial (by decide+kernel) (fun x=>by kernel_rfl)
def Zj3 (F:Nat) (s:((List Out)×(List Out)×Int×Int)):Option (((List Out)×(List Out)×Int×Int)⊕(Bool⊕Unit)):=
 if (decide (s.2.2.2 < s.2.2.1))=true then
  (idx s.2.1 s.2.2.2).bind fun e856=>
  (idx s.1 s.2.2.2).bind fun e857=>
  (ZtC F e856 e857).bind fun o865=>
  if (!o865)=true then
   some (.inr (.inl false))
  else
  some (.inl (s.1,s.2.1,s.2.2.1,wi (s.2.2.2+1)))
 else
 some (.inr (.inr ()))
def ZlG:Lp:=⟨[(1,.v (.sl ZU)),(2,.fn 80 [.ref 0 []]),(15,.v (.sl ZU)),(16,.v (.int .i64)),(17,.v (.int .i64))],[.var (.fn 79 []) true],[(.sl ZU),(.sl ZU),(.int .i64),(.int .i64)],[⟨.ret,[(6,.v .bool)],[.var (.fn 79 []) true],[.bool]⟩,⟨.exit 0,[],[.var (.fn 79 []) true],[]⟩],Zc (Zj3 fuel) fuel⟩
theorem Zo6:ZlG.Ok ya (Zl ya 82) (Zk ya 82 0):=Zg (fi:={ hi:={ still:=[6,27,28]},lp:=[]}) (specs:={ l:=[Zp5]}) (okS ⟨ZxR,trivial⟩) trivial (by kernel_rfl) (fun v=>by kernel_rfl)
def Zp6 (F:Nat) (a0:(List Out)) (a1:(List Out)):Option (Bool):=
 if ((a0.length:Int)!=(a1.length:Int))=true then
  some false
 else
 (Zc (Zj3 F) F (a1,a0,(a0.length:Int),(0:Int))).bind fun o866=>
 match o866 with
 |.inl o867=>
  some o867
 |.inr o868=>
  some true
def ZuG (F:Nat):Fs ya:=⟨82,[.v (.sl ZU),.v (.sl ZU),.fn 80 [.ref 0 []]],[.var (.fn 79 []) true],[(.sl ZU),(.sl ZU)],[⟨.ret,[(0,.v .bool)],[.var (.fn 79 []) true],[.bool]⟩],fun x=>Zp6 F x.1 x.2⟩
def Zn1:Fs ya:=ZuG fuel
theorem ZuH:Zn1.Ok:=Ze (fi:={ hi:={ still:=[6,27,28]},lp:=[(0,ZlG)]}) (specs:={ l:=[]}) (okS trivial) ⟨Zo6,trivial⟩ (by decide+kernel) (fun x=>by kernel_rfl)
def ZGu (F:Nat) (a0:Tx) (a1:Tx):Option (Bool):=
 if (a0.2.2==a1.2.2)=true then
  (ZtB F a0.1 a1.1).bind fun o855=>
  if o855=true then
   (Zp6 F a0.2.1 a1.2.1).bind fun o869=>
   some o869
  else
  some false
 else
 some false
def Zml (F:Nat):Fs ya:=⟨29,[.v yTx,.v yTx],[],[yTx,yTx],[⟨.ret,[(0,.v .bool)],[],[.bool]⟩],fun x=>ZGu F x.1 x.2⟩
def ZD4:Fs ya:=Zml fuel
theorem ZBw:ZD4.Ok:=Ze (fi:={ hi:={ still:=[4,16,18,19,24,26,27]},lp:=[]}) (specs:={ l:=[Zp4,Zn1]}) (okS ⟨ZxP,ZuH,trivial⟩) trivial (by decide+kernel) (fun x=>by kernel_rfl)
def ZlH (F:Nat) (s:(Int×(List In)×Int×Int×Tx)):Option ((Int×(List In)×Int×Int×Tx)⊕(Int×Tx)):=
 if (decide (s.2.2.2.1 < s.2.2.1))=true then
  (idx s.2.1 s.2.2.2.1).bind fun e871=>
  let y872:Int:=wi (s.1+(wi (10+(wi (8*(e871.2.2.1.length:Int))))))
  if (e871.2.2.2 !=0)=true then
   some (.inl (wi (y872+4),s.2.1,s.2.2.1,wi (s.2.2.2.1+1),s.2.2.2.2))
  else
  some (.inl (y872,s.2.1,s.2.2.1,wi (s.2.2.2.1+1),s.2.2.2.2))
 else
 some (.inr (s.1,s.2.2.2.2))
def Zn2:Lp:=⟨[(3,.v (.int .i64)),(15,.v (.sl yIn)),(16,.v (.int .i64)),(17,.v (.int .i64))],[.var (.v yTx) true],[(.int .i64),(.sl yIn),(.int .i64),(.int .i64),yTx],[⟨.exit 0,[(3,.v (.int .i64))],[.var (.v yTx) true],[(.int .i64),yTx]⟩],Zc (ZlH fuel) fuel⟩
theorem ZqF:Zn2.Ok ya (Zl ya 31) (Zk ya 31 0):=Zg (fi:={ hi:={ still:=[2,6]},lp:=[]}) (specs:={ l:=[]}) (okS trivial) trivial (by kernel_rfl) (fun v=>by kernel_rfl)
def ZBx (F:Nat) (a0:Tx):Option (Int):=
 (Zdw F a0).bind fun o870=>
 if (!o870)=true then
  some (0:Int)
 else
 (Zc (ZlH F) F (wi (10+(wi (8*(a0.2.1.length:Int)))),a0.1,(a0.1.length:Int),(0:Int),a0)).bind fun o873=>
 some o873.1
def Zhs (F:Nat):Fs ya:=⟨31,[.v yTx],[],[yTx],[⟨.ret,[(0,.v (.int .i64))],[],[(.int .i64)]⟩],fun x=>ZBx F x⟩
def ZzO:Fs ya:=Zhs fuel
theorem ZxS:ZzO.Ok:=Ze (fi:={ hi:={ still:=[2,6]},lp:=[(0,Zn2)]}) (specs:={ l:=[Zg1]}) (okS ⟨Zjq,trivial⟩) ⟨ZqF,trivial⟩ (by decide+kernel) (fun x=>by kernel_rfl)
def Xq (F:Nat) (s:(Int×Lock)):Option ((Int×Lock)⊕((Bool×Lock)⊕Lock)):=
 if (decide (s.1 < (s.2.length:Int)))=true then
  if (decide (s.1 < 7))=true then
   (idx s.2 s.1).bind fun e874=>
   if (decide ((e874.1.length:Int) > 20))=true then
    some (.inr (.inl (false,s.2)))
   else
   some (.inl (wi (s.1+1),s.2))
  else
  some (.inr (.inr s.2))
 else
 some (.inr (.inr s.2))
def ZcU:Lp:=⟨[(1,.ref 0 []),(3,.v (.int .i64))],[.var (.v ZK) true],[(.int .i64),ZK],[⟨.ret,[(2,.v .bool)],[.var (.v ZK) true],[.bool,ZK]⟩,⟨.exit 0,[(1,.ref 0 [])],[.var (.v ZK) true],[ZK]⟩],Zc (Xq fuel) fuel⟩
theorem Zht:ZcU.Ok ya (Zl ya 9) (Zk ya 9 0):=Zg (fi:={ hi:={ still:=[2]},lp:=[]}) (specs:={ l:=[]}) (okS trivial) trivial (by kernel_rfl) (fun v=>by kernel_rfl)
def Wn (F:Nat) (a0:Lock):Option (Bool):=
 (Zc (Xq F) F ((0:Int),a0)).bind fun o875=>
 match o875 with
 |.inl o876=>
  some o876.1
 |.inr o877=>
  some (decide ((o877.length:Int)≤6))
def Zk3 (F:Nat):Fs ya:=⟨9,[.v ZK],[],[ZK],[⟨.ret,[(0,.v .bool)],[],[.bool]⟩],fun x=>Wn F x⟩
def Zew:Fs ya:=Zk3 fuel
theorem Zk4:Zew.Ok:=Ze (fi:={ hi:={ still:=[2]},lp:=[(0,ZcU)]}) (specs:={ l:=[]}) (okS trivial) ⟨Zht,trivial⟩ (by decide+kernel) (fun x=>by kernel_rfl)
def ZbD (F:Nat) (a0:Tx):Option ((Int×Int)):=
 if (decide (a0.2.2 < 0))=true then
  some ((0:Int),(0:Int))
 else
 some (wi (Int.tdiv a0.2.2 2),Int.tmod a0.2.2 2)
def ZqG (F:Nat):Fs ya:=⟨26,[.v yTx],[],[yTx],[⟨.ret,[(0,.tup [.v (.int .i64),.v (.int .i64)])],[],[(.int .i64),(.int .i64)]⟩],fun x=>ZbD F x⟩
def Zj4:Fs ya:=ZqG fuel
theorem ZqH:Zj4.Ok:=Ze (fi:={ hi:={ still:=[2,3]},lp:=[]}) (specs:={ l:=[]}) (okS trivial) trivial (by decide+kernel) (fun x=>by kernel_rfl)
end
end Go.Proofs.YtmkgbalfkhaflaaGreat
end
section
set_option maxRecDepth 4000
namespace Go.Proofs.YtmkgbalfkhaflaaGreat
open Go Go.Ev
theorem ZGv {m:Nat} (hm:0 < m):∀(f a n o:Nat),o < m→pwm m f a n o < m
 |0,_,_,o,h=>h
 |f+1,a,n,o,h=>by
  rw [pwm]
  split
  ·exact h
  ·refine ZGv hm f _ _ _ ?_
   split
   ·exact ybd _ hm
   ·exact h
theorem ZGw {m:Nat} (hm:1 < m) (k a n:Nat) (h:n < 2 ^ k):pwm m k a n 1=a ^ n % m:=by
 rw [←yai (ZGv (by omega) k a n 1 hm),Zw9 k a n 1 h,Nat.one_mul]
instance (a:Nat):Decidable (Zad a):=by unfold Zad;infer_instance
theorem ZJX {z:Nat} (h:z < mdl):z < 18446744073709551616:=Nat.lt_trans h (by decide)
theorem ZGx {z:Nat} (h:z < mdl):(yaf z).toNat=z:=by
 rw [ybc,yai (ZJX h)]
theorem ZxT (z:Nat):z % mdl < mdl:=ybd _ (by decide)
theorem ZzP (a n:UInt64):V2 fuel a n=some (yaf (a.toNat ^ n.toNat % mdl)):=by
 unfold V2
 rw [ZGw (by decide) 64 a.toNat n.toNat (ybg n)]
 rfl
theorem ZvD {a n:UInt64} (h:a.toNat < mdl):Yn fuel a n=some (yaf (a.toNat ^ n.toNat % mdl)):=by
 unfold Yn
 rw [if_pos (decide_eq_true (show a.toNat < 4611686018427377339 from h)),ZGw (by decide) 64 a.toNat n.toNat (ybg n)]
 rfl
theorem ZGy {z:Nat} (h:z < mdl):(yaf z==1)=decide (z=1):=by
 rw [Bool.eq_iff_iff,beq_iff_eq,decide_eq_true_iff, ←UInt64.toNat_inj,ZGx h]
 rfl
theorem Zn3 (p:UInt64):Xm fuel p=some (decide (Zad p.toNat)):=by
 unfold Xm
 by_cases h1:0 < p.toNat
 ·rw [if_pos (decide_eq_true (show p > 0 from ybs.2 h1))]
  by_cases h2:p.toNat < mdl
  ·rw [if_pos (decide_eq_true (show p < 4611686018427377339 from ybs.2 h2)),ZzP,yb,ZGy (ZxT _)]
   congr 1
   rw [decide_eq_decide]
   exact ⟨fun h=>⟨h1,h2,h⟩,fun h=>h.2.2⟩
  ·rw [if_neg (by rw [decide_eq_true_iff];exact fun h=>h2 (ybs.1 h)),decide_eq_false (fun h=>h2 h.2.1)]
 ·rw [if_neg (by rw [decide_eq_true_iff];exact fun h=>h1 (ybs.1 h)),decide_eq_false (fun h=>h1 h.1)]
theorem Zo7 (p:UInt64):Y3 fuel p=some (decide (Zad p.toNat)):=by
 unfold Y3
 by_cases h1:0 < p.toNat
 ·rw [if_pos (decide_eq_true (show p ≥ 1 from yck.2 h1))]
  by_cases h2:p.toNat < mdl
  ·rw [if_pos (decide_eq_true (show p < 4611686018427377339 from ybs.2 h2)),ZvD h2,yb,ZGy (ZxT _)]
   congr 1
   rw [decide_eq_decide]
   exact ⟨fun h=>⟨h1,h2,h⟩,fun h=>h.2.2⟩
  ·rw [if_neg (by rw [decide_eq_true_iff];exact fun h=>h2 (ybs.1 h)),decide_eq_false (fun h=>h2 h.2.1)]
 ·rw [if_neg (by rw [decide_eq_true_iff];exact fun h=>h1 (yck.1 h)),decide_eq_false (fun h=>h1 h.1)]
def tk (p:UInt64):UInt64:=if Zad p.toNat then p else 1
theorem ZGz (p:UInt64):Zad (tk p).toNat:=by
 unfold tk
 split
 ·assumption
 ·exact ZJJ
theorem ZKK {p:UInt64} (h:Zad p.toNat):tk p=p:=if_pos h
theorem ZGA (p:UInt64):V7 fuel p=some (tk p):=by
 unfold V7 tk
 rw [Zn3,yb]
 by_cases h:Zad p.toNat
 ·rw [if_pos (decide_eq_true h),if_pos h]
 ·rw [if_neg (by rw [decide_eq_true_iff];exact h),if_neg h]
theorem ZD5 (p:UInt64):Wv fuel p=some (tk p):=by
 unfold Wv tk
 rw [Zo7,yb]
 by_cases h:Zad p.toNat
 ·rw [if_pos (decide_eq_true h),if_pos h]
 ·rw [if_neg (by rw [decide_eq_true_iff];exact h),if_neg h]
def sc (p:UInt64) (n:Nat):UInt64:=yaf ((tk p).toNat ^ n % mdl)
theorem ZGB (p:UInt64) (n:Nat):(sc p n).toNat=(tk p).toNat ^ n % mdl:=ZGx (ZxT _)
theorem ZKL (p:UInt64) (n:Nat):Zad (sc p n).toNat:=by
 rw [ZGB]
 exact ZJK (ZGz p) n
theorem ZGC (p:UInt64) (n:Nat):sc p (n % ord)=sc p n:=by
 unfold sc
 rw [ZH7 (ZGz p)]
theorem ZIF (k:UInt64):(k % 2305843009213688669).toNat=k.toNat % ord:=by
 rw [UInt64.toNat_mod]
 rfl
theorem ZGD (p k:UInt64):Zao fuel p k=some (sc p k.toNat):=by
 unfold Zao
 rw [ZGA,yb,ZzP,yb,ZIF, ←ZGC]
 rfl
theorem ZD6 (p k:UInt64):Ww fuel p k=some (sc p k.toNat):=by
 unfold Ww
 rw [ZD5,yb,ZvD (ZGz p).2.1,yb,ZIF, ←ZGC]
 rfl
def B (n:Nat):UInt64:=sc 4 n
theorem tk4:tk 4=4:=ZKK ZGd
theorem ZKM (n:Nat):(B n).toNat=4 ^ n % mdl:=by
 unfold B
 rw [ZGB,tk4]
 rfl
theorem ZJY (n:Nat):Zad (B n).toNat:=ZKL 4 n
theorem ZK1 {n:Nat} (h0:0 < n) (h1:n < ord):B n≠1:=fun e=>ZJL h0 h1 (by rw [←ZKM,e];rfl)
theorem ZIe (k:UInt64):Y6 fuel k=some (B k.toNat):=by
 unfold Y6
 rw [ZGD,yb]
 rfl
theorem Zj5 (k:UInt64):Yj fuel k=some (B k.toNat):=by
 unfold Yj
 rw [ZD6,yb]
 rfl
def Key (k:UInt64):Prop:=0 < k.toNat∧k.toNat < ord
theorem Zj6 {h:List UInt8} (hl:h.length=32):∃k,Yi fuel h=some k∧Key k:=by
 unfold Yi
 obtain ⟨x,h1,h2⟩:=YL (step:=Y9 fuel) 32 (fun k s=>∃n:UInt64,s=(n,(k:Int),h)∧n.toNat < 2305843009213688668) (fun x=>x.1.toNat < 2305843009213688668) (i:=((0:UInt64),(0:Int),h)) ⟨0,rfl,by decide⟩ (by omega) (by
  rintro k _ hk ⟨n,rfl,hn⟩
  left
  obtain ⟨e,he,_⟩:=Zq (l:=h) (k:=k) (by omega)
  unfold Y9
  dsimp only
  rw [if_pos (decide_eq_true (by omega))]
  obtain ⟨y,g1,n2,rfl,g2⟩:=YL (step:=Y8 fuel) 8 (fun j s=>∃n:UInt64,s=(n,(k:Int),7 - (j:Int),h)∧n.toNat < 2305843009213688668) (fun x=>∃n:UInt64,x=(n,(k:Int),h)∧n.toNat < 2305843009213688668) (i:=(n,(k:Int),(7:Int),h)) ⟨n,rfl,hn⟩ (by omega) (by
   rintro j _ hj ⟨n,rfl,hn⟩
   left
   unfold Y8
   dsimp only
   rw [if_pos (decide_eq_true (by omega)),if_pos (YP (by omega) (by omega)),ybq,he,yb,Zy (z:=7 - (j:Int) - 1) (by omega) (by omega)]
   refine ⟨_,rfl,_,by rw [show (7:Int) - (j:Int) - 1=7 - ((j+1:Nat):Int) by omega], ?_⟩
   rw [UInt64.toNat_mod]
   exact ybd _ (by decide)) (by
   rintro _ ⟨n,rfl,hn⟩
   unfold Y8
   dsimp only
   rw [if_neg (by rw [decide_eq_true_iff];omega)]
   exact ⟨_,rfl,_,rfl,hn⟩)
  rw [g1,yb,ZE (by omega)]
  exact ⟨_,rfl,_,rfl,g2⟩) (by
  rintro _ ⟨n,rfl,hn⟩
  unfold Y9
  dsimp only
  rw [if_neg (by rw [decide_eq_true_iff];omega)]
  exact ⟨_,rfl,hn⟩)
 rw [h1,yb]
 have e:(x.1+1).toNat=x.1.toNat+1:=by rw [UInt64.toNat_add,yai (by show x.1.toNat+1 < _;omega)];rfl
 exact ⟨_,rfl,by rw [e];omega,by rw [e];unfold ord;omega⟩
end Go.Proofs.YtmkgbalfkhaflaaGreat
end
section
set_option maxRecDepth 4000
namespace Go.Proofs.YtmkgbalfkhaflaaGreat
open Go Go.Ev
theorem ZD7 {ls:List (List UInt8)} (h:ls.flatten.length≤1000000000) (hn:ls.length≤1000):Yq fuel ls=some ls.flatten:=by
 unfold Yq
 rw [show (ls,(0:Int),ls,(ls.length:Int),(0:Int))=(fun k:Nat=>(ls,((ls.take k).flatten.length:Int),ls,(ls.length:Int),(k:Int))) 0 from rfl,
  Z3 (x:=(ls,(ls.flatten.length:Int))) ls.length (fun k:Nat=>(ls,((ls.take k).flatten.length:Int),ls,(ls.length:Int),(k:Int))) ?_ ?_ (by omega),yb]
 ·have hg:Zsm (ls.flatten.length:Int)=some []:=by
   unfold Zsm
   rw [if_pos]
   rw [Bool.and_eq_true]
   exact ⟨decide_eq_true (by omega),decide_eq_true (by unfold Zp;omega)⟩
  dsimp only
  rw [hg,yb,show (ls,(ls.length:Int),(0:Int),([]:List UInt8))=(fun k:Nat=>(ls,(ls.length:Int),(k:Int),(ls.take k).flatten)) 0 from rfl,
   Z3 (x:=ls.flatten) ls.length (fun k:Nat=>(ls,(ls.length:Int),(k:Int),(ls.take k).flatten)) ?_ ?_ (by omega),yb]
  ·intro k hk
   obtain ⟨e,he,_⟩:=Zq hk
   have hf:=ZvC he
   have hl:=ZCI ls (k+1)
   rw [hf,yl] at hl
   unfold YK
   dsimp only
   rw [if_pos (YY hk),ZD he,yb,if_pos (Yy (by omega) (by omega)),ZE (by omega),hf]
  ·unfold YK
   dsimp only
   rw [if_neg (by rw [Yo];decide),ybo]
 ·intro k hk
  obtain ⟨e,he,_⟩:=Zq hk
  have hf:=ZvC he
  have hl:=ZCI ls (k+1)
  rw [hf,yl] at hl
  unfold YJ
  dsimp only
  rw [if_pos (YY hk),ZD he,yb,Zy (z:=((ls.take k).flatten.length:Int)+(e.length:Int)) (by omega) (by omega),if_neg (by rw [decide_eq_true_iff];omega),ZE (by omega),hf,yl]
  rfl
 ·unfold YJ
  dsimp only
  rw [if_neg (by rw [Yo];decide),ybo]
theorem ZCJ {a b:List UInt8} (h:a.length+b.length≤1000000000):QA fuel a b=some (a++b):=by
 unfold QA
 rw [ZD7 (by simp;omega) (by simp),yb]
 simp
def QD (n:Nat):List UInt8:=if h:n < 128 then [yal n] else yal (n % 128+128)::QD (n / 128)
termination_by n
decreasing_by omega
theorem Zhu {n:Nat} (h:n < 128):QD n=[yal n]:=by rw [QD,dif_pos h]
theorem ZtD {n:Nat} (h:¬n < 128):QD n=yal (n % 128+128)::QD (n / 128):=by rw [QD,dif_neg h]
theorem ZCK:∀(j n:Nat),n < 128 ^ (j+1)→(QD n).length≤j+1
 |0,n,h=>by rw [Zhu (by omega)];exact Nat.le_refl _
 |j+1,n,h=>by
  by_cases h0:n < 128
  ·rw [Zhu h0,List.length_singleton];omega
  ·rw [ZtD h0]
   have:=ZCK j (n / 128) (by rw [Nat.pow_succ] at h;omega)
   simp only [yz]
   omega
theorem Wo {n:Nat} (h:n≤9223372036854775807):(QD n).length≤9:=ZCK 8 n (by omega)
theorem ZIf (n:Nat):QD n≠[]:=by
 rw [QD]
 split <;> simp
theorem ZJZ {n:Nat} (h:n≤9223372036854775807):Zf6 fuel (n:Int)=some (QD n):=by
 unfold Zf6
 refine Exists.elim (WB (step:=Zdd fuel) (fun s=>∃m:Nat,s.1=(m:Int)∧m≤n∧s.2++QD m=QD n) (fun s=>s.1.toNat) (fun x=>∃m:Nat,x.1=(m:Int)∧m < 128∧x.2++QD m=QD n) ?_ ((n:Int),([]:List UInt8)) ⟨n,rfl,Nat.le_refl _,rfl⟩ (by dsimp only;omega)) ?_
 ·rintro ⟨_,o⟩ ⟨m,rfl,hm,ho⟩
  unfold Zdd
  dsimp only at ho ⊢
  have hr:=congrArg List.length ho
  have hl:=Wo h
  rw [yl] at hr
  by_cases h1:m < 128
  ·right
   rw [if_neg (by rw [decide_eq_true_iff];omega)]
   exact ⟨_,rfl,m,rfl,h1,ho⟩
  ·left
   rw [if_pos (decide_eq_true (by omega)),if_pos (Yy (by omega) (by omega))]
   have e1:Int.tmod (m:Int) 128=((m % 128:Nat):Int):=rfl
   have e2:Int.tdiv (m:Int) 128=((m / 128:Nat):Int):=rfl
   rw [e1,e2,Zy (z:=((m % 128:Nat):Int)+128) (by omega) (by omega),Zy (z:=((m / 128:Nat):Int)) (by omega) (by omega)]
   refine ⟨_,rfl,⟨m / 128,rfl,by omega, ?_⟩,by dsimp only;omega⟩
   dsimp only
   rw [←ho,ZtD h1,yae]
   congr 1
   rw [List.singleton_append]
   congr 1
   unfold w8
   congr 1
   omega
 ·rintro ⟨_,o⟩ ⟨h1,m,rfl,h2,h3⟩
  dsimp only at h3 ⊢
  have hr:=congrArg List.length h3
  have hl:=Wo h
  rw [yl] at hr
  rw [h1,yb]
  dsimp only
  rw [if_pos (Yy (by omega) (by omega)), ←h3,Zhu h2]
  congr 3
  unfold w8
  congr 1
  omega
theorem ZxU {b:List UInt8} {z:Int} (h0:0≤z) (h:z≤9223372036854775807) (hb:b.length≤1000000):X3 fuel b z=some (b++QD z.toNat):=by
 obtain ⟨n,rfl⟩:=Int.eq_ofNat_of_zero_le h0
 have:=Wo (n:=n) (by omega)
 unfold X3
 rw [if_neg (by rw [decide_eq_true_iff];omega),ZJZ (by omega),yb,ZCJ (by omega),yb,ybq]
def Zn4 (l:List UInt8) (n k:Nat):List UInt8:=l.take k++List.replicate (n - k) 0
theorem ZD8 {l:List UInt8} {n k:Nat} (h:k < l.length) (h2:l.length≤n):(Zn4 l n k)[k]? =some 0:=by
 unfold Zn4
 have h3:(l.take k).length=k:=by simp;omega
 rw [yak (by omega),h3,List.getElem?_replicate]
 simp
 omega
theorem ZD9 {l:List UInt8} {n k:Nat} {d:UInt8} (hx:l[k]? =some d) (h2:l.length≤n):(Zn4 l n k).set k d=Zn4 l n (k+1):=by
 have h:k < l.length:=(yj.1 hx).1
 have h3:(l.take k).length=k:=by simp;omega
 unfold Zn4
 rw [Zhg hx,List.set_append_right _ _ (by omega),h3,Nat.sub_self]
 have e:n - k=(n - (k+1))+1:=by omega
 rw [e,List.replicate_succ]
 simp
theorem ZEa {l:List UInt8} {n:Nat} (h:l.length=n):Zn4 l n n=l:=by
 unfold Zn4
 rw [←h]
 simp
def Zo8 (n:Nat):List UInt8:=(List.range 8).map fun i=>yal (n / 2 ^ (56 - 8*i))
theorem Qm (n:Nat):(Zo8 n).length=8:=by simp [Zo8]
theorem ZzQ (n:Nat) {k:Nat} (hk:k < 8):(Zo8 n)[k]? =some (yal (n / 2 ^ (56 - 8*k))):=by simp [Zo8,hk]
theorem ZGE (x:UInt64) {m:Nat}:w8 ((Zx x m).toNat:Int)=yal (x.toNat / 2 ^ m):=by
 unfold w8 Zx
 have h:x.toNat / 2 ^ m < 18446744073709551616:=Nat.lt_of_le_of_lt (Nat.div_le_self ..) (ybg _)
 rw [ybc,yai h]
 apply UInt8.toNat_inj.1
 rw [UInt8.toNat_ofNat',UInt8.toNat_ofNat']
 omega
theorem ZvE {b:List UInt8} (x:UInt64) (hb:b.length≤1000000):Zai fuel b x=some (b++Zo8 x.toNat):=by
 unfold Zai
 rw [show (b,x,(0:Int),([0,0,0,0,0,0,0,0]:List UInt8))=(fun k:Nat=>(b,x,(k:Int),Zn4 (Zo8 x.toNat) 8 k)) 0 from rfl,
  Z3 (x:=(b,Zo8 x.toNat)) 8 (fun k:Nat=>(b,x,(k:Int),Zn4 (Zo8 x.toNat) 8 k)) ?_ ?_ (by omega),yb]
 ·dsimp only
  rw [ZCJ (by rw [Qm];omega),yb]
 ·intro k hk
  unfold Qr
  dsimp only
  have hl:=Qm x.toNat
  rw [if_pos (decide_eq_true (by omega)),Zy (z:=8*(k:Int)) (by omega) (by omega),Zy (z:=56 - 8*(k:Int)) (by omega) (by omega),if_pos (decide_eq_true (by omega)),if_pos (YP (by omega) (by omega)),
   ybq,ZD8 (by omega) (by omega),yb,ZE (by omega)]
  have e:min (56 - 8*(k:Int)).toNat 64=56 - 8*k:=by omega
  rw [e,ZGE,ZD9 (ZzQ _ hk) (by omega)]
 ·unfold Qr
  dsimp only
  rw [if_neg (by simp),ZEa (Qm _)]
def ZGF (b:ZO):Prop:=b.1.length≤12∧0≤b.2.1∧b.2.1≤1048576∧0≤b.2.2.1∧b.2.2.1≤1048576
def ZGG (b:ZO):Prop:=(∀p,p∈b.1→Zad p.toNat)∧(b.2.2.2≠0→Zad b.2.2.2.toNat)
def Zaz (l:Lock):Prop:=0 < l.length∧l.length≤4∧∀b,b∈l→ZGF b
def Zbj (l:Lock):Prop:=∀b,b∈l→ZGG b
theorem ZBy (p:UInt64):Vd fuel p=some (!decide (Zad p.toNat)):=by
 unfold Vd
 rw [Zn3,yb]
theorem ZGH {p:UInt64} (h:Zad p.toNat):Vd fuel p=some false:=by rw [ZBy,decide_eq_true h];rfl
theorem ZKN {l:List UInt64} (hl:l.length≤12) (h:∀p,p∈l→Zad p.toNat):Za8 fuel l=some false:=by
 unfold Za8 Zae
 rw [show (l,(l.length:Int),(0:Int))=(fun k:Nat=>(l,(l.length:Int),(k:Int))) 0 from rfl,
  Z3 (x:=.inr ()) l.length (fun k:Nat=>(l,(l.length:Int),(k:Int))) ?_ ?_ (by omega),yb]
 ·rfl
 ·intro k hk
  obtain ⟨e,he,hm⟩:=Zq hk
  unfold YR
  dsimp only
  rw [if_pos (YY hk),ZD he,yb,ZGH (h e hm),yb,ZE (by omega)]
  rfl
 ·unfold YR
  dsimp only
  rw [if_neg (by rw [Yo];decide)]
theorem ZvF {z:Int} (h0:0≤z) (h1:z≤1048576):WS fuel z=some true:=by
 unfold WS
 rw [if_pos (decide_eq_true h0),decide_eq_true h1]
theorem Zbk {l:Lock} (h:Zaz l) (hp:Zbj l):YC fuel l=some true:=by
 unfold YC
 obtain ⟨h0,h1,h2⟩:=h
 rw [show (l,(l.length:Int),(0:Int),l)=(fun k:Nat=>(l,(l.length:Int),(k:Int),l)) 0 from rfl,
  Z3 (x:=.inr l) l.length (fun k:Nat=>(l,(l.length:Int),(k:Int),l)) ?_ ?_ (by omega),yb]
 ·dsimp only
  rw [if_pos (decide_eq_true (by omega)),decide_eq_true (by omega)]
 ·intro k hk
  obtain ⟨e,he,hm⟩:=Zq hk
  obtain ⟨e1,e2,e3,e4,e5⟩:=h2 e hm
  obtain ⟨p1,p2⟩:=hp e hm
  unfold XR
  dsimp only
  rw [if_pos (YY hk),ZD he,yb,if_neg (by rw [decide_eq_true_iff];omega),ZKN e1 p1,yb,ZvF e2 e3,yb,ZvF e4 e5,yb,ZE (by omega),if_neg (by decide),if_neg (by decide),if_neg (by decide)]
  by_cases hz:e.2.2.2=0
  ·rw [if_neg (by simp [hz])]
  ·rw [if_pos (by simp [hz]),ZGH (p2 hz),yb,if_neg (by decide)]
 ·unfold XR
  dsimp only
  rw [if_neg (by rw [Yo];decide)]
def ZK2 (t:Tx):Prop:=(∀x,x∈t.1→x.1.1.length=32)∧t.2.2≤9223372036854775807
def ZKO (x:In):Prop:=0≤x.1.2∧x.1.2 < 64∧0≤x.2.1∧x.2.1 < 4∧x.2.2.1.length≤12
def ZzR (o:Out):Prop:=0≤o.1∧o.1≤1125899906842624∧Zaz o.2∧Zbj o.2
def ZKP (t:Tx):Prop:=0 < t.1.length∧t.1.length≤64∧t.2.1.length≤64∧0≤t.2.2∧(∀x,x∈t.1→ZKO x)∧∀o,o∈t.2.1→ZzR o
def cat {α:Type} (f:α→List UInt8) (l:List α):List UInt8:=(l.map f).flatten
theorem ZzS {α:Type} {f:α→List UInt8} {l:List α} {k:Nat} {e:α} (h:l[k]? =some e):cat f (l.take (k+1))=cat f (l.take k)++f e:=by
 unfold cat
 rw [Zhg h,yan,List.flatten_append]
 simp
theorem ZzT {α:Type} {f:α→List UInt8} {l:List α} {e:α}:cat f (e::l)=f e++cat f l:=rfl
theorem ZxV {α:Type} {f:α→List UInt8} {c:Nat}:∀{l:List α},(∀x,x∈l→(f x).length≤c)→(cat f l).length≤l.length*c
 |[],_=>by simp [cat]
 |e::l,h=>by
  have h1:=h e (yao ..)
  have h2:=ZxV (l:=l) fun x hx=>h x (yar _ hx)
  rw [ZzT,yl,yz,Nat.succ_mul]
  omega
theorem ZtE {α:Type} {f:α→List UInt8} {c n:Nat} {l:List α} (h:∀x,x∈l→(f x).length≤c) (hn:l.length≤n) (k:Nat):(cat f (l.take k)).length≤n*c:=by
 refine Nat.le_trans (ZxV fun x hx=>h x (ybp hx)) (ybr c ?_)
 rw [yab]
 omega
def ZtF (p:UInt64):List UInt8:=Zo8 p.toNat
def brF (b:ZO):List UInt8:=QD b.1.length++(cat ZtF b.1++(QD b.2.1.toNat++(QD b.2.2.1.toNat++Zo8 b.2.2.2.toNat)))
def ZtG (l:Lock):List UInt8:=QD l.length++cat brF l
theorem ZtH {l:List UInt64} (h:l.length≤12) (k:Nat):(cat ZtF (l.take k)).length≤96:=ZtE (c:=8) (fun x _=>Nat.le_of_eq (Qm _)) h k
theorem ZxW {b:ZO} (h:b.1.length≤12∧0≤b.2.1∧b.2.1≤1048576∧0≤b.2.2.1∧b.2.2.1≤1048576):(brF b).length≤131:=by
 have h1:=ZtH h.1 b.1.length
 rw [ybo] at h1
 have h2:=Wo (n:=b.1.length) (by omega)
 have h3:=Wo (n:=b.2.1.toNat) (by omega)
 have h4:=Wo (n:=b.2.2.1.toNat) (by omega)
 have h5:=Qm b.2.2.2.toNat
 unfold brF
 simp only [yl]
 omega
theorem ZEb {l:Lock} (h:Zaz l):(ZtG l).length≤533:=by
 have h1:=ZtE (f:=brF) (c:=131) (fun x hx=>ZxW (h.2.2 x hx)) h.2.1 l.length
 rw [ybo] at h1
 have h2:=Wo (n:=l.length) (by have:=h.2.1;omega)
 unfold ZtG
 rw [yl]
 omega
theorem ZEc {c:List UInt8} (hc:c.length≤100000) {bs:List ZO} {n i:Int} {ks:List UInt64} {l:Lock} {e:ZO} (hk:ks.length≤12):
 Zc (VO fuel) fuel (c,bs,n,i,ks,(ks.length:Int),(0:Int),l,e)=some (c++cat ZtF ks,bs,n,i,l,e):=by
 rw [show (c,bs,n,i,ks,(ks.length:Int),(0:Int),l,e)=(fun k:Nat=>(c++cat ZtF (ks.take k),bs,n,i,ks,(ks.length:Int),(k:Int),l,e)) 0 by simp [cat]]
 refine Z3 ks.length (fun k:Nat=>(c++cat ZtF (ks.take k),bs,n,i,ks,(ks.length:Int),(k:Int),l,e)) ?_ ?_ (by omega)
 ·intro k hk2
  obtain ⟨e,he,_⟩:=Zq hk2
  have hl:=ZtH hk k
  unfold VO
  dsimp only
  rw [if_pos (YY hk2),ZD he,yb,ZvE _ (by rw [yl];omega),yb,ZE (by omega),ZzS he,yae]
  rfl
 ·unfold VO
  dsimp only
  rw [if_neg (by rw [Yo];decide),ybo]
theorem ZtI {l:Lock} (h:Zaz l) (hp:Zbj l):QN fuel l=some (ZtG l):=by
 unfold QN
 have h0:=h.2.1
 have h9:=Wo (n:=l.length) (by omega)
 rw [Zbk h hp,yb,if_neg (by decide),ZxU (by omega) (by omega) (by simp),yb,yq,ybq]
 rw [show (QD l.length,l,(l.length:Int),(0:Int),l)=(fun k:Nat=>(QD l.length++cat brF (l.take k),l,(l.length:Int),(k:Int),l)) 0 by simp [cat],
  Z3 (x:=(ZtG l,l)) l.length (fun k:Nat=>(QD l.length++cat brF (l.take k),l,(l.length:Int),(k:Int),l)) ?_ ?_ (by omega),yb]
 ·intro k hk
  obtain ⟨e,he,hm⟩:=Zq hk
  obtain ⟨e1,e2,e3,e4,e5⟩:=h.2.2 e hm
  have hl:=ZtE (f:=brF) (c:=131) (fun x hx=>ZxW (h.2.2 x hx)) h.2.1 k
  have hr:=Wo (n:=e.1.length) (by omega)
  have hr2:=Wo (n:=e.2.1.toNat) (by omega)
  have hr3:=Wo (n:=e.2.2.1.toNat) (by omega)
  have hk8:=ZtH e1 e.1.length
  rw [ybo] at hk8
  unfold Zaj
  dsimp only
  rw [if_pos (YY hk),ZD he,yb,ZxU (by omega) (by omega) (by rw [yl];omega),yb,ybq,
   ZEc (by simp only [yl];omega) e1,yb]
  dsimp only
  rw [ZxU e2 (by omega) (by simp only [yl];omega),yb,ZxU e4 (by omega) (by simp only [yl];omega),yb,
   ZvE _ (by simp only [yl];omega),yb,ZE (by omega),ZzS he]
  unfold brF
  simp only [yae]
 ·unfold Zaj
  dsimp only
  rw [if_neg (by rw [Yo];decide),ybo]
  rfl
def Vi (l:List Out):Int:=(l.map (·.1)).sum
theorem Zo9 {l:List Out} {k:Nat} {e:Out} (h:l[k]? =some e):Vi (l.take (k+1))=Vi (l.take k)+e.1:=by
 unfold Vi
 rw [Zhg h,yan,List.sum_append]
 simp
theorem ZGI:∀{l:List Int},(∀x,x∈l→0≤x)→0≤l.sum
 |[],_=>by simp
 |x::r,h=>by
  have:=ZGI (l:=r) fun y hy=>h y (yar _ hy)
  have:=h x (yao ..)
  rw [List.sum_cons]
  omega
theorem ZCL {l:List Out} (h:∀o,o∈l→ZzR o) (k:Nat):0≤Vi (l.take k)∧Vi (l.take k)≤Vi l:=by
 have h1:∀(l:List Out),(∀o,o∈l→ZzR o)→0≤Vi l:=fun l h=>ZGI fun x hx=>by
  obtain ⟨o,ho,rfl⟩:=List.mem_map.1 hx
  exact (h o ho).1
 refine ⟨h1 _ fun o ho=>h o (ybp ho), ?_⟩
 have:=h1 (l.drop k) fun o ho=>h o (List.mem_of_mem_drop ho)
 have e:Vi l=Vi (l.take k)+Vi (l.drop k):=by
  unfold Vi
  rw [←List.sum_append, ←yan,List.take_append_drop]
 omega
theorem ZzU {z:Int} (h0:0≤z) (h1:z≤1125899906842624):ZdV fuel z=some true:=by
 unfold ZdV
 rw [if_pos (decide_eq_true h0),decide_eq_true h1]
theorem ZCM {a b:Int} (h0:0≤a) (h1:0≤b) (h2:a+b≤1125899906842624):Zf2 fuel a b=some (a+b,true):=by
 unfold Zf2
 rw [ZzU h0 (by omega),yb,if_neg (by decide),ZzU h1 (by omega),yb,if_neg (by decide),Zy (z:=1125899906842624 - b) (by omega) (by omega),Zy (z:=a+b) (by omega) (by omega),if_neg (by rw [decide_eq_true_iff];omega)]
theorem ZBz {x:In} (h:ZKO x):ZbP fuel x.2=some true:=by
 obtain ⟨_,_,h1,h2,h3⟩:=h
 unfold ZbP
 rw [if_pos (decide_eq_true h1),if_pos (decide_eq_true h2),decide_eq_true (by omega)]
theorem ZGJ {x:In} {Zdm:List Out} {note:Int} (h:ZKP ([x],Zdm,note)) (hs:Vi Zdm≤1125899906842624):Zdw fuel ([x],Zdm,note)=some true:=by
 obtain ⟨h1,h2,h3,h4,h5,h6⟩:=h
 dsimp only at h3 h4 h5 h6
 have hx:=h5 x (yat.2 rfl)
 unfold Zdw
 dsimp only
 rw [if_neg (by simp),if_neg (by simp),if_neg (by rw [decide_eq_true_iff];omega),if_neg (by rw [decide_eq_true_iff];omega)]
 obtain ⟨y,g1,m,rfl⟩:=YL (step:=Zam fuel) 1 (fun k s=>∃m,s=([x],(1:Int),(k:Int),([x],Zdm,note),m)∧(k=0→m=[])) (fun y=>∃m,y=.inr (([x],Zdm,note),m)) (i:=([x],(([x]:List In).length:Int),(0:Int),([x],Zdm,note),([]:List (XQ×Bool)))) ⟨_,rfl,fun _=>rfl⟩ (by omega) (by
  rintro k _ hk ⟨m,rfl,hm⟩
  left
  have e:k=0:=by omega
  subst e
  rw [hm rfl]
  unfold Zam
  dsimp only
  have e1:Zv7 ([]:List (XQ×Bool)) x.1=none:=rfl
  rw [if_pos (decide_eq_true (by omega)),ZD (show ([x]:List In)[0]? =some x from rfl),yb,e1]
  unfold ZB1
  dsimp only
  rw [if_neg (by rw [decide_eq_true_iff];have:=hx.1;omega),if_neg (by rw [decide_eq_true_iff];have:=hx.2.1;omega),ZBz hx,yb,if_neg (by decide)]
  exact ⟨_,rfl,_,rfl,fun h=>by omega⟩) (by
  rintro _ ⟨m,rfl,hm⟩
  unfold Zam
  dsimp only
  rw [if_neg (by rw [decide_eq_true_iff];omega)]
  exact ⟨_,rfl,_,rfl⟩)
 rw [g1,yb]
 dsimp only
 rw [show ((0:Int),Zdm,(Zdm.length:Int),(0:Int),([x],Zdm,note),m)=(fun k:Nat=>(Vi (Zdm.take k),Zdm,(Zdm.length:Int),(k:Int),([x],Zdm,note),m)) 0 from rfl,
  Z3 (x:=.inr (([x],Zdm,note),m)) Zdm.length (fun k:Nat=>(Vi (Zdm.take k),Zdm,(Zdm.length:Int),(k:Int),([x],Zdm,note),m)) ?_ ?_ (by omega),yb]
 ·intro k hk
  obtain ⟨e,he,hm⟩:=Zq hk
  obtain ⟨o1,o2,o3,o4⟩:=h6 e hm
  have hk1:=ZCL h6 k
  have hk2:=ZCL h6 (k+1)
  rw [Zo9 he] at hk2
  unfold Zdi
  dsimp only
  rw [if_pos (YY hk),ZD he,yb,ZCM hk1.1 o1 (by omega),yb,Zbk o3 o4,yb,ZE (by omega),Zo9 he]
  rfl
 ·unfold Zdi
  dsimp only
  rw [if_neg (by rw [Yo];decide)]
end Go.Proofs.YtmkgbalfkhaflaaGreat
end
section
set_option maxRecDepth 4000
namespace Go.Proofs.YtmkgbalfkhaflaaGreat
open Go Go.Ev
def Tm (d:Int):VF:=(100,200,d,16,1,1125899906842624)
noncomputable def Yb (k:Kit):WC:=(B k.1.toNat,B k.2.1.toNat,B k.2.2.1.toNat,B k.2.2.2.1.toNat,B k.2.2.2.2.1.toNat)
def KitOk (k:Kit):Prop:=Key k.1∧Key k.2.1∧Key k.2.2.1∧Key k.2.2.2.1∧Key k.2.2.2.2.1
def z32:List UInt8:=[0,0,0,0,0,0,0,0,0,0,0,0,0,0,0,0,0,0,0,0,0,0,0,0,0,0,0,0,0,0,0,0]
noncomputable def Yc (A:Int) (k0 k1:Kit) (op:Int):Z6:=((z32,0),A,[Yb k0,Yb k1],[Tm 5,Tm 6],op)
structure ChOk (A:Int) (k0 k1:Kit) (op:Int):Prop where
 lo:20000≤A
 hi:A≤4300000000
 o:op=0∨op=1
 k0:KitOk k0
 k1:KitOk k1
theorem ZGK {k:UInt64} (h:Key k):B k.toNat≠1:=ZK1 h.1 h.2
theorem ZJ0 {k:UInt64} (h:Key k):Vt fuel (B k.toNat)=some true:=by
 unfold Vt
 rw [Zo7,yb,if_pos (decide_eq_true (ZJY _))]
 exact congrArg some (bne_iff_ne.2 (ZGK h))
theorem Zmm {k:Kit} (h:KitOk k):∀p,p∈[(Yb k).1,(Yb k).2.1,(Yb k).2.2.1,(Yb k).2.2.2.1,(Yb k).2.2.2.2]→∃x:UInt64,Key x∧p=B x.toNat:=by
 obtain ⟨h1,h2,h3,h4,h5⟩:=h
 intro p hp
 simp only [yby,List.not_mem_nil,or_false] at hp
 rcases hp with rfl|rfl|rfl|rfl|rfl
 ·exact ⟨_,h1,rfl⟩
 ·exact ⟨_,h2,rfl⟩
 ·exact ⟨_,h3,rfl⟩
 ·exact ⟨_,h4,rfl⟩
 ·exact ⟨_,h5,rfl⟩
theorem rin {z a b:Int} (h1:a≤z) (h2:z≤b):ZJ fuel z a b=some true:=by
 unfold ZJ
 rw [if_pos (decide_eq_true h1),decide_eq_true h2]
theorem ZzV {z a b:Int} (h1:a≤z) (h2:z≤b):ZX fuel z a b=some true:=by
 unfold ZX
 rw [if_pos (decide_eq_true h1),decide_eq_true h2]
theorem ZGL {d:Int} (h1:1≤d) (h2:d≤4096):Wx fuel (Tm d)=some true:=by
 unfold Wx Tm
 dsimp only
 rw [rin (by omega) (by omega),yb,if_pos rfl,rin (by omega) (by omega),yb,if_pos rfl,rin h1 h2,yb,if_pos rfl,rin (by omega) (by omega),yb,if_pos rfl,rin (by omega) (by omega),yb,if_pos rfl,rin (by omega) (by omega)]
 rfl
theorem ZvG (i:Int) (ch:Z6) (b:WC) {l:List UInt64} (hl:l.length=5) (h:∀p,p∈l→∃x:UInt64,Key x∧p=B x.toNat):Zc (Xp fuel) fuel (i,l,(0:Int),ch,b)=some (.inr (i,ch,b)):=by
 refine Z3 5 (fun k:Nat=>(i,l,(k:Int),ch,b)) ?_ ?_ (by omega)
 ·intro k hk
  obtain ⟨e,he,hm⟩:=Zq (l:=l) (k:=k) (by omega)
  obtain ⟨x,hx,rfl⟩:=h e hm
  unfold Xp
  dsimp only
  rw [if_pos (decide_eq_true (by omega)),ZD he,yb,ZJ0 hx,yb,if_neg (by decide),ZE (by omega)]
 ·unfold Xp
  dsimp only
  rw [if_neg (by rw [decide_eq_true_iff];omega)]
theorem ZK3 {A:Int} {k0 k1:Kit} {op:Int} (h:ChOk A k0 k1 op):Vu fuel (Yc A k0 k1 op)=some 0:=by
 obtain ⟨h1,h2,h3,h4,h5⟩:=h
 have hA:(Yc A k0 k1 op).2.1=A:=rfl
 have hN:(Yc A k0 k1 op).1.2=0:=rfl
 have hO:(Yc A k0 k1 op).2.2.2.2=op:=rfl
 have hT:(Yc A k0 k1 op).2.2.2.1=[Tm 5,Tm 6]:=rfl
 have hB:(Yc A k0 k1 op).2.2.1=[Yb k0,Yb k1]:=rfl
 unfold Vu
 rw [hA,hN,hO,rin (by omega) (by omega),yb,if_neg (by decide),rin (by omega) (by omega),yb,if_neg (by decide),rin (by omega) (by omega),yb,if_neg (by decide)]
 generalize hc:Yc A k0 k1 op=c at*
 rw [show ((0:Int),c)=(fun k:Nat=>((k:Int),c)) 0 from rfl,Z3 (x:=.inr c) 2 (fun k:Nat=>((k:Int),c)) ?_ ?_ (by omega),yb]
 ·dsimp only
  rw [hT]
  show (if decide (wi (200+200) > c.2.1)=true then some (10:Int) else some 0)=some 0
  rw [hA,Zy (by omega) (by omega),if_neg (by rw [decide_eq_true_iff];omega)]
 ·intro k hk
  unfold Wm
  dsimp only
  rw [if_pos (decide_eq_true (by omega)),if_pos (YP (by omega) (by omega)),ybq,hB,hT]
  match k,hk with
  |0,_=>
   show (ybm (some (Yb k0)) _)=_
   rw [yb,if_pos (by decide)]
   show (ybm (some (Tm 5)) _)=_
   rw [yb,ZGL (by omega) (by omega),yb,if_neg (by decide),ZvG _ _ _ rfl (Zmm h4),yb]
   rfl
  |1,_=>
   show (ybm (some (Yb k1)) _)=_
   rw [yb,if_pos (by decide)]
   show (ybm (some (Tm 6)) _)=_
   rw [yb,ZGL (by omega) (by omega),yb,if_neg (by decide),ZvG _ _ _ rfl (Zmm h5),yb]
   rfl
 ·unfold Wm
  dsimp only
  rw [if_neg (by rw [decide_eq_true_iff];omega)]
def CondIn (c:ZS):Prop:=(c.1=0∨c.1=1)∧1≤c.2.1∧c.2.1≤1048576∧1≤c.2.2.1∧c.2.2.1≤65536∧Zad c.2.2.2.1.toNat∧c.2.2.2.1≠1∧1≤c.2.2.2.2∧c.2.2.2.2≤65536
def Ahd (a b:ZS):Prop:=a.1 < b.1∨a.1=b.1∧a.2.1 < b.2.1
instance (a b:ZS):Decidable (Ahd a b):=by unfold Ahd;infer_instance
theorem ZEd {a b c:ZS} (h:Ahd a b) (k:Ahd b c):Ahd a c:=by unfold Ahd at*;omega
theorem ZJ1 {a b:ZS} (h:a.2.1≠b.2.1) (k:¬Ahd a b):Ahd b a:=by unfold Ahd at*;omega
theorem ZvH (a b:ZS):XE fuel a b=some (decide (Ahd a b)):=by
 unfold XE
 by_cases h1:a.1 < b.1
 ·rw [if_pos (decide_eq_true h1),decide_eq_true (p:=Ahd a b) (Or.inl h1)]
 ·rw [if_neg (by rw [decide_eq_true_iff];exact h1)]
  by_cases h2:a.1=b.1
  ·rw [if_pos (by rw [h2];exact beq_self_eq_true _)]
   congr 1
   rw [decide_eq_decide]
   unfold Ahd
   omega
  ·rw [if_neg (by rw [beq_iff_eq];exact h2),decide_eq_false (p:=Ahd a b) (by unfold Ahd;omega)]
theorem ZIG {c:ZS} (h:CondIn c):XU fuel c=some true:=by
 obtain ⟨h1,h2,h3,h4,h5,h6,h7,h8,h9⟩:=h
 unfold XU
 rw [Zo7,yb,if_pos (decide_eq_true h6),if_pos (bne_iff_ne.2 h7),ZzV (by omega) (by omega),yb,if_pos rfl,ZzV h2 h3,yb,if_pos rfl,ZzV h4 (by omega),yb,if_pos rfl,ZzV h8 (by omega)]
 rfl
def amtC (l:List ZS):Int:=(l.map (·.2.2.1)).sum
theorem ZvI {l:List ZS} {k:Nat} {e:ZS} (h:l[k]? =some e):amtC (l.take (k+1))=amtC (l.take k)+e.2.2.1:=by
 unfold amtC
 rw [Zhg h,yan,List.sum_append]
 simp
theorem Zky {l:List ZS} (h:∀c,c∈l→CondIn c):0≤amtC l∧amtC l≤65536*(l.length:Int):=by
 induction l with
 |nil=>exact ⟨Int.le_refl _,Int.le_refl _⟩
 |cons c r ih=>
  obtain ⟨h1,h2⟩:=ih fun x hx=>h x (yar _ hx)
  have hc:=h c (yao ..)
  have e:amtC (c::r)=c.2.2.1+amtC r:=rfl
  rw [e,yz]
  have:=hc.2.2.2.1
  have:=hc.2.2.2.2.1
  omega
theorem ZtJ {l:List ZS} (h:∀c,c∈l→CondIn c) (k:Nat):0≤amtC (l.take k)∧amtC (l.take k)≤65536*(l.length:Int):=by
 have h1:=Zky (l:=l.take k) fun c hc=>h c (ybp hc)
 rw [yab] at h1
 omega
structure StIn (A:Int) (s:State) (h0 h1:Int):Prop where
 n0:0≤s.1
 n1:s.1≤65535
 hv:s.2.1=[h0,h1]
 p0:0≤h0
 p1:0≤h1
 r0:0≤s.2.2.2
 r1:s.2.2.2≤7
 len:s.2.2.1.length≤16
 cs:∀c,c∈s.2.2.1→CondIn c
 srt:s.2.2.1.Pairwise Ahd
 tot:h0+h1+amtC s.2.2.1=A
def cost (r:Int) (n:Nat):Int:=r*(68+8*(n:Int))+660
theorem ZxX {r m:Int} (h0:0≤r) (h1:r≤7) (h2:0≤m):0≤r*m∧r*m≤7*m:=⟨Int.mul_nonneg h0 h2,Int.mul_le_mul_of_nonneg_right h1 h2⟩
theorem Zq1 {r:Int} {n:Nat} (h0:0≤r) (h1:r≤7) (h2:n≤16):660≤cost r n∧cost r n≤2032:=by
 have:=ZxX (m:=68+8*(n:Int)) h0 h1 (by omega)
 unfold cost
 omega
theorem ZKQ {r:Int} {n:Nat} (h0:0≤r) (h1:r≤7) (h2:n≤16):Vv fuel r (n:Int)=some (r*(68+8*(n:Int))):=by
 have:=ZxX (m:=68+8*(n:Int)) h0 h1 (by omega)
 unfold Vv
 rw [rin h0 (by omega),yb,if_neg (by decide)]
 unfold VX
 rw [rin (by omega) (by omega),yb,if_neg (by decide),yb,Zy (z:=4+(n:Int)) (by omega) (by omega),Zy (z:=(4+(n:Int))*8) (by omega) (by omega),Zy (z:=36+(4+(n:Int))*8) (by omega) (by omega),show 36+(4+(n:Int))*8=68+8*(n:Int) by omega,Zy (by omega) (by omega)]
theorem ZKR {A:Int} {s:State} {h0 h1:Int} (h:StIn A s h0 h1) (ch:Z6):Yz fuel ch s=some (cost s.2.2.2 s.2.2.1.length):=by
 have:=Zq1 h.r0 h.r1 h.len
 unfold Yz
 unfold cost at*
 rw [ZKQ h.r0 h.r1 h.len,yb,Zy (by omega) (by omega)]
theorem ZJ2 {A:Int} {s:State} {h0 h1:Int} (h:StIn A s h0 h1) (hA:A≤4300000000):Wy fuel s=some A:=by
 obtain ⟨no,hv,l,r⟩:=s
 obtain ⟨_,_,hh,p0,p1,_,_,hl,hc,_,ht⟩:=h
 dsimp only at hh hl hc ht
 subst hh
 unfold Wy
 show ybm (some h0) _=_
 rw [yb]
 show ybm (some h1) _=_
 have hb:=fun k=>ZtJ hc k
 have hb':=Zky hc
 rw [yb,Zy (z:=h0+h1) (by omega) (by omega),show (h0+h1,(0:Int),(no,[h0,h1],l,r))=(fun k:Nat=>(h0+h1+amtC (l.take k),(k:Int),(no,[h0,h1],l,r))) 0 by simp [amtC],
  Z3 (x:=(A,(no,[h0,h1],l,r))) l.length (fun k:Nat=>(h0+h1+amtC (l.take k),(k:Int),(no,[h0,h1],l,r))) ?_ ?_ (by omega),yb]
 ·intro k hk
  obtain ⟨e,he,hm⟩:=Zq hk
  have h1:=hb k
  have h2:=hb (k+1)
  have h3:=ZvI he
  unfold XH
  dsimp only
  rw [if_pos (YY hk),ZD he,yb,Zy (by omega) (by omega),ZE (by omega),h3,Int.add_assoc]
 ·unfold XH
  dsimp only
  rw [if_neg (by rw [Yo];decide),ybo,ht]
theorem ZKS {A:Int} {s:State} {h0 h1:Int} (h:StIn A s h0 h1) {to:Int} (ht:to=0∨to=1):∃n m,Xd fuel s to=some (n,m)∧0≤n∧n≤16∧0≤m∧m≤2000000:=by
 obtain ⟨no,hv,l,r⟩:=s
 have hl:=h.len
 have hc:=h.cs
 dsimp only at hl hc
 unfold Xd
 obtain ⟨x,g1,n,m,rfl,g2⟩:=YL (step:=Yt fuel) l.length (fun k q=>∃n m,q=(to,n,m,(k:Int),(no,hv,l,r))∧0≤n∧n≤(k:Int)∧0≤m∧m≤65536*(k:Int)) (fun x=>∃n m,x=(n,m,(no,hv,l,r))∧0≤n∧n≤16∧0≤m∧m≤2000000) (i:=(to,(0:Int),(0:Int),(0:Int),(no,hv,l,r))) ⟨0,0,rfl,by omega⟩ (by omega) (by
  rintro k _ hk ⟨n,m,rfl,q⟩
  left
  obtain ⟨e,he,hm⟩:=Zq hk
  have h4:=(hc e hm).2.2.2.1
  have h5:=(hc e hm).2.2.2.2.1
  unfold Yt
  dsimp only
  rw [if_pos (YY hk),ZD he,yb,ZE (by omega)]
  split
  ·rw [yb,Zy (z:=n+1) (by omega) (by omega),Zy (z:=m+e.2.2.1) (by omega) (by omega)]
   exact ⟨_,rfl,_,_,rfl,by omega⟩
  ·exact ⟨_,rfl,_,_,rfl,by omega⟩) (by
  rintro _ ⟨n,m,rfl,q⟩
  unfold Yt
  dsimp only
  rw [if_neg (by rw [Yo];decide)]
  exact ⟨_,rfl,_,_,rfl,by omega⟩)
 rw [g1,yb]
 exact ⟨_,_,rfl,g2⟩
def hav (op h0 h1:Int):Int:=if op=0 then h0 else h1
theorem ZBA {i:Int} (h:i=0∨i=1):∃d,([Tm 5,Tm 6]:List VF)[(wi (1 - i)).toNat]? =some (Tm d):=by
 rcases h with rfl|rfl
 ·exact ⟨6,rfl⟩
 ·exact ⟨5,rfl⟩
theorem Zn5 {i:Int} (h:i=0∨i=1):inB (wi (1 - i)) 2=true:=by
 rcases h with rfl|rfl <;> rfl
theorem XF {i:Int} (h:i=0∨i=1):inB i 2=true:=by
 rcases h with rfl|rfl <;> rfl
theorem ZaA {op h0 h1:Int} (h:op=0∨op=1):([h0,h1]:List Int)[op.toNat]? =some (hav op h0 h1):=by
 rcases h with rfl|rfl <;> rfl
theorem ZvJ {A:Int} {k0 k1:Kit} {op:Int} (h:ChOk A k0 k1 op) {s:State} {h0 h1:Int} (hs:StIn A s h0 h1):Y4 fuel (Yc A k0 k1 op) s=some (decide (hav op h0 h1 ≥ cost s.2.2.2 s.2.2.1.length)):=by
 have hT:(Yc A k0 k1 op).2.2.2.1=[Tm 5,Tm 6]:=rfl
 have hA:(Yc A k0 k1 op).2.1=A:=rfl
 have hO:(Yc A k0 k1 op).2.2.2.2=op:=rfl
 have hlo:=h.lo
 have hhi:=h.hi
 have hco:=ZKR hs (Yc A k0 k1 op)
 have hto:=ZJ2 hs h.hi
 have hof:=fun to ht=>ZKS hs (to:=to) ht
 have hb:=Zky hs.cs
 unfold Y4
 rw [ZK3 h,yb,if_neg (by decide)]
 generalize hc:Yc A k0 k1 op=c at*
 obtain ⟨no,hv,l,r⟩:=s
 obtain ⟨n0,n1,hh,p0,p1,r0,r1,hl,hcs,hsr,ht⟩:=hs
 dsimp only at n0 n1 hh p0 p1 r0 r1 hl hcs hsr ht hb
 subst hh
 dsimp only
 rw [ZzV n0 (by omega),yb,if_neg (by decide)]
 show ybm (some h0) _=_
 rw [yb,ZzV p0 (by omega),yb,if_neg (by decide)]
 show ybm (some h1) _=_
 rw [yb,ZzV p1 (by omega),yb,if_neg (by decide),ZzV r0 (by omega),yb,if_neg (by decide),if_neg (by rw [decide_eq_true_iff];omega)]
 rw [show ((0:Int),c,(no,[h0,h1],l,r))=(fun k:Nat=>((k:Int),c,(no,[h0,h1],l,r))) 0 from rfl,Z3 (x:=.inr (c,(no,[h0,h1],l,r))) l.length (fun k:Nat=>((k:Int),c,(no,[h0,h1],l,r))) ?_ ?_ (by omega),yb]
 ·dsimp only
  rw [show ((0:Int),c,(no,[h0,h1],l,r))=(fun k:Nat=>((k:Int),c,(no,[h0,h1],l,r))) 0 from rfl,Z3 (x:=.inr (c,(no,[h0,h1],l,r))) 2 (fun k:Nat=>((k:Int),c,(no,[h0,h1],l,r))) ?_ ?_ (by omega),yb]
  ·dsimp only
   rw [hto,yb,hA,if_pos (beq_self_eq_true _),hO,if_pos (XF h.o),ZaA h.o,yb,hco,yb]
  ·intro k hk
   obtain ⟨n,m,e1,e2,e3,e4,e5⟩:=hof (k:Int) (by omega)
   have ht:∃d,c.2.2.2.1[k]? =some (Tm d):=by
    rw [hT]
    match k,hk with
    |0,_=>exact ⟨_,rfl⟩
    |1,_=>exact ⟨_,rfl⟩
   obtain ⟨d,hd⟩:=ht
   unfold XJ
   dsimp only
   rw [if_pos (decide_eq_true (by omega)),e1,yb,if_pos (YP (by omega) (by omega)),ybq,hd,yb,yb,ZE (by omega)]
   rw [if_neg (by rw [decide_eq_true_iff];show ¬n > 16;omega),if_pos (YP (by omega) (by omega)),if_neg (by rw [decide_eq_true_iff];show ¬m > 1125899906842624;omega)]
  ·unfold XJ
   dsimp only
   rw [if_neg (by rw [decide_eq_true_iff];omega)]
 ·intro k hk
  obtain ⟨e,he,hm⟩:=Zq hk
  obtain ⟨d,hd⟩:=ZBA (hcs e hm).1
  have h4:=(hcs e hm).2.2.2.1
  have hlt:¬(e.2.2.1 < (Tm d).2.2.2.2.1):=by show ¬(e.2.2.1 < 1);omega
  unfold XI
  dsimp only
  rw [if_pos (YY hk),ZD he,yb,ZIG (hcs e hm),yb,if_neg (by decide)]
  have tail:((some e).bind fun e169=>(some e).bind fun e170=>if (inB (wi (1 - e170.1)) 2)=true then (c.2.2.2.1[(wi (1 - e170.1)).toNat]?).bind fun e171=>if (decide (e169.2.2.1 < e171.2.2.2.2.1))=true then some (.inr (.inl (false,c,(no,[h0,h1],l,r)))) else some (.inl (wi ((k:Int)+1),c,(no,[h0,h1],l,r))) else none)=some (.inl (((k+1:Nat):Int),c,(no,[h0,h1],l,r)):(Int×Z6×State)⊕((Bool×Z6×State)⊕(Z6×State))):=by
   rw [yb,yb,if_pos (Zn5 (hcs e hm).1),hT,hd,yb,if_neg (by rw [decide_eq_true_iff];exact hlt),ZE (by omega)]
  by_cases h0:k=0
  ·subst h0
   rw [if_neg (by rw [decide_eq_true_iff];omega)]
   exact tail
  ·obtain ⟨f,hf,hfm⟩:=Zq (l:=l) (k:=k - 1) (by omega)
   have hah:Ahd f e:=by
    have h7:=List.pairwise_iff_getElem.1 hsr (k - 1) k (by omega) hk (by omega)
    rw [yw (by omega)] at hf he
    cases hf
    cases he
    exact h7
   rw [if_pos (decide_eq_true (by omega)),Zy (z:=(k:Int) - 1) (by omega) (by omega),show (k:Int) - 1=((k - 1:Nat):Int) by omega,ZD hf,yb,yb,ZvH,yb,decide_eq_true hah,if_neg (by decide)]
   exact tail
 ·unfold XI
  dsimp only
  rw [if_neg (by rw [Yo];decide)]
end Go.Proofs.YtmkgbalfkhaflaaGreat
end
section
set_option maxRecDepth 4000
namespace Go.Proofs.YtmkgbalfkhaflaaGreat
open Go Go.Ev
theorem ZvK {lo hi:Int} {l:List Int} (hl:l.length≤100) (h:∀x,x∈l→lo≤x∧x≤hi):Yp fuel lo hi l=some true:=by
 unfold Yp Xw XZ
 rw [show (l,(l.length:Int),(0:Int),lo,hi)=(fun k:Nat=>(l,(l.length:Int),(k:Int),lo,hi)) 0 from rfl,Z3 (x:=.inr (lo,hi)) l.length (fun k:Nat=>(l,(l.length:Int),(k:Int),lo,hi)) ?_ ?_ (by omega),yb]
 ·rfl
 ·intro k hk
  obtain ⟨e,he,hm⟩:=Zq hk
  have:=h e hm
  unfold Yu Zck
  dsimp only
  rw [if_pos (YY hk),ZD he,yb,if_neg (by rw [decide_eq_true_iff];omega),yb,decide_eq_false (by omega),if_neg (by simp),ZE (by omega)]
 ·unfold Yu
  dsimp only
  rw [if_neg (by rw [Yo];decide)]
theorem w1 {lo hi z:Int} (h1:lo≤z) (h2:z≤hi):Yp fuel lo hi [z]=some true:=ZvK (by simp) fun x hx=>by rw [yat.1 hx];exact ⟨h1,h2⟩
theorem tin {z a b:Int} (h1:a≤z) (h2:z≤b):YS fuel z a b=some true:=by
 unfold YS
 rw [if_pos (decide_eq_true h1),decide_eq_true h2]
theorem ZGM {d:Int} (h1:1≤d) (h2:d≤4096):Zc8 fuel (Tm d)=some true:=by
 unfold Zc8 Tm
 dsimp only
 rw [tin (by omega) (by omega),yb,if_pos rfl,tin h1 h2,yb,if_pos rfl,tin (by omega) (by omega),yb,if_pos rfl,tin (by omega) (by omega),yb,if_pos rfl,tin (by omega) (by omega),yb,if_pos rfl,tin (by omega) (by omega)]
 rfl
theorem ZCN {k:Kit} (h:KitOk k):Zbr fuel (Yb k)=some true:=by
 unfold Zbr Zfm Zaf
 have hb:=Zmm h
 generalize hl:([(Yb k).1,(Yb k).2.1,(Yb k).2.2.1,(Yb k).2.2.2.1,(Yb k).2.2.2.2]:List UInt64)=l at*
 have h5:l.length=5:=by rw [←hl];rfl
 rw [show (l,(l.length:Int),(0:Int))=(fun k:Nat=>(l,(l.length:Int),(k:Int))) 0 from rfl,Z3 (x:=.inr ()) l.length (fun k:Nat=>(l,(l.length:Int),(k:Int))) ?_ ?_ (by omega),yb]
 ·rfl
 ·intro k hk
  obtain ⟨e,he,hm⟩:=Zq hk
  obtain ⟨x,hx,rfl⟩:=hb e hm
  unfold Wa Zcj
  dsimp only
  rw [if_pos (YY hk),ZD he,yb,if_neg (by rw [beq_iff_eq];exact ZGK hx),Zn3,yb,decide_eq_true (ZJY _),yb,ZE (by omega)]
  rfl
 ·unfold Wa
  dsimp only
  rw [if_neg (by rw [Yo];decide)]
theorem ZK4 {A:Int} {k0 k1:Kit} {op:Int} (h:ChOk A k0 k1 op):ZgS fuel (Yc A k0 k1 op)=some 0:=by
 obtain ⟨h1,h2,h3,h4,h5⟩:=h
 have hA:(Yc A k0 k1 op).2.1=A:=rfl
 have hN:(Yc A k0 k1 op).1.2=0:=rfl
 have hO:(Yc A k0 k1 op).2.2.2.2=op:=rfl
 have hT:(Yc A k0 k1 op).2.2.2.1=[Tm 5,Tm 6]:=rfl
 have hB:(Yc A k0 k1 op).2.2.1=[Yb k0,Yb k1]:=rfl
 unfold ZgS
 rw [hA,hN,hO,if_neg (by rw [decide_eq_true_iff];omega),if_neg (by rw [decide_eq_true_iff];omega),if_neg (by decide),if_neg (by decide),if_neg (by rcases h3 with rfl|rfl <;> decide)]
 generalize hc:Yc A k0 k1 op=c at*
 rw [hT,show (([Tm 5,Tm 6]:List VF),(0:Int),c)=(fun k:Nat=>(([Tm 5,Tm 6]:List VF),(k:Int),c)) 0 from rfl,Z3 (x:=.inr c) 2 (fun k:Nat=>(([Tm 5,Tm 6]:List VF),(k:Int),c)) ?_ ?_ (by omega),yb]
 ·dsimp only
  rw [hT]
  rw [show ([Tm 5,Tm 6]:List VF)[0]? =some (Tm 5) from rfl,yb,show ([Tm 5,Tm 6]:List VF)[1]? =some (Tm 6) from rfl,yb]
  show (ybm (Zf2 fuel 200 200) _)=some 0
  rw [ZCM (by omega) (by omega) (by omega),yb,if_neg (by decide),hA,if_neg (by rw [decide_eq_true_iff];show ¬(200+200 > A);omega)]
 ·intro k hk
  unfold Zbs
  dsimp only
  rw [if_pos (decide_eq_true (by omega)),hB]
  match k,hk with
  |0,_=>
   rw [ZgN (i:=((0:Nat):Int)) (y:=Tm 5) (by omega) rfl,yb,ZGM (by omega) (by omega),yb,if_neg (by decide),if_pos (by decide)]
   show (ybm (some (Yb k0)) _)=_
   rw [yb,ZCN h4,yb,if_neg (by decide)]
   rfl
  |1,_=>
   rw [ZgN (i:=((1:Nat):Int)) (y:=Tm 6) (by omega) rfl,yb,ZGM (by omega) (by omega),yb,if_neg (by decide),if_pos (by decide)]
   show (ybm (some (Yb k1)) _)=_
   rw [yb,ZCN h5,yb,if_neg (by decide)]
   rfl
 ·unfold Zbs
  dsimp only
  rw [if_neg (by rw [decide_eq_true_iff];omega)]
theorem ZKT {c:ZS} (h:CondIn c):ZeY fuel c=some true:=by
 obtain ⟨h1,h2,h3,h4,h5,h6,h7,h8,h9⟩:=h
 unfold ZeY
 rw [w1 (by omega) (by omega),yb,if_pos rfl,w1 h2 h3,yb,if_pos rfl,w1 h4 (by omega),yb,if_pos rfl,w1 h8 (by omega),yb,if_pos rfl,Zn3,yb,if_pos (decide_eq_true h6)]
 exact congrArg some (bne_iff_ne.2 h7)
theorem ZtK (a b:Int):WF fuel a b=some (if a < b then -1 else if a > b then 1 else 0):=by
 unfold WF Zag
 rw [yb,yb]
 have e:∀z:Int,(z !=z)=false:=fun z=>by simp
 rw [e,e,if_neg (by decide),if_neg (by decide)]
 by_cases h1:a < b
 ·rw [if_pos (decide_eq_true h1),if_pos h1]
 ·rw [if_neg (by rw [decide_eq_true_iff];exact h1),if_neg h1]
  by_cases h2:a > b
  ·rw [if_pos (decide_eq_true h2),if_pos h2]
  ·rw [if_neg (by rw [decide_eq_true_iff];exact h2),if_neg h2]
def orL:List Int→Int
 |[]=>0
 |z::r=>if z≠0 then z else orL r
theorem ZKU {l:List Int} (hl:l.length≤100):ZeZ fuel l=some (orL l):=by
 have key:∀(d k f:Nat),k+d=l.length→d < f→∃x,Zc (WE fuel) f ((0:Int),l,(l.length:Int),(k:Int))=some x∧(x=.inl (orL (l.drop k))∨x=.inr 0∧orL (l.drop k)=0):=by
  intro d
  induction d with
  |zero=>
   intro k f h hf
   obtain ⟨f,rfl⟩:=Nat.exists_eq_succ_of_ne_zero (n:=f) (by omega)
   have:k=l.length:=by omega
   subst this
   unfold Zc WE
   dsimp only
   rw [if_neg (by rw [Yo];decide),yb]
   exact ⟨_,rfl,.inr ⟨rfl,by rw [List.drop_length];rfl⟩⟩
  |succ d ih=>
   intro k f h hf
   obtain ⟨f,rfl⟩:=Nat.exists_eq_succ_of_ne_zero (n:=f) (by omega)
   have hk:k < l.length:=by omega
   obtain ⟨e,he,hm⟩:=Zq hk
   have hd:l.drop k=e::l.drop (k+1):=by
    rw [List.drop_eq_getElem_cons hk]
    rw [yw hk] at he
    cases he
    rfl
   rw [hd]
   unfold Zc WE
   dsimp only
   rw [if_pos (YY hk),ZD he,yb]
   by_cases h0:e=0
   ·subst h0
    rw [if_neg (by decide),yb,ZE (by omega)]
    exact ih (k+1) f (by omega) (by omega)
   ·rw [if_pos (bne_iff_ne.2 h0),yb]
    exact ⟨_,rfl,.inl (by unfold orL;rw [if_pos h0])⟩
 unfold ZeZ
 obtain ⟨x,h1,h2⟩:=key l.length 0 fuel (by omega) (by rw [Zbo];omega)
 rw [List.drop_zero] at h2
 show ybm (Zc (WE fuel) fuel ((0:Int),l,(l.length:Int),((0:Nat):Int))) _=_
 rw [h1,yb]
 rcases h2 with rfl|⟨rfl,h2⟩
 ·rfl
 ·rw [h2]
theorem ZJ3 {a b:ZS} (h:Ahd a b):∃z,Zdb fuel a b=some z∧z < 0:=by
 unfold Zdb
 rw [ZtK,yb,ZtK,yb,ZKU (by simp),yb]
 refine ⟨_,rfl, ?_⟩
 unfold Ahd at h
 have e2:∀x y:Int,orL [x,y]=if x≠0 then x else if y≠0 then y else 0:=fun _ _=>rfl
 rw [e2]
 by_cases h1:a.1 < b.1
 ·rw [if_pos h1,if_pos (by decide)]
  decide
 ·have e:a.1=b.1:=by omega
  rw [if_neg h1,if_neg (show ¬a.1 > b.1 by omega),if_neg (by decide),if_pos (show a.2.1 < b.2.1 by omega)]
  decide
theorem ZK5 {r:Int} {n:Nat} (h0:0≤r) (h1:r≤7) (h2:n≤16):ZgT fuel r (n:Int)=some (r*(68+8*(n:Int))):=by
 have:=ZxX (m:=68+8*(n:Int)) h0 h1 (by omega)
 unfold ZgT
 rw [if_neg (by rw [decide_eq_true_iff];omega),if_neg (by rw [decide_eq_true_iff];omega)]
 unfold Zfn
 rw [if_neg (by rw [decide_eq_true_iff];omega),if_neg (by rw [decide_eq_true_iff];omega),yb,Zy (z:=8*(n:Int)) (by omega) (by omega),Zy (z:=68+8*(n:Int)) (by omega) (by omega),Zy (by omega) (by omega)]
theorem ZKV {A:Int} {s:State} {h0 h1:Int} (h:StIn A s h0 h1) (ch:Z6):Ze1 fuel ch s=some (cost s.2.2.2 s.2.2.1.length):=by
 have:=Zq1 h.r0 h.r1 h.len
 unfold Ze1
 unfold cost at*
 rw [ZK5 h.r0 h.r1 h.len,yb,Zy (by omega) (by omega)]
theorem ZJ4 {A:Int} {s:State} {h0 h1:Int} (h:StIn A s h0 h1) (hA:A≤4300000000):Zdc fuel s=some A:=by
 obtain ⟨no,hv,l,r⟩:=s
 obtain ⟨_,_,hh,p0,p1,_,_,hl,hc,_,ht⟩:=h
 dsimp only at hh hl hc ht
 subst hh
 unfold Zdc
 show ybm (some h0) _=_
 rw [yb]
 show ybm (some h1) _=_
 have hb:=fun k=>ZtJ hc k
 have hb':=Zky hc
 dsimp only
 rw [yb,Zy (z:=h0+h1) (by omega) (by omega),show (h0+h1,l,(l.length:Int),(0:Int),(no,[h0,h1],l,r))=(fun k:Nat=>(h0+h1+amtC (l.take k),l,(l.length:Int),(k:Int),(no,[h0,h1],l,r))) 0 by simp [amtC],
  Z3 (x:=(A,(no,[h0,h1],l,r))) l.length (fun k:Nat=>(h0+h1+amtC (l.take k),l,(l.length:Int),(k:Int),(no,[h0,h1],l,r))) ?_ ?_ (by omega),yb]
 ·intro k hk
  obtain ⟨e,he,hm⟩:=Zq hk
  have h1:=hb k
  have h2:=hb (k+1)
  have h3:=ZvI he
  unfold Qo
  dsimp only
  rw [if_pos (YY hk),ZD he,yb,Zy (by omega) (by omega),ZE (by omega),h3,Int.add_assoc]
 ·unfold Qo
  dsimp only
  rw [if_neg (by rw [Yo];decide),ybo,ht]
theorem ZK6 {A:Int} {s:State} {h0 h1:Int} (h:StIn A s h0 h1) {to:Int} (ht:to=0∨to=1):∃n m,Zah fuel s to=some (n,m)∧0≤n∧n≤16∧0≤m∧m≤2000000:=by
 obtain ⟨no,hv,l,r⟩:=s
 have hl:=h.len
 have hc:=h.cs
 dsimp only at hl hc
 unfold Zah
 dsimp only
 obtain ⟨x,g1,n,m,rfl,g2⟩:=YL (step:=Wb fuel) l.length (fun k q=>∃n m,q=(to,n,m,l,(l.length:Int),(k:Int),(no,hv,l,r))∧0≤n∧n≤(k:Int)∧0≤m∧m≤65536*(k:Int)) (fun x=>∃n m,x=(n,m,(no,hv,l,r))∧0≤n∧n≤16∧0≤m∧m≤2000000) (i:=(to,(0:Int),(0:Int),l,(l.length:Int),(0:Int),(no,hv,l,r))) ⟨0,0,rfl,by omega⟩ (by omega) (by
  rintro k _ hk ⟨n,m,rfl,q⟩
  left
  obtain ⟨e,he,hm⟩:=Zq hk
  have h4:=(hc e hm).2.2.2.1
  have h5:=(hc e hm).2.2.2.2.1
  unfold Wb
  dsimp only
  rw [if_pos (YY hk),ZD he,yb,ZE (by omega)]
  split
  ·rw [Zy (z:=n+1) (by omega) (by omega),Zy (z:=m+e.2.2.1) (by omega) (by omega)]
   exact ⟨_,rfl,_,_,rfl,by omega⟩
  ·exact ⟨_,rfl,_,_,rfl,by omega⟩) (by
  rintro _ ⟨n,m,rfl,q⟩
  unfold Wb
  dsimp only
  rw [if_neg (by rw [Yo];decide)]
  exact ⟨_,rfl,_,_,rfl,by omega⟩)
 rw [g1,yb]
 exact ⟨_,_,rfl,g2⟩
theorem ZGN {A:Int} {k0 k1:Kit} {op:Int} (h:ChOk A k0 k1 op) {s:State} {h0 h1:Int} (hs:StIn A s h0 h1):V4 fuel (Yc A k0 k1 op) s=some (decide (hav op h0 h1 ≥ cost s.2.2.2 s.2.2.1.length)):=by
 have hT:(Yc A k0 k1 op).2.2.2.1=[Tm 5,Tm 6]:=rfl
 have hA:(Yc A k0 k1 op).2.1=A:=rfl
 have hO:(Yc A k0 k1 op).2.2.2.2=op:=rfl
 have hlo:=h.lo
 have hhi:=h.hi
 have hco:=ZKV hs (Yc A k0 k1 op)
 have hto:=ZJ4 hs h.hi
 have hof:=fun to ht=>ZK6 hs (to:=to) ht
 have hb:=Zky hs.cs
 unfold V4
 rw [ZK4 h,yb,if_neg (by decide)]
 generalize hc:Yc A k0 k1 op=c at*
 obtain ⟨no,hv,l,r⟩:=s
 obtain ⟨n0,n1,hh,p0,p1,r0,r1,hl,hcs,hsr,ht⟩:=hs
 dsimp only at n0 n1 hh p0 p1 r0 r1 hl hcs hsr ht hb
 subst hh
 dsimp only
 rw [w1 n0 (by omega),yb,if_neg (by decide)]
 show ybm (some h0) _=_
 rw [yb]
 show ybm (some h1) _=_
 rw [yb,ZvK (l:=[h0,h1]) (by simp) (by
  intro x hx
  simp only [yby,List.not_mem_nil,or_false] at hx
  rcases hx with rfl|rfl <;> omega),yb,if_neg (by decide),w1 r0 (by omega),yb,if_neg (by decide),if_neg (by rw [decide_eq_true_iff];omega)]
 rw [show (l,(l.length:Int),(0:Int),c,(no,[h0,h1],l,r))=(fun k:Nat=>(l,(l.length:Int),(k:Int),c,(no,[h0,h1],l,r))) 0 from rfl,Z3 (x:=.inr (c,(no,[h0,h1],l,r))) l.length (fun k:Nat=>(l,(l.length:Int),(k:Int),c,(no,[h0,h1],l,r))) ?_ ?_ (by omega),yb]
 ·dsimp only
  rw [show (c.2.2.2.1,(0:Int),c,(no,[h0,h1],l,r))=(fun k:Nat=>(c.2.2.2.1,(k:Int),c,(no,[h0,h1],l,r))) 0 from rfl,Z3 (x:=.inr (c,(no,[h0,h1],l,r))) 2 (fun k:Nat=>(c.2.2.2.1,(k:Int),c,(no,[h0,h1],l,r))) ?_ ?_ (by omega),yb]
  ·dsimp only
   rw [hto,yb,hA,if_pos (beq_self_eq_true _),hO,if_pos (XF h.o),ZaA h.o,yb,hco,yb]
  ·intro k hk
   obtain ⟨n,m,e1,e2,e3,e4,e5⟩:=hof (k:Int) (by omega)
   have ht:∃d,c.2.2.2.1[k]? =some (Tm d):=by
    rw [hT]
    match k,hk with
    |0,_=>exact ⟨_,rfl⟩
    |1,_=>exact ⟨_,rfl⟩
   obtain ⟨d,hd⟩:=ht
   unfold Qq
   dsimp only
   rw [if_pos (decide_eq_true (by omega)),ZD hd,yb,e1,yb,ZE (by omega)]
   rw [if_neg (by rw [decide_eq_true_iff];show ¬n > 16;omega),if_neg (by rw [decide_eq_true_iff];show ¬m > 1125899906842624;omega)]
  ·unfold Qq
   dsimp only
   rw [if_neg (by rw [decide_eq_true_iff];omega)]
 ·intro k hk
  obtain ⟨e,he,hm⟩:=Zq hk
  obtain ⟨d,hd⟩:=ZBA (hcs e hm).1
  have h4:=(hcs e hm).2.2.2.1
  have hlt:¬(e.2.2.1 < (Tm d).2.2.2.2.1):=by show ¬(e.2.2.1 < 1);omega
  unfold Qp
  dsimp only
  rw [if_pos (YY hk),ZD he,yb,ZKT (hcs e hm),yb,if_neg (by decide),if_pos (Zn5 (hcs e hm).1),hT,hd,yb,if_neg (by rw [decide_eq_true_iff];exact hlt),ZE (by omega)]
  by_cases h0:k=0
  ·subst h0
   rw [if_neg (by rw [decide_eq_true_iff];omega)]
  ·obtain ⟨f,hf,hfm⟩:=Zq (l:=l) (k:=k - 1) (by omega)
   have hah:Ahd f e:=by
    have h7:=List.pairwise_iff_getElem.1 hsr (k - 1) k (by omega) hk (by omega)
    rw [yw (by omega)] at hf he
    cases hf
    cases he
    exact h7
   obtain ⟨z,hz,hz0⟩:=ZJ3 hah
   rw [if_pos (decide_eq_true (by omega)),Zy (z:=(k:Int) - 1) (by omega) (by omega),show (k:Int) - 1=((k - 1:Nat):Int) by omega,ZD hf,yb,hz,yb,if_neg (by rw [decide_eq_true_iff];omega)]
 ·unfold Qp
  dsimp only
  rw [if_neg (by rw [Yo];decide)]
end Go.Proofs.YtmkgbalfkhaflaaGreat
end
section
set_option maxRecDepth 4000
namespace Go.Proofs.YtmkgbalfkhaflaaGreat
open Go Go.Ev
theorem ZfH {α:Type} {c:Prop} [Decidable c] {a b:Option α} {P:α→Prop} (h1:c→∃x,a=some x∧P x) (h2:¬c→∃x,b=some x∧P x):∃x,(if c then a else b)=some x∧P x:=by
 by_cases h:c
 ·rw [if_pos h];exact h1 h
 ·rw [if_neg h];exact h2 h
def ins (c:ZS):List ZS→List ZS
 |[]=>[c]
 |e::r=>if Ahd c e then c::e::r else e::ins c r
theorem Zq2 {c x:ZS}:∀{l:List ZS},x∈ins c l↔x=c∨x∈l
 |[]=>by simp [ins]
 |e::r=>by
  rw [ins]
  split
  ·simp
  ·rw [yby,Zq2 (l:=r),yby]
   constructor
   ·rintro (h|h|h) <;> simp [h]
   ·rintro (h|h|h) <;> simp [h]
theorem Zq3 {c:ZS}:∀{l:List ZS},(ins c l).length=l.length+1
 |[]=>rfl
 |e::r=>by
  rw [ins]
  split
  ·rfl
  ·rw [yz,Zq3 (l:=r),yz]
theorem ZvL (c:ZS) (l:List ZS):amtC (c::l)=c.2.2.1+amtC l:=rfl
theorem ZCO {c:ZS}:∀{l:List ZS},amtC (ins c l)=c.2.2.1+amtC l
 |[]=>rfl
 |e::r=>by
  rw [ins]
  split
  ·rfl
  ·rw [ZvL,ZCO (l:=r),ZvL]
   omega
theorem ZCP {c:ZS}:∀{l:List ZS},l.Pairwise Ahd→(∀e,e∈l→c.2.1≠e.2.1)→(ins c l).Pairwise Ahd
 |[],_,_=>by simp [ins]
 |e::r,h,hd=>by
  obtain ⟨h1,h2⟩:=List.pairwise_cons.1 h
  rw [ins]
  split
  ·rename_i ha
   refine List.pairwise_cons.2 ⟨?_,h⟩
   intro x hx
   rcases yby.1 hx with rfl|hx
   ·exact ha
   ·exact ZEd ha (h1 x hx)
  ·rename_i ha
   refine List.pairwise_cons.2 ⟨?_,ZCP h2 fun x hx=>hd x (yar _ hx)⟩
   intro x hx
   rcases Zq2.1 hx with rfl|hx
   ·exact ZJ1 (hd e (yao ..)) ha
   ·exact h1 x hx
theorem ZKW {s:State} {h0 h1:Int} (hv:s.2.1=[h0,h1]) (hl:s.2.2.1.length≤16) {c:ZS} (hc:CondIn c):W1 fuel s c=some (s.1,([h0,h1]:List Int).set c.1.toNat (wi (hav c.1 h0 h1 - c.2.2.1)),ins c s.2.2.1,s.2.2.2):=by
 obtain ⟨no,hh,l,r⟩:=s
 dsimp only at hv hl
 subst hv
 unfold W1
 dsimp only
 obtain ⟨x,g1,d,o,rfl,g2,g3,g4⟩:=YL (step:=Xe fuel) l.length (fun k q=>∃d o,q=(d,(k:Int),(no,[h0,h1],l,r),c,((0:Int),([0,0]:List Int),([]:List ZS),(0:Int)),no,[h0,h1],r,o)∧o.length≤2*k∧(d=true→ins c l=o++l.drop k)∧(d=false→ins c l=o++ins c (l.drop k)))
  (fun x=>∃d o,x=(d,(no,[h0,h1],l,r),c,((0:Int),([0,0]:List Int),([]:List ZS),(0:Int)),no,[h0,h1],r,o)∧o.length≤40∧(d=true→ins c l=o)∧(d=false→ins c l=o++[c]))
  (i:=(false,(0:Int),(no,[h0,h1],l,r),c,((0:Int),([0,0]:List Int),([]:List ZS),(0:Int)),no,[h0,h1],r,([]:List ZS))) ⟨_,_,rfl,by simp,(fun h=>by cases h),fun _=>rfl⟩ (by omega) (by
  rintro k _ hk ⟨d,o,rfl,q1,q2,q3⟩
  left
  obtain ⟨e,he,hm⟩:=Zq hk
  have hd:l.drop k=e::l.drop (k+1):=by
   rw [List.drop_eq_getElem_cons hk]
   rw [yw hk] at he
   cases he
   rfl
  rw [hd] at q2 q3
  unfold Xe
  dsimp only
  rw [if_pos (YY hk),ZD he,yb,ZE (by omega),ZvH]
  cases d with
  |false=>
   rw [if_pos (by decide),yb]
   have q3:=q3 rfl
   rw [ins] at q3
   by_cases ha:Ahd c e
   ·rw [if_pos (decide_eq_true ha),if_pos (Yy (by omega) (by omega)),yb,if_pos (Yy (by simp;omega) (by simp;omega))]
    rw [if_pos ha] at q3
    exact ⟨_,rfl,_,_,rfl,by simp;omega,(fun _=>by rw [q3];simp),fun h=>by cases h⟩
   ·rw [if_neg (by rw [decide_eq_true_iff];exact ha),yb,if_pos (Yy (by omega) (by omega))]
    rw [if_neg ha] at q3
    exact ⟨_,rfl,_,_,rfl,by simp;omega,fun h=>(by cases h),fun _=>by rw [q3];simp⟩
  |true=>
   have q2:=q2 rfl
   rw [if_neg (by decide),yb,if_pos (Yy (by omega) (by omega))]
   exact ⟨_,rfl,_,_,rfl,by simp;omega,(fun _=>by rw [q2];simp),fun h=>by cases h⟩) (by
  rintro _ ⟨d,o,rfl,q1,q2,q3⟩
  rw [List.drop_length] at q2 q3
  unfold Xe
  dsimp only
  rw [if_neg (by rw [Yo];decide)]
  exact ⟨_,rfl,_,_,rfl,by omega,(fun h=>by rw [q2 h,ybb]),fun h=>by rw [q3 h];rfl⟩)
 rw [g1,yb]
 dsimp only
 cases d with
 |true=>
  rw [if_neg (by decide),if_pos (XF hc.1),ZaA hc.1,yb,if_pos (XF hc.1),yb,g3 rfl]
 |false=>
  rw [if_pos (by decide),if_pos (Yy (by omega) (by omega)),if_pos (XF hc.1),ZaA hc.1,yb,if_pos (XF hc.1),yb,g4 rfl]
theorem ZJ5 {s:State} (hl:s.2.2.1.length≤16) (f i:Int):∃z,Wz fuel s f i=some z:=by
 obtain ⟨no,hh,l,r⟩:=s
 dsimp only at hl
 unfold Wz
 obtain ⟨x,g1,_⟩:=YL (step:=YZ fuel) l.length (fun k q=>q=(f,i,(k:Int),(no,hh,l,r))) (fun _=>True) (i:=(f,i,(0:Int),(no,hh,l,r))) rfl (by omega) (by
  rintro k _ hk rfl
  obtain ⟨e,he,hm⟩:=Zq hk
  unfold YZ
  dsimp only
  rw [if_pos (YY hk),ZD he,yb,yb,ZE (by omega)]
  split
  ·split
   ·right;exact ⟨_,rfl,trivial⟩
   ·left;exact ⟨_,rfl,rfl⟩
  ·left;exact ⟨_,rfl,rfl⟩) (by
  rintro _ rfl
  unfold YZ
  dsimp only
  rw [if_neg (by rw [Yo];decide)]
  exact ⟨_,rfl,trivial⟩)
 rw [g1,yb]
 cases x <;> exact ⟨_,rfl⟩
structure StOk (A op:Int) (s:State):Prop where
 ex:∃h0 h1,StIn A s h0 h1∧hav op h0 h1 ≥ cost s.2.2.2 s.2.2.1.length
theorem ZK7 {A:Int} {k0 k1:Kit} {op:Int} (h:ChOk A k0 k1 op) {s:State} (hs:StOk A op s) {c:ZS} (hc:CondIn c) (hd:∀e,e∈s.2.2.1→c.2.1≠e.2.1):
 ∃x,Vx fuel (Yc A k0 k1 op) s c=some x∧(x.2=0→StOk A op x.1∧x.1.2.2.1=ins c s.2.2.1∧x.1.1=s.1):=by
 obtain ⟨h0,h1,hs,ho⟩:=hs
 have hT:(Yc A k0 k1 op).2.2.2.1=[Tm 5,Tm 6]:=rfl
 have hO:(Yc A k0 k1 op).2.2.2.2=op:=rfl
 obtain ⟨d,hd1⟩:=ZBA hc.1
 obtain ⟨z,hz⟩:=ZJ5 hs.len c.1 c.2.1
 obtain ⟨n,m,e1,e2,e3,e4,e5⟩:=ZKS hs (to:=wi (1 - c.1)) (by rcases hc.1 with h|h <;> rw [h] <;> decide)
 have hlo:=h.lo
 have hhi:=h.hi
 have c4:=hc.2.2.2.1
 have c5:=hc.2.2.2.2.1
 have hb:=Zky hs.cs
 have hht:=hs.tot
 have p0:=hs.p0
 have p1:=hs.p1
 have hl:=hs.len
 unfold Vx
 rw [ZvJ h hs,yb,ZIG hc,yb,decide_eq_true ho,if_neg (by decide),if_neg (by decide),hz,yb]
 refine ZfH (fun _=>⟨_,rfl,fun h=>absurd h (by decide)⟩) fun _=> ?_
 rw [if_pos (Zn5 hc.1),hT,hd1,yb,e1,yb]
 refine ZfH (fun _=>⟨_,rfl,fun h=>absurd h (by decide)⟩) fun _=> ?_
 refine ZfH (fun _=>⟨_,rfl,fun h=>absurd h (by decide)⟩) fun h16=> ?_
 have h16:s.2.2.1.length≤15:=by
  rw [beq_iff_eq] at h16
  omega
 refine ZfH (fun _=>⟨_,rfl,fun h=>absurd h (by decide)⟩) fun _=> ?_
 dsimp only
 refine ZfH (fun _=>⟨_,rfl,fun h=>absurd h (by decide)⟩) fun _=> ?_
 have hav0:∀i:Int,0≤hav i h0 h1∧hav i h0 h1≤A:=by
  intro i
  unfold hav
  split <;> omega
 have hwi:wi (hav c.1 h0 h1 - c.2.2.1)=hav c.1 h0 h1 - c.2.2.1:=Zy (by have:=hav0 c.1;omega) (by have:=hav0 c.1;omega)
 rw [ZKW hs.hv hs.len hc,yb,hwi]
 obtain ⟨g0,g1,hg,hg2⟩:∃g0 g1:Int,([h0,h1]:List Int).set c.1.toNat (hav c.1 h0 h1 - c.2.2.1)=[g0,g1]∧(g0+g1=h0+h1 - c.2.2.1∧(hav c.1 g0 g1=hav c.1 h0 h1 - c.2.2.1)∧(c.1=0→g1=h1)∧(c.1=1→g0=h0)):=by
  rcases hc.1 with h|h
  ·rw [h]
   exact ⟨_,_,rfl,by unfold hav;simp;omega⟩
  ·rw [h]
   exact ⟨_,_,rfl,by unfold hav;simp;omega⟩
 rw [hg]
 have hcost:Yz fuel (Yc A k0 k1 op) (s.1,[g0,g1],ins c s.2.2.1,s.2.2.2)=some (cost s.2.2.2 (ins c s.2.2.1).length):=by
  have:=Zq1 (n:=(ins c s.2.2.1).length) hs.r0 hs.r1 (by rw [Zq3];omega)
  unfold Yz
  unfold cost at*
  dsimp only
  rw [ZKQ hs.r0 hs.r1 (by show (ins c s.2.2.1).length≤16;rw [Zq3];omega),yb,Zy (by omega) (by omega)]
 rw [hcost,yb,if_pos (XF hc.1),ZaA hc.1,yb]
 refine ZfH (fun _=>⟨_,rfl,fun h=>absurd h (by decide)⟩) fun hneg=> ?_
 rw [hO,if_pos (XF h.o),ZaA h.o,yb]
 refine ZfH (fun _=>⟨_,rfl,fun h=>absurd h (by decide)⟩) fun hcst=> ?_
 rw [decide_eq_true_iff] at hneg hcst
 have fin:StOk A op (s.1,[g0,g1],ins c s.2.2.1,s.2.2.2):=by
  refine ⟨g0,g1,⟨hs.n0,hs.n1,rfl, ?_, ?_,hs.r0,hs.r1,by show (ins c s.2.2.1).length≤16;rw [Zq3];omega, ?_,ZCP hs.srt hd, ?_⟩,by show hav op g0 g1 ≥ cost s.2.2.2 (ins c s.2.2.1).length;omega⟩
  ·rcases hc.1 with h|h
   ·rw [h] at hneg
    unfold hav at hneg
    simp at hneg
    omega
   ·have:=hg2.2.2.2 h
    omega
  ·rcases hc.1 with h|h
   ·have:=hg2.2.2.1 h
    omega
   ·rw [h] at hneg
    unfold hav at hneg
    simp at hneg
    omega
  ·intro x hx
   rcases Zq2.1 hx with rfl|hx
   ·exact hc
   ·exact hs.cs x hx
  ·show g0+g1+amtC (ins c s.2.2.1)=A
   rw [ZCO]
   omega
 rw [if_pos (XF hc.1),yb]
 exact ZfH (fun _=>ZfH (fun _=>⟨_,rfl,fun h=>absurd h (by decide)⟩) fun _=>⟨_,rfl,fun _=>⟨fin,rfl,rfl⟩⟩) fun _=>ZfH (fun _=>⟨_,rfl,fun h=>absurd h (by decide)⟩) fun _=>⟨_,rfl,fun _=>⟨fin,rfl,rfl⟩⟩
theorem ZEe (n:UInt64):∃o,WW fuel n=some o∧o.length=8:=by
 unfold WW
 obtain ⟨x,h1,h2⟩:=YL (step:=Xa fuel) 8 (fun k s=>∃c,s=(n,56 - 8*(k:Int),c)∧c.length=k) (fun x=>x.length=8) (i:=(n,(56:Int),([]:List UInt8))) ⟨_,rfl,rfl⟩ (by omega) (by
  rintro k _ hk ⟨c,rfl,hc⟩
  left
  unfold Xa
  dsimp only
  rw [if_pos (decide_eq_true (by omega)),if_pos (decide_eq_true (by omega)),if_pos (Yy (by omega) (by omega)),Zy (z:=56 - 8*(k:Int) - 8) (by omega) (by omega)]
  exact ⟨_,rfl,_,by rw [show (56:Int) - 8*(k:Int) - 8=56 - 8*((k+1:Nat):Int) by omega],by simp [hc]⟩) (by
  rintro _ ⟨c,rfl,hc⟩
  unfold Xa
  dsimp only
  rw [if_neg (by rw [decide_eq_true_iff];omega)]
  exact ⟨_,rfl,hc⟩)
 rw [h1,yb]
 exact ⟨_,rfl,h2⟩
theorem ZBB (n:UInt64):∃o,XW fuel n=some o∧o.length=8:=by
 unfold XW
 obtain ⟨x,h1,h2⟩:=YL (step:=Yr fuel) 8 (fun k s=>∃c,s=(n,56 - 8*(k:Int),c)∧c.2.length=k) (fun x=>x.2.length=8) (i:=(n,(56:Int),([]:List UInt8),([]:List UInt8))) ⟨_,rfl,rfl⟩ (by omega) (by
  rintro k _ hk ⟨c,rfl,hc⟩
  left
  unfold Yr
  dsimp only
  rw [if_pos (decide_eq_true (by omega)),if_pos (decide_eq_true (by omega)),if_pos (Yy (by omega) (by omega)),Zy (z:=56 - 8*(k:Int) - 8) (by omega) (by omega)]
  exact ⟨_,rfl,_,by rw [show (56:Int) - 8*(k:Int) - 8=56 - 8*((k+1:Nat):Int) by omega],by simp [hc]⟩) (by
  rintro _ ⟨c,rfl,hc⟩
  unfold Yr
  dsimp only
  rw [if_neg (by rw [decide_eq_true_iff];omega)]
  exact ⟨_,rfl,hc⟩)
 rw [h1,yb]
 exact ⟨_,rfl,h2⟩
end Go.Proofs.YtmkgbalfkhaflaaGreat
end
section
set_option maxRecDepth 4000
namespace Go.Proofs.YtmkgbalfkhaflaaGreat
open Go Go.Ev
theorem ZGO {s:ByteArray} {ls:List (List UInt8)} (h1:s.size≤100) (h2:ls.length≤10) (h3:∀l,l∈ls→l.length≤60000):∃o,Vs fuel s ls=some o∧o.length=32:=by
 unfold Vs
 obtain ⟨o,p1,p2⟩:=ZBB (w64 (s.size:Int))
 have hsl:s.data.toList.length=s.size:=by
  rw [Array.length_toList]
  rfl
 rw [p1,yb,if_pos (decide_eq_true (by unfold maxLen;omega)),if_pos (Yy (by rw [hsl,p2];omega) (by rw [hsl,p2];omega))]
 obtain ⟨x,g1,b,rfl,g2⟩:=YL (step:=YF fuel) ls.length (fun k q=>∃b,q=(ls,(k:Int),z32,b)∧b.length≤200+60100*k) (fun x=>∃b,x=(z32,b)∧b.length≤700000) (i:=(ls,(0:Int),z32,o++s.data.toList)) ⟨_,rfl,by rw [yl,p2,hsl];omega⟩ (by omega) (by
  rintro k _ hk ⟨b,rfl,hb⟩
  left
  obtain ⟨e,he,hm⟩:=Zq hk
  have:=h3 e hm
  obtain ⟨q,q1,q2⟩:=ZEe (w64 (e.length:Int))
  unfold YF
  dsimp only
  rw [if_pos (YY hk),ZD he,yb,q1,yb,if_pos (Yy (by omega) (by omega)),yb,if_pos (Yy (by rw [yl];omega) (by rw [yl];omega)),ZE (by omega)]
  exact ⟨_,rfl,_,rfl,by simp only [yl];omega⟩) (by
  rintro _ ⟨b,rfl,hb⟩
  unfold YF
  dsimp only
  rw [if_neg (by rw [Yo];decide)]
  exact ⟨_,rfl,_,rfl,by omega⟩)
 show ∃o_1,(ybm (Zc (YF fuel) fuel (ls,(0:Int),z32,o++s.data.toList)) fun o85=>(Xv fuel o85.2).bind fun o86=>some o86)=some o_1∧o_1.length=32
 rw [g1,yb,ZGs (by show b.length≤_;omega),yb]
 exact ⟨_,rfl,Sha.ZKZ _⟩
theorem ZGP {h:List UInt8} (hl:h.length=32):∃o,XX fuel [] h=some o∧o.length=32:=by
 unfold XX
 rw [if_pos (Yy (by simp) (by simp))]
 obtain ⟨x,g1,b,rfl,g2⟩:=YL (step:=Ys fuel) 32 (fun k q=>∃b,q=((k:Int),h,b)∧b.length=k) (fun x=>∃b,x=(h,b)∧b.length=32) (i:=((0:Int),h,([]:List UInt8))) ⟨_,rfl,rfl⟩ (by omega) (by
  rintro k _ hk ⟨b,rfl,hb⟩
  left
  obtain ⟨e,he,hm⟩:=Zq (l:=h) (k:=k) (by omega)
  unfold Ys
  dsimp only
  rw [if_pos (decide_eq_true (by omega)),if_pos (YP (by omega) (by omega)),ybq,he,yb,if_pos (Yy (by omega) (by omega)),ZE (by omega)]
  exact ⟨_,rfl,_,rfl,by simp [hb]⟩) (by
  rintro _ ⟨b,rfl,hb⟩
  unfold Ys
  dsimp only
  rw [if_neg (by rw [decide_eq_true_iff];omega)]
  exact ⟨_,rfl,_,rfl,hb⟩)
 rw [g1,yb]
 exact ⟨_,rfl,g2⟩
theorem ZvM {h:List UInt8} (hl:h.length=32) (n:UInt8):∃o,Z4 fuel h n=some o∧o.length=32:=by
 unfold Z4
 obtain ⟨o,h1,h2⟩:=ZGP hl
 obtain ⟨p,h3,h4⟩:=ZGO (s:=ZIE) (ls:=[o,[n]]) (by decide) (by simp) (by
  intro l hl
  simp only [yby,List.not_mem_nil,or_false] at hl
  rcases hl with rfl|rfl
  ·omega
  ·simp)
 rw [h1,yb,h3,yb]
 exact ⟨_,rfl,h4⟩
theorem ZKX {h:List UInt8} (hl:h.length=32):∃k,We fuel h=some k∧KitOk k:=by
 unfold We
 obtain ⟨p1,a1,b1⟩:=ZvM hl 1
 obtain ⟨p2,a2,b2⟩:=ZvM hl 2
 obtain ⟨p3,a3,b3⟩:=ZvM hl 3
 obtain ⟨p4,a4,b4⟩:=ZvM hl 4
 obtain ⟨p5,a5,b5⟩:=ZvM hl 5
 obtain ⟨p6,a6,b6⟩:=ZvM hl 6
 obtain ⟨k1,c1,d1⟩:=Zj6 b1
 obtain ⟨k2,c2,d2⟩:=Zj6 b2
 obtain ⟨k3,c3,d3⟩:=Zj6 b3
 obtain ⟨k4,c4,d4⟩:=Zj6 b4
 obtain ⟨k5,c5,d5⟩:=Zj6 b5
 rw [a1,yb,c1,yb,a2,yb,c2,yb,a3,yb,c3,yb,a4,yb,c4,yb,a5,yb,c5,yb,a6,yb]
 exact ⟨_,rfl,d1,d2,d3,d4,d5⟩
theorem ZCQ (k:Kit):Wj fuel k=some (Yb k):=by
 unfold Wj
 rw [Zj5,yb,Zj5,yb,Zj5,yb,Zj5,yb,Zj5,yb]
 rfl
def Sec (o:Vw):UInt64:=1+o.2.2.2 % 2305843009213688668
theorem ZIg (o:Vw):Key (Sec o):=by
 have h:(o.2.2.2 % 2305843009213688668).toNat < 2305843009213688668:=by
  rw [UInt64.toNat_mod]
  exact ybd _ (by decide)
 have e:(Sec o).toNat=1+(o.2.2.2 % 2305843009213688668).toNat:=by
  unfold Sec
  rw [UInt64.toNat_add,yai]
  ·rfl
  ·show 1+_ < _
   omega
 unfold Key ord
 omega
structure PlayOk (p:Corsnedlaw21Play):Prop where
 sl:p.1.length=2
 ss:∀h,h∈p.1→h.length=32
 ol:p.2.2.2.2.2.1.length≤9223372036854775807
 os:∀o,o∈p.2.2.2.2.2.1→0≤o.2.1∧o.2.1≤65535∧0≤o.2.2.1∧o.2.2.1≤65535
 n0:0≤p.2.2.2.2.2.2.1
 n1:p.2.2.2.2.2.2.1≤65535
 per:p.2.2.2.2.2.2.2.length=32
def ZGQ (p:Corsnedlaw21Play) (k:Nat) (l:List ZS):Prop:=∀c,c∈l→1≤c.2.1∧c.2.1≤(k:Int)∧∃o,p.2.2.2.2.2.1[c.2.1.toNat - 1]? =some o∧c.2.2.2.1=B (Sec o).toNat
theorem ZGR (x:UInt8):(((x % 2).toNat:Nat):Int)=0∨(((x % 2).toNat:Nat):Int)=1:=by
 have:(x % 2).toNat=x.toNat % 2:=UInt8.toNat_mod ..
 omega
theorem ZzW {A:Int} {k0 k1:Kit} {op:Int} (h:ChOk A k0 k1 op) {p:Corsnedlaw21Play} (hp:PlayOk p) {s:State} (hs:StOk A op s) (he:s.2.2.1=[]) (a:Z6) (b:List Kit) (c:State) (ks:List Kit):
 ∃x,Zc (Z9 fuel) fuel ((0:Int),p,a,b,c,ks,Yc A k0 k1 op,s)=some x∧∃t,x=(p,a,b,c,ks,Yc A k0 k1 op,t)∧StOk A op t∧ZGQ p 20 t.2.2.1∧t.1=s.1:=by
 obtain ⟨p1,p2,p3,p4,p5,of,p6,p7⟩:=p
 have hol:=hp.ol
 have hos:=hp.os
 dsimp only at hol hos
 refine YL (step:=Z9 fuel) 20 (fun k q=>∃t,q=((k:Int),(p1,p2,p3,p4,p5,of,p6,p7),a,b,c,ks,Yc A k0 k1 op,t)∧StOk A op t∧ZGQ (p1,p2,p3,p4,p5,of,p6,p7) k t.2.2.1∧t.1=s.1) _ ⟨_,rfl,hs,by rw [he];intro c hc;simp at hc,rfl⟩ (by omega) ?_ ?_
 ·rintro k _ hk ⟨t,rfl,t1,t2,t3⟩
  have mono:∀{n m:Nat} {l:List ZS},n≤m→ZGQ (p1,p2,p3,p4,p5,of,p6,p7) n l→ZGQ (p1,p2,p3,p4,p5,of,p6,p7) m l:=fun hnm ho c hc=>by
   obtain ⟨q1,q2,q3⟩:=ho c hc
   exact ⟨q1,by omega,q3⟩
  unfold Z9
  dsimp only
  by_cases hkl:k < of.length
  ·left
   obtain ⟨o,ho,hom⟩:=Zq hkl
   obtain ⟨b1,b2,b3,b4⟩:=hos o hom
   have hc:CondIn (((o.1 % 2).toNat:Int),wi ((k:Int)+1),wi (1+wi o.2.1),B (Sec o).toNat,wi (1+wi o.2.2.1)):=by
    rw [ZE (by omega),Zy (z:=o.2.1) (by omega) (by omega),Zy (z:=1+o.2.1) (by omega) (by omega),Zy (z:=o.2.2.1) (by omega) (by omega),Zy (z:=1+o.2.2.1) (by omega) (by omega)]
    exact ⟨ZGR _,by dsimp only;omega,by dsimp only;omega,by dsimp only;omega,by dsimp only;omega,ZJY _,ZGK (ZIg o),by dsimp only;omega,by dsimp only;omega⟩
   obtain ⟨x,x1,x2⟩:=ZK7 h t1 hc (by
    intro e he
    have:=(t2 e he).2.1
    rw [ZE (by omega)]
    dsimp only
    omega)
   have hsec:VZ fuel o=some (Sec o):=rfl
   rw [if_pos (YY hkl),if_pos (decide_eq_true (by omega)),ZD ho,yb,hsec,yb,ZIe,yb,x1,yb]
   by_cases h0:x.2=0
   ·obtain ⟨y1,y2,y3⟩:=x2 h0
    rw [if_pos (by rw [h0];rfl),ZE (by omega)]
    refine ⟨_,rfl,_,rfl,y1, ?_,by rw [y3,t3]⟩
    rw [y2]
    intro c hc
    rcases Zq2.1 hc with rfl|hc
    ·rw [ZE (by omega)]
     refine ⟨by dsimp only;omega,by dsimp only;omega,o, ?_,rfl⟩
     dsimp only
     rw [show ((k+1:Nat):Int).toNat - 1=k by omega]
     exact ho
    ·exact mono (by omega) t2 c hc
   ·rw [if_neg (by rw [beq_iff_eq];exact h0),ZE (by omega)]
    exact ⟨_,rfl,_,rfl,t1,mono (by omega) t2,t3⟩
  ·right
   rw [if_neg (by rw [decide_eq_true_iff];omega)]
   exact ⟨_,rfl,_,rfl,t1,mono (by omega) t2,t3⟩
 ·rintro _ ⟨t,rfl,t1,t2,t3⟩
  unfold Z9
  dsimp only
  by_cases hkl:20 < of.length
  ·rw [if_pos (YY hkl),if_neg (by rw [decide_eq_true_iff];omega)]
   exact ⟨_,rfl,_,rfl,t1,t2,t3⟩
  ·rw [if_neg (by rw [decide_eq_true_iff];omega)]
   exact ⟨_,rfl,_,rfl,t1,t2,t3⟩
theorem ZzX (P:Corsnedlaw21Play) (a:Z6) (b:List Kit) (c:State) (k0 k1:Kit) (A op:Int):Zc (Xf fuel) fuel ((0:Int),P,a,b,c,([k0,k1]:List Kit),((([0,0,0,0,0,0,0,0,0,0,0,0,0,0,0,0,0,0,0,0,0,0,0,0,0,0,0,0,0,0,0,0]:List UInt8),(0:Int)),A,([(0,0,0,0,0),(0,0,0,0,0)]:List WC),([(0,0,0,0,0,0),(0,0,0,0,0,0)]:List VF),op))=some (P,a,b,c,[k0,k1],Yc A k0 k1 op):=by
 refine Z3 2 (fun k:Nat=>((k:Int),P,a,b,c,([k0,k1]:List Kit),((z32,(0:Int)),A,([Yb k0,Yb k1]:List WC).take k++([(0,0,0,0,0),(0,0,0,0,0)]:List WC).drop k,([Tm 5,Tm 6]:List VF).take k++([(0,0,0,0,0,0),(0,0,0,0,0,0)]:List VF).drop k,op))) ?_ ?_ (by omega)
 ·intro k hk
  unfold Xf
  dsimp only
  match k,hk with
  |0,_=>
   rw [if_pos (decide_eq_true (by omega)),if_pos (YP (by omega) (by omega))]
   show ybm (some k0) _=_
   rw [yb,ZCQ,yb]
   rfl
  |1,_=>
   rw [if_pos (decide_eq_true (by omega)),if_pos (YP (by omega) (by omega))]
   show ybm (some k1) _=_
   rw [yb,ZCQ,yb]
   rfl
 ·unfold Xf
  dsimp only
  rw [if_neg (by rw [decide_eq_true_iff];omega)]
  rfl
theorem ZK8 {p:Corsnedlaw21Play} (hp:PlayOk p):∃A k0 k1 op s,W2 fuel p=some (Yc A k0 k1 op,[k0,k1],s)∧ChOk A k0 k1 op∧StOk A op s∧ZGQ p 20 s.2.2.1:=by
 have hof:=fun {A:Int} {k0 k1:Kit} {op:Int} (h:ChOk A k0 k1 op) {s:State} (hs:StOk A op s) (he:s.2.2.1=[]) (a:Z6) (b:List Kit) (c:State) (ks:List Kit)=>ZzW h hp hs he a b c ks
 have hn0:=hp.n0
 have hn1:=hp.n1
 obtain ⟨sd,am,ow,ra,on,of,no,pr⟩:=p
 dsimp only at hn0 hn1
 obtain ⟨q0,q1,hsd⟩:∃q0 q1,sd=[q0,q1]:=by
  have:=hp.sl
  dsimp only at this
  match sd,this with
  |[a,b],_=>exact ⟨_,_,rfl⟩
 subst hsd
 have hss:=hp.ss
 obtain ⟨k0,e0,f0⟩:=ZKX (hss q0 (by simp))
 obtain ⟨k1,e1,f1⟩:=ZKX (hss q1 (by simp))
 have hop:=ZGR on
 have ham:(am.toNat:Int)≤4294967295:=by have:=am.toNat_lt;omega
 unfold W2
 show ∃A k0 k1 op s,ybm (some q0) _=_∧_
 rw [yb,e0,yb]
 show ∃A k0 k1 op s,ybm (some q1) _=_∧_
 rw [yb,e1,yb]
 dsimp only
 rw [Zy (z:=20000+(am.toNat:Int)) (by omega) (by omega)]
 generalize hA:20000+(am.toNat:Int)=A
 generalize (((on % 2).toNat:Nat):Int)=op at hop
 have hch:ChOk A k0 k1 op:=⟨by omega,by omega,hop,f0,f1⟩
 rw [ZzX,yb]
 have hcA:(Yc A k0 k1 op).2.1=A:=rfl
 have hcO:(Yc A k0 k1 op).2.2.2.2=op:=rfl
 dsimp only
 rw [hcA,hcO,Zy (z:=A+1) (by omega) (by omega),if_pos (bne_iff_ne.2 (by omega))]
 obtain ⟨y,hy,hy0,hyA⟩:∃y,Int.tmod (ow.toNat:Int) (A+1)=y∧0≤y∧y≤A:=by
  refine ⟨_,rfl, ?_, ?_⟩
  ·exact Int.tmod_nonneg _ (by omega)
  ·have:=Int.tmod_lt_of_pos (ow.toNat:Int) (b:=A+1) (by omega)
   omega
 rw [hy,Zy (z:=A - y) (by omega) (by omega),Zy (z:=no) (by omega) (by omega)]
 have hr8:(ra % 8).toNat < 8:=by
  rw [UInt8.toNat_mod]
  exact ybd _ (by decide)
 generalize hr:(((ra % 8).toNat:Nat):Int)=r
 have hs0:StIn A (no,[y,A - y],[],r) y (A - y):=⟨hn0,hn1,rfl,hy0,by omega,by dsimp only;omega,by dsimp only;omega,by simp,fun c hc=>(by simp at hc),List.Pairwise.nil,by show y+(A - y)+0=A;omega⟩
 rw [show Y4 fuel (Yc A k0 k1 op) (no,[y,A - y],[],r)=some (decide (hav op y (A - y) ≥ cost r 0)) from ZvJ hch hs0,yb]
 by_cases hco:hav op y (A - y) ≥ cost r 0
 ·rw [if_neg (by rw [decide_eq_true hco];decide)]
  obtain ⟨x,x1,t,rfl,x2,x3,x4⟩:=hof hch (s:=(no,[y,A - y],[],r)) ⟨_,_,hs0,hco⟩ rfl _ _ _ _
  rw [x1,yb]
  exact ⟨A,k0,k1,op,t,rfl,hch,x2,x3⟩
 ·have hci:=Zq1 (r:=r) (n:=0) (by omega) (by omega) (by omega)
  rw [if_pos (by rw [decide_eq_false hco];rfl),if_pos (XF hop),ZaA hop,yb,if_pos (Zn5 hop)]
  obtain ⟨g0,g1,e1,e2,e3⟩:∃g0 g1:Int,(([y,A - y]:List Int).set op.toNat A).set ((wi (1 - op)).toNat) 0=[g0,g1]∧(g0=A∧g1=0∧op=0∨g0=0∧g1=A∧op=1)∧∃z,((([y,A - y]:List Int).set op.toNat A)[(wi (1 - op)).toNat]?)=some z:=by
   rcases hop with rfl|rfl
   ·exact ⟨_,_,rfl,.inl ⟨rfl,rfl,rfl⟩,_,rfl⟩
   ·exact ⟨_,_,rfl,.inr ⟨rfl,rfl,rfl⟩,_,rfl⟩
  obtain ⟨z,hz⟩:=e3
  rw [hz,yb,e1]
  have hs1:StIn A (no,[g0,g1],[],r) g0 g1:=⟨hn0,hn1,rfl,by omega,by omega,by dsimp only;omega,by dsimp only;omega,by simp,fun c hc=>(by simp at hc),List.Pairwise.nil,by show g0+g1+0=A;omega⟩
  have hco1:hav op g0 g1 ≥ cost r 0:=by
   unfold hav
   rcases e2 with ⟨u1,u2,u3⟩|⟨u1,u2,u3⟩
   ·rw [if_pos u3];omega
   ·rw [if_neg (by omega)];omega
  obtain ⟨x,x1,t,rfl,x2,x3,x4⟩:=hof hch (s:=(no,[g0,g1],[],r)) ⟨_,_,hs1,hco1⟩ rfl _ _ _ _
  rw [x1,yb]
  exact ⟨A,k0,k1,op,t,rfl,hch,x2,x3⟩
end Go.Proofs.YtmkgbalfkhaflaaGreat
end
section
set_option maxRecDepth 4000
namespace Go.Proofs.YtmkgbalfkhaflaaGreat
open Go Go.Ev
def beF (l:List UInt8):Nat→Nat
 |0=>0
 |k+1=>beF l k*256+((l[k]?).map UInt8.toNat).getD 0
theorem ZGS (l:List UInt8):∀k,beF l k < 256 ^ k
 |0=>by simp [beF]
 |k+1=>by
  have:=ZGS l k
  have h:((l[k]?).map UInt8.toNat).getD 0 < 256:=by
   cases l[k]? with
   |none=>simp
   |some d=>exact d.toNat_lt
  rw [beF,Nat.pow_succ]
  omega
theorem ZCR (n:Nat):∀k,k≤8→n < 18446744073709551616→beF (Zo8 n) k=n / 2 ^ (64 - 8*k)
 |0,_,h=>by rw [beF,Nat.div_eq_of_lt (by omega)]
 |k+1,hk,h=>by
  rw [beF,ZCR n k (by omega) h,ZzQ n (by omega)]
  have e:(64 - 8*k)=(56 - 8*k)+8:=by omega
  have e2:64 - 8*(k+1)=56 - 8*k:=by omega
  rw [e,e2,Nat.pow_add, ←Nat.div_div_eq_div_mul]
  simp
  omega
def Zj7 (r:Zr) (n:Nat):List UInt8×Zr:=if r.2=true∨r.1.length < n then ([],([],true)) else (r.1.take n,(r.1.drop n,r.2))
theorem ZCS {n:Nat} {z:Int} (h0:0≤z) (h:z≤(n:Int)):QS n (some z) none=true:=by simp [QS,h0,h]
theorem ZIh {n:Nat} {z:Int} (h0:0≤z) (h:z≤(n:Int)):QS n none (some z)=true:=by simp [QS,h0,h]
theorem ZzY {l:List UInt8} (h:l.length≤1000000000):ZV fuel l=some l:=by
 unfold ZV
 rw [if_pos (Yy (by omega) (by omega))]
theorem ZIi {z:Int} {r:Zr} (h0:0≤z) (h:r.1.length≤1000000):Vq fuel z r=some (Zj7 r z.toNat):=by
 obtain ⟨b,no⟩:=r
 obtain ⟨n,rfl⟩:=Int.eq_ofNat_of_zero_le h0
 unfold Vq Zj7 Wc
 dsimp only at h ⊢
 rw [ybq]
 by_cases h1:no=true
 ·rw [if_pos h1,yb,if_pos (.inl h1)]
 by_cases h2:b.length < n
 ·rw [if_neg h1,if_pos (decide_eq_true (by omega)),yb,if_pos (.inr h2)]
 rw [if_neg h1,if_neg (by rw [decide_eq_true_iff];omega),if_pos (ZIh (by omega) (by omega)),ZzY (by rw [yab];omega),yb,if_pos (ZCS (by omega) (by omega)),if_neg (by rintro (h|h);exact h1 h;exact h2 h)]
theorem ZEf (r:Zr) (n:Nat):(Zj7 r n).1.length≤n∧(Zj7 r n).2.1.length≤r.1.length:=by
 unfold Zj7
 split
 ·simp
 ·simp;omega
theorem ZGT {b r:List UInt8} {n:Nat} (h:b.length=n):Zj7 (b++r,false) n=(b,(r,false)):=by
 subst h
 unfold Zj7
 rw [if_neg (by simp)]
 simp
def ZIj (r:Zr):UInt64×Zr:=(yaf (beF (Zj7 r 8).1 (Zj7 r 8).1.length),(Zj7 r 8).2)
theorem ZGU {l:List UInt8} {k:Nat} {d:UInt8} (hk:k < 8) (hx:l[k]? =some d):(Vm (yaf (beF l k)) 8)|||(yaf d.toNat)=yaf (beF l (k+1)):=by
 have h1:=ZGS l k
 have h2:256 ^ k≤256 ^ 7:=Nat.pow_le_pow_right (by omega) (by omega)
 have h3:=d.toNat_lt
 apply UInt64.toNat_inj.1
 unfold Vm
 rw [UInt64.toNat_or,ybc,ybc,ybc,ybc,yai (a:=beF l k) (by omega),yai (a:=d.toNat) (by omega),yai (a:=beF l k*2 ^ 8) (by omega),beF,hx,
  ybe (beF l k) (2 ^ 8), ←yco (by omega)]
 simp
 omega
theorem ZCT {r:Zr} (h:r.1.length≤1000000):WG fuel r=some (ZIj r):=by
 unfold WG ZIj
 rw [ZIi (by omega) h,yb]
 have hl:=ZEf r 8
 rw [show (8:Int).toNat=8 from rfl]
 generalize Zj7 r 8=q at hl
 obtain ⟨l,s⟩:=q
 dsimp only at hl ⊢
 rw [show ((0:UInt64),l,(l.length:Int),(0:Int),s)=(fun k:Nat=>(yaf (beF l k),l,(l.length:Int),(k:Int),s)) 0 from rfl,
  Z3 (x:=(yaf (beF l l.length),s)) l.length (fun k:Nat=>(yaf (beF l k),l,(l.length:Int),(k:Int),s)) ?_ ?_ (by omega),yb]
 ·intro k hk
  obtain ⟨e,he,_⟩:=Zq hk
  unfold Ws
  dsimp only
  rw [if_pos (YY hk),ZD he,yb,ZGU (by omega) he,ZE (by omega)]
 ·unfold Ws
  dsimp only
  rw [if_neg (by rw [Yo];decide)]
theorem ZCU (x:UInt64) (r:List UInt8):ZIj (Zo8 x.toNat++r,false)=(x,(r,false)):=by
 unfold ZIj
 rw [ZGT (Qm _),Qm]
 dsimp only
 rw [ZCR _ 8 (by omega) (ybg _)]
 simp
def Vy (b:List UInt8):Nat→Nat→Nat→Bool×Nat×Nat
 |0,k,_=>(false,0,k)
 |f+1,k,n=>match b[k]? with
  |none=>(false,0,k)
  |some d=>if 8 < k∨(0 < k∧d.toNat=0) then (false,0,k) else if d.toNat < 128 then (true,n+d.toNat % 128*128 ^ k,k+1) else Vy b f (k+1) (n+d.toNat % 128*128 ^ k)
theorem ZtL {b:List UInt8} {f k n:Nat} (h:b.length≤k):Vy b (f+1) k n=(false,0,k):=by
 simp [Vy,List.getElem?_eq_none h]
theorem ZvN {b:List UInt8} {f k n:Nat} {d:UInt8} (hx:b[k]? =some d) (h:8 < k):Vy b (f+1) k n=(false,0,k):=by
 simp [Vy,hx,h]
theorem Zn6 {b:List UInt8} {f k n:Nat} {d:UInt8} (hx:b[k]? =some d) (_:¬8 < k) (h:0 < k∧d.toNat=0):Vy b (f+1) k n=(false,0,k):=by
 rw [Vy,hx]
 exact if_pos (.inr h)
theorem Zmn {b:List UInt8} {f k n:Nat} {d:UInt8} (hx:b[k]? =some d) (h2:¬8 < k) (h3:¬(0 < k∧d.toNat=0)) (h4:d.toNat < 128):Vy b (f+1) k n=(true,n+d.toNat % 128*128 ^ k,k+1):=by
 rw [Vy,hx]
 show (if 8 < k∨(0 < k∧d.toNat=0) then _ else _)=_
 rw [if_neg (by rintro (h|h);exact h2 h;exact h3 h),if_pos h4]
theorem Zmo {b:List UInt8} {f k n:Nat} {d:UInt8} (hx:b[k]? =some d) (h2:¬8 < k) (h3:¬(0 < k∧d.toNat=0)) (h4:¬d.toNat < 128):Vy b (f+1) k n=Vy b f (k+1) (n+d.toNat % 128*128 ^ k):=by
 rw [Vy,hx]
 show (if 8 < k∨(0 < k∧d.toNat=0) then _ else _)=_
 rw [if_neg (by rintro (h|h);exact h2 h;exact h3 h),if_neg h4]
theorem ZGV (n k:Nat) (d:UInt8) (hn:n < 128 ^ k) (hk:k≤8):n+d.toNat % 128*128 ^ k < 9223372036854775808:=by
 have h1:d.toNat % 128*128 ^ k≤127*128 ^ k:=ybr _ (by omega)
 have h2:128 ^ (k+1)≤128 ^ 9:=Nat.pow_le_pow_right (by omega) (by omega)
 rw [Nat.pow_succ] at h2
 omega
theorem ZEg (n k:Nat) (d:UInt8) (hn:n < 128 ^ k):n+d.toNat % 128*128 ^ k < 128 ^ (k+1):=by
 have h1:d.toNat % 128*128 ^ k≤127*128 ^ k:=ybr _ (by omega)
 rw [Nat.pow_succ]
 omega
theorem ZzZ (b:List UInt8):∀(f k n:Nat),(Vy b f k n).1=true→(Vy b f k n).2.2≤b.length
 |0,k,n,h=>by simp [Vy] at h
 |f+1,k,n,h=>by
  by_cases h1:b.length≤k
  ·rw [ZtL h1] at h;cases h
  have hx:=yw (Nat.lt_of_not_le h1)
  by_cases h2:8 < k
  ·rw [ZvN hx h2] at h;cases h
  by_cases h3:0 < k∧b[k].toNat=0
  ·rw [Zn6 hx h2 h3] at h;cases h
  by_cases h4:b[k].toNat < 128
  ·rw [Zmn hx h2 h3 h4];simp;omega
  ·rw [Zmo hx h2 h3 h4] at h ⊢
   exact ZzZ b f _ _ h
theorem ZCV {a:List UInt8} {k:Nat} {x:UInt8} {r:List UInt8} (h:a.length=k):(a++x::r)[k]? =some x:=by
 rw [yak (by omega),h,Nat.sub_self];rfl
theorem Zn7 {n:Nat} (h:n < 256):(yal n).toNat=n:=by simp [yai h]
theorem ZvO:∀(f n:Nat) (pre rest:List UInt8) (k acc:Nat),pre.length=k→k+(QD n).length≤9→(QD n).length≤f→(0 < k→0 < n)→
 Vy (pre++(QD n++rest)) f k acc=(true,acc+n*128 ^ k,k+(QD n).length)
 |0,n,pre,rest,k,acc,_,_,hf,_=>by
  have:=List.length_pos_iff.2 (ZIf n);omega
 |f+1,n,pre,rest,k,acc,hp,hk,hf,h0=>by
  by_cases h:n < 128
  ·rw [Zhu h] at hk ⊢
   have hx:(pre++([yal n]++rest))[k]? =some (yal n):=ZCV hp
   have e:(yal n).toNat=n:=Zn7 (by omega)
   simp at hk
   rw [Zmn hx (by omega) (by rw [e];omega) (by rw [e];exact h),e,yai h]
   rfl
  ·rw [ZtD h] at hk hf ⊢
   have hx:(pre++((yal (n % 128+128)::QD (n / 128))++rest))[k]? =some (yal (n % 128+128)):=ZCV hp
   have e:(yal (n % 128+128)).toNat=n % 128+128:=Zn7 (by omega)
   simp only [yz] at hk hf ⊢
   rw [Zmo hx (by omega) (by rw [e];omega) (by rw [e];omega),e]
   have:=ZvO f (n / 128) (pre++[yal (n % 128+128)]) rest (k+1) (acc+(n % 128+128) % 128*128 ^ k) (by simp [hp]) (by omega) (by omega) (by omega)
   rw [yae] at this
   simp only [List.cons_append,yq] at this ⊢
   rw [this]
   have e2:n=n % 128+128*(n / 128):=by omega
   have e3:(n % 128+128) % 128=n % 128:=by omega
   rw [e3,Nat.pow_succ]
   refine Prod.ext rfl (Prod.ext ?_ (by simp;omega))
   show acc+n % 128*128 ^ k+n / 128*(128 ^ k*128)=acc+n*128 ^ k
   rw [show n / 128*(128 ^ k*128)=128*(n / 128)*128 ^ k by rw [ybe (128 ^ k) 128, ←Nat.mul_assoc,ybe (n / 128) 128],Nat.add_assoc, ←Nat.add_mul, ←e2]
def ZGW (r:Zr):Int×Zr:=if (Vy r.1 10 0 0).1=true then (((Vy r.1 10 0 0).2.1:Int),(r.1.drop (Vy r.1 10 0 0).2.2,r.2)) else (0,([],true))
theorem Zq4 {z:Int} (h0:0≤z) (hz:z≤9223372036854775807) (rest:List UInt8):ZGW (QD z.toNat++rest,false)=(z,(rest,false)):=by
 obtain ⟨n,rfl⟩:=Int.eq_ofNat_of_zero_le h0
 have hl:=Wo (n:=n) (by omega)
 have:=ZvO 10 n [] rest 0 0 rfl (by omega) (by omega) (by omega)
 simp only [yq,Nat.zero_add,Nat.pow_zero,Nat.mul_one] at this
 unfold ZGW
 rw [ybq]
 dsimp only
 rw [this]
 simp
theorem ZGX {n k:Nat} {d:UInt8} (hn:n < 128 ^ k) (hk:k≤8):bits .or .i64 (n:Int) (wi (((d % 128).toNat:Int)*2 ^ (min (wi (7*(k:Int))).toNat 64)))=((n+d.toNat % 128*128 ^ k:Nat):Int):=by
 have e0:(wi (7*(k:Int)))=((7*k:Nat):Int):=by rw [Zy (by omega) (by omega)];omega
 have e1:min ((7*k:Nat):Int).toNat 64=7*k:=by omega
 have e2:128 ^ k=2 ^ (7*k):=by rw [Nat.pow_mul]
 have h1:=ZGV n k d hn hk
 have e3:((d % 128).toNat:Int)*2 ^ (7*k)=((d.toNat % 128*128 ^ k:Nat):Int):=by
  rw [e2,UInt8.toNat_mod]
  push_cast
  rfl
 rw [e0,e1,e3,Zy (by omega) (by omega)]
 refine Go.Ev.Zrc (op:=.or) (k:=.i64) ?_ (by omega) ⟨by show -9223372036854775808≤_;omega,by show _≤9223372036854775807;omega⟩ (by omega) ⟨by show -9223372036854775808≤_;omega,by show _≤9223372036854775807;omega⟩ ⟨by show -9223372036854775808≤_;omega,by show _≤9223372036854775807;omega⟩
 show some _=some _
 congr 1
 simp only [ybq]
 rw [e2] at hn ⊢
 have:=yco hn (d.toNat % 128)
 rw [ybe,Nat.or_comm, ←this]
 omega
theorem Zn8 {b:List UInt8} {no:Bool} {k:Nat} (hb:b.length≤1000000) (h:b.length≤k∨8 < k∨(0 < k∧b[k]? =some 0)):Xh fuel (k:Int) (b,no)=some (true,(k:Int),(b,no)):=by
 unfold Xh
 dsimp only
 by_cases h1:b.length≤k
 ·rw [if_pos (decide_eq_true (by omega))]
 rw [if_neg (by rw [decide_eq_true_iff];omega)]
 by_cases h2:8 < k
 ·rw [if_pos (decide_eq_true (by omega))]
 rw [if_neg (by rw [decide_eq_true_iff];omega)]
 rcases h with h|h|⟨h,h3⟩
 ·exact absurd h h1
 ·exact absurd h h2
 rw [if_pos (decide_eq_true (by omega)),ZD h3,yb]
 rfl
theorem ZEh {b:List UInt8} {no:Bool} {k:Nat} {d:UInt8} (hb:b.length≤1000000) (hx:b[k]? =some d) (h2:¬8 < k) (h3:¬(0 < k∧d.toNat=0)):Xh fuel (k:Int) (b,no)=some (false,(k:Int),(b,no)):=by
 unfold Xh
 have h1:k < b.length:=(yj.1 hx).1
 dsimp only
 rw [if_neg (by rw [decide_eq_true_iff];omega),if_neg (by rw [decide_eq_true_iff];omega)]
 by_cases h4:0 < k
 ·rw [if_pos (decide_eq_true (by omega)),ZD hx,yb]
  have:(d==0)=false:=by
   rw [beq_eq_false_iff_ne]
   intro h
   exact h3 ⟨h4,by rw [h];rfl⟩
  rw [this]
 ·rw [if_neg (by rw [decide_eq_true_iff];omega)]
theorem Zz0 {b:List UInt8} {no:Bool} (hb:b.length≤1000000):∀(f k n m:Nat),k+f=10→f < m→n < 128 ^ k→
 Zc (XD fuel) m ((n:Int),(b,no),(k:Int))=some (if (Vy b f k n).1=true then .inr (((Vy b f k n).2.1:Int),(b,no),((Vy b f k n).2.2:Int)) else .inl ((0:Int),([],true),((Vy b f k n).2.2:Int)))
 |f,k,n,0,_,h,_=>by omega
 |0,k,n,m+1,h,_,_=>by
  unfold Zc XD
  dsimp only
  rw [Zn8 hb (.inr (.inl (by omega))),yb]
  rfl
 |f+1,k,n,m+1,h,hf,hn=>by
  unfold Zc XD
  dsimp only
  by_cases h1:b.length≤k
  ·rw [ZtL h1,Zn8 hb (.inl h1),yb]
   rfl
  obtain ⟨d,hx,_⟩:=Zq (l:=b) (k:=k) (by omega)
  by_cases h2:8 < k
  ·rw [ZvN hx h2,Zn8 hb (.inr (.inl h2)),yb]
   rfl
  by_cases h3:0 < k∧d.toNat=0
  ·rw [Zn6 hx h2 h3,Zn8 hb (.inr (.inr ⟨h3.1,by rw [hx,show d=0 from UInt8.toNat_inj.1 h3.2]⟩)),yb]
   rfl
  rw [ZEh hb hx h2 h3,yb]
  dsimp only
  rw [if_neg (by decide),ZD hx,yb,ZGX hn (by omega),
   if_pos (decide_eq_true (by rw [Zy (by omega) (by omega)];omega)),ZE (by omega)]
  have hlt:decide (d < 128)=decide (d.toNat < 128):=by
   rw [Bool.eq_iff_iff,decide_eq_true_iff,decide_eq_true_iff,UInt8.lt_iff_toNat_lt]
   rfl
  rw [hlt]
  by_cases h4:d.toNat < 128
  ·rw [Zmn hx h2 h3 h4,if_pos (decide_eq_true h4)]
   rfl
  ·rw [Zmo hx h2 h3 h4,if_neg (by rw [decide_eq_true_iff];exact h4)]
   exact Zz0 hb f (k+1) _ m (by omega) (by omega) (ZEg n k d hn)
theorem ZxY {r:Zr} (h:r.1.length≤1000000):Xi fuel r=some (ZGW r):=by
 obtain ⟨b,no⟩:=r
 unfold Xi ZGW
 dsimp only at h ⊢
 have:=Zz0 (no:=no) h 10 0 0 fuel (by omega) (by rw [Zbo];omega) (by omega)
 rw [show ((0:Nat):Int)=0 from rfl] at this
 rw [this,yb]
 by_cases hg:(Vy b 10 0 0).1=true
 ·have hl:=ZzZ b 10 0 0 hg
  rw [if_pos hg,if_pos hg]
  dsimp only
  rw [if_pos (ZCS (by omega) (by omega)),ybq]
 ·rw [if_neg hg,if_neg hg]
theorem ZIk {b:List UInt8} (h:b.length≤1000000):ZgV fuel b=some (b,false):=by
 unfold ZgV
 rw [ZzY (by omega),yb]
theorem ZEi {l:List UInt64} (hl:l.length≤9223372036854775807):∃b,Za8 fuel l=some b∧(b=false→∀p,p∈l→Zad p.toNat):=by
 unfold Za8 Zae
 obtain ⟨x,h1,h2⟩:=YL (step:=YR fuel) l.length (fun k s=>s=(l,(l.length:Int),(k:Int))∧∀j p,j < k→l[j]? =some p→Zad p.toNat) (fun x=>(∃k:Nat,x=.inl (k:Int))∨x=.inr ()∧∀p,p∈l→Zad p.toNat) (i:=(l,(l.length:Int),(0:Int))) ⟨rfl,fun j p hj=>by omega⟩ (by omega) (by
  rintro k _ hk ⟨rfl,hj⟩
  obtain ⟨e,he,_⟩:=Zq hk
  unfold YR
  dsimp only
  rw [if_pos (YY hk),ZD he,yb,ZBy,yb,ZE (by omega)]
  by_cases hp:Zad e.toNat
  ·rw [decide_eq_true hp]
   left
   refine ⟨_,rfl,rfl,fun j p h3 h4=> ?_⟩
   by_cases h5:j < k
   ·exact hj j p h5 h4
   ·have:j=k:=by omega
    subst this
    rw [he] at h4
    cases h4
    exact hp
  ·rw [decide_eq_false hp]
   right
   exact ⟨_,rfl,.inl ⟨k,rfl⟩⟩) (by
  rintro _ ⟨rfl,hj⟩
  unfold YR
  dsimp only
  rw [if_neg (by rw [Yo];decide)]
  refine ⟨_,rfl,.inr ⟨rfl,fun p hp=> ?_⟩⟩
  obtain ⟨j,hj1,hj2⟩:=ycq hp
  exact hj j p hj1 (by rw [yw hj1,hj2]))
 rw [h1,yb]
 rcases h2 with ⟨k,rfl⟩|⟨rfl,h2⟩
 ·dsimp only
  rw [yb]
  refine ⟨_,rfl,fun h=> ?_⟩
  exact absurd (of_decide_eq_false h) (by omega)
 ·exact ⟨_,rfl,fun _=>h2⟩
def ZGY (l:Lock):Prop:=l.length≤9223372036854775807∧∀b,b∈l→b.1.length≤9223372036854775807
theorem Zp7 (z:Int):∃b,WS fuel z=some b∧(b=true→0≤z∧z≤1048576):=by
 unfold WS
 by_cases h:z ≥ 0
 ·rw [if_pos (decide_eq_true h)]
  exact ⟨_,rfl,fun h2=>⟨h,of_decide_eq_true h2⟩⟩
 ·rw [if_neg (by rw [decide_eq_true_iff];exact h)]
  exact ⟨_,rfl,fun h2=>by cases h2⟩
theorem Zj8 {l:Lock} (hl:ZGY l):∃b,YC fuel l=some b∧(b=true↔Zaz l∧Zbj l):=by
 have key:∃b,YC fuel l=some b∧(b=true→Zaz l∧Zbj l):=by
  unfold YC
  obtain ⟨h0,h1⟩:=hl
  obtain ⟨x,hx,hp⟩:=YL (step:=XR fuel) l.length (fun k s=>s=(l,(l.length:Int),(k:Int),l)∧∀j b,j < k→l[j]? =some b→ZGF b∧ZGG b)
   (fun x=>x=.inl (false,l)∨(x=.inr l∧∀b,b∈l→ZGF b∧ZGG b)) (i:=(l,(l.length:Int),(0:Int),l)) ⟨rfl,fun j b hj=>by omega⟩ (by omega) (by
   rintro k _ hk ⟨rfl,hj⟩
   obtain ⟨e,he,hm⟩:=Zq hk
   have hnext:(ZGF e∧ZGG e)→∀j b,j < k+1→l[j]? =some b→ZGF b∧ZGG b:=by
    intro hE j b h2 h3
    by_cases h4:j < k
    ·exact hj j b h4 h3
    ·have:j=k:=by omega
     subst this
     rw [he] at h3
     cases h3
     exact hE
   unfold XR
   dsimp only
   rw [if_pos (YY hk),ZD he,yb]
   by_cases k1:(e.1.length:Int) > 12
   ·right
    rw [if_pos (decide_eq_true k1)]
    exact ⟨_,rfl,.inl rfl⟩
   rw [if_neg (by rw [decide_eq_true_iff];exact k1)]
   obtain ⟨b,hb,hbp⟩:=ZEi (h1 e hm)
   rw [hb,yb]
   cases b with
   |true=>right;exact ⟨_,rfl,.inl rfl⟩
   |false=>
    obtain ⟨c,hc,hc2⟩:=Zp7 e.2.1
    obtain ⟨d,hd,hd2⟩:=Zp7 e.2.2.1
    rw [if_neg (by decide),hc,yb,hd,yb]
    cases c with
    |false=>right;exact ⟨_,rfl,.inl rfl⟩
    |true=>
     cases d with
     |false=>right;exact ⟨_,rfl,.inl rfl⟩
     |true=>
      have hn:=fun hz:e.2.2.2≠0→Zad e.2.2.2.toNat=>hnext ⟨⟨by omega,(hc2 rfl).1,(hc2 rfl).2,(hd2 rfl).1,(hd2 rfl).2⟩,hbp rfl,hz⟩
      rw [if_neg (by decide),if_neg (by decide),ZE (by omega)]
      by_cases hz:e.2.2.2=0
      ·rw [if_neg (by rw [hz];decide)]
       left;exact ⟨_,rfl,rfl,hn fun h=>absurd hz h⟩
      ·rw [if_pos (by simp [hz]),ZBy,yb]
       by_cases hpt:Zad e.2.2.2.toNat
       ·rw [decide_eq_true hpt]
        left;exact ⟨_,rfl,rfl,hn fun _=>hpt⟩
       ·rw [decide_eq_false hpt]
        right;exact ⟨_,rfl,.inl rfl⟩) (by
   rintro _ ⟨rfl,hj⟩
   unfold XR
   dsimp only
   rw [if_neg (by rw [Yo];decide)]
   refine ⟨_,rfl,.inr ⟨rfl,fun b hb=> ?_⟩⟩
   obtain ⟨j,hj1,hj2⟩:=ycq hb
   exact hj j b hj1 (by rw [yw hj1,hj2]))
  rw [hx,yb]
  rcases hp with rfl|⟨rfl,hp⟩
  ·exact ⟨_,rfl,fun h=>by cases h⟩
  ·dsimp only
   by_cases h2:(l.length:Int) > 0
   ·rw [if_pos (decide_eq_true h2)]
    refine ⟨_,rfl,fun h3=>⟨⟨by omega, ?_,fun b hb=>(hp b hb).1⟩,fun b hb=>(hp b hb).2⟩⟩
    have:=of_decide_eq_true h3
    omega
   ·rw [if_neg (by rw [decide_eq_true_iff];exact h2)]
    exact ⟨_,rfl,fun h=>by cases h⟩
 obtain ⟨b,h1,h2⟩:=key
 refine ⟨b,h1,h2,fun h=> ?_⟩
 rw [Zbk h.1 h.2] at h1
 exact (Option.some.inj h1).symm
theorem ZIl {α:Type} {l:List α} {k:Nat} {e:α} (h:l[k]? =some e):l.drop k=e::l.drop (k+1):=by
 obtain ⟨h1,h2⟩:=yj.1 h
 rw [List.drop_eq_getElem_cons h1,h2]
theorem Zz1 {α:Type} {f:α→List UInt8} {l:List α} {k:Nat} {e:α} (h:l[k]? =some e):cat f (l.drop k)=f e++cat f (l.drop (k+1)):=by
 rw [ZIl h,ZzT]
theorem Zhv {α:Type} {f:α→List UInt8} {c n:Nat} {l:List α} (h:∀x,x∈l→(f x).length≤c) (hn:l.length≤n) (k:Nat):(cat f (l.drop k)).length≤n*c:=by
 refine Nat.le_trans (ZxV fun x hx=>h x (List.mem_of_mem_drop hx)) (ybr c ?_)
 rw [List.length_drop]
 omega
theorem ZBC {a:List UInt8} (h:a.length≤1000000):Xu fuel a a=some true:=by
 unfold Xu
 rw [if_neg (by simp),show (a,a,(a.length:Int),(0:Int))=(fun k:Nat=>(a,a,(a.length:Int),(k:Int))) 0 from rfl,Z3 (x:=.inr ()) a.length (fun k:Nat=>(a,a,(a.length:Int),(k:Int))) ?_ ?_ (by omega),yb]
 ·intro k hk
  obtain ⟨e,he,_⟩:=Zq hk
  unfold YT
  dsimp only
  rw [if_pos (YY hk),ZD he,yb,yb,ZE (by omega),if_neg (by simp)]
 ·unfold YT
  dsimp only
  rw [if_neg (by rw [Yo];decide)]
theorem ZEj {b:List UInt8} {n i:Int} {l:Lock} {rest:List UInt8} {acc:List ZO} {i1 i2:Int} {u:UInt64} {ks:List UInt64} (hk:ks.length≤12) (hr:rest.length≤100000):
 Zc (Qk fuel) fuel (b,n,i,(ks.length:Int),(0:Int),l,(cat ZtF ks++rest,false),acc,i1,i2,u,([]:List UInt64))=some (b,n,i,l,(rest,false),acc,i1,i2,u,ks):=by
 refine Z3 ks.length (fun k:Nat=>(b,n,i,(ks.length:Int),(k:Int),l,(cat ZtF (ks.drop k)++rest,false),acc,i1,i2,u,ks.take k)) ?_ ?_ (by omega)
 ·intro k hk2
  obtain ⟨e,he,_⟩:=Zq hk2
  have hl:=Zhv (f:=ZtF) (c:=8) (fun x _=>Nat.le_of_eq (Qm _)) hk k
  unfold Qk
  dsimp only
  rw [if_pos (YY hk2),ZCT (by dsimp only;rw [yl];omega),yb,Zz1 he,yae]
  unfold ZtF
  rw [ZCU,if_pos (Yy (by rw [yab];omega) (by rw [yab];omega)),ZE (by omega),Zhg he]
 ·unfold Qk
  dsimp only
  rw [if_neg (by rw [Yo];decide),List.drop_length,ybo]
  rfl
theorem ZEk {l:Lock} (h:Zaz l) (hp:Zbj l):ZgW fuel (ZtG l)=some (l,true):=by
 have hlen:=ZEb h
 unfold ZgW
 rw [ZIk (by omega),yb,ZxY (by dsimp only;omega),yb]
 have h0:=h.2.1
 have e0:ZGW (ZtG l,false)=((l.length:Int),(cat brF l,false)):=by
  have:=Zq4 (z:=(l.length:Int)) (by omega) (by omega) (cat brF l)
  rw [ybq] at this
  exact this
 have hbl:∀k,(cat brF (l.drop k)).length≤4*131:=Zhv (fun x hx=>ZxW (h.2.2 x hx)) h0
 rw [e0]
 dsimp only
 generalize hb:ZtG l=b at hlen
 rw [show (b,(l.length:Int),(0:Int),([]:Lock),(cat brF l,false),([]:List ZO))=(fun k:Nat=>(b,(l.length:Int),(k:Int),([]:Lock),(cat brF (l.drop k),false),l.take k)) 0 from rfl,
  Z3 (x:=(b,([]:Lock),(([]:List UInt8),false),l)) l.length (fun k:Nat=>(b,(l.length:Int),(k:Int),([]:Lock),(cat brF (l.drop k),false),l.take k)) ?_ ?_ (by omega),yb]
 ·dsimp only
  rw [Zbk h hp,yb,if_neg (by decide),ZtI h hp,yb,hb,ZBC (by omega),yb]
  rfl
 ·intro k hk
  obtain ⟨e,he,hm⟩:=Zq hk
  obtain ⟨e1,e2,e3,e4,e5⟩:=h.2.2 e hm
  have hl:=hbl k
  have hl2:=hbl (k+1)
  have r2:=Wo (n:=e.2.1.toNat) (by omega)
  have r3:=Wo (n:=e.2.2.1.toNat) (by omega)
  have r4:=Qm e.2.2.2.toNat
  have hks:=Zhv (f:=ZtF) (c:=8) (l:=e.1) (fun x _=>Nat.le_of_eq (Qm _)) e1 0
  rw [List.drop_zero] at hks
  unfold Zbv
  dsimp only
  rw [if_pos (YY hk),ZxY (by dsimp only;omega),yb,if_neg (by rw [beq_iff_eq];omega),Zz1 he]
  unfold brF
  simp only [yae]
  have q1:=Zq4 (z:=(e.1.length:Int)) (by omega) (by omega) (cat ZtF e.1++(QD e.2.1.toNat++(QD e.2.2.1.toNat++(Zo8 e.2.2.2.toNat++cat brF (l.drop (k+1))))))
  rw [ybq] at q1
  unfold brF at q1 hl2
  rw [q1]
  dsimp only
  rw [if_neg (by rw [decide_eq_true_iff];omega),ZEj e1 (by simp only [yl];omega),yb]
  dsimp only
  rw [ZxY (by simp only [yl];omega),yb,Zq4 e2 (by omega)]
  dsimp only
  rw [ZxY (by simp only [yl];omega),yb,Zq4 e4 (by omega)]
  dsimp only
  rw [ZCT (by simp only [yl];omega),yb,ZCU,if_pos (Yy (by rw [yab];omega) (by rw [yab];omega)),ZE (by omega),Zhg he]
 ·unfold Zbv
  dsimp only
  rw [if_neg (by rw [Yo];decide),List.drop_length,ybo]
  rfl
end Go.Proofs.YtmkgbalfkhaflaaGreat
end
section
set_option maxRecDepth 4000
namespace Go.Proofs.YtmkgbalfkhaflaaGreat
open Go Go.Ev
def amt (l:List Out) (p:Nat):Int:=((l[p]?).map (·.1)).getD 0
theorem Zq5 {l:List Out} {p:Nat} {e:Out} (h:l[p]? =some e):amt l p=e.1:=by
 unfold amt
 rw [h]
 rfl
theorem ZCW {l:List Out} {j p:Nat} {x:Out} (h:j < l.length):amt (l.set j x) p=if p=j then x.1 else amt l p:=by
 unfold amt
 by_cases hp:p=j
 ·subst hp
  rw [List.getElem?_set_self h,if_pos rfl]
  rfl
 ·rw [List.getElem?_set_ne (Ne.symm hp),if_neg hp]
def ZCX (l:List Out):Prop:=∀o,o∈l→0≤o.1∧o.1≤1152921504606846976
theorem ZIm {a b:Out} (ha:0≤a.1∧a.1≤1152921504606846976) (hb:0≤b.1∧b.1≤1152921504606846976):∃z,Qs fuel a b=some z∧(z < 0→a.1≤b.1)∧(¬z < 0→b.1≤a.1):=by
 unfold Qs
 rw [Zy (by omega) (by omega)]
 exact ⟨_,rfl,fun _=>by omega,fun _=>by omega⟩
def But (l:List Out) (i j:Nat):Prop:=∀p q,p < q→q≤i→q≠j→amt l p≤amt l q
theorem ZCY (n:Int) (i:Nat):∀(j f:Nat) (u:List Unit) (l:List Out),j < f→j≤i→i < l.length→l.length≤20→ZCX l→But l i j→
 ∃r,Zc (Xx fuel) f ((0:Int),n,(i:Int),(j:Int),u,l)=some ((0:Int),n,(i:Int),u,r)∧r.Perm l∧∀p q,p < q→q≤i→amt r p≤amt r q
 |0,f,u,l,hf,hj,hi,hl,hA,hb=>by
  obtain ⟨f,rfl⟩:=Nat.exists_eq_succ_of_ne_zero (n:=f) (by omega)
  have e:Xx fuel ((0:Int),n,(i:Int),((0:Nat):Int),u,l)=some (.inr ((0:Int),n,(i:Int),u,l)):=by
   unfold Xx
   dsimp only
   rw [if_neg (by rw [decide_eq_true_iff];omega)]
  unfold Zc
  rw [e,yb]
  exact ⟨_,rfl,List.Perm.refl _,fun p q h1 h2=>hb p q h1 h2 (by omega)⟩
 |j+1,f,u,l,hf,hj,hi,hl,hA,hb=>by
  obtain ⟨f,rfl⟩:=Nat.exists_eq_succ_of_ne_zero (n:=f) (by omega)
  obtain ⟨x,hx,xm⟩:=Zq (l:=l) (k:=j+1) (by omega)
  obtain ⟨y,hy,ym⟩:=Zq (l:=l) (k:=j) (by omega)
  obtain ⟨z,hz,z1,z2⟩:=ZIm (hA x xm) (hA y ym)
  have ax:=Zq5 hx
  have ay:=Zq5 hy
  have e1:wi (((j+1:Nat):Int) - 1)=(j:Int):=by rw [Zy (by omega) (by omega)];omega
  have hset:(l.set (j+1) y).length=l.length:=List.length_set
  obtain ⟨w,hw,_⟩:=Zq (l:=l.set (j+1) y) (k:=j) (by omega)
  have hstep:Xx fuel ((0:Int),n,(i:Int),((j+1:Nat):Int),u,l)=if z < 0 then some (.inl ((0:Int),n,(i:Int),(j:Int),u,(l.set (j+1) y).set j x)) else some (.inr ((0:Int),n,(i:Int),u,l)):=by
   unfold Xx
   dsimp only
   rw [if_pos (decide_eq_true (by omega)),e1,if_pos (YP (by omega) (by omega)),ybq,ybq,hx,yb,if_pos (YP (by omega) (by omega)),hy,yb,hz,yb]
   by_cases h0:z < 0
   ·rw [if_pos (decide_eq_true h0),if_pos (YP (by omega) (by omega)),yb,if_pos (YP (by omega) (by omega)),yb,if_pos (YP (by omega) (by omega)),yb,if_pos (YP (by omega) (by omega)),hw,yb,if_pos h0]
   ·rw [if_neg (by rw [decide_eq_true_iff];exact h0),if_neg h0]
  unfold Zc
  rw [hstep]
  by_cases h0:z < 0
  ·rw [if_pos h0,yb]
   have hp:((l.set (j+1) y).set j x).Perm l:=by
    have h:=@List.set_set_perm _ l (j+1) j (by omega) (by omega)
    rw [(yj.1 hx).2,(yj.1 hy).2] at h
    exact h
   have ha:∀p,amt ((l.set (j+1) y).set j x) p=if p=j then x.1 else if p=j+1 then y.1 else amt l p:=by
    intro p
    rw [ZCW (by omega),ZCW (by omega)]
   obtain ⟨r,r1,r2,r3⟩:=ZCY n i j f u ((l.set (j+1) y).set j x) (by omega) (by omega) (by simp;omega) (by simp;omega) (fun o ho=>hA o (hp.mem_iff.1 ho)) (by
    intro p q h1 h2 h3
    rw [ha,ha,if_neg h3]
    have hz1:=z1 h0
    by_cases k1:q=j+1
    ·subst k1
     rw [if_pos rfl]
     by_cases k2:p=j
     ·rw [if_pos k2]
      exact hz1
     ·rw [if_neg k2,if_neg (by omega), ←ay]
      exact hb p j (by omega) (by omega) (by omega)
    ·rw [if_neg k1]
     by_cases k2:p=j
     ·rw [if_pos k2, ←ax]
      exact hb (j+1) q (by omega) h2 k1
     ·rw [if_neg k2]
      by_cases k3:p=j+1
      ·rw [if_pos k3, ←ay]
       exact hb j q (by omega) h2 k1
      ·rw [if_neg k3]
       exact hb p q h1 h2 k1)
   exact ⟨r,r1,r2.trans hp,r3⟩
  ·rw [if_neg h0,yb]
   refine ⟨_,rfl,List.Perm.refl _, ?_⟩
   intro p q h1 h2
   by_cases k1:q=j+1
   ·subst k1
    have h3:=z2 h0
    by_cases k2:p=j
    ·rw [k2,ax,ay]
     exact h3
    ·have:=hb p j (by omega) (by omega) (by omega)
     omega
   ·exact hb p q h1 h2 k1
theorem ZGZ (u:List Unit) (l:List Out) (hl:l.length≤20) (hA:ZCX l):∃r,WT fuel (0:Int) (l.length:Int) u l=some (u,r)∧r.Perm l∧∀p q,p < q→q < l.length→amt r p≤amt r q:=by
 unfold WT
 rw [show wi ((0:Int)+1)=1 from rfl]
 obtain ⟨x,g1,r,rfl,g2,g3⟩:=YL (step:=Xy fuel) (l.length - 1) (fun k s=>∃r,s=((0:Int),(l.length:Int),((k+1:Nat):Int),u,r)∧r.Perm l∧∀p q,p < q→q < k+1→amt r p≤amt r q) (fun x=>∃r,x=(u,r)∧r.Perm l∧∀p q,p < q→q < l.length→amt r p≤amt r q)
  (i:=((0:Int),(l.length:Int),(1:Int),u,l)) ⟨_,rfl,List.Perm.refl _,fun p q h1 h2=>by omega⟩ (by omega) (by
  rintro k _ hk ⟨r,rfl,hp,hs⟩
  left
  have hrl:=hp.length_eq
  obtain ⟨t,t1,t2,t3⟩:=ZCY (l.length:Int) (k+1) (k+1) fuel u r (by rw [Zbo];omega) (by omega) (by omega) (by omega) (fun o ho=>hA o (hp.mem_iff.1 ho)) (fun p q h1 h2 h3=>hs p q h1 (by omega))
  unfold Xy
  dsimp only
  rw [if_pos (decide_eq_true (by omega)),t1,yb]
  dsimp only
  rw [ZE (by omega)]
  exact ⟨_,rfl,_,rfl,t2.trans hp,fun p q h1 h2=>t3 p q h1 (by omega)⟩) (by
  rintro _ ⟨r,rfl,hp,hs⟩
  unfold Xy
  dsimp only
  rw [if_neg (by rw [decide_eq_true_iff];omega)]
  exact ⟨_,rfl,_,rfl,hp,fun p q h1 h2=>hs p q h1 (by omega)⟩)
 rw [g1,yb]
 exact ⟨_,rfl,g2,g3⟩
theorem ZEl (u:List Unit) (l:List Out) {a b:Int} (h:b≤a) (h0:0≤a) (h1:a≤100):WT fuel a b u l=some (u,l):=by
 unfold WT
 rw [Zy (z:=a+1) (by omega) (by omega)]
 have e:Zc (Xy fuel) fuel (a,b,a+1,u,l)=some (u,l):=by
  refine Z3 0 (fun k:Nat=>(a,b,a+1,u,l)) (fun k hk=>by omega) ?_ (by omega)
  unfold Xy
  dsimp only
  rw [if_neg (by rw [decide_eq_true_iff];omega)]
 rw [e,yb]
theorem ZJ6 (u:List Unit) (l:List Out) (hl:l.length≤20) (hA:ZCX l):∃r,Znz fuel u l=some (u,r)∧r.Perm l∧∀p q,p < q→q < l.length→amt r p≤amt r q:=by
 obtain ⟨r,r1,r2,r3⟩:=ZGZ u l hl hA
 have hrl:=r2.length_eq
 have fin:∀(a:Int) (b:Int),Zc (Qt fuel) fuel ((l.length:Int),(20:Int),u,r)=some (u,r):=by
  intro _ _
  refine Z3 0 (fun k:Nat=>((l.length:Int),(20:Int),u,r)) (fun k hk=>by omega) ?_ (by omega)
  unfold Qt
  dsimp only
  rw [if_neg (by rw [decide_eq_true_iff];omega)]
 unfold Znz Zg0
 by_cases h20:l.length=20
 ·have e:Zc (Xz fuel) fuel ((l.length:Int),(20:Int),(0:Int),(20:Int),u,l)=some ((l.length:Int),(20:Int),(20:Int),u,r):=by
   refine Z3 1 (fun k:Nat=>if k=0 then ((l.length:Int),(20:Int),(0:Int),(20:Int),u,l) else ((l.length:Int),(20:Int),(20:Int),(40:Int),u,r)) ?_ ?_ (by omega)
   ·intro k hk
    have:k=0:=by omega
    subst this
    rw [if_pos rfl,if_neg (by omega)]
    unfold Xz
    dsimp only
    rw [h20] at r1
    rw [if_pos (decide_eq_true (by omega))]
    rw [show ((20:Nat):Int)=20 from rfl] at r1
    rw [r1,yb]
    dsimp only
    rw [if_pos (by simp [hrl])]
    rfl
   ·rw [if_neg (by omega)]
    unfold Xz
    dsimp only
    rw [if_neg (by rw [decide_eq_true_iff];omega)]
  rw [e,yb]
  dsimp only
  rw [ZEl u r (by omega) (by omega) (by omega),yb]
  dsimp only
  rw [fin 0 0,yb,yb]
  exact ⟨r,rfl,r2,r3⟩
 ·have e:Zc (Xz fuel) fuel ((l.length:Int),(20:Int),(0:Int),(20:Int),u,l)=some ((l.length:Int),(20:Int),(0:Int),u,l):=by
   refine Z3 0 (fun k:Nat=>((l.length:Int),(20:Int),(0:Int),(20:Int),u,l)) (fun k hk=>by omega) ?_ (by omega)
   unfold Xz
   dsimp only
   rw [if_neg (by rw [decide_eq_true_iff];omega)]
  rw [e,yb]
  dsimp only
  rw [r1,yb]
  dsimp only
  rw [fin 0 0,yb,yb]
  exact ⟨r,rfl,r2,r3⟩
end Go.Proofs.YtmkgbalfkhaflaaGreat
end
section
set_option maxRecDepth 4000
namespace Go.Proofs.YtmkgbalfkhaflaaGreat
open Go Go.Ev
theorem ZCZ {l:Lock} (h:Zaz l) (hp:Zbj l):Vf fuel l=some l:=by
 unfold Vf
 rw [ZtI h hp,yb,ZEk h hp,yb]
def W7 (op h0 h1 fee i:Int):Int:=if i=op then hav i h0 h1 - fee else hav i h0 h1
def ZG0 (l0 l1:Lock) (i:Int):Lock:=if i=0 then l0 else l1
def ZqI (op h0 h1 fee:Int) (l0 l1:Lock) (i:Int):List Out:=if W7 op h0 h1 fee i ≥ 100 then [(W7 op h0 h1 fee i,ZG0 l0 l1 i)] else []
theorem Zj9 (d z:Int):YQ fuel (Tm d) z=some (decide (z ≥ 100)):=rfl
theorem ZvP {A:Int} {k0 k1:Kit} {op:Int} {s:State} {h0 h1 fee:Int} {l0 l1:Lock} (i:Int) (hi:i=0∨i=1) (hb0:0≤h0∧h0≤5000000000) (hb1:0≤h1∧h1≤5000000000) (hf:0≤fee∧fee≤5000000000)
 (k0':Zaz l0∧Zbj l0) (k1':Zaz l1∧Zbj l1) (t:Tx) (ins:List In) (note:Int) (u:List Unit) (acc:List Out) (ha:acc.length≤5):
 ∃u',WH fuel (fee,[h0,h1],i,Yc A k0 k1 op,s,[l0,l1],t,ins,note,u,acc)=some (.inl (fee,[h0,h1],i+1,Yc A k0 k1 op,s,[l0,l1],t,ins,note,u',acc++ZqI op h0 h1 fee l0 l1 i)):=by
 have hT:(Yc A k0 k1 op).2.2.2.1=[Tm 5,Tm 6]:=rfl
 have hO:(Yc A k0 k1 op).2.2.2.2=op:=rfl
 have hidx:idx ([h0,h1]:List Int) i=some (hav i h0 h1):=by rcases hi with rfl|rfl <;> rfl
 have hlk:([l0,l1]:List Lock)[i.toNat]? =some (ZG0 l0 l1 i):=by rcases hi with rfl|rfl <;> rfl
 have hk:Vf fuel (ZG0 l0 l1 i)=some (ZG0 l0 l1 i):=by
  rcases hi with rfl|rfl
  ·exact ZCZ k0'.1 k0'.2
  ·exact ZCZ k1'.1 k1'.2
 have hh:0≤hav i h0 h1∧hav i h0 h1≤5000000000:=by
  unfold hav
  split <;> omega
 have hw:wi (i+1)=i+1:=by rcases hi with rfl|rfl <;> rfl
 unfold WH
 dsimp only
 rw [if_pos (by rcases hi with rfl|rfl <;> rfl),hidx,yb,hO,hT]
 unfold ZqI W7
 generalize hx:hav i h0 h1=x at hh
 by_cases he:i=op
 ·rw [if_pos (by rw [he];exact beq_self_eq_true _),Zy (z:=x - fee) (by omega) (by omega)]
  simp only [yaq,yaj,yb,Zj9,if_pos he]
  by_cases hs:x - fee ≥ 100
  ·simp only [decide_eq_true hs,if_true,if_pos (XF hi),hlk,yb,hk,if_pos hs,hw]
   rw [if_pos (Yy (by omega) (by omega))]
   exact ⟨_,rfl⟩
  ·simp only [decide_eq_false hs,Bool.false_eq_true,if_false,if_neg hs,ybb,hw]
   exact ⟨_,rfl⟩
 ·rw [if_neg (by rw [beq_iff_eq];exact he)]
  simp only [yaq,yaj,yb,Zj9,if_neg he]
  by_cases hs:x ≥ 100
  ·simp only [decide_eq_true hs,if_true,if_pos (XF hi),hlk,yb,hk,if_pos hs,hw]
   rw [if_pos (Yy (by omega) (by omega))]
   exact ⟨_,rfl⟩
  ·simp only [decide_eq_false hs,Bool.false_eq_true,if_false,if_neg hs,ybb,hw]
   exact ⟨_,rfl⟩
def outs0 (op h0 h1 fee:Int) (l0 l1:Lock):List Out:=ZqI op h0 h1 fee l0 l1 0++ZqI op h0 h1 fee l0 l1 1
theorem ZtM (op h0 h1 fee:Int) (l0 l1:Lock) (i:Int):(ZqI op h0 h1 fee l0 l1 i).length≤1:=by
 unfold ZqI
 split <;> simp
theorem ZvQ (op h0 h1 fee:Int) (l0 l1:Lock):(outs0 op h0 h1 fee l0 l1).length≤2:=by
 unfold outs0
 have:=ZtM op h0 h1 fee l0 l1 0
 have:=ZtM op h0 h1 fee l0 l1 1
 rw [yl]
 omega
theorem ZG1 {A:Int} {k0 k1:Kit} {op:Int} (h:ChOk A k0 k1 op) {s:State} {h0 h1:Int} (hs:StIn A s h0 h1) (hc:hav op h0 h1 ≥ cost s.2.2.2 s.2.2.1.length):V5 fuel (Yc A k0 k1 op) s=some (decide (s.2.2.1=[])):=by
 unfold V5
 cases hl:s.2.2.1 with
 |nil=>
  rw [if_pos (by rfl),ZGN h hs,yb,decide_eq_true hc]
  rfl
 |cons a b=>
  rw [if_neg (by rw [beq_iff_eq,yz];omega)]
  rfl
theorem ZC0 {A:Int} {k0 k1:Kit} {op:Int} (ho:op=0∨op=1) {s:State} {h0 h1:Int} (hv:s.2.1=[h0,h1]) (fee:Int):Zbt fuel (Yc A k0 k1 op) s op fee=some (decide (52≤fee∧fee≤hav op h0 h1)):=by
 have hO:(Yc A k0 k1 op).2.2.2.2=op:=rfl
 unfold Zbt
 rw [hO,if_neg (by simp),hv,ZaA ho,if_pos (XF ho)]
 by_cases h:fee ≥ 52
 ·rw [if_pos (decide_eq_true h),yb]
  simp [h]
 ·rw [if_neg (by rw [decide_eq_true_iff];exact h),decide_eq_false (by omega)]
structure Mk (op h0 h1 fee:Int) (l0 l1:Lock) (r:List Out):Prop where
 pm:r.Perm (outs0 op h0 h1 fee l0 l1)
 srt:∀p q,p < q→q < r.length→amt r p≤amt r q
theorem ZIn {A:Int} {k0 k1:Kit} {op:Int} (h:ChOk A k0 k1 op) {s:State} {h0 h1 fee:Int} {l0 l1:Lock} (hs:StIn A s h0 h1) (hc:hav op h0 h1 ≥ cost s.2.2.2 s.2.2.1.length) (hn:s.2.2.1=[])
 (g0:Zaz l0∧Zbj l0) (g1:Zaz l1∧Zbj l1) (f0:52≤fee) (f1:fee≤hav op h0 h1):
 ∃r,Z8 fuel (Yc A k0 k1 op) s [l0,l1] fee=some (([((z32,0),(0,[],0))],r,2097154),0)∧Mk op h0 h1 fee l0 l1 r:=by
 have hA:=h.hi
 have ht:=hs.tot
 rw [hn] at ht
 have h0n:amtC ([]:List ZS)=0:=rfl
 have p0:=hs.p0
 have p1:=hs.p1
 have hh:hav op h0 h1≤4300000000:=by
  unfold hav
  split <;> omega
 have hO:(Yc A k0 k1 op).2.2.2.2=op:=rfl
 unfold Z8
 rw [ZG1 h hs hc,yb,if_neg (by rw [hn];decide),yaq,yb,Zbk g0.1 g0.2,yb,if_neg (by decide)]
 rw [yaj,yaq,yb,Zbk g1.1 g1.2,yb,if_neg (by decide),hO,ZC0 h.o hs.hv,yb,if_neg (by simp [f0,f1]),hs.hv]
 obtain ⟨u1,e1⟩:=ZvP (A:=A) (k0:=k0) (k1:=k1) (op:=op) (s:=s) (h0:=h0) (h1:=h1) (fee:=fee) (l0:=l0) (l1:=l1) 0 (.inl rfl) (by omega) (by omega) (by omega) g0 g1 (([]:List In),([]:List Out),(0:Int)) ([((Yc A k0 k1 op).1,(0,[],0))]:List In) 2097154 [] [] (by simp)
 obtain ⟨u2,e2⟩:=ZvP (A:=A) (k0:=k0) (k1:=k1) (op:=op) (s:=s) (h0:=h0) (h1:=h1) (fee:=fee) (l0:=l0) (l1:=l1) 1 (.inr rfl) (by omega) (by omega) (by omega) g0 g1 (([]:List In),([]:List Out),(0:Int)) ([((Yc A k0 k1 op).1,(0,[],0))]:List In) 2097154 u1 ([]++ZqI op h0 h1 fee l0 l1 0) (by have:=ZtM op h0 h1 fee l0 l1 0;simp;omega)
 rw [show (fee,[h0,h1],(0:Int),Yc A k0 k1 op,s,[l0,l1],(([]:List In),([]:List Out),(0:Int)),([((Yc A k0 k1 op).1,(0,[],0))]:List In),(2097154:Int),([]:List Unit),([]:List Out))=(fun k:Nat=>(fee,[h0,h1],(k:Int),Yc A k0 k1 op,s,[l0,l1],(([]:List In),([]:List Out),(0:Int)),([((Yc A k0 k1 op).1,(0,[],0))]:List In),(2097154:Int),(if k=0 then [] else if k=1 then u1 else u2),(if k=0 then [] else if k=1 then ZqI op h0 h1 fee l0 l1 0 else outs0 op h0 h1 fee l0 l1))) 0 from rfl,
  Z3 (x:=(Yc A k0 k1 op,s,[l0,l1],(([]:List In),([]:List Out),(0:Int)),([((Yc A k0 k1 op).1,(0,[],0))]:List In),(2097154:Int),u2,outs0 op h0 h1 fee l0 l1)) 2 (fun k:Nat=>(fee,[h0,h1],(k:Int),Yc A k0 k1 op,s,[l0,l1],(([]:List In),([]:List Out),(0:Int)),([((Yc A k0 k1 op).1,(0,[],0))]:List In),(2097154:Int),(if k=0 then [] else if k=1 then u1 else u2),(if k=0 then [] else if k=1 then ZqI op h0 h1 fee l0 l1 0 else outs0 op h0 h1 fee l0 l1))) ?_ ?_ (by omega),yb]
 ·dsimp only
  have hAm:ZCX (outs0 op h0 h1 fee l0 l1):=by
   intro o ho
   unfold outs0 ZqI at ho
   have hp:∀i,W7 op h0 h1 fee i≤5000000000:=by
    intro i
    unfold W7 hav
    split <;> split <;> omega
   have hp0:=hp 0
   have hp1:=hp 1
   rw [List.mem_append] at ho
   rcases ho with ho|ho
   all_goals
    split at ho
    ·rw [yat] at ho
     subst ho
     dsimp only
     omega
    ·simp at ho
  have hlen:=ZvQ op h0 h1 fee l0 l1
  obtain ⟨r,r1,r2,r3⟩:=ZJ6 u2 (outs0 op h0 h1 fee l0 l1) (by omega) hAm
  rw [r1,yb]
  dsimp only
  have hrl:=r2.length_eq
  rw [if_pos (by simp [hrl])]
  exact ⟨r,rfl,r2,fun p q hp hq=>r3 p q hp (by omega)⟩
 ·intro k hk
  rcases (show k=0∨k=1 by omega) with rfl|rfl
  ·exact e1
  ·exact e2
 ·unfold WH
  rfl
end Go.Proofs.YtmkgbalfkhaflaaGreat
end
section
set_option maxRecDepth 100000
namespace Go.Proofs.YtmkgbalfkhaflaaGreat
open Go Go.Ev
noncomputable section
def his:FuncId→HI
 |7=>{ eqs:=true,own:=[],still:=[0,42,66,70,79,82,94,97,102,105,110,113,121,124,129,132,141,142,147,148,153,158,173,174,177,182,183,186,191,192,195,232,233,253],row:=[],deep:=[],frz:=[],ghost:=[],gst:=[]}
 |15=>{ eqs:=true,own:=[],still:=[7,8,20,45,48,49,50,55,56,57],row:=[],deep:=[],frz:=[],ghost:=[],gst:=[]}
 |50=>{ eqs:=true,own:=[],still:=[6],row:=[],deep:=[],frz:=[],ghost:=[],gst:=[]}
 |10=>{ eqs:=true,own:=[],still:=[12,13,23,28,37,38,42,43,44,45,58],row:=[],deep:=[],frz:=[],ghost:=[(55,[([6],Zqe,84),([7],Zqe,84)])],gst:=[]}
 |14=>{ eqs:=true,own:=[],still:=[2,30,33,35],row:=[],deep:=[],frz:=[],ghost:=[],gst:=[]}
 |16=>{ eqs:=true,own:=[72,134],still:=[4,5,20,30,38,40,58,62,63,65,72,73,95,97,101,102,103,105,107,122,123,124,125,127,134,135],row:=[],deep:=[],frz:=[],ghost:=[],gst:=[]}
 |13=>{ eqs:=true,own:=[3,15,17],still:=[2,15,16],row:=[],deep:=[],frz:=[],ghost:=[],gst:=[]}
 |48=>{ eqs:=true,own:=[8],still:=[8,9],row:=[],deep:=[],frz:=[],ghost:=[],gst:=[]}
 |47=>{ eqs:=true,own:=[0,16,28],still:=[4,8,10,20],row:=[],deep:=[],frz:=[],ghost:=[],gst:=[]}
 |43=>{ eqs:=true,own:=[],still:=[5,7,8],row:=[],deep:=[],frz:=[],ghost:=[],gst:=[]}
 |12=>{ eqs:=true,own:=[],still:=[3,12,19,37,38,41,43,45],row:=[],deep:=[],frz:=[],ghost:=[],gst:=[]}
 |44=>{ eqs:=true,own:=[],still:=[9,13,17,21],row:=[],deep:=[],frz:=[],ghost:=[],gst:=[]}
 |100=>{ eqs:=true,own:=[],still:=[3],row:=[],deep:=[],frz:=[],ghost:=[],gst:=[]}
 |99=>{ eqs:=true,own:=[],still:=[4,15],row:=[],deep:=[],frz:=[],ghost:=[],gst:=[]}
 |9=>{ eqs:=true,own:=[],still:=[2],row:=[],deep:=[],frz:=[],ghost:=[],gst:=[]}
 |103=>{ eqs:=true,own:=[5,7],still:=[2],row:=[],deep:=[],frz:=[],ghost:=[],gst:=[]}
 |_=>{}
def ghs:FuncId→List (Nat×GOp)
 |15=>[(8,.melt 13)]
 |10=>[(10,.any 14 4 (.arr 2 ZK))]
 |_=>[]
def ZJ7:List (Fs ya):=[V0 18446744073709551616,Zcl 18446744073709551616,ZdY 18446744073709551616,Zcp 18446744073709551616,Zcr 18446744073709551616,ZjI 18446744073709551616,Zfl 18446744073709551616,Zfr 18446744073709551616,ZgX 18446744073709551616,Zei 18446744073709551616,Zeb 18446744073709551616,Zeg 18446744073709551616,Zeu 18446744073709551616,Ztd 18446744073709551616,Zml 18446744073709551616,Zhs 18446744073709551616,X2 18446744073709551616,X1 18446744073709551616,Zeh 18446744073709551616,Zar 18446744073709551616,Zbi 18446744073709551616,Zev 18446744073709551616,Zch 18446744073709551616]
def specs:=ZJ7.map Fs.fo
def ZKY:List (TypeId×String×FuncId):=[]
theorem ZG2:AllOk specs:=Zzk ⟨okN V0 Zcd,okN Zcl ZhL,okN ZdY Zi3,okN Zcp ZhM,okN Zcr ZhV,okN ZjI ZzM,okN Zfl Ve,okN Zfr Zbu,okN ZgX Znk,okN Zei Zts,okN Zeb Zto,okN Zeg Ztr,okN Zeu Ztx,okN Ztd ZzF,okN Zml ZBw,okN Zhs ZxS,okN X2 Qb,okN X1 V9,okN Zeh ZjH,okN Zar Zfe,okN Zbi Zo0,okN Zev Zty,okN Zch Zqf,trivial⟩
theorem ZIo:MtOk ya ZKY:=trivial
theorem ran:ZJz ya his specs ZKY 100 7 ghs=some true:=by decide+kernel
def ZJ8 (F:Nat):Fs ya:=⟨7,[],[],[],[⟨.ret,[(0,.v .bool)],[],[.bool]⟩],fun _=>some true⟩
def ZIH:Fs ya:=ZJ8 fuel
theorem ZJ9:ZIH.Ok:=ZJA ZG2 ZIo ran
end
end Go.Proofs.YtmkgbalfkhaflaaGreat
end
section
set_option maxRecDepth 4000
namespace Go.Proofs.YtmkgbalfkhaflaaGreat
open Go Go.Ev
noncomputable section
def Z1 (F:Nat) (s:(Int×Bool×Int×Int×Corsnedlaw21Play×(List Lock)×Z6×(List Kit)×State×Tx)):Option ((Int×Bool×Int×Int×Corsnedlaw21Play×(List Lock)×Z6×(List Kit)×State×Tx)⊕((Bool×Corsnedlaw21Play×(List Lock)×Z6×(List Kit)×State×Tx)⊕(Int×Bool×Int×Corsnedlaw21Play×(List Lock)×Z6×(List Kit)×State×Tx))):=
 let y893:Bool:=decide (s.2.2.2.1 < (s.2.2.2.2.2.2.2.2.2.2.1.length:Int))
 if y893=true then
  (idx s.2.2.2.2.2.2.2.2.2.2.1 s.2.2.2.1).bind fun e894=>
  (s.2.2.2.2.2.2.1.2.2.2.1[0]?).bind fun e895=>
  (idx s.2.2.2.2.2.2.2.2.2.2.1 s.2.2.2.1).bind fun e896=>
  (YQ F e895 e896.1).bind fun o897=>
  if (!o897)=true then
   some (.inr (.inl (false,s.2.2.2.2.1,s.2.2.2.2.2.1,s.2.2.2.2.2.2.1,s.2.2.2.2.2.2.2.1,s.2.2.2.2.2.2.2.2.1,s.2.2.2.2.2.2.2.2.2)))
  else
  if (decide (s.2.2.2.1 > 0))=true then
   (idx s.2.2.2.2.2.2.2.2.2.2.1 s.2.2.2.1).bind fun e898=>
   (idx s.2.2.2.2.2.2.2.2.2.2.1 (wi (s.2.2.2.1 - 1))).bind fun e899=>
   if (decide (e898.1 < e899.1))=true then
    some (.inr (.inl (false,s.2.2.2.2.1,s.2.2.2.2.2.1,s.2.2.2.2.2.2.1,s.2.2.2.2.2.2.2.1,s.2.2.2.2.2.2.2.2.1,s.2.2.2.2.2.2.2.2.2)))
   else
   some (.inl (s.1,s.2.1,wi (s.2.2.1+e894.1),wi (s.2.2.2.1+1),s.2.2.2.2.1,s.2.2.2.2.2.1,s.2.2.2.2.2.2.1,s.2.2.2.2.2.2.2.1,s.2.2.2.2.2.2.2.2.1,s.2.2.2.2.2.2.2.2.2))
  else
  some (.inl (s.1,s.2.1,wi (s.2.2.1+e894.1),wi (s.2.2.2.1+1),s.2.2.2.2.1,s.2.2.2.2.2.1,s.2.2.2.2.2.2.1,s.2.2.2.2.2.2.2.1,s.2.2.2.2.2.2.2.2.1,s.2.2.2.2.2.2.2.2.2))
 else
 some (.inr (.inr (s.1,s.2.1,s.2.2.1,s.2.2.2.2.1,s.2.2.2.2.2.1,s.2.2.2.2.2.2.1,s.2.2.2.2.2.2.2.1,s.2.2.2.2.2.2.2.2.1,s.2.2.2.2.2.2.2.2.2)))
def W8:Lp:=⟨[(2,.v (.int .i64)),(7,.v .bool),(8,.ref 2 []),(10,.ref 4 []),(11,.ref 5 []),(13,.v (.int .i64)),(14,.v (.int .i64))],[.var (.v Zm) true,.var (.v (.arr 2 ZK)) true,.var (.v Zu) true,.var (.v (.arr 2 Vz)) true,.var (.v Zh) true,.var (.v yTx) true],[(.int .i64),.bool,(.int .i64),(.int .i64),Zm,(.arr 2 ZK),Zu,(.arr 2 Vz),Zh,yTx],[⟨.ret,[(6,.v .bool)],[.var (.v Zm) true,.var (.v (.arr 2 ZK)) true,.var (.v Zu) true,.var (.v (.arr 2 Vz)) true,.var (.v Zh) true,.var (.v yTx) true],[.bool,Zm,(.arr 2 ZK),Zu,(.arr 2 Vz),Zh,yTx]⟩,⟨.exit 0,[(2,.v (.int .i64)),(7,.v .bool),(8,.ref 2 []),(10,.ref 4 []),(11,.ref 5 []),(13,.v (.int .i64))],[.var (.v Zm) true,.var (.v (.arr 2 ZK)) true,.var (.v Zu) true,.var (.v (.arr 2 Vz)) true,.var (.v Zh) true,.var (.v yTx) true],[(.int .i64),.bool,(.int .i64),Zm,(.arr 2 ZK),Zu,(.arr 2 Vz),Zh,yTx]⟩],Zc (Z1 fuel) fuel⟩
theorem ZaC:W8.Ok ya (Zl ya 5) (Zk ya 5 0):=Zg (fi:={ hi:={ still:=[6,21,27,32,38,39,40,41,50,51,61,66,100,138,144,184,185,191,192,200]},lp:=[]}) (specs:={ l:=[Zbp]}) (okS ⟨ZdQ,trivial⟩) trivial (by kernel_rfl) (fun v=>by kernel_rfl)
def ZM (F:Nat) (s:(Int×Bool×Int×Int×Corsnedlaw21Play×(List Lock)×Z6×(List Kit)×State×Tx)):Option ((Int×Bool×Int×Int×Corsnedlaw21Play×(List Lock)×Z6×(List Kit)×State×Tx)⊕(Bool×Int×Corsnedlaw21Play×(List Lock)×Z6×(List Kit)×State×Tx)):=
 if (decide (s.2.2.2.1 < 2))=true then
  if (inB s.2.2.2.1 2)=true then
   (s.2.2.2.2.2.2.2.2.1.2.1[s.2.2.2.1.toNat]?).bind fun e903=>
   if (s.2.2.2.1==s.2.2.2.2.2.2.1.2.2.2.2)=true then
    (s.2.2.2.2.2.2.1.2.2.2.1[0]?).bind fun e904=>
    (YQ F e904 (wi (e903 - s.1))).bind fun o905=>
    if (!o905)=true then
     some (.inl (s.1,s.2.1,wi (s.2.2.1+(wi (e903 - s.1))),wi (s.2.2.2.1+1),s.2.2.2.2.1,s.2.2.2.2.2.1,s.2.2.2.2.2.2.1,s.2.2.2.2.2.2.2.1,s.2.2.2.2.2.2.2.2.1,s.2.2.2.2.2.2.2.2.2))
    else
    (s.2.2.2.2.2.2.1.2.2.2.1[1]?).bind fun e906=>
    (YQ F e906 (wi (e903 - s.1))).bind fun o907=>
    if (!o907)=true then
     some (.inl (s.1,s.2.1,wi (s.2.2.1+(wi (e903 - s.1))),wi (s.2.2.2.1+1),s.2.2.2.2.1,s.2.2.2.2.2.1,s.2.2.2.2.2.2.1,s.2.2.2.2.2.2.2.1,s.2.2.2.2.2.2.2.2.1,s.2.2.2.2.2.2.2.2.2))
    else
    some (.inl (s.1,s.2.1,s.2.2.1,wi (s.2.2.2.1+1),s.2.2.2.2.1,s.2.2.2.2.2.1,s.2.2.2.2.2.2.1,s.2.2.2.2.2.2.2.1,s.2.2.2.2.2.2.2.2.1,s.2.2.2.2.2.2.2.2.2))
   else
   (s.2.2.2.2.2.2.1.2.2.2.1[0]?).bind fun e908=>
   (YQ F e908 e903).bind fun o909=>
   if (!o909)=true then
    some (.inl (s.1,s.2.1,wi (s.2.2.1+e903),wi (s.2.2.2.1+1),s.2.2.2.2.1,s.2.2.2.2.2.1,s.2.2.2.2.2.2.1,s.2.2.2.2.2.2.2.1,s.2.2.2.2.2.2.2.2.1,s.2.2.2.2.2.2.2.2.2))
   else
   (s.2.2.2.2.2.2.1.2.2.2.1[1]?).bind fun e910=>
   (YQ F e910 e903).bind fun o911=>
   if (!o911)=true then
    some (.inl (s.1,s.2.1,wi (s.2.2.1+e903),wi (s.2.2.2.1+1),s.2.2.2.2.1,s.2.2.2.2.2.1,s.2.2.2.2.2.2.1,s.2.2.2.2.2.2.2.1,s.2.2.2.2.2.2.2.2.1,s.2.2.2.2.2.2.2.2.2))
   else
   some (.inl (s.1,s.2.1,s.2.2.1,wi (s.2.2.2.1+1),s.2.2.2.2.1,s.2.2.2.2.2.1,s.2.2.2.2.2.2.1,s.2.2.2.2.2.2.2.1,s.2.2.2.2.2.2.2.2.1,s.2.2.2.2.2.2.2.2.2))
  else
  none
 else
 some (.inr (s.2.1,s.2.2.1,s.2.2.2.2.1,s.2.2.2.2.2.1,s.2.2.2.2.2.2.1,s.2.2.2.2.2.2.2.1,s.2.2.2.2.2.2.2.2.1,s.2.2.2.2.2.2.2.2.2))
def W9:Lp:=⟨[(2,.v (.int .i64)),(7,.v .bool),(8,.ref 2 []),(10,.ref 4 []),(11,.ref 5 []),(13,.v (.int .i64)),(15,.v (.int .i64))],[.var (.v Zm) true,.var (.v (.arr 2 ZK)) true,.var (.v Zu) true,.var (.v (.arr 2 Vz)) true,.var (.v Zh) true,.var (.v yTx) true],[(.int .i64),.bool,(.int .i64),(.int .i64),Zm,(.arr 2 ZK),Zu,(.arr 2 Vz),Zh,yTx],[⟨.exit 2,[(7,.v .bool),(8,.ref 2 []),(11,.ref 5 []),(13,.v (.int .i64))],[.var (.v Zm) true,.var (.v (.arr 2 ZK)) true,.var (.v Zu) true,.var (.v (.arr 2 Vz)) true,.var (.v Zh) true,.var (.v yTx) true],[.bool,(.int .i64),Zm,(.arr 2 ZK),Zu,(.arr 2 Vz),Zh,yTx]⟩],Zc (ZM fuel) fuel⟩
theorem ZaD:W9.Ok ya (Zl ya 5) (Zk ya 5 1):=Zg (fi:={ hi:={ still:=[6,21,27,32,38,39,40,41,50,51,61,66,100,138,144,184,185,191,192,200]},lp:=[]}) (specs:={ l:=[Zbp]}) (okS ⟨ZdQ,trivial⟩) trivial (by kernel_rfl) (fun v=>by kernel_rfl)
def ZY (F:Nat) (a0:Corsnedlaw21Play) (a1:(List Lock)) (a2:Int):Option (Bool):=
 ((some true)).bind fun o878=>
 (W2 F a0).bind fun o879=>
 (a1[0]?).bind fun e880=>
 (Wn F e880).bind fun o881=>
 if (!o881)=true then
  some o878
 else
 (a1[1]?).bind fun e882=>
 (Wn F e882).bind fun o883=>
 if (!o883)=true then
  some o878
 else
 (Z8 F o879.1 o879.2.2 a1 a2).bind fun o884=>
 if (decide ((o879.2.2.2.2.1.length:Int) > 0))=true then
  if o878=true then
   some (o884.2==14)
  else
  some false
 else
 (V4 F o879.1 o879.2.2).bind fun o885=>
 if (!o885)=true then
  if o878=true then
   some (o884.2==14)
  else
  some false
 else
 (a1[0]?).bind fun e886=>
 (YC F e886).bind fun o887=>
 if (!o887)=true then
  if o878=true then
   some (o884.2==1)
  else
  some false
 else
 (a1[1]?).bind fun e888=>
 (YC F e888).bind fun o889=>
 if (!o889)=true then
  if o878=true then
   some (o884.2==1)
  else
  some false
 else
 if (decide (a2 < 52))=true then
  if o878=true then
   if (o884.2==13)=true then
    some ((o884.1.1.length:Int)==0)
   else
   some false
  else
  some false
 else
 if (inB o879.1.2.2.2.2 2)=true then
  (o879.2.2.2.1[o879.1.2.2.2.2.toNat]?).bind fun e890=>
  if (decide (a2 > e890))=true then
   if o878=true then
    if (o884.2==13)=true then
     some ((o884.1.1.length:Int)==0)
    else
    some false
   else
   some false
  else
  if (o884.2 !=0)=true then
   some false
  else
  (Zdw F o884.1).bind fun o891=>
  if (!o891)=true then
   some false
  else
  if ((o884.1.1.length:Int)!=1)=true then
   some false
  else
  (idx o884.1.1 0).bind fun e892=>
  if (!(decide (e892.1=o879.1.1)))=true then
   some false
  else
  (Zc (Z1 F) F (a2,o878,a2,(0:Int),a0,a1,o879.1,o879.2.1,o879.2.2,o884.1)).bind fun o900=>
  match o900 with
  |.inl o901=>
   some o901.1
  |.inr o902=>
   (Zc (ZM F) F (o902.1,o902.2.1,o902.2.2.1,(0:Int),o902.2.2.2.1,o902.2.2.2.2.1,o902.2.2.2.2.2.1,o902.2.2.2.2.2.2.1,o902.2.2.2.2.2.2.2.1,o902.2.2.2.2.2.2.2.2)).bind fun o912=>
   (ZbD F o912.2.2.2.2.2.2.2).bind fun o913=>
   if o912.1=true then
    if (o912.2.1==o912.2.2.2.2.1.2.1)=true then
     some (decide (o913.1 > 1048576))
    else
    some false
   else
   some false
 else
 none
def ZcA (F:Nat):Fs ya:=⟨5,[.v Zm,.v (.arr 2 ZK),.v (.int .i64)],[],[Zm,(.arr 2 ZK),(.int .i64)],[⟨.ret,[(0,.v .bool)],[],[.bool]⟩],fun x=>ZY F x.1 x.2.1 x.2.2⟩
def Zdn:Fs ya:=ZcA fuel
theorem ZcB:Zdn.Ok:=Ze (fi:={ hi:={ still:=[6,21,27,32,38,39,40,41,50,51,61,66,100,138,144,184,185,191,192,200]},lp:=[(0,W8),(1,W9)]}) (specs:={ l:=[ZIH,ZcT,Zew,Zjp,Zfo,V3,Zg1,Zj4]}) (okS ⟨ZJ9,Zcd,Zk4,ZhV,Zi2,Ve,Zjq,ZqH,trivial⟩) ⟨ZaC,ZaD,trivial⟩ (by decide+kernel) (fun x=>by kernel_rfl)
end
end Go.Proofs.YtmkgbalfkhaflaaGreat
end
section
set_option maxRecDepth 4000
namespace Go.Proofs.YtmkgbalfkhaflaaGreat
open Go Go.Ev
theorem ZG3 (l:Lock):∃b,Wn fuel l=some b∧(b=true→ZGY l):=by
 unfold Wn
 obtain ⟨x,h1,h2⟩:=YL (step:=Xq fuel) 7 (fun k s=>s=((k:Int),l)∧∀j e,j < k→l[j]? =some e→e.1.length≤20) (fun x=>(∃y,x=.inl (false,y))∨x=.inr l∧∀j e,j < 7→l[j]? =some e→e.1.length≤20) (i:=((0:Int),l)) ⟨rfl,fun j e hj=>by omega⟩ (by omega) (by
  rintro k _ hk ⟨rfl,hj⟩
  unfold Xq
  dsimp only
  by_cases hl:k < l.length
  ·obtain ⟨e,he,_⟩:=Zq hl
   rw [if_pos (YY hl),if_pos (decide_eq_true (by omega)),ZD he,yb]
   by_cases h20:(e.1.length:Int) > 20
   ·rw [if_pos (decide_eq_true h20)]
    right
    exact ⟨_,rfl,.inl ⟨_,rfl⟩⟩
   ·rw [if_neg (by rw [decide_eq_true_iff];exact h20),ZE (by omega)]
    left
    refine ⟨_,rfl,rfl,fun j f h3 h4=> ?_⟩
    by_cases h5:j < k
    ·exact hj j f h5 h4
    ·have:j=k:=by omega
     subst this
     rw [he] at h4
     cases h4
     omega
  ·rw [if_neg (by rw [decide_eq_true_iff];omega)]
   right
   refine ⟨_,rfl,.inr ⟨rfl,fun j e _ h4=> ?_⟩⟩
   have:=(yj.1 h4).1
   exact hj j e (by omega) h4) (by
  rintro _ ⟨rfl,hj⟩
  unfold Xq
  dsimp only
  by_cases hl:7 < l.length
  ·rw [if_pos (decide_eq_true (by omega)),if_neg (by simp)]
   exact ⟨_,rfl,.inr ⟨rfl,hj⟩⟩
  ·rw [if_neg (by rw [decide_eq_true_iff];omega)]
   exact ⟨_,rfl,.inr ⟨rfl,hj⟩⟩)
 rw [h1,yb]
 rcases h2 with ⟨y,rfl⟩|⟨rfl,h2⟩
 ·exact ⟨_,rfl,fun h=>by cases h⟩
 ·refine ⟨_,rfl,fun h=> ?_⟩
  have h6:=of_decide_eq_true h
  refine ⟨by omega,fun b hb=> ?_⟩
  obtain ⟨j,hj1,hj2⟩:=ycq hb
  have:=h2 j b (by omega) (by rw [yw hj1,hj2])
  omega
theorem ZEm {l r:List Out} (h:l.Perm r):Vi l=Vi r:=by
 unfold Vi
 induction h with
 |nil=>rfl
 |cons x _ ih=>rw [yx,yx,List.sum_cons,List.sum_cons,ih]
 |swap x y l=>rw [yx,yx,yx,yx,List.sum_cons,List.sum_cons,List.sum_cons,List.sum_cons];omega
 |trans _ _ ih1 ih2=>rw [ih1,ih2]
def shn (n:Int):Int:=if n ≥ 100 then n else 0
theorem ZG4 (op h0 h1 fee:Int) (l0 l1:Lock):Vi (outs0 op h0 h1 fee l0 l1)=shn (W7 op h0 h1 fee 0)+shn (W7 op h0 h1 fee 1):=by
 unfold outs0 ZqI shn Vi
 split <;> split <;> simp
theorem ZIp {op h0 h1 fee:Int} {l0 l1:Lock} {o:Out} (h:o∈outs0 op h0 h1 fee l0 l1):o.1 ≥ 100∧∃i:Int,(i=0∨i=1)∧o=(W7 op h0 h1 fee i,ZG0 l0 l1 i):=by
 unfold outs0 ZqI at h
 rw [List.mem_append] at h
 rcases h with h|h
 all_goals
  split at h
  ·rw [yat] at h
   subst h
   exact ⟨by assumption,_,by simp,rfl⟩
  ·simp at h
theorem Zhw {op h0 h1 fee:Int} (p0:0≤h0) (p1:0≤h1) (hA:h0+h1≤4300000000) (f0:52≤fee) (f1:fee≤hav op h0 h1) (i:Int):0≤W7 op h0 h1 fee i∧W7 op h0 h1 fee i≤4300000000:=by
 unfold W7 hav at*
 by_cases hi:i=op
 ·subst hi
  rw [if_pos rfl]
  split at f1 <;> split <;> omega
 ·rw [if_neg hi]
  split <;> omega
theorem Zz2 {op h0 h1 fee:Int} (ho:op=0∨op=1):W7 op h0 h1 fee 0+W7 op h0 h1 fee 1=h0+h1 - fee:=by
 unfold W7 hav
 rcases ho with rfl|rfl
 ·simp;omega
 ·simp;omega
theorem Mk.outs {op h0 h1 fee:Int} {l0 l1:Lock} {r:List Out} (h:Mk op h0 h1 fee l0 l1 r) (p0:0≤h0) (p1:0≤h1) (hA:h0+h1≤4300000000) (f0:52≤fee) (f1:fee≤hav op h0 h1) (g0:Zaz l0∧Zbj l0) (g1:Zaz l1∧Zbj l1):
 r.length≤2∧(∀o,o∈r→o.1 ≥ 100∧o.1≤4300000000∧ZzR o)∧Vi r=shn (W7 op h0 h1 fee 0)+shn (W7 op h0 h1 fee 1)∧ZK2 (([((z32,0),(0,[],0))]:List In),r,2097154)∧ZKP (([((z32,0),(0,[],0))]:List In),r,2097154)∧Vi r≤1125899906842624:=by
 have hl:=h.pm.length_eq
 have hl2:=ZvQ op h0 h1 fee l0 l1
 have q0:=Zhw p0 p1 hA f0 f1 0
 have q1:=Zhw p0 p1 hA f0 f1 1
 have ho:∀o,o∈r→o.1 ≥ 100∧o.1≤4300000000∧ZzR o:=by
  intro o ho
  obtain ⟨h1',i,hi,rfl⟩:=ZIp (h.pm.mem_iff.1 ho)
  have hp:=Zhw p0 p1 hA f0 f1 i
  refine ⟨h1',hp.2,by dsimp only;omega,by dsimp only;omega, ?_⟩
  rcases hi with rfl|rfl
  ·exact g0
  ·exact g1
 have hs:Vi r=shn (W7 op h0 h1 fee 0)+shn (W7 op h0 h1 fee 1):=by rw [ZEm h.pm,ZG4]
 have hx:∀x,x∈([((z32,0),(0,[],0))]:List In)→x=((z32,0),(0,[],0)):=fun x hx=>yat.1 hx
 refine ⟨by omega,ho,hs,⟨fun x h=>by rw [hx x h];rfl,by show (2097154:Int)≤_;decide⟩,⟨by simp,by simp,by dsimp only;omega,by show (0:Int)≤2097154;decide,fun x h=>by rw [hx x h];refine ⟨by decide,by decide,by decide,by decide,by decide⟩,fun o h=>(ho o h).2.2⟩, ?_⟩
 rw [hs]
 unfold shn
 split <;> split <;> omega
theorem ZIq {c:Z6} {ks:List Kit} {s:State} {P:Corsnedlaw21Play} {to:List Lock} {ins:List In} {r:List Out} {fee:Int} (hT:c.2.2.2.1=[Tm 5,Tm 6]) (hl:r.length≤2) (ho:∀o,o∈r→o.1 ≥ 100∧o.1≤4300000000) (hsrt:∀p q,p < q→q < r.length→amt r p≤amt r q) (f0:0≤fee) (f1:fee≤4300000000):
 Zc (Z1 fuel) fuel (fee,true,fee,(0:Int),P,to,c,ks,s,(ins,r,2097154))=some (.inr (fee,true,fee+Vi r,P,to,c,ks,s,(ins,r,2097154))):=by
 have ham:∀k,0≤Vi (r.take k)∧Vi (r.take k)≤8600000000:=by
  intro k
  have key:∀(l:List Out),(∀o,o∈l→o.1 ≥ 100∧o.1≤4300000000)→0≤Vi l∧Vi l≤4300000000*(l.length:Int):=by
   intro l
   induction l with
   |nil=>intro _;exact ⟨Int.le_refl _,Int.le_refl _⟩
   |cons a b ih=>
    intro h
    have i1:=ih fun o ho=>h o (yar _ ho)
    have i2:=h a (yao ..)
    have e:Vi (a::b)=a.1+Vi b:=rfl
    rw [e,yz]
    omega
  have:=key (r.take k) fun o h=>ho o (ybp h)
  rw [yab] at this
  omega
 rw [show (fee,true,fee,(0:Int),P,to,c,ks,s,(ins,r,(2097154:Int)))=(fun k:Nat=>(fee,true,fee+Vi (r.take k),(k:Int),P,to,c,ks,s,(ins,r,(2097154:Int)))) 0 by simp [Vi],
  Z3 (x:=.inr (fee,true,fee+Vi r,P,to,c,ks,s,(ins,r,2097154))) r.length (fun k:Nat=>(fee,true,fee+Vi (r.take k),(k:Int),P,to,c,ks,s,(ins,r,(2097154:Int)))) ?_ ?_ (by omega)]
 ·intro k hk
  obtain ⟨e,he,hm⟩:=Zq hk
  have h1:=ho e hm
  have h2:=ham k
  unfold Z1
  dsimp only
  rw [if_pos (YY hk),ZD he,yb,hT,yaq,yb,yb,Zj9,yb,if_neg (by simp;omega)]
  rw [Zo9 he,ZE (by omega),Zy (z:=fee+Vi (r.take k)+e.1) (by omega) (by omega),Int.add_assoc]
  by_cases h0:(k:Int) > 0
  ·rw [if_pos (decide_eq_true h0),yb]
   obtain ⟨y,hy,_⟩:=Zq (l:=r) (k:=k - 1) (by omega)
   have e1:wi ((k:Int) - 1)=((k - 1:Nat):Int):=by rw [Zy (by omega) (by omega)];omega
   rw [e1,ZD hy,yb]
   have h3:=hsrt (k - 1) k (by omega) hk
   rw [Zq5 hy,Zq5 he] at h3
   rw [if_neg (by rw [decide_eq_true_iff];omega)]
  ·rw [if_neg (by rw [decide_eq_true_iff];exact h0)]
 ·unfold Z1
  dsimp only
  rw [if_neg (by rw [Yo];decide),ybo]
theorem ZKa {A:Int} {k0 k1:Kit} {op:Int} (hop:op=0∨op=1) {ks:List Kit} {s:State} {P:Corsnedlaw21Play} {to:List Lock} {t:Tx} {fee h0 h1 sum:Int} (hv:s.2.1=[h0,h1]) (p0:0≤h0) (p1:0≤h1) (hA:h0+h1≤4300000000) (f0:52≤fee) (f1:fee≤hav op h0 h1) (s0:0≤sum) (s1:sum≤10000000000):
 Zc (ZM fuel) fuel (fee,true,sum,(0:Int),P,to,Yc A k0 k1 op,ks,s,t)=some (true,sum+(W7 op h0 h1 fee 0 - shn (W7 op h0 h1 fee 0))+(W7 op h0 h1 fee 1 - shn (W7 op h0 h1 fee 1)),P,to,Yc A k0 k1 op,ks,s,t):=by
 have hT:(Yc A k0 k1 op).2.2.2.1=[Tm 5,Tm 6]:=rfl
 have hO:(Yc A k0 k1 op).2.2.2.2=op:=rfl
 have step:∀(i:Int) (sum:Int),(i=0∨i=1)→0≤sum→sum≤100000000000→ZM fuel (fee,true,sum,i,P,to,Yc A k0 k1 op,ks,s,t)=some (.inl (fee,true,sum+(W7 op h0 h1 fee i - shn (W7 op h0 h1 fee i)),i+1,P,to,Yc A k0 k1 op,ks,s,t)):=by
  intro i sum hi g0 g1
  have hp:=Zhw p0 p1 hA f0 f1 i
  have hh:0≤hav i h0 h1∧hav i h0 h1≤4300000000:=by
   unfold hav
   split <;> omega
  have hff:fee≤4300000000:=by
   unfold hav at f1
   split at f1 <;> omega
  have hw:wi (i+1)=i+1:=by rcases hi with rfl|rfl <;> rfl
  have hlt:decide (i < 2)=true:=by rcases hi with rfl|rfl <;> rfl
  unfold ZM
  dsimp only
  rw [if_pos hlt,if_pos (XF hi),hv,ZaA hi,yb,hO,hT,hw]
  unfold W7 at hp ⊢
  generalize hx:hav i h0 h1=x at hh hp ⊢
  unfold shn
  by_cases he:i=op
  ·rw [if_pos (by rw [he];exact beq_self_eq_true _),Zy (z:=x - fee) (by omega) (by omega)]
   rw [if_pos he] at hp ⊢
   simp only [yaq,yaj,yb,Zj9]
   by_cases hs:x - fee ≥ 100
   ·simp [hs]
   ·simp only [decide_eq_false hs,Bool.not_false,if_true,if_neg hs]
    rw [Zy (z:=sum+(x - fee)) (by omega) (by omega),Int.sub_zero]
  ·rw [if_neg (by rw [beq_iff_eq];exact he)]
   rw [if_neg he] at hp ⊢
   simp only [yaq,yaj,yb,Zj9]
   by_cases hs:x ≥ 100
   ·simp [hs]
   ·simp only [decide_eq_false hs,Bool.not_false,if_true,if_neg hs]
    rw [Zy (z:=sum+x) (by omega) (by omega),Int.sub_zero]
 have q0:=Zhw p0 p1 hA f0 f1 0
 have hs0:0≤W7 op h0 h1 fee 0 - shn (W7 op h0 h1 fee 0)∧W7 op h0 h1 fee 0 - shn (W7 op h0 h1 fee 0)≤4300000000:=by
  unfold shn
  split <;> omega
 generalize hd0:W7 op h0 h1 fee 0 - shn (W7 op h0 h1 fee 0)=d0 at hs0
 have e0:=step 0 sum (.inl rfl) s0 (by omega)
 have e1:=step 1 (sum+d0) (.inr rfl) (by omega) (by omega)
 rw [hd0] at e0
 generalize hd1:W7 op h0 h1 fee 1 - shn (W7 op h0 h1 fee 1)=d1 at e1
 generalize hch:Yc A k0 k1 op=c at e0 e1
 refine Z3 (x:=(true,sum+d0+d1,P,to,c,ks,s,t)) 2 (fun k:Nat=>(fee,true,(if k=0 then sum else if k=1 then sum+d0 else sum+d0+d1),(k:Int),P,to,c,ks,s,t)) ?_ ?_ (by omega)
 ·intro k hk
  rcases (show k=0∨k=1 by omega) with rfl|rfl
  ·exact e0
  ·exact e1
 ·unfold ZM
  rfl
theorem ZEn {p:Corsnedlaw21Play} (hp:PlayOk p) (l0 l1:Lock) (fee:Int):ZY fuel p [l0,l1] fee=some true:=by
 obtain ⟨A,k0,k1,op,s,e1,e2,⟨h0,h1,hs,hc⟩,_⟩:=ZK8 hp
 obtain ⟨b0,w0,v0⟩:=ZG3 l0
 obtain ⟨b1,w1,v1⟩:=ZG3 l1
 unfold ZY
 rw [yb,e1,yb,yaq,yb,w0,yb]
 cases b0 with
 |false=>rw [if_pos (by decide)]
 |true=>
 rw [if_neg (by decide),yaj,yaq,yb,w1,yb]
 cases b1 with
 |false=>rw [if_pos (by decide)]
 |true=>
 have v0:=v0 rfl
 have v1:=v1 rfl
 rw [if_neg (by decide)]
 dsimp only
 have hm:=ZG1 e2 hs hc
 have hA:=e2.hi
 by_cases hn:s.2.2.1=[]
 ·have hm2:V5 fuel (Yc A k0 k1 op) s=some true:=by rw [hm,hn];rfl
  obtain ⟨r0,x0,y0⟩:=Zj8 v0
  obtain ⟨r1,x1,y1⟩:=Zj8 v1
  have hO:(Yc A k0 k1 op).2.2.2.2=op:=rfl
  have hcl:¬decide ((s.2.2.1.length:Int) > 0)=true:=by rw [hn];decide
  have hri:V4 fuel (Yc A k0 k1 op) s=some true:=by rw [ZGN e2 hs,decide_eq_true hc]
  have hm13:∀(t:Tx×Int),Z8 fuel (Yc A k0 k1 op) s [l0,l1] fee=some t→True:=fun _ _=>trivial
  cases r0 with
  |false=>
   have hk:Z8 fuel (Yc A k0 k1 op) s [l0,l1] fee=some ((([]:List In),([]:List Out),(0:Int)),(1:Int)):=by
    unfold Z8
    rw [hm2,yb,if_neg (by decide),yaq,yb,x0,yb,if_pos (by decide)]
   rw [hk,yb,if_neg hcl,hri,yb,if_neg (by decide),yb,x0,yb,if_pos (by decide)]
   rfl
  |true=>
  cases r1 with
  |false=>
   have hk:Z8 fuel (Yc A k0 k1 op) s [l0,l1] fee=some ((([]:List In),([]:List Out),(0:Int)),(1:Int)):=by
    unfold Z8
    rw [hm2,yb,if_neg (by decide),yaq,yb,x0,yb,if_neg (by decide),yaj,yaq,yb,x1,yb,if_pos (by decide)]
   rw [hk,yb,if_neg hcl,hri,yb,if_neg (by decide),yb,x0,yb,if_neg (by decide),yb,x1,yb,if_pos (by decide)]
   rfl
  |true=>
  have g0:=y0.1 rfl
  have g1:=y1.1 rfl
  by_cases hf:52≤fee∧fee≤hav op h0 h1
  ·obtain ⟨r,hk,mk⟩:=ZIn e2 hs hc hn g0 g1 hf.1 hf.2
   have ht:=hs.tot
   rw [hn,show amtC ([]:List ZS)=0 from rfl] at ht
   obtain ⟨m1,m2,m3,m4,m5,m6⟩:=mk.outs hs.p0 hs.p1 (by omega) hf.1 hf.2 g0 g1
   have hfh:fee≤4300000000:=by
    have:=hf.2
    have:=hs.p0
    have:=hs.p1
    unfold hav at*
    split at* <;> omega
   rw [hk,yb,if_neg hcl,hri,yb,if_neg (by decide),yb,x0,yb,if_neg (by decide),yb,x1,yb,if_neg (by decide)]
   rw [if_neg (by rw [decide_eq_true_iff];omega),hO,if_pos (XF e2.o),hs.hv,ZaA e2.o,yb,if_neg (by rw [decide_eq_true_iff];omega)]
   dsimp only
   rw [if_neg (by decide),ZGJ m5 m6,yb,if_neg (by decide),if_neg (by simp)]
   rw [show idx ([((z32,0),(0,[],0))]:List In) 0=some ((z32,0),(0,[],0)) from rfl,yb,if_neg (by simp [Yc])]
   rw [ZIq rfl m1 (fun o ho=>⟨(m2 o ho).1,(m2 o ho).2.1⟩) mk.srt (by omega) hfh,yb]
   dsimp only
   have hamt:0≤Vi r∧Vi r≤4300000000:=by
    rw [m3]
    have q0:=Zhw hs.p0 hs.p1 (by omega) hf.1 hf.2 0
    have q1:=Zhw hs.p0 hs.p1 (by omega) hf.1 hf.2 1
    have q2:=Zz2 (h0:=h0) (h1:=h1) (fee:=fee) e2.o
    unfold shn
    split <;> split <;> omega
   rw [ZKa e2.o hs.hv hs.p0 hs.p1 (by omega) hf.1 hf.2 (by omega) (by omega),yb]
   dsimp only
   have hw:ZbD fuel (([((z32,0),(0,[],0))]:List In),r,(2097154:Int))=some ((1048577:Int),(0:Int)):=by
    unfold ZbD
    rfl
   rw [hw,yb,if_pos rfl]
   have q2:=Zz2 (h0:=h0) (h1:=h1) (fee:=fee) e2.o
   have hsum:fee+Vi r+(W7 op h0 h1 fee 0 - shn (W7 op h0 h1 fee 0))+(W7 op h0 h1 fee 1 - shn (W7 op h0 h1 fee 1))=A:=by
    rw [m3]
    omega
   rw [hsum,if_pos (by show (A==A)=true;exact beq_self_eq_true _)]
   rfl
  ·have hk:Z8 fuel (Yc A k0 k1 op) s [l0,l1] fee=some ((([]:List In),([]:List Out),(0:Int)),(13:Int)):=by
    unfold Z8
    rw [hm2,yb,if_neg (by decide),yaq,yb,x0,yb,if_neg (by decide),yaj,yaq,yb,x1,yb,if_neg (by decide),hO,ZC0 e2.o hs.hv,yb,decide_eq_false hf,if_pos (by decide)]
   rw [hk,yb,if_neg hcl,hri,yb,if_neg (by decide),yb,x0,yb,if_neg (by decide),yb,x1,yb,if_neg (by decide)]
   by_cases h52:fee < 52
   ·rw [if_pos (decide_eq_true h52)]
    rfl
   ·rw [if_neg (by rw [decide_eq_true_iff];exact h52),hO,if_pos (XF e2.o),hs.hv,ZaA e2.o,yb,if_pos (by rw [decide_eq_true_iff];omega)]
    rfl
 ·have hm2:V5 fuel (Yc A k0 k1 op) s=some false:=by rw [hm,decide_eq_false hn]
  have hk:Z8 fuel (Yc A k0 k1 op) s [l0,l1] fee=some ((([]:List In),([]:List Out),(0:Int)),(14:Int)):=by
   unfold Z8
   rw [hm2,yb,if_pos (by decide)]
  rw [hk,yb,if_pos]
  ·rfl
  ·rw [decide_eq_true_iff]
   cases hh:s.2.2.1 with
   |nil=>exact absurd hh hn
   |cons a b=>rw [yz];omega
end Go.Proofs.YtmkgbalfkhaflaaGreat
end
