/- Parts of the proof, in one file. -/
import Derived.Test.YtjbbdlffilcaaaaGreatKf
open Go.Proofs.Tryz renaming prog → ya
open Int renaming toNat_natCast → yca
open List renaming getElem?_eq_some_iff → yj, length_append → yl, length_map → yr, getElem?_eq_getElem → yv, length_cons → yz, length_take → yab, append_assoc → yaf, map_append → yai, mem_singleton → yal, mem_cons_self → yam, map_map → yao, mem_cons_of_mem → yaq, take_length → ybb, mem_cons → ybf, mem_of_mem_take → ybl, length → ybp, not_mem_nil → ycg, mem_append → ych
open Nat renaming mod_eq_of_lt → yah, mod_lt → yav, le_trans → ybu
open Option renaming bind_some → yb, bind → ybk
open UInt64 renaming ofNat → yag, toNat_ofNat' → ybd, toNat_lt → ybi, lt_iff_toNat_lt → ybq, le_iff_toNat_le → ycm
open UInt8 renaming ofNat → yas
set_option linter.unusedVariables false
set_option linter.unusedSimpArgs false
section
set_option maxRecDepth 4000
namespace Go.Proofs.YtjbbdlffilcaaaaGreat
open Go Go.Ev
noncomputable section
def ZjH (F:Nat) (s:(UInt64×Int×Int×(List UInt8))):Option ((UInt64×Int×Int×(List UInt8))⊕(List UInt8)):=
 if (decide (s.2.2.1 < s.2.1))=true then
  if (decide (0≤wi (56 - (wi (8*s.2.2.1)))))=true then
   let y772:UInt64:=Zw s.1 (min (wi (56 - (wi (8*s.2.2.1)))).toNat 64)
   if (inB s.2.2.1 8)=true then
    (s.2.2.2[(0+s.2.2.1.toNat)]?).bind fun e773=>
    let y774:(List UInt8):=s.2.2.2.set (0+s.2.2.1.toNat) (w8 (y772.toNat:Int))
    some (.inl (s.1,s.2.1,wi (s.2.2.1+1),y774))
   else
   none
  else
  none
 else
 some (.inr s.2.2.2)
def Zlc:Lp:=⟨[(0,.v .u64),(3,.view 0 [] 1 0 8),(7,.v (.int .i64)),(8,.v (.int .i64))],[.var (.v (.arr 8 .u8)) true],[.u64,(.int .i64),(.int .i64),(.arr 8 .u8)],[⟨.exit 0,[(3,.view 0 [] 1 0 8)],[.var (.v (.arr 8 .u8)) true],[(.arr 8 .u8)]⟩],Zc (ZjH fuel) fuel⟩
theorem Zoh:Zlc.Ok ya (Zo ya 136) (Zn ya 136 0):=Zl (fi:={ hi:={ still:=[2]},lp:=[]}) (specs:={ l:=[]}) (okS trivial) trivial (by kernel_rfl) (fun v=>by kernel_rfl)
def Zfq (F:Nat) (a0:UInt64):Option ((List UInt8)):=
 (Zc (ZjH F) F (a0,(8:Int),(0:Int),([0,0,0,0,0,0,0,0]:List UInt8))).bind fun o775=>
 some ((o775.drop 0).take 8)
def Ztu (F:Nat):Fs ya:=⟨136,[.v .u64],[],[.u64],[⟨.ret,[(0,.v (.sl .u8))],[],[(.sl .u8)]⟩],fun x=>Zfq F x⟩
def Zhu:Fs ya:=Ztu fuel
theorem Zld:Zhu.Ok:=Zh (fi:={ hi:={ still:=[2]},lp:=[(0,Zlc)]}) (specs:={ l:=[]}) (okS trivial) ⟨Zoh,trivial⟩ (by decide+kernel) (fun x=>by kernel_rfl)
def ZJl:ByteArray:=⟨#[115,105,103]⟩
def Zcp (F:Nat) (a0:UInt64) (a1:UInt64) (a2:(List UInt8)):Option (UInt64):=
 (Zfq F a0).bind fun o776=>
 (Zfq F a1).bind fun o777=>
 (QE F ZJl ([o776,o777,a2]:List (List UInt8))).bind fun o778=>
 (WH F o778).bind fun o779=>
 some o779
def Znc (F:Nat):Fs ya:=⟨149,[.v .u64,.v .u64,.v (.arr 32 .u8)],[],[.u64,.u64,(.arr 32 .u8)],[⟨.ret,[(0,.v .u64)],[],[.u64]⟩],fun x=>Zcp F x.1 x.2.1 x.2.2⟩
def Zbb:Fs ya:=Znc fuel
theorem Zfr:Zbb.Ok:=Zh (fi:={ hi:={ still:=[6,7,9,12,13],frz:=[11]},lp:=[]}) (specs:={ l:=[Zhu,Za5,Zac]}) (okS ⟨Zld,Zb4,Zbs,trivial⟩) trivial (by decide+kernel) (fun x=>by kernel_rfl)
def Znd (F:Nat) (a0:UInt64) (a1:UInt64) (a2:(List UInt8)) (a3:UInt64):Option (Sig):=
 (XH F a1).bind fun o780=>
 (Za6 F o780 a3).bind fun o781=>
 (XH F a0).bind fun o782=>
 (Zcp F o781 o782 a2).bind fun o783=>
 (Zsl F o783 a0).bind fun o784=>
 (Zsk F a1 o784).bind fun o785=>
 some (o781,o785)
def Zsm (F:Nat):Fs ya:=⟨135,[.v .u64,.v .u64,.v (.arr 32 .u8),.v .u64],[],[.u64,.u64,(.arr 32 .u8),.u64],[⟨.ret,[(0,.v Zag)],[],[Zag]⟩],fun x=>Znd F x.1 x.2.1 x.2.2.1 x.2.2.2⟩
def Zle:Fs ya:=Zsm fuel
theorem Zsn:Zle.Ok:=Zh (fi:={ hi:={ still:=[9,10,11,14,16,17,18,19,20,21,22]},lp:=[]}) (specs:={ l:=[WW,Zfj,Zbb,Zo6,Zo5]}) (okS ⟨W8,Zhp,Zfr,Zwn,Zwl,trivial⟩) trivial (by decide+kernel) (fun x=>by kernel_rfl)
def ZJm:ByteArray:=⟨#[110,111,110,99,101]⟩
def Zso (F:Nat) (a0:UInt64) (a1:(List UInt8)):Option (Sig):=
 (Zuv F a0).bind fun o786=>
 if (!o786)=true then
  some ((0:UInt64),(0:UInt64))
 else
 (Zfq F a0).bind fun o787=>
 (QE F ZJm ([o787,a1]:List (List UInt8))).bind fun o788=>
 (WH F o788).bind fun o789=>
 (Znd F a0 o789 a1 (1:UInt64)).bind fun o790=>
 some o790
def Zwo (F:Nat):Fs ya:=⟨77,[.v .u64,.v (.arr 32 .u8)],[],[.u64,(.arr 32 .u8)],[⟨.ret,[(0,.v Zag)],[],[Zag]⟩],fun x=>Zso F x.1 x.2⟩
def Zo7:Fs ya:=Zwo fuel
theorem Zwp:Zo7.Ok:=Zh (fi:={ hi:={ still:=[5,9,10,13,14,15,16],frz:=[12]},lp:=[]}) (specs:={ l:=[Zsj,Zhu,Za5,Zac,Zle]}) (okS ⟨Zyy,Zld,Zb4,Zbs,Zsn,trivial⟩) trivial (by decide+kernel) (fun x=>by kernel_rfl)
def Zwq (F:Nat) (a0:Kit) (a1:Tx):Option (Sig):=
 (Zwi F a1).bind fun o791=>
 (Zso F a0.1 o791).bind fun o792=>
 some o792
def ZeE (F:Nat):Fs ya:=⟨20,[.v WE,.v yTx],[],[WE,yTx],[⟨.ret,[(0,.v Zag)],[],[Zag]⟩],fun x=>Zwq F x.1 x.2⟩
def Ztv:Fs ya:=ZeE fuel
theorem Zsp:Ztv.Ok:=Zh (fi:={ hi:={ still:=[6,7,8]},lp:=[]}) (specs:={ l:=[Zwj,Zo7]}) (okS ⟨Zsh,Zwp,trivial⟩) trivial (by decide+kernel) (fun x=>by kernel_rfl)
def Zne (F:Nat) (a0:(List Sig)):Option ((List Sig)):=
 if (apB 0 a0.length 16)=true then
  some a0
 else
 none
def ZAb (F:Nat):Fs ya:=⟨139,[.sl true Zag],[],[(.sl Zag)],[⟨.ret,[(0,.v (.sl Zag))],[],[(.sl Zag)]⟩],fun x=>Zne F x⟩
def ZCL:Fs ya:=ZAb fuel
theorem ZAc:ZCL.Ok:=Zh (fi:={ hi:={ own:=[5,7],still:=[2]},lp:=[]}) (specs:={ l:=[]}) (okS trivial) trivial (by decide+kernel) (fun x=>by kernel_rfl)
def Zo8 (F:Nat):Option ((List Sig)):=
 some ([]:List Sig)
def Ztw (F:Nat):Fs ya:=⟨139,[.nil Zag],[],[],[⟨.ret,[(0,.v (.sl Zag))],[],[(.sl Zag)]⟩],fun x=>Zo8 F⟩
def Zwr:Fs ya:=Ztw fuel
theorem Ztx:Zwr.Ok:=Zh (fi:={ hi:={ own:=[5,7],still:=[2]},lp:=[]}) (specs:={ l:=[]}) (okS trivial) trivial (by decide+kernel) (fun x=>by kernel_rfl)
def Zws (F:Nat):Fs ya:=⟨139,[.v (.sl Zag)],[],[(.sl Zag)],[⟨.ret,[(0,.v (.sl Zag))],[],[(.sl Zag)]⟩],fun x=>Zne F x⟩
def Zo9:Fs ya:=Zws fuel
theorem Zwt:Zo9.Ok:=ZzW (t:=Zag) (xs:=[⟨.ret,[(0,.v (.sl Zag))],[],[(.sl Zag)]⟩]) (MA:=fun (x:(List Sig))=>Zne fuel x) (MB:=fun _=>Zo8 fuel) ZAc Ztx rfl
def ZlY (F:Nat) (a0:(List In)):Option (((List Unit)×(List In))):=
 if (apB 0 a0.length 80)=true then
  some (([()]:List Unit),a0)
 else
 none
def Zwu (F:Nat):Fs ya:=⟨137,[.sl true yIn],[],[(.sl yIn)],[⟨.ret,[(0,.rw 0)],[.row yIn true 86],[(.sl (.st [])),(.sl yIn)]⟩],fun x=>ZlY F x⟩
def ZyA:Fs ya:=Zwu fuel
theorem Zwv:ZyA.Ok:=Zh (fi:={ hi:={ own:=[5,7],rowt:=[2,5,7]},lp:=[]}) (specs:={ l:=[]}) (okS trivial) trivial (by decide+kernel) (fun x=>by kernel_rfl)
def Znf (F:Nat) (a0:(List In)):Option (((List Unit)×(List In))):=if a0.isEmpty=true then none else ZlY F a0
def Zsq (F:Nat):Fs ya:=⟨137,[.v (.sl yIn)],[],[(.sl yIn)],[⟨.ret,[(0,.rw 0)],[.row yIn true 86],[(.sl (.st [])),(.sl yIn)]⟩],fun x=>Znf F x⟩
def Zlf:Fs ya:=Zsq fuel
theorem Zsr:Zlf.Ok:=ZvZ (t:=yIn) (xs:=[⟨.ret,[(0,.rw 0)],[.row yIn true 86],[(.sl (.st [])),(.sl yIn)]⟩]) (MA:=fun (x:(List In))=>ZlY fuel x) Zwv rfl (fun _ _=>rfl)
def ZjI (F:Nat) (a0:(List Out)):Option (((List Unit)×(List Out))):=
 if (apB 0 a0.length 32)=true then
  some (([()]:List Unit),a0)
 else
 none
def Zty (F:Nat):Fs ya:=⟨138,[.sl true W1],[],[(.sl W1)],[⟨.ret,[(0,.rw 0)],[.row W1 true 70],[(.sl (.st [])),(.sl W1)]⟩],fun x=>ZjI F x⟩
def Zww:Fs ya:=Zty fuel
theorem Ztz:Zww.Ok:=Zh (fi:={ hi:={ own:=[5,7],rowt:=[2,5,7]},lp:=[]}) (specs:={ l:=[]}) (okS trivial) trivial (by decide+kernel) (fun x=>by kernel_rfl)
def Zlg (F:Nat) (a0:(List Out)):Option (((List Unit)×(List Out))):=if a0.isEmpty=true then none else ZjI F a0
def ZpC (F:Nat):Fs ya:=⟨138,[.v (.sl W1)],[],[(.sl W1)],[⟨.ret,[(0,.rw 0)],[.row W1 true 70],[(.sl (.st [])),(.sl W1)]⟩],fun x=>Zlg F x⟩
def ZjJ:Fs ya:=ZpC fuel
theorem ZpD:ZjJ.Ok:=ZvZ (t:=W1) (xs:=[⟨.ret,[(0,.rw 0)],[.row W1 true 70],[(.sl (.st [])),(.sl W1)]⟩]) (MA:=fun (x:(List Out))=>ZjI fuel x) Ztz rfl (fun _ _=>rfl)
def ZeF (F:Nat) (a0:(List YR)):Option (((List Unit)×(List YR))):=
 if (apB 0 a0.length 48)=true then
  some (([()]:List Unit),a0)
 else
 none
def Zoi (F:Nat):Fs ya:=⟨140,[.sl true ZR],[],[(.sl ZR)],[⟨.ret,[(0,.rw 0)],[.row ZR true 130],[(.sl (.st [])),(.sl ZR)]⟩],fun x=>ZeF F x⟩
def ZpE:Fs ya:=Zoi fuel
theorem Zoj:ZpE.Ok:=Zh (fi:={ hi:={ own:=[5,7],rowt:=[2,5,7]},lp:=[]}) (specs:={ l:=[]}) (okS trivial) trivial (by decide+kernel) (fun x=>by kernel_rfl)
def ZgE (F:Nat) (a0:(List YR)):Option (((List Unit)×(List YR))):=if a0.isEmpty=true then none else ZeF F a0
def ZlZ (F:Nat):Fs ya:=⟨140,[.v (.sl ZR)],[],[(.sl ZR)],[⟨.ret,[(0,.rw 0)],[.row ZR true 130],[(.sl (.st [])),(.sl ZR)]⟩],fun x=>ZgE F x⟩
def Zfs:Fs ya:=ZlZ fuel
theorem Zl0:Zfs.Ok:=ZvZ (t:=ZR) (xs:=[⟨.ret,[(0,.rw 0)],[.row ZR true 130],[(.sl (.st [])),(.sl ZR)]⟩]) (MA:=fun (x:(List YR))=>ZeF fuel x) Zoj rfl (fun _ _=>rfl)
def Zca (F:Nat) (s:(Int×Int×Int×Tx×(List Unit)×(List In)×(List Unit)×(List Out))):Option ((Int×Int×Int×Tx×(List Unit)×(List In)×(List Unit)×(List Out))⊕(Int×Tx×(List Unit)×(List In)×(List Unit)×(List Out))):=
 if (decide (s.2.1 < s.1))=true then
  if (inB s.2.1 s.2.2.2.2.2.1.length)=true then
   (s.2.2.2.2.2.1[s.2.1.toNat]?).bind fun e829=>
   (Zne F e829.2.2.1).bind fun o830=>
   if (inB s.2.1 s.2.2.2.2.2.1.length)=true then
    (s.2.2.2.2.2.1[s.2.1.toNat]?).bind fun e831=>
    let y832:(List In):=s.2.2.2.2.2.1.set s.2.1.toNat (e831.1,(e831.2.1,o830,e831.2.2.2))
    some (.inl (s.1,wi (s.2.1+1),s.2.2.1,s.2.2.2.1,s.2.2.2.2.1,y832,s.2.2.2.2.2.2.1,s.2.2.2.2.2.2.2))
   else
   none
  else
  none
 else
 some (.inr (s.2.2.1,s.2.2.2.1,s.2.2.2.2.1,s.2.2.2.2.2.1,s.2.2.2.2.2.2.1,s.2.2.2.2.2.2.2))
def ZcN:Lp:=⟨[(1,.ref 0 []),(2,.ref 1 []),(17,.v (.int .i64)),(18,.v (.int .i64))],[.var (.agg [.rw 2,.rw 3,.v (.int .i64)]) true,.var (.v yTx) true,.row yIn true 86,.row W1 true 70],[(.int .i64),(.int .i64),(.int .i64),yTx,(.sl (.st [])),(.sl yIn),(.sl (.st [])),(.sl W1)],[⟨.exit 0,[(1,.ref 0 []),(2,.ref 1 [])],[.var (.agg [.rw 2,.rw 3,.v (.int .i64)]) true,.var (.v yTx) true,.row yIn true 86,.row W1 true 70],[(.int .i64),yTx,(.sl (.st [])),(.sl yIn),(.sl (.st [])),(.sl W1)]⟩],Zc (Zca fuel) fuel⟩
theorem Zhv:ZcN.Ok ya (Zo ya 78) (Zn ya 78 0):=Zl (fi:={ hi:={ still:=[8,11,30,48,61,69],rowt:=[5,9,12,22,49,55,67]},lp:=[]}) (specs:={ l:=[Zo9]}) (okS ⟨Zwt,trivial⟩) trivial (by kernel_rfl) (fun v=>by kernel_rfl)
def Zcb (F:Nat) (s:(Int×Int×Int×Int×Int×Int×Tx×(List Unit)×(List In)×(List Unit)×(List Out)×(List Unit)×(List YR))):Option ((Int×Int×Int×Int×Int×Int×Tx×(List Unit)×(List In)×(List Unit)×(List Out)×(List Unit)×(List YR))⊕(Int×Int×Int×Int×Tx×(List Unit)×(List In)×(List Unit)×(List Out)×(List Unit)×(List YR))):=
 if (decide (s.2.2.2.2.1 < s.2.2.2.1))=true then
  if (inB s.2.2.2.2.1 s.2.2.2.2.2.2.2.2.2.2.2.2.length)=true then
   (s.2.2.2.2.2.2.2.2.2.2.2.2[s.2.2.2.2.1.toNat]?).bind fun e836=>
   (WC F e836.1).bind fun o837=>
   if (inB s.2.2.2.2.1 s.2.2.2.2.2.2.2.2.2.2.2.2.length)=true then
    (s.2.2.2.2.2.2.2.2.2.2.2.2[s.2.2.2.2.1.toNat]?).bind fun e838=>
    let y839:(List YR):=s.2.2.2.2.2.2.2.2.2.2.2.2.set s.2.2.2.2.1.toNat (o837,e838.2.1,e838.2.2.1,e838.2.2.2)
    some (.inl (s.1,s.2.1,s.2.2.1,s.2.2.2.1,wi (s.2.2.2.2.1+1),s.2.2.2.2.2.1,s.2.2.2.2.2.2.1,s.2.2.2.2.2.2.2.1,s.2.2.2.2.2.2.2.2.1,s.2.2.2.2.2.2.2.2.2.1,s.2.2.2.2.2.2.2.2.2.2.1,s.2.2.2.2.2.2.2.2.2.2.2.1,y839))
   else
   none
  else
  none
 else
 some (.inr (s.1,s.2.1,s.2.2.1,s.2.2.2.2.2.1,s.2.2.2.2.2.2.1,s.2.2.2.2.2.2.2.1,s.2.2.2.2.2.2.2.2.1,s.2.2.2.2.2.2.2.2.2.1,s.2.2.2.2.2.2.2.2.2.2.1,s.2.2.2.2.2.2.2.2.2.2.2.1,s.2.2.2.2.2.2.2.2.2.2.2.2))
def ZcO:Lp:=⟨[(1,.ref 0 []),(2,.ref 1 []),(4,.v (.int .i64)),(5,.rw 4),(38,.v (.int .i64)),(39,.v (.int .i64)),(51,.v (.int .i64)),(52,.v (.int .i64))],[.var (.agg [.rw 2,.rw 3,.v (.int .i64)]) true,.var (.v yTx) true,.row yIn true 86,.row W1 true 70,.row ZR true 130],[(.int .i64),(.int .i64),(.int .i64),(.int .i64),(.int .i64),(.int .i64),yTx,(.sl (.st [])),(.sl yIn),(.sl (.st [])),(.sl W1),(.sl (.st [])),(.sl ZR)],[⟨.exit 4,[(1,.ref 0 []),(2,.ref 1 []),(4,.v (.int .i64)),(5,.rw 4),(38,.v (.int .i64)),(39,.v (.int .i64))],[.var (.agg [.rw 2,.rw 3,.v (.int .i64)]) true,.var (.v yTx) true,.row yIn true 86,.row W1 true 70,.row ZR true 130],[(.int .i64),(.int .i64),(.int .i64),(.int .i64),yTx,(.sl (.st [])),(.sl yIn),(.sl (.st [])),(.sl W1),(.sl (.st [])),(.sl ZR)]⟩],Zc (Zcb fuel) fuel⟩
theorem Zhw:ZcO.Ok ya (Zo ya 78) (Zn ya 78 2):=Zl (fi:={ hi:={ still:=[8,11,30,48,61,69],rowt:=[5,9,12,22,49,55,67]},lp:=[]}) (specs:={ l:=[Zae]}) (okS ⟨Zeh,trivial⟩) trivial (by kernel_rfl) (fun v=>by kernel_rfl)
def Zcc (F:Nat) (s:(Int×Int×Int×Tx×(List Unit)×(List In)×(List Unit)×(List Out))):Option ((Int×Int×Int×Tx×(List Unit)×(List In)×(List Unit)×(List Out))⊕(Int×Tx×(List Unit)×(List In)×(List Unit)×(List Out))):=
 if (decide (s.2.1 < s.1))=true then
  if (inB s.2.1 s.2.2.2.2.2.2.2.length)=true then
   (s.2.2.2.2.2.2.2[s.2.1.toNat]?).bind fun e834=>
   (ZgE F e834.2).bind fun o835=>
   (Zc (Zcb F) F (s.2.1,s.1,s.2.1,(o835.2.length:Int),(0:Int),s.2.2.1,s.2.2.2.1,s.2.2.2.2.1,s.2.2.2.2.2.1,s.2.2.2.2.2.2.1,s.2.2.2.2.2.2.2,o835.1,o835.2)).bind fun o840=>
   if (inB o840.1 o840.2.2.2.2.2.2.2.2.1.length)=true then
    (o840.2.2.2.2.2.2.2.2.1[o840.1.toNat]?).bind fun e841=>
    let y842:(List Out):=o840.2.2.2.2.2.2.2.2.1.set o840.1.toNat (e841.1,o840.2.2.2.2.2.2.2.2.2.2)
    some (.inl (o840.2.1,wi (o840.2.2.1+1),o840.2.2.2.1,o840.2.2.2.2.1,o840.2.2.2.2.2.1,o840.2.2.2.2.2.2.1,o840.2.2.2.2.2.2.2.1,y842))
   else
   none
  else
  none
 else
 some (.inr (s.2.2.1,s.2.2.2.1,s.2.2.2.2.1,s.2.2.2.2.2.1,s.2.2.2.2.2.2.1,s.2.2.2.2.2.2.2))
def ZcP:Lp:=⟨[(1,.ref 0 []),(2,.ref 1 []),(38,.v (.int .i64)),(39,.v (.int .i64))],[.var (.agg [.rw 2,.rw 3,.v (.int .i64)]) true,.var (.v yTx) true,.row yIn true 86,.row W1 true 70],[(.int .i64),(.int .i64),(.int .i64),yTx,(.sl (.st [])),(.sl yIn),(.sl (.st [])),(.sl W1)],[⟨.exit 2,[(1,.ref 0 []),(2,.ref 1 [])],[.var (.agg [.rw 2,.rw 3,.v (.int .i64)]) true,.var (.v yTx) true,.row yIn true 86,.row W1 true 70],[(.int .i64),yTx,(.sl (.st [])),(.sl yIn),(.sl (.st [])),(.sl W1)]⟩],Zc (Zcc fuel) fuel⟩
theorem Zhx:ZcP.Ok ya (Zo ya 78) (Zn ya 78 1):=Zl (fi:={ hi:={ still:=[8,11,30,48,61,69],rowt:=[5,9,12,22,49,55,67]},lp:=[(2,ZcO)]}) (specs:={ l:=[Zfs]}) (okS ⟨Zl0,trivial⟩) ⟨Zhw,trivial⟩ (by kernel_rfl) (fun v=>by kernel_rfl)
def Zft (F:Nat) (a0:Tx):Option ((Int×(List Unit)×(List In)×(List Unit)×(List Out))):=
 (Znf F a0.1).bind fun o827=>
 (Zlg F a0.2.1).bind fun o828=>
 (Zc (Zca F) F ((o827.2.length:Int),(0:Int),a0.2.2,(([]:List In),([]:List Out),(0:Int)),o827.1,o827.2,o828.1,o828.2)).bind fun o833=>
 (Zc (Zcc F) F ((o833.2.2.2.2.2.length:Int),(0:Int),o833.1,o833.2.1,o833.2.2.1,o833.2.2.2.1,o833.2.2.2.2.1,o833.2.2.2.2.2)).bind fun o843=>
 some (o843.1,o843.2.2.1,o843.2.2.2.1,o843.2.2.2.2.1,o843.2.2.2.2.2)
def ZkD (F:Nat):Fs ya:=⟨78,[.v yTx],[],[yTx],[⟨.ret,[(0,.agg [.rw 0,.rw 1,.v (.int .i64)])],[.row yIn true 86,.row W1 true 70],[(.int .i64),(.sl (.st [])),(.sl yIn),(.sl (.st [])),(.sl W1)]⟩],fun x=>Zft F x⟩
def ZeG:Fs ya:=ZkD fuel
theorem ZkE:ZeG.Ok:=Zh (fi:={ hi:={ still:=[8,11,30,48,61,69],rowt:=[5,9,12,22,49,55,67]},lp:=[(0,ZcN),(1,ZcP)]}) (specs:={ l:=[Zlf,ZjJ]}) (okS ⟨Zsr,ZpD,trivial⟩) ⟨Zhv,Zhx,trivial⟩ (by decide+kernel) (fun x=>by kernel_rfl)
def Zwx (F:Nat) (a0:Tx) (a1:Sig) (a2:Sig):Option (Tx):=
 (Zft F a0).bind fun o847=>
 if (decide ((o847.2.2.1.length:Int) > 0))=true then
  if (inB 0 o847.2.2.1.length)=true then
   (o847.2.2.1[0]?).bind fun e848=>
   let y849:(List In):=o847.2.2.1.set 0 (e848.1,((0:Int),([a1,a2]:List Sig),(0:UInt64)))
   some (y849,o847.2.2.2.2,o847.1)
  else
  none
 else
 some (o847.2.2.1,o847.2.2.2.2,o847.1)
def ZeH (F:Nat):Fs ya:=⟨21,[.v yTx,.v Zag,.v Zag],[],[yTx,Zag,Zag],[⟨.ret,[(0,.v yTx)],[],[yTx]⟩],fun x=>Zwx F x.1 x.2.1 x.2.2⟩
def ZtA:Fs ya:=ZeH fuel
theorem Zss:ZtA.Ok:=ZGx (fi:={ hi:={ still:=[7],rowt:=[14],deep:=[56]},lp:=[]}) (specs:={ l:=[ZeG]}) (okS ⟨ZkE,trivial⟩) trivial (by decide+kernel) (fun x=>by kernel_rfl)
def ZtB (F:Nat) (a0:Tx):Option ((Int×Int)):=
 if (decide (a0.2.2 < 0))=true then
  some ((0:Int),(0:Int))
 else
 some (wi (Int.tdiv a0.2.2 2),Int.tmod a0.2.2 2)
def Zcq (F:Nat):Fs ya:=⟨22,[.v yTx],[],[yTx],[⟨.ret,[(0,.tup [.v (.int .i64),.v (.int .i64)])],[],[(.int .i64),(.int .i64)]⟩],fun x=>ZtB F x⟩
def Zst:Fs ya:=Zcq fuel
theorem ZpF:Zst.Ok:=Zh (fi:={ hi:={ still:=[2,3]},lp:=[]}) (specs:={ l:=[]}) (okS trivial) trivial (by decide+kernel) (fun x=>by kernel_rfl)
def Zsu (F:Nat) (a0:UInt64):Option (UInt64):=
 (VZ F a0).bind fun o850=>
 (VY F o850 (2305843009213688668:UInt64)).bind fun o851=>
 some o851
def Zwy (F:Nat):Fs ya:=⟨150,[.v .u64],[],[.u64],[⟨.ret,[(0,.v .u64)],[],[.u64]⟩],fun x=>Zsu F x⟩
def Zpa:Fs ya:=Zwy fuel
theorem Zwz:Zpa.Ok:=Zh (fi:={ hi:={ still:=[2,3,4]},lp:=[]}) (specs:={ l:=[Zbn,Zbm]}) (okS ⟨Zd5,Zd4,trivial⟩) trivial (by decide+kernel) (fun x=>by kernel_rfl)
def Zng (F:Nat) (a0:UInt64) (a1:(List UInt8)) (a2:UInt64) (a3:Sig):Option (Bool):=
 if (a0==1)=true then
  some false
 else
 (YZ F a0).bind fun o852=>
 if (!o852)=true then
  some false
 else
 (YZ F a2).bind fun o853=>
 if (!o853)=true then
  some false
 else
 (YZ F a3.1).bind fun o854=>
 if (!o854)=true then
  some false
 else
 (Zht F a3.2).bind fun o855=>
 if (!o855)=true then
  some false
 else
 (Zcp F a3.1 a0 a1).bind fun o856=>
 (WV F a0 o856).bind fun o857=>
 (Zsu F a2).bind fun o858=>
 (Zef F ([a3.1,o857,o858]:List UInt64)).bind fun o859=>
 (XH F a3.2).bind fun o860=>
 some (o860==o859)
def Zsv (F:Nat):Fs ya:=⟨82,[.v .u64,.v (.arr 32 .u8),.v .u64,.v Zag],[],[.u64,(.arr 32 .u8),.u64,Zag],[⟨.ret,[(0,.v .bool)],[],[.bool]⟩],fun x=>Zng F x.1 x.2.1 x.2.2.1 x.2.2.2⟩
def Zlh:Fs ya:=Zsv fuel
theorem Zsw:Zlh.Ok:=Zh (fi:={ hi:={ still:=[8,13,18,24,30,36,38,39,40,41,43,45,48]},lp:=[]}) (specs:={ l:=[Wo,ZfR,Zbb,Zbo,Zpa,Zjw,WW]}) (okS ⟨WA,ZjG,Zfr,Zd6,Zwz,Zm2,W8,trivial⟩) trivial (by decide+kernel) (fun x=>by kernel_rfl)
def Znh (F:Nat) (a0:UInt64) (a1:(List UInt8)) (a2:Sig):Option (Bool):=
 (Zng F a0 a1 (1:UInt64) a2).bind fun o861=>
 some o861
def Zsx (F:Nat):Fs ya:=⟨26,[.v .u64,.v (.arr 32 .u8),.v Zag],[],[.u64,(.arr 32 .u8),Zag],[⟨.ret,[(0,.v .bool)],[],[.bool]⟩],fun x=>Znh F x.1 x.2.1 x.2.2⟩
def Zli:Fs ya:=Zsx fuel
theorem Zsy:Zli.Ok:=Zh (fi:={ hi:={ still:=[6,7,8,9]},lp:=[]}) (specs:={ l:=[Zlh]}) (okS ⟨Zsw,trivial⟩) trivial (by decide+kernel) (fun x=>by kernel_rfl)
def ZfS (F:Nat) (s:((List UInt64)×Int×Int×XV×Zdd×(List UInt8)×YR)):Option (((List UInt64)×Int×Int×XV×Zdd×(List UInt8)×YR)⊕((Int×XV×Zdd×(List UInt8)×YR)⊕(XV×Zdd×(List UInt8)×YR))):=
 if (decide (s.2.2.1 < s.2.1))=true then
  (idx s.1 s.2.2.1).bind fun e865=>
  (idx s.2.2.2.2.1.2.1 s.2.2.1).bind fun e866=>
  (Znh F e865 s.2.2.2.2.2.1 e866).bind fun o867=>
  if (!o867)=true then
   some (.inr (.inl ((7:Int),s.2.2.2.1,s.2.2.2.2.1,s.2.2.2.2.2.1,s.2.2.2.2.2.2)))
  else
  some (.inl (s.1,s.2.1,wi (s.2.2.1+1),s.2.2.2.1,s.2.2.2.2.1,s.2.2.2.2.2.1,s.2.2.2.2.2.2))
 else
 some (.inr (.inr (s.2.2.2.1,s.2.2.2.2.1,s.2.2.2.2.2.1,s.2.2.2.2.2.2)))
def Zni:Lp:=⟨[(6,.ref 1 []),(7,.ref 2 []),(68,.v (.sl .u64)),(69,.v (.int .i64)),(70,.v (.int .i64))],[.var (.v Yu) true,.var (.v VN) true,.var (.v (.arr 32 .u8)) true,.var (.v ZR) true],[(.sl .u64),(.int .i64),(.int .i64),Yu,VN,(.arr 32 .u8),ZR],[⟨.ret,[(10,.v (.int .i64))],[.var (.v Yu) true,.var (.v VN) true,.var (.v (.arr 32 .u8)) true,.var (.v ZR) true],[(.int .i64),Yu,VN,(.arr 32 .u8),ZR]⟩,⟨.exit 1,[],[.var (.v Yu) true,.var (.v VN) true,.var (.v (.arr 32 .u8)) true,.var (.v ZR) true],[Yu,VN,(.arr 32 .u8),ZR]⟩],Zc (ZfS fuel) fuel⟩
theorem ZpG:Zni.Ok ya (Zo ya 23) (Zn ya 23 0):=Zl (fi:={ hi:={ still:=[10,14,53,75,76,81]},lp:=[]}) (specs:={ l:=[Zli]}) (okS ⟨Zsy,trivial⟩) trivial (by kernel_rfl) (fun v=>by kernel_rfl)
def ZAd (F:Nat) (a0:XV) (a1:Zdd) (a2:(List UInt8)) (a3:Int) (a4:Int):Option (Int):=
 (VO F a0).bind fun o862=>
 if (!o862)=true then
  some (1:Int)
 else
 if (decide (a1.1 < 0))=true then
  some (1:Int)
 else
 if (decide (a1.1 ≥ (a0.length:Int)))=true then
  some (1:Int)
 else
 (idx a0 a1.1).bind fun e863=>
 if (decide (a3 < e863.2.1))=true then
  some (11:Int)
 else
 if (decide (a4 < e863.2.2.1))=true then
  some (11:Int)
 else
 if (e863.2.2.2 !=0)=true then
  (XH F a1.2.2).bind fun o864=>
  if (o864 !=e863.2.2.2)=true then
   some (23:Int)
  else
  if ((a1.2.1.length:Int)!=(e863.1.length:Int))=true then
   some (7:Int)
  else
  (Zc (ZfS F) F (e863.1,(e863.1.length:Int),(0:Int),a0,a1,a2,e863)).bind fun o868=>
  match o868 with
  |.inl o869=>
   some o869.1
  |.inr o870=>
   some (0:Int)
 else
 if ((a1.2.1.length:Int)!=(e863.1.length:Int))=true then
  some (7:Int)
 else
 (Zc (ZfS F) F (e863.1,(e863.1.length:Int),(0:Int),a0,a1,a2,e863)).bind fun o871=>
 match o871 with
 |.inl o872=>
  some o872.1
 |.inr o873=>
  some (0:Int)
def Zhy (F:Nat):Fs ya:=⟨23,[.v Yu,.v VN,.v (.arr 32 .u8),.v (.int .i64),.v (.int .i64)],[],[Yu,VN,(.arr 32 .u8),(.int .i64),(.int .i64)],[⟨.ret,[(0,.v (.int .i64))],[],[(.int .i64)]⟩],fun x=>ZAd F x.1 x.2.1 x.2.2.1 x.2.2.2.1 x.2.2.2.2⟩
def ZyB:Fs ya:=Zhy fuel
theorem ZwA:ZyB.Ok:=Zh (fi:={ hi:={ still:=[10,14,53,75,76,81]},lp:=[(0,Zni)]}) (specs:={ l:=[Zak,WW]}) (okS ⟨Zbz,W8,trivial⟩) ⟨ZpG,trivial⟩ (by decide+kernel) (fun x=>by kernel_rfl)
def Zsz (F:Nat) (a0:UInt64) (a1:UInt64):Option (XV):=
 (Zkd F ([a0,a1]:List UInt64)).bind fun o874=>
 some o874
def ZwB (F:Nat):Fs ya:=⟨79,[.v .u64,.v .u64],[],[.u64,.u64],[⟨.ret,[(0,.v Yu)],[],[Yu]⟩],fun x=>Zsz F x.1 x.2⟩
def Zpb:Fs ya:=ZwB fuel
theorem ZwC:Zpb.Ok:=Zh (fi:={ hi:={ still:=[7]},lp:=[]}) (specs:={ l:=[ZlL]}) (okS ⟨ZoW,trivial⟩) trivial (by decide+kernel) (fun x=>by kernel_rfl)
def ZpH (F:Nat) (a0:ZO):Option (XV):=
 (a0.2.2.1[0]?).bind fun e875=>
 (a0.2.2.1[1]?).bind fun e876=>
 (Zsz F e875.1 e876.1).bind fun o877=>
 some o877
def Zar (F:Nat):Fs ya:=⟨24,[.v Zr],[],[Zr],[⟨.ret,[(0,.v Yu)],[],[Yu]⟩],fun x=>ZpH F x⟩
def Zok:Fs ya:=Zar fuel
theorem Znj:Zok.Ok:=Zh (fi:={ hi:={ still:=[6,10]},lp:=[]}) (specs:={ l:=[Zpb]}) (okS ⟨ZwC,trivial⟩) trivial (by decide+kernel) (fun x=>by kernel_rfl)
def ZtC (F:Nat) (a0:ZO) (a1:State) (a2:Int) (a3:UInt64) (a4:Tx):Option (Bool):=
 (commit_MakeM F a0 a1 a2 a3).bind fun o878=>
 if (o878.2==0)=true then
  (Zwi F o878.1.1).bind fun o879=>
  (Zwi F a4).bind fun o880=>
  some (decide (o879=o880))
 else
 some false
def Zcr (F:Nat):Fs ya:=⟨27,[.v Zr,.v Ze,.v (.int .i64),.v .u64,.v yTx],[],[Zr,Ze,(.int .i64),.u64,yTx],[⟨.ret,[(0,.v .bool)],[],[.bool]⟩],fun x=>ZtC F x.1 x.2.1 x.2.2.1 x.2.2.2.1 x.2.2.2.2⟩
def ZsA:Fs ya:=Zcr fuel
theorem ZpI:ZsA.Ok:=Zh (fi:={ hi:={ still:=[10,14,15,16,17,25,27]},lp:=[]}) (specs:={ l:=[ZfP,Zwj]}) (okS ⟨ZeC,Zsh,trivial⟩) trivial (by decide+kernel) (fun x=>by kernel_rfl)
end
end Go.Proofs.YtjbbdlffilcaaaaGreat
end
section
set_option maxRecDepth 4000
namespace Go.Proofs.YtjbbdlffilcaaaaGreat
open Go Go.Ev
theorem ZE7 {m:Nat} (hm:0 < m):∀(f a n o:Nat),o < m→pwm m f a n o < m
 |0,_,_,o,h=>h
 |f+1,a,n,o,h=>by
  rw [pwm]
  split
  ·exact h
  ·refine ZE7 hm f _ _ _ ?_
   split
   ·exact yav _ hm
   ·exact h
theorem ZE8 {m:Nat} (hm:1 < m) (k a n:Nat) (h:n < 2 ^ k):pwm m k a n 1=a ^ n % m:=by
 rw [←yah (ZE7 (by omega) k a n 1 hm),Zv3 k a n 1 h,Nat.one_mul]
instance (a:Nat):Decidable (VX a):=by unfold VX;infer_instance
theorem ZIt {z:Nat} (h:z < mdl):z < 18446744073709551616:=Nat.lt_trans h (by decide)
theorem ZwD {z:Nat} (h:z < mdl):(yag z).toNat=z:=by
 rw [ybd,yah (ZIt h)]
theorem Znk (z:Nat):z % mdl < mdl:=yav _ (by decide)
theorem ZyC (a n:UInt64):VY fuel a n=some (yag (a.toNat ^ n.toNat % mdl)):=by
 unfold VY
 rw [ZE8 (by decide) 64 a.toNat n.toNat (ybi n)]
 rfl
theorem Zuw {a n:UInt64} (h:a.toNat < mdl):Yl fuel a n=some (yag (a.toNat ^ n.toNat % mdl)):=by
 unfold Yl
 rw [if_pos (decide_eq_true (show a.toNat < 4611686018427377339 from h)),ZE8 (by decide) 64 a.toNat n.toNat (ybi n)]
 rfl
theorem ZE9 {z:Nat} (h:z < mdl):(yag z==1)=decide (z=1):=by
 rw [Bool.eq_iff_iff,beq_iff_eq,decide_eq_true_iff, ←UInt64.toNat_inj,ZwD h]
 rfl
theorem ZjK (p:UInt64):YZ fuel p=some (decide (VX p.toNat)):=by
 unfold YZ
 by_cases h1:0 < p.toNat
 ·rw [if_pos (decide_eq_true (show p > 0 from ybq.2 h1))]
  by_cases h2:p.toNat < mdl
  ·rw [if_pos (decide_eq_true (show p < 4611686018427377339 from ybq.2 h2)),ZyC,yb,ZE9 (Znk _)]
   congr 1
   rw [decide_eq_decide]
   exact ⟨fun h=>⟨h1,h2,h⟩,fun h=>h.2.2⟩
  ·rw [if_neg (by rw [decide_eq_true_iff];exact fun h=>h2 (ybq.1 h)),decide_eq_false (fun h=>h2 h.2.1)]
 ·rw [if_neg (by rw [decide_eq_true_iff];exact fun h=>h1 (ybq.1 h)),decide_eq_false (fun h=>h1 h.1)]
theorem Zol (p:UInt64):Y6 fuel p=some (decide (VX p.toNat)):=by
 unfold Y6
 by_cases h1:0 < p.toNat
 ·rw [if_pos (decide_eq_true (show p ≥ 1 from ycm.2 h1))]
  by_cases h2:p.toNat < mdl
  ·rw [if_pos (decide_eq_true (show p < 4611686018427377339 from ybq.2 h2)),Zuw h2,yb,ZE9 (Znk _)]
   congr 1
   rw [decide_eq_decide]
   exact ⟨fun h=>⟨h1,h2,h⟩,fun h=>h.2.2⟩
  ·rw [if_neg (by rw [decide_eq_true_iff];exact fun h=>h2 (ybq.1 h)),decide_eq_false (fun h=>h2 h.2.1)]
 ·rw [if_neg (by rw [decide_eq_true_iff];exact fun h=>h1 (ycm.1 h)),decide_eq_false (fun h=>h1 h.1)]
def tk (p:UInt64):UInt64:=if VX p.toNat then p else 1
theorem Zux (p:UInt64):VX (tk p).toNat:=by
 unfold tk
 split
 ·assumption
 ·exact ZIj
theorem ZJn {p:UInt64} (h:VX p.toNat):tk p=p:=if_pos h
theorem ZyD (p:UInt64):VZ fuel p=some (tk p):=by
 unfold VZ tk
 rw [ZjK,yb]
 by_cases h:VX p.toNat
 ·rw [if_pos (decide_eq_true h),if_pos h]
 ·rw [if_neg (by rw [decide_eq_true_iff];exact h),if_neg h]
theorem ZCM (p:UInt64):Ws fuel p=some (tk p):=by
 unfold Ws tk
 rw [Zol,yb]
 by_cases h:VX p.toNat
 ·rw [if_pos (decide_eq_true h),if_pos h]
 ·rw [if_neg (by rw [decide_eq_true_iff];exact h),if_neg h]
def sc (p:UInt64) (n:Nat):UInt64:=yag ((tk p).toNat ^ n % mdl)
theorem ZFa (p:UInt64) (n:Nat):(sc p n).toNat=(tk p).toNat ^ n % mdl:=ZwD (Znk _)
theorem ZJo (p:UInt64) (n:Nat):VX (sc p n).toNat:=by
 rw [ZFa]
 exact ZIl (Zux p) n
theorem ZFb (p:UInt64) (n:Nat):sc p (n % ord)=sc p n:=by
 unfold sc
 rw [ZGH (Zux p)]
theorem ZG8 (k:UInt64):(k % 2305843009213688669).toNat=k.toNat % ord:=by
 rw [UInt64.toNat_mod]
 rfl
theorem ZsB (p k:UInt64):WV fuel p k=some (sc p k.toNat):=by
 unfold WV
 rw [ZyD,yb,ZyC,yb,ZG8, ←ZFb]
 rfl
theorem ZCN (p k:UInt64):Wt fuel p k=some (sc p k.toNat):=by
 unfold Wt
 rw [ZCM,yb,Zuw (Zux p).2.1,yb,ZG8, ←ZFb]
 rfl
def B (n:Nat):UInt64:=sc 4 n
theorem tk4:tk 4=4:=ZJn ZET
theorem ZJp (n:Nat):(B n).toNat=4 ^ n % mdl:=by
 unfold B
 rw [ZFa,tk4]
 rfl
theorem ZCO (n:Nat):VX (B n).toNat:=ZJo 4 n
theorem ZJG {n:Nat} (h0:0 < n) (h1:n < ord):B n≠1:=fun e=>ZIm h0 h1 (by rw [←ZJp,e];rfl)
theorem ZwE (k:UInt64):XH fuel k=some (B k.toNat):=by
 unfold XH
 rw [ZsB,yb]
 rfl
theorem ZjL (k:UInt64):Yd fuel k=some (B k.toNat):=by
 unfold Yd
 rw [ZCN,yb]
 rfl
def ad (p q:UInt64):UInt64:=yag ((tk p).toNat*(tk q).toNat % mdl)
theorem ZIu (p q:UInt64):(ad p q).toNat=(tk p).toNat*(tk q).toNat % mdl:=ZwD (Znk _)
theorem ZG9 (p q:UInt64):VX (ad p q).toNat:=by
 rw [ZIu]
 exact ZIk (Zux p) (Zux q)
theorem ZFc (a b:UInt64):Z6 fuel a b=some (yag (a.toNat*b.toNat % mdl)):=Zyg a b
def ZpJ:List UInt64→Nat→Nat
 |[],o=>o
 |p::r,o=>ZpJ r (o*(tk p).toNat % mdl)
theorem ZBt:∀(l:List UInt64) (o:Nat),o < mdl→ZpJ l o < mdl
 |[],o,h=>h
 |p::r,o,h=>ZBt r _ (Znk _)
theorem ZIv {l:List UInt64} (hl:l.length≤1000):Zef fuel l=some (yag (ZpJ l 1)):=by
 have key:∀(k:Nat),k≤l.length→ZpJ (l.take k) 1 < mdl:=fun k _=>ZBt _ _ (by decide)
 have app:∀(l:List UInt64) (p:UInt64) (o:Nat),ZpJ (l++[p]) o=ZpJ l o*(tk p).toNat % mdl:=by
  intro l
  induction l with
  |nil=>intro p o;rfl
  |cons q r ih=>intro p o;exact ih p _
 unfold Zef
 rw [show ((1:UInt64),l,(l.length:Int),(0:Int))=(fun k:Nat=>(yag (ZpJ (l.take k) 1),l,(l.length:Int),(k:Int))) 0 from rfl,
  Z2 (x:=yag (ZpJ l 1)) l.length (fun k:Nat=>(yag (ZpJ (l.take k) 1),l,(l.length:Int),(k:Int))) ?_ ?_ (by omega),yb]
 ·intro k hk
  obtain ⟨e,he,_⟩:=Zs hk
  unfold Zbx
  dsimp only
  rw [if_pos (Xj hk),ZD he,yb,ZyD,yb,ZFc,yb,ZC (by omega),Zbk he,app,ZwD (key k (by omega))]
 ·unfold Zbx
  dsimp only
  rw [if_neg (by rw [Yy];decide),ybb]
theorem ZFd (p q:UInt64):Za6 fuel p q=some (ad p q):=by
 unfold Za6
 rw [ZIv (by simp),yb]
 unfold ad ZpJ ZpJ ZpJ
 rw [Nat.one_mul,yah (Zux p).2.1]
def Key (k:UInt64):Prop:=0 < k.toNat∧k.toNat < ord
theorem ZBu {h:List UInt8} (hl:h.length=32):∃k,WH fuel h=some k∧Key k:=by
 unfold WH
 obtain ⟨x,h1,h2⟩:=Yx (step:=VK fuel) 32 (fun k s=>∃n:UInt64,s=(n,h,(k:Int),h)∧n.toNat < 2305843009213688668) (fun x=>x.1.toNat < 2305843009213688668) (i:=((0:UInt64),h,(0:Int),h)) ⟨0,rfl,by decide⟩ (by omega) (by
  rintro k _ hk ⟨n,rfl,hn⟩
  left
  obtain ⟨e,he,_⟩:=Zs (l:=h) (k:=k) (by omega)
  unfold VK
  dsimp only
  rw [if_pos (decide_eq_true (by omega)),ZD he,yb]
  unfold WF
  rw [if_pos (by decide),yb,ZC (by omega)]
  refine ⟨_,rfl,_,rfl, ?_⟩
  rw [show (2305843009213688668:UInt64).toNat=2305843009213688668 from rfl,ybd,yah]
  ·exact yav _ (by decide)
  ·exact Nat.lt_trans (yav _ (by decide)) (by decide)) (by
  rintro _ ⟨n,rfl,hn⟩
  unfold VK
  dsimp only
  rw [if_neg (by rw [decide_eq_true_iff];omega)]
  exact ⟨_,rfl,hn⟩)
 rw [h1,yb]
 have e:(x.1+1).toNat=x.1.toNat+1:=by rw [UInt64.toNat_add,yah (by show x.1.toNat+1 < _;omega)];rfl
 exact ⟨_,rfl,by rw [e];omega,by rw [e];unfold ord;omega⟩
theorem ZjM {h:List UInt8} (hl:h.length=32):∃k,Yc fuel h=some k∧Key k:=by
 unfold Yc
 obtain ⟨x,h1,h2⟩:=Yx (step:=Xb fuel) 32 (fun k s=>∃n:UInt64,s=(n,(k:Int),h)∧n.toNat < 2305843009213688668) (fun x=>x.1.toNat < 2305843009213688668) (i:=((0:UInt64),(0:Int),h)) ⟨0,rfl,by decide⟩ (by omega) (by
  rintro k _ hk ⟨n,rfl,hn⟩
  left
  obtain ⟨e,he,_⟩:=Zs (l:=h) (k:=k) (by omega)
  unfold Xb
  dsimp only
  rw [if_pos (decide_eq_true (by omega))]
  obtain ⟨y,g1,n2,rfl,g2⟩:=Yx (step:=Xa fuel) 8 (fun j s=>∃n:UInt64,s=(n,(k:Int),7 - (j:Int),h)∧n.toNat < 2305843009213688668) (fun x=>∃n:UInt64,x=(n,(k:Int),h)∧n.toNat < 2305843009213688668) (i:=(n,(k:Int),(7:Int),h)) ⟨n,rfl,hn⟩ (by omega) (by
   rintro j _ hj ⟨n,rfl,hn⟩
   left
   unfold Xa
   dsimp only
   rw [if_pos (decide_eq_true (by omega)),if_pos (YF (by omega) (by omega)),yca,he,yb,Zx (z:=7 - (j:Int) - 1) (by omega) (by omega)]
   refine ⟨_,rfl,_,by rw [show (7:Int) - (j:Int) - 1=7 - ((j+1:Nat):Int) by omega], ?_⟩
   rw [UInt64.toNat_mod]
   exact yav _ (by decide)) (by
   rintro _ ⟨n,rfl,hn⟩
   unfold Xa
   dsimp only
   rw [if_neg (by rw [decide_eq_true_iff];omega)]
   exact ⟨_,rfl,_,rfl,hn⟩)
  rw [g1,yb,ZC (by omega)]
  exact ⟨_,rfl,_,rfl,g2⟩) (by
  rintro _ ⟨n,rfl,hn⟩
  unfold Xb
  dsimp only
  rw [if_neg (by rw [decide_eq_true_iff];omega)]
  exact ⟨_,rfl,hn⟩)
 rw [h1,yb]
 have e:(x.1+1).toNat=x.1.toNat+1:=by rw [UInt64.toNat_add,yah (by show x.1.toNat+1 < _;omega)];rfl
 exact ⟨_,rfl,by rw [e];omega,by rw [e];unfold ord;omega⟩
end Go.Proofs.YtjbbdlffilcaaaaGreat
end
section
set_option maxRecDepth 4000
namespace Go.Proofs.YtjbbdlffilcaaaaGreat
open Go Go.Ev
theorem ZyE {n:Nat} {b:List UInt8} (h:b.length≤1000000):∃o,Wp fuel (n:Int) b=some o∧o.length=b.length+8:=
 ⟨_,ZBr (by omega),by rw [yl];rfl⟩
theorem ZGJ {l:List UInt8} (h:l.length≤900000):∃o,Zdr fuel l=some o∧o.length=32:=⟨_,ZGI (by omega),Sha.ZJE l⟩
theorem ZBv {s:ByteArray} {ls:List (List UInt8)} (h1:s.size≤100) (h2:ls.length≤10) (h3:∀l,l∈ls→l.length≤60000):∃o,QE fuel s ls=some o∧o.length=32:=by
 unfold QE
 obtain ⟨o,p1,p2⟩:=ZyE (n:=s.size) (b:=[]) (by simp)
 have hsl:(Zkg s).length=s.size:=by
  unfold Zkg
  rw [Array.length_toList]
  rfl
 rw [p1,yb,if_pos (Yg (by rw [hsl,p2];simp;omega) (by rw [hsl,p2];simp;omega))]
 refine Exists.elim (XZ (step:=Zdb fuel) (fun x=>x.1=ls∧x.2.1=(ls.length:Int)∧0≤x.2.2.1∧x.2.2.1≤(ls.length:Int)∧x.2.2.2.2.length≤200+60100*x.2.2.1.toNat) (fun x=>((ls.length:Int) - x.2.2.1).toNat) (fun x=>x.2.length≤700000) ?_ (ls,(ls.length:Int),(0:Int),([0,0,0,0,0,0,0,0,0,0,0,0,0,0,0,0,0,0,0,0,0,0,0,0,0,0,0,0,0,0,0,0]:List UInt8),o++Zkg s) ⟨rfl,rfl,Int.le_refl _,by dsimp only;omega,by dsimp only;rw [yl,p2,hsl];simp;omega⟩ (by dsimp only;omega)) ?_
 rotate_left
 ·rintro q ⟨q1,q2⟩
  rw [q1,yb]
  obtain ⟨r,r1,r2⟩:=ZGJ (l:=q.2) (by omega)
  rw [r1,yb]
  exact ⟨_,rfl,r2⟩
 ·rintro ⟨a,n,i,c,d⟩ ⟨k1,k2,k3,k4,k5⟩
  dsimp only at k1 k2 k3 k4 k5
  subst k1
  subst k2
  unfold Zdb
  dsimp only
  by_cases hi:i < (a.length:Int)
  ·left
   obtain ⟨e,he⟩:=QZ (l:=a) (i:=i.toNat) (by omega)
   have hel:=h3 e (List.mem_of_getElem? he)
   obtain ⟨x,x1,x2⟩:=ZyE (n:=e.length) (b:=d) (by omega)
   rw [if_pos (decide_eq_true hi),Ze8 k3 he,yb,x1,yb,if_pos (Yg (by omega) (by omega)),Zx (z:=i+1) (by omega) (by omega)]
   exact ⟨_,rfl,⟨rfl,rfl,by dsimp only;omega,by dsimp only;omega,by dsimp only;rw [yl];omega⟩,by dsimp only;omega⟩
  ·right
   rw [if_neg (by simpa using hi)]
   exact ⟨_,rfl,by dsimp only;omega⟩
theorem ZAe (p:UInt64):∃o,Zfi fuel p=some o∧o.length=8:=by
 unfold Zfi
 obtain ⟨x,h1,h2⟩:=Yx (step:=VM fuel) 8 (fun k s=>∃c,s=(p,(k:Int),c)∧c.length=8) (fun x=>x.length=8) (i:=(p,(0:Int),([0,0,0,0,0,0,0,0]:List UInt8))) ⟨_,rfl,rfl⟩ (by omega) (by
  rintro k _ hk ⟨c,rfl,hc⟩
  left
  obtain ⟨e,he,_⟩:=Zs (l:=c) (k:=k) (by omega)
  unfold VM
  dsimp only
  rw [if_pos (decide_eq_true (by omega)),Zx (z:=8*(k:Int)) (by omega) (by omega),Zx (z:=56 - 8*(k:Int)) (by omega) (by omega),if_pos (decide_eq_true (by omega)),if_pos (YF (by omega) (by omega)),yca,he,yb,ZC (by omega)]
  exact ⟨_,rfl,_,rfl,by rw [List.length_set];exact hc⟩) (by
  rintro _ ⟨c,rfl,hc⟩
  unfold VM
  dsimp only
  rw [if_neg (by rw [decide_eq_true_iff];omega)]
  exact ⟨_,rfl,hc⟩)
 rw [h1,yb]
 exact ⟨_,rfl,by simp [h2]⟩
theorem ZsC {s:ByteArray} (hs:s.size≤100) (a b:UInt64):∃k,Xn fuel s [a,b]=some k∧Key k:=by
 unfold Xn
 obtain ⟨x,h1,n,p,rfl,hn,hp⟩:=Yx (step:=W5 fuel) 2 (fun k q=>∃p,q=(s,[a,b],(2:Int),(k:Int),p)∧p.length=k∧∀l∈p,l.length≤60000) (fun x=>∃n p,x=(n,p)∧n=s∧p.length=2∧∀l∈p,l.length≤60000) (i:=(s,[a,b],(([a,b]:List UInt64).length:Int),(0:Int),([]:List (List UInt8)))) ⟨_,rfl,rfl,by simp⟩ (by omega) (by
  rintro k _ hk ⟨p,rfl,hp,hq⟩
  left
  obtain ⟨e,he,_⟩:=Zs (l:=[a,b]) (k:=k) (by simp;omega)
  obtain ⟨o,ho,hol⟩:=ZAe e
  unfold W5
  dsimp only
  rw [if_pos (decide_eq_true (by omega)),ZD he,yb,ho,yb,if_pos (Yg (by omega) (by omega)),ZC (by omega)]
  refine ⟨_,rfl,_,rfl,by simp [hp], ?_⟩
  intro l hl
  rcases ych.1 hl with h|h
  ·exact hq l h
  ·rw [yal.1 h];omega) (by
  rintro _ ⟨p,rfl,hp,hq⟩
  unfold W5
  dsimp only
  rw [if_neg (by rw [decide_eq_true_iff];omega)]
  exact ⟨_,rfl,_,_,rfl,rfl,hp,hq⟩)
 subst hn
 rw [h1,yb]
 obtain ⟨o,ho,hol⟩:=ZBv (s:=n) (ls:=p) hs (by omega) hp.2
 dsimp only
 rw [ho,yb]
 obtain ⟨k,hk,hkk⟩:=ZBu hol
 rw [hk,yb]
 exact ⟨_,rfl,hkk⟩
theorem ZJq (a b:UInt64):∃k,Xn fuel ZE6 [a,b]=some k∧Key k:=ZsC (by decide) a b
theorem ZJr (a b:UInt64):∃k,Xn fuel ZBs [a,b]=some k∧Key k:=ZsC (by decide) a b
noncomputable def mf (base per:UInt64):UInt64:=Classical.choose (ZJq per base)
noncomputable def rf (a b:UInt64):UInt64:=Classical.choose (ZJr a b)
theorem ZJs (base per:UInt64):Xn fuel ZE6 [per,base]=some (mf base per):=(Classical.choose_spec (ZJq per base)).1
theorem ZHa (a b:UInt64):Xn fuel ZBs [a,b]=some (rf a b):=(Classical.choose_spec (ZJr a b)).1
noncomputable def mix (base per:UInt64):UInt64:=ad base (B (mf base per).toNat)
noncomputable def ZeI (base per:UInt64):UInt64:=ad (sc base (rf base per).toNat) (sc per (rf per base).toNat)
theorem ZIw (base per:UInt64):Zds fuel base per=some (mix base per):=by
 unfold Zds
 rw [ZJs,yb,ZwE,yb,ZFd,yb]
 rfl
theorem ZCP (base per:UInt64):Zdc fuel base per=some (ZeI base per):=by
 unfold Zdc
 rw [ZHa,yb,ZsB,yb,ZHa,yb,ZsB,yb,ZFd,yb]
 rfl
theorem ZsD (base per:UInt64):VX (mix base per).toNat:=ZG9 _ _
theorem Zom (base per:UInt64):VX (ZeI base per).toNat:=ZG9 _ _
theorem ZFe {h:List UInt8} (hl:h.length=32):∃k,WH fuel h=some k∧Key k∧Zfo fuel h=some (B k.toNat):=by
 obtain ⟨k,h1,h2⟩:=ZBu hl
 refine ⟨k,h1,h2, ?_⟩
 unfold Zfo
 rw [h1,yb,ZwE,yb]
end Go.Proofs.YtjbbdlffilcaaaaGreat
end
section
set_option maxRecDepth 4000
namespace Go.Proofs.YtjbbdlffilcaaaaGreat
open Go Go.Ev
theorem ZCQ {ls:List (List UInt8)} (h:ls.flatten.length≤1000000000) (hn:ls.length≤1000):Yw fuel ls=some ls.flatten:=by
 unfold Yw
 rw [show (ls,(0:Int),ls,(ls.length:Int),(0:Int))=(fun k:Nat=>(ls,((ls.take k).flatten.length:Int),ls,(ls.length:Int),(k:Int))) 0 from rfl,
  Z2 (x:=(ls,(ls.flatten.length:Int))) ls.length (fun k:Nat=>(ls,((ls.take k).flatten.length:Int),ls,(ls.length:Int),(k:Int))) ?_ ?_ (by omega),yb]
 ·have hg:Zrl (ls.flatten.length:Int)=some []:=by
   unfold Zrl
   rw [if_pos]
   rw [Bool.and_eq_true]
   exact ⟨decide_eq_true (by omega),decide_eq_true (by unfold Zq;omega)⟩
  dsimp only
  rw [hg,yb,show (ls,(ls.length:Int),(0:Int),([]:List UInt8))=(fun k:Nat=>(ls,(ls.length:Int),(k:Int),(ls.take k).flatten)) 0 from rfl,
   Z2 (x:=ls.flatten) ls.length (fun k:Nat=>(ls,(ls.length:Int),(k:Int),(ls.take k).flatten)) ?_ ?_ (by omega),yb]
  ·intro k hk
   obtain ⟨e,he,_⟩:=Zs hk
   have hf:=Zut he
   have hl:=ZBm ls (k+1)
   rw [hf,yl] at hl
   unfold YQ
   dsimp only
   rw [if_pos (Xj hk),ZD he,yb,if_pos (Yg (by omega) (by omega)),ZC (by omega),hf]
  ·unfold YQ
   dsimp only
   rw [if_neg (by rw [Yy];decide),ybb]
 ·intro k hk
  obtain ⟨e,he,_⟩:=Zs hk
  have hf:=Zut he
  have hl:=ZBm ls (k+1)
  rw [hf,yl] at hl
  unfold YP
  dsimp only
  rw [if_pos (Xj hk),ZD he,yb,Zx (z:=((ls.take k).flatten.length:Int)+(e.length:Int)) (by omega) (by omega),if_neg (by rw [decide_eq_true_iff];omega),ZC (by omega),hf,yl]
  rfl
 ·unfold YP
  dsimp only
  rw [if_neg (by rw [Yy];decide),ybb]
theorem ZBw {a b:List UInt8} (h:a.length+b.length≤1000000000):Qr fuel a b=some (a++b):=by
 unfold Qr
 rw [ZCQ (by simp;omega) (by simp),yb]
 simp
def ZfT (n:Nat):List UInt8:=if h:n < 128 then [yas n] else yas (n % 128+128)::ZfT (n / 128)
termination_by n
decreasing_by omega
theorem Zl1 {n:Nat} (h:n < 128):ZfT n=[yas n]:=by rw [ZfT,dif_pos h]
theorem ZyF {n:Nat} (h:¬n < 128):ZfT n=yas (n % 128+128)::ZfT (n / 128):=by rw [ZfT,dif_neg h]
theorem ZBx:∀(j n:Nat),n < 128 ^ (j+1)→(ZfT n).length≤j+1
 |0,n,h=>by rw [Zl1 (by omega)];exact Nat.le_refl _
 |j+1,n,h=>by
  by_cases h0:n < 128
  ·rw [Zl1 h0,List.length_singleton];omega
  ·rw [ZyF h0]
   have:=ZBx j (n / 128) (by rw [Nat.pow_succ] at h;omega)
   simp only [yz]
   omega
theorem VT {n:Nat} (h:n≤9223372036854775807):(ZfT n).length≤9:=ZBx 8 n (by omega)
theorem ZIx {n:Nat} (h:n≤9223372036854775807):Zgy fuel (n:Int)=some (ZfT n):=by
 unfold Zgy
 refine Exists.elim (XZ (step:=Zde fuel) (fun s=>∃m:Nat,s.1=(m:Int)∧m≤n∧s.2++ZfT m=ZfT n) (fun s=>s.1.toNat) (fun x=>∃m:Nat,x.1=(m:Int)∧m < 128∧x.2++ZfT m=ZfT n) ?_ ((n:Int),([]:List UInt8)) ⟨n,rfl,Nat.le_refl _,rfl⟩ (by dsimp only;omega)) ?_
 ·rintro ⟨_,o⟩ ⟨m,rfl,hm,ho⟩
  unfold Zde
  dsimp only at ho ⊢
  have hr:=congrArg ybp ho
  have hl:=VT h
  rw [yl] at hr
  by_cases h1:m < 128
  ·right
   rw [if_neg (by rw [decide_eq_true_iff];omega)]
   exact ⟨_,rfl,m,rfl,h1,ho⟩
  ·left
   rw [if_pos (decide_eq_true (by omega)),if_pos (Yg (by omega) (by omega))]
   have e1:Int.tmod (m:Int) 128=((m % 128:Nat):Int):=rfl
   have e2:Int.tdiv (m:Int) 128=((m / 128:Nat):Int):=rfl
   rw [e1,e2,Zx (z:=((m % 128:Nat):Int)+128) (by omega) (by omega),Zx (z:=((m / 128:Nat):Int)) (by omega) (by omega)]
   refine ⟨_,rfl,⟨m / 128,rfl,by omega, ?_⟩,by dsimp only;omega⟩
   dsimp only
   rw [←ho,ZyF h1,yaf]
   congr 1
   rw [List.singleton_append]
   congr 1
   unfold w8
   congr 1
   omega
 ·rintro ⟨_,o⟩ ⟨h1,m,rfl,h2,h3⟩
  dsimp only at h3 ⊢
  have hr:=congrArg ybp h3
  have hl:=VT h
  rw [yl] at hr
  rw [h1,yb]
  dsimp only
  rw [if_pos (Yg (by omega) (by omega)), ←h3,Zl1 h2]
  congr 3
  unfold w8
  congr 1
  omega
theorem ZwF {b:List UInt8} {z:Int} (h0:0≤z) (h:z≤9223372036854775807) (hb:b.length≤1000000):X0 fuel b z=some (b++ZfT z.toNat):=by
 obtain ⟨n,rfl⟩:=Int.eq_ofNat_of_zero_le h0
 have:=VT (n:=n) (by omega)
 unfold X0
 rw [if_neg (by rw [decide_eq_true_iff];omega),ZIx (by omega),yb,ZBw (by omega),yb,yca]
def Znl (l:List UInt8) (n k:Nat):List UInt8:=l.take k++List.replicate (n - k) 0
theorem ZCR {l:List UInt8} {n k:Nat} (h:k < l.length) (h2:l.length≤n):(Znl l n k)[k]? =some 0:=by
 unfold Znl
 have h3:(l.take k).length=k:=by simp;omega
 rw [List.getElem?_append_right (by omega),h3,List.getElem?_replicate]
 simp
 omega
theorem ZCS {l:List UInt8} {n k:Nat} {d:UInt8} (hx:l[k]? =some d) (h2:l.length≤n):(Znl l n k).set k d=Znl l n (k+1):=by
 have h:k < l.length:=(yj.1 hx).1
 have h3:(l.take k).length=k:=by simp;omega
 unfold Znl
 rw [Zbk hx,List.set_append_right _ _ (by omega),h3,Nat.sub_self]
 have e:n - k=(n - (k+1))+1:=by omega
 rw [e,List.replicate_succ]
 simp
theorem ZCT {l:List UInt8} {n:Nat} (h:l.length=n):Znl l n n=l:=by
 unfold Znl
 rw [←h]
 simp
def ZtD (n:Nat):List UInt8:=(List.range 8).map fun i=>yas (n / 2 ^ (56 - 8*i))
theorem ZjN (n:Nat):(ZtD n).length=8:=by simp [ZtD]
theorem ZFf (n:Nat) {k:Nat} (hk:k < 8):(ZtD n)[k]? =some (yas (n / 2 ^ (56 - 8*k))):=by simp [ZtD,hk]
theorem ZFg (x:UInt64) {m:Nat}:w8 ((Zw x m).toNat:Int)=yas (x.toNat / 2 ^ m):=by
 unfold w8 Zw
 have h:x.toNat / 2 ^ m < 18446744073709551616:=Nat.lt_of_le_of_lt (Nat.div_le_self ..) (ybi _)
 rw [ybd,yah h]
 apply UInt8.toNat_inj.1
 rw [UInt8.toNat_ofNat',UInt8.toNat_ofNat']
 omega
theorem Zuy {b:List UInt8} (x:UInt64) (hb:b.length≤1000000):Zal fuel b x=some (b++ZtD x.toNat):=by
 unfold Zal
 rw [show (b,x,(0:Int),([0,0,0,0,0,0,0,0]:List UInt8))=(fun k:Nat=>(b,x,(k:Int),Znl (ZtD x.toNat) 8 k)) 0 from rfl,
  Z2 (x:=(b,ZtD x.toNat)) 8 (fun k:Nat=>(b,x,(k:Int),Znl (ZtD x.toNat) 8 k)) ?_ ?_ (by omega),yb]
 ·dsimp only
  rw [ZBw (by rw [ZjN];omega),yb]
 ·intro k hk
  unfold Qj
  dsimp only
  have hl:=ZjN x.toNat
  rw [if_pos (decide_eq_true (by omega)),Zx (z:=8*(k:Int)) (by omega) (by omega),Zx (z:=56 - 8*(k:Int)) (by omega) (by omega),if_pos (decide_eq_true (by omega)),if_pos (YF (by omega) (by omega)),
   yca,ZCR (by omega) (by omega),yb,ZC (by omega)]
  have e:min (56 - 8*(k:Int)).toNat 64=56 - 8*k:=by omega
  rw [e,ZFg,ZCS (ZFf _ hk) (by omega)]
 ·unfold Qj
  dsimp only
  rw [if_neg (by simp),ZCT (ZjN _)]
def ZIy (b:YR):Prop:=b.1.length≤12∧0≤b.2.1∧b.2.1≤1048576∧0≤b.2.2.1∧b.2.2.1≤1048576
def ZIz (b:YR):Prop:=(∀p,p∈b.1→VX p.toNat)∧(b.2.2.2≠0→VX b.2.2.2.toNat)
def Zcs (l:XV):Prop:=0 < l.length∧l.length≤4∧∀b,b∈l→ZIy b
def ZeJ (l:XV):Prop:=∀b,b∈l→ZIz b
theorem ZIA (p:UInt64):Va fuel p=some (!decide (VX p.toNat)):=by
 unfold Va
 rw [ZjK,yb]
theorem ZFh {p:UInt64} (h:VX p.toNat):Va fuel p=some false:=by rw [ZIA,decide_eq_true h];rfl
theorem ZJt {l:List UInt64} (hl:l.length≤12) (h:∀p,p∈l→VX p.toNat):Zby fuel l=some false:=by
 unfold Zby Zah
 rw [show (l,(l.length:Int),(0:Int))=(fun k:Nat=>(l,(l.length:Int),(k:Int))) 0 from rfl,
  Z2 (x:=.inr ()) l.length (fun k:Nat=>(l,(l.length:Int),(k:Int))) ?_ ?_ (by omega),yb]
 ·rfl
 ·intro k hk
  obtain ⟨e,he,hm⟩:=Zs hk
  unfold Wj
  dsimp only
  rw [if_pos (Xj hk),ZD he,yb,ZFh (h e hm),yb,ZC (by omega)]
  rfl
 ·unfold Wj
  dsimp only
  rw [if_neg (by rw [Yy];decide)]
theorem Zuz {z:Int} (h0:0≤z) (h1:z≤1048576):Zai fuel z=some true:=by
 unfold Zai
 rw [if_pos (decide_eq_true h0),decide_eq_true h1]
theorem Zl2 {l:XV} (h:Zcs l) (hp:ZeJ l):VO fuel l=some true:=by
 unfold VO
 obtain ⟨h0,h1,h2⟩:=h
 rw [show (l,(l.length:Int),(0:Int),l)=(fun k:Nat=>(l,(l.length:Int),(k:Int),l)) 0 from rfl,
  Z2 (x:=.inr l) l.length (fun k:Nat=>(l,(l.length:Int),(k:Int),l)) ?_ ?_ (by omega),yb]
 ·dsimp only
  rw [if_pos (decide_eq_true (by omega)),decide_eq_true (by omega)]
 ·intro k hk
  obtain ⟨e,he,hm⟩:=Zs hk
  obtain ⟨e1,e2,e3,e4,e5⟩:=h2 e hm
  obtain ⟨p1,p2⟩:=hp e hm
  unfold Zaj
  dsimp only
  rw [if_pos (Xj hk),ZD he,yb,if_neg (by rw [decide_eq_true_iff];omega),ZJt e1 p1,yb,Zuz e2 e3,yb,Zuz e4 e5,yb,ZC (by omega),if_neg (by decide),if_neg (by decide),if_neg (by decide)]
  by_cases hz:e.2.2.2=0
  ·rw [if_neg (by simp [hz])]
  ·rw [if_pos (by simp [hz]),ZFh (p2 hz),yb,if_neg (by decide)]
 ·unfold Zaj
  dsimp only
  rw [if_neg (by rw [Yy];decide)]
def ZJH (t:Tx):Prop:=(∀x,x∈t.1→x.1.1.length=32)∧t.2.2≤9223372036854775807
def ZJu (x:In):Prop:=0≤x.1.2∧x.1.2 < 64∧0≤x.2.1∧x.2.1 < 4∧x.2.2.1.length≤12
def ZFi (o:Out):Prop:=0≤o.1∧o.1≤1125899906842624∧Zcs o.2∧ZeJ o.2
def ZJv (t:Tx):Prop:=0 < t.1.length∧t.1.length≤64∧t.2.1.length≤64∧0≤t.2.2∧(∀x,x∈t.1→ZJu x)∧∀o,o∈t.2.1→ZFi o
def cat {α:Type} (f:α→List UInt8) (l:List α):List UInt8:=(l.map f).flatten
theorem ZyG {α:Type} {f:α→List UInt8} {l:List α} {k:Nat} {e:α} (h:l[k]? =some e):cat f (l.take (k+1))=cat f (l.take k)++f e:=by
 unfold cat
 rw [Zbk h,yai,List.flatten_append]
 simp
theorem ZFj {α:Type} {f:α→List UInt8} {l:List α} {e:α}:cat f (e::l)=f e++cat f l:=rfl
theorem ZBy {α:Type} {f:α→List UInt8} {c:Nat}:∀{l:List α},(∀x,x∈l→(f x).length≤c)→(cat f l).length≤l.length*c
 |[],_=>by simp [cat]
 |e::l,h=>by
  have h1:=h e (yam ..)
  have h2:=ZBy (l:=l) fun x hx=>h x (yaq _ hx)
  rw [ZFj,yl,yz,Nat.succ_mul]
  omega
theorem ZsE {α:Type} {f:α→List UInt8} {c n:Nat} {l:List α} (h:∀x,x∈l→(f x).length≤c) (hn:l.length≤n) (k:Nat):(cat f (l.take k)).length≤n*c:=by
 refine ybu (ZBy fun x hx=>h x (ybl hx)) (Nat.mul_le_mul_right c ?_)
 rw [yab]
 omega
def ZFk (p:UInt64):List UInt8:=ZtD p.toNat
def brF (b:YR):List UInt8:=ZfT b.1.length++(cat ZFk b.1++(ZfT b.2.1.toNat++(ZfT b.2.2.1.toNat++ZtD b.2.2.2.toNat)))
def ZyH (l:XV):List UInt8:=ZfT l.length++cat brF l
theorem ZsF {l:List UInt64} (h:l.length≤12) (k:Nat):(cat ZFk (l.take k)).length≤96:=ZsE (c:=8) (fun x _=>Nat.le_of_eq (ZjN _)) h k
theorem ZBz {b:YR} (h:b.1.length≤12∧0≤b.2.1∧b.2.1≤1048576∧0≤b.2.2.1∧b.2.2.1≤1048576):(brF b).length≤131:=by
 have h1:=ZsF h.1 b.1.length
 rw [ybb] at h1
 have h2:=VT (n:=b.1.length) (by omega)
 have h3:=VT (n:=b.2.1.toNat) (by omega)
 have h4:=VT (n:=b.2.2.1.toNat) (by omega)
 have h5:=ZjN b.2.2.2.toNat
 unfold brF
 simp only [yl]
 omega
theorem ZCU {l:XV} (h:Zcs l):(ZyH l).length≤533:=by
 have h1:=ZsE (f:=brF) (c:=131) (fun x hx=>ZBz (h.2.2 x hx)) h.2.1 l.length
 rw [ybb] at h1
 have h2:=VT (n:=l.length) (by have:=h.2.1;omega)
 unfold ZyH
 rw [yl]
 omega
theorem ZCV {c:List UInt8} (hc:c.length≤100000) {bs:List YR} {n i:Int} {ks:List UInt64} {l:XV} {e:YR} (hk:ks.length≤12):
 Zc (VS fuel) fuel (c,bs,n,i,ks,(ks.length:Int),(0:Int),l,e)=some (c++cat ZFk ks,bs,n,i,l,e):=by
 rw [show (c,bs,n,i,ks,(ks.length:Int),(0:Int),l,e)=(fun k:Nat=>(c++cat ZFk (ks.take k),bs,n,i,ks,(ks.length:Int),(k:Int),l,e)) 0 by simp [cat]]
 refine Z2 ks.length (fun k:Nat=>(c++cat ZFk (ks.take k),bs,n,i,ks,(ks.length:Int),(k:Int),l,e)) ?_ ?_ (by omega)
 ·intro k hk2
  obtain ⟨e,he,_⟩:=Zs hk2
  have hl:=ZsF hk k
  unfold VS
  dsimp only
  rw [if_pos (Xj hk2),ZD he,yb,Zuy _ (by rw [yl];omega),yb,ZC (by omega),ZyG he,yaf]
  rfl
 ·unfold VS
  dsimp only
  rw [if_neg (by rw [Yy];decide),ybb]
theorem ZAf {l:XV} (h:Zcs l) (hp:ZeJ l):Zb8 fuel l=some (ZyH l):=by
 unfold Zb8
 have h0:=h.2.1
 have h9:=VT (n:=l.length) (by omega)
 rw [Zl2 h hp,yb,if_neg (by decide),ZwF (by omega) (by omega) (by simp),yb,List.nil_append,yca]
 rw [show (ZfT l.length,l,(l.length:Int),(0:Int),l)=(fun k:Nat=>(ZfT l.length++cat brF (l.take k),l,(l.length:Int),(k:Int),l)) 0 by simp [cat],
  Z2 (x:=(ZyH l,l)) l.length (fun k:Nat=>(ZfT l.length++cat brF (l.take k),l,(l.length:Int),(k:Int),l)) ?_ ?_ (by omega),yb]
 ·intro k hk
  obtain ⟨e,he,hm⟩:=Zs hk
  obtain ⟨e1,e2,e3,e4,e5⟩:=h.2.2 e hm
  have hl:=ZsE (f:=brF) (c:=131) (fun x hx=>ZBz (h.2.2 x hx)) h.2.1 k
  have hr:=VT (n:=e.1.length) (by omega)
  have hr2:=VT (n:=e.2.1.toNat) (by omega)
  have hr3:=VT (n:=e.2.2.1.toNat) (by omega)
  have hk8:=ZsF e1 e.1.length
  rw [ybb] at hk8
  unfold Zam
  dsimp only
  rw [if_pos (Xj hk),ZD he,yb,ZwF (by omega) (by omega) (by rw [yl];omega),yb,yca,
   ZCV (by simp only [yl];omega) e1,yb]
  dsimp only
  rw [ZwF e2 (by omega) (by simp only [yl];omega),yb,ZwF e4 (by omega) (by simp only [yl];omega),yb,
   Zuy _ (by simp only [yl];omega),yb,ZC (by omega),ZyG he]
  unfold brF
  simp only [yaf]
 ·unfold Zam
  dsimp only
  rw [if_neg (by rw [Yy];decide),ybb]
  rfl
theorem ZFl {l:XV} (h:Zcs l) (hp:ZeJ l):∃o,Zke fuel l=some o∧o.length=32:=by
 unfold Zke
 obtain ⟨o,h1,h2⟩:=ZBv (s:=ZG7) (ls:=[ZyH l]) (by decide) (by simp) (by intro x hx;rw [yal.1 hx];have:=ZCU h;omega)
 rw [Zl2 h hp,yb,if_neg (by decide),ZAf h hp,yb,h1,yb]
 exact ⟨_,rfl,h2⟩
def ZjO (l:List Out):Int:=(l.map (·.1)).sum
theorem ZuA {l:List Out} {k:Nat} {e:Out} (h:l[k]? =some e):ZjO (l.take (k+1))=ZjO (l.take k)+e.1:=by
 unfold ZjO
 rw [Zbk h,yai,List.sum_append]
 simp
theorem ZFm:∀{l:List Int},(∀x,x∈l→0≤x)→0≤l.sum
 |[],_=>by simp
 |x::r,h=>by
  have:=ZFm (l:=r) fun y hy=>h y (yaq _ hy)
  have:=h x (yam ..)
  rw [List.sum_cons]
  omega
theorem ZBA {l:List Out} (h:∀o,o∈l→ZFi o) (k:Nat):0≤ZjO (l.take k)∧ZjO (l.take k)≤ZjO l:=by
 have h1:∀(l:List Out),(∀o,o∈l→ZFi o)→0≤ZjO l:=fun l h=>ZFm fun x hx=>by
  obtain ⟨o,ho,rfl⟩:=List.mem_map.1 hx
  exact (h o ho).1
 refine ⟨h1 _ fun o ho=>h o (ybl ho), ?_⟩
 have:=h1 (l.drop k) fun o ho=>h o (List.mem_of_mem_drop ho)
 have e:ZjO l=ZjO (l.take k)+ZjO (l.drop k):=by
  unfold ZjO
  rw [←List.sum_append, ←yai,List.take_append_drop]
 omega
theorem ZyI {z:Int} (h0:0≤z) (h1:z≤1125899906842624):Zd8 fuel z=some true:=by
 unfold Zd8
 rw [if_pos (decide_eq_true h0),decide_eq_true h1]
theorem ZBB {a b:Int} (h0:0≤a) (h1:0≤b) (h2:a+b≤1125899906842624):Zgr fuel a b=some (a+b,true):=by
 unfold Zgr
 rw [ZyI h0 (by omega),yb,if_neg (by decide),ZyI h1 (by omega),yb,if_neg (by decide),Zx (z:=1125899906842624 - b) (by omega) (by omega),Zx (z:=a+b) (by omega) (by omega),if_neg (by rw [decide_eq_true_iff];omega)]
theorem ZAg {x:In} (h:ZJu x):Zb9 fuel x.2=some true:=by
 obtain ⟨_,_,h1,h2,h3⟩:=h
 unfold Zb9
 rw [if_pos (decide_eq_true h1),if_pos (decide_eq_true h2),decide_eq_true (by omega)]
theorem ZFn {x:In} {Zat:List Out} {note:Int} (h:ZJv ([x],Zat,note)) (hs:ZjO Zat≤1125899906842624):ZgA fuel ([x],Zat,note)=some true:=by
 obtain ⟨h1,h2,h3,h4,h5,h6⟩:=h
 dsimp only at h3 h4 h5 h6
 have hx:=h5 x (yal.2 rfl)
 unfold ZgA
 dsimp only
 rw [if_neg (by simp),if_neg (by simp),if_neg (by rw [decide_eq_true_iff];omega),if_neg (by rw [decide_eq_true_iff];omega)]
 obtain ⟨y,g1,m,rfl⟩:=Yx (step:=Zaq fuel) 1 (fun k s=>∃m,s=([x],(1:Int),(k:Int),([x],Zat,note),m)∧(k=0→m=[])) (fun y=>∃m,y=.inr (([x],Zat,note),m)) (i:=([x],(([x]:List In).length:Int),(0:Int),([x],Zat,note),([]:List (XQ×Bool)))) ⟨_,rfl,fun _=>rfl⟩ (by omega) (by
  rintro k _ hk ⟨m,rfl,hm⟩
  left
  have e:k=0:=by omega
  subst e
  rw [hm rfl]
  unfold Zaq
  dsimp only
  have e1:ZuY ([]:List (XQ×Bool)) x.1=none:=rfl
  rw [if_pos (decide_eq_true (by omega)),ZD (show ([x]:List In)[0]? =some x from rfl),yb,e1]
  unfold ZAM
  dsimp only
  rw [if_neg (by rw [decide_eq_true_iff];have:=hx.1;omega),if_neg (by rw [decide_eq_true_iff];have:=hx.2.1;omega),ZAg hx,yb,if_neg (by decide)]
  exact ⟨_,rfl,_,rfl,fun h=>by omega⟩) (by
  rintro _ ⟨m,rfl,hm⟩
  unfold Zaq
  dsimp only
  rw [if_neg (by rw [decide_eq_true_iff];omega)]
  exact ⟨_,rfl,_,rfl⟩)
 rw [g1,yb]
 dsimp only
 rw [show ((0:Int),Zat,(Zat.length:Int),(0:Int),([x],Zat,note),m)=(fun k:Nat=>(ZjO (Zat.take k),Zat,(Zat.length:Int),(k:Int),([x],Zat,note),m)) 0 from rfl,
  Z2 (x:=.inr (([x],Zat,note),m)) Zat.length (fun k:Nat=>(ZjO (Zat.take k),Zat,(Zat.length:Int),(k:Int),([x],Zat,note),m)) ?_ ?_ (by omega),yb]
 ·intro k hk
  obtain ⟨e,he,hm⟩:=Zs hk
  obtain ⟨o1,o2,o3,o4⟩:=h6 e hm
  have hk1:=ZBA h6 k
  have hk2:=ZBA h6 (k+1)
  rw [ZuA he] at hk2
  unfold Zdg
  dsimp only
  rw [if_pos (Xj hk),ZD he,yb,ZBB hk1.1 o1 (by omega),yb,Zl2 o3 o4,yb,ZC (by omega),ZuA he]
  rfl
 ·unfold Zdg
  dsimp only
  rw [if_neg (by rw [Yy];decide)]
end Go.Proofs.YtjbbdlffilcaaaaGreat
end
section
set_option maxRecDepth 4000
namespace Go.Proofs.YtjbbdlffilcaaaaGreat
open Go Go.Ev
def Tm (d:Int):Vh:=(100,200,d,16,1,1125899906842624)
noncomputable def ZE (k:Kit):WS:=(B k.1.toNat,B k.2.1.toNat,B k.2.2.1.toNat,B k.2.2.2.1.toNat,B k.2.2.2.2.1.toNat)
def KitOk (k:Kit):Prop:=Key k.1∧Key k.2.1∧Key k.2.2.1∧Key k.2.2.2.1∧Key k.2.2.2.2.1
def z32:List UInt8:=[0,0,0,0,0,0,0,0,0,0,0,0,0,0,0,0,0,0,0,0,0,0,0,0,0,0,0,0,0,0,0,0]
noncomputable def chan (A:Int) (k0 k1:Kit) (op:Int):ZO:=((z32,0),A,[ZE k0,ZE k1],[Tm 5,Tm 6],op)
structure ChOk (A:Int) (k0 k1:Kit) (op:Int):Prop where
 lo:20000≤A
 hi:A≤4300000000
 o:op=0∨op=1
 k0:KitOk k0
 k1:KitOk k1
theorem ZFo {k:UInt64} (h:Key k):B k.toNat≠1:=ZJG h.1 h.2
theorem ZIB {k:UInt64} (h:Key k):Vi fuel (B k.toNat)=some true:=by
 unfold Vi
 rw [Zol,yb,if_pos (decide_eq_true (ZCO _))]
 exact congrArg some (bne_iff_ne.2 (ZFo h))
theorem Zl3 {k:Kit} (h:KitOk k):∀p,p∈[(ZE k).1,(ZE k).2.1,(ZE k).2.2.1,(ZE k).2.2.2.1,(ZE k).2.2.2.2]→∃x:UInt64,Key x∧p=B x.toNat:=by
 obtain ⟨h1,h2,h3,h4,h5⟩:=h
 intro p hp
 simp only [ybf,ycg,or_false] at hp
 rcases hp with rfl|rfl|rfl|rfl|rfl
 ·exact ⟨_,h1,rfl⟩
 ·exact ⟨_,h2,rfl⟩
 ·exact ⟨_,h3,rfl⟩
 ·exact ⟨_,h4,rfl⟩
 ·exact ⟨_,h5,rfl⟩
theorem rin {z a b:Int} (h1:a≤z) (h2:z≤b):ZK fuel z a b=some true:=by
 unfold ZK
 rw [if_pos (decide_eq_true h1),decide_eq_true h2]
theorem ZyJ {z a b:Int} (h1:a≤z) (h2:z≤b):ZV fuel z a b=some true:=by
 unfold ZV
 rw [if_pos (decide_eq_true h1),decide_eq_true h2]
theorem ZFp {d:Int} (h1:1≤d) (h2:d≤4096):Wu fuel (Tm d)=some true:=by
 unfold Wu Tm
 dsimp only
 rw [rin (by omega) (by omega),yb,if_pos rfl,rin (by omega) (by omega),yb,if_pos rfl,rin h1 h2,yb,if_pos rfl,rin (by omega) (by omega),yb,if_pos rfl,rin (by omega) (by omega),yb,if_pos rfl,rin (by omega) (by omega)]
 rfl
theorem ZuB (i:Int) (ch:ZO) (b:WS) {l:List UInt64} (hl:l.length=5) (h:∀p,p∈l→∃x:UInt64,Key x∧p=B x.toNat):Zc (Xq fuel) fuel (i,l,(0:Int),ch,b)=some (.inr (i,ch,b)):=by
 refine Z2 5 (fun k:Nat=>(i,l,(k:Int),ch,b)) ?_ ?_ (by omega)
 ·intro k hk
  obtain ⟨e,he,hm⟩:=Zs (l:=l) (k:=k) (by omega)
  obtain ⟨x,hx,rfl⟩:=h e hm
  unfold Xq
  dsimp only
  rw [if_pos (decide_eq_true (by omega)),ZD he,yb,ZIB hx,yb,if_neg (by decide),ZC (by omega)]
 ·unfold Xq
  dsimp only
  rw [if_neg (by rw [decide_eq_true_iff];omega)]
theorem ZJI {A:Int} {k0 k1:Kit} {op:Int} (h:ChOk A k0 k1 op):Vj fuel (chan A k0 k1 op)=some 0:=by
 obtain ⟨h1,h2,h3,h4,h5⟩:=h
 have hA:(chan A k0 k1 op).2.1=A:=rfl
 have hN:(chan A k0 k1 op).1.2=0:=rfl
 have hO:(chan A k0 k1 op).2.2.2.2=op:=rfl
 have hT:(chan A k0 k1 op).2.2.2.1=[Tm 5,Tm 6]:=rfl
 have hB:(chan A k0 k1 op).2.2.1=[ZE k0,ZE k1]:=rfl
 unfold Vj
 rw [hA,hN,hO,rin (by omega) (by omega),yb,if_neg (by decide),rin (by omega) (by omega),yb,if_neg (by decide),rin (by omega) (by omega),yb,if_neg (by decide)]
 generalize hc:chan A k0 k1 op=c at*
 rw [show ((0:Int),c)=(fun k:Nat=>((k:Int),c)) 0 from rfl,Z2 (x:=.inr c) 2 (fun k:Nat=>((k:Int),c)) ?_ ?_ (by omega),yb]
 ·dsimp only
  rw [hT]
  show (if decide (wi (200+200) > c.2.1)=true then some (10:Int) else some 0)=some 0
  rw [hA,Zx (by omega) (by omega),if_neg (by rw [decide_eq_true_iff];omega)]
 ·intro k hk
  unfold We
  dsimp only
  rw [if_pos (decide_eq_true (by omega)),if_pos (YF (by omega) (by omega)),yca,hB,hT]
  match k,hk with
  |0,_=>
   show (ybk (some (ZE k0)) _)=_
   rw [yb,if_pos (by decide)]
   show (ybk (some (Tm 5)) _)=_
   rw [yb,ZFp (by omega) (by omega),yb,if_neg (by decide),ZuB _ _ _ rfl (Zl3 h4),yb]
   rfl
  |1,_=>
   show (ybk (some (ZE k1)) _)=_
   rw [yb,if_pos (by decide)]
   show (ybk (some (Tm 6)) _)=_
   rw [yb,ZFp (by omega) (by omega),yb,if_neg (by decide),ZuB _ _ _ rfl (Zl3 h5),yb]
   rfl
 ·unfold We
  dsimp only
  rw [if_neg (by rw [decide_eq_true_iff];omega)]
def CondIn (c:ZB):Prop:=(c.1=0∨c.1=1)∧1≤c.2.1∧c.2.1≤1048576∧1≤c.2.2.1∧c.2.2.1≤65536∧VX c.2.2.2.1.toNat∧c.2.2.2.1≠1∧1≤c.2.2.2.2∧c.2.2.2.2≤65536
def Ahd (a b:ZB):Prop:=a.1 < b.1∨a.1=b.1∧a.2.1 < b.2.1
instance (a b:ZB):Decidable (Ahd a b):=by unfold Ahd;infer_instance
theorem ZCW {a b c:ZB} (h:Ahd a b) (k:Ahd b c):Ahd a c:=by unfold Ahd at*;omega
theorem ZIC {a b:ZB} (h:a.2.1≠b.2.1) (k:¬Ahd a b):Ahd b a:=by unfold Ahd at*;omega
theorem ZuC (a b:ZB):XB fuel a b=some (decide (Ahd a b)):=by
 unfold XB
 by_cases h1:a.1 < b.1
 ·rw [if_pos (decide_eq_true h1),decide_eq_true (p:=Ahd a b) (Or.inl h1)]
 ·rw [if_neg (by rw [decide_eq_true_iff];exact h1)]
  by_cases h2:a.1=b.1
  ·rw [if_pos (by rw [h2];exact beq_self_eq_true _)]
   congr 1
   rw [decide_eq_decide]
   unfold Ahd
   omega
  ·rw [if_neg (by rw [beq_iff_eq];exact h2),decide_eq_false (p:=Ahd a b) (by unfold Ahd;omega)]
theorem ZHb {c:ZB} (h:CondIn c):XR fuel c=some true:=by
 obtain ⟨h1,h2,h3,h4,h5,h6,h7,h8,h9⟩:=h
 unfold XR
 rw [Zol,yb,if_pos (decide_eq_true h6),if_pos (bne_iff_ne.2 h7),ZyJ (by omega) (by omega),yb,if_pos rfl,ZyJ h2 h3,yb,if_pos rfl,ZyJ h4 (by omega),yb,if_pos rfl,ZyJ h8 (by omega)]
 rfl
def amtC (l:List ZB):Int:=(l.map (·.2.2.1)).sum
theorem ZuD {l:List ZB} {k:Nat} {e:ZB} (h:l[k]? =some e):amtC (l.take (k+1))=amtC (l.take k)+e.2.2.1:=by
 unfold amtC
 rw [Zbk h,yai,List.sum_append]
 simp
theorem Zhz {l:List ZB} (h:∀c,c∈l→CondIn c):0≤amtC l∧amtC l≤65536*(l.length:Int):=by
 induction l with
 |nil=>exact ⟨Int.le_refl _,Int.le_refl _⟩
 |cons c r ih=>
  obtain ⟨h1,h2⟩:=ih fun x hx=>h x (yaq _ hx)
  have hc:=h c (yam ..)
  have e:amtC (c::r)=c.2.2.1+amtC r:=rfl
  rw [e,yz]
  have:=hc.2.2.2.1
  have:=hc.2.2.2.2.1
  omega
theorem ZsG {l:List ZB} (h:∀c,c∈l→CondIn c) (k:Nat):0≤amtC (l.take k)∧amtC (l.take k)≤65536*(l.length:Int):=by
 have h1:=Zhz (l:=l.take k) fun c hc=>h c (ybl hc)
 rw [yab] at h1
 omega
structure StIn (A:Int) (s:State) (h0 h1:Int):Prop where
 n0:0≤s.1
 n1:s.1≤65535
 hv:s.2.1=[h0,h1]
 p0:0≤h0
 p1:0≤h1
 r0:0≤s.2.2.2
 r1:s.2.2.2≤7
 len:s.2.2.1.length≤16
 cs:∀c,c∈s.2.2.1→CondIn c
 srt:s.2.2.1.Pairwise Ahd
 tot:h0+h1+amtC s.2.2.1=A
def cost (r:Int) (n:Nat):Int:=r*(68+8*(n:Int))+660
theorem ZwG {r m:Int} (h0:0≤r) (h1:r≤7) (h2:0≤m):0≤r*m∧r*m≤7*m:=⟨Int.mul_nonneg h0 h2,Int.mul_le_mul_of_nonneg_right h1 h2⟩
theorem ZhA {r:Int} {n:Nat} (h0:0≤r) (h1:r≤7) (h2:n≤16):660≤cost r n∧cost r n≤2032:=by
 have:=ZwG (m:=68+8*(n:Int)) h0 h1 (by omega)
 unfold cost
 omega
theorem ZJw {r:Int} {n:Nat} (h0:0≤r) (h1:r≤7) (h2:n≤16):Vk fuel r (n:Int)=some (r*(68+8*(n:Int))):=by
 have:=ZwG (m:=68+8*(n:Int)) h0 h1 (by omega)
 unfold Vk
 rw [rin h0 (by omega),yb,if_neg (by decide)]
 unfold VD
 rw [rin (by omega) (by omega),yb,if_neg (by decide),yb,Zx (z:=4+(n:Int)) (by omega) (by omega),Zx (z:=(4+(n:Int))*8) (by omega) (by omega),Zx (z:=36+(4+(n:Int))*8) (by omega) (by omega),show 36+(4+(n:Int))*8=68+8*(n:Int) by omega,Zx (by omega) (by omega)]
theorem ZJx {A:Int} {s:State} {h0 h1:Int} (h:StIn A s h0 h1) (ch:ZO):YG fuel ch s=some (cost s.2.2.2 s.2.2.1.length):=by
 have:=ZhA h.r0 h.r1 h.len
 unfold YG
 unfold cost at*
 rw [ZJw h.r0 h.r1 h.len,yb,Zx (by omega) (by omega)]
theorem ZID {A:Int} {s:State} {h0 h1:Int} (h:StIn A s h0 h1) (hA:A≤4300000000):Wv fuel s=some A:=by
 obtain ⟨no,hv,l,r⟩:=s
 obtain ⟨_,_,hh,p0,p1,_,_,hl,hc,_,ht⟩:=h
 dsimp only at hh hl hc ht
 subst hh
 unfold Wv
 show ybk (some h0) _=_
 rw [yb]
 show ybk (some h1) _=_
 have hb:=fun k=>ZsG hc k
 have hb':=Zhz hc
 rw [yb,Zx (z:=h0+h1) (by omega) (by omega),show (h0+h1,(0:Int),(no,[h0,h1],l,r))=(fun k:Nat=>(h0+h1+amtC (l.take k),(k:Int),(no,[h0,h1],l,r))) 0 by simp [amtC],
  Z2 (x:=(A,(no,[h0,h1],l,r))) l.length (fun k:Nat=>(h0+h1+amtC (l.take k),(k:Int),(no,[h0,h1],l,r))) ?_ ?_ (by omega),yb]
 ·intro k hk
  obtain ⟨e,he,hm⟩:=Zs hk
  have h1:=hb k
  have h2:=hb (k+1)
  have h3:=ZuD he
  unfold XD
  dsimp only
  rw [if_pos (Xj hk),ZD he,yb,Zx (by omega) (by omega),ZC (by omega),h3,Int.add_assoc]
 ·unfold XD
  dsimp only
  rw [if_neg (by rw [Yy];decide),ybb,ht]
theorem ZJy {A:Int} {s:State} {h0 h1:Int} (h:StIn A s h0 h1) {to:Int} (ht:to=0∨to=1):∃n m,Xf fuel s to=some (n,m)∧0≤n∧n≤16∧0≤m∧m≤2000000:=by
 obtain ⟨no,hv,l,r⟩:=s
 have hl:=h.len
 have hc:=h.cs
 dsimp only at hl hc
 unfold Xf
 obtain ⟨x,g1,n,m,rfl,g2⟩:=Yx (step:=Ys fuel) l.length (fun k q=>∃n m,q=(to,n,m,(k:Int),(no,hv,l,r))∧0≤n∧n≤(k:Int)∧0≤m∧m≤65536*(k:Int)) (fun x=>∃n m,x=(n,m,(no,hv,l,r))∧0≤n∧n≤16∧0≤m∧m≤2000000) (i:=(to,(0:Int),(0:Int),(0:Int),(no,hv,l,r))) ⟨0,0,rfl,by omega⟩ (by omega) (by
  rintro k _ hk ⟨n,m,rfl,q⟩
  left
  obtain ⟨e,he,hm⟩:=Zs hk
  have h4:=(hc e hm).2.2.2.1
  have h5:=(hc e hm).2.2.2.2.1
  unfold Ys
  dsimp only
  rw [if_pos (Xj hk),ZD he,yb,ZC (by omega)]
  split
  ·rw [yb,Zx (z:=n+1) (by omega) (by omega),Zx (z:=m+e.2.2.1) (by omega) (by omega)]
   exact ⟨_,rfl,_,_,rfl,by omega⟩
  ·exact ⟨_,rfl,_,_,rfl,by omega⟩) (by
  rintro _ ⟨n,m,rfl,q⟩
  unfold Ys
  dsimp only
  rw [if_neg (by rw [Yy];decide)]
  exact ⟨_,rfl,_,_,rfl,by omega⟩)
 rw [g1,yb]
 exact ⟨_,_,rfl,g2⟩
def hav (op h0 h1:Int):Int:=if op=0 then h0 else h1
theorem ZAh {i:Int} (h:i=0∨i=1):∃d,([Tm 5,Tm 6]:List Vh)[(wi (1 - i)).toNat]? =some (Tm d):=by
 rcases h with rfl|rfl
 ·exact ⟨6,rfl⟩
 ·exact ⟨5,rfl⟩
theorem Znm {i:Int} (h:i=0∨i=1):inB (wi (1 - i)) 2=true:=by
 rcases h with rfl|rfl <;> rfl
theorem Xi {i:Int} (h:i=0∨i=1):inB i 2=true:=by
 rcases h with rfl|rfl <;> rfl
theorem Zfu {op h0 h1:Int} (h:op=0∨op=1):([h0,h1]:List Int)[op.toNat]? =some (hav op h0 h1):=by
 rcases h with rfl|rfl <;> rfl
theorem ZuE {A:Int} {k0 k1:Kit} {op:Int} (h:ChOk A k0 k1 op) {s:State} {h0 h1:Int} (hs:StIn A s h0 h1):Y7 fuel (chan A k0 k1 op) s=some (decide (hav op h0 h1 ≥ cost s.2.2.2 s.2.2.1.length)):=by
 have hT:(chan A k0 k1 op).2.2.2.1=[Tm 5,Tm 6]:=rfl
 have hA:(chan A k0 k1 op).2.1=A:=rfl
 have hO:(chan A k0 k1 op).2.2.2.2=op:=rfl
 have hlo:=h.lo
 have hhi:=h.hi
 have hco:=ZJx hs (chan A k0 k1 op)
 have hto:=ZID hs h.hi
 have hof:=fun to ht=>ZJy hs (to:=to) ht
 have hb:=Zhz hs.cs
 unfold Y7
 rw [ZJI h,yb,if_neg (by decide)]
 generalize hc:chan A k0 k1 op=c at*
 obtain ⟨no,hv,l,r⟩:=s
 obtain ⟨n0,n1,hh,p0,p1,r0,r1,hl,hcs,hsr,ht⟩:=hs
 dsimp only at n0 n1 hh p0 p1 r0 r1 hl hcs hsr ht hb
 subst hh
 dsimp only
 rw [ZyJ n0 (by omega),yb,if_neg (by decide)]
 show ybk (some h0) _=_
 rw [yb,ZyJ p0 (by omega),yb,if_neg (by decide)]
 show ybk (some h1) _=_
 rw [yb,ZyJ p1 (by omega),yb,if_neg (by decide),ZyJ r0 (by omega),yb,if_neg (by decide),if_neg (by rw [decide_eq_true_iff];omega)]
 rw [show ((0:Int),c,(no,[h0,h1],l,r))=(fun k:Nat=>((k:Int),c,(no,[h0,h1],l,r))) 0 from rfl,Z2 (x:=.inr (c,(no,[h0,h1],l,r))) l.length (fun k:Nat=>((k:Int),c,(no,[h0,h1],l,r))) ?_ ?_ (by omega),yb]
 ·dsimp only
  rw [show ((0:Int),c,(no,[h0,h1],l,r))=(fun k:Nat=>((k:Int),c,(no,[h0,h1],l,r))) 0 from rfl,Z2 (x:=.inr (c,(no,[h0,h1],l,r))) 2 (fun k:Nat=>((k:Int),c,(no,[h0,h1],l,r))) ?_ ?_ (by omega),yb]
  ·dsimp only
   rw [hto,yb,hA,if_pos (beq_self_eq_true _),hO,if_pos (Xi h.o),Zfu h.o,yb,hco,yb]
  ·intro k hk
   obtain ⟨n,m,e1,e2,e3,e4,e5⟩:=hof (k:Int) (by omega)
   have ht:∃d,c.2.2.2.1[k]? =some (Tm d):=by
    rw [hT]
    match k,hk with
    |0,_=>exact ⟨_,rfl⟩
    |1,_=>exact ⟨_,rfl⟩
   obtain ⟨d,hd⟩:=ht
   unfold XF
   dsimp only
   rw [if_pos (decide_eq_true (by omega)),e1,yb,if_pos (YF (by omega) (by omega)),yca,hd,yb,yb,ZC (by omega)]
   rw [if_neg (by rw [decide_eq_true_iff];show ¬n > 16;omega),if_pos (YF (by omega) (by omega)),if_neg (by rw [decide_eq_true_iff];show ¬m > 1125899906842624;omega)]
  ·unfold XF
   dsimp only
   rw [if_neg (by rw [decide_eq_true_iff];omega)]
 ·intro k hk
  obtain ⟨e,he,hm⟩:=Zs hk
  obtain ⟨d,hd⟩:=ZAh (hcs e hm).1
  have h4:=(hcs e hm).2.2.2.1
  have hlt:¬(e.2.2.1 < (Tm d).2.2.2.2.1):=by show ¬(e.2.2.1 < 1);omega
  unfold XE
  dsimp only
  rw [if_pos (Xj hk),ZD he,yb,ZHb (hcs e hm),yb,if_neg (by decide)]
  have tail:((some e).bind fun e169=>(some e).bind fun e170=>if (inB (wi (1 - e170.1)) 2)=true then (c.2.2.2.1[(wi (1 - e170.1)).toNat]?).bind fun e171=>if (decide (e169.2.2.1 < e171.2.2.2.2.1))=true then some (.inr (.inl (false,c,(no,[h0,h1],l,r)))) else some (.inl (wi ((k:Int)+1),c,(no,[h0,h1],l,r))) else none)=some (.inl (((k+1:Nat):Int),c,(no,[h0,h1],l,r)):(Int×ZO×State)⊕((Bool×ZO×State)⊕(ZO×State))):=by
   rw [yb,yb,if_pos (Znm (hcs e hm).1),hT,hd,yb,if_neg (by rw [decide_eq_true_iff];exact hlt),ZC (by omega)]
  by_cases h0:k=0
  ·subst h0
   rw [if_neg (by rw [decide_eq_true_iff];omega)]
   exact tail
  ·obtain ⟨f,hf,hfm⟩:=Zs (l:=l) (k:=k - 1) (by omega)
   have hah:Ahd f e:=by
    have h7:=List.pairwise_iff_getElem.1 hsr (k - 1) k (by omega) hk (by omega)
    rw [yv (by omega)] at hf he
    cases hf
    cases he
    exact h7
   rw [if_pos (decide_eq_true (by omega)),Zx (z:=(k:Int) - 1) (by omega) (by omega),show (k:Int) - 1=((k - 1:Nat):Int) by omega,ZD hf,yb,yb,ZuC,yb,decide_eq_true hah,if_neg (by decide)]
   exact tail
 ·unfold XE
  dsimp only
  rw [if_neg (by rw [Yy];decide)]
end Go.Proofs.YtjbbdlffilcaaaaGreat
end
section
set_option maxRecDepth 4000
namespace Go.Proofs.YtjbbdlffilcaaaaGreat
open Go Go.Ev
theorem ZuF {lo hi:Int} {l:List Int} (hl:l.length≤100) (h:∀x,x∈l→lo≤x∧x≤hi):Yt fuel lo hi l=some true:=by
 unfold Yt Xx XX
 rw [show (l,(l.length:Int),(0:Int),lo,hi)=(fun k:Nat=>(l,(l.length:Int),(k:Int),lo,hi)) 0 from rfl,Z2 (x:=.inr (lo,hi)) l.length (fun k:Nat=>(l,(l.length:Int),(k:Int),lo,hi)) ?_ ?_ (by omega),yb]
 ·rfl
 ·intro k hk
  obtain ⟨e,he,hm⟩:=Zs hk
  have:=h e hm
  unfold Yz Zch
  dsimp only
  rw [if_pos (Xj hk),ZD he,yb,if_neg (by rw [decide_eq_true_iff];omega),yb,decide_eq_false (by omega),if_neg (by simp),ZC (by omega)]
 ·unfold Yz
  dsimp only
  rw [if_neg (by rw [Yy];decide)]
theorem w1 {lo hi z:Int} (h1:lo≤z) (h2:z≤hi):Yt fuel lo hi [z]=some true:=ZuF (by simp) fun x hx=>by rw [yal.1 hx];exact ⟨h1,h2⟩
theorem tin {z a b:Int} (h1:a≤z) (h2:z≤b):Y3 fuel z a b=some true:=by
 unfold Y3
 rw [if_pos (decide_eq_true h1),decide_eq_true h2]
theorem ZFq {d:Int} (h1:1≤d) (h2:d≤4096):Zc3 fuel (Tm d)=some true:=by
 unfold Zc3 Tm
 dsimp only
 rw [tin (by omega) (by omega),yb,if_pos rfl,tin h1 h2,yb,if_pos rfl,tin (by omega) (by omega),yb,if_pos rfl,tin (by omega) (by omega),yb,if_pos rfl,tin (by omega) (by omega),yb,if_pos rfl,tin (by omega) (by omega)]
 rfl
theorem ZBC {k:Kit} (h:KitOk k):Zbp fuel (ZE k)=some true:=by
 unfold Zbp ZlE Zd9
 have hb:=Zl3 h
 generalize hl:([(ZE k).1,(ZE k).2.1,(ZE k).2.2.1,(ZE k).2.2.2.1,(ZE k).2.2.2.2]:List UInt64)=l at*
 have h5:l.length=5:=by rw [←hl];rfl
 rw [show (l,(l.length:Int),(0:Int))=(fun k:Nat=>(l,(l.length:Int),(k:Int))) 0 from rfl,Z2 (x:=.inr ()) l.length (fun k:Nat=>(l,(l.length:Int),(k:Int))) ?_ ?_ (by omega),yb]
 ·rfl
 ·intro k hk
  obtain ⟨e,he,hm⟩:=Zs hk
  obtain ⟨x,hx,rfl⟩:=hb e hm
  unfold Vm Zcg
  dsimp only
  rw [if_pos (Xj hk),ZD he,yb,if_neg (by rw [beq_iff_eq];exact ZFo hx),ZjK,yb,decide_eq_true (ZCO _),yb,ZC (by omega)]
  rfl
 ·unfold Vm
  dsimp only
  rw [if_neg (by rw [Yy];decide)]
theorem ZJJ {A:Int} {k0 k1:Kit} {op:Int} (h:ChOk A k0 k1 op):Zhl fuel (chan A k0 k1 op)=some 0:=by
 obtain ⟨h1,h2,h3,h4,h5⟩:=h
 have hA:(chan A k0 k1 op).2.1=A:=rfl
 have hN:(chan A k0 k1 op).1.2=0:=rfl
 have hO:(chan A k0 k1 op).2.2.2.2=op:=rfl
 have hT:(chan A k0 k1 op).2.2.2.1=[Tm 5,Tm 6]:=rfl
 have hB:(chan A k0 k1 op).2.2.1=[ZE k0,ZE k1]:=rfl
 unfold Zhl
 rw [hA,hN,hO,if_neg (by rw [decide_eq_true_iff];omega),if_neg (by rw [decide_eq_true_iff];omega),if_neg (by decide),if_neg (by decide),if_neg (by rcases h3 with rfl|rfl <;> decide)]
 generalize hc:chan A k0 k1 op=c at*
 rw [hT,show (([Tm 5,Tm 6]:List Vh),(0:Int),c)=(fun k:Nat=>(([Tm 5,Tm 6]:List Vh),(k:Int),c)) 0 from rfl,Z2 (x:=.inr c) 2 (fun k:Nat=>(([Tm 5,Tm 6]:List Vh),(k:Int),c)) ?_ ?_ (by omega),yb]
 ·dsimp only
  rw [hT]
  rw [show ([Tm 5,Tm 6]:List Vh)[0]? =some (Tm 5) from rfl,yb,show ([Tm 5,Tm 6]:List Vh)[1]? =some (Tm 6) from rfl,yb]
  show (ybk (Zgr fuel 200 200) _)=some 0
  rw [ZBB (by omega) (by omega) (by omega),yb,if_neg (by decide),hA,if_neg (by rw [decide_eq_true_iff];show ¬(200+200 > A);omega)]
 ·intro k hk
  unfold Zbq
  dsimp only
  rw [if_pos (decide_eq_true (by omega)),hB]
  match k,hk with
  |0,_=>
   rw [Ze8 (i:=((0:Nat):Int)) (y:=Tm 5) (by omega) rfl,yb,ZFq (by omega) (by omega),yb,if_neg (by decide),if_pos (by decide)]
   show (ybk (some (ZE k0)) _)=_
   rw [yb,ZBC h4,yb,if_neg (by decide)]
   rfl
  |1,_=>
   rw [Ze8 (i:=((1:Nat):Int)) (y:=Tm 6) (by omega) rfl,yb,ZFq (by omega) (by omega),yb,if_neg (by decide),if_pos (by decide)]
   show (ybk (some (ZE k1)) _)=_
   rw [yb,ZBC h5,yb,if_neg (by decide)]
   rfl
 ·unfold Zbq
  dsimp only
  rw [if_neg (by rw [decide_eq_true_iff];omega)]
theorem ZJz {c:ZB} (h:CondIn c):Zfc fuel c=some true:=by
 obtain ⟨h1,h2,h3,h4,h5,h6,h7,h8,h9⟩:=h
 unfold Zfc
 rw [w1 (by omega) (by omega),yb,if_pos rfl,w1 h2 h3,yb,if_pos rfl,w1 h4 (by omega),yb,if_pos rfl,w1 h8 (by omega),yb,if_pos rfl,ZjK,yb,if_pos (decide_eq_true h6)]
 exact congrArg some (bne_iff_ne.2 h7)
theorem Zbc (a b:Int):Yh fuel a b=some (if a < b then -1 else if a > b then 1 else 0):=by
 unfold Yh Q9
 rw [yb,yb]
 have e:∀z:Int,(z !=z)=false:=fun z=>by simp
 rw [e,e,if_neg (by decide),if_neg (by decide)]
 by_cases h1:a < b
 ·rw [if_pos (decide_eq_true h1),if_pos h1]
 ·rw [if_neg (by rw [decide_eq_true_iff];exact h1),if_neg h1]
  by_cases h2:a > b
  ·rw [if_pos (decide_eq_true h2),if_pos h2]
  ·rw [if_neg (by rw [decide_eq_true_iff];exact h2),if_neg h2]
def orL:List Int→Int
 |[]=>0
 |z::r=>if z≠0 then z else orL r
theorem ZHc {l:List Int} (hl:l.length≤100):Zb2 fuel l=some (orL l):=by
 have key:∀(d k f:Nat),k+d=l.length→d < f→∃x,Zc (WB fuel) f ((0:Int),l,(l.length:Int),(k:Int))=some x∧(x=.inl (orL (l.drop k))∨x=.inr 0∧orL (l.drop k)=0):=by
  intro d
  induction d with
  |zero=>
   intro k f h hf
   obtain ⟨f,rfl⟩:=Nat.exists_eq_succ_of_ne_zero (n:=f) (by omega)
   have:k=l.length:=by omega
   subst this
   unfold Zc WB
   dsimp only
   rw [if_neg (by rw [Yy];decide),yb]
   exact ⟨_,rfl,.inr ⟨rfl,by rw [List.drop_length];rfl⟩⟩
  |succ d ih=>
   intro k f h hf
   obtain ⟨f,rfl⟩:=Nat.exists_eq_succ_of_ne_zero (n:=f) (by omega)
   have hk:k < l.length:=by omega
   obtain ⟨e,he,hm⟩:=Zs hk
   have hd:l.drop k=e::l.drop (k+1):=by
    rw [List.drop_eq_getElem_cons hk]
    rw [yv hk] at he
    cases he
    rfl
   rw [hd]
   unfold Zc WB
   dsimp only
   rw [if_pos (Xj hk),ZD he,yb]
   by_cases h0:e=0
   ·subst h0
    rw [if_neg (by decide),yb,ZC (by omega)]
    exact ih (k+1) f (by omega) (by omega)
   ·rw [if_pos (bne_iff_ne.2 h0),yb]
    exact ⟨_,rfl,.inl (by unfold orL;rw [if_pos h0])⟩
 unfold Zb2
 obtain ⟨x,h1,h2⟩:=key l.length 0 fuel (by omega) (by rw [Zc0];omega)
 rw [List.drop_zero] at h2
 show ybk (Zc (WB fuel) fuel ((0:Int),l,(l.length:Int),((0:Nat):Int))) _=_
 rw [h1,yb]
 rcases h2 with rfl|⟨rfl,h2⟩
 ·rfl
 ·rw [h2]
theorem ZIE {a b:ZB} (h:Ahd a b):∃z,Zc6 fuel a b=some z∧z < 0:=by
 unfold Zc6
 rw [Zbc,yb,Zbc,yb,ZHc (by simp),yb]
 refine ⟨_,rfl, ?_⟩
 unfold Ahd at h
 have e2:∀x y:Int,orL [x,y]=if x≠0 then x else if y≠0 then y else 0:=fun _ _=>rfl
 rw [e2]
 by_cases h1:a.1 < b.1
 ·rw [if_pos h1,if_pos (by decide)]
  decide
 ·have e:a.1=b.1:=by omega
  rw [if_neg h1,if_neg (show ¬a.1 > b.1 by omega),if_neg (by decide),if_pos (show a.2.1 < b.2.1 by omega)]
  decide
theorem ZIF {r:Int} {n:Nat} (h0:0≤r) (h1:r≤7) (h2:n≤16):Za1 fuel r (n:Int)=some (r*(68+8*(n:Int))):=by
 have:=ZwG (m:=68+8*(n:Int)) h0 h1 (by omega)
 unfold Za1
 rw [if_neg (by rw [decide_eq_true_iff];omega),if_neg (by rw [decide_eq_true_iff];omega)]
 unfold ZfI
 rw [if_neg (by rw [decide_eq_true_iff];omega),if_neg (by rw [decide_eq_true_iff];omega),yb,Zx (z:=8*(n:Int)) (by omega) (by omega),Zx (z:=68+8*(n:Int)) (by omega) (by omega),Zx (by omega) (by omega)]
theorem ZJA {A:Int} {s:State} {h0 h1:Int} (h:StIn A s h0 h1) (ch:ZO):Zfe fuel ch s=some (cost s.2.2.2 s.2.2.1.length):=by
 have:=ZhA h.r0 h.r1 h.len
 unfold Zfe
 unfold cost at*
 rw [ZIF h.r0 h.r1 h.len,yb,Zx (by omega) (by omega)]
theorem ZIG {A:Int} {s:State} {h0 h1:Int} (h:StIn A s h0 h1) (hA:A≤4300000000):Zc7 fuel s=some A:=by
 obtain ⟨no,hv,l,r⟩:=s
 obtain ⟨_,_,hh,p0,p1,_,_,hl,hc,_,ht⟩:=h
 dsimp only at hh hl hc ht
 subst hh
 unfold Zc7
 show ybk (some h0) _=_
 rw [yb]
 show ybk (some h1) _=_
 have hb:=fun k=>ZsG hc k
 have hb':=Zhz hc
 dsimp only
 rw [yb,Zx (z:=h0+h1) (by omega) (by omega),show (h0+h1,l,(l.length:Int),(0:Int),(no,[h0,h1],l,r))=(fun k:Nat=>(h0+h1+amtC (l.take k),l,(l.length:Int),(k:Int),(no,[h0,h1],l,r))) 0 by simp [amtC],
  Z2 (x:=(A,(no,[h0,h1],l,r))) l.length (fun k:Nat=>(h0+h1+amtC (l.take k),l,(l.length:Int),(k:Int),(no,[h0,h1],l,r))) ?_ ?_ (by omega),yb]
 ·intro k hk
  obtain ⟨e,he,hm⟩:=Zs hk
  have h1:=hb k
  have h2:=hb (k+1)
  have h3:=ZuD he
  unfold Qg
  dsimp only
  rw [if_pos (Xj hk),ZD he,yb,Zx (by omega) (by omega),ZC (by omega),h3,Int.add_assoc]
 ·unfold Qg
  dsimp only
  rw [if_neg (by rw [Yy];decide),ybb,ht]
theorem ZJK {A:Int} {s:State} {h0 h1:Int} (h:StIn A s h0 h1) {to:Int} (ht:to=0∨to=1):∃n m,Zab fuel s to=some (n,m)∧0≤n∧n≤16∧0≤m∧m≤2000000:=by
 obtain ⟨no,hv,l,r⟩:=s
 have hl:=h.len
 have hc:=h.cs
 dsimp only at hl hc
 unfold Zab
 dsimp only
 obtain ⟨x,g1,n,m,rfl,g2⟩:=Yx (step:=Wg fuel) l.length (fun k q=>∃n m,q=(to,n,m,l,(l.length:Int),(k:Int),(no,hv,l,r))∧0≤n∧n≤(k:Int)∧0≤m∧m≤65536*(k:Int)) (fun x=>∃n m,x=(n,m,(no,hv,l,r))∧0≤n∧n≤16∧0≤m∧m≤2000000) (i:=(to,(0:Int),(0:Int),l,(l.length:Int),(0:Int),(no,hv,l,r))) ⟨0,0,rfl,by omega⟩ (by omega) (by
  rintro k _ hk ⟨n,m,rfl,q⟩
  left
  obtain ⟨e,he,hm⟩:=Zs hk
  have h4:=(hc e hm).2.2.2.1
  have h5:=(hc e hm).2.2.2.2.1
  unfold Wg
  dsimp only
  rw [if_pos (Xj hk),ZD he,yb,ZC (by omega)]
  split
  ·rw [Zx (z:=n+1) (by omega) (by omega),Zx (z:=m+e.2.2.1) (by omega) (by omega)]
   exact ⟨_,rfl,_,_,rfl,by omega⟩
  ·exact ⟨_,rfl,_,_,rfl,by omega⟩) (by
  rintro _ ⟨n,m,rfl,q⟩
  unfold Wg
  dsimp only
  rw [if_neg (by rw [Yy];decide)]
  exact ⟨_,rfl,_,_,rfl,by omega⟩)
 rw [g1,yb]
 exact ⟨_,_,rfl,g2⟩
theorem ZFr {A:Int} {k0 k1:Kit} {op:Int} (h:ChOk A k0 k1 op) {s:State} {h0 h1:Int} (hs:StIn A s h0 h1):Wh fuel (chan A k0 k1 op) s=some (decide (hav op h0 h1 ≥ cost s.2.2.2 s.2.2.1.length)):=by
 have hT:(chan A k0 k1 op).2.2.2.1=[Tm 5,Tm 6]:=rfl
 have hA:(chan A k0 k1 op).2.1=A:=rfl
 have hO:(chan A k0 k1 op).2.2.2.2=op:=rfl
 have hlo:=h.lo
 have hhi:=h.hi
 have hco:=ZJA hs (chan A k0 k1 op)
 have hto:=ZIG hs h.hi
 have hof:=fun to ht=>ZJK hs (to:=to) ht
 have hb:=Zhz hs.cs
 unfold Wh
 rw [ZJJ h,yb,if_neg (by decide)]
 generalize hc:chan A k0 k1 op=c at*
 obtain ⟨no,hv,l,r⟩:=s
 obtain ⟨n0,n1,hh,p0,p1,r0,r1,hl,hcs,hsr,ht⟩:=hs
 dsimp only at n0 n1 hh p0 p1 r0 r1 hl hcs hsr ht hb
 subst hh
 dsimp only
 rw [w1 n0 (by omega),yb,if_neg (by decide)]
 show ybk (some h0) _=_
 rw [yb]
 show ybk (some h1) _=_
 rw [yb,ZuF (l:=[h0,h1]) (by simp) (by
  intro x hx
  simp only [ybf,ycg,or_false] at hx
  rcases hx with rfl|rfl <;> omega),yb,if_neg (by decide),w1 r0 (by omega),yb,if_neg (by decide),if_neg (by rw [decide_eq_true_iff];omega)]
 rw [show (l,(l.length:Int),(0:Int),c,(no,[h0,h1],l,r))=(fun k:Nat=>(l,(l.length:Int),(k:Int),c,(no,[h0,h1],l,r))) 0 from rfl,Z2 (x:=.inr (c,(no,[h0,h1],l,r))) l.length (fun k:Nat=>(l,(l.length:Int),(k:Int),c,(no,[h0,h1],l,r))) ?_ ?_ (by omega),yb]
 ·dsimp only
  rw [show (c.2.2.2.1,(0:Int),c,(no,[h0,h1],l,r))=(fun k:Nat=>(c.2.2.2.1,(k:Int),c,(no,[h0,h1],l,r))) 0 from rfl,Z2 (x:=.inr (c,(no,[h0,h1],l,r))) 2 (fun k:Nat=>(c.2.2.2.1,(k:Int),c,(no,[h0,h1],l,r))) ?_ ?_ (by omega),yb]
  ·dsimp only
   rw [hto,yb,hA,if_pos (beq_self_eq_true _),hO,if_pos (Xi h.o),Zfu h.o,yb,hco,yb]
  ·intro k hk
   obtain ⟨n,m,e1,e2,e3,e4,e5⟩:=hof (k:Int) (by omega)
   have ht:∃d,c.2.2.2.1[k]? =some (Tm d):=by
    rw [hT]
    match k,hk with
    |0,_=>exact ⟨_,rfl⟩
    |1,_=>exact ⟨_,rfl⟩
   obtain ⟨d,hd⟩:=ht
   unfold Qi
   dsimp only
   rw [if_pos (decide_eq_true (by omega)),ZD hd,yb,e1,yb,ZC (by omega)]
   rw [if_neg (by rw [decide_eq_true_iff];show ¬n > 16;omega),if_neg (by rw [decide_eq_true_iff];show ¬m > 1125899906842624;omega)]
  ·unfold Qi
   dsimp only
   rw [if_neg (by rw [decide_eq_true_iff];omega)]
 ·intro k hk
  obtain ⟨e,he,hm⟩:=Zs hk
  obtain ⟨d,hd⟩:=ZAh (hcs e hm).1
  have h4:=(hcs e hm).2.2.2.1
  have hlt:¬(e.2.2.1 < (Tm d).2.2.2.2.1):=by show ¬(e.2.2.1 < 1);omega
  unfold Qh
  dsimp only
  rw [if_pos (Xj hk),ZD he,yb,ZJz (hcs e hm),yb,if_neg (by decide),if_pos (Znm (hcs e hm).1),hT,hd,yb,if_neg (by rw [decide_eq_true_iff];exact hlt),ZC (by omega)]
  by_cases h0:k=0
  ·subst h0
   rw [if_neg (by rw [decide_eq_true_iff];omega)]
  ·obtain ⟨f,hf,hfm⟩:=Zs (l:=l) (k:=k - 1) (by omega)
   have hah:Ahd f e:=by
    have h7:=List.pairwise_iff_getElem.1 hsr (k - 1) k (by omega) hk (by omega)
    rw [yv (by omega)] at hf he
    cases hf
    cases he
    exact h7
   obtain ⟨z,hz,hz0⟩:=ZIE hah
   rw [if_pos (decide_eq_true (by omega)),Zx (z:=(k:Int) - 1) (by omega) (by omega),show (k:Int) - 1=((k - 1:Nat):Int) by omega,ZD hf,yb,hz,yb,if_neg (by rw [decide_eq_true_iff];omega)]
 ·unfold Qh
  dsimp only
  rw [if_neg (by rw [Yy];decide)]
end Go.Proofs.YtjbbdlffilcaaaaGreat
end
section
set_option maxRecDepth 4000
namespace Go.Proofs.YtjbbdlffilcaaaaGreat
open Go Go.Ev
theorem ZfU {α:Type} {c:Prop} [Decidable c] {a b:Option α} {P:α→Prop} (h1:c→∃x,a=some x∧P x) (h2:¬c→∃x,b=some x∧P x):∃x,(if c then a else b)=some x∧P x:=by
 by_cases h:c
 ·rw [if_pos h];exact h1 h
 ·rw [if_neg h];exact h2 h
def ins (c:ZB):List ZB→List ZB
 |[]=>[c]
 |e::r=>if Ahd c e then c::e::r else e::ins c r
theorem Zp0 {c x:ZB}:∀{l:List ZB},x∈ins c l↔x=c∨x∈l
 |[]=>by simp [ins]
 |e::r=>by
  rw [ins]
  split
  ·simp
  ·rw [ybf,Zp0 (l:=r),ybf]
   constructor
   ·rintro (h|h|h) <;> simp [h]
   ·rintro (h|h|h) <;> simp [h]
theorem Zp1 {c:ZB}:∀{l:List ZB},(ins c l).length=l.length+1
 |[]=>rfl
 |e::r=>by
  rw [ins]
  split
  ·rfl
  ·rw [yz,Zp1 (l:=r),yz]
theorem Zkf (c:ZB) (l:List ZB):amtC (c::l)=c.2.2.1+amtC l:=rfl
theorem ZBD {c:ZB}:∀{l:List ZB},amtC (ins c l)=c.2.2.1+amtC l
 |[]=>rfl
 |e::r=>by
  rw [ins]
  split
  ·rfl
  ·rw [Zkf,ZBD (l:=r),Zkf]
   omega
theorem ZBE {c:ZB}:∀{l:List ZB},l.Pairwise Ahd→(∀e,e∈l→c.2.1≠e.2.1)→(ins c l).Pairwise Ahd
 |[],_,_=>by simp [ins]
 |e::r,h,hd=>by
  obtain ⟨h1,h2⟩:=List.pairwise_cons.1 h
  rw [ins]
  split
  ·rename_i ha
   refine List.pairwise_cons.2 ⟨?_,h⟩
   intro x hx
   rcases ybf.1 hx with rfl|hx
   ·exact ha
   ·exact ZCW ha (h1 x hx)
  ·rename_i ha
   refine List.pairwise_cons.2 ⟨?_,ZBE h2 fun x hx=>hd x (yaq _ hx)⟩
   intro x hx
   rcases Zp0.1 hx with rfl|hx
   ·exact ZIC (hd e (yam ..)) ha
   ·exact h1 x hx
theorem ZJB {s:State} {h0 h1:Int} (hv:s.2.1=[h0,h1]) (hl:s.2.2.1.length≤16) {c:ZB} (hc:CondIn c):WX fuel s c=some (s.1,([h0,h1]:List Int).set c.1.toNat (wi (hav c.1 h0 h1 - c.2.2.1)),ins c s.2.2.1,s.2.2.2):=by
 obtain ⟨no,hh,l,r⟩:=s
 dsimp only at hv hl
 subst hv
 unfold WX
 dsimp only
 obtain ⟨x,g1,d,o,rfl,g2,g3,g4⟩:=Yx (step:=Xg fuel) l.length (fun k q=>∃d o,q=(d,(k:Int),(no,[h0,h1],l,r),c,((0:Int),([0,0]:List Int),([]:List ZB),(0:Int)),no,[h0,h1],r,o)∧o.length≤2*k∧(d=true→ins c l=o++l.drop k)∧(d=false→ins c l=o++ins c (l.drop k)))
  (fun x=>∃d o,x=(d,(no,[h0,h1],l,r),c,((0:Int),([0,0]:List Int),([]:List ZB),(0:Int)),no,[h0,h1],r,o)∧o.length≤40∧(d=true→ins c l=o)∧(d=false→ins c l=o++[c]))
  (i:=(false,(0:Int),(no,[h0,h1],l,r),c,((0:Int),([0,0]:List Int),([]:List ZB),(0:Int)),no,[h0,h1],r,([]:List ZB))) ⟨_,_,rfl,by simp,(fun h=>by cases h),fun _=>rfl⟩ (by omega) (by
  rintro k _ hk ⟨d,o,rfl,q1,q2,q3⟩
  left
  obtain ⟨e,he,hm⟩:=Zs hk
  have hd:l.drop k=e::l.drop (k+1):=by
   rw [List.drop_eq_getElem_cons hk]
   rw [yv hk] at he
   cases he
   rfl
  rw [hd] at q2 q3
  unfold Xg
  dsimp only
  rw [if_pos (Xj hk),ZD he,yb,ZC (by omega),ZuC]
  cases d with
  |false=>
   rw [if_pos (by decide),yb]
   have q3:=q3 rfl
   rw [ins] at q3
   by_cases ha:Ahd c e
   ·rw [if_pos (decide_eq_true ha),if_pos (Yg (by omega) (by omega)),yb,if_pos (Yg (by simp;omega) (by simp;omega))]
    rw [if_pos ha] at q3
    exact ⟨_,rfl,_,_,rfl,by simp;omega,(fun _=>by rw [q3];simp),fun h=>by cases h⟩
   ·rw [if_neg (by rw [decide_eq_true_iff];exact ha),yb,if_pos (Yg (by omega) (by omega))]
    rw [if_neg ha] at q3
    exact ⟨_,rfl,_,_,rfl,by simp;omega,fun h=>(by cases h),fun _=>by rw [q3];simp⟩
  |true=>
   have q2:=q2 rfl
   rw [if_neg (by decide),yb,if_pos (Yg (by omega) (by omega))]
   exact ⟨_,rfl,_,_,rfl,by simp;omega,(fun _=>by rw [q2];simp),fun h=>by cases h⟩) (by
  rintro _ ⟨d,o,rfl,q1,q2,q3⟩
  rw [List.drop_length] at q2 q3
  unfold Xg
  dsimp only
  rw [if_neg (by rw [Yy];decide)]
  exact ⟨_,rfl,_,_,rfl,by omega,(fun h=>by rw [q2 h,List.append_nil]),fun h=>by rw [q3 h];rfl⟩)
 rw [g1,yb]
 dsimp only
 cases d with
 |true=>
  rw [if_neg (by decide),if_pos (Xi hc.1),Zfu hc.1,yb,if_pos (Xi hc.1),yb,g3 rfl]
 |false=>
  rw [if_pos (by decide),if_pos (Yg (by omega) (by omega)),if_pos (Xi hc.1),Zfu hc.1,yb,if_pos (Xi hc.1),yb,g4 rfl]
theorem ZIH {s:State} (hl:s.2.2.1.length≤16) (f i:Int):∃z,Ww fuel s f i=some z:=by
 obtain ⟨no,hh,l,r⟩:=s
 dsimp only at hl
 unfold Ww
 obtain ⟨x,g1,_⟩:=Yx (step:=Y2 fuel) l.length (fun k q=>q=(f,i,(k:Int),(no,hh,l,r))) (fun _=>True) (i:=(f,i,(0:Int),(no,hh,l,r))) rfl (by omega) (by
  rintro k _ hk rfl
  obtain ⟨e,he,hm⟩:=Zs hk
  unfold Y2
  dsimp only
  rw [if_pos (Xj hk),ZD he,yb,yb,ZC (by omega)]
  split
  ·split
   ·right;exact ⟨_,rfl,trivial⟩
   ·left;exact ⟨_,rfl,rfl⟩
  ·left;exact ⟨_,rfl,rfl⟩) (by
  rintro _ rfl
  unfold Y2
  dsimp only
  rw [if_neg (by rw [Yy];decide)]
  exact ⟨_,rfl,trivial⟩)
 rw [g1,yb]
 cases x <;> exact ⟨_,rfl⟩
structure StOk (A op:Int) (s:State):Prop where
 ex:∃h0 h1,StIn A s h0 h1∧hav op h0 h1 ≥ cost s.2.2.2 s.2.2.1.length
theorem ZJL {A:Int} {k0 k1:Kit} {op:Int} (h:ChOk A k0 k1 op) {s:State} (hs:StOk A op s) {c:ZB} (hc:CondIn c) (hd:∀e,e∈s.2.2.1→c.2.1≠e.2.1):
 ∃x,Vl fuel (chan A k0 k1 op) s c=some x∧(x.2=0→StOk A op x.1∧x.1.2.2.1=ins c s.2.2.1∧x.1.1=s.1):=by
 obtain ⟨h0,h1,hs,ho⟩:=hs
 have hT:(chan A k0 k1 op).2.2.2.1=[Tm 5,Tm 6]:=rfl
 have hO:(chan A k0 k1 op).2.2.2.2=op:=rfl
 obtain ⟨d,hd1⟩:=ZAh hc.1
 obtain ⟨z,hz⟩:=ZIH hs.len c.1 c.2.1
 obtain ⟨n,m,e1,e2,e3,e4,e5⟩:=ZJy hs (to:=wi (1 - c.1)) (by rcases hc.1 with h|h <;> rw [h] <;> decide)
 have hlo:=h.lo
 have hhi:=h.hi
 have c4:=hc.2.2.2.1
 have c5:=hc.2.2.2.2.1
 have hb:=Zhz hs.cs
 have hht:=hs.tot
 have p0:=hs.p0
 have p1:=hs.p1
 have hl:=hs.len
 unfold Vl
 rw [ZuE h hs,yb,ZHb hc,yb,decide_eq_true ho,if_neg (by decide),if_neg (by decide),hz,yb]
 refine ZfU (fun _=>⟨_,rfl,fun h=>absurd h (by decide)⟩) fun _=> ?_
 rw [if_pos (Znm hc.1),hT,hd1,yb,e1,yb]
 refine ZfU (fun _=>⟨_,rfl,fun h=>absurd h (by decide)⟩) fun _=> ?_
 refine ZfU (fun _=>⟨_,rfl,fun h=>absurd h (by decide)⟩) fun h16=> ?_
 have h16:s.2.2.1.length≤15:=by
  rw [beq_iff_eq] at h16
  omega
 refine ZfU (fun _=>⟨_,rfl,fun h=>absurd h (by decide)⟩) fun _=> ?_
 dsimp only
 refine ZfU (fun _=>⟨_,rfl,fun h=>absurd h (by decide)⟩) fun _=> ?_
 have hav0:∀i:Int,0≤hav i h0 h1∧hav i h0 h1≤A:=by
  intro i
  unfold hav
  split <;> omega
 have hwi:wi (hav c.1 h0 h1 - c.2.2.1)=hav c.1 h0 h1 - c.2.2.1:=Zx (by have:=hav0 c.1;omega) (by have:=hav0 c.1;omega)
 rw [ZJB hs.hv hs.len hc,yb,hwi]
 obtain ⟨g0,g1,hg,hg2⟩:∃g0 g1:Int,([h0,h1]:List Int).set c.1.toNat (hav c.1 h0 h1 - c.2.2.1)=[g0,g1]∧(g0+g1=h0+h1 - c.2.2.1∧(hav c.1 g0 g1=hav c.1 h0 h1 - c.2.2.1)∧(c.1=0→g1=h1)∧(c.1=1→g0=h0)):=by
  rcases hc.1 with h|h
  ·rw [h]
   exact ⟨_,_,rfl,by unfold hav;simp;omega⟩
  ·rw [h]
   exact ⟨_,_,rfl,by unfold hav;simp;omega⟩
 rw [hg]
 have hcost:YG fuel (chan A k0 k1 op) (s.1,[g0,g1],ins c s.2.2.1,s.2.2.2)=some (cost s.2.2.2 (ins c s.2.2.1).length):=by
  have:=ZhA (n:=(ins c s.2.2.1).length) hs.r0 hs.r1 (by rw [Zp1];omega)
  unfold YG
  unfold cost at*
  dsimp only
  rw [ZJw hs.r0 hs.r1 (by show (ins c s.2.2.1).length≤16;rw [Zp1];omega),yb,Zx (by omega) (by omega)]
 rw [hcost,yb,if_pos (Xi hc.1),Zfu hc.1,yb]
 refine ZfU (fun _=>⟨_,rfl,fun h=>absurd h (by decide)⟩) fun hneg=> ?_
 rw [hO,if_pos (Xi h.o),Zfu h.o,yb]
 refine ZfU (fun _=>⟨_,rfl,fun h=>absurd h (by decide)⟩) fun hcst=> ?_
 rw [decide_eq_true_iff] at hneg hcst
 have fin:StOk A op (s.1,[g0,g1],ins c s.2.2.1,s.2.2.2):=by
  refine ⟨g0,g1,⟨hs.n0,hs.n1,rfl, ?_, ?_,hs.r0,hs.r1,by show (ins c s.2.2.1).length≤16;rw [Zp1];omega, ?_,ZBE hs.srt hd, ?_⟩,by show hav op g0 g1 ≥ cost s.2.2.2 (ins c s.2.2.1).length;omega⟩
  ·rcases hc.1 with h|h
   ·rw [h] at hneg
    unfold hav at hneg
    simp at hneg
    omega
   ·have:=hg2.2.2.2 h
    omega
  ·rcases hc.1 with h|h
   ·have:=hg2.2.2.1 h
    omega
   ·rw [h] at hneg
    unfold hav at hneg
    simp at hneg
    omega
  ·intro x hx
   rcases Zp0.1 hx with rfl|hx
   ·exact hc
   ·exact hs.cs x hx
  ·show g0+g1+amtC (ins c s.2.2.1)=A
   rw [ZBD]
   omega
 rw [if_pos (Xi hc.1),yb]
 exact ZfU (fun _=>ZfU (fun _=>⟨_,rfl,fun h=>absurd h (by decide)⟩) fun _=>⟨_,rfl,fun _=>⟨fin,rfl,rfl⟩⟩) fun _=>ZfU (fun _=>⟨_,rfl,fun h=>absurd h (by decide)⟩) fun _=>⟨_,rfl,fun _=>⟨fin,rfl,rfl⟩⟩
theorem ZCX (n:UInt64):∃o,WP fuel n=some o∧o.length=8:=by
 unfold WP
 obtain ⟨x,h1,h2⟩:=Yx (step:=Xc fuel) 8 (fun k s=>∃c,s=(n,56 - 8*(k:Int),c)∧c.length=k) (fun x=>x.length=8) (i:=(n,(56:Int),([]:List UInt8))) ⟨_,rfl,rfl⟩ (by omega) (by
  rintro k _ hk ⟨c,rfl,hc⟩
  left
  unfold Xc
  dsimp only
  rw [if_pos (decide_eq_true (by omega)),if_pos (decide_eq_true (by omega)),if_pos (Yg (by omega) (by omega)),Zx (z:=56 - 8*(k:Int) - 8) (by omega) (by omega)]
  exact ⟨_,rfl,_,by rw [show (56:Int) - 8*(k:Int) - 8=56 - 8*((k+1:Nat):Int) by omega],by simp [hc]⟩) (by
  rintro _ ⟨c,rfl,hc⟩
  unfold Xc
  dsimp only
  rw [if_neg (by rw [decide_eq_true_iff];omega)]
  exact ⟨_,rfl,hc⟩)
 rw [h1,yb]
 exact ⟨_,rfl,h2⟩
theorem ZAi (n:UInt64):∃o,XT fuel n=some o∧o.length=8:=by
 unfold XT
 obtain ⟨x,h1,h2⟩:=Yx (step:=Yq fuel) 8 (fun k s=>∃c,s=(n,56 - 8*(k:Int),c)∧c.2.length=k) (fun x=>x.2.length=8) (i:=(n,(56:Int),([]:List UInt8),([]:List UInt8))) ⟨_,rfl,rfl⟩ (by omega) (by
  rintro k _ hk ⟨c,rfl,hc⟩
  left
  unfold Yq
  dsimp only
  rw [if_pos (decide_eq_true (by omega)),if_pos (decide_eq_true (by omega)),if_pos (Yg (by omega) (by omega)),Zx (z:=56 - 8*(k:Int) - 8) (by omega) (by omega)]
  exact ⟨_,rfl,_,by rw [show (56:Int) - 8*(k:Int) - 8=56 - 8*((k+1:Nat):Int) by omega],by simp [hc]⟩) (by
  rintro _ ⟨c,rfl,hc⟩
  unfold Yq
  dsimp only
  rw [if_neg (by rw [decide_eq_true_iff];omega)]
  exact ⟨_,rfl,hc⟩)
 rw [h1,yb]
 exact ⟨_,rfl,h2⟩
end Go.Proofs.YtjbbdlffilcaaaaGreat
end
section
set_option maxRecDepth 4000
namespace Go.Proofs.YtjbbdlffilcaaaaGreat
open Go Go.Ev
theorem ZFs {s:ByteArray} {ls:List (List UInt8)} (h1:s.size≤100) (h2:ls.length≤10) (h3:∀l,l∈ls→l.length≤60000):∃o,Vg fuel s ls=some o∧o.length=32:=by
 unfold Vg
 obtain ⟨o,p1,p2⟩:=ZAi (w64 (s.size:Int))
 have hsl:s.data.toList.length=s.size:=by
  rw [Array.length_toList]
  rfl
 rw [p1,yb,if_pos (decide_eq_true (by unfold maxLen;omega)),if_pos (Yg (by rw [hsl,p2];omega) (by rw [hsl,p2];omega))]
 obtain ⟨x,g1,b,rfl,g2⟩:=Yx (step:=YL fuel) ls.length (fun k q=>∃b,q=(ls,(k:Int),z32,b)∧b.length≤200+60100*k) (fun x=>∃b,x=(z32,b)∧b.length≤700000) (i:=(ls,(0:Int),z32,o++s.data.toList)) ⟨_,rfl,by rw [yl,p2,hsl];omega⟩ (by omega) (by
  rintro k _ hk ⟨b,rfl,hb⟩
  left
  obtain ⟨e,he,hm⟩:=Zs hk
  have:=h3 e hm
  obtain ⟨q,q1,q2⟩:=ZCX (w64 (e.length:Int))
  unfold YL
  dsimp only
  rw [if_pos (Xj hk),ZD he,yb,q1,yb,if_pos (Yg (by omega) (by omega)),yb,if_pos (Yg (by rw [yl];omega) (by rw [yl];omega)),ZC (by omega)]
  exact ⟨_,rfl,_,rfl,by simp only [yl];omega⟩) (by
  rintro _ ⟨b,rfl,hb⟩
  unfold YL
  dsimp only
  rw [if_neg (by rw [Yy];decide)]
  exact ⟨_,rfl,_,rfl,by omega⟩)
 show ∃o_1,(ybk (Zc (YL fuel) fuel (ls,(0:Int),z32,o++s.data.toList)) fun o85=>(Xu fuel o85.2).bind fun o86=>some o86)=some o_1∧o_1.length=32
 rw [g1,yb,ZEQ (by show b.length≤_;omega),yb]
 exact ⟨_,rfl,Sha.ZJE _⟩
theorem ZFt {h:List UInt8} (hl:h.length=32):∃o,XU fuel [] h=some o∧o.length=32:=by
 unfold XU
 rw [if_pos (Yg (by simp) (by simp))]
 obtain ⟨x,g1,b,rfl,g2⟩:=Yx (step:=Yr fuel) 32 (fun k q=>∃b,q=((k:Int),h,b)∧b.length=k) (fun x=>∃b,x=(h,b)∧b.length=32) (i:=((0:Int),h,([]:List UInt8))) ⟨_,rfl,rfl⟩ (by omega) (by
  rintro k _ hk ⟨b,rfl,hb⟩
  left
  obtain ⟨e,he,hm⟩:=Zs (l:=h) (k:=k) (by omega)
  unfold Yr
  dsimp only
  rw [if_pos (decide_eq_true (by omega)),if_pos (YF (by omega) (by omega)),yca,he,yb,if_pos (Yg (by omega) (by omega)),ZC (by omega)]
  exact ⟨_,rfl,_,rfl,by simp [hb]⟩) (by
  rintro _ ⟨b,rfl,hb⟩
  unfold Yr
  dsimp only
  rw [if_neg (by rw [decide_eq_true_iff];omega)]
  exact ⟨_,rfl,_,rfl,hb⟩)
 rw [g1,yb]
 exact ⟨_,rfl,g2⟩
theorem ZuG {h:List UInt8} (hl:h.length=32) (n:UInt8):∃o,Z0 fuel h n=some o∧o.length=32:=by
 unfold Z0
 obtain ⟨o,h1,h2⟩:=ZFt hl
 obtain ⟨p,h3,h4⟩:=ZFs (s:=ZG5) (ls:=[o,[n]]) (by decide) (by simp) (by
  intro l hl
  simp only [ybf,ycg,or_false] at hl
  rcases hl with rfl|rfl
  ·omega
  ·simp)
 rw [h1,yb,h3,yb]
 exact ⟨_,rfl,h4⟩
theorem ZJC {h:List UInt8} (hl:h.length=32):∃k,X8 fuel h=some k∧KitOk k:=by
 unfold X8
 obtain ⟨p1,a1,b1⟩:=ZuG hl 1
 obtain ⟨p2,a2,b2⟩:=ZuG hl 2
 obtain ⟨p3,a3,b3⟩:=ZuG hl 3
 obtain ⟨p4,a4,b4⟩:=ZuG hl 4
 obtain ⟨p5,a5,b5⟩:=ZuG hl 5
 obtain ⟨p6,a6,b6⟩:=ZuG hl 6
 obtain ⟨k1,c1,d1⟩:=ZjM b1
 obtain ⟨k2,c2,d2⟩:=ZjM b2
 obtain ⟨k3,c3,d3⟩:=ZjM b3
 obtain ⟨k4,c4,d4⟩:=ZjM b4
 obtain ⟨k5,c5,d5⟩:=ZjM b5
 rw [a1,yb,c1,yb,a2,yb,c2,yb,a3,yb,c3,yb,a4,yb,c4,yb,a5,yb,c5,yb,a6,yb]
 exact ⟨_,rfl,d1,d2,d3,d4,d5⟩
theorem ZBF (k:Kit):Wc fuel k=some (ZE k):=by
 unfold Wc
 rw [ZjL,yb,ZjL,yb,ZjL,yb,ZjL,yb,ZjL,yb]
 rfl
def Sec (o:Vf):UInt64:=1+o.2.2.2 % 2305843009213688668
theorem ZGK (o:Vf):Key (Sec o):=by
 have h:(o.2.2.2 % 2305843009213688668).toNat < 2305843009213688668:=by
  rw [UInt64.toNat_mod]
  exact yav _ (by decide)
 have e:(Sec o).toNat=1+(o.2.2.2 % 2305843009213688668).toNat:=by
  unfold Sec
  rw [UInt64.toNat_add,yah]
  ·rfl
  ·show 1+_ < _
   omega
 unfold Key ord
 omega
structure PlayOk (p:Corsnedlaw21Play):Prop where
 sl:p.1.length=2
 ss:∀h,h∈p.1→h.length=32
 ol:p.2.2.2.2.2.1.length≤9223372036854775807
 os:∀o,o∈p.2.2.2.2.2.1→0≤o.2.1∧o.2.1≤65535∧0≤o.2.2.1∧o.2.2.1≤65535
 n0:0≤p.2.2.2.2.2.2.1
 n1:p.2.2.2.2.2.2.1≤65535
 per:p.2.2.2.2.2.2.2.length=32
def Offd (p:Corsnedlaw21Play) (k:Nat) (l:List ZB):Prop:=∀c,c∈l→1≤c.2.1∧c.2.1≤(k:Int)∧∃o,p.2.2.2.2.2.1[c.2.1.toNat - 1]? =some o∧c.2.2.2.1=B (Sec o).toNat
theorem ZAj (x:UInt8):(((x % 2).toNat:Nat):Int)=0∨(((x % 2).toNat:Nat):Int)=1:=by
 have:(x % 2).toNat=x.toNat % 2:=UInt8.toNat_mod ..
 omega
theorem ZyK {A:Int} {k0 k1:Kit} {op:Int} (h:ChOk A k0 k1 op) {p:Corsnedlaw21Play} (hp:PlayOk p) {s:State} (hs:StOk A op s) (he:s.2.2.1=[]) (a:ZO) (b:List Kit) (c:State) (ks:List Kit):
 ∃x,Zc (Z4 fuel) fuel ((0:Int),p,a,b,c,ks,chan A k0 k1 op,s)=some x∧∃t,x=(p,a,b,c,ks,chan A k0 k1 op,t)∧StOk A op t∧Offd p 20 t.2.2.1∧t.1=s.1:=by
 obtain ⟨p1,p2,p3,p4,p5,of,p6,p7⟩:=p
 have hol:=hp.ol
 have hos:=hp.os
 dsimp only at hol hos
 refine Yx (step:=Z4 fuel) 20 (fun k q=>∃t,q=((k:Int),(p1,p2,p3,p4,p5,of,p6,p7),a,b,c,ks,chan A k0 k1 op,t)∧StOk A op t∧Offd (p1,p2,p3,p4,p5,of,p6,p7) k t.2.2.1∧t.1=s.1) _ ⟨_,rfl,hs,by rw [he];intro c hc;simp at hc,rfl⟩ (by omega) ?_ ?_
 ·rintro k _ hk ⟨t,rfl,t1,t2,t3⟩
  have mono:∀{n m:Nat} {l:List ZB},n≤m→Offd (p1,p2,p3,p4,p5,of,p6,p7) n l→Offd (p1,p2,p3,p4,p5,of,p6,p7) m l:=fun hnm ho c hc=>by
   obtain ⟨q1,q2,q3⟩:=ho c hc
   exact ⟨q1,by omega,q3⟩
  unfold Z4
  dsimp only
  by_cases hkl:k < of.length
  ·left
   obtain ⟨o,ho,hom⟩:=Zs hkl
   obtain ⟨b1,b2,b3,b4⟩:=hos o hom
   have hc:CondIn (((o.1 % 2).toNat:Int),wi ((k:Int)+1),wi (1+wi o.2.1),B (Sec o).toNat,wi (1+wi o.2.2.1)):=by
    rw [ZC (by omega),Zx (z:=o.2.1) (by omega) (by omega),Zx (z:=1+o.2.1) (by omega) (by omega),Zx (z:=o.2.2.1) (by omega) (by omega),Zx (z:=1+o.2.2.1) (by omega) (by omega)]
    exact ⟨ZAj _,by dsimp only;omega,by dsimp only;omega,by dsimp only;omega,by dsimp only;omega,ZCO _,ZFo (ZGK o),by dsimp only;omega,by dsimp only;omega⟩
   obtain ⟨x,x1,x2⟩:=ZJL h t1 hc (by
    intro e he
    have:=(t2 e he).2.1
    rw [ZC (by omega)]
    dsimp only
    omega)
   have hsec:Vy fuel o=some (Sec o):=rfl
   rw [if_pos (Xj hkl),if_pos (decide_eq_true (by omega)),ZD ho,yb,hsec,yb,ZwE,yb,x1,yb]
   by_cases h0:x.2=0
   ·obtain ⟨y1,y2,y3⟩:=x2 h0
    rw [if_pos (by rw [h0];rfl),ZC (by omega)]
    refine ⟨_,rfl,_,rfl,y1, ?_,by rw [y3,t3]⟩
    rw [y2]
    intro c hc
    rcases Zp0.1 hc with rfl|hc
    ·rw [ZC (by omega)]
     refine ⟨by dsimp only;omega,by dsimp only;omega,o, ?_,rfl⟩
     dsimp only
     rw [show ((k+1:Nat):Int).toNat - 1=k by omega]
     exact ho
    ·exact mono (by omega) t2 c hc
   ·rw [if_neg (by rw [beq_iff_eq];exact h0),ZC (by omega)]
    exact ⟨_,rfl,_,rfl,t1,mono (by omega) t2,t3⟩
  ·right
   rw [if_neg (by rw [decide_eq_true_iff];omega)]
   exact ⟨_,rfl,_,rfl,t1,mono (by omega) t2,t3⟩
 ·rintro _ ⟨t,rfl,t1,t2,t3⟩
  unfold Z4
  dsimp only
  by_cases hkl:20 < of.length
  ·rw [if_pos (Xj hkl),if_neg (by rw [decide_eq_true_iff];omega)]
   exact ⟨_,rfl,_,rfl,t1,t2,t3⟩
  ·rw [if_neg (by rw [decide_eq_true_iff];omega)]
   exact ⟨_,rfl,_,rfl,t1,t2,t3⟩
theorem ZyL (P:Corsnedlaw21Play) (a:ZO) (b:List Kit) (c:State) (k0 k1:Kit) (A op:Int):Zc (Xh fuel) fuel ((0:Int),P,a,b,c,([k0,k1]:List Kit),((([0,0,0,0,0,0,0,0,0,0,0,0,0,0,0,0,0,0,0,0,0,0,0,0,0,0,0,0,0,0,0,0]:List UInt8),(0:Int)),A,([(0,0,0,0,0),(0,0,0,0,0)]:List WS),([(0,0,0,0,0,0),(0,0,0,0,0,0)]:List Vh),op))=some (P,a,b,c,[k0,k1],chan A k0 k1 op):=by
 refine Z2 2 (fun k:Nat=>((k:Int),P,a,b,c,([k0,k1]:List Kit),((z32,(0:Int)),A,([ZE k0,ZE k1]:List WS).take k++([(0,0,0,0,0),(0,0,0,0,0)]:List WS).drop k,([Tm 5,Tm 6]:List Vh).take k++([(0,0,0,0,0,0),(0,0,0,0,0,0)]:List Vh).drop k,op))) ?_ ?_ (by omega)
 ·intro k hk
  unfold Xh
  dsimp only
  match k,hk with
  |0,_=>
   rw [if_pos (decide_eq_true (by omega)),if_pos (YF (by omega) (by omega))]
   show ybk (some k0) _=_
   rw [yb,ZBF,yb]
   rfl
  |1,_=>
   rw [if_pos (decide_eq_true (by omega)),if_pos (YF (by omega) (by omega))]
   show ybk (some k1) _=_
   rw [yb,ZBF,yb]
   rfl
 ·unfold Xh
  dsimp only
  rw [if_neg (by rw [decide_eq_true_iff];omega)]
  rfl
theorem ZJM {p:Corsnedlaw21Play} (hp:PlayOk p):∃A k0 k1 op s,XS fuel p=some (chan A k0 k1 op,[k0,k1],s)∧ChOk A k0 k1 op∧StOk A op s∧Offd p 20 s.2.2.1:=by
 have hof:=fun {A:Int} {k0 k1:Kit} {op:Int} (h:ChOk A k0 k1 op) {s:State} (hs:StOk A op s) (he:s.2.2.1=[]) (a:ZO) (b:List Kit) (c:State) (ks:List Kit)=>ZyK h hp hs he a b c ks
 have hn0:=hp.n0
 have hn1:=hp.n1
 obtain ⟨sd,am,ow,ra,on,of,no,pr⟩:=p
 dsimp only at hn0 hn1
 obtain ⟨q0,q1,hsd⟩:∃q0 q1,sd=[q0,q1]:=by
  have:=hp.sl
  dsimp only at this
  match sd,this with
  |[a,b],_=>exact ⟨_,_,rfl⟩
 subst hsd
 have hss:=hp.ss
 obtain ⟨k0,e0,f0⟩:=ZJC (hss q0 (by simp))
 obtain ⟨k1,e1,f1⟩:=ZJC (hss q1 (by simp))
 have hop:=ZAj on
 have ham:(am.toNat:Int)≤4294967295:=by have:=am.toNat_lt;omega
 unfold XS
 show ∃A k0 k1 op s,ybk (some q0) _=_∧_
 rw [yb,e0,yb]
 show ∃A k0 k1 op s,ybk (some q1) _=_∧_
 rw [yb,e1,yb]
 dsimp only
 rw [Zx (z:=20000+(am.toNat:Int)) (by omega) (by omega)]
 generalize hA:20000+(am.toNat:Int)=A
 generalize (((on % 2).toNat:Nat):Int)=op at hop
 have hch:ChOk A k0 k1 op:=⟨by omega,by omega,hop,f0,f1⟩
 rw [ZyL,yb]
 have hcA:(chan A k0 k1 op).2.1=A:=rfl
 have hcO:(chan A k0 k1 op).2.2.2.2=op:=rfl
 dsimp only
 rw [hcA,hcO,Zx (z:=A+1) (by omega) (by omega),if_pos (bne_iff_ne.2 (by omega))]
 obtain ⟨y,hy,hy0,hyA⟩:∃y,Int.tmod (ow.toNat:Int) (A+1)=y∧0≤y∧y≤A:=by
  refine ⟨_,rfl, ?_, ?_⟩
  ·exact Int.tmod_nonneg _ (by omega)
  ·have:=Int.tmod_lt_of_pos (ow.toNat:Int) (b:=A+1) (by omega)
   omega
 rw [hy,Zx (z:=A - y) (by omega) (by omega),Zx (z:=no) (by omega) (by omega)]
 have hr8:(ra % 8).toNat < 8:=by
  rw [UInt8.toNat_mod]
  exact yav _ (by decide)
 generalize hr:(((ra % 8).toNat:Nat):Int)=r
 have hs0:StIn A (no,[y,A - y],[],r) y (A - y):=⟨hn0,hn1,rfl,hy0,by omega,by dsimp only;omega,by dsimp only;omega,by simp,fun c hc=>(by simp at hc),List.Pairwise.nil,by show y+(A - y)+0=A;omega⟩
 rw [show Y7 fuel (chan A k0 k1 op) (no,[y,A - y],[],r)=some (decide (hav op y (A - y) ≥ cost r 0)) from ZuE hch hs0,yb]
 by_cases hco:hav op y (A - y) ≥ cost r 0
 ·rw [if_neg (by rw [decide_eq_true hco];decide)]
  obtain ⟨x,x1,t,rfl,x2,x3,x4⟩:=hof hch (s:=(no,[y,A - y],[],r)) ⟨_,_,hs0,hco⟩ rfl _ _ _ _
  rw [x1,yb]
  exact ⟨A,k0,k1,op,t,rfl,hch,x2,x3⟩
 ·have hci:=ZhA (r:=r) (n:=0) (by omega) (by omega) (by omega)
  rw [if_pos (by rw [decide_eq_false hco];rfl),if_pos (Xi hop),Zfu hop,yb,if_pos (Znm hop)]
  obtain ⟨g0,g1,e1,e2,e3⟩:∃g0 g1:Int,(([y,A - y]:List Int).set op.toNat A).set ((wi (1 - op)).toNat) 0=[g0,g1]∧(g0=A∧g1=0∧op=0∨g0=0∧g1=A∧op=1)∧∃z,((([y,A - y]:List Int).set op.toNat A)[(wi (1 - op)).toNat]?)=some z:=by
   rcases hop with rfl|rfl
   ·exact ⟨_,_,rfl,.inl ⟨rfl,rfl,rfl⟩,_,rfl⟩
   ·exact ⟨_,_,rfl,.inr ⟨rfl,rfl,rfl⟩,_,rfl⟩
  obtain ⟨z,hz⟩:=e3
  rw [hz,yb,e1]
  have hs1:StIn A (no,[g0,g1],[],r) g0 g1:=⟨hn0,hn1,rfl,by omega,by omega,by dsimp only;omega,by dsimp only;omega,by simp,fun c hc=>(by simp at hc),List.Pairwise.nil,by show g0+g1+0=A;omega⟩
  have hco1:hav op g0 g1 ≥ cost r 0:=by
   unfold hav
   rcases e2 with ⟨u1,u2,u3⟩|⟨u1,u2,u3⟩
   ·rw [if_pos u3];omega
   ·rw [if_neg (by omega)];omega
  obtain ⟨x,x1,t,rfl,x2,x3,x4⟩:=hof hch (s:=(no,[g0,g1],[],r)) ⟨_,_,hs1,hco1⟩ rfl _ _ _ _
  rw [x1,yb]
  exact ⟨A,k0,k1,op,t,rfl,hch,x2,x3⟩
end Go.Proofs.YtjbbdlffilcaaaaGreat
end
section
set_option maxRecDepth 4000
namespace Go.Proofs.YtjbbdlffilcaaaaGreat
open Go Go.Ev
def amt (l:List Zf) (p:Nat):Int:=((l[p]?).map (·.1.1)).getD 0
theorem Zp2 {l:List Zf} {p:Nat} {e:Zf} (h:l[p]? =some e):amt l p=e.1.1:=by
 unfold amt
 rw [h]
 rfl
theorem ZBG {l:List Zf} {j p:Nat} {x:Zf} (h:j < l.length):amt (l.set j x) p=if p=j then x.1.1 else amt l p:=by
 unfold amt
 by_cases hp:p=j
 ·subst hp
  rw [List.getElem?_set_self h,if_pos rfl]
  rfl
 ·rw [List.getElem?_set_ne (Ne.symm hp),if_neg hp]
theorem ZGL (a b:Zf):∃z,Zaf fuel a b=some z∧(z < 0→a.1.1≤b.1.1)∧(¬z < 0→b.1.1≤a.1.1):=by
 unfold Zaf
 rw [Zbc,yb]
 unfold Zei
 rw [yb,Zbc,yb,Zbc,yb,Zbc,yb,ZHc (by simp),yb]
 refine ⟨_,rfl, ?_⟩
 have e2:∀(x:Int) (r:List Int),orL (x::r)=if x≠0 then x else orL r:=fun _ _=>rfl
 rw [e2]
 by_cases h1:a.1.1 < b.1.1
 ·rw [if_pos h1,if_pos (by decide)]
  exact ⟨fun _=>by omega,fun h=>absurd (by decide) h⟩
 ·rw [if_neg h1]
  by_cases h2:a.1.1 > b.1.1
  ·rw [if_pos h2,if_pos (by decide)]
   exact ⟨fun h=>absurd h (by decide),fun _=>by omega⟩
  ·have e:a.1.1=b.1.1:=by omega
   exact ⟨fun _=>by omega,fun _=>by omega⟩
def But (l:List Zf) (i j:Nat):Prop:=∀p q,p < q→q≤i→q≠j→amt l p≤amt l q
theorem ZBH (n:Int) (i:Nat):∀(j f:Nat) (u:List Unit) (l:List Zf),j < f→j≤i→i < l.length→l.length≤20→But l i j→
 ∃r,Zc (Ym fuel) f ((0:Int),n,(i:Int),(j:Int),u,l)=some ((0:Int),n,(i:Int),u,r)∧r.Perm l∧∀p q,p < q→q≤i→amt r p≤amt r q
 |0,f,u,l,hf,hj,hi,hl,hb=>by
  obtain ⟨f,rfl⟩:=Nat.exists_eq_succ_of_ne_zero (n:=f) (by omega)
  have e:Ym fuel ((0:Int),n,(i:Int),((0:Nat):Int),u,l)=some (.inr ((0:Int),n,(i:Int),u,l)):=by
   unfold Ym
   dsimp only
   rw [if_neg (by rw [decide_eq_true_iff];omega)]
  unfold Zc
  rw [e,yb]
  exact ⟨_,rfl,List.Perm.refl _,fun p q h1 h2=>hb p q h1 h2 (by omega)⟩
 |j+1,f,u,l,hf,hj,hi,hl,hb=>by
  obtain ⟨f,rfl⟩:=Nat.exists_eq_succ_of_ne_zero (n:=f) (by omega)
  obtain ⟨x,hx,_⟩:=Zs (l:=l) (k:=j+1) (by omega)
  obtain ⟨y,hy,_⟩:=Zs (l:=l) (k:=j) (by omega)
  obtain ⟨z,hz,z1,z2⟩:=ZGL x y
  have ax:=Zp2 hx
  have ay:=Zp2 hy
  have e1:wi (((j+1:Nat):Int) - 1)=(j:Int):=by rw [Zx (by omega) (by omega)];omega
  have hset:(l.set (j+1) y).length=l.length:=List.length_set
  obtain ⟨w,hw,_⟩:=Zs (l:=l.set (j+1) y) (k:=j) (by omega)
  have hstep:Ym fuel ((0:Int),n,(i:Int),((j+1:Nat):Int),u,l)=if z < 0 then some (.inl ((0:Int),n,(i:Int),(j:Int),u,(l.set (j+1) y).set j x)) else some (.inr ((0:Int),n,(i:Int),u,l)):=by
   unfold Ym
   dsimp only
   rw [if_pos (decide_eq_true (by omega)),e1,if_pos (YF (by omega) (by omega)),yca,yca,hx,yb,if_pos (YF (by omega) (by omega)),hy,yb,hz,yb]
   by_cases h0:z < 0
   ·rw [if_pos (decide_eq_true h0),if_pos (YF (by omega) (by omega)),yb,if_pos (YF (by omega) (by omega)),yb,if_pos (YF (by omega) (by omega)),yb,if_pos (YF (by omega) (by omega)),hw,yb,if_pos h0]
   ·rw [if_neg (by rw [decide_eq_true_iff];exact h0),if_neg h0]
  unfold Zc
  rw [hstep]
  by_cases h0:z < 0
  ·rw [if_pos h0,yb]
   have hp:((l.set (j+1) y).set j x).Perm l:=by
    have h:=@List.set_set_perm _ l (j+1) j (by omega) (by omega)
    rw [(yj.1 hx).2,(yj.1 hy).2] at h
    exact h
   have ha:∀p,amt ((l.set (j+1) y).set j x) p=if p=j then x.1.1 else if p=j+1 then y.1.1 else amt l p:=by
    intro p
    rw [ZBG (by omega),ZBG (by omega)]
   obtain ⟨r,r1,r2,r3⟩:=ZBH n i j f u ((l.set (j+1) y).set j x) (by omega) (by omega) (by simp;omega) (by simp;omega) (by
    intro p q h1 h2 h3
    rw [ha,ha,if_neg h3]
    have hz1:=z1 h0
    by_cases k1:q=j+1
    ·subst k1
     rw [if_pos rfl]
     by_cases k2:p=j
     ·rw [if_pos k2]
      exact hz1
     ·rw [if_neg k2,if_neg (by omega), ←ay]
      exact hb p j (by omega) (by omega) (by omega)
    ·rw [if_neg k1]
     by_cases k2:p=j
     ·rw [if_pos k2, ←ax]
      exact hb (j+1) q (by omega) h2 k1
     ·rw [if_neg k2]
      by_cases k3:p=j+1
      ·rw [if_pos k3, ←ay]
       exact hb j q (by omega) h2 k1
      ·rw [if_neg k3]
       exact hb p q h1 h2 k1)
   exact ⟨r,r1,r2.trans hp,r3⟩
  ·rw [if_neg h0,yb]
   refine ⟨_,rfl,List.Perm.refl _, ?_⟩
   intro p q h1 h2
   by_cases k1:q=j+1
   ·subst k1
    have h3:=z2 h0
    by_cases k2:p=j
    ·rw [k2,ax,ay]
     exact h3
    ·have:=hb p j (by omega) (by omega) (by omega)
     omega
   ·exact hb p q h1 h2 k1
theorem ZFu (u:List Unit) (l:List Zf) (hl:l.length≤20):∃r,Xk fuel (0:Int) (l.length:Int) u l=some (u,r)∧r.Perm l∧∀p q,p < q→q < l.length→amt r p≤amt r q:=by
 unfold Xk
 rw [show wi ((0:Int)+1)=1 from rfl]
 obtain ⟨x,g1,r,rfl,g2,g3⟩:=Yx (step:=Yn fuel) (l.length - 1) (fun k s=>∃r,s=((0:Int),(l.length:Int),((k+1:Nat):Int),u,r)∧r.Perm l∧∀p q,p < q→q < k+1→amt r p≤amt r q) (fun x=>∃r,x=(u,r)∧r.Perm l∧∀p q,p < q→q < l.length→amt r p≤amt r q)
  (i:=((0:Int),(l.length:Int),(1:Int),u,l)) ⟨_,rfl,List.Perm.refl _,fun p q h1 h2=>by omega⟩ (by omega) (by
  rintro k _ hk ⟨r,rfl,hp,hs⟩
  left
  have hrl:=hp.length_eq
  obtain ⟨t,t1,t2,t3⟩:=ZBH (l.length:Int) (k+1) (k+1) fuel u r (by rw [Zc0];omega) (by omega) (by omega) (by omega) (fun p q h1 h2 h3=>hs p q h1 (by omega))
  unfold Yn
  dsimp only
  rw [if_pos (decide_eq_true (by omega)),t1,yb]
  dsimp only
  rw [ZC (by omega)]
  exact ⟨_,rfl,_,rfl,t2.trans hp,fun p q h1 h2=>t3 p q h1 (by omega)⟩) (by
  rintro _ ⟨r,rfl,hp,hs⟩
  unfold Yn
  dsimp only
  rw [if_neg (by rw [decide_eq_true_iff];omega)]
  exact ⟨_,rfl,_,rfl,hp,fun p q h1 h2=>hs p q h1 (by omega)⟩)
 rw [g1,yb]
 exact ⟨_,rfl,g2,g3⟩
theorem ZCY (u:List Unit) (l:List Zf) {a b:Int} (h:b≤a) (h0:0≤a) (h1:a≤100):Xk fuel a b u l=some (u,l):=by
 unfold Xk
 rw [Zx (z:=a+1) (by omega) (by omega)]
 have e:Zc (Yn fuel) fuel (a,b,a+1,u,l)=some (u,l):=by
  refine Z2 0 (fun k:Nat=>(a,b,a+1,u,l)) (fun k hk=>by omega) ?_ (by omega)
  unfold Yn
  dsimp only
  rw [if_neg (by rw [decide_eq_true_iff];omega)]
 rw [e,yb]
theorem ZII (u:List Unit) (l:List Zf) (hl:l.length≤20):∃r,Wl fuel u l=some (u,r)∧r.Perm l∧∀p q,p < q→q < l.length→amt r p≤amt r q:=by
 obtain ⟨r,r1,r2,r3⟩:=ZFu u l hl
 have hrl:=r2.length_eq
 have fin:∀(a:Int) (b:Int),Zc (Wx fuel) fuel ((l.length:Int),(20:Int),u,r)=some (u,r):=by
  intro _ _
  refine Z2 0 (fun k:Nat=>((l.length:Int),(20:Int),u,r)) (fun k hk=>by omega) ?_ (by omega)
  unfold Wx
  dsimp only
  rw [if_neg (by rw [decide_eq_true_iff];omega)]
 unfold Wl Zba
 by_cases h20:l.length=20
 ·have e:Zc (Yo fuel) fuel ((l.length:Int),(20:Int),(0:Int),(20:Int),u,l)=some ((l.length:Int),(20:Int),(20:Int),u,r):=by
   refine Z2 1 (fun k:Nat=>if k=0 then ((l.length:Int),(20:Int),(0:Int),(20:Int),u,l) else ((l.length:Int),(20:Int),(20:Int),(40:Int),u,r)) ?_ ?_ (by omega)
   ·intro k hk
    have:k=0:=by omega
    subst this
    rw [if_pos rfl,if_neg (by omega)]
    unfold Yo
    dsimp only
    rw [h20] at r1
    rw [if_pos (decide_eq_true (by omega))]
    rw [show ((20:Nat):Int)=20 from rfl] at r1
    rw [r1,yb]
    dsimp only
    rw [if_pos (by simp [hrl])]
    rfl
   ·rw [if_neg (by omega)]
    unfold Yo
    dsimp only
    rw [if_neg (by rw [decide_eq_true_iff];omega)]
  rw [e,yb]
  dsimp only
  rw [ZCY u r (by omega) (by omega) (by omega),yb]
  dsimp only
  rw [fin 0 0,yb,yb]
  exact ⟨r,rfl,r2,r3⟩
 ·have e:Zc (Yo fuel) fuel ((l.length:Int),(20:Int),(0:Int),(20:Int),u,l)=some ((l.length:Int),(20:Int),(0:Int),u,l):=by
   refine Z2 0 (fun k:Nat=>((l.length:Int),(20:Int),(0:Int),(20:Int),u,l)) (fun k hk=>by omega) ?_ (by omega)
   unfold Yo
   dsimp only
   rw [if_neg (by rw [decide_eq_true_iff];omega)]
  rw [e,yb]
  dsimp only
  rw [r1,yb]
  dsimp only
  rw [fin 0 0,yb,yb]
  exact ⟨r,rfl,r2,r3⟩
end Go.Proofs.YtjbbdlffilcaaaaGreat
end
section
set_option maxRecDepth 4000
namespace Go.Proofs.YtjbbdlffilcaaaaGreat
open Go Go.Ev
def shw (l:List ZB):List ZB:=l.filter fun c=>decide (c.2.2.1 ≥ 100)
theorem Zon {i:Int} (h:i=0∨i=1):∃d,([Tm 5,Tm 6]:List Vh)[i.toNat]? =some (Tm d):=by
 rcases h with rfl|rfl
 ·exact ⟨5,rfl⟩
 ·exact ⟨6,rfl⟩
theorem ZyM {A:Int} {k0 k1:Kit} {op own:Int} (hown:own=0∨own=1) {s:State} (hl:s.2.2.1.length≤16):XI fuel (chan A k0 k1 op) s own=some (shw s.2.2.1):=by
 obtain ⟨no,hv,l,r⟩:=s
 dsimp only at hl
 have hT:(chan A k0 k1 op).2.2.2.1=[Tm 5,Tm 6]:=rfl
 generalize hc:chan A k0 k1 op=c at*
 obtain ⟨d,hd⟩:=Zon hown
 have hsl:∀k,(shw (l.take k)).length≤16:=fun k=>by
  have h1:(shw (l.take k)).length≤(l.take k).length:=List.length_filter_le _ _
  rw [yab] at h1
  omega
 unfold XI
 dsimp only
 rw [show (own,l,(l.length:Int),(0:Int),c,(no,hv,l,r),([]:List ZB))=(fun k:Nat=>(own,l,(l.length:Int),(k:Int),c,(no,hv,l,r),shw (l.take k))) 0 by simp [shw],
  Z2 (x:=(c,(no,hv,l,r),shw l)) l.length (fun k:Nat=>(own,l,(l.length:Int),(k:Int),c,(no,hv,l,r),shw (l.take k))) ?_ ?_ (by omega),yb]
 ·intro k hk
  obtain ⟨e,he,hm⟩:=Zs hk
  have hk1:=hsl k
  unfold V1
  dsimp only
  rw [if_pos (Xj hk),ZD he,yb,if_pos (Xi hown),hT,hd,yb,ZC (by omega)]
  unfold Yi
  rw [yb,Zbk he]
  have hf:shw (l.take k++[e])=shw (l.take k)++(if e.2.2.1 ≥ 100 then [e] else []):=by
   unfold shw
   rw [List.filter_append]
   congr 1
   by_cases h:e.2.2.1 ≥ 100
   ·rw [if_pos h]
    simp [h]
   ·rw [if_neg h]
    simp [h]
  rw [hf]
  show (if decide (e.2.2.1 ≥ 100)=true then _ else _)=_
  by_cases h:e.2.2.1 ≥ 100
  ·rw [if_pos (decide_eq_true h),if_pos (Yg (by omega) (by omega)),if_pos h]
  ·rw [if_neg (by rw [decide_eq_true_iff];exact h),if_neg h,List.append_nil]
 ·unfold V1
  dsimp only
  rw [if_neg (by rw [Yy];decide),ybb]
theorem ZhB (l:List ZB):(shw l).length≤l.length:=List.length_filter_le _ _
theorem Zp3 {l:List ZB} {c:ZB}:c∈shw l↔c∈l∧c.2.2.1 ≥ 100:=by
 unfold shw
 rw [List.mem_filter,decide_eq_true_iff]
def rst (op of h0 h1 r:Int) (n:Nat):Int:=if of=op then hav of h0 h1 - cost r n else hav of h0 h1
theorem ZCZ {r:Int} {n m:Nat} (h:0≤r) (hn:n≤m):cost r n≤cost r m:=by
 unfold cost
 have:=Int.mul_le_mul_of_nonneg_left (show 68+8*(n:Int)≤68+8*(m:Int) by omega) h
 omega
theorem ZFv {A:Int} {s:State} {h0 h1:Int} (hs:StIn A s h0 h1) (i:Int):0≤hav i h0 h1∧hav i h0 h1≤A:=by
 have:=hs.p0
 have:=hs.p1
 have:=hs.tot
 have:=Zhz hs.cs
 unfold hav
 split <;> omega
theorem ZwH {A:Int} {s:State} {h0 h1 op:Int} (hs:StIn A s h0 h1) (ho:hav op h0 h1 ≥ cost s.2.2.2 s.2.2.1.length) (of:Int):0≤rst op of h0 h1 s.2.2.2 (shw s.2.2.1).length∧rst op of h0 h1 s.2.2.2 (shw s.2.2.1).length≤A:=by
 have h1:=ZFv hs of
 have h2:=ZCZ hs.r0 (ZhB s.2.2.1)
 have h3:=ZhA hs.r0 hs.r1 (ybu (ZhB _) hs.len)
 unfold rst
 split
 ·rename_i h
  rw [h] at h1 ⊢
  omega
 ·exact h1
theorem ZwI {A:Int} {k0 k1:Kit} {op own:Int} (h:ChOk A k0 k1 op) (hown:own=0∨own=1) {s:State} {h0 h1:Int} (hs:StIn A s h0 h1) {of:Int} (hof:of=0∨of=1):W0 fuel (chan A k0 k1 op) s own of=some (rst op of h0 h1 s.2.2.2 (shw s.2.2.1).length):=by
 have hO:(chan A k0 k1 op).2.2.2.2=op:=rfl
 have hl:=ybu (ZhB s.2.2.1) hs.len
 have h3:=ZhA hs.r0 hs.r1 hl
 have h4:=ZFv hs of
 have hhi:=h.hi
 unfold W0
 rw [if_pos (Xi hof),hs.hv,Zfu hof,yb,hO]
 unfold rst
 by_cases he:of=op
 ·rw [if_pos (by rw [he];exact beq_self_eq_true _),ZyM hown hs.len,yb,ZIF hs.r0 hs.r1 hl,yb,if_pos he]
  unfold cost at*
  rw [Zx (z:=s.2.2.2*(68+8*((shw s.2.2.1).length:Int))+660) (by omega) (by omega),Zx (by omega) (by omega)]
 ·rw [if_neg (by rw [beq_iff_eq];exact he),if_neg he]
def zc:ZB:=(0,0,0,0,0)
noncomputable def ZjP (O P:Kit) (w:Int) (per:UInt64):XV:=[([ZeI (B P.2.2.2.2.1.toNat) per],0,0,0),([mix (B O.2.2.1.toNat) per],0,w,0)]
noncomputable def ZsH (P:Kit):XV:=[([B P.2.1.toNat],0,0,0)]
noncomputable def ZjQ (K:Kit):XV:=[([B K.1.toNat],0,0,0),([],0,16,0)]
noncomputable def Zpc (O P:Kit) (w own:Int) (per:UInt64) (c:ZB):XV:=
 if c.1=own then [([ZeI (B P.2.2.2.2.1.toNat) per],0,0,0),([mix (B P.2.2.2.1.toNat) per],0,0,c.2.2.2.1),([mix (B O.2.2.2.1.toNat) per],c.2.2.2.2,w,0)]
 else [([ZeI (B P.2.2.2.2.1.toNat) per],0,0,0),([mix (B O.2.2.2.1.toNat) per],0,w,c.2.2.2.1),([mix (B P.2.2.2.1.toNat) per],c.2.2.2.2,0,0)]
noncomputable def ZgF (O P:Kit) (w own:Int) (per:UInt64) (c:ZB):Out×Role:=((c.2.2.1,Zpc O P w own per c),(if c.1=own then 5 else 6,c))
noncomputable def ZgG (O P:Kit) (w:Int) (per:UInt64) (a b:Int):List (Out×Role):=
 (if a ≥ 100 then [((a,ZjP O P w per),((1:Int),zc))] else [])++((if b ≥ 100 then [((b,ZsH P),((2:Int),zc))] else [])++[((330,ZjQ O),((3:Int),zc)),((330,ZjQ P),((4:Int),zc))])
noncomputable def items (O P:Kit) (w own:Int) (per:UInt64) (a b:Int) (l:List ZB):List (Out×Role):=ZgG O P w per a b++l.map (ZgF O P w own per)
def kO (k0 k1:Kit) (own:Int):Kit:=if own=0 then k0 else k1
def kP (k0 k1:Kit) (own:Int):Kit:=if own=0 then k1 else k0
def wt (own:Int):Int:=if own=0 then 6 else 5
theorem ZHd (own:Int):5≤wt own∧wt own≤6:=by
 unfold wt
 split <;> omega
theorem Znn {l:XV} (h0:0 < l.length) (h1:l.length≤4) (h:∀b,b∈l→ZIy b∧ZIz b):Zcs l∧ZeJ l:=⟨⟨h0,h1,fun b hb=>(h b hb).1⟩,fun b hb=>(h b hb).2⟩
theorem br1 {p:UInt64} (h:VX p.toNat) {a d:Int} (a0:0≤a) (a1:a≤1048576) (d0:0≤d) (d1:d≤1048576) {x:UInt64} (hx:x≠0→VX x.toNat):ZIy ([p],a,d,x)∧ZIz ([p],a,d,x):=
 ⟨⟨by simp,a0,a1,d0,d1⟩,fun q hq=>by rw [yal.1 hq];exact h,hx⟩
theorem nox:(0:UInt64)≠0→VX (0:UInt64).toNat:=fun h=>absurd rfl h
theorem ZBI (O P:Kit) {w:Int} (h0:0≤w) (h1:w≤100) (per:UInt64):Zcs (ZjP O P w per)∧ZeJ (ZjP O P w per):=by
 refine Znn (by simp [ZjP]) (by simp [ZjP]) ?_
 intro b hb
 simp only [ZjP,ybf,ycg,or_false] at hb
 rcases hb with rfl|rfl
 ·exact br1 (Zom _ _) (by omega) (by omega) (by omega) (by omega) nox
 ·exact br1 (ZsD _ _) (by omega) (by omega) h0 (by omega) nox
theorem ZAk (P:Kit):Zcs (ZsH P)∧ZeJ (ZsH P):=by
 refine Znn (by simp [ZsH]) (by simp [ZsH]) ?_
 intro b hb
 simp only [ZsH,ybf,ycg,or_false] at hb
 rw [hb]
 exact br1 (ZCO _) (by omega) (by omega) (by omega) (by omega) nox
theorem ZfV (K:Kit):Zcs (ZjQ K)∧ZeJ (ZjQ K):=by
 refine Znn (by simp [ZjQ]) (by simp [ZjQ]) ?_
 intro b hb
 simp only [ZjQ,ybf,ycg,or_false] at hb
 rcases hb with rfl|rfl
 ·exact br1 (ZCO _) (by omega) (by omega) (by omega) (by omega) nox
 ·exact ⟨⟨by simp,by decide,by decide,by decide,by decide⟩,fun p hp=>by simp at hp,nox⟩
theorem ZBJ (O P:Kit) {w own:Int} (h0:0≤w) (h1:w≤100) (per:UInt64) {c:ZB} (hc:CondIn c):Zcs (Zpc O P w own per c)∧ZeJ (Zpc O P w own per c):=by
 obtain ⟨c1,c2,c3,c4,c5,c6,c7,c8,c9⟩:=hc
 unfold Zpc
 split
 ·refine Znn (by simp) (by simp) ?_
  intro b hb
  simp only [ybf,ycg,or_false] at hb
  rcases hb with rfl|rfl|rfl
  ·exact br1 (Zom _ _) (by omega) (by omega) (by omega) (by omega) nox
  ·exact br1 (ZsD _ _) (by omega) (by omega) (by omega) (by omega) fun _=>c6
  ·exact br1 (ZsD _ _) (by omega) (by omega) h0 (by omega) nox
 ·refine Znn (by simp) (by simp) ?_
  intro b hb
  simp only [ybf,ycg,or_false] at hb
  rcases hb with rfl|rfl|rfl
  ·exact br1 (Zom _ _) (by omega) (by omega) (by omega) (by omega) nox
  ·exact br1 (ZsD _ _) (by omega) (by omega) h0 (by omega) fun _=>c6
  ·exact br1 (ZsD _ _) (by omega) (by omega) (by omega) (by omega) nox
def ZsI (x:Zf):Out×Role:=(x.1,x.2.1)
theorem Zbd {n:Int} {lk:XV} (h:Zcs lk∧ZeJ lk) (ro:Role) (u:List Unit) {acc:List Zf} (hl:acc.length≤100):∃x,ZL fuel n lk ro u acc=some (()::u,acc++[x])∧ZsI x=((n,lk),ro):=by
 obtain ⟨o,h1,h2⟩:=ZFl h.1 h.2
 unfold ZL
 rw [h1,yb,if_pos (Yg (by omega) (by omega))]
 exact ⟨_,rfl,rfl⟩
theorem ZGM {O P:Kit} {w own:Int} (h0:0≤w) (h1:w≤100) {per:UInt64} {l:List ZB} (hl:l.length≤16) (hc:∀c,c∈l→CondIn c) (ch:ZO) (s:State) (hn0:0≤s.1) (hn1:s.1≤65535) (ho:own=0∨own=1) {acc:List Zf} {b0:List (Out×Role)} (ha:acc.map ZsI=b0) (hb:acc.length≤4) (u:List Unit):
 ∃m:List (Out×Role),((Zc (YA fuel) fuel (own,w,ZeI (B P.2.2.2.2.1.toNat) per,mix (B O.2.2.2.1.toNat) per,mix (B P.2.2.2.1.toNat) per,l,(l.length:Int),(0:Int),ch,s,((([]:List In),([]:List Out),(0:Int)),([]:List Role)),u,acc)).bind fun o723=>
  (Wl fuel o723.2.2.2.2.1 o723.2.2.2.2.2).bind fun o724=>
  if (decide (o723.2.2.2.2.1.length=o724.1.length)&&(decide (40=40)&&decide ((List.replicate o723.2.2.2.2.2.length ()).length=o724.2.length)))=true then
   (Zc (Y9 fuel) fuel ((o724.2.length:Int),(0:Int),o723.2.1,o723.2.2.1,o723.2.2.2.1,o724.1,o724.2,([(o723.2.1.1,(0,[],0))]:List In),wi ((wi (2*o723.2.2.1.1))+o723.1),([]:List Role),([]:List Out))).bind fun o725=>
   some (((o725.2.2.2.2.2.1,o725.2.2.2.2.2.2.2.2,o725.2.2.2.2.2.2.1),o725.2.2.2.2.2.2.2.1),(0:Int))
  else
  none)=some (((([(ch.1,(0,[],0))]:List In),m.map (·.1),2*s.1+own),m.map (·.2)),0)∧m.Perm (b0++l.map (ZgF O P w own per))∧m.Pairwise fun x y=>x.1.1≤y.1.1:=by
 obtain ⟨x,g1,u1,a1,rfl,g2⟩:=Yx (step:=YA fuel) l.length (fun k q=>∃u1 a1,q=(own,w,ZeI (B P.2.2.2.2.1.toNat) per,mix (B O.2.2.2.1.toNat) per,mix (B P.2.2.2.1.toNat) per,l,(l.length:Int),(k:Int),ch,s,((([]:List In),([]:List Out),(0:Int)),([]:List Role)),u1,a1)∧a1.map ZsI=b0++(l.take k).map (ZgF O P w own per))
  (fun x=>∃u1 a1,x=(own,ch,s,((([]:List In),([]:List Out),(0:Int)),([]:List Role)),u1,a1)∧a1.map ZsI=b0++l.map (ZgF O P w own per)) (i:=(own,w,ZeI (B P.2.2.2.2.1.toNat) per,mix (B O.2.2.2.1.toNat) per,mix (B P.2.2.2.1.toNat) per,l,(l.length:Int),(0:Int),ch,s,((([]:List In),([]:List Out),(0:Int)),([]:List Role)),u,acc)) ⟨_,_,rfl,by simp [ha]⟩ (by omega) (by
  rintro k _ hk ⟨u1,a1,rfl,q⟩
  left
  obtain ⟨e,he,hm⟩:=Zs hk
  have hal:a1.length≤100:=by
   have h5:=congrArg ybp q
   have h6:=congrArg ybp ha
   simp only [yr,yl,yab] at h5 h6
   omega
  have hlk:=ZBJ O P (own:=own) h0 h1 per (hc e hm)
  unfold YA
  dsimp only
  rw [if_pos (Xj hk),ZD he,yb,ZC (by omega),Zbk he,yai]
  by_cases hf:e.1=own
  ·have e1:Zpc O P w own per e=[([ZeI (B P.2.2.2.2.1.toNat) per],0,0,0),([mix (B P.2.2.2.1.toNat) per],0,0,e.2.2.2.1),([mix (B O.2.2.2.1.toNat) per],e.2.2.2.2,w,0)]:=by unfold Zpc;rw [if_pos hf]
   rw [e1] at hlk
   obtain ⟨x,x1,x2⟩:=Zbd (n:=e.2.2.1) hlk ((5:Int),e) u1 hal
   rw [if_pos (by rw [hf];exact beq_self_eq_true _),x1,yb]
   refine ⟨_,rfl,_,_,rfl, ?_⟩
   rw [yai,q,yaf]
   unfold ZgF
   simp only [List.map_cons,List.map_nil]
   rw [x2,e1,if_pos hf]
  ·have e1:Zpc O P w own per e=[([ZeI (B P.2.2.2.2.1.toNat) per],0,0,0),([mix (B O.2.2.2.1.toNat) per],0,w,e.2.2.2.1),([mix (B P.2.2.2.1.toNat) per],e.2.2.2.2,0,0)]:=by unfold Zpc;rw [if_neg hf]
   rw [e1] at hlk
   obtain ⟨x,x1,x2⟩:=Zbd (n:=e.2.2.1) hlk ((6:Int),e) u1 hal
   rw [if_neg (by rw [beq_iff_eq];exact hf),x1,yb]
   refine ⟨_,rfl,_,_,rfl, ?_⟩
   rw [yai,q,yaf]
   unfold ZgF
   simp only [List.map_cons,List.map_nil]
   rw [x2,e1,if_neg hf]) (by
  rintro _ ⟨u1,a1,rfl,q⟩
  unfold YA
  dsimp only
  rw [if_neg (by rw [Yy];decide)]
  rw [ybb] at q
  exact ⟨_,rfl,_,_,rfl,q⟩)
 rw [g1,yb]
 dsimp only
 have hal:a1.length≤20:=by
  have h5:=congrArg ybp g2
  have h6:=congrArg ybp ha
  simp only [yr,yl] at h5 h6
  omega
 obtain ⟨r,r1,r2,r3⟩:=ZII u1 a1 hal
 have hrl:=r2.length_eq
 rw [r1,yb]
 dsimp only
 rw [if_pos (by simp [hrl]),Zx (z:=2*s.1) (by omega) (by omega),Zx (z:=2*s.1+own) (by omega) (by omega)]
 generalize hz:((([]:List In),([]:List Out),(0:Int)),([]:List Role))=z
 rw [show ((r.length:Int),(0:Int),ch,s,z,u1,r,([(ch.1,(0,[],0))]:List In),2*s.1+own,([]:List Role),([]:List Out))=(fun k:Nat=>((r.length:Int),(k:Int),ch,s,z,u1,r,([(ch.1,(0,[],0))]:List In),2*s.1+own,(r.take k).map (fun x:Zf=>x.2.1),(r.take k).map (fun x:Zf=>x.1))) 0 from rfl,
  Z2 (x:=(ch,s,z,u1,r,([(ch.1,(0,[],0))]:List In),2*s.1+own,r.map (fun x:Zf=>x.2.1),r.map (fun x:Zf=>x.1))) r.length (fun k:Nat=>((r.length:Int),(k:Int),ch,s,z,u1,r,([(ch.1,(0,[],0))]:List In),2*s.1+own,(r.take k).map (fun x:Zf=>x.2.1),(r.take k).map (fun x:Zf=>x.1))) ?_ ?_ (by omega),yb]
 ·refine ⟨r.map ZsI, ?_, ?_, ?_⟩
  ·rw [yao,yao]
   rfl
  ·rw [←g2]
   exact r2.map ZsI
  ·rw [List.pairwise_map]
   refine List.pairwise_iff_getElem.2 fun i j hi hj hij=> ?_
   have:=r3 i j hij (by omega)
   rw [Zp2 (yv hi),Zp2 (yv hj)] at this
   exact this
 ·intro k hk
  obtain ⟨e,he,hm⟩:=Zs hk
  unfold Y9
  dsimp only
  rw [if_pos (Xj hk),if_pos (YF (by omega) (by omega)),yca,he,yb,ZC (by omega),Zbk he,if_pos (Yg (by simp;omega) (by simp;omega)),if_pos (Yg (by simp;omega) (by simp;omega)),yai,yai]
  rfl
 ·unfold Y9
  dsimp only
  rw [if_neg (by rw [Yy];decide),ybb]
theorem ZIJ (p:UInt64):Zdt fuel p=some [([p],0,0,0)]:=by
 unfold Zdt Zkd WC
 rw [if_pos (Yg (by simp) (by simp)),yb,yb]
theorem ZGN {A:Int} {k0 k1:Kit} {op own:Int} (h:ChOk A k0 k1 op) (hown:own=0∨own=1) {s:State} {h0 h1:Int} (hs:StIn A s h0 h1) (ho:hav op h0 h1 ≥ cost s.2.2.2 s.2.2.1.length) {per:UInt64} (hper:VX per.toNat):
 ∃m:List (Out×Role),commit_MakeM fuel (chan A k0 k1 op) s own per=some (((([((z32,0),(0,[],0))]:List In),m.map (·.1),2*s.1+own),m.map (·.2)),0)∧
  m.Perm (items (kO k0 k1 own) (kP k0 k1 own) (wt own) own per (rst op own h0 h1 s.2.2.2 (shw s.2.2.1).length) (rst op (1 - own) h0 h1 s.2.2.2 (shw s.2.2.1).length) (shw s.2.2.1))∧m.Pairwise fun x y=>x.1.1≤y.1.1:=by
 have hB:(chan A k0 k1 op).2.2.1=[ZE k0,ZE k1]:=rfl
 have hT:(chan A k0 k1 op).2.2.2.1=[Tm 5,Tm 6]:=rfl
 have hF:(chan A k0 k1 op).1=(z32,0):=rfl
 have hside:Wi fuel own=some true:=by
  unfold Wi
  rcases hown with rfl|rfl <;> rfl
 have hpeer:wi (1 - own)=1 - own:=Zx (by omega) (by omega)
 have hpo:1 - own=0∨1 - own=1:=by omega
 have gO:([ZE k0,ZE k1]:List WS)[own.toNat]? =some (ZE (kO k0 k1 own)):=by rcases hown with rfl|rfl <;> rfl
 have gP:([ZE k0,ZE k1]:List WS)[(1 - own).toNat]? =some (ZE (kP k0 k1 own)):=by rcases hown with rfl|rfl <;> rfl
 have tO:∃d,([Tm 5,Tm 6]:List Vh)[own.toNat]? =some (Tm d):=Zon hown
 have tP:([Tm 5,Tm 6]:List Vh)[(1 - own).toNat]? =some (Tm (wt own)):=by rcases hown with rfl|rfl <;> rfl
 obtain ⟨d,hd⟩:=tO
 have hw:=ZHd own
 have hrO:=ZwI h hown hs hown
 have hrP:=ZwI h hown hs hpo
 generalize rst op own h0 h1 s.2.2.2 (shw s.2.2.1).length=a at hrO
 generalize rst op (1 - own) h0 h1 s.2.2.2 (shw s.2.2.1).length=b at hrP
 generalize hO:kO k0 k1 own=O at*
 generalize hP:kP k0 k1 own=P at*
 generalize wt own=w at*
 have tl:=fun {acc:List Zf} {b0:List (Out×Role)} (ha:acc.map ZsI=b0) (hb:acc.length≤4) (u:List Unit)=>ZGM (O:=O) (P:=P) (w:=w) (own:=own) (by omega) (by omega) (per:=per) (l:=shw s.2.2.1) (ybu (ZhB _) hs.len) (fun c hc=>hs.cs c (Zp3.1 hc).1) (chan A k0 k1 op) s hs.n0 hs.n1 hown ha hb u
 have hsh:=ZyM (A:=A) (k0:=k0) (k1:=k1) (op:=op) hown hs.len
 unfold commit_MakeM
 rw [hside,yb,if_neg (by decide),ZjK,yb,decide_eq_true hper,if_neg (by decide),ZFr h hs,yb,decide_eq_true ho,if_neg (by decide)]
 rw [hF] at tl
 generalize hc:chan A k0 k1 op=c at*
 have q1:inB (1 - own) 2=true:=Xi hpo
 have q2:inB own 2=true:=Xi hown
 have s1:∀z:Int,Yi fuel (Tm d) z=some (decide (z ≥ 100)):=fun z=>rfl
 have lateIs:ZlI fuel (mix (ZE O).2.2.1 per) (ZeI (ZE P).2.2.2.2 per) (Tm w).2.2.1=some (ZjP O P w per):=rfl
 have ancO:Y4 fuel (ZE O).1=some (ZjQ O):=rfl
 have ancP:Y4 fuel (ZE P).1=some (ZjQ P):=rfl
 have payIs:Zdt fuel (ZE P).2.1=some (ZsH P):=ZIJ _
 simp only [hpeer,q1,q2,if_true,hB,hT,gO,gP,hd,tP,yb,ZCP,ZIw,hrO,hrP,s1,lateIs,ancO,ancP,payIs,hsh]
 by_cases ha:a ≥ 100
 ·rw [if_pos (decide_eq_true ha)]
  obtain ⟨x1,p1,e1⟩:=Zbd (n:=a) (ZBI O P (w:=w) (by omega) (by omega) per) ((1:Int),zc) [] (acc:=[]) (by simp)
  rw [show ((0:Int),(0:Int),(0:Int),(0:UInt64),(0:Int))=zc from rfl]
  simp only [p1,yb]
  by_cases hb:b ≥ 100
  ·rw [if_pos (decide_eq_true hb)]
   obtain ⟨x2,p2,e2⟩:=Zbd (n:=b) (ZAk P) ((2:Int),zc) [()] (acc:=[]++[x1]) (by simp)
   simp only [p2,yb]
   obtain ⟨x3,p3,e3⟩:=Zbd (n:=330) (ZfV O) ((3:Int),zc) [(),()] (acc:=[]++[x1]++[x2]) (by simp)
   simp only [p3,yb]
   obtain ⟨x4,p4,e4⟩:=Zbd (n:=330) (ZfV P) ((4:Int),zc) [(),(),()] (acc:=[]++[x1]++[x2]++[x3]) (by simp)
   simp only [p4,yb]
   obtain ⟨m,m1,m2,m3⟩:=tl (acc:=[]++[x1]++[x2]++[x3]++[x4]) (b0:=ZgG O P w per a b) (by unfold ZgG;rw [if_pos ha,if_pos hb];simp [e1,e2,e3,e4]) (by simp) [(),(),(),()]
   exact ⟨m,m1,m2,m3⟩
  ·rw [if_neg (by rw [decide_eq_true_iff];exact hb)]
   obtain ⟨x3,p3,e3⟩:=Zbd (n:=330) (ZfV O) ((3:Int),zc) [()] (acc:=[]++[x1]) (by simp)
   simp only [p3,yb]
   obtain ⟨x4,p4,e4⟩:=Zbd (n:=330) (ZfV P) ((4:Int),zc) [(),()] (acc:=[]++[x1]++[x3]) (by simp)
   simp only [p4,yb]
   obtain ⟨m,m1,m2,m3⟩:=tl (acc:=[]++[x1]++[x3]++[x4]) (b0:=ZgG O P w per a b) (by unfold ZgG;rw [if_pos ha,if_neg hb];simp [e1,e3,e4]) (by simp) [(),(),()]
   exact ⟨m,m1,m2,m3⟩
 ·rw [if_neg (by rw [decide_eq_true_iff];exact ha),show ((0:Int),(0:Int),(0:Int),(0:UInt64),(0:Int))=zc from rfl]
  by_cases hb:b ≥ 100
  ·rw [if_pos (decide_eq_true hb)]
   obtain ⟨x2,p2,e2⟩:=Zbd (n:=b) (ZAk P) ((2:Int),zc) [] (acc:=[]) (by simp)
   simp only [p2,yb]
   obtain ⟨x3,p3,e3⟩:=Zbd (n:=330) (ZfV O) ((3:Int),zc) [()] (acc:=[]++[x2]) (by simp)
   simp only [p3,yb]
   obtain ⟨x4,p4,e4⟩:=Zbd (n:=330) (ZfV P) ((4:Int),zc) [(),()] (acc:=[]++[x2]++[x3]) (by simp)
   simp only [p4,yb]
   obtain ⟨m,m1,m2,m3⟩:=tl (acc:=[]++[x2]++[x3]++[x4]) (b0:=ZgG O P w per a b) (by unfold ZgG;rw [if_neg ha,if_pos hb];simp [e2,e3,e4]) (by simp) [(),(),()]
   exact ⟨m,m1,m2,m3⟩
  ·rw [if_neg (by rw [decide_eq_true_iff];exact hb)]
   obtain ⟨x3,p3,e3⟩:=Zbd (n:=330) (ZfV O) ((3:Int),zc) [] (acc:=[]) (by simp)
   simp only [p3,yb]
   obtain ⟨x4,p4,e4⟩:=Zbd (n:=330) (ZfV P) ((4:Int),zc) [()] (acc:=[]++[x3]) (by simp)
   simp only [p4,yb]
   obtain ⟨m,m1,m2,m3⟩:=tl (acc:=[]++[x3]++[x4]) (b0:=ZgG O P w per a b) (by unfold ZgG;rw [if_neg ha,if_neg hb];simp [e3,e4]) (by simp) [(),()]
   exact ⟨m,m1,m2,m3⟩
end Go.Proofs.YtjbbdlffilcaaaaGreat
end
section
set_option maxRecDepth 4000
namespace Go.Proofs.YtjbbdlffilcaaaaGreat
open Go Go.Ev
instance (k:UInt64):Decidable (Key k):=by unfold Key;infer_instance
end Go.Proofs.YtjbbdlffilcaaaaGreat
end
section
set_option maxRecDepth 4000
namespace Go.Proofs.YtjbbdlffilcaaaaGreat
open Go Go.Ev
def tot {α:Type} (f:α→Int) (l:List α):Int:=(l.map f).sum
theorem ZGO {α:Type} (f:α→Int):tot f []=0:=rfl
theorem Qe {α:Type} (f:α→Int) (x:α) (l:List α):tot f (x::l)=f x+tot f l:=rfl
theorem Zp4 {α:Type} (f:α→Int) (l r:List α):tot f (l++r)=tot f l+tot f r:=by
 unfold tot
 rw [yai,List.sum_append]
theorem Zno {α:Type} (f:α→Int) {l:List α} {k:Nat} {e:α} (h:l[k]? =some e):tot f (l.take (k+1))=tot f (l.take k)+f e:=by
 rw [Zbk h,Zp4]
 show _+(f e+0)=_
 omega
theorem ZyN {α:Type} (f:α→Int) {l r:List α} (h:l.Perm r):tot f l=tot f r:=by
 induction h with
 |nil=>rfl
 |cons x _ ih=>rw [Qe,Qe,ih]
 |swap x y l=>rw [Qe,Qe,Qe,Qe];omega
 |trans _ _ h1 h2=>rw [h1,h2]
theorem ZsJ {α:Type} {f:α→Int} {c:Int}:∀{l:List α},(∀x,x∈l→0≤f x∧f x≤c)→0≤tot f l∧tot f l≤(l.length:Int)*c
 |[],_=>by simp [tot]
 |x::r,h=>by
  have h1:=ZsJ (l:=r) fun y hy=>h y (yaq _ hy)
  have h2:=h x (yam ..)
  rw [Qe,yz]
  have e:((r.length+1:Nat):Int)*c=(r.length:Int)*c+c:=by
   rw [Int.natCast_succ,Int.add_mul,Int.one_mul]
  rw [e]
  omega
theorem ZGP {α β:Type} (f:β→Int) (g:α→β) (l:List α):tot f (l.map g)=tot (fun x=>f (g x)) l:=by
 unfold tot
 rw [yao]
 rfl
def Good (x:Out×Role):Prop:=((x.2.1=1∨x.2.1=2)∧x.1.1 ≥ 100)∨((x.2.1=3∨x.2.1=4)∧x.1.1=330)∨((x.2.1=5∨x.2.1=6)∧x.1.1 ≥ 100)
theorem ZC0 {O P:Kit} {w:Int} {per:UInt64} {a b:Int} {Q:Out×Role→Prop} (h1:a ≥ 100→Q ((a,ZjP O P w per),(1,zc))) (h2:b ≥ 100→Q ((b,ZsH P),(2,zc))) (h3:Q ((330,ZjQ O),(3,zc))) (h4:Q ((330,ZjQ P),(4,zc))):∀x,x∈ZgG O P w per a b→Q x:=by
 intro x hx
 unfold ZgG at hx
 rcases ych.1 hx with hx|hx
 ·by_cases h:a ≥ 100
  ·rw [if_pos h,yal] at hx
   rw [hx];exact h1 h
  ·rw [if_neg h] at hx
   simp at hx
 rcases ych.1 hx with hx|hx
 ·by_cases h:b ≥ 100
  ·rw [if_pos h,yal] at hx
   rw [hx];exact h2 h
  ·rw [if_neg h] at hx
   simp at hx
 simp only [ybf,ycg,or_false] at hx
 rcases hx with rfl|rfl
 ·exact h3
 ·exact h4
theorem ZC1 {O P:Kit} {w own:Int} {per:UInt64} {a b:Int} {l:List ZB} {Q:Out×Role→Prop} (h1:a ≥ 100→Q ((a,ZjP O P w per),(1,zc))) (h2:b ≥ 100→Q ((b,ZsH P),(2,zc))) (h3:Q ((330,ZjQ O),(3,zc))) (h4:Q ((330,ZjQ P),(4,zc))) (h5:∀c,c∈l→Q (ZgF O P w own per c)):∀x,x∈items O P w own per a b l→Q x:=by
 intro x hx
 unfold items at hx
 rcases ych.1 hx with hx|hx
 ·exact ZC0 h1 h2 h3 h4 x hx
 ·obtain ⟨c,hc,rfl⟩:=List.mem_map.1 hx
  exact h5 c hc
theorem ZC2 {O P:Kit} {w own:Int} {per:UInt64} {a b:Int} {l:List ZB}:(items O P w own per a b l).length=(if a ≥ 100 then 1 else 0)+(if b ≥ 100 then 1 else 0)+2+l.length:=by
 unfold items ZgG
 rw [yl,yl,yl,yr]
 split <;> split <;> simp
theorem ZuH {O P:Kit} {w own:Int} {per:UInt64} {a b:Int} {l:List ZB} (f:Out×Role→Int):tot f (items O P w own per a b l)=(if a ≥ 100 then f ((a,ZjP O P w per),(1,zc)) else 0)+(if b ≥ 100 then f ((b,ZsH P),(2,zc)) else 0)+f ((330,ZjQ O),(3,zc))+f ((330,ZjQ P),(4,zc))+tot (fun c=>f (ZgF O P w own per c)) l:=by
 unfold items ZgG
 rw [Zp4,Zp4,Zp4,ZGP]
 split <;> split <;> simp only [Qe,ZGO] <;> omega
structure Cm (p:Corsnedlaw21Play) (A:Int) (k0 k1:Kit) (op own:Int) (s:State) (h0 h1:Int) (per:UInt64) (m:List (Out×Role)):Prop where
 ch:ChOk A k0 k1 op
 o:own=0∨own=1
 st:StIn A s h0 h1
 co:hav op h0 h1 ≥ cost s.2.2.2 s.2.2.1.length
 of:Offd p 20 s.2.2.1
 pm:m.Perm (items (kO k0 k1 own) (kP k0 k1 own) (wt own) own per (rst op own h0 h1 s.2.2.2 (shw s.2.2.1).length) (rst op (1 - own) h0 h1 s.2.2.2 (shw s.2.2.1).length) (shw s.2.2.1))
 so:m.Pairwise fun x y=>x.1.1≤y.1.1
 mkd:commit_MakeM fuel (chan A k0 k1 op) s own per=some (((([((z32,0),(0,[],0))]:List In),m.map (·.1),2*s.1+own),m.map (·.2)),0)
section
variable {p:Corsnedlaw21Play} {A:Int} {k0 k1:Kit} {op own:Int} {s:State} {h0 h1:Int} {per:UInt64} {m:List (Out×Role)}
theorem Cm.rO (c:Cm p A k0 k1 op own s h0 h1 per m):0≤rst op own h0 h1 s.2.2.2 (shw s.2.2.1).length∧rst op own h0 h1 s.2.2.2 (shw s.2.2.1).length≤A:=ZwH c.st c.co own
theorem Cm.rP (c:Cm p A k0 k1 op own s h0 h1 per m):0≤rst op (1 - own) h0 h1 s.2.2.2 (shw s.2.2.1).length∧rst op (1 - own) h0 h1 s.2.2.2 (shw s.2.2.1).length≤A:=ZwH c.st c.co (1 - own)
theorem Cm.mem (c:Cm p A k0 k1 op own s h0 h1 per m) {Q:Out×Role→Prop} (h1:∀a,100≤a→a≤A→Q ((a,ZjP (kO k0 k1 own) (kP k0 k1 own) (wt own) per),(1,zc))) (h2:∀b,100≤b→b≤A→Q ((b,ZsH (kP k0 k1 own)),(2,zc))) (h3:Q ((330,ZjQ (kO k0 k1 own)),(3,zc))) (h4:Q ((330,ZjQ (kP k0 k1 own)),(4,zc)))
 (h5:∀x,x∈s.2.2.1→CondIn x→x.2.2.1 ≥ 100→Q (ZgF (kO k0 k1 own) (kP k0 k1 own) (wt own) own per x)):∀x,x∈m→Q x:=by
 intro x hx
 exact ZC1 (fun h=>h1 _ h c.rO.2) (fun h=>h2 _ h c.rP.2) h3 h4 (fun y hy=>h5 y (Zp3.1 hy).1 (c.st.cs y (Zp3.1 hy).1) (Zp3.1 hy).2) x (c.pm.mem_iff.1 hx)
theorem Cm.len (c:Cm p A k0 k1 op own s h0 h1 per m):m.length≤20:=by
 rw [c.pm.length_eq,ZC2]
 have:=ybu (ZhB s.2.2.1) c.st.len
 split <;> split <;> omega
theorem Cm.good (c:Cm p A k0 k1 op own s h0 h1 per m):∀x,x∈m→Good x∧0≤x.1.1∧x.1.1≤4300000000:=by
 have:=c.ch.hi
 refine c.mem (fun a ha hA=>⟨.inl ⟨.inl rfl,ha⟩,by dsimp only;omega,by dsimp only;omega⟩) (fun b hb hA=>⟨.inl ⟨.inr rfl,hb⟩,by dsimp only;omega,by dsimp only;omega⟩) ⟨.inr (.inl ⟨.inl rfl,rfl⟩),show (0:Int)≤330 by decide,show (330:Int)≤4300000000 by decide⟩ ⟨.inr (.inl ⟨.inr rfl,rfl⟩),show (0:Int)≤330 by decide,show (330:Int)≤4300000000 by decide⟩ ?_
 intro x hx hc h100
 refine ⟨.inr (.inr ⟨?_,h100⟩), ?_, ?_⟩
 ·show (if x.1=own then (5:Int) else 6)=5∨(if x.1=own then (5:Int) else 6)=6
  split
  ·exact .inl rfl
  ·exact .inr rfl
 ·show 0≤x.2.2.1
  omega
 ·show x.2.2.1≤_
  have:=hc.2.2.2.2.1
  omega
theorem Cm.lk (c:Cm p A k0 k1 op own s h0 h1 per m):∀x,x∈m→Zcs x.1.2∧ZeJ x.1.2:=by
 have hw:=ZHd own
 exact c.mem (fun a ha hA=>ZBI _ _ (by omega) (by omega) _) (fun b hb hA=>ZAk _) (ZfV _) (ZfV _) fun x hx hc _=>ZBJ _ _ (by omega) (by omega) _ hc
theorem Cm.sums (c:Cm p A k0 k1 op own s h0 h1 per m):tot (fun x:Out×Role=>x.1.1) m=(if rst op own h0 h1 s.2.2.2 (shw s.2.2.1).length ≥ 100 then rst op own h0 h1 s.2.2.2 (shw s.2.2.1).length else 0)+(if rst op (1 - own) h0 h1 s.2.2.2 (shw s.2.2.1).length ≥ 100 then rst op (1 - own) h0 h1 s.2.2.2 (shw s.2.2.1).length else 0)+660+amtC (shw s.2.2.1):=by
 rw [ZyN _ c.pm,ZuH]
 have e:tot (fun x:ZB=>(ZgF (kO k0 k1 own) (kP k0 k1 own) (wt own) own per x).1.1) (shw s.2.2.1)=amtC (shw s.2.2.1):=rfl
 rw [e]
 dsimp only
 omega
theorem ZC3 (l:List ZB):amtC (shw l)+tot (fun c:ZB=>if c.2.2.1 ≥ 100 then 0 else c.2.2.1) l=amtC l:=by
 induction l with
 |nil=>rfl
 |cons c r ih=>
  unfold shw at*
  rw [Qe,Zkf]
  by_cases h:c.2.2.1 ≥ 100
  ·rw [List.filter_cons_of_pos (by simpa using h),Zkf,if_pos h]
   omega
  ·rw [List.filter_cons_of_neg (by simpa using h),if_neg h]
   omega
theorem ZFw {op own h0 h1 r:Int} {n:Nat} (ho:op=0∨op=1) (hw:own=0∨own=1):rst op own h0 h1 r n+rst op (1 - own) h0 h1 r n=h0+h1 - cost r n:=by
 unfold rst hav
 rcases ho with rfl|rfl <;> rcases hw with rfl|rfl <;> simp <;> omega
theorem Cm.txok (c:Cm p A k0 k1 op own s h0 h1 per m):ZJv (([((z32,0),(0,[],0))]:List In),m.map (·.1),2*s.1+own)∧ZJH (([((z32,0),(0,[],0))]:List In),m.map (·.1),2*s.1+own)∧ZjO (m.map (·.1))≤1125899906842624:=by
 have h1:=c.good
 have h2:=c.lk
 have h3:=c.len
 have n0:=c.st.n0
 have n1:=c.st.n1
 have ho:=c.o
 refine ⟨⟨by simp,by simp,by simp;omega,by dsimp only;omega, ?_, ?_⟩,⟨?_,by dsimp only;omega⟩, ?_⟩
 ·intro x hx
  rw [yal.1 hx]
  exact ⟨by decide,by decide,by decide,by decide,by simp⟩
 ·intro o ho
  obtain ⟨x,hx,rfl⟩:=List.mem_map.1 ho
  exact ⟨(h1 x hx).2.1,by have:=(h1 x hx).2.2;omega,(h2 x hx).1,(h2 x hx).2⟩
 ·intro x hx
  rw [yal.1 hx]
  rfl
 ·have e:ZjO (m.map (·.1))=tot (fun x:Out×Role=>x.1.1) m:=by
   unfold ZjO tot
   rw [yao]
   rfl
  rw [e]
  have:=(ZsJ (f:=fun x:Out×Role=>x.1.1) (c:=4300000000) fun x hx=>(h1 x hx).2).2
  omega
end
theorem ZGQ {p:Corsnedlaw21Play} (hp:PlayOk p):∃A k0 k1 op s h0 h1,XS fuel p=some (chan A k0 k1 op,[k0,k1],s)∧ChOk A k0 k1 op∧Wh fuel (chan A k0 k1 op) s=some true∧∀own per,(own=0∨own=1)→VX per.toNat→∃m,Cm p A k0 k1 op own s h0 h1 per m:=by
 obtain ⟨A,k0,k1,op,s,e1,e2,⟨h0,h1,e3,e4⟩,e5⟩:=ZJM hp
 refine ⟨A,k0,k1,op,s,h0,h1,e1,e2,by rw [ZFr e2 e3,decide_eq_true e4], ?_⟩
 intro own per hown hper
 obtain ⟨m,m1,m2,m3⟩:=ZGN e2 hown e3 e4 hper
 exact ⟨m,e2,hown,e3,e4,e5,m2,m3,m1⟩
end Go.Proofs.YtjbbdlffilcaaaaGreat
end
section
set_option maxRecDepth 100000
namespace Go.Proofs.YtjbbdlffilcaaaaGreat
open Go Go.Ev
noncomputable section
def his:FuncId→HI
 |10=>{ eqs:=true,own:=[],still:=[0,27,32,35,36,37,42,43,44,49,50,55,56,57,62,63,64,88,93,95,97,98,100,102,103,130,131,136,137,142,143,241,242,247,249,250,255,256,257,258,262,263,264,265],row:=[],deep:=[],frz:=[],ghost:=[],gst:=[]}
 |_=>{}
def ZIK:List (Fs ya):=[VH 18446744073709551616,ZfQ 18446744073709551616,ZeB 18446744073709551616,Zcq 18446744073709551616,ZeE 18446744073709551616,ZeH 18446744073709551616,ZeD 18446744073709551616,Zar 18446744073709551616,Zsg 18446744073709551616,Zhy 18446744073709551616,Zcr 18446744073709551616]
def specs:=ZIK.map Fs.fo
def ZJD:List (TypeId×String×FuncId):=[]
theorem ZFx:AllOk specs:=Zx4 ⟨okN VH Zb1,okN ZfQ Zk9,okN ZeB ZeC,okN Zcq ZpF,okN ZeE Zsp,okN ZeH Zss,okN ZeD ZjD,okN Zar Znj,okN Zsg Zsh,okN Zhy ZwA,okN Zcr ZpI,trivial⟩
theorem ZGR:MtOk ya ZJD:=trivial
theorem ran:ZH4 ya his specs ZJD 100 10=some true:=by decide+kernel
def ZIL (F:Nat):Fs ya:=⟨10,[],[],[],[⟨.ret,[(0,.v .bool)],[],[.bool]⟩],fun _=>some true⟩
def ZHe:Fs ya:=ZIL fuel
theorem ZIM:ZHe.Ok:=ZH5 ZFx ZGR ran
end
end Go.Proofs.YtjbbdlffilcaaaaGreat
end
section
set_option maxRecDepth 4000
namespace Go.Proofs.YtjbbdlffilcaaaaGreat
open Go Go.Ev
noncomputable section
def ZP (F:Nat) (s:(Bool×Int×Int×Int×Int×Corsnedlaw21Play×ZO×(List Kit)×State×WD)):Option ((Bool×Int×Int×Int×Int×Corsnedlaw21Play×ZO×(List Kit)×State×WD)⊕((Bool×Corsnedlaw21Play×ZO×(List Kit)×State×WD)⊕(Bool×Int×Int×Int×Corsnedlaw21Play×ZO×(List Kit)×State×WD))):=
 let y905:Bool:=decide (s.2.2.2.2.1 < (s.2.2.2.2.2.2.2.2.2.2.length:Int))
 if y905=true then
  (idx s.2.2.2.2.2.2.2.2.2.1.2.1 s.2.2.2.2.1).bind fun e906=>
  (idx s.2.2.2.2.2.2.2.2.2.2 s.2.2.2.2.1).bind fun e907=>
  if (e907.1==3)=true then
   if (e906.1 !=330)=true then
    some (.inr (.inl (false,s.2.2.2.2.2.1,s.2.2.2.2.2.2.1,s.2.2.2.2.2.2.2.1,s.2.2.2.2.2.2.2.2.1,s.2.2.2.2.2.2.2.2.2)))
   else
   (idx s.2.2.2.2.2.2.2.2.2.2 s.2.2.2.2.1).bind fun e908=>
   if (e908.1==5)=true then
    some (.inl (s.1,s.2.1,wi (s.2.2.1+e906.1),wi (s.2.2.2.1+1),wi (s.2.2.2.2.1+1),s.2.2.2.2.2.1,s.2.2.2.2.2.2.1,s.2.2.2.2.2.2.2.1,s.2.2.2.2.2.2.2.2.1,s.2.2.2.2.2.2.2.2.2))
   else
   (idx s.2.2.2.2.2.2.2.2.2.2 s.2.2.2.2.1).bind fun e909=>
   if (e909.1==6)=true then
    some (.inl (s.1,s.2.1,wi (s.2.2.1+e906.1),wi (s.2.2.2.1+1),wi (s.2.2.2.2.1+1),s.2.2.2.2.2.1,s.2.2.2.2.2.2.1,s.2.2.2.2.2.2.2.1,s.2.2.2.2.2.2.2.2.1,s.2.2.2.2.2.2.2.2.2))
   else
   some (.inl (s.1,s.2.1,wi (s.2.2.1+e906.1),s.2.2.2.1,wi (s.2.2.2.2.1+1),s.2.2.2.2.2.1,s.2.2.2.2.2.2.1,s.2.2.2.2.2.2.2.1,s.2.2.2.2.2.2.2.2.1,s.2.2.2.2.2.2.2.2.2))
  else
  (idx s.2.2.2.2.2.2.2.2.2.2 s.2.2.2.2.1).bind fun e910=>
  if (e910.1==4)=true then
   if (e906.1 !=330)=true then
    some (.inr (.inl (false,s.2.2.2.2.2.1,s.2.2.2.2.2.2.1,s.2.2.2.2.2.2.2.1,s.2.2.2.2.2.2.2.2.1,s.2.2.2.2.2.2.2.2.2)))
   else
   if (!(e910.1==4))=true then
    if (inB s.2.1 2)=true then
     (s.2.2.2.2.2.2.1.2.2.2.1[s.2.1.toNat]?).bind fun e911=>
     (Yi F e911 e906.1).bind fun o912=>
     if (!o912)=true then
      some (.inr (.inl (false,s.2.2.2.2.2.1,s.2.2.2.2.2.2.1,s.2.2.2.2.2.2.2.1,s.2.2.2.2.2.2.2.2.1,s.2.2.2.2.2.2.2.2.2)))
     else
     (idx s.2.2.2.2.2.2.2.2.2.2 s.2.2.2.2.1).bind fun e913=>
     if (e913.1==5)=true then
      some (.inl (s.1,s.2.1,wi (s.2.2.1+e906.1),wi (s.2.2.2.1+1),wi (s.2.2.2.2.1+1),s.2.2.2.2.2.1,s.2.2.2.2.2.2.1,s.2.2.2.2.2.2.2.1,s.2.2.2.2.2.2.2.2.1,s.2.2.2.2.2.2.2.2.2))
     else
     (idx s.2.2.2.2.2.2.2.2.2.2 s.2.2.2.2.1).bind fun e914=>
     if (e914.1==6)=true then
      some (.inl (s.1,s.2.1,wi (s.2.2.1+e906.1),wi (s.2.2.2.1+1),wi (s.2.2.2.2.1+1),s.2.2.2.2.2.1,s.2.2.2.2.2.2.1,s.2.2.2.2.2.2.2.1,s.2.2.2.2.2.2.2.2.1,s.2.2.2.2.2.2.2.2.2))
     else
     some (.inl (s.1,s.2.1,wi (s.2.2.1+e906.1),s.2.2.2.1,wi (s.2.2.2.2.1+1),s.2.2.2.2.2.1,s.2.2.2.2.2.2.1,s.2.2.2.2.2.2.2.1,s.2.2.2.2.2.2.2.2.1,s.2.2.2.2.2.2.2.2.2))
    else
    none
   else
   (idx s.2.2.2.2.2.2.2.2.2.2 s.2.2.2.2.1).bind fun e915=>
   if (e915.1==5)=true then
    some (.inl (s.1,s.2.1,wi (s.2.2.1+e906.1),wi (s.2.2.2.1+1),wi (s.2.2.2.2.1+1),s.2.2.2.2.2.1,s.2.2.2.2.2.2.1,s.2.2.2.2.2.2.2.1,s.2.2.2.2.2.2.2.2.1,s.2.2.2.2.2.2.2.2.2))
   else
   (idx s.2.2.2.2.2.2.2.2.2.2 s.2.2.2.2.1).bind fun e916=>
   if (e916.1==6)=true then
    some (.inl (s.1,s.2.1,wi (s.2.2.1+e906.1),wi (s.2.2.2.1+1),wi (s.2.2.2.2.1+1),s.2.2.2.2.2.1,s.2.2.2.2.2.2.1,s.2.2.2.2.2.2.2.1,s.2.2.2.2.2.2.2.2.1,s.2.2.2.2.2.2.2.2.2))
   else
   some (.inl (s.1,s.2.1,wi (s.2.2.1+e906.1),s.2.2.2.1,wi (s.2.2.2.2.1+1),s.2.2.2.2.2.1,s.2.2.2.2.2.2.1,s.2.2.2.2.2.2.2.1,s.2.2.2.2.2.2.2.2.1,s.2.2.2.2.2.2.2.2.2))
  else
  if (!(e910.1==4))=true then
   if (inB s.2.1 2)=true then
    (s.2.2.2.2.2.2.1.2.2.2.1[s.2.1.toNat]?).bind fun e917=>
    (Yi F e917 e906.1).bind fun o918=>
    if (!o918)=true then
     some (.inr (.inl (false,s.2.2.2.2.2.1,s.2.2.2.2.2.2.1,s.2.2.2.2.2.2.2.1,s.2.2.2.2.2.2.2.2.1,s.2.2.2.2.2.2.2.2.2)))
    else
    (idx s.2.2.2.2.2.2.2.2.2.2 s.2.2.2.2.1).bind fun e919=>
    if (e919.1==5)=true then
     some (.inl (s.1,s.2.1,wi (s.2.2.1+e906.1),wi (s.2.2.2.1+1),wi (s.2.2.2.2.1+1),s.2.2.2.2.2.1,s.2.2.2.2.2.2.1,s.2.2.2.2.2.2.2.1,s.2.2.2.2.2.2.2.2.1,s.2.2.2.2.2.2.2.2.2))
    else
    (idx s.2.2.2.2.2.2.2.2.2.2 s.2.2.2.2.1).bind fun e920=>
    if (e920.1==6)=true then
     some (.inl (s.1,s.2.1,wi (s.2.2.1+e906.1),wi (s.2.2.2.1+1),wi (s.2.2.2.2.1+1),s.2.2.2.2.2.1,s.2.2.2.2.2.2.1,s.2.2.2.2.2.2.2.1,s.2.2.2.2.2.2.2.2.1,s.2.2.2.2.2.2.2.2.2))
    else
    some (.inl (s.1,s.2.1,wi (s.2.2.1+e906.1),s.2.2.2.1,wi (s.2.2.2.2.1+1),s.2.2.2.2.2.1,s.2.2.2.2.2.2.1,s.2.2.2.2.2.2.2.1,s.2.2.2.2.2.2.2.2.1,s.2.2.2.2.2.2.2.2.2))
   else
   none
  else
  (idx s.2.2.2.2.2.2.2.2.2.2 s.2.2.2.2.1).bind fun e921=>
  if (e921.1==5)=true then
   some (.inl (s.1,s.2.1,wi (s.2.2.1+e906.1),wi (s.2.2.2.1+1),wi (s.2.2.2.2.1+1),s.2.2.2.2.2.1,s.2.2.2.2.2.2.1,s.2.2.2.2.2.2.2.1,s.2.2.2.2.2.2.2.2.1,s.2.2.2.2.2.2.2.2.2))
  else
  (idx s.2.2.2.2.2.2.2.2.2.2 s.2.2.2.2.1).bind fun e922=>
  if (e922.1==6)=true then
   some (.inl (s.1,s.2.1,wi (s.2.2.1+e906.1),wi (s.2.2.2.1+1),wi (s.2.2.2.2.1+1),s.2.2.2.2.2.1,s.2.2.2.2.2.2.1,s.2.2.2.2.2.2.2.1,s.2.2.2.2.2.2.2.2.1,s.2.2.2.2.2.2.2.2.2))
  else
  some (.inl (s.1,s.2.1,wi (s.2.2.1+e906.1),s.2.2.2.1,wi (s.2.2.2.2.1+1),s.2.2.2.2.2.1,s.2.2.2.2.2.2.1,s.2.2.2.2.2.2.2.1,s.2.2.2.2.2.2.2.2.1,s.2.2.2.2.2.2.2.2.2))
 else
 some (.inr (.inr (s.1,s.2.1,s.2.2.1,s.2.2.2.1,s.2.2.2.2.2.1,s.2.2.2.2.2.2.1,s.2.2.2.2.2.2.2.1,s.2.2.2.2.2.2.2.2.1,s.2.2.2.2.2.2.2.2.2)))
def Vp:Lp:=⟨[(5,.v .bool),(6,.ref 1 []),(8,.ref 3 []),(9,.v (.int .i64)),(10,.ref 4 []),(12,.v (.int .i64)),(13,.v (.int .i64)),(14,.v (.int .i64))],[.var (.v Zg) true,.var (.v Zr) true,.var (.v (.arr 2 WE)) true,.var (.v Ze) true,.var (.v Yp) true],[.bool,(.int .i64),(.int .i64),(.int .i64),(.int .i64),Zg,Zr,(.arr 2 WE),Ze,Yp],[⟨.ret,[(4,.v .bool)],[.var (.v Zg) true,.var (.v Zr) true,.var (.v (.arr 2 WE)) true,.var (.v Ze) true,.var (.v Yp) true],[.bool,Zg,Zr,(.arr 2 WE),Ze,Yp]⟩,⟨.exit 0,[(5,.v .bool),(6,.ref 1 []),(8,.ref 3 []),(9,.v (.int .i64)),(12,.v (.int .i64)),(13,.v (.int .i64))],[.var (.v Zg) true,.var (.v Zr) true,.var (.v (.arr 2 WE)) true,.var (.v Ze) true,.var (.v Yp) true],[.bool,(.int .i64),(.int .i64),(.int .i64),Zg,Zr,(.arr 2 WE),Ze,Yp]⟩],Zc (ZP fuel) fuel⟩
theorem Zbe:Vp.Ok ya (Zo ya 3) (Zn ya 3 0):=Zl (fi:={ hi:={ still:=[4,23,32,33,34,36,37,41,42,61,117,118,151,157,172,173,174,175,182,183,195,196]},lp:=[]}) (specs:={ l:=[W9]}) (okS ⟨VJ,trivial⟩) trivial (by kernel_rfl) (fun v=>by kernel_rfl)
def YB (F:Nat) (s:(Bool×Int×Int×Int×Int×Int×Corsnedlaw21Play×ZO×(List Kit)×State×WD)):Option ((Bool×Int×Int×Int×Int×Int×Corsnedlaw21Play×ZO×(List Kit)×State×WD)⊕(Bool×Int×Int×Int×Int×Corsnedlaw21Play×ZO×(List Kit)×State×WD)):=
 let y926:Bool:=decide (s.2.2.2.2.2.1 < (s.2.2.2.2.2.2.2.2.2.1.2.2.1.length:Int))
 if y926=true then
  if (inB s.2.1 2)=true then
   (s.2.2.2.2.2.2.2.1.2.2.2.1[s.2.1.toNat]?).bind fun e927=>
   (idx s.2.2.2.2.2.2.2.2.2.1.2.2.1 s.2.2.2.2.2.1).bind fun e928=>
   (Yi F e927 e928.2.2.1).bind fun o929=>
   if (!o929)=true then
    (idx s.2.2.2.2.2.2.2.2.2.1.2.2.1 s.2.2.2.2.2.1).bind fun e930=>
    some (.inl (s.1,s.2.1,s.2.2.1,s.2.2.2.1,wi (s.2.2.2.2.1+e930.2.2.1),wi (s.2.2.2.2.2.1+1),s.2.2.2.2.2.2.1,s.2.2.2.2.2.2.2.1,s.2.2.2.2.2.2.2.2.1,s.2.2.2.2.2.2.2.2.2.1,s.2.2.2.2.2.2.2.2.2.2))
   else
   some (.inl (s.1,s.2.1,s.2.2.1,s.2.2.2.1,s.2.2.2.2.1,wi (s.2.2.2.2.2.1+1),s.2.2.2.2.2.2.1,s.2.2.2.2.2.2.2.1,s.2.2.2.2.2.2.2.2.1,s.2.2.2.2.2.2.2.2.2.1,s.2.2.2.2.2.2.2.2.2.2))
  else
  none
 else
 some (.inr (s.1,s.2.1,s.2.2.1,s.2.2.2.1,s.2.2.2.2.1,s.2.2.2.2.2.2.1,s.2.2.2.2.2.2.2.1,s.2.2.2.2.2.2.2.2.1,s.2.2.2.2.2.2.2.2.2.1,s.2.2.2.2.2.2.2.2.2.2))
def Vq:Lp:=⟨[(5,.v .bool),(6,.ref 1 []),(8,.ref 3 []),(9,.v (.int .i64)),(12,.v (.int .i64)),(13,.v (.int .i64)),(17,.v (.int .i64)),(18,.v (.int .i64))],[.var (.v Zg) true,.var (.v Zr) true,.var (.v (.arr 2 WE)) true,.var (.v Ze) true,.var (.v Yp) true],[.bool,(.int .i64),(.int .i64),(.int .i64),(.int .i64),(.int .i64),Zg,Zr,(.arr 2 WE),Ze,Yp],[⟨.exit 2,[(5,.v .bool),(6,.ref 1 []),(8,.ref 3 []),(9,.v (.int .i64)),(12,.v (.int .i64)),(13,.v (.int .i64)),(17,.v (.int .i64))],[.var (.v Zg) true,.var (.v Zr) true,.var (.v (.arr 2 WE)) true,.var (.v Ze) true,.var (.v Yp) true],[.bool,(.int .i64),(.int .i64),(.int .i64),(.int .i64),Zg,Zr,(.arr 2 WE),Ze,Yp]⟩],Zc (YB fuel) fuel⟩
theorem Zbf:Vq.Ok ya (Zo ya 3) (Zn ya 3 1):=Zl (fi:={ hi:={ still:=[4,23,32,33,34,36,37,41,42,61,117,118,151,157,172,173,174,175,182,183,195,196]},lp:=[]}) (specs:={ l:=[W9]}) (okS ⟨VJ,trivial⟩) trivial (by kernel_rfl) (fun v=>by kernel_rfl)
def YC (F:Nat) (s:(Bool×Int×Int×Int×Int×Int×Corsnedlaw21Play×ZO×(List Kit)×State×WD)):Option ((Bool×Int×Int×Int×Int×Int×Corsnedlaw21Play×ZO×(List Kit)×State×WD)⊕((Bool×Corsnedlaw21Play×ZO×(List Kit)×State×WD)⊕(Bool×Int×Int×Int×Corsnedlaw21Play×ZO×(List Kit)×State×WD))):=
 if (decide (s.2.2.2.2.2.1 < 2))=true then
  (Zdf F s.2.2.2.2.2.2.2.1 s.2.2.2.2.2.2.2.2.2.1 s.2.1 s.2.2.2.2.2.1).bind fun o932=>
  if (decide (o932 < 0))=true then
   some (.inr (.inl (false,s.2.2.2.2.2.2.1,s.2.2.2.2.2.2.2.1,s.2.2.2.2.2.2.2.2.1,s.2.2.2.2.2.2.2.2.2.1,s.2.2.2.2.2.2.2.2.2.2)))
  else
  if (inB s.2.1 2)=true then
   (s.2.2.2.2.2.2.2.1.2.2.2.1[s.2.1.toNat]?).bind fun e933=>
   (Yi F e933 o932).bind fun o934=>
   if (!o934)=true then
    some (.inl (s.1,s.2.1,s.2.2.1,s.2.2.2.1,wi (s.2.2.2.2.1+o932),wi (s.2.2.2.2.2.1+1),s.2.2.2.2.2.2.1,s.2.2.2.2.2.2.2.1,s.2.2.2.2.2.2.2.2.1,s.2.2.2.2.2.2.2.2.2.1,s.2.2.2.2.2.2.2.2.2.2))
   else
   some (.inl (s.1,s.2.1,s.2.2.1,s.2.2.2.1,s.2.2.2.2.1,wi (s.2.2.2.2.2.1+1),s.2.2.2.2.2.2.1,s.2.2.2.2.2.2.2.1,s.2.2.2.2.2.2.2.2.1,s.2.2.2.2.2.2.2.2.2.1,s.2.2.2.2.2.2.2.2.2.2))
  else
  none
 else
 some (.inr (.inr (s.1,s.2.2.1,s.2.2.2.1,s.2.2.2.2.1,s.2.2.2.2.2.2.1,s.2.2.2.2.2.2.2.1,s.2.2.2.2.2.2.2.2.1,s.2.2.2.2.2.2.2.2.2.1,s.2.2.2.2.2.2.2.2.2.2)))
def Vr:Lp:=⟨[(5,.v .bool),(6,.ref 1 []),(8,.ref 3 []),(9,.v (.int .i64)),(12,.v (.int .i64)),(13,.v (.int .i64)),(17,.v (.int .i64)),(19,.v (.int .i64))],[.var (.v Zg) true,.var (.v Zr) true,.var (.v (.arr 2 WE)) true,.var (.v Ze) true,.var (.v Yp) true],[.bool,(.int .i64),(.int .i64),(.int .i64),(.int .i64),(.int .i64),Zg,Zr,(.arr 2 WE),Ze,Yp],[⟨.ret,[(4,.v .bool)],[.var (.v Zg) true,.var (.v Zr) true,.var (.v (.arr 2 WE)) true,.var (.v Ze) true,.var (.v Yp) true],[.bool,Zg,Zr,(.arr 2 WE),Ze,Yp]⟩,⟨.exit 4,[(5,.v .bool),(6,.ref 1 []),(8,.ref 3 []),(12,.v (.int .i64)),(13,.v (.int .i64)),(17,.v (.int .i64))],[.var (.v Zg) true,.var (.v Zr) true,.var (.v (.arr 2 WE)) true,.var (.v Ze) true,.var (.v Yp) true],[.bool,(.int .i64),(.int .i64),(.int .i64),Zg,Zr,(.arr 2 WE),Ze,Yp]⟩],Zc (YC fuel) fuel⟩
theorem Zbg:Vr.Ok ya (Zo ya 3) (Zn ya 3 2):=Zl (fi:={ hi:={ still:=[4,23,32,33,34,36,37,41,42,61,117,118,151,157,172,173,174,175,182,183,195,196]},lp:=[]}) (specs:={ l:=[Zla,W9]}) (okS ⟨ZjD,VJ,trivial⟩) trivial (by kernel_rfl) (fun v=>by kernel_rfl)
def Yj (F:Nat) (a0:Corsnedlaw21Play) (a1:UInt8):Option (Bool):=
 ((some true)).bind fun o898=>
 (XS F a0).bind fun o899=>
 (Zfo F a0.2.2.2.2.2.2.2).bind fun o900=>
 (commit_MakeM F o899.1 o899.2.2 ((a1 % 2).toNat:Int) o900).bind fun o901=>
 (Wh F o899.1 o899.2.2).bind fun o902=>
 if (!o902)=true then
  some false
 else
 if (o901.2 !=0)=true then
  some false
 else
 let y903:Bool:=(o901.1.2.length:Int)!=(o901.1.1.2.1.length:Int)
 if y903=true then
  some false
 else
 (ZgA F o901.1.1).bind fun o904=>
 if (!o904)=true then
  some false
 else
 if ((o901.1.1.1.length:Int)!=1)=true then
  some false
 else
 (Zc (ZP F) F (o898,((a1 % 2).toNat:Int),(0:Int),(0:Int),(0:Int),a0,o899.1,o899.2.1,o899.2.2,o901.1)).bind fun o923=>
 match o923 with
 |.inl o924=>
  some o924.1
 |.inr o925=>
  (Zc (YB F) F (o925.1,o925.2.1,o925.2.2.1,o925.2.2.2.1,(0:Int),(0:Int),o925.2.2.2.2.1,o925.2.2.2.2.2.1,o925.2.2.2.2.2.2.1,o925.2.2.2.2.2.2.2.1,o925.2.2.2.2.2.2.2.2)).bind fun o931=>
  (Zc (YC F) F (o931.1,o931.2.1,o931.2.2.1,o931.2.2.2.1,o931.2.2.2.2.1,(0:Int),o931.2.2.2.2.2.1,o931.2.2.2.2.2.2.1,o931.2.2.2.2.2.2.2.1,o931.2.2.2.2.2.2.2.2.1,o931.2.2.2.2.2.2.2.2.2)).bind fun o935=>
  match o935 with
  |.inl o936=>
   some o936.1
  |.inr o937=>
   if o937.1=true then
    (Za1 F o937.2.2.2.2.2.2.2.1.2.2.2 o937.2.2.1).bind fun o938=>
    let y939:Bool:=(wi ((wi (o937.2.1+o937.2.2.2.1))+o938))==o937.2.2.2.2.2.1.2.1
    if y939=true then
     let y940:Bool:=decide (o937.2.2.1≤(o937.2.2.2.2.2.2.2.1.2.2.1.length:Int))
     some y940
    else
    some false
   else
   some false
def Zdh (F:Nat):Fs ya:=⟨3,[.v Zg,.v .u8],[],[Zg,.u8],[⟨.ret,[(0,.v .bool)],[],[.bool]⟩],fun x=>Yj F x.1 x.2⟩
def ZeK:Fs ya:=Zdh fuel
theorem Zdi:ZeK.Ok:=Zh (fi:={ hi:={ still:=[4,23,32,33,34,36,37,41,42,61,117,118,151,157,172,173,174,175,182,183,195,196]},lp:=[(0,Vp),(1,Vq),(2,Vr)]}) (specs:={ l:=[ZHe,ZcE,Zm6,ZfP,Zbr,ZlU,Zfd]}) (okS ⟨ZIM,Zb1,Zk9,ZeC,Zec,Zo1,Zhn,trivial⟩) ⟨Zbe,Zbf,Zbg,trivial⟩ (by decide+kernel) (fun x=>by kernel_rfl)
end
end Go.Proofs.YtjbbdlffilcaaaaGreat
end
section
set_option maxRecDepth 4000
namespace Go.Proofs.YtjbbdlffilcaaaaGreat
open Go Go.Ev
def isC (x:Out×Role):Int:=if x.2.1=5∨x.2.1=6 then 1 else 0
theorem ZIN (x:Out×Role):0≤isC x∧isC x≤1:=by
 unfold isC
 split <;> omega
theorem ZAl {P:Corsnedlaw21Play} {c:ZO} {ks:List Kit} {s:State} {own:Int} {x:Out×Role} (hx:Good x) {Zat:List Out} {ins:List In} {note:Int} {ros:List Role} {k:Nat} {d:Int} (hown:own=0∨own=1) (ht:c.2.2.2.1[own.toNat]? =some (Tm d)) (h1:Zat[k]? =some x.1) (h2:ros[k]? =some x.2) (sum cs:Int):
 ZP fuel (true,own,sum,cs,(k:Int),P,c,ks,s,((ins,Zat,note),ros))=some (.inl (true,own,wi (sum+x.1.1),(if x.2.1=5∨x.2.1=6 then wi (cs+1) else cs),wi ((k:Int)+1),P,c,ks,s,((ins,Zat,note),ros))):=by
 have hk:k < ros.length:=(yj.1 h2).1
 obtain ⟨⟨n,lk⟩,ro,cd⟩:=x
 unfold ZP
 dsimp only at h1 h2 hx ⊢
 unfold Good at hx
 dsimp only at hx
 rw [if_pos (Xj hk),ZD h1,ZD h2]
 simp only [yb]
 have hs:∀z:Int,z ≥ 100→Yi fuel (Tm d) z=some true:=fun z hz=>by
  show some (decide (z ≥ 100))=_
  rw [decide_eq_true hz]
 rcases hx with ⟨rfl|rfl,hn⟩|⟨rfl|rfl,hn⟩|⟨rfl|rfl,hn⟩
 all_goals simp [hn,Xi hown,ht,hs,yb]
theorem ZC4 {P:Corsnedlaw21Play} {c:ZO} {ks:List Kit} {s:State} {own:Int} {m:List (Out×Role)} (hm:m.length≤20) (hx:∀x,x∈m→Good x∧0≤x.1.1∧x.1.1≤4300000000) {ins:List In} {note d:Int} (hown:own=0∨own=1) (ht:c.2.2.2.1[own.toNat]? =some (Tm d)):
 Zc (ZP fuel) fuel (true,own,(0:Int),(0:Int),(0:Int),P,c,ks,s,((ins,m.map (·.1),note),m.map (·.2)))=some (.inr (true,own,tot (fun x:Out×Role=>x.1.1) m,tot isC m,P,c,ks,s,((ins,m.map (·.1),note),m.map (·.2)))):=by
 refine Z2 m.length (fun k:Nat=>(true,own,tot (fun x:Out×Role=>x.1.1) (m.take k),tot isC (m.take k),(k:Int),P,c,ks,s,((ins,m.map (·.1),note),m.map (·.2)))) ?_ ?_ (by omega)
 ·intro k hk
  obtain ⟨x,hxk,hxm⟩:=Zs hk
  have b1:=ZsJ (f:=fun x:Out×Role=>x.1.1) (l:=m.take k) fun x hx'=>(hx x (ybl hx')).2
  have b2:=ZsJ (f:=isC) (l:=m.take k) fun x _=>ZIN x
  have b3:=(hx x hxm).2
  have hl:(m.take k).length≤20:=by rw [yab];omega
  rw [ZAl (x:=x) (hx x hxm).1 hown ht (by rw [List.getElem?_map,hxk];rfl) (by rw [List.getElem?_map,hxk];rfl),Zno _ hxk,Zno _ hxk,Zx (by omega) (by omega),Zx (z:=tot isC (m.take k)+1) (by omega) (by omega),ZC (by omega)]
  unfold isC
  split
  ·rfl
  ·rw [Int.add_zero]
 ·unfold ZP
  dsimp only
  rw [yr,if_neg (by rw [Yy];decide),ybb]
theorem ZsK (d z:Int):Yi fuel (Tm d) z=some (decide (z ≥ 100)):=rfl
theorem ZyO {A:Int} {k0 k1:Kit} {op own:Int} (h:ChOk A k0 k1 op) (hown:own=0∨own=1) {s:State} {h0 h1:Int} (hs:StIn A s h0 h1) (hr:Wh fuel (chan A k0 k1 op) s=some true) {of:Int} (hof:of=0∨of=1):Zdf fuel (chan A k0 k1 op) s own of=some (rst op of h0 h1 s.2.2.2 (shw s.2.2.1).length):=by
 have hside:∀z:Int,(z=0∨z=1)→Wi fuel z=some true:=by
  intro z hz
  unfold Wi
  rcases hz with rfl|rfl <;> rfl
 unfold Zdf
 rw [hside own hown,yb,if_neg (by decide),hside of hof,yb,if_neg (by decide),hr,yb,if_neg (by decide),ZwI h hown hs hof,yb]
theorem ZC5 {p:Corsnedlaw21Play} (hp:PlayOk p) (sd:UInt8):Yj fuel p sd=some true:=by
 obtain ⟨A,k0,k1,op,s,h0,h1,e1,e2,e3,e4⟩:=ZGQ hp
 obtain ⟨f,f1,f2,f3⟩:=ZFe hp.per
 have hown:=ZAj sd
 unfold Yj
 rw [yb,e1,yb,f3,yb]
 dsimp only
 generalize (((sd % 2).toNat:Nat):Int)=own at hown
 obtain ⟨m,cm⟩:=e4 own _ hown (ZCO f.toNat)
 obtain ⟨t1,t2,t3⟩:=cm.txok
 have hst:=cm.st
 have hT:(chan A k0 k1 op).2.2.2.1=[Tm 5,Tm 6]:=rfl
 obtain ⟨d,hd⟩:=Zon hown
 have hhi:=e2.hi
 rw [cm.mkd,yb,e3,yb,if_neg (by decide),if_neg (by simp)]
 dsimp only
 rw [if_neg (by simp),ZFn t1 t3,yb,if_neg (by decide),if_neg (by simp),ZC4 cm.len cm.good hown (by rw [hT];exact hd),yb]
 dsimp only
 obtain ⟨no,hv,l,r⟩:=s
 have hcs:=hst.cs
 have hl:=hst.len
 dsimp only at hcs hl
 have hb:∀k,0≤tot (fun c:ZB=>if c.2.2.1 ≥ 100 then 0 else c.2.2.1) (l.take k)∧tot (fun c:ZB=>if c.2.2.1 ≥ 100 then 0 else c.2.2.1) (l.take k)≤16*100:=fun k=>by
  have h9:=ZsJ (f:=fun c:ZB=>if c.2.2.1 ≥ 100 then (0:Int) else c.2.2.1) (c:=100) (l:=l.take k) fun x hx=>by
   have:=(hcs x (ybl hx)).2.2.2.1
   split <;> omega
  rw [yab] at h9
  omega
 generalize hSM:tot (fun x:Out×Role=>x.1.1) m=SM
 generalize hCM:tot isC m=CM
 generalize hcm:((([((z32,0),(0,[],0))]:List In),m.map (fun x:Out×Role=>x.1),2*no+own),m.map (fun x:Out×Role=>x.2))=C
 rw [show (true,own,SM,CM,(0:Int),(0:Int),p,chan A k0 k1 op,[k0,k1],(no,hv,l,r),C)=(fun k:Nat=>(true,own,SM,CM,tot (fun c:ZB=>if c.2.2.1 ≥ 100 then (0:Int) else c.2.2.1) (l.take k),(k:Int),p,chan A k0 k1 op,[k0,k1],(no,hv,l,r),C)) 0 from rfl,
  Z2 (x:=(true,own,SM,CM,tot (fun c:ZB=>if c.2.2.1 ≥ 100 then (0:Int) else c.2.2.1) l,p,chan A k0 k1 op,[k0,k1],(no,hv,l,r),C)) l.length (fun k:Nat=>(true,own,SM,CM,tot (fun c:ZB=>if c.2.2.1 ≥ 100 then (0:Int) else c.2.2.1) (l.take k),(k:Int),p,chan A k0 k1 op,[k0,k1],(no,hv,l,r),C)) ?_ ?_ (by omega),yb]
 ·dsimp only
  have hH:=hb l.length
  rw [ybb] at hH
  have hsp:=ZC3 l
  generalize tot (fun c:ZB=>if c.2.2.1 ≥ 100 then (0:Int) else c.2.2.1) l=H at hH hsp
  have r0:=ZwH hst cm.co 0
  have r1:=ZwH hst cm.co 1
  have g0:=ZyO e2 hown hst e3 (of:=0) (.inl rfl)
  have g1:=ZyO e2 hown hst e3 (of:=1) (.inr rfl)
  have hSM2:=cm.sums
  have hrb:=ZFw (h0:=h0) (h1:=h1) (r:=r) (n:=(shw l).length) e2.o (.inl rfl:(0:Int)=0∨(0:Int)=1)
  rw [show (1:Int) - 0=1 from rfl] at hrb
  dsimp only at r0 r1 g0 g1 hSM2 hrb
  have hown2:tot (fun x:Out×Role=>x.1.1) m=(if rst op 0 h0 h1 r (shw l).length ≥ 100 then rst op 0 h0 h1 r (shw l).length else 0)+(if rst op 1 h0 h1 r (shw l).length ≥ 100 then rst op 1 h0 h1 r (shw l).length else 0)+660+amtC (shw l):=by
   rw [hSM2]
   rcases hown with rfl|rfl
   ·rfl
   ·rw [show (1:Int) - 1=0 from rfl]
    omega
  have hht:=hst.tot
  dsimp only at hht
  have hCM2:CM=((shw l).length:Int):=by
   rw [←hCM,ZyN _ cm.pm,ZuH]
   have e:∀n:List ZB,tot (fun x:ZB=>isC (ZgF (kO k0 k1 own) (kP k0 k1 own) (wt own) own (B f.toNat) x)) n=(n.length:Int):=by
    intro n
    induction n with
    |nil=>rfl
    |cons x r ih=>
     rw [Qe,ih,yz]
     have:isC (ZgF (kO k0 k1 own) (kP k0 k1 own) (wt own) own (B f.toNat) x)=1:=by
      unfold isC ZgF
      dsimp only
      split <;> rfl
     rw [this]
     omega
   rw [e]
   have z1:∀(o:Out),isC (o,((1:Int),zc))=0:=fun _=>rfl
   have z2:∀(o:Out),isC (o,((2:Int),zc))=0:=fun _=>rfl
   have z3:∀(o:Out),isC (o,((3:Int),zc))=0:=fun _=>rfl
   have z4:∀(o:Out),isC (o,((4:Int),zc))=0:=fun _=>rfl
   rw [z1,z2,z3,z4]
   split <;> split <;> simp
  generalize hR0:rst op 0 h0 h1 r (shw l).length=R0 at*
  generalize hR1:rst op 1 h0 h1 r (shw l).length=R1 at*
  have hsl:(shw l).length≤16:=ybu (ZhB l) hl
  rw [show (true,own,SM,CM,H,(0:Int),p,chan A k0 k1 op,[k0,k1],(no,hv,l,r),C)=(fun k:Nat=>(true,own,SM,CM,H+(if k ≥ 1 then (if R0 ≥ 100 then 0 else R0) else 0)+(if k ≥ 2 then (if R1 ≥ 100 then 0 else R1) else 0),(k:Int),p,chan A k0 k1 op,[k0,k1],(no,hv,l,r),C)) 0 by simp,
   Z2 (x:=.inr (true,SM,CM,H+(if R0 ≥ 100 then 0 else R0)+(if R1 ≥ 100 then 0 else R1),p,chan A k0 k1 op,[k0,k1],(no,hv,l,r),C)) 2 (fun k:Nat=>(true,own,SM,CM,H+(if k ≥ 1 then (if R0 ≥ 100 then 0 else R0) else 0)+(if k ≥ 2 then (if R1 ≥ 100 then 0 else R1) else 0),(k:Int),p,chan A k0 k1 op,[k0,k1],(no,hv,l,r),C)) ?_ ?_ (by omega),yb]
  ·dsimp only
   have hfe:=ZIF hst.r0 hst.r1 hsl
   dsimp only at hfe
   have hci:=ZhA hst.r0 hst.r1 hsl
   dsimp only at hci
   unfold cost at hci hrb
   have hcA:(chan A k0 k1 op).2.1=A:=rfl
   rw [if_pos rfl,hCM2,hfe,yb, ←hSM,hown2,hcA]
   have hsum:(if R0 ≥ 100 then R0 else 0)+(if R1 ≥ 100 then R1 else 0)+660+amtC (shw l)+(H+(if R0 ≥ 100 then 0 else R0)+(if R1 ≥ 100 then 0 else R1))+r*(68+8*((shw l).length:Int))=A:=by
    split <;> split <;> omega
   have hfb:0≤r*(68+8*((shw l).length:Int))∧r*(68+8*((shw l).length:Int))≤2032:=by omega
   rw [Zx (z:=(if R0 ≥ 100 then R0 else 0)+(if R1 ≥ 100 then R1 else 0)+660+amtC (shw l)+(H+(if R0 ≥ 100 then 0 else R0)+(if R1 ≥ 100 then 0 else R1))) (by omega) (by omega),hsum,Zx (by omega) (by omega),if_pos (beq_self_eq_true _),decide_eq_true]
   have:=ZhB l
   omega
  ·intro k hk
   unfold YC
   dsimp only
   rw [if_pos (decide_eq_true (by omega)),hT,hd,ZC (by omega)]
   match k,hk with
   |0,_=>
    rw [show ((0:Nat):Int)=0 from rfl,g0,yb,if_neg (by rw [decide_eq_true_iff];omega),if_pos (Xi hown),yb,ZsK,yb]
    by_cases h100:R0 ≥ 100
    ·rw [decide_eq_true h100,if_neg (by decide)]
     simp [h100]
    ·rw [decide_eq_false h100,if_pos (by decide),Zx (by simp;omega) (by simp;omega)]
     simp [h100]
   |1,_=>
    rw [show ((1:Nat):Int)=1 from rfl,g1,yb,if_neg (by rw [decide_eq_true_iff];omega),if_pos (Xi hown),yb,ZsK,yb]
    by_cases h100:R1 ≥ 100
    ·rw [decide_eq_true h100,if_neg (by decide)]
     simp [h100]
    ·rw [decide_eq_false h100,if_pos (by decide),Zx (by simp;split <;> omega) (by simp;split <;> omega)]
     simp [h100]
  ·unfold YC
   dsimp only
   rw [if_neg (by rw [decide_eq_true_iff];omega)]
   rfl
 ·intro k hk
  obtain ⟨e,he,hm⟩:=Zs hk
  have hk1:=hb k
  have hk2:=hb (k+1)
  rw [Zno _ he] at hk2
  unfold YB
  dsimp only
  rw [if_pos (Xj hk),if_pos (Xi hown),hT,hd,yb,ZD he,yb,ZsK,yb,yb,Zno _ he,ZC (by omega)]
  by_cases h100:e.2.2.1 ≥ 100
  ·rw [decide_eq_true h100,if_neg (by decide)]
   simp [h100]
  ·have:=(hcs e hm).2.2.2.1
   rw [decide_eq_false h100,if_pos (by decide),Zx (by omega) (by omega)]
   simp [h100]
 ·unfold YB
  dsimp only
  rw [if_neg (by rw [Yy];decide),ybb]
end Go.Proofs.YtjbbdlffilcaaaaGreat
end
