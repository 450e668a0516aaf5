/- Parts of the proof, in one file. -/
import Derived.Test.YtehgcchjaamddaaGreatKe
section
set_option linter.unusedVariables false
set_option maxRecDepth 4000
namespace Go.Proofs.YtehgcchjaamddaaGreat
open Go Go.Ev
noncomputable section
def tower_Tower_CountM (F : Nat) (s0_0 : Int) (s0_1 : Int) (s0_2 : Unit) (s1 : (List Packet)) : Option ((Int × Int × Int × Unit × (List Packet))) :=
 some ((s1.length : Int), s0_0, s0_1, s0_2, s1)
def tower_Tower_Count_sF (F : Nat) : Fs Tryz.prog := ⟨26, [.ref 0 []], [.var (.agg [.v (.int .i64), .v (.int .i64), .own 1 yPacket, .iface 69 (.v (.st []))]) true, .log yPacket 36], [(.int .i64), (.int .i64), (.st []), (.sl yPacket)], [⟨.ret, [(0, .v (.int .i64))], [.var (.agg [.v (.int .i64), .v (.int .i64), .own 1 yPacket, .iface 69 (.v (.st []))]) true, .log yPacket 36], [(.int .i64), (.int .i64), (.int .i64), (.st []), (.sl yPacket)]⟩], fun x => tower_Tower_CountM F x.1 x.2.1 x.2.2.1 x.2.2.2⟩
def tower_Tower_Count_s : Fs Tryz.prog := tower_Tower_Count_sF fuel
theorem tower_Tower_Count_ok : tower_Tower_Count_s.Ok := fn_ok (fi := { hi := { still := [2] }, lp := [] }) (specs := { l := [] }) (okS trivial) trivial (by decide +kernel) (fun x => by kernel_rfl)
def bytes_EqualM (F : Nat) (a0 : (List UInt8)) (a1 : (List UInt8)) : Option (Bool) :=
 let y412 : Bool := (bytesOf a0).data.toList == (bytesOf a1).data.toList
 some y412
def bytes_Equal_sF (F : Nat) : Fs Tryz.prog := ⟨48, [.v (.sl .u8), .v (.sl .u8)], [], [(.sl .u8), (.sl .u8)], [⟨.ret, [(0, .v .bool)], [], [.bool]⟩], fun x => bytes_EqualM F x.1 x.2⟩
def bytes_Equal_s : Fs Tryz.prog := bytes_Equal_sF fuel
theorem bytes_Equal_ok : bytes_Equal_s.Ok := fn_ok (fi := { hi := { still := [4] }, lp := [] }) (specs := { l := [] }) (okS trivial) trivial (by decide +kernel) (fun x => by kernel_rfl)
def tower_Tower_Hold_1M (F : Nat) (a0 : Packet) (s0 : Packet) : Option ((Bool × Packet)) :=
 if (decide (a0.1 = s0.1)) = true then
  (bytes_EqualM F a0.2 s0.2).bind fun o413 =>
  some (o413, s0)
 else
 some (false, s0)
def tower_Tower_Hold_1_sF (F : Nat) : Fs Tryz.prog := ⟨47, [.v yPacket, .ref 0 []], [.var (.v yPacket) true], [yPacket, yPacket], [⟨.ret, [(0, .v .bool)], [.var (.v yPacket) true], [.bool, yPacket]⟩], fun x => tower_Tower_Hold_1M F x.1 x.2⟩
def tower_Tower_Hold_1_s : Fs Tryz.prog := tower_Tower_Hold_1_sF fuel
theorem tower_Tower_Hold_1_ok : tower_Tower_Hold_1_s.Ok := fn_ok (fi := { hi := { still := [3, 11, 13] }, lp := [] }) (specs := { l := [bytes_Equal_s] }) (okS ⟨bytes_Equal_ok, trivial⟩) trivial (by decide +kernel) (fun x => by kernel_rfl)
def api_Packet_93_L0S (F : Nat) (s : ((List Packet) × Int × Int × Packet)) : Option (((List Packet) × Int × Int × Packet) ⊕ ((Int × Packet) ⊕ Packet)) :=
 if (decide (s.2.2.1 < s.2.1)) = true then
  (idx s.1 s.2.2.1).bind fun e411 =>
  (tower_Tower_Hold_1M F e411 s.2.2.2).bind fun o414 =>
  if o414.1 = true then
   some (.inr (.inl (s.2.2.1, o414.2)))
  else
  some (.inl (s.1, s.2.1, wi (s.2.2.1 + 1), o414.2))
 else
 some (.inr (.inr s.2.2.2))
def api_Packet_93_L0 : Lp := ⟨[(0, .v (.sl yPacket)), (1, .fn 47 [.ref 0 []]), (7, .v (.int .i64)), (8, .v (.int .i64))], [.var (.v yPacket) true], [(.sl yPacket), (.int .i64), (.int .i64), yPacket], [⟨.ret, [(4, .v (.int .i64))], [.var (.v yPacket) true], [(.int .i64), yPacket]⟩, ⟨.exit 0, [], [.var (.v yPacket) true], [yPacket]⟩], loopN (api_Packet_93_L0S fuel) fuel⟩
theorem api_Packet_93_L0_ok : api_Packet_93_L0.Ok Tryz.prog (tmpsOf Tryz.prog 93) (bodyAt Tryz.prog 93 0) := loop_ok (fi := { hi := { still := [4, 15] }, lp := [] }) (specs := { l := [tower_Tower_Hold_1_s] }) (okS ⟨tower_Tower_Hold_1_ok, trivial⟩) trivial (by kernel_rfl) (fun v => by kernel_rfl)
def api_Packet_93M (F : Nat) (a0 : (List Packet)) (s0 : Packet) : Option ((Int × Packet)) :=
 (loopN (api_Packet_93_L0S F) F (a0, (a0.length : Int), (0 : Int), s0)).bind fun o415 =>
 match o415 with
 | .inl o416 =>
  some (o416.1, o416.2)
 | .inr o417 =>
  some ((-1 : Int), o417)
def api_Packet_93_sF (F : Nat) : Fs Tryz.prog := ⟨93, [.v (.sl yPacket), .fn 47 [.ref 0 []]], [.var (.v yPacket) true], [(.sl yPacket), yPacket], [⟨.ret, [(0, .v (.int .i64))], [.var (.v yPacket) true], [(.int .i64), yPacket]⟩], fun x => api_Packet_93M F x.1 x.2⟩
def api_Packet_93_s : Fs Tryz.prog := api_Packet_93_sF fuel
theorem api_Packet_93_ok : api_Packet_93_s.Ok := fn_ok (fi := { hi := { still := [4, 15] }, lp := [(0, api_Packet_93_L0)] }) (specs := { l := [] }) (okS trivial) ⟨api_Packet_93_L0_ok, trivial⟩ (by decide +kernel) (fun x => by kernel_rfl)
def api_Packet_46M (F : Nat) (a0 : (List Packet)) (s0 : Packet) : Option ((Bool × Packet)) :=
 (api_Packet_93M F a0 s0).bind fun o418 =>
 some (decide (o418.1 ≥ 0), o418.2)
def api_Packet_46_sF (F : Nat) : Fs Tryz.prog := ⟨46, [.v (.sl yPacket), .fn 47 [.ref 0 []]], [.var (.v yPacket) true], [(.sl yPacket), yPacket], [⟨.ret, [(0, .v .bool)], [.var (.v yPacket) true], [.bool, yPacket]⟩], fun x => api_Packet_46M F x.1 x.2⟩
def api_Packet_46_s : Fs Tryz.prog := api_Packet_46_sF fuel
theorem api_Packet_46_ok : api_Packet_46_s.Ok := fn_ok (fi := { hi := { still := [4, 5, 6] }, lp := [] }) (specs := { l := [api_Packet_93_s] }) (okS ⟨api_Packet_93_ok, trivial⟩) trivial (by decide +kernel) (fun x => by kernel_rfl)
def tower_Tower_HoldM (F : Nat) (a1 : Packet) (a2 : Int) (s0_0 : Int) (s0_1 : Int) (s0_2 : Unit) (s1 : (List Packet)) : Option ((Int × Int × Int × Unit × (List Packet))) :=
 if ((a1.2.length : Int) == 0) = true then
  some ((2 : Int), s0_0, s0_1, s0_2, s1)
 else
 if (decide ((a1.2.length : Int) > 8192)) = true then
  some ((2 : Int), s0_0, s0_1, s0_2, s1)
 else
 if (decide (a2 < s0_0)) = true then
  some ((8 : Int), s0_0, s0_1, s0_2, s1)
 else
 (api_Packet_46M F s1 a1).bind fun o419 =>
 if o419.1 = true then
  some ((4 : Int), s0_0, s0_1, s0_2, s1)
 else
 if (decide ((s1.length : Int) ≥ s0_1)) = true then
  some ((3 : Int), s0_0, s0_1, s0_2, s1)
 else
 (bytes_CloneM F o419.2.2).bind fun o420 =>
 if (apB s1.length 1 40) = true then
  some ((0 : Int), s0_0, s0_1, s0_2, s1 ++ ([(o419.2.1, o420)] : List Packet))
 else
 none
def tower_Tower_Hold_sF (F : Nat) : Fs Tryz.prog := ⟨24, [.ref 0 [], .v yPacket, .v (.int .i64)], [.var (.agg [.v (.int .i64), .v (.int .i64), .own 1 yPacket, .iface 69 (.v (.st []))]) true, .log yPacket 36], [yPacket, (.int .i64), (.int .i64), (.int .i64), (.st []), (.sl yPacket)], [⟨.ret, [(0, .v (.int .i64))], [.var (.agg [.v (.int .i64), .v (.int .i64), .own 1 yPacket, .iface 69 (.v (.st []))]) true, .log yPacket 36], [(.int .i64), (.int .i64), (.int .i64), (.st []), (.sl yPacket)]⟩], fun x => tower_Tower_HoldM F x.1 x.2.1 x.2.2.1 x.2.2.2.1 x.2.2.2.2.1 x.2.2.2.2.2⟩
def tower_Tower_Hold_s : Fs Tryz.prog := tower_Tower_Hold_sF fuel
theorem tower_Tower_Hold_ok : tower_Tower_Hold_s.Ok := fn_ok (fi := { hi := { own := [47, 55], still := [6, 29, 30, 51] }, lp := [] }) (specs := { l := [api_Packet_46_s, bytes_Clone_c_s] }) (okS ⟨api_Packet_46_ok, bytes_Clone_c_ok, trivial⟩) trivial (by decide +kernel) (fun x => by kernel_rfl)
theorem meth69_160 : Meth Tryz.prog 69 "corsned/tower.prove" 160 := fun v args w => by kernel_rfl
def tower_honest_prove_L0S (F : Nat) (s : (Int × Int × Int × Int × Unit × (List Packet) × Unit × (List UInt8) × (List UInt8) × (List UInt8) × (List UInt8))) : Option ((Int × Int × Int × Int × Unit × (List Packet) × Unit × (List UInt8) × (List UInt8) × (List UInt8) × (List UInt8)) ⊕ ((Bool × Int × Int × Unit × (List Packet) × Unit × (List UInt8) × (List UInt8) × (List UInt8) × (List UInt8)) ⊕ (Int × Int × Unit × (List Packet) × Unit × (List UInt8) × (List UInt8) × (List UInt8) × (List UInt8)))) :=
 if (decide (s.2.1 < s.1)) = true then
  (idx s.2.2.2.2.2.1 s.2.1).bind fun e425 =>
  if (decide (e425.1 = s.2.2.2.2.2.2.2.2.1)) = true then
   (hash_SumM F e425.2).bind fun o426 =>
   if (decide (o426 = s.2.2.2.2.2.2.2.2.2.1)) = true then
    (tower_ProofM F s.2.2.2.2.2.2.2.1 e425).bind fun o427 =>
    some (.inr (.inl (true, s.2.2.1, s.2.2.2.1, s.2.2.2.2.1, s.2.2.2.2.2.1, s.2.2.2.2.2.2.1, s.2.2.2.2.2.2.2.1, s.2.2.2.2.2.2.2.2.1, s.2.2.2.2.2.2.2.2.2.1, o427)))
   else
   some (.inl (s.1, wi (s.2.1 + 1), s.2.2.1, s.2.2.2.1, s.2.2.2.2.1, s.2.2.2.2.2.1, s.2.2.2.2.2.2.1, s.2.2.2.2.2.2.2.1, s.2.2.2.2.2.2.2.2.1, s.2.2.2.2.2.2.2.2.2.1, s.2.2.2.2.2.2.2.2.2.2))
  else
  some (.inl (s.1, wi (s.2.1 + 1), s.2.2.1, s.2.2.2.1, s.2.2.2.2.1, s.2.2.2.2.2.1, s.2.2.2.2.2.2.1, s.2.2.2.2.2.2.2.1, s.2.2.2.2.2.2.2.2.1, s.2.2.2.2.2.2.2.2.2.1, s.2.2.2.2.2.2.2.2.2.2))
 else
 some (.inr (.inr (s.2.2.1, s.2.2.2.1, s.2.2.2.2.1, s.2.2.2.2.2.1, s.2.2.2.2.2.2.1, s.2.2.2.2.2.2.2.1, s.2.2.2.2.2.2.2.2.1, s.2.2.2.2.2.2.2.2.2.1, s.2.2.2.2.2.2.2.2.2.2)))
def tower_honest_prove_L0 : Lp := ⟨[(7, .ref 3 []), (8, .ref 4 []), (9, .ref 5 []), (10, .ref 6 []), (17, .own 1 yPacket), (18, .v (.int .i64)), (19, .v (.int .i64))], [.var (.agg [.v (.int .i64), .v (.int .i64), .own 1 yPacket, .iface 69 (.v (.st []))]) true, .log yPacket 36, .var (.v (.st [])) true, .var (.v (.arr 32 .u8)) true, .var (.v (.arr 16 .u8)) true, .var (.v (.arr 32 .u8)) true, .var (.v (.arr 32 .u8)) true], [(.int .i64), (.int .i64), (.int .i64), (.int .i64), (.st []), (.sl yPacket), (.st []), (.arr 32 .u8), (.arr 16 .u8), (.arr 32 .u8), (.arr 32 .u8)], [⟨.ret, [(10, .ref 6 []), (11, .v .bool)], [.var (.agg [.v (.int .i64), .v (.int .i64), .own 1 yPacket, .iface 69 (.v (.st []))]) true, .log yPacket 36, .var (.v (.st [])) true, .var (.v (.arr 32 .u8)) true, .var (.v (.arr 16 .u8)) true, .var (.v (.arr 32 .u8)) true, .var (.v (.arr 32 .u8)) true], [.bool, (.int .i64), (.int .i64), (.st []), (.sl yPacket), (.st []), (.arr 32 .u8), (.arr 16 .u8), (.arr 32 .u8), (.arr 32 .u8)]⟩, ⟨.exit 0, [(10, .ref 6 [])], [.var (.agg [.v (.int .i64), .v (.int .i64), .own 1 yPacket, .iface 69 (.v (.st []))]) true, .log yPacket 36, .var (.v (.st [])) true, .var (.v (.arr 32 .u8)) true, .var (.v (.arr 16 .u8)) true, .var (.v (.arr 32 .u8)) true, .var (.v (.arr 32 .u8)) true], [(.int .i64), (.int .i64), (.st []), (.sl yPacket), (.st []), (.arr 32 .u8), (.arr 16 .u8), (.arr 32 .u8), (.arr 32 .u8)]⟩], loopN (tower_honest_prove_L0S fuel) fuel⟩
theorem tower_honest_prove_L0_ok : tower_honest_prove_L0.Ok Tryz.prog (tmpsOf Tryz.prog 160) (bodyAt Tryz.prog 160 0) := loop_ok (fi := { hi := { still := [11, 29, 34, 35] }, lp := [] }) (specs := { l := [hash_Sum_s, tower_Proof_s] }) (okS ⟨hash_Sum_ok, tower_Proof_ok, trivial⟩) trivial (by kernel_rfl) (fun v => by kernel_rfl)
def tower_honest_proveM (F : Nat) (a0 : Unit) (a2 : (List UInt8)) (a3 : (List UInt8)) (a4 : (List UInt8)) (s0_0 : Int) (s0_1 : Int) (s0_2 : Unit) (s1 : (List Packet)) : Option (((List UInt8) × Bool × Int × Int × Unit × (List Packet))) :=
 (loopN (tower_honest_prove_L0S F) F ((s1.length : Int), (0 : Int), s0_0, s0_1, s0_2, s1, a0, a2, a3, a4, ([0, 0, 0, 0, 0, 0, 0, 0, 0, 0, 0, 0, 0, 0, 0, 0, 0, 0, 0, 0, 0, 0, 0, 0, 0, 0, 0, 0, 0, 0, 0, 0] : List UInt8))).bind fun o428 =>
 match o428 with
 | .inl o429 =>
  some (o429.2.2.2.2.2.2.2.2.2, o429.1, o429.2.1, o429.2.2.1, o429.2.2.2.1, o429.2.2.2.2.1)
 | .inr o430 =>
  some (([0, 0, 0, 0, 0, 0, 0, 0, 0, 0, 0, 0, 0, 0, 0, 0, 0, 0, 0, 0, 0, 0, 0, 0, 0, 0, 0, 0, 0, 0, 0, 0] : List UInt8), false, o430.1, o430.2.1, o430.2.2.1, o430.2.2.2.1)
def tower_honest_prove_sF (F : Nat) : Fs Tryz.prog := ⟨160, [.v (.st []), .ref 0 [], .v (.arr 32 .u8), .v (.arr 16 .u8), .v (.arr 32 .u8)], [.var (.agg [.v (.int .i64), .v (.int .i64), .own 1 yPacket, .iface 69 (.v (.st []))]) true, .log yPacket 36], [(.st []), (.arr 32 .u8), (.arr 16 .u8), (.arr 32 .u8), (.int .i64), (.int .i64), (.st []), (.sl yPacket)], [⟨.ret, [(0, .tup [.v (.arr 32 .u8), .v .bool])], [.var (.agg [.v (.int .i64), .v (.int .i64), .own 1 yPacket, .iface 69 (.v (.st []))]) true, .log yPacket 36], [(.arr 32 .u8), .bool, (.int .i64), (.int .i64), (.st []), (.sl yPacket)]⟩], fun x => tower_honest_proveM F x.1 x.2.1 x.2.2.1 x.2.2.2.1 x.2.2.2.2.1 x.2.2.2.2.2.1 x.2.2.2.2.2.2.1 x.2.2.2.2.2.2.2⟩
def tower_honest_prove_s : Fs Tryz.prog := tower_honest_prove_sF fuel
theorem tower_honest_prove_ok : tower_honest_prove_s.Ok := fn_ok (fi := { hi := { still := [11, 29, 34, 35] }, lp := [(0, tower_honest_prove_L0)] }) (specs := { l := [] }) (okS trivial) ⟨tower_honest_prove_L0_ok, trivial⟩ (by decide +kernel) (fun x => by kernel_rfl)
def tower_Tower_ProveM (F : Nat) (a1 : (List UInt8)) (a2 : (List UInt8)) (a3 : (List UInt8)) (s0_0 : Int) (s0_1 : Int) (s0_2 : Unit) (s1 : (List Packet)) : Option (((List UInt8) × Bool × Int × Int × Unit × (List Packet))) :=
 (tower_honest_proveM F s0_2 a1 a2 a3 s0_0 s0_1 s0_2 s1).bind fun o431 =>
 some (o431.1, o431.2.1, o431.2.2.1, o431.2.2.2.1, o431.2.2.2.2.1, o431.2.2.2.2.2)
def tower_Tower_Prove_sF (F : Nat) : Fs Tryz.prog := ⟨22, [.ref 0 [], .v (.arr 32 .u8), .v (.arr 16 .u8), .v (.arr 32 .u8)], [.var (.agg [.v (.int .i64), .v (.int .i64), .own 1 yPacket, .iface 69 (.v (.st []))]) true, .log yPacket 36], [(.arr 32 .u8), (.arr 16 .u8), (.arr 32 .u8), (.int .i64), (.int .i64), (.st []), (.sl yPacket)], [⟨.ret, [(0, .tup [.v (.arr 32 .u8), .v .bool])], [.var (.agg [.v (.int .i64), .v (.int .i64), .own 1 yPacket, .iface 69 (.v (.st []))]) true, .log yPacket 36], [(.arr 32 .u8), .bool, (.int .i64), (.int .i64), (.st []), (.sl yPacket)]⟩], fun x => tower_Tower_ProveM F x.1 x.2.1 x.2.2.1 x.2.2.2.1 x.2.2.2.2.1 x.2.2.2.2.2.1 x.2.2.2.2.2.2⟩
def tower_Tower_Prove_s : Fs Tryz.prog := tower_Tower_Prove_sF fuel
theorem tower_Tower_Prove_ok : tower_Tower_Prove_s.Ok := fn_ok (fi := { hi := { still := [9] }, lp := [] }) (specs := { l := [tower_honest_prove_s], mt := [(69, "corsned/tower.prove", 160)] }) (okM ⟨tower_honest_prove_ok, trivial⟩ ⟨meth69_160, trivial⟩) trivial (by decide +kernel) (fun x => by kernel_rfl)
def corsnedlaw42_TowerKeeps_L0S (F : Nat) (s : (Int × Int × (List Corsnedlaw42Act) × Bool × Int × Int × Int × Unit × (List Packet) × (List Packet))) : Option ((Int × Int × (List Corsnedlaw42Act) × Bool × Int × Int × Int × Unit × (List Packet) × (List Packet)) ⊕ ((Bool × Int × Int × Unit × (List Packet) × (List Packet)) ⊕ (Int × Bool × Int × Int × Unit × (List Packet) × (List Packet)))) :=
 if (decide (s.2.2.2.2.1 < (s.2.2.1.length : Int))) = true then
  (tower_Tower_CountM F s.2.2.2.2.2.1 s.2.2.2.2.2.2.1 s.2.2.2.2.2.2.2.1 s.2.2.2.2.2.2.2.2.1).bind fun o407 =>
  (idx s.2.2.1 s.2.2.2.2.1).bind fun e408 =>
  (corsnedlaw42_unlikeM F s.2.2.2.2.2.2.2.2.2 e408.2.1).bind fun o409 =>
  if (!o409) = true then
   some (.inr (.inl (s.2.2.2.1, o407.2.1, o407.2.2.1, o407.2.2.2.1, o407.2.2.2.2, s.2.2.2.2.2.2.2.2.2)))
  else
  if (apB s.2.2.2.2.2.2.2.2.2.length 1 40) = true then
   let y410 : (List Packet) := s.2.2.2.2.2.2.2.2.2 ++ ([e408.2.1] : List Packet)
   (tower_Tower_HoldM F e408.2.1 e408.2.2.1 o407.2.1 o407.2.2.1 o407.2.2.2.1 o407.2.2.2.2).bind fun o421 =>
   if (o421.1 == 0) = true then
    if (decide (e408.2.2.1 < s.1)) = true then
     some (.inr (.inl (false, o421.2.1, o421.2.2.1, o421.2.2.2.1, o421.2.2.2.2, y410)))
    else
    if (decide (o407.1 ≥ s.2.1)) = true then
     some (.inr (.inl (false, o421.2.1, o421.2.2.1, o421.2.2.2.1, o421.2.2.2.2, y410)))
    else
    (tower_Tower_CountM F o421.2.1 o421.2.2.1 o421.2.2.2.1 o421.2.2.2.2).bind fun o422 =>
    if (o422.1 != (wi (o407.1 + 1))) = true then
     some (.inr (.inl (false, o422.2.1, o422.2.2.1, o422.2.2.2.1, o422.2.2.2.2, y410)))
    else
    if ((e408.2.1.2.length : Int) == 0) = true then
     some (.inr (.inl (false, o422.2.1, o422.2.2.1, o422.2.2.2.1, o422.2.2.2.2, y410)))
    else
    if (o421.1 != 0) = true then
     (tower_Tower_CountM F o422.2.1 o422.2.2.1 o422.2.2.2.1 o422.2.2.2.2).bind fun o423 =>
     if (o423.1 != o407.1) = true then
      some (.inr (.inl (false, o423.2.1, o423.2.2.1, o423.2.2.2.1, o423.2.2.2.2, y410)))
     else
     (hash_SumM F e408.2.1.2).bind fun o424 =>
     (tower_Tower_ProveM F e408.2.2.2.2.2.1 e408.2.1.1 o424 o423.2.1 o423.2.2.1 o423.2.2.2.1 o423.2.2.2.2).bind fun o432 =>
     if (o421.1 == 0) = true then
      if (!o432.2.1) = true then
       some (.inr (.inl (false, o432.2.2.1, o432.2.2.2.1, o432.2.2.2.2.1, o432.2.2.2.2.2, y410)))
      else
      (tower_ProofM F e408.2.2.2.2.2.1 e408.2.1).bind fun o433 =>
      if (!(decide (o432.1 = o433))) = true then
       some (.inr (.inl (false, o432.2.2.1, o432.2.2.2.1, o432.2.2.2.2.1, o432.2.2.2.2.2, y410)))
      else
      (tower_Tower_HoldM F e408.2.1 s.1 o432.2.2.1 o432.2.2.2.1 o432.2.2.2.2.1 o432.2.2.2.2.2).bind fun o434 =>
      if o432.2.1 = true then
       if (o434.1 != 4) = true then
        if (o434.1 != 2) = true then
         some (.inr (.inl (false, o434.2.1, o434.2.2.1, o434.2.2.2.1, o434.2.2.2.2, y410)))
        else
        (tower_Tower_CountM F o434.2.1 o434.2.2.1 o434.2.2.2.1 o434.2.2.2.2).bind fun o435 =>
        if (decide (o435.1 > (wi (o407.1 + 1)))) = true then
         some (.inr (.inl (false, o435.2.1, o435.2.2.1, o435.2.2.2.1, o435.2.2.2.2, y410)))
        else
        some (.inl (s.1, s.2.1, s.2.2.1, s.2.2.2.1, wi (s.2.2.2.2.1 + 1), o435.2.1, o435.2.2.1, o435.2.2.2.1, o435.2.2.2.2, y410))
       else
       (tower_Tower_CountM F o434.2.1 o434.2.2.1 o434.2.2.2.1 o434.2.2.2.2).bind fun o436 =>
       if (decide (o436.1 > (wi (o407.1 + 1)))) = true then
        some (.inr (.inl (false, o436.2.1, o436.2.2.1, o436.2.2.2.1, o436.2.2.2.2, y410)))
       else
       some (.inl (s.1, s.2.1, s.2.2.1, s.2.2.2.1, wi (s.2.2.2.2.1 + 1), o436.2.1, o436.2.2.1, o436.2.2.2.1, o436.2.2.2.2, y410))
      else
      some (.inl (s.1, s.2.1, s.2.2.1, s.2.2.2.1, wi (s.2.2.2.2.1 + 1), o434.2.1, o434.2.2.1, o434.2.2.2.1, o434.2.2.2.2, y410))
     else
     (tower_Tower_HoldM F e408.2.1 s.1 o432.2.2.1 o432.2.2.2.1 o432.2.2.2.2.1 o432.2.2.2.2.2).bind fun o437 =>
     if o432.2.1 = true then
      if (o437.1 != 4) = true then
       if (o437.1 != 2) = true then
        some (.inr (.inl (false, o437.2.1, o437.2.2.1, o437.2.2.2.1, o437.2.2.2.2, y410)))
       else
       (tower_Tower_CountM F o437.2.1 o437.2.2.1 o437.2.2.2.1 o437.2.2.2.2).bind fun o438 =>
       if (decide (o438.1 > (wi (o407.1 + 1)))) = true then
        some (.inr (.inl (false, o438.2.1, o438.2.2.1, o438.2.2.2.1, o438.2.2.2.2, y410)))
       else
       some (.inl (s.1, s.2.1, s.2.2.1, s.2.2.2.1, wi (s.2.2.2.2.1 + 1), o438.2.1, o438.2.2.1, o438.2.2.2.1, o438.2.2.2.2, y410))
      else
      (tower_Tower_CountM F o437.2.1 o437.2.2.1 o437.2.2.2.1 o437.2.2.2.2).bind fun o439 =>
      if (decide (o439.1 > (wi (o407.1 + 1)))) = true then
       some (.inr (.inl (false, o439.2.1, o439.2.2.1, o439.2.2.2.1, o439.2.2.2.2, y410)))
      else
      some (.inl (s.1, s.2.1, s.2.2.1, s.2.2.2.1, wi (s.2.2.2.2.1 + 1), o439.2.1, o439.2.2.1, o439.2.2.2.1, o439.2.2.2.2, y410))
     else
     some (.inl (s.1, s.2.1, s.2.2.1, s.2.2.2.1, wi (s.2.2.2.2.1 + 1), o437.2.1, o437.2.2.1, o437.2.2.2.1, o437.2.2.2.2, y410))
    else
    (hash_SumM F e408.2.1.2).bind fun o440 =>
    (tower_Tower_ProveM F e408.2.2.2.2.2.1 e408.2.1.1 o440 o422.2.1 o422.2.2.1 o422.2.2.2.1 o422.2.2.2.2).bind fun o441 =>
    if (o421.1 == 0) = true then
     if (!o441.2.1) = true then
      some (.inr (.inl (false, o441.2.2.1, o441.2.2.2.1, o441.2.2.2.2.1, o441.2.2.2.2.2, y410)))
     else
     (tower_ProofM F e408.2.2.2.2.2.1 e408.2.1).bind fun o442 =>
     if (!(decide (o441.1 = o442))) = true then
      some (.inr (.inl (false, o441.2.2.1, o441.2.2.2.1, o441.2.2.2.2.1, o441.2.2.2.2.2, y410)))
     else
     (tower_Tower_HoldM F e408.2.1 s.1 o441.2.2.1 o441.2.2.2.1 o441.2.2.2.2.1 o441.2.2.2.2.2).bind fun o443 =>
     if o441.2.1 = true then
      if (o443.1 != 4) = true then
       if (o443.1 != 2) = true then
        some (.inr (.inl (false, o443.2.1, o443.2.2.1, o443.2.2.2.1, o443.2.2.2.2, y410)))
       else
       (tower_Tower_CountM F o443.2.1 o443.2.2.1 o443.2.2.2.1 o443.2.2.2.2).bind fun o444 =>
       if (decide (o444.1 > (wi (o407.1 + 1)))) = true then
        some (.inr (.inl (false, o444.2.1, o444.2.2.1, o444.2.2.2.1, o444.2.2.2.2, y410)))
       else
       some (.inl (s.1, s.2.1, s.2.2.1, s.2.2.2.1, wi (s.2.2.2.2.1 + 1), o444.2.1, o444.2.2.1, o444.2.2.2.1, o444.2.2.2.2, y410))
      else
      (tower_Tower_CountM F o443.2.1 o443.2.2.1 o443.2.2.2.1 o443.2.2.2.2).bind fun o445 =>
      if (decide (o445.1 > (wi (o407.1 + 1)))) = true then
       some (.inr (.inl (false, o445.2.1, o445.2.2.1, o445.2.2.2.1, o445.2.2.2.2, y410)))
      else
      some (.inl (s.1, s.2.1, s.2.2.1, s.2.2.2.1, wi (s.2.2.2.2.1 + 1), o445.2.1, o445.2.2.1, o445.2.2.2.1, o445.2.2.2.2, y410))
     else
     some (.inl (s.1, s.2.1, s.2.2.1, s.2.2.2.1, wi (s.2.2.2.2.1 + 1), o443.2.1, o443.2.2.1, o443.2.2.2.1, o443.2.2.2.2, y410))
    else
    (tower_Tower_HoldM F e408.2.1 s.1 o441.2.2.1 o441.2.2.2.1 o441.2.2.2.2.1 o441.2.2.2.2.2).bind fun o446 =>
    if o441.2.1 = true then
     if (o446.1 != 4) = true then
      if (o446.1 != 2) = true then
       some (.inr (.inl (false, o446.2.1, o446.2.2.1, o446.2.2.2.1, o446.2.2.2.2, y410)))
      else
      (tower_Tower_CountM F o446.2.1 o446.2.2.1 o446.2.2.2.1 o446.2.2.2.2).bind fun o447 =>
      if (decide (o447.1 > (wi (o407.1 + 1)))) = true then
       some (.inr (.inl (false, o447.2.1, o447.2.2.1, o447.2.2.2.1, o447.2.2.2.2, y410)))
      else
      some (.inl (s.1, s.2.1, s.2.2.1, s.2.2.2.1, wi (s.2.2.2.2.1 + 1), o447.2.1, o447.2.2.1, o447.2.2.2.1, o447.2.2.2.2, y410))
     else
     (tower_Tower_CountM F o446.2.1 o446.2.2.1 o446.2.2.2.1 o446.2.2.2.2).bind fun o448 =>
     if (decide (o448.1 > (wi (o407.1 + 1)))) = true then
      some (.inr (.inl (false, o448.2.1, o448.2.2.1, o448.2.2.2.1, o448.2.2.2.2, y410)))
     else
     some (.inl (s.1, s.2.1, s.2.2.1, s.2.2.2.1, wi (s.2.2.2.2.1 + 1), o448.2.1, o448.2.2.1, o448.2.2.2.1, o448.2.2.2.2, y410))
    else
    some (.inl (s.1, s.2.1, s.2.2.1, s.2.2.2.1, wi (s.2.2.2.2.1 + 1), o446.2.1, o446.2.2.1, o446.2.2.2.1, o446.2.2.2.2, y410))
   else
   if (o421.1 != 0) = true then
    (tower_Tower_CountM F o421.2.1 o421.2.2.1 o421.2.2.2.1 o421.2.2.2.2).bind fun o449 =>
    if (o449.1 != o407.1) = true then
     some (.inr (.inl (false, o449.2.1, o449.2.2.1, o449.2.2.2.1, o449.2.2.2.2, y410)))
    else
    (hash_SumM F e408.2.1.2).bind fun o450 =>
    (tower_Tower_ProveM F e408.2.2.2.2.2.1 e408.2.1.1 o450 o449.2.1 o449.2.2.1 o449.2.2.2.1 o449.2.2.2.2).bind fun o451 =>
    if (o421.1 == 0) = true then
     if (!o451.2.1) = true then
      some (.inr (.inl (false, o451.2.2.1, o451.2.2.2.1, o451.2.2.2.2.1, o451.2.2.2.2.2, y410)))
     else
     (tower_ProofM F e408.2.2.2.2.2.1 e408.2.1).bind fun o452 =>
     if (!(decide (o451.1 = o452))) = true then
      some (.inr (.inl (false, o451.2.2.1, o451.2.2.2.1, o451.2.2.2.2.1, o451.2.2.2.2.2, y410)))
     else
     (tower_Tower_HoldM F e408.2.1 s.1 o451.2.2.1 o451.2.2.2.1 o451.2.2.2.2.1 o451.2.2.2.2.2).bind fun o453 =>
     if o451.2.1 = true then
      if (o453.1 != 4) = true then
       if (o453.1 != 2) = true then
        some (.inr (.inl (false, o453.2.1, o453.2.2.1, o453.2.2.2.1, o453.2.2.2.2, y410)))
       else
       (tower_Tower_CountM F o453.2.1 o453.2.2.1 o453.2.2.2.1 o453.2.2.2.2).bind fun o454 =>
       if (decide (o454.1 > (wi (o407.1 + 1)))) = true then
        some (.inr (.inl (false, o454.2.1, o454.2.2.1, o454.2.2.2.1, o454.2.2.2.2, y410)))
       else
       some (.inl (s.1, s.2.1, s.2.2.1, s.2.2.2.1, wi (s.2.2.2.2.1 + 1), o454.2.1, o454.2.2.1, o454.2.2.2.1, o454.2.2.2.2, y410))
      else
      (tower_Tower_CountM F o453.2.1 o453.2.2.1 o453.2.2.2.1 o453.2.2.2.2).bind fun o455 =>
      if (decide (o455.1 > (wi (o407.1 + 1)))) = true then
       some (.inr (.inl (false, o455.2.1, o455.2.2.1, o455.2.2.2.1, o455.2.2.2.2, y410)))
      else
      some (.inl (s.1, s.2.1, s.2.2.1, s.2.2.2.1, wi (s.2.2.2.2.1 + 1), o455.2.1, o455.2.2.1, o455.2.2.2.1, o455.2.2.2.2, y410))
     else
     some (.inl (s.1, s.2.1, s.2.2.1, s.2.2.2.1, wi (s.2.2.2.2.1 + 1), o453.2.1, o453.2.2.1, o453.2.2.2.1, o453.2.2.2.2, y410))
    else
    (tower_Tower_HoldM F e408.2.1 s.1 o451.2.2.1 o451.2.2.2.1 o451.2.2.2.2.1 o451.2.2.2.2.2).bind fun o456 =>
    if o451.2.1 = true then
     if (o456.1 != 4) = true then
      if (o456.1 != 2) = true then
       some (.inr (.inl (false, o456.2.1, o456.2.2.1, o456.2.2.2.1, o456.2.2.2.2, y410)))
      else
      (tower_Tower_CountM F o456.2.1 o456.2.2.1 o456.2.2.2.1 o456.2.2.2.2).bind fun o457 =>
      if (decide (o457.1 > (wi (o407.1 + 1)))) = true then
       some (.inr (.inl (false, o457.2.1, o457.2.2.1, o457.2.2.2.1, o457.2.2.2.2, y410)))
      else
      some (.inl (s.1, s.2.1, s.2.2.1, s.2.2.2.1, wi (s.2.2.2.2.1 + 1), o457.2.1, o457.2.2.1, o457.2.2.2.1, o457.2.2.2.2, y410))
     else
     (tower_Tower_CountM F o456.2.1 o456.2.2.1 o456.2.2.2.1 o456.2.2.2.2).bind fun o458 =>
     if (decide (o458.1 > (wi (o407.1 + 1)))) = true then
      some (.inr (.inl (false, o458.2.1, o458.2.2.1, o458.2.2.2.1, o458.2.2.2.2, y410)))
     else
     some (.inl (s.1, s.2.1, s.2.2.1, s.2.2.2.1, wi (s.2.2.2.2.1 + 1), o458.2.1, o458.2.2.1, o458.2.2.2.1, o458.2.2.2.2, y410))
    else
    some (.inl (s.1, s.2.1, s.2.2.1, s.2.2.2.1, wi (s.2.2.2.2.1 + 1), o456.2.1, o456.2.2.1, o456.2.2.2.1, o456.2.2.2.2, y410))
   else
   (hash_SumM F e408.2.1.2).bind fun o459 =>
   (tower_Tower_ProveM F e408.2.2.2.2.2.1 e408.2.1.1 o459 o421.2.1 o421.2.2.1 o421.2.2.2.1 o421.2.2.2.2).bind fun o460 =>
   if (o421.1 == 0) = true then
    if (!o460.2.1) = true then
     some (.inr (.inl (false, o460.2.2.1, o460.2.2.2.1, o460.2.2.2.2.1, o460.2.2.2.2.2, y410)))
    else
    (tower_ProofM F e408.2.2.2.2.2.1 e408.2.1).bind fun o461 =>
    if (!(decide (o460.1 = o461))) = true then
     some (.inr (.inl (false, o460.2.2.1, o460.2.2.2.1, o460.2.2.2.2.1, o460.2.2.2.2.2, y410)))
    else
    (tower_Tower_HoldM F e408.2.1 s.1 o460.2.2.1 o460.2.2.2.1 o460.2.2.2.2.1 o460.2.2.2.2.2).bind fun o462 =>
    if o460.2.1 = true then
     if (o462.1 != 4) = true then
      if (o462.1 != 2) = true then
       some (.inr (.inl (false, o462.2.1, o462.2.2.1, o462.2.2.2.1, o462.2.2.2.2, y410)))
      else
      (tower_Tower_CountM F o462.2.1 o462.2.2.1 o462.2.2.2.1 o462.2.2.2.2).bind fun o463 =>
      if (decide (o463.1 > (wi (o407.1 + 1)))) = true then
       some (.inr (.inl (false, o463.2.1, o463.2.2.1, o463.2.2.2.1, o463.2.2.2.2, y410)))
      else
      some (.inl (s.1, s.2.1, s.2.2.1, s.2.2.2.1, wi (s.2.2.2.2.1 + 1), o463.2.1, o463.2.2.1, o463.2.2.2.1, o463.2.2.2.2, y410))
     else
     (tower_Tower_CountM F o462.2.1 o462.2.2.1 o462.2.2.2.1 o462.2.2.2.2).bind fun o464 =>
     if (decide (o464.1 > (wi (o407.1 + 1)))) = true then
      some (.inr (.inl (false, o464.2.1, o464.2.2.1, o464.2.2.2.1, o464.2.2.2.2, y410)))
     else
     some (.inl (s.1, s.2.1, s.2.2.1, s.2.2.2.1, wi (s.2.2.2.2.1 + 1), o464.2.1, o464.2.2.1, o464.2.2.2.1, o464.2.2.2.2, y410))
    else
    some (.inl (s.1, s.2.1, s.2.2.1, s.2.2.2.1, wi (s.2.2.2.2.1 + 1), o462.2.1, o462.2.2.1, o462.2.2.2.1, o462.2.2.2.2, y410))
   else
   (tower_Tower_HoldM F e408.2.1 s.1 o460.2.2.1 o460.2.2.2.1 o460.2.2.2.2.1 o460.2.2.2.2.2).bind fun o465 =>
   if o460.2.1 = true then
    if (o465.1 != 4) = true then
     if (o465.1 != 2) = true then
      some (.inr (.inl (false, o465.2.1, o465.2.2.1, o465.2.2.2.1, o465.2.2.2.2, y410)))
     else
     (tower_Tower_CountM F o465.2.1 o465.2.2.1 o465.2.2.2.1 o465.2.2.2.2).bind fun o466 =>
     if (decide (o466.1 > (wi (o407.1 + 1)))) = true then
      some (.inr (.inl (false, o466.2.1, o466.2.2.1, o466.2.2.2.1, o466.2.2.2.2, y410)))
     else
     some (.inl (s.1, s.2.1, s.2.2.1, s.2.2.2.1, wi (s.2.2.2.2.1 + 1), o466.2.1, o466.2.2.1, o466.2.2.2.1, o466.2.2.2.2, y410))
    else
    (tower_Tower_CountM F o465.2.1 o465.2.2.1 o465.2.2.2.1 o465.2.2.2.2).bind fun o467 =>
    if (decide (o467.1 > (wi (o407.1 + 1)))) = true then
     some (.inr (.inl (false, o467.2.1, o467.2.2.1, o467.2.2.2.1, o467.2.2.2.2, y410)))
    else
    some (.inl (s.1, s.2.1, s.2.2.1, s.2.2.2.1, wi (s.2.2.2.2.1 + 1), o467.2.1, o467.2.2.1, o467.2.2.2.1, o467.2.2.2.2, y410))
   else
   some (.inl (s.1, s.2.1, s.2.2.1, s.2.2.2.1, wi (s.2.2.2.2.1 + 1), o465.2.1, o465.2.2.1, o465.2.2.2.1, o465.2.2.2.2, y410))
  else
  none
 else
 some (.inr (.inr (s.2.1, s.2.2.2.1, s.2.2.2.2.2.1, s.2.2.2.2.2.2.1, s.2.2.2.2.2.2.2.1, s.2.2.2.2.2.2.2.2.1, s.2.2.2.2.2.2.2.2.2)))
def corsnedlaw42_TowerKeeps_L0 : Lp := ⟨[(0, .v (.int .i64)), (1, .v (.int .i64)), (2, .v (.sl yCorsnedlaw42Act)), (7, .v .bool), (9, .ref 0 []), (10, .own 2 yPacket), (11, .v (.int .i64))], [.var (.agg [.v (.int .i64), .v (.int .i64), .own 1 yPacket, .iface 69 (.v (.st []))]) true, .log yPacket 36, .log yPacket 36], [(.int .i64), (.int .i64), (.sl yCorsnedlaw42Act), .bool, (.int .i64), (.int .i64), (.int .i64), (.st []), (.sl yPacket), (.sl yPacket)], [⟨.ret, [(6, .v .bool)], [.var (.agg [.v (.int .i64), .v (.int .i64), .own 1 yPacket, .iface 69 (.v (.st []))]) true, .log yPacket 36, .log yPacket 36], [.bool, (.int .i64), (.int .i64), (.st []), (.sl yPacket), (.sl yPacket)]⟩, ⟨.exit 0, [(1, .v (.int .i64)), (7, .v .bool), (9, .ref 0 [])], [.var (.agg [.v (.int .i64), .v (.int .i64), .own 1 yPacket, .iface 69 (.v (.st []))]) true, .log yPacket 36, .log yPacket 36], [(.int .i64), .bool, (.int .i64), (.int .i64), (.st []), (.sl yPacket), (.sl yPacket)]⟩], loopN (corsnedlaw42_TowerKeeps_L0S fuel) fuel⟩
theorem corsnedlaw42_TowerKeeps_L0_ok : corsnedlaw42_TowerKeeps_L0.Ok Tryz.prog (tmpsOf Tryz.prog 5) (bodyAt Tryz.prog 5 0) := loop_ok (fi := { hi := { own := [10, 49, 53], still := [6, 19, 21, 22, 37, 43, 45, 54, 56, 58, 73, 91, 98, 100, 103, 106, 107, 119, 121, 126, 128, 129, 140, 149] }, lp := [] }) (specs := { l := [tower_Tower_Count_s, corsnedlaw42_unlike_s, tower_Tower_Hold_s, hash_Sum_s, tower_Tower_Prove_s, tower_Proof_s] }) (okS ⟨tower_Tower_Count_ok, corsnedlaw42_unlike_ok, tower_Tower_Hold_ok, hash_Sum_ok, tower_Tower_Prove_ok, tower_Proof_ok, trivial⟩) trivial (by kernel_rfl) (fun v => by kernel_rfl)
def corsnedlaw42_TowerKeepsM (F : Nat) (a0 : Int) (a1 : Int) (a2 : (List Corsnedlaw42Act)) : Option (Bool) :=
 ((some true)).bind fun o402 =>
 (corsnedlaw42_fewM F a2).bind fun o403 =>
 (tower_NewM F a0 a1).bind fun o404 =>
 match o404 with
 | .inl o405 =>
  if (!o403) = true then
   some o402
  else
  some o402
 | .inr o406 =>
  if (!o403) = true then
   some o402
  else
  (loopN (corsnedlaw42_TowerKeeps_L0S F) F (a0, a1, a2, o402, (0 : Int), o406.1, o406.2.1, o406.2.2.1, o406.2.2.2, ([] : List Packet))).bind fun o468 =>
  match o468 with
  | .inl o469 =>
   some o469.1
  | .inr o470 =>
   if o470.2.1 = true then
    (tower_Tower_CountM F o470.2.2.1 o470.2.2.2.1 o470.2.2.2.2.1 o470.2.2.2.2.2.1).bind fun o471 =>
    some (decide (o471.1 ≤ o470.1))
   else
   some false
def corsnedlaw42_TowerKeeps_sF (F : Nat) : Fs Tryz.prog := ⟨5, [.v (.int .i64), .v (.int .i64), .v (.sl yCorsnedlaw42Act)], [], [(.int .i64), (.int .i64), (.sl yCorsnedlaw42Act)], [⟨.ret, [(0, .v .bool)], [], [.bool]⟩], fun x => corsnedlaw42_TowerKeepsM F x.1 x.2.1 x.2.2⟩
def corsnedlaw42_TowerKeeps_s : Fs Tryz.prog := corsnedlaw42_TowerKeeps_sF fuel
theorem corsnedlaw42_TowerKeeps_ok : corsnedlaw42_TowerKeeps_s.Ok := fn_ok (fi := { hi := { own := [10, 49, 53], still := [6, 19, 21, 22, 37, 43, 45, 54, 56, 58, 73, 91, 98, 100, 103, 106, 107, 119, 121, 126, 128, 129, 140, 149] }, lp := [(0, corsnedlaw42_TowerKeeps_L0)] }) (specs := { l := [yes_s, corsnedlaw42_few_s, tower_New_s, tower_Tower_Count_s] }) (okS ⟨yes_ok, corsnedlaw42_few_ok, tower_New_ok, tower_Tower_Count_ok, trivial⟩) ⟨corsnedlaw42_TowerKeeps_L0_ok, trivial⟩ (by decide +kernel) (fun x => by kernel_rfl)
end
end Go.Proofs.YtehgcchjaamddaaGreat
end
section
set_option linter.unusedVariables false
set_option linter.unusedSimpArgs false
set_option maxRecDepth 4000
namespace Go.Proofs.YtehgcchjaamddaaGreat
open Go Go.Ev
theorem long_tot {n : Nat} {b : List UInt8} (h : b.length ≤ 1000000) : ∃ o, hash_long_v1M fuel (n : Int) b = some o ∧ o.length = b.length + 8 :=
  ⟨_, sh_long (by omega), by rw [List.length_append]; rfl⟩
theorem sum_tot {l : List UInt8} (h : l.length ≤ 900000) : ∃ o, hash_SumM fuel l = some o ∧ o.length = 32 := ⟨_, sum_sha (by omega), Sha.sha_len l⟩
theorem tag_tot {s : ByteArray} {ls : List (List UInt8)} (h1 : s.size ≤ 100) (h2 : ls.length ≤ 10) (h3 : ∀ l, l ∈ ls → l.length ≤ 10000) : ∃ o, hash_TagM fuel s ls = some o ∧ o.length = 32 := by
  unfold hash_TagM
  obtain ⟨o, p1, p2⟩ := long_tot (n := s.size) (b := []) (by simp)
  have hsl : (strL s).length = s.size := by
    unfold strL
    rw [Array.length_toList]
    rfl
  rw [p1, Option.bind_some, if_pos (apB_of (by rw [hsl, p2]; simp; omega) (by rw [hsl, p2]; simp; omega))]
  refine Exists.elim (loop_fuel (step := hash_Tag_L0S fuel) (fun x => x.1 = ls ∧ x.2.1 = (ls.length : Int) ∧ 0 ≤ x.2.2.1 ∧ x.2.2.1 ≤ (ls.length : Int) ∧ x.2.2.2.2.length ≤ 200 + 10100 * x.2.2.1.toNat) (fun x => ((ls.length : Int) - x.2.2.1).toNat) (fun x => x.2.length ≤ 200000) ?_ (ls, (ls.length : Int), (0 : Int), ([0, 0, 0, 0, 0, 0, 0, 0, 0, 0, 0, 0, 0, 0, 0, 0, 0, 0, 0, 0, 0, 0, 0, 0, 0, 0, 0, 0, 0, 0, 0, 0] : List UInt8), o ++ strL s) ⟨rfl, rfl, Int.le_refl _, by dsimp only; omega, by dsimp only; rw [List.length_append, p2, hsl]; simp; omega⟩ (by dsimp only; omega)) ?_
  rotate_left
  · rintro q ⟨q1, q2⟩
    rw [q1, Option.bind_some]
    obtain ⟨r, r1, r2⟩ := sum_tot (l := q.2) (by omega)
    rw [r1, Option.bind_some]
    exact ⟨_, rfl, r2⟩
  · rintro ⟨a, n, i, c, d⟩ ⟨k1, k2, k3, k4, k5⟩
    dsimp only at k1 k2 k3 k4 k5
    subst k1
    subst k2
    unfold hash_Tag_L0S
    dsimp only
    by_cases hi : i < (a.length : Int)
    · left
      obtain ⟨e, he⟩ := get_lt (l := a) (i := i.toNat) (by omega)
      have hel := h3 e (List.mem_of_getElem? he)
      obtain ⟨x, x1, x2⟩ := long_tot (n := e.length) (b := d) (by omega)
      rw [if_pos (decide_eq_true hi), idx_get k3 he, Option.bind_some, x1, Option.bind_some, if_pos (apB_of (by omega) (by omega)), wi_id (z := i + 1) (by omega) (by omega)]
      exact ⟨_, rfl, ⟨rfl, rfl, by dsimp only; omega, by dsimp only; omega, by dsimp only; rw [List.length_append]; omega⟩, by dsimp only; omega⟩
    · right
      rw [if_neg (by simpa using hi)]
      exact ⟨_, rfl, by dsimp only; omega⟩
end Go.Proofs.YtehgcchjaamddaaGreat
end
section
set_option linter.unusedVariables false
set_option linter.unusedSimpArgs false
set_option maxRecDepth 4000
namespace Go.Proofs.YtehgcchjaamddaaGreat
open Go Go.Ev
theorem same_spec {a b : List UInt8} (h : a.length ≤ 1000000) : ∃ r, corsnedref08_SameM fuel a b = some r ∧ (r = true → a = b) := by
  unfold corsnedref08_SameM
  by_cases hl : a.length = b.length
  · rw [if_neg (by simp [hl])]
    refine Exists.elim (loop_fuel (step := corsnedref08_Same_L0S fuel) (fun s => s.1 = a ∧ s.2.1 = b ∧ 0 ≤ s.2.2 ∧ s.2.2 ≤ (a.length : Int) ∧ ∀ k : Nat, (k : Int) < s.2.2 → a[k]? = b[k]?) (fun s => ((a.length : Int) - s.2.2).toNat)
      (fun x => x = .inl false ∨ (x = .inr () ∧ a = b)) ?_ (a, b, (0 : Int)) ⟨rfl, rfl, Int.le_refl _, by dsimp only; omega, fun k hk => by dsimp only at hk; omega⟩ (by dsimp only; omega)) ?_
    · rintro ⟨x, y, i⟩ ⟨e1, e2, h0, h1, h2⟩
      dsimp only at e1 e2 h0 h1 h2
      subst e1
      subst e2
      unfold corsnedref08_Same_L0S
      dsimp only
      by_cases hi : i < (x.length : Int)
      · obtain ⟨e, he⟩ := get_lt (l := x) (i := i.toNat) (by omega)
        obtain ⟨f, hf⟩ := get_lt (l := y) (i := i.toNat) (by omega)
        rw [if_pos (decide_eq_true hi), idx_get h0 he, Option.bind_some, idx_get h0 hf, Option.bind_some]
        by_cases hef : e = f
        · left
          rw [if_neg (by simp [hef]), wi_id (z := i + 1) (by omega) (by omega)]
          refine ⟨_, rfl, ⟨rfl, rfl, by dsimp only; omega, by dsimp only; omega, fun k hk => ?_⟩, by dsimp only; omega⟩
          dsimp only at hk
          by_cases hk2 : (k : Int) < i
          · exact h2 k hk2
          · have : k = i.toNat := by omega
            rw [this, he, hf, hef]
        · right
          rw [if_pos (by simp [hef])]
          exact ⟨_, rfl, .inl rfl⟩
      · right
        rw [if_neg (by simpa using hi)]
        refine ⟨_, rfl, .inr ⟨rfl, ?_⟩⟩
        apply List.ext_getElem?
        intro k
        by_cases hk : k < x.length
        · exact h2 k (by omega)
        · rw [List.getElem?_eq_none (by omega), List.getElem?_eq_none (by omega)]
    · rintro x ⟨h1, h2⟩
      rw [h1, Option.bind_some]
      rcases h2 with rfl | ⟨rfl, h2⟩
      · exact ⟨_, rfl, fun h => by cases h⟩
      · exact ⟨_, rfl, fun _ => h2⟩
  · rw [if_pos (by simp; omega)]
    exact ⟨_, rfl, fun h => by cases h⟩
theorem unlike_spec {all : List Packet} {p : Packet} (hl : all.length ≤ 1000) (ha : ∀ q, q ∈ all → q.2.length ≤ 10000) (hp : p.2.length ≤ 10000) :
    ∃ r, corsnedlaw42_unlikeM fuel all p = some r ∧ (r = true → ∀ q, q ∈ all → q.1 = p.1 → hash_SumM fuel q.2 = hash_SumM fuel p.2 → q.2 = p.2) := by
  unfold corsnedlaw42_unlikeM
  refine Exists.elim (loop_fuel (step := corsnedlaw42_unlike_L0S fuel) (fun s => s.1 = all ∧ s.2.2 = p ∧ 0 ≤ s.2.1 ∧ s.2.1 ≤ (all.length : Int) ∧ ∀ (k : Nat) q, (k : Int) < s.2.1 → all[k]? = some q → q.1 = p.1 → hash_SumM fuel q.2 = hash_SumM fuel p.2 → q.2 = p.2)
    (fun s => ((all.length : Int) - s.2.1).toNat) (fun x => (∃ y, x = .inl (false, y)) ∨ ((∃ y, x = .inr y) ∧ ∀ q, q ∈ all → q.1 = p.1 → hash_SumM fuel q.2 = hash_SumM fuel p.2 → q.2 = p.2)) ?_ (all, (0 : Int), p) ⟨rfl, rfl, Int.le_refl _, by dsimp only; omega, fun k q hk => by dsimp only at hk; omega⟩ (by dsimp only; omega)) ?_
  · rintro ⟨x, i, y⟩ ⟨e1, e2, h0, h1, h2⟩
    dsimp only at e1 e2 h0 h1 h2
    subst e1
    subst e2
    unfold corsnedlaw42_unlike_L0S
    dsimp only
    by_cases hi : i < (x.length : Int)
    · obtain ⟨e, he⟩ := get_lt (l := x) (i := i.toNat) (by omega)
      have hel := ha e (List.mem_of_getElem? he)
      have hnext : (e.1 = y.1 → hash_SumM fuel e.2 = hash_SumM fuel y.2 → e.2 = y.2) → ∀ (k : Nat) q, (k : Int) < i + 1 → x[k]? = some q → q.1 = y.1 → hash_SumM fuel q.2 = hash_SumM fuel y.2 → q.2 = y.2 := by
        intro hE k q hk hq
        by_cases hk2 : (k : Int) < i
        · exact h2 k q hk2 hq
        · have : k = i.toNat := by omega
          rw [this, he] at hq
          cases hq
          exact hE
      rw [if_pos (decide_eq_true hi), idx_get h0 he, Option.bind_some, wi_id (z := i + 1) (by omega) (by omega)]
      by_cases h3 : e.1 = y.1
      · rw [if_pos (decide_eq_true h3), Option.bind_some]
        obtain ⟨s1, hs1, _⟩ := sum_tot (l := e.2) (by omega)
        obtain ⟨s2, hs2, _⟩ := sum_tot (l := y.2) (by omega)
        rw [hs1, Option.bind_some, hs2, Option.bind_some]
        by_cases h4 : s1 = s2
        · rw [if_pos (decide_eq_true h4), Option.bind_some]
          obtain ⟨b, hb1, hb2⟩ := same_spec (a := e.2) (b := y.2) (by omega)
          rw [hb1, Option.bind_some]
          cases b with
          | true =>
            left
            rw [if_neg (by simp)]
            exact ⟨_, rfl, ⟨rfl, rfl, by dsimp only; omega, by dsimp only; omega, by rw [← hs2]; exact hnext fun _ _ => hb2 rfl⟩, by dsimp only; omega⟩
          | false =>
            right
            rw [if_pos (by simp)]
            exact ⟨_, rfl, .inl ⟨_, rfl⟩⟩
        · left
          rw [if_neg (by simpa using h4)]
          exact ⟨_, rfl, ⟨rfl, rfl, by dsimp only; omega, by dsimp only; omega, by
            rw [← hs2]
            exact hnext fun _ h5 => by
              rw [hs1, hs2] at h5
              exact absurd (Option.some.inj h5) h4⟩, by dsimp only; omega⟩
      · left
        rw [if_neg (by simpa using h3)]
        exact ⟨_, rfl, ⟨rfl, rfl, by dsimp only; omega, by dsimp only; omega, hnext fun h5 => absurd h5 h3⟩, by dsimp only; omega⟩
    · right
      rw [if_neg (by simpa using hi)]
      refine ⟨_, rfl, .inr ⟨⟨_, rfl⟩, fun q hq => ?_⟩⟩
      obtain ⟨k, hk, hkq⟩ := List.getElem_of_mem hq
      exact h2 k q (by omega) (by rw [List.getElem?_eq_getElem hk, hkq])
  · rintro x ⟨h1, h2⟩
    rw [h1, Option.bind_some]
    rcases h2 with ⟨y, rfl⟩ | ⟨⟨y, rfl⟩, h2⟩
    · exact ⟨_, rfl, fun h => by cases h⟩
    · exact ⟨_, rfl, fun _ => h2⟩
theorem bytesOf_list (l : List UInt8) : (bytesOf l).data.toList = l := rfl
theorem find_spec {held : List Packet} {p : Packet} (hl : held.length ≤ 100000) : ∃ b, api_Packet_46M fuel held p = some (b, p) ∧ (b = true ↔ p ∈ held) := by
  unfold api_Packet_46M api_Packet_93M
  refine Exists.elim (loop_fuel (step := api_Packet_93_L0S fuel) (fun s => s.1 = held ∧ s.2.1 = (held.length : Int) ∧ s.2.2.2 = p ∧ 0 ≤ s.2.2.1 ∧ s.2.2.1 ≤ (held.length : Int) ∧ ∀ (k : Nat), (k : Int) < s.2.2.1 → held[k]? ≠ some p)
    (fun s => ((held.length : Int) - s.2.2.1).toNat) (fun x => (∃ i, x = .inl (i, p) ∧ 0 ≤ i ∧ p ∈ held) ∨ (x = .inr p ∧ ¬ p ∈ held)) ?_ (held, (held.length : Int), (0 : Int), p) ⟨rfl, rfl, rfl, Int.le_refl _, by dsimp only; omega, fun k hk => by dsimp only at hk; omega⟩ (by dsimp only; omega)) ?_
  · rintro ⟨x, n, i, y⟩ ⟨e1, e2, e3, h0, h1, h2⟩
    dsimp only at e1 e2 e3 h0 h1 h2
    subst e1
    subst e2
    subst e3
    unfold api_Packet_93_L0S
    dsimp only
    by_cases hi : i < (x.length : Int)
    · obtain ⟨e, he⟩ := get_lt (l := x) (i := i.toNat) (by omega)
      rw [if_pos (decide_eq_true hi), idx_get h0 he, Option.bind_some, wi_id (z := i + 1) (by omega) (by omega)]
      have hq : ∃ b, tower_Tower_Hold_1M fuel e y = some (b, y) ∧ (b = true ↔ e = y) := by
        unfold tower_Tower_Hold_1M bytes_EqualM
        dsimp only
        rw [bytesOf_list, bytesOf_list]
        by_cases h3 : e.1 = y.1
        · rw [if_pos (decide_eq_true h3)]
          refine ⟨_, rfl, ?_⟩
          rw [beq_iff_eq]
          exact ⟨fun h => Prod.ext h3 h, fun h => by rw [h]⟩
        · rw [if_neg (by simpa using h3)]
          exact ⟨_, rfl, by constructor <;> intro h; cases h; exact absurd (by rw [h]) h3⟩
      obtain ⟨b, hb1, hb2⟩ := hq
      rw [hb1, Option.bind_some]
      cases b with
      | true =>
        right
        rw [if_pos rfl]
        have := hb2.1 rfl
        exact ⟨_, rfl, .inl ⟨i, rfl, h0, by rw [← this]; exact List.mem_of_getElem? he⟩⟩
      | false =>
        left
        rw [if_neg (by simp)]
        refine ⟨_, rfl, ⟨rfl, rfl, rfl, by dsimp only; omega, by dsimp only; omega, fun k hk => ?_⟩, by dsimp only; omega⟩
        dsimp only at hk
        by_cases hk2 : (k : Int) < i
        · exact h2 k hk2
        · have : k = i.toNat := by omega
          rw [this, he]
          intro h
          have := hb2.2 (Option.some.inj h)
          cases this
    · right
      rw [if_neg (by simpa using hi)]
      refine ⟨_, rfl, .inr ⟨rfl, fun hq => ?_⟩⟩
      obtain ⟨k, hk, hkq⟩ := List.getElem_of_mem hq
      exact h2 k (by omega) (by rw [List.getElem?_eq_getElem hk, hkq])
  · rintro x ⟨h1, h2⟩
    rw [h1, Option.bind_some]
    rcases h2 with ⟨i, rfl, h3, h4⟩ | ⟨rfl, h3⟩
    · exact ⟨_, rfl, by simp [h3, h4]⟩
    · exact ⟨_, rfl, by simp [h3]⟩
theorem hold_spec {p : Packet} {paid price room : Int} {u : Unit} {held : List Packet} (hp : p.2.length ≤ 10000) (hl : (held.length : Int) ≤ room) (hr : room ≤ 4096) :
    ∃ r held', tower_Tower_HoldM fuel p paid price room u held = some (r, price, room, u, held') ∧
      ((r = 0 ∧ price ≤ paid ∧ (held.length : Int) < room ∧ held' = held ++ [p] ∧ p.2.length ≠ 0) ∨ (r ≠ 0 ∧ held' = held)) ∧ (p ∈ held → price ≤ paid → (r = 2 ∨ r = 4) ∧ held' = held) := by
  unfold tower_Tower_HoldM
  by_cases h1 : p.2.length = 0
  · rw [if_pos (by simp [h1])]
    exact ⟨_, _, rfl, .inr ⟨by decide, rfl⟩, fun _ _ => ⟨.inl rfl, rfl⟩⟩
  rw [if_neg (by simp; exact fun h => h1 (by rw [h]; rfl))]
  by_cases h2 : (p.2.length : Int) > 8192
  · rw [if_pos (decide_eq_true h2)]
    exact ⟨_, _, rfl, .inr ⟨by decide, rfl⟩, fun _ _ => ⟨.inl rfl, rfl⟩⟩
  rw [if_neg (by simpa using h2)]
  by_cases h3 : paid < price
  · rw [if_pos (decide_eq_true h3)]
    exact ⟨_, _, rfl, .inr ⟨by decide, rfl⟩, fun _ h => absurd h3 (by omega)⟩
  rw [if_neg (by simpa using h3)]
  obtain ⟨b, hb1, hb2⟩ := find_spec (held := held) (p := p) (by omega)
  rw [hb1, Option.bind_some]
  cases b with
  | true =>
    rw [if_pos rfl]
    exact ⟨_, _, rfl, .inr ⟨by decide, rfl⟩, fun _ _ => ⟨.inr rfl, rfl⟩⟩
  | false =>
    have hn : ¬ p ∈ held := fun h => by have := hb2.2 h; cases this
    rw [if_neg (by simp)]
    by_cases h4 : (held.length : Int) ≥ room
    · rw [if_pos (decide_eq_true h4)]
      exact ⟨_, _, rfl, .inr ⟨by decide, rfl⟩, fun h => absurd h hn⟩
    rw [if_neg (by simpa using h4)]
    have hc : bytes_CloneM fuel p.2 = some p.2 := by
      unfold bytes_CloneM
      rw [if_pos (apB_of (by omega) (by omega))]
    dsimp only
    rw [hc, Option.bind_some, if_pos (apB_of (by omega) (by omega))]
    exact ⟨_, _, rfl, .inl ⟨rfl, by omega, by omega, rfl, h1⟩, fun h => absurd h hn⟩
theorem proof_tot {n : List UInt8} {q : Packet} (h1 : n.length ≤ 10000) (h2 : q.2.length ≤ 10000) : ∃ o, tower_ProofM fuel n q = some o := by
  unfold tower_ProofM
  obtain ⟨o, h, _⟩ := tag_tot (s := strc0) (ls := [n, q.2]) (by decide) (by simp) (by
    intro l hl
    rcases List.mem_cons.1 hl with rfl | hl
    · exact h1
    · rw [List.mem_singleton.1 hl]; exact h2)
  rw [h, Option.bind_some]
  exact ⟨_, rfl⟩
theorem prove_spec {n hint sum : List UInt8} {price room : Int} {u : Unit} {held : List Packet} (hn : n.length ≤ 10000) (hl : held.length ≤ 100000) (ha : ∀ q, q ∈ held → q.2.length ≤ 10000) :
    ∃ pr ok, tower_Tower_ProveM fuel n hint sum price room u held = some (pr, ok, price, room, u, held) ∧
      ((ok = true ∧ ∃ q, q ∈ held ∧ q.1 = hint ∧ hash_SumM fuel q.2 = some sum ∧ tower_ProofM fuel n q = some pr) ∨ (ok = false ∧ ∀ q, q ∈ held → q.1 = hint → hash_SumM fuel q.2 ≠ some sum)) := by
  unfold tower_Tower_ProveM tower_honest_proveM
  generalize ([0, 0, 0, 0, 0, 0, 0, 0, 0, 0, 0, 0, 0, 0, 0, 0, 0, 0, 0, 0, 0, 0, 0, 0, 0, 0, 0, 0, 0, 0, 0, 0] : List UInt8) = z
  refine Exists.elim (loop_fuel (step := tower_honest_prove_L0S fuel) (fun s => ∃ i : Int, s = ((held.length : Int), i, price, room, u, held, u, n, hint, sum, z) ∧ 0 ≤ i ∧ i ≤ (held.length : Int) ∧ ∀ (k : Nat) q, (k : Int) < i → held[k]? = some q → q.1 = hint → hash_SumM fuel q.2 ≠ some sum)
    (fun s => ((held.length : Int) - s.2.1).toNat) (fun x => (∃ pr q, x = .inl (true, price, room, u, held, u, n, hint, sum, pr) ∧ q ∈ held ∧ q.1 = hint ∧ hash_SumM fuel q.2 = some sum ∧ tower_ProofM fuel n q = some pr) ∨
      (x = .inr (price, room, u, held, u, n, hint, sum, z) ∧ ∀ q, q ∈ held → q.1 = hint → hash_SumM fuel q.2 ≠ some sum)) ?_ ((held.length : Int), (0 : Int), price, room, u, held, u, n, hint, sum, z) ⟨0, rfl, Int.le_refl _, by omega, fun k q hk => by omega⟩ (by dsimp only; omega)) ?_
  · rintro _ ⟨i, rfl, h0, h1, h2⟩
    unfold tower_honest_prove_L0S
    dsimp only
    by_cases hi : i < (held.length : Int)
    · obtain ⟨e, he⟩ := get_lt (l := held) (i := i.toNat) (by omega)
      have hem := List.mem_of_getElem? he
      have hel := ha e hem
      have hnext : (e.1 = hint → hash_SumM fuel e.2 ≠ some sum) → ∀ (k : Nat) q, (k : Int) < i + 1 → held[k]? = some q → q.1 = hint → hash_SumM fuel q.2 ≠ some sum := by
        intro hE k q hk hq
        by_cases hk2 : (k : Int) < i
        · exact h2 k q hk2 hq
        · have : k = i.toNat := by omega
          rw [this, he] at hq
          cases hq
          exact hE
      rw [if_pos (decide_eq_true hi), idx_get h0 he, Option.bind_some, wi_id (z := i + 1) (by omega) (by omega)]
      by_cases h3 : e.1 = hint
      · obtain ⟨s1, hs1, _⟩ := sum_tot (l := e.2) (by omega)
        rw [if_pos (decide_eq_true h3), hs1, Option.bind_some]
        by_cases h4 : s1 = sum
        · right
          obtain ⟨pr, hpr⟩ := proof_tot (n := n) (q := e) hn hel
          rw [if_pos (decide_eq_true h4), hpr, Option.bind_some]
          exact ⟨_, rfl, .inl ⟨pr, e, rfl, hem, h3, by rw [hs1, h4], hpr⟩⟩
        · left
          rw [if_neg (by simpa using h4)]
          exact ⟨_, rfl, ⟨i + 1, rfl, by omega, by omega, hnext fun _ h5 => by
            rw [hs1] at h5
            exact h4 (Option.some.inj h5)⟩, by dsimp only; omega⟩
      · left
        rw [if_neg (by simpa using h3)]
        exact ⟨_, rfl, ⟨i + 1, rfl, by omega, by omega, hnext fun h5 => absurd h5 h3⟩, by dsimp only; omega⟩
    · right
      rw [if_neg (by simpa using hi)]
      refine ⟨_, rfl, .inr ⟨rfl, fun q hq => ?_⟩⟩
      obtain ⟨k, hk, hkq⟩ := List.getElem_of_mem hq
      exact h2 k q (by omega) (by rw [List.getElem?_eq_getElem hk, hkq])
  · rintro x ⟨h1, h2⟩
    rw [h1, Option.bind_some]
    rcases h2 with ⟨pr, q, rfl, h3⟩ | ⟨rfl, h3⟩
    · exact ⟨pr, true, rfl, .inl ⟨rfl, q, h3⟩⟩
    · exact ⟨z, false, rfl, .inr ⟨rfl, h3⟩⟩
theorem few_spec {l : List Corsnedlaw42Act} (h : l.length ≤ 9223372036854775807) : ∃ b, corsnedlaw42_fewM fuel l = some b ∧ (b = true → l.length ≤ 30 ∧ ∀ e, e ∈ l → e.2.1.2.length ≤ 9000) := by
  unfold corsnedlaw42_fewM
  refine Exists.elim (loop_fuel (step := corsnedlaw42_few_L0S fuel) (fun s => s.1 = l ∧ 0 ≤ s.2 ∧ s.2 ≤ (l.length : Int) ∧ ∀ (k : Nat) e, (k : Int) < s.2 → l[k]? = some e → e.2.1.2.length ≤ 9000) (fun s => ((l.length : Int) - s.2).toNat)
    (fun x => x = .inl false ∨ (x = .inr l ∧ ∀ e, e ∈ l → e.2.1.2.length ≤ 9000)) ?_ (l, (0 : Int)) ⟨rfl, Int.le_refl _, by dsimp only; omega, fun k q hk => by dsimp only at hk; omega⟩ (by dsimp only; omega)) ?_
  · rintro ⟨x, i⟩ ⟨e1, h0, h1, h2⟩
    dsimp only at e1 h0 h1 h2
    subst e1
    unfold corsnedlaw42_few_L0S
    dsimp only
    by_cases hi : i < (x.length : Int)
    · obtain ⟨e, he⟩ := get_lt (l := x) (i := i.toNat) (by omega)
      rw [if_pos (decide_eq_true hi), idx_get h0 he, Option.bind_some, wi_id (z := i + 1) (by omega) (by omega)]
      by_cases h3 : (e.2.1.2.length : Int) > 9000
      · right
        rw [if_pos (decide_eq_true h3)]
        exact ⟨_, rfl, .inl rfl⟩
      · rw [if_neg (by simpa using h3), Option.bind_some]
        by_cases h4 : (e.2.2.2.2.1.length : Int) > 5
        · right
          rw [if_pos (decide_eq_true h4)]
          exact ⟨_, rfl, .inl rfl⟩
        · left
          rw [if_neg (by simpa using h4)]
          refine ⟨_, rfl, ⟨rfl, by dsimp only; omega, by dsimp only; omega, fun k q hk hq => ?_⟩, by dsimp only; omega⟩
          dsimp only at hk
          by_cases hk2 : (k : Int) < i
          · exact h2 k q hk2 hq
          · have : k = i.toNat := by omega
            rw [this, he] at hq
            cases hq
            omega
    · right
      rw [if_neg (by simpa using hi)]
      refine ⟨_, rfl, .inr ⟨rfl, fun q hq => ?_⟩⟩
      obtain ⟨k, hk, hkq⟩ := List.getElem_of_mem hq
      exact h2 k q (by omega) (by rw [List.getElem?_eq_getElem hk, hkq])
  · rintro x ⟨h1, h2⟩
    rw [h1, Option.bind_some]
    rcases h2 with rfl | ⟨rfl, h2⟩
    · exact ⟨_, rfl, fun h => by cases h⟩
    · exact ⟨_, rfl, fun h3 => ⟨by have := of_decide_eq_true h3; omega, h2⟩⟩
def KInv (price room : Int) (acts : List Corsnedlaw42Act) (s : Int × Int × List Corsnedlaw42Act × Bool × Int × Int × Int × Unit × List Packet × List Packet) : Prop :=
  ∃ (i : Int) (held all : List Packet), s = (price, room, acts, true, i, price, room, (), held, all) ∧ 0 ≤ i ∧ i ≤ (acts.length : Int) ∧ (held.length : Int) ≤ room ∧ (all.length : Int) ≤ i ∧ (∀ q, q ∈ held → q ∈ all) ∧ ∀ q, q ∈ all → q.2.length ≤ 10000
theorem keeps_step {price room : Int} {acts : List Corsnedlaw42Act} (hr : room ≤ 4096) (hl : acts.length ≤ 30) (ha : ∀ e, e ∈ acts → e.2.1.2.length ≤ 9000) (hn : ∀ e, e ∈ acts → e.2.2.2.2.2.1.length ≤ 10000) :
    ∀ s, KInv price room acts s → (∃ j, corsnedlaw42_TowerKeeps_L0S fuel s = some (.inl j) ∧ KInv price room acts j ∧ ((acts.length : Int) - j.2.2.2.2.1).toNat < ((acts.length : Int) - s.2.2.2.2.1).toNat) ∨
      (∃ x, corsnedlaw42_TowerKeeps_L0S fuel s = some (.inr x) ∧ ((∃ y, x = .inl (true, y)) ∨ ∃ held all, x = .inr (room, true, price, room, (), held, all) ∧ (held.length : Int) ≤ room)) := by
  rintro _ ⟨i, held, all, rfl, h0, h1, h2, h3, h4, h5⟩
  unfold corsnedlaw42_TowerKeeps_L0S
  dsimp only
  by_cases hi : i < (acts.length : Int)
  · obtain ⟨e, he⟩ := get_lt (l := acts) (i := i.toNat) (by omega)
    have hem := List.mem_of_getElem? he
    have hel := ha e hem
    have hen := hn e hem
    obtain ⟨b, hb1, hb2⟩ := unlike_spec (all := all) (p := e.2.1) (by omega) h5 (by omega)
    simp only [decide_eq_true hi, if_true, tower_Tower_CountM, Option.bind_some, idx_get h0 he, hb1]
    cases b with
    | false =>
      right
      simp only [Bool.not_false, if_true]
      exact ⟨_, rfl, .inl ⟨_, rfl⟩⟩
    | true =>
      left
      have hb := hb2 rfl
      have hap : apB all.length 1 40 = true := apB_of (by omega) (by omega)
      obtain ⟨sm, hsm, _⟩ := sum_tot (l := e.2.1.2) (by omega)
      have hsame : ∀ (h' : List Packet), (h' = held ∨ h' = held ++ [e.2.1]) → ∀ q, q ∈ h' → q.1 = e.2.1.1 → hash_SumM fuel q.2 = some sm → q = e.2.1 := by
        intro h' hh q hq q1 q2
        have key : q ∈ held → q = e.2.1 := fun hq => Prod.ext q1 (hb q (h4 q hq) q1 (by rw [q2, hsm]))
        rcases hh with rfl | rfl
        · exact key hq
        · rcases List.mem_append.1 hq with hq | hq
          · exact key hq
          · exact List.mem_singleton.1 hq
      have hlen : ∀ (h' : List Packet), (h' = held ∨ h' = held ++ [e.2.1]) → (∀ q, q ∈ h' → q.2.length ≤ 10000) ∧ (∀ q, q ∈ h' → q ∈ all ++ [e.2.1]) := by
        intro h' hh
        rcases hh with rfl | rfl
        · exact ⟨fun q hq => h5 q (h4 q hq), fun q hq => List.mem_append_left _ (h4 q hq)⟩
        · refine ⟨fun q hq => ?_, fun q hq => ?_⟩
          · rcases List.mem_append.1 hq with hq | hq
            · exact h5 q (h4 q hq)
            · rw [List.mem_singleton.1 hq]; omega
          · rcases List.mem_append.1 hq with hq | hq
            · exact List.mem_append_left _ (h4 q hq)
            · exact List.mem_append_right _ hq
      have hall : ∀ q, q ∈ all ++ [e.2.1] → q.2.length ≤ 10000 := by
        intro q hq
        rcases List.mem_append.1 hq with hq | hq
        · exact h5 q hq
        · rw [List.mem_singleton.1 hq]; omega
      have hinv : ∀ h' : List Packet, (h'.length : Int) ≤ room → (∀ q, q ∈ h' → q ∈ all ++ [e.2.1]) → KInv price room acts (price, room, acts, true, i + 1, price, room, (), h', all ++ [e.2.1]) := fun h' k1 k2 =>
        ⟨i + 1, h', all ++ [e.2.1], rfl, by omega, by omega, k1, by rw [List.length_append, List.length_singleton]; omega, k2, hall⟩
      obtain ⟨r, held1, hh1, hh2, _⟩ := hold_spec (p := e.2.1) (paid := e.2.2.1) (price := price) (room := room) (u := ()) (held := held) (by omega) h2 hr
      simp only [Bool.not_true, Bool.false_eq_true, if_false, hap, if_true, hh1, Option.bind_some, hsm]
      have hw : wi (i + 1) = i + 1 := wi_id (by omega) (by omega)
      have hw2 : wi ((held.length : Int) + 1) = (held.length : Int) + 1 := wi_id (by omega) (by omega)
      rcases hh2 with ⟨rfl, k1, k2, rfl, k4⟩ | ⟨k1, rfl⟩
      ·
        have hm : (.inr rfl : held ++ [e.2.1] = held ∨ held ++ [e.2.1] = held ++ [e.2.1]) = .inr rfl := rfl
        obtain ⟨pr, ok, hp1, hp2⟩ := prove_spec (n := e.2.2.2.2.2.1) (hint := e.2.1.1) (sum := sm) (price := price) (room := room) (u := ()) (held := held ++ [e.2.1]) hen (by rw [List.length_append, List.length_singleton]; omega) (hlen _ (.inr rfl)).1
        have hpin : e.2.1 ∈ held ++ [e.2.1] := List.mem_append_right _ (List.mem_singleton.2 rfl)
        rcases hp2 with ⟨rfl, q, q1, q2, q3, q4⟩ | ⟨rfl, q1⟩
        · have hq := hsame _ (.inr rfl) q q1 q2 q3
          subst hq
          obtain ⟨r2, held2, hj1, _, hj3⟩ := hold_spec (p := e.2.1) (paid := price) (price := price) (room := room) (u := ()) (held := held ++ [e.2.1]) (by omega) (by rw [List.length_append, List.length_singleton]; omega) hr
          obtain ⟨hj4, rfl⟩ := hj3 hpin (Int.le_refl _)
          have f1 : decide (e.2.2.1 < price) = false := decide_eq_false (by omega)
          have f2 : decide ((held.length : Int) ≥ room) = false := decide_eq_false (by omega)
          have f3 : (((held ++ [e.2.1]).length : Int) != (held.length : Int) + 1) = false := by rw [List.length_append, List.length_singleton]; simp
          have f4 : ((e.2.1.2.length : Int) == 0) = false := by simp; exact fun h => k4 (by rw [h]; rfl)
          have f5 : decide (((held ++ [e.2.1]).length : Int) > (held.length : Int) + 1) = false := by rw [List.length_append, List.length_singleton]; exact decide_eq_false (by omega)
          simp only [beq_self_eq_true, bne_self_eq_false, if_true, Bool.false_eq_true, if_false, hw, hw2, f1, f2, f3, f4, f5, hp1, q4, hj1, Option.bind_some, Bool.not_true, decide_true]
          have hfin := hinv (held ++ [e.2.1]) (by rw [List.length_append, List.length_singleton]; omega) (hlen _ (.inr rfl)).2
          rcases hj4 with rfl | rfl
          · simp only [show ((2 : Int) != 4) = true from rfl, show ((2 : Int) != 2) = false from rfl, if_true, Bool.false_eq_true, if_false]
            exact ⟨_, rfl, hfin, by dsimp only; omega⟩
          · simp only [show ((4 : Int) != 4) = false from rfl, Bool.false_eq_true, if_false]
            exact ⟨_, rfl, hfin, by dsimp only; omega⟩
        · exact absurd hsm (q1 e.2.1 hpin rfl)
      ·
        have g1 : (r == 0) = false := by simpa using k1
        have g2 : (r != 0) = true := by simpa using k1
        obtain ⟨pr, ok, hp1, hp2⟩ := prove_spec (n := e.2.2.2.2.2.1) (hint := e.2.1.1) (sum := sm) (price := price) (room := room) (u := ()) (held := held1) hen (by omega) (hlen _ (.inl rfl)).1
        obtain ⟨r2, held2, hj1, hj2, hj3⟩ := hold_spec (p := e.2.1) (paid := price) (price := price) (room := room) (u := ()) (held := held1) (by omega) h2 hr
        have f5 : decide ((held1.length : Int) > (held1.length : Int) + 1) = false := decide_eq_false (by omega)
        simp only [g1, g2, bne_self_eq_false, if_true, Bool.false_eq_true, if_false, hw, hw2, hp1, hj1, Option.bind_some]
        rcases hp2 with ⟨rfl, q, q1, q2, q3, q4⟩ | ⟨rfl, q1⟩
        · have hq := hsame _ (.inl rfl) q q1 q2 q3
          subst hq
          obtain ⟨hj4, rfl⟩ := hj3 q1 (Int.le_refl _)
          have hfin := hinv held2 h2 (hlen _ (.inl rfl)).2
          simp only [if_true, f5, Bool.false_eq_true, if_false]
          rcases hj4 with rfl | rfl
          · simp only [show ((2 : Int) != 4) = true from rfl, show ((2 : Int) != 2) = false from rfl, if_true, Bool.false_eq_true, if_false]
            exact ⟨_, rfl, hfin, by dsimp only; omega⟩
          · simp only [show ((4 : Int) != 4) = false from rfl, Bool.false_eq_true, if_false]
            exact ⟨_, rfl, hfin, by dsimp only; omega⟩
        · simp only [Bool.false_eq_true, if_false]
          refine ⟨_, rfl, ?_, by dsimp only; omega⟩
          rcases hj2 with ⟨_, _, j1, rfl, _⟩ | ⟨_, rfl⟩
          · exact hinv _ (by rw [List.length_append, List.length_singleton]; omega) (hlen _ (.inr rfl)).2
          · exact hinv _ h2 (hlen _ (.inl rfl)).2
  · right
    rw [if_neg (by simpa using hi)]
    exact ⟨_, rfl, .inr ⟨held, all, rfl, h2⟩⟩
theorem keeps_yes {price room : Int} {acts : List Corsnedlaw42Act} (hl : acts.length ≤ 9223372036854775807) (hn : ∀ e, e ∈ acts → e.2.2.2.2.2.1.length ≤ 10000) : corsnedlaw42_TowerKeepsM fuel price room acts = some true := by
  unfold corsnedlaw42_TowerKeepsM
  obtain ⟨b, hb1, hb2⟩ := few_spec hl
  rw [Option.bind_some, hb1, Option.bind_some]
  unfold tower_NewM
  by_cases h1 : price < 0
  · rw [if_pos (decide_eq_true h1), Option.bind_some]
    cases b <;> rfl
  rw [if_neg (by simpa using h1)]
  by_cases h2 : room < 0
  · rw [if_pos (decide_eq_true h2), Option.bind_some]
    cases b <;> rfl
  rw [if_neg (by simpa using h2)]
  by_cases h3 : room > 4096
  · rw [if_pos (decide_eq_true h3), Option.bind_some]
    cases b <;> rfl
  rw [if_neg (by simpa using h3), Option.bind_some]
  cases b with
  | false => rfl
  | true =>
    obtain ⟨k1, k2⟩ := hb2 rfl
    simp only [Bool.not_true, Bool.false_eq_true, if_false]
    obtain ⟨x, q1, q2⟩ := loop_fuel (step := corsnedlaw42_TowerKeeps_L0S fuel) (KInv price room acts) (fun s => ((acts.length : Int) - s.2.2.2.2.1).toNat) _ (keeps_step (by omega) k1 k2 hn) (price, room, acts, true, (0 : Int), price, room, (), ([] : List Packet), ([] : List Packet))
      ⟨0, [], [], rfl, Int.le_refl _, by omega, by simp; omega, by simp, fun q hq => (by cases hq), fun q hq => (by cases hq)⟩ (by dsimp only; omega)
    rw [q1, Option.bind_some]
    rcases q2 with ⟨y, rfl⟩ | ⟨held, all, rfl, q2⟩
    · rfl
    · simp only [if_true, tower_Tower_CountM, Option.bind_some]
      simpa using q2
end Go.Proofs.YtehgcchjaamddaaGreat
end
