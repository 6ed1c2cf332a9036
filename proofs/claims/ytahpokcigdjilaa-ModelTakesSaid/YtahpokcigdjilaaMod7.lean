/- Steps through functions of the program, under conditions that each theorem states (part mod7 of a claim). -/
import Derived.Test.YtahpokcigdjilaaProg
import Derived.Test.YtahpokcigdjilaaMod6
namespace Go.Proofs.Ytahpokcigdjilaa
open Go Go.Sp

set_option linter.unusedVariables false

namespace mod7
theorem bld36_0_1_2_3_9 (x0 : Int) (x1 : Int) (x2 : Int) (x3 : Int) (x4 : ByteArray) (w : World) : (Instr.build 36 (([0, 1, 2, 3, 9] : List Nat).zip [.int .i64 x0, .int .i64 x1, .int .i64 x2, .int .i64 x3, .string x4]).toArray).run Try.prog w = .ok (.agg #[.int .i64 x0, .int .i64 x1, .int .i64 x2, .int .i64 x3, .int .i64 0, .int .i64 0, .int .i64 0, .int .i64 0, .string ⟨#[]⟩, .string x4, .int .i64 0, .bool false]) w := by kernel_rfl
theorem ti36 : TI Try.prog 36 12 112 (.agg #[.int .i64 0, .int .i64 0, .int .i64 0, .int .i64 0, .int .i64 0, .int .i64 0, .int .i64 0, .int .i64 0, .string ⟨#[]⟩, .string ⟨#[]⟩, .int .i64 0, .bool false]) := .of (by kernel_rfl)
theorem ts36 : TS Try.prog 36 12 := .of (by kernel_rfl)
theorem ia36 : IsAgg Try.prog 36 := ⟨_, Try.underlying36, trivial⟩
theorem fd36_11 : FD Try.prog 36 11 11 := .of Try.underlying36 (by kernel_rfl)
theorem ts4 : TS Try.prog 4 1 := .of (by kernel_rfl)
theorem bld36_0_1_2_3 (x0 : Int) (x1 : Int) (x2 : Int) (x3 : Int) (w : World) : (Instr.build 36 (([0, 1, 2, 3] : List Nat).zip [.int .i64 x0, .int .i64 x1, .int .i64 x2, .int .i64 x3]).toArray).run Try.prog w = .ok (.agg #[.int .i64 x0, .int .i64 x1, .int .i64 x2, .int .i64 x3, .int .i64 0, .int .i64 0, .int .i64 0, .int .i64 0, .string ⟨#[]⟩, .string ⟨#[]⟩, .int .i64 0, .bool false]) w := by kernel_rfl
theorem fd36_9 : FD Try.prog 36 9 9 := .of Try.underlying36 (by kernel_rfl)
theorem ts9 : TS Try.prog 9 1 := .of (by kernel_rfl)
theorem fd36_4 : FD Try.prog 36 4 4 := .of Try.underlying36 (by kernel_rfl)
theorem ts3 : TS Try.prog 3 1 := .of (by kernel_rfl)
end mod7
open mod7

def xs : Sn := ⟨101, 1, 10, 2, 0, 0, 0, 0, [], [120], 0, false⟩
def xa : Sn := ⟨101, 1, 10, 2, 0, 0, 0, 0, [], [120], 0, true⟩
def xr : Sn := ⟨201, 1, 1, 2, 0, 0, 0, 0, [], [], 0, false⟩
def xb : Sn := ⟨201, 1, 1, 2, 0, 0, 0, 0, [], [120], 0, true⟩
def xy : Sn := ⟨201, 1, 1, 2, 0, 0, 0, 0, [], [121], 0, true⟩
def xz : Sn := ⟨201, 1, 1, 2, 1, 0, 0, 0, [], [120], 0, true⟩
theorem ex1 : check [xs, xa, xr, xb] = (-1, []) := by decide +kernel
theorem ex2 : check [xs, xa, xr, xy] = (3, wValue) := by decide +kernel
theorem ex3 : check [xr, xb] = (1, wUnsent) := by decide +kernel
theorem ex4 : check [xs, xa, xa] = (2, wCall) := by decide +kernel
theorem ex5 : check [xs, xa, xr, xz] = (3, wTwice) := by decide +kernel
/-- pick. -/
def pickN (c n : Int) : Int := if c < 0 then (-(c + 1)) % n else c % n
theorem pickN_nn {c n : Int} (hn : 0 < n) : 0 ≤ pickN c n := by unfold pickN; split <;> exact Int.emod_nonneg _ (by omega)
theorem pickN_lt {c n : Int} (hn : 0 < n) : pickN c n < n := by unfold pickN; split <;> exact Int.emod_lt_of_pos _ hn
def i64 (n : Int) : Prop := -9223372036854775808 ≤ n ∧ n ≤ 9223372036854775807
theorem fill2 (s0 s1 : Sn) : Instr.fill (fun i => some (i * 12, 12)) (madeCells (Value.agg #[.int .i64 0, .int .i64 0, .int .i64 0, .int .i64 0, .int .i64 0, .int .i64 0, .int .i64 0, .int .i64 0, .string ⟨#[]⟩, .string ⟨#[]⟩, .int .i64 0, .bool false]).cells (2 * 12)) [(0, .agg (Sn.cells s0).toArray), (1, .agg (Sn.cells s1).toArray)] = some ([s0, s1].flatMap Sn.cells).toArray := by kernel_rfl
theorem fill3 (s0 s1 s2 : Sn) : Instr.fill (fun i => some (i * 12, 12)) (madeCells (Value.agg #[.int .i64 0, .int .i64 0, .int .i64 0, .int .i64 0, .int .i64 0, .int .i64 0, .int .i64 0, .int .i64 0, .string ⟨#[]⟩, .string ⟨#[]⟩, .int .i64 0, .bool false]).cells (3 * 12)) [(0, .agg (Sn.cells s0).toArray), (1, .agg (Sn.cells s1).toArray), (2, .agg (Sn.cells s2).toArray)] = some ([s0, s1, s2].flatMap Sn.cells).toArray := by kernel_rfl
theorem fill4 (s0 s1 s2 s3 : Sn) : Instr.fill (fun i => some (i * 12, 12)) (madeCells (Value.agg #[.int .i64 0, .int .i64 0, .int .i64 0, .int .i64 0, .int .i64 0, .int .i64 0, .int .i64 0, .int .i64 0, .string ⟨#[]⟩, .string ⟨#[]⟩, .int .i64 0, .bool false]).cells (4 * 12)) [(0, .agg (Sn.cells s0).toArray), (1, .agg (Sn.cells s1).toArray), (2, .agg (Sn.cells s2).toArray), (3, .agg (Sn.cells s3).toArray)] = some ([s0, s1, s2, s3].flatMap Sn.cells).toArray := by kernel_rfl

set_option maxHeartbeats 1000000 in
set_option maxRecDepth 20000 in
theorem shown_ok : Cn Try.prog 8 [] (fun _ => True) [] fun v G => v = .bool true ∧ G = [] := by
  refine .enter Try.func8 rfl (by kernel_rfl) rfl fun R k => ?_
  refine .seq ?_
  refine .region ?_   -- R0 law.go:19
  refine .rd (.assign rfl) ?_
  refine .nil ?_
  refine .seq ?_
  refine .region ?_   -- R1 law.go:20
  refine .rd (.build rfl (bld36_0_1_2_3_9 _ _ _ _ _)) ?_
  refine .ef (.alloc ti36 rfl (ones.of rfl)) ?_
  rintro _ _ ⟨b1, rfl, rfl⟩
  refine .ef0 (.storeAll (vs := Sn.cells xs) ts36 rfl rfl rfl .head rfl (ones.of rfl)) ?_
  rintro _ _ rfl
  refine .nil ?_
  refine .seq ?_
  refine .region ?_   -- R2 law.go:21
  refine .rd (.ldN ia36 ts36 rfl .head rfl) ?_
  refine .ef (.alloc ti36 rfl (ones.of rfl)) ?_
  rintro _ _ ⟨b2, rfl, rfl⟩
  refine .ef0 (.storeAll (vs := Sn.cells xs) ts36 rfl rfl rfl .head rfl (ones.of rfl)) ?_
  rintro _ _ rfl
  refine .nil ?_
  refine .seq ?_
  refine .region ?_   -- R3 law.go:22
  refine .rd (.fieldAddr fd36_11 rfl) ?_
  refine .ef0 (.store ts4 rfl rfl .head rfl (Nat.le_of_ble_eq_true rfl)) ?_
  rintro _ _ rfl
  refine .nil ?_
  refine .cast (X' := blk b2 (Sn.cells xa) 36) (rfl) ?_
  refine .seq ?_
  refine .region ?_   -- R4 law.go:23
  refine .rd (.build rfl (bld36_0_1_2_3 _ _ _ _)) ?_
  refine .ef (.alloc ti36 rfl (ones.of rfl)) ?_
  rintro _ _ ⟨b3, rfl, rfl⟩
  refine .ef0 (.storeAll (vs := Sn.cells xr) ts36 rfl rfl rfl .head rfl (ones.of rfl)) ?_
  rintro _ _ rfl
  refine .nil ?_
  refine .seq ?_
  refine .region ?_   -- R5 law.go:24
  refine .rd (.ldN ia36 ts36 rfl .head rfl) ?_
  refine .ef (.alloc ti36 rfl (ones.of rfl)) ?_
  rintro _ _ ⟨b4, rfl, rfl⟩
  refine .ef0 (.storeAll (vs := Sn.cells xr) ts36 rfl rfl rfl .head rfl (ones.of rfl)) ?_
  rintro _ _ rfl
  refine .nil ?_
  refine .seq ?_
  refine .region ?_   -- R6 law.go:25
  refine .rd (.fieldAddr fd36_11 rfl) ?_
  refine .ef0 (.store ts4 rfl rfl .head rfl (Nat.le_of_ble_eq_true rfl)) ?_
  rintro _ _ rfl
  refine .nil ?_
  refine .seq ?_
  refine .region ?_   -- R7 law.go:26
  refine .rd (.fieldAddr fd36_9 rfl) ?_
  refine .ef0 (.store ts9 rfl rfl .head rfl (Nat.le_of_ble_eq_true rfl)) ?_
  rintro _ _ rfl
  refine .nil ?_
  refine .cast (X' := blk b4 (Sn.cells xb) 36) (rfl) ?_
  refine .seq ?_
  refine .region ?_   -- R8 law.go:27
  refine .rd (.ldN ia36 ts36 rfl .head rfl) ?_
  refine .ef (.alloc ti36 rfl (ones.of rfl)) ?_
  rintro _ _ ⟨b5, rfl, rfl⟩
  refine .ef0 (.storeAll (vs := Sn.cells xb) ts36 rfl rfl rfl .head rfl (ones.of rfl)) ?_
  rintro _ _ rfl
  refine .nil ?_
  refine .seq ?_
  refine .region ?_   -- R9 law.go:28
  refine .rd (.fieldAddr fd36_9 rfl) ?_
  refine .ef0 (.store ts9 rfl rfl .head rfl (Nat.le_of_ble_eq_true rfl)) ?_
  rintro _ _ rfl
  refine .nil ?_
  refine .cast (X' := blk b5 (Sn.cells xy) 36) (rfl) ?_
  refine .seq ?_
  refine .region ?_   -- R10 law.go:29
  refine .rd (.ldN ia36 ts36 rfl (.tail .head) rfl) ?_
  refine .ef (.alloc ti36 rfl (ones.of rfl)) ?_
  rintro _ _ ⟨b6, rfl, rfl⟩
  refine .ef0 (.storeAll (vs := Sn.cells xb) ts36 rfl rfl rfl .head rfl (ones.of rfl)) ?_
  rintro _ _ rfl
  refine .nil ?_
  refine .seq ?_
  refine .region ?_   -- R11 law.go:30
  refine .rd (.fieldAddr fd36_4 rfl) ?_
  refine .ef0 (.store ts3 rfl rfl .head rfl (Nat.le_of_ble_eq_true rfl)) ?_
  rintro _ _ rfl
  refine .nil ?_
  refine .cast (X' := blk b6 (Sn.cells xz) 36) (rfl) ?_
  refine .seq ?_
  refine .region ?_   -- R12 law.go:31
  refine .rd (.ldN ia36 ts36 rfl (.tail (.tail (.tail (.tail (.tail .head))))) rfl) ?_
  refine .rd (.ldN ia36 ts36 rfl (.tail (.tail (.tail (.tail .head)))) rfl) ?_
  refine .rd (.ldN ia36 ts36 rfl (.tail (.tail (.tail .head))) rfl) ?_
  refine .rd (.ldN ia36 ts36 rfl (.tail (.tail .head)) rfl) ?_
  refine .ef (.buildSlice (n := 4) (cs := [xs, xa, xr, xb].flatMap Sn.cells) Try.underlying22 ti36 rfl (by decide) (fill4 _ _ _ _) (ones.of rfl)) ?_
  rintro _ _ ⟨q12, rfl, rfl⟩
  refine .fn rfl rfl .nil ((Knows.blk .head).mono fun _ h => .inr ⟨q12, 0, rfl, h⟩) (Check_ok [xs, xa, xr, xb] (some ⟨q12, 0, none⟩) 4 (by decide)) (fun v G1 hq => ?_)
  obtain ⟨rfl, rfl⟩ := hq
  simp only [List.nil_append]
  rw [ex1]
  refine .rd (.move rfl) ?_
  refine .rd (.extract rfl rfl) ?_
  refine .rd (.extract rfl rfl) ?_
  refine .rd (.assign rfl) ?_
  refine .rd (.assign rfl) ?_
  refine .nil ?_
  refine .seq ?_
  refine .region ?_   -- R13 law.go:32
  refine .rd (.ldN ia36 ts36 rfl (.tail (.tail (.tail (.tail (.tail (.tail .head)))))) rfl) ?_
  refine .rd (.ldN ia36 ts36 rfl (.tail (.tail (.tail (.tail (.tail .head))))) rfl) ?_
  refine .rd (.ldN ia36 ts36 rfl (.tail (.tail (.tail (.tail .head)))) rfl) ?_
  refine .rd (.ldN ia36 ts36 rfl (.tail (.tail .head)) rfl) ?_
  refine .ef (.buildSlice (n := 4) (cs := [xs, xa, xr, xy].flatMap Sn.cells) Try.underlying22 ti36 rfl (by decide) (fill4 _ _ _ _) (ones.of rfl)) ?_
  rintro _ _ ⟨q13, rfl, rfl⟩
  refine .fn rfl rfl .nil ((Knows.blk .head).mono fun _ h => .inr ⟨q13, 0, rfl, h⟩) (Check_ok [xs, xa, xr, xy] (some ⟨q13, 0, none⟩) 4 (by decide)) (fun v G1 hq => ?_)
  obtain ⟨rfl, rfl⟩ := hq
  simp only [List.nil_append]
  rw [ex2]
  refine .rd (.move rfl) ?_
  refine .rd (.extract rfl rfl) ?_
  refine .rd (.extract rfl rfl) ?_
  refine .rd (.assign rfl) ?_
  refine .rd (.assign rfl) ?_
  refine .nil ?_
  refine .seq ?_
  refine .region ?_   -- R14 law.go:33
  refine .rd (.ldN ia36 ts36 rfl (.tail (.tail (.tail (.tail (.tail .head))))) rfl) ?_
  refine .rd (.ldN ia36 ts36 rfl (.tail (.tail (.tail (.tail .head)))) rfl) ?_
  refine .ef (.buildSlice (n := 2) (cs := [xr, xb].flatMap Sn.cells) Try.underlying22 ti36 rfl (by decide) (fill2 _ _) (ones.of rfl)) ?_
  rintro _ _ ⟨q14, rfl, rfl⟩
  refine .fn rfl rfl .nil ((Knows.blk .head).mono fun _ h => .inr ⟨q14, 0, rfl, h⟩) (Check_ok [xr, xb] (some ⟨q14, 0, none⟩) 2 (by decide)) (fun v G1 hq => ?_)
  obtain ⟨rfl, rfl⟩ := hq
  simp only [List.nil_append]
  rw [ex3]
  refine .rd (.move rfl) ?_
  refine .rd (.extract rfl rfl) ?_
  refine .rd (.extract rfl rfl) ?_
  refine .rd (.assign rfl) ?_
  refine .rd (.assign rfl) ?_
  refine .nil ?_
  refine .seq ?_
  refine .region ?_   -- R15 law.go:34
  refine .rd (.ldN ia36 ts36 rfl (.tail (.tail (.tail (.tail (.tail (.tail (.tail (.tail .head)))))))) rfl) ?_
  refine .rd (.ldN ia36 ts36 rfl (.tail (.tail (.tail (.tail (.tail (.tail (.tail .head))))))) rfl) ?_
  refine .rd (.ldN ia36 ts36 rfl (.tail (.tail (.tail (.tail (.tail (.tail (.tail .head))))))) rfl) ?_
  refine .ef (.buildSlice (n := 3) (cs := [xs, xa, xa].flatMap Sn.cells) Try.underlying22 ti36 rfl (by decide) (fill3 _ _ _) (ones.of rfl)) ?_
  rintro _ _ ⟨q15, rfl, rfl⟩
  refine .fn rfl rfl .nil ((Knows.blk .head).mono fun _ h => .inr ⟨q15, 0, rfl, h⟩) (Check_ok [xs, xa, xa] (some ⟨q15, 0, none⟩) 3 (by decide)) (fun v G1 hq => ?_)
  obtain ⟨rfl, rfl⟩ := hq
  simp only [List.nil_append]
  rw [ex4]
  refine .rd (.move rfl) ?_
  refine .rd (.extract rfl rfl) ?_
  refine .rd (.extract rfl rfl) ?_
  refine .rd (.assign rfl) ?_
  refine .rd (.assign rfl) ?_
  refine .nil ?_
  refine .seq ?_
  refine .region ?_   -- R16 law.go:35
  refine .rd (.ldN ia36 ts36 rfl (.tail (.tail (.tail (.tail (.tail (.tail (.tail (.tail (.tail .head))))))))) rfl) ?_
  refine .rd (.ldN ia36 ts36 rfl (.tail (.tail (.tail (.tail (.tail (.tail (.tail (.tail .head)))))))) rfl) ?_
  refine .rd (.ldN ia36 ts36 rfl (.tail (.tail (.tail (.tail (.tail (.tail (.tail .head))))))) rfl) ?_
  refine .rd (.ldN ia36 ts36 rfl (.tail (.tail (.tail (.tail .head)))) rfl) ?_
  refine .ef (.buildSlice (n := 4) (cs := [xs, xa, xr, xz].flatMap Sn.cells) Try.underlying22 ti36 rfl (by decide) (fill4 _ _ _ _) (ones.of rfl)) ?_
  rintro _ _ ⟨q16, rfl, rfl⟩
  refine .fn rfl rfl .nil ((Knows.blk .head).mono fun _ h => .inr ⟨q16, 0, rfl, h⟩) (Check_ok [xs, xa, xr, xz] (some ⟨q16, 0, none⟩) 4 (by decide)) (fun v G1 hq => ?_)
  obtain ⟨rfl, rfl⟩ := hq
  simp only [List.nil_append]
  rw [ex5]
  refine .rd (.move rfl) ?_
  refine .rd (.extract rfl rfl) ?_
  refine .rd (.extract rfl rfl) ?_
  refine .rd (.assign rfl) ?_
  refine .rd (.assign rfl) ?_
  refine .nil ?_
  refine .seq ?_
  refine .region ?_   -- R17 law.go:36
  refine .rd (.move rfl) ?_
  refine .rd (.eqI rfl rfl) ?_
  refine .alter (t := 71) (v' := .bool true) rfl (congrArg Value.bool (decide_eq_true (by first | rfl | decide))) ?_
  refine .rd (.move rfl) ?_
  refine .on (t := 72) rfl rfl ?_
  refine .rd (.move rfl) ?_
  refine .on (t := 72) rfl rfl ?_
  refine .rd (.eqI rfl rfl) ?_
  refine .alter (t := 74) (v' := .bool true) rfl (congrArg Value.bool (decide_eq_true (by first | rfl | decide))) ?_
  refine .rd (.pickT rfl rfl) ?_
  refine .rd (.move rfl) ?_
  refine .on (t := 76) rfl rfl ?_
  refine .rd (.move rfl) ?_
  refine .on (t := 76) rfl rfl ?_
  refine .rd (.eqT (l := wValue) (m := wValue) rfl rfl) ?_
  refine .alter (t := 78) (v' := .bool true) rfl (congrArg Value.bool (decide_eq_true rfl)) ?_
  refine .rd (.pickT rfl rfl) ?_
  refine .rd (.move rfl) ?_
  refine .on (t := 80) rfl rfl ?_
  refine .rd (.move rfl) ?_
  refine .on (t := 80) rfl rfl ?_
  refine .rd (.eqI rfl rfl) ?_
  refine .alter (t := 82) (v' := .bool true) rfl (congrArg Value.bool (decide_eq_true (by first | rfl | decide))) ?_
  refine .rd (.pickT rfl rfl) ?_
  refine .rd (.move rfl) ?_
  refine .on (t := 84) rfl rfl ?_
  refine .rd (.move rfl) ?_
  refine .on (t := 84) rfl rfl ?_
  refine .rd (.eqT (l := wUnsent) (m := wUnsent) rfl rfl) ?_
  refine .alter (t := 86) (v' := .bool true) rfl (congrArg Value.bool (decide_eq_true rfl)) ?_
  refine .rd (.pickT rfl rfl) ?_
  refine .rd (.move rfl) ?_
  refine .on (t := 88) rfl rfl ?_
  refine .rd (.move rfl) ?_
  refine .on (t := 88) rfl rfl ?_
  refine .rd (.eqI rfl rfl) ?_
  refine .alter (t := 90) (v' := .bool true) rfl (congrArg Value.bool (decide_eq_true (by first | rfl | decide))) ?_
  refine .rd (.pickT rfl rfl) ?_
  refine .rd (.move rfl) ?_
  refine .on (t := 92) rfl rfl ?_
  refine .rd (.move rfl) ?_
  refine .on (t := 92) rfl rfl ?_
  refine .rd (.eqT (l := wCall) (m := wCall) rfl rfl) ?_
  refine .alter (t := 94) (v' := .bool true) rfl (congrArg Value.bool (decide_eq_true rfl)) ?_
  refine .rd (.pickT rfl rfl) ?_
  refine .rd (.move rfl) ?_
  refine .on (t := 96) rfl rfl ?_
  refine .rd (.move rfl) ?_
  refine .on (t := 96) rfl rfl ?_
  refine .rd (.eqI rfl rfl) ?_
  refine .alter (t := 98) (v' := .bool true) rfl (congrArg Value.bool (decide_eq_true (by first | rfl | decide))) ?_
  refine .rd (.pickT rfl rfl) ?_
  refine .rd (.move rfl) ?_
  refine .on (t := 100) rfl rfl ?_
  refine .rd (.move rfl) ?_
  refine .on (t := 100) rfl rfl ?_
  refine .rd (.eqT (l := wTwice) (m := wTwice) rfl rfl) ?_
  refine .alter (t := 102) (v' := .bool true) rfl (congrArg Value.bool (decide_eq_true rfl)) ?_
  refine .rd (.pickT rfl rfl) ?_
  refine .rd (.assign rfl) ?_
  refine .nil ?_
  refine .retP Try.func8 (.cons (.tmp rfl) .nil) (.cons (.tail (.tail (.tail (.tail (.tail (.tail (.tail (.tail (.tail (.tail (.tail .head))))))))))) .nil) ?_
  exact ⟨[], ⟨rfl, rfl⟩, rfl⟩

set_option maxRecDepth 20000 in
theorem pick_ok (c n : Int) (hc : i64 c) (hn : 0 < n) : Cn Try.prog 11 [.int .i64 c, .int .i64 n] (fun _ => True) [] fun v G => v = .int .i64 (pickN c n) ∧ G = [] := by
  refine .enter Try.func11 rfl (by kernel_rfl) rfl fun R k => ?_
  obtain ⟨hc1, hc2⟩ := hc
  refine .seq ?_
  refine .region ?_   -- R0 law.go:11
  refine .rd (.assign rfl) ?_
  refine .nil ?_
  refine .seq ?_
  refine .seq ?_
  refine .region ?_   -- R1 law.go:12
  refine .rd (.move rfl) ?_
  refine .rd (.lt rfl rfl) ?_
  refine .nil ?_
  refine .condP rfl (fun h1 => ?_) (fun h1 => ?_)
  · refine .region ?_   -- R2 law.go:13
    refine .rd (.move rfl) ?_
    refine .rd (.add rfl rfl (by omega) (by omega)) ?_
    refine .rd (.neg rfl (by omega) (by omega)) ?_
    refine .rd (.assign rfl) ?_
    refine .nil ?_
    refine .seq ?_
    refine .region ?_   -- R3 law.go:15
    refine .rd (.move rfl) ?_
    refine .rd (.move rfl) ?_
    refine .rd (.rem rfl rfl (by omega) (by omega)) ?_
    refine .rd (.assign rfl) ?_
    refine .nil ?_
    have hv : pickN c n = (-(c + 1)) % n := by unfold pickN; rw [if_pos h1]
    rw [hv]
    refine .retP Try.func11 (.cons (.tmp rfl) .nil) (.cons .head .nil) ?_
    exact ⟨[], ⟨rfl, rfl⟩, rfl⟩
  · refine .skip ?_
    refine .seq ?_
    refine .region ?_   -- R3 law.go:15
    refine .rd (.move rfl) ?_
    refine .rd (.move rfl) ?_
    refine .rd (.rem rfl rfl (by omega) (by omega)) ?_
    refine .rd (.assign rfl) ?_
    refine .nil ?_
    have hv : pickN c n = c % n := by unfold pickN; rw [if_neg h1]
    rw [hv]
    refine .retP Try.func11 (.cons (.tmp rfl) .nil) (.cons .head .nil) ?_
    exact ⟨[], ⟨rfl, rfl⟩, rfl⟩

end Go.Proofs.Ytahpokcigdjilaa

