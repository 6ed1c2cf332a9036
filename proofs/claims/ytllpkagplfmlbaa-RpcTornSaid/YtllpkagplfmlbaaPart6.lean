/- Part 6 of a claim's texts: rules for the machine's steps, and steps through functions of the program, under the conditions that each theorem states. -/
import Derived.Test.YtllpkagplfmlbaaProg
import Derived.KernelRfl
import Derived.Test.YtllpkagplfmlbaaPart1
import Derived.Test.YtllpkagplfmlbaaPart2
import Derived.Test.YtllpkagplfmlbaaPart4
import Derived.Test.YtllpkagplfmlbaaPart5
set_option linter.unusedVariables false
namespace Go.Proofs.Ytllpkagplfmlbaa
open Go Go.Sp

set_option linter.unusedVariables false

namespace rpc12
theorem ti54 : TI Try.prog 54 21 232 (.agg #[.int .i64 0, .int .i64 0, .int .i64 0, .int .i64 0, .int .i64 0, .int .i64 0, .int .i64 0, .int .i64 0, .int .i64 0, .int .i64 0, .int .i64 0, .int .i64 0, .int .i64 0, .int .i64 0, .int .i64 0, .int .i64 0, .string ⟨#[]⟩, .string ⟨#[]⟩, .slice none 0 0, .slice none 0 0, .slice none 0 0]) := .of (by kernel_rfl)
theorem bld54_0 (x0 : Int) (w : World) : (Instr.build 54 (([0] : List Nat).zip [.int .i64 x0]).toArray).run Try.prog w = .ok (.agg #[.int .i64 x0, .int .i64 0, .int .i64 0, .int .i64 0, .int .i64 0, .int .i64 0, .int .i64 0, .int .i64 0, .int .i64 0, .int .i64 0, .int .i64 0, .int .i64 0, .int .i64 0, .int .i64 0, .int .i64 0, .int .i64 0, .string ⟨#[]⟩, .string ⟨#[]⟩, .slice none 0 0, .slice none 0 0, .slice none 0 0]) w := by kernel_rfl
theorem ts54 : TS Try.prog 54 21 := .of (by kernel_rfl)
theorem ia54 : IsAgg Try.prog 54 := ⟨_, Try.underlying54, trivial⟩
theorem ti3 : TI Try.prog 3 1 8 (.int .i64 0) := .of (by kernel_rfl)
theorem ts3 : TS Try.prog 3 1 := .of (by kernel_rfl)
theorem na3 : NotAgg Try.prog 3 := ⟨_, Try.underlying3, trivial⟩
theorem fd54_1 : FD Try.prog 54 1 1 := .of Try.underlying54 (by kernel_rfl)
theorem fd54_2 : FD Try.prog 54 2 2 := .of Try.underlying54 (by kernel_rfl)
theorem fd54_3 : FD Try.prog 54 3 3 := .of Try.underlying54 (by kernel_rfl)
theorem fd54_4 : FD Try.prog 54 4 4 := .of Try.underlying54 (by kernel_rfl)
theorem fd54_5 : FD Try.prog 54 5 5 := .of Try.underlying54 (by kernel_rfl)
theorem fd54_6 : FD Try.prog 54 6 6 := .of Try.underlying54 (by kernel_rfl)
theorem fd54_7 : FD Try.prog 54 7 7 := .of Try.underlying54 (by kernel_rfl)
theorem fd54_8 : FD Try.prog 54 8 8 := .of Try.underlying54 (by kernel_rfl)
theorem fd54_9 : FD Try.prog 54 9 9 := .of Try.underlying54 (by kernel_rfl)
theorem fd54_10 : FD Try.prog 54 10 10 := .of Try.underlying54 (by kernel_rfl)
theorem fd54_11 : FD Try.prog 54 11 11 := .of Try.underlying54 (by kernel_rfl)
theorem fd54_12 : FD Try.prog 54 12 12 := .of Try.underlying54 (by kernel_rfl)
theorem fd54_13 : FD Try.prog 54 13 13 := .of Try.underlying54 (by kernel_rfl)
theorem fd54_14 : FD Try.prog 54 14 14 := .of Try.underlying54 (by kernel_rfl)
theorem fd54_15 : FD Try.prog 54 15 15 := .of Try.underlying54 (by kernel_rfl)
theorem ts28 : TS Try.prog 28 1 := .of (by kernel_rfl)
theorem fd80_1 : FD Try.prog 80 1 1 := .of Try.underlying80 (by kernel_rfl)
theorem na4 : NotAgg Try.prog 4 := ⟨_, Try.underlying4, trivial⟩
theorem fd80_0 : FD Try.prog 80 0 0 := .of Try.underlying80 (by kernel_rfl)
theorem na9 : NotAgg Try.prog 9 := ⟨_, Try.underlying9, trivial⟩
theorem fd54_20 : FD Try.prog 54 20 20 := .of Try.underlying54 (by kernel_rfl)
theorem na37 : NotAgg Try.prog 37 := ⟨_, Try.underlying37, trivial⟩
theorem ts37 : TS Try.prog 37 1 := .of (by kernel_rfl)
theorem bld86_0 (x0 : Int) (w : World) : (Instr.build 86 (([0] : List Nat).zip [.int .i64 x0]).toArray).run Try.prog w = .ok (.agg #[.int .i64 x0, .int .i64 0, .string ⟨#[]⟩]) w := by kernel_rfl
theorem ti86 : TI Try.prog 86 3 32 (.agg #[.int .i64 0, .int .i64 0, .string ⟨#[]⟩]) := .of (by kernel_rfl)
theorem ts86 : TS Try.prog 86 3 := .of (by kernel_rfl)
theorem fd86_1 : FD Try.prog 86 1 1 := .of Try.underlying86 (by kernel_rfl)
theorem fd86_2 : FD Try.prog 86 2 2 := .of Try.underlying86 (by kernel_rfl)
theorem ts9 : TS Try.prog 9 1 := .of (by kernel_rfl)
theorem fd54_19 : FD Try.prog 54 19 19 := .of Try.underlying54 (by kernel_rfl)
theorem na52 : NotAgg Try.prog 52 := ⟨_, Try.underlying52, trivial⟩
theorem ia86 : IsAgg Try.prog 86 := ⟨_, Try.underlying86, trivial⟩
theorem ts52 : TS Try.prog 52 1 := .of (by kernel_rfl)
theorem ti27 : TI Try.prog 27 6 64 (.agg #[.int .i64 0, .int .i64 0, .int .i64 0, .int .i64 0, .int .i64 0, .slice none 0 0]) := .of (by kernel_rfl)
theorem ts27 : TS Try.prog 27 6 := .of (by kernel_rfl)
theorem fd54_18 : FD Try.prog 54 18 18 := .of Try.underlying54 (by kernel_rfl)
theorem na51 : NotAgg Try.prog 51 := ⟨_, Try.underlying51, trivial⟩
theorem ia27 : IsAgg Try.prog 27 := ⟨_, Try.underlying27, trivial⟩
theorem ts51 : TS Try.prog 51 1 := .of (by kernel_rfl)
theorem fd54_17 : FD Try.prog 54 17 17 := .of Try.underlying54 (by kernel_rfl)
theorem fd54_16 : FD Try.prog 54 16 16 := .of Try.underlying54 (by kernel_rfl)
end rpc12
open rpc12

theorem shr_has {has j : Nat} (hj : j ≤ 64) : Value.int .i64 ((has : Int).fdiv (2 ^ (min j IntKind.i64.bits))) = .int .i64 ((has / 2 ^ j : Nat) : Int) := by
  rw [show IntKind.i64.bits = 64 from rfl, Nat.min_eq_left hj]
  congr 1
  rw [Int.fdiv_eq_ediv_of_nonneg _ (Int.pow_nonneg (by decide))]; push_cast; rfl
theorem bit_rem (has j : Nat) : Value.bool (decide (((has / 2 ^ j : Nat) : Int) % 2 = 1)) = .bool (bit has j) := by
  unfold bit; congr 1; exact decide_eq_decide.2 (by omega)
theorem qB_no {p : Rdr} (h : ¬ (readBatch p.1).2.2 = 0) : qB p = ((readBatch p.1).1, p.1, true) := if_neg h
theorem qB_yes {p : Rdr} (h : (readBatch p.1).2.2 = 0) : qB p = ((readBatch p.1).1, p.1.drop (readBatch p.1).2.1.toNat, p.2) := if_pos h
theorem made15 : (madeCells (Value.int .i64 0).cells (15 * 1)).toList = nvec 15 [] := by kernel_rfl

set_option maxHeartbeats 4000000 in
set_option maxRecDepth 20000 in
theorem read4_ok (r : Nat) (p : Rdr) (hp : p.1.length ≤ 65536) : Cn Try.prog 61 [.pointer (some ⟨r, 0, none⟩)] (fun _ => True) [blk r [.string (str p.1), .bool p.2] 80] fun v G => ∃ (m : MsgM) (ok : Bool), v = .tuple #[.agg m.cells.toArray, .bool ok] ∧ (ok = true ↔ (qMsg p).2.2 = false ∧ (qMsg p).2.1 = []) ∧ (ok = true → m.msg = (qMsg p).1 ∧ QGood m.msg) ∧ ∃ q : Rdr, G = [blk r [.string (str q.1), .bool q.2] 80, know m.at_] := by
  refine .enter Try.func61 rfl (by kernel_rfl) rfl fun R k => ?_
  refine .seq ?_
  refine .region ?_
  refine .ef (.alloc ti54 rfl (ones.of rfl)) ?_
  rintro _ _ ⟨b2, rfl, rfl⟩
  refine .rd (.assign rfl) ?_
  refine .nil ?_
  refine .seq ?_
  refine .region ?_
  refine .rd (.move rfl) ?_
  refine .fn rfl rfl (.cons (.tail .head) .nil) (fun _ _ _ => trivial) (qdint_ok r p (by omega)) (fun v G1 hq => ?_)
  obtain ⟨rfl, rfl⟩ := hq
  simp only [List.cons_append, List.nil_append]
  refine .rd (.build rfl (bld54_0 _)) ?_
  refine .ef (.alloc ti54 rfl (ones.of rfl)) ?_
  rintro _ _ ⟨b4, rfl, rfl⟩
  refine .ef0 (.storeAll (vs := MsgM.cells { zeroMM with kind := (qdI p).1 }) ts54 rfl rfl rfl .head rfl (ones.of rfl)) ?_
  rintro _ _ rfl
  refine .nil ?_
  refine .seq ?_
  obtain ⟨k1, hk1⟩ : ∃ x, x = (qdI p).1 := ⟨_, rfl⟩
  obtain ⟨p1, hp1⟩ : ∃ x, x = (qdI p).2 := ⟨_, rfl⟩
  have hki : i64 k1 := by rw [hk1]; exact qdI_i64 _
  have hp1l := qdI_len p
  rw [← hp1] at hp1l
  refine .perm (.cons (.tail .head) (.cons .head (.cons .head (.cons .head .nil)))) ?_
  refine .cast (X' := blk r [.string (str p1.1), .bool p1.2] 80) (by rw [hp1]) ?_
  refine .perm (.cons (.tail .head) (.cons .head (.cons .head (.cons .head .nil)))) ?_
  refine .cast (X' := blk b4 (MsgM.cells ({ zeroMM with kind := k1 })) 54) (by rw [hk1]) ?_
  refine .region ?_
  refine .rd (.move rfl) ?_
  refine .fn rfl rfl (.cons (.tail .head) .nil) (fun _ _ _ => trivial) (qdint_ok r p1 (by omega)) (fun v G1 hq => ?_)
  obtain ⟨rfl, rfl⟩ := hq
  simp only [List.cons_append, List.nil_append]
  refine .rd (.assign rfl) ?_
  refine .nil ?_
  refine .seq ?_
  refine .seq ?_
  obtain ⟨hh, hhh⟩ : ∃ x, x = (qdI p1).1 := ⟨_, rfl⟩
  obtain ⟨q, hq⟩ : ∃ x, x = (qdI p1).2 := ⟨_, rfl⟩
  have hql := qdI_len p1
  rw [← hq] at hql
  refine .alter (t := 5) (v' := .int .i64 hh) rfl (by rw [hhh]) ?_
  refine .cast (X' := blk r [.string (str q.1), .bool q.2] 80) (by rw [hq]) ?_
  refine .region ?_
  refine RunO.join 6 28 (decide (hh < 0) || decide (1048576 ≤ hh)) ?_ ?_
  · refine .rd (.move rfl) ?_
    refine .rd (.lt rfl rfl) ?_
    refine .rd (.move rfl) ?_
    refine .split (t := 25) rfl (fun g3 => ?_) (fun g3 => ?_)
    · replace g3 := of_decide_eq_true g3
      refine .off (t := 25) rfl rfl rfl ?_
      refine .off (t := 25) rfl rfl rfl ?_
      refine .rd (.pickT rfl rfl) ?_
      refine .nil ⟨rfl, ?_, by repeat (first | exact Le.refl _ | refine Le.skip rfl ?_)⟩
      exact congrArg (fun x => some (Value.bool x)) (Eq.symm (show (decide (hh < 0) || decide (1048576 ≤ hh)) = _ by (rw [decide_eq_true g3]) <;> rfl))
    · replace g3 := of_decide_eq_false g3
      refine .on (t := 25) rfl rfl ?_
      refine .rd (.move rfl) ?_
      refine .on (t := 25) rfl rfl ?_
      refine .rd (.ge rfl rfl) ?_
      refine .rd (.pickF rfl rfl) ?_
      refine .nil ⟨rfl, ?_, by repeat (first | exact Le.refl _ | refine Le.skip rfl ?_)⟩
      exact congrArg (fun x => some (Value.bool x)) (Eq.symm (show (decide (hh < 0) || decide (1048576 ≤ hh)) = _ by (rw [decide_eq_false g3]) <;> rfl))
  refine .nil ?_
  refine .cond rfl (fun h3 => ?_) (fun h3 => ?_)
  · have hbad := qMsg_out (p := p) (by rw [← hp1, ← hhh]; simp at h3; omega)
    have hbad2 : (qMsg p).2.2 = true := by rw [hbad]
    refine .seq ?_
    refine .region ?_
    refine .rd (.ldN ia54 ts54 rfl (.tail .head) rfl) ?_
    refine .ef0 (.storeAll (vs := MsgM.cells ({ zeroMM with kind := k1 })) ts54 rfl rfl rfl (.tail (.tail .head)) rfl (ones.of rfl)) ?_
    rintro _ _ rfl
    refine .rd (.assign rfl) ?_
    refine .nil ?_
    refine .knowT (({ zeroMM with kind := k1 } : MsgM).at_) (fun w => zeroMM_at w) ?_
    refine .retP Try.func61 (.cons (.blkN ia54 ts54 rfl (.tail .head) rfl) (.cons (.tmp rfl) .nil)) (.cons (.tail (.tail .head)) (.cons .head (.cons (.tail (.tail .head)) .nil))) ?_
    exact ⟨[_, _], ⟨{ zeroMM with kind := k1 }, false, rfl, by rw [hbad2]; exact ⟨fun h => (by cases h), fun h => (by cases h.1)⟩, fun h => (by cases h), q, rfl⟩, rfl⟩
  · have hR : 0 ≤ hh ∧ hh < 1048576 := by simp at h3; omega
    obtain ⟨has, hhas⟩ : ∃ n : Nat, n = hh.toNat := ⟨_, rfl⟩
    have hin := qMsg_in (p := p) (by rw [← hp1, ← hhh]; exact hR)
    rw [← hp1, ← hhh, ← hk1, ← hq, ← hhas] at hin
    have hhl : has < 1048576 := by omega
    refine .alter (t := 5) (v' := .int .i64 (has : Nat)) rfl (congrArg (Value.int .i64) (by omega)) ?_
    refine .skip ?_
    refine .seq ?_
    refine .region ?_
    refine .ef (.make (l := 15) (c := 15) Try.underlying37 ti3 rfl (by decide) (ones.of rfl) rfl rfl (by decide) (by decide) (by decide)) ?_
    rintro _ _ ⟨lb, rfl, rfl⟩
    refine .rd (.assign rfl) ?_
    refine .nil ?_
    refine .cast (X' := blk lb (nvec 15 (rdNums qdI has 0 q).1) 3) (by rw [made15]; rfl) ?_
    refine .seq ?_
    refine .seq ?_
    refine .region ?_
    refine .rd (.assign rfl) ?_
    refine .nil ?_
    refine .block ?_
    refine .loop (σ := Nat) (fun k => k ≤ 15) (fun k => 15 - k) (fun k => [(0, .pointer (some ⟨r, 0, none⟩)), (2, .pointer (some ⟨b2, 0, none⟩)), (4, .pointer (some ⟨b4, 0, none⟩)), (5, .int .i64 (has : Nat)), (6, .slice (some ⟨lb, 0, none⟩) 15 15), (7, .int .i64 (k : Nat))]) (fun k => [blk r [.string (str (rdNums qdI has k q).2.1), .bool (rdNums qdI has k q).2.2] 80, blk b4 (MsgM.cells ({ zeroMM with kind := k1 })) 54, blk lb (nvec 15 (rdNums qdI has k q).1) 3, blk b2 zeroMM.cells 54, R]) 0 (by omega) (.cons rfl (.cons rfl (.cons rfl (.cons rfl (.cons rfl (.cons rfl .nil)))))) (.cons (.tail .head) (.cons (.tail .head) (.cons .head (.cons .head (.cons .head .nil))))) (fun k hI ih => ?_)
    have hk15 := hI
    have hxl := rdNums_len qdI has k q
    have hcl := rdNums_short (has := has) qdI_len k q
    refine .seq ?_
    refine .seq ?_
    refine .region ?_
    refine .rd (.move rfl) ?_
    refine .rd (.lt rfl rfl) ?_
    refine .nil ?_
    refine .condP rfl (fun h7 => ?_) (fun h7 => ?_)
    · refine .skip ?_
      refine .seq ?_
      refine .block ?_
      refine .seq ?_
      refine .region ?_
      refine .rd (.move rfl) ?_
      refine .rd (.move rfl) ?_
      refine .rd (.shr (n := k) rfl rfl) ?_
      refine .alter (t := 37) (v' := .int .i64 ((has / 2 ^ (k) : Nat) : Int)) rfl (shr_has (by omega)) ?_
      refine .rd (.rem rfl rfl (Int.natCast_nonneg _) (by decide)) ?_
      refine .rd (.eqI rfl rfl) ?_
      refine .alter (t := 39) (v' := .bool (bit has (k))) rfl (bit_rem has (k)) ?_
      refine .nil ?_
      refine .cond rfl (fun h9 => ?_) (fun h9 => ?_)
      · refine .region ?_
        refine .rd (.move rfl) ?_
        refine .rd (.move rfl) ?_
        refine .rd (.move rfl) ?_
        refine .fn rfl rfl (.cons .head .nil) (fun _ _ _ => trivial) (qdint_ok r (rdNums qdI has k q).2 (by omega)) (fun v G1 hq => ?_)
        obtain ⟨rfl, rfl⟩ := hq
        simp only [List.cons_append, List.nil_append]
        refine .rd (.indexAddr Try.underlying37 ts3 rfl rfl (by omega) (by omega)) ?_
        refine .ef0 (.store ts3 rfl rfl (.tail (.tail .head)) rfl (by rw [nvec_len]; omega)) ?_
        rintro _ _ rfl
        have hs1 : rdNums qdI has (k + 1) q = ((rdNums qdI has k q).1 ++ [(qdI (rdNums qdI has k q).2).1], (qdI (rdNums qdI has k q).2).2) := by rw [rdNums, rdOpt_true h9]
        refine .cast (X' := blk lb (nvec 15 (rdNums qdI has (k + 1) q).1) 3) (by rw [hs1, ← nvec_set (by omega), hxl]; congr 2; omega) ?_
        refine .perm (.cons (.tail .head) (.cons .head (.cons .head (.cons .head (.cons .head .nil))))) ?_
        refine .cast (X' := blk r [.string (str (rdNums qdI has (k + 1) q).2.1), .bool (rdNums qdI has (k + 1) q).2.2] 80) (by rw [hs1]) ?_
        refine .nil ?_
        refine .inBlock ?_
        refine .region ?_
        refine .rd (.move rfl) ?_
        refine .rd (.add rfl rfl (by omega) (by omega)) ?_
        refine .rd (.assign rfl) ?_
        refine .nil ?_
        exact (ih (k + 1) (by omega) (by omega)).to (.cons rfl (.cons rfl (.cons rfl (.cons rfl (.cons rfl (.cons rfl .nil)))))) (.cons .head (.cons (.tail .head) (.cons .head (.cons .head (.cons .head .nil)))))
      · have hs1 : rdNums qdI has (k + 1) q = ((rdNums qdI has k q).1 ++ [0], (rdNums qdI has k q).2) := by rw [rdNums, rdOpt_false h9]
        refine .perm (.cons (.tail (.tail .head)) (.cons .head (.cons .head (.cons .head (.cons .head .nil))))) ?_
        refine .cast (X' := blk lb (nvec 15 (rdNums qdI has (k + 1) q).1) 3) (by rw [hs1, nvec_zero (by omega)]) ?_
        refine .perm (.cons (.tail .head) (.cons .head (.cons .head (.cons .head (.cons .head .nil))))) ?_
        refine .cast (X' := blk r [.string (str (rdNums qdI has (k + 1) q).2.1), .bool (rdNums qdI has (k + 1) q).2.2] 80) (by rw [hs1]) ?_
        refine .skip ?_
        refine .inBlock ?_
        refine .region ?_
        refine .rd (.move rfl) ?_
        refine .rd (.add rfl rfl (by omega) (by omega)) ?_
        refine .rd (.assign rfl) ?_
        refine .nil ?_
        exact (ih (k + 1) (by omega) (by omega)).to (.cons rfl (.cons rfl (.cons rfl (.cons rfl (.cons rfl (.cons rfl .nil)))))) (.cons .head (.cons (.tail .head) (.cons .head (.cons .head (.cons .head .nil)))))
    · obtain rfl : k = 15 := by omega
      obtain ⟨x0, x1, x2, x3, x4, x5, x6, x7, x8, x9, x10, x11, x12, x13, x14, hx⟩ := fifteen hxl
      clear ih
      refine .perm (.cons (.tail (.tail .head)) (.cons .head (.cons .head (.cons .head (.cons .head .nil))))) ?_
      refine .cast (X' := blk lb [.int .i64 x0, .int .i64 x1, .int .i64 x2, .int .i64 x3, .int .i64 x4, .int .i64 x5, .int .i64 x6, .int .i64 x7, .int .i64 x8, .int .i64 x9, .int .i64 x10, .int .i64 x11, .int .i64 x12, .int .i64 x13, .int .i64 x14] 3) (by rw [hx]; rfl) ?_
      refine .perm (.cons (.tail (.tail .head)) (.cons .head (.cons .head (.cons .head (.cons .head .nil))))) ?_
      refine .cast (X' := blk b4 [.int .i64 k1, .int .i64 0, .int .i64 0, .int .i64 0, .int .i64 0, .int .i64 0, .int .i64 0, .int .i64 0, .int .i64 0, .int .i64 0, .int .i64 0, .int .i64 0, .int .i64 0, .int .i64 0, .int .i64 0, .int .i64 0, .string (str []), .string (str []), .slice none 0 0, .slice none 0 0, .slice none 0 0] 54) (rfl) ?_
      refine .exit rfl ?_
      refine .seq ?_
      refine .region ?_
      refine .rd (.move rfl) ?_
      refine .rd (.indexAddr Try.underlying37 ts3 rfl rfl (by omega) (by omega)) ?_
      refine .rd (.ld na3 rfl (.tail .head) rfl) ?_
      refine .rd (.fieldAddr fd54_1 rfl) ?_
      refine .ef0 (.store ts3 rfl rfl .head rfl (Nat.le_of_ble_eq_true rfl)) ?_
      rintro _ _ rfl
      refine .nil ?_
      refine .seq ?_
      refine .region ?_
      refine .rd (.move rfl) ?_
      refine .rd (.indexAddr Try.underlying37 ts3 rfl rfl (by omega) (by omega)) ?_
      refine .rd (.ld na3 rfl (.tail .head) rfl) ?_
      refine .rd (.fieldAddr fd54_2 rfl) ?_
      refine .ef0 (.store ts3 rfl rfl .head rfl (Nat.le_of_ble_eq_true rfl)) ?_
      rintro _ _ rfl
      refine .nil ?_
      refine .seq ?_
      refine .region ?_
      refine .rd (.move rfl) ?_
      refine .rd (.indexAddr Try.underlying37 ts3 rfl rfl (by omega) (by omega)) ?_
      refine .rd (.ld na3 rfl (.tail .head) rfl) ?_
      refine .rd (.fieldAddr fd54_3 rfl) ?_
      refine .ef0 (.store ts3 rfl rfl .head rfl (Nat.le_of_ble_eq_true rfl)) ?_
      rintro _ _ rfl
      refine .nil ?_
      refine .seq ?_
      refine .region ?_
      refine .rd (.move rfl) ?_
      refine .rd (.indexAddr Try.underlying37 ts3 rfl rfl (by omega) (by omega)) ?_
      refine .rd (.ld na3 rfl (.tail .head) rfl) ?_
      refine .rd (.fieldAddr fd54_4 rfl) ?_
      refine .ef0 (.store ts3 rfl rfl .head rfl (Nat.le_of_ble_eq_true rfl)) ?_
      rintro _ _ rfl
      refine .nil ?_
      refine .seq ?_
      refine .region ?_
      refine .rd (.move rfl) ?_
      refine .rd (.indexAddr Try.underlying37 ts3 rfl rfl (by omega) (by omega)) ?_
      refine .rd (.ld na3 rfl (.tail .head) rfl) ?_
      refine .rd (.fieldAddr fd54_5 rfl) ?_
      refine .ef0 (.store ts3 rfl rfl .head rfl (Nat.le_of_ble_eq_true rfl)) ?_
      rintro _ _ rfl
      refine .nil ?_
      refine .seq ?_
      refine .region ?_
      refine .rd (.move rfl) ?_
      refine .rd (.indexAddr Try.underlying37 ts3 rfl rfl (by omega) (by omega)) ?_
      refine .rd (.ld na3 rfl (.tail .head) rfl) ?_
      refine .rd (.fieldAddr fd54_6 rfl) ?_
      refine .ef0 (.store ts3 rfl rfl .head rfl (Nat.le_of_ble_eq_true rfl)) ?_
      rintro _ _ rfl
      refine .nil ?_
      refine .seq ?_
      refine .region ?_
      refine .rd (.move rfl) ?_
      refine .rd (.indexAddr Try.underlying37 ts3 rfl rfl (by omega) (by omega)) ?_
      refine .rd (.ld na3 rfl (.tail .head) rfl) ?_
      refine .rd (.fieldAddr fd54_7 rfl) ?_
      refine .ef0 (.store ts3 rfl rfl .head rfl (Nat.le_of_ble_eq_true rfl)) ?_
      rintro _ _ rfl
      refine .nil ?_
      refine .seq ?_
      refine .region ?_
      refine .rd (.move rfl) ?_
      refine .rd (.indexAddr Try.underlying37 ts3 rfl rfl (by omega) (by omega)) ?_
      refine .rd (.ld na3 rfl (.tail .head) rfl) ?_
      refine .rd (.fieldAddr fd54_8 rfl) ?_
      refine .ef0 (.store ts3 rfl rfl .head rfl (Nat.le_of_ble_eq_true rfl)) ?_
      rintro _ _ rfl
      refine .nil ?_
      refine .seq ?_
      refine .region ?_
      refine .rd (.move rfl) ?_
      refine .rd (.indexAddr Try.underlying37 ts3 rfl rfl (by omega) (by omega)) ?_
      refine .rd (.ld na3 rfl (.tail .head) rfl) ?_
      refine .rd (.fieldAddr fd54_9 rfl) ?_
      refine .ef0 (.store ts3 rfl rfl .head rfl (Nat.le_of_ble_eq_true rfl)) ?_
      rintro _ _ rfl
      refine .nil ?_
      refine .seq ?_
      refine .region ?_
      refine .rd (.move rfl) ?_
      refine .rd (.indexAddr Try.underlying37 ts3 rfl rfl (by omega) (by omega)) ?_
      refine .rd (.ld na3 rfl (.tail .head) rfl) ?_
      refine .rd (.fieldAddr fd54_10 rfl) ?_
      refine .ef0 (.store ts3 rfl rfl .head rfl (Nat.le_of_ble_eq_true rfl)) ?_
      rintro _ _ rfl
      refine .nil ?_
      refine .seq ?_
      refine .region ?_
      refine .rd (.move rfl) ?_
      refine .rd (.indexAddr Try.underlying37 ts3 rfl rfl (by omega) (by omega)) ?_
      refine .rd (.ld na3 rfl (.tail .head) rfl) ?_
      refine .rd (.fieldAddr fd54_11 rfl) ?_
      refine .ef0 (.store ts3 rfl rfl .head rfl (Nat.le_of_ble_eq_true rfl)) ?_
      rintro _ _ rfl
      refine .nil ?_
      refine .seq ?_
      refine .region ?_
      refine .rd (.move rfl) ?_
      refine .rd (.indexAddr Try.underlying37 ts3 rfl rfl (by omega) (by omega)) ?_
      refine .rd (.ld na3 rfl (.tail .head) rfl) ?_
      refine .rd (.fieldAddr fd54_12 rfl) ?_
      refine .ef0 (.store ts3 rfl rfl .head rfl (Nat.le_of_ble_eq_true rfl)) ?_
      rintro _ _ rfl
      refine .nil ?_
      refine .seq ?_
      refine .region ?_
      refine .rd (.move rfl) ?_
      refine .rd (.indexAddr Try.underlying37 ts3 rfl rfl (by omega) (by omega)) ?_
      refine .rd (.ld na3 rfl (.tail .head) rfl) ?_
      refine .rd (.fieldAddr fd54_13 rfl) ?_
      refine .ef0 (.store ts3 rfl rfl .head rfl (Nat.le_of_ble_eq_true rfl)) ?_
      rintro _ _ rfl
      refine .nil ?_
      refine .seq ?_
      refine .region ?_
      refine .rd (.move rfl) ?_
      refine .rd (.indexAddr Try.underlying37 ts3 rfl rfl (by omega) (by omega)) ?_
      refine .rd (.ld na3 rfl (.tail .head) rfl) ?_
      refine .rd (.fieldAddr fd54_14 rfl) ?_
      refine .ef0 (.store ts3 rfl rfl .head rfl (Nat.le_of_ble_eq_true rfl)) ?_
      rintro _ _ rfl
      refine .nil ?_
      refine .seq ?_
      refine .region ?_
      refine .rd (.move rfl) ?_
      refine .rd (.indexAddr Try.underlying37 ts3 rfl rfl (by omega) (by omega)) ?_
      refine .rd (.ld na3 rfl (.tail .head) rfl) ?_
      refine .rd (.fieldAddr fd54_15 rfl) ?_
      refine .ef0 (.store ts28 rfl rfl .head rfl (Nat.le_of_ble_eq_true rfl)) ?_
      rintro _ _ rfl
      refine .nil ?_
      refine .cast (X' := blk b4 (MsgM.cells ((⟨k1, x0, x1, x2, x3, x4, x5, x6, x7, x8, x9, x10, x11, x12, x13, x14, [], [], none, 0, [], none, 0, [], none, 0, []⟩ : MsgM))) 54) (rfl) ?_
      refine .seq ?_
      refine .seq ?_
      refine .region ?_
      refine .rd (.move rfl) ?_
      refine .rd (.shr (n := 15) rfl rfl) ?_
      refine .alter (t := 106) (v' := .int .i64 ((has / 2 ^ (15) : Nat) : Int)) rfl (shr_has (by omega)) ?_
      refine .rd (.rem rfl rfl (Int.natCast_nonneg _) (by decide)) ?_
      refine .rd (.eqI rfl rfl) ?_
      refine .alter (t := 108) (v' := .bool (bit has (15))) rfl (bit_rem has (15)) ?_
      refine .nil ?_
      refine .joinAt (E' := [(0, .pointer (some ⟨r, 0, none⟩)), (2, .pointer (some ⟨b2, 0, none⟩)), (4, .pointer (some ⟨b4, 0, none⟩)), (5, .int .i64 (has : Nat))]) (Γ' := [blk r [.string (str (rdOpt (bit has 15) (qdT 65536) [] (rdNums qdI has 15 q).2).2.1), .bool (rdOpt (bit has 15) (qdT 65536) [] (rdNums qdI has 15 q).2).2.2] 80, blk b4 (MsgM.cells ((⟨k1, x0, x1, x2, x3, x4, x5, x6, x7, x8, x9, x10, x11, x12, x13, x14, (rdOpt (bit has 15) (qdT 65536) [] (rdNums qdI has 15 q).2).1, [], none, 0, [], none, 0, [], none, 0, []⟩ : MsgM))) 54, blk b2 zeroMM.cells 54, R]) ?_ (fun fin => ?_)
      · have h26l : (rdOpt (bit has 15) (qdT 65536) [] (rdNums qdI has 15 q).2).2.1.length ≤ 65536 := Nat.le_trans (rdOpt_short (fun p => qdT_len 65536 p) _) (by omega)
        refine .seq ?_
        refine .seq ?_
        refine .region ?_
        refine .rd (.move rfl) ?_
        refine .rd (.shr (n := 16) rfl rfl) ?_
        refine .alter (t := 113) (v' := .int .i64 ((has / 2 ^ (16) : Nat) : Int)) rfl (shr_has (by omega)) ?_
        refine .rd (.rem rfl rfl (Int.natCast_nonneg _) (by decide)) ?_
        refine .rd (.eqI rfl rfl) ?_
        refine .alter (t := 115) (v' := .bool (bit has (16))) rfl (bit_rem has (16)) ?_
        refine .nil ?_
        refine .joinAt (E' := [(0, .pointer (some ⟨r, 0, none⟩)), (2, .pointer (some ⟨b2, 0, none⟩)), (4, .pointer (some ⟨b4, 0, none⟩)), (5, .int .i64 (has : Nat))]) (Γ' := [blk r [.string (str (rdOpt (bit has 16) (qdT 65536) [] (rdOpt (bit has 15) (qdT 65536) [] (rdNums qdI has 15 q).2).2).2.1), .bool (rdOpt (bit has 16) (qdT 65536) [] (rdOpt (bit has 15) (qdT 65536) [] (rdNums qdI has 15 q).2).2).2.2] 80, blk b4 (MsgM.cells ((⟨k1, x0, x1, x2, x3, x4, x5, x6, x7, x8, x9, x10, x11, x12, x13, x14, (rdOpt (bit has 15) (qdT 65536) [] (rdNums qdI has 15 q).2).1, (rdOpt (bit has 16) (qdT 65536) [] (rdOpt (bit has 15) (qdT 65536) [] (rdNums qdI has 15 q).2).2).1, none, 0, [], none, 0, [], none, 0, []⟩ : MsgM))) 54, blk b2 zeroMM.cells 54, R]) ?_ (fun fin => ?_)
        · have h28l : (rdOpt (bit has 16) (qdT 65536) [] (rdOpt (bit has 15) (qdT 65536) [] (rdNums qdI has 15 q).2).2).2.1.length ≤ 65536 := Nat.le_trans (rdOpt_short (fun p => qdT_len 65536 p) _) (by omega)
          refine .seq ?_
          refine .seq ?_
          refine .region ?_
          refine .rd (.move rfl) ?_
          refine .rd (.shr (n := 17) rfl rfl) ?_
          refine .alter (t := 120) (v' := .int .i64 ((has / 2 ^ (17) : Nat) : Int)) rfl (shr_has (by omega)) ?_
          refine .rd (.rem rfl rfl (Int.natCast_nonneg _) (by decide)) ?_
          refine .rd (.eqI rfl rfl) ?_
          refine .alter (t := 122) (v' := .bool (bit has (17))) rfl (bit_rem has (17)) ?_
          refine .nil ?_
          refine .joinEx (σ := Option Addr × Nat × List BatM) (φ := fun ⟨ba, bc, bl⟩ => bl.map (·.1) = (rdOpt (bit has 17) (qL 64 qB) [] (rdOpt (bit has 16) (qdT 65536) [] (rdOpt (bit has 15) (qdT 65536) [] (rdNums qdI has 15 q).2).2).2).1) (E' := fun ⟨ba, bc, bl⟩ => [(0, .pointer (some ⟨r, 0, none⟩)), (2, .pointer (some ⟨b2, 0, none⟩)), (4, .pointer (some ⟨b4, 0, none⟩)), (5, .int .i64 (has : Nat))]) (Γ' := fun ⟨ba, bc, bl⟩ => [blk r [.string (str (rdOpt (bit has 17) (qL 64 qB) [] (rdOpt (bit has 16) (qdT 65536) [] (rdOpt (bit has 15) (qdT 65536) [] (rdNums qdI has 15 q).2).2).2).2.1), .bool (rdOpt (bit has 17) (qL 64 qB) [] (rdOpt (bit has 16) (qdT 65536) [] (rdOpt (bit has 15) (qdT 65536) [] (rdNums qdI has 15 q).2).2).2).2.2] 80, blk b4 (MsgM.cells ((⟨k1, x0, x1, x2, x3, x4, x5, x6, x7, x8, x9, x10, x11, x12, x13, x14, (rdOpt (bit has 15) (qdT 65536) [] (rdNums qdI has 15 q).2).1, (rdOpt (bit has 16) (qdT 65536) [] (rdOpt (bit has 15) (qdT 65536) [] (rdNums qdI has 15 q).2).2).1, none, 0, [], none, 0, [], none, 0, []⟩ : MsgM).wB ba bc bl)) 54, know (fun w => RowAt ba (bl.flatMap BatM.cells) w ∧ ∀ y ∈ bl, RowAt y.2.1 (y.1.recs.flatMap Rec.cells) w), blk b2 zeroMM.cells 54, R]) (fun sj hj => ?_) (fun fin => ?_)
          · obtain ⟨ba, bc, bl⟩ := sj
            have hbm := hj
            dsimp only at hbm ⊢
            have hal : (rdOpt (bit has 17) (qL 64 qB) [] (rdOpt (bit has 16) (qdT 65536) [] (rdOpt (bit has 15) (qdT 65536) [] (rdNums qdI has 15 q).2).2).2).2.1.length ≤ 65536 := Nat.le_trans (rdOpt_short (qL_short qB_short) _) h28l
            refine .seq ?_
            refine .seq ?_
            refine .region ?_
            refine .rd (.move rfl) ?_
            refine .rd (.shr (n := 18) rfl rfl) ?_
            refine .alter (t := 169) (v' := .int .i64 ((has / 2 ^ (18) : Nat) : Int)) rfl (shr_has (by omega)) ?_
            refine .rd (.rem rfl rfl (Int.natCast_nonneg _) (by decide)) ?_
            refine .rd (.eqI rfl rfl) ?_
            refine .alter (t := 171) (v' := .bool (bit has (18))) rfl (bit_rem has (18)) ?_
            refine .nil ?_
            refine .joinEx (σ := Option Addr × Nat) (φ := fun ⟨ea, ec⟩ => True) (E' := fun ⟨ea, ec⟩ => [(0, .pointer (some ⟨r, 0, none⟩)), (2, .pointer (some ⟨b2, 0, none⟩)), (4, .pointer (some ⟨b4, 0, none⟩)), (5, .int .i64 (has : Nat))]) (Γ' := fun ⟨ea, ec⟩ => [blk r [.string (str (rdOpt (bit has 18) (qL 64 qE) [] (rdOpt (bit has 17) (qL 64 qB) [] (rdOpt (bit has 16) (qdT 65536) [] (rdOpt (bit has 15) (qdT 65536) [] (rdNums qdI has 15 q).2).2).2).2).2.1), .bool (rdOpt (bit has 18) (qL 64 qE) [] (rdOpt (bit has 17) (qL 64 qB) [] (rdOpt (bit has 16) (qdT 65536) [] (rdOpt (bit has 15) (qdT 65536) [] (rdNums qdI has 15 q).2).2).2).2).2.2] 80, blk b4 (MsgM.cells (((⟨k1, x0, x1, x2, x3, x4, x5, x6, x7, x8, x9, x10, x11, x12, x13, x14, (rdOpt (bit has 15) (qdT 65536) [] (rdNums qdI has 15 q).2).1, (rdOpt (bit has 16) (qdT 65536) [] (rdOpt (bit has 15) (qdT 65536) [] (rdNums qdI has 15 q).2).2).1, none, 0, [], none, 0, [], none, 0, []⟩ : MsgM).wB ba bc bl).wE ea ec (rdOpt (bit has 18) (qL 64 qE) [] (rdOpt (bit has 17) (qL 64 qB) [] (rdOpt (bit has 16) (qdT 65536) [] (rdOpt (bit has 15) (qdT 65536) [] (rdNums qdI has 15 q).2).2).2).2).1)) 54, know (fun w => (RowAt ba (bl.flatMap BatM.cells) w ∧ ∀ y ∈ bl, RowAt y.2.1 (y.1.recs.flatMap Rec.cells) w) ∧ RowAt ea ((rdOpt (bit has 18) (qL 64 qE) [] (rdOpt (bit has 17) (qL 64 qB) [] (rdOpt (bit has 16) (qdT 65536) [] (rdOpt (bit has 15) (qdT 65536) [] (rdNums qdI has 15 q).2).2).2).2).1.flatMap Ent.cells) w), blk b2 zeroMM.cells 54, R]) (fun sj hj => ?_) (fun fin => ?_)
            · obtain ⟨ea, ec⟩ := sj
              dsimp only
              have hbl2 : (rdOpt (bit has 18) (qL 64 qE) [] (rdOpt (bit has 17) (qL 64 qB) [] (rdOpt (bit has 16) (qdT 65536) [] (rdOpt (bit has 15) (qdT 65536) [] (rdNums qdI has 15 q).2).2).2).2).2.1.length ≤ 65536 := Nat.le_trans (rdOpt_short (qL_short qE_short) _) hal
              refine .seq ?_
              refine .seq ?_
              refine .region ?_
              refine .rd (.move rfl) ?_
              refine .rd (.shr (n := 19) rfl rfl) ?_
              refine .alter (t := 206) (v' := .int .i64 ((has / 2 ^ (19) : Nat) : Int)) rfl (shr_has (by omega)) ?_
              refine .rd (.rem rfl rfl (Int.natCast_nonneg _) (by decide)) ?_
              refine .rd (.eqI rfl rfl) ?_
              refine .alter (t := 208) (v' := .bool (bit has (19))) rfl (bit_rem has (19)) ?_
              refine .nil ?_
              refine .joinEx (σ := Option Addr × Nat) (φ := fun ⟨ia, ic⟩ => True) (E' := fun ⟨ia, ic⟩ => [(0, .pointer (some ⟨r, 0, none⟩)), (2, .pointer (some ⟨b2, 0, none⟩)), (4, .pointer (some ⟨b4, 0, none⟩)), (5, .int .i64 (has : Nat))]) (Γ' := fun ⟨ia, ic⟩ => [blk r [.string (str (rdOpt (bit has 19) (qL 256 qdI) [] (rdOpt (bit has 18) (qL 64 qE) [] (rdOpt (bit has 17) (qL 64 qB) [] (rdOpt (bit has 16) (qdT 65536) [] (rdOpt (bit has 15) (qdT 65536) [] (rdNums qdI has 15 q).2).2).2).2).2).2.1), .bool (rdOpt (bit has 19) (qL 256 qdI) [] (rdOpt (bit has 18) (qL 64 qE) [] (rdOpt (bit has 17) (qL 64 qB) [] (rdOpt (bit has 16) (qdT 65536) [] (rdOpt (bit has 15) (qdT 65536) [] (rdNums qdI has 15 q).2).2).2).2).2).2.2] 80, blk b4 (MsgM.cells ((((⟨k1, x0, x1, x2, x3, x4, x5, x6, x7, x8, x9, x10, x11, x12, x13, x14, (rdOpt (bit has 15) (qdT 65536) [] (rdNums qdI has 15 q).2).1, (rdOpt (bit has 16) (qdT 65536) [] (rdOpt (bit has 15) (qdT 65536) [] (rdNums qdI has 15 q).2).2).1, none, 0, [], none, 0, [], none, 0, []⟩ : MsgM).wB ba bc bl).wE ea ec (rdOpt (bit has 18) (qL 64 qE) [] (rdOpt (bit has 17) (qL 64 qB) [] (rdOpt (bit has 16) (qdT 65536) [] (rdOpt (bit has 15) (qdT 65536) [] (rdNums qdI has 15 q).2).2).2).2).1).wI ia ic (rdOpt (bit has 19) (qL 256 qdI) [] (rdOpt (bit has 18) (qL 64 qE) [] (rdOpt (bit has 17) (qL 64 qB) [] (rdOpt (bit has 16) (qdT 65536) [] (rdOpt (bit has 15) (qdT 65536) [] (rdNums qdI has 15 q).2).2).2).2).2).1)) 54, know ((((⟨k1, x0, x1, x2, x3, x4, x5, x6, x7, x8, x9, x10, x11, x12, x13, x14, (rdOpt (bit has 15) (qdT 65536) [] (rdNums qdI has 15 q).2).1, (rdOpt (bit has 16) (qdT 65536) [] (rdOpt (bit has 15) (qdT 65536) [] (rdNums qdI has 15 q).2).2).1, none, 0, [], none, 0, [], none, 0, []⟩ : MsgM).wB ba bc bl).wE ea ec (rdOpt (bit has 18) (qL 64 qE) [] (rdOpt (bit has 17) (qL 64 qB) [] (rdOpt (bit has 16) (qdT 65536) [] (rdOpt (bit has 15) (qdT 65536) [] (rdNums qdI has 15 q).2).2).2).2).1).wI ia ic (rdOpt (bit has 19) (qL 256 qdI) [] (rdOpt (bit has 18) (qL 64 qE) [] (rdOpt (bit has 17) (qL 64 qB) [] (rdOpt (bit has 16) (qdT 65536) [] (rdOpt (bit has 15) (qdT 65536) [] (rdNums qdI has 15 q).2).2).2).2).2).1).at_, blk b2 zeroMM.cells 54, R]) (fun sj hj => ?_) (fun fin => ?_)
              · obtain ⟨ia, ic⟩ := sj
                dsimp only
                refine .seq ?_
                obtain ⟨m4, hm4⟩ : ∃ m4, m4 = ((((⟨k1, x0, x1, x2, x3, x4, x5, x6, x7, x8, x9, x10, x11, x12, x13, x14, (rdOpt (bit has 15) (qdT 65536) [] (rdNums qdI has 15 q).2).1, (rdOpt (bit has 16) (qdT 65536) [] (rdOpt (bit has 15) (qdT 65536) [] (rdNums qdI has 15 q).2).2).1, none, 0, [], none, 0, [], none, 0, []⟩ : MsgM).wB ba bc bl).wE ea ec (rdOpt (bit has 18) (qL 64 qE) [] (rdOpt (bit has 17) (qL 64 qB) [] (rdOpt (bit has 16) (qdT 65536) [] (rdOpt (bit has 15) (qdT 65536) [] (rdNums qdI has 15 q).2).2).2).2).1).wI ia ic (rdOpt (bit has 19) (qL 256 qdI) [] (rdOpt (bit has 18) (qL 64 qE) [] (rdOpt (bit has 17) (qL 64 qB) [] (rdOpt (bit has 16) (qdT 65536) [] (rdOpt (bit has 15) (qdT 65536) [] (rdNums qdI has 15 q).2).2).2).2).2).1) := ⟨_, rfl⟩
                have hbody : qBody k1 has q = (m4.msg, (rdOpt (bit has 19) (qL 256 qdI) [] (rdOpt (bit has 18) (qL 64 qE) [] (rdOpt (bit has 17) (qL 64 qB) [] (rdOpt (bit has 16) (qdT 65536) [] (rdOpt (bit has 15) (qdT 65536) [] (rdNums qdI has 15 q).2).2).2).2).2).2) := by
                  rw [qBody_eq, qLists_eq, hx, hm4]
                  show (mk k1 _ _ _ _ _ _, _) = (Msg.mk k1 _ _ _ _ (bl.map (·.1)) _ _, _)
                  rw [hbm]; rfl
                have hgood := qBody_good hki has q
                rw [hbody] at hgood hin
                refine .perm (.cons (.tail .head) (.cons .head (.cons .head (.cons .head (.cons .head .nil))))) ?_
                refine .cast (X' := blk b4 m4.cells 54) (by rw [hm4]) ?_
                refine .perm (.cons (.tail (.tail .head)) (.cons .head (.cons .head (.cons .head (.cons .head .nil))))) ?_
                refine .cast (X' := know m4.at_) (by rw [hm4]) ?_
                refine .draws [0, 4, 10] [blk r [.string (str (rdOpt (bit has 19) (qL 256 qdI) [] (rdOpt (bit has 18) (qL 64 qE) [] (rdOpt (bit has 17) (qL 64 qB) [] (rdOpt (bit has 16) (qdT 65536) [] (rdOpt (bit has 15) (qdT 65536) [] (rdNums qdI has 15 q).2).2).2).2).2).2.1), .bool (rdOpt (bit has 19) (qL 256 qdI) [] (rdOpt (bit has 18) (qL 64 qE) [] (rdOpt (bit has 17) (qL 64 qB) [] (rdOpt (bit has 16) (qdT 65536) [] (rdOpt (bit has 15) (qdT 65536) [] (rdNums qdI has 15 q).2).2).2).2).2).2.2] 80, blk b4 m4.cells 54] (by kernel_rfl) ?_
                refine .rd 0 rfl rfl (by kernel_rfl) (by kernel_rfl) (by kernel_rfl) (.ldN ia54 ts54 rfl (.tail .head) rfl) (.cons (.tail (.tail .head)) (.cons (.tail .head) .nil)) ?_
                refine .rp 1 rfl (by kernel_rfl) (by kernel_rfl) (by kernel_rfl) (Reads.pure (.move rfl)) ?_
                refine .rp 2 rfl (by kernel_rfl) (by kernel_rfl) (by kernel_rfl) (Reads.pure (.nilCheck rfl)) ?_
                refine .rp 3 rfl (by kernel_rfl) (by kernel_rfl) (by kernel_rfl) (Reads.pure (.fieldAddr fd80_1 rfl)) ?_
                refine .rd 4 rfl rfl (by kernel_rfl) (by kernel_rfl) (by kernel_rfl) (.ld na4 rfl .head rfl) (.cons (.tail (.tail .head)) (.cons (.tail .head) .nil)) ?_
                refine .rp 5 rfl (by kernel_rfl) (by kernel_rfl) (by kernel_rfl) (Reads.pure (.not rfl)) ?_
                refine .rp 6 rfl (by kernel_rfl) (by kernel_rfl) (by kernel_rfl) (Reads.pure (.move rfl)) ?_
                refine .split (t := 240) rfl (fun g55 => ?_) (fun g55 => ?_)
                · refine .rpG 7 (t := 240) rfl rfl rfl (by kernel_rfl) (by kernel_rfl) (by kernel_rfl) (Reads.pure (.move rfl)) ?_
                  refine .rpG 8 (t := 240) rfl rfl rfl (by kernel_rfl) (by kernel_rfl) (by kernel_rfl) (Reads.pure (.nilCheck rfl)) ?_
                  refine .rpG 9 (t := 240) rfl rfl rfl (by kernel_rfl) (by kernel_rfl) (by kernel_rfl) (Reads.pure (.fieldAddr fd80_0 rfl)) ?_
                  refine .rdG 10 (t := 240) rfl rfl rfl rfl (by kernel_rfl) (by kernel_rfl) (by kernel_rfl) (.ld na9 rfl .head rfl) (.cons (.tail (.tail .head)) (.cons (.tail .head) .nil)) ?_
                  refine .rpG 11 (t := 240) rfl rfl rfl (by kernel_rfl) (by kernel_rfl) (by kernel_rfl) (Reads.pure (.eqT (m := []) rfl rfl)) ?_
                  refine .rp 12 rfl (by kernel_rfl) (by kernel_rfl) (by kernel_rfl) (Reads.pure (.pickT rfl rfl)) ?_
                  refine .ef0 13 (by kernel_rfl) rfl (.storeAll (vs := MsgM.cells (m4)) ts54 rfl rfl rfl (.tail (.tail (.tail .head))) rfl (ones.of rfl)) ?_
                  rintro _ _ rfl
                  refine ⟨.inr ⟨_, (.cons (.tail (.tail (.tail .head))) (.cons (.tail (.tail .head)) .nil))⟩, ?_⟩
                  refine .rp 14 rfl (by kernel_rfl) (by kernel_rfl) (by kernel_rfl) (Reads.pure (.assign rfl)) ?_
                  refine .done (by kernel_rfl) ?_
                  refine .retP Try.func61 (.cons (.blkN ia54 ts54 rfl .head rfl) (.cons (.tmp rfl) .nil)) (.cons (.tail (.tail (.tail .head))) (.cons (.tail .head) (.cons (.tail (.tail .head)) .nil))) ?_
                  exact ⟨[_, _], ⟨m4, decide ((rdOpt (bit has 19) (qL 256 qdI) [] (rdOpt (bit has 18) (qL 64 qE) [] (rdOpt (bit has 17) (qL 64 qB) [] (rdOpt (bit has 16) (qdT 65536) [] (rdOpt (bit has 15) (qdT 65536) [] (rdNums qdI has 15 q).2).2).2).2).2).2.1 = []), rfl, by rw [hin]; exact ⟨fun h => ⟨by simpa using g55, of_decide_eq_true h⟩, fun h => decide_eq_true h.2⟩, fun _ => by rw [hin]; exact ⟨rfl, hgood⟩, (rdOpt (bit has 19) (qL 256 qdI) [] (rdOpt (bit has 18) (qL 64 qE) [] (rdOpt (bit has 17) (qL 64 qB) [] (rdOpt (bit has 16) (qdT 65536) [] (rdOpt (bit has 15) (qdT 65536) [] (rdNums qdI has 15 q).2).2).2).2).2).2, rfl⟩, rfl⟩
                · refine .off 7 (t := 240) rfl rfl rfl rfl (by kernel_rfl) (by kernel_rfl) (by kernel_rfl) ?_
                  refine .off 8 (t := 240) rfl rfl rfl rfl (by kernel_rfl) (by kernel_rfl) (by kernel_rfl) ?_
                  refine .off 9 (t := 240) rfl rfl rfl rfl (by kernel_rfl) (by kernel_rfl) (by kernel_rfl) ?_
                  refine .off 10 (t := 240) rfl rfl rfl rfl (by kernel_rfl) (by kernel_rfl) (by kernel_rfl) ?_
                  refine .off 11 (t := 240) rfl rfl rfl rfl (by kernel_rfl) (by kernel_rfl) (by kernel_rfl) ?_
                  refine .rp 12 rfl (by kernel_rfl) (by kernel_rfl) (by kernel_rfl) (Reads.pure (.pickF rfl rfl)) ?_
                  refine .ef0 13 (by kernel_rfl) rfl (.storeAll (vs := MsgM.cells (m4)) ts54 rfl rfl rfl (.tail (.tail (.tail .head))) rfl (ones.of rfl)) ?_
                  rintro _ _ rfl
                  refine ⟨.inr ⟨_, (.cons (.tail (.tail (.tail .head))) (.cons (.tail (.tail .head)) .nil))⟩, ?_⟩
                  refine .rp 14 rfl (by kernel_rfl) (by kernel_rfl) (by kernel_rfl) (Reads.pure (.assign rfl)) ?_
                  refine .done (by kernel_rfl) ?_
                  refine .retP Try.func61 (.cons (.blkN ia54 ts54 rfl .head rfl) (.cons (.tmp rfl) .nil)) (.cons (.tail (.tail (.tail .head))) (.cons (.tail .head) (.cons (.tail (.tail .head)) .nil))) ?_
                  exact ⟨[_, _], ⟨m4, false, rfl, by rw [hin]; exact ⟨fun h => (by cases h), fun h => (by rw [h.1] at g55; cases g55)⟩, fun _ => by rw [hin]; exact ⟨rfl, hgood⟩, (rdOpt (bit has 19) (qL 256 qdI) [] (rdOpt (bit has 18) (qL 64 qE) [] (rdOpt (bit has 17) (qL 64 qB) [] (rdOpt (bit has 16) (qdT 65536) [] (rdOpt (bit has 15) (qdT 65536) [] (rdNums qdI has 15 q).2).2).2).2).2).2, rfl⟩, rfl⟩
              · refine .cond rfl (fun h49 => ?_) (fun h49 => ?_)
                · refine .seq ?_
                  refine .region ?_
                  refine .rd (.move rfl) ?_
                  refine .fn rfl rfl (.cons .head .nil) (fun _ _ _ => trivial) (qdint_ok r (rdOpt (bit has 18) (qL 64 qE) [] (rdOpt (bit has 17) (qL 64 qB) [] (rdOpt (bit has 16) (qdT 65536) [] (rdOpt (bit has 15) (qdT 65536) [] (rdNums qdI has 15 q).2).2).2).2).2 (by omega)) (fun v G1 hq => ?_)
                  obtain ⟨rfl, rfl⟩ := hq
                  simp only [List.cons_append, List.nil_append]
                  refine .rd (.assign rfl) ?_
                  refine .nil ?_
                  obtain ⟨n, hn⟩ : ∃ n, n = (qdI (rdOpt (bit has 18) (qL 64 qE) [] (rdOpt (bit has 17) (qL 64 qB) [] (rdOpt (bit has 16) (qdT 65536) [] (rdOpt (bit has 15) (qdT 65536) [] (rdNums qdI has 15 q).2).2).2).2).2).1 := ⟨_, rfl⟩
                  obtain ⟨q0, hq0⟩ : ∃ x, x = (qdI (rdOpt (bit has 18) (qL 64 qE) [] (rdOpt (bit has 17) (qL 64 qB) [] (rdOpt (bit has 16) (qdT 65536) [] (rdOpt (bit has 15) (qdT 65536) [] (rdNums qdI has 15 q).2).2).2).2).2).2 := ⟨_, rfl⟩
                  have hq0l := qdI_len (rdOpt (bit has 18) (qL 64 qE) [] (rdOpt (bit has 17) (qL 64 qB) [] (rdOpt (bit has 16) (qdT 65536) [] (rdOpt (bit has 15) (qdT 65536) [] (rdNums qdI has 15 q).2).2).2).2).2
                  rw [← hq0] at hq0l
                  refine .alter (t := 16) (v' := .int .i64 n) rfl (by rw [hn]) ?_
                  obtain ⟨K, hK⟩ : ∃ K : Nat, K = min n.toNat (256 + 1) := ⟨_, rfl⟩
                  refine .cast (X' := blk r [.string (str q0.1), .bool q0.2] 80) (by rw [hq0]) ?_
                  refine .seq ?_
                  refine .region ?_
                  refine .rd (.assign rfl) ?_
                  refine .nil ?_
                  refine .nilArr 3 1 none ?_
                  refine .perm (.cons (.tail (.tail .head)) (.cons .head (.cons .head (.cons .head (.cons .head (.cons .head .nil)))))) ?_
                  refine .cast (X' := blk b4 (MsgM.cells ((((⟨k1, x0, x1, x2, x3, x4, x5, x6, x7, x8, x9, x10, x11, x12, x13, x14, (rdOpt (bit has 15) (qdT 65536) [] (rdNums qdI has 15 q).2).1, (rdOpt (bit has 16) (qdT 65536) [] (rdOpt (bit has 15) (qdT 65536) [] (rdNums qdI has 15 q).2).2).1, none, 0, [], none, 0, [], none, 0, []⟩ : MsgM).wB ba bc bl).wE ea ec (rdOpt (bit has 18) (qL 64 qE) [] (rdOpt (bit has 17) (qL 64 qB) [] (rdOpt (bit has 16) (qdT 65536) [] (rdOpt (bit has 15) (qdT 65536) [] (rdNums qdI has 15 q).2).2).2).2).1).wI none 0 [])) 54) (rfl) ?_
                  refine .block ?_
                  refine .loop (σ := Nat × Option Addr × Nat) (fun ⟨i, ia, ic⟩ => i ≤ K ∧ (qMany qdI i q0).1.length = i) (fun ⟨i, ia, ic⟩ => K - i) (fun ⟨i, ia, ic⟩ => [(0, .pointer (some ⟨r, 0, none⟩)), (2, .pointer (some ⟨b2, 0, none⟩)), (4, .pointer (some ⟨b4, 0, none⟩)), (5, .int .i64 (has : Nat)), (16, .int .i64 n), (17, .int .i64 (i : Nat))]) (fun ⟨i, ia, ic⟩ => [blk r [.string (str (qMany qdI i q0).2.1), .bool (qMany qdI i q0).2.2] 80, blk b4 (MsgM.cells ((((⟨k1, x0, x1, x2, x3, x4, x5, x6, x7, x8, x9, x10, x11, x12, x13, x14, (rdOpt (bit has 15) (qdT 65536) [] (rdNums qdI has 15 q).2).1, (rdOpt (bit has 16) (qdT 65536) [] (rdOpt (bit has 15) (qdT 65536) [] (rdNums qdI has 15 q).2).2).1, none, 0, [], none, 0, [], none, 0, []⟩ : MsgM).wB ba bc bl).wE ea ec (rdOpt (bit has 18) (qL 64 qE) [] (rdOpt (bit has 17) (qL 64 qB) [] (rdOpt (bit has 16) (qdT 65536) [] (rdOpt (bit has 15) (qdT 65536) [] (rdNums qdI has 15 q).2).2).2).2).1).wI ia ic (qMany qdI i q0).1)) 54, arr 3 1 ia ic ((qMany qdI i q0).1.flatMap icell), know (fun w => (RowAt ba (bl.flatMap BatM.cells) w ∧ ∀ y ∈ bl, RowAt y.2.1 (y.1.recs.flatMap Rec.cells) w) ∧ RowAt ea ((rdOpt (bit has 18) (qL 64 qE) [] (rdOpt (bit has 17) (qL 64 qB) [] (rdOpt (bit has 16) (qdT 65536) [] (rdOpt (bit has 15) (qdT 65536) [] (rdNums qdI has 15 q).2).2).2).2).1.flatMap Ent.cells) w), blk b2 zeroMM.cells 54, R]) (0, none, 0) ⟨Nat.zero_le _, rfl⟩ (.cons rfl (.cons rfl (.cons rfl (.cons rfl (.cons rfl (.cons rfl .nil)))))) (.cons (.tail (.tail .head)) (.cons .head (.cons .head (.cons .head (.cons .head (.cons .head .nil)))))) (fun s' hI ih => ?_)
                  obtain ⟨i, ia, ic⟩ := s'
                  dsimp only at hI ih ⊢
                  have hil := hI.1
                  have hll := hI.2
                  have hcl2 := qMany_short qdI_len i q0
                  refine .seq ?_
                  refine .seq ?_
                  refine .region ?_
                  refine RunO.join 14 224 ((decide ((i : Int) < n) && decide ((i : Int) ≤ 256)) && !(qMany qdI i q0).2.2) ?_ ?_
                  · refine .rd (.move rfl) ?_
                    refine .rd (.move rfl) ?_
                    refine .rd (.lt rfl rfl) ?_
                    refine .rd (.move rfl) ?_
                    refine .split (t := 214) rfl (fun g52 => ?_) (fun g52 => ?_)
                    · replace g52 := of_decide_eq_true g52
                      refine .on (t := 214) rfl rfl ?_
                      refine .rd (.move rfl) ?_
                      refine .on (t := 214) rfl rfl ?_
                      refine .rd (.le rfl rfl) ?_
                      refine .rd (.pickT rfl rfl) ?_
                      refine .rd (.move rfl) ?_
                      refine .split (t := 218) rfl (fun g52b => ?_) (fun g52b => ?_)
                      · replace g52b := of_decide_eq_true g52b
                        refine .on (t := 218) rfl rfl ?_
                        refine .rd (.move rfl) ?_
                        refine .on (t := 218) rfl rfl ?_
                        refine .rd (.nilCheck rfl) ?_
                        refine .on (t := 218) rfl rfl ?_
                        refine .rd (.fieldAddr fd80_1 rfl) ?_
                        refine .on (t := 218) rfl rfl ?_
                        refine .rd (.ld na4 rfl .head rfl) ?_
                        refine .on (t := 218) rfl rfl ?_
                        refine .rd (.not rfl) ?_
                        refine .rd (.pickT rfl rfl) ?_
                        refine .nil ⟨rfl, ?_, by repeat (first | exact Le.refl _ | refine Le.skip rfl ?_)⟩
                        exact congrArg (fun x => some (Value.bool x)) (Eq.symm (show ((decide ((i : Int) < n) && decide ((i : Int) ≤ 256)) && !(qMany qdI i q0).2.2) = _ by (rw [decide_eq_true g52, decide_eq_true g52b]) <;> rfl))
                      · replace g52b := of_decide_eq_false g52b
                        refine .off (t := 218) rfl rfl rfl ?_
                        refine .off (t := 218) rfl rfl rfl ?_
                        refine .off (t := 218) rfl rfl rfl ?_
                        refine .off (t := 218) rfl rfl rfl ?_
                        refine .off (t := 218) rfl rfl rfl ?_
                        refine .rd (.pickF rfl rfl) ?_
                        refine .nil ⟨rfl, ?_, by repeat (first | exact Le.refl _ | refine Le.skip rfl ?_)⟩
                        exact congrArg (fun x => some (Value.bool x)) (Eq.symm (show ((decide ((i : Int) < n) && decide ((i : Int) ≤ 256)) && !(qMany qdI i q0).2.2) = _ by (rw [decide_eq_true g52, decide_eq_false g52b]) <;> rfl))
                    · replace g52 := of_decide_eq_false g52
                      refine .off (t := 214) rfl rfl rfl ?_
                      refine .off (t := 214) rfl rfl rfl ?_
                      refine .rd (.pickF rfl rfl) ?_
                      refine .rd (.move rfl) ?_
                      refine .off (t := 218) rfl rfl rfl ?_
                      refine .off (t := 218) rfl rfl rfl ?_
                      refine .off (t := 218) rfl rfl rfl ?_
                      refine .off (t := 218) rfl rfl rfl ?_
                      refine .off (t := 218) rfl rfl rfl ?_
                      refine .rd (.pickF rfl rfl) ?_
                      refine .nil ⟨rfl, ?_, by repeat (first | exact Le.refl _ | refine Le.skip rfl ?_)⟩
                      exact congrArg (fun x => some (Value.bool x)) (Eq.symm (show ((decide ((i : Int) < n) && decide ((i : Int) ≤ 256)) && !(qMany qdI i q0).2.2) = _ by (rw [decide_eq_false g52]) <;> rfl))
                  refine .nil ?_
                  refine .cond rfl (fun h52 => ?_) (fun h52 => ?_)
                  · have hc : ((i : Int) < n ∧ (i : Int) ≤ 256) ∧ (qMany qdI i q0).2.2 = false := by simpa using h52
                    have hgo := qMany_go (rs := qdI) (i := i) (p := q0) hc.2
                    have hlt : i < K := by omega
                    refine .skip ?_
                    refine .seq ?_
                    refine .block ?_
                    refine .draws [1] [blk b4 (MsgM.cells ((((⟨k1, x0, x1, x2, x3, x4, x5, x6, x7, x8, x9, x10, x11, x12, x13, x14, (rdOpt (bit has 15) (qdT 65536) [] (rdNums qdI has 15 q).2).1, (rdOpt (bit has 16) (qdT 65536) [] (rdOpt (bit has 15) (qdT 65536) [] (rdNums qdI has 15 q).2).2).1, none, 0, [], none, 0, [], none, 0, []⟩ : MsgM).wB ba bc bl).wE ea ec (rdOpt (bit has 18) (qL 64 qE) [] (rdOpt (bit has 17) (qL 64 qB) [] (rdOpt (bit has 16) (qdT 65536) [] (rdOpt (bit has 15) (qdT 65536) [] (rdNums qdI has 15 q).2).2).2).2).1).wI ia ic (qMany qdI i q0).1)) 54] (by kernel_rfl) ?_
                    refine .rp 0 rfl (by kernel_rfl) (by kernel_rfl) (by kernel_rfl) (Reads.pure (.fieldAddr fd54_20 rfl)) ?_
                    refine .rd 1 rfl rfl (by kernel_rfl) (by kernel_rfl) (by kernel_rfl) (.ld na37 rfl .head rfl) (.cons (.tail .head) .nil) ?_
                    refine .rp 2 rfl (by kernel_rfl) (by kernel_rfl) (by kernel_rfl) (Reads.pure (.move rfl)) ?_
                    refine .ef 3 (by kernel_rfl) rfl (.fn rfl rfl (.cons .head .nil) (fun _ _ _ => trivial) (qdint_ok r (qMany qdI i q0).2 (by omega))) ?_
                    rintro v _ ⟨G1, hq, rfl⟩
                    obtain ⟨rfl, rfl⟩ := hq
                    simp only [List.cons_append, List.nil_append]
                    refine ⟨.inr ⟨_, (.cons (.tail .head) .nil)⟩, ?_⟩
                    refine .ef 4 (by kernel_rfl) rfl (.buildOne (cs := icell ((qdI (qMany qdI i q0).2).1)) Try.underlying37 ti3 (by decide) rfl rfl rfl (ones.of rfl)) ?_
                    rintro _ _ ⟨bs, rfl, rfl⟩
                    refine ⟨.inr ⟨_, (.cons (.tail (.tail .head)) .nil)⟩, ?_⟩
                    refine .ef 5 (by kernel_rfl) rfl (.append rfl rfl Try.underlying37 ti3 rfl (ones.of rfl) (by decide) (by decide) rfl rfl (.tail (.tail (.tail .head))) (n := (qMany qdI i q0).1.length) (m := 1) (by rw [flat_length icell_len]) (.srcBlk (ys := icell ((qdI (qMany qdI i q0).2).1)) .head Try.underlying37 rfl (by decide)) (by omega)) ?_
                    rintro _ _ ⟨ra, rc, rfl, rn, rfl⟩
                    refine ⟨.inl (by kernel_rfl), ?_⟩
                    refine .rp 6 rfl (by kernel_rfl) (by kernel_rfl) (by kernel_rfl) (Reads.pure (.fieldAddr fd54_20 rfl)) ?_
                    refine .ef0 7 (by kernel_rfl) rfl (.store ts37 rfl rfl (.tail (.tail (.tail .head))) rfl (Nat.le_of_ble_eq_true rfl)) ?_
                    rintro _ _ rfl
                    refine ⟨.inl (by kernel_rfl), ?_⟩
                    refine .done (by kernel_rfl) ?_
                    refine .perm (.cons (.tail .head) (.cons .head (.cons .head (.cons .head (.cons .head (.cons .head (.cons .head .nil))))))) ?_
                    refine .cast (X' := arr 3 1 ra rc ((qMany qdI (i + 1) q0).1.flatMap icell)) (by rw [hgo, List.flatMap_append]; simp) ?_
                    refine .perm (.cons (.tail .head) (.cons .head (.cons .head (.cons .head (.cons .head (.cons .head (.cons .head .nil))))))) ?_
                    refine .cast (X' := blk b4 (MsgM.cells ((((⟨k1, x0, x1, x2, x3, x4, x5, x6, x7, x8, x9, x10, x11, x12, x13, x14, (rdOpt (bit has 15) (qdT 65536) [] (rdNums qdI has 15 q).2).1, (rdOpt (bit has 16) (qdT 65536) [] (rdOpt (bit has 15) (qdT 65536) [] (rdNums qdI has 15 q).2).2).1, none, 0, [], none, 0, [], none, 0, []⟩ : MsgM).wB ba bc bl).wE ea ec (rdOpt (bit has 18) (qL 64 qE) [] (rdOpt (bit has 17) (qL 64 qB) [] (rdOpt (bit has 16) (qdT 65536) [] (rdOpt (bit has 15) (qdT 65536) [] (rdNums qdI has 15 q).2).2).2).2).1).wI ra rc (qMany qdI (i + 1) q0).1)) 54) (congrArg (fun l => blk b4 l 54) (by simp [MsgM.cells, MsgM.wB, MsgM.wE, MsgM.wI, hgo])) ?_
                    refine .perm (.cons (.tail (.tail (.tail .head))) (.cons .head (.cons .head (.cons .head (.cons .head (.cons .head (.cons .head .nil))))))) ?_
                    refine .cast (X' := blk r [.string (str (qMany qdI (i + 1) q0).2.1), .bool (qMany qdI (i + 1) q0).2.2] 80) (by rw [hgo]) ?_
                    refine .inBlock ?_
                    refine .region ?_
                    refine .rd (.move rfl) ?_
                    refine .rd (.add rfl rfl (by omega) (by omega)) ?_
                    refine .rd (.assign rfl) ?_
                    refine .nil ?_
                    exact (ih (i + 1, ra, rc) ⟨by show i + 1 ≤ K; omega, by show (qMany qdI (i + 1) q0).1.length = i + 1; rw [hgo, List.length_append, hll]; rfl⟩ (by show K - (i + 1) < K - i; omega)).to (.cons rfl (.cons rfl (.cons rfl (.cons rfl (.cons rfl (.cons rfl .nil)))))) (.cons .head (.cons .head (.cons .head (.cons (.tail .head) (.cons (.tail .head) (.cons (.tail .head) .nil))))))
                  · have hfin : qMany qdI K q0 = qMany qdI i q0 := by
                      by_cases hb : (qMany qdI i q0).2.2 = true
                      · exact qMany_stop hb K hil
                      · have : i = K := by
                          simp only [Bool.not_eq_true] at hb
                          rw [hb] at h52
                          simp at h52
                          omega
                        rw [this]
                    have hCv : (rdOpt (bit has 19) (qL 256 qdI) [] (rdOpt (bit has 18) (qL 64 qE) [] (rdOpt (bit has 17) (qL 64 qB) [] (rdOpt (bit has 16) (qdT 65536) [] (rdOpt (bit has 15) (qdT 65536) [] (rdNums qdI has 15 q).2).2).2).2).2) = qMany qdI i q0 := (rdOpt_true h49).trans (by show qMany qdI (min (qdI (rdOpt (bit has 18) (qL 64 qE) [] (rdOpt (bit has 17) (qL 64 qB) [] (rdOpt (bit has 16) (qdT 65536) [] (rdOpt (bit has 15) (qdT 65536) [] (rdNums qdI has 15 q).2).2).2).2).2).1.toNat (256 + 1)) (qdI (rdOpt (bit has 18) (qL 64 qE) [] (rdOpt (bit has 17) (qL 64 qB) [] (rdOpt (bit has 16) (qdT 65536) [] (rdOpt (bit has 15) (qdT 65536) [] (rdNums qdI has 15 q).2).2).2).2).2).2 = _; rw [← hn, ← hq0, ← hK, hfin])
                    refine .settle (.tail (.tail .head)) (Settles.arr) ?_
                    refine .knowAnd (((((⟨k1, x0, x1, x2, x3, x4, x5, x6, x7, x8, x9, x10, x11, x12, x13, x14, (rdOpt (bit has 15) (qdT 65536) [] (rdNums qdI has 15 q).2).1, (rdOpt (bit has 16) (qdT 65536) [] (rdOpt (bit has 15) (qdT 65536) [] (rdNums qdI has 15 q).2).2).1, none, 0, [], none, 0, [], none, 0, []⟩ : MsgM).wB ba bc bl).wE ea ec (rdOpt (bit has 18) (qL 64 qE) [] (rdOpt (bit has 17) (qL 64 qB) [] (rdOpt (bit has 16) (qdT 65536) [] (rdOpt (bit has 15) (qdT 65536) [] (rdNums qdI has 15 q).2).2).2).2).1).wI ia ic (rdOpt (bit has 19) (qL 256 qdI) [] (rdOpt (bit has 18) (qL 64 qE) [] (rdOpt (bit has 17) (qL 64 qB) [] (rdOpt (bit has 16) (qdT 65536) [] (rdOpt (bit has 15) (qdT 65536) [] (rdNums qdI has 15 q).2).2).2).2).2).1).at_) (.cons (.tail (.tail (.tail .head))) (.cons .head .nil)) (fun w h1 h2 => ⟨h1.1.1, h1.1.2, h1.2, by show RowAt ia ((rdOpt (bit has 19) (qL 256 qdI) [] (rdOpt (bit has 18) (qL 64 qE) [] (rdOpt (bit has 17) (qL 64 qB) [] (rdOpt (bit has 16) (qdT 65536) [] (rdOpt (bit has 15) (qdT 65536) [] (rdNums qdI has 15 q).2).2).2).2).2).1.flatMap icell) w; rw [hCv]; exact h2⟩) ?_
                    refine .perm (.cons (.tail (.tail .head)) (.cons .head (.cons .head (.cons .head (.cons .head .nil))))) ?_
                    refine .cast (X' := blk b4 (MsgM.cells ((((⟨k1, x0, x1, x2, x3, x4, x5, x6, x7, x8, x9, x10, x11, x12, x13, x14, (rdOpt (bit has 15) (qdT 65536) [] (rdNums qdI has 15 q).2).1, (rdOpt (bit has 16) (qdT 65536) [] (rdOpt (bit has 15) (qdT 65536) [] (rdNums qdI has 15 q).2).2).1, none, 0, [], none, 0, [], none, 0, []⟩ : MsgM).wB ba bc bl).wE ea ec (rdOpt (bit has 18) (qL 64 qE) [] (rdOpt (bit has 17) (qL 64 qB) [] (rdOpt (bit has 16) (qdT 65536) [] (rdOpt (bit has 15) (qdT 65536) [] (rdNums qdI has 15 q).2).2).2).2).1).wI ia ic (rdOpt (bit has 19) (qL 256 qdI) [] (rdOpt (bit has 18) (qL 64 qE) [] (rdOpt (bit has 17) (qL 64 qB) [] (rdOpt (bit has 16) (qdT 65536) [] (rdOpt (bit has 15) (qdT 65536) [] (rdNums qdI has 15 q).2).2).2).2).2).1)) 54) (by rw [hCv]) ?_
                    refine .perm (.cons (.tail (.tail .head)) (.cons .head (.cons .head (.cons .head (.cons .head .nil))))) ?_
                    refine .cast (X' := blk r [.string (str (rdOpt (bit has 19) (qL 256 qdI) [] (rdOpt (bit has 18) (qL 64 qE) [] (rdOpt (bit has 17) (qL 64 qB) [] (rdOpt (bit has 16) (qdT 65536) [] (rdOpt (bit has 15) (qdT 65536) [] (rdNums qdI has 15 q).2).2).2).2).2).2.1), .bool (rdOpt (bit has 19) (qL 256 qdI) [] (rdOpt (bit has 18) (qL 64 qE) [] (rdOpt (bit has 17) (qL 64 qB) [] (rdOpt (bit has 16) (qdT 65536) [] (rdOpt (bit has 15) (qdT 65536) [] (rdNums qdI has 15 q).2).2).2).2).2).2.2] 80) (by rw [hCv]) ?_
                    refine .exit rfl ?_
                    exact fin (ia, ic) trivial (.cons rfl (.cons rfl (.cons rfl (.cons rfl .nil)))) (.cons .head (.cons .head (.cons .head (.cons .head (.cons .head .nil)))))
                · have hCv : (rdOpt (bit has 19) (qL 256 qdI) [] (rdOpt (bit has 18) (qL 64 qE) [] (rdOpt (bit has 17) (qL 64 qB) [] (rdOpt (bit has 16) (qdT 65536) [] (rdOpt (bit has 15) (qdT 65536) [] (rdNums qdI has 15 q).2).2).2).2).2) = ([], (rdOpt (bit has 18) (qL 64 qE) [] (rdOpt (bit has 17) (qL 64 qB) [] (rdOpt (bit has 16) (qdT 65536) [] (rdOpt (bit has 15) (qdT 65536) [] (rdNums qdI has 15 q).2).2).2).2).2) := rdOpt_false h49
                  refine .knowMono (((((⟨k1, x0, x1, x2, x3, x4, x5, x6, x7, x8, x9, x10, x11, x12, x13, x14, (rdOpt (bit has 15) (qdT 65536) [] (rdNums qdI has 15 q).2).1, (rdOpt (bit has 16) (qdT 65536) [] (rdOpt (bit has 15) (qdT 65536) [] (rdNums qdI has 15 q).2).2).1, none, 0, [], none, 0, [], none, 0, []⟩ : MsgM).wB ba bc bl).wE ea ec (rdOpt (bit has 18) (qL 64 qE) [] (rdOpt (bit has 17) (qL 64 qB) [] (rdOpt (bit has 16) (qdT 65536) [] (rdOpt (bit has 15) (qdT 65536) [] (rdNums qdI has 15 q).2).2).2).2).1).wI none 0 (rdOpt (bit has 19) (qL 256 qdI) [] (rdOpt (bit has 18) (qL 64 qE) [] (rdOpt (bit has 17) (qL 64 qB) [] (rdOpt (bit has 16) (qdT 65536) [] (rdOpt (bit has 15) (qdT 65536) [] (rdNums qdI has 15 q).2).2).2).2).2).1).at_) (.tail (.tail .head)) (fun w h1 => ⟨h1.1.1, h1.1.2, h1.2, by show RowAt none ((rdOpt (bit has 19) (qL 256 qdI) [] (rdOpt (bit has 18) (qL 64 qE) [] (rdOpt (bit has 17) (qL 64 qB) [] (rdOpt (bit has 16) (qdT 65536) [] (rdOpt (bit has 15) (qdT 65536) [] (rdNums qdI has 15 q).2).2).2).2).2).1.flatMap icell) w; rw [hCv]; exact .inl rfl⟩) ?_
                  refine .perm (.cons (.tail (.tail .head)) (.cons .head (.cons .head (.cons .head (.cons .head .nil))))) ?_
                  refine .cast (X' := blk b4 (MsgM.cells ((((⟨k1, x0, x1, x2, x3, x4, x5, x6, x7, x8, x9, x10, x11, x12, x13, x14, (rdOpt (bit has 15) (qdT 65536) [] (rdNums qdI has 15 q).2).1, (rdOpt (bit has 16) (qdT 65536) [] (rdOpt (bit has 15) (qdT 65536) [] (rdNums qdI has 15 q).2).2).1, none, 0, [], none, 0, [], none, 0, []⟩ : MsgM).wB ba bc bl).wE ea ec (rdOpt (bit has 18) (qL 64 qE) [] (rdOpt (bit has 17) (qL 64 qB) [] (rdOpt (bit has 16) (qdT 65536) [] (rdOpt (bit has 15) (qdT 65536) [] (rdNums qdI has 15 q).2).2).2).2).1).wI none 0 (rdOpt (bit has 19) (qL 256 qdI) [] (rdOpt (bit has 18) (qL 64 qE) [] (rdOpt (bit has 17) (qL 64 qB) [] (rdOpt (bit has 16) (qdT 65536) [] (rdOpt (bit has 15) (qdT 65536) [] (rdNums qdI has 15 q).2).2).2).2).2).1)) 54) (by first | (rw [hCv]; done) | (rw [hCv]; rfl)) ?_
                  refine .perm (.cons (.tail (.tail .head)) (.cons .head (.cons .head (.cons .head (.cons .head .nil))))) ?_
                  refine .cast (X' := blk r [.string (str (rdOpt (bit has 19) (qL 256 qdI) [] (rdOpt (bit has 18) (qL 64 qE) [] (rdOpt (bit has 17) (qL 64 qB) [] (rdOpt (bit has 16) (qdT 65536) [] (rdOpt (bit has 15) (qdT 65536) [] (rdNums qdI has 15 q).2).2).2).2).2).2.1), .bool (rdOpt (bit has 19) (qL 256 qdI) [] (rdOpt (bit has 18) (qL 64 qE) [] (rdOpt (bit has 17) (qL 64 qB) [] (rdOpt (bit has 16) (qdT 65536) [] (rdOpt (bit has 15) (qdT 65536) [] (rdNums qdI has 15 q).2).2).2).2).2).2.2] 80) (by rw [hCv]) ?_
                  refine .skip ?_
                  exact fin (none, 0) trivial (.cons rfl (.cons rfl (.cons rfl (.cons rfl .nil)))) (.cons .head (.cons .head (.cons .head (.cons .head (.cons .head .nil)))))
            · refine .cond rfl (fun h40 => ?_) (fun h40 => ?_)
              · refine .seq ?_
                refine .region ?_
                refine .rd (.move rfl) ?_
                refine .fn rfl rfl (.cons .head .nil) (fun _ _ _ => trivial) (qdint_ok r (rdOpt (bit has 17) (qL 64 qB) [] (rdOpt (bit has 16) (qdT 65536) [] (rdOpt (bit has 15) (qdT 65536) [] (rdNums qdI has 15 q).2).2).2).2 (by omega)) (fun v G1 hq => ?_)
                obtain ⟨rfl, rfl⟩ := hq
                simp only [List.cons_append, List.nil_append]
                refine .rd (.assign rfl) ?_
                refine .nil ?_
                obtain ⟨n, hn⟩ : ∃ n, n = (qdI (rdOpt (bit has 17) (qL 64 qB) [] (rdOpt (bit has 16) (qdT 65536) [] (rdOpt (bit has 15) (qdT 65536) [] (rdNums qdI has 15 q).2).2).2).2).1 := ⟨_, rfl⟩
                obtain ⟨q0, hq0⟩ : ∃ x, x = (qdI (rdOpt (bit has 17) (qL 64 qB) [] (rdOpt (bit has 16) (qdT 65536) [] (rdOpt (bit has 15) (qdT 65536) [] (rdNums qdI has 15 q).2).2).2).2).2 := ⟨_, rfl⟩
                have hq0l := qdI_len (rdOpt (bit has 17) (qL 64 qB) [] (rdOpt (bit has 16) (qdT 65536) [] (rdOpt (bit has 15) (qdT 65536) [] (rdNums qdI has 15 q).2).2).2).2
                rw [← hq0] at hq0l
                refine .alter (t := 13) (v' := .int .i64 n) rfl (by rw [hn]) ?_
                obtain ⟨K, hK⟩ : ∃ K : Nat, K = min n.toNat (64 + 1) := ⟨_, rfl⟩
                refine .cast (X' := blk r [.string (str q0.1), .bool q0.2] 80) (by rw [hq0]) ?_
                refine .seq ?_
                refine .region ?_
                refine .rd (.assign rfl) ?_
                refine .nil ?_
                refine .nilArr 86 3 none ?_
                refine .perm (.cons (.tail (.tail .head)) (.cons .head (.cons .head (.cons .head (.cons .head (.cons .head .nil)))))) ?_
                refine .cast (X' := blk b4 (MsgM.cells (((⟨k1, x0, x1, x2, x3, x4, x5, x6, x7, x8, x9, x10, x11, x12, x13, x14, (rdOpt (bit has 15) (qdT 65536) [] (rdNums qdI has 15 q).2).1, (rdOpt (bit has 16) (qdT 65536) [] (rdOpt (bit has 15) (qdT 65536) [] (rdNums qdI has 15 q).2).2).1, none, 0, [], none, 0, [], none, 0, []⟩ : MsgM).wB ba bc bl).wE none 0 [])) 54) (rfl) ?_
                refine .block ?_
                refine .loop (σ := Nat × Option Addr × Nat) (fun ⟨i, ea, ec⟩ => i ≤ K ∧ (qMany qE i q0).1.length = i) (fun ⟨i, ea, ec⟩ => K - i) (fun ⟨i, ea, ec⟩ => [(0, .pointer (some ⟨r, 0, none⟩)), (2, .pointer (some ⟨b2, 0, none⟩)), (4, .pointer (some ⟨b4, 0, none⟩)), (5, .int .i64 (has : Nat)), (13, .int .i64 n), (14, .int .i64 (i : Nat))]) (fun ⟨i, ea, ec⟩ => [blk r [.string (str (qMany qE i q0).2.1), .bool (qMany qE i q0).2.2] 80, blk b4 (MsgM.cells (((⟨k1, x0, x1, x2, x3, x4, x5, x6, x7, x8, x9, x10, x11, x12, x13, x14, (rdOpt (bit has 15) (qdT 65536) [] (rdNums qdI has 15 q).2).1, (rdOpt (bit has 16) (qdT 65536) [] (rdOpt (bit has 15) (qdT 65536) [] (rdNums qdI has 15 q).2).2).1, none, 0, [], none, 0, [], none, 0, []⟩ : MsgM).wB ba bc bl).wE ea ec (qMany qE i q0).1)) 54, arr 86 3 ea ec ((qMany qE i q0).1.flatMap Ent.cells), know (fun w => RowAt ba (bl.flatMap BatM.cells) w ∧ ∀ y ∈ bl, RowAt y.2.1 (y.1.recs.flatMap Rec.cells) w), blk b2 zeroMM.cells 54, R]) (0, none, 0) ⟨Nat.zero_le _, rfl⟩ (.cons rfl (.cons rfl (.cons rfl (.cons rfl (.cons rfl (.cons rfl .nil)))))) (.cons (.tail (.tail .head)) (.cons .head (.cons .head (.cons .head (.cons .head (.cons .head .nil)))))) (fun s' hI ih => ?_)
                obtain ⟨i, ea, ec⟩ := s'
                dsimp only at hI ih ⊢
                have hil := hI.1
                have hll := hI.2
                have hcl2 := qMany_short qE_short i q0
                have hs1 := qdI_len (qMany qE i q0).2
                have hs2 := qdI_len (qdI (qMany qE i q0).2).2
                refine .seq ?_
                refine .seq ?_
                refine .region ?_
                refine RunO.join 14 187 ((decide ((i : Int) < n) && decide ((i : Int) ≤ 64)) && !(qMany qE i q0).2.2) ?_ ?_
                · refine .rd (.move rfl) ?_
                  refine .rd (.move rfl) ?_
                  refine .rd (.lt rfl rfl) ?_
                  refine .rd (.move rfl) ?_
                  refine .split (t := 177) rfl (fun g43 => ?_) (fun g43 => ?_)
                  · replace g43 := of_decide_eq_true g43
                    refine .on (t := 177) rfl rfl ?_
                    refine .rd (.move rfl) ?_
                    refine .on (t := 177) rfl rfl ?_
                    refine .rd (.le rfl rfl) ?_
                    refine .rd (.pickT rfl rfl) ?_
                    refine .rd (.move rfl) ?_
                    refine .split (t := 181) rfl (fun g43b => ?_) (fun g43b => ?_)
                    · replace g43b := of_decide_eq_true g43b
                      refine .on (t := 181) rfl rfl ?_
                      refine .rd (.move rfl) ?_
                      refine .on (t := 181) rfl rfl ?_
                      refine .rd (.nilCheck rfl) ?_
                      refine .on (t := 181) rfl rfl ?_
                      refine .rd (.fieldAddr fd80_1 rfl) ?_
                      refine .on (t := 181) rfl rfl ?_
                      refine .rd (.ld na4 rfl .head rfl) ?_
                      refine .on (t := 181) rfl rfl ?_
                      refine .rd (.not rfl) ?_
                      refine .rd (.pickT rfl rfl) ?_
                      refine .nil ⟨rfl, ?_, by repeat (first | exact Le.refl _ | refine Le.skip rfl ?_)⟩
                      exact congrArg (fun x => some (Value.bool x)) (Eq.symm (show ((decide ((i : Int) < n) && decide ((i : Int) ≤ 64)) && !(qMany qE i q0).2.2) = _ by (rw [decide_eq_true g43, decide_eq_true g43b]) <;> rfl))
                    · replace g43b := of_decide_eq_false g43b
                      refine .off (t := 181) rfl rfl rfl ?_
                      refine .off (t := 181) rfl rfl rfl ?_
                      refine .off (t := 181) rfl rfl rfl ?_
                      refine .off (t := 181) rfl rfl rfl ?_
                      refine .off (t := 181) rfl rfl rfl ?_
                      refine .rd (.pickF rfl rfl) ?_
                      refine .nil ⟨rfl, ?_, by repeat (first | exact Le.refl _ | refine Le.skip rfl ?_)⟩
                      exact congrArg (fun x => some (Value.bool x)) (Eq.symm (show ((decide ((i : Int) < n) && decide ((i : Int) ≤ 64)) && !(qMany qE i q0).2.2) = _ by (rw [decide_eq_true g43, decide_eq_false g43b]) <;> rfl))
                  · replace g43 := of_decide_eq_false g43
                    refine .off (t := 177) rfl rfl rfl ?_
                    refine .off (t := 177) rfl rfl rfl ?_
                    refine .rd (.pickF rfl rfl) ?_
                    refine .rd (.move rfl) ?_
                    refine .off (t := 181) rfl rfl rfl ?_
                    refine .off (t := 181) rfl rfl rfl ?_
                    refine .off (t := 181) rfl rfl rfl ?_
                    refine .off (t := 181) rfl rfl rfl ?_
                    refine .off (t := 181) rfl rfl rfl ?_
                    refine .rd (.pickF rfl rfl) ?_
                    refine .nil ⟨rfl, ?_, by repeat (first | exact Le.refl _ | refine Le.skip rfl ?_)⟩
                    exact congrArg (fun x => some (Value.bool x)) (Eq.symm (show ((decide ((i : Int) < n) && decide ((i : Int) ≤ 64)) && !(qMany qE i q0).2.2) = _ by (rw [decide_eq_false g43]) <;> rfl))
                refine .nil ?_
                refine .cond rfl (fun h43 => ?_) (fun h43 => ?_)
                · have hc : ((i : Int) < n ∧ (i : Int) ≤ 64) ∧ (qMany qE i q0).2.2 = false := by simpa using h43
                  have hgo := qMany_go (rs := qE) (i := i) (p := q0) hc.2
                  have hlt : i < K := by omega
                  refine .skip ?_
                  refine .seq ?_
                  refine .block ?_
                  refine .seq ?_
                  refine .region ?_
                  refine .rd (.move rfl) ?_
                  refine .fn rfl rfl (.cons .head .nil) (fun _ _ _ => trivial) (qdint_ok r (qMany qE i q0).2 (by omega)) (fun v G1 hq => ?_)
                  obtain ⟨rfl, rfl⟩ := hq
                  simp only [List.cons_append, List.nil_append]
                  refine .rd (.build rfl (bld86_0 _)) ?_
                  refine .ef (.alloc ti86 rfl (ones.of rfl)) ?_
                  rintro _ _ ⟨b15, rfl, rfl⟩
                  refine .ef0 (.storeAll (vs := [.int .i64 (qdI (qMany qE i q0).2).1, .int .i64 0, .string ⟨#[]⟩]) ts86 rfl rfl rfl .head rfl (ones.of rfl)) ?_
                  rintro _ _ rfl
                  refine .nil ?_
                  refine .seq ?_
                  refine .region ?_
                  refine .rd (.move rfl) ?_
                  refine .fn rfl rfl (.cons (.tail .head) .nil) (fun _ _ _ => trivial) (qdint_ok r (qdI (qMany qE i q0).2).2 (by omega)) (fun v G1 hq => ?_)
                  obtain ⟨rfl, rfl⟩ := hq
                  simp only [List.cons_append, List.nil_append]
                  refine .rd (.fieldAddr fd86_1 rfl) ?_
                  refine .ef0 (.store ts3 rfl rfl (.tail .head) rfl (Nat.le_of_ble_eq_true rfl)) ?_
                  rintro _ _ rfl
                  refine .nil ?_
                  refine .seq ?_
                  refine .region ?_
                  refine .rd (.move rfl) ?_
                  refine .fn rfl rfl (.cons (.tail .head) .nil) (fun _ _ _ => trivial) (qdtext_ok r (qdI (qdI (qMany qE i q0).2).2).2 65536 (by omega)) (fun v G1 hq => ?_)
                  obtain ⟨rfl, rfl⟩ := hq
                  simp only [List.cons_append, List.nil_append]
                  refine .rd (.fieldAddr fd86_2 rfl) ?_
                  refine .ef0 (.store ts9 rfl rfl (.tail .head) rfl (Nat.le_of_ble_eq_true rfl)) ?_
                  rintro _ _ rfl
                  refine .nil ?_
                  refine .cast (X' := blk b15 (Ent.cells ((qE (qMany qE i q0).2).1)) 86) (rfl) ?_
                  refine .region ?_
                  refine .rd (.fieldAddr fd54_19 rfl) ?_
                  refine .rd (.ld na52 rfl (.tail (.tail .head)) rfl) ?_
                  refine .rd (.ldN ia86 ts86 rfl .head rfl) ?_
                  refine .ef (.buildOne (cs := Ent.cells ((qE (qMany qE i q0).2).1)) Try.underlying52 ti86 (by decide) rfl rfl rfl (ones.of rfl)) ?_
                  rintro _ _ ⟨bs, rfl, rfl⟩
                  refine .ef (.append rfl rfl Try.underlying52 ti86 rfl (ones.of rfl) (by decide) (by decide) rfl rfl (.tail (.tail (.tail (.tail .head)))) (n := (qMany qE i q0).1.length) (m := 1) (by rw [flat_length Ent.cells_len]) (.srcBlk (ys := Ent.cells ((qE (qMany qE i q0).2).1)) .head Try.underlying52 rfl (by decide)) (by omega)) ?_
                  rintro _ _ ⟨ra, rc, rfl, rn, rfl⟩
                  refine .rd (.fieldAddr fd54_19 rfl) ?_
                  refine .ef0 (.store ts52 rfl rfl (.tail (.tail (.tail (.tail .head)))) rfl (Nat.le_of_ble_eq_true rfl)) ?_
                  rintro _ _ rfl
                  refine .nil ?_
                  refine .perm (.cons (.tail .head) (.cons .head (.cons .head (.cons .head (.cons .head (.cons .head (.cons .head (.cons .head .nil)))))))) ?_
                  refine .cast (X' := arr 86 3 ra rc ((qMany qE (i + 1) q0).1.flatMap Ent.cells)) (by rw [hgo, List.flatMap_append]; simp) ?_
                  refine .perm (.cons (.tail .head) (.cons .head (.cons .head (.cons .head (.cons .head (.cons .head (.cons .head (.cons .head .nil)))))))) ?_
                  refine .cast (X' := blk b4 (MsgM.cells (((⟨k1, x0, x1, x2, x3, x4, x5, x6, x7, x8, x9, x10, x11, x12, x13, x14, (rdOpt (bit has 15) (qdT 65536) [] (rdNums qdI has 15 q).2).1, (rdOpt (bit has 16) (qdT 65536) [] (rdOpt (bit has 15) (qdT 65536) [] (rdNums qdI has 15 q).2).2).1, none, 0, [], none, 0, [], none, 0, []⟩ : MsgM).wB ba bc bl).wE ra rc (qMany qE (i + 1) q0).1)) 54) (congrArg (fun l => blk b4 l 54) (by simp [MsgM.cells, MsgM.wB, MsgM.wE, hgo])) ?_
                  refine .perm (.cons (.tail (.tail (.tail (.tail .head)))) (.cons .head (.cons .head (.cons .head (.cons .head (.cons .head (.cons .head (.cons .head .nil)))))))) ?_
                  refine .cast (X' := blk r [.string (str (qMany qE (i + 1) q0).2.1), .bool (qMany qE (i + 1) q0).2.2] 80) (by rw [hgo]; rfl) ?_
                  refine .inBlock ?_
                  refine .region ?_
                  refine .rd (.move rfl) ?_
                  refine .rd (.add rfl rfl (by omega) (by omega)) ?_
                  refine .rd (.assign rfl) ?_
                  refine .nil ?_
                  exact (ih (i + 1, ra, rc) ⟨by show i + 1 ≤ K; omega, by show (qMany qE (i + 1) q0).1.length = i + 1; rw [hgo, List.length_append, hll]; rfl⟩ (by show K - (i + 1) < K - i; omega)).to (.cons rfl (.cons rfl (.cons rfl (.cons rfl (.cons rfl (.cons rfl .nil)))))) (.cons .head (.cons .head (.cons .head (.cons (.tail (.tail .head)) (.cons (.tail (.tail .head)) (.cons (.tail (.tail .head)) .nil))))))
                · have hfin : qMany qE K q0 = qMany qE i q0 := by
                    by_cases hb : (qMany qE i q0).2.2 = true
                    · exact qMany_stop hb K hil
                    · have : i = K := by
                        simp only [Bool.not_eq_true] at hb
                        rw [hb] at h43
                        simp at h43
                        omega
                      rw [this]
                  have hBv : (rdOpt (bit has 18) (qL 64 qE) [] (rdOpt (bit has 17) (qL 64 qB) [] (rdOpt (bit has 16) (qdT 65536) [] (rdOpt (bit has 15) (qdT 65536) [] (rdNums qdI has 15 q).2).2).2).2) = qMany qE i q0 := (rdOpt_true h40).trans (by show qMany qE (min (qdI (rdOpt (bit has 17) (qL 64 qB) [] (rdOpt (bit has 16) (qdT 65536) [] (rdOpt (bit has 15) (qdT 65536) [] (rdNums qdI has 15 q).2).2).2).2).1.toNat (64 + 1)) (qdI (rdOpt (bit has 17) (qL 64 qB) [] (rdOpt (bit has 16) (qdT 65536) [] (rdOpt (bit has 15) (qdT 65536) [] (rdNums qdI has 15 q).2).2).2).2).2 = _; rw [← hn, ← hq0, ← hK, hfin])
                  refine .settle (.tail (.tail .head)) (Settles.arr) ?_
                  refine .knowAnd (fun w => (RowAt ba (bl.flatMap BatM.cells) w ∧ ∀ y ∈ bl, RowAt y.2.1 (y.1.recs.flatMap Rec.cells) w) ∧ RowAt ea ((rdOpt (bit has 18) (qL 64 qE) [] (rdOpt (bit has 17) (qL 64 qB) [] (rdOpt (bit has 16) (qdT 65536) [] (rdOpt (bit has 15) (qdT 65536) [] (rdNums qdI has 15 q).2).2).2).2).1.flatMap Ent.cells) w) (.cons (.tail (.tail (.tail .head))) (.cons .head .nil)) (fun w h1 h2 => ⟨h1, by rw [hBv]; exact h2⟩) ?_
                  refine .perm (.cons (.tail .head) (.cons .head (.cons .head (.cons .head (.cons .head .nil))))) ?_
                  refine .cast (X' := blk r [.string (str (rdOpt (bit has 18) (qL 64 qE) [] (rdOpt (bit has 17) (qL 64 qB) [] (rdOpt (bit has 16) (qdT 65536) [] (rdOpt (bit has 15) (qdT 65536) [] (rdNums qdI has 15 q).2).2).2).2).2.1), .bool (rdOpt (bit has 18) (qL 64 qE) [] (rdOpt (bit has 17) (qL 64 qB) [] (rdOpt (bit has 16) (qdT 65536) [] (rdOpt (bit has 15) (qdT 65536) [] (rdNums qdI has 15 q).2).2).2).2).2.2] 80) (by rw [hBv]) ?_
                  refine .perm (.cons (.tail (.tail .head)) (.cons .head (.cons .head (.cons .head (.cons .head .nil))))) ?_
                  refine .cast (X' := blk b4 (MsgM.cells (((⟨k1, x0, x1, x2, x3, x4, x5, x6, x7, x8, x9, x10, x11, x12, x13, x14, (rdOpt (bit has 15) (qdT 65536) [] (rdNums qdI has 15 q).2).1, (rdOpt (bit has 16) (qdT 65536) [] (rdOpt (bit has 15) (qdT 65536) [] (rdNums qdI has 15 q).2).2).1, none, 0, [], none, 0, [], none, 0, []⟩ : MsgM).wB ba bc bl).wE ea ec (rdOpt (bit has 18) (qL 64 qE) [] (rdOpt (bit has 17) (qL 64 qB) [] (rdOpt (bit has 16) (qdT 65536) [] (rdOpt (bit has 15) (qdT 65536) [] (rdNums qdI has 15 q).2).2).2).2).1)) 54) (by rw [hBv]) ?_
                  refine .exit rfl ?_
                  exact fin (ea, ec) trivial (.cons rfl (.cons rfl (.cons rfl (.cons rfl .nil)))) (.cons (.tail .head) (.cons .head (.cons .head (.cons .head (.cons .head .nil)))))
              · have hBv : (rdOpt (bit has 18) (qL 64 qE) [] (rdOpt (bit has 17) (qL 64 qB) [] (rdOpt (bit has 16) (qdT 65536) [] (rdOpt (bit has 15) (qdT 65536) [] (rdNums qdI has 15 q).2).2).2).2) = ([], (rdOpt (bit has 17) (qL 64 qB) [] (rdOpt (bit has 16) (qdT 65536) [] (rdOpt (bit has 15) (qdT 65536) [] (rdNums qdI has 15 q).2).2).2).2) := rdOpt_false h40
                refine .knowT (fun w => RowAt none ((rdOpt (bit has 18) (qL 64 qE) [] (rdOpt (bit has 17) (qL 64 qB) [] (rdOpt (bit has 16) (qdT 65536) [] (rdOpt (bit has 15) (qdT 65536) [] (rdNums qdI has 15 q).2).2).2).2).1.flatMap Ent.cells) w) (fun w => by rw [hBv]; exact .inl rfl) ?_
                refine .knowAnd (fun w => (RowAt ba (bl.flatMap BatM.cells) w ∧ ∀ y ∈ bl, RowAt y.2.1 (y.1.recs.flatMap Rec.cells) w) ∧ RowAt none ((rdOpt (bit has 18) (qL 64 qE) [] (rdOpt (bit has 17) (qL 64 qB) [] (rdOpt (bit has 16) (qdT 65536) [] (rdOpt (bit has 15) (qdT 65536) [] (rdNums qdI has 15 q).2).2).2).2).1.flatMap Ent.cells) w) (.cons (.tail (.tail (.tail .head))) (.cons .head .nil)) (fun w h1 h2 => ⟨h1, h2⟩) ?_
                refine .perm (.cons (.tail (.tail .head)) (.cons .head (.cons .head (.cons .head (.cons .head .nil))))) ?_
                refine .cast (X' := blk b4 (MsgM.cells (((⟨k1, x0, x1, x2, x3, x4, x5, x6, x7, x8, x9, x10, x11, x12, x13, x14, (rdOpt (bit has 15) (qdT 65536) [] (rdNums qdI has 15 q).2).1, (rdOpt (bit has 16) (qdT 65536) [] (rdOpt (bit has 15) (qdT 65536) [] (rdNums qdI has 15 q).2).2).1, none, 0, [], none, 0, [], none, 0, []⟩ : MsgM).wB ba bc bl).wE none 0 (rdOpt (bit has 18) (qL 64 qE) [] (rdOpt (bit has 17) (qL 64 qB) [] (rdOpt (bit has 16) (qdT 65536) [] (rdOpt (bit has 15) (qdT 65536) [] (rdNums qdI has 15 q).2).2).2).2).1)) 54) (by first | (rw [hBv]; done) | (rw [hBv]; rfl)) ?_
                refine .perm (.cons (.tail (.tail .head)) (.cons .head (.cons .head (.cons .head (.cons .head .nil))))) ?_
                refine .cast (X' := blk r [.string (str (rdOpt (bit has 18) (qL 64 qE) [] (rdOpt (bit has 17) (qL 64 qB) [] (rdOpt (bit has 16) (qdT 65536) [] (rdOpt (bit has 15) (qdT 65536) [] (rdNums qdI has 15 q).2).2).2).2).2.1), .bool (rdOpt (bit has 18) (qL 64 qE) [] (rdOpt (bit has 17) (qL 64 qB) [] (rdOpt (bit has 16) (qdT 65536) [] (rdOpt (bit has 15) (qdT 65536) [] (rdNums qdI has 15 q).2).2).2).2).2.2] 80) (by rw [hBv]) ?_
                refine .skip ?_
                exact fin (none, 0) trivial (.cons rfl (.cons rfl (.cons rfl (.cons rfl .nil)))) (.cons .head (.cons .head (.cons .head (.cons .head (.cons .head .nil)))))
          · refine .cond rfl (fun h30 => ?_) (fun h30 => ?_)
            · refine .seq ?_
              refine .region ?_
              refine .rd (.move rfl) ?_
              refine .fn rfl rfl (.cons .head .nil) (fun _ _ _ => trivial) (qdint_ok r (rdOpt (bit has 16) (qdT 65536) [] (rdOpt (bit has 15) (qdT 65536) [] (rdNums qdI has 15 q).2).2).2 (by omega)) (fun v G1 hq => ?_)
              obtain ⟨rfl, rfl⟩ := hq
              simp only [List.cons_append, List.nil_append]
              refine .rd (.assign rfl) ?_
              refine .nil ?_
              obtain ⟨n, hn⟩ : ∃ n, n = (qdI (rdOpt (bit has 16) (qdT 65536) [] (rdOpt (bit has 15) (qdT 65536) [] (rdNums qdI has 15 q).2).2).2).1 := ⟨_, rfl⟩
              obtain ⟨q0, hq0⟩ : ∃ x, x = (qdI (rdOpt (bit has 16) (qdT 65536) [] (rdOpt (bit has 15) (qdT 65536) [] (rdNums qdI has 15 q).2).2).2).2 := ⟨_, rfl⟩
              have hq0l := qdI_len (rdOpt (bit has 16) (qdT 65536) [] (rdOpt (bit has 15) (qdT 65536) [] (rdNums qdI has 15 q).2).2).2
              rw [← hq0] at hq0l
              refine .alter (t := 8) (v' := .int .i64 n) rfl (by rw [hn]) ?_
              obtain ⟨K, hK⟩ : ∃ K : Nat, K = min n.toNat (64 + 1) := ⟨_, rfl⟩
              refine .cast (X' := blk r [.string (str q0.1), .bool q0.2] 80) (by rw [hq0]) ?_
              refine .seq ?_
              refine .region ?_
              refine .rd (.assign rfl) ?_
              refine .nil ?_
              refine .nilArr 27 6 none ?_
              refine .knowT (fun w => ∀ y ∈ ([] : List BatM), RowAt y.2.1 (y.1.recs.flatMap Rec.cells) w) (fun w y hy => by cases hy) ?_
              refine .perm (.cons (.tail (.tail (.tail .head))) (.cons .head (.cons .head (.cons .head (.cons .head (.cons .head .nil)))))) ?_
              refine .cast (X' := blk b4 (MsgM.cells ((⟨k1, x0, x1, x2, x3, x4, x5, x6, x7, x8, x9, x10, x11, x12, x13, x14, (rdOpt (bit has 15) (qdT 65536) [] (rdNums qdI has 15 q).2).1, (rdOpt (bit has 16) (qdT 65536) [] (rdOpt (bit has 15) (qdT 65536) [] (rdNums qdI has 15 q).2).2).1, none, 0, [], none, 0, [], none, 0, []⟩ : MsgM).wB none 0 [])) 54) (rfl) ?_
              refine .block ?_
              refine .loop (σ := List BatM × Option Addr × Nat) (fun ⟨bl, ba, bc⟩ => bl.length ≤ K ∧ bl.map (·.1) = (qMany qB bl.length q0).1) (fun ⟨bl, ba, bc⟩ => K - bl.length) (fun ⟨bl, ba, bc⟩ => [(0, .pointer (some ⟨r, 0, none⟩)), (2, .pointer (some ⟨b2, 0, none⟩)), (4, .pointer (some ⟨b4, 0, none⟩)), (5, .int .i64 (has : Nat)), (8, .int .i64 n), (9, .int .i64 (bl.length : Nat))]) (fun ⟨bl, ba, bc⟩ => [blk r [.string (str (qMany qB bl.length q0).2.1), .bool (qMany qB bl.length q0).2.2] 80, blk b4 (MsgM.cells ((⟨k1, x0, x1, x2, x3, x4, x5, x6, x7, x8, x9, x10, x11, x12, x13, x14, (rdOpt (bit has 15) (qdT 65536) [] (rdNums qdI has 15 q).2).1, (rdOpt (bit has 16) (qdT 65536) [] (rdOpt (bit has 15) (qdT 65536) [] (rdNums qdI has 15 q).2).2).1, none, 0, [], none, 0, [], none, 0, []⟩ : MsgM).wB ba bc bl)) 54, arr 27 6 ba bc (bl.flatMap BatM.cells), know (fun w => ∀ y ∈ bl, RowAt y.2.1 (y.1.recs.flatMap Rec.cells) w), blk b2 zeroMM.cells 54, R]) ([], none, 0) ⟨Nat.zero_le _, rfl⟩ (.cons rfl (.cons rfl (.cons rfl (.cons rfl (.cons rfl (.cons rfl .nil)))))) (.cons (.tail (.tail (.tail .head))) (.cons .head (.cons (.tail .head) (.cons .head (.cons .head (.cons .head .nil)))))) (fun s' hI ih => ?_)
              obtain ⟨bl, ba, bc⟩ := s'
              dsimp only at hI ih ⊢
              have hbl := hI.1
              have hcl2 := qMany_short qB_short bl.length q0
              refine .seq ?_
              refine .seq ?_
              refine .region ?_
              refine RunO.join 14 138 ((decide ((bl.length : Int) < n) && decide ((bl.length : Int) ≤ 64)) && !(qMany qB bl.length q0).2.2) ?_ ?_
              · refine .rd (.move rfl) ?_
                refine .rd (.move rfl) ?_
                refine .rd (.lt rfl rfl) ?_
                refine .rd (.move rfl) ?_
                refine .split (t := 128) rfl (fun g33 => ?_) (fun g33 => ?_)
                · replace g33 := of_decide_eq_true g33
                  refine .on (t := 128) rfl rfl ?_
                  refine .rd (.move rfl) ?_
                  refine .on (t := 128) rfl rfl ?_
                  refine .rd (.le rfl rfl) ?_
                  refine .rd (.pickT rfl rfl) ?_
                  refine .rd (.move rfl) ?_
                  refine .split (t := 132) rfl (fun g33b => ?_) (fun g33b => ?_)
                  · replace g33b := of_decide_eq_true g33b
                    refine .on (t := 132) rfl rfl ?_
                    refine .rd (.move rfl) ?_
                    refine .on (t := 132) rfl rfl ?_
                    refine .rd (.nilCheck rfl) ?_
                    refine .on (t := 132) rfl rfl ?_
                    refine .rd (.fieldAddr fd80_1 rfl) ?_
                    refine .on (t := 132) rfl rfl ?_
                    refine .rd (.ld na4 rfl .head rfl) ?_
                    refine .on (t := 132) rfl rfl ?_
                    refine .rd (.not rfl) ?_
                    refine .rd (.pickT rfl rfl) ?_
                    refine .nil ⟨rfl, ?_, by repeat (first | exact Le.refl _ | refine Le.skip rfl ?_)⟩
                    exact congrArg (fun x => some (Value.bool x)) (Eq.symm (show ((decide ((bl.length : Int) < n) && decide ((bl.length : Int) ≤ 64)) && !(qMany qB bl.length q0).2.2) = _ by (rw [decide_eq_true g33, decide_eq_true g33b]) <;> rfl))
                  · replace g33b := of_decide_eq_false g33b
                    refine .off (t := 132) rfl rfl rfl ?_
                    refine .off (t := 132) rfl rfl rfl ?_
                    refine .off (t := 132) rfl rfl rfl ?_
                    refine .off (t := 132) rfl rfl rfl ?_
                    refine .off (t := 132) rfl rfl rfl ?_
                    refine .rd (.pickF rfl rfl) ?_
                    refine .nil ⟨rfl, ?_, by repeat (first | exact Le.refl _ | refine Le.skip rfl ?_)⟩
                    exact congrArg (fun x => some (Value.bool x)) (Eq.symm (show ((decide ((bl.length : Int) < n) && decide ((bl.length : Int) ≤ 64)) && !(qMany qB bl.length q0).2.2) = _ by (rw [decide_eq_true g33, decide_eq_false g33b]) <;> rfl))
                · replace g33 := of_decide_eq_false g33
                  refine .off (t := 128) rfl rfl rfl ?_
                  refine .off (t := 128) rfl rfl rfl ?_
                  refine .rd (.pickF rfl rfl) ?_
                  refine .rd (.move rfl) ?_
                  refine .off (t := 132) rfl rfl rfl ?_
                  refine .off (t := 132) rfl rfl rfl ?_
                  refine .off (t := 132) rfl rfl rfl ?_
                  refine .off (t := 132) rfl rfl rfl ?_
                  refine .off (t := 132) rfl rfl rfl ?_
                  refine .rd (.pickF rfl rfl) ?_
                  refine .nil ⟨rfl, ?_, by repeat (first | exact Le.refl _ | refine Le.skip rfl ?_)⟩
                  exact congrArg (fun x => some (Value.bool x)) (Eq.symm (show ((decide ((bl.length : Int) < n) && decide ((bl.length : Int) ≤ 64)) && !(qMany qB bl.length q0).2.2) = _ by (rw [decide_eq_false g33]) <;> rfl))
              refine .nil ?_
              refine .cond rfl (fun h33 => ?_) (fun h33 => ?_)
              · have hc : ((bl.length : Int) < n ∧ (bl.length : Int) ≤ 64) ∧ (qMany qB bl.length q0).2.2 = false := by simpa using h33
                have hgo := qMany_go (rs := qB) (i := bl.length) (p := q0) hc.2
                have hlt : bl.length < K := by omega
                refine .skip ?_
                refine .seq ?_
                refine .block ?_
                refine .seq ?_
                refine .region ?_
                refine .rd (.move rfl) ?_
                refine .rd (.nilCheck rfl) ?_
                refine .rd (.fieldAddr fd80_0 rfl) ?_
                refine .rd (.ld na9 rfl .head rfl) ?_
                refine .fn rfl rfl .nil (fun _ _ _ => trivial) (rReadBatch_ok (qMany qB bl.length q0).2.1 (by omega)) (fun v G1 hq => ?_)
                obtain ⟨a1, c1, rfl, rfl⟩ := hq
                simp only [List.cons_append, List.nil_append]
                refine .rd (.move rfl) ?_
                refine .rd (.extract rfl rfl) ?_
                refine .rd (.extract rfl rfl) ?_
                refine .rd (.extract rfl rfl) ?_
                refine .ef (.alloc ti27 rfl (ones.of rfl)) ?_
                rintro _ _ ⟨b10, rfl, rfl⟩
                refine .ef0 (.storeAll (vs := BatM.cells ((readBatch (qMany qB bl.length q0).2.1).1, a1, c1)) ts27 rfl rfl rfl .head rfl (ones.of rfl)) ?_
                rintro _ _ rfl
                refine .rd (.assign rfl) ?_
                refine .rd (.assign rfl) ?_
                refine .nil ?_
                refine .seq ?_
                refine .seq ?_
                refine .region ?_
                refine .rd (.move rfl) ?_
                refine .rd (.neI rfl rfl) ?_
                refine .nil ?_
                refine .condN rfl (fun h36 => ?_) (fun h36 => ?_)
                · have hbq : (qMany qB (bl.length + 1) q0).2.2 = true := by rw [hgo]; show (qB (qMany qB bl.length q0).2).2.2 = true; rw [qB_no h36]
                  have hbK := qMany_stop hbq K (by omega)
                  have hAv : (rdOpt (bit has 17) (qL 64 qB) [] (rdOpt (bit has 16) (qdT 65536) [] (rdOpt (bit has 15) (qdT 65536) [] (rdNums qdI has 15 q).2).2).2) = qMany qB K q0 := (rdOpt_true h30).trans (by show qMany qB (min (qdI (rdOpt (bit has 16) (qdT 65536) [] (rdOpt (bit has 15) (qdT 65536) [] (rdNums qdI has 15 q).2).2).2).1.toNat (64 + 1)) (qdI (rdOpt (bit has 16) (qdT 65536) [] (rdOpt (bit has 15) (qdT 65536) [] (rdNums qdI has 15 q).2).2).2).2 = _; rw [← hn, ← hq0, ← hK])
                  have hbad2 : (qMsg p).2.2 = true := by
                    rw [hin, qBody_eq]
                    exact qLists_bad (by rw [hAv, hbK]; exact hbq)
                  refine .settle (.tail (.tail (.tail (.tail .head)))) (Settles.arr) ?_
                  refine .knowAnd (((⟨k1, x0, x1, x2, x3, x4, x5, x6, x7, x8, x9, x10, x11, x12, x13, x14, (rdOpt (bit has 15) (qdT 65536) [] (rdNums qdI has 15 q).2).1, (rdOpt (bit has 16) (qdT 65536) [] (rdOpt (bit has 15) (qdT 65536) [] (rdNums qdI has 15 q).2).2).1, none, 0, [], none, 0, [], none, 0, []⟩ : MsgM).wB ba bc bl).at_) (.cons .head (.cons (.tail (.tail (.tail (.tail .head)))) .nil)) (fun w h1 h2 => ⟨h1, h2, .inl rfl, .inl rfl⟩) ?_
                  refine .seq ?_
                  refine .region ?_
                  refine .rd (.ldN ia54 ts54 rfl (.tail (.tail (.tail (.tail .head)))) rfl) ?_
                  refine .ef0 (.storeAll (vs := MsgM.cells ((⟨k1, x0, x1, x2, x3, x4, x5, x6, x7, x8, x9, x10, x11, x12, x13, x14, (rdOpt (bit has 15) (qdT 65536) [] (rdNums qdI has 15 q).2).1, (rdOpt (bit has 16) (qdT 65536) [] (rdOpt (bit has 15) (qdT 65536) [] (rdNums qdI has 15 q).2).2).1, none, 0, [], none, 0, [], none, 0, []⟩ : MsgM).wB ba bc bl)) ts54 rfl rfl rfl (.tail (.tail (.tail (.tail (.tail .head))))) rfl (ones.of rfl)) ?_
                  rintro _ _ rfl
                  refine .rd (.assign rfl) ?_
                  refine .nil ?_
                  refine .retP Try.func61 (.cons (.blkN ia54 ts54 rfl .head rfl) (.cons (.tmp rfl) .nil)) (.cons (.tail (.tail (.tail (.tail .head)))) (.cons (.tail .head) (.cons (.tail (.tail (.tail (.tail .head)))) .nil))) ?_
                  exact ⟨[_, _], ⟨(⟨k1, x0, x1, x2, x3, x4, x5, x6, x7, x8, x9, x10, x11, x12, x13, x14, (rdOpt (bit has 15) (qdT 65536) [] (rdNums qdI has 15 q).2).1, (rdOpt (bit has 16) (qdT 65536) [] (rdOpt (bit has 15) (qdT 65536) [] (rdNums qdI has 15 q).2).2).1, none, 0, [], none, 0, [], none, 0, []⟩ : MsgM).wB ba bc bl, false, rfl, by rw [hbad2]; exact ⟨fun h => (by cases h), fun h => (by cases h.1)⟩, fun h => (by cases h), (qMany qB bl.length q0).2, rfl⟩, rfl⟩
                · have hqb : qB (qMany qB bl.length q0).2 = ((readBatch (qMany qB bl.length q0).2.1).1, (qMany qB bl.length q0).2.1.drop (readBatch (qMany qB bl.length q0).2.1).2.1.toNat, (qMany qB bl.length q0).2.2) := qB_yes h36
                  have hk := readBatch_k (qMany qB bl.length q0).2.1
                  refine .settle (.tail .head) (Settles.arr) ?_
                  refine .knowAnd (fun w => ∀ y ∈ bl ++ [((readBatch (qMany qB bl.length q0).2.1).1, a1, c1)], RowAt y.2.1 (y.1.recs.flatMap Rec.cells) w) (.cons (.tail (.tail (.tail (.tail (.tail .head))))) (.cons .head .nil)) (fun w h1 h2 y hy => by rcases List.mem_append.1 hy with h | h; exact h1 y h; rcases List.mem_singleton.1 h with rfl; exact h2) ?_
                  refine .skip ?_
                  refine .seq ?_
                  refine .region ?_
                  refine .rd (.move rfl) ?_
                  refine .rd (.move rfl) ?_
                  refine .rd (.nilCheck rfl) ?_
                  refine .rd (.fieldAddr fd80_0 rfl) ?_
                  refine .rd (.ld na9 rfl (.tail (.tail .head)) rfl) ?_
                  refine .rd (.move rfl) ?_
                  refine .alter (t := 158) (v' := .int .i64 ((readBatch (qMany qB bl.length q0).2.1).2.1.toNat : Int)) rfl (congrArg (Value.int .i64) (by omega)) ?_
                  refine .rd (.sliceT (l := (qMany qB bl.length q0).2.1) (a := (readBatch (qMany qB bl.length q0).2.1).2.1.toNat) (h := (qMany qB bl.length q0).2.1.length) Try.underlying9 rfl ⟨_, rfl⟩ rfl (by omega) (by omega)) ?_
                  refine .rd (.nilCheck rfl) ?_
                  refine .rd (.fieldAddr fd80_0 rfl) ?_
                  refine .ef0 (.store ts9 rfl rfl (.tail (.tail .head)) rfl (Nat.le_of_ble_eq_true rfl)) ?_
                  rintro _ _ rfl
                  refine .nil ?_
                  refine .cast (X' := blk r [.string (str (qB (qMany qB bl.length q0).2).2.1), .bool (qB (qMany qB bl.length q0).2).2.2] 80) (by rw [hqb]; show blk r [Value.string (str ((_ : List UInt8).take _)), _] 80 = _; rw [List.take_of_length_le (by rw [List.length_drop]; omega)]) ?_
                  refine .region ?_
                  refine .rd (.fieldAddr fd54_18 rfl) ?_
                  refine .rd (.ld na51 rfl (.tail (.tail (.tail .head))) rfl) ?_
                  refine .rd (.ldN ia27 ts27 rfl (.tail (.tail .head)) rfl) ?_
                  refine .ef (.buildOne (cs := BatM.cells ((readBatch (qMany qB bl.length q0).2.1).1, a1, c1)) Try.underlying51 ti27 (by decide) rfl rfl rfl (ones.of rfl)) ?_
                  rintro _ _ ⟨bs, rfl, rfl⟩
                  refine .ef (.append rfl rfl Try.underlying51 ti27 rfl (ones.of rfl) (by decide) (by decide) rfl rfl (.tail (.tail (.tail (.tail (.tail .head))))) (n := bl.length) (m := 1) (by rw [flat_length BatM.cells_len]) (.srcBlk (ys := BatM.cells ((readBatch (qMany qB bl.length q0).2.1).1, a1, c1)) .head Try.underlying51 rfl (by decide)) (by omega)) ?_
                  rintro _ _ ⟨ra, rc, rfl, rn, rfl⟩
                  refine .rd (.fieldAddr fd54_18 rfl) ?_
                  refine .ef0 (.store ts51 rfl rfl (.tail (.tail (.tail (.tail (.tail .head))))) rfl (Nat.le_of_ble_eq_true rfl)) ?_
                  rintro _ _ rfl
                  refine .nil ?_
                  refine .perm (.cons (.tail .head) (.cons .head (.cons .head (.cons .head (.cons .head (.cons .head (.cons .head (.cons .head .nil)))))))) ?_
                  refine .cast (X' := arr 27 6 ra rc ((bl ++ [((readBatch (qMany qB bl.length q0).2.1).1, a1, c1)]).flatMap BatM.cells)) (by rw [List.flatMap_append]; simp) ?_
                  refine .perm (.cons (.tail .head) (.cons .head (.cons .head (.cons .head (.cons .head (.cons .head (.cons .head (.cons .head .nil)))))))) ?_
                  refine .cast (X' := blk b4 (MsgM.cells ((⟨k1, x0, x1, x2, x3, x4, x5, x6, x7, x8, x9, x10, x11, x12, x13, x14, (rdOpt (bit has 15) (qdT 65536) [] (rdNums qdI has 15 q).2).1, (rdOpt (bit has 16) (qdT 65536) [] (rdOpt (bit has 15) (qdT 65536) [] (rdNums qdI has 15 q).2).2).1, none, 0, [], none, 0, [], none, 0, []⟩ : MsgM).wB ra rc (bl ++ [((readBatch (qMany qB bl.length q0).2.1).1, a1, c1)]))) 54) (congrArg (fun l => blk b4 l 54) (by simp [MsgM.cells, MsgM.wB])) ?_
                  refine .perm (.cons (.tail (.tail (.tail .head))) (.cons .head (.cons .head (.cons .head (.cons .head (.cons .head (.cons .head (.cons .head .nil)))))))) ?_
                  refine .cast (X' := blk r [.string (str (qMany qB (bl ++ [((readBatch (qMany qB bl.length q0).2.1).1, a1, c1)]).length q0).2.1), .bool (qMany qB (bl ++ [((readBatch (qMany qB bl.length q0).2.1).1, a1, c1)]).length q0).2.2] 80) (by rw [List.length_append]; show _ = blk r [.string (str (qMany qB (bl.length + 1) q0).2.1), .bool (qMany qB (bl.length + 1) q0).2.2] 80; rw [hgo]) ?_
                  refine .inBlock ?_
                  refine .region ?_
                  refine .rd (.move rfl) ?_
                  refine .rd (.add rfl rfl (by omega) (by omega)) ?_
                  refine .rd (.assign rfl) ?_
                  refine .nil ?_
                  exact (ih (bl ++ [((readBatch (qMany qB bl.length q0).2.1).1, a1, c1)], ra, rc) ⟨by show (bl ++ [_]).length ≤ K; rw [List.length_append]; show bl.length + 1 ≤ K; omega, by rw [List.length_append, List.map_append, hI.2]; show _ = (qMany qB (bl.length + 1) q0).1; rw [hgo, hqb]; rfl⟩ (by show K - (bl ++ [_]).length < K - bl.length; rw [List.length_append]; show K - (bl.length + 1) < _; omega)).to (.cons rfl (.cons rfl (.cons rfl (.cons rfl (.cons rfl (.cons (by show _ = some (Value.int .i64 (((bl ++ [((readBatch (qMany qB bl.length q0).2.1).1, a1, c1)]).length : Nat) : Int)); rw [List.length_append]; rfl) .nil)))))) (.cons .head (.cons .head (.cons .head (.cons (.tail .head) (.cons (.tail (.tail .head)) (.cons (.tail (.tail .head)) .nil))))))
              · have hfin : qMany qB K q0 = qMany qB bl.length q0 := by
                  by_cases hb : (qMany qB bl.length q0).2.2 = true
                  · exact qMany_stop hb K hbl
                  · have : bl.length = K := by
                      simp only [Bool.not_eq_true] at hb
                      rw [hb] at h33
                      simp at h33
                      omega
                    rw [this]
                have hAv : (rdOpt (bit has 17) (qL 64 qB) [] (rdOpt (bit has 16) (qdT 65536) [] (rdOpt (bit has 15) (qdT 65536) [] (rdNums qdI has 15 q).2).2).2) = qMany qB bl.length q0 := (rdOpt_true h30).trans (by show qMany qB (min (qdI (rdOpt (bit has 16) (qdT 65536) [] (rdOpt (bit has 15) (qdT 65536) [] (rdNums qdI has 15 q).2).2).2).1.toNat (64 + 1)) (qdI (rdOpt (bit has 16) (qdT 65536) [] (rdOpt (bit has 15) (qdT 65536) [] (rdNums qdI has 15 q).2).2).2).2 = _; rw [← hn, ← hq0, ← hK, hfin])
                refine .settle (.tail (.tail .head)) (Settles.arr) ?_
                refine .knowAnd (fun w => RowAt ba (bl.flatMap BatM.cells) w ∧ ∀ y ∈ bl, RowAt y.2.1 (y.1.recs.flatMap Rec.cells) w) (.cons .head (.cons (.tail (.tail .head)) .nil)) (fun w h1 h2 => ⟨h1, h2⟩) ?_
                refine .perm (.cons (.tail .head) (.cons .head (.cons .head (.cons .head (.cons .head .nil))))) ?_
                refine .cast (X' := blk r [.string (str (rdOpt (bit has 17) (qL 64 qB) [] (rdOpt (bit has 16) (qdT 65536) [] (rdOpt (bit has 15) (qdT 65536) [] (rdNums qdI has 15 q).2).2).2).2.1), .bool (rdOpt (bit has 17) (qL 64 qB) [] (rdOpt (bit has 16) (qdT 65536) [] (rdOpt (bit has 15) (qdT 65536) [] (rdNums qdI has 15 q).2).2).2).2.2] 80) (by rw [hAv]) ?_
                refine .exit rfl ?_
                exact fin (ba, bc, bl) (by rw [hAv]; exact hI.2) (.cons rfl (.cons rfl (.cons rfl (.cons rfl .nil)))) (.cons .head (.cons (.tail .head) (.cons .head (.cons .head (.cons .head .nil)))))
            · have hAv : (rdOpt (bit has 17) (qL 64 qB) [] (rdOpt (bit has 16) (qdT 65536) [] (rdOpt (bit has 15) (qdT 65536) [] (rdNums qdI has 15 q).2).2).2) = ([], (rdOpt (bit has 16) (qdT 65536) [] (rdOpt (bit has 15) (qdT 65536) [] (rdNums qdI has 15 q).2).2).2) := rdOpt_false h30
              refine .knowT (fun w => RowAt none (([] : List BatM).flatMap BatM.cells) w ∧ ∀ y ∈ ([] : List BatM), RowAt y.2.1 (y.1.recs.flatMap Rec.cells) w) (fun w => ⟨.inl rfl, fun y hy => by cases hy⟩) ?_
              refine .perm (.cons (.tail (.tail .head)) (.cons .head (.cons .head (.cons .head (.cons .head .nil))))) ?_
              refine .cast (X' := blk b4 (MsgM.cells ((⟨k1, x0, x1, x2, x3, x4, x5, x6, x7, x8, x9, x10, x11, x12, x13, x14, (rdOpt (bit has 15) (qdT 65536) [] (rdNums qdI has 15 q).2).1, (rdOpt (bit has 16) (qdT 65536) [] (rdOpt (bit has 15) (qdT 65536) [] (rdNums qdI has 15 q).2).2).1, none, 0, [], none, 0, [], none, 0, []⟩ : MsgM).wB none 0 [])) 54) (rfl) ?_
              refine .perm (.cons (.tail (.tail .head)) (.cons .head (.cons .head (.cons .head (.cons .head .nil))))) ?_
              refine .cast (X' := blk r [.string (str (rdOpt (bit has 17) (qL 64 qB) [] (rdOpt (bit has 16) (qdT 65536) [] (rdOpt (bit has 15) (qdT 65536) [] (rdNums qdI has 15 q).2).2).2).2.1), .bool (rdOpt (bit has 17) (qL 64 qB) [] (rdOpt (bit has 16) (qdT 65536) [] (rdOpt (bit has 15) (qdT 65536) [] (rdNums qdI has 15 q).2).2).2).2.2] 80) (by rw [hAv]) ?_
              refine .skip ?_
              exact fin (none, 0, []) (by rw [hAv]; rfl) (.cons rfl (.cons rfl (.cons rfl (.cons rfl .nil)))) (.cons .head (.cons .head (.cons .head (.cons .head (.cons .head .nil)))))
        · refine .cond rfl (fun h28 => ?_) (fun h28 => ?_)
          · refine .region ?_
            refine .rd (.move rfl) ?_
            refine .fn rfl rfl (.cons .head .nil) (fun _ _ _ => trivial) (qdtext_ok r (rdOpt (bit has 15) (qdT 65536) [] (rdNums qdI has 15 q).2).2 65536 (by omega)) (fun v G1 hq => ?_)
            obtain ⟨rfl, rfl⟩ := hq
            simp only [List.cons_append, List.nil_append]
            refine .rd (.fieldAddr fd54_17 rfl) ?_
            refine .ef0 (.store ts9 rfl rfl (.tail .head) rfl (Nat.le_of_ble_eq_true rfl)) ?_
            rintro _ _ rfl
            refine .nil ?_
            refine .perm (.cons (.tail .head) (.cons .head (.cons .head (.cons .head .nil)))) ?_
            refine .cast (X' := blk r [.string (str (rdOpt (bit has 16) (qdT 65536) [] (rdOpt (bit has 15) (qdT 65536) [] (rdNums qdI has 15 q).2).2).2.1), .bool (rdOpt (bit has 16) (qdT 65536) [] (rdOpt (bit has 15) (qdT 65536) [] (rdNums qdI has 15 q).2).2).2.2] 80) (by rw [rdOpt_true h28]) ?_
            refine .perm (.cons (.tail .head) (.cons .head (.cons .head (.cons .head .nil)))) ?_
            refine .cast (X' := blk b4 (MsgM.cells ((⟨k1, x0, x1, x2, x3, x4, x5, x6, x7, x8, x9, x10, x11, x12, x13, x14, (rdOpt (bit has 15) (qdT 65536) [] (rdNums qdI has 15 q).2).1, (rdOpt (bit has 16) (qdT 65536) [] (rdOpt (bit has 15) (qdT 65536) [] (rdNums qdI has 15 q).2).2).1, none, 0, [], none, 0, [], none, 0, []⟩ : MsgM))) 54) (by first | (rw [rdOpt_true h28]; done) | (rw [rdOpt_true h28]; rfl)) ?_
            exact fin (.cons rfl (.cons rfl (.cons rfl (.cons rfl .nil)))) (.cons (.tail .head) (.cons .head (.cons .head (.cons .head .nil))))
          · refine .skip ?_
            refine .cast (X' := blk r [.string (str (rdOpt (bit has 16) (qdT 65536) [] (rdOpt (bit has 15) (qdT 65536) [] (rdNums qdI has 15 q).2).2).2.1), .bool (rdOpt (bit has 16) (qdT 65536) [] (rdOpt (bit has 15) (qdT 65536) [] (rdNums qdI has 15 q).2).2).2.2] 80) (by rw [rdOpt_false h28]) ?_
            refine .perm (.cons (.tail .head) (.cons .head (.cons .head (.cons .head .nil)))) ?_
            refine .cast (X' := blk b4 (MsgM.cells ((⟨k1, x0, x1, x2, x3, x4, x5, x6, x7, x8, x9, x10, x11, x12, x13, x14, (rdOpt (bit has 15) (qdT 65536) [] (rdNums qdI has 15 q).2).1, (rdOpt (bit has 16) (qdT 65536) [] (rdOpt (bit has 15) (qdT 65536) [] (rdNums qdI has 15 q).2).2).1, none, 0, [], none, 0, [], none, 0, []⟩ : MsgM))) 54) (by first | (rw [rdOpt_false h28]; done) | (rw [rdOpt_false h28]; rfl)) ?_
            exact fin (.cons rfl (.cons rfl (.cons rfl (.cons rfl .nil)))) (.cons (.tail .head) (.cons .head (.cons .head (.cons .head .nil))))
      · refine .cond rfl (fun h26 => ?_) (fun h26 => ?_)
        · refine .region ?_
          refine .rd (.move rfl) ?_
          refine .fn rfl rfl (.cons (.tail (.tail .head)) .nil) (fun _ _ _ => trivial) (qdtext_ok r (rdNums qdI has 15 q).2 65536 (by omega)) (fun v G1 hq => ?_)
          obtain ⟨rfl, rfl⟩ := hq
          simp only [List.cons_append, List.nil_append]
          refine .rd (.fieldAddr fd54_16 rfl) ?_
          refine .ef0 (.store ts9 rfl rfl (.tail .head) rfl (Nat.le_of_ble_eq_true rfl)) ?_
          rintro _ _ rfl
          refine .nil ?_
          refine .perm (.cons (.tail .head) (.cons .head (.cons .head (.cons .head (.cons .head .nil))))) ?_
          refine .cast (X' := blk r [.string (str (rdOpt (bit has 15) (qdT 65536) [] (rdNums qdI has 15 q).2).2.1), .bool (rdOpt (bit has 15) (qdT 65536) [] (rdNums qdI has 15 q).2).2.2] 80) (by rw [rdOpt_true h26]) ?_
          refine .perm (.cons (.tail .head) (.cons .head (.cons .head (.cons .head (.cons .head .nil))))) ?_
          refine .cast (X' := blk b4 (MsgM.cells ((⟨k1, x0, x1, x2, x3, x4, x5, x6, x7, x8, x9, x10, x11, x12, x13, x14, (rdOpt (bit has 15) (qdT 65536) [] (rdNums qdI has 15 q).2).1, [], none, 0, [], none, 0, [], none, 0, []⟩ : MsgM))) 54) (by first | (rw [rdOpt_true h26]; done) | (rw [rdOpt_true h26]; rfl)) ?_
          exact fin (.cons rfl (.cons rfl (.cons rfl (.cons rfl .nil)))) (.cons (.tail .head) (.cons .head (.cons (.tail .head) (.cons (.tail .head) .nil))))
        · refine .skip ?_
          refine .perm (.cons (.tail (.tail .head)) (.cons .head (.cons .head (.cons .head (.cons .head .nil))))) ?_
          refine .cast (X' := blk r [.string (str (rdOpt (bit has 15) (qdT 65536) [] (rdNums qdI has 15 q).2).2.1), .bool (rdOpt (bit has 15) (qdT 65536) [] (rdNums qdI has 15 q).2).2.2] 80) (by rw [rdOpt_false h26]) ?_
          refine .perm (.cons (.tail .head) (.cons .head (.cons .head (.cons .head (.cons .head .nil))))) ?_
          refine .cast (X' := blk b4 (MsgM.cells ((⟨k1, x0, x1, x2, x3, x4, x5, x6, x7, x8, x9, x10, x11, x12, x13, x14, (rdOpt (bit has 15) (qdT 65536) [] (rdNums qdI has 15 q).2).1, [], none, 0, [], none, 0, [], none, 0, []⟩ : MsgM))) 54) (by first | (rw [rdOpt_false h26]; done) | (rw [rdOpt_false h26]; rfl)) ?_
          exact fin (.cons rfl (.cons rfl (.cons rfl (.cons rfl .nil)))) (.cons (.tail .head) (.cons .head (.cons (.tail .head) (.cons (.tail .head) .nil))))

end Go.Proofs.Ytllpkagplfmlbaa


namespace Go.Proofs.Ytllpkagplfmlbaa
open Go Go.Sp

set_option linter.unusedVariables false

namespace rpc9
theorem ia54 : IsAgg Try.prog 54 := ⟨_, Try.underlying54, trivial⟩
theorem ts54 : TS Try.prog 54 21 := .of (by kernel_rfl)
theorem fd54_15 : FD Try.prog 54 15 15 := .of Try.underlying54 (by kernel_rfl)
theorem na28 : NotAgg Try.prog 28 := ⟨_, Try.underlying28, trivial⟩
theorem ti3 : TI Try.prog 3 1 8 (.int .i64 0) := .of (by kernel_rfl)
theorem ts3 : TS Try.prog 3 1 := .of (by kernel_rfl)
theorem na3 : NotAgg Try.prog 3 := ⟨_, Try.underlying3, trivial⟩
theorem fd54_16 : FD Try.prog 54 16 16 := .of Try.underlying54 (by kernel_rfl)
theorem na9 : NotAgg Try.prog 9 := ⟨_, Try.underlying9, trivial⟩
theorem fd54_17 : FD Try.prog 54 17 17 := .of Try.underlying54 (by kernel_rfl)
theorem ti9 : TI Try.prog 9 1 16 (.string ⟨#[]⟩) := .of (by kernel_rfl)
theorem ts9 : TS Try.prog 9 1 := .of (by kernel_rfl)
theorem fd54_18 : FD Try.prog 54 18 18 := .of Try.underlying54 (by kernel_rfl)
theorem na51 : NotAgg Try.prog 51 := ⟨_, Try.underlying51, trivial⟩
theorem fd54_19 : FD Try.prog 54 19 19 := .of Try.underlying54 (by kernel_rfl)
theorem na52 : NotAgg Try.prog 52 := ⟨_, Try.underlying52, trivial⟩
theorem fd54_20 : FD Try.prog 54 20 20 := .of Try.underlying54 (by kernel_rfl)
theorem na37 : NotAgg Try.prog 37 := ⟨_, Try.underlying37, trivial⟩
theorem fd54_0 : FD Try.prog 54 0 0 := .of Try.underlying54 (by kernel_rfl)
theorem ts86 : TS Try.prog 86 3 := .of (by kernel_rfl)
theorem ia86 : IsAgg Try.prog 86 := ⟨_, Try.underlying86, trivial⟩
theorem ti86 : TI Try.prog 86 3 32 (.agg #[.int .i64 0, .int .i64 0, .string ⟨#[]⟩]) := .of (by kernel_rfl)
theorem fd86_0 : FD Try.prog 86 0 0 := .of Try.underlying86 (by kernel_rfl)
theorem fd86_1 : FD Try.prog 86 1 1 := .of Try.underlying86 (by kernel_rfl)
theorem fd86_2 : FD Try.prog 86 2 2 := .of Try.underlying86 (by kernel_rfl)
theorem ts27 : TS Try.prog 27 6 := .of (by kernel_rfl)
theorem ia27 : IsAgg Try.prog 27 := ⟨_, Try.underlying27, trivial⟩
end rpc9
open rpc9

theorem sum_snoc {P : List Bool} {k : Nat} (hk : P.length = k) {b : Bool} (hb : b = true) : ((bits P : Nat) : Int) + ((2 ^ k : Nat) : Int) = ((bits (P ++ [b]) : Nat) : Int) := by
  rw [bits_snoc, hb, if_pos rfl, hk]; push_cast; rfl
theorem sum_none {P : List Bool} {b : Bool} (hb : b = false) : bits (P ++ [b]) = bits P := by
  rw [bits_snoc, hb]; rfl
theorem take_nz {l : List Int} {i : Nat} {y : Int} (h : l[i]? = some y) : (l.take (i + 1)).map nz = (l.take i).map nz ++ [nz y] := by
  rw [List.take_add_one, h, List.map_append]; rfl
theorem twice (i : Nat) : (2 : Int) * ((2 ^ i : Nat) : Int) = ((2 ^ (i + 1) : Nat) : Int) := by rw [Nat.pow_succ, Nat.mul_comm]; push_cast; rfl
theorem intP_yes {n : Int} (h : ¬ n = 0) : intP n = eint n := if_neg h
theorem intP_no {n : Int} (h : n = 0) : intP n = [] := if_pos h
def nzS (s : List UInt8) : Bool := nz s.length
theorem nzS_false {s : List UInt8} (h : s = []) : nzS s = false := by subst h; rfl
theorem nzS_true {s : List UInt8} (h : ¬ s = []) : nzS s = true := by
  have := List.length_pos_iff.2 h
  unfold nzS nz; rw [decide_eq_false (by omega)]; rfl
theorem take_nzS {l : List (List UInt8)} {i : Nat} {y : List UInt8} (h : l[i]? = some y) : (l.take (i + 1)).map nzS = (l.take i).map nzS ++ [nzS y] := by
  rw [List.take_add_one, h, List.map_append]; rfl
theorem fill2s (a b : ByteArray) : Instr.fill (fun i => some (i * 1, 1)) (madeCells (Value.string ⟨#[]⟩).cells (2 * 1)) [(0, .string a), (1, .string b)] = some ([.string a, .string b] : List Value).toArray := by kernel_rfl
def sce (l : List UInt8) : List Value := [.string (str l)]
theorem sce_len (l : List UInt8) : (sce l).length = 1 := rfl
theorem nz_pos {n : Nat} (h : 0 < n) : nz (n : Int) = true := by unfold nz; rw [decide_eq_false (by omega)]; rfl
theorem nz_nil {n : Nat} (h : ¬ 0 < n) : nz (n : Int) = false := by unfold nz; rw [decide_eq_true (by omega)]; rfl
theorem etext_le (s : List UInt8) (hs : s.length ≤ 1000000 := by omega) : (etext s).length ≤ s.length + 10 := by
  unfold etext; have := eint_len (n := (s.length : Int)) ⟨by omega, by omega⟩; rw [List.length_append]; omega

set_option maxHeartbeats 2000000 in
set_option maxRecDepth 20000 in
theorem rbody4_ok (m : MsgM) (hf : m.fits) (hs : Small m) (ht : m.text.length ≤ 65536) : Cn Try.prog 56 [.agg m.cells.toArray] (fun w => m.at_ w) [] fun v G => v = .string (str (body4 m.msg)) ∧ G = [] := by
  refine .enter Try.func56 rfl (by kernel_rfl) rfl fun R k => ?_
  have hbl := hs.bl; have hel := hs.el; have hil := hs.il; have hnl := hs.name
  have hput64 : ∀ n ∈ (m.nums ++ [m.err]), i64 n := fun n hn => by
    rcases List.mem_append.1 hn with h | h
    · exact hf.nums n h
    · rcases List.mem_singleton.1 h with rfl; exact hf.err
  have htx2 : ∀ s ∈ [m.name, m.text], s.length ≤ 65536 := fun s hs => by
    simp only [List.mem_cons, List.not_mem_nil, or_false] at hs
    rcases hs with rfl | rfl
    · omega
    · exact ht
  have q7 : (m.bl.flatMap (fun y : BatM => (wbatch y.1).1)).length ≤ 300000 := Nat.le_trans (flat_leq (c := 4096) fun x hx => wbatch_le (hs.bats x hx)) (by omega)
  have q8 : (m.el.flatMap entB).length ≤ 300000 := Nat.le_trans (flat_leq (c := 3000) fun x hx => entB_le (hs.ents x hx)) (by omega)
  have q9 : (m.il.flatMap eint).length ≤ 3000 := Nat.le_trans (flat_leq (c := 10) fun x hx => eint_len (hf.ints x hx)) (by omega)
  have q4 : (intP (m.bl.length : Int)).length ≤ 10 := intP_len (by constructor <;> omega)
  have q5 : (intP (m.el.length : Int)).length ≤ 10 := intP_len (by constructor <;> omega)
  have q6 : (intP (m.il.length : Int)).length ≤ 10 := intP_len (by constructor <;> omega)
  refine .seq ?_
  refine .region ?_
  refine .ef (.box (l := m.cells) rfl rfl (ones.of rfl)) ?_
  rintro _ _ ⟨b1, rfl, rfl⟩
  refine .rd (.assign rfl) ?_
  refine .nil ?_
  refine .seq ?_
  refine .region ?_
  refine .rd (.assign rfl) ?_
  refine .nil ?_
  refine .seq ?_
  refine .region ?_
  refine .rd (.assign rfl) ?_
  refine .nil ?_
  refine .seq ?_
  refine .region ?_
  refine .rd (.assign rfl) ?_
  refine .nil ?_
  refine .seq ?_
  refine .region ?_
  refine .rd (.ldN ia54 ts54 rfl .head rfl) ?_
  refine .fn rfl rfl .nil (fun _ _ _ => trivial) (Numbers_ok m) (fun v G1 hq => ?_)
  obtain ⟨q, rfl, rfl⟩ := hq
  simp only [List.cons_append, List.nil_append]
  refine .rd (.assign rfl) ?_
  refine .nil ?_
  refine .seq ?_
  refine .region ?_
  refine .rd (.move rfl) ?_
  refine .rd (.fieldAddr fd54_15 rfl) ?_
  refine .rd (.ld na28 rfl (.tail .head) rfl) ?_
  refine .ef (.buildOne (cs := icell m.err) Try.underlying37 ti3 (by decide) rfl rfl rfl (ones.of rfl)) ?_
  rintro _ _ ⟨bs, rfl, rfl⟩
  refine .ef (.append rfl rfl Try.underlying37 ti3 rfl (ones.of rfl) (by decide) (by decide) rfl rfl (.tail .head) (n := 14) (m := 1) rfl (.srcBlk (ys := icell m.err) .head Try.underlying37 rfl (by decide)) (by decide)) ?_
  rintro _ _ ⟨ra, rc, rfl, rn, rfl⟩
  refine .tell (φ := ∃ b o, ra = some ⟨b, o, none⟩) ((Knows.arr .head).mono fun _ h => RowAt.addr h (by rw [List.length_append, flat_length icell_len]; show 0 < 14 * 1 + 1; decide)) (fun hh => ?_)
  obtain ⟨qb, qo, rfl⟩ := hh
  refine .rd (.assign rfl) ?_
  refine .nil ?_
  refine .cast (X' := arr 3 1 (some ⟨qb, qo, none⟩) rc ((m.nums ++ [m.err]).flatMap icell)) (by rw [List.flatMap_append]; simp) ?_
  refine .seq ?_
  refine .seq ?_
  refine .region ?_
  refine .rd (.assign rfl) ?_
  refine .nil ?_
  refine .block ?_
  refine .loop (σ := Nat) (fun i => i ≤ 15) (fun i => 15 - i) (fun i => [(1, .pointer (some ⟨b1, 0, none⟩)), (3, .string (str (((m.nums ++ [m.err]).take i).flatMap intP))), (4, .int .i64 ((bits (((m.nums ++ [m.err]).take i).map nz) : Nat) : Int)), (5, .int .i64 (((2 ^ i : Nat) : Int))), (6, .slice (some ⟨qb, qo, none⟩) 15 rc), (7, .int .i64 (i : Nat))]) (fun i => [blk b1 m.cells 54, arr 3 1 (some ⟨qb, qo, none⟩) rc ((m.nums ++ [m.err]).flatMap icell), R]) 0 (by omega) (.cons rfl (.cons rfl (.cons rfl (.cons rfl (.cons rfl (.cons rfl .nil)))))) (.cons (.tail (.tail .head)) (.cons .head (.cons (.tail .head) .nil))) (fun i hI ih => ?_)
  have hi := hI
  have hput : (m.nums ++ [m.err]).length = 15 := rfl
  have hpl : (((m.nums ++ [m.err]).take i).map nz).length = i := by rw [List.length_map, List.length_take, hput]; omega
  have hll : (((m.nums ++ [m.err]).take i).flatMap intP).length ≤ 150 := Nat.le_trans (flat_leq (c := 10) fun x hx => intP_len (hput64 x (List.mem_of_mem_take hx))) (by rw [List.length_take, hput]; omega)
  have hbl := bits_lt (((m.nums ++ [m.err]).take i).map nz)
  rw [hpl] at hbl
  have hpw : 2 ^ i ≤ 2 ^ 15 := Nat.pow_le_pow_right (by decide) hI
  have h15 : (2 : Nat) ^ 15 = 32768 := by decide
  rw [h15] at hpw
  refine .seq ?_
  refine .seq ?_
  refine .region ?_
  refine .rd (.move rfl) ?_
  refine .rd (.move rfl) ?_
  refine .rd (.lenL rfl rfl Try.underlying37 rfl) ?_
  refine .rd (.lt rfl rfl) ?_
  refine .nil ?_
  refine .condP rfl (fun h7 => ?_) (fun h7 => ?_)
  · refine .skip ?_
    refine .seq ?_
    refine .block ?_
    refine .seq ?_
    refine .seq ?_
    obtain ⟨y, hy⟩ : ∃ y, (m.nums ++ [m.err])[i]? = some y := ⟨_, List.getElem?_eq_getElem (by omega)⟩
    have hyi := hput64 y (List.mem_of_getElem? hy)
    have hel := eint_len hyi
    refine .region ?_
    refine .rd (.move rfl) ?_
    refine .rd (.move rfl) ?_
    refine .rd (.indexAddr Try.underlying37 ts3 rfl rfl (by omega) (by omega)) ?_
    refine .rd (.load na3 rfl (Knows.one (i := 0) (Knows.elem (f := icell) icell_len (by decide) (Knows.arr (.tail .head)) hy) rfl)) ?_
    refine .rd (.neI rfl rfl) ?_
    refine .nil ?_
    refine .joinAt (E' := [(1, .pointer (some ⟨b1, 0, none⟩)), (3, .string (str (((m.nums ++ [m.err]).take (i + 1)).flatMap intP))), (4, .int .i64 ((bits (((m.nums ++ [m.err]).take (i + 1)).map nz) : Nat) : Int)), (5, .int .i64 (((2 ^ i : Nat) : Int))), (6, .slice (some ⟨qb, qo, none⟩) 15 rc), (7, .int .i64 (i : Nat))]) (Γ' := [blk b1 m.cells 54, arr 3 1 (some ⟨qb, qo, none⟩) rc ((m.nums ++ [m.err]).flatMap icell), R]) ?_ (fun fin => ?_)
    · refine .region ?_
      refine .rd (.move rfl) ?_
      refine .rd (.mul rfl rfl (by omega) (by omega)) ?_
      refine .alter (t := 45) (v' := .int .i64 ((2 ^ (i + 1) : Nat) : Int)) rfl (by rw [twice]) ?_
      refine .rd (.assign rfl) ?_
      refine .nil ?_
      refine .inBlock ?_
      refine .region ?_
      refine .rd (.move rfl) ?_
      refine .rd (.add rfl rfl (by omega) (by omega)) ?_
      refine .rd (.assign rfl) ?_
      refine .nil ?_
      exact (ih (i + 1) (by omega) (by omega)).to (.cons rfl (.cons rfl (.cons rfl (.cons rfl (.cons rfl (.cons rfl .nil)))))) (.cons .head (.cons .head (.cons .head .nil)))
    · refine .condN rfl (fun h9 => ?_) (fun h9 => ?_)
      · refine .seq ?_
        refine .region ?_
        refine .rd (.move rfl) ?_
        refine .rd (.move rfl) ?_
        refine .rd (.add rfl rfl (by omega) (by omega)) ?_
        refine .alter (t := 36) (v' := .int .i64 ((bits (((m.nums ++ [m.err]).take (i + 1)).map nz) : Nat) : Int)) rfl (by rw [sum_snoc hpl (b := nz y) (by unfold nz; rw [decide_eq_false h9]; rfl), ← take_nz hy]) ?_
        refine .rd (.assign rfl) ?_
        refine .nil ?_
        refine .region ?_
        refine .rd (.move rfl) ?_
        refine .rd (.move rfl) ?_
        refine .rd (.move rfl) ?_
        refine .rd (.indexAddr Try.underlying37 ts3 rfl rfl (by omega) (by omega)) ?_
        refine .rd (.load na3 rfl (Knows.one (i := 0) (Knows.elem (f := icell) icell_len (by decide) (Knows.arr (.tail .head)) hy) rfl)) ?_
        refine .fn rfl rfl .nil (fun _ _ _ => trivial) (rInt_ok y hyi) (fun v G1 hq => ?_)
        obtain ⟨rfl, rfl⟩ := hq
        simp only [List.nil_append]
        refine .rd (.catT rfl rfl (by omega)) ?_
        refine .alter (t := 43) (v' := .string (str (((m.nums ++ [m.err]).take (i + 1)).flatMap intP))) rfl (by rw [flat_take (f := intP) hy, intP_yes h9]) ?_
        refine .rd (.assign rfl) ?_
        refine .nil ?_
        exact fin (.cons rfl (.cons rfl (.cons rfl (.cons rfl (.cons rfl (.cons rfl .nil)))))) (.cons .head (.cons .head (.cons .head .nil)))
      · refine .alter (t := 3) (v' := .string (str (((m.nums ++ [m.err]).take (i + 1)).flatMap intP))) rfl (by rw [flat_take (f := intP) hy, intP_no h9, List.append_nil]) ?_
        refine .alter (t := 4) (v' := .int .i64 ((bits (((m.nums ++ [m.err]).take (i + 1)).map nz) : Nat) : Int)) rfl (by rw [take_nz hy, sum_none (by unfold nz; rw [decide_eq_true h9]; rfl)]) ?_
        refine .skip ?_
        exact fin (.cons rfl (.cons rfl (.cons rfl (.cons rfl (.cons rfl (.cons rfl .nil)))))) (.cons .head (.cons .head (.cons .head .nil)))
  · obtain rfl : i = 15 := by omega
    refine .alter (t := 3) (v' := .string (str ((m.nums ++ [m.err]).flatMap intP))) rfl rfl ?_
    refine .alter (t := 4) (v' := .int .i64 ((bits ((m.nums ++ [m.err]).map nz) : Nat) : Int)) rfl rfl ?_
    have hL0 : ((m.nums ++ [m.err]).flatMap intP).length ≤ 150 := hll
    have hP0 : ((m.nums ++ [m.err]).map nz).length = 15 := rfl
    refine .exit rfl ?_
    refine .seq ?_
    refine .region ?_
    refine .rd (.fieldAddr fd54_16 rfl) ?_
    refine .rd (.ld na9 rfl .head rfl) ?_
    refine .rd (.fieldAddr fd54_17 rfl) ?_
    refine .rd (.ld na9 rfl .head rfl) ?_
    refine .ef (.buildSlice (n := 2) (cs := [m.name, m.text].flatMap sce) Try.underlying43 ti9 rfl (by decide) (fill2s _ _) (ones.of rfl)) ?_
    rintro _ _ ⟨ts, rfl, rfl⟩
    refine .rd (.assign rfl) ?_
    refine .nil ?_
    refine .seq ?_
    refine .seq ?_
    refine .region ?_
    refine .rd (.assign rfl) ?_
    refine .nil ?_
    refine .block ?_
    refine .loop (σ := Nat) (fun j => j ≤ 2) (fun j => 2 - j) (fun j => [(1, .pointer (some ⟨b1, 0, none⟩)), (3, .string (str ((m.nums ++ [m.err]).flatMap intP ++ ([m.name, m.text].take j).flatMap nameP))), (4, .int .i64 ((bits ((m.nums ++ [m.err]).map nz ++ ([m.name, m.text].take j).map nzS) : Nat) : Int)), (5, .int .i64 (((2 ^ (15 + j) : Nat) : Int))), (8, .slice (some ⟨ts, 0, none⟩) 2 2), (9, .int .i64 (j : Nat))]) (fun j => [blk b1 m.cells 54, blk ts ([m.name, m.text].flatMap sce) 9, R]) 0 (by omega) (.cons rfl (.cons (by rw [List.take_zero, List.flatMap_nil, List.append_nil]; rfl) (.cons (by rw [List.take_zero, List.map_nil, List.append_nil]; rfl) (.cons rfl (.cons rfl (.cons rfl .nil)))))) (.cons (.tail .head) (.cons .head (.cons (.tail .head) .nil))) (fun j hI ih => ?_)
    have hj := hI
    have htx : [m.name, m.text].length = 2 := rfl
    have hpl : ((m.nums ++ [m.err]).map nz ++ ([m.name, m.text].take j).map nzS).length = 15 + j := by rw [List.length_append, hP0, List.length_map, List.length_take, htx]; omega
    have hll : ((m.nums ++ [m.err]).flatMap intP ++ ([m.name, m.text].take j).flatMap nameP).length ≤ 200200 := by rw [List.length_append]; have := flat_leq (f := nameP) (c := 100000) (l := [m.name, m.text].take j) fun x hx => nameP_len (Nat.le_trans (htx2 x (List.mem_of_mem_take hx)) (by decide)); rw [List.length_take, htx] at this; omega
    have hbl := bits_lt ((m.nums ++ [m.err]).map nz ++ ([m.name, m.text].take j).map nzS)
    rw [hpl] at hbl
    have hpw : 2 ^ (15 + j) ≤ 2 ^ 17 := Nat.pow_le_pow_right (by decide) (by omega)
    have h17 : (2 : Nat) ^ 17 = 131072 := by decide
    rw [h17] at hpw
    refine .seq ?_
    refine .seq ?_
    refine .region ?_
    refine .rd (.move rfl) ?_
    refine .rd (.lt rfl rfl) ?_
    refine .nil ?_
    refine .condP rfl (fun h15 => ?_) (fun h15 => ?_)
    · refine .skip ?_
      refine .seq ?_
      refine .block ?_
      refine .seq ?_
      refine .seq ?_
      obtain ⟨s, hs⟩ : ∃ s, [m.name, m.text][j]? = some s := ⟨_, List.getElem?_eq_getElem (by omega)⟩
      have hsl := htx2 s (List.mem_of_getElem? hs)
      refine .region ?_
      refine .rd (.move rfl) ?_
      refine .rd (.move rfl) ?_
      refine .rd (.indexAddr Try.underlying43 ts9 rfl rfl (by omega) (by omega)) ?_
      refine .rd (.load na9 rfl (Knows.one (i := 0) (Knows.elem (f := sce) sce_len (by decide) ((Knows.blk (.tail .head)).mono fun _ h => .inr ⟨ts, 0, rfl, h⟩) hs) rfl)) ?_
      refine .rd (.neT (m := []) rfl rfl) ?_
      refine .nil ?_
      refine .joinAt (E' := [(1, .pointer (some ⟨b1, 0, none⟩)), (3, .string (str ((m.nums ++ [m.err]).flatMap intP ++ ([m.name, m.text].take (j + 1)).flatMap nameP))), (4, .int .i64 ((bits ((m.nums ++ [m.err]).map nz ++ ([m.name, m.text].take (j + 1)).map nzS) : Nat) : Int)), (5, .int .i64 (((2 ^ (15 + j) : Nat) : Int))), (8, .slice (some ⟨ts, 0, none⟩) 2 2), (9, .int .i64 (j : Nat))]) (Γ' := [blk b1 m.cells 54, blk ts ([m.name, m.text].flatMap sce) 9, R]) ?_ (fun fin => ?_)
      · refine .region ?_
        refine .rd (.move rfl) ?_
        refine .rd (.mul rfl rfl (by omega) (by omega)) ?_
        refine .alter (t := 71) (v' := .int .i64 ((2 ^ (15 + (j + 1)) : Nat) : Int)) rfl (by rw [twice]; rfl) ?_
        refine .rd (.assign rfl) ?_
        refine .nil ?_
        refine .inBlock ?_
        refine .region ?_
        refine .rd (.move rfl) ?_
        refine .rd (.add rfl rfl (by omega) (by omega)) ?_
        refine .rd (.assign rfl) ?_
        refine .nil ?_
        exact (ih (j + 1) (by omega) (by omega)).to (.cons rfl (.cons rfl (.cons rfl (.cons rfl (.cons rfl (.cons rfl .nil)))))) (.cons .head (.cons .head (.cons .head .nil)))
      · refine .condN rfl (fun h17c => ?_) (fun h17c => ?_)
        · refine .seq ?_
          refine .region ?_
          refine .rd (.move rfl) ?_
          refine .rd (.move rfl) ?_
          refine .rd (.add rfl rfl (by omega) (by omega)) ?_
          refine .alter (t := 62) (v' := .int .i64 ((bits ((m.nums ++ [m.err]).map nz ++ ([m.name, m.text].take (j + 1)).map nzS) : Nat) : Int)) rfl (by rw [sum_snoc hpl (b := nzS s) (nzS_true h17c), List.append_assoc, ← take_nzS hs]) ?_
          refine .rd (.assign rfl) ?_
          refine .nil ?_
          refine .region ?_
          refine .rd (.move rfl) ?_
          refine .rd (.move rfl) ?_
          refine .rd (.move rfl) ?_
          refine .rd (.indexAddr Try.underlying43 ts9 rfl rfl (by omega) (by omega)) ?_
          refine .rd (.load na9 rfl (Knows.one (i := 0) (Knows.elem (f := sce) sce_len (by decide) ((Knows.blk (.tail .head)).mono fun _ h => .inr ⟨ts, 0, rfl, h⟩) hs) rfl)) ?_
          refine .fn rfl rfl .nil (fun _ _ _ => trivial) (rtext4_ok s (by omega)) (fun v G1 hq => ?_)
          obtain ⟨rfl, rfl⟩ := hq
          simp only [List.nil_append]
          refine .rd (.catT rfl rfl (by have := etext_le s; omega)) ?_
          refine .alter (t := 69) (v' := .string (str ((m.nums ++ [m.err]).flatMap intP ++ ([m.name, m.text].take (j + 1)).flatMap nameP))) rfl (by rw [flat_take (f := nameP) hs, show nameP s = etext s from if_neg (by have := List.length_pos_iff.2 h17c; omega), List.append_assoc]) ?_
          refine .rd (.assign rfl) ?_
          refine .nil ?_
          exact fin (.cons rfl (.cons rfl (.cons rfl (.cons rfl (.cons rfl (.cons rfl .nil)))))) (.cons .head (.cons .head (.cons .head .nil)))
        · refine .alter (t := 3) (v' := .string (str ((m.nums ++ [m.err]).flatMap intP ++ ([m.name, m.text].take (j + 1)).flatMap nameP))) rfl (by rw [flat_take (f := nameP) hs, h17c, show nameP [] = [] from rfl, List.append_nil]) ?_
          refine .alter (t := 4) (v' := .int .i64 ((bits ((m.nums ++ [m.err]).map nz ++ ([m.name, m.text].take (j + 1)).map nzS) : Nat) : Int)) rfl (by rw [take_nzS hs, ← List.append_assoc, sum_none (nzS_false h17c)]) ?_
          refine .skip ?_
          exact fin (.cons rfl (.cons rfl (.cons rfl (.cons rfl (.cons rfl (.cons rfl .nil)))))) (.cons .head (.cons .head (.cons .head .nil)))
    · obtain rfl : j = 2 := by omega
      refine .alter (t := 3) (v' := .string (str ((m.nums ++ [m.err]).flatMap intP ++ (nameP m.name ++ nameP m.text)))) rfl (by show _ = Value.string (str (_ ++ (nameP m.name ++ nameP m.text))); simp) ?_
      refine .alter (t := 4) (v' := .int .i64 ((bits ((m.nums ++ [m.err]).map nz ++ [nzS m.name, nzS m.text]) : Nat) : Int)) rfl rfl ?_
      refine .alter (t := 5) (v' := .int .i64 131072) rfl rfl ?_
      have z0 : ((m.nums ++ [m.err]).flatMap intP ++ (nameP m.name ++ nameP m.text)).length ≤ 200200 := by have hnt : (nameP m.name ++ nameP m.text).length ≤ 200000 := (by rw [List.length_append]; have := nameP_len (s := m.name) (by omega); have := nameP_len (s := m.text) (by omega); omega); rw [List.length_append]; omega
      have z1 : ((m.nums ++ [m.err]).flatMap intP ++ (nameP m.name ++ nameP m.text) ++ intP (m.bl.length : Int) ++ m.bl.flatMap (fun y : BatM => (wbatch y.1).1)).length ≤ 500300 := by simp only [List.length_append] at z0 ⊢; omega
      have z2 : ((m.nums ++ [m.err]).flatMap intP ++ (nameP m.name ++ nameP m.text) ++ intP (m.bl.length : Int) ++ m.bl.flatMap (fun y : BatM => (wbatch y.1).1) ++ intP (m.el.length : Int) ++ m.el.flatMap entB).length ≤ 800400 := by simp only [List.length_append] at z0 z1 ⊢; omega
      have z3 : ((m.nums ++ [m.err]).flatMap intP ++ (nameP m.name ++ nameP m.text) ++ intP (m.bl.length : Int) ++ m.bl.flatMap (fun y : BatM => (wbatch y.1).1) ++ intP (m.el.length : Int) ++ m.el.flatMap entB ++ intP (m.il.length : Int) ++ m.il.flatMap eint).length ≤ 900400 := by simp only [List.length_append] at z0 z1 z2 ⊢; omega
      have w0 := bits_lt ((m.nums ++ [m.err]).map nz ++ [nzS m.name, nzS m.text])
      have w1 := bits_lt ((m.nums ++ [m.err]).map nz ++ [nzS m.name, nzS m.text] ++ [nz (m.bl.length : Int)])
      have w2 := bits_lt ((m.nums ++ [m.err]).map nz ++ [nzS m.name, nzS m.text] ++ [nz (m.bl.length : Int)] ++ [nz (m.el.length : Int)])
      rw [show ((m.nums ++ [m.err]).map nz ++ [nzS m.name, nzS m.text]).length = 17 from rfl, show (2 : Nat) ^ 17 = 131072 by decide] at w0
      rw [show ((m.nums ++ [m.err]).map nz ++ [nzS m.name, nzS m.text] ++ [nz (m.bl.length : Int)]).length = 18 from rfl, show (2 : Nat) ^ 18 = 262144 by decide] at w1
      rw [show ((m.nums ++ [m.err]).map nz ++ [nzS m.name, nzS m.text] ++ [nz (m.bl.length : Int)] ++ [nz (m.el.length : Int)]).length = 19 from rfl, show (2 : Nat) ^ 19 = 524288 by decide] at w2
      refine .exit rfl ?_
      refine .seq ?_
      refine .seq ?_
      refine .region ?_
      refine .rd (.fieldAddr fd54_18 rfl) ?_
      refine .rd (.ld na51 rfl .head rfl) ?_
      refine .rd (.lenL rfl rfl Try.underlying51 rfl) ?_
      refine .rd (.gt rfl rfl) ?_
      refine .nil ?_
      refine .joinAt (E' := [(1, .pointer (some ⟨b1, 0, none⟩)), (3, .string (str ((m.nums ++ [m.err]).flatMap intP ++ (nameP m.name ++ nameP m.text) ++ intP (m.bl.length : Int) ++ m.bl.flatMap (fun y : BatM => (wbatch y.1).1)))), (4, .int .i64 ((bits ((m.nums ++ [m.err]).map nz ++ [nzS m.name, nzS m.text] ++ [nz (m.bl.length : Int)]) : Nat) : Int)), (5, .int .i64 (131072))]) (Γ' := [blk b1 m.cells 54, R]) ?_ (fun fin => ?_)
      · refine .seq ?_
        refine .region ?_
        refine .rd (.move rfl) ?_
        refine .rd (.mul rfl rfl (by omega) (by omega)) ?_
        refine .alter (t := 105) (v' := .int .i64 262144) rfl (rfl) ?_
        refine .rd (.assign rfl) ?_
        refine .nil ?_
        refine .seq ?_
        refine .seq ?_
        refine .region ?_
        refine .rd (.fieldAddr fd54_19 rfl) ?_
        refine .rd (.ld na52 rfl .head rfl) ?_
        refine .rd (.lenL rfl rfl Try.underlying52 rfl) ?_
        refine .rd (.gt rfl rfl) ?_
        refine .nil ?_
        refine .joinAt (E' := [(1, .pointer (some ⟨b1, 0, none⟩)), (3, .string (str ((m.nums ++ [m.err]).flatMap intP ++ (nameP m.name ++ nameP m.text) ++ intP (m.bl.length : Int) ++ m.bl.flatMap (fun y : BatM => (wbatch y.1).1) ++ intP (m.el.length : Int) ++ m.el.flatMap entB))), (4, .int .i64 ((bits ((m.nums ++ [m.err]).map nz ++ [nzS m.name, nzS m.text] ++ [nz (m.bl.length : Int)] ++ [nz (m.el.length : Int)]) : Nat) : Int)), (5, .int .i64 (262144))]) (Γ' := [blk b1 m.cells 54, R]) ?_ (fun fin => ?_)
        · refine .seq ?_
          refine .region ?_
          refine .rd (.move rfl) ?_
          refine .rd (.mul rfl rfl (by omega) (by omega)) ?_
          refine .alter (t := 145) (v' := .int .i64 524288) rfl (rfl) ?_
          refine .rd (.assign rfl) ?_
          refine .nil ?_
          refine .seq ?_
          refine .seq ?_
          refine .region ?_
          refine .rd (.fieldAddr fd54_20 rfl) ?_
          refine .rd (.ld na37 rfl .head rfl) ?_
          refine .rd (.lenL rfl rfl Try.underlying37 rfl) ?_
          refine .rd (.gt rfl rfl) ?_
          refine .nil ?_
          refine .joinAt (E' := [(1, .pointer (some ⟨b1, 0, none⟩)), (3, .string (str ((m.nums ++ [m.err]).flatMap intP ++ (nameP m.name ++ nameP m.text) ++ intP (m.bl.length : Int) ++ m.bl.flatMap (fun y : BatM => (wbatch y.1).1) ++ intP (m.el.length : Int) ++ m.el.flatMap entB ++ intP (m.il.length : Int) ++ m.il.flatMap eint))), (4, .int .i64 ((bits ((m.nums ++ [m.err]).map nz ++ [nzS m.name, nzS m.text] ++ [nz (m.bl.length : Int)] ++ [nz (m.el.length : Int)] ++ [nz (m.il.length : Int)]) : Nat) : Int)), (5, .int .i64 (524288))]) (Γ' := [blk b1 m.cells 54, R]) ?_ (fun fin => ?_)
          · refine .seq ?_
            have w3 := bits_lt ((m.nums ++ [m.err]).map nz ++ [nzS m.name, nzS m.text] ++ [nz (m.bl.length : Int)] ++ [nz (m.el.length : Int)] ++ [nz (m.il.length : Int)])
            rw [show ((m.nums ++ [m.err]).map nz ++ [nzS m.name, nzS m.text] ++ [nz (m.bl.length : Int)] ++ [nz (m.el.length : Int)] ++ [nz (m.il.length : Int)]).length = 20 from rfl, show (2 : Nat) ^ 20 = 1048576 by decide] at w3
            have y1 := eint_len hf.kind
            have y2 := eint_len (n := ((bits ((m.nums ++ [m.err]).map nz ++ [nzS m.name, nzS m.text] ++ [nz (m.bl.length : Int)] ++ [nz (m.el.length : Int)] ++ [nz (m.il.length : Int)]) : Nat) : Int)) (by constructor <;> omega)
            refine .region ?_
            refine .rd (.fieldAddr fd54_0 rfl) ?_
            refine .rd (.ld na3 rfl .head rfl) ?_
            refine .fn rfl rfl .nil (fun _ _ _ => trivial) (rInt_ok m.kind hf.kind) (fun v G1 hq => ?_)
            obtain ⟨rfl, rfl⟩ := hq
            simp only [List.nil_append]
            refine .rd (.move rfl) ?_
            refine .fn rfl rfl .nil (fun _ _ _ => trivial) (rInt_ok ((bits ((m.nums ++ [m.err]).map nz ++ [nzS m.name, nzS m.text] ++ [nz (m.bl.length : Int)] ++ [nz (m.el.length : Int)] ++ [nz (m.il.length : Int)]) : Nat) : Int) (by constructor <;> omega)) (fun v G1 hq => ?_)
            obtain ⟨rfl, rfl⟩ := hq
            simp only [List.nil_append]
            refine .rd (.catT rfl rfl (by omega)) ?_
            refine .rd (.move rfl) ?_
            refine .rd (.catT rfl rfl (by simp only [List.length_append] at z3 ⊢; omega)) ?_
            refine .rd (.assign rfl) ?_
            refine .nil ?_
            have hb : body4 m.msg = eint m.kind ++ eint ((bits ((m.nums ++ [m.err]).map nz ++ [nzS m.name, nzS m.text] ++ [nz (m.bl.length : Int)] ++ [nz (m.el.length : Int)] ++ [nz (m.il.length : Int)]) : Nat) : Int) ++ ((m.nums ++ [m.err]).flatMap intP ++ (nameP m.name ++ nameP m.text) ++ intP (m.bl.length : Int) ++ m.bl.flatMap (fun y : BatM => (wbatch y.1).1) ++ intP (m.el.length : Int) ++ m.el.flatMap entB ++ intP (m.il.length : Int) ++ m.il.flatMap eint) := by unfold body4; rw [pres_eq, rest_eq]; unfold nzS; simp; rfl
            rw [hb]
            refine .retP Try.func56 (.cons (.tmp rfl) .nil) (.cons (.tail .head) .nil) ?_
            exact ⟨[], ⟨rfl, rfl⟩, rfl⟩
          · refine .condP rfl (fun h39 => ?_) (fun h39 => ?_)
            · refine .seq ?_
              refine .region ?_
              refine .rd (.move rfl) ?_
              refine .rd (.move rfl) ?_
              refine .rd (.add rfl rfl (by omega) (by omega)) ?_
              refine .alter (t := 152) (v' := .int .i64 ((bits ((m.nums ++ [m.err]).map nz ++ [nzS m.name, nzS m.text] ++ [nz (m.bl.length : Int)] ++ [nz (m.el.length : Int)] ++ [nz (m.il.length : Int)]) : Nat) : Int)) rfl (congrArg (Value.int .i64) (sum_snoc (k := 19) rfl (nz_pos (by omega)))) ?_
              refine .rd (.assign rfl) ?_
              refine .nil ?_
              refine .seq ?_
              refine .region ?_
              refine .rd (.move rfl) ?_
              refine .rd (.fieldAddr fd54_20 rfl) ?_
              refine .rd (.ld na37 rfl .head rfl) ?_
              refine .rd (.lenL rfl rfl Try.underlying37 rfl) ?_
              refine .fn rfl rfl .nil (fun _ _ _ => trivial) (rInt_ok (m.il.length : Int) (by constructor <;> omega)) (fun v G1 hq => ?_)
              obtain ⟨rfl, rfl⟩ := hq
              simp only [List.nil_append]
              refine .rd (.catT rfl rfl (by have := eint_len (n := (m.il.length : Int)) (by constructor <;> omega); omega)) ?_
              refine .alter (t := 158) (v' := .string (str ((m.nums ++ [m.err]).flatMap intP ++ (nameP m.name ++ nameP m.text) ++ intP (m.bl.length : Int) ++ m.bl.flatMap (fun y : BatM => (wbatch y.1).1) ++ intP (m.el.length : Int) ++ m.el.flatMap entB ++ intP (m.il.length : Int) ++ (m.il.take 0).flatMap eint))) rfl (by rw [intP_yes (n := (m.il.length : Int)) (by omega), List.take_zero, List.flatMap_nil, List.append_nil]) ?_
              refine .rd (.assign rfl) ?_
              refine .nil ?_
              refine .seq ?_
              refine .region ?_
              refine .rd (.assign rfl) ?_
              refine .nil ?_
              refine .block ?_
              refine .loop (σ := Nat) (fun i => i ≤ m.il.length) (fun i => m.il.length - i) (fun i => [(1, .pointer (some ⟨b1, 0, none⟩)), (3, .string (str ((m.nums ++ [m.err]).flatMap intP ++ (nameP m.name ++ nameP m.text) ++ intP (m.bl.length : Int) ++ m.bl.flatMap (fun y : BatM => (wbatch y.1).1) ++ intP (m.el.length : Int) ++ m.el.flatMap entB ++ intP (m.il.length : Int) ++ (m.il.take i).flatMap eint))), (4, .int .i64 ((bits ((m.nums ++ [m.err]).map nz ++ [nzS m.name, nzS m.text] ++ [nz (m.bl.length : Int)] ++ [nz (m.el.length : Int)] ++ [nz (m.il.length : Int)]) : Nat) : Int)), (5, .int .i64 (524288)), (15, .int .i64 (i : Nat))]) (fun i => [blk b1 m.cells 54, R]) 0 (Nat.zero_le _) (.cons rfl (.cons rfl (.cons rfl (.cons rfl (.cons rfl .nil))))) (.cons .head (.cons .head .nil)) (fun i hI ih => ?_)
              have hi := hI
              have htk : ((m.il.take i).flatMap eint).length ≤ 300000 := Nat.le_trans (flat_leq (c := 10) fun x hx => eint_len (hf.ints x (List.mem_of_mem_take hx))) (by rw [List.length_take]; omega)
              have hlh : ((m.nums ++ [m.err]).flatMap intP ++ (nameP m.name ++ nameP m.text) ++ intP (m.bl.length : Int) ++ m.bl.flatMap (fun y : BatM => (wbatch y.1).1) ++ intP (m.el.length : Int) ++ m.el.flatMap entB ++ intP (m.il.length : Int)).length ≤ 900000 := by have := intP_len (n := (m.il.length : Int)) (by constructor <;> omega); simp only [List.length_append] at z0 z1 z2 ⊢; omega
              refine .seq ?_
              refine .seq ?_
              refine .region ?_
              refine .rd (.move rfl) ?_
              refine .rd (.fieldAddr fd54_20 rfl) ?_
              refine .rd (.ld na37 rfl .head rfl) ?_
              refine .rd (.lenL rfl rfl Try.underlying37 rfl) ?_
              refine .rd (.lt rfl rfl) ?_
              refine .nil ?_
              refine .condP rfl (fun h43 => ?_) (fun h43 => ?_)
              · refine .skip ?_
                refine .seq ?_
                refine .block ?_
                obtain ⟨y, hy⟩ : ∃ y, m.il[i]? = some y := ⟨_, List.getElem?_eq_getElem (by omega)⟩
                have hym := List.mem_of_getElem? hy
                refine .tell (φ := ∃ b o, m.ia = some ⟨b, o, none⟩) (Knows.pick (.tail .head) (k.mono fun _ h => RowAt.addr (h.2.2.2) (by rw [flat_length icell_len]; omega))) (fun hh => ?_)
                obtain ⟨b9, o9, hab⟩ := hh
                have hyl := eint_len (hf.ints y hym)
                refine .region ?_
                refine .rd (.move rfl) ?_
                refine .rd (.fieldAddr fd54_20 rfl) ?_
                refine .rd (.ld na37 rfl .head rfl) ?_
                refine .rd (.move rfl) ?_
                refine .rd (.indexAddr (b := b9) (o := o9) Try.underlying37 ts3 (by show some (Value.slice m.ia _ _) = _; rw [hab]) rfl (by omega) (by omega)) ?_
                refine .rd (.load na3 rfl (Knows.one (i := 0) (Knows.elem (f := icell) icell_len (by decide) (Knows.pick (.tail .head) (k.mono fun _ h => hab ▸ (h.2.2.2))) hy) rfl)) ?_
                refine .fn rfl rfl .nil (fun _ _ _ => trivial) (rInt_ok y (hf.ints y hym)) (fun v G1 hq => ?_)
                obtain ⟨rfl, rfl⟩ := hq
                simp only [List.nil_append]
                refine .rd (.catT rfl rfl (by simp only [List.length_append] at hlh ⊢; omega)) ?_
                refine .alter (t := 173) (v' := .string (str ((m.nums ++ [m.err]).flatMap intP ++ (nameP m.name ++ nameP m.text) ++ intP (m.bl.length : Int) ++ m.bl.flatMap (fun y : BatM => (wbatch y.1).1) ++ intP (m.el.length : Int) ++ m.el.flatMap entB ++ intP (m.il.length : Int) ++ (m.il.take (i + 1)).flatMap eint))) rfl (by rw [flat_take (f := eint) hy]; simp only [List.append_assoc]) ?_
                refine .rd (.assign rfl) ?_
                refine .nil ?_
                refine .inBlock ?_
                refine .region ?_
                refine .rd (.move rfl) ?_
                refine .rd (.add rfl rfl (by omega) (by omega)) ?_
                refine .rd (.assign rfl) ?_
                refine .nil ?_
                exact (ih (i + 1) (by omega) (by omega)).to (.cons rfl (.cons rfl (.cons rfl (.cons rfl (.cons rfl .nil))))) (.cons .head (.cons .head .nil))
              · refine .alter (t := 3) (v' := .string (str ((m.nums ++ [m.err]).flatMap intP ++ (nameP m.name ++ nameP m.text) ++ intP (m.bl.length : Int) ++ m.bl.flatMap (fun y : BatM => (wbatch y.1).1) ++ intP (m.el.length : Int) ++ m.el.flatMap entB ++ intP (m.il.length : Int) ++ m.il.flatMap eint))) rfl (by rw [List.take_of_length_le (show m.il.length ≤ i by omega)]) ?_
                refine .exit rfl ?_
                exact fin (.cons rfl (.cons rfl (.cons rfl (.cons rfl .nil)))) (.cons .head (.cons .head .nil))
            · refine .alter (t := 3) (v' := .string (str ((m.nums ++ [m.err]).flatMap intP ++ (nameP m.name ++ nameP m.text) ++ intP (m.bl.length : Int) ++ m.bl.flatMap (fun y : BatM => (wbatch y.1).1) ++ intP (m.el.length : Int) ++ m.el.flatMap entB ++ intP (m.il.length : Int) ++ m.il.flatMap eint))) rfl (by rw [show m.il = [] from List.eq_nil_of_length_eq_zero (by omega)]; show _ = Value.string (str (_ ++ intP 0 ++ [])); simp [intP]) ?_
              refine .alter (t := 4) (v' := .int .i64 ((bits ((m.nums ++ [m.err]).map nz ++ [nzS m.name, nzS m.text] ++ [nz (m.bl.length : Int)] ++ [nz (m.el.length : Int)] ++ [nz (m.il.length : Int)]) : Nat) : Int)) rfl (congrArg (fun z : Nat => Value.int .i64 (z : Int)) (sum_none (nz_nil (by omega))).symm) ?_
              refine .skip ?_
              exact fin (.cons rfl (.cons rfl (.cons rfl (.cons rfl .nil)))) (.cons .head (.cons .head .nil))
        · refine .condP rfl (fun h30 => ?_) (fun h30 => ?_)
          · refine .seq ?_
            refine .region ?_
            refine .rd (.move rfl) ?_
            refine .rd (.move rfl) ?_
            refine .rd (.add rfl rfl (by omega) (by omega)) ?_
            refine .alter (t := 112) (v' := .int .i64 ((bits ((m.nums ++ [m.err]).map nz ++ [nzS m.name, nzS m.text] ++ [nz (m.bl.length : Int)] ++ [nz (m.el.length : Int)]) : Nat) : Int)) rfl (congrArg (Value.int .i64) (sum_snoc (k := 18) rfl (nz_pos (by omega)))) ?_
            refine .rd (.assign rfl) ?_
            refine .nil ?_
            refine .seq ?_
            refine .region ?_
            refine .rd (.move rfl) ?_
            refine .rd (.fieldAddr fd54_19 rfl) ?_
            refine .rd (.ld na52 rfl .head rfl) ?_
            refine .rd (.lenL rfl rfl Try.underlying52 rfl) ?_
            refine .fn rfl rfl .nil (fun _ _ _ => trivial) (rInt_ok (m.el.length : Int) (by constructor <;> omega)) (fun v G1 hq => ?_)
            obtain ⟨rfl, rfl⟩ := hq
            simp only [List.nil_append]
            refine .rd (.catT rfl rfl (by have := eint_len (n := (m.el.length : Int)) (by constructor <;> omega); omega)) ?_
            refine .alter (t := 118) (v' := .string (str ((m.nums ++ [m.err]).flatMap intP ++ (nameP m.name ++ nameP m.text) ++ intP (m.bl.length : Int) ++ m.bl.flatMap (fun y : BatM => (wbatch y.1).1) ++ intP (m.el.length : Int) ++ (m.el.take 0).flatMap entB))) rfl (by rw [intP_yes (n := (m.el.length : Int)) (by omega), List.take_zero, List.flatMap_nil, List.append_nil]) ?_
            refine .rd (.assign rfl) ?_
            refine .nil ?_
            refine .seq ?_
            refine .region ?_
            refine .rd (.assign rfl) ?_
            refine .nil ?_
            refine .block ?_
            refine .loop (σ := Nat) (fun i => i ≤ m.el.length) (fun i => m.el.length - i) (fun i => [(1, .pointer (some ⟨b1, 0, none⟩)), (3, .string (str ((m.nums ++ [m.err]).flatMap intP ++ (nameP m.name ++ nameP m.text) ++ intP (m.bl.length : Int) ++ m.bl.flatMap (fun y : BatM => (wbatch y.1).1) ++ intP (m.el.length : Int) ++ (m.el.take i).flatMap entB))), (4, .int .i64 ((bits ((m.nums ++ [m.err]).map nz ++ [nzS m.name, nzS m.text] ++ [nz (m.bl.length : Int)] ++ [nz (m.el.length : Int)]) : Nat) : Int)), (5, .int .i64 (262144)), (13, .int .i64 (i : Nat))]) (fun i => [blk b1 m.cells 54, R]) 0 (Nat.zero_le _) (.cons rfl (.cons rfl (.cons rfl (.cons rfl (.cons rfl .nil))))) (.cons .head (.cons .head .nil)) (fun i hI ih => ?_)
            have hi := hI
            have htk : ((m.el.take i).flatMap entB).length ≤ 300000 := Nat.le_trans (flat_leq (c := 3000) fun x hx => entB_le (hs.ents x (List.mem_of_mem_take hx))) (by rw [List.length_take]; omega)
            have hlh : ((m.nums ++ [m.err]).flatMap intP ++ (nameP m.name ++ nameP m.text) ++ intP (m.bl.length : Int) ++ m.bl.flatMap (fun y : BatM => (wbatch y.1).1) ++ intP (m.el.length : Int)).length ≤ 900000 := by have := intP_len (n := (m.el.length : Int)) (by constructor <;> omega); simp only [List.length_append] at z0 z1 z2 ⊢; omega
            refine .seq ?_
            refine .seq ?_
            refine .region ?_
            refine .rd (.move rfl) ?_
            refine .rd (.fieldAddr fd54_19 rfl) ?_
            refine .rd (.ld na52 rfl .head rfl) ?_
            refine .rd (.lenL rfl rfl Try.underlying52 rfl) ?_
            refine .rd (.lt rfl rfl) ?_
            refine .nil ?_
            refine .condP rfl (fun h34 => ?_) (fun h34 => ?_)
            · refine .skip ?_
              refine .seq ?_
              refine .block ?_
              refine .seq ?_
              obtain ⟨y, hy⟩ : ∃ y, m.el[i]? = some y := ⟨_, List.getElem?_eq_getElem (by omega)⟩
              have hym := List.mem_of_getElem? hy
              refine .tell (φ := ∃ b o, m.ea = some ⟨b, o, none⟩) (Knows.pick (.tail .head) (k.mono fun _ h => RowAt.addr (h.2.2.1) (by rw [flat_length Ent.cells_len]; omega))) (fun hh => ?_)
              obtain ⟨b9, o9, hab⟩ := hh
              obtain ⟨d1, d2, d3, d4, d5⟩ := ent_data (hs.ents y hym)
              have d6 := eint_len (n := y.term) (by constructor <;> omega)
              have d7 := eint_len (n := y.index) (by constructor <;> omega)
              have d8 := etext_le y.data
              refine .region ?_
              refine .rd (.fieldAddr fd54_19 rfl) ?_
              refine .rd (.ld na52 rfl .head rfl) ?_
              refine .rd (.move rfl) ?_
              refine .rd (.indexAddr (b := b9) (o := o9) Try.underlying52 ts86 (by show some (Value.slice m.ea _ _) = _; rw [hab]) rfl (by omega) (by omega)) ?_
              refine .rd (.loadN ia86 ts86 rfl rfl (Knows.elem (f := Ent.cells) Ent.cells_len (by decide) (Knows.pick (.tail .head) (k.mono fun _ h => hab ▸ (h.2.2.1))) hy)) ?_
              refine .ef (.alloc ti86 rfl (ones.of rfl)) ?_
              rintro _ _ ⟨b14, rfl, rfl⟩
              refine .ef0 (.storeAll (vs := y.cells) ts86 rfl rfl rfl .head rfl (ones.of rfl)) ?_
              rintro _ _ rfl
              refine .nil ?_
              refine .draws [2, 6, 10] [blk b14 y.cells 86] (by kernel_rfl) ?_
              refine .rp 0 rfl (by kernel_rfl) (by kernel_rfl) (by kernel_rfl) (Reads.pure (.move rfl)) ?_
              refine .rp 1 rfl (by kernel_rfl) (by kernel_rfl) (by kernel_rfl) (Reads.pure (.fieldAddr fd86_0 rfl)) ?_
              refine .rd 2 rfl rfl (by kernel_rfl) (by kernel_rfl) (by kernel_rfl) (.ld na3 rfl .head rfl) (.cons .head .nil) ?_
              refine .rp 5 rfl (by kernel_rfl) (by kernel_rfl) (by kernel_rfl) (Reads.pure (.fieldAddr fd86_1 rfl)) ?_
              refine .rd 6 rfl rfl (by kernel_rfl) (by kernel_rfl) (by kernel_rfl) (.ld na3 rfl .head rfl) (.cons .head .nil) ?_
              refine .rp 9 rfl (by kernel_rfl) (by kernel_rfl) (by kernel_rfl) (Reads.pure (.fieldAddr fd86_2 rfl)) ?_
              refine .rd 10 rfl rfl (by kernel_rfl) (by kernel_rfl) (by kernel_rfl) (.ld na9 rfl .head rfl) (.cons .head .nil) ?_
              refine .ef 3 (by kernel_rfl) rfl (.fn rfl rfl .nil (fun _ _ _ => trivial) (rInt_ok y.term (by constructor <;> omega))) ?_
              rintro v _ ⟨G1, hq, rfl⟩
              obtain ⟨rfl, rfl⟩ := hq
              simp only [List.nil_append]
              refine ⟨.inr ⟨_, (.cons .head .nil)⟩, ?_⟩
              refine .rp 4 rfl (by kernel_rfl) (by kernel_rfl) (by kernel_rfl) (Reads.pure (.catT rfl rfl (by simp only [List.length_append] at hlh ⊢; omega))) ?_
              refine .ef 7 (by kernel_rfl) rfl (.fn rfl rfl .nil (fun _ _ _ => trivial) (rInt_ok y.index (by constructor <;> omega))) ?_
              rintro v _ ⟨G1, hq, rfl⟩
              obtain ⟨rfl, rfl⟩ := hq
              simp only [List.nil_append]
              refine ⟨.inr ⟨_, (.cons .head .nil)⟩, ?_⟩
              refine .rp 8 rfl (by kernel_rfl) (by kernel_rfl) (by kernel_rfl) (Reads.pure (.catT rfl rfl (by simp only [List.length_append] at hlh ⊢; omega))) ?_
              refine .ef 11 (by kernel_rfl) rfl (.fn rfl rfl .nil (fun _ _ _ => trivial) (rtext4_ok y.data (by omega))) ?_
              rintro v _ ⟨G1, hq, rfl⟩
              obtain ⟨rfl, rfl⟩ := hq
              simp only [List.nil_append]
              refine ⟨.inl (by kernel_rfl), ?_⟩
              refine .rp 12 rfl (by kernel_rfl) (by kernel_rfl) (by kernel_rfl) (Reads.pure (.catT rfl rfl (by simp only [List.length_append] at hlh ⊢; omega))) ?_
              refine .alter (t := 143) (v' := .string (str ((m.nums ++ [m.err]).flatMap intP ++ (nameP m.name ++ nameP m.text) ++ intP (m.bl.length : Int) ++ m.bl.flatMap (fun y : BatM => (wbatch y.1).1) ++ intP (m.el.length : Int) ++ (m.el.take (i + 1)).flatMap entB))) rfl (by rw [flat_take (f := entB) hy]; unfold entB; simp only [List.append_assoc]) ?_
              refine .rp 13 rfl (by kernel_rfl) (by kernel_rfl) (by kernel_rfl) (Reads.pure (.assign rfl)) ?_
              refine .done (by kernel_rfl) ?_
              refine .inBlock ?_
              refine .region ?_
              refine .rd (.move rfl) ?_
              refine .rd (.add rfl rfl (by omega) (by omega)) ?_
              refine .rd (.assign rfl) ?_
              refine .nil ?_
              exact (ih (i + 1) (by omega) (by omega)).to (.cons rfl (.cons rfl (.cons rfl (.cons rfl (.cons rfl .nil))))) (.cons (.tail .head) (.cons (.tail .head) .nil))
            · refine .alter (t := 3) (v' := .string (str ((m.nums ++ [m.err]).flatMap intP ++ (nameP m.name ++ nameP m.text) ++ intP (m.bl.length : Int) ++ m.bl.flatMap (fun y : BatM => (wbatch y.1).1) ++ intP (m.el.length : Int) ++ m.el.flatMap entB))) rfl (by rw [List.take_of_length_le (show m.el.length ≤ i by omega)]) ?_
              refine .exit rfl ?_
              exact fin (.cons rfl (.cons rfl (.cons rfl (.cons rfl .nil)))) (.cons .head (.cons .head .nil))
          · refine .alter (t := 3) (v' := .string (str ((m.nums ++ [m.err]).flatMap intP ++ (nameP m.name ++ nameP m.text) ++ intP (m.bl.length : Int) ++ m.bl.flatMap (fun y : BatM => (wbatch y.1).1) ++ intP (m.el.length : Int) ++ m.el.flatMap entB))) rfl (by rw [show m.el = [] from List.eq_nil_of_length_eq_zero (by omega)]; show _ = Value.string (str (_ ++ intP 0 ++ [])); simp [intP]) ?_
            refine .alter (t := 4) (v' := .int .i64 ((bits ((m.nums ++ [m.err]).map nz ++ [nzS m.name, nzS m.text] ++ [nz (m.bl.length : Int)] ++ [nz (m.el.length : Int)]) : Nat) : Int)) rfl (congrArg (fun z : Nat => Value.int .i64 (z : Int)) (sum_none (nz_nil (by omega))).symm) ?_
            refine .skip ?_
            exact fin (.cons rfl (.cons rfl (.cons rfl (.cons rfl .nil)))) (.cons .head (.cons .head .nil))
      · refine .condP rfl (fun h21 => ?_) (fun h21 => ?_)
        · refine .seq ?_
          refine .region ?_
          refine .rd (.move rfl) ?_
          refine .rd (.move rfl) ?_
          refine .rd (.add rfl rfl (by omega) (by omega)) ?_
          refine .alter (t := 78) (v' := .int .i64 ((bits ((m.nums ++ [m.err]).map nz ++ [nzS m.name, nzS m.text] ++ [nz (m.bl.length : Int)]) : Nat) : Int)) rfl (congrArg (Value.int .i64) (sum_snoc (k := 17) rfl (nz_pos (by omega)))) ?_
          refine .rd (.assign rfl) ?_
          refine .nil ?_
          refine .seq ?_
          refine .region ?_
          refine .rd (.move rfl) ?_
          refine .rd (.fieldAddr fd54_18 rfl) ?_
          refine .rd (.ld na51 rfl .head rfl) ?_
          refine .rd (.lenL rfl rfl Try.underlying51 rfl) ?_
          refine .fn rfl rfl .nil (fun _ _ _ => trivial) (rInt_ok (m.bl.length : Int) (by constructor <;> omega)) (fun v G1 hq => ?_)
          obtain ⟨rfl, rfl⟩ := hq
          simp only [List.nil_append]
          refine .rd (.catT rfl rfl (by have := eint_len (n := (m.bl.length : Int)) (by constructor <;> omega); omega)) ?_
          refine .alter (t := 84) (v' := .string (str ((m.nums ++ [m.err]).flatMap intP ++ (nameP m.name ++ nameP m.text) ++ intP (m.bl.length : Int) ++ (m.bl.take 0).flatMap (fun y : BatM => (wbatch y.1).1)))) rfl (by rw [intP_yes (n := (m.bl.length : Int)) (by omega), List.take_zero, List.flatMap_nil, List.append_nil]) ?_
          refine .rd (.assign rfl) ?_
          refine .nil ?_
          refine .seq ?_
          refine .region ?_
          refine .rd (.assign rfl) ?_
          refine .nil ?_
          refine .block ?_
          refine .loop (σ := Nat) (fun i => i ≤ m.bl.length) (fun i => m.bl.length - i) (fun i => [(1, .pointer (some ⟨b1, 0, none⟩)), (3, .string (str ((m.nums ++ [m.err]).flatMap intP ++ (nameP m.name ++ nameP m.text) ++ intP (m.bl.length : Int) ++ (m.bl.take i).flatMap (fun y : BatM => (wbatch y.1).1)))), (4, .int .i64 ((bits ((m.nums ++ [m.err]).map nz ++ [nzS m.name, nzS m.text] ++ [nz (m.bl.length : Int)]) : Nat) : Int)), (5, .int .i64 (131072)), (10, .int .i64 (i : Nat))]) (fun i => [blk b1 m.cells 54, R]) 0 (Nat.zero_le _) (.cons rfl (.cons rfl (.cons rfl (.cons rfl (.cons rfl .nil))))) (.cons .head (.cons (.tail .head) .nil)) (fun i hI ih => ?_)
          have hi := hI
          have htk : ((m.bl.take i).flatMap (fun y : BatM => (wbatch y.1).1)).length ≤ 300000 := Nat.le_trans (flat_leq (c := 4096) fun x hx => wbatch_le (hs.bats x (List.mem_of_mem_take hx))) (by rw [List.length_take]; omega)
          have hlh : ((m.nums ++ [m.err]).flatMap intP ++ (nameP m.name ++ nameP m.text) ++ intP (m.bl.length : Int)).length ≤ 900000 := by have := intP_len (n := (m.bl.length : Int)) (by constructor <;> omega); simp only [List.length_append] at z0 z1 z2 ⊢; omega
          refine .seq ?_
          refine .seq ?_
          refine .region ?_
          refine .rd (.move rfl) ?_
          refine .rd (.fieldAddr fd54_18 rfl) ?_
          refine .rd (.ld na51 rfl .head rfl) ?_
          refine .rd (.lenL rfl rfl Try.underlying51 rfl) ?_
          refine .rd (.lt rfl rfl) ?_
          refine .nil ?_
          refine .condP rfl (fun h25 => ?_) (fun h25 => ?_)
          · refine .skip ?_
            refine .seq ?_
            refine .block ?_
            refine .seq ?_
            obtain ⟨y, hy⟩ : ∃ y, m.bl[i]? = some y := ⟨_, List.getElem?_eq_getElem (by omega)⟩
            have hym := List.mem_of_getElem? hy
            refine .tell (φ := ∃ b o, m.ba = some ⟨b, o, none⟩) (Knows.pick (.tail .head) (k.mono fun _ h => RowAt.addr (h.1) (by rw [flat_length BatM.cells_len]; omega))) (fun hh => ?_)
            obtain ⟨b9, o9, hab⟩ := hh
            have hwl := wbatch_le (hs.bats y hym)
            refine .region ?_
            refine .rd (.fieldAddr fd54_18 rfl) ?_
            refine .rd (.ld na51 rfl .head rfl) ?_
            refine .rd (.move rfl) ?_
            refine .rd (.indexAddr (b := b9) (o := o9) Try.underlying51 ts27 (by show some (Value.slice m.ba _ _) = _; rw [hab]) rfl (by omega) (by omega)) ?_
            refine .rd (.loadN ia27 ts27 rfl rfl (Knows.elem (f := BatM.cells) BatM.cells_len (by decide) (Knows.pick (.tail .head) (k.mono fun _ h => hab ▸ (h.1))) hy)) ?_
            refine .fn rfl rfl .nil (Knows.pick (.tail .head) (k.mono fun _ h => h.2.1 y hym)) (rBatch_ok y.1 y.2.1 y.2.2 (hf.bats y hym)) (fun v G1 hq => ?_)
            obtain ⟨rfl, rfl⟩ := hq
            simp only [List.nil_append]
            refine .rd (.move rfl) ?_
            refine .rd (.extract rfl rfl) ?_
            refine .rd (.extract rfl rfl) ?_
            refine .rd (.assign rfl) ?_
            refine .rd (.assign rfl) ?_
            refine .nil ?_
            refine .region ?_
            refine .rd (.move rfl) ?_
            refine .rd (.move rfl) ?_
            refine .rd (.catT rfl rfl (by simp only [List.length_append] at hlh ⊢; omega)) ?_
            refine .alter (t := 103) (v' := .string (str ((m.nums ++ [m.err]).flatMap intP ++ (nameP m.name ++ nameP m.text) ++ intP (m.bl.length : Int) ++ (m.bl.take (i + 1)).flatMap (fun y : BatM => (wbatch y.1).1)))) rfl (by rw [flat_take (f := (fun y : BatM => (wbatch y.1).1)) hy]; simp only [List.append_assoc]) ?_
            refine .rd (.assign rfl) ?_
            refine .nil ?_
            refine .inBlock ?_
            refine .region ?_
            refine .rd (.move rfl) ?_
            refine .rd (.add rfl rfl (by omega) (by omega)) ?_
            refine .rd (.assign rfl) ?_
            refine .nil ?_
            exact (ih (i + 1) (by omega) (by omega)).to (.cons rfl (.cons rfl (.cons rfl (.cons rfl (.cons rfl .nil))))) (.cons .head (.cons .head .nil))
          · refine .alter (t := 3) (v' := .string (str ((m.nums ++ [m.err]).flatMap intP ++ (nameP m.name ++ nameP m.text) ++ intP (m.bl.length : Int) ++ m.bl.flatMap (fun y : BatM => (wbatch y.1).1)))) rfl (by rw [List.take_of_length_le (show m.bl.length ≤ i by omega)]) ?_
            refine .exit rfl ?_
            exact fin (.cons rfl (.cons rfl (.cons rfl (.cons rfl .nil)))) (.cons .head (.cons .head .nil))
        · refine .alter (t := 3) (v' := .string (str ((m.nums ++ [m.err]).flatMap intP ++ (nameP m.name ++ nameP m.text) ++ intP (m.bl.length : Int) ++ m.bl.flatMap (fun y : BatM => (wbatch y.1).1)))) rfl (by rw [show m.bl = [] from List.eq_nil_of_length_eq_zero (by omega)]; show _ = Value.string (str (_ ++ intP 0 ++ [])); simp [intP]) ?_
          refine .alter (t := 4) (v' := .int .i64 ((bits ((m.nums ++ [m.err]).map nz ++ [nzS m.name, nzS m.text] ++ [nz (m.bl.length : Int)]) : Nat) : Int)) rfl (congrArg (fun z : Nat => Value.int .i64 (z : Int)) (sum_none (nz_nil (by omega))).symm) ?_
          refine .skip ?_
          exact fin (.cons rfl (.cons rfl (.cons rfl (.cons rfl .nil)))) (.cons .head (.cons (.tail .head) .nil))

end Go.Proofs.Ytllpkagplfmlbaa


namespace Go.Proofs.Ytllpkagplfmlbaa
open Go Go.Sp

set_option linter.unusedVariables false

namespace rpc10
theorem fd54_0 : FD Try.prog 54 0 0 := .of Try.underlying54 (by kernel_rfl)
theorem na3 : NotAgg Try.prog 3 := ⟨_, Try.underlying3, trivial⟩
theorem fd54_15 : FD Try.prog 54 15 15 := .of Try.underlying54 (by kernel_rfl)
theorem na28 : NotAgg Try.prog 28 := ⟨_, Try.underlying28, trivial⟩
theorem ia54 : IsAgg Try.prog 54 := ⟨_, Try.underlying54, trivial⟩
theorem ts54 : TS Try.prog 54 21 := .of (by kernel_rfl)
theorem ts3 : TS Try.prog 3 1 := .of (by kernel_rfl)
theorem fd54_18 : FD Try.prog 54 18 18 := .of Try.underlying54 (by kernel_rfl)
theorem na51 : NotAgg Try.prog 51 := ⟨_, Try.underlying51, trivial⟩
theorem fd54_19 : FD Try.prog 54 19 19 := .of Try.underlying54 (by kernel_rfl)
theorem na52 : NotAgg Try.prog 52 := ⟨_, Try.underlying52, trivial⟩
theorem fd54_20 : FD Try.prog 54 20 20 := .of Try.underlying54 (by kernel_rfl)
theorem na37 : NotAgg Try.prog 37 := ⟨_, Try.underlying37, trivial⟩
theorem fd54_16 : FD Try.prog 54 16 16 := .of Try.underlying54 (by kernel_rfl)
theorem na9 : NotAgg Try.prog 9 := ⟨_, Try.underlying9, trivial⟩
theorem ts27 : TS Try.prog 27 6 := .of (by kernel_rfl)
theorem ia27 : IsAgg Try.prog 27 := ⟨_, Try.underlying27, trivial⟩
theorem ts86 : TS Try.prog 86 3 := .of (by kernel_rfl)
theorem ia86 : IsAgg Try.prog 86 := ⟨_, Try.underlying86, trivial⟩
theorem ti86 : TI Try.prog 86 3 32 (.agg #[.int .i64 0, .int .i64 0, .string ⟨#[]⟩]) := .of (by kernel_rfl)
theorem fd86_0 : FD Try.prog 86 0 0 := .of Try.underlying86 (by kernel_rfl)
theorem fd86_1 : FD Try.prog 86 1 1 := .of Try.underlying86 (by kernel_rfl)
theorem fd86_2 : FD Try.prog 86 2 2 := .of Try.underlying86 (by kernel_rfl)
theorem fd54_17 : FD Try.prog 54 17 17 := .of Try.underlying54 (by kernel_rfl)
end rpc10
open rpc10

theorem body4_le {m : MsgM} (hf : m.fits) (hs : Small m) (ht : m.text.length ≤ 65536) : (body4 m.msg).length ≤ 3000020 := by
  have y3 := rest_len hf hs ht
  have hbits : i64 ((bits m.msg.pres : Nat) : Int) := by
    have := bits_lt m.msg.pres
    rw [show m.msg.pres.length = 20 by rw [pres_eq]; simp [MsgM.nums]] at this
    constructor <;> omega
  have y1 := eint_len hf.kind
  have y2 := eint_len hbits
  have y1' : (eint m.msg.kind).length ≤ 10 := y1
  unfold body4
  simp only [List.length_append]; omega
theorem right4_smallv {m : Msg} {e : Int} (h : small4 m = e) (he : e ≠ 0) : right4 m = e := by rw [right4_small (by rw [h]; exact he), h]
theorem wth_of {n a b : Int} (h1 : ¬ n < a) (h2 : ¬ b < n) : wthB n a b = true := by unfold wthB; rw [decide_eq_true (by omega), decide_eq_true (by omega)]; rfl
theorem wth_no {n a b : Int} (h : n < a ∨ b < n) : wthB n a b = false := by
  unfold wthB
  rcases h with h | h
  · rw [decide_eq_false (by omega)]; rfl
  · rw [decide_eq_false (p := n ≤ b) (by omega), Bool.and_false]

set_option maxHeartbeats 1000000 in
set_option maxRecDepth 20000 in
theorem rRight4_ok (m : MsgM) (hf : m.fits) : Cn Try.prog 34 [.agg m.cells.toArray] (fun w => m.at_ w) [] fun v G => v = .int .i64 (right4 m.msg) ∧ G = [] := by
  refine .enter Try.func34 rfl (by kernel_rfl) rfl fun R k => ?_
  refine .seq ?_
  refine .region ?_
  refine .ef (.box (l := m.cells) rfl rfl (ones.of rfl)) ?_
  rintro _ _ ⟨b1, rfl, rfl⟩
  refine .rd (.assign rfl) ?_
  refine .nil ?_
  refine .seq ?_
  refine .seq ?_
  refine .region ?_
  refine RunO.join 18 26 (((decide (m.kind < 1) || decide (28 < m.kind)) || decide (m.err < 0)) || decide (23 < m.err)) ?_ ?_
  · refine .rd (.fieldAddr fd54_0 rfl) ?_
    refine .rd (.ld na3 rfl .head rfl) ?_
    refine .rd (.lt rfl rfl) ?_
    refine .rd (.move rfl) ?_
    refine .split (t := 12) rfl (fun g1 => ?_) (fun g1 => ?_)
    · replace g1 := of_decide_eq_true g1
      refine .off (t := 12) rfl rfl rfl ?_
      refine .off (t := 12) rfl rfl rfl ?_
      refine .off (t := 12) rfl rfl rfl ?_
      refine .rd (.pickT rfl rfl) ?_
      refine .rd (.move rfl) ?_
      refine .off (t := 17) rfl rfl rfl ?_
      refine .off (t := 17) rfl rfl rfl ?_
      refine .off (t := 17) rfl rfl rfl ?_
      refine .rd (.pickT rfl rfl) ?_
      refine .rd (.move rfl) ?_
      refine .off (t := 22) rfl rfl rfl ?_
      refine .off (t := 22) rfl rfl rfl ?_
      refine .off (t := 22) rfl rfl rfl ?_
      refine .rd (.pickT rfl rfl) ?_
      refine .nil ⟨rfl, ?_, by repeat (first | exact Le.refl _ | refine Le.skip rfl ?_)⟩
      exact congrArg (fun x => some (Value.bool x)) (Eq.symm (show (((decide (m.kind < 1) || decide (28 < m.kind)) || decide (m.err < 0)) || decide (23 < m.err)) = _ by (rw [decide_eq_true g1]) <;> rfl))
    · replace g1 := of_decide_eq_false g1
      refine .on (t := 12) rfl rfl ?_
      refine .rd (.fieldAddr fd54_0 rfl) ?_
      refine .on (t := 12) rfl rfl ?_
      refine .rd (.ld na3 rfl .head rfl) ?_
      refine .on (t := 12) rfl rfl ?_
      refine .rd (.gt rfl rfl) ?_
      refine .rd (.pickF rfl rfl) ?_
      refine .rd (.move rfl) ?_
      refine .split (t := 17) rfl (fun g2 => ?_) (fun g2 => ?_)
      · replace g2 := of_decide_eq_true g2
        refine .off (t := 17) rfl rfl rfl ?_
        refine .off (t := 17) rfl rfl rfl ?_
        refine .off (t := 17) rfl rfl rfl ?_
        refine .rd (.pickT rfl rfl) ?_
        refine .rd (.move rfl) ?_
        refine .off (t := 22) rfl rfl rfl ?_
        refine .off (t := 22) rfl rfl rfl ?_
        refine .off (t := 22) rfl rfl rfl ?_
        refine .rd (.pickT rfl rfl) ?_
        refine .nil ⟨rfl, ?_, by repeat (first | exact Le.refl _ | refine Le.skip rfl ?_)⟩
        exact congrArg (fun x => some (Value.bool x)) (Eq.symm (show (((decide (m.kind < 1) || decide (28 < m.kind)) || decide (m.err < 0)) || decide (23 < m.err)) = _ by (rw [decide_eq_false g1, decide_eq_true g2]) <;> rfl))
      · replace g2 := of_decide_eq_false g2
        refine .on (t := 17) rfl rfl ?_
        refine .rd (.fieldAddr fd54_15 rfl) ?_
        refine .on (t := 17) rfl rfl ?_
        refine .rd (.ld na28 rfl .head rfl) ?_
        refine .on (t := 17) rfl rfl ?_
        refine .rd (.lt rfl rfl) ?_
        refine .rd (.pickF rfl rfl) ?_
        refine .rd (.move rfl) ?_
        refine .split (t := 22) rfl (fun g3 => ?_) (fun g3 => ?_)
        · replace g3 := of_decide_eq_true g3
          refine .off (t := 22) rfl rfl rfl ?_
          refine .off (t := 22) rfl rfl rfl ?_
          refine .off (t := 22) rfl rfl rfl ?_
          refine .rd (.pickT rfl rfl) ?_
          refine .nil ⟨rfl, ?_, by repeat (first | exact Le.refl _ | refine Le.skip rfl ?_)⟩
          exact congrArg (fun x => some (Value.bool x)) (Eq.symm (show (((decide (m.kind < 1) || decide (28 < m.kind)) || decide (m.err < 0)) || decide (23 < m.err)) = _ by (rw [decide_eq_false g1, decide_eq_false g2, decide_eq_true g3]) <;> rfl))
        · replace g3 := of_decide_eq_false g3
          refine .on (t := 22) rfl rfl ?_
          refine .rd (.fieldAddr fd54_15 rfl) ?_
          refine .on (t := 22) rfl rfl ?_
          refine .rd (.ld na28 rfl .head rfl) ?_
          refine .on (t := 22) rfl rfl ?_
          refine .rd (.gt rfl rfl) ?_
          refine .rd (.pickF rfl rfl) ?_
          refine .nil ⟨rfl, ?_, by repeat (first | exact Le.refl _ | refine Le.skip rfl ?_)⟩
          exact congrArg (fun x => some (Value.bool x)) (Eq.symm (show (((decide (m.kind < 1) || decide (28 < m.kind)) || decide (m.err < 0)) || decide (23 < m.err)) = _ by (rw [decide_eq_false g1, decide_eq_false g2, decide_eq_false g3]) <;> rfl))
  refine .nil ?_
  refine .cond rfl (fun h1 => ?_) (fun h1 => ?_)
  · have hok : okN m.msg = false := by
      unfold okN
      have hh : (wthB m.msg.kind 1 28 && wthB m.msg.err 0 23) = false := by
        show (wthB m.kind 1 28 && wthB m.err 0 23) = false
        simp at h1
        rcases h1 with ((h | h) | h) | h
        · rw [wth_no (.inl h)]; rfl
        · rw [wth_no (.inr h)]; rfl
        · rw [wth_no (n := m.err) (.inl h), Bool.and_false]
        · rw [wth_no (n := m.err) (.inr h), Bool.and_false]
      rw [hh, Bool.false_and]
    refine .seq ?_
    refine .region ?_
    refine .rd (.assign rfl) ?_
    refine .nil ?_
    have hsv : small4 m.msg = 1 := by unfold small4; rw [if_pos hok]
    have hv : right4 m.msg = 1 := right4_smallv hsv (by decide)
    rw [hv]
    refine .retP Try.func34 (.cons (.tmp rfl) .nil) (.cons (.tail .head) .nil) ?_
    exact ⟨[], ⟨rfl, rfl⟩, rfl⟩
  · refine .skip ?_
    refine .seq ?_
    refine .region ?_
    refine .rd (.ldN ia54 ts54 rfl .head rfl) ?_
    refine .fn rfl rfl .nil (fun _ _ _ => trivial) (Numbers_ok m) (fun v G1 hq => ?_)
    obtain ⟨q, rfl, rfl⟩ := hq
    simp only [List.cons_append, List.nil_append]
    refine .rd (.assign rfl) ?_
    refine .nil ?_
    refine .seq ?_
    refine .seq ?_
    refine .region ?_
    refine .rd (.assign rfl) ?_
    refine .nil ?_
    refine .block ?_
    refine .loop (σ := Nat) (fun i => i ≤ 14 ∧ ∀ n ∈ m.nums.take i, wthB n (-1) 1000000000 = true) (fun i => 14 - i) (fun i => [(1, .pointer (some ⟨b1, 0, none⟩)), (3, .slice (some ⟨q, 0, none⟩) 14 14), (4, .int .i64 (i : Nat))]) (fun i => [blk b1 m.cells 54, arr 3 1 (some ⟨q, 0, none⟩) 14 (m.nums.flatMap icell), R]) 0 ⟨by omega, by simp⟩ (.cons rfl (.cons rfl (.cons rfl .nil))) (.cons (.tail .head) (.cons .head (.cons .head .nil))) (fun i hI ih => ?_)
    have hi := hI.1
    have hnl : m.nums.length = 14 := rfl
    refine .seq ?_
    refine .seq ?_
    refine .region ?_
    refine .rd (.move rfl) ?_
    refine .rd (.move rfl) ?_
    refine .rd (.lenL rfl rfl Try.underlying37 rfl) ?_
    refine .rd (.lt rfl rfl) ?_
    refine .nil ?_
    refine .condP rfl (fun h5 => ?_) (fun h5 => ?_)
    · refine .skip ?_
      refine .seq ?_
      refine .block ?_
      refine .seq ?_
      obtain ⟨y, hy⟩ : ∃ y, m.nums[i]? = some y := ⟨_, List.getElem?_eq_getElem (by omega)⟩
      refine .region ?_
      refine RunO.join 12 46 (decide (y < -1) || decide (1000000000 < y)) ?_ ?_
      · refine .rd (.move rfl) ?_
        refine .rd (.move rfl) ?_
        refine .rd (.indexAddr Try.underlying37 ts3 rfl rfl (by omega) (by omega)) ?_
        refine .rd (.load na3 rfl (Knows.one (i := 0) (Knows.elem (f := icell) icell_len (by decide) (Knows.arr (.tail .head)) hy) rfl)) ?_
        refine .rd (.lt rfl rfl) ?_
        refine .rd (.move rfl) ?_
        refine .split (t := 40) rfl (fun g7 => ?_) (fun g7 => ?_)
        · replace g7 := of_decide_eq_true g7
          refine .off (t := 40) rfl rfl rfl ?_
          refine .off (t := 40) rfl rfl rfl ?_
          refine .off (t := 40) rfl rfl rfl ?_
          refine .off (t := 40) rfl rfl rfl ?_
          refine .off (t := 40) rfl rfl rfl ?_
          refine .rd (.pickT rfl rfl) ?_
          refine .nil ⟨rfl, ?_, by repeat (first | exact Le.refl _ | refine Le.skip rfl ?_)⟩
          exact congrArg (fun x => some (Value.bool x)) (Eq.symm (show (decide (y < -1) || decide (1000000000 < y)) = _ by (rw [decide_eq_true g7]) <;> rfl))
        · replace g7 := of_decide_eq_false g7
          refine .on (t := 40) rfl rfl ?_
          refine .rd (.move rfl) ?_
          refine .on (t := 40) rfl rfl ?_
          refine .rd (.move rfl) ?_
          refine .on (t := 40) rfl rfl ?_
          refine .rd (.indexAddr Try.underlying37 ts3 rfl rfl (by omega) (by omega)) ?_
          refine .on (t := 40) rfl rfl ?_
          refine .rd (.load na3 rfl (Knows.one (i := 0) (Knows.elem (f := icell) icell_len (by decide) (Knows.arr (.tail .head)) hy) rfl)) ?_
          refine .on (t := 40) rfl rfl ?_
          refine .rd (.gt rfl rfl) ?_
          refine .rd (.pickF rfl rfl) ?_
          refine .nil ⟨rfl, ?_, by repeat (first | exact Le.refl _ | refine Le.skip rfl ?_)⟩
          exact congrArg (fun x => some (Value.bool x)) (Eq.symm (show (decide (y < -1) || decide (1000000000 < y)) = _ by (rw [decide_eq_false g7]) <;> rfl))
      refine .nil ?_
      refine .cond rfl (fun h7 => ?_) (fun h7 => ?_)
      · have hok : okN m.msg = false := by
          unfold okN
          have hall : (m.msg.nums.all fun n => wthB n (-1) 1000000000) = false := List.all_eq_false.2 ⟨y, List.mem_of_getElem? hy, by rw [wth_no (by simpa using h7)]; decide⟩
          rw [hall, Bool.and_false]
        refine .seq ?_
        refine .region ?_
        refine .rd (.assign rfl) ?_
        refine .nil ?_
        have hsv : small4 m.msg = 1 := by unfold small4; rw [if_pos hok]
        have hv : right4 m.msg = 1 := right4_smallv hsv (by decide)
        rw [hv]
        refine .retP Try.func34 (.cons (.tmp rfl) .nil) (.cons (.tail (.tail .head)) .nil) ?_
        exact ⟨[], ⟨rfl, rfl⟩, rfl⟩
      · have hyw : wthB y (-1) 1000000000 = true := by simp at h7; exact wth_of (by omega) (by omega)
        refine .skip ?_
        refine .inBlock ?_
        refine .region ?_
        refine .rd (.move rfl) ?_
        refine .rd (.add rfl rfl (by omega) (by omega)) ?_
        refine .rd (.assign rfl) ?_
        refine .nil ?_
        exact (ih (i + 1) ⟨by omega, all_take (p := fun n => wthB n (-1) 1000000000 = true) hy hyw hI.2⟩ (by omega)).to (.cons rfl (.cons rfl (.cons rfl .nil))) (.cons .head (.cons .head (.cons .head .nil)))
    · have hok : okN m.msg = true := by
        unfold okN
        have hall : (m.msg.nums.all fun n => wthB n (-1) 1000000000) = true := List.all_eq_true.2 fun n hn => hI.2 n (by rw [List.take_of_length_le (by omega)]; exact hn)
        simp at h1
        rw [hall, show wthB m.msg.kind 1 28 = true from wth_of (by show ¬ m.kind < 1; omega) (by show ¬ 28 < m.kind; omega), show wthB m.msg.err 0 23 = true from wth_of (by show ¬ m.err < 0; omega) (by show ¬ 23 < m.err; omega)]; rfl
      refine .exit rfl ?_
      refine .seq ?_
      refine .seq ?_
      refine .region ?_
      refine RunO.join 16 62 ((decide (64 < (m.bl.length : Int)) || decide (64 < (m.el.length : Int))) || decide (256 < (m.il.length : Int))) ?_ ?_
      · refine .rd (.fieldAddr fd54_18 rfl) ?_
        refine .rd (.ld na51 rfl .head rfl) ?_
        refine .rd (.lenL rfl rfl Try.underlying51 rfl) ?_
        refine .rd (.gt rfl rfl) ?_
        refine .rd (.move rfl) ?_
        refine .split (t := 51) rfl (fun g9_4 => ?_) (fun g9_4 => ?_)
        · replace g9_4 := of_decide_eq_true g9_4
          refine .off (t := 51) rfl rfl rfl ?_
          refine .off (t := 51) rfl rfl rfl ?_
          refine .off (t := 51) rfl rfl rfl ?_
          refine .off (t := 51) rfl rfl rfl ?_
          refine .rd (.pickT rfl rfl) ?_
          refine .rd (.move rfl) ?_
          refine .off (t := 57) rfl rfl rfl ?_
          refine .off (t := 57) rfl rfl rfl ?_
          refine .off (t := 57) rfl rfl rfl ?_
          refine .off (t := 57) rfl rfl rfl ?_
          refine .rd (.pickT rfl rfl) ?_
          refine .nil ⟨rfl, ?_, by repeat (first | exact Le.refl _ | refine Le.skip rfl ?_)⟩
          exact congrArg (fun x => some (Value.bool x)) (Eq.symm (show ((decide (64 < (m.bl.length : Int)) || decide (64 < (m.el.length : Int))) || decide (256 < (m.il.length : Int))) = _ by (rw [decide_eq_true g9_4]) <;> rfl))
        · replace g9_4 := of_decide_eq_false g9_4
          refine .on (t := 51) rfl rfl ?_
          refine .rd (.fieldAddr fd54_19 rfl) ?_
          refine .on (t := 51) rfl rfl ?_
          refine .rd (.ld na52 rfl .head rfl) ?_
          refine .on (t := 51) rfl rfl ?_
          refine .rd (.lenL rfl rfl Try.underlying52 rfl) ?_
          refine .on (t := 51) rfl rfl ?_
          refine .rd (.gt rfl rfl) ?_
          refine .rd (.pickF rfl rfl) ?_
          refine .rd (.move rfl) ?_
          refine .split (t := 57) rfl (fun g9_10 => ?_) (fun g9_10 => ?_)
          · replace g9_10 := of_decide_eq_true g9_10
            refine .off (t := 57) rfl rfl rfl ?_
            refine .off (t := 57) rfl rfl rfl ?_
            refine .off (t := 57) rfl rfl rfl ?_
            refine .off (t := 57) rfl rfl rfl ?_
            refine .rd (.pickT rfl rfl) ?_
            refine .nil ⟨rfl, ?_, by repeat (first | exact Le.refl _ | refine Le.skip rfl ?_)⟩
            exact congrArg (fun x => some (Value.bool x)) (Eq.symm (show ((decide (64 < (m.bl.length : Int)) || decide (64 < (m.el.length : Int))) || decide (256 < (m.il.length : Int))) = _ by (rw [decide_eq_false g9_4, decide_eq_true g9_10]) <;> rfl))
          · replace g9_10 := of_decide_eq_false g9_10
            refine .on (t := 57) rfl rfl ?_
            refine .rd (.fieldAddr fd54_20 rfl) ?_
            refine .on (t := 57) rfl rfl ?_
            refine .rd (.ld na37 rfl .head rfl) ?_
            refine .on (t := 57) rfl rfl ?_
            refine .rd (.lenL rfl rfl Try.underlying37 rfl) ?_
            refine .on (t := 57) rfl rfl ?_
            refine .rd (.gt rfl rfl) ?_
            refine .rd (.pickF rfl rfl) ?_
            refine .nil ⟨rfl, ?_, by repeat (first | exact Le.refl _ | refine Le.skip rfl ?_)⟩
            exact congrArg (fun x => some (Value.bool x)) (Eq.symm (show ((decide (64 < (m.bl.length : Int)) || decide (64 < (m.el.length : Int))) || decide (256 < (m.il.length : Int))) = _ by (rw [decide_eq_false g9_4, decide_eq_false g9_10]) <;> rfl))
      refine .nil ?_
      refine .cond rfl (fun h9 => ?_) (fun h9 => ?_)
      · have hmany : (64 < m.msg.batches.length ∨ 64 < m.msg.entries.length ∨ 256 < m.msg.ints.length) := by
          have e1 : m.msg.batches.length = m.bl.length := List.length_map ..
          have e2 : m.msg.entries.length = m.el.length := rfl
          have e3 : m.msg.ints.length = m.il.length := rfl
          rw [e1, e2, e3]
          simp only [Bool.or_eq_true, decide_eq_true_eq] at h9
          omega
        refine .seq ?_
        refine .region ?_
        refine .rd (.assign rfl) ?_
        refine .nil ?_
        have hsv : small4 m.msg = 3 := by unfold small4; rw [if_neg (by rw [hok]; decide), if_pos hmany]
        have hv : right4 m.msg = 3 := right4_smallv hsv (by decide)
        rw [hv]
        refine .retP Try.func34 (.cons (.tmp rfl) .nil) (.cons (.tail (.tail .head)) .nil) ?_
        exact ⟨[], ⟨rfl, rfl⟩, rfl⟩
      · have hmany : ¬ (64 < m.msg.batches.length ∨ 64 < m.msg.entries.length ∨ 256 < m.msg.ints.length) := by
          have e1 : m.msg.batches.length = m.bl.length := List.length_map ..
          have e2 : m.msg.entries.length = m.el.length := rfl
          have e3 : m.msg.ints.length = m.il.length := rfl
          rw [e1, e2, e3]
          simp only [Bool.or_eq_false_iff, decide_eq_false_iff_not] at h9
          omega
        refine .skip ?_
        refine .seq ?_
        refine .seq ?_
        refine .region ?_
        refine .rd (.fieldAddr fd54_16 rfl) ?_
        refine .rd (.ld na9 rfl .head rfl) ?_
        refine .rd (.lenT rfl rfl Try.underlying9 rfl) ?_
        refine .rd (.gt rfl rfl) ?_
        refine .nil ?_
        refine .condP rfl (fun h11 => ?_) (fun h11 => ?_)
        · refine .seq ?_
          refine .region ?_
          refine .rd (.assign rfl) ?_
          refine .nil ?_
          have hsv : small4 m.msg = 2 := by unfold small4; rw [if_neg (by rw [hok]; decide), if_neg (show ¬ (64 < m.msg.batches.length ∨ 64 < m.msg.entries.length ∨ 256 < m.msg.ints.length) from hmany), if_pos (show 32 < m.msg.name.length from by show 32 < m.name.length; omega)]
          have hv : right4 m.msg = 2 := right4_smallv hsv (by decide)
          rw [hv]
          refine .retP Try.func34 (.cons (.tmp rfl) .nil) (.cons (.tail (.tail .head)) .nil) ?_
          exact ⟨[], ⟨rfl, rfl⟩, rfl⟩
        · refine .skip ?_
          refine .seq ?_
          refine .seq ?_
          refine .region ?_
          refine .rd (.assign rfl) ?_
          refine .nil ?_
          refine .block ?_
          refine .loop (σ := Nat) (fun i => i ≤ m.bl.length ∧ ∀ y ∈ m.bl.take i, right y.1 = 0) (fun i => m.bl.length - i) (fun i => [(1, .pointer (some ⟨b1, 0, none⟩)), (5, .int .i64 (i : Nat))]) (fun i => [blk b1 m.cells 54, R]) 0 ⟨Nat.zero_le _, by simp⟩ (.cons rfl (.cons rfl .nil)) (.cons .head (.cons (.tail .head) .nil)) (fun i hI ih => ?_)
          have hi := hI.1
          have hbn := hf.batn
          have hen := hf.entn
          refine .seq ?_
          refine .seq ?_
          refine .region ?_
          refine .rd (.move rfl) ?_
          refine .rd (.fieldAddr fd54_18 rfl) ?_
          refine .rd (.ld na51 rfl .head rfl) ?_
          refine .rd (.lenL rfl rfl Try.underlying51 rfl) ?_
          refine .rd (.lt rfl rfl) ?_
          refine .nil ?_
          refine .condP rfl (fun h14 => ?_) (fun h14 => ?_)
          · refine .skip ?_
            refine .seq ?_
            refine .block ?_
            refine .seq ?_
            obtain ⟨y, hy⟩ : ∃ y, m.bl[i]? = some y := ⟨_, List.getElem?_eq_getElem (by omega)⟩
            have hym := List.mem_of_getElem? hy
            refine .tell (φ := ∃ b o, m.ba = some ⟨b, o, none⟩) (Knows.pick (.tail .head) (k.mono fun _ h => RowAt.addr (h.1) (by rw [flat_length BatM.cells_len]; omega))) (fun hh => ?_)
            obtain ⟨b9, o9, hab⟩ := hh
            refine .region ?_
            refine .rd (.fieldAddr fd54_18 rfl) ?_
            refine .rd (.ld na51 rfl .head rfl) ?_
            refine .rd (.move rfl) ?_
            refine .rd (.indexAddr (b := b9) (o := o9) Try.underlying51 ts27 (by show some (Value.slice m.ba _ _) = _; rw [hab]) rfl (by omega) (by omega)) ?_
            refine .rd (.loadN ia27 ts27 rfl rfl (Knows.elem (f := BatM.cells) BatM.cells_len (by decide) (Knows.pick (.tail .head) (k.mono fun _ h => hab ▸ (h.1))) hy)) ?_
            refine .fn rfl rfl .nil (Knows.pick (.tail .head) (k.mono fun _ h => h.2.1 y hym)) (rRight_ok y.1 y.2.1 y.2.2 (hf.bats y hym)) (fun v G1 hq => ?_)
            obtain ⟨rfl, rfl⟩ := hq
            simp only [List.nil_append]
            refine .rd (.assign rfl) ?_
            refine .nil ?_
            refine .seq ?_
            refine .region ?_
            refine .rd (.move rfl) ?_
            refine .rd (.neI rfl rfl) ?_
            refine .nil ?_
            refine .condN rfl (fun h17 => ?_) (fun h17 => ?_)
            · refine .seq ?_
              refine .region ?_
              refine .rd (.move rfl) ?_
              refine .rd (.assign rfl) ?_
              refine .nil ?_
              have hbe : firstE right m.msg.batches = right y.1 := by show firstE right (m.bl.map (·.1)) = _; rw [firstE_map]; exact firstE_hit hy h17 hI.2
              have hsv : small4 m.msg = right y.1 := by unfold small4; rw [if_neg (by rw [hok]; decide), if_neg (show ¬ (64 < m.msg.batches.length ∨ 64 < m.msg.entries.length ∨ 256 < m.msg.ints.length) from hmany), if_neg (show ¬ 32 < m.msg.name.length from by show ¬ 32 < m.name.length; omega), hbe, if_pos h17]
              have hv : right4 m.msg = right y.1 := right4_smallv hsv h17
              rw [hv]
              refine .retP Try.func34 (.cons (.tmp rfl) .nil) (.cons (.tail .head) .nil) ?_
              exact ⟨[], ⟨rfl, rfl⟩, rfl⟩
            · refine .skip ?_
              refine .inBlock ?_
              refine .region ?_
              refine .rd (.move rfl) ?_
              refine .rd (.add rfl rfl (by omega) (by omega)) ?_
              refine .rd (.assign rfl) ?_
              refine .nil ?_
              exact (ih (i + 1) ⟨by omega, all_take (p := fun y => right y.1 = 0) hy h17 hI.2⟩ (by omega)).to (.cons rfl (.cons rfl .nil)) (.cons .head (.cons .head .nil))
          · have hbats : firstE right m.msg.batches = 0 := by show firstE right (m.bl.map (·.1)) = _; rw [firstE_map]; exact firstE_zero fun y hy => hI.2 y (by rw [List.take_of_length_le (by omega)]; exact hy)
            refine .exit rfl ?_
            refine .seq ?_
            refine .seq ?_
            refine .region ?_
            refine .rd (.assign rfl) ?_
            refine .nil ?_
            refine .block ?_
            refine .loop (σ := Nat) (fun i => i ≤ m.el.length ∧ ∀ y ∈ m.el.take i, entErr y = 0) (fun i => m.el.length - i) (fun i => [(1, .pointer (some ⟨b1, 0, none⟩)), (7, .int .i64 (i : Nat))]) (fun i => [blk b1 m.cells 54, R]) 0 ⟨Nat.zero_le _, by simp⟩ (.cons rfl (.cons rfl .nil)) (.cons .head (.cons .head .nil)) (fun i hI ih => ?_)
            have hi := hI.1
            have hbn := hf.batn
            have hen := hf.entn
            refine .seq ?_
            refine .seq ?_
            refine .region ?_
            refine .rd (.move rfl) ?_
            refine .rd (.fieldAddr fd54_19 rfl) ?_
            refine .rd (.ld na52 rfl .head rfl) ?_
            refine .rd (.lenL rfl rfl Try.underlying52 rfl) ?_
            refine .rd (.lt rfl rfl) ?_
            refine .nil ?_
            refine .condP rfl (fun h20 => ?_) (fun h20 => ?_)
            · refine .skip ?_
              refine .seq ?_
              refine .block ?_
              refine .seq ?_
              obtain ⟨y, hy⟩ : ∃ y, m.el[i]? = some y := ⟨_, List.getElem?_eq_getElem (by omega)⟩
              have hym := List.mem_of_getElem? hy
              refine .tell (φ := ∃ b o, m.ea = some ⟨b, o, none⟩) (Knows.pick (.tail .head) (k.mono fun _ h => RowAt.addr (h.2.2.1) (by rw [flat_length Ent.cells_len]; omega))) (fun hh => ?_)
              obtain ⟨b9, o9, hab⟩ := hh
              refine .region ?_
              refine .rd (.fieldAddr fd54_19 rfl) ?_
              refine .rd (.ld na52 rfl .head rfl) ?_
              refine .rd (.move rfl) ?_
              refine .rd (.indexAddr (b := b9) (o := o9) Try.underlying52 ts86 (by show some (Value.slice m.ea _ _) = _; rw [hab]) rfl (by omega) (by omega)) ?_
              refine .rd (.loadN ia86 ts86 rfl rfl (Knows.elem (f := Ent.cells) Ent.cells_len (by decide) (Knows.pick (.tail .head) (k.mono fun _ h => hab ▸ (h.2.2.1))) hy)) ?_
              refine .ef (.alloc ti86 rfl (ones.of rfl)) ?_
              rintro _ _ ⟨b8, rfl, rfl⟩
              refine .ef0 (.storeAll (vs := y.cells) ts86 rfl rfl rfl .head rfl (ones.of rfl)) ?_
              rintro _ _ rfl
              refine .nil ?_
              refine .seq ?_
              refine .seq ?_
              refine .region ?_
              refine RunO.join 18 112 (((decide (y.term < 0) || decide (1000000000 < y.term)) || decide (y.index < 0)) || decide (1000000000 < y.index)) ?_ ?_
              · refine .rd (.fieldAddr fd86_0 rfl) ?_
                refine .rd (.ld na3 rfl .head rfl) ?_
                refine .rd (.lt rfl rfl) ?_
                refine .rd (.move rfl) ?_
                refine .split (t := 98) rfl (fun g23_3 => ?_) (fun g23_3 => ?_)
                · replace g23_3 := of_decide_eq_true g23_3
                  refine .off (t := 98) rfl rfl rfl ?_
                  refine .off (t := 98) rfl rfl rfl ?_
                  refine .off (t := 98) rfl rfl rfl ?_
                  refine .rd (.pickT rfl rfl) ?_
                  refine .rd (.move rfl) ?_
                  refine .off (t := 103) rfl rfl rfl ?_
                  refine .off (t := 103) rfl rfl rfl ?_
                  refine .off (t := 103) rfl rfl rfl ?_
                  refine .rd (.pickT rfl rfl) ?_
                  refine .rd (.move rfl) ?_
                  refine .off (t := 108) rfl rfl rfl ?_
                  refine .off (t := 108) rfl rfl rfl ?_
                  refine .off (t := 108) rfl rfl rfl ?_
                  refine .rd (.pickT rfl rfl) ?_
                  refine .nil ⟨rfl, ?_, by repeat (first | exact Le.refl _ | refine Le.skip rfl ?_)⟩
                  exact congrArg (fun x => some (Value.bool x)) (Eq.symm (show (((decide (y.term < 0) || decide (1000000000 < y.term)) || decide (y.index < 0)) || decide (1000000000 < y.index)) = _ by (rw [decide_eq_true g23_3]) <;> rfl))
                · replace g23_3 := of_decide_eq_false g23_3
                  refine .on (t := 98) rfl rfl ?_
                  refine .rd (.fieldAddr fd86_0 rfl) ?_
                  refine .on (t := 98) rfl rfl ?_
                  refine .rd (.ld na3 rfl .head rfl) ?_
                  refine .on (t := 98) rfl rfl ?_
                  refine .rd (.gt rfl rfl) ?_
                  refine .rd (.pickF rfl rfl) ?_
                  refine .rd (.move rfl) ?_
                  refine .split (t := 103) rfl (fun g23_8 => ?_) (fun g23_8 => ?_)
                  · replace g23_8 := of_decide_eq_true g23_8
                    refine .off (t := 103) rfl rfl rfl ?_
                    refine .off (t := 103) rfl rfl rfl ?_
                    refine .off (t := 103) rfl rfl rfl ?_
                    refine .rd (.pickT rfl rfl) ?_
                    refine .rd (.move rfl) ?_
                    refine .off (t := 108) rfl rfl rfl ?_
                    refine .off (t := 108) rfl rfl rfl ?_
                    refine .off (t := 108) rfl rfl rfl ?_
                    refine .rd (.pickT rfl rfl) ?_
                    refine .nil ⟨rfl, ?_, by repeat (first | exact Le.refl _ | refine Le.skip rfl ?_)⟩
                    exact congrArg (fun x => some (Value.bool x)) (Eq.symm (show (((decide (y.term < 0) || decide (1000000000 < y.term)) || decide (y.index < 0)) || decide (1000000000 < y.index)) = _ by (rw [decide_eq_false g23_3, decide_eq_true g23_8]) <;> rfl))
                  · replace g23_8 := of_decide_eq_false g23_8
                    refine .on (t := 103) rfl rfl ?_
                    refine .rd (.fieldAddr fd86_1 rfl) ?_
                    refine .on (t := 103) rfl rfl ?_
                    refine .rd (.ld na3 rfl .head rfl) ?_
                    refine .on (t := 103) rfl rfl ?_
                    refine .rd (.lt rfl rfl) ?_
                    refine .rd (.pickF rfl rfl) ?_
                    refine .rd (.move rfl) ?_
                    refine .split (t := 108) rfl (fun g23_13 => ?_) (fun g23_13 => ?_)
                    · replace g23_13 := of_decide_eq_true g23_13
                      refine .off (t := 108) rfl rfl rfl ?_
                      refine .off (t := 108) rfl rfl rfl ?_
                      refine .off (t := 108) rfl rfl rfl ?_
                      refine .rd (.pickT rfl rfl) ?_
                      refine .nil ⟨rfl, ?_, by repeat (first | exact Le.refl _ | refine Le.skip rfl ?_)⟩
                      exact congrArg (fun x => some (Value.bool x)) (Eq.symm (show (((decide (y.term < 0) || decide (1000000000 < y.term)) || decide (y.index < 0)) || decide (1000000000 < y.index)) = _ by (rw [decide_eq_false g23_3, decide_eq_false g23_8, decide_eq_true g23_13]) <;> rfl))
                    · replace g23_13 := of_decide_eq_false g23_13
                      refine .on (t := 108) rfl rfl ?_
                      refine .rd (.fieldAddr fd86_1 rfl) ?_
                      refine .on (t := 108) rfl rfl ?_
                      refine .rd (.ld na3 rfl .head rfl) ?_
                      refine .on (t := 108) rfl rfl ?_
                      refine .rd (.gt rfl rfl) ?_
                      refine .rd (.pickF rfl rfl) ?_
                      refine .nil ⟨rfl, ?_, by repeat (first | exact Le.refl _ | refine Le.skip rfl ?_)⟩
                      exact congrArg (fun x => some (Value.bool x)) (Eq.symm (show (((decide (y.term < 0) || decide (1000000000 < y.term)) || decide (y.index < 0)) || decide (1000000000 < y.index)) = _ by (rw [decide_eq_false g23_3, decide_eq_false g23_8, decide_eq_false g23_13]) <;> rfl))
              refine .nil ?_
              refine .cond rfl (fun h23 => ?_) (fun h23 => ?_)
              · have hbad : (!wthB y.term 0 1000000000 || !wthB y.index 0 1000000000) = true := by
                  simp at h23
                  rcases h23 with ((h | h) | h) | h
                  · rw [wth_no (.inl h)]; rfl
                  · rw [wth_no (.inr h)]; rfl
                  · rw [wth_no (n := y.index) (.inl h), Bool.not_false, Bool.or_true]
                  · rw [wth_no (n := y.index) (.inr h), Bool.not_false, Bool.or_true]
                refine .seq ?_
                refine .region ?_
                refine .rd (.assign rfl) ?_
                refine .nil ?_
                have hen : firstE entErr m.msg.entries = 1 := by rw [show firstE entErr m.msg.entries = entErr y from firstE_hit (f := entErr) hy (by unfold entErr; rw [if_pos hbad]; decide) hI.2]; unfold entErr; rw [if_pos hbad]
                have hsv : small4 m.msg = 1 := by unfold small4; rw [if_neg (by rw [hok]; decide), if_neg (show ¬ (64 < m.msg.batches.length ∨ 64 < m.msg.entries.length ∨ 256 < m.msg.ints.length) from hmany), if_neg (show ¬ 32 < m.msg.name.length from by show ¬ 32 < m.name.length; omega), if_neg (by rw [show firstE right m.msg.batches = 0 from hbats]; decide), hen]
                have hv : right4 m.msg = 1 := right4_smallv hsv (by decide)
                rw [hv]
                refine .retP Try.func34 (.cons (.tmp rfl) .nil) (.cons (.tail (.tail .head)) .nil) ?_
                exact ⟨[], ⟨rfl, rfl⟩, rfl⟩
              · have hw1 : wthB y.term 0 1000000000 = true := by simp at h23; exact wth_of (by omega) (by omega)
                have hw2 : wthB y.index 0 1000000000 = true := by simp at h23; exact wth_of (by omega) (by omega)
                refine .skip ?_
                refine .seq ?_
                refine .region ?_
                refine .rd (.fieldAddr fd86_2 rfl) ?_
                refine .rd (.ld na9 rfl .head rfl) ?_
                refine .rd (.lenT rfl rfl Try.underlying9 rfl) ?_
                refine .rd (.gt rfl rfl) ?_
                refine .nil ?_
                refine .condP rfl (fun h25 => ?_) (fun h25 => ?_)
                · refine .seq ?_
                  refine .region ?_
                  refine .rd (.assign rfl) ?_
                  refine .nil ?_
                  have hen : firstE entErr m.msg.entries = 2 := by rw [show firstE entErr m.msg.entries = entErr y from firstE_hit (f := entErr) hy (by unfold entErr; rw [if_neg (by rw [hw1, hw2]; decide), if_pos (by omega)]; decide) hI.2]; unfold entErr; rw [if_neg (by rw [hw1, hw2]; decide), if_pos (by omega)]
                  have hsv : small4 m.msg = 2 := by unfold small4; rw [if_neg (by rw [hok]; decide), if_neg (show ¬ (64 < m.msg.batches.length ∨ 64 < m.msg.entries.length ∨ 256 < m.msg.ints.length) from hmany), if_neg (show ¬ 32 < m.msg.name.length from by show ¬ 32 < m.name.length; omega), if_neg (by rw [show firstE right m.msg.batches = 0 from hbats]; decide), hen]
                  have hv : right4 m.msg = 2 := right4_smallv hsv (by decide)
                  rw [hv]
                  refine .retP Try.func34 (.cons (.tmp rfl) .nil) (.cons (.tail (.tail .head)) .nil) ?_
                  exact ⟨[], ⟨rfl, rfl⟩, rfl⟩
                · refine .skip ?_
                  refine .inBlock ?_
                  refine .region ?_
                  refine .rd (.move rfl) ?_
                  refine .rd (.add rfl rfl (by omega) (by omega)) ?_
                  refine .rd (.assign rfl) ?_
                  refine .nil ?_
                  exact (ih (i + 1) ⟨by omega, all_take (p := fun y => entErr y = 0) hy (by unfold entErr; rw [if_neg (by rw [hw1, hw2]; decide), if_neg (by omega)]) hI.2⟩ (by omega)).to (.cons rfl (.cons rfl .nil)) (.cons (.tail .head) (.cons (.tail .head) .nil))
            · have hen : firstE entErr m.msg.entries = 0 := firstE_zero fun y hy => hI.2 y (by rw [List.take_of_length_le (by omega)]; exact hy)
              have hsv : small4 m.msg = 0 := by unfold small4; rw [if_neg (by rw [hok]; decide), if_neg (show ¬ (64 < m.msg.batches.length ∨ 64 < m.msg.entries.length ∨ 256 < m.msg.ints.length) from hmany), if_neg (show ¬ 32 < m.msg.name.length from by show ¬ 32 < m.name.length; omega), if_neg (by rw [show firstE right m.msg.batches = 0 from hbats]; decide), hen]
              have hsm := small_of4 hsv
              refine .exit rfl ?_
              refine .seq ?_
              refine .seq ?_
              refine .region ?_
              refine RunO.join 11 127 (decide (65536 < (m.text.length : Int)) || decide (65536 < ((body4 m.msg).length : Int) + 8)) ?_ ?_
              · refine .rd (.fieldAddr fd54_17 rfl) ?_
                refine .rd (.ld na9 rfl .head rfl) ?_
                refine .rd (.lenT rfl rfl Try.underlying9 rfl) ?_
                refine .rd (.gt rfl rfl) ?_
                refine .rd (.move rfl) ?_
                refine .split (t := 121) rfl (fun g27 => ?_) (fun g27 => ?_)
                · replace g27 := of_decide_eq_true g27
                  refine .off (t := 121) rfl rfl rfl ?_
                  refine .off (t := 121) rfl rfl rfl ?_
                  refine .off (t := 121) rfl rfl rfl ?_
                  refine .off (t := 121) rfl rfl rfl ?_
                  refine .off (t := 121) rfl rfl rfl ?_
                  refine .rd (.pickT rfl rfl) ?_
                  refine .nil ⟨rfl, ?_, by repeat (first | exact Le.refl _ | refine Le.skip rfl ?_)⟩
                  exact congrArg (fun x => some (Value.bool x)) (Eq.symm (show (decide (65536 < (m.text.length : Int)) || decide (65536 < ((body4 m.msg).length : Int) + 8)) = _ by (rw [decide_eq_true g27]) <;> rfl))
                · replace g27 := of_decide_eq_false g27
                  have hble := body4_le hf hsm (by omega)
                  refine .on (t := 121) rfl rfl ?_
                  refine .rd (.ldN ia54 ts54 rfl .head rfl) ?_
                  refine .on (t := 121) rfl rfl ?_
                  refine .fn rfl rfl .nil (Knows.pick (.tail .head) k) (rbody4_ok m hf hsm (by omega)) (fun v G1 hq => ?_)
                  obtain ⟨rfl, rfl⟩ := hq
                  simp only [List.nil_append]
                  refine .on (t := 121) rfl rfl ?_
                  refine .rd (.lenT rfl rfl Try.underlying9 rfl) ?_
                  refine .on (t := 121) rfl rfl ?_
                  refine .rd (.add rfl rfl (by omega) (by omega)) ?_
                  refine .on (t := 121) rfl rfl ?_
                  refine .rd (.gt rfl rfl) ?_
                  refine .rd (.pickF rfl rfl) ?_
                  refine .nil ⟨rfl, ?_, by repeat (first | exact Le.refl _ | refine Le.skip rfl ?_)⟩
                  exact congrArg (fun x => some (Value.bool x)) (Eq.symm (show (decide (65536 < (m.text.length : Int)) || decide (65536 < ((body4 m.msg).length : Int) + 8)) = _ by (rw [decide_eq_false g27]) <;> rfl))
              refine .nil ?_
              refine .cond rfl (fun h27 => ?_) (fun h27 => ?_)
              · refine .seq ?_
                refine .region ?_
                refine .rd (.assign rfl) ?_
                refine .nil ?_
                have hv : right4 m.msg = 2 := by
                  simp at h27
                  by_cases ht : 65536 < m.msg.text.length
                  · exact right4_text hsv ht
                  · refine right4_long hsv ht ?_
                    have ht' : ¬ 65536 < m.text.length := ht
                    omega
                rw [hv]
                refine .retP Try.func34 (.cons (.tmp rfl) .nil) (.cons (.tail .head) .nil) ?_
                exact ⟨[], ⟨rfl, rfl⟩, rfl⟩
              · refine .skip ?_
                refine .seq ?_
                refine .region ?_
                refine .rd (.assign rfl) ?_
                refine .nil ?_
                have hv : right4 m.msg = 0 := by
                  simp at h27
                  exact right4_zero hsv (by show ¬ 65536 < m.text.length; omega) (by omega)
                rw [hv]
                refine .retP Try.func34 (.cons (.tmp rfl) .nil) (.cons (.tail .head) .nil) ?_
                exact ⟨[], ⟨rfl, rfl⟩, rfl⟩

set_option maxRecDepth 20000 in
theorem rEncode_ok (m : MsgM) (hf : m.fits) : Cn Try.prog 32 [.agg m.cells.toArray] (fun w => m.at_ w) [] fun v G => v = .tuple #[.string (str (wmsg m.msg).1), .int .i64 (wmsg m.msg).2] ∧ G = [] := by
  refine .enter Try.func32 rfl (by kernel_rfl) rfl fun R k => ?_
  refine .seq ?_
  refine .region ?_
  refine .ef (.box (l := m.cells) rfl rfl (ones.of rfl)) ?_
  rintro _ _ ⟨b1, rfl, rfl⟩
  refine .rd (.assign rfl) ?_
  refine .rd (.assign rfl) ?_
  refine .nil ?_
  refine .seq ?_
  refine .region ?_
  refine .rd (.ldN ia54 ts54 rfl .head rfl) ?_
  refine .fn rfl rfl .nil (Knows.pick (.tail .head) k) (rRight4_ok m hf) (fun v G1 hq => ?_)
  obtain ⟨rfl, rfl⟩ := hq
  simp only [List.nil_append]
  refine .rd (.assign rfl) ?_
  refine .nil ?_
  refine .seq ?_
  refine .seq ?_
  refine .region ?_
  refine .rd (.move rfl) ?_
  refine .rd (.neI rfl rfl) ?_
  refine .nil ?_
  refine .condN rfl (fun h2 => ?_) (fun h2 => ?_)
  · refine .seq ?_
    refine .region ?_
    refine .rd (.move rfl) ?_
    refine .rd (.assign rfl) ?_
    refine .rd (.assign rfl) ?_
    refine .nil ?_
    rw [wmsg_no h2]
    refine .retP Try.func32 (.cons (.tmp rfl) (.cons (.tmp rfl) .nil)) (.cons (.tail .head) .nil) ?_
    exact ⟨[], ⟨rfl, rfl⟩, rfl⟩
  · have hr : right4 m.msg = 0 := h2
    have hlen := (right4_iff.1 hr).2.2
    have hsm := small_of4 (right4_iff.1 hr).1
    refine .skip ?_
    refine .seq ?_
    refine .region ?_
    refine .rd (.ldN ia54 ts54 rfl .head rfl) ?_
    refine .fn rfl rfl .nil (Knows.pick (.tail .head) k) (rbody4_ok m hf hsm (right4_iff.1 hr).2.1) (fun v G1 hq => ?_)
    obtain ⟨rfl, rfl⟩ := hq
    simp only [List.nil_append]
    refine .rd (.assign rfl) ?_
    refine .nil ?_
    refine .seq ?_
    refine .region ?_
    refine .rd (.move rfl) ?_
    refine .rd (.lenT rfl rfl Try.underlying9 rfl) ?_
    refine .fn rfl rfl .nil (fun _ _ _ => trivial) (Four_ok (body4 m.msg).length (by omega)) (fun v G1 hq => ?_)
    obtain ⟨rfl, rfl⟩ := hq
    simp only [List.nil_append]
    refine .rd (.move rfl) ?_
    refine .fn rfl rfl .nil (fun _ _ _ => trivial) (rCrc_ok (body4 m.msg) (by omega)) (fun v G1 hq => ?_)
    obtain ⟨rfl, rfl⟩ := hq
    simp only [List.nil_append]
    refine .fn rfl rfl .nil (fun _ _ _ => trivial) (Four_ok (crc (body4 m.msg)).toNat (by have := (crc (body4 m.msg)).isLt; omega)) (fun v G1 hq => ?_)
    obtain ⟨rfl, rfl⟩ := hq
    simp only [List.nil_append]
    refine .rd (.catT rfl rfl (by simp only [fours_len]; omega)) ?_
    refine .rd (.move rfl) ?_
    refine .rd (.catT rfl rfl (by simp only [List.length_append, fours_len]; omega)) ?_
    refine .rd (.assign rfl) ?_
    refine .rd (.assign rfl) ?_
    refine .nil ?_
    rw [wmsg_yes hr]
    refine .retP Try.func32 (.cons (.tmp rfl) (.cons (.tmp rfl) .nil)) (.cons (.tail .head) .nil) ?_
    exact ⟨[], ⟨rfl, rfl⟩, rfl⟩

end Go.Proofs.Ytllpkagplfmlbaa

