/- Part 5 of a claim's texts: rules for the machine's steps, and steps through functions of the program, under the conditions that each theorem states. -/
import Derived.Test.YtllpkagplfmlbaaProg
import Derived.Test.YtllpkagplfmlbaaPart1
import Derived.Test.YtllpkagplfmlbaaPart2
import Derived.Test.YtllpkagplfmlbaaPart3
import Derived.Test.YtllpkagplfmlbaaPart4
set_option linter.unusedVariables false
namespace Go.Proofs.Ytllpkagplfmlbaa
open Go Go.Sp

set_option linter.unusedVariables false

namespace rpc7
theorem ti54 : TI Try.prog 54 21 232 (.agg #[.int .i64 0, .int .i64 0, .int .i64 0, .int .i64 0, .int .i64 0, .int .i64 0, .int .i64 0, .int .i64 0, .int .i64 0, .int .i64 0, .int .i64 0, .int .i64 0, .int .i64 0, .int .i64 0, .int .i64 0, .int .i64 0, .string ⟨#[]⟩, .string ⟨#[]⟩, .slice none 0 0, .slice none 0 0, .slice none 0 0]) := .of (by kernel_rfl)
theorem bld54_0 (x0 : Int) (w : World) : (Instr.build 54 (([0] : List Nat).zip [.int .i64 x0]).toArray).run Try.prog w = .ok (.agg #[.int .i64 x0, .int .i64 0, .int .i64 0, .int .i64 0, .int .i64 0, .int .i64 0, .int .i64 0, .int .i64 0, .int .i64 0, .int .i64 0, .int .i64 0, .int .i64 0, .int .i64 0, .int .i64 0, .int .i64 0, .int .i64 0, .string ⟨#[]⟩, .string ⟨#[]⟩, .slice none 0 0, .slice none 0 0, .slice none 0 0]) w := by kernel_rfl
theorem ts54 : TS Try.prog 54 21 := .of (by kernel_rfl)
theorem bld54_  (w : World) : (Instr.build 54 (([] : List Nat).zip []).toArray).run Try.prog w = .ok (.agg #[.int .i64 0, .int .i64 0, .int .i64 0, .int .i64 0, .int .i64 0, .int .i64 0, .int .i64 0, .int .i64 0, .int .i64 0, .int .i64 0, .int .i64 0, .int .i64 0, .int .i64 0, .int .i64 0, .int .i64 0, .int .i64 0, .string ⟨#[]⟩, .string ⟨#[]⟩, .slice none 0 0, .slice none 0 0, .slice none 0 0]) w := by kernel_rfl
theorem ia54 : IsAgg Try.prog 54 := ⟨_, Try.underlying54, trivial⟩
theorem ti3 : TI Try.prog 3 1 8 (.int .i64 0) := .of (by kernel_rfl)
theorem ts3 : TS Try.prog 3 1 := .of (by kernel_rfl)
theorem ti73 : TI Try.prog 73 1 8 (.pointer none) := .of (by kernel_rfl)
theorem ts73 : TS Try.prog 73 1 := .of (by kernel_rfl)
theorem na73 : NotAgg Try.prog 73 := ⟨_, Try.underlying73, trivial⟩
theorem fd90_1 : FD Try.prog 90 1 1 := .of Try.underlying90 (by kernel_rfl)
theorem na4 : NotAgg Try.prog 4 := ⟨_, Try.underlying4, trivial⟩
theorem na3 : NotAgg Try.prog 3 := ⟨_, Try.underlying3, trivial⟩
theorem ts4 : TS Try.prog 4 1 := .of (by kernel_rfl)
theorem fd54_15 : FD Try.prog 54 15 15 := .of Try.underlying54 (by kernel_rfl)
theorem ts28 : TS Try.prog 28 1 := .of (by kernel_rfl)
theorem fd54_16 : FD Try.prog 54 16 16 := .of Try.underlying54 (by kernel_rfl)
theorem fd54_17 : FD Try.prog 54 17 17 := .of Try.underlying54 (by kernel_rfl)
theorem ti110 : TI Try.prog 110 1 8 (.pointer none) := .of (by kernel_rfl)
theorem ts110 : TS Try.prog 110 1 := .of (by kernel_rfl)
theorem na110 : NotAgg Try.prog 110 := ⟨_, Try.underlying110, trivial⟩
theorem ts9 : TS Try.prog 9 1 := .of (by kernel_rfl)
theorem na9 : NotAgg Try.prog 9 := ⟨_, Try.underlying9, trivial⟩
theorem fd90_0 : FD Try.prog 90 0 0 := .of Try.underlying90 (by kernel_rfl)
end rpc7
open rpc7

theorem fill2p (a b : Option Addr) : Instr.fill (fun i => some (i * 1, 1)) (madeCells (Value.pointer none).cells (2 * 1)) [(0, .pointer a), (1, .pointer b)] = some ([.pointer a, .pointer b] : List Value).toArray := by kernel_rfl

set_option maxHeartbeats 2000000 in
set_option maxRecDepth 20000 in
theorem message_ok (r : Nat) (p : Rdr) (hp : p.1.length ≤ 65536) : Cn Try.prog 59 [.pointer (some ⟨r, 0, none⟩)] (fun _ => True) [blk r [.string (str p.1), .bool p.2] 90] fun v G => ∃ (m : MsgM) (ok : Bool), v = .tuple #[.agg m.cells.toArray, .bool ok] ∧ (ok = true ↔ (rdMsg p).2.2 = true ∧ (rdMsg p).2.1 = [] ∧ right4 (rdMsg p).1 = 0) ∧ (ok = true → m.msg = (rdMsg p).1) ∧ ∃ q : Rdr, G = [blk r [.string (str q.1), .bool q.2] 90, know m.at_] := by
  refine .enter Try.func59 rfl (by kernel_rfl) rfl fun R k => ?_
  refine .seq ?_
  refine .region ?_
  refine .ef (.alloc ti54 rfl (ones.of rfl)) ?_
  rintro _ _ ⟨b2, rfl, rfl⟩
  refine .rd (.assign rfl) ?_
  refine .nil ?_
  refine .seq ?_
  refine .region ?_
  refine .rd (.move rfl) ?_
  refine .fn rfl rfl (.cons (.tail .head) .nil) (fun _ _ _ => trivial) (rd4int_ok r p (by omega)) (fun v G1 hq => ?_)
  obtain ⟨rfl, rfl⟩ := hq
  simp only [List.cons_append, List.nil_append]
  refine .rd (.build rfl (bld54_0 _)) ?_
  refine .ef (.alloc ti54 rfl (ones.of rfl)) ?_
  rintro _ _ ⟨b4, rfl, rfl⟩
  refine .ef0 (.storeAll (vs := .int .i64 (rdI p).1 :: (nvec 14 [] ++ [.int .i64 0, .string ⟨#[]⟩, .string ⟨#[]⟩, .slice none 0 0, .slice none 0 0, .slice none 0 0])) ts54 rfl rfl rfl .head rfl (ones.of rfl)) ?_
  rintro _ _ rfl
  refine .nil ?_
  refine .seq ?_
  obtain ⟨k1, hk1⟩ : ∃ x, x = (rdI p).1 := ⟨_, rfl⟩
  obtain ⟨p1, hp1⟩ : ∃ x, x = (rdI p).2 := ⟨_, rfl⟩
  have hki : i64 k1 := by rw [hk1]; exact rint_i64 _
  have hp1l := rdI_len p
  rw [← hp1] at hp1l
  refine .perm (.cons (.tail .head) (.cons .head (.cons .head (.cons .head .nil)))) ?_
  refine .cast (X' := blk r [.string (str p1.1), .bool p1.2] 90) (by rw [hp1]) ?_
  refine .perm (.cons (.tail .head) (.cons .head (.cons .head (.cons .head .nil)))) ?_
  refine .cast (X' := blk b4 (.int .i64 k1 :: (nvec 14 [] ++ [.int .i64 0, .string ⟨#[]⟩, .string ⟨#[]⟩, .slice none 0 0, .slice none 0 0, .slice none 0 0])) 54) (by rw [hk1]) ?_
  refine .region ?_
  refine .rd (.move rfl) ?_
  refine .fn rfl rfl (.cons (.tail .head) .nil) (fun _ _ _ => trivial) (rd4int_ok r p1 (by omega)) (fun v G1 hq => ?_)
  obtain ⟨rfl, rfl⟩ := hq
  simp only [List.cons_append, List.nil_append]
  refine .rd (.assign rfl) ?_
  refine .nil ?_
  refine .seq ?_
  refine .seq ?_
  obtain ⟨hh, hhh⟩ : ∃ x, x = (rdI p1).1 := ⟨_, rfl⟩
  obtain ⟨q, hq⟩ : ∃ x, x = (rdI p1).2 := ⟨_, rfl⟩
  have hql := rdI_len p1
  rw [← hq] at hql
  refine .alter (t := 5) (v' := .int .i64 hh) rfl (by rw [hhh]) ?_
  refine .cast (X' := blk r [.string (str q.1), .bool q.2] 90) (by rw [hq]) ?_
  refine .region ?_
  refine .rd (.move rfl) ?_
  refine .fn rfl rfl .nil (fun _ _ _ => trivial) (within4_ok hh 0 1048575) (fun v G1 hq => ?_)
  obtain ⟨rfl, rfl⟩ := hq
  simp only [List.nil_append]
  refine .rd (.not rfl) ?_
  refine .nil ?_
  refine .cond rfl (fun h3 => ?_) (fun h3 => ?_)
  · have hbad := rdMsg_out (p := p) (by rw [← hp1, ← hhh]; unfold wthB at h3; simp at h3; omega)
    refine .seq ?_
    refine .region ?_
    refine .rd (.build rfl (bld54_)) ?_
    refine .ef0 (.storeAll (vs := zeroMM.cells) ts54 rfl rfl rfl (.tail (.tail .head)) rfl (ones.of rfl)) ?_
    rintro _ _ rfl
    refine .rd (.assign rfl) ?_
    refine .nil ?_
    refine .knowT (zeroMM.at_) (zeroMM_at) ?_
    refine .retP Try.func59 (.cons (.blkN ia54 ts54 rfl (.tail .head) rfl) (.cons (.tmp rfl) .nil)) (.cons (.tail (.tail .head)) (.cons .head (.cons (.tail (.tail .head)) .nil))) ?_
    exact ⟨[_, _], ⟨zeroMM, false, rfl, by rw [hbad]; exact ⟨fun h => (by cases h), fun h => (by cases h.1)⟩, fun h => (by cases h), q, rfl⟩, rfl⟩
  · have hR : 0 ≤ hh ∧ hh < 1048576 := by unfold wthB at h3; simp at h3; omega
    obtain ⟨has, hhas⟩ : ∃ n : Nat, n = hh.toNat := ⟨_, rfl⟩
    have hin := rdMsg_in (p := p) (by rw [← hp1, ← hhh]; exact hR)
    rw [← hp1, ← hhh, ← hk1, ← hq, ← hhas] at hin
    have hhl : has < 1048576 := by omega
    refine .alter (t := 5) (v' := .int .i64 (has : Nat)) rfl (congrArg (Value.int .i64) (by omega)) ?_
    refine .skip ?_
    refine .seq ?_
    refine .region ?_
    refine .ef (.alloc ti3 rfl (ones.of rfl)) ?_
    rintro _ _ ⟨b6, rfl, rfl⟩
    refine .ef0 (.store ts3 rfl rfl .head rfl (Nat.le_of_ble_eq_true rfl)) ?_
    rintro _ _ rfl
    refine .nil ?_
    refine .seq ?_
    refine .seq ?_
    refine .region ?_
    refine .fn rfl rfl .nil (fun _ _ _ => trivial) (numbersOf_ok b4) (fun v G1 hq => ?_)
    obtain ⟨pb, rfl, rfl⟩ := hq
    simp only [List.cons_append, List.nil_append]
    refine .ef (.buildOne Try.underlying108 ti73 (by decide) rfl rfl rfl (ones.of rfl)) ?_
    rintro _ _ ⟨b21, rfl, rfl⟩
    refine .ef (.appendFull (cs := ptrs14 b4) (n := 14) (m := 1) (ys := [.pointer (some ⟨b6, 0, none⟩)]) rfl rfl Try.underlying108 ti73 rfl (ones.of rfl) (by decide) rfl rfl (Knows.blk (.tail .head)) rfl (.srcBlk .head Try.underlying108 rfl (by decide)) (by decide) (by decide)) ?_
    rintro _ _ ⟨pa, pc, rfl, rfl⟩
    refine .tell (φ := ∃ b o, pa = some ⟨b, o, none⟩) ((Knows.arr .head).mono fun _ h => RowAt.addr h (by show 0 < 15; decide)) (fun hh => ?_)
    obtain ⟨pl, po, rfl⟩ := hh
    refine .rd (.lenL rfl rfl Try.underlying108 rfl) ?_
    refine .rd (.move rfl) ?_
    refine .nil ?_
    refine .block ?_
    refine .loop (σ := Nat) (fun k => k ≤ 15) (fun k => 15 - k) (fun k => [(0, .pointer (some ⟨r, 0, none⟩)), (2, .pointer (some ⟨b2, 0, none⟩)), (4, .pointer (some ⟨b4, 0, none⟩)), (5, .int .i64 (has : Nat)), (6, .pointer (some ⟨b6, 0, none⟩)), (22, .slice (some ⟨pl, po, none⟩) 15 pc), (23, .int .i64 15), (24, .int .i64 (k : Nat))]) (fun k => [blk r [.string (str (rdNums rdNZ has k q).2.1), .bool (rdNums rdNZ has k q).2.2] 90, blk b4 (.int .i64 k1 :: (nvec 14 (rdNums rdNZ has k q).1 ++ [.int .i64 0, .string ⟨#[]⟩, .string ⟨#[]⟩, .slice none 0 0, .slice none 0 0, .slice none 0 0])) 54, blk b6 [.int .i64 ((rdNums rdNZ has k q).1.getD 14 0)] 3, arr 73 1 (some ⟨pl, po, none⟩) pc (ptrs14 b4 ++ [.pointer (some ⟨b6, 0, none⟩)]), blk b2 zeroMM.cells 54, R]) 0 (by omega) (.cons rfl (.cons rfl (.cons rfl (.cons rfl (.cons rfl (.cons rfl (.cons rfl (.cons rfl .nil)))))))) (.cons (.tail (.tail (.tail (.tail .head)))) (.cons (.tail (.tail (.tail (.tail .head)))) (.cons (.tail (.tail (.tail .head))) (.cons .head (.cons (.tail (.tail .head)) (.cons (.tail (.tail .head)) .nil)))))) (fun k hI ih => ?_)
    have hk15 := hI
    have hxl := rdNums_len rdNZ has k q
    have hcl := rdNums_short (has := has) rdNZ_short k q
    refine .seq ?_
    refine .region ?_
    refine .rd (.lt rfl rfl) ?_
    refine .nil ?_
    refine .seq ?_
    refine .condP rfl (fun h7 => ?_) (fun h7 => ?_)
    · refine .skip ?_
      refine .seq ?_
      refine .block ?_
      refine .seq ?_
      refine .region ?_
      refine .rd (.move rfl) ?_
      refine .rd (.indexAddr Try.underlying108 ts73 rfl rfl (by omega) (by omega)) ?_
      refine .rd (.load na73 rfl (Knows.one (i := (k : Int).toNat * 1) ((Knows.arr (.tail (.tail (.tail .head)))).mono fun _ h => RowAt.cellsAt h (by show 0 < 15; decide)) (by rw [Int.toNat_natCast, Nat.mul_one]; exact numAt_at b4 b6 (by omega)))) ?_
      refine .rd (.assign rfl) ?_
      refine .rd (.assign rfl) ?_
      refine .nil ?_
      refine .seq ?_
      refine .region ?_
      refine .rd (.move rfl) ?_
      refine .rd (.move rfl) ?_
      refine .rd (.shr (n := k) rfl rfl) ?_
      refine .rd (.and rfl rfl) ?_
      refine .alter (t := 32) (v' := .int .i64 ((has / 2 ^ (k) % 2 : Nat) : Int)) rfl (congrArg (Value.int .i64) (bit_and hhl (by omega))) ?_
      refine .rd (.eqI rfl rfl) ?_
      refine .alter (t := 33) (v' := .bool (bit has (k))) rfl (bit_eq has (k)) ?_
      refine .nil ?_
      refine .cond rfl (fun h9 => ?_) (fun h9 => ?_)
      · by_cases hk : k < 14
        · refine .alter (t := 8) (v' := .pointer (some ⟨b4, k + 1, none⟩)) rfl (by unfold numAt; rw [if_pos hk]) ?_
          refine .seq ?_
          refine .region ?_
          refine .rd (.move rfl) ?_
          refine .rd (.move rfl) ?_
          refine .fn rfl rfl (.cons .head .nil) (fun _ _ _ => trivial) (rd4int_ok r (rdNums rdNZ has k q).2 (by omega)) (fun v G1 hq => ?_)
          obtain ⟨rfl, rfl⟩ := hq
          simp only [List.cons_append, List.nil_append]
          refine .rd (.nilCheck rfl) ?_
          refine .ef0 (.store ts3 rfl rfl (.tail .head) rfl (by rw [List.length_cons, List.length_append, nvec_len]; show k + 1 + 1 ≤ 14 + 6 + 1; omega)) ?_
          rintro _ _ rfl
          refine .cast (X' := blk b4 (.int .i64 k1 :: (nvec 14 ((rdNums rdNZ has k q).1 ++ [(rdI (rdNums rdNZ has k q).2).1]) ++ [.int .i64 0, .string ⟨#[]⟩, .string ⟨#[]⟩, .slice none 0 0, .slice none 0 0, .slice none 0 0])) 54) (by rw [num_set hk hxl]) ?_
          refine .nil ?_
          refine .region ?_
          refine RunO.join2 11 48 ((rdI (rdNums rdNZ has k q).2).2.2 && nz (rdI (rdNums rdNZ has k q).2).1) 38 (.pointer (some ⟨r, 0, none⟩)) ?_ ?_
          · refine .rd (.move rfl) ?_
            refine .rd (.move rfl) ?_
            refine .rd (.nilCheck rfl) ?_
            refine .rd (.fieldAddr fd90_1 rfl) ?_
            refine .rd (.ld na4 rfl (.tail .head) rfl) ?_
            refine .rd (.move rfl) ?_
            refine .split (t := 43) rfl (fun g11 => ?_) (fun g11 => ?_)
            · refine .on (t := 43) rfl rfl ?_
              refine .rd (.move rfl) ?_
              refine .on (t := 43) rfl rfl ?_
              refine .rd (.nilCheck rfl) ?_
              refine .on (t := 43) rfl rfl ?_
              refine .rd (.ld na3 rfl .head (num_get hk hxl _)) ?_
              refine .on (t := 43) rfl rfl ?_
              refine .rd (.neI rfl rfl) ?_
              refine .rd (.pickT rfl rfl) ?_
              refine .nil ⟨rfl, ?_, rfl, by repeat (first | exact Le.refl _ | refine Le.skip rfl ?_)⟩
              exact congrArg (fun x => some (Value.bool x)) (Eq.symm (show ((rdI (rdNums rdNZ has k q).2).2.2 && nz (rdI (rdNums rdNZ has k q).2).1) = _ by (rw [g11]) <;> rfl))
            · refine .off (t := 43) rfl rfl rfl ?_
              refine .off (t := 43) rfl rfl rfl ?_
              refine .off (t := 43) rfl rfl rfl ?_
              refine .off (t := 43) rfl rfl rfl ?_
              refine .rd (.pickF rfl rfl) ?_
              refine .nil ⟨rfl, ?_, rfl, by repeat (first | exact Le.refl _ | refine Le.skip rfl ?_)⟩
              exact congrArg (fun x => some (Value.bool x)) (Eq.symm (show ((rdI (rdNums rdNZ has k q).2).2.2 && nz (rdI (rdNums rdNZ has k q).2).1) = _ by (rw [g11]) <;> rfl))
          refine .rd (.nilCheck rfl) ?_
          refine .rd (.fieldAddr fd90_1 rfl) ?_
          refine .ef0 (.store ts4 rfl rfl (.tail .head) rfl (Nat.le_of_ble_eq_true rfl)) ?_
          rintro _ _ rfl
          refine .nil ?_
          have hs1 : rdNums rdNZ has (k + 1) q = ((rdNums rdNZ has k q).1 ++ [(rdI (rdNums rdNZ has k q).2).1], (rdNZ (rdNums rdNZ has k q).2).2) := by rw [rdNums, rdOpt_true h9]; rfl
          refine .cast (X' := blk r [.string (str (rdNums rdNZ has (k + 1) q).2.1), .bool (rdNums rdNZ has (k + 1) q).2.2] 90) (by rw [hs1]; rfl) ?_
          refine .perm (.cons (.tail .head) (.cons .head (.cons .head (.cons .head (.cons .head (.cons .head .nil)))))) ?_
          refine .cast (X' := blk b4 (.int .i64 k1 :: (nvec 14 (rdNums rdNZ has (k + 1) q).1 ++ [.int .i64 0, .string ⟨#[]⟩, .string ⟨#[]⟩, .slice none 0 0, .slice none 0 0, .slice none 0 0])) 54) (by rw [hs1]) ?_
          refine .perm (.cons (.tail (.tail .head)) (.cons .head (.cons .head (.cons .head (.cons .head (.cons .head .nil)))))) ?_
          refine .cast (X' := blk b6 [.int .i64 ((rdNums rdNZ has (k + 1) q).1.getD 14 0)] 3) (by rw [hs1, getD_short (by omega), getD_short (by rw [List.length_append]; show _ + 1 ≤ 14; omega)]) ?_
          refine .inBlock ?_
          refine .region ?_
          refine .rd (.add rfl rfl (by omega) (by omega)) ?_
          refine .rd (.move rfl) ?_
          refine .nil ?_
          exact (ih (k + 1) (by omega) (by omega)).to (.cons rfl (.cons rfl (.cons rfl (.cons rfl (.cons rfl (.cons rfl (.cons rfl (.cons rfl .nil)))))))) (.cons (.tail (.tail .head)) (.cons (.tail .head) (.cons .head (.cons .head (.cons .head (.cons .head .nil))))))
        · refine .alter (t := 8) (v' := .pointer (some ⟨b6, 0, none⟩)) rfl (by unfold numAt; rw [if_neg hk]) ?_
          have hk14 : k = 14 := by omega
          refine .seq ?_
          refine .region ?_
          refine .rd (.move rfl) ?_
          refine .rd (.move rfl) ?_
          refine .fn rfl rfl (.cons .head .nil) (fun _ _ _ => trivial) (rd4int_ok r (rdNums rdNZ has k q).2 (by omega)) (fun v G1 hq => ?_)
          obtain ⟨rfl, rfl⟩ := hq
          simp only [List.cons_append, List.nil_append]
          refine .rd (.nilCheck rfl) ?_
          refine .ef0 (.store ts3 rfl rfl (.tail (.tail .head)) rfl (Nat.le_of_ble_eq_true rfl)) ?_
          rintro _ _ rfl
          refine .nil ?_
          refine .region ?_
          refine RunO.join2 11 48 ((rdI (rdNums rdNZ has k q).2).2.2 && nz (rdI (rdNums rdNZ has k q).2).1) 38 (.pointer (some ⟨r, 0, none⟩)) ?_ ?_
          · refine .rd (.move rfl) ?_
            refine .rd (.move rfl) ?_
            refine .rd (.nilCheck rfl) ?_
            refine .rd (.fieldAddr fd90_1 rfl) ?_
            refine .rd (.ld na4 rfl (.tail .head) rfl) ?_
            refine .rd (.move rfl) ?_
            refine .split (t := 43) rfl (fun g11 => ?_) (fun g11 => ?_)
            · refine .on (t := 43) rfl rfl ?_
              refine .rd (.move rfl) ?_
              refine .on (t := 43) rfl rfl ?_
              refine .rd (.nilCheck rfl) ?_
              refine .on (t := 43) rfl rfl ?_
              refine .rd (.ld na3 rfl .head rfl) ?_
              refine .on (t := 43) rfl rfl ?_
              refine .rd (.neI rfl rfl) ?_
              refine .rd (.pickT rfl rfl) ?_
              refine .nil ⟨rfl, ?_, rfl, by repeat (first | exact Le.refl _ | refine Le.skip rfl ?_)⟩
              exact congrArg (fun x => some (Value.bool x)) (Eq.symm (show ((rdI (rdNums rdNZ has k q).2).2.2 && nz (rdI (rdNums rdNZ has k q).2).1) = _ by (rw [g11]) <;> rfl))
            · refine .off (t := 43) rfl rfl rfl ?_
              refine .off (t := 43) rfl rfl rfl ?_
              refine .off (t := 43) rfl rfl rfl ?_
              refine .off (t := 43) rfl rfl rfl ?_
              refine .rd (.pickF rfl rfl) ?_
              refine .nil ⟨rfl, ?_, rfl, by repeat (first | exact Le.refl _ | refine Le.skip rfl ?_)⟩
              exact congrArg (fun x => some (Value.bool x)) (Eq.symm (show ((rdI (rdNums rdNZ has k q).2).2.2 && nz (rdI (rdNums rdNZ has k q).2).1) = _ by (rw [g11]) <;> rfl))
          refine .rd (.nilCheck rfl) ?_
          refine .rd (.fieldAddr fd90_1 rfl) ?_
          refine .ef0 (.store ts4 rfl rfl (.tail .head) rfl (Nat.le_of_ble_eq_true rfl)) ?_
          rintro _ _ rfl
          refine .nil ?_
          have hs1 : rdNums rdNZ has (k + 1) q = ((rdNums rdNZ has k q).1 ++ [(rdI (rdNums rdNZ has k q).2).1], (rdNZ (rdNums rdNZ has k q).2).2) := by rw [rdNums, rdOpt_true h9]; rfl
          refine .cast (X' := blk r [.string (str (rdNums rdNZ has (k + 1) q).2.1), .bool (rdNums rdNZ has (k + 1) q).2.2] 90) (by rw [hs1]; rfl) ?_
          refine .perm (.cons (.tail (.tail .head)) (.cons .head (.cons .head (.cons .head (.cons .head (.cons .head .nil)))))) ?_
          refine .cast (X' := blk b4 (.int .i64 k1 :: (nvec 14 (rdNums rdNZ has (k + 1) q).1 ++ [.int .i64 0, .string ⟨#[]⟩, .string ⟨#[]⟩, .slice none 0 0, .slice none 0 0, .slice none 0 0])) 54) (by rw [hs1]; exact (congrArg (fun l => blk b4 (.int .i64 k1 :: (l ++ _)) 54) (nvec_last (by omega) _).symm)) ?_
          refine .perm (.cons (.tail (.tail .head)) (.cons .head (.cons .head (.cons .head (.cons .head (.cons .head .nil)))))) ?_
          refine .cast (X' := blk b6 [.int .i64 ((rdNums rdNZ has (k + 1) q).1.getD 14 0)] 3) (by rw [hs1, getD_snoc _ (hxl.trans hk14)]; rfl) ?_
          refine .inBlock ?_
          refine .region ?_
          refine .rd (.add rfl rfl (by omega) (by omega)) ?_
          refine .rd (.move rfl) ?_
          refine .nil ?_
          exact (ih (k + 1) (by omega) (by omega)).to (.cons rfl (.cons rfl (.cons rfl (.cons rfl (.cons rfl (.cons rfl (.cons rfl (.cons rfl .nil)))))))) (.cons (.tail (.tail .head)) (.cons (.tail .head) (.cons .head (.cons .head (.cons .head (.cons .head .nil))))))
      · have hs1 : rdNums rdNZ has (k + 1) q = ((rdNums rdNZ has k q).1 ++ [0], (rdNums rdNZ has k q).2) := by rw [rdNums, rdOpt_false h9]
        refine .cast (X' := blk r [.string (str (rdNums rdNZ has (k + 1) q).2.1), .bool (rdNums rdNZ has (k + 1) q).2.2] 90) (by rw [hs1]) ?_
        refine .perm (.cons (.tail .head) (.cons .head (.cons .head (.cons .head (.cons .head (.cons .head .nil)))))) ?_
        refine .cast (X' := blk b4 (.int .i64 k1 :: (nvec 14 (rdNums rdNZ has (k + 1) q).1 ++ [.int .i64 0, .string ⟨#[]⟩, .string ⟨#[]⟩, .slice none 0 0, .slice none 0 0, .slice none 0 0])) 54) (by rw [hs1]; by_cases hk : k < 14; exact (congrArg (fun l => blk b4 (.int .i64 k1 :: (l ++ _)) 54) (nvec_zero (by omega)).symm); exact (congrArg (fun l => blk b4 (.int .i64 k1 :: (l ++ _)) 54) (nvec_last (by omega) 0).symm)) ?_
        refine .perm (.cons (.tail (.tail .head)) (.cons .head (.cons .head (.cons .head (.cons .head (.cons .head .nil)))))) ?_
        refine .cast (X' := blk b6 [.int .i64 ((rdNums rdNZ has (k + 1) q).1.getD 14 0)] 3) (by rw [hs1]; by_cases hk : k < 14; rw [getD_short (by omega), getD_short (by rw [List.length_append]; show _ + 1 ≤ 14; omega)]; rw [getD_short (by omega), getD_snoc 0 (by omega)]) ?_
        refine .skip ?_
        refine .inBlock ?_
        refine .region ?_
        refine .rd (.add rfl rfl (by omega) (by omega)) ?_
        refine .rd (.move rfl) ?_
        refine .nil ?_
        exact (ih (k + 1) (by omega) (by omega)).to (.cons rfl (.cons rfl (.cons rfl (.cons rfl (.cons rfl (.cons rfl (.cons rfl (.cons rfl .nil)))))))) (.cons (.tail (.tail .head)) (.cons (.tail .head) (.cons .head (.cons .head (.cons .head (.cons .head .nil))))))
    · obtain rfl : k = 15 := by omega
      obtain ⟨x0, x1, x2, x3, x4, x5, x6, x7, x8, x9, x10, x11, x12, x13, x14, hx⟩ := fifteen hxl
      refine .perm (.cons (.tail .head) (.cons .head (.cons .head (.cons .head (.cons .head (.cons .head .nil)))))) ?_
      refine .cast (X' := blk b4 (⟨k1, x0, x1, x2, x3, x4, x5, x6, x7, x8, x9, x10, x11, x12, x13, 0, [], [], none, 0, [], none, 0, [], none, 0, []⟩ : MsgM).cells 54) (by rw [hx]; rfl) ?_
      refine .perm (.cons (.tail (.tail .head)) (.cons .head (.cons .head (.cons .head (.cons .head (.cons .head .nil)))))) ?_
      refine .cast (X' := blk b6 [.int .i64 x14] 3) (by rw [hx]; rfl) ?_
      refine .exit rfl ?_
      refine .seq ?_
      refine .region ?_
      refine .rd (.ld na3 rfl .head rfl) ?_
      refine .rd (.fieldAddr fd54_15 rfl) ?_
      refine .ef0 (.store ts28 rfl rfl (.tail .head) rfl (Nat.le_of_ble_eq_true rfl)) ?_
      rintro _ _ rfl
      refine .nil ?_
      refine .seq ?_
      refine .seq ?_
      refine .region ?_
      refine .rd (.fieldAddr fd54_16 rfl) ?_
      refine .rd (.fieldAddr fd54_17 rfl) ?_
      refine .ef (.buildSlice (n := 2) (cs := [.pointer (some ⟨b4, 16, none⟩), .pointer (some ⟨b4, 17, none⟩)]) Try.underlying111 ti110 rfl (by decide) (fill2p _ _) (ones.of rfl)) ?_
      rintro _ _ ⟨bs, rfl, rfl⟩
      refine .rd (.lenL rfl rfl Try.underlying111 rfl) ?_
      refine .rd (.move rfl) ?_
      refine .nil ?_
      refine .perm (.cons (.tail .head) (.cons .head (.cons .head (.cons .head (.cons .head (.cons .head (.cons .head .nil))))))) ?_
      refine .cast (X' := blk b4 (MsgM.cells (MsgM.wT (⟨k1, x0, x1, x2, x3, x4, x5, x6, x7, x8, x9, x10, x11, x12, x13, x14, [], [], none, 0, [], none, 0, [], none, 0, []⟩ : MsgM) (rdTxs has 0 (rdNums rdNZ has 15 q).2).1)) 54) (rfl) ?_
      refine .block ?_
      refine .loop (σ := Nat) (fun j => j ≤ 2) (fun j => 2 - j) (fun j => [(0, .pointer (some ⟨r, 0, none⟩)), (2, .pointer (some ⟨b2, 0, none⟩)), (4, .pointer (some ⟨b4, 0, none⟩)), (5, .int .i64 (has : Nat)), (56, .slice (some ⟨bs, 0, none⟩) 2 2), (57, .int .i64 2), (58, .int .i64 (j : Nat))]) (fun j => [blk r [.string (str (rdTxs has j (rdNums rdNZ has 15 q).2).2.1), .bool (rdTxs has j (rdNums rdNZ has 15 q).2).2.2] 90, blk b4 (MsgM.cells (MsgM.wT (⟨k1, x0, x1, x2, x3, x4, x5, x6, x7, x8, x9, x10, x11, x12, x13, x14, [], [], none, 0, [], none, 0, [], none, 0, []⟩ : MsgM) (rdTxs has j (rdNums rdNZ has 15 q).2).1)) 54, blk bs [.pointer (some ⟨b4, 16, none⟩), .pointer (some ⟨b4, 17, none⟩)] 110, blk b2 zeroMM.cells 54, R]) 0 (by omega) (.cons rfl (.cons rfl (.cons rfl (.cons rfl (.cons rfl (.cons rfl (.cons rfl .nil))))))) (.cons (.tail (.tail (.tail .head))) (.cons .head (.cons .head (.cons (.tail (.tail .head)) (.cons (.tail (.tail .head)) .nil))))) (fun j hI ih => ?_)
      have hj2 := hI
      have htl := rdTxs_len has j (rdNums rdNZ has 15 q).2
      have hcl2 := rdTxs_short (has := has) j (rdNums rdNZ has 15 q).2
      refine .seq ?_
      refine .region ?_
      refine .rd (.lt rfl rfl) ?_
      refine .nil ?_
      refine .seq ?_
      refine .condP rfl (fun h15 => ?_) (fun h15 => ?_)
      · refine .skip ?_
        refine .seq ?_
        refine .block ?_
        refine .seq ?_
        refine .region ?_
        refine .rd (.move rfl) ?_
        refine .rd (.indexAddr Try.underlying111 ts110 rfl rfl (by omega) (by omega)) ?_
        refine .rd (.ld na110 rfl (.tail (.tail .head)) (by rw [Nat.zero_add, Int.toNat_natCast, Nat.mul_one]; exact two_at b4 (by omega))) ?_
        refine .rd (.assign rfl) ?_
        refine .rd (.assign rfl) ?_
        refine .nil ?_
        refine .seq ?_
        refine .region ?_
        refine .rd (.move rfl) ?_
        refine .rd (.move rfl) ?_
        refine .rd (.add rfl rfl (by omega) (by omega)) ?_
        refine .alter (t := 65) (v' := .int .i64 ((15 + j : Nat) : Int)) rfl (by rw [Int.natCast_add]; rfl) ?_
        refine .rd (.shr (n := 15 + j) rfl rfl) ?_
        refine .rd (.and rfl rfl) ?_
        refine .alter (t := 67) (v' := .int .i64 ((has / 2 ^ (15 + j) % 2 : Nat) : Int)) rfl (congrArg (Value.int .i64) (bit_and hhl (by omega))) ?_
        refine .rd (.eqI rfl rfl) ?_
        refine .alter (t := 68) (v' := .bool (bit has (15 + j))) rfl (bit_eq has (15 + j)) ?_
        refine .nil ?_
        refine .cond rfl (fun h17 => ?_) (fun h17 => ?_)
        · refine .seq ?_
          refine .region ?_
          refine .rd (.move rfl) ?_
          refine .rd (.move rfl) ?_
          refine .fn rfl rfl (.cons .head .nil) (fun _ _ _ => trivial) (rd4text_ok r (rdTxs has j (rdNums rdNZ has 15 q).2).2 (by omega) (by omega)) (fun v G1 hq => ?_)
          obtain ⟨rfl, rfl⟩ := hq
          simp only [List.cons_append, List.nil_append]
          refine .rd (.nilCheck rfl) ?_
          refine .ef0 (.store ts9 rfl rfl (.tail .head) rfl (by show 16 + j + 1 ≤ 21; omega)) ?_
          rintro _ _ rfl
          refine .cast (X' := blk b4 (MsgM.cells (MsgM.wT (⟨k1, x0, x1, x2, x3, x4, x5, x6, x7, x8, x9, x10, x11, x12, x13, x14, [], [], none, 0, [], none, 0, [], none, 0, []⟩ : MsgM) ((rdTxs has j (rdNums rdNZ has 15 q).2).1 ++ [(rdT 65536 (rdTxs has j (rdNums rdNZ has 15 q).2).2).1]))) 54) (congrArg (fun l => blk b4 l 54) (by have := wT_set (m := (⟨k1, x0, x1, x2, x3, x4, x5, x6, x7, x8, x9, x10, x11, x12, x13, x14, [], [], none, 0, [], none, 0, [], none, 0, []⟩ : MsgM)) (ts := (rdTxs has j (rdNums rdNZ has 15 q).2).1) (by omega) (rdT 65536 (rdTxs has j (rdNums rdNZ has 15 q).2).2).1; rwa [htl] at this)) ?_
          refine .nil ?_
          refine .region ?_
          refine RunO.join2 11 83 ((rdT 65536 (rdTxs has j (rdNums rdNZ has 15 q).2).2).2.2 && !decide ((rdT 65536 (rdTxs has j (rdNums rdNZ has 15 q).2).2).1 = [])) 73 (.pointer (some ⟨r, 0, none⟩)) ?_ ?_
          · refine .rd (.move rfl) ?_
            refine .rd (.move rfl) ?_
            refine .rd (.nilCheck rfl) ?_
            refine .rd (.fieldAddr fd90_1 rfl) ?_
            refine .rd (.ld na4 rfl (.tail .head) rfl) ?_
            refine .rd (.move rfl) ?_
            refine .split (t := 78) rfl (fun g19 => ?_) (fun g19 => ?_)
            · refine .on (t := 78) rfl rfl ?_
              refine .rd (.move rfl) ?_
              refine .on (t := 78) rfl rfl ?_
              refine .rd (.nilCheck rfl) ?_
              refine .on (t := 78) rfl rfl ?_
              refine .rd (.ld na9 rfl .head (by have := wT_get (m := (⟨k1, x0, x1, x2, x3, x4, x5, x6, x7, x8, x9, x10, x11, x12, x13, x14, [], [], none, 0, [], none, 0, [], none, 0, []⟩ : MsgM)) (ts := (rdTxs has j (rdNums rdNZ has 15 q).2).1) (by omega) (rdT 65536 (rdTxs has j (rdNums rdNZ has 15 q).2).2).1; rwa [htl] at this)) ?_
              refine .on (t := 78) rfl rfl ?_
              refine .rd (.neT (m := []) rfl rfl) ?_
              refine .rd (.pickT rfl rfl) ?_
              refine .nil ⟨rfl, ?_, rfl, by repeat (first | exact Le.refl _ | refine Le.skip rfl ?_)⟩
              exact congrArg (fun x => some (Value.bool x)) (Eq.symm (show ((rdT 65536 (rdTxs has j (rdNums rdNZ has 15 q).2).2).2.2 && !decide ((rdT 65536 (rdTxs has j (rdNums rdNZ has 15 q).2).2).1 = [])) = _ by (rw [g19]) <;> rfl))
            · refine .off (t := 78) rfl rfl rfl ?_
              refine .off (t := 78) rfl rfl rfl ?_
              refine .off (t := 78) rfl rfl rfl ?_
              refine .off (t := 78) rfl rfl rfl ?_
              refine .rd (.pickF rfl rfl) ?_
              refine .nil ⟨rfl, ?_, rfl, by repeat (first | exact Le.refl _ | refine Le.skip rfl ?_)⟩
              exact congrArg (fun x => some (Value.bool x)) (Eq.symm (show ((rdT 65536 (rdTxs has j (rdNums rdNZ has 15 q).2).2).2.2 && !decide ((rdT 65536 (rdTxs has j (rdNums rdNZ has 15 q).2).2).1 = [])) = _ by (rw [g19]) <;> rfl))
          refine .rd (.nilCheck rfl) ?_
          refine .rd (.fieldAddr fd90_1 rfl) ?_
          refine .ef0 (.store ts4 rfl rfl (.tail .head) rfl (Nat.le_of_ble_eq_true rfl)) ?_
          rintro _ _ rfl
          refine .nil ?_
          have hs1 : rdTxs has (j + 1) (rdNums rdNZ has 15 q).2 = ((rdTxs has j (rdNums rdNZ has 15 q).2).1 ++ [(rdT 65536 (rdTxs has j (rdNums rdNZ has 15 q).2).2).1], (rdTx (rdTxs has j (rdNums rdNZ has 15 q).2).2).2) := by rw [rdTxs, rdOpt_true h17]; rfl
          refine .cast (X' := blk r [.string (str (rdTxs has (j + 1) (rdNums rdNZ has 15 q).2).2.1), .bool (rdTxs has (j + 1) (rdNums rdNZ has 15 q).2).2.2] 90) (by rw [hs1]; rfl) ?_
          refine .perm (.cons (.tail .head) (.cons .head (.cons .head (.cons .head (.cons .head .nil))))) ?_
          refine .cast (X' := blk b4 (MsgM.cells (MsgM.wT (⟨k1, x0, x1, x2, x3, x4, x5, x6, x7, x8, x9, x10, x11, x12, x13, x14, [], [], none, 0, [], none, 0, [], none, 0, []⟩ : MsgM) (rdTxs has (j + 1) (rdNums rdNZ has 15 q).2).1)) 54) (by rw [hs1]) ?_
          refine .inBlock ?_
          refine .region ?_
          refine .rd (.add rfl rfl (by omega) (by omega)) ?_
          refine .rd (.move rfl) ?_
          refine .nil ?_
          exact (ih (j + 1) (by omega) (by omega)).to (.cons rfl (.cons rfl (.cons rfl (.cons rfl (.cons rfl (.cons rfl (.cons rfl .nil))))))) (.cons (.tail .head) (.cons .head (.cons .head (.cons .head (.cons .head .nil)))))
        · have hs1 : rdTxs has (j + 1) (rdNums rdNZ has 15 q).2 = ((rdTxs has j (rdNums rdNZ has 15 q).2).1 ++ [[]], (rdTxs has j (rdNums rdNZ has 15 q).2).2) := by rw [rdTxs, rdOpt_false h17]
          refine .cast (X' := blk r [.string (str (rdTxs has (j + 1) (rdNums rdNZ has 15 q).2).2.1), .bool (rdTxs has (j + 1) (rdNums rdNZ has 15 q).2).2.2] 90) (by rw [hs1]) ?_
          refine .perm (.cons (.tail .head) (.cons .head (.cons .head (.cons .head (.cons .head .nil))))) ?_
          refine .cast (X' := blk b4 (MsgM.cells (MsgM.wT (⟨k1, x0, x1, x2, x3, x4, x5, x6, x7, x8, x9, x10, x11, x12, x13, x14, [], [], none, 0, [], none, 0, [], none, 0, []⟩ : MsgM) (rdTxs has (j + 1) (rdNums rdNZ has 15 q).2).1)) 54) (by rw [hs1, wT_none (by omega)]) ?_
          refine .skip ?_
          refine .inBlock ?_
          refine .region ?_
          refine .rd (.add rfl rfl (by omega) (by omega)) ?_
          refine .rd (.move rfl) ?_
          refine .nil ?_
          exact (ih (j + 1) (by omega) (by omega)).to (.cons rfl (.cons rfl (.cons rfl (.cons rfl (.cons rfl (.cons rfl (.cons rfl .nil))))))) (.cons (.tail .head) (.cons .head (.cons .head (.cons .head (.cons .head .nil)))))
      · obtain rfl : j = 2 := by omega
        refine .exit rfl ?_
        refine .seq ?_
        refine .region ?_
        refine .rd (.move rfl) ?_
        refine .rd (.move rfl) ?_
        refine .fn rfl rfl (.cons .head (.cons .head .nil)) (fun _ _ _ => trivial) (lists_ok r b4 has hhl (rdTxs has 2 (rdNums rdNZ has 15 q).2).2 (by omega) (MsgM.wT (⟨k1, x0, x1, x2, x3, x4, x5, x6, x7, x8, x9, x10, x11, x12, x13, x14, [], [], none, 0, [], none, 0, [], none, 0, []⟩ : MsgM) (rdTxs has 2 (rdNums rdNZ has 15 q).2).1) rfl rfl rfl) (fun v G1 hq => ?_)
        obtain ⟨ba, bc, bl, ea, ec, ia, ic, hbm, rfl⟩ := hq
        simp only [List.cons_append, List.nil_append]
        refine .nil ?_
        refine .seq ?_
        obtain ⟨m4, hm4⟩ : ∃ m4, m4 = (((((MsgM.wT (⟨k1, x0, x1, x2, x3, x4, x5, x6, x7, x8, x9, x10, x11, x12, x13, x14, [], [], none, 0, [], none, 0, [], none, 0, []⟩ : MsgM) (rdTxs has 2 (rdNums rdNZ has 15 q).2).1)).wB ba bc bl).wE ea ec (rdOpt (bit has 18) (rdL 64 rdE) [] (rdOpt (bit has 17) (rdL 64 rdB) [] (rdTxs has 2 (rdNums rdNZ has 15 q).2).2).2).1).wI ia ic (rdOpt (bit has 19) (rdL 256 rdI) [] (rdOpt (bit has 18) (rdL 64 rdE) [] (rdOpt (bit has 17) (rdL 64 rdB) [] (rdTxs has 2 (rdNums rdNZ has 15 q).2).2).2).2).1) := ⟨_, rfl⟩
        have hbody : rdBody k1 has q = (m4.msg, (rdLists has (rdTxs has 2 (rdNums rdNZ has 15 q).2).2).2) := by
          rw [rdBody_eq, hx, hm4]
          show (mk k1 _ _ _ _ _ _, _) = (Msg.mk k1 _ _ _ _ (bl.map (·.1)) _ _, _)
          rw [hbm]; rfl
        have hgood := rdBody_good hki has q
        rw [hbody] at hgood
        have hf := hgood.fits
        rw [hbody] at hin
        refine .perm (.cons (.tail .head) (.cons .head (.cons .head (.cons .head (.cons .head (.cons .head .nil)))))) ?_
        refine .cast (X' := blk b4 m4.cells 54) (by rw [hm4]) ?_
        refine .perm (.cons (.tail (.tail .head)) (.cons .head (.cons .head (.cons .head (.cons .head (.cons .head .nil)))))) ?_
        refine .cast (X' := know m4.at_) (by rw [hm4]) ?_
        refine .draws [0, 4, 9, 13] [blk r [.string (str (rdLists has (rdTxs has 2 (rdNums rdNZ has 15 q).2).2).2.1), .bool (rdLists has (rdTxs has 2 (rdNums rdNZ has 15 q).2).2).2.2] 90, blk b4 m4.cells 54] (by kernel_rfl) ?_
        refine .rd 0 rfl rfl (by kernel_rfl) (by kernel_rfl) (by kernel_rfl) (.ldN ia54 ts54 rfl (.tail .head) rfl) (.cons (.tail (.tail .head)) (.cons (.tail .head) .nil)) ?_
        refine .rp 1 rfl (by kernel_rfl) (by kernel_rfl) (by kernel_rfl) (Reads.pure (.move rfl)) ?_
        refine .rp 2 rfl (by kernel_rfl) (by kernel_rfl) (by kernel_rfl) (Reads.pure (.nilCheck rfl)) ?_
        refine .rp 3 rfl (by kernel_rfl) (by kernel_rfl) (by kernel_rfl) (Reads.pure (.fieldAddr fd90_1 rfl)) ?_
        refine .rd 4 rfl rfl (by kernel_rfl) (by kernel_rfl) (by kernel_rfl) (.ld na4 rfl .head rfl) (.cons (.tail (.tail .head)) (.cons (.tail .head) .nil)) ?_
        refine .rp 5 rfl (by kernel_rfl) (by kernel_rfl) (by kernel_rfl) (Reads.pure (.move rfl)) ?_
        refine .split (t := 95) rfl (fun g5 => ?_) (fun g5 => ?_)
        · refine .rpG 6 (t := 95) rfl rfl rfl (by kernel_rfl) (by kernel_rfl) (by kernel_rfl) (Reads.pure (.move rfl)) ?_
          refine .rpG 7 (t := 95) rfl rfl rfl (by kernel_rfl) (by kernel_rfl) (by kernel_rfl) (Reads.pure (.nilCheck rfl)) ?_
          refine .rpG 8 (t := 95) rfl rfl rfl (by kernel_rfl) (by kernel_rfl) (by kernel_rfl) (Reads.pure (.fieldAddr fd90_0 rfl)) ?_
          refine .rdG 9 (t := 95) rfl rfl rfl rfl (by kernel_rfl) (by kernel_rfl) (by kernel_rfl) (.ld na9 rfl .head rfl) (.cons (.tail (.tail .head)) (.cons (.tail .head) .nil)) ?_
          refine .rpG 10 (t := 95) rfl rfl rfl (by kernel_rfl) (by kernel_rfl) (by kernel_rfl) (Reads.pure (.eqT (m := []) rfl rfl)) ?_
          refine .rp 11 rfl (by kernel_rfl) (by kernel_rfl) (by kernel_rfl) (Reads.pure (.pickT rfl rfl)) ?_
          refine .rp 12 rfl (by kernel_rfl) (by kernel_rfl) (by kernel_rfl) (Reads.pure (.move rfl)) ?_
          refine .split (t := 102) rfl (fun g12 => ?_) (fun g12 => ?_)
          · replace g12 := of_decide_eq_true g12
            refine .rdG 13 (t := 102) rfl rfl rfl rfl (by kernel_rfl) (by kernel_rfl) (by kernel_rfl) (.ldN ia54 ts54 rfl (.tail .head) rfl) (.cons (.tail (.tail .head)) (.cons (.tail .head) .nil)) ?_
            refine .efG 14 (t := 102) (by kernel_rfl) rfl rfl rfl (.fn rfl rfl .nil (Knows.know .head) (Right4_ok m4 hf)) ?_
            rintro v _ ⟨G1, hq, rfl⟩
            obtain ⟨rfl, rfl⟩ := hq
            simp only [List.nil_append]
            refine ⟨.inr ⟨_, (.cons (.tail (.tail .head)) (.cons (.tail .head) .nil))⟩, ?_⟩
            refine .rpG 15 (t := 102) rfl rfl rfl (by kernel_rfl) (by kernel_rfl) (by kernel_rfl) (Reads.pure (.eqI rfl rfl)) ?_
            refine .rp 16 rfl (by kernel_rfl) (by kernel_rfl) (by kernel_rfl) (Reads.pure (.pickT rfl rfl)) ?_
            refine .ef0 17 (by kernel_rfl) rfl (.storeAll (vs := m4.cells) ts54 rfl rfl rfl (.tail (.tail (.tail (.tail .head)))) rfl (ones.of rfl)) ?_
            rintro _ _ rfl
            refine ⟨.inl (by kernel_rfl), ?_⟩
            refine .rp 18 rfl (by kernel_rfl) (by kernel_rfl) (by kernel_rfl) (Reads.pure (.assign rfl)) ?_
            refine .done (by kernel_rfl) ?_
            refine .retP Try.func59 (.cons (.blkN ia54 ts54 rfl .head rfl) (.cons (.tmp rfl) .nil)) (.cons (.tail (.tail (.tail .head))) (.cons (.tail .head) (.cons (.tail (.tail (.tail .head))) .nil))) ?_
            exact ⟨[_, _], ⟨m4, decide (right4 m4.msg = 0), rfl, by rw [hin]; exact ⟨fun h => ⟨g5, g12, of_decide_eq_true h⟩, fun h => decide_eq_true h.2.2⟩, fun _ => by rw [hin], (rdLists has (rdTxs has 2 (rdNums rdNZ has 15 q).2).2).2, rfl⟩, rfl⟩
          · replace g12 := of_decide_eq_false g12
            refine .off 13 (t := 102) rfl rfl rfl rfl (by kernel_rfl) (by kernel_rfl) (by kernel_rfl) ?_
            refine .off 14 (t := 102) rfl rfl rfl rfl (by kernel_rfl) (by kernel_rfl) (by kernel_rfl) ?_
            refine .off 15 (t := 102) rfl rfl rfl rfl (by kernel_rfl) (by kernel_rfl) (by kernel_rfl) ?_
            refine .rp 16 rfl (by kernel_rfl) (by kernel_rfl) (by kernel_rfl) (Reads.pure (.pickF rfl rfl)) ?_
            refine .ef0 17 (by kernel_rfl) rfl (.storeAll (vs := m4.cells) ts54 rfl rfl rfl (.tail (.tail (.tail (.tail .head)))) rfl (ones.of rfl)) ?_
            rintro _ _ rfl
            refine ⟨.inl (by kernel_rfl), ?_⟩
            refine .rp 18 rfl (by kernel_rfl) (by kernel_rfl) (by kernel_rfl) (Reads.pure (.assign rfl)) ?_
            refine .done (by kernel_rfl) ?_
            refine .retP Try.func59 (.cons (.blkN ia54 ts54 rfl .head rfl) (.cons (.tmp rfl) .nil)) (.cons (.tail (.tail (.tail .head))) (.cons (.tail .head) (.cons (.tail (.tail (.tail .head))) .nil))) ?_
            exact ⟨[_, _], ⟨m4, false, rfl, by rw [hin]; exact ⟨fun h => (by cases h), fun h => absurd h.2.1 g12⟩, fun _ => by rw [hin], (rdLists has (rdTxs has 2 (rdNums rdNZ has 15 q).2).2).2, rfl⟩, rfl⟩
        · refine .off 6 (t := 95) rfl rfl rfl rfl (by kernel_rfl) (by kernel_rfl) (by kernel_rfl) ?_
          refine .off 7 (t := 95) rfl rfl rfl rfl (by kernel_rfl) (by kernel_rfl) (by kernel_rfl) ?_
          refine .off 8 (t := 95) rfl rfl rfl rfl (by kernel_rfl) (by kernel_rfl) (by kernel_rfl) ?_
          refine .off 9 (t := 95) rfl rfl rfl rfl (by kernel_rfl) (by kernel_rfl) (by kernel_rfl) ?_
          refine .off 10 (t := 95) rfl rfl rfl rfl (by kernel_rfl) (by kernel_rfl) (by kernel_rfl) ?_
          refine .rp 11 rfl (by kernel_rfl) (by kernel_rfl) (by kernel_rfl) (Reads.pure (.pickF rfl rfl)) ?_
          refine .rp 12 rfl (by kernel_rfl) (by kernel_rfl) (by kernel_rfl) (Reads.pure (.move rfl)) ?_
          refine .off 13 (t := 102) rfl rfl rfl rfl (by kernel_rfl) (by kernel_rfl) (by kernel_rfl) ?_
          refine .off 14 (t := 102) rfl rfl rfl rfl (by kernel_rfl) (by kernel_rfl) (by kernel_rfl) ?_
          refine .off 15 (t := 102) rfl rfl rfl rfl (by kernel_rfl) (by kernel_rfl) (by kernel_rfl) ?_
          refine .rp 16 rfl (by kernel_rfl) (by kernel_rfl) (by kernel_rfl) (Reads.pure (.pickF rfl rfl)) ?_
          refine .ef0 17 (by kernel_rfl) rfl (.storeAll (vs := m4.cells) ts54 rfl rfl rfl (.tail (.tail (.tail (.tail .head)))) rfl (ones.of rfl)) ?_
          rintro _ _ rfl
          refine ⟨.inl (by kernel_rfl), ?_⟩
          refine .rp 18 rfl (by kernel_rfl) (by kernel_rfl) (by kernel_rfl) (Reads.pure (.assign rfl)) ?_
          refine .done (by kernel_rfl) ?_
          refine .retP Try.func59 (.cons (.blkN ia54 ts54 rfl .head rfl) (.cons (.tmp rfl) .nil)) (.cons (.tail (.tail (.tail .head))) (.cons (.tail .head) (.cons (.tail (.tail (.tail .head))) .nil))) ?_
          exact ⟨[_, _], ⟨m4, false, rfl, by rw [hin]; exact ⟨fun h => (by cases h), fun h => (by rw [g5] at h; cases h.1)⟩, fun _ => by rw [hin], (rdLists has (rdTxs has 2 (rdNums rdNZ has 15 q).2).2).2, rfl⟩, rfl⟩

end Go.Proofs.Ytllpkagplfmlbaa


namespace Go.Proofs.Ytllpkagplfmlbaa
open Go Go.Sp

set_option linter.unusedVariables false

namespace rpc8
theorem ti54 : TI Try.prog 54 21 232 (.agg #[.int .i64 0, .int .i64 0, .int .i64 0, .int .i64 0, .int .i64 0, .int .i64 0, .int .i64 0, .int .i64 0, .int .i64 0, .int .i64 0, .int .i64 0, .int .i64 0, .int .i64 0, .int .i64 0, .int .i64 0, .int .i64 0, .string ⟨#[]⟩, .string ⟨#[]⟩, .slice none 0 0, .slice none 0 0, .slice none 0 0]) := .of (by kernel_rfl)
theorem bld54_  (w : World) : (Instr.build 54 (([] : List Nat).zip []).toArray).run Try.prog w = .ok (.agg #[.int .i64 0, .int .i64 0, .int .i64 0, .int .i64 0, .int .i64 0, .int .i64 0, .int .i64 0, .int .i64 0, .int .i64 0, .int .i64 0, .int .i64 0, .int .i64 0, .int .i64 0, .int .i64 0, .int .i64 0, .int .i64 0, .string ⟨#[]⟩, .string ⟨#[]⟩, .slice none 0 0, .slice none 0 0, .slice none 0 0]) w := by kernel_rfl
theorem ts54 : TS Try.prog 54 21 := .of (by kernel_rfl)
theorem ia54 : IsAgg Try.prog 54 := ⟨_, Try.underlying54, trivial⟩
theorem bld90_0_1 (x0 : ByteArray) (x1 : Bool) (w : World) : (Instr.build 90 (([0, 1] : List Nat).zip [.string x0, .bool x1]).toArray).run Try.prog w = .ok (.agg #[.string x0, .bool x1]) w := by kernel_rfl
theorem fd54_0 : FD Try.prog 54 0 0 := .of Try.underlying54 (by kernel_rfl)
theorem na3 : NotAgg Try.prog 3 := ⟨_, Try.underlying3, trivial⟩
theorem fd54_2 : FD Try.prog 54 2 2 := .of Try.underlying54 (by kernel_rfl)
theorem fd54_1 : FD Try.prog 54 1 1 := .of Try.underlying54 (by kernel_rfl)
theorem fd54_3 : FD Try.prog 54 3 3 := .of Try.underlying54 (by kernel_rfl)
theorem fd54_4 : FD Try.prog 54 4 4 := .of Try.underlying54 (by kernel_rfl)
theorem bld54_0_1_2_3_4_15 (x0 : Int) (x1 : Int) (x2 : Int) (x3 : Int) (x4 : Int) (x5 : Int) (w : World) : (Instr.build 54 (([0, 1, 2, 3, 4, 15] : List Nat).zip [.int .i64 x0, .int .i64 x1, .int .i64 x2, .int .i64 x3, .int .i64 x4, .int .i64 x5]).toArray).run Try.prog w = .ok (.agg #[.int .i64 x0, .int .i64 x1, .int .i64 x2, .int .i64 x3, .int .i64 x4, .int .i64 0, .int .i64 0, .int .i64 0, .int .i64 0, .int .i64 0, .int .i64 0, .int .i64 0, .int .i64 0, .int .i64 0, .int .i64 0, .int .i64 x5, .string ⟨#[]⟩, .string ⟨#[]⟩, .slice none 0 0, .slice none 0 0, .slice none 0 0]) w := by kernel_rfl
end rpc8
open rpc8



set_option maxHeartbeats 1000000 in
set_option maxRecDepth 20000 in
theorem Decode_ok (s : List UInt8) (hl : s.length ≤ 9000000000000000000) : Cn Try.prog 35 [.string (str s)] (fun _ => True) [] fun v G => ∃ m : MsgM, v = .tuple #[.agg m.cells.toArray, .int .i64 (decode4 s).2] ∧ m.msg = (decode4 s).1 ∧ G = [know m.at_] := by
  refine .enter Try.func35 rfl (by kernel_rfl) rfl fun R k => ?_
  refine .seq ?_
  refine .region ?_
  refine .ef (.alloc ti54 rfl (ones.of rfl)) ?_
  rintro _ _ ⟨b2, rfl, rfl⟩
  refine .rd (.assign rfl) ?_
  refine .nil ?_
  refine .seq ?_
  refine .seq ?_
  refine .region ?_
  refine .rd (.move rfl) ?_
  refine .rd (.lenT rfl rfl Try.underlying9 rfl) ?_
  refine .rd (.lt rfl rfl) ?_
  refine .nil ?_
  refine .condP rfl (fun h1 => ?_) (fun h1 => ?_)
  · refine .seq ?_
    refine .region ?_
    refine .rd (.build rfl (bld54_)) ?_
    refine .ef0 (.storeAll (vs := zeroMM.cells) ts54 rfl rfl rfl .head rfl (ones.of rfl)) ?_
    rintro _ _ rfl
    refine .rd (.assign rfl) ?_
    refine .nil ?_
    have hd := decode_short (b := s) (by omega)
    refine .knowT (zeroMM.at_) (zeroMM_at) ?_
    refine .retP Try.func35 (.cons (.blkN ia54 ts54 rfl (.tail .head) rfl) (.cons (.tmp rfl) .nil)) (.cons .head (.cons (.tail .head) .nil)) ?_
    exact ⟨[_], ⟨zeroMM, by rw [hd]; rfl, by rw [hd]; rfl, rfl⟩, rfl⟩
  · refine .skip ?_
    refine .seq ?_
    refine .region ?_
    refine .rd (.move rfl) ?_
    refine .fn rfl rfl .nil (fun _ _ _ => trivial) (number_ok s (by omega)) (fun v G1 hq => ?_)
    obtain ⟨rfl, rfl⟩ := hq
    simp only [List.nil_append]
    refine .rd (.assign rfl) ?_
    refine .nil ?_
    refine .seq ?_
    refine .block ?_
    refine .seq ?_
    refine .region ?_
    refine .rd (.move rfl) ?_
    refine .rd (.gt rfl rfl) ?_
    refine .rd (.assign rfl) ?_
    refine .nil ?_
    refine .condP rfl (fun h4 => ?_) (fun h4 => ?_)
    · refine .seq ?_
      refine .region ?_
      refine .rd (.build rfl (bld54_)) ?_
      refine .ef0 (.storeAll (vs := zeroMM.cells) ts54 rfl rfl rfl .head rfl (ones.of rfl)) ?_
      rintro _ _ rfl
      refine .rd (.assign rfl) ?_
      refine .nil ?_
      have hd := decode_long (b := s) (by omega) (by omega)
      refine .knowT (zeroMM.at_) (zeroMM_at) ?_
      refine .retP Try.func35 (.cons (.blkN ia54 ts54 rfl (.tail .head) rfl) (.cons (.tmp rfl) .nil)) (.cons .head (.cons (.tail .head) .nil)) ?_
      exact ⟨[_], ⟨zeroMM, by rw [hd]; rfl, by rw [hd]; rfl, rfl⟩, rfl⟩
    · refine .seq ?_
      refine .region ?_
      refine .rd (.move rfl) ?_
      refine .rd (.lenT rfl rfl Try.underlying9 rfl) ?_
      refine .rd (.move rfl) ?_
      refine .rd (.add rfl rfl (by omega) (by omega)) ?_
      refine .alter (t := 21) (v' := .int .i64 ((8 + four s : Nat) : Int)) rfl (by rw [Int.natCast_add]; rfl) ?_
      refine .rd (.lt rfl rfl) ?_
      refine .rd (.assign rfl) ?_
      refine .nil ?_
      refine .condP rfl (fun h6 => ?_) (fun h6 => ?_)
      · refine .seq ?_
        refine .region ?_
        refine .rd (.build rfl (bld54_)) ?_
        refine .ef0 (.storeAll (vs := zeroMM.cells) ts54 rfl rfl rfl .head rfl (ones.of rfl)) ?_
        rintro _ _ rfl
        refine .rd (.assign rfl) ?_
        refine .nil ?_
        have hd := decode_cut (b := s) (by omega) (by omega) (by omega)
        refine .knowT (zeroMM.at_) (zeroMM_at) ?_
        refine .retP Try.func35 (.cons (.blkN ia54 ts54 rfl (.tail .head) rfl) (.cons (.tmp rfl) .nil)) (.cons .head (.cons (.tail .head) .nil)) ?_
        exact ⟨[_], ⟨zeroMM, by rw [hd]; rfl, by rw [hd]; rfl, rfl⟩, rfl⟩
      · refine .seq ?_
        refine .region ?_
        refine .rd (.move rfl) ?_
        refine .rd (.lenT rfl rfl Try.underlying9 rfl) ?_
        refine .rd (.move rfl) ?_
        refine .rd (.add rfl rfl (by omega) (by omega)) ?_
        refine .alter (t := 28) (v' := .int .i64 ((8 + four s : Nat) : Int)) rfl (by rw [Int.natCast_add]; rfl) ?_
        refine .rd (.gt rfl rfl) ?_
        refine .rd (.assign rfl) ?_
        refine .nil ?_
        refine .condP rfl (fun h8 => ?_) (fun h8 => ?_)
        · refine .seq ?_
          refine .region ?_
          refine .rd (.build rfl (bld54_)) ?_
          refine .ef0 (.storeAll (vs := zeroMM.cells) ts54 rfl rfl rfl .head rfl (ones.of rfl)) ?_
          rintro _ _ rfl
          refine .rd (.assign rfl) ?_
          refine .nil ?_
          have hd := decode_more (b := s) (by omega) (by omega) (by omega) (by omega)
          refine .knowT (zeroMM.at_) (zeroMM_at) ?_
          refine .retP Try.func35 (.cons (.blkN ia54 ts54 rfl (.tail .head) rfl) (.cons (.tmp rfl) .nil)) (.cons .head (.cons (.tail .head) .nil)) ?_
          exact ⟨[_], ⟨zeroMM, by rw [hd]; rfl, by rw [hd]; rfl, rfl⟩, rfl⟩
        · refine .seq ?_
          obtain ⟨t, ht⟩ : ∃ t, t = s.drop 8 := ⟨_, rfl⟩
          have htl : t.length ≤ 65528 := by rw [ht, List.length_drop]; omega
          refine .draws [] [] (by kernel_rfl) ?_
          refine .rp 0 rfl (by kernel_rfl) (by kernel_rfl) (by kernel_rfl) (Reads.pure (.move rfl)) ?_
          refine .rp 1 rfl (by kernel_rfl) (by kernel_rfl) (by kernel_rfl) (Reads.pure (.sliceT (l := s) (a := 8) (h := s.length) Try.underlying9 rfl ⟨_, rfl⟩ rfl (by omega) (by omega))) ?_
          refine .alter (t := 33) (v' := .string (str t)) rfl (by rw [ht, List.take_of_length_le (by rw [List.length_drop]; omega)]) ?_
          refine .rp 3 rfl (by kernel_rfl) (by kernel_rfl) (by kernel_rfl) (Reads.pure (.move rfl)) ?_
          refine .rp 4 rfl (by kernel_rfl) (by kernel_rfl) (by kernel_rfl) (Reads.pure (.sliceT (l := s) (a := 4) (h := s.length) Try.underlying9 rfl ⟨_, rfl⟩ rfl (by omega) (by omega))) ?_
          refine .alter (t := 36) (v' := .string (str (s.drop 4))) rfl (by rw [List.take_of_length_le (by rw [List.length_drop]; omega)]) ?_
          refine .ef 2 (by kernel_rfl) rfl (.fn rfl rfl .nil (fun _ _ _ => trivial) (Crc_ok t (by omega))) ?_
          rintro v _ ⟨G1, hq, rfl⟩
          obtain ⟨rfl, rfl⟩ := hq
          simp only [List.nil_append]
          refine ⟨.inl (by kernel_rfl), ?_⟩
          refine .ef 5 (by kernel_rfl) rfl (.fn rfl rfl .nil (fun _ _ _ => trivial) (number_ok (s.drop 4) (by rw [List.length_drop]; omega))) ?_
          rintro v _ ⟨G1, hq, rfl⟩
          obtain ⟨rfl, rfl⟩ := hq
          simp only [List.nil_append]
          refine ⟨.inl (by kernel_rfl), ?_⟩
          refine .rp 6 rfl (by kernel_rfl) (by kernel_rfl) (by kernel_rfl) (Reads.pure (.neI rfl rfl)) ?_
          refine .rp 7 rfl (by kernel_rfl) (by kernel_rfl) (by kernel_rfl) (Reads.pure (.assign rfl)) ?_
          refine .done (by kernel_rfl) ?_
          refine .condN rfl (fun h10 => ?_) (fun h10 => ?_)
          · refine .seq ?_
            refine .region ?_
            refine .rd (.build rfl (bld54_)) ?_
            refine .ef0 (.storeAll (vs := zeroMM.cells) ts54 rfl rfl rfl .head rfl (ones.of rfl)) ?_
            rintro _ _ rfl
            refine .rd (.assign rfl) ?_
            refine .nil ?_
            have hd := decode_sum (b := s) (by omega) (by omega) (by omega) (by omega) (by rw [← ht]; omega)
            refine .knowT (zeroMM.at_) (zeroMM_at) ?_
            refine .retP Try.func35 (.cons (.blkN ia54 ts54 rfl (.tail .head) rfl) (.cons (.tmp rfl) .nil)) (.cons .head (.cons (.tail .head) .nil)) ?_
            exact ⟨[_], ⟨zeroMM, by rw [hd]; rfl, by rw [hd]; rfl, rfl⟩, rfl⟩
          · have hcs : (crc t).toNat = four (s.drop 4) := by omega
            refine .skip ?_
            refine .inBlock ?_
            refine .seq ?_
            refine .region ?_
            refine .rd (.move rfl) ?_
            refine .rd (.sliceT (l := s) (a := 8) (h := s.length) Try.underlying9 rfl ⟨_, rfl⟩ rfl (by omega) (by omega)) ?_
            refine .alter (t := 42) (v' := .string (str t)) rfl (by rw [ht, List.take_of_length_le (by rw [List.length_drop]; omega)]) ?_
            refine .rd (.build rfl (bld90_0_1 _ _)) ?_
            refine .ef (.box rfl rfl (ones.of rfl)) ?_
            rintro _ _ ⟨b44, rfl, rfl⟩
            refine .fn rfl rfl (.cons .head .nil) (fun _ _ _ => trivial) (message_ok b44 (t, true) (by show t.length ≤ 65536; omega)) (fun v G1 hq => ?_)
            obtain ⟨m, ok, rfl, hok, hme, q, rfl⟩ := hq
            simp only [List.cons_append, List.nil_append]
            refine .rd (.move rfl) ?_
            refine .rd (.extract rfl rfl) ?_
            refine .rd (.extract rfl rfl) ?_
            refine .ef (.alloc ti54 rfl (ones.of rfl)) ?_
            rintro _ _ ⟨b5, rfl, rfl⟩
            refine .ef0 (.storeAll (vs := m.cells) ts54 rfl rfl rfl .head rfl (ones.of rfl)) ?_
            rintro _ _ rfl
            refine .rd (.assign rfl) ?_
            refine .nil ?_
            refine .seq ?_
            refine .seq ?_
            refine .region ?_
            refine .rd (.move rfl) ?_
            refine .rd (.not rfl) ?_
            refine .nil ?_
            refine .cond rfl (fun h13 => ?_) (fun h13 => ?_)
            · refine .seq ?_
              refine .region ?_
              refine .rd (.build rfl (bld54_)) ?_
              refine .ef0 (.storeAll (vs := zeroMM.cells) ts54 rfl rfl rfl (.tail (.tail (.tail .head))) rfl (ones.of rfl)) ?_
              rintro _ _ rfl
              refine .rd (.assign rfl) ?_
              refine .nil ?_
              have hd := decode_no (b := s) (t := t) (by omega) (by omega) (by omega) (by omega) ht hcs (fun h => by have := hok.2 h; rw [this] at h13; cases h13)
              refine .knowT (zeroMM.at_) (zeroMM_at) ?_
              refine .retP Try.func35 (.cons (.blkN ia54 ts54 rfl (.tail .head) rfl) (.cons (.tmp rfl) .nil)) (.cons .head (.cons (.tail (.tail (.tail (.tail .head)))) .nil)) ?_
              exact ⟨[_], ⟨zeroMM, by rw [hd]; rfl, by rw [hd]; rfl, rfl⟩, rfl⟩
            · refine .skip ?_
              refine .seq ?_
              refine .region ?_
              refine .rd (.ldN ia54 ts54 rfl .head rfl) ?_
              refine .ef0 (.storeAll (vs := m.cells) ts54 rfl rfl rfl (.tail (.tail (.tail .head))) rfl (ones.of rfl)) ?_
              rintro _ _ rfl
              refine .rd (.assign rfl) ?_
              refine .nil ?_
              have hokt : ok = true := by cases ok with | true => rfl | false => exact absurd h13 (by decide)
              obtain ⟨hg, hl, hr⟩ := hok.1 hokt
              have hd := decode_yes (b := s) (t := t) (by omega) (by omega) (by omega) (by omega) ht hcs hg hl hr
              refine .retP Try.func35 (.cons (.blkN ia54 ts54 rfl .head rfl) (.cons (.tmp rfl) .nil)) (.cons (.tail (.tail (.tail .head))) (.cons (.tail (.tail (.tail .head))) .nil)) ?_
              exact ⟨[_], ⟨m, by rw [hd]; rfl, by rw [hd]; exact hme hokt, rfl⟩, rfl⟩

set_option maxRecDepth 20000 in
theorem Answer_ok (m : MsgM) (e : Int) (hk : i64 m.kind) : Cn Try.prog 38 [.agg m.cells.toArray, .int .i64 e] (fun _ => True) [] fun v G => v = .agg (answerM m e).cells.toArray ∧ G = [] := by
  refine .enter Try.func38 rfl (by kernel_rfl) rfl fun R k => ?_
  refine .seq ?_
  refine .region ?_
  refine .ef (.box (l := m.cells) rfl rfl (ones.of rfl)) ?_
  rintro _ _ ⟨b2, rfl, rfl⟩
  refine .ef (.alloc ti54 rfl (ones.of rfl)) ?_
  rintro _ _ ⟨b4, rfl, rfl⟩
  refine .nil ?_
  refine .seq ?_
  refine .seq ?_
  refine .region ?_
  refine RunO.join 10 14 (!wthB m.kind 1 28 || decide (m.kind % 2 = 0)) ?_ ?_
  · refine .rd (.fieldAddr fd54_0 rfl) ?_
    refine .rd (.ld na3 rfl (.tail .head) rfl) ?_
    refine .fn rfl rfl .nil (fun _ _ _ => trivial) (within4_ok m.kind 1 28) (fun v G1 hq => ?_)
    obtain ⟨rfl, rfl⟩ := hq
    simp only [List.nil_append]
    refine .rd (.not rfl) ?_
    refine .rd (.move rfl) ?_
    refine .split (t := 9) rfl (fun g1 => ?_) (fun g1 => ?_)
    · refine .off (t := 9) rfl rfl rfl ?_
      refine .off (t := 9) rfl rfl rfl ?_
      refine .off (t := 9) rfl rfl rfl ?_
      refine .off (t := 9) rfl rfl rfl ?_
      refine .rd (.pickT rfl rfl) ?_
      refine .nil ⟨rfl, ?_, by repeat (first | exact Le.refl _ | refine Le.skip rfl ?_)⟩
      exact congrArg (fun x => some (Value.bool x)) (Eq.symm (show (!wthB m.kind 1 28 || decide (m.kind % 2 = 0)) = _ by (rw [g1]) <;> rfl))
    · have hk1 : 1 ≤ m.kind ∧ m.kind ≤ 28 := by unfold wthB at g1; simp at g1; omega
      refine .on (t := 9) rfl rfl ?_
      refine .rd (.fieldAddr fd54_0 rfl) ?_
      refine .on (t := 9) rfl rfl ?_
      refine .rd (.ld na3 rfl (.tail .head) rfl) ?_
      refine .on (t := 9) rfl rfl ?_
      refine .rd (.rem rfl rfl (by omega) (by omega)) ?_
      refine .on (t := 9) rfl rfl ?_
      refine .rd (.eqI rfl rfl) ?_
      refine .rd (.pickF rfl rfl) ?_
      refine .nil ⟨rfl, ?_, by repeat (first | exact Le.refl _ | refine Le.skip rfl ?_)⟩
      exact congrArg (fun x => some (Value.bool x)) (Eq.symm (show (!wthB m.kind 1 28 || decide (m.kind % 2 = 0)) = _ by (rw [g1]) <;> rfl))
  refine .nil ?_
  refine .cond rfl (fun h1 => ?_) (fun h1 => ?_)
  · have hA : (¬ (1 ≤ m.kind ∧ m.kind ≤ 28)) ∨ m.kind % 2 = 0 := by unfold wthB at h1; simp at h1; omega
    refine .seq ?_
    refine .region ?_
    refine .rd (.build rfl (bld54_)) ?_
    refine .ef0 (.storeAll (vs := zeroMM.cells) ts54 rfl rfl rfl .head rfl (ones.of rfl)) ?_
    rintro _ _ rfl
    refine .nil ?_
    rw [answer_no hA]
    refine .retP Try.func38 (.cons (.blkN ia54 ts54 rfl .head rfl) .nil) (.cons (.tail (.tail .head)) .nil) ?_
    exact ⟨[], ⟨rfl, rfl⟩, rfl⟩
  · have hA : ¬ ((¬ (1 ≤ m.kind ∧ m.kind ≤ 28)) ∨ m.kind % 2 = 0) := by unfold wthB at h1; simp at h1; omega
    refine .skip ?_
    refine .seq ?_
    refine .region ?_
    refine .rd (.fieldAddr fd54_0 rfl) ?_
    refine .rd (.ld na3 rfl (.tail .head) rfl) ?_
    refine .rd (.add rfl rfl (by omega) (by omega)) ?_
    refine .rd (.fieldAddr fd54_2 rfl) ?_
    refine .rd (.ld na3 rfl (.tail .head) rfl) ?_
    refine .rd (.fieldAddr fd54_1 rfl) ?_
    refine .rd (.ld na3 rfl (.tail .head) rfl) ?_
    refine .rd (.fieldAddr fd54_3 rfl) ?_
    refine .rd (.ld na3 rfl (.tail .head) rfl) ?_
    refine .rd (.fieldAddr fd54_4 rfl) ?_
    refine .rd (.ld na3 rfl (.tail .head) rfl) ?_
    refine .rd (.move rfl) ?_
    refine .rd (.build rfl (bld54_0_1_2_3_4_15 _ _ _ _ _ _)) ?_
    refine .ef0 (.storeAll (vs := ({ zeroMM with kind := m.kind + 1, n0 := m.n1, n1 := m.n0, n2 := m.n2, n3 := m.n3, err := e } : MsgM).cells) ts54 rfl rfl rfl .head rfl (ones.of rfl)) ?_
    rintro _ _ rfl
    refine .nil ?_
    rw [answer_yes hA]
    refine .retP Try.func38 (.cons (.blkN ia54 ts54 rfl .head rfl) .nil) (.cons (.tail (.tail .head)) .nil) ?_
    exact ⟨[], ⟨rfl, rfl⟩, rfl⟩

set_option maxRecDepth 20000 in
theorem rAnswer_ok (m : MsgM) (e : Int) (hk : i64 m.kind) : Cn Try.prog 39 [.agg m.cells.toArray, .int .i64 e] (fun _ => True) [] fun v G => v = .agg (answerM m e).cells.toArray ∧ G = [] := by
  refine .enter Try.func39 rfl (by kernel_rfl) rfl fun R k => ?_
  refine .seq ?_
  refine .region ?_
  refine .ef (.box (l := m.cells) rfl rfl (ones.of rfl)) ?_
  rintro _ _ ⟨b2, rfl, rfl⟩
  refine .ef (.alloc ti54 rfl (ones.of rfl)) ?_
  rintro _ _ ⟨b4, rfl, rfl⟩
  refine .nil ?_
  refine .seq ?_
  refine .seq ?_
  refine .region ?_
  refine RunO.join 14 18 ((decide (m.kind < 1) || decide (28 < m.kind)) || decide (m.kind % 2 = 0)) ?_ ?_
  · refine .rd (.fieldAddr fd54_0 rfl) ?_
    refine .rd (.ld na3 rfl (.tail .head) rfl) ?_
    refine .rd (.lt rfl rfl) ?_
    refine .rd (.move rfl) ?_
    refine .split (t := 8) rfl (fun g1 => ?_) (fun g1 => ?_)
    · replace g1 := of_decide_eq_true g1
      refine .off (t := 8) rfl rfl rfl ?_
      refine .off (t := 8) rfl rfl rfl ?_
      refine .off (t := 8) rfl rfl rfl ?_
      refine .rd (.pickT rfl rfl) ?_
      refine .rd (.move rfl) ?_
      refine .off (t := 13) rfl rfl rfl ?_
      refine .off (t := 13) rfl rfl rfl ?_
      refine .off (t := 13) rfl rfl rfl ?_
      refine .off (t := 13) rfl rfl rfl ?_
      refine .rd (.pickT rfl rfl) ?_
      refine .nil ⟨rfl, ?_, by repeat (first | exact Le.refl _ | refine Le.skip rfl ?_)⟩
      exact congrArg (fun x => some (Value.bool x)) (Eq.symm (show ((decide (m.kind < 1) || decide (28 < m.kind)) || decide (m.kind % 2 = 0)) = _ by (rw [decide_eq_true g1]) <;> rfl))
    · replace g1 := of_decide_eq_false g1
      refine .on (t := 8) rfl rfl ?_
      refine .rd (.fieldAddr fd54_0 rfl) ?_
      refine .on (t := 8) rfl rfl ?_
      refine .rd (.ld na3 rfl (.tail .head) rfl) ?_
      refine .on (t := 8) rfl rfl ?_
      refine .rd (.gt rfl rfl) ?_
      refine .rd (.pickF rfl rfl) ?_
      refine .rd (.move rfl) ?_
      refine .split (t := 13) rfl (fun g2 => ?_) (fun g2 => ?_)
      · replace g2 := of_decide_eq_true g2
        refine .off (t := 13) rfl rfl rfl ?_
        refine .off (t := 13) rfl rfl rfl ?_
        refine .off (t := 13) rfl rfl rfl ?_
        refine .off (t := 13) rfl rfl rfl ?_
        refine .rd (.pickT rfl rfl) ?_
        refine .nil ⟨rfl, ?_, by repeat (first | exact Le.refl _ | refine Le.skip rfl ?_)⟩
        exact congrArg (fun x => some (Value.bool x)) (Eq.symm (show ((decide (m.kind < 1) || decide (28 < m.kind)) || decide (m.kind % 2 = 0)) = _ by (rw [decide_eq_false g1, decide_eq_true g2]) <;> rfl))
      · replace g2 := of_decide_eq_false g2
        refine .on (t := 13) rfl rfl ?_
        refine .rd (.fieldAddr fd54_0 rfl) ?_
        refine .on (t := 13) rfl rfl ?_
        refine .rd (.ld na3 rfl (.tail .head) rfl) ?_
        refine .on (t := 13) rfl rfl ?_
        refine .rd (.rem rfl rfl (by omega) (by omega)) ?_
        refine .on (t := 13) rfl rfl ?_
        refine .rd (.eqI rfl rfl) ?_
        refine .rd (.pickF rfl rfl) ?_
        refine .nil ⟨rfl, ?_, by repeat (first | exact Le.refl _ | refine Le.skip rfl ?_)⟩
        exact congrArg (fun x => some (Value.bool x)) (Eq.symm (show ((decide (m.kind < 1) || decide (28 < m.kind)) || decide (m.kind % 2 = 0)) = _ by (rw [decide_eq_false g1, decide_eq_false g2]) <;> rfl))
  refine .nil ?_
  refine .cond rfl (fun h1 => ?_) (fun h1 => ?_)
  · have hA : (¬ (1 ≤ m.kind ∧ m.kind ≤ 28)) ∨ m.kind % 2 = 0 := by simp at h1; omega
    refine .seq ?_
    refine .region ?_
    refine .rd (.build rfl (bld54_)) ?_
    refine .ef0 (.storeAll (vs := zeroMM.cells) ts54 rfl rfl rfl .head rfl (ones.of rfl)) ?_
    rintro _ _ rfl
    refine .nil ?_
    rw [answer_no hA]
    refine .retP Try.func39 (.cons (.blkN ia54 ts54 rfl .head rfl) .nil) (.cons (.tail (.tail .head)) .nil) ?_
    exact ⟨[], ⟨rfl, rfl⟩, rfl⟩
  · have hA : ¬ ((¬ (1 ≤ m.kind ∧ m.kind ≤ 28)) ∨ m.kind % 2 = 0) := by simp at h1; omega
    refine .skip ?_
    refine .seq ?_
    refine .region ?_
    refine .rd (.fieldAddr fd54_0 rfl) ?_
    refine .rd (.ld na3 rfl (.tail .head) rfl) ?_
    refine .rd (.add rfl rfl (by omega) (by omega)) ?_
    refine .rd (.fieldAddr fd54_2 rfl) ?_
    refine .rd (.ld na3 rfl (.tail .head) rfl) ?_
    refine .rd (.fieldAddr fd54_1 rfl) ?_
    refine .rd (.ld na3 rfl (.tail .head) rfl) ?_
    refine .rd (.fieldAddr fd54_3 rfl) ?_
    refine .rd (.ld na3 rfl (.tail .head) rfl) ?_
    refine .rd (.fieldAddr fd54_4 rfl) ?_
    refine .rd (.ld na3 rfl (.tail .head) rfl) ?_
    refine .rd (.move rfl) ?_
    refine .rd (.build rfl (bld54_0_1_2_3_4_15 _ _ _ _ _ _)) ?_
    refine .ef0 (.storeAll (vs := ({ zeroMM with kind := m.kind + 1, n0 := m.n1, n1 := m.n0, n2 := m.n2, n3 := m.n3, err := e } : MsgM).cells) ts54 rfl rfl rfl .head rfl (ones.of rfl)) ?_
    rintro _ _ rfl
    refine .nil ?_
    rw [answer_yes hA]
    refine .retP Try.func39 (.cons (.blkN ia54 ts54 rfl .head rfl) .nil) (.cons (.tail (.tail .head)) .nil) ?_
    exact ⟨[], ⟨rfl, rfl⟩, rfl⟩

end Go.Proofs.Ytllpkagplfmlbaa


namespace Go.Proofs.Ytllpkagplfmlbaa
open Go Go.Sp

set_option linter.unusedVariables false

namespace rpc11
theorem na3 : NotAgg Try.prog 3 := ⟨_, Try.underlying3, trivial⟩
theorem na9 : NotAgg Try.prog 9 := ⟨_, Try.underlying9, trivial⟩
theorem fd27_0 : FD Try.prog 27 0 0 := .of Try.underlying27 (by kernel_rfl)
theorem fd27_1 : FD Try.prog 27 1 1 := .of Try.underlying27 (by kernel_rfl)
theorem fd27_2 : FD Try.prog 27 2 2 := .of Try.underlying27 (by kernel_rfl)
theorem fd27_3 : FD Try.prog 27 3 3 := .of Try.underlying27 (by kernel_rfl)
theorem fd27_4 : FD Try.prog 27 4 4 := .of Try.underlying27 (by kernel_rfl)
theorem fd27_5 : FD Try.prog 27 5 5 := .of Try.underlying27 (by kernel_rfl)
theorem na25 : NotAgg Try.prog 25 := ⟨_, Try.underlying25, trivial⟩
theorem ts65 : TS Try.prog 65 3 := .of (by kernel_rfl)
theorem ia65 : IsAgg Try.prog 65 := ⟨_, Try.underlying65, trivial⟩
theorem ia54 : IsAgg Try.prog 54 := ⟨_, Try.underlying54, trivial⟩
theorem ts54 : TS Try.prog 54 21 := .of (by kernel_rfl)
theorem ts3 : TS Try.prog 3 1 := .of (by kernel_rfl)
theorem fd54_0 : FD Try.prog 54 0 0 := .of Try.underlying54 (by kernel_rfl)
theorem fd54_15 : FD Try.prog 54 15 15 := .of Try.underlying54 (by kernel_rfl)
theorem na28 : NotAgg Try.prog 28 := ⟨_, Try.underlying28, trivial⟩
theorem fd54_16 : FD Try.prog 54 16 16 := .of Try.underlying54 (by kernel_rfl)
theorem fd54_17 : FD Try.prog 54 17 17 := .of Try.underlying54 (by kernel_rfl)
theorem fd54_18 : FD Try.prog 54 18 18 := .of Try.underlying54 (by kernel_rfl)
theorem na51 : NotAgg Try.prog 51 := ⟨_, Try.underlying51, trivial⟩
theorem fd54_19 : FD Try.prog 54 19 19 := .of Try.underlying54 (by kernel_rfl)
theorem na52 : NotAgg Try.prog 52 := ⟨_, Try.underlying52, trivial⟩
theorem fd54_20 : FD Try.prog 54 20 20 := .of Try.underlying54 (by kernel_rfl)
theorem na37 : NotAgg Try.prog 37 := ⟨_, Try.underlying37, trivial⟩
theorem ts27 : TS Try.prog 27 6 := .of (by kernel_rfl)
theorem ia27 : IsAgg Try.prog 27 := ⟨_, Try.underlying27, trivial⟩
theorem ts86 : TS Try.prog 86 3 := .of (by kernel_rfl)
theorem ia86 : IsAgg Try.prog 86 := ⟨_, Try.underlying86, trivial⟩
end rpc11
open rpc11

theorem eq86 (p q : Ent) : EqV Try.prog 2 86 (.agg p.cells.toArray) (.agg q.cells.toArray) (decide (p = q)) := by
  have h : EqV Try.prog 2 86 (.agg p.cells.toArray) (.agg q.cells.toArray) (decide (p.term = q.term) && (decide (p.index = q.index) && (decide (str p.data = str q.data) && true))) :=
    .struct Try.underlying86 (by kernel_rfl) (.cons (by decide) (part1 na3 rfl) (part1 na3 rfl) (.int Try.underlying3) (.cons (by decide) (part1 na3 rfl) (part1 na3 rfl) (.int Try.underlying3) (.cons (by decide) (part1 na9 rfl) (part1 na9 rfl) (.string Try.underlying9) .nil)))
  have e : (decide (p.term = q.term) && (decide (p.index = q.index) && (decide (str p.data = str q.data) && true))) = decide (p = q) := by
    rw [Bool.eq_iff_iff, str_dec]; cases p; cases q; simp
  rwa [e] at h
theorem msg_ext {x y : Msg} (h1 : x.kind = y.kind) (h2 : x.nums = y.nums) (h3 : x.err = y.err) (h4 : x.name = y.name) (h5 : x.text = y.text) (h6 : x.batches = y.batches) (h7 : x.entries = y.entries) (h8 : x.ints = y.ints) : x = y := by
  cases x; cases y; simp_all

set_option maxHeartbeats 1000000 in
set_option maxRecDepth 20000 in
theorem batch4_ok (x y : Bat) (a a' : Option Addr) (c c' : Nat) (hx : x.recs.length ≤ 140737488351232) (hy : y.recs.length ≤ 140737488351232) : Cn Try.prog 62 [.agg (x.cells a c).toArray, .agg (y.cells a' c').toArray] (fun w => RowAt a (x.recs.flatMap Rec.cells) w ∧ RowAt a' (y.recs.flatMap Rec.cells) w) [] fun v G => ∃ r, v = .bool r ∧ (r = true ↔ x = y) ∧ G = [] := by
  refine .enter Try.func62 rfl (by kernel_rfl) rfl fun R k => ?_
  have hx1 := hx
  have hy1 := hy
  refine .seq ?_
  refine .region ?_
  refine .ef (.box (l := x.cells a c) rfl rfl (ones.of rfl)) ?_
  rintro _ _ ⟨b2, rfl, rfl⟩
  refine .ef (.box (l := y.cells a' c') rfl rfl (ones.of rfl)) ?_
  rintro _ _ ⟨b3, rfl, rfl⟩
  refine .rd (.assign rfl) ?_
  refine .nil ?_
  refine .seq ?_
  refine .seq ?_
  refine .region ?_
  refine .rd (.fieldAddr fd27_0 rfl) ?_
  refine .rd (.ld na3 rfl (.tail .head) rfl) ?_
  refine .rd (.fieldAddr fd27_0 rfl) ?_
  refine .rd (.ld na3 rfl .head rfl) ?_
  refine .rd (.neI rfl rfl) ?_
  refine .rd (.move rfl) ?_
  refine .split (t := 11) rfl (fun gbase => ?_) (fun gbase => ?_)
  · simp at gbase
    have hno : x ≠ y := fun e => gbase (by rw [e])
    refine .off (t := 11) rfl rfl rfl ?_
    refine .off (t := 11) rfl rfl rfl ?_
    refine .off (t := 11) rfl rfl rfl ?_
    refine .off (t := 11) rfl rfl rfl ?_
    refine .off (t := 11) rfl rfl rfl ?_
    refine .rd (.pickT rfl rfl) ?_
    refine .rd (.move rfl) ?_
    refine .off (t := 18) rfl rfl rfl ?_
    refine .off (t := 18) rfl rfl rfl ?_
    refine .off (t := 18) rfl rfl rfl ?_
    refine .off (t := 18) rfl rfl rfl ?_
    refine .off (t := 18) rfl rfl rfl ?_
    refine .rd (.pickT rfl rfl) ?_
    refine .rd (.move rfl) ?_
    refine .off (t := 25) rfl rfl rfl ?_
    refine .off (t := 25) rfl rfl rfl ?_
    refine .off (t := 25) rfl rfl rfl ?_
    refine .off (t := 25) rfl rfl rfl ?_
    refine .off (t := 25) rfl rfl rfl ?_
    refine .rd (.pickT rfl rfl) ?_
    refine .rd (.move rfl) ?_
    refine .off (t := 32) rfl rfl rfl ?_
    refine .off (t := 32) rfl rfl rfl ?_
    refine .off (t := 32) rfl rfl rfl ?_
    refine .off (t := 32) rfl rfl rfl ?_
    refine .off (t := 32) rfl rfl rfl ?_
    refine .rd (.pickT rfl rfl) ?_
    refine .rd (.move rfl) ?_
    refine .off (t := 39) rfl rfl rfl ?_
    refine .off (t := 39) rfl rfl rfl ?_
    refine .off (t := 39) rfl rfl rfl ?_
    refine .off (t := 39) rfl rfl rfl ?_
    refine .off (t := 39) rfl rfl rfl ?_
    refine .off (t := 39) rfl rfl rfl ?_
    refine .off (t := 39) rfl rfl rfl ?_
    refine .rd (.pickT rfl rfl) ?_
    refine .nil ?_
    refine .condT rfl ?_
    refine .seq ?_
    refine .region ?_
    refine .rd (.assign rfl) ?_
    refine .nil ?_
    refine .retP Try.func62 (.cons (.tmp rfl) .nil) (.cons (.tail (.tail .head)) .nil) ?_
    exact ⟨[], ⟨false, rfl, ⟨fun h => absurd h Bool.false_ne_true, fun h => absurd h hno⟩, rfl⟩, rfl⟩
  · simp at gbase
    refine .on (t := 11) rfl rfl ?_
    refine .rd (.fieldAddr fd27_1 rfl) ?_
    refine .on (t := 11) rfl rfl ?_
    refine .rd (.ld na3 rfl (.tail .head) rfl) ?_
    refine .on (t := 11) rfl rfl ?_
    refine .rd (.fieldAddr fd27_1 rfl) ?_
    refine .on (t := 11) rfl rfl ?_
    refine .rd (.ld na3 rfl .head rfl) ?_
    refine .on (t := 11) rfl rfl ?_
    refine .rd (.neI rfl rfl) ?_
    refine .rd (.pickF rfl rfl) ?_
    refine .rd (.move rfl) ?_
    refine .split (t := 18) rfl (fun gepoch => ?_) (fun gepoch => ?_)
    · simp at gepoch
      have hno : x ≠ y := fun e => gepoch (by rw [e])
      refine .off (t := 18) rfl rfl rfl ?_
      refine .off (t := 18) rfl rfl rfl ?_
      refine .off (t := 18) rfl rfl rfl ?_
      refine .off (t := 18) rfl rfl rfl ?_
      refine .off (t := 18) rfl rfl rfl ?_
      refine .rd (.pickT rfl rfl) ?_
      refine .rd (.move rfl) ?_
      refine .off (t := 25) rfl rfl rfl ?_
      refine .off (t := 25) rfl rfl rfl ?_
      refine .off (t := 25) rfl rfl rfl ?_
      refine .off (t := 25) rfl rfl rfl ?_
      refine .off (t := 25) rfl rfl rfl ?_
      refine .rd (.pickT rfl rfl) ?_
      refine .rd (.move rfl) ?_
      refine .off (t := 32) rfl rfl rfl ?_
      refine .off (t := 32) rfl rfl rfl ?_
      refine .off (t := 32) rfl rfl rfl ?_
      refine .off (t := 32) rfl rfl rfl ?_
      refine .off (t := 32) rfl rfl rfl ?_
      refine .rd (.pickT rfl rfl) ?_
      refine .rd (.move rfl) ?_
      refine .off (t := 39) rfl rfl rfl ?_
      refine .off (t := 39) rfl rfl rfl ?_
      refine .off (t := 39) rfl rfl rfl ?_
      refine .off (t := 39) rfl rfl rfl ?_
      refine .off (t := 39) rfl rfl rfl ?_
      refine .off (t := 39) rfl rfl rfl ?_
      refine .off (t := 39) rfl rfl rfl ?_
      refine .rd (.pickT rfl rfl) ?_
      refine .nil ?_
      refine .condT rfl ?_
      refine .seq ?_
      refine .region ?_
      refine .rd (.assign rfl) ?_
      refine .nil ?_
      refine .retP Try.func62 (.cons (.tmp rfl) .nil) (.cons (.tail (.tail .head)) .nil) ?_
      exact ⟨[], ⟨false, rfl, ⟨fun h => absurd h Bool.false_ne_true, fun h => absurd h hno⟩, rfl⟩, rfl⟩
    · simp at gepoch
      refine .on (t := 18) rfl rfl ?_
      refine .rd (.fieldAddr fd27_2 rfl) ?_
      refine .on (t := 18) rfl rfl ?_
      refine .rd (.ld na3 rfl (.tail .head) rfl) ?_
      refine .on (t := 18) rfl rfl ?_
      refine .rd (.fieldAddr fd27_2 rfl) ?_
      refine .on (t := 18) rfl rfl ?_
      refine .rd (.ld na3 rfl .head rfl) ?_
      refine .on (t := 18) rfl rfl ?_
      refine .rd (.neI rfl rfl) ?_
      refine .rd (.pickF rfl rfl) ?_
      refine .rd (.move rfl) ?_
      refine .split (t := 25) rfl (fun gpid => ?_) (fun gpid => ?_)
      · simp at gpid
        have hno : x ≠ y := fun e => gpid (by rw [e])
        refine .off (t := 25) rfl rfl rfl ?_
        refine .off (t := 25) rfl rfl rfl ?_
        refine .off (t := 25) rfl rfl rfl ?_
        refine .off (t := 25) rfl rfl rfl ?_
        refine .off (t := 25) rfl rfl rfl ?_
        refine .rd (.pickT rfl rfl) ?_
        refine .rd (.move rfl) ?_
        refine .off (t := 32) rfl rfl rfl ?_
        refine .off (t := 32) rfl rfl rfl ?_
        refine .off (t := 32) rfl rfl rfl ?_
        refine .off (t := 32) rfl rfl rfl ?_
        refine .off (t := 32) rfl rfl rfl ?_
        refine .rd (.pickT rfl rfl) ?_
        refine .rd (.move rfl) ?_
        refine .off (t := 39) rfl rfl rfl ?_
        refine .off (t := 39) rfl rfl rfl ?_
        refine .off (t := 39) rfl rfl rfl ?_
        refine .off (t := 39) rfl rfl rfl ?_
        refine .off (t := 39) rfl rfl rfl ?_
        refine .off (t := 39) rfl rfl rfl ?_
        refine .off (t := 39) rfl rfl rfl ?_
        refine .rd (.pickT rfl rfl) ?_
        refine .nil ?_
        refine .condT rfl ?_
        refine .seq ?_
        refine .region ?_
        refine .rd (.assign rfl) ?_
        refine .nil ?_
        refine .retP Try.func62 (.cons (.tmp rfl) .nil) (.cons (.tail (.tail .head)) .nil) ?_
        exact ⟨[], ⟨false, rfl, ⟨fun h => absurd h Bool.false_ne_true, fun h => absurd h hno⟩, rfl⟩, rfl⟩
      · simp at gpid
        refine .on (t := 25) rfl rfl ?_
        refine .rd (.fieldAddr fd27_3 rfl) ?_
        refine .on (t := 25) rfl rfl ?_
        refine .rd (.ld na3 rfl (.tail .head) rfl) ?_
        refine .on (t := 25) rfl rfl ?_
        refine .rd (.fieldAddr fd27_3 rfl) ?_
        refine .on (t := 25) rfl rfl ?_
        refine .rd (.ld na3 rfl .head rfl) ?_
        refine .on (t := 25) rfl rfl ?_
        refine .rd (.neI rfl rfl) ?_
        refine .rd (.pickF rfl rfl) ?_
        refine .rd (.move rfl) ?_
        refine .split (t := 32) rfl (fun gpidEpoch => ?_) (fun gpidEpoch => ?_)
        · simp at gpidEpoch
          have hno : x ≠ y := fun e => gpidEpoch (by rw [e])
          refine .off (t := 32) rfl rfl rfl ?_
          refine .off (t := 32) rfl rfl rfl ?_
          refine .off (t := 32) rfl rfl rfl ?_
          refine .off (t := 32) rfl rfl rfl ?_
          refine .off (t := 32) rfl rfl rfl ?_
          refine .rd (.pickT rfl rfl) ?_
          refine .rd (.move rfl) ?_
          refine .off (t := 39) rfl rfl rfl ?_
          refine .off (t := 39) rfl rfl rfl ?_
          refine .off (t := 39) rfl rfl rfl ?_
          refine .off (t := 39) rfl rfl rfl ?_
          refine .off (t := 39) rfl rfl rfl ?_
          refine .off (t := 39) rfl rfl rfl ?_
          refine .off (t := 39) rfl rfl rfl ?_
          refine .rd (.pickT rfl rfl) ?_
          refine .nil ?_
          refine .condT rfl ?_
          refine .seq ?_
          refine .region ?_
          refine .rd (.assign rfl) ?_
          refine .nil ?_
          refine .retP Try.func62 (.cons (.tmp rfl) .nil) (.cons (.tail (.tail .head)) .nil) ?_
          exact ⟨[], ⟨false, rfl, ⟨fun h => absurd h Bool.false_ne_true, fun h => absurd h hno⟩, rfl⟩, rfl⟩
        · simp at gpidEpoch
          refine .on (t := 32) rfl rfl ?_
          refine .rd (.fieldAddr fd27_4 rfl) ?_
          refine .on (t := 32) rfl rfl ?_
          refine .rd (.ld na3 rfl (.tail .head) rfl) ?_
          refine .on (t := 32) rfl rfl ?_
          refine .rd (.fieldAddr fd27_4 rfl) ?_
          refine .on (t := 32) rfl rfl ?_
          refine .rd (.ld na3 rfl .head rfl) ?_
          refine .on (t := 32) rfl rfl ?_
          refine .rd (.neI rfl rfl) ?_
          refine .rd (.pickF rfl rfl) ?_
          refine .rd (.move rfl) ?_
          refine .split (t := 39) rfl (fun gseq => ?_) (fun gseq => ?_)
          · simp at gseq
            have hno : x ≠ y := fun e => gseq (by rw [e])
            refine .off (t := 39) rfl rfl rfl ?_
            refine .off (t := 39) rfl rfl rfl ?_
            refine .off (t := 39) rfl rfl rfl ?_
            refine .off (t := 39) rfl rfl rfl ?_
            refine .off (t := 39) rfl rfl rfl ?_
            refine .off (t := 39) rfl rfl rfl ?_
            refine .off (t := 39) rfl rfl rfl ?_
            refine .rd (.pickT rfl rfl) ?_
            refine .nil ?_
            refine .condT rfl ?_
            refine .seq ?_
            refine .region ?_
            refine .rd (.assign rfl) ?_
            refine .nil ?_
            refine .retP Try.func62 (.cons (.tmp rfl) .nil) (.cons (.tail (.tail .head)) .nil) ?_
            exact ⟨[], ⟨false, rfl, ⟨fun h => absurd h Bool.false_ne_true, fun h => absurd h hno⟩, rfl⟩, rfl⟩
          · simp at gseq
            refine .on (t := 39) rfl rfl ?_
            refine .rd (.fieldAddr fd27_5 rfl) ?_
            refine .on (t := 39) rfl rfl ?_
            refine .rd (.ld na25 rfl (.tail .head) rfl) ?_
            refine .on (t := 39) rfl rfl ?_
            refine .rd (.lenL rfl rfl Try.underlying25 rfl) ?_
            refine .on (t := 39) rfl rfl ?_
            refine .rd (.fieldAddr fd27_5 rfl) ?_
            refine .on (t := 39) rfl rfl ?_
            refine .rd (.ld na25 rfl .head rfl) ?_
            refine .on (t := 39) rfl rfl ?_
            refine .rd (.lenL rfl rfl Try.underlying25 rfl) ?_
            refine .on (t := 39) rfl rfl ?_
            refine .rd (.neI rfl rfl) ?_
            refine .rd (.pickF rfl rfl) ?_
            refine .nil ?_
            refine .condN rfl (fun hln => ?_) (fun hln => ?_)
            · have hno : x ≠ y := fun e => hln (by rw [e])
              refine .seq ?_
              refine .region ?_
              refine .rd (.assign rfl) ?_
              refine .nil ?_
              refine .retP Try.func62 (.cons (.tmp rfl) .nil) (.cons (.tail (.tail .head)) .nil) ?_
              exact ⟨[], ⟨false, rfl, ⟨fun h => absurd h Bool.false_ne_true, fun h => absurd h hno⟩, rfl⟩, rfl⟩
            · refine .skip ?_
              refine .seq ?_
              refine .seq ?_
              refine .region ?_
              refine .rd (.assign rfl) ?_
              refine .nil ?_
              refine .block ?_
              refine .loop (σ := Nat) (fun i => i ≤ x.recs.length ∧ x.recs.take i = y.recs.take i) (fun i => x.recs.length - i) (fun i => [(2, .pointer (some ⟨b2, 0, none⟩)), (3, .pointer (some ⟨b3, 0, none⟩)), (5, .int .i64 (i : Nat))]) (fun i => [blk b2 (x.cells a c) 27, blk b3 (y.cells a' c') 27, R]) 0 ⟨Nat.zero_le _, rfl⟩ (.cons rfl (.cons rfl (.cons rfl .nil))) (.cons (.tail .head) (.cons .head (.cons .head .nil))) (fun i hI ih => ?_)
              have hil := hI.1
              refine .seq ?_
              refine .seq ?_
              refine .region ?_
              refine .rd (.move rfl) ?_
              refine .rd (.fieldAddr fd27_5 rfl) ?_
              refine .rd (.ld na25 rfl .head rfl) ?_
              refine .rd (.lenL rfl rfl Try.underlying25 rfl) ?_
              refine .rd (.lt rfl rfl) ?_
              refine .nil ?_
              refine .condP rfl (fun h4 => ?_) (fun h4 => ?_)
              · refine .skip ?_
                refine .seq ?_
                refine .block ?_
                refine .seq ?_
                have hl2 : x.recs.length = y.recs.length := by omega
                obtain ⟨u, hu⟩ : ∃ u, x.recs[i]? = some u := ⟨_, List.getElem?_eq_getElem (show i < x.recs.length by omega)⟩
                obtain ⟨w, hw⟩ : ∃ w, y.recs[i]? = some w := ⟨_, List.getElem?_eq_getElem (show i < y.recs.length by omega)⟩
                refine .tell (φ := ∃ b o, a = some ⟨b, o, none⟩) (Knows.pick (.tail (.tail .head)) (k.mono fun _ h => h.1.addr (by rw [flat_length Rec.cells_len]; omega))) (fun h => ?_)
                obtain ⟨bb, oo, rfl⟩ := h
                refine .tell (φ := ∃ b o, a' = some ⟨b, o, none⟩) (Knows.pick (.tail (.tail .head)) (k.mono fun _ h => h.2.addr (by rw [flat_length Rec.cells_len]; omega))) (fun h => ?_)
                obtain ⟨bc, oc, rfl⟩ := h
                refine .draws [1, 4, 6, 9] [blk b2 (x.cells (some ⟨bb, oo, none⟩) c) 27, blk b3 (y.cells (some ⟨bc, oc, none⟩) c') 27, R] (by kernel_rfl) ?_
                refine .rp 0 rfl (by kernel_rfl) (by kernel_rfl) (by kernel_rfl) (Reads.pure (.fieldAddr fd27_5 rfl)) ?_
                refine .rd 1 rfl rfl (by kernel_rfl) (by kernel_rfl) (by kernel_rfl) (.ld na25 rfl .head rfl) (.cons .head (.cons .head (.cons .head .nil))) ?_
                refine .rp 2 rfl (by kernel_rfl) (by kernel_rfl) (by kernel_rfl) (Reads.pure (.move rfl)) ?_
                refine .rp 3 rfl (by kernel_rfl) (by kernel_rfl) (by kernel_rfl) (Reads.pure (.indexAddr Try.underlying25 ts65 rfl rfl (by omega) (by omega))) ?_
                refine .rd 4 rfl rfl (by kernel_rfl) (by kernel_rfl) (by kernel_rfl) (.loadN ia65 ts65 rfl rfl (Knows.elem (f := Rec.cells) Rec.cells_len (by decide) (Knows.pick (.tail (.tail .head)) (k.mono fun _ h => h.1)) hu)) (.cons .head (.cons .head (.cons .head .nil))) ?_
                refine .rp 5 rfl (by kernel_rfl) (by kernel_rfl) (by kernel_rfl) (Reads.pure (.fieldAddr fd27_5 rfl)) ?_
                refine .rd 6 rfl rfl (by kernel_rfl) (by kernel_rfl) (by kernel_rfl) (.ld na25 rfl (.tail .head) rfl) (.cons .head (.cons .head (.cons .head .nil))) ?_
                refine .rp 7 rfl (by kernel_rfl) (by kernel_rfl) (by kernel_rfl) (Reads.pure (.move rfl)) ?_
                refine .rp 8 rfl (by kernel_rfl) (by kernel_rfl) (by kernel_rfl) (Reads.pure (.indexAddr Try.underlying25 ts65 rfl rfl (by omega) (by omega))) ?_
                refine .rd 9 rfl rfl (by kernel_rfl) (by kernel_rfl) (by kernel_rfl) (.loadN ia65 ts65 rfl rfl (Knows.elem (f := Rec.cells) Rec.cells_len (by decide) (Knows.pick (.tail (.tail .head)) (k.mono fun _ h => h.2)) hw)) (.cons .head (.cons .head (.cons .head .nil))) ?_
                refine .rp 10 rfl (by kernel_rfl) (by kernel_rfl) (by kernel_rfl) (Reads.pure (.neA (xs := u.cells.toArray) (ys := w.cells.toArray) (by kernel_rfl) rfl (eq65 _ _) rfl rfl)) ?_
                refine .done (by kernel_rfl) ?_
                refine .condN rfl (fun h6 => ?_) (fun h6 => ?_)
                · have hno : x ≠ y := fun e => list_ne hu hw h6 (by rw [e])
                  refine .seq ?_
                  refine .region ?_
                  refine .rd (.assign rfl) ?_
                  refine .nil ?_
                  refine .retP Try.func62 (.cons (.tmp rfl) .nil) (.cons (.tail (.tail .head)) .nil) ?_
                  exact ⟨[], ⟨false, rfl, ⟨fun h => absurd h Bool.false_ne_true, fun h => absurd h hno⟩, rfl⟩, rfl⟩
                · refine .skip ?_
                  refine .inBlock ?_
                  refine .region ?_
                  refine .rd (.move rfl) ?_
                  refine .rd (.add rfl rfl (by omega) (by omega)) ?_
                  refine .rd (.assign rfl) ?_
                  refine .nil ?_
                  exact (ih (i + 1) ⟨by omega, take_same hI.2 hu hw h6⟩ (by omega)).to (.cons rfl (.cons rfl (.cons rfl .nil))) (.cons .head (.cons .head (.cons .head .nil)))
              · have hii : i = x.recs.length := by omega
                have hseq : x.recs = y.recs := by
                  have := hI.2
                  rwa [hii, List.take_length, show x.recs.length = y.recs.length by omega, List.take_length] at this
                have hyes : x = y := bat_ext gbase gepoch gpid gpidEpoch gseq hseq
                refine .exit rfl ?_
                refine .seq ?_
                refine .region ?_
                refine .rd (.assign rfl) ?_
                refine .nil ?_
                refine .retP Try.func62 (.cons (.tmp rfl) .nil) (.cons (.tail (.tail .head)) .nil) ?_
                exact ⟨[], ⟨true, rfl, ⟨fun _ => hyes, fun _ => rfl⟩, rfl⟩, rfl⟩

set_option maxHeartbeats 2000000 in
set_option maxRecDepth 20000 in
theorem same4_ok (x y : MsgM) (hfx : x.fits) (hfy : y.fits) : Cn Try.prog 37 [.agg x.cells.toArray, .agg y.cells.toArray] (fun w => x.at_ w ∧ y.at_ w) [] fun v G => ∃ r, v = .bool r ∧ (r = true ↔ x.msg = y.msg) ∧ G = [] := by
  refine .enter Try.func37 rfl (by kernel_rfl) rfl fun R k => ?_
  have hbx := hfx.batn; have hby := hfy.batn; have hex := hfx.entn; have hey := hfy.entn; have hix := hfx.intn; have hiy := hfy.intn
  refine .seq ?_
  refine .region ?_
  refine .ef (.box (l := x.cells) rfl rfl (ones.of rfl)) ?_
  rintro _ _ ⟨b2, rfl, rfl⟩
  refine .ef (.box (l := y.cells) rfl rfl (ones.of rfl)) ?_
  rintro _ _ ⟨b3, rfl, rfl⟩
  refine .rd (.assign rfl) ?_
  refine .nil ?_
  refine .seq ?_
  refine .region ?_
  refine .rd (.ldN ia54 ts54 rfl (.tail .head) rfl) ?_
  refine .fn rfl rfl .nil (fun _ _ _ => trivial) (Numbers_ok x) (fun v G1 hq => ?_)
  obtain ⟨q1, rfl, rfl⟩ := hq
  simp only [List.cons_append, List.nil_append]
  refine .rd (.assign rfl) ?_
  refine .nil ?_
  refine .seq ?_
  refine .region ?_
  refine .rd (.ldN ia54 ts54 rfl (.tail .head) rfl) ?_
  refine .fn rfl rfl .nil (fun _ _ _ => trivial) (Numbers_ok y) (fun v G1 hq => ?_)
  obtain ⟨q2, rfl, rfl⟩ := hq
  simp only [List.cons_append, List.nil_append]
  refine .rd (.assign rfl) ?_
  refine .nil ?_
  refine .seq ?_
  refine .seq ?_
  refine .region ?_
  refine .rd (.assign rfl) ?_
  refine .nil ?_
  refine .block ?_
  refine .loop (σ := Nat) (fun i => i ≤ 14 ∧ x.nums.take i = y.nums.take i) (fun i => 14 - i) (fun i => [(2, .pointer (some ⟨b2, 0, none⟩)), (3, .pointer (some ⟨b3, 0, none⟩)), (5, .slice (some ⟨q1, 0, none⟩) 14 14), (6, .slice (some ⟨q2, 0, none⟩) 14 14), (7, .int .i64 (i : Nat))]) (fun i => [blk b2 x.cells 54, blk b3 y.cells 54, arr 3 1 (some ⟨q1, 0, none⟩) 14 (x.nums.flatMap icell), arr 3 1 (some ⟨q2, 0, none⟩) 14 (y.nums.flatMap icell), R]) 0 ⟨Nat.zero_le _, rfl⟩ (.cons rfl (.cons rfl (.cons rfl (.cons rfl (.cons rfl .nil))))) (.cons (.tail (.tail (.tail .head))) (.cons (.tail (.tail .head)) (.cons (.tail .head) (.cons .head (.cons .head .nil))))) (fun i hI ih => ?_)
  have hil := hI.1
  have hx14 : x.nums.length = 14 := rfl
  have hy14 : y.nums.length = 14 := rfl
  refine .seq ?_
  refine .seq ?_
  refine .region ?_
  refine .rd (.move rfl) ?_
  refine .rd (.move rfl) ?_
  refine .rd (.lenL rfl rfl Try.underlying37 rfl) ?_
  refine .rd (.lt rfl rfl) ?_
  refine .nil ?_
  refine .condP rfl (fun h4 => ?_) (fun h4 => ?_)
  · refine .skip ?_
    refine .seq ?_
    refine .block ?_
    refine .seq ?_
    obtain ⟨u, hu⟩ : ∃ u, x.nums[i]? = some u := ⟨_, List.getElem?_eq_getElem (by omega)⟩
    obtain ⟨w, hw⟩ : ∃ w, y.nums[i]? = some w := ⟨_, List.getElem?_eq_getElem (by omega)⟩
    refine .draws [3, 7] [arr 3 1 (some ⟨q1, 0, none⟩) 14 (x.nums.flatMap icell), arr 3 1 (some ⟨q2, 0, none⟩) 14 (y.nums.flatMap icell)] (by kernel_rfl) ?_
    refine .rp 0 rfl (by kernel_rfl) (by kernel_rfl) (by kernel_rfl) (Reads.pure (.move rfl)) ?_
    refine .rp 1 rfl (by kernel_rfl) (by kernel_rfl) (by kernel_rfl) (Reads.pure (.move rfl)) ?_
    refine .rp 2 rfl (by kernel_rfl) (by kernel_rfl) (by kernel_rfl) (Reads.pure (.indexAddr Try.underlying37 ts3 rfl rfl (by omega) (by omega))) ?_
    refine .rd 3 rfl rfl (by kernel_rfl) (by kernel_rfl) (by kernel_rfl) (.load na3 rfl (Knows.one (i := 0) (Knows.elem (f := icell) icell_len (by decide) (Knows.arr .head) hu) rfl)) (.cons (.tail (.tail .head)) (.cons (.tail (.tail .head)) .nil)) ?_
    refine .rp 4 rfl (by kernel_rfl) (by kernel_rfl) (by kernel_rfl) (Reads.pure (.move rfl)) ?_
    refine .rp 5 rfl (by kernel_rfl) (by kernel_rfl) (by kernel_rfl) (Reads.pure (.move rfl)) ?_
    refine .rp 6 rfl (by kernel_rfl) (by kernel_rfl) (by kernel_rfl) (Reads.pure (.indexAddr Try.underlying37 ts3 rfl rfl (by omega) (by omega))) ?_
    refine .rd 7 rfl rfl (by kernel_rfl) (by kernel_rfl) (by kernel_rfl) (.load na3 rfl (Knows.one (i := 0) (Knows.elem (f := icell) icell_len (by decide) (Knows.arr (.tail .head)) hw) rfl)) (.cons (.tail (.tail .head)) (.cons (.tail (.tail .head)) .nil)) ?_
    refine .rp 8 rfl (by kernel_rfl) (by kernel_rfl) (by kernel_rfl) (Reads.pure (.neI rfl rfl)) ?_
    refine .done (by kernel_rfl) ?_
    refine .condN rfl (fun h6 => ?_) (fun h6 => ?_)
    · have hno : x.msg ≠ y.msg := fun e => list_ne hu hw h6 (congrArg Msg.nums e)
      refine .seq ?_
      refine .region ?_
      refine .rd (.assign rfl) ?_
      refine .nil ?_
      refine .retP Try.func37 (.cons (.tmp rfl) .nil) (.cons (.tail (.tail (.tail (.tail .head)))) .nil) ?_
      exact ⟨[], ⟨false, rfl, ⟨fun h => absurd h Bool.false_ne_true, fun h => absurd h hno⟩, rfl⟩, rfl⟩
    · refine .skip ?_
      refine .inBlock ?_
      refine .region ?_
      refine .rd (.move rfl) ?_
      refine .rd (.add rfl rfl (by omega) (by omega)) ?_
      refine .rd (.assign rfl) ?_
      refine .nil ?_
      exact (ih (i + 1) ⟨by omega, take_same hI.2 hu hw h6⟩ (by omega)).to (.cons rfl (.cons rfl (.cons rfl (.cons rfl (.cons rfl .nil))))) (.cons .head (.cons .head (.cons .head (.cons .head (.cons .head .nil)))))
  · have hnums : x.msg.nums = y.msg.nums := by
      have := hI.2
      rwa [List.take_of_length_le (by omega), List.take_of_length_le (by omega)] at this
    refine .exit rfl ?_
    refine .seq ?_
    refine .seq ?_
    refine .region ?_
    refine .rd (.fieldAddr fd54_0 rfl) ?_
    refine .rd (.ld na3 rfl .head rfl) ?_
    refine .rd (.fieldAddr fd54_0 rfl) ?_
    refine .rd (.ld na3 rfl (.tail .head) rfl) ?_
    refine .rd (.neI rfl rfl) ?_
    refine .rd (.move rfl) ?_
    refine .split (t := 36) rfl (fun g5 => ?_) (fun g5 => ?_)
    · simp at g5
      have hno : x.msg ≠ y.msg := fun e => g5 (congrArg Msg.kind e)
      refine .off (t := 36) rfl rfl rfl ?_
      refine .off (t := 36) rfl rfl rfl ?_
      refine .off (t := 36) rfl rfl rfl ?_
      refine .off (t := 36) rfl rfl rfl ?_
      refine .off (t := 36) rfl rfl rfl ?_
      refine .rd (.pickT rfl rfl) ?_
      refine .rd (.move rfl) ?_
      refine .off (t := 43) rfl rfl rfl ?_
      refine .off (t := 43) rfl rfl rfl ?_
      refine .off (t := 43) rfl rfl rfl ?_
      refine .off (t := 43) rfl rfl rfl ?_
      refine .off (t := 43) rfl rfl rfl ?_
      refine .rd (.pickT rfl rfl) ?_
      refine .rd (.move rfl) ?_
      refine .off (t := 50) rfl rfl rfl ?_
      refine .off (t := 50) rfl rfl rfl ?_
      refine .off (t := 50) rfl rfl rfl ?_
      refine .off (t := 50) rfl rfl rfl ?_
      refine .off (t := 50) rfl rfl rfl ?_
      refine .rd (.pickT rfl rfl) ?_
      refine .rd (.move rfl) ?_
      refine .off (t := 57) rfl rfl rfl ?_
      refine .off (t := 57) rfl rfl rfl ?_
      refine .off (t := 57) rfl rfl rfl ?_
      refine .off (t := 57) rfl rfl rfl ?_
      refine .off (t := 57) rfl rfl rfl ?_
      refine .off (t := 57) rfl rfl rfl ?_
      refine .off (t := 57) rfl rfl rfl ?_
      refine .rd (.pickT rfl rfl) ?_
      refine .rd (.move rfl) ?_
      refine .off (t := 66) rfl rfl rfl ?_
      refine .off (t := 66) rfl rfl rfl ?_
      refine .off (t := 66) rfl rfl rfl ?_
      refine .off (t := 66) rfl rfl rfl ?_
      refine .off (t := 66) rfl rfl rfl ?_
      refine .off (t := 66) rfl rfl rfl ?_
      refine .off (t := 66) rfl rfl rfl ?_
      refine .rd (.pickT rfl rfl) ?_
      refine .rd (.move rfl) ?_
      refine .off (t := 75) rfl rfl rfl ?_
      refine .off (t := 75) rfl rfl rfl ?_
      refine .off (t := 75) rfl rfl rfl ?_
      refine .off (t := 75) rfl rfl rfl ?_
      refine .off (t := 75) rfl rfl rfl ?_
      refine .off (t := 75) rfl rfl rfl ?_
      refine .off (t := 75) rfl rfl rfl ?_
      refine .rd (.pickT rfl rfl) ?_
      refine .nil ?_
      refine .condT rfl ?_
      refine .seq ?_
      refine .region ?_
      refine .rd (.assign rfl) ?_
      refine .nil ?_
      refine .retP Try.func37 (.cons (.tmp rfl) .nil) (.cons (.tail (.tail (.tail (.tail .head)))) .nil) ?_
      exact ⟨[], ⟨false, rfl, ⟨fun h => absurd h Bool.false_ne_true, fun h => absurd h hno⟩, rfl⟩, rfl⟩
    · simp at g5
      refine .on (t := 36) rfl rfl ?_
      refine .rd (.fieldAddr fd54_15 rfl) ?_
      refine .on (t := 36) rfl rfl ?_
      refine .rd (.ld na28 rfl .head rfl) ?_
      refine .on (t := 36) rfl rfl ?_
      refine .rd (.fieldAddr fd54_15 rfl) ?_
      refine .on (t := 36) rfl rfl ?_
      refine .rd (.ld na28 rfl (.tail .head) rfl) ?_
      refine .on (t := 36) rfl rfl ?_
      refine .rd (.neI rfl rfl) ?_
      refine .rd (.pickF rfl rfl) ?_
      refine .rd (.move rfl) ?_
      refine .split (t := 43) rfl (fun g12 => ?_) (fun g12 => ?_)
      · simp at g12
        have hno : x.msg ≠ y.msg := fun e => g12 (congrArg Msg.err e)
        refine .off (t := 43) rfl rfl rfl ?_
        refine .off (t := 43) rfl rfl rfl ?_
        refine .off (t := 43) rfl rfl rfl ?_
        refine .off (t := 43) rfl rfl rfl ?_
        refine .off (t := 43) rfl rfl rfl ?_
        refine .rd (.pickT rfl rfl) ?_
        refine .rd (.move rfl) ?_
        refine .off (t := 50) rfl rfl rfl ?_
        refine .off (t := 50) rfl rfl rfl ?_
        refine .off (t := 50) rfl rfl rfl ?_
        refine .off (t := 50) rfl rfl rfl ?_
        refine .off (t := 50) rfl rfl rfl ?_
        refine .rd (.pickT rfl rfl) ?_
        refine .rd (.move rfl) ?_
        refine .off (t := 57) rfl rfl rfl ?_
        refine .off (t := 57) rfl rfl rfl ?_
        refine .off (t := 57) rfl rfl rfl ?_
        refine .off (t := 57) rfl rfl rfl ?_
        refine .off (t := 57) rfl rfl rfl ?_
        refine .off (t := 57) rfl rfl rfl ?_
        refine .off (t := 57) rfl rfl rfl ?_
        refine .rd (.pickT rfl rfl) ?_
        refine .rd (.move rfl) ?_
        refine .off (t := 66) rfl rfl rfl ?_
        refine .off (t := 66) rfl rfl rfl ?_
        refine .off (t := 66) rfl rfl rfl ?_
        refine .off (t := 66) rfl rfl rfl ?_
        refine .off (t := 66) rfl rfl rfl ?_
        refine .off (t := 66) rfl rfl rfl ?_
        refine .off (t := 66) rfl rfl rfl ?_
        refine .rd (.pickT rfl rfl) ?_
        refine .rd (.move rfl) ?_
        refine .off (t := 75) rfl rfl rfl ?_
        refine .off (t := 75) rfl rfl rfl ?_
        refine .off (t := 75) rfl rfl rfl ?_
        refine .off (t := 75) rfl rfl rfl ?_
        refine .off (t := 75) rfl rfl rfl ?_
        refine .off (t := 75) rfl rfl rfl ?_
        refine .off (t := 75) rfl rfl rfl ?_
        refine .rd (.pickT rfl rfl) ?_
        refine .nil ?_
        refine .condT rfl ?_
        refine .seq ?_
        refine .region ?_
        refine .rd (.assign rfl) ?_
        refine .nil ?_
        refine .retP Try.func37 (.cons (.tmp rfl) .nil) (.cons (.tail (.tail (.tail (.tail .head)))) .nil) ?_
        exact ⟨[], ⟨false, rfl, ⟨fun h => absurd h Bool.false_ne_true, fun h => absurd h hno⟩, rfl⟩, rfl⟩
      · simp at g12
        refine .on (t := 43) rfl rfl ?_
        refine .rd (.fieldAddr fd54_16 rfl) ?_
        refine .on (t := 43) rfl rfl ?_
        refine .rd (.ld na9 rfl .head rfl) ?_
        refine .on (t := 43) rfl rfl ?_
        refine .rd (.fieldAddr fd54_16 rfl) ?_
        refine .on (t := 43) rfl rfl ?_
        refine .rd (.ld na9 rfl (.tail .head) rfl) ?_
        refine .on (t := 43) rfl rfl ?_
        refine .rd (.neT rfl rfl) ?_
        refine .rd (.pickF rfl rfl) ?_
        refine .rd (.move rfl) ?_
        refine .split (t := 50) rfl (fun g19 => ?_) (fun g19 => ?_)
        · simp at g19
          have hno : x.msg ≠ y.msg := fun e => g19 (congrArg Msg.name e)
          refine .off (t := 50) rfl rfl rfl ?_
          refine .off (t := 50) rfl rfl rfl ?_
          refine .off (t := 50) rfl rfl rfl ?_
          refine .off (t := 50) rfl rfl rfl ?_
          refine .off (t := 50) rfl rfl rfl ?_
          refine .rd (.pickT rfl rfl) ?_
          refine .rd (.move rfl) ?_
          refine .off (t := 57) rfl rfl rfl ?_
          refine .off (t := 57) rfl rfl rfl ?_
          refine .off (t := 57) rfl rfl rfl ?_
          refine .off (t := 57) rfl rfl rfl ?_
          refine .off (t := 57) rfl rfl rfl ?_
          refine .off (t := 57) rfl rfl rfl ?_
          refine .off (t := 57) rfl rfl rfl ?_
          refine .rd (.pickT rfl rfl) ?_
          refine .rd (.move rfl) ?_
          refine .off (t := 66) rfl rfl rfl ?_
          refine .off (t := 66) rfl rfl rfl ?_
          refine .off (t := 66) rfl rfl rfl ?_
          refine .off (t := 66) rfl rfl rfl ?_
          refine .off (t := 66) rfl rfl rfl ?_
          refine .off (t := 66) rfl rfl rfl ?_
          refine .off (t := 66) rfl rfl rfl ?_
          refine .rd (.pickT rfl rfl) ?_
          refine .rd (.move rfl) ?_
          refine .off (t := 75) rfl rfl rfl ?_
          refine .off (t := 75) rfl rfl rfl ?_
          refine .off (t := 75) rfl rfl rfl ?_
          refine .off (t := 75) rfl rfl rfl ?_
          refine .off (t := 75) rfl rfl rfl ?_
          refine .off (t := 75) rfl rfl rfl ?_
          refine .off (t := 75) rfl rfl rfl ?_
          refine .rd (.pickT rfl rfl) ?_
          refine .nil ?_
          refine .condT rfl ?_
          refine .seq ?_
          refine .region ?_
          refine .rd (.assign rfl) ?_
          refine .nil ?_
          refine .retP Try.func37 (.cons (.tmp rfl) .nil) (.cons (.tail (.tail (.tail (.tail .head)))) .nil) ?_
          exact ⟨[], ⟨false, rfl, ⟨fun h => absurd h Bool.false_ne_true, fun h => absurd h hno⟩, rfl⟩, rfl⟩
        · simp at g19
          refine .on (t := 50) rfl rfl ?_
          refine .rd (.fieldAddr fd54_17 rfl) ?_
          refine .on (t := 50) rfl rfl ?_
          refine .rd (.ld na9 rfl .head rfl) ?_
          refine .on (t := 50) rfl rfl ?_
          refine .rd (.fieldAddr fd54_17 rfl) ?_
          refine .on (t := 50) rfl rfl ?_
          refine .rd (.ld na9 rfl (.tail .head) rfl) ?_
          refine .on (t := 50) rfl rfl ?_
          refine .rd (.neT rfl rfl) ?_
          refine .rd (.pickF rfl rfl) ?_
          refine .rd (.move rfl) ?_
          refine .split (t := 57) rfl (fun g26 => ?_) (fun g26 => ?_)
          · simp at g26
            have hno : x.msg ≠ y.msg := fun e => g26 (congrArg Msg.text e)
            refine .off (t := 57) rfl rfl rfl ?_
            refine .off (t := 57) rfl rfl rfl ?_
            refine .off (t := 57) rfl rfl rfl ?_
            refine .off (t := 57) rfl rfl rfl ?_
            refine .off (t := 57) rfl rfl rfl ?_
            refine .off (t := 57) rfl rfl rfl ?_
            refine .off (t := 57) rfl rfl rfl ?_
            refine .rd (.pickT rfl rfl) ?_
            refine .rd (.move rfl) ?_
            refine .off (t := 66) rfl rfl rfl ?_
            refine .off (t := 66) rfl rfl rfl ?_
            refine .off (t := 66) rfl rfl rfl ?_
            refine .off (t := 66) rfl rfl rfl ?_
            refine .off (t := 66) rfl rfl rfl ?_
            refine .off (t := 66) rfl rfl rfl ?_
            refine .off (t := 66) rfl rfl rfl ?_
            refine .rd (.pickT rfl rfl) ?_
            refine .rd (.move rfl) ?_
            refine .off (t := 75) rfl rfl rfl ?_
            refine .off (t := 75) rfl rfl rfl ?_
            refine .off (t := 75) rfl rfl rfl ?_
            refine .off (t := 75) rfl rfl rfl ?_
            refine .off (t := 75) rfl rfl rfl ?_
            refine .off (t := 75) rfl rfl rfl ?_
            refine .off (t := 75) rfl rfl rfl ?_
            refine .rd (.pickT rfl rfl) ?_
            refine .nil ?_
            refine .condT rfl ?_
            refine .seq ?_
            refine .region ?_
            refine .rd (.assign rfl) ?_
            refine .nil ?_
            refine .retP Try.func37 (.cons (.tmp rfl) .nil) (.cons (.tail (.tail (.tail (.tail .head)))) .nil) ?_
            exact ⟨[], ⟨false, rfl, ⟨fun h => absurd h Bool.false_ne_true, fun h => absurd h hno⟩, rfl⟩, rfl⟩
          · simp at g26
            refine .on (t := 57) rfl rfl ?_
            refine .rd (.fieldAddr fd54_18 rfl) ?_
            refine .on (t := 57) rfl rfl ?_
            refine .rd (.ld na51 rfl .head rfl) ?_
            refine .on (t := 57) rfl rfl ?_
            refine .rd (.lenL rfl rfl Try.underlying51 rfl) ?_
            refine .on (t := 57) rfl rfl ?_
            refine .rd (.fieldAddr fd54_18 rfl) ?_
            refine .on (t := 57) rfl rfl ?_
            refine .rd (.ld na51 rfl (.tail .head) rfl) ?_
            refine .on (t := 57) rfl rfl ?_
            refine .rd (.lenL rfl rfl Try.underlying51 rfl) ?_
            refine .on (t := 57) rfl rfl ?_
            refine .rd (.neI rfl rfl) ?_
            refine .rd (.pickF rfl rfl) ?_
            refine .rd (.move rfl) ?_
            refine .split (t := 66) rfl (fun g35 => ?_) (fun g35 => ?_)
            · simp at g35
              have hno : x.msg ≠ y.msg := fun e => by have := congrArg (fun m => m.batches.length) e; simp only [MsgM.msg, List.length_map] at this; exact absurd this (by omega)
              refine .off (t := 66) rfl rfl rfl ?_
              refine .off (t := 66) rfl rfl rfl ?_
              refine .off (t := 66) rfl rfl rfl ?_
              refine .off (t := 66) rfl rfl rfl ?_
              refine .off (t := 66) rfl rfl rfl ?_
              refine .off (t := 66) rfl rfl rfl ?_
              refine .off (t := 66) rfl rfl rfl ?_
              refine .rd (.pickT rfl rfl) ?_
              refine .rd (.move rfl) ?_
              refine .off (t := 75) rfl rfl rfl ?_
              refine .off (t := 75) rfl rfl rfl ?_
              refine .off (t := 75) rfl rfl rfl ?_
              refine .off (t := 75) rfl rfl rfl ?_
              refine .off (t := 75) rfl rfl rfl ?_
              refine .off (t := 75) rfl rfl rfl ?_
              refine .off (t := 75) rfl rfl rfl ?_
              refine .rd (.pickT rfl rfl) ?_
              refine .nil ?_
              refine .condT rfl ?_
              refine .seq ?_
              refine .region ?_
              refine .rd (.assign rfl) ?_
              refine .nil ?_
              refine .retP Try.func37 (.cons (.tmp rfl) .nil) (.cons (.tail (.tail (.tail (.tail .head)))) .nil) ?_
              exact ⟨[], ⟨false, rfl, ⟨fun h => absurd h Bool.false_ne_true, fun h => absurd h hno⟩, rfl⟩, rfl⟩
            · simp at g35
              refine .on (t := 66) rfl rfl ?_
              refine .rd (.fieldAddr fd54_19 rfl) ?_
              refine .on (t := 66) rfl rfl ?_
              refine .rd (.ld na52 rfl .head rfl) ?_
              refine .on (t := 66) rfl rfl ?_
              refine .rd (.lenL rfl rfl Try.underlying52 rfl) ?_
              refine .on (t := 66) rfl rfl ?_
              refine .rd (.fieldAddr fd54_19 rfl) ?_
              refine .on (t := 66) rfl rfl ?_
              refine .rd (.ld na52 rfl (.tail .head) rfl) ?_
              refine .on (t := 66) rfl rfl ?_
              refine .rd (.lenL rfl rfl Try.underlying52 rfl) ?_
              refine .on (t := 66) rfl rfl ?_
              refine .rd (.neI rfl rfl) ?_
              refine .rd (.pickF rfl rfl) ?_
              refine .rd (.move rfl) ?_
              refine .split (t := 75) rfl (fun g44 => ?_) (fun g44 => ?_)
              · simp at g44
                have hno : x.msg ≠ y.msg := fun e => by have := congrArg (fun m => m.entries.length) e; simp only [MsgM.msg] at this; exact absurd this (by omega)
                refine .off (t := 75) rfl rfl rfl ?_
                refine .off (t := 75) rfl rfl rfl ?_
                refine .off (t := 75) rfl rfl rfl ?_
                refine .off (t := 75) rfl rfl rfl ?_
                refine .off (t := 75) rfl rfl rfl ?_
                refine .off (t := 75) rfl rfl rfl ?_
                refine .off (t := 75) rfl rfl rfl ?_
                refine .rd (.pickT rfl rfl) ?_
                refine .nil ?_
                refine .condT rfl ?_
                refine .seq ?_
                refine .region ?_
                refine .rd (.assign rfl) ?_
                refine .nil ?_
                refine .retP Try.func37 (.cons (.tmp rfl) .nil) (.cons (.tail (.tail (.tail (.tail .head)))) .nil) ?_
                exact ⟨[], ⟨false, rfl, ⟨fun h => absurd h Bool.false_ne_true, fun h => absurd h hno⟩, rfl⟩, rfl⟩
              · simp at g44
                refine .on (t := 75) rfl rfl ?_
                refine .rd (.fieldAddr fd54_20 rfl) ?_
                refine .on (t := 75) rfl rfl ?_
                refine .rd (.ld na37 rfl .head rfl) ?_
                refine .on (t := 75) rfl rfl ?_
                refine .rd (.lenL rfl rfl Try.underlying37 rfl) ?_
                refine .on (t := 75) rfl rfl ?_
                refine .rd (.fieldAddr fd54_20 rfl) ?_
                refine .on (t := 75) rfl rfl ?_
                refine .rd (.ld na37 rfl (.tail .head) rfl) ?_
                refine .on (t := 75) rfl rfl ?_
                refine .rd (.lenL rfl rfl Try.underlying37 rfl) ?_
                refine .on (t := 75) rfl rfl ?_
                refine .rd (.neI rfl rfl) ?_
                refine .rd (.pickF rfl rfl) ?_
                refine .nil ?_
                refine .condN rfl (fun hln => ?_) (fun hln => ?_)
                · have hno : x.msg ≠ y.msg := fun e => by have := congrArg (fun m => m.ints.length) e; simp only [MsgM.msg] at this; exact absurd this (by omega)
                  refine .seq ?_
                  refine .region ?_
                  refine .rd (.assign rfl) ?_
                  refine .nil ?_
                  refine .retP Try.func37 (.cons (.tmp rfl) .nil) (.cons (.tail (.tail (.tail (.tail .head)))) .nil) ?_
                  exact ⟨[], ⟨false, rfl, ⟨fun h => absurd h Bool.false_ne_true, fun h => absurd h hno⟩, rfl⟩, rfl⟩
                · refine .skip ?_
                  refine .seq ?_
                  refine .seq ?_
                  refine .region ?_
                  refine .rd (.assign rfl) ?_
                  refine .nil ?_
                  refine .block ?_
                  refine .loop (σ := Nat) (fun i => i ≤ x.bl.length ∧ (x.bl.take i).map (·.1) = (y.bl.take i).map (·.1)) (fun i => x.bl.length - i) (fun i => [(2, .pointer (some ⟨b2, 0, none⟩)), (3, .pointer (some ⟨b3, 0, none⟩)), (8, .int .i64 (i : Nat))]) (fun i => [blk b2 x.cells 54, blk b3 y.cells 54, R]) 0 ⟨Nat.zero_le _, by simp⟩ (.cons rfl (.cons rfl (.cons rfl .nil))) (.cons .head (.cons .head (.cons (.tail (.tail .head)) .nil))) (fun i hI ih => ?_)
                  have hil := hI.1
                  refine .seq ?_
                  refine .seq ?_
                  refine .region ?_
                  refine .rd (.move rfl) ?_
                  refine .rd (.fieldAddr fd54_18 rfl) ?_
                  refine .rd (.ld na51 rfl .head rfl) ?_
                  refine .rd (.lenL rfl rfl Try.underlying51 rfl) ?_
                  refine .rd (.lt rfl rfl) ?_
                  refine .nil ?_
                  refine .condP rfl (fun h11 => ?_) (fun h11 => ?_)
                  · refine .skip ?_
                    refine .seq ?_
                    refine .block ?_
                    refine .seq ?_
                    have hl2 : x.bl.length = y.bl.length := by omega
                    obtain ⟨u, hu⟩ : ∃ u, x.bl[i]? = some u := ⟨_, List.getElem?_eq_getElem (show i < x.bl.length by omega)⟩
                    obtain ⟨w, hw⟩ : ∃ w, y.bl[i]? = some w := ⟨_, List.getElem?_eq_getElem (show i < y.bl.length by omega)⟩
                    refine .tell (φ := ∃ b o, x.ba = some ⟨b, o, none⟩) (Knows.pick (.tail (.tail .head)) (k.mono fun _ h => RowAt.addr (h.1.1) (by rw [flat_length BatM.cells_len]; omega))) (fun h => ?_)
                    obtain ⟨bb, oo, hxa⟩ := h
                    refine .tell (φ := ∃ b o, y.ba = some ⟨b, o, none⟩) (Knows.pick (.tail (.tail .head)) (k.mono fun _ h => RowAt.addr (h.2.1) (by rw [flat_length BatM.cells_len]; omega))) (fun h => ?_)
                    obtain ⟨bc, oc, hya⟩ := h
                    refine .draws [1, 4, 6, 9] [blk b2 x.cells 54, blk b3 y.cells 54, R] (by kernel_rfl) ?_
                    refine .rp 0 rfl (by kernel_rfl) (by kernel_rfl) (by kernel_rfl) (Reads.pure (.fieldAddr fd54_18 rfl)) ?_
                    refine .rd 1 rfl rfl (by kernel_rfl) (by kernel_rfl) (by kernel_rfl) (.ld na51 rfl .head rfl) (.cons .head (.cons .head (.cons .head .nil))) ?_
                    refine .rp 2 rfl (by kernel_rfl) (by kernel_rfl) (by kernel_rfl) (Reads.pure (.move rfl)) ?_
                    refine .rp 3 rfl (by kernel_rfl) (by kernel_rfl) (by kernel_rfl) (Reads.pure (.indexAddr Try.underlying51 ts27 (by show some (Value.slice x.ba _ _) = _; rw [hxa]) rfl (by omega) (by omega))) ?_
                    refine .rd 4 rfl rfl (by kernel_rfl) (by kernel_rfl) (by kernel_rfl) (.loadN ia27 ts27 rfl rfl (Knows.elem (f := BatM.cells) BatM.cells_len (by decide) (Knows.pick (.tail (.tail .head)) (k.mono fun _ h => hxa ▸ (h.1.1))) hu)) (.cons .head (.cons .head (.cons .head .nil))) ?_
                    refine .rp 5 rfl (by kernel_rfl) (by kernel_rfl) (by kernel_rfl) (Reads.pure (.fieldAddr fd54_18 rfl)) ?_
                    refine .rd 6 rfl rfl (by kernel_rfl) (by kernel_rfl) (by kernel_rfl) (.ld na51 rfl (.tail .head) rfl) (.cons .head (.cons .head (.cons .head .nil))) ?_
                    refine .rp 7 rfl (by kernel_rfl) (by kernel_rfl) (by kernel_rfl) (Reads.pure (.move rfl)) ?_
                    refine .rp 8 rfl (by kernel_rfl) (by kernel_rfl) (by kernel_rfl) (Reads.pure (.indexAddr Try.underlying51 ts27 (by show some (Value.slice y.ba _ _) = _; rw [hya]) rfl (by omega) (by omega))) ?_
                    refine .rd 9 rfl rfl (by kernel_rfl) (by kernel_rfl) (by kernel_rfl) (.loadN ia27 ts27 rfl rfl (Knows.elem (f := BatM.cells) BatM.cells_len (by decide) (Knows.pick (.tail (.tail .head)) (k.mono fun _ h => hya ▸ (h.2.1))) hw)) (.cons .head (.cons .head (.cons .head .nil))) ?_
                    refine .ef 10 (by kernel_rfl) rfl (.fn rfl rfl .nil (Knows.pick (.tail (.tail .head)) (k.mono fun _ h => ⟨h.1.2.1 u (List.mem_of_getElem? hu), h.2.2.1 w (List.mem_of_getElem? hw)⟩)) (batch4_ok u.1 w.1 u.2.1 w.2.1 u.2.2 w.2.2 (by have := (hfx.bats u (List.mem_of_getElem? hu)).len; omega) (by have := (hfy.bats w (List.mem_of_getElem? hw)).len; omega))) ?_
                    rintro v _ ⟨G1, hq, rfl⟩
                    obtain ⟨r, rfl, hr, rfl⟩ := hq
                    simp only [List.nil_append]
                    refine ⟨.inl (by kernel_rfl), ?_⟩
                    refine .rp 11 rfl (by kernel_rfl) (by kernel_rfl) (by kernel_rfl) (Reads.pure (.assign rfl)) ?_
                    refine .done (by kernel_rfl) ?_
                    refine .seq ?_
                    refine .region ?_
                    refine .rd (.move rfl) ?_
                    refine .rd (.not rfl) ?_
                    refine .nil ?_
                    refine .cond rfl (fun h14 => ?_) (fun h14 => ?_)
                    · have hno : x.msg ≠ y.msg := fun e => list_ne (l := x.msg.batches) (m := y.msg.batches) (i := i) (x := u.1) (y := w.1) (by show (x.bl.map (·.1))[i]? = _; rw [List.getElem?_map, hu]; rfl) (by show (y.bl.map (·.1))[i]? = _; rw [List.getElem?_map, hw]; rfl) (fun e2 => by rw [hr.2 e2] at h14; cases h14) (congrArg Msg.batches e)
                      refine .seq ?_
                      refine .region ?_
                      refine .rd (.assign rfl) ?_
                      refine .nil ?_
                      refine .retP Try.func37 (.cons (.tmp rfl) .nil) (.cons (.tail (.tail .head)) .nil) ?_
                      exact ⟨[], ⟨false, rfl, ⟨fun h => absurd h Bool.false_ne_true, fun h => absurd h hno⟩, rfl⟩, rfl⟩
                    · replace h14 : u.1 = w.1 := hr.1 (by simpa using h14)
                      refine .skip ?_
                      refine .inBlock ?_
                      refine .region ?_
                      refine .rd (.move rfl) ?_
                      refine .rd (.add rfl rfl (by omega) (by omega)) ?_
                      refine .rd (.assign rfl) ?_
                      refine .nil ?_
                      exact (ih (i + 1) ⟨by omega, by rw [List.take_add_one, List.take_add_one, hu, hw, List.map_append, List.map_append, hI.2, Option.toList_some, Option.toList_some, List.map_singleton, List.map_singleton, h14]⟩ (by omega)).to (.cons rfl (.cons rfl (.cons rfl .nil))) (.cons .head (.cons .head (.cons .head .nil)))
                  · have hbats : x.msg.batches = y.msg.batches := by
                      have := hI.2
                      rwa [List.take_of_length_le (by omega), List.take_of_length_le (by omega)] at this
                    refine .exit rfl ?_
                    refine .seq ?_
                    refine .seq ?_
                    refine .region ?_
                    refine .rd (.assign rfl) ?_
                    refine .nil ?_
                    refine .block ?_
                    refine .loop (σ := Nat) (fun i => i ≤ x.el.length ∧ x.el.take i = y.el.take i) (fun i => x.el.length - i) (fun i => [(2, .pointer (some ⟨b2, 0, none⟩)), (3, .pointer (some ⟨b3, 0, none⟩)), (10, .int .i64 (i : Nat))]) (fun i => [blk b2 x.cells 54, blk b3 y.cells 54, R]) 0 ⟨Nat.zero_le _, by simp⟩ (.cons rfl (.cons rfl (.cons rfl .nil))) (.cons .head (.cons .head (.cons .head .nil))) (fun i hI ih => ?_)
                    have hil := hI.1
                    refine .seq ?_
                    refine .seq ?_
                    refine .region ?_
                    refine .rd (.move rfl) ?_
                    refine .rd (.fieldAddr fd54_19 rfl) ?_
                    refine .rd (.ld na52 rfl .head rfl) ?_
                    refine .rd (.lenL rfl rfl Try.underlying52 rfl) ?_
                    refine .rd (.lt rfl rfl) ?_
                    refine .nil ?_
                    refine .condP rfl (fun h17 => ?_) (fun h17 => ?_)
                    · refine .skip ?_
                      refine .seq ?_
                      refine .block ?_
                      refine .seq ?_
                      have hl2 : x.el.length = y.el.length := by omega
                      obtain ⟨u, hu⟩ : ∃ u, x.el[i]? = some u := ⟨_, List.getElem?_eq_getElem (show i < x.el.length by omega)⟩
                      obtain ⟨w, hw⟩ : ∃ w, y.el[i]? = some w := ⟨_, List.getElem?_eq_getElem (show i < y.el.length by omega)⟩
                      refine .tell (φ := ∃ b o, x.ea = some ⟨b, o, none⟩) (Knows.pick (.tail (.tail .head)) (k.mono fun _ h => RowAt.addr (h.1.2.2.1) (by rw [flat_length Ent.cells_len]; omega))) (fun h => ?_)
                      obtain ⟨bb, oo, hxa⟩ := h
                      refine .tell (φ := ∃ b o, y.ea = some ⟨b, o, none⟩) (Knows.pick (.tail (.tail .head)) (k.mono fun _ h => RowAt.addr (h.2.2.2.1) (by rw [flat_length Ent.cells_len]; omega))) (fun h => ?_)
                      obtain ⟨bc, oc, hya⟩ := h
                      refine .draws [1, 4, 6, 9] [blk b2 x.cells 54, blk b3 y.cells 54, R] (by kernel_rfl) ?_
                      refine .rp 0 rfl (by kernel_rfl) (by kernel_rfl) (by kernel_rfl) (Reads.pure (.fieldAddr fd54_19 rfl)) ?_
                      refine .rd 1 rfl rfl (by kernel_rfl) (by kernel_rfl) (by kernel_rfl) (.ld na52 rfl .head rfl) (.cons .head (.cons .head (.cons .head .nil))) ?_
                      refine .rp 2 rfl (by kernel_rfl) (by kernel_rfl) (by kernel_rfl) (Reads.pure (.move rfl)) ?_
                      refine .rp 3 rfl (by kernel_rfl) (by kernel_rfl) (by kernel_rfl) (Reads.pure (.indexAddr Try.underlying52 ts86 (by show some (Value.slice x.ea _ _) = _; rw [hxa]) rfl (by omega) (by omega))) ?_
                      refine .rd 4 rfl rfl (by kernel_rfl) (by kernel_rfl) (by kernel_rfl) (.loadN ia86 ts86 rfl rfl (Knows.elem (f := Ent.cells) Ent.cells_len (by decide) (Knows.pick (.tail (.tail .head)) (k.mono fun _ h => hxa ▸ (h.1.2.2.1))) hu)) (.cons .head (.cons .head (.cons .head .nil))) ?_
                      refine .rp 5 rfl (by kernel_rfl) (by kernel_rfl) (by kernel_rfl) (Reads.pure (.fieldAddr fd54_19 rfl)) ?_
                      refine .rd 6 rfl rfl (by kernel_rfl) (by kernel_rfl) (by kernel_rfl) (.ld na52 rfl (.tail .head) rfl) (.cons .head (.cons .head (.cons .head .nil))) ?_
                      refine .rp 7 rfl (by kernel_rfl) (by kernel_rfl) (by kernel_rfl) (Reads.pure (.move rfl)) ?_
                      refine .rp 8 rfl (by kernel_rfl) (by kernel_rfl) (by kernel_rfl) (Reads.pure (.indexAddr Try.underlying52 ts86 (by show some (Value.slice y.ea _ _) = _; rw [hya]) rfl (by omega) (by omega))) ?_
                      refine .rd 9 rfl rfl (by kernel_rfl) (by kernel_rfl) (by kernel_rfl) (.loadN ia86 ts86 rfl rfl (Knows.elem (f := Ent.cells) Ent.cells_len (by decide) (Knows.pick (.tail (.tail .head)) (k.mono fun _ h => hya ▸ (h.2.2.2.1))) hw)) (.cons .head (.cons .head (.cons .head .nil))) ?_
                      refine .rp 10 rfl (by kernel_rfl) (by kernel_rfl) (by kernel_rfl) (Reads.pure (.neA (xs := u.cells.toArray) (ys := w.cells.toArray) (by kernel_rfl) rfl (eq86 _ _) rfl rfl)) ?_
                      refine .done (by kernel_rfl) ?_
                      refine .condN rfl (fun h19 => ?_) (fun h19 => ?_)
                      · have hno : x.msg ≠ y.msg := fun e => list_ne hu hw h19 (congrArg Msg.entries e)
                        refine .seq ?_
                        refine .region ?_
                        refine .rd (.assign rfl) ?_
                        refine .nil ?_
                        refine .retP Try.func37 (.cons (.tmp rfl) .nil) (.cons (.tail (.tail .head)) .nil) ?_
                        exact ⟨[], ⟨false, rfl, ⟨fun h => absurd h Bool.false_ne_true, fun h => absurd h hno⟩, rfl⟩, rfl⟩
                      · refine .skip ?_
                        refine .inBlock ?_
                        refine .region ?_
                        refine .rd (.move rfl) ?_
                        refine .rd (.add rfl rfl (by omega) (by omega)) ?_
                        refine .rd (.assign rfl) ?_
                        refine .nil ?_
                        exact (ih (i + 1) ⟨by omega, take_same hI.2 hu hw h19⟩ (by omega)).to (.cons rfl (.cons rfl (.cons rfl .nil))) (.cons .head (.cons .head (.cons .head .nil)))
                    · have hents : x.msg.entries = y.msg.entries := by
                        have := hI.2
                        rwa [List.take_of_length_le (by omega), List.take_of_length_le (by omega)] at this
                      refine .exit rfl ?_
                      refine .seq ?_
                      refine .seq ?_
                      refine .region ?_
                      refine .rd (.assign rfl) ?_
                      refine .nil ?_
                      refine .block ?_
                      refine .loop (σ := Nat) (fun i => i ≤ x.il.length ∧ x.il.take i = y.il.take i) (fun i => x.il.length - i) (fun i => [(2, .pointer (some ⟨b2, 0, none⟩)), (3, .pointer (some ⟨b3, 0, none⟩)), (11, .int .i64 (i : Nat))]) (fun i => [blk b2 x.cells 54, blk b3 y.cells 54, R]) 0 ⟨Nat.zero_le _, by simp⟩ (.cons rfl (.cons rfl (.cons rfl .nil))) (.cons .head (.cons .head (.cons .head .nil))) (fun i hI ih => ?_)
                      have hil := hI.1
                      refine .seq ?_
                      refine .seq ?_
                      refine .region ?_
                      refine .rd (.move rfl) ?_
                      refine .rd (.fieldAddr fd54_20 rfl) ?_
                      refine .rd (.ld na37 rfl .head rfl) ?_
                      refine .rd (.lenL rfl rfl Try.underlying37 rfl) ?_
                      refine .rd (.lt rfl rfl) ?_
                      refine .nil ?_
                      refine .condP rfl (fun h22 => ?_) (fun h22 => ?_)
                      · refine .skip ?_
                        refine .seq ?_
                        refine .block ?_
                        refine .seq ?_
                        have hl2 : x.il.length = y.il.length := by omega
                        obtain ⟨u, hu⟩ : ∃ u, x.il[i]? = some u := ⟨_, List.getElem?_eq_getElem (show i < x.il.length by omega)⟩
                        obtain ⟨w, hw⟩ : ∃ w, y.il[i]? = some w := ⟨_, List.getElem?_eq_getElem (show i < y.il.length by omega)⟩
                        refine .tell (φ := ∃ b o, x.ia = some ⟨b, o, none⟩) (Knows.pick (.tail (.tail .head)) (k.mono fun _ h => RowAt.addr (h.1.2.2.2) (by rw [flat_length icell_len]; omega))) (fun h => ?_)
                        obtain ⟨bb, oo, hxa⟩ := h
                        refine .tell (φ := ∃ b o, y.ia = some ⟨b, o, none⟩) (Knows.pick (.tail (.tail .head)) (k.mono fun _ h => RowAt.addr (h.2.2.2.2) (by rw [flat_length icell_len]; omega))) (fun h => ?_)
                        obtain ⟨bc, oc, hya⟩ := h
                        refine .draws [1, 4, 6, 9] [blk b2 x.cells 54, blk b3 y.cells 54, R] (by kernel_rfl) ?_
                        refine .rp 0 rfl (by kernel_rfl) (by kernel_rfl) (by kernel_rfl) (Reads.pure (.fieldAddr fd54_20 rfl)) ?_
                        refine .rd 1 rfl rfl (by kernel_rfl) (by kernel_rfl) (by kernel_rfl) (.ld na37 rfl .head rfl) (.cons .head (.cons .head (.cons .head .nil))) ?_
                        refine .rp 2 rfl (by kernel_rfl) (by kernel_rfl) (by kernel_rfl) (Reads.pure (.move rfl)) ?_
                        refine .rp 3 rfl (by kernel_rfl) (by kernel_rfl) (by kernel_rfl) (Reads.pure (.indexAddr Try.underlying37 ts3 (by show some (Value.slice x.ia _ _) = _; rw [hxa]) rfl (by omega) (by omega))) ?_
                        refine .rd 4 rfl rfl (by kernel_rfl) (by kernel_rfl) (by kernel_rfl) (.load na3 rfl (Knows.one (i := 0) (Knows.elem (f := icell) icell_len (by decide) (Knows.pick (.tail (.tail .head)) (k.mono fun _ h => hxa ▸ (h.1.2.2.2))) hu) rfl)) (.cons .head (.cons .head (.cons .head .nil))) ?_
                        refine .rp 5 rfl (by kernel_rfl) (by kernel_rfl) (by kernel_rfl) (Reads.pure (.fieldAddr fd54_20 rfl)) ?_
                        refine .rd 6 rfl rfl (by kernel_rfl) (by kernel_rfl) (by kernel_rfl) (.ld na37 rfl (.tail .head) rfl) (.cons .head (.cons .head (.cons .head .nil))) ?_
                        refine .rp 7 rfl (by kernel_rfl) (by kernel_rfl) (by kernel_rfl) (Reads.pure (.move rfl)) ?_
                        refine .rp 8 rfl (by kernel_rfl) (by kernel_rfl) (by kernel_rfl) (Reads.pure (.indexAddr Try.underlying37 ts3 (by show some (Value.slice y.ia _ _) = _; rw [hya]) rfl (by omega) (by omega))) ?_
                        refine .rd 9 rfl rfl (by kernel_rfl) (by kernel_rfl) (by kernel_rfl) (.load na3 rfl (Knows.one (i := 0) (Knows.elem (f := icell) icell_len (by decide) (Knows.pick (.tail (.tail .head)) (k.mono fun _ h => hya ▸ (h.2.2.2.2))) hw) rfl)) (.cons .head (.cons .head (.cons .head .nil))) ?_
                        refine .rp 10 rfl (by kernel_rfl) (by kernel_rfl) (by kernel_rfl) (Reads.pure (.neI rfl rfl)) ?_
                        refine .done (by kernel_rfl) ?_
                        refine .condN rfl (fun h24 => ?_) (fun h24 => ?_)
                        · have hno : x.msg ≠ y.msg := fun e => list_ne hu hw h24 (congrArg Msg.ints e)
                          refine .seq ?_
                          refine .region ?_
                          refine .rd (.assign rfl) ?_
                          refine .nil ?_
                          refine .retP Try.func37 (.cons (.tmp rfl) .nil) (.cons (.tail (.tail .head)) .nil) ?_
                          exact ⟨[], ⟨false, rfl, ⟨fun h => absurd h Bool.false_ne_true, fun h => absurd h hno⟩, rfl⟩, rfl⟩
                        · refine .skip ?_
                          refine .inBlock ?_
                          refine .region ?_
                          refine .rd (.move rfl) ?_
                          refine .rd (.add rfl rfl (by omega) (by omega)) ?_
                          refine .rd (.assign rfl) ?_
                          refine .nil ?_
                          exact (ih (i + 1) ⟨by omega, take_same hI.2 hu hw h24⟩ (by omega)).to (.cons rfl (.cons rfl (.cons rfl .nil))) (.cons .head (.cons .head (.cons .head .nil)))
                      · have hints : x.msg.ints = y.msg.ints := by
                          have := hI.2
                          rwa [List.take_of_length_le (by omega), List.take_of_length_le (by omega)] at this
                        have hyes : x.msg = y.msg := msg_ext g5 hnums g12 g19 g26 hbats hents hints
                        refine .exit rfl ?_
                        refine .seq ?_
                        refine .region ?_
                        refine .rd (.assign rfl) ?_
                        refine .nil ?_
                        refine .retP Try.func37 (.cons (.tmp rfl) .nil) (.cons (.tail (.tail .head)) .nil) ?_
                        exact ⟨[], ⟨true, rfl, ⟨fun _ => hyes, fun _ => rfl⟩, rfl⟩, rfl⟩

end Go.Proofs.Ytllpkagplfmlbaa


namespace Go.Proofs.Ytllpkagplfmlbaa
open Go Go.Sp

set_option linter.unusedVariables false

namespace wire15
theorem ti27 : TI Try.prog 27 6 64 (.agg #[.int .i64 0, .int .i64 0, .int .i64 0, .int .i64 0, .int .i64 0, .slice none 0 0]) := .of (by kernel_rfl)
theorem bld27_  (w : World) : (Instr.build 27 (([] : List Nat).zip []).toArray).run Try.prog w = .ok (.agg #[.int .i64 0, .int .i64 0, .int .i64 0, .int .i64 0, .int .i64 0, .slice none 0 0]) w := by kernel_rfl
theorem ts27 : TS Try.prog 27 6 := .of (by kernel_rfl)
theorem ia27 : IsAgg Try.prog 27 := ⟨_, Try.underlying27, trivial⟩
theorem bld80_0 (x0 : ByteArray) (w : World) : (Instr.build 80 (([0] : List Nat).zip [.string x0]).toArray).run Try.prog w = .ok (.agg #[.string x0, .bool false]) w := by kernel_rfl
theorem fd27_0 : FD Try.prog 27 0 0 := .of Try.underlying27 (by kernel_rfl)
theorem ts3 : TS Try.prog 3 1 := .of (by kernel_rfl)
theorem fd27_1 : FD Try.prog 27 1 1 := .of Try.underlying27 (by kernel_rfl)
theorem fd27_2 : FD Try.prog 27 2 2 := .of Try.underlying27 (by kernel_rfl)
theorem fd27_3 : FD Try.prog 27 3 3 := .of Try.underlying27 (by kernel_rfl)
theorem fd27_4 : FD Try.prog 27 4 4 := .of Try.underlying27 (by kernel_rfl)
theorem bld65_2 (x0 : Int) (w : World) : (Instr.build 65 (([2] : List Nat).zip [.int .i64 x0]).toArray).run Try.prog w = .ok (.agg #[.string ⟨#[]⟩, .string ⟨#[]⟩, .int .i64 x0]) w := by kernel_rfl
theorem ti65 : TI Try.prog 65 3 40 (.agg #[.string ⟨#[]⟩, .string ⟨#[]⟩, .int .i64 0]) := .of (by kernel_rfl)
theorem ts65 : TS Try.prog 65 3 := .of (by kernel_rfl)
theorem fd65_0 : FD Try.prog 65 0 0 := .of Try.underlying65 (by kernel_rfl)
theorem ts9 : TS Try.prog 9 1 := .of (by kernel_rfl)
theorem fd65_1 : FD Try.prog 65 1 1 := .of Try.underlying65 (by kernel_rfl)
theorem fd27_5 : FD Try.prog 27 5 5 := .of Try.underlying27 (by kernel_rfl)
theorem na25 : NotAgg Try.prog 25 := ⟨_, Try.underlying25, trivial⟩
theorem ia65 : IsAgg Try.prog 65 := ⟨_, Try.underlying65, trivial⟩
theorem ts25 : TS Try.prog 25 1 := .of (by kernel_rfl)
theorem fd80_1 : FD Try.prog 80 1 1 := .of Try.underlying80 (by kernel_rfl)
theorem na4 : NotAgg Try.prog 4 := ⟨_, Try.underlying4, trivial⟩
theorem fd80_0 : FD Try.prog 80 0 0 := .of Try.underlying80 (by kernel_rfl)
theorem na9 : NotAgg Try.prog 9 := ⟨_, Try.underlying9, trivial⟩
end wire15
open wire15

theorem pBatch_many {good : Bool} {l t : List UInt8} {xs : List Int} {n : Int} (h : Fol good l (pHead t) (xs, n)) (hn : ¬ (1 ≤ n ∧ n ≤ 64)) : pBatch t = none := by
  unfold pBatch
  rcases h with ⟨_, h⟩ | ⟨_, h⟩
  · rw [h]; exact if_neg hn
  · rw [h]; rfl

set_option maxHeartbeats 1000000 in
set_option maxRecDepth 20000 in
theorem rReadBatch_ok (s : List UInt8) (hl : s.length ≤ 9000000000000000000) : Cn Try.prog 23 [.string (str s)] (fun _ => True) [] fun v G => ∃ a' c', v = .tuple #[.agg ((readBatch s).1.cells a' c').toArray, .int .i64 (readBatch s).2.1, .int .i64 (readBatch s).2.2] ∧ G = [arr 65 3 a' c' ((readBatch s).1.recs.flatMap Rec.cells)] := by
  refine .enter Try.func23 rfl (by kernel_rfl) rfl fun R k => ?_
  refine .seq ?_
  refine .region ?_
  refine .ef (.alloc ti27 rfl (ones.of rfl)) ?_
  rintro _ _ ⟨b2, rfl, rfl⟩
  refine .rd (.assign rfl) ?_
  refine .rd (.assign rfl) ?_
  refine .nil ?_
  refine .seq ?_
  refine .seq ?_
  refine .region ?_
  refine .rd (.move rfl) ?_
  refine .rd (.lenT rfl rfl Try.underlying9 rfl) ?_
  refine .rd (.lt rfl rfl) ?_
  refine .nil ?_
  refine .condP rfl (fun h2 => ?_) (fun h2 => ?_)
  · refine .seq ?_
    refine .region ?_
    refine .rd (.build rfl (bld27_)) ?_
    refine .ef0 (.storeAll (vs := [.int .i64 0, .int .i64 0, .int .i64 0, .int .i64 0, .int .i64 0, .slice none 0 0]) ts27 rfl rfl rfl .head rfl (ones.of rfl)) ?_
    rintro _ _ rfl
    refine .rd (.assign rfl) ?_
    refine .rd (.assign rfl) ?_
    refine .nil ?_
    rw [readBatch_short (s := s) (by omega)]
    refine .nilArr 65 3 none ?_
    refine .retP Try.func23 (.cons (.blkN ia27 ts27 rfl (.tail .head) rfl) (.cons (.tmp rfl) (.cons (.tmp rfl) .nil))) (.cons .head (.cons (.tail .head) .nil)) ?_
    exact ⟨[_], ⟨none, 0, rfl, rfl⟩, rfl⟩
  · refine .skip ?_
    refine .seq ?_
    refine .region ?_
    refine .rd (.move rfl) ?_
    refine .fn rfl rfl .nil (fun _ _ _ => trivial) (rfour_ok s (by omega)) (fun v G1 hq => ?_)
    obtain ⟨rfl, rfl⟩ := hq
    simp only [List.nil_append]
    refine .rd (.assign rfl) ?_
    refine .nil ?_
    refine .seq ?_
    refine .seq ?_
    refine .region ?_
    refine .rd (.move rfl) ?_
    refine .rd (.gt rfl rfl) ?_
    refine .nil ?_
    refine .condP rfl (fun h4 => ?_) (fun h4 => ?_)
    · refine .seq ?_
      refine .region ?_
      refine .rd (.build rfl (bld27_)) ?_
      refine .ef0 (.storeAll (vs := [.int .i64 0, .int .i64 0, .int .i64 0, .int .i64 0, .int .i64 0, .slice none 0 0]) ts27 rfl rfl rfl .head rfl (ones.of rfl)) ?_
      rintro _ _ rfl
      refine .rd (.assign rfl) ?_
      refine .rd (.assign rfl) ?_
      refine .nil ?_
      rw [readBatch_long (s := s) (by omega) (by omega)]
      refine .nilArr 65 3 none ?_
      refine .retP Try.func23 (.cons (.blkN ia27 ts27 rfl (.tail .head) rfl) (.cons (.tmp rfl) (.cons (.tmp rfl) .nil))) (.cons .head (.cons (.tail .head) .nil)) ?_
      exact ⟨[_], ⟨none, 0, rfl, rfl⟩, rfl⟩
    · refine .skip ?_
      refine .seq ?_
      refine .seq ?_
      refine .region ?_
      refine .rd (.move rfl) ?_
      refine .rd (.lenT rfl rfl Try.underlying9 rfl) ?_
      refine .rd (.move rfl) ?_
      refine .rd (.add rfl rfl (by omega) (by omega)) ?_
      refine .rd (.lt rfl rfl) ?_
      refine .nil ?_
      refine .condP rfl (fun h6 => ?_) (fun h6 => ?_)
      · refine .seq ?_
        refine .region ?_
        refine .rd (.build rfl (bld27_)) ?_
        refine .ef0 (.storeAll (vs := [.int .i64 0, .int .i64 0, .int .i64 0, .int .i64 0, .int .i64 0, .slice none 0 0]) ts27 rfl rfl rfl .head rfl (ones.of rfl)) ?_
        rintro _ _ rfl
        refine .rd (.assign rfl) ?_
        refine .rd (.assign rfl) ?_
        refine .nil ?_
        rw [readBatch_cut (s := s) (by omega) (by omega) (by omega)]
        refine .nilArr 65 3 none ?_
        refine .retP Try.func23 (.cons (.blkN ia27 ts27 rfl (.tail .head) rfl) (.cons (.tmp rfl) (.cons (.tmp rfl) .nil))) (.cons .head (.cons (.tail .head) .nil)) ?_
        exact ⟨[_], ⟨none, 0, rfl, rfl⟩, rfl⟩
      · refine .skip ?_
        refine .seq ?_
        have h4l := four_lt s
        obtain ⟨t, ht⟩ : ∃ t, t = (s.drop 8).take (four s) := ⟨_, rfl⟩
        have htl : t.length ≤ 4088 := by rw [ht, List.length_take]; omega
        refine .region ?_
        refine .rd (.move rfl) ?_
        refine .rd (.move rfl) ?_
        refine .rd (.add rfl rfl (by omega) (by omega)) ?_
        refine .alter (t := 30) (v' := .int .i64 ((8 + four s : Nat) : Int)) rfl (by rw [Int.natCast_add]; rfl) ?_
        refine .rd (.sliceT (l := s) (a := 8) (h := (8 + four s)) Try.underlying9 rfl ⟨_, rfl⟩ ⟨_, rfl⟩ (by omega) (by omega)) ?_
        refine .alter (t := 31) (v' := .string (str t)) rfl (by rw [ht, Nat.add_sub_cancel_left]) ?_
        refine .rd (.assign rfl) ?_
        refine .nil ?_
        refine .seq ?_
        refine .seq ?_
        refine .draws [] [] (by kernel_rfl) ?_
        refine .rp 0 rfl (by kernel_rfl) (by kernel_rfl) (by kernel_rfl) (Reads.pure (.move rfl)) ?_
        refine .rp 2 rfl (by kernel_rfl) (by kernel_rfl) (by kernel_rfl) (Reads.pure (.move rfl)) ?_
        refine .rp 3 rfl (by kernel_rfl) (by kernel_rfl) (by kernel_rfl) (Reads.pure (.sliceT (l := s) (a := 4) (h := s.length) Try.underlying9 rfl ⟨_, rfl⟩ rfl (by omega) (by omega))) ?_
        refine .alter (t := 35) (v' := .string (str (s.drop 4))) rfl (by rw [List.take_of_length_le (by rw [List.length_drop]; omega)]) ?_
        refine .ef 1 (by kernel_rfl) rfl (.fn rfl rfl .nil (fun _ _ _ => trivial) (rCrc_ok t (by omega))) ?_
        rintro v _ ⟨G1, hq, rfl⟩
        obtain ⟨rfl, rfl⟩ := hq
        simp only [List.nil_append]
        refine ⟨.inl (by kernel_rfl), ?_⟩
        refine .ef 4 (by kernel_rfl) rfl (.fn rfl rfl .nil (fun _ _ _ => trivial) (rfour_ok (s.drop 4) (by rw [List.length_drop]; omega))) ?_
        rintro v _ ⟨G1, hq, rfl⟩
        obtain ⟨rfl, rfl⟩ := hq
        simp only [List.nil_append]
        refine ⟨.inl (by kernel_rfl), ?_⟩
        refine .rp 5 rfl (by kernel_rfl) (by kernel_rfl) (by kernel_rfl) (Reads.pure (.neI rfl rfl)) ?_
        refine .done (by kernel_rfl) ?_
        refine .condN rfl (fun h9 => ?_) (fun h9 => ?_)
        · refine .seq ?_
          refine .region ?_
          refine .rd (.build rfl (bld27_)) ?_
          refine .ef0 (.storeAll (vs := [.int .i64 0, .int .i64 0, .int .i64 0, .int .i64 0, .int .i64 0, .slice none 0 0]) ts27 rfl rfl rfl .head rfl (ones.of rfl)) ?_
          rintro _ _ rfl
          refine .rd (.assign rfl) ?_
          refine .rd (.assign rfl) ?_
          refine .nil ?_
          rw [readBatch_sum (s := s) (by omega) (by omega) (by omega) ht (by omega)]
          refine .nilArr 65 3 none ?_
          refine .retP Try.func23 (.cons (.blkN ia27 ts27 rfl (.tail .head) rfl) (.cons (.tmp rfl) (.cons (.tmp rfl) .nil))) (.cons .head (.cons (.tail .head) .nil)) ?_
          exact ⟨[_], ⟨none, 0, rfl, rfl⟩, rfl⟩
        · have hcs : (crc t).toNat = four (s.drop 4) := by omega
          refine .skip ?_
          refine .seq ?_
          refine .region ?_
          refine .rd (.move rfl) ?_
          refine .rd (.build rfl (bld80_0 _)) ?_
          refine .ef (.box rfl rfl (ones.of rfl)) ?_
          rintro _ _ ⟨b41, rfl, rfl⟩
          refine .rd (.assign rfl) ?_
          refine .nil ?_
          refine .seq ?_
          obtain ⟨q0, hq0⟩ : ∃ q : Rdr, q = (t, false) := ⟨_, rfl⟩
          have hF0 : Fol (!q0.2) q0.1 (pMany pI 0 t) [] := by rw [hq0]; exact .inl ⟨rfl, rfl⟩
          have hl0 : q0.1.length ≤ 4096 := by rw [hq0]; show t.length ≤ 4096; omega
          refine .cast (X' := blk b41 [.string (str q0.1), .bool q0.2] 80) (by rw [hq0]; rfl) ?_
          refine .region ?_
          refine .rd (.build rfl (bld27_)) ?_
          refine .ef (.alloc ti27 rfl (ones.of rfl)) ?_
          rintro _ _ ⟨b8, rfl, rfl⟩
          refine .ef0 (.storeAll (vs := [.int .i64 0, .int .i64 0, .int .i64 0, .int .i64 0, .int .i64 0, .slice none 0 0]) ts27 rfl rfl rfl .head rfl (ones.of rfl)) ?_
          rintro _ _ rfl
          refine .nil ?_
          refine .seq ?_
          refine .region ?_
          refine .rd (.move rfl) ?_
          refine .fn rfl rfl (.cons (.tail .head) .nil) (fun _ _ _ => trivial) (qdint_ok b41 q0 (by omega)) (fun v G1 hq => ?_)
          obtain ⟨rfl, rfl⟩ := hq
          simp only [List.cons_append, List.nil_append]
          have hi0 := qdI_i64 q0
          have hl1 := Nat.le_trans (qdI_len q0) hl0
          have hF1 : Fol _ _ (pMany pI 1 t) [(qdI q0).1] := hF0.qdI (f := fun xs x => xs ++ [x])
          generalize qdI q0 = z at hi0 hl1 hF1 ⊢
          obtain ⟨x0, q1⟩ := z
          dsimp only at hi0 hl1 hF1 ⊢
          refine .rd (.fieldAddr fd27_0 rfl) ?_
          refine .ef0 (.store ts3 rfl rfl (.tail .head) rfl (Nat.le_of_ble_eq_true rfl)) ?_
          rintro _ _ rfl
          refine .nil ?_
          refine .seq ?_
          refine .region ?_
          refine .rd (.move rfl) ?_
          refine .fn rfl rfl (.cons (.tail .head) .nil) (fun _ _ _ => trivial) (qdint_ok b41 q1 (by omega)) (fun v G1 hq => ?_)
          obtain ⟨rfl, rfl⟩ := hq
          simp only [List.cons_append, List.nil_append]
          have hi1 := qdI_i64 q1
          have hl2 := Nat.le_trans (qdI_len q1) hl1
          have hF2 : Fol _ _ (pMany pI 2 t) [x0, (qdI q1).1] := hF1.qdI (f := fun xs x => xs ++ [x])
          generalize qdI q1 = z at hi1 hl2 hF2 ⊢
          obtain ⟨x1, q2⟩ := z
          dsimp only at hi1 hl2 hF2 ⊢
          refine .rd (.fieldAddr fd27_1 rfl) ?_
          refine .ef0 (.store ts3 rfl rfl (.tail .head) rfl (Nat.le_of_ble_eq_true rfl)) ?_
          rintro _ _ rfl
          refine .nil ?_
          refine .seq ?_
          refine .region ?_
          refine .rd (.move rfl) ?_
          refine .fn rfl rfl (.cons (.tail .head) .nil) (fun _ _ _ => trivial) (qdint_ok b41 q2 (by omega)) (fun v G1 hq => ?_)
          obtain ⟨rfl, rfl⟩ := hq
          simp only [List.cons_append, List.nil_append]
          have hi2 := qdI_i64 q2
          have hl3 := Nat.le_trans (qdI_len q2) hl2
          have hF3 : Fol _ _ (pMany pI 3 t) [x0, x1, (qdI q2).1] := hF2.qdI (f := fun xs x => xs ++ [x])
          generalize qdI q2 = z at hi2 hl3 hF3 ⊢
          obtain ⟨x2, q3⟩ := z
          dsimp only at hi2 hl3 hF3 ⊢
          refine .rd (.fieldAddr fd27_2 rfl) ?_
          refine .ef0 (.store ts3 rfl rfl (.tail .head) rfl (Nat.le_of_ble_eq_true rfl)) ?_
          rintro _ _ rfl
          refine .nil ?_
          refine .seq ?_
          refine .region ?_
          refine .rd (.move rfl) ?_
          refine .fn rfl rfl (.cons (.tail .head) .nil) (fun _ _ _ => trivial) (qdint_ok b41 q3 (by omega)) (fun v G1 hq => ?_)
          obtain ⟨rfl, rfl⟩ := hq
          simp only [List.cons_append, List.nil_append]
          have hi3 := qdI_i64 q3
          have hl4 := Nat.le_trans (qdI_len q3) hl3
          have hF4 : Fol _ _ (pMany pI 4 t) [x0, x1, x2, (qdI q3).1] := hF3.qdI (f := fun xs x => xs ++ [x])
          generalize qdI q3 = z at hi3 hl4 hF4 ⊢
          obtain ⟨x3, q4⟩ := z
          dsimp only at hi3 hl4 hF4 ⊢
          refine .rd (.fieldAddr fd27_3 rfl) ?_
          refine .ef0 (.store ts3 rfl rfl (.tail .head) rfl (Nat.le_of_ble_eq_true rfl)) ?_
          rintro _ _ rfl
          refine .nil ?_
          refine .seq ?_
          refine .region ?_
          refine .rd (.move rfl) ?_
          refine .fn rfl rfl (.cons (.tail .head) .nil) (fun _ _ _ => trivial) (qdint_ok b41 q4 (by omega)) (fun v G1 hq => ?_)
          obtain ⟨rfl, rfl⟩ := hq
          simp only [List.cons_append, List.nil_append]
          have hi4 := qdI_i64 q4
          have hl5 := Nat.le_trans (qdI_len q4) hl4
          have hF5 : Fol _ _ (pMany pI 5 t) [x0, x1, x2, x3, (qdI q4).1] := hF4.qdI (f := fun xs x => xs ++ [x])
          generalize qdI q4 = z at hi4 hl5 hF5 ⊢
          obtain ⟨x4, q5⟩ := z
          dsimp only at hi4 hl5 hF5 ⊢
          refine .rd (.fieldAddr fd27_4 rfl) ?_
          refine .ef0 (.store ts3 rfl rfl (.tail .head) rfl (Nat.le_of_ble_eq_true rfl)) ?_
          rintro _ _ rfl
          refine .nil ?_
          refine .seq ?_
          refine .region ?_
          refine .rd (.move rfl) ?_
          refine .fn rfl rfl (.cons (.tail .head) .nil) (fun _ _ _ => trivial) (qdint_ok b41 q5 (by omega)) (fun v G1 hq => ?_)
          obtain ⟨rfl, rfl⟩ := hq
          simp only [List.cons_append, List.nil_append]
          have hi5 := qdI_i64 q5
          have hl6 := Nat.le_trans (qdI_len q5) hl5
          have hH : Fol _ _ (pHead t) ([x0, x1, x2, x3, x4], (qdI q5).1) := hF5.qdI (f := fun a b => (a, b))
          generalize qdI q5 = z at hi5 hl6 hH ⊢
          obtain ⟨n, q6⟩ := z
          dsimp only at hi5 hl6 hH ⊢
          refine .rd (.assign rfl) ?_
          refine .nil ?_
          refine .seq ?_
          refine .seq ?_
          refine .region ?_
          refine .rd (.move rfl) ?_
          refine .rd (.lt rfl rfl) ?_
          refine .rd (.move rfl) ?_
          refine .split (t := 62) rfl (fun g19 => ?_) (fun g19 => ?_)
          · replace g19 := of_decide_eq_true g19
            refine .off (t := 62) rfl rfl rfl ?_
            refine .off (t := 62) rfl rfl rfl ?_
            refine .rd (.pickT rfl rfl) ?_
            refine .nil ?_
            refine .condT rfl ?_
            refine .seq ?_
            refine .region ?_
            refine .rd (.build rfl (bld27_)) ?_
            refine .ef0 (.storeAll (vs := [.int .i64 0, .int .i64 0, .int .i64 0, .int .i64 0, .int .i64 0, .slice none 0 0]) ts27 rfl rfl rfl (.tail (.tail .head)) rfl (ones.of rfl)) ?_
            rintro _ _ rfl
            refine .rd (.assign rfl) ?_
            refine .rd (.assign rfl) ?_
            refine .nil ?_
            rw [readBatch_no (s := s) (by omega) (by omega) (by omega) ht hcs (pBatch_many hH (by omega))]
            refine .nilArr 65 3 none ?_
            refine .retP Try.func23 (.cons (.blkN ia27 ts27 rfl (.tail .head) rfl) (.cons (.tmp rfl) (.cons (.tmp rfl) .nil))) (.cons .head (.cons (.tail (.tail (.tail .head))) .nil)) ?_
            exact ⟨[_], ⟨none, 0, rfl, rfl⟩, rfl⟩
          · replace g19 := of_decide_eq_false g19
            refine .on (t := 62) rfl rfl ?_
            refine .rd (.move rfl) ?_
            refine .on (t := 62) rfl rfl ?_
            refine .rd (.gt rfl rfl) ?_
            refine .rd (.pickF rfl rfl) ?_
            refine .nil ?_
            refine .condP rfl (fun h19 => ?_) (fun h19 => ?_)
            · refine .seq ?_
              refine .region ?_
              refine .rd (.build rfl (bld27_)) ?_
              refine .ef0 (.storeAll (vs := [.int .i64 0, .int .i64 0, .int .i64 0, .int .i64 0, .int .i64 0, .slice none 0 0]) ts27 rfl rfl rfl (.tail (.tail .head)) rfl (ones.of rfl)) ?_
              rintro _ _ rfl
              refine .rd (.assign rfl) ?_
              refine .rd (.assign rfl) ?_
              refine .nil ?_
              rw [readBatch_no (s := s) (by omega) (by omega) (by omega) ht hcs (pBatch_many hH (by omega))]
              refine .nilArr 65 3 none ?_
              refine .retP Try.func23 (.cons (.blkN ia27 ts27 rfl (.tail .head) rfl) (.cons (.tmp rfl) (.cons (.tmp rfl) .nil))) (.cons .head (.cons (.tail (.tail (.tail .head))) .nil)) ?_
              exact ⟨[_], ⟨none, 0, rfl, rfl⟩, rfl⟩
            · refine .skip ?_
              refine .seq ?_
              refine .seq ?_
              have hxs : ∀ x ∈ [x0, x1, x2, x3, x4], i64 x := by
                intro x hx
                simp only [List.mem_cons, List.not_mem_nil, or_false] at hx
                rcases hx with rfl | rfl | rfl | rfl | rfl <;> assumption
              clear hF0 hF1 hF2 hF3 hF4 hF5 hl0 hl1 hl2 hl3 hl4 hl5
              refine .nilArr 65 3 none ?_
              refine .region ?_
              refine .rd (.assign rfl) ?_
              refine .nil ?_
              refine .block ?_
              refine .loop (σ := List Rec × Rdr × Option Addr × Nat) (fun ⟨rs, p, a', c'⟩ => (rs.length : Int) ≤ n ∧ (∀ r ∈ rs, i64 r.time ∧ r.key.length ≤ 1000 ∧ r.value.length ≤ 1000) ∧ p.1.length ≤ 4096 ∧ Fol (!p.2) p.1 (pPart rs.length t) (([x0, x1, x2, x3, x4], n), rs)) (fun ⟨rs, p, a', c'⟩ => 64 - rs.length) (fun ⟨rs, p, a', c'⟩ => [(2, .pointer (some ⟨b2, 0, none⟩)), (5, .int .i64 (four s : Int)), (7, .pointer (some ⟨b41, 0, none⟩)), (8, .pointer (some ⟨b8, 0, none⟩)), (9, .int .i64 n), (10, .int .i64 (rs.length : Int))]) (fun ⟨rs, p, a', c'⟩ => [blk b2 [.int .i64 0, .int .i64 0, .int .i64 0, .int .i64 0, .int .i64 0, .slice none 0 0] 27, blk b41 [.string (str p.1), .bool p.2] 80, blk b8 [.int .i64 x0, .int .i64 x1, .int .i64 x2, .int .i64 x3, .int .i64 x4, .slice a' rs.length c'] 27, arr 65 3 a' c' (rs.flatMap Rec.cells), R]) ([], q6, none, 0) ⟨by show ((0 : Nat) : Int) ≤ n; omega, by simp, hl6, pPart_zero hH⟩ (.cons rfl (.cons rfl (.cons rfl (.cons rfl (.cons rfl (.cons rfl .nil)))))) (.cons (.tail (.tail (.tail .head))) (.cons (.tail .head) (.cons (.tail .head) (.cons .head (.cons .head .nil))))) (fun s' hI ih => ?_)
              obtain ⟨rs, p, a', c'⟩ := s'
              dsimp only at hI ih ⊢
              have hm := hI.1
              have hpl := hI.2.2.1
              refine .seq ?_
              refine .seq ?_
              refine .region ?_
              refine .rd (.move rfl) ?_
              refine .rd (.move rfl) ?_
              refine .rd (.lt rfl rfl) ?_
              refine .nil ?_
              refine .condP rfl (fun h22 => ?_) (fun h22 => ?_)
              · refine .skip ?_
                refine .seq ?_
                refine .block ?_
                refine .seq ?_
                have hrl := qdI_len p
                have hrl2 := qdT_len 1000 (qdI p).2
                refine .region ?_
                refine .rd (.move rfl) ?_
                refine .fn rfl rfl (.cons (.tail .head) .nil) (fun _ _ _ => trivial) (qdint_ok b41 p (by omega)) (fun v G1 hq => ?_)
                obtain ⟨rfl, rfl⟩ := hq
                simp only [List.cons_append, List.nil_append]
                refine .rd (.build rfl (bld65_2 _)) ?_
                refine .ef (.alloc ti65 rfl (ones.of rfl)) ?_
                rintro _ _ ⟨b11, rfl, rfl⟩
                refine .ef0 (.storeAll ts65 rfl rfl rfl .head rfl (ones.of rfl)) ?_
                rintro _ _ rfl
                refine .nil ?_
                refine .seq ?_
                refine .region ?_
                refine .rd (.move rfl) ?_
                refine .fn rfl rfl (.cons (.tail .head) .nil) (fun _ _ _ => trivial) (qdtext_ok b41 (qdI p).2 1000 (by omega)) (fun v G1 hq => ?_)
                obtain ⟨rfl, rfl⟩ := hq
                simp only [List.cons_append, List.nil_append]
                refine .rd (.fieldAddr fd65_0 rfl) ?_
                refine .ef0 (.store ts9 rfl rfl (.tail .head) rfl (Nat.le_of_ble_eq_true rfl)) ?_
                rintro _ _ rfl
                refine .nil ?_
                refine .seq ?_
                refine .region ?_
                refine .rd (.move rfl) ?_
                refine .fn rfl rfl (.cons (.tail .head) .nil) (fun _ _ _ => trivial) (qdtext_ok b41 (qdT 1000 (qdI p).2).2 1000 (by omega)) (fun v G1 hq => ?_)
                obtain ⟨rfl, rfl⟩ := hq
                simp only [List.cons_append, List.nil_append]
                refine .rd (.fieldAddr fd65_1 rfl) ?_
                refine .ef0 (.store ts9 rfl rfl (.tail .head) rfl (Nat.le_of_ble_eq_true rfl)) ?_
                rintro _ _ rfl
                refine .nil ?_
                obtain ⟨tm, htm⟩ : ∃ tm, tm = (qdI p).1 := ⟨_, rfl⟩
                obtain ⟨k, hk⟩ : ∃ k, k = (qdT 1000 (qdI p).2).1 := ⟨_, rfl⟩
                obtain ⟨v, hv⟩ : ∃ v, v = (qdT 1000 (qdT 1000 (qdI p).2).2).1 := ⟨_, rfl⟩
                refine .cast (X' := blk b11 (Rec.cells ⟨k, v, tm⟩) 65) (by rw [htm, hk, hv]; rfl) ?_
                refine .region ?_
                refine .rd (.fieldAddr fd27_5 rfl) ?_
                refine .rd (.ld na25 rfl (.tail (.tail (.tail .head))) rfl) ?_
                refine .rd (.ldN ia65 ts65 rfl .head rfl) ?_
                refine .ef (.buildOne (cs := Rec.cells ⟨k, v, tm⟩) Try.underlying25 ti65 (by decide) rfl rfl rfl (ones.of rfl)) ?_
                rintro _ _ ⟨bs, rfl, rfl⟩
                refine .ef (.append rfl rfl Try.underlying25 ti65 rfl (ones.of rfl) (by decide) (by decide) rfl rfl (.tail (.tail (.tail (.tail (.tail .head))))) (n := rs.length) (m := 1) (by rw [flat_length Rec.cells_len]) (.srcBlk (ys := Rec.cells ⟨k, v, tm⟩) .head Try.underlying25 rfl (by decide)) (by omega)) ?_
                rintro _ _ ⟨ra, rc, rfl, rn, rfl⟩
                refine .rd (.fieldAddr fd27_5 rfl) ?_
                refine .ef0 (.store ts25 rfl rfl (.tail (.tail (.tail (.tail (.tail .head))))) rfl (Nat.le_of_ble_eq_true rfl)) ?_
                rintro _ _ rfl
                refine .nil ?_
                refine .perm (.cons (.tail .head) (.cons .head (.cons .head (.cons .head (.cons .head (.cons .head (.cons .head .nil))))))) ?_
                refine .cast (X' := arr 65 3 ra rc ((rs ++ [(⟨k, v, tm⟩ : Rec)]).flatMap Rec.cells)) (by rw [List.flatMap_append]; simp) ?_
                refine .perm (.cons (.tail .head) (.cons .head (.cons .head (.cons .head (.cons .head (.cons .head (.cons .head .nil))))))) ?_
                refine .cast (X' := blk b8 [.int .i64 x0, .int .i64 x1, .int .i64 x2, .int .i64 x3, .int .i64 x4, .slice ra (rs ++ [(⟨k, v, tm⟩ : Rec)]).length rc] 27) (by rw [List.length_append]; rfl) ?_
                refine .inBlock ?_
                refine .region ?_
                refine .rd (.move rfl) ?_
                refine .rd (.add rfl rfl (by omega) (by omega)) ?_
                refine .rd (.assign rfl) ?_
                refine .nil ?_
                have hf0 := ((hI.2.2.2.qdI (f := fun a b => (a, b))).qdT 1000 (f := fun a b => (a, b))).qdT 1000 (f := fun a b => (a, b))
                rw [← htm, ← hk, ← hv] at hf0
                have hpp := pPart_next (r := ⟨k, v, tm⟩) hf0
                exact (ih (rs ++ [(⟨k, v, tm⟩ : Rec)], (qdT 1000 (qdT 1000 (qdI p).2).2).2, ra, rc) ⟨by show (((rs ++ [_]).length : Nat) : Int) ≤ n; rw [List.length_append]; show ((rs.length + 1 : Nat) : Int) ≤ n; omega, all_snoc hI.2.1 ⟨by show i64 tm; rw [htm]; exact qdI_i64 _, by have := qdT_most (m := 1000) (qdI p).2 (by decide); show k.length ≤ 1000; rw [hk]; omega, by have := qdT_most (m := 1000) (qdT 1000 (qdI p).2).2 (by decide); show v.length ≤ 1000; rw [hv]; omega⟩, Nat.le_trans (qdT_len _ _) (Nat.le_trans (qdT_len _ _) (Nat.le_trans (qdI_len p) hI.2.2.1)), by rw [List.length_append]; exact hpp⟩ (by show 64 - (rs ++ [_]).length < _; rw [List.length_append]; show 64 - (rs.length + 1) < 64 - rs.length; omega)).to (.cons rfl (.cons rfl (.cons rfl (.cons rfl (.cons rfl (.cons (by show _ = some (Value.int .i64 ((rs ++ [(⟨k, v, tm⟩ : Rec)]).length : Int)); rw [List.length_append]; rfl) .nil)))))) (.cons (.tail (.tail (.tail (.tail (.tail .head))))) (.cons (.tail (.tail (.tail (.tail .head)))) (.cons .head (.cons .head (.cons (.tail (.tail .head)) .nil)))))
              · have hfb : (bat [x0, x1, x2, x3, x4] rs).fits := bat_fits rfl hxs hI.2.1 (by omega)
                have hrn : (rs.length : Int) = n := by omega
                refine .exit rfl ?_
                refine .seq ?_
                refine .region ?_
                refine .rd (.ldN ia27 ts27 rfl (.tail (.tail .head)) rfl) ?_
                refine .fn rfl rfl .nil (Knows.arr (.tail (.tail (.tail .head)))) (rRight_ok (bat [x0, x1, x2, x3, x4] rs) a' c' hfb) (fun v G1 hq => ?_)
                obtain ⟨rfl, rfl⟩ := hq
                simp only [List.nil_append]
                refine .rd (.assign rfl) ?_
                refine .nil ?_
                refine .seq ?_
                refine .seq ?_
                refine .region ?_
                refine RunO.join 15 103 (!decide ((!p.2) = true ∧ p.1 = [] ∧ right (bat [x0, x1, x2, x3, x4] rs) = 0)) ?_ ?_
                · refine .rd (.move rfl) ?_
                  refine .rd (.nilCheck rfl) ?_
                  refine .rd (.fieldAddr fd80_1 rfl) ?_
                  refine .rd (.ld na4 rfl (.tail .head) rfl) ?_
                  refine .rd (.move rfl) ?_
                  refine .split (t := 93) rfl (fun g29_4 => ?_) (fun g29_4 => ?_)
                  · refine .off (t := 93) rfl rfl rfl ?_
                    refine .off (t := 93) rfl rfl rfl ?_
                    refine .off (t := 93) rfl rfl rfl ?_
                    refine .off (t := 93) rfl rfl rfl ?_
                    refine .off (t := 93) rfl rfl rfl ?_
                    refine .rd (.pickT rfl rfl) ?_
                    refine .rd (.move rfl) ?_
                    refine .off (t := 100) rfl rfl rfl ?_
                    refine .off (t := 100) rfl rfl rfl ?_
                    refine .rd (.pickT rfl rfl) ?_
                    refine .nil ⟨rfl, ?_, by repeat (first | exact Le.refl _ | refine Le.skip rfl ?_)⟩
                    exact congrArg (fun x => some (Value.bool x)) (by simp [g29_4])
                  · refine .on (t := 93) rfl rfl ?_
                    refine .rd (.move rfl) ?_
                    refine .on (t := 93) rfl rfl ?_
                    refine .rd (.nilCheck rfl) ?_
                    refine .on (t := 93) rfl rfl ?_
                    refine .rd (.fieldAddr fd80_0 rfl) ?_
                    refine .on (t := 93) rfl rfl ?_
                    refine .rd (.ld na9 rfl (.tail .head) rfl) ?_
                    refine .on (t := 93) rfl rfl ?_
                    refine .rd (.neT rfl rfl) ?_
                    refine .rd (.pickF rfl rfl) ?_
                    refine .rd (.move rfl) ?_
                    refine .split (t := 100) rfl (fun g29_11 => ?_) (fun g29_11 => ?_)
                    · simp at g29_11
                      refine .off (t := 100) rfl rfl rfl ?_
                      refine .off (t := 100) rfl rfl rfl ?_
                      refine .rd (.pickT rfl rfl) ?_
                      refine .nil ⟨rfl, ?_, by repeat (first | exact Le.refl _ | refine Le.skip rfl ?_)⟩
                      exact congrArg (fun x => some (Value.bool x)) (by simp [g29_11])
                    · simp at g29_11
                      refine .on (t := 100) rfl rfl ?_
                      refine .rd (.move rfl) ?_
                      refine .on (t := 100) rfl rfl ?_
                      refine .rd (.neI rfl rfl) ?_
                      refine .rd (.pickF rfl rfl) ?_
                      refine .nil ⟨rfl, ?_, by repeat (first | exact Le.refl _ | refine Le.skip rfl ?_)⟩
                      exact congrArg (fun x => some (Value.bool x)) (by simp [g29_4, g29_11])
                refine .nil ?_
                refine .condN rfl (fun h29 => ?_) (fun h29 => ?_)
                · have hno : pBatch t = none := pBatch_no hI.2.2.2 h29 (fun _ _ _ => hrn) (fun _ _ _ => by omega) (fun hg => hH.head hI.2.2.2)
                  refine .seq ?_
                  refine .region ?_
                  refine .rd (.build rfl (bld27_)) ?_
                  refine .ef0 (.storeAll (vs := [.int .i64 0, .int .i64 0, .int .i64 0, .int .i64 0, .int .i64 0, .slice none 0 0]) ts27 rfl rfl rfl .head rfl (ones.of rfl)) ?_
                  rintro _ _ rfl
                  refine .rd (.assign rfl) ?_
                  refine .rd (.assign rfl) ?_
                  refine .nil ?_
                  rw [readBatch_no (s := s) (by omega) (by omega) (by omega) ht hcs hno]
                  refine .nilArr 65 3 none ?_
                  refine .retP Try.func23 (.cons (.blkN ia27 ts27 rfl (.tail .head) rfl) (.cons (.tmp rfl) (.cons (.tmp rfl) .nil))) (.cons .head (.cons (.tail (.tail (.tail (.tail .head)))) .nil)) ?_
                  exact ⟨[_], ⟨none, 0, rfl, rfl⟩, rfl⟩
                · have hyes : pBatch t = some (bat [x0, x1, x2, x3, x4] rs) := pBatch_yes hI.2.2.2 hrn h29.1 h29.2.1 h29.2.2 (by omega)
                  refine .skip ?_
                  refine .seq ?_
                  refine .region ?_
                  refine .rd (.ldN ia27 ts27 rfl (.tail (.tail .head)) rfl) ?_
                  refine .rd (.move rfl) ?_
                  refine .rd (.add rfl rfl (by omega) (by omega)) ?_
                  refine .ef0 (.storeAll (vs := Bat.cells (bat [x0, x1, x2, x3, x4] rs) a' c') ts27 rfl rfl rfl .head rfl (ones.of rfl)) ?_
                  rintro _ _ rfl
                  refine .rd (.assign rfl) ?_
                  refine .rd (.assign rfl) ?_
                  refine .nil ?_
                  rw [readBatch_yes (s := s) (by omega) (by omega) (by omega) ht hcs hyes]
                  refine .retP Try.func23 (.cons (.blkN ia27 ts27 rfl .head rfl) (.cons (.tmp rfl) (.cons (.tmp rfl) .nil))) (.cons (.tail (.tail (.tail .head))) (.cons (.tail (.tail (.tail .head))) .nil)) ?_
                  exact ⟨[_], ⟨a', c', rfl, rfl⟩, rfl⟩

end Go.Proofs.Ytllpkagplfmlbaa

