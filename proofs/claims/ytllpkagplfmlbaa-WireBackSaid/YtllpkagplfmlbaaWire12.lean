/- Steps through functions of the program, under conditions that each theorem states (part wire12 of a claim). -/
import Derived.Test.YtllpkagplfmlbaaProg
import Derived.Test.YtllpkagplfmlbaaDefs3g
namespace Go.Proofs.Ytllpkagplfmlbaa
open Go Go.Sp

set_option linter.unusedVariables false

namespace wire12
theorem fd27_5 : FD Try.prog 27 5 5 := .of Try.underlying27 (by kernel_rfl)
theorem na25 : NotAgg Try.prog 25 := ⟨_, Try.underlying25, trivial⟩
theorem fd27_1 : FD Try.prog 27 1 1 := .of Try.underlying27 (by kernel_rfl)
theorem na3 : NotAgg Try.prog 3 := ⟨_, Try.underlying3, trivial⟩
theorem fd27_2 : FD Try.prog 27 2 2 := .of Try.underlying27 (by kernel_rfl)
theorem fd27_3 : FD Try.prog 27 3 3 := .of Try.underlying27 (by kernel_rfl)
theorem fd27_4 : FD Try.prog 27 4 4 := .of Try.underlying27 (by kernel_rfl)
theorem ti3 : TI Try.prog 3 1 8 (.int .i64 0) := .of (by kernel_rfl)
theorem ts3 : TS Try.prog 3 1 := .of (by kernel_rfl)
theorem fd27_0 : FD Try.prog 27 0 0 := .of Try.underlying27 (by kernel_rfl)
theorem ts65 : TS Try.prog 65 3 := .of (by kernel_rfl)
theorem fd65_2 : FD Try.prog 65 2 2 := .of Try.underlying65 (by kernel_rfl)
theorem fd65_0 : FD Try.prog 65 0 0 := .of Try.underlying65 (by kernel_rfl)
theorem na9 : NotAgg Try.prog 9 := ⟨_, Try.underlying9, trivial⟩
theorem fd65_1 : FD Try.prog 65 1 1 := .of Try.underlying65 (by kernel_rfl)
theorem ia27 : IsAgg Try.prog 27 := ⟨_, Try.underlying27, trivial⟩
theorem ts27 : TS Try.prog 27 6 := .of (by kernel_rfl)
end wire12
open wire12

theorem fill4i (a b c d : Int) : Instr.fill (fun i => some (i * 1, 1)) (madeCells (Value.int .i64 0).cells (4 * 1)) [(0, .int .i64 a), (1, .int .i64 b), (2, .int .i64 c), (3, .int .i64 d)] = some ([.int .i64 a, .int .i64 b, .int .i64 c, .int .i64 d] : List Value).toArray := by kernel_rfl
def Bat.four (b : Bat) : List Int := [b.epoch, b.pid, b.pidEpoch, b.seq]
def fine (n : Int) : Prop := 0 ≤ n ∧ n ≤ 1000000000
theorem four_off {b : Bat} {n : Int} (h : n ∈ b.four) (hn : ¬ fine n) : b.off := by
  simp only [Bat.four, List.mem_cons, List.not_mem_nil, or_false] at h
  unfold fine at hn; unfold Bat.off
  rcases h with rfl | rfl | rfl | rfl <;> omega
theorem four_cells (b : Bat) : ([.int .i64 b.epoch, .int .i64 b.pid, .int .i64 b.pidEpoch, .int .i64 b.seq] : List Value) = b.four.map (Value.int .i64) := rfl
theorem map_at {α β : Type} {f : α → β} {l : List α} {i : Nat} {x : α} (h : l[i]? = some x) : (l.map f)[i]? = some (f x) := by rw [List.getElem?_map, h]; rfl
theorem fine_off {b : Bat} (h : ∀ n ∈ b.four, fine n) (h2 : ¬ (b.base < 0 ∨ b.pid = 0 ∧ (b.pidEpoch ≠ 0 ∨ b.seq ≠ 0) ∨ b.recs.length = 0)) : ¬ b.off := by
  have e1 := h b.epoch (by simp [Bat.four]); have e2 := h b.pid (by simp [Bat.four]); have e3 := h b.pidEpoch (by simp [Bat.four]); have e4 := h b.seq (by simp [Bat.four])
  unfold fine at e1 e2 e3 e4; unfold Bat.off; omega
theorem any_none {l : List Rec} {j : Nat} (h : ∀ r ∈ l.take j, ¬ long r = true) (hj : l.length ≤ j) : ¬ l.any long = true := by
  rw [List.take_of_length_le hj] at h
  intro e; obtain ⟨r, hr, hl⟩ := List.any_eq_true.1 e; exact h r hr hl

set_option maxRecDepth 20000 in
theorem rRight_ok (b : Bat) (a : Option Addr) (c : Nat) (hf : b.fits) : Cn Try.prog 52 [.agg (b.cells a c).toArray] (RowAt a (b.recs.flatMap Rec.cells)) [] fun v G => v = .int .i64 (right b) ∧ G = [] := by
  refine .enter Try.func52 rfl (by kernel_rfl) rfl fun R k => ?_
  have hfl := hf.len
  refine .seq ?_
  refine .region ?_   -- R0 ref.go:85
  refine .ef (.box (l := b.cells a c) rfl rfl (ones.of rfl)) ?_
  rintro _ _ ⟨b1, rfl, rfl⟩
  refine .rd (.assign rfl) ?_
  refine .nil ?_
  refine .seq ?_
  refine .region ?_   -- R1 ref.go:86
  refine .rd (.fieldAddr fd27_5 rfl) ?_
  refine .rd (.ld na25 rfl .head rfl) ?_
  refine .rd (.lenL rfl rfl Try.underlying25 rfl) ?_
  refine .rd (.assign rfl) ?_
  refine .nil ?_
  refine .seq ?_
  refine .region ?_   -- R2 ref.go:87
  refine .rd (.fieldAddr fd27_1 rfl) ?_
  refine .rd (.ld na3 rfl .head rfl) ?_
  refine .rd (.fieldAddr fd27_2 rfl) ?_
  refine .rd (.ld na3 rfl .head rfl) ?_
  refine .rd (.fieldAddr fd27_3 rfl) ?_
  refine .rd (.ld na3 rfl .head rfl) ?_
  refine .rd (.fieldAddr fd27_4 rfl) ?_
  refine .rd (.ld na3 rfl .head rfl) ?_
  refine .ef (.buildSlice (n := 4) (cs := [.int .i64 b.epoch, .int .i64 b.pid, .int .i64 b.pidEpoch, .int .i64 b.seq]) Try.underlying37 ti3 rfl (by decide) (fill4i _ _ _ _) (ones.of rfl)) ?_
  rintro _ _ ⟨bs, rfl, rfl⟩
  refine .rd (.assign rfl) ?_
  refine .nil ?_
  refine .seq ?_
  refine .seq ?_
  refine .region ?_   -- R3 ref.go:88
  refine .rd (.assign rfl) ?_
  refine .nil ?_
  refine .block ?_
  refine .loop (σ := Nat) (fun i => i ≤ 4 ∧ ∀ n ∈ b.four.take i, fine n) (fun i => 4 - i) (fun i => [(1, .pointer (some ⟨b1, 0, none⟩)), (3, .int .i64 b.recs.length), (4, .slice (some ⟨bs, 0, none⟩) 4 4), (5, .int .i64 (i : Nat))]) (fun i => [blk b1 (b.cells a c) 27, blk bs (b.four.map (Value.int .i64)) 3, R]) 0 ⟨Nat.zero_le _, by simp⟩ (.cons rfl (.cons rfl (.cons rfl (.cons rfl .nil)))) (.cons (.tail .head) (.cons .head (.cons .head .nil))) (fun i hI ih => ?_)
  have hi4 := hI.1
  refine .seq ?_
  refine .seq ?_
  refine .region ?_   -- R4 ref.go:88
  refine .rd (.move rfl) ?_
  refine .rd (.move rfl) ?_
  refine .rd (.lenL rfl rfl Try.underlying37 rfl) ?_
  refine .rd (.lt rfl rfl) ?_
  refine .nil ?_
  refine .condP rfl (fun h4 => ?_) (fun h4 => ?_)
  · refine .skip ?_
    refine .seq ?_
    refine .block ?_
    refine .seq ?_
    have hlt : i < b.four.length := by show i < 4; omega
    obtain ⟨n, hn⟩ : ∃ n, b.four[i]? = some n := ⟨_, List.getElem?_eq_getElem hlt⟩
    refine .region ?_   -- R6 ref.go:89
    refine .rd (.move rfl) ?_
    refine .rd (.move rfl) ?_
    refine .rd (.indexAddr Try.underlying37 ts3 rfl rfl (by omega) (by omega)) ?_
    refine .rd (.load na3 rfl ((Knows.blk (.tail .head)).one (map_at (x := n) (by rw [Int.toNat_natCast, Nat.mul_one]; exact hn)))) ?_
    refine .rd (.lt rfl rfl) ?_
    refine .rd (.move rfl) ?_
    refine .split (t := 31) rfl (fun g6_5 => ?_) (fun g6_5 => ?_)
    · replace g6_5 := of_decide_eq_true g6_5
      refine .off (t := 31) rfl rfl rfl ?_
      refine .off (t := 31) rfl rfl rfl ?_
      refine .off (t := 31) rfl rfl rfl ?_
      refine .off (t := 31) rfl rfl rfl ?_
      refine .off (t := 31) rfl rfl rfl ?_
      refine .rd (.pickT rfl rfl) ?_
      refine .nil ?_
      refine .condT rfl ?_
      refine .seq ?_
      refine .region ?_   -- R7 ref.go:90
      refine .rd (.assign rfl) ?_
      refine .nil ?_
      have hq : b.off := four_off (List.mem_of_getElem? hn) (by unfold fine; omega)
      rw [right_off hq]
      refine .retP Try.func52 (.cons (.tmp rfl) .nil) (.cons (.tail (.tail .head)) .nil) ?_
      exact ⟨[], ⟨rfl, rfl⟩, rfl⟩
    · replace g6_5 := of_decide_eq_false g6_5
      refine .on (t := 31) rfl rfl ?_
      refine .rd (.move rfl) ?_
      refine .on (t := 31) rfl rfl ?_
      refine .rd (.move rfl) ?_
      refine .on (t := 31) rfl rfl ?_
      refine .rd (.indexAddr Try.underlying37 ts3 rfl rfl (by omega) (by omega)) ?_
      refine .on (t := 31) rfl rfl ?_
      refine .rd (.load na3 rfl ((Knows.blk (.tail .head)).one (map_at (x := n) (by rw [Int.toNat_natCast, Nat.mul_one]; exact hn)))) ?_
      refine .on (t := 31) rfl rfl ?_
      refine .rd (.gt rfl rfl) ?_
      refine .rd (.pickF rfl rfl) ?_
      refine .nil ?_
      refine .condP rfl (fun h6 => ?_) (fun h6 => ?_)
      · refine .seq ?_
        refine .region ?_   -- R7 ref.go:90
        refine .rd (.assign rfl) ?_
        refine .nil ?_
        have hq : b.off := four_off (List.mem_of_getElem? hn) (by unfold fine; omega)
        rw [right_off hq]
        refine .retP Try.func52 (.cons (.tmp rfl) .nil) (.cons (.tail (.tail .head)) .nil) ?_
        exact ⟨[], ⟨rfl, rfl⟩, rfl⟩
      · refine .skip ?_
        refine .inBlock ?_
        refine .region ?_   -- R5 ref.go:88
        refine .rd (.move rfl) ?_
        refine .rd (.add rfl rfl (by omega) (by omega)) ?_
        refine .rd (.assign rfl) ?_
        refine .nil ?_
        exact (ih (i + 1) ⟨by omega, all_take (p := fine) hn (by show _ ∧ _; omega) hI.2⟩ (by omega)).to (.cons rfl (.cons rfl (.cons rfl (.cons rfl .nil)))) (.cons .head (.cons .head (.cons .head .nil)))
  · obtain rfl : i = 4 := by omega
    have hfine : ∀ n ∈ b.four, fine n := hI.2
    refine .exit rfl ?_
    refine .seq ?_
    refine .seq ?_
    refine .region ?_   -- R8 ref.go:93
    refine .rd (.fieldAddr fd27_0 rfl) ?_
    refine .rd (.ld na3 rfl .head rfl) ?_
    refine .rd (.lt rfl rfl) ?_
    refine .rd (.move rfl) ?_
    refine .split (t := 41) rfl (fun g8_3 => ?_) (fun g8_3 => ?_)
    · replace g8_3 := of_decide_eq_true g8_3
      refine .off (t := 41) rfl rfl rfl ?_
      refine .off (t := 41) rfl rfl rfl ?_
      refine .off (t := 41) rfl rfl rfl ?_
      refine .offU (t := 41) rfl rfl rfl rfl ?_
      refine .offX (t := 45) rfl rfl rfl ?_
      refine .offX (t := 45) rfl rfl rfl ?_
      refine .offX (t := 45) rfl rfl rfl ?_
      refine .offX (t := 45) rfl rfl rfl ?_
      refine .offX (t := 49) rfl rfl rfl ?_
      refine .offX (t := 49) rfl rfl rfl ?_
      refine .offX (t := 49) rfl rfl rfl ?_
      refine .offX (t := 45) rfl rfl rfl ?_
      refine .off (t := 41) rfl rfl rfl ?_
      refine .rd (.pickT rfl rfl) ?_
      refine .rd (.move rfl) ?_
      refine .off (t := 56) rfl rfl rfl ?_
      refine .off (t := 56) rfl rfl rfl ?_
      refine .rd (.pickT rfl rfl) ?_
      refine .nil ?_
      refine .condT rfl ?_
      refine .seq ?_
      refine .region ?_   -- R9 ref.go:94
      refine .rd (.assign rfl) ?_
      refine .nil ?_
      have hq : b.off := by unfold Bat.off; omega
      rw [right_off hq]
      refine .retP Try.func52 (.cons (.tmp rfl) .nil) (.cons (.tail (.tail .head)) .nil) ?_
      exact ⟨[], ⟨rfl, rfl⟩, rfl⟩
    · replace g8_3 := of_decide_eq_false g8_3
      refine .on (t := 41) rfl rfl ?_
      refine .rd (.fieldAddr fd27_2 rfl) ?_
      refine .on (t := 41) rfl rfl ?_
      refine .rd (.ld na3 rfl .head rfl) ?_
      refine .on (t := 41) rfl rfl ?_
      refine .rd (.eqI rfl rfl) ?_
      refine .on (t := 41) rfl rfl ?_
      refine .rd (.move rfl) ?_
      refine .split (t := 45) rfl (fun g8_7 => ?_) (fun g8_7 => ?_)
      · replace g8_7 := of_decide_eq_true g8_7
        refine .on (t := 45) rfl rfl ?_
        refine .rd (.fieldAddr fd27_3 rfl) ?_
        refine .on (t := 45) rfl rfl ?_
        refine .rd (.ld na3 rfl .head rfl) ?_
        refine .on (t := 45) rfl rfl ?_
        refine .rd (.neI rfl rfl) ?_
        refine .on (t := 45) rfl rfl ?_
        refine .rd (.move rfl) ?_
        refine .split (t := 49) rfl (fun g8_11 => ?_) (fun g8_11 => ?_)
        · simp at g8_11
          refine .off (t := 49) rfl rfl rfl ?_
          refine .off (t := 49) rfl rfl rfl ?_
          refine .off (t := 49) rfl rfl rfl ?_
          refine .on (t := 45) rfl rfl ?_
          refine .rd (.pickT rfl rfl) ?_
          refine .on (t := 41) rfl rfl ?_
          refine .rd (.pickT rfl rfl) ?_
          refine .rd (.pickF rfl rfl) ?_
          refine .rd (.move rfl) ?_
          refine .off (t := 56) rfl rfl rfl ?_
          refine .off (t := 56) rfl rfl rfl ?_
          refine .rd (.pickT rfl rfl) ?_
          refine .nil ?_
          refine .condT rfl ?_
          refine .seq ?_
          refine .region ?_   -- R9 ref.go:94
          refine .rd (.assign rfl) ?_
          refine .nil ?_
          have hq : b.off := by unfold Bat.off; omega
          rw [right_off hq]
          refine .retP Try.func52 (.cons (.tmp rfl) .nil) (.cons (.tail (.tail .head)) .nil) ?_
          exact ⟨[], ⟨rfl, rfl⟩, rfl⟩
        · simp at g8_11
          refine .on (t := 49) rfl rfl ?_
          refine .rd (.fieldAddr fd27_4 rfl) ?_
          refine .on (t := 49) rfl rfl ?_
          refine .rd (.ld na3 rfl .head rfl) ?_
          refine .on (t := 49) rfl rfl ?_
          refine .rd (.neI rfl rfl) ?_
          refine .on (t := 45) rfl rfl ?_
          refine .rd (.pickF rfl rfl) ?_
          refine .on (t := 41) rfl rfl ?_
          refine .rd (.pickT rfl rfl) ?_
          refine .rd (.pickF rfl rfl) ?_
          refine .rd (.move rfl) ?_
          refine .split (t := 56) rfl (fun g8_18 => ?_) (fun g8_18 => ?_)
          · simp at g8_18
            refine .off (t := 56) rfl rfl rfl ?_
            refine .off (t := 56) rfl rfl rfl ?_
            refine .rd (.pickT rfl rfl) ?_
            refine .nil ?_
            refine .condT rfl ?_
            refine .seq ?_
            refine .region ?_   -- R9 ref.go:94
            refine .rd (.assign rfl) ?_
            refine .nil ?_
            have hq : b.off := by unfold Bat.off; omega
            rw [right_off hq]
            refine .retP Try.func52 (.cons (.tmp rfl) .nil) (.cons (.tail (.tail .head)) .nil) ?_
            exact ⟨[], ⟨rfl, rfl⟩, rfl⟩
          · simp at g8_18
            refine .on (t := 56) rfl rfl ?_
            refine .rd (.move rfl) ?_
            refine .on (t := 56) rfl rfl ?_
            refine .rd (.eqI rfl rfl) ?_
            refine .rd (.pickF rfl rfl) ?_
            refine .nil ?_
            refine .condP rfl (fun h8 => ?_) (fun h8 => ?_)
            · refine .seq ?_
              refine .region ?_   -- R9 ref.go:94
              refine .rd (.assign rfl) ?_
              refine .nil ?_
              have hq : b.off := by unfold Bat.off; omega
              rw [right_off hq]
              refine .retP Try.func52 (.cons (.tmp rfl) .nil) (.cons (.tail (.tail .head)) .nil) ?_
              exact ⟨[], ⟨rfl, rfl⟩, rfl⟩
            · have hno : ¬ b.off := fine_off hfine (by omega)
              refine .skip ?_
              refine .seq ?_
              refine .seq ?_
              refine .region ?_   -- R10 ref.go:96
              refine .rd (.assign rfl) ?_
              refine .nil ?_
              refine .block ?_
              refine .loop (σ := Nat) (fun j => j ≤ b.recs.length ∧ ∀ r ∈ b.recs.take j, timely r) (fun j => b.recs.length - j) (fun j => [(1, .pointer (some ⟨b1, 0, none⟩)), (3, .int .i64 b.recs.length), (6, .int .i64 (j : Nat))]) (fun j => [blk b1 (b.cells a c) 27, R]) 0 ⟨Nat.zero_le _, by simp⟩ (.cons rfl (.cons rfl (.cons rfl .nil))) (.cons .head (.cons (.tail .head) .nil)) (fun j hI ih => ?_)
              have hj := hI.1
              refine .seq ?_
              refine .seq ?_
              refine .region ?_   -- R11 ref.go:96
              refine .rd (.move rfl) ?_
              refine .rd (.move rfl) ?_
              refine .rd (.lt rfl rfl) ?_
              refine .nil ?_
              refine .condP rfl (fun h11 => ?_) (fun h11 => ?_)
              · refine .skip ?_
                refine .seq ?_
                refine .block ?_
                refine .seq ?_
                have hjl : j < b.recs.length := by omega
                obtain ⟨r, hr⟩ : ∃ r, b.recs[j]? = some r := ⟨_, List.getElem?_eq_getElem hjl⟩
                have hrm := List.mem_of_getElem? hr
                have hk1 := hf.key r hrm
                have hk2 := hf.value r hrm
                refine .tell (φ := ∃ b o, a = some ⟨b, o, none⟩) (Knows.pick (.tail .head) (k.mono fun _ h => h.addr (by rw [flat_length Rec.cells_len]; omega))) (fun hx => ?_)
                obtain ⟨bb, oo, rfl⟩ := hx
                refine .region ?_   -- R13 ref.go:97
                refine .rd (.fieldAddr fd27_5 rfl) ?_
                refine .rd (.ld na25 rfl .head rfl) ?_
                refine .rd (.move rfl) ?_
                refine .rd (.indexAddr Try.underlying25 ts65 rfl rfl (by omega) (by omega)) ?_
                refine .rd (.fieldAddr fd65_2 rfl) ?_
                refine .rd (.load na3 rfl ((Knows.elem Rec.cells_len (by decide) (Knows.pick (.tail .head) k) hr).one (i := 2) rfl)) ?_
                refine .rd (.lt rfl rfl) ?_
                refine .rd (.move rfl) ?_
                refine .split (t := 72) rfl (fun g13_7 => ?_) (fun g13_7 => ?_)
                · replace g13_7 := of_decide_eq_true g13_7
                  refine .off (t := 72) rfl rfl rfl ?_
                  refine .off (t := 72) rfl rfl rfl ?_
                  refine .off (t := 72) rfl rfl rfl ?_
                  refine .off (t := 72) rfl rfl rfl ?_
                  refine .off (t := 72) rfl rfl rfl ?_
                  refine .off (t := 72) rfl rfl rfl ?_
                  refine .off (t := 72) rfl rfl rfl ?_
                  refine .rd (.pickT rfl rfl) ?_
                  refine .nil ?_
                  refine .condT rfl ?_
                  refine .seq ?_
                  refine .region ?_   -- R14 ref.go:98
                  refine .rd (.assign rfl) ?_
                  refine .nil ?_
                  rw [right_time hr (by show ¬ (_ ∧ _); omega)]
                  refine .retP Try.func52 (.cons (.tmp rfl) .nil) (.cons (.tail .head) .nil) ?_
                  exact ⟨[], ⟨rfl, rfl⟩, rfl⟩
                · replace g13_7 := of_decide_eq_false g13_7
                  refine .on (t := 72) rfl rfl ?_
                  refine .rd (.fieldAddr fd27_5 rfl) ?_
                  refine .on (t := 72) rfl rfl ?_
                  refine .rd (.ld na25 rfl .head rfl) ?_
                  refine .on (t := 72) rfl rfl ?_
                  refine .rd (.move rfl) ?_
                  refine .on (t := 72) rfl rfl ?_
                  refine .rd (.indexAddr Try.underlying25 ts65 rfl rfl (by omega) (by omega)) ?_
                  refine .on (t := 72) rfl rfl ?_
                  refine .rd (.fieldAddr fd65_2 rfl) ?_
                  refine .on (t := 72) rfl rfl ?_
                  refine .rd (.load na3 rfl ((Knows.elem Rec.cells_len (by decide) (Knows.pick (.tail .head) k) hr).one (i := 2) rfl)) ?_
                  refine .on (t := 72) rfl rfl ?_
                  refine .rd (.gt rfl rfl) ?_
                  refine .rd (.pickF rfl rfl) ?_
                  refine .nil ?_
                  refine .condP rfl (fun h13 => ?_) (fun h13 => ?_)
                  · refine .seq ?_
                    refine .region ?_   -- R14 ref.go:98
                    refine .rd (.assign rfl) ?_
                    refine .nil ?_
                    rw [right_time hr (by show ¬ (_ ∧ _); omega)]
                    refine .retP Try.func52 (.cons (.tmp rfl) .nil) (.cons (.tail .head) .nil) ?_
                    exact ⟨[], ⟨rfl, rfl⟩, rfl⟩
                  · refine .skip ?_
                    refine .inBlock ?_
                    refine .region ?_   -- R12 ref.go:96
                    refine .rd (.move rfl) ?_
                    refine .rd (.add rfl rfl (by omega) (by omega)) ?_
                    refine .rd (.assign rfl) ?_
                    refine .nil ?_
                    exact (ih (j + 1) ⟨by omega, all_take (p := timely) hr (by show _ ∧ _; omega) hI.2⟩ (by omega)).to (.cons rfl (.cons rfl (.cons rfl .nil))) (.cons .head (.cons .head .nil))
              · obtain rfl : j = b.recs.length := by omega
                have hrt := right_on hno (by have := hI.2; rwa [List.take_length] at this)
                clear hI ih
                refine .exit rfl ?_
                refine .seq ?_
                refine .seq ?_
                refine .region ?_   -- R15 ref.go:101
                refine .rd (.move rfl) ?_
                refine .rd (.gt rfl rfl) ?_
                refine .nil ?_
                refine .condP rfl (fun h15 => ?_) (fun h15 => ?_)
                · refine .seq ?_
                  refine .region ?_   -- R16 ref.go:102
                  refine .rd (.assign rfl) ?_
                  refine .nil ?_
                  have hv : right b = 3 := by rw [hrt, if_pos (by omega)]
                  rw [hv]
                  refine .retP Try.func52 (.cons (.tmp rfl) .nil) (.cons (.tail .head) .nil) ?_
                  exact ⟨[], ⟨rfl, rfl⟩, rfl⟩
                · refine .skip ?_
                  refine .seq ?_
                  refine .seq ?_
                  refine .region ?_   -- R17 ref.go:104
                  refine .rd (.assign rfl) ?_
                  refine .nil ?_
                  refine .block ?_
                  refine .loop (σ := Nat) (fun j => j ≤ b.recs.length ∧ ∀ r ∈ b.recs.take j, ¬ long r = true) (fun j => b.recs.length - j) (fun j => [(1, .pointer (some ⟨b1, 0, none⟩)), (3, .int .i64 b.recs.length), (7, .int .i64 (j : Nat))]) (fun j => [blk b1 (b.cells a c) 27, R]) 0 ⟨Nat.zero_le _, by simp⟩ (.cons rfl (.cons rfl (.cons rfl .nil))) (.cons .head (.cons .head .nil)) (fun j hI ih => ?_)
                  have hj := hI.1
                  refine .seq ?_
                  refine .seq ?_
                  refine .region ?_   -- R18 ref.go:104
                  refine .rd (.move rfl) ?_
                  refine .rd (.move rfl) ?_
                  refine .rd (.lt rfl rfl) ?_
                  refine .nil ?_
                  refine .condP rfl (fun h18 => ?_) (fun h18 => ?_)
                  · refine .skip ?_
                    refine .seq ?_
                    refine .block ?_
                    refine .seq ?_
                    have hjl : j < b.recs.length := by omega
                    obtain ⟨r, hr⟩ : ∃ r, b.recs[j]? = some r := ⟨_, List.getElem?_eq_getElem hjl⟩
                    have hrm := List.mem_of_getElem? hr
                    have hk1 := hf.key r hrm
                    have hk2 := hf.value r hrm
                    refine .tell (φ := ∃ b o, a = some ⟨b, o, none⟩) (Knows.pick (.tail .head) (k.mono fun _ h => h.addr (by rw [flat_length Rec.cells_len]; omega))) (fun hx => ?_)
                    obtain ⟨bb, oo, rfl⟩ := hx
                    refine .region ?_   -- R20 ref.go:105
                    refine .rd (.fieldAddr fd27_5 rfl) ?_
                    refine .rd (.ld na25 rfl .head rfl) ?_
                    refine .rd (.move rfl) ?_
                    refine .rd (.indexAddr Try.underlying25 ts65 rfl rfl (by omega) (by omega)) ?_
                    refine .rd (.fieldAddr fd65_0 rfl) ?_
                    refine .rd (.load na9 rfl ((Knows.elem Rec.cells_len (by decide) (Knows.pick (.tail .head) k) hr).one (i := 0) rfl)) ?_
                    refine .rd (.lenT rfl rfl Try.underlying9 rfl) ?_
                    refine .rd (.gt rfl rfl) ?_
                    refine .rd (.move rfl) ?_
                    refine .split (t := 96) rfl (fun g20_8 => ?_) (fun g20_8 => ?_)
                    · replace g20_8 := of_decide_eq_true g20_8
                      refine .off (t := 96) rfl rfl rfl ?_
                      refine .off (t := 96) rfl rfl rfl ?_
                      refine .off (t := 96) rfl rfl rfl ?_
                      refine .off (t := 96) rfl rfl rfl ?_
                      refine .off (t := 96) rfl rfl rfl ?_
                      refine .off (t := 96) rfl rfl rfl ?_
                      refine .off (t := 96) rfl rfl rfl ?_
                      refine .off (t := 96) rfl rfl rfl ?_
                      refine .rd (.pickT rfl rfl) ?_
                      refine .nil ?_
                      refine .condT rfl ?_
                      refine .seq ?_
                      refine .region ?_   -- R21 ref.go:106
                      refine .rd (.assign rfl) ?_
                      refine .nil ?_
                      have hv : right b = 2 := by rw [hrt, if_neg (by omega), if_pos (List.any_eq_true.2 ⟨r, hrm, (long_iff r).2 (by omega)⟩)]
                      rw [hv]
                      refine .retP Try.func52 (.cons (.tmp rfl) .nil) (.cons (.tail .head) .nil) ?_
                      exact ⟨[], ⟨rfl, rfl⟩, rfl⟩
                    · replace g20_8 := of_decide_eq_false g20_8
                      refine .on (t := 96) rfl rfl ?_
                      refine .rd (.fieldAddr fd27_5 rfl) ?_
                      refine .on (t := 96) rfl rfl ?_
                      refine .rd (.ld na25 rfl .head rfl) ?_
                      refine .on (t := 96) rfl rfl ?_
                      refine .rd (.move rfl) ?_
                      refine .on (t := 96) rfl rfl ?_
                      refine .rd (.indexAddr Try.underlying25 ts65 rfl rfl (by omega) (by omega)) ?_
                      refine .on (t := 96) rfl rfl ?_
                      refine .rd (.fieldAddr fd65_1 rfl) ?_
                      refine .on (t := 96) rfl rfl ?_
                      refine .rd (.load na9 rfl ((Knows.elem Rec.cells_len (by decide) (Knows.pick (.tail .head) k) hr).one (i := 1) rfl)) ?_
                      refine .on (t := 96) rfl rfl ?_
                      refine .rd (.lenT rfl rfl Try.underlying9 rfl) ?_
                      refine .on (t := 96) rfl rfl ?_
                      refine .rd (.gt rfl rfl) ?_
                      refine .rd (.pickF rfl rfl) ?_
                      refine .nil ?_
                      refine .condP rfl (fun h20 => ?_) (fun h20 => ?_)
                      · refine .seq ?_
                        refine .region ?_   -- R21 ref.go:106
                        refine .rd (.assign rfl) ?_
                        refine .nil ?_
                        have hv : right b = 2 := by rw [hrt, if_neg (by omega), if_pos (List.any_eq_true.2 ⟨r, hrm, (long_iff r).2 (by omega)⟩)]
                        rw [hv]
                        refine .retP Try.func52 (.cons (.tmp rfl) .nil) (.cons (.tail .head) .nil) ?_
                        exact ⟨[], ⟨rfl, rfl⟩, rfl⟩
                      · refine .skip ?_
                        refine .inBlock ?_
                        refine .region ?_   -- R19 ref.go:104
                        refine .rd (.move rfl) ?_
                        refine .rd (.add rfl rfl (by omega) (by omega)) ?_
                        refine .rd (.assign rfl) ?_
                        refine .nil ?_
                        exact (ih (j + 1) ⟨by omega, all_take (p := fun r => ¬ long r = true) hr (by rw [long_iff]; omega) hI.2⟩ (by omega)).to (.cons rfl (.cons rfl (.cons rfl .nil))) (.cons .head (.cons .head .nil))
                  · have hl14 : ¬ b.recs.any long = true := any_none hI.2 (by omega)
                    refine .exit rfl ?_
                    refine .seq ?_
                    refine .seq ?_
                    refine .region ?_   -- R22 ref.go:109
                    refine .rd (.fieldAddr fd27_0 rfl) ?_
                    refine .rd (.ld na3 rfl .head rfl) ?_
                    refine .rd (.move rfl) ?_
                    refine .rd (.sub rfl rfl (by omega) (by omega)) ?_
                    refine .rd (.sub rfl rfl (by omega) (by omega)) ?_
                    refine .rd (.gt rfl rfl) ?_
                    refine .rd (.move rfl) ?_
                    refine .split (t := 112) rfl (fun g22_6 => ?_) (fun g22_6 => ?_)
                    · replace g22_6 := of_decide_eq_true g22_6
                      refine .off (t := 112) rfl rfl rfl ?_
                      refine .off (t := 112) rfl rfl rfl ?_
                      refine .off (t := 112) rfl rfl rfl ?_
                      refine .off (t := 112) rfl rfl rfl ?_
                      refine .off (t := 112) rfl rfl rfl ?_
                      refine .off (t := 112) rfl rfl rfl ?_
                      refine .rd (.pickT rfl rfl) ?_
                      refine .nil ?_
                      refine .condT rfl ?_
                      refine .seq ?_
                      refine .region ?_   -- R23 ref.go:110
                      refine .rd (.assign rfl) ?_
                      refine .nil ?_
                      have hv : right b = 20 := by rw [hrt, if_neg (by omega), if_neg hl14, if_pos (by omega)]
                      rw [hv]
                      refine .retP Try.func52 (.cons (.tmp rfl) .nil) (.cons (.tail .head) .nil) ?_
                      exact ⟨[], ⟨rfl, rfl⟩, rfl⟩
                    · replace g22_6 := of_decide_eq_false g22_6
                      refine .on (t := 112) rfl rfl ?_
                      refine .rd (.fieldAddr fd27_4 rfl) ?_
                      refine .on (t := 112) rfl rfl ?_
                      refine .rd (.ld na3 rfl .head rfl) ?_
                      refine .on (t := 112) rfl rfl ?_
                      refine .rd (.move rfl) ?_
                      refine .on (t := 112) rfl rfl ?_
                      refine .rd (.sub rfl rfl (by omega) (by omega)) ?_
                      refine .on (t := 112) rfl rfl ?_
                      refine .rd (.sub rfl rfl (by omega) (by omega)) ?_
                      refine .on (t := 112) rfl rfl ?_
                      refine .rd (.gt rfl rfl) ?_
                      refine .rd (.pickF rfl rfl) ?_
                      refine .nil ?_
                      refine .condP rfl (fun h22 => ?_) (fun h22 => ?_)
                      · refine .seq ?_
                        refine .region ?_   -- R23 ref.go:110
                        refine .rd (.assign rfl) ?_
                        refine .nil ?_
                        have hv : right b = 20 := by rw [hrt, if_neg (by omega), if_neg hl14, if_pos (by omega)]
                        rw [hv]
                        refine .retP Try.func52 (.cons (.tmp rfl) .nil) (.cons (.tail .head) .nil) ?_
                        exact ⟨[], ⟨rfl, rfl⟩, rfl⟩
                      · refine .skip ?_
                        refine .seq ?_
                        refine .seq ?_
                        have hs := small_of (b := b) (by omega) hl14
                        have hbl := body_len hf hs
                        refine .region ?_   -- R24 ref.go:112
                        refine .rd (.ldN ia27 ts27 rfl .head rfl) ?_
                        refine .fn rfl rfl .nil (Knows.pick (.tail .head) k) (rbody_ok b a c hf hs) (fun v G1 hq => ?_)
                        obtain ⟨rfl, rfl⟩ := hq
                        simp only [List.nil_append]
                        refine .rd (.lenT rfl rfl Try.underlying9 rfl) ?_
                        refine .rd (.add rfl rfl (by omega) (by omega)) ?_
                        refine .rd (.gt rfl rfl) ?_
                        refine .nil ?_
                        refine .condP rfl (fun h24 => ?_) (fun h24 => ?_)
                        · refine .seq ?_
                          refine .region ?_   -- R25 ref.go:113
                          refine .rd (.assign rfl) ?_
                          refine .nil ?_
                          have hv : right b = 2 := by rw [hrt, if_neg (by omega), if_neg hl14, if_neg (by omega), if_pos (by omega)]
                          rw [hv]
                          refine .retP Try.func52 (.cons (.tmp rfl) .nil) (.cons (.tail .head) .nil) ?_
                          exact ⟨[], ⟨rfl, rfl⟩, rfl⟩
                        · refine .skip ?_
                          refine .seq ?_
                          refine .region ?_   -- R26 ref.go:115
                          refine .rd (.assign rfl) ?_
                          refine .nil ?_
                          have hv : right b = 0 := by rw [hrt, if_neg (by omega), if_neg hl14, if_neg (by omega), if_neg (by omega)]
                          rw [hv]
                          refine .retP Try.func52 (.cons (.tmp rfl) .nil) (.cons (.tail .head) .nil) ?_
                          exact ⟨[], ⟨rfl, rfl⟩, rfl⟩
      · replace g8_7 := of_decide_eq_false g8_7
        refine .off (t := 45) rfl rfl rfl ?_
        refine .off (t := 45) rfl rfl rfl ?_
        refine .off (t := 45) rfl rfl rfl ?_
        refine .offU (t := 45) rfl rfl rfl rfl ?_
        refine .offX (t := 49) rfl rfl rfl ?_
        refine .offX (t := 49) rfl rfl rfl ?_
        refine .offX (t := 49) rfl rfl rfl ?_
        refine .off (t := 45) rfl rfl rfl ?_
        refine .on (t := 41) rfl rfl ?_
        refine .rd (.pickF rfl rfl) ?_
        refine .rd (.pickF rfl rfl) ?_
        refine .rd (.move rfl) ?_
        refine .on (t := 56) rfl rfl ?_
        refine .rd (.move rfl) ?_
        refine .on (t := 56) rfl rfl ?_
        refine .rd (.eqI rfl rfl) ?_
        refine .rd (.pickF rfl rfl) ?_
        refine .nil ?_
        refine .condP rfl (fun h8 => ?_) (fun h8 => ?_)
        · refine .seq ?_
          refine .region ?_   -- R9 ref.go:94
          refine .rd (.assign rfl) ?_
          refine .nil ?_
          have hq : b.off := by unfold Bat.off; omega
          rw [right_off hq]
          refine .retP Try.func52 (.cons (.tmp rfl) .nil) (.cons (.tail (.tail .head)) .nil) ?_
          exact ⟨[], ⟨rfl, rfl⟩, rfl⟩
        · have hno : ¬ b.off := fine_off hfine (by omega)
          refine .skip ?_
          refine .seq ?_
          refine .seq ?_
          refine .region ?_   -- R10 ref.go:96
          refine .rd (.assign rfl) ?_
          refine .nil ?_
          refine .block ?_
          refine .loop (σ := Nat) (fun j => j ≤ b.recs.length ∧ ∀ r ∈ b.recs.take j, timely r) (fun j => b.recs.length - j) (fun j => [(1, .pointer (some ⟨b1, 0, none⟩)), (3, .int .i64 b.recs.length), (6, .int .i64 (j : Nat))]) (fun j => [blk b1 (b.cells a c) 27, R]) 0 ⟨Nat.zero_le _, by simp⟩ (.cons rfl (.cons rfl (.cons rfl .nil))) (.cons .head (.cons (.tail .head) .nil)) (fun j hI ih => ?_)
          have hj := hI.1
          refine .seq ?_
          refine .seq ?_
          refine .region ?_   -- R11 ref.go:96
          refine .rd (.move rfl) ?_
          refine .rd (.move rfl) ?_
          refine .rd (.lt rfl rfl) ?_
          refine .nil ?_
          refine .condP rfl (fun h11 => ?_) (fun h11 => ?_)
          · refine .skip ?_
            refine .seq ?_
            refine .block ?_
            refine .seq ?_
            have hjl : j < b.recs.length := by omega
            obtain ⟨r, hr⟩ : ∃ r, b.recs[j]? = some r := ⟨_, List.getElem?_eq_getElem hjl⟩
            have hrm := List.mem_of_getElem? hr
            have hk1 := hf.key r hrm
            have hk2 := hf.value r hrm
            refine .tell (φ := ∃ b o, a = some ⟨b, o, none⟩) (Knows.pick (.tail .head) (k.mono fun _ h => h.addr (by rw [flat_length Rec.cells_len]; omega))) (fun hx => ?_)
            obtain ⟨bb, oo, rfl⟩ := hx
            refine .region ?_   -- R13 ref.go:97
            refine .rd (.fieldAddr fd27_5 rfl) ?_
            refine .rd (.ld na25 rfl .head rfl) ?_
            refine .rd (.move rfl) ?_
            refine .rd (.indexAddr Try.underlying25 ts65 rfl rfl (by omega) (by omega)) ?_
            refine .rd (.fieldAddr fd65_2 rfl) ?_
            refine .rd (.load na3 rfl ((Knows.elem Rec.cells_len (by decide) (Knows.pick (.tail .head) k) hr).one (i := 2) rfl)) ?_
            refine .rd (.lt rfl rfl) ?_
            refine .rd (.move rfl) ?_
            refine .split (t := 72) rfl (fun g13_7 => ?_) (fun g13_7 => ?_)
            · replace g13_7 := of_decide_eq_true g13_7
              refine .off (t := 72) rfl rfl rfl ?_
              refine .off (t := 72) rfl rfl rfl ?_
              refine .off (t := 72) rfl rfl rfl ?_
              refine .off (t := 72) rfl rfl rfl ?_
              refine .off (t := 72) rfl rfl rfl ?_
              refine .off (t := 72) rfl rfl rfl ?_
              refine .off (t := 72) rfl rfl rfl ?_
              refine .rd (.pickT rfl rfl) ?_
              refine .nil ?_
              refine .condT rfl ?_
              refine .seq ?_
              refine .region ?_   -- R14 ref.go:98
              refine .rd (.assign rfl) ?_
              refine .nil ?_
              rw [right_time hr (by show ¬ (_ ∧ _); omega)]
              refine .retP Try.func52 (.cons (.tmp rfl) .nil) (.cons (.tail .head) .nil) ?_
              exact ⟨[], ⟨rfl, rfl⟩, rfl⟩
            · replace g13_7 := of_decide_eq_false g13_7
              refine .on (t := 72) rfl rfl ?_
              refine .rd (.fieldAddr fd27_5 rfl) ?_
              refine .on (t := 72) rfl rfl ?_
              refine .rd (.ld na25 rfl .head rfl) ?_
              refine .on (t := 72) rfl rfl ?_
              refine .rd (.move rfl) ?_
              refine .on (t := 72) rfl rfl ?_
              refine .rd (.indexAddr Try.underlying25 ts65 rfl rfl (by omega) (by omega)) ?_
              refine .on (t := 72) rfl rfl ?_
              refine .rd (.fieldAddr fd65_2 rfl) ?_
              refine .on (t := 72) rfl rfl ?_
              refine .rd (.load na3 rfl ((Knows.elem Rec.cells_len (by decide) (Knows.pick (.tail .head) k) hr).one (i := 2) rfl)) ?_
              refine .on (t := 72) rfl rfl ?_
              refine .rd (.gt rfl rfl) ?_
              refine .rd (.pickF rfl rfl) ?_
              refine .nil ?_
              refine .condP rfl (fun h13 => ?_) (fun h13 => ?_)
              · refine .seq ?_
                refine .region ?_   -- R14 ref.go:98
                refine .rd (.assign rfl) ?_
                refine .nil ?_
                rw [right_time hr (by show ¬ (_ ∧ _); omega)]
                refine .retP Try.func52 (.cons (.tmp rfl) .nil) (.cons (.tail .head) .nil) ?_
                exact ⟨[], ⟨rfl, rfl⟩, rfl⟩
              · refine .skip ?_
                refine .inBlock ?_
                refine .region ?_   -- R12 ref.go:96
                refine .rd (.move rfl) ?_
                refine .rd (.add rfl rfl (by omega) (by omega)) ?_
                refine .rd (.assign rfl) ?_
                refine .nil ?_
                exact (ih (j + 1) ⟨by omega, all_take (p := timely) hr (by show _ ∧ _; omega) hI.2⟩ (by omega)).to (.cons rfl (.cons rfl (.cons rfl .nil))) (.cons .head (.cons .head .nil))
          · obtain rfl : j = b.recs.length := by omega
            have hrt := right_on hno (by have := hI.2; rwa [List.take_length] at this)
            clear hI ih
            refine .exit rfl ?_
            refine .seq ?_
            refine .seq ?_
            refine .region ?_   -- R15 ref.go:101
            refine .rd (.move rfl) ?_
            refine .rd (.gt rfl rfl) ?_
            refine .nil ?_
            refine .condP rfl (fun h15 => ?_) (fun h15 => ?_)
            · refine .seq ?_
              refine .region ?_   -- R16 ref.go:102
              refine .rd (.assign rfl) ?_
              refine .nil ?_
              have hv : right b = 3 := by rw [hrt, if_pos (by omega)]
              rw [hv]
              refine .retP Try.func52 (.cons (.tmp rfl) .nil) (.cons (.tail .head) .nil) ?_
              exact ⟨[], ⟨rfl, rfl⟩, rfl⟩
            · refine .skip ?_
              refine .seq ?_
              refine .seq ?_
              refine .region ?_   -- R17 ref.go:104
              refine .rd (.assign rfl) ?_
              refine .nil ?_
              refine .block ?_
              refine .loop (σ := Nat) (fun j => j ≤ b.recs.length ∧ ∀ r ∈ b.recs.take j, ¬ long r = true) (fun j => b.recs.length - j) (fun j => [(1, .pointer (some ⟨b1, 0, none⟩)), (3, .int .i64 b.recs.length), (7, .int .i64 (j : Nat))]) (fun j => [blk b1 (b.cells a c) 27, R]) 0 ⟨Nat.zero_le _, by simp⟩ (.cons rfl (.cons rfl (.cons rfl .nil))) (.cons .head (.cons .head .nil)) (fun j hI ih => ?_)
              have hj := hI.1
              refine .seq ?_
              refine .seq ?_
              refine .region ?_   -- R18 ref.go:104
              refine .rd (.move rfl) ?_
              refine .rd (.move rfl) ?_
              refine .rd (.lt rfl rfl) ?_
              refine .nil ?_
              refine .condP rfl (fun h18 => ?_) (fun h18 => ?_)
              · refine .skip ?_
                refine .seq ?_
                refine .block ?_
                refine .seq ?_
                have hjl : j < b.recs.length := by omega
                obtain ⟨r, hr⟩ : ∃ r, b.recs[j]? = some r := ⟨_, List.getElem?_eq_getElem hjl⟩
                have hrm := List.mem_of_getElem? hr
                have hk1 := hf.key r hrm
                have hk2 := hf.value r hrm
                refine .tell (φ := ∃ b o, a = some ⟨b, o, none⟩) (Knows.pick (.tail .head) (k.mono fun _ h => h.addr (by rw [flat_length Rec.cells_len]; omega))) (fun hx => ?_)
                obtain ⟨bb, oo, rfl⟩ := hx
                refine .region ?_   -- R20 ref.go:105
                refine .rd (.fieldAddr fd27_5 rfl) ?_
                refine .rd (.ld na25 rfl .head rfl) ?_
                refine .rd (.move rfl) ?_
                refine .rd (.indexAddr Try.underlying25 ts65 rfl rfl (by omega) (by omega)) ?_
                refine .rd (.fieldAddr fd65_0 rfl) ?_
                refine .rd (.load na9 rfl ((Knows.elem Rec.cells_len (by decide) (Knows.pick (.tail .head) k) hr).one (i := 0) rfl)) ?_
                refine .rd (.lenT rfl rfl Try.underlying9 rfl) ?_
                refine .rd (.gt rfl rfl) ?_
                refine .rd (.move rfl) ?_
                refine .split (t := 96) rfl (fun g20_8 => ?_) (fun g20_8 => ?_)
                · replace g20_8 := of_decide_eq_true g20_8
                  refine .off (t := 96) rfl rfl rfl ?_
                  refine .off (t := 96) rfl rfl rfl ?_
                  refine .off (t := 96) rfl rfl rfl ?_
                  refine .off (t := 96) rfl rfl rfl ?_
                  refine .off (t := 96) rfl rfl rfl ?_
                  refine .off (t := 96) rfl rfl rfl ?_
                  refine .off (t := 96) rfl rfl rfl ?_
                  refine .off (t := 96) rfl rfl rfl ?_
                  refine .rd (.pickT rfl rfl) ?_
                  refine .nil ?_
                  refine .condT rfl ?_
                  refine .seq ?_
                  refine .region ?_   -- R21 ref.go:106
                  refine .rd (.assign rfl) ?_
                  refine .nil ?_
                  have hv : right b = 2 := by rw [hrt, if_neg (by omega), if_pos (List.any_eq_true.2 ⟨r, hrm, (long_iff r).2 (by omega)⟩)]
                  rw [hv]
                  refine .retP Try.func52 (.cons (.tmp rfl) .nil) (.cons (.tail .head) .nil) ?_
                  exact ⟨[], ⟨rfl, rfl⟩, rfl⟩
                · replace g20_8 := of_decide_eq_false g20_8
                  refine .on (t := 96) rfl rfl ?_
                  refine .rd (.fieldAddr fd27_5 rfl) ?_
                  refine .on (t := 96) rfl rfl ?_
                  refine .rd (.ld na25 rfl .head rfl) ?_
                  refine .on (t := 96) rfl rfl ?_
                  refine .rd (.move rfl) ?_
                  refine .on (t := 96) rfl rfl ?_
                  refine .rd (.indexAddr Try.underlying25 ts65 rfl rfl (by omega) (by omega)) ?_
                  refine .on (t := 96) rfl rfl ?_
                  refine .rd (.fieldAddr fd65_1 rfl) ?_
                  refine .on (t := 96) rfl rfl ?_
                  refine .rd (.load na9 rfl ((Knows.elem Rec.cells_len (by decide) (Knows.pick (.tail .head) k) hr).one (i := 1) rfl)) ?_
                  refine .on (t := 96) rfl rfl ?_
                  refine .rd (.lenT rfl rfl Try.underlying9 rfl) ?_
                  refine .on (t := 96) rfl rfl ?_
                  refine .rd (.gt rfl rfl) ?_
                  refine .rd (.pickF rfl rfl) ?_
                  refine .nil ?_
                  refine .condP rfl (fun h20 => ?_) (fun h20 => ?_)
                  · refine .seq ?_
                    refine .region ?_   -- R21 ref.go:106
                    refine .rd (.assign rfl) ?_
                    refine .nil ?_
                    have hv : right b = 2 := by rw [hrt, if_neg (by omega), if_pos (List.any_eq_true.2 ⟨r, hrm, (long_iff r).2 (by omega)⟩)]
                    rw [hv]
                    refine .retP Try.func52 (.cons (.tmp rfl) .nil) (.cons (.tail .head) .nil) ?_
                    exact ⟨[], ⟨rfl, rfl⟩, rfl⟩
                  · refine .skip ?_
                    refine .inBlock ?_
                    refine .region ?_   -- R19 ref.go:104
                    refine .rd (.move rfl) ?_
                    refine .rd (.add rfl rfl (by omega) (by omega)) ?_
                    refine .rd (.assign rfl) ?_
                    refine .nil ?_
                    exact (ih (j + 1) ⟨by omega, all_take (p := fun r => ¬ long r = true) hr (by rw [long_iff]; omega) hI.2⟩ (by omega)).to (.cons rfl (.cons rfl (.cons rfl .nil))) (.cons .head (.cons .head .nil))
              · have hl14 : ¬ b.recs.any long = true := any_none hI.2 (by omega)
                refine .exit rfl ?_
                refine .seq ?_
                refine .seq ?_
                refine .region ?_   -- R22 ref.go:109
                refine .rd (.fieldAddr fd27_0 rfl) ?_
                refine .rd (.ld na3 rfl .head rfl) ?_
                refine .rd (.move rfl) ?_
                refine .rd (.sub rfl rfl (by omega) (by omega)) ?_
                refine .rd (.sub rfl rfl (by omega) (by omega)) ?_
                refine .rd (.gt rfl rfl) ?_
                refine .rd (.move rfl) ?_
                refine .split (t := 112) rfl (fun g22_6 => ?_) (fun g22_6 => ?_)
                · replace g22_6 := of_decide_eq_true g22_6
                  refine .off (t := 112) rfl rfl rfl ?_
                  refine .off (t := 112) rfl rfl rfl ?_
                  refine .off (t := 112) rfl rfl rfl ?_
                  refine .off (t := 112) rfl rfl rfl ?_
                  refine .off (t := 112) rfl rfl rfl ?_
                  refine .off (t := 112) rfl rfl rfl ?_
                  refine .rd (.pickT rfl rfl) ?_
                  refine .nil ?_
                  refine .condT rfl ?_
                  refine .seq ?_
                  refine .region ?_   -- R23 ref.go:110
                  refine .rd (.assign rfl) ?_
                  refine .nil ?_
                  have hv : right b = 20 := by rw [hrt, if_neg (by omega), if_neg hl14, if_pos (by omega)]
                  rw [hv]
                  refine .retP Try.func52 (.cons (.tmp rfl) .nil) (.cons (.tail .head) .nil) ?_
                  exact ⟨[], ⟨rfl, rfl⟩, rfl⟩
                · replace g22_6 := of_decide_eq_false g22_6
                  refine .on (t := 112) rfl rfl ?_
                  refine .rd (.fieldAddr fd27_4 rfl) ?_
                  refine .on (t := 112) rfl rfl ?_
                  refine .rd (.ld na3 rfl .head rfl) ?_
                  refine .on (t := 112) rfl rfl ?_
                  refine .rd (.move rfl) ?_
                  refine .on (t := 112) rfl rfl ?_
                  refine .rd (.sub rfl rfl (by omega) (by omega)) ?_
                  refine .on (t := 112) rfl rfl ?_
                  refine .rd (.sub rfl rfl (by omega) (by omega)) ?_
                  refine .on (t := 112) rfl rfl ?_
                  refine .rd (.gt rfl rfl) ?_
                  refine .rd (.pickF rfl rfl) ?_
                  refine .nil ?_
                  refine .condP rfl (fun h22 => ?_) (fun h22 => ?_)
                  · refine .seq ?_
                    refine .region ?_   -- R23 ref.go:110
                    refine .rd (.assign rfl) ?_
                    refine .nil ?_
                    have hv : right b = 20 := by rw [hrt, if_neg (by omega), if_neg hl14, if_pos (by omega)]
                    rw [hv]
                    refine .retP Try.func52 (.cons (.tmp rfl) .nil) (.cons (.tail .head) .nil) ?_
                    exact ⟨[], ⟨rfl, rfl⟩, rfl⟩
                  · refine .skip ?_
                    refine .seq ?_
                    refine .seq ?_
                    have hs := small_of (b := b) (by omega) hl14
                    have hbl := body_len hf hs
                    refine .region ?_   -- R24 ref.go:112
                    refine .rd (.ldN ia27 ts27 rfl .head rfl) ?_
                    refine .fn rfl rfl .nil (Knows.pick (.tail .head) k) (rbody_ok b a c hf hs) (fun v G1 hq => ?_)
                    obtain ⟨rfl, rfl⟩ := hq
                    simp only [List.nil_append]
                    refine .rd (.lenT rfl rfl Try.underlying9 rfl) ?_
                    refine .rd (.add rfl rfl (by omega) (by omega)) ?_
                    refine .rd (.gt rfl rfl) ?_
                    refine .nil ?_
                    refine .condP rfl (fun h24 => ?_) (fun h24 => ?_)
                    · refine .seq ?_
                      refine .region ?_   -- R25 ref.go:113
                      refine .rd (.assign rfl) ?_
                      refine .nil ?_
                      have hv : right b = 2 := by rw [hrt, if_neg (by omega), if_neg hl14, if_neg (by omega), if_pos (by omega)]
                      rw [hv]
                      refine .retP Try.func52 (.cons (.tmp rfl) .nil) (.cons (.tail .head) .nil) ?_
                      exact ⟨[], ⟨rfl, rfl⟩, rfl⟩
                    · refine .skip ?_
                      refine .seq ?_
                      refine .region ?_   -- R26 ref.go:115
                      refine .rd (.assign rfl) ?_
                      refine .nil ?_
                      have hv : right b = 0 := by rw [hrt, if_neg (by omega), if_neg hl14, if_neg (by omega), if_neg (by omega)]
                      rw [hv]
                      refine .retP Try.func52 (.cons (.tmp rfl) .nil) (.cons (.tail .head) .nil) ?_
                      exact ⟨[], ⟨rfl, rfl⟩, rfl⟩

end Go.Proofs.Ytllpkagplfmlbaa

