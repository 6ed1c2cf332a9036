/- Steps through functions of the program, under conditions that each theorem states (part net9 of a claim). -/
import Derived.Test.YtfbmbhajpmlffaaProg
import Derived.Test.YtfbmbhajpmlffaaL9
import Derived.Test.YtfbmbhajpmlffaaDefs
import Derived.Test.YtfbmbhajpmlffaaNet2
namespace Go.Proofs.Ytfbmbhajpmlffaa
open Go Go.Sp

set_option linter.unusedVariables false

namespace net9
theorem na3 : NotAgg Try.prog 3 := ⟨_, Try.underlying3, trivial⟩
theorem na9 : NotAgg Try.prog 9 := ⟨_, Try.underlying9, trivial⟩
theorem fd32_0 : FD Try.prog 32 0 0 := .of Try.underlying32 (by kernel_rfl)
theorem fd32_1 : FD Try.prog 32 1 1 := .of Try.underlying32 (by kernel_rfl)
theorem fd32_2 : FD Try.prog 32 2 2 := .of Try.underlying32 (by kernel_rfl)
theorem fd32_3 : FD Try.prog 32 3 3 := .of Try.underlying32 (by kernel_rfl)
theorem fd32_17 : FD Try.prog 32 17 17 := .of Try.underlying32 (by kernel_rfl)
theorem fd32_6 : FD Try.prog 32 6 6 := .of Try.underlying32 (by kernel_rfl)
theorem fd32_20 : FD Try.prog 32 20 20 := .of Try.underlying32 (by kernel_rfl)
theorem na22 : NotAgg Try.prog 22 := ⟨_, Try.underlying22, trivial⟩
theorem fd32_18 : FD Try.prog 32 18 18 := .of Try.underlying32 (by kernel_rfl)
theorem na29 : NotAgg Try.prog 29 := ⟨_, Try.underlying29, trivial⟩
theorem fd32_19 : FD Try.prog 32 19 19 := .of Try.underlying32 (by kernel_rfl)
theorem na30 : NotAgg Try.prog 30 := ⟨_, Try.underlying30, trivial⟩
theorem ts3 : TS Try.prog 3 1 := .of (by kernel_rfl)
theorem ts65 : TS Try.prog 65 6 := .of (by kernel_rfl)
theorem fd65_0 : FD Try.prog 65 0 0 := .of Try.underlying65 (by kernel_rfl)
theorem fd65_5 : FD Try.prog 65 5 5 := .of Try.underlying65 (by kernel_rfl)
theorem na63 : NotAgg Try.prog 63 := ⟨_, Try.underlying63, trivial⟩
theorem ts67 : TS Try.prog 67 3 := .of (by kernel_rfl)
theorem ia67 : IsAgg Try.prog 67 := ⟨_, Try.underlying67, trivial⟩
end net9
open net9

theorem eq67 (e : Entry) : EqV Try.prog 2 67 (.agg e.cells.toArray) (.agg e.cells.toArray) true := by
  have h : EqV Try.prog 2 67 (.agg e.cells.toArray) (.agg e.cells.toArray) (decide (e.term = e.term) && (decide (e.index = e.index) && (decide (e.data = e.data) && true))) :=
    .struct Try.underlying67 (by kernel_rfl) (.cons (by decide) (part1 na3 rfl) (part1 na3 rfl) (.int Try.underlying3) (.cons (by decide) (part1 na3 rfl) (part1 na3 rfl) (.int Try.underlying3) (.cons (by decide) (part1 na9 rfl) (part1 na9 rfl) (.string Try.underlying9) .nil)))
  simpa using h

theorem sameMsg_ok (m : Msg) (s s' : Ms) (hok : m.ok) (hl : s.rs.length = m.batches.length) (hl' : s'.rs.length = m.batches.length) : Cn Try.prog 18 [.agg (mval m s).toArray, .agg (mval m s').toArray] (fun w => mat m s w ∧ mat m s' w) [] fun v G => v = .bool true ∧ G = [] := by
  have h1 := hok.b
  have h2 := hok.e
  have h3 := hok.i
  refine .enter Try.func18 rfl (by kernel_rfl) rfl fun R k => ?_
  obtain ⟨ab, cb, ae, ce, ai, ci, rs⟩ := s
  obtain ⟨ab', cb', ae', ce', ai', ci', rs'⟩ := s'
  dsimp only at hl hl'
  refine .seq ?_
  refine .region ?_   -- R0 law.go:19
  refine .ef (.box (l := mval m ⟨ab, cb, ae, ce, ai, ci, rs⟩) rfl rfl (ones.of rfl)) ?_
  rintro _ _ ⟨b2, rfl, rfl⟩
  refine .ef (.box (l := mval m ⟨ab', cb', ae', ce', ai', ci', rs'⟩) rfl rfl (ones.of rfl)) ?_
  rintro _ _ ⟨b3, rfl, rfl⟩
  refine .rd (.assign rfl) ?_
  refine .nil ?_
  refine .seq ?_
  refine .seq ?_
  refine .region ?_   -- R1 law.go:20
  refine .rd (.fieldAddr fd32_0 rfl) ?_
  refine .rd (.ld na3 rfl (.tail .head) rfl) ?_
  refine .rd (.fieldAddr fd32_0 rfl) ?_
  refine .rd (.ld na3 rfl .head rfl) ?_
  refine .rd (.neI rfl rfl) ?_
  refine .alter (t := 12) (v' := .bool false) rfl (by simp) ?_
  refine .rd (.move rfl) ?_
  refine .on (t := 13) rfl rfl ?_
  refine .rd (.fieldAddr fd32_1 rfl) ?_
  refine .on (t := 13) rfl rfl ?_
  refine .rd (.ld na3 rfl (.tail .head) rfl) ?_
  refine .on (t := 13) rfl rfl ?_
  refine .rd (.fieldAddr fd32_1 rfl) ?_
  refine .on (t := 13) rfl rfl ?_
  refine .rd (.ld na3 rfl .head rfl) ?_
  refine .on (t := 13) rfl rfl ?_
  refine .rd (.neI rfl rfl) ?_
  refine .alter (t := 18) (v' := .bool false) rfl (by simp) ?_
  refine .rd (.pickF rfl rfl) ?_
  refine .rd (.move rfl) ?_
  refine .on (t := 20) rfl rfl ?_
  refine .rd (.fieldAddr fd32_2 rfl) ?_
  refine .on (t := 20) rfl rfl ?_
  refine .rd (.ld na3 rfl (.tail .head) rfl) ?_
  refine .on (t := 20) rfl rfl ?_
  refine .rd (.fieldAddr fd32_2 rfl) ?_
  refine .on (t := 20) rfl rfl ?_
  refine .rd (.ld na3 rfl .head rfl) ?_
  refine .on (t := 20) rfl rfl ?_
  refine .rd (.neI rfl rfl) ?_
  refine .alter (t := 25) (v' := .bool false) rfl (by simp) ?_
  refine .rd (.pickF rfl rfl) ?_
  refine .rd (.move rfl) ?_
  refine .on (t := 27) rfl rfl ?_
  refine .rd (.fieldAddr fd32_3 rfl) ?_
  refine .on (t := 27) rfl rfl ?_
  refine .rd (.ld na3 rfl (.tail .head) rfl) ?_
  refine .on (t := 27) rfl rfl ?_
  refine .rd (.fieldAddr fd32_3 rfl) ?_
  refine .on (t := 27) rfl rfl ?_
  refine .rd (.ld na3 rfl .head rfl) ?_
  refine .on (t := 27) rfl rfl ?_
  refine .rd (.neI rfl rfl) ?_
  refine .alter (t := 32) (v' := .bool false) rfl (by simp) ?_
  refine .rd (.pickF rfl rfl) ?_
  refine .rd (.move rfl) ?_
  refine .on (t := 34) rfl rfl ?_
  refine .rd (.fieldAddr fd32_17 rfl) ?_
  refine .on (t := 34) rfl rfl ?_
  refine .rd (.ld na9 rfl (.tail .head) rfl) ?_
  refine .on (t := 34) rfl rfl ?_
  refine .rd (.fieldAddr fd32_17 rfl) ?_
  refine .on (t := 34) rfl rfl ?_
  refine .rd (.ld na9 rfl .head rfl) ?_
  refine .on (t := 34) rfl rfl ?_
  refine .rd (.neS rfl rfl) ?_
  refine .alter (t := 39) (v' := .bool false) rfl (by simp) ?_
  refine .rd (.pickF rfl rfl) ?_
  refine .rd (.move rfl) ?_
  refine .on (t := 41) rfl rfl ?_
  refine .rd (.fieldAddr fd32_6 rfl) ?_
  refine .on (t := 41) rfl rfl ?_
  refine .rd (.ld na3 rfl (.tail .head) rfl) ?_
  refine .on (t := 41) rfl rfl ?_
  refine .rd (.fieldAddr fd32_6 rfl) ?_
  refine .on (t := 41) rfl rfl ?_
  refine .rd (.ld na3 rfl .head rfl) ?_
  refine .on (t := 41) rfl rfl ?_
  refine .rd (.neI rfl rfl) ?_
  refine .alter (t := 46) (v' := .bool false) rfl (by simp) ?_
  refine .rd (.pickF rfl rfl) ?_
  refine .rd (.move rfl) ?_
  refine .on (t := 48) rfl rfl ?_
  refine .rd (.fieldAddr fd32_20 rfl) ?_
  refine .on (t := 48) rfl rfl ?_
  refine .rd (.ld na22 rfl (.tail .head) rfl) ?_
  refine .on (t := 48) rfl rfl ?_
  refine .rd (.lenL rfl rfl Try.underlying22 rfl) ?_
  refine .on (t := 48) rfl rfl ?_
  refine .rd (.fieldAddr fd32_20 rfl) ?_
  refine .on (t := 48) rfl rfl ?_
  refine .rd (.ld na22 rfl .head rfl) ?_
  refine .on (t := 48) rfl rfl ?_
  refine .rd (.lenL rfl rfl Try.underlying22 rfl) ?_
  refine .on (t := 48) rfl rfl ?_
  refine .rd (.neI rfl rfl) ?_
  refine .alter (t := 55) (v' := .bool false) rfl (by simp) ?_
  refine .rd (.pickF rfl rfl) ?_
  refine .rd (.move rfl) ?_
  refine .on (t := 57) rfl rfl ?_
  refine .rd (.fieldAddr fd32_18 rfl) ?_
  refine .on (t := 57) rfl rfl ?_
  refine .rd (.ld na29 rfl (.tail .head) rfl) ?_
  refine .on (t := 57) rfl rfl ?_
  refine .rd (.lenL rfl rfl Try.underlying29 rfl) ?_
  refine .on (t := 57) rfl rfl ?_
  refine .rd (.fieldAddr fd32_18 rfl) ?_
  refine .on (t := 57) rfl rfl ?_
  refine .rd (.ld na29 rfl .head rfl) ?_
  refine .on (t := 57) rfl rfl ?_
  refine .rd (.lenL rfl rfl Try.underlying29 rfl) ?_
  refine .on (t := 57) rfl rfl ?_
  refine .rd (.neI rfl rfl) ?_
  refine .alter (t := 64) (v' := .bool false) rfl (by simp) ?_
  refine .rd (.pickF rfl rfl) ?_
  refine .rd (.move rfl) ?_
  refine .on (t := 66) rfl rfl ?_
  refine .rd (.fieldAddr fd32_19 rfl) ?_
  refine .on (t := 66) rfl rfl ?_
  refine .rd (.ld na30 rfl (.tail .head) rfl) ?_
  refine .on (t := 66) rfl rfl ?_
  refine .rd (.lenL rfl rfl Try.underlying30 rfl) ?_
  refine .on (t := 66) rfl rfl ?_
  refine .rd (.fieldAddr fd32_19 rfl) ?_
  refine .on (t := 66) rfl rfl ?_
  refine .rd (.ld na30 rfl .head rfl) ?_
  refine .on (t := 66) rfl rfl ?_
  refine .rd (.lenL rfl rfl Try.underlying30 rfl) ?_
  refine .on (t := 66) rfl rfl ?_
  refine .rd (.neI rfl rfl) ?_
  refine .alter (t := 73) (v' := .bool false) rfl (by simp) ?_
  refine .rd (.pickF rfl rfl) ?_
  refine .nil ?_
  refine .condF rfl ?_
  refine .skip ?_
  refine .seq ?_
  refine .seq ?_
  refine .region ?_   -- R3 law.go:23
  refine .rd (.assign rfl) ?_
  refine .nil ?_
  refine .block ?_
  refine .loop (σ := Nat) (fun i => i ≤ m.ints.length) (fun i => m.ints.length - i) (fun i => [(2, .pointer (some ⟨b2, 0, none⟩)), (3, .pointer (some ⟨b3, 0, none⟩)), (5, .int .i64 (i : Nat))]) (fun i => [blk b2 (mval m ⟨ab, cb, ae, ce, ai, ci, rs⟩) 32, blk b3 (mval m ⟨ab', cb', ae', ce', ai', ci', rs'⟩) 32, R]) 0 (Nat.zero_le _) (.cons rfl (.cons rfl (.cons rfl .nil))) (.cons (.tail .head) (.cons .head (.cons .head .nil))) (fun i hI ih => ?_)
  refine .seq ?_
  refine .seq ?_
  refine .region ?_   -- R4 law.go:23
  refine .rd (.move rfl) ?_
  refine .rd (.fieldAddr fd32_20 rfl) ?_
  refine .rd (.ld na22 rfl .head rfl) ?_
  refine .rd (.lenL rfl rfl Try.underlying22 rfl) ?_
  refine .rd (.lt rfl rfl) ?_
  refine .nil ?_
  refine .condP rfl (fun h4 => ?_) (fun h4 => ?_)
  · refine .skip ?_
    refine .seq ?_
    refine .block ?_
    refine .seq ?_
    have hlt : i < m.ints.length := by omega
    obtain ⟨x, hx⟩ : ∃ x, m.ints[i]? = some x := ⟨_, List.getElem?_eq_getElem hlt⟩
    refine .tell (φ := ∃ b o, ai = some ⟨b, o, none⟩) (Knows.pick (.tail (.tail .head)) (k.mono fun _ h => h.1.i.addr (by rw [flat_length icell_len]; omega))) (fun hx => ?_)
    obtain ⟨bb, oo, rfl⟩ := hx
    refine .tell (φ := ∃ b o, ai' = some ⟨b, o, none⟩) (Knows.pick (.tail (.tail .head)) (k.mono fun _ h => h.2.i.addr (by rw [flat_length icell_len]; omega))) (fun hx => ?_)
    obtain ⟨bb', oo', rfl⟩ := hx
    refine .draws [1, 4, 6, 9] [blk b2 (mval m ⟨ab, cb, ae, ce, some ⟨bb, oo, none⟩, ci, rs⟩) 32, blk b3 (mval m ⟨ab', cb', ae', ce', some ⟨bb', oo', none⟩, ci', rs'⟩) 32, R] (by kernel_rfl) ?_   -- R6 law.go:24
    refine .rp 0 rfl (by kernel_rfl) (by kernel_rfl) (by kernel_rfl) (Reads.pure (.fieldAddr fd32_20 rfl)) ?_
    refine .rd 1 rfl rfl (by kernel_rfl) (by kernel_rfl) (by kernel_rfl) (.ld na22 rfl .head rfl) (.cons .head (.cons .head (.cons .head .nil))) ?_
    refine .rp 2 rfl (by kernel_rfl) (by kernel_rfl) (by kernel_rfl) (Reads.pure (.move rfl)) ?_
    refine .rp 3 rfl (by kernel_rfl) (by kernel_rfl) (by kernel_rfl) (Reads.pure (.indexAddr Try.underlying22 ts3 rfl rfl (by omega) (by omega))) ?_
    refine .rd 4 rfl rfl (by kernel_rfl) (by kernel_rfl) (by kernel_rfl) (.load na3 rfl (Knows.one (i := 0) (Knows.elem icell_len (by decide) (Knows.pick (.tail (.tail .head)) (k.mono fun _ h => h.1.i)) hx) rfl)) (.cons .head (.cons .head (.cons .head .nil))) ?_
    refine .rp 5 rfl (by kernel_rfl) (by kernel_rfl) (by kernel_rfl) (Reads.pure (.fieldAddr fd32_20 rfl)) ?_
    refine .rd 6 rfl rfl (by kernel_rfl) (by kernel_rfl) (by kernel_rfl) (.ld na22 rfl (.tail .head) rfl) (.cons .head (.cons .head (.cons .head .nil))) ?_
    refine .rp 7 rfl (by kernel_rfl) (by kernel_rfl) (by kernel_rfl) (Reads.pure (.move rfl)) ?_
    refine .rp 8 rfl (by kernel_rfl) (by kernel_rfl) (by kernel_rfl) (Reads.pure (.indexAddr Try.underlying22 ts3 rfl rfl (by omega) (by omega))) ?_
    refine .rd 9 rfl rfl (by kernel_rfl) (by kernel_rfl) (by kernel_rfl) (.load na3 rfl (Knows.one (i := 0) (Knows.elem icell_len (by decide) (Knows.pick (.tail (.tail .head)) (k.mono fun _ h => h.2.i)) hx) rfl)) (.cons .head (.cons .head (.cons .head .nil))) ?_
    refine .rp 10 rfl (by kernel_rfl) (by kernel_rfl) (by kernel_rfl) (Reads.pure (.neI rfl rfl)) ?_
    refine .alter (t := 92) (v' := .bool false) rfl (by simp) ?_
    refine .done (by kernel_rfl) ?_
    refine .condF rfl ?_
    refine .skip ?_
    refine .inBlock ?_
    refine .region ?_   -- R5 law.go:23
    refine .rd (.move rfl) ?_
    refine .rd (.add rfl rfl (by omega) (by omega)) ?_
    refine .rd (.assign rfl) ?_
    refine .nil ?_
    exact (ih (i + 1) (by omega) (by omega)).to (.cons rfl (.cons rfl (.cons rfl .nil))) (.cons .head (.cons .head (.cons .head .nil)))
  · refine .exit rfl ?_
    refine .seq ?_
    refine .seq ?_
    refine .region ?_   -- R8 law.go:28
    refine .rd (.assign rfl) ?_
    refine .nil ?_
    refine .block ?_
    refine .loop (σ := Nat) (fun i => i ≤ m.batches.length) (fun i => m.batches.length - i) (fun i => [(2, .pointer (some ⟨b2, 0, none⟩)), (3, .pointer (some ⟨b3, 0, none⟩)), (6, .int .i64 (i : Nat))]) (fun i => [blk b2 (mval m ⟨ab, cb, ae, ce, ai, ci, rs⟩) 32, blk b3 (mval m ⟨ab', cb', ae', ce', ai', ci', rs'⟩) 32, R]) 0 (Nat.zero_le _) (.cons rfl (.cons rfl (.cons rfl .nil))) (.cons .head (.cons .head (.cons .head .nil))) (fun i hI ih => ?_)
    refine .seq ?_
    refine .seq ?_
    refine .region ?_   -- R9 law.go:28
    refine .rd (.move rfl) ?_
    refine .rd (.fieldAddr fd32_18 rfl) ?_
    refine .rd (.ld na29 rfl .head rfl) ?_
    refine .rd (.lenL rfl rfl Try.underlying29 rfl) ?_
    refine .rd (.lt rfl rfl) ?_
    refine .nil ?_
    refine .condP rfl (fun h9 => ?_) (fun h9 => ?_)
    · refine .skip ?_
      refine .seq ?_
      refine .block ?_
      refine .seq ?_
      have hlt : i < m.batches.length := by omega
      obtain ⟨x, hx⟩ : ∃ x, m.batches[i]? = some x := ⟨_, List.getElem?_eq_getElem hlt⟩
      obtain ⟨r, hr⟩ : ∃ r, rs[i]? = some r := ⟨_, List.getElem?_eq_getElem (by omega)⟩
      obtain ⟨r', hr'⟩ : ∃ r, rs'[i]? = some r := ⟨_, List.getElem?_eq_getElem (by omega)⟩
      have hz := zip_at hx hr
      have hz' := zip_at hx hr'
      refine .tell (φ := ∃ b o, ab = some ⟨b, o, none⟩) (Knows.pick (.tail (.tail .head)) (k.mono fun _ h => h.1.b.addr (by rw [flat_length bcell_len]; simp [List.length_zip]; omega))) (fun hx => ?_)
      obtain ⟨bb, oo, rfl⟩ := hx
      refine .tell (φ := ∃ b o, ab' = some ⟨b, o, none⟩) (Knows.pick (.tail (.tail .head)) (k.mono fun _ h => h.2.b.addr (by rw [flat_length bcell_len]; simp [List.length_zip]; omega))) (fun hx => ?_)
      obtain ⟨bb', oo', rfl⟩ := hx
      refine .draws [1, 5, 7, 11, 15, 19, 22, 26] [blk b2 (mval m ⟨some ⟨bb, oo, none⟩, cb, ae, ce, ai, ci, rs⟩) 32, blk b3 (mval m ⟨some ⟨bb', oo', none⟩, cb', ae', ce', ai', ci', rs'⟩) 32, R] (by kernel_rfl) ?_   -- R11 law.go:29
      refine .rp 0 rfl (by kernel_rfl) (by kernel_rfl) (by kernel_rfl) (Reads.pure (.fieldAddr fd32_18 rfl)) ?_
      refine .rd 1 rfl rfl (by kernel_rfl) (by kernel_rfl) (by kernel_rfl) (.ld na29 rfl .head rfl) (.cons .head (.cons .head (.cons .head .nil))) ?_
      refine .rp 2 rfl (by kernel_rfl) (by kernel_rfl) (by kernel_rfl) (Reads.pure (.move rfl)) ?_
      refine .rp 3 rfl (by kernel_rfl) (by kernel_rfl) (by kernel_rfl) (Reads.pure (.indexAddr Try.underlying29 ts65 rfl rfl (by omega) (by omega))) ?_
      refine .rp 4 rfl (by kernel_rfl) (by kernel_rfl) (by kernel_rfl) (Reads.pure (.fieldAddr fd65_0 rfl)) ?_
      refine .rd 5 rfl rfl (by kernel_rfl) (by kernel_rfl) (by kernel_rfl) (.load na3 rfl (Knows.one (i := 0) (Knows.elem bcell_len (by decide) (Knows.pick (.tail (.tail .head)) (k.mono fun _ h => h.1.b)) hz) rfl)) (.cons .head (.cons .head (.cons .head .nil))) ?_
      refine .rp 6 rfl (by kernel_rfl) (by kernel_rfl) (by kernel_rfl) (Reads.pure (.fieldAddr fd32_18 rfl)) ?_
      refine .rd 7 rfl rfl (by kernel_rfl) (by kernel_rfl) (by kernel_rfl) (.ld na29 rfl (.tail .head) rfl) (.cons .head (.cons .head (.cons .head .nil))) ?_
      refine .rp 8 rfl (by kernel_rfl) (by kernel_rfl) (by kernel_rfl) (Reads.pure (.move rfl)) ?_
      refine .rp 9 rfl (by kernel_rfl) (by kernel_rfl) (by kernel_rfl) (Reads.pure (.indexAddr Try.underlying29 ts65 rfl rfl (by omega) (by omega))) ?_
      refine .rp 10 rfl (by kernel_rfl) (by kernel_rfl) (by kernel_rfl) (Reads.pure (.fieldAddr fd65_0 rfl)) ?_
      refine .rd 11 rfl rfl (by kernel_rfl) (by kernel_rfl) (by kernel_rfl) (.load na3 rfl (Knows.one (i := 0) (Knows.elem bcell_len (by decide) (Knows.pick (.tail (.tail .head)) (k.mono fun _ h => h.2.b)) hz') rfl)) (.cons .head (.cons .head (.cons .head .nil))) ?_
      refine .rp 12 rfl (by kernel_rfl) (by kernel_rfl) (by kernel_rfl) (Reads.pure (.neI rfl rfl)) ?_
      refine .alter (t := 112) (v' := .bool false) rfl (by simp) ?_
      refine .rp 13 rfl (by kernel_rfl) (by kernel_rfl) (by kernel_rfl) (Reads.pure (.move rfl)) ?_
      refine .rpG 14 (t := 113) rfl rfl rfl (by kernel_rfl) (by kernel_rfl) (by kernel_rfl) (Reads.pure (.fieldAddr fd32_18 rfl)) ?_
      refine .rdG 15 (t := 113) rfl rfl rfl rfl (by kernel_rfl) (by kernel_rfl) (by kernel_rfl) (.ld na29 rfl .head rfl) (.cons .head (.cons .head (.cons .head .nil))) ?_
      refine .rpG 16 (t := 113) rfl rfl rfl (by kernel_rfl) (by kernel_rfl) (by kernel_rfl) (Reads.pure (.move rfl)) ?_
      refine .rpG 17 (t := 113) rfl rfl rfl (by kernel_rfl) (by kernel_rfl) (by kernel_rfl) (Reads.pure (.indexAddr Try.underlying29 ts65 rfl rfl (by omega) (by omega))) ?_
      refine .rpG 18 (t := 113) rfl rfl rfl (by kernel_rfl) (by kernel_rfl) (by kernel_rfl) (Reads.pure (.fieldAddr fd65_5 rfl)) ?_
      refine .rdG 19 (t := 113) rfl rfl rfl rfl (by kernel_rfl) (by kernel_rfl) (by kernel_rfl) (.load na63 rfl (Knows.one (i := 5) (Knows.elem bcell_len (by decide) (Knows.pick (.tail (.tail .head)) (k.mono fun _ h => h.1.b)) hz) rfl)) (.cons .head (.cons .head (.cons .head .nil))) ?_
      refine .rpG 20 (t := 113) rfl rfl rfl (by kernel_rfl) (by kernel_rfl) (by kernel_rfl) (Reads.pure (.lenL rfl rfl Try.underlying63 rfl)) ?_
      refine .rpG 21 (t := 113) rfl rfl rfl (by kernel_rfl) (by kernel_rfl) (by kernel_rfl) (Reads.pure (.fieldAddr fd32_18 rfl)) ?_
      refine .rdG 22 (t := 113) rfl rfl rfl rfl (by kernel_rfl) (by kernel_rfl) (by kernel_rfl) (.ld na29 rfl (.tail .head) rfl) (.cons .head (.cons .head (.cons .head .nil))) ?_
      refine .rpG 23 (t := 113) rfl rfl rfl (by kernel_rfl) (by kernel_rfl) (by kernel_rfl) (Reads.pure (.move rfl)) ?_
      refine .rpG 24 (t := 113) rfl rfl rfl (by kernel_rfl) (by kernel_rfl) (by kernel_rfl) (Reads.pure (.indexAddr Try.underlying29 ts65 rfl rfl (by omega) (by omega))) ?_
      refine .rpG 25 (t := 113) rfl rfl rfl (by kernel_rfl) (by kernel_rfl) (by kernel_rfl) (Reads.pure (.fieldAddr fd65_5 rfl)) ?_
      refine .rdG 26 (t := 113) rfl rfl rfl rfl (by kernel_rfl) (by kernel_rfl) (by kernel_rfl) (.load na63 rfl (Knows.one (i := 5) (Knows.elem bcell_len (by decide) (Knows.pick (.tail (.tail .head)) (k.mono fun _ h => h.2.b)) hz') rfl)) (.cons .head (.cons .head (.cons .head .nil))) ?_
      refine .rpG 27 (t := 113) rfl rfl rfl (by kernel_rfl) (by kernel_rfl) (by kernel_rfl) (Reads.pure (.lenL rfl rfl Try.underlying63 rfl)) ?_
      refine .rpG 28 (t := 113) rfl rfl rfl (by kernel_rfl) (by kernel_rfl) (by kernel_rfl) (Reads.pure (.neI rfl rfl)) ?_
      refine .alter (t := 128) (v' := .bool false) rfl (by simp) ?_
      refine .rp 29 rfl (by kernel_rfl) (by kernel_rfl) (by kernel_rfl) (Reads.pure (.pickF rfl rfl)) ?_
      refine .done (by kernel_rfl) ?_
      refine .condF rfl ?_
      refine .skip ?_
      refine .inBlock ?_
      refine .region ?_   -- R10 law.go:28
      refine .rd (.move rfl) ?_
      refine .rd (.add rfl rfl (by omega) (by omega)) ?_
      refine .rd (.assign rfl) ?_
      refine .nil ?_
      exact (ih (i + 1) (by omega) (by omega)).to (.cons rfl (.cons rfl (.cons rfl .nil))) (.cons .head (.cons .head (.cons .head .nil)))
    · refine .exit rfl ?_
      refine .seq ?_
      refine .seq ?_
      refine .region ?_   -- R13 law.go:33
      refine .rd (.assign rfl) ?_
      refine .nil ?_
      refine .block ?_
      refine .loop (σ := Nat) (fun i => i ≤ m.entries.length) (fun i => m.entries.length - i) (fun i => [(2, .pointer (some ⟨b2, 0, none⟩)), (3, .pointer (some ⟨b3, 0, none⟩)), (7, .int .i64 (i : Nat))]) (fun i => [blk b2 (mval m ⟨ab, cb, ae, ce, ai, ci, rs⟩) 32, blk b3 (mval m ⟨ab', cb', ae', ce', ai', ci', rs'⟩) 32, R]) 0 (Nat.zero_le _) (.cons rfl (.cons rfl (.cons rfl .nil))) (.cons .head (.cons .head (.cons .head .nil))) (fun i hI ih => ?_)
      refine .seq ?_
      refine .seq ?_
      refine .region ?_   -- R14 law.go:33
      refine .rd (.move rfl) ?_
      refine .rd (.fieldAddr fd32_19 rfl) ?_
      refine .rd (.ld na30 rfl .head rfl) ?_
      refine .rd (.lenL rfl rfl Try.underlying30 rfl) ?_
      refine .rd (.lt rfl rfl) ?_
      refine .nil ?_
      refine .condP rfl (fun h14 => ?_) (fun h14 => ?_)
      · refine .skip ?_
        refine .seq ?_
        refine .block ?_
        refine .seq ?_
        have hlt : i < m.entries.length := by omega
        obtain ⟨x, hx⟩ : ∃ x, m.entries[i]? = some x := ⟨_, List.getElem?_eq_getElem hlt⟩
        refine .tell (φ := ∃ b o, ae = some ⟨b, o, none⟩) (Knows.pick (.tail (.tail .head)) (k.mono fun _ h => h.1.e.addr (by rw [flat_length Entry.cells_len]; omega))) (fun hx => ?_)
        obtain ⟨bb, oo, rfl⟩ := hx
        refine .tell (φ := ∃ b o, ae' = some ⟨b, o, none⟩) (Knows.pick (.tail (.tail .head)) (k.mono fun _ h => h.2.e.addr (by rw [flat_length Entry.cells_len]; omega))) (fun hx => ?_)
        obtain ⟨bb', oo', rfl⟩ := hx
        refine .draws [1, 4, 6, 9] [blk b2 (mval m ⟨ab, cb, some ⟨bb, oo, none⟩, ce, ai, ci, rs⟩) 32, blk b3 (mval m ⟨ab', cb', some ⟨bb', oo', none⟩, ce', ai', ci', rs'⟩) 32, R] (by kernel_rfl) ?_   -- R16 law.go:34
        refine .rp 0 rfl (by kernel_rfl) (by kernel_rfl) (by kernel_rfl) (Reads.pure (.fieldAddr fd32_19 rfl)) ?_
        refine .rd 1 rfl rfl (by kernel_rfl) (by kernel_rfl) (by kernel_rfl) (.ld na30 rfl .head rfl) (.cons .head (.cons .head (.cons .head .nil))) ?_
        refine .rp 2 rfl (by kernel_rfl) (by kernel_rfl) (by kernel_rfl) (Reads.pure (.move rfl)) ?_
        refine .rp 3 rfl (by kernel_rfl) (by kernel_rfl) (by kernel_rfl) (Reads.pure (.indexAddr Try.underlying30 ts67 rfl rfl (by omega) (by omega))) ?_
        refine .rd 4 rfl rfl (by kernel_rfl) (by kernel_rfl) (by kernel_rfl) (.loadN ia67 ts67 rfl rfl (Knows.elem Entry.cells_len (by decide) (Knows.pick (.tail (.tail .head)) (k.mono fun _ h => h.1.e)) hx)) (.cons .head (.cons .head (.cons .head .nil))) ?_
        refine .rp 5 rfl (by kernel_rfl) (by kernel_rfl) (by kernel_rfl) (Reads.pure (.fieldAddr fd32_19 rfl)) ?_
        refine .rd 6 rfl rfl (by kernel_rfl) (by kernel_rfl) (by kernel_rfl) (.ld na30 rfl (.tail .head) rfl) (.cons .head (.cons .head (.cons .head .nil))) ?_
        refine .rp 7 rfl (by kernel_rfl) (by kernel_rfl) (by kernel_rfl) (Reads.pure (.move rfl)) ?_
        refine .rp 8 rfl (by kernel_rfl) (by kernel_rfl) (by kernel_rfl) (Reads.pure (.indexAddr Try.underlying30 ts67 rfl rfl (by omega) (by omega))) ?_
        refine .rd 9 rfl rfl (by kernel_rfl) (by kernel_rfl) (by kernel_rfl) (.loadN ia67 ts67 rfl rfl (Knows.elem Entry.cells_len (by decide) (Knows.pick (.tail (.tail .head)) (k.mono fun _ h => h.2.e)) hx)) (.cons .head (.cons .head (.cons .head .nil))) ?_
        refine .rp 10 rfl (by kernel_rfl) (by kernel_rfl) (by kernel_rfl) (Reads.pure (.neA (xs := x.cells.toArray) (ys := x.cells.toArray) (by kernel_rfl) rfl (eq67 x) rfl rfl)) ?_
        refine .alter (t := 147) (v' := .bool false) rfl (by simp) ?_
        refine .done (by kernel_rfl) ?_
        refine .condF rfl ?_
        refine .skip ?_
        refine .inBlock ?_
        refine .region ?_   -- R15 law.go:33
        refine .rd (.move rfl) ?_
        refine .rd (.add rfl rfl (by omega) (by omega)) ?_
        refine .rd (.assign rfl) ?_
        refine .nil ?_
        exact (ih (i + 1) (by omega) (by omega)).to (.cons rfl (.cons rfl (.cons rfl .nil))) (.cons .head (.cons .head (.cons .head .nil)))
      · refine .exit rfl ?_
        refine .seq ?_
        refine .region ?_   -- R18 law.go:38
        refine .rd (.assign rfl) ?_
        refine .nil ?_
        refine .retP Try.func18 (.cons (.tmp rfl) .nil) (.cons (.tail (.tail .head)) .nil) ?_
        exact ⟨[], ⟨rfl, rfl⟩, rfl⟩

end Go.Proofs.Ytfbmbhajpmlffaa

