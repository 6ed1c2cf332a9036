/- Steps through functions of the program, under conditions that each theorem states (part mod18 of a claim). -/
import Derived.Test.YtahpokcigdjilaaProg
import Derived.Test.YtahpokcigdjilaaMod17
namespace Go.Proofs.Ytahpokcigdjilaa
open Go Go.Sp

set_option linter.unusedVariables false

namespace mod18
theorem ti4 : TI Try.prog 4 1 1 (.bool false) := .of (by kernel_rfl)
theorem ti9 : TI Try.prog 9 1 16 (.string ⟨#[]⟩) := .of (by kernel_rfl)
theorem ts4 : TS Try.prog 4 1 := .of (by kernel_rfl)
theorem na4 : NotAgg Try.prog 4 := ⟨_, Try.underlying4, trivial⟩
theorem ts9 : TS Try.prog 9 1 := .of (by kernel_rfl)
theorem na9 : NotAgg Try.prog 9 := ⟨_, Try.underlying9, trivial⟩
end mod18
open mod18

theorem fillB (x0 x1 x2 x3 x4 x5 x6 x7 x8 x9 : Bool) : Instr.fill (fun i => some (i * 1, 1)) (madeCells (Value.bool false).cells (10 * 1)) [(0, .bool x0), (1, .bool x1), (2, .bool x2), (3, .bool x3), (4, .bool x4), (5, .bool x5), (6, .bool x6), (7, .bool x7), (8, .bool x8), (9, .bool x9)] = some [.bool x0, .bool x1, .bool x2, .bool x3, .bool x4, .bool x5, .bool x6, .bool x7, .bool x8, .bool x9].toArray := by kernel_rfl
theorem fillW (x0 x1 x2 x3 x4 x5 x6 x7 x8 x9 : ByteArray) : Instr.fill (fun i => some (i * 1, 1)) (madeCells (Value.string ⟨#[]⟩).cells (10 * 1)) [(0, .string x0), (1, .string x1), (2, .string x2), (3, .string x3), (4, .string x4), (5, .string x5), (6, .string x6), (7, .string x7), (8, .string x8), (9, .string x9)] = some [.string x0, .string x1, .string x2, .string x3, .string x4, .string x5, .string x6, .string x7, .string x8, .string x9].toArray := by kernel_rfl
def bcell (p : Bool × Tx) : List Value := [.bool p.1]
def wcell (p : Bool × Tx) : List Value := [.string (str p.2)]
theorem bcell_len (p : Bool × Tx) : (bcell p).length = 1 := rfl
theorem wcell_len (p : Bool × Tx) : (wcell p).length = 1 := rfl

set_option maxHeartbeats 1000000 in
set_option maxRecDepth 20000 in
theorem at_ok (a : Option Addr) (n c : Nat) (h : List Sn) (x : Sn) (i : Nat) (hi : h.length = i) (hn : i < n) (hb : n ≤ 1000000) : Cn Try.prog 15 [.slice a n c, .int .i64 (i : Int)] (RowAt a ((h ++ [x]).flatMap Sn.cells)) [] fun v G => v = .string (str (atB h x)) ∧ G = [] := by
  refine .enter Try.func15 rfl (by kernel_rfl) rfl fun R k => ?_
  refine .seq ?_
  refine .region ?_   -- R0 ref.go:216
  refine .rd (.assign rfl) ?_
  refine .nil ?_
  refine .seq ?_
  refine .region ?_   -- R1 ref.go:217
  refine .rd (.move rfl) ?_
  refine .rd (.move rfl) ?_
  refine .fn rfl rfl .nil (Knows.pick .head k) (call_ok a n c h x i hi hn hb) (fun v G1 hq => ?_)
  obtain ⟨rfl, rfl⟩ := hq
  simp only [List.nil_append]
  refine .rd (.move rfl) ?_
  refine .rd (.move rfl) ?_
  refine .fn rfl rfl .nil (Knows.pick .head k) (value_ok a n c h x i hi hn hb) (fun v G1 hq => ?_)
  obtain ⟨rfl, rfl⟩ := hq
  simp only [List.nil_append]
  refine .rd (.move rfl) ?_
  refine .rd (.move rfl) ?_
  refine .fn rfl rfl .nil (Knows.pick .head k) (offset_ok a n c h x i hi hn hb) (fun v G1 hq => ?_)
  obtain ⟨rfl, rfl⟩ := hq
  simp only [List.nil_append]
  refine .rd (.move rfl) ?_
  refine .rd (.move rfl) ?_
  refine .fn rfl rfl .nil (Knows.pick .head k) (unsent_ok a n c h x i hi hn hb) (fun v G1 hq => ?_)
  obtain ⟨rfl, rfl⟩ := hq
  simp only [List.nil_append]
  refine .rd (.move rfl) ?_
  refine .rd (.move rfl) ?_
  refine .fn rfl rfl .nil (Knows.pick .head k) (twice_ok a n c h x i hi hn hb) (fun v G1 hq => ?_)
  obtain ⟨rfl, rfl⟩ := hq
  simp only [List.nil_append]
  refine .rd (.move rfl) ?_
  refine .rd (.move rfl) ?_
  refine .fn rfl rfl .nil (Knows.pick .head k) (order_ok a n c h x i hi hn hb) (fun v G1 hq => ?_)
  obtain ⟨rfl, rfl⟩ := hq
  simp only [List.nil_append]
  refine .rd (.move rfl) ?_
  refine .rd (.move rfl) ?_
  refine .fn rfl rfl .nil (Knows.pick .head k) (deleted_ok a n c h x i hi hn hb) (fun v G1 hq => ?_)
  obtain ⟨rfl, rfl⟩ := hq
  simp only [List.nil_append]
  refine .rd (.move rfl) ?_
  refine .rd (.move rfl) ?_
  refine .fn rfl rfl .nil (Knows.pick .head k) (gen_ok a n c h x i hi hn hb) (fun v G1 hq => ?_)
  obtain ⟨rfl, rfl⟩ := hq
  simp only [List.nil_append]
  refine .rd (.move rfl) ?_
  refine .rd (.move rfl) ?_
  refine .fn rfl rfl .nil (Knows.pick .head k) (fenced_ok a n c h x i hi hn hb) (fun v G1 hq => ?_)
  obtain ⟨rfl, rfl⟩ := hq
  simp only [List.nil_append]
  refine .rd (.move rfl) ?_
  refine .rd (.move rfl) ?_
  refine .fn rfl rfl .nil (Knows.pick .head k) (commit_ok a n c h x i hi hn hb) (fun v G1 hq => ?_)
  obtain ⟨rfl, rfl⟩ := hq
  simp only [List.nil_append]
  refine .ef (.buildSlice (n := 10) (cs := (wordsP h x).flatMap bcell) Try.underlying88 ti4 rfl (by decide) (fillB _ _ _ _ _ _ _ _ _ _) (ones.of rfl)) ?_
  rintro _ _ ⟨qb, rfl, rfl⟩
  refine .rd (.assign rfl) ?_
  refine .nil ?_
  refine .seq ?_
  refine .region ?_   -- R2 ref.go:218
  refine .ef (.buildSlice (n := 10) (cs := (wordsP h x).flatMap wcell) Try.underlying28 ti9 rfl (by decide) (fillW _ _ _ _ _ _ _ _ _ _) (ones.of rfl)) ?_
  rintro _ _ ⟨qw, rfl, rfl⟩
  refine .rd (.assign rfl) ?_
  refine .nil ?_
  refine .seq ?_
  refine .seq ?_
  refine .region ?_   -- R3 ref.go:219
  refine .rd (.assign rfl) ?_
  refine .nil ?_
  refine .block ?_
  refine .loop (σ := Nat) (fun j => j ≤ 10 ∧ ∀ m < j, ∀ p, (wordsP h x)[m]? = some p → p.1 = false) (fun j => 10 - j) (fun j => [(5, .slice (some ⟨qb, 0, none⟩) 10 10), (6, .slice (some ⟨qw, 0, none⟩) 10 10), (7, .int .i64 (j : Nat))]) (fun j => [blk qb ((wordsP h x).flatMap bcell) 4, blk qw ((wordsP h x).flatMap wcell) 9, R]) 0 ⟨Nat.zero_le _, fun m hm => by omega⟩ (.cons rfl (.cons rfl (.cons rfl .nil))) (.cons (.tail .head) (.cons .head (.cons .head .nil))) (fun j hI ih => ?_)
  refine .seq ?_
  refine .seq ?_
  refine .region ?_   -- R4 ref.go:219
  refine .rd (.move rfl) ?_
  refine .rd (.move rfl) ?_
  refine .rd (.lenL rfl rfl Try.underlying88 rfl) ?_
  refine .rd (.lt rfl rfl) ?_
  refine .nil ?_
  refine .condP rfl (fun h4 => ?_) (fun h4 => ?_)
  · refine .skip ?_
    refine .seq ?_
    refine .block ?_
    refine .seq ?_
    obtain ⟨pw, hp⟩ : ∃ p, (wordsP h x)[j]? = some p := ⟨_, List.getElem?_eq_getElem (show j < 10 by omega)⟩
    refine .region ?_   -- R6 ref.go:220
    refine .rd (.move rfl) ?_
    refine .rd (.move rfl) ?_
    refine .rd (.indexAddr Try.underlying88 ts4 rfl rfl (by omega) (by omega)) ?_
    refine .rd (.load na4 rfl (Knows.one (i := 0) (Knows.elem (f := bcell) bcell_len (by decide) ((Knows.blk .head).mono fun _ h => .inr ⟨qb, 0, rfl, h⟩) hp) rfl)) ?_
    refine .nil ?_
    refine .cond rfl (fun h6 => ?_) (fun h6 => ?_)
    · refine .seq ?_
      refine .region ?_   -- R7 ref.go:221
      refine .rd (.move rfl) ?_
      refine .rd (.move rfl) ?_
      refine .rd (.indexAddr Try.underlying28 ts9 rfl rfl (by omega) (by omega)) ?_
      refine .rd (.load na9 rfl (Knows.one (i := 0) (Knows.elem (f := wcell) wcell_len (by decide) ((Knows.blk (.tail .head)).mono fun _ h => .inr ⟨qw, 0, rfl, h⟩) hp) rfl)) ?_
      refine .rd (.assign rfl) ?_
      refine .nil ?_
      have hv : atB h x = pw.2 := pickW_hit (l := wordsP h x) (k := j) (by rw [hp]; obtain ⟨p1, p2⟩ := pw; dsimp only at h6 ⊢; rw [h6]) hI.2
      rw [hv]
      refine .retP Try.func15 (.cons (.tmp rfl) .nil) (.cons (.tail (.tail .head)) .nil) ?_
      exact ⟨[], ⟨rfl, rfl⟩, rfl⟩
    · refine .skip ?_
      refine .inBlock ?_
      refine .region ?_   -- R5 ref.go:219
      refine .rd (.move rfl) ?_
      refine .rd (.add rfl rfl (by omega) (by omega)) ?_
      refine .rd (.assign rfl) ?_
      refine .nil ?_
      exact (ih (j + 1) ⟨by omega, fun m hm p2 h2 => by rcases Nat.lt_succ_iff_lt_or_eq.1 hm with hm | rfl; exact hI.2 m hm p2 h2; rw [hp] at h2; cases h2; simpa using h6⟩ (by omega)).to (.cons rfl (.cons rfl (.cons rfl .nil))) (.cons .head (.cons .head (.cons .head .nil)))
  · refine .exit rfl ?_
    refine .seq ?_
    refine .region ?_   -- R8 ref.go:224
    refine .rd (.assign rfl) ?_
    refine .nil ?_
    have hv : atB h x = [] := pickW_miss fun m hm p h2 => hI.2 m (by have : m < 10 := hm; omega) p h2
    rw [hv]
    refine .retP Try.func15 (.cons (.tmp rfl) .nil) (.cons (.tail (.tail .head)) .nil) ?_
    exact ⟨[], ⟨rfl, rfl⟩, rfl⟩

set_option maxRecDepth 20000 in
theorem refCheck_ok (l : List Sn) (a : Option Addr) (c : Nat) (hl : l.length ≤ 1000000) : Cn Try.prog 10 [.slice a l.length c] (RowAt a (l.flatMap Sn.cells)) [] fun v G => v = .tuple #[.int .i64 (refC l).1, .string (str (refC l).2)] ∧ G = [] := by
  refine .enter Try.func10 rfl (by kernel_rfl) rfl fun R k => ?_
  refine .seq ?_
  refine .region ?_   -- R0 ref.go:228
  refine .rd (.assign rfl) ?_
  refine .rd (.assign rfl) ?_
  refine .nil ?_
  refine .seq ?_
  refine .seq ?_
  refine .region ?_   -- R1 ref.go:229
  refine .rd (.assign rfl) ?_
  refine .nil ?_
  refine .block ?_
  refine .loop (σ := Nat) (fun i => i ≤ l.length ∧ refC l = refGo (l.take i) (l.drop i)) (fun i => l.length - i) (fun i => [(0, .slice a l.length c), (4, .int .i64 (i : Nat))]) (fun i => [R]) 0 ⟨Nat.zero_le _, rfl⟩ (.cons rfl (.cons rfl .nil)) (.cons .head .nil) (fun i hI ih => ?_)
  have hil := hI.1
  refine .seq ?_
  refine .seq ?_
  refine .region ?_   -- R2 ref.go:229
  refine .rd (.move rfl) ?_
  refine .rd (.move rfl) ?_
  refine .rd (.lenL rfl rfl Try.underlying22 rfl) ?_
  refine .rd (.lt rfl rfl) ?_
  refine .nil ?_
  refine .condP rfl (fun h2 => ?_) (fun h2 => ?_)
  · refine .skip ?_
    refine .seq ?_
    refine .block ?_
    refine .seq ?_
    obtain ⟨x, hx⟩ : ∃ x, l[i]? = some x := ⟨_, List.getElem?_eq_getElem (by omega)⟩
    refine .region ?_   -- R4 ref.go:230
    refine .rd (.move rfl) ?_
    refine .rd (.move rfl) ?_
    refine .fn rfl rfl .nil (Knows.pick .head (k.mono fun _ w => by rw [take_at hx]; exact RowAt.take w _)) (at_ok a l.length c (l.take i) x i (by rw [List.length_take]; omega) (by omega) (by omega)) (fun v G1 hq => ?_)
    obtain ⟨rfl, rfl⟩ := hq
    simp only [List.nil_append]
    refine .rd (.assign rfl) ?_
    refine .nil ?_
    refine .seq ?_
    refine .region ?_   -- R5 ref.go:231
    refine .rd (.move rfl) ?_
    refine .rd (.neT (m := []) rfl rfl) ?_
    refine .nil ?_
    refine .condN rfl (fun h5 => ?_) (fun h5 => ?_)
    · refine .seq ?_
      refine .region ?_   -- R6 ref.go:232
      refine .rd (.move rfl) ?_
      refine .rd (.move rfl) ?_
      refine .rd (.assign rfl) ?_
      refine .rd (.assign rfl) ?_
      refine .nil ?_
      rw [hI.2, ref_here hx h5]
      refine .retP Try.func10 (.cons (.tmp rfl) (.cons (.tmp rfl) .nil)) (.cons .head .nil) ?_
      exact ⟨[], ⟨rfl, rfl⟩, rfl⟩
    · refine .skip ?_
      refine .inBlock ?_
      refine .region ?_   -- R3 ref.go:229
      refine .rd (.move rfl) ?_
      refine .rd (.add rfl rfl (by omega) (by omega)) ?_
      refine .rd (.assign rfl) ?_
      refine .nil ?_
      exact (ih (i + 1) ⟨by omega, by rw [hI.2, ref_on hx h5]⟩ (by omega)).to (.cons rfl (.cons rfl .nil)) (.cons .head .nil)
  · refine .exit rfl ?_
    refine .seq ?_
    refine .region ?_   -- R7 ref.go:235
    refine .rd (.assign rfl) ?_
    refine .rd (.assign rfl) ?_
    refine .nil ?_
    obtain rfl : i = l.length := by omega
    rw [hI.2, List.drop_length]
    refine .retP Try.func10 (.cons (.tmp rfl) (.cons (.tmp rfl) .nil)) (.cons .head .nil) ?_
    exact ⟨[], ⟨rfl, rfl⟩, rfl⟩

end Go.Proofs.Ytahpokcigdjilaa

