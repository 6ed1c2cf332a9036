/- Steps through functions of the program, under conditions that each theorem states (part mod16 of a claim). -/
import Derived.Test.YtahpokcigdjilaaProg
import Derived.Test.YtahpokcigdjilaaMod15
import Derived.Test.YtahpokcigdjilaaMod13
namespace Go.Proofs.Ytahpokcigdjilaa
open Go Go.Sp

set_option linter.unusedVariables false

namespace mod16
theorem ts36 : TS Try.prog 36 12 := .of (by kernel_rfl)
theorem ia36 : IsAgg Try.prog 36 := ⟨_, Try.underlying36, trivial⟩
theorem fd36_3 : FD Try.prog 36 3 3 := .of Try.underlying36 (by kernel_rfl)
theorem na3 : NotAgg Try.prog 3 := ⟨_, Try.underlying3, trivial⟩
theorem fd36_9 : FD Try.prog 36 9 9 := .of Try.underlying36 (by kernel_rfl)
theorem na9 : NotAgg Try.prog 9 := ⟨_, Try.underlying9, trivial⟩
theorem ts3 : TS Try.prog 3 1 := .of (by kernel_rfl)
theorem fd36_4 : FD Try.prog 36 4 4 := .of Try.underlying36 (by kernel_rfl)
theorem ti3 : TI Try.prog 3 1 8 (.int .i64 0) := .of (by kernel_rfl)
theorem fd36_11 : FD Try.prog 36 11 11 := .of Try.underlying36 (by kernel_rfl)
theorem na4 : NotAgg Try.prog 4 := ⟨_, Try.underlying4, trivial⟩
theorem fd36_0 : FD Try.prog 36 0 0 := .of Try.underlying36 (by kernel_rfl)
theorem fd36_1 : FD Try.prog 36 1 1 := .of Try.underlying36 (by kernel_rfl)
theorem fd36_8 : FD Try.prog 36 8 8 := .of Try.underlying36 (by kernel_rfl)
end mod16
open mod16

theorem mem_next {L : List Int} {j : Nat} {w o : Int} (hw : L[j]? = some w) : decide (o ∈ L.take (j + 1)) = (decide (o ∈ L.take j) || decide (w = o)) := by
  rw [List.take_add_one, hw, Bool.eq_iff_iff, Bool.or_eq_true, decide_eq_true_iff, decide_eq_true_iff, decide_eq_true_iff, List.mem_append]
  constructor
  · rintro (h | h)
    · exact .inl h
    · exact .inr (List.mem_singleton.1 h).symm
  · rintro (h | h)
    · exact .inl h
    · exact .inr (List.mem_singleton.2 h.symm)

set_option maxRecDepth 20000 in
theorem twice_ok (a : Option Addr) (n c : Nat) (h : List Sn) (x : Sn) (i : Nat) (hi : h.length = i) (hn : i < n) (hb : n ≤ 1000000) : Cn Try.prog 24 [.slice a n c, .int .i64 (i : Int)] (RowAt a ((h ++ [x]).flatMap Sn.cells)) [] fun v G => v = .bool (twiceB h x) ∧ G = [] := by
  refine .enter Try.func24 rfl (by kernel_rfl) rfl fun R k => ?_
  have hx : (h ++ [x])[i]? = some x := at_last hi
  refine .tell (φ := ∃ b o, a = some ⟨b, o, none⟩) (Knows.pick .head (k.mono fun _ h => RowAt.addr h (by rw [flat_length Sn.cells_len]; simp))) (fun hh => ?_)
  obtain ⟨bb, oo, rfl⟩ := hh
  refine .seq ?_
  refine .region ?_   -- R0 ref.go:87
  refine .rd (.assign rfl) ?_
  refine .nil ?_
  refine .seq ?_
  refine .region ?_   -- R1 ref.go:88
  refine .rd (.move rfl) ?_
  refine .rd (.move rfl) ?_
  refine .rd (.indexAddr Try.underlying22 ts36 rfl rfl (by omega) (by omega)) ?_
  refine .rd (.loadN ia36 ts36 rfl rfl (Knows.elem (f := Sn.cells) Sn.cells_len (by decide) (Knows.pick .head k) hx)) ?_
  refine .fn rfl rfl .nil (fun _ _ _ => trivial) (told_ok x) (fun v G1 hq => ?_)
  obtain ⟨rfl, rfl⟩ := hq
  simp only [List.nil_append]
  refine .rd (.assign rfl) ?_
  refine .nil ?_
  refine .seq ?_
  refine .seq ?_
  refine .region ?_   -- R2 ref.go:89
  refine .rd (.move rfl) ?_
  refine .rd (.not rfl) ?_
  refine .nil ?_
  refine .cond rfl (fun h2 => ?_) (fun h2 => ?_)
  · refine .seq ?_
    refine .region ?_   -- R3 ref.go:90
    refine .rd (.assign rfl) ?_
    refine .nil ?_
    have hv : twiceB h x = false := by unfold twiceB; rw [(by simpa using h2 : toldB x = false)]; rfl
    rw [hv]
    refine .retP Try.func24 (.cons (.tmp rfl) .nil) (.cons .head .nil) ?_
    exact ⟨[], ⟨rfl, rfl⟩, rfl⟩
  · refine .skip ?_
    refine .seq ?_
    refine .region ?_   -- R4 ref.go:92
    refine .rd (.assign rfl) ?_
    refine .nil ?_
    refine .nilArr 3 1 none ?_
    refine .seq ?_
    refine .seq ?_
    refine .region ?_   -- R5 ref.go:93
    refine .rd (.assign rfl) ?_
    refine .nil ?_
    refine .block ?_
    refine .loop (σ := Nat × Option Addr × Nat × List Int) (fun ⟨k', a', c', L⟩ => k' ≤ i + 1 ∧ L = offsR ((h ++ [x]).take k') x ∧ L.length ≤ k') (fun ⟨k', a', c', L⟩ => i + 1 - k') (fun ⟨k', a', c', L⟩ => [(0, .slice (some ⟨bb, oo, none⟩) n c), (1, .int .i64 (i : Int)), (6, .slice a' L.length c'), (7, .int .i64 (k' : Nat))]) (fun ⟨k', a', c', L⟩ => [arr 3 1 a' c' (L.flatMap icell), R]) (0, none, 0, []) ⟨Nat.zero_le _, rfl, Nat.le_refl _⟩ (.cons rfl (.cons rfl (.cons rfl (.cons rfl .nil)))) (.cons .head (.cons .head .nil)) (fun s' hI ih => ?_)
    obtain ⟨k', a', c', L⟩ := s'
    dsimp only at hI ih ⊢
    have hki := hI.1
    have hLl := hI.2.2
    refine .seq ?_
    refine .seq ?_
    refine .region ?_   -- R6 ref.go:93
    refine .rd (.move rfl) ?_
    refine .rd (.move rfl) ?_
    refine .rd (.le rfl rfl) ?_
    refine .nil ?_
    refine .condP rfl (fun h6 => ?_) (fun h6 => ?_)
    · refine .skip ?_
      refine .seq ?_
      refine .block ?_
      refine .seq ?_
      obtain ⟨y, hy'⟩ : ∃ y, (h ++ [x])[k']? = some y := ⟨_, List.getElem?_eq_getElem (by rw [List.length_append, hi]; show k' < i + 1; omega)⟩
      refine .region ?_   -- R8 ref.go:94
      refine .rd (.move rfl) ?_
      refine .rd (.move rfl) ?_
      refine .rd (.indexAddr Try.underlying22 ts36 rfl rfl (by omega) (by omega)) ?_
      refine .rd (.loadN ia36 ts36 rfl rfl (Knows.elem (f := Sn.cells) Sn.cells_len (by decide) (Knows.pick (.tail .head) k) hy')) ?_
      refine .fn rfl rfl .nil (fun _ _ _ => trivial) (told_ok y) (fun v G1 hq => ?_)
      obtain ⟨rfl, rfl⟩ := hq
      simp only [List.nil_append]
      refine .rd (.assign rfl) ?_
      refine .nil ?_
      refine .seq ?_
      refine .seq ?_
      refine .drawsJoin [7, 12, 20, 25] [R] 55 (skipT x y) (by kernel_rfl) ?_ ?_   -- R9 ref.go:95
      · refine .rp 0 rfl (by kernel_rfl) (by kernel_rfl) (by kernel_rfl) (Reads.pure (.move rfl)) ?_
        refine .rp 1 rfl (by kernel_rfl) (by kernel_rfl) (by kernel_rfl) (Reads.pure (.not rfl)) ?_
        refine .rp 2 rfl (by kernel_rfl) (by kernel_rfl) (by kernel_rfl) (Reads.pure (.move rfl)) ?_
        refine .split (t := 30) rfl (fun g9_2 => ?_) (fun g9_2 => ?_)
        · refine .off 3 (t := 30) rfl rfl rfl rfl (by kernel_rfl) (by kernel_rfl) (by kernel_rfl) ?_
          refine .off 4 (t := 30) rfl rfl rfl rfl (by kernel_rfl) (by kernel_rfl) (by kernel_rfl) ?_
          refine .off 5 (t := 30) rfl rfl rfl rfl (by kernel_rfl) (by kernel_rfl) (by kernel_rfl) ?_
          refine .off 6 (t := 30) rfl rfl rfl rfl (by kernel_rfl) (by kernel_rfl) (by kernel_rfl) ?_
          refine .off 7 (t := 30) rfl rfl rfl rfl (by kernel_rfl) (by kernel_rfl) (by kernel_rfl) ?_
          refine .off 8 (t := 30) rfl rfl rfl rfl (by kernel_rfl) (by kernel_rfl) (by kernel_rfl) ?_
          refine .off 9 (t := 30) rfl rfl rfl rfl (by kernel_rfl) (by kernel_rfl) (by kernel_rfl) ?_
          refine .off 10 (t := 30) rfl rfl rfl rfl (by kernel_rfl) (by kernel_rfl) (by kernel_rfl) ?_
          refine .off 11 (t := 30) rfl rfl rfl rfl (by kernel_rfl) (by kernel_rfl) (by kernel_rfl) ?_
          refine .off 12 (t := 30) rfl rfl rfl rfl (by kernel_rfl) (by kernel_rfl) (by kernel_rfl) ?_
          refine .off 13 (t := 30) rfl rfl rfl rfl (by kernel_rfl) (by kernel_rfl) (by kernel_rfl) ?_
          refine .rp 14 rfl (by kernel_rfl) (by kernel_rfl) (by kernel_rfl) (Reads.pure (.pickT rfl rfl)) ?_
          refine .rp 15 rfl (by kernel_rfl) (by kernel_rfl) (by kernel_rfl) (Reads.pure (.move rfl)) ?_
          refine .off 16 (t := 43) rfl rfl rfl rfl (by kernel_rfl) (by kernel_rfl) (by kernel_rfl) ?_
          refine .off 17 (t := 43) rfl rfl rfl rfl (by kernel_rfl) (by kernel_rfl) (by kernel_rfl) ?_
          refine .off 18 (t := 43) rfl rfl rfl rfl (by kernel_rfl) (by kernel_rfl) (by kernel_rfl) ?_
          refine .off 19 (t := 43) rfl rfl rfl rfl (by kernel_rfl) (by kernel_rfl) (by kernel_rfl) ?_
          refine .off 20 (t := 43) rfl rfl rfl rfl (by kernel_rfl) (by kernel_rfl) (by kernel_rfl) ?_
          refine .off 21 (t := 43) rfl rfl rfl rfl (by kernel_rfl) (by kernel_rfl) (by kernel_rfl) ?_
          refine .off 22 (t := 43) rfl rfl rfl rfl (by kernel_rfl) (by kernel_rfl) (by kernel_rfl) ?_
          refine .off 23 (t := 43) rfl rfl rfl rfl (by kernel_rfl) (by kernel_rfl) (by kernel_rfl) ?_
          refine .off 24 (t := 43) rfl rfl rfl rfl (by kernel_rfl) (by kernel_rfl) (by kernel_rfl) ?_
          refine .off 25 (t := 43) rfl rfl rfl rfl (by kernel_rfl) (by kernel_rfl) (by kernel_rfl) ?_
          refine .off 26 (t := 43) rfl rfl rfl rfl (by kernel_rfl) (by kernel_rfl) (by kernel_rfl) ?_
          refine .rp 27 rfl (by kernel_rfl) (by kernel_rfl) (by kernel_rfl) (Reads.pure (.pickT rfl rfl)) ?_
          refine .done (by kernel_rfl) ⟨rfl, ?_, by repeat (first | exact Le.refl _ | refine Le.skip rfl ?_)⟩
          exact congrArg (fun x => some (Value.bool x)) (Eq.symm (show skipT x y = _ by unfold skipT; (rw [g9_2]) <;> rfl))
        · refine .rpG 3 (t := 30) rfl rfl rfl (by kernel_rfl) (by kernel_rfl) (by kernel_rfl) (Reads.pure (.move rfl)) ?_
          refine .rpG 4 (t := 30) rfl rfl rfl (by kernel_rfl) (by kernel_rfl) (by kernel_rfl) (Reads.pure (.move rfl)) ?_
          refine .rpG 5 (t := 30) rfl rfl rfl (by kernel_rfl) (by kernel_rfl) (by kernel_rfl) (Reads.pure (.indexAddr Try.underlying22 ts36 rfl rfl (by omega) (by omega))) ?_
          refine .rpG 6 (t := 30) rfl rfl rfl (by kernel_rfl) (by kernel_rfl) (by kernel_rfl) (Reads.pure (.fieldAddr fd36_3 rfl)) ?_
          refine .rdG 7 (t := 30) rfl rfl rfl rfl (by kernel_rfl) (by kernel_rfl) (by kernel_rfl) (.load na3 rfl (Knows.one (i := 3) (Knows.elem (f := Sn.cells) Sn.cells_len (by decide) (Knows.pick .head k) hy') rfl)) (.cons (.tail .head) .nil) ?_
          refine .rpG 8 (t := 30) rfl rfl rfl (by kernel_rfl) (by kernel_rfl) (by kernel_rfl) (Reads.pure (.move rfl)) ?_
          refine .rpG 9 (t := 30) rfl rfl rfl (by kernel_rfl) (by kernel_rfl) (by kernel_rfl) (Reads.pure (.move rfl)) ?_
          refine .rpG 10 (t := 30) rfl rfl rfl (by kernel_rfl) (by kernel_rfl) (by kernel_rfl) (Reads.pure (.indexAddr Try.underlying22 ts36 rfl rfl (by omega) (by omega))) ?_
          refine .rpG 11 (t := 30) rfl rfl rfl (by kernel_rfl) (by kernel_rfl) (by kernel_rfl) (Reads.pure (.fieldAddr fd36_3 rfl)) ?_
          refine .rdG 12 (t := 30) rfl rfl rfl rfl (by kernel_rfl) (by kernel_rfl) (by kernel_rfl) (.load na3 rfl (Knows.one (i := 3) (Knows.elem (f := Sn.cells) Sn.cells_len (by decide) (Knows.pick .head k) hx) rfl)) (.cons (.tail .head) .nil) ?_
          refine .rpG 13 (t := 30) rfl rfl rfl (by kernel_rfl) (by kernel_rfl) (by kernel_rfl) (Reads.pure (.neI rfl rfl)) ?_
          refine .rp 14 rfl (by kernel_rfl) (by kernel_rfl) (by kernel_rfl) (Reads.pure (.pickF rfl rfl)) ?_
          refine .rp 15 rfl (by kernel_rfl) (by kernel_rfl) (by kernel_rfl) (Reads.pure (.move rfl)) ?_
          refine .split (t := 43) rfl (fun g9_15 => ?_) (fun g9_15 => ?_)
          · simp at g9_15
            refine .off 16 (t := 43) rfl rfl rfl rfl (by kernel_rfl) (by kernel_rfl) (by kernel_rfl) ?_
            refine .off 17 (t := 43) rfl rfl rfl rfl (by kernel_rfl) (by kernel_rfl) (by kernel_rfl) ?_
            refine .off 18 (t := 43) rfl rfl rfl rfl (by kernel_rfl) (by kernel_rfl) (by kernel_rfl) ?_
            refine .off 19 (t := 43) rfl rfl rfl rfl (by kernel_rfl) (by kernel_rfl) (by kernel_rfl) ?_
            refine .off 20 (t := 43) rfl rfl rfl rfl (by kernel_rfl) (by kernel_rfl) (by kernel_rfl) ?_
            refine .off 21 (t := 43) rfl rfl rfl rfl (by kernel_rfl) (by kernel_rfl) (by kernel_rfl) ?_
            refine .off 22 (t := 43) rfl rfl rfl rfl (by kernel_rfl) (by kernel_rfl) (by kernel_rfl) ?_
            refine .off 23 (t := 43) rfl rfl rfl rfl (by kernel_rfl) (by kernel_rfl) (by kernel_rfl) ?_
            refine .off 24 (t := 43) rfl rfl rfl rfl (by kernel_rfl) (by kernel_rfl) (by kernel_rfl) ?_
            refine .off 25 (t := 43) rfl rfl rfl rfl (by kernel_rfl) (by kernel_rfl) (by kernel_rfl) ?_
            refine .off 26 (t := 43) rfl rfl rfl rfl (by kernel_rfl) (by kernel_rfl) (by kernel_rfl) ?_
            refine .rp 27 rfl (by kernel_rfl) (by kernel_rfl) (by kernel_rfl) (Reads.pure (.pickT rfl rfl)) ?_
            refine .done (by kernel_rfl) ⟨rfl, ?_, by repeat (first | exact Le.refl _ | refine Le.skip rfl ?_)⟩
            exact congrArg (fun x => some (Value.bool x)) (Eq.symm (show skipT x y = _ by unfold skipT; (rw [g9_2, decide_eq_false g9_15]) <;> rfl))
          · simp at g9_15
            refine .rpG 16 (t := 43) rfl rfl rfl (by kernel_rfl) (by kernel_rfl) (by kernel_rfl) (Reads.pure (.move rfl)) ?_
            refine .rpG 17 (t := 43) rfl rfl rfl (by kernel_rfl) (by kernel_rfl) (by kernel_rfl) (Reads.pure (.move rfl)) ?_
            refine .rpG 18 (t := 43) rfl rfl rfl (by kernel_rfl) (by kernel_rfl) (by kernel_rfl) (Reads.pure (.indexAddr Try.underlying22 ts36 rfl rfl (by omega) (by omega))) ?_
            refine .rpG 19 (t := 43) rfl rfl rfl (by kernel_rfl) (by kernel_rfl) (by kernel_rfl) (Reads.pure (.fieldAddr fd36_9 rfl)) ?_
            refine .rdG 20 (t := 43) rfl rfl rfl rfl (by kernel_rfl) (by kernel_rfl) (by kernel_rfl) (.load na9 rfl (Knows.one (i := 9) (Knows.elem (f := Sn.cells) Sn.cells_len (by decide) (Knows.pick .head k) hy') rfl)) (.cons (.tail .head) .nil) ?_
            refine .rpG 21 (t := 43) rfl rfl rfl (by kernel_rfl) (by kernel_rfl) (by kernel_rfl) (Reads.pure (.move rfl)) ?_
            refine .rpG 22 (t := 43) rfl rfl rfl (by kernel_rfl) (by kernel_rfl) (by kernel_rfl) (Reads.pure (.move rfl)) ?_
            refine .rpG 23 (t := 43) rfl rfl rfl (by kernel_rfl) (by kernel_rfl) (by kernel_rfl) (Reads.pure (.indexAddr Try.underlying22 ts36 rfl rfl (by omega) (by omega))) ?_
            refine .rpG 24 (t := 43) rfl rfl rfl (by kernel_rfl) (by kernel_rfl) (by kernel_rfl) (Reads.pure (.fieldAddr fd36_9 rfl)) ?_
            refine .rdG 25 (t := 43) rfl rfl rfl rfl (by kernel_rfl) (by kernel_rfl) (by kernel_rfl) (.load na9 rfl (Knows.one (i := 9) (Knows.elem (f := Sn.cells) Sn.cells_len (by decide) (Knows.pick .head k) hx) rfl)) (.cons (.tail .head) .nil) ?_
            refine .rpG 26 (t := 43) rfl rfl rfl (by kernel_rfl) (by kernel_rfl) (by kernel_rfl) (Reads.pure (.neT rfl rfl)) ?_
            refine .rp 27 rfl (by kernel_rfl) (by kernel_rfl) (by kernel_rfl) (Reads.pure (.pickF rfl rfl)) ?_
            refine .done (by kernel_rfl) ⟨rfl, ?_, by repeat (first | exact Le.refl _ | refine Le.skip rfl ?_)⟩
            exact congrArg (fun x => some (Value.bool x)) (Eq.symm (show skipT x y = _ by unfold skipT; (rw [g9_2, decide_eq_true g9_15]) <;> rfl))
      refine .cond rfl (fun hS => ?_) (fun hS => ?_)
      · refine .exit rfl ?_
        refine .region ?_   -- R7 ref.go:93
        refine .rd (.move rfl) ?_
        refine .rd (.add rfl rfl (by omega) (by omega)) ?_
        refine .rd (.assign rfl) ?_
        refine .nil ?_
        exact (ih (k' + 1, a', c', L) ⟨by show k' + 1 ≤ i + 1; omega, by rw [offs_next hy', ← hI.2.1]; unfold offsS; rw [hS]; rfl, by show L.length ≤ k' + 1; have := hLl; omega⟩ (by show i + 1 - (k' + 1) < i + 1 - k'; omega)).to (.cons rfl (.cons rfl (.cons rfl (.cons rfl .nil)))) (.cons .head (.cons .head .nil))
      · refine .skip ?_
        refine .seq ?_
        have hIo := hI
        have iho := ih
        refine .region ?_   -- R10 ref.go:98
        refine .rd (.assign rfl) ?_
        refine .nil ?_
        refine .seq ?_
        refine .seq ?_
        refine .region ?_   -- R11 ref.go:99
        refine .rd (.assign rfl) ?_
        refine .nil ?_
        refine .block ?_
        refine .loop (σ := Nat) (fun j => j ≤ L.length) (fun j => L.length - j) (fun j => [(0, .slice (some ⟨bb, oo, none⟩) n c), (1, .int .i64 (i : Int)), (6, .slice a' L.length c'), (7, .int .i64 (k' : Nat)), (9, .bool (decide (y.offset ∈ L.take j))), (10, .int .i64 (j : Nat))]) (fun j => [arr 3 1 a' c' (L.flatMap icell), R]) 0 (Nat.zero_le _) (.cons rfl (.cons rfl (.cons rfl (.cons rfl (.cons rfl (.cons rfl .nil)))))) (.cons .head (.cons .head .nil)) (fun j hI ih => ?_)
        refine .seq ?_
        refine .seq ?_
        refine .region ?_   -- R12 ref.go:99
        refine .rd (.move rfl) ?_
        refine .rd (.move rfl) ?_
        refine .rd (.lenL rfl rfl Try.underlying40 rfl) ?_
        refine .rd (.lt rfl rfl) ?_
        refine .nil ?_
        refine .condP rfl (fun h12 => ?_) (fun h12 => ?_)
        · refine .skip ?_
          refine .seq ?_
          refine .block ?_
          obtain ⟨w, hw⟩ : ∃ w, L[j]? = some w := ⟨_, List.getElem?_eq_getElem (by omega)⟩
          refine .tell (φ := ∃ b o, a' = some ⟨b, o, none⟩) ((Knows.arr .head).mono fun _ h => RowAt.addr h (by rw [flat_length icell_len]; omega)) (fun hh => ?_)
          obtain ⟨b1, o1, rfl⟩ := hh
          have hnx := mem_next (o := y.offset) hw
          refine .drawsJoinW [5, 10] [arr 3 1 (some ⟨b1, o1, none⟩) c' (L.flatMap icell), R] 9 (decide (y.offset ∈ L.take (j + 1))) [(0, .slice (some ⟨bb, oo, none⟩) n c), (1, .int .i64 (i : Int)), (6, .slice (some ⟨b1, o1, none⟩) L.length c'), (7, .int .i64 (k' : Nat)), (10, .int .i64 (j : Nat))] (by kernel_rfl) ?_ ?_   -- R14 ref.go:100
          · refine .rp 0 rfl (by kernel_rfl) (by kernel_rfl) (by kernel_rfl) (Reads.pure (.move rfl)) ?_
            refine .rp 1 rfl (by kernel_rfl) (by kernel_rfl) (by kernel_rfl) (Reads.pure (.move rfl)) ?_
            refine .split (t := 63) rfl (fun g14_1 => ?_) (fun g14_1 => ?_)
            · refine .off 2 (t := 63) rfl rfl rfl rfl (by kernel_rfl) (by kernel_rfl) (by kernel_rfl) ?_
              refine .off 3 (t := 63) rfl rfl rfl rfl (by kernel_rfl) (by kernel_rfl) (by kernel_rfl) ?_
              refine .off 4 (t := 63) rfl rfl rfl rfl (by kernel_rfl) (by kernel_rfl) (by kernel_rfl) ?_
              refine .off 5 (t := 63) rfl rfl rfl rfl (by kernel_rfl) (by kernel_rfl) (by kernel_rfl) ?_
              refine .off 6 (t := 63) rfl rfl rfl rfl (by kernel_rfl) (by kernel_rfl) (by kernel_rfl) ?_
              refine .off 7 (t := 63) rfl rfl rfl rfl (by kernel_rfl) (by kernel_rfl) (by kernel_rfl) ?_
              refine .off 8 (t := 63) rfl rfl rfl rfl (by kernel_rfl) (by kernel_rfl) (by kernel_rfl) ?_
              refine .off 9 (t := 63) rfl rfl rfl rfl (by kernel_rfl) (by kernel_rfl) (by kernel_rfl) ?_
              refine .off 10 (t := 63) rfl rfl rfl rfl (by kernel_rfl) (by kernel_rfl) (by kernel_rfl) ?_
              refine .off 11 (t := 63) rfl rfl rfl rfl (by kernel_rfl) (by kernel_rfl) (by kernel_rfl) ?_
              refine .rp 12 rfl (by kernel_rfl) (by kernel_rfl) (by kernel_rfl) (Reads.pure (.pickT rfl rfl)) ?_
              refine .rp 13 rfl (by kernel_rfl) (by kernel_rfl) (by kernel_rfl) (Reads.pure (.assign rfl)) ?_
              refine .done (by kernel_rfl) ⟨rfl, ?_, .cons rfl (.cons rfl (.cons rfl (.cons rfl (.cons rfl (.nil)))))⟩
              exact congrArg (fun x => some (Value.bool x)) (Eq.symm (show decide (y.offset ∈ L.take (j + 1)) = _ by rw [hnx, g14_1]; rfl))
            · refine .rpG 2 (t := 63) rfl rfl rfl (by kernel_rfl) (by kernel_rfl) (by kernel_rfl) (Reads.pure (.move rfl)) ?_
              refine .rpG 3 (t := 63) rfl rfl rfl (by kernel_rfl) (by kernel_rfl) (by kernel_rfl) (Reads.pure (.move rfl)) ?_
              refine .rpG 4 (t := 63) rfl rfl rfl (by kernel_rfl) (by kernel_rfl) (by kernel_rfl) (Reads.pure (.indexAddr Try.underlying40 ts3 rfl rfl (by omega) (by omega))) ?_
              refine .rdG 5 (t := 63) rfl rfl rfl rfl (by kernel_rfl) (by kernel_rfl) (by kernel_rfl) (.load na3 rfl (Knows.one (i := 0) (Knows.elem (f := icell) icell_len (by decide) (Knows.arr .head) hw) rfl)) (.cons .head (.cons .head .nil)) ?_
              refine .rpG 6 (t := 63) rfl rfl rfl (by kernel_rfl) (by kernel_rfl) (by kernel_rfl) (Reads.pure (.move rfl)) ?_
              refine .rpG 7 (t := 63) rfl rfl rfl (by kernel_rfl) (by kernel_rfl) (by kernel_rfl) (Reads.pure (.move rfl)) ?_
              refine .rpG 8 (t := 63) rfl rfl rfl (by kernel_rfl) (by kernel_rfl) (by kernel_rfl) (Reads.pure (.indexAddr Try.underlying22 ts36 rfl rfl (by omega) (by omega))) ?_
              refine .rpG 9 (t := 63) rfl rfl rfl (by kernel_rfl) (by kernel_rfl) (by kernel_rfl) (Reads.pure (.fieldAddr fd36_4 rfl)) ?_
              refine .rdG 10 (t := 63) rfl rfl rfl rfl (by kernel_rfl) (by kernel_rfl) (by kernel_rfl) (.load na3 rfl (Knows.one (i := 4) (Knows.elem (f := Sn.cells) Sn.cells_len (by decide) (Knows.pick (.tail .head) k) hy') rfl)) (.cons .head (.cons .head .nil)) ?_
              refine .rpG 11 (t := 63) rfl rfl rfl (by kernel_rfl) (by kernel_rfl) (by kernel_rfl) (Reads.pure (.eqI rfl rfl)) ?_
              refine .rp 12 rfl (by kernel_rfl) (by kernel_rfl) (by kernel_rfl) (Reads.pure (.pickF rfl rfl)) ?_
              refine .rp 13 rfl (by kernel_rfl) (by kernel_rfl) (by kernel_rfl) (Reads.pure (.assign rfl)) ?_
              refine .done (by kernel_rfl) ⟨rfl, ?_, .cons rfl (.cons rfl (.cons rfl (.cons rfl (.cons rfl (.nil)))))⟩
              exact congrArg (fun x => some (Value.bool x)) (Eq.symm (show decide (y.offset ∈ L.take (j + 1)) = _ by rw [hnx, g14_1]; rfl))
          refine .inBlock ?_
          refine .region ?_   -- R13 ref.go:99
          refine .rd (.move rfl) ?_
          refine .rd (.add rfl rfl (by omega) (by omega)) ?_
          refine .rd (.assign rfl) ?_
          refine .nil ?_
          exact (ih (j + 1) (by omega) (by omega)).to (.cons rfl (.cons rfl (.cons rfl (.cons rfl (.cons rfl (.cons rfl .nil)))))) (.cons .head (.cons .head .nil))
        · rw [show L.take j = L from List.take_of_length_le (by omega)]
          refine .exit rfl ?_
          refine .seq ?_
          refine .region ?_   -- R15 ref.go:102
          refine .rd (.move rfl) ?_
          refine .rd (.not rfl) ?_
          refine .nil ?_
          refine .cond rfl (fun hH => ?_) (fun hH => ?_)
          · refine .region ?_   -- R16 ref.go:103
            refine .rd (.move rfl) ?_
            refine .rd (.move rfl) ?_
            refine .rd (.move rfl) ?_
            refine .rd (.indexAddr Try.underlying22 ts36 rfl rfl (by omega) (by omega)) ?_
            refine .rd (.fieldAddr fd36_4 rfl) ?_
            refine .rd (.load na3 rfl (Knows.one (i := 4) (Knows.elem (f := Sn.cells) Sn.cells_len (by decide) (Knows.pick (.tail .head) k) hy') rfl)) ?_
            refine .ef (.buildOne (cs := icell y.offset) Try.underlying40 ti3 (by decide) rfl rfl rfl (ones.of rfl)) ?_
            rintro _ _ ⟨bs1, rfl, rfl⟩
            refine .ef (.append rfl rfl Try.underlying40 ti3 rfl (ones.of rfl) (by decide) (by decide) rfl rfl (.tail .head) (n := L.length) (m := 1) (by rw [flat_length icell_len]) (.srcBlk (ys := icell y.offset) .head Try.underlying40 rfl (by decide)) (by omega)) ?_
            rintro _ _ ⟨ra, rc, rfl, rn, rfl⟩
            refine .alter (t := 84) (v' := .slice ra (L ++ [y.offset]).length rc) rfl (by rw [List.length_append]; rfl) ?_
            refine .rd (.assign rfl) ?_
            refine .nil ?_
            refine .cast (X' := arr 3 1 ra rc ((L ++ [y.offset]).flatMap icell)) (by rw [List.flatMap_append]; simp) ?_
            refine .inBlock ?_
            refine .region ?_   -- R7 ref.go:93
            refine .rd (.move rfl) ?_
            refine .rd (.add rfl rfl (by omega) (by omega)) ?_
            refine .rd (.assign rfl) ?_
            refine .nil ?_
            exact (iho (k' + 1, ra, rc, L ++ [y.offset]) ⟨by show k' + 1 ≤ i + 1; omega, by rw [offs_next hy', ← hIo.2.1]; unfold offsS; rw [hS, if_neg (by decide), if_neg (by simpa using hH)], by show (L ++ [y.offset]).length ≤ k' + 1; rw [List.length_append]; exact Nat.succ_le_succ hLl⟩ (by show i + 1 - (k' + 1) < i + 1 - k'; omega)).to (.cons rfl (.cons rfl (.cons rfl (.cons rfl .nil)))) (.cons .head (.cons (.tail .head) .nil))
          · refine .skip ?_
            refine .inBlock ?_
            refine .region ?_   -- R7 ref.go:93
            refine .rd (.move rfl) ?_
            refine .rd (.add rfl rfl (by omega) (by omega)) ?_
            refine .rd (.assign rfl) ?_
            refine .nil ?_
            exact (iho (k' + 1, a', c', L) ⟨by show k' + 1 ≤ i + 1; omega, by rw [offs_next hy', ← hIo.2.1]; unfold offsS; rw [hS, if_neg (by decide), if_pos (by simpa using hH)], by show L.length ≤ k' + 1; have := hLl; omega⟩ (by show i + 1 - (k' + 1) < i + 1 - k'; omega)).to (.cons rfl (.cons rfl (.cons rfl (.cons rfl .nil)))) (.cons .head (.cons .head .nil))
    · refine .exit rfl ?_
      refine .seq ?_
      refine .region ?_   -- R17 ref.go:106
      refine .rd (.move rfl) ?_
      refine .rd (.lenL rfl rfl Try.underlying40 rfl) ?_
      refine .rd (.move rfl) ?_
      refine .rd (.move rfl) ?_
      refine .fn rfl rfl .nil (Knows.pick (.tail .head) k) (sent_ok _ n c h x i hi hn hb) (fun v G1 hq => ?_)
      obtain ⟨rfl, rfl⟩ := hq
      simp only [List.nil_append]
      refine .rd (.gt rfl rfl) ?_
      refine .rd (.assign rfl) ?_
      refine .nil ?_
      obtain rfl : k' = i + 1 := by omega
      have hL := hI.2.1
      rw [List.take_of_length_le (by rw [List.length_append, hi]; exact Nat.le_refl _)] at hL
      have hv : twiceB h x = decide (sentI h x < (L.length : Int)) := by unfold twiceB; rw [(by simpa using h2 : toldB x = true), hL]; rfl
      rw [hv]
      refine .retP Try.func24 (.cons (.tmp rfl) .nil) (.cons (.tail .head) .nil) ?_
      exact ⟨[], ⟨rfl, rfl⟩, rfl⟩

set_option maxRecDepth 20000 in
theorem ret_ok (a : Option Addr) (n c : Nat) (h : List Sn) (i k : Nat) (z : Sn) (hi : h.length = i) (hz : h[k]? = some z) (hn : i ≤ n) (hb : n ≤ 1000000) : Cn Try.prog 43 [.slice a n c, .int .i64 (k : Int), .int .i64 (i : Int)] (RowAt a (h.flatMap Sn.cells)) [] fun v G => v = .int .i64 (retR h k z) ∧ G = [] := by
  refine .enter Try.func43 rfl (by kernel_rfl) rfl fun R k_ => ?_
  have kR := k_
  have hki := (List.getElem?_eq_some_iff.1 hz).1
  refine .tell (φ := ∃ b o, a = some ⟨b, o, none⟩) (Knows.pick .head (kR.mono fun _ h => RowAt.addr h (by rw [flat_length Sn.cells_len]; omega))) (fun hh => ?_)
  obtain ⟨bb, oo, rfl⟩ := hh
  refine .seq ?_
  refine .region ?_   -- R0 ref.go:162
  refine .rd (.assign rfl) ?_
  refine .nil ?_
  refine .seq ?_
  refine .seq ?_
  refine .region ?_   -- R1 ref.go:163
  refine .rd (.move rfl) ?_
  refine .rd (.add rfl rfl (by omega) (by omega)) ?_
  refine .alter (t := 9) (v' := .int .i64 ((k + 1 + 0 : Nat) : Int)) rfl (rfl) ?_
  refine .rd (.assign rfl) ?_
  refine .nil ?_
  refine .block ?_
  refine .loop (σ := Nat) (fun j => k + 1 + j ≤ i ∧ ∀ m < j, ∀ y, h[k + 1 + m]? = some y → isRet z y = false) (fun j => i - (k + 1 + j)) (fun j => [(0, .slice (some ⟨bb, oo, none⟩) n c), (1, .int .i64 (k : Int)), (2, .int .i64 (i : Int)), (7, .int .i64 ((k + 1 + j : Nat) : Int))]) (fun j => [R]) 0 ⟨by omega, fun m hm => by omega⟩ (.cons rfl (.cons rfl (.cons rfl (.cons rfl .nil)))) (.cons .head .nil) (fun j hI ih => ?_)
  have hji := hI.1
  refine .seq ?_
  refine .seq ?_
  refine .region ?_   -- R2 ref.go:163
  refine .rd (.move rfl) ?_
  refine .rd (.move rfl) ?_
  refine .rd (.lt rfl rfl) ?_
  refine .nil ?_
  refine .condP rfl (fun c2 => ?_) (fun c2 => ?_)
  · refine .skip ?_
    refine .seq ?_
    refine .block ?_
    refine .seq ?_
    obtain ⟨y, hy⟩ : ∃ y, h[k + 1 + j]? = some y := ⟨_, List.getElem?_eq_getElem (by omega)⟩
    refine .drawsJoin [4, 10, 15, 23, 28] [R] 45 (isRet z y) (by kernel_rfl) ?_ ?_   -- R4 ref.go:164
    · refine .rp 0 rfl (by kernel_rfl) (by kernel_rfl) (by kernel_rfl) (Reads.pure (.move rfl)) ?_
      refine .rp 1 rfl (by kernel_rfl) (by kernel_rfl) (by kernel_rfl) (Reads.pure (.move rfl)) ?_
      refine .rp 2 rfl (by kernel_rfl) (by kernel_rfl) (by kernel_rfl) (Reads.pure (.indexAddr Try.underlying22 ts36 rfl rfl (by omega) (by omega))) ?_
      refine .rp 3 rfl (by kernel_rfl) (by kernel_rfl) (by kernel_rfl) (Reads.pure (.fieldAddr fd36_11 rfl)) ?_
      refine .rd 4 rfl rfl (by kernel_rfl) (by kernel_rfl) (by kernel_rfl) (.load na4 rfl (Knows.one (i := 11) (Knows.elem (f := Sn.cells) Sn.cells_len (by decide) (Knows.pick .head k_) hy) rfl)) (.cons .head .nil) ?_
      refine .rp 5 rfl (by kernel_rfl) (by kernel_rfl) (by kernel_rfl) (Reads.pure (.move rfl)) ?_
      refine .split (t := 20) rfl (fun g4_5 => ?_) (fun g4_5 => ?_)
      · refine .rpG 6 (t := 20) rfl rfl rfl (by kernel_rfl) (by kernel_rfl) (by kernel_rfl) (Reads.pure (.move rfl)) ?_
        refine .rpG 7 (t := 20) rfl rfl rfl (by kernel_rfl) (by kernel_rfl) (by kernel_rfl) (Reads.pure (.move rfl)) ?_
        refine .rpG 8 (t := 20) rfl rfl rfl (by kernel_rfl) (by kernel_rfl) (by kernel_rfl) (Reads.pure (.indexAddr Try.underlying22 ts36 rfl rfl (by omega) (by omega))) ?_
        refine .rpG 9 (t := 20) rfl rfl rfl (by kernel_rfl) (by kernel_rfl) (by kernel_rfl) (Reads.pure (.fieldAddr fd36_0 rfl)) ?_
        refine .rdG 10 (t := 20) rfl rfl rfl rfl (by kernel_rfl) (by kernel_rfl) (by kernel_rfl) (.load na3 rfl (Knows.one (i := 0) (Knows.elem (f := Sn.cells) Sn.cells_len (by decide) (Knows.pick .head k_) hy) rfl)) (.cons .head .nil) ?_
        refine .rpG 11 (t := 20) rfl rfl rfl (by kernel_rfl) (by kernel_rfl) (by kernel_rfl) (Reads.pure (.move rfl)) ?_
        refine .rpG 12 (t := 20) rfl rfl rfl (by kernel_rfl) (by kernel_rfl) (by kernel_rfl) (Reads.pure (.move rfl)) ?_
        refine .rpG 13 (t := 20) rfl rfl rfl (by kernel_rfl) (by kernel_rfl) (by kernel_rfl) (Reads.pure (.indexAddr Try.underlying22 ts36 rfl rfl (by omega) (by omega))) ?_
        refine .rpG 14 (t := 20) rfl rfl rfl (by kernel_rfl) (by kernel_rfl) (by kernel_rfl) (Reads.pure (.fieldAddr fd36_0 rfl)) ?_
        refine .rdG 15 (t := 20) rfl rfl rfl rfl (by kernel_rfl) (by kernel_rfl) (by kernel_rfl) (.load na3 rfl (Knows.one (i := 0) (Knows.elem (f := Sn.cells) Sn.cells_len (by decide) (Knows.pick .head k_) hz) rfl)) (.cons .head .nil) ?_
        refine .rpG 16 (t := 20) rfl rfl rfl (by kernel_rfl) (by kernel_rfl) (by kernel_rfl) (Reads.pure (.eqI rfl rfl)) ?_
        refine .rp 17 rfl (by kernel_rfl) (by kernel_rfl) (by kernel_rfl) (Reads.pure (.pickT rfl rfl)) ?_
        refine .rp 18 rfl (by kernel_rfl) (by kernel_rfl) (by kernel_rfl) (Reads.pure (.move rfl)) ?_
        refine .split (t := 33) rfl (fun g4_18 => ?_) (fun g4_18 => ?_)
        · replace g4_18 := of_decide_eq_true g4_18
          refine .rpG 19 (t := 33) rfl rfl rfl (by kernel_rfl) (by kernel_rfl) (by kernel_rfl) (Reads.pure (.move rfl)) ?_
          refine .rpG 20 (t := 33) rfl rfl rfl (by kernel_rfl) (by kernel_rfl) (by kernel_rfl) (Reads.pure (.move rfl)) ?_
          refine .rpG 21 (t := 33) rfl rfl rfl (by kernel_rfl) (by kernel_rfl) (by kernel_rfl) (Reads.pure (.indexAddr Try.underlying22 ts36 rfl rfl (by omega) (by omega))) ?_
          refine .rpG 22 (t := 33) rfl rfl rfl (by kernel_rfl) (by kernel_rfl) (by kernel_rfl) (Reads.pure (.fieldAddr fd36_1 rfl)) ?_
          refine .rdG 23 (t := 33) rfl rfl rfl rfl (by kernel_rfl) (by kernel_rfl) (by kernel_rfl) (.load na3 rfl (Knows.one (i := 1) (Knows.elem (f := Sn.cells) Sn.cells_len (by decide) (Knows.pick .head k_) hy) rfl)) (.cons .head .nil) ?_
          refine .rpG 24 (t := 33) rfl rfl rfl (by kernel_rfl) (by kernel_rfl) (by kernel_rfl) (Reads.pure (.move rfl)) ?_
          refine .rpG 25 (t := 33) rfl rfl rfl (by kernel_rfl) (by kernel_rfl) (by kernel_rfl) (Reads.pure (.move rfl)) ?_
          refine .rpG 26 (t := 33) rfl rfl rfl (by kernel_rfl) (by kernel_rfl) (by kernel_rfl) (Reads.pure (.indexAddr Try.underlying22 ts36 rfl rfl (by omega) (by omega))) ?_
          refine .rpG 27 (t := 33) rfl rfl rfl (by kernel_rfl) (by kernel_rfl) (by kernel_rfl) (Reads.pure (.fieldAddr fd36_1 rfl)) ?_
          refine .rdG 28 (t := 33) rfl rfl rfl rfl (by kernel_rfl) (by kernel_rfl) (by kernel_rfl) (.load na3 rfl (Knows.one (i := 1) (Knows.elem (f := Sn.cells) Sn.cells_len (by decide) (Knows.pick .head k_) hz) rfl)) (.cons .head .nil) ?_
          refine .rpG 29 (t := 33) rfl rfl rfl (by kernel_rfl) (by kernel_rfl) (by kernel_rfl) (Reads.pure (.eqI rfl rfl)) ?_
          refine .rp 30 rfl (by kernel_rfl) (by kernel_rfl) (by kernel_rfl) (Reads.pure (.pickT rfl rfl)) ?_
          refine .done (by kernel_rfl) ⟨rfl, ?_, by repeat (first | exact Le.refl _ | refine Le.skip rfl ?_)⟩
          exact congrArg (fun x => some (Value.bool x)) (Eq.symm (show isRet z y = _ by unfold isRet; (rw [g4_5, decide_eq_true g4_18]) <;> rfl))
        · replace g4_18 := of_decide_eq_false g4_18
          refine .off 19 (t := 33) rfl rfl rfl rfl (by kernel_rfl) (by kernel_rfl) (by kernel_rfl) ?_
          refine .off 20 (t := 33) rfl rfl rfl rfl (by kernel_rfl) (by kernel_rfl) (by kernel_rfl) ?_
          refine .off 21 (t := 33) rfl rfl rfl rfl (by kernel_rfl) (by kernel_rfl) (by kernel_rfl) ?_
          refine .off 22 (t := 33) rfl rfl rfl rfl (by kernel_rfl) (by kernel_rfl) (by kernel_rfl) ?_
          refine .off 23 (t := 33) rfl rfl rfl rfl (by kernel_rfl) (by kernel_rfl) (by kernel_rfl) ?_
          refine .off 24 (t := 33) rfl rfl rfl rfl (by kernel_rfl) (by kernel_rfl) (by kernel_rfl) ?_
          refine .off 25 (t := 33) rfl rfl rfl rfl (by kernel_rfl) (by kernel_rfl) (by kernel_rfl) ?_
          refine .off 26 (t := 33) rfl rfl rfl rfl (by kernel_rfl) (by kernel_rfl) (by kernel_rfl) ?_
          refine .off 27 (t := 33) rfl rfl rfl rfl (by kernel_rfl) (by kernel_rfl) (by kernel_rfl) ?_
          refine .off 28 (t := 33) rfl rfl rfl rfl (by kernel_rfl) (by kernel_rfl) (by kernel_rfl) ?_
          refine .off 29 (t := 33) rfl rfl rfl rfl (by kernel_rfl) (by kernel_rfl) (by kernel_rfl) ?_
          refine .rp 30 rfl (by kernel_rfl) (by kernel_rfl) (by kernel_rfl) (Reads.pure (.pickF rfl rfl)) ?_
          refine .done (by kernel_rfl) ⟨rfl, ?_, by repeat (first | exact Le.refl _ | refine Le.skip rfl ?_)⟩
          exact congrArg (fun x => some (Value.bool x)) (Eq.symm (show isRet z y = _ by unfold isRet; (rw [g4_5, decide_eq_false g4_18]) <;> rfl))
      · refine .off 6 (t := 20) rfl rfl rfl rfl (by kernel_rfl) (by kernel_rfl) (by kernel_rfl) ?_
        refine .off 7 (t := 20) rfl rfl rfl rfl (by kernel_rfl) (by kernel_rfl) (by kernel_rfl) ?_
        refine .off 8 (t := 20) rfl rfl rfl rfl (by kernel_rfl) (by kernel_rfl) (by kernel_rfl) ?_
        refine .off 9 (t := 20) rfl rfl rfl rfl (by kernel_rfl) (by kernel_rfl) (by kernel_rfl) ?_
        refine .off 10 (t := 20) rfl rfl rfl rfl (by kernel_rfl) (by kernel_rfl) (by kernel_rfl) ?_
        refine .off 11 (t := 20) rfl rfl rfl rfl (by kernel_rfl) (by kernel_rfl) (by kernel_rfl) ?_
        refine .off 12 (t := 20) rfl rfl rfl rfl (by kernel_rfl) (by kernel_rfl) (by kernel_rfl) ?_
        refine .off 13 (t := 20) rfl rfl rfl rfl (by kernel_rfl) (by kernel_rfl) (by kernel_rfl) ?_
        refine .off 14 (t := 20) rfl rfl rfl rfl (by kernel_rfl) (by kernel_rfl) (by kernel_rfl) ?_
        refine .off 15 (t := 20) rfl rfl rfl rfl (by kernel_rfl) (by kernel_rfl) (by kernel_rfl) ?_
        refine .off 16 (t := 20) rfl rfl rfl rfl (by kernel_rfl) (by kernel_rfl) (by kernel_rfl) ?_
        refine .rp 17 rfl (by kernel_rfl) (by kernel_rfl) (by kernel_rfl) (Reads.pure (.pickF rfl rfl)) ?_
        refine .rp 18 rfl (by kernel_rfl) (by kernel_rfl) (by kernel_rfl) (Reads.pure (.move rfl)) ?_
        refine .off 19 (t := 33) rfl rfl rfl rfl (by kernel_rfl) (by kernel_rfl) (by kernel_rfl) ?_
        refine .off 20 (t := 33) rfl rfl rfl rfl (by kernel_rfl) (by kernel_rfl) (by kernel_rfl) ?_
        refine .off 21 (t := 33) rfl rfl rfl rfl (by kernel_rfl) (by kernel_rfl) (by kernel_rfl) ?_
        refine .off 22 (t := 33) rfl rfl rfl rfl (by kernel_rfl) (by kernel_rfl) (by kernel_rfl) ?_
        refine .off 23 (t := 33) rfl rfl rfl rfl (by kernel_rfl) (by kernel_rfl) (by kernel_rfl) ?_
        refine .off 24 (t := 33) rfl rfl rfl rfl (by kernel_rfl) (by kernel_rfl) (by kernel_rfl) ?_
        refine .off 25 (t := 33) rfl rfl rfl rfl (by kernel_rfl) (by kernel_rfl) (by kernel_rfl) ?_
        refine .off 26 (t := 33) rfl rfl rfl rfl (by kernel_rfl) (by kernel_rfl) (by kernel_rfl) ?_
        refine .off 27 (t := 33) rfl rfl rfl rfl (by kernel_rfl) (by kernel_rfl) (by kernel_rfl) ?_
        refine .off 28 (t := 33) rfl rfl rfl rfl (by kernel_rfl) (by kernel_rfl) (by kernel_rfl) ?_
        refine .off 29 (t := 33) rfl rfl rfl rfl (by kernel_rfl) (by kernel_rfl) (by kernel_rfl) ?_
        refine .rp 30 rfl (by kernel_rfl) (by kernel_rfl) (by kernel_rfl) (Reads.pure (.pickF rfl rfl)) ?_
        refine .done (by kernel_rfl) ⟨rfl, ?_, by repeat (first | exact Le.refl _ | refine Le.skip rfl ?_)⟩
        exact congrArg (fun x => some (Value.bool x)) (Eq.symm (show isRet z y = _ by unfold isRet; (rw [g4_5]) <;> rfl))
    refine .cond rfl (fun h4 => ?_) (fun h4 => ?_)
    · refine .seq ?_
      refine .region ?_   -- R5 ref.go:165
      refine .rd (.move rfl) ?_
      refine .rd (.assign rfl) ?_
      refine .nil ?_
      have hv : retR h k z = ((k + 1 + j : Nat) : Int) := ret_hit hy h4 hI.2
      rw [hv]
      refine .retP Try.func43 (.cons (.tmp rfl) .nil) (.cons .head .nil) ?_
      exact ⟨[], ⟨rfl, rfl⟩, rfl⟩
    · refine .skip ?_
      refine .inBlock ?_
      refine .region ?_   -- R3 ref.go:163
      refine .rd (.move rfl) ?_
      refine .rd (.add rfl rfl (by omega) (by omega)) ?_
      refine .rd (.assign rfl) ?_
      refine .nil ?_
      exact (ih (j + 1) ⟨by omega, fun m hm y2 h2 => by rcases Nat.lt_succ_iff_lt_or_eq.1 hm with hm | rfl; exact hI.2 m hm y2 h2; rw [hy] at h2; cases h2; simpa using h4⟩ (by omega)).to (.cons rfl (.cons rfl (.cons rfl (.cons rfl .nil)))) (.cons .head .nil)
  · refine .exit rfl ?_
    refine .seq ?_
    refine .region ?_   -- R6 ref.go:168
    refine .rd (.assign rfl) ?_
    refine .nil ?_
    have hv : retR h k z = -1 := ret_miss (j := j) (by omega) hI.2
    rw [hv]
    refine .retP Try.func43 (.cons (.tmp rfl) .nil) (.cons .head .nil) ?_
    exact ⟨[], ⟨rfl, rfl⟩, rfl⟩

set_option maxRecDepth 20000 in
theorem over_of (bb oo n c : Nat) (h : List Sn) (name : Tx) (part r b : Int) (hbl : b ≤ (h.length : Int)) (hn : h.length ≤ n) (hb : n ≤ 1000000) : Cn Try.prog 44 [.slice (some ⟨bb, oo, none⟩) n c, .string (str name), .int .i64 part, .int .i64 r, .int .i64 b] (RowAt (some ⟨bb, oo, none⟩) (h.flatMap Sn.cells)) [] fun v G => v = .bool (overB h name part r b) ∧ G = [] := by
  refine .enter Try.func44 rfl (by kernel_rfl) rfl fun R k => ?_
  refine .seq ?_
  refine .region ?_   -- R0 ref.go:172
  refine .rd (.assign rfl) ?_
  refine .nil ?_
  refine .seq ?_
  refine .seq ?_
  refine .region ?_   -- R1 ref.go:173
  refine .rd (.assign rfl) ?_
  refine .nil ?_
  refine .block ?_
  refine .loop (σ := Nat) (fun k' => k' ≤ b.toNat ∧ ∀ k < k', ∀ y, h[k]? = some y → overP h name part r k y = false) (fun k' => b.toNat - k') (fun k' => [(0, .slice (some ⟨bb, oo, none⟩) n c), (1, .string (str name)), (2, .int .i64 part), (3, .int .i64 r), (4, .int .i64 b), (11, .int .i64 (k' : Nat))]) (fun k' => [R]) 0 ⟨Nat.zero_le _, fun k hk => by omega⟩ (.cons rfl (.cons rfl (.cons rfl (.cons rfl (.cons rfl (.cons rfl .nil)))))) (.cons .head .nil) (fun k' hI ih => ?_)
  have hki := hI.1
  refine .seq ?_
  refine .seq ?_
  refine .region ?_   -- R2 ref.go:173
  refine .rd (.move rfl) ?_
  refine .rd (.move rfl) ?_
  refine .rd (.lt rfl rfl) ?_
  refine .nil ?_
  refine .condP rfl (fun c2 => ?_) (fun c2 => ?_)
  · refine .skip ?_
    refine .seq ?_
    refine .block ?_
    refine .seq ?_
    obtain ⟨y, hy⟩ : ∃ y, h[k']? = some y := ⟨_, List.getElem?_eq_getElem (by omega)⟩
    refine .region ?_   -- R4 ref.go:174
    refine .rd (.move rfl) ?_
    refine .rd (.move rfl) ?_
    refine .rd (.indexAddr Try.underlying22 ts36 rfl rfl (by omega) (by omega)) ?_
    refine .rd (.loadN ia36 ts36 rfl rfl (Knows.elem (f := Sn.cells) Sn.cells_len (by decide) (Knows.pick .head k) hy)) ?_
    refine .fn rfl rfl .nil (fun _ _ _ => trivial) (good_ok y 4 4) (fun v G1 hq => ?_)
    obtain ⟨rfl, rfl⟩ := hq
    simp only [List.nil_append]
    refine .rd (.assign rfl) ?_
    refine .nil ?_
    refine .seq ?_
    refine .region ?_   -- R5 ref.go:175
    refine RunO.join 30 52 (overP h name part r k' y) ?_ ?_
    · refine .rd (.move rfl) ?_
      refine .rd (.move rfl) ?_
      refine .split (t := 24) rfl (fun g5_1 => ?_) (fun g5_1 => ?_)
      · refine .on (t := 24) rfl rfl ?_
        refine .rd (.move rfl) ?_
        refine .on (t := 24) rfl rfl ?_
        refine .rd (.move rfl) ?_
        refine .on (t := 24) rfl rfl ?_
        refine .rd (.indexAddr Try.underlying22 ts36 rfl rfl (by omega) (by omega)) ?_
        refine .on (t := 24) rfl rfl ?_
        refine .rd (.fieldAddr fd36_8 rfl) ?_
        refine .on (t := 24) rfl rfl ?_
        refine .rd (.load na9 rfl (Knows.one (i := 8) (Knows.elem (f := Sn.cells) Sn.cells_len (by decide) (Knows.pick .head k) hy) rfl)) ?_
        refine .on (t := 24) rfl rfl ?_
        refine .rd (.move rfl) ?_
        refine .on (t := 24) rfl rfl ?_
        refine .rd (.eqT rfl rfl) ?_
        refine .rd (.pickT rfl rfl) ?_
        refine .rd (.move rfl) ?_
        refine .split (t := 33) rfl (fun g5_10 => ?_) (fun g5_10 => ?_)
        · replace g5_10 := of_decide_eq_true g5_10
          refine .on (t := 33) rfl rfl ?_
          refine .rd (.move rfl) ?_
          refine .on (t := 33) rfl rfl ?_
          refine .rd (.move rfl) ?_
          refine .on (t := 33) rfl rfl ?_
          refine .rd (.indexAddr Try.underlying22 ts36 rfl rfl (by omega) (by omega)) ?_
          refine .on (t := 33) rfl rfl ?_
          refine .rd (.fieldAddr fd36_3 rfl) ?_
          refine .on (t := 33) rfl rfl ?_
          refine .rd (.load na3 rfl (Knows.one (i := 3) (Knows.elem (f := Sn.cells) Sn.cells_len (by decide) (Knows.pick .head k) hy) rfl)) ?_
          refine .on (t := 33) rfl rfl ?_
          refine .rd (.move rfl) ?_
          refine .on (t := 33) rfl rfl ?_
          refine .rd (.eqI rfl rfl) ?_
          refine .rd (.pickT rfl rfl) ?_
          refine .rd (.move rfl) ?_
          refine .split (t := 42) rfl (fun g5_19 => ?_) (fun g5_19 => ?_)
          · replace g5_19 := of_decide_eq_true g5_19
            refine .on (t := 42) rfl rfl ?_
            refine .rd (.move rfl) ?_
            refine .on (t := 42) rfl rfl ?_
            refine .rd (.ge rfl rfl) ?_
            refine .rd (.pickT rfl rfl) ?_
            refine .rd (.move rfl) ?_
            refine .split (t := 46) rfl (fun g5_23 => ?_) (fun g5_23 => ?_)
            · replace g5_23 := of_decide_eq_true g5_23
              refine .on (t := 46) rfl rfl ?_
              refine .rd (.move rfl) ?_
              refine .on (t := 46) rfl rfl ?_
              refine .rd (.move rfl) ?_
              refine .on (t := 46) rfl rfl ?_
              refine .fn rfl rfl .nil (Knows.pick .head (k.mono fun _ w => by rw [take_at hy]; exact RowAt.take w _)) (callOf_ok _ n c (h.take k') y k' (by rw [List.length_take]; omega) (by omega) hb) (fun v G1 hq => ?_)
              obtain ⟨rfl, rfl⟩ := hq
              simp only [List.nil_append]
              refine .on (t := 46) rfl rfl ?_
              refine .rd (.move rfl) ?_
              refine .on (t := 46) rfl rfl ?_
              refine .rd (.gt rfl rfl) ?_
              refine .rd (.pickT rfl rfl) ?_
              refine .nil ⟨rfl, ?_, by repeat (first | exact Le.refl _ | refine Le.skip rfl ?_)⟩
              exact congrArg (fun x => some (Value.bool x)) (Eq.symm (show overP h name part r k' y = _ by unfold overP; (rw [g5_1, decide_eq_true g5_10, decide_eq_true g5_19, decide_eq_true g5_23]) <;> rfl))
            · replace g5_23 := of_decide_eq_false g5_23
              refine .off (t := 46) rfl rfl rfl ?_
              refine .off (t := 46) rfl rfl rfl ?_
              refine .off (t := 46) rfl rfl rfl ?_
              refine .off (t := 46) rfl rfl rfl ?_
              refine .off (t := 46) rfl rfl rfl ?_
              refine .rd (.pickF rfl rfl) ?_
              refine .nil ⟨rfl, ?_, by repeat (first | exact Le.refl _ | refine Le.skip rfl ?_)⟩
              exact congrArg (fun x => some (Value.bool x)) (Eq.symm (show overP h name part r k' y = _ by unfold overP; (rw [g5_1, decide_eq_true g5_10, decide_eq_true g5_19, decide_eq_false g5_23]) <;> rfl))
          · replace g5_19 := of_decide_eq_false g5_19
            refine .off (t := 42) rfl rfl rfl ?_
            refine .off (t := 42) rfl rfl rfl ?_
            refine .rd (.pickF rfl rfl) ?_
            refine .rd (.move rfl) ?_
            refine .off (t := 46) rfl rfl rfl ?_
            refine .off (t := 46) rfl rfl rfl ?_
            refine .off (t := 46) rfl rfl rfl ?_
            refine .off (t := 46) rfl rfl rfl ?_
            refine .off (t := 46) rfl rfl rfl ?_
            refine .rd (.pickF rfl rfl) ?_
            refine .nil ⟨rfl, ?_, by repeat (first | exact Le.refl _ | refine Le.skip rfl ?_)⟩
            exact congrArg (fun x => some (Value.bool x)) (Eq.symm (show overP h name part r k' y = _ by unfold overP; (rw [g5_1, decide_eq_true g5_10, decide_eq_false g5_19]) <;> rfl))
        · replace g5_10 := of_decide_eq_false g5_10
          refine .off (t := 33) rfl rfl rfl ?_
          refine .off (t := 33) rfl rfl rfl ?_
          refine .off (t := 33) rfl rfl rfl ?_
          refine .off (t := 33) rfl rfl rfl ?_
          refine .off (t := 33) rfl rfl rfl ?_
          refine .off (t := 33) rfl rfl rfl ?_
          refine .off (t := 33) rfl rfl rfl ?_
          refine .rd (.pickF rfl rfl) ?_
          refine .rd (.move rfl) ?_
          refine .off (t := 42) rfl rfl rfl ?_
          refine .off (t := 42) rfl rfl rfl ?_
          refine .rd (.pickF rfl rfl) ?_
          refine .rd (.move rfl) ?_
          refine .off (t := 46) rfl rfl rfl ?_
          refine .off (t := 46) rfl rfl rfl ?_
          refine .off (t := 46) rfl rfl rfl ?_
          refine .off (t := 46) rfl rfl rfl ?_
          refine .off (t := 46) rfl rfl rfl ?_
          refine .rd (.pickF rfl rfl) ?_
          refine .nil ⟨rfl, ?_, by repeat (first | exact Le.refl _ | refine Le.skip rfl ?_)⟩
          exact congrArg (fun x => some (Value.bool x)) (Eq.symm (show overP h name part r k' y = _ by unfold overP; (rw [g5_1, decide_eq_false g5_10]) <;> rfl))
      · refine .off (t := 24) rfl rfl rfl ?_
        refine .off (t := 24) rfl rfl rfl ?_
        refine .off (t := 24) rfl rfl rfl ?_
        refine .off (t := 24) rfl rfl rfl ?_
        refine .off (t := 24) rfl rfl rfl ?_
        refine .off (t := 24) rfl rfl rfl ?_
        refine .off (t := 24) rfl rfl rfl ?_
        refine .rd (.pickF rfl rfl) ?_
        refine .rd (.move rfl) ?_
        refine .off (t := 33) rfl rfl rfl ?_
        refine .off (t := 33) rfl rfl rfl ?_
        refine .off (t := 33) rfl rfl rfl ?_
        refine .off (t := 33) rfl rfl rfl ?_
        refine .off (t := 33) rfl rfl rfl ?_
        refine .off (t := 33) rfl rfl rfl ?_
        refine .off (t := 33) rfl rfl rfl ?_
        refine .rd (.pickF rfl rfl) ?_
        refine .rd (.move rfl) ?_
        refine .off (t := 42) rfl rfl rfl ?_
        refine .off (t := 42) rfl rfl rfl ?_
        refine .rd (.pickF rfl rfl) ?_
        refine .rd (.move rfl) ?_
        refine .off (t := 46) rfl rfl rfl ?_
        refine .off (t := 46) rfl rfl rfl ?_
        refine .off (t := 46) rfl rfl rfl ?_
        refine .off (t := 46) rfl rfl rfl ?_
        refine .off (t := 46) rfl rfl rfl ?_
        refine .rd (.pickF rfl rfl) ?_
        refine .nil ⟨rfl, ?_, by repeat (first | exact Le.refl _ | refine Le.skip rfl ?_)⟩
        exact congrArg (fun x => some (Value.bool x)) (Eq.symm (show overP h name part r k' y = _ by unfold overP; (rw [g5_1]) <;> rfl))
    refine .nil ?_
    refine .cond rfl (fun h5 => ?_) (fun h5 => ?_)
    · refine .seq ?_
      refine .region ?_   -- R6 ref.go:176
      refine .rd (.assign rfl) ?_
      refine .nil ?_
      have hv : overB h name part r b = true := anyAt_hit_take (by omega) hy h5
      rw [hv]
      refine .retP Try.func44 (.cons (.tmp rfl) .nil) (.cons .head .nil) ?_
      exact ⟨[], ⟨rfl, rfl⟩, rfl⟩
    · refine .skip ?_
      refine .inBlock ?_
      refine .region ?_   -- R3 ref.go:173
      refine .rd (.move rfl) ?_
      refine .rd (.add rfl rfl (by omega) (by omega)) ?_
      refine .rd (.assign rfl) ?_
      refine .nil ?_
      exact (ih (k' + 1) ⟨by omega, upto_next (P := overP h name part r) hI.2 hy (by simpa using h5)⟩ (by omega)).to (.cons rfl (.cons rfl (.cons rfl (.cons rfl (.cons rfl (.cons rfl .nil)))))) (.cons .head .nil)
  · refine .exit rfl ?_
    refine .seq ?_
    refine .region ?_   -- R7 ref.go:179
    refine .rd (.assign rfl) ?_
    refine .nil ?_
    have hv : overB h name part r b = false := anyAt_miss_take (n := k') (by omega) hI.2
    rw [hv]
    refine .retP Try.func44 (.cons (.tmp rfl) .nil) (.cons .head .nil) ?_
    exact ⟨[], ⟨rfl, rfl⟩, rfl⟩

end Go.Proofs.Ytahpokcigdjilaa

