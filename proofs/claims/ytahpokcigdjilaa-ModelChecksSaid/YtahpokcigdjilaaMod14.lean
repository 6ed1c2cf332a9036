/- Steps through functions of the program, under conditions that each theorem states (part mod14 of a claim). -/
import Derived.Test.YtahpokcigdjilaaProg
import Derived.Test.YtahpokcigdjilaaMod7
import Derived.Test.YtahpokcigdjilaaDefs22f
namespace Go.Proofs.Ytahpokcigdjilaa
open Go Go.Sp

set_option linter.unusedVariables false

namespace mod14
theorem fd36_11 : FD Try.prog 36 11 11 := .of Try.underlying36 (by kernel_rfl)
theorem na4 : NotAgg Try.prog 4 := ⟨_, Try.underlying4, trivial⟩
theorem fd36_10 : FD Try.prog 36 10 10 := .of Try.underlying36 (by kernel_rfl)
theorem na34 : NotAgg Try.prog 34 := ⟨_, Try.underlying34, trivial⟩
theorem fd36_2 : FD Try.prog 36 2 2 := .of Try.underlying36 (by kernel_rfl)
theorem na3 : NotAgg Try.prog 3 := ⟨_, Try.underlying3, trivial⟩
theorem ia36 : IsAgg Try.prog 36 := ⟨_, Try.underlying36, trivial⟩
theorem ts36 : TS Try.prog 36 12 := .of (by kernel_rfl)
theorem fd36_0 : FD Try.prog 36 0 0 := .of Try.underlying36 (by kernel_rfl)
theorem fd36_1 : FD Try.prog 36 1 1 := .of Try.underlying36 (by kernel_rfl)
theorem fd36_3 : FD Try.prog 36 3 3 := .of Try.underlying36 (by kernel_rfl)
theorem fd36_9 : FD Try.prog 36 9 9 := .of Try.underlying36 (by kernel_rfl)
theorem na9 : NotAgg Try.prog 9 := ⟨_, Try.underlying9, trivial⟩
theorem fd36_4 : FD Try.prog 36 4 4 := .of Try.underlying36 (by kernel_rfl)
end mod14
open mod14

theorem sent_yes {h : List Sn} {x y : Sn} {k : Nat} (hy : h[k]? = some y) (hp : isSent x y = true) : sentI (h.take (k + 1)) x = sentI (h.take k) x + 1 := by
  unfold sentI; rw [← take_at hy, List.filter_append]; simp [hp]
theorem sent_no {h : List Sn} {x y : Sn} {k : Nat} (hy : h[k]? = some y) (hp : isSent x y = false) : sentI (h.take (k + 1)) x = sentI (h.take k) x := by
  unfold sentI; rw [← take_at hy, List.filter_append]; simp [hp]
theorem sent_lt (h : List Sn) (x : Sn) (k : Nat) : 0 ≤ sentI (h.take k) x ∧ sentI (h.take k) x ≤ k := by
  unfold sentI
  have h1 := List.length_filter_le (isSent x) (h.take k)
  have h2 : (h.take k).length ≤ k := by rw [List.length_take]; omega
  omega

set_option maxRecDepth 20000 in
theorem good_ok (s : Sn) (p q : Int) : Cn Try.prog 41 [.agg s.cells.toArray, .int .i64 p, .int .i64 q] (fun _ => True) [] fun v G => v = .bool (goodB s p q) ∧ G = [] := by
  refine .enter Try.func41 rfl (by kernel_rfl) rfl fun R k => ?_
  refine .seq ?_
  refine .region ?_   -- R0 ref.go:27
  refine .ef (.box (l := s.cells) rfl rfl (ones.of rfl)) ?_
  rintro _ _ ⟨b3, rfl, rfl⟩
  refine .rd (.assign rfl) ?_
  refine .nil ?_
  refine .seq ?_
  refine .region ?_   -- R1 ref.go:28
  refine RunO.join 19 25 (goodB s p q) ?_ ?_
  · refine .rd (.fieldAddr fd36_11 rfl) ?_
    refine .rd (.ld na4 rfl .head rfl) ?_
    refine .rd (.move rfl) ?_
    refine .split (t := 9) rfl (fun g1_2 => ?_) (fun g1_2 => ?_)
    · refine .on (t := 9) rfl rfl ?_
      refine .rd (.fieldAddr fd36_10 rfl) ?_
      refine .on (t := 9) rfl rfl ?_
      refine .rd (.ld na34 rfl .head rfl) ?_
      refine .on (t := 9) rfl rfl ?_
      refine .rd (.eqI rfl rfl) ?_
      refine .rd (.pickT rfl rfl) ?_
      refine .rd (.move rfl) ?_
      refine .split (t := 14) rfl (fun g1_7 => ?_) (fun g1_7 => ?_)
      · replace g1_7 := of_decide_eq_true g1_7
        refine .on (t := 14) rfl rfl ?_
        refine .rd (.fieldAddr fd36_2 rfl) ?_
        refine .on (t := 14) rfl rfl ?_
        refine .rd (.ld na3 rfl .head rfl) ?_
        refine .on (t := 14) rfl rfl ?_
        refine .rd (.move rfl) ?_
        refine .on (t := 14) rfl rfl ?_
        refine .rd (.eqI rfl rfl) ?_
        refine .on (t := 14) rfl rfl ?_
        refine .rd (.move rfl) ?_
        refine .split (t := 19) rfl (fun g1_12 => ?_) (fun g1_12 => ?_)
        · replace g1_12 := of_decide_eq_true g1_12
          refine .off (t := 19) rfl rfl rfl ?_
          refine .off (t := 19) rfl rfl rfl ?_
          refine .off (t := 19) rfl rfl rfl ?_
          refine .off (t := 19) rfl rfl rfl ?_
          refine .on (t := 14) rfl rfl ?_
          refine .rd (.pickT rfl rfl) ?_
          refine .rd (.pickT rfl rfl) ?_
          refine .nil ⟨rfl, ?_, by repeat (first | exact Le.refl _ | refine Le.skip rfl ?_)⟩
          exact congrArg (fun x => some (Value.bool x)) (Eq.symm (show goodB s p q = _ by unfold goodB; (rw [g1_2, decide_eq_true g1_7, decide_eq_true g1_12]) <;> rfl))
        · replace g1_12 := of_decide_eq_false g1_12
          refine .on (t := 19) rfl rfl ?_
          refine .rd (.fieldAddr fd36_2 rfl) ?_
          refine .on (t := 19) rfl rfl ?_
          refine .rd (.ld na3 rfl .head rfl) ?_
          refine .on (t := 19) rfl rfl ?_
          refine .rd (.move rfl) ?_
          refine .on (t := 19) rfl rfl ?_
          refine .rd (.eqI rfl rfl) ?_
          refine .on (t := 14) rfl rfl ?_
          refine .rd (.pickF rfl rfl) ?_
          refine .rd (.pickT rfl rfl) ?_
          refine .nil ⟨rfl, ?_, by repeat (first | exact Le.refl _ | refine Le.skip rfl ?_)⟩
          exact congrArg (fun x => some (Value.bool x)) (Eq.symm (show goodB s p q = _ by unfold goodB; (rw [g1_2, decide_eq_true g1_7, decide_eq_false g1_12]) <;> rfl))
      · replace g1_7 := of_decide_eq_false g1_7
        refine .off (t := 14) rfl rfl rfl ?_
        refine .off (t := 14) rfl rfl rfl ?_
        refine .off (t := 14) rfl rfl rfl ?_
        refine .off (t := 14) rfl rfl rfl ?_
        refine .offU (t := 14) rfl rfl rfl rfl ?_
        refine .offX (t := 19) rfl rfl rfl ?_
        refine .offX (t := 19) rfl rfl rfl ?_
        refine .offX (t := 19) rfl rfl rfl ?_
        refine .offX (t := 19) rfl rfl rfl ?_
        refine .off (t := 14) rfl rfl rfl ?_
        refine .rd (.pickF rfl rfl) ?_
        refine .nil ⟨rfl, ?_, by repeat (first | exact Le.refl _ | refine Le.skip rfl ?_)⟩
        exact congrArg (fun x => some (Value.bool x)) (Eq.symm (show goodB s p q = _ by unfold goodB; (rw [g1_2, decide_eq_false g1_7]) <;> rfl))
    · refine .off (t := 9) rfl rfl rfl ?_
      refine .off (t := 9) rfl rfl rfl ?_
      refine .off (t := 9) rfl rfl rfl ?_
      refine .rd (.pickF rfl rfl) ?_
      refine .rd (.move rfl) ?_
      refine .off (t := 14) rfl rfl rfl ?_
      refine .off (t := 14) rfl rfl rfl ?_
      refine .off (t := 14) rfl rfl rfl ?_
      refine .off (t := 14) rfl rfl rfl ?_
      refine .offU (t := 14) rfl rfl rfl rfl ?_
      refine .offX (t := 19) rfl rfl rfl ?_
      refine .offX (t := 19) rfl rfl rfl ?_
      refine .offX (t := 19) rfl rfl rfl ?_
      refine .offX (t := 19) rfl rfl rfl ?_
      refine .off (t := 14) rfl rfl rfl ?_
      refine .rd (.pickF rfl rfl) ?_
      refine .nil ⟨rfl, ?_, by repeat (first | exact Le.refl _ | refine Le.skip rfl ?_)⟩
      exact congrArg (fun x => some (Value.bool x)) (Eq.symm (show goodB s p q = _ by unfold goodB; (rw [g1_2]) <;> rfl))
  refine .rd (.assign rfl) ?_
  refine .nil ?_
  refine .retP Try.func41 (.cons (.tmp rfl) .nil) (.cons (.tail .head) .nil) ?_
  exact ⟨[], ⟨rfl, rfl⟩, rfl⟩

set_option maxRecDepth 20000 in
theorem told_ok (s : Sn) : Cn Try.prog 40 [.agg s.cells.toArray] (fun _ => True) [] fun v G => v = .bool (toldB s) ∧ G = [] := by
  refine .enter Try.func40 rfl (by kernel_rfl) rfl fun R k => ?_
  refine .seq ?_
  refine .region ?_   -- R0 ref.go:47
  refine .ef (.box (l := s.cells) rfl rfl (ones.of rfl)) ?_
  rintro _ _ ⟨b1, rfl, rfl⟩
  refine .rd (.assign rfl) ?_
  refine .nil ?_
  refine .seq ?_
  refine .region ?_   -- R1 ref.go:47
  refine .rd (.ldN ia36 ts36 rfl .head rfl) ?_
  refine .fn rfl rfl .nil (fun _ _ _ => trivial) (good_ok s 10 1) (fun v G1 hq => ?_)
  obtain ⟨rfl, rfl⟩ := hq
  simp only [List.nil_append]
  refine .rd (.assign rfl) ?_
  refine .nil ?_
  refine .retP Try.func40 (.cons (.tmp rfl) .nil) (.cons (.tail .head) .nil) ?_
  exact ⟨[], ⟨rfl, rfl⟩, rfl⟩

set_option maxRecDepth 20000 in
theorem callOf_ok (a : Option Addr) (n c : Nat) (h : List Sn) (x : Sn) (i : Nat) (hi : h.length = i) (hn : i < n) (hb : n ≤ 1000000) : Cn Try.prog 39 [.slice a n c, .int .i64 (i : Int)] (RowAt a ((h ++ [x]).flatMap Sn.cells)) [] fun v G => v = .int .i64 (callR h x) ∧ G = [] := by
  refine .enter Try.func39 rfl (by kernel_rfl) rfl fun R k => ?_
  have hx : (h ++ [x])[i]? = some x := at_last hi
  refine .tell (φ := ∃ b o, a = some ⟨b, o, none⟩) (Knows.pick .head (k.mono fun _ h => RowAt.addr h (by rw [flat_length Sn.cells_len]; simp))) (fun hh => ?_)
  obtain ⟨bb, oo, rfl⟩ := hh
  refine .seq ?_
  refine .region ?_   -- R0 ref.go:17
  refine .rd (.assign rfl) ?_
  refine .nil ?_
  refine .seq ?_
  refine .seq ?_
  refine .region ?_   -- R1 ref.go:18
  refine .rd (.assign rfl) ?_
  refine .nil ?_
  refine .block ?_
  refine .loop (σ := Nat) (fun k' => k' ≤ i ∧ ∀ k < k', ∀ y, h[k]? = some y → isCall x y = false) (fun k' => i - k') (fun k' => [(0, .slice (some ⟨bb, oo, none⟩) n c), (1, .int .i64 (i : Int)), (5, .int .i64 (k' : Nat))]) (fun k' => [R]) 0 ⟨Nat.zero_le _, fun k hk => by omega⟩ (.cons rfl (.cons rfl (.cons rfl .nil))) (.cons .head .nil) (fun k' hI ih => ?_)
  have hki := hI.1
  refine .seq ?_
  refine .seq ?_
  refine .region ?_   -- R2 ref.go:18
  refine .rd (.move rfl) ?_
  refine .rd (.move rfl) ?_
  refine .rd (.lt rfl rfl) ?_
  refine .nil ?_
  refine .condP rfl (fun c2 => ?_) (fun c2 => ?_)
  · refine .skip ?_
    refine .seq ?_
    refine .block ?_
    refine .seq ?_
    obtain ⟨y, hy⟩ : ∃ y, h[k']? = some y := ⟨_, List.getElem?_eq_getElem (by omega)⟩
    have hy' := at_left (x := x) (show k' < h.length by omega) hy
    refine .drawsJoin [4, 11, 16, 24, 29] [R] 42 (isCall x y) (by kernel_rfl) ?_ ?_   -- R4 ref.go:19
    · refine .rp 0 rfl (by kernel_rfl) (by kernel_rfl) (by kernel_rfl) (Reads.pure (.move rfl)) ?_
      refine .rp 1 rfl (by kernel_rfl) (by kernel_rfl) (by kernel_rfl) (Reads.pure (.move rfl)) ?_
      refine .rp 2 rfl (by kernel_rfl) (by kernel_rfl) (by kernel_rfl) (Reads.pure (.indexAddr Try.underlying22 ts36 rfl rfl (by omega) (by omega))) ?_
      refine .rp 3 rfl (by kernel_rfl) (by kernel_rfl) (by kernel_rfl) (Reads.pure (.fieldAddr fd36_11 rfl)) ?_
      refine .rd 4 rfl rfl (by kernel_rfl) (by kernel_rfl) (by kernel_rfl) (.load na4 rfl (Knows.one (i := 11) (Knows.elem (f := Sn.cells) Sn.cells_len (by decide) (Knows.pick .head k) hy') rfl)) (.cons .head .nil) ?_
      refine .rp 5 rfl (by kernel_rfl) (by kernel_rfl) (by kernel_rfl) (Reads.pure (.not rfl)) ?_
      refine .rp 6 rfl (by kernel_rfl) (by kernel_rfl) (by kernel_rfl) (Reads.pure (.move rfl)) ?_
      refine .split (t := 17) rfl (fun g4_6 => ?_) (fun g4_6 => ?_)
      · refine .rpG 7 (t := 17) rfl rfl rfl (by kernel_rfl) (by kernel_rfl) (by kernel_rfl) (Reads.pure (.move rfl)) ?_
        refine .rpG 8 (t := 17) rfl rfl rfl (by kernel_rfl) (by kernel_rfl) (by kernel_rfl) (Reads.pure (.move rfl)) ?_
        refine .rpG 9 (t := 17) rfl rfl rfl (by kernel_rfl) (by kernel_rfl) (by kernel_rfl) (Reads.pure (.indexAddr Try.underlying22 ts36 rfl rfl (by omega) (by omega))) ?_
        refine .rpG 10 (t := 17) rfl rfl rfl (by kernel_rfl) (by kernel_rfl) (by kernel_rfl) (Reads.pure (.fieldAddr fd36_0 rfl)) ?_
        refine .rdG 11 (t := 17) rfl rfl rfl rfl (by kernel_rfl) (by kernel_rfl) (by kernel_rfl) (.load na3 rfl (Knows.one (i := 0) (Knows.elem (f := Sn.cells) Sn.cells_len (by decide) (Knows.pick .head k) hy') rfl)) (.cons .head .nil) ?_
        refine .rpG 12 (t := 17) rfl rfl rfl (by kernel_rfl) (by kernel_rfl) (by kernel_rfl) (Reads.pure (.move rfl)) ?_
        refine .rpG 13 (t := 17) rfl rfl rfl (by kernel_rfl) (by kernel_rfl) (by kernel_rfl) (Reads.pure (.move rfl)) ?_
        refine .rpG 14 (t := 17) rfl rfl rfl (by kernel_rfl) (by kernel_rfl) (by kernel_rfl) (Reads.pure (.indexAddr Try.underlying22 ts36 rfl rfl (by omega) (by omega))) ?_
        refine .rpG 15 (t := 17) rfl rfl rfl (by kernel_rfl) (by kernel_rfl) (by kernel_rfl) (Reads.pure (.fieldAddr fd36_0 rfl)) ?_
        refine .rdG 16 (t := 17) rfl rfl rfl rfl (by kernel_rfl) (by kernel_rfl) (by kernel_rfl) (.load na3 rfl (Knows.one (i := 0) (Knows.elem (f := Sn.cells) Sn.cells_len (by decide) (Knows.pick .head k) hx) rfl)) (.cons .head .nil) ?_
        refine .rpG 17 (t := 17) rfl rfl rfl (by kernel_rfl) (by kernel_rfl) (by kernel_rfl) (Reads.pure (.eqI rfl rfl)) ?_
        refine .rp 18 rfl (by kernel_rfl) (by kernel_rfl) (by kernel_rfl) (Reads.pure (.pickT rfl rfl)) ?_
        refine .rp 19 rfl (by kernel_rfl) (by kernel_rfl) (by kernel_rfl) (Reads.pure (.move rfl)) ?_
        refine .split (t := 30) rfl (fun g4_19 => ?_) (fun g4_19 => ?_)
        · replace g4_19 := of_decide_eq_true g4_19
          refine .rpG 20 (t := 30) rfl rfl rfl (by kernel_rfl) (by kernel_rfl) (by kernel_rfl) (Reads.pure (.move rfl)) ?_
          refine .rpG 21 (t := 30) rfl rfl rfl (by kernel_rfl) (by kernel_rfl) (by kernel_rfl) (Reads.pure (.move rfl)) ?_
          refine .rpG 22 (t := 30) rfl rfl rfl (by kernel_rfl) (by kernel_rfl) (by kernel_rfl) (Reads.pure (.indexAddr Try.underlying22 ts36 rfl rfl (by omega) (by omega))) ?_
          refine .rpG 23 (t := 30) rfl rfl rfl (by kernel_rfl) (by kernel_rfl) (by kernel_rfl) (Reads.pure (.fieldAddr fd36_1 rfl)) ?_
          refine .rdG 24 (t := 30) rfl rfl rfl rfl (by kernel_rfl) (by kernel_rfl) (by kernel_rfl) (.load na3 rfl (Knows.one (i := 1) (Knows.elem (f := Sn.cells) Sn.cells_len (by decide) (Knows.pick .head k) hy') rfl)) (.cons .head .nil) ?_
          refine .rpG 25 (t := 30) rfl rfl rfl (by kernel_rfl) (by kernel_rfl) (by kernel_rfl) (Reads.pure (.move rfl)) ?_
          refine .rpG 26 (t := 30) rfl rfl rfl (by kernel_rfl) (by kernel_rfl) (by kernel_rfl) (Reads.pure (.move rfl)) ?_
          refine .rpG 27 (t := 30) rfl rfl rfl (by kernel_rfl) (by kernel_rfl) (by kernel_rfl) (Reads.pure (.indexAddr Try.underlying22 ts36 rfl rfl (by omega) (by omega))) ?_
          refine .rpG 28 (t := 30) rfl rfl rfl (by kernel_rfl) (by kernel_rfl) (by kernel_rfl) (Reads.pure (.fieldAddr fd36_1 rfl)) ?_
          refine .rdG 29 (t := 30) rfl rfl rfl rfl (by kernel_rfl) (by kernel_rfl) (by kernel_rfl) (.load na3 rfl (Knows.one (i := 1) (Knows.elem (f := Sn.cells) Sn.cells_len (by decide) (Knows.pick .head k) hx) rfl)) (.cons .head .nil) ?_
          refine .rpG 30 (t := 30) rfl rfl rfl (by kernel_rfl) (by kernel_rfl) (by kernel_rfl) (Reads.pure (.eqI rfl rfl)) ?_
          refine .rp 31 rfl (by kernel_rfl) (by kernel_rfl) (by kernel_rfl) (Reads.pure (.pickT rfl rfl)) ?_
          refine .done (by kernel_rfl) ⟨rfl, ?_, by repeat (first | exact Le.refl _ | refine Le.skip rfl ?_)⟩
          exact congrArg (fun x => some (Value.bool x)) (Eq.symm (show isCall x y = _ by unfold isCall; (rw [g4_6, decide_eq_true g4_19]) <;> rfl))
        · replace g4_19 := of_decide_eq_false g4_19
          refine .off 20 (t := 30) rfl rfl rfl rfl (by kernel_rfl) (by kernel_rfl) (by kernel_rfl) ?_
          refine .off 21 (t := 30) rfl rfl rfl rfl (by kernel_rfl) (by kernel_rfl) (by kernel_rfl) ?_
          refine .off 22 (t := 30) rfl rfl rfl rfl (by kernel_rfl) (by kernel_rfl) (by kernel_rfl) ?_
          refine .off 23 (t := 30) rfl rfl rfl rfl (by kernel_rfl) (by kernel_rfl) (by kernel_rfl) ?_
          refine .off 24 (t := 30) rfl rfl rfl rfl (by kernel_rfl) (by kernel_rfl) (by kernel_rfl) ?_
          refine .off 25 (t := 30) rfl rfl rfl rfl (by kernel_rfl) (by kernel_rfl) (by kernel_rfl) ?_
          refine .off 26 (t := 30) rfl rfl rfl rfl (by kernel_rfl) (by kernel_rfl) (by kernel_rfl) ?_
          refine .off 27 (t := 30) rfl rfl rfl rfl (by kernel_rfl) (by kernel_rfl) (by kernel_rfl) ?_
          refine .off 28 (t := 30) rfl rfl rfl rfl (by kernel_rfl) (by kernel_rfl) (by kernel_rfl) ?_
          refine .off 29 (t := 30) rfl rfl rfl rfl (by kernel_rfl) (by kernel_rfl) (by kernel_rfl) ?_
          refine .off 30 (t := 30) rfl rfl rfl rfl (by kernel_rfl) (by kernel_rfl) (by kernel_rfl) ?_
          refine .rp 31 rfl (by kernel_rfl) (by kernel_rfl) (by kernel_rfl) (Reads.pure (.pickF rfl rfl)) ?_
          refine .done (by kernel_rfl) ⟨rfl, ?_, by repeat (first | exact Le.refl _ | refine Le.skip rfl ?_)⟩
          exact congrArg (fun x => some (Value.bool x)) (Eq.symm (show isCall x y = _ by unfold isCall; (rw [g4_6, decide_eq_false g4_19]) <;> rfl))
      · refine .off 7 (t := 17) rfl rfl rfl rfl (by kernel_rfl) (by kernel_rfl) (by kernel_rfl) ?_
        refine .off 8 (t := 17) rfl rfl rfl rfl (by kernel_rfl) (by kernel_rfl) (by kernel_rfl) ?_
        refine .off 9 (t := 17) rfl rfl rfl rfl (by kernel_rfl) (by kernel_rfl) (by kernel_rfl) ?_
        refine .off 10 (t := 17) rfl rfl rfl rfl (by kernel_rfl) (by kernel_rfl) (by kernel_rfl) ?_
        refine .off 11 (t := 17) rfl rfl rfl rfl (by kernel_rfl) (by kernel_rfl) (by kernel_rfl) ?_
        refine .off 12 (t := 17) rfl rfl rfl rfl (by kernel_rfl) (by kernel_rfl) (by kernel_rfl) ?_
        refine .off 13 (t := 17) rfl rfl rfl rfl (by kernel_rfl) (by kernel_rfl) (by kernel_rfl) ?_
        refine .off 14 (t := 17) rfl rfl rfl rfl (by kernel_rfl) (by kernel_rfl) (by kernel_rfl) ?_
        refine .off 15 (t := 17) rfl rfl rfl rfl (by kernel_rfl) (by kernel_rfl) (by kernel_rfl) ?_
        refine .off 16 (t := 17) rfl rfl rfl rfl (by kernel_rfl) (by kernel_rfl) (by kernel_rfl) ?_
        refine .off 17 (t := 17) rfl rfl rfl rfl (by kernel_rfl) (by kernel_rfl) (by kernel_rfl) ?_
        refine .rp 18 rfl (by kernel_rfl) (by kernel_rfl) (by kernel_rfl) (Reads.pure (.pickF rfl rfl)) ?_
        refine .rp 19 rfl (by kernel_rfl) (by kernel_rfl) (by kernel_rfl) (Reads.pure (.move rfl)) ?_
        refine .off 20 (t := 30) rfl rfl rfl rfl (by kernel_rfl) (by kernel_rfl) (by kernel_rfl) ?_
        refine .off 21 (t := 30) rfl rfl rfl rfl (by kernel_rfl) (by kernel_rfl) (by kernel_rfl) ?_
        refine .off 22 (t := 30) rfl rfl rfl rfl (by kernel_rfl) (by kernel_rfl) (by kernel_rfl) ?_
        refine .off 23 (t := 30) rfl rfl rfl rfl (by kernel_rfl) (by kernel_rfl) (by kernel_rfl) ?_
        refine .off 24 (t := 30) rfl rfl rfl rfl (by kernel_rfl) (by kernel_rfl) (by kernel_rfl) ?_
        refine .off 25 (t := 30) rfl rfl rfl rfl (by kernel_rfl) (by kernel_rfl) (by kernel_rfl) ?_
        refine .off 26 (t := 30) rfl rfl rfl rfl (by kernel_rfl) (by kernel_rfl) (by kernel_rfl) ?_
        refine .off 27 (t := 30) rfl rfl rfl rfl (by kernel_rfl) (by kernel_rfl) (by kernel_rfl) ?_
        refine .off 28 (t := 30) rfl rfl rfl rfl (by kernel_rfl) (by kernel_rfl) (by kernel_rfl) ?_
        refine .off 29 (t := 30) rfl rfl rfl rfl (by kernel_rfl) (by kernel_rfl) (by kernel_rfl) ?_
        refine .off 30 (t := 30) rfl rfl rfl rfl (by kernel_rfl) (by kernel_rfl) (by kernel_rfl) ?_
        refine .rp 31 rfl (by kernel_rfl) (by kernel_rfl) (by kernel_rfl) (Reads.pure (.pickF rfl rfl)) ?_
        refine .done (by kernel_rfl) ⟨rfl, ?_, by repeat (first | exact Le.refl _ | refine Le.skip rfl ?_)⟩
        exact congrArg (fun x => some (Value.bool x)) (Eq.symm (show isCall x y = _ by unfold isCall; (rw [g4_6]) <;> rfl))
    refine .cond rfl (fun h4 => ?_) (fun h4 => ?_)
    · refine .seq ?_
      refine .region ?_   -- R5 ref.go:20
      refine .rd (.move rfl) ?_
      refine .rd (.assign rfl) ?_
      refine .nil ?_
      have hv : callR h x = (k' : Int) := place_here hy h4 (fun y hy => all_upto hI.2 y hy)
      rw [hv]
      refine .retP Try.func39 (.cons (.tmp rfl) .nil) (.cons .head .nil) ?_
      exact ⟨[], ⟨rfl, rfl⟩, rfl⟩
    · refine .skip ?_
      refine .inBlock ?_
      refine .region ?_   -- R3 ref.go:18
      refine .rd (.move rfl) ?_
      refine .rd (.add rfl rfl (by omega) (by omega)) ?_
      refine .rd (.assign rfl) ?_
      refine .nil ?_
      exact (ih (k' + 1) ⟨by omega, upto_next hI.2 hy (by simpa using h4)⟩ (by omega)).to (.cons rfl (.cons rfl (.cons rfl .nil))) (.cons .head .nil)
  · refine .exit rfl ?_
    refine .seq ?_
    refine .region ?_   -- R6 ref.go:23
    refine .rd (.assign rfl) ?_
    refine .nil ?_
    have hv : callR h x = -1 := place_none (all_end (by omega) hI.2)
    rw [hv]
    refine .retP Try.func39 (.cons (.tmp rfl) .nil) (.cons .head .nil) ?_
    exact ⟨[], ⟨rfl, rfl⟩, rfl⟩

set_option maxRecDepth 20000 in
theorem sent_ok (a : Option Addr) (n c : Nat) (h : List Sn) (x : Sn) (i : Nat) (hi : h.length = i) (hn : i < n) (hb : n ≤ 1000000) : Cn Try.prog 42 [.slice a n c, .int .i64 (i : Int)] (RowAt a ((h ++ [x]).flatMap Sn.cells)) [] fun v G => v = .int .i64 (sentI h x) ∧ G = [] := by
  refine .enter Try.func42 rfl (by kernel_rfl) rfl fun R k => ?_
  have hx : (h ++ [x])[i]? = some x := at_last hi
  refine .tell (φ := ∃ b o, a = some ⟨b, o, none⟩) (Knows.pick .head (k.mono fun _ h => RowAt.addr h (by rw [flat_length Sn.cells_len]; simp))) (fun hh => ?_)
  obtain ⟨bb, oo, rfl⟩ := hh
  refine .seq ?_
  refine .region ?_   -- R0 ref.go:72
  refine .rd (.assign rfl) ?_
  refine .nil ?_
  refine .seq ?_
  refine .region ?_   -- R1 ref.go:73
  refine .rd (.assign rfl) ?_
  refine .nil ?_
  refine .seq ?_
  refine .seq ?_
  refine .region ?_   -- R2 ref.go:74
  refine .rd (.assign rfl) ?_
  refine .nil ?_
  refine .block ?_
  refine .loop (σ := Nat) (fun k' => k' ≤ i) (fun k' => i - k') (fun k' => [(0, .slice (some ⟨bb, oo, none⟩) n c), (1, .int .i64 (i : Int)), (6, .int .i64 (k' : Nat)), (5, .int .i64 (sentI (h.take k') x))]) (fun k' => [R]) 0 (Nat.zero_le _) (.cons rfl (.cons rfl (.cons rfl (.cons rfl .nil)))) (.cons .head .nil) (fun k' hI ih => ?_)
  have hki := hI
  have hsl := sent_lt h x k'
  refine .seq ?_
  refine .seq ?_
  refine .region ?_   -- R3 ref.go:74
  refine .rd (.move rfl) ?_
  refine .rd (.move rfl) ?_
  refine .rd (.lt rfl rfl) ?_
  refine .nil ?_
  refine .condP rfl (fun c3 => ?_) (fun c3 => ?_)
  · refine .skip ?_
    refine .seq ?_
    refine .block ?_
    refine .seq ?_
    obtain ⟨y, hy⟩ : ∃ y, h[k']? = some y := ⟨_, List.getElem?_eq_getElem (by omega)⟩
    have hy' := at_left (x := x) (show k' < h.length by omega) hy
    refine .drawsJoin [4, 11, 19, 24, 32, 37] [R] 51 (isSent x y) (by kernel_rfl) ?_ ?_   -- R5 ref.go:75
    · refine .rp 0 rfl (by kernel_rfl) (by kernel_rfl) (by kernel_rfl) (Reads.pure (.move rfl)) ?_
      refine .rp 1 rfl (by kernel_rfl) (by kernel_rfl) (by kernel_rfl) (Reads.pure (.move rfl)) ?_
      refine .rp 2 rfl (by kernel_rfl) (by kernel_rfl) (by kernel_rfl) (Reads.pure (.indexAddr Try.underlying22 ts36 rfl rfl (by omega) (by omega))) ?_
      refine .rp 3 rfl (by kernel_rfl) (by kernel_rfl) (by kernel_rfl) (Reads.pure (.fieldAddr fd36_11 rfl)) ?_
      refine .rd 4 rfl rfl (by kernel_rfl) (by kernel_rfl) (by kernel_rfl) (.load na4 rfl (Knows.one (i := 11) (Knows.elem (f := Sn.cells) Sn.cells_len (by decide) (Knows.pick .head k) hy') rfl)) (.cons .head .nil) ?_
      refine .rp 5 rfl (by kernel_rfl) (by kernel_rfl) (by kernel_rfl) (Reads.pure (.not rfl)) ?_
      refine .rp 6 rfl (by kernel_rfl) (by kernel_rfl) (by kernel_rfl) (Reads.pure (.move rfl)) ?_
      refine .split (t := 18) rfl (fun g5_6 => ?_) (fun g5_6 => ?_)
      · refine .rpG 7 (t := 18) rfl rfl rfl (by kernel_rfl) (by kernel_rfl) (by kernel_rfl) (Reads.pure (.move rfl)) ?_
        refine .rpG 8 (t := 18) rfl rfl rfl (by kernel_rfl) (by kernel_rfl) (by kernel_rfl) (Reads.pure (.move rfl)) ?_
        refine .rpG 9 (t := 18) rfl rfl rfl (by kernel_rfl) (by kernel_rfl) (by kernel_rfl) (Reads.pure (.indexAddr Try.underlying22 ts36 rfl rfl (by omega) (by omega))) ?_
        refine .rpG 10 (t := 18) rfl rfl rfl (by kernel_rfl) (by kernel_rfl) (by kernel_rfl) (Reads.pure (.fieldAddr fd36_2 rfl)) ?_
        refine .rdG 11 (t := 18) rfl rfl rfl rfl (by kernel_rfl) (by kernel_rfl) (by kernel_rfl) (.load na3 rfl (Knows.one (i := 2) (Knows.elem (f := Sn.cells) Sn.cells_len (by decide) (Knows.pick .head k) hy') rfl)) (.cons .head .nil) ?_
        refine .rpG 12 (t := 18) rfl rfl rfl (by kernel_rfl) (by kernel_rfl) (by kernel_rfl) (Reads.pure (.eqI rfl rfl)) ?_
        refine .rp 13 rfl (by kernel_rfl) (by kernel_rfl) (by kernel_rfl) (Reads.pure (.pickT rfl rfl)) ?_
        refine .rp 14 rfl (by kernel_rfl) (by kernel_rfl) (by kernel_rfl) (Reads.pure (.move rfl)) ?_
        refine .split (t := 26) rfl (fun g5_14 => ?_) (fun g5_14 => ?_)
        · replace g5_14 := of_decide_eq_true g5_14
          refine .rpG 15 (t := 26) rfl rfl rfl (by kernel_rfl) (by kernel_rfl) (by kernel_rfl) (Reads.pure (.move rfl)) ?_
          refine .rpG 16 (t := 26) rfl rfl rfl (by kernel_rfl) (by kernel_rfl) (by kernel_rfl) (Reads.pure (.move rfl)) ?_
          refine .rpG 17 (t := 26) rfl rfl rfl (by kernel_rfl) (by kernel_rfl) (by kernel_rfl) (Reads.pure (.indexAddr Try.underlying22 ts36 rfl rfl (by omega) (by omega))) ?_
          refine .rpG 18 (t := 26) rfl rfl rfl (by kernel_rfl) (by kernel_rfl) (by kernel_rfl) (Reads.pure (.fieldAddr fd36_3 rfl)) ?_
          refine .rdG 19 (t := 26) rfl rfl rfl rfl (by kernel_rfl) (by kernel_rfl) (by kernel_rfl) (.load na3 rfl (Knows.one (i := 3) (Knows.elem (f := Sn.cells) Sn.cells_len (by decide) (Knows.pick .head k) hy') rfl)) (.cons .head .nil) ?_
          refine .rpG 20 (t := 26) rfl rfl rfl (by kernel_rfl) (by kernel_rfl) (by kernel_rfl) (Reads.pure (.move rfl)) ?_
          refine .rpG 21 (t := 26) rfl rfl rfl (by kernel_rfl) (by kernel_rfl) (by kernel_rfl) (Reads.pure (.move rfl)) ?_
          refine .rpG 22 (t := 26) rfl rfl rfl (by kernel_rfl) (by kernel_rfl) (by kernel_rfl) (Reads.pure (.indexAddr Try.underlying22 ts36 rfl rfl (by omega) (by omega))) ?_
          refine .rpG 23 (t := 26) rfl rfl rfl (by kernel_rfl) (by kernel_rfl) (by kernel_rfl) (Reads.pure (.fieldAddr fd36_3 rfl)) ?_
          refine .rdG 24 (t := 26) rfl rfl rfl rfl (by kernel_rfl) (by kernel_rfl) (by kernel_rfl) (.load na3 rfl (Knows.one (i := 3) (Knows.elem (f := Sn.cells) Sn.cells_len (by decide) (Knows.pick .head k) hx) rfl)) (.cons .head .nil) ?_
          refine .rpG 25 (t := 26) rfl rfl rfl (by kernel_rfl) (by kernel_rfl) (by kernel_rfl) (Reads.pure (.eqI rfl rfl)) ?_
          refine .rp 26 rfl (by kernel_rfl) (by kernel_rfl) (by kernel_rfl) (Reads.pure (.pickT rfl rfl)) ?_
          refine .rp 27 rfl (by kernel_rfl) (by kernel_rfl) (by kernel_rfl) (Reads.pure (.move rfl)) ?_
          refine .split (t := 39) rfl (fun g5_27 => ?_) (fun g5_27 => ?_)
          · replace g5_27 := of_decide_eq_true g5_27
            refine .rpG 28 (t := 39) rfl rfl rfl (by kernel_rfl) (by kernel_rfl) (by kernel_rfl) (Reads.pure (.move rfl)) ?_
            refine .rpG 29 (t := 39) rfl rfl rfl (by kernel_rfl) (by kernel_rfl) (by kernel_rfl) (Reads.pure (.move rfl)) ?_
            refine .rpG 30 (t := 39) rfl rfl rfl (by kernel_rfl) (by kernel_rfl) (by kernel_rfl) (Reads.pure (.indexAddr Try.underlying22 ts36 rfl rfl (by omega) (by omega))) ?_
            refine .rpG 31 (t := 39) rfl rfl rfl (by kernel_rfl) (by kernel_rfl) (by kernel_rfl) (Reads.pure (.fieldAddr fd36_9 rfl)) ?_
            refine .rdG 32 (t := 39) rfl rfl rfl rfl (by kernel_rfl) (by kernel_rfl) (by kernel_rfl) (.load na9 rfl (Knows.one (i := 9) (Knows.elem (f := Sn.cells) Sn.cells_len (by decide) (Knows.pick .head k) hy') rfl)) (.cons .head .nil) ?_
            refine .rpG 33 (t := 39) rfl rfl rfl (by kernel_rfl) (by kernel_rfl) (by kernel_rfl) (Reads.pure (.move rfl)) ?_
            refine .rpG 34 (t := 39) rfl rfl rfl (by kernel_rfl) (by kernel_rfl) (by kernel_rfl) (Reads.pure (.move rfl)) ?_
            refine .rpG 35 (t := 39) rfl rfl rfl (by kernel_rfl) (by kernel_rfl) (by kernel_rfl) (Reads.pure (.indexAddr Try.underlying22 ts36 rfl rfl (by omega) (by omega))) ?_
            refine .rpG 36 (t := 39) rfl rfl rfl (by kernel_rfl) (by kernel_rfl) (by kernel_rfl) (Reads.pure (.fieldAddr fd36_9 rfl)) ?_
            refine .rdG 37 (t := 39) rfl rfl rfl rfl (by kernel_rfl) (by kernel_rfl) (by kernel_rfl) (.load na9 rfl (Knows.one (i := 9) (Knows.elem (f := Sn.cells) Sn.cells_len (by decide) (Knows.pick .head k) hx) rfl)) (.cons .head .nil) ?_
            refine .rpG 38 (t := 39) rfl rfl rfl (by kernel_rfl) (by kernel_rfl) (by kernel_rfl) (Reads.pure (.eqT rfl rfl)) ?_
            refine .rp 39 rfl (by kernel_rfl) (by kernel_rfl) (by kernel_rfl) (Reads.pure (.pickT rfl rfl)) ?_
            refine .done (by kernel_rfl) ⟨rfl, ?_, by repeat (first | exact Le.refl _ | refine Le.skip rfl ?_)⟩
            exact congrArg (fun x => some (Value.bool x)) (Eq.symm (show isSent x y = _ by unfold isSent; (rw [g5_6, decide_eq_true g5_14, decide_eq_true g5_27]) <;> rfl))
          · replace g5_27 := of_decide_eq_false g5_27
            refine .off 28 (t := 39) rfl rfl rfl rfl (by kernel_rfl) (by kernel_rfl) (by kernel_rfl) ?_
            refine .off 29 (t := 39) rfl rfl rfl rfl (by kernel_rfl) (by kernel_rfl) (by kernel_rfl) ?_
            refine .off 30 (t := 39) rfl rfl rfl rfl (by kernel_rfl) (by kernel_rfl) (by kernel_rfl) ?_
            refine .off 31 (t := 39) rfl rfl rfl rfl (by kernel_rfl) (by kernel_rfl) (by kernel_rfl) ?_
            refine .off 32 (t := 39) rfl rfl rfl rfl (by kernel_rfl) (by kernel_rfl) (by kernel_rfl) ?_
            refine .off 33 (t := 39) rfl rfl rfl rfl (by kernel_rfl) (by kernel_rfl) (by kernel_rfl) ?_
            refine .off 34 (t := 39) rfl rfl rfl rfl (by kernel_rfl) (by kernel_rfl) (by kernel_rfl) ?_
            refine .off 35 (t := 39) rfl rfl rfl rfl (by kernel_rfl) (by kernel_rfl) (by kernel_rfl) ?_
            refine .off 36 (t := 39) rfl rfl rfl rfl (by kernel_rfl) (by kernel_rfl) (by kernel_rfl) ?_
            refine .off 37 (t := 39) rfl rfl rfl rfl (by kernel_rfl) (by kernel_rfl) (by kernel_rfl) ?_
            refine .off 38 (t := 39) rfl rfl rfl rfl (by kernel_rfl) (by kernel_rfl) (by kernel_rfl) ?_
            refine .rp 39 rfl (by kernel_rfl) (by kernel_rfl) (by kernel_rfl) (Reads.pure (.pickF rfl rfl)) ?_
            refine .done (by kernel_rfl) ⟨rfl, ?_, by repeat (first | exact Le.refl _ | refine Le.skip rfl ?_)⟩
            exact congrArg (fun x => some (Value.bool x)) (Eq.symm (show isSent x y = _ by unfold isSent; (rw [g5_6, decide_eq_true g5_14, decide_eq_false g5_27]) <;> rfl))
        · replace g5_14 := of_decide_eq_false g5_14
          refine .off 15 (t := 26) rfl rfl rfl rfl (by kernel_rfl) (by kernel_rfl) (by kernel_rfl) ?_
          refine .off 16 (t := 26) rfl rfl rfl rfl (by kernel_rfl) (by kernel_rfl) (by kernel_rfl) ?_
          refine .off 17 (t := 26) rfl rfl rfl rfl (by kernel_rfl) (by kernel_rfl) (by kernel_rfl) ?_
          refine .off 18 (t := 26) rfl rfl rfl rfl (by kernel_rfl) (by kernel_rfl) (by kernel_rfl) ?_
          refine .off 19 (t := 26) rfl rfl rfl rfl (by kernel_rfl) (by kernel_rfl) (by kernel_rfl) ?_
          refine .off 20 (t := 26) rfl rfl rfl rfl (by kernel_rfl) (by kernel_rfl) (by kernel_rfl) ?_
          refine .off 21 (t := 26) rfl rfl rfl rfl (by kernel_rfl) (by kernel_rfl) (by kernel_rfl) ?_
          refine .off 22 (t := 26) rfl rfl rfl rfl (by kernel_rfl) (by kernel_rfl) (by kernel_rfl) ?_
          refine .off 23 (t := 26) rfl rfl rfl rfl (by kernel_rfl) (by kernel_rfl) (by kernel_rfl) ?_
          refine .off 24 (t := 26) rfl rfl rfl rfl (by kernel_rfl) (by kernel_rfl) (by kernel_rfl) ?_
          refine .off 25 (t := 26) rfl rfl rfl rfl (by kernel_rfl) (by kernel_rfl) (by kernel_rfl) ?_
          refine .rp 26 rfl (by kernel_rfl) (by kernel_rfl) (by kernel_rfl) (Reads.pure (.pickF rfl rfl)) ?_
          refine .rp 27 rfl (by kernel_rfl) (by kernel_rfl) (by kernel_rfl) (Reads.pure (.move rfl)) ?_
          refine .off 28 (t := 39) rfl rfl rfl rfl (by kernel_rfl) (by kernel_rfl) (by kernel_rfl) ?_
          refine .off 29 (t := 39) rfl rfl rfl rfl (by kernel_rfl) (by kernel_rfl) (by kernel_rfl) ?_
          refine .off 30 (t := 39) rfl rfl rfl rfl (by kernel_rfl) (by kernel_rfl) (by kernel_rfl) ?_
          refine .off 31 (t := 39) rfl rfl rfl rfl (by kernel_rfl) (by kernel_rfl) (by kernel_rfl) ?_
          refine .off 32 (t := 39) rfl rfl rfl rfl (by kernel_rfl) (by kernel_rfl) (by kernel_rfl) ?_
          refine .off 33 (t := 39) rfl rfl rfl rfl (by kernel_rfl) (by kernel_rfl) (by kernel_rfl) ?_
          refine .off 34 (t := 39) rfl rfl rfl rfl (by kernel_rfl) (by kernel_rfl) (by kernel_rfl) ?_
          refine .off 35 (t := 39) rfl rfl rfl rfl (by kernel_rfl) (by kernel_rfl) (by kernel_rfl) ?_
          refine .off 36 (t := 39) rfl rfl rfl rfl (by kernel_rfl) (by kernel_rfl) (by kernel_rfl) ?_
          refine .off 37 (t := 39) rfl rfl rfl rfl (by kernel_rfl) (by kernel_rfl) (by kernel_rfl) ?_
          refine .off 38 (t := 39) rfl rfl rfl rfl (by kernel_rfl) (by kernel_rfl) (by kernel_rfl) ?_
          refine .rp 39 rfl (by kernel_rfl) (by kernel_rfl) (by kernel_rfl) (Reads.pure (.pickF rfl rfl)) ?_
          refine .done (by kernel_rfl) ⟨rfl, ?_, by repeat (first | exact Le.refl _ | refine Le.skip rfl ?_)⟩
          exact congrArg (fun x => some (Value.bool x)) (Eq.symm (show isSent x y = _ by unfold isSent; (rw [g5_6, decide_eq_false g5_14]) <;> rfl))
      · refine .off 7 (t := 18) rfl rfl rfl rfl (by kernel_rfl) (by kernel_rfl) (by kernel_rfl) ?_
        refine .off 8 (t := 18) rfl rfl rfl rfl (by kernel_rfl) (by kernel_rfl) (by kernel_rfl) ?_
        refine .off 9 (t := 18) rfl rfl rfl rfl (by kernel_rfl) (by kernel_rfl) (by kernel_rfl) ?_
        refine .off 10 (t := 18) rfl rfl rfl rfl (by kernel_rfl) (by kernel_rfl) (by kernel_rfl) ?_
        refine .off 11 (t := 18) rfl rfl rfl rfl (by kernel_rfl) (by kernel_rfl) (by kernel_rfl) ?_
        refine .off 12 (t := 18) rfl rfl rfl rfl (by kernel_rfl) (by kernel_rfl) (by kernel_rfl) ?_
        refine .rp 13 rfl (by kernel_rfl) (by kernel_rfl) (by kernel_rfl) (Reads.pure (.pickF rfl rfl)) ?_
        refine .rp 14 rfl (by kernel_rfl) (by kernel_rfl) (by kernel_rfl) (Reads.pure (.move rfl)) ?_
        refine .off 15 (t := 26) rfl rfl rfl rfl (by kernel_rfl) (by kernel_rfl) (by kernel_rfl) ?_
        refine .off 16 (t := 26) rfl rfl rfl rfl (by kernel_rfl) (by kernel_rfl) (by kernel_rfl) ?_
        refine .off 17 (t := 26) rfl rfl rfl rfl (by kernel_rfl) (by kernel_rfl) (by kernel_rfl) ?_
        refine .off 18 (t := 26) rfl rfl rfl rfl (by kernel_rfl) (by kernel_rfl) (by kernel_rfl) ?_
        refine .off 19 (t := 26) rfl rfl rfl rfl (by kernel_rfl) (by kernel_rfl) (by kernel_rfl) ?_
        refine .off 20 (t := 26) rfl rfl rfl rfl (by kernel_rfl) (by kernel_rfl) (by kernel_rfl) ?_
        refine .off 21 (t := 26) rfl rfl rfl rfl (by kernel_rfl) (by kernel_rfl) (by kernel_rfl) ?_
        refine .off 22 (t := 26) rfl rfl rfl rfl (by kernel_rfl) (by kernel_rfl) (by kernel_rfl) ?_
        refine .off 23 (t := 26) rfl rfl rfl rfl (by kernel_rfl) (by kernel_rfl) (by kernel_rfl) ?_
        refine .off 24 (t := 26) rfl rfl rfl rfl (by kernel_rfl) (by kernel_rfl) (by kernel_rfl) ?_
        refine .off 25 (t := 26) rfl rfl rfl rfl (by kernel_rfl) (by kernel_rfl) (by kernel_rfl) ?_
        refine .rp 26 rfl (by kernel_rfl) (by kernel_rfl) (by kernel_rfl) (Reads.pure (.pickF rfl rfl)) ?_
        refine .rp 27 rfl (by kernel_rfl) (by kernel_rfl) (by kernel_rfl) (Reads.pure (.move rfl)) ?_
        refine .off 28 (t := 39) rfl rfl rfl rfl (by kernel_rfl) (by kernel_rfl) (by kernel_rfl) ?_
        refine .off 29 (t := 39) rfl rfl rfl rfl (by kernel_rfl) (by kernel_rfl) (by kernel_rfl) ?_
        refine .off 30 (t := 39) rfl rfl rfl rfl (by kernel_rfl) (by kernel_rfl) (by kernel_rfl) ?_
        refine .off 31 (t := 39) rfl rfl rfl rfl (by kernel_rfl) (by kernel_rfl) (by kernel_rfl) ?_
        refine .off 32 (t := 39) rfl rfl rfl rfl (by kernel_rfl) (by kernel_rfl) (by kernel_rfl) ?_
        refine .off 33 (t := 39) rfl rfl rfl rfl (by kernel_rfl) (by kernel_rfl) (by kernel_rfl) ?_
        refine .off 34 (t := 39) rfl rfl rfl rfl (by kernel_rfl) (by kernel_rfl) (by kernel_rfl) ?_
        refine .off 35 (t := 39) rfl rfl rfl rfl (by kernel_rfl) (by kernel_rfl) (by kernel_rfl) ?_
        refine .off 36 (t := 39) rfl rfl rfl rfl (by kernel_rfl) (by kernel_rfl) (by kernel_rfl) ?_
        refine .off 37 (t := 39) rfl rfl rfl rfl (by kernel_rfl) (by kernel_rfl) (by kernel_rfl) ?_
        refine .off 38 (t := 39) rfl rfl rfl rfl (by kernel_rfl) (by kernel_rfl) (by kernel_rfl) ?_
        refine .rp 39 rfl (by kernel_rfl) (by kernel_rfl) (by kernel_rfl) (Reads.pure (.pickF rfl rfl)) ?_
        refine .done (by kernel_rfl) ⟨rfl, ?_, by repeat (first | exact Le.refl _ | refine Le.skip rfl ?_)⟩
        exact congrArg (fun x => some (Value.bool x)) (Eq.symm (show isSent x y = _ by unfold isSent; (rw [g5_6]) <;> rfl))
    refine .cond rfl (fun h5 => ?_) (fun h5 => ?_)
    · refine .region ?_   -- R6 ref.go:76
      refine .rd (.move rfl) ?_
      refine .rd (.add rfl rfl (by omega) (by omega)) ?_
      refine .rd (.assign rfl) ?_
      refine .nil ?_
      refine .inBlock ?_
      refine .region ?_   -- R4 ref.go:74
      refine .rd (.move rfl) ?_
      refine .rd (.add rfl rfl (by omega) (by omega)) ?_
      refine .rd (.assign rfl) ?_
      refine .nil ?_
      exact (ih (k' + 1) (by omega) (by omega)).to (.cons rfl (.cons rfl (.cons rfl (.cons (by show some (Value.int .i64 _) = some (Value.int .i64 _); rw [sent_yes hy h5]) .nil)))) (.cons .head .nil)
    · refine .skip ?_
      refine .inBlock ?_
      refine .region ?_   -- R4 ref.go:74
      refine .rd (.move rfl) ?_
      refine .rd (.add rfl rfl (by omega) (by omega)) ?_
      refine .rd (.assign rfl) ?_
      refine .nil ?_
      exact (ih (k' + 1) (by omega) (by omega)).to (.cons rfl (.cons rfl (.cons rfl (.cons (by show some (Value.int .i64 _) = some (Value.int .i64 _); rw [sent_no hy h5]) .nil)))) (.cons .head .nil)
  · refine .exit rfl ?_
    refine .seq ?_
    refine .region ?_   -- R7 ref.go:79
    refine .rd (.move rfl) ?_
    refine .rd (.assign rfl) ?_
    refine .nil ?_
    rw [show h.take k' = h from List.take_of_length_le (by omega)]
    refine .retP Try.func42 (.cons (.tmp rfl) .nil) (.cons .head .nil) ?_
    exact ⟨[], ⟨rfl, rfl⟩, rfl⟩

set_option maxRecDepth 20000 in
theorem unsent_ok (a : Option Addr) (n c : Nat) (h : List Sn) (x : Sn) (i : Nat) (hi : h.length = i) (hn : i < n) (hb : n ≤ 1000000) : Cn Try.prog 23 [.slice a n c, .int .i64 (i : Int)] (RowAt a ((h ++ [x]).flatMap Sn.cells)) [] fun v G => v = .bool (unsentB h x) ∧ G = [] := by
  refine .enter Try.func23 rfl (by kernel_rfl) rfl fun R k => ?_
  have hx : (h ++ [x])[i]? = some x := at_last hi
  refine .tell (φ := ∃ b o, a = some ⟨b, o, none⟩) (Knows.pick .head (k.mono fun _ h => RowAt.addr h (by rw [flat_length Sn.cells_len]; simp))) (fun hh => ?_)
  obtain ⟨bb, oo, rfl⟩ := hh
  refine .seq ?_
  refine .region ?_   -- R0 ref.go:82
  refine .rd (.assign rfl) ?_
  refine .nil ?_
  refine .seq ?_
  refine .region ?_   -- R1 ref.go:83
  refine .rd (.move rfl) ?_
  refine .rd (.move rfl) ?_
  refine .rd (.indexAddr Try.underlying22 ts36 rfl rfl (by omega) (by omega)) ?_
  refine .rd (.loadN ia36 ts36 rfl rfl (Knows.elem (f := Sn.cells) Sn.cells_len (by decide) (Knows.pick .head k) hx)) ?_
  refine .fn rfl rfl .nil (fun _ _ _ => trivial) (good_ok x 1 1) (fun v G1 hq => ?_)
  obtain ⟨rfl, rfl⟩ := hq
  simp only [List.nil_append]
  refine .rd (.assign rfl) ?_
  refine .nil ?_
  refine .seq ?_
  refine .region ?_   -- R2 ref.go:84
  refine RunO.join 7 17 (unsentB h x) ?_ ?_
  · refine .rd (.move rfl) ?_
    refine .rd (.move rfl) ?_
    refine .split (t := 12) rfl (fun g2_1 => ?_) (fun g2_1 => ?_)
    · refine .on (t := 12) rfl rfl ?_
      refine .rd (.move rfl) ?_
      refine .on (t := 12) rfl rfl ?_
      refine .rd (.move rfl) ?_
      refine .on (t := 12) rfl rfl ?_
      refine .fn rfl rfl .nil (Knows.pick .head k) (sent_ok _ n c h x i hi hn hb) (fun v G1 hq => ?_)
      obtain ⟨rfl, rfl⟩ := hq
      simp only [List.nil_append]
      refine .on (t := 12) rfl rfl ?_
      refine .rd (.eqI rfl rfl) ?_
      refine .rd (.pickT rfl rfl) ?_
      refine .nil ⟨rfl, ?_, by repeat (first | exact Le.refl _ | refine Le.skip rfl ?_)⟩
      exact congrArg (fun x => some (Value.bool x)) (Eq.symm (show unsentB h x = _ by unfold unsentB; (rw [g2_1]) <;> rfl))
    · refine .off (t := 12) rfl rfl rfl ?_
      refine .off (t := 12) rfl rfl rfl ?_
      refine .off (t := 12) rfl rfl rfl ?_
      refine .off (t := 12) rfl rfl rfl ?_
      refine .rd (.pickF rfl rfl) ?_
      refine .nil ⟨rfl, ?_, by repeat (first | exact Le.refl _ | refine Le.skip rfl ?_)⟩
      exact congrArg (fun x => some (Value.bool x)) (Eq.symm (show unsentB h x = _ by unfold unsentB; (rw [g2_1]) <;> rfl))
  refine .rd (.assign rfl) ?_
  refine .nil ?_
  refine .retP Try.func23 (.cons (.tmp rfl) .nil) (.cons .head .nil) ?_
  exact ⟨[], ⟨rfl, rfl⟩, rfl⟩

set_option maxRecDepth 20000 in
theorem value_ok (a : Option Addr) (n c : Nat) (h : List Sn) (x : Sn) (i : Nat) (hi : h.length = i) (hn : i < n) (hb : n ≤ 1000000) : Cn Try.prog 21 [.slice a n c, .int .i64 (i : Int)] (RowAt a ((h ++ [x]).flatMap Sn.cells)) [] fun v G => v = .bool (valueB h x) ∧ G = [] := by
  refine .enter Try.func21 rfl (by kernel_rfl) rfl fun R k => ?_
  have hx : (h ++ [x])[i]? = some x := at_last hi
  refine .tell (φ := ∃ b o, a = some ⟨b, o, none⟩) (Knows.pick .head (k.mono fun _ h => RowAt.addr h (by rw [flat_length Sn.cells_len]; simp))) (fun hh => ?_)
  obtain ⟨bb, oo, rfl⟩ := hh
  refine .seq ?_
  refine .region ?_   -- R0 ref.go:49
  refine .rd (.assign rfl) ?_
  refine .nil ?_
  refine .seq ?_
  refine .region ?_   -- R1 ref.go:50
  refine .rd (.move rfl) ?_
  refine .rd (.move rfl) ?_
  refine .rd (.indexAddr Try.underlying22 ts36 rfl rfl (by omega) (by omega)) ?_
  refine .rd (.loadN ia36 ts36 rfl rfl (Knows.elem (f := Sn.cells) Sn.cells_len (by decide) (Knows.pick .head k) hx)) ?_
  refine .fn rfl rfl .nil (fun _ _ _ => trivial) (told_ok x) (fun v G1 hq => ?_)
  obtain ⟨rfl, rfl⟩ := hq
  simp only [List.nil_append]
  refine .rd (.assign rfl) ?_
  refine .nil ?_
  refine .seq ?_
  refine .seq ?_
  refine .region ?_   -- R2 ref.go:51
  refine .rd (.assign rfl) ?_
  refine .nil ?_
  refine .block ?_
  refine .loop (σ := Nat) (fun k' => k' ≤ i ∧ ∀ k < k', ∀ y, h[k]? = some y → valueP x y = false) (fun k' => i - k') (fun k' => [(0, .slice (some ⟨bb, oo, none⟩) n c), (1, .int .i64 (i : Int)), (5, .bool (toldB x)), (6, .int .i64 (k' : Nat))]) (fun k' => [R]) 0 ⟨Nat.zero_le _, fun k hk => by omega⟩ (.cons rfl (.cons rfl (.cons rfl (.cons rfl .nil)))) (.cons .head .nil) (fun k' hI ih => ?_)
  have hki := hI.1
  refine .seq ?_
  refine .seq ?_
  refine .region ?_   -- R3 ref.go:51
  refine .rd (.move rfl) ?_
  refine .rd (.move rfl) ?_
  refine .rd (.lt rfl rfl) ?_
  refine .rd (.move rfl) ?_
  refine .split (t := 16) rfl (fun gk => ?_) (fun gk => ?_)
  · replace gk := of_decide_eq_true gk
    refine .on (t := 16) rfl rfl ?_
    refine .rd (.move rfl) ?_
    refine .rd (.pickT rfl rfl) ?_
    refine .nil ?_
    refine .cond rfl (fun hg => ?_) (fun hg => ?_)
    · refine .skip ?_
      refine .seq ?_
      refine .block ?_
      refine .seq ?_
      obtain ⟨y, hy⟩ : ∃ y, h[k']? = some y := ⟨_, List.getElem?_eq_getElem (by omega)⟩
      have hy' := at_left (x := x) (show k' < h.length by omega) hy
      refine .region ?_   -- R5 ref.go:52
      refine .rd (.move rfl) ?_
      refine .rd (.move rfl) ?_
      refine .rd (.indexAddr Try.underlying22 ts36 rfl rfl (by omega) (by omega)) ?_
      refine .rd (.loadN ia36 ts36 rfl rfl (Knows.elem (f := Sn.cells) Sn.cells_len (by decide) (Knows.pick .head k) hy')) ?_
      refine .fn rfl rfl .nil (fun _ _ _ => trivial) (told_ok y) (fun v G1 hq => ?_)
      obtain ⟨rfl, rfl⟩ := hq
      simp only [List.nil_append]
      refine .rd (.assign rfl) ?_
      refine .nil ?_
      refine .seq ?_
      refine .drawsJoin [6, 11, 19, 24, 32, 37] [R] 65 (valueP x y) (by kernel_rfl) ?_ ?_   -- R6 ref.go:53
      · refine .rp 0 rfl (by kernel_rfl) (by kernel_rfl) (by kernel_rfl) (Reads.pure (.move rfl)) ?_
        refine .rp 1 rfl (by kernel_rfl) (by kernel_rfl) (by kernel_rfl) (Reads.pure (.move rfl)) ?_
        refine .split (t := 27) rfl (fun g6_1 => ?_) (fun g6_1 => ?_)
        · refine .rpG 2 (t := 27) rfl rfl rfl (by kernel_rfl) (by kernel_rfl) (by kernel_rfl) (Reads.pure (.move rfl)) ?_
          refine .rpG 3 (t := 27) rfl rfl rfl (by kernel_rfl) (by kernel_rfl) (by kernel_rfl) (Reads.pure (.move rfl)) ?_
          refine .rpG 4 (t := 27) rfl rfl rfl (by kernel_rfl) (by kernel_rfl) (by kernel_rfl) (Reads.pure (.indexAddr Try.underlying22 ts36 rfl rfl (by omega) (by omega))) ?_
          refine .rpG 5 (t := 27) rfl rfl rfl (by kernel_rfl) (by kernel_rfl) (by kernel_rfl) (Reads.pure (.fieldAddr fd36_3 rfl)) ?_
          refine .rdG 6 (t := 27) rfl rfl rfl rfl (by kernel_rfl) (by kernel_rfl) (by kernel_rfl) (.load na3 rfl (Knows.one (i := 3) (Knows.elem (f := Sn.cells) Sn.cells_len (by decide) (Knows.pick .head k) hy') rfl)) (.cons .head .nil) ?_
          refine .rpG 7 (t := 27) rfl rfl rfl (by kernel_rfl) (by kernel_rfl) (by kernel_rfl) (Reads.pure (.move rfl)) ?_
          refine .rpG 8 (t := 27) rfl rfl rfl (by kernel_rfl) (by kernel_rfl) (by kernel_rfl) (Reads.pure (.move rfl)) ?_
          refine .rpG 9 (t := 27) rfl rfl rfl (by kernel_rfl) (by kernel_rfl) (by kernel_rfl) (Reads.pure (.indexAddr Try.underlying22 ts36 rfl rfl (by omega) (by omega))) ?_
          refine .rpG 10 (t := 27) rfl rfl rfl (by kernel_rfl) (by kernel_rfl) (by kernel_rfl) (Reads.pure (.fieldAddr fd36_3 rfl)) ?_
          refine .rdG 11 (t := 27) rfl rfl rfl rfl (by kernel_rfl) (by kernel_rfl) (by kernel_rfl) (.load na3 rfl (Knows.one (i := 3) (Knows.elem (f := Sn.cells) Sn.cells_len (by decide) (Knows.pick .head k) hx) rfl)) (.cons .head .nil) ?_
          refine .rpG 12 (t := 27) rfl rfl rfl (by kernel_rfl) (by kernel_rfl) (by kernel_rfl) (Reads.pure (.eqI rfl rfl)) ?_
          refine .rp 13 rfl (by kernel_rfl) (by kernel_rfl) (by kernel_rfl) (Reads.pure (.pickT rfl rfl)) ?_
          refine .rp 14 rfl (by kernel_rfl) (by kernel_rfl) (by kernel_rfl) (Reads.pure (.move rfl)) ?_
          refine .split (t := 40) rfl (fun g6_14 => ?_) (fun g6_14 => ?_)
          · replace g6_14 := of_decide_eq_true g6_14
            refine .rpG 15 (t := 40) rfl rfl rfl (by kernel_rfl) (by kernel_rfl) (by kernel_rfl) (Reads.pure (.move rfl)) ?_
            refine .rpG 16 (t := 40) rfl rfl rfl (by kernel_rfl) (by kernel_rfl) (by kernel_rfl) (Reads.pure (.move rfl)) ?_
            refine .rpG 17 (t := 40) rfl rfl rfl (by kernel_rfl) (by kernel_rfl) (by kernel_rfl) (Reads.pure (.indexAddr Try.underlying22 ts36 rfl rfl (by omega) (by omega))) ?_
            refine .rpG 18 (t := 40) rfl rfl rfl (by kernel_rfl) (by kernel_rfl) (by kernel_rfl) (Reads.pure (.fieldAddr fd36_4 rfl)) ?_
            refine .rdG 19 (t := 40) rfl rfl rfl rfl (by kernel_rfl) (by kernel_rfl) (by kernel_rfl) (.load na3 rfl (Knows.one (i := 4) (Knows.elem (f := Sn.cells) Sn.cells_len (by decide) (Knows.pick .head k) hy') rfl)) (.cons .head .nil) ?_
            refine .rpG 20 (t := 40) rfl rfl rfl (by kernel_rfl) (by kernel_rfl) (by kernel_rfl) (Reads.pure (.move rfl)) ?_
            refine .rpG 21 (t := 40) rfl rfl rfl (by kernel_rfl) (by kernel_rfl) (by kernel_rfl) (Reads.pure (.move rfl)) ?_
            refine .rpG 22 (t := 40) rfl rfl rfl (by kernel_rfl) (by kernel_rfl) (by kernel_rfl) (Reads.pure (.indexAddr Try.underlying22 ts36 rfl rfl (by omega) (by omega))) ?_
            refine .rpG 23 (t := 40) rfl rfl rfl (by kernel_rfl) (by kernel_rfl) (by kernel_rfl) (Reads.pure (.fieldAddr fd36_4 rfl)) ?_
            refine .rdG 24 (t := 40) rfl rfl rfl rfl (by kernel_rfl) (by kernel_rfl) (by kernel_rfl) (.load na3 rfl (Knows.one (i := 4) (Knows.elem (f := Sn.cells) Sn.cells_len (by decide) (Knows.pick .head k) hx) rfl)) (.cons .head .nil) ?_
            refine .rpG 25 (t := 40) rfl rfl rfl (by kernel_rfl) (by kernel_rfl) (by kernel_rfl) (Reads.pure (.eqI rfl rfl)) ?_
            refine .rp 26 rfl (by kernel_rfl) (by kernel_rfl) (by kernel_rfl) (Reads.pure (.pickT rfl rfl)) ?_
            refine .rp 27 rfl (by kernel_rfl) (by kernel_rfl) (by kernel_rfl) (Reads.pure (.move rfl)) ?_
            refine .split (t := 53) rfl (fun g6_27 => ?_) (fun g6_27 => ?_)
            · replace g6_27 := of_decide_eq_true g6_27
              refine .rpG 28 (t := 53) rfl rfl rfl (by kernel_rfl) (by kernel_rfl) (by kernel_rfl) (Reads.pure (.move rfl)) ?_
              refine .rpG 29 (t := 53) rfl rfl rfl (by kernel_rfl) (by kernel_rfl) (by kernel_rfl) (Reads.pure (.move rfl)) ?_
              refine .rpG 30 (t := 53) rfl rfl rfl (by kernel_rfl) (by kernel_rfl) (by kernel_rfl) (Reads.pure (.indexAddr Try.underlying22 ts36 rfl rfl (by omega) (by omega))) ?_
              refine .rpG 31 (t := 53) rfl rfl rfl (by kernel_rfl) (by kernel_rfl) (by kernel_rfl) (Reads.pure (.fieldAddr fd36_9 rfl)) ?_
              refine .rdG 32 (t := 53) rfl rfl rfl rfl (by kernel_rfl) (by kernel_rfl) (by kernel_rfl) (.load na9 rfl (Knows.one (i := 9) (Knows.elem (f := Sn.cells) Sn.cells_len (by decide) (Knows.pick .head k) hy') rfl)) (.cons .head .nil) ?_
              refine .rpG 33 (t := 53) rfl rfl rfl (by kernel_rfl) (by kernel_rfl) (by kernel_rfl) (Reads.pure (.move rfl)) ?_
              refine .rpG 34 (t := 53) rfl rfl rfl (by kernel_rfl) (by kernel_rfl) (by kernel_rfl) (Reads.pure (.move rfl)) ?_
              refine .rpG 35 (t := 53) rfl rfl rfl (by kernel_rfl) (by kernel_rfl) (by kernel_rfl) (Reads.pure (.indexAddr Try.underlying22 ts36 rfl rfl (by omega) (by omega))) ?_
              refine .rpG 36 (t := 53) rfl rfl rfl (by kernel_rfl) (by kernel_rfl) (by kernel_rfl) (Reads.pure (.fieldAddr fd36_9 rfl)) ?_
              refine .rdG 37 (t := 53) rfl rfl rfl rfl (by kernel_rfl) (by kernel_rfl) (by kernel_rfl) (.load na9 rfl (Knows.one (i := 9) (Knows.elem (f := Sn.cells) Sn.cells_len (by decide) (Knows.pick .head k) hx) rfl)) (.cons .head .nil) ?_
              refine .rpG 38 (t := 53) rfl rfl rfl (by kernel_rfl) (by kernel_rfl) (by kernel_rfl) (Reads.pure (.neT rfl rfl)) ?_
              refine .rp 39 rfl (by kernel_rfl) (by kernel_rfl) (by kernel_rfl) (Reads.pure (.pickT rfl rfl)) ?_
              refine .done (by kernel_rfl) ⟨rfl, ?_, by repeat (first | exact Le.refl _ | refine Le.skip rfl ?_)⟩
              exact congrArg (fun x => some (Value.bool x)) (Eq.symm (show valueP x y = _ by unfold valueP; (rw [g6_1, decide_eq_true g6_14, decide_eq_true g6_27]) <;> rfl))
            · replace g6_27 := of_decide_eq_false g6_27
              refine .off 28 (t := 53) rfl rfl rfl rfl (by kernel_rfl) (by kernel_rfl) (by kernel_rfl) ?_
              refine .off 29 (t := 53) rfl rfl rfl rfl (by kernel_rfl) (by kernel_rfl) (by kernel_rfl) ?_
              refine .off 30 (t := 53) rfl rfl rfl rfl (by kernel_rfl) (by kernel_rfl) (by kernel_rfl) ?_
              refine .off 31 (t := 53) rfl rfl rfl rfl (by kernel_rfl) (by kernel_rfl) (by kernel_rfl) ?_
              refine .off 32 (t := 53) rfl rfl rfl rfl (by kernel_rfl) (by kernel_rfl) (by kernel_rfl) ?_
              refine .off 33 (t := 53) rfl rfl rfl rfl (by kernel_rfl) (by kernel_rfl) (by kernel_rfl) ?_
              refine .off 34 (t := 53) rfl rfl rfl rfl (by kernel_rfl) (by kernel_rfl) (by kernel_rfl) ?_
              refine .off 35 (t := 53) rfl rfl rfl rfl (by kernel_rfl) (by kernel_rfl) (by kernel_rfl) ?_
              refine .off 36 (t := 53) rfl rfl rfl rfl (by kernel_rfl) (by kernel_rfl) (by kernel_rfl) ?_
              refine .off 37 (t := 53) rfl rfl rfl rfl (by kernel_rfl) (by kernel_rfl) (by kernel_rfl) ?_
              refine .off 38 (t := 53) rfl rfl rfl rfl (by kernel_rfl) (by kernel_rfl) (by kernel_rfl) ?_
              refine .rp 39 rfl (by kernel_rfl) (by kernel_rfl) (by kernel_rfl) (Reads.pure (.pickF rfl rfl)) ?_
              refine .done (by kernel_rfl) ⟨rfl, ?_, by repeat (first | exact Le.refl _ | refine Le.skip rfl ?_)⟩
              exact congrArg (fun x => some (Value.bool x)) (Eq.symm (show valueP x y = _ by unfold valueP; (rw [g6_1, decide_eq_true g6_14, decide_eq_false g6_27]) <;> rfl))
          · replace g6_14 := of_decide_eq_false g6_14
            refine .off 15 (t := 40) rfl rfl rfl rfl (by kernel_rfl) (by kernel_rfl) (by kernel_rfl) ?_
            refine .off 16 (t := 40) rfl rfl rfl rfl (by kernel_rfl) (by kernel_rfl) (by kernel_rfl) ?_
            refine .off 17 (t := 40) rfl rfl rfl rfl (by kernel_rfl) (by kernel_rfl) (by kernel_rfl) ?_
            refine .off 18 (t := 40) rfl rfl rfl rfl (by kernel_rfl) (by kernel_rfl) (by kernel_rfl) ?_
            refine .off 19 (t := 40) rfl rfl rfl rfl (by kernel_rfl) (by kernel_rfl) (by kernel_rfl) ?_
            refine .off 20 (t := 40) rfl rfl rfl rfl (by kernel_rfl) (by kernel_rfl) (by kernel_rfl) ?_
            refine .off 21 (t := 40) rfl rfl rfl rfl (by kernel_rfl) (by kernel_rfl) (by kernel_rfl) ?_
            refine .off 22 (t := 40) rfl rfl rfl rfl (by kernel_rfl) (by kernel_rfl) (by kernel_rfl) ?_
            refine .off 23 (t := 40) rfl rfl rfl rfl (by kernel_rfl) (by kernel_rfl) (by kernel_rfl) ?_
            refine .off 24 (t := 40) rfl rfl rfl rfl (by kernel_rfl) (by kernel_rfl) (by kernel_rfl) ?_
            refine .off 25 (t := 40) rfl rfl rfl rfl (by kernel_rfl) (by kernel_rfl) (by kernel_rfl) ?_
            refine .rp 26 rfl (by kernel_rfl) (by kernel_rfl) (by kernel_rfl) (Reads.pure (.pickF rfl rfl)) ?_
            refine .rp 27 rfl (by kernel_rfl) (by kernel_rfl) (by kernel_rfl) (Reads.pure (.move rfl)) ?_
            refine .off 28 (t := 53) rfl rfl rfl rfl (by kernel_rfl) (by kernel_rfl) (by kernel_rfl) ?_
            refine .off 29 (t := 53) rfl rfl rfl rfl (by kernel_rfl) (by kernel_rfl) (by kernel_rfl) ?_
            refine .off 30 (t := 53) rfl rfl rfl rfl (by kernel_rfl) (by kernel_rfl) (by kernel_rfl) ?_
            refine .off 31 (t := 53) rfl rfl rfl rfl (by kernel_rfl) (by kernel_rfl) (by kernel_rfl) ?_
            refine .off 32 (t := 53) rfl rfl rfl rfl (by kernel_rfl) (by kernel_rfl) (by kernel_rfl) ?_
            refine .off 33 (t := 53) rfl rfl rfl rfl (by kernel_rfl) (by kernel_rfl) (by kernel_rfl) ?_
            refine .off 34 (t := 53) rfl rfl rfl rfl (by kernel_rfl) (by kernel_rfl) (by kernel_rfl) ?_
            refine .off 35 (t := 53) rfl rfl rfl rfl (by kernel_rfl) (by kernel_rfl) (by kernel_rfl) ?_
            refine .off 36 (t := 53) rfl rfl rfl rfl (by kernel_rfl) (by kernel_rfl) (by kernel_rfl) ?_
            refine .off 37 (t := 53) rfl rfl rfl rfl (by kernel_rfl) (by kernel_rfl) (by kernel_rfl) ?_
            refine .off 38 (t := 53) rfl rfl rfl rfl (by kernel_rfl) (by kernel_rfl) (by kernel_rfl) ?_
            refine .rp 39 rfl (by kernel_rfl) (by kernel_rfl) (by kernel_rfl) (Reads.pure (.pickF rfl rfl)) ?_
            refine .done (by kernel_rfl) ⟨rfl, ?_, by repeat (first | exact Le.refl _ | refine Le.skip rfl ?_)⟩
            exact congrArg (fun x => some (Value.bool x)) (Eq.symm (show valueP x y = _ by unfold valueP; (rw [g6_1, decide_eq_false g6_14]) <;> rfl))
        · refine .off 2 (t := 27) rfl rfl rfl rfl (by kernel_rfl) (by kernel_rfl) (by kernel_rfl) ?_
          refine .off 3 (t := 27) rfl rfl rfl rfl (by kernel_rfl) (by kernel_rfl) (by kernel_rfl) ?_
          refine .off 4 (t := 27) rfl rfl rfl rfl (by kernel_rfl) (by kernel_rfl) (by kernel_rfl) ?_
          refine .off 5 (t := 27) rfl rfl rfl rfl (by kernel_rfl) (by kernel_rfl) (by kernel_rfl) ?_
          refine .off 6 (t := 27) rfl rfl rfl rfl (by kernel_rfl) (by kernel_rfl) (by kernel_rfl) ?_
          refine .off 7 (t := 27) rfl rfl rfl rfl (by kernel_rfl) (by kernel_rfl) (by kernel_rfl) ?_
          refine .off 8 (t := 27) rfl rfl rfl rfl (by kernel_rfl) (by kernel_rfl) (by kernel_rfl) ?_
          refine .off 9 (t := 27) rfl rfl rfl rfl (by kernel_rfl) (by kernel_rfl) (by kernel_rfl) ?_
          refine .off 10 (t := 27) rfl rfl rfl rfl (by kernel_rfl) (by kernel_rfl) (by kernel_rfl) ?_
          refine .off 11 (t := 27) rfl rfl rfl rfl (by kernel_rfl) (by kernel_rfl) (by kernel_rfl) ?_
          refine .off 12 (t := 27) rfl rfl rfl rfl (by kernel_rfl) (by kernel_rfl) (by kernel_rfl) ?_
          refine .rp 13 rfl (by kernel_rfl) (by kernel_rfl) (by kernel_rfl) (Reads.pure (.pickF rfl rfl)) ?_
          refine .rp 14 rfl (by kernel_rfl) (by kernel_rfl) (by kernel_rfl) (Reads.pure (.move rfl)) ?_
          refine .off 15 (t := 40) rfl rfl rfl rfl (by kernel_rfl) (by kernel_rfl) (by kernel_rfl) ?_
          refine .off 16 (t := 40) rfl rfl rfl rfl (by kernel_rfl) (by kernel_rfl) (by kernel_rfl) ?_
          refine .off 17 (t := 40) rfl rfl rfl rfl (by kernel_rfl) (by kernel_rfl) (by kernel_rfl) ?_
          refine .off 18 (t := 40) rfl rfl rfl rfl (by kernel_rfl) (by kernel_rfl) (by kernel_rfl) ?_
          refine .off 19 (t := 40) rfl rfl rfl rfl (by kernel_rfl) (by kernel_rfl) (by kernel_rfl) ?_
          refine .off 20 (t := 40) rfl rfl rfl rfl (by kernel_rfl) (by kernel_rfl) (by kernel_rfl) ?_
          refine .off 21 (t := 40) rfl rfl rfl rfl (by kernel_rfl) (by kernel_rfl) (by kernel_rfl) ?_
          refine .off 22 (t := 40) rfl rfl rfl rfl (by kernel_rfl) (by kernel_rfl) (by kernel_rfl) ?_
          refine .off 23 (t := 40) rfl rfl rfl rfl (by kernel_rfl) (by kernel_rfl) (by kernel_rfl) ?_
          refine .off 24 (t := 40) rfl rfl rfl rfl (by kernel_rfl) (by kernel_rfl) (by kernel_rfl) ?_
          refine .off 25 (t := 40) rfl rfl rfl rfl (by kernel_rfl) (by kernel_rfl) (by kernel_rfl) ?_
          refine .rp 26 rfl (by kernel_rfl) (by kernel_rfl) (by kernel_rfl) (Reads.pure (.pickF rfl rfl)) ?_
          refine .rp 27 rfl (by kernel_rfl) (by kernel_rfl) (by kernel_rfl) (Reads.pure (.move rfl)) ?_
          refine .off 28 (t := 53) rfl rfl rfl rfl (by kernel_rfl) (by kernel_rfl) (by kernel_rfl) ?_
          refine .off 29 (t := 53) rfl rfl rfl rfl (by kernel_rfl) (by kernel_rfl) (by kernel_rfl) ?_
          refine .off 30 (t := 53) rfl rfl rfl rfl (by kernel_rfl) (by kernel_rfl) (by kernel_rfl) ?_
          refine .off 31 (t := 53) rfl rfl rfl rfl (by kernel_rfl) (by kernel_rfl) (by kernel_rfl) ?_
          refine .off 32 (t := 53) rfl rfl rfl rfl (by kernel_rfl) (by kernel_rfl) (by kernel_rfl) ?_
          refine .off 33 (t := 53) rfl rfl rfl rfl (by kernel_rfl) (by kernel_rfl) (by kernel_rfl) ?_
          refine .off 34 (t := 53) rfl rfl rfl rfl (by kernel_rfl) (by kernel_rfl) (by kernel_rfl) ?_
          refine .off 35 (t := 53) rfl rfl rfl rfl (by kernel_rfl) (by kernel_rfl) (by kernel_rfl) ?_
          refine .off 36 (t := 53) rfl rfl rfl rfl (by kernel_rfl) (by kernel_rfl) (by kernel_rfl) ?_
          refine .off 37 (t := 53) rfl rfl rfl rfl (by kernel_rfl) (by kernel_rfl) (by kernel_rfl) ?_
          refine .off 38 (t := 53) rfl rfl rfl rfl (by kernel_rfl) (by kernel_rfl) (by kernel_rfl) ?_
          refine .rp 39 rfl (by kernel_rfl) (by kernel_rfl) (by kernel_rfl) (Reads.pure (.pickF rfl rfl)) ?_
          refine .done (by kernel_rfl) ⟨rfl, ?_, by repeat (first | exact Le.refl _ | refine Le.skip rfl ?_)⟩
          exact congrArg (fun x => some (Value.bool x)) (Eq.symm (show valueP x y = _ by unfold valueP; (rw [g6_1]) <;> rfl))
      refine .cond rfl (fun hP => ?_) (fun hP => ?_)
      · refine .seq ?_
        refine .region ?_   -- R7 ref.go:54
        refine .rd (.assign rfl) ?_
        refine .nil ?_
        have hv : valueB h x = true := by unfold valueB; rw [hg, any_hit hy hP]; rfl
        rw [hv]
        refine .retP Try.func21 (.cons (.tmp rfl) .nil) (.cons .head .nil) ?_
        exact ⟨[], ⟨rfl, rfl⟩, rfl⟩
      · refine .skip ?_
        refine .inBlock ?_
        refine .region ?_   -- R4 ref.go:51
        refine .rd (.move rfl) ?_
        refine .rd (.add rfl rfl (by omega) (by omega)) ?_
        refine .rd (.assign rfl) ?_
        refine .nil ?_
        exact (ih (k' + 1) ⟨by omega, upto_next hI.2 hy (by simpa using hP)⟩ (by omega)).to (.cons rfl (.cons rfl (.cons rfl (.cons rfl .nil)))) (.cons .head .nil)
    · refine .exit rfl ?_
      refine .seq ?_
      refine .region ?_   -- R8 ref.go:57
      refine .rd (.assign rfl) ?_
      refine .nil ?_
      have hv : valueB h x = false := by unfold valueB; rw [hg]; rfl
      rw [hv]
      refine .retP Try.func21 (.cons (.tmp rfl) .nil) (.cons .head .nil) ?_
      exact ⟨[], ⟨rfl, rfl⟩, rfl⟩
  · replace gk := of_decide_eq_false gk
    refine .off (t := 16) rfl rfl rfl ?_
    refine .rd (.pickF rfl rfl) ?_
    refine .nil ?_
    refine .condF rfl ?_
    refine .exit rfl ?_
    refine .seq ?_
    refine .region ?_   -- R8 ref.go:57
    refine .rd (.assign rfl) ?_
    refine .nil ?_
    have hv : valueB h x = false := by unfold valueB; rw [any_miss (n := k') (by omega) hI.2]; exact Bool.and_false _
    rw [hv]
    refine .retP Try.func21 (.cons (.tmp rfl) .nil) (.cons .head .nil) ?_
    exact ⟨[], ⟨rfl, rfl⟩, rfl⟩

set_option maxRecDepth 20000 in
theorem offset_ok (a : Option Addr) (n c : Nat) (h : List Sn) (x : Sn) (i : Nat) (hi : h.length = i) (hn : i < n) (hb : n ≤ 1000000) : Cn Try.prog 22 [.slice a n c, .int .i64 (i : Int)] (RowAt a ((h ++ [x]).flatMap Sn.cells)) [] fun v G => v = .bool (offsetB h x) ∧ G = [] := by
  refine .enter Try.func22 rfl (by kernel_rfl) rfl fun R k => ?_
  have hx : (h ++ [x])[i]? = some x := at_last hi
  refine .tell (φ := ∃ b o, a = some ⟨b, o, none⟩) (Knows.pick .head (k.mono fun _ h => RowAt.addr h (by rw [flat_length Sn.cells_len]; simp))) (fun hh => ?_)
  obtain ⟨bb, oo, rfl⟩ := hh
  refine .seq ?_
  refine .region ?_   -- R0 ref.go:60
  refine .rd (.assign rfl) ?_
  refine .nil ?_
  refine .seq ?_
  refine .region ?_   -- R1 ref.go:61
  refine .rd (.move rfl) ?_
  refine .rd (.move rfl) ?_
  refine .rd (.indexAddr Try.underlying22 ts36 rfl rfl (by omega) (by omega)) ?_
  refine .rd (.loadN ia36 ts36 rfl rfl (Knows.elem (f := Sn.cells) Sn.cells_len (by decide) (Knows.pick .head k) hx)) ?_
  refine .fn rfl rfl .nil (fun _ _ _ => trivial) (good_ok x 10 10) (fun v G1 hq => ?_)
  obtain ⟨rfl, rfl⟩ := hq
  simp only [List.nil_append]
  refine .rd (.assign rfl) ?_
  refine .nil ?_
  refine .seq ?_
  refine .seq ?_
  refine .region ?_   -- R2 ref.go:62
  refine .rd (.assign rfl) ?_
  refine .nil ?_
  refine .block ?_
  refine .loop (σ := Nat) (fun k' => k' ≤ i ∧ ∀ k < k', ∀ y, h[k]? = some y → offsetP x y = false) (fun k' => i - k') (fun k' => [(0, .slice (some ⟨bb, oo, none⟩) n c), (1, .int .i64 (i : Int)), (5, .bool (goodB x 10 10)), (6, .int .i64 (k' : Nat))]) (fun k' => [R]) 0 ⟨Nat.zero_le _, fun k hk => by omega⟩ (.cons rfl (.cons rfl (.cons rfl (.cons rfl .nil)))) (.cons .head .nil) (fun k' hI ih => ?_)
  have hki := hI.1
  refine .seq ?_
  refine .seq ?_
  refine .region ?_   -- R3 ref.go:62
  refine .rd (.move rfl) ?_
  refine .rd (.move rfl) ?_
  refine .rd (.lt rfl rfl) ?_
  refine .rd (.move rfl) ?_
  refine .split (t := 16) rfl (fun gk => ?_) (fun gk => ?_)
  · replace gk := of_decide_eq_true gk
    refine .on (t := 16) rfl rfl ?_
    refine .rd (.move rfl) ?_
    refine .rd (.pickT rfl rfl) ?_
    refine .nil ?_
    refine .cond rfl (fun hg => ?_) (fun hg => ?_)
    · refine .skip ?_
      refine .seq ?_
      refine .block ?_
      refine .seq ?_
      obtain ⟨y, hy⟩ : ∃ y, h[k']? = some y := ⟨_, List.getElem?_eq_getElem (by omega)⟩
      have hy' := at_left (x := x) (show k' < h.length by omega) hy
      refine .region ?_   -- R5 ref.go:63
      refine .rd (.move rfl) ?_
      refine .rd (.move rfl) ?_
      refine .rd (.indexAddr Try.underlying22 ts36 rfl rfl (by omega) (by omega)) ?_
      refine .rd (.loadN ia36 ts36 rfl rfl (Knows.elem (f := Sn.cells) Sn.cells_len (by decide) (Knows.pick .head k) hy')) ?_
      refine .fn rfl rfl .nil (fun _ _ _ => trivial) (good_ok y 10 10) (fun v G1 hq => ?_)
      obtain ⟨rfl, rfl⟩ := hq
      simp only [List.nil_append]
      refine .rd (.assign rfl) ?_
      refine .nil ?_
      refine .seq ?_
      refine .drawsJoin [6, 11, 19, 24] [R] 52 (offsetP x y) (by kernel_rfl) ?_ ?_   -- R6 ref.go:64
      · refine .rp 0 rfl (by kernel_rfl) (by kernel_rfl) (by kernel_rfl) (Reads.pure (.move rfl)) ?_
        refine .rp 1 rfl (by kernel_rfl) (by kernel_rfl) (by kernel_rfl) (Reads.pure (.move rfl)) ?_
        refine .split (t := 27) rfl (fun g6_1 => ?_) (fun g6_1 => ?_)
        · refine .rpG 2 (t := 27) rfl rfl rfl (by kernel_rfl) (by kernel_rfl) (by kernel_rfl) (Reads.pure (.move rfl)) ?_
          refine .rpG 3 (t := 27) rfl rfl rfl (by kernel_rfl) (by kernel_rfl) (by kernel_rfl) (Reads.pure (.move rfl)) ?_
          refine .rpG 4 (t := 27) rfl rfl rfl (by kernel_rfl) (by kernel_rfl) (by kernel_rfl) (Reads.pure (.indexAddr Try.underlying22 ts36 rfl rfl (by omega) (by omega))) ?_
          refine .rpG 5 (t := 27) rfl rfl rfl (by kernel_rfl) (by kernel_rfl) (by kernel_rfl) (Reads.pure (.fieldAddr fd36_3 rfl)) ?_
          refine .rdG 6 (t := 27) rfl rfl rfl rfl (by kernel_rfl) (by kernel_rfl) (by kernel_rfl) (.load na3 rfl (Knows.one (i := 3) (Knows.elem (f := Sn.cells) Sn.cells_len (by decide) (Knows.pick .head k) hy') rfl)) (.cons .head .nil) ?_
          refine .rpG 7 (t := 27) rfl rfl rfl (by kernel_rfl) (by kernel_rfl) (by kernel_rfl) (Reads.pure (.move rfl)) ?_
          refine .rpG 8 (t := 27) rfl rfl rfl (by kernel_rfl) (by kernel_rfl) (by kernel_rfl) (Reads.pure (.move rfl)) ?_
          refine .rpG 9 (t := 27) rfl rfl rfl (by kernel_rfl) (by kernel_rfl) (by kernel_rfl) (Reads.pure (.indexAddr Try.underlying22 ts36 rfl rfl (by omega) (by omega))) ?_
          refine .rpG 10 (t := 27) rfl rfl rfl (by kernel_rfl) (by kernel_rfl) (by kernel_rfl) (Reads.pure (.fieldAddr fd36_3 rfl)) ?_
          refine .rdG 11 (t := 27) rfl rfl rfl rfl (by kernel_rfl) (by kernel_rfl) (by kernel_rfl) (.load na3 rfl (Knows.one (i := 3) (Knows.elem (f := Sn.cells) Sn.cells_len (by decide) (Knows.pick .head k) hx) rfl)) (.cons .head .nil) ?_
          refine .rpG 12 (t := 27) rfl rfl rfl (by kernel_rfl) (by kernel_rfl) (by kernel_rfl) (Reads.pure (.eqI rfl rfl)) ?_
          refine .rp 13 rfl (by kernel_rfl) (by kernel_rfl) (by kernel_rfl) (Reads.pure (.pickT rfl rfl)) ?_
          refine .rp 14 rfl (by kernel_rfl) (by kernel_rfl) (by kernel_rfl) (Reads.pure (.move rfl)) ?_
          refine .split (t := 40) rfl (fun g6_14 => ?_) (fun g6_14 => ?_)
          · replace g6_14 := of_decide_eq_true g6_14
            refine .rpG 15 (t := 40) rfl rfl rfl (by kernel_rfl) (by kernel_rfl) (by kernel_rfl) (Reads.pure (.move rfl)) ?_
            refine .rpG 16 (t := 40) rfl rfl rfl (by kernel_rfl) (by kernel_rfl) (by kernel_rfl) (Reads.pure (.move rfl)) ?_
            refine .rpG 17 (t := 40) rfl rfl rfl (by kernel_rfl) (by kernel_rfl) (by kernel_rfl) (Reads.pure (.indexAddr Try.underlying22 ts36 rfl rfl (by omega) (by omega))) ?_
            refine .rpG 18 (t := 40) rfl rfl rfl (by kernel_rfl) (by kernel_rfl) (by kernel_rfl) (Reads.pure (.fieldAddr fd36_4 rfl)) ?_
            refine .rdG 19 (t := 40) rfl rfl rfl rfl (by kernel_rfl) (by kernel_rfl) (by kernel_rfl) (.load na3 rfl (Knows.one (i := 4) (Knows.elem (f := Sn.cells) Sn.cells_len (by decide) (Knows.pick .head k) hy') rfl)) (.cons .head .nil) ?_
            refine .rpG 20 (t := 40) rfl rfl rfl (by kernel_rfl) (by kernel_rfl) (by kernel_rfl) (Reads.pure (.move rfl)) ?_
            refine .rpG 21 (t := 40) rfl rfl rfl (by kernel_rfl) (by kernel_rfl) (by kernel_rfl) (Reads.pure (.move rfl)) ?_
            refine .rpG 22 (t := 40) rfl rfl rfl (by kernel_rfl) (by kernel_rfl) (by kernel_rfl) (Reads.pure (.indexAddr Try.underlying22 ts36 rfl rfl (by omega) (by omega))) ?_
            refine .rpG 23 (t := 40) rfl rfl rfl (by kernel_rfl) (by kernel_rfl) (by kernel_rfl) (Reads.pure (.fieldAddr fd36_4 rfl)) ?_
            refine .rdG 24 (t := 40) rfl rfl rfl rfl (by kernel_rfl) (by kernel_rfl) (by kernel_rfl) (.load na3 rfl (Knows.one (i := 4) (Knows.elem (f := Sn.cells) Sn.cells_len (by decide) (Knows.pick .head k) hx) rfl)) (.cons .head .nil) ?_
            refine .rpG 25 (t := 40) rfl rfl rfl (by kernel_rfl) (by kernel_rfl) (by kernel_rfl) (Reads.pure (.eqI rfl rfl)) ?_
            refine .rp 26 rfl (by kernel_rfl) (by kernel_rfl) (by kernel_rfl) (Reads.pure (.pickT rfl rfl)) ?_
            refine .done (by kernel_rfl) ⟨rfl, ?_, by repeat (first | exact Le.refl _ | refine Le.skip rfl ?_)⟩
            exact congrArg (fun x => some (Value.bool x)) (Eq.symm (show offsetP x y = _ by unfold offsetP; (rw [g6_1, decide_eq_true g6_14]) <;> rfl))
          · replace g6_14 := of_decide_eq_false g6_14
            refine .off 15 (t := 40) rfl rfl rfl rfl (by kernel_rfl) (by kernel_rfl) (by kernel_rfl) ?_
            refine .off 16 (t := 40) rfl rfl rfl rfl (by kernel_rfl) (by kernel_rfl) (by kernel_rfl) ?_
            refine .off 17 (t := 40) rfl rfl rfl rfl (by kernel_rfl) (by kernel_rfl) (by kernel_rfl) ?_
            refine .off 18 (t := 40) rfl rfl rfl rfl (by kernel_rfl) (by kernel_rfl) (by kernel_rfl) ?_
            refine .off 19 (t := 40) rfl rfl rfl rfl (by kernel_rfl) (by kernel_rfl) (by kernel_rfl) ?_
            refine .off 20 (t := 40) rfl rfl rfl rfl (by kernel_rfl) (by kernel_rfl) (by kernel_rfl) ?_
            refine .off 21 (t := 40) rfl rfl rfl rfl (by kernel_rfl) (by kernel_rfl) (by kernel_rfl) ?_
            refine .off 22 (t := 40) rfl rfl rfl rfl (by kernel_rfl) (by kernel_rfl) (by kernel_rfl) ?_
            refine .off 23 (t := 40) rfl rfl rfl rfl (by kernel_rfl) (by kernel_rfl) (by kernel_rfl) ?_
            refine .off 24 (t := 40) rfl rfl rfl rfl (by kernel_rfl) (by kernel_rfl) (by kernel_rfl) ?_
            refine .off 25 (t := 40) rfl rfl rfl rfl (by kernel_rfl) (by kernel_rfl) (by kernel_rfl) ?_
            refine .rp 26 rfl (by kernel_rfl) (by kernel_rfl) (by kernel_rfl) (Reads.pure (.pickF rfl rfl)) ?_
            refine .done (by kernel_rfl) ⟨rfl, ?_, by repeat (first | exact Le.refl _ | refine Le.skip rfl ?_)⟩
            exact congrArg (fun x => some (Value.bool x)) (Eq.symm (show offsetP x y = _ by unfold offsetP; (rw [g6_1, decide_eq_false g6_14]) <;> rfl))
        · refine .off 2 (t := 27) rfl rfl rfl rfl (by kernel_rfl) (by kernel_rfl) (by kernel_rfl) ?_
          refine .off 3 (t := 27) rfl rfl rfl rfl (by kernel_rfl) (by kernel_rfl) (by kernel_rfl) ?_
          refine .off 4 (t := 27) rfl rfl rfl rfl (by kernel_rfl) (by kernel_rfl) (by kernel_rfl) ?_
          refine .off 5 (t := 27) rfl rfl rfl rfl (by kernel_rfl) (by kernel_rfl) (by kernel_rfl) ?_
          refine .off 6 (t := 27) rfl rfl rfl rfl (by kernel_rfl) (by kernel_rfl) (by kernel_rfl) ?_
          refine .off 7 (t := 27) rfl rfl rfl rfl (by kernel_rfl) (by kernel_rfl) (by kernel_rfl) ?_
          refine .off 8 (t := 27) rfl rfl rfl rfl (by kernel_rfl) (by kernel_rfl) (by kernel_rfl) ?_
          refine .off 9 (t := 27) rfl rfl rfl rfl (by kernel_rfl) (by kernel_rfl) (by kernel_rfl) ?_
          refine .off 10 (t := 27) rfl rfl rfl rfl (by kernel_rfl) (by kernel_rfl) (by kernel_rfl) ?_
          refine .off 11 (t := 27) rfl rfl rfl rfl (by kernel_rfl) (by kernel_rfl) (by kernel_rfl) ?_
          refine .off 12 (t := 27) rfl rfl rfl rfl (by kernel_rfl) (by kernel_rfl) (by kernel_rfl) ?_
          refine .rp 13 rfl (by kernel_rfl) (by kernel_rfl) (by kernel_rfl) (Reads.pure (.pickF rfl rfl)) ?_
          refine .rp 14 rfl (by kernel_rfl) (by kernel_rfl) (by kernel_rfl) (Reads.pure (.move rfl)) ?_
          refine .off 15 (t := 40) rfl rfl rfl rfl (by kernel_rfl) (by kernel_rfl) (by kernel_rfl) ?_
          refine .off 16 (t := 40) rfl rfl rfl rfl (by kernel_rfl) (by kernel_rfl) (by kernel_rfl) ?_
          refine .off 17 (t := 40) rfl rfl rfl rfl (by kernel_rfl) (by kernel_rfl) (by kernel_rfl) ?_
          refine .off 18 (t := 40) rfl rfl rfl rfl (by kernel_rfl) (by kernel_rfl) (by kernel_rfl) ?_
          refine .off 19 (t := 40) rfl rfl rfl rfl (by kernel_rfl) (by kernel_rfl) (by kernel_rfl) ?_
          refine .off 20 (t := 40) rfl rfl rfl rfl (by kernel_rfl) (by kernel_rfl) (by kernel_rfl) ?_
          refine .off 21 (t := 40) rfl rfl rfl rfl (by kernel_rfl) (by kernel_rfl) (by kernel_rfl) ?_
          refine .off 22 (t := 40) rfl rfl rfl rfl (by kernel_rfl) (by kernel_rfl) (by kernel_rfl) ?_
          refine .off 23 (t := 40) rfl rfl rfl rfl (by kernel_rfl) (by kernel_rfl) (by kernel_rfl) ?_
          refine .off 24 (t := 40) rfl rfl rfl rfl (by kernel_rfl) (by kernel_rfl) (by kernel_rfl) ?_
          refine .off 25 (t := 40) rfl rfl rfl rfl (by kernel_rfl) (by kernel_rfl) (by kernel_rfl) ?_
          refine .rp 26 rfl (by kernel_rfl) (by kernel_rfl) (by kernel_rfl) (Reads.pure (.pickF rfl rfl)) ?_
          refine .done (by kernel_rfl) ⟨rfl, ?_, by repeat (first | exact Le.refl _ | refine Le.skip rfl ?_)⟩
          exact congrArg (fun x => some (Value.bool x)) (Eq.symm (show offsetP x y = _ by unfold offsetP; (rw [g6_1]) <;> rfl))
      refine .cond rfl (fun hP => ?_) (fun hP => ?_)
      · refine .seq ?_
        refine .region ?_   -- R7 ref.go:65
        refine .rd (.assign rfl) ?_
        refine .nil ?_
        have hv : offsetB h x = true := by unfold offsetB; rw [hg, any_hit hy hP]; rfl
        rw [hv]
        refine .retP Try.func22 (.cons (.tmp rfl) .nil) (.cons .head .nil) ?_
        exact ⟨[], ⟨rfl, rfl⟩, rfl⟩
      · refine .skip ?_
        refine .inBlock ?_
        refine .region ?_   -- R4 ref.go:62
        refine .rd (.move rfl) ?_
        refine .rd (.add rfl rfl (by omega) (by omega)) ?_
        refine .rd (.assign rfl) ?_
        refine .nil ?_
        exact (ih (k' + 1) ⟨by omega, upto_next hI.2 hy (by simpa using hP)⟩ (by omega)).to (.cons rfl (.cons rfl (.cons rfl (.cons rfl .nil)))) (.cons .head .nil)
    · refine .exit rfl ?_
      refine .seq ?_
      refine .region ?_   -- R8 ref.go:68
      refine .rd (.assign rfl) ?_
      refine .nil ?_
      have hv : offsetB h x = false := by unfold offsetB; rw [hg]; rfl
      rw [hv]
      refine .retP Try.func22 (.cons (.tmp rfl) .nil) (.cons .head .nil) ?_
      exact ⟨[], ⟨rfl, rfl⟩, rfl⟩
  · replace gk := of_decide_eq_false gk
    refine .off (t := 16) rfl rfl rfl ?_
    refine .rd (.pickF rfl rfl) ?_
    refine .nil ?_
    refine .condF rfl ?_
    refine .exit rfl ?_
    refine .seq ?_
    refine .region ?_   -- R8 ref.go:68
    refine .rd (.assign rfl) ?_
    refine .nil ?_
    have hv : offsetB h x = false := by unfold offsetB; rw [any_miss (n := k') (by omega) hI.2]; exact Bool.and_false _
    rw [hv]
    refine .retP Try.func22 (.cons (.tmp rfl) .nil) (.cons .head .nil) ?_
    exact ⟨[], ⟨rfl, rfl⟩, rfl⟩

end Go.Proofs.Ytahpokcigdjilaa

