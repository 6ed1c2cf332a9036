/- Steps through functions of the program, under conditions that each theorem states (part mod15 of a claim). -/
import Derived.Test.YtahpokcigdjilaaProg
import Derived.Test.YtahpokcigdjilaaMod14
namespace Go.Proofs.Ytahpokcigdjilaa
open Go Go.Sp

set_option linter.unusedVariables false

namespace mod15
theorem ts36 : TS Try.prog 36 12 := .of (by kernel_rfl)
theorem ia36 : IsAgg Try.prog 36 := ⟨_, Try.underlying36, trivial⟩
theorem fd36_3 : FD Try.prog 36 3 3 := .of Try.underlying36 (by kernel_rfl)
theorem na3 : NotAgg Try.prog 3 := ⟨_, Try.underlying3, trivial⟩
theorem fd36_4 : FD Try.prog 36 4 4 := .of Try.underlying36 (by kernel_rfl)
theorem fd36_8 : FD Try.prog 36 8 8 := .of Try.underlying36 (by kernel_rfl)
theorem na9 : NotAgg Try.prog 9 := ⟨_, Try.underlying9, trivial⟩
theorem fd36_7 : FD Try.prog 36 7 7 := .of Try.underlying36 (by kernel_rfl)
theorem ti36 : TI Try.prog 36 12 112 (.agg #[.int .i64 0, .int .i64 0, .int .i64 0, .int .i64 0, .int .i64 0, .int .i64 0, .int .i64 0, .int .i64 0, .string ⟨#[]⟩, .string ⟨#[]⟩, .int .i64 0, .bool false]) := .of (by kernel_rfl)
theorem fd36_5 : FD Try.prog 36 5 5 := .of Try.underlying36 (by kernel_rfl)
theorem fd36_6 : FD Try.prog 36 6 6 := .of Try.underlying36 (by kernel_rfl)
theorem fd36_0 : FD Try.prog 36 0 0 := .of Try.underlying36 (by kernel_rfl)
theorem fd36_1 : FD Try.prog 36 1 1 := .of Try.underlying36 (by kernel_rfl)
theorem fd36_11 : FD Try.prog 36 11 11 := .of Try.underlying36 (by kernel_rfl)
theorem na4 : NotAgg Try.prog 4 := ⟨_, Try.underlying4, trivial⟩
theorem fd36_2 : FD Try.prog 36 2 2 := .of Try.underlying36 (by kernel_rfl)
end mod15
open mod15



set_option maxRecDepth 20000 in
theorem deleted_ok (a : Option Addr) (n c : Nat) (h : List Sn) (x : Sn) (i : Nat) (hi : h.length = i) (hn : i < n) (hb : n ≤ 1000000) : Cn Try.prog 26 [.slice a n c, .int .i64 (i : Int)] (RowAt a ((h ++ [x]).flatMap Sn.cells)) [] fun v G => v = .bool (deletedB h x) ∧ G = [] := by
  refine .enter Try.func26 rfl (by kernel_rfl) rfl fun R k => ?_
  have hx : (h ++ [x])[i]? = some x := at_last hi
  refine .tell (φ := ∃ b o, a = some ⟨b, o, none⟩) (Knows.pick .head (k.mono fun _ h => RowAt.addr h (by rw [flat_length Sn.cells_len]; simp))) (fun hh => ?_)
  obtain ⟨bb, oo, rfl⟩ := hh
  refine .seq ?_
  refine .region ?_   -- R0 ref.go:125
  refine .rd (.assign rfl) ?_
  refine .nil ?_
  refine .seq ?_
  refine .region ?_   -- R1 ref.go:126
  refine .rd (.move rfl) ?_
  refine .rd (.move rfl) ?_
  refine .rd (.indexAddr Try.underlying22 ts36 rfl rfl (by omega) (by omega)) ?_
  refine .rd (.loadN ia36 ts36 rfl rfl (Knows.elem (f := Sn.cells) Sn.cells_len (by decide) (Knows.pick .head k) hx)) ?_
  refine .fn rfl rfl .nil (fun _ _ _ => trivial) (good_ok x 1 1) (fun v G1 hq => ?_)
  obtain ⟨rfl, rfl⟩ := hq
  simp only [List.nil_append]
  refine .rd (.assign rfl) ?_
  refine .nil ?_
  refine .seq ?_
  refine .region ?_   -- R2 ref.go:127
  refine .rd (.move rfl) ?_
  refine .rd (.move rfl) ?_
  refine .fn rfl rfl .nil (Knows.pick .head k) (callOf_ok _ n c h x i hi hn hb) (fun v G1 hq => ?_)
  obtain ⟨rfl, rfl⟩ := hq
  simp only [List.nil_append]
  refine .rd (.assign rfl) ?_
  refine .nil ?_
  refine .seq ?_
  refine .seq ?_
  refine .region ?_   -- R3 ref.go:128
  refine .rd (.assign rfl) ?_
  refine .nil ?_
  refine .block ?_
  refine .loop (σ := Nat) (fun k' => k' ≤ (callR h x).toNat ∧ ∀ k < k', ∀ y, h[k]? = some y → delP x y = false) (fun k' => (callR h x).toNat - k') (fun k' => [(0, .slice (some ⟨bb, oo, none⟩) n c), (1, .int .i64 (i : Int)), (5, .bool (goodB x 1 1)), (6, .int .i64 (callR h x)), (7, .int .i64 (k' : Nat))]) (fun k' => [R]) 0 ⟨Nat.zero_le _, fun k hk => by omega⟩ (.cons rfl (.cons rfl (.cons rfl (.cons rfl (.cons rfl .nil))))) (.cons .head .nil) (fun k' hI ih => ?_)
  have hki := hI.1
  have hcl := callR_lt h x
  refine .seq ?_
  refine .seq ?_
  refine .region ?_   -- R4 ref.go:128
  refine .rd (.move rfl) ?_
  refine .rd (.move rfl) ?_
  refine .rd (.lt rfl rfl) ?_
  refine .rd (.move rfl) ?_
  refine .split (t := 20) rfl (fun gk => ?_) (fun gk => ?_)
  · replace gk := of_decide_eq_true gk
    refine .on (t := 20) rfl rfl ?_
    refine .rd (.move rfl) ?_
    refine .rd (.pickT rfl rfl) ?_
    refine .nil ?_
    refine .cond rfl (fun hg => ?_) (fun hg => ?_)
    · refine .skip ?_
      refine .seq ?_
      refine .block ?_
      refine .seq ?_
      obtain ⟨y, hy⟩ : ∃ y, h[k']? = some y := ⟨_, List.getElem?_eq_getElem (by omega)⟩
      have hy' := at_left (x := x) (show k' < h.length by omega) hy
      refine .region ?_   -- R6 ref.go:129
      refine .rd (.move rfl) ?_
      refine .rd (.move rfl) ?_
      refine .rd (.indexAddr Try.underlying22 ts36 rfl rfl (by omega) (by omega)) ?_
      refine .rd (.loadN ia36 ts36 rfl rfl (Knows.elem (f := Sn.cells) Sn.cells_len (by decide) (Knows.pick .head k) hy')) ?_
      refine .fn rfl rfl .nil (fun _ _ _ => trivial) (good_ok y 6 6) (fun v G1 hq => ?_)
      obtain ⟨rfl, rfl⟩ := hq
      simp only [List.nil_append]
      refine .rd (.assign rfl) ?_
      refine .nil ?_
      refine .seq ?_
      refine .drawsJoin [6, 11, 19, 24] [R] 56 (delP x y) (by kernel_rfl) ?_ ?_   -- R7 ref.go:130
      · refine .rp 0 rfl (by kernel_rfl) (by kernel_rfl) (by kernel_rfl) (Reads.pure (.move rfl)) ?_
        refine .rp 1 rfl (by kernel_rfl) (by kernel_rfl) (by kernel_rfl) (Reads.pure (.move rfl)) ?_
        refine .split (t := 31) rfl (fun g7_1 => ?_) (fun g7_1 => ?_)
        · refine .rpG 2 (t := 31) rfl rfl rfl (by kernel_rfl) (by kernel_rfl) (by kernel_rfl) (Reads.pure (.move rfl)) ?_
          refine .rpG 3 (t := 31) rfl rfl rfl (by kernel_rfl) (by kernel_rfl) (by kernel_rfl) (Reads.pure (.move rfl)) ?_
          refine .rpG 4 (t := 31) rfl rfl rfl (by kernel_rfl) (by kernel_rfl) (by kernel_rfl) (Reads.pure (.indexAddr Try.underlying22 ts36 rfl rfl (by omega) (by omega))) ?_
          refine .rpG 5 (t := 31) rfl rfl rfl (by kernel_rfl) (by kernel_rfl) (by kernel_rfl) (Reads.pure (.fieldAddr fd36_3 rfl)) ?_
          refine .rdG 6 (t := 31) rfl rfl rfl rfl (by kernel_rfl) (by kernel_rfl) (by kernel_rfl) (.load na3 rfl (Knows.one (i := 3) (Knows.elem (f := Sn.cells) Sn.cells_len (by decide) (Knows.pick .head k) hy') rfl)) (.cons .head .nil) ?_
          refine .rpG 7 (t := 31) rfl rfl rfl (by kernel_rfl) (by kernel_rfl) (by kernel_rfl) (Reads.pure (.move rfl)) ?_
          refine .rpG 8 (t := 31) rfl rfl rfl (by kernel_rfl) (by kernel_rfl) (by kernel_rfl) (Reads.pure (.move rfl)) ?_
          refine .rpG 9 (t := 31) rfl rfl rfl (by kernel_rfl) (by kernel_rfl) (by kernel_rfl) (Reads.pure (.indexAddr Try.underlying22 ts36 rfl rfl (by omega) (by omega))) ?_
          refine .rpG 10 (t := 31) rfl rfl rfl (by kernel_rfl) (by kernel_rfl) (by kernel_rfl) (Reads.pure (.fieldAddr fd36_3 rfl)) ?_
          refine .rdG 11 (t := 31) rfl rfl rfl rfl (by kernel_rfl) (by kernel_rfl) (by kernel_rfl) (.load na3 rfl (Knows.one (i := 3) (Knows.elem (f := Sn.cells) Sn.cells_len (by decide) (Knows.pick .head k) hx) rfl)) (.cons .head .nil) ?_
          refine .rpG 12 (t := 31) rfl rfl rfl (by kernel_rfl) (by kernel_rfl) (by kernel_rfl) (Reads.pure (.eqI rfl rfl)) ?_
          refine .rp 13 rfl (by kernel_rfl) (by kernel_rfl) (by kernel_rfl) (Reads.pure (.pickT rfl rfl)) ?_
          refine .rp 14 rfl (by kernel_rfl) (by kernel_rfl) (by kernel_rfl) (Reads.pure (.move rfl)) ?_
          refine .split (t := 44) rfl (fun g7_14 => ?_) (fun g7_14 => ?_)
          · replace g7_14 := of_decide_eq_true g7_14
            refine .rpG 15 (t := 44) rfl rfl rfl (by kernel_rfl) (by kernel_rfl) (by kernel_rfl) (Reads.pure (.move rfl)) ?_
            refine .rpG 16 (t := 44) rfl rfl rfl (by kernel_rfl) (by kernel_rfl) (by kernel_rfl) (Reads.pure (.move rfl)) ?_
            refine .rpG 17 (t := 44) rfl rfl rfl (by kernel_rfl) (by kernel_rfl) (by kernel_rfl) (Reads.pure (.indexAddr Try.underlying22 ts36 rfl rfl (by omega) (by omega))) ?_
            refine .rpG 18 (t := 44) rfl rfl rfl (by kernel_rfl) (by kernel_rfl) (by kernel_rfl) (Reads.pure (.fieldAddr fd36_4 rfl)) ?_
            refine .rdG 19 (t := 44) rfl rfl rfl rfl (by kernel_rfl) (by kernel_rfl) (by kernel_rfl) (.load na3 rfl (Knows.one (i := 4) (Knows.elem (f := Sn.cells) Sn.cells_len (by decide) (Knows.pick .head k) hy') rfl)) (.cons .head .nil) ?_
            refine .rpG 20 (t := 44) rfl rfl rfl (by kernel_rfl) (by kernel_rfl) (by kernel_rfl) (Reads.pure (.move rfl)) ?_
            refine .rpG 21 (t := 44) rfl rfl rfl (by kernel_rfl) (by kernel_rfl) (by kernel_rfl) (Reads.pure (.move rfl)) ?_
            refine .rpG 22 (t := 44) rfl rfl rfl (by kernel_rfl) (by kernel_rfl) (by kernel_rfl) (Reads.pure (.indexAddr Try.underlying22 ts36 rfl rfl (by omega) (by omega))) ?_
            refine .rpG 23 (t := 44) rfl rfl rfl (by kernel_rfl) (by kernel_rfl) (by kernel_rfl) (Reads.pure (.fieldAddr fd36_4 rfl)) ?_
            refine .rdG 24 (t := 44) rfl rfl rfl rfl (by kernel_rfl) (by kernel_rfl) (by kernel_rfl) (.load na3 rfl (Knows.one (i := 4) (Knows.elem (f := Sn.cells) Sn.cells_len (by decide) (Knows.pick .head k) hx) rfl)) (.cons .head .nil) ?_
            refine .rpG 25 (t := 44) rfl rfl rfl (by kernel_rfl) (by kernel_rfl) (by kernel_rfl) (Reads.pure (.gt rfl rfl)) ?_
            refine .rp 26 rfl (by kernel_rfl) (by kernel_rfl) (by kernel_rfl) (Reads.pure (.pickT rfl rfl)) ?_
            refine .done (by kernel_rfl) ⟨rfl, ?_, by repeat (first | exact Le.refl _ | refine Le.skip rfl ?_)⟩
            exact congrArg (fun x => some (Value.bool x)) (Eq.symm (show delP x y = _ by unfold delP; (rw [g7_1, decide_eq_true g7_14]) <;> rfl))
          · replace g7_14 := of_decide_eq_false g7_14
            refine .off 15 (t := 44) rfl rfl rfl rfl (by kernel_rfl) (by kernel_rfl) (by kernel_rfl) ?_
            refine .off 16 (t := 44) rfl rfl rfl rfl (by kernel_rfl) (by kernel_rfl) (by kernel_rfl) ?_
            refine .off 17 (t := 44) rfl rfl rfl rfl (by kernel_rfl) (by kernel_rfl) (by kernel_rfl) ?_
            refine .off 18 (t := 44) rfl rfl rfl rfl (by kernel_rfl) (by kernel_rfl) (by kernel_rfl) ?_
            refine .off 19 (t := 44) rfl rfl rfl rfl (by kernel_rfl) (by kernel_rfl) (by kernel_rfl) ?_
            refine .off 20 (t := 44) rfl rfl rfl rfl (by kernel_rfl) (by kernel_rfl) (by kernel_rfl) ?_
            refine .off 21 (t := 44) rfl rfl rfl rfl (by kernel_rfl) (by kernel_rfl) (by kernel_rfl) ?_
            refine .off 22 (t := 44) rfl rfl rfl rfl (by kernel_rfl) (by kernel_rfl) (by kernel_rfl) ?_
            refine .off 23 (t := 44) rfl rfl rfl rfl (by kernel_rfl) (by kernel_rfl) (by kernel_rfl) ?_
            refine .off 24 (t := 44) rfl rfl rfl rfl (by kernel_rfl) (by kernel_rfl) (by kernel_rfl) ?_
            refine .off 25 (t := 44) rfl rfl rfl rfl (by kernel_rfl) (by kernel_rfl) (by kernel_rfl) ?_
            refine .rp 26 rfl (by kernel_rfl) (by kernel_rfl) (by kernel_rfl) (Reads.pure (.pickF rfl rfl)) ?_
            refine .done (by kernel_rfl) ⟨rfl, ?_, by repeat (first | exact Le.refl _ | refine Le.skip rfl ?_)⟩
            exact congrArg (fun x => some (Value.bool x)) (Eq.symm (show delP x y = _ by unfold delP; (rw [g7_1, decide_eq_false g7_14]) <;> rfl))
        · refine .off 2 (t := 31) rfl rfl rfl rfl (by kernel_rfl) (by kernel_rfl) (by kernel_rfl) ?_
          refine .off 3 (t := 31) rfl rfl rfl rfl (by kernel_rfl) (by kernel_rfl) (by kernel_rfl) ?_
          refine .off 4 (t := 31) rfl rfl rfl rfl (by kernel_rfl) (by kernel_rfl) (by kernel_rfl) ?_
          refine .off 5 (t := 31) rfl rfl rfl rfl (by kernel_rfl) (by kernel_rfl) (by kernel_rfl) ?_
          refine .off 6 (t := 31) rfl rfl rfl rfl (by kernel_rfl) (by kernel_rfl) (by kernel_rfl) ?_
          refine .off 7 (t := 31) rfl rfl rfl rfl (by kernel_rfl) (by kernel_rfl) (by kernel_rfl) ?_
          refine .off 8 (t := 31) rfl rfl rfl rfl (by kernel_rfl) (by kernel_rfl) (by kernel_rfl) ?_
          refine .off 9 (t := 31) rfl rfl rfl rfl (by kernel_rfl) (by kernel_rfl) (by kernel_rfl) ?_
          refine .off 10 (t := 31) rfl rfl rfl rfl (by kernel_rfl) (by kernel_rfl) (by kernel_rfl) ?_
          refine .off 11 (t := 31) rfl rfl rfl rfl (by kernel_rfl) (by kernel_rfl) (by kernel_rfl) ?_
          refine .off 12 (t := 31) rfl rfl rfl rfl (by kernel_rfl) (by kernel_rfl) (by kernel_rfl) ?_
          refine .rp 13 rfl (by kernel_rfl) (by kernel_rfl) (by kernel_rfl) (Reads.pure (.pickF rfl rfl)) ?_
          refine .rp 14 rfl (by kernel_rfl) (by kernel_rfl) (by kernel_rfl) (Reads.pure (.move rfl)) ?_
          refine .off 15 (t := 44) rfl rfl rfl rfl (by kernel_rfl) (by kernel_rfl) (by kernel_rfl) ?_
          refine .off 16 (t := 44) rfl rfl rfl rfl (by kernel_rfl) (by kernel_rfl) (by kernel_rfl) ?_
          refine .off 17 (t := 44) rfl rfl rfl rfl (by kernel_rfl) (by kernel_rfl) (by kernel_rfl) ?_
          refine .off 18 (t := 44) rfl rfl rfl rfl (by kernel_rfl) (by kernel_rfl) (by kernel_rfl) ?_
          refine .off 19 (t := 44) rfl rfl rfl rfl (by kernel_rfl) (by kernel_rfl) (by kernel_rfl) ?_
          refine .off 20 (t := 44) rfl rfl rfl rfl (by kernel_rfl) (by kernel_rfl) (by kernel_rfl) ?_
          refine .off 21 (t := 44) rfl rfl rfl rfl (by kernel_rfl) (by kernel_rfl) (by kernel_rfl) ?_
          refine .off 22 (t := 44) rfl rfl rfl rfl (by kernel_rfl) (by kernel_rfl) (by kernel_rfl) ?_
          refine .off 23 (t := 44) rfl rfl rfl rfl (by kernel_rfl) (by kernel_rfl) (by kernel_rfl) ?_
          refine .off 24 (t := 44) rfl rfl rfl rfl (by kernel_rfl) (by kernel_rfl) (by kernel_rfl) ?_
          refine .off 25 (t := 44) rfl rfl rfl rfl (by kernel_rfl) (by kernel_rfl) (by kernel_rfl) ?_
          refine .rp 26 rfl (by kernel_rfl) (by kernel_rfl) (by kernel_rfl) (Reads.pure (.pickF rfl rfl)) ?_
          refine .done (by kernel_rfl) ⟨rfl, ?_, by repeat (first | exact Le.refl _ | refine Le.skip rfl ?_)⟩
          exact congrArg (fun x => some (Value.bool x)) (Eq.symm (show delP x y = _ by unfold delP; (rw [g7_1]) <;> rfl))
      refine .cond rfl (fun hP => ?_) (fun hP => ?_)
      · refine .seq ?_
        refine .region ?_   -- R8 ref.go:131
        refine .rd (.assign rfl) ?_
        refine .nil ?_
        have hv : deletedB h x = true := by unfold deletedB; rw [hg, any_hit_take (by omega) hy hP]; rfl
        rw [hv]
        refine .retP Try.func26 (.cons (.tmp rfl) .nil) (.cons .head .nil) ?_
        exact ⟨[], ⟨rfl, rfl⟩, rfl⟩
      · refine .skip ?_
        refine .inBlock ?_
        refine .region ?_   -- R5 ref.go:128
        refine .rd (.move rfl) ?_
        refine .rd (.add rfl rfl (by omega) (by omega)) ?_
        refine .rd (.assign rfl) ?_
        refine .nil ?_
        exact (ih (k' + 1) ⟨by omega, upto_next hI.2 hy (by simpa using hP)⟩ (by omega)).to (.cons rfl (.cons rfl (.cons rfl (.cons rfl (.cons rfl .nil))))) (.cons .head .nil)
    · refine .exit rfl ?_
      refine .seq ?_
      refine .region ?_   -- R9 ref.go:134
      refine .rd (.assign rfl) ?_
      refine .nil ?_
      have hv : deletedB h x = false := by unfold deletedB; rw [hg]; rfl
      rw [hv]
      refine .retP Try.func26 (.cons (.tmp rfl) .nil) (.cons .head .nil) ?_
      exact ⟨[], ⟨rfl, rfl⟩, rfl⟩
  · replace gk := of_decide_eq_false gk
    refine .off (t := 20) rfl rfl rfl ?_
    refine .rd (.pickF rfl rfl) ?_
    refine .nil ?_
    refine .condF rfl ?_
    refine .exit rfl ?_
    refine .seq ?_
    refine .region ?_   -- R9 ref.go:134
    refine .rd (.assign rfl) ?_
    refine .nil ?_
    have hv : deletedB h x = false := by unfold deletedB; rw [any_miss_take (n := k') (by omega) hI.2]; exact Bool.and_false _
    rw [hv]
    refine .retP Try.func26 (.cons (.tmp rfl) .nil) (.cons .head .nil) ?_
    exact ⟨[], ⟨rfl, rfl⟩, rfl⟩

set_option maxRecDepth 20000 in
theorem fenced_ok (a : Option Addr) (n c : Nat) (h : List Sn) (x : Sn) (i : Nat) (hi : h.length = i) (hn : i < n) (hb : n ≤ 1000000) : Cn Try.prog 28 [.slice a n c, .int .i64 (i : Int)] (RowAt a ((h ++ [x]).flatMap Sn.cells)) [] fun v G => v = .bool (fencedB h x) ∧ G = [] := by
  refine .enter Try.func28 rfl (by kernel_rfl) rfl fun R k => ?_
  have hx : (h ++ [x])[i]? = some x := at_last hi
  refine .tell (φ := ∃ b o, a = some ⟨b, o, none⟩) (Knows.pick .head (k.mono fun _ h => RowAt.addr h (by rw [flat_length Sn.cells_len]; simp))) (fun hh => ?_)
  obtain ⟨bb, oo, rfl⟩ := hh
  refine .seq ?_
  refine .region ?_   -- R0 ref.go:149
  refine .rd (.assign rfl) ?_
  refine .nil ?_
  refine .seq ?_
  refine .region ?_   -- R1 ref.go:150
  refine .rd (.move rfl) ?_
  refine .rd (.move rfl) ?_
  refine .rd (.indexAddr Try.underlying22 ts36 rfl rfl (by omega) (by omega)) ?_
  refine .rd (.loadN ia36 ts36 rfl rfl (Knows.elem (f := Sn.cells) Sn.cells_len (by decide) (Knows.pick .head k) hx)) ?_
  refine .fn rfl rfl .nil (fun _ _ _ => trivial) (good_ok x 4 4) (fun v G1 hq => ?_)
  obtain ⟨rfl, rfl⟩ := hq
  simp only [List.nil_append]
  refine .rd (.assign rfl) ?_
  refine .nil ?_
  refine .seq ?_
  refine .region ?_   -- R2 ref.go:151
  refine .rd (.move rfl) ?_
  refine .rd (.move rfl) ?_
  refine .fn rfl rfl .nil (Knows.pick .head k) (callOf_ok _ n c h x i hi hn hb) (fun v G1 hq => ?_)
  obtain ⟨rfl, rfl⟩ := hq
  simp only [List.nil_append]
  refine .rd (.assign rfl) ?_
  refine .nil ?_
  refine .seq ?_
  refine .seq ?_
  refine .region ?_   -- R3 ref.go:152
  refine .rd (.assign rfl) ?_
  refine .nil ?_
  refine .block ?_
  refine .loop (σ := Nat) (fun k' => k' ≤ (callR h x).toNat ∧ ∀ k < k', ∀ y, h[k]? = some y → fenP x y = false) (fun k' => (callR h x).toNat - k') (fun k' => [(0, .slice (some ⟨bb, oo, none⟩) n c), (1, .int .i64 (i : Int)), (5, .bool (goodB x 4 4)), (6, .int .i64 (callR h x)), (7, .int .i64 (k' : Nat))]) (fun k' => [R]) 0 ⟨Nat.zero_le _, fun k hk => by omega⟩ (.cons rfl (.cons rfl (.cons rfl (.cons rfl (.cons rfl .nil))))) (.cons .head .nil) (fun k' hI ih => ?_)
  have hki := hI.1
  have hcl := callR_lt h x
  refine .seq ?_
  refine .seq ?_
  refine .region ?_   -- R4 ref.go:152
  refine .rd (.move rfl) ?_
  refine .rd (.move rfl) ?_
  refine .rd (.lt rfl rfl) ?_
  refine .rd (.move rfl) ?_
  refine .split (t := 20) rfl (fun gk => ?_) (fun gk => ?_)
  · replace gk := of_decide_eq_true gk
    refine .on (t := 20) rfl rfl ?_
    refine .rd (.move rfl) ?_
    refine .rd (.pickT rfl rfl) ?_
    refine .nil ?_
    refine .cond rfl (fun hg => ?_) (fun hg => ?_)
    · refine .skip ?_
      refine .seq ?_
      refine .block ?_
      refine .seq ?_
      obtain ⟨y, hy⟩ : ∃ y, h[k']? = some y := ⟨_, List.getElem?_eq_getElem (by omega)⟩
      have hy' := at_left (x := x) (show k' < h.length by omega) hy
      refine .region ?_   -- R6 ref.go:153
      refine .rd (.move rfl) ?_
      refine .rd (.move rfl) ?_
      refine .rd (.indexAddr Try.underlying22 ts36 rfl rfl (by omega) (by omega)) ?_
      refine .rd (.loadN ia36 ts36 rfl rfl (Knows.elem (f := Sn.cells) Sn.cells_len (by decide) (Knows.pick .head k) hy')) ?_
      refine .fn rfl rfl .nil (fun _ _ _ => trivial) (good_ok y 2 3) (fun v G1 hq => ?_)
      obtain ⟨rfl, rfl⟩ := hq
      simp only [List.nil_append]
      refine .rd (.assign rfl) ?_
      refine .nil ?_
      refine .seq ?_
      refine .drawsJoin [6, 11, 19, 24] [R] 56 (fenP x y) (by kernel_rfl) ?_ ?_   -- R7 ref.go:154
      · refine .rp 0 rfl (by kernel_rfl) (by kernel_rfl) (by kernel_rfl) (Reads.pure (.move rfl)) ?_
        refine .rp 1 rfl (by kernel_rfl) (by kernel_rfl) (by kernel_rfl) (Reads.pure (.move rfl)) ?_
        refine .split (t := 31) rfl (fun g7_1 => ?_) (fun g7_1 => ?_)
        · refine .rpG 2 (t := 31) rfl rfl rfl (by kernel_rfl) (by kernel_rfl) (by kernel_rfl) (Reads.pure (.move rfl)) ?_
          refine .rpG 3 (t := 31) rfl rfl rfl (by kernel_rfl) (by kernel_rfl) (by kernel_rfl) (Reads.pure (.move rfl)) ?_
          refine .rpG 4 (t := 31) rfl rfl rfl (by kernel_rfl) (by kernel_rfl) (by kernel_rfl) (Reads.pure (.indexAddr Try.underlying22 ts36 rfl rfl (by omega) (by omega))) ?_
          refine .rpG 5 (t := 31) rfl rfl rfl (by kernel_rfl) (by kernel_rfl) (by kernel_rfl) (Reads.pure (.fieldAddr fd36_8 rfl)) ?_
          refine .rdG 6 (t := 31) rfl rfl rfl rfl (by kernel_rfl) (by kernel_rfl) (by kernel_rfl) (.load na9 rfl (Knows.one (i := 8) (Knows.elem (f := Sn.cells) Sn.cells_len (by decide) (Knows.pick .head k) hy') rfl)) (.cons .head .nil) ?_
          refine .rpG 7 (t := 31) rfl rfl rfl (by kernel_rfl) (by kernel_rfl) (by kernel_rfl) (Reads.pure (.move rfl)) ?_
          refine .rpG 8 (t := 31) rfl rfl rfl (by kernel_rfl) (by kernel_rfl) (by kernel_rfl) (Reads.pure (.move rfl)) ?_
          refine .rpG 9 (t := 31) rfl rfl rfl (by kernel_rfl) (by kernel_rfl) (by kernel_rfl) (Reads.pure (.indexAddr Try.underlying22 ts36 rfl rfl (by omega) (by omega))) ?_
          refine .rpG 10 (t := 31) rfl rfl rfl (by kernel_rfl) (by kernel_rfl) (by kernel_rfl) (Reads.pure (.fieldAddr fd36_8 rfl)) ?_
          refine .rdG 11 (t := 31) rfl rfl rfl rfl (by kernel_rfl) (by kernel_rfl) (by kernel_rfl) (.load na9 rfl (Knows.one (i := 8) (Knows.elem (f := Sn.cells) Sn.cells_len (by decide) (Knows.pick .head k) hx) rfl)) (.cons .head .nil) ?_
          refine .rpG 12 (t := 31) rfl rfl rfl (by kernel_rfl) (by kernel_rfl) (by kernel_rfl) (Reads.pure (.eqT rfl rfl)) ?_
          refine .rp 13 rfl (by kernel_rfl) (by kernel_rfl) (by kernel_rfl) (Reads.pure (.pickT rfl rfl)) ?_
          refine .rp 14 rfl (by kernel_rfl) (by kernel_rfl) (by kernel_rfl) (Reads.pure (.move rfl)) ?_
          refine .split (t := 44) rfl (fun g7_14 => ?_) (fun g7_14 => ?_)
          · replace g7_14 := of_decide_eq_true g7_14
            refine .rpG 15 (t := 44) rfl rfl rfl (by kernel_rfl) (by kernel_rfl) (by kernel_rfl) (Reads.pure (.move rfl)) ?_
            refine .rpG 16 (t := 44) rfl rfl rfl (by kernel_rfl) (by kernel_rfl) (by kernel_rfl) (Reads.pure (.move rfl)) ?_
            refine .rpG 17 (t := 44) rfl rfl rfl (by kernel_rfl) (by kernel_rfl) (by kernel_rfl) (Reads.pure (.indexAddr Try.underlying22 ts36 rfl rfl (by omega) (by omega))) ?_
            refine .rpG 18 (t := 44) rfl rfl rfl (by kernel_rfl) (by kernel_rfl) (by kernel_rfl) (Reads.pure (.fieldAddr fd36_7 rfl)) ?_
            refine .rdG 19 (t := 44) rfl rfl rfl rfl (by kernel_rfl) (by kernel_rfl) (by kernel_rfl) (.load na3 rfl (Knows.one (i := 7) (Knows.elem (f := Sn.cells) Sn.cells_len (by decide) (Knows.pick .head k) hy') rfl)) (.cons .head .nil) ?_
            refine .rpG 20 (t := 44) rfl rfl rfl (by kernel_rfl) (by kernel_rfl) (by kernel_rfl) (Reads.pure (.move rfl)) ?_
            refine .rpG 21 (t := 44) rfl rfl rfl (by kernel_rfl) (by kernel_rfl) (by kernel_rfl) (Reads.pure (.move rfl)) ?_
            refine .rpG 22 (t := 44) rfl rfl rfl (by kernel_rfl) (by kernel_rfl) (by kernel_rfl) (Reads.pure (.indexAddr Try.underlying22 ts36 rfl rfl (by omega) (by omega))) ?_
            refine .rpG 23 (t := 44) rfl rfl rfl (by kernel_rfl) (by kernel_rfl) (by kernel_rfl) (Reads.pure (.fieldAddr fd36_7 rfl)) ?_
            refine .rdG 24 (t := 44) rfl rfl rfl rfl (by kernel_rfl) (by kernel_rfl) (by kernel_rfl) (.load na3 rfl (Knows.one (i := 7) (Knows.elem (f := Sn.cells) Sn.cells_len (by decide) (Knows.pick .head k) hx) rfl)) (.cons .head .nil) ?_
            refine .rpG 25 (t := 44) rfl rfl rfl (by kernel_rfl) (by kernel_rfl) (by kernel_rfl) (Reads.pure (.gt rfl rfl)) ?_
            refine .rp 26 rfl (by kernel_rfl) (by kernel_rfl) (by kernel_rfl) (Reads.pure (.pickT rfl rfl)) ?_
            refine .done (by kernel_rfl) ⟨rfl, ?_, by repeat (first | exact Le.refl _ | refine Le.skip rfl ?_)⟩
            exact congrArg (fun x => some (Value.bool x)) (Eq.symm (show fenP x y = _ by unfold fenP; (rw [g7_1, decide_eq_true g7_14]) <;> rfl))
          · replace g7_14 := of_decide_eq_false g7_14
            refine .off 15 (t := 44) rfl rfl rfl rfl (by kernel_rfl) (by kernel_rfl) (by kernel_rfl) ?_
            refine .off 16 (t := 44) rfl rfl rfl rfl (by kernel_rfl) (by kernel_rfl) (by kernel_rfl) ?_
            refine .off 17 (t := 44) rfl rfl rfl rfl (by kernel_rfl) (by kernel_rfl) (by kernel_rfl) ?_
            refine .off 18 (t := 44) rfl rfl rfl rfl (by kernel_rfl) (by kernel_rfl) (by kernel_rfl) ?_
            refine .off 19 (t := 44) rfl rfl rfl rfl (by kernel_rfl) (by kernel_rfl) (by kernel_rfl) ?_
            refine .off 20 (t := 44) rfl rfl rfl rfl (by kernel_rfl) (by kernel_rfl) (by kernel_rfl) ?_
            refine .off 21 (t := 44) rfl rfl rfl rfl (by kernel_rfl) (by kernel_rfl) (by kernel_rfl) ?_
            refine .off 22 (t := 44) rfl rfl rfl rfl (by kernel_rfl) (by kernel_rfl) (by kernel_rfl) ?_
            refine .off 23 (t := 44) rfl rfl rfl rfl (by kernel_rfl) (by kernel_rfl) (by kernel_rfl) ?_
            refine .off 24 (t := 44) rfl rfl rfl rfl (by kernel_rfl) (by kernel_rfl) (by kernel_rfl) ?_
            refine .off 25 (t := 44) rfl rfl rfl rfl (by kernel_rfl) (by kernel_rfl) (by kernel_rfl) ?_
            refine .rp 26 rfl (by kernel_rfl) (by kernel_rfl) (by kernel_rfl) (Reads.pure (.pickF rfl rfl)) ?_
            refine .done (by kernel_rfl) ⟨rfl, ?_, by repeat (first | exact Le.refl _ | refine Le.skip rfl ?_)⟩
            exact congrArg (fun x => some (Value.bool x)) (Eq.symm (show fenP x y = _ by unfold fenP; (rw [g7_1, decide_eq_false g7_14]) <;> rfl))
        · refine .off 2 (t := 31) rfl rfl rfl rfl (by kernel_rfl) (by kernel_rfl) (by kernel_rfl) ?_
          refine .off 3 (t := 31) rfl rfl rfl rfl (by kernel_rfl) (by kernel_rfl) (by kernel_rfl) ?_
          refine .off 4 (t := 31) rfl rfl rfl rfl (by kernel_rfl) (by kernel_rfl) (by kernel_rfl) ?_
          refine .off 5 (t := 31) rfl rfl rfl rfl (by kernel_rfl) (by kernel_rfl) (by kernel_rfl) ?_
          refine .off 6 (t := 31) rfl rfl rfl rfl (by kernel_rfl) (by kernel_rfl) (by kernel_rfl) ?_
          refine .off 7 (t := 31) rfl rfl rfl rfl (by kernel_rfl) (by kernel_rfl) (by kernel_rfl) ?_
          refine .off 8 (t := 31) rfl rfl rfl rfl (by kernel_rfl) (by kernel_rfl) (by kernel_rfl) ?_
          refine .off 9 (t := 31) rfl rfl rfl rfl (by kernel_rfl) (by kernel_rfl) (by kernel_rfl) ?_
          refine .off 10 (t := 31) rfl rfl rfl rfl (by kernel_rfl) (by kernel_rfl) (by kernel_rfl) ?_
          refine .off 11 (t := 31) rfl rfl rfl rfl (by kernel_rfl) (by kernel_rfl) (by kernel_rfl) ?_
          refine .off 12 (t := 31) rfl rfl rfl rfl (by kernel_rfl) (by kernel_rfl) (by kernel_rfl) ?_
          refine .rp 13 rfl (by kernel_rfl) (by kernel_rfl) (by kernel_rfl) (Reads.pure (.pickF rfl rfl)) ?_
          refine .rp 14 rfl (by kernel_rfl) (by kernel_rfl) (by kernel_rfl) (Reads.pure (.move rfl)) ?_
          refine .off 15 (t := 44) rfl rfl rfl rfl (by kernel_rfl) (by kernel_rfl) (by kernel_rfl) ?_
          refine .off 16 (t := 44) rfl rfl rfl rfl (by kernel_rfl) (by kernel_rfl) (by kernel_rfl) ?_
          refine .off 17 (t := 44) rfl rfl rfl rfl (by kernel_rfl) (by kernel_rfl) (by kernel_rfl) ?_
          refine .off 18 (t := 44) rfl rfl rfl rfl (by kernel_rfl) (by kernel_rfl) (by kernel_rfl) ?_
          refine .off 19 (t := 44) rfl rfl rfl rfl (by kernel_rfl) (by kernel_rfl) (by kernel_rfl) ?_
          refine .off 20 (t := 44) rfl rfl rfl rfl (by kernel_rfl) (by kernel_rfl) (by kernel_rfl) ?_
          refine .off 21 (t := 44) rfl rfl rfl rfl (by kernel_rfl) (by kernel_rfl) (by kernel_rfl) ?_
          refine .off 22 (t := 44) rfl rfl rfl rfl (by kernel_rfl) (by kernel_rfl) (by kernel_rfl) ?_
          refine .off 23 (t := 44) rfl rfl rfl rfl (by kernel_rfl) (by kernel_rfl) (by kernel_rfl) ?_
          refine .off 24 (t := 44) rfl rfl rfl rfl (by kernel_rfl) (by kernel_rfl) (by kernel_rfl) ?_
          refine .off 25 (t := 44) rfl rfl rfl rfl (by kernel_rfl) (by kernel_rfl) (by kernel_rfl) ?_
          refine .rp 26 rfl (by kernel_rfl) (by kernel_rfl) (by kernel_rfl) (Reads.pure (.pickF rfl rfl)) ?_
          refine .done (by kernel_rfl) ⟨rfl, ?_, by repeat (first | exact Le.refl _ | refine Le.skip rfl ?_)⟩
          exact congrArg (fun x => some (Value.bool x)) (Eq.symm (show fenP x y = _ by unfold fenP; (rw [g7_1]) <;> rfl))
      refine .cond rfl (fun hP => ?_) (fun hP => ?_)
      · refine .seq ?_
        refine .region ?_   -- R8 ref.go:155
        refine .rd (.assign rfl) ?_
        refine .nil ?_
        have hv : fencedB h x = true := by unfold fencedB; rw [hg, any_hit_take (by omega) hy hP]; rfl
        rw [hv]
        refine .retP Try.func28 (.cons (.tmp rfl) .nil) (.cons .head .nil) ?_
        exact ⟨[], ⟨rfl, rfl⟩, rfl⟩
      · refine .skip ?_
        refine .inBlock ?_
        refine .region ?_   -- R5 ref.go:152
        refine .rd (.move rfl) ?_
        refine .rd (.add rfl rfl (by omega) (by omega)) ?_
        refine .rd (.assign rfl) ?_
        refine .nil ?_
        exact (ih (k' + 1) ⟨by omega, upto_next hI.2 hy (by simpa using hP)⟩ (by omega)).to (.cons rfl (.cons rfl (.cons rfl (.cons rfl (.cons rfl .nil))))) (.cons .head .nil)
    · refine .exit rfl ?_
      refine .seq ?_
      refine .region ?_   -- R9 ref.go:158
      refine .rd (.assign rfl) ?_
      refine .nil ?_
      have hv : fencedB h x = false := by unfold fencedB; rw [hg]; rfl
      rw [hv]
      refine .retP Try.func28 (.cons (.tmp rfl) .nil) (.cons .head .nil) ?_
      exact ⟨[], ⟨rfl, rfl⟩, rfl⟩
  · replace gk := of_decide_eq_false gk
    refine .off (t := 20) rfl rfl rfl ?_
    refine .rd (.pickF rfl rfl) ?_
    refine .nil ?_
    refine .condF rfl ?_
    refine .exit rfl ?_
    refine .seq ?_
    refine .region ?_   -- R9 ref.go:158
    refine .rd (.assign rfl) ?_
    refine .nil ?_
    have hv : fencedB h x = false := by unfold fencedB; rw [any_miss_take (n := k') (by omega) hI.2]; exact Bool.and_false _
    rw [hv]
    refine .retP Try.func28 (.cons (.tmp rfl) .nil) (.cons .head .nil) ?_
    exact ⟨[], ⟨rfl, rfl⟩, rfl⟩

set_option maxRecDepth 20000 in
theorem gen_ok (a : Option Addr) (n c : Nat) (h : List Sn) (x : Sn) (i : Nat) (hi : h.length = i) (hn : i < n) (hb : n ≤ 1000000) : Cn Try.prog 27 [.slice a n c, .int .i64 (i : Int)] (RowAt a ((h ++ [x]).flatMap Sn.cells)) [] fun v G => v = .bool (genB h x) ∧ G = [] := by
  refine .enter Try.func27 rfl (by kernel_rfl) rfl fun R k => ?_
  have hx : (h ++ [x])[i]? = some x := at_last hi
  refine .tell (φ := ∃ b o, a = some ⟨b, o, none⟩) (Knows.pick .head (k.mono fun _ h => RowAt.addr h (by rw [flat_length Sn.cells_len]; simp))) (fun hh => ?_)
  obtain ⟨bb, oo, rfl⟩ := hh
  refine .seq ?_
  refine .region ?_   -- R0 ref.go:137
  refine .rd (.assign rfl) ?_
  refine .nil ?_
  refine .seq ?_
  refine .region ?_   -- R1 ref.go:138
  refine .rd (.move rfl) ?_
  refine .rd (.move rfl) ?_
  refine .rd (.indexAddr Try.underlying22 ts36 rfl rfl (by omega) (by omega)) ?_
  refine .rd (.loadN ia36 ts36 rfl rfl (Knows.elem (f := Sn.cells) Sn.cells_len (by decide) (Knows.pick .head k) hx)) ?_
  refine .fn rfl rfl .nil (fun _ _ _ => trivial) (good_ok x 2 3) (fun v G1 hq => ?_)
  obtain ⟨rfl, rfl⟩ := hq
  simp only [List.nil_append]
  refine .rd (.assign rfl) ?_
  refine .nil ?_
  refine .seq ?_
  refine .region ?_   -- R2 ref.go:139
  refine .rd (.move rfl) ?_
  refine .rd (.move rfl) ?_
  refine .fn rfl rfl .nil (Knows.pick .head k) (callOf_ok _ n c h x i hi hn hb) (fun v G1 hq => ?_)
  obtain ⟨rfl, rfl⟩ := hq
  simp only [List.nil_append]
  refine .rd (.assign rfl) ?_
  refine .nil ?_
  refine .seq ?_
  refine .seq ?_
  refine .region ?_   -- R3 ref.go:140
  refine .rd (.assign rfl) ?_
  refine .nil ?_
  refine .block ?_
  refine .loop (σ := Nat) (fun k' => k' ≤ i ∧ ∀ k < k', ∀ y, h[k]? = some y → genP x (callR h x) k y = false) (fun k' => i - k') (fun k' => [(0, .slice (some ⟨bb, oo, none⟩) n c), (1, .int .i64 (i : Int)), (5, .bool (goodB x 2 3)), (6, .int .i64 (callR h x)), (7, .int .i64 (k' : Nat))]) (fun k' => [R]) 0 ⟨Nat.zero_le _, fun k hk => by omega⟩ (.cons rfl (.cons rfl (.cons rfl (.cons rfl (.cons rfl .nil))))) (.cons .head .nil) (fun k' hI ih => ?_)
  have hki := hI.1
  refine .seq ?_
  refine .seq ?_
  refine .region ?_   -- R4 ref.go:140
  refine .rd (.move rfl) ?_
  refine .rd (.move rfl) ?_
  refine .rd (.lt rfl rfl) ?_
  refine .rd (.move rfl) ?_
  refine .split (t := 20) rfl (fun gk => ?_) (fun gk => ?_)
  · replace gk := of_decide_eq_true gk
    refine .on (t := 20) rfl rfl ?_
    refine .rd (.move rfl) ?_
    refine .rd (.pickT rfl rfl) ?_
    refine .nil ?_
    refine .cond rfl (fun hg => ?_) (fun hg => ?_)
    · refine .skip ?_
      refine .seq ?_
      refine .block ?_
      refine .seq ?_
      obtain ⟨y, hy⟩ : ∃ y, h[k']? = some y := ⟨_, List.getElem?_eq_getElem (by omega)⟩
      have hy' := at_left (x := x) (show k' < h.length by omega) hy
      refine .region ?_   -- R6 ref.go:141
      refine .rd (.move rfl) ?_
      refine .rd (.move rfl) ?_
      refine .rd (.indexAddr Try.underlying22 ts36 rfl rfl (by omega) (by omega)) ?_
      refine .rd (.loadN ia36 ts36 rfl rfl (Knows.elem (f := Sn.cells) Sn.cells_len (by decide) (Knows.pick .head k) hy')) ?_
      refine .fn rfl rfl .nil (fun _ _ _ => trivial) (good_ok y 2 3) (fun v G1 hq => ?_)
      obtain ⟨rfl, rfl⟩ := hq
      simp only [List.nil_append]
      refine .rd (.assign rfl) ?_
      refine .nil ?_
      refine .seq ?_
      refine .drawsJoin [6, 11, 19, 24, 35, 40] [R] 74 (genP x (callR h x) k' y) (by kernel_rfl) ?_ ?_   -- R7 ref.go:142
      · refine .rp 0 rfl (by kernel_rfl) (by kernel_rfl) (by kernel_rfl) (Reads.pure (.move rfl)) ?_
        refine .rp 1 rfl (by kernel_rfl) (by kernel_rfl) (by kernel_rfl) (Reads.pure (.move rfl)) ?_
        refine .split (t := 31) rfl (fun g7_1 => ?_) (fun g7_1 => ?_)
        · refine .rpG 2 (t := 31) rfl rfl rfl (by kernel_rfl) (by kernel_rfl) (by kernel_rfl) (Reads.pure (.move rfl)) ?_
          refine .rpG 3 (t := 31) rfl rfl rfl (by kernel_rfl) (by kernel_rfl) (by kernel_rfl) (Reads.pure (.move rfl)) ?_
          refine .rpG 4 (t := 31) rfl rfl rfl (by kernel_rfl) (by kernel_rfl) (by kernel_rfl) (Reads.pure (.indexAddr Try.underlying22 ts36 rfl rfl (by omega) (by omega))) ?_
          refine .rpG 5 (t := 31) rfl rfl rfl (by kernel_rfl) (by kernel_rfl) (by kernel_rfl) (Reads.pure (.fieldAddr fd36_8 rfl)) ?_
          refine .rdG 6 (t := 31) rfl rfl rfl rfl (by kernel_rfl) (by kernel_rfl) (by kernel_rfl) (.load na9 rfl (Knows.one (i := 8) (Knows.elem (f := Sn.cells) Sn.cells_len (by decide) (Knows.pick .head k) hy') rfl)) (.cons .head .nil) ?_
          refine .rpG 7 (t := 31) rfl rfl rfl (by kernel_rfl) (by kernel_rfl) (by kernel_rfl) (Reads.pure (.move rfl)) ?_
          refine .rpG 8 (t := 31) rfl rfl rfl (by kernel_rfl) (by kernel_rfl) (by kernel_rfl) (Reads.pure (.move rfl)) ?_
          refine .rpG 9 (t := 31) rfl rfl rfl (by kernel_rfl) (by kernel_rfl) (by kernel_rfl) (Reads.pure (.indexAddr Try.underlying22 ts36 rfl rfl (by omega) (by omega))) ?_
          refine .rpG 10 (t := 31) rfl rfl rfl (by kernel_rfl) (by kernel_rfl) (by kernel_rfl) (Reads.pure (.fieldAddr fd36_8 rfl)) ?_
          refine .rdG 11 (t := 31) rfl rfl rfl rfl (by kernel_rfl) (by kernel_rfl) (by kernel_rfl) (.load na9 rfl (Knows.one (i := 8) (Knows.elem (f := Sn.cells) Sn.cells_len (by decide) (Knows.pick .head k) hx) rfl)) (.cons .head .nil) ?_
          refine .rpG 12 (t := 31) rfl rfl rfl (by kernel_rfl) (by kernel_rfl) (by kernel_rfl) (Reads.pure (.eqT rfl rfl)) ?_
          refine .rp 13 rfl (by kernel_rfl) (by kernel_rfl) (by kernel_rfl) (Reads.pure (.pickT rfl rfl)) ?_
          refine .rp 14 rfl (by kernel_rfl) (by kernel_rfl) (by kernel_rfl) (Reads.pure (.move rfl)) ?_
          refine .split (t := 44) rfl (fun g7_14 => ?_) (fun g7_14 => ?_)
          · replace g7_14 := of_decide_eq_true g7_14
            refine .rpG 15 (t := 44) rfl rfl rfl (by kernel_rfl) (by kernel_rfl) (by kernel_rfl) (Reads.pure (.move rfl)) ?_
            refine .rpG 16 (t := 44) rfl rfl rfl (by kernel_rfl) (by kernel_rfl) (by kernel_rfl) (Reads.pure (.move rfl)) ?_
            refine .rpG 17 (t := 44) rfl rfl rfl (by kernel_rfl) (by kernel_rfl) (by kernel_rfl) (Reads.pure (.indexAddr Try.underlying22 ts36 rfl rfl (by omega) (by omega))) ?_
            refine .rpG 18 (t := 44) rfl rfl rfl (by kernel_rfl) (by kernel_rfl) (by kernel_rfl) (Reads.pure (.fieldAddr fd36_7 rfl)) ?_
            refine .rdG 19 (t := 44) rfl rfl rfl rfl (by kernel_rfl) (by kernel_rfl) (by kernel_rfl) (.load na3 rfl (Knows.one (i := 7) (Knows.elem (f := Sn.cells) Sn.cells_len (by decide) (Knows.pick .head k) hy') rfl)) (.cons .head .nil) ?_
            refine .rpG 20 (t := 44) rfl rfl rfl (by kernel_rfl) (by kernel_rfl) (by kernel_rfl) (Reads.pure (.move rfl)) ?_
            refine .rpG 21 (t := 44) rfl rfl rfl (by kernel_rfl) (by kernel_rfl) (by kernel_rfl) (Reads.pure (.move rfl)) ?_
            refine .rpG 22 (t := 44) rfl rfl rfl (by kernel_rfl) (by kernel_rfl) (by kernel_rfl) (Reads.pure (.indexAddr Try.underlying22 ts36 rfl rfl (by omega) (by omega))) ?_
            refine .rpG 23 (t := 44) rfl rfl rfl (by kernel_rfl) (by kernel_rfl) (by kernel_rfl) (Reads.pure (.fieldAddr fd36_7 rfl)) ?_
            refine .rdG 24 (t := 44) rfl rfl rfl rfl (by kernel_rfl) (by kernel_rfl) (by kernel_rfl) (.load na3 rfl (Knows.one (i := 7) (Knows.elem (f := Sn.cells) Sn.cells_len (by decide) (Knows.pick .head k) hx) rfl)) (.cons .head .nil) ?_
            refine .rpG 25 (t := 44) rfl rfl rfl (by kernel_rfl) (by kernel_rfl) (by kernel_rfl) (Reads.pure (.eqI rfl rfl)) ?_
            refine .rpG 26 (t := 44) rfl rfl rfl (by kernel_rfl) (by kernel_rfl) (by kernel_rfl) (Reads.pure (.move rfl)) ?_
            refine .split (t := 56) rfl (fun g7_26 => ?_) (fun g7_26 => ?_)
            · replace g7_26 := of_decide_eq_true g7_26
              refine .off 27 (t := 56) rfl rfl rfl rfl (by kernel_rfl) (by kernel_rfl) (by kernel_rfl) ?_
              refine .off 28 (t := 56) rfl rfl rfl rfl (by kernel_rfl) (by kernel_rfl) (by kernel_rfl) ?_
              refine .off 29 (t := 56) rfl rfl rfl rfl (by kernel_rfl) (by kernel_rfl) (by kernel_rfl) ?_
              refine .offU 30 (t := 56) rfl rfl rfl rfl (by kernel_rfl) (by kernel_rfl) (by kernel_rfl) ?_
              refine .offX 31 (t := 60) rfl rfl rfl (by kernel_rfl) (by kernel_rfl) (by kernel_rfl) ?_
              refine .offX 32 (t := 60) rfl rfl rfl (by kernel_rfl) (by kernel_rfl) (by kernel_rfl) ?_
              refine .offX 33 (t := 60) rfl rfl rfl (by kernel_rfl) (by kernel_rfl) (by kernel_rfl) ?_
              refine .offX 34 (t := 60) rfl rfl rfl (by kernel_rfl) (by kernel_rfl) (by kernel_rfl) ?_
              refine .offX 35 (t := 60) rfl rfl rfl (by kernel_rfl) (by kernel_rfl) (by kernel_rfl) ?_
              refine .offX 36 (t := 60) rfl rfl rfl (by kernel_rfl) (by kernel_rfl) (by kernel_rfl) ?_
              refine .offX 37 (t := 60) rfl rfl rfl (by kernel_rfl) (by kernel_rfl) (by kernel_rfl) ?_
              refine .offX 38 (t := 60) rfl rfl rfl (by kernel_rfl) (by kernel_rfl) (by kernel_rfl) ?_
              refine .offX 39 (t := 60) rfl rfl rfl (by kernel_rfl) (by kernel_rfl) (by kernel_rfl) ?_
              refine .offX 40 (t := 60) rfl rfl rfl (by kernel_rfl) (by kernel_rfl) (by kernel_rfl) ?_
              refine .offX 41 (t := 60) rfl rfl rfl (by kernel_rfl) (by kernel_rfl) (by kernel_rfl) ?_
              refine .off 42 (t := 56) rfl rfl rfl rfl (by kernel_rfl) (by kernel_rfl) (by kernel_rfl) ?_
              refine .rpG 43 (t := 44) rfl rfl rfl (by kernel_rfl) (by kernel_rfl) (by kernel_rfl) (Reads.pure (.pickT rfl rfl)) ?_
              refine .rp 44 rfl (by kernel_rfl) (by kernel_rfl) (by kernel_rfl) (Reads.pure (.pickT rfl rfl)) ?_
              refine .done (by kernel_rfl) ⟨rfl, ?_, by repeat (first | exact Le.refl _ | refine Le.skip rfl ?_)⟩
              exact congrArg (fun x => some (Value.bool x)) (Eq.symm (show genP x (callR h x) k' y = _ by unfold genP; (rw [g7_1, decide_eq_true g7_14, decide_eq_true g7_26]) <;> rfl))
            · replace g7_26 := of_decide_eq_false g7_26
              refine .rpG 27 (t := 56) rfl rfl rfl (by kernel_rfl) (by kernel_rfl) (by kernel_rfl) (Reads.pure (.move rfl)) ?_
              refine .rpG 28 (t := 56) rfl rfl rfl (by kernel_rfl) (by kernel_rfl) (by kernel_rfl) (Reads.pure (.move rfl)) ?_
              refine .rpG 29 (t := 56) rfl rfl rfl (by kernel_rfl) (by kernel_rfl) (by kernel_rfl) (Reads.pure (.lt rfl rfl)) ?_
              refine .rpG 30 (t := 56) rfl rfl rfl (by kernel_rfl) (by kernel_rfl) (by kernel_rfl) (Reads.pure (.move rfl)) ?_
              refine .split (t := 60) rfl (fun g7_30 => ?_) (fun g7_30 => ?_)
              · replace g7_30 := of_decide_eq_true g7_30
                refine .rpG 31 (t := 60) rfl rfl rfl (by kernel_rfl) (by kernel_rfl) (by kernel_rfl) (Reads.pure (.move rfl)) ?_
                refine .rpG 32 (t := 60) rfl rfl rfl (by kernel_rfl) (by kernel_rfl) (by kernel_rfl) (Reads.pure (.move rfl)) ?_
                refine .rpG 33 (t := 60) rfl rfl rfl (by kernel_rfl) (by kernel_rfl) (by kernel_rfl) (Reads.pure (.indexAddr Try.underlying22 ts36 rfl rfl (by omega) (by omega))) ?_
                refine .rpG 34 (t := 60) rfl rfl rfl (by kernel_rfl) (by kernel_rfl) (by kernel_rfl) (Reads.pure (.fieldAddr fd36_7 rfl)) ?_
                refine .rdG 35 (t := 60) rfl rfl rfl rfl (by kernel_rfl) (by kernel_rfl) (by kernel_rfl) (.load na3 rfl (Knows.one (i := 7) (Knows.elem (f := Sn.cells) Sn.cells_len (by decide) (Knows.pick .head k) hy') rfl)) (.cons .head .nil) ?_
                refine .rpG 36 (t := 60) rfl rfl rfl (by kernel_rfl) (by kernel_rfl) (by kernel_rfl) (Reads.pure (.move rfl)) ?_
                refine .rpG 37 (t := 60) rfl rfl rfl (by kernel_rfl) (by kernel_rfl) (by kernel_rfl) (Reads.pure (.move rfl)) ?_
                refine .rpG 38 (t := 60) rfl rfl rfl (by kernel_rfl) (by kernel_rfl) (by kernel_rfl) (Reads.pure (.indexAddr Try.underlying22 ts36 rfl rfl (by omega) (by omega))) ?_
                refine .rpG 39 (t := 60) rfl rfl rfl (by kernel_rfl) (by kernel_rfl) (by kernel_rfl) (Reads.pure (.fieldAddr fd36_7 rfl)) ?_
                refine .rdG 40 (t := 60) rfl rfl rfl rfl (by kernel_rfl) (by kernel_rfl) (by kernel_rfl) (.load na3 rfl (Knows.one (i := 7) (Knows.elem (f := Sn.cells) Sn.cells_len (by decide) (Knows.pick .head k) hx) rfl)) (.cons .head .nil) ?_
                refine .rpG 41 (t := 60) rfl rfl rfl (by kernel_rfl) (by kernel_rfl) (by kernel_rfl) (Reads.pure (.gt rfl rfl)) ?_
                refine .rpG 42 (t := 56) rfl rfl rfl (by kernel_rfl) (by kernel_rfl) (by kernel_rfl) (Reads.pure (.pickT rfl rfl)) ?_
                refine .rpG 43 (t := 44) rfl rfl rfl (by kernel_rfl) (by kernel_rfl) (by kernel_rfl) (Reads.pure (.pickF rfl rfl)) ?_
                refine .rp 44 rfl (by kernel_rfl) (by kernel_rfl) (by kernel_rfl) (Reads.pure (.pickT rfl rfl)) ?_
                refine .done (by kernel_rfl) ⟨rfl, ?_, by repeat (first | exact Le.refl _ | refine Le.skip rfl ?_)⟩
                exact congrArg (fun x => some (Value.bool x)) (Eq.symm (show genP x (callR h x) k' y = _ by unfold genP; (rw [g7_1, decide_eq_true g7_14, decide_eq_false g7_26, decide_eq_true g7_30]) <;> rfl))
              · replace g7_30 := of_decide_eq_false g7_30
                refine .off 31 (t := 60) rfl rfl rfl rfl (by kernel_rfl) (by kernel_rfl) (by kernel_rfl) ?_
                refine .off 32 (t := 60) rfl rfl rfl rfl (by kernel_rfl) (by kernel_rfl) (by kernel_rfl) ?_
                refine .off 33 (t := 60) rfl rfl rfl rfl (by kernel_rfl) (by kernel_rfl) (by kernel_rfl) ?_
                refine .off 34 (t := 60) rfl rfl rfl rfl (by kernel_rfl) (by kernel_rfl) (by kernel_rfl) ?_
                refine .off 35 (t := 60) rfl rfl rfl rfl (by kernel_rfl) (by kernel_rfl) (by kernel_rfl) ?_
                refine .off 36 (t := 60) rfl rfl rfl rfl (by kernel_rfl) (by kernel_rfl) (by kernel_rfl) ?_
                refine .off 37 (t := 60) rfl rfl rfl rfl (by kernel_rfl) (by kernel_rfl) (by kernel_rfl) ?_
                refine .off 38 (t := 60) rfl rfl rfl rfl (by kernel_rfl) (by kernel_rfl) (by kernel_rfl) ?_
                refine .off 39 (t := 60) rfl rfl rfl rfl (by kernel_rfl) (by kernel_rfl) (by kernel_rfl) ?_
                refine .off 40 (t := 60) rfl rfl rfl rfl (by kernel_rfl) (by kernel_rfl) (by kernel_rfl) ?_
                refine .off 41 (t := 60) rfl rfl rfl rfl (by kernel_rfl) (by kernel_rfl) (by kernel_rfl) ?_
                refine .rpG 42 (t := 56) rfl rfl rfl (by kernel_rfl) (by kernel_rfl) (by kernel_rfl) (Reads.pure (.pickF rfl rfl)) ?_
                refine .rpG 43 (t := 44) rfl rfl rfl (by kernel_rfl) (by kernel_rfl) (by kernel_rfl) (Reads.pure (.pickF rfl rfl)) ?_
                refine .rp 44 rfl (by kernel_rfl) (by kernel_rfl) (by kernel_rfl) (Reads.pure (.pickT rfl rfl)) ?_
                refine .done (by kernel_rfl) ⟨rfl, ?_, by repeat (first | exact Le.refl _ | refine Le.skip rfl ?_)⟩
                exact congrArg (fun x => some (Value.bool x)) (Eq.symm (show genP x (callR h x) k' y = _ by unfold genP; (rw [g7_1, decide_eq_true g7_14, decide_eq_false g7_26, decide_eq_false g7_30]) <;> rfl))
          · replace g7_14 := of_decide_eq_false g7_14
            refine .off 15 (t := 44) rfl rfl rfl rfl (by kernel_rfl) (by kernel_rfl) (by kernel_rfl) ?_
            refine .off 16 (t := 44) rfl rfl rfl rfl (by kernel_rfl) (by kernel_rfl) (by kernel_rfl) ?_
            refine .off 17 (t := 44) rfl rfl rfl rfl (by kernel_rfl) (by kernel_rfl) (by kernel_rfl) ?_
            refine .off 18 (t := 44) rfl rfl rfl rfl (by kernel_rfl) (by kernel_rfl) (by kernel_rfl) ?_
            refine .off 19 (t := 44) rfl rfl rfl rfl (by kernel_rfl) (by kernel_rfl) (by kernel_rfl) ?_
            refine .off 20 (t := 44) rfl rfl rfl rfl (by kernel_rfl) (by kernel_rfl) (by kernel_rfl) ?_
            refine .off 21 (t := 44) rfl rfl rfl rfl (by kernel_rfl) (by kernel_rfl) (by kernel_rfl) ?_
            refine .off 22 (t := 44) rfl rfl rfl rfl (by kernel_rfl) (by kernel_rfl) (by kernel_rfl) ?_
            refine .off 23 (t := 44) rfl rfl rfl rfl (by kernel_rfl) (by kernel_rfl) (by kernel_rfl) ?_
            refine .off 24 (t := 44) rfl rfl rfl rfl (by kernel_rfl) (by kernel_rfl) (by kernel_rfl) ?_
            refine .off 25 (t := 44) rfl rfl rfl rfl (by kernel_rfl) (by kernel_rfl) (by kernel_rfl) ?_
            refine .offU 26 (t := 44) rfl rfl rfl rfl (by kernel_rfl) (by kernel_rfl) (by kernel_rfl) ?_
            refine .offX 27 (t := 56) rfl rfl rfl (by kernel_rfl) (by kernel_rfl) (by kernel_rfl) ?_
            refine .offX 28 (t := 56) rfl rfl rfl (by kernel_rfl) (by kernel_rfl) (by kernel_rfl) ?_
            refine .offX 29 (t := 56) rfl rfl rfl (by kernel_rfl) (by kernel_rfl) (by kernel_rfl) ?_
            refine .offX 30 (t := 56) rfl rfl rfl (by kernel_rfl) (by kernel_rfl) (by kernel_rfl) ?_
            refine .offX 31 (t := 60) rfl rfl rfl (by kernel_rfl) (by kernel_rfl) (by kernel_rfl) ?_
            refine .offX 32 (t := 60) rfl rfl rfl (by kernel_rfl) (by kernel_rfl) (by kernel_rfl) ?_
            refine .offX 33 (t := 60) rfl rfl rfl (by kernel_rfl) (by kernel_rfl) (by kernel_rfl) ?_
            refine .offX 34 (t := 60) rfl rfl rfl (by kernel_rfl) (by kernel_rfl) (by kernel_rfl) ?_
            refine .offX 35 (t := 60) rfl rfl rfl (by kernel_rfl) (by kernel_rfl) (by kernel_rfl) ?_
            refine .offX 36 (t := 60) rfl rfl rfl (by kernel_rfl) (by kernel_rfl) (by kernel_rfl) ?_
            refine .offX 37 (t := 60) rfl rfl rfl (by kernel_rfl) (by kernel_rfl) (by kernel_rfl) ?_
            refine .offX 38 (t := 60) rfl rfl rfl (by kernel_rfl) (by kernel_rfl) (by kernel_rfl) ?_
            refine .offX 39 (t := 60) rfl rfl rfl (by kernel_rfl) (by kernel_rfl) (by kernel_rfl) ?_
            refine .offX 40 (t := 60) rfl rfl rfl (by kernel_rfl) (by kernel_rfl) (by kernel_rfl) ?_
            refine .offX 41 (t := 60) rfl rfl rfl (by kernel_rfl) (by kernel_rfl) (by kernel_rfl) ?_
            refine .offX 42 (t := 56) rfl rfl rfl (by kernel_rfl) (by kernel_rfl) (by kernel_rfl) ?_
            refine .off 43 (t := 44) rfl rfl rfl rfl (by kernel_rfl) (by kernel_rfl) (by kernel_rfl) ?_
            refine .rp 44 rfl (by kernel_rfl) (by kernel_rfl) (by kernel_rfl) (Reads.pure (.pickF rfl rfl)) ?_
            refine .done (by kernel_rfl) ⟨rfl, ?_, by repeat (first | exact Le.refl _ | refine Le.skip rfl ?_)⟩
            exact congrArg (fun x => some (Value.bool x)) (Eq.symm (show genP x (callR h x) k' y = _ by unfold genP; (rw [g7_1, decide_eq_false g7_14]) <;> rfl))
        · refine .off 2 (t := 31) rfl rfl rfl rfl (by kernel_rfl) (by kernel_rfl) (by kernel_rfl) ?_
          refine .off 3 (t := 31) rfl rfl rfl rfl (by kernel_rfl) (by kernel_rfl) (by kernel_rfl) ?_
          refine .off 4 (t := 31) rfl rfl rfl rfl (by kernel_rfl) (by kernel_rfl) (by kernel_rfl) ?_
          refine .off 5 (t := 31) rfl rfl rfl rfl (by kernel_rfl) (by kernel_rfl) (by kernel_rfl) ?_
          refine .off 6 (t := 31) rfl rfl rfl rfl (by kernel_rfl) (by kernel_rfl) (by kernel_rfl) ?_
          refine .off 7 (t := 31) rfl rfl rfl rfl (by kernel_rfl) (by kernel_rfl) (by kernel_rfl) ?_
          refine .off 8 (t := 31) rfl rfl rfl rfl (by kernel_rfl) (by kernel_rfl) (by kernel_rfl) ?_
          refine .off 9 (t := 31) rfl rfl rfl rfl (by kernel_rfl) (by kernel_rfl) (by kernel_rfl) ?_
          refine .off 10 (t := 31) rfl rfl rfl rfl (by kernel_rfl) (by kernel_rfl) (by kernel_rfl) ?_
          refine .off 11 (t := 31) rfl rfl rfl rfl (by kernel_rfl) (by kernel_rfl) (by kernel_rfl) ?_
          refine .off 12 (t := 31) rfl rfl rfl rfl (by kernel_rfl) (by kernel_rfl) (by kernel_rfl) ?_
          refine .rp 13 rfl (by kernel_rfl) (by kernel_rfl) (by kernel_rfl) (Reads.pure (.pickF rfl rfl)) ?_
          refine .rp 14 rfl (by kernel_rfl) (by kernel_rfl) (by kernel_rfl) (Reads.pure (.move rfl)) ?_
          refine .off 15 (t := 44) rfl rfl rfl rfl (by kernel_rfl) (by kernel_rfl) (by kernel_rfl) ?_
          refine .off 16 (t := 44) rfl rfl rfl rfl (by kernel_rfl) (by kernel_rfl) (by kernel_rfl) ?_
          refine .off 17 (t := 44) rfl rfl rfl rfl (by kernel_rfl) (by kernel_rfl) (by kernel_rfl) ?_
          refine .off 18 (t := 44) rfl rfl rfl rfl (by kernel_rfl) (by kernel_rfl) (by kernel_rfl) ?_
          refine .off 19 (t := 44) rfl rfl rfl rfl (by kernel_rfl) (by kernel_rfl) (by kernel_rfl) ?_
          refine .off 20 (t := 44) rfl rfl rfl rfl (by kernel_rfl) (by kernel_rfl) (by kernel_rfl) ?_
          refine .off 21 (t := 44) rfl rfl rfl rfl (by kernel_rfl) (by kernel_rfl) (by kernel_rfl) ?_
          refine .off 22 (t := 44) rfl rfl rfl rfl (by kernel_rfl) (by kernel_rfl) (by kernel_rfl) ?_
          refine .off 23 (t := 44) rfl rfl rfl rfl (by kernel_rfl) (by kernel_rfl) (by kernel_rfl) ?_
          refine .off 24 (t := 44) rfl rfl rfl rfl (by kernel_rfl) (by kernel_rfl) (by kernel_rfl) ?_
          refine .off 25 (t := 44) rfl rfl rfl rfl (by kernel_rfl) (by kernel_rfl) (by kernel_rfl) ?_
          refine .offU 26 (t := 44) rfl rfl rfl rfl (by kernel_rfl) (by kernel_rfl) (by kernel_rfl) ?_
          refine .offX 27 (t := 56) rfl rfl rfl (by kernel_rfl) (by kernel_rfl) (by kernel_rfl) ?_
          refine .offX 28 (t := 56) rfl rfl rfl (by kernel_rfl) (by kernel_rfl) (by kernel_rfl) ?_
          refine .offX 29 (t := 56) rfl rfl rfl (by kernel_rfl) (by kernel_rfl) (by kernel_rfl) ?_
          refine .offX 30 (t := 56) rfl rfl rfl (by kernel_rfl) (by kernel_rfl) (by kernel_rfl) ?_
          refine .offX 31 (t := 60) rfl rfl rfl (by kernel_rfl) (by kernel_rfl) (by kernel_rfl) ?_
          refine .offX 32 (t := 60) rfl rfl rfl (by kernel_rfl) (by kernel_rfl) (by kernel_rfl) ?_
          refine .offX 33 (t := 60) rfl rfl rfl (by kernel_rfl) (by kernel_rfl) (by kernel_rfl) ?_
          refine .offX 34 (t := 60) rfl rfl rfl (by kernel_rfl) (by kernel_rfl) (by kernel_rfl) ?_
          refine .offX 35 (t := 60) rfl rfl rfl (by kernel_rfl) (by kernel_rfl) (by kernel_rfl) ?_
          refine .offX 36 (t := 60) rfl rfl rfl (by kernel_rfl) (by kernel_rfl) (by kernel_rfl) ?_
          refine .offX 37 (t := 60) rfl rfl rfl (by kernel_rfl) (by kernel_rfl) (by kernel_rfl) ?_
          refine .offX 38 (t := 60) rfl rfl rfl (by kernel_rfl) (by kernel_rfl) (by kernel_rfl) ?_
          refine .offX 39 (t := 60) rfl rfl rfl (by kernel_rfl) (by kernel_rfl) (by kernel_rfl) ?_
          refine .offX 40 (t := 60) rfl rfl rfl (by kernel_rfl) (by kernel_rfl) (by kernel_rfl) ?_
          refine .offX 41 (t := 60) rfl rfl rfl (by kernel_rfl) (by kernel_rfl) (by kernel_rfl) ?_
          refine .offX 42 (t := 56) rfl rfl rfl (by kernel_rfl) (by kernel_rfl) (by kernel_rfl) ?_
          refine .off 43 (t := 44) rfl rfl rfl rfl (by kernel_rfl) (by kernel_rfl) (by kernel_rfl) ?_
          refine .rp 44 rfl (by kernel_rfl) (by kernel_rfl) (by kernel_rfl) (Reads.pure (.pickF rfl rfl)) ?_
          refine .done (by kernel_rfl) ⟨rfl, ?_, by repeat (first | exact Le.refl _ | refine Le.skip rfl ?_)⟩
          exact congrArg (fun x => some (Value.bool x)) (Eq.symm (show genP x (callR h x) k' y = _ by unfold genP; (rw [g7_1]) <;> rfl))
      refine .cond rfl (fun hP => ?_) (fun hP => ?_)
      · refine .seq ?_
        refine .region ?_   -- R8 ref.go:143
        refine .rd (.assign rfl) ?_
        refine .nil ?_
        have hv : genB h x = true := by unfold genB; rw [hg, anyAt_hit hy hP]; rfl
        rw [hv]
        refine .retP Try.func27 (.cons (.tmp rfl) .nil) (.cons .head .nil) ?_
        exact ⟨[], ⟨rfl, rfl⟩, rfl⟩
      · refine .skip ?_
        refine .inBlock ?_
        refine .region ?_   -- R5 ref.go:140
        refine .rd (.move rfl) ?_
        refine .rd (.add rfl rfl (by omega) (by omega)) ?_
        refine .rd (.assign rfl) ?_
        refine .nil ?_
        exact (ih (k' + 1) ⟨by omega, upto_next hI.2 hy (by simpa using hP)⟩ (by omega)).to (.cons rfl (.cons rfl (.cons rfl (.cons rfl (.cons rfl .nil))))) (.cons .head .nil)
    · refine .exit rfl ?_
      refine .seq ?_
      refine .region ?_   -- R9 ref.go:146
      refine .rd (.assign rfl) ?_
      refine .nil ?_
      have hv : genB h x = false := by unfold genB; rw [hg]; rfl
      rw [hv]
      refine .retP Try.func27 (.cons (.tmp rfl) .nil) (.cons .head .nil) ?_
      exact ⟨[], ⟨rfl, rfl⟩, rfl⟩
  · replace gk := of_decide_eq_false gk
    refine .off (t := 20) rfl rfl rfl ?_
    refine .rd (.pickF rfl rfl) ?_
    refine .nil ?_
    refine .condF rfl ?_
    refine .exit rfl ?_
    refine .seq ?_
    refine .region ?_   -- R9 ref.go:146
    refine .rd (.assign rfl) ?_
    refine .nil ?_
    have hv : genB h x = false := by unfold genB; rw [anyAt_miss (n := k') (by omega) hI.2]; exact Bool.and_false _
    rw [hv]
    refine .retP Try.func27 (.cons (.tmp rfl) .nil) (.cons .head .nil) ?_
    exact ⟨[], ⟨rfl, rfl⟩, rfl⟩

set_option maxRecDepth 20000 in
theorem order_ok (a : Option Addr) (n c : Nat) (h : List Sn) (x : Sn) (i : Nat) (hi : h.length = i) (hn : i < n) (hb : n ≤ 1000000) : Cn Try.prog 25 [.slice a n c, .int .i64 (i : Int)] (RowAt a ((h ++ [x]).flatMap Sn.cells)) [] fun v G => v = .bool (orderB h x) ∧ G = [] := by
  refine .enter Try.func25 rfl (by kernel_rfl) rfl fun R k => ?_
  have hx : (h ++ [x])[i]? = some x := at_last hi
  refine .tell (φ := ∃ b o, a = some ⟨b, o, none⟩) (Knows.pick .head (k.mono fun _ h => RowAt.addr h (by rw [flat_length Sn.cells_len]; simp))) (fun hh => ?_)
  obtain ⟨bb, oo, rfl⟩ := hh
  refine .seq ?_
  refine .region ?_   -- R0 ref.go:109
  refine .rd (.assign rfl) ?_
  refine .nil ?_
  refine .seq ?_
  refine .region ?_   -- R1 ref.go:110
  refine .rd (.move rfl) ?_
  refine .rd (.move rfl) ?_
  refine .rd (.indexAddr Try.underlying22 ts36 rfl rfl (by omega) (by omega)) ?_
  refine .rd (.loadN ia36 ts36 rfl rfl (Knows.elem (f := Sn.cells) Sn.cells_len (by decide) (Knows.pick .head k) hx)) ?_
  refine .ef (.alloc ti36 rfl (ones.of rfl)) ?_
  rintro _ _ ⟨b5, rfl, rfl⟩
  refine .ef0 (.storeAll (vs := x.cells) ts36 rfl rfl rfl .head rfl (ones.of rfl)) ?_
  rintro _ _ rfl
  refine .nil ?_
  refine .seq ?_
  refine .region ?_   -- R2 ref.go:111
  refine .rd (.ldN ia36 ts36 rfl .head rfl) ?_
  refine .fn rfl rfl .nil (fun _ _ _ => trivial) (good_ok x 10 10) (fun v G1 hq => ?_)
  obtain ⟨rfl, rfl⟩ := hq
  simp only [List.nil_append]
  refine .rd (.assign rfl) ?_
  refine .nil ?_
  refine .seq ?_
  refine .seq ?_
  refine .region ?_   -- R3 ref.go:112
  refine .rd (.assign rfl) ?_
  refine .nil ?_
  refine .block ?_
  refine .loop (σ := Nat) (fun k' => k' ≤ i ∧ ∀ k < k', ∀ y, h[k]? = some y → orderP x y = false) (fun k' => i - k') (fun k' => [(0, .slice (some ⟨bb, oo, none⟩) n c), (1, .int .i64 (i : Int)), (5, .pointer (some ⟨b5, 0, none⟩)), (6, .bool (goodB x 10 10)), (7, .int .i64 (k' : Nat))]) (fun k' => [blk b5 x.cells 36, R]) 0 ⟨Nat.zero_le _, fun k hk => by omega⟩ (.cons rfl (.cons rfl (.cons rfl (.cons rfl (.cons rfl .nil))))) (.cons .head (.cons .head .nil)) (fun k' hI ih => ?_)
  have hki := hI.1
  refine .seq ?_
  refine .seq ?_
  refine .region ?_   -- R4 ref.go:112
  refine .rd (.move rfl) ?_
  refine .rd (.move rfl) ?_
  refine .rd (.lt rfl rfl) ?_
  refine .rd (.move rfl) ?_
  refine .split (t := 19) rfl (fun gk => ?_) (fun gk => ?_)
  · replace gk := of_decide_eq_true gk
    refine .on (t := 19) rfl rfl ?_
    refine .rd (.move rfl) ?_
    refine .rd (.pickT rfl rfl) ?_
    refine .nil ?_
    refine .cond rfl (fun hg => ?_) (fun hg => ?_)
    · refine .skip ?_
      refine .seq ?_
      refine .block ?_
      refine .seq ?_
      obtain ⟨y, hy⟩ : ∃ y, h[k']? = some y := ⟨_, List.getElem?_eq_getElem (by omega)⟩
      have hy' := at_left (x := x) (show k' < h.length by omega) hy
      refine .region ?_   -- R6 ref.go:113
      refine .rd (.move rfl) ?_
      refine .rd (.move rfl) ?_
      refine .rd (.indexAddr Try.underlying22 ts36 rfl rfl (by omega) (by omega)) ?_
      refine .rd (.loadN ia36 ts36 rfl rfl (Knows.elem (f := Sn.cells) Sn.cells_len (by decide) (Knows.pick (.tail .head) k) hy')) ?_
      refine .ef (.alloc ti36 rfl (ones.of rfl)) ?_
      rintro _ _ ⟨b8, rfl, rfl⟩
      refine .ef0 (.storeAll (vs := y.cells) ts36 rfl rfl rfl .head rfl (ones.of rfl)) ?_
      rintro _ _ rfl
      refine .nil ?_
      refine .seq ?_
      refine .region ?_   -- R7 ref.go:114
      refine .rd (.ldN ia36 ts36 rfl .head rfl) ?_
      refine .fn rfl rfl .nil (fun _ _ _ => trivial) (good_ok y 10 10) (fun v G1 hq => ?_)
      obtain ⟨rfl, rfl⟩ := hq
      simp only [List.nil_append]
      refine .rd (.assign rfl) ?_
      refine .nil ?_
      refine .seq ?_
      refine .seq ?_
      refine .region ?_   -- R8 ref.go:115
      refine RunO.join 23 52 (skipO x y) ?_ ?_
      · refine .rd (.move rfl) ?_
        refine .rd (.not rfl) ?_
        refine .rd (.move rfl) ?_
        refine .split (t := 32) rfl (fun g8_2 => ?_) (fun g8_2 => ?_)
        · refine .off (t := 32) rfl rfl rfl ?_
          refine .off (t := 32) rfl rfl rfl ?_
          refine .off (t := 32) rfl rfl rfl ?_
          refine .off (t := 32) rfl rfl rfl ?_
          refine .off (t := 32) rfl rfl rfl ?_
          refine .rd (.pickT rfl rfl) ?_
          refine .rd (.move rfl) ?_
          refine .off (t := 39) rfl rfl rfl ?_
          refine .off (t := 39) rfl rfl rfl ?_
          refine .off (t := 39) rfl rfl rfl ?_
          refine .off (t := 39) rfl rfl rfl ?_
          refine .off (t := 39) rfl rfl rfl ?_
          refine .rd (.pickT rfl rfl) ?_
          refine .rd (.move rfl) ?_
          refine .off (t := 46) rfl rfl rfl ?_
          refine .off (t := 46) rfl rfl rfl ?_
          refine .off (t := 46) rfl rfl rfl ?_
          refine .off (t := 46) rfl rfl rfl ?_
          refine .off (t := 46) rfl rfl rfl ?_
          refine .rd (.pickT rfl rfl) ?_
          refine .nil ⟨rfl, ?_, by repeat (first | exact Le.refl _ | refine Le.skip rfl ?_)⟩
          exact congrArg (fun x => some (Value.bool x)) (Eq.symm (show skipO x y = _ by unfold skipO; (rw [g8_2]) <;> rfl))
        · refine .on (t := 32) rfl rfl ?_
          refine .rd (.fieldAddr fd36_3 rfl) ?_
          refine .on (t := 32) rfl rfl ?_
          refine .rd (.ld na3 rfl .head rfl) ?_
          refine .on (t := 32) rfl rfl ?_
          refine .rd (.fieldAddr fd36_3 rfl) ?_
          refine .on (t := 32) rfl rfl ?_
          refine .rd (.ld na3 rfl (.tail .head) rfl) ?_
          refine .on (t := 32) rfl rfl ?_
          refine .rd (.neI rfl rfl) ?_
          refine .rd (.pickF rfl rfl) ?_
          refine .rd (.move rfl) ?_
          refine .split (t := 39) rfl (fun g8_9 => ?_) (fun g8_9 => ?_)
          · simp at g8_9
            refine .off (t := 39) rfl rfl rfl ?_
            refine .off (t := 39) rfl rfl rfl ?_
            refine .off (t := 39) rfl rfl rfl ?_
            refine .off (t := 39) rfl rfl rfl ?_
            refine .off (t := 39) rfl rfl rfl ?_
            refine .rd (.pickT rfl rfl) ?_
            refine .rd (.move rfl) ?_
            refine .off (t := 46) rfl rfl rfl ?_
            refine .off (t := 46) rfl rfl rfl ?_
            refine .off (t := 46) rfl rfl rfl ?_
            refine .off (t := 46) rfl rfl rfl ?_
            refine .off (t := 46) rfl rfl rfl ?_
            refine .rd (.pickT rfl rfl) ?_
            refine .nil ⟨rfl, ?_, by repeat (first | exact Le.refl _ | refine Le.skip rfl ?_)⟩
            exact congrArg (fun x => some (Value.bool x)) (Eq.symm (show skipO x y = _ by unfold skipO; (rw [g8_2, decide_eq_false g8_9]) <;> rfl))
          · simp at g8_9
            refine .on (t := 39) rfl rfl ?_
            refine .rd (.fieldAddr fd36_5 rfl) ?_
            refine .on (t := 39) rfl rfl ?_
            refine .rd (.ld na3 rfl .head rfl) ?_
            refine .on (t := 39) rfl rfl ?_
            refine .rd (.fieldAddr fd36_5 rfl) ?_
            refine .on (t := 39) rfl rfl ?_
            refine .rd (.ld na3 rfl (.tail .head) rfl) ?_
            refine .on (t := 39) rfl rfl ?_
            refine .rd (.neI rfl rfl) ?_
            refine .rd (.pickF rfl rfl) ?_
            refine .rd (.move rfl) ?_
            refine .split (t := 46) rfl (fun g8_16 => ?_) (fun g8_16 => ?_)
            · simp at g8_16
              refine .off (t := 46) rfl rfl rfl ?_
              refine .off (t := 46) rfl rfl rfl ?_
              refine .off (t := 46) rfl rfl rfl ?_
              refine .off (t := 46) rfl rfl rfl ?_
              refine .off (t := 46) rfl rfl rfl ?_
              refine .rd (.pickT rfl rfl) ?_
              refine .nil ⟨rfl, ?_, by repeat (first | exact Le.refl _ | refine Le.skip rfl ?_)⟩
              exact congrArg (fun x => some (Value.bool x)) (Eq.symm (show skipO x y = _ by unfold skipO; (rw [g8_2, decide_eq_true g8_9, decide_eq_false g8_16]) <;> rfl))
            · simp at g8_16
              refine .on (t := 46) rfl rfl ?_
              refine .rd (.fieldAddr fd36_6 rfl) ?_
              refine .on (t := 46) rfl rfl ?_
              refine .rd (.ld na3 rfl .head rfl) ?_
              refine .on (t := 46) rfl rfl ?_
              refine .rd (.fieldAddr fd36_6 rfl) ?_
              refine .on (t := 46) rfl rfl ?_
              refine .rd (.ld na3 rfl (.tail .head) rfl) ?_
              refine .on (t := 46) rfl rfl ?_
              refine .rd (.neI rfl rfl) ?_
              refine .rd (.pickF rfl rfl) ?_
              refine .nil ⟨rfl, ?_, by repeat (first | exact Le.refl _ | refine Le.skip rfl ?_)⟩
              exact congrArg (fun x => some (Value.bool x)) (Eq.symm (show skipO x y = _ by unfold skipO; (rw [g8_2, decide_eq_true g8_9, decide_eq_true g8_16]) <;> rfl))
      refine .nil ?_
      refine .cond rfl (fun hS => ?_) (fun hS => ?_)
      · refine .exit rfl ?_
        refine .region ?_   -- R5 ref.go:112
        refine .rd (.move rfl) ?_
        refine .rd (.add rfl rfl (by omega) (by omega)) ?_
        refine .rd (.assign rfl) ?_
        refine .nil ?_
        exact (ih (k' + 1) ⟨by omega, upto_next hI.2 hy (by unfold orderP; rw [hS]; rfl)⟩ (by omega)).to (.cons rfl (.cons rfl (.cons rfl (.cons rfl (.cons rfl .nil))))) (.cons (.tail .head) (.cons (.tail .head) .nil))
      · refine .skip ?_
        refine .seq ?_
        refine .region ?_   -- R9 ref.go:118
        refine RunO.join 33 85 (badO_ x y) ?_ ?_
        · refine .rd (.fieldAddr fd36_7 rfl) ?_
          refine .rd (.ld na3 rfl .head rfl) ?_
          refine .rd (.fieldAddr fd36_7 rfl) ?_
          refine .rd (.ld na3 rfl (.tail .head) rfl) ?_
          refine .rd (.eqI rfl rfl) ?_
          refine .rd (.move rfl) ?_
          refine .split (t := 58) rfl (fun g9_5 => ?_) (fun g9_5 => ?_)
          · replace g9_5 := of_decide_eq_true g9_5
            refine .off (t := 58) rfl rfl rfl ?_
            refine .off (t := 58) rfl rfl rfl ?_
            refine .off (t := 58) rfl rfl rfl ?_
            refine .off (t := 58) rfl rfl rfl ?_
            refine .off (t := 58) rfl rfl rfl ?_
            refine .offU (t := 58) rfl rfl rfl rfl ?_
            refine .offX (t := 64) rfl rfl rfl ?_
            refine .offX (t := 64) rfl rfl rfl ?_
            refine .offX (t := 64) rfl rfl rfl ?_
            refine .offX (t := 64) rfl rfl rfl ?_
            refine .offX (t := 64) rfl rfl rfl ?_
            refine .off (t := 58) rfl rfl rfl ?_
            refine .rd (.pickT rfl rfl) ?_
            refine .rd (.move rfl) ?_
            refine .off (t := 72) rfl rfl rfl ?_
            refine .off (t := 72) rfl rfl rfl ?_
            refine .off (t := 72) rfl rfl rfl ?_
            refine .off (t := 72) rfl rfl rfl ?_
            refine .off (t := 72) rfl rfl rfl ?_
            refine .offU (t := 72) rfl rfl rfl rfl ?_
            refine .offX (t := 78) rfl rfl rfl ?_
            refine .offX (t := 78) rfl rfl rfl ?_
            refine .offX (t := 78) rfl rfl rfl ?_
            refine .offX (t := 78) rfl rfl rfl ?_
            refine .offX (t := 78) rfl rfl rfl ?_
            refine .off (t := 72) rfl rfl rfl ?_
            refine .rd (.pickT rfl rfl) ?_
            refine .nil ⟨rfl, ?_, by repeat (first | exact Le.refl _ | refine Le.skip rfl ?_)⟩
            exact congrArg (fun x => some (Value.bool x)) (Eq.symm (show badO_ x y = _ by unfold badO_; (rw [decide_eq_true g9_5]) <;> rfl))
          · replace g9_5 := of_decide_eq_false g9_5
            refine .on (t := 58) rfl rfl ?_
            refine .rd (.fieldAddr fd36_7 rfl) ?_
            refine .on (t := 58) rfl rfl ?_
            refine .rd (.ld na3 rfl .head rfl) ?_
            refine .on (t := 58) rfl rfl ?_
            refine .rd (.fieldAddr fd36_7 rfl) ?_
            refine .on (t := 58) rfl rfl ?_
            refine .rd (.ld na3 rfl (.tail .head) rfl) ?_
            refine .on (t := 58) rfl rfl ?_
            refine .rd (.lt rfl rfl) ?_
            refine .on (t := 58) rfl rfl ?_
            refine .rd (.move rfl) ?_
            refine .split (t := 64) rfl (fun g9_11 => ?_) (fun g9_11 => ?_)
            · replace g9_11 := of_decide_eq_true g9_11
              refine .on (t := 64) rfl rfl ?_
              refine .rd (.fieldAddr fd36_4 rfl) ?_
              refine .on (t := 64) rfl rfl ?_
              refine .rd (.ld na3 rfl .head rfl) ?_
              refine .on (t := 64) rfl rfl ?_
              refine .rd (.fieldAddr fd36_4 rfl) ?_
              refine .on (t := 64) rfl rfl ?_
              refine .rd (.ld na3 rfl (.tail .head) rfl) ?_
              refine .on (t := 64) rfl rfl ?_
              refine .rd (.ge rfl rfl) ?_
              refine .on (t := 58) rfl rfl ?_
              refine .rd (.pickT rfl rfl) ?_
              refine .rd (.pickF rfl rfl) ?_
              refine .rd (.move rfl) ?_
              refine .split (t := 72) rfl (fun g9_19 => ?_) (fun g9_19 => ?_)
              · replace g9_19 := of_decide_eq_true g9_19
                refine .off (t := 72) rfl rfl rfl ?_
                refine .off (t := 72) rfl rfl rfl ?_
                refine .off (t := 72) rfl rfl rfl ?_
                refine .off (t := 72) rfl rfl rfl ?_
                refine .off (t := 72) rfl rfl rfl ?_
                refine .offU (t := 72) rfl rfl rfl rfl ?_
                refine .offX (t := 78) rfl rfl rfl ?_
                refine .offX (t := 78) rfl rfl rfl ?_
                refine .offX (t := 78) rfl rfl rfl ?_
                refine .offX (t := 78) rfl rfl rfl ?_
                refine .offX (t := 78) rfl rfl rfl ?_
                refine .off (t := 72) rfl rfl rfl ?_
                refine .rd (.pickT rfl rfl) ?_
                refine .nil ⟨rfl, ?_, by repeat (first | exact Le.refl _ | refine Le.skip rfl ?_)⟩
                exact congrArg (fun x => some (Value.bool x)) (Eq.symm (show badO_ x y = _ by unfold badO_; (rw [decide_eq_false g9_5, decide_eq_true g9_11, decide_eq_true g9_19]) <;> rfl))
              · replace g9_19 := of_decide_eq_false g9_19
                refine .on (t := 72) rfl rfl ?_
                refine .rd (.fieldAddr fd36_7 rfl) ?_
                refine .on (t := 72) rfl rfl ?_
                refine .rd (.ld na3 rfl .head rfl) ?_
                refine .on (t := 72) rfl rfl ?_
                refine .rd (.fieldAddr fd36_7 rfl) ?_
                refine .on (t := 72) rfl rfl ?_
                refine .rd (.ld na3 rfl (.tail .head) rfl) ?_
                refine .on (t := 72) rfl rfl ?_
                refine .rd (.gt rfl rfl) ?_
                refine .on (t := 72) rfl rfl ?_
                refine .rd (.move rfl) ?_
                refine .split (t := 78) rfl (fun g9_25 => ?_) (fun g9_25 => ?_)
                · replace g9_25 := of_decide_eq_true g9_25
                  refine .on (t := 78) rfl rfl ?_
                  refine .rd (.fieldAddr fd36_4 rfl) ?_
                  refine .on (t := 78) rfl rfl ?_
                  refine .rd (.ld na3 rfl .head rfl) ?_
                  refine .on (t := 78) rfl rfl ?_
                  refine .rd (.fieldAddr fd36_4 rfl) ?_
                  refine .on (t := 78) rfl rfl ?_
                  refine .rd (.ld na3 rfl (.tail .head) rfl) ?_
                  refine .on (t := 78) rfl rfl ?_
                  refine .rd (.le rfl rfl) ?_
                  refine .on (t := 72) rfl rfl ?_
                  refine .rd (.pickT rfl rfl) ?_
                  refine .rd (.pickF rfl rfl) ?_
                  refine .nil ⟨rfl, ?_, by repeat (first | exact Le.refl _ | refine Le.skip rfl ?_)⟩
                  exact congrArg (fun x => some (Value.bool x)) (Eq.symm (show badO_ x y = _ by unfold badO_; (rw [decide_eq_false g9_5, decide_eq_true g9_11, decide_eq_false g9_19, decide_eq_true g9_25]) <;> rfl))
                · replace g9_25 := of_decide_eq_false g9_25
                  refine .off (t := 78) rfl rfl rfl ?_
                  refine .off (t := 78) rfl rfl rfl ?_
                  refine .off (t := 78) rfl rfl rfl ?_
                  refine .off (t := 78) rfl rfl rfl ?_
                  refine .off (t := 78) rfl rfl rfl ?_
                  refine .on (t := 72) rfl rfl ?_
                  refine .rd (.pickF rfl rfl) ?_
                  refine .rd (.pickF rfl rfl) ?_
                  refine .nil ⟨rfl, ?_, by repeat (first | exact Le.refl _ | refine Le.skip rfl ?_)⟩
                  exact congrArg (fun x => some (Value.bool x)) (Eq.symm (show badO_ x y = _ by unfold badO_; (rw [decide_eq_false g9_5, decide_eq_true g9_11, decide_eq_false g9_19, decide_eq_false g9_25]) <;> rfl))
            · replace g9_11 := of_decide_eq_false g9_11
              refine .off (t := 64) rfl rfl rfl ?_
              refine .off (t := 64) rfl rfl rfl ?_
              refine .off (t := 64) rfl rfl rfl ?_
              refine .off (t := 64) rfl rfl rfl ?_
              refine .off (t := 64) rfl rfl rfl ?_
              refine .on (t := 58) rfl rfl ?_
              refine .rd (.pickF rfl rfl) ?_
              refine .rd (.pickF rfl rfl) ?_
              refine .rd (.move rfl) ?_
              refine .on (t := 72) rfl rfl ?_
              refine .rd (.fieldAddr fd36_7 rfl) ?_
              refine .on (t := 72) rfl rfl ?_
              refine .rd (.ld na3 rfl .head rfl) ?_
              refine .on (t := 72) rfl rfl ?_
              refine .rd (.fieldAddr fd36_7 rfl) ?_
              refine .on (t := 72) rfl rfl ?_
              refine .rd (.ld na3 rfl (.tail .head) rfl) ?_
              refine .on (t := 72) rfl rfl ?_
              refine .rd (.gt rfl rfl) ?_
              refine .on (t := 72) rfl rfl ?_
              refine .rd (.move rfl) ?_
              refine .split (t := 78) rfl (fun g9_25 => ?_) (fun g9_25 => ?_)
              · replace g9_25 := of_decide_eq_true g9_25
                refine .on (t := 78) rfl rfl ?_
                refine .rd (.fieldAddr fd36_4 rfl) ?_
                refine .on (t := 78) rfl rfl ?_
                refine .rd (.ld na3 rfl .head rfl) ?_
                refine .on (t := 78) rfl rfl ?_
                refine .rd (.fieldAddr fd36_4 rfl) ?_
                refine .on (t := 78) rfl rfl ?_
                refine .rd (.ld na3 rfl (.tail .head) rfl) ?_
                refine .on (t := 78) rfl rfl ?_
                refine .rd (.le rfl rfl) ?_
                refine .on (t := 72) rfl rfl ?_
                refine .rd (.pickT rfl rfl) ?_
                refine .rd (.pickF rfl rfl) ?_
                refine .nil ⟨rfl, ?_, by repeat (first | exact Le.refl _ | refine Le.skip rfl ?_)⟩
                exact congrArg (fun x => some (Value.bool x)) (Eq.symm (show badO_ x y = _ by unfold badO_; (rw [decide_eq_false g9_5, decide_eq_false g9_11, decide_eq_true g9_25]) <;> rfl))
              · replace g9_25 := of_decide_eq_false g9_25
                refine .off (t := 78) rfl rfl rfl ?_
                refine .off (t := 78) rfl rfl rfl ?_
                refine .off (t := 78) rfl rfl rfl ?_
                refine .off (t := 78) rfl rfl rfl ?_
                refine .off (t := 78) rfl rfl rfl ?_
                refine .on (t := 72) rfl rfl ?_
                refine .rd (.pickF rfl rfl) ?_
                refine .rd (.pickF rfl rfl) ?_
                refine .nil ⟨rfl, ?_, by repeat (first | exact Le.refl _ | refine Le.skip rfl ?_)⟩
                exact congrArg (fun x => some (Value.bool x)) (Eq.symm (show badO_ x y = _ by unfold badO_; (rw [decide_eq_false g9_5, decide_eq_false g9_11, decide_eq_false g9_25]) <;> rfl))
        refine .nil ?_
        refine .cond rfl (fun hB => ?_) (fun hB => ?_)
        · refine .seq ?_
          refine .region ?_   -- R10 ref.go:119
          refine .rd (.assign rfl) ?_
          refine .nil ?_
          have hv : orderB h x = true := by unfold orderB; rw [hg, any_hit (P := orderP x) hy (by unfold orderP; rw [hS, hB]; rfl)]; rfl
          rw [hv]
          refine .retP Try.func25 (.cons (.tmp rfl) .nil) (.cons (.tail (.tail .head)) .nil) ?_
          exact ⟨[], ⟨rfl, rfl⟩, rfl⟩
        · refine .skip ?_
          refine .inBlock ?_
          refine .region ?_   -- R5 ref.go:112
          refine .rd (.move rfl) ?_
          refine .rd (.add rfl rfl (by omega) (by omega)) ?_
          refine .rd (.assign rfl) ?_
          refine .nil ?_
          exact (ih (k' + 1) ⟨by omega, upto_next hI.2 hy (by unfold orderP; rw [hS, hB]; rfl)⟩ (by omega)).to (.cons rfl (.cons rfl (.cons rfl (.cons rfl (.cons rfl .nil))))) (.cons (.tail .head) (.cons (.tail .head) .nil))
    · refine .exit rfl ?_
      refine .seq ?_
      refine .region ?_   -- R11 ref.go:122
      refine .rd (.assign rfl) ?_
      refine .nil ?_
      have hv : orderB h x = false := by unfold orderB; rw [hg]; rfl
      rw [hv]
      refine .retP Try.func25 (.cons (.tmp rfl) .nil) (.cons (.tail .head) .nil) ?_
      exact ⟨[], ⟨rfl, rfl⟩, rfl⟩
  · replace gk := of_decide_eq_false gk
    refine .off (t := 19) rfl rfl rfl ?_
    refine .rd (.pickF rfl rfl) ?_
    refine .nil ?_
    refine .condF rfl ?_
    refine .exit rfl ?_
    refine .seq ?_
    refine .region ?_   -- R11 ref.go:122
    refine .rd (.assign rfl) ?_
    refine .nil ?_
    have hv : orderB h x = false := by unfold orderB; rw [any_miss (n := k') (by omega) hI.2]; exact Bool.and_false _
    rw [hv]
    refine .retP Try.func25 (.cons (.tmp rfl) .nil) (.cons (.tail .head) .nil) ?_
    exact ⟨[], ⟨rfl, rfl⟩, rfl⟩

set_option maxRecDepth 20000 in
theorem call_ok (a : Option Addr) (n c : Nat) (h : List Sn) (x : Sn) (i : Nat) (hi : h.length = i) (hn : i < n) (hb : n ≤ 1000000) : Cn Try.prog 20 [.slice a n c, .int .i64 (i : Int)] (RowAt a ((h ++ [x]).flatMap Sn.cells)) [] fun v G => v = .bool (callB h x) ∧ G = [] := by
  refine .enter Try.func20 rfl (by kernel_rfl) rfl fun R k => ?_
  have hx : (h ++ [x])[i]? = some x := at_last hi
  refine .tell (φ := ∃ b o, a = some ⟨b, o, none⟩) (Knows.pick .head (k.mono fun _ h => RowAt.addr h (by rw [flat_length Sn.cells_len]; simp))) (fun hh => ?_)
  obtain ⟨bb, oo, rfl⟩ := hh
  refine .seq ?_
  refine .region ?_   -- R0 ref.go:32
  refine .rd (.assign rfl) ?_
  refine .nil ?_
  refine .seq ?_
  refine .seq ?_
  refine .region ?_   -- R1 ref.go:33
  refine .rd (.assign rfl) ?_
  refine .nil ?_
  refine .block ?_
  refine .loop (σ := Nat) (fun k' => k' ≤ i ∧ ∀ k < k', ∀ y, h[k]? = some y → sameOr x y = false) (fun k' => i - k') (fun k' => [(0, .slice (some ⟨bb, oo, none⟩) n c), (1, .int .i64 (i : Int)), (5, .int .i64 (k' : Nat))]) (fun k' => [R]) 0 ⟨Nat.zero_le _, fun k hk => by omega⟩ (.cons rfl (.cons rfl (.cons rfl .nil))) (.cons .head .nil) (fun k' hI ih => ?_)
  have hki := hI.1
  refine .seq ?_
  refine .seq ?_
  refine .region ?_   -- R2 ref.go:33
  refine .rd (.move rfl) ?_
  refine .rd (.move rfl) ?_
  refine .rd (.lt rfl rfl) ?_
  refine .nil ?_
  refine .condP rfl (fun h2 => ?_) (fun h2 => ?_)
  · refine .skip ?_
    refine .seq ?_
    refine .block ?_
    refine .seq ?_
    obtain ⟨y, hy⟩ : ∃ y, h[k']? = some y := ⟨_, List.getElem?_eq_getElem (by omega)⟩
    have hy' := at_left (x := x) (show k' < h.length by omega) hy
    refine .drawsJoin [4, 9, 16, 21] [R] 6 (sameB x y) (by kernel_rfl) ?_ ?_   -- R4 ref.go:34
    · refine .rp 0 rfl (by kernel_rfl) (by kernel_rfl) (by kernel_rfl) (Reads.pure (.move rfl)) ?_
      refine .rp 1 rfl (by kernel_rfl) (by kernel_rfl) (by kernel_rfl) (Reads.pure (.move rfl)) ?_
      refine .rp 2 rfl (by kernel_rfl) (by kernel_rfl) (by kernel_rfl) (Reads.pure (.indexAddr Try.underlying22 ts36 rfl rfl (by omega) (by omega))) ?_
      refine .rp 3 rfl (by kernel_rfl) (by kernel_rfl) (by kernel_rfl) (Reads.pure (.fieldAddr fd36_0 rfl)) ?_
      refine .rd 4 rfl rfl (by kernel_rfl) (by kernel_rfl) (by kernel_rfl) (.load na3 rfl (Knows.one (i := 0) (Knows.elem (f := Sn.cells) Sn.cells_len (by decide) (Knows.pick .head k) hy') rfl)) (.cons .head .nil) ?_
      refine .rp 5 rfl (by kernel_rfl) (by kernel_rfl) (by kernel_rfl) (Reads.pure (.move rfl)) ?_
      refine .rp 6 rfl (by kernel_rfl) (by kernel_rfl) (by kernel_rfl) (Reads.pure (.move rfl)) ?_
      refine .rp 7 rfl (by kernel_rfl) (by kernel_rfl) (by kernel_rfl) (Reads.pure (.indexAddr Try.underlying22 ts36 rfl rfl (by omega) (by omega))) ?_
      refine .rp 8 rfl (by kernel_rfl) (by kernel_rfl) (by kernel_rfl) (Reads.pure (.fieldAddr fd36_0 rfl)) ?_
      refine .rd 9 rfl rfl (by kernel_rfl) (by kernel_rfl) (by kernel_rfl) (.load na3 rfl (Knows.one (i := 0) (Knows.elem (f := Sn.cells) Sn.cells_len (by decide) (Knows.pick .head k) hx) rfl)) (.cons .head .nil) ?_
      refine .rp 10 rfl (by kernel_rfl) (by kernel_rfl) (by kernel_rfl) (Reads.pure (.eqI rfl rfl)) ?_
      refine .rp 11 rfl (by kernel_rfl) (by kernel_rfl) (by kernel_rfl) (Reads.pure (.move rfl)) ?_
      refine .split (t := 24) rfl (fun g4_11 => ?_) (fun g4_11 => ?_)
      · replace g4_11 := of_decide_eq_true g4_11
        refine .rpG 12 (t := 24) rfl rfl rfl (by kernel_rfl) (by kernel_rfl) (by kernel_rfl) (Reads.pure (.move rfl)) ?_
        refine .rpG 13 (t := 24) rfl rfl rfl (by kernel_rfl) (by kernel_rfl) (by kernel_rfl) (Reads.pure (.move rfl)) ?_
        refine .rpG 14 (t := 24) rfl rfl rfl (by kernel_rfl) (by kernel_rfl) (by kernel_rfl) (Reads.pure (.indexAddr Try.underlying22 ts36 rfl rfl (by omega) (by omega))) ?_
        refine .rpG 15 (t := 24) rfl rfl rfl (by kernel_rfl) (by kernel_rfl) (by kernel_rfl) (Reads.pure (.fieldAddr fd36_1 rfl)) ?_
        refine .rdG 16 (t := 24) rfl rfl rfl rfl (by kernel_rfl) (by kernel_rfl) (by kernel_rfl) (.load na3 rfl (Knows.one (i := 1) (Knows.elem (f := Sn.cells) Sn.cells_len (by decide) (Knows.pick .head k) hy') rfl)) (.cons .head .nil) ?_
        refine .rpG 17 (t := 24) rfl rfl rfl (by kernel_rfl) (by kernel_rfl) (by kernel_rfl) (Reads.pure (.move rfl)) ?_
        refine .rpG 18 (t := 24) rfl rfl rfl (by kernel_rfl) (by kernel_rfl) (by kernel_rfl) (Reads.pure (.move rfl)) ?_
        refine .rpG 19 (t := 24) rfl rfl rfl (by kernel_rfl) (by kernel_rfl) (by kernel_rfl) (Reads.pure (.indexAddr Try.underlying22 ts36 rfl rfl (by omega) (by omega))) ?_
        refine .rpG 20 (t := 24) rfl rfl rfl (by kernel_rfl) (by kernel_rfl) (by kernel_rfl) (Reads.pure (.fieldAddr fd36_1 rfl)) ?_
        refine .rdG 21 (t := 24) rfl rfl rfl rfl (by kernel_rfl) (by kernel_rfl) (by kernel_rfl) (.load na3 rfl (Knows.one (i := 1) (Knows.elem (f := Sn.cells) Sn.cells_len (by decide) (Knows.pick .head k) hx) rfl)) (.cons .head .nil) ?_
        refine .rpG 22 (t := 24) rfl rfl rfl (by kernel_rfl) (by kernel_rfl) (by kernel_rfl) (Reads.pure (.eqI rfl rfl)) ?_
        refine .rp 23 rfl (by kernel_rfl) (by kernel_rfl) (by kernel_rfl) (Reads.pure (.pickT rfl rfl)) ?_
        refine .rp 24 rfl (by kernel_rfl) (by kernel_rfl) (by kernel_rfl) (Reads.pure (.assign rfl)) ?_
        refine .done (by kernel_rfl) ⟨rfl, ?_, by repeat (first | exact Le.refl _ | refine Le.skip rfl ?_)⟩
        exact congrArg (fun x => some (Value.bool x)) (Eq.symm (show sameB x y = _ by unfold sameB; (rw [decide_eq_true g4_11]) <;> rfl))
      · replace g4_11 := of_decide_eq_false g4_11
        refine .off 12 (t := 24) rfl rfl rfl rfl (by kernel_rfl) (by kernel_rfl) (by kernel_rfl) ?_
        refine .off 13 (t := 24) rfl rfl rfl rfl (by kernel_rfl) (by kernel_rfl) (by kernel_rfl) ?_
        refine .off 14 (t := 24) rfl rfl rfl rfl (by kernel_rfl) (by kernel_rfl) (by kernel_rfl) ?_
        refine .off 15 (t := 24) rfl rfl rfl rfl (by kernel_rfl) (by kernel_rfl) (by kernel_rfl) ?_
        refine .off 16 (t := 24) rfl rfl rfl rfl (by kernel_rfl) (by kernel_rfl) (by kernel_rfl) ?_
        refine .off 17 (t := 24) rfl rfl rfl rfl (by kernel_rfl) (by kernel_rfl) (by kernel_rfl) ?_
        refine .off 18 (t := 24) rfl rfl rfl rfl (by kernel_rfl) (by kernel_rfl) (by kernel_rfl) ?_
        refine .off 19 (t := 24) rfl rfl rfl rfl (by kernel_rfl) (by kernel_rfl) (by kernel_rfl) ?_
        refine .off 20 (t := 24) rfl rfl rfl rfl (by kernel_rfl) (by kernel_rfl) (by kernel_rfl) ?_
        refine .off 21 (t := 24) rfl rfl rfl rfl (by kernel_rfl) (by kernel_rfl) (by kernel_rfl) ?_
        refine .off 22 (t := 24) rfl rfl rfl rfl (by kernel_rfl) (by kernel_rfl) (by kernel_rfl) ?_
        refine .rp 23 rfl (by kernel_rfl) (by kernel_rfl) (by kernel_rfl) (Reads.pure (.pickF rfl rfl)) ?_
        refine .rp 24 rfl (by kernel_rfl) (by kernel_rfl) (by kernel_rfl) (Reads.pure (.assign rfl)) ?_
        refine .done (by kernel_rfl) ⟨rfl, ?_, by repeat (first | exact Le.refl _ | refine Le.skip rfl ?_)⟩
        exact congrArg (fun x => some (Value.bool x)) (Eq.symm (show sameB x y = _ by unfold sameB; (rw [decide_eq_false g4_11]) <;> rfl))
    refine .seq ?_
    refine .region ?_   -- R5 ref.go:35
    refine RunO.join 16 52 (sameOr x y) ?_ ?_
    · refine .rd (.move rfl) ?_
      refine .rd (.move rfl) ?_
      refine .split (t := 38) rfl (fun g5_1 => ?_) (fun g5_1 => ?_)
      · refine .on (t := 38) rfl rfl ?_
        refine .rd (.move rfl) ?_
        refine .on (t := 38) rfl rfl ?_
        refine .rd (.move rfl) ?_
        refine .on (t := 38) rfl rfl ?_
        refine .rd (.indexAddr Try.underlying22 ts36 rfl rfl (by omega) (by omega)) ?_
        refine .on (t := 38) rfl rfl ?_
        refine .rd (.fieldAddr fd36_11 rfl) ?_
        refine .on (t := 38) rfl rfl ?_
        refine .rd (.load na4 rfl (Knows.one (i := 11) (Knows.elem (f := Sn.cells) Sn.cells_len (by decide) (Knows.pick .head k) hx) rfl)) ?_
        refine .on (t := 38) rfl rfl ?_
        refine .rd (.not rfl) ?_
        refine .on (t := 38) rfl rfl ?_
        refine .rd (.move rfl) ?_
        refine .split (t := 45) rfl (fun g5_8 => ?_) (fun g5_8 => ?_)
        · refine .off (t := 45) rfl rfl rfl ?_
          refine .off (t := 45) rfl rfl rfl ?_
          refine .off (t := 45) rfl rfl rfl ?_
          refine .off (t := 45) rfl rfl rfl ?_
          refine .off (t := 45) rfl rfl rfl ?_
          refine .on (t := 38) rfl rfl ?_
          refine .rd (.pickT rfl rfl) ?_
          refine .rd (.pickT rfl rfl) ?_
          refine .nil ⟨rfl, ?_, by repeat (first | exact Le.refl _ | refine Le.skip rfl ?_)⟩
          exact congrArg (fun x => some (Value.bool x)) (Eq.symm (show sameOr x y = _ by unfold sameOr; (rw [g5_1, g5_8]) <;> rfl))
        · refine .on (t := 45) rfl rfl ?_
          refine .rd (.move rfl) ?_
          refine .on (t := 45) rfl rfl ?_
          refine .rd (.move rfl) ?_
          refine .on (t := 45) rfl rfl ?_
          refine .rd (.indexAddr Try.underlying22 ts36 rfl rfl (by omega) (by omega)) ?_
          refine .on (t := 45) rfl rfl ?_
          refine .rd (.fieldAddr fd36_11 rfl) ?_
          refine .on (t := 45) rfl rfl ?_
          refine .rd (.load na4 rfl (Knows.one (i := 11) (Knows.elem (f := Sn.cells) Sn.cells_len (by decide) (Knows.pick .head k) hy') rfl)) ?_
          refine .on (t := 38) rfl rfl ?_
          refine .rd (.pickF rfl rfl) ?_
          refine .rd (.pickT rfl rfl) ?_
          refine .nil ⟨rfl, ?_, by repeat (first | exact Le.refl _ | refine Le.skip rfl ?_)⟩
          exact congrArg (fun x => some (Value.bool x)) (Eq.symm (show sameOr x y = _ by unfold sameOr; (rw [g5_1, g5_8]) <;> rfl))
      · refine .off (t := 38) rfl rfl rfl ?_
        refine .off (t := 38) rfl rfl rfl ?_
        refine .off (t := 38) rfl rfl rfl ?_
        refine .off (t := 38) rfl rfl rfl ?_
        refine .off (t := 38) rfl rfl rfl ?_
        refine .off (t := 38) rfl rfl rfl ?_
        refine .offU (t := 38) rfl rfl rfl rfl ?_
        refine .offX (t := 45) rfl rfl rfl ?_
        refine .offX (t := 45) rfl rfl rfl ?_
        refine .offX (t := 45) rfl rfl rfl ?_
        refine .offX (t := 45) rfl rfl rfl ?_
        refine .offX (t := 45) rfl rfl rfl ?_
        refine .off (t := 38) rfl rfl rfl ?_
        refine .rd (.pickF rfl rfl) ?_
        refine .nil ⟨rfl, ?_, by repeat (first | exact Le.refl _ | refine Le.skip rfl ?_)⟩
        exact congrArg (fun x => some (Value.bool x)) (Eq.symm (show sameOr x y = _ by unfold sameOr; (rw [g5_1]) <;> rfl))
    refine .nil ?_
    refine .cond rfl (fun h5 => ?_) (fun h5 => ?_)
    · refine .seq ?_
      refine .region ?_   -- R6 ref.go:36
      refine .rd (.assign rfl) ?_
      refine .nil ?_
      have hv : callB h x = true := by unfold callB; rw [any_hit hy h5]; rfl
      rw [hv]
      refine .retP Try.func20 (.cons (.tmp rfl) .nil) (.cons .head .nil) ?_
      exact ⟨[], ⟨rfl, rfl⟩, rfl⟩
    · refine .skip ?_
      refine .inBlock ?_
      refine .region ?_   -- R3 ref.go:33
      refine .rd (.move rfl) ?_
      refine .rd (.add rfl rfl (by omega) (by omega)) ?_
      refine .rd (.assign rfl) ?_
      refine .nil ?_
      exact (ih (k' + 1) ⟨by omega, upto_next hI.2 hy (by simpa using h5)⟩ (by omega)).to (.cons rfl (.cons rfl (.cons rfl .nil))) (.cons .head .nil)
  · refine .exit rfl ?_
    refine .seq ?_
    refine .seq ?_
    refine .region ?_   -- R7 ref.go:39
    refine .rd (.move rfl) ?_
    refine .rd (.move rfl) ?_
    refine .rd (.indexAddr Try.underlying22 ts36 rfl rfl (by omega) (by omega)) ?_
    refine .rd (.fieldAddr fd36_11 rfl) ?_
    refine .rd (.load na4 rfl (Knows.one (i := 11) (Knows.elem (f := Sn.cells) Sn.cells_len (by decide) (Knows.pick .head k) hx) rfl)) ?_
    refine .rd (.not rfl) ?_
    refine .nil ?_
    refine .cond rfl (fun h7 => ?_) (fun h7 => ?_)
    · refine .seq ?_
      refine .region ?_   -- R8 ref.go:40
      refine .rd (.assign rfl) ?_
      refine .nil ?_
      have hv : callB h x = false := by unfold callB; rw [any_miss (n := k') (by omega) hI.2, (by simpa using h7 : x.done = false)]; rfl
      rw [hv]
      refine .retP Try.func20 (.cons (.tmp rfl) .nil) (.cons .head .nil) ?_
      exact ⟨[], ⟨rfl, rfl⟩, rfl⟩
    · refine .skip ?_
      refine .seq ?_
      refine .region ?_   -- R9 ref.go:42
      refine .rd (.move rfl) ?_
      refine .rd (.move rfl) ?_
      refine .fn rfl rfl .nil (Knows.pick .head k) (callOf_ok _ n c h x i hi hn hb) (fun v G1 hq => ?_)
      obtain ⟨rfl, rfl⟩ := hq
      simp only [List.nil_append]
      refine .rd (.assign rfl) ?_
      refine .nil ?_
      refine .seq ?_
      have hcl := callR_lt h x
      refine .drawsJoin [7, 12, 20, 25, 33, 38] [R] 4 (badCall (h[(callR h x).toNat]?.getD sn0) x (callR h x)) (by kernel_rfl) ?_ ?_   -- R10 ref.go:43
      · refine .rp 0 rfl (by kernel_rfl) (by kernel_rfl) (by kernel_rfl) (Reads.pure (.move rfl)) ?_
        refine .rp 1 rfl (by kernel_rfl) (by kernel_rfl) (by kernel_rfl) (Reads.pure (.lt rfl rfl)) ?_
        refine .rp 2 rfl (by kernel_rfl) (by kernel_rfl) (by kernel_rfl) (Reads.pure (.move rfl)) ?_
        refine .split (t := 64) rfl (fun g10_2 => ?_) (fun g10_2 => ?_)
        · replace g10_2 := of_decide_eq_true g10_2
          refine .off 3 (t := 64) rfl rfl rfl rfl (by kernel_rfl) (by kernel_rfl) (by kernel_rfl) ?_
          refine .off 4 (t := 64) rfl rfl rfl rfl (by kernel_rfl) (by kernel_rfl) (by kernel_rfl) ?_
          refine .off 5 (t := 64) rfl rfl rfl rfl (by kernel_rfl) (by kernel_rfl) (by kernel_rfl) ?_
          refine .off 6 (t := 64) rfl rfl rfl rfl (by kernel_rfl) (by kernel_rfl) (by kernel_rfl) ?_
          refine .off 7 (t := 64) rfl rfl rfl rfl (by kernel_rfl) (by kernel_rfl) (by kernel_rfl) ?_
          refine .off 8 (t := 64) rfl rfl rfl rfl (by kernel_rfl) (by kernel_rfl) (by kernel_rfl) ?_
          refine .off 9 (t := 64) rfl rfl rfl rfl (by kernel_rfl) (by kernel_rfl) (by kernel_rfl) ?_
          refine .off 10 (t := 64) rfl rfl rfl rfl (by kernel_rfl) (by kernel_rfl) (by kernel_rfl) ?_
          refine .off 11 (t := 64) rfl rfl rfl rfl (by kernel_rfl) (by kernel_rfl) (by kernel_rfl) ?_
          refine .off 12 (t := 64) rfl rfl rfl rfl (by kernel_rfl) (by kernel_rfl) (by kernel_rfl) ?_
          refine .off 13 (t := 64) rfl rfl rfl rfl (by kernel_rfl) (by kernel_rfl) (by kernel_rfl) ?_
          refine .rp 14 rfl (by kernel_rfl) (by kernel_rfl) (by kernel_rfl) (Reads.pure (.pickT rfl rfl)) ?_
          refine .rp 15 rfl (by kernel_rfl) (by kernel_rfl) (by kernel_rfl) (Reads.pure (.move rfl)) ?_
          refine .off 16 (t := 77) rfl rfl rfl rfl (by kernel_rfl) (by kernel_rfl) (by kernel_rfl) ?_
          refine .off 17 (t := 77) rfl rfl rfl rfl (by kernel_rfl) (by kernel_rfl) (by kernel_rfl) ?_
          refine .off 18 (t := 77) rfl rfl rfl rfl (by kernel_rfl) (by kernel_rfl) (by kernel_rfl) ?_
          refine .off 19 (t := 77) rfl rfl rfl rfl (by kernel_rfl) (by kernel_rfl) (by kernel_rfl) ?_
          refine .off 20 (t := 77) rfl rfl rfl rfl (by kernel_rfl) (by kernel_rfl) (by kernel_rfl) ?_
          refine .off 21 (t := 77) rfl rfl rfl rfl (by kernel_rfl) (by kernel_rfl) (by kernel_rfl) ?_
          refine .off 22 (t := 77) rfl rfl rfl rfl (by kernel_rfl) (by kernel_rfl) (by kernel_rfl) ?_
          refine .off 23 (t := 77) rfl rfl rfl rfl (by kernel_rfl) (by kernel_rfl) (by kernel_rfl) ?_
          refine .off 24 (t := 77) rfl rfl rfl rfl (by kernel_rfl) (by kernel_rfl) (by kernel_rfl) ?_
          refine .off 25 (t := 77) rfl rfl rfl rfl (by kernel_rfl) (by kernel_rfl) (by kernel_rfl) ?_
          refine .off 26 (t := 77) rfl rfl rfl rfl (by kernel_rfl) (by kernel_rfl) (by kernel_rfl) ?_
          refine .rp 27 rfl (by kernel_rfl) (by kernel_rfl) (by kernel_rfl) (Reads.pure (.pickT rfl rfl)) ?_
          refine .rp 28 rfl (by kernel_rfl) (by kernel_rfl) (by kernel_rfl) (Reads.pure (.move rfl)) ?_
          refine .off 29 (t := 90) rfl rfl rfl rfl (by kernel_rfl) (by kernel_rfl) (by kernel_rfl) ?_
          refine .off 30 (t := 90) rfl rfl rfl rfl (by kernel_rfl) (by kernel_rfl) (by kernel_rfl) ?_
          refine .off 31 (t := 90) rfl rfl rfl rfl (by kernel_rfl) (by kernel_rfl) (by kernel_rfl) ?_
          refine .off 32 (t := 90) rfl rfl rfl rfl (by kernel_rfl) (by kernel_rfl) (by kernel_rfl) ?_
          refine .off 33 (t := 90) rfl rfl rfl rfl (by kernel_rfl) (by kernel_rfl) (by kernel_rfl) ?_
          refine .off 34 (t := 90) rfl rfl rfl rfl (by kernel_rfl) (by kernel_rfl) (by kernel_rfl) ?_
          refine .off 35 (t := 90) rfl rfl rfl rfl (by kernel_rfl) (by kernel_rfl) (by kernel_rfl) ?_
          refine .off 36 (t := 90) rfl rfl rfl rfl (by kernel_rfl) (by kernel_rfl) (by kernel_rfl) ?_
          refine .off 37 (t := 90) rfl rfl rfl rfl (by kernel_rfl) (by kernel_rfl) (by kernel_rfl) ?_
          refine .off 38 (t := 90) rfl rfl rfl rfl (by kernel_rfl) (by kernel_rfl) (by kernel_rfl) ?_
          refine .off 39 (t := 90) rfl rfl rfl rfl (by kernel_rfl) (by kernel_rfl) (by kernel_rfl) ?_
          refine .rp 40 rfl (by kernel_rfl) (by kernel_rfl) (by kernel_rfl) (Reads.pure (.pickT rfl rfl)) ?_
          refine .rp 41 rfl (by kernel_rfl) (by kernel_rfl) (by kernel_rfl) (Reads.pure (.assign rfl)) ?_
          refine .done (by kernel_rfl) ⟨rfl, ?_, by repeat (first | exact Le.refl _ | refine Le.skip rfl ?_)⟩
          exact congrArg (fun x => some (Value.bool x)) (Eq.symm (show badCall (h[(callR h x).toNat]?.getD sn0) x (callR h x) = _ by unfold badCall; (rw [decide_eq_true g10_2]) <;> rfl))
        · replace g10_2 := of_decide_eq_false g10_2
          obtain ⟨z, hz⟩ : ∃ z, h[(callR h x).toNat]? = some z := ⟨_, List.getElem?_eq_getElem (by omega)⟩
          have hz' := at_left (x := x) (show (callR h x).toNat < h.length by omega) hz
          refine .rpG 3 (t := 64) rfl rfl rfl (by kernel_rfl) (by kernel_rfl) (by kernel_rfl) (Reads.pure (.move rfl)) ?_
          refine .rpG 4 (t := 64) rfl rfl rfl (by kernel_rfl) (by kernel_rfl) (by kernel_rfl) (Reads.pure (.move rfl)) ?_
          refine .rpG 5 (t := 64) rfl rfl rfl (by kernel_rfl) (by kernel_rfl) (by kernel_rfl) (Reads.pure (.indexAddr Try.underlying22 ts36 rfl rfl (by omega) (by omega))) ?_
          refine .rpG 6 (t := 64) rfl rfl rfl (by kernel_rfl) (by kernel_rfl) (by kernel_rfl) (Reads.pure (.fieldAddr fd36_2 rfl)) ?_
          refine .rdG 7 (t := 64) rfl rfl rfl rfl (by kernel_rfl) (by kernel_rfl) (by kernel_rfl) (.load na3 rfl (Knows.one (i := 2) (Knows.elem (f := Sn.cells) Sn.cells_len (by decide) (Knows.pick .head k) hz') rfl)) (.cons .head .nil) ?_
          refine .rpG 8 (t := 64) rfl rfl rfl (by kernel_rfl) (by kernel_rfl) (by kernel_rfl) (Reads.pure (.move rfl)) ?_
          refine .rpG 9 (t := 64) rfl rfl rfl (by kernel_rfl) (by kernel_rfl) (by kernel_rfl) (Reads.pure (.move rfl)) ?_
          refine .rpG 10 (t := 64) rfl rfl rfl (by kernel_rfl) (by kernel_rfl) (by kernel_rfl) (Reads.pure (.indexAddr Try.underlying22 ts36 rfl rfl (by omega) (by omega))) ?_
          refine .rpG 11 (t := 64) rfl rfl rfl (by kernel_rfl) (by kernel_rfl) (by kernel_rfl) (Reads.pure (.fieldAddr fd36_2 rfl)) ?_
          refine .rdG 12 (t := 64) rfl rfl rfl rfl (by kernel_rfl) (by kernel_rfl) (by kernel_rfl) (.load na3 rfl (Knows.one (i := 2) (Knows.elem (f := Sn.cells) Sn.cells_len (by decide) (Knows.pick .head k) hx) rfl)) (.cons .head .nil) ?_
          refine .rpG 13 (t := 64) rfl rfl rfl (by kernel_rfl) (by kernel_rfl) (by kernel_rfl) (Reads.pure (.neI rfl rfl)) ?_
          refine .rp 14 rfl (by kernel_rfl) (by kernel_rfl) (by kernel_rfl) (Reads.pure (.pickF rfl rfl)) ?_
          refine .rp 15 rfl (by kernel_rfl) (by kernel_rfl) (by kernel_rfl) (Reads.pure (.move rfl)) ?_
          refine .split (t := 77) rfl (fun g10_15 => ?_) (fun g10_15 => ?_)
          · simp at g10_15
            refine .off 16 (t := 77) rfl rfl rfl rfl (by kernel_rfl) (by kernel_rfl) (by kernel_rfl) ?_
            refine .off 17 (t := 77) rfl rfl rfl rfl (by kernel_rfl) (by kernel_rfl) (by kernel_rfl) ?_
            refine .off 18 (t := 77) rfl rfl rfl rfl (by kernel_rfl) (by kernel_rfl) (by kernel_rfl) ?_
            refine .off 19 (t := 77) rfl rfl rfl rfl (by kernel_rfl) (by kernel_rfl) (by kernel_rfl) ?_
            refine .off 20 (t := 77) rfl rfl rfl rfl (by kernel_rfl) (by kernel_rfl) (by kernel_rfl) ?_
            refine .off 21 (t := 77) rfl rfl rfl rfl (by kernel_rfl) (by kernel_rfl) (by kernel_rfl) ?_
            refine .off 22 (t := 77) rfl rfl rfl rfl (by kernel_rfl) (by kernel_rfl) (by kernel_rfl) ?_
            refine .off 23 (t := 77) rfl rfl rfl rfl (by kernel_rfl) (by kernel_rfl) (by kernel_rfl) ?_
            refine .off 24 (t := 77) rfl rfl rfl rfl (by kernel_rfl) (by kernel_rfl) (by kernel_rfl) ?_
            refine .off 25 (t := 77) rfl rfl rfl rfl (by kernel_rfl) (by kernel_rfl) (by kernel_rfl) ?_
            refine .off 26 (t := 77) rfl rfl rfl rfl (by kernel_rfl) (by kernel_rfl) (by kernel_rfl) ?_
            refine .rp 27 rfl (by kernel_rfl) (by kernel_rfl) (by kernel_rfl) (Reads.pure (.pickT rfl rfl)) ?_
            refine .rp 28 rfl (by kernel_rfl) (by kernel_rfl) (by kernel_rfl) (Reads.pure (.move rfl)) ?_
            refine .off 29 (t := 90) rfl rfl rfl rfl (by kernel_rfl) (by kernel_rfl) (by kernel_rfl) ?_
            refine .off 30 (t := 90) rfl rfl rfl rfl (by kernel_rfl) (by kernel_rfl) (by kernel_rfl) ?_
            refine .off 31 (t := 90) rfl rfl rfl rfl (by kernel_rfl) (by kernel_rfl) (by kernel_rfl) ?_
            refine .off 32 (t := 90) rfl rfl rfl rfl (by kernel_rfl) (by kernel_rfl) (by kernel_rfl) ?_
            refine .off 33 (t := 90) rfl rfl rfl rfl (by kernel_rfl) (by kernel_rfl) (by kernel_rfl) ?_
            refine .off 34 (t := 90) rfl rfl rfl rfl (by kernel_rfl) (by kernel_rfl) (by kernel_rfl) ?_
            refine .off 35 (t := 90) rfl rfl rfl rfl (by kernel_rfl) (by kernel_rfl) (by kernel_rfl) ?_
            refine .off 36 (t := 90) rfl rfl rfl rfl (by kernel_rfl) (by kernel_rfl) (by kernel_rfl) ?_
            refine .off 37 (t := 90) rfl rfl rfl rfl (by kernel_rfl) (by kernel_rfl) (by kernel_rfl) ?_
            refine .off 38 (t := 90) rfl rfl rfl rfl (by kernel_rfl) (by kernel_rfl) (by kernel_rfl) ?_
            refine .off 39 (t := 90) rfl rfl rfl rfl (by kernel_rfl) (by kernel_rfl) (by kernel_rfl) ?_
            refine .rp 40 rfl (by kernel_rfl) (by kernel_rfl) (by kernel_rfl) (Reads.pure (.pickT rfl rfl)) ?_
            refine .rp 41 rfl (by kernel_rfl) (by kernel_rfl) (by kernel_rfl) (Reads.pure (.assign rfl)) ?_
            refine .done (by kernel_rfl) ⟨rfl, ?_, by repeat (first | exact Le.refl _ | refine Le.skip rfl ?_)⟩
            exact congrArg (fun x => some (Value.bool x)) (Eq.symm (show badCall (h[(callR h x).toNat]?.getD sn0) x (callR h x) = _ by unfold badCall; (rw [hz, Option.getD_some, decide_eq_false g10_2, decide_eq_false g10_15]) <;> rfl))
          · simp at g10_15
            refine .rpG 16 (t := 77) rfl rfl rfl (by kernel_rfl) (by kernel_rfl) (by kernel_rfl) (Reads.pure (.move rfl)) ?_
            refine .rpG 17 (t := 77) rfl rfl rfl (by kernel_rfl) (by kernel_rfl) (by kernel_rfl) (Reads.pure (.move rfl)) ?_
            refine .rpG 18 (t := 77) rfl rfl rfl (by kernel_rfl) (by kernel_rfl) (by kernel_rfl) (Reads.pure (.indexAddr Try.underlying22 ts36 rfl rfl (by omega) (by omega))) ?_
            refine .rpG 19 (t := 77) rfl rfl rfl (by kernel_rfl) (by kernel_rfl) (by kernel_rfl) (Reads.pure (.fieldAddr fd36_8 rfl)) ?_
            refine .rdG 20 (t := 77) rfl rfl rfl rfl (by kernel_rfl) (by kernel_rfl) (by kernel_rfl) (.load na9 rfl (Knows.one (i := 8) (Knows.elem (f := Sn.cells) Sn.cells_len (by decide) (Knows.pick .head k) hz') rfl)) (.cons .head .nil) ?_
            refine .rpG 21 (t := 77) rfl rfl rfl (by kernel_rfl) (by kernel_rfl) (by kernel_rfl) (Reads.pure (.move rfl)) ?_
            refine .rpG 22 (t := 77) rfl rfl rfl (by kernel_rfl) (by kernel_rfl) (by kernel_rfl) (Reads.pure (.move rfl)) ?_
            refine .rpG 23 (t := 77) rfl rfl rfl (by kernel_rfl) (by kernel_rfl) (by kernel_rfl) (Reads.pure (.indexAddr Try.underlying22 ts36 rfl rfl (by omega) (by omega))) ?_
            refine .rpG 24 (t := 77) rfl rfl rfl (by kernel_rfl) (by kernel_rfl) (by kernel_rfl) (Reads.pure (.fieldAddr fd36_8 rfl)) ?_
            refine .rdG 25 (t := 77) rfl rfl rfl rfl (by kernel_rfl) (by kernel_rfl) (by kernel_rfl) (.load na9 rfl (Knows.one (i := 8) (Knows.elem (f := Sn.cells) Sn.cells_len (by decide) (Knows.pick .head k) hx) rfl)) (.cons .head .nil) ?_
            refine .rpG 26 (t := 77) rfl rfl rfl (by kernel_rfl) (by kernel_rfl) (by kernel_rfl) (Reads.pure (.neT rfl rfl)) ?_
            refine .rp 27 rfl (by kernel_rfl) (by kernel_rfl) (by kernel_rfl) (Reads.pure (.pickF rfl rfl)) ?_
            refine .rp 28 rfl (by kernel_rfl) (by kernel_rfl) (by kernel_rfl) (Reads.pure (.move rfl)) ?_
            refine .split (t := 90) rfl (fun g10_28 => ?_) (fun g10_28 => ?_)
            · simp at g10_28
              refine .off 29 (t := 90) rfl rfl rfl rfl (by kernel_rfl) (by kernel_rfl) (by kernel_rfl) ?_
              refine .off 30 (t := 90) rfl rfl rfl rfl (by kernel_rfl) (by kernel_rfl) (by kernel_rfl) ?_
              refine .off 31 (t := 90) rfl rfl rfl rfl (by kernel_rfl) (by kernel_rfl) (by kernel_rfl) ?_
              refine .off 32 (t := 90) rfl rfl rfl rfl (by kernel_rfl) (by kernel_rfl) (by kernel_rfl) ?_
              refine .off 33 (t := 90) rfl rfl rfl rfl (by kernel_rfl) (by kernel_rfl) (by kernel_rfl) ?_
              refine .off 34 (t := 90) rfl rfl rfl rfl (by kernel_rfl) (by kernel_rfl) (by kernel_rfl) ?_
              refine .off 35 (t := 90) rfl rfl rfl rfl (by kernel_rfl) (by kernel_rfl) (by kernel_rfl) ?_
              refine .off 36 (t := 90) rfl rfl rfl rfl (by kernel_rfl) (by kernel_rfl) (by kernel_rfl) ?_
              refine .off 37 (t := 90) rfl rfl rfl rfl (by kernel_rfl) (by kernel_rfl) (by kernel_rfl) ?_
              refine .off 38 (t := 90) rfl rfl rfl rfl (by kernel_rfl) (by kernel_rfl) (by kernel_rfl) ?_
              refine .off 39 (t := 90) rfl rfl rfl rfl (by kernel_rfl) (by kernel_rfl) (by kernel_rfl) ?_
              refine .rp 40 rfl (by kernel_rfl) (by kernel_rfl) (by kernel_rfl) (Reads.pure (.pickT rfl rfl)) ?_
              refine .rp 41 rfl (by kernel_rfl) (by kernel_rfl) (by kernel_rfl) (Reads.pure (.assign rfl)) ?_
              refine .done (by kernel_rfl) ⟨rfl, ?_, by repeat (first | exact Le.refl _ | refine Le.skip rfl ?_)⟩
              exact congrArg (fun x => some (Value.bool x)) (Eq.symm (show badCall (h[(callR h x).toNat]?.getD sn0) x (callR h x) = _ by unfold badCall; (rw [hz, Option.getD_some, decide_eq_false g10_2, decide_eq_true g10_15, decide_eq_false g10_28]) <;> rfl))
            · simp at g10_28
              refine .rpG 29 (t := 90) rfl rfl rfl (by kernel_rfl) (by kernel_rfl) (by kernel_rfl) (Reads.pure (.move rfl)) ?_
              refine .rpG 30 (t := 90) rfl rfl rfl (by kernel_rfl) (by kernel_rfl) (by kernel_rfl) (Reads.pure (.move rfl)) ?_
              refine .rpG 31 (t := 90) rfl rfl rfl (by kernel_rfl) (by kernel_rfl) (by kernel_rfl) (Reads.pure (.indexAddr Try.underlying22 ts36 rfl rfl (by omega) (by omega))) ?_
              refine .rpG 32 (t := 90) rfl rfl rfl (by kernel_rfl) (by kernel_rfl) (by kernel_rfl) (Reads.pure (.fieldAddr fd36_3 rfl)) ?_
              refine .rdG 33 (t := 90) rfl rfl rfl rfl (by kernel_rfl) (by kernel_rfl) (by kernel_rfl) (.load na3 rfl (Knows.one (i := 3) (Knows.elem (f := Sn.cells) Sn.cells_len (by decide) (Knows.pick .head k) hz') rfl)) (.cons .head .nil) ?_
              refine .rpG 34 (t := 90) rfl rfl rfl (by kernel_rfl) (by kernel_rfl) (by kernel_rfl) (Reads.pure (.move rfl)) ?_
              refine .rpG 35 (t := 90) rfl rfl rfl (by kernel_rfl) (by kernel_rfl) (by kernel_rfl) (Reads.pure (.move rfl)) ?_
              refine .rpG 36 (t := 90) rfl rfl rfl (by kernel_rfl) (by kernel_rfl) (by kernel_rfl) (Reads.pure (.indexAddr Try.underlying22 ts36 rfl rfl (by omega) (by omega))) ?_
              refine .rpG 37 (t := 90) rfl rfl rfl (by kernel_rfl) (by kernel_rfl) (by kernel_rfl) (Reads.pure (.fieldAddr fd36_3 rfl)) ?_
              refine .rdG 38 (t := 90) rfl rfl rfl rfl (by kernel_rfl) (by kernel_rfl) (by kernel_rfl) (.load na3 rfl (Knows.one (i := 3) (Knows.elem (f := Sn.cells) Sn.cells_len (by decide) (Knows.pick .head k) hx) rfl)) (.cons .head .nil) ?_
              refine .rpG 39 (t := 90) rfl rfl rfl (by kernel_rfl) (by kernel_rfl) (by kernel_rfl) (Reads.pure (.neI rfl rfl)) ?_
              refine .rp 40 rfl (by kernel_rfl) (by kernel_rfl) (by kernel_rfl) (Reads.pure (.pickF rfl rfl)) ?_
              refine .rp 41 rfl (by kernel_rfl) (by kernel_rfl) (by kernel_rfl) (Reads.pure (.assign rfl)) ?_
              refine .done (by kernel_rfl) ⟨rfl, ?_, by repeat (first | exact Le.refl _ | refine Le.skip rfl ?_)⟩
              exact congrArg (fun x => some (Value.bool x)) (Eq.symm (show badCall (h[(callR h x).toNat]?.getD sn0) x (callR h x) = _ by unfold badCall; (rw [hz, Option.getD_some, decide_eq_false g10_2, decide_eq_true g10_15, decide_eq_true g10_28]) <;> rfl))
      have hv : callB h x = badCall (h[(callR h x).toNat]?.getD sn0) x (callR h x) := by unfold callB; rw [any_miss (n := k') (by omega) hI.2, (by simpa using h7 : x.done = true)]; rfl
      rw [hv]
      refine .retP Try.func20 (.cons (.tmp rfl) .nil) (.cons .head .nil) ?_
      exact ⟨[], ⟨rfl, rfl⟩, rfl⟩

end Go.Proofs.Ytahpokcigdjilaa

