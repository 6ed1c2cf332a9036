/- Steps through functions of the program, under conditions that each theorem states (part mod17 of a claim). -/
import Derived.Test.YtahpokcigdjilaaProg
import Derived.Test.YtahpokcigdjilaaMod16
namespace Go.Proofs.Ytahpokcigdjilaa
open Go Go.Sp

set_option linter.unusedVariables false

namespace mod17
theorem ts36 : TS Try.prog 36 12 := .of (by kernel_rfl)
theorem ia36 : IsAgg Try.prog 36 := ⟨_, Try.underlying36, trivial⟩
theorem ti36 : TI Try.prog 36 12 112 (.agg #[.int .i64 0, .int .i64 0, .int .i64 0, .int .i64 0, .int .i64 0, .int .i64 0, .int .i64 0, .int .i64 0, .string ⟨#[]⟩, .string ⟨#[]⟩, .int .i64 0, .bool false]) := .of (by kernel_rfl)
theorem fd36_4 : FD Try.prog 36 4 4 := .of Try.underlying36 (by kernel_rfl)
theorem na3 : NotAgg Try.prog 3 := ⟨_, Try.underlying3, trivial⟩
theorem fd36_8 : FD Try.prog 36 8 8 := .of Try.underlying36 (by kernel_rfl)
theorem na9 : NotAgg Try.prog 9 := ⟨_, Try.underlying9, trivial⟩
theorem fd36_3 : FD Try.prog 36 3 3 := .of Try.underlying36 (by kernel_rfl)
theorem fd36_11 : FD Try.prog 36 11 11 := .of Try.underlying36 (by kernel_rfl)
theorem na4 : NotAgg Try.prog 4 := ⟨_, Try.underlying4, trivial⟩
theorem fd36_2 : FD Try.prog 36 2 2 := .of Try.underlying36 (by kernel_rfl)
theorem fd36_10 : FD Try.prog 36 10 10 := .of Try.underlying36 (by kernel_rfl)
theorem na34 : NotAgg Try.prog 34 := ⟨_, Try.underlying34, trivial⟩
end mod17
open mod17



set_option maxHeartbeats 1000000 in
set_option maxRecDepth 20000 in
theorem commit_ok (a : Option Addr) (n c : Nat) (h : List Sn) (x : Sn) (i : Nat) (hi : h.length = i) (hn : i < n) (hb : n ≤ 1000000) : Cn Try.prog 29 [.slice a n c, .int .i64 (i : Int)] (RowAt a ((h ++ [x]).flatMap Sn.cells)) [] fun v G => v = .bool (commitB h x) ∧ G = [] := by
  refine .enter Try.func29 rfl (by kernel_rfl) rfl fun R k => ?_
  have hx : (h ++ [x])[i]? = some x := at_last hi
  refine .tell (φ := ∃ b o, a = some ⟨b, o, none⟩) (Knows.pick .head (k.mono fun _ h => RowAt.addr h (by rw [flat_length Sn.cells_len]; simp))) (fun hh => ?_)
  obtain ⟨bb, oo, rfl⟩ := hh
  refine .seq ?_
  refine .region ?_   -- R0 ref.go:182
  refine .rd (.assign rfl) ?_
  refine .nil ?_
  refine .seq ?_
  refine .region ?_   -- R1 ref.go:183
  refine .rd (.move rfl) ?_
  refine .rd (.move rfl) ?_
  refine .rd (.indexAddr Try.underlying22 ts36 rfl rfl (by omega) (by omega)) ?_
  refine .rd (.loadN ia36 ts36 rfl rfl (Knows.elem (f := Sn.cells) Sn.cells_len (by decide) (Knows.pick .head k) hx)) ?_
  refine .ef (.alloc ti36 rfl (ones.of rfl)) ?_
  rintro _ _ ⟨b5, rfl, rfl⟩
  refine .ef0 (.storeAll (vs := x.cells) ts36 rfl rfl rfl .head rfl (ones.of rfl)) ?_
  rintro _ _ rfl
  refine .nil ?_
  refine .seq ?_
  refine .region ?_   -- R2 ref.go:184
  refine .rd (.ldN ia36 ts36 rfl .head rfl) ?_
  refine .fn rfl rfl .nil (fun _ _ _ => trivial) (good_ok x 5 5) (fun v G1 hq => ?_)
  obtain ⟨rfl, rfl⟩ := hq
  simp only [List.nil_append]
  refine .rd (.assign rfl) ?_
  refine .nil ?_
  refine .seq ?_
  refine .seq ?_
  refine .region ?_   -- R3 ref.go:185
  refine .rd (.move rfl) ?_
  refine .rd (.not rfl) ?_
  refine .nil ?_
  refine .cond rfl (fun h3 => ?_) (fun h3 => ?_)
  · refine .seq ?_
    refine .region ?_   -- R4 ref.go:186
    refine .rd (.assign rfl) ?_
    refine .nil ?_
    have hv : commitB h x = false := by unfold commitB; rw [(by simpa using h3 : goodB x 5 5 = false)]; rfl
    rw [hv]
    refine .retP Try.func29 (.cons (.tmp rfl) .nil) (.cons (.tail .head) .nil) ?_
    exact ⟨[], ⟨rfl, rfl⟩, rfl⟩
  · refine .skip ?_
    refine .seq ?_
    refine .region ?_   -- R5 ref.go:188
    refine .rd (.move rfl) ?_
    refine .rd (.move rfl) ?_
    refine .fn rfl rfl .nil (Knows.pick (.tail .head) k) (callOf_ok _ n c h x i hi hn hb) (fun v G1 hq => ?_)
    obtain ⟨rfl, rfl⟩ := hq
    simp only [List.nil_append]
    refine .rd (.assign rfl) ?_
    refine .nil ?_
    have hcl := callR_lt h x
    refine .seq ?_
    refine .seq ?_
    refine .region ?_   -- R6 ref.go:189
    refine .rd (.fieldAddr fd36_4 rfl) ?_
    refine .rd (.ld na3 rfl .head rfl) ?_
    refine .rd (.eqI rfl rfl) ?_
    refine .nil ?_
    refine .condP rfl (fun h6 => ?_) (fun h6 => ?_)
    · refine .seq ?_
      refine .seq ?_
      refine .region ?_   -- R7 ref.go:190
      refine .rd (.assign rfl) ?_
      refine .nil ?_
      refine .block ?_
      refine .loop (σ := Nat) (fun k' => k' ≤ (callR h x).toNat ∧ ∀ k < k', ∀ y, h[k]? = some y → comP x y = false) (fun k' => (callR h x).toNat - k') (fun k' => [(0, .slice (some ⟨bb, oo, none⟩) n c), (1, .int .i64 (i : Int)), (5, .pointer (some ⟨b5, 0, none⟩)), (7, .int .i64 (callR h x)), (8, .int .i64 (k' : Nat))]) (fun k' => [blk b5 x.cells 36, R]) 0 ⟨Nat.zero_le _, fun k hk => by omega⟩ (.cons rfl (.cons rfl (.cons rfl (.cons rfl (.cons rfl .nil))))) (.cons .head (.cons .head .nil)) (fun k' hI ih => ?_)
      have hki := hI.1
      refine .seq ?_
      refine .seq ?_
      refine .region ?_   -- R8 ref.go:190
      refine .rd (.move rfl) ?_
      refine .rd (.move rfl) ?_
      refine .rd (.lt rfl rfl) ?_
      refine .nil ?_
      refine .condP rfl (fun h8 => ?_) (fun h8 => ?_)
      · refine .skip ?_
        refine .seq ?_
        refine .block ?_
        refine .seq ?_
        obtain ⟨y, hy⟩ : ∃ y, h[k']? = some y := ⟨_, List.getElem?_eq_getElem (by omega)⟩
        have hy' := at_left (x := x) (show k' < h.length by omega) hy
        refine .region ?_   -- R10 ref.go:191
        refine .rd (.move rfl) ?_
        refine .rd (.move rfl) ?_
        refine .rd (.indexAddr Try.underlying22 ts36 rfl rfl (by omega) (by omega)) ?_
        refine .rd (.loadN ia36 ts36 rfl rfl (Knows.elem (f := Sn.cells) Sn.cells_len (by decide) (Knows.pick (.tail .head) k) hy')) ?_
        refine .fn rfl rfl .nil (fun _ _ _ => trivial) (good_ok y 4 4) (fun v G1 hq => ?_)
        obtain ⟨rfl, rfl⟩ := hq
        simp only [List.nil_append]
        refine .rd (.assign rfl) ?_
        refine .nil ?_
        refine .seq ?_
        refine .drawsJoin [6, 8, 16, 18] [blk b5 x.cells 36, R] 58 (comP x y) (by kernel_rfl) ?_ ?_   -- R11 ref.go:192
        · refine .rp 0 rfl (by kernel_rfl) (by kernel_rfl) (by kernel_rfl) (Reads.pure (.move rfl)) ?_
          refine .rp 1 rfl (by kernel_rfl) (by kernel_rfl) (by kernel_rfl) (Reads.pure (.move rfl)) ?_
          refine .split (t := 39) rfl (fun g11_1 => ?_) (fun g11_1 => ?_)
          · refine .rpG 2 (t := 39) rfl rfl rfl (by kernel_rfl) (by kernel_rfl) (by kernel_rfl) (Reads.pure (.move rfl)) ?_
            refine .rpG 3 (t := 39) rfl rfl rfl (by kernel_rfl) (by kernel_rfl) (by kernel_rfl) (Reads.pure (.move rfl)) ?_
            refine .rpG 4 (t := 39) rfl rfl rfl (by kernel_rfl) (by kernel_rfl) (by kernel_rfl) (Reads.pure (.indexAddr Try.underlying22 ts36 rfl rfl (by omega) (by omega))) ?_
            refine .rpG 5 (t := 39) rfl rfl rfl (by kernel_rfl) (by kernel_rfl) (by kernel_rfl) (Reads.pure (.fieldAddr fd36_8 rfl)) ?_
            refine .rdG 6 (t := 39) rfl rfl rfl rfl (by kernel_rfl) (by kernel_rfl) (by kernel_rfl) (.load na9 rfl (Knows.one (i := 8) (Knows.elem (f := Sn.cells) Sn.cells_len (by decide) (Knows.pick (.tail .head) k) hy') rfl)) (.cons .head (.cons .head .nil)) ?_
            refine .rpG 7 (t := 39) rfl rfl rfl (by kernel_rfl) (by kernel_rfl) (by kernel_rfl) (Reads.pure (.fieldAddr fd36_8 rfl)) ?_
            refine .rdG 8 (t := 39) rfl rfl rfl rfl (by kernel_rfl) (by kernel_rfl) (by kernel_rfl) (.ld na9 rfl .head rfl) (.cons .head (.cons .head .nil)) ?_
            refine .rpG 9 (t := 39) rfl rfl rfl (by kernel_rfl) (by kernel_rfl) (by kernel_rfl) (Reads.pure (.eqT rfl rfl)) ?_
            refine .rp 10 rfl (by kernel_rfl) (by kernel_rfl) (by kernel_rfl) (Reads.pure (.pickT rfl rfl)) ?_
            refine .rp 11 rfl (by kernel_rfl) (by kernel_rfl) (by kernel_rfl) (Reads.pure (.move rfl)) ?_
            refine .split (t := 49) rfl (fun g11_11 => ?_) (fun g11_11 => ?_)
            · replace g11_11 := of_decide_eq_true g11_11
              refine .rpG 12 (t := 49) rfl rfl rfl (by kernel_rfl) (by kernel_rfl) (by kernel_rfl) (Reads.pure (.move rfl)) ?_
              refine .rpG 13 (t := 49) rfl rfl rfl (by kernel_rfl) (by kernel_rfl) (by kernel_rfl) (Reads.pure (.move rfl)) ?_
              refine .rpG 14 (t := 49) rfl rfl rfl (by kernel_rfl) (by kernel_rfl) (by kernel_rfl) (Reads.pure (.indexAddr Try.underlying22 ts36 rfl rfl (by omega) (by omega))) ?_
              refine .rpG 15 (t := 49) rfl rfl rfl (by kernel_rfl) (by kernel_rfl) (by kernel_rfl) (Reads.pure (.fieldAddr fd36_3 rfl)) ?_
              refine .rdG 16 (t := 49) rfl rfl rfl rfl (by kernel_rfl) (by kernel_rfl) (by kernel_rfl) (.load na3 rfl (Knows.one (i := 3) (Knows.elem (f := Sn.cells) Sn.cells_len (by decide) (Knows.pick (.tail .head) k) hy') rfl)) (.cons .head (.cons .head .nil)) ?_
              refine .rpG 17 (t := 49) rfl rfl rfl (by kernel_rfl) (by kernel_rfl) (by kernel_rfl) (Reads.pure (.fieldAddr fd36_3 rfl)) ?_
              refine .rdG 18 (t := 49) rfl rfl rfl rfl (by kernel_rfl) (by kernel_rfl) (by kernel_rfl) (.ld na3 rfl .head rfl) (.cons .head (.cons .head .nil)) ?_
              refine .rpG 19 (t := 49) rfl rfl rfl (by kernel_rfl) (by kernel_rfl) (by kernel_rfl) (Reads.pure (.eqI rfl rfl)) ?_
              refine .rp 20 rfl (by kernel_rfl) (by kernel_rfl) (by kernel_rfl) (Reads.pure (.pickT rfl rfl)) ?_
              refine .done (by kernel_rfl) ⟨rfl, ?_, by repeat (first | exact Le.refl _ | refine Le.skip rfl ?_)⟩
              exact congrArg (fun x => some (Value.bool x)) (Eq.symm (show comP x y = _ by unfold comP; (rw [g11_1, decide_eq_true g11_11]) <;> rfl))
            · replace g11_11 := of_decide_eq_false g11_11
              refine .off 12 (t := 49) rfl rfl rfl rfl (by kernel_rfl) (by kernel_rfl) (by kernel_rfl) ?_
              refine .off 13 (t := 49) rfl rfl rfl rfl (by kernel_rfl) (by kernel_rfl) (by kernel_rfl) ?_
              refine .off 14 (t := 49) rfl rfl rfl rfl (by kernel_rfl) (by kernel_rfl) (by kernel_rfl) ?_
              refine .off 15 (t := 49) rfl rfl rfl rfl (by kernel_rfl) (by kernel_rfl) (by kernel_rfl) ?_
              refine .off 16 (t := 49) rfl rfl rfl rfl (by kernel_rfl) (by kernel_rfl) (by kernel_rfl) ?_
              refine .off 17 (t := 49) rfl rfl rfl rfl (by kernel_rfl) (by kernel_rfl) (by kernel_rfl) ?_
              refine .off 18 (t := 49) rfl rfl rfl rfl (by kernel_rfl) (by kernel_rfl) (by kernel_rfl) ?_
              refine .off 19 (t := 49) rfl rfl rfl rfl (by kernel_rfl) (by kernel_rfl) (by kernel_rfl) ?_
              refine .rp 20 rfl (by kernel_rfl) (by kernel_rfl) (by kernel_rfl) (Reads.pure (.pickF rfl rfl)) ?_
              refine .done (by kernel_rfl) ⟨rfl, ?_, by repeat (first | exact Le.refl _ | refine Le.skip rfl ?_)⟩
              exact congrArg (fun x => some (Value.bool x)) (Eq.symm (show comP x y = _ by unfold comP; (rw [g11_1, decide_eq_false g11_11]) <;> rfl))
          · refine .off 2 (t := 39) rfl rfl rfl rfl (by kernel_rfl) (by kernel_rfl) (by kernel_rfl) ?_
            refine .off 3 (t := 39) rfl rfl rfl rfl (by kernel_rfl) (by kernel_rfl) (by kernel_rfl) ?_
            refine .off 4 (t := 39) rfl rfl rfl rfl (by kernel_rfl) (by kernel_rfl) (by kernel_rfl) ?_
            refine .off 5 (t := 39) rfl rfl rfl rfl (by kernel_rfl) (by kernel_rfl) (by kernel_rfl) ?_
            refine .off 6 (t := 39) rfl rfl rfl rfl (by kernel_rfl) (by kernel_rfl) (by kernel_rfl) ?_
            refine .off 7 (t := 39) rfl rfl rfl rfl (by kernel_rfl) (by kernel_rfl) (by kernel_rfl) ?_
            refine .off 8 (t := 39) rfl rfl rfl rfl (by kernel_rfl) (by kernel_rfl) (by kernel_rfl) ?_
            refine .off 9 (t := 39) rfl rfl rfl rfl (by kernel_rfl) (by kernel_rfl) (by kernel_rfl) ?_
            refine .rp 10 rfl (by kernel_rfl) (by kernel_rfl) (by kernel_rfl) (Reads.pure (.pickF rfl rfl)) ?_
            refine .rp 11 rfl (by kernel_rfl) (by kernel_rfl) (by kernel_rfl) (Reads.pure (.move rfl)) ?_
            refine .off 12 (t := 49) rfl rfl rfl rfl (by kernel_rfl) (by kernel_rfl) (by kernel_rfl) ?_
            refine .off 13 (t := 49) rfl rfl rfl rfl (by kernel_rfl) (by kernel_rfl) (by kernel_rfl) ?_
            refine .off 14 (t := 49) rfl rfl rfl rfl (by kernel_rfl) (by kernel_rfl) (by kernel_rfl) ?_
            refine .off 15 (t := 49) rfl rfl rfl rfl (by kernel_rfl) (by kernel_rfl) (by kernel_rfl) ?_
            refine .off 16 (t := 49) rfl rfl rfl rfl (by kernel_rfl) (by kernel_rfl) (by kernel_rfl) ?_
            refine .off 17 (t := 49) rfl rfl rfl rfl (by kernel_rfl) (by kernel_rfl) (by kernel_rfl) ?_
            refine .off 18 (t := 49) rfl rfl rfl rfl (by kernel_rfl) (by kernel_rfl) (by kernel_rfl) ?_
            refine .off 19 (t := 49) rfl rfl rfl rfl (by kernel_rfl) (by kernel_rfl) (by kernel_rfl) ?_
            refine .rp 20 rfl (by kernel_rfl) (by kernel_rfl) (by kernel_rfl) (Reads.pure (.pickF rfl rfl)) ?_
            refine .done (by kernel_rfl) ⟨rfl, ?_, by repeat (first | exact Le.refl _ | refine Le.skip rfl ?_)⟩
            exact congrArg (fun x => some (Value.bool x)) (Eq.symm (show comP x y = _ by unfold comP; (rw [g11_1]) <;> rfl))
        refine .cond rfl (fun h11 => ?_) (fun h11 => ?_)
        · refine .seq ?_
          refine .region ?_   -- R12 ref.go:193
          refine .rd (.assign rfl) ?_
          refine .nil ?_
          have hv : commitB h x = true := by unfold commitB; rw [(by simpa using h3 : goodB x 5 5 = true), if_pos h6, any_hit_take (P := comP x) (by omega) hy h11]; rfl
          rw [hv]
          refine .retP Try.func29 (.cons (.tmp rfl) .nil) (.cons (.tail .head) .nil) ?_
          exact ⟨[], ⟨rfl, rfl⟩, rfl⟩
        · refine .skip ?_
          refine .inBlock ?_
          refine .region ?_   -- R9 ref.go:190
          refine .rd (.move rfl) ?_
          refine .rd (.add rfl rfl (by omega) (by omega)) ?_
          refine .rd (.assign rfl) ?_
          refine .nil ?_
          exact (ih (k' + 1) ⟨by omega, upto_next (P := fun _ => comP x) hI.2 hy (by simpa using h11)⟩ (by omega)).to (.cons rfl (.cons rfl (.cons rfl (.cons rfl (.cons rfl .nil))))) (.cons .head (.cons .head .nil))
      · refine .exit rfl ?_
        refine .seq ?_
        refine .region ?_   -- R13 ref.go:196
        refine .rd (.assign rfl) ?_
        refine .nil ?_
        have hv : commitB h x = false := by unfold commitB; rw [(by simpa using h3 : goodB x 5 5 = true), if_pos h6, any_miss_take (n := k') (by omega) hI.2]; rfl
        rw [hv]
        refine .retP Try.func29 (.cons (.tmp rfl) .nil) (.cons (.tail .head) .nil) ?_
        exact ⟨[], ⟨rfl, rfl⟩, rfl⟩
    · refine .skip ?_
      refine .seq ?_
      refine .seq ?_
      refine .region ?_   -- R14 ref.go:198
      refine .rd (.assign rfl) ?_
      refine .nil ?_
      refine .block ?_
      refine .loop (σ := Nat) (fun k' => k' ≤ i ∧ ∀ k < k', ∀ y, h[k]? = some y → stillC h x k y = false) (fun k' => i - k') (fun k' => [(0, .slice (some ⟨bb, oo, none⟩) n c), (1, .int .i64 (i : Int)), (5, .pointer (some ⟨b5, 0, none⟩)), (7, .int .i64 (callR h x)), (10, .int .i64 (k' : Nat))]) (fun k' => [blk b5 x.cells 36, R]) 0 ⟨Nat.zero_le _, fun k hk => by omega⟩ (.cons rfl (.cons rfl (.cons rfl (.cons rfl (.cons rfl .nil))))) (.cons .head (.cons .head .nil)) (fun k' hI ih => ?_)
      have hki := hI.1
      refine .seq ?_
      refine .seq ?_
      refine .region ?_   -- R15 ref.go:198
      refine .rd (.move rfl) ?_
      refine .rd (.move rfl) ?_
      refine .rd (.lt rfl rfl) ?_
      refine .nil ?_
      refine .condP rfl (fun h15 => ?_) (fun h15 => ?_)
      · refine .skip ?_
        refine .seq ?_
        refine .block ?_
        refine .seq ?_
        obtain ⟨y, hy⟩ : ∃ y, h[k']? = some y := ⟨_, List.getElem?_eq_getElem (by omega)⟩
        have hy' := at_left (x := x) (show k' < h.length by omega) hy
        refine .region ?_   -- R17 ref.go:199
        refine .rd (.move rfl) ?_
        refine .rd (.move rfl) ?_
        refine .rd (.indexAddr Try.underlying22 ts36 rfl rfl (by omega) (by omega)) ?_
        refine .rd (.loadN ia36 ts36 rfl rfl (Knows.elem (f := Sn.cells) Sn.cells_len (by decide) (Knows.pick (.tail .head) k) hy')) ?_
        refine .ef (.alloc ti36 rfl (ones.of rfl)) ?_
        rintro _ _ ⟨b11, rfl, rfl⟩
        refine .ef0 (.storeAll (vs := y.cells) ts36 rfl rfl rfl .head rfl (ones.of rfl)) ?_
        rintro _ _ rfl
        refine .nil ?_
        refine .seq ?_
        refine .seq ?_
        refine .region ?_   -- R18 ref.go:200
        refine RunO.join 28 95 (skipC x y) ?_ ?_
        · refine .rd (.fieldAddr fd36_11 rfl) ?_
          refine .rd (.ld na4 rfl .head rfl) ?_
          refine .rd (.move rfl) ?_
          refine .split (t := 70) rfl (fun g18_2 => ?_) (fun g18_2 => ?_)
          · refine .off (t := 70) rfl rfl rfl ?_
            refine .off (t := 70) rfl rfl rfl ?_
            refine .off (t := 70) rfl rfl rfl ?_
            refine .rd (.pickT rfl rfl) ?_
            refine .rd (.move rfl) ?_
            refine .off (t := 75) rfl rfl rfl ?_
            refine .off (t := 75) rfl rfl rfl ?_
            refine .off (t := 75) rfl rfl rfl ?_
            refine .off (t := 75) rfl rfl rfl ?_
            refine .off (t := 75) rfl rfl rfl ?_
            refine .rd (.pickT rfl rfl) ?_
            refine .rd (.move rfl) ?_
            refine .off (t := 82) rfl rfl rfl ?_
            refine .off (t := 82) rfl rfl rfl ?_
            refine .off (t := 82) rfl rfl rfl ?_
            refine .off (t := 82) rfl rfl rfl ?_
            refine .off (t := 82) rfl rfl rfl ?_
            refine .rd (.pickT rfl rfl) ?_
            refine .rd (.move rfl) ?_
            refine .off (t := 89) rfl rfl rfl ?_
            refine .off (t := 89) rfl rfl rfl ?_
            refine .off (t := 89) rfl rfl rfl ?_
            refine .off (t := 89) rfl rfl rfl ?_
            refine .off (t := 89) rfl rfl rfl ?_
            refine .rd (.pickT rfl rfl) ?_
            refine .nil ⟨rfl, ?_, by repeat (first | exact Le.refl _ | refine Le.skip rfl ?_)⟩
            exact congrArg (fun x => some (Value.bool x)) (Eq.symm (show skipC x y = _ by unfold skipC; (rw [g18_2]) <;> rfl))
          · refine .on (t := 70) rfl rfl ?_
            refine .rd (.fieldAddr fd36_2 rfl) ?_
            refine .on (t := 70) rfl rfl ?_
            refine .rd (.ld na3 rfl .head rfl) ?_
            refine .on (t := 70) rfl rfl ?_
            refine .rd (.neI rfl rfl) ?_
            refine .rd (.pickF rfl rfl) ?_
            refine .rd (.move rfl) ?_
            refine .split (t := 75) rfl (fun g18_7 => ?_) (fun g18_7 => ?_)
            · simp at g18_7
              refine .off (t := 75) rfl rfl rfl ?_
              refine .off (t := 75) rfl rfl rfl ?_
              refine .off (t := 75) rfl rfl rfl ?_
              refine .off (t := 75) rfl rfl rfl ?_
              refine .off (t := 75) rfl rfl rfl ?_
              refine .rd (.pickT rfl rfl) ?_
              refine .rd (.move rfl) ?_
              refine .off (t := 82) rfl rfl rfl ?_
              refine .off (t := 82) rfl rfl rfl ?_
              refine .off (t := 82) rfl rfl rfl ?_
              refine .off (t := 82) rfl rfl rfl ?_
              refine .off (t := 82) rfl rfl rfl ?_
              refine .rd (.pickT rfl rfl) ?_
              refine .rd (.move rfl) ?_
              refine .off (t := 89) rfl rfl rfl ?_
              refine .off (t := 89) rfl rfl rfl ?_
              refine .off (t := 89) rfl rfl rfl ?_
              refine .off (t := 89) rfl rfl rfl ?_
              refine .off (t := 89) rfl rfl rfl ?_
              refine .rd (.pickT rfl rfl) ?_
              refine .nil ⟨rfl, ?_, by repeat (first | exact Le.refl _ | refine Le.skip rfl ?_)⟩
              exact congrArg (fun x => some (Value.bool x)) (Eq.symm (show skipC x y = _ by unfold skipC; (rw [g18_2, decide_eq_false g18_7]) <;> rfl))
            · simp at g18_7
              refine .on (t := 75) rfl rfl ?_
              refine .rd (.fieldAddr fd36_8 rfl) ?_
              refine .on (t := 75) rfl rfl ?_
              refine .rd (.ld na9 rfl .head rfl) ?_
              refine .on (t := 75) rfl rfl ?_
              refine .rd (.fieldAddr fd36_8 rfl) ?_
              refine .on (t := 75) rfl rfl ?_
              refine .rd (.ld na9 rfl (.tail .head) rfl) ?_
              refine .on (t := 75) rfl rfl ?_
              refine .rd (.neT rfl rfl) ?_
              refine .rd (.pickF rfl rfl) ?_
              refine .rd (.move rfl) ?_
              refine .split (t := 82) rfl (fun g18_14 => ?_) (fun g18_14 => ?_)
              · simp at g18_14
                refine .off (t := 82) rfl rfl rfl ?_
                refine .off (t := 82) rfl rfl rfl ?_
                refine .off (t := 82) rfl rfl rfl ?_
                refine .off (t := 82) rfl rfl rfl ?_
                refine .off (t := 82) rfl rfl rfl ?_
                refine .rd (.pickT rfl rfl) ?_
                refine .rd (.move rfl) ?_
                refine .off (t := 89) rfl rfl rfl ?_
                refine .off (t := 89) rfl rfl rfl ?_
                refine .off (t := 89) rfl rfl rfl ?_
                refine .off (t := 89) rfl rfl rfl ?_
                refine .off (t := 89) rfl rfl rfl ?_
                refine .rd (.pickT rfl rfl) ?_
                refine .nil ⟨rfl, ?_, by repeat (first | exact Le.refl _ | refine Le.skip rfl ?_)⟩
                exact congrArg (fun x => some (Value.bool x)) (Eq.symm (show skipC x y = _ by unfold skipC; (rw [g18_2, decide_eq_true g18_7, decide_eq_false g18_14]) <;> rfl))
              · simp at g18_14
                refine .on (t := 82) rfl rfl ?_
                refine .rd (.fieldAddr fd36_3 rfl) ?_
                refine .on (t := 82) rfl rfl ?_
                refine .rd (.ld na3 rfl .head rfl) ?_
                refine .on (t := 82) rfl rfl ?_
                refine .rd (.fieldAddr fd36_3 rfl) ?_
                refine .on (t := 82) rfl rfl ?_
                refine .rd (.ld na3 rfl (.tail .head) rfl) ?_
                refine .on (t := 82) rfl rfl ?_
                refine .rd (.neI rfl rfl) ?_
                refine .rd (.pickF rfl rfl) ?_
                refine .rd (.move rfl) ?_
                refine .split (t := 89) rfl (fun g18_21 => ?_) (fun g18_21 => ?_)
                · simp at g18_21
                  refine .off (t := 89) rfl rfl rfl ?_
                  refine .off (t := 89) rfl rfl rfl ?_
                  refine .off (t := 89) rfl rfl rfl ?_
                  refine .off (t := 89) rfl rfl rfl ?_
                  refine .off (t := 89) rfl rfl rfl ?_
                  refine .rd (.pickT rfl rfl) ?_
                  refine .nil ⟨rfl, ?_, by repeat (first | exact Le.refl _ | refine Le.skip rfl ?_)⟩
                  exact congrArg (fun x => some (Value.bool x)) (Eq.symm (show skipC x y = _ by unfold skipC; (rw [g18_2, decide_eq_true g18_7, decide_eq_true g18_14, decide_eq_false g18_21]) <;> rfl))
                · simp at g18_21
                  refine .on (t := 89) rfl rfl ?_
                  refine .rd (.fieldAddr fd36_4 rfl) ?_
                  refine .on (t := 89) rfl rfl ?_
                  refine .rd (.ld na3 rfl .head rfl) ?_
                  refine .on (t := 89) rfl rfl ?_
                  refine .rd (.fieldAddr fd36_4 rfl) ?_
                  refine .on (t := 89) rfl rfl ?_
                  refine .rd (.ld na3 rfl (.tail .head) rfl) ?_
                  refine .on (t := 89) rfl rfl ?_
                  refine .rd (.neI rfl rfl) ?_
                  refine .rd (.pickF rfl rfl) ?_
                  refine .nil ⟨rfl, ?_, by repeat (first | exact Le.refl _ | refine Le.skip rfl ?_)⟩
                  exact congrArg (fun x => some (Value.bool x)) (Eq.symm (show skipC x y = _ by unfold skipC; (rw [g18_2, decide_eq_true g18_7, decide_eq_true g18_14, decide_eq_true g18_21]) <;> rfl))
        refine .nil ?_
        refine .cond rfl (fun hS => ?_) (fun hS => ?_)
        · refine .exit rfl ?_
          refine .region ?_   -- R16 ref.go:198
          refine .rd (.move rfl) ?_
          refine .rd (.add rfl rfl (by omega) (by omega)) ?_
          refine .rd (.assign rfl) ?_
          refine .nil ?_
          exact (ih (k' + 1) ⟨by omega, upto_next (P := stillC h x) hI.2 hy (by unfold stillC; rw [hS]; rfl)⟩ (by omega)).to (.cons rfl (.cons rfl (.cons rfl (.cons rfl (.cons rfl .nil))))) (.cons (.tail .head) (.cons (.tail .head) .nil))
        · refine .skip ?_
          refine .seq ?_
          refine .region ?_   -- R19 ref.go:203
          refine .rd (.move rfl) ?_
          refine .rd (.move rfl) ?_
          refine .rd (.move rfl) ?_
          refine .fn rfl rfl .nil (Knows.pick (.tail (.tail .head)) (k.mono fun _ w => by have := RowAt.take w i; rwa [List.take_left' hi] at this)) (ret_ok _ n c h i k' y hi hy (by omega) hb) (fun v G1 hq => ?_)
          obtain ⟨rfl, rfl⟩ := hq
          simp only [List.nil_append]
          refine .rd (.assign rfl) ?_
          refine .nil ?_
          have hrl := retR_lt h k' y
          refine .seq ?_
          refine .seq ?_
          refine .region ?_   -- R20 ref.go:204
          refine RunO.join 10 109 (errAt (h[(retR h k' y).toNat]?.getD sn0) (retR h k' y)) ?_ ?_
          · refine .rd (.move rfl) ?_
            refine .rd (.ge rfl rfl) ?_
            refine .rd (.move rfl) ?_
            refine .split (t := 102) rfl (fun g20_2 => ?_) (fun g20_2 => ?_)
            · replace g20_2 := of_decide_eq_true g20_2
              obtain ⟨z, hz⟩ : ∃ z, h[(retR h k' y).toNat]? = some z := ⟨_, List.getElem?_eq_getElem (by have := hrl.2 g20_2; omega)⟩
              have hzl := hrl.2 g20_2
              have hz' := at_left (x := x) (show (retR h k' y).toNat < h.length by omega) hz
              refine .on (t := 102) rfl rfl ?_
              refine .rd (.move rfl) ?_
              refine .on (t := 102) rfl rfl ?_
              refine .rd (.move rfl) ?_
              refine .on (t := 102) rfl rfl ?_
              refine .rd (.indexAddr Try.underlying22 ts36 rfl rfl (by omega) (by omega)) ?_
              refine .on (t := 102) rfl rfl ?_
              refine .rd (.fieldAddr fd36_10 rfl) ?_
              refine .on (t := 102) rfl rfl ?_
              refine .rd (.load na34 rfl (Knows.one (i := 10) (Knows.elem (f := Sn.cells) Sn.cells_len (by decide) (Knows.pick (.tail (.tail .head)) k) hz') rfl)) ?_
              refine .on (t := 102) rfl rfl ?_
              refine .rd (.neI rfl rfl) ?_
              refine .rd (.pickT rfl rfl) ?_
              refine .nil ⟨rfl, ?_, by repeat (first | exact Le.refl _ | refine Le.skip rfl ?_)⟩
              exact congrArg (fun x => some (Value.bool x)) (Eq.symm (show errAt (h[(retR h k' y).toNat]?.getD sn0) (retR h k' y) = _ by unfold errAt; (rw [hz, Option.getD_some, decide_eq_true g20_2]) <;> rfl))
            · replace g20_2 := of_decide_eq_false g20_2
              refine .off (t := 102) rfl rfl rfl ?_
              refine .off (t := 102) rfl rfl rfl ?_
              refine .off (t := 102) rfl rfl rfl ?_
              refine .off (t := 102) rfl rfl rfl ?_
              refine .off (t := 102) rfl rfl rfl ?_
              refine .off (t := 102) rfl rfl rfl ?_
              refine .rd (.pickF rfl rfl) ?_
              refine .nil ⟨rfl, ?_, by repeat (first | exact Le.refl _ | refine Le.skip rfl ?_)⟩
              exact congrArg (fun x => some (Value.bool x)) (Eq.symm (show errAt (h[(retR h k' y).toNat]?.getD sn0) (retR h k' y) = _ by unfold errAt; (rw [decide_eq_false g20_2]) <;> rfl))
          refine .nil ?_
          refine .cond rfl (fun h20 => ?_) (fun h20 => ?_)
          · refine .region ?_   -- R21 ref.go:205
            refine .rd (.assign rfl) ?_
            refine .nil ?_
            refine .alter (t := 12) (v' := .int .i64 (okRet h (retR h k' y))) rfl (by unfold okRet; rw [h20]; rfl) ?_
            refine .seq ?_
            refine .region ?_   -- R22 ref.go:207
            refine .rd (.move rfl) ?_
            refine .rd (.fieldAddr fd36_8 rfl) ?_
            refine .rd (.ld na9 rfl (.tail .head) rfl) ?_
            refine .rd (.fieldAddr fd36_3 rfl) ?_
            refine .rd (.ld na3 rfl (.tail .head) rfl) ?_
            refine .rd (.move rfl) ?_
            refine .rd (.move rfl) ?_
            refine .fn rfl rfl .nil (Knows.pick (.tail (.tail .head)) (k.mono fun _ w => by have := RowAt.take w i; rwa [List.take_left' hi] at this)) (over_of bb oo n c h x.name x.part (okRet h (retR h k' y)) (callR h x) (by omega) (by omega) hb) (fun v G1 hq => ?_)
            obtain ⟨rfl, rfl⟩ := hq
            simp only [List.nil_append]
            refine .rd (.assign rfl) ?_
            refine .nil ?_
            refine .seq ?_
            refine .region ?_   -- R23 ref.go:208
            refine .rd (.move rfl) ?_
            refine .rd (.not rfl) ?_
            refine .nil ?_
            refine .cond rfl (fun h23 => ?_) (fun h23 => ?_)
            · refine .seq ?_
              refine .region ?_   -- R24 ref.go:209
              refine .rd (.assign rfl) ?_
              refine .nil ?_
              have hv : commitB h x = false := by unfold commitB; rw [(by simpa using h3 : goodB x 5 5 = true), if_neg h6, anyAt_hit (P := stillC h x) hy (by unfold stillC; rw [hS, (by simpa using h23 : overB h x.name x.part (okRet h (retR h k' y)) (callR h x) = false)]; rfl)]; rfl
              rw [hv]
              refine .retP Try.func29 (.cons (.tmp rfl) .nil) (.cons (.tail (.tail .head)) .nil) ?_
              exact ⟨[], ⟨rfl, rfl⟩, rfl⟩
            · refine .skip ?_
              refine .inBlock ?_
              refine .region ?_   -- R16 ref.go:198
              refine .rd (.move rfl) ?_
              refine .rd (.add rfl rfl (by omega) (by omega)) ?_
              refine .rd (.assign rfl) ?_
              refine .nil ?_
              exact (ih (k' + 1) ⟨by omega, upto_next (P := stillC h x) hI.2 hy (by unfold stillC; rw [hS, (by simpa using h23 : overB h x.name x.part (okRet h (retR h k' y)) (callR h x) = true)]; rfl)⟩ (by omega)).to (.cons rfl (.cons rfl (.cons rfl (.cons rfl (.cons rfl .nil))))) (.cons (.tail .head) (.cons (.tail .head) .nil))
          · refine .alter (t := 12) (v' := .int .i64 (okRet h (retR h k' y))) rfl (by unfold okRet; rw [h20]; rfl) ?_
            refine .skip ?_
            refine .seq ?_
            refine .region ?_   -- R22 ref.go:207
            refine .rd (.move rfl) ?_
            refine .rd (.fieldAddr fd36_8 rfl) ?_
            refine .rd (.ld na9 rfl (.tail .head) rfl) ?_
            refine .rd (.fieldAddr fd36_3 rfl) ?_
            refine .rd (.ld na3 rfl (.tail .head) rfl) ?_
            refine .rd (.move rfl) ?_
            refine .rd (.move rfl) ?_
            refine .fn rfl rfl .nil (Knows.pick (.tail (.tail .head)) (k.mono fun _ w => by have := RowAt.take w i; rwa [List.take_left' hi] at this)) (over_of bb oo n c h x.name x.part (okRet h (retR h k' y)) (callR h x) (by omega) (by omega) hb) (fun v G1 hq => ?_)
            obtain ⟨rfl, rfl⟩ := hq
            simp only [List.nil_append]
            refine .rd (.assign rfl) ?_
            refine .nil ?_
            refine .seq ?_
            refine .region ?_   -- R23 ref.go:208
            refine .rd (.move rfl) ?_
            refine .rd (.not rfl) ?_
            refine .nil ?_
            refine .cond rfl (fun h23 => ?_) (fun h23 => ?_)
            · refine .seq ?_
              refine .region ?_   -- R24 ref.go:209
              refine .rd (.assign rfl) ?_
              refine .nil ?_
              have hv : commitB h x = false := by unfold commitB; rw [(by simpa using h3 : goodB x 5 5 = true), if_neg h6, anyAt_hit (P := stillC h x) hy (by unfold stillC; rw [hS, (by simpa using h23 : overB h x.name x.part (okRet h (retR h k' y)) (callR h x) = false)]; rfl)]; rfl
              rw [hv]
              refine .retP Try.func29 (.cons (.tmp rfl) .nil) (.cons (.tail (.tail .head)) .nil) ?_
              exact ⟨[], ⟨rfl, rfl⟩, rfl⟩
            · refine .skip ?_
              refine .inBlock ?_
              refine .region ?_   -- R16 ref.go:198
              refine .rd (.move rfl) ?_
              refine .rd (.add rfl rfl (by omega) (by omega)) ?_
              refine .rd (.assign rfl) ?_
              refine .nil ?_
              exact (ih (k' + 1) ⟨by omega, upto_next (P := stillC h x) hI.2 hy (by unfold stillC; rw [hS, (by simpa using h23 : overB h x.name x.part (okRet h (retR h k' y)) (callR h x) = true)]; rfl)⟩ (by omega)).to (.cons rfl (.cons rfl (.cons rfl (.cons rfl (.cons rfl .nil))))) (.cons (.tail .head) (.cons (.tail .head) .nil))
      · refine .exit rfl ?_
        refine .seq ?_
        refine .region ?_   -- R25 ref.go:212
        refine .rd (.assign rfl) ?_
        refine .nil ?_
        have hv : commitB h x = true := by unfold commitB; rw [(by simpa using h3 : goodB x 5 5 = true), if_neg h6, anyAt_miss (P := stillC h x) (n := k') (by omega) hI.2]; rfl
        rw [hv]
        refine .retP Try.func29 (.cons (.tmp rfl) .nil) (.cons (.tail .head) .nil) ?_
        exact ⟨[], ⟨rfl, rfl⟩, rfl⟩

end Go.Proofs.Ytahpokcigdjilaa

