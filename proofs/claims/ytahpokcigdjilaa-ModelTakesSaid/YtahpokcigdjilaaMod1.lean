/- Steps through functions of the program, under conditions that each theorem states (part mod1 of a claim). -/
import Derived.Test.YtahpokcigdjilaaProg
import Derived.Test.YtahpokcigdjilaaMod0
namespace Go.Proofs.Ytahpokcigdjilaa
open Go Go.Sp

set_option linter.unusedVariables false

namespace mod1
theorem fd82_2 : FD Try.prog 82 2 2 := .of Try.underlying82 (by kernel_rfl)
theorem na3 : NotAgg Try.prog 3 := ⟨_, Try.underlying3, trivial⟩
theorem fd82_3 : FD Try.prog 82 3 3 := .of Try.underlying82 (by kernel_rfl)
theorem na34 : NotAgg Try.prog 34 := ⟨_, Try.underlying34, trivial⟩
theorem na95 : NotAgg Try.prog 95 := ⟨_, Try.underlying95, trivial⟩
theorem fd82_1 : FD Try.prog 82 1 1 := .of Try.underlying82 (by kernel_rfl)
theorem na80 : NotAgg Try.prog 80 := ⟨_, Try.underlying80, trivial⟩
theorem fd82_0 : FD Try.prog 82 0 0 := .of Try.underlying82 (by kernel_rfl)
theorem fd36_4 : FD Try.prog 36 4 4 := .of Try.underlying36 (by kernel_rfl)
theorem na83 : NotAgg Try.prog 83 := ⟨_, Try.underlying83, trivial⟩
end mod1
open mod1

theorem Cn.reads {P : Program} {f : FuncId} {args : List Value} {φ φ' : World → Prop} {Γ : List SProp} {Q : Value → List SProp → Prop} (h : Cn P f args φ Γ Q) (hφ : ∀ w, φ' w → φ w) : Cn P f args φ' Γ Q := fun R k => h R (k.mono hφ)
def overV (v : Nat) : Value := .func (.func 35) #[] #[ptrV v]

set_option maxRecDepth 20000 in
theorem over_ok (b v : Nat) (g : Sg) (fr : Int) : Cn Try.prog 35 [ptrV b, ptrV v] (fun w => CellsAt b 0 g.cells w ∧ CellsAt v 0 [.int .i64 fr] w) [] fun v G => v = .bool (over fr g) ∧ G = [] := by
  refine .enter Try.func35 rfl (by kernel_rfl) rfl fun R k => ?_
  refine .seq ?_
  refine .region ?_   -- R0 model.go:150
  refine .rd (.assign rfl) ?_
  refine .nil ?_
  refine .seq ?_
  refine .draws [3, 9, 16, 17] [R] (by kernel_rfl) ?_   -- R1 model.go:151
  refine .rp 0 rfl (by kernel_rfl) (by kernel_rfl) (by kernel_rfl) (Reads.pure (.move rfl)) ?_
  refine .rp 1 rfl (by kernel_rfl) (by kernel_rfl) (by kernel_rfl) (Reads.pure (.nilCheck rfl)) ?_
  refine .rp 2 rfl (by kernel_rfl) (by kernel_rfl) (by kernel_rfl) (Reads.pure (.fieldAddr fd82_2 rfl)) ?_
  refine .rd 3 rfl rfl (by kernel_rfl) (by kernel_rfl) (by kernel_rfl) (.load na3 rfl (Knows.pick .head (k.mono fun _ h => CellsAt.one (h.1) (i := 2) rfl))) (.cons .head .nil) ?_
  refine .rp 4 rfl (by kernel_rfl) (by kernel_rfl) (by kernel_rfl) (Reads.pure (.ge rfl rfl)) ?_
  refine .rp 5 rfl (by kernel_rfl) (by kernel_rfl) (by kernel_rfl) (Reads.pure (.move rfl)) ?_
  refine .split (t := 9) rfl (fun g1_5 => ?_) (fun g1_5 => ?_)
  · replace g1_5 := of_decide_eq_true g1_5
    refine .rpG 6 (t := 9) rfl rfl rfl (by kernel_rfl) (by kernel_rfl) (by kernel_rfl) (Reads.pure (.move rfl)) ?_
    refine .rpG 7 (t := 9) rfl rfl rfl (by kernel_rfl) (by kernel_rfl) (by kernel_rfl) (Reads.pure (.nilCheck rfl)) ?_
    refine .rpG 8 (t := 9) rfl rfl rfl (by kernel_rfl) (by kernel_rfl) (by kernel_rfl) (Reads.pure (.fieldAddr fd82_3 rfl)) ?_
    refine .rdG 9 (t := 9) rfl rfl rfl rfl (by kernel_rfl) (by kernel_rfl) (by kernel_rfl) (.load na34 rfl (Knows.pick .head (k.mono fun _ h => CellsAt.one (h.1) (i := 3) rfl))) (.cons .head .nil) ?_
    refine .rpG 10 (t := 9) rfl rfl rfl (by kernel_rfl) (by kernel_rfl) (by kernel_rfl) (Reads.pure (.eqI rfl rfl)) ?_
    refine .rp 11 rfl (by kernel_rfl) (by kernel_rfl) (by kernel_rfl) (Reads.pure (.pickT rfl rfl)) ?_
    refine .rp 12 rfl (by kernel_rfl) (by kernel_rfl) (by kernel_rfl) (Reads.pure (.move rfl)) ?_
    refine .split (t := 16) rfl (fun g1_12 => ?_) (fun g1_12 => ?_)
    · replace g1_12 := of_decide_eq_true g1_12
      refine .rpG 13 (t := 16) rfl rfl rfl (by kernel_rfl) (by kernel_rfl) (by kernel_rfl) (Reads.pure (.move rfl)) ?_
      refine .rpG 14 (t := 16) rfl rfl rfl (by kernel_rfl) (by kernel_rfl) (by kernel_rfl) (Reads.pure (.nilCheck rfl)) ?_
      refine .rpG 15 (t := 16) rfl rfl rfl (by kernel_rfl) (by kernel_rfl) (by kernel_rfl) (Reads.pure (.fieldAddr fd82_2 rfl)) ?_
      refine .rdG 16 (t := 16) rfl rfl rfl rfl (by kernel_rfl) (by kernel_rfl) (by kernel_rfl) (.load na3 rfl (Knows.pick .head (k.mono fun _ h => CellsAt.one (h.1) (i := 2) rfl))) (.cons .head .nil) ?_
      refine .rdG 17 (t := 16) rfl rfl rfl rfl (by kernel_rfl) (by kernel_rfl) (by kernel_rfl) (.load na3 rfl (Knows.pick .head (k.mono fun _ h => h.2))) (.cons .head .nil) ?_
      refine .rpG 18 (t := 16) rfl rfl rfl (by kernel_rfl) (by kernel_rfl) (by kernel_rfl) (Reads.pure (.lt rfl rfl)) ?_
      refine .rp 19 rfl (by kernel_rfl) (by kernel_rfl) (by kernel_rfl) (Reads.pure (.pickT rfl rfl)) ?_
      refine .rp 20 rfl (by kernel_rfl) (by kernel_rfl) (by kernel_rfl) (Reads.pure (.assign rfl)) ?_
      refine .done (by kernel_rfl) ?_
      have hv : over fr g = decide (g.to < fr) := by unfold over; rw [decide_eq_true (p := 0 ≤ g.to) (by omega), decide_eq_true (p := g.err = 0) (by omega)]; rfl
      rw [hv]
      refine .retP Try.func35 (.cons (.tmp rfl) .nil) (.cons .head .nil) ?_
      exact ⟨[], ⟨rfl, rfl⟩, rfl⟩
    · replace g1_12 := of_decide_eq_false g1_12
      refine .off 13 (t := 16) rfl rfl rfl rfl (by kernel_rfl) (by kernel_rfl) (by kernel_rfl) ?_
      refine .off 14 (t := 16) rfl rfl rfl rfl (by kernel_rfl) (by kernel_rfl) (by kernel_rfl) ?_
      refine .off 15 (t := 16) rfl rfl rfl rfl (by kernel_rfl) (by kernel_rfl) (by kernel_rfl) ?_
      refine .off 16 (t := 16) rfl rfl rfl rfl (by kernel_rfl) (by kernel_rfl) (by kernel_rfl) ?_
      refine .off 17 (t := 16) rfl rfl rfl rfl (by kernel_rfl) (by kernel_rfl) (by kernel_rfl) ?_
      refine .off 18 (t := 16) rfl rfl rfl rfl (by kernel_rfl) (by kernel_rfl) (by kernel_rfl) ?_
      refine .rp 19 rfl (by kernel_rfl) (by kernel_rfl) (by kernel_rfl) (Reads.pure (.pickF rfl rfl)) ?_
      refine .rp 20 rfl (by kernel_rfl) (by kernel_rfl) (by kernel_rfl) (Reads.pure (.assign rfl)) ?_
      refine .done (by kernel_rfl) ?_
      have hv : over fr g = false := by unfold over; rw [decide_eq_true (p := 0 ≤ g.to) (by omega), decide_eq_false (p := g.err = 0) (by omega)]; rfl
      rw [hv]
      refine .retP Try.func35 (.cons (.tmp rfl) .nil) (.cons .head .nil) ?_
      exact ⟨[], ⟨rfl, rfl⟩, rfl⟩
  · replace g1_5 := of_decide_eq_false g1_5
    refine .off 6 (t := 9) rfl rfl rfl rfl (by kernel_rfl) (by kernel_rfl) (by kernel_rfl) ?_
    refine .off 7 (t := 9) rfl rfl rfl rfl (by kernel_rfl) (by kernel_rfl) (by kernel_rfl) ?_
    refine .off 8 (t := 9) rfl rfl rfl rfl (by kernel_rfl) (by kernel_rfl) (by kernel_rfl) ?_
    refine .off 9 (t := 9) rfl rfl rfl rfl (by kernel_rfl) (by kernel_rfl) (by kernel_rfl) ?_
    refine .off 10 (t := 9) rfl rfl rfl rfl (by kernel_rfl) (by kernel_rfl) (by kernel_rfl) ?_
    refine .rp 11 rfl (by kernel_rfl) (by kernel_rfl) (by kernel_rfl) (Reads.pure (.pickF rfl rfl)) ?_
    refine .rp 12 rfl (by kernel_rfl) (by kernel_rfl) (by kernel_rfl) (Reads.pure (.move rfl)) ?_
    refine .off 13 (t := 16) rfl rfl rfl rfl (by kernel_rfl) (by kernel_rfl) (by kernel_rfl) ?_
    refine .off 14 (t := 16) rfl rfl rfl rfl (by kernel_rfl) (by kernel_rfl) (by kernel_rfl) ?_
    refine .off 15 (t := 16) rfl rfl rfl rfl (by kernel_rfl) (by kernel_rfl) (by kernel_rfl) ?_
    refine .off 16 (t := 16) rfl rfl rfl rfl (by kernel_rfl) (by kernel_rfl) (by kernel_rfl) ?_
    refine .off 17 (t := 16) rfl rfl rfl rfl (by kernel_rfl) (by kernel_rfl) (by kernel_rfl) ?_
    refine .off 18 (t := 16) rfl rfl rfl rfl (by kernel_rfl) (by kernel_rfl) (by kernel_rfl) ?_
    refine .rp 19 rfl (by kernel_rfl) (by kernel_rfl) (by kernel_rfl) (Reads.pure (.pickF rfl rfl)) ?_
    refine .rp 20 rfl (by kernel_rfl) (by kernel_rfl) (by kernel_rfl) (Reads.pure (.assign rfl)) ?_
    refine .done (by kernel_rfl) ?_
    have hv : over fr g = false := by unfold over; rw [decide_eq_false (p := 0 ≤ g.to) (by omega)]; rfl
    rw [hv]
    refine .retP Try.func35 (.cons (.tmp rfl) .nil) (.cons .head .nil) ?_
    exact ⟨[], ⟨rfl, rfl⟩, rfl⟩

set_option maxRecDepth 20000 in
theorem behind_ok (y o xv v x : Nat) (gy gx : Sg) (fr : Int) : Cn Try.prog 38 [ptrV y, ptrV o, ptrV xv] (fun w => CellsAt y 0 gy.cells w ∧ CellsAt o 0 [overV v] w ∧ CellsAt v 0 [.int .i64 fr] w ∧ CellsAt xv 0 [ptrV x] w ∧ CellsAt x 0 gx.cells w) [] fun v G => v = .bool (over fr gy && decide (gx.to < gy.from_)) ∧ G = [] := by
  refine .enter Try.func38 rfl (by kernel_rfl) rfl fun R k => ?_
  refine .seq ?_
  refine .region ?_   -- R0 model.go:163
  refine .rd (.assign rfl) ?_
  refine .nil ?_
  refine .seq ?_
  refine .draws [0, 7, 8, 11] [R] (by kernel_rfl) ?_   -- R1 model.go:163
  refine .rd 0 rfl rfl (by kernel_rfl) (by kernel_rfl) (by kernel_rfl) (.load na95 rfl (Knows.pick .head (k.mono fun _ h => h.2.1))) (.cons .head .nil) ?_
  refine .rp 1 rfl (by kernel_rfl) (by kernel_rfl) (by kernel_rfl) (Reads.pure (.move rfl)) ?_
  refine .ef 2 (by kernel_rfl) rfl (.fnC rfl rfl .nil (Knows.pick .head (k.mono fun _ h => ⟨h.1, h.2.2.1⟩)) (over_ok y v gy fr)) ?_
  rintro v _ ⟨G1, hq, rfl⟩
  obtain ⟨rfl, rfl⟩ := hq
  simp only [List.nil_append]
  refine ⟨.inr ⟨_, (.cons .head .nil)⟩, ?_⟩
  refine .rp 3 rfl (by kernel_rfl) (by kernel_rfl) (by kernel_rfl) (Reads.pure (.move rfl)) ?_
  refine .split (t := 8) rfl (fun g1_3 => ?_) (fun g1_3 => ?_)
  · refine .rpG 4 (t := 8) rfl rfl rfl (by kernel_rfl) (by kernel_rfl) (by kernel_rfl) (Reads.pure (.move rfl)) ?_
    refine .rpG 5 (t := 8) rfl rfl rfl (by kernel_rfl) (by kernel_rfl) (by kernel_rfl) (Reads.pure (.nilCheck rfl)) ?_
    refine .rpG 6 (t := 8) rfl rfl rfl (by kernel_rfl) (by kernel_rfl) (by kernel_rfl) (Reads.pure (.fieldAddr fd82_1 rfl)) ?_
    refine .rdG 7 (t := 8) rfl rfl rfl rfl (by kernel_rfl) (by kernel_rfl) (by kernel_rfl) (.load na3 rfl (Knows.pick .head (k.mono fun _ h => CellsAt.one (h.1) (i := 1) rfl))) (.cons .head .nil) ?_
    refine .rdG 8 (t := 8) rfl rfl rfl rfl (by kernel_rfl) (by kernel_rfl) (by kernel_rfl) (.load na80 rfl (Knows.pick .head (k.mono fun _ h => h.2.2.2.1))) (.cons .head .nil) ?_
    refine .rpG 9 (t := 8) rfl rfl rfl (by kernel_rfl) (by kernel_rfl) (by kernel_rfl) (Reads.pure (.nilCheck rfl)) ?_
    refine .rpG 10 (t := 8) rfl rfl rfl (by kernel_rfl) (by kernel_rfl) (by kernel_rfl) (Reads.pure (.fieldAddr fd82_2 rfl)) ?_
    refine .rdG 11 (t := 8) rfl rfl rfl rfl (by kernel_rfl) (by kernel_rfl) (by kernel_rfl) (.load na3 rfl (Knows.pick .head (k.mono fun _ h => CellsAt.one (h.2.2.2.2) (i := 2) rfl))) (.cons .head .nil) ?_
    refine .rpG 12 (t := 8) rfl rfl rfl (by kernel_rfl) (by kernel_rfl) (by kernel_rfl) (Reads.pure (.gt rfl rfl)) ?_
    refine .rp 13 rfl (by kernel_rfl) (by kernel_rfl) (by kernel_rfl) (Reads.pure (.pickT rfl rfl)) ?_
    refine .rp 14 rfl (by kernel_rfl) (by kernel_rfl) (by kernel_rfl) (Reads.pure (.assign rfl)) ?_
    refine .done (by kernel_rfl) ?_
    have hv : (over fr gy && decide (gx.to < gy.from_)) = decide (gx.to < gy.from_) := by rw [g1_3]; rfl
    rw [hv]
    refine .retP Try.func38 (.cons (.tmp rfl) .nil) (.cons .head .nil) ?_
    exact ⟨[], ⟨rfl, rfl⟩, rfl⟩
  · refine .off 4 (t := 8) rfl rfl rfl rfl (by kernel_rfl) (by kernel_rfl) (by kernel_rfl) ?_
    refine .off 5 (t := 8) rfl rfl rfl rfl (by kernel_rfl) (by kernel_rfl) (by kernel_rfl) ?_
    refine .off 6 (t := 8) rfl rfl rfl rfl (by kernel_rfl) (by kernel_rfl) (by kernel_rfl) ?_
    refine .off 7 (t := 8) rfl rfl rfl rfl (by kernel_rfl) (by kernel_rfl) (by kernel_rfl) ?_
    refine .off 8 (t := 8) rfl rfl rfl rfl (by kernel_rfl) (by kernel_rfl) (by kernel_rfl) ?_
    refine .off 9 (t := 8) rfl rfl rfl rfl (by kernel_rfl) (by kernel_rfl) (by kernel_rfl) ?_
    refine .off 10 (t := 8) rfl rfl rfl rfl (by kernel_rfl) (by kernel_rfl) (by kernel_rfl) ?_
    refine .off 11 (t := 8) rfl rfl rfl rfl (by kernel_rfl) (by kernel_rfl) (by kernel_rfl) ?_
    refine .off 12 (t := 8) rfl rfl rfl rfl (by kernel_rfl) (by kernel_rfl) (by kernel_rfl) ?_
    refine .rp 13 rfl (by kernel_rfl) (by kernel_rfl) (by kernel_rfl) (Reads.pure (.pickF rfl rfl)) ?_
    refine .rp 14 rfl (by kernel_rfl) (by kernel_rfl) (by kernel_rfl) (Reads.pure (.assign rfl)) ?_
    refine .done (by kernel_rfl) ?_
    have hv : (over fr gy && decide (gx.to < gy.from_)) = false := by rw [g1_3]; rfl
    rw [hv]
    refine .retP Try.func38 (.cons (.tmp rfl) .nil) (.cons .head .nil) ?_
    exact ⟨[], ⟨rfl, rfl⟩, rfl⟩

set_option maxRecDepth 20000 in
theorem stays_ok (x sb lv o v : Nat) (s : Sn) (a : Option Addr) (c : Nat) (l : List Nat) (ct : Nat → Sg) (fr : Int) (hx : x ∈ l) (hl : l.length ≤ 17592186044416) : Cn Try.prog 37 [ptrV x, ptrV sb, ptrV lv, ptrV o] (fun w => CellsAt sb 0 s.cells w ∧ CellsAt lv 0 [.slice a l.length c] w ∧ CellsAt o 0 [overV v] w ∧ CellsAt v 0 [.int .i64 fr] w ∧ RowAt a (l.flatMap pcell) w ∧ ∀ b ∈ l, CellsAt b 0 (ct b).cells w) [] fun v G => v = .bool (stays (l.map ct) s.offset fr (ct x)) ∧ G = [] := by
  refine .enter Try.func37 rfl (by kernel_rfl) rfl fun R k => ?_
  refine .seq ?_
  refine .region ?_   -- R0 model.go:156
  refine .ef (.box (l := pcell x) rfl rfl (ones.of rfl)) ?_
  rintro _ _ ⟨b4, rfl, rfl⟩
  refine .rd (.assign rfl) ?_
  refine .nil ?_
  refine .seq ?_
  refine .seq ?_
  refine .draws [0, 3, 5] [blk b4 (pcell x) 80, R] (by kernel_rfl) ?_   -- R1 model.go:157
  refine .rd 0 rfl rfl (by kernel_rfl) (by kernel_rfl) (by kernel_rfl) (.ld na80 rfl .head rfl) (.cons .head (.cons .head .nil)) ?_
  refine .rp 1 rfl (by kernel_rfl) (by kernel_rfl) (by kernel_rfl) (Reads.pure (.nilCheck rfl)) ?_
  refine .rp 2 rfl (by kernel_rfl) (by kernel_rfl) (by kernel_rfl) (Reads.pure (.fieldAddr fd82_0 rfl)) ?_
  refine .rd 3 rfl rfl (by kernel_rfl) (by kernel_rfl) (by kernel_rfl) (.load na3 rfl (Knows.pick (.tail .head) (k.mono fun _ h => CellsAt.one ((h.2.2.2.2.2 x hx)) (i := 0) rfl))) (.cons .head (.cons .head .nil)) ?_
  refine .rp 4 rfl (by kernel_rfl) (by kernel_rfl) (by kernel_rfl) (Reads.pure (.fieldAddr fd36_4 rfl)) ?_
  refine .rd 5 rfl rfl (by kernel_rfl) (by kernel_rfl) (by kernel_rfl) (.load na3 rfl (Knows.pick (.tail .head) (k.mono fun _ h => CellsAt.one (h.1) (i := 4) rfl))) (.cons .head (.cons .head .nil)) ?_
  refine .rp 6 rfl (by kernel_rfl) (by kernel_rfl) (by kernel_rfl) (Reads.pure (.neI rfl rfl)) ?_
  refine .done (by kernel_rfl) ?_
  refine .condN rfl (fun h1 => ?_) (fun h1 => ?_)
  · refine .seq ?_
    refine .region ?_   -- R2 model.go:158
    refine .rd (.assign rfl) ?_
    refine .nil ?_
    have hv : stays (l.map ct) s.offset fr (ct x) = false := by unfold stays; rw [decide_eq_false (p := (ct x).offset = s.offset) (by omega)]; rfl
    rw [hv]
    refine .retP Try.func37 (.cons (.tmp rfl) .nil) (.cons (.tail .head) .nil) ?_
    exact ⟨[], ⟨rfl, rfl⟩, rfl⟩
  · refine .skip ?_
    refine .seq ?_
    refine .seq ?_
    refine .region ?_   -- R3 model.go:160
    refine .rd (.ld na80 rfl .head rfl) ?_
    refine .rd (.nilCheck rfl) ?_
    refine .rd (.fieldAddr fd82_2 rfl) ?_
    refine .rd (.load na3 rfl (Knows.pick (.tail .head) (k.mono fun _ h => CellsAt.one ((h.2.2.2.2.2 x hx)) (i := 2) rfl))) ?_
    refine .rd (.lt rfl rfl) ?_
    refine .rd (.move rfl) ?_
    refine .split (t := 18) rfl (fun g3_5 => ?_) (fun g3_5 => ?_)
    · replace g3_5 := of_decide_eq_true g3_5
      refine .off (t := 18) rfl rfl rfl ?_
      refine .off (t := 18) rfl rfl rfl ?_
      refine .off (t := 18) rfl rfl rfl ?_
      refine .off (t := 18) rfl rfl rfl ?_
      refine .off (t := 18) rfl rfl rfl ?_
      refine .rd (.pickT rfl rfl) ?_
      refine .nil ?_
      refine .condT rfl ?_
      refine .seq ?_
      refine .region ?_   -- R4 model.go:161
      refine .rd (.assign rfl) ?_
      refine .nil ?_
      have hv : stays (l.map ct) s.offset fr (ct x) = true := by unfold stays; rw [decide_eq_true (p := (ct x).offset = s.offset) (by omega)]; simp; omega
      rw [hv]
      refine .retP Try.func37 (.cons (.tmp rfl) .nil) (.cons (.tail .head) .nil) ?_
      exact ⟨[], ⟨rfl, rfl⟩, rfl⟩
    · replace g3_5 := of_decide_eq_false g3_5
      refine .on (t := 18) rfl rfl ?_
      refine .rd (.ld na80 rfl .head rfl) ?_
      refine .on (t := 18) rfl rfl ?_
      refine .rd (.nilCheck rfl) ?_
      refine .on (t := 18) rfl rfl ?_
      refine .rd (.fieldAddr fd82_3 rfl) ?_
      refine .on (t := 18) rfl rfl ?_
      refine .rd (.load na34 rfl (Knows.pick (.tail .head) (k.mono fun _ h => CellsAt.one ((h.2.2.2.2.2 x hx)) (i := 3) rfl))) ?_
      refine .on (t := 18) rfl rfl ?_
      refine .rd (.neI rfl rfl) ?_
      refine .rd (.pickF rfl rfl) ?_
      refine .nil ?_
      refine .condN rfl (fun h3 => ?_) (fun h3 => ?_)
      · refine .seq ?_
        refine .region ?_   -- R4 model.go:161
        refine .rd (.assign rfl) ?_
        refine .nil ?_
        have hv : stays (l.map ct) s.offset fr (ct x) = true := by unfold stays; rw [decide_eq_true (p := (ct x).offset = s.offset) (by omega)]; simp; omega
        rw [hv]
        refine .retP Try.func37 (.cons (.tmp rfl) .nil) (.cons (.tail .head) .nil) ?_
        exact ⟨[], ⟨rfl, rfl⟩, rfl⟩
      · refine .skip ?_
        refine .seq ?_
        refine .region ?_   -- R5 model.go:163
        refine .rd (.load na83 rfl (Knows.pick (.tail .head) (k.mono fun _ h => h.2.1))) ?_
        refine .rd (.makeFunc rfl rfl) ?_
        refine .fn rfl rfl .nil (fun A w h => ⟨((Knows.pick (.tail .head) k) A w h).2.2.2.2.1, (Knows.blk .head) A w h, (Knows.pick (.tail .head) k) A w h⟩) (ContainsFunc_ok a c l 38 #[ptrV o, ptrV b4] (fun b => over fr (ct b) && decide ((ct x).to < (ct b).from_)) (fun w => CellsAt b4 0 [ptrV x] w ∧ (CellsAt sb 0 s.cells w ∧ CellsAt lv 0 [.slice a l.length c] w ∧ CellsAt o 0 [overV v] w ∧ CellsAt v 0 [.int .i64 fr] w ∧ RowAt a (l.flatMap pcell) w ∧ ∀ b ∈ l, CellsAt b 0 (ct b).cells w)) (fun b hb => Cn.reads (behind_ok b o b4 v x (ct b) (ct x) fr) fun w h => ⟨h.2.2.2.2.2.2 b hb, h.2.2.2.1, h.2.2.2.2.1, h.1, h.2.2.2.2.2.2 x hx⟩) hl) (fun v G1 hq => ?_)
        obtain ⟨rfl, rfl⟩ := hq
        simp only [List.nil_append]
        refine .rd (.not rfl) ?_
        refine .rd (.assign rfl) ?_
        refine .nil ?_
        have hb : behind (l.map ct) fr (ct x) = l.any (fun b => over fr (ct b) && decide ((ct x).to < (ct b).from_)) := by unfold behind; rw [List.any_map]; rfl
        have hv : stays (l.map ct) s.offset fr (ct x) = !l.any (fun b => over fr (ct b) && decide ((ct x).to < (ct b).from_)) := by unfold stays; rw [decide_eq_true (p := (ct x).offset = s.offset) (by omega), decide_eq_false (p := (ct x).to < 0) (by omega), decide_eq_false (p := (ct x).err ≠ 0) (by omega), hb]; rfl
        rw [hv]
        refine .retP Try.func37 (.cons (.tmp rfl) .nil) (.cons (.tail .head) .nil) ?_
        exact ⟨[], ⟨rfl, rfl⟩, rfl⟩

end Go.Proofs.Ytahpokcigdjilaa

