/- Steps through functions of the program, under conditions that each theorem states (part wire17 of a claim). -/
import Derived.Test.YtllpkagplfmlbaaProg
import Derived.Test.YtllpkagplfmlbaaDefs3j
import Derived.Test.YtllpkagplfmlbaaWire13
namespace Go.Proofs.Ytllpkagplfmlbaa
open Go Go.Sp

set_option linter.unusedVariables false

namespace wire17
theorem na3 : NotAgg Try.prog 3 := ⟨_, Try.underlying3, trivial⟩
theorem na9 : NotAgg Try.prog 9 := ⟨_, Try.underlying9, trivial⟩
theorem fd27_0 : FD Try.prog 27 0 0 := .of Try.underlying27 (by kernel_rfl)
theorem fd27_1 : FD Try.prog 27 1 1 := .of Try.underlying27 (by kernel_rfl)
theorem fd27_2 : FD Try.prog 27 2 2 := .of Try.underlying27 (by kernel_rfl)
theorem fd27_3 : FD Try.prog 27 3 3 := .of Try.underlying27 (by kernel_rfl)
theorem fd27_4 : FD Try.prog 27 4 4 := .of Try.underlying27 (by kernel_rfl)
theorem fd27_5 : FD Try.prog 27 5 5 := .of Try.underlying27 (by kernel_rfl)
theorem na25 : NotAgg Try.prog 25 := ⟨_, Try.underlying25, trivial⟩
theorem ts65 : TS Try.prog 65 3 := .of (by kernel_rfl)
theorem ia65 : IsAgg Try.prog 65 := ⟨_, Try.underlying65, trivial⟩
theorem fd39_0 : FD Try.prog 39 0 0 := .of Try.underlying39 (by kernel_rfl)
theorem fd39_1 : FD Try.prog 39 1 1 := .of Try.underlying39 (by kernel_rfl)
theorem fd39_2 : FD Try.prog 39 2 2 := .of Try.underlying39 (by kernel_rfl)
theorem fd39_3 : FD Try.prog 39 3 3 := .of Try.underlying39 (by kernel_rfl)
theorem fd39_4 : FD Try.prog 39 4 4 := .of Try.underlying39 (by kernel_rfl)
theorem fd39_5 : FD Try.prog 39 5 5 := .of Try.underlying39 (by kernel_rfl)
theorem fd39_6 : FD Try.prog 39 6 6 := .of Try.underlying39 (by kernel_rfl)
theorem fd39_7 : FD Try.prog 39 7 7 := .of Try.underlying39 (by kernel_rfl)
theorem na37 : NotAgg Try.prog 37 := ⟨_, Try.underlying37, trivial⟩
theorem ts3 : TS Try.prog 3 1 := .of (by kernel_rfl)
end wire17
open wire17

theorem str_dec (a b : List UInt8) : decide (str a = str b) = decide (a = b) := decide_eq_decide.2 str_inj
theorem eq65 (p q : Rec) : EqV Try.prog 2 65 (.agg p.cells.toArray) (.agg q.cells.toArray) (decide (p = q)) := by
  have h : EqV Try.prog 2 65 (.agg p.cells.toArray) (.agg q.cells.toArray) (decide (str p.key = str q.key) && (decide (str p.value = str q.value) && (decide (p.time = q.time) && true))) :=
    .struct Try.underlying65 (by kernel_rfl) (.cons (by decide) (part1 na9 rfl) (part1 na9 rfl) (.string Try.underlying9) (.cons (by decide) (part1 na9 rfl) (part1 na9 rfl) (.string Try.underlying9) (.cons (by decide) (part1 na3 rfl) (part1 na3 rfl) (.int Try.underlying3) .nil)))
  have e : (decide (str p.key = str q.key) && (decide (str p.value = str q.value) && (decide (p.time = q.time) && true))) = decide (p = q) := by
    rw [Bool.eq_iff_iff, str_dec, str_dec]; cases p; cases q; simp
  rwa [e] at h
/-- pick. -/
def pickN (c n : Int) : Int := if c < 0 then (-(c + 1)) % n else c % n
theorem pickN_nn {c n : Int} (hn : 0 < n) : 0 ≤ pickN c n := by unfold pickN; split <;> exact Int.emod_nonneg _ (by omega)
theorem pickN_lt {c n : Int} (hn : 0 < n) : pickN c n < n := by unfold pickN; split <;> exact Int.emod_lt_of_pos _ hn
def Bat.nums (b : Bat) : List Int := [b.base, b.epoch, b.pid, b.pidEpoch, b.seq]
theorem bat_ext {x y : Bat} (h1 : x.base = y.base) (h2 : x.epoch = y.epoch) (h3 : x.pid = y.pid) (h4 : x.pidEpoch = y.pidEpoch) (h5 : x.seq = y.seq) (h6 : x.recs = y.recs) : x = y := by
  cases x; cases y; simp_all
theorem met_ext {x y : Met} (h1 : x.kind = y.kind) (h2 : x.a = y.a) (h3 : x.b = y.b) (h4 : x.c = y.c) (h5 : x.d = y.d) (h6 : x.name = y.name) (h7 : x.text = y.text) (h8 : x.list = y.list) : x = y := by
  cases x; cases y; simp_all
theorem take_same {α : Type} {l m : List α} {i : Nat} {x y : α} (h : l.take i = m.take i) (hx : l[i]? = some x) (hy : m[i]? = some y) (e : x = y) : l.take (i + 1) = m.take (i + 1) := by
  rw [List.take_add_one, List.take_add_one, h, hx, hy, e]
theorem list_ne {α : Type} {l m : List α} {i : Nat} {x y : α} (hx : l[i]? = some x) (hy : m[i]? = some y) (e : x ≠ y) : l ≠ m := by
  rintro rfl; rw [hx] at hy; cases hy; exact e rfl

set_option maxRecDepth 20000 in
theorem pick_ok (c n : Int) (hc : i64 c) (hn : 0 < n) : Cn Try.prog 18 [.int .i64 c, .int .i64 n] (fun _ => True) [] fun v G => v = .int .i64 (pickN c n) ∧ G = [] := by
  refine .enter Try.func18 rfl (by kernel_rfl) rfl fun R k => ?_
  obtain ⟨hc1, hc2⟩ := hc
  refine .seq ?_
  refine .region ?_   -- R0 law.go:37
  refine .rd (.assign rfl) ?_
  refine .nil ?_
  refine .seq ?_
  refine .seq ?_
  refine .region ?_   -- R1 law.go:38
  refine .rd (.move rfl) ?_
  refine .rd (.lt rfl rfl) ?_
  refine .nil ?_
  refine .condP rfl (fun h1 => ?_) (fun h1 => ?_)
  · refine .region ?_   -- R2 law.go:39
    refine .rd (.move rfl) ?_
    refine .rd (.add rfl rfl (by omega) (by omega)) ?_
    refine .rd (.neg rfl (by omega) (by omega)) ?_
    refine .rd (.assign rfl) ?_
    refine .nil ?_
    refine .seq ?_
    refine .region ?_   -- R3 law.go:41
    refine .rd (.move rfl) ?_
    refine .rd (.move rfl) ?_
    refine .rd (.rem rfl rfl (by omega) (by omega)) ?_
    refine .rd (.assign rfl) ?_
    refine .nil ?_
    have hv : pickN c n = (-(c + 1)) % n := by unfold pickN; rw [if_pos h1]
    rw [hv]
    refine .retP Try.func18 (.cons (.tmp rfl) .nil) (.cons .head .nil) ?_
    exact ⟨[], ⟨rfl, rfl⟩, rfl⟩
  · refine .skip ?_
    refine .seq ?_
    refine .region ?_   -- R3 law.go:41
    refine .rd (.move rfl) ?_
    refine .rd (.move rfl) ?_
    refine .rd (.rem rfl rfl (by omega) (by omega)) ?_
    refine .rd (.assign rfl) ?_
    refine .nil ?_
    have hv : pickN c n = c % n := by unfold pickN; rw [if_neg h1]
    rw [hv]
    refine .retP Try.func18 (.cons (.tmp rfl) .nil) (.cons .head .nil) ?_
    exact ⟨[], ⟨rfl, rfl⟩, rfl⟩

set_option maxHeartbeats 1000000 in
set_option maxRecDepth 20000 in
theorem same_ok (x y : Bat) (a a' : Option Addr) (c c' : Nat) (hx : x.recs.length ≤ 140737488351232) (hy : y.recs.length ≤ 140737488351232) : Cn Try.prog 19 [.agg (x.cells a c).toArray, .agg (y.cells a' c').toArray] (fun w => RowAt a (x.recs.flatMap Rec.cells) w ∧ RowAt a' (y.recs.flatMap Rec.cells) w) [] fun v G => ∃ r, v = .bool r ∧ (r = true ↔ x = y) ∧ G = [] := by
  refine .enter Try.func19 rfl (by kernel_rfl) rfl fun R k => ?_
  have hx1 := hx
  have hy1 := hy
  refine .seq ?_
  refine .region ?_   -- R0 law.go:11
  refine .ef (.box (l := x.cells a c) rfl rfl (ones.of rfl)) ?_
  rintro _ _ ⟨b2, rfl, rfl⟩
  refine .ef (.box (l := y.cells a' c') rfl rfl (ones.of rfl)) ?_
  rintro _ _ ⟨b3, rfl, rfl⟩
  refine .rd (.assign rfl) ?_
  refine .nil ?_
  refine .seq ?_
  refine .seq ?_
  refine .region ?_   -- R1 law.go:12
  refine .rd (.fieldAddr fd27_0 rfl) ?_
  refine .rd (.ld na3 rfl (.tail .head) rfl) ?_
  refine .rd (.fieldAddr fd27_0 rfl) ?_
  refine .rd (.ld na3 rfl .head rfl) ?_
  refine .rd (.neI rfl rfl) ?_
  refine .rd (.move rfl) ?_
  refine .split (t := 11) rfl (fun gbase => ?_) (fun gbase => ?_)
  · simp at gbase
    have hno : x ≠ y := fun e => gbase (by rw [e])
    refine .off (t := 11) rfl rfl rfl ?_
    refine .off (t := 11) rfl rfl rfl ?_
    refine .off (t := 11) rfl rfl rfl ?_
    refine .off (t := 11) rfl rfl rfl ?_
    refine .off (t := 11) rfl rfl rfl ?_
    refine .rd (.pickT rfl rfl) ?_
    refine .rd (.move rfl) ?_
    refine .off (t := 18) rfl rfl rfl ?_
    refine .off (t := 18) rfl rfl rfl ?_
    refine .off (t := 18) rfl rfl rfl ?_
    refine .off (t := 18) rfl rfl rfl ?_
    refine .off (t := 18) rfl rfl rfl ?_
    refine .rd (.pickT rfl rfl) ?_
    refine .rd (.move rfl) ?_
    refine .off (t := 25) rfl rfl rfl ?_
    refine .off (t := 25) rfl rfl rfl ?_
    refine .off (t := 25) rfl rfl rfl ?_
    refine .off (t := 25) rfl rfl rfl ?_
    refine .off (t := 25) rfl rfl rfl ?_
    refine .rd (.pickT rfl rfl) ?_
    refine .rd (.move rfl) ?_
    refine .off (t := 32) rfl rfl rfl ?_
    refine .off (t := 32) rfl rfl rfl ?_
    refine .off (t := 32) rfl rfl rfl ?_
    refine .off (t := 32) rfl rfl rfl ?_
    refine .off (t := 32) rfl rfl rfl ?_
    refine .rd (.pickT rfl rfl) ?_
    refine .rd (.move rfl) ?_
    refine .off (t := 39) rfl rfl rfl ?_
    refine .off (t := 39) rfl rfl rfl ?_
    refine .off (t := 39) rfl rfl rfl ?_
    refine .off (t := 39) rfl rfl rfl ?_
    refine .off (t := 39) rfl rfl rfl ?_
    refine .off (t := 39) rfl rfl rfl ?_
    refine .off (t := 39) rfl rfl rfl ?_
    refine .rd (.pickT rfl rfl) ?_
    refine .nil ?_
    refine .condT rfl ?_
    refine .seq ?_
    refine .region ?_   -- R2 law.go:13
    refine .rd (.assign rfl) ?_
    refine .nil ?_
    refine .retP Try.func19 (.cons (.tmp rfl) .nil) (.cons (.tail (.tail .head)) .nil) ?_
    exact ⟨[], ⟨false, rfl, ⟨fun h => absurd h Bool.false_ne_true, fun h => absurd h hno⟩, rfl⟩, rfl⟩
  · simp at gbase
    refine .on (t := 11) rfl rfl ?_
    refine .rd (.fieldAddr fd27_1 rfl) ?_
    refine .on (t := 11) rfl rfl ?_
    refine .rd (.ld na3 rfl (.tail .head) rfl) ?_
    refine .on (t := 11) rfl rfl ?_
    refine .rd (.fieldAddr fd27_1 rfl) ?_
    refine .on (t := 11) rfl rfl ?_
    refine .rd (.ld na3 rfl .head rfl) ?_
    refine .on (t := 11) rfl rfl ?_
    refine .rd (.neI rfl rfl) ?_
    refine .rd (.pickF rfl rfl) ?_
    refine .rd (.move rfl) ?_
    refine .split (t := 18) rfl (fun gepoch => ?_) (fun gepoch => ?_)
    · simp at gepoch
      have hno : x ≠ y := fun e => gepoch (by rw [e])
      refine .off (t := 18) rfl rfl rfl ?_
      refine .off (t := 18) rfl rfl rfl ?_
      refine .off (t := 18) rfl rfl rfl ?_
      refine .off (t := 18) rfl rfl rfl ?_
      refine .off (t := 18) rfl rfl rfl ?_
      refine .rd (.pickT rfl rfl) ?_
      refine .rd (.move rfl) ?_
      refine .off (t := 25) rfl rfl rfl ?_
      refine .off (t := 25) rfl rfl rfl ?_
      refine .off (t := 25) rfl rfl rfl ?_
      refine .off (t := 25) rfl rfl rfl ?_
      refine .off (t := 25) rfl rfl rfl ?_
      refine .rd (.pickT rfl rfl) ?_
      refine .rd (.move rfl) ?_
      refine .off (t := 32) rfl rfl rfl ?_
      refine .off (t := 32) rfl rfl rfl ?_
      refine .off (t := 32) rfl rfl rfl ?_
      refine .off (t := 32) rfl rfl rfl ?_
      refine .off (t := 32) rfl rfl rfl ?_
      refine .rd (.pickT rfl rfl) ?_
      refine .rd (.move rfl) ?_
      refine .off (t := 39) rfl rfl rfl ?_
      refine .off (t := 39) rfl rfl rfl ?_
      refine .off (t := 39) rfl rfl rfl ?_
      refine .off (t := 39) rfl rfl rfl ?_
      refine .off (t := 39) rfl rfl rfl ?_
      refine .off (t := 39) rfl rfl rfl ?_
      refine .off (t := 39) rfl rfl rfl ?_
      refine .rd (.pickT rfl rfl) ?_
      refine .nil ?_
      refine .condT rfl ?_
      refine .seq ?_
      refine .region ?_   -- R2 law.go:13
      refine .rd (.assign rfl) ?_
      refine .nil ?_
      refine .retP Try.func19 (.cons (.tmp rfl) .nil) (.cons (.tail (.tail .head)) .nil) ?_
      exact ⟨[], ⟨false, rfl, ⟨fun h => absurd h Bool.false_ne_true, fun h => absurd h hno⟩, rfl⟩, rfl⟩
    · simp at gepoch
      refine .on (t := 18) rfl rfl ?_
      refine .rd (.fieldAddr fd27_2 rfl) ?_
      refine .on (t := 18) rfl rfl ?_
      refine .rd (.ld na3 rfl (.tail .head) rfl) ?_
      refine .on (t := 18) rfl rfl ?_
      refine .rd (.fieldAddr fd27_2 rfl) ?_
      refine .on (t := 18) rfl rfl ?_
      refine .rd (.ld na3 rfl .head rfl) ?_
      refine .on (t := 18) rfl rfl ?_
      refine .rd (.neI rfl rfl) ?_
      refine .rd (.pickF rfl rfl) ?_
      refine .rd (.move rfl) ?_
      refine .split (t := 25) rfl (fun gpid => ?_) (fun gpid => ?_)
      · simp at gpid
        have hno : x ≠ y := fun e => gpid (by rw [e])
        refine .off (t := 25) rfl rfl rfl ?_
        refine .off (t := 25) rfl rfl rfl ?_
        refine .off (t := 25) rfl rfl rfl ?_
        refine .off (t := 25) rfl rfl rfl ?_
        refine .off (t := 25) rfl rfl rfl ?_
        refine .rd (.pickT rfl rfl) ?_
        refine .rd (.move rfl) ?_
        refine .off (t := 32) rfl rfl rfl ?_
        refine .off (t := 32) rfl rfl rfl ?_
        refine .off (t := 32) rfl rfl rfl ?_
        refine .off (t := 32) rfl rfl rfl ?_
        refine .off (t := 32) rfl rfl rfl ?_
        refine .rd (.pickT rfl rfl) ?_
        refine .rd (.move rfl) ?_
        refine .off (t := 39) rfl rfl rfl ?_
        refine .off (t := 39) rfl rfl rfl ?_
        refine .off (t := 39) rfl rfl rfl ?_
        refine .off (t := 39) rfl rfl rfl ?_
        refine .off (t := 39) rfl rfl rfl ?_
        refine .off (t := 39) rfl rfl rfl ?_
        refine .off (t := 39) rfl rfl rfl ?_
        refine .rd (.pickT rfl rfl) ?_
        refine .nil ?_
        refine .condT rfl ?_
        refine .seq ?_
        refine .region ?_   -- R2 law.go:13
        refine .rd (.assign rfl) ?_
        refine .nil ?_
        refine .retP Try.func19 (.cons (.tmp rfl) .nil) (.cons (.tail (.tail .head)) .nil) ?_
        exact ⟨[], ⟨false, rfl, ⟨fun h => absurd h Bool.false_ne_true, fun h => absurd h hno⟩, rfl⟩, rfl⟩
      · simp at gpid
        refine .on (t := 25) rfl rfl ?_
        refine .rd (.fieldAddr fd27_3 rfl) ?_
        refine .on (t := 25) rfl rfl ?_
        refine .rd (.ld na3 rfl (.tail .head) rfl) ?_
        refine .on (t := 25) rfl rfl ?_
        refine .rd (.fieldAddr fd27_3 rfl) ?_
        refine .on (t := 25) rfl rfl ?_
        refine .rd (.ld na3 rfl .head rfl) ?_
        refine .on (t := 25) rfl rfl ?_
        refine .rd (.neI rfl rfl) ?_
        refine .rd (.pickF rfl rfl) ?_
        refine .rd (.move rfl) ?_
        refine .split (t := 32) rfl (fun gpidEpoch => ?_) (fun gpidEpoch => ?_)
        · simp at gpidEpoch
          have hno : x ≠ y := fun e => gpidEpoch (by rw [e])
          refine .off (t := 32) rfl rfl rfl ?_
          refine .off (t := 32) rfl rfl rfl ?_
          refine .off (t := 32) rfl rfl rfl ?_
          refine .off (t := 32) rfl rfl rfl ?_
          refine .off (t := 32) rfl rfl rfl ?_
          refine .rd (.pickT rfl rfl) ?_
          refine .rd (.move rfl) ?_
          refine .off (t := 39) rfl rfl rfl ?_
          refine .off (t := 39) rfl rfl rfl ?_
          refine .off (t := 39) rfl rfl rfl ?_
          refine .off (t := 39) rfl rfl rfl ?_
          refine .off (t := 39) rfl rfl rfl ?_
          refine .off (t := 39) rfl rfl rfl ?_
          refine .off (t := 39) rfl rfl rfl ?_
          refine .rd (.pickT rfl rfl) ?_
          refine .nil ?_
          refine .condT rfl ?_
          refine .seq ?_
          refine .region ?_   -- R2 law.go:13
          refine .rd (.assign rfl) ?_
          refine .nil ?_
          refine .retP Try.func19 (.cons (.tmp rfl) .nil) (.cons (.tail (.tail .head)) .nil) ?_
          exact ⟨[], ⟨false, rfl, ⟨fun h => absurd h Bool.false_ne_true, fun h => absurd h hno⟩, rfl⟩, rfl⟩
        · simp at gpidEpoch
          refine .on (t := 32) rfl rfl ?_
          refine .rd (.fieldAddr fd27_4 rfl) ?_
          refine .on (t := 32) rfl rfl ?_
          refine .rd (.ld na3 rfl (.tail .head) rfl) ?_
          refine .on (t := 32) rfl rfl ?_
          refine .rd (.fieldAddr fd27_4 rfl) ?_
          refine .on (t := 32) rfl rfl ?_
          refine .rd (.ld na3 rfl .head rfl) ?_
          refine .on (t := 32) rfl rfl ?_
          refine .rd (.neI rfl rfl) ?_
          refine .rd (.pickF rfl rfl) ?_
          refine .rd (.move rfl) ?_
          refine .split (t := 39) rfl (fun gseq => ?_) (fun gseq => ?_)
          · simp at gseq
            have hno : x ≠ y := fun e => gseq (by rw [e])
            refine .off (t := 39) rfl rfl rfl ?_
            refine .off (t := 39) rfl rfl rfl ?_
            refine .off (t := 39) rfl rfl rfl ?_
            refine .off (t := 39) rfl rfl rfl ?_
            refine .off (t := 39) rfl rfl rfl ?_
            refine .off (t := 39) rfl rfl rfl ?_
            refine .off (t := 39) rfl rfl rfl ?_
            refine .rd (.pickT rfl rfl) ?_
            refine .nil ?_
            refine .condT rfl ?_
            refine .seq ?_
            refine .region ?_   -- R2 law.go:13
            refine .rd (.assign rfl) ?_
            refine .nil ?_
            refine .retP Try.func19 (.cons (.tmp rfl) .nil) (.cons (.tail (.tail .head)) .nil) ?_
            exact ⟨[], ⟨false, rfl, ⟨fun h => absurd h Bool.false_ne_true, fun h => absurd h hno⟩, rfl⟩, rfl⟩
          · simp at gseq
            refine .on (t := 39) rfl rfl ?_
            refine .rd (.fieldAddr fd27_5 rfl) ?_
            refine .on (t := 39) rfl rfl ?_
            refine .rd (.ld na25 rfl (.tail .head) rfl) ?_
            refine .on (t := 39) rfl rfl ?_
            refine .rd (.lenL rfl rfl Try.underlying25 rfl) ?_
            refine .on (t := 39) rfl rfl ?_
            refine .rd (.fieldAddr fd27_5 rfl) ?_
            refine .on (t := 39) rfl rfl ?_
            refine .rd (.ld na25 rfl .head rfl) ?_
            refine .on (t := 39) rfl rfl ?_
            refine .rd (.lenL rfl rfl Try.underlying25 rfl) ?_
            refine .on (t := 39) rfl rfl ?_
            refine .rd (.neI rfl rfl) ?_
            refine .rd (.pickF rfl rfl) ?_
            refine .nil ?_
            refine .condN rfl (fun hln => ?_) (fun hln => ?_)
            · have hno : x ≠ y := fun e => hln (by rw [e])
              refine .seq ?_
              refine .region ?_   -- R2 law.go:13
              refine .rd (.assign rfl) ?_
              refine .nil ?_
              refine .retP Try.func19 (.cons (.tmp rfl) .nil) (.cons (.tail (.tail .head)) .nil) ?_
              exact ⟨[], ⟨false, rfl, ⟨fun h => absurd h Bool.false_ne_true, fun h => absurd h hno⟩, rfl⟩, rfl⟩
            · refine .skip ?_
              refine .seq ?_
              refine .seq ?_
              refine .region ?_   -- R3 law.go:15
              refine .rd (.assign rfl) ?_
              refine .nil ?_
              refine .block ?_
              refine .loop (σ := Nat) (fun i => i ≤ x.recs.length ∧ x.recs.take i = y.recs.take i) (fun i => x.recs.length - i) (fun i => [(2, .pointer (some ⟨b2, 0, none⟩)), (3, .pointer (some ⟨b3, 0, none⟩)), (5, .int .i64 (i : Nat))]) (fun i => [blk b2 (x.cells a c) 27, blk b3 (y.cells a' c') 27, R]) 0 ⟨Nat.zero_le _, rfl⟩ (.cons rfl (.cons rfl (.cons rfl .nil))) (.cons (.tail .head) (.cons .head (.cons .head .nil))) (fun i hI ih => ?_)
              have hil := hI.1
              refine .seq ?_
              refine .seq ?_
              refine .region ?_   -- R4 law.go:15
              refine .rd (.move rfl) ?_
              refine .rd (.fieldAddr fd27_5 rfl) ?_
              refine .rd (.ld na25 rfl .head rfl) ?_
              refine .rd (.lenL rfl rfl Try.underlying25 rfl) ?_
              refine .rd (.lt rfl rfl) ?_
              refine .nil ?_
              refine .condP rfl (fun h4 => ?_) (fun h4 => ?_)
              · refine .skip ?_
                refine .seq ?_
                refine .block ?_
                refine .seq ?_
                have hl2 : x.recs.length = y.recs.length := by omega
                obtain ⟨u, hu⟩ : ∃ u, x.recs[i]? = some u := ⟨_, List.getElem?_eq_getElem (show i < x.recs.length by omega)⟩
                obtain ⟨w, hw⟩ : ∃ w, y.recs[i]? = some w := ⟨_, List.getElem?_eq_getElem (show i < y.recs.length by omega)⟩
                refine .tell (φ := ∃ b o, a = some ⟨b, o, none⟩) (Knows.pick (.tail (.tail .head)) (k.mono fun _ h => h.1.addr (by rw [flat_length Rec.cells_len]; omega))) (fun h => ?_)
                obtain ⟨bb, oo, rfl⟩ := h
                refine .tell (φ := ∃ b o, a' = some ⟨b, o, none⟩) (Knows.pick (.tail (.tail .head)) (k.mono fun _ h => h.2.addr (by rw [flat_length Rec.cells_len]; omega))) (fun h => ?_)
                obtain ⟨bc, oc, rfl⟩ := h
                refine .draws [1, 4, 6, 9] [blk b2 (x.cells (some ⟨bb, oo, none⟩) c) 27, blk b3 (y.cells (some ⟨bc, oc, none⟩) c') 27, R] (by kernel_rfl) ?_   -- R6 law.go:16
                refine .rp 0 rfl (by kernel_rfl) (by kernel_rfl) (by kernel_rfl) (Reads.pure (.fieldAddr fd27_5 rfl)) ?_
                refine .rd 1 rfl rfl (by kernel_rfl) (by kernel_rfl) (by kernel_rfl) (.ld na25 rfl .head rfl) (.cons .head (.cons .head (.cons .head .nil))) ?_
                refine .rp 2 rfl (by kernel_rfl) (by kernel_rfl) (by kernel_rfl) (Reads.pure (.move rfl)) ?_
                refine .rp 3 rfl (by kernel_rfl) (by kernel_rfl) (by kernel_rfl) (Reads.pure (.indexAddr Try.underlying25 ts65 rfl rfl (by omega) (by omega))) ?_
                refine .rd 4 rfl rfl (by kernel_rfl) (by kernel_rfl) (by kernel_rfl) (.loadN ia65 ts65 rfl rfl (Knows.elem (f := Rec.cells) Rec.cells_len (by decide) (Knows.pick (.tail (.tail .head)) (k.mono fun _ h => h.1)) hu)) (.cons .head (.cons .head (.cons .head .nil))) ?_
                refine .rp 5 rfl (by kernel_rfl) (by kernel_rfl) (by kernel_rfl) (Reads.pure (.fieldAddr fd27_5 rfl)) ?_
                refine .rd 6 rfl rfl (by kernel_rfl) (by kernel_rfl) (by kernel_rfl) (.ld na25 rfl (.tail .head) rfl) (.cons .head (.cons .head (.cons .head .nil))) ?_
                refine .rp 7 rfl (by kernel_rfl) (by kernel_rfl) (by kernel_rfl) (Reads.pure (.move rfl)) ?_
                refine .rp 8 rfl (by kernel_rfl) (by kernel_rfl) (by kernel_rfl) (Reads.pure (.indexAddr Try.underlying25 ts65 rfl rfl (by omega) (by omega))) ?_
                refine .rd 9 rfl rfl (by kernel_rfl) (by kernel_rfl) (by kernel_rfl) (.loadN ia65 ts65 rfl rfl (Knows.elem (f := Rec.cells) Rec.cells_len (by decide) (Knows.pick (.tail (.tail .head)) (k.mono fun _ h => h.2)) hw)) (.cons .head (.cons .head (.cons .head .nil))) ?_
                refine .rp 10 rfl (by kernel_rfl) (by kernel_rfl) (by kernel_rfl) (Reads.pure (.neA (xs := u.cells.toArray) (ys := w.cells.toArray) (by kernel_rfl) rfl (eq65 _ _) rfl rfl)) ?_
                refine .done (by kernel_rfl) ?_
                refine .condN rfl (fun h6 => ?_) (fun h6 => ?_)
                · have hno : x ≠ y := fun e => list_ne hu hw h6 (by rw [e])
                  refine .seq ?_
                  refine .region ?_   -- R7 law.go:17
                  refine .rd (.assign rfl) ?_
                  refine .nil ?_
                  refine .retP Try.func19 (.cons (.tmp rfl) .nil) (.cons (.tail (.tail .head)) .nil) ?_
                  exact ⟨[], ⟨false, rfl, ⟨fun h => absurd h Bool.false_ne_true, fun h => absurd h hno⟩, rfl⟩, rfl⟩
                · refine .skip ?_
                  refine .inBlock ?_
                  refine .region ?_   -- R5 law.go:15
                  refine .rd (.move rfl) ?_
                  refine .rd (.add rfl rfl (by omega) (by omega)) ?_
                  refine .rd (.assign rfl) ?_
                  refine .nil ?_
                  exact (ih (i + 1) ⟨by omega, take_same hI.2 hu hw h6⟩ (by omega)).to (.cons rfl (.cons rfl (.cons rfl .nil))) (.cons .head (.cons .head (.cons .head .nil)))
              · have hii : i = x.recs.length := by omega
                have hseq : x.recs = y.recs := by
                  have := hI.2
                  rwa [hii, List.take_length, show x.recs.length = y.recs.length by omega, List.take_length] at this
                have hyes : x = y := bat_ext gbase gepoch gpid gpidEpoch gseq hseq
                refine .exit rfl ?_
                refine .seq ?_
                refine .region ?_   -- R8 law.go:20
                refine .rd (.assign rfl) ?_
                refine .nil ?_
                refine .retP Try.func19 (.cons (.tmp rfl) .nil) (.cons (.tail (.tail .head)) .nil) ?_
                exact ⟨[], ⟨true, rfl, ⟨fun _ => hyes, fun _ => rfl⟩, rfl⟩, rfl⟩

set_option maxHeartbeats 1000000 in
set_option maxRecDepth 20000 in
theorem alike_ok (x y : Met) (a a' : Option Addr) (c c' : Nat) (hx : x.list.length ≤ 140737488351232) (hy : y.list.length ≤ 140737488351232) : Cn Try.prog 26 [.agg (x.cells a c).toArray, .agg (y.cells a' c').toArray] (fun w => RowAt a (x.list.flatMap icell) w ∧ RowAt a' (y.list.flatMap icell) w) [] fun v G => ∃ r, v = .bool r ∧ (r = true ↔ x = y) ∧ G = [] := by
  refine .enter Try.func26 rfl (by kernel_rfl) rfl fun R k => ?_
  have hx1 := hx
  have hy1 := hy
  refine .seq ?_
  refine .region ?_   -- R0 law.go:24
  refine .ef (.box (l := x.cells a c) rfl rfl (ones.of rfl)) ?_
  rintro _ _ ⟨b2, rfl, rfl⟩
  refine .ef (.box (l := y.cells a' c') rfl rfl (ones.of rfl)) ?_
  rintro _ _ ⟨b3, rfl, rfl⟩
  refine .rd (.assign rfl) ?_
  refine .nil ?_
  refine .seq ?_
  refine .seq ?_
  refine .region ?_   -- R1 law.go:25
  refine .rd (.fieldAddr fd39_0 rfl) ?_
  refine .rd (.ld na3 rfl (.tail .head) rfl) ?_
  refine .rd (.fieldAddr fd39_0 rfl) ?_
  refine .rd (.ld na3 rfl .head rfl) ?_
  refine .rd (.neI rfl rfl) ?_
  refine .rd (.move rfl) ?_
  refine .split (t := 11) rfl (fun gkind => ?_) (fun gkind => ?_)
  · simp at gkind
    have hno : x ≠ y := fun e => gkind (by rw [e])
    refine .off (t := 11) rfl rfl rfl ?_
    refine .off (t := 11) rfl rfl rfl ?_
    refine .off (t := 11) rfl rfl rfl ?_
    refine .off (t := 11) rfl rfl rfl ?_
    refine .off (t := 11) rfl rfl rfl ?_
    refine .rd (.pickT rfl rfl) ?_
    refine .rd (.move rfl) ?_
    refine .off (t := 18) rfl rfl rfl ?_
    refine .off (t := 18) rfl rfl rfl ?_
    refine .off (t := 18) rfl rfl rfl ?_
    refine .off (t := 18) rfl rfl rfl ?_
    refine .off (t := 18) rfl rfl rfl ?_
    refine .rd (.pickT rfl rfl) ?_
    refine .rd (.move rfl) ?_
    refine .off (t := 25) rfl rfl rfl ?_
    refine .off (t := 25) rfl rfl rfl ?_
    refine .off (t := 25) rfl rfl rfl ?_
    refine .off (t := 25) rfl rfl rfl ?_
    refine .off (t := 25) rfl rfl rfl ?_
    refine .rd (.pickT rfl rfl) ?_
    refine .rd (.move rfl) ?_
    refine .off (t := 32) rfl rfl rfl ?_
    refine .off (t := 32) rfl rfl rfl ?_
    refine .off (t := 32) rfl rfl rfl ?_
    refine .off (t := 32) rfl rfl rfl ?_
    refine .off (t := 32) rfl rfl rfl ?_
    refine .rd (.pickT rfl rfl) ?_
    refine .rd (.move rfl) ?_
    refine .off (t := 39) rfl rfl rfl ?_
    refine .off (t := 39) rfl rfl rfl ?_
    refine .off (t := 39) rfl rfl rfl ?_
    refine .off (t := 39) rfl rfl rfl ?_
    refine .off (t := 39) rfl rfl rfl ?_
    refine .rd (.pickT rfl rfl) ?_
    refine .rd (.move rfl) ?_
    refine .off (t := 46) rfl rfl rfl ?_
    refine .off (t := 46) rfl rfl rfl ?_
    refine .off (t := 46) rfl rfl rfl ?_
    refine .off (t := 46) rfl rfl rfl ?_
    refine .off (t := 46) rfl rfl rfl ?_
    refine .rd (.pickT rfl rfl) ?_
    refine .rd (.move rfl) ?_
    refine .off (t := 53) rfl rfl rfl ?_
    refine .off (t := 53) rfl rfl rfl ?_
    refine .off (t := 53) rfl rfl rfl ?_
    refine .off (t := 53) rfl rfl rfl ?_
    refine .off (t := 53) rfl rfl rfl ?_
    refine .off (t := 53) rfl rfl rfl ?_
    refine .off (t := 53) rfl rfl rfl ?_
    refine .rd (.pickT rfl rfl) ?_
    refine .nil ?_
    refine .condT rfl ?_
    refine .seq ?_
    refine .region ?_   -- R2 law.go:26
    refine .rd (.assign rfl) ?_
    refine .nil ?_
    refine .retP Try.func26 (.cons (.tmp rfl) .nil) (.cons (.tail (.tail .head)) .nil) ?_
    exact ⟨[], ⟨false, rfl, ⟨fun h => absurd h Bool.false_ne_true, fun h => absurd h hno⟩, rfl⟩, rfl⟩
  · simp at gkind
    refine .on (t := 11) rfl rfl ?_
    refine .rd (.fieldAddr fd39_1 rfl) ?_
    refine .on (t := 11) rfl rfl ?_
    refine .rd (.ld na3 rfl (.tail .head) rfl) ?_
    refine .on (t := 11) rfl rfl ?_
    refine .rd (.fieldAddr fd39_1 rfl) ?_
    refine .on (t := 11) rfl rfl ?_
    refine .rd (.ld na3 rfl .head rfl) ?_
    refine .on (t := 11) rfl rfl ?_
    refine .rd (.neI rfl rfl) ?_
    refine .rd (.pickF rfl rfl) ?_
    refine .rd (.move rfl) ?_
    refine .split (t := 18) rfl (fun ga => ?_) (fun ga => ?_)
    · simp at ga
      have hno : x ≠ y := fun e => ga (by rw [e])
      refine .off (t := 18) rfl rfl rfl ?_
      refine .off (t := 18) rfl rfl rfl ?_
      refine .off (t := 18) rfl rfl rfl ?_
      refine .off (t := 18) rfl rfl rfl ?_
      refine .off (t := 18) rfl rfl rfl ?_
      refine .rd (.pickT rfl rfl) ?_
      refine .rd (.move rfl) ?_
      refine .off (t := 25) rfl rfl rfl ?_
      refine .off (t := 25) rfl rfl rfl ?_
      refine .off (t := 25) rfl rfl rfl ?_
      refine .off (t := 25) rfl rfl rfl ?_
      refine .off (t := 25) rfl rfl rfl ?_
      refine .rd (.pickT rfl rfl) ?_
      refine .rd (.move rfl) ?_
      refine .off (t := 32) rfl rfl rfl ?_
      refine .off (t := 32) rfl rfl rfl ?_
      refine .off (t := 32) rfl rfl rfl ?_
      refine .off (t := 32) rfl rfl rfl ?_
      refine .off (t := 32) rfl rfl rfl ?_
      refine .rd (.pickT rfl rfl) ?_
      refine .rd (.move rfl) ?_
      refine .off (t := 39) rfl rfl rfl ?_
      refine .off (t := 39) rfl rfl rfl ?_
      refine .off (t := 39) rfl rfl rfl ?_
      refine .off (t := 39) rfl rfl rfl ?_
      refine .off (t := 39) rfl rfl rfl ?_
      refine .rd (.pickT rfl rfl) ?_
      refine .rd (.move rfl) ?_
      refine .off (t := 46) rfl rfl rfl ?_
      refine .off (t := 46) rfl rfl rfl ?_
      refine .off (t := 46) rfl rfl rfl ?_
      refine .off (t := 46) rfl rfl rfl ?_
      refine .off (t := 46) rfl rfl rfl ?_
      refine .rd (.pickT rfl rfl) ?_
      refine .rd (.move rfl) ?_
      refine .off (t := 53) rfl rfl rfl ?_
      refine .off (t := 53) rfl rfl rfl ?_
      refine .off (t := 53) rfl rfl rfl ?_
      refine .off (t := 53) rfl rfl rfl ?_
      refine .off (t := 53) rfl rfl rfl ?_
      refine .off (t := 53) rfl rfl rfl ?_
      refine .off (t := 53) rfl rfl rfl ?_
      refine .rd (.pickT rfl rfl) ?_
      refine .nil ?_
      refine .condT rfl ?_
      refine .seq ?_
      refine .region ?_   -- R2 law.go:26
      refine .rd (.assign rfl) ?_
      refine .nil ?_
      refine .retP Try.func26 (.cons (.tmp rfl) .nil) (.cons (.tail (.tail .head)) .nil) ?_
      exact ⟨[], ⟨false, rfl, ⟨fun h => absurd h Bool.false_ne_true, fun h => absurd h hno⟩, rfl⟩, rfl⟩
    · simp at ga
      refine .on (t := 18) rfl rfl ?_
      refine .rd (.fieldAddr fd39_2 rfl) ?_
      refine .on (t := 18) rfl rfl ?_
      refine .rd (.ld na3 rfl (.tail .head) rfl) ?_
      refine .on (t := 18) rfl rfl ?_
      refine .rd (.fieldAddr fd39_2 rfl) ?_
      refine .on (t := 18) rfl rfl ?_
      refine .rd (.ld na3 rfl .head rfl) ?_
      refine .on (t := 18) rfl rfl ?_
      refine .rd (.neI rfl rfl) ?_
      refine .rd (.pickF rfl rfl) ?_
      refine .rd (.move rfl) ?_
      refine .split (t := 25) rfl (fun gb => ?_) (fun gb => ?_)
      · simp at gb
        have hno : x ≠ y := fun e => gb (by rw [e])
        refine .off (t := 25) rfl rfl rfl ?_
        refine .off (t := 25) rfl rfl rfl ?_
        refine .off (t := 25) rfl rfl rfl ?_
        refine .off (t := 25) rfl rfl rfl ?_
        refine .off (t := 25) rfl rfl rfl ?_
        refine .rd (.pickT rfl rfl) ?_
        refine .rd (.move rfl) ?_
        refine .off (t := 32) rfl rfl rfl ?_
        refine .off (t := 32) rfl rfl rfl ?_
        refine .off (t := 32) rfl rfl rfl ?_
        refine .off (t := 32) rfl rfl rfl ?_
        refine .off (t := 32) rfl rfl rfl ?_
        refine .rd (.pickT rfl rfl) ?_
        refine .rd (.move rfl) ?_
        refine .off (t := 39) rfl rfl rfl ?_
        refine .off (t := 39) rfl rfl rfl ?_
        refine .off (t := 39) rfl rfl rfl ?_
        refine .off (t := 39) rfl rfl rfl ?_
        refine .off (t := 39) rfl rfl rfl ?_
        refine .rd (.pickT rfl rfl) ?_
        refine .rd (.move rfl) ?_
        refine .off (t := 46) rfl rfl rfl ?_
        refine .off (t := 46) rfl rfl rfl ?_
        refine .off (t := 46) rfl rfl rfl ?_
        refine .off (t := 46) rfl rfl rfl ?_
        refine .off (t := 46) rfl rfl rfl ?_
        refine .rd (.pickT rfl rfl) ?_
        refine .rd (.move rfl) ?_
        refine .off (t := 53) rfl rfl rfl ?_
        refine .off (t := 53) rfl rfl rfl ?_
        refine .off (t := 53) rfl rfl rfl ?_
        refine .off (t := 53) rfl rfl rfl ?_
        refine .off (t := 53) rfl rfl rfl ?_
        refine .off (t := 53) rfl rfl rfl ?_
        refine .off (t := 53) rfl rfl rfl ?_
        refine .rd (.pickT rfl rfl) ?_
        refine .nil ?_
        refine .condT rfl ?_
        refine .seq ?_
        refine .region ?_   -- R2 law.go:26
        refine .rd (.assign rfl) ?_
        refine .nil ?_
        refine .retP Try.func26 (.cons (.tmp rfl) .nil) (.cons (.tail (.tail .head)) .nil) ?_
        exact ⟨[], ⟨false, rfl, ⟨fun h => absurd h Bool.false_ne_true, fun h => absurd h hno⟩, rfl⟩, rfl⟩
      · simp at gb
        refine .on (t := 25) rfl rfl ?_
        refine .rd (.fieldAddr fd39_3 rfl) ?_
        refine .on (t := 25) rfl rfl ?_
        refine .rd (.ld na3 rfl (.tail .head) rfl) ?_
        refine .on (t := 25) rfl rfl ?_
        refine .rd (.fieldAddr fd39_3 rfl) ?_
        refine .on (t := 25) rfl rfl ?_
        refine .rd (.ld na3 rfl .head rfl) ?_
        refine .on (t := 25) rfl rfl ?_
        refine .rd (.neI rfl rfl) ?_
        refine .rd (.pickF rfl rfl) ?_
        refine .rd (.move rfl) ?_
        refine .split (t := 32) rfl (fun gc => ?_) (fun gc => ?_)
        · simp at gc
          have hno : x ≠ y := fun e => gc (by rw [e])
          refine .off (t := 32) rfl rfl rfl ?_
          refine .off (t := 32) rfl rfl rfl ?_
          refine .off (t := 32) rfl rfl rfl ?_
          refine .off (t := 32) rfl rfl rfl ?_
          refine .off (t := 32) rfl rfl rfl ?_
          refine .rd (.pickT rfl rfl) ?_
          refine .rd (.move rfl) ?_
          refine .off (t := 39) rfl rfl rfl ?_
          refine .off (t := 39) rfl rfl rfl ?_
          refine .off (t := 39) rfl rfl rfl ?_
          refine .off (t := 39) rfl rfl rfl ?_
          refine .off (t := 39) rfl rfl rfl ?_
          refine .rd (.pickT rfl rfl) ?_
          refine .rd (.move rfl) ?_
          refine .off (t := 46) rfl rfl rfl ?_
          refine .off (t := 46) rfl rfl rfl ?_
          refine .off (t := 46) rfl rfl rfl ?_
          refine .off (t := 46) rfl rfl rfl ?_
          refine .off (t := 46) rfl rfl rfl ?_
          refine .rd (.pickT rfl rfl) ?_
          refine .rd (.move rfl) ?_
          refine .off (t := 53) rfl rfl rfl ?_
          refine .off (t := 53) rfl rfl rfl ?_
          refine .off (t := 53) rfl rfl rfl ?_
          refine .off (t := 53) rfl rfl rfl ?_
          refine .off (t := 53) rfl rfl rfl ?_
          refine .off (t := 53) rfl rfl rfl ?_
          refine .off (t := 53) rfl rfl rfl ?_
          refine .rd (.pickT rfl rfl) ?_
          refine .nil ?_
          refine .condT rfl ?_
          refine .seq ?_
          refine .region ?_   -- R2 law.go:26
          refine .rd (.assign rfl) ?_
          refine .nil ?_
          refine .retP Try.func26 (.cons (.tmp rfl) .nil) (.cons (.tail (.tail .head)) .nil) ?_
          exact ⟨[], ⟨false, rfl, ⟨fun h => absurd h Bool.false_ne_true, fun h => absurd h hno⟩, rfl⟩, rfl⟩
        · simp at gc
          refine .on (t := 32) rfl rfl ?_
          refine .rd (.fieldAddr fd39_4 rfl) ?_
          refine .on (t := 32) rfl rfl ?_
          refine .rd (.ld na3 rfl (.tail .head) rfl) ?_
          refine .on (t := 32) rfl rfl ?_
          refine .rd (.fieldAddr fd39_4 rfl) ?_
          refine .on (t := 32) rfl rfl ?_
          refine .rd (.ld na3 rfl .head rfl) ?_
          refine .on (t := 32) rfl rfl ?_
          refine .rd (.neI rfl rfl) ?_
          refine .rd (.pickF rfl rfl) ?_
          refine .rd (.move rfl) ?_
          refine .split (t := 39) rfl (fun gd => ?_) (fun gd => ?_)
          · simp at gd
            have hno : x ≠ y := fun e => gd (by rw [e])
            refine .off (t := 39) rfl rfl rfl ?_
            refine .off (t := 39) rfl rfl rfl ?_
            refine .off (t := 39) rfl rfl rfl ?_
            refine .off (t := 39) rfl rfl rfl ?_
            refine .off (t := 39) rfl rfl rfl ?_
            refine .rd (.pickT rfl rfl) ?_
            refine .rd (.move rfl) ?_
            refine .off (t := 46) rfl rfl rfl ?_
            refine .off (t := 46) rfl rfl rfl ?_
            refine .off (t := 46) rfl rfl rfl ?_
            refine .off (t := 46) rfl rfl rfl ?_
            refine .off (t := 46) rfl rfl rfl ?_
            refine .rd (.pickT rfl rfl) ?_
            refine .rd (.move rfl) ?_
            refine .off (t := 53) rfl rfl rfl ?_
            refine .off (t := 53) rfl rfl rfl ?_
            refine .off (t := 53) rfl rfl rfl ?_
            refine .off (t := 53) rfl rfl rfl ?_
            refine .off (t := 53) rfl rfl rfl ?_
            refine .off (t := 53) rfl rfl rfl ?_
            refine .off (t := 53) rfl rfl rfl ?_
            refine .rd (.pickT rfl rfl) ?_
            refine .nil ?_
            refine .condT rfl ?_
            refine .seq ?_
            refine .region ?_   -- R2 law.go:26
            refine .rd (.assign rfl) ?_
            refine .nil ?_
            refine .retP Try.func26 (.cons (.tmp rfl) .nil) (.cons (.tail (.tail .head)) .nil) ?_
            exact ⟨[], ⟨false, rfl, ⟨fun h => absurd h Bool.false_ne_true, fun h => absurd h hno⟩, rfl⟩, rfl⟩
          · simp at gd
            refine .on (t := 39) rfl rfl ?_
            refine .rd (.fieldAddr fd39_5 rfl) ?_
            refine .on (t := 39) rfl rfl ?_
            refine .rd (.ld na9 rfl (.tail .head) rfl) ?_
            refine .on (t := 39) rfl rfl ?_
            refine .rd (.fieldAddr fd39_5 rfl) ?_
            refine .on (t := 39) rfl rfl ?_
            refine .rd (.ld na9 rfl .head rfl) ?_
            refine .on (t := 39) rfl rfl ?_
            refine .rd (.neT rfl rfl) ?_
            refine .rd (.pickF rfl rfl) ?_
            refine .rd (.move rfl) ?_
            refine .split (t := 46) rfl (fun gname => ?_) (fun gname => ?_)
            · simp at gname
              have hno : x ≠ y := fun e => gname (by rw [e])
              refine .off (t := 46) rfl rfl rfl ?_
              refine .off (t := 46) rfl rfl rfl ?_
              refine .off (t := 46) rfl rfl rfl ?_
              refine .off (t := 46) rfl rfl rfl ?_
              refine .off (t := 46) rfl rfl rfl ?_
              refine .rd (.pickT rfl rfl) ?_
              refine .rd (.move rfl) ?_
              refine .off (t := 53) rfl rfl rfl ?_
              refine .off (t := 53) rfl rfl rfl ?_
              refine .off (t := 53) rfl rfl rfl ?_
              refine .off (t := 53) rfl rfl rfl ?_
              refine .off (t := 53) rfl rfl rfl ?_
              refine .off (t := 53) rfl rfl rfl ?_
              refine .off (t := 53) rfl rfl rfl ?_
              refine .rd (.pickT rfl rfl) ?_
              refine .nil ?_
              refine .condT rfl ?_
              refine .seq ?_
              refine .region ?_   -- R2 law.go:26
              refine .rd (.assign rfl) ?_
              refine .nil ?_
              refine .retP Try.func26 (.cons (.tmp rfl) .nil) (.cons (.tail (.tail .head)) .nil) ?_
              exact ⟨[], ⟨false, rfl, ⟨fun h => absurd h Bool.false_ne_true, fun h => absurd h hno⟩, rfl⟩, rfl⟩
            · simp at gname
              refine .on (t := 46) rfl rfl ?_
              refine .rd (.fieldAddr fd39_6 rfl) ?_
              refine .on (t := 46) rfl rfl ?_
              refine .rd (.ld na9 rfl (.tail .head) rfl) ?_
              refine .on (t := 46) rfl rfl ?_
              refine .rd (.fieldAddr fd39_6 rfl) ?_
              refine .on (t := 46) rfl rfl ?_
              refine .rd (.ld na9 rfl .head rfl) ?_
              refine .on (t := 46) rfl rfl ?_
              refine .rd (.neT rfl rfl) ?_
              refine .rd (.pickF rfl rfl) ?_
              refine .rd (.move rfl) ?_
              refine .split (t := 53) rfl (fun gtext => ?_) (fun gtext => ?_)
              · simp at gtext
                have hno : x ≠ y := fun e => gtext (by rw [e])
                refine .off (t := 53) rfl rfl rfl ?_
                refine .off (t := 53) rfl rfl rfl ?_
                refine .off (t := 53) rfl rfl rfl ?_
                refine .off (t := 53) rfl rfl rfl ?_
                refine .off (t := 53) rfl rfl rfl ?_
                refine .off (t := 53) rfl rfl rfl ?_
                refine .off (t := 53) rfl rfl rfl ?_
                refine .rd (.pickT rfl rfl) ?_
                refine .nil ?_
                refine .condT rfl ?_
                refine .seq ?_
                refine .region ?_   -- R2 law.go:26
                refine .rd (.assign rfl) ?_
                refine .nil ?_
                refine .retP Try.func26 (.cons (.tmp rfl) .nil) (.cons (.tail (.tail .head)) .nil) ?_
                exact ⟨[], ⟨false, rfl, ⟨fun h => absurd h Bool.false_ne_true, fun h => absurd h hno⟩, rfl⟩, rfl⟩
              · simp at gtext
                refine .on (t := 53) rfl rfl ?_
                refine .rd (.fieldAddr fd39_7 rfl) ?_
                refine .on (t := 53) rfl rfl ?_
                refine .rd (.ld na37 rfl (.tail .head) rfl) ?_
                refine .on (t := 53) rfl rfl ?_
                refine .rd (.lenL rfl rfl Try.underlying37 rfl) ?_
                refine .on (t := 53) rfl rfl ?_
                refine .rd (.fieldAddr fd39_7 rfl) ?_
                refine .on (t := 53) rfl rfl ?_
                refine .rd (.ld na37 rfl .head rfl) ?_
                refine .on (t := 53) rfl rfl ?_
                refine .rd (.lenL rfl rfl Try.underlying37 rfl) ?_
                refine .on (t := 53) rfl rfl ?_
                refine .rd (.neI rfl rfl) ?_
                refine .rd (.pickF rfl rfl) ?_
                refine .nil ?_
                refine .condN rfl (fun hln => ?_) (fun hln => ?_)
                · have hno : x ≠ y := fun e => hln (by rw [e])
                  refine .seq ?_
                  refine .region ?_   -- R2 law.go:26
                  refine .rd (.assign rfl) ?_
                  refine .nil ?_
                  refine .retP Try.func26 (.cons (.tmp rfl) .nil) (.cons (.tail (.tail .head)) .nil) ?_
                  exact ⟨[], ⟨false, rfl, ⟨fun h => absurd h Bool.false_ne_true, fun h => absurd h hno⟩, rfl⟩, rfl⟩
                · refine .skip ?_
                  refine .seq ?_
                  refine .seq ?_
                  refine .region ?_   -- R3 law.go:28
                  refine .rd (.assign rfl) ?_
                  refine .nil ?_
                  refine .block ?_
                  refine .loop (σ := Nat) (fun i => i ≤ x.list.length ∧ x.list.take i = y.list.take i) (fun i => x.list.length - i) (fun i => [(2, .pointer (some ⟨b2, 0, none⟩)), (3, .pointer (some ⟨b3, 0, none⟩)), (5, .int .i64 (i : Nat))]) (fun i => [blk b2 (x.cells a c) 39, blk b3 (y.cells a' c') 39, R]) 0 ⟨Nat.zero_le _, rfl⟩ (.cons rfl (.cons rfl (.cons rfl .nil))) (.cons (.tail .head) (.cons .head (.cons .head .nil))) (fun i hI ih => ?_)
                  have hil := hI.1
                  refine .seq ?_
                  refine .seq ?_
                  refine .region ?_   -- R4 law.go:28
                  refine .rd (.move rfl) ?_
                  refine .rd (.fieldAddr fd39_7 rfl) ?_
                  refine .rd (.ld na37 rfl .head rfl) ?_
                  refine .rd (.lenL rfl rfl Try.underlying37 rfl) ?_
                  refine .rd (.lt rfl rfl) ?_
                  refine .nil ?_
                  refine .condP rfl (fun h4 => ?_) (fun h4 => ?_)
                  · refine .skip ?_
                    refine .seq ?_
                    refine .block ?_
                    refine .seq ?_
                    have hl2 : x.list.length = y.list.length := by omega
                    obtain ⟨u, hu⟩ : ∃ u, x.list[i]? = some u := ⟨_, List.getElem?_eq_getElem (show i < x.list.length by omega)⟩
                    obtain ⟨w, hw⟩ : ∃ w, y.list[i]? = some w := ⟨_, List.getElem?_eq_getElem (show i < y.list.length by omega)⟩
                    refine .tell (φ := ∃ b o, a = some ⟨b, o, none⟩) (Knows.pick (.tail (.tail .head)) (k.mono fun _ h => h.1.addr (by rw [flat_length icell_len]; omega))) (fun h => ?_)
                    obtain ⟨bb, oo, rfl⟩ := h
                    refine .tell (φ := ∃ b o, a' = some ⟨b, o, none⟩) (Knows.pick (.tail (.tail .head)) (k.mono fun _ h => h.2.addr (by rw [flat_length icell_len]; omega))) (fun h => ?_)
                    obtain ⟨bc, oc, rfl⟩ := h
                    refine .draws [1, 4, 6, 9] [blk b2 (x.cells (some ⟨bb, oo, none⟩) c) 39, blk b3 (y.cells (some ⟨bc, oc, none⟩) c') 39, R] (by kernel_rfl) ?_   -- R6 law.go:29
                    refine .rp 0 rfl (by kernel_rfl) (by kernel_rfl) (by kernel_rfl) (Reads.pure (.fieldAddr fd39_7 rfl)) ?_
                    refine .rd 1 rfl rfl (by kernel_rfl) (by kernel_rfl) (by kernel_rfl) (.ld na37 rfl .head rfl) (.cons .head (.cons .head (.cons .head .nil))) ?_
                    refine .rp 2 rfl (by kernel_rfl) (by kernel_rfl) (by kernel_rfl) (Reads.pure (.move rfl)) ?_
                    refine .rp 3 rfl (by kernel_rfl) (by kernel_rfl) (by kernel_rfl) (Reads.pure (.indexAddr Try.underlying37 ts3 rfl rfl (by omega) (by omega))) ?_
                    refine .rd 4 rfl rfl (by kernel_rfl) (by kernel_rfl) (by kernel_rfl) (.load na3 rfl (Knows.elem (f := icell) icell_len (by decide) (Knows.pick (.tail (.tail .head)) (k.mono fun _ h => h.1)) hu)) (.cons .head (.cons .head (.cons .head .nil))) ?_
                    refine .rp 5 rfl (by kernel_rfl) (by kernel_rfl) (by kernel_rfl) (Reads.pure (.fieldAddr fd39_7 rfl)) ?_
                    refine .rd 6 rfl rfl (by kernel_rfl) (by kernel_rfl) (by kernel_rfl) (.ld na37 rfl (.tail .head) rfl) (.cons .head (.cons .head (.cons .head .nil))) ?_
                    refine .rp 7 rfl (by kernel_rfl) (by kernel_rfl) (by kernel_rfl) (Reads.pure (.move rfl)) ?_
                    refine .rp 8 rfl (by kernel_rfl) (by kernel_rfl) (by kernel_rfl) (Reads.pure (.indexAddr Try.underlying37 ts3 rfl rfl (by omega) (by omega))) ?_
                    refine .rd 9 rfl rfl (by kernel_rfl) (by kernel_rfl) (by kernel_rfl) (.load na3 rfl (Knows.elem (f := icell) icell_len (by decide) (Knows.pick (.tail (.tail .head)) (k.mono fun _ h => h.2)) hw)) (.cons .head (.cons .head (.cons .head .nil))) ?_
                    refine .rp 10 rfl (by kernel_rfl) (by kernel_rfl) (by kernel_rfl) (Reads.pure (.neI rfl rfl)) ?_
                    refine .done (by kernel_rfl) ?_
                    refine .condN rfl (fun h6 => ?_) (fun h6 => ?_)
                    · have hno : x ≠ y := fun e => list_ne hu hw h6 (by rw [e])
                      refine .seq ?_
                      refine .region ?_   -- R7 law.go:30
                      refine .rd (.assign rfl) ?_
                      refine .nil ?_
                      refine .retP Try.func26 (.cons (.tmp rfl) .nil) (.cons (.tail (.tail .head)) .nil) ?_
                      exact ⟨[], ⟨false, rfl, ⟨fun h => absurd h Bool.false_ne_true, fun h => absurd h hno⟩, rfl⟩, rfl⟩
                    · refine .skip ?_
                      refine .inBlock ?_
                      refine .region ?_   -- R5 law.go:28
                      refine .rd (.move rfl) ?_
                      refine .rd (.add rfl rfl (by omega) (by omega)) ?_
                      refine .rd (.assign rfl) ?_
                      refine .nil ?_
                      exact (ih (i + 1) ⟨by omega, take_same hI.2 hu hw h6⟩ (by omega)).to (.cons rfl (.cons rfl (.cons rfl .nil))) (.cons .head (.cons .head (.cons .head .nil)))
                  · have hii : i = x.list.length := by omega
                    have hseq : x.list = y.list := by
                      have := hI.2
                      rwa [hii, List.take_length, show x.list.length = y.list.length by omega, List.take_length] at this
                    have hyes : x = y := met_ext gkind ga gb gc gd gname gtext hseq
                    refine .exit rfl ?_
                    refine .seq ?_
                    refine .region ?_   -- R8 law.go:33
                    refine .rd (.assign rfl) ?_
                    refine .nil ?_
                    refine .retP Try.func26 (.cons (.tmp rfl) .nil) (.cons (.tail (.tail .head)) .nil) ?_
                    exact ⟨[], ⟨true, rfl, ⟨fun _ => hyes, fun _ => rfl⟩, rfl⟩, rfl⟩

end Go.Proofs.Ytllpkagplfmlbaa

