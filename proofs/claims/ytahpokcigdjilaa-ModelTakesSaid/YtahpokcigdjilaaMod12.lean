/- Steps through functions of the program, under conditions that each theorem states (part mod12 of a claim). -/
import Derived.Test.YtahpokcigdjilaaProg
import Derived.Test.YtahpokcigdjilaaMod11
namespace Go.Proofs.Ytahpokcigdjilaa
open Go Go.Sp

set_option linter.unusedVariables false

namespace mod12
theorem ts64 : TS Try.prog 64 9 := .of (by kernel_rfl)
theorem ia64 : IsAgg Try.prog 64 := ⟨_, Try.underlying64, trivial⟩
theorem ti64 : TI Try.prog 64 9 136 (.agg #[.int .i64 0, .int .i64 0, .int .i64 0, .int .i64 0, .slice none 0 0, .slice none 0 0, .slice none 0 0, .slice none 0 0, .int .i64 0]) := .of (by kernel_rfl)
theorem fd64_4 : FD Try.prog 64 4 4 := .of Try.underlying64 (by kernel_rfl)
theorem na40 : NotAgg Try.prog 40 := ⟨_, Try.underlying40, trivial⟩
theorem fd64_2 : FD Try.prog 64 2 2 := .of Try.underlying64 (by kernel_rfl)
theorem na3 : NotAgg Try.prog 3 := ⟨_, Try.underlying3, trivial⟩
theorem fd64_3 : FD Try.prog 64 3 3 := .of Try.underlying64 (by kernel_rfl)
theorem fd64_1 : FD Try.prog 64 1 1 := .of Try.underlying64 (by kernel_rfl)
end mod12
open mod12



set_option maxHeartbeats 1000000 in
set_option maxRecDepth 20000 in
theorem Metadata_ok (l : List Pt) (a : Option Addr) (c : Nat) (hok : ∀ q ∈ l, q.ok) (hl : l.length ≤ 1000000) : Cn Try.prog 12 [.slice a l.length c] (fun w => RowAt a (l.flatMap Pt.cells) w ∧ ∀ q ∈ l, q.at_ w) [] fun v G => v = .int .i64 (metaP l) ∧ G = [] := by
  refine .enter Try.func12 rfl (by kernel_rfl) rfl fun R k => ?_
  refine .seq ?_
  refine .region ?_   -- R0 model.go:231
  refine .rd (.assign rfl) ?_
  refine .nil ?_
  refine .seq ?_
  refine .seq ?_
  refine .region ?_   -- R1 model.go:232
  refine .rd (.move rfl) ?_
  refine .rd (.lenL rfl rfl Try.underlying42 rfl) ?_
  refine .rd (.move rfl) ?_
  refine .nil ?_
  refine .block ?_
  refine .loop (σ := Nat) (fun i => i ≤ l.length ∧ ∀ j < i, badAt l j = false) (fun i => l.length - i) (fun i => [(0, .slice a l.length c), (5, .slice a l.length c), (6, .int .i64 l.length), (7, .int .i64 (i : Nat))]) (fun i => [R]) 0 ⟨Nat.zero_le _, fun j hj => by omega⟩ (.cons rfl (.cons rfl (.cons rfl (.cons rfl .nil)))) (.cons .head .nil) (fun i hI ih => ?_)
  have hil := hI.1
  refine .seq ?_
  refine .region ?_   -- R2 model.go:232
  refine .rd (.lt rfl rfl) ?_
  refine .nil ?_
  refine .seq ?_
  refine .condP rfl (fun h2 => ?_) (fun h2 => ?_)
  · refine .skip ?_
    refine .seq ?_
    refine .block ?_
    refine .seq ?_
    obtain ⟨q, hq⟩ : ∃ q, l[i]? = some q := ⟨_, List.getElem?_eq_getElem (by omega)⟩
    have hqm := List.mem_of_getElem? hq
    have hqo := hok q hqm
    refine .tell (φ := ∃ b o, a = some ⟨b, o, none⟩) (Knows.pick .head (k.mono fun _ h => RowAt.addr h.1 (by rw [flat_length Pt.cells_len]; omega))) (fun hh => ?_)
    obtain ⟨bb, oo, rfl⟩ := hh
    refine .region ?_   -- R3 model.go:232
    refine .rd (.move rfl) ?_
    refine .rd (.indexAddr Try.underlying42 ts64 rfl rfl (by omega) (by omega)) ?_
    refine .rd (.loadN ia64 ts64 rfl rfl (Knows.elem (f := Pt.cells) Pt.cells_len (by decide) (Knows.pick .head (k.mono fun _ h => h.1)) hq)) ?_
    refine .ef (.alloc ti64 rfl (ones.of rfl)) ?_
    rintro _ _ ⟨b4, rfl, rfl⟩
    refine .rd (.assign rfl) ?_
    refine .ef0 (.storeAll (vs := q.cells) ts64 rfl rfl rfl .head rfl (ones.of rfl)) ?_
    rintro _ _ rfl
    refine .nil ?_
    refine .seq ?_
    refine .drawsJoin [1, 6, 11, 16, 20, 22, 35, 36] [blk b4 q.cells 64, R] 52 (badAt l i) (by kernel_rfl) ?_ ?_   -- R4 model.go:233
    · refine .rp 0 rfl (by kernel_rfl) (by kernel_rfl) (by kernel_rfl) (Reads.pure (.fieldAddr fd64_4 rfl)) ?_
      refine .rd 1 rfl rfl (by kernel_rfl) (by kernel_rfl) (by kernel_rfl) (.ld na40 rfl .head rfl) (.cons .head (.cons .head .nil)) ?_
      refine .rp 2 rfl (by kernel_rfl) (by kernel_rfl) (by kernel_rfl) (Reads.pure (.lenL rfl rfl Try.underlying40 rfl)) ?_
      refine .rp 3 rfl (by kernel_rfl) (by kernel_rfl) (by kernel_rfl) (Reads.pure (.eqI rfl rfl)) ?_
      refine .rp 4 rfl (by kernel_rfl) (by kernel_rfl) (by kernel_rfl) (Reads.pure (.move rfl)) ?_
      refine .split (t := 16) rfl (fun g4_4 => ?_) (fun g4_4 => ?_)
      · replace g4_4 := of_decide_eq_true g4_4
        refine .off 5 (t := 16) rfl rfl rfl rfl (by kernel_rfl) (by kernel_rfl) (by kernel_rfl) ?_
        refine .off 6 (t := 16) rfl rfl rfl rfl (by kernel_rfl) (by kernel_rfl) (by kernel_rfl) ?_
        refine .off 7 (t := 16) rfl rfl rfl rfl (by kernel_rfl) (by kernel_rfl) (by kernel_rfl) ?_
        refine .rp 8 rfl (by kernel_rfl) (by kernel_rfl) (by kernel_rfl) (Reads.pure (.pickT rfl rfl)) ?_
        refine .rp 9 rfl (by kernel_rfl) (by kernel_rfl) (by kernel_rfl) (Reads.pure (.move rfl)) ?_
        refine .off 10 (t := 21) rfl rfl rfl rfl (by kernel_rfl) (by kernel_rfl) (by kernel_rfl) ?_
        refine .off 11 (t := 21) rfl rfl rfl rfl (by kernel_rfl) (by kernel_rfl) (by kernel_rfl) ?_
        refine .off 12 (t := 21) rfl rfl rfl rfl (by kernel_rfl) (by kernel_rfl) (by kernel_rfl) ?_
        refine .rp 13 rfl (by kernel_rfl) (by kernel_rfl) (by kernel_rfl) (Reads.pure (.pickT rfl rfl)) ?_
        refine .rp 14 rfl (by kernel_rfl) (by kernel_rfl) (by kernel_rfl) (Reads.pure (.move rfl)) ?_
        refine .off 15 (t := 26) rfl rfl rfl rfl (by kernel_rfl) (by kernel_rfl) (by kernel_rfl) ?_
        refine .off 16 (t := 26) rfl rfl rfl rfl (by kernel_rfl) (by kernel_rfl) (by kernel_rfl) ?_
        refine .off 17 (t := 26) rfl rfl rfl rfl (by kernel_rfl) (by kernel_rfl) (by kernel_rfl) ?_
        refine .offU 18 (t := 26) rfl rfl rfl rfl (by kernel_rfl) (by kernel_rfl) (by kernel_rfl) ?_
        refine .offX 19 (t := 30) rfl rfl rfl (by kernel_rfl) (by kernel_rfl) (by kernel_rfl) ?_
        refine .offX 20 (t := 30) rfl rfl rfl (by kernel_rfl) (by kernel_rfl) (by kernel_rfl) ?_
        refine .offX 21 (t := 30) rfl rfl rfl (by kernel_rfl) (by kernel_rfl) (by kernel_rfl) ?_
        refine .offX 22 (t := 30) rfl rfl rfl (by kernel_rfl) (by kernel_rfl) (by kernel_rfl) ?_
        refine .offX 23 (t := 30) rfl rfl rfl (by kernel_rfl) (by kernel_rfl) (by kernel_rfl) ?_
        refine .offX 24 (t := 30) rfl rfl rfl (by kernel_rfl) (by kernel_rfl) (by kernel_rfl) ?_
        refine .off 25 (t := 26) rfl rfl rfl rfl (by kernel_rfl) (by kernel_rfl) (by kernel_rfl) ?_
        refine .rp 26 rfl (by kernel_rfl) (by kernel_rfl) (by kernel_rfl) (Reads.pure (.pickT rfl rfl)) ?_
        refine .rp 27 rfl (by kernel_rfl) (by kernel_rfl) (by kernel_rfl) (Reads.pure (.move rfl)) ?_
        refine .off 28 (t := 39) rfl rfl rfl rfl (by kernel_rfl) (by kernel_rfl) (by kernel_rfl) ?_
        refine .off 29 (t := 39) rfl rfl rfl rfl (by kernel_rfl) (by kernel_rfl) (by kernel_rfl) ?_
        refine .offU 30 (t := 39) rfl rfl rfl rfl (by kernel_rfl) (by kernel_rfl) (by kernel_rfl) ?_
        refine .offX 31 (t := 42) rfl rfl rfl (by kernel_rfl) (by kernel_rfl) (by kernel_rfl) ?_
        refine .offX 32 (t := 42) rfl rfl rfl (by kernel_rfl) (by kernel_rfl) (by kernel_rfl) ?_
        refine .offX 33 (t := 42) rfl rfl rfl (by kernel_rfl) (by kernel_rfl) (by kernel_rfl) ?_
        refine .offX 34 (t := 42) rfl rfl rfl (by kernel_rfl) (by kernel_rfl) (by kernel_rfl) ?_
        refine .offX 35 (t := 42) rfl rfl rfl (by kernel_rfl) (by kernel_rfl) (by kernel_rfl) ?_
        refine .offX 36 (t := 42) rfl rfl rfl (by kernel_rfl) (by kernel_rfl) (by kernel_rfl) ?_
        refine .offX 37 (t := 42) rfl rfl rfl (by kernel_rfl) (by kernel_rfl) (by kernel_rfl) ?_
        refine .offX 38 (t := 42) rfl rfl rfl (by kernel_rfl) (by kernel_rfl) (by kernel_rfl) ?_
        refine .off 39 (t := 39) rfl rfl rfl rfl (by kernel_rfl) (by kernel_rfl) (by kernel_rfl) ?_
        refine .rp 40 rfl (by kernel_rfl) (by kernel_rfl) (by kernel_rfl) (Reads.pure (.pickT rfl rfl)) ?_
        refine .done (by kernel_rfl) ⟨rfl, ?_, by repeat (first | exact Le.refl _ | refine Le.skip rfl ?_)⟩
        exact congrArg (fun x => some (Value.bool x)) (Eq.symm (show badAt l i = _ by unfold badAt; rw [hq, Option.getD_some]; unfold badQ; rw [decide_eq_true g4_4]; rfl))
      · replace g4_4 := of_decide_eq_false g4_4
        refine .rpG 5 (t := 16) rfl rfl rfl (by kernel_rfl) (by kernel_rfl) (by kernel_rfl) (Reads.pure (.fieldAddr fd64_2 rfl)) ?_
        refine .rdG 6 (t := 16) rfl rfl rfl rfl (by kernel_rfl) (by kernel_rfl) (by kernel_rfl) (.ld na3 rfl .head rfl) (.cons .head (.cons .head .nil)) ?_
        refine .rpG 7 (t := 16) rfl rfl rfl (by kernel_rfl) (by kernel_rfl) (by kernel_rfl) (Reads.pure (.lt rfl rfl)) ?_
        refine .rp 8 rfl (by kernel_rfl) (by kernel_rfl) (by kernel_rfl) (Reads.pure (.pickF rfl rfl)) ?_
        refine .rp 9 rfl (by kernel_rfl) (by kernel_rfl) (by kernel_rfl) (Reads.pure (.move rfl)) ?_
        refine .split (t := 21) rfl (fun g4_9 => ?_) (fun g4_9 => ?_)
        · replace g4_9 := of_decide_eq_true g4_9
          refine .off 10 (t := 21) rfl rfl rfl rfl (by kernel_rfl) (by kernel_rfl) (by kernel_rfl) ?_
          refine .off 11 (t := 21) rfl rfl rfl rfl (by kernel_rfl) (by kernel_rfl) (by kernel_rfl) ?_
          refine .off 12 (t := 21) rfl rfl rfl rfl (by kernel_rfl) (by kernel_rfl) (by kernel_rfl) ?_
          refine .rp 13 rfl (by kernel_rfl) (by kernel_rfl) (by kernel_rfl) (Reads.pure (.pickT rfl rfl)) ?_
          refine .rp 14 rfl (by kernel_rfl) (by kernel_rfl) (by kernel_rfl) (Reads.pure (.move rfl)) ?_
          refine .off 15 (t := 26) rfl rfl rfl rfl (by kernel_rfl) (by kernel_rfl) (by kernel_rfl) ?_
          refine .off 16 (t := 26) rfl rfl rfl rfl (by kernel_rfl) (by kernel_rfl) (by kernel_rfl) ?_
          refine .off 17 (t := 26) rfl rfl rfl rfl (by kernel_rfl) (by kernel_rfl) (by kernel_rfl) ?_
          refine .offU 18 (t := 26) rfl rfl rfl rfl (by kernel_rfl) (by kernel_rfl) (by kernel_rfl) ?_
          refine .offX 19 (t := 30) rfl rfl rfl (by kernel_rfl) (by kernel_rfl) (by kernel_rfl) ?_
          refine .offX 20 (t := 30) rfl rfl rfl (by kernel_rfl) (by kernel_rfl) (by kernel_rfl) ?_
          refine .offX 21 (t := 30) rfl rfl rfl (by kernel_rfl) (by kernel_rfl) (by kernel_rfl) ?_
          refine .offX 22 (t := 30) rfl rfl rfl (by kernel_rfl) (by kernel_rfl) (by kernel_rfl) ?_
          refine .offX 23 (t := 30) rfl rfl rfl (by kernel_rfl) (by kernel_rfl) (by kernel_rfl) ?_
          refine .offX 24 (t := 30) rfl rfl rfl (by kernel_rfl) (by kernel_rfl) (by kernel_rfl) ?_
          refine .off 25 (t := 26) rfl rfl rfl rfl (by kernel_rfl) (by kernel_rfl) (by kernel_rfl) ?_
          refine .rp 26 rfl (by kernel_rfl) (by kernel_rfl) (by kernel_rfl) (Reads.pure (.pickT rfl rfl)) ?_
          refine .rp 27 rfl (by kernel_rfl) (by kernel_rfl) (by kernel_rfl) (Reads.pure (.move rfl)) ?_
          refine .off 28 (t := 39) rfl rfl rfl rfl (by kernel_rfl) (by kernel_rfl) (by kernel_rfl) ?_
          refine .off 29 (t := 39) rfl rfl rfl rfl (by kernel_rfl) (by kernel_rfl) (by kernel_rfl) ?_
          refine .offU 30 (t := 39) rfl rfl rfl rfl (by kernel_rfl) (by kernel_rfl) (by kernel_rfl) ?_
          refine .offX 31 (t := 42) rfl rfl rfl (by kernel_rfl) (by kernel_rfl) (by kernel_rfl) ?_
          refine .offX 32 (t := 42) rfl rfl rfl (by kernel_rfl) (by kernel_rfl) (by kernel_rfl) ?_
          refine .offX 33 (t := 42) rfl rfl rfl (by kernel_rfl) (by kernel_rfl) (by kernel_rfl) ?_
          refine .offX 34 (t := 42) rfl rfl rfl (by kernel_rfl) (by kernel_rfl) (by kernel_rfl) ?_
          refine .offX 35 (t := 42) rfl rfl rfl (by kernel_rfl) (by kernel_rfl) (by kernel_rfl) ?_
          refine .offX 36 (t := 42) rfl rfl rfl (by kernel_rfl) (by kernel_rfl) (by kernel_rfl) ?_
          refine .offX 37 (t := 42) rfl rfl rfl (by kernel_rfl) (by kernel_rfl) (by kernel_rfl) ?_
          refine .offX 38 (t := 42) rfl rfl rfl (by kernel_rfl) (by kernel_rfl) (by kernel_rfl) ?_
          refine .off 39 (t := 39) rfl rfl rfl rfl (by kernel_rfl) (by kernel_rfl) (by kernel_rfl) ?_
          refine .rp 40 rfl (by kernel_rfl) (by kernel_rfl) (by kernel_rfl) (Reads.pure (.pickT rfl rfl)) ?_
          refine .done (by kernel_rfl) ⟨rfl, ?_, by repeat (first | exact Le.refl _ | refine Le.skip rfl ?_)⟩
          exact congrArg (fun x => some (Value.bool x)) (Eq.symm (show badAt l i = _ by unfold badAt; rw [hq, Option.getD_some]; unfold badQ; rw [decide_eq_false g4_4, decide_eq_true g4_9]; rfl))
        · replace g4_9 := of_decide_eq_false g4_9
          refine .rpG 10 (t := 21) rfl rfl rfl (by kernel_rfl) (by kernel_rfl) (by kernel_rfl) (Reads.pure (.fieldAddr fd64_3 rfl)) ?_
          refine .rdG 11 (t := 21) rfl rfl rfl rfl (by kernel_rfl) (by kernel_rfl) (by kernel_rfl) (.ld na3 rfl .head rfl) (.cons .head (.cons .head .nil)) ?_
          refine .rpG 12 (t := 21) rfl rfl rfl (by kernel_rfl) (by kernel_rfl) (by kernel_rfl) (Reads.pure (.lt rfl rfl)) ?_
          refine .rp 13 rfl (by kernel_rfl) (by kernel_rfl) (by kernel_rfl) (Reads.pure (.pickF rfl rfl)) ?_
          refine .rp 14 rfl (by kernel_rfl) (by kernel_rfl) (by kernel_rfl) (Reads.pure (.move rfl)) ?_
          refine .split (t := 26) rfl (fun g4_14 => ?_) (fun g4_14 => ?_)
          · replace g4_14 := of_decide_eq_true g4_14
            refine .off 15 (t := 26) rfl rfl rfl rfl (by kernel_rfl) (by kernel_rfl) (by kernel_rfl) ?_
            refine .off 16 (t := 26) rfl rfl rfl rfl (by kernel_rfl) (by kernel_rfl) (by kernel_rfl) ?_
            refine .off 17 (t := 26) rfl rfl rfl rfl (by kernel_rfl) (by kernel_rfl) (by kernel_rfl) ?_
            refine .offU 18 (t := 26) rfl rfl rfl rfl (by kernel_rfl) (by kernel_rfl) (by kernel_rfl) ?_
            refine .offX 19 (t := 30) rfl rfl rfl (by kernel_rfl) (by kernel_rfl) (by kernel_rfl) ?_
            refine .offX 20 (t := 30) rfl rfl rfl (by kernel_rfl) (by kernel_rfl) (by kernel_rfl) ?_
            refine .offX 21 (t := 30) rfl rfl rfl (by kernel_rfl) (by kernel_rfl) (by kernel_rfl) ?_
            refine .offX 22 (t := 30) rfl rfl rfl (by kernel_rfl) (by kernel_rfl) (by kernel_rfl) ?_
            refine .offX 23 (t := 30) rfl rfl rfl (by kernel_rfl) (by kernel_rfl) (by kernel_rfl) ?_
            refine .offX 24 (t := 30) rfl rfl rfl (by kernel_rfl) (by kernel_rfl) (by kernel_rfl) ?_
            refine .off 25 (t := 26) rfl rfl rfl rfl (by kernel_rfl) (by kernel_rfl) (by kernel_rfl) ?_
            refine .rp 26 rfl (by kernel_rfl) (by kernel_rfl) (by kernel_rfl) (Reads.pure (.pickT rfl rfl)) ?_
            refine .rp 27 rfl (by kernel_rfl) (by kernel_rfl) (by kernel_rfl) (Reads.pure (.move rfl)) ?_
            refine .off 28 (t := 39) rfl rfl rfl rfl (by kernel_rfl) (by kernel_rfl) (by kernel_rfl) ?_
            refine .off 29 (t := 39) rfl rfl rfl rfl (by kernel_rfl) (by kernel_rfl) (by kernel_rfl) ?_
            refine .offU 30 (t := 39) rfl rfl rfl rfl (by kernel_rfl) (by kernel_rfl) (by kernel_rfl) ?_
            refine .offX 31 (t := 42) rfl rfl rfl (by kernel_rfl) (by kernel_rfl) (by kernel_rfl) ?_
            refine .offX 32 (t := 42) rfl rfl rfl (by kernel_rfl) (by kernel_rfl) (by kernel_rfl) ?_
            refine .offX 33 (t := 42) rfl rfl rfl (by kernel_rfl) (by kernel_rfl) (by kernel_rfl) ?_
            refine .offX 34 (t := 42) rfl rfl rfl (by kernel_rfl) (by kernel_rfl) (by kernel_rfl) ?_
            refine .offX 35 (t := 42) rfl rfl rfl (by kernel_rfl) (by kernel_rfl) (by kernel_rfl) ?_
            refine .offX 36 (t := 42) rfl rfl rfl (by kernel_rfl) (by kernel_rfl) (by kernel_rfl) ?_
            refine .offX 37 (t := 42) rfl rfl rfl (by kernel_rfl) (by kernel_rfl) (by kernel_rfl) ?_
            refine .offX 38 (t := 42) rfl rfl rfl (by kernel_rfl) (by kernel_rfl) (by kernel_rfl) ?_
            refine .off 39 (t := 39) rfl rfl rfl rfl (by kernel_rfl) (by kernel_rfl) (by kernel_rfl) ?_
            refine .rp 40 rfl (by kernel_rfl) (by kernel_rfl) (by kernel_rfl) (Reads.pure (.pickT rfl rfl)) ?_
            refine .done (by kernel_rfl) ⟨rfl, ?_, by repeat (first | exact Le.refl _ | refine Le.skip rfl ?_)⟩
            exact congrArg (fun x => some (Value.bool x)) (Eq.symm (show badAt l i = _ by unfold badAt; rw [hq, Option.getD_some]; unfold badQ; rw [decide_eq_false g4_4, decide_eq_false g4_9, decide_eq_true g4_14]; rfl))
          · replace g4_14 := of_decide_eq_false g4_14
            refine .rpG 15 (t := 26) rfl rfl rfl (by kernel_rfl) (by kernel_rfl) (by kernel_rfl) (Reads.pure (.fieldAddr fd64_1 rfl)) ?_
            refine .rdG 16 (t := 26) rfl rfl rfl rfl (by kernel_rfl) (by kernel_rfl) (by kernel_rfl) (.ld na3 rfl .head rfl) (.cons .head (.cons .head .nil)) ?_
            refine .rpG 17 (t := 26) rfl rfl rfl (by kernel_rfl) (by kernel_rfl) (by kernel_rfl) (Reads.pure (.neI rfl rfl)) ?_
            refine .rpG 18 (t := 26) rfl rfl rfl (by kernel_rfl) (by kernel_rfl) (by kernel_rfl) (Reads.pure (.move rfl)) ?_
            refine .split (t := 30) rfl (fun g4_18 => ?_) (fun g4_18 => ?_)
            · simp at g4_18
              refine .rpG 19 (t := 30) rfl rfl rfl (by kernel_rfl) (by kernel_rfl) (by kernel_rfl) (Reads.pure (.fieldAddr fd64_4 rfl)) ?_
              refine .rdG 20 (t := 30) rfl rfl rfl rfl (by kernel_rfl) (by kernel_rfl) (by kernel_rfl) (.ld na40 rfl .head rfl) (.cons .head (.cons .head .nil)) ?_
              refine .rpG 21 (t := 30) rfl rfl rfl (by kernel_rfl) (by kernel_rfl) (by kernel_rfl) (Reads.pure (.fieldAddr fd64_1 rfl)) ?_
              refine .rdG 22 (t := 30) rfl rfl rfl rfl (by kernel_rfl) (by kernel_rfl) (by kernel_rfl) (.ld na3 rfl .head rfl) (.cons .head (.cons .head .nil)) ?_
              refine .efG 23 (t := 30) (by kernel_rfl) rfl rfl rfl (.fn rfl rfl .nil (Knows.pick (.tail .head) (k.mono fun _ h => (h.2 q hqm).1)) (Contains_ok q.isr.1 q.isr.2.1 q.isr.2.2 q.leader hqo.isr)) ?_
              rintro v _ ⟨G1, hq, rfl⟩
              obtain ⟨rfl, rfl⟩ := hq
              simp only [List.nil_append]
              refine ⟨.inr ⟨_, (.cons .head (.cons .head .nil))⟩, ?_⟩
              refine .rpG 24 (t := 30) rfl rfl rfl (by kernel_rfl) (by kernel_rfl) (by kernel_rfl) (Reads.pure (.not rfl)) ?_
              refine .rpG 25 (t := 26) rfl rfl rfl (by kernel_rfl) (by kernel_rfl) (by kernel_rfl) (Reads.pure (.pickT rfl rfl)) ?_
              refine .rp 26 rfl (by kernel_rfl) (by kernel_rfl) (by kernel_rfl) (Reads.pure (.pickF rfl rfl)) ?_
              refine .rp 27 rfl (by kernel_rfl) (by kernel_rfl) (by kernel_rfl) (Reads.pure (.move rfl)) ?_
              refine .split (t := 39) rfl (fun g4_27 => ?_) (fun g4_27 => ?_)
              · refine .off 28 (t := 39) rfl rfl rfl rfl (by kernel_rfl) (by kernel_rfl) (by kernel_rfl) ?_
                refine .off 29 (t := 39) rfl rfl rfl rfl (by kernel_rfl) (by kernel_rfl) (by kernel_rfl) ?_
                refine .offU 30 (t := 39) rfl rfl rfl rfl (by kernel_rfl) (by kernel_rfl) (by kernel_rfl) ?_
                refine .offX 31 (t := 42) rfl rfl rfl (by kernel_rfl) (by kernel_rfl) (by kernel_rfl) ?_
                refine .offX 32 (t := 42) rfl rfl rfl (by kernel_rfl) (by kernel_rfl) (by kernel_rfl) ?_
                refine .offX 33 (t := 42) rfl rfl rfl (by kernel_rfl) (by kernel_rfl) (by kernel_rfl) ?_
                refine .offX 34 (t := 42) rfl rfl rfl (by kernel_rfl) (by kernel_rfl) (by kernel_rfl) ?_
                refine .offX 35 (t := 42) rfl rfl rfl (by kernel_rfl) (by kernel_rfl) (by kernel_rfl) ?_
                refine .offX 36 (t := 42) rfl rfl rfl (by kernel_rfl) (by kernel_rfl) (by kernel_rfl) ?_
                refine .offX 37 (t := 42) rfl rfl rfl (by kernel_rfl) (by kernel_rfl) (by kernel_rfl) ?_
                refine .offX 38 (t := 42) rfl rfl rfl (by kernel_rfl) (by kernel_rfl) (by kernel_rfl) ?_
                refine .off 39 (t := 39) rfl rfl rfl rfl (by kernel_rfl) (by kernel_rfl) (by kernel_rfl) ?_
                refine .rp 40 rfl (by kernel_rfl) (by kernel_rfl) (by kernel_rfl) (Reads.pure (.pickT rfl rfl)) ?_
                refine .done (by kernel_rfl) ⟨rfl, ?_, by repeat (first | exact Le.refl _ | refine Le.skip rfl ?_)⟩
                exact congrArg (fun x => some (Value.bool x)) (Eq.symm (show badAt l i = _ by unfold badAt; rw [hq, Option.getD_some]; unfold badQ; rw [decide_eq_false g4_4, decide_eq_false g4_9, decide_eq_false g4_14, decide_eq_false g4_18, g4_27]; rfl))
              · refine .rpG 28 (t := 39) rfl rfl rfl (by kernel_rfl) (by kernel_rfl) (by kernel_rfl) (Reads.pure (.move rfl)) ?_
                refine .rpG 29 (t := 39) rfl rfl rfl (by kernel_rfl) (by kernel_rfl) (by kernel_rfl) (Reads.pure (.gt rfl rfl)) ?_
                refine .rpG 30 (t := 39) rfl rfl rfl (by kernel_rfl) (by kernel_rfl) (by kernel_rfl) (Reads.pure (.move rfl)) ?_
                refine .split (t := 42) rfl (fun g4_30 => ?_) (fun g4_30 => ?_)
                · replace g4_30 := of_decide_eq_true g4_30
                  obtain ⟨p, hp⟩ : ∃ p, l[i - 1]? = some p := ⟨_, List.getElem?_eq_getElem (by omega)⟩
                  have hpm := List.mem_of_getElem? hp
                  have hpo := hok p hpm
                  refine .rpG 31 (t := 42) rfl rfl rfl (by kernel_rfl) (by kernel_rfl) (by kernel_rfl) (Reads.pure (.move rfl)) ?_
                  refine .rpG 32 (t := 42) rfl rfl rfl (by kernel_rfl) (by kernel_rfl) (by kernel_rfl) (Reads.pure (.move rfl)) ?_
                  refine .rpG 33 (t := 42) rfl rfl rfl (by kernel_rfl) (by kernel_rfl) (by kernel_rfl) (Reads.pure (.predN rfl rfl (by omega) (by omega))) ?_
                  refine .rpG 34 (t := 42) rfl rfl rfl (by kernel_rfl) (by kernel_rfl) (by kernel_rfl) (Reads.pure (.indexAddr Try.underlying42 ts64 rfl rfl (by omega) (by omega))) ?_
                  refine .rdG 35 (t := 42) rfl rfl rfl rfl (by kernel_rfl) (by kernel_rfl) (by kernel_rfl) (.loadN ia64 ts64 rfl rfl (Knows.elem (f := Pt.cells) Pt.cells_len (by decide) (Knows.pick (.tail .head) (k.mono fun _ h => h.1)) hp)) (.cons .head (.cons .head .nil)) ?_
                  refine .rdG 36 (t := 42) rfl rfl rfl rfl (by kernel_rfl) (by kernel_rfl) (by kernel_rfl) (.ldN ia64 ts64 rfl .head rfl) (.cons .head (.cons .head .nil)) ?_
                  refine .efG 37 (t := 42) (by kernel_rfl) rfl rfl rfl (.fn rfl rfl .nil (Knows.pick (.tail .head) (k.mono fun _ h => ⟨h.2 p hpm, h.2 q hqm⟩)) (follows_ok p q hpo hqo)) ?_
                  rintro v _ ⟨G1, hq, rfl⟩
                  obtain ⟨rfl, rfl⟩ := hq
                  simp only [List.nil_append]
                  refine ⟨.inl (by kernel_rfl), ?_⟩
                  refine .rpG 38 (t := 42) rfl rfl rfl (by kernel_rfl) (by kernel_rfl) (by kernel_rfl) (Reads.pure (.not rfl)) ?_
                  refine .rpG 39 (t := 39) rfl rfl rfl (by kernel_rfl) (by kernel_rfl) (by kernel_rfl) (Reads.pure (.pickT rfl rfl)) ?_
                  refine .rp 40 rfl (by kernel_rfl) (by kernel_rfl) (by kernel_rfl) (Reads.pure (.pickF rfl rfl)) ?_
                  refine .done (by kernel_rfl) ⟨rfl, ?_, by repeat (first | exact Le.refl _ | refine Le.skip rfl ?_)⟩
                  exact congrArg (fun x => some (Value.bool x)) (Eq.symm (show badAt l i = _ by unfold badAt; rw [hq, Option.getD_some]; unfold badQ; rw [decide_eq_false g4_4, decide_eq_false g4_9, decide_eq_false g4_14, decide_eq_false g4_18, g4_27, decide_eq_true g4_30, hp, Option.getD_some]; rfl))
                · replace g4_30 := of_decide_eq_false g4_30
                  refine .off 31 (t := 42) rfl rfl rfl rfl (by kernel_rfl) (by kernel_rfl) (by kernel_rfl) ?_
                  refine .off 32 (t := 42) rfl rfl rfl rfl (by kernel_rfl) (by kernel_rfl) (by kernel_rfl) ?_
                  refine .off 33 (t := 42) rfl rfl rfl rfl (by kernel_rfl) (by kernel_rfl) (by kernel_rfl) ?_
                  refine .off 34 (t := 42) rfl rfl rfl rfl (by kernel_rfl) (by kernel_rfl) (by kernel_rfl) ?_
                  refine .off 35 (t := 42) rfl rfl rfl rfl (by kernel_rfl) (by kernel_rfl) (by kernel_rfl) ?_
                  refine .off 36 (t := 42) rfl rfl rfl rfl (by kernel_rfl) (by kernel_rfl) (by kernel_rfl) ?_
                  refine .off 37 (t := 42) rfl rfl rfl rfl (by kernel_rfl) (by kernel_rfl) (by kernel_rfl) ?_
                  refine .off 38 (t := 42) rfl rfl rfl rfl (by kernel_rfl) (by kernel_rfl) (by kernel_rfl) ?_
                  refine .rpG 39 (t := 39) rfl rfl rfl (by kernel_rfl) (by kernel_rfl) (by kernel_rfl) (Reads.pure (.pickF rfl rfl)) ?_
                  refine .rp 40 rfl (by kernel_rfl) (by kernel_rfl) (by kernel_rfl) (Reads.pure (.pickF rfl rfl)) ?_
                  refine .done (by kernel_rfl) ⟨rfl, ?_, by repeat (first | exact Le.refl _ | refine Le.skip rfl ?_)⟩
                  exact congrArg (fun x => some (Value.bool x)) (Eq.symm (show badAt l i = _ by unfold badAt; rw [hq, Option.getD_some]; unfold badQ; rw [decide_eq_false g4_4, decide_eq_false g4_9, decide_eq_false g4_14, decide_eq_false g4_18, g4_27, decide_eq_false g4_30]; rfl))
            · simp at g4_18
              refine .off 19 (t := 30) rfl rfl rfl rfl (by kernel_rfl) (by kernel_rfl) (by kernel_rfl) ?_
              refine .off 20 (t := 30) rfl rfl rfl rfl (by kernel_rfl) (by kernel_rfl) (by kernel_rfl) ?_
              refine .off 21 (t := 30) rfl rfl rfl rfl (by kernel_rfl) (by kernel_rfl) (by kernel_rfl) ?_
              refine .off 22 (t := 30) rfl rfl rfl rfl (by kernel_rfl) (by kernel_rfl) (by kernel_rfl) ?_
              refine .off 23 (t := 30) rfl rfl rfl rfl (by kernel_rfl) (by kernel_rfl) (by kernel_rfl) ?_
              refine .off 24 (t := 30) rfl rfl rfl rfl (by kernel_rfl) (by kernel_rfl) (by kernel_rfl) ?_
              refine .rpG 25 (t := 26) rfl rfl rfl (by kernel_rfl) (by kernel_rfl) (by kernel_rfl) (Reads.pure (.pickF rfl rfl)) ?_
              refine .rp 26 rfl (by kernel_rfl) (by kernel_rfl) (by kernel_rfl) (Reads.pure (.pickF rfl rfl)) ?_
              refine .rp 27 rfl (by kernel_rfl) (by kernel_rfl) (by kernel_rfl) (Reads.pure (.move rfl)) ?_
              refine .rpG 28 (t := 39) rfl rfl rfl (by kernel_rfl) (by kernel_rfl) (by kernel_rfl) (Reads.pure (.move rfl)) ?_
              refine .rpG 29 (t := 39) rfl rfl rfl (by kernel_rfl) (by kernel_rfl) (by kernel_rfl) (Reads.pure (.gt rfl rfl)) ?_
              refine .rpG 30 (t := 39) rfl rfl rfl (by kernel_rfl) (by kernel_rfl) (by kernel_rfl) (Reads.pure (.move rfl)) ?_
              refine .split (t := 42) rfl (fun g4_30 => ?_) (fun g4_30 => ?_)
              · replace g4_30 := of_decide_eq_true g4_30
                obtain ⟨p, hp⟩ : ∃ p, l[i - 1]? = some p := ⟨_, List.getElem?_eq_getElem (by omega)⟩
                have hpm := List.mem_of_getElem? hp
                have hpo := hok p hpm
                refine .rpG 31 (t := 42) rfl rfl rfl (by kernel_rfl) (by kernel_rfl) (by kernel_rfl) (Reads.pure (.move rfl)) ?_
                refine .rpG 32 (t := 42) rfl rfl rfl (by kernel_rfl) (by kernel_rfl) (by kernel_rfl) (Reads.pure (.move rfl)) ?_
                refine .rpG 33 (t := 42) rfl rfl rfl (by kernel_rfl) (by kernel_rfl) (by kernel_rfl) (Reads.pure (.predN rfl rfl (by omega) (by omega))) ?_
                refine .rpG 34 (t := 42) rfl rfl rfl (by kernel_rfl) (by kernel_rfl) (by kernel_rfl) (Reads.pure (.indexAddr Try.underlying42 ts64 rfl rfl (by omega) (by omega))) ?_
                refine .rdG 35 (t := 42) rfl rfl rfl rfl (by kernel_rfl) (by kernel_rfl) (by kernel_rfl) (.loadN ia64 ts64 rfl rfl (Knows.elem (f := Pt.cells) Pt.cells_len (by decide) (Knows.pick (.tail .head) (k.mono fun _ h => h.1)) hp)) (.cons .head (.cons .head .nil)) ?_
                refine .rdG 36 (t := 42) rfl rfl rfl rfl (by kernel_rfl) (by kernel_rfl) (by kernel_rfl) (.ldN ia64 ts64 rfl .head rfl) (.cons .head (.cons .head .nil)) ?_
                refine .efG 37 (t := 42) (by kernel_rfl) rfl rfl rfl (.fn rfl rfl .nil (Knows.pick (.tail .head) (k.mono fun _ h => ⟨h.2 p hpm, h.2 q hqm⟩)) (follows_ok p q hpo hqo)) ?_
                rintro v _ ⟨G1, hq, rfl⟩
                obtain ⟨rfl, rfl⟩ := hq
                simp only [List.nil_append]
                refine ⟨.inl (by kernel_rfl), ?_⟩
                refine .rpG 38 (t := 42) rfl rfl rfl (by kernel_rfl) (by kernel_rfl) (by kernel_rfl) (Reads.pure (.not rfl)) ?_
                refine .rpG 39 (t := 39) rfl rfl rfl (by kernel_rfl) (by kernel_rfl) (by kernel_rfl) (Reads.pure (.pickT rfl rfl)) ?_
                refine .rp 40 rfl (by kernel_rfl) (by kernel_rfl) (by kernel_rfl) (Reads.pure (.pickF rfl rfl)) ?_
                refine .done (by kernel_rfl) ⟨rfl, ?_, by repeat (first | exact Le.refl _ | refine Le.skip rfl ?_)⟩
                exact congrArg (fun x => some (Value.bool x)) (Eq.symm (show badAt l i = _ by unfold badAt; rw [hq, Option.getD_some]; unfold badQ; rw [decide_eq_false g4_4, decide_eq_false g4_9, decide_eq_false g4_14, decide_eq_true g4_18, decide_eq_true g4_30, hp, Option.getD_some]; rfl))
              · replace g4_30 := of_decide_eq_false g4_30
                refine .off 31 (t := 42) rfl rfl rfl rfl (by kernel_rfl) (by kernel_rfl) (by kernel_rfl) ?_
                refine .off 32 (t := 42) rfl rfl rfl rfl (by kernel_rfl) (by kernel_rfl) (by kernel_rfl) ?_
                refine .off 33 (t := 42) rfl rfl rfl rfl (by kernel_rfl) (by kernel_rfl) (by kernel_rfl) ?_
                refine .off 34 (t := 42) rfl rfl rfl rfl (by kernel_rfl) (by kernel_rfl) (by kernel_rfl) ?_
                refine .off 35 (t := 42) rfl rfl rfl rfl (by kernel_rfl) (by kernel_rfl) (by kernel_rfl) ?_
                refine .off 36 (t := 42) rfl rfl rfl rfl (by kernel_rfl) (by kernel_rfl) (by kernel_rfl) ?_
                refine .off 37 (t := 42) rfl rfl rfl rfl (by kernel_rfl) (by kernel_rfl) (by kernel_rfl) ?_
                refine .off 38 (t := 42) rfl rfl rfl rfl (by kernel_rfl) (by kernel_rfl) (by kernel_rfl) ?_
                refine .rpG 39 (t := 39) rfl rfl rfl (by kernel_rfl) (by kernel_rfl) (by kernel_rfl) (Reads.pure (.pickF rfl rfl)) ?_
                refine .rp 40 rfl (by kernel_rfl) (by kernel_rfl) (by kernel_rfl) (Reads.pure (.pickF rfl rfl)) ?_
                refine .done (by kernel_rfl) ⟨rfl, ?_, by repeat (first | exact Le.refl _ | refine Le.skip rfl ?_)⟩
                exact congrArg (fun x => some (Value.bool x)) (Eq.symm (show badAt l i = _ by unfold badAt; rw [hq, Option.getD_some]; unfold badQ; rw [decide_eq_false g4_4, decide_eq_false g4_9, decide_eq_false g4_14, decide_eq_true g4_18, decide_eq_false g4_30]; rfl))
    refine .cond rfl (fun h4 => ?_) (fun h4 => ?_)
    · refine .seq ?_
      refine .region ?_   -- R5 model.go:234
      refine .rd (.move rfl) ?_
      refine .rd (.assign rfl) ?_
      refine .nil ?_
      have hv : metaP l = (i : Int) := place_here (x := i) (List.getElem?_range (by omega)) h4 (fun j hj => hI.2 j (mem_take_range hj).1)
      rw [hv]
      refine .retP Try.func12 (.cons (.tmp rfl) .nil) (.cons (.tail .head) .nil) ?_
      exact ⟨[], ⟨rfl, rfl⟩, rfl⟩
    · refine .skip ?_
      refine .inBlock ?_
      refine .region ?_   -- R6 model.go:232
      refine .rd (.add rfl rfl (by omega) (by omega)) ?_
      refine .rd (.move rfl) ?_
      refine .nil ?_
      exact (ih (i + 1) ⟨by omega, fun j hj => by rcases Nat.lt_succ_iff_lt_or_eq.1 hj with hj | rfl; exact hI.2 j hj; simpa using h4⟩ (by omega)).to (.cons rfl (.cons rfl (.cons rfl (.cons rfl .nil)))) (.cons (.tail .head) .nil)
  · refine .exit rfl ?_
    refine .seq ?_
    refine .region ?_   -- R7 model.go:237
    refine .rd (.assign rfl) ?_
    refine .nil ?_
    have hv : metaP l = -1 := place_none fun j hj => hI.2 j (by have := List.mem_range.1 hj; omega)
    rw [hv]
    refine .retP Try.func12 (.cons (.tmp rfl) .nil) (.cons .head .nil) ?_
    exact ⟨[], ⟨rfl, rfl⟩, rfl⟩

end Go.Proofs.Ytahpokcigdjilaa

