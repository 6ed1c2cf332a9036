/- Steps through functions of the program, under conditions that each theorem states (part wire11 of a claim). -/
import Derived.Test.YtllpkagplfmlbaaProg
import Derived.Test.YtllpkagplfmlbaaDefs3g
namespace Go.Proofs.Ytllpkagplfmlbaa
open Go Go.Sp

set_option linter.unusedVariables false

namespace wire11
theorem fd27_5 : FD Try.prog 27 5 5 := .of Try.underlying27 (by kernel_rfl)
theorem na25 : NotAgg Try.prog 25 := ⟨_, Try.underlying25, trivial⟩
theorem fd27_0 : FD Try.prog 27 0 0 := .of Try.underlying27 (by kernel_rfl)
theorem na3 : NotAgg Try.prog 3 := ⟨_, Try.underlying3, trivial⟩
theorem fd27_1 : FD Try.prog 27 1 1 := .of Try.underlying27 (by kernel_rfl)
theorem fd27_2 : FD Try.prog 27 2 2 := .of Try.underlying27 (by kernel_rfl)
theorem fd27_3 : FD Try.prog 27 3 3 := .of Try.underlying27 (by kernel_rfl)
theorem fd27_4 : FD Try.prog 27 4 4 := .of Try.underlying27 (by kernel_rfl)
theorem ts65 : TS Try.prog 65 3 := .of (by kernel_rfl)
theorem ia65 : IsAgg Try.prog 65 := ⟨_, Try.underlying65, trivial⟩
theorem ti65 : TI Try.prog 65 3 40 (.agg #[.string ⟨#[]⟩, .string ⟨#[]⟩, .int .i64 0]) := .of (by kernel_rfl)
theorem fd65_2 : FD Try.prog 65 2 2 := .of Try.underlying65 (by kernel_rfl)
theorem fd65_0 : FD Try.prog 65 0 0 := .of Try.underlying65 (by kernel_rfl)
theorem na9 : NotAgg Try.prog 9 := ⟨_, Try.underlying9, trivial⟩
theorem fd65_1 : FD Try.prog 65 1 1 := .of Try.underlying65 (by kernel_rfl)
theorem ia27 : IsAgg Try.prog 27 := ⟨_, Try.underlying27, trivial⟩
theorem ts27 : TS Try.prog 27 6 := .of (by kernel_rfl)
end wire11
open wire11



set_option maxRecDepth 20000 in
theorem Right_ok (b : Bat) (a : Option Addr) (c : Nat) (hf : b.fits) : Cn Try.prog 29 [.agg (b.cells a c).toArray] (RowAt a (b.recs.flatMap Rec.cells)) [] fun v G => v = .int .i64 (right b) ∧ G = [] := by
  refine .enter Try.func29 rfl (by kernel_rfl) rfl fun R k => ?_
  have hfl := hf.len
  have hor := orI_zero hf.pidEpoch hf.seq
  refine .seq ?_
  refine .region ?_   -- R0 wire.go:74
  refine .ef (.box (l := b.cells a c) rfl rfl (ones.of rfl)) ?_
  rintro _ _ ⟨b1, rfl, rfl⟩
  refine .rd (.assign rfl) ?_
  refine .nil ?_
  refine .seq ?_
  refine .region ?_   -- R1 wire.go:75
  refine .rd (.fieldAddr fd27_5 rfl) ?_
  refine .rd (.ld na25 rfl .head rfl) ?_
  refine .rd (.lenL rfl rfl Try.underlying25 rfl) ?_
  refine .rd (.assign rfl) ?_
  refine .nil ?_
  refine .seq ?_
  refine .seq ?_
  refine .region ?_   -- R2 wire.go:76
  refine .rd (.fieldAddr fd27_0 rfl) ?_
  refine .rd (.ld na3 rfl .head rfl) ?_
  refine .rd (.lt rfl rfl) ?_
  refine .rd (.move rfl) ?_
  refine .split (t := 13) rfl (fun g2_3 => ?_) (fun g2_3 => ?_)
  · replace g2_3 := of_decide_eq_true g2_3
    refine .off (t := 13) rfl rfl rfl ?_
    refine .off (t := 13) rfl rfl rfl ?_
    refine .off (t := 13) rfl rfl rfl ?_
    refine .off (t := 13) rfl rfl rfl ?_
    refine .rd (.pickT rfl rfl) ?_
    refine .rd (.move rfl) ?_
    refine .off (t := 19) rfl rfl rfl ?_
    refine .off (t := 19) rfl rfl rfl ?_
    refine .off (t := 19) rfl rfl rfl ?_
    refine .off (t := 19) rfl rfl rfl ?_
    refine .rd (.pickT rfl rfl) ?_
    refine .rd (.move rfl) ?_
    refine .off (t := 25) rfl rfl rfl ?_
    refine .off (t := 25) rfl rfl rfl ?_
    refine .off (t := 25) rfl rfl rfl ?_
    refine .off (t := 25) rfl rfl rfl ?_
    refine .rd (.pickT rfl rfl) ?_
    refine .rd (.move rfl) ?_
    refine .off (t := 31) rfl rfl rfl ?_
    refine .off (t := 31) rfl rfl rfl ?_
    refine .off (t := 31) rfl rfl rfl ?_
    refine .off (t := 31) rfl rfl rfl ?_
    refine .rd (.pickT rfl rfl) ?_
    refine .rd (.move rfl) ?_
    refine .off (t := 37) rfl rfl rfl ?_
    refine .off (t := 37) rfl rfl rfl ?_
    refine .off (t := 37) rfl rfl rfl ?_
    refine .offU (t := 37) rfl rfl rfl rfl ?_
    refine .offX (t := 41) rfl rfl rfl ?_
    refine .offX (t := 41) rfl rfl rfl ?_
    refine .offX (t := 41) rfl rfl rfl ?_
    refine .offX (t := 41) rfl rfl rfl ?_
    refine .offX (t := 41) rfl rfl rfl ?_
    refine .offX (t := 41) rfl rfl rfl ?_
    refine .off (t := 37) rfl rfl rfl ?_
    refine .rd (.pickT rfl rfl) ?_
    refine .rd (.move rfl) ?_
    refine .off (t := 50) rfl rfl rfl ?_
    refine .off (t := 50) rfl rfl rfl ?_
    refine .rd (.pickT rfl rfl) ?_
    refine .nil ?_
    refine .condT rfl ?_
    refine .seq ?_
    refine .region ?_   -- R3 wire.go:77
    refine .rd (.assign rfl) ?_
    refine .nil ?_
    have hq : b.off := by unfold Bat.off; omega
    rw [right_off hq]
    refine .retP Try.func29 (.cons (.tmp rfl) .nil) (.cons (.tail .head) .nil) ?_
    exact ⟨[], ⟨rfl, rfl⟩, rfl⟩
  · replace g2_3 := of_decide_eq_false g2_3
    refine .on (t := 13) rfl rfl ?_
    refine .rd (.fieldAddr fd27_1 rfl) ?_
    refine .on (t := 13) rfl rfl ?_
    refine .rd (.ld na3 rfl .head rfl) ?_
    refine .on (t := 13) rfl rfl ?_
    refine .fn rfl rfl .nil (fun _ _ _ => trivial) (within_ok _ _) (fun v G1 hq => ?_)
    obtain ⟨rfl, rfl⟩ := hq
    simp only [List.nil_append]
    refine .on (t := 13) rfl rfl ?_
    refine .rd (.not rfl) ?_
    refine .rd (.pickF rfl rfl) ?_
    refine .rd (.move rfl) ?_
    refine .split (t := 19) rfl (fun g2_9 => ?_) (fun g2_9 => ?_)
    · simp at g2_9
      refine .off (t := 19) rfl rfl rfl ?_
      refine .off (t := 19) rfl rfl rfl ?_
      refine .off (t := 19) rfl rfl rfl ?_
      refine .off (t := 19) rfl rfl rfl ?_
      refine .rd (.pickT rfl rfl) ?_
      refine .rd (.move rfl) ?_
      refine .off (t := 25) rfl rfl rfl ?_
      refine .off (t := 25) rfl rfl rfl ?_
      refine .off (t := 25) rfl rfl rfl ?_
      refine .off (t := 25) rfl rfl rfl ?_
      refine .rd (.pickT rfl rfl) ?_
      refine .rd (.move rfl) ?_
      refine .off (t := 31) rfl rfl rfl ?_
      refine .off (t := 31) rfl rfl rfl ?_
      refine .off (t := 31) rfl rfl rfl ?_
      refine .off (t := 31) rfl rfl rfl ?_
      refine .rd (.pickT rfl rfl) ?_
      refine .rd (.move rfl) ?_
      refine .off (t := 37) rfl rfl rfl ?_
      refine .off (t := 37) rfl rfl rfl ?_
      refine .off (t := 37) rfl rfl rfl ?_
      refine .offU (t := 37) rfl rfl rfl rfl ?_
      refine .offX (t := 41) rfl rfl rfl ?_
      refine .offX (t := 41) rfl rfl rfl ?_
      refine .offX (t := 41) rfl rfl rfl ?_
      refine .offX (t := 41) rfl rfl rfl ?_
      refine .offX (t := 41) rfl rfl rfl ?_
      refine .offX (t := 41) rfl rfl rfl ?_
      refine .off (t := 37) rfl rfl rfl ?_
      refine .rd (.pickT rfl rfl) ?_
      refine .rd (.move rfl) ?_
      refine .off (t := 50) rfl rfl rfl ?_
      refine .off (t := 50) rfl rfl rfl ?_
      refine .rd (.pickT rfl rfl) ?_
      refine .nil ?_
      refine .condT rfl ?_
      refine .seq ?_
      refine .region ?_   -- R3 wire.go:77
      refine .rd (.assign rfl) ?_
      refine .nil ?_
      have hq : b.off := by unfold Bat.off; omega
      rw [right_off hq]
      refine .retP Try.func29 (.cons (.tmp rfl) .nil) (.cons (.tail .head) .nil) ?_
      exact ⟨[], ⟨rfl, rfl⟩, rfl⟩
    · simp at g2_9
      refine .on (t := 19) rfl rfl ?_
      refine .rd (.fieldAddr fd27_2 rfl) ?_
      refine .on (t := 19) rfl rfl ?_
      refine .rd (.ld na3 rfl .head rfl) ?_
      refine .on (t := 19) rfl rfl ?_
      refine .fn rfl rfl .nil (fun _ _ _ => trivial) (within_ok _ _) (fun v G1 hq => ?_)
      obtain ⟨rfl, rfl⟩ := hq
      simp only [List.nil_append]
      refine .on (t := 19) rfl rfl ?_
      refine .rd (.not rfl) ?_
      refine .rd (.pickF rfl rfl) ?_
      refine .rd (.move rfl) ?_
      refine .split (t := 25) rfl (fun g2_15 => ?_) (fun g2_15 => ?_)
      · simp at g2_15
        refine .off (t := 25) rfl rfl rfl ?_
        refine .off (t := 25) rfl rfl rfl ?_
        refine .off (t := 25) rfl rfl rfl ?_
        refine .off (t := 25) rfl rfl rfl ?_
        refine .rd (.pickT rfl rfl) ?_
        refine .rd (.move rfl) ?_
        refine .off (t := 31) rfl rfl rfl ?_
        refine .off (t := 31) rfl rfl rfl ?_
        refine .off (t := 31) rfl rfl rfl ?_
        refine .off (t := 31) rfl rfl rfl ?_
        refine .rd (.pickT rfl rfl) ?_
        refine .rd (.move rfl) ?_
        refine .off (t := 37) rfl rfl rfl ?_
        refine .off (t := 37) rfl rfl rfl ?_
        refine .off (t := 37) rfl rfl rfl ?_
        refine .offU (t := 37) rfl rfl rfl rfl ?_
        refine .offX (t := 41) rfl rfl rfl ?_
        refine .offX (t := 41) rfl rfl rfl ?_
        refine .offX (t := 41) rfl rfl rfl ?_
        refine .offX (t := 41) rfl rfl rfl ?_
        refine .offX (t := 41) rfl rfl rfl ?_
        refine .offX (t := 41) rfl rfl rfl ?_
        refine .off (t := 37) rfl rfl rfl ?_
        refine .rd (.pickT rfl rfl) ?_
        refine .rd (.move rfl) ?_
        refine .off (t := 50) rfl rfl rfl ?_
        refine .off (t := 50) rfl rfl rfl ?_
        refine .rd (.pickT rfl rfl) ?_
        refine .nil ?_
        refine .condT rfl ?_
        refine .seq ?_
        refine .region ?_   -- R3 wire.go:77
        refine .rd (.assign rfl) ?_
        refine .nil ?_
        have hq : b.off := by unfold Bat.off; omega
        rw [right_off hq]
        refine .retP Try.func29 (.cons (.tmp rfl) .nil) (.cons (.tail .head) .nil) ?_
        exact ⟨[], ⟨rfl, rfl⟩, rfl⟩
      · simp at g2_15
        refine .on (t := 25) rfl rfl ?_
        refine .rd (.fieldAddr fd27_3 rfl) ?_
        refine .on (t := 25) rfl rfl ?_
        refine .rd (.ld na3 rfl .head rfl) ?_
        refine .on (t := 25) rfl rfl ?_
        refine .fn rfl rfl .nil (fun _ _ _ => trivial) (within_ok _ _) (fun v G1 hq => ?_)
        obtain ⟨rfl, rfl⟩ := hq
        simp only [List.nil_append]
        refine .on (t := 25) rfl rfl ?_
        refine .rd (.not rfl) ?_
        refine .rd (.pickF rfl rfl) ?_
        refine .rd (.move rfl) ?_
        refine .split (t := 31) rfl (fun g2_21 => ?_) (fun g2_21 => ?_)
        · simp at g2_21
          refine .off (t := 31) rfl rfl rfl ?_
          refine .off (t := 31) rfl rfl rfl ?_
          refine .off (t := 31) rfl rfl rfl ?_
          refine .off (t := 31) rfl rfl rfl ?_
          refine .rd (.pickT rfl rfl) ?_
          refine .rd (.move rfl) ?_
          refine .off (t := 37) rfl rfl rfl ?_
          refine .off (t := 37) rfl rfl rfl ?_
          refine .off (t := 37) rfl rfl rfl ?_
          refine .offU (t := 37) rfl rfl rfl rfl ?_
          refine .offX (t := 41) rfl rfl rfl ?_
          refine .offX (t := 41) rfl rfl rfl ?_
          refine .offX (t := 41) rfl rfl rfl ?_
          refine .offX (t := 41) rfl rfl rfl ?_
          refine .offX (t := 41) rfl rfl rfl ?_
          refine .offX (t := 41) rfl rfl rfl ?_
          refine .off (t := 37) rfl rfl rfl ?_
          refine .rd (.pickT rfl rfl) ?_
          refine .rd (.move rfl) ?_
          refine .off (t := 50) rfl rfl rfl ?_
          refine .off (t := 50) rfl rfl rfl ?_
          refine .rd (.pickT rfl rfl) ?_
          refine .nil ?_
          refine .condT rfl ?_
          refine .seq ?_
          refine .region ?_   -- R3 wire.go:77
          refine .rd (.assign rfl) ?_
          refine .nil ?_
          have hq : b.off := by unfold Bat.off; omega
          rw [right_off hq]
          refine .retP Try.func29 (.cons (.tmp rfl) .nil) (.cons (.tail .head) .nil) ?_
          exact ⟨[], ⟨rfl, rfl⟩, rfl⟩
        · simp at g2_21
          refine .on (t := 31) rfl rfl ?_
          refine .rd (.fieldAddr fd27_4 rfl) ?_
          refine .on (t := 31) rfl rfl ?_
          refine .rd (.ld na3 rfl .head rfl) ?_
          refine .on (t := 31) rfl rfl ?_
          refine .fn rfl rfl .nil (fun _ _ _ => trivial) (within_ok _ _) (fun v G1 hq => ?_)
          obtain ⟨rfl, rfl⟩ := hq
          simp only [List.nil_append]
          refine .on (t := 31) rfl rfl ?_
          refine .rd (.not rfl) ?_
          refine .rd (.pickF rfl rfl) ?_
          refine .rd (.move rfl) ?_
          refine .split (t := 37) rfl (fun g2_27 => ?_) (fun g2_27 => ?_)
          · simp at g2_27
            refine .off (t := 37) rfl rfl rfl ?_
            refine .off (t := 37) rfl rfl rfl ?_
            refine .off (t := 37) rfl rfl rfl ?_
            refine .offU (t := 37) rfl rfl rfl rfl ?_
            refine .offX (t := 41) rfl rfl rfl ?_
            refine .offX (t := 41) rfl rfl rfl ?_
            refine .offX (t := 41) rfl rfl rfl ?_
            refine .offX (t := 41) rfl rfl rfl ?_
            refine .offX (t := 41) rfl rfl rfl ?_
            refine .offX (t := 41) rfl rfl rfl ?_
            refine .off (t := 37) rfl rfl rfl ?_
            refine .rd (.pickT rfl rfl) ?_
            refine .rd (.move rfl) ?_
            refine .off (t := 50) rfl rfl rfl ?_
            refine .off (t := 50) rfl rfl rfl ?_
            refine .rd (.pickT rfl rfl) ?_
            refine .nil ?_
            refine .condT rfl ?_
            refine .seq ?_
            refine .region ?_   -- R3 wire.go:77
            refine .rd (.assign rfl) ?_
            refine .nil ?_
            have hq : b.off := by unfold Bat.off; omega
            rw [right_off hq]
            refine .retP Try.func29 (.cons (.tmp rfl) .nil) (.cons (.tail .head) .nil) ?_
            exact ⟨[], ⟨rfl, rfl⟩, rfl⟩
          · simp at g2_27
            refine .on (t := 37) rfl rfl ?_
            refine .rd (.fieldAddr fd27_2 rfl) ?_
            refine .on (t := 37) rfl rfl ?_
            refine .rd (.ld na3 rfl .head rfl) ?_
            refine .on (t := 37) rfl rfl ?_
            refine .rd (.eqI rfl rfl) ?_
            refine .on (t := 37) rfl rfl ?_
            refine .rd (.move rfl) ?_
            refine .split (t := 41) rfl (fun g2_31 => ?_) (fun g2_31 => ?_)
            · replace g2_31 := of_decide_eq_true g2_31
              refine .on (t := 41) rfl rfl ?_
              refine .rd (.fieldAddr fd27_3 rfl) ?_
              refine .on (t := 41) rfl rfl ?_
              refine .rd (.ld na3 rfl .head rfl) ?_
              refine .on (t := 41) rfl rfl ?_
              refine .rd (.fieldAddr fd27_4 rfl) ?_
              refine .on (t := 41) rfl rfl ?_
              refine .rd (.ld na3 rfl .head rfl) ?_
              refine .on (t := 41) rfl rfl ?_
              refine .rd (.or rfl rfl) ?_
              refine .alter (t := 46) (v' := .int .i64 (orI b.pidEpoch b.seq)) rfl (rfl) ?_
              refine .on (t := 41) rfl rfl ?_
              refine .rd (.neI rfl rfl) ?_
              refine .on (t := 37) rfl rfl ?_
              refine .rd (.pickT rfl rfl) ?_
              refine .rd (.pickF rfl rfl) ?_
              refine .rd (.move rfl) ?_
              refine .split (t := 50) rfl (fun g2_40 => ?_) (fun g2_40 => ?_)
              · simp at g2_40
                refine .off (t := 50) rfl rfl rfl ?_
                refine .off (t := 50) rfl rfl rfl ?_
                refine .rd (.pickT rfl rfl) ?_
                refine .nil ?_
                refine .condT rfl ?_
                refine .seq ?_
                refine .region ?_   -- R3 wire.go:77
                refine .rd (.assign rfl) ?_
                refine .nil ?_
                have hq : b.off := by unfold Bat.off; omega
                rw [right_off hq]
                refine .retP Try.func29 (.cons (.tmp rfl) .nil) (.cons (.tail .head) .nil) ?_
                exact ⟨[], ⟨rfl, rfl⟩, rfl⟩
              · simp at g2_40
                refine .on (t := 50) rfl rfl ?_
                refine .rd (.move rfl) ?_
                refine .on (t := 50) rfl rfl ?_
                refine .rd (.eqI rfl rfl) ?_
                refine .rd (.pickF rfl rfl) ?_
                refine .nil ?_
                refine .condP rfl (fun h2 => ?_) (fun h2 => ?_)
                · refine .seq ?_
                  refine .region ?_   -- R3 wire.go:77
                  refine .rd (.assign rfl) ?_
                  refine .nil ?_
                  have hq : b.off := by unfold Bat.off; omega
                  rw [right_off hq]
                  refine .retP Try.func29 (.cons (.tmp rfl) .nil) (.cons (.tail .head) .nil) ?_
                  exact ⟨[], ⟨rfl, rfl⟩, rfl⟩
                · have hno : ¬ b.off := by unfold Bat.off; omega
                  refine .skip ?_
                  refine .seq ?_
                  refine .region ?_   -- R4 wire.go:79
                  refine .rd (.assign rfl) ?_
                  refine .nil ?_
                  refine .seq ?_
                  refine .seq ?_
                  refine .region ?_   -- R5 wire.go:80
                  refine .rd (.fieldAddr fd27_5 rfl) ?_
                  refine .rd (.ld na25 rfl .head rfl) ?_
                  refine .rd (.lenL rfl rfl Try.underlying25 rfl) ?_
                  refine .rd (.move rfl) ?_
                  refine .nil ?_
                  refine .block ?_
                  refine .loop (σ := Nat) (fun j => j ≤ b.recs.length ∧ ∀ r ∈ b.recs.take j, timely r) (fun j => b.recs.length - j) (fun j => [(1, .pointer (some ⟨b1, 0, none⟩)), (2, .int .i64 0), (3, .int .i64 b.recs.length), (4, .bool ((b.recs.take j).any long)), (55, .slice a b.recs.length c), (56, .int .i64 b.recs.length), (57, .int .i64 (j : Nat))]) (fun j => [blk b1 (b.cells a c) 27, R]) 0 ⟨Nat.zero_le _, by simp⟩ (.cons rfl (.cons rfl (.cons rfl (.cons rfl (.cons rfl (.cons rfl (.cons rfl .nil))))))) (.cons .head (.cons .head .nil)) (fun j hI ih => ?_)
                  have hj := hI.1
                  refine .seq ?_
                  refine .region ?_   -- R6 wire.go:80
                  refine .rd (.lt rfl rfl) ?_
                  refine .nil ?_
                  refine .seq ?_
                  refine .condP rfl (fun h6 => ?_) (fun h6 => ?_)
                  · refine .skip ?_
                    refine .seq ?_
                    refine .block ?_
                    refine .seq ?_
                    have hjl : j < b.recs.length := by omega
                    obtain ⟨r, hr⟩ : ∃ r, b.recs[j]? = some r := ⟨_, List.getElem?_eq_getElem hjl⟩
                    have hrm := List.mem_of_getElem? hr
                    have hk1 := hf.key r hrm
                    have hk2 := hf.value r hrm
                    refine .tell (φ := ∃ b o, a = some ⟨b, o, none⟩) (Knows.pick (.tail .head) (k.mono fun _ h => h.addr (by rw [flat_length Rec.cells_len]; omega))) (fun hx => ?_)
                    obtain ⟨bb, oo, rfl⟩ := hx
                    refine .region ?_   -- R7 wire.go:80
                    refine .rd (.indexAddr Try.underlying25 ts65 rfl rfl (by omega) (by omega)) ?_
                    refine .rd (.loadN ia65 ts65 rfl rfl (Knows.elem Rec.cells_len (by decide) (Knows.pick (.tail .head) k) hr)) ?_
                    refine .ef (.alloc ti65 rfl (ones.of rfl)) ?_
                    rintro _ _ ⟨b6, rfl, rfl⟩
                    refine .ef0 (.storeAll (vs := r.cells) ts65 rfl rfl rfl .head rfl (ones.of rfl)) ?_
                    rintro _ _ rfl
                    refine .nil ?_
                    refine .seq ?_
                    refine .seq ?_
                    refine .region ?_   -- R8 wire.go:81
                    refine .rd (.fieldAddr fd65_2 rfl) ?_
                    refine .rd (.ld na3 rfl .head rfl) ?_
                    refine .fn rfl rfl .nil (fun _ _ _ => trivial) (within_ok _ _) (fun v G1 hq => ?_)
                    obtain ⟨rfl, rfl⟩ := hq
                    simp only [List.nil_append]
                    refine .rd (.not rfl) ?_
                    refine .nil ?_
                    refine .condN rfl (fun h8 => ?_) (fun h8 => ?_)
                    · refine .seq ?_
                      refine .region ?_   -- R9 wire.go:82
                      refine .rd (.assign rfl) ?_
                      refine .nil ?_
                      rw [right_time hr (by show ¬ (_ ∧ _); omega)]
                      refine .retP Try.func29 (.cons (.tmp rfl) .nil) (.cons (.tail (.tail .head)) .nil) ?_
                      exact ⟨[], ⟨rfl, rfl⟩, rfl⟩
                    · refine .skip ?_
                      refine .region ?_   -- R10 wire.go:84
                      refine .rd (.move rfl) ?_
                      refine .rd (.move rfl) ?_
                      refine .split (t := 66) rfl (fun g10_1 => ?_) (fun g10_1 => ?_)
                      · refine .off (t := 66) rfl rfl rfl ?_
                        refine .off (t := 66) rfl rfl rfl ?_
                        refine .off (t := 66) rfl rfl rfl ?_
                        refine .off (t := 66) rfl rfl rfl ?_
                        refine .rd (.pickT rfl rfl) ?_
                        refine .rd (.move rfl) ?_
                        refine .off (t := 72) rfl rfl rfl ?_
                        refine .off (t := 72) rfl rfl rfl ?_
                        refine .off (t := 72) rfl rfl rfl ?_
                        refine .off (t := 72) rfl rfl rfl ?_
                        refine .rd (.pickT rfl rfl) ?_
                        refine .rd (.assign rfl) ?_
                        refine .nil ?_
                        refine .inBlock ?_
                        refine .region ?_   -- R11 wire.go:80
                        refine .rd (.add rfl rfl (by omega) (by omega)) ?_
                        refine .rd (.move rfl) ?_
                        refine .nil ?_
                        exact (ih (j + 1) ⟨by omega, all_take (p := timely) hr (by show _ ∧ _; omega) hI.2⟩ (by omega)).to (.cons rfl (.cons rfl (.cons rfl (.cons (by rw [any_take hr, g10_1]; rfl) (.cons rfl (.cons rfl (.cons rfl .nil))))))) (.cons (.tail .head) (.cons (.tail .head) .nil))
                      · refine .on (t := 66) rfl rfl ?_
                        refine .rd (.fieldAddr fd65_0 rfl) ?_
                        refine .on (t := 66) rfl rfl ?_
                        refine .rd (.ld na9 rfl .head rfl) ?_
                        refine .on (t := 66) rfl rfl ?_
                        refine .rd (.lenT rfl rfl Try.underlying9 rfl) ?_
                        refine .on (t := 66) rfl rfl ?_
                        refine .rd (.gt rfl rfl) ?_
                        refine .rd (.pickF rfl rfl) ?_
                        refine .rd (.move rfl) ?_
                        refine .split (t := 72) rfl (fun g10_7 => ?_) (fun g10_7 => ?_)
                        · replace g10_7 := of_decide_eq_true g10_7
                          refine .off (t := 72) rfl rfl rfl ?_
                          refine .off (t := 72) rfl rfl rfl ?_
                          refine .off (t := 72) rfl rfl rfl ?_
                          refine .off (t := 72) rfl rfl rfl ?_
                          refine .rd (.pickT rfl rfl) ?_
                          refine .rd (.assign rfl) ?_
                          refine .nil ?_
                          refine .inBlock ?_
                          refine .region ?_   -- R11 wire.go:80
                          refine .rd (.add rfl rfl (by omega) (by omega)) ?_
                          refine .rd (.move rfl) ?_
                          refine .nil ?_
                          exact (ih (j + 1) ⟨by omega, all_take (p := timely) hr (by show _ ∧ _; omega) hI.2⟩ (by omega)).to (.cons rfl (.cons rfl (.cons rfl (.cons (by rw [any_take hr, g10_1]; show _ = some (Value.bool (false || long r)); rw [show long r = true from (long_iff r).2 (.inl (by omega))]; rfl) (.cons rfl (.cons rfl (.cons rfl .nil))))))) (.cons (.tail .head) (.cons (.tail .head) .nil))
                        · replace g10_7 := of_decide_eq_false g10_7
                          refine .on (t := 72) rfl rfl ?_
                          refine .rd (.fieldAddr fd65_1 rfl) ?_
                          refine .on (t := 72) rfl rfl ?_
                          refine .rd (.ld na9 rfl .head rfl) ?_
                          refine .on (t := 72) rfl rfl ?_
                          refine .rd (.lenT rfl rfl Try.underlying9 rfl) ?_
                          refine .on (t := 72) rfl rfl ?_
                          refine .rd (.gt rfl rfl) ?_
                          refine .rd (.pickF rfl rfl) ?_
                          refine .rd (.assign rfl) ?_
                          refine .nil ?_
                          refine .inBlock ?_
                          refine .region ?_   -- R11 wire.go:80
                          refine .rd (.add rfl rfl (by omega) (by omega)) ?_
                          refine .rd (.move rfl) ?_
                          refine .nil ?_
                          exact (ih (j + 1) ⟨by omega, all_take (p := timely) hr (by show _ ∧ _; omega) hI.2⟩ (by omega)).to (.cons rfl (.cons rfl (.cons rfl (.cons (by rw [any_take hr, g10_1, Bool.false_or, long_r3 (by omega)]; exact congrArg (fun x => some (Value.bool x)) (decide_eq_decide.2 (by omega))) (.cons rfl (.cons rfl (.cons rfl .nil))))))) (.cons (.tail .head) (.cons (.tail .head) .nil))
                  · obtain rfl : j = b.recs.length := by omega
                    have hrt := right_on hno (by have := hI.2; rwa [List.take_length] at this)
                    refine .alter (t := 4) (v' := .bool (b.recs.any long)) rfl (by rw [List.take_length]) ?_
                    refine .exit rfl ?_
                    refine .seq ?_
                    refine .block ?_
                    refine .seq ?_
                    refine .region ?_   -- R12 wire.go:87
                    refine .rd (.move rfl) ?_
                    refine .rd (.gt rfl rfl) ?_
                    refine .rd (.assign rfl) ?_
                    refine .nil ?_
                    refine .condP rfl (fun h12 => ?_) (fun h12 => ?_)
                    · refine .seq ?_
                      refine .region ?_   -- R13 wire.go:88
                      refine .rd (.assign rfl) ?_
                      refine .nil ?_
                      have hv : right b = 3 := by rw [hrt, if_pos (by omega)]
                      rw [hv]
                      refine .retP Try.func29 (.cons (.tmp rfl) .nil) (.cons (.tail .head) .nil) ?_
                      exact ⟨[], ⟨rfl, rfl⟩, rfl⟩
                    · refine .seq ?_
                      refine .region ?_   -- R14 wire.go:89
                      refine .rd (.move rfl) ?_
                      refine .rd (.assign rfl) ?_
                      refine .nil ?_
                      refine .cond rfl (fun h14 => ?_) (fun h14 => ?_)
                      · refine .seq ?_
                        refine .region ?_   -- R15 wire.go:90
                        refine .rd (.assign rfl) ?_
                        refine .nil ?_
                        have hv : right b = 2 := by rw [hrt, if_neg (by omega), if_pos h14]
                        rw [hv]
                        refine .retP Try.func29 (.cons (.tmp rfl) .nil) (.cons (.tail .head) .nil) ?_
                        exact ⟨[], ⟨rfl, rfl⟩, rfl⟩
                      · have hl14 : ¬ b.recs.any long = true := by rw [h14]; decide
                        refine .seq ?_
                        refine .region ?_   -- R16 wire.go:91
                        refine .rd (.fieldAddr fd27_0 rfl) ?_
                        refine .rd (.ld na3 rfl .head rfl) ?_
                        refine .rd (.move rfl) ?_
                        refine .rd (.sub rfl rfl (by omega) (by omega)) ?_
                        refine .rd (.add rfl rfl (by omega) (by omega)) ?_
                        refine .rd (.gt rfl rfl) ?_
                        refine .rd (.move rfl) ?_
                        refine .split (t := 91) rfl (fun g16_6 => ?_) (fun g16_6 => ?_)
                        · replace g16_6 := of_decide_eq_true g16_6
                          refine .off (t := 91) rfl rfl rfl ?_
                          refine .off (t := 91) rfl rfl rfl ?_
                          refine .off (t := 91) rfl rfl rfl ?_
                          refine .off (t := 91) rfl rfl rfl ?_
                          refine .off (t := 91) rfl rfl rfl ?_
                          refine .off (t := 91) rfl rfl rfl ?_
                          refine .rd (.pickT rfl rfl) ?_
                          refine .rd (.assign rfl) ?_
                          refine .nil ?_
                          refine .condT rfl ?_
                          refine .seq ?_
                          refine .region ?_   -- R17 wire.go:92
                          refine .rd (.assign rfl) ?_
                          refine .nil ?_
                          have hv : right b = 20 := by rw [hrt, if_neg (by omega), if_neg hl14, if_pos (by omega)]
                          rw [hv]
                          refine .retP Try.func29 (.cons (.tmp rfl) .nil) (.cons (.tail .head) .nil) ?_
                          exact ⟨[], ⟨rfl, rfl⟩, rfl⟩
                        · replace g16_6 := of_decide_eq_false g16_6
                          refine .on (t := 91) rfl rfl ?_
                          refine .rd (.fieldAddr fd27_4 rfl) ?_
                          refine .on (t := 91) rfl rfl ?_
                          refine .rd (.ld na3 rfl .head rfl) ?_
                          refine .on (t := 91) rfl rfl ?_
                          refine .rd (.move rfl) ?_
                          refine .on (t := 91) rfl rfl ?_
                          refine .rd (.sub rfl rfl (by omega) (by omega)) ?_
                          refine .on (t := 91) rfl rfl ?_
                          refine .rd (.add rfl rfl (by omega) (by omega)) ?_
                          refine .on (t := 91) rfl rfl ?_
                          refine .rd (.gt rfl rfl) ?_
                          refine .rd (.pickF rfl rfl) ?_
                          refine .rd (.assign rfl) ?_
                          refine .nil ?_
                          refine .condP rfl (fun h16 => ?_) (fun h16 => ?_)
                          · refine .seq ?_
                            refine .region ?_   -- R17 wire.go:92
                            refine .rd (.assign rfl) ?_
                            refine .nil ?_
                            have hv : right b = 20 := by rw [hrt, if_neg (by omega), if_neg hl14, if_pos (by omega)]
                            rw [hv]
                            refine .retP Try.func29 (.cons (.tmp rfl) .nil) (.cons (.tail .head) .nil) ?_
                            exact ⟨[], ⟨rfl, rfl⟩, rfl⟩
                          · refine .seq ?_
                            refine .region ?_   -- R18 wire.go:93
                            refine .rd (.ldN ia27 ts27 rfl .head rfl) ?_
                            refine .fn rfl rfl .nil (Knows.pick (.tail .head) k) (body_ok b a c hf (small_of (by omega) hl14)) (fun v G1 hq => ?_)
                            obtain ⟨a', c', rfl, rfl⟩ := hq
                            simp only [List.cons_append, List.nil_append]
                            refine .rd (.lenL rfl rfl Try.underlying34 rfl) ?_
                            refine .rd (.gt rfl rfl) ?_
                            refine .rd (.assign rfl) ?_
                            refine .nil ?_
                            refine .condP rfl (fun h18 => ?_) (fun h18 => ?_)
                            · refine .seq ?_
                              refine .region ?_   -- R19 wire.go:94
                              refine .rd (.assign rfl) ?_
                              refine .nil ?_
                              have hv : right b = 2 := by rw [hrt, if_neg (by omega), if_neg hl14, if_neg (by omega), if_pos (by omega)]
                              rw [hv]
                              refine .retP Try.func29 (.cons (.tmp rfl) .nil) (.cons (.tail (.tail .head)) .nil) ?_
                              exact ⟨[], ⟨rfl, rfl⟩, rfl⟩
                            · refine .skip ?_
                              refine .inBlock ?_
                              refine .seq ?_
                              refine .region ?_   -- R20 wire.go:96
                              refine .rd (.assign rfl) ?_
                              refine .nil ?_
                              have hv : right b = 0 := by rw [hrt, if_neg (by omega), if_neg hl14, if_neg (by omega), if_neg (by omega)]
                              rw [hv]
                              refine .retP Try.func29 (.cons (.tmp rfl) .nil) (.cons (.tail (.tail .head)) .nil) ?_
                              exact ⟨[], ⟨rfl, rfl⟩, rfl⟩
            · replace g2_31 := of_decide_eq_false g2_31
              refine .off (t := 41) rfl rfl rfl ?_
              refine .off (t := 41) rfl rfl rfl ?_
              refine .off (t := 41) rfl rfl rfl ?_
              refine .off (t := 41) rfl rfl rfl ?_
              refine .off (t := 41) rfl rfl rfl ?_
              refine .off (t := 41) rfl rfl rfl ?_
              refine .on (t := 37) rfl rfl ?_
              refine .rd (.pickF rfl rfl) ?_
              refine .rd (.pickF rfl rfl) ?_
              refine .rd (.move rfl) ?_
              refine .on (t := 50) rfl rfl ?_
              refine .rd (.move rfl) ?_
              refine .on (t := 50) rfl rfl ?_
              refine .rd (.eqI rfl rfl) ?_
              refine .rd (.pickF rfl rfl) ?_
              refine .nil ?_
              refine .condP rfl (fun h2 => ?_) (fun h2 => ?_)
              · refine .seq ?_
                refine .region ?_   -- R3 wire.go:77
                refine .rd (.assign rfl) ?_
                refine .nil ?_
                have hq : b.off := by unfold Bat.off; omega
                rw [right_off hq]
                refine .retP Try.func29 (.cons (.tmp rfl) .nil) (.cons (.tail .head) .nil) ?_
                exact ⟨[], ⟨rfl, rfl⟩, rfl⟩
              · have hno : ¬ b.off := by unfold Bat.off; omega
                refine .skip ?_
                refine .seq ?_
                refine .region ?_   -- R4 wire.go:79
                refine .rd (.assign rfl) ?_
                refine .nil ?_
                refine .seq ?_
                refine .seq ?_
                refine .region ?_   -- R5 wire.go:80
                refine .rd (.fieldAddr fd27_5 rfl) ?_
                refine .rd (.ld na25 rfl .head rfl) ?_
                refine .rd (.lenL rfl rfl Try.underlying25 rfl) ?_
                refine .rd (.move rfl) ?_
                refine .nil ?_
                refine .block ?_
                refine .loop (σ := Nat) (fun j => j ≤ b.recs.length ∧ ∀ r ∈ b.recs.take j, timely r) (fun j => b.recs.length - j) (fun j => [(1, .pointer (some ⟨b1, 0, none⟩)), (2, .int .i64 0), (3, .int .i64 b.recs.length), (4, .bool ((b.recs.take j).any long)), (55, .slice a b.recs.length c), (56, .int .i64 b.recs.length), (57, .int .i64 (j : Nat))]) (fun j => [blk b1 (b.cells a c) 27, R]) 0 ⟨Nat.zero_le _, by simp⟩ (.cons rfl (.cons rfl (.cons rfl (.cons rfl (.cons rfl (.cons rfl (.cons rfl .nil))))))) (.cons .head (.cons .head .nil)) (fun j hI ih => ?_)
                have hj := hI.1
                refine .seq ?_
                refine .region ?_   -- R6 wire.go:80
                refine .rd (.lt rfl rfl) ?_
                refine .nil ?_
                refine .seq ?_
                refine .condP rfl (fun h6 => ?_) (fun h6 => ?_)
                · refine .skip ?_
                  refine .seq ?_
                  refine .block ?_
                  refine .seq ?_
                  have hjl : j < b.recs.length := by omega
                  obtain ⟨r, hr⟩ : ∃ r, b.recs[j]? = some r := ⟨_, List.getElem?_eq_getElem hjl⟩
                  have hrm := List.mem_of_getElem? hr
                  have hk1 := hf.key r hrm
                  have hk2 := hf.value r hrm
                  refine .tell (φ := ∃ b o, a = some ⟨b, o, none⟩) (Knows.pick (.tail .head) (k.mono fun _ h => h.addr (by rw [flat_length Rec.cells_len]; omega))) (fun hx => ?_)
                  obtain ⟨bb, oo, rfl⟩ := hx
                  refine .region ?_   -- R7 wire.go:80
                  refine .rd (.indexAddr Try.underlying25 ts65 rfl rfl (by omega) (by omega)) ?_
                  refine .rd (.loadN ia65 ts65 rfl rfl (Knows.elem Rec.cells_len (by decide) (Knows.pick (.tail .head) k) hr)) ?_
                  refine .ef (.alloc ti65 rfl (ones.of rfl)) ?_
                  rintro _ _ ⟨b6, rfl, rfl⟩
                  refine .ef0 (.storeAll (vs := r.cells) ts65 rfl rfl rfl .head rfl (ones.of rfl)) ?_
                  rintro _ _ rfl
                  refine .nil ?_
                  refine .seq ?_
                  refine .seq ?_
                  refine .region ?_   -- R8 wire.go:81
                  refine .rd (.fieldAddr fd65_2 rfl) ?_
                  refine .rd (.ld na3 rfl .head rfl) ?_
                  refine .fn rfl rfl .nil (fun _ _ _ => trivial) (within_ok _ _) (fun v G1 hq => ?_)
                  obtain ⟨rfl, rfl⟩ := hq
                  simp only [List.nil_append]
                  refine .rd (.not rfl) ?_
                  refine .nil ?_
                  refine .condN rfl (fun h8 => ?_) (fun h8 => ?_)
                  · refine .seq ?_
                    refine .region ?_   -- R9 wire.go:82
                    refine .rd (.assign rfl) ?_
                    refine .nil ?_
                    rw [right_time hr (by show ¬ (_ ∧ _); omega)]
                    refine .retP Try.func29 (.cons (.tmp rfl) .nil) (.cons (.tail (.tail .head)) .nil) ?_
                    exact ⟨[], ⟨rfl, rfl⟩, rfl⟩
                  · refine .skip ?_
                    refine .region ?_   -- R10 wire.go:84
                    refine .rd (.move rfl) ?_
                    refine .rd (.move rfl) ?_
                    refine .split (t := 66) rfl (fun g10_1 => ?_) (fun g10_1 => ?_)
                    · refine .off (t := 66) rfl rfl rfl ?_
                      refine .off (t := 66) rfl rfl rfl ?_
                      refine .off (t := 66) rfl rfl rfl ?_
                      refine .off (t := 66) rfl rfl rfl ?_
                      refine .rd (.pickT rfl rfl) ?_
                      refine .rd (.move rfl) ?_
                      refine .off (t := 72) rfl rfl rfl ?_
                      refine .off (t := 72) rfl rfl rfl ?_
                      refine .off (t := 72) rfl rfl rfl ?_
                      refine .off (t := 72) rfl rfl rfl ?_
                      refine .rd (.pickT rfl rfl) ?_
                      refine .rd (.assign rfl) ?_
                      refine .nil ?_
                      refine .inBlock ?_
                      refine .region ?_   -- R11 wire.go:80
                      refine .rd (.add rfl rfl (by omega) (by omega)) ?_
                      refine .rd (.move rfl) ?_
                      refine .nil ?_
                      exact (ih (j + 1) ⟨by omega, all_take (p := timely) hr (by show _ ∧ _; omega) hI.2⟩ (by omega)).to (.cons rfl (.cons rfl (.cons rfl (.cons (by rw [any_take hr, g10_1]; rfl) (.cons rfl (.cons rfl (.cons rfl .nil))))))) (.cons (.tail .head) (.cons (.tail .head) .nil))
                    · refine .on (t := 66) rfl rfl ?_
                      refine .rd (.fieldAddr fd65_0 rfl) ?_
                      refine .on (t := 66) rfl rfl ?_
                      refine .rd (.ld na9 rfl .head rfl) ?_
                      refine .on (t := 66) rfl rfl ?_
                      refine .rd (.lenT rfl rfl Try.underlying9 rfl) ?_
                      refine .on (t := 66) rfl rfl ?_
                      refine .rd (.gt rfl rfl) ?_
                      refine .rd (.pickF rfl rfl) ?_
                      refine .rd (.move rfl) ?_
                      refine .split (t := 72) rfl (fun g10_7 => ?_) (fun g10_7 => ?_)
                      · replace g10_7 := of_decide_eq_true g10_7
                        refine .off (t := 72) rfl rfl rfl ?_
                        refine .off (t := 72) rfl rfl rfl ?_
                        refine .off (t := 72) rfl rfl rfl ?_
                        refine .off (t := 72) rfl rfl rfl ?_
                        refine .rd (.pickT rfl rfl) ?_
                        refine .rd (.assign rfl) ?_
                        refine .nil ?_
                        refine .inBlock ?_
                        refine .region ?_   -- R11 wire.go:80
                        refine .rd (.add rfl rfl (by omega) (by omega)) ?_
                        refine .rd (.move rfl) ?_
                        refine .nil ?_
                        exact (ih (j + 1) ⟨by omega, all_take (p := timely) hr (by show _ ∧ _; omega) hI.2⟩ (by omega)).to (.cons rfl (.cons rfl (.cons rfl (.cons (by rw [any_take hr, g10_1]; show _ = some (Value.bool (false || long r)); rw [show long r = true from (long_iff r).2 (.inl (by omega))]; rfl) (.cons rfl (.cons rfl (.cons rfl .nil))))))) (.cons (.tail .head) (.cons (.tail .head) .nil))
                      · replace g10_7 := of_decide_eq_false g10_7
                        refine .on (t := 72) rfl rfl ?_
                        refine .rd (.fieldAddr fd65_1 rfl) ?_
                        refine .on (t := 72) rfl rfl ?_
                        refine .rd (.ld na9 rfl .head rfl) ?_
                        refine .on (t := 72) rfl rfl ?_
                        refine .rd (.lenT rfl rfl Try.underlying9 rfl) ?_
                        refine .on (t := 72) rfl rfl ?_
                        refine .rd (.gt rfl rfl) ?_
                        refine .rd (.pickF rfl rfl) ?_
                        refine .rd (.assign rfl) ?_
                        refine .nil ?_
                        refine .inBlock ?_
                        refine .region ?_   -- R11 wire.go:80
                        refine .rd (.add rfl rfl (by omega) (by omega)) ?_
                        refine .rd (.move rfl) ?_
                        refine .nil ?_
                        exact (ih (j + 1) ⟨by omega, all_take (p := timely) hr (by show _ ∧ _; omega) hI.2⟩ (by omega)).to (.cons rfl (.cons rfl (.cons rfl (.cons (by rw [any_take hr, g10_1, Bool.false_or, long_r3 (by omega)]; exact congrArg (fun x => some (Value.bool x)) (decide_eq_decide.2 (by omega))) (.cons rfl (.cons rfl (.cons rfl .nil))))))) (.cons (.tail .head) (.cons (.tail .head) .nil))
                · obtain rfl : j = b.recs.length := by omega
                  have hrt := right_on hno (by have := hI.2; rwa [List.take_length] at this)
                  refine .alter (t := 4) (v' := .bool (b.recs.any long)) rfl (by rw [List.take_length]) ?_
                  refine .exit rfl ?_
                  refine .seq ?_
                  refine .block ?_
                  refine .seq ?_
                  refine .region ?_   -- R12 wire.go:87
                  refine .rd (.move rfl) ?_
                  refine .rd (.gt rfl rfl) ?_
                  refine .rd (.assign rfl) ?_
                  refine .nil ?_
                  refine .condP rfl (fun h12 => ?_) (fun h12 => ?_)
                  · refine .seq ?_
                    refine .region ?_   -- R13 wire.go:88
                    refine .rd (.assign rfl) ?_
                    refine .nil ?_
                    have hv : right b = 3 := by rw [hrt, if_pos (by omega)]
                    rw [hv]
                    refine .retP Try.func29 (.cons (.tmp rfl) .nil) (.cons (.tail .head) .nil) ?_
                    exact ⟨[], ⟨rfl, rfl⟩, rfl⟩
                  · refine .seq ?_
                    refine .region ?_   -- R14 wire.go:89
                    refine .rd (.move rfl) ?_
                    refine .rd (.assign rfl) ?_
                    refine .nil ?_
                    refine .cond rfl (fun h14 => ?_) (fun h14 => ?_)
                    · refine .seq ?_
                      refine .region ?_   -- R15 wire.go:90
                      refine .rd (.assign rfl) ?_
                      refine .nil ?_
                      have hv : right b = 2 := by rw [hrt, if_neg (by omega), if_pos h14]
                      rw [hv]
                      refine .retP Try.func29 (.cons (.tmp rfl) .nil) (.cons (.tail .head) .nil) ?_
                      exact ⟨[], ⟨rfl, rfl⟩, rfl⟩
                    · have hl14 : ¬ b.recs.any long = true := by rw [h14]; decide
                      refine .seq ?_
                      refine .region ?_   -- R16 wire.go:91
                      refine .rd (.fieldAddr fd27_0 rfl) ?_
                      refine .rd (.ld na3 rfl .head rfl) ?_
                      refine .rd (.move rfl) ?_
                      refine .rd (.sub rfl rfl (by omega) (by omega)) ?_
                      refine .rd (.add rfl rfl (by omega) (by omega)) ?_
                      refine .rd (.gt rfl rfl) ?_
                      refine .rd (.move rfl) ?_
                      refine .split (t := 91) rfl (fun g16_6 => ?_) (fun g16_6 => ?_)
                      · replace g16_6 := of_decide_eq_true g16_6
                        refine .off (t := 91) rfl rfl rfl ?_
                        refine .off (t := 91) rfl rfl rfl ?_
                        refine .off (t := 91) rfl rfl rfl ?_
                        refine .off (t := 91) rfl rfl rfl ?_
                        refine .off (t := 91) rfl rfl rfl ?_
                        refine .off (t := 91) rfl rfl rfl ?_
                        refine .rd (.pickT rfl rfl) ?_
                        refine .rd (.assign rfl) ?_
                        refine .nil ?_
                        refine .condT rfl ?_
                        refine .seq ?_
                        refine .region ?_   -- R17 wire.go:92
                        refine .rd (.assign rfl) ?_
                        refine .nil ?_
                        have hv : right b = 20 := by rw [hrt, if_neg (by omega), if_neg hl14, if_pos (by omega)]
                        rw [hv]
                        refine .retP Try.func29 (.cons (.tmp rfl) .nil) (.cons (.tail .head) .nil) ?_
                        exact ⟨[], ⟨rfl, rfl⟩, rfl⟩
                      · replace g16_6 := of_decide_eq_false g16_6
                        refine .on (t := 91) rfl rfl ?_
                        refine .rd (.fieldAddr fd27_4 rfl) ?_
                        refine .on (t := 91) rfl rfl ?_
                        refine .rd (.ld na3 rfl .head rfl) ?_
                        refine .on (t := 91) rfl rfl ?_
                        refine .rd (.move rfl) ?_
                        refine .on (t := 91) rfl rfl ?_
                        refine .rd (.sub rfl rfl (by omega) (by omega)) ?_
                        refine .on (t := 91) rfl rfl ?_
                        refine .rd (.add rfl rfl (by omega) (by omega)) ?_
                        refine .on (t := 91) rfl rfl ?_
                        refine .rd (.gt rfl rfl) ?_
                        refine .rd (.pickF rfl rfl) ?_
                        refine .rd (.assign rfl) ?_
                        refine .nil ?_
                        refine .condP rfl (fun h16 => ?_) (fun h16 => ?_)
                        · refine .seq ?_
                          refine .region ?_   -- R17 wire.go:92
                          refine .rd (.assign rfl) ?_
                          refine .nil ?_
                          have hv : right b = 20 := by rw [hrt, if_neg (by omega), if_neg hl14, if_pos (by omega)]
                          rw [hv]
                          refine .retP Try.func29 (.cons (.tmp rfl) .nil) (.cons (.tail .head) .nil) ?_
                          exact ⟨[], ⟨rfl, rfl⟩, rfl⟩
                        · refine .seq ?_
                          refine .region ?_   -- R18 wire.go:93
                          refine .rd (.ldN ia27 ts27 rfl .head rfl) ?_
                          refine .fn rfl rfl .nil (Knows.pick (.tail .head) k) (body_ok b a c hf (small_of (by omega) hl14)) (fun v G1 hq => ?_)
                          obtain ⟨a', c', rfl, rfl⟩ := hq
                          simp only [List.cons_append, List.nil_append]
                          refine .rd (.lenL rfl rfl Try.underlying34 rfl) ?_
                          refine .rd (.gt rfl rfl) ?_
                          refine .rd (.assign rfl) ?_
                          refine .nil ?_
                          refine .condP rfl (fun h18 => ?_) (fun h18 => ?_)
                          · refine .seq ?_
                            refine .region ?_   -- R19 wire.go:94
                            refine .rd (.assign rfl) ?_
                            refine .nil ?_
                            have hv : right b = 2 := by rw [hrt, if_neg (by omega), if_neg hl14, if_neg (by omega), if_pos (by omega)]
                            rw [hv]
                            refine .retP Try.func29 (.cons (.tmp rfl) .nil) (.cons (.tail (.tail .head)) .nil) ?_
                            exact ⟨[], ⟨rfl, rfl⟩, rfl⟩
                          · refine .skip ?_
                            refine .inBlock ?_
                            refine .seq ?_
                            refine .region ?_   -- R20 wire.go:96
                            refine .rd (.assign rfl) ?_
                            refine .nil ?_
                            have hv : right b = 0 := by rw [hrt, if_neg (by omega), if_neg hl14, if_neg (by omega), if_neg (by omega)]
                            rw [hv]
                            refine .retP Try.func29 (.cons (.tmp rfl) .nil) (.cons (.tail (.tail .head)) .nil) ?_
                            exact ⟨[], ⟨rfl, rfl⟩, rfl⟩

end Go.Proofs.Ytllpkagplfmlbaa

