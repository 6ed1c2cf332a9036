/- Steps through functions of the program, under conditions that each theorem states (part mod19 of a claim). -/
import Derived.Test.YtahpokcigdjilaaProg
import Derived.Test.YtahpokcigdjilaaMod18
import Derived.Test.YtahpokcigdjilaaDefs22i
namespace Go.Proofs.Ytahpokcigdjilaa
open Go Go.Sp

set_option linter.unusedVariables false

namespace mod19

end mod19
open mod19



set_option maxRecDepth 20000 in
theorem ModelChecks_ok (l : List Sn) (a : Option Addr) (c : Nat) (hl : l.length ≤ 140737488351232) : Cn Try.prog 3 [.slice a l.length c] (RowAt a (l.flatMap Sn.cells)) [] fun v G => v = .bool true ∧ G = [] := by
  refine .enter Try.func3 rfl (by kernel_rfl) rfl fun R k => ?_
  refine .seq ?_
  refine .region ?_   -- R0 law.go:40
  refine .rd (.assign rfl) ?_
  refine .nil ?_
  refine .seq ?_
  refine .region ?_   -- R1 law.go:41
  refine .fn rfl rfl .nil (fun _ _ _ => trivial) (shown_ok) (fun v G1 hq => ?_)
  obtain ⟨rfl, rfl⟩ := hq
  simp only [List.nil_append]
  refine .rd (.assign rfl) ?_
  refine .nil ?_
  refine .seq ?_
  refine .seq ?_
  refine .region ?_   -- R2 law.go:42
  refine .rd (.move rfl) ?_
  refine .rd (.lenL rfl rfl Try.underlying22 rfl) ?_
  refine .rd (.gt rfl rfl) ?_
  refine .nil ?_
  refine .condP rfl (fun h2 => ?_) (fun h2 => ?_)
  · refine .seq ?_
    refine .region ?_   -- R3 law.go:43
    refine .rd (.move rfl) ?_
    refine .rd (.assign rfl) ?_
    refine .nil ?_
    refine .retP Try.func3 (.cons (.tmp rfl) .nil) (.cons .head .nil) ?_
    exact ⟨[], ⟨rfl, rfl⟩, rfl⟩
  · refine .skip ?_
    refine .seq ?_
    refine .region ?_   -- R4 law.go:45
    refine .rd (.move rfl) ?_
    refine .fn rfl rfl .nil (Knows.pick .head k) (Check_ok l a c (by omega)) (fun v G1 hq => ?_)
    obtain ⟨rfl, rfl⟩ := hq
    simp only [List.nil_append]
    refine .rd (.move rfl) ?_
    refine .rd (.extract rfl rfl) ?_
    refine .rd (.extract rfl rfl) ?_
    refine .rd (.assign rfl) ?_
    refine .rd (.assign rfl) ?_
    refine .nil ?_
    refine .seq ?_
    refine .region ?_   -- R5 law.go:46
    refine .rd (.move rfl) ?_
    refine .fn rfl rfl .nil (Knows.pick .head k) (refCheck_ok l a c (by omega)) (fun v G1 hq => ?_)
    obtain ⟨rfl, rfl⟩ := hq
    simp only [List.nil_append]
    rw [check_same l]
    refine .rd (.move rfl) ?_
    refine .rd (.extract rfl rfl) ?_
    refine .rd (.extract rfl rfl) ?_
    refine .rd (.assign rfl) ?_
    refine .rd (.assign rfl) ?_
    refine .nil ?_
    refine .seq ?_
    refine .region ?_   -- R6 law.go:47
    refine .rd (.move rfl) ?_
    refine .rd (.move rfl) ?_
    refine .on (t := 24) rfl rfl ?_
    refine .rd (.move rfl) ?_
    refine .on (t := 24) rfl rfl ?_
    refine .rd (.move rfl) ?_
    refine .on (t := 24) rfl rfl ?_
    refine .rd (.eqI rfl rfl) ?_
    refine .alter (t := 27) (v' := .bool true) rfl (congrArg Value.bool (decide_eq_true (rfl))) ?_
    refine .rd (.pickT rfl rfl) ?_
    refine .rd (.move rfl) ?_
    refine .on (t := 29) rfl rfl ?_
    refine .rd (.move rfl) ?_
    refine .on (t := 29) rfl rfl ?_
    refine .rd (.move rfl) ?_
    refine .on (t := 29) rfl rfl ?_
    refine .rd (.eqT (l := (refC l).2) (m := (refC l).2) rfl rfl) ?_
    refine .alter (t := 32) (v' := .bool true) rfl (congrArg Value.bool (decide_eq_true rfl)) ?_
    refine .rd (.pickT rfl rfl) ?_
    refine .rd (.assign rfl) ?_
    refine .nil ?_
    refine .retP Try.func3 (.cons (.tmp rfl) .nil) (.cons .head .nil) ?_
    exact ⟨[], ⟨rfl, rfl⟩, rfl⟩

end Go.Proofs.Ytahpokcigdjilaa

