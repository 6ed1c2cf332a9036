/- Steps through functions of the program, under conditions that each theorem states (part wire21 of a claim). -/
import Derived.Test.YtllpkagplfmlbaaProg
import Derived.Test.YtllpkagplfmlbaaWire0
import Derived.Test.YtllpkagplfmlbaaWire16
import Derived.Test.YtllpkagplfmlbaaWire20
namespace Go.Proofs.Ytllpkagplfmlbaa
open Go Go.Sp

set_option linter.unusedVariables false

namespace wire21
theorem ia39 : IsAgg Try.prog 39 := ⟨_, Try.underlying39, trivial⟩
theorem ts39 : TS Try.prog 39 8 := .of (by kernel_rfl)
end wire21
open wire21



set_option maxRecDepth 20000 in
theorem WireSums_ok (l : List UInt8) (hl : l.length ≤ 9000000000000000000) : Cn Try.prog 3 [.string (str l)] (fun _ => True) [] fun v G => v = .bool true ∧ G = [] := by
  refine .enter Try.func3 rfl (by kernel_rfl) rfl fun R k => ?_
  refine .seq ?_
  refine .region ?_   -- R0 law.go:62
  refine .rd (.assign rfl) ?_
  refine .nil ?_
  refine .seq ?_
  refine .region ?_   -- R1 law.go:63
  refine .fn rfl rfl .nil (fun _ _ _ => trivial) (shown_ok) (fun v G1 hq => ?_)
  obtain ⟨rfl, rfl⟩ := hq
  simp only [List.nil_append]
  refine .rd (.assign rfl) ?_
  refine .nil ?_
  refine .seq ?_
  refine .region ?_   -- R2 law.go:64
  refine .rd (.move rfl) ?_
  refine .rd (.move rfl) ?_
  refine .on (t := 6) rfl rfl ?_
  refine .rd (.move rfl) ?_
  refine .on (t := 6) rfl rfl ?_
  refine .fn rfl rfl .nil (fun _ _ _ => trivial) (Crc_ok l hl) (fun v G1 hq => ?_)
  obtain ⟨rfl, rfl⟩ := hq
  simp only [List.nil_append]
  refine .on (t := 6) rfl rfl ?_
  refine .rd (.move rfl) ?_
  refine .on (t := 6) rfl rfl ?_
  refine .fn rfl rfl .nil (fun _ _ _ => trivial) (rCrc_ok l hl) (fun v G1 hq => ?_)
  obtain ⟨rfl, rfl⟩ := hq
  simp only [List.nil_append]
  refine .on (t := 6) rfl rfl ?_
  refine .rd (.eqI rfl rfl) ?_
  refine .alter (t := 11) (v' := .bool true) rfl (congrArg Value.bool (decide_eq_true rfl)) ?_
  refine .rd (.pickT rfl rfl) ?_
  refine .rd (.assign rfl) ?_
  refine .nil ?_
  refine .retP Try.func3 (.cons (.tmp rfl) .nil) (.cons .head .nil) ?_
  exact ⟨[], ⟨rfl, rfl⟩, rfl⟩

set_option maxRecDepth 20000 in
theorem WireMetas_ok (m : Met) (p : Option Addr) (c : Nat) (hf : m.fits) : Cn Try.prog 5 [.agg (m.cells p c).toArray] (RowAt p (m.list.flatMap icell)) [] fun v G => v = .bool true ∧ G = [] := by
  refine .enter Try.func5 rfl (by kernel_rfl) rfl fun R k => ?_
  refine .seq ?_
  refine .region ?_   -- R0 law.go:97
  refine .ef (.box (l := m.cells p c) rfl rfl (ones.of rfl)) ?_
  rintro _ _ ⟨b1, rfl, rfl⟩
  refine .rd (.assign rfl) ?_
  refine .nil ?_
  refine .seq ?_
  refine .region ?_   -- R1 law.go:98
  refine .fn rfl rfl .nil (fun _ _ _ => trivial) (shown_ok) (fun v G1 hq => ?_)
  obtain ⟨rfl, rfl⟩ := hq
  simp only [List.nil_append]
  refine .rd (.assign rfl) ?_
  refine .nil ?_
  refine .seq ?_
  refine .region ?_   -- R2 law.go:99
  refine .rd (.ldN ia39 ts39 rfl .head rfl) ?_
  refine .fn rfl rfl .nil (Knows.pick (.tail .head) k) (Meta_ok m p c hf) (fun v G1 hq => ?_)
  obtain ⟨rfl, rfl⟩ := hq
  simp only [List.nil_append]
  refine .rd (.move rfl) ?_
  refine .rd (.extract rfl rfl) ?_
  refine .rd (.extract rfl rfl) ?_
  refine .rd (.assign rfl) ?_
  refine .rd (.assign rfl) ?_
  refine .nil ?_
  refine .seq ?_
  refine .region ?_   -- R3 law.go:100
  refine .rd (.ldN ia39 ts39 rfl .head rfl) ?_
  refine .fn rfl rfl .nil (Knows.pick (.tail .head) k) (rMeta_ok m p c hf) (fun v G1 hq => ?_)
  obtain ⟨rfl, rfl⟩ := hq
  simp only [List.nil_append]
  refine .rd (.move rfl) ?_
  refine .rd (.extract rfl rfl) ?_
  refine .rd (.extract rfl rfl) ?_
  refine .rd (.assign rfl) ?_
  refine .rd (.assign rfl) ?_
  refine .nil ?_
  refine .seq ?_
  refine .region ?_   -- R4 law.go:101
  refine .rd (.move rfl) ?_
  refine .rd (.move rfl) ?_
  refine .on (t := 20) rfl rfl ?_
  refine .rd (.move rfl) ?_
  refine .on (t := 20) rfl rfl ?_
  refine .rd (.move rfl) ?_
  refine .on (t := 20) rfl rfl ?_
  refine .rd (.eqT rfl rfl) ?_
  refine .alter (t := 23) (v' := .bool true) rfl (congrArg Value.bool (decide_eq_true rfl)) ?_
  refine .rd (.pickT rfl rfl) ?_
  refine .rd (.move rfl) ?_
  refine .on (t := 25) rfl rfl ?_
  refine .rd (.move rfl) ?_
  refine .on (t := 25) rfl rfl ?_
  refine .rd (.move rfl) ?_
  refine .on (t := 25) rfl rfl ?_
  refine .rd (.eqI rfl rfl) ?_
  refine .alter (t := 28) (v' := .bool true) rfl (congrArg Value.bool (decide_eq_true rfl)) ?_
  refine .rd (.pickT rfl rfl) ?_
  refine .rd (.assign rfl) ?_
  refine .nil ?_
  refine .retP Try.func5 (.cons (.tmp rfl) .nil) (.cons (.tail .head) .nil) ?_
  exact ⟨[], ⟨rfl, rfl⟩, rfl⟩

end Go.Proofs.Ytllpkagplfmlbaa

