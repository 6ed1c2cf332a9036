/- Steps through functions of the program, under conditions that each theorem states (part wire3 of a claim). -/
import Derived.Test.YtllpkagplfmlbaaProg
import Derived.Test.YtllpkagplfmlbaaL13
import Derived.Test.YtllpkagplfmlbaaDefs3c
import Derived.Test.YtllpkagplfmlbaaWire2
namespace Go.Proofs.Ytllpkagplfmlbaa
open Go Go.Sp

set_option linter.unusedVariables false

namespace wire3
theorem ti5 : TI Try.prog 5 1 1 (.int .u8 0) := .of (by kernel_rfl)
end wire3
open wire3



set_option maxRecDepth 20000 in
theorem Int_ok (n : Int) (hn : i64 n) : Cn Try.prog 28 [.int .i64 n] (fun _ => True) [] fun v G => v = .string (str (eint n)) ∧ G = [] := by
  refine .enter Try.func28 rfl (by kernel_rfl) rfl fun R k => ?_
  refine .seq ?_
  refine .region ?_   -- R0 wire.go:25
  refine .rd (.assign rfl) ?_
  refine .nil ?_
  refine .nilArr 5 1 none ?_
  refine .seq ?_
  refine .region ?_   -- R1 wire.go:25
  refine .rd (.move rfl) ?_
  refine .fn rfl rfl (.cons .head .nil) (fun _ _ _ => trivial) (appendInt_ok none 0 [] n hn (Nat.zero_le _)) (fun v G1 hq => ?_)
  obtain ⟨a', c', rfl, rfl⟩ := hq
  simp only [List.cons_append, List.nil_append]
  refine .rd (.bytesToStr (l := eint n) Try.underlying34 Try.underlying5 Try.underlying9 rfl rfl (Knows.arr .head)) ?_
  refine .rd (.assign rfl) ?_
  refine .nil ?_
  refine .retP Try.func28 (.cons (.tmp rfl) .nil) (.cons (.tail .head) .nil) ?_
  exact ⟨[], ⟨rfl, rfl⟩, rfl⟩

set_option maxRecDepth 20000 in
theorem appendText_ok (a : Option Addr) (c : Nat) (l s : List UInt8) (hs : s.length ≤ 100000000000000) (hl : l.length ≤ 1000000000000) : Cn Try.prog 47 [.slice a l.length c, .string (str s)] (fun _ => True) [arr 5 1 a c (bcs l)] fun v G => ∃ a' c', v = .slice a' (l ++ eint (s.length : Int) ++ s).length c' ∧ G = [arr 5 1 a' c' (bcs (l ++ eint (s.length : Int) ++ s))] := by
  refine .enter Try.func47 rfl (by kernel_rfl) rfl fun R k => ?_
  refine .seq ?_
  refine .region ?_   -- R0 wire.go:57
  refine .rd (.assign rfl) ?_
  refine .nil ?_
  refine .seq ?_
  refine .region ?_   -- R1 wire.go:57
  refine .rd (.move rfl) ?_
  refine .rd (.move rfl) ?_
  refine .rd (.lenT rfl rfl Try.underlying9 rfl) ?_
  refine .fn rfl rfl (.cons .head .nil) (fun _ _ _ => trivial) (appendInt_ok a c l (s.length : Int) (by unfold i64; omega) hl) (fun v G1 hq => ?_)
  obtain ⟨a', c', rfl, rfl⟩ := hq
  simp only [List.cons_append, List.nil_append]
  refine .rd (.move rfl) ?_
  refine .ef (.append rfl rfl Try.underlying34 ti5 rfl (ones.of rfl) (by decide) (by decide) rfl rfl .head (n := (l ++ eint (s.length : Int)).length) (m := s.length) (by rw [bcs_len, Nat.mul_one]) (.srcT Try.underlying9) (by rw [List.length_append]; have := eint_len (n := (s.length : Int)) (by unfold i64; omega); omega)) ?_
  rintro _ _ ⟨ra, rc, rfl, rn, rfl⟩
  refine .rd (.assign rfl) ?_
  refine .nil ?_
  rw [← bcs_append]
  refine .retP Try.func47 (.cons (.tmp rfl) .nil) (.cons .head (.cons .head .nil)) ?_
  exact ⟨[_], ⟨ra, rc, by simp only [resVal]; rw [← List.length_append], rfl⟩, rfl⟩

end Go.Proofs.Ytllpkagplfmlbaa

