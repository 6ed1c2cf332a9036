/- Steps through functions of the program, under conditions that each theorem states (part read22b of a claim). -/
import Derived.Test.YtahpokcigdjilaaProg
import Derived.Test.YtahpokcigdjilaaRead22
import Derived.Test.YtahpokcigdjilaaDefs22e
import Derived.KernelRfl
namespace Go.Proofs.Ytahpokcigdjilaa
open Go Go.Sp

set_option linter.unusedVariables false

namespace read22b

end read22b
open read22b

theorem len8 {n : Nat} (h : n * 8 ≤ 140737488351232) : n ≤ 17592186044416 := by omega

theorem rd64 {H : Type} {enc : TypeId × Value → H} {W : World} {spare : Nat → Bool} {held : Bool} : Rd enc Try.prog W spare held 64 Pt.cells (fun p => p.at_ W ∧ p.ok) := by
  intro n cs x h hf
  have hl : cs.length = 9 := (Rd.structLen Try.underlying64 h).trans (by kernel_rfl)
  obtain ⟨c0, cs0, rfl, hl0⟩ := cons_of_len hl
  obtain ⟨c1, cs1, rfl, hl1⟩ := cons_of_len hl0
  obtain ⟨c2, cs2, rfl, hl2⟩ := cons_of_len hl1
  obtain ⟨c3, cs3, rfl, hl3⟩ := cons_of_len hl2
  obtain ⟨c4, cs4, rfl, hl4⟩ := cons_of_len hl3
  obtain ⟨c5, cs5, rfl, hl5⟩ := cons_of_len hl4
  obtain ⟨c6, cs6, rfl, hl6⟩ := cons_of_len hl5
  obtain ⟨c7, cs7, rfl, hl7⟩ := cons_of_len hl6
  obtain ⟨c8, cs8, rfl, hl8⟩ := cons_of_len hl7
  obtain rfl : cs8 = [] := List.eq_nil_of_length_eq_zero hl8
  obtain ⟨f0, e0, _⟩ := Rd.field Try.underlying64 h hf 0 0 1 rfl (by kernel_rfl) (Rd.num Try.underlying3)
  simp only [List.drop_zero, List.take_succ_cons, List.take_zero, List.cons.injEq, and_true] at e0
  obtain ⟨f1, e1, _⟩ := Rd.field Try.underlying64 h hf 1 1 1 rfl (by kernel_rfl) (Rd.num Try.underlying3)
  simp only [List.drop_succ_cons, List.drop_zero, List.take_succ_cons, List.take_zero, List.cons.injEq, and_true] at e1
  obtain ⟨f2, e2, _⟩ := Rd.field Try.underlying64 h hf 2 2 1 rfl (by kernel_rfl) (Rd.num Try.underlying3)
  simp only [List.drop_succ_cons, List.drop_zero, List.take_succ_cons, List.take_zero, List.cons.injEq, and_true] at e2
  obtain ⟨f3, e3, _⟩ := Rd.field Try.underlying64 h hf 3 3 1 rfl (by kernel_rfl) (Rd.num Try.underlying3)
  simp only [List.drop_succ_cons, List.drop_zero, List.take_succ_cons, List.take_zero, List.cons.injEq, and_true] at e3
  obtain ⟨⟨a0, c0, l0⟩, e4, hr0, _, hb0, _, hc0⟩ := Rd.field Try.underlying64 h hf 4 4 1 rfl (by kernel_rfl) (Rd.slice (s := 1) (by_ := 8) Try.underlying40 (by kernel_rfl) (by decide) (by kernel_rfl) icell_len icell_ones (Rd.num Try.underlying3))
  simp only [List.drop_succ_cons, List.drop_zero, List.take_succ_cons, List.take_zero, List.cons.injEq, and_true] at e4
  obtain ⟨⟨a1, c1, l1⟩, e5, hr1, _, hb1, _, hc1⟩ := Rd.field Try.underlying64 h hf 5 5 1 rfl (by kernel_rfl) (Rd.slice (s := 1) (by_ := 8) Try.underlying40 (by kernel_rfl) (by decide) (by kernel_rfl) icell_len icell_ones (Rd.num Try.underlying3))
  simp only [List.drop_succ_cons, List.drop_zero, List.take_succ_cons, List.take_zero, List.cons.injEq, and_true] at e5
  obtain ⟨⟨a2, c2, l2⟩, e6, hr2, _, hb2, _, hc2⟩ := Rd.field Try.underlying64 h hf 6 6 1 rfl (by kernel_rfl) (Rd.slice (s := 1) (by_ := 8) Try.underlying40 (by kernel_rfl) (by decide) (by kernel_rfl) icell_len icell_ones (Rd.num Try.underlying3))
  simp only [List.drop_succ_cons, List.drop_zero, List.take_succ_cons, List.take_zero, List.cons.injEq, and_true] at e6
  obtain ⟨⟨a3, c3, l3⟩, e7, hr3, _, hb3, _, hc3⟩ := Rd.field Try.underlying64 h hf 7 7 1 rfl (by kernel_rfl) (Rd.slice (s := 1) (by_ := 8) Try.underlying40 (by kernel_rfl) (by decide) (by kernel_rfl) icell_len icell_ones (Rd.num Try.underlying3))
  simp only [List.drop_succ_cons, List.drop_zero, List.take_succ_cons, List.take_zero, List.cons.injEq, and_true] at e7
  obtain ⟨mn, e8, _⟩ := Rd.field Try.underlying64 h hf 8 8 1 rfl (by kernel_rfl) (Rd.num Try.underlying3)
  simp only [List.drop_succ_cons, List.drop_zero, List.take_succ_cons, List.take_zero, List.cons.injEq, and_true] at e8
  subst e0
  subst e1
  subst e2
  subst e3
  subst e4
  subst e5
  subst e6
  subst e7
  subst e8
  exact ⟨⟨f0, f1, f2, f3, (a0, c0, l0), (a1, c1, l1), (a2, c2, l2), (a3, c3, l3), mn⟩, rfl, ⟨hr0, hr1, hr2⟩, ⟨len8 hb0, len8 hb1, len8 hb2, hc1⟩⟩

end Go.Proofs.Ytahpokcigdjilaa

