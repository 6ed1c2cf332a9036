/- Steps through functions of the program, under conditions that each theorem states (part read22c of a claim). -/
import Derived.Test.YtahpokcigdjilaaProg
import Derived.Test.YtahpokcigdjilaaRead22
import Derived.Test.YtahpokcigdjilaaDefs22l
import Derived.KernelRfl
namespace Go.Proofs.Ytahpokcigdjilaa
open Go Go.Sp

set_option linter.unusedVariables false

namespace read22c

end read22c
open read22c



theorem rd32 {H : Type} {enc : TypeId × Value → H} {W : World} {spare : Nat → Bool} {held : Bool} : Rd enc Try.prog W spare held 32 Stp.cells Stp.ok := by
  intro n cs x h hf
  have hl : cs.length = 4 := (Rd.structLen Try.underlying32 h).trans (by kernel_rfl)
  obtain ⟨c0, cs0, rfl, hl0⟩ := cons_of_len hl
  obtain ⟨c1, cs1, rfl, hl1⟩ := cons_of_len hl0
  obtain ⟨c2, cs2, rfl, hl2⟩ := cons_of_len hl1
  obtain ⟨c3, cs3, rfl, hl3⟩ := cons_of_len hl2
  obtain rfl : cs3 = [] := List.eq_nil_of_length_eq_zero hl3
  obtain ⟨f0, e0, w0⟩ := Rd.field Try.underlying32 h hf 0 0 1 rfl (by kernel_rfl) (Rd.num Try.underlying3)
  simp only [List.drop_zero, List.take_succ_cons, List.take_zero, List.cons.injEq, and_true] at e0
  obtain ⟨f1, e1, w1⟩ := Rd.field Try.underlying32 h hf 1 1 1 rfl (by kernel_rfl) (Rd.num Try.underlying3)
  simp only [List.drop_succ_cons, List.drop_zero, List.take_succ_cons, List.take_zero, List.cons.injEq, and_true] at e1
  obtain ⟨f2, e2, w2⟩ := Rd.field Try.underlying32 h hf 2 2 1 rfl (by kernel_rfl) (Rd.num Try.underlying3)
  simp only [List.drop_succ_cons, List.drop_zero, List.take_succ_cons, List.take_zero, List.cons.injEq, and_true] at e2
  obtain ⟨f3, e3, w3⟩ := Rd.field Try.underlying32 h hf 3 3 1 rfl (by kernel_rfl) (Rd.num Try.underlying3)
  simp only [List.drop_succ_cons, List.drop_zero, List.take_succ_cons, List.take_zero, List.cons.injEq, and_true] at e3
  subst e0
  subst e1
  subst e2
  subst e3
  exact ⟨⟨f0, f1, f2, f3⟩, rfl, ⟨w0, w1, w2, w3⟩⟩

end Go.Proofs.Ytahpokcigdjilaa

