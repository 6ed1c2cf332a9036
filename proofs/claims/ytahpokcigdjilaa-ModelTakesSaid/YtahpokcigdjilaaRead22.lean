/- Steps through functions of the program, under conditions that each theorem states (part read22 of a claim). -/
import Derived.Test.YtahpokcigdjilaaProg
import Derived.Test.YtahpokcigdjilaaL10
import Derived.Test.YtahpokcigdjilaaMod7
import Derived.KernelRfl
namespace Go.Proofs.Ytahpokcigdjilaa
open Go Go.Sp

set_option linter.unusedVariables false

namespace read22

end read22
open read22



theorem i64_wf {n : Int} (h : (Lit.int .i64 n).wf = true) : i64 n := by simpa [i64, Lit.wf, IntKind.min, IntKind.max, IntKind.signed, IntKind.bits] using h
theorem Rd.num {H : Type} {enc : TypeId × Value → H} {P : Program} {W : World} {spare : Nat → Bool} {held : Bool} {t} (ht : P.underlying t = some (.int .i64)) : Rd enc P W spare held t (fun n : Int => [.int .i64 n]) i64 := fun n cs x h hf => by
  obtain ⟨m, e, hm⟩ := Rd.int ht n cs x h hf
  exact ⟨m, e, i64_wf hm⟩
theorem Rd.text {H : Type} {enc : TypeId × Value → H} {P : Program} {W : World} {spare : Nat → Bool} {held : Bool} {t} (ht : P.underlying t = some .string) : Rd enc P W spare held t (fun s : List UInt8 => [.string (str s)]) (fun s => s.length ≤ 140737488351232) := fun n cs x h hf => by
  obtain ⟨s, e, hs⟩ := Rd.string ht n cs x h hf
  refine ⟨s.data.toList, ?_, ?_⟩
  · show cs = [Value.string (str s.data.toList)]; rw [str_data]; exact e
  · show s.data.toList.length ≤ _; rw [← str_size, str_data]; exact hs
theorem icell_ones (n : Int) : ones (icell n) := .of rfl

theorem rd36 {H : Type} {enc : TypeId × Value → H} {W : World} {spare : Nat → Bool} {held : Bool} : Rd enc Try.prog W spare held 36 Sn.cells (fun _ => True) := by
  intro n cs x h hf
  have hl : cs.length = 12 := (Rd.structLen Try.underlying36 h).trans (by kernel_rfl)
  obtain ⟨c0, cs0, rfl, hl0⟩ := cons_of_len hl
  obtain ⟨c1, cs1, rfl, hl1⟩ := cons_of_len hl0
  obtain ⟨c2, cs2, rfl, hl2⟩ := cons_of_len hl1
  obtain ⟨c3, cs3, rfl, hl3⟩ := cons_of_len hl2
  obtain ⟨c4, cs4, rfl, hl4⟩ := cons_of_len hl3
  obtain ⟨c5, cs5, rfl, hl5⟩ := cons_of_len hl4
  obtain ⟨c6, cs6, rfl, hl6⟩ := cons_of_len hl5
  obtain ⟨c7, cs7, rfl, hl7⟩ := cons_of_len hl6
  obtain ⟨c8, cs8, rfl, hl8⟩ := cons_of_len hl7
  obtain ⟨c9, cs9, rfl, hl9⟩ := cons_of_len hl8
  obtain ⟨c10, cs10, rfl, hl10⟩ := cons_of_len hl9
  obtain ⟨c11, cs11, rfl, hl11⟩ := cons_of_len hl10
  obtain rfl : cs11 = [] := List.eq_nil_of_length_eq_zero hl11
  obtain ⟨f0, e0, _⟩ := Rd.field Try.underlying36 h hf 0 0 1 rfl (by kernel_rfl) (Rd.num Try.underlying3)
  simp only [List.drop_zero, List.take_succ_cons, List.take_zero, List.cons.injEq, and_true] at e0
  obtain ⟨f1, e1, _⟩ := Rd.field Try.underlying36 h hf 1 1 1 rfl (by kernel_rfl) (Rd.num Try.underlying3)
  simp only [List.drop_succ_cons, List.drop_zero, List.take_succ_cons, List.take_zero, List.cons.injEq, and_true] at e1
  obtain ⟨f2, e2, _⟩ := Rd.field Try.underlying36 h hf 2 2 1 rfl (by kernel_rfl) (Rd.num Try.underlying3)
  simp only [List.drop_succ_cons, List.drop_zero, List.take_succ_cons, List.take_zero, List.cons.injEq, and_true] at e2
  obtain ⟨f3, e3, _⟩ := Rd.field Try.underlying36 h hf 3 3 1 rfl (by kernel_rfl) (Rd.num Try.underlying3)
  simp only [List.drop_succ_cons, List.drop_zero, List.take_succ_cons, List.take_zero, List.cons.injEq, and_true] at e3
  obtain ⟨f4, e4, _⟩ := Rd.field Try.underlying36 h hf 4 4 1 rfl (by kernel_rfl) (Rd.num Try.underlying3)
  simp only [List.drop_succ_cons, List.drop_zero, List.take_succ_cons, List.take_zero, List.cons.injEq, and_true] at e4
  obtain ⟨f5, e5, _⟩ := Rd.field Try.underlying36 h hf 5 5 1 rfl (by kernel_rfl) (Rd.num Try.underlying3)
  simp only [List.drop_succ_cons, List.drop_zero, List.take_succ_cons, List.take_zero, List.cons.injEq, and_true] at e5
  obtain ⟨f6, e6, _⟩ := Rd.field Try.underlying36 h hf 6 6 1 rfl (by kernel_rfl) (Rd.num Try.underlying3)
  simp only [List.drop_succ_cons, List.drop_zero, List.take_succ_cons, List.take_zero, List.cons.injEq, and_true] at e6
  obtain ⟨f7, e7, _⟩ := Rd.field Try.underlying36 h hf 7 7 1 rfl (by kernel_rfl) (Rd.num Try.underlying3)
  simp only [List.drop_succ_cons, List.drop_zero, List.take_succ_cons, List.take_zero, List.cons.injEq, and_true] at e7
  obtain ⟨nm, e8, _⟩ := Rd.field Try.underlying36 h hf 8 8 1 rfl (by kernel_rfl) (Rd.text Try.underlying9)
  simp only [List.drop_succ_cons, List.drop_zero, List.take_succ_cons, List.take_zero, List.cons.injEq, and_true] at e8
  obtain ⟨tx, e9, _⟩ := Rd.field Try.underlying36 h hf 9 9 1 rfl (by kernel_rfl) (Rd.text Try.underlying9)
  simp only [List.drop_succ_cons, List.drop_zero, List.take_succ_cons, List.take_zero, List.cons.injEq, and_true] at e9
  obtain ⟨er, e10, _⟩ := Rd.field Try.underlying36 h hf 10 10 1 rfl (by kernel_rfl) (Rd.num Try.underlying34)
  simp only [List.drop_succ_cons, List.drop_zero, List.take_succ_cons, List.take_zero, List.cons.injEq, and_true] at e10
  obtain ⟨dn, e11, _⟩ := Rd.field Try.underlying36 h hf 11 11 1 rfl (by kernel_rfl) (Rd.bool Try.underlying4)
  simp only [List.drop_succ_cons, List.drop_zero, List.take_succ_cons, List.take_zero, List.cons.injEq, and_true] at e11
  subst e0
  subst e1
  subst e2
  subst e3
  subst e4
  subst e5
  subst e6
  subst e7
  subst e8
  subst e9
  subst e10
  subst e11
  exact ⟨⟨f0, f1, f2, f3, f4, f5, f6, f7, nm, tx, er, dn⟩, rfl, trivial⟩

end Go.Proofs.Ytahpokcigdjilaa

