/- Steps through functions of the program, under conditions that each theorem states (part read3 of a claim). -/
import Derived.Test.YtllpkagplfmlbaaProg
import Derived.Test.YtllpkagplfmlbaaL10
import Derived.Test.YtllpkagplfmlbaaL14
import Derived.Test.YtllpkagplfmlbaaDefs3j
import Derived.KernelRfl
namespace Go.Proofs.Ytllpkagplfmlbaa
open Go Go.Sp

set_option linter.unusedVariables false

namespace read3

end read3
open read3



theorem i64_wf {n : Int} (h : (Lit.int .i64 n).wf = true) : i64 n := by simpa [i64, Lit.wf, IntKind.min, IntKind.max, IntKind.signed, IntKind.bits] using h
theorem Rd.num {H : Type} {enc : TypeId × Value → H} {P : Program} {W : World} {spare : Nat → Bool} {held : Bool} {t} (ht : P.underlying t = some (.int .i64)) : Rd enc P W spare held t (fun n : Int => [.int .i64 n]) i64 := fun n cs x h hf => by
  obtain ⟨m, e, hm⟩ := Rd.int ht n cs x h hf
  exact ⟨m, e, i64_wf hm⟩
theorem Rd.text {H : Type} {enc : TypeId × Value → H} {P : Program} {W : World} {spare : Nat → Bool} {held : Bool} {t} (ht : P.underlying t = some .string) : Rd enc P W spare held t (fun s : List UInt8 => [.string (str s)]) (fun s => s.length ≤ 140737488351232) := fun n cs x h hf => by
  obtain ⟨s, e, hs⟩ := Rd.string ht n cs x h hf
  refine ⟨s.data.toList, ?_, ?_⟩
  · show cs = [Value.string (str s.data.toList)]; rw [str_data]; exact e
  · show s.data.toList.length ≤ _; rw [← str_size, str_data]; exact hs
theorem icell_ones (n : Int) : ones (icell n) := .of rfl

theorem rd65 {H : Type} {enc : TypeId × Value → H} {W : World} {spare : Nat → Bool} {held : Bool} : Rd enc Try.prog W spare held 65 Rec.cells (fun r => i64 r.time ∧ r.key.length ≤ 140737488351232 ∧ r.value.length ≤ 140737488351232) := by
  intro n cs x h hf
  have hl : cs.length = 3 := (Rd.structLen Try.underlying65 h).trans (by kernel_rfl)
  obtain ⟨c0, cs0, rfl, hl0⟩ := cons_of_len hl
  obtain ⟨c1, cs1, rfl, hl1⟩ := cons_of_len hl0
  obtain ⟨c2, cs2, rfl, hl2⟩ := cons_of_len hl1
  obtain rfl : cs2 = [] := List.eq_nil_of_length_eq_zero hl2
  obtain ⟨k, e0, w0⟩ := Rd.field Try.underlying65 h hf 0 0 1 rfl (by kernel_rfl) (Rd.text Try.underlying9)
  simp only [List.drop_zero, List.take_succ_cons, List.take_zero, List.cons.injEq, and_true] at e0
  obtain ⟨v, e1, w1⟩ := Rd.field Try.underlying65 h hf 1 1 1 rfl (by kernel_rfl) (Rd.text Try.underlying9)
  simp only [List.drop_succ_cons, List.drop_zero, List.take_succ_cons, List.take_zero, List.cons.injEq, and_true] at e1
  obtain ⟨t, e2, w2⟩ := Rd.field Try.underlying65 h hf 2 2 1 rfl (by kernel_rfl) (Rd.num Try.underlying3)
  simp only [List.drop_succ_cons, List.drop_zero, List.take_succ_cons, List.take_zero, List.cons.injEq, and_true] at e2
  subst e0
  subst e1
  subst e2
  exact ⟨⟨k, v, t⟩, rfl, w2, w0, w1⟩

theorem rd27 {H : Type} {enc : TypeId × Value → H} {W : World} {spare : Nat → Bool} {held : Bool} : Rd enc Try.prog W spare held 27 (fun y : Bat × Option Addr × Nat => y.1.cells y.2.1 y.2.2) (fun y => RowAt y.2.1 (y.1.recs.flatMap Rec.cells) W ∧ y.1.fits) := by
  intro n cs x h hf
  have hl : cs.length = 6 := (Rd.structLen Try.underlying27 h).trans (by kernel_rfl)
  obtain ⟨c0, cs0, rfl, hl0⟩ := cons_of_len hl
  obtain ⟨c1, cs1, rfl, hl1⟩ := cons_of_len hl0
  obtain ⟨c2, cs2, rfl, hl2⟩ := cons_of_len hl1
  obtain ⟨c3, cs3, rfl, hl3⟩ := cons_of_len hl2
  obtain ⟨c4, cs4, rfl, hl4⟩ := cons_of_len hl3
  obtain ⟨c5, cs5, rfl, hl5⟩ := cons_of_len hl4
  obtain rfl : cs5 = [] := List.eq_nil_of_length_eq_zero hl5
  obtain ⟨f0, e0, w0⟩ := Rd.field Try.underlying27 h hf 0 0 1 rfl (by kernel_rfl) (Rd.num Try.underlying3)
  simp only [List.drop_zero, List.take_succ_cons, List.take_zero, List.cons.injEq, and_true] at e0
  obtain ⟨f1, e1, w1⟩ := Rd.field Try.underlying27 h hf 1 1 1 rfl (by kernel_rfl) (Rd.num Try.underlying3)
  simp only [List.drop_succ_cons, List.drop_zero, List.take_succ_cons, List.take_zero, List.cons.injEq, and_true] at e1
  obtain ⟨f2, e2, w2⟩ := Rd.field Try.underlying27 h hf 2 2 1 rfl (by kernel_rfl) (Rd.num Try.underlying3)
  simp only [List.drop_succ_cons, List.drop_zero, List.take_succ_cons, List.take_zero, List.cons.injEq, and_true] at e2
  obtain ⟨f3, e3, w3⟩ := Rd.field Try.underlying27 h hf 3 3 1 rfl (by kernel_rfl) (Rd.num Try.underlying3)
  simp only [List.drop_succ_cons, List.drop_zero, List.take_succ_cons, List.take_zero, List.cons.injEq, and_true] at e3
  obtain ⟨f4, e4, w4⟩ := Rd.field Try.underlying27 h hf 4 4 1 rfl (by kernel_rfl) (Rd.num Try.underlying3)
  simp only [List.drop_succ_cons, List.drop_zero, List.take_succ_cons, List.take_zero, List.cons.injEq, and_true] at e4
  obtain ⟨⟨ra, rc, rl⟩, e5, hr, hg, hb, _, _⟩ := Rd.field Try.underlying27 h hf 5 5 1 rfl (by kernel_rfl) (Rd.slice (s := 3) (by_ := 40) Try.underlying25 (by kernel_rfl) (by decide) (by kernel_rfl) Rec.cells_len Rec.cells_ones rd65)
  simp only [List.drop_succ_cons, List.drop_zero, List.take_succ_cons, List.take_zero, List.cons.injEq, and_true] at e5
  subst e0
  subst e1
  subst e2
  subst e3
  subst e4
  subst e5
  exact ⟨(⟨f0, f1, f2, f3, f4, rl⟩, ra, rc), rfl, hr, ⟨w0, w1, w2, w3, w4, fun r h => (hg r h).1, fun r h => (hg r h).2.1, fun r h => (hg r h).2.2, hb⟩⟩

theorem rd39 {H : Type} {enc : TypeId × Value → H} {W : World} {spare : Nat → Bool} {held : Bool} : Rd enc Try.prog W spare held 39 (fun y : Met × Option Addr × Nat => y.1.cells y.2.1 y.2.2) (fun y => RowAt y.2.1 (y.1.list.flatMap icell) W ∧ y.1.fits) := by
  intro n cs x h hf
  have hl : cs.length = 8 := (Rd.structLen Try.underlying39 h).trans (by kernel_rfl)
  obtain ⟨c0, cs0, rfl, hl0⟩ := cons_of_len hl
  obtain ⟨c1, cs1, rfl, hl1⟩ := cons_of_len hl0
  obtain ⟨c2, cs2, rfl, hl2⟩ := cons_of_len hl1
  obtain ⟨c3, cs3, rfl, hl3⟩ := cons_of_len hl2
  obtain ⟨c4, cs4, rfl, hl4⟩ := cons_of_len hl3
  obtain ⟨c5, cs5, rfl, hl5⟩ := cons_of_len hl4
  obtain ⟨c6, cs6, rfl, hl6⟩ := cons_of_len hl5
  obtain ⟨c7, cs7, rfl, hl7⟩ := cons_of_len hl6
  obtain rfl : cs7 = [] := List.eq_nil_of_length_eq_zero hl7
  obtain ⟨f0, e0, w0⟩ := Rd.field Try.underlying39 h hf 0 0 1 rfl (by kernel_rfl) (Rd.num Try.underlying3)
  simp only [List.drop_zero, List.take_succ_cons, List.take_zero, List.cons.injEq, and_true] at e0
  obtain ⟨f1, e1, w1⟩ := Rd.field Try.underlying39 h hf 1 1 1 rfl (by kernel_rfl) (Rd.num Try.underlying3)
  simp only [List.drop_succ_cons, List.drop_zero, List.take_succ_cons, List.take_zero, List.cons.injEq, and_true] at e1
  obtain ⟨f2, e2, w2⟩ := Rd.field Try.underlying39 h hf 2 2 1 rfl (by kernel_rfl) (Rd.num Try.underlying3)
  simp only [List.drop_succ_cons, List.drop_zero, List.take_succ_cons, List.take_zero, List.cons.injEq, and_true] at e2
  obtain ⟨f3, e3, w3⟩ := Rd.field Try.underlying39 h hf 3 3 1 rfl (by kernel_rfl) (Rd.num Try.underlying3)
  simp only [List.drop_succ_cons, List.drop_zero, List.take_succ_cons, List.take_zero, List.cons.injEq, and_true] at e3
  obtain ⟨f4, e4, w4⟩ := Rd.field Try.underlying39 h hf 4 4 1 rfl (by kernel_rfl) (Rd.num Try.underlying3)
  simp only [List.drop_succ_cons, List.drop_zero, List.take_succ_cons, List.take_zero, List.cons.injEq, and_true] at e4
  obtain ⟨nm, e5, w5⟩ := Rd.field Try.underlying39 h hf 5 5 1 rfl (by kernel_rfl) (Rd.text Try.underlying9)
  simp only [List.drop_succ_cons, List.drop_zero, List.take_succ_cons, List.take_zero, List.cons.injEq, and_true] at e5
  obtain ⟨tx, e6, w6⟩ := Rd.field Try.underlying39 h hf 6 6 1 rfl (by kernel_rfl) (Rd.text Try.underlying9)
  simp only [List.drop_succ_cons, List.drop_zero, List.take_succ_cons, List.take_zero, List.cons.injEq, and_true] at e6
  obtain ⟨⟨ra, rc, rl⟩, e7, hr, hg, hb, _, _⟩ := Rd.field Try.underlying39 h hf 7 7 1 rfl (by kernel_rfl) (Rd.slice (s := 1) (by_ := 8) Try.underlying37 (by kernel_rfl) (by decide) (by kernel_rfl) icell_len icell_ones (Rd.num Try.underlying3))
  simp only [List.drop_succ_cons, List.drop_zero, List.take_succ_cons, List.take_zero, List.cons.injEq, and_true] at e7
  subst e0
  subst e1
  subst e2
  subst e3
  subst e4
  subst e5
  subst e6
  subst e7
  exact ⟨(⟨f0, f1, f2, f3, f4, nm, tx, rl⟩, ra, rc), rfl, hr, ⟨w0, w1, w2, w3, w4, w5, w6, hg, hb⟩⟩

end Go.Proofs.Ytllpkagplfmlbaa

