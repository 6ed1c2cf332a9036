/- Steps through functions of the program, under conditions that each theorem states (part net17 of a claim). -/
import Derived.Test.YtfbmbhajpmlffaaProg
import Derived.Test.YtfbmbhajpmlffaaL10
import Derived.Test.YtfbmbhajpmlffaaDefs
import Derived.Test.YtfbmbhajpmlffaaNet16
import Derived.KernelRfl
namespace Go.Proofs.Ytfbmbhajpmlffaa
open Go Go.Sp

set_option linter.unusedVariables false

namespace net17

end net17
open net17



theorem rd76 {H : Type} {enc : TypeId × Value → H} {W : World} {spare : Nat → Bool} {held : Bool} : Rd enc Try.prog W spare held 76 Rec.cells (fun _ => True) := by
  intro n cs x h hf
  have hl : cs.length = 3 := (Rd.structLen Try.underlying76 h).trans (by kernel_rfl)
  obtain ⟨c0, cs0, rfl, hl0⟩ := cons_of_len hl
  obtain ⟨c1, cs1, rfl, hl1⟩ := cons_of_len hl0
  obtain ⟨c2, cs2, rfl, hl2⟩ := cons_of_len hl1
  obtain rfl : cs2 = [] := List.eq_nil_of_length_eq_zero hl2
  obtain ⟨k, e0, _⟩ := Rd.field Try.underlying76 h hf 0 0 1 rfl (by kernel_rfl) (Rd.string Try.underlying9)
  simp only [List.drop_zero, List.take_succ_cons, List.take_zero, List.cons.injEq, and_true] at e0
  obtain ⟨v, e1, _⟩ := Rd.field Try.underlying76 h hf 1 1 1 rfl (by kernel_rfl) (Rd.string Try.underlying9)
  simp only [List.drop_succ_cons, List.drop_zero, List.take_succ_cons, List.take_zero, List.cons.injEq, and_true] at e1
  obtain ⟨t, e2, _⟩ := Rd.field Try.underlying76 h hf 2 2 1 rfl (by kernel_rfl) (Rd.int Try.underlying3)
  simp only [List.drop_succ_cons, List.drop_zero, List.take_succ_cons, List.take_zero, List.cons.injEq, and_true] at e2
  subst e0
  subst e1
  subst e2
  exact ⟨⟨k, v, t⟩, rfl, trivial⟩

theorem rd67 {H : Type} {enc : TypeId × Value → H} {W : World} {spare : Nat → Bool} {held : Bool} : Rd enc Try.prog W spare held 67 Entry.cells (fun _ => True) := by
  intro n cs x h hf
  have hl : cs.length = 3 := (Rd.structLen Try.underlying67 h).trans (by kernel_rfl)
  obtain ⟨c0, cs0, rfl, hl0⟩ := cons_of_len hl
  obtain ⟨c1, cs1, rfl, hl1⟩ := cons_of_len hl0
  obtain ⟨c2, cs2, rfl, hl2⟩ := cons_of_len hl1
  obtain rfl : cs2 = [] := List.eq_nil_of_length_eq_zero hl2
  obtain ⟨k, e0, _⟩ := Rd.field Try.underlying67 h hf 0 0 1 rfl (by kernel_rfl) (Rd.int Try.underlying3)
  simp only [List.drop_zero, List.take_succ_cons, List.take_zero, List.cons.injEq, and_true] at e0
  obtain ⟨v, e1, _⟩ := Rd.field Try.underlying67 h hf 1 1 1 rfl (by kernel_rfl) (Rd.int Try.underlying3)
  simp only [List.drop_succ_cons, List.drop_zero, List.take_succ_cons, List.take_zero, List.cons.injEq, and_true] at e1
  obtain ⟨t, e2, _⟩ := Rd.field Try.underlying67 h hf 2 2 1 rfl (by kernel_rfl) (Rd.string Try.underlying9)
  simp only [List.drop_succ_cons, List.drop_zero, List.take_succ_cons, List.take_zero, List.cons.injEq, and_true] at e2
  subst e0
  subst e1
  subst e2
  exact ⟨⟨k, v, t⟩, rfl, trivial⟩

theorem rd65 {H : Type} {enc : TypeId × Value → H} {W : World} {spare : Nat → Bool} {held : Bool} : Rd enc Try.prog W spare held 65 bcell (fun y => RowAt y.2.1 (y.1.records.flatMap Rec.cells) W ∧ y.1.records.length * 40 ≤ 140737488355328) := by
  intro n cs x h hf
  have hl : cs.length = 6 := (Rd.structLen Try.underlying65 h).trans (by kernel_rfl)
  obtain ⟨c0, cs0, rfl, hl0⟩ := cons_of_len hl
  obtain ⟨c1, cs1, rfl, hl1⟩ := cons_of_len hl0
  obtain ⟨c2, cs2, rfl, hl2⟩ := cons_of_len hl1
  obtain ⟨c3, cs3, rfl, hl3⟩ := cons_of_len hl2
  obtain ⟨c4, cs4, rfl, hl4⟩ := cons_of_len hl3
  obtain ⟨c5, cs5, rfl, hl5⟩ := cons_of_len hl4
  obtain rfl : cs5 = [] := List.eq_nil_of_length_eq_zero hl5
  obtain ⟨f0, e0, _⟩ := Rd.field Try.underlying65 h hf 0 0 1 rfl (by kernel_rfl) (Rd.int Try.underlying3)
  simp only [List.drop_zero, List.take_succ_cons, List.take_zero, List.cons.injEq, and_true] at e0
  obtain ⟨f1, e1, _⟩ := Rd.field Try.underlying65 h hf 1 1 1 rfl (by kernel_rfl) (Rd.int Try.underlying3)
  simp only [List.drop_succ_cons, List.drop_zero, List.take_succ_cons, List.take_zero, List.cons.injEq, and_true] at e1
  obtain ⟨f2, e2, _⟩ := Rd.field Try.underlying65 h hf 2 2 1 rfl (by kernel_rfl) (Rd.int Try.underlying3)
  simp only [List.drop_succ_cons, List.drop_zero, List.take_succ_cons, List.take_zero, List.cons.injEq, and_true] at e2
  obtain ⟨f3, e3, _⟩ := Rd.field Try.underlying65 h hf 3 3 1 rfl (by kernel_rfl) (Rd.int Try.underlying3)
  simp only [List.drop_succ_cons, List.drop_zero, List.take_succ_cons, List.take_zero, List.cons.injEq, and_true] at e3
  obtain ⟨f4, e4, _⟩ := Rd.field Try.underlying65 h hf 4 4 1 rfl (by kernel_rfl) (Rd.int Try.underlying3)
  simp only [List.drop_succ_cons, List.drop_zero, List.take_succ_cons, List.take_zero, List.cons.injEq, and_true] at e4
  obtain ⟨⟨ra, rc, rl⟩, e5, hr, _, hb, _, _⟩ := Rd.field Try.underlying65 h hf 5 5 1 rfl (by kernel_rfl) (Rd.slice (s := 3) (by_ := 40) Try.underlying63 (by kernel_rfl) (by decide) (by kernel_rfl) Rec.cells_len Rec.cells_ones rd76)
  simp only [List.drop_succ_cons, List.drop_zero, List.take_succ_cons, List.take_zero, List.cons.injEq, and_true] at e5
  subst e0
  subst e1
  subst e2
  subst e3
  subst e4
  subst e5
  exact ⟨(⟨f0, f1, f2, f3, f4, rl⟩, ra, rc), rfl, hr, by have : rl.length * 40 ≤ 140737488351232 := hb; show rl.length * 40 ≤ _; omega⟩

theorem rd32 {H : Type} {enc : TypeId × Value → H} {W : World} {spare : Nat → Bool} {held : Bool} : Rd enc Try.prog W spare held 32 pcell (fun p => mat p.1 p.2 W ∧ p.1.ok) := by
  intro n cs x h hf
  have hl : cs.length = 21 := (Rd.structLen Try.underlying32 h).trans (by kernel_rfl)
  obtain ⟨c0, cs0, rfl, hl0⟩ := cons_of_len hl
  obtain ⟨c1, cs1, rfl, hl1⟩ := cons_of_len hl0
  obtain ⟨c2, cs2, rfl, hl2⟩ := cons_of_len hl1
  obtain ⟨c3, cs3, rfl, hl3⟩ := cons_of_len hl2
  obtain ⟨c4, cs4, rfl, hl4⟩ := cons_of_len hl3
  obtain ⟨c5, cs5, rfl, hl5⟩ := cons_of_len hl4
  obtain ⟨c6, cs6, rfl, hl6⟩ := cons_of_len hl5
  obtain ⟨c7, cs7, rfl, hl7⟩ := cons_of_len hl6
  obtain ⟨c8, cs8, rfl, hl8⟩ := cons_of_len hl7
  obtain ⟨c9, cs9, rfl, hl9⟩ := cons_of_len hl8
  obtain ⟨c10, cs10, rfl, hl10⟩ := cons_of_len hl9
  obtain ⟨c11, cs11, rfl, hl11⟩ := cons_of_len hl10
  obtain ⟨c12, cs12, rfl, hl12⟩ := cons_of_len hl11
  obtain ⟨c13, cs13, rfl, hl13⟩ := cons_of_len hl12
  obtain ⟨c14, cs14, rfl, hl14⟩ := cons_of_len hl13
  obtain ⟨c15, cs15, rfl, hl15⟩ := cons_of_len hl14
  obtain ⟨c16, cs16, rfl, hl16⟩ := cons_of_len hl15
  obtain ⟨c17, cs17, rfl, hl17⟩ := cons_of_len hl16
  obtain ⟨c18, cs18, rfl, hl18⟩ := cons_of_len hl17
  obtain ⟨c19, cs19, rfl, hl19⟩ := cons_of_len hl18
  obtain ⟨c20, cs20, rfl, hl20⟩ := cons_of_len hl19
  obtain rfl : cs20 = [] := List.eq_nil_of_length_eq_zero hl20
  obtain ⟨f0, e0, _⟩ := Rd.field Try.underlying32 h hf 0 0 1 rfl (by kernel_rfl) (Rd.int Try.underlying3)
  simp only [List.drop_zero, List.take_succ_cons, List.take_zero, List.cons.injEq, and_true] at e0
  obtain ⟨f1, e1, _⟩ := Rd.field Try.underlying32 h hf 1 1 1 rfl (by kernel_rfl) (Rd.int Try.underlying3)
  simp only [List.drop_succ_cons, List.drop_zero, List.take_succ_cons, List.take_zero, List.cons.injEq, and_true] at e1
  obtain ⟨f2, e2, _⟩ := Rd.field Try.underlying32 h hf 2 2 1 rfl (by kernel_rfl) (Rd.int Try.underlying3)
  simp only [List.drop_succ_cons, List.drop_zero, List.take_succ_cons, List.take_zero, List.cons.injEq, and_true] at e2
  obtain ⟨f3, e3, _⟩ := Rd.field Try.underlying32 h hf 3 3 1 rfl (by kernel_rfl) (Rd.int Try.underlying3)
  simp only [List.drop_succ_cons, List.drop_zero, List.take_succ_cons, List.take_zero, List.cons.injEq, and_true] at e3
  obtain ⟨f4, e4, _⟩ := Rd.field Try.underlying32 h hf 4 4 1 rfl (by kernel_rfl) (Rd.int Try.underlying3)
  simp only [List.drop_succ_cons, List.drop_zero, List.take_succ_cons, List.take_zero, List.cons.injEq, and_true] at e4
  obtain ⟨f5, e5, _⟩ := Rd.field Try.underlying32 h hf 5 5 1 rfl (by kernel_rfl) (Rd.int Try.underlying3)
  simp only [List.drop_succ_cons, List.drop_zero, List.take_succ_cons, List.take_zero, List.cons.injEq, and_true] at e5
  obtain ⟨f6, e6, _⟩ := Rd.field Try.underlying32 h hf 6 6 1 rfl (by kernel_rfl) (Rd.int Try.underlying3)
  simp only [List.drop_succ_cons, List.drop_zero, List.take_succ_cons, List.take_zero, List.cons.injEq, and_true] at e6
  obtain ⟨f7, e7, _⟩ := Rd.field Try.underlying32 h hf 7 7 1 rfl (by kernel_rfl) (Rd.int Try.underlying3)
  simp only [List.drop_succ_cons, List.drop_zero, List.take_succ_cons, List.take_zero, List.cons.injEq, and_true] at e7
  obtain ⟨f8, e8, _⟩ := Rd.field Try.underlying32 h hf 8 8 1 rfl (by kernel_rfl) (Rd.int Try.underlying3)
  simp only [List.drop_succ_cons, List.drop_zero, List.take_succ_cons, List.take_zero, List.cons.injEq, and_true] at e8
  obtain ⟨f9, e9, _⟩ := Rd.field Try.underlying32 h hf 9 9 1 rfl (by kernel_rfl) (Rd.int Try.underlying3)
  simp only [List.drop_succ_cons, List.drop_zero, List.take_succ_cons, List.take_zero, List.cons.injEq, and_true] at e9
  obtain ⟨f10, e10, _⟩ := Rd.field Try.underlying32 h hf 10 10 1 rfl (by kernel_rfl) (Rd.int Try.underlying3)
  simp only [List.drop_succ_cons, List.drop_zero, List.take_succ_cons, List.take_zero, List.cons.injEq, and_true] at e10
  obtain ⟨f11, e11, _⟩ := Rd.field Try.underlying32 h hf 11 11 1 rfl (by kernel_rfl) (Rd.int Try.underlying3)
  simp only [List.drop_succ_cons, List.drop_zero, List.take_succ_cons, List.take_zero, List.cons.injEq, and_true] at e11
  obtain ⟨f12, e12, _⟩ := Rd.field Try.underlying32 h hf 12 12 1 rfl (by kernel_rfl) (Rd.int Try.underlying3)
  simp only [List.drop_succ_cons, List.drop_zero, List.take_succ_cons, List.take_zero, List.cons.injEq, and_true] at e12
  obtain ⟨f13, e13, _⟩ := Rd.field Try.underlying32 h hf 13 13 1 rfl (by kernel_rfl) (Rd.int Try.underlying3)
  simp only [List.drop_succ_cons, List.drop_zero, List.take_succ_cons, List.take_zero, List.cons.injEq, and_true] at e13
  obtain ⟨f14, e14, _⟩ := Rd.field Try.underlying32 h hf 14 14 1 rfl (by kernel_rfl) (Rd.int Try.underlying3)
  simp only [List.drop_succ_cons, List.drop_zero, List.take_succ_cons, List.take_zero, List.cons.injEq, and_true] at e14
  obtain ⟨f15, e15, _⟩ := Rd.field Try.underlying32 h hf 15 15 1 rfl (by kernel_rfl) (Rd.int Try.underlying3)
  simp only [List.drop_succ_cons, List.drop_zero, List.take_succ_cons, List.take_zero, List.cons.injEq, and_true] at e15
  obtain ⟨nm, e16, _⟩ := Rd.field Try.underlying32 h hf 16 16 1 rfl (by kernel_rfl) (Rd.string Try.underlying9)
  simp only [List.drop_succ_cons, List.drop_zero, List.take_succ_cons, List.take_zero, List.cons.injEq, and_true] at e16
  obtain ⟨tx, e17, _⟩ := Rd.field Try.underlying32 h hf 17 17 1 rfl (by kernel_rfl) (Rd.string Try.underlying9)
  simp only [List.drop_succ_cons, List.drop_zero, List.take_succ_cons, List.take_zero, List.cons.injEq, and_true] at e17
  obtain ⟨⟨ba, bc, bl⟩, e18, hb1, hb2, hb3, _, _⟩ := Rd.field Try.underlying32 h hf 18 18 1 rfl (by kernel_rfl) (Rd.slice (s := 6) (by_ := 64) Try.underlying29 (by kernel_rfl) (by decide) (by kernel_rfl) bcell_len bcell_ones rd65)
  simp only [List.drop_succ_cons, List.drop_zero, List.take_succ_cons, List.take_zero, List.cons.injEq, and_true] at e18
  obtain ⟨⟨ea, ec, el⟩, e19, he1, _, he3, _, _⟩ := Rd.field Try.underlying32 h hf 19 19 1 rfl (by kernel_rfl) (Rd.slice (s := 3) (by_ := 32) Try.underlying30 (by kernel_rfl) (by decide) (by kernel_rfl) Entry.cells_len Entry.cells_ones rd67)
  simp only [List.drop_succ_cons, List.drop_zero, List.take_succ_cons, List.take_zero, List.cons.injEq, and_true] at e19
  obtain ⟨⟨ia, ic, il⟩, e20, hi1, _, hi3, _, _⟩ := Rd.field Try.underlying32 h hf 20 20 1 rfl (by kernel_rfl) (Rd.slice (s := 1) (by_ := 8) Try.underlying22 (by kernel_rfl) (by decide) (by kernel_rfl) icell_len icell_ones (Rd.int Try.underlying3))
  simp only [List.drop_succ_cons, List.drop_zero, List.take_succ_cons, List.take_zero, List.cons.injEq, and_true] at e20
  subst e0
  subst e1
  subst e2
  subst e3
  subst e4
  subst e5
  subst e6
  subst e7
  subst e8
  subst e9
  subst e10
  subst e11
  subst e12
  subst e13
  subst e14
  subst e15
  subst e16
  subst e17
  subst e18
  subst e19
  subst e20
  refine ⟨(⟨⟨f0, f1, f2, f3, f4, f5, f6, f7, f8, f9, f10, f11, f12, f13, f14, f15, nm, tx⟩, bl.map (·.1), el, il⟩, ⟨ba, bc, ea, ec, ia, ic, bl.map (·.2)⟩), ?_, ?_, ?_⟩
  · simp only [pcell, mval, mcells, List.length_map]
  · have hz : (bl.map (·.1)).zip (bl.map (·.2)) = bl := by rw [List.zip_map']; simp
    refine ⟨by simp, ?_, he1, hi1, ?_⟩
    · show RowAt ba (((bl.map (·.1)).zip (bl.map (·.2))).flatMap bcell) W; rw [hz]; exact hb1
    · intro x hx
      have hx' : x ∈ (bl.map (·.1)).zip (bl.map (·.2)) := hx
      rw [hz] at hx'; exact (hb2 x hx').1
  · refine ⟨?_, ?_, ?_, ?_⟩
    · show (bl.map (·.1)).length * 64 ≤ _; rw [List.length_map]; show bl.length * 64 ≤ _; have : bl.length * 64 ≤ 140737488351232 := hb3; omega
    · show el.length * 32 ≤ _; have : el.length * 32 ≤ 140737488351232 := he3; omega
    · show il.length * 8 ≤ _; have : il.length * 8 ≤ 140737488351232 := hi3; omega
    · intro x hx
      obtain ⟨y, hy, rfl⟩ := List.mem_map.1 hx
      exact (hb2 y hy).2

theorem i64_wf {n : Int} (h : (Lit.int .i64 n).wf = true) : i64 n := by simpa [i64, Lit.wf, IntKind.min, IntKind.max, IntKind.signed, IntKind.bits] using h
theorem mat.later {m s} {W w : World} (H : ∀ (b : Nat) (o : Obj), W.heap[b]? = some o → w.heap[b]? = some o) (h : mat m s W) : mat m s w :=
  ⟨h.len, h.b.later H, h.e.later H, h.i.later H, fun x hx => (h.r x hx).later H⟩

theorem rd47 {H : Type} {enc : TypeId × Value → H} {W : World} {spare : Nat → Bool} {held : Bool} : Rd enc Try.prog W spare held 47 opc (fun o => o.ok ∧ mat o.m o.s W ∧ o.m.ok) := by
  intro n cs x h hf
  have hl : cs.length = 24 := (Rd.structLen Try.underlying47 h).trans (by kernel_rfl)
  obtain ⟨c0, cs0, rfl, hl0⟩ := cons_of_len hl
  obtain ⟨c1, cs1, rfl, hl1⟩ := cons_of_len hl0
  obtain ⟨c2, cs2, rfl, hl2⟩ := cons_of_len hl1
  obtain ⟨c3, cs3, rfl, hl3⟩ := cons_of_len hl2
  obtain ⟨c4, cs4, rfl, hl4⟩ := cons_of_len hl3
  obtain ⟨c5, cs5, rfl, hl5⟩ := cons_of_len hl4
  obtain ⟨c6, cs6, rfl, hl6⟩ := cons_of_len hl5
  obtain ⟨c7, cs7, rfl, hl7⟩ := cons_of_len hl6
  obtain ⟨c8, cs8, rfl, hl8⟩ := cons_of_len hl7
  obtain ⟨c9, cs9, rfl, hl9⟩ := cons_of_len hl8
  obtain ⟨c10, cs10, rfl, hl10⟩ := cons_of_len hl9
  obtain ⟨c11, cs11, rfl, hl11⟩ := cons_of_len hl10
  obtain ⟨c12, cs12, rfl, hl12⟩ := cons_of_len hl11
  obtain ⟨c13, cs13, rfl, hl13⟩ := cons_of_len hl12
  obtain ⟨c14, cs14, rfl, hl14⟩ := cons_of_len hl13
  obtain ⟨c15, cs15, rfl, hl15⟩ := cons_of_len hl14
  obtain ⟨c16, cs16, rfl, hl16⟩ := cons_of_len hl15
  obtain ⟨c17, cs17, rfl, hl17⟩ := cons_of_len hl16
  obtain ⟨c18, cs18, rfl, hl18⟩ := cons_of_len hl17
  obtain ⟨c19, cs19, rfl, hl19⟩ := cons_of_len hl18
  obtain ⟨c20, cs20, rfl, hl20⟩ := cons_of_len hl19
  obtain ⟨c21, cs21, rfl, hl21⟩ := cons_of_len hl20
  obtain ⟨c22, cs22, rfl, hl22⟩ := cons_of_len hl21
  obtain ⟨c23, cs23, rfl, hl23⟩ := cons_of_len hl22
  obtain rfl : cs23 = [] := List.eq_nil_of_length_eq_zero hl23
  obtain ⟨k, e0, w0⟩ := Rd.field Try.underlying47 h hf 0 0 1 rfl (by kernel_rfl) (Rd.int Try.underlying3)
  simp only [List.drop_zero, List.take_succ_cons, List.take_zero, List.cons.injEq, and_true] at e0
  obtain ⟨a, e1, w1⟩ := Rd.field Try.underlying47 h hf 1 1 1 rfl (by kernel_rfl) (Rd.int Try.underlying3)
  simp only [List.drop_succ_cons, List.drop_zero, List.take_succ_cons, List.take_zero, List.cons.injEq, and_true] at e1
  obtain ⟨b, e2, w2⟩ := Rd.field Try.underlying47 h hf 2 2 1 rfl (by kernel_rfl) (Rd.int Try.underlying3)
  simp only [List.drop_succ_cons, List.drop_zero, List.take_succ_cons, List.take_zero, List.cons.injEq, and_true] at e2
  obtain ⟨⟨m, s⟩, e3, hm, hok⟩ := Rd.field Try.underlying47 h hf 3 3 21 rfl (by kernel_rfl) rd32
  simp only [List.drop_succ_cons, List.drop_zero, List.take_succ_cons, List.take_zero] at e3
  subst e0
  subst e1
  subst e2
  exact ⟨⟨k, a, b, m, s⟩, by show _ = _ :: _ :: _ :: mval m s; rw [show mval m s = pcell (m, s) from rfl, ← e3], ⟨i64_wf w0, i64_wf w1, i64_wf w2⟩, hm, hok⟩

end Go.Proofs.Ytfbmbhajpmlffaa

