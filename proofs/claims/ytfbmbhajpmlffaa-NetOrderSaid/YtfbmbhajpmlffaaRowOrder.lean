/- NetOrder holds: for every argument the law returns true, and the arguments read as before. -/
import Derived.Test.YtfbmbhajpmlffaaRows
import Derived.Test.YtfbmbhajpmlffaaNet15
import Derived.Test.YtfbmbhajpmlffaaL10
import Derived.KernelRfl
namespace Go.Proofs.Ytfbmbhajpmlffaa.netOrderRow
open Go Go.Sp Go.ChangeShapes Go.WideShapes Go.ChangeAt Go.RowKit Go.Proofs.Ytfbmbhajpmlffaa
set_option linter.unusedVariables false

theorem own : ownKnob Try.prog.godebug = none := by kernel_rfl
theorem laidOut : laidOutB Try.prog = true := by kernel_rfl
theorem vt : Rows.netOrderSpec.plain.varTypes Try.prog = [] := by kernel_rfl
set_option maxRecDepth 100000 in
theorem lifted (os : Os) (started : os.Started) (H : Type) (enc : TypeId × Value → H) :
    ReturnsInHanded {} Try.checked os 3 .any (Rows.netOrderSpec.pre6 enc Try.prog Try.f3 Rows.netOrderRow.domain false) (Rows.netOrderSpec.post enc Try.prog Try.f3 false true false false) := by
  refine returnsInHanded_of_change_sized (C := Try.checked) own started (by kernel_rfl) Try.func3
    (ChangeSpec.witness6 (enc := enc) (C := Try.checked) false ⟨#[], #[.int .i64 0, .slice none 0 0], []⟩ 8 (by kernel_rfl) (by kernel_rfl) (by kernel_rfl) (by kernel_rfl)) ?_
  intro W base args ds gs before hval0 hW hcnd hsz0 _
  have hsz : ∀ n ∈ DataW.weightsEach Try.prog (Try.f3.params.toList ++ Rows.netOrderSpec.plain.varTypes Try.prog) (ds ++ gs), n ≤ 140737488351232 := fun n hn => by have h := List.all_eq_true.1 hsz0 n hn; exact (of_decide_eq_true h : n ≤ reachBytes)
  have hval : ∀ (j : Nat) t v, Try.f3.params[j]? = some t → args[j]? = some v → Value.okWide Try.prog W .any base t v := hval0
  have hW' := hW
  obtain ⟨p, q, hA0, hV, rfl, hfz, hnd⟩ := hW
  have hA : DataW.TrodAll enc Try.prog W 0 (fun _ => true) true Try.f3.params.toList args.toList ds p := hA0
  rw [Try.params3] at hA hval hsz
  obtain ⟨v0, vs0, d0, ds0, p0, q0, hargs, rfl, rfl, h0, r0⟩ := trodAll_cons hA
  obtain ⟨v1, vs1, d1, ds1, p1, q1, rfl, rfl, rfl, h1, r1⟩ := trodAll_cons r0
  obtain ⟨rfl, rfl, rfl⟩ := trodAll_nil r1
  obtain rfl : args = #[v0, v1] := by cases args; simp_all
  obtain ⟨rfl, rfl⟩ := trodVars_none hV
  have k0 := h0
  have lt0 : ∀ x ∈ p0, x.block < W.heap.size := by obtain ⟨m, hm⟩ := k0; exact DataW.trod_lt m _ _ _ hm
  have fit0 : Fits Try.prog 3 d0 := fun n hn => hsz n (weightsEach_mem (i := 0) hn rfl rfl)
  obtain ⟨a0, rfl, rfl, rfl, w0⟩ := open_int Try.underlying3 (hval 0 3 v0 rfl rfl) h0
  have k1 := h1
  have lt1 : ∀ x ∈ p1, x.block < W.heap.size := by obtain ⟨m, hm⟩ := k1; exact DataW.trod_lt m _ _ _ hm
  have fit1 : Fits Try.prog 22 d1 := fun n hn => hsz n (weightsEach_mem (i := 1) hn rfl rfl)
  obtain ⟨a1, len1, cap1, rfl⟩ := okWide_slice Try.underlying22 (hval 1 22 v1 rfl rfl)
  obtain ⟨fuel1, hf1⟩ := h1
  obtain ⟨⟨a, c, l⟩, hcs, hrow, hgood, hlen, hnil, _⟩ := Rd.slice (enc := enc) (s := 1) (by_ := 8) Try.underlying22 (by kernel_rfl) (by decide) (by kernel_rfl) (fun n : Int => rfl) (fun n => ones.of rfl) (Rd.int Try.underlying3) fuel1 _ _ hf1 fit1
  simp [Value.cells] at hcs
  obtain ⟨rfl, rfl, rfl⟩ := hcs
  have hm : -9223372036854775808 ≤ a0 ∧ a0 ≤ 9223372036854775807 := by simpa [Lit.wf, IntKind.min, IntKind.max, IntKind.signed, IntKind.bits] using w0
  have key := Cn.law (W := W) (NetOrder_ok a0 hm.1 hm.2 a1 cap1 l (fun x hx => by simpa [Lit.wf, IntKind.min, IntKind.max, IntKind.signed, IntKind.bits] using hgood x hx)) (fun w hw => RowAt.later hw hrow)
  refine key.mono fun e W' ⟨he, bel⟩ => ?_
  subst he
  exact ⟨_, rfl, _, _, _, [], _, [], hW', trodAll_mk1 (shut_bool Try.underlying4 _), (trodAll_cons_mk (Below.trod laidOut (by kernel_rfl) (of_decide_eq_true (by kernel_rfl)) k0 bel lt0) (trodAll_cons_mk (Below.trod laidOut (by kernel_rfl) (of_decide_eq_true (by kernel_rfl)) k1 bel lt1) trodAll_mk0)), rfl, bel.frame _, fun h => by cases h⟩

theorem over : Rows.netOrderRow.holds Try.pinned (OpenSpec.ofChange Rows.netOrderSpec) :=
  OpenClaim.holds_of_wide 3 Try.f3 rfl rfl rfl rfl rfl rfl rfl ⟨rfl, rfl, rfl, rfl, rfl⟩ rfl rfl rfl rfl rfl (by kernel_rfl) Try.func3 (by kernel_rfl)
    (of_decide_eq_true (by kernel_rfl)) (by unfold Func.isWrapper; first | (rw [if_pos (by decide +kernel)]; kernel_rfl) | (rw [if_neg (by decide +kernel)]; exact ⟨rfl, rfl⟩))
    (fun os started H enc _ => lifted os started H enc)
end Go.Proofs.Ytfbmbhajpmlffaa.netOrderRow
namespace Go.Proofs.Ytfbmbhajpmlffaa
/-- The statement. -/
theorem netOrder_holds : Rows.NetOrderSaid := netOrderRow.over
end Go.Proofs.Ytfbmbhajpmlffaa

