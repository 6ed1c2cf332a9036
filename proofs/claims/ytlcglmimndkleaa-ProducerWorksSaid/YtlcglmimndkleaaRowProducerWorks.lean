/- ProducerWorks holds: for every argument the law returns true, and the arguments read as before. -/
import Derived.Test.YtlcglmimndkleaaRows
import Derived.Test.YtlcglmimndkleaaWorks4
import Derived.Test.YtlcglmimndkleaaWorks3
import Derived.KernelRfl
namespace Go.Proofs.Ytlcglmimndkleaa.producerWorksRow
open Go Go.Sp Go.ChangeShapes Go.WideShapes Go.ChangeAt Go.RowKit Go.Proofs.Ytlcglmimndkleaa
set_option linter.unusedVariables false

theorem own : ownKnob Try.prog.godebug = none := by kernel_rfl
theorem laidOut : laidOutB Try.prog = true := by kernel_rfl
theorem vt : Rows.producerWorksSpec.plain.varTypes Try.prog = [] := by kernel_rfl
set_option maxRecDepth 100000 in
theorem lifted (os : Os) (started : os.Started) (H : Type) (enc : TypeId × Value → H) :
    ReturnsInHanded {} Try.checked os 4 .any (Rows.producerWorksSpec.pre6 enc Try.prog Try.f4 Rows.producerWorksRow.domain false) (Rows.producerWorksSpec.post enc Try.prog Try.f4 false true false false) := by
  refine returnsInHanded_of_change_sized (C := Try.checked) own started (by kernel_rfl) Try.func4
    (ChangeSpec.witness6 (enc := enc) (C := Try.checked) false ⟨#[], #[.int .i64 0, .slice none 0 0], []⟩ 8 (by kernel_rfl) (by kernel_rfl) (by kernel_rfl) (by kernel_rfl)) ?_
  intro W base args ds gs before hval0 hW hcnd hsz0 _
  have hsz : ∀ n ∈ DataW.weightsEach Try.prog (Try.f4.params.toList ++ Rows.producerWorksSpec.plain.varTypes Try.prog) (ds ++ gs), n ≤ 140737488351232 := fun n hn => by have h := List.all_eq_true.1 hsz0 n hn; exact (of_decide_eq_true h : n ≤ reachBytes)
  have hval : ∀ (j : Nat) t v, Try.f4.params[j]? = some t → args[j]? = some v → Value.okWide Try.prog W .any base t v := hval0
  have hW' := hW
  obtain ⟨p, q, hA0, hV, rfl, hfz, hnd⟩ := hW
  have hA : DataW.TrodAll enc Try.prog W 0 (fun _ => true) true Try.f4.params.toList args.toList ds p := hA0
  rw [Try.params4] at hA hval hsz
  obtain ⟨v0, vs0, d0, ds0, p0, q0, hargs, rfl, rfl, h0, r0⟩ := trodAll_cons hA
  obtain ⟨v1, vs1, d1, ds1, p1, q1, rfl, rfl, rfl, h1, r1⟩ := trodAll_cons r0
  obtain ⟨rfl, rfl, rfl⟩ := trodAll_nil r1
  obtain rfl : args = #[v0, v1] := by cases args; simp_all
  obtain ⟨rfl, rfl⟩ := trodVars_none hV
  have k0 := h0
  have lt0 : ∀ x ∈ p0, x.block < W.heap.size := by obtain ⟨m, hm⟩ := k0; exact DataW.trod_lt m _ _ _ hm
  have fit0 : Fits Try.prog 3 d0 := fun n hn => hsz n (weightsEach_mem (i := 0) hn rfl rfl)
  obtain ⟨a0, rfl, rfl, rfl, w0⟩ := open_int Try.underlying3 (hval 0 3 v0 rfl rfl) h0
  have k1 := h1
  have lt1 : ∀ x ∈ p1, x.block < W.heap.size := by obtain ⟨m, hm⟩ := k1; exact DataW.trod_lt m _ _ _ hm
  have fit1 : Fits Try.prog 28 d1 := fun n hn => hsz n (weightsEach_mem (i := 1) hn rfl rfl)
  obtain ⟨a1, len1, cap1, rfl⟩ := okWide_slice Try.underlying28 (hval 1 28 v1 rfl rfl)
  obtain ⟨fuel1, hf1⟩ := h1
  obtain ⟨⟨a, c, l⟩, hcs, hrow, hgood, hlen, hnil, _⟩ := Rd.slice (enc := enc) (s := 1) (by_ := 8) Try.underlying28 (by kernel_rfl) (by decide) (by kernel_rfl) icell_len icell_ones (Rd.num Try.underlying3) fuel1 _ _ hf1 fit1
  simp [Value.cells] at hcs
  obtain ⟨rfl, rfl, rfl⟩ := hcs
  have hl2 : l.length ≤ 140737488351232 := by have : l.length * 8 ≤ 140737488351232 := hlen; omega
  have key := Cn.law (W := W) (ProducerWorks_ok a0 a1 cap1 l (i64_wf w0) hl2) (fun w hw => RowAt.later hw hrow)
  refine key.mono fun e W' ⟨he, bel⟩ => ?_
  subst he
  exact ⟨_, rfl, _, _, _, [], _, [], hW', trodAll_mk1 (shut_bool Try.underlying4 _), (trodAll_cons_mk (Below.trod laidOut (by kernel_rfl) (of_decide_eq_true (by kernel_rfl)) k0 bel lt0) (trodAll_cons_mk (Below.trod laidOut (by kernel_rfl) (of_decide_eq_true (by kernel_rfl)) k1 bel lt1) trodAll_mk0)), rfl, bel.frame _, fun h => by cases h⟩

theorem over : Rows.producerWorksRow.holds Try.pinned (OpenSpec.ofChange Rows.producerWorksSpec) :=
  OpenClaim.holds_of_wide 4 Try.f4 rfl rfl rfl rfl rfl rfl rfl ⟨rfl, rfl, rfl, rfl, rfl⟩ rfl rfl rfl rfl rfl (by kernel_rfl) Try.func4 (by kernel_rfl)
    (of_decide_eq_true (by kernel_rfl)) (by unfold Func.isWrapper; first | (rw [if_pos (by decide +kernel)]; kernel_rfl) | (rw [if_neg (by decide +kernel)]; exact ⟨rfl, rfl⟩))
    (fun os started H enc _ => lifted os started H enc)
end Go.Proofs.Ytlcglmimndkleaa.producerWorksRow
namespace Go.Proofs.Ytlcglmimndkleaa
/-- The statement. -/
theorem producerWorks_holds : Rows.ProducerWorksSaid := producerWorksRow.over
end Go.Proofs.Ytlcglmimndkleaa

