/- ModelBegins holds: for every argument the law returns true, and the arguments read as before. -/
import Derived.Test.YtahpokcigdjilaaRows
import Derived.Test.YtahpokcigdjilaaMod13
import Derived.Test.YtahpokcigdjilaaRead22b
import Derived.Test.YtahpokcigdjilaaL10
import Derived.KernelRfl
namespace Go.Proofs.Ytahpokcigdjilaa.modelBeginsRow
open Go Go.Sp Go.ChangeShapes Go.WideShapes Go.ChangeAt Go.RowKit Go.Proofs.Ytahpokcigdjilaa
set_option linter.unusedVariables false

theorem own : ownKnob Try.prog.godebug = none := by kernel_rfl
theorem laidOut : laidOutB Try.prog = true := by kernel_rfl
theorem vt : Rows.modelBeginsSpec.plain.varTypes Try.prog = [] := by kernel_rfl
set_option maxRecDepth 100000 in
theorem lifted (os : Os) (started : os.Started) (H : Type) (enc : TypeId × Value → H) :
    ReturnsInHanded {} Try.checked os 7 .any (Rows.modelBeginsSpec.pre6 enc Try.prog Try.f7 Rows.modelBeginsRow.domain false) (Rows.modelBeginsSpec.post enc Try.prog Try.f7 false true false false) := by
  refine returnsInHanded_of_change_sized (C := Try.checked) own started (by kernel_rfl) Try.func7
    (ChangeSpec.witness6 (enc := enc) (C := Try.checked) false ⟨#[], #[.slice none 0 0, .slice none 0 0, .int .i64 0], []⟩ 8 (by kernel_rfl) (by kernel_rfl) (by kernel_rfl) (by kernel_rfl)) ?_
  intro W base args ds gs before hval0 hW hcnd hsz0 _
  have hsz : ∀ n ∈ DataW.weightsEach Try.prog (Try.f7.params.toList ++ Rows.modelBeginsSpec.plain.varTypes Try.prog) (ds ++ gs), n ≤ 140737488351232 := fun n hn => by have h := List.all_eq_true.1 hsz0 n hn; exact (of_decide_eq_true h : n ≤ reachBytes)
  have hval : ∀ (j : Nat) t v, Try.f7.params[j]? = some t → args[j]? = some v → Value.okWide Try.prog W .any base t v := hval0
  have hW' := hW
  obtain ⟨p, q, hA0, hV, rfl, hfz, hnd⟩ := hW
  have hA : DataW.TrodAll enc Try.prog W 0 (fun _ => true) true Try.f7.params.toList args.toList ds p := hA0
  rw [Try.params7] at hA hval hsz
  obtain ⟨v0, vs0, d0, ds0, p0, q0, hargs, rfl, rfl, h0, r0⟩ := trodAll_cons hA
  obtain ⟨v1, vs1, d1, ds1, p1, q1, rfl, rfl, rfl, h1, r1⟩ := trodAll_cons r0
  obtain ⟨v2, vs2, d2, ds2, p2, q2, rfl, rfl, rfl, h2, r2⟩ := trodAll_cons r1
  obtain ⟨rfl, rfl, rfl⟩ := trodAll_nil r2
  obtain rfl : args = #[v0, v1, v2] := by cases args; simp_all
  obtain ⟨rfl, rfl⟩ := trodVars_none hV
  have k0 := h0
  have lt0 : ∀ x ∈ p0, x.block < W.heap.size := by obtain ⟨m, hm⟩ := k0; exact DataW.trod_lt m _ _ _ hm
  have fit0 : Fits Try.prog 22 d0 := fun n hn => hsz n (weightsEach_mem (i := 0) hn rfl rfl)
  obtain ⟨a0, len0, cap0, rfl⟩ := okWide_slice Try.underlying22 (hval 0 22 v0 rfl rfl)
  obtain ⟨fuel0, hf0⟩ := h0
  have k1 := h1
  have lt1 : ∀ x ∈ p1, x.block < W.heap.size := by obtain ⟨m, hm⟩ := k1; exact DataW.trod_lt m _ _ _ hm
  have fit1 : Fits Try.prog 42 d1 := fun n hn => hsz n (weightsEach_mem (i := 1) hn rfl rfl)
  obtain ⟨a1, len1, cap1, rfl⟩ := okWide_slice Try.underlying42 (hval 1 42 v1 rfl rfl)
  obtain ⟨fuel1, hf1⟩ := h1
  have k2 := h2
  have lt2 : ∀ x ∈ p2, x.block < W.heap.size := by obtain ⟨m, hm⟩ := k2; exact DataW.trod_lt m _ _ _ hm
  have fit2 : Fits Try.prog 3 d2 := fun n hn => hsz n (weightsEach_mem (i := 2) hn rfl rfl)
  obtain ⟨a2, rfl, rfl, rfl, w2⟩ := open_int Try.underlying3 (hval 2 3 v2 rfl rfl) h2
  obtain ⟨⟨a, c, l⟩, hcs, hrow, _, hlen, _, hlc⟩ := Rd.slice (enc := enc) (s := 12) (by_ := 112) Try.underlying22 (by kernel_rfl) (by decide) (by kernel_rfl) Sn.cells_len Sn.cells_ones rd36 fuel0 _ _ hf0 fit0
  simp [Value.cells] at hcs
  obtain ⟨rfl, rfl, rfl⟩ := hcs
  have hl2 : l.length ≤ 140737488351232 := by have : l.length * 112 ≤ 140737488351232 := hlen; omega
  obtain ⟨⟨sa, sc, s⟩, hds, hsow, hgood, hslen, _, hsc⟩ := Rd.slice (enc := enc) (s := 9) (by_ := 136) Try.underlying42 (by kernel_rfl) (by decide) (by kernel_rfl) Pt.cells_len Pt.cells_ones rd64 fuel1 _ _ hf1 fit1
  simp [Value.cells] at hds
  obtain ⟨rfl, rfl, rfl⟩ := hds
  have hs2 : s.length ≤ 140737488351232 := by have : s.length * 136 ≤ 140737488351232 := hslen; omega
  have key := Cn.law (W := W) (ModelBegins_ok l a0 cap0 s a1 cap1 a2 (fun q h => (hgood q h).2) (i64_wf w2) hl2 hs2 hlc hsc) (fun w hw => ⟨RowAt.later hw hrow, RowAt.later hw hsow, fun q h => ⟨RowAt.later hw (hgood q h).1.1, RowAt.later hw (hgood q h).1.2.1, RowAt.later hw (hgood q h).1.2.2⟩⟩)
  refine key.mono fun e W' ⟨he, bel⟩ => ?_
  subst he
  exact ⟨_, rfl, _, _, _, [], _, [], hW', trodAll_mk1 (shut_bool Try.underlying4 _), (trodAll_cons_mk (Below.trod laidOut (by kernel_rfl) (of_decide_eq_true (by kernel_rfl)) k0 bel lt0) (trodAll_cons_mk (Below.trod laidOut (by kernel_rfl) (of_decide_eq_true (by kernel_rfl)) k1 bel lt1) (trodAll_cons_mk (Below.trod laidOut (by kernel_rfl) (of_decide_eq_true (by kernel_rfl)) k2 bel lt2) trodAll_mk0))), rfl, bel.frame _, fun h => by cases h⟩

theorem over : Rows.modelBeginsRow.holds Try.pinned (OpenSpec.ofChange Rows.modelBeginsSpec) :=
  OpenClaim.holds_of_wide 7 Try.f7 rfl rfl rfl rfl rfl rfl rfl ⟨rfl, rfl, rfl, rfl, rfl⟩ rfl rfl rfl rfl rfl (by kernel_rfl) Try.func7 (by kernel_rfl)
    (of_decide_eq_true (by kernel_rfl)) (by unfold Func.isWrapper; first | (rw [if_pos (by decide +kernel)]; kernel_rfl) | (rw [if_neg (by decide +kernel)]; exact ⟨rfl, rfl⟩))
    (fun os started H enc _ => lifted os started H enc)
end Go.Proofs.Ytahpokcigdjilaa.modelBeginsRow
namespace Go.Proofs.Ytahpokcigdjilaa
/-- The statement. -/
theorem modelBegins_holds : Rows.ModelBeginsSaid := modelBeginsRow.over
end Go.Proofs.Ytahpokcigdjilaa

