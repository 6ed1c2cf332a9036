/- RpcBack holds: for every argument the law returns true, and the arguments read as before. -/
import Derived.Test.YtllpkagplfmlbaaRows
import Derived.Test.YtllpkagplfmlbaaPart7
import Derived.KernelRfl
namespace Go.Proofs.Ytllpkagplfmlbaa.rpcBackRow
open Go Go.Sp Go.ChangeShapes Go.WideShapes Go.ChangeAt Go.RowKit Go.Proofs.Ytllpkagplfmlbaa
set_option linter.unusedVariables false

theorem own : ownKnob Try.prog.godebug = none := by kernel_rfl
theorem laidOut : laidOutB Try.prog = true := by kernel_rfl
theorem vt : Rows.rpcBackSpec.plain.varTypes Try.prog = [] := by kernel_rfl
set_option maxRecDepth 100000 in
theorem lifted (os : Os) (started : os.Started) (H : Type) (enc : TypeId × Value → H) :
    ReturnsInHanded {} Try.checked os 11 .any (Rows.rpcBackSpec.pre6 enc Try.prog Try.f11 Rows.rpcBackRow.domain false) (Rows.rpcBackSpec.post enc Try.prog Try.f11 false true false false) := by
  refine returnsInHanded_of_change_sized (C := Try.checked) own started (by kernel_rfl) Try.func11
    (ChangeSpec.witness6 (enc := enc) (C := Try.checked) false ⟨#[], #[.agg #[.int .i64 0, .int .i64 0, .int .i64 0, .int .i64 0, .int .i64 0, .int .i64 0, .int .i64 0, .int .i64 0, .int .i64 0, .int .i64 0, .int .i64 0, .int .i64 0, .int .i64 0, .int .i64 0, .int .i64 0, .int .i64 0, .string ⟨#[]⟩, .string ⟨#[]⟩, .slice none 0 0, .slice none 0 0, .slice none 0 0], .agg #[.int .i64 0, .int .i64 0, .int .i64 0, .int .i64 0, .int .i64 0, .int .i64 0, .int .i64 0, .int .i64 0, .int .i64 0, .int .i64 0, .int .i64 0, .int .i64 0, .int .i64 0, .int .i64 0, .int .i64 0, .int .i64 0, .string ⟨#[]⟩, .string ⟨#[]⟩, .slice none 0 0, .slice none 0 0, .slice none 0 0]], []⟩ 8 (by kernel_rfl) (by kernel_rfl) (by kernel_rfl) (by kernel_rfl)) ?_
  intro W base args ds gs before hval0 hW hcnd hsz0 _
  have hsz : ∀ n ∈ DataW.weightsEach Try.prog (Try.f11.params.toList ++ Rows.rpcBackSpec.plain.varTypes Try.prog) (ds ++ gs), n ≤ 140737488351232 := fun n hn => by have h := List.all_eq_true.1 hsz0 n hn; exact (of_decide_eq_true h : n ≤ reachBytes)
  have hval : ∀ (j : Nat) t v, Try.f11.params[j]? = some t → args[j]? = some v → Value.okWide Try.prog W .any base t v := hval0
  have hW' := hW
  obtain ⟨p, q, hA0, hV, rfl, hfz, hnd⟩ := hW
  have hA : DataW.TrodAll enc Try.prog W 0 (fun _ => true) true Try.f11.params.toList args.toList ds p := hA0
  rw [Try.params11] at hA hval hsz
  obtain ⟨v0, vs0, d0, ds0, p0, q0, hargs, rfl, rfl, h0, r0⟩ := trodAll_cons hA
  obtain ⟨v1, vs1, d1, ds1, p1, q1, rfl, rfl, rfl, h1, r1⟩ := trodAll_cons r0
  obtain ⟨rfl, rfl, rfl⟩ := trodAll_nil r1
  obtain rfl : args = #[v0, v1] := by cases args; simp_all
  obtain ⟨rfl, rfl⟩ := trodVars_none hV
  have k0 := h0
  have lt0 : ∀ x ∈ p0, x.block < W.heap.size := by obtain ⟨m, hm⟩ := k0; exact DataW.trod_lt m _ _ _ hm
  have fit0 : Fits Try.prog 54 d0 := fun n hn => hsz n (weightsEach_mem (i := 0) hn rfl rfl)
  obtain ⟨cs0, rfl⟩ := okWide_agg Try.underlying54 (hval 0 54 v0 rfl rfl)
  obtain ⟨fuel0, hf0⟩ := h0
  have k1 := h1
  have lt1 : ∀ x ∈ p1, x.block < W.heap.size := by obtain ⟨m, hm⟩ := k1; exact DataW.trod_lt m _ _ _ hm
  have fit1 : Fits Try.prog 54 d1 := fun n hn => hsz n (weightsEach_mem (i := 1) hn rfl rfl)
  obtain ⟨cs1, rfl⟩ := okWide_agg Try.underlying54 (hval 1 54 v1 rfl rfl)
  obtain ⟨fuel1, hf1⟩ := h1
  obtain ⟨m, hcs0, hat0, hfits0⟩ := rd54 fuel0 _ _ hf0 fit0
  obtain rfl : cs0 = (MsgM.cells m).toArray := by
    have h1 : cs0.toList = MsgM.cells m := hcs0
    rw [← h1]
  obtain ⟨kk, hcs1, hat1, hfits1⟩ := rd54 fuel1 _ _ hf1 fit1
  obtain rfl : cs1 = (MsgM.cells kk).toArray := by
    have h1 : cs1.toList = MsgM.cells kk := hcs1
    rw [← h1]
  have key := Cn.law (W := W) (RpcBack_ok m kk hfits0 hfits1) (fun w hw => ⟨⟨RowAt.later hw hat0.1, fun y hy => RowAt.later hw (hat0.2.1 y hy), RowAt.later hw hat0.2.2.1, RowAt.later hw hat0.2.2.2⟩, ⟨RowAt.later hw hat1.1, fun y hy => RowAt.later hw (hat1.2.1 y hy), RowAt.later hw hat1.2.2.1, RowAt.later hw hat1.2.2.2⟩⟩)
  refine key.mono fun e W' ⟨he, bel⟩ => ?_
  subst he
  exact ⟨_, rfl, _, _, _, [], _, [], hW', trodAll_mk1 (shut_bool Try.underlying4 _), (trodAll_cons_mk (Below.trod laidOut (by kernel_rfl) (of_decide_eq_true (by kernel_rfl)) k0 bel lt0) (trodAll_cons_mk (Below.trod laidOut (by kernel_rfl) (of_decide_eq_true (by kernel_rfl)) k1 bel lt1) trodAll_mk0)), rfl, bel.frame _, fun h => by cases h⟩

theorem over : Rows.rpcBackRow.holds Try.pinned (OpenSpec.ofChange Rows.rpcBackSpec) :=
  OpenClaim.holds_of_wide 11 Try.f11 rfl rfl rfl rfl rfl rfl rfl ⟨rfl, rfl, rfl, rfl, rfl⟩ rfl rfl rfl rfl rfl (by kernel_rfl) Try.func11 (by kernel_rfl)
    (of_decide_eq_true (by kernel_rfl)) (by unfold Func.isWrapper; first | (rw [if_pos (by decide +kernel)]; kernel_rfl) | (rw [if_neg (by decide +kernel)]; exact ⟨rfl, rfl⟩))
    (fun os started H enc _ => lifted os started H enc)
end Go.Proofs.Ytllpkagplfmlbaa.rpcBackRow
namespace Go.Proofs.Ytllpkagplfmlbaa
/-- The statement. -/
theorem rpcBack_holds : Rows.RpcBackSaid := rpcBackRow.over
end Go.Proofs.Ytllpkagplfmlbaa

