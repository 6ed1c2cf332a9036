/- RpcTorn holds: for every argument the law returns true, and the arguments read as before. -/
import Derived.Test.YtllpkagplfmlbaaRows
import Derived.Test.YtllpkagplfmlbaaPart7
import Derived.KernelRfl
namespace Go.Proofs.Ytllpkagplfmlbaa.rpcTornRow
open Go Go.Sp Go.ChangeShapes Go.WideShapes Go.ChangeAt Go.RowKit Go.Proofs.Ytllpkagplfmlbaa
set_option linter.unusedVariables false

theorem own : ownKnob Try.prog.godebug = none := by kernel_rfl
theorem laidOut : laidOutB Try.prog = true := by kernel_rfl
theorem vt : Rows.rpcTornSpec.plain.varTypes Try.prog = [] := by kernel_rfl
set_option maxRecDepth 100000 in
theorem lifted (os : Os) (started : os.Started) (H : Type) (enc : TypeId × Value → H) :
    ReturnsInHanded {} Try.checked os 12 .any (Rows.rpcTornSpec.pre6 enc Try.prog Try.f12 Rows.rpcTornRow.domain false) (Rows.rpcTornSpec.post enc Try.prog Try.f12 false true false false) := by
  refine returnsInHanded_of_change_sized (C := Try.checked) own started (by kernel_rfl) Try.func12
    (ChangeSpec.witness6 (enc := enc) (C := Try.checked) false ⟨#[], #[.agg #[.int .i64 0, .int .i64 0, .int .i64 0, .int .i64 0, .int .i64 0, .int .i64 0, .int .i64 0, .int .i64 0, .int .i64 0, .int .i64 0, .int .i64 0, .int .i64 0, .int .i64 0, .int .i64 0, .int .i64 0, .int .i64 0, .string ⟨#[]⟩, .string ⟨#[]⟩, .slice none 0 0, .slice none 0 0, .slice none 0 0], .int .i64 0, .int .u8 0, .string ⟨#[]⟩], []⟩ 8 (by kernel_rfl) (by kernel_rfl) (by kernel_rfl) (by kernel_rfl)) ?_
  intro W base args ds gs before hval0 hW hcnd hsz0 _
  have hsz : ∀ n ∈ DataW.weightsEach Try.prog (Try.f12.params.toList ++ Rows.rpcTornSpec.plain.varTypes Try.prog) (ds ++ gs), n ≤ 140737488351232 := fun n hn => by have h := List.all_eq_true.1 hsz0 n hn; exact (of_decide_eq_true h : n ≤ reachBytes)
  have hval : ∀ (j : Nat) t v, Try.f12.params[j]? = some t → args[j]? = some v → Value.okWide Try.prog W .any base t v := hval0
  have hW' := hW
  obtain ⟨p, q, hA0, hV, rfl, hfz, hnd⟩ := hW
  have hA : DataW.TrodAll enc Try.prog W 0 (fun _ => true) true Try.f12.params.toList args.toList ds p := hA0
  rw [Try.params12] at hA hval hsz
  obtain ⟨v0, vs0, d0, ds0, p0, q0, hargs, rfl, rfl, h0, r0⟩ := trodAll_cons hA
  obtain ⟨v1, vs1, d1, ds1, p1, q1, rfl, rfl, rfl, h1, r1⟩ := trodAll_cons r0
  obtain ⟨v2, vs2, d2, ds2, p2, q2, rfl, rfl, rfl, h2, r2⟩ := trodAll_cons r1
  obtain ⟨v3, vs3, d3, ds3, p3, q3, rfl, rfl, rfl, h3, r3⟩ := trodAll_cons r2
  obtain ⟨rfl, rfl, rfl⟩ := trodAll_nil r3
  obtain rfl : args = #[v0, v1, v2, v3] := by cases args; simp_all
  obtain ⟨rfl, rfl⟩ := trodVars_none hV
  have k0 := h0
  have lt0 : ∀ x ∈ p0, x.block < W.heap.size := by obtain ⟨m, hm⟩ := k0; exact DataW.trod_lt m _ _ _ hm
  have fit0 : Fits Try.prog 54 d0 := fun n hn => hsz n (weightsEach_mem (i := 0) hn rfl rfl)
  obtain ⟨cs0, rfl⟩ := okWide_agg Try.underlying54 (hval 0 54 v0 rfl rfl)
  obtain ⟨fuel0, hf0⟩ := h0
  have k1 := h1
  have lt1 : ∀ x ∈ p1, x.block < W.heap.size := by obtain ⟨m, hm⟩ := k1; exact DataW.trod_lt m _ _ _ hm
  have fit1 : Fits Try.prog 3 d1 := fun n hn => hsz n (weightsEach_mem (i := 1) hn rfl rfl)
  obtain ⟨a1, rfl, rfl, rfl, w1⟩ := open_int Try.underlying3 (hval 1 3 v1 rfl rfl) h1
  have k2 := h2
  have lt2 : ∀ x ∈ p2, x.block < W.heap.size := by obtain ⟨m, hm⟩ := k2; exact DataW.trod_lt m _ _ _ hm
  have fit2 : Fits Try.prog 5 d2 := fun n hn => hsz n (weightsEach_mem (i := 2) hn rfl rfl)
  obtain ⟨a2, rfl, rfl, rfl, w2⟩ := open_int Try.underlying5 (hval 2 5 v2 rfl rfl) h2
  have k3 := h3
  have lt3 : ∀ x ∈ p3, x.block < W.heap.size := by obtain ⟨m, hm⟩ := k3; exact DataW.trod_lt m _ _ _ hm
  have fit3 : Fits Try.prog 9 d3 := fun n hn => hsz n (weightsEach_mem (i := 3) hn rfl rfl)
  obtain ⟨a3, rfl, rfl, rfl, y3⟩ := Go.ChangeMaps.open_string Try.underlying9 (hval 3 9 v3 rfl rfl) h3
  have w3 : a3.size ≤ 140737488351232 := by have := fit3 a3.data.toList.length (by simp [DataW.weights]); simpa using this
  obtain ⟨m, hcs0, hat0, hfits0⟩ := rd54 fuel0 _ _ hf0 fit0
  obtain rfl : cs0 = (MsgM.cells m).toArray := by
    have h1 : cs0.toList = MsgM.cells m := hcs0
    rw [← h1]
  obtain ⟨y, rfl⟩ : ∃ y : UInt8, a2 = (y.toNat : Int) := by
    have h2 : 0 ≤ a2 ∧ a2 ≤ 255 := by simpa [Lit.wf, IntKind.min, IntKind.max, IntKind.signed, IntKind.bits] using w2
    exact ⟨UInt8.ofNat a2.toNat, by rw [toNat_ofNat8 (by omega)]; omega⟩
  obtain ⟨l, rfl⟩ : ∃ l, a3 = str l := ⟨a3.data.toList, (str_data a3).symm⟩
  have hl : l.length ≤ 140737488351232 := by have := w3; rw [str_size] at this; omega
  have key := Cn.law (W := W) (RpcTorn_ok m a1 y l hfits0 (i64_wf w1) hl) (fun w hw => ⟨RowAt.later hw hat0.1, fun y hy => RowAt.later hw (hat0.2.1 y hy), RowAt.later hw hat0.2.2.1, RowAt.later hw hat0.2.2.2⟩)
  refine key.mono fun e W' ⟨he, bel⟩ => ?_
  subst he
  exact ⟨_, rfl, _, _, _, [], _, [], hW', trodAll_mk1 (shut_bool Try.underlying4 _), (trodAll_cons_mk (Below.trod laidOut (by kernel_rfl) (of_decide_eq_true (by kernel_rfl)) k0 bel lt0) (trodAll_cons_mk (Below.trod laidOut (by kernel_rfl) (of_decide_eq_true (by kernel_rfl)) k1 bel lt1) (trodAll_cons_mk (Below.trod laidOut (by kernel_rfl) (of_decide_eq_true (by kernel_rfl)) k2 bel lt2) (trodAll_cons_mk (Below.trod laidOut (by kernel_rfl) (of_decide_eq_true (by kernel_rfl)) k3 bel lt3) trodAll_mk0)))), rfl, bel.frame _, fun h => by cases h⟩

theorem over : Rows.rpcTornRow.holds Try.pinned (OpenSpec.ofChange Rows.rpcTornSpec) :=
  OpenClaim.holds_of_wide 12 Try.f12 rfl rfl rfl rfl rfl rfl rfl ⟨rfl, rfl, rfl, rfl, rfl⟩ rfl rfl rfl rfl rfl (by kernel_rfl) Try.func12 (by kernel_rfl)
    (of_decide_eq_true (by kernel_rfl)) (by unfold Func.isWrapper; first | (rw [if_pos (by decide +kernel)]; kernel_rfl) | (rw [if_neg (by decide +kernel)]; exact ⟨rfl, rfl⟩))
    (fun os started H enc _ => lifted os started H enc)
end Go.Proofs.Ytllpkagplfmlbaa.rpcTornRow
namespace Go.Proofs.Ytllpkagplfmlbaa
/-- The statement. -/
theorem rpcTorn_holds : Rows.RpcTornSaid := rpcTornRow.over
end Go.Proofs.Ytllpkagplfmlbaa

