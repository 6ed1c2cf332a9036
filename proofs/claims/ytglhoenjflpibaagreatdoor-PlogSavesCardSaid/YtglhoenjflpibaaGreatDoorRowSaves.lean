/- PlogSaves holds: for every argument the law returns true, and the arguments read as before. -/
import Derived.Test.YtglhoenjflpibaaGreatDoorRows
import Derived.Test.YtglhoenjflpibaaGreatDoorCards
import Derived.Test.YtglhoenjflpibaaGreatDoorTie
import Derived.SevenTiedAt
import Derived.Test.YtglhoenjflpibaaGreatDoorSav5
import Derived.KernelRfl
import Derived.Deep.DeepHandedRow
import Derived.LaidMore
namespace Go.Proofs.YtglhoenjflpibaaGreatDoor.plogSavesRow
open Go Go.Sp Go.ChangeShapes Go.WideShapes Go.ChangeAt Go.RowKit Go.Proofs.YtglhoenjflpibaaGreatDoor
set_option linter.unusedVariables false

theorem own : ownKnob Tryz.prog.godebug = none := by kernel_rfl
theorem laidOut : laidOutB Tryz.prog = true := by kernel_rfl
theorem vt : Rows.plogSavesSpec.plain.varTypes Tryz.prog = [] := by kernel_rfl
set_option maxRecDepth 100000 in
theorem contract (H : Type) (enc : TypeId × Value → H) (W : World) (base : Nat) (args : Array Value) (ds gs : List (DataW H)) (before : List MemPlace)
    (hval0 : ∀ (j : Nat) t v, Tryz.f6.params[j]? = some t → args[j]? = some v → Value.okWide Tryz.prog W .any base t v)
    (hW : DataW.Whole enc Tryz.prog Tryz.f6.params.toList Rows.plogSavesSpec.vars false W args.toList ds gs before)
    (hsz0 : (DataW.weightsEach Tryz.prog (Tryz.f6.params.toList ++ Rows.plogSavesSpec.plain.varTypes Tryz.prog) (ds ++ gs)).all (· ≤ reachBytes) = true) (hL : laidMetH Tryz.prog Rows.plogSavesRow.laid W) (hSh : W.ShapedOpen Tryz.prog) :
    Calls Tryz.prog 6 args W fun e W' => ∃ v, e = .returned v ∧ Rows.plogSavesSpec.post enc Tryz.prog Tryz.f6 false true false false W args v W' := by
  have hsz : ∀ n ∈ DataW.weightsEach Tryz.prog (Tryz.f6.params.toList ++ Rows.plogSavesSpec.plain.varTypes Tryz.prog) (ds ++ gs), n ≤ 140737488351232 := fun n hn => by have h := List.all_eq_true.1 hsz0 n hn; exact (of_decide_eq_true h : n ≤ reachBytes)
  have hval : ∀ (j : Nat) t v, Tryz.f6.params[j]? = some t → args[j]? = some v → Value.okWide Tryz.prog W .any base t v := hval0
  have hW' := hW
  obtain ⟨p, q, hA0, hV, rfl, hfz, hnd⟩ := hW
  have hA : DataW.TrodAll enc Tryz.prog W 0 (fun _ => true) true Tryz.f6.params.toList args.toList ds p := hA0
  rw [Tryz.params6] at hA hval hsz
  obtain ⟨v0, vs0, d0, ds0, p0, q0, hargs, rfl, rfl, h0, r0⟩ := trodAll_cons hA
  obtain ⟨v1, vs1, d1, ds1, p1, q1, rfl, rfl, rfl, h1, r1⟩ := trodAll_cons r0
  obtain ⟨v2, vs2, d2, ds2, p2, q2, rfl, rfl, rfl, h2, r2⟩ := trodAll_cons r1
  obtain ⟨v3, vs3, d3, ds3, p3, q3, rfl, rfl, rfl, h3, r3⟩ := trodAll_cons r2
  obtain ⟨rfl, rfl, rfl⟩ := trodAll_nil r3
  obtain rfl : args = #[v0, v1, v2, v3] := by cases args; simp_all
  obtain ⟨rfl, rfl⟩ := trodVars_none hV
  have k0 := h0
  have lt0 : ∀ x ∈ p0, x.block < W.heap.size := by obtain ⟨m, hm⟩ := k0; exact DataW.trod_lt m _ _ _ hm
  have fit0 : Fits Tryz.prog 3 d0 := fun n hn => hsz n (weightsEach_mem (i := 0) hn rfl rfl)
  obtain ⟨a0, rfl, rfl, rfl, w0⟩ := open_int Tryz.underlying3 (hval 0 3 v0 rfl rfl) h0
  have k1 := h1
  have lt1 : ∀ x ∈ p1, x.block < W.heap.size := by obtain ⟨m, hm⟩ := k1; exact DataW.trod_lt m _ _ _ hm
  have fit1 : Fits Tryz.prog 22 d1 := fun n hn => hsz n (weightsEach_mem (i := 1) hn rfl rfl)
  obtain ⟨a1, len1, cap1, rfl⟩ := okWide_slice Tryz.underlying22 (hval 1 22 v1 rfl rfl)
  obtain ⟨fuel1, hf1⟩ := h1
  have k2 := h2
  have lt2 : ∀ x ∈ p2, x.block < W.heap.size := by obtain ⟨m, hm⟩ := k2; exact DataW.trod_lt m _ _ _ hm
  have fit2 : Fits Tryz.prog 3 d2 := fun n hn => hsz n (weightsEach_mem (i := 2) hn rfl rfl)
  obtain ⟨a2, rfl, rfl, rfl, w2⟩ := open_int Tryz.underlying3 (hval 2 3 v2 rfl rfl) h2
  have k3 := h3
  have lt3 : ∀ x ∈ p3, x.block < W.heap.size := by obtain ⟨m, hm⟩ := k3; exact DataW.trod_lt m _ _ _ hm
  have fit3 : Fits Tryz.prog 22 d3 := fun n hn => hsz n (weightsEach_mem (i := 3) hn rfl rfl)
  obtain ⟨a3, len3, cap3, rfl⟩ := okWide_slice Tryz.underlying22 (hval 3 22 v3 rfl rfl)
  obtain ⟨fuel3, hf3⟩ := h3
  obtain ⟨⟨a1', c1', l1⟩, hcs1, hrow1, hgood1, hlen1, _, hcap1⟩ := Rd.slice (enc := enc) (s := 1) (by_ := 8) Tryz.underlying22 (by kernel_rfl) (by decide) (by kernel_rfl) icI_len icI_ones (Rd.num Tryz.underlying3) fuel1 _ _ hf1 fit1
  simp [Value.cells] at hcs1
  obtain ⟨rfl, rfl, rfl⟩ := hcs1
  have hm1 : l1.length ≤ 140737488351232 := by have : l1.length * 8 ≤ 140737488351232 := hlen1; omega
  obtain ⟨⟨a3', c3', l3⟩, hcs3, hrow3, hgood3, hlen3, _, hcap3⟩ := Rd.slice (enc := enc) (s := 1) (by_ := 8) Tryz.underlying22 (by kernel_rfl) (by decide) (by kernel_rfl) icI_len icI_ones (Rd.num Tryz.underlying3) fuel3 _ _ hf3 fit3
  simp [Value.cells] at hcs3
  obtain ⟨rfl, rfl, rfl⟩ := hcs3
  have hm3 : l3.length ≤ 140737488351232 := by have : l3.length * 8 ≤ 140737488351232 := hlen3; omega
  have key := Cn.lawK (W := W) (PlogSaves_ok a0 a1 l1 cap1 a2 a3 l3 cap3 (i64_wf w0) hgood1 hm1 (i64_wf w2) hcap3 hgood3 hm3) (fun w hw => ⟨LV.later hw (LV_of hL hSh), RowAt.later hw hrow1, RowAt.later hw hrow3⟩)
  refine key.mono fun e W' ⟨he, bel⟩ => ?_
  subst he
  exact ⟨_, rfl, _, _, _, [], _, [], hW', trodAll_mk1 (shut_bool Tryz.underlying4 _), (trodAll_cons_mk (Below.trod laidOut (by kernel_rfl) (of_decide_eq_true (by kernel_rfl)) k0 bel lt0) (trodAll_cons_mk (Below.trod laidOut (by kernel_rfl) (of_decide_eq_true (by kernel_rfl)) k1 bel lt1) (trodAll_cons_mk (Below.trod laidOut (by kernel_rfl) (of_decide_eq_true (by kernel_rfl)) k2 bel lt2) (trodAll_cons_mk (Below.trod laidOut (by kernel_rfl) (of_decide_eq_true (by kernel_rfl)) k3 bel lt3) trodAll_mk0)))), rfl, bel.frame _, fun h => by cases h⟩


/-- A world in which the listed variables hold what their initialisers lay. -/
def firstCells : Array Value := (Go.Pinned.utf8FirstZ.map fun (n : Nat) => Value.int .u8 n).toArray
noncomputable def laidWorld (os : Os) : World := { World.doorLaid Tryz.prog 72 os with heap := (World.doorLaid Tryz.prog 72 os).heap.modify 0 fun
    | .cells _ t fz => .cells firstCells t fz
    | o => o }
theorem laid_met (os : Os) : laidMet Tryz.prog Rows.plogSavesRow.laid ((laidWorld os).forCall (fun _ _ => 0) ⟨#[], #[.int .i64 0, .slice none 0 0, .int .i64 0, .slice none 0 0], []⟩).memory := laidMet_of_run' 8 (by kernel_rfl) (by kernel_rfl)
theorem reads (os : Os) {H : Type} (enc : TypeId × Value → H) : ∃ places, DataW.whole enc Tryz.prog ((laidWorld os).forCall (fun _ _ => 0) ⟨#[], #[.int .i64 0, .slice none 0 0, .int .i64 0, .slice none 0 0], []⟩).memory Tryz.f6.params.toList Rows.plogSavesSpec.vars false (#[.int .i64 0, .slice none 0 0, .int .i64 0, .slice none 0 0] : Array Value).toList 8 = some ([.lit (.int .i64 0), .nil, .lit (.int .i64 0), .nil], [], places) := ⟨[], by kernel_rfl⟩

set_option maxRecDepth 100000 in
theorem lifted (os : Os) (started : os.Started) (H : Type) (enc : TypeId × Value → H) (F : Stop.Interp) :
    ReturnsInHanded {} Tryz.checked os 6 .any ((OpenSpec.ofChange Rows.plogSavesSpec).preRow enc Tryz.prog Tryz.f6 Rows.plogSavesRow.domain false Rows.plogSavesRow.laid) (((OpenSpec.ofChange Rows.plogSavesSpec).at F).post enc Tryz.prog Tryz.f6 false true false false) := by
  obtain ⟨places, hx⟩ := reads os enc
  refine returnsInHanded_of_row (C := Tryz.checked) (s := OpenSpec.ofChange Rows.plogSavesSpec) own started (by kernel_rfl) Tryz.func6
    (witness_row_at (enc := enc) (C := Tryz.checked) false (laidWorld os) #[.int .i64 0, .slice none 0 0, .int .i64 0, .slice none 0 0] rfl (by kernel_rfl) (by kernel_rfl) (by kernel_rfl)
      (OpenSpec.preRow_of_cond 8 hx (by kernel_rfl) (fun k hk => by cases hk) (by kernel_rfl) (laid_met os))) ?_
  intro W base args ds gs before hval hW _ _ hsz hL hSh _
  exact contract H enc W base args ds gs before hval hW hsz hL hSh

theorem over : Rows.plogSavesRow.holds Tryz.pinned (OpenSpec.ofChange Rows.plogSavesSpec) :=
  OpenClaim.holds_of_cond 6 Tryz.f6 rfl rfl rfl rfl rfl rfl rfl ⟨rfl, rfl, rfl, rfl, rfl⟩ rfl rfl rfl rfl rfl (by kernel_rfl) Tryz.func6 (by kernel_rfl)
    (of_decide_eq_true (by kernel_rfl)) (by unfold Func.isWrapper; first | (rw [if_pos (by decide +kernel)]; kernel_rfl) | (rw [if_neg (by decide +kernel)]; exact ⟨rfl, rfl⟩))
    (fun os started H enc _ F => by rw [OpenClaim.pre_eq_preRow]; exact lifted os started H enc F)
end Go.Proofs.YtglhoenjflpibaaGreatDoor.plogSavesRow
namespace Go.Proofs.YtglhoenjflpibaaGreatDoor
/-- The card: the row, its listed variables tied to the program's text. -/
theorem plogSaves_holds : Rows.PlogSavesCardSaid :=
  Claim7.holds_tied_plain_at .later [] _ _ _ _ plogSavesRow.over (fun _ h => by cases h) (by kernel_rfl) (fun _ h => by cases h) plogSaves_row_tie rfl ⟨rfl, rfl⟩ (by kernel_rfl) rfl
    (fun f fn hf hfn => by
      obtain rfl : f = 6 := Option.some.inj ((show Tryz.prog.funcNamed Rows.plogSavesRow.func = some 6 by kernel_rfl).symm.trans hf) |>.symm
      obtain rfl : fn = Tryz.f6 := (Option.some.inj (Tryz.func6.symm.trans hfn)).symm
      refine ⟨by kernel_rfl, fun j t ht => ?_⟩
      rw [Tryz.params6] at ht
      have ht2 := Array.mem_of_getElem? ht
      simp at ht2
      have h9 : ∀ t ∈ [3, 22], Tryz.prog.wantsStandIn t = false := fun t ht => by
        simp at ht
        rcases ht with rfl | rfl
        · exact (show Tryz.prog.wantsStandIn 3 = false by kernel_rfl)
        · exact (show Tryz.prog.wantsStandIn 22 = false by kernel_rfl)
      rcases ht2 with rfl | rfl | rfl | rfl
      · exact h9 _ (by simp)
      · exact h9 _ (by simp)
      · exact h9 _ (by simp)
      · exact h9 _ (by simp))
    (by kernel_rfl)
end Go.Proofs.YtglhoenjflpibaaGreatDoor

