/- StoreEpochs holds: for every argument the law returns true, and the arguments read as before. -/
import Derived.Test.YtoglbebcdjdkiaaGreatDoorRows
import Derived.Test.YtoglbebcdjdkiaaGreatDoorCards
import Derived.Test.YtoglbebcdjdkiaaGreatDoorTie
import Derived.SevenTiedAt
import Derived.Test.YtoglbebcdjdkiaaGreatDoorEp5
import Derived.KernelRfl
import Derived.Deep.DeepHandedRow
import Derived.LaidMore
namespace Go.Proofs.YtoglbebcdjdkiaaGreatDoor.storeEpochsRow
open Go Go.Sp Go.ChangeShapes Go.WideShapes Go.ChangeAt Go.RowKit Go.Proofs.YtoglbebcdjdkiaaGreatDoor
set_option linter.unusedVariables false
theorem own : ownKnob Tryz.prog.godebug = none := by kernel_rfl
theorem laidOut : laidOutB Tryz.prog = true := by kernel_rfl
theorem vt : Rows.storeEpochsSpec.plain.varTypes Tryz.prog = [] := by kernel_rfl
set_option maxRecDepth 100000 in
theorem contract (H : Type) (enc : TypeId × Value → H) (W : World) (base : Nat) (args : Array Value) (ds gs : List (DataW H)) (before : List MemPlace)
  (hval0 : ∀ (j : Nat) t v, Tryz.f6.params[j]? = some t → args[j]? = some v → Value.okWide Tryz.prog W .any base t v)
  (hW : DataW.Whole enc Tryz.prog Tryz.f6.params.toList Rows.storeEpochsSpec.vars false W args.toList ds gs before)
  (hsz0 : (DataW.weightsEach Tryz.prog (Tryz.f6.params.toList ++ Rows.storeEpochsSpec.plain.varTypes Tryz.prog) (ds ++ gs)).all (· ≤ reachBytes) = true) (hL : laidMetH Tryz.prog Rows.storeEpochsRow.laid W) (hSh : W.ShapedOpen Tryz.prog) :
  Calls Tryz.prog 6 args W fun e W' => ∃ v, e = .returned v ∧ Rows.storeEpochsSpec.post enc Tryz.prog Tryz.f6 false true false false W args v W' := by
 have hsz : ∀ n ∈ DataW.weightsEach Tryz.prog (Tryz.f6.params.toList ++ Rows.storeEpochsSpec.plain.varTypes Tryz.prog) (ds ++ gs), n ≤ 140737488351232 := fun n hn => by have h := List.all_eq_true.1 hsz0 n hn; exact (of_decide_eq_true h : n ≤ reachBytes)
 have hval : ∀ (j : Nat) t v, Tryz.f6.params[j]? = some t → args[j]? = some v → Value.okWide Tryz.prog W .any base t v := hval0
 have hW' := hW
 obtain ⟨p, q, hA0, hV, rfl, hfz, hnd⟩ := hW
 have hA : DataW.TrodAll enc Tryz.prog W 0 (fun _ => true) true Tryz.f6.params.toList args.toList ds p := hA0
 rw [Tryz.params6] at hA hval hsz
 obtain ⟨v0, vs0, d0, ds0, p0, q0, hargs, rfl, rfl, h0, r0⟩ := trodAll_cons hA
 obtain ⟨v1, vs1, d1, ds1, p1, q1, rfl, rfl, rfl, h1, r1⟩ := trodAll_cons r0
 obtain ⟨rfl, rfl, rfl⟩ := trodAll_nil r1
 obtain rfl : args = #[v0, v1] := by cases args; simp_all
 obtain ⟨rfl, rfl⟩ := trodVars_none hV
 have k0 := h0
 have lt0 : ∀ x ∈ p0, x.block < W.heap.size := by obtain ⟨m, hm⟩ := k0; exact DataW.trod_lt m _ _ _ hm
 have fit0 : Fits Tryz.prog 22 d0 := fun n hn => hsz n (weightsEach_mem (i := 0) hn rfl rfl)
 obtain ⟨a0, len0, cap0, rfl⟩ := okWide_slice Tryz.underlying22 (hval 0 22 v0 rfl rfl)
 obtain ⟨fuel0, hf0⟩ := h0
 have k1 := h1
 have lt1 : ∀ x ∈ p1, x.block < W.heap.size := by obtain ⟨m, hm⟩ := k1; exact DataW.trod_lt m _ _ _ hm
 have fit1 : Fits Tryz.prog 3 d1 := fun n hn => hsz n (weightsEach_mem (i := 1) hn rfl rfl)
 obtain ⟨a1, rfl, rfl, rfl, w1⟩ := open_int Tryz.underlying3 (hval 1 3 v1 rfl rfl) h1
 obtain ⟨⟨a0', c0', l0⟩, hcs0, hrow0, hgood0, hlen0, _, hcap0⟩ := Rd.slice (enc := enc) (s := 7) (by_ := 72) Tryz.underlying22 (by kernel_rfl) (by decide) (by kernel_rfl) Ty.cells_len Ty.cells_ones rdTry fuel0 _ _ hf0 fit0
 simp [Value.cells] at hcs0
 obtain ⟨rfl, rfl, rfl⟩ := hcs0
 have hm0 : l0.length ≤ 140737488351232 := by have : l0.length * 72 ≤ 140737488351232 := hlen0; omega
 have key := Cn.law (W := W) (StoreEpochs_ok a0 l0 cap0 a1 (fun y hy => (hgood0 y hy).2) hm0 (i64_wf w1)) (fun w hw => ⟨LV.later hw (LV_of hL hSh), RowAt.later hw hrow0⟩)
 refine key.mono fun e W' ⟨he, bel⟩ => ?_
 subst he
 exact ⟨_, rfl, _, _, _, [], _, [], hW', trodAll_mk1 (shut_bool Tryz.underlying4 _), (trodAll_cons_mk (Below.trod laidOut (by kernel_rfl) (of_decide_eq_true (by kernel_rfl)) k0 bel lt0) (trodAll_cons_mk (Below.trod laidOut (by kernel_rfl) (of_decide_eq_true (by kernel_rfl)) k1 bel lt1) trodAll_mk0)), rfl, bel.frame _, fun h => by cases h⟩
def firstCells : Array Value := (Go.Pinned.utf8FirstZ.map fun (n : Nat) => Value.int .u8 n).toArray
noncomputable def laidWorld (os : Os) : World := { World.doorLaid Tryz.prog 72 os with heap := (World.doorLaid Tryz.prog 72 os).heap.modify 0 fun
  | .cells _ t fz => .cells firstCells t fz
  | o => o }
theorem laid_met (os : Os) : laidMet Tryz.prog Rows.storeEpochsRow.laid ((laidWorld os).forCall (fun _ _ => 0) ⟨#[], #[.slice none 0 0, .int .i64 0], []⟩).memory := laidMet_of_run' 8 (by kernel_rfl) (by kernel_rfl)
theorem reads (os : Os) {H : Type} (enc : TypeId × Value → H) : ∃ places, DataW.whole enc Tryz.prog ((laidWorld os).forCall (fun _ _ => 0) ⟨#[], #[.slice none 0 0, .int .i64 0], []⟩).memory Tryz.f6.params.toList Rows.storeEpochsSpec.vars false (#[.slice none 0 0, .int .i64 0] : Array Value).toList 8 = some ([.nil, .lit (.int .i64 0)], [], places) := ⟨[], by kernel_rfl⟩
set_option maxRecDepth 100000 in
theorem lifted (os : Os) (started : os.Started) (H : Type) (enc : TypeId × Value → H) (F : Stop.Interp) :
  ReturnsInHanded {} Tryz.checked os 6 .any ((OpenSpec.ofChange Rows.storeEpochsSpec).preRow enc Tryz.prog Tryz.f6 Rows.storeEpochsRow.domain false Rows.storeEpochsRow.laid) (((OpenSpec.ofChange Rows.storeEpochsSpec).at F).post enc Tryz.prog Tryz.f6 false true false false) := by
 obtain ⟨places, hx⟩ := reads os enc
 refine returnsInHanded_of_row (C := Tryz.checked) (s := OpenSpec.ofChange Rows.storeEpochsSpec) own started (by kernel_rfl) Tryz.func6
  (witness_row_at (enc := enc) (C := Tryz.checked) false (laidWorld os) #[.slice none 0 0, .int .i64 0] rfl (by kernel_rfl) (by kernel_rfl) (by kernel_rfl)
   (OpenSpec.preRow_of_cond 8 hx (by kernel_rfl) (fun k hk => by cases hk) (by kernel_rfl) (laid_met os))) ?_
 intro W base args ds gs before hval hW _ _ hsz hL hSh _
 exact contract H enc W base args ds gs before hval hW hsz hL hSh
theorem over : Rows.storeEpochsRow.holds Tryz.pinned (OpenSpec.ofChange Rows.storeEpochsSpec) :=
 OpenClaim.holds_of_cond 6 Tryz.f6 rfl rfl rfl rfl rfl rfl rfl ⟨rfl, rfl, rfl, rfl, rfl⟩ rfl rfl rfl rfl rfl (by kernel_rfl) Tryz.func6 (by kernel_rfl)
  (of_decide_eq_true (by kernel_rfl)) (by unfold Func.isWrapper; first | (rw [if_pos (by decide +kernel)]; kernel_rfl) | (rw [if_neg (by decide +kernel)]; exact ⟨rfl, rfl⟩))
  (fun os started H enc _ F => by rw [OpenClaim.pre_eq_preRow]; exact lifted os started H enc F)
end Go.Proofs.YtoglbebcdjdkiaaGreatDoor.storeEpochsRow
namespace Go.Proofs.YtoglbebcdjdkiaaGreatDoor
theorem storeEpochs_holds : Rows.StoreEpochsCardSaid :=
 Claim7.holds_tied_plain_at .later [] _ _ _ _ storeEpochsRow.over (fun _ h => by cases h) (by kernel_rfl) (fun _ h => by cases h) storeEpochs_row_tie rfl ⟨rfl, rfl⟩ (by kernel_rfl) rfl
  (fun f fn hf hfn => by
   obtain rfl : f = 6 := Option.some.inj ((show Tryz.prog.funcNamed Rows.storeEpochsRow.func = some 6 by kernel_rfl).symm.trans hf) |>.symm
   obtain rfl : fn = Tryz.f6 := (Option.some.inj (Tryz.func6.symm.trans hfn)).symm
   refine ⟨by kernel_rfl, fun j t ht => ?_⟩
   rw [Tryz.params6] at ht
   have ht2 := Array.mem_of_getElem? ht
   simp at ht2
   have h9 : ∀ t ∈ [3, 22], Tryz.prog.wantsStandIn t = false := fun t ht => by
    simp at ht
    rcases ht with rfl | rfl
    ·
     exact (show Tryz.prog.wantsStandIn 3 = false by kernel_rfl)
    ·
     exact (show Tryz.prog.wantsStandIn 22 = false by kernel_rfl)
   rcases ht2 with rfl | rfl
   ·
    exact h9 _ (by simp)
   ·
    exact h9 _ (by simp))
  (by kernel_rfl)
end Go.Proofs.YtoglbebcdjdkiaaGreatDoor