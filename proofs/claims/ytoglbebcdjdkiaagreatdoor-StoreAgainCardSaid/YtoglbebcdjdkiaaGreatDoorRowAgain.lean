/- StoreAgain holds: for every argument the law returns true, and the arguments read as before. -/
import Derived.Test.YtoglbebcdjdkiaaGreatDoorRows
import Derived.Test.YtoglbebcdjdkiaaGreatDoorCards
import Derived.Test.YtoglbebcdjdkiaaGreatDoorTie
import Derived.SevenTiedAt
import Derived.Test.YtoglbebcdjdkiaaGreatDoorAg5
import Derived.KernelRfl
import Derived.Deep.DeepHandedRow
import Derived.LaidMore
namespace Go.Proofs.YtoglbebcdjdkiaaGreatDoor.storeAgainRow
open Go Go.Sp Go.ChangeShapes Go.WideShapes Go.ChangeAt Go.RowKit Go.Proofs.YtoglbebcdjdkiaaGreatDoor
set_option linter.unusedVariables false
theorem own : ownKnob Tryz.prog.godebug = none := by kernel_rfl
theorem laidOut : laidOutB Tryz.prog = true := by kernel_rfl
theorem vt : Rows.storeAgainSpec.plain.varTypes Tryz.prog = [] := by kernel_rfl
set_option maxRecDepth 100000 in
theorem contract (H : Type) (enc : TypeId × Value → H) (W : World) (base : Nat) (args : Array Value) (ds gs : List (DataW H)) (before : List MemPlace)
  (hval0 : ∀ (j : Nat) t v, Tryz.f5.params[j]? = some t → args[j]? = some v → Value.okWide Tryz.prog W .any base t v)
  (hW : DataW.Whole enc Tryz.prog Tryz.f5.params.toList Rows.storeAgainSpec.vars false W args.toList ds gs before)
  (hsz0 : (DataW.weightsEach Tryz.prog (Tryz.f5.params.toList ++ Rows.storeAgainSpec.plain.varTypes Tryz.prog) (ds ++ gs)).all (· ≤ reachBytes) = true) (hL : laidMetH Tryz.prog Rows.storeAgainRow.laid W) (hSh : W.ShapedOpen Tryz.prog) :
  Calls Tryz.prog 5 args W fun e W' => ∃ v, e = .returned v ∧ Rows.storeAgainSpec.post enc Tryz.prog Tryz.f5 false true false false W args v W' := by
 have hsz : ∀ n ∈ DataW.weightsEach Tryz.prog (Tryz.f5.params.toList ++ Rows.storeAgainSpec.plain.varTypes Tryz.prog) (ds ++ gs), n ≤ 140737488351232 := fun n hn => by have h := List.all_eq_true.1 hsz0 n hn; exact (of_decide_eq_true h : n ≤ reachBytes)
 have hval : ∀ (j : Nat) t v, Tryz.f5.params[j]? = some t → args[j]? = some v → Value.okWide Tryz.prog W .any base t v := hval0
 have hW' := hW
 obtain ⟨p, q, hA0, hV, rfl, hfz, hnd⟩ := hW
 have hA : DataW.TrodAll enc Tryz.prog W 0 (fun _ => true) true Tryz.f5.params.toList args.toList ds p := hA0
 rw [Tryz.params5] at hA hval hsz
 obtain ⟨v0, vs0, d0, ds0, p0, q0, hargs, rfl, rfl, h0, r0⟩ := trodAll_cons hA
 obtain ⟨v1, vs1, d1, ds1, p1, q1, rfl, rfl, rfl, h1, r1⟩ := trodAll_cons r0
 obtain ⟨v2, vs2, d2, ds2, p2, q2, rfl, rfl, rfl, h2, r2⟩ := trodAll_cons r1
 obtain ⟨rfl, rfl, rfl⟩ := trodAll_nil r2
 obtain rfl : args = #[v0, v1, v2] := by cases args; simp_all
 obtain ⟨rfl, rfl⟩ := trodVars_none hV
 have k0 := h0
 have lt0 : ∀ x ∈ p0, x.block < W.heap.size := by obtain ⟨m, hm⟩ := k0; exact DataW.trod_lt m _ _ _ hm
 have fit0 : Fits Tryz.prog 22 d0 := fun n hn => hsz n (weightsEach_mem (i := 0) hn rfl rfl)
 obtain ⟨a0, len0, cap0, rfl⟩ := okWide_slice Tryz.underlying22 (hval 0 22 v0 rfl rfl)
 obtain ⟨fuel0, hf0⟩ := h0
 have k1 := h1
 have lt1 : ∀ x ∈ p1, x.block < W.heap.size := by obtain ⟨m, hm⟩ := k1; exact DataW.trod_lt m _ _ _ hm
 have fit1 : Fits Tryz.prog 31 d1 := fun n hn => hsz n (weightsEach_mem (i := 1) hn rfl rfl)
 obtain ⟨a1, len1, cap1, rfl⟩ := okWide_slice Tryz.underlying31 (hval 1 31 v1 rfl rfl)
 obtain ⟨fuel1, hf1⟩ := h1
 have k2 := h2
 have lt2 : ∀ x ∈ p2, x.block < W.heap.size := by obtain ⟨m, hm⟩ := k2; exact DataW.trod_lt m _ _ _ hm
 have fit2 : Fits Tryz.prog 33 d2 := fun n hn => hsz n (weightsEach_mem (i := 2) hn rfl rfl)
 obtain ⟨cs2, rfl⟩ := okWide_agg Tryz.underlying33 (hval 2 33 v2 rfl rfl)
 obtain ⟨fuel2, hf2⟩ := h2
 obtain ⟨⟨a0', c0', l0⟩, hcs0, hrow0, hgood0, hlen0, _, hcap0⟩ := Rd.slice (enc := enc) (s := 7) (by_ := 72) Tryz.underlying22 (by kernel_rfl) (by decide) (by kernel_rfl) Ty.cells_len Ty.cells_ones rdTry fuel0 _ _ hf0 fit0
 simp [Value.cells] at hcs0
 obtain ⟨rfl, rfl, rfl⟩ := hcs0
 have hm0 : l0.length ≤ 140737488351232 := by have : l0.length * 72 ≤ 140737488351232 := hlen0; omega
 obtain ⟨⟨a1', c1', l1⟩, hcs1, hrow1, hgood1, hlen1, _, hcap1⟩ := Rd.slice (enc := enc) (s := 1) (by_ := 8) Tryz.underlying31 (by kernel_rfl) (by decide) (by kernel_rfl) icI_len icI_ones (Rd.num Tryz.underlying3) fuel1 _ _ hf1 fit1
 simp [Value.cells] at hcs1
 obtain ⟨rfl, rfl, rfl⟩ := hcs1
 have hm1 : l1.length ≤ 140737488351232 := by have : l1.length * 8 ≤ 140737488351232 := hlen1; omega
 obtain ⟨y, hcs2, hyr, hyo⟩ := rdTry fuel2 _ _ hf2 fit2
 obtain rfl : cs2 = (y.cells).toArray := by
  have h1 : cs2.toList = y.cells := hcs2
  rw [← h1]
 have key := Cn.lawK (W := W) (StoreAgain_ok a0 l0 cap0 a1 l1 cap1 y (fun y hy => (hgood0 y hy).2) hm0 hcap1 hgood1 hm1 hyo) (fun w hw => ⟨LV.later hw (LV_of hL hSh), RowAt.later hw hrow0, RowAt.later hw hrow1⟩)
 refine key.mono fun e W' ⟨he, bel⟩ => ?_
 subst he
 exact ⟨_, rfl, _, _, _, [], _, [], hW', trodAll_mk1 (shut_bool Tryz.underlying4 _), (trodAll_cons_mk (Below.trod laidOut (by kernel_rfl) (of_decide_eq_true (by kernel_rfl)) k0 bel lt0) (trodAll_cons_mk (Below.trod laidOut (by kernel_rfl) (of_decide_eq_true (by kernel_rfl)) k1 bel lt1) (trodAll_cons_mk (Below.trod laidOut (by kernel_rfl) (of_decide_eq_true (by kernel_rfl)) k2 bel lt2) trodAll_mk0))), rfl, bel.frame _, fun h => by cases h⟩
def firstCells : Array Value := (Go.Pinned.utf8FirstZ.map fun (n : Nat) => Value.int .u8 n).toArray
noncomputable def laidWorld (os : Os) : World := { World.doorLaid Tryz.prog 72 os with heap := (World.doorLaid Tryz.prog 72 os).heap.modify 0 fun
  | .cells _ t fz => .cells firstCells t fz
  | o => o }
theorem laid_met (os : Os) : laidMet Tryz.prog Rows.storeAgainRow.laid ((laidWorld os).forCall (fun _ _ => 0) ⟨#[], #[.slice none 0 0, .slice none 0 0, .agg #[.int .i64 0, .int .i64 0, .int .i64 0, .int .i64 0, .int .i64 0, .int .i64 0, .slice none 0 0]], []⟩).memory := laidMet_of_run' 8 (by kernel_rfl) (by kernel_rfl)
theorem reads (os : Os) {H : Type} (enc : TypeId × Value → H) : ∃ places, DataW.whole enc Tryz.prog ((laidWorld os).forCall (fun _ _ => 0) ⟨#[], #[.slice none 0 0, .slice none 0 0, .agg #[.int .i64 0, .int .i64 0, .int .i64 0, .int .i64 0, .int .i64 0, .int .i64 0, .slice none 0 0]], []⟩).memory Tryz.f5.params.toList Rows.storeAgainSpec.vars false (#[.slice none 0 0, .slice none 0 0, .agg #[.int .i64 0, .int .i64 0, .int .i64 0, .int .i64 0, .int .i64 0, .int .i64 0, .slice none 0 0]] : Array Value).toList 8 = some ([.nil, .nil, .agg [.lit (.int .i64 0), .lit (.int .i64 0), .lit (.int .i64 0), .lit (.int .i64 0), .lit (.int .i64 0), .lit (.int .i64 0), .nil]], [], places) := ⟨[], by kernel_rfl⟩
set_option maxRecDepth 100000 in
theorem lifted (os : Os) (started : os.Started) (H : Type) (enc : TypeId × Value → H) (F : Stop.Interp) :
  ReturnsInHanded {} Tryz.checked os 5 .any ((OpenSpec.ofChange Rows.storeAgainSpec).preRow enc Tryz.prog Tryz.f5 Rows.storeAgainRow.domain false Rows.storeAgainRow.laid) (((OpenSpec.ofChange Rows.storeAgainSpec).at F).post enc Tryz.prog Tryz.f5 false true false false) := by
 obtain ⟨places, hx⟩ := reads os enc
 refine returnsInHanded_of_row (C := Tryz.checked) (s := OpenSpec.ofChange Rows.storeAgainSpec) own started (by kernel_rfl) Tryz.func5
  (witness_row_at (enc := enc) (C := Tryz.checked) false (laidWorld os) #[.slice none 0 0, .slice none 0 0, .agg #[.int .i64 0, .int .i64 0, .int .i64 0, .int .i64 0, .int .i64 0, .int .i64 0, .slice none 0 0]] rfl (by kernel_rfl) (by kernel_rfl) (by kernel_rfl)
   (OpenSpec.preRow_of_cond 8 hx (by kernel_rfl) (fun k hk => by cases hk) (by kernel_rfl) (laid_met os))) ?_
 intro W base args ds gs before hval hW _ _ hsz hL hSh _
 exact contract H enc W base args ds gs before hval hW hsz hL hSh
theorem over : Rows.storeAgainRow.holds Tryz.pinned (OpenSpec.ofChange Rows.storeAgainSpec) :=
 OpenClaim.holds_of_cond 5 Tryz.f5 rfl rfl rfl rfl rfl rfl rfl ⟨rfl, rfl, rfl, rfl, rfl⟩ rfl rfl rfl rfl rfl (by kernel_rfl) Tryz.func5 (by kernel_rfl)
  (of_decide_eq_true (by kernel_rfl)) (by unfold Func.isWrapper; first | (rw [if_pos (by decide +kernel)]; kernel_rfl) | (rw [if_neg (by decide +kernel)]; exact ⟨rfl, rfl⟩))
  (fun os started H enc _ F => by rw [OpenClaim.pre_eq_preRow]; exact lifted os started H enc F)
end Go.Proofs.YtoglbebcdjdkiaaGreatDoor.storeAgainRow
namespace Go.Proofs.YtoglbebcdjdkiaaGreatDoor
theorem storeAgain_holds : Rows.StoreAgainCardSaid :=
 Claim7.holds_tied_plain_at .later [] _ _ _ _ storeAgainRow.over (fun _ h => by cases h) (by kernel_rfl) (fun _ h => by cases h) storeAgain_row_tie rfl ⟨rfl, rfl⟩ (by kernel_rfl) rfl
  (fun f fn hf hfn => by
   obtain rfl : f = 5 := Option.some.inj ((show Tryz.prog.funcNamed Rows.storeAgainRow.func = some 5 by kernel_rfl).symm.trans hf) |>.symm
   obtain rfl : fn = Tryz.f5 := (Option.some.inj (Tryz.func5.symm.trans hfn)).symm
   refine ⟨by kernel_rfl, fun j t ht => ?_⟩
   rw [Tryz.params5] at ht
   have ht2 := Array.mem_of_getElem? ht
   simp at ht2
   have h9 : ∀ t ∈ [22, 31, 33], Tryz.prog.wantsStandIn t = false := fun t ht => by
    simp at ht
    rcases ht with rfl | rfl | rfl
    ·
     exact (show Tryz.prog.wantsStandIn 22 = false by kernel_rfl)
    ·
     exact (show Tryz.prog.wantsStandIn 31 = false by kernel_rfl)
    ·
     exact (show Tryz.prog.wantsStandIn 33 = false by kernel_rfl)
   rcases ht2 with rfl | rfl | rfl
   ·
    exact h9 _ (by simp)
   ·
    exact h9 _ (by simp)
   ·
    exact h9 _ (by simp))
  (by kernel_rfl)
end Go.Proofs.YtoglbebcdjdkiaaGreatDoor