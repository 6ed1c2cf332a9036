/- StoreOnce holds: for every argument the law returns true, and the arguments read as before. -/
import Derived.Test.YtoglbebcdjdkiaaGreatDoorRows
import Derived.Test.YtoglbebcdjdkiaaGreatDoorCards
import Derived.Test.YtoglbebcdjdkiaaGreatDoorTie
import Derived.SevenTiedAt
import Derived.Test.YtoglbebcdjdkiaaGreatDoorOn4
import Derived.KernelRfl
import Derived.Deep.DeepHandedRow
import Derived.LaidMore
namespace Go.Proofs.YtoglbebcdjdkiaaGreatDoor.storeOnceRow
open Go Go.Sp Go.ChangeShapes Go.WideShapes Go.ChangeAt Go.RowKit Go.Proofs.YtoglbebcdjdkiaaGreatDoor
set_option linter.unusedVariables false

theorem own : ownKnob Tryz.prog.godebug = none := by kernel_rfl
theorem laidOut : laidOutB Tryz.prog = true := by kernel_rfl
theorem vt : Rows.storeOnceSpec.plain.varTypes Tryz.prog = [] := by kernel_rfl
set_option maxRecDepth 100000 in
theorem Gb (H : Type) (enc : TypeId × Value → H) (W : World) (base : Nat) (args : Array Value) (ds gs : List (DataW H)) (before : List MemPlace)
    (NI : ∀ (j : Nat) t v, Tryz.f3.params[j]? = some t → args[j]? = some v → Value.okWide Tryz.prog W .any base t v)
    (hW : DataW.Whole enc Tryz.prog Tryz.f3.params.toList Rows.storeOnceSpec.vars false W args.toList ds gs before)
    (NF : (DataW.weightsEach Tryz.prog (Tryz.f3.params.toList ++ Rows.storeOnceSpec.plain.varTypes Tryz.prog) (ds ++ gs)).all (· ≤ reachBytes) = true) (hL : laidMetH Tryz.prog Rows.storeOnceRow.laid W) (Qe : W.ShapedOpen Tryz.prog) :
    Calls Tryz.prog 3 args W fun e W' => ∃ v, e = .returned v ∧ Rows.storeOnceSpec.post enc Tryz.prog Tryz.f3 false true false false W args v W' := by
  have jz : ∀ n ∈ DataW.weightsEach Tryz.prog (Tryz.f3.params.toList ++ Rows.storeOnceSpec.plain.varTypes Tryz.prog) (ds ++ gs), n ≤ 140737488351232 := fun n hn => by have h := List.all_eq_true.1 NF n hn; exact (of_decide_eq_true h : n ≤ reachBytes)
  have vW : ∀ (j : Nat) t v, Tryz.f3.params[j]? = some t → args[j]? = some v → Value.okWide Tryz.prog W .any base t v := NI
  have Uj := hW
  obtain ⟨p, q, I6, hV, rfl, uk, mm⟩ := hW
  have hA : DataW.TrodAll enc Tryz.prog W 0 (fun _ => true) true Tryz.f3.params.toList args.toList ds p := I6
  rw [Tryz.params3] at hA vW jz
  obtain ⟨v0, Vh, d0, Vi, p0, q0, Je, rfl, rfl, h0, r0⟩ := trodAll_cons hA
  obtain ⟨rfl, rfl, rfl⟩ := trodAll_nil r0
  obtain rfl : args = #[v0] := by cases args; simp_all
  obtain ⟨rfl, rfl⟩ := trodVars_none hV
  have k0 := h0
  have Uk : ∀ x ∈ p0, x.block < W.heap.size := by obtain ⟨m, hm⟩ := k0; exact DataW.trod_lt m _ _ _ hm
  have Qf : Fits Tryz.prog 22 d0 := fun n hn => jz n (gG (i := 0) hn rfl rfl)
  obtain ⟨a0, Ul, Qg, rfl⟩ := okWide_slice Tryz.underlying22 (vW 0 22 v0 rfl rfl)
  obtain ⟨NJ, LD⟩ := h0
  obtain ⟨⟨Vj, Vk, l0⟩, NK, NL, Gc, NM, _, Ru⟩ := Rd.slice (enc := enc) (s := 7) (o7 := 72) Tryz.underlying22 (by kernel_rfl) (by decide) (by kernel_rfl) Ty.bV Ty.z6 NH NJ _ _ LD Qf
  simp [Value.cells] at NK
  obtain ⟨rfl, rfl, rfl⟩ := NK
  have L6 : l0.length ≤ 140737488351232 := by have : l0.length * 72 ≤ 140737488351232 := NM; omega
  have key := Cn.ON (W := W) (vH a0 l0 Qg (fun y hy => (Gc y hy).2) L6) (fun w hw => ⟨LV.later hw (NG hL Qe), aB.later hw NL, fun y hy => aB.later hw (Gc y hy).1⟩)
  refine key.mono fun e W' ⟨he, Rv⟩ => ?_
  subst he
  exact ⟨_, rfl, _, _, _, [], _, [], Uj, trodAll_mk1 (shut_bool Tryz.underlying4 _), (trodAll_cons_mk (Below.trod laidOut (by kernel_rfl) (of_decide_eq_true (by kernel_rfl)) k0 Rv Uk) trodAll_mk0), rfl, Rv.frame _, fun h => by cases h⟩


/-- A world in which the listed variables hold what their initialisers lay. -/
def firstCells : Array Value := (Go.Pinned.utf8FirstZ.map fun (n : Nat) => Value.int .u8 n).toArray
noncomputable def oM (os : Os) : World := { World.doorLaid Tryz.prog 72 os with heap := (World.doorLaid Tryz.prog 72 os).heap.modify 0 fun
    | .cells _ t fz => .cells firstCells t fz
    | o => o }
theorem Gd (os : Os) : laidMet Tryz.prog Rows.storeOnceRow.laid ((oM os).forCall (fun _ _ => 0) ⟨#[], #[.slice none 0 0], []⟩).memory := laidMet_of_run' 8 (by kernel_rfl) (by kernel_rfl)
theorem reads (os : Os) {H : Type} (enc : TypeId × Value → H) : ∃ places, DataW.whole enc Tryz.prog ((oM os).forCall (fun _ _ => 0) ⟨#[], #[.slice none 0 0], []⟩).memory Tryz.f3.params.toList Rows.storeOnceSpec.vars false (#[.slice none 0 0] : Array Value).toList 8 = some ([.nil], [], places) := ⟨[], by kernel_rfl⟩

set_option maxRecDepth 100000 in
theorem lifted (os : Os) (started : os.Started) (H : Type) (enc : TypeId × Value → H) (F : Stop.Interp) :
    ReturnsInHanded {} Tryz.checked os 3 .any ((OpenSpec.ofChange Rows.storeOnceSpec).preRow enc Tryz.prog Tryz.f3 Rows.storeOnceRow.domain false Rows.storeOnceRow.laid) (((OpenSpec.ofChange Rows.storeOnceSpec).at F).post enc Tryz.prog Tryz.f3 false true false false) := by
  obtain ⟨places, hx⟩ := reads os enc
  refine returnsInHanded_of_row (C := Tryz.checked) (s := OpenSpec.ofChange Rows.storeOnceSpec) own started (by kernel_rfl) Tryz.func3
    (witness_row_at (enc := enc) (C := Tryz.checked) false (oM os) #[.slice none 0 0] rfl (by kernel_rfl) (by kernel_rfl) (by kernel_rfl)
      (OpenSpec.preRow_of_cond 8 hx (by kernel_rfl) (fun k hk => by cases hk) (by kernel_rfl) (Gd os))) ?_
  intro W base args ds gs before vW hW _ _ jz hL Qe _
  exact Gb H enc W base args ds gs before vW hW jz hL Qe

theorem over : Rows.storeOnceRow.holds Tryz.pinned (OpenSpec.ofChange Rows.storeOnceSpec) :=
  OpenClaim.holds_of_cond 3 Tryz.f3 rfl rfl rfl rfl rfl rfl rfl ⟨rfl, rfl, rfl, rfl, rfl⟩ rfl rfl rfl rfl rfl (by kernel_rfl) Tryz.func3 (by kernel_rfl)
    (of_decide_eq_true (by kernel_rfl)) (by unfold Func.isWrapper; first | (rw [if_pos (by decide +kernel)]; kernel_rfl) | (rw [if_neg (by decide +kernel)]; exact ⟨rfl, rfl⟩))
    (fun os started H enc _ F => by rw [OpenClaim.pre_eq_preRow]; exact lifted os started H enc F)
end Go.Proofs.YtoglbebcdjdkiaaGreatDoor.storeOnceRow
namespace Go.Proofs.YtoglbebcdjdkiaaGreatDoor
/-- The card: the row, its listed variables tied to the program's text. -/
theorem storeOnce_holds : Rows.StoreOnceCardSaid :=
  Claim7.holds_tied_plain_at .later [] _ _ _ _ storeOnceRow.over (fun _ h => by cases h) (by kernel_rfl) (fun _ h => by cases h) storeOnce_row_tie rfl ⟨rfl, rfl⟩ (by kernel_rfl) rfl
    (fun f fn hf C2 => by
      obtain rfl : f = 3 := Option.some.inj ((show Tryz.prog.funcNamed Rows.storeOnceRow.func = some 3 by kernel_rfl).symm.trans hf) |>.symm
      obtain rfl : fn = Tryz.f3 := (Option.some.inj (Tryz.func3.symm.trans C2)).symm
      refine ⟨by kernel_rfl, fun j t ht => ?_⟩
      rw [Tryz.params3] at ht
      have Bt := Array.mem_of_getElem? ht
      simp at Bt
      subst Bt
      exact (show Tryz.prog.wantsStandIn 22 = false by kernel_rfl))
    (by kernel_rfl)
end Go.Proofs.YtoglbebcdjdkiaaGreatDoor

