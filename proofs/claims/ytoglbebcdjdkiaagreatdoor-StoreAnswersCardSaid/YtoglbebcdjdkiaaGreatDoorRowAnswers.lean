/- StoreAnswers holds: for every argument the law returns true, and the arguments read as before. -/
import Derived.Test.YtoglbebcdjdkiaaGreatDoorRows
import Derived.Test.YtoglbebcdjdkiaaGreatDoorCards
import Derived.Test.YtoglbebcdjdkiaaGreatDoorTie
import Derived.SevenTiedAt
import Derived.Test.YtoglbebcdjdkiaaGreatDoorAn4
import Derived.KernelRfl
import Derived.Deep.DeepHandedRow
import Derived.LaidMore
namespace Go.Proofs.YtoglbebcdjdkiaaGreatDoor.storeAnswersRow
open Go Go.Sp Go.ChangeShapes Go.WideShapes Go.ChangeAt Go.RowKit Go.Proofs.YtoglbebcdjdkiaaGreatDoor
set_option linter.unusedVariables false

theorem own : ownKnob Tryz.prog.godebug = none := by kernel_rfl
theorem laidOut : laidOutB Tryz.prog = true := by kernel_rfl
theorem vt : Rows.storeAnswersSpec.plain.varTypes Tryz.prog = [] := by kernel_rfl
set_option maxRecDepth 100000 in
theorem Gc (H : Type) (enc : TypeId × Value → H) (W : World) (base : Nat) (args : Array Value) (ds gs : List (DataW H)) (before : List MemPlace)
    (NE : ∀ (j : Nat) t v, Tryz.f4.params[j]? = some t → args[j]? = some v → Value.okWide Tryz.prog W .any base t v)
    (hW : DataW.Whole enc Tryz.prog Tryz.f4.params.toList Rows.storeAnswersSpec.vars false W args.toList ds gs before)
    (Nz : (DataW.weightsEach Tryz.prog (Tryz.f4.params.toList ++ Rows.storeAnswersSpec.plain.varTypes Tryz.prog) (ds ++ gs)).all (· ≤ reachBytes) = true) (hL : laidMetH Tryz.prog Rows.storeAnswersRow.laid W) (P6 : W.ShapedOpen Tryz.prog) :
    Calls Tryz.prog 4 args W fun e W' => ∃ v, e = .returned v ∧ Rows.storeAnswersSpec.post enc Tryz.prog Tryz.f4 false true false false W args v W' := by
  have jS : ∀ n ∈ DataW.weightsEach Tryz.prog (Tryz.f4.params.toList ++ Rows.storeAnswersSpec.plain.varTypes Tryz.prog) (ds ++ gs), n ≤ 140737488351232 := fun n hn => by have h := List.all_eq_true.1 Nz n hn; exact (of_decide_eq_true h : n ≤ reachBytes)
  have vU : ∀ (j : Nat) t v, Tryz.f4.params[j]? = some t → args[j]? = some v → Value.okWide Tryz.prog W .any base t v := NE
  have Ul := hW
  obtain ⟨p, q, I5, hV, rfl, ul, mo⟩ := hW
  have hA : DataW.TrodAll enc Tryz.prog W 0 (fun _ => true) true Tryz.f4.params.toList args.toList ds p := I5
  rw [Tryz.params4] at hA vU jS
  obtain ⟨v0, Vk, d0, Vl, p0, q0, Jd, rfl, rfl, h0, r0⟩ := trodAll_cons hA
  obtain ⟨rfl, rfl, rfl⟩ := trodAll_nil r0
  obtain rfl : args = #[v0] := by cases args; simp_all
  obtain ⟨rfl, rfl⟩ := trodVars_none hV
  have k0 := h0
  have Um : ∀ x ∈ p0, x.block < W.heap.size := by obtain ⟨m, hm⟩ := k0; exact DataW.trod_lt m _ _ _ hm
  have P7 : Fits Tryz.prog 22 d0 := fun n hn => jS n (gF (i := 0) hn rfl rfl)
  obtain ⟨a0, Un, P8, rfl⟩ := okWide_slice Tryz.underlying22 (vU 0 22 v0 rfl rfl)
  obtain ⟨NF, LA⟩ := h0
  obtain ⟨⟨Vm, Vn, l0⟩, NG, NH, Gd, NI, _, Rm⟩ := Rd.slice (enc := enc) (s := 7) (o7 := 72) Tryz.underlying22 (by kernel_rfl) (by decide) (by kernel_rfl) Ty.bU Ty.zY ND NF _ _ LA P7
  simp [Value.cells] at NG
  obtain ⟨rfl, rfl, rfl⟩ := NG
  have L2 : l0.length ≤ 140737488351232 := by have : l0.length * 72 ≤ 140737488351232 := NI; omega
  have key := Cn.OH (W := W) (pu a0 l0 P8 (fun y hy => (Gd y hy).2) L2) (fun w hw => ⟨LV.later hw (NC hL P6), aD.later hw NH, fun y hy => aD.later hw (Gd y hy).1⟩)
  refine key.mono fun e W' ⟨he, Rn⟩ => ?_
  subst he
  exact ⟨_, rfl, _, _, _, [], _, [], Ul, trodAll_mk1 (shut_bool Tryz.underlying4 _), (trodAll_cons_mk (Below.trod laidOut (by kernel_rfl) (of_decide_eq_true (by kernel_rfl)) k0 Rn Um) trodAll_mk0), rfl, Rn.frame _, fun h => by cases h⟩


/-- A world in which the listed variables hold what their initialisers lay. -/
def firstCells : Array Value := (Go.Pinned.utf8FirstZ.map fun (n : Nat) => Value.int .u8 n).toArray
noncomputable def oL (os : Os) : World := { World.doorLaid Tryz.prog 72 os with heap := (World.doorLaid Tryz.prog 72 os).heap.modify 0 fun
    | .cells _ t fz => .cells firstCells t fz
    | o => o }
theorem Ge (os : Os) : laidMet Tryz.prog Rows.storeAnswersRow.laid ((oL os).forCall (fun _ _ => 0) ⟨#[], #[.slice none 0 0], []⟩).memory := laidMet_of_run' 8 (by kernel_rfl) (by kernel_rfl)
theorem reads (os : Os) {H : Type} (enc : TypeId × Value → H) : ∃ places, DataW.whole enc Tryz.prog ((oL os).forCall (fun _ _ => 0) ⟨#[], #[.slice none 0 0], []⟩).memory Tryz.f4.params.toList Rows.storeAnswersSpec.vars false (#[.slice none 0 0] : Array Value).toList 8 = some ([.nil], [], places) := ⟨[], by kernel_rfl⟩

set_option maxRecDepth 100000 in
theorem lifted (os : Os) (started : os.Started) (H : Type) (enc : TypeId × Value → H) (F : Stop.Interp) :
    ReturnsInHanded {} Tryz.checked os 4 .any ((OpenSpec.ofChange Rows.storeAnswersSpec).preRow enc Tryz.prog Tryz.f4 Rows.storeAnswersRow.domain false Rows.storeAnswersRow.laid) (((OpenSpec.ofChange Rows.storeAnswersSpec).at F).post enc Tryz.prog Tryz.f4 false true false false) := by
  obtain ⟨places, hx⟩ := reads os enc
  refine returnsInHanded_of_row (C := Tryz.checked) (s := OpenSpec.ofChange Rows.storeAnswersSpec) own started (by kernel_rfl) Tryz.func4
    (witness_row_at (enc := enc) (C := Tryz.checked) false (oL os) #[.slice none 0 0] rfl (by kernel_rfl) (by kernel_rfl) (by kernel_rfl)
      (OpenSpec.preRow_of_cond 8 hx (by kernel_rfl) (fun k hk => by cases hk) (by kernel_rfl) (Ge os))) ?_
  intro W base args ds gs before vU hW _ _ jS hL P6 _
  exact Gc H enc W base args ds gs before vU hW jS hL P6

theorem over : Rows.storeAnswersRow.holds Tryz.pinned (OpenSpec.ofChange Rows.storeAnswersSpec) :=
  OpenClaim.holds_of_cond 4 Tryz.f4 rfl rfl rfl rfl rfl rfl rfl ⟨rfl, rfl, rfl, rfl, rfl⟩ rfl rfl rfl rfl rfl (by kernel_rfl) Tryz.func4 (by kernel_rfl)
    (of_decide_eq_true (by kernel_rfl)) (by unfold Func.isWrapper; first | (rw [if_pos (by decide +kernel)]; kernel_rfl) | (rw [if_neg (by decide +kernel)]; exact ⟨rfl, rfl⟩))
    (fun os started H enc _ F => by rw [OpenClaim.pre_eq_preRow]; exact lifted os started H enc F)
end Go.Proofs.YtoglbebcdjdkiaaGreatDoor.storeAnswersRow
namespace Go.Proofs.YtoglbebcdjdkiaaGreatDoor
/-- The card: the row, its listed variables tied to the program's text. -/
theorem storeAnswers_holds : Rows.StoreAnswersCardSaid :=
  Claim7.holds_tied_plain_at .later [] _ _ _ _ storeAnswersRow.over (fun _ h => by cases h) (by kernel_rfl) (fun _ h => by cases h) storeAnswers_row_tie rfl ⟨rfl, rfl⟩ (by kernel_rfl) rfl
    (fun f fn hf C2 => by
      obtain rfl : f = 4 := Option.some.inj ((show Tryz.prog.funcNamed Rows.storeAnswersRow.func = some 4 by kernel_rfl).symm.trans hf) |>.symm
      obtain rfl : fn = Tryz.f4 := (Option.some.inj (Tryz.func4.symm.trans C2)).symm
      refine ⟨by kernel_rfl, fun j t ht => ?_⟩
      rw [Tryz.params4] at ht
      have Bo := Array.mem_of_getElem? ht
      simp at Bo
      subst Bo
      exact (show Tryz.prog.wantsStandIn 22 = false by kernel_rfl))
    (by kernel_rfl)
end Go.Proofs.YtoglbebcdjdkiaaGreatDoor

