/- Part 3 of a claim's texts: rules for the machine's steps, and steps through functions of the program, under the conditions that each theorem states. -/
import Derived.Test.YtankogdnhgmkhaaDoorProg
import Derived.KernelRfl
import Derived.Test.YtankogdnhgmkhaaDoorPart2
set_option linter.unusedVariables false
namespace Go.Proofs.YtankogdnhgmkhaaDoor
open Go Go.Sp

set_option linter.unusedVariables false

namespace con17
theorem ti3 : TI Tryd.prog 3 1 8 (.int .i64 0) := .of (by kernel_rfl)
theorem bld31_2_3_4 (x0 : Int) (x1 : Int) (x2 : Int) (w : World) : (Instr.build 31 (([2, 3, 4] : List Nat).zip [.int .i64 x0, .int .i64 x1, .int .i64 x2]).toArray).run Tryd.prog w = .ok (.agg #[.int .i64 0, .int .i64 0, .int .i64 x0, .int .i64 x1, .int .i64 x2, .int .i64 0, .int .i64 0, .int .i64 0, .string ⟨#[]⟩, .string ⟨#[]⟩, .int .i64 0, .bool false]) w := by kernel_rfl
theorem bld52_0 (x0 : Int) (w : World) : (Instr.build 52 (([0] : List Nat).zip [.int .i64 x0]).toArray).run Tryd.prog w = .ok (.agg #[.int .i64 x0, .int .i64 0, .int .i64 0, .int .i64 0, .int .i64 0, .slice none 0 0]) w := by kernel_rfl
theorem ti52 : TI Tryd.prog 52 6 64 (.agg #[.int .i64 0, .int .i64 0, .int .i64 0, .int .i64 0, .int .i64 0, .slice none 0 0]) := .of (by kernel_rfl)
theorem ts52 : TS Tryd.prog 52 6 := .of (by kernel_rfl)
theorem fd52_5 : FD Tryd.prog 52 5 5 := .of Tryd.underlying52 (by kernel_rfl)
theorem na50 : NotAgg Tryd.prog 50 := ⟨_, Tryd.underlying50, trivial⟩
theorem ts9 : TS Tryd.prog 9 1 := .of (by kernel_rfl)
theorem na9 : NotAgg Tryd.prog 9 := ⟨_, Tryd.underlying9, trivial⟩
theorem bld54_1 (x0 : ByteArray) (w : World) : (Instr.build 54 (([1] : List Nat).zip [.string x0]).toArray).run Tryd.prog w = .ok (.agg #[.string ⟨#[]⟩, .string x0, .int .i64 0]) w := by kernel_rfl
theorem ti54 : TI Tryd.prog 54 3 40 (.agg #[.string ⟨#[]⟩, .string ⟨#[]⟩, .int .i64 0]) := .of (by kernel_rfl)
theorem ts50 : TS Tryd.prog 50 1 := .of (by kernel_rfl)
theorem ts35 : TS Tryd.prog 35 21 := .of (by kernel_rfl)
theorem fd35_3 : FD Tryd.prog 35 3 3 := .of Tryd.underlying35 (by kernel_rfl)
theorem na3 : NotAgg Tryd.prog 3 := ⟨_, Tryd.underlying3, trivial⟩
theorem ia52 : IsAgg Tryd.prog 52 := ⟨_, Tryd.underlying52, trivial⟩
theorem bld35_0_1_2_3_15_18 (x0 : Int) (x1 : Int) (x2 : Int) (x3 : Int) (x4 : Int) (x5a : Option Addr) (x5n : Nat) (x5c : Nat) (w : World) : (Instr.build 35 (([0, 1, 2, 3, 15, 18] : List Nat).zip [.int .i64 x0, .int .i64 x1, .int .i64 x2, .int .i64 x3, .int .i64 x4, .slice x5a x5n x5c]).toArray).run Tryd.prog w = .ok (.agg #[.int .i64 x0, .int .i64 x1, .int .i64 x2, .int .i64 x3, .int .i64 0, .int .i64 0, .int .i64 0, .int .i64 0, .int .i64 0, .int .i64 0, .int .i64 0, .int .i64 0, .int .i64 0, .int .i64 0, .int .i64 0, .int .i64 x4, .string ⟨#[]⟩, .string ⟨#[]⟩, .slice x5a x5n x5c, .slice none 0 0, .slice none 0 0]) w := by kernel_rfl
theorem ts31 : TS Tryd.prog 31 12 := .of (by kernel_rfl)
theorem fd31_4 : FD Tryd.prog 31 4 4 := .of Tryd.underlying31 (by kernel_rfl)
theorem fd31_3 : FD Tryd.prog 31 3 3 := .of Tryd.underlying31 (by kernel_rfl)
theorem fd31_10 : FD Tryd.prog 31 10 10 := .of Tryd.underlying31 (by kernel_rfl)
theorem na25 : NotAgg Tryd.prog 25 := ⟨_, Tryd.underlying25, trivial⟩
theorem fd31_9 : FD Tryd.prog 31 9 9 := .of Tryd.underlying31 (by kernel_rfl)
end con17
open con17



set_option maxHeartbeats 4000000 in
set_option maxRecDepth 20000 in
theorem ConsumerFinds_ok (base : Int) (a : Option Addr) (c : Nat) (vals : List (List UInt8)) (offset err : Int) (hb : -9223372036854775808 ≤ base ∧ base ≤ 9223372036854775807) (hvn : vals.length ≤ 140737488351232) (hvc : vals.length ≤ c) (ho : -9223372036854775808 ≤ offset ∧ offset ≤ 9223372036854775807) : Cn Tryd.prog 5 [.int .i64 base, .slice a vals.length c, .int .i64 offset, .int .i64 err] (RowAt a (vals.flatMap scell)) [] fun v G => v = .bool true ∧ G = [] := by
  refine .enter Tryd.func5 rfl (by kernel_rfl) rfl fun R k => ?_
  have hp1 := pickN_nn (c := base) (n := 1000) (by decide)
  have hp2 := pickN_lt (c := base) (n := 1000) (by decide)
  refine .seq ?_
  refine .region ?_
  refine .rd (.assign rfl) ?_
  refine .nil ?_
  refine .seq ?_
  refine .region ?_
  refine .fn rfl rfl .nil (fun _ _ _ => trivial) (shown_ok) (fun v G1 hq => ?_)
  obtain ⟨rfl, rfl⟩ := hq
  simp only [List.nil_append]
  refine .rd (.assign rfl) ?_
  refine .nil ?_
  refine .seq ?_
  refine .region ?_
  refine .ef (.buildOne (cs := [.int .i64 1]) Tryd.underlying28 ti3 (by decide) rfl rfl rfl (ones.of rfl)) ?_
  rintro _ _ ⟨bl, rfl, rfl⟩
  refine .fn rfl rfl .nil (((Knows.blk .head).mono fun _ h => rowBlk h)) (New_ok 101 (some ⟨bl, 0, none⟩) _ [1] 10 3 rise1 (by decide) (by decide) (by decide)) (fun v G1 hq => ?_)
  obtain ⟨pb, rfl, rfl⟩ := hq
  simp only [List.cons_append, List.nil_append]
  refine .rd (.move rfl) ?_
  refine .rd (.extract rfl rfl) ?_
  refine .rd (.extract rfl rfl) ?_
  refine .rd (.assign rfl) ?_
  refine .rd (.assign rfl) ?_
  refine .nil ?_
  refine .seq ?_
  refine .seq ?_
  refine .region ?_
  refine .rd (.move rfl) ?_
  refine .rd (.not rfl) ?_
  refine .rd (.move rfl) ?_
  refine .on (t := 26) rfl rfl ?_
  refine .rd (.move rfl) ?_
  refine .on (t := 26) rfl rfl ?_
  refine .rd (.eqNilP Tryd.underlying24 rfl rfl) ?_
  refine .rd (.pickF rfl rfl) ?_
  refine .rd (.move rfl) ?_
  refine .on (t := 30) rfl rfl ?_
  refine .rd (.move rfl) ?_
  refine .on (t := 30) rfl rfl ?_
  refine .rd (.neI rfl rfl) ?_
  refine .alter (t := 32) (v' := .bool false) rfl (congrArg Value.bool (by first | rfl | decide)) ?_
  refine .rd (.pickF rfl rfl) ?_
  refine .nil ?_
  refine .condF rfl ?_
  refine .skip ?_
  refine .seq ?_
  refine .region ?_
  refine .rd (.move rfl) ?_
  refine .fn rfl rfl .nil (fun _ _ _ => trivial) (pick_ok base 1000 hb (by decide)) (fun v G1 hq => ?_)
  obtain ⟨rfl, rfl⟩ := hq
  simp only [List.nil_append]
  refine .rd (.assign rfl) ?_
  refine .nil ?_
  obtain ⟨base', hbase⟩ : ∃ b : Int, b = pickN base 1000 := ⟨_, rfl⟩
  refine .alter (t := 0) (v' := .int .i64 base') rfl (by rw [hbase]) ?_
  refine .seq ?_
  refine .seq ?_
  refine .region ?_
  refine .rd (.move rfl) ?_
  refine .rd (.lenL rfl rfl Tryd.underlying49 rfl) ?_
  refine .rd (.gt rfl rfl) ?_
  refine .nil ?_
  refine .joinEx (σ := List (List UInt8)) (φ := fun vs => vs.length ≤ 50 ∧ ∃ n, vs = vals.take n) (E' := fun vs => [(0, .int .i64 base'), (1, .slice a vs.length c), (2, .int .i64 offset), (3, .int .i64 err), (10, .pointer (some ⟨pb, 0, none⟩))]) (Γ' := fun vs => [PR pb (new19 101 10 3 [1]), R]) (fun sj hj => ?_) (fun fin => ?_)
  · obtain ⟨vs, rfl⟩ : ∃ vs : List (List UInt8), vs = sj := ⟨sj, rfl⟩
    obtain ⟨hvl, nv, hvs⟩ := hj
    have hq1 := pickN_nn (c := offset) (n := (vs.length : Int) + 2) (by omega)
    have hq2 := pickN_lt (c := offset) (n := (vs.length : Int) + 2) (by omega)
    have kr : Knows [R] (RowAt a (vs.flatMap scell)) := k.mono fun _ h => hvs ▸ RowAt.take_flat nv h
    refine .seq ?_
    refine .region ?_
    refine .rd (.move rfl) ?_
    refine .rd (.move rfl) ?_
    refine .rd (.move rfl) ?_
    refine .rd (.lenL rfl rfl Tryd.underlying49 rfl) ?_
    refine .rd (.add rfl rfl (by omega) (by omega)) ?_
    refine .fn rfl rfl .nil (fun _ _ _ => trivial) (pick_ok offset ((vs.length : Int) + 2) ho (by omega)) (fun v G1 hq => ?_)
    obtain ⟨rfl, rfl⟩ := hq
    simp only [List.nil_append]
    refine .rd (.add rfl rfl (by omega) (by omega)) ?_
    refine .rd (.assign rfl) ?_
    refine .nil ?_
    obtain ⟨off, hoff⟩ : ∃ off : Int, off = base' + pickN offset ((vs.length : Int) + 2) := ⟨_, rfl⟩
    have hob : 0 ≤ off - base' ∧ off - base' < (vs.length : Int) + 2 := by omega
    refine .alter (t := 2) (v' := .int .i64 off) rfl (by rw [hoff]) ?_
    refine .seq ?_
    refine .region ?_
    refine .rd (.move rfl) ?_
    refine .rd (.move rfl) ?_
    refine .rd (.build rfl (bld31_2_3_4 _ _ _)) ?_
    refine .fn rfl rfl (.cons .head .nil) (fun _ _ _ => trivial) (call_go pb 0 (new19 101 10 3 [1]) (rq 3 off) fs0_pi.pb (by decide) (by decide) (may_rq (by omega)) (by show (1 : Int) ≠ 8; decide) (by decide)) (fun v G1 hq => ?_)
    obtain ⟨y1, oa1, oc1, hy1, rfl, rfl⟩ := hq
    simp only [List.cons_append, List.nil_append]
    refine .rd (.move rfl) ?_
    refine .rd (.extract rfl rfl) ?_
    refine .rd (.extract rfl rfl) ?_
    refine .rd (.extract rfl rfl) ?_
    refine .rd (.assign rfl) ?_
    refine .rd (.assign rfl) ?_
    refine .rd (.assign rfl) ?_
    refine .nil ?_
    refine .cast (X' := PR pb (fs1 off y1)) (rfl) ?_
    refine .perm (.cons (.tail .head) (.cons .head (.cons .head .nil))) ?_
    refine .cast (X' := Said oa1 oc1 ([⟨19, 101, 1, 1, 3, off, 0, 0, 0, 0, [], (none, 0, 0)⟩] : List Mg19)) (rfl) ?_
    refine .seq ?_
    refine .seq ?_
    refine .region ?_
    refine .rd (.move rfl) ?_
    refine .rd (.neI rfl rfl) ?_
    refine .alter (t := 57) (v' := .bool false) rfl (congrArg Value.bool (by first | rfl | decide)) ?_
    refine .rd (.move rfl) ?_
    refine .on (t := 58) rfl rfl ?_
    refine .rd (.move rfl) ?_
    refine .on (t := 58) rfl rfl ?_
    refine .rd (.lenL rfl rfl Tryd.underlying29 rfl) ?_
    refine .on (t := 58) rfl rfl ?_
    refine .rd (.neI rfl rfl) ?_
    refine .alter (t := 61) (v' := .bool false) rfl (congrArg Value.bool (by first | rfl | decide)) ?_
    refine .rd (.pickF rfl rfl) ?_
    refine .nil ?_
    refine .condF rfl ?_
    refine .skip ?_
    refine .seq ?_
    refine .region ?_
    refine .rd (.move rfl) ?_
    refine .rd (.build rfl (bld52_0 _)) ?_
    refine .ef (.alloc ti52 rfl (ones.of rfl)) ?_
    rintro _ _ ⟨b15, rfl, rfl⟩
    refine .ef0 (.storeAll (vs := Bt19.cells ⟨base', none, 0, []⟩) ts52 rfl rfl rfl .head rfl (ones.of rfl)) ?_
    rintro _ _ rfl
    refine .nil ?_
    refine .cast (X' := blk b15 (Bt19.cells ⟨base', none, 0, vs.take 0⟩) 52) (by rw [List.take_zero]) ?_
    refine .nilArr 54 3 none ?_
    refine .cast (X' := arr 54 3 none 0 ((vs.take 0).flatMap recC)) (by rw [List.take_zero]; rfl) ?_
    refine .seq ?_
    refine .seq ?_
    refine .region ?_
    refine .rd (.assign rfl) ?_
    refine .nil ?_
    refine .block ?_
    refine .loop (σ := Nat × Option Addr × Nat) (fun ⟨i, ra, rc⟩ => i ≤ vs.length) (fun ⟨i, ra, rc⟩ => vs.length - i) (fun ⟨i, ra, rc⟩ => [(0, .int .i64 base'), (1, .slice a vs.length c), (2, .int .i64 off), (3, .int .i64 err), (10, .pointer (some ⟨pb, 0, none⟩)), (13, .slice oa1 1 oc1), (15, .pointer (some ⟨b15, 0, none⟩)), (16, .int .i64 (i : Nat))]) (fun ⟨i, ra, rc⟩ => [PR pb (fs1 off y1), Said oa1 oc1 ([⟨19, 101, 1, 1, 3, off, 0, 0, 0, 0, [], (none, 0, 0)⟩] : List Mg19), blk b15 (Bt19.cells ⟨base', ra, rc, vs.take i⟩) 52, arr 54 3 ra rc ((vs.take i).flatMap recC), R]) (0, none, 0) (Nat.zero_le _) (.cons rfl (.cons rfl (.cons rfl (.cons rfl (.cons rfl (.cons rfl (.cons rfl (.cons rfl .nil)))))))) (.cons (.tail (.tail (.tail .head))) (.cons (.tail (.tail .head)) (.cons (.tail .head) (.cons .head (.cons .head .nil))))) (fun s' hI ih => ?_)
    obtain ⟨i, ra, rc⟩ := s'
    dsimp only at hI ih ⊢
    refine .seq ?_
    refine .seq ?_
    refine .region ?_
    refine .rd (.move rfl) ?_
    refine .rd (.move rfl) ?_
    refine .rd (.lenL rfl rfl Tryd.underlying49 rfl) ?_
    refine .rd (.lt rfl rfl) ?_
    refine .nil ?_
    refine .condP rfl (fun h14 => ?_) (fun h14 => ?_)
    · refine .skip ?_
      refine .seq ?_
      refine .block ?_
      obtain ⟨v, hv⟩ : ∃ v, vs[i]? = some v := ⟨_, List.getElem?_eq_getElem (by omega)⟩
      refine .tell (φ := ∃ b o, a = some ⟨b, o, none⟩) (Knows.pick (.tail (.tail (.tail (.tail .head)))) (kr.mono fun _ h => RowAt.addr h (by rw [flat_length scell_len]; omega))) (fun hh => ?_)
      obtain ⟨b9, o9, hab⟩ := hh
      have htl : (vs.take i).length = i := by rw [List.length_take]; omega
      refine .draws [1, 5] [blk b15 (Bt19.cells ⟨base', ra, rc, vs.take i⟩) 52, R] (by kernel_rfl) ?_
      refine .rp 0 rfl (by kernel_rfl) (by kernel_rfl) (by kernel_rfl) (Reads.pure (.fieldAddr fd52_5 rfl)) ?_
      refine .rd 1 rfl rfl (by kernel_rfl) (by kernel_rfl) (by kernel_rfl) (.ld na50 rfl .head rfl) (.cons (.tail (.tail .head)) (.cons (.tail (.tail (.tail .head))) .nil)) ?_
      refine .rp 2 rfl (by kernel_rfl) (by kernel_rfl) (by kernel_rfl) (Reads.pure (.move rfl)) ?_
      refine .rp 3 rfl (by kernel_rfl) (by kernel_rfl) (by kernel_rfl) (Reads.pure (.move rfl)) ?_
      refine .rp 4 rfl (by kernel_rfl) (by kernel_rfl) (by kernel_rfl) (Reads.pure (.indexAddr (b := b9) (o := o9) Tryd.underlying49 ts9 (by show some (Value.slice a _ _) = _; rw [hab]) rfl (by omega) (by omega))) ?_
      refine .rd 5 rfl rfl (by kernel_rfl) (by kernel_rfl) (by kernel_rfl) (.load na9 rfl (Knows.one (i := 0) (Knows.elem (f := scell) scell_len (by decide) (Knows.pick (.tail .head) (kr.mono fun _ h => hab ▸ h)) hv) rfl)) (.cons (.tail (.tail .head)) (.cons (.tail (.tail (.tail .head))) .nil)) ?_
      refine .rp 6 rfl (by kernel_rfl) (by kernel_rfl) (by kernel_rfl) (Reads.pure (.build rfl (bld54_1 _))) ?_
      refine .ef 7 (by kernel_rfl) rfl (.buildOne (cs := recC v) Tryd.underlying50 ti54 (by decide) rfl rfl rfl (ones.of rfl)) ?_
      rintro _ _ ⟨bs, rfl, rfl⟩
      refine ⟨.inr ⟨_, (.cons (.tail (.tail (.tail .head))) (.cons (.tail (.tail (.tail (.tail .head)))) .nil))⟩, ?_⟩
      refine .ef 8 (by kernel_rfl) rfl (.append rfl rfl Tryd.underlying50 ti54 rfl (ones.of rfl) (by decide) (by decide) rfl rfl (.tail (.tail (.tail (.tail .head)))) (n := (vs.take i).length) (m := 1) (flat_length recC_len _) (.srcBlk (ys := recC v) .head Tryd.underlying50 rfl (by decide)) (by omega)) ?_
      rintro _ _ ⟨qa, qc, rfl, qn, rfl⟩
      refine ⟨.inl (by kernel_rfl), ?_⟩
      refine .rp 9 rfl (by kernel_rfl) (by kernel_rfl) (by kernel_rfl) (Reads.pure (.fieldAddr fd52_5 rfl)) ?_
      refine .ef0 10 (by kernel_rfl) rfl (.store ts50 rfl rfl (.tail (.tail (.tail (.tail .head)))) rfl (Nat.le_of_ble_eq_true rfl)) ?_
      rintro _ _ rfl
      refine ⟨.inl (by kernel_rfl), ?_⟩
      refine .done (by kernel_rfl) ?_
      have htk : vs.take (i + 1) = vs.take i ++ [v] := by rw [List.take_add_one, hv]; rfl
      refine .perm (.cons (.tail .head) (.cons .head (.cons .head (.cons .head (.cons .head (.cons .head .nil)))))) ?_
      refine .cast (X' := arr 54 3 qa qc ((vs.take (i + 1)).flatMap recC)) (by rw [htk, List.flatMap_append]; simp) ?_
      refine .perm (.cons (.tail .head) (.cons .head (.cons .head (.cons .head (.cons .head (.cons .head .nil)))))) ?_
      refine .cast (X' := blk b15 (Bt19.cells ⟨base', qa, qc, vs.take (i + 1)⟩) 52) (by unfold Bt19.cells; dsimp only; rw [htk, List.length_append]; rfl) ?_
      skip
      refine .inBlock ?_
      refine .region ?_
      refine .rd (.move rfl) ?_
      refine .rd (.add rfl rfl (by omega) (by omega)) ?_
      refine .rd (.assign rfl) ?_
      refine .nil ?_
      exact (ih (i + 1, qa, qc) (by show i + 1 ≤ _; omega) (by show vs.length - (i + 1) < vs.length - i; omega)).to (.cons rfl (.cons rfl (.cons rfl (.cons rfl (.cons rfl (.cons rfl (.cons rfl (.cons rfl .nil)))))))) (.cons (.tail (.tail (.tail .head))) (.cons (.tail (.tail (.tail .head))) (.cons .head (.cons .head (.cons (.tail .head) .nil)))))
    · obtain rfl : i = vs.length := by omega
      refine .perm (.cons (.tail (.tail .head)) (.cons .head (.cons .head (.cons .head (.cons .head .nil))))) ?_
      refine .cast (X' := blk b15 (Bt19.cells ⟨base', ra, rc, vs⟩) 52) (by rw [List.take_length]) ?_
      refine .perm (.cons (.tail (.tail (.tail .head))) (.cons .head (.cons .head (.cons .head (.cons .head .nil))))) ?_
      refine .cast (X' := arr 54 3 ra rc (vs.flatMap recC)) (by rw [List.take_length]) ?_
      refine .exit rfl ?_
      refine .seq ?_
      refine .seq ?_
      refine .region ?_
      refine RunO.join 6 86 (decide (err = 15 ∨ err = 22)) ?_ ?_
      · refine .rd (.move rfl) ?_
        refine .rd (.eqI rfl rfl) ?_
        refine .rd (.move rfl) ?_
        refine .split (t := 83) rfl (fun g17 => ?_) (fun g17 => ?_)
        · replace g17 := of_decide_eq_true g17
          refine .off (t := 83) rfl rfl rfl ?_
          refine .off (t := 83) rfl rfl rfl ?_
          refine .rd (.pickT rfl rfl) ?_
          refine .nil ⟨rfl, ?_, by repeat (first | exact Le.refl _ | refine Le.skip rfl ?_)⟩
          exact congrArg (fun x => some (Value.bool x)) (Eq.symm (show decide (err = 15 ∨ err = 22) = _ by simp [g17]))
        · replace g17 := of_decide_eq_false g17
          refine .on (t := 83) rfl rfl ?_
          refine .rd (.move rfl) ?_
          refine .on (t := 83) rfl rfl ?_
          refine .rd (.eqI rfl rfl) ?_
          refine .rd (.pickF rfl rfl) ?_
          refine .nil ⟨rfl, ?_, by repeat (first | exact Le.refl _ | refine Le.skip rfl ?_)⟩
          exact congrArg (fun x => some (Value.bool x)) (Eq.symm (show decide (err = 15 ∨ err = 22) = _ by simp [g17]))
      refine .nil ?_
      refine .joinEx (σ := Int) (φ := fun err' => err' ≠ 15 ∧ err' ≠ 22) (E' := fun err' => [(0, .int .i64 base'), (1, .slice a vs.length c), (2, .int .i64 off), (3, .int .i64 err'), (10, .pointer (some ⟨pb, 0, none⟩)), (13, .slice oa1 1 oc1), (15, .pointer (some ⟨b15, 0, none⟩))]) (Γ' := fun err' => [PR pb (fs1 off y1), Said oa1 oc1 ([⟨19, 101, 1, 1, 3, off, 0, 0, 0, 0, [], (none, 0, 0)⟩] : List Mg19), blk b15 (Bt19.cells ⟨base', ra, rc, vs⟩) 52, arr 54 3 ra rc ((vs).flatMap recC), R]) (fun sj hj => ?_) (fun fin => ?_)
      · obtain ⟨err', rfl⟩ : ∃ e : Int, e = sj := ⟨sj, rfl⟩
        obtain ⟨he1, he2⟩ := hj
        refine .seq ?_
        refine .tell (φ := ∃ b o, oa1 = some ⟨b, o, none⟩) ((Knows.arr (cs := ([⟨19, 101, 1, 1, 3, off, 0, 0, 0, 0, [], (none, 0, 0)⟩] : List Mg19).flatMap Mg19.cells) (.tail .head)).mono fun _ h => RowAt.addr h (by rw [flat_length Mg19.cells_len]; exact Nat.lt_of_sub_eq_succ rfl)) (fun hh => ?_)
        obtain ⟨dz1, ez1, hdz1⟩ := hh
        refine .draws [4, 6] [Said oa1 oc1 ([⟨19, 101, 1, 1, 3, off, 0, 0, 0, 0, [], (none, 0, 0)⟩] : List Mg19), blk b15 (Bt19.cells ⟨base', ra, rc, vs⟩) 52] (by kernel_rfl) ?_
        refine .rp 0 rfl (by kernel_rfl) (by kernel_rfl) (by kernel_rfl) (Reads.pure (.move rfl)) ?_
        refine .rp 1 rfl (by kernel_rfl) (by kernel_rfl) (by kernel_rfl) (Reads.pure (.move rfl)) ?_
        refine .rp 2 rfl (by kernel_rfl) (by kernel_rfl) (by kernel_rfl) (Reads.pure (.indexAddr (b := dz1) (o := ez1) Tryd.underlying29 ts35 (by show some (Value.slice oa1 _ _) = _; rw [hdz1]) rfl (by decide) (by decide))) ?_
        refine .rp 3 rfl (by kernel_rfl) (by kernel_rfl) (by kernel_rfl) (Reads.pure (.fieldAddr fd35_3 rfl)) ?_
        refine .rd 4 rfl rfl (by kernel_rfl) (by kernel_rfl) (by kernel_rfl) (.load na3 rfl (Knows.one (i := 3) (Knows.elem (f := Mg19.cells) Mg19.cells_len (by decide) ((Knows.arr (cs := ([⟨19, 101, 1, 1, 3, off, 0, 0, 0, 0, [], (none, 0, 0)⟩] : List Mg19).flatMap Mg19.cells) .head).mono fun _ h => hdz1 ▸ h) (i := 0) rfl) rfl)) (.cons (.tail .head) (.cons (.tail .head) .nil)) ?_
        refine .rp 5 rfl (by kernel_rfl) (by kernel_rfl) (by kernel_rfl) (Reads.pure (.move rfl)) ?_
        refine .rd 6 rfl rfl (by kernel_rfl) (by kernel_rfl) (by kernel_rfl) (.ldN ia52 ts52 rfl (.tail .head) rfl) (.cons (.tail .head) (.cons (.tail .head) .nil)) ?_
        refine .ef 7 (by kernel_rfl) rfl (.buildOne (cs := Bt19.cells ⟨base', ra, rc, vs⟩) Tryd.underlying32 ti52 (by decide) rfl rfl rfl (ones.of rfl)) ?_
        rintro _ _ ⟨bb, rfl, rfl⟩
        refine ⟨.inr ⟨_, (.cons (.tail (.tail .head)) (.cons (.tail (.tail .head)) .nil))⟩, ?_⟩
        refine .rp 8 rfl (by kernel_rfl) (by kernel_rfl) (by kernel_rfl) (Reads.pure (.build rfl (bld35_0_1_2_3_15_18 _ _ _ _ _ _ _ _))) ?_
        refine .ef 9 (by kernel_rfl) rfl (.fn rfl rfl (.cons (.tail .head) .nil) (fun A w h => ⟨by unfold fm; simpa using rowBlk ((Knows.blk .head) A w h), fun b hb => by rcases List.mem_singleton.1 hb with rfl; exact (Knows.arr (.tail (.tail (.tail .head)))) A w h⟩) (step_ok pb 1 (fs1 off y1) (fm err' base' ra rc vs) (some ⟨bb, 0, none⟩) 1 (fs1_pi (by omega) y1).pb (fs1_pi (by omega) y1).po (Nat.zero_le _) (fm_ok (by omega) (by omega)) (by decide))) ?_
        rintro v _ ⟨G1, hq, rfl⟩
        obtain ⟨rfl, rfl⟩ := hq
        simp only [List.cons_append, List.nil_append]
        refine ⟨.inl (by kernel_rfl), ?_⟩
        refine .done (by kernel_rfl) ?_
        refine .seq ?_
        refine .region ?_
        refine .rd (.move rfl) ?_
        refine .fn rfl rfl (.cons .head .nil) (fun _ _ _ => trivial) (done_ok pb (step (fs1 off y1) 1 (fm err' base' ra rc vs))) (fun v G1 hq => ?_)
        obtain ⟨ea1, ec1, rfl, rfl⟩ := hq
        simp only [List.cons_append, List.nil_append]
        refine .rd (.assign rfl) ?_
        refine .nil ?_
        refine .seq ?_
        refine .seq ?_
        have hen := finds_ended (base := base') (off := off) (ra := ra) (rc := rc) (vs := vs) (z := y1) he1 he2
        have hop := finds_open (base := base') (off := off) (ra := ra) (rc := rc) (vs := vs) (z := y1) he1 he2
        obtain ⟨hfo, hfp⟩ := fe_keep (err := err') (base := base') (off := off) (ra := ra) (rc := rc) (vs := vs) (z := y1)
        refine .perm (.cons (.tail .head) (.cons .head (.cons .head (.cons .head (.cons .head (.cons .head (.cons .head .nil))))))) ?_
        refine .cast (X' := arr 31 12 ea1 ec1 (([(fe err' base' off ra rc vs y1)] : List Sn19).flatMap Sn19.cells)) (by rw [hen]) ?_
        refine .tell (φ := ∃ b o, ea1 = some ⟨b, o, none⟩) ((Knows.arr (cs := ([(fe err' base' off ra rc vs y1)] : List Sn19).flatMap Sn19.cells) .head).mono fun _ h => RowAt.addr h (by rw [flat_length Sn19.cells_len]; exact Nat.lt_of_sub_eq_succ rfl)) (fun hh => ?_)
        obtain ⟨de1, ee1, hde1⟩ := hh
        refine .region ?_
        refine .rd (.move rfl) ?_
        refine .rd (.lenL rfl rfl Tryd.underlying45 rfl) ?_
        refine .rd (.neI rfl rfl) ?_
        refine .alter (t := 101) (v' := .bool false) rfl (congrArg Value.bool (by rw [hen]; rfl)) ?_
        refine .rd (.move rfl) ?_
        refine .on (t := 102) rfl rfl ?_
        refine .rd (.move rfl) ?_
        refine .on (t := 102) rfl rfl ?_
        refine .rd (.indexAddr (b := de1) (o := ee1) Tryd.underlying45 ts31 (by show some (Value.slice ea1 _ _) = _; rw [hde1]) rfl (by decide) (by rw [hen]; show (0 : Int) < ((1 : Nat) : Int); decide)) ?_
        refine .on (t := 102) rfl rfl ?_
        refine .rd (.fieldAddr fd31_4 rfl) ?_
        refine .on (t := 102) rfl rfl ?_
        refine .rd (.load na3 rfl (Knows.one (i := 4) (Knows.elem (f := Sn19.cells) Sn19.cells_len (by decide) ((Knows.arr (cs := ([(fe err' base' off ra rc vs y1)] : List Sn19).flatMap Sn19.cells) .head).mono fun _ h => hde1 ▸ h) (i := 0) rfl) rfl)) ?_
        refine .on (t := 102) rfl rfl ?_
        refine .rd (.move rfl) ?_
        refine .on (t := 102) rfl rfl ?_
        refine .rd (.neI rfl rfl) ?_
        refine .alter (t := 108) (v' := .bool false) rfl (congrArg Value.bool (by rw [hfo]; simp)) ?_
        refine .rd (.pickF rfl rfl) ?_
        refine .rd (.move rfl) ?_
        refine .on (t := 110) rfl rfl ?_
        refine .rd (.move rfl) ?_
        refine .on (t := 110) rfl rfl ?_
        refine .rd (.indexAddr (b := de1) (o := ee1) Tryd.underlying45 ts31 (by show some (Value.slice ea1 _ _) = _; rw [hde1]) rfl (by decide) (by rw [hen]; show (0 : Int) < ((1 : Nat) : Int); decide)) ?_
        refine .on (t := 110) rfl rfl ?_
        refine .rd (.fieldAddr fd31_3 rfl) ?_
        refine .on (t := 110) rfl rfl ?_
        refine .rd (.load na3 rfl (Knows.one (i := 3) (Knows.elem (f := Sn19.cells) Sn19.cells_len (by decide) ((Knows.arr (cs := ([(fe err' base' off ra rc vs y1)] : List Sn19).flatMap Sn19.cells) .head).mono fun _ h => hde1 ▸ h) (i := 0) rfl) rfl)) ?_
        refine .on (t := 110) rfl rfl ?_
        refine .rd (.neI rfl rfl) ?_
        refine .alter (t := 115) (v' := .bool false) rfl (congrArg Value.bool (by rw [hfp]; rfl)) ?_
        refine .rd (.pickF rfl rfl) ?_
        refine .rd (.move rfl) ?_
        refine .on (t := 117) rfl rfl ?_
        refine .rd (.move rfl) ?_
        refine .on (t := 117) rfl rfl ?_
        refine .fn rfl rfl (.cons (.tail .head) .nil) (fun _ _ _ => trivial) (open_ok pb (done19 (step (fs1 off y1) 1 (fm err' base' ra rc vs)))) (fun v G1 hq => ?_)
        obtain ⟨rfl, rfl⟩ := hq
        simp only [List.cons_append, List.nil_append]
        refine .on (t := 117) rfl rfl ?_
        refine .rd (.neI rfl rfl) ?_
        refine .alter (t := 120) (v' := .bool false) rfl (congrArg Value.bool (by show (!decide ((((step (fs1 off y1) 1 (fm err' base' ra rc vs)).open_.length : Nat) : Int) = 0)) = false; rw [hop]; rfl)) ?_
        refine .rd (.pickF rfl rfl) ?_
        refine .nil ?_
        refine .condF rfl ?_
        refine .skip ?_
        refine .seq ?_
        refine .block ?_
        refine .seq ?_
        refine .region ?_
        refine .rd (.move rfl) ?_
        refine .rd (.neI rfl rfl) ?_
        refine .rd (.assign rfl) ?_
        refine .nil ?_
        refine .condN rfl (fun h23 => ?_) (fun h23 => ?_)
        · have hfe := fe_err (err := err') (base := base') (off := off) (ra := ra) (rc := rc) (vs := vs) (z := y1) h23
          refine .seq ?_
          refine .region ?_
          refine .rd (.move rfl) ?_
          refine .rd (.indexAddr (b := de1) (o := ee1) Tryd.underlying45 ts31 (by show some (Value.slice ea1 _ _) = _; rw [hde1]) rfl (by decide) (by rw [hen]; show (0 : Int) < ((1 : Nat) : Int); decide)) ?_
          refine .rd (.fieldAddr fd31_10 rfl) ?_
          refine .rd (.load na25 rfl (Knows.one (i := 10) (Knows.elem (f := Sn19.cells) Sn19.cells_len (by decide) ((Knows.arr (cs := ([(fe err' base' off ra rc vs y1)] : List Sn19).flatMap Sn19.cells) (.tail .head)).mono fun _ h => hde1 ▸ h) (i := 0) rfl) rfl)) ?_
          refine .rd (.move rfl) ?_
          refine .rd (.eqI rfl rfl) ?_
          refine .alter (t := 130) (v' := .bool true) rfl (congrArg Value.bool (decide_eq_true (by rw [hfe]))) ?_
          refine .rd (.move rfl) ?_
          refine .on (t := 131) rfl rfl ?_
          refine .rd (.move rfl) ?_
          refine .on (t := 131) rfl rfl ?_
          refine .rd (.indexAddr (b := de1) (o := ee1) Tryd.underlying45 ts31 (by show some (Value.slice ea1 _ _) = _; rw [hde1]) rfl (by decide) (by rw [hen]; show (0 : Int) < ((1 : Nat) : Int); decide)) ?_
          refine .on (t := 131) rfl rfl ?_
          refine .rd (.fieldAddr fd31_9 rfl) ?_
          refine .on (t := 131) rfl rfl ?_
          refine .rd (.load na9 rfl (Knows.one (i := 9) (Knows.elem (f := Sn19.cells) Sn19.cells_len (by decide) ((Knows.arr (cs := ([(fe err' base' off ra rc vs y1)] : List Sn19).flatMap Sn19.cells) (.tail .head)).mono fun _ h => hde1 ▸ h) (i := 0) rfl) rfl)) ?_
          refine .on (t := 131) rfl rfl ?_
          refine .rd (.eqT (m := []) rfl rfl) ?_
          refine .alter (t := 136) (v' := .bool true) rfl (congrArg Value.bool (decide_eq_true (by rw [hfe]))) ?_
          refine .rd (.pickT rfl rfl) ?_
          refine .rd (.assign rfl) ?_
          refine .nil ?_
          refine .retP Tryd.func5 (.cons (.tmp rfl) .nil) (.cons (.tail (.tail (.tail (.tail (.tail (.tail .head)))))) .nil) ?_
          exact ⟨[], ⟨rfl, rfl⟩, rfl⟩
        · have he0 : err' = 0 := by simpa using h23
          refine .seq ?_
          refine .region ?_
          refine .rd (.move rfl) ?_
          refine .rd (.move rfl) ?_
          refine .rd (.sub rfl rfl (by omega) (by omega)) ?_
          refine .rd (.move rfl) ?_
          refine .rd (.lenL rfl rfl Tryd.underlying49 rfl) ?_
          refine .rd (.ge rfl rfl) ?_
          refine .rd (.assign rfl) ?_
          refine .nil ?_
          refine .condP rfl (fun h25 => ?_) (fun h25 => ?_)
          · have hfe : (fe err' base' off ra rc vs y1) = ⟨101, 1, 1, 3, off, 0, 0, 0, [], [], 8, true⟩ := by rw [he0]; exact fe_none (base := base') (off := off) (ra := ra) (rc := rc) (vs := vs) (z := y1) (by omega)
            refine .seq ?_
            refine .region ?_
            refine .rd (.move rfl) ?_
            refine .rd (.indexAddr (b := de1) (o := ee1) Tryd.underlying45 ts31 (by show some (Value.slice ea1 _ _) = _; rw [hde1]) rfl (by decide) (by rw [hen]; show (0 : Int) < ((1 : Nat) : Int); decide)) ?_
            refine .rd (.fieldAddr fd31_10 rfl) ?_
            refine .rd (.load na25 rfl (Knows.one (i := 10) (Knows.elem (f := Sn19.cells) Sn19.cells_len (by decide) ((Knows.arr (cs := ([(fe err' base' off ra rc vs y1)] : List Sn19).flatMap Sn19.cells) (.tail .head)).mono fun _ h => hde1 ▸ h) (i := 0) rfl) rfl)) ?_
            refine .rd (.eqI rfl rfl) ?_
            refine .alter (t := 149) (v' := .bool true) rfl (congrArg Value.bool (decide_eq_true (by rw [hfe]))) ?_
            refine .rd (.move rfl) ?_
            refine .on (t := 150) rfl rfl ?_
            refine .rd (.move rfl) ?_
            refine .on (t := 150) rfl rfl ?_
            refine .rd (.indexAddr (b := de1) (o := ee1) Tryd.underlying45 ts31 (by show some (Value.slice ea1 _ _) = _; rw [hde1]) rfl (by decide) (by rw [hen]; show (0 : Int) < ((1 : Nat) : Int); decide)) ?_
            refine .on (t := 150) rfl rfl ?_
            refine .rd (.fieldAddr fd31_9 rfl) ?_
            refine .on (t := 150) rfl rfl ?_
            refine .rd (.load na9 rfl (Knows.one (i := 9) (Knows.elem (f := Sn19.cells) Sn19.cells_len (by decide) ((Knows.arr (cs := ([(fe err' base' off ra rc vs y1)] : List Sn19).flatMap Sn19.cells) (.tail .head)).mono fun _ h => hde1 ▸ h) (i := 0) rfl) rfl)) ?_
            refine .on (t := 150) rfl rfl ?_
            refine .rd (.eqT (m := []) rfl rfl) ?_
            refine .alter (t := 155) (v' := .bool true) rfl (congrArg Value.bool (decide_eq_true (by rw [hfe]))) ?_
            refine .rd (.pickT rfl rfl) ?_
            refine .rd (.assign rfl) ?_
            refine .nil ?_
            refine .retP Tryd.func5 (.cons (.tmp rfl) .nil) (.cons (.tail (.tail (.tail (.tail (.tail (.tail .head)))))) .nil) ?_
            exact ⟨[], ⟨rfl, rfl⟩, rfl⟩
          · obtain ⟨t, ht⟩ : ∃ t, vs[(off - base').toNat]? = some t := ⟨_, List.getElem?_eq_getElem (by omega)⟩
            have hfe : fe err' base' off ra rc vs y1 = ⟨101, 1, 1, 3, off, 0, 0, 0, [], t, 0, true⟩ := by rw [he0]; exact fe_some (base := base') (off := off) (ra := ra) (rc := rc) (vs := vs) (z := y1) (by omega) ht
            refine .tell (φ := ∃ b o, a = some ⟨b, o, none⟩) (Knows.pick (.tail (.tail (.tail (.tail (.tail (.tail .head)))))) (kr.mono fun _ h => RowAt.addr h (by rw [flat_length scell_len]; omega))) (fun hh => ?_)
            obtain ⟨b9, o9, hab⟩ := hh
            refine .skip ?_
            refine .inBlock ?_
            refine .seq ?_
            refine .draws [3, 9, 15] [arr 31 12 ea1 ec1 ((([(fe err' base' off ra rc vs y1)] : List Sn19)).flatMap Sn19.cells), R] (by kernel_rfl) ?_
            refine .rp 0 rfl (by kernel_rfl) (by kernel_rfl) (by kernel_rfl) (Reads.pure (.move rfl)) ?_
            refine .rp 1 rfl (by kernel_rfl) (by kernel_rfl) (by kernel_rfl) (Reads.pure (.indexAddr (b := de1) (o := ee1) Tryd.underlying45 ts31 (by show some (Value.slice ea1 _ _) = _; rw [hde1]) rfl (by decide) (by rw [hen]; show (0 : Int) < ((1 : Nat) : Int); decide))) ?_
            refine .rp 2 rfl (by kernel_rfl) (by kernel_rfl) (by kernel_rfl) (Reads.pure (.fieldAddr fd31_10 rfl)) ?_
            refine .rd 3 rfl rfl (by kernel_rfl) (by kernel_rfl) (by kernel_rfl) (.load na25 rfl (Knows.one (i := 10) (Knows.elem (f := Sn19.cells) Sn19.cells_len (by decide) ((Knows.arr (cs := ([(fe err' base' off ra rc vs y1)] : List Sn19).flatMap Sn19.cells) .head).mono fun _ h => hde1 ▸ h) (i := 0) rfl) rfl)) (.cons (.tail .head) (.cons (.tail (.tail (.tail (.tail (.tail .head))))) .nil)) ?_
            refine .rp 4 rfl (by kernel_rfl) (by kernel_rfl) (by kernel_rfl) (Reads.pure (.eqI rfl rfl)) ?_
            refine .alter (t := 161) (v' := .bool true) rfl (congrArg Value.bool (decide_eq_true (by rw [hfe]))) ?_
            refine .rp 5 rfl (by kernel_rfl) (by kernel_rfl) (by kernel_rfl) (Reads.pure (.move rfl)) ?_
            refine .rpG 6 (t := 162) rfl rfl rfl (by kernel_rfl) (by kernel_rfl) (by kernel_rfl) (Reads.pure (.move rfl)) ?_
            refine .rpG 7 (t := 162) rfl rfl rfl (by kernel_rfl) (by kernel_rfl) (by kernel_rfl) (Reads.pure (.indexAddr (b := de1) (o := ee1) Tryd.underlying45 ts31 (by show some (Value.slice ea1 _ _) = _; rw [hde1]) rfl (by decide) (by rw [hen]; show (0 : Int) < ((1 : Nat) : Int); decide))) ?_
            refine .rpG 8 (t := 162) rfl rfl rfl (by kernel_rfl) (by kernel_rfl) (by kernel_rfl) (Reads.pure (.fieldAddr fd31_9 rfl)) ?_
            refine .rdG 9 (t := 162) rfl rfl rfl rfl (by kernel_rfl) (by kernel_rfl) (by kernel_rfl) (.load na9 rfl (Knows.one (i := 9) (Knows.elem (f := Sn19.cells) Sn19.cells_len (by decide) ((Knows.arr (cs := ([(fe err' base' off ra rc vs y1)] : List Sn19).flatMap Sn19.cells) .head).mono fun _ h => hde1 ▸ h) (i := 0) rfl) rfl)) (.cons (.tail .head) (.cons (.tail (.tail (.tail (.tail (.tail .head))))) .nil)) ?_
            refine .rpG 10 (t := 162) rfl rfl rfl (by kernel_rfl) (by kernel_rfl) (by kernel_rfl) (Reads.pure (.move rfl)) ?_
            refine .rpG 11 (t := 162) rfl rfl rfl (by kernel_rfl) (by kernel_rfl) (by kernel_rfl) (Reads.pure (.move rfl)) ?_
            refine .rpG 12 (t := 162) rfl rfl rfl (by kernel_rfl) (by kernel_rfl) (by kernel_rfl) (Reads.pure (.move rfl)) ?_
            refine .rpG 13 (t := 162) rfl rfl rfl (by kernel_rfl) (by kernel_rfl) (by kernel_rfl) (Reads.pure (.sub rfl rfl (by omega) (by omega))) ?_
            refine .rpG 14 (t := 162) rfl rfl rfl (by kernel_rfl) (by kernel_rfl) (by kernel_rfl) (Reads.pure (.indexAddr (b := b9) (o := o9) Tryd.underlying49 ts9 (by show some (Value.slice a _ _) = _; rw [hab]) rfl (by omega) (by omega))) ?_
            refine .rdG 15 (t := 162) rfl rfl rfl rfl (by kernel_rfl) (by kernel_rfl) (by kernel_rfl) (.load na9 rfl (Knows.one (i := 0) (Knows.elem (f := scell) scell_len (by decide) (Knows.pick (.tail .head) (kr.mono fun _ h => hab ▸ h)) ht) rfl)) (.cons (.tail .head) (.cons (.tail (.tail (.tail (.tail (.tail .head))))) .nil)) ?_
            refine .rpG 16 (t := 162) rfl rfl rfl (by kernel_rfl) (by kernel_rfl) (by kernel_rfl) (Reads.pure (.eqT (m := t) rfl rfl)) ?_
            refine .alter (t := 173) (v' := .bool true) rfl (congrArg Value.bool (decide_eq_true (by rw [hfe]))) ?_
            refine .rp 17 rfl (by kernel_rfl) (by kernel_rfl) (by kernel_rfl) (Reads.pure (.pickT rfl rfl)) ?_
            refine .rp 18 rfl (by kernel_rfl) (by kernel_rfl) (by kernel_rfl) (Reads.pure (.assign rfl)) ?_
            refine .done (by kernel_rfl) ?_
            refine .retP Tryd.func5 (.cons (.tmp rfl) .nil) (.cons (.tail (.tail (.tail (.tail (.tail (.tail .head)))))) .nil) ?_
            exact ⟨[], ⟨rfl, rfl⟩, rfl⟩
      · refine .condP rfl (fun h17 => ?_) (fun h17 => ?_)
        · refine .region ?_
          refine .rd (.assign rfl) ?_
          refine .nil ?_
          exact fin 10 ⟨by decide, by decide⟩ (.cons rfl (.cons rfl (.cons rfl (.cons rfl (.cons rfl (.cons rfl (.cons rfl .nil))))))) (.cons (.tail (.tail .head)) (.cons (.tail (.tail .head)) (.cons (.tail .head) (.cons .head (.cons .head .nil)))))
        · refine .skip ?_
          exact fin err ⟨fun e => h17 (.inl e), fun e => h17 (.inr e)⟩ (.cons rfl (.cons rfl (.cons rfl (.cons rfl (.cons rfl (.cons rfl (.cons rfl .nil))))))) (.cons (.tail (.tail .head)) (.cons (.tail (.tail .head)) (.cons (.tail .head) (.cons .head (.cons .head .nil)))))
  · refine .condP rfl (fun h6 => ?_) (fun h6 => ?_)
    · refine .tell (φ := ∃ b o, a = some ⟨b, o, none⟩) (Knows.pick (.tail (.tail .head)) (k.mono fun _ h => RowAt.addr h (by rw [flat_length scell_len]; omega))) (fun hh => ?_)
      obtain ⟨b9, o9, hab⟩ := hh
      refine .region ?_
      refine .rd (.move rfl) ?_
      refine .rd (.slice (l := 0) (h := 50) (m := c) Tryd.underlying49 ts9 rfl rfl ⟨_, rfl⟩ rfl (by omega) (by omega) (by omega)) ?_
      refine .rd (.assign rfl) ?_
      refine .nil ?_
      refine .alter (t := 1) (v' := .slice a (vals.take 50).length c) rfl (by rw [List.length_take, Nat.min_eq_left (by omega), if_neg (by omega), hab]; simp [Addr_add]) ?_
      exact fin (vals.take 50) ⟨by rw [List.length_take]; omega, 50, rfl⟩ (.cons rfl (.cons rfl (.cons rfl (.cons rfl (.cons rfl .nil))))) (.cons .head (.cons (.tail .head) .nil))
    · refine .skip ?_
      exact fin vals ⟨by omega, vals.length, by rw [List.take_length]⟩ (.cons rfl (.cons rfl (.cons rfl (.cons rfl (.cons rfl .nil))))) (.cons .head (.cons (.tail .head) .nil))

end Go.Proofs.YtankogdnhgmkhaaDoor

