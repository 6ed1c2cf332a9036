/- Part 2 of a claim's texts: rules for the machine's steps, and steps through functions of the program, under the conditions that each theorem states. -/
import Derived.Test.YtankogdnhgmkhaaDoorProg
import Derived.KernelRfl
import Derived.Test.YtankogdnhgmkhaaDoorEnds1
set_option linter.unusedVariables false
namespace Go.Proofs.YtankogdnhgmkhaaDoor
open Go Go.Sp

set_option linter.unusedVariables false

namespace con8
theorem fd31_2 : FD Tryd.prog 31 2 2 := .of Tryd.underlying31 (by kernel_rfl)
theorem na3 : NotAgg Tryd.prog 3 := ⟨_, Tryd.underlying3, trivial⟩
theorem fd31_5 : FD Tryd.prog 31 5 5 := .of Tryd.underlying31 (by kernel_rfl)
theorem ts3 : TS Tryd.prog 3 1 := .of (by kernel_rfl)
theorem fd31_7 : FD Tryd.prog 31 7 7 := .of Tryd.underlying31 (by kernel_rfl)
theorem fd31_10 : FD Tryd.prog 31 10 10 := .of Tryd.underlying31 (by kernel_rfl)
theorem ts25 : TS Tryd.prog 25 1 := .of (by kernel_rfl)
theorem fd35_18 : FD Tryd.prog 35 18 18 := .of Tryd.underlying35 (by kernel_rfl)
theorem na32 : NotAgg Tryd.prog 32 := ⟨_, Tryd.underlying32, trivial⟩
theorem ts52 : TS Tryd.prog 52 6 := .of (by kernel_rfl)
theorem ia52 : IsAgg Tryd.prog 52 := ⟨_, Tryd.underlying52, trivial⟩
theorem ti52 : TI Tryd.prog 52 6 64 (.agg #[.int .i64 0, .int .i64 0, .int .i64 0, .int .i64 0, .int .i64 0, .slice none 0 0]) := .of (by kernel_rfl)
theorem fd31_4 : FD Tryd.prog 31 4 4 := .of Tryd.underlying31 (by kernel_rfl)
theorem fd52_0 : FD Tryd.prog 52 0 0 := .of Tryd.underlying52 (by kernel_rfl)
theorem fd52_5 : FD Tryd.prog 52 5 5 := .of Tryd.underlying52 (by kernel_rfl)
theorem na50 : NotAgg Tryd.prog 50 := ⟨_, Tryd.underlying50, trivial⟩
theorem ts54 : TS Tryd.prog 54 3 := .of (by kernel_rfl)
theorem fd54_1 : FD Tryd.prog 54 1 1 := .of Tryd.underlying54 (by kernel_rfl)
theorem na9 : NotAgg Tryd.prog 9 := ⟨_, Tryd.underlying9, trivial⟩
theorem fd31_9 : FD Tryd.prog 31 9 9 := .of Tryd.underlying31 (by kernel_rfl)
theorem ts9 : TS Tryd.prog 9 1 := .of (by kernel_rfl)
theorem fd35_12 : FD Tryd.prog 35 12 12 := .of Tryd.underlying35 (by kernel_rfl)
theorem fd35_14 : FD Tryd.prog 35 14 14 := .of Tryd.underlying35 (by kernel_rfl)
theorem fd35_20 : FD Tryd.prog 35 20 20 := .of Tryd.underlying35 (by kernel_rfl)
theorem na28 : NotAgg Tryd.prog 28 := ⟨_, Tryd.underlying28, trivial⟩
theorem fd35_6 : FD Tryd.prog 35 6 6 := .of Tryd.underlying35 (by kernel_rfl)
end con8
open con8

theorem told_hit {off : Int} {b : Bt19} {l : List Bt19} (h : 0 ≤ off - b.base ∧ off - b.base < b.recs.length) : toldAt off (b :: l) = some (b.recs.getD (off - b.base).toNat []) := if_pos h
theorem told_miss {off : Int} {b : Bt19} {l : List Bt19} (h : ¬ (0 ≤ off - b.base ∧ off - b.base < b.recs.length)) : toldAt off (b :: l) = toldAt off l := if_neg h
theorem drop_cons {α : Type} {l : List α} {k : Nat} {y : α} (h : l[k]? = some y) : l.drop k = y :: l.drop (k + 1) := by
  obtain ⟨hk, e⟩ := List.getElem?_eq_some_iff.1 h
  rw [List.drop_eq_getElem_cons hk, e]

set_option maxRecDepth 20000 in
theorem join0_ok (sep : List UInt8) : Cn Tryd.prog 52 [.slice none 0 0, .string (str sep)] (fun _ => True) [] fun v G => v = .string (str []) ∧ G = [] := by
  refine .enter Tryd.func52 rfl (by kernel_rfl) rfl fun R k => ?_
  refine .seq ?_
  refine .region ?_
  refine .rd (.assign rfl) ?_
  refine .nil ?_
  refine .seq ?_
  refine .seq ?_
  refine .region ?_
  refine .rd (.move rfl) ?_
  refine .rd (.lenL rfl rfl Tryd.underlying49 rfl) ?_
  refine .nil ?_
  refine .block ?_
  refine .seq ?_
  refine .region ?_
  refine .rd (.eqI rfl rfl) ?_
  refine .rd (.assign rfl) ?_
  refine .nil ?_
  refine .condP rfl (fun c2 => ?_) (fun c2 => absurd c2 (by decide))
  refine .seq ?_
  refine .region ?_
  refine .rd (.assign rfl) ?_
  refine .nil ?_
  refine .retP Tryd.func52 (.cons (.tmp rfl) .nil) (.cons .head .nil) ?_
  exact ⟨[], ⟨rfl, rfl⟩, rfl⟩

set_option maxRecDepth 20000 in
theorem text0_ok : Cn Tryd.prog 42 [.slice none 0 0] (fun _ => True) [] fun v G => v = .string (str []) ∧ G = [] := by
  refine .enter Tryd.func42 rfl (by kernel_rfl) rfl fun R k => ?_
  refine .seq ?_
  refine .region ?_
  refine .rd (.assign rfl) ?_
  refine .nil ?_
  refine .seq ?_
  refine .region ?_
  refine .rd (.assign rfl) ?_
  refine .nil ?_
  refine .seq ?_
  refine .seq ?_
  refine .region ?_
  refine .rd (.move rfl) ?_
  refine .rd (.lenL rfl rfl Tryd.underlying28 rfl) ?_
  refine .rd (.move rfl) ?_
  refine .nil ?_
  refine .block ?_
  refine .loop (σ := Unit) (fun _ => True) (fun _ => 0) (fun _ => [(3, .slice none 0 0), (7, .int .i64 ((0 : Nat) : Int)), (8, .int .i64 0)]) (fun _ => [R]) () trivial (.cons rfl (.cons rfl (.cons rfl .nil))) (.cons .head .nil) (fun s' hI ih => ?_)
  skip
  refine .seq ?_
  refine .region ?_
  refine .rd (.lt rfl rfl) ?_
  refine .nil ?_
  refine .seq ?_
  refine .condP rfl (fun c3 => absurd c3 (by decide)) (fun c3 => ?_)
  refine .exit rfl ?_
  refine .seq ?_
  refine .region ?_
  refine .rd (.move rfl) ?_
  refine .fn rfl rfl .nil (fun _ _ _ => trivial) (join0_ok [44]) (fun v G1 hq => ?_)
  obtain ⟨rfl, rfl⟩ := hq
  simp only [List.nil_append]
  refine .rd (.assign rfl) ?_
  refine .nil ?_
  refine .retP Tryd.func42 (.cons (.tmp rfl) .nil) (.cons .head .nil) ?_
  exact ⟨[], ⟨rfl, rfl⟩, rfl⟩

set_option maxHeartbeats 1000000 in
set_option maxRecDepth 20000 in
theorem told_ok (sb : Nat) (s : Sn19) (m : An19) (a : Option Addr) (c : Nat) (hok : m.ok) (ho : 0 ≤ s.offset ∧ s.offset ≤ 1000000000000) : Cn Tryd.prog 35 [.pointer (some ⟨sb, 0, none⟩), .agg (m.cells a c).toArray] (m.at_ a) [blk sb (Sn19.cells s) 31] fun v G => G = [blk sb (Sn19.cells (told19 s m)) 31] := by
  refine .enter Tryd.func35 rfl (by kernel_rfl) rfl fun R k => ?_
  have k' := k
  refine .seq ?_
  refine .region ?_
  refine .ef (.box (l := m.cells a c) rfl rfl (m.cells_ones a c)) ?_
  rintro _ _ ⟨b3, rfl, rfl⟩
  refine .nil ?_
  refine .seq ?_
  refine .region ?_
  refine .rd (.move rfl) ?_
  refine .rd (.nilCheck rfl) ?_
  refine .rd (.fieldAddr fd31_2 rfl) ?_
  refine .rd (.ld na3 rfl (.tail .head) rfl) ?_
  refine .nil ?_
  refine .block ?_
  refine .seq ?_
  refine .region ?_
  refine .rd (.eqI rfl rfl) ?_
  refine .rd (.assign rfl) ?_
  refine .nil ?_
  refine .condP rfl (fun h2 => ?_) (fun h2 => ?_)
  · refine .seq ?_
    refine .region ?_
    refine .rd (.move rfl) ?_
    refine .rd (.move rfl) ?_
    refine .rd (.move rfl) ?_
    refine .rd (.nilCheck rfl) ?_
    refine .rd (.fieldAddr fd31_5 rfl) ?_
    refine .ef0 (.store ts3 rfl rfl (.tail .head) rfl (Nat.le_of_ble_eq_true rfl)) ?_
    rintro _ _ rfl
    refine .rd (.nilCheck rfl) ?_
    refine .rd (.fieldAddr fd31_7 rfl) ?_
    refine .ef0 (.store ts3 rfl rfl .head rfl (Nat.le_of_ble_eq_true rfl)) ?_
    rintro _ _ rfl
    refine .rd (.nilCheck rfl) ?_
    refine .rd (.fieldAddr fd31_10 rfl) ?_
    refine .ef0 (.store ts25 rfl rfl .head rfl (Nat.le_of_ble_eq_true rfl)) ?_
    rintro _ _ rfl
    refine .nil ?_
    refine .cast (X' := blk sb (Sn19.cells ({ s with pid := 0, seq := 0, err := 8 })) 31) (rfl) ?_
    refine .seq ?_
    refine .region ?_
    refine .rd (.fieldAddr fd35_18 rfl) ?_
    refine .rd (.ld na32 rfl (.tail .head) rfl) ?_
    refine .rd (.lenL rfl rfl Tryd.underlying32 rfl) ?_
    refine .rd (.move rfl) ?_
    refine .nil ?_
    refine .block ?_
    refine .loop (σ := Nat) (fun k => k ≤ m.batches.length ∧ toldAt s.offset m.batches = toldAt s.offset (m.batches.drop k)) (fun k => m.batches.length - k) (fun k => [(0, .pointer (some ⟨sb, 0, none⟩)), (3, .pointer (some ⟨b3, 0, none⟩)), (23, .slice a m.batches.length c), (24, .int .i64 m.batches.length), (25, .int .i64 (k : Nat))]) (fun k => [blk sb (Sn19.cells ({ s with pid := 0, seq := 0, err := 8 })) 31, blk b3 (m.cells a c) 35, R]) 0 ⟨Nat.zero_le _, by rw [List.drop_zero]⟩ (.cons rfl (.cons rfl (.cons rfl (.cons rfl (.cons rfl .nil))))) (.cons .head (.cons .head (.cons .head .nil))) (fun k hI ih => ?_)
    obtain ⟨hk, hta⟩ := hI
    have hmany := hok.many
    refine .seq ?_
    refine .region ?_
    refine .rd (.lt rfl rfl) ?_
    refine .nil ?_
    refine .seq ?_
    refine .condP rfl (fun h5 => ?_) (fun h5 => ?_)
    · refine .skip ?_
      refine .seq ?_
      refine .block ?_
      refine .seq ?_
      obtain ⟨y, hy⟩ : ∃ y, m.batches[k]? = some y := ⟨_, List.getElem?_eq_getElem (by omega)⟩
      have hym := List.mem_of_getElem? hy
      obtain ⟨hb1, hb2⟩ := hok.base y hym
      have hrl := hok.recs y hym
      refine .tell (φ := ∃ b o, a = some ⟨b, o, none⟩) (Knows.pick (.tail (.tail .head)) (k'.mono fun _ h => RowAt.addr h.1 (by rw [flat_length Bt19.cells_len]; omega))) (fun hh => ?_)
      obtain ⟨b9, o9, hab⟩ := hh
      refine .region ?_
      refine .rd (.indexAddr (b := b9) (o := o9) Tryd.underlying32 ts52 (by show some (Value.slice a _ _) = _; rw [hab]) rfl (by omega) (by omega)) ?_
      refine .rd (.loadN ia52 ts52 rfl rfl (Knows.elem (f := Bt19.cells) Bt19.cells_len (by decide) (Knows.pick (.tail (.tail .head)) (k'.mono fun _ h => hab ▸ h.1)) hy)) ?_
      refine .ef (.alloc ti52 rfl (ones.of rfl)) ?_
      rintro _ _ ⟨b5, rfl, rfl⟩
      refine .ef0 (.storeAll (vs := y.cells) ts52 rfl rfl rfl .head rfl (ones.of rfl)) ?_
      rintro _ _ rfl
      refine .nil ?_
      refine .seq ?_
      refine .draws [3, 5] [blk sb (Sn19.cells ({ s with pid := 0, seq := 0, err := 8 })) 31, blk b5 y.cells 52] (by kernel_rfl) ?_
      refine .rp 0 rfl (by kernel_rfl) (by kernel_rfl) (by kernel_rfl) (Reads.pure (.move rfl)) ?_
      refine .rp 1 rfl (by kernel_rfl) (by kernel_rfl) (by kernel_rfl) (Reads.pure (.nilCheck rfl)) ?_
      refine .rp 2 rfl (by kernel_rfl) (by kernel_rfl) (by kernel_rfl) (Reads.pure (.fieldAddr fd31_4 rfl)) ?_
      refine .rd 3 rfl rfl (by kernel_rfl) (by kernel_rfl) (by kernel_rfl) (.ld na3 rfl .head rfl) (.cons (.tail .head) (.cons .head .nil)) ?_
      refine .alter (t := 32) (v' := .int .i64 s.offset) rfl (rfl) ?_
      refine .rp 4 rfl (by kernel_rfl) (by kernel_rfl) (by kernel_rfl) (Reads.pure (.fieldAddr fd52_0 rfl)) ?_
      refine .rd 5 rfl rfl (by kernel_rfl) (by kernel_rfl) (by kernel_rfl) (.ld na3 rfl (.tail .head) rfl) (.cons (.tail .head) (.cons .head .nil)) ?_
      refine .rp 6 rfl (by kernel_rfl) (by kernel_rfl) (by kernel_rfl) (Reads.pure (.sub rfl rfl (by show _ ≤ s.offset - y.base; omega) (by show s.offset - y.base ≤ _; omega))) ?_
      refine .rp 7 rfl (by kernel_rfl) (by kernel_rfl) (by kernel_rfl) (Reads.pure (.assign rfl)) ?_
      refine .done (by kernel_rfl) ?_
      refine .seq ?_
      refine .region ?_
      refine RunO.join 9 44 (decide (0 ≤ s.offset - y.base ∧ s.offset - y.base < y.recs.length)) ?_ ?_
      · refine .rd (.move rfl) ?_
        refine .rd (.ge rfl rfl) ?_
        refine .rd (.move rfl) ?_
        refine .split (t := 38) rfl (fun g8 => ?_) (fun g8 => ?_)
        · replace g8 := of_decide_eq_true g8
          refine .on (t := 38) rfl rfl ?_
          refine .rd (.move rfl) ?_
          refine .on (t := 38) rfl rfl ?_
          refine .rd (.fieldAddr fd52_5 rfl) ?_
          refine .on (t := 38) rfl rfl ?_
          refine .rd (.ld na50 rfl .head rfl) ?_
          refine .on (t := 38) rfl rfl ?_
          refine .rd (.lenL rfl rfl Tryd.underlying50 rfl) ?_
          refine .on (t := 38) rfl rfl ?_
          refine .rd (.lt rfl rfl) ?_
          refine .rd (.pickT rfl rfl) ?_
          refine .nil ⟨rfl, ?_, by repeat (first | exact Le.refl _ | refine Le.skip rfl ?_)⟩
          exact congrArg (fun x => some (Value.bool x)) (decide_eq_decide.2 (by omega))
        · replace g8 := of_decide_eq_false g8
          refine .off (t := 38) rfl rfl rfl ?_
          refine .off (t := 38) rfl rfl rfl ?_
          refine .off (t := 38) rfl rfl rfl ?_
          refine .off (t := 38) rfl rfl rfl ?_
          refine .off (t := 38) rfl rfl rfl ?_
          refine .rd (.pickF rfl rfl) ?_
          refine .nil ⟨rfl, ?_, by repeat (first | exact Le.refl _ | refine Le.skip rfl ?_)⟩
          exact congrArg (fun x => some (Value.bool x)) ((decide_eq_false (by omega)).symm)
      refine .nil ?_
      refine .condP rfl (fun h8 => ?_) (fun h8 => ?_)
      · obtain ⟨t, ht⟩ : ∃ t, y.recs[(s.offset - y.base).toNat]? = some t := ⟨_, List.getElem?_eq_getElem (by omega)⟩
        have hta2 : toldAt s.offset m.batches = some t := by rw [hta, drop_cons hy, told_hit h8, List.getD_eq_getElem?_getD, ht]; rfl
        refine .tell (φ := ∃ b o, y.ra = some ⟨b, o, none⟩) (Knows.pick (.tail (.tail (.tail .head))) (k'.mono fun _ h => RowAt.addr (h.2 y hym) (by rw [flat_length recC_len]; omega))) (fun hh => ?_)
        obtain ⟨b7, o7, hyr⟩ := hh
        refine .seq ?_
        refine .region ?_
        refine .rd (.move rfl) ?_
        refine .rd (.move rfl) ?_
        refine .rd (.fieldAddr fd52_5 rfl) ?_
        refine .rd (.ld na50 rfl .head rfl) ?_
        refine .rd (.move rfl) ?_
        refine .rd (.indexAddr (b := b7) (o := o7) Tryd.underlying50 ts54 (by show some (Value.slice y.ra _ _) = _; rw [hyr]) rfl (by omega) (by omega)) ?_
        refine .rd (.fieldAddr fd54_1 rfl) ?_
        refine .rd (.load na9 rfl (Knows.one (i := 1) (Knows.elem (f := recC) recC_len (by decide) (Knows.pick (.tail (.tail (.tail .head))) (k'.mono fun _ h => hyr ▸ h.2 y hym)) ht) rfl)) ?_
        refine .rd (.nilCheck rfl) ?_
        refine .rd (.fieldAddr fd31_9 rfl) ?_
        refine .ef0 (.store ts9 rfl rfl (.tail .head) rfl (Nat.le_of_ble_eq_true rfl)) ?_
        rintro _ _ rfl
        refine .rd (.nilCheck rfl) ?_
        refine .rd (.fieldAddr fd31_10 rfl) ?_
        refine .ef0 (.store ts25 rfl rfl .head rfl (Nat.le_of_ble_eq_true rfl)) ?_
        rintro _ _ rfl
        refine .nil ?_
        refine .exit rfl ?_
        refine .inBlock ?_
        have ht9 : told19 s m = { s with pid := 0, seq := 0, text := t, err := 0 } := by unfold told19; rw [if_pos h2, hta2]
        refine .cast (X' := blk sb (Sn19.cells (told19 s m)) 31) (by first | (rw [ht9]; done) | (rw [ht9]; rfl)) ?_
        refine .endP Tryd.func35 .nil (.cons .head (.cons (.tail (.tail .head)) .nil)) ?_
        exact ⟨[_], rfl, rfl⟩
      · refine .skip ?_
        refine .inBlock ?_
        refine .region ?_
        refine .rd (.add rfl rfl (by omega) (by omega)) ?_
        refine .rd (.move rfl) ?_
        refine .nil ?_
        exact (ih (k + 1) ⟨by omega, by rw [hta, drop_cons hy, told_miss h8]⟩ (by omega)).to (.cons rfl (.cons rfl (.cons rfl (.cons rfl (.cons rfl .nil))))) (.cons (.tail .head) (.cons (.tail .head) (.cons (.tail .head) .nil)))
    · refine .exit rfl ?_
      refine .inBlock ?_
      obtain rfl : k = m.batches.length := by omega
      rw [List.drop_length] at hta
      have ht9 : told19 s m = { s with pid := 0, seq := 0, err := 8 } := by unfold told19; rw [if_pos h2, hta]; rfl
      refine .cast (X' := blk sb (Sn19.cells (told19 s m)) 31) (by first | (rw [ht9]; done) | (rw [ht9]; rfl)) ?_
      refine .endP Tryd.func35 .nil (.cons .head (.cons (.tail .head) .nil)) ?_
      exact ⟨[_], rfl, rfl⟩
  · refine .seq ?_
    refine .region ?_
    refine .rd (.eqI rfl rfl) ?_
    refine .rd (.assign rfl) ?_
    refine .nil ?_
    refine .condP rfl (fun h11 => ?_) (fun h11 => ?_)
    · refine .draws [9] [blk b3 (m.cells a c) 35] (by kernel_rfl) ?_
      refine .rp 0 rfl (by kernel_rfl) (by kernel_rfl) (by kernel_rfl) (Reads.pure (.move rfl)) ?_
      refine .rp 1 rfl (by kernel_rfl) (by kernel_rfl) (by kernel_rfl) (Reads.pure (.move rfl)) ?_
      refine .rp 2 rfl (by kernel_rfl) (by kernel_rfl) (by kernel_rfl) (Reads.pure (.move rfl)) ?_
      refine .rp 3 rfl (by kernel_rfl) (by kernel_rfl) (by kernel_rfl) (Reads.pure (.move rfl)) ?_
      refine .rp 4 rfl (by kernel_rfl) (by kernel_rfl) (by kernel_rfl) (Reads.pure (.fieldAddr fd35_12 rfl)) ?_
      refine .rp 6 rfl (by kernel_rfl) (by kernel_rfl) (by kernel_rfl) (Reads.pure (.fieldAddr fd35_14 rfl)) ?_
      refine .rp 8 rfl (by kernel_rfl) (by kernel_rfl) (by kernel_rfl) (Reads.pure (.fieldAddr fd35_20 rfl)) ?_
      refine .rd 9 rfl rfl (by kernel_rfl) (by kernel_rfl) (by kernel_rfl) (.ld na28 rfl .head rfl) (.cons .head .nil) ?_
      refine .all (rs := [5, 7, 10]) (by kernel_rfl) (by simp) (fun i hi => ?_)
      simp only [List.mem_cons, List.not_mem_nil, or_false] at hi
      rcases hi with rfl | rfl | rfl
      · refine .rd rfl (.ld na3 rfl .head rfl) (.cons .head .nil) ?_
        refine .all (rs := [7, 10]) (by kernel_rfl) (by simp) (fun i hi => ?_)
        simp only [List.mem_cons, List.not_mem_nil, or_false] at hi
        rcases hi with rfl | rfl
        · refine .rd rfl (.ld na3 rfl .head rfl) (.cons .head .nil) ?_
          refine .ef 10 (by kernel_rfl) rfl (.fn rfl rfl .nil (fun _ _ _ => trivial) (text0_ok)) ?_
          rintro v _ ⟨G1, hq, rfl⟩
          obtain ⟨rfl, rfl⟩ := hq
          simp only [List.nil_append]
          refine ⟨.inl (by kernel_rfl), ?_⟩
          refine .rp 11 rfl (by kernel_rfl) (by kernel_rfl) (by kernel_rfl) (Reads.pure (.nilCheck rfl)) ?_
          refine .rp 12 rfl (by kernel_rfl) (by kernel_rfl) (by kernel_rfl) (Reads.pure (.fieldAddr fd31_4 rfl)) ?_
          refine .ef0 13 (by kernel_rfl) rfl (.store ts3 rfl rfl (.tail .head) rfl (Nat.le_of_ble_eq_true rfl)) ?_
          rintro _ _ rfl
          refine ⟨.inl (by kernel_rfl), ?_⟩
          refine .rp 14 rfl (by kernel_rfl) (by kernel_rfl) (by kernel_rfl) (Reads.pure (.nilCheck rfl)) ?_
          refine .rp 15 rfl (by kernel_rfl) (by kernel_rfl) (by kernel_rfl) (Reads.pure (.fieldAddr fd31_5 rfl)) ?_
          refine .ef0 16 (by kernel_rfl) rfl (.store ts3 rfl rfl .head rfl (Nat.le_of_ble_eq_true rfl)) ?_
          rintro _ _ rfl
          refine ⟨.inl (by kernel_rfl), ?_⟩
          refine .rp 17 rfl (by kernel_rfl) (by kernel_rfl) (by kernel_rfl) (Reads.pure (.nilCheck rfl)) ?_
          refine .rp 18 rfl (by kernel_rfl) (by kernel_rfl) (by kernel_rfl) (Reads.pure (.fieldAddr fd31_7 rfl)) ?_
          refine .ef0 19 (by kernel_rfl) rfl (.store ts3 rfl rfl .head rfl (Nat.le_of_ble_eq_true rfl)) ?_
          rintro _ _ rfl
          refine ⟨.inl (by kernel_rfl), ?_⟩
          refine .rp 20 rfl (by kernel_rfl) (by kernel_rfl) (by kernel_rfl) (Reads.pure (.nilCheck rfl)) ?_
          refine .rp 21 rfl (by kernel_rfl) (by kernel_rfl) (by kernel_rfl) (Reads.pure (.fieldAddr fd31_9 rfl)) ?_
          refine .ef0 22 (by kernel_rfl) rfl (.store ts9 rfl rfl .head rfl (Nat.le_of_ble_eq_true rfl)) ?_
          rintro _ _ rfl
          refine ⟨.inl (by kernel_rfl), ?_⟩
          refine .done (by kernel_rfl) ?_
          refine .inBlock ?_
          have ht9 : told19 s m = { s with offset := 0, pid := 0, seq := 0, text := [] } := by unfold told19; rw [if_neg h2, if_pos h11]
          refine .cast (X' := blk sb (Sn19.cells (told19 s m)) 31) (by first | (rw [ht9]; done) | (rw [ht9]; rfl)) ?_
          refine .endP Tryd.func35 .nil (.cons .head (.cons (.tail .head) .nil)) ?_
          exact ⟨[_], rfl, rfl⟩
        · refine .ef rfl (.fn rfl rfl .nil (fun _ _ _ => trivial) (text0_ok)) ?_
          rintro v _ ⟨G1, hq, rfl⟩
          obtain ⟨rfl, rfl⟩ := hq
          simp only [List.nil_append]
          refine ⟨.inl (by kernel_rfl), ?_⟩
          refine .rp 11 rfl (by kernel_rfl) (by kernel_rfl) (by kernel_rfl) (Reads.pure (.nilCheck rfl)) ?_
          refine .rp 12 rfl (by kernel_rfl) (by kernel_rfl) (by kernel_rfl) (Reads.pure (.fieldAddr fd31_4 rfl)) ?_
          refine .all (rs := [7, 13]) (by kernel_rfl) (by simp) (fun i hi => ?_)
          simp only [List.mem_cons, List.not_mem_nil, or_false] at hi
          rcases hi with rfl | rfl
          · refine .rd rfl (.ld na3 rfl .head rfl) (.cons .head .nil) ?_
            refine .ef0 13 (by kernel_rfl) rfl (.store ts3 rfl rfl (.tail .head) rfl (Nat.le_of_ble_eq_true rfl)) ?_
            rintro _ _ rfl
            refine ⟨.inl (by kernel_rfl), ?_⟩
            refine .rp 14 rfl (by kernel_rfl) (by kernel_rfl) (by kernel_rfl) (Reads.pure (.nilCheck rfl)) ?_
            refine .rp 15 rfl (by kernel_rfl) (by kernel_rfl) (by kernel_rfl) (Reads.pure (.fieldAddr fd31_5 rfl)) ?_
            refine .ef0 16 (by kernel_rfl) rfl (.store ts3 rfl rfl .head rfl (Nat.le_of_ble_eq_true rfl)) ?_
            rintro _ _ rfl
            refine ⟨.inl (by kernel_rfl), ?_⟩
            refine .rp 17 rfl (by kernel_rfl) (by kernel_rfl) (by kernel_rfl) (Reads.pure (.nilCheck rfl)) ?_
            refine .rp 18 rfl (by kernel_rfl) (by kernel_rfl) (by kernel_rfl) (Reads.pure (.fieldAddr fd31_7 rfl)) ?_
            refine .ef0 19 (by kernel_rfl) rfl (.store ts3 rfl rfl .head rfl (Nat.le_of_ble_eq_true rfl)) ?_
            rintro _ _ rfl
            refine ⟨.inl (by kernel_rfl), ?_⟩
            refine .rp 20 rfl (by kernel_rfl) (by kernel_rfl) (by kernel_rfl) (Reads.pure (.nilCheck rfl)) ?_
            refine .rp 21 rfl (by kernel_rfl) (by kernel_rfl) (by kernel_rfl) (Reads.pure (.fieldAddr fd31_9 rfl)) ?_
            refine .ef0 22 (by kernel_rfl) rfl (.store ts9 rfl rfl .head rfl (Nat.le_of_ble_eq_true rfl)) ?_
            rintro _ _ rfl
            refine ⟨.inl (by kernel_rfl), ?_⟩
            refine .done (by kernel_rfl) ?_
            refine .inBlock ?_
            have ht9 : told19 s m = { s with offset := 0, pid := 0, seq := 0, text := [] } := by unfold told19; rw [if_neg h2, if_pos h11]
            refine .cast (X' := blk sb (Sn19.cells (told19 s m)) 31) (by first | (rw [ht9]; done) | (rw [ht9]; rfl)) ?_
            refine .endP Tryd.func35 .nil (.cons .head (.cons (.tail .head) .nil)) ?_
            exact ⟨[_], rfl, rfl⟩
          · refine .ef0 rfl (.store ts3 rfl rfl (.tail .head) rfl (Nat.le_of_ble_eq_true rfl)) ?_
            rintro _ _ rfl
            refine ⟨.inl (by kernel_rfl), ?_⟩
            refine .rp 14 rfl (by kernel_rfl) (by kernel_rfl) (by kernel_rfl) (Reads.pure (.nilCheck rfl)) ?_
            refine .rp 15 rfl (by kernel_rfl) (by kernel_rfl) (by kernel_rfl) (Reads.pure (.fieldAddr fd31_5 rfl)) ?_
            refine .all (rs := [7, 16]) (by kernel_rfl) (by simp) (fun i hi => ?_)
            simp only [List.mem_cons, List.not_mem_nil, or_false] at hi
            rcases hi with rfl | rfl
            · refine .rd rfl (.ld na3 rfl (.tail .head) rfl) (.cons (.tail .head) .nil) ?_
              refine .ef0 16 (by kernel_rfl) rfl (.store ts3 rfl rfl .head rfl (Nat.le_of_ble_eq_true rfl)) ?_
              rintro _ _ rfl
              refine ⟨.inl (by kernel_rfl), ?_⟩
              refine .rp 17 rfl (by kernel_rfl) (by kernel_rfl) (by kernel_rfl) (Reads.pure (.nilCheck rfl)) ?_
              refine .rp 18 rfl (by kernel_rfl) (by kernel_rfl) (by kernel_rfl) (Reads.pure (.fieldAddr fd31_7 rfl)) ?_
              refine .ef0 19 (by kernel_rfl) rfl (.store ts3 rfl rfl .head rfl (Nat.le_of_ble_eq_true rfl)) ?_
              rintro _ _ rfl
              refine ⟨.inl (by kernel_rfl), ?_⟩
              refine .rp 20 rfl (by kernel_rfl) (by kernel_rfl) (by kernel_rfl) (Reads.pure (.nilCheck rfl)) ?_
              refine .rp 21 rfl (by kernel_rfl) (by kernel_rfl) (by kernel_rfl) (Reads.pure (.fieldAddr fd31_9 rfl)) ?_
              refine .ef0 22 (by kernel_rfl) rfl (.store ts9 rfl rfl .head rfl (Nat.le_of_ble_eq_true rfl)) ?_
              rintro _ _ rfl
              refine ⟨.inl (by kernel_rfl), ?_⟩
              refine .done (by kernel_rfl) ?_
              refine .inBlock ?_
              have ht9 : told19 s m = { s with offset := 0, pid := 0, seq := 0, text := [] } := by unfold told19; rw [if_neg h2, if_pos h11]
              refine .cast (X' := blk sb (Sn19.cells (told19 s m)) 31) (by first | (rw [ht9]; done) | (rw [ht9]; rfl)) ?_
              refine .endP Tryd.func35 .nil (.cons .head (.cons (.tail .head) .nil)) ?_
              exact ⟨[_], rfl, rfl⟩
            · refine .ef0 rfl (.store ts3 rfl rfl .head rfl (Nat.le_of_ble_eq_true rfl)) ?_
              rintro _ _ rfl
              refine ⟨.inl (by kernel_rfl), ?_⟩
              refine .rs 7 (by kernel_rfl) rfl (.ld na3 rfl (.tail .head) rfl) (.inr (.cons (.tail .head) .nil)) ?_
              refine .rp 17 rfl (by kernel_rfl) (by kernel_rfl) (by kernel_rfl) (Reads.pure (.nilCheck rfl)) ?_
              refine .rp 18 rfl (by kernel_rfl) (by kernel_rfl) (by kernel_rfl) (Reads.pure (.fieldAddr fd31_7 rfl)) ?_
              refine .ef0 19 (by kernel_rfl) rfl (.store ts3 rfl rfl .head rfl (Nat.le_of_ble_eq_true rfl)) ?_
              rintro _ _ rfl
              refine ⟨.inl (by kernel_rfl), ?_⟩
              refine .rp 20 rfl (by kernel_rfl) (by kernel_rfl) (by kernel_rfl) (Reads.pure (.nilCheck rfl)) ?_
              refine .rp 21 rfl (by kernel_rfl) (by kernel_rfl) (by kernel_rfl) (Reads.pure (.fieldAddr fd31_9 rfl)) ?_
              refine .ef0 22 (by kernel_rfl) rfl (.store ts9 rfl rfl .head rfl (Nat.le_of_ble_eq_true rfl)) ?_
              rintro _ _ rfl
              refine ⟨.inl (by kernel_rfl), ?_⟩
              refine .done (by kernel_rfl) ?_
              refine .inBlock ?_
              have ht9 : told19 s m = { s with offset := 0, pid := 0, seq := 0, text := [] } := by unfold told19; rw [if_neg h2, if_pos h11]
              refine .cast (X' := blk sb (Sn19.cells (told19 s m)) 31) (by first | (rw [ht9]; done) | (rw [ht9]; rfl)) ?_
              refine .endP Tryd.func35 .nil (.cons .head (.cons (.tail .head) .nil)) ?_
              exact ⟨[_], rfl, rfl⟩
      · refine .rd rfl (.ld na3 rfl .head rfl) (.cons .head .nil) ?_
        refine .all (rs := [5, 10]) (by kernel_rfl) (by simp) (fun i hi => ?_)
        simp only [List.mem_cons, List.not_mem_nil, or_false] at hi
        rcases hi with rfl | rfl
        · refine .rd rfl (.ld na3 rfl .head rfl) (.cons .head .nil) ?_
          refine .ef 10 (by kernel_rfl) rfl (.fn rfl rfl .nil (fun _ _ _ => trivial) (text0_ok)) ?_
          rintro v _ ⟨G1, hq, rfl⟩
          obtain ⟨rfl, rfl⟩ := hq
          simp only [List.nil_append]
          refine ⟨.inl (by kernel_rfl), ?_⟩
          refine .rp 11 rfl (by kernel_rfl) (by kernel_rfl) (by kernel_rfl) (Reads.pure (.nilCheck rfl)) ?_
          refine .rp 12 rfl (by kernel_rfl) (by kernel_rfl) (by kernel_rfl) (Reads.pure (.fieldAddr fd31_4 rfl)) ?_
          refine .ef0 13 (by kernel_rfl) rfl (.store ts3 rfl rfl (.tail .head) rfl (Nat.le_of_ble_eq_true rfl)) ?_
          rintro _ _ rfl
          refine ⟨.inl (by kernel_rfl), ?_⟩
          refine .rp 14 rfl (by kernel_rfl) (by kernel_rfl) (by kernel_rfl) (Reads.pure (.nilCheck rfl)) ?_
          refine .rp 15 rfl (by kernel_rfl) (by kernel_rfl) (by kernel_rfl) (Reads.pure (.fieldAddr fd31_5 rfl)) ?_
          refine .ef0 16 (by kernel_rfl) rfl (.store ts3 rfl rfl .head rfl (Nat.le_of_ble_eq_true rfl)) ?_
          rintro _ _ rfl
          refine ⟨.inl (by kernel_rfl), ?_⟩
          refine .rp 17 rfl (by kernel_rfl) (by kernel_rfl) (by kernel_rfl) (Reads.pure (.nilCheck rfl)) ?_
          refine .rp 18 rfl (by kernel_rfl) (by kernel_rfl) (by kernel_rfl) (Reads.pure (.fieldAddr fd31_7 rfl)) ?_
          refine .ef0 19 (by kernel_rfl) rfl (.store ts3 rfl rfl .head rfl (Nat.le_of_ble_eq_true rfl)) ?_
          rintro _ _ rfl
          refine ⟨.inl (by kernel_rfl), ?_⟩
          refine .rp 20 rfl (by kernel_rfl) (by kernel_rfl) (by kernel_rfl) (Reads.pure (.nilCheck rfl)) ?_
          refine .rp 21 rfl (by kernel_rfl) (by kernel_rfl) (by kernel_rfl) (Reads.pure (.fieldAddr fd31_9 rfl)) ?_
          refine .ef0 22 (by kernel_rfl) rfl (.store ts9 rfl rfl .head rfl (Nat.le_of_ble_eq_true rfl)) ?_
          rintro _ _ rfl
          refine ⟨.inl (by kernel_rfl), ?_⟩
          refine .done (by kernel_rfl) ?_
          refine .inBlock ?_
          have ht9 : told19 s m = { s with offset := 0, pid := 0, seq := 0, text := [] } := by unfold told19; rw [if_neg h2, if_pos h11]
          refine .cast (X' := blk sb (Sn19.cells (told19 s m)) 31) (by first | (rw [ht9]; done) | (rw [ht9]; rfl)) ?_
          refine .endP Tryd.func35 .nil (.cons .head (.cons (.tail .head) .nil)) ?_
          exact ⟨[_], rfl, rfl⟩
        · refine .ef rfl (.fn rfl rfl .nil (fun _ _ _ => trivial) (text0_ok)) ?_
          rintro v _ ⟨G1, hq, rfl⟩
          obtain ⟨rfl, rfl⟩ := hq
          simp only [List.nil_append]
          refine ⟨.inl (by kernel_rfl), ?_⟩
          refine .rp 11 rfl (by kernel_rfl) (by kernel_rfl) (by kernel_rfl) (Reads.pure (.nilCheck rfl)) ?_
          refine .rp 12 rfl (by kernel_rfl) (by kernel_rfl) (by kernel_rfl) (Reads.pure (.fieldAddr fd31_4 rfl)) ?_
          refine .all (rs := [5, 13]) (by kernel_rfl) (by simp) (fun i hi => ?_)
          simp only [List.mem_cons, List.not_mem_nil, or_false] at hi
          rcases hi with rfl | rfl
          · refine .rd rfl (.ld na3 rfl .head rfl) (.cons .head .nil) ?_
            refine .ef0 13 (by kernel_rfl) rfl (.store ts3 rfl rfl (.tail .head) rfl (Nat.le_of_ble_eq_true rfl)) ?_
            rintro _ _ rfl
            refine ⟨.inl (by kernel_rfl), ?_⟩
            refine .rp 14 rfl (by kernel_rfl) (by kernel_rfl) (by kernel_rfl) (Reads.pure (.nilCheck rfl)) ?_
            refine .rp 15 rfl (by kernel_rfl) (by kernel_rfl) (by kernel_rfl) (Reads.pure (.fieldAddr fd31_5 rfl)) ?_
            refine .ef0 16 (by kernel_rfl) rfl (.store ts3 rfl rfl .head rfl (Nat.le_of_ble_eq_true rfl)) ?_
            rintro _ _ rfl
            refine ⟨.inl (by kernel_rfl), ?_⟩
            refine .rp 17 rfl (by kernel_rfl) (by kernel_rfl) (by kernel_rfl) (Reads.pure (.nilCheck rfl)) ?_
            refine .rp 18 rfl (by kernel_rfl) (by kernel_rfl) (by kernel_rfl) (Reads.pure (.fieldAddr fd31_7 rfl)) ?_
            refine .ef0 19 (by kernel_rfl) rfl (.store ts3 rfl rfl .head rfl (Nat.le_of_ble_eq_true rfl)) ?_
            rintro _ _ rfl
            refine ⟨.inl (by kernel_rfl), ?_⟩
            refine .rp 20 rfl (by kernel_rfl) (by kernel_rfl) (by kernel_rfl) (Reads.pure (.nilCheck rfl)) ?_
            refine .rp 21 rfl (by kernel_rfl) (by kernel_rfl) (by kernel_rfl) (Reads.pure (.fieldAddr fd31_9 rfl)) ?_
            refine .ef0 22 (by kernel_rfl) rfl (.store ts9 rfl rfl .head rfl (Nat.le_of_ble_eq_true rfl)) ?_
            rintro _ _ rfl
            refine ⟨.inl (by kernel_rfl), ?_⟩
            refine .done (by kernel_rfl) ?_
            refine .inBlock ?_
            have ht9 : told19 s m = { s with offset := 0, pid := 0, seq := 0, text := [] } := by unfold told19; rw [if_neg h2, if_pos h11]
            refine .cast (X' := blk sb (Sn19.cells (told19 s m)) 31) (by first | (rw [ht9]; done) | (rw [ht9]; rfl)) ?_
            refine .endP Tryd.func35 .nil (.cons .head (.cons (.tail .head) .nil)) ?_
            exact ⟨[_], rfl, rfl⟩
          · refine .ef0 rfl (.store ts3 rfl rfl (.tail .head) rfl (Nat.le_of_ble_eq_true rfl)) ?_
            rintro _ _ rfl
            refine ⟨.inl (by kernel_rfl), ?_⟩
            refine .rs 5 (by kernel_rfl) rfl (.ld na3 rfl (.tail .head) rfl) (.inr (.cons (.tail .head) .nil)) ?_
            refine .rp 14 rfl (by kernel_rfl) (by kernel_rfl) (by kernel_rfl) (Reads.pure (.nilCheck rfl)) ?_
            refine .rp 15 rfl (by kernel_rfl) (by kernel_rfl) (by kernel_rfl) (Reads.pure (.fieldAddr fd31_5 rfl)) ?_
            refine .ef0 16 (by kernel_rfl) rfl (.store ts3 rfl rfl .head rfl (Nat.le_of_ble_eq_true rfl)) ?_
            rintro _ _ rfl
            refine ⟨.inl (by kernel_rfl), ?_⟩
            refine .rp 17 rfl (by kernel_rfl) (by kernel_rfl) (by kernel_rfl) (Reads.pure (.nilCheck rfl)) ?_
            refine .rp 18 rfl (by kernel_rfl) (by kernel_rfl) (by kernel_rfl) (Reads.pure (.fieldAddr fd31_7 rfl)) ?_
            refine .ef0 19 (by kernel_rfl) rfl (.store ts3 rfl rfl .head rfl (Nat.le_of_ble_eq_true rfl)) ?_
            rintro _ _ rfl
            refine ⟨.inl (by kernel_rfl), ?_⟩
            refine .rp 20 rfl (by kernel_rfl) (by kernel_rfl) (by kernel_rfl) (Reads.pure (.nilCheck rfl)) ?_
            refine .rp 21 rfl (by kernel_rfl) (by kernel_rfl) (by kernel_rfl) (Reads.pure (.fieldAddr fd31_9 rfl)) ?_
            refine .ef0 22 (by kernel_rfl) rfl (.store ts9 rfl rfl .head rfl (Nat.le_of_ble_eq_true rfl)) ?_
            rintro _ _ rfl
            refine ⟨.inl (by kernel_rfl), ?_⟩
            refine .done (by kernel_rfl) ?_
            refine .inBlock ?_
            have ht9 : told19 s m = { s with offset := 0, pid := 0, seq := 0, text := [] } := by unfold told19; rw [if_neg h2, if_pos h11]
            refine .cast (X' := blk sb (Sn19.cells (told19 s m)) 31) (by first | (rw [ht9]; done) | (rw [ht9]; rfl)) ?_
            refine .endP Tryd.func35 .nil (.cons .head (.cons (.tail .head) .nil)) ?_
            exact ⟨[_], rfl, rfl⟩
      · refine .ef rfl (.fn rfl rfl .nil (fun _ _ _ => trivial) (text0_ok)) ?_
        rintro v _ ⟨G1, hq, rfl⟩
        obtain ⟨rfl, rfl⟩ := hq
        simp only [List.nil_append]
        refine ⟨.inl (by kernel_rfl), ?_⟩
        refine .rp 11 rfl (by kernel_rfl) (by kernel_rfl) (by kernel_rfl) (Reads.pure (.nilCheck rfl)) ?_
        refine .rp 12 rfl (by kernel_rfl) (by kernel_rfl) (by kernel_rfl) (Reads.pure (.fieldAddr fd31_4 rfl)) ?_
        refine .all (rs := [5, 7, 13]) (by kernel_rfl) (by simp) (fun i hi => ?_)
        simp only [List.mem_cons, List.not_mem_nil, or_false] at hi
        rcases hi with rfl | rfl | rfl
        · refine .rd rfl (.ld na3 rfl .head rfl) (.cons .head .nil) ?_
          refine .all (rs := [7, 13]) (by kernel_rfl) (by simp) (fun i hi => ?_)
          simp only [List.mem_cons, List.not_mem_nil, or_false] at hi
          rcases hi with rfl | rfl
          · refine .rd rfl (.ld na3 rfl .head rfl) (.cons .head .nil) ?_
            refine .ef0 13 (by kernel_rfl) rfl (.store ts3 rfl rfl (.tail .head) rfl (Nat.le_of_ble_eq_true rfl)) ?_
            rintro _ _ rfl
            refine ⟨.inl (by kernel_rfl), ?_⟩
            refine .rp 14 rfl (by kernel_rfl) (by kernel_rfl) (by kernel_rfl) (Reads.pure (.nilCheck rfl)) ?_
            refine .rp 15 rfl (by kernel_rfl) (by kernel_rfl) (by kernel_rfl) (Reads.pure (.fieldAddr fd31_5 rfl)) ?_
            refine .ef0 16 (by kernel_rfl) rfl (.store ts3 rfl rfl .head rfl (Nat.le_of_ble_eq_true rfl)) ?_
            rintro _ _ rfl
            refine ⟨.inl (by kernel_rfl), ?_⟩
            refine .rp 17 rfl (by kernel_rfl) (by kernel_rfl) (by kernel_rfl) (Reads.pure (.nilCheck rfl)) ?_
            refine .rp 18 rfl (by kernel_rfl) (by kernel_rfl) (by kernel_rfl) (Reads.pure (.fieldAddr fd31_7 rfl)) ?_
            refine .ef0 19 (by kernel_rfl) rfl (.store ts3 rfl rfl .head rfl (Nat.le_of_ble_eq_true rfl)) ?_
            rintro _ _ rfl
            refine ⟨.inl (by kernel_rfl), ?_⟩
            refine .rp 20 rfl (by kernel_rfl) (by kernel_rfl) (by kernel_rfl) (Reads.pure (.nilCheck rfl)) ?_
            refine .rp 21 rfl (by kernel_rfl) (by kernel_rfl) (by kernel_rfl) (Reads.pure (.fieldAddr fd31_9 rfl)) ?_
            refine .ef0 22 (by kernel_rfl) rfl (.store ts9 rfl rfl .head rfl (Nat.le_of_ble_eq_true rfl)) ?_
            rintro _ _ rfl
            refine ⟨.inl (by kernel_rfl), ?_⟩
            refine .done (by kernel_rfl) ?_
            refine .inBlock ?_
            have ht9 : told19 s m = { s with offset := 0, pid := 0, seq := 0, text := [] } := by unfold told19; rw [if_neg h2, if_pos h11]
            refine .cast (X' := blk sb (Sn19.cells (told19 s m)) 31) (by first | (rw [ht9]; done) | (rw [ht9]; rfl)) ?_
            refine .endP Tryd.func35 .nil (.cons .head (.cons (.tail .head) .nil)) ?_
            exact ⟨[_], rfl, rfl⟩
          · refine .ef0 rfl (.store ts3 rfl rfl (.tail .head) rfl (Nat.le_of_ble_eq_true rfl)) ?_
            rintro _ _ rfl
            refine ⟨.inl (by kernel_rfl), ?_⟩
            refine .rp 14 rfl (by kernel_rfl) (by kernel_rfl) (by kernel_rfl) (Reads.pure (.nilCheck rfl)) ?_
            refine .rp 15 rfl (by kernel_rfl) (by kernel_rfl) (by kernel_rfl) (Reads.pure (.fieldAddr fd31_5 rfl)) ?_
            refine .all (rs := [7, 16]) (by kernel_rfl) (by simp) (fun i hi => ?_)
            simp only [List.mem_cons, List.not_mem_nil, or_false] at hi
            rcases hi with rfl | rfl
            · refine .rd rfl (.ld na3 rfl (.tail .head) rfl) (.cons (.tail .head) .nil) ?_
              refine .ef0 16 (by kernel_rfl) rfl (.store ts3 rfl rfl .head rfl (Nat.le_of_ble_eq_true rfl)) ?_
              rintro _ _ rfl
              refine ⟨.inl (by kernel_rfl), ?_⟩
              refine .rp 17 rfl (by kernel_rfl) (by kernel_rfl) (by kernel_rfl) (Reads.pure (.nilCheck rfl)) ?_
              refine .rp 18 rfl (by kernel_rfl) (by kernel_rfl) (by kernel_rfl) (Reads.pure (.fieldAddr fd31_7 rfl)) ?_
              refine .ef0 19 (by kernel_rfl) rfl (.store ts3 rfl rfl .head rfl (Nat.le_of_ble_eq_true rfl)) ?_
              rintro _ _ rfl
              refine ⟨.inl (by kernel_rfl), ?_⟩
              refine .rp 20 rfl (by kernel_rfl) (by kernel_rfl) (by kernel_rfl) (Reads.pure (.nilCheck rfl)) ?_
              refine .rp 21 rfl (by kernel_rfl) (by kernel_rfl) (by kernel_rfl) (Reads.pure (.fieldAddr fd31_9 rfl)) ?_
              refine .ef0 22 (by kernel_rfl) rfl (.store ts9 rfl rfl .head rfl (Nat.le_of_ble_eq_true rfl)) ?_
              rintro _ _ rfl
              refine ⟨.inl (by kernel_rfl), ?_⟩
              refine .done (by kernel_rfl) ?_
              refine .inBlock ?_
              have ht9 : told19 s m = { s with offset := 0, pid := 0, seq := 0, text := [] } := by unfold told19; rw [if_neg h2, if_pos h11]
              refine .cast (X' := blk sb (Sn19.cells (told19 s m)) 31) (by first | (rw [ht9]; done) | (rw [ht9]; rfl)) ?_
              refine .endP Tryd.func35 .nil (.cons .head (.cons (.tail .head) .nil)) ?_
              exact ⟨[_], rfl, rfl⟩
            · refine .ef0 rfl (.store ts3 rfl rfl .head rfl (Nat.le_of_ble_eq_true rfl)) ?_
              rintro _ _ rfl
              refine ⟨.inl (by kernel_rfl), ?_⟩
              refine .rs 7 (by kernel_rfl) rfl (.ld na3 rfl (.tail .head) rfl) (.inr (.cons (.tail .head) .nil)) ?_
              refine .rp 17 rfl (by kernel_rfl) (by kernel_rfl) (by kernel_rfl) (Reads.pure (.nilCheck rfl)) ?_
              refine .rp 18 rfl (by kernel_rfl) (by kernel_rfl) (by kernel_rfl) (Reads.pure (.fieldAddr fd31_7 rfl)) ?_
              refine .ef0 19 (by kernel_rfl) rfl (.store ts3 rfl rfl .head rfl (Nat.le_of_ble_eq_true rfl)) ?_
              rintro _ _ rfl
              refine ⟨.inl (by kernel_rfl), ?_⟩
              refine .rp 20 rfl (by kernel_rfl) (by kernel_rfl) (by kernel_rfl) (Reads.pure (.nilCheck rfl)) ?_
              refine .rp 21 rfl (by kernel_rfl) (by kernel_rfl) (by kernel_rfl) (Reads.pure (.fieldAddr fd31_9 rfl)) ?_
              refine .ef0 22 (by kernel_rfl) rfl (.store ts9 rfl rfl .head rfl (Nat.le_of_ble_eq_true rfl)) ?_
              rintro _ _ rfl
              refine ⟨.inl (by kernel_rfl), ?_⟩
              refine .done (by kernel_rfl) ?_
              refine .inBlock ?_
              have ht9 : told19 s m = { s with offset := 0, pid := 0, seq := 0, text := [] } := by unfold told19; rw [if_neg h2, if_pos h11]
              refine .cast (X' := blk sb (Sn19.cells (told19 s m)) 31) (by first | (rw [ht9]; done) | (rw [ht9]; rfl)) ?_
              refine .endP Tryd.func35 .nil (.cons .head (.cons (.tail .head) .nil)) ?_
              exact ⟨[_], rfl, rfl⟩
        · refine .rd rfl (.ld na3 rfl .head rfl) (.cons .head .nil) ?_
          refine .all (rs := [5, 13]) (by kernel_rfl) (by simp) (fun i hi => ?_)
          simp only [List.mem_cons, List.not_mem_nil, or_false] at hi
          rcases hi with rfl | rfl
          · refine .rd rfl (.ld na3 rfl .head rfl) (.cons .head .nil) ?_
            refine .ef0 13 (by kernel_rfl) rfl (.store ts3 rfl rfl (.tail .head) rfl (Nat.le_of_ble_eq_true rfl)) ?_
            rintro _ _ rfl
            refine ⟨.inl (by kernel_rfl), ?_⟩
            refine .rp 14 rfl (by kernel_rfl) (by kernel_rfl) (by kernel_rfl) (Reads.pure (.nilCheck rfl)) ?_
            refine .rp 15 rfl (by kernel_rfl) (by kernel_rfl) (by kernel_rfl) (Reads.pure (.fieldAddr fd31_5 rfl)) ?_
            refine .ef0 16 (by kernel_rfl) rfl (.store ts3 rfl rfl .head rfl (Nat.le_of_ble_eq_true rfl)) ?_
            rintro _ _ rfl
            refine ⟨.inl (by kernel_rfl), ?_⟩
            refine .rp 17 rfl (by kernel_rfl) (by kernel_rfl) (by kernel_rfl) (Reads.pure (.nilCheck rfl)) ?_
            refine .rp 18 rfl (by kernel_rfl) (by kernel_rfl) (by kernel_rfl) (Reads.pure (.fieldAddr fd31_7 rfl)) ?_
            refine .ef0 19 (by kernel_rfl) rfl (.store ts3 rfl rfl .head rfl (Nat.le_of_ble_eq_true rfl)) ?_
            rintro _ _ rfl
            refine ⟨.inl (by kernel_rfl), ?_⟩
            refine .rp 20 rfl (by kernel_rfl) (by kernel_rfl) (by kernel_rfl) (Reads.pure (.nilCheck rfl)) ?_
            refine .rp 21 rfl (by kernel_rfl) (by kernel_rfl) (by kernel_rfl) (Reads.pure (.fieldAddr fd31_9 rfl)) ?_
            refine .ef0 22 (by kernel_rfl) rfl (.store ts9 rfl rfl .head rfl (Nat.le_of_ble_eq_true rfl)) ?_
            rintro _ _ rfl
            refine ⟨.inl (by kernel_rfl), ?_⟩
            refine .done (by kernel_rfl) ?_
            refine .inBlock ?_
            have ht9 : told19 s m = { s with offset := 0, pid := 0, seq := 0, text := [] } := by unfold told19; rw [if_neg h2, if_pos h11]
            refine .cast (X' := blk sb (Sn19.cells (told19 s m)) 31) (by first | (rw [ht9]; done) | (rw [ht9]; rfl)) ?_
            refine .endP Tryd.func35 .nil (.cons .head (.cons (.tail .head) .nil)) ?_
            exact ⟨[_], rfl, rfl⟩
          · refine .ef0 rfl (.store ts3 rfl rfl (.tail .head) rfl (Nat.le_of_ble_eq_true rfl)) ?_
            rintro _ _ rfl
            refine ⟨.inl (by kernel_rfl), ?_⟩
            refine .rs 5 (by kernel_rfl) rfl (.ld na3 rfl (.tail .head) rfl) (.inr (.cons (.tail .head) .nil)) ?_
            refine .rp 14 rfl (by kernel_rfl) (by kernel_rfl) (by kernel_rfl) (Reads.pure (.nilCheck rfl)) ?_
            refine .rp 15 rfl (by kernel_rfl) (by kernel_rfl) (by kernel_rfl) (Reads.pure (.fieldAddr fd31_5 rfl)) ?_
            refine .ef0 16 (by kernel_rfl) rfl (.store ts3 rfl rfl .head rfl (Nat.le_of_ble_eq_true rfl)) ?_
            rintro _ _ rfl
            refine ⟨.inl (by kernel_rfl), ?_⟩
            refine .rp 17 rfl (by kernel_rfl) (by kernel_rfl) (by kernel_rfl) (Reads.pure (.nilCheck rfl)) ?_
            refine .rp 18 rfl (by kernel_rfl) (by kernel_rfl) (by kernel_rfl) (Reads.pure (.fieldAddr fd31_7 rfl)) ?_
            refine .ef0 19 (by kernel_rfl) rfl (.store ts3 rfl rfl .head rfl (Nat.le_of_ble_eq_true rfl)) ?_
            rintro _ _ rfl
            refine ⟨.inl (by kernel_rfl), ?_⟩
            refine .rp 20 rfl (by kernel_rfl) (by kernel_rfl) (by kernel_rfl) (Reads.pure (.nilCheck rfl)) ?_
            refine .rp 21 rfl (by kernel_rfl) (by kernel_rfl) (by kernel_rfl) (Reads.pure (.fieldAddr fd31_9 rfl)) ?_
            refine .ef0 22 (by kernel_rfl) rfl (.store ts9 rfl rfl .head rfl (Nat.le_of_ble_eq_true rfl)) ?_
            rintro _ _ rfl
            refine ⟨.inl (by kernel_rfl), ?_⟩
            refine .done (by kernel_rfl) ?_
            refine .inBlock ?_
            have ht9 : told19 s m = { s with offset := 0, pid := 0, seq := 0, text := [] } := by unfold told19; rw [if_neg h2, if_pos h11]
            refine .cast (X' := blk sb (Sn19.cells (told19 s m)) 31) (by first | (rw [ht9]; done) | (rw [ht9]; rfl)) ?_
            refine .endP Tryd.func35 .nil (.cons .head (.cons (.tail .head) .nil)) ?_
            exact ⟨[_], rfl, rfl⟩
        · refine .ef0 rfl (.store ts3 rfl rfl (.tail .head) rfl (Nat.le_of_ble_eq_true rfl)) ?_
          rintro _ _ rfl
          refine ⟨.inl (by kernel_rfl), ?_⟩
          refine .all (rs := [5, 7]) (by kernel_rfl) (by simp) (fun i hi => ?_)
          simp only [List.mem_cons, List.not_mem_nil, or_false] at hi
          rcases hi with rfl | rfl
          · refine .rd rfl (.ld na3 rfl (.tail .head) rfl) (.cons (.tail .head) .nil) ?_
            refine .rp 14 rfl (by kernel_rfl) (by kernel_rfl) (by kernel_rfl) (Reads.pure (.nilCheck rfl)) ?_
            refine .rp 15 rfl (by kernel_rfl) (by kernel_rfl) (by kernel_rfl) (Reads.pure (.fieldAddr fd31_5 rfl)) ?_
            refine .all (rs := [7, 16]) (by kernel_rfl) (by simp) (fun i hi => ?_)
            simp only [List.mem_cons, List.not_mem_nil, or_false] at hi
            rcases hi with rfl | rfl
            · refine .rd rfl (.ld na3 rfl (.tail .head) rfl) (.cons (.tail .head) .nil) ?_
              refine .ef0 16 (by kernel_rfl) rfl (.store ts3 rfl rfl .head rfl (Nat.le_of_ble_eq_true rfl)) ?_
              rintro _ _ rfl
              refine ⟨.inl (by kernel_rfl), ?_⟩
              refine .rp 17 rfl (by kernel_rfl) (by kernel_rfl) (by kernel_rfl) (Reads.pure (.nilCheck rfl)) ?_
              refine .rp 18 rfl (by kernel_rfl) (by kernel_rfl) (by kernel_rfl) (Reads.pure (.fieldAddr fd31_7 rfl)) ?_
              refine .ef0 19 (by kernel_rfl) rfl (.store ts3 rfl rfl .head rfl (Nat.le_of_ble_eq_true rfl)) ?_
              rintro _ _ rfl
              refine ⟨.inl (by kernel_rfl), ?_⟩
              refine .rp 20 rfl (by kernel_rfl) (by kernel_rfl) (by kernel_rfl) (Reads.pure (.nilCheck rfl)) ?_
              refine .rp 21 rfl (by kernel_rfl) (by kernel_rfl) (by kernel_rfl) (Reads.pure (.fieldAddr fd31_9 rfl)) ?_
              refine .ef0 22 (by kernel_rfl) rfl (.store ts9 rfl rfl .head rfl (Nat.le_of_ble_eq_true rfl)) ?_
              rintro _ _ rfl
              refine ⟨.inl (by kernel_rfl), ?_⟩
              refine .done (by kernel_rfl) ?_
              refine .inBlock ?_
              have ht9 : told19 s m = { s with offset := 0, pid := 0, seq := 0, text := [] } := by unfold told19; rw [if_neg h2, if_pos h11]
              refine .cast (X' := blk sb (Sn19.cells (told19 s m)) 31) (by first | (rw [ht9]; done) | (rw [ht9]; rfl)) ?_
              refine .endP Tryd.func35 .nil (.cons .head (.cons (.tail .head) .nil)) ?_
              exact ⟨[_], rfl, rfl⟩
            · refine .ef0 rfl (.store ts3 rfl rfl .head rfl (Nat.le_of_ble_eq_true rfl)) ?_
              rintro _ _ rfl
              refine ⟨.inl (by kernel_rfl), ?_⟩
              refine .rs 7 (by kernel_rfl) rfl (.ld na3 rfl (.tail .head) rfl) (.inr (.cons (.tail .head) .nil)) ?_
              refine .rp 17 rfl (by kernel_rfl) (by kernel_rfl) (by kernel_rfl) (Reads.pure (.nilCheck rfl)) ?_
              refine .rp 18 rfl (by kernel_rfl) (by kernel_rfl) (by kernel_rfl) (Reads.pure (.fieldAddr fd31_7 rfl)) ?_
              refine .ef0 19 (by kernel_rfl) rfl (.store ts3 rfl rfl .head rfl (Nat.le_of_ble_eq_true rfl)) ?_
              rintro _ _ rfl
              refine ⟨.inl (by kernel_rfl), ?_⟩
              refine .rp 20 rfl (by kernel_rfl) (by kernel_rfl) (by kernel_rfl) (Reads.pure (.nilCheck rfl)) ?_
              refine .rp 21 rfl (by kernel_rfl) (by kernel_rfl) (by kernel_rfl) (Reads.pure (.fieldAddr fd31_9 rfl)) ?_
              refine .ef0 22 (by kernel_rfl) rfl (.store ts9 rfl rfl .head rfl (Nat.le_of_ble_eq_true rfl)) ?_
              rintro _ _ rfl
              refine ⟨.inl (by kernel_rfl), ?_⟩
              refine .done (by kernel_rfl) ?_
              refine .inBlock ?_
              have ht9 : told19 s m = { s with offset := 0, pid := 0, seq := 0, text := [] } := by unfold told19; rw [if_neg h2, if_pos h11]
              refine .cast (X' := blk sb (Sn19.cells (told19 s m)) 31) (by first | (rw [ht9]; done) | (rw [ht9]; rfl)) ?_
              refine .endP Tryd.func35 .nil (.cons .head (.cons (.tail .head) .nil)) ?_
              exact ⟨[_], rfl, rfl⟩
          · refine .rd rfl (.ld na3 rfl (.tail .head) rfl) (.cons (.tail .head) .nil) ?_
            refine .rs 5 (by kernel_rfl) rfl (.ld na3 rfl (.tail .head) rfl) (.inr (.cons (.tail .head) .nil)) ?_
            refine .rp 14 rfl (by kernel_rfl) (by kernel_rfl) (by kernel_rfl) (Reads.pure (.nilCheck rfl)) ?_
            refine .rp 15 rfl (by kernel_rfl) (by kernel_rfl) (by kernel_rfl) (Reads.pure (.fieldAddr fd31_5 rfl)) ?_
            refine .ef0 16 (by kernel_rfl) rfl (.store ts3 rfl rfl .head rfl (Nat.le_of_ble_eq_true rfl)) ?_
            rintro _ _ rfl
            refine ⟨.inl (by kernel_rfl), ?_⟩
            refine .rp 17 rfl (by kernel_rfl) (by kernel_rfl) (by kernel_rfl) (Reads.pure (.nilCheck rfl)) ?_
            refine .rp 18 rfl (by kernel_rfl) (by kernel_rfl) (by kernel_rfl) (Reads.pure (.fieldAddr fd31_7 rfl)) ?_
            refine .ef0 19 (by kernel_rfl) rfl (.store ts3 rfl rfl .head rfl (Nat.le_of_ble_eq_true rfl)) ?_
            rintro _ _ rfl
            refine ⟨.inl (by kernel_rfl), ?_⟩
            refine .rp 20 rfl (by kernel_rfl) (by kernel_rfl) (by kernel_rfl) (Reads.pure (.nilCheck rfl)) ?_
            refine .rp 21 rfl (by kernel_rfl) (by kernel_rfl) (by kernel_rfl) (Reads.pure (.fieldAddr fd31_9 rfl)) ?_
            refine .ef0 22 (by kernel_rfl) rfl (.store ts9 rfl rfl .head rfl (Nat.le_of_ble_eq_true rfl)) ?_
            rintro _ _ rfl
            refine ⟨.inl (by kernel_rfl), ?_⟩
            refine .done (by kernel_rfl) ?_
            refine .inBlock ?_
            have ht9 : told19 s m = { s with offset := 0, pid := 0, seq := 0, text := [] } := by unfold told19; rw [if_neg h2, if_pos h11]
            refine .cast (X' := blk sb (Sn19.cells (told19 s m)) 31) (by first | (rw [ht9]; done) | (rw [ht9]; rfl)) ?_
            refine .endP Tryd.func35 .nil (.cons .head (.cons (.tail .head) .nil)) ?_
            exact ⟨[_], rfl, rfl⟩
    · refine .seq ?_
      refine .region ?_
      refine .rd (.eqI rfl rfl) ?_
      refine .rd (.assign rfl) ?_
      refine .nil ?_
      refine .condP rfl (fun h13 => ?_) (fun h13 => ?_)
      · refine .draws [] [blk b3 (m.cells a c) 35] (by kernel_rfl) ?_
        refine .rp 0 rfl (by kernel_rfl) (by kernel_rfl) (by kernel_rfl) (Reads.pure (.move rfl)) ?_
        refine .rp 1 rfl (by kernel_rfl) (by kernel_rfl) (by kernel_rfl) (Reads.pure (.move rfl)) ?_
        refine .rp 2 rfl (by kernel_rfl) (by kernel_rfl) (by kernel_rfl) (Reads.pure (.fieldAddr fd35_14 rfl)) ?_
        refine .rp 4 rfl (by kernel_rfl) (by kernel_rfl) (by kernel_rfl) (Reads.pure (.nilCheck rfl)) ?_
        refine .rp 5 rfl (by kernel_rfl) (by kernel_rfl) (by kernel_rfl) (Reads.pure (.fieldAddr fd31_4 rfl)) ?_
        refine .all (rs := [3, 6]) (by kernel_rfl) (by simp) (fun i hi => ?_)
        simp only [List.mem_cons, List.not_mem_nil, or_false] at hi
        rcases hi with rfl | rfl
        · refine .rd rfl (.ld na3 rfl .head rfl) (.cons .head .nil) ?_
          refine .ef0 6 (by kernel_rfl) rfl (.store ts3 rfl rfl (.tail .head) rfl (Nat.le_of_ble_eq_true rfl)) ?_
          rintro _ _ rfl
          refine ⟨.inl (by kernel_rfl), ?_⟩
          refine .rp 7 rfl (by kernel_rfl) (by kernel_rfl) (by kernel_rfl) (Reads.pure (.nilCheck rfl)) ?_
          refine .rp 8 rfl (by kernel_rfl) (by kernel_rfl) (by kernel_rfl) (Reads.pure (.fieldAddr fd31_7 rfl)) ?_
          refine .ef0 9 (by kernel_rfl) rfl (.store ts3 rfl rfl .head rfl (Nat.le_of_ble_eq_true rfl)) ?_
          rintro _ _ rfl
          refine ⟨.inl (by kernel_rfl), ?_⟩
          refine .done (by kernel_rfl) ?_
          refine .inBlock ?_
          have ht9 : told19 s m = { s with offset := 0, seq := 0 } := by unfold told19; rw [if_neg h2, if_neg h11, if_pos h13]
          refine .cast (X' := blk sb (Sn19.cells (told19 s m)) 31) (by first | (rw [ht9]; done) | (rw [ht9]; rfl)) ?_
          refine .endP Tryd.func35 .nil (.cons .head (.cons (.tail .head) .nil)) ?_
          exact ⟨[_], rfl, rfl⟩
        · refine .ef0 rfl (.store ts3 rfl rfl (.tail .head) rfl (Nat.le_of_ble_eq_true rfl)) ?_
          rintro _ _ rfl
          refine ⟨.inl (by kernel_rfl), ?_⟩
          refine .rs (Δ := []) 3 (by kernel_rfl) rfl (.ld na3 rfl (.tail .head) rfl) (.inl (by kernel_rfl)) ?_
          refine .rp 7 rfl (by kernel_rfl) (by kernel_rfl) (by kernel_rfl) (Reads.pure (.nilCheck rfl)) ?_
          refine .rp 8 rfl (by kernel_rfl) (by kernel_rfl) (by kernel_rfl) (Reads.pure (.fieldAddr fd31_7 rfl)) ?_
          refine .ef0 9 (by kernel_rfl) rfl (.store ts3 rfl rfl .head rfl (Nat.le_of_ble_eq_true rfl)) ?_
          rintro _ _ rfl
          refine ⟨.inl (by kernel_rfl), ?_⟩
          refine .done (by kernel_rfl) ?_
          refine .inBlock ?_
          have ht9 : told19 s m = { s with offset := 0, seq := 0 } := by unfold told19; rw [if_neg h2, if_neg h11, if_pos h13]
          refine .cast (X' := blk sb (Sn19.cells (told19 s m)) 31) (by first | (rw [ht9]; done) | (rw [ht9]; rfl)) ?_
          refine .endP Tryd.func35 .nil (.cons .head (.cons (.tail .head) .nil)) ?_
          exact ⟨[_], rfl, rfl⟩
      · refine .seq ?_
        refine .region ?_
        refine .rd (.eqI rfl rfl) ?_
        refine .rd (.assign rfl) ?_
        refine .nil ?_
        refine .condP rfl (fun h15 => ?_) (fun h15 => ?_)
        · refine .region ?_
          refine .rd (.move rfl) ?_
          refine .rd (.move rfl) ?_
          refine .rd (.nilCheck rfl) ?_
          refine .rd (.fieldAddr fd31_5 rfl) ?_
          refine .ef0 (.store ts3 rfl rfl (.tail .head) rfl (Nat.le_of_ble_eq_true rfl)) ?_
          rintro _ _ rfl
          refine .rd (.nilCheck rfl) ?_
          refine .rd (.fieldAddr fd31_7 rfl) ?_
          refine .ef0 (.store ts3 rfl rfl .head rfl (Nat.le_of_ble_eq_true rfl)) ?_
          rintro _ _ rfl
          refine .nil ?_
          refine .inBlock ?_
          have ht9 : told19 s m = { s with pid := 0, seq := 0 } := by unfold told19; rw [if_neg h2, if_neg h11, if_neg h13, if_pos h15]
          refine .cast (X' := blk sb (Sn19.cells (told19 s m)) 31) (by first | (rw [ht9]; done) | (rw [ht9]; rfl)) ?_
          refine .endP Tryd.func35 .nil (.cons .head (.cons (.tail .head) .nil)) ?_
          exact ⟨[_], rfl, rfl⟩
        · refine .seq ?_
          refine .seq ?_
          refine .region ?_
          refine .rd (.eqI rfl rfl) ?_
          refine .rd (.assign rfl) ?_
          refine .nil ?_
          refine .joinAt (E' := [(0, .pointer (some ⟨sb, 0, none⟩)), (3, .pointer (some ⟨b3, 0, none⟩)), (97, .bool (decide (s.kind = 5 ∨ s.kind = 7 ∨ s.kind = 8 ∨ s.kind = 9)))]) (Γ' := [blk sb (Sn19.cells s) 31, blk b3 (m.cells a c) 35, R]) ?_ (fun fin => ?_)
          · refine .condP rfl (fun h200 => ?_) (fun h200 => ?_)
            · refine .region ?_
              refine .rd (.move rfl) ?_
              refine .rd (.move rfl) ?_
              refine .rd (.move rfl) ?_
              refine .rd (.fieldAddr fd35_6 rfl) ?_
              refine .rd (.ld na3 rfl (.tail .head) rfl) ?_
              refine .rd (.nilCheck rfl) ?_
              refine .rd (.fieldAddr fd31_4 rfl) ?_
              refine .ef0 (.store ts3 rfl rfl .head rfl (Nat.le_of_ble_eq_true rfl)) ?_
              rintro _ _ rfl
              refine .rd (.nilCheck rfl) ?_
              refine .rd (.fieldAddr fd31_5 rfl) ?_
              refine .ef0 (.store ts3 rfl rfl .head rfl (Nat.le_of_ble_eq_true rfl)) ?_
              rintro _ _ rfl
              refine .rd (.nilCheck rfl) ?_
              refine .rd (.fieldAddr fd31_7 rfl) ?_
              refine .ef0 (.store ts3 rfl rfl .head rfl (Nat.le_of_ble_eq_true rfl)) ?_
              rintro _ _ rfl
              refine .nil ?_
              refine .inBlock ?_
              have ht9 : told19 s m = { s with offset := 0, pid := 0, seq := 0 } := by unfold told19; rw [if_neg h2, if_neg h11, if_neg h13, if_neg h15, if_pos h200]
              refine .cast (X' := blk sb (Sn19.cells (told19 s m)) 31) (by first | (rw [ht9]; done) | (rw [ht9]; rfl)) ?_
              refine .endP Tryd.func35 .nil (.cons .head (.cons (.tail .head) .nil)) ?_
              exact ⟨[_], rfl, rfl⟩
            · refine .skip ?_
              refine .inBlock ?_
              have ht9 : told19 s m = s := by unfold told19; rw [if_neg h2, if_neg h11, if_neg h13, if_neg h15, if_neg h200]
              refine .cast (X' := blk sb (Sn19.cells (told19 s m)) 31) (by first | (rw [ht9]; done) | (rw [ht9]; rfl)) ?_
              refine .endP Tryd.func35 .nil (.cons .head (.cons (.tail .head) .nil)) ?_
              exact ⟨[_], rfl, rfl⟩
          · refine .condP rfl (fun h17 => ?_) (fun h17 => ?_)
            · refine .skip ?_
              refine .alter (t := 97) (v' := .bool (decide (s.kind = 5 ∨ s.kind = 7 ∨ s.kind = 8 ∨ s.kind = 9))) rfl (congrArg Value.bool (by simp [h17])) ?_
              exact fin (.cons rfl (.cons rfl (.cons rfl .nil))) (.cons (.tail .head) (.cons .head (.cons .head .nil)))
            · refine .seq ?_
              refine .region ?_
              refine .rd (.eqI rfl rfl) ?_
              refine .rd (.assign rfl) ?_
              refine .nil ?_
              refine .condP rfl (fun h18 => ?_) (fun h18 => ?_)
              · refine .skip ?_
                refine .alter (t := 97) (v' := .bool (decide (s.kind = 5 ∨ s.kind = 7 ∨ s.kind = 8 ∨ s.kind = 9))) rfl (congrArg Value.bool (by simp [h18])) ?_
                exact fin (.cons rfl (.cons rfl (.cons rfl .nil))) (.cons (.tail .head) (.cons .head (.cons .head .nil)))
              · refine .seq ?_
                refine .region ?_
                refine .rd (.eqI rfl rfl) ?_
                refine .rd (.assign rfl) ?_
                refine .nil ?_
                refine .condP rfl (fun h19 => ?_) (fun h19 => ?_)
                · refine .skip ?_
                  refine .alter (t := 97) (v' := .bool (decide (s.kind = 5 ∨ s.kind = 7 ∨ s.kind = 8 ∨ s.kind = 9))) rfl (congrArg Value.bool (by simp [h19])) ?_
                  exact fin (.cons rfl (.cons rfl (.cons rfl .nil))) (.cons (.tail .head) (.cons .head (.cons .head .nil)))
                · refine .region ?_
                  refine .rd (.eqI rfl rfl) ?_
                  refine .rd (.assign rfl) ?_
                  refine .nil ?_
                  refine .alter (t := 97) (v' := .bool (decide (s.kind = 5 ∨ s.kind = 7 ∨ s.kind = 8 ∨ s.kind = 9))) rfl (congrArg Value.bool (by simp [h17, h18, h19])) ?_
                  exact fin (.cons rfl (.cons rfl (.cons rfl .nil))) (.cons (.tail .head) (.cons .head (.cons .head .nil)))

end Go.Proofs.YtankogdnhgmkhaaDoor


namespace Go.Proofs.YtankogdnhgmkhaaDoor
open Go Go.Sp

set_option linter.unusedVariables false

namespace con9
theorem fd65_1 : FD Tryd.prog 65 1 1 := .of Tryd.underlying65 (by kernel_rfl)
theorem ia31 : IsAgg Tryd.prog 31 := ⟨_, Tryd.underlying31, trivial⟩
theorem ts31 : TS Tryd.prog 31 12 := .of (by kernel_rfl)
theorem ti31 : TI Tryd.prog 31 12 112 (.agg #[.int .i64 0, .int .i64 0, .int .i64 0, .int .i64 0, .int .i64 0, .int .i64 0, .int .i64 0, .int .i64 0, .string ⟨#[]⟩, .string ⟨#[]⟩, .int .i64 0, .bool false]) := .of (by kernel_rfl)
theorem fd60_0 : FD Tryd.prog 60 0 0 := .of Tryd.underlying60 (by kernel_rfl)
theorem na3 : NotAgg Tryd.prog 3 := ⟨_, Tryd.underlying3, trivial⟩
theorem fd65_0 : FD Tryd.prog 65 0 0 := .of Tryd.underlying65 (by kernel_rfl)
theorem fd31_0 : FD Tryd.prog 31 0 0 := .of Tryd.underlying31 (by kernel_rfl)
theorem ts3 : TS Tryd.prog 3 1 := .of (by kernel_rfl)
theorem fd31_1 : FD Tryd.prog 31 1 1 := .of Tryd.underlying31 (by kernel_rfl)
theorem fd31_10 : FD Tryd.prog 31 10 10 := .of Tryd.underlying31 (by kernel_rfl)
theorem ts25 : TS Tryd.prog 25 1 := .of (by kernel_rfl)
theorem fd31_11 : FD Tryd.prog 31 11 11 := .of Tryd.underlying31 (by kernel_rfl)
theorem ts4 : TS Tryd.prog 4 1 := .of (by kernel_rfl)
theorem fd60_8 : FD Tryd.prog 60 8 8 := .of Tryd.underlying60 (by kernel_rfl)
theorem na45 : NotAgg Tryd.prog 45 := ⟨_, Tryd.underlying45, trivial⟩
theorem ts45 : TS Tryd.prog 45 1 := .of (by kernel_rfl)
theorem ia35 : IsAgg Tryd.prog 35 := ⟨_, Tryd.underlying35, trivial⟩
theorem ts35 : TS Tryd.prog 35 21 := .of (by kernel_rfl)
end con9
open con9



set_option maxHeartbeats 1000000 in
set_option maxRecDepth 20000 in
theorem end_ok (pb xb : Nat) (s : CS19) (x : PX19) (oa : Option Addr) (on oc : Nat) (c : Cl19) (err : Int) (m : An19) (a : Option Addr) (cc : Nat) (hok : m.ok) (ho : 0 ≤ c.s.offset ∧ c.s.offset ≤ 1000000000000) (he : s.ended.length ≤ 100000000) : Cn Tryd.prog 24 [.pointer (some ⟨pb, 0, none⟩), .pointer (some ⟨xb, 0, none⟩), .int .i64 err, .agg (m.cells a cc).toArray] (m.at_ a) [blk pb (CS19.cells s x oa on oc) 60, blk xb (Cl19.cells c) 65, EL s x] fun v G => ∃ ea ec, G = [blk pb (CS19.cells (endS s c err m) ({ x with ea := ea, ec := ec } : PX19) oa on oc) 60, blk xb (Cl19.cells c) 65, EL (endS s c err m) ({ x with ea := ea, ec := ec } : PX19)] := by
  refine .enter Tryd.func24 rfl (by kernel_rfl) rfl fun R k => ?_
  refine .seq ?_
  refine .region ?_
  refine .ef (.box (l := m.cells a cc) rfl rfl (m.cells_ones a cc)) ?_
  rintro _ _ ⟨b7, rfl, rfl⟩
  refine .nil ?_
  refine .seq ?_
  refine .region ?_
  refine .rd (.move rfl) ?_
  refine .rd (.nilCheck rfl) ?_
  refine .rd (.fieldAddr fd65_1 rfl) ?_
  refine .rd (.loadN ia31 ts31 rfl rfl (Knows.sub (Knows.blk (.tail (.tail .head))) (i := 1) (ds := c.s.cells) rfl)) ?_
  refine .ef (.alloc ti31 rfl (ones.of rfl)) ?_
  rintro _ _ ⟨b8, rfl, rfl⟩
  refine .ef0 (.storeAll (vs := c.s.cells) ts31 rfl rfl rfl .head rfl (ones.of rfl)) ?_
  rintro _ _ rfl
  refine .nil ?_
  refine .seq ?_
  refine .drawsTo [3, 7] [blk pb (CS19.cells s x oa on oc) 60, blk xb (Cl19.cells c) 65] [(0, .pointer (some ⟨pb, 0, none⟩)), (8, .pointer (some ⟨b8, 0, none⟩)), (2, .int .i64 err), (7, .pointer (some ⟨b7, 0, none⟩))] [blk pb (CS19.cells s x oa on oc) 60, blk xb (Cl19.cells c) 65, EL s x, blk b8 (Sn19.cells (endSn s c err)) 31, blk b7 (m.cells a cc) 35, R] (by kernel_rfl) ?_ ?_
  · refine .rp 0 rfl (by kernel_rfl) (by kernel_rfl) (by kernel_rfl) (Reads.pure (.move rfl)) ?_
    refine .rp 1 rfl (by kernel_rfl) (by kernel_rfl) (by kernel_rfl) (Reads.pure (.nilCheck rfl)) ?_
    refine .rp 2 rfl (by kernel_rfl) (by kernel_rfl) (by kernel_rfl) (Reads.pure (.fieldAddr fd60_0 rfl)) ?_
    refine .rd 3 rfl rfl (by kernel_rfl) (by kernel_rfl) (by kernel_rfl) (.ld na3 rfl .head rfl) (.cons (.tail (.tail .head)) (.cons (.tail (.tail .head)) .nil)) ?_
    refine .rp 4 rfl (by kernel_rfl) (by kernel_rfl) (by kernel_rfl) (Reads.pure (.move rfl)) ?_
    refine .rp 5 rfl (by kernel_rfl) (by kernel_rfl) (by kernel_rfl) (Reads.pure (.nilCheck rfl)) ?_
    refine .rp 6 rfl (by kernel_rfl) (by kernel_rfl) (by kernel_rfl) (Reads.pure (.fieldAddr fd65_0 rfl)) ?_
    refine .rd 7 rfl rfl (by kernel_rfl) (by kernel_rfl) (by kernel_rfl) (.ld na3 rfl (.tail .head) rfl) (.cons (.tail (.tail .head)) (.cons (.tail (.tail .head)) .nil)) ?_
    refine .rp 8 rfl (by kernel_rfl) (by kernel_rfl) (by kernel_rfl) (Reads.pure (.move rfl)) ?_
    refine .rp 9 rfl (by kernel_rfl) (by kernel_rfl) (by kernel_rfl) (Reads.pure (.fieldAddr fd31_0 rfl)) ?_
    refine .ef0 10 (by kernel_rfl) rfl (.store ts3 rfl rfl .head rfl (Nat.le_of_ble_eq_true rfl)) ?_
    rintro _ _ rfl
    refine ⟨.inl (by kernel_rfl), ?_⟩
    refine .rp 11 rfl (by kernel_rfl) (by kernel_rfl) (by kernel_rfl) (Reads.pure (.fieldAddr fd31_1 rfl)) ?_
    refine .ef0 12 (by kernel_rfl) rfl (.store ts3 rfl rfl .head rfl (Nat.le_of_ble_eq_true rfl)) ?_
    rintro _ _ rfl
    refine ⟨.inl (by kernel_rfl), ?_⟩
    refine .rp 13 rfl (by kernel_rfl) (by kernel_rfl) (by kernel_rfl) (Reads.pure (.fieldAddr fd31_10 rfl)) ?_
    refine .ef0 14 (by kernel_rfl) rfl (.store ts25 rfl rfl .head rfl (Nat.le_of_ble_eq_true rfl)) ?_
    rintro _ _ rfl
    refine ⟨.inl (by kernel_rfl), ?_⟩
    refine .rp 15 rfl (by kernel_rfl) (by kernel_rfl) (by kernel_rfl) (Reads.pure (.fieldAddr fd31_11 rfl)) ?_
    refine .ef0 16 (by kernel_rfl) rfl (.store ts4 rfl rfl .head rfl (Nat.le_of_ble_eq_true rfl)) ?_
    rintro _ _ rfl
    refine ⟨.inl (by kernel_rfl), ?_⟩
    exact .done (by kernel_rfl) ⟨(.cons rfl (.cons rfl (.cons rfl (.cons rfl .nil)))), _, (.cons (.tail (.tail .head)) (.cons (.tail (.tail .head)) (.cons (.tail (.tail .head)) (.cons .head (.cons .head (.cons .head .nil))))))⟩
  · refine .seq ?_
    refine .seq ?_
    refine .region ?_
    refine .rd (.move rfl) ?_
    refine .rd (.eqI rfl rfl) ?_
    refine .nil ?_
    refine .joinAt (E' := [(0, .pointer (some ⟨pb, 0, none⟩)), (8, .pointer (some ⟨b8, 0, none⟩))]) (Γ' := [blk pb (CS19.cells s x oa on oc) 60, blk xb (Cl19.cells c) 65, EL s x, blk b8 (Sn19.cells (ended19 s c err m)) 31, R]) ?_ (fun fin => ?_)
    · refine .draws [4, 5] [blk pb (CS19.cells s x oa on oc) 60, blk b8 (Sn19.cells (ended19 s c err m)) 31] (by kernel_rfl) ?_
      refine .rp 0 rfl (by kernel_rfl) (by kernel_rfl) (by kernel_rfl) (Reads.pure (.move rfl)) ?_
      refine .rp 1 rfl (by kernel_rfl) (by kernel_rfl) (by kernel_rfl) (Reads.pure (.move rfl)) ?_
      refine .rp 2 rfl (by kernel_rfl) (by kernel_rfl) (by kernel_rfl) (Reads.pure (.nilCheck rfl)) ?_
      refine .rp 3 rfl (by kernel_rfl) (by kernel_rfl) (by kernel_rfl) (Reads.pure (.fieldAddr fd60_8 rfl)) ?_
      refine .rd 4 rfl rfl (by kernel_rfl) (by kernel_rfl) (by kernel_rfl) (.ld na45 rfl .head rfl) (.cons .head (.cons (.tail (.tail .head)) .nil)) ?_
      refine .rd 5 rfl rfl (by kernel_rfl) (by kernel_rfl) (by kernel_rfl) (.ldN ia31 ts31 rfl (.tail .head) rfl) (.cons .head (.cons (.tail (.tail .head)) .nil)) ?_
      refine .ef 6 (by kernel_rfl) rfl (.buildOne (cs := Sn19.cells (ended19 s c err m)) Tryd.underlying45 ti31 (by decide) rfl rfl rfl (Sn19.cells_ones _)) ?_
      rintro _ _ ⟨be, rfl, rfl⟩
      refine ⟨.inr ⟨_, (.cons (.tail .head) (.cons (.tail (.tail (.tail .head))) .nil))⟩, ?_⟩
      refine .ef 7 (by kernel_rfl) rfl (.append rfl rfl Tryd.underlying45 ti31 rfl (ones.of rfl) (by decide) (by decide) rfl rfl (.tail (.tail (.tail .head))) (n := s.ended.length) (m := 1) (flat_length Sn19.cells_len _) (.srcBlk (ys := Sn19.cells (ended19 s c err m)) .head Tryd.underlying45 rfl (by decide)) (by omega)) ?_
      rintro _ _ ⟨ea, ec, rfl, en, rfl⟩
      refine ⟨.inl (by kernel_rfl), ?_⟩
      refine .rp 8 rfl (by kernel_rfl) (by kernel_rfl) (by kernel_rfl) (Reads.pure (.nilCheck rfl)) ?_
      refine .rp 9 rfl (by kernel_rfl) (by kernel_rfl) (by kernel_rfl) (Reads.pure (.fieldAddr fd60_8 rfl)) ?_
      refine .ef0 10 (by kernel_rfl) rfl (.store ts45 rfl rfl (.tail (.tail .head)) rfl (Nat.le_of_ble_eq_true rfl)) ?_
      rintro _ _ rfl
      refine ⟨.inl (by kernel_rfl), ?_⟩
      refine .done (by kernel_rfl) ?_
      refine .perm (.cons (.tail .head) (.cons .head (.cons .head (.cons .head (.cons .head (.cons .head .nil)))))) ?_
      refine .cast (X' := EL (endS s c err m) ({ x with ea := ea, ec := ec } : PX19)) (by unfold EL endS; dsimp only; rw [List.flatMap_append]; simp) ?_
      refine .perm (.cons (.tail .head) (.cons .head (.cons .head (.cons .head (.cons .head (.cons .head .nil)))))) ?_
      refine .cast (X' := blk pb (CS19.cells (endS s c err m) ({ x with ea := ea, ec := ec } : PX19) oa on oc) 60) (by unfold CS19.cells endS; dsimp only; rw [List.length_append]; rfl) ?_
      refine .endP Tryd.func24 .nil (.cons .head (.cons (.tail (.tail .head)) (.cons .head (.cons (.tail (.tail .head)) .nil)))) ?_
      exact ⟨[_, _, _], ⟨ea, ec, rfl⟩, rfl⟩
    · refine .condP rfl (fun h3 => ?_) (fun h3 => ?_)
      · refine .region ?_
        refine .rd (.ldN ia35 ts35 rfl (.tail (.tail (.tail (.tail .head)))) rfl) ?_
        refine .fn rfl rfl (.cons (.tail (.tail (.tail .head))) .nil) (Knows.pick (.tail (.tail (.tail (.tail .head)))) k) (told_ok b8 (endSn s c err) m a cc hok ho) (fun v G1 hq => ?_)
        obtain rfl := hq
        simp only [List.cons_append, List.nil_append]
        refine .nil ?_
        refine .cast (X' := blk b8 (Sn19.cells (ended19 s c err m)) 31) (by unfold ended19; rw [if_pos h3]) ?_
        exact fin (.cons rfl (.cons rfl .nil)) (.cons (.tail .head) (.cons (.tail .head) (.cons (.tail .head) (.cons .head (.cons (.tail .head) .nil)))))
      · refine .skip ?_
        refine .perm (.cons (.tail (.tail (.tail .head))) (.cons .head (.cons .head (.cons .head (.cons .head (.cons .head .nil)))))) ?_
        refine .cast (X' := blk b8 (Sn19.cells (ended19 s c err m)) 31) (by unfold ended19; rw [if_neg h3]) ?_
        exact fin (.cons rfl (.cons rfl .nil)) (.cons (.tail .head) (.cons (.tail .head) (.cons (.tail .head) (.cons .head (.cons (.tail .head) .nil)))))

end Go.Proofs.YtankogdnhgmkhaaDoor


namespace Go.Proofs.YtankogdnhgmkhaaDoor
open Go Go.Sp

set_option linter.unusedVariables false

namespace con10
theorem kl3 : KL Tryd.prog 3 (fun n : Int => Value.int .i64 n) := .int Tryd.underlying3
theorem fd65_8 : FD Tryd.prog 65 8 39 := .of Tryd.underlying65 (by kernel_rfl)
theorem na3 : NotAgg Tryd.prog 3 := ⟨_, Tryd.underlying3, trivial⟩
theorem fd65_7 : FD Tryd.prog 65 7 38 := .of Tryd.underlying65 (by kernel_rfl)
theorem fd65_1 : FD Tryd.prog 65 1 1 := .of Tryd.underlying65 (by kernel_rfl)
theorem fd31_2 : FD Tryd.prog 31 2 2 := .of Tryd.underlying31 (by kernel_rfl)
theorem fd65_4 : FD Tryd.prog 65 4 35 := .of Tryd.underlying65 (by kernel_rfl)
theorem na4 : NotAgg Tryd.prog 4 := ⟨_, Tryd.underlying4, trivial⟩
theorem na24 : NotAgg Tryd.prog 24 := ⟨_, Tryd.underlying24, trivial⟩
theorem bld35_  (w : World) : (Instr.build 35 (([] : List Nat).zip []).toArray).run Tryd.prog w = .ok (.agg #[.int .i64 0, .int .i64 0, .int .i64 0, .int .i64 0, .int .i64 0, .int .i64 0, .int .i64 0, .int .i64 0, .int .i64 0, .int .i64 0, .int .i64 0, .int .i64 0, .int .i64 0, .int .i64 0, .int .i64 0, .int .i64 0, .string ⟨#[]⟩, .string ⟨#[]⟩, .slice none 0 0, .slice none 0 0, .slice none 0 0]) w := by kernel_rfl
theorem fd65_3 : FD Tryd.prog 65 3 34 := .of Tryd.underlying65 (by kernel_rfl)
theorem fd65_6 : FD Tryd.prog 65 6 37 := .of Tryd.underlying65 (by kernel_rfl)
theorem fd60_4 : FD Tryd.prog 60 4 4 := .of Tryd.underlying60 (by kernel_rfl)
theorem na57 : NotAgg Tryd.prog 57 := ⟨_, Tryd.underlying57, trivial⟩
end con10
open con10

theorem none19_ok : none19.ok := ⟨Nat.zero_le _, fun b hb => by simp [none19] at hb, fun b hb => by simp [none19] at hb⟩

set_option maxHeartbeats 2000000 in
set_option maxRecDepth 20000 in
theorem tick1_ok (pb b3 b2 : Nat) (now : Int) (x : PX19) (i : Nat) (st : TS19) (y : CallX) (hy : st.2.1[i]? = some y) (hB : PB st.1) (hpo : PO y.c) (hz : st.2.2.length ≤ 1000) (he : st.1.ended.length ≤ 10000000) (hnow : 0 ≤ now ∧ now ≤ 1000000000000) : Cn Tryd.prog 22 [.pointer (some ⟨y.a, 0, none⟩), .pointer (some ⟨b3, 0, none⟩), .pointer (some ⟨b2, 0, none⟩)] (fun w => CellsAt b3 0 [.int .i64 now] w ∧ CellsAt b2 0 [.pointer (some ⟨pb, 0, none⟩)] w) [TX pb x st] fun v G => v = .bool (dTick now i st).1 ∧ G = [TX pb x (dTick now i st).2] := by
  refine .enter Tryd.func22 rfl (by kernel_rfl) rfl fun R k => ?_
  obtain ⟨s, cl, zs⟩ := st
  dsimp only at *
  refine .open_ (σ := (Option Addr × Nat) × (Option Addr × Nat)) (φ := fun _ => True) (B := fun z => TL pb x (s, cl, zs) z.1.1 z.1.2 z.2.1 z.2.2) .head (fun _ h => let ⟨z, hz⟩ := h; ⟨z, trivial, hz⟩) (fun z _ => ?_)
  obtain ⟨⟨ea, ec⟩, ⟨oa, oc⟩⟩ := z
  dsimp only
  unfold TL
  simp only [List.cons_append, List.nil_append]
  refine .takeBag (x := y) (m := cl.eraseIdx i) (.tail .head) (perm_out hy) ?_
  refine .cast (X' := blk y.a (Cl19.cells y.c) 65) (rfl) ?_
  refine .perm (.cons (.tail (.tail .head)) (.cons .head (.cons .head (.cons .head (.cons .head (.cons .head (.cons .head (.cons .head .nil)))))))) ?_
  refine .cast (X' := blk pb (CS19.cells s ({ x with ea := ea, ec := ec } : PX19) oa zs.length oc) 60) (rfl) ?_
  refine .perm (.cons (.tail (.tail (.tail (.tail (.tail (.tail .head)))))) (.cons .head (.cons .head (.cons .head (.cons .head (.cons .head (.cons .head (.cons .head .nil)))))))) ?_
  refine .cast (X' := know (KN s x)) (rfl) ?_
  obtain ⟨htr, hof, _⟩ := hpo
  refine .seq ?_
  refine .region ?_
  refine .rd (.assign rfl) ?_
  refine .nil ?_
  refine .seq ?_
  refine .block ?_
  refine .seq ?_
  refine .draws [3, 4] [blk y.a (Cl19.cells y.c) 65, R] (by kernel_rfl) ?_
  refine .rp 0 rfl (by kernel_rfl) (by kernel_rfl) (by kernel_rfl) (Reads.pure (.move rfl)) ?_
  refine .rp 1 rfl (by kernel_rfl) (by kernel_rfl) (by kernel_rfl) (Reads.pure (.nilCheck rfl)) ?_
  refine .rp 2 rfl (by kernel_rfl) (by kernel_rfl) (by kernel_rfl) (Reads.pure (.fieldAddr fd65_8 rfl)) ?_
  refine .rd 3 rfl rfl (by kernel_rfl) (by kernel_rfl) (by kernel_rfl) (.ld na3 rfl .head rfl) (.cons (.tail (.tail .head)) (.cons (.tail (.tail (.tail (.tail (.tail (.tail .head)))))) .nil)) ?_
  refine .rd 4 rfl rfl (by kernel_rfl) (by kernel_rfl) (by kernel_rfl) (.load na3 rfl (Knows.one (i := 0) (Knows.pick (.tail .head) (k.mono fun _ h => h.1)) rfl)) (.cons (.tail (.tail .head)) (.cons (.tail (.tail (.tail (.tail (.tail (.tail .head)))))) .nil)) ?_
  refine .rp 5 rfl (by kernel_rfl) (by kernel_rfl) (by kernel_rfl) (Reads.pure (.gt rfl rfl)) ?_
  refine .rp 6 rfl (by kernel_rfl) (by kernel_rfl) (by kernel_rfl) (Reads.pure (.assign rfl)) ?_
  refine .done (by kernel_rfl) ?_
  refine .condP rfl (fun h1 => ?_) (fun h1 => ?_)
  · refine .seq ?_
    refine .region ?_
    refine .rd (.assign rfl) ?_
    refine .nil ?_
    refine .perm (.cons (.tail .head) (.cons .head (.cons .head (.cons .head (.cons .head (.cons .head (.cons .head (.cons .head .nil)))))))) ?_
    refine .cast (X' := blk pb (CS19.cells s ({ x with ea := ea, ec := ec } : PX19) oa (zs ++ Option.toList (none : Option Mg19)).length oc) 60) (by rw [Option.toList_none, List.append_nil]) ?_
    refine .perm (.cons (.tail (.tail (.tail (.tail (.tail (.tail .head)))))) (.cons .head (.cons .head (.cons .head (.cons .head (.cons .head (.cons .head (.cons .head .nil)))))))) ?_
    refine .cast (X' := Said oa oc (zs ++ Option.toList none)) (by rw [Option.toList_none, List.append_nil]) ?_
    refine .perm (.cons (.tail (.tail (.tail .head))) (.cons .head (.cons .head (.cons .head (.cons .head (.cons .head (.cons .head (.cons .head .nil)))))))) ?_
    refine .cast (X' := CB ⟨y.a, y.c⟩) (rfl) ?_
    refine .close (X := bag CB (cl.set i ⟨y.a, y.c⟩)) (B := [CB ⟨y.a, y.c⟩, bag CB (cl.eraseIdx i)]) (.cons .head (.cons (.tail (.tail (.tail .head))) .nil)) (fun _ H => bag.put (perm_in hy) H) ?_
    refine .close (X := TX pb x (s, cl.set i ⟨y.a, y.c⟩, zs ++ Option.toList none)) (.cons (.tail (.tail .head)) (.cons .head (.cons (.tail (.tail .head)) (.cons (.tail (.tail .head)) (.cons .head (.cons .head .nil)))))) (fun _ H => ⟨((ea, ec), (oa, oc)), H⟩) ?_
    have hd : dTick now i (s, cl, zs) = (false, (s, cl.set i ⟨y.a, y.c⟩, zs ++ Option.toList none)) := by rw [dTick_at (y := y) hy]; dsimp only; rw [due_no h1]
    rw [hd]
    refine .retP Tryd.func22 (.cons (.tmp rfl) .nil) (.cons .head (.cons .head .nil)) ?_
    exact ⟨[_], ⟨rfl, rfl⟩, rfl⟩
  · refine .seq ?_
    refine .region ?_
    refine RunO.join 22 12 (decide (y.c.tries = 0 ∨ (harm y.c.s.kind = false ∧ y.c.refused = false))) ?_ ?_
    · refine .rd (.move rfl) ?_
      refine .rd (.nilCheck rfl) ?_
      refine .rd (.fieldAddr fd65_7 rfl) ?_
      refine .rd (.ld na3 rfl (.tail (.tail .head)) rfl) ?_
      refine .rd (.eqI rfl rfl) ?_
      refine .rd (.move rfl) ?_
      refine .split (t := 18) rfl (fun g3a => ?_) (fun g3a => ?_)
      · replace g3a := of_decide_eq_true g3a
        refine .off (t := 18) rfl rfl rfl ?_
        refine .off (t := 18) rfl rfl rfl ?_
        refine .off (t := 18) rfl rfl rfl ?_
        refine .off (t := 18) rfl rfl rfl ?_
        refine .off (t := 18) rfl rfl rfl ?_
        refine .off (t := 18) rfl rfl rfl ?_
        refine .off (t := 18) rfl rfl rfl ?_
        refine .offU (t := 18) rfl rfl rfl rfl ?_
        refine .offX (t := 26) rfl rfl rfl ?_
        refine .offX (t := 26) rfl rfl rfl ?_
        refine .offX (t := 26) rfl rfl rfl ?_
        refine .offX (t := 26) rfl rfl rfl ?_
        refine .offX (t := 26) rfl rfl rfl ?_
        refine .off (t := 18) rfl rfl rfl ?_
        refine .rd (.pickT rfl rfl) ?_
        refine .rd (.assign rfl) ?_
        refine .nil ⟨rfl, ?_, by repeat (first | exact Le.refl _ | refine Le.skip rfl ?_)⟩
        exact congrArg (fun x => some (Value.bool x)) (Eq.symm (show decide (y.c.tries = 0 ∨ (harm y.c.s.kind = false ∧ y.c.refused = false)) = true from decide_eq_true (Or.inl g3a)))
      · replace g3a := of_decide_eq_false g3a
        refine .on (t := 18) rfl rfl ?_
        refine .rd (.move rfl) ?_
        refine .on (t := 18) rfl rfl ?_
        refine .rd (.nilCheck rfl) ?_
        refine .on (t := 18) rfl rfl ?_
        refine .rd (.fieldAddr fd65_1 rfl) ?_
        refine .on (t := 18) rfl rfl ?_
        refine .rd (.fieldAddr fd31_2 rfl) ?_
        refine .on (t := 18) rfl rfl ?_
        refine .rd (.ld na3 rfl (.tail (.tail .head)) rfl) ?_
        refine .on (t := 18) rfl rfl ?_
        refine .fn rfl rfl .nil (fun _ _ _ => trivial) (harmless_ok y.c.s.kind) (fun v G1 hq => ?_)
        obtain ⟨rfl, rfl⟩ := hq
        simp only [List.nil_append]
        refine .on (t := 18) rfl rfl ?_
        refine .rd (.not rfl) ?_
        refine .on (t := 18) rfl rfl ?_
        refine .rd (.move rfl) ?_
        refine .split (t := 26) rfl (fun g3b => ?_) (fun g3b => ?_)
        · refine .on (t := 26) rfl rfl ?_
          refine .rd (.move rfl) ?_
          refine .on (t := 26) rfl rfl ?_
          refine .rd (.nilCheck rfl) ?_
          refine .on (t := 26) rfl rfl ?_
          refine .rd (.fieldAddr fd65_4 rfl) ?_
          refine .on (t := 26) rfl rfl ?_
          refine .rd (.ld na4 rfl (.tail (.tail .head)) rfl) ?_
          refine .on (t := 26) rfl rfl ?_
          refine .rd (.not rfl) ?_
          refine .on (t := 18) rfl rfl ?_
          refine .rd (.pickT rfl rfl) ?_
          refine .rd (.pickF rfl rfl) ?_
          refine .rd (.assign rfl) ?_
          refine .nil ⟨rfl, ?_, by repeat (first | exact Le.refl _ | refine Le.skip rfl ?_)⟩
          exact congrArg (fun x => some (Value.bool x)) (Eq.symm (show decide (y.c.tries = 0 ∨ (harm y.c.s.kind = false ∧ y.c.refused = false)) = (!y.c.refused) by simp [g3a, show harm y.c.s.kind = false from by simpa using g3b]))
        · refine .off (t := 26) rfl rfl rfl ?_
          refine .off (t := 26) rfl rfl rfl ?_
          refine .off (t := 26) rfl rfl rfl ?_
          refine .off (t := 26) rfl rfl rfl ?_
          refine .off (t := 26) rfl rfl rfl ?_
          refine .on (t := 18) rfl rfl ?_
          refine .rd (.pickF rfl rfl) ?_
          refine .rd (.pickF rfl rfl) ?_
          refine .rd (.assign rfl) ?_
          refine .nil ⟨rfl, ?_, by repeat (first | exact Le.refl _ | refine Le.skip rfl ?_)⟩
          exact congrArg (fun x => some (Value.bool x)) (Eq.symm (show decide (y.c.tries = 0 ∨ (harm y.c.s.kind = false ∧ y.c.refused = false)) = false by simp [g3a, show harm y.c.s.kind = true from by simpa using g3b]))
    refine .nil ?_
    refine .condP rfl (fun h3 => ?_) (fun h3 => ?_)
    · refine .seq ?_
      refine .region ?_
      refine .rd (.load na24 rfl (Knows.one (i := 0) (Knows.pick (.tail (.tail (.tail (.tail (.tail (.tail (.tail .head))))))) (k.mono fun _ h => h.2)) rfl)) ?_
      refine .rd (.move rfl) ?_
      refine .rd (.build rfl (bld35_)) ?_
      refine .fn rfl rfl (.cons (.tail .head) (.cons (.tail .head) (.cons (.tail (.tail (.tail .head))) .nil))) (fun _ _ _ => ⟨.inl rfl, fun b hb => by simp [none19] at hb⟩) (end_ok pb y.a s ({ x with ea := ea, ec := ec } : PX19) oa zs.length oc y.c 21 none19 none 0 none19_ok ⟨hof.1, by omega⟩ (by omega)) (fun v G1 hq => ?_)
      obtain ⟨ea2, ec2, rfl⟩ := hq
      simp only [List.cons_append, List.nil_append]
      refine .nil ?_
      refine .seq ?_
      refine .region ?_
      refine .rd (.assign rfl) ?_
      refine .nil ?_
      refine .cast (X' := blk pb (CS19.cells (endS s y.c 21 none19) ({ x with ea := ea2, ec := ec2 } : PX19) oa (zs ++ Option.toList (none : Option Mg19)).length oc) 60) (by rw [Option.toList_none, List.append_nil]) ?_
      refine .perm (.cons (.tail (.tail (.tail (.tail (.tail (.tail .head)))))) (.cons .head (.cons .head (.cons .head (.cons .head (.cons .head (.cons .head (.cons .head .nil)))))))) ?_
      refine .cast (X' := Said oa oc (zs ++ Option.toList none)) (by rw [Option.toList_none, List.append_nil]) ?_
      refine .perm (.cons (.tail (.tail (.tail .head))) (.cons .head (.cons .head (.cons .head (.cons .head (.cons .head (.cons .head (.cons .head .nil)))))))) ?_
      refine .cast (X' := EL (endS s y.c 21 none19) ({ x with ea := ea2, ec := ec2 } : PX19)) (rfl) ?_
      refine .perm (.cons (.tail (.tail (.tail (.tail (.tail (.tail .head)))))) (.cons .head (.cons .head (.cons .head (.cons .head (.cons .head (.cons .head (.cons .head .nil)))))))) ?_
      refine .cast (X' := IM x.ab (CS19.aims (endS s y.c 21 none19))) (rfl) ?_
      refine .perm (.cons (.tail (.tail (.tail (.tail (.tail .head))))) (.cons .head (.cons .head (.cons .head (.cons .head (.cons .head (.cons .head (.cons .head .nil)))))))) ?_
      refine .cast (X' := know (KN (endS s y.c 21 none19) x)) (rfl) ?_
      refine .perm (.cons (.tail (.tail (.tail (.tail (.tail .head))))) (.cons .head (.cons .head (.cons .head (.cons .head (.cons .head (.cons .head (.cons .head .nil)))))))) ?_
      refine .cast (X' := CB ⟨y.a, y.c⟩) (rfl) ?_
      refine .close (X := bag CB (cl.set i ⟨y.a, y.c⟩)) (B := [CB ⟨y.a, y.c⟩, bag CB (cl.eraseIdx i)]) (.cons .head (.cons (.tail (.tail (.tail (.tail (.tail .head))))) .nil)) (fun _ H => bag.put (perm_in hy) H) ?_
      refine .close (X := TX pb x ((endS s y.c 21 none19), cl.set i ⟨y.a, y.c⟩, zs ++ Option.toList none)) (.cons (.tail (.tail (.tail (.tail (.tail .head))))) (.cons .head (.cons (.tail .head) (.cons (.tail .head) (.cons (.tail .head) (.cons .head .nil)))))) (fun _ H => ⟨((ea2, ec2), (oa, oc)), H⟩) ?_
      have hd : dTick now i (s, cl, zs) = (true, ((endS s y.c 21 none19), cl.set i ⟨y.a, y.c⟩, zs ++ Option.toList none)) := by rw [dTick_at (y := y) hy]; dsimp only; rw [due_end h1 h3]
      rw [hd]
      refine .retP Tryd.func22 (.cons (.tmp rfl) .nil) (.cons .head (.cons .head .nil)) ?_
      exact ⟨[_], ⟨rfl, rfl⟩, rfl⟩
    · refine .skip ?_
      refine .inBlock ?_
      refine .seq ?_
      refine .seq ?_
      refine .draws [0, 4, 9] [R, blk y.a (Cl19.cells y.c) 65] (by kernel_rfl) ?_
      refine .rd 0 rfl rfl (by kernel_rfl) (by kernel_rfl) (by kernel_rfl) (.load na24 rfl (Knows.one (i := 0) (Knows.pick .head (k.mono fun _ h => h.2)) rfl)) (.cons (.tail (.tail (.tail (.tail (.tail (.tail (.tail .head))))))) (.cons (.tail (.tail .head)) .nil)) ?_
      refine .rp 1 rfl (by kernel_rfl) (by kernel_rfl) (by kernel_rfl) (Reads.pure (.move rfl)) ?_
      refine .rp 2 rfl (by kernel_rfl) (by kernel_rfl) (by kernel_rfl) (Reads.pure (.nilCheck rfl)) ?_
      refine .rp 3 rfl (by kernel_rfl) (by kernel_rfl) (by kernel_rfl) (Reads.pure (.fieldAddr fd65_3 rfl)) ?_
      refine .rd 4 rfl rfl (by kernel_rfl) (by kernel_rfl) (by kernel_rfl) (.ld na3 rfl (.tail .head) rfl) (.cons (.tail (.tail (.tail (.tail (.tail (.tail (.tail .head))))))) (.cons (.tail (.tail .head)) .nil)) ?_
      refine .rp 6 rfl (by kernel_rfl) (by kernel_rfl) (by kernel_rfl) (Reads.pure (.move rfl)) ?_
      refine .rp 7 rfl (by kernel_rfl) (by kernel_rfl) (by kernel_rfl) (Reads.pure (.nilCheck rfl)) ?_
      refine .rp 8 rfl (by kernel_rfl) (by kernel_rfl) (by kernel_rfl) (Reads.pure (.fieldAddr fd65_6 rfl)) ?_
      refine .rd 9 rfl rfl (by kernel_rfl) (by kernel_rfl) (by kernel_rfl) (.ld na3 rfl (.tail .head) rfl) (.cons (.tail (.tail (.tail (.tail (.tail (.tail (.tail .head))))))) (.cons (.tail (.tail .head)) .nil)) ?_
      refine .ef 5 (by kernel_rfl) rfl (.fn rfl rfl (.cons (.tail (.tail (.tail (.tail .head)))) .nil) (fun A w h => ⟨(Knows.blk (.tail .head)) A w h, (Knows.know .head) A w h⟩) (whom_ok pb s ({ x with ea := ea, ec := ec } : PX19) oa zs.length oc y.c.aim hB.bne)) ?_
      rintro v _ ⟨G1, hq, rfl⟩
      obtain ⟨rfl, rfl⟩ := hq
      simp only [List.cons_append, List.nil_append]
      refine ⟨.inr ⟨_, (.cons (.tail (.tail (.tail (.tail (.tail (.tail (.tail .head))))))) (.cons (.tail (.tail (.tail .head))) .nil))⟩, ?_⟩
      refine .rp 10 rfl (by kernel_rfl) (by kernel_rfl) (by kernel_rfl) (Reads.pure (.eqI rfl rfl)) ?_
      refine .done (by kernel_rfl) ?_
      refine .joinAt (E' := [(0, .pointer (some ⟨y.a, 0, none⟩)), (1, .pointer (some ⟨b3, 0, none⟩)), (2, .pointer (some ⟨b2, 0, none⟩))]) (Γ' := [blk pb (CS19.cells (moved s y.c) ({ x with ea := ea, ec := ec } : PX19) oa zs.length oc) 60, blk y.a (Cl19.cells y.c) 65, bag CB (cl.eraseIdx i), IM x.ab (CS19.aims (moved s y.c)), EL (moved s y.c) ({ x with ea := ea, ec := ec } : PX19), Said oa oc zs, know (KN (moved s y.c) x), R]) ?_ (fun fin => ?_)
      · refine .seq ?_
        refine .region ?_
        refine .rd (.load na24 rfl (Knows.one (i := 0) (Knows.pick (.tail (.tail (.tail (.tail (.tail (.tail (.tail .head))))))) (k.mono fun _ h => h.2)) rfl)) ?_
        refine .rd (.load na3 rfl (Knows.one (i := 0) (Knows.pick (.tail (.tail (.tail (.tail (.tail (.tail (.tail .head))))))) (k.mono fun _ h => h.1)) rfl)) ?_
        refine .rd (.move rfl) ?_
        refine .fn rfl rfl (.cons .head (.cons .head (.cons (.tail .head) (.cons (.tail (.tail .head)) (.cons (.tail (.tail .head)) .nil))))) (fun _ _ _ => trivial) (ask_ok pb y.a now (moved s y.c) ({ x with ea := ea, ec := ec } : PX19) oa oc zs y.c (hB.moved y.c) hnow (by omega) (by omega)) (fun v G1 hq => ?_)
        obtain ⟨oa2, oc2, rfl⟩ := hq
        simp only [List.cons_append, List.nil_append]
        refine .nil ?_
        refine .seq ?_
        refine .region ?_
        refine .rd (.assign rfl) ?_
        refine .nil ?_
        refine .cast (X' := blk pb (CS19.cells (askS (moved s y.c)) ({ x with ea := ea, ec := ec } : PX19) oa2 (zs ++ Option.toList (some (askC (moved s y.c) now y.c).m)).length oc2) 60) (rfl) ?_
        refine .perm (.cons (.tail (.tail (.tail .head))) (.cons .head (.cons .head (.cons .head (.cons .head (.cons .head (.cons .head (.cons .head .nil)))))))) ?_
        refine .cast (X' := Said oa2 oc2 (zs ++ Option.toList (some (askC (moved s y.c) now y.c).m))) (rfl) ?_
        refine .perm (.cons (.tail (.tail (.tail (.tail (.tail (.tail .head)))))) (.cons .head (.cons .head (.cons .head (.cons .head (.cons .head (.cons .head (.cons .head .nil)))))))) ?_
        refine .cast (X' := EL (askS (moved s y.c)) ({ x with ea := ea, ec := ec } : PX19)) (rfl) ?_
        refine .perm (.cons (.tail (.tail (.tail (.tail .head)))) (.cons .head (.cons .head (.cons .head (.cons .head (.cons .head (.cons .head (.cons .head .nil)))))))) ?_
        refine .cast (X' := IM x.ab (CS19.aims (askS (moved s y.c)))) (rfl) ?_
        refine .perm (.cons (.tail (.tail (.tail (.tail (.tail .head))))) (.cons .head (.cons .head (.cons .head (.cons .head (.cons .head (.cons .head (.cons .head .nil)))))))) ?_
        refine .cast (X' := know (KN (askS (moved s y.c)) x)) (rfl) ?_
        refine .perm (.cons (.tail (.tail (.tail (.tail (.tail .head))))) (.cons .head (.cons .head (.cons .head (.cons .head (.cons .head (.cons .head (.cons .head .nil)))))))) ?_
        refine .cast (X' := CB ⟨y.a, (askC (moved s y.c) now y.c)⟩) (rfl) ?_
        refine .close (X := bag CB (cl.set i ⟨y.a, (askC (moved s y.c) now y.c)⟩)) (B := [CB ⟨y.a, (askC (moved s y.c) now y.c)⟩, bag CB (cl.eraseIdx i)]) (.cons .head (.cons (.tail (.tail (.tail (.tail (.tail .head))))) .nil)) (fun _ H => bag.put (perm_in hy) H) ?_
        refine .close (X := TX pb x ((askS (moved s y.c)), cl.set i ⟨y.a, (askC (moved s y.c) now y.c)⟩, zs ++ Option.toList (some (askC (moved s y.c) now y.c).m))) (.cons (.tail (.tail (.tail (.tail (.tail .head))))) (.cons .head (.cons (.tail .head) (.cons (.tail .head) (.cons (.tail .head) (.cons .head .nil)))))) (fun _ H => ⟨((ea, ec), (oa2, oc2)), H⟩) ?_
        have hd : dTick now i (s, cl, zs) = (false, ((askS (moved s y.c)), cl.set i ⟨y.a, (askC (moved s y.c) now y.c)⟩, zs ++ Option.toList (some (askC (moved s y.c) now y.c).m))) := by rw [dTick_at (y := y) hy]; dsimp only; rw [due_ask h1 h3]
        rw [hd]
        refine .retP Tryd.func22 (.cons (.tmp rfl) .nil) (.cons .head (.cons .head .nil)) ?_
        exact ⟨[_], ⟨rfl, rfl⟩, rfl⟩
      · refine .condP rfl (fun h6 => ?_) (fun h6 => ?_)
        · refine .draws [0, 3, 7, 8, 12] [R, blk pb (CS19.cells s ({ x with ea := ea, ec := ec } : PX19) oa zs.length oc) 60, blk y.a (Cl19.cells y.c) 65] (by kernel_rfl) ?_
          refine .rd 0 rfl rfl (by kernel_rfl) (by kernel_rfl) (by kernel_rfl) (.load na24 rfl (Knows.one (i := 0) (Knows.pick .head (k.mono fun _ h => h.2)) rfl)) (.cons (.tail (.tail (.tail (.tail (.tail (.tail (.tail .head))))))) (.cons (.tail (.tail .head)) (.cons (.tail (.tail .head)) .nil))) ?_
          refine .rp 1 rfl (by kernel_rfl) (by kernel_rfl) (by kernel_rfl) (Reads.pure (.nilCheck rfl)) ?_
          refine .rp 2 rfl (by kernel_rfl) (by kernel_rfl) (by kernel_rfl) (Reads.pure (.fieldAddr fd60_4 rfl)) ?_
          refine .rd 3 rfl rfl (by kernel_rfl) (by kernel_rfl) (by kernel_rfl) (.ld na57 rfl (.tail .head) rfl) (.cons (.tail (.tail (.tail (.tail (.tail (.tail (.tail .head))))))) (.cons (.tail (.tail .head)) (.cons (.tail (.tail .head)) .nil))) ?_
          refine .rp 4 rfl (by kernel_rfl) (by kernel_rfl) (by kernel_rfl) (Reads.pure (.move rfl)) ?_
          refine .rp 5 rfl (by kernel_rfl) (by kernel_rfl) (by kernel_rfl) (Reads.pure (.nilCheck rfl)) ?_
          refine .rp 6 rfl (by kernel_rfl) (by kernel_rfl) (by kernel_rfl) (Reads.pure (.fieldAddr fd65_3 rfl)) ?_
          refine .rd 7 rfl rfl (by kernel_rfl) (by kernel_rfl) (by kernel_rfl) (.ld na3 rfl (.tail (.tail .head)) rfl) (.cons (.tail (.tail (.tail (.tail (.tail (.tail (.tail .head))))))) (.cons (.tail (.tail .head)) (.cons (.tail (.tail .head)) .nil))) ?_
          refine .rd 8 rfl rfl (by kernel_rfl) (by kernel_rfl) (by kernel_rfl) (.load na24 rfl (Knows.one (i := 0) (Knows.pick .head (k.mono fun _ h => h.2)) rfl)) (.cons (.tail (.tail (.tail (.tail (.tail (.tail (.tail .head))))))) (.cons (.tail (.tail .head)) (.cons (.tail (.tail .head)) .nil))) ?_
          refine .rp 9 rfl (by kernel_rfl) (by kernel_rfl) (by kernel_rfl) (Reads.pure (.move rfl)) ?_
          refine .rp 10 rfl (by kernel_rfl) (by kernel_rfl) (by kernel_rfl) (Reads.pure (.nilCheck rfl)) ?_
          refine .rp 11 rfl (by kernel_rfl) (by kernel_rfl) (by kernel_rfl) (Reads.pure (.fieldAddr fd65_6 rfl)) ?_
          refine .rd 12 rfl rfl (by kernel_rfl) (by kernel_rfl) (by kernel_rfl) (.ld na3 rfl (.tail (.tail .head)) rfl) (.cons (.tail (.tail (.tail (.tail (.tail (.tail (.tail .head))))))) (.cons (.tail (.tail .head)) (.cons (.tail (.tail .head)) .nil))) ?_
          refine .ef 13 (by kernel_rfl) rfl (.fn rfl rfl .nil (fun A w h => ⟨(Knows.blk (.tail (.tail .head))) A w h, (Knows.know (.tail .head)) A w h⟩) (behind_ok pb s ({ x with ea := ea, ec := ec } : PX19) oa zs.length oc y.c.to hB.bne hB.bn)) ?_
          rintro v _ ⟨G1, hq, rfl⟩
          obtain ⟨rfl, rfl⟩ := hq
          simp only [List.nil_append]
          refine ⟨.inr ⟨_, (.cons (.tail (.tail (.tail (.tail (.tail (.tail (.tail .head))))))) (.cons (.tail (.tail .head)) (.cons (.tail (.tail .head)) .nil)))⟩, ?_⟩
          refine .ef0 14 (by kernel_rfl) rfl (.mapUpdate (venc := Value.int .i64) (u := behind s.brokers y.c.to) kl3 Tryd.underlying57 rfl rfl rfl .head) ?_
          rintro _ _ rfl
          refine ⟨.inl (by kernel_rfl), ?_⟩
          refine .done (by kernel_rfl) ?_
          have hmv : (moved s y.c) = { s with aims := mset s.aims y.c.aim (behind s.brokers y.c.to) } := by unfold moved; rw [if_pos h6]
          refine .cast (X' := IM x.ab (CS19.aims (moved s y.c))) (by first | (rw [hmv]; done) | (rw [hmv]; rfl)) ?_
          refine .perm (.cons (.tail (.tail .head)) (.cons .head (.cons .head (.cons .head (.cons .head (.cons .head (.cons .head (.cons .head .nil)))))))) ?_
          refine .cast (X' := blk pb (CS19.cells (moved s y.c) ({ x with ea := ea, ec := ec } : PX19) oa zs.length oc) 60) (by first | (rw [hmv]; done) | (rw [hmv]; rfl)) ?_
          refine .perm (.cons (.tail (.tail (.tail (.tail (.tail .head))))) (.cons .head (.cons .head (.cons .head (.cons .head (.cons .head (.cons .head (.cons .head .nil)))))))) ?_
          refine .cast (X' := EL (moved s y.c) ({ x with ea := ea, ec := ec } : PX19)) (by first | (rw [hmv]; done) | (rw [hmv]; rfl)) ?_
          refine .perm (.cons (.tail (.tail (.tail .head))) (.cons .head (.cons .head (.cons .head (.cons .head (.cons .head (.cons .head (.cons .head .nil)))))))) ?_
          refine .cast (X' := know (KN (moved s y.c) x)) (by first | (rw [hmv]; done) | (rw [hmv]; rfl)) ?_
          exact fin (.cons rfl (.cons rfl (.cons rfl .nil))) (.cons (.tail (.tail .head)) (.cons (.tail (.tail (.tail .head))) (.cons (.tail (.tail (.tail .head))) (.cons (.tail (.tail .head)) (.cons (.tail .head) (.cons (.tail .head) (.cons .head (.cons .head .nil))))))))
        · refine .skip ?_
          have hmv : (moved s y.c) = s := by unfold moved; rw [if_neg h6]
          refine .cast (X' := IM x.ab (CS19.aims (moved s y.c))) (by first | (rw [hmv]; done) | (rw [hmv]; rfl)) ?_
          refine .perm (.cons (.tail (.tail .head)) (.cons .head (.cons .head (.cons .head (.cons .head (.cons .head (.cons .head (.cons .head .nil)))))))) ?_
          refine .cast (X' := blk pb (CS19.cells (moved s y.c) ({ x with ea := ea, ec := ec } : PX19) oa zs.length oc) 60) (by first | (rw [hmv]; done) | (rw [hmv]; rfl)) ?_
          refine .perm (.cons (.tail (.tail (.tail (.tail (.tail .head))))) (.cons .head (.cons .head (.cons .head (.cons .head (.cons .head (.cons .head (.cons .head .nil)))))))) ?_
          refine .cast (X' := EL (moved s y.c) ({ x with ea := ea, ec := ec } : PX19)) (by first | (rw [hmv]; done) | (rw [hmv]; rfl)) ?_
          refine .perm (.cons (.tail (.tail (.tail .head))) (.cons .head (.cons .head (.cons .head (.cons .head (.cons .head (.cons .head (.cons .head .nil)))))))) ?_
          refine .cast (X' := know (KN (moved s y.c) x)) (by first | (rw [hmv]; done) | (rw [hmv]; rfl)) ?_
          exact fin (.cons rfl (.cons rfl (.cons rfl .nil))) (.cons (.tail (.tail .head)) (.cons (.tail (.tail (.tail .head))) (.cons (.tail (.tail (.tail .head))) (.cons (.tail (.tail .head)) (.cons (.tail .head) (.cons (.tail .head) (.cons .head (.cons .head .nil))))))))

end Go.Proofs.YtankogdnhgmkhaaDoor


namespace Go.Proofs.YtankogdnhgmkhaaDoor
open Go Go.Sp

set_option linter.unusedVariables false

namespace con1
theorem fd60_9 : FD Tryd.prog 60 9 9 := .of Tryd.underlying60 (by kernel_rfl)
theorem na29 : NotAgg Tryd.prog 29 := ⟨_, Tryd.underlying29, trivial⟩
theorem ts29 : TS Tryd.prog 29 1 := .of (by kernel_rfl)
theorem fd60_8 : FD Tryd.prog 60 8 8 := .of Tryd.underlying60 (by kernel_rfl)
theorem na45 : NotAgg Tryd.prog 45 := ⟨_, Tryd.underlying45, trivial⟩
theorem ts45 : TS Tryd.prog 45 1 := .of (by kernel_rfl)
theorem fd60_5 : FD Tryd.prog 60 5 5 := .of Tryd.underlying60 (by kernel_rfl)
theorem na58 : NotAgg Tryd.prog 58 := ⟨_, Tryd.underlying58, trivial⟩
end con1
open con1



set_option maxRecDepth 20000 in
theorem said_ok (pb : Nat) (s : CS19) (x : PX19) (oa : Option Addr) (on oc : Nat) : Cn Tryd.prog 20 [.pointer (some ⟨pb, 0, none⟩)] (fun _ => True) [blk pb (CS19.cells s x oa on oc) 60] fun r G => r = .slice oa on oc ∧ G = [blk pb (CS19.cells s x none 0 0) 60] := by
  refine .enter Tryd.func20 rfl (by kernel_rfl) rfl fun R k => ?_
  refine .seq ?_
  refine .region ?_
  refine .rd (.assign rfl) ?_
  refine .nil ?_
  refine .seq ?_
  refine .region ?_
  refine .rd (.move rfl) ?_
  refine .rd (.nilCheck rfl) ?_
  refine .rd (.fieldAddr fd60_9 rfl) ?_
  refine .rd (.ld na29 rfl .head rfl) ?_
  refine .rd (.assign rfl) ?_
  refine .nil ?_
  refine .seq ?_
  refine .region ?_
  refine .rd (.move rfl) ?_
  refine .rd (.nilCheck rfl) ?_
  refine .rd (.fieldAddr fd60_9 rfl) ?_
  refine .ef0 (.store ts29 rfl rfl .head rfl (Nat.le_of_ble_eq_true rfl)) ?_
  rintro _ _ rfl
  refine .nil ?_
  refine .seq ?_
  refine .region ?_
  refine .rd (.move rfl) ?_
  refine .rd (.assign rfl) ?_
  refine .nil ?_
  refine .retP Tryd.func20 (.cons (.tmp rfl) .nil) (.cons .head (.cons .head .nil)) ?_
  exact ⟨[_], ⟨rfl, rfl⟩, rfl⟩

set_option maxRecDepth 20000 in
theorem done_ok (pb : Nat) (s : CS19) : Cn Tryd.prog 13 [.pointer (some ⟨pb, 0, none⟩)] (fun _ => True) [PR pb s] fun v G => ∃ ea ec, v = .slice ea s.ended.length ec ∧ G = [PR pb (done19 s), arr 31 12 ea ec (s.ended.flatMap Sn19.cells)] := by
  refine .enter Tryd.func13 rfl (by kernel_rfl) rfl fun R k => ?_
  refine .open_ (σ := PX19 × List CallX) (φ := fun y => y.2.map (·.c) = s.open_ ∧ y.1.un = s.open_.length) (B := fun y => PL pb s y.1 y.2 none 0 0) .head (fun _ h => h) (fun y hW => ?_)
  obtain ⟨x, cl⟩ := y
  dsimp only at hW ⊢
  unfold PL
  simp only [List.cons_append, List.nil_append]
  refine .seq ?_
  refine .region ?_
  refine .rd (.assign rfl) ?_
  refine .nil ?_
  refine .seq ?_
  refine .region ?_
  refine .rd (.move rfl) ?_
  refine .rd (.nilCheck rfl) ?_
  refine .rd (.fieldAddr fd60_8 rfl) ?_
  refine .rd (.ld na45 rfl .head rfl) ?_
  refine .rd (.assign rfl) ?_
  refine .nil ?_
  refine .seq ?_
  refine .region ?_
  refine .rd (.move rfl) ?_
  refine .rd (.nilCheck rfl) ?_
  refine .rd (.fieldAddr fd60_8 rfl) ?_
  refine .ef0 (.store ts45 rfl rfl .head rfl (Nat.le_of_ble_eq_true rfl)) ?_
  rintro _ _ rfl
  refine .nil ?_
  refine .seq ?_
  refine .region ?_
  refine .rd (.move rfl) ?_
  refine .rd (.assign rfl) ?_
  refine .nil ?_
  refine .nilArr 31 12 none ?_
  refine .cast (X' := EL (done19 s) ({ x with ea := none, ec := 0 })) (rfl) ?_
  refine .perm (.cons (.tail .head) (.cons .head (.cons .head (.cons .head (.cons .head (.cons .head (.cons .head (.cons .head .nil)))))))) ?_
  refine .cast (X' := blk pb (CS19.cells (done19 s) ({ x with ea := none, ec := 0 }) none 0 0) 60) (rfl) ?_
  refine .perm (.cons (.tail (.tail (.tail (.tail (.tail (.tail .head)))))) (.cons .head (.cons .head (.cons .head (.cons .head (.cons .head (.cons .head (.cons .head .nil)))))))) ?_
  refine .cast (X' := know (KN (done19 s) ({ x with ea := none, ec := 0 }))) (rfl) ?_
  refine .close (X := PR pb (done19 s)) (.cons (.tail .head) (.cons (.tail (.tail .head)) (.cons (.tail (.tail .head)) (.cons (.tail (.tail .head)) (.cons (.tail .head) (.cons .head .nil)))))) (fun _ H => ⟨({ x with ea := none, ec := 0 }, cl), hW, H⟩) ?_
  refine .perm (.cons (.tail .head) (.cons .head (.cons .head .nil))) ?_
  refine .cast (X' := arr 31 12 x.ea x.ec (s.ended.flatMap Sn19.cells)) (rfl) ?_
  refine .retP Tryd.func13 (.cons (.tmp rfl) .nil) (.cons (.tail .head) (.cons .head (.cons .head .nil))) ?_
  exact ⟨[_, _], ⟨x.ea, x.ec, rfl, rfl⟩, rfl⟩

set_option maxRecDepth 20000 in
theorem open_ok (pb : Nat) (s : CS19) : Cn Tryd.prog 14 [.pointer (some ⟨pb, 0, none⟩)] (fun _ => True) [PR pb s] fun v G => v = .int .i64 (s.open_.length : Nat) ∧ G = [PR pb s] := by
  refine .enter Tryd.func14 rfl (by kernel_rfl) rfl fun R k => ?_
  refine .open_ (σ := PX19 × List CallX) (φ := fun y => y.2.map (·.c) = s.open_ ∧ y.1.un = s.open_.length) (B := fun y => PL pb s y.1 y.2 none 0 0) .head (fun _ h => h) (fun y hW => ?_)
  obtain ⟨x, cl⟩ := y
  dsimp only at hW ⊢
  unfold PL
  simp only [List.cons_append, List.nil_append]
  refine .seq ?_
  refine .region ?_
  refine .rd (.assign rfl) ?_
  refine .nil ?_
  refine .seq ?_
  refine .region ?_
  refine .rd (.move rfl) ?_
  refine .rd (.nilCheck rfl) ?_
  refine .rd (.fieldAddr fd60_5 rfl) ?_
  refine .rd (.ld na58 rfl .head rfl) ?_
  refine .rd (.lenL rfl rfl Tryd.underlying58 rfl) ?_
  refine .rd (.assign rfl) ?_
  refine .nil ?_
  refine .close (X := PR pb s) (.cons .head (.cons .head (.cons .head (.cons .head (.cons .head (.cons .head .nil)))))) (fun _ H => ⟨(x, cl), hW, H⟩) ?_
  refine .retP Tryd.func14 (.cons (.tmp rfl) .nil) (.cons .head (.cons .head .nil)) ?_
  exact ⟨[_], ⟨by rw [← hW.2]; rfl, rfl⟩, rfl⟩

end Go.Proofs.YtankogdnhgmkhaaDoor


namespace Go.Proofs.YtankogdnhgmkhaaDoor
open Go Go.Sp

set_option linter.unusedVariables false

namespace con12
theorem fd65_5 : FD Tryd.prog 65 5 36 := .of Tryd.underlying65 (by kernel_rfl)
theorem na3 : NotAgg Tryd.prog 3 := ⟨_, Tryd.underlying3, trivial⟩
theorem fd35_3 : FD Tryd.prog 35 3 3 := .of Tryd.underlying35 (by kernel_rfl)
theorem fd65_6 : FD Tryd.prog 65 6 37 := .of Tryd.underlying65 (by kernel_rfl)
theorem fd35_1 : FD Tryd.prog 35 1 1 := .of Tryd.underlying35 (by kernel_rfl)
theorem fd35_2 : FD Tryd.prog 35 2 2 := .of Tryd.underlying35 (by kernel_rfl)
theorem na24 : NotAgg Tryd.prog 24 := ⟨_, Tryd.underlying24, trivial⟩
theorem fd60_0 : FD Tryd.prog 60 0 0 := .of Tryd.underlying60 (by kernel_rfl)
theorem fd35_0 : FD Tryd.prog 35 0 0 := .of Tryd.underlying35 (by kernel_rfl)
theorem fd65_2 : FD Tryd.prog 65 2 13 := .of Tryd.underlying65 (by kernel_rfl)
theorem ia35 : IsAgg Tryd.prog 35 := ⟨_, Tryd.underlying35, trivial⟩
theorem ts35 : TS Tryd.prog 35 21 := .of (by kernel_rfl)
end con12
open con12



set_option maxHeartbeats 1000000 in
set_option maxRecDepth 20000 in
theorem step1_ok (pb b3 b5 : Nat) (s : CS19) (x : PX19) (cl : List CallX) (m : An19) (a : Option Addr) (c : Nat) (y : CallX) (hy : y ∈ cl) (hmk : (1 ≤ y.c.m.kind ∧ y.c.m.kind ≤ 28) ∧ y.c.m.kind % 2 = 1) : Cn Tryd.prog 28 [.pointer (some ⟨y.a, 0, none⟩), .pointer (some ⟨b5, 0, none⟩), .pointer (some ⟨b3, 0, none⟩)] (fun w => (∀ y ∈ cl, CellsAt y.a 0 y.c.cells w) ∧ CellsAt b5 0 (m.cells a c) w ∧ CellsAt b3 0 [.pointer (some ⟨pb, 0, none⟩)] w ∧ CellsAt pb 0 (CS19.cells s x none 0 0) w) [know (fun _ => True)] fun v G => v = .bool (fits19 s m y.c) ∧ G = [know (fun _ => True)] := by
  refine .enter Tryd.func28 rfl (by kernel_rfl) rfl fun R k => ?_
  refine .seq ?_
  refine .region ?_
  refine .rd (.assign rfl) ?_
  refine .nil ?_
  refine .seq ?_
  refine .drawsTo [3, 5, 11, 13, 18, 19, 22, 27, 31] [R] [(4, .bool (fits19 s m y.c))] [know (fun _ => True), R] (by kernel_rfl) ?_ ?_
  · refine .rp 0 rfl (by kernel_rfl) (by kernel_rfl) (by kernel_rfl) (Reads.pure (.move rfl)) ?_
    refine .rp 1 rfl (by kernel_rfl) (by kernel_rfl) (by kernel_rfl) (Reads.pure (.nilCheck rfl)) ?_
    refine .rp 2 rfl (by kernel_rfl) (by kernel_rfl) (by kernel_rfl) (Reads.pure (.fieldAddr fd65_5 rfl)) ?_
    refine .rd 3 rfl rfl (by kernel_rfl) (by kernel_rfl) (by kernel_rfl) (.load na3 rfl (Knows.one (i := 36) (Knows.pick .head (k.mono fun _ h => h.1 y hy)) rfl)) (.cons (.tail .head) .nil) ?_
    refine .rp 4 rfl (by kernel_rfl) (by kernel_rfl) (by kernel_rfl) (Reads.pure (.fieldAddr fd35_3 rfl)) ?_
    refine .rd 5 rfl rfl (by kernel_rfl) (by kernel_rfl) (by kernel_rfl) (.load na3 rfl (Knows.one (i := 3) (Knows.pick .head (k.mono fun _ h => h.2.1)) rfl)) (.cons (.tail .head) .nil) ?_
    refine .rp 6 rfl (by kernel_rfl) (by kernel_rfl) (by kernel_rfl) (Reads.pure (.eqI rfl rfl)) ?_
    refine .rp 7 rfl (by kernel_rfl) (by kernel_rfl) (by kernel_rfl) (Reads.pure (.move rfl)) ?_
    refine .split (t := 12) rfl (fun g1a => ?_) (fun g1a => ?_)
    · replace g1a := of_decide_eq_true g1a
      refine .rpG 8 (t := 12) rfl rfl rfl (by kernel_rfl) (by kernel_rfl) (by kernel_rfl) (Reads.pure (.move rfl)) ?_
      refine .rpG 9 (t := 12) rfl rfl rfl (by kernel_rfl) (by kernel_rfl) (by kernel_rfl) (Reads.pure (.nilCheck rfl)) ?_
      refine .rpG 10 (t := 12) rfl rfl rfl (by kernel_rfl) (by kernel_rfl) (by kernel_rfl) (Reads.pure (.fieldAddr fd65_6 rfl)) ?_
      refine .rdG 11 (t := 12) rfl rfl rfl rfl (by kernel_rfl) (by kernel_rfl) (by kernel_rfl) (.load na3 rfl (Knows.one (i := 37) (Knows.pick .head (k.mono fun _ h => h.1 y hy)) rfl)) (.cons (.tail .head) .nil) ?_
      refine .rpG 12 (t := 12) rfl rfl rfl (by kernel_rfl) (by kernel_rfl) (by kernel_rfl) (Reads.pure (.fieldAddr fd35_1 rfl)) ?_
      refine .rdG 13 (t := 12) rfl rfl rfl rfl (by kernel_rfl) (by kernel_rfl) (by kernel_rfl) (.load na3 rfl (Knows.one (i := 1) (Knows.pick .head (k.mono fun _ h => h.2.1)) rfl)) (.cons (.tail .head) .nil) ?_
      refine .rpG 14 (t := 12) rfl rfl rfl (by kernel_rfl) (by kernel_rfl) (by kernel_rfl) (Reads.pure (.eqI rfl rfl)) ?_
      refine .rp 15 rfl (by kernel_rfl) (by kernel_rfl) (by kernel_rfl) (Reads.pure (.pickT rfl rfl)) ?_
      refine .rp 16 rfl (by kernel_rfl) (by kernel_rfl) (by kernel_rfl) (Reads.pure (.move rfl)) ?_
      refine .split (t := 21) rfl (fun g1b => ?_) (fun g1b => ?_)
      · replace g1b := of_decide_eq_true g1b
        refine .rpG 17 (t := 21) rfl rfl rfl (by kernel_rfl) (by kernel_rfl) (by kernel_rfl) (Reads.pure (.fieldAddr fd35_2 rfl)) ?_
        refine .rdG 18 (t := 21) rfl rfl rfl rfl (by kernel_rfl) (by kernel_rfl) (by kernel_rfl) (.load na3 rfl (Knows.one (i := 2) (Knows.pick .head (k.mono fun _ h => h.2.1)) rfl)) (.cons (.tail .head) .nil) ?_
        refine .rdG 19 (t := 21) rfl rfl rfl rfl (by kernel_rfl) (by kernel_rfl) (by kernel_rfl) (.load na24 rfl (Knows.one (i := 0) (Knows.pick .head (k.mono fun _ h => h.2.2.1)) rfl)) (.cons (.tail .head) .nil) ?_
        refine .rpG 20 (t := 21) rfl rfl rfl (by kernel_rfl) (by kernel_rfl) (by kernel_rfl) (Reads.pure (.nilCheck rfl)) ?_
        refine .rpG 21 (t := 21) rfl rfl rfl (by kernel_rfl) (by kernel_rfl) (by kernel_rfl) (Reads.pure (.fieldAddr fd60_0 rfl)) ?_
        refine .rdG 22 (t := 21) rfl rfl rfl rfl (by kernel_rfl) (by kernel_rfl) (by kernel_rfl) (.load na3 rfl (Knows.one (i := 0) (Knows.pick .head (k.mono fun _ h => h.2.2.2)) rfl)) (.cons (.tail .head) .nil) ?_
        refine .rpG 23 (t := 21) rfl rfl rfl (by kernel_rfl) (by kernel_rfl) (by kernel_rfl) (Reads.pure (.eqI rfl rfl)) ?_
        refine .rp 24 rfl (by kernel_rfl) (by kernel_rfl) (by kernel_rfl) (Reads.pure (.pickT rfl rfl)) ?_
        refine .rp 25 rfl (by kernel_rfl) (by kernel_rfl) (by kernel_rfl) (Reads.pure (.move rfl)) ?_
        refine .split (t := 30) rfl (fun g1c => ?_) (fun g1c => ?_)
        · replace g1c := of_decide_eq_true g1c
          refine .rpG 26 (t := 30) rfl rfl rfl (by kernel_rfl) (by kernel_rfl) (by kernel_rfl) (Reads.pure (.fieldAddr fd35_0 rfl)) ?_
          refine .rdG 27 (t := 30) rfl rfl rfl rfl (by kernel_rfl) (by kernel_rfl) (by kernel_rfl) (.load na3 rfl (Knows.one (i := 0) (Knows.pick .head (k.mono fun _ h => h.2.1)) rfl)) (.cons (.tail .head) .nil) ?_
          refine .rpG 28 (t := 30) rfl rfl rfl (by kernel_rfl) (by kernel_rfl) (by kernel_rfl) (Reads.pure (.move rfl)) ?_
          refine .rpG 29 (t := 30) rfl rfl rfl (by kernel_rfl) (by kernel_rfl) (by kernel_rfl) (Reads.pure (.nilCheck rfl)) ?_
          refine .rpG 30 (t := 30) rfl rfl rfl (by kernel_rfl) (by kernel_rfl) (by kernel_rfl) (Reads.pure (.fieldAddr fd65_2 rfl)) ?_
          refine .rdG 31 (t := 30) rfl rfl rfl rfl (by kernel_rfl) (by kernel_rfl) (by kernel_rfl) (.loadN ia35 ts35 rfl rfl (Knows.sub (Knows.pick .head (k.mono fun _ h => h.1 y hy)) (i := 13) (ds := y.c.m.cells) rfl)) (.cons (.tail .head) .nil) ?_
          refine .efG 32 (t := 30) (by kernel_rfl) rfl rfl rfl (.fn rfl rfl .nil (fun _ _ _ => trivial) (answer_ok y.c.m hmk.1 hmk.2)) ?_
          rintro v _ ⟨G1, hq, rfl⟩
          obtain ⟨rfl, rfl⟩ := hq
          simp only [List.nil_append]
          refine ⟨.inr ⟨_, (.cons (.tail .head) .nil)⟩, ?_⟩
          refine .rpG 33 (t := 30) rfl rfl rfl (by kernel_rfl) (by kernel_rfl) (by kernel_rfl) (Reads.pure (.field1 (ft := 3) (off := 0) Tryd.underlying35 rfl na3 rfl rfl)) ?_
          refine .rpG 34 (t := 30) rfl rfl rfl (by kernel_rfl) (by kernel_rfl) (by kernel_rfl) (Reads.pure (.eqI rfl rfl)) ?_
          refine .rp 35 rfl (by kernel_rfl) (by kernel_rfl) (by kernel_rfl) (Reads.pure (.pickT rfl rfl)) ?_
          refine .rp 36 rfl (by kernel_rfl) (by kernel_rfl) (by kernel_rfl) (Reads.pure (.assign rfl)) ?_
          refine .alter (t := 4) (v' := .bool (fits19 s m y.c)) rfl (congrArg Value.bool (Eq.symm (show fits19 s m y.c = _ by unfold fits19; simp [g1a, g1b, g1c]))) ?_
          exact .done (by kernel_rfl) ⟨(.cons rfl .nil), _, (.cons .head (.cons .head .nil))⟩
        · replace g1c := of_decide_eq_false g1c
          refine .off 26 (t := 30) rfl rfl rfl rfl (by kernel_rfl) (by kernel_rfl) (by kernel_rfl) ?_
          refine .off 27 (t := 30) rfl rfl rfl rfl (by kernel_rfl) (by kernel_rfl) (by kernel_rfl) ?_
          refine .off 28 (t := 30) rfl rfl rfl rfl (by kernel_rfl) (by kernel_rfl) (by kernel_rfl) ?_
          refine .off 29 (t := 30) rfl rfl rfl rfl (by kernel_rfl) (by kernel_rfl) (by kernel_rfl) ?_
          refine .off 30 (t := 30) rfl rfl rfl rfl (by kernel_rfl) (by kernel_rfl) (by kernel_rfl) ?_
          refine .off 31 (t := 30) rfl rfl rfl rfl (by kernel_rfl) (by kernel_rfl) (by kernel_rfl) ?_
          refine .off 32 (t := 30) rfl rfl rfl rfl (by kernel_rfl) (by kernel_rfl) (by kernel_rfl) ?_
          refine .off 33 (t := 30) rfl rfl rfl rfl (by kernel_rfl) (by kernel_rfl) (by kernel_rfl) ?_
          refine .off 34 (t := 30) rfl rfl rfl rfl (by kernel_rfl) (by kernel_rfl) (by kernel_rfl) ?_
          refine .rp 35 rfl (by kernel_rfl) (by kernel_rfl) (by kernel_rfl) (Reads.pure (.pickF rfl rfl)) ?_
          refine .rp 36 rfl (by kernel_rfl) (by kernel_rfl) (by kernel_rfl) (Reads.pure (.assign rfl)) ?_
          refine .alter (t := 4) (v' := .bool (fits19 s m y.c)) rfl (congrArg Value.bool (Eq.symm (show fits19 s m y.c = _ by unfold fits19; simp [g1a, g1b, g1c]))) ?_
          exact .done (by kernel_rfl) ⟨(.cons rfl .nil), _, (.cons .head (.cons .head .nil))⟩
      · replace g1b := of_decide_eq_false g1b
        refine .off 17 (t := 21) rfl rfl rfl rfl (by kernel_rfl) (by kernel_rfl) (by kernel_rfl) ?_
        refine .off 18 (t := 21) rfl rfl rfl rfl (by kernel_rfl) (by kernel_rfl) (by kernel_rfl) ?_
        refine .off 19 (t := 21) rfl rfl rfl rfl (by kernel_rfl) (by kernel_rfl) (by kernel_rfl) ?_
        refine .off 20 (t := 21) rfl rfl rfl rfl (by kernel_rfl) (by kernel_rfl) (by kernel_rfl) ?_
        refine .off 21 (t := 21) rfl rfl rfl rfl (by kernel_rfl) (by kernel_rfl) (by kernel_rfl) ?_
        refine .off 22 (t := 21) rfl rfl rfl rfl (by kernel_rfl) (by kernel_rfl) (by kernel_rfl) ?_
        refine .off 23 (t := 21) rfl rfl rfl rfl (by kernel_rfl) (by kernel_rfl) (by kernel_rfl) ?_
        refine .rp 24 rfl (by kernel_rfl) (by kernel_rfl) (by kernel_rfl) (Reads.pure (.pickF rfl rfl)) ?_
        refine .rp 25 rfl (by kernel_rfl) (by kernel_rfl) (by kernel_rfl) (Reads.pure (.move rfl)) ?_
        refine .off 26 (t := 30) rfl rfl rfl rfl (by kernel_rfl) (by kernel_rfl) (by kernel_rfl) ?_
        refine .off 27 (t := 30) rfl rfl rfl rfl (by kernel_rfl) (by kernel_rfl) (by kernel_rfl) ?_
        refine .off 28 (t := 30) rfl rfl rfl rfl (by kernel_rfl) (by kernel_rfl) (by kernel_rfl) ?_
        refine .off 29 (t := 30) rfl rfl rfl rfl (by kernel_rfl) (by kernel_rfl) (by kernel_rfl) ?_
        refine .off 30 (t := 30) rfl rfl rfl rfl (by kernel_rfl) (by kernel_rfl) (by kernel_rfl) ?_
        refine .off 31 (t := 30) rfl rfl rfl rfl (by kernel_rfl) (by kernel_rfl) (by kernel_rfl) ?_
        refine .off 32 (t := 30) rfl rfl rfl rfl (by kernel_rfl) (by kernel_rfl) (by kernel_rfl) ?_
        refine .off 33 (t := 30) rfl rfl rfl rfl (by kernel_rfl) (by kernel_rfl) (by kernel_rfl) ?_
        refine .off 34 (t := 30) rfl rfl rfl rfl (by kernel_rfl) (by kernel_rfl) (by kernel_rfl) ?_
        refine .rp 35 rfl (by kernel_rfl) (by kernel_rfl) (by kernel_rfl) (Reads.pure (.pickF rfl rfl)) ?_
        refine .rp 36 rfl (by kernel_rfl) (by kernel_rfl) (by kernel_rfl) (Reads.pure (.assign rfl)) ?_
        refine .alter (t := 4) (v' := .bool (fits19 s m y.c)) rfl (congrArg Value.bool (Eq.symm (show fits19 s m y.c = _ by unfold fits19; simp [g1a, g1b]))) ?_
        exact .done (by kernel_rfl) ⟨(.cons rfl .nil), _, (.cons .head (.cons .head .nil))⟩
    · replace g1a := of_decide_eq_false g1a
      refine .off 8 (t := 12) rfl rfl rfl rfl (by kernel_rfl) (by kernel_rfl) (by kernel_rfl) ?_
      refine .off 9 (t := 12) rfl rfl rfl rfl (by kernel_rfl) (by kernel_rfl) (by kernel_rfl) ?_
      refine .off 10 (t := 12) rfl rfl rfl rfl (by kernel_rfl) (by kernel_rfl) (by kernel_rfl) ?_
      refine .off 11 (t := 12) rfl rfl rfl rfl (by kernel_rfl) (by kernel_rfl) (by kernel_rfl) ?_
      refine .off 12 (t := 12) rfl rfl rfl rfl (by kernel_rfl) (by kernel_rfl) (by kernel_rfl) ?_
      refine .off 13 (t := 12) rfl rfl rfl rfl (by kernel_rfl) (by kernel_rfl) (by kernel_rfl) ?_
      refine .off 14 (t := 12) rfl rfl rfl rfl (by kernel_rfl) (by kernel_rfl) (by kernel_rfl) ?_
      refine .rp 15 rfl (by kernel_rfl) (by kernel_rfl) (by kernel_rfl) (Reads.pure (.pickF rfl rfl)) ?_
      refine .rp 16 rfl (by kernel_rfl) (by kernel_rfl) (by kernel_rfl) (Reads.pure (.move rfl)) ?_
      refine .off 17 (t := 21) rfl rfl rfl rfl (by kernel_rfl) (by kernel_rfl) (by kernel_rfl) ?_
      refine .off 18 (t := 21) rfl rfl rfl rfl (by kernel_rfl) (by kernel_rfl) (by kernel_rfl) ?_
      refine .off 19 (t := 21) rfl rfl rfl rfl (by kernel_rfl) (by kernel_rfl) (by kernel_rfl) ?_
      refine .off 20 (t := 21) rfl rfl rfl rfl (by kernel_rfl) (by kernel_rfl) (by kernel_rfl) ?_
      refine .off 21 (t := 21) rfl rfl rfl rfl (by kernel_rfl) (by kernel_rfl) (by kernel_rfl) ?_
      refine .off 22 (t := 21) rfl rfl rfl rfl (by kernel_rfl) (by kernel_rfl) (by kernel_rfl) ?_
      refine .off 23 (t := 21) rfl rfl rfl rfl (by kernel_rfl) (by kernel_rfl) (by kernel_rfl) ?_
      refine .rp 24 rfl (by kernel_rfl) (by kernel_rfl) (by kernel_rfl) (Reads.pure (.pickF rfl rfl)) ?_
      refine .rp 25 rfl (by kernel_rfl) (by kernel_rfl) (by kernel_rfl) (Reads.pure (.move rfl)) ?_
      refine .off 26 (t := 30) rfl rfl rfl rfl (by kernel_rfl) (by kernel_rfl) (by kernel_rfl) ?_
      refine .off 27 (t := 30) rfl rfl rfl rfl (by kernel_rfl) (by kernel_rfl) (by kernel_rfl) ?_
      refine .off 28 (t := 30) rfl rfl rfl rfl (by kernel_rfl) (by kernel_rfl) (by kernel_rfl) ?_
      refine .off 29 (t := 30) rfl rfl rfl rfl (by kernel_rfl) (by kernel_rfl) (by kernel_rfl) ?_
      refine .off 30 (t := 30) rfl rfl rfl rfl (by kernel_rfl) (by kernel_rfl) (by kernel_rfl) ?_
      refine .off 31 (t := 30) rfl rfl rfl rfl (by kernel_rfl) (by kernel_rfl) (by kernel_rfl) ?_
      refine .off 32 (t := 30) rfl rfl rfl rfl (by kernel_rfl) (by kernel_rfl) (by kernel_rfl) ?_
      refine .off 33 (t := 30) rfl rfl rfl rfl (by kernel_rfl) (by kernel_rfl) (by kernel_rfl) ?_
      refine .off 34 (t := 30) rfl rfl rfl rfl (by kernel_rfl) (by kernel_rfl) (by kernel_rfl) ?_
      refine .rp 35 rfl (by kernel_rfl) (by kernel_rfl) (by kernel_rfl) (Reads.pure (.pickF rfl rfl)) ?_
      refine .rp 36 rfl (by kernel_rfl) (by kernel_rfl) (by kernel_rfl) (Reads.pure (.assign rfl)) ?_
      refine .alter (t := 4) (v' := .bool (fits19 s m y.c)) rfl (congrArg Value.bool (Eq.symm (show fits19 s m y.c = _ by unfold fits19; simp [g1a]))) ?_
      exact .done (by kernel_rfl) ⟨(.cons rfl .nil), _, (.cons .head (.cons .head .nil))⟩
  · refine .retP Tryd.func28 (.cons (.tmp rfl) .nil) (.cons .head (.cons .head .nil)) ?_
    exact ⟨[_], ⟨rfl, rfl⟩, rfl⟩

end Go.Proofs.YtankogdnhgmkhaaDoor


namespace Go.Proofs.YtankogdnhgmkhaaDoor
open Go Go.Sp

set_option linter.unusedVariables false

namespace con13
theorem kl3 : KL Tryd.prog 3 (fun n : Int => Value.int .i64 n) := .int Tryd.underlying3
theorem na24 : NotAgg Tryd.prog 24 := ⟨_, Tryd.underlying24, trivial⟩
theorem fd60_5 : FD Tryd.prog 60 5 5 := .of Tryd.underlying60 (by kernel_rfl)
theorem na58 : NotAgg Tryd.prog 58 := ⟨_, Tryd.underlying58, trivial⟩
theorem ts63 : TS Tryd.prog 63 1 := .of (by kernel_rfl)
theorem na63 : NotAgg Tryd.prog 63 := ⟨_, Tryd.underlying63, trivial⟩
theorem fd35_15 : FD Tryd.prog 35 15 15 := .of Tryd.underlying35 (by kernel_rfl)
theorem na25 : NotAgg Tryd.prog 25 := ⟨_, Tryd.underlying25, trivial⟩
theorem fd60_4 : FD Tryd.prog 60 4 4 := .of Tryd.underlying60 (by kernel_rfl)
theorem na57 : NotAgg Tryd.prog 57 := ⟨_, Tryd.underlying57, trivial⟩
theorem fd65_3 : FD Tryd.prog 65 3 34 := .of Tryd.underlying65 (by kernel_rfl)
theorem na3 : NotAgg Tryd.prog 3 := ⟨_, Tryd.underlying3, trivial⟩
theorem fd65_6 : FD Tryd.prog 65 6 37 := .of Tryd.underlying65 (by kernel_rfl)
theorem fd60_1 : FD Tryd.prog 60 1 1 := .of Tryd.underlying60 (by kernel_rfl)
theorem ti3 : TI Tryd.prog 3 1 8 (.int .i64 0) := .of (by kernel_rfl)
theorem fd65_8 : FD Tryd.prog 65 8 39 := .of Tryd.underlying65 (by kernel_rfl)
theorem ts3 : TS Tryd.prog 3 1 := .of (by kernel_rfl)
theorem fd65_4 : FD Tryd.prog 65 4 35 := .of Tryd.underlying65 (by kernel_rfl)
theorem ts4 : TS Tryd.prog 4 1 := .of (by kernel_rfl)
theorem fd60_3 : FD Tryd.prog 60 3 3 := .of Tryd.underlying60 (by kernel_rfl)
theorem na28 : NotAgg Tryd.prog 28 := ⟨_, Tryd.underlying28, trivial⟩
theorem fd35_7 : FD Tryd.prog 35 7 7 := .of Tryd.underlying35 (by kernel_rfl)
theorem fd65_2 : FD Tryd.prog 65 2 13 := .of Tryd.underlying65 (by kernel_rfl)
theorem fd35_0 : FD Tryd.prog 35 0 0 := .of Tryd.underlying35 (by kernel_rfl)
theorem ts58 : TS Tryd.prog 58 1 := .of (by kernel_rfl)
theorem ia35 : IsAgg Tryd.prog 35 := ⟨_, Tryd.underlying35, trivial⟩
theorem ts35 : TS Tryd.prog 35 21 := .of (by kernel_rfl)
theorem fd65_1 : FD Tryd.prog 65 1 1 := .of Tryd.underlying65 (by kernel_rfl)
theorem fd31_2 : FD Tryd.prog 31 2 2 := .of Tryd.underlying31 (by kernel_rfl)
end con13
open con13



set_option maxHeartbeats 4000000 in
set_option maxRecDepth 20000 in
theorem step_ok (pb : Nat) (now : Int) (s : CS19) (m : An19) (a : Option Addr) (c : Nat) (hB : PB s) (hpo : ∀ c ∈ s.open_, PO c) (he : s.ended.length ≤ 1000000) (hok : m.ok) (hnow : 0 ≤ now ∧ now ≤ 1000000000000) : Cn Tryd.prog 11 [.pointer (some ⟨pb, 0, none⟩), .int .i64 now, .agg (m.cells a c).toArray] (m.at_ a) [PR pb s] fun v G => v = .slice none 0 0 ∧ G = [PR pb (step s now m)] := by
  refine .enter Tryd.func11 rfl (by kernel_rfl) rfl fun R k => ?_
  refine .open_ (σ := PX19 × List CallX) (φ := fun y => y.2.map (·.c) = s.open_ ∧ y.1.un = s.open_.length) (B := fun y => PL pb s y.1 y.2 none 0 0) .head (fun _ h => h) (fun y hW => ?_)
  obtain ⟨x, cl⟩ := y
  dsimp only at hW ⊢
  unfold PL
  simp only [List.cons_append, List.nil_append]
  obtain ⟨hWc, hWn⟩ := hW
  have k' := k
  have hcl : cl.length = s.open_.length := by rw [← hWc, List.length_map]
  have hop := hB.opn
  obtain ⟨hwt1, hwt2⟩ := hB.wait
  refine .perm (.cons (.tail (.tail (.tail .head))) (.cons .head (.cons .head (.cons .head (.cons .head (.cons .head (.cons .head .nil))))))) ?_
  refine .cast (X' := arr 63 1 x.ua x.uc ((cl.map (·.a)).flatMap pcell)) (rfl) ?_
  refine .seq ?_
  refine .region ?_
  refine .ef (.box (l := [.pointer (some ⟨pb, 0, none⟩)]) rfl rfl (ones.of rfl)) ?_
  rintro _ _ ⟨b3, rfl, rfl⟩
  refine .ef (.box (l := m.cells a c) rfl rfl (m.cells_ones a c)) ?_
  rintro _ _ ⟨b5, rfl, rfl⟩
  refine .rd (.assign rfl) ?_
  refine .nil ?_
  refine .seq ?_
  refine .knowT (fun _ => True) (fun _ => trivial) ?_
  have hf : ∀ (i p : Nat), (cl.map (·.a))[i]? = some p → Cn Tryd.prog 28 (.pointer (some ⟨p, 0, none⟩) :: (#[.pointer (some ⟨b5, 0, none⟩), .pointer (some ⟨b3, 0, none⟩)] : Array Value).toList) (fun w => (∀ y ∈ cl, CellsAt y.a 0 y.c.cells w) ∧ CellsAt b5 0 (m.cells a c) w ∧ CellsAt b3 0 [.pointer (some ⟨pb, 0, none⟩)] w ∧ CellsAt pb 0 (CS19.cells s x none 0 0) w) [(fun _ => know (fun _ => True)) (stN (dFit s m cl) () i)] fun v G => v = .bool (bN (dFit s m cl) () i) ∧ G = [(fun _ => know (fun _ => True)) (stN (dFit s m cl) () (i + 1))] := fun i p hp => by
    obtain ⟨y, hy, rfl⟩ : ∃ y, cl[i]? = some y ∧ y.a = p := by
      rw [List.getElem?_map] at hp; cases e : cl[i]? with
      | none => rw [e] at hp; cases hp
      | some y => rw [e] at hp; exact ⟨y, rfl, by simpa using hp⟩
    have hym := List.mem_of_getElem? hy
    have hp2 := hpo y.c (by rw [← hWc]; exact List.mem_map.2 ⟨y, hym, rfl⟩)
    rw [show bN (dFit s m cl) () i = fits19 s m y.c by unfold bN; rw [dFit_at hy]]
    exact step1_ok pb b3 b5 s x cl m a c y hym ⟨⟨hp2.2.2.1, hp2.2.2.2.1⟩, hp2.2.2.2.2⟩
  refine .region ?_
  refine .rd (.ld na24 rfl (.tail (.tail .head)) rfl) ?_
  refine .rd (.nilCheck rfl) ?_
  refine .rd (.fieldAddr fd60_5 rfl) ?_
  refine .rd (.ld na58 rfl (.tail (.tail (.tail (.tail .head)))) (show (CS19.cells s x none 0 0)[5]? = some (.slice x.ua (cl.map (·.a)).length x.uc) by rw [List.length_map, hcl, ← hWn]; rfl)) ?_
  refine .rd (.makeFunc (cs := [.pointer (some ⟨b5, 0, none⟩), .pointer (some ⟨b3, 0, none⟩)]) rfl rfl) ?_
  refine .fn rfl rfl (.cons .head .nil) (fun A w h => ⟨(Knows.arr (.tail (.tail .head))) A w h, (fun y hy => (Knows.bag (.tail (.tail (.tail (.tail .head)))) hy (Knows.blk (l := y.c.cells) (e := 65) .head)) A w h), (Knows.blk .head) A w h, (Knows.blk (.tail .head)) A w h, (Knows.blk (.tail (.tail (.tail .head)))) A w h⟩) (indexf_ok (cl.map (·.a)) (fun _ => know (fun _ => True)) (dFit s m cl) () _ 28 #[.pointer (some ⟨b5, 0, none⟩), .pointer (some ⟨b3, 0, none⟩)] hf x.ua x.uc (by rw [List.length_map]; omega)) (fun v G1 hq => ?_)
  rw [List.length_map] at hq
  rcases hq with ⟨k0, hk0, hbk, hbj, rfl, rfl⟩ | ⟨hbj, rfl, rfl⟩
  · simp only [List.cons_append, List.nil_append]
    obtain ⟨y, hy, hst⟩ := fit_hit (now := now) hWc hk0 hbk hbj
    have hym := List.mem_of_getElem? hy
    have hp : (cl.map (·.a))[k0]? = some y.a := by rw [List.getElem?_map, hy]; rfl
    have hsy : s.open_[k0]? = some y.c := by rw [← hWc, List.getElem?_map, hy]; rfl
    obtain ⟨htr, hof, hmk⟩ := hpo y.c (List.mem_of_getElem? hsy)
    refine .rd (.assign rfl) ?_
    refine .nil ?_
    refine .seq ?_
    refine .seq ?_
    refine .region ?_
    refine .rd (.move rfl) ?_
    refine .rd (.lt rfl rfl) ?_
    refine .nil ?_
    refine .condP rfl (fun h2 => ?_) (fun h2 => ?_)
    · exact absurd h2 (by omega)
    · refine .skip ?_
      refine .seq ?_
      refine .tell (φ := ∃ b o, x.ua = some ⟨b, o, none⟩) ((Knows.arr (.tail (.tail (.tail .head)))).mono fun _ h => RowAt.addr h (by rw [flat1, List.length_map]; omega)) (fun hh => ?_)
      obtain ⟨b9, o9, hab⟩ := hh
      refine .region ?_
      refine .rd (.ld na24 rfl (.tail (.tail .head)) rfl) ?_
      refine .rd (.nilCheck rfl) ?_
      refine .rd (.fieldAddr fd60_5 rfl) ?_
      refine .rd (.ld na58 rfl (.tail (.tail (.tail (.tail .head)))) (show (CS19.cells s x none 0 0)[5]? = some (.slice x.ua (cl.map (·.a)).length x.uc) by rw [List.length_map, hcl, ← hWn]; rfl)) ?_
      refine .rd (.move rfl) ?_
      refine .rd (.indexAddr (b := b9) (o := o9) Tryd.underlying58 ts63 (by show some (Value.slice x.ua _ _) = _; rw [hab]) rfl (by omega) (by rw [List.length_map]; omega)) ?_
      refine .rd (.load na63 rfl (Knows.one (i := 0) (Knows.elem (f := pcell) pcell_len (by decide) ((Knows.arr (.tail (.tail (.tail .head)))).mono fun _ h => hab ▸ h) hp) rfl)) ?_
      refine .rd (.assign rfl) ?_
      refine .nil ?_
      refine .takeBag (x := y) (m := cl.eraseIdx k0) (.tail (.tail (.tail (.tail (.tail .head))))) (perm_out hy) ?_
      refine .cast (X' := blk y.a (Cl19.cells y.c) 65) (rfl) ?_
      refine .seq ?_
      refine .block ?_
      refine .seq ?_
      refine .region ?_
      refine RunO.join 9 41 (decide (m.err = 15 ∨ m.err = 22)) ?_ ?_
      · refine .rd (.fieldAddr fd35_15 rfl) ?_
        refine .rd (.ld na25 rfl (.tail (.tail (.tail .head))) rfl) ?_
        refine .rd (.eqI rfl rfl) ?_
        refine .rd (.move rfl) ?_
        refine .split (t := 45) rfl (fun g7 => ?_) (fun g7 => ?_)
        · replace g7 := of_decide_eq_true g7
          refine .off (t := 45) rfl rfl rfl ?_
          refine .off (t := 45) rfl rfl rfl ?_
          refine .off (t := 45) rfl rfl rfl ?_
          refine .rd (.pickT rfl rfl) ?_
          refine .rd (.assign rfl) ?_
          refine .nil ⟨rfl, ?_, by repeat (first | exact Le.refl _ | refine Le.skip rfl ?_)⟩
          exact congrArg (fun x => some (Value.bool x)) (Eq.symm (show decide (m.err = 15 ∨ m.err = 22) = _ by simp [g7]))
        · replace g7 := of_decide_eq_false g7
          refine .on (t := 45) rfl rfl ?_
          refine .rd (.fieldAddr fd35_15 rfl) ?_
          refine .on (t := 45) rfl rfl ?_
          refine .rd (.ld na25 rfl (.tail (.tail (.tail .head))) rfl) ?_
          refine .on (t := 45) rfl rfl ?_
          refine .rd (.eqI rfl rfl) ?_
          refine .rd (.pickF rfl rfl) ?_
          refine .rd (.assign rfl) ?_
          refine .nil ⟨rfl, ?_, by repeat (first | exact Le.refl _ | refine Le.skip rfl ?_)⟩
          exact congrArg (fun x => some (Value.bool x)) (Eq.symm (show decide (m.err = 15 ∨ m.err = 22) = _ by simp [g7]))
      refine .nil ?_
      refine .condP rfl (fun h7 => ?_) (fun h7 => ?_)
      · refine .seq ?_
        refine .drawsTo [0, 3, 7, 10, 14, 17, 20] [blk b3 [.pointer (some ⟨pb, 0, none⟩)] 24, blk pb (CS19.cells s x none 0 0) 60, blk b5 (m.cells a c) 35, blk y.a (Cl19.cells y.c) 65] [(1, .int .i64 now), (3, .pointer (some ⟨b3, 0, none⟩)), (5, .pointer (some ⟨b5, 0, none⟩)), (7, .int .i64 (k0 : Nat)), (8, .pointer (some ⟨y.a, 0, none⟩))] [blk b3 [.pointer (some ⟨pb, 0, none⟩)] 24, blk b5 (m.cells a c) 35, blk pb (CS19.cells s x none 0 0) 60, blk y.a (Cl19.cells ({ y.c with deadline := now + s.wait, refused := true })) 65, bag CB (cl.eraseIdx k0), IM x.ab (mset (mset s.aims y.c.aim ((mget s.aims y.c.aim).getD 0)) y.c.aim (behind s.brokers y.c.to)), arr 63 1 x.ua x.uc ((cl.map (·.a)).flatMap pcell), EL s x, know (KN s x), R] (by kernel_rfl) ?_ ?_
        · refine .rd 0 rfl rfl (by kernel_rfl) (by kernel_rfl) (by kernel_rfl) (.ld na24 rfl .head rfl) (.cons (.tail (.tail (.tail (.tail .head)))) (.cons (.tail (.tail (.tail (.tail (.tail .head))))) (.cons (.tail (.tail (.tail .head))) (.cons .head .nil)))) ?_
          refine .rp 1 rfl (by kernel_rfl) (by kernel_rfl) (by kernel_rfl) (Reads.pure (.nilCheck rfl)) ?_
          refine .rp 2 rfl (by kernel_rfl) (by kernel_rfl) (by kernel_rfl) (Reads.pure (.fieldAddr fd60_4 rfl)) ?_
          refine .rd 3 rfl rfl (by kernel_rfl) (by kernel_rfl) (by kernel_rfl) (.ld na57 rfl (.tail .head) rfl) (.cons (.tail (.tail (.tail (.tail .head)))) (.cons (.tail (.tail (.tail (.tail (.tail .head))))) (.cons (.tail (.tail (.tail .head))) (.cons .head .nil)))) ?_
          refine .rp 4 rfl (by kernel_rfl) (by kernel_rfl) (by kernel_rfl) (Reads.pure (.move rfl)) ?_
          refine .rp 5 rfl (by kernel_rfl) (by kernel_rfl) (by kernel_rfl) (Reads.pure (.nilCheck rfl)) ?_
          refine .rp 6 rfl (by kernel_rfl) (by kernel_rfl) (by kernel_rfl) (Reads.pure (.fieldAddr fd65_3 rfl)) ?_
          refine .rd 7 rfl rfl (by kernel_rfl) (by kernel_rfl) (by kernel_rfl) (.ld na3 rfl (.tail (.tail (.tail .head))) rfl) (.cons (.tail (.tail (.tail (.tail .head)))) (.cons (.tail (.tail (.tail (.tail (.tail .head))))) (.cons (.tail (.tail (.tail .head))) (.cons .head .nil)))) ?_
          refine .rp 8 rfl (by kernel_rfl) (by kernel_rfl) (by kernel_rfl) (Reads.pure (.move rfl)) ?_
          refine .rp 9 rfl (by kernel_rfl) (by kernel_rfl) (by kernel_rfl) (Reads.pure (.move rfl)) ?_
          refine .rd 10 rfl rfl (by kernel_rfl) (by kernel_rfl) (by kernel_rfl) (.ld na24 rfl .head rfl) (.cons (.tail (.tail (.tail (.tail .head)))) (.cons (.tail (.tail (.tail (.tail (.tail .head))))) (.cons (.tail (.tail (.tail .head))) (.cons .head .nil)))) ?_
          refine .rp 11 rfl (by kernel_rfl) (by kernel_rfl) (by kernel_rfl) (Reads.pure (.move rfl)) ?_
          refine .rp 12 rfl (by kernel_rfl) (by kernel_rfl) (by kernel_rfl) (Reads.pure (.nilCheck rfl)) ?_
          refine .rp 13 rfl (by kernel_rfl) (by kernel_rfl) (by kernel_rfl) (Reads.pure (.fieldAddr fd65_6 rfl)) ?_
          refine .rd 14 rfl rfl (by kernel_rfl) (by kernel_rfl) (by kernel_rfl) (.ld na3 rfl (.tail (.tail (.tail .head))) rfl) (.cons (.tail (.tail (.tail (.tail .head)))) (.cons (.tail (.tail (.tail (.tail (.tail .head))))) (.cons (.tail (.tail (.tail .head))) (.cons .head .nil)))) ?_
          refine .rp 16 rfl (by kernel_rfl) (by kernel_rfl) (by kernel_rfl) (Reads.pure (.move rfl)) ?_
          refine .rd 17 rfl rfl (by kernel_rfl) (by kernel_rfl) (by kernel_rfl) (.ld na24 rfl .head rfl) (.cons (.tail (.tail (.tail (.tail .head)))) (.cons (.tail (.tail (.tail (.tail (.tail .head))))) (.cons (.tail (.tail (.tail .head))) (.cons .head .nil)))) ?_
          refine .rp 18 rfl (by kernel_rfl) (by kernel_rfl) (by kernel_rfl) (Reads.pure (.nilCheck rfl)) ?_
          refine .rp 19 rfl (by kernel_rfl) (by kernel_rfl) (by kernel_rfl) (Reads.pure (.fieldAddr fd60_1 rfl)) ?_
          refine .rd 20 rfl rfl (by kernel_rfl) (by kernel_rfl) (by kernel_rfl) (.ld na3 rfl (.tail .head) rfl) (.cons (.tail (.tail (.tail (.tail .head)))) (.cons (.tail (.tail (.tail (.tail (.tail .head))))) (.cons (.tail (.tail (.tail .head))) (.cons .head .nil)))) ?_
          refine .rp 21 rfl (by kernel_rfl) (by kernel_rfl) (by kernel_rfl) (Reads.pure (.add rfl rfl (by show _ ≤ now + s.wait; omega) (by show now + s.wait ≤ _; omega))) ?_
          refine .ef 15 (by kernel_rfl) rfl (.fn rfl rfl .nil (fun A w h => ⟨(Knows.blk (.tail (.tail (.tail (.tail (.tail (.tail .head))))))) A w h, (Knows.know (.tail (.tail (.tail (.tail (.tail (.tail (.tail (.tail (.tail .head)))))))))) A w h⟩) (behind_ok pb s x none 0 0 y.c.to hB.bne hB.bn)) ?_
          rintro v _ ⟨G1, hq, rfl⟩
          obtain ⟨rfl, rfl⟩ := hq
          simp only [List.nil_append]
          refine ⟨.inr ⟨_, (.cons (.tail (.tail (.tail (.tail .head)))) (.cons (.tail (.tail (.tail (.tail (.tail .head))))) (.cons (.tail (.tail (.tail .head))) (.cons .head .nil))))⟩, ?_⟩
          refine .ef 22 (by kernel_rfl) rfl (.mapEntry (q := y.c.aim) (z0 := 0) (venc := Value.int .i64) kl3 Tryd.underlying57 (fun w => ti3.zero w) rfl rfl rfl (.tail (.tail (.tail (.tail (.tail (.tail (.tail .head)))))))) ?_
          rintro _ _ ⟨st, rfl, rfl⟩
          refine ⟨.inl (by kernel_rfl), ?_⟩
          refine .rp 23 rfl (by kernel_rfl) (by kernel_rfl) (by kernel_rfl) (Reads.pure (.extract rfl rfl)) ?_
          refine .ef0 24 (by kernel_rfl) rfl (.entryStore (s := st) (u := behind s.brokers y.c.to) rfl rfl rfl .head) ?_
          rintro _ _ rfl
          refine ⟨.inl (by kernel_rfl), ?_⟩
          refine .rp 25 rfl (by kernel_rfl) (by kernel_rfl) (by kernel_rfl) (Reads.pure (.nilCheck rfl)) ?_
          refine .rp 26 rfl (by kernel_rfl) (by kernel_rfl) (by kernel_rfl) (Reads.pure (.fieldAddr fd65_8 rfl)) ?_
          refine .ef0 27 (by kernel_rfl) rfl (.store ts3 rfl rfl (.tail .head) rfl (Nat.le_of_ble_eq_true rfl)) ?_
          rintro _ _ rfl
          refine ⟨.inl (by kernel_rfl), ?_⟩
          refine .rp 28 rfl (by kernel_rfl) (by kernel_rfl) (by kernel_rfl) (Reads.pure (.nilCheck rfl)) ?_
          refine .rp 29 rfl (by kernel_rfl) (by kernel_rfl) (by kernel_rfl) (Reads.pure (.fieldAddr fd65_4 rfl)) ?_
          refine .ef0 30 (by kernel_rfl) rfl (.store ts4 rfl rfl .head rfl (Nat.le_of_ble_eq_true rfl)) ?_
          rintro _ _ rfl
          refine ⟨.inl (by kernel_rfl), ?_⟩
          exact .done (by kernel_rfl) ⟨(.cons rfl (.cons rfl (.cons rfl (.cons rfl (.cons rfl .nil))))), _, (.cons (.tail (.tail (.tail (.tail (.tail .head))))) (.cons (.tail (.tail (.tail (.tail .head)))) (.cons (.tail (.tail (.tail (.tail (.tail .head))))) (.cons .head (.cons (.tail .head) (.cons .head (.cons (.tail .head) (.cons (.tail .head) (.cons (.tail .head) (.cons (.tail .head) .nil))))))))))⟩
        · refine .perm (.cons (.tail (.tail (.tail (.tail (.tail .head))))) (.cons .head (.cons .head (.cons .head (.cons .head (.cons .head (.cons .head (.cons .head (.cons .head (.cons .head .nil)))))))))) ?_
          refine .cast (X' := IM x.ab (mset s.aims y.c.aim (behind s.brokers y.c.to))) (by rw [mset_mset]) ?_
          refine .seq ?_
          refine .draws [0, 3, 5] [blk b3 [.pointer (some ⟨pb, 0, none⟩)] 24, blk pb (CS19.cells s x none 0 0) 60, blk b5 (m.cells a c) 35] (by kernel_rfl) ?_
          refine .rd 0 rfl rfl (by kernel_rfl) (by kernel_rfl) (by kernel_rfl) (.ld na24 rfl .head rfl) (.cons (.tail .head) (.cons (.tail (.tail .head)) (.cons (.tail .head) .nil))) ?_
          refine .rp 1 rfl (by kernel_rfl) (by kernel_rfl) (by kernel_rfl) (Reads.pure (.nilCheck rfl)) ?_
          refine .rp 2 rfl (by kernel_rfl) (by kernel_rfl) (by kernel_rfl) (Reads.pure (.fieldAddr fd60_3 rfl)) ?_
          refine .rd 3 rfl rfl (by kernel_rfl) (by kernel_rfl) (by kernel_rfl) (.ld na28 rfl (.tail .head) rfl) (.cons (.tail .head) (.cons (.tail (.tail .head)) (.cons (.tail .head) .nil))) ?_
          refine .rp 4 rfl (by kernel_rfl) (by kernel_rfl) (by kernel_rfl) (Reads.pure (.fieldAddr fd35_7 rfl)) ?_
          refine .rd 5 rfl rfl (by kernel_rfl) (by kernel_rfl) (by kernel_rfl) (.ld na3 rfl (.tail (.tail .head)) rfl) (.cons (.tail .head) (.cons (.tail (.tail .head)) (.cons (.tail .head) .nil))) ?_
          refine .ef 6 (by kernel_rfl) rfl (.fn rfl rfl .nil (((Knows.know (.tail (.tail (.tail (.tail (.tail (.tail (.tail (.tail .head))))))))).mono fun _ h => h)) (contains_ok x.ba x.bc s.brokers m.last (by have := hB.bn; omega))) ?_
          rintro v _ ⟨G1, hq, rfl⟩
          obtain ⟨rfl, rfl⟩ := hq
          simp only [List.nil_append]
          refine ⟨.inl (by kernel_rfl), ?_⟩
          refine .done (by kernel_rfl) ?_
          refine .condP rfl (fun h9 => ?_) (fun h9 => ?_)
          · refine .drawsTo [0, 3, 7, 10] [blk b3 [.pointer (some ⟨pb, 0, none⟩)] 24, blk pb (CS19.cells s x none 0 0) 60, blk b5 (m.cells a c) 35, blk y.a (Cl19.cells ({ y.c with deadline := now + s.wait, refused := true })) 65] [(1, .int .i64 now), (3, .pointer (some ⟨b3, 0, none⟩)), (5, .pointer (some ⟨b5, 0, none⟩)), (7, .int .i64 (k0 : Nat)), (8, .pointer (some ⟨y.a, 0, none⟩))] [blk b3 [.pointer (some ⟨pb, 0, none⟩)] 24, blk b5 (m.cells a c) 35, blk pb (CS19.cells s x none 0 0) 60, blk y.a (Cl19.cells ({ y.c with deadline := now + 1, refused := true })) 65, bag CB (cl.eraseIdx k0), IM x.ab (mset (mset (mset s.aims y.c.aim (behind s.brokers y.c.to)) y.c.aim ((mget (mset s.aims y.c.aim (behind s.brokers y.c.to)) y.c.aim).getD 0)) y.c.aim m.last), arr 63 1 x.ua x.uc ((cl.map (·.a)).flatMap pcell), EL s x, know (KN s x), R] (by kernel_rfl) ?_ ?_
            · refine .rd 0 rfl rfl (by kernel_rfl) (by kernel_rfl) (by kernel_rfl) (.ld na24 rfl .head rfl) (.cons (.tail .head) (.cons (.tail (.tail .head)) (.cons (.tail .head) (.cons (.tail .head) .nil)))) ?_
              refine .rp 1 rfl (by kernel_rfl) (by kernel_rfl) (by kernel_rfl) (Reads.pure (.nilCheck rfl)) ?_
              refine .rp 2 rfl (by kernel_rfl) (by kernel_rfl) (by kernel_rfl) (Reads.pure (.fieldAddr fd60_4 rfl)) ?_
              refine .rd 3 rfl rfl (by kernel_rfl) (by kernel_rfl) (by kernel_rfl) (.ld na57 rfl (.tail .head) rfl) (.cons (.tail .head) (.cons (.tail (.tail .head)) (.cons (.tail .head) (.cons (.tail .head) .nil)))) ?_
              refine .rp 4 rfl (by kernel_rfl) (by kernel_rfl) (by kernel_rfl) (Reads.pure (.move rfl)) ?_
              refine .rp 5 rfl (by kernel_rfl) (by kernel_rfl) (by kernel_rfl) (Reads.pure (.nilCheck rfl)) ?_
              refine .rp 6 rfl (by kernel_rfl) (by kernel_rfl) (by kernel_rfl) (Reads.pure (.fieldAddr fd65_3 rfl)) ?_
              refine .rd 7 rfl rfl (by kernel_rfl) (by kernel_rfl) (by kernel_rfl) (.ld na3 rfl (.tail (.tail (.tail .head))) rfl) (.cons (.tail .head) (.cons (.tail (.tail .head)) (.cons (.tail .head) (.cons (.tail .head) .nil)))) ?_
              refine .rp 8 rfl (by kernel_rfl) (by kernel_rfl) (by kernel_rfl) (Reads.pure (.move rfl)) ?_
              refine .rp 9 rfl (by kernel_rfl) (by kernel_rfl) (by kernel_rfl) (Reads.pure (.fieldAddr fd35_7 rfl)) ?_
              refine .rd 10 rfl rfl (by kernel_rfl) (by kernel_rfl) (by kernel_rfl) (.ld na3 rfl (.tail (.tail .head)) rfl) (.cons (.tail .head) (.cons (.tail (.tail .head)) (.cons (.tail .head) (.cons (.tail .head) .nil)))) ?_
              refine .rp 11 rfl (by kernel_rfl) (by kernel_rfl) (by kernel_rfl) (Reads.pure (.move rfl)) ?_
              refine .rp 12 rfl (by kernel_rfl) (by kernel_rfl) (by kernel_rfl) (Reads.pure (.add rfl rfl (by show _ ≤ now + 1; omega) (by show now + 1 ≤ _; omega))) ?_
              refine .ef 13 (by kernel_rfl) rfl (.mapEntry (q := y.c.aim) (z0 := 0) (venc := Value.int .i64) kl3 Tryd.underlying57 (fun w => ti3.zero w) rfl rfl rfl .head) ?_
              rintro _ _ ⟨st, rfl, rfl⟩
              refine ⟨.inr ⟨_, (.cons (.tail .head) (.cons (.tail (.tail .head)) (.cons (.tail .head) (.cons (.tail .head) .nil))))⟩, ?_⟩
              refine .rp 14 rfl (by kernel_rfl) (by kernel_rfl) (by kernel_rfl) (Reads.pure (.extract rfl rfl)) ?_
              refine .ef0 15 (by kernel_rfl) rfl (.entryStore (s := st) (u := m.last) rfl rfl rfl .head) ?_
              rintro _ _ rfl
              refine ⟨.inl (by kernel_rfl), ?_⟩
              refine .rp 16 rfl (by kernel_rfl) (by kernel_rfl) (by kernel_rfl) (Reads.pure (.nilCheck rfl)) ?_
              refine .rp 17 rfl (by kernel_rfl) (by kernel_rfl) (by kernel_rfl) (Reads.pure (.fieldAddr fd65_8 rfl)) ?_
              refine .ef0 18 (by kernel_rfl) rfl (.store ts3 rfl rfl (.tail (.tail (.tail (.tail .head)))) rfl (Nat.le_of_ble_eq_true rfl)) ?_
              rintro _ _ rfl
              refine ⟨.inl (by kernel_rfl), ?_⟩
              exact .done (by kernel_rfl) ⟨(.cons rfl (.cons rfl (.cons rfl (.cons rfl (.cons rfl .nil))))), _, (.cons (.tail (.tail .head)) (.cons (.tail (.tail .head)) (.cons (.tail (.tail .head)) (.cons .head (.cons (.tail .head) (.cons .head (.cons .head (.cons .head (.cons .head (.cons .head .nil))))))))))⟩
            · refine .perm (.cons (.tail (.tail (.tail (.tail (.tail .head))))) (.cons .head (.cons .head (.cons .head (.cons .head (.cons .head (.cons .head (.cons .head (.cons .head (.cons .head .nil)))))))))) ?_
              refine .cast (X' := IM x.ab (mset (mset s.aims y.c.aim (behind s.brokers y.c.to)) y.c.aim m.last)) (by rw [mset_mset]) ?_
              refine .inBlock ?_
              refine .seq ?_
              refine .region ?_
              refine .rd (.assign rfl) ?_
              refine .nil ?_
              have hled : led s now k0 y.c m.last = ({ s with aims := (mset (mset s.aims y.c.aim (behind s.brokers y.c.to)) y.c.aim m.last), open_ := s.open_.set k0 { y.c with deadline := now + 1, refused := true } } : CS19) := if_pos h9
              refine .perm (.cons (.tail (.tail (.tail (.tail .head)))) (.cons .head (.cons .head (.cons .head (.cons .head (.cons .head (.cons .head (.cons .head (.cons .head (.cons .head .nil)))))))))) ?_
              refine .cast (X' := CB ⟨y.a, ({ y.c with deadline := now + 1, refused := true } : Cl19)⟩) (rfl) ?_
              refine .close (X := bag CB (cl.set k0 ⟨y.a, ({ y.c with deadline := now + 1, refused := true } : Cl19)⟩)) (B := [CB ⟨y.a, ({ y.c with deadline := now + 1, refused := true } : Cl19)⟩, bag CB (cl.eraseIdx k0)]) (.cons .head (.cons (.tail (.tail (.tail (.tail .head)))) .nil)) (fun _ H => bag.put (perm_in hy) H) ?_
              refine .perm (.cons (.tail (.tail (.tail (.tail (.tail .head))))) (.cons .head (.cons .head (.cons .head (.cons .head (.cons .head (.cons .head (.cons .head (.cons .head .nil))))))))) ?_
              refine .cast (X' := arr 63 1 x.ua x.uc (ptrs (cl.set k0 ⟨y.a, ({ y.c with deadline := now + 1, refused := true } : Cl19)⟩))) (by unfold ptrs; rw [map_set_a hy]) ?_
              refine .perm (.cons (.tail (.tail (.tail (.tail (.tail .head))))) (.cons .head (.cons .head (.cons .head (.cons .head (.cons .head (.cons .head (.cons .head (.cons .head .nil))))))))) ?_
              refine .cast (X' := blk pb (CS19.cells ({ s with aims := (mset (mset s.aims y.c.aim (behind s.brokers y.c.to)) y.c.aim m.last), open_ := s.open_.set k0 { y.c with deadline := now + 1, refused := true } } : CS19) x none 0 0) 60) (rfl) ?_
              refine .perm (.cons (.tail (.tail (.tail .head))) (.cons .head (.cons .head (.cons .head (.cons .head (.cons .head (.cons .head (.cons .head (.cons .head .nil))))))))) ?_
              refine .cast (X' := IM x.ab (CS19.aims ({ s with aims := (mset (mset s.aims y.c.aim (behind s.brokers y.c.to)) y.c.aim m.last), open_ := s.open_.set k0 { y.c with deadline := now + 1, refused := true } } : CS19))) (rfl) ?_
              refine .perm (.cons (.tail (.tail (.tail (.tail (.tail (.tail .head)))))) (.cons .head (.cons .head (.cons .head (.cons .head (.cons .head (.cons .head (.cons .head (.cons .head .nil))))))))) ?_
              refine .cast (X' := EL ({ s with aims := (mset (mset s.aims y.c.aim (behind s.brokers y.c.to)) y.c.aim m.last), open_ := s.open_.set k0 { y.c with deadline := now + 1, refused := true } } : CS19) x) (rfl) ?_
              refine .perm (.cons (.tail (.tail (.tail (.tail (.tail (.tail (.tail .head))))))) (.cons .head (.cons .head (.cons .head (.cons .head (.cons .head (.cons .head (.cons .head (.cons .head .nil))))))))) ?_
              refine .cast (X' := know (KN ({ s with aims := (mset (mset s.aims y.c.aim (behind s.brokers y.c.to)) y.c.aim m.last), open_ := s.open_.set k0 { y.c with deadline := now + 1, refused := true } } : CS19) x)) (rfl) ?_
              rw [hst, stepAt_led h7, hled]
              refine .close (X := PR pb ({ s with aims := (mset (mset s.aims y.c.aim (behind s.brokers y.c.to)) y.c.aim m.last), open_ := s.open_.set k0 { y.c with deadline := now + 1, refused := true } } : CS19)) (.cons (.tail (.tail (.tail .head))) (.cons (.tail (.tail (.tail (.tail .head)))) (.cons (.tail (.tail .head)) (.cons (.tail (.tail .head)) (.cons (.tail .head) (.cons .head .nil)))))) (fun _ H => ⟨(x, cl.set k0 ⟨y.a, ({ y.c with deadline := now + 1, refused := true } : Cl19)⟩), ⟨by rw [List.map_set, hWc], by show x.un = (s.open_.set k0 _).length; rw [List.length_set]; exact hWn⟩, H⟩) ?_
              refine .retP Tryd.func11 (.cons (.tmp rfl) .nil) (.cons .head (.cons (.tail (.tail .head)) .nil)) ?_
              exact ⟨[_], ⟨rfl, rfl⟩, rfl⟩
          · refine .skip ?_
            refine .inBlock ?_
            refine .seq ?_
            refine .region ?_
            refine .rd (.assign rfl) ?_
            refine .nil ?_
            have hled : led s now k0 y.c m.last = ({ s with aims := (mset s.aims y.c.aim (behind s.brokers y.c.to)), open_ := s.open_.set k0 { y.c with deadline := now + s.wait, refused := true } } : CS19) := if_neg h9
            refine .perm (.cons (.tail (.tail (.tail (.tail .head)))) (.cons .head (.cons .head (.cons .head (.cons .head (.cons .head (.cons .head (.cons .head (.cons .head (.cons .head .nil)))))))))) ?_
            refine .cast (X' := CB ⟨y.a, ({ y.c with deadline := now + s.wait, refused := true } : Cl19)⟩) (rfl) ?_
            refine .close (X := bag CB (cl.set k0 ⟨y.a, ({ y.c with deadline := now + s.wait, refused := true } : Cl19)⟩)) (B := [CB ⟨y.a, ({ y.c with deadline := now + s.wait, refused := true } : Cl19)⟩, bag CB (cl.eraseIdx k0)]) (.cons .head (.cons (.tail (.tail (.tail (.tail .head)))) .nil)) (fun _ H => bag.put (perm_in hy) H) ?_
            refine .perm (.cons (.tail (.tail (.tail (.tail (.tail .head))))) (.cons .head (.cons .head (.cons .head (.cons .head (.cons .head (.cons .head (.cons .head (.cons .head .nil))))))))) ?_
            refine .cast (X' := arr 63 1 x.ua x.uc (ptrs (cl.set k0 ⟨y.a, ({ y.c with deadline := now + s.wait, refused := true } : Cl19)⟩))) (by unfold ptrs; rw [map_set_a hy]) ?_
            refine .perm (.cons (.tail (.tail (.tail (.tail (.tail .head))))) (.cons .head (.cons .head (.cons .head (.cons .head (.cons .head (.cons .head (.cons .head (.cons .head .nil))))))))) ?_
            refine .cast (X' := blk pb (CS19.cells ({ s with aims := (mset s.aims y.c.aim (behind s.brokers y.c.to)), open_ := s.open_.set k0 { y.c with deadline := now + s.wait, refused := true } } : CS19) x none 0 0) 60) (rfl) ?_
            refine .perm (.cons (.tail (.tail (.tail .head))) (.cons .head (.cons .head (.cons .head (.cons .head (.cons .head (.cons .head (.cons .head (.cons .head .nil))))))))) ?_
            refine .cast (X' := IM x.ab (CS19.aims ({ s with aims := (mset s.aims y.c.aim (behind s.brokers y.c.to)), open_ := s.open_.set k0 { y.c with deadline := now + s.wait, refused := true } } : CS19))) (rfl) ?_
            refine .perm (.cons (.tail (.tail (.tail (.tail (.tail (.tail .head)))))) (.cons .head (.cons .head (.cons .head (.cons .head (.cons .head (.cons .head (.cons .head (.cons .head .nil))))))))) ?_
            refine .cast (X' := EL ({ s with aims := (mset s.aims y.c.aim (behind s.brokers y.c.to)), open_ := s.open_.set k0 { y.c with deadline := now + s.wait, refused := true } } : CS19) x) (rfl) ?_
            refine .perm (.cons (.tail (.tail (.tail (.tail (.tail (.tail (.tail .head))))))) (.cons .head (.cons .head (.cons .head (.cons .head (.cons .head (.cons .head (.cons .head (.cons .head .nil))))))))) ?_
            refine .cast (X' := know (KN ({ s with aims := (mset s.aims y.c.aim (behind s.brokers y.c.to)), open_ := s.open_.set k0 { y.c with deadline := now + s.wait, refused := true } } : CS19) x)) (rfl) ?_
            rw [hst, stepAt_led h7, hled]
            refine .close (X := PR pb ({ s with aims := (mset s.aims y.c.aim (behind s.brokers y.c.to)), open_ := s.open_.set k0 { y.c with deadline := now + s.wait, refused := true } } : CS19)) (.cons (.tail (.tail (.tail .head))) (.cons (.tail (.tail (.tail (.tail .head)))) (.cons (.tail (.tail .head)) (.cons (.tail (.tail .head)) (.cons (.tail .head) (.cons .head .nil)))))) (fun _ H => ⟨(x, cl.set k0 ⟨y.a, ({ y.c with deadline := now + s.wait, refused := true } : Cl19)⟩), ⟨by rw [List.map_set, hWc], by show x.un = (s.open_.set k0 _).length; rw [List.length_set]; exact hWn⟩, H⟩) ?_
            refine .retP Tryd.func11 (.cons (.tmp rfl) .nil) (.cons .head (.cons (.tail (.tail .head)) .nil)) ?_
            exact ⟨[_], ⟨rfl, rfl⟩, rfl⟩
      · refine .seq ?_
        refine .seq ?_
        refine .region ?_
        refine RunO.join 12 102 (decide (m.err = 19 ∧ y.c.m.kind = 23)) ?_ ?_
        · refine .rd (.fieldAddr fd35_15 rfl) ?_
          refine .rd (.ld na25 rfl (.tail (.tail (.tail .head))) rfl) ?_
          refine .rd (.eqI rfl rfl) ?_
          refine .rd (.move rfl) ?_
          refine .split (t := 106) rfl (fun g11 => ?_) (fun g11 => ?_)
          · replace g11 := of_decide_eq_true g11
            refine .on (t := 106) rfl rfl ?_
            refine .rd (.move rfl) ?_
            refine .on (t := 106) rfl rfl ?_
            refine .rd (.nilCheck rfl) ?_
            refine .on (t := 106) rfl rfl ?_
            refine .rd (.fieldAddr fd65_2 rfl) ?_
            refine .on (t := 106) rfl rfl ?_
            refine .rd (.fieldAddr fd35_0 rfl) ?_
            refine .on (t := 106) rfl rfl ?_
            refine .rd (.ld na3 rfl .head rfl) ?_
            refine .on (t := 106) rfl rfl ?_
            refine .rd (.eqI rfl rfl) ?_
            refine .rd (.pickT rfl rfl) ?_
            refine .rd (.assign rfl) ?_
            refine .nil ⟨rfl, ?_, by repeat (first | exact Le.refl _ | refine Le.skip rfl ?_)⟩
            exact congrArg (fun x => some (Value.bool x)) (Eq.symm (show decide (m.err = 19 ∧ y.c.m.kind = 23) = _ by simp [g11]))
          · replace g11 := of_decide_eq_false g11
            refine .off (t := 106) rfl rfl rfl ?_
            refine .off (t := 106) rfl rfl rfl ?_
            refine .off (t := 106) rfl rfl rfl ?_
            refine .off (t := 106) rfl rfl rfl ?_
            refine .off (t := 106) rfl rfl rfl ?_
            refine .off (t := 106) rfl rfl rfl ?_
            refine .rd (.pickF rfl rfl) ?_
            refine .rd (.assign rfl) ?_
            refine .nil ⟨rfl, ?_, by repeat (first | exact Le.refl _ | refine Le.skip rfl ?_)⟩
            exact congrArg (fun x => some (Value.bool x)) (Eq.symm (show decide (m.err = 19 ∧ y.c.m.kind = 23) = _ by simp [g11]))
        refine .nil ?_
        refine .joinAt (E' := [(1, .int .i64 now), (3, .pointer (some ⟨b3, 0, none⟩)), (5, .pointer (some ⟨b5, 0, none⟩)), (7, .int .i64 (k0 : Nat)), (8, .pointer (some ⟨y.a, 0, none⟩)), (102, .bool (decide ((m.err = 19 ∧ y.c.m.kind = 23) ∨ (m.err = 3 ∧ y.c.s.kind = 7))))]) (Γ' := [blk b3 [.pointer (some ⟨pb, 0, none⟩)] 24, blk b5 (m.cells a c) 35, blk pb (CS19.cells s x none 0 0) 60, blk y.a (Cl19.cells (y.c)) 65, bag CB (cl.eraseIdx k0), IM x.ab s.aims, arr 63 1 x.ua x.uc ((cl.map (·.a)).flatMap pcell), EL s x, know (KN s x), R]) ?_ (fun fin => ?_)
        · refine .condP rfl (fun h100 => ?_) (fun h100 => ?_)
          · refine .region ?_
            refine .rd (.move rfl) ?_
            refine .rd (.move rfl) ?_
            refine .rd (.move rfl) ?_
            refine .rd (.ld na24 rfl .head rfl) ?_
            refine .rd (.nilCheck rfl) ?_
            refine .rd (.fieldAddr fd60_1 rfl) ?_
            refine .rd (.ld na3 rfl (.tail (.tail .head)) rfl) ?_
            refine .rd (.add rfl rfl (by show _ ≤ now + s.wait; omega) (by show now + s.wait ≤ _; omega)) ?_
            refine .rd (.nilCheck rfl) ?_
            refine .rd (.fieldAddr fd65_8 rfl) ?_
            refine .ef0 (.store ts3 rfl rfl (.tail (.tail (.tail .head))) rfl (Nat.le_of_ble_eq_true rfl)) ?_
            rintro _ _ rfl
            refine .rd (.nilCheck rfl) ?_
            refine .rd (.fieldAddr fd65_4 rfl) ?_
            refine .ef0 (.store ts4 rfl rfl .head rfl (Nat.le_of_ble_eq_true rfl)) ?_
            rintro _ _ rfl
            refine .nil ?_
            refine .inBlock ?_
            refine .seq ?_
            refine .region ?_
            refine .rd (.assign rfl) ?_
            refine .nil ?_
            refine .cast (X' := CB ⟨y.a, ({ y.c with deadline := now + s.wait, refused := true } : Cl19)⟩) (rfl) ?_
            refine .close (X := bag CB (cl.set k0 ⟨y.a, ({ y.c with deadline := now + s.wait, refused := true } : Cl19)⟩)) (B := [CB ⟨y.a, ({ y.c with deadline := now + s.wait, refused := true } : Cl19)⟩, bag CB (cl.eraseIdx k0)]) (.cons .head (.cons (.tail (.tail (.tail .head))) .nil)) (fun _ H => bag.put (perm_in hy) H) ?_
            refine .perm (.cons (.tail (.tail (.tail (.tail (.tail .head))))) (.cons .head (.cons .head (.cons .head (.cons .head (.cons .head (.cons .head (.cons .head (.cons .head .nil))))))))) ?_
            refine .cast (X' := arr 63 1 x.ua x.uc (ptrs (cl.set k0 ⟨y.a, ({ y.c with deadline := now + s.wait, refused := true } : Cl19)⟩))) (by unfold ptrs; rw [map_set_a hy]) ?_
            refine .perm (.cons (.tail (.tail (.tail (.tail .head)))) (.cons .head (.cons .head (.cons .head (.cons .head (.cons .head (.cons .head (.cons .head (.cons .head .nil))))))))) ?_
            refine .cast (X' := blk pb (CS19.cells ({ s with open_ := s.open_.set k0 { y.c with deadline := now + s.wait, refused := true } } : CS19) x none 0 0) 60) (rfl) ?_
            refine .perm (.cons (.tail (.tail (.tail (.tail (.tail .head))))) (.cons .head (.cons .head (.cons .head (.cons .head (.cons .head (.cons .head (.cons .head (.cons .head .nil))))))))) ?_
            refine .cast (X' := IM x.ab (CS19.aims ({ s with open_ := s.open_.set k0 { y.c with deadline := now + s.wait, refused := true } } : CS19))) (rfl) ?_
            refine .perm (.cons (.tail (.tail (.tail (.tail (.tail (.tail .head)))))) (.cons .head (.cons .head (.cons .head (.cons .head (.cons .head (.cons .head (.cons .head (.cons .head .nil))))))))) ?_
            refine .cast (X' := EL ({ s with open_ := s.open_.set k0 { y.c with deadline := now + s.wait, refused := true } } : CS19) x) (rfl) ?_
            refine .perm (.cons (.tail (.tail (.tail (.tail (.tail (.tail (.tail .head))))))) (.cons .head (.cons .head (.cons .head (.cons .head (.cons .head (.cons .head (.cons .head (.cons .head .nil))))))))) ?_
            refine .cast (X' := know (KN ({ s with open_ := s.open_.set k0 { y.c with deadline := now + s.wait, refused := true } } : CS19) x)) (rfl) ?_
            rw [hst, stepAt_wait h7 h100]
            refine .close (X := PR pb ({ s with open_ := s.open_.set k0 { y.c with deadline := now + s.wait, refused := true } } : CS19)) (.cons (.tail (.tail (.tail .head))) (.cons (.tail (.tail (.tail (.tail .head)))) (.cons (.tail (.tail .head)) (.cons (.tail (.tail .head)) (.cons (.tail .head) (.cons .head .nil)))))) (fun _ H => ⟨(x, cl.set k0 ⟨y.a, ({ y.c with deadline := now + s.wait, refused := true } : Cl19)⟩), ⟨by rw [List.map_set, hWc], by show x.un = (s.open_.set k0 _).length; rw [List.length_set]; exact hWn⟩, H⟩) ?_
            refine .retP Tryd.func11 (.cons (.tmp rfl) .nil) (.cons .head (.cons (.tail (.tail .head)) .nil)) ?_
            exact ⟨[_], ⟨rfl, rfl⟩, rfl⟩
          · refine .seq ?_
            refine .draws [0, 1] [blk b3 [.pointer (some ⟨pb, 0, none⟩)] 24] (by kernel_rfl) ?_
            refine .rd 0 rfl rfl (by kernel_rfl) (by kernel_rfl) (by kernel_rfl) (.ld na24 rfl .head rfl) (.cons .head .nil) ?_
            refine .rd 1 rfl rfl (by kernel_rfl) (by kernel_rfl) (by kernel_rfl) (.ld na24 rfl .head rfl) (.cons .head .nil) ?_
            refine .rp 2 rfl (by kernel_rfl) (by kernel_rfl) (by kernel_rfl) (Reads.pure (.nilCheck rfl)) ?_
            refine .rp 3 rfl (by kernel_rfl) (by kernel_rfl) (by kernel_rfl) (Reads.pure (.fieldAddr fd60_5 rfl)) ?_
            refine .rp 5 rfl (by kernel_rfl) (by kernel_rfl) (by kernel_rfl) (Reads.pure (.move rfl)) ?_
            refine .rp 6 rfl (by kernel_rfl) (by kernel_rfl) (by kernel_rfl) (Reads.pure (.move rfl)) ?_
            refine .rp 7 rfl (by kernel_rfl) (by kernel_rfl) (by kernel_rfl) (Reads.pure (.add rfl rfl (by omega) (by omega))) ?_
            refine .rs 4 (by kernel_rfl) rfl (.ld na58 rfl (.tail (.tail .head)) (show (CS19.cells s x none 0 0)[5]? = some (.slice x.ua (cl.map (·.a)).length x.uc) by rw [List.length_map, hcl, ← hWn]; rfl)) (.inr (.cons .head .nil)) ?_
            refine .ef 8 (by kernel_rfl) rfl (.fn rfl rfl (.cons (.tail (.tail (.tail (.tail (.tail (.tail .head)))))) .nil) (fun _ _ _ => trivial) (delete_ok x.ua x.uc (cl.map (·.a)) k0 (by rw [List.length_map]; omega) (by rw [List.length_map]; omega))) ?_
            rintro v _ ⟨G1, hq, rfl⟩
            obtain ⟨rfl, rfl⟩ := hq
            simp only [List.cons_append, List.nil_append]
            refine ⟨.inr ⟨_, (.cons (.tail .head) .nil)⟩, ?_⟩
            refine .rp 9 rfl (by kernel_rfl) (by kernel_rfl) (by kernel_rfl) (Reads.pure (.nilCheck rfl)) ?_
            refine .rp 10 rfl (by kernel_rfl) (by kernel_rfl) (by kernel_rfl) (Reads.pure (.fieldAddr fd60_5 rfl)) ?_
            refine .ef0 11 (by kernel_rfl) rfl (.store ts58 rfl rfl (.tail (.tail (.tail .head))) rfl (Nat.le_of_ble_eq_true rfl)) ?_
            rintro _ _ rfl
            refine ⟨.inl (by kernel_rfl), ?_⟩
            refine .done (by kernel_rfl) ?_
            refine .cast (X' := blk pb (CS19.cells ({ s with open_ := s.open_.eraseIdx k0 } : CS19) ({ x with un := cl.length - 1 } : PX19) none 0 0) 60) (by rw [List.length_map]; rfl) ?_
            refine .perm (.cons (.tail (.tail (.tail (.tail (.tail (.tail (.tail .head))))))) (.cons .head (.cons .head (.cons .head (.cons .head (.cons .head (.cons .head (.cons .head (.cons .head (.cons .head .nil)))))))))) ?_
            refine .cast (X' := EL ({ s with open_ := s.open_.eraseIdx k0 } : CS19) ({ x with un := cl.length - 1 } : PX19)) (rfl) ?_
            refine .region ?_
            refine .rd (.ld na24 rfl (.tail (.tail (.tail .head))) rfl) ?_
            refine .rd (.move rfl) ?_
            refine .rd (.fieldAddr fd35_15 rfl) ?_
            refine .rd (.ld na25 rfl (.tail (.tail (.tail (.tail .head)))) rfl) ?_
            refine .rd (.ldN ia35 ts35 rfl (.tail (.tail (.tail (.tail .head)))) rfl) ?_
            refine .fn rfl rfl (.cons (.tail .head) (.cons (.tail (.tail (.tail (.tail .head)))) (.cons .head .nil))) (Knows.pick (.tail (.tail (.tail (.tail (.tail (.tail .head)))))) k') (end_ok pb y.a ({ s with open_ := s.open_.eraseIdx k0 } : CS19) ({ x with un := cl.length - 1 } : PX19) none 0 0 y.c m.err m a c hok ⟨hof.1, by omega⟩ (by show s.ended.length ≤ _; omega)) (fun v G1 hq => ?_)
            obtain ⟨ea, ec, rfl⟩ := hq
            simp only [List.cons_append, List.nil_append]
            refine .nil ?_
            refine .inBlock ?_
            refine .seq ?_
            refine .region ?_
            refine .rd (.assign rfl) ?_
            refine .nil ?_
            refine .perm (.cons (.tail (.tail (.tail .head))) (.cons .head (.cons .head (.cons .head (.cons .head (.cons .head (.cons .head (.cons .head (.cons .head (.cons .head .nil)))))))))) ?_
            refine .cast (X' := arr 63 1 x.ua x.uc (ptrs (cl.eraseIdx k0))) (by unfold ptrs; rw [map_erase]) ?_
            refine .perm (.cons (.tail (.tail (.tail (.tail (.tail (.tail .head)))))) (.cons .head (.cons .head (.cons .head (.cons .head (.cons .head (.cons .head (.cons .head (.cons .head (.cons .head .nil)))))))))) ?_
            refine .cast (X' := bag CB (cl.eraseIdx k0)) (rfl) ?_
            refine .perm (.cons (.tail (.tail (.tail (.tail (.tail (.tail (.tail .head))))))) (.cons .head (.cons .head (.cons .head (.cons .head (.cons .head (.cons .head (.cons .head (.cons .head (.cons .head .nil)))))))))) ?_
            refine .cast (X' := IM x.ab (CS19.aims (endS ({ s with open_ := s.open_.eraseIdx k0 } : CS19) y.c m.err m))) (rfl) ?_
            refine .perm (.cons (.tail (.tail (.tail (.tail (.tail (.tail (.tail (.tail .head)))))))) (.cons .head (.cons .head (.cons .head (.cons .head (.cons .head (.cons .head (.cons .head (.cons .head (.cons .head .nil)))))))))) ?_
            refine .cast (X' := know (KN (endS ({ s with open_ := s.open_.eraseIdx k0 } : CS19) y.c m.err m) ({ x with un := cl.length - 1, ea := ea, ec := ec } : PX19))) (rfl) ?_
            rw [hst, stepAt_end h7 h100]
            refine .close (X := PR pb (endS ({ s with open_ := s.open_.eraseIdx k0 } : CS19) y.c m.err m)) (.cons (.tail (.tail (.tail (.tail .head)))) (.cons (.tail (.tail .head)) (.cons (.tail .head) (.cons (.tail .head) (.cons (.tail (.tail .head)) (.cons .head .nil)))))) (fun _ H => ⟨(({ x with un := cl.length - 1, ea := ea, ec := ec } : PX19), cl.eraseIdx k0), ⟨by rw [map_erase, hWc]; rfl, by show cl.length - 1 = (s.open_.eraseIdx k0).length; rw [List.length_eraseIdx_of_lt (by omega), hcl]⟩, H⟩) ?_
            refine .retP Tryd.func11 (.cons (.tmp rfl) .nil) (.cons .head (.cons (.tail (.tail (.tail .head))) .nil)) ?_
            exact ⟨[_], ⟨rfl, rfl⟩, rfl⟩
        · refine .condP rfl (fun h11 => ?_) (fun h11 => ?_)
          · refine .skip ?_
            refine .alter (t := 102) (v' := .bool (decide ((m.err = 19 ∧ y.c.m.kind = 23) ∨ (m.err = 3 ∧ y.c.s.kind = 7)))) rfl (congrArg Value.bool (Eq.symm (show decide ((m.err = 19 ∧ y.c.m.kind = 23) ∨ (m.err = 3 ∧ y.c.s.kind = 7)) = _ by simp [h11]))) ?_
            exact fin (.cons rfl (.cons rfl (.cons rfl (.cons rfl (.cons rfl (.cons rfl .nil)))))) (.cons (.tail (.tail (.tail (.tail .head)))) (.cons (.tail (.tail (.tail .head))) (.cons (.tail (.tail (.tail (.tail .head)))) (.cons .head (.cons .head (.cons (.tail (.tail .head)) (.cons (.tail .head) (.cons (.tail .head) (.cons (.tail .head) (.cons (.tail .head) .nil))))))))))
          · refine .region ?_
            refine .rd (.fieldAddr fd35_15 rfl) ?_
            refine .rd (.ld na25 rfl (.tail (.tail (.tail .head))) rfl) ?_
            refine .rd (.eqI rfl rfl) ?_
            refine .rd (.move rfl) ?_
            refine .split (t := 117) rfl (fun g12 => ?_) (fun g12 => ?_)
            · replace g12 := of_decide_eq_true g12
              refine .on (t := 117) rfl rfl ?_
              refine .rd (.move rfl) ?_
              refine .on (t := 117) rfl rfl ?_
              refine .rd (.nilCheck rfl) ?_
              refine .on (t := 117) rfl rfl ?_
              refine .rd (.fieldAddr fd65_1 rfl) ?_
              refine .on (t := 117) rfl rfl ?_
              refine .rd (.fieldAddr fd31_2 rfl) ?_
              refine .on (t := 117) rfl rfl ?_
              refine .rd (.ld na3 rfl .head rfl) ?_
              refine .on (t := 117) rfl rfl ?_
              refine .rd (.eqI rfl rfl) ?_
              refine .rd (.pickT rfl rfl) ?_
              refine .rd (.assign rfl) ?_
              refine .nil ?_
              refine .alter (t := 102) (v' := .bool (decide ((m.err = 19 ∧ y.c.m.kind = 23) ∨ (m.err = 3 ∧ y.c.s.kind = 7)))) rfl (congrArg Value.bool (Eq.symm (show decide ((m.err = 19 ∧ y.c.m.kind = 23) ∨ (m.err = 3 ∧ y.c.s.kind = 7)) = _ by simp [g12]))) ?_
              exact fin (.cons rfl (.cons rfl (.cons rfl (.cons rfl (.cons rfl (.cons rfl .nil)))))) (.cons (.tail (.tail (.tail (.tail .head)))) (.cons (.tail (.tail (.tail .head))) (.cons (.tail (.tail (.tail (.tail .head)))) (.cons .head (.cons .head (.cons (.tail (.tail .head)) (.cons (.tail .head) (.cons (.tail .head) (.cons (.tail .head) (.cons (.tail .head) .nil))))))))))
            · replace g12 := of_decide_eq_false g12
              refine .off (t := 117) rfl rfl rfl ?_
              refine .off (t := 117) rfl rfl rfl ?_
              refine .off (t := 117) rfl rfl rfl ?_
              refine .off (t := 117) rfl rfl rfl ?_
              refine .off (t := 117) rfl rfl rfl ?_
              refine .off (t := 117) rfl rfl rfl ?_
              refine .rd (.pickF rfl rfl) ?_
              refine .rd (.assign rfl) ?_
              refine .nil ?_
              refine .alter (t := 102) (v' := .bool (decide ((m.err = 19 ∧ y.c.m.kind = 23) ∨ (m.err = 3 ∧ y.c.s.kind = 7)))) rfl (congrArg Value.bool (Eq.symm (show decide ((m.err = 19 ∧ y.c.m.kind = 23) ∨ (m.err = 3 ∧ y.c.s.kind = 7)) = _ by simp [h11, g12]))) ?_
              exact fin (.cons rfl (.cons rfl (.cons rfl (.cons rfl (.cons rfl (.cons rfl .nil)))))) (.cons (.tail (.tail (.tail (.tail .head)))) (.cons (.tail (.tail (.tail .head))) (.cons (.tail (.tail (.tail (.tail .head)))) (.cons .head (.cons .head (.cons (.tail (.tail .head)) (.cons (.tail .head) (.cons (.tail .head) (.cons (.tail .head) (.cons (.tail .head) .nil))))))))))
  · simp only [List.cons_append, List.nil_append]
    refine .rd (.assign rfl) ?_
    refine .nil ?_
    refine .seq ?_
    refine .seq ?_
    refine .region ?_
    refine .rd (.move rfl) ?_
    refine .rd (.lt rfl rfl) ?_
    refine .nil ?_
    refine .condP rfl (fun h2 => ?_) (fun h2 => ?_)
    · refine .seq ?_
      refine .region ?_
      refine .rd (.assign rfl) ?_
      refine .nil ?_
      refine .perm (.cons (.tail (.tail (.tail .head))) (.cons .head (.cons .head (.cons .head (.cons .head (.cons .head (.cons .head (.cons .head (.cons .head (.cons .head .nil)))))))))) ?_
      refine .cast (X' := arr 63 1 x.ua x.uc (ptrs cl)) (rfl) ?_
      rw [fit_miss (now := now) hWc hbj]
      refine .close (X := PR pb s) (.cons (.tail (.tail (.tail (.tail .head)))) (.cons (.tail (.tail (.tail (.tail .head)))) (.cons (.tail (.tail (.tail (.tail .head)))) (.cons .head (.cons (.tail (.tail (.tail .head))) (.cons (.tail (.tail (.tail .head))) .nil)))))) (fun _ H => ⟨(x, cl), ⟨hWc, hWn⟩, H⟩) ?_
      refine .retP Tryd.func11 (.cons (.tmp rfl) .nil) (.cons .head (.cons (.tail (.tail (.tail .head))) .nil)) ?_
      exact ⟨[_], ⟨rfl, rfl⟩, rfl⟩
    · exact absurd h2 (by decide)

end Go.Proofs.YtankogdnhgmkhaaDoor


namespace Go.Proofs.YtankogdnhgmkhaaDoor
open Go Go.Sp

set_option linter.unusedVariables false

namespace con14
theorem ts3 : TS Tryd.prog 3 1 := .of (by kernel_rfl)
theorem na3 : NotAgg Tryd.prog 3 := ⟨_, Tryd.underlying3, trivial⟩
theorem bld60_0_1_2_3_4 (x0 : Int) (x1 : Int) (x2 : Int) (x3a : Option Addr) (x3n : Nat) (x3c : Nat) (x4 : Option Nat) (w : World) : (Instr.build 60 (([0, 1, 2, 3, 4] : List Nat).zip [.int .i64 x0, .int .i64 x1, .int .i64 x2, .slice x3a x3n x3c, .map x4]).toArray).run Tryd.prog w = .ok (.agg #[.int .i64 x0, .int .i64 x1, .int .i64 x2, .slice x3a x3n x3c, .map x4, .slice none 0 0, .int .i64 0, .int .i64 0, .slice none 0 0, .slice none 0 0]) w := by kernel_rfl
end con14
open con14

def lastOf (l : List Int) (i : Nat) : Int := if i = 0 then 0 else l.getD (i - 1) 0
def Rise (l : List Int) : Prop := l.length ≤ 100 ∧ 0 < l.length ∧ ∀ i, i < l.length → lastOf l i < l.getD i 0 ∧ l.getD i 0 ≤ 7 ∧ 0 < l.getD i 0
theorem lastOf_next {l : List Int} {i : Nat} {y : Int} (h : l[i]? = some y) : lastOf l (i + 1) = y := by
  unfold lastOf; rw [if_neg (by omega), Nat.add_sub_cancel, List.getD_eq_getElem?_getD, h]; rfl
theorem getD_at {l : List Int} {i : Nat} {y : Int} (h : l[i]? = some y) : l.getD i 0 = y := by rw [List.getD_eq_getElem?_getD, h]; rfl

set_option maxRecDepth 20000 in
theorem New_ok (id : Int) (a : Option Addr) (c : Nat) (l : List Int) (wait tries : Int) (hr : Rise l) (hid : 101 ≤ id ∧ id ≤ 999) (hw : 1 ≤ wait ∧ wait ≤ 1000000000) (ht : 1 ≤ tries ∧ tries ≤ 1000) : Cn Tryd.prog 7 [.int .i64 id, .slice a l.length c, .int .i64 wait, .int .i64 tries] (RowAt a (l.flatMap icell)) [] fun v G => ∃ pb, v = .tuple #[.pointer (some ⟨pb, 0, none⟩), .int .i64 0] ∧ G = [PR pb (new19 id wait tries l)] := by
  refine .enter Tryd.func7 rfl (by kernel_rfl) rfl fun R k => ?_
  refine .seq ?_
  refine .region ?_
  refine .rd (.assign rfl) ?_
  refine .rd (.assign rfl) ?_
  refine .nil ?_
  refine .seq ?_
  refine .region ?_
  refine .rd (.assign rfl) ?_
  refine .nil ?_
  refine .seq ?_
  refine .seq ?_
  refine .region ?_
  refine .rd (.move rfl) ?_
  refine .rd (.lenL rfl rfl Tryd.underlying28 rfl) ?_
  refine .rd (.move rfl) ?_
  refine .nil ?_
  refine .block ?_
  refine .loop (σ := Nat) (fun i => i ≤ l.length) (fun i => l.length - i) (fun i => [(0, .int .i64 id), (1, .slice a l.length c), (2, .int .i64 wait), (3, .int .i64 tries), (10, .int .i64 (lastOf l i)), (13, .slice a l.length c), (14, .int .i64 l.length), (15, .int .i64 (i : Nat))]) (fun i => [R]) 0 (Nat.zero_le _) (.cons rfl (.cons rfl (.cons rfl (.cons rfl (.cons rfl (.cons rfl (.cons rfl (.cons rfl .nil)))))))) (.cons .head .nil) (fun i hI ih => ?_)
  have hi := hI
  have hll := hr.1
  refine .seq ?_
  refine .region ?_
  refine .rd (.lt rfl rfl) ?_
  refine .nil ?_
  refine .seq ?_
  refine .condP rfl (fun h3 => ?_) (fun h3 => ?_)
  · refine .skip ?_
    refine .seq ?_
    refine .block ?_
    refine .seq ?_
    obtain ⟨y, hy⟩ : ∃ y, l[i]? = some y := ⟨_, List.getElem?_eq_getElem (by omega)⟩
    have hrl := hr.2.2 i (by omega)
    rw [getD_at hy] at hrl
    refine .tell (φ := ∃ b o, a = some ⟨b, o, none⟩) (Knows.pick .head (k.mono fun _ h => RowAt.addr h (by rw [flat_length icell_len]; omega))) (fun hh => ?_)
    obtain ⟨b, o, rfl⟩ := hh
    refine .region ?_
    refine .rd (.indexAddr Tryd.underlying28 ts3 rfl rfl (by omega) (by omega)) ?_
    refine .rd (.load na3 rfl (Knows.one (i := 0) (Knows.elem (f := icell) icell_len (by decide) (Knows.pick .head k) hy) rfl)) ?_
    refine .rd (.assign rfl) ?_
    refine .nil ?_
    refine .seq ?_
    refine .seq ?_
    refine .region ?_
    refine .rd (.move rfl) ?_
    refine .rd (.move rfl) ?_
    refine .rd (.le rfl rfl) ?_
    refine .alter (t := 21) (v' := .bool false) rfl (congrArg Value.bool (decide_eq_false (by omega))) ?_
    refine .rd (.move rfl) ?_
    refine .on (t := 22) rfl rfl ?_
    refine .rd (.move rfl) ?_
    refine .on (t := 22) rfl rfl ?_
    refine .rd (.gt rfl rfl) ?_
    refine .alter (t := 24) (v' := .bool false) rfl (congrArg Value.bool (decide_eq_false (by omega))) ?_
    refine .rd (.pickF rfl rfl) ?_
    refine .nil ?_
    refine .condF rfl ?_
    refine .skip ?_
    refine .region ?_
    refine .rd (.move rfl) ?_
    refine .rd (.assign rfl) ?_
    refine .nil ?_
    refine .inBlock ?_
    refine .region ?_
    refine .rd (.add rfl rfl (by omega) (by omega)) ?_
    refine .rd (.move rfl) ?_
    refine .nil ?_
    exact (ih (i + 1) (by omega) (by omega)).to (.cons rfl (.cons rfl (.cons rfl (.cons rfl (.cons (by rw [lastOf_next hy]; rfl) (.cons rfl (.cons rfl (.cons rfl .nil)))))))) (.cons .head .nil)
  · obtain rfl : i = l.length := by omega
    have hlast : 0 < lastOf l l.length := by
      have := (hr.2.2 (l.length - 1) (by have := hr.2.1; omega)).2.2
      unfold lastOf; rw [if_neg (by have := hr.2.1; omega)]; exact this
    refine .exit rfl ?_
    refine .seq ?_
    refine .seq ?_
    refine .region ?_
    refine .rd (.move rfl) ?_
    refine .rd (.eqI rfl rfl) ?_
    refine .alter (t := 29) (v' := .bool false) rfl (congrArg Value.bool (decide_eq_false (by omega))) ?_
    refine .rd (.move rfl) ?_
    refine .on (t := 30) rfl rfl ?_
    refine .rd (.move rfl) ?_
    refine .on (t := 30) rfl rfl ?_
    refine .rd (.lt rfl rfl) ?_
    refine .alter (t := 32) (v' := .bool false) rfl (congrArg Value.bool (decide_eq_false (by omega))) ?_
    refine .rd (.pickF rfl rfl) ?_
    refine .rd (.move rfl) ?_
    refine .on (t := 34) rfl rfl ?_
    refine .rd (.move rfl) ?_
    refine .on (t := 34) rfl rfl ?_
    refine .rd (.gt rfl rfl) ?_
    refine .alter (t := 36) (v' := .bool false) rfl (congrArg Value.bool (decide_eq_false (by omega))) ?_
    refine .rd (.pickF rfl rfl) ?_
    refine .rd (.move rfl) ?_
    refine .on (t := 38) rfl rfl ?_
    refine .rd (.move rfl) ?_
    refine .on (t := 38) rfl rfl ?_
    refine .rd (.lt rfl rfl) ?_
    refine .alter (t := 40) (v' := .bool false) rfl (congrArg Value.bool (decide_eq_false (by omega))) ?_
    refine .rd (.pickF rfl rfl) ?_
    refine .rd (.move rfl) ?_
    refine .on (t := 42) rfl rfl ?_
    refine .rd (.move rfl) ?_
    refine .on (t := 42) rfl rfl ?_
    refine .rd (.gt rfl rfl) ?_
    refine .alter (t := 44) (v' := .bool false) rfl (congrArg Value.bool (decide_eq_false (by omega))) ?_
    refine .rd (.pickF rfl rfl) ?_
    refine .rd (.move rfl) ?_
    refine .on (t := 46) rfl rfl ?_
    refine .rd (.move rfl) ?_
    refine .on (t := 46) rfl rfl ?_
    refine .rd (.lt rfl rfl) ?_
    refine .alter (t := 48) (v' := .bool false) rfl (congrArg Value.bool (decide_eq_false (by omega))) ?_
    refine .rd (.pickF rfl rfl) ?_
    refine .rd (.move rfl) ?_
    refine .on (t := 50) rfl rfl ?_
    refine .rd (.move rfl) ?_
    refine .on (t := 50) rfl rfl ?_
    refine .rd (.gt rfl rfl) ?_
    refine .alter (t := 52) (v' := .bool false) rfl (congrArg Value.bool (decide_eq_false (by omega))) ?_
    refine .rd (.pickF rfl rfl) ?_
    refine .nil ?_
    refine .condF rfl ?_
    refine .skip ?_
    refine .seq ?_
    refine .region ?_
    refine .rd (.move rfl) ?_
    refine .rd (.move rfl) ?_
    refine .rd (.move rfl) ?_
    refine .rd (.move rfl) ?_
    refine .fn rfl rfl .nil (Knows.pick .head k) (cloneI_ok a c l (by have := hr.1; omega)) (fun v G1 hq => ?_)
    obtain ⟨a', c', rfl, rfl⟩ := hq
    simp only [List.cons_append, List.nil_append]
    refine .ef (.makeMap (enc := Value.int .i64) (venc := Value.int .i64)) ?_
    rintro _ _ ⟨ab, rfl, rfl⟩
    refine .rd (.build rfl (bld60_0_1_2_3_4 _ _ _ _ _ _ _)) ?_
    refine .ef (.box (l := CS19.cells (new19 id wait tries l) (⟨a', c', ab, none, 0, 0, none, 0⟩ : PX19) none 0 0) rfl rfl (ones.of rfl)) ?_
    rintro _ _ ⟨pb, rfl, rfl⟩
    refine .rd (.assign rfl) ?_
    refine .rd (.assign rfl) ?_
    refine .nil ?_
    refine .settle (.tail (.tail .head)) (Settles.arr.mono fun w h => (show KN (new19 id wait tries l) (⟨a', c', ab, none, 0, 0, none, 0⟩ : PX19) w from h)) ?_
    refine .nilArr 31 12 none ?_
    refine .cast (X' := EL (new19 id wait tries l) (⟨a', c', ab, none, 0, 0, none, 0⟩ : PX19)) (rfl) ?_
    refine .nilArr 63 1 none ?_
    refine .cast (X' := arr 63 1 none 0 (ptrs [])) (rfl) ?_
    refine .perm (.cons (.tail (.tail (.tail (.tail .head)))) (.cons .head (.cons .head (.cons .head (.cons .head (.cons .head .nil)))))) ?_
    refine .cast (X' := IM ab (CS19.aims (new19 id wait tries l))) (rfl) ?_
    refine .close (X := bag CB []) (B := []) .nil (fun _ _ => trivial) ?_
    refine .close (X := PR pb (new19 id wait tries l)) (.cons (.tail (.tail (.tail (.tail (.tail .head))))) (.cons .head (.cons .head (.cons .head (.cons .head (.cons .head .nil)))))) (fun _ H => ⟨((⟨a', c', ab, none, 0, 0, none, 0⟩ : PX19), []), ⟨rfl, rfl⟩, H⟩) ?_
    refine .retP Tryd.func7 (.cons (.tmp rfl) (.cons (.tmp rfl) .nil)) (.cons .head (.cons .head .nil)) ?_
    exact ⟨[_], ⟨pb, rfl, rfl⟩, rfl⟩

set_option maxRecDepth 20000 in
theorem number_ok (n most : Int) : Cn Tryd.prog 16 [.int .i64 n, .int .i64 most] (fun _ => True) [] fun v G => v = .bool (number19 n most) ∧ G = [] := by
  refine .enter Tryd.func16 rfl (by kernel_rfl) rfl fun R k => ?_
  refine .seq ?_
  refine .region ?_
  refine .rd (.assign rfl) ?_
  refine .nil ?_
  refine .seq ?_
  refine .region ?_
  refine RunO.join 7 11 (number19 n most) ?_ ?_
  · refine .rd (.move rfl) ?_
    refine .rd (.ge rfl rfl) ?_
    refine .rd (.move rfl) ?_
    refine .split (t := 7) rfl (fun g1 => ?_) (fun g1 => ?_)
    · replace g1 := of_decide_eq_true g1
      refine .on (t := 7) rfl rfl ?_
      refine .rd (.move rfl) ?_
      refine .on (t := 7) rfl rfl ?_
      refine .rd (.move rfl) ?_
      refine .on (t := 7) rfl rfl ?_
      refine .rd (.le rfl rfl) ?_
      refine .rd (.pickT rfl rfl) ?_
      refine .nil ⟨rfl, ?_, by repeat (first | exact Le.refl _ | refine Le.skip rfl ?_)⟩
      exact congrArg (fun x => some (Value.bool x)) (Eq.symm (show number19 n most = _ by unfold number19; simp [g1]))
    · replace g1 := of_decide_eq_false g1
      refine .off (t := 7) rfl rfl rfl ?_
      refine .off (t := 7) rfl rfl rfl ?_
      refine .off (t := 7) rfl rfl rfl ?_
      refine .rd (.pickF rfl rfl) ?_
      refine .nil ⟨rfl, ?_, by repeat (first | exact Le.refl _ | refine Le.skip rfl ?_)⟩
      exact congrArg (fun x => some (Value.bool x)) (Eq.symm (show number19 n most = _ by unfold number19; simp [g1]))
  refine .rd (.assign rfl) ?_
  refine .nil ?_
  refine .retP Tryd.func16 (.cons (.tmp rfl) .nil) (.cons .head .nil) ?_
  exact ⟨[], ⟨rfl, rfl⟩, rfl⟩

end Go.Proofs.YtankogdnhgmkhaaDoor


namespace Go.Proofs.YtankogdnhgmkhaaDoor
open Go Go.Sp

set_option linter.unusedVariables false

namespace con15
theorem fd31_2 : FD Tryd.prog 31 2 2 := .of Tryd.underlying31 (by kernel_rfl)
theorem na3 : NotAgg Tryd.prog 3 := ⟨_, Tryd.underlying3, trivial⟩
theorem fd31_8 : FD Tryd.prog 31 8 8 := .of Tryd.underlying31 (by kernel_rfl)
theorem na9 : NotAgg Tryd.prog 9 := ⟨_, Tryd.underlying9, trivial⟩
theorem fd31_3 : FD Tryd.prog 31 3 3 := .of Tryd.underlying31 (by kernel_rfl)
theorem fd31_4 : FD Tryd.prog 31 4 4 := .of Tryd.underlying31 (by kernel_rfl)
theorem fd31_5 : FD Tryd.prog 31 5 5 := .of Tryd.underlying31 (by kernel_rfl)
theorem fd31_7 : FD Tryd.prog 31 7 7 := .of Tryd.underlying31 (by kernel_rfl)
theorem fd60_5 : FD Tryd.prog 60 5 5 := .of Tryd.underlying60 (by kernel_rfl)
theorem na58 : NotAgg Tryd.prog 58 := ⟨_, Tryd.underlying58, trivial⟩
theorem fd60_6 : FD Tryd.prog 60 6 6 := .of Tryd.underlying60 (by kernel_rfl)
theorem ts3 : TS Tryd.prog 3 1 := .of (by kernel_rfl)
theorem bld31_2_3_4_5_7_8 (x0 : Int) (x1 : Int) (x2 : Int) (x3 : Int) (x4 : Int) (x5 : ByteArray) (w : World) : (Instr.build 31 (([2, 3, 4, 5, 7, 8] : List Nat).zip [.int .i64 x0, .int .i64 x1, .int .i64 x2, .int .i64 x3, .int .i64 x4, .string x5]).toArray).run Tryd.prog w = .ok (.agg #[.int .i64 0, .int .i64 0, .int .i64 x0, .int .i64 x1, .int .i64 x2, .int .i64 x3, .int .i64 0, .int .i64 x4, .string x5, .string ⟨#[]⟩, .int .i64 0, .bool false]) w := by kernel_rfl
theorem fd60_2 : FD Tryd.prog 60 2 2 := .of Tryd.underlying60 (by kernel_rfl)
theorem bld65_0_1_7 (x0 : Int) (x1_0 : Int) (x1_1 : Int) (x1_2 : Int) (x1_3 : Int) (x1_4 : Int) (x1_5 : Int) (x1_6 : Int) (x1_7 : Int) (x1_8 : ByteArray) (x1_9 : ByteArray) (x1_10 : Int) (x1_11 : Bool) (x2 : Int) (w : World) : (Instr.build 65 (([0, 1, 7] : List Nat).zip [.int .i64 x0, .agg #[.int .i64 x1_0, .int .i64 x1_1, .int .i64 x1_2, .int .i64 x1_3, .int .i64 x1_4, .int .i64 x1_5, .int .i64 x1_6, .int .i64 x1_7, .string x1_8, .string x1_9, .int .i64 x1_10, .bool x1_11], .int .i64 x2]).toArray).run Tryd.prog w = .ok (.agg #[.int .i64 x0, .int .i64 x1_0, .int .i64 x1_1, .int .i64 x1_2, .int .i64 x1_3, .int .i64 x1_4, .int .i64 x1_5, .int .i64 x1_6, .int .i64 x1_7, .string x1_8, .string x1_9, .int .i64 x1_10, .bool x1_11, .int .i64 0, .int .i64 0, .int .i64 0, .int .i64 0, .int .i64 0, .int .i64 0, .int .i64 0, .int .i64 0, .int .i64 0, .int .i64 0, .int .i64 0, .int .i64 0, .int .i64 0, .int .i64 0, .int .i64 0, .int .i64 0, .string ⟨#[]⟩, .string ⟨#[]⟩, .slice none 0 0, .slice none 0 0, .slice none 0 0, .int .i64 0, .bool false, .int .i64 0, .int .i64 0, .int .i64 x2, .int .i64 0]) w := by kernel_rfl
theorem ia31 : IsAgg Tryd.prog 31 := ⟨_, Tryd.underlying31, trivial⟩
theorem ts31 : TS Tryd.prog 31 12 := .of (by kernel_rfl)
theorem fd65_2 : FD Tryd.prog 65 2 13 := .of Tryd.underlying65 (by kernel_rfl)
theorem ts35 : TS Tryd.prog 35 21 := .of (by kernel_rfl)
theorem fd65_3 : FD Tryd.prog 65 3 34 := .of Tryd.underlying65 (by kernel_rfl)
theorem ti63 : TI Tryd.prog 63 1 8 (.pointer none) := .of (by kernel_rfl)
theorem ts58 : TS Tryd.prog 58 1 := .of (by kernel_rfl)
theorem fd65_0 : FD Tryd.prog 65 0 0 := .of Tryd.underlying65 (by kernel_rfl)
theorem ti3 : TI Tryd.prog 3 1 8 (.int .i64 0) := .of (by kernel_rfl)
theorem fd35_20 : FD Tryd.prog 35 20 20 := .of Tryd.underlying35 (by kernel_rfl)
theorem ts28 : TS Tryd.prog 28 1 := .of (by kernel_rfl)
theorem fd31_9 : FD Tryd.prog 31 9 9 := .of Tryd.underlying31 (by kernel_rfl)
end con15
open con15

theorem asks4 {q : Sn19} (h : q.kind = 4) (z : Sl19) : asksM q z = ⟨23, 0, 0, 0, 0, q.offset, q.part, 3, q.pid, q.seq, q.name, z⟩ := by unfold asksM; simp [h]
theorem ptrs_snoc (cl : List CallX) (y : CallX) : ptrs (cl ++ [y]) = ptrs cl ++ pcell y.a := by simp [ptrs]
theorem ptrs_len (cl : List CallX) : (ptrs cl).length = cl.length := by unfold ptrs; rw [flat_length pcell_len, List.length_map, Nat.mul_one]

set_option maxHeartbeats 4000000 in
set_option maxRecDepth 20000 in
theorem call_ok (pb : Nat) (now : Int) (s : CS19) (q : Sn19) (φ : World → Prop) (hB : PB s) (hcn : s.calls < 1000000) (hnow : 0 ≤ now ∧ now ≤ 1000000000000) (hL : q.kind = 8 → Cn Tryd.prog 17 [.string (str q.text)] φ [] fun v G => ∃ a n c b, v = .tuple #[.slice a n c, .bool b] ∧ G = []) : Cn Tryd.prog 9 [.pointer (some ⟨pb, 0, none⟩), .int .i64 now, .agg q.cells.toArray] φ [PR pb s] fun v G =>
  ((may19 q = true → q.kind = 8) ∧ v = .tuple #[.int .i64 0, .slice none 0 0, .int .i64 1] ∧ G = [PR pb s]) ∨ (20 ≤ s.open_.length ∧ v = .tuple #[.int .i64 0, .slice none 0 0, .int .i64 3] ∧ G = [PR pb s]) ∨
  (∃ z oa oc, may19 q = true ∧ s.open_.length < 20 ∧ (q.kind = 4 → z.2.1 = 1) ∧ v = .tuple #[.int .i64 (s.calls + 1), .slice oa 1 oc, .int .i64 0] ∧ G = [PR pb (callS s now q z), Said oa oc [(askC s now (newC s q z)).m]]) := by
  refine .enter Tryd.func9 rfl (by kernel_rfl) rfl fun R k => ?_
  refine .open_ (σ := PX19 × List CallX) (φ := fun y => y.2.map (·.c) = s.open_ ∧ y.1.un = s.open_.length) (B := fun y => PL pb s y.1 y.2 none 0 0) .head (fun _ h => h) (fun y hW => ?_)
  obtain ⟨x, cl⟩ := y
  dsimp only at hW ⊢
  unfold PL
  simp only [List.cons_append, List.nil_append]
  obtain ⟨hWc, hWn⟩ := hW
  have hcl : cl.length = s.open_.length := by rw [← hWc, List.length_map]
  have hop := hB.opn
  obtain ⟨hc1, hc2⟩ := hB.calls
  refine .seq ?_
  refine .region ?_
  refine .ef (.box (l := q.cells) rfl rfl q.cells_ones) ?_
  rintro _ _ ⟨b5, rfl, rfl⟩
  refine .rd (.assign rfl) ?_
  refine .rd (.assign rfl) ?_
  refine .rd (.assign rfl) ?_
  refine .nil ?_
  refine .seq ?_
  refine .region ?_
  refine .rd (.assign rfl) ?_
  refine .nil ?_
  refine .seq ?_
  refine .seq ?_
  refine .region ?_
  refine RunO.join 42 55 (!may19 q) ?_ ?_
  · refine .rd (.fieldAddr fd31_2 rfl) ?_
    refine .rd (.ld na3 rfl .head rfl) ?_
    refine .rd (.lt rfl rfl) ?_
    refine .rd (.move rfl) ?_
    refine .split (t := 17) rfl (fun g2_3 => ?_) (fun g2_3 => ?_)
    · replace g2_3 := of_decide_eq_true g2_3
      refine .off (t := 17) rfl rfl rfl ?_
      refine .off (t := 17) rfl rfl rfl ?_
      refine .off (t := 17) rfl rfl rfl ?_
      refine .rd (.pickT rfl rfl) ?_
      refine .rd (.move rfl) ?_
      refine .off (t := 22) rfl rfl rfl ?_
      refine .off (t := 22) rfl rfl rfl ?_
      refine .off (t := 22) rfl rfl rfl ?_
      refine .off (t := 22) rfl rfl rfl ?_
      refine .rd (.pickT rfl rfl) ?_
      refine .rd (.move rfl) ?_
      refine .off (t := 28) rfl rfl rfl ?_
      refine .off (t := 28) rfl rfl rfl ?_
      refine .off (t := 28) rfl rfl rfl ?_
      refine .off (t := 28) rfl rfl rfl ?_
      refine .off (t := 28) rfl rfl rfl ?_
      refine .rd (.pickT rfl rfl) ?_
      refine .rd (.move rfl) ?_
      refine .off (t := 35) rfl rfl rfl ?_
      refine .off (t := 35) rfl rfl rfl ?_
      refine .off (t := 35) rfl rfl rfl ?_
      refine .off (t := 35) rfl rfl rfl ?_
      refine .off (t := 35) rfl rfl rfl ?_
      refine .rd (.pickT rfl rfl) ?_
      refine .rd (.move rfl) ?_
      refine .off (t := 42) rfl rfl rfl ?_
      refine .off (t := 42) rfl rfl rfl ?_
      refine .off (t := 42) rfl rfl rfl ?_
      refine .off (t := 42) rfl rfl rfl ?_
      refine .off (t := 42) rfl rfl rfl ?_
      refine .rd (.pickT rfl rfl) ?_
      refine .rd (.move rfl) ?_
      refine .off (t := 49) rfl rfl rfl ?_
      refine .off (t := 49) rfl rfl rfl ?_
      refine .off (t := 49) rfl rfl rfl ?_
      refine .off (t := 49) rfl rfl rfl ?_
      refine .off (t := 49) rfl rfl rfl ?_
      refine .rd (.pickT rfl rfl) ?_
      refine .nil ⟨rfl, ?_, by repeat (first | exact Le.refl _ | refine Le.skip rfl ?_)⟩
      exact congrArg (fun x => some (Value.bool x)) (Eq.symm (show (!may19 q) = _ by (unfold may19; rw [show (decide (1 ≤ q.kind)) = false from decide_eq_false (by omega)]; try rfl)))
    · replace g2_3 := of_decide_eq_false g2_3
      refine .on (t := 17) rfl rfl ?_
      refine .rd (.fieldAddr fd31_2 rfl) ?_
      refine .on (t := 17) rfl rfl ?_
      refine .rd (.ld na3 rfl .head rfl) ?_
      refine .on (t := 17) rfl rfl ?_
      refine .rd (.gt rfl rfl) ?_
      refine .rd (.pickF rfl rfl) ?_
      refine .rd (.move rfl) ?_
      refine .split (t := 22) rfl (fun g2_8 => ?_) (fun g2_8 => ?_)
      · replace g2_8 := of_decide_eq_true g2_8
        refine .off (t := 22) rfl rfl rfl ?_
        refine .off (t := 22) rfl rfl rfl ?_
        refine .off (t := 22) rfl rfl rfl ?_
        refine .off (t := 22) rfl rfl rfl ?_
        refine .rd (.pickT rfl rfl) ?_
        refine .rd (.move rfl) ?_
        refine .off (t := 28) rfl rfl rfl ?_
        refine .off (t := 28) rfl rfl rfl ?_
        refine .off (t := 28) rfl rfl rfl ?_
        refine .off (t := 28) rfl rfl rfl ?_
        refine .off (t := 28) rfl rfl rfl ?_
        refine .rd (.pickT rfl rfl) ?_
        refine .rd (.move rfl) ?_
        refine .off (t := 35) rfl rfl rfl ?_
        refine .off (t := 35) rfl rfl rfl ?_
        refine .off (t := 35) rfl rfl rfl ?_
        refine .off (t := 35) rfl rfl rfl ?_
        refine .off (t := 35) rfl rfl rfl ?_
        refine .rd (.pickT rfl rfl) ?_
        refine .rd (.move rfl) ?_
        refine .off (t := 42) rfl rfl rfl ?_
        refine .off (t := 42) rfl rfl rfl ?_
        refine .off (t := 42) rfl rfl rfl ?_
        refine .off (t := 42) rfl rfl rfl ?_
        refine .off (t := 42) rfl rfl rfl ?_
        refine .rd (.pickT rfl rfl) ?_
        refine .rd (.move rfl) ?_
        refine .off (t := 49) rfl rfl rfl ?_
        refine .off (t := 49) rfl rfl rfl ?_
        refine .off (t := 49) rfl rfl rfl ?_
        refine .off (t := 49) rfl rfl rfl ?_
        refine .off (t := 49) rfl rfl rfl ?_
        refine .rd (.pickT rfl rfl) ?_
        refine .nil ⟨rfl, ?_, by repeat (first | exact Le.refl _ | refine Le.skip rfl ?_)⟩
        exact congrArg (fun x => some (Value.bool x)) (Eq.symm (show (!may19 q) = _ by (unfold may19; rw [show (decide (1 ≤ q.kind)) = true from decide_eq_true (by omega), show (decide (q.kind ≤ 9)) = false from decide_eq_false (by omega)]; try rfl)))
      · replace g2_8 := of_decide_eq_false g2_8
        refine .on (t := 22) rfl rfl ?_
        refine .rd (.fieldAddr fd31_8 rfl) ?_
        refine .on (t := 22) rfl rfl ?_
        refine .rd (.ld na9 rfl .head rfl) ?_
        refine .on (t := 22) rfl rfl ?_
        refine .rd (.lenT rfl rfl Tryd.underlying9 rfl) ?_
        refine .on (t := 22) rfl rfl ?_
        refine .rd (.gt rfl rfl) ?_
        refine .rd (.pickF rfl rfl) ?_
        refine .rd (.move rfl) ?_
        refine .split (t := 28) rfl (fun g2_14 => ?_) (fun g2_14 => ?_)
        · replace g2_14 := of_decide_eq_true g2_14
          refine .off (t := 28) rfl rfl rfl ?_
          refine .off (t := 28) rfl rfl rfl ?_
          refine .off (t := 28) rfl rfl rfl ?_
          refine .off (t := 28) rfl rfl rfl ?_
          refine .off (t := 28) rfl rfl rfl ?_
          refine .rd (.pickT rfl rfl) ?_
          refine .rd (.move rfl) ?_
          refine .off (t := 35) rfl rfl rfl ?_
          refine .off (t := 35) rfl rfl rfl ?_
          refine .off (t := 35) rfl rfl rfl ?_
          refine .off (t := 35) rfl rfl rfl ?_
          refine .off (t := 35) rfl rfl rfl ?_
          refine .rd (.pickT rfl rfl) ?_
          refine .rd (.move rfl) ?_
          refine .off (t := 42) rfl rfl rfl ?_
          refine .off (t := 42) rfl rfl rfl ?_
          refine .off (t := 42) rfl rfl rfl ?_
          refine .off (t := 42) rfl rfl rfl ?_
          refine .off (t := 42) rfl rfl rfl ?_
          refine .rd (.pickT rfl rfl) ?_
          refine .rd (.move rfl) ?_
          refine .off (t := 49) rfl rfl rfl ?_
          refine .off (t := 49) rfl rfl rfl ?_
          refine .off (t := 49) rfl rfl rfl ?_
          refine .off (t := 49) rfl rfl rfl ?_
          refine .off (t := 49) rfl rfl rfl ?_
          refine .rd (.pickT rfl rfl) ?_
          refine .nil ⟨rfl, ?_, by repeat (first | exact Le.refl _ | refine Le.skip rfl ?_)⟩
          exact congrArg (fun x => some (Value.bool x)) (Eq.symm (show (!may19 q) = _ by (unfold may19; rw [show (decide (1 ≤ q.kind)) = true from decide_eq_true (by omega), show (decide (q.kind ≤ 9)) = true from decide_eq_true (by omega), show (decide (q.name.length ≤ 32)) = false from decide_eq_false (by omega)]; try rfl)))
        · replace g2_14 := of_decide_eq_false g2_14
          refine .on (t := 28) rfl rfl ?_
          refine .rd (.move rfl) ?_
          refine .on (t := 28) rfl rfl ?_
          refine .rd (.fieldAddr fd31_3 rfl) ?_
          refine .on (t := 28) rfl rfl ?_
          refine .rd (.ld na3 rfl .head rfl) ?_
          refine .on (t := 28) rfl rfl ?_
          refine .fn rfl rfl .nil (fun _ _ _ => trivial) (number_ok q.part 16) (fun v G1 hq => ?_)
          obtain ⟨rfl, rfl⟩ := hq
          simp only [List.nil_append]
          refine .on (t := 28) rfl rfl ?_
          refine .rd (.not rfl) ?_
          refine .rd (.pickF rfl rfl) ?_
          refine .rd (.move rfl) ?_
          refine .split (t := 35) rfl (fun g2_21 => ?_) (fun g2_21 => ?_)
          · refine .off (t := 35) rfl rfl rfl ?_
            refine .off (t := 35) rfl rfl rfl ?_
            refine .off (t := 35) rfl rfl rfl ?_
            refine .off (t := 35) rfl rfl rfl ?_
            refine .off (t := 35) rfl rfl rfl ?_
            refine .rd (.pickT rfl rfl) ?_
            refine .rd (.move rfl) ?_
            refine .off (t := 42) rfl rfl rfl ?_
            refine .off (t := 42) rfl rfl rfl ?_
            refine .off (t := 42) rfl rfl rfl ?_
            refine .off (t := 42) rfl rfl rfl ?_
            refine .off (t := 42) rfl rfl rfl ?_
            refine .rd (.pickT rfl rfl) ?_
            refine .rd (.move rfl) ?_
            refine .off (t := 49) rfl rfl rfl ?_
            refine .off (t := 49) rfl rfl rfl ?_
            refine .off (t := 49) rfl rfl rfl ?_
            refine .off (t := 49) rfl rfl rfl ?_
            refine .off (t := 49) rfl rfl rfl ?_
            refine .rd (.pickT rfl rfl) ?_
            refine .nil ⟨rfl, ?_, by repeat (first | exact Le.refl _ | refine Le.skip rfl ?_)⟩
            exact congrArg (fun x => some (Value.bool x)) (Eq.symm (show (!may19 q) = _ by (unfold may19; rw [show (decide (1 ≤ q.kind)) = true from decide_eq_true (by omega), show (decide (q.kind ≤ 9)) = true from decide_eq_true (by omega), show (decide (q.name.length ≤ 32)) = true from decide_eq_true (by omega), show (number19 q.part 16) = false from by simpa using g2_21]; try rfl)))
          · refine .on (t := 35) rfl rfl ?_
            refine .rd (.move rfl) ?_
            refine .on (t := 35) rfl rfl ?_
            refine .rd (.fieldAddr fd31_4 rfl) ?_
            refine .on (t := 35) rfl rfl ?_
            refine .rd (.ld na3 rfl .head rfl) ?_
            refine .on (t := 35) rfl rfl ?_
            refine .fn rfl rfl .nil (fun _ _ _ => trivial) (number_ok q.offset 1000000000) (fun v G1 hq => ?_)
            obtain ⟨rfl, rfl⟩ := hq
            simp only [List.nil_append]
            refine .on (t := 35) rfl rfl ?_
            refine .rd (.not rfl) ?_
            refine .rd (.pickF rfl rfl) ?_
            refine .rd (.move rfl) ?_
            refine .split (t := 42) rfl (fun g2_28 => ?_) (fun g2_28 => ?_)
            · refine .off (t := 42) rfl rfl rfl ?_
              refine .off (t := 42) rfl rfl rfl ?_
              refine .off (t := 42) rfl rfl rfl ?_
              refine .off (t := 42) rfl rfl rfl ?_
              refine .off (t := 42) rfl rfl rfl ?_
              refine .rd (.pickT rfl rfl) ?_
              refine .rd (.move rfl) ?_
              refine .off (t := 49) rfl rfl rfl ?_
              refine .off (t := 49) rfl rfl rfl ?_
              refine .off (t := 49) rfl rfl rfl ?_
              refine .off (t := 49) rfl rfl rfl ?_
              refine .off (t := 49) rfl rfl rfl ?_
              refine .rd (.pickT rfl rfl) ?_
              refine .nil ⟨rfl, ?_, by repeat (first | exact Le.refl _ | refine Le.skip rfl ?_)⟩
              exact congrArg (fun x => some (Value.bool x)) (Eq.symm (show (!may19 q) = _ by (unfold may19; rw [show (decide (1 ≤ q.kind)) = true from decide_eq_true (by omega), show (decide (q.kind ≤ 9)) = true from decide_eq_true (by omega), show (decide (q.name.length ≤ 32)) = true from decide_eq_true (by omega), show (number19 q.part 16) = true from by simpa using g2_21, show (number19 q.offset 1000000000) = false from by simpa using g2_28]; try rfl)))
            · refine .on (t := 42) rfl rfl ?_
              refine .rd (.move rfl) ?_
              refine .on (t := 42) rfl rfl ?_
              refine .rd (.fieldAddr fd31_5 rfl) ?_
              refine .on (t := 42) rfl rfl ?_
              refine .rd (.ld na3 rfl .head rfl) ?_
              refine .on (t := 42) rfl rfl ?_
              refine .fn rfl rfl .nil (fun _ _ _ => trivial) (number_ok q.pid 1000000000) (fun v G1 hq => ?_)
              obtain ⟨rfl, rfl⟩ := hq
              simp only [List.nil_append]
              refine .on (t := 42) rfl rfl ?_
              refine .rd (.not rfl) ?_
              refine .rd (.pickF rfl rfl) ?_
              refine .rd (.move rfl) ?_
              refine .split (t := 49) rfl (fun g2_35 => ?_) (fun g2_35 => ?_)
              · refine .off (t := 49) rfl rfl rfl ?_
                refine .off (t := 49) rfl rfl rfl ?_
                refine .off (t := 49) rfl rfl rfl ?_
                refine .off (t := 49) rfl rfl rfl ?_
                refine .off (t := 49) rfl rfl rfl ?_
                refine .rd (.pickT rfl rfl) ?_
                refine .nil ⟨rfl, ?_, by repeat (first | exact Le.refl _ | refine Le.skip rfl ?_)⟩
                exact congrArg (fun x => some (Value.bool x)) (Eq.symm (show (!may19 q) = _ by (unfold may19; rw [show (decide (1 ≤ q.kind)) = true from decide_eq_true (by omega), show (decide (q.kind ≤ 9)) = true from decide_eq_true (by omega), show (decide (q.name.length ≤ 32)) = true from decide_eq_true (by omega), show (number19 q.part 16) = true from by simpa using g2_21, show (number19 q.offset 1000000000) = true from by simpa using g2_28, show (number19 q.pid 1000000000) = false from by simpa using g2_35]; try rfl)))
              · refine .on (t := 49) rfl rfl ?_
                refine .rd (.move rfl) ?_
                refine .on (t := 49) rfl rfl ?_
                refine .rd (.fieldAddr fd31_7 rfl) ?_
                refine .on (t := 49) rfl rfl ?_
                refine .rd (.ld na3 rfl .head rfl) ?_
                refine .on (t := 49) rfl rfl ?_
                refine .fn rfl rfl .nil (fun _ _ _ => trivial) (number_ok q.seq 1000000000) (fun v G1 hq => ?_)
                obtain ⟨rfl, rfl⟩ := hq
                simp only [List.nil_append]
                refine .on (t := 49) rfl rfl ?_
                refine .rd (.not rfl) ?_
                refine .rd (.pickF rfl rfl) ?_
                refine .nil ⟨rfl, ?_, by repeat (first | exact Le.refl _ | refine Le.skip rfl ?_)⟩
                exact congrArg (fun x => some (Value.bool x)) (Eq.symm (show (!may19 q) = _ by (unfold may19; rw [show (decide (1 ≤ q.kind)) = true from decide_eq_true (by omega), show (decide (q.kind ≤ 9)) = true from decide_eq_true (by omega), show (decide (q.name.length ≤ 32)) = true from decide_eq_true (by omega), show (number19 q.part 16) = true from by simpa using g2_21, show (number19 q.offset 1000000000) = true from by simpa using g2_28, show (number19 q.pid 1000000000) = true from by simpa using g2_35]; try rfl)))
  refine .nil ?_
  refine .cond rfl (fun h2 => ?_) (fun h2 => ?_)
  · refine .seq ?_
    refine .region ?_
    refine .rd (.assign rfl) ?_
    refine .rd (.assign rfl) ?_
    refine .rd (.assign rfl) ?_
    refine .nil ?_
    refine .close (X := PR pb s) (.cons (.tail .head) (.cons (.tail .head) (.cons (.tail .head) (.cons (.tail .head) (.cons (.tail .head) (.cons (.tail .head) .nil)))))) (fun _ H => ⟨(x, cl), ⟨hWc, hWn⟩, H⟩) ?_
    refine .retP Tryd.func9 (.cons (.tmp rfl) (.cons (.tmp rfl) (.cons (.tmp rfl) .nil))) (.cons .head (.cons (.tail .head) .nil)) ?_
    exact ⟨[_], .inl ⟨fun h => (by rw [h] at h2; cases h2), rfl, rfl⟩, rfl⟩
  · have hmay : may19 q = true := by simpa using h2
    have hm' := hmay
    simp only [may19, number19, Bool.and_eq_true, decide_eq_true_eq] at hm'
    refine .skip ?_
    refine .seq ?_
    refine .region ?_
    refine .rd (.assign rfl) ?_
    refine .nil ?_
    refine .seq ?_
    refine .seq ?_
    refine .region ?_
    refine .rd (.fieldAddr fd31_2 rfl) ?_
    refine .rd (.ld na3 rfl .head rfl) ?_
    refine .rd (.eqI rfl rfl) ?_
    refine .nil ?_
    refine .joinEx (σ := Sl19) (φ := fun z0 => True) (E' := fun z0 => [(0, .pointer (some ⟨pb, 0, none⟩)), (1, .int .i64 now), (5, .pointer (some ⟨b5, 0, none⟩)), (10, .slice z0.1 z0.2.1 z0.2.2)]) (Γ' := fun z0 => [blk b5 q.cells 31, blk pb (CS19.cells s x none 0 0) 60, bag CB cl, IM x.ab s.aims, arr 63 1 x.ua x.uc (ptrs cl), EL s x, know (KN s x), R]) (fun sj hj => ?_) (fun fin => ?_)
    · obtain ⟨z0, rfl⟩ : ∃ z0 : Sl19, z0 = sj := ⟨sj, rfl⟩
      refine .seq ?_
      refine .seq ?_
      refine .region ?_
      refine .rd (.move rfl) ?_
      refine .rd (.nilCheck rfl) ?_
      refine .rd (.fieldAddr fd60_5 rfl) ?_
      refine .rd (.ld na58 rfl (.tail .head) (show (CS19.cells ({ s with calls := s.calls + 1 } : CS19) x none 0 0)[5]? = some (.slice x.ua cl.length x.uc) by rw [hcl, ← hWn]; rfl)) ?_
      refine .rd (.lenL rfl rfl Tryd.underlying58 rfl) ?_
      refine .rd (.ge rfl rfl) ?_
      refine .nil ?_
      refine .condP rfl (fun h10 => ?_) (fun h10 => ?_)
      · refine .seq ?_
        refine .region ?_
        refine .rd (.assign rfl) ?_
        refine .rd (.assign rfl) ?_
        refine .rd (.assign rfl) ?_
        refine .nil ?_
        refine .close (X := PR pb s) (.cons (.tail .head) (.cons (.tail .head) (.cons (.tail .head) (.cons (.tail .head) (.cons (.tail .head) (.cons (.tail .head) .nil)))))) (fun _ H => ⟨(x, cl), ⟨hWc, hWn⟩, H⟩) ?_
        refine .retP Tryd.func9 (.cons (.tmp rfl) (.cons (.tmp rfl) (.cons (.tmp rfl) .nil))) (.cons .head (.cons (.tail .head) .nil)) ?_
        exact ⟨[_], .inr (.inl ⟨by omega, rfl, rfl⟩), rfl⟩
      · refine .skip ?_
        refine .seq ?_
        refine .region ?_
        refine .rd (.move rfl) ?_
        refine .rd (.nilCheck rfl) ?_
        refine .rd (.fieldAddr fd60_6 rfl) ?_
        refine .rd (.ld na3 rfl (.tail .head) rfl) ?_
        refine .rd (.add rfl rfl (by show _ ≤ s.calls + 1; omega) (by show s.calls + 1 ≤ _; omega)) ?_
        refine .rd (.nilCheck rfl) ?_
        refine .rd (.fieldAddr fd60_6 rfl) ?_
        refine .ef0 (.store ts3 rfl rfl (.tail .head) rfl (Nat.le_of_ble_eq_true rfl)) ?_
        rintro _ _ rfl
        refine .nil ?_
        refine .cast (X' := blk pb (CS19.cells ({ s with calls := s.calls + 1 } : CS19) x none 0 0) 60) (rfl) ?_
        refine .seq ?_
        refine .draws [3, 5, 7, 9, 11, 13, 15, 20] [blk pb (CS19.cells ({ s with calls := s.calls + 1 } : CS19) x none 0 0) 60, blk b5 q.cells 31] (by kernel_rfl) ?_
        refine .rp 0 rfl (by kernel_rfl) (by kernel_rfl) (by kernel_rfl) (Reads.pure (.move rfl)) ?_
        refine .rp 1 rfl (by kernel_rfl) (by kernel_rfl) (by kernel_rfl) (Reads.pure (.nilCheck rfl)) ?_
        refine .rp 2 rfl (by kernel_rfl) (by kernel_rfl) (by kernel_rfl) (Reads.pure (.fieldAddr fd60_6 rfl)) ?_
        refine .rd 3 rfl rfl (by kernel_rfl) (by kernel_rfl) (by kernel_rfl) (.ld na3 rfl .head rfl) (.cons .head (.cons .head .nil)) ?_
        refine .rp 4 rfl (by kernel_rfl) (by kernel_rfl) (by kernel_rfl) (Reads.pure (.fieldAddr fd31_2 rfl)) ?_
        refine .rd 5 rfl rfl (by kernel_rfl) (by kernel_rfl) (by kernel_rfl) (.ld na3 rfl (.tail .head) rfl) (.cons .head (.cons .head .nil)) ?_
        refine .rp 6 rfl (by kernel_rfl) (by kernel_rfl) (by kernel_rfl) (Reads.pure (.fieldAddr fd31_3 rfl)) ?_
        refine .rd 7 rfl rfl (by kernel_rfl) (by kernel_rfl) (by kernel_rfl) (.ld na3 rfl (.tail .head) rfl) (.cons .head (.cons .head .nil)) ?_
        refine .rp 8 rfl (by kernel_rfl) (by kernel_rfl) (by kernel_rfl) (Reads.pure (.fieldAddr fd31_4 rfl)) ?_
        refine .rd 9 rfl rfl (by kernel_rfl) (by kernel_rfl) (by kernel_rfl) (.ld na3 rfl (.tail .head) rfl) (.cons .head (.cons .head .nil)) ?_
        refine .rp 10 rfl (by kernel_rfl) (by kernel_rfl) (by kernel_rfl) (Reads.pure (.fieldAddr fd31_5 rfl)) ?_
        refine .rd 11 rfl rfl (by kernel_rfl) (by kernel_rfl) (by kernel_rfl) (.ld na3 rfl (.tail .head) rfl) (.cons .head (.cons .head .nil)) ?_
        refine .rp 12 rfl (by kernel_rfl) (by kernel_rfl) (by kernel_rfl) (Reads.pure (.fieldAddr fd31_7 rfl)) ?_
        refine .rd 13 rfl rfl (by kernel_rfl) (by kernel_rfl) (by kernel_rfl) (.ld na3 rfl (.tail .head) rfl) (.cons .head (.cons .head .nil)) ?_
        refine .rp 14 rfl (by kernel_rfl) (by kernel_rfl) (by kernel_rfl) (Reads.pure (.fieldAddr fd31_8 rfl)) ?_
        refine .rd 15 rfl rfl (by kernel_rfl) (by kernel_rfl) (by kernel_rfl) (.ld na9 rfl (.tail .head) rfl) (.cons .head (.cons .head .nil)) ?_
        refine .rp 16 rfl (by kernel_rfl) (by kernel_rfl) (by kernel_rfl) (Reads.pure (.build rfl (bld31_2_3_4_5_7_8 _ _ _ _ _ _))) ?_
        refine .rp 17 rfl (by kernel_rfl) (by kernel_rfl) (by kernel_rfl) (Reads.pure (.move rfl)) ?_
        refine .rp 18 rfl (by kernel_rfl) (by kernel_rfl) (by kernel_rfl) (Reads.pure (.nilCheck rfl)) ?_
        refine .rp 19 rfl (by kernel_rfl) (by kernel_rfl) (by kernel_rfl) (Reads.pure (.fieldAddr fd60_2 rfl)) ?_
        refine .rd 20 rfl rfl (by kernel_rfl) (by kernel_rfl) (by kernel_rfl) (.ld na3 rfl .head rfl) (.cons .head (.cons .head .nil)) ?_
        refine .rp 21 rfl (by kernel_rfl) (by kernel_rfl) (by kernel_rfl) (Reads.pure (.build rfl (bld65_0_1_7 _ _ _ _ _ _ _ _ _ _ _ _ _ _))) ?_
        refine .ef 22 (by kernel_rfl) rfl (.box (l := Cl19.cells (⟨s.calls + 1, plain19 q, ⟨0, 0, 0, 0, 0, 0, 0, 0, 0, 0, [], (none, 0, 0)⟩, 0, false, 0, 0, s.tries, 0⟩ : Cl19)) rfl rfl (ones.of rfl)) ?_
        rintro _ _ ⟨xb, rfl, rfl⟩
        refine ⟨.inl (by kernel_rfl), ?_⟩
        refine .rp 23 rfl (by kernel_rfl) (by kernel_rfl) (by kernel_rfl) (Reads.pure (.assign rfl)) ?_
        refine .done (by kernel_rfl) ?_
        refine .seq ?_
        refine .region ?_
        refine .rd (.move rfl) ?_
        refine .rd (.move rfl) ?_
        refine .rd (.ldN ia31 ts31 rfl (.tail (.tail .head)) rfl) ?_
        refine .rd (.move rfl) ?_
        refine .fn rfl rfl .nil (fun _ _ _ => trivial) (asks_ok q z0.1 z0.2.1 z0.2.2 hmay) (fun v G1 hq => ?_)
        obtain ⟨z1, rfl, rfl⟩ := hq
        simp only [List.nil_append]
        refine .rd (.move rfl) ?_
        refine .rd (.extract rfl rfl) ?_
        refine .rd (.extract rfl rfl) ?_
        refine .rd (.nilCheck rfl) ?_
        refine .rd (.fieldAddr fd65_2 rfl) ?_
        refine .ef0 (.storeN (vs := (asksM q z1).cells) ts35 rfl rfl rfl .head (by show 0 + 13 + 21 ≤ 40; decide) (Mg19.cells_ones _)) ?_
        rintro _ _ rfl
        refine .rd (.nilCheck rfl) ?_
        refine .rd (.fieldAddr fd65_3 rfl) ?_
        refine .ef0 (.store ts3 rfl rfl .head rfl (Nat.le_of_ble_eq_true rfl)) ?_
        rintro _ _ rfl
        refine .nil ?_
        refine .cast (X' := blk xb (Cl19.cells (⟨s.calls + 1, plain19 q, asksM q z1, aimOf q, false, 0, 0, s.tries, 0⟩ : Cl19)) 65) (rfl) ?_
        refine .seq ?_
        refine .seq ?_
        refine .region ?_
        refine .rd (.fieldAddr fd31_2 rfl) ?_
        refine .rd (.ld na3 rfl (.tail (.tail .head)) rfl) ?_
        refine .rd (.eqI rfl rfl) ?_
        refine .nil ?_
        refine .joinEx (σ := Sl19) (φ := fun z => q.kind = 4 → z.2.1 = 1) (E' := fun z => [(0, .pointer (some ⟨pb, 0, none⟩)), (1, .int .i64 now), (5, .pointer (some ⟨b5, 0, none⟩)), (13, .pointer (some ⟨xb, 0, none⟩))]) (Γ' := fun z => [blk b5 q.cells 31, blk pb (CS19.cells ({ s with calls := s.calls + 1 } : CS19) x none 0 0) 60, blk xb (Cl19.cells (⟨s.calls + 1, plain19 q, asksM q z, aimOf q, false, 0, 0, s.tries, 0⟩ : Cl19)) 65, bag CB cl, IM x.ab s.aims, arr 63 1 x.ua x.uc (ptrs cl), EL s x, know (KN s x), R]) (fun sj hj => ?_) (fun fin => ?_)
        · obtain ⟨z, rfl⟩ : ∃ z : Sl19, z = sj := ⟨sj, rfl⟩
          refine .seq ?_
          refine .region ?_
          refine .rd (.move rfl) ?_
          refine .rd (.move rfl) ?_
          refine .rd (.nilCheck rfl) ?_
          refine .rd (.fieldAddr fd60_5 rfl) ?_
          refine .rd (.ld na58 rfl (.tail .head) (show (CS19.cells ({ s with calls := s.calls + 1 } : CS19) x none 0 0)[5]? = some (.slice x.ua cl.length x.uc) by rw [hcl, ← hWn]; rfl)) ?_
          refine .rd (.move rfl) ?_
          refine .ef (.buildOne (cs := pcell xb) Tryd.underlying58 ti63 (by decide) rfl rfl rfl (ones.of rfl)) ?_
          rintro _ _ ⟨bs, rfl, rfl⟩
          refine .ef (.append rfl rfl Tryd.underlying58 ti63 rfl (ones.of rfl) (by decide) (by decide) rfl rfl (.tail (.tail (.tail (.tail (.tail (.tail .head)))))) (n := cl.length) (m := 1) (by rw [ptrs_len, Nat.mul_one]) (.srcBlk (ys := pcell xb) .head Tryd.underlying58 rfl (by decide)) (by omega)) ?_
          rintro _ _ ⟨ua, uc, rfl, un, rfl⟩
          refine .rd (.nilCheck rfl) ?_
          refine .rd (.fieldAddr fd60_5 rfl) ?_
          refine .ef0 (.store ts58 rfl rfl (.tail (.tail (.tail .head))) rfl (Nat.le_of_ble_eq_true rfl)) ?_
          rintro _ _ rfl
          refine .nil ?_
          refine .cast (X' := blk pb (CS19.cells ({ s with calls := s.calls + 1 } : CS19) ({ x with ua := ua, un := cl.length + 1, uc := uc } : PX19) none 0 0) 60) (rfl) ?_
          refine .perm (.cons (.tail (.tail (.tail (.tail (.tail (.tail (.tail (.tail .head)))))))) (.cons .head (.cons .head (.cons .head (.cons .head (.cons .head (.cons .head (.cons .head (.cons .head (.cons .head .nil)))))))))) ?_
          refine .cast (X' := know (KN ({ s with calls := s.calls + 1 } : CS19) ({ x with ua := ua, un := cl.length + 1, uc := uc } : PX19))) (rfl) ?_
          refine .nilArr 35 21 none ?_
          refine .cast (X' := Said none 0 []) (rfl) ?_
          refine .seq ?_
          refine .region ?_
          refine .rd (.move rfl) ?_
          refine .rd (.move rfl) ?_
          refine .rd (.move rfl) ?_
          refine .fn rfl rfl (.cons (.tail (.tail .head)) (.cons (.tail (.tail (.tail (.tail (.tail .head))))) (.cons (.tail (.tail (.tail (.tail (.tail (.tail .head)))))) (.cons .head (.cons .head .nil))))) (fun _ _ _ => trivial) (ask_ok pb xb now ({ s with calls := s.calls + 1 } : CS19) ({ x with ua := ua, un := cl.length + 1, uc := uc } : PX19) none 0 [] (⟨s.calls + 1, plain19 q, asksM q z, aimOf q, false, 0, 0, s.tries, 0⟩ : Cl19) ⟨hB.id, hB.wait, hB.tries, hB.bne, hB.bn, hB.number, ⟨by show 0 ≤ s.calls + 1; omega, by show s.calls + 1 ≤ _; omega⟩, hB.opn⟩ hnow hB.tries (by decide)) (fun v G1 hq => ?_)
          obtain ⟨oa, oc, rfl⟩ := hq
          simp only [List.cons_append, List.nil_append]
          refine .nil ?_
          refine .cast (X' := blk pb (CS19.cells (callS s now q z) ({ x with ua := ua, un := cl.length + 1, uc := uc } : PX19) oa 1 oc) 60) (rfl) ?_
          refine .perm (.cons (.tail .head) (.cons .head (.cons .head (.cons .head (.cons .head (.cons .head (.cons .head (.cons .head (.cons .head (.cons .head (.cons .head .nil))))))))))) ?_
          refine .cast (X' := CB ⟨xb, (askC s now (newC s q z))⟩) (rfl) ?_
          refine .seq ?_
          refine .draws [3] [CB ⟨xb, (askC s now (newC s q z))⟩] (by kernel_rfl) ?_
          refine .rp 0 rfl (by kernel_rfl) (by kernel_rfl) (by kernel_rfl) (Reads.pure (.move rfl)) ?_
          refine .rp 1 rfl (by kernel_rfl) (by kernel_rfl) (by kernel_rfl) (Reads.pure (.nilCheck rfl)) ?_
          refine .rp 2 rfl (by kernel_rfl) (by kernel_rfl) (by kernel_rfl) (Reads.pure (.fieldAddr fd65_0 rfl)) ?_
          refine .rd 3 rfl rfl (by kernel_rfl) (by kernel_rfl) (by kernel_rfl) (.ld na3 rfl (show Pick (blk xb (Cl19.cells (askC s now (newC s q z))) 65) _ _ from .head) rfl) (.cons .head .nil) ?_
          refine .rp 4 rfl (by kernel_rfl) (by kernel_rfl) (by kernel_rfl) (Reads.pure (.move rfl)) ?_
          refine .ef 5 (by kernel_rfl) rfl (.fn rfl rfl (.cons (.tail .head) .nil) (fun _ _ _ => trivial) (said_ok pb (callS s now q z) ({ x with ua := ua, un := cl.length + 1, uc := uc } : PX19) oa 1 oc)) ?_
          rintro v _ ⟨G1, hq, rfl⟩
          obtain ⟨rfl, rfl⟩ := hq
          simp only [List.cons_append, List.nil_append]
          refine ⟨.inr ⟨_, (.cons (.tail .head) .nil)⟩, ?_⟩
          refine .rp 6 rfl (by kernel_rfl) (by kernel_rfl) (by kernel_rfl) (Reads.pure (.assign rfl)) ?_
          refine .rp 7 rfl (by kernel_rfl) (by kernel_rfl) (by kernel_rfl) (Reads.pure (.assign rfl)) ?_
          refine .rp 8 rfl (by kernel_rfl) (by kernel_rfl) (by kernel_rfl) (Reads.pure (.assign rfl)) ?_
          refine .done (by kernel_rfl) ?_
          refine .perm (.cons (.tail (.tail (.tail (.tail (.tail .head))))) (.cons .head (.cons .head (.cons .head (.cons .head (.cons .head (.cons .head (.cons .head (.cons .head (.cons .head (.cons .head .nil))))))))))) ?_
          refine .cast (X' := arr 63 1 ua uc (ptrs (cl ++ [⟨xb, (askC s now (newC s q z))⟩]))) (by rw [ptrs_snoc]) ?_
          refine .close (X := bag CB (cl ++ [⟨xb, (askC s now (newC s q z))⟩])) (B := [CB ⟨xb, (askC s now (newC s q z))⟩, bag CB cl]) (.cons (.tail (.tail .head)) (.cons (.tail (.tail (.tail (.tail (.tail (.tail (.tail .head))))))) .nil)) (fun _ H => bag.put (List.perm_append_singleton _ _).symm H) ?_
          refine .perm (.cons (.tail (.tail (.tail .head))) (.cons .head (.cons .head (.cons .head (.cons .head (.cons .head (.cons .head (.cons .head (.cons .head (.cons .head .nil)))))))))) ?_
          refine .cast (X' := IM x.ab (CS19.aims (callS s now q z))) (rfl) ?_
          refine .perm (.cons (.tail (.tail (.tail (.tail (.tail (.tail (.tail (.tail .head)))))))) (.cons .head (.cons .head (.cons .head (.cons .head (.cons .head (.cons .head (.cons .head (.cons .head (.cons .head .nil)))))))))) ?_
          refine .cast (X' := EL (callS s now q z) ({ x with ua := ua, un := cl.length + 1, uc := uc } : PX19)) (rfl) ?_
          refine .perm (.cons (.tail (.tail (.tail (.tail (.tail (.tail .head)))))) (.cons .head (.cons .head (.cons .head (.cons .head (.cons .head (.cons .head (.cons .head (.cons .head (.cons .head .nil)))))))))) ?_
          refine .cast (X' := know (KN (callS s now q z) ({ x with ua := ua, un := cl.length + 1, uc := uc } : PX19))) (rfl) ?_
          refine .perm (.cons (.tail (.tail (.tail (.tail (.tail (.tail .head)))))) (.cons .head (.cons .head (.cons .head (.cons .head (.cons .head (.cons .head (.cons .head (.cons .head (.cons .head .nil)))))))))) ?_
          refine .cast (X' := Said oa oc [((askC s now (newC s q z))).m]) (rfl) ?_
          refine .close (X := PR pb (callS s now q z)) (.cons (.tail (.tail (.tail (.tail (.tail (.tail .head)))))) (.cons (.tail (.tail (.tail (.tail .head)))) (.cons (.tail (.tail (.tail .head))) (.cons (.tail (.tail (.tail .head))) (.cons (.tail (.tail .head)) (.cons (.tail .head) .nil)))))) (fun _ H => ⟨(({ x with ua := ua, un := cl.length + 1, uc := uc } : PX19), cl ++ [(⟨xb, (askC s now (newC s q z))⟩ : CallX)]), ⟨by rw [List.map_append, hWc]; rfl, by show cl.length + 1 = (s.open_ ++ [_]).length; rw [List.length_append, hcl]; rfl⟩, H⟩) ?_
          refine .retP Tryd.func9 (.cons (.tmp rfl) (.cons (.tmp rfl) (.cons (.tmp rfl) .nil))) (.cons .head (.cons .head (.cons (.tail (.tail .head)) .nil))) ?_
          exact ⟨[_, _], .inr (.inr ⟨z, oa, oc, hmay, by omega, hj, rfl, rfl⟩), rfl⟩
        · refine .condP rfl (fun h15 => ?_) (fun h15 => ?_)
          · refine .region ?_
            refine .rd (.move rfl) ?_
            refine .rd (.move rfl) ?_
            refine .rd (.nilCheck rfl) ?_
            refine .rd (.fieldAddr fd65_0 rfl) ?_
            refine .rd (.ld na3 rfl .head rfl) ?_
            refine .ef (.buildOne (cs := [.int .i64 (s.calls + 1)]) Tryd.underlying28 ti3 (by decide) rfl rfl rfl (ones.of rfl)) ?_
            rintro _ _ ⟨bi, rfl, rfl⟩
            refine .rd (.nilCheck rfl) ?_
            refine .rd (.fieldAddr fd65_2 rfl) ?_
            refine .rd (.fieldAddr fd35_20 rfl) ?_
            refine .ef0 (.store ts28 rfl rfl (.tail .head) rfl (Nat.le_of_ble_eq_true rfl)) ?_
            rintro _ _ rfl
            refine .nil ?_
            refine .cast (X' := blk xb (Cl19.cells (⟨s.calls + 1, plain19 q, asksM q (some ⟨bi, 0, none⟩, 1, 1), aimOf q, false, 0, 0, s.tries, 0⟩ : Cl19)) 65) (by rw [asks4 h15 z1, asks4 h15 (some ⟨bi, 0, none⟩, 1, 1)]; rfl) ?_
            exact fin ((some ⟨bi, 0, none⟩, 1, 1)) (fun _ => rfl) (.cons rfl (.cons rfl (.cons rfl (.cons rfl .nil)))) (.cons (.tail (.tail (.tail .head))) (.cons (.tail (.tail .head)) (.cons .head (.cons (.tail .head) (.cons (.tail .head) (.cons (.tail .head) (.cons (.tail .head) (.cons (.tail .head) (.cons (.tail .head) .nil)))))))))
          · refine .skip ?_
            exact fin (z1) (fun h => absurd h h15) (.cons rfl (.cons rfl (.cons rfl (.cons rfl .nil)))) (.cons (.tail (.tail .head)) (.cons (.tail .head) (.cons .head (.cons .head (.cons .head (.cons .head (.cons .head (.cons .head (.cons .head .nil)))))))))
    · refine .condP rfl (fun h5 => ?_) (fun h5 => ?_)
      · refine .seq ?_
        refine .region ?_
        refine .rd (.fieldAddr fd31_9 rfl) ?_
        refine .rd (.ld na9 rfl .head rfl) ?_
        refine .fn rfl rfl .nil (Knows.pick (.tail (.tail (.tail (.tail (.tail (.tail (.tail .head))))))) k) (hL h5) (fun v G1 hq => ?_)
        obtain ⟨la, ln, lc, lb, rfl, rfl⟩ := hq
        simp only [List.nil_append]
        refine .rd (.move rfl) ?_
        refine .rd (.extract rfl rfl) ?_
        refine .rd (.extract rfl rfl) ?_
        refine .rd (.assign rfl) ?_
        refine .rd (.assign rfl) ?_
        refine .nil ?_
        refine .seq ?_
        refine .seq ?_
        refine .region ?_
        refine .rd (.move rfl) ?_
        refine .rd (.not rfl) ?_
        refine .nil ?_
        refine .cond rfl (fun h7 => ?_) (fun h7 => ?_)
        · refine .seq ?_
          refine .region ?_
          refine .rd (.assign rfl) ?_
          refine .rd (.assign rfl) ?_
          refine .rd (.assign rfl) ?_
          refine .nil ?_
          refine .close (X := PR pb s) (.cons (.tail .head) (.cons (.tail .head) (.cons (.tail .head) (.cons (.tail .head) (.cons (.tail .head) (.cons (.tail .head) .nil)))))) (fun _ H => ⟨(x, cl), ⟨hWc, hWn⟩, H⟩) ?_
          refine .retP Tryd.func9 (.cons (.tmp rfl) (.cons (.tmp rfl) (.cons (.tmp rfl) .nil))) (.cons .head (.cons (.tail .head) .nil)) ?_
          exact ⟨[_], .inl ⟨fun _ => h5, rfl, rfl⟩, rfl⟩
        · refine .skip ?_
          refine .region ?_
          refine .rd (.move rfl) ?_
          refine .rd (.assign rfl) ?_
          refine .nil ?_
          exact fin (la, ln, lc) trivial (.cons rfl (.cons rfl (.cons rfl (.cons rfl .nil)))) (.cons .head (.cons .head (.cons .head (.cons .head (.cons .head (.cons .head (.cons .head (.cons .head .nil))))))))
      · refine .skip ?_
        exact fin (none, 0, 0) trivial (.cons rfl (.cons rfl (.cons rfl (.cons rfl .nil)))) (.cons .head (.cons .head (.cons .head (.cons .head (.cons .head (.cons .head (.cons .head (.cons .head .nil))))))))

end Go.Proofs.YtankogdnhgmkhaaDoor


namespace Go.Proofs.YtankogdnhgmkhaaDoor
open Go Go.Sp

set_option linter.unusedVariables false

namespace con11
theorem na24 : NotAgg Tryd.prog 24 := ⟨_, Tryd.underlying24, trivial⟩
theorem fd60_5 : FD Tryd.prog 60 5 5 := .of Tryd.underlying60 (by kernel_rfl)
theorem na58 : NotAgg Tryd.prog 58 := ⟨_, Tryd.underlying58, trivial⟩
theorem ts58 : TS Tryd.prog 58 1 := .of (by kernel_rfl)
end con11
open con11

theorem sat.left {Γ Δ : List SProp} {h : Hp} (s : sat (Γ ++ Δ) h) : sat Γ h := let ⟨_, _, _, l, _, t, _⟩ := s.split; t.mono l
theorem bag.left {α : Type} {f : α → SProp} {l r : List α} {h : Hp} (s : bag f (l ++ r) h) : bag f l h := by
  unfold bag at *; rw [List.map_append] at s; exact Go.Proofs.YtankogdnhgmkhaaDoor.sat.left s
theorem bag_kept {now : Int} {st0 : TS19} {h : Hp} (hn : (stN (dTick now) st0 st0.2.1.length).2.1.length = st0.2.1.length) (H : sat [bag CB (stN (dTick now) st0 st0.2.1.length).2.1] h) : bag CB (keptC now st0 st0.2.1.length st0.2.1.length) h := by
  obtain ⟨r, hr⟩ := kept_sub now st0 st0.2.1.length st0.2.1.length
  rw [List.take_of_length_le (by omega)] at hr
  obtain ⟨h1, _, _, l, _, H', _⟩ := H
  exact bag.left (bag.perm hr (Sp.sat.mono l H'))

set_option maxHeartbeats 2000000 in
set_option maxRecDepth 20000 in
theorem tick_ok (pb : Nat) (now : Int) (s : CS19) (hB : PB s) (hpo : ∀ c ∈ s.open_, PO c) (he : s.ended.length ≤ 1000000) (hnow : 0 ≤ now ∧ now ≤ 1000000000000) : Cn Tryd.prog 10 [.pointer (some ⟨pb, 0, none⟩), .int .i64 now] (fun _ => True) [PR pb s] fun v G => ∃ oa oc, v = .slice oa (tick s now).2.length oc ∧ G = [PR pb (tick s now).1, Said oa oc (tick s now).2] := by
  refine .enter Tryd.func10 rfl (by kernel_rfl) rfl fun R k => ?_
  refine .open_ (σ := PX19 × List CallX) (φ := fun y => y.2.map (·.c) = s.open_ ∧ y.1.un = s.open_.length) (B := fun y => PL pb s y.1 y.2 none 0 0) .head (fun _ h => h) (fun y hW => ?_)
  obtain ⟨x, cl⟩ := y
  dsimp only at hW ⊢
  unfold PL
  simp only [List.cons_append, List.nil_append]
  obtain ⟨hWc, hWn⟩ := hW
  have hcl : cl.length = s.open_.length := by rw [← hWc, List.length_map]
  have hop := hB.opn
  have hinv : TInv s cl 0 (s, cl, []) := ⟨rfl, hB, fun y hy => hpo y.c (by rw [← hWc]; exact List.mem_map.2 ⟨y, hy, rfl⟩), Nat.le_refl _, Nat.le_refl _⟩
  have hN := hinv.run now cl.length
  have hNl : (stN (dTick now) (s, cl, []) cl.length).2.1.length = cl.length := by have := congrArg List.length hN.addrs; simpa using this
  obtain ⟨hr1, hr2, hr3⟩ := run_tick now (s, cl, []) cl.length rfl cl.length 0 (by omega)
  rw [List.drop_zero, hWc] at hr1 hr2 hr3
  simp only [stN, keptC, List.nil_append, List.map_nil] at hr1 hr2 hr3
  have hka := kept_map now (s, cl, []) s hinv cl.length rfl cl.length (Nat.le_refl _)
  have hkl : (keptC now (s, cl, []) cl.length cl.length).length = (tickL now s s.open_).2.1.length := by rw [← hr3, List.length_map]
  refine .seq ?_
  refine .region ?_
  refine .ef (.box (l := [.pointer (some ⟨pb, 0, none⟩)]) rfl rfl (ones.of rfl)) ?_
  rintro _ _ ⟨b2, rfl, rfl⟩
  refine .ef (.box (l := [.int .i64 now]) rfl rfl (ones.of rfl)) ?_
  rintro _ _ ⟨b3, rfl, rfl⟩
  refine .rd (.assign rfl) ?_
  refine .nil ?_
  refine .seq ?_
  refine .nilArr 35 21 none ?_
  have hf : ∀ (i p : Nat), (cl.map (·.a))[i]? = some p → Cn Tryd.prog 22 (.pointer (some ⟨p, 0, none⟩) :: (#[.pointer (some ⟨b3, 0, none⟩), .pointer (some ⟨b2, 0, none⟩)] : Array Value).toList) (fun w => CellsAt b3 0 [.int .i64 now] w ∧ CellsAt b2 0 [.pointer (some ⟨pb, 0, none⟩)] w) [TX pb x (stN (dTick now) (s, cl, []) i)] fun v G => v = .bool (bN (dTick now) (s, cl, []) i) ∧ G = [TX pb x (stN (dTick now) (s, cl, []) (i + 1))] := fun i p hp => by
    have hi := (List.getElem?_eq_some_iff.1 hp).1
    rw [List.length_map] at hi
    have hI := hinv.run now i
    obtain ⟨y, hy, rfl⟩ := hI.at_ hp
    have hm := hI.many
    have hm2 := hI.ends
    exact tick1_ok pb b3 b2 now x i _ y hy hI.pb (hI.po y (List.mem_of_getElem? hy)) (by omega) (by omega) hnow
  refine .perm (.cons (.tail (.tail (.tail (.tail (.tail (.tail .head)))))) (.cons .head (.cons .head (.cons .head (.cons .head (.cons .head (.cons .head (.cons .head (.cons .head (.cons .head .nil)))))))))) ?_
  refine .cast (X' := arr 63 1 x.ua x.uc ((cl.map (·.a)).flatMap pcell)) (rfl) ?_
  refine .draws [0, 1] [blk b2 [.pointer (some ⟨pb, 0, none⟩)] 24] (by kernel_rfl) ?_
  refine .rd 0 rfl rfl (by kernel_rfl) (by kernel_rfl) (by kernel_rfl) (.ld na24 rfl .head rfl) (.cons (.tail (.tail (.tail .head))) .nil) ?_
  refine .rd 1 rfl rfl (by kernel_rfl) (by kernel_rfl) (by kernel_rfl) (.ld na24 rfl .head rfl) (.cons (.tail (.tail (.tail .head))) .nil) ?_
  refine .rp 2 rfl (by kernel_rfl) (by kernel_rfl) (by kernel_rfl) (Reads.pure (.nilCheck rfl)) ?_
  refine .rp 3 rfl (by kernel_rfl) (by kernel_rfl) (by kernel_rfl) (Reads.pure (.fieldAddr fd60_5 rfl)) ?_
  refine .rp 5 rfl (by kernel_rfl) (by kernel_rfl) (by kernel_rfl) (Reads.pure (.makeFunc (cs := [.pointer (some ⟨b3, 0, none⟩), .pointer (some ⟨b2, 0, none⟩)]) rfl rfl)) ?_
  refine .rs 4 (by kernel_rfl) rfl (.ld na58 rfl (.tail (.tail (.tail (.tail .head)))) (show (CS19.cells s x none 0 0)[5]? = some (.slice x.ua (cl.map (·.a)).length x.uc) by rw [List.length_map, hcl, ← hWn]; rfl)) (.inr (.cons (.tail (.tail (.tail .head))) .nil)) ?_
  refine .close (X := TX pb x (s, cl, [])) (.cons (.tail (.tail (.tail (.tail .head)))) (.cons (.tail (.tail (.tail (.tail .head)))) (.cons (.tail (.tail (.tail (.tail .head)))) (.cons (.tail (.tail (.tail (.tail .head)))) (.cons (.tail .head) (.cons (.tail (.tail (.tail .head))) .nil)))))) (fun _ H => ⟨((x.ea, x.ec), (none, 0)), H⟩) ?_
  refine .ef 6 (by kernel_rfl) rfl (.fn rfl rfl (.cons (.tail .head) (.cons .head .nil)) (fun A w h => ⟨(Knows.blk .head) A w h, (Knows.blk (.tail .head)) A w h⟩) (deletef_ok (cl.map (·.a)) (TX pb x) (dTick now) (s, cl, []) _ 22 #[.pointer (some ⟨b3, 0, none⟩), .pointer (some ⟨b2, 0, none⟩)] hf x.ua x.uc (by rw [List.length_map]; omega))) ?_
  rintro v _ ⟨G1, hq, rfl⟩
  obtain ⟨rfl, rfl⟩ := hq
  simp only [List.cons_append, List.nil_append]
  refine ⟨.inr ⟨_, (.cons (.tail (.tail (.tail .head))) .nil)⟩, ?_⟩
  refine .rp 7 rfl (by kernel_rfl) (by kernel_rfl) (by kernel_rfl) (Reads.pure (.nilCheck rfl)) ?_
  refine .rp 8 rfl (by kernel_rfl) (by kernel_rfl) (by kernel_rfl) (Reads.pure (.fieldAddr fd60_5 rfl)) ?_
  refine .perm (.cons (.tail .head) (.cons .head (.cons .head (.cons .head (.cons .head .nil))))) ?_
  refine .cast (X' := TX pb x (stN (dTick now) (s, cl, []) cl.length)) (by rw [List.length_map]) ?_
  refine .open_ (σ := (Option Addr × Nat) × (Option Addr × Nat)) (φ := fun _ => True) (B := fun z => TL pb x (stN (dTick now) (s, cl, []) cl.length) z.1.1 z.1.2 z.2.1 z.2.2) .head (fun _ h => let ⟨z, hz⟩ := h; ⟨z, trivial, hz⟩) (fun z _ => ?_)
  obtain ⟨⟨ea, ec⟩, ⟨oa, oc⟩⟩ := z
  dsimp only
  unfold TL
  simp only [List.cons_append, List.nil_append]
  refine .ef0 9 (by kernel_rfl) rfl (.store ts58 rfl rfl .head rfl (Nat.le_of_ble_eq_true rfl)) ?_
  rintro _ _ rfl
  refine ⟨.inl (by kernel_rfl), ?_⟩
  refine .done (by kernel_rfl) ?_
  have het : (tick s now).1 = { (stN (dTick now) (s, cl, []) cl.length).1 with open_ := (tickL now s s.open_).2.1 } := by unfold tick; rw [hr1]
  have hez : (tick s now).2 = (stN (dTick now) (s, cl, []) cl.length).2.2 := hr2.symm
  have hkk : (kept (dTick now) (s, cl, []) (cl.map (·.a)) (cl.map (·.a)).length).length = (tickL now s s.open_).2.1.length := by rw [List.length_map, ← hka, List.length_map, hkl]
  refine .cast (X' := blk pb (CS19.cells (tick s now).1 ({ x with ea := ea, ec := ec, un := (tickL now s s.open_).2.1.length } : PX19) oa (tick s now).2.length oc) 60) (by rw [het, hez]; show blk pb ((CS19.cells _ _ _ _ _).set 5 _) 60 = _; rw [hkk]; rfl) ?_
  refine .seq ?_
  refine .region ?_
  refine .rd (.ld na24 rfl (.tail (.tail (.tail (.tail (.tail (.tail (.tail (.tail .head)))))))) rfl) ?_
  refine .fn rfl rfl (.cons .head .nil) (fun _ _ _ => trivial) (said_ok pb (tick s now).1 ({ x with ea := ea, ec := ec, un := (tickL now s s.open_).2.1.length } : PX19) oa (tick s now).2.length oc) (fun v G1 hq => ?_)
  obtain ⟨rfl, rfl⟩ := hq
  simp only [List.cons_append, List.nil_append]
  refine .rd (.assign rfl) ?_
  refine .nil ?_
  refine .perm (.cons (.tail (.tail .head)) (.cons .head (.cons .head (.cons .head (.cons .head (.cons .head (.cons .head (.cons .head (.cons .head (.cons .head .nil)))))))))) ?_
  refine .cast (X' := IM x.ab (CS19.aims (tick s now).1)) (by rw [het]) ?_
  refine .perm (.cons (.tail (.tail (.tail .head))) (.cons .head (.cons .head (.cons .head (.cons .head (.cons .head (.cons .head (.cons .head (.cons .head (.cons .head .nil)))))))))) ?_
  refine .cast (X' := EL (tick s now).1 ({ x with ea := ea, ec := ec, un := (tickL now s s.open_).2.1.length } : PX19)) (by rw [het]; rfl) ?_
  refine .perm (.cons (.tail (.tail (.tail (.tail (.tail .head))))) (.cons .head (.cons .head (.cons .head (.cons .head (.cons .head (.cons .head (.cons .head (.cons .head (.cons .head .nil)))))))))) ?_
  refine .cast (X' := know (KN (tick s now).1 ({ x with ea := ea, ec := ec, un := (tickL now s s.open_).2.1.length } : PX19))) (by rw [het]; rfl) ?_
  refine .perm (.cons (.tail (.tail (.tail (.tail (.tail .head))))) (.cons .head (.cons .head (.cons .head (.cons .head (.cons .head (.cons .head (.cons .head (.cons .head (.cons .head .nil)))))))))) ?_
  refine .cast (X' := Said oa oc (tick s now).2) (by rw [hez]) ?_
  refine .perm (.cons (.tail (.tail (.tail (.tail (.tail (.tail .head)))))) (.cons .head (.cons .head (.cons .head (.cons .head (.cons .head (.cons .head (.cons .head (.cons .head (.cons .head .nil)))))))))) ?_
  refine .cast (X' := arr 63 1 x.ua x.uc (ptrs (keptC now (s, cl, []) cl.length cl.length))) (by unfold ptrs; rw [hka, List.length_map]) ?_
  refine .close (X := bag CB (keptC now (s, cl, []) cl.length cl.length)) (.cons (.tail (.tail (.tail (.tail (.tail (.tail .head)))))) .nil) (fun _ H => bag_kept (st0 := (s, cl, [])) hNl H) ?_
  refine .close (X := PR pb (tick s now).1) (.cons (.tail (.tail (.tail (.tail (.tail (.tail .head)))))) (.cons .head (.cons (.tail (.tail (.tail (.tail .head)))) (.cons .head (.cons (.tail (.tail .head)) (.cons (.tail .head) .nil)))))) (fun _ H => ⟨(({ x with ea := ea, ec := ec, un := (tickL now s s.open_).2.1.length } : PX19), keptC now (s, cl, []) cl.length cl.length), ⟨hr3, rfl⟩, H⟩) ?_
  refine .retP Tryd.func10 (.cons (.tmp rfl) .nil) (.cons .head (.cons .head (.cons (.tail (.tail .head)) .nil))) ?_
  exact ⟨[_, _], ⟨oa, oc, rfl, rfl⟩, rfl⟩

end Go.Proofs.YtankogdnhgmkhaaDoor

