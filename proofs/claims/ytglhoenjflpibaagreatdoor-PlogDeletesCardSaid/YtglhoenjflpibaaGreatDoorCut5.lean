/- Part 5 of a claim's texts: rules for the machine's steps, and steps through functions of the program, under the conditions that each theorem states. -/
import Derived.Test.YtglhoenjflpibaaGreatDoorProg
import Derived.WalkKit
import Derived.ProofKit
import Derived.OpenShut
import Derived.ShutString
import Derived.ChangeOld
import Derived.Below
import Derived.SizedLaws
import Derived.Carry
import Derived.LaidLaws
import Derived.Lib.LaidTab
import Derived.Stop.LaidErr
import Derived.MakeChecks
import Derived.Shelf.Vars
import Derived.FnData
import Derived.Test.YtglhoenjflpibaaGreatDoorCut0
import Derived.Test.YtglhoenjflpibaaGreatDoorCut1
import Derived.Test.YtglhoenjflpibaaGreatDoorCut4
set_option linter.unusedVariables false
namespace Go.Proofs.YtglhoenjflpibaaGreatDoor
open Go Go.Sp

set_option linter.unusedVariables false

namespace log17
theorem fd42_0 : FD Tryz.prog 42 0 0 := .of Tryz.underlying42 (by kernel_rfl)
theorem na39 : NotAgg Tryz.prog 39 := ⟨_, Tryz.underlying39, trivial⟩
theorem ts34 : TS Tryz.prog 34 6 := .of (by kernel_rfl)
theorem fd34_0 : FD Tryz.prog 34 0 0 := .of Tryz.underlying34 (by kernel_rfl)
theorem na3 : NotAgg Tryz.prog 3 := ⟨_, Tryz.underlying3, trivial⟩
theorem fd34_5 : FD Tryz.prog 34 5 5 := .of Tryz.underlying34 (by kernel_rfl)
theorem na32 : NotAgg Tryz.prog 32 := ⟨_, Tryz.underlying32, trivial⟩
theorem ia34 : IsAgg Tryz.prog 34 := ⟨_, Tryz.underlying34, trivial⟩
theorem ti34 : TI Tryz.prog 34 6 64 (.agg #[.int .i64 0, .int .i64 0, .int .i64 0, .int .i64 0, .int .i64 0, .slice none 0 0]) := .of (by kernel_rfl)
end log17
open log17



set_option maxHeartbeats 4000000 in
set_option maxRecDepth 20000 in
theorem PlogDeletes_ok (most : Int) (sa : Option Addr) (sizes : List Int) (sc : Nat) (which off : Int) (h0 : i64 most) (hsz : ∀ x ∈ sizes, i64 x) (hsl : sizes.length ≤ 140737488351232) (h2 : i64 which) (h3 : i64 off) : Cn Tryz.prog 4 [.int .i64 most, .slice sa sizes.length sc, .int .i64 which, .int .i64 off] (fun w => LV w ∧ RowAt sa (sizes.flatMap icI) w) [] fun v G => v = .bool true ∧ G = [] := by
  refine .enter Tryz.func4 rfl (by kernel_rfl) rfl fun R k => ?_
  have h2' : -9223372036854775808 ≤ which ∧ which ≤ 9223372036854775807 := h2
  refine .seq ?_
  refine .region ?_
  refine .rd (.assign rfl) ?_
  refine .nil ?_
  refine .seq ?_
  refine .region ?_
  refine .fn rfl rfl .nil (Knows.pick .head (k.mono fun _ h => h.1)) (shown_ok) (fun v G1 hq => ?_)
  obtain ⟨rfl, rfl⟩ := hq
  simp only [List.nil_append]
  refine .rd (.assign rfl) ?_
  refine .nil ?_
  refine .seq ?_
  refine .region ?_
  refine .rd (.move rfl) ?_
  refine .rd (.move rfl) ?_
  refine .fn rfl rfl .nil (Knows.pick .head k) (filled_ok most sa sizes sc h0 hsz hsl) (fun v G1 hq => ?_)
  obtain ⟨i, l, db, mb, d, rfl, hi60, hF, rfl⟩ := hq
  simp only [List.cons_append, List.nil_append]
  refine .rd (.move rfl) ?_
  refine .rd (.extract rfl rfl) ?_
  refine .rd (.extract rfl rfl) ?_
  refine .rd (.assign rfl) ?_
  refine .rd (.assign rfl) ?_
  refine .nil ?_
  refine .alter (t := 10) (v' := .pointer (some ⟨l.lb, 0, none⟩)) rfl (rfl) ?_
  have hnx := hF.nx
  have hn0 := hF.next0
  have hok := hF.ok
  have hus := hF.used
  have hln := hF.len
  have hsi := hF.size
  have hst := hF.start
  have hhi := hF.high
  have hnu := hF.num
  refine .seq ?_
  refine .seq ?_
  refine .region ?_
  refine .rd (.move rfl) ?_
  refine .rd (.not rfl) ?_
  refine .rd (.move rfl) ?_
  refine .on (t := 28) rfl rfl ?_
  refine .rd (.move rfl) ?_
  refine .on (t := 28) rfl rfl ?_
  refine .rd (.eqNilP Tryz.underlying28 rfl rfl) ?_
  refine .rd (.pickF rfl rfl) ?_
  refine .nil ?_
  refine .condF rfl ?_
  refine .skip ?_
  refine .seq ?_
  refine .region ?_
  refine .rd (.move rfl) ?_
  refine .fn rfl rfl (.cons (.tail .head) (.cons (.tail .head) .nil)) (LG.at .head) (All_ok db mb d l hok (by omega)) (fun v G1 hq => ?_)
  obtain ⟨wl, wa, wc, hwl, rfl, rfl⟩ := hq
  simp only [List.cons_append, List.nil_append]
  refine .settle (.tail (.tail .head)) (Settles.arr) ?_
  rw [hst, keep_zero hok.good] at hwl
  have hwn : wl.length = i := (len_map hwl).trans hnu
  refine .rd (.assign rfl) ?_
  refine .nil ?_
  refine .seq ?_
  refine .region ?_
  refine .rd (.move rfl) ?_
  refine .rd (.nilCheck rfl) ?_
  refine .rd (.fieldAddr fd42_0 rfl) ?_
  refine .rd (.load na39 rfl (Knows.one (i := 0) ((LG.at (.tail (.tail (.tail (.tail .head))))).mono fun _ h => h.1) rfl)) ?_
  refine .fn rfl rfl .nil ((LG.at (.tail (.tail (.tail (.tail .head))))).mono fun _ h => h.2.2 _ l.cur_in) (Next_ok db l.cur hok.cur.1) (fun v G1 hq => ?_)
  obtain ⟨rfl, rfl⟩ := hq
  simp only [List.nil_append]
  refine .alter (t := 38) (v' := .int .i64 l.next) rfl (rfl) ?_
  refine .rd (.assign rfl) ?_
  refine .nil ?_
  refine .seq ?_
  refine .seq ?_
  refine .region ?_
  refine .rd (.move rfl) ?_
  refine .rd (.lenL rfl rfl Tryz.underlying43 rfl) ?_
  refine .rd (.gt rfl rfl) ?_
  refine .rd (.move rfl) ?_
  refine .split (t := 42) rfl (fun g7 => ?_) (fun g7 => ?_)
  · replace g7 := of_decide_eq_true g7
    refine .on (t := 42) rfl rfl ?_
    refine .rd (.move rfl) ?_
    refine .on (t := 42) rfl rfl ?_
    refine .rd (.remW rfl rfl (by decide)) ?_
    refine .on (t := 42) rfl rfl ?_
    refine .rd (.neI rfl rfl) ?_
    refine .rd (.pickT rfl rfl) ?_
    refine .nil ?_
    refine .joinEx (σ := Nat) (φ := fun cu => ((cu : Int) = l.next ∨ ∃ b ∈ l.all, b.base = (cu : Int)) ∧ (cu : Int) ≤ l.next) (E' := fun cu => [(3, .int .i64 off), (10, .pointer (some ⟨l.lb, 0, none⟩)), (12, .slice wa wl.length wc), (13, .int .i64 (cu : Nat))]) (Γ' := fun cu => [LG db l, blk db (d.cells mb) 60, mp nmv Fl.val mb d.fs, know (RowAt wa (wl.flatMap bmc)), know (Bal wl), R]) (fun sj hj => ?_) (fun fin => ?_)
    · obtain ⟨cu, rfl⟩ : ∃ t : Nat, t = sj := ⟨sj, rfl⟩
      obtain ⟨hto, hto2⟩ := hj
      refine .seq ?_
      refine .seq ?_
      refine .region ?_
      refine .rd (.move rfl) ?_
      refine .rd (.move rfl) ?_
      refine .fn rfl rfl (.cons .head (.cons .head (.cons .head .nil))) (Knows.pick (.tail (.tail .head)) (k.mono fun _ h => h.1)) (Delete_ok db mb d l cu hF.dok hok (by omega) hto (by omega) (.inr (by omega)) (by omega)) (fun v G1 hq => ?_)
      obtain ⟨q, e, rfl, hD, rfl⟩ := hq
      simp only [List.cons_append, List.nil_append]
      refine .alter (t := 10) (v' := .pointer (some ⟨q.lb, 0, none⟩)) rfl (by rw [hD.lb]) ?_
      have hqs := hD.start
      have hqh := hD.high
      have hqn : q.next = l.next := by show q.cur.next = _; rw [hD.cur]; rfl
      refine .rd (.neI rfl rfl) ?_
      refine .alter (t := 58) (v' := .bool false) rfl (congrArg Value.bool (by rfl)) ?_
      refine .rd (.move rfl) ?_
      refine .on (t := 59) rfl rfl ?_
      refine .rd (.move rfl) ?_
      refine .on (t := 59) rfl rfl ?_
      refine .fn rfl rfl .nil ((LG.at .head).mono fun _ h => h.1) (Start_ok q.lb db (some ⟨q.cur.b, 0, none⟩) q.pre q.most q.start q.high q.la (q.ini.length + 1) q.lc) (fun v G1 hq => ?_)
      obtain ⟨rfl, rfl⟩ := hq
      simp only [List.nil_append]
      refine .alter (t := 61) (v' := .int .i64 (cu : Nat)) rfl (congrArg (Value.int .i64) hqs) ?_
      refine .on (t := 59) rfl rfl ?_
      refine .rd (.move rfl) ?_
      refine .on (t := 59) rfl rfl ?_
      refine .rd (.neI rfl rfl) ?_
      refine .alter (t := 63) (v' := .bool false) rfl (congrArg Value.bool (by rw [decide_eq_true rfl]; rfl)) ?_
      refine .rd (.pickF rfl rfl) ?_
      refine .rd (.move rfl) ?_
      refine .on (t := 65) rfl rfl ?_
      refine .rd (.move rfl) ?_
      refine .on (t := 65) rfl rfl ?_
      refine .fn rfl rfl .nil ((LG.at .head).mono fun _ h => h.1) (Saved_ok q.lb db (some ⟨q.cur.b, 0, none⟩) q.pre q.most q.start q.high q.la (q.ini.length + 1) q.lc) (fun v G1 hq => ?_)
      obtain ⟨rfl, rfl⟩ := hq
      simp only [List.nil_append]
      refine .alter (t := 67) (v' := .int .i64 (((max l.high (cu : Int)).toNat : Nat) : Int)) rfl (congrArg (Value.int .i64) hqh) ?_
      refine .on (t := 65) rfl rfl ?_
      refine .rd (.move rfl) ?_
      refine .on (t := 65) rfl rfl ?_
      refine .rd (.lt rfl rfl) ?_
      refine .alter (t := 69) (v' := .bool false) rfl (congrArg Value.bool (decide_eq_false (by omega))) ?_
      refine .rd (.pickF rfl rfl) ?_
      refine .nil ?_
      refine .condF rfl ?_
      refine .skip ?_
      refine .seq ?_
      refine .region ?_
      refine .rd (.move rfl) ?_
      refine .rd (.move rfl) ?_
      refine .rd (.nilCheck rfl) ?_
      refine .rd (.fieldAddr fd42_0 rfl) ?_
      refine .rd (.load na39 rfl (Knows.one (i := 0) ((LG.at .head).mono fun _ h => h.1) rfl)) ?_
      refine .fn rfl rfl .nil ((LG.at .head).mono fun _ h => h.2.2 _ q.cur_in) (Next_ok db q.cur hD.ok.cur.1) (fun v G1 hq => ?_)
      obtain ⟨rfl, rfl⟩ := hq
      simp only [List.nil_append]
      refine .alter (t := 76) (v' := .int .i64 l.next) rfl (congrArg (Value.int .i64) hqn) ?_
      refine .rd (.add rfl rfl (by omega) (by omega)) ?_
      have hp3 := pickN_nn (c := off) (n := l.next + 1) (by omega)
      have hp4 := pickN_lt (c := off) (n := l.next + 1) (by omega)
      refine .fn rfl rfl .nil (fun _ _ _ => trivial) (pick_ok off (l.next + 1) h3 (by omega)) (fun v G1 hq => ?_)
      obtain ⟨rfl, rfl⟩ := hq
      simp only [List.nil_append]
      obtain ⟨u, hu⟩ : ∃ u, u = pickN off (l.next + 1) := ⟨_, rfl⟩
      refine .alter (t := 78) (v' := .int .i64 u) rfl (by rw [hu]) ?_
      rw [← hu] at hp3 hp4
      refine .rd (.assign rfl) ?_
      refine .nil ?_
      refine .seq ?_
      refine .region ?_
      refine .rd (.move rfl) ?_
      refine .rd (.move rfl) ?_
      have hql := hD.ok.all_le
      refine .fn rfl rfl (.cons (.tail .head) (.cons (.tail .head) .nil)) (LG.at .head) (LRead_ok db mb e q u 10000000 hD.ok (by omega) (by omega) (by omega)) (fun v G1 hq => ?_)
      obtain ⟨bl, xa, xc, hbl, rfl, rfl⟩ := hq
      simp only [List.cons_append, List.nil_append]
      refine .settle (.tail (.tail .head)) (Settles.arr) ?_
      refine .rd (.move rfl) ?_
      refine .rd (.extract rfl rfl) ?_
      refine .rd (.extract rfl rfl) ?_
      refine .rd (.assign rfl) ?_
      refine .rd (.assign rfl) ?_
      refine .nil ?_
      refine .seq ?_
      refine .seq ?_
      refine .region ?_
      refine .rd (.move rfl) ?_
      refine .rd (.move rfl) ?_
      refine .rd (.lt rfl rfl) ?_
      refine .nil ?_
      refine .condP rfl (fun c13 => ?_) (fun c13 => ?_)
      · rw [if_pos (by omega)] at hbl
        have hb0 : bl.length = 0 := len_map hbl
        refine .alter (t := 15) (v' := .int .i64 10) rfl (congrArg (Value.int .i64) (if_pos (by omega))) ?_
        refine .seq ?_
        refine .region ?_
        refine .rd (.move rfl) ?_
        refine .rd (.eqI rfl rfl) ?_
        refine .alter (t := 89) (v' := .bool true) rfl (congrArg Value.bool (by rfl)) ?_
        refine .rd (.move rfl) ?_
        refine .on (t := 90) rfl rfl ?_
        refine .rd (.move rfl) ?_
        refine .on (t := 90) rfl rfl ?_
        refine .rd (.lenL rfl rfl Tryz.underlying43 rfl) ?_
        refine .on (t := 90) rfl rfl ?_
        refine .rd (.eqI rfl rfl) ?_
        refine .alter (t := 93) (v' := .bool true) rfl (congrArg Value.bool (decide_eq_true (by rw [hb0]; rfl))) ?_
        refine .rd (.pickT rfl rfl) ?_
        refine .rd (.assign rfl) ?_
        refine .nil ?_
        refine .retP Tryz.func4 (.cons (.tmp rfl) .nil) (.cons (.tail (.tail (.tail (.tail (.tail (.tail (.tail .head))))))) .nil) ?_
        exact ⟨[], ⟨rfl, rfl⟩, rfl⟩
      · rw [if_neg (by omega), read_all hD.ok (by omega), keep_eq (n := (cu : Int)) (by omega) hD.keep] at hbl
        refine .alter (t := 15) (v' := .int .i64 0) rfl (congrArg (Value.int .i64) (if_neg (by omega))) ?_
        refine .skip ?_
        refine .seq ?_
        refine .region ?_
        refine .rd (.assign rfl) ?_
        refine .nil ?_
        refine .seq ?_
        refine .seq ?_
        refine .region ?_
        refine .rd (.assign rfl) ?_
        refine .nil ?_
        refine .nilArr 34 6 none ?_
        refine .knowT (Bal []) (Bal.nil) ?_
        have hwn' : wl.length = i := hwn
        refine .block ?_
        refine .loop (σ := Nat × List BatM × Option Addr × Nat) (fun ⟨j, vl, va, vc⟩ => j ≤ wl.length ∧ vl.map (·.1) = keepN u ((wl.take j).map (·.1)) ∧ vl.length ≤ j) (fun ⟨j, vl, va, vc⟩ => wl.length - j) (fun ⟨j, vl, va, vc⟩ => [(3, .int .i64 u), (12, .slice wa wl.length wc), (14, .slice xa bl.length xc), (15, .int .i64 0), (16, .slice va vl.length vc), (17, .int .i64 (j : Nat))]) (fun ⟨j, vl, va, vc⟩ => [arr 34 6 va vc (vl.flatMap bmc), know (Bal vl), know (RowAt wa (wl.flatMap bmc)), know (Bal wl), know (RowAt xa (bl.flatMap bmc)), know (Bal bl), R]) (0, [], none, 0) ⟨Nat.zero_le _, rfl, Nat.le_refl _⟩ (.cons rfl (.cons rfl (.cons rfl (.cons rfl (.cons rfl (.cons rfl .nil)))))) (.cons (.tail .head) (.cons .head (.cons (.tail (.tail (.tail (.tail (.tail .head))))) (.cons (.tail (.tail (.tail (.tail (.tail .head))))) (.cons .head (.cons (.tail (.tail .head)) (.cons (.tail (.tail (.tail .head))) .nil))))))) (fun s' hI ih => ?_)
        obtain ⟨j, vl, va, vc⟩ := s'
        dsimp only at hI ih ⊢
        obtain ⟨hjn, hvl, hvn⟩ := hI
        refine .seq ?_
        refine .seq ?_
        refine .region ?_
        refine .rd (.move rfl) ?_
        refine .rd (.move rfl) ?_
        refine .rd (.lenL rfl rfl Tryz.underlying43 rfl) ?_
        refine .rd (.lt rfl rfl) ?_
        refine .nil ?_
        refine .condP rfl (fun c17 => ?_) (fun c17 => ?_)
        · refine .skip ?_
          refine .seq ?_
          refine .block ?_
          refine .seq ?_
          obtain ⟨y, hy⟩ : ∃ y, wl[j]? = some y := ⟨_, List.getElem?_eq_getElem (by omega)⟩
          have hyg := hok.good _ (all_at hwl hy)
          have hyb := hyg.base
          have hyr := hyg.recs64
          have hye := hyg.en
          have hyl := hyg.lt
          refine .tell (φ := ∃ b o, wa = some ⟨b, o, none⟩) ((Knows.know (.tail (.tail .head))).mono fun _ h => RowAt.addr h (by rw [flat_length bmc_len]; omega)) (fun hh => ?_)
          obtain ⟨b9, o9, h9⟩ := hh
          refine .draws [4, 9] [know (RowAt wa (wl.flatMap bmc))] (by kernel_rfl) ?_
          refine .rp 0 rfl (by kernel_rfl) (by kernel_rfl) (by kernel_rfl) (Reads.pure (.move rfl)) ?_
          refine .rp 1 rfl (by kernel_rfl) (by kernel_rfl) (by kernel_rfl) (Reads.pure (.move rfl)) ?_
          refine .rp 2 rfl (by kernel_rfl) (by kernel_rfl) (by kernel_rfl) (Reads.pure (.indexAddr (b := b9) (o := o9) Tryz.underlying43 ts34 (by show some (Value.slice wa _ _) = _; rw [h9]) rfl (by omega) (by omega))) ?_
          refine .rp 3 rfl (by kernel_rfl) (by kernel_rfl) (by kernel_rfl) (Reads.pure (.fieldAddr fd34_0 rfl)) ?_
          refine .rd 4 rfl rfl (by kernel_rfl) (by kernel_rfl) (by kernel_rfl) (.load na3 rfl (Knows.one (i := 0) (Knows.elem (f := bmc) bmc_len (by decide) ((Knows.know .head).mono fun _ h => h9 ▸ h) hy) rfl)) (.cons (.tail (.tail .head)) .nil) ?_
          refine .rp 5 rfl (by kernel_rfl) (by kernel_rfl) (by kernel_rfl) (Reads.pure (.move rfl)) ?_
          refine .rp 6 rfl (by kernel_rfl) (by kernel_rfl) (by kernel_rfl) (Reads.pure (.move rfl)) ?_
          refine .rp 7 rfl (by kernel_rfl) (by kernel_rfl) (by kernel_rfl) (Reads.pure (.indexAddr (b := b9) (o := o9) Tryz.underlying43 ts34 (by show some (Value.slice wa _ _) = _; rw [h9]) rfl (by omega) (by omega))) ?_
          refine .rp 8 rfl (by kernel_rfl) (by kernel_rfl) (by kernel_rfl) (Reads.pure (.fieldAddr fd34_5 rfl)) ?_
          refine .rd 9 rfl rfl (by kernel_rfl) (by kernel_rfl) (by kernel_rfl) (.load na32 rfl (Knows.one (i := 5) (Knows.elem (f := bmc) bmc_len (by decide) ((Knows.know .head).mono fun _ h => h9 ▸ h) hy) rfl)) (.cons (.tail (.tail .head)) .nil) ?_
          refine .rp 10 rfl (by kernel_rfl) (by kernel_rfl) (by kernel_rfl) (Reads.pure (.lenL rfl rfl Tryz.underlying32 rfl)) ?_
          refine .rp 11 rfl (by kernel_rfl) (by kernel_rfl) (by kernel_rfl) (Reads.pure (.add rfl rfl (by omega) (by omega))) ?_
          refine .alter (t := 112) (v' := .int .i64 y.1.en) rfl (rfl) ?_
          refine .rp 12 rfl (by kernel_rfl) (by kernel_rfl) (by kernel_rfl) (Reads.pure (.move rfl)) ?_
          refine .rp 13 rfl (by kernel_rfl) (by kernel_rfl) (by kernel_rfl) (Reads.pure (.gt rfl rfl)) ?_
          refine .done (by kernel_rfl) ?_
          refine .condP rfl (fun c19 => ?_) (fun c19 => ?_)
          · refine .region ?_
            refine .rd (.move rfl) ?_
            refine .rd (.move rfl) ?_
            refine .rd (.move rfl) ?_
            refine .rd (.indexAddr (b := b9) (o := o9) Tryz.underlying43 ts34 (by show some (Value.slice wa _ _) = _; rw [h9]) rfl (by omega) (by omega)) ?_
            refine .rd (.loadN ia34 ts34 rfl rfl (Knows.elem (f := bmc) bmc_len (by decide) ((Knows.know (.tail (.tail .head))).mono fun _ h => h9 ▸ h) hy)) ?_
            refine .ef (.buildOne (cs := bmc y) Tryz.underlying43 ti34 (by decide) rfl rfl rfl (ones.of rfl)) ?_
            rintro _ _ ⟨bo, rfl, rfl⟩
            refine .ef (.append rfl rfl Tryz.underlying43 ti34 rfl (ones.of rfl) (by decide) (by decide) rfl rfl (.tail .head) (n := vl.length) (m := 1) (flat_length bmc_len _) (.srcBlk .head Tryz.underlying43 rfl (by decide)) (by omega)) ?_
            rintro _ _ ⟨qa, qc, rfl, qn, rfl⟩
            refine .rd (.assign rfl) ?_
            refine .nil ?_
            refine .cast (X' := arr 34 6 qa qc ((vl ++ [y]).flatMap bmc)) (by rw [List.flatMap_append]; simp) ?_
            refine .dup (.tail (.tail (.tail (.tail .head)))) ?_
            refine .knowAnd (Bal (vl ++ [y])) (.cons (.tail (.tail (.tail (.tail .head)))) (.cons .head .nil)) (fun w h1 h2 => h1.snoc (h2 y (List.mem_of_getElem? hy))) ?_
            refine .alter (t := 16) (v' := .slice qa (vl ++ [y]).length qc) rfl (by rw [List.length_append]; rfl) ?_
            refine .inBlock ?_
            refine .region ?_
            refine .rd (.move rfl) ?_
            refine .rd (.add rfl rfl (by omega) (by omega)) ?_
            refine .rd (.assign rfl) ?_
            refine .nil ?_
            exact (ih (j + 1, vl ++ [y], qa, qc) ⟨by show j + 1 ≤ _; omega, by rw [keep_snoc hy, keep_hit c19, List.map_append, hvl]; rfl, by rw [List.length_append]; show vl.length + 1 ≤ j + 1; omega⟩ (by show wl.length - (j + 1) < wl.length - j; omega)).to (.cons rfl (.cons rfl (.cons rfl (.cons rfl (.cons rfl (.cons rfl .nil)))))) (.cons (.tail (.tail .head)) (.cons .head (.cons (.tail (.tail .head)) (.cons .head (.cons (.tail .head) (.cons (.tail .head) (.cons (.tail .head) .nil)))))))
          · refine .skip ?_
            refine .inBlock ?_
            refine .region ?_
            refine .rd (.move rfl) ?_
            refine .rd (.add rfl rfl (by omega) (by omega)) ?_
            refine .rd (.assign rfl) ?_
            refine .nil ?_
            exact (ih (j + 1, vl, va, vc) ⟨by show j + 1 ≤ _; omega, by rw [keep_snoc hy, keep_miss c19, List.append_nil, hvl], by show vl.length ≤ j + 1; omega⟩ (by show wl.length - (j + 1) < wl.length - j; omega)).to (.cons rfl (.cons rfl (.cons rfl (.cons rfl (.cons rfl (.cons rfl .nil)))))) (.cons .head (.cons .head (.cons .head (.cons .head (.cons .head (.cons .head (.cons .head .nil)))))))
        · refine .exit rfl ?_
          refine .seq ?_
          refine .region ?_
          refine .rd (.move rfl) ?_
          refine .rd (.move rfl) ?_
          refine .settle .head (Settles.arr) ?_
          have hje : j = wl.length := by omega
          rw [hje, List.take_length, hwl] at hvl
          have hbn := Nat.le_trans (Nat.le_of_eq (len_map hbl)) (keep_len _ _)
          refine .fn rfl rfl .nil (((Knows.know (.tail (.tail (.tail (.tail .head))))).and (Knows.know (.tail (.tail (.tail (.tail (.tail .head))))))).and ((Knows.know .head).and (Knows.know (.tail .head)))) (sames_ok bl vl xa va xc vc (by omega) (by omega) (bal64 hok hbl keep_sub) (bal64 hok hvl keep_sub)) (fun v G1 hq => ?_)
          obtain ⟨r, rfl, hr, rfl⟩ := hq
          simp only [List.nil_append]
          refine .alter (t := 124) (v' := .bool true) rfl (by rw [hr.2 (by rw [hbl, hvl])]) ?_
          refine .rd (.assign rfl) ?_
          refine .nil ?_
          refine .seq ?_
          refine .region ?_
          refine .rd (.move rfl) ?_
          refine .rd (.eqI rfl rfl) ?_
          refine .alter (t := 126) (v' := .bool true) rfl (congrArg Value.bool (by rfl)) ?_
          refine .rd (.move rfl) ?_
          refine .on (t := 127) rfl rfl ?_
          refine .rd (.move rfl) ?_
          refine .rd (.pickT rfl rfl) ?_
          refine .rd (.assign rfl) ?_
          refine .nil ?_
          refine .retP Tryz.func4 (.cons (.tmp rfl) .nil) (.cons (.tail (.tail (.tail (.tail (.tail (.tail .head)))))) .nil) ?_
          exact ⟨[], ⟨rfl, rfl⟩, rfl⟩
    · refine .condN rfl (fun c7 => ?_) (fun c7 => ?_)
      · have hp1 := pickN_nn (c := which) (n := (wl.length : Int)) (by omega)
        have hp2 := pickN_lt (c := which) (n := (wl.length : Int)) (by omega)
        obtain ⟨j, hj⟩ : ∃ j : Nat, (j : Int) = pickN which wl.length := ⟨(pickN which wl.length).toNat, by omega⟩
        obtain ⟨y, hy⟩ : ∃ y, wl[j]? = some y := ⟨_, List.getElem?_eq_getElem (by omega)⟩
        have hym := all_at hwl hy
        have hyb := mem_base hok hym
        have hy0 := (hok.good _ hym).base
        refine .tell (φ := ∃ b o, wa = some ⟨b, o, none⟩) ((Knows.know .head).mono fun _ h => RowAt.addr h (by rw [flat_length bmc_len]; omega)) (fun hh => ?_)
        obtain ⟨b9, o9, h9⟩ := hh
        refine .region ?_
        refine .rd (.move rfl) ?_
        refine .rd (.move rfl) ?_
        refine .rd (.move rfl) ?_
        refine .rd (.lenL rfl rfl Tryz.underlying43 rfl) ?_
        refine .fn rfl rfl .nil (fun _ _ _ => trivial) (pick_ok which wl.length h2 (by omega)) (fun v G1 hq => ?_)
        obtain ⟨rfl, rfl⟩ := hq
        simp only [List.nil_append]
        refine .alter (t := 51) (v' := .int .i64 (j : Nat)) rfl (by rw [hj]) ?_
        refine .rd (.indexAddr (b := b9) (o := o9) Tryz.underlying43 ts34 (by show some (Value.slice wa _ _) = _; rw [h9]) rfl (by omega) (by omega)) ?_
        refine .rd (.fieldAddr fd34_0 rfl) ?_
        refine .rd (.load na3 rfl (Knows.one (i := 0) (Knows.elem (f := bmc) bmc_len (by decide) ((Knows.know .head).mono fun _ h => h9 ▸ h) hy) rfl)) ?_
        refine .alter (t := 54) (v' := .int .i64 (y.1.base.toNat : Nat)) rfl (congrArg (Value.int .i64) (by show y.1.base = _; omega)) ?_
        refine .rd (.assign rfl) ?_
        refine .nil ?_
        exact fin y.1.base.toNat ⟨.inr ⟨y.1, hym, by omega⟩, by omega⟩ (.cons rfl (.cons rfl (.cons rfl (.cons rfl .nil)))) (.cons (.tail (.tail (.tail (.tail .head)))) (.cons (.tail .head) (.cons (.tail .head) (.cons .head (.cons .head (.cons .head .nil))))))
      · refine .skip ?_
        refine .alter (t := 13) (v' := .int .i64 (l.next.toNat : Nat)) rfl (congrArg (Value.int .i64) (by omega)) ?_
        exact fin l.next.toNat ⟨.inl (by omega), by omega⟩ (.cons rfl (.cons rfl (.cons rfl (.cons rfl .nil)))) (.cons (.tail (.tail (.tail (.tail .head)))) (.cons (.tail .head) (.cons (.tail .head) (.cons .head (.cons .head (.cons .head .nil))))))
  · replace g7 := of_decide_eq_false g7
    refine .off (t := 42) rfl rfl rfl ?_
    refine .off (t := 42) rfl rfl rfl ?_
    refine .off (t := 42) rfl rfl rfl ?_
    refine .rd (.pickF rfl rfl) ?_
    refine .nil ?_
    refine .joinEx (σ := Nat) (φ := fun cu => ((cu : Int) = l.next ∨ ∃ b ∈ l.all, b.base = (cu : Int)) ∧ (cu : Int) ≤ l.next) (E' := fun cu => [(3, .int .i64 off), (10, .pointer (some ⟨l.lb, 0, none⟩)), (12, .slice wa wl.length wc), (13, .int .i64 (cu : Nat))]) (Γ' := fun cu => [LG db l, blk db (d.cells mb) 60, mp nmv Fl.val mb d.fs, know (RowAt wa (wl.flatMap bmc)), know (Bal wl), R]) (fun sj hj => ?_) (fun fin => ?_)
    · obtain ⟨cu, rfl⟩ : ∃ t : Nat, t = sj := ⟨sj, rfl⟩
      obtain ⟨hto, hto2⟩ := hj
      refine .seq ?_
      refine .seq ?_
      refine .region ?_
      refine .rd (.move rfl) ?_
      refine .rd (.move rfl) ?_
      refine .fn rfl rfl (.cons .head (.cons .head (.cons .head .nil))) (Knows.pick (.tail (.tail .head)) (k.mono fun _ h => h.1)) (Delete_ok db mb d l cu hF.dok hok (by omega) hto (by omega) (.inr (by omega)) (by omega)) (fun v G1 hq => ?_)
      obtain ⟨q, e, rfl, hD, rfl⟩ := hq
      simp only [List.cons_append, List.nil_append]
      refine .alter (t := 10) (v' := .pointer (some ⟨q.lb, 0, none⟩)) rfl (by rw [hD.lb]) ?_
      have hqs := hD.start
      have hqh := hD.high
      have hqn : q.next = l.next := by show q.cur.next = _; rw [hD.cur]; rfl
      refine .rd (.neI rfl rfl) ?_
      refine .alter (t := 58) (v' := .bool false) rfl (congrArg Value.bool (by rfl)) ?_
      refine .rd (.move rfl) ?_
      refine .on (t := 59) rfl rfl ?_
      refine .rd (.move rfl) ?_
      refine .on (t := 59) rfl rfl ?_
      refine .fn rfl rfl .nil ((LG.at .head).mono fun _ h => h.1) (Start_ok q.lb db (some ⟨q.cur.b, 0, none⟩) q.pre q.most q.start q.high q.la (q.ini.length + 1) q.lc) (fun v G1 hq => ?_)
      obtain ⟨rfl, rfl⟩ := hq
      simp only [List.nil_append]
      refine .alter (t := 61) (v' := .int .i64 (cu : Nat)) rfl (congrArg (Value.int .i64) hqs) ?_
      refine .on (t := 59) rfl rfl ?_
      refine .rd (.move rfl) ?_
      refine .on (t := 59) rfl rfl ?_
      refine .rd (.neI rfl rfl) ?_
      refine .alter (t := 63) (v' := .bool false) rfl (congrArg Value.bool (by rw [decide_eq_true rfl]; rfl)) ?_
      refine .rd (.pickF rfl rfl) ?_
      refine .rd (.move rfl) ?_
      refine .on (t := 65) rfl rfl ?_
      refine .rd (.move rfl) ?_
      refine .on (t := 65) rfl rfl ?_
      refine .fn rfl rfl .nil ((LG.at .head).mono fun _ h => h.1) (Saved_ok q.lb db (some ⟨q.cur.b, 0, none⟩) q.pre q.most q.start q.high q.la (q.ini.length + 1) q.lc) (fun v G1 hq => ?_)
      obtain ⟨rfl, rfl⟩ := hq
      simp only [List.nil_append]
      refine .alter (t := 67) (v' := .int .i64 (((max l.high (cu : Int)).toNat : Nat) : Int)) rfl (congrArg (Value.int .i64) hqh) ?_
      refine .on (t := 65) rfl rfl ?_
      refine .rd (.move rfl) ?_
      refine .on (t := 65) rfl rfl ?_
      refine .rd (.lt rfl rfl) ?_
      refine .alter (t := 69) (v' := .bool false) rfl (congrArg Value.bool (decide_eq_false (by omega))) ?_
      refine .rd (.pickF rfl rfl) ?_
      refine .nil ?_
      refine .condF rfl ?_
      refine .skip ?_
      refine .seq ?_
      refine .region ?_
      refine .rd (.move rfl) ?_
      refine .rd (.move rfl) ?_
      refine .rd (.nilCheck rfl) ?_
      refine .rd (.fieldAddr fd42_0 rfl) ?_
      refine .rd (.load na39 rfl (Knows.one (i := 0) ((LG.at .head).mono fun _ h => h.1) rfl)) ?_
      refine .fn rfl rfl .nil ((LG.at .head).mono fun _ h => h.2.2 _ q.cur_in) (Next_ok db q.cur hD.ok.cur.1) (fun v G1 hq => ?_)
      obtain ⟨rfl, rfl⟩ := hq
      simp only [List.nil_append]
      refine .alter (t := 76) (v' := .int .i64 l.next) rfl (congrArg (Value.int .i64) hqn) ?_
      refine .rd (.add rfl rfl (by omega) (by omega)) ?_
      have hp3 := pickN_nn (c := off) (n := l.next + 1) (by omega)
      have hp4 := pickN_lt (c := off) (n := l.next + 1) (by omega)
      refine .fn rfl rfl .nil (fun _ _ _ => trivial) (pick_ok off (l.next + 1) h3 (by omega)) (fun v G1 hq => ?_)
      obtain ⟨rfl, rfl⟩ := hq
      simp only [List.nil_append]
      obtain ⟨u, hu⟩ : ∃ u, u = pickN off (l.next + 1) := ⟨_, rfl⟩
      refine .alter (t := 78) (v' := .int .i64 u) rfl (by rw [hu]) ?_
      rw [← hu] at hp3 hp4
      refine .rd (.assign rfl) ?_
      refine .nil ?_
      refine .seq ?_
      refine .region ?_
      refine .rd (.move rfl) ?_
      refine .rd (.move rfl) ?_
      have hql := hD.ok.all_le
      refine .fn rfl rfl (.cons (.tail .head) (.cons (.tail .head) .nil)) (LG.at .head) (LRead_ok db mb e q u 10000000 hD.ok (by omega) (by omega) (by omega)) (fun v G1 hq => ?_)
      obtain ⟨bl, xa, xc, hbl, rfl, rfl⟩ := hq
      simp only [List.cons_append, List.nil_append]
      refine .settle (.tail (.tail .head)) (Settles.arr) ?_
      refine .rd (.move rfl) ?_
      refine .rd (.extract rfl rfl) ?_
      refine .rd (.extract rfl rfl) ?_
      refine .rd (.assign rfl) ?_
      refine .rd (.assign rfl) ?_
      refine .nil ?_
      refine .seq ?_
      refine .seq ?_
      refine .region ?_
      refine .rd (.move rfl) ?_
      refine .rd (.move rfl) ?_
      refine .rd (.lt rfl rfl) ?_
      refine .nil ?_
      refine .condP rfl (fun c13 => ?_) (fun c13 => ?_)
      · rw [if_pos (by omega)] at hbl
        have hb0 : bl.length = 0 := len_map hbl
        refine .alter (t := 15) (v' := .int .i64 10) rfl (congrArg (Value.int .i64) (if_pos (by omega))) ?_
        refine .seq ?_
        refine .region ?_
        refine .rd (.move rfl) ?_
        refine .rd (.eqI rfl rfl) ?_
        refine .alter (t := 89) (v' := .bool true) rfl (congrArg Value.bool (by rfl)) ?_
        refine .rd (.move rfl) ?_
        refine .on (t := 90) rfl rfl ?_
        refine .rd (.move rfl) ?_
        refine .on (t := 90) rfl rfl ?_
        refine .rd (.lenL rfl rfl Tryz.underlying43 rfl) ?_
        refine .on (t := 90) rfl rfl ?_
        refine .rd (.eqI rfl rfl) ?_
        refine .alter (t := 93) (v' := .bool true) rfl (congrArg Value.bool (decide_eq_true (by rw [hb0]; rfl))) ?_
        refine .rd (.pickT rfl rfl) ?_
        refine .rd (.assign rfl) ?_
        refine .nil ?_
        refine .retP Tryz.func4 (.cons (.tmp rfl) .nil) (.cons (.tail (.tail (.tail (.tail (.tail (.tail (.tail .head))))))) .nil) ?_
        exact ⟨[], ⟨rfl, rfl⟩, rfl⟩
      · rw [if_neg (by omega), read_all hD.ok (by omega), keep_eq (n := (cu : Int)) (by omega) hD.keep] at hbl
        refine .alter (t := 15) (v' := .int .i64 0) rfl (congrArg (Value.int .i64) (if_neg (by omega))) ?_
        refine .skip ?_
        refine .seq ?_
        refine .region ?_
        refine .rd (.assign rfl) ?_
        refine .nil ?_
        refine .seq ?_
        refine .seq ?_
        refine .region ?_
        refine .rd (.assign rfl) ?_
        refine .nil ?_
        refine .nilArr 34 6 none ?_
        refine .knowT (Bal []) (Bal.nil) ?_
        have hwn' : wl.length = i := hwn
        refine .block ?_
        refine .loop (σ := Nat × List BatM × Option Addr × Nat) (fun ⟨j, vl, va, vc⟩ => j ≤ wl.length ∧ vl.map (·.1) = keepN u ((wl.take j).map (·.1)) ∧ vl.length ≤ j) (fun ⟨j, vl, va, vc⟩ => wl.length - j) (fun ⟨j, vl, va, vc⟩ => [(3, .int .i64 u), (12, .slice wa wl.length wc), (14, .slice xa bl.length xc), (15, .int .i64 0), (16, .slice va vl.length vc), (17, .int .i64 (j : Nat))]) (fun ⟨j, vl, va, vc⟩ => [arr 34 6 va vc (vl.flatMap bmc), know (Bal vl), know (RowAt wa (wl.flatMap bmc)), know (Bal wl), know (RowAt xa (bl.flatMap bmc)), know (Bal bl), R]) (0, [], none, 0) ⟨Nat.zero_le _, rfl, Nat.le_refl _⟩ (.cons rfl (.cons rfl (.cons rfl (.cons rfl (.cons rfl (.cons rfl .nil)))))) (.cons (.tail .head) (.cons .head (.cons (.tail (.tail (.tail (.tail (.tail .head))))) (.cons (.tail (.tail (.tail (.tail (.tail .head))))) (.cons .head (.cons (.tail (.tail .head)) (.cons (.tail (.tail (.tail .head))) .nil))))))) (fun s' hI ih => ?_)
        obtain ⟨j, vl, va, vc⟩ := s'
        dsimp only at hI ih ⊢
        obtain ⟨hjn, hvl, hvn⟩ := hI
        refine .seq ?_
        refine .seq ?_
        refine .region ?_
        refine .rd (.move rfl) ?_
        refine .rd (.move rfl) ?_
        refine .rd (.lenL rfl rfl Tryz.underlying43 rfl) ?_
        refine .rd (.lt rfl rfl) ?_
        refine .nil ?_
        refine .condP rfl (fun c17 => ?_) (fun c17 => ?_)
        · refine .skip ?_
          refine .seq ?_
          refine .block ?_
          refine .seq ?_
          obtain ⟨y, hy⟩ : ∃ y, wl[j]? = some y := ⟨_, List.getElem?_eq_getElem (by omega)⟩
          have hyg := hok.good _ (all_at hwl hy)
          have hyb := hyg.base
          have hyr := hyg.recs64
          have hye := hyg.en
          have hyl := hyg.lt
          refine .tell (φ := ∃ b o, wa = some ⟨b, o, none⟩) ((Knows.know (.tail (.tail .head))).mono fun _ h => RowAt.addr h (by rw [flat_length bmc_len]; omega)) (fun hh => ?_)
          obtain ⟨b9, o9, h9⟩ := hh
          refine .draws [4, 9] [know (RowAt wa (wl.flatMap bmc))] (by kernel_rfl) ?_
          refine .rp 0 rfl (by kernel_rfl) (by kernel_rfl) (by kernel_rfl) (Reads.pure (.move rfl)) ?_
          refine .rp 1 rfl (by kernel_rfl) (by kernel_rfl) (by kernel_rfl) (Reads.pure (.move rfl)) ?_
          refine .rp 2 rfl (by kernel_rfl) (by kernel_rfl) (by kernel_rfl) (Reads.pure (.indexAddr (b := b9) (o := o9) Tryz.underlying43 ts34 (by show some (Value.slice wa _ _) = _; rw [h9]) rfl (by omega) (by omega))) ?_
          refine .rp 3 rfl (by kernel_rfl) (by kernel_rfl) (by kernel_rfl) (Reads.pure (.fieldAddr fd34_0 rfl)) ?_
          refine .rd 4 rfl rfl (by kernel_rfl) (by kernel_rfl) (by kernel_rfl) (.load na3 rfl (Knows.one (i := 0) (Knows.elem (f := bmc) bmc_len (by decide) ((Knows.know .head).mono fun _ h => h9 ▸ h) hy) rfl)) (.cons (.tail (.tail .head)) .nil) ?_
          refine .rp 5 rfl (by kernel_rfl) (by kernel_rfl) (by kernel_rfl) (Reads.pure (.move rfl)) ?_
          refine .rp 6 rfl (by kernel_rfl) (by kernel_rfl) (by kernel_rfl) (Reads.pure (.move rfl)) ?_
          refine .rp 7 rfl (by kernel_rfl) (by kernel_rfl) (by kernel_rfl) (Reads.pure (.indexAddr (b := b9) (o := o9) Tryz.underlying43 ts34 (by show some (Value.slice wa _ _) = _; rw [h9]) rfl (by omega) (by omega))) ?_
          refine .rp 8 rfl (by kernel_rfl) (by kernel_rfl) (by kernel_rfl) (Reads.pure (.fieldAddr fd34_5 rfl)) ?_
          refine .rd 9 rfl rfl (by kernel_rfl) (by kernel_rfl) (by kernel_rfl) (.load na32 rfl (Knows.one (i := 5) (Knows.elem (f := bmc) bmc_len (by decide) ((Knows.know .head).mono fun _ h => h9 ▸ h) hy) rfl)) (.cons (.tail (.tail .head)) .nil) ?_
          refine .rp 10 rfl (by kernel_rfl) (by kernel_rfl) (by kernel_rfl) (Reads.pure (.lenL rfl rfl Tryz.underlying32 rfl)) ?_
          refine .rp 11 rfl (by kernel_rfl) (by kernel_rfl) (by kernel_rfl) (Reads.pure (.add rfl rfl (by omega) (by omega))) ?_
          refine .alter (t := 112) (v' := .int .i64 y.1.en) rfl (rfl) ?_
          refine .rp 12 rfl (by kernel_rfl) (by kernel_rfl) (by kernel_rfl) (Reads.pure (.move rfl)) ?_
          refine .rp 13 rfl (by kernel_rfl) (by kernel_rfl) (by kernel_rfl) (Reads.pure (.gt rfl rfl)) ?_
          refine .done (by kernel_rfl) ?_
          refine .condP rfl (fun c19 => ?_) (fun c19 => ?_)
          · refine .region ?_
            refine .rd (.move rfl) ?_
            refine .rd (.move rfl) ?_
            refine .rd (.move rfl) ?_
            refine .rd (.indexAddr (b := b9) (o := o9) Tryz.underlying43 ts34 (by show some (Value.slice wa _ _) = _; rw [h9]) rfl (by omega) (by omega)) ?_
            refine .rd (.loadN ia34 ts34 rfl rfl (Knows.elem (f := bmc) bmc_len (by decide) ((Knows.know (.tail (.tail .head))).mono fun _ h => h9 ▸ h) hy)) ?_
            refine .ef (.buildOne (cs := bmc y) Tryz.underlying43 ti34 (by decide) rfl rfl rfl (ones.of rfl)) ?_
            rintro _ _ ⟨bo, rfl, rfl⟩
            refine .ef (.append rfl rfl Tryz.underlying43 ti34 rfl (ones.of rfl) (by decide) (by decide) rfl rfl (.tail .head) (n := vl.length) (m := 1) (flat_length bmc_len _) (.srcBlk .head Tryz.underlying43 rfl (by decide)) (by omega)) ?_
            rintro _ _ ⟨qa, qc, rfl, qn, rfl⟩
            refine .rd (.assign rfl) ?_
            refine .nil ?_
            refine .cast (X' := arr 34 6 qa qc ((vl ++ [y]).flatMap bmc)) (by rw [List.flatMap_append]; simp) ?_
            refine .dup (.tail (.tail (.tail (.tail .head)))) ?_
            refine .knowAnd (Bal (vl ++ [y])) (.cons (.tail (.tail (.tail (.tail .head)))) (.cons .head .nil)) (fun w h1 h2 => h1.snoc (h2 y (List.mem_of_getElem? hy))) ?_
            refine .alter (t := 16) (v' := .slice qa (vl ++ [y]).length qc) rfl (by rw [List.length_append]; rfl) ?_
            refine .inBlock ?_
            refine .region ?_
            refine .rd (.move rfl) ?_
            refine .rd (.add rfl rfl (by omega) (by omega)) ?_
            refine .rd (.assign rfl) ?_
            refine .nil ?_
            exact (ih (j + 1, vl ++ [y], qa, qc) ⟨by show j + 1 ≤ _; omega, by rw [keep_snoc hy, keep_hit c19, List.map_append, hvl]; rfl, by rw [List.length_append]; show vl.length + 1 ≤ j + 1; omega⟩ (by show wl.length - (j + 1) < wl.length - j; omega)).to (.cons rfl (.cons rfl (.cons rfl (.cons rfl (.cons rfl (.cons rfl .nil)))))) (.cons (.tail (.tail .head)) (.cons .head (.cons (.tail (.tail .head)) (.cons .head (.cons (.tail .head) (.cons (.tail .head) (.cons (.tail .head) .nil)))))))
          · refine .skip ?_
            refine .inBlock ?_
            refine .region ?_
            refine .rd (.move rfl) ?_
            refine .rd (.add rfl rfl (by omega) (by omega)) ?_
            refine .rd (.assign rfl) ?_
            refine .nil ?_
            exact (ih (j + 1, vl, va, vc) ⟨by show j + 1 ≤ _; omega, by rw [keep_snoc hy, keep_miss c19, List.append_nil, hvl], by show vl.length ≤ j + 1; omega⟩ (by show wl.length - (j + 1) < wl.length - j; omega)).to (.cons rfl (.cons rfl (.cons rfl (.cons rfl (.cons rfl (.cons rfl .nil)))))) (.cons .head (.cons .head (.cons .head (.cons .head (.cons .head (.cons .head (.cons .head .nil)))))))
        · refine .exit rfl ?_
          refine .seq ?_
          refine .region ?_
          refine .rd (.move rfl) ?_
          refine .rd (.move rfl) ?_
          refine .settle .head (Settles.arr) ?_
          have hje : j = wl.length := by omega
          rw [hje, List.take_length, hwl] at hvl
          have hbn := Nat.le_trans (Nat.le_of_eq (len_map hbl)) (keep_len _ _)
          refine .fn rfl rfl .nil (((Knows.know (.tail (.tail (.tail (.tail .head))))).and (Knows.know (.tail (.tail (.tail (.tail (.tail .head))))))).and ((Knows.know .head).and (Knows.know (.tail .head)))) (sames_ok bl vl xa va xc vc (by omega) (by omega) (bal64 hok hbl keep_sub) (bal64 hok hvl keep_sub)) (fun v G1 hq => ?_)
          obtain ⟨r, rfl, hr, rfl⟩ := hq
          simp only [List.nil_append]
          refine .alter (t := 124) (v' := .bool true) rfl (by rw [hr.2 (by rw [hbl, hvl])]) ?_
          refine .rd (.assign rfl) ?_
          refine .nil ?_
          refine .seq ?_
          refine .region ?_
          refine .rd (.move rfl) ?_
          refine .rd (.eqI rfl rfl) ?_
          refine .alter (t := 126) (v' := .bool true) rfl (congrArg Value.bool (by rfl)) ?_
          refine .rd (.move rfl) ?_
          refine .on (t := 127) rfl rfl ?_
          refine .rd (.move rfl) ?_
          refine .rd (.pickT rfl rfl) ?_
          refine .rd (.assign rfl) ?_
          refine .nil ?_
          refine .retP Tryz.func4 (.cons (.tmp rfl) .nil) (.cons (.tail (.tail (.tail (.tail (.tail (.tail .head)))))) .nil) ?_
          exact ⟨[], ⟨rfl, rfl⟩, rfl⟩
    · refine .condF rfl ?_
      refine .skip ?_
      refine .alter (t := 13) (v' := .int .i64 (l.next.toNat : Nat)) rfl (congrArg (Value.int .i64) (by omega)) ?_
      exact fin l.next.toNat ⟨.inl (by omega), by omega⟩ (.cons rfl (.cons rfl (.cons rfl (.cons rfl .nil)))) (.cons (.tail (.tail (.tail (.tail .head)))) (.cons (.tail .head) (.cons (.tail .head) (.cons .head (.cons .head (.cons .head .nil))))))

end Go.Proofs.YtglhoenjflpibaaGreatDoor


/- A separation logic over the given machine. Part 10: what a statement's arguments are, and a law's row out of its contract. -/
namespace Go.Sp
open Go Go.ChangeShapes Go.WideShapes Go.ChangeAt Go.RowKit

section
variable {H : Type} {enc : TypeId × Value → H} {P : Program} {W : World} {spare : Nat → Bool} {held : Bool}

/-- Every string, slice and map of a reading fits into memory. -/
def Fits (P : Program) (t : TypeId) (d : DataW H) : Prop := ∀ n ∈ d.weights P t, n ≤ 140737488351232

/-- What a reading of type t tells: its cells are those of one of α. -/
def Rd {α : Type} (enc : TypeId × Value → H) (P : Program) (W : World) (spare : Nat → Bool) (held : Bool) (t : TypeId) (cells : α → List Value) (good : α → Prop) : Prop :=
  ∀ (n : Nat) (cs : List Value) (x : DataW H × List MemPlace), DataW.trod enc P W 0 spare held n t cs = some x → Fits P t x.1 → ∃ a, cs = cells a ∧ good a

theorem Rd.int {t} {k : IntKind} (ht : P.underlying t = some (.int k)) : Rd enc P W spare held t (fun n : Int => [.int k n]) (fun n => (Lit.int k n).wf = true) := fun n cs x h _ => by
  obtain ⟨m, rfl, _, hw⟩ := DataW.trod_int ht h
  exact ⟨m, rfl, hw⟩
theorem Rd.bool {t} (ht : P.underlying t = some .bool) : Rd enc P W spare held t (fun b : Bool => [.bool b]) (fun _ => True) := fun n cs x h _ => by
  obtain ⟨m, rfl, _⟩ := DataW.trod_bool ht h
  exact ⟨m, rfl, trivial⟩
theorem Rd.string {t} (ht : P.underlying t = some .string) : Rd enc P W spare held t (fun s : ByteArray => [.string s]) (fun s => s.size ≤ 140737488351232) := fun n cs x h hf => by
  obtain ⟨s, rfl, rfl, _⟩ := DataW.trod_string ht h
  refine ⟨s, rfl, ?_⟩
  have := hf s.data.toList.length (by simp [DataW.weights])
  simpa using this

theorem weightsAll_mem {e : TypeId} {l : List (DataW H)} {d : DataW H} (hd : d ∈ l) {n : Nat} (hn : n ∈ d.weights P e) : n ∈ DataW.weightsAll P e l := by
  induction l with
  | nil => cases hd
  | cons y l ih =>
    rw [DataW.weightsAll, List.mem_append]
    rcases List.mem_cons.1 hd with rfl | h
    · exact .inl hn
    · exact .inr (ih h)
theorem weightsEach_mem {n : Nat} {t : TypeId} {d : DataW H} (hn : n ∈ d.weights P t) : ∀ {ts : List TypeId} {l : List (DataW H)} {i : Nat}, ts[i]? = some t → l[i]? = some d → n ∈ DataW.weightsEach P ts l
  | [], _, _, h, _ => by simp at h
  | _ :: _, [], _, _, h => by simp at h
  | u :: ts, y :: l, 0, h, k => by
    simp at h k; subst h k
    rw [DataW.weightsEach.eq_def]; simp only [List.mem_append]; exact .inl hn
  | u :: ts, y :: l, i + 1, h, k => by
    rw [DataW.weightsEach.eq_def]; simp only [List.mem_append]
    exact .inr (weightsEach_mem hn (ts := ts) (l := l) (i := i) (by simpa using h) (by simpa using k))

/-- One field of a struct. -/
theorem Rd.field {α : Type} {t ft : TypeId} {cells : α → List Value} {good : α → Prop} {fs : Array Field} {n : Nat} {cs : List Value} {x : DataW H × List MemPlace} (ht : P.underlying t = some (.struct fs))
    (h : DataW.trod enc P W 0 spare held n t cs = some x) (hf : Fits P t x.1) (i off sz : Nat) (hi : (fs[i]?).map (fun d => (d.type, d.offset)) = some (ft, off)) (hc : P.cellsOf ft = sz) (r : Rd enc P W spare held ft cells good) :
    ∃ a, (cs.drop off).take sz = cells a ∧ good a := by
  obtain ⟨xs, m, rfl, rfl, hl, hx, hall⟩ := DataW.trod_struct ht h
  cases hfi : fs[i]? with
  | none => simp [hfi] at hi
  | some f =>
    simp [hfi] at hi
    obtain ⟨rfl, rfl⟩ := hi
    have h1 := hall i f hfi
    rw [hc] at h1
    have hlt : i < xs.length := by rw [hx]; exact (Array.getElem?_eq_some_iff.1 hfi).1
    have h2 : xs[i]? = some xs[i] := List.getElem?_eq_getElem hlt
    rw [h2] at h1
    refine r m _ _ h1 fun w hw => hf w ?_
    rw [DataW.weights.eq_def]
    simp only [ht]
    exact weightsEach_mem hw (i := i) (by simp [hfi]) (by simp [h2])

theorem Rd.structLen {t : TypeId} {fs : Array Field} {n : Nat} {cs : List Value} {x : DataW H × List MemPlace} (ht : P.underlying t = some (.struct fs)) (h : DataW.trod enc P W 0 spare held n t cs = some x) : cs.length = P.cellsOf t := by
  obtain ⟨xs, m, rfl, rfl, hl, hx, hall⟩ := DataW.trod_struct ht h
  exact hl

theorem cons_of_len {l : List Value} {n : Nat} (h : l.length = n + 1) : ∃ a t, l = a :: t ∧ t.length = n := by
  cases l with
  | nil => simp at h
  | cons a t => exact ⟨a, t, rfl, by simpa using h⟩

/-- A slice. -/
theorem Rd.slice {α : Type} {t e : TypeId} {s by_ : Nat} {cells : α → List Value} {good : α → Prop} (ht : P.underlying t = some (.slice e)) (hs : P.cellsOf e = s) (hs0 : 0 < s) (hby : P.bytesOf e = by_) (hlen : ∀ a, (cells a).length = s) (hone : ∀ a, ones (cells a))
    (r : Rd enc P W spare held e cells good) :
    Rd enc P W spare held t (fun y : Option Addr × Nat × List α => [.slice y.1 y.2.2.length y.2.1]) (fun y => RowAt y.1 (y.2.2.flatMap cells) W ∧ (∀ a ∈ y.2.2, good a) ∧ y.2.2.length * by_ ≤ 140737488351232 ∧ (y.1 = none → y.2.2 = []) ∧ y.2.2.length ≤ y.2.1) := by
  intro n cs x h hf
  rcases DataW.trod_slice ht h with ⟨rfl, _⟩ | ⟨a, len, cap, elems, rest, m, rfl, rfl, rfl, _, hlc, hcm, hel, heach, _, _⟩
  · exact ⟨(none, 0, []), rfl, .inl rfl, fun _ h => (by cases h), by show 0 * by_ ≤ _; omega, fun _ => rfl, Nat.le_refl _⟩
  · have hw : DataW.weights P t (.slice (elems.map (·.1)) (rest.map (·.1))) = (elems.length + rest.length) * by_ :: (DataW.weightsAll P e (elems.map (·.1)) ++ DataW.weightsAll P e (rest.map (·.1))) := by
      rw [DataW.weights.eq_def]; simp only [ht, hby, List.length_map]
    have hb : len * by_ ≤ 140737488351232 := by
      have h1 := hf _ (by rw [hw]; exact List.mem_cons_self)
      have h2 : len * by_ ≤ (elems.length + rest.length) * by_ := Nat.mul_le_mul_right _ (by omega)
      omega
    have each : ∀ i : Fin len, ∃ y : α, W.cells? 0 (a.add (i * s)) s = some (cells y) ∧ good y := fun i => by
      have h1 := heach i i.2
      rw [hs] at h1
      have hi : (i : Nat) < elems.length := by omega
      rw [List.getElem?_eq_getElem hi, Option.bind_eq_some_iff] at h1
      obtain ⟨cs', hc, hd⟩ := h1
      obtain ⟨y, rfl, hy⟩ := r _ _ _ hd fun w hw' => hf w (by
        rw [hw]
        exact List.mem_cons_of_mem _ (List.mem_append_left _ (weightsAll_mem (List.mem_map_of_mem (List.getElem_mem hi)) hw')))
      exact ⟨y, hc, hy⟩
    let f : Fin len → α := fun i => (each i).choose
    have hf1 : ∀ i : Fin len, W.cells? 0 (a.add (i * s)) s = some (cells (f i)) := fun i => (each i).choose_spec.1
    have hf2 : ∀ i : Fin len, good (f i) := fun i => (each i).choose_spec.2
    have hll : (List.ofFn f).length = len := List.length_ofFn
    refine ⟨(some a, cap, List.ofFn f), by show _ = [Value.slice (some a) (List.ofFn f).length cap]; rw [hll], ?_, ?_, by show (List.ofFn f).length * by_ ≤ _; rw [hll]; exact hb, fun h => (by cases h), by show (List.ofFn f).length ≤ cap; rw [hll]; exact hlc⟩
    · by_cases h0 : len = 0
      · left
        have : List.ofFn f = [] := List.eq_nil_of_length_eq_zero (by rw [hll, h0])
        rw [this]; rfl
      · right
        obtain ⟨_, _, hc0⟩ := World.cells?_some (hf1 ⟨0, by omega⟩)
        have hsp : a.spot = none := by
          have := hc0 0 hs0
          simp only [Nat.zero_mul] at this
          have hz : (cells (f ⟨0, by omega⟩))[0]? = some ((cells (f ⟨0, by omega⟩))[0]'(by rw [hlen]; exact hs0)) := List.getElem?_eq_getElem _
          rw [hz] at this
          simp only [Addr.add, if_true, World.cell?] at this
          split at this
          · split at this
            · cases this
            · simpa using ‹¬ a.spot.isSome = true›
          · cases this
        obtain ⟨b, o, sp⟩ := a
        cases hsp
        refine ⟨b, o, rfl, fun i v hv => ?_, ones.flatMap _ fun y _ => hone y⟩
        have hil : i < (List.ofFn f).length * s := by
          have := (List.getElem?_eq_some_iff.1 hv).1
          rwa [flat_length hlen] at this
        have hq : i / s < len := by rw [← hll]; exact Nat.div_lt_of_lt_mul (by rw [Nat.mul_comm]; exact hil)
        have hr : i % s < s := Nat.mod_lt _ hs0
        have hx : (List.ofFn f)[i / s]? = some (f ⟨i / s, hq⟩) := by rw [List.getElem?_ofFn]; simp [hq]
        obtain ⟨_, _, hc⟩ := World.cells?_some (hf1 ⟨i / s, hq⟩)
        have h1 := hc (i % s) hr
        have hv' : (cells (f ⟨i / s, hq⟩))[i % s]? = some v := by
          have hz : (cells (f ⟨i / s, hq⟩))[i % s]? = some ((cells (f ⟨i / s, hq⟩))[i % s]'(by rw [hlen]; exact hr)) := List.getElem?_eq_getElem _
          have h2 := flat_at hlen _ _ _ hx _ _ hz
          rw [show i / s * s + i % s = i by rw [Nat.mul_comm]; exact Nat.div_add_mod i s] at h2
          rw [h2] at hv
          rw [hz]; exact hv
        rw [hv'] at h1
        rw [Addr_add, Addr_add] at h1
        rw [← h1]
        congr 2
        have := Nat.div_add_mod i s
        rw [Nat.mul_comm] at this
        show o + i = o + i / s * s + i % s
        omega
    · intro y hy
      obtain ⟨i, rfl⟩ := List.mem_ofFn.1 hy
      exact hf2 i

end

theorem okWide_agg {P : Program} {w : World} {r : Reach} {b0 : Nat} {t : TypeId} {fs : Array Field} {v : Value} (ht : P.underlying t = some (.struct fs)) (h : Value.okWide P w r b0 t v) : ∃ cs, v = .agg cs := by
  unfold Value.okWide at h
  rw [ht] at h
  obtain ⟨cs, e, _⟩ := h
  exact ⟨cs, e⟩

/-! ### The row -/

theorem Sat.below {W w' : World} {Γ : List SProp} (h : Sat (amb W) w' (Sp.base W :: Γ)) : Below W.heap.size W w' := by
  have hb : ∀ (k : Nat) (o : Obj), W.heap[k]? = some o → w'.heap[k]? = some o := fun k o hk => h.base k o hk
  obtain ⟨ha, _⟩ := h
  refine ⟨congrArg Amb.os ha, congrArg Amb.tape ha, congrArg Amb.output ha, ?_, fun k hk => ?_⟩
  · by_cases h0 : W.heap.size = 0
    · omega
    · have hlt : W.heap.size - 1 < W.heap.size := by omega
      have h1 := hb (W.heap.size - 1) _ (Array.getElem?_eq_getElem hlt)
      have := (Array.getElem?_eq_some_iff.1 h1).1
      omega
  · have h1 : W.heap[k]? = some W.heap[k] := Array.getElem?_eq_getElem hk
    rw [hb k _ h1, h1]

/-- A law that is proved by a contract: from the memory at the start. -/
theorem Cn.law {P f} {args : List Value} {φ : World → Prop} {W : World} (h : Cn P f args φ [] fun v G => v = .bool true ∧ G = []) (hφ : ∀ w : World, (∀ (b : Nat) (o : Obj), W.heap[b]? = some o → w.heap[b]? = some o) → φ w) :
    Calls P f args.toArray W fun e w' => e = .returned (.bool true) ∧ Below W.heap.size W w' := by
  have h1 := (h (base W) fun A w s => hφ w fun b o hb => s.base b o hb).runs (amb W) [] W (by simpa using Sat.start W)
  refine h1.mono ?_
  rintro e w' ⟨v, Γ', rfl, ⟨Γ1, ⟨rfl, rfl⟩, rfl⟩, s⟩
  exact ⟨rfl, s.below⟩

/-- The same, with what the arguments tell known for good. -/
theorem Cn.lawK {P f} {args : List Value} {φ : World → Prop} {W : World} (h : Cn P f args (fun _ => True) [know φ] fun v G => v = .bool true ∧ G = []) (hφ : ∀ w : World, (∀ (b : Nat) (o : Obj), W.heap[b]? = some o → w.heap[b]? = some o) → φ w) :
    Calls P f args.toArray W fun e w' => e = .returned (.bool true) ∧ Below W.heap.size W w' := by
  have hs : Sat (amb W) W (([know φ] ++ [base W]) ++ []) := by
    have h1 : Sat (amb W) W ([base W] ++ [base W]) := (Sat.start W).map fun _ s => sat.base_dup s
    refine Sat.close (fun h s => ?_) h1
    obtain ⟨k, _, _, l, _, s, _⟩ := s
    obtain ⟨j, jl, jr, e⟩ := sat.base_know hφ s
    exact ⟨j, jl.trans l, jr, e⟩
  refine ((h (base W) fun _ _ _ => trivial).runs (amb W) [] W hs).mono ?_
  rintro e w' ⟨v, Γ', rfl, ⟨Γ1, ⟨rfl, rfl⟩, rfl⟩, s⟩
  exact ⟨rfl, s.below⟩

theorem RowAt.later {W w : World} (H : ∀ (b : Nat) (o : Obj), W.heap[b]? = some o → w.heap[b]? = some o) {a cs} (h : RowAt a cs W) : RowAt a cs w := by
  rcases h with h | ⟨b, o, e, h⟩
  · exact .inl h
  · refine .inr ⟨b, o, e, fun i v hv => ?_, h.2⟩
    have h1 := h.1 i v hv
    unfold World.cell? at h1 ⊢
    cases hb : W.heap[b]? with
    | none => simp [hb] at h1
    | some ob => rw [hb] at h1; rw [H b ob hb]; exact h1

end Go.Sp

/- Chapter 6: what the row's condition gives of the package variables (LV). -/
namespace Go.Proofs.YtglhoenjflpibaaGreatDoor
open Go Go.Sp Go.RowKit

theorem LV_of {W : World} (h : laidMetH Tryz.prog Go.Proofs.YtglhoenjflpibaaGreatDoor.Rows.plogWholeRow.laid W) (hs : W.ShapedOpen Tryz.prog) : LV W := by
  have hl : laidMet Tryz.prog Go.Proofs.YtglhoenjflpibaaGreatDoor.Rows.plogWholeRow.laid W := by
    rw [← MakeChecks.laidMetH_plain _ _ _ (by kernel_rfl)]; exact h
  have h2 := hl.tail.tail
  refine ⟨?_, ?_⟩
  · exact Go.Proofs.cell_of_shapedOpen_int (g := 2) (zero := #[.int .i64 0]) (t := 3) hs (of_decide_eq_true (by kernel_rfl)) (by kernel_rfl) rfl (by kernel_rfl) (by kernel_rfl) Tryz.underlying3
  · exact Lib.tabIs_of_head (g := 5) (t := 202) (e := 158) (n := 20) (by kernel_rfl) (by kernel_rfl) (by kernel_rfl) (by kernel_rfl) (by kernel_rfl) (by kernel_rfl) (rest := _) (by
      have e : (Go.Proofs.YtglhoenjflpibaaGreatDoor.Rows.laid_internal_strconv_uint64pow10 : DataW Unit) = Lib.tabData .u64 Lib.pow10Tab := by kernel_rfl
      exact e ▸ h2)
theorem LV.later {W w : World} (H : ∀ (b : Nat) (o : Obj), W.heap[b]? = some o → w.heap[b]? = some o) (h : LV W) : LV w := by
  have hc : ∀ b off v, W.cell? ⟨b, off, none⟩ = some v → w.cell? ⟨b, off, none⟩ = some v := fun b off v h1 => by
    unfold World.cell? at h1 ⊢
    cases hb : W.heap[b]? with
    | none => simp [hb] at h1
    | some ob => rw [hb] at h1; rw [H b ob hb]; exact h1
  obtain ⟨⟨m, h0⟩, h3⟩ := h
  refine ⟨⟨m, hc _ _ _ h0⟩, ?_⟩
  unfold Lib.TabIs World.var? at h3 ⊢
  cases hg : Tryz.prog.globalNamed powName with
  | none => simp [hg] at h3
  | some g =>
    rw [hg] at h3
    simp only [Option.bind_some] at h3 ⊢
    cases hb : W.heap[g]? with
    | none => simp [hb] at h3
    | some ob => rw [hb] at h3; rw [H g ob hb]; exact h3
/-- A row of numbers among the arguments. -/
theorem i64_wf {n : Int} (h : (Lit.int .i64 n).wf = true) : i64 n := by simpa [i64, Lit.wf, IntKind.min, IntKind.max, IntKind.signed, IntKind.bits] using h
theorem Rd.num {H : Type} {enc : TypeId × Value → H} {P : Program} {W : World} {spare : Nat → Bool} {held : Bool} {t} (ht : P.underlying t = some (.int .i64)) : Rd enc P W spare held t (fun n : Int => [.int .i64 n]) i64 := fun n cs x h hf => by
  obtain ⟨m, e, hm⟩ := Rd.int ht n cs x h hf
  exact ⟨m, e, i64_wf hm⟩
end Go.Proofs.YtglhoenjflpibaaGreatDoor

/- Chapter 6: a log that is cut and gone on with, in plain Lean. -/
namespace Go.Proofs.YtglhoenjflpibaaGreatDoor
open Go Go.Sp

theorem cut_take {off : Int} : ∀ {n : Int} {l : List Bat}, Chain n l → (∀ b ∈ l, b.good) → ∀ (j : Nat), (∀ b ∈ l.take j, b.en ≤ off) → (∀ b, l[j]? = some b → ¬ b.en ≤ off) → cutN off l = l.take j
  | _, [], _, _, j, _, _ => by rw [List.take_nil]; rfl
  | n, b :: l, hc, hg, 0, _, h2 => by
    have hb := h2 b rfl
    refine List.filter_eq_nil_iff.2 fun x hx => ?_
    have : ¬ x.en ≤ off := by
      rcases List.mem_cons.1 hx with rfl | hx
      · exact hb
      · obtain ⟨i, hi⟩ := List.getElem?_of_mem hx
        have h1 := (hc.2.at hi).1
        have h2 := hc.2.mono (fun y hy => hg y (.tail _ hy)) (i := 0) (j := i) (Nat.zero_le _)
        have h3 : nextOf b.en (l.take 0) = b.en := rfl
        have h4 := (hg x (.tail _ hx)).lt
        omega
    simpa using this
  | n, b :: l, hc, hg, j + 1, h1, h2 => by
    have hb : b.en ≤ off := h1 b (by rw [List.take_succ_cons]; exact .head _)
    have ih := cut_take hc.2 (fun x hx => hg x (.tail _ hx)) j (fun x hx => h1 x (by rw [List.take_succ_cons]; exact .tail _ hx)) fun x hx => h2 x (by rw [List.getElem?_cons_succ]; exact hx)
    rw [List.take_succ_cons, ← ih]
    exact List.filter_cons_of_pos (by simpa using hb)
theorem cut_pre {off : Int} : ∀ {n : Int} {l : List Bat}, Chain n l → (∀ b ∈ l, b.good) → ∃ j, cutN off l = l.take j
  | _, [], _, _ => ⟨0, rfl⟩
  | n, b :: l, hc, hg => by
    by_cases h : b.en ≤ off
    · obtain ⟨j, hj⟩ := cut_pre (off := off) hc.2 fun x hx => hg x (.tail _ hx)
      exact ⟨j + 1, by rw [List.take_succ_cons, ← hj]; exact List.filter_cons_of_pos (by simpa using h)⟩
    · exact ⟨0, cut_take hc hg 0 (fun _ hx => by cases hx) fun x hx => by cases hx; exact h⟩
theorem cut_len (n : Int) (l : List Bat) : (cutN n l).length ≤ l.length := List.length_filter_le ..
theorem Filled.cut {i : Nat} {l : Lx} {d : Dk} (h : Filled i l d) {at' : Int} (h0 : 0 ≤ at') : l.start ≤ nextOf (baseOf l) (cutN at' l.all) ∧ nextOf (baseOf l) (cutN at' l.all) ≤ at' := by
  rw [h.start, h.base]
  have hc := h.ok.chain
  rw [h.base] at hc
  obtain ⟨j, hj⟩ := cut_pre (off := at') hc h.ok.good
  refine ⟨?_, nextOf_off h0 fun b hb => by simpa using (List.mem_filter.1 hb).2⟩
  rw [hj]
  exact nextOf_le (hc.take j) fun b hb => h.ok.good b (List.mem_of_mem_take hb)
/-- A log behind a cut, with so many batches more. -/
structure Gone (i : Nat) (l : Lx) (d : Dk) : Prop where
  ok : l.ok d
  dok : d.ok
  own : Own l d
  start : l.start = 0
  num : l.all.length ≤ 60 + i
  nx : l.next ≤ 1200 + 9 * i
  size : d.size = 2000000
  used : d.used ≤ 13680 + 140 * i
  len : d.fs.length ≤ 61 + i
  segs : l.segs.length ≤ 61 + i
theorem Gone.next0 {i l d} (h : Gone i l d) : 0 ≤ l.next := by have := h.ok.start; rw [h.start] at this; exact this.2.2
theorem Gone.begin {i : Nat} {l q : Lx} {d e : Dk} {at' : Int} (h : Filled i l d) (hi : i ≤ 60) (hC : CutTo l d at' q e) (h0 : 0 ≤ at') : Gone 0 q e ∧ q.next ≤ at' ∧ (at' ≤ l.next → q.next ≤ 1200) := by
  have hn : q.next = nextOf (baseOf l) (cutN at' l.all) := by rw [← hC.ok.nextOf, hC.all, hC.base]
  have h1 := h.cut h0
  have h2 := h.nx
  have h3 : nextOf (baseOf l) (cutN at' l.all) ≤ l.next := by
    rw [← h.ok.nextOf]
    refine nextOf_off (nextOf_le h.ok.chain h.ok.good) fun b hb => chain_en h.ok.chain h.ok.good b (List.mem_filter.1 hb).1
  refine ⟨⟨hC.ok, hC.dok, hC.own h.own, hC.start.trans h.start, ?_, by omega, hC.size.trans h.size, ?_, ?_, ?_⟩, by omega, fun _ => by omega⟩
  · rw [hC.all]; have := cut_len at' l.all; rw [h.num] at this; omega
  · have := hC.used; have := h.used; omega
  · have := hC.len; have := h.len; omega
  · have := hC.num; have := h.segs; omega
theorem Gone.step {i k : Nat} {l l' : Lx} {d d' : Dk} (h : Gone i l d) (hA : AppTo l d (sb k l.next) l' d') (hk1 : 1 ≤ k) (hk : k ≤ 9) (hi : i ≤ 30) : Gone (i + 1) l' d' := by
  have hn0 := h.next0
  have hnx := h.nx
  have he : (enc (sb k l.next)).length ≤ 140 := Nat.le_trans (sb_enc hk1 (by omega) hn0 (by omega)) (by omega)
  refine ⟨hA.ok, hA.dok, hA.own, hA.start.trans h.start, by rw [hA.all, List.length_append]; have := h.num; simp; omega, by rw [hA.next, sb_en]; omega, hA.size.trans h.size, ?_, ?_, by have := app_segs hA; have := h.segs; omega⟩
  · rw [hA.used]; have := h.used; omega
  · have := hA.len; have := h.len; omega
theorem take_le {l : List Bat} {u : Int} {j : Nat} {b : Bat} (h : ∀ x ∈ l.take j, x.en ≤ u) (hb : l[j]? = some b) (hu : b.en ≤ u) : ∀ x ∈ l.take (j + 1), x.en ≤ u := fun x hx => by
  rw [List.take_add_one, hb] at hx
  rcases List.mem_append.1 hx with hx | hx
  · exact h x hx
  · rw [List.mem_singleton.1 hx]; exact hu
theorem go_T {wl : List BatM} {j : Nat} {y : BatM} (hy : wl[j]? = some y) (n : Int) : decide (y.1.en ≤ n) = decide (∃ y, wl[j]? = some y ∧ y.1.en ≤ n) :=
  decide_eq_decide.2 ⟨fun h => ⟨y, hy, h⟩, fun ⟨z, hz, h⟩ => by rw [hy] at hz; cases hz; exact h⟩
theorem go_F {wl : List BatM} {j : Nat} (h : ¬ j < wl.length) (n : Int) : false = decide (∃ y, wl[j]? = some y ∧ y.1.en ≤ n) :=
  (decide_eq_false fun ⟨y, hy, _⟩ => h (List.getElem?_eq_some_iff.1 hy).1).symm
end Go.Proofs.YtglhoenjflpibaaGreatDoor

namespace Go.Proofs.YtglhoenjflpibaaGreatDoor
open Go Go.Sp

set_option linter.unusedVariables false

namespace log18
theorem fd42_0 : FD Tryz.prog 42 0 0 := .of Tryz.underlying42 (by kernel_rfl)
theorem na39 : NotAgg Tryz.prog 39 := ⟨_, Tryz.underlying39, trivial⟩
theorem ts34 : TS Tryz.prog 34 6 := .of (by kernel_rfl)
theorem fd34_0 : FD Tryz.prog 34 0 0 := .of Tryz.underlying34 (by kernel_rfl)
theorem na3 : NotAgg Tryz.prog 3 := ⟨_, Tryz.underlying3, trivial⟩
theorem fd34_5 : FD Tryz.prog 34 5 5 := .of Tryz.underlying34 (by kernel_rfl)
theorem na32 : NotAgg Tryz.prog 32 := ⟨_, Tryz.underlying32, trivial⟩
theorem ia34 : IsAgg Tryz.prog 34 := ⟨_, Tryz.underlying34, trivial⟩
theorem ti34 : TI Tryz.prog 34 6 64 (.agg #[.int .i64 0, .int .i64 0, .int .i64 0, .int .i64 0, .int .i64 0, .slice none 0 0]) := .of (by kernel_rfl)
theorem ts3 : TS Tryz.prog 3 1 := .of (by kernel_rfl)
end log18
open log18



set_option maxHeartbeats 4000000 in
set_option maxRecDepth 20000 in
open Classical in
theorem PlogCuts_ok (most : Int) (sa : Option Addr) (sizes : List Int) (sc : Nat) (cut : Int) (ma : Option Addr) (more : List Int) (mc : Nat) (h0 : i64 most) (hsz : ∀ x ∈ sizes, i64 x) (hsl : sizes.length ≤ 140737488351232) (h2 : i64 cut) (hmz : ∀ x ∈ more, i64 x) (hml : more.length ≤ 140737488351232) : Cn Tryz.prog 5 [.int .i64 most, .slice sa sizes.length sc, .int .i64 cut, .slice ma more.length mc] (fun w => LV w ∧ RowAt sa (sizes.flatMap icI) w ∧ RowAt ma (more.flatMap icI) w) [] fun v G => v = .bool true ∧ G = [] := by
  refine .enter Tryz.func5 rfl (by kernel_rfl) rfl fun R k => ?_
  refine .seq ?_
  refine .region ?_
  refine .rd (.assign rfl) ?_
  refine .nil ?_
  refine .seq ?_
  refine .region ?_
  refine .fn rfl rfl .nil (Knows.pick .head (k.mono fun _ h => h.1)) (shown_ok) (fun v G1 hq => ?_)
  obtain ⟨rfl, rfl⟩ := hq
  simp only [List.nil_append]
  refine .rd (.assign rfl) ?_
  refine .nil ?_
  refine .seq ?_
  refine .region ?_
  refine .rd (.move rfl) ?_
  refine .rd (.move rfl) ?_
  refine .fn rfl rfl .nil (Knows.pick .head (k.mono fun _ h => ⟨h.1, h.2.1⟩)) (filled_ok most sa sizes sc h0 hsz hsl) (fun v G1 hq => ?_)
  obtain ⟨i, l, db, mb, d, rfl, hi60, hF, rfl⟩ := hq
  simp only [List.cons_append, List.nil_append]
  refine .rd (.move rfl) ?_
  refine .rd (.extract rfl rfl) ?_
  refine .rd (.extract rfl rfl) ?_
  refine .rd (.assign rfl) ?_
  refine .rd (.assign rfl) ?_
  refine .nil ?_
  refine .alter (t := 10) (v' := .pointer (some ⟨l.lb, 0, none⟩)) rfl (rfl) ?_
  have hnx := hF.nx
  have hn0 := hF.next0
  have hok := hF.ok
  have hus := hF.used
  have hln := hF.len
  have hsi := hF.size
  have hst := hF.start
  have hhi := hF.high
  have hnu := hF.num
  refine .seq ?_
  refine .seq ?_
  refine .region ?_
  refine .rd (.move rfl) ?_
  refine .rd (.not rfl) ?_
  refine .rd (.move rfl) ?_
  refine .on (t := 27) rfl rfl ?_
  refine .rd (.move rfl) ?_
  refine .on (t := 27) rfl rfl ?_
  refine .rd (.eqNilP Tryz.underlying28 rfl rfl) ?_
  refine .rd (.pickF rfl rfl) ?_
  refine .nil ?_
  refine .condF rfl ?_
  refine .skip ?_
  refine .seq ?_
  refine .region ?_
  refine .rd (.move rfl) ?_
  refine .fn rfl rfl (.cons (.tail .head) (.cons (.tail .head) .nil)) (LG.at .head) (All_ok db mb d l hok (by omega)) (fun v G1 hq => ?_)
  obtain ⟨wl, wa, wc, hwl, rfl, rfl⟩ := hq
  simp only [List.cons_append, List.nil_append]
  refine .settle (.tail (.tail .head)) (Settles.arr) ?_
  rw [hst, keep_zero hok.good] at hwl
  have hwn : wl.length = i := (len_map hwl).trans hnu
  refine .rd (.assign rfl) ?_
  refine .nil ?_
  refine .seq ?_
  refine .region ?_
  refine .rd (.move rfl) ?_
  refine .rd (.move rfl) ?_
  refine .rd (.nilCheck rfl) ?_
  refine .rd (.fieldAddr fd42_0 rfl) ?_
  refine .rd (.load na39 rfl (Knows.one (i := 0) ((LG.at (.tail (.tail (.tail (.tail .head))))).mono fun _ h => h.1) rfl)) ?_
  refine .fn rfl rfl .nil ((LG.at (.tail (.tail (.tail (.tail .head))))).mono fun _ h => h.2.2 _ l.cur_in) (Next_ok db l.cur hok.cur.1) (fun v G1 hq => ?_)
  obtain ⟨rfl, rfl⟩ := hq
  simp only [List.nil_append]
  refine .alter (t := 38) (v' := .int .i64 l.next) rfl (rfl) ?_
  refine .rd (.add rfl rfl (by omega) (by omega)) ?_
  have hp3 := pickN_nn (c := cut) (n := l.next + 1) (by omega)
  have hp4 := pickN_lt (c := cut) (n := l.next + 1) (by omega)
  refine .fn rfl rfl .nil (fun _ _ _ => trivial) (pick_ok cut (l.next + 1) h2 (by omega)) (fun v G1 hq => ?_)
  obtain ⟨rfl, rfl⟩ := hq
  simp only [List.nil_append]
  obtain ⟨u, hu⟩ : ∃ u, u = pickN cut (l.next + 1) := ⟨_, rfl⟩
  refine .alter (t := 40) (v' := .int .i64 u) rfl (by rw [hu]) ?_
  rw [← hu] at hp3 hp4
  refine .rd (.assign rfl) ?_
  refine .nil ?_
  refine .seq ?_
  refine .seq ?_
  refine .region ?_
  refine .rd (.move rfl) ?_
  refine .rd (.move rfl) ?_
  obtain ⟨hge, hle⟩ := hF.cut hp3
  refine .fn rfl rfl (.cons (.tail (.tail (.tail (.tail .head)))) (.cons (.tail .head) (.cons (.tail .head) .nil))) (Knows.pick (.tail (.tail .head)) (k.mono fun _ h => h.1)) (LCut_ok db mb d l u hF.dok hok (by omega) (by omega) hge) (fun v G1 hq => ?_)
  obtain ⟨q, e, rfl, hC, rfl⟩ := hq
  simp only [List.cons_append, List.nil_append]
  refine .alter (t := 10) (v' := .pointer (some ⟨q.lb, 0, none⟩)) rfl (by rw [hC.lb]) ?_
  obtain ⟨hG0, hqu, _⟩ := Gone.begin hF hi60 hC hp3
  refine .rd (.neI rfl rfl) ?_
  refine .alter (t := 44) (v' := .bool false) rfl (congrArg Value.bool (by rfl)) ?_
  refine .rd (.move rfl) ?_
  refine .on (t := 45) rfl rfl ?_
  refine .rd (.move rfl) ?_
  refine .on (t := 45) rfl rfl ?_
  refine .rd (.nilCheck rfl) ?_
  refine .on (t := 45) rfl rfl ?_
  refine .rd (.fieldAddr fd42_0 rfl) ?_
  refine .on (t := 45) rfl rfl ?_
  refine .rd (.load na39 rfl (Knows.one (i := 0) ((LG.at .head).mono fun _ h => h.1) rfl)) ?_
  refine .on (t := 45) rfl rfl ?_
  refine .fn rfl rfl .nil ((LG.at .head).mono fun _ h => h.2.2 _ q.cur_in) (Next_ok db q.cur hC.ok.cur.1) (fun v G1 hq => ?_)
  obtain ⟨rfl, rfl⟩ := hq
  simp only [List.nil_append]
  refine .alter (t := 50) (v' := .int .i64 q.next) rfl (rfl) ?_
  refine .on (t := 45) rfl rfl ?_
  refine .rd (.move rfl) ?_
  refine .on (t := 45) rfl rfl ?_
  refine .rd (.gt rfl rfl) ?_
  refine .alter (t := 52) (v' := .bool false) rfl (congrArg Value.bool (decide_eq_false (by omega))) ?_
  refine .rd (.pickF rfl rfl) ?_
  refine .nil ?_
  refine .condF rfl ?_
  refine .skip ?_
  refine .seq ?_
  refine .region ?_
  refine .rd (.assign rfl) ?_
  refine .nil ?_
  refine .seq ?_
  refine .seq ?_
  refine .region ?_
  refine .rd (.assign rfl) ?_
  refine .nil ?_
  refine .nilArr 34 6 none ?_
  refine .block ?_
  refine .loop (σ := Nat × Option Addr × Nat) (fun ⟨j, va, vc⟩ => j ≤ wl.length ∧ ∀ b ∈ l.all.take j, b.en ≤ u) (fun ⟨j, va, vc⟩ => wl.length - j) (fun ⟨j, va, vc⟩ => [(3, .slice ma more.length mc), (10, .pointer (some ⟨q.lb, 0, none⟩)), (12, .slice wa wl.length wc), (13, .int .i64 u), (14, .slice va j vc), (15, .int .i64 (j : Nat))]) (fun ⟨j, va, vc⟩ => [arr 34 6 va vc ((wl.take j).flatMap bmc), LG db q, blk db (e.cells mb) 60, mp nmv Fl.val mb e.fs, know (RowAt wa (wl.flatMap bmc)), know (Bal wl), R]) (0, none, 0) ⟨Nat.zero_le _, fun _ h => (by cases h)⟩ (.cons rfl (.cons rfl (.cons rfl (.cons rfl (.cons rfl (.cons rfl .nil)))))) (.cons .head (.cons .head (.cons .head (.cons .head (.cons .head (.cons .head (.cons .head .nil))))))) (fun s' hI ih => ?_)
  obtain ⟨j, va, vc⟩ := s'
  dsimp only at hI ih ⊢
  obtain ⟨hjn, hjl⟩ := hI
  have hjt : (wl.take j).length = j := by rw [List.length_take]; omega
  refine .seq ?_
  refine .seq ?_
  refine .drawsJoin [9, 14] [know (RowAt wa (wl.flatMap bmc))] 73 (decide (∃ y : BatM, wl[j]? = some y ∧ y.1.en ≤ u)) (by kernel_rfl) ?_ ?_
  · refine .rp 0 rfl (by kernel_rfl) (by kernel_rfl) (by kernel_rfl) (Reads.pure (.move rfl)) ?_
    refine .rp 1 rfl (by kernel_rfl) (by kernel_rfl) (by kernel_rfl) (Reads.pure (.move rfl)) ?_
    refine .rp 2 rfl (by kernel_rfl) (by kernel_rfl) (by kernel_rfl) (Reads.pure (.lenL rfl rfl Tryz.underlying43 rfl)) ?_
    refine .rp 3 rfl (by kernel_rfl) (by kernel_rfl) (by kernel_rfl) (Reads.pure (.lt rfl rfl)) ?_
    refine .rp 4 rfl (by kernel_rfl) (by kernel_rfl) (by kernel_rfl) (Reads.pure (.move rfl)) ?_
    refine .split (t := 58) rfl (fun g11 => ?_) (fun g11 => ?_)
    · replace g11 := of_decide_eq_true g11
      obtain ⟨y, hy⟩ : ∃ y, wl[j]? = some y := ⟨_, List.getElem?_eq_getElem (by omega)⟩
      have hyg := hok.good _ (all_at hwl hy)
      have hyb := hyg.base
      have hyr := hyg.recs64
      have hye := hyg.en
      have hyl := hyg.lt
      refine .tell (φ := ∃ b o, wa = some ⟨b, o, none⟩) ((Knows.know (.tail (.tail (.tail (.tail .head))))).mono fun _ h => RowAt.addr h (by rw [flat_length bmc_len]; omega)) (fun hh => ?_)
      obtain ⟨b9, o9, h9⟩ := hh
      refine .rpG 5 (t := 58) rfl rfl rfl (by kernel_rfl) (by kernel_rfl) (by kernel_rfl) (Reads.pure (.move rfl)) ?_
      refine .rpG 6 (t := 58) rfl rfl rfl (by kernel_rfl) (by kernel_rfl) (by kernel_rfl) (Reads.pure (.move rfl)) ?_
      refine .rpG 7 (t := 58) rfl rfl rfl (by kernel_rfl) (by kernel_rfl) (by kernel_rfl) (Reads.pure (.indexAddr (b := b9) (o := o9) Tryz.underlying43 ts34 (by show some (Value.slice wa _ _) = _; rw [h9]) rfl (by omega) (by omega))) ?_
      refine .rpG 8 (t := 58) rfl rfl rfl (by kernel_rfl) (by kernel_rfl) (by kernel_rfl) (Reads.pure (.fieldAddr fd34_0 rfl)) ?_
      refine .rdG 9 (t := 58) rfl rfl rfl rfl (by kernel_rfl) (by kernel_rfl) (by kernel_rfl) (.load na3 rfl (Knows.one (i := 0) (Knows.elem (f := bmc) bmc_len (by decide) ((Knows.know .head).mono fun _ h => h9 ▸ h) hy) rfl)) (.cons (.tail (.tail (.tail (.tail .head)))) .nil) ?_
      refine .rpG 10 (t := 58) rfl rfl rfl (by kernel_rfl) (by kernel_rfl) (by kernel_rfl) (Reads.pure (.move rfl)) ?_
      refine .rpG 11 (t := 58) rfl rfl rfl (by kernel_rfl) (by kernel_rfl) (by kernel_rfl) (Reads.pure (.move rfl)) ?_
      refine .rpG 12 (t := 58) rfl rfl rfl (by kernel_rfl) (by kernel_rfl) (by kernel_rfl) (Reads.pure (.indexAddr (b := b9) (o := o9) Tryz.underlying43 ts34 (by show some (Value.slice wa _ _) = _; rw [h9]) rfl (by omega) (by omega))) ?_
      refine .rpG 13 (t := 58) rfl rfl rfl (by kernel_rfl) (by kernel_rfl) (by kernel_rfl) (Reads.pure (.fieldAddr fd34_5 rfl)) ?_
      refine .rdG 14 (t := 58) rfl rfl rfl rfl (by kernel_rfl) (by kernel_rfl) (by kernel_rfl) (.load na32 rfl (Knows.one (i := 5) (Knows.elem (f := bmc) bmc_len (by decide) ((Knows.know .head).mono fun _ h => h9 ▸ h) hy) rfl)) (.cons (.tail (.tail (.tail (.tail .head)))) .nil) ?_
      refine .rpG 15 (t := 58) rfl rfl rfl (by kernel_rfl) (by kernel_rfl) (by kernel_rfl) (Reads.pure (.lenL rfl rfl Tryz.underlying32 rfl)) ?_
      refine .rpG 16 (t := 58) rfl rfl rfl (by kernel_rfl) (by kernel_rfl) (by kernel_rfl) (Reads.pure (.add rfl rfl (by omega) (by omega))) ?_
      refine .alter (t := 70) (v' := .int .i64 y.1.en) rfl (rfl) ?_
      refine .rpG 17 (t := 58) rfl rfl rfl (by kernel_rfl) (by kernel_rfl) (by kernel_rfl) (Reads.pure (.move rfl)) ?_
      refine .rpG 18 (t := 58) rfl rfl rfl (by kernel_rfl) (by kernel_rfl) (by kernel_rfl) (Reads.pure (.le rfl rfl)) ?_
      refine .rp 19 rfl (by kernel_rfl) (by kernel_rfl) (by kernel_rfl) (Reads.pure (.pickT rfl rfl)) ?_
      refine .done (by kernel_rfl) ⟨rfl, ?_, by repeat (first | exact Le.refl _ | refine Le.skip rfl ?_)⟩
      exact congrArg (fun x => some (Value.bool x)) (go_T hy u)
    · replace g11 := of_decide_eq_false g11
      refine .off 5 (t := 58) rfl rfl rfl rfl (by kernel_rfl) (by kernel_rfl) (by kernel_rfl) ?_
      refine .off 6 (t := 58) rfl rfl rfl rfl (by kernel_rfl) (by kernel_rfl) (by kernel_rfl) ?_
      refine .off 7 (t := 58) rfl rfl rfl rfl (by kernel_rfl) (by kernel_rfl) (by kernel_rfl) ?_
      refine .off 8 (t := 58) rfl rfl rfl rfl (by kernel_rfl) (by kernel_rfl) (by kernel_rfl) ?_
      refine .off 9 (t := 58) rfl rfl rfl rfl (by kernel_rfl) (by kernel_rfl) (by kernel_rfl) ?_
      refine .off 10 (t := 58) rfl rfl rfl rfl (by kernel_rfl) (by kernel_rfl) (by kernel_rfl) ?_
      refine .off 11 (t := 58) rfl rfl rfl rfl (by kernel_rfl) (by kernel_rfl) (by kernel_rfl) ?_
      refine .off 12 (t := 58) rfl rfl rfl rfl (by kernel_rfl) (by kernel_rfl) (by kernel_rfl) ?_
      refine .off 13 (t := 58) rfl rfl rfl rfl (by kernel_rfl) (by kernel_rfl) (by kernel_rfl) ?_
      refine .off 14 (t := 58) rfl rfl rfl rfl (by kernel_rfl) (by kernel_rfl) (by kernel_rfl) ?_
      refine .off 15 (t := 58) rfl rfl rfl rfl (by kernel_rfl) (by kernel_rfl) (by kernel_rfl) ?_
      refine .off 16 (t := 58) rfl rfl rfl rfl (by kernel_rfl) (by kernel_rfl) (by kernel_rfl) ?_
      refine .off 17 (t := 58) rfl rfl rfl rfl (by kernel_rfl) (by kernel_rfl) (by kernel_rfl) ?_
      refine .off 18 (t := 58) rfl rfl rfl rfl (by kernel_rfl) (by kernel_rfl) (by kernel_rfl) ?_
      refine .rp 19 rfl (by kernel_rfl) (by kernel_rfl) (by kernel_rfl) (Reads.pure (.pickF rfl rfl)) ?_
      refine .done (by kernel_rfl) ⟨rfl, ?_, by repeat (first | exact Le.refl _ | refine Le.skip rfl ?_)⟩
      exact congrArg (fun x => some (Value.bool x)) (go_F (by omega) u)
  refine .condP rfl (fun c11 => ?_) (fun c11 => ?_)
  · refine .skip ?_
    refine .seq ?_
    refine .block ?_
    obtain ⟨y, hy, hyu⟩ := c11
    have hjw := (List.getElem?_eq_some_iff.1 hy).1
    refine .tell (φ := ∃ b o, wa = some ⟨b, o, none⟩) ((Knows.know (.tail (.tail (.tail (.tail .head))))).mono fun _ h => RowAt.addr h (by rw [flat_length bmc_len]; omega)) (fun hh => ?_)
    obtain ⟨b9, o9, h9⟩ := hh
    refine .region ?_
    refine .rd (.move rfl) ?_
    refine .rd (.move rfl) ?_
    refine .rd (.move rfl) ?_
    refine .rd (.indexAddr (b := b9) (o := o9) Tryz.underlying43 ts34 (by show some (Value.slice wa _ _) = _; rw [h9]) rfl (by omega) (by omega)) ?_
    refine .rd (.loadN ia34 ts34 rfl rfl (Knows.elem (f := bmc) bmc_len (by decide) ((Knows.know (.tail (.tail (.tail (.tail .head))))).mono fun _ h => h9 ▸ h) hy)) ?_
    refine .ef (.buildOne (cs := bmc y) Tryz.underlying43 ti34 (by decide) rfl rfl rfl (ones.of rfl)) ?_
    rintro _ _ ⟨bo, rfl, rfl⟩
    refine .ef (.append rfl rfl Tryz.underlying43 ti34 rfl (ones.of rfl) (by decide) (by decide) rfl rfl (.tail .head) (n := j) (m := 1) (by rw [flat_length bmc_len, hjt]) (.srcBlk .head Tryz.underlying43 rfl (by decide)) (by omega)) ?_
    rintro _ _ ⟨qa, qc, rfl, qn, rfl⟩
    refine .rd (.assign rfl) ?_
    refine .nil ?_
    refine .cast (X' := arr 34 6 qa qc ((wl.take (j + 1)).flatMap bmc)) (by rw [List.take_add_one, hy, List.flatMap_append]; simp) ?_
    refine .inBlock ?_
    refine .region ?_
    refine .rd (.move rfl) ?_
    refine .rd (.add rfl rfl (by omega) (by omega)) ?_
    refine .rd (.assign rfl) ?_
    refine .nil ?_
    exact (ih (j + 1, qa, qc) ⟨by show j + 1 ≤ _; omega, take_le hjl (map_get hwl hy) hyu⟩ (by show wl.length - (j + 1) < wl.length - j; omega)).to (.cons rfl (.cons rfl (.cons rfl (.cons rfl (.cons rfl (.cons rfl .nil)))))) (.cons .head (.cons (.tail .head) (.cons (.tail .head) (.cons (.tail .head) (.cons (.tail .head) (.cons (.tail .head) (.cons (.tail .head) .nil)))))))
  · refine .exit rfl ?_
    refine .seq ?_
    refine .seq ?_
    refine .region ?_
    refine .rd (.assign rfl) ?_
    refine .nil ?_
    have hcw : (wl.take j).map (·.1) = q.all := by
      rw [List.map_take, hwl, hC.all]
      have hch := hok.chain
      refine (cut_take hch hok.good j hjl fun b hb hbu => c11 ?_).symm
      obtain ⟨y, hy, rfl⟩ : ∃ y, wl[j]? = some y ∧ y.1 = b := by rw [← hwl, List.getElem?_map] at hb; exact Option.map_eq_some_iff.1 hb
      exact ⟨y, hy, hbu⟩
    refine .dup (.tail (.tail (.tail (.tail (.tail .head))))) ?_
    refine .knowMono (Bal (wl.take j)) .head (fun w h y hy => h y (List.mem_of_mem_take hy)) ?_
    refine .alter (t := 14) (v' := .slice va (wl.take j).length vc) rfl (by rw [hjt]) ?_
    have hvn : (wl.take j).length ≤ 60 + 0 := by rw [List.length_take, len_map hwl]; omega
    refine .block ?_
    refine .loop (σ := Nat × Lx × Dk × List BatM × Option Addr × Nat) (fun ⟨i2, q2, d2, vl, va2, vc2⟩ => i2 ≤ more.length ∧ i2 ≤ 30 ∧ Gone i2 q2 d2 ∧ vl.map (·.1) = q2.all) (fun ⟨i2, q2, d2, vl, va2, vc2⟩ => more.length - i2) (fun ⟨i2, q2, d2, vl, va2, vc2⟩ => [(3, .slice ma more.length mc), (10, .pointer (some ⟨q2.lb, 0, none⟩)), (14, .slice va2 vl.length vc2), (16, .int .i64 (i2 : Nat))]) (fun ⟨i2, q2, d2, vl, va2, vc2⟩ => [arr 34 6 va2 vc2 (vl.flatMap bmc), know (Bal vl), LG db q2, blk db (d2.cells mb) 60, mp nmv Fl.val mb d2.fs, R]) (0, q, e, wl.take j, va, vc) ⟨Nat.zero_le _, Nat.zero_le _, hG0, hcw⟩ (.cons rfl (.cons rfl (.cons rfl (.cons rfl .nil)))) (.cons (.tail (.tail .head)) (.cons .head (.cons (.tail .head) (.cons (.tail .head) (.cons (.tail .head) (.cons (.tail (.tail .head)) .nil)))))) (fun s2 hI ih => ?_)
    obtain ⟨i2, q2, d2, vl, va2, vc2⟩ := s2
    dsimp only at hI ih ⊢
    obtain ⟨him, hi30, hG, hvl⟩ := hI
    have hgx := hG.nx
    have hgu := hG.used
    have hgl := hG.len
    have hgs := hG.size
    have hg0 := hG.next0
    have hgn := hG.num
    have hvln := len_map hvl
    refine .seq ?_
    refine .seq ?_
    refine .region ?_
    refine RunO.join 8 90 (decide (i2 < more.length ∧ i2 < 30)) ?_ ?_
    · refine .rd (.move rfl) ?_
      refine .rd (.move rfl) ?_
      refine .rd (.lenL rfl rfl Tryz.underlying22 rfl) ?_
      refine .rd (.lt rfl rfl) ?_
      refine .rd (.move rfl) ?_
      refine .split (t := 87) rfl (fun g15 => ?_) (fun g15 => ?_)
      · replace g15 := of_decide_eq_true g15
        refine .on (t := 87) rfl rfl ?_
        refine .rd (.move rfl) ?_
        refine .on (t := 87) rfl rfl ?_
        refine .rd (.lt rfl rfl) ?_
        refine .rd (.pickT rfl rfl) ?_
        refine .nil ⟨rfl, ?_, by repeat (first | exact Le.refl _ | refine Le.skip rfl ?_)⟩
        exact congrArg (fun x => some (Value.bool x)) (decide_eq_decide.2 (by omega))
      · replace g15 := of_decide_eq_false g15
        refine .off (t := 87) rfl rfl rfl ?_
        refine .off (t := 87) rfl rfl rfl ?_
        refine .rd (.pickF rfl rfl) ?_
        refine .nil ⟨rfl, ?_, by repeat (first | exact Le.refl _ | refine Le.skip rfl ?_)⟩
        exact congrArg (fun x => some (Value.bool x)) ((decide_eq_false (by omega)).symm)
    refine .nil ?_
    refine .condP rfl (fun c15 => ?_) (fun c15 => ?_)
    · refine .skip ?_
      refine .seq ?_
      refine .block ?_
      refine .seq ?_
      obtain ⟨x, hx⟩ : ∃ x, more[i2]? = some x := ⟨_, List.getElem?_eq_getElem (by omega)⟩
      refine .tell (φ := ∃ b o, ma = some ⟨b, o, none⟩) (Knows.pick (.tail (.tail (.tail (.tail (.tail .head))))) (k.mono fun _ h => RowAt.addr h.2.2 (by rw [flat_length icI_len]; omega))) (fun hh => ?_)
      obtain ⟨b9, o9, h9⟩ := hh
      refine .region ?_
      refine .rd (.move rfl) ?_
      refine .rd (.move rfl) ?_
      refine .rd (.indexAddr (b := b9) (o := o9) Tryz.underlying22 ts3 (by show some (Value.slice ma _ _) = _; rw [h9]) rfl (by omega) (by omega)) ?_
      refine .rd (.load na3 rfl (Knows.one (i := 0) (Knows.elem (f := icI) icI_len (by decide) (Knows.pick (.tail (.tail (.tail (.tail (.tail .head))))) (k.mono fun _ h => h9 ▸ h.2.2)) hx) rfl)) ?_
      have hp1 := pickN_nn (c := x) (n := 9) (by decide)
      have hp2 := pickN_lt (c := x) (n := 9) (by decide)
      refine .fn rfl rfl .nil (fun _ _ _ => trivial) (pick_ok x 9 (hmz x (List.mem_of_getElem? hx)) (by decide)) (fun v G1 hq => ?_)
      obtain ⟨rfl, rfl⟩ := hq
      simp only [List.nil_append]
      refine .rd (.add rfl rfl (by omega) (by omega)) ?_
      obtain ⟨n, hn⟩ : ∃ n : Nat, (n : Int) = 1 + pickN x 9 := ⟨(1 + pickN x 9).toNat, by omega⟩
      have hk1 : 1 ≤ n := by omega
      have hk2 : n ≤ 9 := by omega
      refine .alter (t := 98) (v' := .int .i64 (n : Nat)) rfl (by rw [hn]) ?_
      refine .fn rfl rfl .nil (fun _ _ _ => trivial) (small_ok n (by omega)) (fun v G1 hq => ?_)
      obtain ⟨ra, rc, rfl, rfl⟩ := hq
      simp only [List.cons_append, List.nil_append]
      refine .ef (.alloc ti34 rfl (ones.of rfl)) ?_
      rintro _ _ ⟨b17, rfl, rfl⟩
      refine .ef0 (.storeAll ts34 rfl rfl (by rfl) .head rfl (ones.of rfl)) ?_
      rintro _ _ rfl
      refine .nil ?_
      refine .cast (X' := blk b17 ((smallB n).cells ra rc) 34) (rfl) ?_
      refine .seq ?_
      refine .region ?_
      refine .rd (.move rfl) ?_
      refine .rd (.nilCheck rfl) ?_
      refine .rd (.fieldAddr fd42_0 rfl) ?_
      refine .rd (.load na39 rfl (Knows.one (i := 0) ((LG.at (.tail (.tail (.tail (.tail .head))))).mono fun _ h => h.1) rfl)) ?_
      refine .fn rfl rfl .nil ((LG.at (.tail (.tail (.tail (.tail .head))))).mono fun _ h => h.2.2 _ q2.cur_in) (Next_ok db q2.cur hG.ok.cur.1) (fun v G1 hq => ?_)
      obtain ⟨rfl, rfl⟩ := hq
      simp only [List.nil_append]
      refine .alter (t := 104) (v' := .int .i64 q2.next) rfl (rfl) ?_
      refine .rd (.fieldAddr fd34_0 rfl) ?_
      refine .ef0 (.store ts3 rfl rfl .head rfl (Nat.le_of_ble_eq_true rfl)) ?_
      rintro _ _ rfl
      refine .nil ?_
      refine .cast (X' := blk b17 ((sb n q2.next).cells ra rc) 34) (rfl) ?_
      refine .settle (.tail .head) (Settles.arr) ?_
      refine .seq ?_
      refine .seq ?_
      refine .region ?_
      refine .rd (.move rfl) ?_
      refine .rd (.ldN ia34 ts34 rfl (.tail .head) rfl) ?_
      have hg : (sb n q2.next).good := sb_good hk1 (by omega) (by omega) (by omega)
      have he : (enc (sb n q2.next)).length ≤ 140 := Nat.le_trans (sb_enc hk1 (by omega) (by omega) (by omega)) (by omega)
      refine .fn rfl rfl (.cons (.tail (.tail (.tail (.tail .head)))) (.cons (.tail (.tail (.tail (.tail .head)))) (.cons (.tail (.tail (.tail (.tail .head)))) .nil))) ((Knows.pick (.tail (.tail (.tail (.tail .head)))) (k.mono fun _ h => h.1)).and (Knows.know .head)) (Take_ok7 db mb d2 q2 (sb n q2.next) ra rc hG.dok hG.ok hG.own hg rfl (by omega) (Nat.le_trans (Nat.add_le_add hgu he) (by rw [hgs]; omega)) (by omega) (by have := hG.segs; omega)) (fun v G1 hq => ?_)
      obtain ⟨l', d', rfl, hA, rfl⟩ := hq
      simp only [List.cons_append, List.nil_append]
      refine .alter (t := 10) (v' := .pointer (some ⟨l'.lb, 0, none⟩)) rfl (by rw [hA.lb]) ?_
      refine .rd (.neI rfl rfl) ?_
      refine .alter (t := 109) (v' := .bool false) rfl (congrArg Value.bool (by rfl)) ?_
      refine .nil ?_
      refine .condF rfl ?_
      refine .skip ?_
      refine .region ?_
      refine .rd (.move rfl) ?_
      refine .rd (.ldN ia34 ts34 rfl (.tail (.tail (.tail (.tail .head)))) rfl) ?_
      refine .ef (.buildOne (cs := bmc ((sb n q2.next, ra, rc) : BatM)) Tryz.underlying43 ti34 (by decide) rfl rfl rfl (ones.of rfl)) ?_
      rintro _ _ ⟨bo, rfl, rfl⟩
      refine .ef (.append rfl rfl Tryz.underlying43 ti34 rfl (ones.of rfl) (by decide) (by decide) rfl rfl (.tail (.tail (.tail (.tail (.tail (.tail .head)))))) (n := vl.length) (m := 1) (flat_length bmc_len _) (.srcBlk .head Tryz.underlying43 rfl (by decide)) (by omega)) ?_
      rintro _ _ ⟨qa, qc, rfl, qn, rfl⟩
      refine .rd (.assign rfl) ?_
      refine .nil ?_
      refine .cast (X' := arr 34 6 qa qc ((vl ++ [((sb n q2.next, ra, rc) : BatM)]).flatMap bmc)) (by rw [List.flatMap_append]; simp) ?_
      refine .knowAnd (Bal (vl ++ [((sb n q2.next, ra, rc) : BatM)])) (.cons (.tail (.tail (.tail (.tail (.tail (.tail (.tail .head))))))) (.cons (.tail (.tail (.tail (.tail (.tail .head))))) .nil)) (fun w h1 h2 => h1.snoc h2) ?_
      refine .alter (t := 14) (v' := .slice qa (vl ++ [((sb n q2.next, ra, rc) : BatM)]).length qc) rfl (by rw [List.length_append]; rfl) ?_
      refine .inBlock ?_
      refine .region ?_
      refine .rd (.move rfl) ?_
      refine .rd (.add rfl rfl (by omega) (by omega)) ?_
      refine .rd (.assign rfl) ?_
      refine .nil ?_
      exact (ih (i2 + 1, l', d', vl ++ [(sb n q2.next, ra, rc)], qa, qc) ⟨by show i2 + 1 ≤ _; omega, by show i2 + 1 ≤ _; omega, hG.step hA hk1 hk2 hi30, by rw [List.map_append, hvl, hA.all]; rfl⟩ (by show more.length - (i2 + 1) < more.length - i2; omega)).to (.cons rfl (.cons rfl (.cons rfl (.cons rfl .nil)))) (.cons (.tail .head) (.cons .head (.cons (.tail .head) (.cons (.tail .head) (.cons (.tail .head) (.cons (.tail (.tail .head)) .nil))))))
    · refine .exit rfl ?_
      refine .seq ?_
      refine .region ?_
      refine .rd (.move rfl) ?_
      have hlq := hG.num
      refine .fn rfl rfl (.cons (.tail (.tail (.tail .head))) (.cons (.tail (.tail (.tail .head))) .nil)) (LG.at (.tail (.tail .head))) (All_ok db mb d2 q2 hG.ok (by omega)) (fun v G1 hq => ?_)
      obtain ⟨bl, xa, xc, hbl, rfl, rfl⟩ := hq
      simp only [List.cons_append, List.nil_append]
      refine .settle (.tail (.tail .head)) (Settles.arr) ?_
      rw [hG.start, keep_zero hG.ok.good] at hbl
      refine .rd (.move rfl) ?_
      refine .settle (.tail (.tail (.tail (.tail .head)))) (Settles.arr) ?_
      have hbn := len_map hbl
      refine .fn rfl rfl .nil (((Knows.know (.tail .head)).and (Knows.know (.tail (.tail (.tail (.tail .head)))))).and ((Knows.know .head).and (Knows.know (.tail (.tail (.tail (.tail (.tail .head)))))))) (sames_ok bl vl xa va2 xc vc2 (by omega) (by omega) (bal64 hG.ok hbl fun _ h => h) (bal64 hG.ok hvl fun _ h => h)) (fun v G1 hq => ?_)
      obtain ⟨r, rfl, hr, rfl⟩ := hq
      simp only [List.nil_append]
      refine .alter (t := 117) (v' := .bool true) rfl (by rw [hr.2 (by rw [hbl, hvl])]) ?_
      refine .rd (.assign rfl) ?_
      refine .nil ?_
      refine .retP Tryz.func5 (.cons (.tmp rfl) .nil) (.cons (.tail (.tail (.tail (.tail (.tail (.tail (.tail .head))))))) .nil) ?_
      exact ⟨[], ⟨rfl, rfl⟩, rfl⟩

end Go.Proofs.YtglhoenjflpibaaGreatDoor

