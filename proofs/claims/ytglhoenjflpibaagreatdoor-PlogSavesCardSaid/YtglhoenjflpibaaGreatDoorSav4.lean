/- Part 4 of a claim's texts: rules for the machine's steps, and steps through functions of the program, under the conditions that each theorem states. -/
import Derived.Test.YtglhoenjflpibaaGreatDoorProg
import Derived.Lib.IndexMore
import Derived.Test.YtglhoenjflpibaaGreatDoorSav1
import Derived.Test.YtglhoenjflpibaaGreatDoorSav2
import Derived.Test.YtglhoenjflpibaaGreatDoorSav3
set_option linter.unusedVariables false
namespace Go.Proofs.YtglhoenjflpibaaGreatDoor
open Go Go.Sp

set_option linter.unusedVariables false

namespace seg4
theorem na3 : NotAgg Tryz.prog 3 := ⟨_, Tryz.underlying3, trivial⟩
theorem na39 : NotAgg Tryz.prog 39 := ⟨_, Tryz.underlying39, trivial⟩
theorem fd69_2 : FD Tryz.prog 69 2 2 := .of Tryz.underlying69 (by kernel_rfl)
theorem fd69_0 : FD Tryz.prog 69 0 0 := .of Tryz.underlying69 (by kernel_rfl)
theorem na24 : NotAgg Tryz.prog 24 := ⟨_, Tryz.underlying24, trivial⟩
theorem fd69_1 : FD Tryz.prog 69 1 1 := .of Tryz.underlying69 (by kernel_rfl)
theorem na9 : NotAgg Tryz.prog 9 := ⟨_, Tryz.underlying9, trivial⟩
theorem fd69_4 : FD Tryz.prog 69 4 4 := .of Tryz.underlying69 (by kernel_rfl)
theorem na22 : NotAgg Tryz.prog 22 := ⟨_, Tryz.underlying22, trivial⟩
theorem fd69_3 : FD Tryz.prog 69 3 3 := .of Tryz.underlying69 (by kernel_rfl)
theorem na67 : NotAgg Tryz.prog 67 := ⟨_, Tryz.underlying67, trivial⟩
theorem ts3 : TS Tryz.prog 3 1 := .of (by kernel_rfl)
theorem ts71 : TS Tryz.prog 71 4 := .of (by kernel_rfl)
theorem ia71 : IsAgg Tryz.prog 71 := ⟨_, Tryz.underlying71, trivial⟩
theorem ti71 : TI Tryz.prog 71 4 32 (.agg #[.int .i64 0, .int .i64 0, .int .i64 0, .int .i64 0]) := .of (by kernel_rfl)
theorem fd71_1 : FD Tryz.prog 71 1 1 := .of Tryz.underlying71 (by kernel_rfl)
theorem fd71_3 : FD Tryz.prog 71 3 3 := .of Tryz.underlying71 (by kernel_rfl)
theorem fd71_2 : FD Tryz.prog 71 2 2 := .of Tryz.underlying71 (by kernel_rfl)
theorem ti34 : TI Tryz.prog 34 6 64 (.agg #[.int .i64 0, .int .i64 0, .int .i64 0, .int .i64 0, .int .i64 0, .slice none 0 0]) := .of (by kernel_rfl)
theorem ts34 : TS Tryz.prog 34 6 := .of (by kernel_rfl)
theorem ia34 : IsAgg Tryz.prog 34 := ⟨_, Tryz.underlying34, trivial⟩
end seg4
open seg4

def pR (s : Sx) (off : Int) (i : Nat) : Bool := decide (off < ((s.bs[s.sm.getD i 0]?).map (·.base)).getD 0)
theorem pR_at {s : Sx} {off : Int} {i j : Nat} {b : Bat} (hj : s.sm[i]? = some j) (hb : s.bs[j]? = some b) : pR s off i = decide (off < b.base) := by
  unfold pR; rw [List.getD_eq_getElem?_getD, hj]; show decide (off < ((s.bs[j]?).map (·.base)).getD 0) = _; rw [hb]; rfl
theorem Sx.ixat {s : Sx} (h : s.ok) {i : Nat} (hi : i < s.sm.length) : ∃ j b, s.sm[i]? = some j ∧ s.bs[j]? = some b := by
  have hl := h.ix.lt s.sm[i] (List.getElem_mem hi)
  exact ⟨_, _, List.getElem?_eq_getElem hi, List.getElem?_eq_getElem hl⟩
theorem pR_mono {s : Sx} (h : s.ok) {off : Int} (a b : Nat) (hab : a ≤ b) (hb : b < s.sm.length) (hp : pR s off a = true) : pR s off b = true := by
  obtain ⟨j, x, h1, h2⟩ := Sx.ixat h (i := a) (by omega)
  obtain ⟨j', y, h3, h4⟩ := Sx.ixat h hb
  rw [pR_at h1 h2] at hp; rw [pR_at h3 h4]
  have hj : j ≤ j' := by
    rcases Nat.lt_or_eq_of_le hab with hlt | rfl
    · have := List.pairwise_iff_getElem.1 h.ix.up a b (by omega) hb hlt
      rw [List.getElem?_eq_getElem (by omega)] at h1 h3
      cases h1; cases h3; omega
    · rw [h1] at h3; cases h3; exact Nat.le_refl _
  have := Sx.base_mono h h2 h4 hj
  exact decide_eq_true (by have := of_decide_eq_true hp; omega)
theorem read1 {db bx by' : Nat} {s : Sx} {z : Int} (h : s.ok) (i : Nat) (hi : i < s.sm.length) : Cn Tryz.prog 68 [.int .i64 (i : Nat), .pointer (some ⟨bx, 0, none⟩), .pointer (some ⟨by', 0, none⟩)] (fun w => CellsAt bx 0 [.pointer (some ⟨s.b, 0, none⟩)] w ∧ CellsAt by' 0 [.int .i64 z] w ∧ SegAt db s w) [] fun v G => v = .bool (pR s z i) ∧ G = [] := by
  obtain ⟨j, b, h1, h2⟩ := Sx.ixat h hi
  rw [pR_at h1 h2]
  exact Read1_ok db bx by' i j s z b h (by have := Sx.sm_le h; have := h.len; omega) h1 h2
theorem none_left {s : Sx} (h : s.ok) {off most : Int} (h0 : s.base ≤ off) (hp : ∀ q, 0 ≤ q → q < s.sm.length → pR s off q = true) : goR off most 0 [] s.bs = [] := by
  by_cases hn : 0 < s.bs.length
  · have h1 := h.ix.zero hn
    have h2 := List.getElem?_eq_some_iff.1 h1
    have h3 := hp 0 (Nat.le_refl _) h2.1
    obtain ⟨b, hb⟩ : ∃ b, s.bs[0]? = some b := ⟨_, List.getElem?_eq_getElem hn⟩
    rw [pR_at h1 hb] at h3
    have h4 := Sx.base_at h hb
    have h5 : nextOf s.base (s.bs.take 0) = s.base := rfl
    have := of_decide_eq_true h3; omega
  · have : s.bs = [] := List.eq_nil_of_length_eq_zero (by omega)
    rw [this]; rfl
theorem read_back {b : Bat} (hb : b.good) (a : Option Addr) (c : Nat) : Value.tuple #[.agg ((readBatch (enc b)).1.cells a c).toArray, .int .i64 (readBatch (enc b)).2.1, .int .i64 (readBatch (enc b)).2.2] = .tuple #[.agg (b.cells a c).toArray, .int .i64 ((enc b).length : Int), .int .i64 0] := by
  have := read_write hb.fits hb.right []
  rw [List.append_nil] at this
  unfold enc; rw [this]
theorem read_recs {b : Bat} (hb : b.good) : (readBatch (enc b)).1.recs = b.recs := by
  have := read_write hb.fits hb.right []
  rw [List.append_nil] at this
  unfold enc; rw [this]

set_option maxHeartbeats 1000000 in
set_option maxRecDepth 20000 in
theorem SegRead_ok (db mb : Nat) (d : Dk) (s : Sx) (off most : Int) (hs : s.ok) (hx : (d.get s.nm).isSome = true) (hf : (d.file s.nm).b = flat s.bs) (ho : i64 off) : Cn Tryz.prog 36 [.pointer (some ⟨s.b, 0, none⟩), .int .i64 off, .int .i64 most] (SegAt db s) [blk db (d.cells mb) 60, mp nmv Fl.val mb d.fs] fun v G => ∃ (bl : List BatM) (ra : Option Addr) (rc : Nat), bl.map (·.1) = segRead s off most ∧ v = .slice ra bl.length rc ∧ G = [blk db (d.cells mb) 60, mp nmv Fl.val mb d.fs, arr 34 6 ra rc (bl.flatMap bmc), know (Bal bl)] := by
  refine .enter Tryz.func36 rfl (by kernel_rfl) rfl fun R k => ?_
  have hl := hs.len
  have hsl := Sx.sm_le hs
  have hcap := hs.cap
  have hfl := hs.flat_len
  have hb0 := hs.base0
  obtain ⟨ho1, ho2⟩ := ho
  refine .seq ?_
  refine .region ?_
  refine .ef (.box (l := [.pointer (some ⟨s.b, 0, none⟩)]) rfl rfl (ones.of rfl)) ?_
  rintro _ _ ⟨b3, rfl, rfl⟩
  refine .ef (.box (l := [.int .i64 off]) rfl rfl (ones.of rfl)) ?_
  rintro _ _ ⟨b4, rfl, rfl⟩
  refine .rd (.assign rfl) ?_
  refine .nil ?_
  refine .seq ?_
  refine .seq ?_
  refine .draws [0, 1, 4] [blk b3 [.pointer (some ⟨s.b, 0, none⟩)] 39, blk b4 [.int .i64 off] 3, R] (by kernel_rfl) ?_
  refine .rd 0 rfl rfl (by kernel_rfl) (by kernel_rfl) (by kernel_rfl) (.ld na3 rfl (.tail .head) rfl) (.cons (.tail .head) (.cons .head (.cons (.tail (.tail .head)) .nil))) ?_
  refine .rd 1 rfl rfl (by kernel_rfl) (by kernel_rfl) (by kernel_rfl) (.ld na39 rfl .head rfl) (.cons (.tail .head) (.cons .head (.cons (.tail (.tail .head)) .nil))) ?_
  refine .rp 2 rfl (by kernel_rfl) (by kernel_rfl) (by kernel_rfl) (Reads.pure (.nilCheck rfl)) ?_
  refine .rp 3 rfl (by kernel_rfl) (by kernel_rfl) (by kernel_rfl) (Reads.pure (.fieldAddr fd69_2 rfl)) ?_
  refine .rd 4 rfl rfl (by kernel_rfl) (by kernel_rfl) (by kernel_rfl) (.load na3 rfl (Knows.one (i := 2) (Knows.pick (.tail (.tail .head)) (k.mono fun _ h => h.1)) rfl)) (.cons (.tail .head) (.cons .head (.cons (.tail (.tail .head)) .nil))) ?_
  refine .rp 5 rfl (by kernel_rfl) (by kernel_rfl) (by kernel_rfl) (Reads.pure (.lt rfl rfl)) ?_
  refine .done (by kernel_rfl) ?_
  refine .condP rfl (fun c1 => ?_) (fun c1 => ?_)
  · refine .seq ?_
    refine .region ?_
    refine .rd (.assign rfl) ?_
    refine .nil ?_
    refine .nilArr 34 6 none ?_
    refine .knowT (Bal []) (Bal.nil) ?_
    refine .retP Tryz.func36 (.cons (.tmp rfl) .nil) (.cons (.tail (.tail (.tail (.tail .head)))) (.cons (.tail (.tail (.tail (.tail .head)))) (.cons (.tail .head) (.cons .head (.cons (.tail (.tail .head)) .nil))))) ?_
    exact ⟨[_, _, _, _], ⟨[], none, 0, (if_pos c1).symm, rfl, rfl⟩, rfl⟩
  · refine .skip ?_
    refine .seq ?_
    refine .draws [0, 3, 4, 7] [blk b3 [.pointer (some ⟨s.b, 0, none⟩)] 39, R] (by kernel_rfl) ?_
    refine .rd 0 rfl rfl (by kernel_rfl) (by kernel_rfl) (by kernel_rfl) (.ld na39 rfl .head rfl) (.cons (.tail .head) (.cons (.tail (.tail (.tail .head))) .nil)) ?_
    refine .rp 1 rfl (by kernel_rfl) (by kernel_rfl) (by kernel_rfl) (Reads.pure (.nilCheck rfl)) ?_
    refine .rp 2 rfl (by kernel_rfl) (by kernel_rfl) (by kernel_rfl) (Reads.pure (.fieldAddr fd69_0 rfl)) ?_
    refine .rd 3 rfl rfl (by kernel_rfl) (by kernel_rfl) (by kernel_rfl) (.load na24 rfl (Knows.one (i := 0) (Knows.pick (.tail .head) (k.mono fun _ h => h.1)) rfl)) (.cons (.tail .head) (.cons (.tail (.tail (.tail .head))) .nil)) ?_
    refine .rd 4 rfl rfl (by kernel_rfl) (by kernel_rfl) (by kernel_rfl) (.ld na39 rfl .head rfl) (.cons (.tail .head) (.cons (.tail (.tail (.tail .head))) .nil)) ?_
    refine .rp 5 rfl (by kernel_rfl) (by kernel_rfl) (by kernel_rfl) (Reads.pure (.nilCheck rfl)) ?_
    refine .rp 6 rfl (by kernel_rfl) (by kernel_rfl) (by kernel_rfl) (Reads.pure (.fieldAddr fd69_1 rfl)) ?_
    refine .rd 7 rfl rfl (by kernel_rfl) (by kernel_rfl) (by kernel_rfl) (.load na9 rfl (Knows.one (i := 1) (Knows.pick (.tail .head) (k.mono fun _ h => h.1)) rfl)) (.cons (.tail .head) (.cons (.tail (.tail (.tail .head))) .nil)) ?_
    refine .ef 8 (by kernel_rfl) rfl (.fn rfl rfl (.cons (.tail (.tail .head)) (.cons (.tail (.tail .head)) .nil)) (fun _ _ _ => trivial) (Read_ok db mb d s.nm)) ?_
    rintro v _ ⟨G1, hq, rfl⟩
    obtain ⟨rfl, rfl⟩ := hq
    simp only [List.cons_append, List.nil_append]
    refine ⟨.inl (by kernel_rfl), ?_⟩
    refine .alter (t := 32) (v' := .tuple #[.string (str (flat s.bs)), .int .i64 0]) rfl (by rw [hf, if_pos hx]) ?_
    refine .rp 9 rfl (by kernel_rfl) (by kernel_rfl) (by kernel_rfl) (Reads.pure (.move rfl)) ?_
    refine .rp 10 rfl (by kernel_rfl) (by kernel_rfl) (by kernel_rfl) (Reads.pure (.extract rfl rfl)) ?_
    refine .rp 11 rfl (by kernel_rfl) (by kernel_rfl) (by kernel_rfl) (Reads.pure (.extract rfl rfl)) ?_
    refine .rp 12 rfl (by kernel_rfl) (by kernel_rfl) (by kernel_rfl) (Reads.pure (.assign rfl)) ?_
    refine .rp 13 rfl (by kernel_rfl) (by kernel_rfl) (by kernel_rfl) (Reads.pure (.assign rfl)) ?_
    refine .done (by kernel_rfl) ?_
    refine .seq ?_
    refine .region ?_
    refine .rd (.ld na39 rfl (.tail (.tail (.tail .head))) rfl) ?_
    refine .rd (.nilCheck rfl) ?_
    refine .rd (.fieldAddr fd69_4 rfl) ?_
    refine .rd (.load na22 rfl (Knows.one (i := 4) (Knows.pick (.tail (.tail (.tail (.tail .head)))) (k.mono fun _ h => h.1)) rfl)) ?_
    refine .rd (.lenL rfl rfl Tryz.underlying22 rfl) ?_
    refine .rd (.makeFunc (cs := [.pointer (some ⟨b3, 0, none⟩), .pointer (some ⟨b4, 0, none⟩)]) rfl rfl) ?_
    refine .fn rfl rfl .nil ((Knows.blk (.tail (.tail (.tail .head)))).and ((Knows.blk (.tail (.tail .head))).and (Knows.pick (.tail (.tail (.tail (.tail .head)))) k))) (Search_ok s.sm.length (by omega) (pR s off) (pR_mono hs) (fun w => CellsAt b3 0 [.pointer (some ⟨s.b, 0, none⟩)] w ∧ CellsAt b4 0 [.int .i64 off] w ∧ SegAt db s w) 68 #[.pointer (some ⟨b3, 0, none⟩), .pointer (some ⟨b4, 0, none⟩)] (read1 hs)) (fun v G1 hq => ?_)
    obtain ⟨z, hz, hz1, hz2, rfl, rfl⟩ := hq
    simp only [List.nil_append]
    refine .rd (.sub rfl rfl (by omega) (by omega)) ?_
    refine .rd (.assign rfl) ?_
    refine .nil ?_
    refine .seq ?_
    refine .seq ?_
    refine .region ?_
    refine .rd (.move rfl) ?_
    refine .rd (.lt rfl rfl) ?_
    refine .nil ?_
    refine .condP rfl (fun c5 => ?_) (fun c5 => ?_)
    · refine .seq ?_
      refine .region ?_
      refine .rd (.assign rfl) ?_
      refine .nil ?_
      refine .nilArr 34 6 none ?_
      refine .knowT (Bal []) (Bal.nil) ?_
      refine .retP Tryz.func36 (.cons (.tmp rfl) .nil) (.cons (.tail (.tail .head)) (.cons (.tail (.tail .head)) (.cons (.tail .head) (.cons .head (.cons (.tail (.tail .head)) .nil))))) ?_
      exact ⟨[_, _, _, _], ⟨[], none, 0, ((if_neg c1).trans (none_left hs (by omega) fun q _ hq => hz2 q (by omega) hq)).symm, rfl, rfl⟩, rfl⟩
    · refine .skip ?_
      refine .seq ?_
      have hz0 : 0 < z := by omega
      obtain ⟨j, y, hj, hy⟩ := Sx.ixat hs (i := z - 1) (by omega)
      have hyo : y.base ≤ off := by have := hz1 (z - 1) (by omega); rw [pR_at hj hy] at this; have := of_decide_eq_false this; omega
      have hjl := (List.getElem?_eq_some_iff.1 hy).1
      have hskip := Sx.skip hs hy hyo most
      refine .tell (φ := ∃ b o, s.aa = some ⟨b, o, none⟩) (Knows.pick (.tail (.tail (.tail (.tail .head)))) (k.mono fun _ h => RowAt.addr h.2.1 (by rw [Sx.rows_len]; omega))) (fun hh => ?_)
      obtain ⟨b9, o9, h9⟩ := hh
      refine .tell (φ := ∃ b o, s.ia = some ⟨b, o, none⟩) (Knows.pick (.tail (.tail (.tail (.tail .head)))) (k.mono fun _ h => RowAt.addr h.2.2 (by rw [Sx.idx_len]; omega))) (fun hh => ?_)
      obtain ⟨b8, o8, h8⟩ := hh
      refine .region ?_
      refine .rd (.assign rfl) ?_
      refine .nil ?_
      refine .seq ?_
      refine .region ?_
      refine .rd (.assign rfl) ?_
      refine .nil ?_
      refine .seq ?_
      refine .seq ?_
      refine .draws [0, 3, 4, 7, 10] [blk b3 [.pointer (some ⟨s.b, 0, none⟩)] 39, R] (by kernel_rfl) ?_
      refine .rd 0 rfl rfl (by kernel_rfl) (by kernel_rfl) (by kernel_rfl) (.ld na39 rfl .head rfl) (.cons (.tail (.tail (.tail .head))) (.cons (.tail (.tail (.tail .head))) .nil)) ?_
      refine .rp 1 rfl (by kernel_rfl) (by kernel_rfl) (by kernel_rfl) (Reads.pure (.nilCheck rfl)) ?_
      refine .rp 2 rfl (by kernel_rfl) (by kernel_rfl) (by kernel_rfl) (Reads.pure (.fieldAddr fd69_3 rfl)) ?_
      refine .rd 3 rfl rfl (by kernel_rfl) (by kernel_rfl) (by kernel_rfl) (.load na67 rfl (Knows.one (i := 3) (Knows.pick (.tail .head) (k.mono fun _ h => h.1)) rfl)) (.cons (.tail (.tail (.tail .head))) (.cons (.tail (.tail (.tail .head))) .nil)) ?_
      refine .rd 4 rfl rfl (by kernel_rfl) (by kernel_rfl) (by kernel_rfl) (.ld na39 rfl .head rfl) (.cons (.tail (.tail (.tail .head))) (.cons (.tail (.tail (.tail .head))) .nil)) ?_
      refine .rp 5 rfl (by kernel_rfl) (by kernel_rfl) (by kernel_rfl) (Reads.pure (.nilCheck rfl)) ?_
      refine .rp 6 rfl (by kernel_rfl) (by kernel_rfl) (by kernel_rfl) (Reads.pure (.fieldAddr fd69_4 rfl)) ?_
      refine .rd 7 rfl rfl (by kernel_rfl) (by kernel_rfl) (by kernel_rfl) (.load na22 rfl (Knows.one (i := 4) (Knows.pick (.tail .head) (k.mono fun _ h => h.1)) rfl)) (.cons (.tail (.tail (.tail .head))) (.cons (.tail (.tail (.tail .head))) .nil)) ?_
      refine .rp 8 rfl (by kernel_rfl) (by kernel_rfl) (by kernel_rfl) (Reads.pure (.move rfl)) ?_
      refine .alter (t := 53) (v' := .int .i64 ((z - 1 : Nat))) rfl (congrArg (Value.int .i64) (by omega)) ?_
      refine .rp 9 rfl (by kernel_rfl) (by kernel_rfl) (by kernel_rfl) (Reads.pure (.indexAddr (b := b8) (o := o8) Tryz.underlying22 ts3 (by show some (Value.slice (s.ia) _ _) = _; rw [h8]) rfl (by omega) (by omega))) ?_
      refine .rd 10 rfl rfl (by kernel_rfl) (by kernel_rfl) (by kernel_rfl) (.load na3 rfl (Knows.one (i := 0) (Knows.elem (f := icN) icN_len (by decide) (Knows.pick (.tail .head) (k.mono fun _ h => h8 ▸ h.2.2)) (hj)) rfl)) (.cons (.tail (.tail (.tail .head))) (.cons (.tail (.tail (.tail .head))) .nil)) ?_
      refine .rp 11 rfl (by kernel_rfl) (by kernel_rfl) (by kernel_rfl) (Reads.pure (.slice (l := j) (h := s.bs.length) (m := s.ac) Tryz.underlying67 ts71 rfl rfl ⟨rfl, rfl⟩ ⟨_, rfl⟩ (by omega) (by omega) (by omega))) ?_
      refine .alter (t := 56) (v' := .slice (some ⟨b9, o9 + j * 4, none⟩) (s.bs.length - j) (s.ac - j)) rfl (by rw [if_neg (by omega), h9]; simp [Addr_add]) ?_
      refine .rp 12 rfl (by kernel_rfl) (by kernel_rfl) (by kernel_rfl) (Reads.pure (.lenL rfl rfl Tryz.underlying67 rfl)) ?_
      refine .rp 13 rfl (by kernel_rfl) (by kernel_rfl) (by kernel_rfl) (Reads.pure (.move rfl)) ?_
      refine .done (by kernel_rfl) ?_
      refine .nilArr 34 6 none ?_
      refine .knowT (Bal []) (Bal.nil) ?_
      refine .block ?_
      refine .loop (σ := Nat × Int × List BatM × Option Addr × Nat) (fun ⟨i, sum, bl, ra, rc⟩ => j + i ≤ s.bs.length ∧ goR off most sum (bl.map (·.1)) (s.bs.drop (j + i)) = goR off most 0 [] s.bs ∧ bl.length ≤ i ∧ 0 ≤ sum ∧ sum ≤ ((flat (s.bs.take (j + i))).length : Int)) (fun ⟨i, sum, bl, ra, rc⟩ => s.bs.length - i) (fun ⟨i, sum, bl, ra, rc⟩ => [(2, .int .i64 most), (4, .pointer (some ⟨b4, 0, none⟩)), (7, .string (str (flat s.bs))), (56, .slice (some ⟨b9, o9 + j * 4, none⟩) (s.bs.length - j) (s.ac - j)), (57, .int .i64 ((s.bs.length - j : Nat) : Int)), (10, .slice ra bl.length rc), (11, .int .i64 sum), (58, .int .i64 (i : Nat))]) (fun ⟨i, sum, bl, ra, rc⟩ => [blk b4 [.int .i64 off] 3, arr 34 6 ra rc (bl.flatMap bmc), know (Bal bl), blk db (d.cells mb) 60, mp nmv Fl.val mb d.fs, R]) (0, 0, [], none, 0) ⟨by omega, hskip, Nat.le_refl _, Int.le_refl _, by omega⟩ (.cons rfl (.cons rfl (.cons rfl (.cons rfl (.cons rfl (.cons rfl (.cons rfl (.cons rfl .nil)))))))) (.cons (.tail (.tail (.tail (.tail .head)))) (.cons (.tail .head) (.cons .head (.cons .head (.cons .head (.cons (.tail .head) .nil)))))) (fun s' hI ih => ?_)
      obtain ⟨i, sum, bl, ra, rc⟩ := s'
      dsimp only at hI ih ⊢
      obtain ⟨hji, hg, hbi, hs0, hs1⟩ := hI
      refine .seq ?_
      refine .region ?_
      refine .rd (.lt rfl rfl) ?_
      refine .nil ?_
      refine .seq ?_
      refine .condP rfl (fun c10 => ?_) (fun c10 => ?_)
      · refine .skip ?_
        refine .seq ?_
        refine .block ?_
        refine .seq ?_
        obtain ⟨b, hb⟩ : ∃ b, s.bs[j + i]? = some b := ⟨_, List.getElem?_eq_getElem (by omega)⟩
        have hb' : s.bs.drop (j + i) = b :: s.bs.drop (j + (i + 1)) := by obtain ⟨h1, h2⟩ := List.getElem?_eq_some_iff.1 hb; rw [← h2]; exact List.drop_eq_getElem_cons h1
        have hgd := hs.good b (List.mem_of_getElem? hb)
        have hfa := flat_all hb
        have hep := hgd.enc_le
        have hfn : (flat (s.bs.take (j + (i + 1)))).length = (flat (s.bs.take (j + i))).length + (enc b).length := flat_next hb
        refine .region ?_
        refine .rd (.indexAddr (b := b9) (o := o9 + j * 4) Tryz.underlying67 ts71 rfl rfl (by omega) (by omega)) ?_
        refine .alter (t := 60) (v' := .pointer (some ⟨b9, o9 + (j + i) * 4, none⟩)) rfl (congrArg (fun n => Value.pointer (some ⟨b9, n, none⟩)) (by rw [Int.toNat_natCast]; omega)) ?_
        refine .rd (.loadN ia71 ts71 rfl rfl (Knows.elem (f := One.cells) One.cells_len (by decide) (Knows.pick (.tail (.tail (.tail (.tail (.tail .head))))) (k.mono fun _ h => h9 ▸ h.2.1)) (one_at hb))) ?_
        refine .ef (.alloc ti71 rfl (ones.of rfl)) ?_
        rintro _ _ ⟨b13, rfl, rfl⟩
        refine .ef0 (.storeAll ts71 rfl rfl (by rfl) .head rfl (ones.of rfl)) ?_
        rintro _ _ rfl
        refine .nil ?_
        refine .cast (X' := blk b13 (One.mk b.base b.en (flat (s.bs.take (j + i))).length ((flat (s.bs.take (j + i))).length + (enc b).length)).cells 71) (rfl) ?_
        refine .seq ?_
        refine .seq ?_
        refine .region ?_
        refine .rd (.fieldAddr fd71_1 rfl) ?_
        refine .rd (.ld na3 rfl .head rfl) ?_
        refine .rd (.ld na3 rfl (.tail .head) rfl) ?_
        refine .rd (.le rfl rfl) ?_
        refine .nil ?_
        refine .condP rfl (fun c12 => ?_) (fun c12 => ?_)
        · refine .exit rfl ?_
          refine .region ?_
          refine .rd (.add rfl rfl (by omega) (by omega)) ?_
          refine .rd (.move rfl) ?_
          refine .nil ?_
          have hI' : j + (i + 1) ≤ s.bs.length ∧ goR off most (sum) ((bl).map (·.1)) (s.bs.drop (j + (i + 1))) = goR off most 0 [] s.bs ∧ (bl).length ≤ i + 1 ∧ 0 ≤ sum ∧ sum ≤ ((flat (s.bs.take (j + (i + 1)))).length : Int) := ⟨by omega, by rw [← hg, hb', goR_step, if_pos (show b.en ≤ off from c12)], by omega, hs0, by omega⟩
          exact (ih (i + 1, sum, bl, ra, rc) hI' (by show s.bs.length - (i + 1) < s.bs.length - i; omega)).to (.cons rfl (.cons rfl (.cons rfl (.cons rfl (.cons rfl (.cons (by first | rfl | (show _ = some (Value.slice _ (List.length _) _); rw [List.length_append]; rfl)) (.cons rfl (.cons rfl .nil)))))))) (.cons (.tail .head) (.cons (.tail .head) (.cons (.tail .head) (.cons (.tail .head) (.cons (.tail .head) (.cons (.tail .head) .nil))))))
        · have hlq : ¬ b.en ≤ off := c12
          refine .skip ?_
          refine .seq ?_
          refine .region ?_
          refine .rd (.move rfl) ?_
          refine .rd (.fieldAddr fd71_3 rfl) ?_
          refine .rd (.ld na3 rfl .head rfl) ?_
          refine .alter (t := 68) (v' := .int .i64 (((flat (s.bs.take (j + i))).length + (enc b).length : Nat) : Int)) rfl (rfl) ?_
          refine .rd (.fieldAddr fd71_2 rfl) ?_
          refine .rd (.ld na3 rfl .head rfl) ?_
          refine .alter (t := 70) (v' := .int .i64 ((flat (s.bs.take (j + i))).length : Int)) rfl (rfl) ?_
          refine .rd (.sub rfl rfl (by omega) (by omega)) ?_
          refine .rd (.add rfl rfl (by omega) (by omega)) ?_
          refine .alter (t := 72) (v' := .int .i64 (sum + (enc b).length)) rfl (congrArg (Value.int .i64) (by omega)) ?_
          refine .rd (.assign rfl) ?_
          refine .nil ?_
          refine .seq ?_
          refine .seq ?_
          refine .region ?_
          refine .rd (.move rfl) ?_
          refine .rd (.lenL rfl rfl Tryz.underlying43 rfl) ?_
          refine .rd (.gt rfl rfl) ?_
          refine .rd (.move rfl) ?_
          refine .split (t := 76) rfl (fun g14 => ?_) (fun g14 => ?_)
          · replace g14 := of_decide_eq_true g14
            refine .on (t := 76) rfl rfl ?_
            refine .rd (.move rfl) ?_
            refine .on (t := 76) rfl rfl ?_
            refine .rd (.move rfl) ?_
            refine .on (t := 76) rfl rfl ?_
            refine .rd (.gt rfl rfl) ?_
            refine .rd (.pickT rfl rfl) ?_
            refine .nil ?_
            refine .condP rfl (fun c14 => ?_) (fun c14 => ?_)
            · have hbr : 0 < (bl.map (·.1)).length ∧ most < sum + ((enc b).length : Int) := by rw [List.length_map]; omega
              refine .exit rfl ?_
              refine .seq ?_
              refine .region ?_
              refine .rd (.move rfl) ?_
              refine .rd (.assign rfl) ?_
              refine .nil ?_
              refine .retP Tryz.func36 (.cons (.tmp rfl) .nil) (.cons (.tail (.tail (.tail (.tail .head)))) (.cons (.tail (.tail (.tail (.tail .head)))) (.cons (.tail (.tail .head)) (.cons (.tail (.tail .head)) (.cons (.tail (.tail .head)) .nil))))) ?_
              exact ⟨[_, _, _, _], ⟨bl, ra, rc, ((by rw [← hg, hb', goR_step, if_neg hlq, if_pos hbr] : goR off most 0 [] s.bs = bl.map (·.1)).symm.trans (if_neg c1).symm), rfl, rfl⟩, rfl⟩
            · refine .skip ?_
              refine .seq ?_
              have hbr : ¬ (0 < (bl.map (·.1)).length ∧ most < sum + ((enc b).length : Int)) := by rw [List.length_map]; omega
              refine .region ?_
              refine .rd (.move rfl) ?_
              refine .rd (.fieldAddr fd71_2 rfl) ?_
              refine .rd (.ld na3 rfl .head rfl) ?_
              refine .rd (.fieldAddr fd71_3 rfl) ?_
              refine .rd (.ld na3 rfl .head rfl) ?_
              refine .rd (.sliceT (l := flat s.bs) (a := (flat (s.bs.take (j + i))).length) (h := (flat (s.bs.take (j + i))).length + (enc b).length) Tryz.underlying9 rfl ⟨_, rfl⟩ ⟨_, rfl⟩ (by omega) (by omega)) ?_
              refine .alter (t := 87) (v' := .string (str (enc b))) rfl (by rw [Nat.add_sub_cancel_left, flat_cut hb]) ?_
              refine .fn rfl rfl .nil (fun _ _ _ => trivial) (ReadBatch_ok (enc b) (by omega)) (fun v G1 hq => ?_)
              obtain ⟨ba, bc, rfl, rfl⟩ := hq
              simp only [List.cons_append, List.nil_append]
              refine .alter (t := 88) (v' := .tuple #[.agg (b.cells ba bc).toArray, .int .i64 ((enc b).length : Int), .int .i64 0]) rfl (read_back hgd ba bc) ?_
              refine .cast (X' := arr 66 3 ba bc (b.recs.flatMap Rec.cells)) (by rw [read_recs hgd]) ?_
              refine .settle .head (Settles.arr) ?_
              refine .rd (.move rfl) ?_
              refine .rd (.extract rfl rfl) ?_
              refine .rd (.extract rfl rfl) ?_
              refine .rd (.extract rfl rfl) ?_
              refine .ef (.alloc ti34 rfl (ones.of rfl)) ?_
              rintro _ _ ⟨b14, rfl, rfl⟩
              refine .ef0 (.storeAll ts34 rfl rfl (by rfl) .head rfl (ones.of rfl)) ?_
              rintro _ _ rfl
              refine .rd (.assign rfl) ?_
              refine .rd (.assign rfl) ?_
              refine .nil ?_
              refine .region ?_
              refine .rd (.move rfl) ?_
              refine .rd (.ldN ia34 ts34 rfl .head rfl) ?_
              refine .ef (.buildOne (cs := b.cells ba bc) Tryz.underlying43 ti34 (by decide) rfl rfl rfl (ones.of rfl)) ?_
              rintro _ _ ⟨bo, rfl, rfl⟩
              refine .ef (.append rfl rfl Tryz.underlying43 ti34 rfl (ones.of rfl) (by decide) (by decide) rfl rfl (.tail (.tail (.tail (.tail (.tail .head))))) (n := bl.length) (m := 1) (flat_length bmc_len _) (.srcBlk .head Tryz.underlying43 rfl (by decide)) (by omega)) ?_
              rintro _ _ ⟨qa, qc, rfl, qn, rfl⟩
              refine .rd (.assign rfl) ?_
              refine .nil ?_
              refine .cast (X' := arr 34 6 qa qc ((bl ++ [(b, ba, bc)]).flatMap bmc)) (by rw [List.flatMap_append]; simp [bmc]) ?_
              refine .knowAnd (Bal (bl ++ [(b, ba, bc)])) (.cons (.tail (.tail (.tail (.tail (.tail (.tail .head)))))) (.cons (.tail (.tail (.tail .head))) .nil)) (fun w h1 h2 => h1.snoc h2) ?_
              refine .inBlock ?_
              refine .region ?_
              refine .rd (.add rfl rfl (by omega) (by omega)) ?_
              refine .rd (.move rfl) ?_
              refine .nil ?_
              have hI' : j + (i + 1) ≤ s.bs.length ∧ goR off most (sum + ((enc b).length : Int)) ((bl ++ [(b, ba, bc)]).map (·.1)) (s.bs.drop (j + (i + 1))) = goR off most 0 [] s.bs ∧ (bl ++ [(b, ba, bc)]).length ≤ i + 1 ∧ 0 ≤ sum + ((enc b).length : Int) ∧ sum + ((enc b).length : Int) ≤ ((flat (s.bs.take (j + (i + 1)))).length : Int) := ⟨by omega, by rw [← hg, hb', goR_step, if_neg hlq, if_neg hbr, List.map_append]; rfl, by rw [List.length_append]; exact Nat.succ_le_succ hbi, by omega, by omega⟩
              exact (ih (i + 1, sum + ((enc b).length : Int), bl ++ [(b, ba, bc)], qa, qc) hI' (by show s.bs.length - (i + 1) < s.bs.length - i; omega)).to (.cons rfl (.cons rfl (.cons rfl (.cons rfl (.cons rfl (.cons (by first | rfl | (show _ = some (Value.slice _ (List.length _) _); rw [List.length_append]; rfl)) (.cons rfl (.cons rfl .nil)))))))) (.cons (.tail (.tail (.tail (.tail (.tail .head))))) (.cons (.tail .head) (.cons .head (.cons (.tail (.tail (.tail .head))) (.cons (.tail (.tail (.tail .head))) (.cons (.tail (.tail (.tail .head))) .nil))))))
          · replace g14 := of_decide_eq_false g14
            refine .off (t := 76) rfl rfl rfl ?_
            refine .off (t := 76) rfl rfl rfl ?_
            refine .off (t := 76) rfl rfl rfl ?_
            refine .rd (.pickF rfl rfl) ?_
            refine .nil ?_
            refine .condF rfl ?_
            refine .skip ?_
            refine .seq ?_
            have hbr : ¬ (0 < (bl.map (·.1)).length ∧ most < sum + ((enc b).length : Int)) := by rw [List.length_map]; omega
            refine .region ?_
            refine .rd (.move rfl) ?_
            refine .rd (.fieldAddr fd71_2 rfl) ?_
            refine .rd (.ld na3 rfl .head rfl) ?_
            refine .rd (.fieldAddr fd71_3 rfl) ?_
            refine .rd (.ld na3 rfl .head rfl) ?_
            refine .rd (.sliceT (l := flat s.bs) (a := (flat (s.bs.take (j + i))).length) (h := (flat (s.bs.take (j + i))).length + (enc b).length) Tryz.underlying9 rfl ⟨_, rfl⟩ ⟨_, rfl⟩ (by omega) (by omega)) ?_
            refine .alter (t := 87) (v' := .string (str (enc b))) rfl (by rw [Nat.add_sub_cancel_left, flat_cut hb]) ?_
            refine .fn rfl rfl .nil (fun _ _ _ => trivial) (ReadBatch_ok (enc b) (by omega)) (fun v G1 hq => ?_)
            obtain ⟨ba, bc, rfl, rfl⟩ := hq
            simp only [List.cons_append, List.nil_append]
            refine .alter (t := 88) (v' := .tuple #[.agg (b.cells ba bc).toArray, .int .i64 ((enc b).length : Int), .int .i64 0]) rfl (read_back hgd ba bc) ?_
            refine .cast (X' := arr 66 3 ba bc (b.recs.flatMap Rec.cells)) (by rw [read_recs hgd]) ?_
            refine .settle .head (Settles.arr) ?_
            refine .rd (.move rfl) ?_
            refine .rd (.extract rfl rfl) ?_
            refine .rd (.extract rfl rfl) ?_
            refine .rd (.extract rfl rfl) ?_
            refine .ef (.alloc ti34 rfl (ones.of rfl)) ?_
            rintro _ _ ⟨b14, rfl, rfl⟩
            refine .ef0 (.storeAll ts34 rfl rfl (by rfl) .head rfl (ones.of rfl)) ?_
            rintro _ _ rfl
            refine .rd (.assign rfl) ?_
            refine .rd (.assign rfl) ?_
            refine .nil ?_
            refine .region ?_
            refine .rd (.move rfl) ?_
            refine .rd (.ldN ia34 ts34 rfl .head rfl) ?_
            refine .ef (.buildOne (cs := b.cells ba bc) Tryz.underlying43 ti34 (by decide) rfl rfl rfl (ones.of rfl)) ?_
            rintro _ _ ⟨bo, rfl, rfl⟩
            refine .ef (.append rfl rfl Tryz.underlying43 ti34 rfl (ones.of rfl) (by decide) (by decide) rfl rfl (.tail (.tail (.tail (.tail (.tail .head))))) (n := bl.length) (m := 1) (flat_length bmc_len _) (.srcBlk .head Tryz.underlying43 rfl (by decide)) (by omega)) ?_
            rintro _ _ ⟨qa, qc, rfl, qn, rfl⟩
            refine .rd (.assign rfl) ?_
            refine .nil ?_
            refine .cast (X' := arr 34 6 qa qc ((bl ++ [(b, ba, bc)]).flatMap bmc)) (by rw [List.flatMap_append]; simp [bmc]) ?_
            refine .knowAnd (Bal (bl ++ [(b, ba, bc)])) (.cons (.tail (.tail (.tail (.tail (.tail (.tail .head)))))) (.cons (.tail (.tail (.tail .head))) .nil)) (fun w h1 h2 => h1.snoc h2) ?_
            refine .inBlock ?_
            refine .region ?_
            refine .rd (.add rfl rfl (by omega) (by omega)) ?_
            refine .rd (.move rfl) ?_
            refine .nil ?_
            have hI' : j + (i + 1) ≤ s.bs.length ∧ goR off most (sum + ((enc b).length : Int)) ((bl ++ [(b, ba, bc)]).map (·.1)) (s.bs.drop (j + (i + 1))) = goR off most 0 [] s.bs ∧ (bl ++ [(b, ba, bc)]).length ≤ i + 1 ∧ 0 ≤ sum + ((enc b).length : Int) ∧ sum + ((enc b).length : Int) ≤ ((flat (s.bs.take (j + (i + 1)))).length : Int) := ⟨by omega, by rw [← hg, hb', goR_step, if_neg hlq, if_neg hbr, List.map_append]; rfl, by rw [List.length_append]; exact Nat.succ_le_succ hbi, by omega, by omega⟩
            exact (ih (i + 1, sum + ((enc b).length : Int), bl ++ [(b, ba, bc)], qa, qc) hI' (by show s.bs.length - (i + 1) < s.bs.length - i; omega)).to (.cons rfl (.cons rfl (.cons rfl (.cons rfl (.cons rfl (.cons (by first | rfl | (show _ = some (Value.slice _ (List.length _) _); rw [List.length_append]; rfl)) (.cons rfl (.cons rfl .nil)))))))) (.cons (.tail (.tail (.tail (.tail (.tail .head))))) (.cons (.tail .head) (.cons .head (.cons (.tail (.tail (.tail .head))) (.cons (.tail (.tail (.tail .head))) (.cons (.tail (.tail (.tail .head))) .nil))))))
      · refine .exit rfl ?_
        refine .seq ?_
        refine .region ?_
        refine .rd (.move rfl) ?_
        refine .rd (.assign rfl) ?_
        refine .nil ?_
        refine .retP Tryz.func36 (.cons (.tmp rfl) .nil) (.cons (.tail (.tail (.tail .head))) (.cons (.tail (.tail (.tail .head))) (.cons (.tail .head) (.cons (.tail .head) (.cons (.tail .head) .nil))))) ?_
        exact ⟨[_, _, _, _], ⟨bl, ra, rc, ((by rw [← hg, List.drop_eq_nil_of_le (by omega)]; rfl : goR off most 0 [] s.bs = bl.map (·.1)).symm.trans (if_neg c1).symm), rfl, rfl⟩, rfl⟩

end Go.Proofs.YtglhoenjflpibaaGreatDoor


namespace Go.Proofs.YtglhoenjflpibaaGreatDoor
open Go Go.Sp

set_option linter.unusedVariables false

namespace log10
theorem fd42_0 : FD Tryz.prog 42 0 0 := .of Tryz.underlying42 (by kernel_rfl)
theorem na39 : NotAgg Tryz.prog 39 := ⟨_, Tryz.underlying39, trivial⟩
theorem fd42_6 : FD Tryz.prog 42 6 6 := .of Tryz.underlying42 (by kernel_rfl)
theorem na40 : NotAgg Tryz.prog 40 := ⟨_, Tryz.underlying40, trivial⟩
theorem ts39 : TS Tryz.prog 39 1 := .of (by kernel_rfl)
theorem ts34 : TS Tryz.prog 34 6 := .of (by kernel_rfl)
theorem fd34_0 : FD Tryz.prog 34 0 0 := .of Tryz.underlying34 (by kernel_rfl)
theorem na3 : NotAgg Tryz.prog 3 := ⟨_, Tryz.underlying3, trivial⟩
end log10
open log10

theorem place_next {s : Sx} (hs : s.ok) {b : Bat} {C : List Bat} (h : b ∈ s.bs ∨ (b ∈ C ∧ ∀ x ∈ s.bs, x.en ≤ b.base)) (hb : s.base ≤ b.base) {xl : List BatM} (hx : xl.map (·.1) = segRead s b.base 0) (h0 : xl.length = 0) : b ∈ C := by
  rcases h with hc | ⟨hc, _⟩
  · have h1 := congrArg List.length hx
    rw [List.length_map, seg_first hs hc hb] at h1
    simp at h1; omega
  · exact hc

set_option maxHeartbeats 1000000 in
set_option maxRecDepth 20000 in
theorem place_ok (db mb : Nat) (d : Dk) (l : Lx) (b : Bat) (hl : l.ok d) (hb : b ∈ l.all) : Cn Tryz.prog 41 [.pointer (some ⟨l.lb, 0, none⟩), .int .i64 b.base] (LogAt db l) [blk db (d.cells mb) 60, mp nmv Fl.val mb d.fs] fun v G => v = .bool true ∧ G = [blk db (d.cells mb) 60, mp nmv Fl.val mb d.fs] := by
  refine .enter Tryz.func41 rfl (by kernel_rfl) rfl fun R k => ?_
  have hll := hl.len
  have hbg := hl.good b hb
  have hb0 := hbg.base
  have hb1 := hbg.en
  have hb2 := hbg.lt
  refine .seq ?_
  refine .region ?_
  refine .rd (.assign rfl) ?_
  refine .nil ?_
  refine .seq ?_
  refine .seq ?_
  refine .region ?_
  refine .rd (.move rfl) ?_
  refine .rd (.move rfl) ?_
  refine .rd (.nilCheck rfl) ?_
  refine .rd (.fieldAddr fd42_0 rfl) ?_
  refine .rd (.load na39 rfl (Knows.one (i := 0) (Knows.pick (.tail (.tail .head)) (k.mono fun _ h => h.1)) rfl)) ?_
  refine .fn rfl rfl .nil (Knows.pick (.tail (.tail .head)) (k.mono fun _ h => h.2.2 _ l.cur_in)) (Next_ok db l.cur hl.cur.1) (fun v G1 hq => ?_)
  obtain ⟨rfl, rfl⟩ := hq
  simp only [List.nil_append]
  refine .rd (.eqI rfl rfl) ?_
  refine .nil ?_
  refine .condP rfl (fun c1 => ?_) (fun c1 => ?_)
  · refine .seq ?_
    refine .region ?_
    refine .rd (.assign rfl) ?_
    refine .nil ?_
    refine .retP Tryz.func41 (.cons (.tmp rfl) .nil) (.cons .head (.cons .head (.cons .head .nil))) ?_
    exact ⟨[_, _], ⟨rfl, rfl⟩, rfl⟩
  · refine .skip ?_
    refine .seq ?_
    refine .seq ?_
    refine .region ?_
    refine .rd (.move rfl) ?_
    refine .rd (.nilCheck rfl) ?_
    refine .rd (.fieldAddr fd42_6 rfl) ?_
    refine .rd (.load na40 rfl (Knows.one (i := 6) (Knows.pick (.tail (.tail .head)) (k.mono fun _ h => h.1)) rfl)) ?_
    refine .rd (.lenL rfl rfl Tryz.underlying40 rfl) ?_
    refine .rd (.move rfl) ?_
    refine .nil ?_
    have hsl : l.segs.length = l.ini.length + 1 := by unfold Lx.segs; simp
    refine .alter (t := 19) (v' := .int .i64 (l.segs.length : Nat)) rfl (by rw [hsl]) ?_
    refine .block ?_
    refine .loop (σ := Nat) (fun i => i ≤ l.segs.length ∧ b ∈ (l.segs.drop i).flatMap (fun s : Sx => s.bs)) (fun i => l.segs.length - i) (fun i => [(0, .pointer (some ⟨l.lb, 0, none⟩)), (1, .int .i64 b.base), (18, .slice l.la (l.ini.length + 1) l.lc), (19, .int .i64 (l.segs.length : Nat)), (20, .int .i64 (i : Nat))]) (fun i => [blk db (d.cells mb) 60, mp nmv Fl.val mb d.fs, R]) 0 ⟨Nat.zero_le _, hb⟩ (.cons rfl (.cons rfl (.cons rfl (.cons rfl (.cons rfl .nil))))) (.cons .head (.cons .head (.cons .head .nil))) (fun i hI ih => ?_)
    obtain ⟨hin, hbi⟩ := hI
    refine .seq ?_
    refine .region ?_
    refine .rd (.lt rfl rfl) ?_
    refine .nil ?_
    refine .seq ?_
    refine .condP rfl (fun c4 => ?_) (fun c4 => ?_)
    · refine .skip ?_
      refine .seq ?_
      refine .block ?_
      refine .seq ?_
      obtain ⟨s, hs⟩ : ∃ s, l.segs[i]? = some s := ⟨_, List.getElem?_eq_getElem (by omega)⟩
      have hsm := List.mem_of_getElem? hs
      obtain ⟨hsok, hsn, hsx, hsf⟩ := hl.seg s hsm
      obtain ⟨hsb, hcase⟩ := place_cases hl hs hbi
      refine .tell (φ := ∃ b o, l.la = some ⟨b, o, none⟩) (Knows.pick (.tail (.tail .head)) (k.mono fun _ h => RowAt.addr h.2.1 (by rw [flat_length sp_len]; omega))) (fun hh => ?_)
      obtain ⟨b9, o9, h9⟩ := hh
      refine .region ?_
      refine .rd (.indexAddr (b := b9) (o := o9) Tryz.underlying40 ts39 (by show some (Value.slice (l.la) _ _) = _; rw [h9]) rfl (by omega) (by omega)) ?_
      refine .rd (.load na39 rfl (Knows.one (i := 0) (Knows.elem (f := sp) sp_len (by decide) (Knows.pick (.tail (.tail .head)) (k.mono fun _ h => h9 ▸ h.2.1)) hs) rfl)) ?_
      refine .rd (.assign rfl) ?_
      refine .nil ?_
      refine .seq ?_
      refine .region ?_
      refine .rd (.move rfl) ?_
      refine .rd (.move rfl) ?_
      refine .fn rfl rfl (.cons .head (.cons .head .nil)) (Knows.pick .head (k.mono fun _ h => h.2.2 s hsm)) (SegRead_ok db mb d s b.base 0 hsok hsx hsf ⟨by omega, by omega⟩) (fun v G1 hq => ?_)
      obtain ⟨xl, xa, xc, hxl, rfl, rfl⟩ := hq
      simp only [List.cons_append, List.nil_append]
      refine .rd (.assign rfl) ?_
      refine .nil ?_
      have hxn : xl.length ≤ 1 := by
        have h1 := congrArg List.length hxl
        rw [List.length_map] at h1
        rcases hcase with hc | ⟨_, hc⟩
        · rw [seg_first hsok hc hsb] at h1; exact Nat.le_of_eq h1
        · rw [seg_none hsok hc] at h1; exact Nat.le_trans (Nat.le_of_eq h1) (Nat.zero_le 1)
      refine .seq ?_
      refine .region ?_
      refine .rd (.move rfl) ?_
      refine .rd (.lenL rfl rfl Tryz.underlying43 rfl) ?_
      refine .rd (.gt rfl rfl) ?_
      refine .nil ?_
      refine .condP rfl (fun c7 => ?_) (fun c7 => ?_)
      · refine .seq ?_
        obtain ⟨y, hy⟩ : ∃ y, xl[0]? = some y := ⟨_, List.getElem?_eq_getElem (by omega)⟩
        have hyb : y.1 = b := by
          have h1 := congrArg (fun l => l[0]?) hxl
          simp only [List.getElem?_map, hy, Option.map_some] at h1
          rcases hcase with hc | ⟨_, hc⟩
          · rw [seg_first hsok hc hsb] at h1; exact Option.some.inj h1
          · rw [seg_none hsok hc] at h1; cases h1
        refine .tell (φ := ∃ b o, xa = some ⟨b, o, none⟩) ((Knows.arr (.tail (.tail .head))).mono fun _ h => RowAt.addr h (by rw [flat_length bmc_len]; omega)) (fun hh => ?_)
        obtain ⟨b8, o8, h8⟩ := hh
        refine .region ?_
        refine .rd (.move rfl) ?_
        refine .rd (.indexAddr (b := b8) (o := o8) Tryz.underlying43 ts34 (by show some (Value.slice (xa) _ _) = _; rw [h8]) rfl (by omega) (by omega)) ?_
        refine .rd (.fieldAddr fd34_0 rfl) ?_
        refine .rd (.load na3 rfl (Knows.one (i := 0) (Knows.elem (f := bmc) bmc_len (by decide) ((Knows.arr (.tail (.tail .head))).mono fun _ h => h8 ▸ h) hy) rfl)) ?_
        refine .rd (.move rfl) ?_
        refine .rd (.eqI rfl rfl) ?_
        refine .rd (.assign rfl) ?_
        refine .nil ?_
        refine .retP Tryz.func41 (.cons (.tmp rfl) .nil) (.cons .head (.cons .head (.cons (.tail (.tail .head)) .nil))) ?_
        exact ⟨[_, _], ⟨congrArg Value.bool (decide_eq_true (by show y.1.base = b.base; rw [hyb])), rfl⟩, rfl⟩
      · refine .skip ?_
        refine .inBlock ?_
        refine .region ?_
        refine .rd (.add rfl rfl (by omega) (by omega)) ?_
        refine .rd (.move rfl) ?_
        refine .nil ?_
        have hb' : b ∈ (l.segs.drop (i + 1)).flatMap (fun s : Sx => s.bs) := place_next hsok hcase hsb hxl (by omega)
        exact (ih (i + 1) ⟨by omega, hb'⟩ (by show l.segs.length - (i + 1) < l.segs.length - i; omega)).to (.cons rfl (.cons rfl (.cons rfl (.cons rfl (.cons rfl .nil))))) (.cons .head (.cons .head (.cons (.tail (.tail .head)) .nil)))
    · refine .exit rfl ?_
      refine .seq ?_
      refine .region ?_
      refine .rd (.assign rfl) ?_
      refine .nil ?_
      exact absurd hbi (by rw [List.drop_eq_nil_of_le (by omega)]; intro h; cases h)

set_option maxHeartbeats 1000000 in
set_option maxRecDepth 20000 in
theorem placeEnd_ok (db mb : Nat) (d : Dk) (l : Lx) (hl : l.ok d) : Cn Tryz.prog 41 [.pointer (some ⟨l.lb, 0, none⟩), .int .i64 l.next] (LogAt db l) [blk db (d.cells mb) 60, mp nmv Fl.val mb d.fs] fun v G => v = .bool true ∧ G = [blk db (d.cells mb) 60, mp nmv Fl.val mb d.fs] := by
  refine .enter Tryz.func41 rfl (by kernel_rfl) rfl fun R k => ?_
  refine .seq ?_
  refine .region ?_
  refine .rd (.assign rfl) ?_
  refine .nil ?_
  refine .seq ?_
  refine .seq ?_
  refine .region ?_
  refine .rd (.move rfl) ?_
  refine .rd (.move rfl) ?_
  refine .rd (.nilCheck rfl) ?_
  refine .rd (.fieldAddr fd42_0 rfl) ?_
  refine .rd (.load na39 rfl (Knows.one (i := 0) (Knows.pick (.tail (.tail .head)) (k.mono fun _ h => h.1)) rfl)) ?_
  refine .fn rfl rfl .nil (Knows.pick (.tail (.tail .head)) (k.mono fun _ h => h.2.2 _ l.cur_in)) (Next_ok db l.cur hl.cur.1) (fun v G1 hq => ?_)
  obtain ⟨rfl, rfl⟩ := hq
  simp only [List.nil_append]
  refine .rd (.eqI rfl rfl) ?_
  refine .alter (t := 14) (v' := .bool true) rfl (congrArg Value.bool (decide_eq_true rfl)) ?_
  refine .nil ?_
  refine .condT rfl ?_
  refine .seq ?_
  refine .region ?_
  refine .rd (.assign rfl) ?_
  refine .nil ?_
  refine .retP Tryz.func41 (.cons (.tmp rfl) .nil) (.cons .head (.cons .head (.cons .head .nil))) ?_
  exact ⟨[_, _], ⟨rfl, rfl⟩, rfl⟩

end Go.Proofs.YtglhoenjflpibaaGreatDoor


namespace Go.Proofs.YtglhoenjflpibaaGreatDoor
open Go Go.Sp

set_option linter.unusedVariables false

namespace log12
theorem fd42_4 : FD Tryz.prog 42 4 4 := .of Tryz.underlying42 (by kernel_rfl)
theorem na3 : NotAgg Tryz.prog 3 := ⟨_, Tryz.underlying3, trivial⟩
theorem fd42_5 : FD Tryz.prog 42 5 5 := .of Tryz.underlying42 (by kernel_rfl)
theorem fd42_6 : FD Tryz.prog 42 6 6 := .of Tryz.underlying42 (by kernel_rfl)
theorem na40 : NotAgg Tryz.prog 40 := ⟨_, Tryz.underlying40, trivial⟩
theorem ts39 : TS Tryz.prog 39 1 := .of (by kernel_rfl)
theorem na39 : NotAgg Tryz.prog 39 := ⟨_, Tryz.underlying39, trivial⟩
theorem fd42_1 : FD Tryz.prog 42 1 1 := .of Tryz.underlying42 (by kernel_rfl)
theorem na24 : NotAgg Tryz.prog 24 := ⟨_, Tryz.underlying24, trivial⟩
theorem ts40 : TS Tryz.prog 40 1 := .of (by kernel_rfl)
end log12
open log12

theorem placed (db mb : Nat) (d : Dk) (l : Lx) (off : Int) (hl : l.ok d) (h : off = l.next ∨ ∃ b ∈ l.all, b.base = off) : Cn Tryz.prog 41 [.pointer (some ⟨l.lb, 0, none⟩), .int .i64 off] (LogAt db l) [blk db (d.cells mb) 60, mp nmv Fl.val mb d.fs] fun v G => v = .bool true ∧ G = [blk db (d.cells mb) 60, mp nmv Fl.val mb d.fs] := by
  rcases h with rfl | ⟨b, hb, rfl⟩
  · exact placeEnd_ok db mb d l hl
  · exact place_ok db mb d l b hl hb
theorem Knows.arrCap {Γ Γ' : List SProp} {e s : Nat} {a : Option Addr} {c : Nat} {cs : List Value} (p : Pick (arr e s a c cs) Γ Γ') : Knows Γ fun _ => cs.length ≤ c * s := fun _ _ h => (h.map fun _ => p.sat).arr_len.1
theorem arr_cap {e s : Nat} {a : Option Addr} {c : Nat} {cs : List Value} {h : Hp} (H : arr e s a c cs h) : cs.length ≤ c * s := by
  rcases H with ⟨_, h3⟩ | ⟨b, pre, post, e1, e2, e3⟩
  · subst h3; exact Nat.zero_le _
  · omega
theorem arr_up {e s : Nat} {a : Option Addr} {c : Nat} {cs : List Value} {h k : Hp} (hl : Hp.le h k) (H : arr e s a c cs h) : arr e s a c cs k := by
  rcases H with h1 | ⟨b, pre, post, e1, e2, e3⟩
  · exact .inl h1
  · exact .inr ⟨b, pre, post, e1, e2, blk_mono hl e3⟩
theorem less_cells {q : Lx} {x : Sx} {r : List Sx} {db : Nat} {la : Option Addr} (hx : q.ini = x :: r) : lcells (some ⟨q.cur.b, 0, none⟩) db q.pre q.most q.start q.high la q.ini.length (q.lc - 1) = (q.less la).cells db := by
  unfold Lx.cells Lx.less; rw [hx]; rfl
theorem less_arr {q : Lx} {x : Sx} {r : List Sx} {b o : Nat} (hx : q.ini = x :: r) (h9 : q.la = some ⟨b, o, none⟩) {h : Hp} (H : sat [arr 39 1 q.la q.lc (q.segs.flatMap sp)] h) : arr 39 1 (q.less (some ⟨b, o + 1, none⟩)).la (q.less (some ⟨b, o + 1, none⟩)).lc ((q.less (some ⟨b, o + 1, none⟩)).segs.flatMap sp) h := by
  obtain ⟨h1, _, _, hle, _, H1, _⟩ := H
  rw [h9, less_segs hx (some ⟨b, o + 1, none⟩), List.flatMap_cons] at H1
  have hc : q.lc = (q.lc - 1) + 1 := by
    have := arr_cap H1
    rw [List.length_append, sp_len] at this; omega
  rw [hc] at H1
  exact arr_up hle (arr_tail H1)

set_option maxHeartbeats 1000000 in
set_option maxRecDepth 20000 in
theorem Delete_ok (db mb : Nat) (d : Dk) (l : Lx) (off : Nat) (hd : d.ok) (hl : l.ok d) (h1 : l.start ≤ (off : Int)) (hp : (off : Int) = l.next ∨ ∃ b ∈ l.all, b.base = (off : Int)) (h2 : (off : Int) ≤ l.next) (hr : (d.get (metaOf l.pre)).isSome = true ∨ d.fs.length < 256) (hs : d.used + 22 ≤ d.size) : Cn Tryz.prog 19 [.pointer (some ⟨l.lb, 0, none⟩), .int .i64 (off : Int)] LV [LG db l, blk db (d.cells mb) 60, mp nmv Fl.val mb d.fs] fun v G => ∃ q e, v = .int .i64 0 ∧ DelTo l d off (max l.high off).toNat q e ∧ G = [LG db q, blk db (e.cells mb) 60, mp nmv Fl.val mb e.fs] := by
  refine .enter Tryz.func19 rfl (by kernel_rfl) rfl fun R k => ?_
  have hst := hl.start
  have hhi := hl.high
  have hcn := hl.cur.1.next_le
  have hnn : l.next = l.cur.next := rfl
  refine .unpack (L := [blk l.lb (l.cells db) 42, arr 39 1 l.la l.lc (l.segs.flatMap sp), bag (SG db) l.segs]) .head ?_
  simp only [List.cons_append, List.nil_append]
  refine .seq ?_
  refine .region ?_
  refine .rd (.assign rfl) ?_
  refine .nil ?_
  refine .seq ?_
  refine .seq ?_
  refine .region ?_
  refine .rd (.move rfl) ?_
  refine .rd (.move rfl) ?_
  refine .rd (.nilCheck rfl) ?_
  refine .rd (.fieldAddr fd42_4 rfl) ?_
  refine .rd (.ld na3 rfl .head rfl) ?_
  refine .rd (.lt rfl rfl) ?_
  refine .alter (t := 11) (v' := .bool false) rfl (congrArg Value.bool (decide_eq_false (by omega))) ?_
  refine .rd (.move rfl) ?_
  refine .on (t := 12) rfl rfl ?_
  refine .rd (.move rfl) ?_
  refine .on (t := 12) rfl rfl ?_
  refine .rd (.move rfl) ?_
  refine .on (t := 12) rfl rfl ?_
  refine .fn rfl rfl (.cons (.tail (.tail (.tail .head))) (.cons (.tail (.tail (.tail .head))) .nil)) ((Knows.blk .head).and ((Knows.arr (.tail .head)).and (Knows.allSG (.tail (.tail .head))))) (placed db mb d l (off : Int) hl hp) (fun v G1 hq => ?_)
  obtain ⟨rfl, rfl⟩ := hq
  simp only [List.cons_append, List.nil_append]
  refine .on (t := 12) rfl rfl ?_
  refine .rd (.not rfl) ?_
  refine .rd (.pickF rfl rfl) ?_
  refine .nil ?_
  refine .condF rfl ?_
  refine .skip ?_
  refine .seq ?_
  refine .seq ?_
  refine .region ?_
  refine .rd (.move rfl) ?_
  refine .rd (.move rfl) ?_
  refine .rd (.move rfl) ?_
  refine .rd (.nilCheck rfl) ?_
  refine .rd (.fieldAddr fd42_5 rfl) ?_
  refine .rd (.ld na3 rfl (.tail (.tail .head)) rfl) ?_
  refine .rd (.move rfl) ?_
  refine .rd (.max2 rfl rfl rfl) ?_
  refine .alter (t := 25) (v' := .int .i64 ((max l.high off).toNat : Nat)) rfl (congrArg (Value.int .i64) (by omega)) ?_
  refine .fn rfl rfl (.cons (.tail (.tail .head)) (.cons .head (.cons .head .nil))) (Knows.pick (.tail (.tail .head)) k) (keep_ok l.lb db mb d (some ⟨l.cur.b, 0, none⟩) l.pre l.most l.start l.high l.la (l.ini.length + 1) l.lc off (max l.high off).toNat (by omega) (by omega) hd hl.pre hr hs) (fun v G1 hq => ?_)
  obtain ⟨rfl, rfl⟩ := hq
  simp only [List.cons_append, List.nil_append]
  refine .rd (.assign rfl) ?_
  refine .nil ?_
  refine .seq ?_
  refine .region ?_
  refine .rd (.move rfl) ?_
  refine .rd (.neI rfl rfl) ?_
  refine .alter (t := 28) (v' := .bool false) rfl (congrArg Value.bool (by rfl)) ?_
  refine .nil ?_
  have hD : DelTo l d off (max l.high off).toNat ({ l with start := (off : Int), high := (((max l.high off).toNat : Nat) : Int) } : Lx) (d.put (metaOf l.pre) ⟨mt off (max l.high off).toNat, (mt off (max l.high off).toNat).length⟩) := .begin hl hd h1 (by omega) (by omega) (by omega) (by omega) hs
  refine .cast (X' := blk ({ l with start := (off : Int), high := (((max l.high off).toNat : Nat) : Int) } : Lx).lb (({ l with start := (off : Int), high := (((max l.high off).toNat : Nat) : Int) } : Lx).cells db) 42) (rfl) ?_
  refine .perm (.cons (.tail (.tail (.tail .head))) (.cons .head (.cons .head (.cons .head (.cons .head (.cons .head .nil)))))) ?_
  refine .cast (X' := arr 39 1 ({ l with start := (off : Int), high := (((max l.high off).toNat : Nat) : Int) } : Lx).la ({ l with start := (off : Int), high := (((max l.high off).toNat : Nat) : Int) } : Lx).lc (({ l with start := (off : Int), high := (((max l.high off).toNat : Nat) : Int) } : Lx).segs.flatMap sp)) (rfl) ?_
  refine .perm (.cons (.tail (.tail (.tail (.tail .head)))) (.cons .head (.cons .head (.cons .head (.cons .head (.cons .head .nil)))))) ?_
  refine .cast (X' := bag (SG db) ({ l with start := (off : Int), high := (((max l.high off).toNat : Nat) : Int) } : Lx).segs) (rfl) ?_
  refine .condF rfl ?_
  refine .skip ?_
  refine .seq ?_
  refine .block ?_
  refine .loop (σ := Lx × Dk) (fun ⟨q, e⟩ => DelTo l d off (max l.high off).toNat q e) (fun ⟨q, e⟩ => q.ini.length) (fun ⟨q, e⟩ => [(0, .pointer (some ⟨q.lb, 0, none⟩)), (1, .int .i64 (off : Nat))]) (fun ⟨q, e⟩ => [blk q.lb (q.cells db) 42, arr 39 1 q.la q.lc (q.segs.flatMap sp), bag (SG db) q.segs, blk db (e.cells mb) 60, mp nmv Fl.val mb e.fs, R]) (({ l with start := (off : Int), high := (((max l.high off).toNat : Nat) : Int) } : Lx), (d.put (metaOf l.pre) ⟨mt off (max l.high off).toNat, (mt off (max l.high off).toNat).length⟩)) hD (.cons rfl (.cons rfl .nil)) (.cons (.tail (.tail .head)) (.cons (.tail .head) (.cons .head (.cons .head (.cons .head (.cons .head .nil)))))) (fun s' hI ih => ?_)
  obtain ⟨q, e⟩ := s'
  dsimp only at hI ih ⊢
  have hD := hI
  have hql := hD.ok.len
  have hqs : q.segs.length = q.ini.length + 1 := by unfold Lx.segs; simp
  refine .seq ?_
  refine .seq ?_
  refine .region ?_
  refine .rd (.move rfl) ?_
  refine .rd (.nilCheck rfl) ?_
  refine .rd (.fieldAddr fd42_6 rfl) ?_
  refine .rd (.ld na40 rfl .head rfl) ?_
  refine .rd (.lenL rfl rfl Tryz.underlying40 rfl) ?_
  refine .rd (.gt rfl rfl) ?_
  refine .rd (.move rfl) ?_
  refine .split (t := 36) rfl (fun g6_6 => ?_) (fun g6_6 => ?_)
  · replace g6_6 := of_decide_eq_true g6_6
    obtain ⟨x, r, hx⟩ : ∃ x r, q.ini = x :: r := by
      cases h : q.ini with
      | nil => rw [h] at g6_6; exact absurd g6_6 (by decide)
      | cons x r => exact ⟨x, r, rfl⟩
    have hini : (q.less none).ini = r := by unfold Lx.less; rw [hx]; rfl
    have hss : q.segs = x :: (r ++ [q.cur]) := by unfold Lx.segs; rw [hx]; rfl
    have hxin : x ∈ q.segs := by rw [hss]; exact .head _
    obtain ⟨hxok, hxnm, hxs, hxf⟩ := hD.ok.seg x hxin
    have hx0 : q.segs[0]? = some x := by rw [hss]; rfl
    have hxb0 := hxok.base0
    have hxb1 := hxok.base1
    refine .tell (φ := ∃ b o, q.la = some ⟨b, o, none⟩) ((Knows.arr (.tail .head)).mono fun _ h => RowAt.addr h (by rw [flat_length sp_len]; omega)) (fun hh => ?_)
    obtain ⟨b9, o9, h9⟩ := hh
    refine .tell (Knows.arrCap (.tail .head)) (fun hh => ?_)
    have hcap : q.ini.length + 1 ≤ q.lc := by rw [flat_length sp_len, hqs] at hh; omega
    clear hh
    have hlen1 : q.ini.length = r.length + 1 := by rw [hx]; rfl
    refine .on (t := 36) rfl rfl ?_
    refine .rd (.move rfl) ?_
    refine .on (t := 36) rfl rfl ?_
    refine .rd (.nilCheck rfl) ?_
    refine .on (t := 36) rfl rfl ?_
    refine .rd (.fieldAddr fd42_6 rfl) ?_
    refine .on (t := 36) rfl rfl ?_
    refine .rd (.ld na40 rfl .head rfl) ?_
    refine .on (t := 36) rfl rfl ?_
    refine .rd (.indexAddr (b := b9) (o := o9) Tryz.underlying40 ts39 (by show some (Value.slice (q.la) _ _) = _; rw [h9]) rfl (by omega) (by omega)) ?_
    refine .on (t := 36) rfl rfl ?_
    refine .rd (.load na39 rfl (Knows.one (i := 0) (Knows.elem (f := sp) sp_len (by decide) ((Knows.arr (.tail .head)).mono fun _ h => h9 ▸ h) hx0) rfl)) ?_
    refine .on (t := 36) rfl rfl ?_
    refine .fn rfl rfl .nil ((Knows.allSG (.tail (.tail .head))).mono fun _ h => h x hxin) (Next_ok db x hxok) (fun v G1 hq => ?_)
    obtain ⟨rfl, rfl⟩ := hq
    simp only [List.nil_append]
    refine .on (t := 36) rfl rfl ?_
    refine .rd (.move rfl) ?_
    refine .on (t := 36) rfl rfl ?_
    refine .rd (.le rfl rfl) ?_
    refine .rd (.pickT rfl rfl) ?_
    refine .nil ?_
    refine .condP rfl (fun c6 => ?_) (fun c6 => ?_)
    · have hle : x.next ≤ (off : Int) := c6
      refine .skip ?_
      refine .block ?_
      refine .seq ?_
      refine .draws [3, 8, 10] [blk q.lb (q.cells db) 42, arr 39 1 q.la q.lc (q.segs.flatMap sp)] (by kernel_rfl) ?_
      refine .rp 0 rfl (by kernel_rfl) (by kernel_rfl) (by kernel_rfl) (Reads.pure (.move rfl)) ?_
      refine .rp 1 rfl (by kernel_rfl) (by kernel_rfl) (by kernel_rfl) (Reads.pure (.nilCheck rfl)) ?_
      refine .rp 2 rfl (by kernel_rfl) (by kernel_rfl) (by kernel_rfl) (Reads.pure (.fieldAddr fd42_1 rfl)) ?_
      refine .rd 3 rfl rfl (by kernel_rfl) (by kernel_rfl) (by kernel_rfl) (.ld na24 rfl .head rfl) (.cons .head (.cons .head .nil)) ?_
      refine .rp 4 rfl (by kernel_rfl) (by kernel_rfl) (by kernel_rfl) (Reads.pure (.move rfl)) ?_
      refine .rp 5 rfl (by kernel_rfl) (by kernel_rfl) (by kernel_rfl) (Reads.pure (.move rfl)) ?_
      refine .rp 6 rfl (by kernel_rfl) (by kernel_rfl) (by kernel_rfl) (Reads.pure (.nilCheck rfl)) ?_
      refine .rp 7 rfl (by kernel_rfl) (by kernel_rfl) (by kernel_rfl) (Reads.pure (.fieldAddr fd42_6 rfl)) ?_
      refine .rd 8 rfl rfl (by kernel_rfl) (by kernel_rfl) (by kernel_rfl) (.ld na40 rfl .head rfl) (.cons .head (.cons .head .nil)) ?_
      refine .rp 9 rfl (by kernel_rfl) (by kernel_rfl) (by kernel_rfl) (Reads.pure (.indexAddr (b := b9) (o := o9) Tryz.underlying40 ts39 (by show some (Value.slice (q.la) _ _) = _; rw [h9]) rfl (by omega) (by omega))) ?_
      refine .rd 10 rfl rfl (by kernel_rfl) (by kernel_rfl) (by kernel_rfl) (.load na39 rfl (Knows.one (i := 0) (Knows.elem (f := sp) sp_len (by decide) ((Knows.arr (.tail .head)).mono fun _ h => h9 ▸ h) hx0) rfl)) (.cons .head (.cons .head .nil)) ?_
      refine .ef 11 (by kernel_rfl) rfl (.fn rfl rfl .nil ((Knows.allSG (.tail (.tail .head))).mono fun _ h => h x hxin) (Base_ok db x)) ?_
      rintro v _ ⟨G1, hq, rfl⟩
      obtain ⟨rfl, rfl⟩ := hq
      simp only [List.nil_append]
      refine ⟨.inr ⟨_, (.cons .head (.cons .head .nil))⟩, ?_⟩
      refine .alter (t := 58) (v' := .int .i64 (x.base.toNat : Nat)) rfl (congrArg (Value.int .i64) (by omega)) ?_
      refine .ef 12 (by kernel_rfl) rfl (.fn rfl rfl .nil ((Knows.blk .head).and (Knows.pick (.tail (.tail (.tail (.tail (.tail .head))))) k)) (name_ok q.lb db (some ⟨q.cur.b, 0, none⟩) q.pre q.most q.start q.high q.la (q.ini.length + 1) q.lc x.base.toNat (by omega) hD.ok.pre.len)) ?_
      rintro v _ ⟨G1, hq, rfl⟩
      obtain ⟨rfl, rfl⟩ := hq
      simp only [List.nil_append]
      refine ⟨.inr ⟨_, (.cons .head (.cons .head .nil))⟩, ?_⟩
      refine .alter (t := 59) (v' := .string (str x.nm)) rfl (by rw [hxnm]; rfl) ?_
      refine .ef 13 (by kernel_rfl) rfl (.fn rfl rfl (.cons (.tail (.tail (.tail .head))) (.cons (.tail (.tail (.tail .head))) .nil)) (fun _ _ _ => trivial) (Remove_ok db mb e x.nm hD.dok hxs)) ?_
      rintro v _ ⟨G1, hq, rfl⟩
      obtain ⟨rfl, rfl⟩ := hq
      simp only [List.cons_append, List.nil_append]
      refine ⟨.inl (by kernel_rfl), ?_⟩
      refine .done (by kernel_rfl) ?_
      refine .region ?_
      refine .rd (.move rfl) ?_
      refine .rd (.move rfl) ?_
      refine .rd (.nilCheck rfl) ?_
      refine .rd (.fieldAddr fd42_6 rfl) ?_
      refine .rd (.ld na40 rfl (.tail (.tail .head)) rfl) ?_
      refine .rd (.slice (l := 1) (h := q.ini.length + 1) (m := q.lc) Tryz.underlying40 ts39 rfl rfl ⟨rfl, rfl⟩ ⟨_, rfl⟩ (by omega) (by omega) (by omega)) ?_
      refine .alter (t := 66) (v' := .slice (some ⟨b9, o9 + 1, none⟩) q.ini.length (q.lc - 1)) rfl (by rw [if_neg (by omega), h9]; rfl) ?_
      refine .rd (.nilCheck rfl) ?_
      refine .rd (.fieldAddr fd42_6 rfl) ?_
      refine .ef0 (.store ts40 rfl rfl (.tail (.tail .head)) rfl (Nat.le_of_ble_eq_true rfl)) ?_
      rintro _ _ rfl
      refine .nil ?_
      refine .takeBag (f := SG db) (x := x) (m := (q.less (some ⟨b9, o9 + 1, none⟩)).segs) (.tail (.tail (.tail (.tail .head)))) (by rw [less_segs hx (some ⟨b9, o9 + 1, none⟩)]) ?_
      refine .perm (.cons (.tail (.tail .head)) (.cons .head (.cons .head (.cons .head (.cons .head (.cons .head (.cons .head .nil))))))) ?_
      refine .cast (X' := blk (q.less (some ⟨b9, o9 + 1, none⟩)).lb ((q.less (some ⟨b9, o9 + 1, none⟩)).cells db) 42) (congrArg (fun z => blk q.lb z 42) (less_cells (db := db) (la := some ⟨b9, o9 + 1, none⟩) hx)) ?_
      refine .close (X := arr 39 1 (q.less (some ⟨b9, o9 + 1, none⟩)).la (q.less (some ⟨b9, o9 + 1, none⟩)).lc ((q.less (some ⟨b9, o9 + 1, none⟩)).segs.flatMap sp)) (.cons (.tail (.tail (.tail (.tail (.tail .head))))) .nil) (fun h H => less_arr hx h9 H) ?_
      refine .inBlock ?_
      exact (ih (q.less (some ⟨b9, o9 + 1, none⟩), e.del x.nm) (hD.step hx hle _) (by show (q.ini.tail).length < q.ini.length; rw [hx]; exact Nat.lt_succ_self _)).to (.cons rfl (.cons rfl .nil)) (.cons (.tail .head) (.cons .head (.cons (.tail .head) (.cons (.tail .head) (.cons (.tail .head) (.cons (.tail .head) .nil))))))
    · refine .exit rfl ?_
      refine .seq ?_
      refine .region ?_
      refine .rd (.assign rfl) ?_
      refine .nil ?_
      refine .pack (L := [blk q.lb (q.cells db) 42, arr 39 1 q.la q.lc (q.segs.flatMap sp), bag (SG db) q.segs]) (.cons .head (.cons .head (.cons .head .nil))) ?_
      refine .retP Tryz.func19 (.cons (.tmp rfl) .nil) (.cons .head (.cons .head (.cons .head (.cons .head .nil)))) ?_
      exact ⟨[_, _, _], ⟨q, e, rfl, hD, rfl⟩, rfl⟩
  · replace g6_6 := of_decide_eq_false g6_6
    refine .off (t := 36) rfl rfl rfl ?_
    refine .off (t := 36) rfl rfl rfl ?_
    refine .off (t := 36) rfl rfl rfl ?_
    refine .off (t := 36) rfl rfl rfl ?_
    refine .off (t := 36) rfl rfl rfl ?_
    refine .off (t := 36) rfl rfl rfl ?_
    refine .off (t := 36) rfl rfl rfl ?_
    refine .off (t := 36) rfl rfl rfl ?_
    refine .off (t := 36) rfl rfl rfl ?_
    refine .rd (.pickF rfl rfl) ?_
    refine .nil ?_
    refine .condF rfl ?_
    refine .exit rfl ?_
    refine .seq ?_
    refine .region ?_
    refine .rd (.assign rfl) ?_
    refine .nil ?_
    refine .pack (L := [blk q.lb (q.cells db) 42, arr 39 1 q.la q.lc (q.segs.flatMap sp), bag (SG db) q.segs]) (.cons .head (.cons .head (.cons .head .nil))) ?_
    refine .retP Tryz.func19 (.cons (.tmp rfl) .nil) (.cons .head (.cons .head (.cons .head (.cons .head .nil)))) ?_
    exact ⟨[_, _, _], ⟨q, e, rfl, hD, rfl⟩, rfl⟩

end Go.Proofs.YtglhoenjflpibaaGreatDoor


namespace Go.Proofs.YtglhoenjflpibaaGreatDoor
open Go Go.Sp

set_option linter.unusedVariables false

namespace log13
theorem fd42_4 : FD Tryz.prog 42 4 4 := .of Tryz.underlying42 (by kernel_rfl)
theorem na3 : NotAgg Tryz.prog 3 := ⟨_, Tryz.underlying3, trivial⟩
theorem fd42_0 : FD Tryz.prog 42 0 0 := .of Tryz.underlying42 (by kernel_rfl)
theorem na39 : NotAgg Tryz.prog 39 := ⟨_, Tryz.underlying39, trivial⟩
theorem fd42_6 : FD Tryz.prog 42 6 6 := .of Tryz.underlying42 (by kernel_rfl)
theorem na40 : NotAgg Tryz.prog 40 := ⟨_, Tryz.underlying40, trivial⟩
theorem ts39 : TS Tryz.prog 39 1 := .of (by kernel_rfl)
theorem fd42_1 : FD Tryz.prog 42 1 1 := .of Tryz.underlying42 (by kernel_rfl)
theorem na24 : NotAgg Tryz.prog 24 := ⟨_, Tryz.underlying24, trivial⟩
theorem ts40 : TS Tryz.prog 40 1 := .of (by kernel_rfl)
theorem fd42_5 : FD Tryz.prog 42 5 5 := .of Tryz.underlying42 (by kernel_rfl)
theorem ts3 : TS Tryz.prog 3 1 := .of (by kernel_rfl)
end log13
open log13

theorem CutI.base_le {l q : Lx} {d e : Dk} {off : Int} (h : CutI l d off q e) (hc : q.ini = [] ∨ q.cur.base < off) (h1 : l.start ≤ off) (h2 : baseOf l ≤ l.start) : q.cur.base ≤ off := by
  rcases hc with hc | hc
  · have : baseOf q = q.cur.base := by unfold baseOf Lx.segs; rw [hc]; rfl
    have := h.base
    omega
  · omega
theorem chop_cells {l q : Lx} {d e : Dk} {off : Int} (h : CutI l d off q e) (hqs : q.segs.length = q.ini.length + 1) {z db : Nat} {sm : List Nat} {n : Int} : blk l.lb (lcells (some ⟨q.cur.b, 0, none⟩) db l.pre l.most l.start n l.la q.segs.length l.lc) 42 = blk (l.chop q z sm n).lb ((l.chop q z sm n).cells db) 42 := by
  rw [hqs, ← h.lb, ← h.pre, ← h.most, ← h.start]; rfl
theorem chop_arr {l q : Lx} {t : List Sx} (ht : l.segs = q.segs ++ t) {z : Nat} {sm : List Nat} {n : Int} {h : Hp} (H : sat [arr 39 1 l.la l.lc (l.segs.flatMap sp)] h) : arr 39 1 l.la l.lc ((l.chop q z sm n).segs.flatMap sp) h := by
  obtain ⟨h1, _, _, hle, _, H1, _⟩ := H
  have e : (l.chop q z sm n).segs.flatMap sp = q.segs.flatMap sp := by
    unfold Lx.segs Lx.chop; rw [List.flatMap_append, List.flatMap_append]; rfl
  rw [e]
  rw [ht, List.flatMap_append] at H1
  exact arr_up hle (arr.shrink H1)

set_option maxHeartbeats 1000000 in
set_option maxRecDepth 20000 in
theorem LCut_ok (db mb : Nat) (d : Dk) (l : Lx) (off : Int) (hd : d.ok) (hl : l.ok d) (h1 : l.start ≤ off) (h2 : off ≤ l.next) (hge : l.start ≤ nextOf (baseOf l) (cutN off l.all)) : Cn Tryz.prog 22 [.pointer (some ⟨l.lb, 0, none⟩), .int .i64 off] LV [LG db l, blk db (d.cells mb) 60, mp nmv Fl.val mb d.fs] fun v G => ∃ q e, v = .int .i64 0 ∧ CutTo l d off q e ∧ G = [LG db q, blk db (e.cells mb) 60, mp nmv Fl.val mb e.fs] := by
  refine .enter Tryz.func22 rfl (by kernel_rfl) rfl fun R k => ?_
  have hst := hl.start
  have hhi := hl.high
  have hcn := hl.cur.1.next_le
  have hnn : l.next = l.cur.next := rfl
  have hll := hl.len
  have hls : l.segs.length = l.ini.length + 1 := by unfold Lx.segs; simp
  have hD0 : CutI l d off { l with high := l.start } d := .begin hl hd h2
  refine .unpack (L := [blk l.lb (l.cells db) 42, arr 39 1 l.la l.lc (l.segs.flatMap sp), bag (SG db) l.segs]) .head ?_
  simp only [List.cons_append, List.nil_append]
  refine .perm (.cons (.tail (.tail .head)) (.cons .head (.cons .head (.cons .head (.cons .head (.cons .head .nil)))))) ?_
  refine .cast (X' := bag (SG db) ({ l with high := l.start } : Lx).segs) (rfl) ?_
  refine .seq ?_
  refine .region ?_
  refine .rd (.assign rfl) ?_
  refine .nil ?_
  refine .seq ?_
  refine .seq ?_
  refine .region ?_
  refine .rd (.move rfl) ?_
  refine .rd (.move rfl) ?_
  refine .rd (.nilCheck rfl) ?_
  refine .rd (.fieldAddr fd42_4 rfl) ?_
  refine .rd (.ld na3 rfl (.tail .head) rfl) ?_
  refine .rd (.lt rfl rfl) ?_
  refine .alter (t := 11) (v' := .bool false) rfl (congrArg Value.bool (decide_eq_false (by omega))) ?_
  refine .rd (.move rfl) ?_
  refine .on (t := 12) rfl rfl ?_
  refine .rd (.move rfl) ?_
  refine .on (t := 12) rfl rfl ?_
  refine .rd (.move rfl) ?_
  refine .on (t := 12) rfl rfl ?_
  refine .rd (.nilCheck rfl) ?_
  refine .on (t := 12) rfl rfl ?_
  refine .rd (.fieldAddr fd42_0 rfl) ?_
  refine .on (t := 12) rfl rfl ?_
  refine .rd (.ld na39 rfl (.tail .head) rfl) ?_
  refine .on (t := 12) rfl rfl ?_
  refine .fn rfl rfl .nil ((Knows.allSG .head).mono fun _ h => h l.cur l.cur_in) (Next_ok db l.cur hl.cur.1) (fun v G1 hq => ?_)
  obtain ⟨rfl, rfl⟩ := hq
  simp only [List.nil_append]
  refine .on (t := 12) rfl rfl ?_
  refine .rd (.gt rfl rfl) ?_
  refine .alter (t := 19) (v' := .bool false) rfl (congrArg Value.bool (decide_eq_false (by omega))) ?_
  refine .rd (.pickF rfl rfl) ?_
  refine .nil ?_
  refine .condF rfl ?_
  refine .skip ?_
  refine .seq ?_
  refine .region ?_
  refine .rd (.move rfl) ?_
  refine .rd (.nilCheck rfl) ?_
  refine .rd (.fieldAddr fd42_6 rfl) ?_
  refine .rd (.ld na40 rfl (.tail .head) rfl) ?_
  refine .rd (.lenL rfl rfl Tryz.underlying40 rfl) ?_
  refine .rd (.assign rfl) ?_
  refine .nil ?_
  refine .alter (t := 5) (v' := .int .i64 (({ l with high := l.start } : Lx).segs.length : Nat)) rfl (by rw [← hls]; rfl) ?_
  refine .seq ?_
  refine .block ?_
  refine .loop (σ := Lx × Dk) (fun ⟨q, e⟩ => CutI l d off q e) (fun ⟨q, e⟩ => q.ini.length) (fun ⟨q, e⟩ => [(0, .pointer (some ⟨l.lb, 0, none⟩)), (1, .int .i64 off), (5, .int .i64 (q.segs.length : Nat))]) (fun ⟨q, e⟩ => [blk l.lb (l.cells db) 42, arr 39 1 l.la l.lc (l.segs.flatMap sp), bag (SG db) q.segs, blk db (e.cells mb) 60, mp nmv Fl.val mb e.fs, R]) ({ l with high := l.start }, d) hD0 (.cons rfl (.cons rfl (.cons rfl .nil))) (.cons (.tail .head) (.cons (.tail .head) (.cons .head (.cons .head (.cons .head (.cons .head .nil)))))) (fun s' hI ih => ?_)
  obtain ⟨q, e⟩ := s'
  dsimp only at hI ih ⊢
  have hD := hI
  obtain ⟨t, ht⟩ := hD.seg
  have hqs : q.segs.length = q.ini.length + 1 := by unfold Lx.segs; simp
  have hql : q.segs.length ≤ l.segs.length := by rw [ht, List.length_append]; omega
  have hqc : l.segs[q.segs.length - 1]? = some q.cur := by
    rw [ht, List.getElem?_append_left (by omega)]; unfold Lx.segs; simp
  obtain ⟨hcok, hcnm, hcs, hcf⟩ := hD.ok.cur
  have hcb0 := hcok.base0
  have hcb1 := hcok.base1
  refine .seq ?_
  refine .seq ?_
  refine .tell (φ := ∃ b o, l.la = some ⟨b, o, none⟩) ((Knows.arr (.tail .head)).mono fun _ h => RowAt.addr h (by rw [flat_length sp_len]; omega)) (fun hh => ?_)
  obtain ⟨b9, o9, h9⟩ := hh
  refine .region ?_
  refine .rd (.move rfl) ?_
  refine .rd (.gt rfl rfl) ?_
  refine .rd (.move rfl) ?_
  refine .split (t := 28) rfl (fun g4_2 => ?_) (fun g4_2 => ?_)
  · replace g4_2 := of_decide_eq_true g4_2
    obtain ⟨r, y, hi⟩ : ∃ r y, q.ini = r ++ [y] := ⟨q.ini.dropLast, q.ini.getLast (fun h => by rw [h] at hqs; simp at hqs; omega), (List.dropLast_concat_getLast _).symm⟩
    have hql2 : q.segs.length - 1 = (q.pop r y).segs.length := by rw [pop_segs hi, List.length_append]; rfl
    refine .on (t := 28) rfl rfl ?_
    refine .rd (.move rfl) ?_
    refine .on (t := 28) rfl rfl ?_
    refine .rd (.nilCheck rfl) ?_
    refine .on (t := 28) rfl rfl ?_
    refine .rd (.fieldAddr fd42_6 rfl) ?_
    refine .on (t := 28) rfl rfl ?_
    refine .rd (.ld na40 rfl .head rfl) ?_
    refine .on (t := 28) rfl rfl ?_
    refine .rd (.move rfl) ?_
    refine .on (t := 28) rfl rfl ?_
    refine .rd (.sub rfl rfl (by omega) (by omega)) ?_
    refine .alter (t := 34) (v' := .int .i64 ((q.segs.length - 1 : Nat) : Int)) rfl (congrArg (Value.int .i64) (by omega)) ?_
    refine .on (t := 28) rfl rfl ?_
    refine .rd (.indexAddr (b := b9) (o := o9) (j := ((q.segs.length - 1 : Nat) : Int)) Tryz.underlying40 ts39 (by show some (Value.slice (l.la) _ _) = _; rw [h9]) rfl (by omega) (by omega)) ?_
    refine .on (t := 28) rfl rfl ?_
    refine .rd (.load na39 rfl (Knows.one (i := 0) (Knows.elem (f := sp) sp_len (by decide) ((Knows.arr (.tail .head)).mono fun _ h => h9 ▸ h) hqc) rfl)) ?_
    refine .on (t := 28) rfl rfl ?_
    refine .fn rfl rfl .nil ((Knows.allSG (.tail (.tail .head))).mono fun _ h => h q.cur q.cur_in) (Base_ok db q.cur) (fun v G1 hq => ?_)
    obtain ⟨rfl, rfl⟩ := hq
    simp only [List.nil_append]
    refine .on (t := 28) rfl rfl ?_
    refine .rd (.move rfl) ?_
    refine .on (t := 28) rfl rfl ?_
    refine .rd (.ge rfl rfl) ?_
    refine .rd (.pickT rfl rfl) ?_
    refine .nil ?_
    refine .condP rfl (fun c4 => ?_) (fun c4 => ?_)
    · have hoc : off ≤ q.cur.base := c4
      refine .skip ?_
      refine .seq ?_
      refine .block ?_
      refine .draws [3, 8, 12] [blk l.lb (l.cells db) 42, arr 39 1 l.la l.lc (l.segs.flatMap sp)] (by kernel_rfl) ?_
      refine .rp 0 rfl (by kernel_rfl) (by kernel_rfl) (by kernel_rfl) (Reads.pure (.move rfl)) ?_
      refine .rp 1 rfl (by kernel_rfl) (by kernel_rfl) (by kernel_rfl) (Reads.pure (.nilCheck rfl)) ?_
      refine .rp 2 rfl (by kernel_rfl) (by kernel_rfl) (by kernel_rfl) (Reads.pure (.fieldAddr fd42_1 rfl)) ?_
      refine .rd 3 rfl rfl (by kernel_rfl) (by kernel_rfl) (by kernel_rfl) (.ld na24 rfl .head rfl) (.cons .head (.cons .head .nil)) ?_
      refine .rp 4 rfl (by kernel_rfl) (by kernel_rfl) (by kernel_rfl) (Reads.pure (.move rfl)) ?_
      refine .rp 5 rfl (by kernel_rfl) (by kernel_rfl) (by kernel_rfl) (Reads.pure (.move rfl)) ?_
      refine .rp 6 rfl (by kernel_rfl) (by kernel_rfl) (by kernel_rfl) (Reads.pure (.nilCheck rfl)) ?_
      refine .rp 7 rfl (by kernel_rfl) (by kernel_rfl) (by kernel_rfl) (Reads.pure (.fieldAddr fd42_6 rfl)) ?_
      refine .rd 8 rfl rfl (by kernel_rfl) (by kernel_rfl) (by kernel_rfl) (.ld na40 rfl .head rfl) (.cons .head (.cons .head .nil)) ?_
      refine .rp 9 rfl (by kernel_rfl) (by kernel_rfl) (by kernel_rfl) (Reads.pure (.move rfl)) ?_
      refine .rp 10 rfl (by kernel_rfl) (by kernel_rfl) (by kernel_rfl) (Reads.pure (.sub rfl rfl (by omega) (by omega))) ?_
      refine .alter (t := 53) (v' := .int .i64 ((q.segs.length - 1 : Nat) : Int)) rfl (congrArg (Value.int .i64) (by omega)) ?_
      refine .rp 11 rfl (by kernel_rfl) (by kernel_rfl) (by kernel_rfl) (Reads.pure (.indexAddr (b := b9) (o := o9) (j := ((q.segs.length - 1 : Nat) : Int)) Tryz.underlying40 ts39 (by show some (Value.slice (l.la) _ _) = _; rw [h9]) rfl (by omega) (by omega))) ?_
      refine .rd 12 rfl rfl (by kernel_rfl) (by kernel_rfl) (by kernel_rfl) (.load na39 rfl (Knows.one (i := 0) (Knows.elem (f := sp) sp_len (by decide) ((Knows.arr (.tail .head)).mono fun _ h => h9 ▸ h) hqc) rfl)) (.cons .head (.cons .head .nil)) ?_
      refine .ef 13 (by kernel_rfl) rfl (.fn rfl rfl .nil ((Knows.allSG (.tail (.tail .head))).mono fun _ h => h q.cur q.cur_in) (Base_ok db q.cur)) ?_
      rintro v _ ⟨G1, hq, rfl⟩
      obtain ⟨rfl, rfl⟩ := hq
      simp only [List.nil_append]
      refine ⟨.inr ⟨_, (.cons .head (.cons .head .nil))⟩, ?_⟩
      refine .alter (t := 56) (v' := .int .i64 (q.cur.base.toNat : Nat)) rfl (congrArg (Value.int .i64) (by omega)) ?_
      refine .ef 14 (by kernel_rfl) rfl (.fn rfl rfl .nil ((Knows.blk .head).and (Knows.pick (.tail (.tail (.tail (.tail (.tail .head))))) k)) (name_ok l.lb db (some ⟨l.cur.b, 0, none⟩) l.pre l.most l.start l.high l.la (l.ini.length + 1) l.lc q.cur.base.toNat (by omega) hl.pre.len)) ?_
      rintro v _ ⟨G1, hq, rfl⟩
      obtain ⟨rfl, rfl⟩ := hq
      simp only [List.nil_append]
      refine ⟨.inr ⟨_, (.cons .head (.cons .head .nil))⟩, ?_⟩
      refine .alter (t := 57) (v' := .string (str q.cur.nm)) rfl (by rw [hcnm, hD.pre]; rfl) ?_
      refine .ef 15 (by kernel_rfl) rfl (.fn rfl rfl (.cons (.tail (.tail (.tail .head))) (.cons (.tail (.tail (.tail .head))) .nil)) (fun _ _ _ => trivial) (Remove_ok db mb e q.cur.nm hD.dok hcs)) ?_
      rintro v _ ⟨G1, hq, rfl⟩
      obtain ⟨rfl, rfl⟩ := hq
      simp only [List.cons_append, List.nil_append]
      refine ⟨.inl (by kernel_rfl), ?_⟩
      refine .done (by kernel_rfl) ?_
      refine .inBlock ?_
      refine .region ?_
      refine .rd (.move rfl) ?_
      refine .rd (.sub rfl rfl (by omega) (by omega)) ?_
      refine .alter (t := 42) (v' := .int .i64 ((q.segs.length - 1 : Nat) : Int)) rfl (congrArg (Value.int .i64) (by omega)) ?_
      refine .rd (.assign rfl) ?_
      refine .nil ?_
      refine .alter (t := 5) (v' := .int .i64 ((q.pop r y).segs.length : Nat)) rfl (by rw [hql2]) ?_
      refine .takeBag (f := SG db) (x := q.cur) (m := (q.pop r y).segs) (.tail (.tail (.tail (.tail .head)))) (by rw [pop_segs hi]; exact List.perm_append_comm) ?_
      exact (ih (q.pop r y, e.del q.cur.nm) (hD.step hi hoc h1) (by show r.length < q.ini.length; rw [hi, List.length_append]; exact Nat.lt_succ_self _)).to (.cons rfl (.cons rfl (.cons rfl .nil))) (.cons (.tail (.tail (.tail (.tail .head)))) (.cons (.tail (.tail (.tail (.tail .head)))) (.cons (.tail .head) (.cons (.tail .head) (.cons (.tail .head) (.cons (.tail .head) .nil))))))
    · have hc : q.ini = [] ∨ q.cur.base < off := .inr (by omega)
      refine .exit rfl ?_
      refine .seq ?_
      refine .tell (φ := ∃ b o, l.la = some ⟨b, o, none⟩) ((Knows.arr (.tail .head)).mono fun _ h => RowAt.addr h (by rw [flat_length sp_len]; omega)) (fun hh => ?_)
      obtain ⟨b9, o9, h9⟩ := hh
      refine .tell (Knows.arrCap (.tail .head)) (fun hh => ?_)
      have hcap : l.segs.length ≤ l.lc := by rw [flat_length sp_len] at hh; omega
      clear hh
      refine .region ?_
      refine .rd (.move rfl) ?_
      refine .rd (.move rfl) ?_
      refine .rd (.nilCheck rfl) ?_
      refine .rd (.fieldAddr fd42_6 rfl) ?_
      refine .rd (.ld na40 rfl .head rfl) ?_
      refine .rd (.move rfl) ?_
      refine .rd (.slice (l := 0) (h := q.segs.length) (m := l.lc) Tryz.underlying40 ts39 rfl rfl ⟨_, rfl⟩ rfl (by omega) (by omega) (by omega)) ?_
      refine .alter (t := 65) (v' := .slice l.la q.segs.length l.lc) rfl (by rw [h9]; simp [Addr_add]) ?_
      refine .rd (.nilCheck rfl) ?_
      refine .rd (.fieldAddr fd42_6 rfl) ?_
      refine .ef0 (.store ts40 rfl rfl .head rfl (Nat.le_of_ble_eq_true rfl)) ?_
      rintro _ _ rfl
      refine .nil ?_
      refine .cast (X' := blk l.lb (lcells (some ⟨l.cur.b, 0, none⟩) db l.pre l.most l.start l.high l.la q.segs.length l.lc) 42) (rfl) ?_
      refine .seq ?_
      refine .region ?_
      refine .rd (.move rfl) ?_
      refine .rd (.move rfl) ?_
      refine .rd (.nilCheck rfl) ?_
      refine .rd (.fieldAddr fd42_6 rfl) ?_
      refine .rd (.ld na40 rfl .head rfl) ?_
      refine .rd (.move rfl) ?_
      refine .rd (.sub rfl rfl (by omega) (by omega)) ?_
      refine .alter (t := 74) (v' := .int .i64 ((q.segs.length - 1 : Nat) : Int)) rfl (congrArg (Value.int .i64) (by omega)) ?_
      refine .rd (.indexAddr (b := b9) (o := o9) (j := ((q.segs.length - 1 : Nat) : Int)) Tryz.underlying40 ts39 (by show some (Value.slice (l.la) _ _) = _; rw [h9]) rfl (by omega) (by omega)) ?_
      refine .rd (.load na39 rfl (Knows.one (i := 0) (Knows.elem (f := sp) sp_len (by decide) ((Knows.arr (.tail .head)).mono fun _ h => h9 ▸ h) hqc) rfl)) ?_
      refine .rd (.nilCheck rfl) ?_
      refine .rd (.fieldAddr fd42_0 rfl) ?_
      refine .ef0 (.store ts39 rfl rfl .head rfl (Nat.le_of_ble_eq_true rfl)) ?_
      rintro _ _ rfl
      refine .nil ?_
      refine .cast (X' := blk l.lb (lcells (some ⟨q.cur.b, 0, none⟩) db l.pre l.most l.start l.high l.la q.segs.length l.lc) 42) (rfl) ?_
      refine .takeBag (f := SG db) (x := q.cur) (m := q.ini) (.tail (.tail .head)) (segs_perm q) ?_
      refine .unpack (L := [blk q.cur.b (q.cur.cells db) 69, arr 71 4 q.cur.aa q.cur.ac q.cur.rows, arr 3 1 q.cur.ia q.cur.ic (q.cur.sm.flatMap icN)]) .head ?_
      simp only [List.cons_append, List.nil_append]
      refine .seq ?_
      refine .region ?_
      refine .rd (.move rfl) ?_
      refine .rd (.nilCheck rfl) ?_
      refine .rd (.fieldAddr fd42_0 rfl) ?_
      refine .rd (.ld na39 rfl (.tail (.tail (.tail (.tail .head)))) rfl) ?_
      refine .rd (.move rfl) ?_
      refine .fn rfl rfl (.cons (.tail (.tail (.tail (.tail (.tail (.tail .head)))))) (.cons (.tail (.tail (.tail (.tail (.tail (.tail .head)))))) (.cons .head (.cons .head (.cons .head .nil))))) (fun _ _ _ => trivial) (SegCut_ok db mb e q.cur off hD.dok hcok hcs hcf (hD.base_le hc h1 hst.2.1) (by omega)) (fun v G1 hq => ?_)
      obtain ⟨rfl, z, d', sm, hz, hz1, hz2, hix, hd', rfl⟩ := hq
      simp only [List.cons_append, List.nil_append]
      refine .nil ?_
      have hT : CutTo l d off (l.chop q z sm (min l.high (nextOf q.cur.base (q.cur.bs.take z)))) d' := hD.last hc hz hz1 hz2 hix hd' hge hhi.1 _ rfl
      have hcok2 : (Sx.mk q.cur.b q.cur.nm q.cur.base (q.cur.bs.take z) sm q.cur.aa q.cur.ac q.cur.ia q.cur.ic).ok := (hT.ok.seg _ (Lx.cur_in _)).1
      have hnx2 : (Sx.mk q.cur.b q.cur.nm q.cur.base (q.cur.bs.take z) sm q.cur.aa q.cur.ac q.cur.ia q.cur.ic).next = (nextOf q.cur.base (q.cur.bs.take z)) := rfl
      have hnx3 : l.start ≤ (nextOf q.cur.base (q.cur.bs.take z)) := by have h5 := hT.ok.start.2.2; have h6 := hT.start; have h7 : (l.chop q z sm (min l.high (nextOf q.cur.base (q.cur.bs.take z)))).next = (nextOf q.cur.base (q.cur.bs.take z)) := rfl; omega
      refine .seq ?_
      refine .seq ?_
      refine .draws [3, 8] [blk l.lb (lcells (some ⟨q.cur.b, 0, none⟩) db l.pre l.most l.start l.high l.la q.segs.length l.lc) 42] (by kernel_rfl) ?_
      refine .rp 0 rfl (by kernel_rfl) (by kernel_rfl) (by kernel_rfl) (Reads.pure (.move rfl)) ?_
      refine .rp 1 rfl (by kernel_rfl) (by kernel_rfl) (by kernel_rfl) (Reads.pure (.nilCheck rfl)) ?_
      refine .rp 2 rfl (by kernel_rfl) (by kernel_rfl) (by kernel_rfl) (Reads.pure (.fieldAddr fd42_0 rfl)) ?_
      refine .rd 3 rfl rfl (by kernel_rfl) (by kernel_rfl) (by kernel_rfl) (.ld na39 rfl .head rfl) (.cons (.tail (.tail (.tail (.tail (.tail (.tail .head)))))) .nil) ?_
      refine .rp 5 rfl (by kernel_rfl) (by kernel_rfl) (by kernel_rfl) (Reads.pure (.move rfl)) ?_
      refine .rp 6 rfl (by kernel_rfl) (by kernel_rfl) (by kernel_rfl) (Reads.pure (.nilCheck rfl)) ?_
      refine .rp 7 rfl (by kernel_rfl) (by kernel_rfl) (by kernel_rfl) (Reads.pure (.fieldAddr fd42_4 rfl)) ?_
      refine .rd 8 rfl rfl (by kernel_rfl) (by kernel_rfl) (by kernel_rfl) (.ld na3 rfl .head rfl) (.cons (.tail (.tail (.tail (.tail (.tail (.tail .head)))))) .nil) ?_
      refine .ef 4 (by kernel_rfl) rfl (.fn rfl rfl .nil ((Knows.blk (.tail (.tail .head))).and ((Knows.arr (.tail (.tail (.tail .head)))).and (Knows.arr (.tail (.tail (.tail (.tail .head))))))) (Next_ok db (Sx.mk q.cur.b q.cur.nm q.cur.base (q.cur.bs.take z) sm q.cur.aa q.cur.ac q.cur.ia q.cur.ic) hcok2)) ?_
      rintro v _ ⟨G1, hq, rfl⟩
      obtain ⟨rfl, rfl⟩ := hq
      simp only [List.nil_append]
      refine ⟨.inr ⟨_, (.cons (.tail (.tail (.tail (.tail (.tail (.tail .head)))))) .nil)⟩, ?_⟩
      refine .alter (t := 89) (v' := .int .i64 (nextOf q.cur.base (q.cur.bs.take z))) rfl (rfl) ?_
      refine .rp 9 rfl (by kernel_rfl) (by kernel_rfl) (by kernel_rfl) (Reads.pure (.lt rfl rfl)) ?_
      refine .alter (t := 94) (v' := .bool false) rfl (congrArg Value.bool (decide_eq_false (by show ¬ (nextOf q.cur.base (q.cur.bs.take z)) < l.start; omega))) ?_
      refine .done (by kernel_rfl) ?_
      refine .condF rfl ?_
      refine .skip ?_
      refine .seq ?_
      refine .draws [4, 8] [blk l.lb (lcells (some ⟨q.cur.b, 0, none⟩) db l.pre l.most l.start l.high l.la q.segs.length l.lc) 42] (by kernel_rfl) ?_
      refine .rp 0 rfl (by kernel_rfl) (by kernel_rfl) (by kernel_rfl) (Reads.pure (.move rfl)) ?_
      refine .rp 1 rfl (by kernel_rfl) (by kernel_rfl) (by kernel_rfl) (Reads.pure (.move rfl)) ?_
      refine .rp 2 rfl (by kernel_rfl) (by kernel_rfl) (by kernel_rfl) (Reads.pure (.nilCheck rfl)) ?_
      refine .rp 3 rfl (by kernel_rfl) (by kernel_rfl) (by kernel_rfl) (Reads.pure (.fieldAddr fd42_5 rfl)) ?_
      refine .rd 4 rfl rfl (by kernel_rfl) (by kernel_rfl) (by kernel_rfl) (.ld na3 rfl .head rfl) (.cons (.tail (.tail (.tail (.tail (.tail (.tail .head)))))) .nil) ?_
      refine .rp 5 rfl (by kernel_rfl) (by kernel_rfl) (by kernel_rfl) (Reads.pure (.move rfl)) ?_
      refine .rp 6 rfl (by kernel_rfl) (by kernel_rfl) (by kernel_rfl) (Reads.pure (.nilCheck rfl)) ?_
      refine .rp 7 rfl (by kernel_rfl) (by kernel_rfl) (by kernel_rfl) (Reads.pure (.fieldAddr fd42_0 rfl)) ?_
      refine .rd 8 rfl rfl (by kernel_rfl) (by kernel_rfl) (by kernel_rfl) (.ld na39 rfl .head rfl) (.cons (.tail (.tail (.tail (.tail (.tail (.tail .head)))))) .nil) ?_
      refine .ef 9 (by kernel_rfl) rfl (.fn rfl rfl .nil ((Knows.blk (.tail (.tail .head))).and ((Knows.arr (.tail (.tail (.tail .head)))).and (Knows.arr (.tail (.tail (.tail (.tail .head))))))) (Next_ok db (Sx.mk q.cur.b q.cur.nm q.cur.base (q.cur.bs.take z) sm q.cur.aa q.cur.ac q.cur.ia q.cur.ic) hcok2)) ?_
      rintro v _ ⟨G1, hq, rfl⟩
      obtain ⟨rfl, rfl⟩ := hq
      simp only [List.nil_append]
      refine ⟨.inr ⟨_, (.cons (.tail (.tail (.tail (.tail (.tail (.tail .head)))))) .nil)⟩, ?_⟩
      refine .alter (t := 110) (v' := .int .i64 (nextOf q.cur.base (q.cur.bs.take z))) rfl (rfl) ?_
      refine .rp 10 rfl (by kernel_rfl) (by kernel_rfl) (by kernel_rfl) (Reads.pure (.min2 rfl rfl rfl)) ?_
      refine .alter (t := 111) (v' := .int .i64 (min l.high (nextOf q.cur.base (q.cur.bs.take z)))) rfl (congrArg (Value.int .i64) (by omega)) ?_
      refine .rp 11 rfl (by kernel_rfl) (by kernel_rfl) (by kernel_rfl) (Reads.pure (.nilCheck rfl)) ?_
      refine .rp 12 rfl (by kernel_rfl) (by kernel_rfl) (by kernel_rfl) (Reads.pure (.fieldAddr fd42_5 rfl)) ?_
      refine .ef0 13 (by kernel_rfl) rfl (.store ts3 rfl rfl (.tail (.tail (.tail (.tail (.tail (.tail .head)))))) rfl (Nat.le_of_ble_eq_true rfl)) ?_
      rintro _ _ rfl
      refine ⟨.inl (by kernel_rfl), ?_⟩
      refine .done (by kernel_rfl) ?_
      refine .seq ?_
      refine .region ?_
      refine .rd (.assign rfl) ?_
      refine .nil ?_
      refine .cast (X' := blk (l.chop q z sm (min l.high (nextOf q.cur.base (q.cur.bs.take z)))).lb ((l.chop q z sm (min l.high (nextOf q.cur.base (q.cur.bs.take z)))).cells db) 42) ((chop_cells hD hqs)) ?_
      refine .pack (L := [blk q.cur.b ((Sx.mk q.cur.b q.cur.nm q.cur.base (q.cur.bs.take z) sm q.cur.aa q.cur.ac q.cur.ia q.cur.ic).cells db) 69, arr 71 4 q.cur.aa q.cur.ac (Sx.mk q.cur.b q.cur.nm q.cur.base (q.cur.bs.take z) sm q.cur.aa q.cur.ac q.cur.ia q.cur.ic).rows, arr 3 1 q.cur.ia q.cur.ic (sm.flatMap icN)]) (.cons (.tail (.tail (.tail .head))) (.cons (.tail (.tail (.tail .head))) (.cons (.tail (.tail (.tail .head))) .nil))) ?_
      refine .close (X := bag (SG db) (l.chop q z sm (min l.high (nextOf q.cur.base (q.cur.bs.take z)))).segs) (.cons .head (.cons (.tail (.tail (.tail .head))) .nil)) (fun h H => put_segs (ini := q.ini) (s := (l.chop q z sm (min l.high (nextOf q.cur.base (q.cur.bs.take z)))).cur) H) ?_
      refine .close (X := arr 39 1 l.la l.lc ((l.chop q z sm (min l.high (nextOf q.cur.base (q.cur.bs.take z)))).segs.flatMap sp)) (.cons (.tail (.tail (.tail (.tail .head)))) .nil) (fun h H => chop_arr ht H) ?_
      refine .pack (L := [blk (l.chop q z sm (min l.high (nextOf q.cur.base (q.cur.bs.take z)))).lb ((l.chop q z sm (min l.high (nextOf q.cur.base (q.cur.bs.take z)))).cells db) 42, arr 39 1 l.la l.lc ((l.chop q z sm (min l.high (nextOf q.cur.base (q.cur.bs.take z)))).segs.flatMap sp), bag (SG db) (l.chop q z sm (min l.high (nextOf q.cur.base (q.cur.bs.take z)))).segs]) (.cons (.tail (.tail .head)) (.cons .head (.cons .head .nil))) ?_
      refine .retP Tryz.func22 (.cons (.tmp rfl) .nil) (.cons .head (.cons .head (.cons .head (.cons .head .nil)))) ?_
      exact ⟨[_, _, _], ⟨_, _, rfl, hT, rfl⟩, rfl⟩
  · replace g4_2 := of_decide_eq_false g4_2
    have hc : q.ini = [] ∨ q.cur.base < off := .inl (List.eq_nil_of_length_eq_zero (by omega))
    refine .off (t := 28) rfl rfl rfl ?_
    refine .off (t := 28) rfl rfl rfl ?_
    refine .off (t := 28) rfl rfl rfl ?_
    refine .off (t := 28) rfl rfl rfl ?_
    refine .off (t := 28) rfl rfl rfl ?_
    refine .off (t := 28) rfl rfl rfl ?_
    refine .off (t := 28) rfl rfl rfl ?_
    refine .off (t := 28) rfl rfl rfl ?_
    refine .off (t := 28) rfl rfl rfl ?_
    refine .off (t := 28) rfl rfl rfl ?_
    refine .off (t := 28) rfl rfl rfl ?_
    refine .rd (.pickF rfl rfl) ?_
    refine .nil ?_
    refine .condF rfl ?_
    refine .exit rfl ?_
    refine .seq ?_
    refine .tell (φ := ∃ b o, l.la = some ⟨b, o, none⟩) ((Knows.arr (.tail .head)).mono fun _ h => RowAt.addr h (by rw [flat_length sp_len]; omega)) (fun hh => ?_)
    obtain ⟨b9, o9, h9⟩ := hh
    refine .tell (Knows.arrCap (.tail .head)) (fun hh => ?_)
    have hcap : l.segs.length ≤ l.lc := by rw [flat_length sp_len] at hh; omega
    clear hh
    refine .region ?_
    refine .rd (.move rfl) ?_
    refine .rd (.move rfl) ?_
    refine .rd (.nilCheck rfl) ?_
    refine .rd (.fieldAddr fd42_6 rfl) ?_
    refine .rd (.ld na40 rfl .head rfl) ?_
    refine .rd (.move rfl) ?_
    refine .rd (.slice (l := 0) (h := q.segs.length) (m := l.lc) Tryz.underlying40 ts39 rfl rfl ⟨_, rfl⟩ rfl (by omega) (by omega) (by omega)) ?_
    refine .alter (t := 65) (v' := .slice l.la q.segs.length l.lc) rfl (by rw [h9]; simp [Addr_add]) ?_
    refine .rd (.nilCheck rfl) ?_
    refine .rd (.fieldAddr fd42_6 rfl) ?_
    refine .ef0 (.store ts40 rfl rfl .head rfl (Nat.le_of_ble_eq_true rfl)) ?_
    rintro _ _ rfl
    refine .nil ?_
    refine .cast (X' := blk l.lb (lcells (some ⟨l.cur.b, 0, none⟩) db l.pre l.most l.start l.high l.la q.segs.length l.lc) 42) (rfl) ?_
    refine .seq ?_
    refine .region ?_
    refine .rd (.move rfl) ?_
    refine .rd (.move rfl) ?_
    refine .rd (.nilCheck rfl) ?_
    refine .rd (.fieldAddr fd42_6 rfl) ?_
    refine .rd (.ld na40 rfl .head rfl) ?_
    refine .rd (.move rfl) ?_
    refine .rd (.sub rfl rfl (by omega) (by omega)) ?_
    refine .alter (t := 74) (v' := .int .i64 ((q.segs.length - 1 : Nat) : Int)) rfl (congrArg (Value.int .i64) (by omega)) ?_
    refine .rd (.indexAddr (b := b9) (o := o9) (j := ((q.segs.length - 1 : Nat) : Int)) Tryz.underlying40 ts39 (by show some (Value.slice (l.la) _ _) = _; rw [h9]) rfl (by omega) (by omega)) ?_
    refine .rd (.load na39 rfl (Knows.one (i := 0) (Knows.elem (f := sp) sp_len (by decide) ((Knows.arr (.tail .head)).mono fun _ h => h9 ▸ h) hqc) rfl)) ?_
    refine .rd (.nilCheck rfl) ?_
    refine .rd (.fieldAddr fd42_0 rfl) ?_
    refine .ef0 (.store ts39 rfl rfl .head rfl (Nat.le_of_ble_eq_true rfl)) ?_
    rintro _ _ rfl
    refine .nil ?_
    refine .cast (X' := blk l.lb (lcells (some ⟨q.cur.b, 0, none⟩) db l.pre l.most l.start l.high l.la q.segs.length l.lc) 42) (rfl) ?_
    refine .takeBag (f := SG db) (x := q.cur) (m := q.ini) (.tail (.tail .head)) (segs_perm q) ?_
    refine .unpack (L := [blk q.cur.b (q.cur.cells db) 69, arr 71 4 q.cur.aa q.cur.ac q.cur.rows, arr 3 1 q.cur.ia q.cur.ic (q.cur.sm.flatMap icN)]) .head ?_
    simp only [List.cons_append, List.nil_append]
    refine .seq ?_
    refine .region ?_
    refine .rd (.move rfl) ?_
    refine .rd (.nilCheck rfl) ?_
    refine .rd (.fieldAddr fd42_0 rfl) ?_
    refine .rd (.ld na39 rfl (.tail (.tail (.tail (.tail .head)))) rfl) ?_
    refine .rd (.move rfl) ?_
    refine .fn rfl rfl (.cons (.tail (.tail (.tail (.tail (.tail (.tail .head)))))) (.cons (.tail (.tail (.tail (.tail (.tail (.tail .head)))))) (.cons .head (.cons .head (.cons .head .nil))))) (fun _ _ _ => trivial) (SegCut_ok db mb e q.cur off hD.dok hcok hcs hcf (hD.base_le hc h1 hst.2.1) (by omega)) (fun v G1 hq => ?_)
    obtain ⟨rfl, z, d', sm, hz, hz1, hz2, hix, hd', rfl⟩ := hq
    simp only [List.cons_append, List.nil_append]
    refine .nil ?_
    have hT : CutTo l d off (l.chop q z sm (min l.high (nextOf q.cur.base (q.cur.bs.take z)))) d' := hD.last hc hz hz1 hz2 hix hd' hge hhi.1 _ rfl
    have hcok2 : (Sx.mk q.cur.b q.cur.nm q.cur.base (q.cur.bs.take z) sm q.cur.aa q.cur.ac q.cur.ia q.cur.ic).ok := (hT.ok.seg _ (Lx.cur_in _)).1
    have hnx2 : (Sx.mk q.cur.b q.cur.nm q.cur.base (q.cur.bs.take z) sm q.cur.aa q.cur.ac q.cur.ia q.cur.ic).next = (nextOf q.cur.base (q.cur.bs.take z)) := rfl
    have hnx3 : l.start ≤ (nextOf q.cur.base (q.cur.bs.take z)) := by have h5 := hT.ok.start.2.2; have h6 := hT.start; have h7 : (l.chop q z sm (min l.high (nextOf q.cur.base (q.cur.bs.take z)))).next = (nextOf q.cur.base (q.cur.bs.take z)) := rfl; omega
    refine .seq ?_
    refine .seq ?_
    refine .draws [3, 8] [blk l.lb (lcells (some ⟨q.cur.b, 0, none⟩) db l.pre l.most l.start l.high l.la q.segs.length l.lc) 42] (by kernel_rfl) ?_
    refine .rp 0 rfl (by kernel_rfl) (by kernel_rfl) (by kernel_rfl) (Reads.pure (.move rfl)) ?_
    refine .rp 1 rfl (by kernel_rfl) (by kernel_rfl) (by kernel_rfl) (Reads.pure (.nilCheck rfl)) ?_
    refine .rp 2 rfl (by kernel_rfl) (by kernel_rfl) (by kernel_rfl) (Reads.pure (.fieldAddr fd42_0 rfl)) ?_
    refine .rd 3 rfl rfl (by kernel_rfl) (by kernel_rfl) (by kernel_rfl) (.ld na39 rfl .head rfl) (.cons (.tail (.tail (.tail (.tail (.tail (.tail .head)))))) .nil) ?_
    refine .rp 5 rfl (by kernel_rfl) (by kernel_rfl) (by kernel_rfl) (Reads.pure (.move rfl)) ?_
    refine .rp 6 rfl (by kernel_rfl) (by kernel_rfl) (by kernel_rfl) (Reads.pure (.nilCheck rfl)) ?_
    refine .rp 7 rfl (by kernel_rfl) (by kernel_rfl) (by kernel_rfl) (Reads.pure (.fieldAddr fd42_4 rfl)) ?_
    refine .rd 8 rfl rfl (by kernel_rfl) (by kernel_rfl) (by kernel_rfl) (.ld na3 rfl .head rfl) (.cons (.tail (.tail (.tail (.tail (.tail (.tail .head)))))) .nil) ?_
    refine .ef 4 (by kernel_rfl) rfl (.fn rfl rfl .nil ((Knows.blk (.tail (.tail .head))).and ((Knows.arr (.tail (.tail (.tail .head)))).and (Knows.arr (.tail (.tail (.tail (.tail .head))))))) (Next_ok db (Sx.mk q.cur.b q.cur.nm q.cur.base (q.cur.bs.take z) sm q.cur.aa q.cur.ac q.cur.ia q.cur.ic) hcok2)) ?_
    rintro v _ ⟨G1, hq, rfl⟩
    obtain ⟨rfl, rfl⟩ := hq
    simp only [List.nil_append]
    refine ⟨.inr ⟨_, (.cons (.tail (.tail (.tail (.tail (.tail (.tail .head)))))) .nil)⟩, ?_⟩
    refine .alter (t := 89) (v' := .int .i64 (nextOf q.cur.base (q.cur.bs.take z))) rfl (rfl) ?_
    refine .rp 9 rfl (by kernel_rfl) (by kernel_rfl) (by kernel_rfl) (Reads.pure (.lt rfl rfl)) ?_
    refine .alter (t := 94) (v' := .bool false) rfl (congrArg Value.bool (decide_eq_false (by show ¬ (nextOf q.cur.base (q.cur.bs.take z)) < l.start; omega))) ?_
    refine .done (by kernel_rfl) ?_
    refine .condF rfl ?_
    refine .skip ?_
    refine .seq ?_
    refine .draws [4, 8] [blk l.lb (lcells (some ⟨q.cur.b, 0, none⟩) db l.pre l.most l.start l.high l.la q.segs.length l.lc) 42] (by kernel_rfl) ?_
    refine .rp 0 rfl (by kernel_rfl) (by kernel_rfl) (by kernel_rfl) (Reads.pure (.move rfl)) ?_
    refine .rp 1 rfl (by kernel_rfl) (by kernel_rfl) (by kernel_rfl) (Reads.pure (.move rfl)) ?_
    refine .rp 2 rfl (by kernel_rfl) (by kernel_rfl) (by kernel_rfl) (Reads.pure (.nilCheck rfl)) ?_
    refine .rp 3 rfl (by kernel_rfl) (by kernel_rfl) (by kernel_rfl) (Reads.pure (.fieldAddr fd42_5 rfl)) ?_
    refine .rd 4 rfl rfl (by kernel_rfl) (by kernel_rfl) (by kernel_rfl) (.ld na3 rfl .head rfl) (.cons (.tail (.tail (.tail (.tail (.tail (.tail .head)))))) .nil) ?_
    refine .rp 5 rfl (by kernel_rfl) (by kernel_rfl) (by kernel_rfl) (Reads.pure (.move rfl)) ?_
    refine .rp 6 rfl (by kernel_rfl) (by kernel_rfl) (by kernel_rfl) (Reads.pure (.nilCheck rfl)) ?_
    refine .rp 7 rfl (by kernel_rfl) (by kernel_rfl) (by kernel_rfl) (Reads.pure (.fieldAddr fd42_0 rfl)) ?_
    refine .rd 8 rfl rfl (by kernel_rfl) (by kernel_rfl) (by kernel_rfl) (.ld na39 rfl .head rfl) (.cons (.tail (.tail (.tail (.tail (.tail (.tail .head)))))) .nil) ?_
    refine .ef 9 (by kernel_rfl) rfl (.fn rfl rfl .nil ((Knows.blk (.tail (.tail .head))).and ((Knows.arr (.tail (.tail (.tail .head)))).and (Knows.arr (.tail (.tail (.tail (.tail .head))))))) (Next_ok db (Sx.mk q.cur.b q.cur.nm q.cur.base (q.cur.bs.take z) sm q.cur.aa q.cur.ac q.cur.ia q.cur.ic) hcok2)) ?_
    rintro v _ ⟨G1, hq, rfl⟩
    obtain ⟨rfl, rfl⟩ := hq
    simp only [List.nil_append]
    refine ⟨.inr ⟨_, (.cons (.tail (.tail (.tail (.tail (.tail (.tail .head)))))) .nil)⟩, ?_⟩
    refine .alter (t := 110) (v' := .int .i64 (nextOf q.cur.base (q.cur.bs.take z))) rfl (rfl) ?_
    refine .rp 10 rfl (by kernel_rfl) (by kernel_rfl) (by kernel_rfl) (Reads.pure (.min2 rfl rfl rfl)) ?_
    refine .alter (t := 111) (v' := .int .i64 (min l.high (nextOf q.cur.base (q.cur.bs.take z)))) rfl (congrArg (Value.int .i64) (by omega)) ?_
    refine .rp 11 rfl (by kernel_rfl) (by kernel_rfl) (by kernel_rfl) (Reads.pure (.nilCheck rfl)) ?_
    refine .rp 12 rfl (by kernel_rfl) (by kernel_rfl) (by kernel_rfl) (Reads.pure (.fieldAddr fd42_5 rfl)) ?_
    refine .ef0 13 (by kernel_rfl) rfl (.store ts3 rfl rfl (.tail (.tail (.tail (.tail (.tail (.tail .head)))))) rfl (Nat.le_of_ble_eq_true rfl)) ?_
    rintro _ _ rfl
    refine ⟨.inl (by kernel_rfl), ?_⟩
    refine .done (by kernel_rfl) ?_
    refine .seq ?_
    refine .region ?_
    refine .rd (.assign rfl) ?_
    refine .nil ?_
    refine .cast (X' := blk (l.chop q z sm (min l.high (nextOf q.cur.base (q.cur.bs.take z)))).lb ((l.chop q z sm (min l.high (nextOf q.cur.base (q.cur.bs.take z)))).cells db) 42) ((chop_cells hD hqs)) ?_
    refine .pack (L := [blk q.cur.b ((Sx.mk q.cur.b q.cur.nm q.cur.base (q.cur.bs.take z) sm q.cur.aa q.cur.ac q.cur.ia q.cur.ic).cells db) 69, arr 71 4 q.cur.aa q.cur.ac (Sx.mk q.cur.b q.cur.nm q.cur.base (q.cur.bs.take z) sm q.cur.aa q.cur.ac q.cur.ia q.cur.ic).rows, arr 3 1 q.cur.ia q.cur.ic (sm.flatMap icN)]) (.cons (.tail (.tail (.tail .head))) (.cons (.tail (.tail (.tail .head))) (.cons (.tail (.tail (.tail .head))) .nil))) ?_
    refine .close (X := bag (SG db) (l.chop q z sm (min l.high (nextOf q.cur.base (q.cur.bs.take z)))).segs) (.cons .head (.cons (.tail (.tail (.tail .head))) .nil)) (fun h H => put_segs (ini := q.ini) (s := (l.chop q z sm (min l.high (nextOf q.cur.base (q.cur.bs.take z)))).cur) H) ?_
    refine .close (X := arr 39 1 l.la l.lc ((l.chop q z sm (min l.high (nextOf q.cur.base (q.cur.bs.take z)))).segs.flatMap sp)) (.cons (.tail (.tail (.tail (.tail .head)))) .nil) (fun h H => chop_arr ht H) ?_
    refine .pack (L := [blk (l.chop q z sm (min l.high (nextOf q.cur.base (q.cur.bs.take z)))).lb ((l.chop q z sm (min l.high (nextOf q.cur.base (q.cur.bs.take z)))).cells db) 42, arr 39 1 l.la l.lc ((l.chop q z sm (min l.high (nextOf q.cur.base (q.cur.bs.take z)))).segs.flatMap sp), bag (SG db) (l.chop q z sm (min l.high (nextOf q.cur.base (q.cur.bs.take z)))).segs]) (.cons (.tail (.tail .head)) (.cons .head (.cons .head .nil))) ?_
    refine .retP Tryz.func22 (.cons (.tmp rfl) .nil) (.cons .head (.cons .head (.cons .head (.cons .head .nil)))) ?_
    exact ⟨[_, _, _], ⟨_, _, rfl, hT, rfl⟩, rfl⟩

end Go.Proofs.YtglhoenjflpibaaGreatDoor


namespace Go.Proofs.YtglhoenjflpibaaGreatDoor
open Go Go.Sp

set_option linter.unusedVariables false

namespace log9

end log9
open log9



set_option maxHeartbeats 1000000 in
set_option maxRecDepth 20000 in
theorem Begin_ok (lb db mb : Nat) (d : Dk) (p : Option Addr) (pre : Nm) (most start high : Int) (la : Option Addr) (n lc : Nat) (base : Nat) (bsl : List Nat) (hb : base ≤ 1000000000) (hd : d.ok) (hp : Pre pre) (hr : (d.get (metaOf pre)).isSome = true ∨ d.fs.length < 256) (hs : d.used + 22 ≤ d.size) (hd1 : (d.put (metaOf pre) ⟨mt base base, (mt base base).length⟩).ok) (hk : ∀ q ∈ (d.put (metaOf pre) ⟨mt base base, (mt base base).length⟩).fs, q.1.length ≤ 64) (hn : (d.put (metaOf pre) ⟨mt base base, (mt base base).length⟩).fs.length ≤ 1000000) (hbs : basesOf pre (sorted ((d.put (metaOf pre) ⟨mt base base, (mt base base).length⟩).fs.map (·.1))) = bsl) (hnd : bsl.Nodup) (h9 : ∀ b ∈ bsl, b ≤ 1000000000) (hall : ∀ b ∈ bsl, ((d.put (metaOf pre) ⟨mt base base, (mt base base).length⟩).get (nameOf pre b)).isSome = true) (hr2 : (delAll pre bsl (d.put (metaOf pre) ⟨mt base base, (mt base base).length⟩)).fs.length < 256) (hf2 : ((delAll pre bsl (d.put (metaOf pre) ⟨mt base base, (mt base base).length⟩)).file (nameOf pre base)).b = []) : Cn Tryz.prog 28 [.pointer (some ⟨lb, 0, none⟩), .int .i64 (base : Int)] LV [blk lb (lcells p db pre most start high la n lc) 42, blk db (d.cells mb) 60, mp nmv Fl.val mb d.fs] fun v G => ∃ sb sm aa ac ia ic qa qc, v = .int .i64 0 ∧ Ix sm 0 ∧ G = [blk lb (lcells (some ⟨sb, 0, none⟩) db pre most (base : Int) (base : Int) qa ([] ++ [sb]).length qc) 42, arr 39 1 qa qc (([] ++ [sb]).flatMap spb), blk db (((delAll pre bsl (d.put (metaOf pre) ⟨mt base base, (mt base base).length⟩)).put (nameOf pre base) ⟨flat [], (flat []).length⟩).cells mb) 60, mp nmv Fl.val mb ((delAll pre bsl (d.put (metaOf pre) ⟨mt base base, (mt base base).length⟩)).put (nameOf pre base) ⟨flat [], (flat []).length⟩).fs, blk sb ((Sx.mk sb (nameOf pre base) (base : Int) [] sm aa ac ia ic).cells db) 69, arr 71 4 aa ac (Sx.mk sb (nameOf pre base) (base : Int) [] sm aa ac ia ic).rows, arr 3 1 ia ic (sm.flatMap icN)] := by
  refine .enter Tryz.func28 rfl (by kernel_rfl) rfl fun R k => ?_
  refine .seq ?_
  refine .region ?_
  refine .rd (.assign rfl) ?_
  refine .nil ?_
  refine .seq ?_
  refine .seq ?_
  refine .region ?_
  refine .rd (.move rfl) ?_
  refine .rd (.lt rfl rfl) ?_
  refine .alter (t := 7) (v' := .bool false) rfl (congrArg Value.bool (decide_eq_false (by omega))) ?_
  refine .rd (.move rfl) ?_
  refine .on (t := 8) rfl rfl ?_
  refine .rd (.move rfl) ?_
  refine .on (t := 8) rfl rfl ?_
  refine .rd (.gt rfl rfl) ?_
  refine .alter (t := 10) (v' := .bool false) rfl (congrArg Value.bool (decide_eq_false (by omega))) ?_
  refine .rd (.pickF rfl rfl) ?_
  refine .nil ?_
  refine .condF rfl ?_
  refine .skip ?_
  refine .seq ?_
  refine .seq ?_
  refine .region ?_
  refine .rd (.move rfl) ?_
  refine .rd (.move rfl) ?_
  refine .rd (.move rfl) ?_
  refine .fn rfl rfl (.cons .head (.cons .head (.cons .head .nil))) (Knows.pick .head k) (keep_ok lb db mb d p pre most start high la n lc base base hb hb hd hp hr hs) (fun v G1 hq => ?_)
  obtain ⟨rfl, rfl⟩ := hq
  simp only [List.cons_append, List.nil_append]
  refine .rd (.assign rfl) ?_
  refine .nil ?_
  refine .seq ?_
  refine .region ?_
  refine .rd (.move rfl) ?_
  refine .rd (.neI rfl rfl) ?_
  refine .alter (t := 17) (v' := .bool false) rfl (congrArg Value.bool (by rfl)) ?_
  refine .nil ?_
  refine .condF rfl ?_
  refine .skip ?_
  refine .seq ?_
  refine .region ?_
  refine .rd (.move rfl) ?_
  refine .rd (.move rfl) ?_
  refine .fn rfl rfl (.cons .head (.cons .head (.cons .head .nil))) (Knows.pick .head k) (anew_ok lb db mb (d.put (metaOf pre) ⟨mt base base, (mt base base).length⟩) p pre most (base : Int) (base : Int) la n lc base bsl hd1 hp hk hn hb hbs hnd h9 hall hr2 hf2) (fun v G1 hq => ?_)
  obtain ⟨sb, sm, aa, ac, ia, ic, qa, qc, rfl, hix, rfl⟩ := hq
  simp only [List.cons_append, List.nil_append]
  refine .rd (.assign rfl) ?_
  refine .nil ?_
  refine .retP Tryz.func28 (.cons (.tmp rfl) .nil) (.cons .head (.cons .head (.cons .head (.cons .head (.cons .head (.cons .head (.cons .head (.cons .head .nil)))))))) ?_
  exact ⟨[_, _, _, _, _, _, _], ⟨sb, sm, aa, ac, ia, ic, qa, qc, rfl, hix, rfl⟩, rfl⟩

end Go.Proofs.YtglhoenjflpibaaGreatDoor


namespace Go.Proofs.YtglhoenjflpibaaGreatDoor
open Go Go.Sp

set_option linter.unusedVariables false

namespace log6
theorem fd42_4 : FD Tryz.prog 42 4 4 := .of Tryz.underlying42 (by kernel_rfl)
theorem na3 : NotAgg Tryz.prog 3 := ⟨_, Tryz.underlying3, trivial⟩
theorem fd42_0 : FD Tryz.prog 42 0 0 := .of Tryz.underlying42 (by kernel_rfl)
theorem na39 : NotAgg Tryz.prog 39 := ⟨_, Tryz.underlying39, trivial⟩
theorem fd42_6 : FD Tryz.prog 42 6 6 := .of Tryz.underlying42 (by kernel_rfl)
theorem na40 : NotAgg Tryz.prog 40 := ⟨_, Tryz.underlying40, trivial⟩
theorem ts39 : TS Tryz.prog 39 1 := .of (by kernel_rfl)
theorem ts34 : TS Tryz.prog 34 6 := .of (by kernel_rfl)
theorem ia34 : IsAgg Tryz.prog 34 := ⟨_, Tryz.underlying34, trivial⟩
theorem ti34 : TI Tryz.prog 34 6 64 (.agg #[.int .i64 0, .int .i64 0, .int .i64 0, .int .i64 0, .int .i64 0, .slice none 0 0]) := .of (by kernel_rfl)
end log6
open log6



set_option maxHeartbeats 1000000 in
set_option maxRecDepth 20000 in
theorem LRead_ok (db mb : Nat) (d : Dk) (l : Lx) (off most : Int) (hl : l.ok d) (hcap : l.all.length ≤ 1000000) (hof : off ≤ l.next) (hof0 : -1000000000000 ≤ off) : Cn Tryz.prog 15 [.pointer (some ⟨l.lb, 0, none⟩), .int .i64 off, .int .i64 most] (LogAt db l) [blk db (d.cells mb) 60, mp nmv Fl.val mb d.fs] fun v G => ∃ (bl : List BatM) (ra : Option Addr) (rc : Nat), bl.map (·.1) = (if off < l.start then [] else goR off most 0 [] l.all) ∧ v = .tuple #[.slice ra bl.length rc, .int .i64 (if off < l.start then 10 else 0)] ∧ G = [blk db (d.cells mb) 60, mp nmv Fl.val mb d.fs, arr 34 6 ra rc (bl.flatMap bmc), know (Bal bl)] := by
  refine .enter Tryz.func15 rfl (by kernel_rfl) rfl fun R k => ?_
  have hst := hl.start
  have hll := hl.len
  obtain ⟨hcok, _, _, _⟩ := hl.seg l.cur l.cur_in
  have hcn := hcok.next_le
  have hnn : l.next = l.cur.next := rfl
  refine .seq ?_
  refine .region ?_
  refine .rd (.assign rfl) ?_
  refine .rd (.assign rfl) ?_
  refine .nil ?_
  refine .seq ?_
  refine .seq ?_
  refine .region ?_
  refine .rd (.move rfl) ?_
  refine .rd (.move rfl) ?_
  refine .rd (.nilCheck rfl) ?_
  refine .rd (.fieldAddr fd42_4 rfl) ?_
  refine .rd (.load na3 rfl (Knows.one (i := 4) (Knows.pick (.tail (.tail .head)) (k.mono fun _ h => h.1)) rfl)) ?_
  refine .rd (.lt rfl rfl) ?_
  refine .rd (.move rfl) ?_
  refine .split (t := 22) rfl (fun g1_6 => ?_) (fun g1_6 => ?_)
  · replace g1_6 := of_decide_eq_true g1_6
    refine .off (t := 22) rfl rfl rfl ?_
    refine .off (t := 22) rfl rfl rfl ?_
    refine .off (t := 22) rfl rfl rfl ?_
    refine .off (t := 22) rfl rfl rfl ?_
    refine .off (t := 22) rfl rfl rfl ?_
    refine .off (t := 22) rfl rfl rfl ?_
    refine .off (t := 22) rfl rfl rfl ?_
    refine .rd (.pickT rfl rfl) ?_
    refine .nil ?_
    refine .condT rfl ?_
    refine .seq ?_
    refine .region ?_
    refine .rd (.assign rfl) ?_
    refine .rd (.assign rfl) ?_
    refine .nil ?_
    refine .nilArr 34 6 none ?_
    refine .knowT (Bal []) (Bal.nil) ?_
    refine .retP Tryz.func15 (.cons (.tmp rfl) (.cons (.tmp rfl) .nil)) (.cons (.tail (.tail .head)) (.cons (.tail (.tail .head)) (.cons (.tail .head) (.cons .head (.cons .head .nil))))) ?_
    exact ⟨[_, _, _, _], ⟨[], none, 0, (if_pos g1_6).symm, by rw [if_pos g1_6]; rfl, rfl⟩, rfl⟩
  · replace g1_6 := of_decide_eq_false g1_6
    refine .on (t := 22) rfl rfl ?_
    refine .rd (.move rfl) ?_
    refine .on (t := 22) rfl rfl ?_
    refine .rd (.move rfl) ?_
    refine .on (t := 22) rfl rfl ?_
    refine .rd (.nilCheck rfl) ?_
    refine .on (t := 22) rfl rfl ?_
    refine .rd (.fieldAddr fd42_0 rfl) ?_
    refine .on (t := 22) rfl rfl ?_
    refine .rd (.load na39 rfl (Knows.one (i := 0) (Knows.pick (.tail (.tail .head)) (k.mono fun _ h => h.1)) rfl)) ?_
    refine .on (t := 22) rfl rfl ?_
    refine .fn rfl rfl .nil (Knows.pick (.tail (.tail .head)) (k.mono fun _ h => h.2.2 _ l.cur_in)) (Next_ok db l.cur hcok) (fun v G1 hq => ?_)
    obtain ⟨rfl, rfl⟩ := hq
    simp only [List.nil_append]
    refine .on (t := 22) rfl rfl ?_
    refine .rd (.gt rfl rfl) ?_
    refine .alter (t := 29) (v' := .bool false) rfl (congrArg Value.bool (decide_eq_false (by omega))) ?_
    refine .rd (.pickF rfl rfl) ?_
    refine .nil ?_
    refine .condF rfl ?_
    refine .skip ?_
    refine .seq ?_
    refine .region ?_
    refine .rd (.assign rfl) ?_
    refine .nil ?_
    refine .seq ?_
    refine .region ?_
    refine .rd (.assign rfl) ?_
    refine .nil ?_
    refine .seq ?_
    refine .seq ?_
    refine .region ?_
    refine .rd (.move rfl) ?_
    refine .rd (.nilCheck rfl) ?_
    refine .rd (.fieldAddr fd42_6 rfl) ?_
    refine .rd (.load na40 rfl (Knows.one (i := 6) (Knows.pick (.tail (.tail .head)) (k.mono fun _ h => h.1)) rfl)) ?_
    refine .rd (.lenL rfl rfl Tryz.underlying40 rfl) ?_
    refine .rd (.move rfl) ?_
    refine .nil ?_
    refine .nilArr 34 6 none ?_
    refine .knowT (Bal []) (Bal.nil) ?_
    have hsl : l.segs.length = l.ini.length + 1 := by unfold Lx.segs; simp
    refine .alter (t := 35) (v' := .int .i64 (l.segs.length : Nat)) rfl (by rw [hsl]) ?_
    refine .block ?_
    refine .loop (σ := Nat × Int × List BatM × Option Addr × Nat) (fun ⟨i, sum, bl, ra, rc⟩ => i ≤ l.segs.length ∧ goR off most sum (bl.map (·.1)) ((l.segs.drop i).flatMap (·.bs)) = goR off most 0 [] l.all ∧ bl.length ≤ ((l.segs.take i).flatMap (·.bs)).length ∧ 0 ≤ sum ∧ sum ≤ 4096 * (((l.segs.take i).flatMap (·.bs)).length : Int)) (fun ⟨i, sum, bl, ra, rc⟩ => l.segs.length - i) (fun ⟨i, sum, bl, ra, rc⟩ => [(0, .pointer (some ⟨l.lb, 0, none⟩)), (1, .int .i64 off), (2, .int .i64 most), (34, .slice l.la (l.ini.length + 1) l.lc), (35, .int .i64 (l.segs.length : Nat)), (8, .slice ra bl.length rc), (9, .int .i64 sum), (36, .int .i64 (i : Nat))]) (fun ⟨i, sum, bl, ra, rc⟩ => [arr 34 6 ra rc (bl.flatMap bmc), know (Bal bl), blk db (d.cells mb) 60, mp nmv Fl.val mb d.fs, R]) (0, 0, [], none, 0) ⟨Nat.zero_le _, rfl, Nat.le_refl _, Int.le_refl _, by simp⟩ (.cons rfl (.cons rfl (.cons rfl (.cons rfl (.cons rfl (.cons rfl (.cons rfl (.cons rfl .nil)))))))) (.cons (.tail .head) (.cons .head (.cons .head (.cons .head (.cons .head .nil))))) (fun s' hI ih => ?_)
    obtain ⟨i, sum, bl, ra, rc⟩ := s'
    dsimp only at hI ih ⊢
    obtain ⟨hin, hg, hbn, hs0, hs1⟩ := hI
    refine .seq ?_
    refine .region ?_
    refine .rd (.lt rfl rfl) ?_
    refine .nil ?_
    refine .seq ?_
    refine .condP rfl (fun c6 => ?_) (fun c6 => ?_)
    · refine .skip ?_
      refine .seq ?_
      refine .block ?_
      refine .seq ?_
      obtain ⟨s, hs⟩ : ∃ s, l.segs[i]? = some s := ⟨_, List.getElem?_eq_getElem (by omega)⟩
      have hsm := List.mem_of_getElem? hs
      obtain ⟨hsok, hsn, hsx, hsf⟩ := hl.seg s hsm
      have hb0 := hsok.base0
      have hb1 := hsok.base1
      refine .tell (φ := ∃ b o, l.la = some ⟨b, o, none⟩) (Knows.pick (.tail (.tail (.tail (.tail .head)))) (k.mono fun _ h => RowAt.addr h.2.1 (by rw [flat_length sp_len]; omega))) (fun hh => ?_)
      obtain ⟨b9, o9, h9⟩ := hh
      refine .region ?_
      refine .rd (.indexAddr (b := b9) (o := o9) Tryz.underlying40 ts39 (by show some (Value.slice (l.la) _ _) = _; rw [h9]) rfl (by omega) (by omega)) ?_
      refine .rd (.load na39 rfl (Knows.one (i := 0) (Knows.elem (f := sp) sp_len (by decide) (Knows.pick (.tail (.tail (.tail (.tail .head)))) (k.mono fun _ h => h9 ▸ h.2.1)) hs) rfl)) ?_
      refine .rd (.assign rfl) ?_
      refine .nil ?_
      refine .seq ?_
      refine .region ?_
      refine .rd (.move rfl) ?_
      refine .rd (.move rfl) ?_
      refine .rd (.move rfl) ?_
      refine .fn rfl rfl .nil (Knows.pick (.tail (.tail (.tail (.tail .head)))) (k.mono fun _ h => h.2.2 s hsm)) (Base_ok db s) (fun v G1 hq => ?_)
      obtain ⟨rfl, rfl⟩ := hq
      simp only [List.nil_append]
      refine .rd (.max2 rfl rfl rfl) ?_
      refine .alter (t := 44) (v' := .int .i64 (max off s.base)) rfl (congrArg (Value.int .i64) (by omega)) ?_
      refine .fn rfl rfl (.cons (.tail (.tail .head)) (.cons (.tail (.tail .head)) .nil)) (Knows.pick (.tail (.tail .head)) (k.mono fun _ h => h.2.2 s hsm)) (SegRead_ok db mb d s (max off s.base) 16777216 hsok hsx hsf ⟨by omega, by omega⟩) (fun v G1 hq => ?_)
      obtain ⟨xl, xa, xc, hxl, rfl, rfl⟩ := hq
      simp only [List.cons_append, List.nil_append]
      refine .rd (.lenL rfl rfl Tryz.underlying43 rfl) ?_
      refine .rd (.move rfl) ?_
      refine .nil ?_
      rw [segRead_max hsok] at hxl
      have hxn : xl.length ≤ 4096 := by have := congrArg List.length hxl; rw [List.length_map] at this; have := keep_len off s.bs; have := hsok.len; omega
      have hxs : xl.length ≤ s.bs.length := by have h5 := congrArg List.length hxl; rw [List.length_map] at h5; have := keep_len off s.bs; omega
      refine .settle (.tail (.tail .head)) (Settles.arr) ?_
      refine .block ?_
      refine .loop (σ := Nat × Int × List BatM × Option Addr × Nat) (fun ⟨j, sum2, bl2, ra2, rc2⟩ => j ≤ xl.length ∧ goR off most (sum2) ((bl2).map (·.1)) ((xl.drop (j)).map (·.1) ++ (l.segs.drop (i + 1)).flatMap (·.bs)) = goR off most 0 [] l.all ∧ (bl2).length ≤ ((l.segs.take i).flatMap (·.bs)).length + (j) ∧ 0 ≤ sum2 ∧ sum2 ≤ 4096 * (((l.segs.take i).flatMap (·.bs)).length : Int) + 4096 * ((j : Nat) : Int)) (fun ⟨j, sum2, bl2, ra2, rc2⟩ => xl.length - j) (fun ⟨j, sum2, bl2, ra2, rc2⟩ => [(0, .pointer (some ⟨l.lb, 0, none⟩)), (1, .int .i64 off), (2, .int .i64 most), (34, .slice l.la (l.ini.length + 1) l.lc), (35, .int .i64 (l.segs.length : Nat)), (36, .int .i64 (i : Nat)), (45, .slice xa xl.length xc), (46, .int .i64 (xl.length : Nat)), (8, .slice ra2 bl2.length rc2), (9, .int .i64 sum2), (47, .int .i64 (j : Nat))]) (fun ⟨j, sum2, bl2, ra2, rc2⟩ => [arr 34 6 ra2 rc2 (bl2.flatMap bmc), know (Bal bl2), know (RowAt xa (xl.flatMap bmc)), know (Bal xl), blk db (d.cells mb) 60, mp nmv Fl.val mb d.fs, R]) (0, sum, bl, ra, rc) ⟨Nat.zero_le _, by rw [← hg, segs_drop hs]; show goR off most sum _ ((xl.map (·.1)) ++ _) = _; rw [hxl, goR_keep], hbn, hs0, by show sum ≤ _; omega⟩ (.cons rfl (.cons rfl (.cons rfl (.cons rfl (.cons rfl (.cons rfl (.cons rfl (.cons rfl (.cons rfl (.cons rfl (.cons rfl .nil))))))))))) (.cons (.tail (.tail (.tail (.tail .head)))) (.cons (.tail (.tail (.tail (.tail .head)))) (.cons .head (.cons (.tail (.tail .head)) (.cons .head (.cons .head (.cons .head .nil))))))) (fun s2 hI ih => ?_)
      have ih2 := ih
      clear ih
      obtain ⟨j, sum2, bl2, ra2, rc2⟩ := s2
      dsimp only at hI ih2 ⊢
      obtain ⟨hjn, hg2, hbn2, ht0, ht1⟩ := hI
      refine .seq ?_
      refine .region ?_
      refine .rd (.lt rfl rfl) ?_
      refine .nil ?_
      refine .seq ?_
      refine .condP rfl (fun c9 => ?_) (fun c9 => ?_)
      · refine .skip ?_
        refine .seq ?_
        refine .block ?_
        refine .seq ?_
        obtain ⟨y, hy⟩ : ∃ y, xl[j]? = some y := ⟨_, List.getElem?_eq_getElem (by omega)⟩
        have hyk : y.1 ∈ keepN off s.bs := by rw [← hxl]; exact List.mem_map_of_mem (List.mem_of_getElem? hy)
        obtain ⟨hyb, hyo'⟩ := List.mem_filter.1 hyk
        have hyo : ¬ y.1.en ≤ off := by have := of_decide_eq_true hyo'; omega
        have hyg := hsok.good _ hyb
        have hye := hyg.enc_le
        have h4 := all_len hs
        have h5 := congrArg List.length hxl
        rw [List.length_map] at h5
        have h6 := keep_len off s.bs
        refine .tell (φ := ∃ b o, xa = some ⟨b, o, none⟩) ((Knows.know (.tail (.tail .head))).mono fun _ h => RowAt.addr h (by rw [flat_length bmc_len]; omega)) (fun hh => ?_)
        obtain ⟨b8, o8, h8⟩ := hh
        refine .region ?_
        refine .rd (.indexAddr (b := b8) (o := o8) Tryz.underlying43 ts34 (by show some (Value.slice (xa) _ _) = _; rw [h8]) rfl (by omega) (by omega)) ?_
        refine .rd (.loadN ia34 ts34 rfl rfl (Knows.elem (f := bmc) bmc_len (by decide) ((Knows.know (.tail (.tail .head))).mono fun _ h => h8 ▸ h) hy)) ?_
        refine .ef (.alloc ti34 rfl (ones.of rfl)) ?_
        rintro _ _ ⟨b13, rfl, rfl⟩
        refine .ef0 (.storeAll ts34 rfl rfl (by rfl) .head rfl (ones.of rfl)) ?_
        rintro _ _ rfl
        refine .nil ?_
        refine .cast (X' := blk b13 (bmc y) 34) (rfl) ?_
        refine .seq ?_
        refine .region ?_
        refine .rd (.ldN ia34 ts34 rfl .head rfl) ?_
        refine .fn rfl rfl .nil ((Knows.know (.tail (.tail (.tail (.tail .head))))).mono fun _ h => h y (List.mem_of_getElem? hy)) (Batch_ok y.1 y.2.1 y.2.2 hyg.fits) (fun v G1 hq => ?_)
        obtain ⟨rfl, rfl⟩ := hq
        simp only [List.nil_append]
        refine .alter (t := 53) (v' := .tuple #[.string (str (enc y.1)), .int .i64 0]) rfl (enc_tup hyg) ?_
        refine .rd (.move rfl) ?_
        refine .rd (.extract rfl rfl) ?_
        refine .rd (.extract rfl rfl) ?_
        refine .rd (.assign rfl) ?_
        refine .rd (.assign rfl) ?_
        refine .nil ?_
        refine .seq ?_
        refine .region ?_
        refine .rd (.move rfl) ?_
        refine .rd (.move rfl) ?_
        refine .rd (.lenT rfl rfl Tryz.underlying9 rfl) ?_
        refine .rd (.add rfl rfl (by omega) (by omega)) ?_
        refine .rd (.assign rfl) ?_
        refine .nil ?_
        refine .seq ?_
        refine .seq ?_
        refine .region ?_
        refine .rd (.move rfl) ?_
        refine .rd (.lenL rfl rfl Tryz.underlying43 rfl) ?_
        refine .rd (.gt rfl rfl) ?_
        refine .rd (.move rfl) ?_
        refine .split (t := 63) rfl (fun g13 => ?_) (fun g13 => ?_)
        · replace g13 := of_decide_eq_true g13
          refine .on (t := 63) rfl rfl ?_
          refine .rd (.move rfl) ?_
          refine .on (t := 63) rfl rfl ?_
          refine .rd (.move rfl) ?_
          refine .on (t := 63) rfl rfl ?_
          refine .rd (.gt rfl rfl) ?_
          refine .rd (.pickT rfl rfl) ?_
          refine .nil ?_
          refine .condP rfl (fun c13 => ?_) (fun c13 => ?_)
          · have hbr : 0 < (bl2.map (·.1)).length ∧ most < sum2 + ((enc y.1).length : Int) := by rw [List.length_map]; omega
            refine .seq ?_
            refine .region ?_
            refine .rd (.move rfl) ?_
            refine .rd (.assign rfl) ?_
            refine .rd (.assign rfl) ?_
            refine .nil ?_
            have hfin : bl2.map (·.1) = goR off most 0 [] l.all := by rw [← hg2, maps_drop hy, List.cons_append, goR_step, if_neg hyo, if_pos hbr]
            refine .retP Tryz.func15 (.cons (.tmp rfl) (.cons (.tmp rfl) .nil)) (.cons (.tail (.tail (.tail (.tail (.tail .head))))) (.cons (.tail (.tail (.tail (.tail (.tail .head))))) (.cons (.tail .head) (.cons (.tail .head) (.cons (.tail (.tail (.tail .head))) .nil))))) ?_
            exact ⟨[_, _, _, _], ⟨bl2, ra2, rc2, hfin.trans (if_neg g1_6).symm, by rw [if_neg g1_6]; rfl, rfl⟩, rfl⟩
          · refine .skip ?_
            have hbr : ¬ (0 < (bl2.map (·.1)).length ∧ most < sum2 + ((enc y.1).length : Int)) := by rw [List.length_map]; omega
            refine .region ?_
            refine .rd (.move rfl) ?_
            refine .rd (.ldN ia34 ts34 rfl .head rfl) ?_
            refine .ef (.buildOne (cs := bmc y) Tryz.underlying43 ti34 (by decide) rfl rfl rfl (ones.of rfl)) ?_
            rintro _ _ ⟨bo, rfl, rfl⟩
            refine .ef (.append rfl rfl Tryz.underlying43 ti34 rfl (ones.of rfl) (by decide) (by decide) rfl rfl (.tail (.tail .head)) (n := bl2.length) (m := 1) (flat_length bmc_len _) (.srcBlk .head Tryz.underlying43 rfl (by decide)) (by omega)) ?_
            rintro _ _ ⟨qa, qc, rfl, qn, rfl⟩
            refine .rd (.assign rfl) ?_
            refine .nil ?_
            refine .cast (X' := arr 34 6 qa qc ((bl2 ++ [y]).flatMap bmc)) (by rw [List.flatMap_append]; simp) ?_
            refine .dup (.tail (.tail (.tail (.tail (.tail .head))))) ?_
            refine .knowAnd (Bal (bl2 ++ [y])) (.cons (.tail (.tail (.tail (.tail (.tail .head))))) (.cons .head .nil)) (fun w h1 h2 => h1.snoc (h2 y (List.mem_of_getElem? hy))) ?_
            refine .inBlock ?_
            refine .region ?_
            refine .rd (.add rfl rfl (by omega) (by omega)) ?_
            refine .rd (.move rfl) ?_
            refine .nil ?_
            have hJ : j + 1 ≤ xl.length ∧ goR off most (sum2 + ((enc y.1).length : Int)) ((bl2 ++ [y]).map (·.1)) ((xl.drop (j + 1)).map (·.1) ++ (l.segs.drop (i + 1)).flatMap (·.bs)) = goR off most 0 [] l.all ∧ (bl2 ++ [y]).length ≤ ((l.segs.take i).flatMap (·.bs)).length + (j + 1) ∧ 0 ≤ sum2 + ((enc y.1).length : Int) ∧ sum2 + ((enc y.1).length : Int) ≤ 4096 * (((l.segs.take i).flatMap (·.bs)).length : Int) + 4096 * ((j + 1 : Nat) : Int) := ⟨by omega, by rw [← hg2, maps_drop hy, List.cons_append, goR_step, if_neg hyo, if_neg hbr, List.map_append]; rfl, by rw [List.length_append]; show bl2.length + 1 ≤ _; omega, by omega, by omega⟩
            exact (ih2 (j + 1, sum2 + ((enc y.1).length : Int), bl2 ++ [y], qa, qc) hJ (by show xl.length - (j + 1) < xl.length - j; omega)).to (.cons rfl (.cons rfl (.cons rfl (.cons rfl (.cons rfl (.cons rfl (.cons rfl (.cons rfl (.cons (by show _ = some (Value.slice _ (List.length _) _); rw [List.length_append]; rfl) (.cons rfl (.cons rfl .nil))))))))))) (.cons (.tail (.tail .head)) (.cons .head (.cons (.tail (.tail (.tail .head))) (.cons .head (.cons (.tail (.tail .head)) (.cons (.tail (.tail .head)) (.cons (.tail (.tail .head)) .nil)))))))
        · replace g13 := of_decide_eq_false g13
          refine .off (t := 63) rfl rfl rfl ?_
          refine .off (t := 63) rfl rfl rfl ?_
          refine .off (t := 63) rfl rfl rfl ?_
          refine .rd (.pickF rfl rfl) ?_
          refine .nil ?_
          refine .condF rfl ?_
          refine .skip ?_
          have hbr : ¬ (0 < (bl2.map (·.1)).length ∧ most < sum2 + ((enc y.1).length : Int)) := by rw [List.length_map]; omega
          refine .region ?_
          refine .rd (.move rfl) ?_
          refine .rd (.ldN ia34 ts34 rfl .head rfl) ?_
          refine .ef (.buildOne (cs := bmc y) Tryz.underlying43 ti34 (by decide) rfl rfl rfl (ones.of rfl)) ?_
          rintro _ _ ⟨bo, rfl, rfl⟩
          refine .ef (.append rfl rfl Tryz.underlying43 ti34 rfl (ones.of rfl) (by decide) (by decide) rfl rfl (.tail (.tail .head)) (n := bl2.length) (m := 1) (flat_length bmc_len _) (.srcBlk .head Tryz.underlying43 rfl (by decide)) (by omega)) ?_
          rintro _ _ ⟨qa, qc, rfl, qn, rfl⟩
          refine .rd (.assign rfl) ?_
          refine .nil ?_
          refine .cast (X' := arr 34 6 qa qc ((bl2 ++ [y]).flatMap bmc)) (by rw [List.flatMap_append]; simp) ?_
          refine .dup (.tail (.tail (.tail (.tail (.tail .head))))) ?_
          refine .knowAnd (Bal (bl2 ++ [y])) (.cons (.tail (.tail (.tail (.tail (.tail .head))))) (.cons .head .nil)) (fun w h1 h2 => h1.snoc (h2 y (List.mem_of_getElem? hy))) ?_
          refine .inBlock ?_
          refine .region ?_
          refine .rd (.add rfl rfl (by omega) (by omega)) ?_
          refine .rd (.move rfl) ?_
          refine .nil ?_
          have hJ : j + 1 ≤ xl.length ∧ goR off most (sum2 + ((enc y.1).length : Int)) ((bl2 ++ [y]).map (·.1)) ((xl.drop (j + 1)).map (·.1) ++ (l.segs.drop (i + 1)).flatMap (·.bs)) = goR off most 0 [] l.all ∧ (bl2 ++ [y]).length ≤ ((l.segs.take i).flatMap (·.bs)).length + (j + 1) ∧ 0 ≤ sum2 + ((enc y.1).length : Int) ∧ sum2 + ((enc y.1).length : Int) ≤ 4096 * (((l.segs.take i).flatMap (·.bs)).length : Int) + 4096 * ((j + 1 : Nat) : Int) := ⟨by omega, by rw [← hg2, maps_drop hy, List.cons_append, goR_step, if_neg hyo, if_neg hbr, List.map_append]; rfl, by rw [List.length_append]; show bl2.length + 1 ≤ _; omega, by omega, by omega⟩
          exact (ih2 (j + 1, sum2 + ((enc y.1).length : Int), bl2 ++ [y], qa, qc) hJ (by show xl.length - (j + 1) < xl.length - j; omega)).to (.cons rfl (.cons rfl (.cons rfl (.cons rfl (.cons rfl (.cons rfl (.cons rfl (.cons rfl (.cons (by show _ = some (Value.slice _ (List.length _) _); rw [List.length_append]; rfl) (.cons rfl (.cons rfl .nil))))))))))) (.cons (.tail (.tail .head)) (.cons .head (.cons (.tail (.tail (.tail .head))) (.cons .head (.cons (.tail (.tail .head)) (.cons (.tail (.tail .head)) (.cons (.tail (.tail .head)) .nil)))))))
      · refine .exit rfl ?_
        refine .inBlock ?_
        refine .region ?_
        refine .rd (.add rfl rfl (by omega) (by omega)) ?_
        refine .rd (.move rfl) ?_
        refine .nil ?_
        have hI' : i + 1 ≤ l.segs.length ∧ goR off most sum2 (bl2.map (·.1)) ((l.segs.drop (i + 1)).flatMap (·.bs)) = goR off most 0 [] l.all ∧ bl2.length ≤ ((l.segs.take (i + 1)).flatMap (·.bs)).length ∧ 0 ≤ sum2 ∧ sum2 ≤ 4096 * (((l.segs.take (i + 1)).flatMap (·.bs)).length : Int) := ⟨by omega, by rw [← hg2, List.drop_eq_nil_of_le (show xl.length ≤ j by omega)]; rfl, by rw [segs_take hs, List.length_append]; omega, by omega, by rw [segs_take hs, List.length_append]; omega⟩
        exact (ih (i + 1, sum2, bl2, ra2, rc2) hI' (by show l.segs.length - (i + 1) < l.segs.length - i; omega)).to (.cons rfl (.cons rfl (.cons rfl (.cons rfl (.cons rfl (.cons rfl (.cons rfl (.cons rfl .nil)))))))) (.cons .head (.cons .head (.cons (.tail (.tail .head)) (.cons (.tail (.tail .head)) (.cons (.tail (.tail .head)) .nil)))))
    · refine .exit rfl ?_
      refine .seq ?_
      refine .region ?_
      refine .rd (.move rfl) ?_
      refine .rd (.assign rfl) ?_
      refine .rd (.assign rfl) ?_
      refine .nil ?_
      have hfin : bl.map (·.1) = goR off most 0 [] l.all := by rw [← hg, List.drop_eq_nil_of_le (by omega)]; rfl
      refine .retP Tryz.func15 (.cons (.tmp rfl) (.cons (.tmp rfl) .nil)) (.cons (.tail (.tail .head)) (.cons (.tail (.tail .head)) (.cons .head (.cons .head (.cons .head .nil))))) ?_
      exact ⟨[_, _, _, _], ⟨bl, ra, rc, hfin.trans (if_neg g1_6).symm, by rw [if_neg g1_6]; rfl, rfl⟩, rfl⟩

end Go.Proofs.YtglhoenjflpibaaGreatDoor


namespace Go.Proofs.YtglhoenjflpibaaGreatDoor
open Go Go.Sp

set_option linter.unusedVariables false

namespace seg8
theorem na39 : NotAgg Tryz.prog 39 := ⟨_, Tryz.underlying39, trivial⟩
theorem fd69_0 : FD Tryz.prog 69 0 0 := .of Tryz.underlying69 (by kernel_rfl)
theorem na24 : NotAgg Tryz.prog 24 := ⟨_, Tryz.underlying24, trivial⟩
theorem fd69_1 : FD Tryz.prog 69 1 1 := .of Tryz.underlying69 (by kernel_rfl)
theorem na9 : NotAgg Tryz.prog 9 := ⟨_, Tryz.underlying9, trivial⟩
theorem ti3 : TI Tryz.prog 3 1 8 (.int .i64 0) := .of (by kernel_rfl)
theorem ts3 : TS Tryz.prog 3 1 := .of (by kernel_rfl)
theorem fd69_3 : FD Tryz.prog 69 3 3 := .of Tryz.underlying69 (by kernel_rfl)
theorem na67 : NotAgg Tryz.prog 67 := ⟨_, Tryz.underlying67, trivial⟩
theorem fd69_2 : FD Tryz.prog 69 2 2 := .of Tryz.underlying69 (by kernel_rfl)
theorem na3 : NotAgg Tryz.prog 3 := ⟨_, Tryz.underlying3, trivial⟩
theorem ts71 : TS Tryz.prog 71 4 := .of (by kernel_rfl)
theorem fd71_1 : FD Tryz.prog 71 1 1 := .of Tryz.underlying71 (by kernel_rfl)
end seg8
open seg8

def pS (s : Sx) (k : Int) (i : Nat) : Bool := decide (k < ((s.bs[i]?).map fun b => (((flat (s.bs.take i)).length + (enc b).length : Nat) : Int)).getD 0)
theorem pS_at {s : Sx} {k : Int} {i : Nat} {b : Bat} (hb : s.bs[i]? = some b) : pS s k i = decide (k < (((flat (s.bs.take i)).length + (enc b).length : Nat) : Int)) := by unfold pS; rw [hb]; rfl
theorem flat_mono (bs : List Bat) {i j : Nat} (h : i ≤ j) : (flat (bs.take i)).length ≤ (flat (bs.take j)).length := by
  have := flat_lq (bs := bs.take j) i
  rw [List.take_take, Nat.min_eq_left h] at this; exact this
theorem pS_mono {s : Sx} {k : Int} (a b : Nat) (hab : a ≤ b) (hb : b < s.bs.length) (hp : pS s k a = true) : pS s k b = true := by
  obtain ⟨x, hx⟩ : ∃ x, s.bs[a]? = some x := ⟨_, List.getElem?_eq_getElem (by omega)⟩
  obtain ⟨y, hy⟩ : ∃ y, s.bs[b]? = some y := ⟨_, List.getElem?_eq_getElem hb⟩
  rw [pS_at hx] at hp; rw [pS_at hy]
  have h1 := flat_next hx
  have h2 := flat_next hy
  have h3 := flat_mono s.bs (i := a + 1) (j := b + 1) (by omega)
  exact decide_eq_true (by have := of_decide_eq_true hp; omega)
theorem safe1 {db bx by' : Nat} {s : Sx} {z : Int} (h : s.ok) (i : Nat) (hi : i < s.bs.length) : Cn Tryz.prog 51 [.int .i64 (i : Nat), .pointer (some ⟨bx, 0, none⟩), .pointer (some ⟨by', 0, none⟩)] (fun w => CellsAt bx 0 [.pointer (some ⟨s.b, 0, none⟩)] w ∧ CellsAt by' 0 [.int .i64 z] w ∧ SegAt db s w) [] fun v G => v = .bool (pS s z i) ∧ G = [] := by
  obtain ⟨x, hx⟩ : ∃ x, s.bs[i]? = some x := ⟨_, List.getElem?_eq_getElem hi⟩
  rw [pS_at hx]; exact Safe1_ok db bx by' i s z x h hx

set_option maxHeartbeats 1000000 in
set_option maxRecDepth 20000 in
theorem Safe_ok (db mb : Nat) (d : Dk) (s : Sx) (hs : s.ok) : Cn Tryz.prog 27 [.pointer (some ⟨s.b, 0, none⟩)] (SegAt db s) [blk db (d.cells mb) 60, mp nmv Fl.val mb d.fs] fun v G => ∃ z, z ≤ s.bs.length ∧ (∀ q < z, pS s ((d.file s.nm).safe : Int) q = false) ∧ (∀ q, z ≤ q → q < s.bs.length → pS s ((d.file s.nm).safe : Int) q = true) ∧ v = .int .i64 (nextOf s.base (s.bs.take z)) ∧ G = [blk db (d.cells mb) 60, mp nmv Fl.val mb d.fs] := by
  refine .enter Tryz.func27 rfl (by kernel_rfl) rfl fun R k => ?_
  have hl := hs.len
  refine .seq ?_
  refine .region ?_
  refine .ef (.box (l := [.pointer (some ⟨s.b, 0, none⟩)]) rfl rfl (ones.of rfl)) ?_
  rintro _ _ ⟨b1, rfl, rfl⟩
  refine .rd (.assign rfl) ?_
  refine .nil ?_
  refine .seq ?_
  refine .draws [0, 3, 4, 7] [blk b1 [.pointer (some ⟨s.b, 0, none⟩)] 39, R] (by kernel_rfl) ?_
  refine .rd 0 rfl rfl (by kernel_rfl) (by kernel_rfl) (by kernel_rfl) (.ld na39 rfl .head rfl) (.cons .head (.cons (.tail (.tail .head)) .nil)) ?_
  refine .rp 1 rfl (by kernel_rfl) (by kernel_rfl) (by kernel_rfl) (Reads.pure (.nilCheck rfl)) ?_
  refine .rp 2 rfl (by kernel_rfl) (by kernel_rfl) (by kernel_rfl) (Reads.pure (.fieldAddr fd69_0 rfl)) ?_
  refine .rd 3 rfl rfl (by kernel_rfl) (by kernel_rfl) (by kernel_rfl) (.load na24 rfl (Knows.one (i := 0) (Knows.pick (.tail .head) (k.mono fun _ h => h.1)) rfl)) (.cons .head (.cons (.tail (.tail .head)) .nil)) ?_
  refine .rd 4 rfl rfl (by kernel_rfl) (by kernel_rfl) (by kernel_rfl) (.ld na39 rfl .head rfl) (.cons .head (.cons (.tail (.tail .head)) .nil)) ?_
  refine .rp 5 rfl (by kernel_rfl) (by kernel_rfl) (by kernel_rfl) (Reads.pure (.nilCheck rfl)) ?_
  refine .rp 6 rfl (by kernel_rfl) (by kernel_rfl) (by kernel_rfl) (Reads.pure (.fieldAddr fd69_1 rfl)) ?_
  refine .rd 7 rfl rfl (by kernel_rfl) (by kernel_rfl) (by kernel_rfl) (.load na9 rfl (Knows.one (i := 1) (Knows.pick (.tail .head) (k.mono fun _ h => h.1)) rfl)) (.cons .head (.cons (.tail (.tail .head)) .nil)) ?_
  refine .all (rs := [8, 9]) (by kernel_rfl) (by simp) (fun i hi => ?_)
  simp only [List.mem_cons, List.not_mem_nil, or_false] at hi
  rcases hi with rfl | rfl
  · refine .ef rfl (.fn rfl rfl (.cons (.tail .head) (.cons (.tail .head) .nil)) (fun _ _ _ => trivial) (Synced_ok db mb d s.nm)) ?_
    rintro v _ ⟨G1, hq, rfl⟩
    obtain ⟨rfl, rfl⟩ := hq
    simp only [List.cons_append, List.nil_append]
    refine ⟨.inl (by kernel_rfl), ?_⟩
    refine .ef 9 (by kernel_rfl) rfl (.alloc ti3 rfl (ones.of rfl)) ?_
    rintro _ _ ⟨b3, rfl, rfl⟩
    refine ⟨.inr ⟨_, (.cons (.tail (.tail (.tail .head))) (.cons (.tail (.tail (.tail .head))) .nil))⟩, ?_⟩
    refine .ef0 10 (by kernel_rfl) rfl (.store ts3 rfl rfl .head rfl (Nat.le_of_ble_eq_true rfl)) ?_
    rintro _ _ rfl
    refine ⟨.inl (by kernel_rfl), ?_⟩
    refine .done (by kernel_rfl) ?_
    refine .cast (X' := blk b3 [.int .i64 ((d.file s.nm).safe : Int)] 3) (rfl) ?_
    refine .seq ?_
    refine .region ?_
    refine .rd (.ld na39 rfl (.tail (.tail (.tail .head))) rfl) ?_
    refine .rd (.nilCheck rfl) ?_
    refine .rd (.fieldAddr fd69_3 rfl) ?_
    refine .rd (.load na67 rfl (Knows.one (i := 3) (Knows.pick (.tail (.tail (.tail (.tail .head)))) (k.mono fun _ h => h.1)) rfl)) ?_
    refine .rd (.lenL rfl rfl Tryz.underlying67 rfl) ?_
    refine .rd (.makeFunc (cs := [.pointer (some ⟨b1, 0, none⟩), .pointer (some ⟨b3, 0, none⟩)]) rfl rfl) ?_
    refine .fn rfl rfl .nil ((Knows.blk (.tail (.tail (.tail .head)))).and ((Knows.blk .head).and (Knows.pick (.tail (.tail (.tail (.tail .head)))) k))) (Search_ok s.bs.length (by omega) (pS s ((d.file s.nm).safe : Int)) pS_mono (fun w => CellsAt b1 0 [.pointer (some ⟨s.b, 0, none⟩)] w ∧ CellsAt b3 0 [.int .i64 ((d.file s.nm).safe : Int)] w ∧ SegAt db s w) 51 #[.pointer (some ⟨b1, 0, none⟩), .pointer (some ⟨b3, 0, none⟩)] (safe1 hs)) (fun v G1 hq => ?_)
    obtain ⟨z, hz, hz1, hz2, rfl, rfl⟩ := hq
    simp only [List.nil_append]
    refine .rd (.assign rfl) ?_
    refine .nil ?_
    refine .seq ?_
    refine .seq ?_
    refine .region ?_
    refine .rd (.move rfl) ?_
    refine .rd (.eqI rfl rfl) ?_
    refine .nil ?_
    refine .condP rfl (fun c3 => ?_) (fun c3 => ?_)
    · refine .seq ?_
      refine .region ?_
      refine .rd (.ld na39 rfl (.tail (.tail (.tail .head))) rfl) ?_
      refine .rd (.nilCheck rfl) ?_
      refine .rd (.fieldAddr fd69_2 rfl) ?_
      refine .rd (.load na3 rfl (Knows.one (i := 2) (Knows.pick (.tail (.tail (.tail (.tail .head)))) (k.mono fun _ h => h.1)) rfl)) ?_
      refine .rd (.assign rfl) ?_
      refine .nil ?_
      obtain rfl : z = 0 := by omega
      refine .retP Tryz.func27 (.cons (.tmp rfl) .nil) (.cons (.tail .head) (.cons (.tail .head) (.cons (.tail (.tail .head)) .nil))) ?_
      exact ⟨[_, _], ⟨_, hz, hz1, hz2, rfl, rfl⟩, rfl⟩
    · refine .skip ?_
      refine .seq ?_
      obtain ⟨b, hb⟩ : ∃ b, s.bs[z - 1]? = some b := ⟨_, List.getElem?_eq_getElem (by omega)⟩
      have hen := (hs.chain.at hb).2
      rw [show z - 1 + 1 = z by omega] at hen
      refine .tell (φ := ∃ b o, s.aa = some ⟨b, o, none⟩) (Knows.pick (.tail (.tail (.tail (.tail .head)))) (k.mono fun _ h => RowAt.addr h.2.1 (by rw [Sx.rows_len]; omega))) (fun hh => ?_)
      obtain ⟨b9, o9, h9⟩ := hh
      refine .region ?_
      refine .rd (.ld na39 rfl (.tail (.tail (.tail .head))) rfl) ?_
      refine .rd (.nilCheck rfl) ?_
      refine .rd (.fieldAddr fd69_3 rfl) ?_
      refine .rd (.load na67 rfl (Knows.one (i := 3) (Knows.pick (.tail (.tail (.tail (.tail .head)))) (k.mono fun _ h => h.1)) rfl)) ?_
      refine .rd (.move rfl) ?_
      refine .rd (.sub rfl rfl (by omega) (by omega)) ?_
      refine .alter (t := 32) (v' := .int .i64 ((z - 1 : Nat))) rfl (congrArg (Value.int .i64) (by omega)) ?_
      refine .rd (.indexAddr (b := b9) (o := o9) Tryz.underlying67 ts71 (by show some (Value.slice (s.aa) _ _) = _; rw [h9]) rfl (by omega) (by omega)) ?_
      refine .rd (.fieldAddr fd71_1 rfl) ?_
      refine .rd (.load na3 rfl (Knows.one (i := 1) (Knows.elem (f := One.cells) One.cells_len (by decide) (Knows.pick (.tail (.tail (.tail (.tail .head)))) (k.mono fun _ h => h9 ▸ h.2.1)) (one_at hb)) rfl)) ?_
      refine .rd (.assign rfl) ?_
      refine .nil ?_
      refine .retP Tryz.func27 (.cons (.tmp rfl) .nil) (.cons (.tail .head) (.cons (.tail .head) (.cons (.tail (.tail .head)) .nil))) ?_
      exact ⟨[_, _], ⟨_, hz, hz1, hz2, by rw [← hen]; rfl, rfl⟩, rfl⟩
  · refine .ef rfl (.alloc ti3 rfl (ones.of rfl)) ?_
    rintro _ _ ⟨b3, rfl, rfl⟩
    refine ⟨.inr ⟨_, (.cons (.tail .head) (.cons (.tail (.tail (.tail .head))) .nil))⟩, ?_⟩
    refine .ef 8 (by kernel_rfl) rfl (.fn rfl rfl (.cons (.tail (.tail .head)) (.cons (.tail (.tail .head)) .nil)) (fun _ _ _ => trivial) (Synced_ok db mb d s.nm)) ?_
    rintro v _ ⟨G1, hq, rfl⟩
    obtain ⟨rfl, rfl⟩ := hq
    simp only [List.cons_append, List.nil_append]
    refine ⟨.inl (by kernel_rfl), ?_⟩
    refine .ef0 10 (by kernel_rfl) rfl (.store ts3 rfl rfl (.tail (.tail .head)) rfl (Nat.le_of_ble_eq_true rfl)) ?_
    rintro _ _ rfl
    refine ⟨.inl (by kernel_rfl), ?_⟩
    refine .done (by kernel_rfl) ?_
    refine .cast (X' := blk b3 [.int .i64 ((d.file s.nm).safe : Int)] 3) (rfl) ?_
    refine .seq ?_
    refine .region ?_
    refine .rd (.ld na39 rfl (.tail (.tail (.tail .head))) rfl) ?_
    refine .rd (.nilCheck rfl) ?_
    refine .rd (.fieldAddr fd69_3 rfl) ?_
    refine .rd (.load na67 rfl (Knows.one (i := 3) (Knows.pick (.tail (.tail (.tail (.tail .head)))) (k.mono fun _ h => h.1)) rfl)) ?_
    refine .rd (.lenL rfl rfl Tryz.underlying67 rfl) ?_
    refine .rd (.makeFunc (cs := [.pointer (some ⟨b1, 0, none⟩), .pointer (some ⟨b3, 0, none⟩)]) rfl rfl) ?_
    refine .fn rfl rfl .nil ((Knows.blk (.tail (.tail (.tail .head)))).and ((Knows.blk .head).and (Knows.pick (.tail (.tail (.tail (.tail .head)))) k))) (Search_ok s.bs.length (by omega) (pS s ((d.file s.nm).safe : Int)) pS_mono (fun w => CellsAt b1 0 [.pointer (some ⟨s.b, 0, none⟩)] w ∧ CellsAt b3 0 [.int .i64 ((d.file s.nm).safe : Int)] w ∧ SegAt db s w) 51 #[.pointer (some ⟨b1, 0, none⟩), .pointer (some ⟨b3, 0, none⟩)] (safe1 hs)) (fun v G1 hq => ?_)
    obtain ⟨z, hz, hz1, hz2, rfl, rfl⟩ := hq
    simp only [List.nil_append]
    refine .rd (.assign rfl) ?_
    refine .nil ?_
    refine .seq ?_
    refine .seq ?_
    refine .region ?_
    refine .rd (.move rfl) ?_
    refine .rd (.eqI rfl rfl) ?_
    refine .nil ?_
    refine .condP rfl (fun c3 => ?_) (fun c3 => ?_)
    · refine .seq ?_
      refine .region ?_
      refine .rd (.ld na39 rfl (.tail (.tail (.tail .head))) rfl) ?_
      refine .rd (.nilCheck rfl) ?_
      refine .rd (.fieldAddr fd69_2 rfl) ?_
      refine .rd (.load na3 rfl (Knows.one (i := 2) (Knows.pick (.tail (.tail (.tail (.tail .head)))) (k.mono fun _ h => h.1)) rfl)) ?_
      refine .rd (.assign rfl) ?_
      refine .nil ?_
      obtain rfl : z = 0 := by omega
      refine .retP Tryz.func27 (.cons (.tmp rfl) .nil) (.cons (.tail .head) (.cons (.tail .head) (.cons (.tail (.tail .head)) .nil))) ?_
      exact ⟨[_, _], ⟨_, hz, hz1, hz2, rfl, rfl⟩, rfl⟩
    · refine .skip ?_
      refine .seq ?_
      obtain ⟨b, hb⟩ : ∃ b, s.bs[z - 1]? = some b := ⟨_, List.getElem?_eq_getElem (by omega)⟩
      have hen := (hs.chain.at hb).2
      rw [show z - 1 + 1 = z by omega] at hen
      refine .tell (φ := ∃ b o, s.aa = some ⟨b, o, none⟩) (Knows.pick (.tail (.tail (.tail (.tail .head)))) (k.mono fun _ h => RowAt.addr h.2.1 (by rw [Sx.rows_len]; omega))) (fun hh => ?_)
      obtain ⟨b9, o9, h9⟩ := hh
      refine .region ?_
      refine .rd (.ld na39 rfl (.tail (.tail (.tail .head))) rfl) ?_
      refine .rd (.nilCheck rfl) ?_
      refine .rd (.fieldAddr fd69_3 rfl) ?_
      refine .rd (.load na67 rfl (Knows.one (i := 3) (Knows.pick (.tail (.tail (.tail (.tail .head)))) (k.mono fun _ h => h.1)) rfl)) ?_
      refine .rd (.move rfl) ?_
      refine .rd (.sub rfl rfl (by omega) (by omega)) ?_
      refine .alter (t := 32) (v' := .int .i64 ((z - 1 : Nat))) rfl (congrArg (Value.int .i64) (by omega)) ?_
      refine .rd (.indexAddr (b := b9) (o := o9) Tryz.underlying67 ts71 (by show some (Value.slice (s.aa) _ _) = _; rw [h9]) rfl (by omega) (by omega)) ?_
      refine .rd (.fieldAddr fd71_1 rfl) ?_
      refine .rd (.load na3 rfl (Knows.one (i := 1) (Knows.elem (f := One.cells) One.cells_len (by decide) (Knows.pick (.tail (.tail (.tail (.tail .head)))) (k.mono fun _ h => h9 ▸ h.2.1)) (one_at hb)) rfl)) ?_
      refine .rd (.assign rfl) ?_
      refine .nil ?_
      refine .retP Tryz.func27 (.cons (.tmp rfl) .nil) (.cons (.tail .head) (.cons (.tail .head) (.cons (.tail (.tail .head)) .nil))) ?_
      exact ⟨[_, _], ⟨_, hz, hz1, hz2, by rw [← hen]; rfl, rfl⟩, rfl⟩

end Go.Proofs.YtglhoenjflpibaaGreatDoor


/- Chapter 6: what Open leaves where there was no log; the examples' numbers, in plain Lean. -/
namespace Go.Proofs.YtglhoenjflpibaaGreatDoor
open Go Go.Sp

/-- All names are short. -/
def Short (d : Dk) : Prop := ∀ n, (d.get n).isSome = true → n.length ≤ 64
theorem Short.all {d : Dk} (h : Short d) : ∀ p ∈ d.fs, p.1.length ≤ 64 := fun _ hp => h _ (get_in.2 (List.mem_map_of_mem hp))
theorem Short.put {d : Dk} (h : Short d) {n : Nm} {f : Fl} (hn : n.length ≤ 64) : Short (d.put n f) := fun m hm => by
  rw [Dk.get_put] at hm
  split at hm
  · rename_i e; rw [e]; exact hn
  · exact h m hm
/-- There is no file of a log. -/
structure Free (pre : Nm) (d : Dk) : Prop where
  nums : (d.get (metaOf pre)).isSome = false
  segs : ∀ u, u ≤ 1000000000 → (d.get (nameOf pre u)).isSome = false
structure OpenTo (pre0 : Nm) (most : Int) (d : Dk) (l : Lx) (d' : Dk) : Prop where
  ok : l.ok d'
  dok : d'.ok
  pre : l.pre = pre0
  most : l.most = most
  start : l.start = 0
  high : l.high = 0
  ini : l.ini = []
  bs : l.cur.bs = []
  base : l.cur.base = 0
  size : d'.size = d.size
  used : d'.used = d.used
  len : d'.fs.length ≤ d.fs.length + 1
  own : Own l d'
  safe : (d'.file l.cur.nm).safe = 0
  far : ∀ n, (∀ u, u ≤ 1000000000 → n ≠ nameOf pre0 u) → d'.file n = d.file n ∧ d'.get n = d.get n
theorem OpenTo.full {pre most d l d'} (h : OpenTo pre most d l d') : Full l d' := fun s hs => by rw [h.ini] at hs; cases hs
theorem OpenTo.all {pre most d l d'} (h : OpenTo pre most d l d') : l.all = [] := by unfold Lx.all Lx.segs; rw [h.ini]; simp [h.bs]
theorem OpenTo.next {pre most d l d'} (h : OpenTo pre most d l d') : l.next = 0 := by show nextOf l.cur.base l.cur.bs = 0; rw [h.bs, h.base]; rfl
theorem OpenTo.base' {pre most d l d'} (h : OpenTo pre most d l d') : baseOf l = 0 := by unfold baseOf Lx.segs; rw [h.ini]; exact h.base
theorem OpenTo.segs {pre most d l d'} (h : OpenTo pre most d l d') : l.segs.length = 1 := by unfold Lx.segs; rw [h.ini]; rfl
theorem free_bases {pre : Nm} {d : Dk} (h : Free pre d) : basesOf pre (sorted (d.fs.map (·.1))) = [] := by
  refine List.eq_nil_iff_forall_not_mem.2 fun u hu => ?_
  rw [basesOf_mem, sorted_mem, ← get_in] at hu
  rw [h.segs u hu.1] at hu
  cases hu.2
theorem Open_ok7 (db mb : Nat) (d : Dk) (pre : Nm) (most : Int) (hd : d.ok) (hp : Pre pre) (hs : Short d) (hn : d.fs.length < 256) (hf : Free pre d) (h1 : 256 ≤ most) (h2 : most ≤ 1000000) : Cn Tryz.prog 10 [.pointer (some ⟨db, 0, none⟩), nmv pre, .int .i64 most] LV [blk db (d.cells mb) 60, mp nmv Fl.val mb d.fs] fun v G => ∃ l d', v = .tuple #[.pointer (some ⟨l.lb, 0, none⟩), .int .i64 0] ∧ OpenTo pre most d l d' ∧ G = [LG db l, blk db (d'.cells mb) 60, mp nmv Fl.val mb d'.fs] := by
  have h0 : d.file (nameOf pre 0) = fl0 := Dk.file_none (hf.segs 0 (by decide))
  refine (Open0_ok db mb d pre most hd hp hs.all (by omega) h1 h2 hf.nums (free_bases hf) hn (by rw [h0]; rfl)).mono fun v G h => ?_
  obtain ⟨lx, sb, sm, aa, ac, ia, ic, qa, qc, rfl, hix, rfl⟩ := h
  have hu := Dk.used_put hd (nameOf pre 0) ⟨[], 0⟩
  rw [h0] at hu
  have e0 : fl0.b.length = 0 := rfl
  dsimp only [List.length_nil] at hu
  refine ⟨newL lx pre most sb sm aa ac ia ic qa qc, d.put (nameOf pre 0) ⟨[], 0⟩, rfl, ⟨newL_ok hp h1 h2 hix, Dk.ok_put hd (by dsimp only [List.length_nil]; have := hd.used; omega) (Nat.le_refl _), rfl, rfl, rfl, rfl, rfl, rfl, rfl, rfl, by omega, mset_len_le _ _ _, fun u hu hg => ⟨_, .head _, ?_⟩, by show ((d.put _ _).file (nameOf pre 0)).safe = 0; rw [Dk.file_put], fun n hn => Dk.file_put_ne _ _ (hn 0 (by decide))⟩, rfl⟩
  show (0 : Int).toNat = u
  by_cases hx : nameOf pre u = nameOf pre 0
  · exact (nameOf_inj hx).symm
  · have hg' : (d.get (nameOf pre u)).isSome = true := by rw [← (Dk.file_put_ne d _ hx).2]; exact hg
    rw [hf.segs u hu] at hg'; cases hg'
theorem AppTo.short {l l' : Lx} {d d' : Dk} {b : Bat} (h : AppTo l d b l' d') (hp : Pre l.pre) (hs : Short d) : Short d' := fun n hn => by
  by_cases hx : ∃ u, u ≤ 1000000000 ∧ n = nameOf l.pre u
  · obtain ⟨u, hu, rfl⟩ := hx
    rw [nameOf_len (by omega)]; have := hp.len; omega
  · rw [(h.far n fun u hu e => hx ⟨u, hu, e⟩).2] at hn; exact hs n hn
theorem OpenTo.short {pre : Nm} {most : Int} {l : Lx} {d d' : Dk} (h : OpenTo pre most d l d') (hp : Pre pre) (hs : Short d) : Short d' := fun n hn => by
  by_cases hx : ∃ u, u ≤ 1000000000 ∧ n = nameOf pre u
  · obtain ⟨u, hu, rfl⟩ := hx
    rw [nameOf_len (by omega)]; have := hp.len; omega
  · rw [(h.far n fun u hu e => hx ⟨u, hu, e⟩).2] at hn; exact hs n hn
theorem DelTo.short {l l' : Lx} {d d' : Dk} {off w : Nat} (h : DelTo l d off w l' d') (hl : l.ok d) (hs : Short d) : Short d' := fun n hn => by
  have hpl := hl.pre.len
  by_cases hx : n = metaOf l.pre
  · subst hx; unfold metaOf; rw [List.length_append]; show _ + 5 ≤ 64; omega
  · by_cases hy : ∃ s ∈ l.ini, n = s.nm
    · obtain ⟨s, hs', rfl⟩ := hy
      obtain ⟨k1, k2, _, _⟩ := hl.seg s (List.mem_append_left _ hs')
      have := k1.base0; have := k1.base1
      rw [k2, nameOf_len (by omega)]; omega
    · rw [h.far n hx fun s hs' => .inr fun e => hy ⟨s, hs', e⟩] at hn; exact hs n hn
/-- All is written safely. -/
def sync (l : Lx) (d : Dk) : Dk := d.put l.cur.nm ⟨(d.file l.cur.nm).b, (d.file l.cur.nm).b.length⟩
structure SyncTo (l : Lx) (d d' : Dk) : Prop where
  ok : l.ok d'
  dok : d'.ok
  size : d'.size = d.size
  used : d'.used = d.used
  len : d'.fs.length = d.fs.length
  own : Own l d → Own l d'
  full : Full l d → Full l d'
  file : d'.file l.cur.nm = ⟨(d.file l.cur.nm).b, (d.file l.cur.nm).b.length⟩
  far : ∀ n, n ≠ l.cur.nm → d'.file n = d.file n ∧ d'.get n = d.get n
  names : ∀ n, (d'.get n).isSome = (d.get n).isSome
theorem sync_to {l : Lx} {d : Dk} (hl : l.ok d) (hd : d.ok) : SyncTo l d (sync l d) := by
  obtain ⟨c1, c2, c3, c4⟩ := hl.cur
  have hnm : ∀ n, ((sync l d).get n).isSome = (d.get n).isSome := fun n => by
    unfold sync; rw [Dk.get_put]
    split
    · rename_i e; rw [e, c3]; rfl
    · rfl
  have hu := Dk.used_put hd l.cur.nm ⟨(d.file l.cur.nm).b, (d.file l.cur.nm).b.length⟩
  have hfar : ∀ n, n ≠ l.cur.nm → (sync l d).file n = d.file n ∧ (sync l d).get n = d.get n := fun n hn => Dk.file_put_ne _ _ hn
  refine ⟨⟨hl.pre, fun s hs => ?_, hl.link, hl.ne, hl.start, hl.high, hl.most, hl.len⟩, Dk.ok_put hd (by dsimp only; have := hd.used; omega) (Nat.le_refl _), rfl, by dsimp only at hu; unfold sync; omega, mset_len_in c3, fun ho u hu hg => ho u hu (by rw [← hnm]; exact hg), fun hf s hs => ?_, Dk.file_put _ _ _, hfar, hnm⟩
  · rcases List.mem_append.1 hs with hs | hs
    · obtain ⟨k1, k2, k3, k4⟩ := hl.seg s (List.mem_append_left _ hs)
      obtain ⟨m1, m2⟩ := hfar s.nm (hl.nm_ne hs)
      exact ⟨k1, k2, by rw [m2]; exact k3, by rw [m1]; exact k4⟩
    · rw [List.mem_singleton.1 hs]
      exact ⟨c1, c2, by rw [hnm]; exact c3, by unfold sync; rw [Dk.file_put]; exact c4⟩
  · rw [(hfar s.nm (hl.nm_ne hs)).1]; exact hf s hs
/-- How far it is safe. -/
theorem safe_is {s : Sx} (hs : s.ok) {k : Int} {z m : Nat} (hm : m ≤ s.bs.length) (hk : k = ((flat (s.bs.take m)).length : Int)) (hz : z ≤ s.bs.length) (h1 : ∀ q < z, pS s k q = false) (h2 : ∀ q, z ≤ q → q < s.bs.length → pS s k q = true) : z = m := by
  have step : ∀ i < s.bs.length, (flat (s.bs.take i)).length < (flat (s.bs.take (i + 1))).length ∧ pS s k i = decide (k < ((flat (s.bs.take (i + 1))).length : Int)) := fun i hi => by
    obtain ⟨b, hb⟩ : ∃ b, s.bs[i]? = some b := ⟨_, List.getElem?_eq_getElem hi⟩
    have h3 := flat_next hb
    have h4 := (hs.good b (List.mem_of_getElem? hb)).enc_pos
    rw [pS_at hb]
    exact ⟨by omega, by rw [h3]⟩
  rcases Nat.lt_trichotomy z m with h | h | h
  · have h3 := h2 z (Nat.le_refl _) (by omega)
    rw [(step z (by omega)).2] at h3
    have h4 := of_decide_eq_true h3
    have h5 := flat_mono s.bs (i := z + 1) (j := m) (by omega)
    omega
  · exact h
  · have h3 := h1 m h
    rw [(step m (by omega)).2] at h3
    have h4 := of_decide_eq_false h3
    have h5 := (step m (by omega)).1
    omega
theorem delAll_none {pre : Nm} {b : Nat} : ∀ {l : List Nat} {d : Dk}, b ∈ l → (delAll pre l d).get (nameOf pre b) = none
  | x :: l, d, h => by
    by_cases hb : b ∈ l
    · exact delAll_none (l := l) (d := d.del (nameOf pre x)) hb
    · have hx : b = x := (List.mem_cons.1 h).resolve_right hb
      subst hx
      refine (delAll_get (l := l) (d := d.del (nameOf pre b)) fun y hy e => hb (by rw [nameOf_inj e]; exact hy)).trans ?_
      rw [Dk.get_del, if_pos rfl]
theorem delAll_len {pre : Nm} : ∀ {l : List Nat} {d : Dk}, (delAll pre l d).fs.length ≤ d.fs.length
  | [], _ => Nat.le_refl _
  | x :: l, d => Nat.le_trans (delAll_len (l := l) (d := d.del (nameOf pre x))) (mdel_len_le _ _)
/-- What Begin asks for. -/
theorem begin_asks {l : Lx} {d : Dk} (hl : l.ok d) (hd : d.ok) (ho : Own l d) (hs : Short d) (hn : d.fs.length < 255) (hr : d.used + 22 ≤ d.size) {base : Nat} (hb : base ≤ 1000000000) :
    let d1 := d.put (metaOf l.pre) ⟨mt base base, (mt base base).length⟩
    let bsl := l.segs.map fun s => s.base.toNat
    d1.ok ∧ (∀ q ∈ d1.fs, q.1.length ≤ 64) ∧ d1.fs.length ≤ 1000000 ∧ basesOf l.pre (sorted (d1.fs.map (·.1))) = bsl ∧ bsl.Nodup ∧ (∀ b ∈ bsl, b ≤ 1000000000) ∧ (∀ b ∈ bsl, (d1.get (nameOf l.pre b)).isSome = true) ∧ (delAll l.pre bsl d1).fs.length < 256 ∧ ((delAll l.pre bsl d1).file (nameOf l.pre base)).b = [] := by
  intro d1 bsl
  have hmt := mt_len hb hb
  have hu := Dk.used_put hd (metaOf l.pre) ⟨mt base base, (mt base base).length⟩
  dsimp only at hu
  have hd1 : d1.ok := Dk.ok_put hd (by dsimp only; omega) (Nat.le_refl _)
  have hl1 : l.ok d1 := keptL_ok hl hl.start.1 hl.start.2.1 hl.high.1 hl.high.2
  have ho1 : Own l d1 := fun u hu hg => ho u hu (by rw [← (Dk.file_put_ne d _ (nameOf_meta (by omega))).2]; exact hg)
  have hlen : d1.fs.length ≤ d.fs.length + 1 := mset_len_le _ _ _
  have hbs : basesOf l.pre (sorted (d1.fs.map (·.1))) = bsl := own_bases hl1 hd1 ho1
  have hup := link_up hl.link hl.ini hl.base0
  have hin : ∀ b ∈ bsl, b ≤ 1000000000 ∧ (d1.get (nameOf l.pre b)).isSome = true := fun b hb => by
    rw [← hbs, basesOf_mem, sorted_mem, ← get_in] at hb; exact hb
  refine ⟨hd1, (hs.put (by have := hl.pre.len; unfold metaOf; rw [List.length_append]; show _ + 5 ≤ 64; omega)).all, by omega, hbs, hup.imp fun h => by omega, fun b hb => (hin b hb).1, fun b hb => (hin b hb).2, by have := delAll_len (pre := l.pre) (l := bsl) (d := d1); omega, ?_⟩
  have hnone : ((delAll l.pre bsl d1).get (nameOf l.pre base)).isSome = false := by
    by_cases hm : base ∈ bsl
    · rw [delAll_none hm]; rfl
    · rw [delAll_get fun x hx e => hm (by rw [nameOf_inj e]; exact hx)]
      cases hg : (d1.get (nameOf l.pre base)).isSome with
      | false => rfl
      | true => exact absurd (by rw [← hbs, basesOf_mem, sorted_mem, ← get_in]; exact ⟨hb, hg⟩) hm
  rw [Dk.file_none hnone]; rfl
end Go.Proofs.YtglhoenjflpibaaGreatDoor

/- Chapter 6: the numbers of the examples, in plain Lean. -/
namespace Go.Proofs.YtglhoenjflpibaaGreatDoor
open Go Go.Sp

/-- A log of one segment, on the way of the examples. -/
structure Stage (l : Lx) (d : Dk) (bs : List Bat) (s : Nat) (st hi : Int) (u n : Nat) : Prop where
  ok : l.ok d
  dok : d.ok
  ini : l.ini = []
  bs : l.cur.bs = bs
  base : l.cur.base = 0
  start : l.start = st
  high : l.high = hi
  pre : l.pre = [112]
  most : l.most = 256
  own : Own l d
  short : Short d
  size : d.size = 10000
  used : d.used ≤ u
  len : d.fs.length ≤ n
  safe : (d.file l.cur.nm).safe = s
theorem prep : Pre [112] := ⟨by decide, by decide, by decide⟩
theorem dk0_ok {z : Nat} (h : z ≤ 16777216) : (Dk.mk z []).ok := ⟨.nil, Nat.zero_le _, h, fun _ h => by cases h⟩
theorem dk0_short (z : Nat) : Short (Dk.mk z []) := fun _ h => by cases h
theorem dk0_free (z : Nat) (pre : Nm) : Free pre (Dk.mk z []) := ⟨rfl, fun _ _ => rfl⟩
section
variable {l l' : Lx} {d d' : Dk} {bs : List Bat} {s : Nat} {st hi : Int} {u n : Nat}
theorem Stage.all (h : Stage l d bs s st hi u n) : l.all = bs := by unfold Lx.all Lx.segs; rw [h.ini]; simp [h.bs]
theorem Stage.base' (h : Stage l d bs s st hi u n) : baseOf l = 0 := by unfold baseOf Lx.segs; rw [h.ini]; exact h.base
theorem Stage.next (h : Stage l d bs s st hi u n) : l.next = nextOf 0 bs := by show nextOf l.cur.base l.cur.bs = _; rw [h.bs, h.base]
theorem Stage.segs (h : Stage l d bs s st hi u n) : l.segs.length = 1 := by unfold Lx.segs; rw [h.ini]; rfl
theorem Stage.begin (h : OpenTo [112] 256 (Dk.mk 10000 []) l d) : Stage l d [] 0 0 0 0 1 :=
  ⟨h.ok, h.dok, h.ini, h.bs, h.base, h.start, h.high, h.pre, h.most, h.own, h.short prep (dk0_short _), h.size, by rw [h.used]; exact Nat.le_refl _, h.len, h.safe⟩
theorem Stage.app {b : Bat} (h : Stage l d bs s st hi u n) (hA : AppTo l d b l' d') (hf : (flat bs).length < 256) (hb : (enc b).length ≤ 76) : Stage l' d' (bs ++ [b]) s st hi (u + 76) (n + 1) := by
  have h4 := h.ok.cur.2.2.2
  rcases hA.how with ⟨_, h1, h2, h3, h5, h6⟩ | ⟨h1, _⟩
  · refine ⟨hA.ok, hA.dok, h1.trans h.ini, by rw [h2, h.bs], h3.trans h.base, hA.start.trans h.start, hA.high.trans h.high, hA.pre.trans h.pre, hA.most.trans h.most, hA.own, hA.short (by rw [h.pre]; exact prep) h.short, hA.size.trans h.size, ?_, ?_, h6.trans h.safe⟩
    · have := hA.used; have := h.used; omega
    · have := hA.len; have := h.len; omega
  · rw [h4, h.bs, h.most] at h1; omega
theorem Stage.sync (h : Stage l d bs s st hi u n) : Stage l (sync l d) bs (flat bs).length st hi u n := by
  have hS := sync_to h.ok h.dok
  exact ⟨hS.ok, hS.dok, h.ini, h.bs, h.base, h.start, h.high, h.pre, h.most, hS.own h.own, fun n hn => h.short n (by rw [← hS.names]; exact hn), hS.size.trans h.size, by rw [hS.used]; exact h.used, by rw [hS.len]; exact h.len, by rw [hS.file, h.ok.cur.2.2.2, h.bs]⟩
theorem Stage.del {off w : Nat} (h : Stage l d bs s st hi u n) (hD : DelTo l d off w l' d') : Stage l' d' bs s off w (u + 22) (n + 1) := by
  have hi' : l'.ini = [] := List.eq_nil_iff_forall_not_mem.2 fun x hx => by have := hD.sub x hx; rw [h.ini] at this; cases this
  refine ⟨hD.ok, hD.dok, hi', by rw [hD.cur]; exact h.bs, by rw [hD.cur]; exact h.base, hD.start, hD.high, hD.pre.trans h.pre, hD.most.trans h.most, hD.own h.own, hD.short h.ok h.short, hD.size.trans h.size, ?_, ?_, ?_⟩
  · have := hD.used; have := h.used; omega
  · have := hD.len; have := h.len; omega
  · have hne : l.cur.nm ≠ metaOf l.pre := by
      obtain ⟨c1, c2, _, _⟩ := h.ok.cur
      rw [c2]; exact nameOf_meta (by have := c1.base0; have := c1.base1; omega)
    have hg := hD.far l.cur.nm hne fun s hs => by rw [h.ini] at hs; cases hs
    rw [hD.cur]
    rw [← h.safe]
    unfold Dk.file
    unfold Dk.get at hg
    rw [hg]
end
def b3 : List Bat := [sb 1 0, sb 1 1, sb 1 2]
theorem sb_enc1 {u : Int} (h0 : 0 ≤ u) (h1 : u ≤ 100000000) : (enc (sb 1 u)).length ≤ 76 := sb_enc (by decide) (by decide) h0 h1
theorem sb_good1 {u : Int} (h0 : 0 ≤ u) (h1 : u ≤ 100000000) : (sb 1 u).good := sb_good (by decide) (by decide) h0 h1
theorem flatS1 : (flat [sb 1 0]).length ≤ 76 := by
  have h1 := sb_enc1 (u := 0) (by decide) (by decide)
  rw [flat_cons, List.length_append]
  show (enc (sb 1 0)).length + 0 ≤ 76
  omega
theorem flatS2 : (flat [sb 1 0, sb 1 1]).length ≤ 152 := by
  have h1 := sb_enc1 (u := 0) (by decide) (by decide)
  have h2 := sb_enc1 (u := 1) (by decide) (by decide)
  rw [flat_cons, flat_cons, List.length_append, List.length_append]
  show (enc (sb 1 0)).length + ((enc (sb 1 1)).length + 0) ≤ 152
  omega
theorem en1 (u : Int) : (sb 1 u).en = u + 1 := sb_en 1 u
theorem readS {l : Lx} (h : l.all = b3) : goR 1 1 0 [] l.all = [sb 1 1] := by
  rw [h]
  have h1 := (sb_good1 (u := 1) (by decide) (by decide)).enc_pos
  have h2 := (sb_good1 (u := 2) (by decide) (by decide)).enc_pos
  unfold b3
  rw [goR_step, if_pos (by rw [en1]; decide), goR_step, if_neg (by rw [en1]; decide), if_neg (by simp), goR_step, if_neg (by rw [en1]; decide), if_pos ⟨by simp, by omega⟩]
  rfl
theorem cutS : cutN 2 b3 = [sb 1 0, sb 1 1] := by
  unfold b3 cutN
  rw [List.filter_cons_of_pos (by rw [en1]; decide), List.filter_cons_of_pos (by rw [en1]; decide), List.filter_cons_of_neg (by rw [en1]; decide)]
  rfl
theorem nextS2 (n : Int) : nextOf n [sb 1 0, sb 1 1] = 2 := by show (sb 1 1).en = 2; rw [en1]; decide
theorem nextS3 (n : Int) : nextOf n b3 = 3 := by show (sb 1 2).en = 3; rw [en1]; decide
/-- The log of the examples' end. -/
def nine (lb : Nat) (s : Nat) (sm : List Nat) (aa : Option Addr) (ac : Nat) (ia : Option Addr) (ic : Nat) (qa : Option Addr) (qc : Nat) : Lx := ⟨lb, [112], 256, 9, 9, [], ⟨s, nameOf [112] 9, 9, [], sm, aa, ac, ia, ic⟩, qa, qc⟩
end Go.Proofs.YtglhoenjflpibaaGreatDoor

/- Chapter 6: what a read of a log tells; two logs on one disk, in plain Lean. -/
namespace Go.Proofs.YtglhoenjflpibaaGreatDoor
open Go Go.Sp

def icI (n : Int) : List Value := [.int .i64 n]
theorem icI_len (n : Int) : (icI n).length = 1 := rfl
theorem icI_ones (n : Int) : ones (icI n) := .of rfl
theorem goR_form {off most : Int} : ∀ (bs : List Bat) (sum : Int) (acc : List Bat), ∃ m, goR off most sum acc bs = acc ++ (keepN off bs).take m ∧ (acc = [] → keepN off bs ≠ [] → 0 < m)
  | [], _, acc => ⟨0, by simp [goR, keepN], fun _ h => absurd rfl h⟩
  | b :: bs, sum, acc => by
    rw [goR_step]
    by_cases h : b.en ≤ off
    · rw [if_pos h]
      have e : keepN off (b :: bs) = keepN off bs := by unfold keepN; rw [List.filter_cons, if_neg (by simp; omega)]
      rw [e]; exact goR_form bs sum acc
    · rw [if_neg h]
      have e : keepN off (b :: bs) = b :: keepN off bs := by unfold keepN; rw [List.filter_cons, if_pos (by simp; omega)]
      rw [e]
      by_cases h2 : 0 < acc.length ∧ most < sum + (enc b).length
      · rw [if_pos h2]
        exact ⟨0, by simp, fun ha => by rw [ha] at h2; exact absurd h2.1 (by decide)⟩
      · rw [if_neg h2]
        obtain ⟨m, hm, _⟩ := goR_form (off := off) (most := most) bs (sum + (enc b).length) (acc ++ [b])
        exact ⟨m + 1, by rw [hm, List.append_assoc]; rfl, fun _ _ => Nat.succ_pos _⟩
theorem keep_drop {off : Int} : ∀ {n : Int} {l : List Bat}, Chain n l → (∀ b ∈ l, b.good) → ∃ j, keepN off l = l.drop j ∧ ∀ b ∈ l.take j, b.en ≤ off
  | _, [], _, _ => ⟨0, rfl, fun _ h => by cases h⟩
  | n, b :: l, hc, hg => by
    by_cases h : b.en ≤ off
    · obtain ⟨j, h1, h2⟩ := keep_drop (off := off) hc.2 fun x hx => hg x (.tail _ hx)
      refine ⟨j + 1, ?_, fun x hx => ?_⟩
      · rw [List.drop_succ_cons, ← h1]; unfold keepN; rw [List.filter_cons, if_neg (by simp; omega)]
      · rw [List.take_succ_cons] at hx
        rcases List.mem_cons.1 hx with rfl | hx
        · exact h
        · exact h2 x hx
    · refine ⟨0, ?_, fun _ h => by cases h⟩
      rw [List.drop_zero]
      refine List.filter_eq_self.2 fun x hx => decide_eq_true ?_
      rcases List.mem_cons.1 hx with rfl | hx
      · omega
      · obtain ⟨i, hi⟩ := List.getElem?_of_mem hx
        have h1 := (hc.2.at hi).1
        have h2 := hc.2.mono (fun y hy => hg y (.tail _ hy)) (i := 0) (j := i) (Nat.zero_le _)
        have h3 : nextOf b.en (l.take 0) = b.en := rfl
        have h4 := (hg x (.tail _ hx)).lt
        omega
theorem nextOf_off {off : Int} : ∀ {n : Int} {l : List Bat}, n ≤ off → (∀ b ∈ l, b.en ≤ off) → nextOf n l ≤ off
  | _, [], h, _ => h
  | _, b :: l, _, h => nextOf_off (l := l) (h b (.head _)) fun x hx => h x (.tail _ hx)
theorem nextOf_ne {a b : Int} : ∀ {l : List Bat}, l ≠ [] → nextOf a l = nextOf b l
  | [], h => absurd rfl h
  | _ :: _, _ => rfl
/-- One behind the other, from the one in which an offset lies on. -/
def Flow (off : Int) (R : List Bat) : Prop := ∀ i y, R[i]? = some y → y.base ≤ nextOf off (R.take i) ∧ nextOf off (R.take i) < y.en ∧ (0 < i → y.base = nextOf off (R.take i))
theorem flow {n off most : Int} {all : List Bat} (hc : Chain n all) (hg : ∀ b ∈ all, b.good) (hn : n ≤ off) : Flow off (goR off most 0 [] all) := by
  obtain ⟨m, hm, _⟩ := goR_form (off := off) (most := most) all 0 []
  obtain ⟨j, hj, hle⟩ := keep_drop (off := off) hc hg
  rw [List.nil_append, hj] at hm
  rw [hm]
  intro i y hy
  rw [List.getElem?_take] at hy
  by_cases him : i < m
  · rw [if_pos him] at hy
    have hy0 := hy
    rw [List.getElem?_drop] at hy
    have hyk : y ∈ keepN off all := by rw [hj]; exact List.mem_of_getElem? hy0
    have hyo : off < y.en := of_decide_eq_true (List.mem_filter.1 hyk).2
    have hb := (hc.at hy).1
    rw [List.take_take, Nat.min_eq_left (Nat.le_of_lt him)]
    by_cases h0 : i = 0
    · subst h0
      rw [List.take_zero]
      refine ⟨?_, hyo, fun h => absurd h (by decide)⟩
      rw [hb, Nat.add_zero]
      exact nextOf_off hn hle
    · have hne : (all.drop j).take i ≠ [] := fun e => by
        have := congrArg List.length e
        have hl := (List.getElem?_eq_some_iff.1 hy0).1
        rw [List.length_take] at this
        simp only [List.length_nil] at this
        omega
      have he : nextOf off ((all.drop j).take i) = y.base := by
        rw [hb, List.take_add, nextOf_app]
        exact nextOf_ne hne
      have := (hg y (List.mem_of_getElem? hy)).lt
      rw [he]
      exact ⟨Int.le_refl _, this, fun _ => rfl⟩
  · rw [if_neg him] at hy; cases hy
theorem read_empty {n off most : Int} {all : List Bat} (hc : Chain n all) (hg : ∀ b ∈ all, b.good) (hn : n ≤ off) (ho : off ≤ nextOf n all) : goR off most 0 [] all = [] ↔ off = nextOf n all := by
  obtain ⟨m, hm, hpos⟩ := goR_form (off := off) (most := most) all 0 []
  rw [List.nil_append] at hm
  rw [hm]
  constructor
  · intro h
    by_cases hk : keepN off all = []
    · have h1 : nextOf n all ≤ off := nextOf_off hn fun b hb => by
        have := List.filter_eq_nil_iff.1 hk b hb
        simp at this; omega
      omega
    · exfalso
      have h1 := hpos rfl hk
      rcases List.take_eq_nil_iff.1 h with h2 | h2
      · omega
      · exact hk h2
  · intro h
    rw [keep_none fun b hb => by have := chain_en hc hg b hb; omega, List.take_nil]
theorem ok_far {l : Lx} {d d' : Dk} (h : l.ok d) (hf : ∀ s ∈ l.segs, d'.file s.nm = d.file s.nm ∧ d'.get s.nm = d.get s.nm) : l.ok d' := by
  refine ⟨h.pre, fun s hs => ?_, h.link, h.ne, h.start, h.high, h.most, h.len⟩
  obtain ⟨k1, k2, k3, k4⟩ := h.seg s hs
  obtain ⟨m1, m2⟩ := hf s hs
  exact ⟨k1, k2, by rw [m2]; exact k3, by rw [m1]; exact k4⟩
theorem ab_ne (u v : Nat) : nameOf [97] u ≠ nameOf [98] v := fun e => by
  have := congrArg (fun l : Nm => l.head?) e
  simp [nameOf] at this
theorem seg_name {l : Lx} {d : Dk} (h : l.ok d) {s : Sx} (hs : s ∈ l.segs) : ∃ u, s.nm = nameOf l.pre u := ⟨_, (h.seg s hs).2.1⟩
/-- Two logs of the same batches. -/
structure Duo (i : Nat) (a b : Lx) (d : Dk) : Prop where
  aok : a.ok d
  bok : b.ok d
  dok : d.ok
  aown : Own a d
  bown : Own b d
  short : Short d
  apre : a.pre = [97]
  bpre : b.pre = [98]
  all : a.all = b.all
  abase : baseOf a = 0
  bbase : baseOf b = 0
  ast : a.start = 0
  bst : b.start = 0
  alen : a.segs.length ≤ i + 1
  blen : b.segs.length ≤ i + 1
  num : a.all.length = i
  nx : a.next ≤ 20 * i
  size : d.size = 1000000
  used : d.used ≤ 456 * i
  len : d.fs.length ≤ 2 + 2 * i
theorem Duo.next {i a b d} (h : Duo i a b d) : b.next = a.next := by rw [← h.aok.nextOf, ← h.bok.nextOf, h.abase, h.bbase, h.all]
theorem app_segs {l l' : Lx} {d d' : Dk} {b : Bat} (h : AppTo l d b l' d') : l'.segs.length ≤ l.segs.length + 1 := by
  unfold Lx.segs
  rcases h.how with ⟨_, h1, _⟩ | ⟨_, h1, _⟩
  · rw [h1, List.length_append, List.length_append]; simp
  · rw [h1, List.length_append]; unfold Lx.segs; simp
theorem Duo.begin {ma mb : Int} {a b : Lx} {d d' : Dk} (hA : OpenTo [97] ma (Dk.mk 1000000 []) a d) (hB : OpenTo [98] mb d b d') : Duo 0 a b d' := by
  have hfar : ∀ u, d'.file (nameOf [97] u) = d.file (nameOf [97] u) ∧ d'.get (nameOf [97] u) = d.get (nameOf [97] u) := fun u => hB.far _ fun v _ => ab_ne u v
  refine ⟨ok_far hA.ok fun s hs => ?_, hB.ok, hB.dok, fun u hu hg => hA.own u hu ?_, hB.own, hB.short ⟨by decide, by decide, by decide⟩ (hA.short ⟨by decide, by decide, by decide⟩ (dk0_short _)), hA.pre, hB.pre, hA.all.trans hB.all.symm, hA.base', hB.base', hA.start, hB.start, Nat.le_of_eq hA.segs, Nat.le_of_eq hB.segs, by rw [hA.all]; rfl, by rw [hA.next]; decide, hB.size.trans hA.size, ?_, ?_⟩
  · obtain ⟨u, hu⟩ := seg_name hA.ok hs
    rw [hu, hA.pre]; exact hfar u
  · rw [hA.pre] at hg ⊢; rw [← (hfar u).2]; exact hg
  · rw [hB.used, hA.used]; exact Nat.le_refl _
  · have h1 := hA.len; have h2 := hB.len; have h3 : (Dk.mk 1000000 []).fs.length = 0 := rfl; omega
theorem Duo.mid {i k : Nat} {a b a' : Lx} {d d' : Dk} (h : Duo i a b d) (hA : AppTo a d (sb k a.next) a' d') : b.ok d' ∧ Own b d' := by
  have hfar : ∀ u, d'.file (nameOf [98] u) = d.file (nameOf [98] u) ∧ d'.get (nameOf [98] u) = d.get (nameOf [98] u) := fun u => hA.far _ fun v _ => by rw [h.apre]; exact (ab_ne v u).symm
  refine ⟨ok_far h.bok fun s hs => ?_, fun u hu hg => h.bown u hu ?_⟩
  · obtain ⟨u, hu⟩ := seg_name h.bok hs
    rw [hu, h.bpre]; exact hfar u
  · rw [h.bpre] at hg ⊢; rw [← (hfar u).2]; exact hg
theorem Duo.step {i k : Nat} {a b a' b' : Lx} {d d' d2 : Dk} (h : Duo i a b d) (hA : AppTo a d (sb k a.next) a' d') (hB : AppTo b d' (sb k b.next) b' d2) (hk1 : 1 ≤ k) (hk : k ≤ 20) (hi : i ≤ 60) : Duo (i + 1) a' b' d2 := by
  have hpa : a'.pre = [97] := hA.pre.trans h.apre
  have hpb : b'.pre = [98] := hB.pre.trans h.bpre
  have hfar : ∀ u, d2.file (nameOf [97] u) = d'.file (nameOf [97] u) ∧ d2.get (nameOf [97] u) = d'.get (nameOf [97] u) := fun u => hB.far _ fun v _ => by rw [h.bpre]; exact ab_ne u v
  have hn0 : 0 ≤ a.next := by have := h.aok.start; rw [h.ast] at this; exact this.2.2
  have hnx := h.nx
  have hn := h.next
  have he : (enc (sb k a.next)).length ≤ 228 := Nat.le_trans (sb_enc hk1 (by omega) hn0 (by omega)) (by omega)
  refine ⟨ok_far hA.ok fun s hs => ?_, hB.ok, hB.dok, fun u hu hg => hA.own u hu ?_, hB.own, hB.short h.bok.pre (hA.short h.aok.pre h.short), hpa, hpb, by rw [hA.all, hB.all, h.all, hn], hA.base.trans h.abase, hB.base.trans h.bbase, hA.start.trans h.ast, hB.start.trans h.bst, Nat.le_trans (app_segs hA) (Nat.succ_le_succ h.alen), Nat.le_trans (app_segs hB) (Nat.succ_le_succ h.blen), by rw [hA.all, List.length_append, h.num]; rfl, ?_, by rw [hB.size, hA.size, h.size], ?_, ?_⟩
  · obtain ⟨u, hu⟩ := seg_name hA.ok hs
    rw [hu, hpa]; exact hfar u
  · rw [hpa] at hg ⊢; rw [← (hfar u).2]; exact hg
  · rw [hA.next, sb_en]; omega
  · rw [hB.used, hA.used, hn]; have := h.used; omega
  · have := hA.len; have := hB.len; have := h.len; omega
end Go.Proofs.YtglhoenjflpibaaGreatDoor

/- Chapter 6: a log of some batches, in plain Lean. -/
namespace Go.Proofs.YtglhoenjflpibaaGreatDoor
open Go Go.Sp

structure Filled (i : Nat) (l : Lx) (d : Dk) : Prop where
  ok : l.ok d
  dok : d.ok
  own : Own l d
  full : Full l d
  short : Short d
  pre : l.pre = [112]
  base : baseOf l = 0
  start : l.start = 0
  high : l.high = 0
  num : l.all.length = i
  nx : l.next ≤ 20 * i
  size : d.size = 2000000
  used : d.used ≤ 228 * i
  len : d.fs.length ≤ 1 + i
  segs : l.segs.length ≤ i + 1
  nums : (d.get (metaOf [112])).isSome = false
theorem Filled.next0 {i l d} (h : Filled i l d) : 0 ≤ l.next := by have := h.ok.start; rw [h.start] at this; exact this.2.2
theorem Filled.begin {most : Int} {l : Lx} {d : Dk} (h : OpenTo [112] most (Dk.mk 2000000 []) l d) : Filled 0 l d :=
  ⟨h.ok, h.dok, h.own, h.full, h.short prep (dk0_short _), h.pre, h.base', h.start, h.high, by rw [h.all]; rfl, by rw [h.next]; decide, h.size, by rw [h.used]; exact Nat.le_refl _, h.len, Nat.le_of_eq h.segs, by rw [(h.far _ fun u hu e => nameOf_meta (by omega) e.symm).2]; rfl⟩
theorem Filled.step {i k : Nat} {l l' : Lx} {d d' : Dk} (h : Filled i l d) (hA : AppTo l d (sb k l.next) l' d') (hk1 : 1 ≤ k) (hk : k ≤ 20) (hi : i ≤ 60) : Filled (i + 1) l' d' := by
  have hn0 := h.next0
  have hnx := h.nx
  have he : (enc (sb k l.next)).length ≤ 228 := Nat.le_trans (sb_enc hk1 (by omega) hn0 (by omega)) (by omega)
  refine ⟨hA.ok, hA.dok, hA.own, hA.full h.full, hA.short h.ok.pre h.short, hA.pre.trans h.pre, hA.base.trans h.base, hA.start.trans h.start, hA.high.trans h.high, by rw [hA.all, List.length_append, h.num]; rfl, by rw [hA.next, sb_en]; omega, hA.size.trans h.size, ?_, ?_, Nat.le_trans (app_segs hA) (Nat.succ_le_succ h.segs), by rw [(hA.far _ fun u hu e => nameOf_meta (by omega) ((h.pre ▸ e).symm)).2]; exact h.nums⟩
  · rw [hA.used]; have := h.used; omega
  · have := hA.len; have := h.len; omega
theorem keep_zero {l : List Bat} (hg : ∀ b ∈ l, b.good) : keepN 0 l = l := List.filter_eq_self.2 fun b hb => decide_eq_true (by have h1 := (hg b hb).base; have h2 := (hg b hb).lt; omega)
theorem keep_keep {n m : Int} (h : n ≤ m) (l : List Bat) : keepN m (keepN n l) = keepN m l := by
  unfold keepN; rw [List.filter_filter]
  exact List.filter_congr fun b _ => by
    by_cases hb : m < b.en
    · simp [hb, show n < b.en by omega]
    · simp [hb]
theorem keep_eq {n m : Int} (h : n ≤ m) {a b : List Bat} (e : keepN n a = keepN n b) : keepN m a = keepN m b := by rw [← keep_keep h a, e, keep_keep h b]
theorem len_next : ∀ {n : Int} {l : List Bat}, Chain n l → (∀ b ∈ l, b.good) → (l.length : Int) ≤ nextOf n l - n
  | n, [], _, _ => by show (0 : Int) ≤ n - n; omega
  | n, b :: l, hc, hg => by
    have h1 := len_next hc.2 fun x hx => hg x (.tail _ hx)
    have h2 := (hg b (.head _)).lt
    have h3 : b.base = n := hc.1
    rw [List.length_cons]
    show ((l.length + 1 : Nat) : Int) ≤ nextOf b.en l - n
    omega
theorem Lx.ok.all_le {l : Lx} {d : Dk} (h : l.ok d) : (l.all.length : Int) ≤ l.next := by
  have h1 := len_next h.chain h.good
  have h2 := h.nextOf
  have h3 := h.base0
  omega
theorem flat_le4 {l : List Bat} (hg : ∀ b ∈ l, b.good) : (flat l).length ≤ l.length * 4096 := by
  unfold flat; exact flat_le l fun b hb => (hg b hb).enc_le
theorem read_all {l : Lx} {d : Dk} (h : l.ok d) (hn : l.next ≤ 2000) (off : Int) : goR off 10000000 0 [] l.all = keepN off l.all := by
  have h1 := h.all_le
  have h2 := flat_le4 h.good
  rw [goR_all _ _ _ (by omega), List.nil_append]; rfl
theorem keep_snoc {off : Int} {l : List BatM} {i : Nat} {y : BatM} (hy : l[i]? = some y) : keepN off ((l.take (i + 1)).map (·.1)) = keepN off ((l.take i).map (·.1)) ++ keepN off [y.1] := by
  rw [maps_take hy, keepN_app]
theorem all_at {l : List BatM} {m : List Bat} (h : l.map (·.1) = m) {i : Nat} {y : BatM} (hy : l[i]? = some y) : y.1 ∈ m := by rw [← h]; exact List.mem_map_of_mem (List.mem_of_getElem? hy)
theorem mem_base {l : Lx} {d : Dk} (h : l.ok d) {b : Bat} (hb : b ∈ l.all) : baseOf l ≤ b.base ∧ b.base ≤ l.next := by
  obtain ⟨i, hi⟩ := List.getElem?_of_mem hb
  have h1 := (h.chain.at hi).1
  have h2 := h.chain.mono h.good (i := 0) (j := i) (Nat.zero_le _)
  have h3 := chain_en h.chain h.good b hb
  have h4 := h.nextOf
  have h5 := (h.good b hb).lt
  have h6 : nextOf (baseOf l) (l.all.take 0) = baseOf l := rfl
  omega
theorem bal64 {l : Lx} {d : Dk} (h : l.ok d) {bl : List BatM} {m : List Bat} (e : bl.map (·.1) = m) (hs : ∀ b ∈ m, b ∈ l.all) : ∀ y ∈ bl, y.1.recs.length ≤ 64 := fun y hy => (h.good _ (hs _ (by rw [← e]; exact List.mem_map_of_mem hy))).recs64
theorem goR_sub {off most : Int} {l : List Bat} : ∀ b ∈ goR off most 0 [] l, b ∈ l := fun b hb => by
  obtain ⟨m, hm, _⟩ := goR_form (off := off) (most := most) l 0 []
  rw [hm, List.nil_append] at hb
  exact (List.mem_filter.1 (List.mem_of_mem_take hb)).1
theorem keep_sub {n : Int} {l : List Bat} : ∀ b ∈ keepN n l, b ∈ l := fun b hb => (List.mem_filter.1 hb).1
theorem len_map {bl : List BatM} {m : List Bat} (h : bl.map (·.1) = m) : bl.length = m.length := by rw [← h, List.length_map]
theorem map_get {bl : List BatM} {m : List Bat} (h : bl.map (·.1) = m) {i : Nat} {y : BatM} (hy : bl[i]? = some y) : m[i]? = some y.1 := by rw [← h, List.getElem?_map, hy]; rfl
theorem goR_len {off most : Int} {l : List Bat} : (goR off most 0 [] l).length ≤ l.length := by
  obtain ⟨m, hm, _⟩ := goR_form (off := off) (most := most) l 0 []
  rw [hm, List.nil_append, List.length_take]
  exact Nat.le_trans (Nat.min_le_right _ _) (keep_len _ _)
end Go.Proofs.YtglhoenjflpibaaGreatDoor

/- Chapter 6: a log that is cut and gone on with, in plain Lean. -/
namespace Go.Proofs.YtglhoenjflpibaaGreatDoor
open Go Go.Sp

theorem cut_take {off : Int} : ∀ {n : Int} {l : List Bat}, Chain n l → (∀ b ∈ l, b.good) → ∀ (j : Nat), (∀ b ∈ l.take j, b.en ≤ off) → (∀ b, l[j]? = some b → ¬ b.en ≤ off) → cutN off l = l.take j
  | _, [], _, _, j, _, _ => by rw [List.take_nil]; rfl
  | n, b :: l, hc, hg, 0, _, h2 => by
    have hb := h2 b rfl
    refine List.filter_eq_nil_iff.2 fun x hx => ?_
    have : ¬ x.en ≤ off := by
      rcases List.mem_cons.1 hx with rfl | hx
      · exact hb
      · obtain ⟨i, hi⟩ := List.getElem?_of_mem hx
        have h1 := (hc.2.at hi).1
        have h2 := hc.2.mono (fun y hy => hg y (.tail _ hy)) (i := 0) (j := i) (Nat.zero_le _)
        have h3 : nextOf b.en (l.take 0) = b.en := rfl
        have h4 := (hg x (.tail _ hx)).lt
        omega
    simpa using this
  | n, b :: l, hc, hg, j + 1, h1, h2 => by
    have hb : b.en ≤ off := h1 b (by rw [List.take_succ_cons]; exact .head _)
    have ih := cut_take hc.2 (fun x hx => hg x (.tail _ hx)) j (fun x hx => h1 x (by rw [List.take_succ_cons]; exact .tail _ hx)) fun x hx => h2 x (by rw [List.getElem?_cons_succ]; exact hx)
    rw [List.take_succ_cons, ← ih]
    exact List.filter_cons_of_pos (by simpa using hb)
theorem cut_pre {off : Int} : ∀ {n : Int} {l : List Bat}, Chain n l → (∀ b ∈ l, b.good) → ∃ j, cutN off l = l.take j
  | _, [], _, _ => ⟨0, rfl⟩
  | n, b :: l, hc, hg => by
    by_cases h : b.en ≤ off
    · obtain ⟨j, hj⟩ := cut_pre (off := off) hc.2 fun x hx => hg x (.tail _ hx)
      exact ⟨j + 1, by rw [List.take_succ_cons, ← hj]; exact List.filter_cons_of_pos (by simpa using h)⟩
    · exact ⟨0, cut_take hc hg 0 (fun _ hx => by cases hx) fun x hx => by cases hx; exact h⟩
theorem cut_len (n : Int) (l : List Bat) : (cutN n l).length ≤ l.length := List.length_filter_le ..
theorem Filled.cut {i : Nat} {l : Lx} {d : Dk} (h : Filled i l d) {at' : Int} (h0 : 0 ≤ at') : l.start ≤ nextOf (baseOf l) (cutN at' l.all) ∧ nextOf (baseOf l) (cutN at' l.all) ≤ at' := by
  rw [h.start, h.base]
  have hc := h.ok.chain
  rw [h.base] at hc
  obtain ⟨j, hj⟩ := cut_pre (off := at') hc h.ok.good
  refine ⟨?_, nextOf_off h0 fun b hb => by simpa using (List.mem_filter.1 hb).2⟩
  rw [hj]
  exact nextOf_le (hc.take j) fun b hb => h.ok.good b (List.mem_of_mem_take hb)
/-- A log behind a cut, with so many batches more. -/
structure Gone (i : Nat) (l : Lx) (d : Dk) : Prop where
  ok : l.ok d
  dok : d.ok
  own : Own l d
  start : l.start = 0
  num : l.all.length ≤ 60 + i
  nx : l.next ≤ 1200 + 9 * i
  size : d.size = 2000000
  used : d.used ≤ 13680 + 140 * i
  len : d.fs.length ≤ 61 + i
  segs : l.segs.length ≤ 61 + i
theorem Gone.next0 {i l d} (h : Gone i l d) : 0 ≤ l.next := by have := h.ok.start; rw [h.start] at this; exact this.2.2
theorem Gone.begin {i : Nat} {l q : Lx} {d e : Dk} {at' : Int} (h : Filled i l d) (hi : i ≤ 60) (hC : CutTo l d at' q e) (h0 : 0 ≤ at') : Gone 0 q e ∧ q.next ≤ at' ∧ (at' ≤ l.next → q.next ≤ 1200) := by
  have hn : q.next = nextOf (baseOf l) (cutN at' l.all) := by rw [← hC.ok.nextOf, hC.all, hC.base]
  have h1 := h.cut h0
  have h2 := h.nx
  have h3 : nextOf (baseOf l) (cutN at' l.all) ≤ l.next := by
    rw [← h.ok.nextOf]
    refine nextOf_off (nextOf_le h.ok.chain h.ok.good) fun b hb => chain_en h.ok.chain h.ok.good b (List.mem_filter.1 hb).1
  refine ⟨⟨hC.ok, hC.dok, hC.own h.own, hC.start.trans h.start, ?_, by omega, hC.size.trans h.size, ?_, ?_, ?_⟩, by omega, fun _ => by omega⟩
  · rw [hC.all]; have := cut_len at' l.all; rw [h.num] at this; omega
  · have := hC.used; have := h.used; omega
  · have := hC.len; have := h.len; omega
  · have := hC.num; have := h.segs; omega
theorem Gone.step {i k : Nat} {l l' : Lx} {d d' : Dk} (h : Gone i l d) (hA : AppTo l d (sb k l.next) l' d') (hk1 : 1 ≤ k) (hk : k ≤ 9) (hi : i ≤ 30) : Gone (i + 1) l' d' := by
  have hn0 := h.next0
  have hnx := h.nx
  have he : (enc (sb k l.next)).length ≤ 140 := Nat.le_trans (sb_enc hk1 (by omega) hn0 (by omega)) (by omega)
  refine ⟨hA.ok, hA.dok, hA.own, hA.start.trans h.start, by rw [hA.all, List.length_append]; have := h.num; simp; omega, by rw [hA.next, sb_en]; omega, hA.size.trans h.size, ?_, ?_, by have := app_segs hA; have := h.segs; omega⟩
  · rw [hA.used]; have := h.used; omega
  · have := hA.len; have := h.len; omega
theorem take_le {l : List Bat} {u : Int} {j : Nat} {b : Bat} (h : ∀ x ∈ l.take j, x.en ≤ u) (hb : l[j]? = some b) (hu : b.en ≤ u) : ∀ x ∈ l.take (j + 1), x.en ≤ u := fun x hx => by
  rw [List.take_add_one, hb] at hx
  rcases List.mem_append.1 hx with hx | hx
  · exact h x hx
  · rw [List.mem_singleton.1 hx]; exact hu
theorem go_T {wl : List BatM} {j : Nat} {y : BatM} (hy : wl[j]? = some y) (n : Int) : decide (y.1.en ≤ n) = decide (∃ y, wl[j]? = some y ∧ y.1.en ≤ n) :=
  decide_eq_decide.2 ⟨fun h => ⟨y, hy, h⟩, fun ⟨z, hz, h⟩ => by rw [hy] at hz; cases hz; exact h⟩
theorem go_F {wl : List BatM} {j : Nat} (h : ¬ j < wl.length) (n : Int) : false = decide (∃ y, wl[j]? = some y ∧ y.1.en ≤ n) :=
  (decide_eq_false fun ⟨y, hy, _⟩ => h (List.getElem?_eq_some_iff.1 hy).1).symm
end Go.Proofs.YtglhoenjflpibaaGreatDoor

/- Chapter 6: what a crash leaves, in plain Lean. -/
namespace Go.Proofs.YtglhoenjflpibaaGreatDoor
open Go Go.Sp

def Crashed (f g : Fl) : Prop := ∃ z, f.safe ≤ z ∧ z ≤ f.b.length ∧ g = ⟨f.b.take z, z⟩
structure CrashI (d : Dk) (done : List Nm) (e : Dk) : Prop where
  dok : e.ok
  size : e.size = d.size
  keys : e.fs.map (·.1) = d.fs.map (·.1)
  used : e.used ≤ d.used
  did : ∀ n ∈ done, Crashed (d.file n) (e.file n)
  left : ∀ n, n ∉ done → e.file n = d.file n
theorem mset_keys {d : Dk} {n : Nm} {f : Fl} (h : (d.get n).isSome = true) : (mset d.fs n f).map (·.1) = d.fs.map (·.1) := by
  unfold mset
  have h1 := mget_mem (Dk.get_some.1 h)
  rw [if_pos (List.any_eq_true.2 ⟨_, h1, by simp⟩), List.map_map]
  refine List.map_congr_left fun p _ => ?_
  simp only [Function.comp]
  split <;> rfl
theorem CrashI.get {d e : Dk} {done : List Nm} (h : CrashI d done e) (n : Nm) : (e.get n).isSome = true ↔ (d.get n).isSome = true := by rw [get_in, get_in, h.keys]
theorem CrashI.begin {d : Dk} (hd : d.ok) : CrashI d [] d := ⟨hd, rfl, rfl, Nat.le_refl _, fun _ h => (by cases h), fun _ _ => rfl⟩
theorem CrashI.keep {d e : Dk} {done : List Nm} (h : CrashI d done e) {n : Nm} (hn : n ∉ done) (hm : (d.file n).safe = (d.file n).b.length) : CrashI d (done ++ [n]) e := by
  refine ⟨h.dok, h.size, h.keys, h.used, fun m hm' => ?_, fun m hm' => h.left m fun hx => hm' (List.mem_append_left _ hx)⟩
  rcases List.mem_append.1 hm' with hx | hx
  · exact h.did m hx
  · rw [List.mem_singleton.1 hx, h.left n hn]
    refine ⟨(d.file n).b.length, by omega, Nat.le_refl _, ?_⟩
    rw [List.take_length, ← hm]
theorem CrashI.step {d e : Dk} {done : List Nm} (h : CrashI d done e) {n : Nm} {z : Nat} (hn : n ∉ done) (hg : (d.get n).isSome = true) (h1 : (d.file n).safe ≤ z) (h2 : z ≤ (d.file n).b.length) : CrashI d (done ++ [n]) (e.put n ⟨(d.file n).b.take z, z⟩) := by
  have hl := h.left n hn
  have hge := (h.get n).2 hg
  have hu := Dk.used_put h.dok n ⟨(d.file n).b.take z, z⟩
  rw [hl] at hu
  dsimp only at hu
  have ht : ((d.file n).b.take z).length = z := by rw [List.length_take]; omega
  refine ⟨Dk.ok_put h.dok (by dsimp only; rw [hl, ht]; have := h.dok.used; omega) (by dsimp only; omega), h.size, (mset_keys hge).trans h.keys, by have := h.used; omega, fun m hm => ?_, fun m hm => ?_⟩
  · rcases List.mem_append.1 hm with hx | hx
    · rw [(Dk.file_put_ne _ _ (fun e => hn (e ▸ hx) : m ≠ n)).1]; exact h.did m hx
    · rw [List.mem_singleton.1 hx, Dk.file_put]
      exact ⟨z, h1, h2, rfl⟩
  · rw [(Dk.file_put_ne _ _ (fun e => hm (e ▸ List.mem_append_right _ (.head _)) : m ≠ n)).1]
    exact h.left m fun hx => hm (List.mem_append_left _ hx)
structure CrashTo (d e : Dk) : Prop where
  dok : e.ok
  size : e.size = d.size
  keys : e.fs.map (·.1) = d.fs.map (·.1)
  used : e.used ≤ d.used
  file : ∀ n, Crashed (d.file n) (e.file n)
  get : ∀ n, (e.get n).isSome = (d.get n).isSome
theorem CrashI.all {d e : Dk} {done : List Nm} (h : CrashI d done e) (hd : d.ok) (ha : ∀ n, n ∈ d.fs.map (·.1) → n ∈ done) : CrashTo d e := by
  refine ⟨h.dok, h.size, h.keys, h.used, fun n => ?_, fun n => Bool.eq_iff_iff.2 (h.get n)⟩
  by_cases hn : n ∈ done
  · exact h.did n hn
  · rw [h.left n hn]
    have hz : d.file n = fl0 := Dk.file_none (Bool.eq_false_iff.2 fun hs => hn (ha n (get_in.1 hs)))
    rw [hz]; exact ⟨0, Nat.le_refl _, Nat.le_refl _, rfl⟩
theorem row_tail {a : Option Addr} {x : Int} {kl : List Int} {kc : Nat} {w : World} {b o : Nat} (ha : a = some ⟨b, o, none⟩) (h : RowAt a ((x :: kl).flatMap icI) w) (hc : kl.length + 1 ≤ kc) : RowAt (if kc = 1 then a else a.map (·.add (1 * 1))) (kl.flatMap icI) w := by
  subst ha
  rcases h with h | ⟨b', o', ho, hcl⟩
  · cases h
  · cases ho
    by_cases h0 : kl = []
    · exact .inl (by rw [h0]; rfl)
    · have : 0 < kl.length := List.length_pos_iff.2 h0
      rw [if_neg (by omega)]
      have h1 := hcl.sub 1 (kl.flatMap icI).length
      have e : (((x :: kl).flatMap icI).drop 1).take (kl.flatMap icI).length = kl.flatMap icI := by rw [List.flatMap_cons]; show (kl.flatMap icI).take _ = _; rw [List.take_length]
      rw [e] at h1
      exact .inr ⟨b, o + 1, rfl, h1⟩
end Go.Proofs.YtglhoenjflpibaaGreatDoor

/- Chapter 6: what was kept is read as it was, in plain Lean. -/
namespace Go.Proofs.YtglhoenjflpibaaGreatDoor
open Go Go.Sp

theorem dec_ne (u : Nat) : Lib.decDigits u ≠ [] := by
  rw [Lib.decDigits]; split <;> simp
/-- The first digit is no zero, unless it is the number. -/
theorem dec_head : ∀ (u : Nat) (c : UInt8) (l : List UInt8), Lib.decDigits u = c :: l → c = 48 → u = 0 := fun u => by
  induction u using Nat.strongRecOn with
  | _ u ih =>
    intro c l h hc
    rw [Lib.decDigits] at h
    split at h
    · rename_i h1
      cases h
      have h2 := congrArg UInt8.toNat hc
      rw [dig_nat h1] at h2
      have : (48 : UInt8).toNat = 48 := rfl
      omega
    · rename_i h1
      cases e : Lib.decDigits (u / 10) with
      | nil => exact absurd e (dec_ne _)
      | cons x t =>
        rw [e] at h
        cases h
        have := ih (u / 10) (by omega) _ _ e hc
        omega
theorem dec_zero : Lib.decDigits 0 = [48] := by rw [Lib.decDigits]; rfl
theorem digit_32 : ¬ digit 32 := fun h => by have := h.1; have e : (32 : UInt8).toNat = 32 := rfl; omega
theorem cut_mt (z w : Nat) : Lib.cut (Lib.decDigits z ++ [32] ++ Lib.decDigits w) [32] = (Lib.decDigits z, Lib.decDigits w, true) := by
  have hi : Lib.index (Lib.decDigits z ++ [32] ++ Lib.decDigits w) [32] = ((Lib.decDigits z).length : Nat) := by
    refine Lib.index_first (by simp only [List.length_append]; omega) ?_ fun j hj => ?_
    · unfold Lib.occAt; rw [List.append_assoc, List.drop_left]; simp
    · refine Bool.eq_false_iff.2 fun h => ?_
      have h1 := Lib.occAt_head rfl h
      rw [List.append_assoc, List.getElem?_append_left hj] at h1
      exact digit_32 (dec_digit z _ (List.mem_of_getElem? h1))
  unfold Lib.cut
  rw [if_pos (by rw [hi]; omega), hi]
  refine Prod.ext ?_ (Prod.ext ?_ rfl)
  · show (Lib.decDigits z ++ [32] ++ Lib.decDigits w).take ((Lib.decDigits z).length : Int).toNat = _
    rw [Int.toNat_natCast, List.append_assoc, List.take_left]
  · show (Lib.decDigits z ++ [32] ++ Lib.decDigits w).drop (((Lib.decDigits z).length : Int).toNat + 1) = _
    rw [Int.toNat_natCast]
    exact List.drop_left' (by simp)
theorem suf_mt (z w : Nat) : Lib.hasSuffix (mt z w) [10] = true ∧ Lib.trimSuffix (mt z w) [10] = Lib.decDigits z ++ [32] ++ Lib.decDigits w := by
  have h : Lib.hasSuffix (mt z w) [10] = true := List.isSuffixOf_iff_suffix.2 (List.suffix_append _ _)
  refine ⟨h, ?_⟩
  unfold Lib.trimSuffix
  rw [if_pos h]
  unfold mt
  rw [List.length_append, Nat.add_sub_cancel, List.take_left]
end Go.Proofs.YtglhoenjflpibaaGreatDoor

namespace Go.Proofs.YtglhoenjflpibaaGreatDoor
open Go Go.Sp

set_option linter.unusedVariables false

namespace log19
theorem fd42_1 : FD Tryz.prog 42 1 1 := .of Tryz.underlying42 (by kernel_rfl)
theorem na24 : NotAgg Tryz.prog 24 := ⟨_, Tryz.underlying24, trivial⟩
theorem fd42_2 : FD Tryz.prog 42 2 2 := .of Tryz.underlying42 (by kernel_rfl)
theorem na9 : NotAgg Tryz.prog 9 := ⟨_, Tryz.underlying9, trivial⟩
theorem fd42_4 : FD Tryz.prog 42 4 4 := .of Tryz.underlying42 (by kernel_rfl)
theorem ts3 : TS Tryz.prog 3 1 := .of (by kernel_rfl)
theorem fd42_5 : FD Tryz.prog 42 5 5 := .of Tryz.underlying42 (by kernel_rfl)
theorem na3 : NotAgg Tryz.prog 3 := ⟨_, Tryz.underlying3, trivial⟩
end log19
open log19

theorem u8_48 {c : UInt8} (h : decide (((c.toNat : Nat) : Int) = 48) = true) : c = 48 := by
  have h1 := of_decide_eq_true h
  exact UInt8.toNat_inj.1 (by have : (48 : UInt8).toNat = 48 := rfl; omega)

set_option maxHeartbeats 4000000 in
set_option maxRecDepth 20000 in
theorem number_ok (z : Nat) (hz : z ≤ 1000000000) : Cn Tryz.prog 62 [.string (str (Lib.decDigits z))] (fun _ => True) [] fun v G => v = .tuple #[.int .i64 (z : Nat), .bool true] ∧ G = [] := by
  refine .enter Tryz.func62 rfl (by kernel_rfl) rfl fun R k => ?_
  have hdl := dec_len (u := z) (by omega)
  have hne := dec_ne z
  obtain ⟨c, r, hcr⟩ := List.exists_cons_of_ne_nil hne
  refine .seq ?_
  refine .region ?_
  refine .rd (.assign rfl) ?_
  refine .rd (.assign rfl) ?_
  refine .nil ?_
  refine .seq ?_
  refine .seq ?_
  refine .region ?_
  refine .rd (.move rfl) ?_
  refine .rd (.eqT (m := []) rfl rfl) ?_
  refine .alter (t := 7) (v' := .bool false) rfl (congrArg Value.bool (decide_eq_false hne)) ?_
  refine .rd (.move rfl) ?_
  refine .on (t := 8) rfl rfl ?_
  refine .rd (.move rfl) ?_
  refine .on (t := 8) rfl rfl ?_
  refine .rd (.lenT rfl rfl Tryz.underlying9 rfl) ?_
  refine .on (t := 8) rfl rfl ?_
  refine .rd (.gt rfl rfl) ?_
  refine .alter (t := 11) (v' := .bool false) rfl (congrArg Value.bool (decide_eq_false (by omega))) ?_
  refine .rd (.pickF rfl rfl) ?_
  refine .rd (.move rfl) ?_
  refine .on (t := 13) rfl rfl ?_
  refine .rd (.move rfl) ?_
  refine .on (t := 13) rfl rfl ?_
  refine .fn rfl rfl .nil (fun _ _ _ => trivial) (trim_ok (Lib.decDigits z) dig10 (by omega) (by decide) (by decide)) (fun v G1 hq => ?_)
  obtain ⟨rfl, rfl⟩ := hq
  simp only [List.nil_append]
  refine .on (t := 13) rfl rfl ?_
  refine .rd (.neT (m := []) rfl rfl) ?_
  refine .alter (t := 16) (v' := .bool false) rfl (congrArg Value.bool (by rw [decide_eq_true (trim_nil.2 fun c hc => digit_dig10 (dec_digit z c hc))]; rfl)) ?_
  refine .rd (.pickF rfl rfl) ?_
  refine .rd (.move rfl) ?_
  refine .on (t := 18) rfl rfl ?_
  refine .rd (.move rfl) ?_
  refine .on (t := 18) rfl rfl ?_
  refine .rd (.indexT (b := c) Tryz.underlying9 rfl rfl (by decide) (by rw [hcr]; rfl)) ?_
  refine .on (t := 18) rfl rfl ?_
  refine .rd (.eqI rfl rfl) ?_
  refine .on (t := 18) rfl rfl ?_
  refine .rd (.move rfl) ?_
  refine .split (t := 22) rfl (fun g16 => ?_) (fun g16 => ?_)
  · have hz0 : z = 0 := dec_head z c r hcr (u8_48 g16)
    refine .on (t := 22) rfl rfl ?_
    refine .rd (.move rfl) ?_
    refine .on (t := 22) rfl rfl ?_
    refine .rd (.neT (m := [48]) rfl rfl) ?_
    refine .alter (t := 24) (v' := .bool false) rfl (congrArg Value.bool (by rw [hz0, decide_eq_true dec_zero]; rfl)) ?_
    refine .on (t := 18) rfl rfl ?_
    refine .rd (.pickT rfl rfl) ?_
    refine .rd (.pickF rfl rfl) ?_
    refine .nil ?_
    refine .condF rfl ?_
    refine .skip ?_
    refine .seq ?_
    refine .region ?_
    refine .rd (.move rfl) ?_
    refine .fn rfl rfl .nil (fun _ _ _ => trivial) (atoi_ok (Lib.decDigits z) (dec_ne z) (dec_digit z) (by omega)) (fun v G1 hq => ?_)
    obtain ⟨rfl, rfl⟩ := hq
    simp only [List.nil_append]
    refine .alter (t := 29) (v' := .tuple #[.int .i64 (z : Nat), .nilIface]) rfl (by rw [val_dec]) ?_
    refine .rd (.move rfl) ?_
    refine .rd (.extract rfl rfl) ?_
    refine .rd (.extract rfl rfl) ?_
    refine .rd (.assign rfl) ?_
    refine .rd (.assign rfl) ?_
    refine .nil ?_
    refine .seq ?_
    refine .region ?_
    refine .rd (.move rfl) ?_
    refine .rd (.move rfl) ?_
    refine .rd (.eqNilI Tryz.underlying101 rfl) ?_
    refine .rd (.move rfl) ?_
    refine .on (t := 35) rfl rfl ?_
    refine .rd (.move rfl) ?_
    refine .on (t := 35) rfl rfl ?_
    refine .rd (.le rfl rfl) ?_
    refine .alter (t := 37) (v' := .bool true) rfl (congrArg Value.bool (decide_eq_true (by omega))) ?_
    refine .rd (.pickT rfl rfl) ?_
    refine .rd (.assign rfl) ?_
    refine .rd (.assign rfl) ?_
    refine .nil ?_
    refine .retP Tryz.func62 (.cons (.tmp rfl) (.cons (.tmp rfl) .nil)) (.cons .head .nil) ?_
    exact ⟨[], ⟨rfl, rfl⟩, rfl⟩
  · replace g16 := of_decide_eq_false g16
    refine .off (t := 22) rfl rfl rfl ?_
    refine .off (t := 22) rfl rfl rfl ?_
    refine .on (t := 18) rfl rfl ?_
    refine .rd (.pickF rfl rfl) ?_
    refine .rd (.pickF rfl rfl) ?_
    refine .nil ?_
    refine .condF rfl ?_
    refine .skip ?_
    refine .seq ?_
    refine .region ?_
    refine .rd (.move rfl) ?_
    refine .fn rfl rfl .nil (fun _ _ _ => trivial) (atoi_ok (Lib.decDigits z) (dec_ne z) (dec_digit z) (by omega)) (fun v G1 hq => ?_)
    obtain ⟨rfl, rfl⟩ := hq
    simp only [List.nil_append]
    refine .alter (t := 29) (v' := .tuple #[.int .i64 (z : Nat), .nilIface]) rfl (by rw [val_dec]) ?_
    refine .rd (.move rfl) ?_
    refine .rd (.extract rfl rfl) ?_
    refine .rd (.extract rfl rfl) ?_
    refine .rd (.assign rfl) ?_
    refine .rd (.assign rfl) ?_
    refine .nil ?_
    refine .seq ?_
    refine .region ?_
    refine .rd (.move rfl) ?_
    refine .rd (.move rfl) ?_
    refine .rd (.eqNilI Tryz.underlying101 rfl) ?_
    refine .rd (.move rfl) ?_
    refine .on (t := 35) rfl rfl ?_
    refine .rd (.move rfl) ?_
    refine .on (t := 35) rfl rfl ?_
    refine .rd (.le rfl rfl) ?_
    refine .alter (t := 37) (v' := .bool true) rfl (congrArg Value.bool (decide_eq_true (by omega))) ?_
    refine .rd (.pickT rfl rfl) ?_
    refine .rd (.assign rfl) ?_
    refine .rd (.assign rfl) ?_
    refine .nil ?_
    refine .retP Tryz.func62 (.cons (.tmp rfl) (.cons (.tmp rfl) .nil)) (.cons .head .nil) ?_
    exact ⟨[], ⟨rfl, rfl⟩, rfl⟩

set_option maxHeartbeats 4000000 in
set_option maxRecDepth 20000 in
theorem kept1_ok (lb db mb : Nat) (d : Dk) (p : Option Addr) (pre : Nm) (most start high : Int) (la : Option Addr) (n lc : Nat) (z w : Nat) (hp : Pre pre) (hm : (d.get (metaOf pre)).isSome = true) (hf : (d.file (metaOf pre)).b = mt z w) (hz : z ≤ 1000000000) (hw : w ≤ 1000000000) (hzw : z ≤ w) : Cn Tryz.prog 30 [.pointer (some ⟨lb, 0, none⟩)] LV [blk lb (lcells p db pre most start high la n lc) 42, blk db (d.cells mb) 60, mp nmv Fl.val mb d.fs] fun v G => v = .bool true ∧ G = [blk lb (lcells p db pre most (z : Int) (w : Int) la n lc) 42, blk db (d.cells mb) 60, mp nmv Fl.val mb d.fs] := by
  refine .enter Tryz.func30 rfl (by kernel_rfl) rfl fun R k => ?_
  have h3 := hp.len
  have h1 := dec_len (u := z) (by omega)
  have h2 := dec_len (u := w) (by omega)
  have h4 := mt_len hz hw
  refine .seq ?_
  refine .region ?_
  refine .rd (.assign rfl) ?_
  refine .nil ?_
  refine .seq ?_
  refine .draws [3, 7] [blk lb (lcells p db pre most start high la n lc) 42] (by kernel_rfl) ?_
  refine .rp 0 rfl (by kernel_rfl) (by kernel_rfl) (by kernel_rfl) (Reads.pure (.move rfl)) ?_
  refine .rp 1 rfl (by kernel_rfl) (by kernel_rfl) (by kernel_rfl) (Reads.pure (.nilCheck rfl)) ?_
  refine .rp 2 rfl (by kernel_rfl) (by kernel_rfl) (by kernel_rfl) (Reads.pure (.fieldAddr fd42_1 rfl)) ?_
  refine .rd 3 rfl rfl (by kernel_rfl) (by kernel_rfl) (by kernel_rfl) (.ld na24 rfl .head rfl) (.cons .head .nil) ?_
  refine .rp 4 rfl (by kernel_rfl) (by kernel_rfl) (by kernel_rfl) (Reads.pure (.move rfl)) ?_
  refine .rp 5 rfl (by kernel_rfl) (by kernel_rfl) (by kernel_rfl) (Reads.pure (.nilCheck rfl)) ?_
  refine .rp 6 rfl (by kernel_rfl) (by kernel_rfl) (by kernel_rfl) (Reads.pure (.fieldAddr fd42_2 rfl)) ?_
  refine .rd 7 rfl rfl (by kernel_rfl) (by kernel_rfl) (by kernel_rfl) (.ld na9 rfl .head rfl) (.cons .head .nil) ?_
  refine .rp 8 rfl (by kernel_rfl) (by kernel_rfl) (by kernel_rfl) (Reads.pure (.catT (l := pre) (m := [46, 109, 101, 116, 97]) rfl rfl (by (repeat rw [List.length_append]); simp only [List.length_cons, List.length_nil]; omega))) ?_
  refine .alter (t := 20) (v' := .string (str (metaOf pre))) rfl (rfl) ?_
  refine .ef 9 (by kernel_rfl) rfl (.fn rfl rfl (.cons (.tail .head) (.cons (.tail .head) .nil)) (fun _ _ _ => trivial) (Read_ok db mb d (metaOf pre))) ?_
  rintro v _ ⟨G1, hq, rfl⟩
  obtain ⟨rfl, rfl⟩ := hq
  simp only [List.cons_append, List.nil_append]
  refine ⟨.inl (by kernel_rfl), ?_⟩
  refine .alter (t := 21) (v' := .tuple #[.string (str (mt z w)), .int .i64 0]) rfl (by rw [if_pos hm, hf]) ?_
  refine .rp 10 rfl (by kernel_rfl) (by kernel_rfl) (by kernel_rfl) (Reads.pure (.move rfl)) ?_
  refine .rp 11 rfl (by kernel_rfl) (by kernel_rfl) (by kernel_rfl) (Reads.pure (.extract rfl rfl)) ?_
  refine .rp 12 rfl (by kernel_rfl) (by kernel_rfl) (by kernel_rfl) (Reads.pure (.extract rfl rfl)) ?_
  refine .rp 13 rfl (by kernel_rfl) (by kernel_rfl) (by kernel_rfl) (Reads.pure (.assign rfl)) ?_
  refine .rp 14 rfl (by kernel_rfl) (by kernel_rfl) (by kernel_rfl) (Reads.pure (.assign rfl)) ?_
  refine .done (by kernel_rfl) ?_
  refine .seq ?_
  refine .seq ?_
  refine .region ?_
  refine .rd (.move rfl) ?_
  refine .rd (.neI rfl rfl) ?_
  refine .alter (t := 25) (v' := .bool false) rfl (congrArg Value.bool (by rfl)) ?_
  refine .nil ?_
  refine .condF rfl ?_
  refine .skip ?_
  refine .seq ?_
  refine .region ?_
  refine .rd (.move rfl) ?_
  refine .fn rfl rfl .nil (fun _ _ _ => trivial) (cuts_ok (mt z w) [10] (by omega)) (fun v G1 hq => ?_)
  obtain ⟨rfl, rfl⟩ := hq
  simp only [List.nil_append]
  refine .alter (t := 28) (v' := .tuple #[.string (str (Lib.decDigits z ++ [32] ++ Lib.decDigits w)), .bool true]) rfl (by rw [(suf_mt z w).1, (suf_mt z w).2]) ?_
  refine .rd (.move rfl) ?_
  refine .rd (.extract rfl rfl) ?_
  refine .rd (.extract rfl rfl) ?_
  refine .rd (.assign rfl) ?_
  refine .rd (.assign rfl) ?_
  refine .nil ?_
  refine .seq ?_
  refine .region ?_
  refine .rd (.move rfl) ?_
  refine .fn rfl rfl .nil (Knows.pick (.tail (.tail (.tail .head))) k) (cut_ok (Lib.decDigits z ++ [32] ++ Lib.decDigits w) [32] (by simp only [List.length_append, List.length_cons, List.length_nil]; omega)) (fun v G1 hq => ?_)
  obtain ⟨rfl, rfl⟩ := hq
  simp only [List.nil_append]
  refine .alter (t := 33) (v' := .tuple #[.string (str (Lib.decDigits z)), .string (str (Lib.decDigits w)), .bool true]) rfl (by rw [cut_mt]) ?_
  refine .rd (.move rfl) ?_
  refine .rd (.extract rfl rfl) ?_
  refine .rd (.extract rfl rfl) ?_
  refine .rd (.extract rfl rfl) ?_
  refine .rd (.assign rfl) ?_
  refine .rd (.assign rfl) ?_
  refine .rd (.assign rfl) ?_
  refine .nil ?_
  refine .seq ?_
  refine .region ?_
  refine .rd (.assign rfl) ?_
  refine .rd (.assign rfl) ?_
  refine .nil ?_
  refine .seq ?_
  refine .region ?_
  refine .rd (.move rfl) ?_
  refine .rd (.move rfl) ?_
  refine .fn rfl rfl .nil (fun _ _ _ => trivial) (number_ok z (by omega)) (fun v G1 hq => ?_)
  obtain ⟨rfl, rfl⟩ := hq
  simp only [List.nil_append]
  refine .rd (.move rfl) ?_
  refine .rd (.extract rfl rfl) ?_
  refine .rd (.extract rfl rfl) ?_
  refine .rd (.nilCheck rfl) ?_
  refine .rd (.fieldAddr fd42_4 rfl) ?_
  refine .ef0 (.store ts3 rfl rfl (.tail (.tail .head)) rfl (Nat.le_of_ble_eq_true rfl)) ?_
  rintro _ _ rfl
  refine .rd (.assign rfl) ?_
  refine .nil ?_
  refine .seq ?_
  refine .region ?_
  refine .rd (.move rfl) ?_
  refine .rd (.move rfl) ?_
  refine .fn rfl rfl .nil (fun _ _ _ => trivial) (number_ok w (by omega)) (fun v G1 hq => ?_)
  obtain ⟨rfl, rfl⟩ := hq
  simp only [List.nil_append]
  refine .rd (.move rfl) ?_
  refine .rd (.extract rfl rfl) ?_
  refine .rd (.extract rfl rfl) ?_
  refine .rd (.nilCheck rfl) ?_
  refine .rd (.fieldAddr fd42_5 rfl) ?_
  refine .ef0 (.store ts3 rfl rfl .head rfl (Nat.le_of_ble_eq_true rfl)) ?_
  rintro _ _ rfl
  refine .rd (.assign rfl) ?_
  refine .nil ?_
  refine .cast (X' := blk lb (lcells p db pre most (z : Int) (w : Int) la n lc) 42) (rfl) ?_
  refine .seq ?_
  refine .draws [14, 18] [blk lb (lcells p db pre most (z : Int) (w : Int) la n lc) 42] (by kernel_rfl) ?_
  refine .rp 0 rfl (by kernel_rfl) (by kernel_rfl) (by kernel_rfl) (Reads.pure (.move rfl)) ?_
  refine .rp 1 rfl (by kernel_rfl) (by kernel_rfl) (by kernel_rfl) (Reads.pure (.move rfl)) ?_
  refine .rpG 2 (t := 54) rfl rfl rfl (by kernel_rfl) (by kernel_rfl) (by kernel_rfl) (Reads.pure (.move rfl)) ?_
  refine .rp 3 rfl (by kernel_rfl) (by kernel_rfl) (by kernel_rfl) (Reads.pure (.pickT rfl rfl)) ?_
  refine .rp 4 rfl (by kernel_rfl) (by kernel_rfl) (by kernel_rfl) (Reads.pure (.move rfl)) ?_
  refine .rpG 5 (t := 57) rfl rfl rfl (by kernel_rfl) (by kernel_rfl) (by kernel_rfl) (Reads.pure (.move rfl)) ?_
  refine .rp 6 rfl (by kernel_rfl) (by kernel_rfl) (by kernel_rfl) (Reads.pure (.pickT rfl rfl)) ?_
  refine .rp 7 rfl (by kernel_rfl) (by kernel_rfl) (by kernel_rfl) (Reads.pure (.move rfl)) ?_
  refine .rpG 8 (t := 60) rfl rfl rfl (by kernel_rfl) (by kernel_rfl) (by kernel_rfl) (Reads.pure (.move rfl)) ?_
  refine .rp 9 rfl (by kernel_rfl) (by kernel_rfl) (by kernel_rfl) (Reads.pure (.pickT rfl rfl)) ?_
  refine .rp 10 rfl (by kernel_rfl) (by kernel_rfl) (by kernel_rfl) (Reads.pure (.move rfl)) ?_
  refine .rpG 11 (t := 63) rfl rfl rfl (by kernel_rfl) (by kernel_rfl) (by kernel_rfl) (Reads.pure (.move rfl)) ?_
  refine .rpG 12 (t := 63) rfl rfl rfl (by kernel_rfl) (by kernel_rfl) (by kernel_rfl) (Reads.pure (.nilCheck rfl)) ?_
  refine .rpG 13 (t := 63) rfl rfl rfl (by kernel_rfl) (by kernel_rfl) (by kernel_rfl) (Reads.pure (.fieldAddr fd42_4 rfl)) ?_
  refine .rdG 14 (t := 63) rfl rfl rfl rfl (by kernel_rfl) (by kernel_rfl) (by kernel_rfl) (.ld na3 rfl .head rfl) (.cons .head .nil) ?_
  refine .rpG 15 (t := 63) rfl rfl rfl (by kernel_rfl) (by kernel_rfl) (by kernel_rfl) (Reads.pure (.move rfl)) ?_
  refine .rpG 16 (t := 63) rfl rfl rfl (by kernel_rfl) (by kernel_rfl) (by kernel_rfl) (Reads.pure (.nilCheck rfl)) ?_
  refine .rpG 17 (t := 63) rfl rfl rfl (by kernel_rfl) (by kernel_rfl) (by kernel_rfl) (Reads.pure (.fieldAddr fd42_5 rfl)) ?_
  refine .rdG 18 (t := 63) rfl rfl rfl rfl (by kernel_rfl) (by kernel_rfl) (by kernel_rfl) (.ld na3 rfl .head rfl) (.cons .head .nil) ?_
  refine .rpG 19 (t := 63) rfl rfl rfl (by kernel_rfl) (by kernel_rfl) (by kernel_rfl) (Reads.pure (.le rfl rfl)) ?_
  refine .alter (t := 72) (v' := .bool true) rfl (congrArg Value.bool (decide_eq_true (by omega))) ?_
  refine .rp 20 rfl (by kernel_rfl) (by kernel_rfl) (by kernel_rfl) (Reads.pure (.pickT rfl rfl)) ?_
  refine .rp 21 rfl (by kernel_rfl) (by kernel_rfl) (by kernel_rfl) (Reads.pure (.assign rfl)) ?_
  refine .done (by kernel_rfl) ?_
  refine .cast (X' := blk lb (lcells p db pre most (z : Int) (w : Int) la n lc) 42) (rfl) ?_
  refine .retP Tryz.func30 (.cons (.tmp rfl) .nil) (.cons .head (.cons .head (.cons .head (.cons .head .nil)))) ?_
  exact ⟨[_, _, _], ⟨rfl, rfl⟩, rfl⟩

set_option maxHeartbeats 4000000 in
set_option maxRecDepth 20000 in
theorem kept00_ok (lb db mb : Nat) (d : Dk) (p : Option Addr) (pre : Nm) (most start high : Int) (la : Option Addr) (n lc : Nat) (hp : Pre pre) (hm : (d.get (metaOf pre)).isSome = false) : Cn Tryz.prog 30 [.pointer (some ⟨lb, 0, none⟩)] LV [blk lb (lcells p db pre most start high la n lc) 42, blk db (d.cells mb) 60, mp nmv Fl.val mb d.fs] fun v G => v = .bool true ∧ G = [blk lb (lcells p db pre most start high la n lc) 42, blk db (d.cells mb) 60, mp nmv Fl.val mb d.fs] := by
  refine .enter Tryz.func30 rfl (by kernel_rfl) rfl fun R k => ?_
  have h3 := hp.len
  refine .seq ?_
  refine .region ?_
  refine .rd (.assign rfl) ?_
  refine .nil ?_
  refine .seq ?_
  refine .draws [3, 7] [blk lb (lcells p db pre most start high la n lc) 42] (by kernel_rfl) ?_
  refine .rp 0 rfl (by kernel_rfl) (by kernel_rfl) (by kernel_rfl) (Reads.pure (.move rfl)) ?_
  refine .rp 1 rfl (by kernel_rfl) (by kernel_rfl) (by kernel_rfl) (Reads.pure (.nilCheck rfl)) ?_
  refine .rp 2 rfl (by kernel_rfl) (by kernel_rfl) (by kernel_rfl) (Reads.pure (.fieldAddr fd42_1 rfl)) ?_
  refine .rd 3 rfl rfl (by kernel_rfl) (by kernel_rfl) (by kernel_rfl) (.ld na24 rfl .head rfl) (.cons .head .nil) ?_
  refine .rp 4 rfl (by kernel_rfl) (by kernel_rfl) (by kernel_rfl) (Reads.pure (.move rfl)) ?_
  refine .rp 5 rfl (by kernel_rfl) (by kernel_rfl) (by kernel_rfl) (Reads.pure (.nilCheck rfl)) ?_
  refine .rp 6 rfl (by kernel_rfl) (by kernel_rfl) (by kernel_rfl) (Reads.pure (.fieldAddr fd42_2 rfl)) ?_
  refine .rd 7 rfl rfl (by kernel_rfl) (by kernel_rfl) (by kernel_rfl) (.ld na9 rfl .head rfl) (.cons .head .nil) ?_
  refine .rp 8 rfl (by kernel_rfl) (by kernel_rfl) (by kernel_rfl) (Reads.pure (.catT (l := pre) (m := [46, 109, 101, 116, 97]) rfl rfl (by (repeat rw [List.length_append]); simp only [List.length_cons, List.length_nil]; omega))) ?_
  refine .alter (t := 20) (v' := .string (str (metaOf pre))) rfl (rfl) ?_
  refine .ef 9 (by kernel_rfl) rfl (.fn rfl rfl (.cons (.tail .head) (.cons (.tail .head) .nil)) (fun _ _ _ => trivial) (Read_ok db mb d (metaOf pre))) ?_
  rintro v _ ⟨G1, hq, rfl⟩
  obtain ⟨rfl, rfl⟩ := hq
  simp only [List.cons_append, List.nil_append]
  refine ⟨.inl (by kernel_rfl), ?_⟩
  refine .alter (t := 21) (v' := .tuple #[.string (str (d.file (metaOf pre)).b), .int .i64 8]) rfl (by rw [if_neg (by rw [hm]; decide)]) ?_
  refine .rp 10 rfl (by kernel_rfl) (by kernel_rfl) (by kernel_rfl) (Reads.pure (.move rfl)) ?_
  refine .rp 11 rfl (by kernel_rfl) (by kernel_rfl) (by kernel_rfl) (Reads.pure (.extract rfl rfl)) ?_
  refine .rp 12 rfl (by kernel_rfl) (by kernel_rfl) (by kernel_rfl) (Reads.pure (.extract rfl rfl)) ?_
  refine .rp 13 rfl (by kernel_rfl) (by kernel_rfl) (by kernel_rfl) (Reads.pure (.assign rfl)) ?_
  refine .rp 14 rfl (by kernel_rfl) (by kernel_rfl) (by kernel_rfl) (Reads.pure (.assign rfl)) ?_
  refine .done (by kernel_rfl) ?_
  refine .seq ?_
  refine .seq ?_
  refine .region ?_
  refine .rd (.move rfl) ?_
  refine .rd (.neI rfl rfl) ?_
  refine .alter (t := 25) (v' := .bool true) rfl (congrArg Value.bool (by rfl)) ?_
  refine .nil ?_
  refine .condT rfl ?_
  refine .seq ?_
  refine .region ?_
  refine .rd (.assign rfl) ?_
  refine .nil ?_
  refine .retP Tryz.func30 (.cons (.tmp rfl) .nil) (.cons (.tail (.tail .head)) (.cons .head (.cons .head (.cons .head .nil)))) ?_
  exact ⟨[_, _, _], ⟨rfl, rfl⟩, rfl⟩

end Go.Proofs.YtglhoenjflpibaaGreatDoor


/- Chapter 6: what Open finds, in plain Lean. -/
namespace Go.Proofs.YtglhoenjflpibaaGreatDoor
open Go Go.Sp

/-- What a segment's file holds: its base, its batches, what is torn. -/
abbrev Piece := Nat × List Bat × List UInt8
structure Holds (pre : Nm) (d : Dk) (p : Piece) : Prop where
  le : p.1 ≤ 1000000000
  get : (d.get (nameOf pre p.1)).isSome = true
  file : (d.file (nameOf pre p.1)).b = flat p.2.1 ++ p.2.2
  stop : p.2.2 = [] ∨ (readBatch p.2.2).2.2 ≠ 0
  chain : Chain (p.1 : Int) p.2.1
  good : ∀ b ∈ p.2.1, b.good
  len : p.2.1.length ≤ 4096
/-- One behind the other. -/
def LinkP : Int → List Piece → Prop
  | _, [] => True
  | n, p :: r => (p.1 : Int) = n ∧ LinkP (nextOf (p.1 : Int) p.2.1) r
def endP (n : Int) (L : List Piece) : Int := L.foldl (fun _ p => nextOf (p.1 : Int) p.2.1) n
structure Found (pre : Nm) (d : Dk) (L : List Piece) (z w : Nat) : Prop where
  holds : ∀ p ∈ L, Holds pre d p
  bases : basesOf pre (sorted (d.fs.map (·.1))) = L.map (·.1)
  nodup : (L.map (·.1)).Nodup
  link : ∃ n : Int, n ≤ z ∧ LinkP n L
  ne : ∀ i p, i + 1 < L.length → L[i]? = some p → p.2.1 ≠ []
  len : L.length ≤ 1000
  next : ∀ p, L.getLast? = some p → (z : Int) ≤ nextOf (p.1 : Int) p.2.1
  nonil : L ≠ []
  zw : z ≤ w ∧ w ≤ 1000000000
  nums : (z = 0 ∧ w = 0 ∧ (d.get (metaOf pre)).isSome = false) ∨ ((d.get (metaOf pre)).isSome = true ∧ (d.file (metaOf pre)).b = mt z w)
def sig (s : Sx) : Int × Nm × List Bat := (s.base, s.nm, s.bs)
def sigP (pre : Nm) (p : Piece) : Int × Nm × List Bat := ((p.1 : Int), nameOf pre p.1, p.2.1)
structure OpenI (pre : Nm) (d : Dk) (L : List Piece) (i : Nat) (ss : List Sx) (e : Dk) : Prop where
  sigs : ss.map sig = (L.take i).map (sigP pre)
  ok : ∀ s ∈ ss, s.ok
  dok : e.ok
  size : e.size = d.size
  used : e.used ≤ d.used
  get : ∀ n, (e.get n).isSome = (d.get n).isSome
  did : ∀ p ∈ L.take i, e.file (nameOf pre p.1) = ⟨flat p.2.1, (flat p.2.1).length⟩
  left : ∀ n, (∀ p ∈ L.take i, n ≠ nameOf pre p.1) → e.file n = d.file n
theorem OpenI.begin (pre : Nm) {d : Dk} (hd : d.ok) (L : List Piece) : OpenI pre d L 0 [] d := ⟨rfl, fun _ h => (by cases h), hd, rfl, Nat.le_refl _, fun _ => rfl, fun _ h => (by cases h), fun _ _ => rfl⟩
theorem OpenI.here {pre : Nm} {d : Dk} {L : List Piece} {i : Nat} {ss : List Sx} {e : Dk} (h : OpenI pre d L i ss e) (hnd : (L.map (·.1)).Nodup) {p : Piece} (hp : L[i]? = some p) : e.file (nameOf pre p.1) = d.file (nameOf pre p.1) := by
  refine h.left _ fun q hq e => ?_
  have hpq := nameOf_inj e
  obtain ⟨j, hj⟩ := List.getElem?_of_mem hq
  have hji : j < i := by have := (List.getElem?_eq_some_iff.1 hj).1; rw [List.length_take] at this; omega
  rw [List.getElem?_take, if_pos hji] at hj
  have h1 : (L.map (·.1))[j]? = some q.1 := by rw [List.getElem?_map, hj]; rfl
  have h2 : (L.map (·.1))[i]? = some p.1 := by rw [List.getElem?_map, hp]; rfl
  obtain ⟨a1, a2⟩ := List.getElem?_eq_some_iff.1 h1
  obtain ⟨b1, b2⟩ := List.getElem?_eq_some_iff.1 h2
  exact (List.pairwise_iff_getElem.1 hnd j i a1 b1 hji) (a2.trans (hpq.symm.trans b2.symm))
theorem OpenI.step {pre : Nm} {d : Dk} {L : List Piece} {i : Nat} {ss : List Sx} {e : Dk} (h : OpenI pre d L i ss e) (hnd : (L.map (·.1)).Nodup) {p : Piece} (hp : L[i]? = some p) (hh : Holds pre d p) {sb : Nat} {sm : List Nat} {aa : Option Addr} {ac : Nat} {ia : Option Addr} {ic : Nat} (hix : Ix sm p.2.1.length) (hca : p.2.1.length ≤ ac) : OpenI pre d L (i + 1) (ss ++ [Sx.mk sb (nameOf pre p.1) (p.1 : Int) p.2.1 sm aa ac ia ic]) (e.put (nameOf pre p.1) ⟨flat p.2.1, (flat p.2.1).length⟩) := by
  have hf := h.here hnd hp
  have hu := Dk.used_put h.dok (nameOf pre p.1) ⟨flat p.2.1, (flat p.2.1).length⟩
  rw [hf, hh.file, List.length_append] at hu
  dsimp only at hu
  have ht : L.take (i + 1) = L.take i ++ [p] := by rw [List.take_add_one, hp]; rfl
  refine ⟨?_, fun s hs => ?_, Dk.ok_put h.dok (by dsimp only; rw [hf, hh.file, List.length_append]; have := h.dok.used; omega) (Nat.le_refl _), h.size, by have := h.used; omega, fun n => ?_, fun q hq => ?_, fun n hn => ?_⟩
  · rw [List.map_append, h.sigs, ht, List.map_append]; rfl
  · rcases List.mem_append.1 hs with hs | hs
    · exact h.ok s hs
    · rw [List.mem_singleton.1 hs]
      exact ⟨by show (0 : Int) ≤ (p.1 : Int); omega, by show (p.1 : Int) ≤ 1000000000; have := hh.le; omega, hh.chain, hh.good, hh.len, hix, hca⟩
  · rw [Dk.get_put]
    split
    · rename_i e1; rw [e1, hh.get]; rfl
    · exact h.get n
  · rw [ht] at hq
    by_cases hx : nameOf pre q.1 = nameOf pre p.1
    · have hq1 := nameOf_inj hx
      rcases List.mem_append.1 hq with hq | hq
      · exfalso
        have := h.here hnd hp
        obtain ⟨j, hj⟩ := List.getElem?_of_mem hq
        have hji : j < i := by have := (List.getElem?_eq_some_iff.1 hj).1; rw [List.length_take] at this; omega
        rw [List.getElem?_take, if_pos hji] at hj
        have h1 : (L.map (·.1))[j]? = some q.1 := by rw [List.getElem?_map, hj]; rfl
        have h2 : (L.map (·.1))[i]? = some p.1 := by rw [List.getElem?_map, hp]; rfl
        obtain ⟨a1, a2⟩ := List.getElem?_eq_some_iff.1 h1
        obtain ⟨b1, b2⟩ := List.getElem?_eq_some_iff.1 h2
        exact (List.pairwise_iff_getElem.1 hnd j i a1 b1 hji) (a2.trans (hq1.trans b2.symm))
      · rw [List.mem_singleton.1 hq, Dk.file_put]
    · rw [(Dk.file_put_ne _ _ hx).1]
      rcases List.mem_append.1 hq with hq | hq
      · exact h.did q hq
      · rw [List.mem_singleton.1 hq] at hx; exact absurd rfl hx
  · rw [(Dk.file_put_ne _ _ (hn p (by rw [ht]; exact List.mem_append_right _ (.head _)))).1]
    exact h.left n fun q hq => hn q (by rw [ht]; exact List.mem_append_left _ hq)
theorem linkP_of (pre : Nm) : ∀ {n : Int} {L : List Piece} {ss : List Sx}, LinkP n L → ss.map sig = L.map (sigP pre) → Link n ss
  | _, [], [], _, _ => trivial
  | _, p :: L, s :: ss, h, e => by
    obtain ⟨e1, e2⟩ := List.cons.inj e
    have e3 : s.base = (p.1 : Int) := congrArg (·.1) e1
    have e4 : s.bs = p.2.1 := congrArg (·.2.2) e1
    refine ⟨e3.trans h.1, ?_⟩
    have := linkP_of pre h.2 e2
    show Link (nextOf s.base s.bs) ss
    rw [e3, e4]; exact this
/-- The next base is where the segment ahead ends. -/
theorem linkP_next : ∀ {n : Int} {L : List Piece} {i : Nat} {p q : Piece}, LinkP n L → L[i]? = some p → L[i + 1]? = some q → (q.1 : Int) = nextOf (p.1 : Int) p.2.1
  | _, x :: L, 0, p, q, h, hp, hq => by
    cases hp
    cases L with
    | nil => cases hq
    | cons y L => cases hq; exact h.2.1
  | _, x :: L, i + 1, p, q, h, hp, hq => linkP_next (i := i) h.2 hp hq
theorem OpenI.len {pre : Nm} {d : Dk} {L : List Piece} {i : Nat} {ss : List Sx} {e : Dk} (h : OpenI pre d L i ss e) (hi : i ≤ L.length) : ss.length = i := by
  have := congrArg List.length h.sigs
  rw [List.length_map, List.length_map, List.length_take] at this; omega
theorem OpenI.at {pre : Nm} {d : Dk} {L : List Piece} {i : Nat} {ss : List Sx} {e : Dk} (h : OpenI pre d L i ss e) {j : Nat} {s : Sx} (hs : ss[j]? = some s) : ∃ p, (L.take i)[j]? = some p ∧ s.base = (p.1 : Int) ∧ s.nm = nameOf pre p.1 ∧ s.bs = p.2.1 := by
  have h1 := congrArg (fun l => l[j]?) h.sigs
  simp only [List.getElem?_map, hs, Option.map_some] at h1
  obtain ⟨p, hp, e1⟩ := Option.map_eq_some_iff.1 h1.symm
  exact ⟨p, hp, (congrArg (·.1) e1).symm, (congrArg (·.2.1) e1).symm, (congrArg (·.2.2) e1).symm⟩
theorem OpenI.last {pre : Nm} {d : Dk} {L : List Piece} {i : Nat} {r : List Sx} {y : Sx} {e : Dk} (h : OpenI pre d L i (r ++ [y]) e) (hi : i ≤ L.length) : ∃ p, L[i - 1]? = some p ∧ 0 < i ∧ y.base = (p.1 : Int) ∧ y.nm = nameOf pre p.1 ∧ y.bs = p.2.1 := by
  have hl := h.len hi
  rw [List.length_append] at hl
  have hl' : r.length + 1 = i := hl
  obtain ⟨p, hp, h1, h2, h3⟩ := h.at (j := r.length) (s := y) (by simp)
  rw [List.getElem?_take, if_pos (by omega)] at hp
  exact ⟨p, by rw [show i - 1 = r.length by omega]; exact hp, by omega, h1, h2, h3⟩
/-- The log that Open makes. -/
theorem OpenI.log {pre : Nm} {d : Dk} {L : List Piece} {z w : Nat} {ss r : List Sx} {y : Sx} {e : Dk} (h : OpenI pre d L L.length ss e) (hF : Found pre d L z w) (hp : Pre pre) (hs : ss = r ++ [y]) {most : Int} (h1 : 256 ≤ most) (h2 : most ≤ 1000000) (lb : Nat) (la : Option Addr) (lc : Nat) : (Lx.mk lb pre most z (min (w : Int) y.next) r y la lc).ok e := by
  have hll := h.len (Nat.le_refl _)
  have hsig := h.sigs
  rw [List.take_length] at hsig
  obtain ⟨n, hn, hlk⟩ := hF.link
  have hlk2 := linkP_of pre hlk hsig
  subst hs
  obtain ⟨p, hpl, hpos, e1, e2, e3⟩ := h.last (Nat.le_refl _)
  have hz : (z : Int) ≤ y.next := by
    show (z : Int) ≤ nextOf y.base y.bs
    rw [e1, e3]
    exact hF.next p (by rw [List.getLast?_eq_getElem?]; exact hpl)
  have hb : baseOf (Lx.mk lb pre most z (min (w : Int) y.next) r y la lc) = n := by
    unfold baseOf Lx.segs
    cases r with
    | nil => exact hlk2.1
    | cons x r => exact hlk2.1
  have hzw := hF.zw
  refine ⟨hp, fun s hs => ?_, by rw [hb]; exact hlk2, fun s hs => ?_, ⟨by show (0 : Int) ≤ (z : Int); omega, by rw [hb]; exact hn, hz⟩, ⟨by show (z : Int) ≤ min (w : Int) y.next; omega, by show min (w : Int) y.next ≤ y.next; omega⟩, ⟨h1, h2⟩, by show (r ++ [y]).length ≤ _; rw [hll]; have := hF.len; omega⟩
  · obtain ⟨j, hj⟩ := List.getElem?_of_mem hs
    obtain ⟨q, hq, f1, f2, f3⟩ := h.at (ss := r ++ [y]) (j := j) hj
    rw [List.take_length] at hq
    have hqm := List.mem_of_getElem? hq
    have hh := hF.holds q hqm
    have hd := h.did q (by rw [List.take_length]; exact hqm)
    refine ⟨h.ok s hs, by rw [f2, f1]; rfl, by rw [f2, h.get]; exact hh.get, by rw [f2, hd, f3]⟩
  · obtain ⟨j, hj⟩ := List.getElem?_of_mem hs
    have hjr : j < r.length := (List.getElem?_eq_some_iff.1 hj).1
    obtain ⟨q, hq, f1, f2, f3⟩ := h.at (ss := r ++ [y]) (j := j) (by rw [List.getElem?_append_left hjr]; exact hj)
    rw [List.take_length] at hq
    rw [f3]
    rw [List.length_append] at hll
    exact hF.ne j q (by have : r.length + 1 = L.length := hll; omega) hq
def lastP (ss : List Sx) : Option Addr := ss.getLast?.map fun s => ⟨s.b, 0, none⟩
theorem lastP_snoc (r : List Sx) (y : Sx) : lastP (r ++ [y]) = some ⟨y.b, 0, none⟩ := by unfold lastP; rw [List.getLast?_append]; rfl
theorem Found.first {pre : Nm} {d : Dk} {L : List Piece} {z w : Nat} (h : Found pre d L z w) {p : Piece} (hp : L[0]? = some p) : (p.1 : Int) ≤ (z : Int) := by
  obtain ⟨n, hn, hlk⟩ := h.link
  cases L with
  | nil => cases hp
  | cons x r => cases hp; have := hlk.1; omega
theorem OpenI.ahead {pre : Nm} {d : Dk} {L : List Piece} {z w i : Nat} {ss : List Sx} {e : Dk} (h : OpenI pre d L i ss e) (hF : Found pre d L z w) (hil : i ≤ L.length) (hi : 0 < i) {p : Piece} (hp : L[i]? = some p) : ∃ r y, ss = r ++ [y] ∧ y ∈ ss ∧ lastP ss = some ⟨y.b, 0, none⟩ ∧ y.ok ∧ (p.1 : Int) = y.next := by
  have hsl := h.len hil
  obtain ⟨r, y, rfl⟩ : ∃ r y, ss = r ++ [y] := ⟨ss.dropLast, ss.getLast (fun h => by rw [h] at hsl; simp at hsl; omega), (List.dropLast_concat_getLast _).symm⟩
  have hyi : y ∈ r ++ [y] := by simp
  obtain ⟨q, hq, _, hqb, hqn, hqs⟩ := h.last hil
  refine ⟨r, y, rfl, hyi, lastP_snoc r y, h.ok y hyi, ?_⟩
  show (p.1 : Int) = nextOf y.base y.bs
  rw [hqb, hqs]
  obtain ⟨n, _, hlk⟩ := hF.link
  exact linkP_next (i := i - 1) hlk hq (by rw [show i - 1 + 1 = i by omega]; exact hp)
theorem OpenI.end_ {pre : Nm} {d : Dk} {L : List Piece} {z w : Nat} {ss : List Sx} {e : Dk} (h : OpenI pre d L L.length ss e) (hF : Found pre d L z w) : ∃ r y, ss = r ++ [y] ∧ y ∈ ss ∧ lastP ss = some ⟨y.b, 0, none⟩ ∧ y.ok ∧ (z : Int) ≤ y.next := by
  have hsl := h.len (Nat.le_refl _)
  have hpos : 0 < L.length := List.length_pos_iff.2 hF.nonil
  obtain ⟨r, y, rfl⟩ : ∃ r y, ss = r ++ [y] := ⟨ss.dropLast, ss.getLast (fun h => by rw [h] at hsl; simp at hsl; omega), (List.dropLast_concat_getLast _).symm⟩
  have hyi : y ∈ r ++ [y] := by simp
  obtain ⟨q, hq, _, hqb, hqn, hqs⟩ := h.last (Nat.le_refl _)
  refine ⟨r, y, rfl, hyi, lastP_snoc r y, h.ok y hyi, ?_⟩
  show (z : Int) ≤ nextOf y.base y.bs
  rw [hqb, hqs]
  exact hF.next q (by rw [List.getLast?_eq_getElem?]; exact hq)
structure Opened (pre : Nm) (d : Dk) (L : List Piece) (z w : Nat) (l : Lx) (ss : List Sx) (e : Dk) : Prop where
  ok : l.ok e
  open_ : OpenI pre d L L.length ss e
  segs : l.segs = ss
  start : l.start = (z : Int)
  high : l.high = min (w : Int) l.next
end Go.Proofs.YtglhoenjflpibaaGreatDoor

/- Chapter 3: torn bytes, in plain Lean. -/
namespace Go.Proofs.YtglhoenjflpibaaGreatDoor
open Go Go.Sp

theorem crc1_inj {c d : BitVec 32} (h : crc1 c = crc1 d) : c = d := by
  have top : ∀ x : BitVec 32, (x >>> 1).getLsbD 31 = false := fun x => by
    rw [BitVec.getLsbD_ushiftRight]; exact BitVec.getLsbD_of_ge _ _ (by omega)
  have poly : (2197175160#32).getLsbD 31 = true := by decide
  have par : ∀ x y : BitVec 32, x.toNat % 2 = 1 → y.toNat % 2 = 0 → crc1 x ≠ crc1 y := fun x y hx hy e => by
    rw [crc1_odd hx, crc1_even hy] at e
    have := congrArg (fun v => v.getLsbD 31) e
    simp only [BitVec.getLsbD_xor, top, poly] at this
    exact absurd this (by decide)
  have half : ∀ x y : BitVec 32, x.toNat % 2 = y.toNat % 2 → x >>> 1 = y >>> 1 → x = y := fun x y hp e => by
    have e1 := congrArg BitVec.toNat e
    simp only [BitVec.toNat_ushiftRight, Nat.shiftRight_eq_div_pow] at e1
    apply BitVec.eq_of_toNat_eq; omega
  rcases Nat.mod_two_eq_zero_or_one c.toNat with hc | hc <;> rcases Nat.mod_two_eq_zero_or_one d.toNat with hd | hd
  · rw [crc1_even hc, crc1_even hd] at h; exact half _ _ (by omega) h
  · exact absurd h.symm (par _ _ hd hc)
  · exact absurd h (par _ _ hc hd)
  · rw [crc1_odd hc, crc1_odd hd] at h
    refine half _ _ (by omega) ?_
    have := congrArg (· ^^^ 2197175160#32) h
    simpa [BitVec.xor_assoc] using this
theorem crcN_inj : ∀ (n : Nat) {c d : BitVec 32}, crcN n c = crcN n d → c = d
  | 0, _, _, h => h
  | n + 1, _, _, h => crc1_inj (crcN_inj n h)
theorem xor_inj {a b c : BitVec 32} (h : a ^^^ c = b ^^^ c) : a = b := by
  have := congrArg (· ^^^ c) h
  simpa [BitVec.xor_assoc] using this
theorem xor_inj' {a b c : BitVec 32} (h : c ^^^ a = c ^^^ b) : a = b := by
  rw [BitVec.xor_comm c a, BitVec.xor_comm c b] at h; exact xor_inj h
theorem crcB_inj {c d : BitVec 32} {b : UInt8} (h : crcB c b = crcB d b) : c = d := xor_inj (crcN_inj 8 h)
theorem crcB_inj' {c : BitVec 32} {a b : UInt8} (h : crcB c a = crcB c b) : a = b := by
  have h1 := congrArg BitVec.toNat (xor_inj' (crcN_inj 8 h))
  rw [BitVec.toNat_ofNat, BitVec.toNat_ofNat] at h1
  have ha := a.toNat_lt; have hb := b.toNat_lt
  exact UInt8.toNat_inj.1 (by omega)
theorem foldl_inj : ∀ (l : List UInt8) {c d : BitVec 32}, l.foldl crcB c = l.foldl crcB d → c = d
  | [], _, _, h => h
  | _ :: l, _, _, h => crcB_inj (foldl_inj l h)
theorem crc_set {l : List UInt8} {j : Nat} {x : UInt8} (hj : j < l.length) (hx : x ≠ l[j]) : (crc (l.set j x)).toNat ≠ (crc l).toNat := by
  intro h
  have h1 : crc (l.set j x) = crc l := BitVec.eq_of_toNat_eq h
  have h2 : crcS (l.set j x) = crcS l := BitVec.not_inj.1 h1
  have e1 : l.set j x = l.take j ++ x :: l.drop (j + 1) := List.set_eq_take_append_cons_drop.trans (if_pos hj)
  have e2 : l = l.take j ++ l[j] :: l.drop (j + 1) := by rw [List.getElem_cons_drop hj, List.take_append_drop]
  rw [e1] at h2
  rw [show crcS l = crcS (l.take j ++ l[j] :: l.drop (j + 1)) from congrArg crcS e2] at h2
  unfold crcS at h2
  rw [List.foldl_append, List.foldl_append, List.foldl_cons, List.foldl_cons] at h2
  exact hx (crcB_inj' (foldl_inj _ h2))
theorem xor_byte {x by_ : UInt8} (h : by_ ≠ 0) : x ^^^ by_ ≠ x := fun e => h (by
  have h1 : x ^^^ (x ^^^ by_) = x ^^^ x := congrArg (fun z => x ^^^ z) e
  rw [← UInt8.xor_assoc, UInt8.xor_self, UInt8.zero_xor] at h1
  exact h1)
theorem four_set {l : List UInt8} {j : Nat} {x : UInt8} (hl : 4 ≤ l.length) (hj : j < 4) (hx : x ≠ l[j]'(by omega)) : four (l.set j x) ≠ four l := by
  match l, hl with
  | a :: b :: c :: d :: t, _ =>
    have h1 := a.toNat_lt; have h2 := b.toNat_lt; have h3 := c.toNat_lt; have h4 := d.toNat_lt; have h5 := x.toNat_lt
    have hn : ∀ y : UInt8, x ≠ y → x.toNat ≠ y.toNat := fun y h e => h (UInt8.toNat_inj.1 e)
    match j, hj with
    | 0, _ => have := hn a hx; show x.toNat * 16777216 + b.toNat * 65536 + c.toNat * 256 + d.toNat ≠ a.toNat * 16777216 + b.toNat * 65536 + c.toNat * 256 + d.toNat; omega
    | 1, _ => have := hn b hx; show a.toNat * 16777216 + x.toNat * 65536 + c.toNat * 256 + d.toNat ≠ a.toNat * 16777216 + b.toNat * 65536 + c.toNat * 256 + d.toNat; omega
    | 2, _ => have := hn c hx; show a.toNat * 16777216 + b.toNat * 65536 + x.toNat * 256 + d.toNat ≠ a.toNat * 16777216 + b.toNat * 65536 + c.toNat * 256 + d.toNat; omega
    | 3, _ => have := hn d hx; show a.toNat * 16777216 + b.toNat * 65536 + c.toNat * 256 + x.toNat ≠ a.toNat * 16777216 + b.toNat * 65536 + c.toNat * 256 + d.toNat; omega
theorem four_take {l : List UInt8} {k : Nat} (hk : 4 ≤ k) (hl : 4 ≤ l.length) : four (l.take k) = four l := by
  match l, hl, k, hk with
  | a :: b :: c :: d :: t, _, k + 4, _ => rfl
theorem four_set' {l : List UInt8} {j : Nat} {x : UInt8} (hl : 4 ≤ l.length) (hj : 4 ≤ j) : four (l.set j x) = four l := by
  match l, hl, j, hj with
  | a :: b :: c :: d :: t, _, j + 4, _ => rfl

/-- What a written batch's bytes are. -/
theorem wbatch_is {b : Bat} (hr : right b = 0) : (wbatch b).1.length = 8 + (body b).length ∧ four (wbatch b).1 = (body b).length ∧ (wbatch b).1.drop 8 = body b ∧ four ((wbatch b).1.drop 4) = (crc (body b)).toNat ∧ (body b).length ≤ 4088 := by
  obtain ⟨_, hbl⟩ := right_zero hr
  have hcl : (crc (body b)).toNat < 4294967296 := (crc (body b)).isLt
  refine ⟨wbatch_len hr, ?_, ?_, ?_, hbl⟩
  · rw [wbatch_yes hr]; show four (fours (body b).length ++ fours (crc (body b)).toNat ++ body b) = _
    rw [List.append_assoc, four_fours (by omega)]
  · rw [wbatch_yes hr]; exact List.drop_left' rfl
  · rw [wbatch_yes hr]; show four ((fours (body b).length ++ fours (crc (body b)).toNat ++ body b).drop 4) = _
    rw [List.append_assoc, show (fours (body b).length ++ (fours (crc (body b)).toNat ++ body b)).drop 4 = fours (crc (body b)).toNat ++ body b from List.drop_left' rfl, four_fours hcl]
/-- Cut. -/
theorem torn_cut {b : Bat} (hr : right b = 0) {k : Nat} (hk : k < (wbatch b).1.length) : readBatch ((wbatch b).1.take k) = (zeroB, 0, 5) := by
  obtain ⟨h1, h2, h3, h4, h5⟩ := wbatch_is hr
  have hl : ((wbatch b).1.take k).length = k := by rw [List.length_take]; omega
  by_cases h8 : k < 8
  · exact readBatch_short (by omega)
  · have e : four ((wbatch b).1.take k) = (body b).length := by rw [four_take (by omega) (by omega), h2]
    exact readBatch_cut (by omega) (by omega) (by omega)
/-- Changed. -/
theorem torn_set {b : Bat} (hr : right b = 0) {k : Nat} {x : UInt8} (hk : k < (wbatch b).1.length) (h4k : 4 ≤ k) (hx : x ≠ (wbatch b).1[k]) : readBatch ((wbatch b).1.set k x) = (zeroB, 0, 6) := by
  obtain ⟨h1, h2, h3, h4, h5⟩ := wbatch_is hr
  have hl : ((wbatch b).1.set k x).length = (wbatch b).1.length := List.length_set
  have e : four ((wbatch b).1.set k x) = (body b).length := by rw [four_set' (by omega) h4k, h2]
  by_cases h8 : k < 8
  · have e8 : ((wbatch b).1.set k x).drop 8 = body b := by rw [List.drop_set, if_pos (by omega), h3]
    have e4 : ((wbatch b).1.set k x).drop 4 = ((wbatch b).1.drop 4).set (k - 4) x := by rw [List.drop_set, if_neg (by omega)]
    refine readBatch_sum (t := body b) (by omega) (by omega) (by omega) (by rw [e8, e, List.take_length]) ?_
    rw [e4, ← h4]
    refine fun h => four_set (l := (wbatch b).1.drop 4) (by rw [List.length_drop]; omega) (by omega) ?_ h.symm
    intro he; apply hx; rw [he, List.getElem_drop]; congr 1; omega
  · have e8 : ((wbatch b).1.set k x).drop 8 = (body b).set (k - 8) x := by rw [List.drop_set, if_neg (by omega), h3]
    have e4 : four (((wbatch b).1.set k x).drop 4) = (crc (body b)).toNat := by rw [List.drop_set, if_neg (by omega), four_set' (by rw [List.length_drop]; omega) (by omega), h4]
    refine readBatch_sum (t := (body b).set (k - 8) x) (by omega) (by omega) (by omega) (by rw [e8, e, List.take_of_length_le (by rw [List.length_set]; omega)]) ?_
    rw [e4]
    refine crc_set (by omega) ?_
    intro he; apply hx; rw [he]
    have := List.getElem_drop (xs := (wbatch b).1) (i := 8) (j := k - 8) (h := by rw [List.length_drop]; omega)
    simp only [h3] at this
    rw [this]; congr 1; omega
theorem wbatch_not {b : Bat} (h : (wbatch b).2 ≠ 0) : (wbatch b).1 = [] := by
  by_cases hr : right b = 0
  · rw [wbatch_yes hr] at h; exact absurd rfl h
  · rw [wbatch_no hr]
theorem wbatch_err (b : Bat) : (wbatch b).2 = right b := by
  by_cases hr : right b = 0
  · rw [wbatch_yes hr, hr]
  · rw [wbatch_no hr]
end Go.Proofs.YtglhoenjflpibaaGreatDoor

/- Chapter 6: a log behind a crash, in plain Lean. -/
namespace Go.Proofs.YtglhoenjflpibaaGreatDoor
open Go Go.Sp

theorem torn_flat : ∀ (bs : List Bat) (c : Nat), (∀ b ∈ bs, b.good) → c ≤ (flat bs).length → ∃ k rest, k ≤ bs.length ∧ (flat bs).take c = flat (bs.take k) ++ rest ∧ (rest = [] ∨ (readBatch rest).2.2 ≠ 0) ∧ ∀ m, m ≤ bs.length → (flat (bs.take m)).length ≤ c → m ≤ k
  | [], c, _, h => ⟨0, [], Nat.le_refl _, by simp [flat], .inl rfl, fun m hm _ => hm⟩
  | b :: bs, c, hg, h => by
    have hb := hg b (.head _)
    by_cases hc : c < (enc b).length
    · refine ⟨0, (enc b).take c, Nat.zero_le _, ?_, .inr ?_, fun m hm hl => ?_⟩
      · rw [flat_cons, List.take_append_of_le_length (Nat.le_of_lt hc)]; rfl
      · show (readBatch ((wbatch b).1.take c)).2.2 ≠ 0
        rw [torn_cut hb.right hc]; decide
      · cases m with
        | zero => exact Nat.le_refl _
        | succ m =>
          rw [List.take_succ_cons, flat_cons, List.length_append] at hl
          omega
    · rw [flat_cons, List.length_append] at h
      obtain ⟨k, rest, h1, h2, h3, h4⟩ := torn_flat bs (c - (enc b).length) (fun x hx => hg x (.tail _ hx)) (by omega)
      refine ⟨k + 1, rest, Nat.succ_le_succ h1, ?_, h3, fun m hm hl => ?_⟩
      · rw [flat_cons, List.take_succ_cons, flat_cons, List.append_assoc, ← h2, List.take_append, List.take_of_length_le (by omega)]
      · cases m with
        | zero => exact Nat.zero_le _
        | succ m =>
          rw [List.take_succ_cons, flat_cons, List.length_append] at hl
          exact Nat.succ_le_succ (h4 m (Nat.le_of_succ_le_succ hm) (by omega))
/-- How many of the batches that are written are safe. -/
def SafeAt (l : Lx) (d : Dk) (m : Nat) : Prop := m ≤ l.cur.bs.length ∧ (d.file l.cur.nm).safe = (flat (l.cur.bs.take m)).length
def safeN (l : Lx) (m : Nat) : Int := nextOf l.cur.base (l.cur.bs.take m)
def pieces (l : Lx) (k : Nat) (rest : List UInt8) : List Piece := l.ini.map (fun s => (s.base.toNat, s.bs, [])) ++ [(l.cur.base.toNat, l.cur.bs.take k, rest)]
theorem pieces_fst (l : Lx) (k rest) : (pieces l k rest).map (·.1) = l.segs.map fun s => s.base.toNat := by
  unfold pieces Lx.segs; rw [List.map_append, List.map_append, List.map_map]; rfl
theorem link_pieces : ∀ {n : Int} {r : List Sx} {c : Sx} {k : Nat} {rest : List UInt8}, Link n (r ++ [c]) → (∀ s ∈ r ++ [c], s.ok) → LinkP n (r.map (fun s => (s.base.toNat, s.bs, ([] : List UInt8))) ++ [(c.base.toNat, c.bs.take k, rest)])
  | n, [], c, k, rest, h, ho => ⟨by have := h.1; have := (ho c (.head _)).base0; show ((c.base.toNat : Nat) : Int) = n; omega, trivial⟩
  | n, x :: r, c, k, rest, h, ho => by
    have h0 := (ho x (.head _)).base0
    have e : ((x.base.toNat : Nat) : Int) = x.base := by omega
    refine ⟨e.trans h.1, ?_⟩
    show LinkP (nextOf ((x.base.toNat : Nat) : Int) x.bs) _
    rw [e]
    exact link_pieces (n := x.next) h.2 fun s hs => ho s (.tail _ hs)
theorem meta_far {l : Lx} {d : Dk} (hl : l.ok d) {s : Sx} (hs : s ∈ l.segs) : s.nm ≠ metaOf l.pre := by
  obtain ⟨c1, c2, _, _⟩ := hl.seg s hs
  rw [c2]; exact nameOf_meta (by have := c1.base0; have := c1.base1; omega)
theorem crashed_full {f g : Fl} (h : Crashed f g) (hs : f.safe = f.b.length) : g = f := by
  obtain ⟨z, h1, h2, rfl⟩ := h
  have : z = f.b.length := by omega
  subst this
  rw [List.take_length]
  cases f; simp at hs; simp [hs]
theorem found_crash {l : Lx} {d e : Dk} {z w m : Nat} (hl : l.ok d) (hd : d.ok) (ho : Own l d) (hf : Full l d) (hC : CrashTo d e) (hn : l.segs.length ≤ 1000) (hz : l.start = (z : Int)) (hzw : z ≤ w ∧ w ≤ 1000000000) (hnum : (z = 0 ∧ w = 0 ∧ (d.get (metaOf l.pre)).isSome = false) ∨ ((d.get (metaOf l.pre)).isSome = true ∧ d.file (metaOf l.pre) = ⟨mt z w, (mt z w).length⟩)) (hm : m ≤ l.cur.bs.length ∧ (flat (l.cur.bs.take m)).length ≤ (d.file l.cur.nm).safe) (hzs : (z : Int) ≤ safeN l m) : ∃ k rest, m ≤ k ∧ k ≤ l.cur.bs.length ∧ Found l.pre e (pieces l k rest) z w := by
  obtain ⟨c1, c2, c3, c4⟩ := hl.cur
  obtain ⟨t, ht1, ht2, ht3⟩ := hC.file l.cur.nm
  rw [c4] at ht2 ht3
  obtain ⟨k, rest, hk, hfl, hst, hmk⟩ := torn_flat l.cur.bs t c1.good ht2
  have hmk' := hmk m hm.1 (Nat.le_trans hm.2 ht1)
  have hcb := c1.base0
  have hcn : ((l.cur.base.toNat : Nat) : Int) = l.cur.base := by omega
  have hown : Own l e := fun u hu hg => ho u hu (by rw [← hC.get]; exact hg)
  have hini : ∀ s ∈ l.ini, e.file s.nm = d.file s.nm := fun s hs => crashed_full (hC.file s.nm) (hf s hs)
  have hok : ∀ s ∈ l.segs, s.ok := fun s hs => (hl.seg s hs).1
  have hbases : basesOf l.pre (sorted (e.fs.map (·.1))) = l.segs.map fun s => s.base.toNat := by rw [hC.keys]; exact own_bases hl hd ho
  refine ⟨k, rest, hmk', hk, fun p hp => ?_, by rw [hbases, pieces_fst], ?_, ⟨baseOf l, by have := hl.start; omega, link_pieces hl.link hok⟩, fun i p hi hp => ?_, ?_, fun p hp => ?_, by unfold pieces; simp, hzw, ?_⟩
  · rcases List.mem_append.1 hp with hp | hp
    · obtain ⟨s, hs, rfl⟩ := List.mem_map.1 hp
      obtain ⟨s1, s2, s3, s4⟩ := hl.seg s (List.mem_append_left _ hs)
      have h0 := s1.base0
      have hsn : ((s.base.toNat : Nat) : Int) = s.base := by omega
      refine ⟨by show s.base.toNat ≤ _; have := s1.base1; omega, by show (e.get (nameOf l.pre s.base.toNat)).isSome = true; rw [← s2, hC.get]; exact s3, ?_, .inl rfl, by show Chain ((s.base.toNat : Nat) : Int) s.bs; rw [hsn]; exact s1.chain, s1.good, s1.len⟩
      show (e.file (nameOf l.pre s.base.toNat)).b = flat s.bs ++ []
      rw [← s2, hini s hs, s4, List.append_nil]
    · rw [List.mem_singleton.1 hp]
      refine ⟨by show l.cur.base.toNat ≤ _; have := c1.base1; omega, by show (e.get (nameOf l.pre l.cur.base.toNat)).isSome = true; rw [← c2, hC.get]; exact c3, ?_, hst, by show Chain ((l.cur.base.toNat : Nat) : Int) (l.cur.bs.take k); rw [hcn]; exact c1.chain.take k, fun b hb => c1.good b (List.mem_of_mem_take hb), by show (l.cur.bs.take k).length ≤ 4096; rw [List.length_take]; have := c1.len; omega⟩
      show (e.file (nameOf l.pre l.cur.base.toNat)).b = flat (l.cur.bs.take k) ++ rest
      rw [← c2, ht3]; exact hfl
  · rw [pieces_fst, ← own_bases hl hd ho]
    exact (basesOf_up (sorted_up _) (sorted_nodup hd.nodup)).imp fun h => by omega
  · unfold pieces at hp hi
    rw [List.length_append, List.length_map] at hi
    have hi' : i < l.ini.length := by simp at hi; omega
    rw [List.getElem?_append_left (by rw [List.length_map]; exact hi'), List.getElem?_map] at hp
    obtain ⟨s, hs, rfl⟩ := Option.map_eq_some_iff.1 hp
    exact hl.ne s (List.mem_of_getElem? hs)
  · unfold pieces; rw [List.length_append, List.length_map]; unfold Lx.segs at hn; rw [List.length_append] at hn; exact hn
  · unfold pieces at hp
    rw [List.getLast?_append] at hp
    cases hp
    show (z : Int) ≤ nextOf ((l.cur.base.toNat : Nat) : Int) (l.cur.bs.take k)
    rw [hcn]
    have := c1.chain.mono c1.good hmk'
    unfold safeN at hzs
    omega
  · rcases hnum with ⟨h1, h2, h3⟩ | ⟨h1, h2⟩
    · exact .inl ⟨h1, h2, by rw [hC.get]; exact h3⟩
    · refine .inr ⟨by rw [hC.get]; exact h1, ?_⟩
      rw [crashed_full (hC.file _) (by rw [h2]), h2]
/-- What Open tells of the log ahead of the crash. -/
theorem opened_all {l l2 : Lx} {d e e2 : Dk} {k z w : Nat} {rest : List UInt8} {ss : List Sx} (hl : l.ok d) (h : Opened l.pre e (pieces l k rest) z w l2 ss e2) : l2.all = l.ini.flatMap (fun s => s.bs) ++ l.cur.bs.take k ∧ l2.next = safeN l k ∧ SafeAt l2 e2 l2.cur.bs.length := by
  have hsig := h.open_.sigs
  rw [List.take_length, ← h.segs] at hsig
  have hcb := hl.cur.1.base0
  have hcn : ((l.cur.base.toNat : Nat) : Int) = l.cur.base := by omega
  have e1 : (pieces l k rest).map (sigP l.pre) = l.ini.map (fun s => sigP l.pre (s.base.toNat, s.bs, [])) ++ [sigP l.pre (l.cur.base.toNat, l.cur.bs.take k, rest)] := by unfold pieces; rw [List.map_append, List.map_map]; rfl
  rw [e1] at hsig
  unfold Lx.segs at hsig
  rw [List.map_append] at hsig
  obtain ⟨h1, h2⟩ := List.append_inj' hsig rfl
  have h3 : sig l2.cur = sigP l.pre (l.cur.base.toNat, l.cur.bs.take k, rest) := (List.cons.inj h2).1
  have hb : l2.cur.base = l.cur.base := (congrArg (·.1) h3).trans hcn
  have hbs : l2.cur.bs = l.cur.bs.take k := congrArg (·.2.2) h3
  refine ⟨?_, ?_, Nat.le_refl _, ?_⟩
  · unfold Lx.all Lx.segs
    rw [List.flatMap_append]
    have h4 : l2.ini.flatMap (fun s => s.bs) = l.ini.flatMap (fun s => s.bs) := by
      have h5 := congrArg (fun L => (L.map fun x : Int × Nm × List Bat => x.2.2).flatten) h1
      simp only [List.map_map] at h5
      rw [List.flatMap_def, List.flatMap_def]
      exact h5
    rw [h4]; simp [hbs]
  · show nextOf l2.cur.base l2.cur.bs = nextOf l.cur.base (l.cur.bs.take k)
    rw [hb, hbs]
  · have hd := h.open_.did (l.cur.base.toNat, l.cur.bs.take k, rest) (by rw [List.take_length]; unfold pieces; simp)
    have hnm : l2.cur.nm = nameOf l.pre l.cur.base.toNat := congrArg (·.2.1) h3
    rw [hnm, hd, List.take_length, hbs]
end Go.Proofs.YtglhoenjflpibaaGreatDoor

namespace Go.Proofs.YtglhoenjflpibaaGreatDoor
open Go Go.Sp

set_option linter.unusedVariables false

namespace log11
theorem fd42_4 : FD Tryz.prog 42 4 4 := .of Tryz.underlying42 (by kernel_rfl)
theorem na3 : NotAgg Tryz.prog 3 := ⟨_, Tryz.underlying3, trivial⟩
theorem fd42_0 : FD Tryz.prog 42 0 0 := .of Tryz.underlying42 (by kernel_rfl)
theorem na39 : NotAgg Tryz.prog 39 := ⟨_, Tryz.underlying39, trivial⟩
end log11
open log11



set_option maxHeartbeats 1000000 in
set_option maxRecDepth 20000 in
theorem Save_ok (db mb : Nat) (d : Dk) (l : Lx) (w : Nat) (hd : d.ok) (hl : l.ok d) (h1 : l.start ≤ (w : Int)) (h2 : (w : Int) ≤ l.next) (hr : (d.get (metaOf l.pre)).isSome = true ∨ d.fs.length < 256) (hs : d.used + 22 ≤ d.size) : Cn Tryz.prog 24 [.pointer (some ⟨l.lb, 0, none⟩), .int .i64 (w : Int)] LV [LG db l, blk db (d.cells mb) 60, mp nmv Fl.val mb d.fs] fun v G => v = .int .i64 0 ∧ G = [LG db ({ l with high := (w : Int) } : Lx), blk db ((d.put (metaOf l.pre) ⟨mt l.start.toNat w, (mt l.start.toNat w).length⟩).cells mb) 60, mp nmv Fl.val mb (d.put (metaOf l.pre) ⟨mt l.start.toNat w, (mt l.start.toNat w).length⟩).fs] := by
  refine .enter Tryz.func24 rfl (by kernel_rfl) rfl fun R k => ?_
  have hst := hl.start
  have hcn := hl.cur.1.next_le
  have hnn : l.next = l.cur.next := rfl
  have hz : ((l.start.toNat : Nat) : Int) = l.start := by omega
  refine .unpack (L := [blk l.lb (l.cells db) 42, arr 39 1 l.la l.lc (l.segs.flatMap sp), bag (SG db) l.segs]) .head ?_
  simp only [List.cons_append, List.nil_append]
  refine .seq ?_
  refine .region ?_
  refine .rd (.assign rfl) ?_
  refine .nil ?_
  refine .seq ?_
  refine .seq ?_
  refine .region ?_
  refine .rd (.move rfl) ?_
  refine .rd (.move rfl) ?_
  refine .rd (.nilCheck rfl) ?_
  refine .rd (.fieldAddr fd42_4 rfl) ?_
  refine .rd (.ld na3 rfl .head rfl) ?_
  refine .rd (.lt rfl rfl) ?_
  refine .alter (t := 10) (v' := .bool false) rfl (congrArg Value.bool (decide_eq_false (by omega))) ?_
  refine .rd (.move rfl) ?_
  refine .on (t := 11) rfl rfl ?_
  refine .rd (.move rfl) ?_
  refine .on (t := 11) rfl rfl ?_
  refine .rd (.move rfl) ?_
  refine .on (t := 11) rfl rfl ?_
  refine .rd (.nilCheck rfl) ?_
  refine .on (t := 11) rfl rfl ?_
  refine .rd (.fieldAddr fd42_0 rfl) ?_
  refine .on (t := 11) rfl rfl ?_
  refine .rd (.ld na39 rfl .head rfl) ?_
  refine .on (t := 11) rfl rfl ?_
  refine .fn rfl rfl .nil ((Knows.allSG (.tail (.tail .head))).mono fun _ h => h _ l.cur_in) (Next_ok db l.cur hl.cur.1) (fun v G1 hq => ?_)
  obtain ⟨rfl, rfl⟩ := hq
  simp only [List.nil_append]
  refine .on (t := 11) rfl rfl ?_
  refine .rd (.gt rfl rfl) ?_
  refine .alter (t := 18) (v' := .bool false) rfl (congrArg Value.bool (decide_eq_false (by omega))) ?_
  refine .rd (.pickF rfl rfl) ?_
  refine .nil ?_
  refine .condF rfl ?_
  refine .skip ?_
  refine .seq ?_
  refine .region ?_
  refine .rd (.move rfl) ?_
  refine .rd (.move rfl) ?_
  refine .rd (.nilCheck rfl) ?_
  refine .rd (.fieldAddr fd42_4 rfl) ?_
  refine .rd (.ld na3 rfl .head rfl) ?_
  refine .alter (t := 24) (v' := .int .i64 ((l.start.toNat : Nat) : Int)) rfl (congrArg (Value.int .i64) hz.symm) ?_
  refine .rd (.move rfl) ?_
  refine .fn rfl rfl (.cons .head (.cons (.tail (.tail .head)) (.cons (.tail (.tail .head)) .nil))) (Knows.pick (.tail (.tail .head)) k) (keep_ok l.lb db mb d (some ⟨l.cur.b, 0, none⟩) l.pre l.most l.start l.high l.la (l.ini.length + 1) l.lc l.start.toNat w (by omega) (by omega) hd hl.pre hr hs) (fun v G1 hq => ?_)
  obtain ⟨rfl, rfl⟩ := hq
  simp only [List.cons_append, List.nil_append]
  refine .rd (.assign rfl) ?_
  refine .nil ?_
  refine .cast (X' := blk l.lb (({ l with high := (w : Int) } : Lx).cells db) 42) (by rw [hz]; rfl) ?_
  refine .pack (L := [blk l.lb (({ l with high := (w : Int) } : Lx).cells db) 42, arr 39 1 l.la l.lc (({ l with high := (w : Int) } : Lx).segs.flatMap sp), bag (SG db) ({ l with high := (w : Int) } : Lx).segs]) (.cons .head (.cons (.tail (.tail .head)) (.cons (.tail (.tail .head)) .nil))) ?_
  refine .retP Tryz.func24 (.cons (.tmp rfl) .nil) (.cons .head (.cons .head (.cons .head (.cons .head .nil)))) ?_
  exact ⟨[_, _, _], ⟨rfl, rfl⟩, rfl⟩

end Go.Proofs.YtglhoenjflpibaaGreatDoor


/- Chapter 6: a high watermark that is saved, in plain Lean. -/
namespace Go.Proofs.YtglhoenjflpibaaGreatDoor
open Go Go.Sp

/-- A filled log, and what is saved of it. -/
structure SavedTo (l : Lx) (i w : Nat) (d : Dk) : Prop where
  ok : ({ l with high := (w : Int) } : Lx).ok d
  dok : d.ok
  own : Own l d
  full : Full l d
  short : Short d
  wle : (w : Int) ≤ l.next
  len : d.fs.length ≤ 2 + i
  nums : (0 = 0 ∧ w = 0 ∧ (d.get (metaOf [112])).isSome = false) ∨ ((d.get (metaOf [112])).isSome = true ∧ d.file (metaOf [112]) = ⟨mt 0 w, (mt 0 w).length⟩)
theorem Filled.unsaved {i : Nat} {l : Lx} {d : Dk} (h : Filled i l d) : SavedTo l i 0 d := by
  have e : ({ l with high := ((0 : Nat) : Int) } : Lx) = l := by have := h.high; cases l; simp at this ⊢; exact this.symm
  exact ⟨by rw [e]; exact h.ok, h.dok, h.own, h.full, h.short, h.next0, by have := h.len; omega, .inl ⟨rfl, rfl, h.nums⟩⟩
theorem Filled.saved {i : Nat} {l : Lx} {d : Dk} (h : Filled i l d) (hi : i ≤ 60) {w : Nat} (hw : (w : Int) ≤ l.next) : SavedTo l i w (d.put (metaOf l.pre) ⟨mt l.start.toNat w, (mt l.start.toNat w).length⟩) := by
  have hst := h.start
  have h0 : l.start.toNat = 0 := by omega
  rw [h0]
  have hnx := h.nx
  have hmt := mt_len (z := 0) (w := w) (by omega) (by omega)
  have hu := h.used
  have hz := h.size
  have hk := keptL_ok (f := ⟨mt 0 w, (mt 0 w).length⟩) h.ok (st := l.start) (hi := (w : Int)) (by omega) h.ok.start.2.1 (by omega) hw
  refine ⟨hk, Dk.ok_put h.dok (by dsimp only; omega) (Nat.le_refl _), fun u hu hg => h.own u hu ?_, fun s hs => ?_, ?_, hw, ?_, .inr ?_⟩
  · rw [(Dk.file_put_ne d _ (nameOf_meta (by omega))).2] at hg; exact hg
  · rw [(Dk.file_put_ne d _ (meta_far h.ok (List.mem_append_left _ hs))).1]; exact h.full s hs
  · exact h.short.put (by have := h.ok.pre.len; unfold metaOf; rw [List.length_append]; show _ + 5 ≤ 64; omega)
  · have := mset_len_le d.fs (metaOf l.pre) ⟨mt 0 w, (mt 0 w).length⟩; have := h.len; show (mset _ _ _).length ≤ _; omega
  · rw [h.pre]; exact ⟨Dk.some_put _ _ _, Dk.file_put _ _ _⟩
theorem SavedTo.found {l : Lx} {i w : Nat} {d e : Dk} (h : SavedTo l i w d) (hp : l.pre = [112]) (hst : l.start = 0) (hn : l.segs.length ≤ 1000) (hx : l.next ≤ 1000000000) (hC : CrashTo d e) : ∃ k rest, k ≤ l.cur.bs.length ∧ Found [112] e (pieces ({ l with high := (w : Int) } : Lx) k rest) 0 w := by
  have hwle := h.wle
  obtain ⟨k, rest, _, hk, hF⟩ := found_crash (m := 0) (z := 0) (w := w) h.ok h.dok h.own h.full hC hn hst ⟨Nat.zero_le _, by omega⟩ (by
    have hnum := h.nums
    show (0 = 0 ∧ w = 0 ∧ (d.get (metaOf l.pre)).isSome = false) ∨ ((d.get (metaOf l.pre)).isSome = true ∧ d.file (metaOf l.pre) = ⟨mt 0 w, (mt 0 w).length⟩)
    rw [hp]; exact hnum) ⟨Nat.zero_le _, Nat.zero_le _⟩ (by show ((0 : Nat) : Int) ≤ l.cur.base; have := h.ok.cur.1.base0; exact this)
  exact ⟨k, rest, hk, by rw [← hp]; exact hF⟩
theorem saves_eq {P : Prop} [Decidable P] : decide (decide ((if P then (0 : Int) else 10) = 0) = decide P) = true := by by_cases h : P <;> simp [h]
end Go.Proofs.YtglhoenjflpibaaGreatDoor
