/- Steps through functions of the program, under conditions that each theorem states (part net2 of a claim). -/
import Derived.Test.YtfbmbhajpmlffaaProg
import Derived.Test.YtfbmbhajpmlffaaL8
import Derived.Test.YtfbmbhajpmlffaaDefs
import Derived.Test.YtfbmbhajpmlffaaNet1
namespace Go.Proofs.Ytfbmbhajpmlffaa
open Go Go.Sp

set_option linter.unusedVariables false

namespace net2
theorem ti32 : TI Try.prog 32 21 232 (.agg #[.int .i64 0, .int .i64 0, .int .i64 0, .int .i64 0, .int .i64 0, .int .i64 0, .int .i64 0, .int .i64 0, .int .i64 0, .int .i64 0, .int .i64 0, .int .i64 0, .int .i64 0, .int .i64 0, .int .i64 0, .int .i64 0, .string ⟨#[]⟩, .string ⟨#[]⟩, .slice none 0 0, .slice none 0 0, .slice none 0 0]) := .of (by kernel_rfl)
theorem fd32_18 : FD Try.prog 32 18 18 := .of Try.underlying32 (by kernel_rfl)
theorem na29 : NotAgg Try.prog 29 := ⟨_, Try.underlying29, trivial⟩
theorem fd32_19 : FD Try.prog 32 19 19 := .of Try.underlying32 (by kernel_rfl)
theorem na30 : NotAgg Try.prog 30 := ⟨_, Try.underlying30, trivial⟩
theorem fd32_20 : FD Try.prog 32 20 20 := .of Try.underlying32 (by kernel_rfl)
theorem na22 : NotAgg Try.prog 22 := ⟨_, Try.underlying22, trivial⟩
theorem ts29 : TS Try.prog 29 1 := .of (by kernel_rfl)
theorem ts30 : TS Try.prog 30 1 := .of (by kernel_rfl)
theorem ts22 : TS Try.prog 22 1 := .of (by kernel_rfl)
theorem ts65 : TS Try.prog 65 6 := .of (by kernel_rfl)
theorem fd65_5 : FD Try.prog 65 5 5 := .of Try.underlying65 (by kernel_rfl)
theorem na63 : NotAgg Try.prog 63 := ⟨_, Try.underlying63, trivial⟩
theorem ts63 : TS Try.prog 63 1 := .of (by kernel_rfl)
theorem ia32 : IsAgg Try.prog 32 := ⟨_, Try.underlying32, trivial⟩
theorem ts32 : TS Try.prog 32 21 := .of (by kernel_rfl)
end net2
open net2

theorem zip_at {α β : Type} {l : List α} {k : List β} {i : Nat} {x : α} {y : β} (h : l[i]? = some x) (h' : k[i]? = some y) : (l.zip k)[i]? = some (x, y) := by
  rw [List.getElem?_zip_eq_some]; exact ⟨h, h'⟩
theorem mid_at {β : Type} {l k : List β} {i : Nat} {y : β} (h : l.length = i) (h' : k[i]? = some y) : (l ++ k.drop i)[i]? = some y := by
  rw [List.getElem?_append_right (by omega), h, List.getElem?_drop]; simpa using h'
theorem zip_set {α β : Type} {l : List α} {k rs : List β} {i : Nat} {x : α} {y y' : β} (h : rs.length = i) (h' : k[i]? = some y) (hx : l[i]? = some x) : (l.zip (rs ++ k.drop i)).set i (x, y') = l.zip ((rs ++ [y']) ++ k.drop (i + 1)) := by
  apply List.ext_getElem?
  intro j
  have hi : i < l.length := (List.getElem?_eq_some_iff.1 hx).1
  have hk : i < k.length := (List.getElem?_eq_some_iff.1 h').1
  rw [List.getElem?_set]
  by_cases hj : i = j
  · subst hj
    have h1 : ((rs ++ [y']) ++ k.drop (i + 1))[i]? = some y' := by rw [List.getElem?_append_left (by simp; omega), List.getElem?_append_right (by omega)]; simp [h]
    rw [zip_at hx h1]; simp [h]; omega
  · rw [if_neg hj]
    have : (rs ++ k.drop i)[j]? = ((rs ++ [y']) ++ k.drop (i + 1))[j]? := by
      rcases Nat.lt_or_ge j i with hji | hji
      · rw [List.getElem?_append_left (by omega), List.append_assoc, List.getElem?_append_left (by omega)]
      · rw [List.getElem?_append_right (by omega), List.getElem?_append_right (by simp; omega), List.getElem?_drop, List.getElem?_drop]; simp; congr 1; omega
    rw [show l.zip (rs ++ k.drop i) = List.zipWith Prod.mk l (rs ++ k.drop i) from rfl, show l.zip ((rs ++ [y']) ++ k.drop (i + 1)) = List.zipWith Prod.mk l ((rs ++ [y']) ++ k.drop (i + 1)) from rfl, List.getElem?_zipWith, List.getElem?_zipWith, this]
theorem recs_snoc {bs : List Batch} {rs : List (Option Addr × Nat)} {i : Nat} {b : Batch} (hr : rs.length = i) (hb : bs[i]? = some b) (r : Option Addr × Nat) {h} (H : sat [arr 76 3 r.1 r.2 (b.records.flatMap Rec.cells), sat (recs ((bs.take i).zip rs))] h) :
    sat (recs ((bs.take (i + 1)).zip (rs ++ [r]))) h := by
  have hi : i < bs.length := (List.getElem?_eq_some_iff.1 hb).1
  have e : (bs.take (i + 1)).zip (rs ++ [r]) = (bs.take i).zip rs ++ [(b, r)] := by
    rw [List.take_add_one, hb]
    simp only [Option.toList_some]
    rw [List.zip_append (by simp; omega)]; rfl
  rw [e]
  unfold recs at *
  rw [List.map_append]
  exact H.all_snoc

theorem copied_ok (m : Msg) (s : Ms) (hok : m.ok) : Cn Try.prog 27 [.agg (mval m s).toArray] (mat m s) [] fun v G => ∃ s', v = .agg (mval m s').toArray ∧ G = [owm m s'] := by
  refine .enter Try.func27 rfl (by kernel_rfl) rfl fun R k => ?_
  refine .tell (Knows.pick .head (k.mono fun _ h => h.facts)) (fun hF => ?_)
  have hzl := hF.zl
  have hrl := hF.len
  have hbl := hok.b
  refine .seq ?_
  refine .region ?_   -- R0 network.go:42
  refine .ef (.box (l := mval m s) rfl rfl (ones.of rfl)) ?_
  rintro _ _ ⟨b1, rfl, rfl⟩
  refine .ef (.alloc ti32 rfl (ones.of rfl)) ?_
  rintro _ _ ⟨b2, rfl, rfl⟩
  refine .nil ?_
  refine .seq ?_
  refine .draws [1, 4, 7] [blk b1 (mval m s) 32] (by kernel_rfl) ?_   -- R1 network.go:43
  refine .rp 0 rfl (by kernel_rfl) (by kernel_rfl) (by kernel_rfl) (Reads.pure (.fieldAddr fd32_18 rfl)) ?_
  refine .rd 1 rfl rfl (by kernel_rfl) (by kernel_rfl) (by kernel_rfl) (.ld na29 rfl .head rfl) (.cons (.tail .head) .nil) ?_
  refine .rp 3 rfl (by kernel_rfl) (by kernel_rfl) (by kernel_rfl) (Reads.pure (.fieldAddr fd32_19 rfl)) ?_
  refine .rd 4 rfl rfl (by kernel_rfl) (by kernel_rfl) (by kernel_rfl) (.ld na30 rfl .head rfl) (.cons (.tail .head) .nil) ?_
  refine .rp 6 rfl (by kernel_rfl) (by kernel_rfl) (by kernel_rfl) (Reads.pure (.fieldAddr fd32_20 rfl)) ?_
  refine .rd 7 rfl rfl (by kernel_rfl) (by kernel_rfl) (by kernel_rfl) (.ld na22 rfl .head rfl) (.cons (.tail .head) .nil) ?_
  refine .ef 2 (by kernel_rfl) rfl (.fn rfl rfl .nil (Knows.pick (.tail (.tail .head)) (k.mono fun _ h => h.b)) (Clone33_ok s.ab m.batches.length s.cb _ (by rw [flat_length bcell_len, hzl]) hok.b hF.nb)) ?_
  rintro v _ ⟨G1, hq, rfl⟩
  obtain ⟨a1, c1, rfl, rfl⟩ := hq
  simp only [List.cons_append, List.nil_append]
  refine ⟨.inr ⟨_, (.cons (.tail (.tail .head)) .nil)⟩, ?_⟩
  refine .rp 9 rfl (by kernel_rfl) (by kernel_rfl) (by kernel_rfl) (Reads.pure (.fieldAddr fd32_18 rfl)) ?_
  refine .ef 5 (by kernel_rfl) rfl (.fn rfl rfl .nil (Knows.pick (.tail (.tail (.tail .head))) (k.mono fun _ h => h.e)) (Clone34_ok s.ae m.entries.length s.ce _ (by rw [flat_length Entry.cells_len]) hok.e hF.ne)) ?_
  rintro v _ ⟨G1, hq, rfl⟩
  obtain ⟨a2, c2, rfl, rfl⟩ := hq
  simp only [List.cons_append, List.nil_append]
  refine ⟨.inr ⟨_, (.cons (.tail (.tail (.tail .head))) .nil)⟩, ?_⟩
  refine .ef 8 (by kernel_rfl) rfl (.fn rfl rfl .nil (Knows.pick (.tail (.tail (.tail (.tail .head)))) (k.mono fun _ h => h.i)) (Clone35_ok s.ai m.ints.length s.ci _ (by rw [flat_length icell_len]) hok.i hF.ni)) ?_
  rintro v _ ⟨G1, hq, rfl⟩
  obtain ⟨a3, c3, rfl, rfl⟩ := hq
  simp only [List.cons_append, List.nil_append]
  refine ⟨.inl (by kernel_rfl), ?_⟩
  refine .ef0 10 (by kernel_rfl) rfl (.store ts29 rfl rfl (.tail (.tail (.tail (.tail .head)))) rfl (Nat.le_of_ble_eq_true rfl)) ?_
  rintro _ _ rfl
  refine ⟨.inl (by kernel_rfl), ?_⟩
  refine .rp 11 rfl (by kernel_rfl) (by kernel_rfl) (by kernel_rfl) (Reads.pure (.fieldAddr fd32_19 rfl)) ?_
  refine .ef0 12 (by kernel_rfl) rfl (.store ts30 rfl rfl .head rfl (Nat.le_of_ble_eq_true rfl)) ?_
  rintro _ _ rfl
  refine ⟨.inl (by kernel_rfl), ?_⟩
  refine .rp 13 rfl (by kernel_rfl) (by kernel_rfl) (by kernel_rfl) (Reads.pure (.fieldAddr fd32_20 rfl)) ?_
  refine .ef0 14 (by kernel_rfl) rfl (.store ts22 rfl rfl .head rfl (Nat.le_of_ble_eq_true rfl)) ?_
  rintro _ _ rfl
  refine ⟨.inl (by kernel_rfl), ?_⟩
  refine .done (by kernel_rfl) ?_
  refine .seq ?_
  refine .seq ?_
  refine .nothing ?_
  refine .region ?_   -- R2 network.go:44
  refine .rd (.fieldAddr fd32_18 rfl) ?_
  refine .rd (.ld na29 rfl (.tail .head) rfl) ?_
  refine .rd (.lenL rfl rfl Try.underlying29 rfl) ?_
  refine .rd (.move rfl) ?_
  refine .nil ?_
  refine .block ?_
  refine .loop (σ := Nat × List (Option Addr × Nat)) (fun ⟨i, rs'⟩ => i ≤ m.batches.length ∧ rs'.length = i) (fun ⟨i, rs'⟩ => m.batches.length - i) (fun ⟨i, rs'⟩ => [(1, .pointer (some ⟨b1, 0, none⟩)), (2, .pointer (some ⟨b2, 0, none⟩)), (18, .int .i64 m.batches.length), (19, .int .i64 (i : Nat))]) (fun ⟨i, rs'⟩ => [blk b1 (mcells m.hd (.slice a1 m.batches.length c1) (.slice a2 m.entries.length c2) (.slice a3 m.ints.length c3)) 32, blk b2 (mcells (toS 0 0 0) .sn .sn .sn) 32, arr 65 6 a1 c1 ((m.batches.zip (rs' ++ s.rs.drop i)).flatMap bcell), sat (recs ((m.batches.take i).zip rs')), arr 67 3 a2 c2 (m.entries.flatMap Entry.cells), arr 3 1 a3 c3 (m.ints.flatMap icell), R]) (0, []) ⟨Nat.zero_le _, rfl⟩ (.cons rfl (.cons rfl (.cons rfl (.cons rfl .nil)))) (.cons (.tail .head) (.cons (.tail (.tail (.tail (.tail .head)))) (.cons (.tail (.tail (.tail .head))) (.cons .head (.cons (.tail .head) (.cons .head (.cons .head .nil))))))) (fun s hI ih => ?_)
  obtain ⟨i, rs'⟩ := s
  dsimp only at hI ih ⊢
  obtain ⟨hi, hr⟩ := hI
  refine .seq ?_
  refine .region ?_   -- R3 network.go:44
  refine .rd (.lt rfl rfl) ?_
  refine .nil ?_
  refine .seq ?_
  refine .condP rfl (fun hc3 => ?_) (fun hc3 => ?_)
  · refine .skip ?_
    refine .seq ?_
    refine .block ?_
    refine .seq ?_
    refine .region ?_   -- R4 network.go:44
    refine .rd (.move rfl) ?_
    refine .rd (.assign rfl) ?_
    refine .nil ?_
    have hlt : i < m.batches.length := by omega
    refine .tell (φ := ∃ b o, a1 = some ⟨b, o, none⟩) ((Knows.arr (.tail (.tail .head))).mono fun _ h => h.addr (by rw [flat_length bcell_len]; simp; omega)) (fun hx => ?_)
    obtain ⟨bb, oo, rfl⟩ := hx
    refine .open_ (.tail (.tail .head)) (fun h => sat.arr_open (.inr (by rw [flat_length bcell_len]; simp; omega))) (fun x hx => ?_)
    obtain ⟨pre, post⟩ := x
    obtain ⟨rfl, hlen⟩ := hx
    dsimp only at hlen
    simp only [List.cons_append, List.nil_append]
    obtain ⟨bt, hbt⟩ : ∃ bt, m.batches[i]? = some bt := ⟨_, List.getElem?_eq_getElem hlt⟩
    obtain ⟨r, hrr⟩ : ∃ r, s.rs[i]? = some r := ⟨_, List.getElem?_eq_getElem (by omega)⟩
    have hz : (m.batches.zip (rs' ++ s.rs.drop i))[i]? = some (bt, r) := zip_at hbt (mid_at hr hrr)
    have hzs : (bt, r) ∈ m.batches.zip s.rs := List.mem_of_getElem? (zip_at hbt hrr)
    have hld : (pre ++ ((m.batches.zip (rs' ++ s.rs.drop i)).flatMap bcell ++ post))[pre.length + (i : Int).toNat * 6 + 5]? = some (.slice r.1 bt.records.length r.2) := by
      rw [Int.toNat_natCast, Nat.add_assoc]; exact at_mid (flat_at bcell_len _ i _ hz 5 _ rfl)
    have hbd : pre.length + (i : Int).toNat * 6 + 5 < (pre ++ ((m.batches.zip (rs' ++ s.rs.drop i)).flatMap bcell ++ post)).length := (List.getElem?_eq_some_iff.1 hld).1
    refine .draws [1, 4, 8] [blk b1 (mcells m.hd (.slice (some ⟨bb, pre.length, none⟩) m.batches.length c1) (.slice a2 m.entries.length c2) (.slice a3 m.ints.length c3)) 32, blk bb (pre ++ ((m.batches.zip (rs' ++ s.rs.drop i)).flatMap bcell ++ post)) 65] (by kernel_rfl) ?_   -- R5 network.go:45
    refine .rp 0 rfl (by kernel_rfl) (by kernel_rfl) (by kernel_rfl) (Reads.pure (.fieldAddr fd32_18 rfl)) ?_
    refine .rd 1 rfl rfl (by kernel_rfl) (by kernel_rfl) (by kernel_rfl) (.ld na29 rfl .head rfl) (.cons (.tail .head) (.cons .head .nil)) ?_
    refine .rp 2 rfl (by kernel_rfl) (by kernel_rfl) (by kernel_rfl) (Reads.pure (.move rfl)) ?_
    refine .rp 3 rfl (by kernel_rfl) (by kernel_rfl) (by kernel_rfl) (Reads.pure (.fieldAddr fd32_18 rfl)) ?_
    refine .rd 4 rfl rfl (by kernel_rfl) (by kernel_rfl) (by kernel_rfl) (.ld na29 rfl .head rfl) (.cons (.tail .head) (.cons .head .nil)) ?_
    refine .rp 5 rfl (by kernel_rfl) (by kernel_rfl) (by kernel_rfl) (Reads.pure (.move rfl)) ?_
    refine .rp 6 rfl (by kernel_rfl) (by kernel_rfl) (by kernel_rfl) (Reads.pure (.indexAddr Try.underlying29 ts65 rfl rfl (by omega) (by omega))) ?_
    refine .rp 7 rfl (by kernel_rfl) (by kernel_rfl) (by kernel_rfl) (Reads.pure (.fieldAddr fd65_5 rfl)) ?_
    refine .rd 8 rfl rfl (by kernel_rfl) (by kernel_rfl) (by kernel_rfl) (.ld na63 rfl (.tail .head) hld) (.cons (.tail .head) (.cons .head .nil)) ?_
    refine .ef 9 (by kernel_rfl) rfl (.fn rfl rfl .nil (Knows.pick (.tail (.tail (.tail (.tail (.tail (.tail .head)))))) (k.mono fun _ h => h.r _ hzs)) (Clone36_ok r.1 bt.records.length r.2 _ (by rw [flat_length Rec.cells_len]) (hok.r _ (List.mem_of_getElem? hbt)) (hF.nr _ hzs))) ?_
    rintro v _ ⟨G1, hq, rfl⟩
    obtain ⟨ra, rc, rfl, rfl⟩ := hq
    simp only [List.cons_append, List.nil_append]
    refine ⟨.inr ⟨_, (.cons (.tail (.tail .head)) (.cons (.tail .head) .nil))⟩, ?_⟩
    refine .rp 10 rfl (by kernel_rfl) (by kernel_rfl) (by kernel_rfl) (Reads.pure (.indexAddr Try.underlying29 ts65 rfl rfl (by omega) (by omega))) ?_
    refine .rp 11 rfl (by kernel_rfl) (by kernel_rfl) (by kernel_rfl) (Reads.pure (.fieldAddr fd65_5 rfl)) ?_
    refine .ef0 12 (by kernel_rfl) rfl (.store ts63 rfl rfl (.tail .head) rfl hbd) ?_
    rintro _ _ rfl
    refine ⟨.inl (by kernel_rfl), ?_⟩
    refine .done (by kernel_rfl) ?_
    have hset : (pre ++ ((m.batches.zip (rs' ++ s.rs.drop i)).flatMap bcell ++ post)).set (pre.length + (i : Int).toNat * 6 + 5) (.slice ra bt.records.length rc) = pre ++ ((m.batches.zip ((rs' ++ [(ra, rc)]) ++ s.rs.drop (i + 1))).flatMap bcell ++ post) := by
      rw [Int.toNat_natCast, Nat.add_assoc, set_mid (by rw [flat_length bcell_len]; simp; omega), flat_set bcell_len _ i (bt, r) (bt, (ra, rc)) hz 5 _ (by omega) rfl, zip_set hr hrr hbt]
    rw [hset]
    refine .close (X := arr 65 6 (some ⟨bb, pre.length, none⟩) c1 ((m.batches.zip ((rs' ++ [(ra, rc)]) ++ s.rs.drop (i + 1))).flatMap bcell)) (.cons .head .nil) (fun h => sat.arr_close (by simp only [flat_length bcell_len] at hlen ⊢; simp at hlen ⊢; omega)) ?_
    refine .close (.cons (.tail .head) (.cons (.tail (.tail (.tail .head))) .nil)) (fun h => recs_snoc (i := i) hr hbt (ra, rc)) ?_
    refine .inBlock ?_
    refine .region ?_   -- R6 network.go:44
    refine .rd (.add rfl rfl (by omega) (by omega)) ?_
    refine .rd (.move rfl) ?_
    refine .nil ?_
    exact (ih (i + 1, rs' ++ [(ra, rc)]) ⟨by omega, by simp [hr]⟩ (by show _ < _; omega)).to (.cons rfl (.cons rfl (.cons rfl (.cons rfl .nil)))) (.cons (.tail (.tail .head)) (.cons (.tail (.tail .head)) (.cons (.tail .head) (.cons .head (.cons .head (.cons .head (.cons .head .nil)))))))
  · refine .exit rfl ?_
    refine .seq ?_
    obtain rfl : i = m.batches.length := by omega
    rw [List.drop_eq_nil_of_le (by omega), List.append_nil, List.take_length]
    refine .close (.cons (.tail (.tail .head)) (.cons (.tail (.tail (.tail .head))) (.cons (.tail (.tail (.tail .head))) (.cons (.tail (.tail .head)) .nil)))) (owm_close (m := m) (s := ⟨a1, c1, a2, c2, a3, c3, rs'⟩) hr) ?_
    refine .region ?_   -- R7 network.go:47
    refine .rd (.ldN ia32 ts32 rfl (.tail .head) rfl) ?_
    refine .ef0 (.storeAll ts32 rfl rfl rfl (.tail (.tail .head)) rfl (ones.of rfl)) ?_
    rintro _ _ rfl
    refine .nil ?_
    refine .retP Try.func27 (.cons (.blkN ia32 ts32 rfl .head rfl) .nil) (.cons (.tail .head) (.cons (.tail (.tail .head)) .nil)) ?_
    exact ⟨[_], ⟨⟨a1, c1, a2, c2, a3, c3, rs'⟩, rfl, rfl⟩, rfl⟩

end Go.Proofs.Ytfbmbhajpmlffaa

