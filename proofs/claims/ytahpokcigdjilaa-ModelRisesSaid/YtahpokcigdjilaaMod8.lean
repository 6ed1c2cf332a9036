/- Steps through functions of the program, under conditions that each theorem states (part mod8 of a claim). -/
import Derived.Test.YtahpokcigdjilaaProg
import Derived.Test.YtahpokcigdjilaaDefs22c
namespace Go.Proofs.Ytahpokcigdjilaa
open Go Go.Sp

set_option linter.unusedVariables false

namespace mod8
theorem ts3 : TS Try.prog 3 1 := .of (by kernel_rfl)
theorem na3 : NotAgg Try.prog 3 := ⟨_, Try.underlying3, trivial⟩
theorem bld36_0_1_2_8_3_5_7_4 (x0 : Int) (x1 : Int) (x2 : Int) (x3 : ByteArray) (x4 : Int) (x5 : Int) (x6 : Int) (x7 : Int) (w : World) : (Instr.build 36 (([0, 1, 2, 8, 3, 5, 7, 4] : List Nat).zip [.int .i64 x0, .int .i64 x1, .int .i64 x2, .string x3, .int .i64 x4, .int .i64 x5, .int .i64 x6, .int .i64 x7]).toArray).run Try.prog w = .ok (.agg #[.int .i64 x0, .int .i64 x1, .int .i64 x2, .int .i64 x4, .int .i64 x7, .int .i64 x5, .int .i64 0, .int .i64 x6, .string x3, .string ⟨#[]⟩, .int .i64 0, .bool false]) w := by kernel_rfl
theorem ti36 : TI Try.prog 36 12 112 (.agg #[.int .i64 0, .int .i64 0, .int .i64 0, .int .i64 0, .int .i64 0, .int .i64 0, .int .i64 0, .int .i64 0, .string ⟨#[]⟩, .string ⟨#[]⟩, .int .i64 0, .bool false]) := .of (by kernel_rfl)
theorem ts36 : TS Try.prog 36 12 := .of (by kernel_rfl)
theorem ia36 : IsAgg Try.prog 36 := ⟨_, Try.underlying36, trivial⟩
theorem fd36_11 : FD Try.prog 36 11 11 := .of Try.underlying36 (by kernel_rfl)
theorem ts4 : TS Try.prog 4 1 := .of (by kernel_rfl)
theorem bld36_0_1_2_8_3 (x0 : Int) (x1 : Int) (x2 : Int) (x3 : ByteArray) (x4 : Int) (w : World) : (Instr.build 36 (([0, 1, 2, 8, 3] : List Nat).zip [.int .i64 x0, .int .i64 x1, .int .i64 x2, .string x3, .int .i64 x4]).toArray).run Try.prog w = .ok (.agg #[.int .i64 x0, .int .i64 x1, .int .i64 x2, .int .i64 x4, .int .i64 0, .int .i64 0, .int .i64 0, .int .i64 0, .string x3, .string ⟨#[]⟩, .int .i64 0, .bool false]) w := by kernel_rfl
theorem fd36_4 : FD Try.prog 36 4 4 := .of Try.underlying36 (by kernel_rfl)
end mod8
open mod8

def oF (offs : List Int) (m : Nat) : Int := 100 * (m : Int) + pickN (offs.getD m 0) 100
theorem oF_at {offs : List Int} {m : Nat} {x : Int} (h : offs[m]? = some x) : oF offs m = 100 * (m : Int) + pickN x 100 := by
  unfold oF; rw [List.getD_eq_getElem?_getD, h]; rfl
theorem oF_inj (offs : List Int) {m k : Nat} (h : oF offs m = oF offs k) : m = k := by
  unfold oF at h
  have h1 := pickN_nn (c := offs.getD m 0) (n := 100) (by decide); have h2 := pickN_lt (c := offs.getD m 0) (n := 100) (by decide)
  have h3 := pickN_nn (c := offs.getD k 0) (n := 100) (by decide); have h4 := pickN_lt (c := offs.getD k 0) (n := 100) (by decide)
  omega
theorem oF_nn (offs : List Int) (k : Nat) : 0 ≤ oF offs k := by
  unfold oF; have := pickN_nn (c := offs.getD k 0) (n := 100) (by decide); omega

set_option maxHeartbeats 1000000 in
set_option maxRecDepth 20000 in
theorem ModelRises_ok (offs : List Int) (a : Option Addr) (c : Nat) (told : Int) (hoffs : ∀ x ∈ offs, i64 x) (htold : i64 told) (hl : offs.length ≤ 140737488351232) : Cn Try.prog 6 [.slice a offs.length c, .int .i64 told] (RowAt a (offs.flatMap icell)) [] fun v G => v = .bool true ∧ G = [] := by
  refine .enter Try.func6 rfl (by kernel_rfl) rfl fun R k => ?_
  obtain ⟨n, hn⟩ : ∃ n : Nat, min (offs.length : Int) 20 = n := ⟨min offs.length 20, by omega⟩
  obtain ⟨kk, hkk⟩ : ∃ kk : Nat, pickN told ((n : Int) + 1) = kk := ⟨(pickN told ((n : Int) + 1)).toNat, by have := pickN_nn (c := told) (n := (n : Int) + 1) (by omega); omega⟩
  have hkn : kk ≤ n := by have := pickN_lt (c := told) (n := (n : Int) + 1) (by omega); omega
  have hn20 : n ≤ 20 := by omega
  have hno : n ≤ offs.length := by omega
  refine .seq ?_
  refine .region ?_   -- R0 more.go:40
  refine .rd (.assign rfl) ?_
  refine .nil ?_
  refine .seq ?_
  refine .region ?_   -- R1 more.go:41
  refine .fn rfl rfl .nil (fun _ _ _ => trivial) (shown_ok) (fun v G1 hq => ?_)
  obtain ⟨rfl, rfl⟩ := hq
  simp only [List.nil_append]
  refine .rd (.assign rfl) ?_
  refine .nil ?_
  refine .seq ?_
  refine .region ?_   -- R2 more.go:42
  refine .rd (.assign rfl) ?_
  refine .nil ?_
  refine .nilArr 36 12 none ?_
  refine .seq ?_
  refine .region ?_   -- R3 more.go:43
  refine .rd (.move rfl) ?_
  refine .rd (.lenL rfl rfl Try.underlying40 rfl) ?_
  refine .rd (.min2 rfl rfl rfl) ?_
  refine .alter (t := 17) (v' := .int .i64 (n : Nat)) rfl (congrArg (Value.int .i64) (by split <;> omega)) ?_
  refine .rd (.assign rfl) ?_
  refine .nil ?_
  refine .seq ?_
  refine .seq ?_
  refine .region ?_   -- R4 more.go:44
  refine .rd (.assign rfl) ?_
  refine .nil ?_
  refine .block ?_
  refine .loop (σ := Nat × Option Addr × Nat) (fun ⟨j, a', c'⟩ => j ≤ n) (fun ⟨j, a', c'⟩ => n - j) (fun ⟨j, a', c'⟩ => [(0, .slice a offs.length c), (1, .int .i64 told), (5, .bool true), (7, .int .i64 (n : Nat)), (6, .slice a' (rises (oF offs) j).length c'), (8, .int .i64 (j : Nat))]) (fun ⟨j, a', c'⟩ => [arr 36 12 a' c' ((rises (oF offs) j).flatMap Sn.cells), R]) (0, none, 0) (Nat.zero_le _) (.cons rfl (.cons rfl (.cons rfl (.cons rfl (.cons rfl (.cons rfl .nil)))))) (.cons .head (.cons .head .nil)) (fun s' hI ih => ?_)
  obtain ⟨j, a', c'⟩ := s'
  dsimp only at hI ih ⊢
  have hlen := rises_len (oF offs) j
  refine .seq ?_
  refine .seq ?_
  refine .region ?_   -- R5 more.go:44
  refine .rd (.move rfl) ?_
  refine .rd (.move rfl) ?_
  refine .rd (.lt rfl rfl) ?_
  refine .nil ?_
  refine .condP rfl (fun h5 => ?_) (fun h5 => ?_)
  · refine .skip ?_
    refine .seq ?_
    refine .block ?_
    refine .seq ?_
    obtain ⟨x, hx⟩ : ∃ x, offs[j]? = some x := ⟨_, List.getElem?_eq_getElem (by omega)⟩
    have hxi := hoffs x (List.mem_of_getElem? hx)
    have ho := oF_at hx
    have hon := pickN_nn (c := x) (n := 100) (by decide)
    have hol := pickN_lt (c := x) (n := 100) (by decide)
    refine .tell (φ := ∃ b o, a = some ⟨b, o, none⟩) (Knows.pick (.tail .head) (k.mono fun _ h => RowAt.addr h (by rw [flat_length icell_len]; omega))) (fun hh => ?_)
    obtain ⟨bb, oo, rfl⟩ := hh
    refine .region ?_   -- R7 more.go:45
    refine .rd (.move rfl) ?_
    refine .rd (.add rfl rfl (by omega) (by omega)) ?_
    refine .rd (.move rfl) ?_
    refine .rd (.mul rfl rfl (by omega) (by omega)) ?_
    refine .rd (.move rfl) ?_
    refine .rd (.move rfl) ?_
    refine .rd (.indexAddr Try.underlying40 ts3 rfl rfl (by omega) (by omega)) ?_
    refine .rd (.load na3 rfl (Knows.elem (f := icell) icell_len (by decide) (Knows.pick (.tail .head) k) hx)) ?_
    refine .fn rfl rfl .nil (fun _ _ _ => trivial) (pick_ok x 100 hxi (by decide)) (fun v G1 hq => ?_)
    obtain ⟨rfl, rfl⟩ := hq
    simp only [List.nil_append]
    refine .rd (.add rfl rfl (by omega) (by omega)) ?_
    refine .alter (t := 32) (v' := .int .i64 (oF offs j)) rfl (by rw [ho]) ?_
    refine .rd (.build rfl (bld36_0_1_2_8_3_5_7_4 _ _ _ _ _ _ _ _)) ?_
    refine .ef (.alloc ti36 rfl (ones.of rfl)) ?_
    rintro _ _ ⟨b9, rfl, rfl⟩
    refine .ef0 (.storeAll (vs := Sn.cells (riseC (oF offs j) j)) ts36 rfl rfl rfl .head rfl (ones.of rfl)) ?_
    rintro _ _ rfl
    refine .nil ?_
    refine .seq ?_
    refine .region ?_   -- R8 more.go:46
    refine .rd (.move rfl) ?_
    refine .rd (.ldN ia36 ts36 rfl .head rfl) ?_
    refine .ef (.buildOne (cs := Sn.cells (riseC (oF offs j) j)) Try.underlying22 ti36 (by decide) rfl rfl rfl (ones.of rfl)) ?_
    rintro _ _ ⟨bs1, rfl, rfl⟩
    refine .ef (.append rfl rfl Try.underlying22 ti36 rfl (ones.of rfl) (by decide) (by decide) rfl rfl (.tail (.tail .head)) (n := (rises (oF offs) j).length) (m := 1) (by rw [flat_length Sn.cells_len]) (.srcBlk (ys := Sn.cells (riseC (oF offs j) j)) .head Try.underlying22 rfl (by decide)) (by omega)) ?_
    rintro _ _ ⟨ta, tc, rfl, tn, rfl⟩
    refine .alter (t := 37) (v' := .slice ta ((rises (oF offs) j) ++ [(riseC (oF offs j) j)]).length tc) rfl (by simp only [List.length_append, List.length_cons, List.length_nil]) ?_
    refine .rd (.assign rfl) ?_
    refine .nil ?_
    refine .cast (X' := arr 36 12 ta tc (((rises (oF offs) j) ++ [(riseC (oF offs j) j)]).flatMap Sn.cells)) (by rw [List.flatMap_append]; simp) ?_
    refine .seq ?_
    refine .region ?_   -- R9 more.go:47
    refine .rd (.fieldAddr fd36_11 rfl) ?_
    refine .ef0 (.store ts4 rfl rfl (.tail (.tail .head)) rfl (Nat.le_of_ble_eq_true rfl)) ?_
    rintro _ _ rfl
    refine .nil ?_
    refine .cast (X' := blk b9 (Sn.cells (riseR (oF offs j) j)) 36) (rfl) ?_
    have hlen1 : ((rises (oF offs) j) ++ [(riseC (oF offs j) j)]).length = 2 * j + 1 := by rw [List.length_append, hlen]; rfl
    refine .region ?_   -- R10 more.go:48
    refine .rd (.move rfl) ?_
    refine .rd (.ldN ia36 ts36 rfl .head rfl) ?_
    refine .ef (.buildOne (cs := Sn.cells (riseR (oF offs j) j)) Try.underlying22 ti36 (by decide) rfl rfl rfl (ones.of rfl)) ?_
    rintro _ _ ⟨bs1, rfl, rfl⟩
    refine .ef (.append rfl rfl Try.underlying22 ti36 rfl (ones.of rfl) (by decide) (by decide) rfl rfl (.tail (.tail .head)) (n := ((rises (oF offs) j) ++ [(riseC (oF offs j) j)]).length) (m := 1) (by rw [flat_length Sn.cells_len]) (.srcBlk (ys := Sn.cells (riseR (oF offs j) j)) .head Try.underlying22 rfl (by decide)) (by omega)) ?_
    rintro _ _ ⟨ua, uc, rfl, un, rfl⟩
    refine .alter (t := 42) (v' := .slice ua (((rises (oF offs) j) ++ [(riseC (oF offs j) j)]) ++ [(riseR (oF offs j) j)]).length uc) rfl (by simp only [List.length_append, List.length_cons, List.length_nil]) ?_
    refine .rd (.assign rfl) ?_
    refine .nil ?_
    refine .cast (X' := arr 36 12 ua uc ((((rises (oF offs) j) ++ [(riseC (oF offs j) j)]) ++ [(riseR (oF offs j) j)]).flatMap Sn.cells)) (by rw [List.flatMap_append]; simp) ?_
    refine .inBlock ?_
    refine .region ?_   -- R6 more.go:44
    refine .rd (.move rfl) ?_
    refine .rd (.add rfl rfl (by omega) (by omega)) ?_
    refine .rd (.assign rfl) ?_
    refine .nil ?_
    rw [List.append_assoc, List.cons_append, List.nil_append, ← rises_succ]
    exact (ih (j + 1, ua, uc) (by show j + 1 ≤ n; omega) (by show n - (j + 1) < n - j; omega)).to (.cons rfl (.cons rfl (.cons rfl (.cons rfl (.cons rfl (.cons rfl .nil)))))) (.cons .head (.cons (.tail (.tail (.tail .head))) .nil))
  · obtain rfl : j = n := by omega
    clear ih
    refine .exit rfl ?_
    refine .seq ?_
    refine .region ?_   -- R11 more.go:50
    refine .rd (.move rfl) ?_
    refine .rd (.move rfl) ?_
    refine .rd (.add rfl rfl (by omega) (by omega)) ?_
    refine .fn rfl rfl .nil (fun _ _ _ => trivial) (pick_ok told ((j : Int) + 1) htold (by omega)) (fun v G1 hq => ?_)
    obtain ⟨rfl, rfl⟩ := hq
    simp only [List.nil_append]
    refine .alter (t := 46) (v' := .int .i64 (kk : Nat)) rfl (by rw [hkk]) ?_
    refine .rd (.assign rfl) ?_
    refine .nil ?_
    refine .seq ?_
    refine .region ?_   -- R12 more.go:51
    refine .rd (.build rfl (bld36_0_1_2_8_3 _ _ _ _ _)) ?_
    refine .ef (.alloc ti36 rfl (ones.of rfl)) ?_
    rintro _ _ ⟨b11, rfl, rfl⟩
    refine .ef0 (.storeAll (vs := Sn.cells askC) ts36 rfl rfl rfl .head rfl (ones.of rfl)) ?_
    rintro _ _ rfl
    refine .nil ?_
    refine .seq ?_
    refine .region ?_   -- R13 more.go:52
    refine .rd (.move rfl) ?_
    refine .rd (.ldN ia36 ts36 rfl .head rfl) ?_
    refine .ef (.buildOne (cs := Sn.cells askC) Try.underlying22 ti36 (by decide) rfl rfl rfl (ones.of rfl)) ?_
    rintro _ _ ⟨bs1, rfl, rfl⟩
    refine .ef (.append rfl rfl Try.underlying22 ti36 rfl (ones.of rfl) (by decide) (by decide) rfl rfl (.tail (.tail .head)) (n := (rises (oF offs) j).length) (m := 1) (by rw [flat_length Sn.cells_len]) (.srcBlk (ys := Sn.cells askC) .head Try.underlying22 rfl (by decide)) (by omega)) ?_
    rintro _ _ ⟨ta, tc, rfl, tn, rfl⟩
    refine .alter (t := 51) (v' := .slice ta ((rises (oF offs) j) ++ [askC]).length tc) rfl (by simp only [List.length_append, List.length_cons, List.length_nil]) ?_
    refine .rd (.assign rfl) ?_
    refine .nil ?_
    refine .cast (X' := arr 36 12 ta tc (((rises (oF offs) j) ++ [askC]).flatMap Sn.cells)) (by rw [List.flatMap_append]; simp) ?_
    refine .seq ?_
    refine .region ?_   -- R14 more.go:53
    refine .rd (.fieldAddr fd36_11 rfl) ?_
    refine .ef0 (.store ts4 rfl rfl (.tail (.tail .head)) rfl (Nat.le_of_ble_eq_true rfl)) ?_
    rintro _ _ rfl
    refine .nil ?_
    refine .seq ?_
    refine .region ?_   -- R15 more.go:54
    refine .rd (.fieldAddr fd36_4 rfl) ?_
    refine .ef0 (.store ts3 rfl rfl .head rfl (Nat.le_of_ble_eq_true rfl)) ?_
    rintro _ _ rfl
    refine .nil ?_
    refine .cast (X' := blk b11 (Sn.cells (askR (-1))) 36) (rfl) ?_
    refine .seq ?_
    refine .seq ?_
    refine .region ?_   -- R16 more.go:55
    refine .rd (.move rfl) ?_
    refine .rd (.move rfl) ?_
    refine .rd (.lt rfl rfl) ?_
    refine .nil ?_
    refine .condP rfl (fun h16 => ?_) (fun h16 => ?_)
    · have hst : staleL (oF offs) j (oF offs kk) = decide (kk + 1 < j) := stale_some _ _ _ (by omega) (fun m _ h => oF_inj offs h) (by have := oF_nn offs kk; omega)
      obtain ⟨x, hx⟩ : ∃ x, offs[kk]? = some x := ⟨_, List.getElem?_eq_getElem (by omega)⟩
      have hxi := hoffs x (List.mem_of_getElem? hx)
      have ho := oF_at hx
      have hon := pickN_nn (c := x) (n := 100) (by decide)
      have hol := pickN_lt (c := x) (n := 100) (by decide)
      refine .tell (φ := ∃ b o, a = some ⟨b, o, none⟩) (Knows.pick (.tail (.tail (.tail .head))) (k.mono fun _ h => RowAt.addr h (by rw [flat_length icell_len]; omega))) (fun hh => ?_)
      obtain ⟨bb, oo, rfl⟩ := hh
      refine .region ?_   -- R17 more.go:56
      refine .rd (.move rfl) ?_
      refine .rd (.mul rfl rfl (by omega) (by omega)) ?_
      refine .rd (.move rfl) ?_
      refine .rd (.move rfl) ?_
      refine .rd (.indexAddr Try.underlying40 ts3 rfl rfl (by omega) (by omega)) ?_
      refine .rd (.load na3 rfl (Knows.elem (f := icell) icell_len (by decide) (Knows.pick (.tail (.tail (.tail .head))) k) hx)) ?_
      refine .fn rfl rfl .nil (fun _ _ _ => trivial) (pick_ok x 100 hxi (by decide)) (fun v G1 hq => ?_)
      obtain ⟨rfl, rfl⟩ := hq
      simp only [List.nil_append]
      refine .rd (.add rfl rfl (by omega) (by omega)) ?_
      refine .alter (t := 64) (v' := .int .i64 (oF offs kk)) rfl (by rw [ho]) ?_
      refine .rd (.fieldAddr fd36_4 rfl) ?_
      refine .ef0 (.store ts3 rfl rfl .head rfl (Nat.le_of_ble_eq_true rfl)) ?_
      rintro _ _ rfl
      refine .nil ?_
      refine .cast (X' := blk b11 (Sn.cells (askR (oF offs kk))) 36) (rfl) ?_
      refine .seq ?_
      have hlen1 : ((rises (oF offs) j) ++ [askC]).length = 2 * j + 1 := by rw [List.length_append, hlen]; rfl
      refine .region ?_   -- R18 more.go:58
      refine .rd (.move rfl) ?_
      refine .rd (.ldN ia36 ts36 rfl .head rfl) ?_
      refine .ef (.buildOne (cs := Sn.cells (askR (oF offs kk))) Try.underlying22 ti36 (by decide) rfl rfl rfl (ones.of rfl)) ?_
      rintro _ _ ⟨bs1, rfl, rfl⟩
      refine .ef (.append rfl rfl Try.underlying22 ti36 rfl (ones.of rfl) (by decide) (by decide) rfl rfl (.tail (.tail .head)) (n := ((rises (oF offs) j) ++ [askC]).length) (m := 1) (by rw [flat_length Sn.cells_len]) (.srcBlk (ys := Sn.cells (askR (oF offs kk))) .head Try.underlying22 rfl (by decide)) (by omega)) ?_
      rintro _ _ ⟨va, vc, rfl, vn, rfl⟩
      refine .alter (t := 69) (v' := .slice va (((rises (oF offs) j) ++ [askC]) ++ [(askR (oF offs kk))]).length vc) rfl (by simp only [List.length_append, List.length_cons, List.length_nil]) ?_
      refine .rd (.assign rfl) ?_
      refine .nil ?_
      refine .cast (X' := arr 36 12 va vc ((((rises (oF offs) j) ++ [askC]) ++ [(askR (oF offs kk))]).flatMap Sn.cells)) (by rw [List.flatMap_append]; simp) ?_
      refine .seq ?_
      refine .region ?_   -- R19 more.go:59
      refine .rd (.move rfl) ?_
      refine .fn rfl rfl .nil (Knows.arr .head) (Check_ok ((rises (oF offs) j) ++ [askC] ++ [askR (oF offs kk)]) va vc (by simp only [List.length_append, hlen]; show 2 * j + 1 + 1 ≤ _; omega)) (fun v G1 hq => ?_)
      obtain ⟨rfl, rfl⟩ := hq
      simp only [List.nil_append]
      rw [rise_end]
      refine .rd (.move rfl) ?_
      refine .rd (.extract rfl rfl) ?_
      refine .rd (.extract rfl rfl) ?_
      refine .rd (.assign rfl) ?_
      refine .rd (.assign rfl) ?_
      refine .nil ?_
      refine .seq ?_
      refine .seq ?_
      refine .region ?_   -- R20 more.go:60
      refine .rd (.move rfl) ?_
      refine .rd (.move rfl) ?_
      refine .rd (.sub rfl rfl (by omega) (by omega)) ?_
      refine .rd (.eqI rfl rfl) ?_
      refine .rd (.move rfl) ?_
      refine .split (t := 79) rfl (fun g20 => ?_) (fun g20 => ?_)
      · replace g20 := of_decide_eq_true g20
        refine .off (t := 79) rfl rfl rfl ?_
        refine .off (t := 79) rfl rfl rfl ?_
        refine .rd (.pickT rfl rfl) ?_
        refine .nil ?_
        refine .condT rfl ?_
        refine .seq ?_
        refine .region ?_   -- R21 more.go:61
        refine .rd (.move rfl) ?_
        refine .rd (.move rfl) ?_
        refine .on (t := 84) rfl rfl ?_
        refine .rd (.move rfl) ?_
        refine .on (t := 84) rfl rfl ?_
        refine .rd (.eqI rfl rfl) ?_
        refine .alter (t := 86) (v' := .bool true) rfl (by rw [hst, decide_eq_false (p := kk + 1 < j) (by omega)]; rfl) ?_
        refine .rd (.pickT rfl rfl) ?_
        refine .rd (.assign rfl) ?_
        refine .nil ?_
        refine .retP Try.func6 (.cons (.tmp rfl) .nil) (.cons (.tail (.tail (.tail (.tail .head)))) .nil) ?_
        exact ⟨[], ⟨rfl, rfl⟩, rfl⟩
      · replace g20 := of_decide_eq_false g20
        refine .on (t := 79) rfl rfl ?_
        refine .rd (.move rfl) ?_
        refine .on (t := 79) rfl rfl ?_
        refine .rd (.eqI rfl rfl) ?_
        refine .rd (.pickF rfl rfl) ?_
        refine .nil ?_
        refine .condP rfl (fun h20 => ?_) (fun h20 => ?_)
        · refine .seq ?_
          refine .region ?_   -- R21 more.go:61
          refine .rd (.move rfl) ?_
          refine .rd (.move rfl) ?_
          refine .on (t := 84) rfl rfl ?_
          refine .rd (.move rfl) ?_
          refine .on (t := 84) rfl rfl ?_
          refine .rd (.eqI rfl rfl) ?_
          refine .alter (t := 86) (v' := .bool true) rfl (by rw [hst, decide_eq_false (p := kk + 1 < j) (by omega)]; rfl) ?_
          refine .rd (.pickT rfl rfl) ?_
          refine .rd (.assign rfl) ?_
          refine .nil ?_
          refine .retP Try.func6 (.cons (.tmp rfl) .nil) (.cons (.tail (.tail (.tail (.tail .head)))) .nil) ?_
          exact ⟨[], ⟨rfl, rfl⟩, rfl⟩
        · refine .skip ?_
          refine .seq ?_
          have hlen2 : ((rises (oF offs) j) ++ [askC] ++ [askR (oF offs kk)]).length = 2 * j + 2 := by simp only [List.length_append, hlen]; rfl
          refine .region ?_   -- R22 more.go:63
          refine .rd (.move rfl) ?_
          refine .rd (.move rfl) ?_
          refine .on (t := 89) rfl rfl ?_
          refine .rd (.move rfl) ?_
          refine .on (t := 89) rfl rfl ?_
          refine .rd (.move rfl) ?_
          refine .on (t := 89) rfl rfl ?_
          refine .rd (.lenL rfl rfl Try.underlying22 rfl) ?_
          refine .on (t := 89) rfl rfl ?_
          refine .rd (.sub rfl rfl (by omega) (by omega)) ?_
          refine .alter (t := 93) (v' := .int .i64 (2 * (j : Int) + 1)) rfl (congrArg (Value.int .i64) (by simp only [List.length_append, hlen]; show ((2 * j + 1 + 1 : Nat) : Int) - 1 = _; omega)) ?_
          refine .on (t := 89) rfl rfl ?_
          refine .rd (.eqI rfl rfl) ?_
          refine .alter (t := 94) (v' := .bool true) rfl (by rw [hst, decide_eq_true (p := kk + 1 < j) (by omega)]; exact congrArg Value.bool (decide_eq_true rfl)) ?_
          refine .rd (.pickT rfl rfl) ?_
          refine .rd (.move rfl) ?_
          refine .on (t := 96) rfl rfl ?_
          refine .rd (.move rfl) ?_
          refine .on (t := 96) rfl rfl ?_
          refine .rd (.eqT (m := wCommit) rfl rfl) ?_
          refine .alter (t := 98) (v' := .bool true) rfl (by rw [hst, decide_eq_true (p := kk + 1 < j) (by omega)]; exact congrArg Value.bool (decide_eq_true rfl)) ?_
          refine .rd (.pickT rfl rfl) ?_
          refine .rd (.assign rfl) ?_
          refine .nil ?_
          refine .retP Try.func6 (.cons (.tmp rfl) .nil) (.cons (.tail (.tail (.tail (.tail .head)))) .nil) ?_
          exact ⟨[], ⟨rfl, rfl⟩, rfl⟩
    · have hst : staleL (oF offs) j (-1) = decide (0 < j) := stale_none _ _
      refine .skip ?_
      refine .seq ?_
      have hlen1 : ((rises (oF offs) j) ++ [askC]).length = 2 * j + 1 := by rw [List.length_append, hlen]; rfl
      refine .region ?_   -- R18 more.go:58
      refine .rd (.move rfl) ?_
      refine .rd (.ldN ia36 ts36 rfl .head rfl) ?_
      refine .ef (.buildOne (cs := Sn.cells (askR (-1))) Try.underlying22 ti36 (by decide) rfl rfl rfl (ones.of rfl)) ?_
      rintro _ _ ⟨bs1, rfl, rfl⟩
      refine .ef (.append rfl rfl Try.underlying22 ti36 rfl (ones.of rfl) (by decide) (by decide) rfl rfl (.tail (.tail .head)) (n := ((rises (oF offs) j) ++ [askC]).length) (m := 1) (by rw [flat_length Sn.cells_len]) (.srcBlk (ys := Sn.cells (askR (-1))) .head Try.underlying22 rfl (by decide)) (by omega)) ?_
      rintro _ _ ⟨va, vc, rfl, vn, rfl⟩
      refine .alter (t := 69) (v' := .slice va (((rises (oF offs) j) ++ [askC]) ++ [(askR (-1))]).length vc) rfl (by simp only [List.length_append, List.length_cons, List.length_nil]) ?_
      refine .rd (.assign rfl) ?_
      refine .nil ?_
      refine .cast (X' := arr 36 12 va vc ((((rises (oF offs) j) ++ [askC]) ++ [(askR (-1))]).flatMap Sn.cells)) (by rw [List.flatMap_append]; simp) ?_
      refine .seq ?_
      refine .region ?_   -- R19 more.go:59
      refine .rd (.move rfl) ?_
      refine .fn rfl rfl .nil (Knows.arr .head) (Check_ok ((rises (oF offs) j) ++ [askC] ++ [askR (-1)]) va vc (by simp only [List.length_append, hlen]; show 2 * j + 1 + 1 ≤ _; omega)) (fun v G1 hq => ?_)
      obtain ⟨rfl, rfl⟩ := hq
      simp only [List.nil_append]
      rw [rise_end]
      refine .rd (.move rfl) ?_
      refine .rd (.extract rfl rfl) ?_
      refine .rd (.extract rfl rfl) ?_
      refine .rd (.assign rfl) ?_
      refine .rd (.assign rfl) ?_
      refine .nil ?_
      refine .seq ?_
      refine .seq ?_
      refine .region ?_   -- R20 more.go:60
      refine .rd (.move rfl) ?_
      refine .rd (.move rfl) ?_
      refine .rd (.sub rfl rfl (by omega) (by omega)) ?_
      refine .rd (.eqI rfl rfl) ?_
      refine .rd (.move rfl) ?_
      refine .split (t := 79) rfl (fun g20 => ?_) (fun g20 => ?_)
      · replace g20 := of_decide_eq_true g20
        refine .off (t := 79) rfl rfl rfl ?_
        refine .off (t := 79) rfl rfl rfl ?_
        refine .rd (.pickT rfl rfl) ?_
        refine .nil ?_
        refine .condT rfl ?_
        refine .seq ?_
        refine .region ?_   -- R21 more.go:61
        refine .rd (.move rfl) ?_
        refine .rd (.move rfl) ?_
        refine .on (t := 84) rfl rfl ?_
        refine .rd (.move rfl) ?_
        refine .on (t := 84) rfl rfl ?_
        refine .rd (.eqI rfl rfl) ?_
        refine .alter (t := 86) (v' := .bool true) rfl (by rw [hst, decide_eq_false (p := 0 < j) (by omega)]; rfl) ?_
        refine .rd (.pickT rfl rfl) ?_
        refine .rd (.assign rfl) ?_
        refine .nil ?_
        refine .retP Try.func6 (.cons (.tmp rfl) .nil) (.cons (.tail (.tail (.tail (.tail .head)))) .nil) ?_
        exact ⟨[], ⟨rfl, rfl⟩, rfl⟩
      · replace g20 := of_decide_eq_false g20
        refine .on (t := 79) rfl rfl ?_
        refine .rd (.move rfl) ?_
        refine .on (t := 79) rfl rfl ?_
        refine .rd (.eqI rfl rfl) ?_
        refine .rd (.pickF rfl rfl) ?_
        refine .nil ?_
        refine .condP rfl (fun h20 => ?_) (fun h20 => ?_)
        · refine .seq ?_
          refine .region ?_   -- R21 more.go:61
          refine .rd (.move rfl) ?_
          refine .rd (.move rfl) ?_
          refine .on (t := 84) rfl rfl ?_
          refine .rd (.move rfl) ?_
          refine .on (t := 84) rfl rfl ?_
          refine .rd (.eqI rfl rfl) ?_
          refine .alter (t := 86) (v' := .bool true) rfl (by rw [hst, decide_eq_false (p := 0 < j) (by omega)]; rfl) ?_
          refine .rd (.pickT rfl rfl) ?_
          refine .rd (.assign rfl) ?_
          refine .nil ?_
          refine .retP Try.func6 (.cons (.tmp rfl) .nil) (.cons (.tail (.tail (.tail (.tail .head)))) .nil) ?_
          exact ⟨[], ⟨rfl, rfl⟩, rfl⟩
        · refine .skip ?_
          refine .seq ?_
          have hlen2 : ((rises (oF offs) j) ++ [askC] ++ [askR (-1)]).length = 2 * j + 2 := by simp only [List.length_append, hlen]; rfl
          refine .region ?_   -- R22 more.go:63
          refine .rd (.move rfl) ?_
          refine .rd (.move rfl) ?_
          refine .on (t := 89) rfl rfl ?_
          refine .rd (.move rfl) ?_
          refine .on (t := 89) rfl rfl ?_
          refine .rd (.move rfl) ?_
          refine .on (t := 89) rfl rfl ?_
          refine .rd (.lenL rfl rfl Try.underlying22 rfl) ?_
          refine .on (t := 89) rfl rfl ?_
          refine .rd (.sub rfl rfl (by omega) (by omega)) ?_
          refine .alter (t := 93) (v' := .int .i64 (2 * (j : Int) + 1)) rfl (congrArg (Value.int .i64) (by simp only [List.length_append, hlen]; show ((2 * j + 1 + 1 : Nat) : Int) - 1 = _; omega)) ?_
          refine .on (t := 89) rfl rfl ?_
          refine .rd (.eqI rfl rfl) ?_
          refine .alter (t := 94) (v' := .bool true) rfl (by rw [hst, decide_eq_true (p := 0 < j) (by omega)]; exact congrArg Value.bool (decide_eq_true rfl)) ?_
          refine .rd (.pickT rfl rfl) ?_
          refine .rd (.move rfl) ?_
          refine .on (t := 96) rfl rfl ?_
          refine .rd (.move rfl) ?_
          refine .on (t := 96) rfl rfl ?_
          refine .rd (.eqT (m := wCommit) rfl rfl) ?_
          refine .alter (t := 98) (v' := .bool true) rfl (by rw [hst, decide_eq_true (p := 0 < j) (by omega)]; exact congrArg Value.bool (decide_eq_true rfl)) ?_
          refine .rd (.pickT rfl rfl) ?_
          refine .rd (.assign rfl) ?_
          refine .nil ?_
          refine .retP Try.func6 (.cons (.tmp rfl) .nil) (.cons (.tail (.tail (.tail (.tail .head)))) .nil) ?_
          exact ⟨[], ⟨rfl, rfl⟩, rfl⟩

end Go.Proofs.Ytahpokcigdjilaa

