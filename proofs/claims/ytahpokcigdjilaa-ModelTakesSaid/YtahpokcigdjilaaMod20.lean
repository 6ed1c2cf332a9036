/- Steps through functions of the program, under conditions that each theorem states (part mod20 of a claim). -/
import Derived.Test.YtahpokcigdjilaaProg
import Derived.Test.YtahpokcigdjilaaDefs22l
import Derived.Test.YtahpokcigdjilaaMod13
namespace Go.Proofs.Ytahpokcigdjilaa
open Go Go.Sp

set_option linter.unusedVariables false

namespace mod20
theorem ti29 : TI Try.prog 29 4 96 (.agg #[.slice none 0 0, .slice none 0 0, .slice none 0 0, .slice none 0 0]) := .of (by kernel_rfl)
theorem ti30 : TI Try.prog 30 4 32 (.agg #[.int .i64 0, .int .i64 0, .int .i64 0, .int .i64 0]) := .of (by kernel_rfl)
theorem ts32 : TS Try.prog 32 4 := .of (by kernel_rfl)
theorem ia32 : IsAgg Try.prog 32 := ⟨_, Try.underlying32, trivial⟩
theorem ti32 : TI Try.prog 32 4 32 (.agg #[.int .i64 0, .int .i64 0, .int .i64 0, .int .i64 0]) := .of (by kernel_rfl)
theorem fd32_2 : FD Try.prog 32 2 2 := .of Try.underlying32 (by kernel_rfl)
theorem na3 : NotAgg Try.prog 3 := ⟨_, Try.underlying3, trivial⟩
theorem fd32_1 : FD Try.prog 32 1 1 := .of Try.underlying32 (by kernel_rfl)
theorem bld36_0_1_3 (x0 : Int) (x1 : Int) (x2 : Int) (w : World) : (Instr.build 36 (([0, 1, 3] : List Nat).zip [.int .i64 x0, .int .i64 x1, .int .i64 x2]).toArray).run Try.prog w = .ok (.agg #[.int .i64 x0, .int .i64 x1, .int .i64 0, .int .i64 x2, .int .i64 0, .int .i64 0, .int .i64 0, .int .i64 0, .string ⟨#[]⟩, .string ⟨#[]⟩, .int .i64 0, .bool false]) w := by kernel_rfl
theorem ti36 : TI Try.prog 36 12 112 (.agg #[.int .i64 0, .int .i64 0, .int .i64 0, .int .i64 0, .int .i64 0, .int .i64 0, .int .i64 0, .int .i64 0, .string ⟨#[]⟩, .string ⟨#[]⟩, .int .i64 0, .bool false]) := .of (by kernel_rfl)
theorem ts36 : TS Try.prog 36 12 := .of (by kernel_rfl)
theorem ia36 : IsAgg Try.prog 36 := ⟨_, Try.underlying36, trivial⟩
theorem fd32_0 : FD Try.prog 32 0 0 := .of Try.underlying32 (by kernel_rfl)
theorem fd36_11 : FD Try.prog 36 11 11 := .of Try.underlying36 (by kernel_rfl)
theorem ts4 : TS Try.prog 4 1 := .of (by kernel_rfl)
theorem fd32_3 : FD Try.prog 32 3 3 := .of Try.underlying32 (by kernel_rfl)
theorem fd36_10 : FD Try.prog 36 10 10 := .of Try.underlying36 (by kernel_rfl)
theorem ts34 : TS Try.prog 34 1 := .of (by kernel_rfl)
theorem fd36_2 : FD Try.prog 36 2 2 := .of Try.underlying36 (by kernel_rfl)
theorem ts3 : TS Try.prog 3 1 := .of (by kernel_rfl)
theorem ti5 : TI Try.prog 5 1 1 (.int .u8 0) := .of (by kernel_rfl)
theorem fd36_9 : FD Try.prog 36 9 9 := .of Try.underlying36 (by kernel_rfl)
theorem ts9 : TS Try.prog 9 1 := .of (by kernel_rfl)
theorem fd36_5 : FD Try.prog 36 5 5 := .of Try.underlying36 (by kernel_rfl)
theorem ts28 : TS Try.prog 28 1 := .of (by kernel_rfl)
theorem na28 : NotAgg Try.prog 28 := ⟨_, Try.underlying28, trivial⟩
theorem fd36_7 : FD Try.prog 36 7 7 := .of Try.underlying36 (by kernel_rfl)
theorem fd36_4 : FD Try.prog 36 4 4 := .of Try.underlying36 (by kernel_rfl)
theorem na9 : NotAgg Try.prog 9 := ⟨_, Try.underlying9, trivial⟩
theorem ti9 : TI Try.prog 9 1 16 (.string ⟨#[]⟩) := .of (by kernel_rfl)
theorem fd36_8 : FD Try.prog 36 8 8 := .of Try.underlying36 (by kernel_rfl)
theorem fd36_3 : FD Try.prog 36 3 3 := .of Try.underlying36 (by kernel_rfl)
end mod20
open mod20

theorem max_lt (a b : Int) : max a b = if a < b then b else a := by split <;> omega
theorem fillT (x0 x1 x2 : Int) : Instr.fill (fun i => some (i * 1, 1)) (madeCells (Value.int .u8 0).cells (3 * 1)) [(0, .int .u8 x0), (1, .int .u8 x1), (2, .int .u8 x2)] = some [.int .u8 x0, .int .u8 x1, .int .u8 x2].toArray := by kernel_rfl

set_option maxHeartbeats 2000000 in
set_option maxRecDepth 20000 in
theorem ModelTakes_ok (sc : List Stp) (a : Option Addr) (c : Nat) (hsc : ∀ o ∈ sc, o.ok) (hl : sc.length ≤ 140737488351232) : Cn Try.prog 4 [.slice a sc.length c] (RowAt a (sc.flatMap Stp.cells)) [] fun v G => v = .bool true ∧ G = [] := by
  refine .enter Try.func4 rfl (by kernel_rfl) rfl fun R k => ?_
  refine .seq ?_
  refine .region ?_   -- R0 law.go:86
  refine .rd (.assign rfl) ?_
  refine .nil ?_
  refine .seq ?_
  refine .region ?_   -- R1 law.go:87
  refine .fn rfl rfl .nil (fun _ _ _ => trivial) (shown_ok) (fun v G1 hq => ?_)
  obtain ⟨rfl, rfl⟩ := hq
  simp only [List.nil_append]
  refine .rd (.assign rfl) ?_
  refine .nil ?_
  refine .seq ?_
  refine .region ?_   -- R2 law.go:88
  refine .rd (.assign rfl) ?_
  refine .nil ?_
  refine .seq ?_
  refine .region ?_   -- R3 law.go:89
  refine .ef (.alloc ti29 rfl (ones.of rfl)) ?_
  rintro _ _ ⟨b5, rfl, rfl⟩
  refine .nil ?_
  refine .seq ?_
  refine .region ?_   -- R4 law.go:90
  refine .ef (.alloc ti30 rfl (ones.of rfl)) ?_
  rintro _ _ ⟨b6, rfl, rfl⟩
  refine .nil ?_
  refine .seq ?_
  refine .region ?_   -- R5 law.go:91
  refine .rd (.assign rfl) ?_
  refine .nil ?_
  refine .seq ?_
  refine .region ?_   -- R6 law.go:92
  refine .rd (.assign rfl) ?_
  refine .nil ?_
  refine .seq ?_
  refine .region ?_   -- R7 law.go:93
  refine .rd (.assign rfl) ?_
  refine .nil ?_
  refine .nilArr 9 1 none ?_
  refine .nilArr 9 1 none ?_
  refine .nilArr 9 1 none ?_
  refine .nilArr 9 1 none ?_
  refine .close (X := bag (rowsOf 9 1 tcell) T0) (B := [arr 9 1 none 0 [], arr 9 1 none 0 [], arr 9 1 none 0 [], arr 9 1 none 0 []]) (.cons .head (.cons .head (.cons .head (.cons .head .nil)))) (fun h H => H) ?_
  refine .nilArr 36 12 none ?_
  refine .nilArr 36 12 none ?_
  refine .perm (.cons (.tail (.tail (.tail (.tail .head)))) (.cons .head (.cons .head (.cons .head (.cons .head (.cons .head .nil)))))) ?_
  refine .cast (X' := blk b5 (logC T0) 29) (rfl) ?_
  refine .perm (.cons (.tail (.tail (.tail (.tail .head)))) (.cons .head (.cons .head (.cons .head (.cons .head (.cons .head .nil)))))) ?_
  refine .cast (X' := blk b6 (([0, 0, 0, 0] : List Int).map (Value.int .i64)) 30) (rfl) ?_
  refine .seq ?_
  refine .seq ?_
  refine .region ?_   -- R8 law.go:94
  refine .rd (.assign rfl) ?_
  refine .nil ?_
  refine .block ?_
  refine .loop (σ := Nat × Option Addr × Nat × List Sn × Option Addr × Nat × List Sn × List (Int × Row Tx) × List Int × Int × Int) (fun ⟨i, la, lc, h, oa, oc, opn, T, st, gen, off⟩ => TW sc.length i h opn T st gen off) (fun ⟨i, la, lc, h, oa, oc, opn, T, st, gen, off⟩ => sc.length - i) (fun ⟨i, la, lc, h, oa, oc, opn, T, st, gen, off⟩ => [(0, .slice a sc.length c), (3, .bool true), (4, .slice la h.length lc), (5, .pointer (some ⟨b5, 0, none⟩)), (6, .pointer (some ⟨b6, 0, none⟩)), (7, .int .i64 gen), (8, .int .i64 off), (9, .slice oa opn.length oc), (10, .int .i64 (i : Nat))]) (fun ⟨i, la, lc, h, oa, oc, opn, T, st, gen, off⟩ => [arr 36 12 la lc (h.flatMap Sn.cells), arr 36 12 oa oc (opn.flatMap Sn.cells), blk b5 (logC T) 29, blk b6 (st.map (Value.int .i64)) 30, bag (rowsOf 9 1 tcell) T, R]) (0, none, 0, [], none, 0, [], T0, [0, 0, 0, 0], 0, -1) (TW.start _) (.cons rfl (.cons rfl (.cons rfl (.cons rfl (.cons rfl (.cons rfl (.cons rfl (.cons rfl (.cons rfl .nil))))))))) (.cons (.tail (.tail .head)) (.cons (.tail (.tail .head)) (.cons (.tail .head) (.cons .head (.cons .head (.cons .head .nil)))))) (fun s' hI ih => ?_)
  obtain ⟨i, la, lc, h, oa, oc, opn, T, st, gen, off⟩ := s'
  dsimp only at hI ih ⊢
  have W := hI
  have hWi := W.le
  have hWh := W.hl
  have hWo := W.ol
  have hg0 := W.g0
  have hg1 := W.g1
  refine .seq ?_
  refine .seq ?_
  refine .region ?_   -- R9 law.go:94
  refine .rd (.move rfl) ?_
  refine .rd (.move rfl) ?_
  refine .rd (.lenL rfl rfl Try.underlying27 rfl) ?_
  refine .rd (.lt rfl rfl) ?_
  refine .rd (.move rfl) ?_
  refine .split (t := 22) rfl (fun g9 => ?_) (fun g9 => ?_)
  · replace g9 := of_decide_eq_true g9
    refine .on (t := 22) rfl rfl ?_
    refine .rd (.move rfl) ?_
    refine .on (t := 22) rfl rfl ?_
    refine .rd (.lt rfl rfl) ?_
    refine .rd (.pickT rfl rfl) ?_
    refine .nil ?_
    refine .condP rfl (fun h9 => ?_) (fun h9 => ?_)
    · refine .skip ?_
      refine .seq ?_
      refine .block ?_
      refine .seq ?_
      have hi1 : i < sc.length := by omega
      have hi2 : i < 100 := by omega
      obtain ⟨o, ho⟩ : ∃ o, sc[i]? = some o := ⟨_, List.getElem?_eq_getElem hi1⟩
      obtain ⟨ok1, ok2, ok3, ok4⟩ := hsc o (List.mem_of_getElem? ho)
      obtain ⟨p, hpp⟩ : ∃ p : Nat, pickN o.part 4 = p := ⟨(pickN o.part 4).toNat, by have := pickN_nn (c := o.part) (n := 4) (by decide); omega⟩
      have hp4 : p < 4 := by have := pickN_lt (c := o.part) (n := 4) (by decide); omega
      obtain ⟨⟨qa, qc, ql⟩, hrp⟩ : ∃ r, (mget T (p : Int)).getD row0 = r := ⟨_, rfl⟩
      have hget := W.four.get hp4
      rw [hrp] at hget
      have hql := W.ll (p : Int)
      rw [hrp] at hql
      dsimp only at hql
      have hsg : (st.map (Value.int .i64))[p]? = some (.int .i64 (st.getD p 0)) := by
        have hps : p < st.length := by rw [W.st]; exact hp4
        rw [List.getElem?_map, List.getElem?_eq_getElem hps, List.getD_eq_getElem?_getD, List.getElem?_eq_getElem hps]; rfl
      refine .tell (φ := ∃ b o, a = some ⟨b, o, none⟩) (Knows.pick (.tail (.tail (.tail (.tail (.tail .head))))) (k.mono fun _ h => RowAt.addr h (by rw [flat_length Stp.cells_len]; omega))) (fun hh => ?_)
      obtain ⟨bb, oo, rfl⟩ := hh
      refine .region ?_   -- R11 law.go:95
      refine .rd (.move rfl) ?_
      refine .rd (.move rfl) ?_
      refine .rd (.indexAddr Try.underlying27 ts32 rfl rfl (by omega) (by omega)) ?_
      refine .rd (.loadN ia32 ts32 rfl rfl (Knows.elem (f := Stp.cells) Stp.cells_len (by decide) (Knows.pick (.tail (.tail (.tail (.tail (.tail .head))))) k) ho)) ?_
      refine .ef (.alloc ti32 rfl (ones.of rfl)) ?_
      rintro _ _ ⟨b11, rfl, rfl⟩
      refine .ef0 (.storeAll (vs := o.cells) ts32 rfl rfl rfl .head rfl (ones.of rfl)) ?_
      rintro _ _ rfl
      refine .nil ?_
      refine .seq ?_
      refine .region ?_   -- R12 law.go:96
      refine .rd (.fieldAddr fd32_2 rfl) ?_
      refine .rd (.ld na3 rfl .head rfl) ?_
      refine .fn rfl rfl .nil (fun _ _ _ => trivial) (pick_ok o.part 4 ok3 (by decide)) (fun v G1 hq => ?_)
      obtain ⟨rfl, rfl⟩ := hq
      simp only [List.nil_append]
      refine .alter (t := 34) (v' := .int .i64 (p : Nat)) rfl (by rw [hpp]) ?_
      refine .rd (.assign rfl) ?_
      refine .nil ?_
      refine .seq ?_
      refine .region ?_   -- R13 law.go:97
      refine .rd (.fieldAddr fd32_1 rfl) ?_
      refine .rd (.ld na3 rfl .head rfl) ?_
      refine .fn rfl rfl .nil (fun _ _ _ => trivial) (pick_ok o.client 3 ok2 (by decide)) (fun v G1 hq => ?_)
      obtain ⟨rfl, rfl⟩ := hq
      simp only [List.nil_append]
      have hc0 := pickN_nn (c := o.client) (n := 3) (by decide)
      have hc1 := pickN_lt (c := o.client) (n := 3) (by decide)
      refine .rd (.add rfl rfl (by omega) (by omega)) ?_
      refine .rd (.move rfl) ?_
      refine .rd (.add rfl rfl (by omega) (by omega)) ?_
      refine .rd (.move rfl) ?_
      refine .rd (.build rfl (bld36_0_1_3 _ _ _)) ?_
      refine .ef (.alloc ti36 rfl (ones.of rfl)) ?_
      rintro _ _ ⟨b13, rfl, rfl⟩
      refine .ef0 (.storeAll (vs := Sn.cells (⟨(101 + pickN o.client 3), ((i : Int) + 1), 0, (p : Int), 0, 0, 0, 0, [], [], 0, false⟩ : Sn)) ts36 rfl rfl rfl .head rfl (ones.of rfl)) ?_
      rintro _ _ rfl
      refine .nil ?_
      refine .seq ?_
      refine .region ?_   -- R14 law.go:98
      refine .rd (.ldN ia36 ts36 rfl .head rfl) ?_
      refine .ef (.alloc ti36 rfl (ones.of rfl)) ?_
      rintro _ _ ⟨b14, rfl, rfl⟩
      refine .ef0 (.storeAll (vs := Sn.cells (⟨(101 + pickN o.client 3), ((i : Int) + 1), 0, (p : Int), 0, 0, 0, 0, [], [], 0, false⟩ : Sn)) ts36 rfl rfl rfl .head rfl (ones.of rfl)) ?_
      rintro _ _ rfl
      refine .nil ?_
      refine .seq ?_
      refine .seq ?_
      refine .region ?_   -- R15 law.go:99
      refine .rd (.fieldAddr fd32_0 rfl) ?_
      refine .rd (.ld na3 rfl (.tail (.tail .head)) rfl) ?_
      refine .fn rfl rfl .nil (fun _ _ _ => trivial) (pick_ok o.kind 8 ok1 (by decide)) (fun v G1 hq => ?_)
      obtain ⟨rfl, rfl⟩ := hq
      simp only [List.nil_append]
      refine .nil ?_
      refine .joinEx (σ := Sn × Sn × List (Int × Row Tx) × List Int × Int × Int) (φ := fun ⟨s, r, T', st', gen', off'⟩ => Left i T st gen off s r T' st' gen' off') (E' := fun ⟨s, r, T', st', gen', off'⟩ => [(0, .slice (some ⟨bb, oo, none⟩) sc.length c), (3, .bool true), (4, .slice la h.length lc), (5, .pointer (some ⟨b5, 0, none⟩)), (6, .pointer (some ⟨b6, 0, none⟩)), (7, .int .i64 gen'), (8, .int .i64 off'), (9, .slice oa opn.length oc), (10, .int .i64 (i : Nat)), (11, .pointer (some ⟨b11, 0, none⟩)), (13, .pointer (some ⟨b13, 0, none⟩)), (14, .pointer (some ⟨b14, 0, none⟩))]) (Γ' := fun ⟨s, r, T', st', gen', off'⟩ => [blk b11 o.cells 32, blk b13 (Sn.cells s) 36, blk b14 (Sn.cells r) 36, arr 36 12 la lc (h.flatMap Sn.cells), arr 36 12 oa oc (opn.flatMap Sn.cells), blk b5 (logC T') 29, blk b6 (st'.map (Value.int .i64)) 30, bag (rowsOf 9 1 tcell) T', R]) (fun sj hj => ?_) (fun fin => ?_)
      · obtain ⟨s, r, T', st', gen', off'⟩ := sj
        dsimp only at hj ⊢
        have L := hj
        refine .seq ?_
        refine .region ?_   -- R64 law.go:153
        refine .rd (.fieldAddr fd36_11 rfl) ?_
        refine .ef0 (.store ts4 rfl rfl (.tail (.tail .head)) rfl (Nat.le_of_ble_eq_true rfl)) ?_
        rintro _ _ rfl
        refine .nil ?_
        refine .cast (X' := blk b14 (Sn.cells ({ r with done := true } : Sn)) 36) (rfl) ?_
        refine .seq ?_
        have hl1 : (h ++ [s]).length = h.length + 1 := by simp
        refine .region ?_   -- R65 law.go:154
        refine .rd (.move rfl) ?_
        refine .rd (.ldN ia36 ts36 rfl (.tail (.tail .head)) rfl) ?_
        refine .ef (.buildOne (cs := Sn.cells s) Try.underlying22 ti36 (by decide) rfl rfl rfl (ones.of rfl)) ?_
        rintro _ _ ⟨bs1, rfl, rfl⟩
        refine .ef (.append rfl rfl Try.underlying22 ti36 rfl (ones.of rfl) (by decide) (by decide) rfl rfl (.tail (.tail (.tail (.tail .head)))) (n := h.length) (m := 1) (by rw [flat_length Sn.cells_len]) (.srcBlk (ys := Sn.cells s) .head Try.underlying22 rfl (by decide)) (by first | omega | (rw [hl1]; omega))) ?_
        rintro _ _ ⟨ta, tc, rfl, tn, rfl⟩
        refine .alter (t := 203) (v' := .slice ta (h ++ [s]).length tc) rfl (by simp only [List.length_append, List.length_cons, List.length_nil]) ?_
        refine .rd (.assign rfl) ?_
        refine .nil ?_
        refine .cast (X' := arr 36 12 ta tc ((h ++ [s]).flatMap Sn.cells)) (by rw [List.flatMap_append]; simp) ?_
        refine .seq ?_
        refine .region ?_   -- R66 law.go:155
        refine .rd (.fieldAddr fd32_3 rfl) ?_
        refine .rd (.ld na3 rfl (.tail (.tail (.tail .head))) rfl) ?_
        refine .fn rfl rfl .nil (fun _ _ _ => trivial) (pick_ok o.n 4 ok4 (by decide)) (fun v G1 hq => ?_)
        obtain ⟨rfl, rfl⟩ := hq
        simp only [List.nil_append]
        refine .nil ?_
        refine .block ?_
        refine .seq ?_
        refine .region ?_   -- R68 law.go:156
        refine .rd (.eqI rfl rfl) ?_
        refine .rd (.assign rfl) ?_
        refine .nil ?_
        refine .condP rfl (fun h68 => ?_) (fun h68 => ?_)
        · refine .region ?_   -- R69 law.go:157
          refine .rd (.move rfl) ?_
          refine .rd (.ldN ia36 ts36 rfl (.tail (.tail .head)) rfl) ?_
          refine .ef (.buildOne (cs := Sn.cells ({ r with done := true } : Sn)) Try.underlying22 ti36 (by decide) rfl rfl rfl (ones.of rfl)) ?_
          rintro _ _ ⟨bs1, rfl, rfl⟩
          refine .ef (.append rfl rfl Try.underlying22 ti36 rfl (ones.of rfl) (by decide) (by decide) rfl rfl (.tail (.tail (.tail (.tail (.tail (.tail .head)))))) (n := opn.length) (m := 1) (by rw [flat_length Sn.cells_len]) (.srcBlk (ys := Sn.cells ({ r with done := true } : Sn)) .head Try.underlying22 rfl (by decide)) (by first | omega | (rw [hl1]; omega))) ?_
          rintro _ _ ⟨ua, uc, rfl, un, rfl⟩
          refine .alter (t := 216) (v' := .slice ua (opn ++ [({ r with done := true } : Sn)]).length uc) rfl (by simp only [List.length_append, List.length_cons, List.length_nil]) ?_
          refine .rd (.assign rfl) ?_
          refine .nil ?_
          refine .cast (X' := arr 36 12 ua uc ((opn ++ [({ r with done := true } : Sn)]).flatMap Sn.cells)) (by rw [List.flatMap_append]; simp) ?_
          refine .inBlock ?_
          refine .inBlock ?_
          refine .region ?_   -- R10 law.go:94
          refine .rd (.move rfl) ?_
          refine .rd (.add rfl rfl (by omega) (by omega)) ?_
          refine .rd (.assign rfl) ?_
          refine .nil ?_
          exact (ih (i + 1, ta, tc, h ++ [s], ua, uc, opn ++ [{ r with done := true }], T', st', gen', off') (W.next L hi1 hi2 (.inr (.inr ⟨rfl, rfl⟩))) (by show sc.length - (i + 1) < sc.length - i; omega)).to (.cons rfl (.cons rfl (.cons rfl (.cons rfl (.cons rfl (.cons rfl (.cons rfl (.cons rfl (.cons rfl .nil))))))))) (.cons (.tail (.tail .head)) (.cons .head (.cons (.tail (.tail (.tail (.tail (.tail .head))))) (.cons (.tail (.tail (.tail (.tail (.tail .head))))) (.cons (.tail (.tail (.tail (.tail (.tail .head))))) (.cons (.tail (.tail (.tail (.tail (.tail .head))))) .nil))))))
        · refine .seq ?_
          refine .region ?_   -- R70 law.go:158
          refine .rd (.eqI rfl rfl) ?_
          refine .rd (.assign rfl) ?_
          refine .nil ?_
          refine .condP rfl (fun h70 => ?_) (fun h70 => ?_)
          · refine .seq ?_
            refine .region ?_   -- R71 law.go:159
            refine .rd (.fieldAddr fd36_10 rfl) ?_
            refine .ef0 (.store ts34 rfl rfl (.tail (.tail .head)) rfl (Nat.le_of_ble_eq_true rfl)) ?_
            rintro _ _ rfl
            refine .nil ?_
            refine .cast (X' := blk b14 (Sn.cells (late { r with done := true })) 36) (rfl) ?_
            refine .region ?_   -- R72 law.go:160
            refine .rd (.move rfl) ?_
            refine .rd (.ldN ia36 ts36 rfl .head rfl) ?_
            refine .ef (.buildOne (cs := Sn.cells (late { r with done := true })) Try.underlying22 ti36 (by decide) rfl rfl rfl (ones.of rfl)) ?_
            rintro _ _ ⟨bs1, rfl, rfl⟩
            refine .ef (.append rfl rfl Try.underlying22 ti36 rfl (ones.of rfl) (by decide) (by decide) rfl rfl (.tail (.tail .head)) (n := (h ++ [s]).length) (m := 1) (by rw [flat_length Sn.cells_len]) (.srcBlk (ys := Sn.cells (late { r with done := true })) .head Try.underlying22 rfl (by decide)) (by first | omega | (rw [hl1]; omega))) ?_
            rintro _ _ ⟨ua, uc, rfl, un, rfl⟩
            refine .alter (t := 223) (v' := .slice ua ((h ++ [s]) ++ [(late { r with done := true })]).length uc) rfl (by simp only [List.length_append, List.length_cons, List.length_nil]) ?_
            refine .rd (.assign rfl) ?_
            refine .nil ?_
            refine .cast (X' := arr 36 12 ua uc (((h ++ [s]) ++ [(late { r with done := true })]).flatMap Sn.cells)) (by rw [List.flatMap_append]; simp) ?_
            refine .inBlock ?_
            refine .inBlock ?_
            refine .region ?_   -- R10 law.go:94
            refine .rd (.move rfl) ?_
            refine .rd (.add rfl rfl (by omega) (by omega)) ?_
            refine .rd (.assign rfl) ?_
            refine .nil ?_
            exact (ih (i + 1, ua, uc, h ++ [s] ++ [late { r with done := true }], oa, oc, opn, T', st', gen', off') (W.next L hi1 hi2 (.inr (.inl ⟨rfl, rfl⟩))) (by show sc.length - (i + 1) < sc.length - i; omega)).to (.cons rfl (.cons rfl (.cons rfl (.cons rfl (.cons rfl (.cons rfl (.cons rfl (.cons rfl (.cons rfl .nil))))))))) (.cons .head (.cons (.tail (.tail (.tail (.tail (.tail .head))))) (.cons (.tail (.tail (.tail (.tail (.tail .head))))) (.cons (.tail (.tail (.tail (.tail (.tail .head))))) (.cons (.tail (.tail (.tail (.tail (.tail .head))))) (.cons (.tail (.tail (.tail (.tail (.tail .head))))) .nil))))))
          · refine .region ?_   -- R67 law.go:162
            refine .rd (.move rfl) ?_
            refine .rd (.ldN ia36 ts36 rfl (.tail (.tail .head)) rfl) ?_
            refine .ef (.buildOne (cs := Sn.cells ({ r with done := true } : Sn)) Try.underlying22 ti36 (by decide) rfl rfl rfl (ones.of rfl)) ?_
            rintro _ _ ⟨bs1, rfl, rfl⟩
            refine .ef (.append rfl rfl Try.underlying22 ti36 rfl (ones.of rfl) (by decide) (by decide) rfl rfl (.tail .head) (n := (h ++ [s]).length) (m := 1) (by rw [flat_length Sn.cells_len]) (.srcBlk (ys := Sn.cells ({ r with done := true } : Sn)) .head Try.underlying22 rfl (by decide)) (by first | omega | (rw [hl1]; omega))) ?_
            rintro _ _ ⟨ua, uc, rfl, un, rfl⟩
            refine .alter (t := 210) (v' := .slice ua ((h ++ [s]) ++ [({ r with done := true } : Sn)]).length uc) rfl (by simp only [List.length_append, List.length_cons, List.length_nil]) ?_
            refine .rd (.assign rfl) ?_
            refine .nil ?_
            refine .cast (X' := arr 36 12 ua uc (((h ++ [s]) ++ [({ r with done := true } : Sn)]).flatMap Sn.cells)) (by rw [List.flatMap_append]; simp) ?_
            refine .inBlock ?_
            refine .inBlock ?_
            refine .region ?_   -- R10 law.go:94
            refine .rd (.move rfl) ?_
            refine .rd (.add rfl rfl (by omega) (by omega)) ?_
            refine .rd (.assign rfl) ?_
            refine .nil ?_
            exact (ih (i + 1, ua, uc, h ++ [s] ++ [{ r with done := true }], oa, oc, opn, T', st', gen', off') (W.next L hi1 hi2 (.inl ⟨rfl, rfl⟩)) (by show sc.length - (i + 1) < sc.length - i; omega)).to (.cons rfl (.cons rfl (.cons rfl (.cons rfl (.cons rfl (.cons rfl (.cons rfl (.cons rfl (.cons rfl .nil))))))))) (.cons .head (.cons (.tail (.tail (.tail (.tail (.tail .head))))) (.cons (.tail (.tail (.tail (.tail (.tail .head))))) (.cons (.tail (.tail (.tail (.tail (.tail .head))))) (.cons (.tail (.tail (.tail (.tail (.tail .head))))) (.cons (.tail (.tail (.tail (.tail (.tail .head))))) .nil))))))
      · refine .block ?_
        refine .seq ?_
        refine .seq ?_
        refine .region ?_   -- R19 law.go:100
        refine .rd (.eqI rfl rfl) ?_
        refine .rd (.assign rfl) ?_
        refine .nil ?_
        refine .joinAt (E' := [(0, .slice (some ⟨bb, oo, none⟩) sc.length c), (3, .bool true), (4, .slice la h.length lc), (5, .pointer (some ⟨b5, 0, none⟩)), (6, .pointer (some ⟨b6, 0, none⟩)), (7, .int .i64 gen), (8, .int .i64 off), (9, .slice oa opn.length oc), (10, .int .i64 (i : Nat)), (11, .pointer (some ⟨b11, 0, none⟩)), (12, .int .i64 (p : Nat)), (13, .pointer (some ⟨b13, 0, none⟩)), (14, .pointer (some ⟨b14, 0, none⟩)), (46, .int .i64 (pickN o.kind 8)), (58, .bool (decide ((pickN o.kind 8) = 0) || decide ((pickN o.kind 8) = 1)))]) (Γ' := [blk b11 o.cells 32, blk b13 (Sn.cells (⟨(101 + pickN o.client 3), ((i : Int) + 1), 0, (p : Int), 0, 0, 0, 0, [], [], 0, false⟩ : Sn)) 36, blk b14 (Sn.cells (⟨(101 + pickN o.client 3), ((i : Int) + 1), 0, (p : Int), 0, 0, 0, 0, [], [], 0, false⟩ : Sn)) 36, arr 36 12 la lc (h.flatMap Sn.cells), arr 36 12 oa oc (opn.flatMap Sn.cells), blk b5 (logC T) 29, blk b6 (st.map (Value.int .i64)) 30, bag (rowsOf 9 1 tcell) T, R]) ?_ (fun fin => ?_)
        · refine .cond rfl (fun h119 => ?_) (fun h119 => ?_)
          · refine .seq ?_
            refine .region ?_   -- R21 law.go:101
            refine .rd (.fieldAddr fd36_2 rfl) ?_
            refine .ef0 (.store ts3 rfl rfl (.tail .head) rfl (Nat.le_of_ble_eq_true rfl)) ?_
            rintro _ _ rfl
            refine .nil ?_
            refine .cast (X' := blk b13 (Sn.cells (⟨(101 + pickN o.client 3), ((i : Int) + 1), 10, (p : Int), 0, 0, 0, 0, [], [], 0, false⟩ : Sn)) 36) (rfl) ?_
            refine .seq ?_
            refine .region ?_   -- R22 law.go:102
            refine .rd (.fieldAddr fd32_3 rfl) ?_
            refine .rd (.ld na3 rfl (.tail .head) rfl) ?_
            refine .fn rfl rfl .nil (fun _ _ _ => trivial) (pick_ok o.n 26 ok4 (by decide)) (fun v G1 hq => ?_)
            obtain ⟨rfl, rfl⟩ := hq
            simp only [List.nil_append]
            have hn0 := pickN_nn (c := o.n) (n := 26) (by decide)
            have hn1 := pickN_lt (c := o.n) (n := 26) (by decide)
            refine .rd (.add rfl rfl (by omega) (by omega)) ?_
            refine .rd (.convInt Try.underlying3 Try.underlying5 rfl) ?_
            refine .alter (t := 66) (v' := .int .u8 ((UInt8.ofNat (97 + (pickN o.n 26).toNat)).toNat : Int)) rfl (congrArg (Value.int .u8) (byte97 _ hn0 hn1)) ?_
            refine .rd (.move rfl) ?_
            refine .rd (.rem rfl rfl (by omega) (by omega)) ?_
            refine .alter (t := 68) (v' := .int .i64 ((i % 10 : Nat) : Int)) rfl (by rw [Int.natCast_emod]; rfl) ?_
            refine .rd (.add rfl rfl (by omega) (by omega)) ?_
            refine .rd (.convInt Try.underlying3 Try.underlying5 rfl) ?_
            refine .alter (t := 70) (v' := .int .u8 ((UInt8.ofNat (48 + i % 10)).toNat : Int)) rfl (congrArg (Value.int .u8) (byte48 _)) ?_
            refine .rd (.move rfl) ?_
            refine .rd (.quo rfl rfl (by omega) (by omega) (by omega)) ?_
            refine .alter (t := 72) (v' := .int .i64 ((i / 10 : Nat) : Int)) rfl (by rw [Int.natCast_ediv]; rfl) ?_
            refine .rd (.add rfl rfl (by omega) (by omega)) ?_
            refine .rd (.convInt Try.underlying3 Try.underlying5 rfl) ?_
            refine .alter (t := 74) (v' := .int .u8 ((UInt8.ofNat (48 + i / 10)).toNat : Int)) rfl (congrArg (Value.int .u8) (byte48 _)) ?_
            refine .ef (.buildSlice (n := 3) (cs := bcs (txt i o.n)) Try.underlying37 ti5 rfl (by decide) (fillT _ _ _) (ones.of rfl)) ?_
            rintro _ _ ⟨by1, rfl, rfl⟩
            refine .rd (.bytesToStr (l := txt i o.n) Try.underlying37 Try.underlying5 Try.underlying9 rfl rfl ((Knows.blk .head).mono fun _ h => .inr ⟨by1, 0, rfl, h⟩)) ?_
            refine .rd (.fieldAddr fd36_9 rfl) ?_
            refine .ef0 (.store ts9 rfl rfl (.tail .head) rfl (Nat.le_of_ble_eq_true rfl)) ?_
            rintro _ _ rfl
            refine .nil ?_
            refine .cast (X' := blk b13 (Sn.cells (⟨(101 + pickN o.client 3), ((i : Int) + 1), 10, (p : Int), 0, 0, 0, 0, [], (txt i o.n), 0, false⟩ : Sn)) 36) (rfl) ?_
            refine .seq ?_
            refine .region ?_   -- R23 law.go:103
            refine .rd (.ldN ia36 ts36 rfl .head rfl) ?_
            refine .ef0 (.storeAll (vs := Sn.cells (⟨(101 + pickN o.client 3), ((i : Int) + 1), 10, (p : Int), 0, 0, 0, 0, [], (txt i o.n), 0, false⟩ : Sn)) ts36 rfl rfl rfl (.tail (.tail (.tail .head))) rfl (ones.of rfl)) ?_
            rintro _ _ rfl
            refine .nil ?_
            refine .seq ?_
            refine .region ?_   -- R24 law.go:104
            refine .rd (.fieldAddr fd36_5 rfl) ?_
            refine .ef0 (.store ts3 rfl rfl .head rfl (Nat.le_of_ble_eq_true rfl)) ?_
            rintro _ _ rfl
            refine .nil ?_
            refine .cast (X' := blk b14 (Sn.cells (⟨(101 + pickN o.client 3), ((i : Int) + 1), 10, (p : Int), 0, 1, 0, 0, [], (txt i o.n), 0, false⟩ : Sn)) 36) (rfl) ?_
            refine .seq ?_
            refine .region ?_   -- R25 law.go:105
            refine .rd (.move rfl) ?_
            refine .rd (.indexAddrA Try.underlying29 ts28 rfl rfl (by omega) (by omega)) ?_
            refine .rd (.ld na28 rfl (.tail (.tail (.tail (.tail (.tail (.tail .head)))))) (show (logC T)[0 + p * 1]? = some (.slice qa ql.length qc) by rw [Nat.zero_add, Nat.mul_one]; exact hget)) ?_
            refine .rd (.lenL rfl rfl Try.underlying28 rfl) ?_
            refine .rd (.fieldAddr fd36_7 rfl) ?_
            refine .ef0 (.store ts3 rfl rfl .head rfl (Nat.le_of_ble_eq_true rfl)) ?_
            rintro _ _ rfl
            refine .nil ?_
            refine .cast (X' := blk b14 (Sn.cells (⟨(101 + pickN o.client 3), ((i : Int) + 1), 10, (p : Int), 0, 1, 0, (ql.length : Int), [], (txt i o.n), 0, false⟩ : Sn)) 36) (rfl) ?_
            refine .seq ?_
            refine .region ?_   -- R26 law.go:106
            refine .rd (.move rfl) ?_
            refine .rd (.indexAddrA Try.underlying29 ts28 rfl rfl (by omega) (by omega)) ?_
            refine .rd (.ld na28 rfl (.tail (.tail (.tail (.tail (.tail (.tail .head)))))) (show (logC T)[0 + p * 1]? = some (.slice qa ql.length qc) by rw [Nat.zero_add, Nat.mul_one]; exact hget)) ?_
            refine .rd (.lenL rfl rfl Try.underlying28 rfl) ?_
            refine .rd (.fieldAddr fd36_4 rfl) ?_
            refine .ef0 (.store ts3 rfl rfl .head rfl (Nat.le_of_ble_eq_true rfl)) ?_
            rintro _ _ rfl
            refine .nil ?_
            refine .cast (X' := blk b14 (Sn.cells (⟨(101 + pickN o.client 3), ((i : Int) + 1), 10, (p : Int), (ql.length : Int), 1, 0, (ql.length : Int), [], (txt i o.n), 0, false⟩ : Sn)) 36) (rfl) ?_
            refine .open_ (σ := Unit) (φ := fun _ => True) (B := fun _ => [arr 9 1 qa qc (ql.flatMap tcell), bag (rowsOf 9 1 tcell) (mdel T (p : Int))]) (.tail (.tail (.tail (.tail (.tail (.tail (.tail (.tail .head)))))))) (fun h H => ⟨(), trivial, by have := row_take (f := tcell) (p : Int) W.four.nodup h H; rw [hrp] at this; exact this⟩) (fun _ _ => ?_)
            simp only [List.cons_append, List.nil_append]
            refine .draws [3, 5] [blk b5 (logC T) 29, blk b13 (Sn.cells (⟨(101 + pickN o.client 3), ((i : Int) + 1), 10, (p : Int), 0, 0, 0, 0, [], (txt i o.n), 0, false⟩ : Sn)) 36] (by kernel_rfl) ?_   -- R27 law.go:107
            refine .rp 0 rfl (by kernel_rfl) (by kernel_rfl) (by kernel_rfl) (Reads.pure (.move rfl)) ?_
            refine .rp 1 rfl (by kernel_rfl) (by kernel_rfl) (by kernel_rfl) (Reads.pure (.move rfl)) ?_
            refine .rp 2 rfl (by kernel_rfl) (by kernel_rfl) (by kernel_rfl) (Reads.pure (.indexAddrA Try.underlying29 ts28 rfl rfl (by omega) (by omega))) ?_
            refine .rd 3 rfl rfl (by kernel_rfl) (by kernel_rfl) (by kernel_rfl) (.ld na28 rfl .head (show (logC T)[0 + p * 1]? = some (.slice qa ql.length qc) by rw [Nat.zero_add, Nat.mul_one]; exact hget)) (.cons (.tail (.tail (.tail (.tail (.tail (.tail (.tail (.tail .head)))))))) (.cons (.tail (.tail (.tail .head))) .nil)) ?_
            refine .rp 4 rfl (by kernel_rfl) (by kernel_rfl) (by kernel_rfl) (Reads.pure (.fieldAddr fd36_9 rfl)) ?_
            refine .rd 5 rfl rfl (by kernel_rfl) (by kernel_rfl) (by kernel_rfl) (.ld na9 rfl (.tail .head) rfl) (.cons (.tail (.tail (.tail (.tail (.tail (.tail (.tail (.tail .head)))))))) (.cons (.tail (.tail (.tail .head))) .nil)) ?_
            refine .ef 6 (by kernel_rfl) rfl (.buildOne (cs := tcell (txt i o.n)) Try.underlying28 ti9 (by decide) rfl rfl rfl (ones.of rfl)) ?_
            rintro _ _ ⟨bs1, rfl, rfl⟩
            refine ⟨.inr ⟨_, (.cons (.tail (.tail (.tail (.tail (.tail (.tail (.tail (.tail (.tail .head))))))))) (.cons (.tail (.tail (.tail (.tail .head)))) .nil))⟩, ?_⟩
            refine .ef 7 (by kernel_rfl) rfl (.append rfl rfl Try.underlying28 ti9 rfl (ones.of rfl) (by decide) (by decide) rfl rfl (.tail .head) (n := ql.length) (m := 1) (by rw [flat_length tcell_len]) (.srcBlk (ys := tcell (txt i o.n)) .head Try.underlying28 rfl (by decide)) (by omega)) ?_
            rintro _ _ ⟨wa, wc, rfl, wn, rfl⟩
            refine ⟨.inl (by kernel_rfl), ?_⟩
            refine .rp 8 rfl (by kernel_rfl) (by kernel_rfl) (by kernel_rfl) (Reads.pure (.indexAddrA Try.underlying29 ts28 rfl rfl (by omega) (by omega))) ?_
            refine .ef0 9 (by kernel_rfl) rfl (.store ts28 rfl rfl (.tail (.tail (.tail (.tail (.tail (.tail (.tail (.tail (.tail .head))))))))) rfl (by show 0 + p * 1 < (logC T).length; have := (List.getElem?_eq_some_iff.1 hget).1; omega)) ?_
            rintro _ _ rfl
            refine ⟨.inl (by kernel_rfl), ?_⟩
            refine .done (by kernel_rfl) ?_
            refine .perm (.cons (.tail .head) (.cons .head (.cons .head (.cons .head (.cons .head (.cons .head (.cons .head (.cons .head (.cons .head (.cons .head (.cons .head (.cons .head .nil)))))))))))) ?_
            refine .cast (X' := arr 9 1 wa wc ((ql ++ [txt i o.n]).flatMap tcell)) (by rw [List.flatMap_append]; simp) ?_
            refine .close (X := bag (rowsOf 9 1 tcell) (mset T (p : Int) (wa, wc, ql ++ [txt i o.n]))) (B := [arr 9 1 wa wc ((ql ++ [txt i o.n]).flatMap tcell), bag (rowsOf 9 1 tcell) (mdel T (p : Int))]) (.cons .head (.cons (.tail (.tail .head)) .nil)) (row_put W.four.nodup) ?_
            refine .perm (.cons (.tail .head) (.cons .head (.cons .head (.cons .head (.cons .head (.cons .head (.cons .head (.cons .head (.cons .head (.cons .head (.cons .head .nil))))))))))) ?_
            refine .cast (X' := blk b5 (logC (mset T (p : Int) (wa, wc, ql ++ [txt i o.n]))) 29) (by rw [(W.four.set hp4 _).1]; congr 1; show (logC T).set (0 + p * 1) (.slice wa (ql.length + 1) wc) = (logC T).set p (.slice wa (ql ++ [txt i o.n]).length wc); rw [Nat.zero_add, Nat.mul_one, List.length_append]; rfl) ?_
            refine .inBlock ?_
            exact fin ((⟨(101 + pickN o.client 3), ((i : Int) + 1), 10, (p : Int), 0, 0, 0, 0, [], (txt i o.n), 0, false⟩ : Sn), (⟨(101 + pickN o.client 3), ((i : Int) + 1), 10, (p : Int), (ql.length : Int), 1, 0, (ql.length : Int), [], (txt i o.n), 0, false⟩ : Sn), mset T (p : Int) (wa, wc, ql ++ [txt i o.n]), st, gen, off) (W.send hp4 hrp rfl rfl) (.cons rfl (.cons rfl (.cons rfl (.cons rfl (.cons rfl (.cons rfl (.cons rfl (.cons rfl (.cons rfl (.cons rfl (.cons rfl (.cons rfl .nil)))))))))))) (.cons (.tail (.tail (.tail (.tail (.tail (.tail .head)))))) (.cons (.tail (.tail (.tail (.tail .head)))) (.cons (.tail (.tail (.tail .head))) (.cons (.tail (.tail (.tail (.tail .head)))) (.cons (.tail (.tail (.tail (.tail .head)))) (.cons .head (.cons (.tail (.tail (.tail .head))) (.cons .head (.cons (.tail (.tail .head)) .nil)))))))))
          · refine .seq ?_
            refine .region ?_   -- R28 law.go:108
            refine .rd (.eqI rfl rfl) ?_
            refine .rd (.assign rfl) ?_
            refine .nil ?_
            refine .condP rfl (fun h28 => ?_) (fun h28 => ?_)
            · refine .seq ?_
              refine .region ?_   -- R29 law.go:109
              refine .rd (.fieldAddr fd36_2 rfl) ?_
              refine .ef0 (.store ts3 rfl rfl (.tail .head) rfl (Nat.le_of_ble_eq_true rfl)) ?_
              rintro _ _ rfl
              refine .nil ?_
              refine .cast (X' := blk b13 (Sn.cells (⟨(101 + pickN o.client 3), ((i : Int) + 1), 1, (p : Int), 0, 0, 0, 0, [], [], 0, false⟩ : Sn)) 36) (rfl) ?_
              refine .seq ?_
              refine .draws [1, 4] [blk b11 o.cells 32, blk b5 (logC T) 29] (by kernel_rfl) ?_   -- R30 law.go:110
              refine .rp 0 rfl (by kernel_rfl) (by kernel_rfl) (by kernel_rfl) (Reads.pure (.fieldAddr fd32_3 rfl)) ?_
              refine .rd 1 rfl rfl (by kernel_rfl) (by kernel_rfl) (by kernel_rfl) (.ld na3 rfl .head rfl) (.cons (.tail .head) (.cons (.tail (.tail (.tail (.tail .head)))) .nil)) ?_
              refine .rp 2 rfl (by kernel_rfl) (by kernel_rfl) (by kernel_rfl) (Reads.pure (.move rfl)) ?_
              refine .rp 3 rfl (by kernel_rfl) (by kernel_rfl) (by kernel_rfl) (Reads.pure (.indexAddrA Try.underlying29 ts28 rfl rfl (by omega) (by omega))) ?_
              refine .rd 4 rfl rfl (by kernel_rfl) (by kernel_rfl) (by kernel_rfl) (.ld na28 rfl (.tail .head) (show (logC T)[0 + p * 1]? = some (.slice qa ql.length qc) by rw [Nat.zero_add, Nat.mul_one]; exact hget)) (.cons (.tail .head) (.cons (.tail (.tail (.tail (.tail .head)))) .nil)) ?_
              refine .rp 5 rfl (by kernel_rfl) (by kernel_rfl) (by kernel_rfl) (Reads.pure (.lenL rfl rfl Try.underlying28 rfl)) ?_
              refine .rp 6 rfl (by kernel_rfl) (by kernel_rfl) (by kernel_rfl) (Reads.pure (.add rfl rfl (by omega) (by omega))) ?_
              refine .ef 7 (by kernel_rfl) rfl (.fn rfl rfl .nil (fun _ _ _ => trivial) (pick_ok o.n ((ql.length : Int) + 1) ok4 (by omega))) ?_
              rintro v _ ⟨G1, hq, rfl⟩
              obtain ⟨rfl, rfl⟩ := hq
              simp only [List.nil_append]
              refine ⟨.inl (by kernel_rfl), ?_⟩
              refine .rp 8 rfl (by kernel_rfl) (by kernel_rfl) (by kernel_rfl) (Reads.pure (.fieldAddr fd36_4 rfl)) ?_
              refine .ef0 9 (by kernel_rfl) rfl (.store ts3 rfl rfl .head rfl (Nat.le_of_ble_eq_true rfl)) ?_
              rintro _ _ rfl
              refine ⟨.inl (by kernel_rfl), ?_⟩
              refine .done (by kernel_rfl) ?_
              obtain ⟨q, hq⟩ : ∃ q : Nat, pickN o.n ((ql.length : Int) + 1) = q := ⟨(pickN o.n ((ql.length : Int) + 1)).toNat, by have := pickN_nn (c := o.n) (n := (ql.length : Int) + 1) (by omega); omega⟩
              refine .cast (X' := blk b13 (Sn.cells (⟨(101 + pickN o.client 3), ((i : Int) + 1), 1, (p : Int), (q : Int), 0, 0, 0, [], [], 0, false⟩ : Sn)) 36) (by rw [hq]; rfl) ?_
              refine .seq ?_
              refine .region ?_   -- R31 law.go:111
              refine .rd (.ldN ia36 ts36 rfl .head rfl) ?_
              refine .ef0 (.storeAll (vs := Sn.cells (⟨(101 + pickN o.client 3), ((i : Int) + 1), 1, (p : Int), (q : Int), 0, 0, 0, [], [], 0, false⟩ : Sn)) ts36 rfl rfl rfl (.tail (.tail .head)) rfl (ones.of rfl)) ?_
              rintro _ _ rfl
              refine .nil ?_
              refine .seq ?_
              refine .region ?_   -- R32 law.go:112
              refine .rd (.fieldAddr fd36_10 rfl) ?_
              refine .ef0 (.store ts34 rfl rfl .head rfl (Nat.le_of_ble_eq_true rfl)) ?_
              rintro _ _ rfl
              refine .nil ?_
              refine .cast (X' := blk b14 (Sn.cells (⟨(101 + pickN o.client 3), ((i : Int) + 1), 1, (p : Int), (q : Int), 0, 0, 0, [], [], 10, false⟩ : Sn)) 36) (rfl) ?_
              refine .seq ?_
              refine .drawsJoin [1, 4, 9, 12] [blk b13 (Sn.cells (⟨(101 + pickN o.client 3), ((i : Int) + 1), 1, (p : Int), (q : Int), 0, 0, 0, [], [], 0, false⟩ : Sn)) 36, blk b5 (logC T) 29, blk b6 (st.map (Value.int .i64)) 30] 127 (decide ((q : Int) < (ql.length : Int)) && decide (st.getD p 0 ≤ (q : Int))) (by kernel_rfl) ?_ ?_   -- R33 law.go:113
              · refine .rp 0 rfl (by kernel_rfl) (by kernel_rfl) (by kernel_rfl) (Reads.pure (.fieldAddr fd36_4 rfl)) ?_
                refine .rd 1 rfl rfl (by kernel_rfl) (by kernel_rfl) (by kernel_rfl) (.ld na3 rfl .head rfl) (.cons (.tail .head) (.cons (.tail (.tail (.tail (.tail .head)))) (.cons (.tail (.tail (.tail (.tail .head)))) .nil))) ?_
                refine .rp 2 rfl (by kernel_rfl) (by kernel_rfl) (by kernel_rfl) (Reads.pure (.move rfl)) ?_
                refine .rp 3 rfl (by kernel_rfl) (by kernel_rfl) (by kernel_rfl) (Reads.pure (.indexAddrA Try.underlying29 ts28 rfl rfl (by omega) (by omega))) ?_
                refine .rd 4 rfl rfl (by kernel_rfl) (by kernel_rfl) (by kernel_rfl) (.ld na28 rfl (.tail .head) (show (logC T)[0 + p * 1]? = some (.slice qa ql.length qc) by rw [Nat.zero_add, Nat.mul_one]; exact hget)) (.cons (.tail .head) (.cons (.tail (.tail (.tail (.tail .head)))) (.cons (.tail (.tail (.tail (.tail .head)))) .nil))) ?_
                refine .rp 5 rfl (by kernel_rfl) (by kernel_rfl) (by kernel_rfl) (Reads.pure (.lenL rfl rfl Try.underlying28 rfl)) ?_
                refine .rp 6 rfl (by kernel_rfl) (by kernel_rfl) (by kernel_rfl) (Reads.pure (.lt rfl rfl)) ?_
                refine .rp 7 rfl (by kernel_rfl) (by kernel_rfl) (by kernel_rfl) (Reads.pure (.move rfl)) ?_
                refine .split (t := 120) rfl (fun g33_7 => ?_) (fun g33_7 => ?_)
                · replace g33_7 := of_decide_eq_true g33_7
                  refine .rpG 8 (t := 120) rfl rfl rfl (by kernel_rfl) (by kernel_rfl) (by kernel_rfl) (Reads.pure (.fieldAddr fd36_4 rfl)) ?_
                  refine .rdG 9 (t := 120) rfl rfl rfl rfl (by kernel_rfl) (by kernel_rfl) (by kernel_rfl) (.ld na3 rfl .head rfl) (.cons (.tail .head) (.cons (.tail (.tail (.tail (.tail .head)))) (.cons (.tail (.tail (.tail (.tail .head)))) .nil))) ?_
                  refine .rpG 10 (t := 120) rfl rfl rfl (by kernel_rfl) (by kernel_rfl) (by kernel_rfl) (Reads.pure (.move rfl)) ?_
                  refine .rpG 11 (t := 120) rfl rfl rfl (by kernel_rfl) (by kernel_rfl) (by kernel_rfl) (Reads.pure (.indexAddrA Try.underlying30 ts3 rfl rfl (by omega) (by omega))) ?_
                  refine .rdG 12 (t := 120) rfl rfl rfl rfl (by kernel_rfl) (by kernel_rfl) (by kernel_rfl) (.ld na3 rfl (.tail (.tail .head)) (show (st.map (Value.int .i64))[0 + p * 1]? = some (.int .i64 (st.getD p 0)) by rw [Nat.zero_add, Nat.mul_one]; exact hsg)) (.cons (.tail .head) (.cons (.tail (.tail (.tail (.tail .head)))) (.cons (.tail (.tail (.tail (.tail .head)))) .nil))) ?_
                  refine .rpG 13 (t := 120) rfl rfl rfl (by kernel_rfl) (by kernel_rfl) (by kernel_rfl) (Reads.pure (.ge rfl rfl)) ?_
                  refine .rp 14 rfl (by kernel_rfl) (by kernel_rfl) (by kernel_rfl) (Reads.pure (.pickT rfl rfl)) ?_
                  refine .done (by kernel_rfl) ⟨rfl, ?_, by repeat (first | exact Le.refl _ | refine Le.skip rfl ?_)⟩
                  exact congrArg (fun x => some (Value.bool x)) (Eq.symm (show (decide ((q : Int) < (ql.length : Int)) && decide (st.getD p 0 ≤ (q : Int))) = _ by (rw [decide_eq_true g33_7]) <;> rfl))
                · replace g33_7 := of_decide_eq_false g33_7
                  refine .off 8 (t := 120) rfl rfl rfl rfl (by kernel_rfl) (by kernel_rfl) (by kernel_rfl) ?_
                  refine .off 9 (t := 120) rfl rfl rfl rfl (by kernel_rfl) (by kernel_rfl) (by kernel_rfl) ?_
                  refine .off 10 (t := 120) rfl rfl rfl rfl (by kernel_rfl) (by kernel_rfl) (by kernel_rfl) ?_
                  refine .off 11 (t := 120) rfl rfl rfl rfl (by kernel_rfl) (by kernel_rfl) (by kernel_rfl) ?_
                  refine .off 12 (t := 120) rfl rfl rfl rfl (by kernel_rfl) (by kernel_rfl) (by kernel_rfl) ?_
                  refine .off 13 (t := 120) rfl rfl rfl rfl (by kernel_rfl) (by kernel_rfl) (by kernel_rfl) ?_
                  refine .rp 14 rfl (by kernel_rfl) (by kernel_rfl) (by kernel_rfl) (Reads.pure (.pickF rfl rfl)) ?_
                  refine .done (by kernel_rfl) ⟨rfl, ?_, by repeat (first | exact Le.refl _ | refine Le.skip rfl ?_)⟩
                  exact congrArg (fun x => some (Value.bool x)) (Eq.symm (show (decide ((q : Int) < (ql.length : Int)) && decide (st.getD p 0 ≤ (q : Int))) = _ by (rw [decide_eq_false g33_7]) <;> rfl))
              refine .cond rfl (fun h33 => ?_) (fun h33 => ?_)
              · rw [Bool.and_eq_true, decide_eq_true_eq, decide_eq_true_eq] at h33
                obtain ⟨hq1, hqs⟩ := h33
                obtain ⟨tt, hqt⟩ : ∃ t, ql[q]? = some t := ⟨_, List.getElem?_eq_getElem (by omega)⟩
                have hrow : Knows [bag (rowsOf 9 1 tcell) T] (RowAt qa (ql.flatMap tcell)) := by
                  have := Knows.row (T := T) (q := (p : Int)) (e := 9) (s := 1) (f := tcell) (Γ := [bag (rowsOf 9 1 tcell) T]) .head
                  rw [hrp] at this; exact this
                refine .tell (φ := ∃ b o, qa = some ⟨b, o, none⟩) (Knows.pick (.tail (.tail (.tail (.tail (.tail (.tail (.tail .head))))))) (hrow.mono fun _ h => RowAt.addr h (by rw [flat_length tcell_len]; omega))) (fun hh => ?_)
                obtain ⟨b7, o7, rfl⟩ := hh
                refine .seq ?_
                refine .region ?_   -- R34 law.go:114
                refine .rd (.fieldAddr fd36_10 rfl) ?_
                refine .ef0 (.store ts34 rfl rfl .head rfl (Nat.le_of_ble_eq_true rfl)) ?_
                rintro _ _ rfl
                refine .nil ?_
                refine .cast (X' := blk b14 (Sn.cells (⟨(101 + pickN o.client 3), ((i : Int) + 1), 1, (p : Int), (q : Int), 0, 0, 0, [], [], 0, false⟩ : Sn)) 36) (rfl) ?_
                refine .draws [2, 4, 6] [blk b5 (logC T) 29, blk b13 (Sn.cells (⟨(101 + pickN o.client 3), ((i : Int) + 1), 1, (p : Int), (q : Int), 0, 0, 0, [], [], 0, false⟩ : Sn)) 36, bag (rowsOf 9 1 tcell) T] (by kernel_rfl) ?_   -- R35 law.go:115
                refine .rp 0 rfl (by kernel_rfl) (by kernel_rfl) (by kernel_rfl) (Reads.pure (.move rfl)) ?_
                refine .rp 1 rfl (by kernel_rfl) (by kernel_rfl) (by kernel_rfl) (Reads.pure (.indexAddrA Try.underlying29 ts28 rfl rfl (by omega) (by omega))) ?_
                refine .rd 2 rfl rfl (by kernel_rfl) (by kernel_rfl) (by kernel_rfl) (.ld na28 rfl .head (show (logC T)[0 + p * 1]? = some (.slice (some ⟨b7, o7, none⟩) ql.length qc) by rw [Nat.zero_add, Nat.mul_one]; exact hget)) (.cons (.tail (.tail (.tail (.tail (.tail .head))))) (.cons (.tail .head) (.cons (.tail (.tail (.tail (.tail (.tail .head))))) .nil))) ?_
                refine .rp 3 rfl (by kernel_rfl) (by kernel_rfl) (by kernel_rfl) (Reads.pure (.fieldAddr fd36_4 rfl)) ?_
                refine .rd 4 rfl rfl (by kernel_rfl) (by kernel_rfl) (by kernel_rfl) (.ld na3 rfl (.tail .head) rfl) (.cons (.tail (.tail (.tail (.tail (.tail .head))))) (.cons (.tail .head) (.cons (.tail (.tail (.tail (.tail (.tail .head))))) .nil))) ?_
                refine .rp 5 rfl (by kernel_rfl) (by kernel_rfl) (by kernel_rfl) (Reads.pure (.indexAddr Try.underlying28 ts9 rfl rfl (by show (0 : Int) ≤ (q : Int); omega) (by show (q : Int) < _; omega))) ?_
                refine .rd 6 rfl rfl (by kernel_rfl) (by kernel_rfl) (by kernel_rfl) (.load na9 rfl (Knows.one (i := 0) (Knows.elem (f := tcell) tcell_len (by decide) (Knows.pick (.tail (.tail .head)) hrow) hqt) rfl)) (.cons (.tail (.tail (.tail (.tail (.tail .head))))) (.cons (.tail .head) (.cons (.tail (.tail (.tail (.tail (.tail .head))))) .nil))) ?_
                refine .rp 7 rfl (by kernel_rfl) (by kernel_rfl) (by kernel_rfl) (Reads.pure (.fieldAddr fd36_9 rfl)) ?_
                refine .ef0 8 (by kernel_rfl) rfl (.store ts9 rfl rfl .head rfl (Nat.le_of_ble_eq_true rfl)) ?_
                rintro _ _ rfl
                refine ⟨.inl (by kernel_rfl), ?_⟩
                refine .done (by kernel_rfl) ?_
                refine .cast (X' := blk b14 (Sn.cells (⟨(101 + pickN o.client 3), ((i : Int) + 1), 1, (p : Int), (q : Int), 0, 0, 0, [], tt, 0, false⟩ : Sn)) 36) (rfl) ?_
                refine .inBlock ?_
                exact fin ((⟨(101 + pickN o.client 3), ((i : Int) + 1), 1, (p : Int), (q : Int), 0, 0, 0, [], [], 0, false⟩ : Sn), (⟨(101 + pickN o.client 3), ((i : Int) + 1), 1, (p : Int), (q : Int), 0, 0, 0, [], tt, 0, false⟩ : Sn), T, st, gen, off) (W.read hrp (fun _ => ⟨hqt, hqs⟩) rfl rfl) (.cons rfl (.cons rfl (.cons rfl (.cons rfl (.cons rfl (.cons rfl (.cons rfl (.cons rfl (.cons rfl (.cons rfl (.cons rfl (.cons rfl .nil)))))))))))) (.cons (.tail (.tail .head)) (.cons (.tail .head) (.cons .head (.cons .head (.cons .head (.cons .head (.cons .head (.cons .head (.cons .head .nil)))))))))
              · refine .skip ?_
                refine .inBlock ?_
                exact fin ((⟨(101 + pickN o.client 3), ((i : Int) + 1), 1, (p : Int), (q : Int), 0, 0, 0, [], [], 0, false⟩ : Sn), (⟨(101 + pickN o.client 3), ((i : Int) + 1), 1, (p : Int), (q : Int), 0, 0, 0, [], [], 10, false⟩ : Sn), T, st, gen, off) (W.read (e := 10) (t := []) hrp (fun h => absurd h (by decide)) rfl rfl) (.cons rfl (.cons rfl (.cons rfl (.cons rfl (.cons rfl (.cons rfl (.cons rfl (.cons rfl (.cons rfl (.cons rfl (.cons rfl (.cons rfl .nil)))))))))))) (.cons (.tail (.tail .head)) (.cons (.tail .head) (.cons .head (.cons .head (.cons .head (.cons .head (.cons .head (.cons .head (.cons .head .nil)))))))))
            · refine .seq ?_
              refine .region ?_   -- R36 law.go:117
              refine .rd (.eqI rfl rfl) ?_
              refine .rd (.assign rfl) ?_
              refine .nil ?_
              refine .condP rfl (fun h36 => ?_) (fun h36 => ?_)
              · refine .seq ?_
                refine .region ?_   -- R37 law.go:118
                refine .rd (.fieldAddr fd36_2 rfl) ?_
                refine .ef0 (.store ts3 rfl rfl (.tail .head) rfl (Nat.le_of_ble_eq_true rfl)) ?_
                rintro _ _ rfl
                refine .nil ?_
                refine .cast (X' := blk b13 (Sn.cells (⟨(101 + pickN o.client 3), ((i : Int) + 1), 6, (p : Int), 0, 0, 0, 0, [], [], 0, false⟩ : Sn)) 36) (rfl) ?_
                refine .seq ?_
                refine .draws [1, 4] [blk b11 o.cells 32, blk b5 (logC T) 29] (by kernel_rfl) ?_   -- R38 law.go:119
                refine .rp 0 rfl (by kernel_rfl) (by kernel_rfl) (by kernel_rfl) (Reads.pure (.fieldAddr fd32_3 rfl)) ?_
                refine .rd 1 rfl rfl (by kernel_rfl) (by kernel_rfl) (by kernel_rfl) (.ld na3 rfl .head rfl) (.cons (.tail .head) (.cons (.tail (.tail (.tail (.tail .head)))) .nil)) ?_
                refine .rp 2 rfl (by kernel_rfl) (by kernel_rfl) (by kernel_rfl) (Reads.pure (.move rfl)) ?_
                refine .rp 3 rfl (by kernel_rfl) (by kernel_rfl) (by kernel_rfl) (Reads.pure (.indexAddrA Try.underlying29 ts28 rfl rfl (by omega) (by omega))) ?_
                refine .rd 4 rfl rfl (by kernel_rfl) (by kernel_rfl) (by kernel_rfl) (.ld na28 rfl (.tail .head) (show (logC T)[0 + p * 1]? = some (.slice qa ql.length qc) by rw [Nat.zero_add, Nat.mul_one]; exact hget)) (.cons (.tail .head) (.cons (.tail (.tail (.tail (.tail .head)))) .nil)) ?_
                refine .rp 5 rfl (by kernel_rfl) (by kernel_rfl) (by kernel_rfl) (Reads.pure (.lenL rfl rfl Try.underlying28 rfl)) ?_
                refine .rp 6 rfl (by kernel_rfl) (by kernel_rfl) (by kernel_rfl) (Reads.pure (.add rfl rfl (by omega) (by omega))) ?_
                refine .ef 7 (by kernel_rfl) rfl (.fn rfl rfl .nil (fun _ _ _ => trivial) (pick_ok o.n ((ql.length : Int) + 1) ok4 (by omega))) ?_
                rintro v _ ⟨G1, hq, rfl⟩
                obtain ⟨rfl, rfl⟩ := hq
                simp only [List.nil_append]
                refine ⟨.inl (by kernel_rfl), ?_⟩
                refine .rp 8 rfl (by kernel_rfl) (by kernel_rfl) (by kernel_rfl) (Reads.pure (.fieldAddr fd36_4 rfl)) ?_
                refine .ef0 9 (by kernel_rfl) rfl (.store ts3 rfl rfl .head rfl (Nat.le_of_ble_eq_true rfl)) ?_
                rintro _ _ rfl
                refine ⟨.inl (by kernel_rfl), ?_⟩
                refine .done (by kernel_rfl) ?_
                obtain ⟨q, hq⟩ : ∃ q : Nat, pickN o.n ((ql.length : Int) + 1) = q := ⟨(pickN o.n ((ql.length : Int) + 1)).toNat, by have := pickN_nn (c := o.n) (n := (ql.length : Int) + 1) (by omega); omega⟩
                refine .cast (X' := blk b13 (Sn.cells (⟨(101 + pickN o.client 3), ((i : Int) + 1), 6, (p : Int), (q : Int), 0, 0, 0, [], [], 0, false⟩ : Sn)) 36) (by rw [hq]; rfl) ?_
                refine .seq ?_
                refine .region ?_   -- R39 law.go:120
                refine .rd (.ldN ia36 ts36 rfl .head rfl) ?_
                refine .ef0 (.storeAll (vs := Sn.cells (⟨(101 + pickN o.client 3), ((i : Int) + 1), 6, (p : Int), (q : Int), 0, 0, 0, [], [], 0, false⟩ : Sn)) ts36 rfl rfl rfl (.tail (.tail .head)) rfl (ones.of rfl)) ?_
                rintro _ _ rfl
                refine .nil ?_
                refine .draws [3, 5] [blk b6 (st.map (Value.int .i64)) 30, blk b13 (Sn.cells (⟨(101 + pickN o.client 3), ((i : Int) + 1), 6, (p : Int), (q : Int), 0, 0, 0, [], [], 0, false⟩ : Sn)) 36] (by kernel_rfl) ?_   -- R40 law.go:121
                refine .rp 0 rfl (by kernel_rfl) (by kernel_rfl) (by kernel_rfl) (Reads.pure (.move rfl)) ?_
                refine .rp 1 rfl (by kernel_rfl) (by kernel_rfl) (by kernel_rfl) (Reads.pure (.move rfl)) ?_
                refine .rp 2 rfl (by kernel_rfl) (by kernel_rfl) (by kernel_rfl) (Reads.pure (.indexAddrA Try.underlying30 ts3 rfl rfl (by omega) (by omega))) ?_
                refine .rd 3 rfl rfl (by kernel_rfl) (by kernel_rfl) (by kernel_rfl) (.ld na3 rfl .head (show (st.map (Value.int .i64))[0 + p * 1]? = some (.int .i64 (st.getD p 0)) by rw [Nat.zero_add, Nat.mul_one]; exact hsg)) (.cons (.tail (.tail (.tail (.tail (.tail (.tail .head)))))) (.cons (.tail .head) .nil)) ?_
                refine .rp 4 rfl (by kernel_rfl) (by kernel_rfl) (by kernel_rfl) (Reads.pure (.fieldAddr fd36_4 rfl)) ?_
                refine .rd 5 rfl rfl (by kernel_rfl) (by kernel_rfl) (by kernel_rfl) (.ld na3 rfl (.tail .head) rfl) (.cons (.tail (.tail (.tail (.tail (.tail (.tail .head)))))) (.cons (.tail .head) .nil)) ?_
                refine .rp 6 rfl (by kernel_rfl) (by kernel_rfl) (by kernel_rfl) (Reads.pure (.max2 rfl rfl rfl)) ?_
                refine .rp 7 rfl (by kernel_rfl) (by kernel_rfl) (by kernel_rfl) (Reads.pure (.indexAddrA Try.underlying30 ts3 rfl rfl (by omega) (by omega))) ?_
                refine .ef0 8 (by kernel_rfl) rfl (.store ts3 rfl rfl (.tail (.tail (.tail (.tail (.tail (.tail .head)))))) rfl (by show 0 + p * 1 < (st.map _).length; have := (List.getElem?_eq_some_iff.1 hsg).1; omega)) ?_
                rintro _ _ rfl
                refine ⟨.inl (by kernel_rfl), ?_⟩
                refine .done (by kernel_rfl) ?_
                refine .cast (X' := blk b6 ((st.set p (max (st.getD p 0) (q : Int))).map (Value.int .i64)) 30) (by rw [List.map_set, max_lt]; congr 1; show (st.map (Value.int .i64)).set (0 + p * 1) _ = _; rw [Nat.zero_add, Nat.mul_one]) ?_
                refine .inBlock ?_
                exact fin ((⟨(101 + pickN o.client 3), ((i : Int) + 1), 6, (p : Int), (q : Int), 0, 0, 0, [], [], 0, false⟩ : Sn), (⟨(101 + pickN o.client 3), ((i : Int) + 1), 6, (p : Int), (q : Int), 0, 0, 0, [], [], 0, false⟩ : Sn), T, st.set p (max (st.getD p 0) (q : Int)), gen, off) (W.delete hp4 rfl rfl) (.cons rfl (.cons rfl (.cons rfl (.cons rfl (.cons rfl (.cons rfl (.cons rfl (.cons rfl (.cons rfl (.cons rfl (.cons rfl (.cons rfl .nil)))))))))))) (.cons (.tail (.tail (.tail .head))) (.cons (.tail (.tail .head)) (.cons (.tail .head) (.cons (.tail .head) (.cons (.tail .head) (.cons (.tail .head) (.cons .head (.cons .head (.cons .head .nil)))))))))
              · refine .seq ?_
                refine .region ?_   -- R41 law.go:122
                refine .rd (.eqI rfl rfl) ?_
                refine .rd (.assign rfl) ?_
                refine .nil ?_
                refine .condP rfl (fun h41 => ?_) (fun h41 => ?_)
                · refine .seq ?_
                  refine .region ?_   -- R42 law.go:123
                  refine .rd (.fieldAddr fd36_2 rfl) ?_
                  refine .ef0 (.store ts3 rfl rfl (.tail .head) rfl (Nat.le_of_ble_eq_true rfl)) ?_
                  rintro _ _ rfl
                  refine .nil ?_
                  refine .cast (X' := blk b13 (Sn.cells (⟨(101 + pickN o.client 3), ((i : Int) + 1), 2, (p : Int), 0, 0, 0, 0, [], [], 0, false⟩ : Sn)) 36) (rfl) ?_
                  refine .seq ?_
                  refine .region ?_   -- R43 law.go:124
                  refine .rd (.fieldAddr fd36_8 rfl) ?_
                  refine .ef0 (.store ts9 rfl rfl .head rfl (Nat.le_of_ble_eq_true rfl)) ?_
                  rintro _ _ rfl
                  refine .nil ?_
                  refine .cast (X' := blk b13 (Sn.cells (⟨(101 + pickN o.client 3), ((i : Int) + 1), 2, (p : Int), 0, 0, 0, 0, gName, [], 0, false⟩ : Sn)) 36) (rfl) ?_
                  refine .seq ?_
                  refine .region ?_   -- R44 law.go:125
                  refine .rd (.move rfl) ?_
                  refine .rd (.add rfl rfl (by omega) (by omega)) ?_
                  refine .rd (.assign rfl) ?_
                  refine .nil ?_
                  refine .seq ?_
                  refine .region ?_   -- R45 law.go:126
                  refine .rd (.ldN ia36 ts36 rfl .head rfl) ?_
                  refine .ef0 (.storeAll (vs := Sn.cells (⟨(101 + pickN o.client 3), ((i : Int) + 1), 2, (p : Int), 0, 0, 0, 0, gName, [], 0, false⟩ : Sn)) ts36 rfl rfl rfl (.tail (.tail .head)) rfl (ones.of rfl)) ?_
                  rintro _ _ rfl
                  refine .nil ?_
                  refine .region ?_   -- R46 law.go:127
                  refine .rd (.move rfl) ?_
                  refine .rd (.fieldAddr fd36_7 rfl) ?_
                  refine .ef0 (.store ts3 rfl rfl .head rfl (Nat.le_of_ble_eq_true rfl)) ?_
                  rintro _ _ rfl
                  refine .nil ?_
                  refine .cast (X' := blk b14 (Sn.cells (⟨(101 + pickN o.client 3), ((i : Int) + 1), 2, (p : Int), 0, 0, 0, (gen + 1), gName, [], 0, false⟩ : Sn)) 36) (rfl) ?_
                  refine .inBlock ?_
                  exact fin ((⟨(101 + pickN o.client 3), ((i : Int) + 1), 2, (p : Int), 0, 0, 0, 0, gName, [], 0, false⟩ : Sn), (⟨(101 + pickN o.client 3), ((i : Int) + 1), 2, (p : Int), 0, 0, 0, (gen + 1), gName, [], 0, false⟩ : Sn), T, st, gen + 1, off) (W.join rfl rfl) (.cons rfl (.cons rfl (.cons rfl (.cons rfl (.cons rfl (.cons rfl (.cons rfl (.cons rfl (.cons rfl (.cons rfl (.cons rfl (.cons rfl .nil)))))))))))) (.cons (.tail (.tail .head)) (.cons (.tail .head) (.cons .head (.cons .head (.cons .head (.cons .head (.cons .head (.cons .head (.cons .head .nil)))))))))
                · refine .seq ?_
                  refine .region ?_   -- R47 law.go:128
                  refine .rd (.eqI rfl rfl) ?_
                  refine .rd (.assign rfl) ?_
                  refine .nil ?_
                  refine .condP rfl (fun h47 => ?_) (fun h47 => ?_)
                  · refine .seq ?_
                    refine .region ?_   -- R48 law.go:129
                    refine .rd (.fieldAddr fd36_2 rfl) ?_
                    refine .ef0 (.store ts3 rfl rfl (.tail .head) rfl (Nat.le_of_ble_eq_true rfl)) ?_
                    rintro _ _ rfl
                    refine .nil ?_
                    refine .cast (X' := blk b13 (Sn.cells (⟨(101 + pickN o.client 3), ((i : Int) + 1), 4, (p : Int), 0, 0, 0, 0, [], [], 0, false⟩ : Sn)) 36) (rfl) ?_
                    refine .seq ?_
                    refine .region ?_   -- R49 law.go:130
                    refine .rd (.fieldAddr fd36_8 rfl) ?_
                    refine .ef0 (.store ts9 rfl rfl .head rfl (Nat.le_of_ble_eq_true rfl)) ?_
                    rintro _ _ rfl
                    refine .nil ?_
                    refine .cast (X' := blk b13 (Sn.cells (⟨(101 + pickN o.client 3), ((i : Int) + 1), 4, (p : Int), 0, 0, 0, 0, gName, [], 0, false⟩ : Sn)) 36) (rfl) ?_
                    refine .seq ?_
                    refine .region ?_   -- R50 law.go:131
                    refine .rd (.fieldAddr fd36_3 rfl) ?_
                    refine .ef0 (.store ts3 rfl rfl .head rfl (Nat.le_of_ble_eq_true rfl)) ?_
                    rintro _ _ rfl
                    refine .nil ?_
                    refine .cast (X' := blk b13 (Sn.cells (⟨(101 + pickN o.client 3), ((i : Int) + 1), 4, 0, 0, 0, 0, 0, gName, [], 0, false⟩ : Sn)) 36) (rfl) ?_
                    refine .seq ?_
                    refine .region ?_   -- R51 law.go:132
                    refine .rd (.fieldAddr fd32_3 rfl) ?_
                    refine .rd (.ld na3 rfl (.tail .head) rfl) ?_
                    refine .fn rfl rfl .nil (fun _ _ _ => trivial) (pick_ok o.n 50 ok4 (by decide)) (fun v G1 hq => ?_)
                    obtain ⟨rfl, rfl⟩ := hq
                    simp only [List.nil_append]
                    refine .rd (.fieldAddr fd36_4 rfl) ?_
                    refine .ef0 (.store ts3 rfl rfl .head rfl (Nat.le_of_ble_eq_true rfl)) ?_
                    rintro _ _ rfl
                    refine .nil ?_
                    refine .cast (X' := blk b13 (Sn.cells (⟨(101 + pickN o.client 3), ((i : Int) + 1), 4, 0, (pickN o.n 50), 0, 0, 0, gName, [], 0, false⟩ : Sn)) 36) (rfl) ?_
                    refine .seq ?_
                    refine .region ?_   -- R52 law.go:133
                    refine .rd (.move rfl) ?_
                    refine .rd (.fieldAddr fd32_3 rfl) ?_
                    refine .rd (.ld na3 rfl (.tail .head) rfl) ?_
                    refine .fn rfl rfl .nil (fun _ _ _ => trivial) (pick_ok o.n 2 ok4 (by decide)) (fun v G1 hq => ?_)
                    obtain ⟨rfl, rfl⟩ := hq
                    simp only [List.nil_append]
                    have hn0 := pickN_nn (c := o.n) (n := 2) (by decide)
                    have hn1 := pickN_lt (c := o.n) (n := 2) (by decide)
                    refine .rd (.sub rfl rfl (by omega) (by omega)) ?_
                    refine .rd (.fieldAddr fd36_7 rfl) ?_
                    refine .ef0 (.store ts3 rfl rfl .head rfl (Nat.le_of_ble_eq_true rfl)) ?_
                    rintro _ _ rfl
                    refine .nil ?_
                    refine .cast (X' := blk b13 (Sn.cells (⟨(101 + pickN o.client 3), ((i : Int) + 1), 4, 0, (pickN o.n 50), 0, 0, (gen - pickN o.n 2), gName, [], 0, false⟩ : Sn)) 36) (rfl) ?_
                    refine .seq ?_
                    refine .region ?_   -- R53 law.go:134
                    refine .rd (.ldN ia36 ts36 rfl .head rfl) ?_
                    refine .ef0 (.storeAll (vs := Sn.cells (⟨(101 + pickN o.client 3), ((i : Int) + 1), 4, 0, (pickN o.n 50), 0, 0, (gen - pickN o.n 2), gName, [], 0, false⟩ : Sn)) ts36 rfl rfl rfl (.tail (.tail .head)) rfl (ones.of rfl)) ?_
                    rintro _ _ rfl
                    refine .nil ?_
                    refine .seq ?_
                    refine .region ?_   -- R54 law.go:135
                    refine .rd (.fieldAddr fd36_10 rfl) ?_
                    refine .ef0 (.store ts34 rfl rfl .head rfl (Nat.le_of_ble_eq_true rfl)) ?_
                    rintro _ _ rfl
                    refine .nil ?_
                    refine .cast (X' := blk b14 (Sn.cells (⟨(101 + pickN o.client 3), ((i : Int) + 1), 4, 0, (pickN o.n 50), 0, 0, (gen - pickN o.n 2), gName, [], 18, false⟩ : Sn)) 36) (rfl) ?_
                    refine .seq ?_
                    refine .region ?_   -- R55 law.go:136
                    refine .rd (.fieldAddr fd36_7 rfl) ?_
                    refine .rd (.ld na3 rfl (.tail .head) rfl) ?_
                    refine .rd (.move rfl) ?_
                    refine .rd (.eqI rfl rfl) ?_
                    refine .nil ?_
                    refine .condP rfl (fun h55 => ?_) (fun h55 => ?_)
                    · refine .seq ?_
                      refine .region ?_   -- R56 law.go:137
                      refine .rd (.fieldAddr fd36_10 rfl) ?_
                      refine .ef0 (.store ts34 rfl rfl .head rfl (Nat.le_of_ble_eq_true rfl)) ?_
                      rintro _ _ rfl
                      refine .nil ?_
                      refine .cast (X' := blk b14 (Sn.cells (⟨(101 + pickN o.client 3), ((i : Int) + 1), 4, 0, (pickN o.n 50), 0, 0, (gen - pickN o.n 2), gName, [], 0, false⟩ : Sn)) 36) (rfl) ?_
                      refine .region ?_   -- R57 law.go:138
                      refine .rd (.fieldAddr fd36_4 rfl) ?_
                      refine .rd (.ld na3 rfl (.tail .head) rfl) ?_
                      refine .rd (.assign rfl) ?_
                      refine .nil ?_
                      refine .inBlock ?_
                      exact fin ((⟨(101 + pickN o.client 3), ((i : Int) + 1), 4, 0, (pickN o.n 50), 0, 0, (gen - pickN o.n 2), gName, [], 0, false⟩ : Sn), (⟨(101 + pickN o.client 3), ((i : Int) + 1), 4, 0, (pickN o.n 50), 0, 0, (gen - pickN o.n 2), gName, [], 0, false⟩ : Sn), T, st, gen, pickN o.n 50) (W.commit (e := 0) (pickN_nn (by decide)) (fun _ => ⟨Int.le_of_eq (Eq.symm h55), rfl⟩) (fun h => absurd rfl h) rfl rfl) (.cons rfl (.cons rfl (.cons rfl (.cons rfl (.cons rfl (.cons rfl (.cons rfl (.cons rfl (.cons rfl (.cons rfl (.cons rfl (.cons rfl .nil)))))))))))) (.cons (.tail (.tail .head)) (.cons (.tail .head) (.cons .head (.cons .head (.cons .head (.cons .head (.cons .head (.cons .head (.cons .head .nil)))))))))
                    · refine .skip ?_
                      refine .inBlock ?_
                      exact fin ((⟨(101 + pickN o.client 3), ((i : Int) + 1), 4, 0, (pickN o.n 50), 0, 0, (gen - pickN o.n 2), gName, [], 0, false⟩ : Sn), (⟨(101 + pickN o.client 3), ((i : Int) + 1), 4, 0, (pickN o.n 50), 0, 0, (gen - pickN o.n 2), gName, [], 18, false⟩ : Sn), T, st, gen, off) (W.commit (e := 18) (pickN_nn (by decide)) (fun h => absurd h (by decide)) (fun _ => rfl) rfl rfl) (.cons rfl (.cons rfl (.cons rfl (.cons rfl (.cons rfl (.cons rfl (.cons rfl (.cons rfl (.cons rfl (.cons rfl (.cons rfl (.cons rfl .nil)))))))))))) (.cons (.tail (.tail .head)) (.cons (.tail .head) (.cons .head (.cons .head (.cons .head (.cons .head (.cons .head (.cons .head (.cons .head .nil)))))))))
                  · refine .seq ?_
                    refine .region ?_   -- R58 law.go:140
                    refine .rd (.eqI rfl rfl) ?_
                    refine .rd (.assign rfl) ?_
                    refine .nil ?_
                    refine .condP rfl (fun h58 => ?_) (fun h58 => ?_)
                    · refine .seq ?_
                      refine .region ?_   -- R59 law.go:141
                      refine .rd (.fieldAddr fd36_2 rfl) ?_
                      refine .ef0 (.store ts3 rfl rfl (.tail .head) rfl (Nat.le_of_ble_eq_true rfl)) ?_
                      rintro _ _ rfl
                      refine .nil ?_
                      refine .cast (X' := blk b13 (Sn.cells (⟨(101 + pickN o.client 3), ((i : Int) + 1), 5, (p : Int), 0, 0, 0, 0, [], [], 0, false⟩ : Sn)) 36) (rfl) ?_
                      refine .seq ?_
                      refine .region ?_   -- R60 law.go:142
                      refine .rd (.fieldAddr fd36_8 rfl) ?_
                      refine .ef0 (.store ts9 rfl rfl .head rfl (Nat.le_of_ble_eq_true rfl)) ?_
                      rintro _ _ rfl
                      refine .nil ?_
                      refine .cast (X' := blk b13 (Sn.cells (⟨(101 + pickN o.client 3), ((i : Int) + 1), 5, (p : Int), 0, 0, 0, 0, gName, [], 0, false⟩ : Sn)) 36) (rfl) ?_
                      refine .seq ?_
                      refine .region ?_   -- R61 law.go:143
                      refine .rd (.fieldAddr fd36_3 rfl) ?_
                      refine .ef0 (.store ts3 rfl rfl .head rfl (Nat.le_of_ble_eq_true rfl)) ?_
                      rintro _ _ rfl
                      refine .nil ?_
                      refine .cast (X' := blk b13 (Sn.cells (⟨(101 + pickN o.client 3), ((i : Int) + 1), 5, 0, 0, 0, 0, 0, gName, [], 0, false⟩ : Sn)) 36) (rfl) ?_
                      refine .seq ?_
                      refine .region ?_   -- R62 law.go:144
                      refine .rd (.ldN ia36 ts36 rfl .head rfl) ?_
                      refine .ef0 (.storeAll (vs := Sn.cells (⟨(101 + pickN o.client 3), ((i : Int) + 1), 5, 0, 0, 0, 0, 0, gName, [], 0, false⟩ : Sn)) ts36 rfl rfl rfl (.tail (.tail .head)) rfl (ones.of rfl)) ?_
                      rintro _ _ rfl
                      refine .nil ?_
                      refine .region ?_   -- R63 law.go:145
                      refine .rd (.move rfl) ?_
                      refine .rd (.fieldAddr fd36_4 rfl) ?_
                      refine .ef0 (.store ts3 rfl rfl .head rfl (Nat.le_of_ble_eq_true rfl)) ?_
                      rintro _ _ rfl
                      refine .nil ?_
                      refine .cast (X' := blk b14 (Sn.cells (⟨(101 + pickN o.client 3), ((i : Int) + 1), 5, 0, off, 0, 0, 0, gName, [], 0, false⟩ : Sn)) 36) (rfl) ?_
                      refine .inBlock ?_
                      exact fin ((⟨(101 + pickN o.client 3), ((i : Int) + 1), 5, 0, 0, 0, 0, 0, gName, [], 0, false⟩ : Sn), (⟨(101 + pickN o.client 3), ((i : Int) + 1), 5, 0, off, 0, 0, 0, gName, [], 0, false⟩ : Sn), T, st, gen, off) (W.fetch rfl rfl) (.cons rfl (.cons rfl (.cons rfl (.cons rfl (.cons rfl (.cons rfl (.cons rfl (.cons rfl (.cons rfl (.cons rfl (.cons rfl (.cons rfl .nil)))))))))))) (.cons (.tail (.tail .head)) (.cons (.tail .head) (.cons .head (.cons .head (.cons .head (.cons .head (.cons .head (.cons .head (.cons .head .nil)))))))))
                    · refine .seq ?_
                      refine .seq ?_
                      refine .region ?_   -- R16 law.go:147
                      refine .rd (.move rfl) ?_
                      refine .rd (.lenL rfl rfl Try.underlying22 rfl) ?_
                      refine .rd (.gt rfl rfl) ?_
                      refine .nil ?_
                      refine .condP rfl (fun h16 => ?_) (fun h16 => ?_)
                      · refine .seq ?_
                        obtain ⟨y, os, rfl⟩ : ∃ y os, opn = y :: os := by cases opn with | nil => exact absurd h16 (by decide) | cons y os => exact ⟨y, os, rfl⟩
                        rw [List.length_cons] at hWo
                        refine .tell (Knows.arrRoom (f := Sn.cells) Sn.cells_len (by decide) (.tail (.tail (.tail (.tail .head))))) (fun hroom => ?_)
                        rw [List.length_cons] at hroom
                        refine .tell (φ := ∃ b o, oa = some ⟨b, o, none⟩) ((Knows.arr (.tail (.tail (.tail (.tail .head))))).mono fun _ h => RowAt.addr h (by rw [flat_length Sn.cells_len]; simp)) (fun hh => ?_)
                        obtain ⟨b1, o1, rfl⟩ := hh
                        refine .region ?_   -- R17 law.go:148
                        refine .rd (.move rfl) ?_
                        refine .rd (.move rfl) ?_
                        refine .rd (.indexAddr Try.underlying22 ts36 rfl rfl (by omega) (by simp)) ?_
                        refine .rd (.loadN ia36 ts36 rfl rfl (Knows.elem (f := Sn.cells) Sn.cells_len (by decide) (Knows.arr (.tail (.tail (.tail (.tail .head))))) (i := 0) (x := y) rfl)) ?_
                        refine .ef (.buildOne (cs := Sn.cells y) Try.underlying22 ti36 (by decide) rfl rfl rfl (ones.of rfl)) ?_
                        rintro _ _ ⟨bs1, rfl, rfl⟩
                        refine .ef (.append rfl rfl Try.underlying22 ti36 rfl (ones.of rfl) (by decide) (by decide) rfl rfl (.tail (.tail (.tail (.tail .head)))) (n := h.length) (m := 1) (by rw [flat_length Sn.cells_len]) (.srcBlk (ys := Sn.cells y) .head Try.underlying22 rfl (by decide)) (by first | omega | (rw [hl1]; omega))) ?_
                        rintro _ _ ⟨ta, tc, rfl, tn, rfl⟩
                        refine .alter (t := 55) (v' := .slice ta (h ++ [y]).length tc) rfl (by simp only [List.length_append, List.length_cons, List.length_nil]) ?_
                        refine .rd (.assign rfl) ?_
                        refine .nil ?_
                        refine .cast (X' := arr 36 12 ta tc ((h ++ [y]).flatMap Sn.cells)) (by rw [List.flatMap_append]; simp) ?_
                        refine .region ?_   -- R18 law.go:149
                        refine .rd (.move rfl) ?_
                        refine .rd (.slice (l := 1) (h := (y :: os).length) (m := oc) Try.underlying22 ts36 rfl rfl ⟨rfl, rfl⟩ ⟨_, rfl⟩ (by simp) (by simp; omega) (by omega)) ?_
                        refine .alter (t := 57) (v' := .slice (if oc = 1 then some ⟨b1, o1, none⟩ else some ⟨b1, o1 + 1 * 12, none⟩) os.length (oc - 1)) rfl (by rw [List.length_cons, Nat.add_sub_cancel]; rfl) ?_
                        refine .rd (.assign rfl) ?_
                        refine .nil ?_
                        refine .close (X := arr 36 12 (if oc = 1 then some ⟨b1, o1, none⟩ else some ⟨b1, o1 + 1 * 12, none⟩) (oc - 1) (os.flatMap Sn.cells)) (B := [arr 36 12 (some ⟨b1, o1, none⟩) oc (Sn.cells y ++ os.flatMap Sn.cells)]) (.cons (.tail (.tail (.tail (.tail (.tail .head))))) .nil) (rest_of rfl (by omega)) ?_
                        refine .exit rfl ?_
                        refine .region ?_   -- R10 law.go:94
                        refine .rd (.move rfl) ?_
                        refine .rd (.add rfl rfl (by omega) (by omega)) ?_
                        refine .rd (.assign rfl) ?_
                        refine .nil ?_
                        exact (ih (i + 1, ta, tc, h ++ [y], (if oc = 1 then some ⟨b1, o1, none⟩ else some ⟨b1, o1 + 1 * 12, none⟩), oc - 1, os, T, st, gen, off) (W.freed hi1 hi2) (by show sc.length - (i + 1) < sc.length - i; omega)).to (.cons rfl (.cons rfl (.cons rfl (.cons rfl (.cons rfl (.cons rfl (.cons rfl (.cons rfl (.cons rfl .nil))))))))) (.cons (.tail .head) (.cons .head (.cons (.tail (.tail (.tail (.tail .head)))) (.cons (.tail (.tail (.tail (.tail .head)))) (.cons (.tail (.tail (.tail (.tail .head)))) (.cons (.tail (.tail (.tail (.tail .head)))) .nil))))))
                      · refine .skip ?_
                        refine .exit rfl ?_
                        refine .region ?_   -- R10 law.go:94
                        refine .rd (.move rfl) ?_
                        refine .rd (.add rfl rfl (by omega) (by omega)) ?_
                        refine .rd (.assign rfl) ?_
                        refine .nil ?_
                        exact (ih (i + 1, la, lc, h, oa, oc, opn, T, st, gen, off) (W.idle hi1 hi2) (by show sc.length - (i + 1) < sc.length - i; omega)).to (.cons rfl (.cons rfl (.cons rfl (.cons rfl (.cons rfl (.cons rfl (.cons rfl (.cons rfl (.cons rfl .nil))))))))) (.cons (.tail (.tail (.tail .head))) (.cons (.tail (.tail (.tail .head))) (.cons (.tail (.tail (.tail .head))) (.cons (.tail (.tail (.tail .head))) (.cons (.tail (.tail (.tail .head))) (.cons (.tail (.tail (.tail .head))) .nil))))))
        · refine .condP rfl (fun h19 => ?_) (fun h19 => ?_)
          · refine .skip ?_
            exact fin (.cons rfl (.cons rfl (.cons rfl (.cons rfl (.cons rfl (.cons rfl (.cons rfl (.cons rfl (.cons rfl (.cons rfl (.cons rfl (.cons rfl (.cons rfl (.cons rfl (.cons (by show some (Value.bool (decide ((pickN o.kind 8) = 0))) = some (Value.bool (decide ((pickN o.kind 8) = 0) || decide ((pickN o.kind 8) = 1))); rw [decide_eq_true (p := (pickN o.kind 8) = 0) h19]; rfl) .nil))))))))))))))) (.cons (.tail (.tail .head)) (.cons (.tail .head) (.cons .head (.cons .head (.cons .head (.cons .head (.cons .head (.cons .head (.cons .head .nil)))))))))
          · refine .region ?_   -- R20 law.go:100
            refine .rd (.eqI rfl rfl) ?_
            refine .rd (.assign rfl) ?_
            refine .nil ?_
            exact fin (.cons rfl (.cons rfl (.cons rfl (.cons rfl (.cons rfl (.cons rfl (.cons rfl (.cons rfl (.cons rfl (.cons rfl (.cons rfl (.cons rfl (.cons rfl (.cons rfl (.cons (by show some (Value.bool (decide ((pickN o.kind 8) = 1))) = some (Value.bool (decide ((pickN o.kind 8) = 0) || decide ((pickN o.kind 8) = 1))); rw [decide_eq_false (p := (pickN o.kind 8) = 0) h19]; rfl) .nil))))))))))))))) (.cons (.tail (.tail .head)) (.cons (.tail .head) (.cons .head (.cons .head (.cons .head (.cons .head (.cons .head (.cons .head (.cons .head .nil)))))))))
    · refine .exit rfl ?_
      refine .seq ?_
      refine .region ?_   -- R73 law.go:165
      refine .rd (.move rfl) ?_
      refine .fn rfl rfl .nil (Knows.arr .head) (Check_ok h la lc (by have := W.small; omega)) (fun v G1 hq => ?_)
      obtain ⟨rfl, rfl⟩ := hq
      simp only [List.nil_append]
      rw [W.check]
      refine .rd (.move rfl) ?_
      refine .rd (.extract rfl rfl) ?_
      refine .rd (.extract rfl rfl) ?_
      refine .rd (.assign rfl) ?_
      refine .rd (.assign rfl) ?_
      refine .nil ?_
      refine .seq ?_
      refine .region ?_   -- R74 law.go:166
      refine .rd (.move rfl) ?_
      refine .rd (.move rfl) ?_
      refine .on (t := 230) rfl rfl ?_
      refine .rd (.move rfl) ?_
      refine .on (t := 230) rfl rfl ?_
      refine .rd (.eqI rfl rfl) ?_
      refine .alter (t := 232) (v' := .bool true) rfl (rfl) ?_
      refine .rd (.pickT rfl rfl) ?_
      refine .rd (.assign rfl) ?_
      refine .nil ?_
      refine .retP Try.func4 (.cons (.tmp rfl) .nil) (.cons (.tail (.tail (.tail (.tail (.tail .head))))) .nil) ?_
      exact ⟨[], ⟨rfl, rfl⟩, rfl⟩
  · replace g9 := of_decide_eq_false g9
    refine .off (t := 22) rfl rfl rfl ?_
    refine .off (t := 22) rfl rfl rfl ?_
    refine .rd (.pickF rfl rfl) ?_
    refine .nil ?_
    refine .condF rfl ?_
    refine .exit rfl ?_
    refine .seq ?_
    refine .region ?_   -- R73 law.go:165
    refine .rd (.move rfl) ?_
    refine .fn rfl rfl .nil (Knows.arr .head) (Check_ok h la lc (by have := W.small; omega)) (fun v G1 hq => ?_)
    obtain ⟨rfl, rfl⟩ := hq
    simp only [List.nil_append]
    rw [W.check]
    refine .rd (.move rfl) ?_
    refine .rd (.extract rfl rfl) ?_
    refine .rd (.extract rfl rfl) ?_
    refine .rd (.assign rfl) ?_
    refine .rd (.assign rfl) ?_
    refine .nil ?_
    refine .seq ?_
    refine .region ?_   -- R74 law.go:166
    refine .rd (.move rfl) ?_
    refine .rd (.move rfl) ?_
    refine .on (t := 230) rfl rfl ?_
    refine .rd (.move rfl) ?_
    refine .on (t := 230) rfl rfl ?_
    refine .rd (.eqI rfl rfl) ?_
    refine .alter (t := 232) (v' := .bool true) rfl (rfl) ?_
    refine .rd (.pickT rfl rfl) ?_
    refine .rd (.assign rfl) ?_
    refine .nil ?_
    refine .retP Try.func4 (.cons (.tmp rfl) .nil) (.cons (.tail (.tail (.tail (.tail (.tail .head))))) .nil) ?_
    exact ⟨[], ⟨rfl, rfl⟩, rfl⟩

end Go.Proofs.Ytahpokcigdjilaa

