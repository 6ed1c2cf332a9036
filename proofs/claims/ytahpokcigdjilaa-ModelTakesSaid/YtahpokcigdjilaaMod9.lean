/- Steps through functions of the program, under conditions that each theorem states (part mod9 of a claim). -/
import Derived.Test.YtahpokcigdjilaaProg
import Derived.Test.YtahpokcigdjilaaDefs22d
namespace Go.Proofs.Ytahpokcigdjilaa
open Go Go.Sp

set_option linter.unusedVariables false

namespace mod9
theorem ti5 : TI Try.prog 5 1 1 (.int .u8 0) := .of (by kernel_rfl)
theorem bld36_0_1_2_3_9 (x0 : Int) (x1 : Int) (x2 : Int) (x3 : Int) (x4 : ByteArray) (w : World) : (Instr.build 36 (([0, 1, 2, 3, 9] : List Nat).zip [.int .i64 x0, .int .i64 x1, .int .i64 x2, .int .i64 x3, .string x4]).toArray).run Try.prog w = .ok (.agg #[.int .i64 x0, .int .i64 x1, .int .i64 x2, .int .i64 x3, .int .i64 0, .int .i64 0, .int .i64 0, .int .i64 0, .string ⟨#[]⟩, .string x4, .int .i64 0, .bool false]) w := by kernel_rfl
theorem ti36 : TI Try.prog 36 12 112 (.agg #[.int .i64 0, .int .i64 0, .int .i64 0, .int .i64 0, .int .i64 0, .int .i64 0, .int .i64 0, .int .i64 0, .string ⟨#[]⟩, .string ⟨#[]⟩, .int .i64 0, .bool false]) := .of (by kernel_rfl)
theorem ts36 : TS Try.prog 36 12 := .of (by kernel_rfl)
theorem ia36 : IsAgg Try.prog 36 := ⟨_, Try.underlying36, trivial⟩
theorem fd36_11 : FD Try.prog 36 11 11 := .of Try.underlying36 (by kernel_rfl)
theorem ts4 : TS Try.prog 4 1 := .of (by kernel_rfl)
theorem fd36_4 : FD Try.prog 36 4 4 := .of Try.underlying36 (by kernel_rfl)
theorem ts3 : TS Try.prog 3 1 := .of (by kernel_rfl)
theorem fd36_7 : FD Try.prog 36 7 7 := .of Try.underlying36 (by kernel_rfl)
theorem fd36_5 : FD Try.prog 36 5 5 := .of Try.underlying36 (by kernel_rfl)
theorem bld36_0_1_2_3_4 (x0 : Int) (x1 : Int) (x2 : Int) (x3 : Int) (x4 : Int) (w : World) : (Instr.build 36 (([0, 1, 2, 3, 4] : List Nat).zip [.int .i64 x0, .int .i64 x1, .int .i64 x2, .int .i64 x3, .int .i64 x4]).toArray).run Try.prog w = .ok (.agg #[.int .i64 x0, .int .i64 x1, .int .i64 x2, .int .i64 x3, .int .i64 x4, .int .i64 0, .int .i64 0, .int .i64 0, .string ⟨#[]⟩, .string ⟨#[]⟩, .int .i64 0, .bool false]) w := by kernel_rfl
theorem fd36_9 : FD Try.prog 36 9 9 := .of Try.underlying36 (by kernel_rfl)
theorem ts9 : TS Try.prog 9 1 := .of (by kernel_rfl)
end mod9
open mod9

theorem byte_at (m : Nat) : IntKind.u8.wrap (97 + (m : Int)) = ((UInt8.ofNat (97 + m)).toNat : Int) := by
  rw [UInt8.toNat_ofNat']
  unfold IntKind.wrap; simp [IntKind.signed, IntKind.bits]

set_option maxHeartbeats 1000000 in
set_option maxRecDepth 20000 in
theorem ModelTells_ok (many which : Int) (t u : Tx) (hmany : i64 many) (hwhich : i64 which) (ht : t.length ≤ 140737488351232) (hu : u.length ≤ 140737488351232) : Cn Try.prog 5 [.int .i64 many, .int .i64 which, .string (str t), .string (str u)] (fun _ => True) [] fun v G => v = .bool true ∧ G = [] := by
  refine .enter Try.func5 rfl (by kernel_rfl) rfl fun R k => ?_
  obtain ⟨n, hn⟩ : ∃ n : Nat, 1 + pickN many 20 = n := ⟨(1 + pickN many 20).toNat, by have := pickN_nn (c := many) (n := 20) (by decide); omega⟩
  have hn1 : 1 ≤ n := by have := pickN_nn (c := many) (n := 20) (by decide); omega
  have hn20 : n ≤ 20 := by have := pickN_lt (c := many) (n := 20) (by decide); omega
  refine .seq ?_
  refine .region ?_   -- R0 more.go:9
  refine .rd (.assign rfl) ?_
  refine .nil ?_
  refine .seq ?_
  refine .region ?_   -- R1 more.go:10
  refine .fn rfl rfl .nil (fun _ _ _ => trivial) (shown_ok) (fun v G1 hq => ?_)
  obtain ⟨rfl, rfl⟩ := hq
  simp only [List.nil_append]
  refine .rd (.assign rfl) ?_
  refine .nil ?_
  refine .seq ?_
  refine .seq ?_
  refine .region ?_   -- R2 more.go:11
  refine .rd (.move rfl) ?_
  refine .rd (.move rfl) ?_
  refine .rd (.eqT rfl rfl) ?_
  refine .rd (.move rfl) ?_
  refine .split (t := 27) rfl (fun htu => ?_) (fun htu => ?_)
  · replace htu := of_decide_eq_true htu
    refine .off (t := 27) rfl rfl rfl ?_
    refine .off (t := 27) rfl rfl rfl ?_
    refine .off (t := 27) rfl rfl rfl ?_
    refine .rd (.pickT rfl rfl) ?_
    refine .rd (.move rfl) ?_
    refine .off (t := 32) rfl rfl rfl ?_
    refine .off (t := 32) rfl rfl rfl ?_
    refine .off (t := 32) rfl rfl rfl ?_
    refine .rd (.pickT rfl rfl) ?_
    refine .nil ?_
    refine .condT rfl ?_
    refine .seq ?_
    refine .region ?_   -- R3 more.go:12
    refine .rd (.move rfl) ?_
    refine .rd (.assign rfl) ?_
    refine .nil ?_
    refine .retP Try.func5 (.cons (.tmp rfl) .nil) (.cons .head .nil) ?_
    exact ⟨[], ⟨rfl, rfl⟩, rfl⟩
  · replace htu := of_decide_eq_false htu
    refine .on (t := 27) rfl rfl ?_
    refine .rd (.move rfl) ?_
    refine .on (t := 27) rfl rfl ?_
    refine .rd (.lenT rfl rfl Try.underlying9 rfl) ?_
    refine .on (t := 27) rfl rfl ?_
    refine .rd (.gt rfl rfl) ?_
    refine .rd (.pickF rfl rfl) ?_
    refine .rd (.move rfl) ?_
    refine .split (t := 32) rfl (fun g2_8 => ?_) (fun g2_8 => ?_)
    · replace g2_8 := of_decide_eq_true g2_8
      refine .off (t := 32) rfl rfl rfl ?_
      refine .off (t := 32) rfl rfl rfl ?_
      refine .off (t := 32) rfl rfl rfl ?_
      refine .rd (.pickT rfl rfl) ?_
      refine .nil ?_
      refine .condT rfl ?_
      refine .seq ?_
      refine .region ?_   -- R3 more.go:12
      refine .rd (.move rfl) ?_
      refine .rd (.assign rfl) ?_
      refine .nil ?_
      refine .retP Try.func5 (.cons (.tmp rfl) .nil) (.cons .head .nil) ?_
      exact ⟨[], ⟨rfl, rfl⟩, rfl⟩
    · replace g2_8 := of_decide_eq_false g2_8
      refine .on (t := 32) rfl rfl ?_
      refine .rd (.move rfl) ?_
      refine .on (t := 32) rfl rfl ?_
      refine .rd (.lenT rfl rfl Try.underlying9 rfl) ?_
      refine .on (t := 32) rfl rfl ?_
      refine .rd (.gt rfl rfl) ?_
      refine .rd (.pickF rfl rfl) ?_
      refine .nil ?_
      refine .condP rfl (fun h2 => ?_) (fun h2 => ?_)
      · refine .seq ?_
        refine .region ?_   -- R3 more.go:12
        refine .rd (.move rfl) ?_
        refine .rd (.assign rfl) ?_
        refine .nil ?_
        refine .retP Try.func5 (.cons (.tmp rfl) .nil) (.cons .head .nil) ?_
        exact ⟨[], ⟨rfl, rfl⟩, rfl⟩
      · have htl : t.length ≤ 100 := by omega
        have hul : u.length ≤ 100 := by omega
        refine .skip ?_
        refine .seq ?_
        refine .region ?_   -- R4 more.go:14
        refine .rd (.assign rfl) ?_
        refine .nil ?_
        refine .nilArr 36 12 none ?_
        refine .seq ?_
        have hp1 := pickN_nn (c := many) (n := 20) (by decide)
        refine .region ?_   -- R5 more.go:15
        refine .rd (.move rfl) ?_
        refine .fn rfl rfl .nil (fun _ _ _ => trivial) (pick_ok many 20 hmany (by decide)) (fun v G1 hq => ?_)
        obtain ⟨rfl, rfl⟩ := hq
        simp only [List.nil_append]
        refine .rd (.add rfl rfl (by omega) (by omega)) ?_
        refine .alter (t := 40) (v' := .int .i64 (n : Nat)) rfl (by rw [hn]) ?_
        refine .rd (.assign rfl) ?_
        refine .nil ?_
        refine .seq ?_
        refine .seq ?_
        refine .region ?_   -- R6 more.go:16
        refine .rd (.assign rfl) ?_
        refine .nil ?_
        refine .block ?_
        refine .loop (σ := Nat × Option Addr × Nat) (fun ⟨j, a', c'⟩ => j ≤ n) (fun ⟨j, a', c'⟩ => n - j) (fun ⟨j, a', c'⟩ => [(0, .int .i64 (n : Nat)), (1, .int .i64 which), (2, .string (str t)), (3, .string (str u)), (9, .bool true), (10, .slice a' (sendL t j).length c'), (11, .int .i64 (j : Nat))]) (fun ⟨j, a', c'⟩ => [arr 36 12 a' c' ((sendL t j).flatMap Sn.cells), R]) (0, none, 0) (Nat.zero_le _) (.cons rfl (.cons rfl (.cons rfl (.cons rfl (.cons rfl (.cons rfl (.cons rfl .nil))))))) (.cons .head (.cons .head .nil)) (fun s' hI ih => ?_)
        obtain ⟨j, a', c'⟩ := s'
        dsimp only at hI ih ⊢
        have hlen := sendL_len t j
        refine .seq ?_
        refine .seq ?_
        refine .region ?_   -- R7 more.go:16
        refine .rd (.move rfl) ?_
        refine .rd (.move rfl) ?_
        refine .rd (.lt rfl rfl) ?_
        refine .nil ?_
        refine .condP rfl (fun h7 => ?_) (fun h7 => ?_)
        · refine .skip ?_
          refine .seq ?_
          refine .block ?_
          refine .seq ?_
          refine .region ?_   -- R9 more.go:17
          refine .rd (.move rfl) ?_
          refine .rd (.add rfl rfl (by omega) (by omega)) ?_
          refine .rd (.move rfl) ?_
          refine .rd (.move rfl) ?_
          refine .rd (.add rfl rfl (by omega) (by omega)) ?_
          refine .rd (.convInt Try.underlying3 Try.underlying5 rfl) ?_
          refine .alter (t := 51) (v' := .int .u8 ((UInt8.ofNat (97 + j)).toNat : Int)) rfl (congrArg (Value.int .u8) (byte_at j)) ?_
          refine .ef (.buildOne (cs := bcs [UInt8.ofNat (97 + j)]) Try.underlying37 ti5 (by decide) rfl rfl rfl (ones.of rfl)) ?_
          rintro _ _ ⟨by1, rfl, rfl⟩
          refine .rd (.bytesToStr (l := [UInt8.ofNat (97 + j)]) Try.underlying37 Try.underlying5 Try.underlying9 rfl rfl ((Knows.blk .head).mono fun _ h => .inr ⟨by1, 0, rfl, h⟩)) ?_
          refine .rd (.catT rfl rfl (by show t.length + 1 ≤ _; omega)) ?_
          refine .rd (.build rfl (bld36_0_1_2_3_9 _ _ _ _ _)) ?_
          refine .ef (.alloc ti36 rfl (ones.of rfl)) ?_
          rintro _ _ ⟨b12, rfl, rfl⟩
          refine .ef0 (.storeAll (vs := Sn.cells (sendC t j)) ts36 rfl rfl rfl .head rfl (ones.of rfl)) ?_
          rintro _ _ rfl
          refine .nil ?_
          refine .seq ?_
          refine .region ?_   -- R10 more.go:18
          refine .rd (.move rfl) ?_
          refine .rd (.ldN ia36 ts36 rfl .head rfl) ?_
          refine .ef (.buildOne (cs := Sn.cells (sendC t j)) Try.underlying22 ti36 (by decide) rfl rfl rfl (ones.of rfl)) ?_
          rintro _ _ ⟨bs1, rfl, rfl⟩
          refine .ef (.append rfl rfl Try.underlying22 ti36 rfl (ones.of rfl) (by decide) (by decide) rfl rfl (.tail (.tail (.tail .head))) (n := (sendL t j).length) (m := 1) (by rw [flat_length Sn.cells_len]) (.srcBlk (ys := Sn.cells (sendC t j)) .head Try.underlying22 rfl (by decide)) (by omega)) ?_
          rintro _ _ ⟨ta, tc, rfl, tn, rfl⟩
          refine .alter (t := 59) (v' := .slice ta ((sendL t j) ++ [(sendC t j)]).length tc) rfl (by simp only [List.length_append, List.length_cons, List.length_nil]) ?_
          refine .rd (.assign rfl) ?_
          refine .nil ?_
          refine .cast (X' := arr 36 12 ta tc (((sendL t j) ++ [(sendC t j)]).flatMap Sn.cells)) (by rw [List.flatMap_append]; simp) ?_
          refine .seq ?_
          refine .region ?_   -- R11 more.go:19
          refine .rd (.fieldAddr fd36_11 rfl) ?_
          refine .ef0 (.store ts4 rfl rfl (.tail (.tail .head)) rfl (Nat.le_of_ble_eq_true rfl)) ?_
          rintro _ _ rfl
          refine .nil ?_
          refine .seq ?_
          refine .region ?_   -- R12 more.go:20
          refine .rd (.move rfl) ?_
          refine .rd (.fieldAddr fd36_4 rfl) ?_
          refine .ef0 (.store ts3 rfl rfl .head rfl (Nat.le_of_ble_eq_true rfl)) ?_
          rintro _ _ rfl
          refine .nil ?_
          refine .seq ?_
          refine .region ?_   -- R13 more.go:21
          refine .rd (.move rfl) ?_
          refine .rd (.fieldAddr fd36_7 rfl) ?_
          refine .ef0 (.store ts3 rfl rfl .head rfl (Nat.le_of_ble_eq_true rfl)) ?_
          rintro _ _ rfl
          refine .nil ?_
          refine .seq ?_
          refine .region ?_   -- R14 more.go:22
          refine .rd (.fieldAddr fd36_5 rfl) ?_
          refine .ef0 (.store ts3 rfl rfl .head rfl (Nat.le_of_ble_eq_true rfl)) ?_
          rintro _ _ rfl
          refine .nil ?_
          refine .cast (X' := blk b12 (Sn.cells (sendR t j)) 36) (rfl) ?_
          have hlen1 : ((sendL t j) ++ [(sendC t j)]).length = 2 * j + 1 := by rw [List.length_append, hlen]; rfl
          refine .region ?_   -- R15 more.go:23
          refine .rd (.move rfl) ?_
          refine .rd (.ldN ia36 ts36 rfl .head rfl) ?_
          refine .ef (.buildOne (cs := Sn.cells (sendR t j)) Try.underlying22 ti36 (by decide) rfl rfl rfl (ones.of rfl)) ?_
          rintro _ _ ⟨bs1, rfl, rfl⟩
          refine .ef (.append rfl rfl Try.underlying22 ti36 rfl (ones.of rfl) (by decide) (by decide) rfl rfl (.tail (.tail .head)) (n := ((sendL t j) ++ [(sendC t j)]).length) (m := 1) (by rw [flat_length Sn.cells_len]) (.srcBlk (ys := Sn.cells (sendR t j)) .head Try.underlying22 rfl (by decide)) (by omega)) ?_
          rintro _ _ ⟨ua, uc, rfl, un, rfl⟩
          refine .alter (t := 69) (v' := .slice ua (((sendL t j) ++ [(sendC t j)]) ++ [(sendR t j)]).length uc) rfl (by simp only [List.length_append, List.length_cons, List.length_nil]) ?_
          refine .rd (.assign rfl) ?_
          refine .nil ?_
          refine .cast (X' := arr 36 12 ua uc ((((sendL t j) ++ [(sendC t j)]) ++ [(sendR t j)]).flatMap Sn.cells)) (by rw [List.flatMap_append]; simp) ?_
          refine .inBlock ?_
          refine .region ?_   -- R8 more.go:16
          refine .rd (.move rfl) ?_
          refine .rd (.add rfl rfl (by omega) (by omega)) ?_
          refine .rd (.assign rfl) ?_
          refine .nil ?_
          rw [List.append_assoc, List.cons_append, List.nil_append, ← sendL_succ]
          exact (ih (j + 1, ua, uc) (by show j + 1 ≤ n; omega) (by show n - (j + 1) < n - j; omega)).to (.cons rfl (.cons rfl (.cons rfl (.cons rfl (.cons rfl (.cons rfl (.cons rfl .nil))))))) (.cons .head (.cons (.tail (.tail (.tail (.tail .head)))) .nil))
        · obtain rfl : j = n := by omega
          clear ih
          obtain ⟨kk, hkk⟩ : ∃ kk : Nat, pickN which (j : Int) = kk := ⟨(pickN which (j : Int)).toNat, by have := pickN_nn (c := which) (n := (j : Int)) (by omega); omega⟩
          have hkn : kk < j := by have := pickN_lt (c := which) (n := (j : Int)) (by omega); omega
          refine .exit rfl ?_
          refine .seq ?_
          refine .region ?_   -- R16 more.go:25
          refine .rd (.move rfl) ?_
          refine .fn rfl rfl .nil (Knows.arr .head) (Check_ok (sendL t j) a' c' (by omega)) (fun v G1 hq => ?_)
          obtain ⟨rfl, rfl⟩ := hq
          simp only [List.nil_append]
          rw [check_sends t j (by omega)]
          refine .rd (.move rfl) ?_
          refine .rd (.extract rfl rfl) ?_
          refine .rd (.extract rfl rfl) ?_
          refine .rd (.assign rfl) ?_
          refine .rd (.assign rfl) ?_
          refine .nil ?_
          refine .seq ?_
          refine .region ?_   -- R17 more.go:26
          refine .rd (.move rfl) ?_
          refine .rd (.move rfl) ?_
          refine .fn rfl rfl .nil (fun _ _ _ => trivial) (pick_ok which (j : Int) hwhich (by omega)) (fun v G1 hq => ?_)
          obtain ⟨rfl, rfl⟩ := hq
          simp only [List.nil_append]
          refine .alter (t := 77) (v' := .int .i64 (kk : Nat)) rfl (by rw [hkk]) ?_
          refine .rd (.assign rfl) ?_
          refine .nil ?_
          refine .seq ?_
          refine .region ?_   -- R18 more.go:27
          refine .rd (.move rfl) ?_
          refine .rd (.build rfl (bld36_0_1_2_3_4 _ _ _ _ _)) ?_
          refine .ef (.alloc ti36 rfl (ones.of rfl)) ?_
          rintro _ _ ⟨b16, rfl, rfl⟩
          refine .ef0 (.storeAll (vs := Sn.cells (readC kk)) ts36 rfl rfl rfl .head rfl (ones.of rfl)) ?_
          rintro _ _ rfl
          refine .nil ?_
          refine .seq ?_
          refine .region ?_   -- R19 more.go:28
          refine .rd (.move rfl) ?_
          refine .rd (.ldN ia36 ts36 rfl .head rfl) ?_
          refine .ef (.buildOne (cs := Sn.cells (readC kk)) Try.underlying22 ti36 (by decide) rfl rfl rfl (ones.of rfl)) ?_
          rintro _ _ ⟨bs1, rfl, rfl⟩
          refine .ef (.append rfl rfl Try.underlying22 ti36 rfl (ones.of rfl) (by decide) (by decide) rfl rfl (.tail (.tail .head)) (n := (sendL t j).length) (m := 1) (by rw [flat_length Sn.cells_len]) (.srcBlk (ys := Sn.cells (readC kk)) .head Try.underlying22 rfl (by decide)) (by omega)) ?_
          rintro _ _ ⟨ta, tc, rfl, tn, rfl⟩
          refine .alter (t := 83) (v' := .slice ta ((sendL t j) ++ [(readC kk)]).length tc) rfl (by simp only [List.length_append, List.length_cons, List.length_nil]) ?_
          refine .rd (.assign rfl) ?_
          refine .nil ?_
          refine .cast (X' := arr 36 12 ta tc (((sendL t j) ++ [(readC kk)]).flatMap Sn.cells)) (by rw [List.flatMap_append]; simp) ?_
          refine .seq ?_
          have hlen1 : ((sendL t j) ++ [readC kk]).length = 2 * j + 1 := by rw [List.length_append, hlen]; rfl
          refine .region ?_   -- R20 more.go:29
          refine .rd (.fieldAddr fd36_11 rfl) ?_
          refine .ef0 (.store ts4 rfl rfl (.tail (.tail .head)) rfl (Nat.le_of_ble_eq_true rfl)) ?_
          rintro _ _ rfl
          refine .nil ?_
          refine .seq ?_
          refine .region ?_   -- R21 more.go:30
          refine .rd (.move rfl) ?_
          refine .rd (.move rfl) ?_
          refine .rd (.add rfl rfl (by omega) (by omega)) ?_
          refine .rd (.convInt Try.underlying3 Try.underlying5 rfl) ?_
          refine .alter (t := 88) (v' := .int .u8 ((UInt8.ofNat (97 + kk)).toNat : Int)) rfl (congrArg (Value.int .u8) (byte_at kk)) ?_
          refine .ef (.buildOne (cs := bcs [UInt8.ofNat (97 + kk)]) Try.underlying37 ti5 (by decide) rfl rfl rfl (ones.of rfl)) ?_
          rintro _ _ ⟨by1, rfl, rfl⟩
          refine .rd (.bytesToStr (l := [UInt8.ofNat (97 + kk)]) Try.underlying37 Try.underlying5 Try.underlying9 rfl rfl ((Knows.blk .head).mono fun _ h => .inr ⟨by1, 0, rfl, h⟩)) ?_
          refine .rd (.catT rfl rfl (by show t.length + 1 ≤ _; omega)) ?_
          refine .rd (.fieldAddr fd36_9 rfl) ?_
          refine .ef0 (.store ts9 rfl rfl (.tail .head) rfl (Nat.le_of_ble_eq_true rfl)) ?_
          rintro _ _ rfl
          refine .nil ?_
          refine .cast (X' := blk b16 (Sn.cells (readR kk (tx t kk))) 36) (rfl) ?_
          refine .seq ?_
          refine .draws [3] [blk b16 (Sn.cells (readR kk (tx t kk))) 36] (by kernel_rfl) ?_   -- R22 more.go:31
          refine .rp 1 rfl (by kernel_rfl) (by kernel_rfl) (by kernel_rfl) (Reads.pure (.move rfl)) ?_
          refine .rd 3 rfl rfl (by kernel_rfl) (by kernel_rfl) (by kernel_rfl) (.ldN ia36 ts36 rfl .head rfl) (.cons .head .nil) ?_
          refine .all (rs := [0, 4]) (by kernel_rfl) (by simp) (fun i hi => ?_)
          simp only [List.mem_cons, List.not_mem_nil, or_false] at hi
          rcases hi with rfl | rfl
          · refine .ef rfl (.buildNone Try.underlying22 ti36) ?_
            rintro _ _ ⟨e1b, rfl, rfl⟩
            refine ⟨.inr ⟨_, (.cons (.tail .head) .nil)⟩, ?_⟩
            refine .all (rs := [2, 4]) (by kernel_rfl) (by simp) (fun i hi => ?_)
            simp only [List.mem_cons, List.not_mem_nil, or_false] at hi
            rcases hi with rfl | rfl
            · refine .ef rfl (.nilArr 36 12 (some ⟨e1b, 0, none⟩) (.append rfl rfl Try.underlying22 ti36 rfl (ones.of rfl) (by decide) (by decide) rfl rfl .head (n := 0) (m := ((sendL t j) ++ [readC kk]).length) rfl (.srcRow (Knows.arr (.tail (.tail (.tail (.tail .head))))) Try.underlying22 (by rw [flat_length Sn.cells_len]) (by decide)) (by omega))) ?_
              rintro _ _ ⟨xa, xc, rfl, xn, rfl⟩
              refine ⟨.inr ⟨_, (.cons (.tail (.tail .head)) .nil)⟩, ?_⟩
              refine .ef 4 (by kernel_rfl) rfl (.buildOne (cs := Sn.cells (readR kk (tx t kk))) Try.underlying22 ti36 (by decide) rfl rfl rfl (ones.of rfl)) ?_
              rintro _ _ ⟨bs1, rfl, rfl⟩
              refine ⟨.inl (by kernel_rfl), ?_⟩
              refine .alter (t := 95) (v' := .slice xa ((sendL t j) ++ [readC kk]).length xc) rfl (by rw [Nat.zero_add]) ?_
              refine .ef 5 (by kernel_rfl) rfl (.append rfl rfl Try.underlying22 ti36 rfl (ones.of rfl) (by decide) (by decide) rfl rfl (.tail .head) (n := ((sendL t j) ++ [readC kk]).length) (m := 1) (by rw [List.nil_append, flat_length Sn.cells_len]) (.srcBlk (ys := Sn.cells (readR kk (tx t kk))) .head Try.underlying22 rfl (by decide)) (by omega)) ?_
              rintro _ _ ⟨ya, yc, rfl, yn, rfl⟩
              refine ⟨.inl (by kernel_rfl), ?_⟩
              refine .rp 6 rfl (by kernel_rfl) (by kernel_rfl) (by kernel_rfl) (Reads.pure (.assign rfl)) ?_
              refine .done (by kernel_rfl) ?_
              refine .cast (X' := arr 36 12 ya yc ((((sendL t j) ++ [readC kk]) ++ [(readR kk (tx t kk))]).flatMap Sn.cells)) (by rw [List.flatMap_append]; simp) ?_
              refine .alter (t := 17) (v' := .slice ya (((sendL t j) ++ [readC kk]) ++ [(readR kk (tx t kk))]).length yc) rfl (by simp only [List.length_append, List.length_cons, List.length_nil]) ?_
              refine .seq ?_
              refine .region ?_   -- R23 more.go:32
              refine .rd (.move rfl) ?_
              refine .fn rfl rfl .nil (Knows.arr .head) (Check_ok (((sendL t j) ++ [readC kk]) ++ [readR kk (tx t kk)]) ya yc (by simp only [List.length_append, hlen1]; show 2 * j + 1 + 1 ≤ _; omega)) (fun v G1 hq => ?_)
              obtain ⟨rfl, rfl⟩ := hq
              simp only [List.nil_append]
              rw [read_end t j kk (by omega) hkn, if_pos rfl]
              refine .rd (.move rfl) ?_
              refine .rd (.extract rfl rfl) ?_
              refine .rd (.extract rfl rfl) ?_
              refine .rd (.assign rfl) ?_
              refine .rd (.assign rfl) ?_
              refine .nil ?_
              refine .seq ?_
              refine .region ?_   -- R24 more.go:33
              refine .rd (.move rfl) ?_
              refine .rd (.move rfl) ?_
              refine .rd (.add rfl rfl (by omega) (by omega)) ?_
              refine .rd (.convInt Try.underlying3 Try.underlying5 rfl) ?_
              refine .alter (t := 107) (v' := .int .u8 ((UInt8.ofNat (97 + kk)).toNat : Int)) rfl (congrArg (Value.int .u8) (byte_at kk)) ?_
              refine .ef (.buildOne (cs := bcs [UInt8.ofNat (97 + kk)]) Try.underlying37 ti5 (by decide) rfl rfl rfl (ones.of rfl)) ?_
              rintro _ _ ⟨by1, rfl, rfl⟩
              refine .rd (.bytesToStr (l := [UInt8.ofNat (97 + kk)]) Try.underlying37 Try.underlying5 Try.underlying9 rfl rfl ((Knows.blk .head).mono fun _ h => .inr ⟨by1, 0, rfl, h⟩)) ?_
              refine .rd (.catT rfl rfl (by show u.length + 1 ≤ _; omega)) ?_
              refine .rd (.fieldAddr fd36_9 rfl) ?_
              refine .ef0 (.store ts9 rfl rfl (.tail (.tail (.tail (.tail .head)))) rfl (Nat.le_of_ble_eq_true rfl)) ?_
              rintro _ _ rfl
              refine .nil ?_
              refine .cast (X' := blk b16 (Sn.cells (readR kk (tx u kk))) 36) (rfl) ?_
              refine .seq ?_
              refine .draws [3] [blk b16 (Sn.cells (readR kk (tx u kk))) 36] (by kernel_rfl) ?_   -- R25 more.go:34
              refine .rp 1 rfl (by kernel_rfl) (by kernel_rfl) (by kernel_rfl) (Reads.pure (.move rfl)) ?_
              refine .rd 3 rfl rfl (by kernel_rfl) (by kernel_rfl) (by kernel_rfl) (.ldN ia36 ts36 rfl .head rfl) (.cons .head .nil) ?_
              refine .all (rs := [0, 4]) (by kernel_rfl) (by simp) (fun i hi => ?_)
              simp only [List.mem_cons, List.not_mem_nil, or_false] at hi
              rcases hi with rfl | rfl
              · refine .ef rfl (.buildNone Try.underlying22 ti36) ?_
                rintro _ _ ⟨e2b, rfl, rfl⟩
                refine ⟨.inr ⟨_, (.cons (.tail .head) .nil)⟩, ?_⟩
                refine .all (rs := [2, 4]) (by kernel_rfl) (by simp) (fun i hi => ?_)
                simp only [List.mem_cons, List.not_mem_nil, or_false] at hi
                rcases hi with rfl | rfl
                · refine .ef rfl (.nilArr 36 12 (some ⟨e2b, 0, none⟩) (.append rfl rfl Try.underlying22 ti36 rfl (ones.of rfl) (by decide) (by decide) rfl rfl .head (n := 0) (m := ((sendL t j) ++ [readC kk]).length) rfl (.srcRow (Knows.arr (.tail (.tail (.tail (.tail (.tail (.tail (.tail (.tail .head))))))))) Try.underlying22 (by rw [flat_length Sn.cells_len]) (by decide)) (by omega))) ?_
                  rintro _ _ ⟨xa, xc, rfl, xn, rfl⟩
                  refine ⟨.inr ⟨_, (.cons (.tail (.tail .head)) .nil)⟩, ?_⟩
                  refine .ef 4 (by kernel_rfl) rfl (.buildOne (cs := Sn.cells (readR kk (tx u kk))) Try.underlying22 ti36 (by decide) rfl rfl rfl (ones.of rfl)) ?_
                  rintro _ _ ⟨bs1, rfl, rfl⟩
                  refine ⟨.inl (by kernel_rfl), ?_⟩
                  refine .alter (t := 114) (v' := .slice xa ((sendL t j) ++ [readC kk]).length xc) rfl (by rw [Nat.zero_add]) ?_
                  refine .ef 5 (by kernel_rfl) rfl (.append rfl rfl Try.underlying22 ti36 rfl (ones.of rfl) (by decide) (by decide) rfl rfl (.tail .head) (n := ((sendL t j) ++ [readC kk]).length) (m := 1) (by rw [List.nil_append, flat_length Sn.cells_len]) (.srcBlk (ys := Sn.cells (readR kk (tx u kk))) .head Try.underlying22 rfl (by decide)) (by omega)) ?_
                  rintro _ _ ⟨za, zc, rfl, zn, rfl⟩
                  refine ⟨.inl (by kernel_rfl), ?_⟩
                  refine .rp 6 rfl (by kernel_rfl) (by kernel_rfl) (by kernel_rfl) (Reads.pure (.assign rfl)) ?_
                  refine .done (by kernel_rfl) ?_
                  refine .cast (X' := arr 36 12 za zc ((((sendL t j) ++ [readC kk]) ++ [(readR kk (tx u kk))]).flatMap Sn.cells)) (by rw [List.flatMap_append]; simp) ?_
                  refine .alter (t := 20) (v' := .slice za (((sendL t j) ++ [readC kk]) ++ [(readR kk (tx u kk))]).length zc) rfl (by simp only [List.length_append, List.length_cons, List.length_nil]) ?_
                  refine .seq ?_
                  refine .region ?_   -- R26 more.go:35
                  refine .rd (.move rfl) ?_
                  refine .fn rfl rfl .nil (Knows.arr .head) (Check_ok (((sendL t j) ++ [readC kk]) ++ [readR kk (tx u kk)]) za zc (by simp only [List.length_append, hlen1]; show 2 * j + 1 + 1 ≤ _; omega)) (fun v G1 hq => ?_)
                  obtain ⟨rfl, rfl⟩ := hq
                  simp only [List.nil_append]
                  rw [read_end t j kk (by omega) hkn, if_neg (tx_ne fun e => htu e.symm)]
                  refine .rd (.move rfl) ?_
                  refine .rd (.extract rfl rfl) ?_
                  refine .rd (.extract rfl rfl) ?_
                  refine .rd (.assign rfl) ?_
                  refine .rd (.assign rfl) ?_
                  refine .nil ?_
                  refine .seq ?_
                  refine .region ?_   -- R27 more.go:36
                  refine .rd (.move rfl) ?_
                  refine .rd (.move rfl) ?_
                  refine .on (t := 124) rfl rfl ?_
                  refine .rd (.move rfl) ?_
                  refine .on (t := 124) rfl rfl ?_
                  refine .rd (.eqI rfl rfl) ?_
                  refine .alter (t := 126) (v' := .bool true) rfl (congrArg Value.bool (decide_eq_true (by first | rfl | decide))) ?_
                  refine .rd (.pickT rfl rfl) ?_
                  refine .rd (.move rfl) ?_
                  refine .on (t := 128) rfl rfl ?_
                  refine .rd (.move rfl) ?_
                  refine .on (t := 128) rfl rfl ?_
                  refine .rd (.eqI rfl rfl) ?_
                  refine .alter (t := 130) (v' := .bool true) rfl (congrArg Value.bool (decide_eq_true (by first | rfl | decide))) ?_
                  refine .rd (.pickT rfl rfl) ?_
                  refine .rd (.move rfl) ?_
                  refine .on (t := 132) rfl rfl ?_
                  refine .rd (.move rfl) ?_
                  refine .on (t := 132) rfl rfl ?_
                  refine .rd (.move rfl) ?_
                  refine .on (t := 132) rfl rfl ?_
                  refine .rd (.lenL rfl rfl Try.underlying22 rfl) ?_
                  refine .on (t := 132) rfl rfl ?_
                  refine .rd (.eqI rfl rfl) ?_
                  refine .alter (t := 136) (v' := .bool true) rfl (congrArg Value.bool (decide_eq_true (by omega))) ?_
                  refine .rd (.pickT rfl rfl) ?_
                  refine .rd (.move rfl) ?_
                  refine .on (t := 138) rfl rfl ?_
                  refine .rd (.move rfl) ?_
                  refine .on (t := 138) rfl rfl ?_
                  refine .rd (.eqT (l := wValue) (m := wValue) rfl rfl) ?_
                  refine .alter (t := 140) (v' := .bool true) rfl (congrArg Value.bool (decide_eq_true rfl)) ?_
                  refine .rd (.pickT rfl rfl) ?_
                  refine .rd (.assign rfl) ?_
                  refine .nil ?_
                  refine .retP Try.func5 (.cons (.tmp rfl) .nil) (.cons (.tail (.tail (.tail (.tail (.tail (.tail (.tail (.tail (.tail (.tail (.tail .head))))))))))) .nil) ?_
                  exact ⟨[], ⟨rfl, rfl⟩, rfl⟩
                · refine .ef rfl (.buildOne (cs := Sn.cells (readR kk (tx u kk))) Try.underlying22 ti36 (by decide) rfl rfl rfl (ones.of rfl)) ?_
                  rintro _ _ ⟨bs1, rfl, rfl⟩
                  refine ⟨.inl (by kernel_rfl), ?_⟩
                  refine .ef 2 (by kernel_rfl) rfl (.nilArr 36 12 (some ⟨e2b, 0, none⟩) (.append rfl rfl Try.underlying22 ti36 rfl (ones.of rfl) (by decide) (by decide) rfl rfl .head (n := 0) (m := ((sendL t j) ++ [readC kk]).length) rfl (.srcRow (Knows.arr (.tail (.tail (.tail (.tail (.tail (.tail (.tail (.tail (.tail .head)))))))))) Try.underlying22 (by rw [flat_length Sn.cells_len]) (by decide)) (by omega))) ?_
                  rintro _ _ ⟨xa, xc, rfl, xn, rfl⟩
                  refine ⟨.inr ⟨_, (.cons (.tail (.tail (.tail .head))) .nil)⟩, ?_⟩
                  refine .alter (t := 114) (v' := .slice xa ((sendL t j) ++ [readC kk]).length xc) rfl (by rw [Nat.zero_add]) ?_
                  refine .ef 5 (by kernel_rfl) rfl (.append rfl rfl Try.underlying22 ti36 rfl (ones.of rfl) (by decide) (by decide) rfl rfl .head (n := ((sendL t j) ++ [readC kk]).length) (m := 1) (by rw [List.nil_append, flat_length Sn.cells_len]) (.srcBlk (ys := Sn.cells (readR kk (tx u kk))) (.tail .head) Try.underlying22 rfl (by decide)) (by omega)) ?_
                  rintro _ _ ⟨za, zc, rfl, zn, rfl⟩
                  refine ⟨.inl (by kernel_rfl), ?_⟩
                  refine .rp 6 rfl (by kernel_rfl) (by kernel_rfl) (by kernel_rfl) (Reads.pure (.assign rfl)) ?_
                  refine .done (by kernel_rfl) ?_
                  refine .cast (X' := arr 36 12 za zc ((((sendL t j) ++ [readC kk]) ++ [(readR kk (tx u kk))]).flatMap Sn.cells)) (by rw [List.flatMap_append]; simp) ?_
                  refine .alter (t := 20) (v' := .slice za (((sendL t j) ++ [readC kk]) ++ [(readR kk (tx u kk))]).length zc) rfl (by simp only [List.length_append, List.length_cons, List.length_nil]) ?_
                  refine .seq ?_
                  refine .region ?_   -- R26 more.go:35
                  refine .rd (.move rfl) ?_
                  refine .fn rfl rfl .nil (Knows.arr .head) (Check_ok (((sendL t j) ++ [readC kk]) ++ [readR kk (tx u kk)]) za zc (by simp only [List.length_append, hlen1]; show 2 * j + 1 + 1 ≤ _; omega)) (fun v G1 hq => ?_)
                  obtain ⟨rfl, rfl⟩ := hq
                  simp only [List.nil_append]
                  rw [read_end t j kk (by omega) hkn, if_neg (tx_ne fun e => htu e.symm)]
                  refine .rd (.move rfl) ?_
                  refine .rd (.extract rfl rfl) ?_
                  refine .rd (.extract rfl rfl) ?_
                  refine .rd (.assign rfl) ?_
                  refine .rd (.assign rfl) ?_
                  refine .nil ?_
                  refine .seq ?_
                  refine .region ?_   -- R27 more.go:36
                  refine .rd (.move rfl) ?_
                  refine .rd (.move rfl) ?_
                  refine .on (t := 124) rfl rfl ?_
                  refine .rd (.move rfl) ?_
                  refine .on (t := 124) rfl rfl ?_
                  refine .rd (.eqI rfl rfl) ?_
                  refine .alter (t := 126) (v' := .bool true) rfl (congrArg Value.bool (decide_eq_true (by first | rfl | decide))) ?_
                  refine .rd (.pickT rfl rfl) ?_
                  refine .rd (.move rfl) ?_
                  refine .on (t := 128) rfl rfl ?_
                  refine .rd (.move rfl) ?_
                  refine .on (t := 128) rfl rfl ?_
                  refine .rd (.eqI rfl rfl) ?_
                  refine .alter (t := 130) (v' := .bool true) rfl (congrArg Value.bool (decide_eq_true (by first | rfl | decide))) ?_
                  refine .rd (.pickT rfl rfl) ?_
                  refine .rd (.move rfl) ?_
                  refine .on (t := 132) rfl rfl ?_
                  refine .rd (.move rfl) ?_
                  refine .on (t := 132) rfl rfl ?_
                  refine .rd (.move rfl) ?_
                  refine .on (t := 132) rfl rfl ?_
                  refine .rd (.lenL rfl rfl Try.underlying22 rfl) ?_
                  refine .on (t := 132) rfl rfl ?_
                  refine .rd (.eqI rfl rfl) ?_
                  refine .alter (t := 136) (v' := .bool true) rfl (congrArg Value.bool (decide_eq_true (by omega))) ?_
                  refine .rd (.pickT rfl rfl) ?_
                  refine .rd (.move rfl) ?_
                  refine .on (t := 138) rfl rfl ?_
                  refine .rd (.move rfl) ?_
                  refine .on (t := 138) rfl rfl ?_
                  refine .rd (.eqT (l := wValue) (m := wValue) rfl rfl) ?_
                  refine .alter (t := 140) (v' := .bool true) rfl (congrArg Value.bool (decide_eq_true rfl)) ?_
                  refine .rd (.pickT rfl rfl) ?_
                  refine .rd (.assign rfl) ?_
                  refine .nil ?_
                  refine .retP Try.func5 (.cons (.tmp rfl) .nil) (.cons (.tail (.tail (.tail (.tail (.tail (.tail (.tail (.tail (.tail (.tail (.tail .head))))))))))) .nil) ?_
                  exact ⟨[], ⟨rfl, rfl⟩, rfl⟩
              · refine .ef rfl (.buildOne (cs := Sn.cells (readR kk (tx u kk))) Try.underlying22 ti36 (by decide) rfl rfl rfl (ones.of rfl)) ?_
                rintro _ _ ⟨bs1, rfl, rfl⟩
                refine ⟨.inl (by kernel_rfl), ?_⟩
                refine .ef 0 (by kernel_rfl) rfl (.buildNone Try.underlying22 ti36) ?_
                rintro _ _ ⟨e2b, rfl, rfl⟩
                refine ⟨.inr ⟨_, (.cons (.tail (.tail .head)) .nil)⟩, ?_⟩
                refine .ef 2 (by kernel_rfl) rfl (.nilArr 36 12 (some ⟨e2b, 0, none⟩) (.append rfl rfl Try.underlying22 ti36 rfl (ones.of rfl) (by decide) (by decide) rfl rfl .head (n := 0) (m := ((sendL t j) ++ [readC kk]).length) rfl (.srcRow (Knows.arr (.tail (.tail (.tail (.tail (.tail (.tail (.tail (.tail (.tail .head)))))))))) Try.underlying22 (by rw [flat_length Sn.cells_len]) (by decide)) (by omega))) ?_
                rintro _ _ ⟨xa, xc, rfl, xn, rfl⟩
                refine ⟨.inr ⟨_, (.cons (.tail (.tail (.tail .head))) .nil)⟩, ?_⟩
                refine .alter (t := 114) (v' := .slice xa ((sendL t j) ++ [readC kk]).length xc) rfl (by rw [Nat.zero_add]) ?_
                refine .ef 5 (by kernel_rfl) rfl (.append rfl rfl Try.underlying22 ti36 rfl (ones.of rfl) (by decide) (by decide) rfl rfl .head (n := ((sendL t j) ++ [readC kk]).length) (m := 1) (by rw [List.nil_append, flat_length Sn.cells_len]) (.srcBlk (ys := Sn.cells (readR kk (tx u kk))) (.tail (.tail .head)) Try.underlying22 rfl (by decide)) (by omega)) ?_
                rintro _ _ ⟨za, zc, rfl, zn, rfl⟩
                refine ⟨.inl (by kernel_rfl), ?_⟩
                refine .rp 6 rfl (by kernel_rfl) (by kernel_rfl) (by kernel_rfl) (Reads.pure (.assign rfl)) ?_
                refine .done (by kernel_rfl) ?_
                refine .cast (X' := arr 36 12 za zc ((((sendL t j) ++ [readC kk]) ++ [(readR kk (tx u kk))]).flatMap Sn.cells)) (by rw [List.flatMap_append]; simp) ?_
                refine .alter (t := 20) (v' := .slice za (((sendL t j) ++ [readC kk]) ++ [(readR kk (tx u kk))]).length zc) rfl (by simp only [List.length_append, List.length_cons, List.length_nil]) ?_
                refine .seq ?_
                refine .region ?_   -- R26 more.go:35
                refine .rd (.move rfl) ?_
                refine .fn rfl rfl .nil (Knows.arr .head) (Check_ok (((sendL t j) ++ [readC kk]) ++ [readR kk (tx u kk)]) za zc (by simp only [List.length_append, hlen1]; show 2 * j + 1 + 1 ≤ _; omega)) (fun v G1 hq => ?_)
                obtain ⟨rfl, rfl⟩ := hq
                simp only [List.nil_append]
                rw [read_end t j kk (by omega) hkn, if_neg (tx_ne fun e => htu e.symm)]
                refine .rd (.move rfl) ?_
                refine .rd (.extract rfl rfl) ?_
                refine .rd (.extract rfl rfl) ?_
                refine .rd (.assign rfl) ?_
                refine .rd (.assign rfl) ?_
                refine .nil ?_
                refine .seq ?_
                refine .region ?_   -- R27 more.go:36
                refine .rd (.move rfl) ?_
                refine .rd (.move rfl) ?_
                refine .on (t := 124) rfl rfl ?_
                refine .rd (.move rfl) ?_
                refine .on (t := 124) rfl rfl ?_
                refine .rd (.eqI rfl rfl) ?_
                refine .alter (t := 126) (v' := .bool true) rfl (congrArg Value.bool (decide_eq_true (by first | rfl | decide))) ?_
                refine .rd (.pickT rfl rfl) ?_
                refine .rd (.move rfl) ?_
                refine .on (t := 128) rfl rfl ?_
                refine .rd (.move rfl) ?_
                refine .on (t := 128) rfl rfl ?_
                refine .rd (.eqI rfl rfl) ?_
                refine .alter (t := 130) (v' := .bool true) rfl (congrArg Value.bool (decide_eq_true (by first | rfl | decide))) ?_
                refine .rd (.pickT rfl rfl) ?_
                refine .rd (.move rfl) ?_
                refine .on (t := 132) rfl rfl ?_
                refine .rd (.move rfl) ?_
                refine .on (t := 132) rfl rfl ?_
                refine .rd (.move rfl) ?_
                refine .on (t := 132) rfl rfl ?_
                refine .rd (.lenL rfl rfl Try.underlying22 rfl) ?_
                refine .on (t := 132) rfl rfl ?_
                refine .rd (.eqI rfl rfl) ?_
                refine .alter (t := 136) (v' := .bool true) rfl (congrArg Value.bool (decide_eq_true (by omega))) ?_
                refine .rd (.pickT rfl rfl) ?_
                refine .rd (.move rfl) ?_
                refine .on (t := 138) rfl rfl ?_
                refine .rd (.move rfl) ?_
                refine .on (t := 138) rfl rfl ?_
                refine .rd (.eqT (l := wValue) (m := wValue) rfl rfl) ?_
                refine .alter (t := 140) (v' := .bool true) rfl (congrArg Value.bool (decide_eq_true rfl)) ?_
                refine .rd (.pickT rfl rfl) ?_
                refine .rd (.assign rfl) ?_
                refine .nil ?_
                refine .retP Try.func5 (.cons (.tmp rfl) .nil) (.cons (.tail (.tail (.tail (.tail (.tail (.tail (.tail (.tail (.tail (.tail (.tail .head))))))))))) .nil) ?_
                exact ⟨[], ⟨rfl, rfl⟩, rfl⟩
            · refine .ef rfl (.buildOne (cs := Sn.cells (readR kk (tx t kk))) Try.underlying22 ti36 (by decide) rfl rfl rfl (ones.of rfl)) ?_
              rintro _ _ ⟨bs1, rfl, rfl⟩
              refine ⟨.inl (by kernel_rfl), ?_⟩
              refine .ef 2 (by kernel_rfl) rfl (.nilArr 36 12 (some ⟨e1b, 0, none⟩) (.append rfl rfl Try.underlying22 ti36 rfl (ones.of rfl) (by decide) (by decide) rfl rfl .head (n := 0) (m := ((sendL t j) ++ [readC kk]).length) rfl (.srcRow (Knows.arr (.tail (.tail (.tail (.tail (.tail .head)))))) Try.underlying22 (by rw [flat_length Sn.cells_len]) (by decide)) (by omega))) ?_
              rintro _ _ ⟨xa, xc, rfl, xn, rfl⟩
              refine ⟨.inr ⟨_, (.cons (.tail (.tail (.tail .head))) .nil)⟩, ?_⟩
              refine .alter (t := 95) (v' := .slice xa ((sendL t j) ++ [readC kk]).length xc) rfl (by rw [Nat.zero_add]) ?_
              refine .ef 5 (by kernel_rfl) rfl (.append rfl rfl Try.underlying22 ti36 rfl (ones.of rfl) (by decide) (by decide) rfl rfl .head (n := ((sendL t j) ++ [readC kk]).length) (m := 1) (by rw [List.nil_append, flat_length Sn.cells_len]) (.srcBlk (ys := Sn.cells (readR kk (tx t kk))) (.tail .head) Try.underlying22 rfl (by decide)) (by omega)) ?_
              rintro _ _ ⟨ya, yc, rfl, yn, rfl⟩
              refine ⟨.inl (by kernel_rfl), ?_⟩
              refine .rp 6 rfl (by kernel_rfl) (by kernel_rfl) (by kernel_rfl) (Reads.pure (.assign rfl)) ?_
              refine .done (by kernel_rfl) ?_
              refine .cast (X' := arr 36 12 ya yc ((((sendL t j) ++ [readC kk]) ++ [(readR kk (tx t kk))]).flatMap Sn.cells)) (by rw [List.flatMap_append]; simp) ?_
              refine .alter (t := 17) (v' := .slice ya (((sendL t j) ++ [readC kk]) ++ [(readR kk (tx t kk))]).length yc) rfl (by simp only [List.length_append, List.length_cons, List.length_nil]) ?_
              refine .seq ?_
              refine .region ?_   -- R23 more.go:32
              refine .rd (.move rfl) ?_
              refine .fn rfl rfl .nil (Knows.arr .head) (Check_ok (((sendL t j) ++ [readC kk]) ++ [readR kk (tx t kk)]) ya yc (by simp only [List.length_append, hlen1]; show 2 * j + 1 + 1 ≤ _; omega)) (fun v G1 hq => ?_)
              obtain ⟨rfl, rfl⟩ := hq
              simp only [List.nil_append]
              rw [read_end t j kk (by omega) hkn, if_pos rfl]
              refine .rd (.move rfl) ?_
              refine .rd (.extract rfl rfl) ?_
              refine .rd (.extract rfl rfl) ?_
              refine .rd (.assign rfl) ?_
              refine .rd (.assign rfl) ?_
              refine .nil ?_
              refine .seq ?_
              refine .region ?_   -- R24 more.go:33
              refine .rd (.move rfl) ?_
              refine .rd (.move rfl) ?_
              refine .rd (.add rfl rfl (by omega) (by omega)) ?_
              refine .rd (.convInt Try.underlying3 Try.underlying5 rfl) ?_
              refine .alter (t := 107) (v' := .int .u8 ((UInt8.ofNat (97 + kk)).toNat : Int)) rfl (congrArg (Value.int .u8) (byte_at kk)) ?_
              refine .ef (.buildOne (cs := bcs [UInt8.ofNat (97 + kk)]) Try.underlying37 ti5 (by decide) rfl rfl rfl (ones.of rfl)) ?_
              rintro _ _ ⟨by1, rfl, rfl⟩
              refine .rd (.bytesToStr (l := [UInt8.ofNat (97 + kk)]) Try.underlying37 Try.underlying5 Try.underlying9 rfl rfl ((Knows.blk .head).mono fun _ h => .inr ⟨by1, 0, rfl, h⟩)) ?_
              refine .rd (.catT rfl rfl (by show u.length + 1 ≤ _; omega)) ?_
              refine .rd (.fieldAddr fd36_9 rfl) ?_
              refine .ef0 (.store ts9 rfl rfl (.tail (.tail (.tail (.tail .head)))) rfl (Nat.le_of_ble_eq_true rfl)) ?_
              rintro _ _ rfl
              refine .nil ?_
              refine .cast (X' := blk b16 (Sn.cells (readR kk (tx u kk))) 36) (rfl) ?_
              refine .seq ?_
              refine .draws [3] [blk b16 (Sn.cells (readR kk (tx u kk))) 36] (by kernel_rfl) ?_   -- R25 more.go:34
              refine .rp 1 rfl (by kernel_rfl) (by kernel_rfl) (by kernel_rfl) (Reads.pure (.move rfl)) ?_
              refine .rd 3 rfl rfl (by kernel_rfl) (by kernel_rfl) (by kernel_rfl) (.ldN ia36 ts36 rfl .head rfl) (.cons .head .nil) ?_
              refine .all (rs := [0, 4]) (by kernel_rfl) (by simp) (fun i hi => ?_)
              simp only [List.mem_cons, List.not_mem_nil, or_false] at hi
              rcases hi with rfl | rfl
              · refine .ef rfl (.buildNone Try.underlying22 ti36) ?_
                rintro _ _ ⟨e2b, rfl, rfl⟩
                refine ⟨.inr ⟨_, (.cons (.tail .head) .nil)⟩, ?_⟩
                refine .all (rs := [2, 4]) (by kernel_rfl) (by simp) (fun i hi => ?_)
                simp only [List.mem_cons, List.not_mem_nil, or_false] at hi
                rcases hi with rfl | rfl
                · refine .ef rfl (.nilArr 36 12 (some ⟨e2b, 0, none⟩) (.append rfl rfl Try.underlying22 ti36 rfl (ones.of rfl) (by decide) (by decide) rfl rfl .head (n := 0) (m := ((sendL t j) ++ [readC kk]).length) rfl (.srcRow (Knows.arr (.tail (.tail (.tail (.tail (.tail (.tail (.tail (.tail .head))))))))) Try.underlying22 (by rw [flat_length Sn.cells_len]) (by decide)) (by omega))) ?_
                  rintro _ _ ⟨xa, xc, rfl, xn, rfl⟩
                  refine ⟨.inr ⟨_, (.cons (.tail (.tail .head)) .nil)⟩, ?_⟩
                  refine .ef 4 (by kernel_rfl) rfl (.buildOne (cs := Sn.cells (readR kk (tx u kk))) Try.underlying22 ti36 (by decide) rfl rfl rfl (ones.of rfl)) ?_
                  rintro _ _ ⟨bs1, rfl, rfl⟩
                  refine ⟨.inl (by kernel_rfl), ?_⟩
                  refine .alter (t := 114) (v' := .slice xa ((sendL t j) ++ [readC kk]).length xc) rfl (by rw [Nat.zero_add]) ?_
                  refine .ef 5 (by kernel_rfl) rfl (.append rfl rfl Try.underlying22 ti36 rfl (ones.of rfl) (by decide) (by decide) rfl rfl (.tail .head) (n := ((sendL t j) ++ [readC kk]).length) (m := 1) (by rw [List.nil_append, flat_length Sn.cells_len]) (.srcBlk (ys := Sn.cells (readR kk (tx u kk))) .head Try.underlying22 rfl (by decide)) (by omega)) ?_
                  rintro _ _ ⟨za, zc, rfl, zn, rfl⟩
                  refine ⟨.inl (by kernel_rfl), ?_⟩
                  refine .rp 6 rfl (by kernel_rfl) (by kernel_rfl) (by kernel_rfl) (Reads.pure (.assign rfl)) ?_
                  refine .done (by kernel_rfl) ?_
                  refine .cast (X' := arr 36 12 za zc ((((sendL t j) ++ [readC kk]) ++ [(readR kk (tx u kk))]).flatMap Sn.cells)) (by rw [List.flatMap_append]; simp) ?_
                  refine .alter (t := 20) (v' := .slice za (((sendL t j) ++ [readC kk]) ++ [(readR kk (tx u kk))]).length zc) rfl (by simp only [List.length_append, List.length_cons, List.length_nil]) ?_
                  refine .seq ?_
                  refine .region ?_   -- R26 more.go:35
                  refine .rd (.move rfl) ?_
                  refine .fn rfl rfl .nil (Knows.arr .head) (Check_ok (((sendL t j) ++ [readC kk]) ++ [readR kk (tx u kk)]) za zc (by simp only [List.length_append, hlen1]; show 2 * j + 1 + 1 ≤ _; omega)) (fun v G1 hq => ?_)
                  obtain ⟨rfl, rfl⟩ := hq
                  simp only [List.nil_append]
                  rw [read_end t j kk (by omega) hkn, if_neg (tx_ne fun e => htu e.symm)]
                  refine .rd (.move rfl) ?_
                  refine .rd (.extract rfl rfl) ?_
                  refine .rd (.extract rfl rfl) ?_
                  refine .rd (.assign rfl) ?_
                  refine .rd (.assign rfl) ?_
                  refine .nil ?_
                  refine .seq ?_
                  refine .region ?_   -- R27 more.go:36
                  refine .rd (.move rfl) ?_
                  refine .rd (.move rfl) ?_
                  refine .on (t := 124) rfl rfl ?_
                  refine .rd (.move rfl) ?_
                  refine .on (t := 124) rfl rfl ?_
                  refine .rd (.eqI rfl rfl) ?_
                  refine .alter (t := 126) (v' := .bool true) rfl (congrArg Value.bool (decide_eq_true (by first | rfl | decide))) ?_
                  refine .rd (.pickT rfl rfl) ?_
                  refine .rd (.move rfl) ?_
                  refine .on (t := 128) rfl rfl ?_
                  refine .rd (.move rfl) ?_
                  refine .on (t := 128) rfl rfl ?_
                  refine .rd (.eqI rfl rfl) ?_
                  refine .alter (t := 130) (v' := .bool true) rfl (congrArg Value.bool (decide_eq_true (by first | rfl | decide))) ?_
                  refine .rd (.pickT rfl rfl) ?_
                  refine .rd (.move rfl) ?_
                  refine .on (t := 132) rfl rfl ?_
                  refine .rd (.move rfl) ?_
                  refine .on (t := 132) rfl rfl ?_
                  refine .rd (.move rfl) ?_
                  refine .on (t := 132) rfl rfl ?_
                  refine .rd (.lenL rfl rfl Try.underlying22 rfl) ?_
                  refine .on (t := 132) rfl rfl ?_
                  refine .rd (.eqI rfl rfl) ?_
                  refine .alter (t := 136) (v' := .bool true) rfl (congrArg Value.bool (decide_eq_true (by omega))) ?_
                  refine .rd (.pickT rfl rfl) ?_
                  refine .rd (.move rfl) ?_
                  refine .on (t := 138) rfl rfl ?_
                  refine .rd (.move rfl) ?_
                  refine .on (t := 138) rfl rfl ?_
                  refine .rd (.eqT (l := wValue) (m := wValue) rfl rfl) ?_
                  refine .alter (t := 140) (v' := .bool true) rfl (congrArg Value.bool (decide_eq_true rfl)) ?_
                  refine .rd (.pickT rfl rfl) ?_
                  refine .rd (.assign rfl) ?_
                  refine .nil ?_
                  refine .retP Try.func5 (.cons (.tmp rfl) .nil) (.cons (.tail (.tail (.tail (.tail (.tail (.tail (.tail (.tail (.tail (.tail (.tail .head))))))))))) .nil) ?_
                  exact ⟨[], ⟨rfl, rfl⟩, rfl⟩
                · refine .ef rfl (.buildOne (cs := Sn.cells (readR kk (tx u kk))) Try.underlying22 ti36 (by decide) rfl rfl rfl (ones.of rfl)) ?_
                  rintro _ _ ⟨bs1, rfl, rfl⟩
                  refine ⟨.inl (by kernel_rfl), ?_⟩
                  refine .ef 2 (by kernel_rfl) rfl (.nilArr 36 12 (some ⟨e2b, 0, none⟩) (.append rfl rfl Try.underlying22 ti36 rfl (ones.of rfl) (by decide) (by decide) rfl rfl .head (n := 0) (m := ((sendL t j) ++ [readC kk]).length) rfl (.srcRow (Knows.arr (.tail (.tail (.tail (.tail (.tail (.tail (.tail (.tail (.tail .head)))))))))) Try.underlying22 (by rw [flat_length Sn.cells_len]) (by decide)) (by omega))) ?_
                  rintro _ _ ⟨xa, xc, rfl, xn, rfl⟩
                  refine ⟨.inr ⟨_, (.cons (.tail (.tail (.tail .head))) .nil)⟩, ?_⟩
                  refine .alter (t := 114) (v' := .slice xa ((sendL t j) ++ [readC kk]).length xc) rfl (by rw [Nat.zero_add]) ?_
                  refine .ef 5 (by kernel_rfl) rfl (.append rfl rfl Try.underlying22 ti36 rfl (ones.of rfl) (by decide) (by decide) rfl rfl .head (n := ((sendL t j) ++ [readC kk]).length) (m := 1) (by rw [List.nil_append, flat_length Sn.cells_len]) (.srcBlk (ys := Sn.cells (readR kk (tx u kk))) (.tail .head) Try.underlying22 rfl (by decide)) (by omega)) ?_
                  rintro _ _ ⟨za, zc, rfl, zn, rfl⟩
                  refine ⟨.inl (by kernel_rfl), ?_⟩
                  refine .rp 6 rfl (by kernel_rfl) (by kernel_rfl) (by kernel_rfl) (Reads.pure (.assign rfl)) ?_
                  refine .done (by kernel_rfl) ?_
                  refine .cast (X' := arr 36 12 za zc ((((sendL t j) ++ [readC kk]) ++ [(readR kk (tx u kk))]).flatMap Sn.cells)) (by rw [List.flatMap_append]; simp) ?_
                  refine .alter (t := 20) (v' := .slice za (((sendL t j) ++ [readC kk]) ++ [(readR kk (tx u kk))]).length zc) rfl (by simp only [List.length_append, List.length_cons, List.length_nil]) ?_
                  refine .seq ?_
                  refine .region ?_   -- R26 more.go:35
                  refine .rd (.move rfl) ?_
                  refine .fn rfl rfl .nil (Knows.arr .head) (Check_ok (((sendL t j) ++ [readC kk]) ++ [readR kk (tx u kk)]) za zc (by simp only [List.length_append, hlen1]; show 2 * j + 1 + 1 ≤ _; omega)) (fun v G1 hq => ?_)
                  obtain ⟨rfl, rfl⟩ := hq
                  simp only [List.nil_append]
                  rw [read_end t j kk (by omega) hkn, if_neg (tx_ne fun e => htu e.symm)]
                  refine .rd (.move rfl) ?_
                  refine .rd (.extract rfl rfl) ?_
                  refine .rd (.extract rfl rfl) ?_
                  refine .rd (.assign rfl) ?_
                  refine .rd (.assign rfl) ?_
                  refine .nil ?_
                  refine .seq ?_
                  refine .region ?_   -- R27 more.go:36
                  refine .rd (.move rfl) ?_
                  refine .rd (.move rfl) ?_
                  refine .on (t := 124) rfl rfl ?_
                  refine .rd (.move rfl) ?_
                  refine .on (t := 124) rfl rfl ?_
                  refine .rd (.eqI rfl rfl) ?_
                  refine .alter (t := 126) (v' := .bool true) rfl (congrArg Value.bool (decide_eq_true (by first | rfl | decide))) ?_
                  refine .rd (.pickT rfl rfl) ?_
                  refine .rd (.move rfl) ?_
                  refine .on (t := 128) rfl rfl ?_
                  refine .rd (.move rfl) ?_
                  refine .on (t := 128) rfl rfl ?_
                  refine .rd (.eqI rfl rfl) ?_
                  refine .alter (t := 130) (v' := .bool true) rfl (congrArg Value.bool (decide_eq_true (by first | rfl | decide))) ?_
                  refine .rd (.pickT rfl rfl) ?_
                  refine .rd (.move rfl) ?_
                  refine .on (t := 132) rfl rfl ?_
                  refine .rd (.move rfl) ?_
                  refine .on (t := 132) rfl rfl ?_
                  refine .rd (.move rfl) ?_
                  refine .on (t := 132) rfl rfl ?_
                  refine .rd (.lenL rfl rfl Try.underlying22 rfl) ?_
                  refine .on (t := 132) rfl rfl ?_
                  refine .rd (.eqI rfl rfl) ?_
                  refine .alter (t := 136) (v' := .bool true) rfl (congrArg Value.bool (decide_eq_true (by omega))) ?_
                  refine .rd (.pickT rfl rfl) ?_
                  refine .rd (.move rfl) ?_
                  refine .on (t := 138) rfl rfl ?_
                  refine .rd (.move rfl) ?_
                  refine .on (t := 138) rfl rfl ?_
                  refine .rd (.eqT (l := wValue) (m := wValue) rfl rfl) ?_
                  refine .alter (t := 140) (v' := .bool true) rfl (congrArg Value.bool (decide_eq_true rfl)) ?_
                  refine .rd (.pickT rfl rfl) ?_
                  refine .rd (.assign rfl) ?_
                  refine .nil ?_
                  refine .retP Try.func5 (.cons (.tmp rfl) .nil) (.cons (.tail (.tail (.tail (.tail (.tail (.tail (.tail (.tail (.tail (.tail (.tail .head))))))))))) .nil) ?_
                  exact ⟨[], ⟨rfl, rfl⟩, rfl⟩
              · refine .ef rfl (.buildOne (cs := Sn.cells (readR kk (tx u kk))) Try.underlying22 ti36 (by decide) rfl rfl rfl (ones.of rfl)) ?_
                rintro _ _ ⟨bs1, rfl, rfl⟩
                refine ⟨.inl (by kernel_rfl), ?_⟩
                refine .ef 0 (by kernel_rfl) rfl (.buildNone Try.underlying22 ti36) ?_
                rintro _ _ ⟨e2b, rfl, rfl⟩
                refine ⟨.inr ⟨_, (.cons (.tail (.tail .head)) .nil)⟩, ?_⟩
                refine .ef 2 (by kernel_rfl) rfl (.nilArr 36 12 (some ⟨e2b, 0, none⟩) (.append rfl rfl Try.underlying22 ti36 rfl (ones.of rfl) (by decide) (by decide) rfl rfl .head (n := 0) (m := ((sendL t j) ++ [readC kk]).length) rfl (.srcRow (Knows.arr (.tail (.tail (.tail (.tail (.tail (.tail (.tail (.tail (.tail .head)))))))))) Try.underlying22 (by rw [flat_length Sn.cells_len]) (by decide)) (by omega))) ?_
                rintro _ _ ⟨xa, xc, rfl, xn, rfl⟩
                refine ⟨.inr ⟨_, (.cons (.tail (.tail (.tail .head))) .nil)⟩, ?_⟩
                refine .alter (t := 114) (v' := .slice xa ((sendL t j) ++ [readC kk]).length xc) rfl (by rw [Nat.zero_add]) ?_
                refine .ef 5 (by kernel_rfl) rfl (.append rfl rfl Try.underlying22 ti36 rfl (ones.of rfl) (by decide) (by decide) rfl rfl .head (n := ((sendL t j) ++ [readC kk]).length) (m := 1) (by rw [List.nil_append, flat_length Sn.cells_len]) (.srcBlk (ys := Sn.cells (readR kk (tx u kk))) (.tail (.tail .head)) Try.underlying22 rfl (by decide)) (by omega)) ?_
                rintro _ _ ⟨za, zc, rfl, zn, rfl⟩
                refine ⟨.inl (by kernel_rfl), ?_⟩
                refine .rp 6 rfl (by kernel_rfl) (by kernel_rfl) (by kernel_rfl) (Reads.pure (.assign rfl)) ?_
                refine .done (by kernel_rfl) ?_
                refine .cast (X' := arr 36 12 za zc ((((sendL t j) ++ [readC kk]) ++ [(readR kk (tx u kk))]).flatMap Sn.cells)) (by rw [List.flatMap_append]; simp) ?_
                refine .alter (t := 20) (v' := .slice za (((sendL t j) ++ [readC kk]) ++ [(readR kk (tx u kk))]).length zc) rfl (by simp only [List.length_append, List.length_cons, List.length_nil]) ?_
                refine .seq ?_
                refine .region ?_   -- R26 more.go:35
                refine .rd (.move rfl) ?_
                refine .fn rfl rfl .nil (Knows.arr .head) (Check_ok (((sendL t j) ++ [readC kk]) ++ [readR kk (tx u kk)]) za zc (by simp only [List.length_append, hlen1]; show 2 * j + 1 + 1 ≤ _; omega)) (fun v G1 hq => ?_)
                obtain ⟨rfl, rfl⟩ := hq
                simp only [List.nil_append]
                rw [read_end t j kk (by omega) hkn, if_neg (tx_ne fun e => htu e.symm)]
                refine .rd (.move rfl) ?_
                refine .rd (.extract rfl rfl) ?_
                refine .rd (.extract rfl rfl) ?_
                refine .rd (.assign rfl) ?_
                refine .rd (.assign rfl) ?_
                refine .nil ?_
                refine .seq ?_
                refine .region ?_   -- R27 more.go:36
                refine .rd (.move rfl) ?_
                refine .rd (.move rfl) ?_
                refine .on (t := 124) rfl rfl ?_
                refine .rd (.move rfl) ?_
                refine .on (t := 124) rfl rfl ?_
                refine .rd (.eqI rfl rfl) ?_
                refine .alter (t := 126) (v' := .bool true) rfl (congrArg Value.bool (decide_eq_true (by first | rfl | decide))) ?_
                refine .rd (.pickT rfl rfl) ?_
                refine .rd (.move rfl) ?_
                refine .on (t := 128) rfl rfl ?_
                refine .rd (.move rfl) ?_
                refine .on (t := 128) rfl rfl ?_
                refine .rd (.eqI rfl rfl) ?_
                refine .alter (t := 130) (v' := .bool true) rfl (congrArg Value.bool (decide_eq_true (by first | rfl | decide))) ?_
                refine .rd (.pickT rfl rfl) ?_
                refine .rd (.move rfl) ?_
                refine .on (t := 132) rfl rfl ?_
                refine .rd (.move rfl) ?_
                refine .on (t := 132) rfl rfl ?_
                refine .rd (.move rfl) ?_
                refine .on (t := 132) rfl rfl ?_
                refine .rd (.lenL rfl rfl Try.underlying22 rfl) ?_
                refine .on (t := 132) rfl rfl ?_
                refine .rd (.eqI rfl rfl) ?_
                refine .alter (t := 136) (v' := .bool true) rfl (congrArg Value.bool (decide_eq_true (by omega))) ?_
                refine .rd (.pickT rfl rfl) ?_
                refine .rd (.move rfl) ?_
                refine .on (t := 138) rfl rfl ?_
                refine .rd (.move rfl) ?_
                refine .on (t := 138) rfl rfl ?_
                refine .rd (.eqT (l := wValue) (m := wValue) rfl rfl) ?_
                refine .alter (t := 140) (v' := .bool true) rfl (congrArg Value.bool (decide_eq_true rfl)) ?_
                refine .rd (.pickT rfl rfl) ?_
                refine .rd (.assign rfl) ?_
                refine .nil ?_
                refine .retP Try.func5 (.cons (.tmp rfl) .nil) (.cons (.tail (.tail (.tail (.tail (.tail (.tail (.tail (.tail (.tail (.tail (.tail .head))))))))))) .nil) ?_
                exact ⟨[], ⟨rfl, rfl⟩, rfl⟩
          · refine .ef rfl (.buildOne (cs := Sn.cells (readR kk (tx t kk))) Try.underlying22 ti36 (by decide) rfl rfl rfl (ones.of rfl)) ?_
            rintro _ _ ⟨bs1, rfl, rfl⟩
            refine ⟨.inl (by kernel_rfl), ?_⟩
            refine .ef 0 (by kernel_rfl) rfl (.buildNone Try.underlying22 ti36) ?_
            rintro _ _ ⟨e1b, rfl, rfl⟩
            refine ⟨.inr ⟨_, (.cons (.tail (.tail .head)) .nil)⟩, ?_⟩
            refine .ef 2 (by kernel_rfl) rfl (.nilArr 36 12 (some ⟨e1b, 0, none⟩) (.append rfl rfl Try.underlying22 ti36 rfl (ones.of rfl) (by decide) (by decide) rfl rfl .head (n := 0) (m := ((sendL t j) ++ [readC kk]).length) rfl (.srcRow (Knows.arr (.tail (.tail (.tail (.tail (.tail .head)))))) Try.underlying22 (by rw [flat_length Sn.cells_len]) (by decide)) (by omega))) ?_
            rintro _ _ ⟨xa, xc, rfl, xn, rfl⟩
            refine ⟨.inr ⟨_, (.cons (.tail (.tail (.tail .head))) .nil)⟩, ?_⟩
            refine .alter (t := 95) (v' := .slice xa ((sendL t j) ++ [readC kk]).length xc) rfl (by rw [Nat.zero_add]) ?_
            refine .ef 5 (by kernel_rfl) rfl (.append rfl rfl Try.underlying22 ti36 rfl (ones.of rfl) (by decide) (by decide) rfl rfl .head (n := ((sendL t j) ++ [readC kk]).length) (m := 1) (by rw [List.nil_append, flat_length Sn.cells_len]) (.srcBlk (ys := Sn.cells (readR kk (tx t kk))) (.tail (.tail .head)) Try.underlying22 rfl (by decide)) (by omega)) ?_
            rintro _ _ ⟨ya, yc, rfl, yn, rfl⟩
            refine ⟨.inl (by kernel_rfl), ?_⟩
            refine .rp 6 rfl (by kernel_rfl) (by kernel_rfl) (by kernel_rfl) (Reads.pure (.assign rfl)) ?_
            refine .done (by kernel_rfl) ?_
            refine .cast (X' := arr 36 12 ya yc ((((sendL t j) ++ [readC kk]) ++ [(readR kk (tx t kk))]).flatMap Sn.cells)) (by rw [List.flatMap_append]; simp) ?_
            refine .alter (t := 17) (v' := .slice ya (((sendL t j) ++ [readC kk]) ++ [(readR kk (tx t kk))]).length yc) rfl (by simp only [List.length_append, List.length_cons, List.length_nil]) ?_
            refine .seq ?_
            refine .region ?_   -- R23 more.go:32
            refine .rd (.move rfl) ?_
            refine .fn rfl rfl .nil (Knows.arr .head) (Check_ok (((sendL t j) ++ [readC kk]) ++ [readR kk (tx t kk)]) ya yc (by simp only [List.length_append, hlen1]; show 2 * j + 1 + 1 ≤ _; omega)) (fun v G1 hq => ?_)
            obtain ⟨rfl, rfl⟩ := hq
            simp only [List.nil_append]
            rw [read_end t j kk (by omega) hkn, if_pos rfl]
            refine .rd (.move rfl) ?_
            refine .rd (.extract rfl rfl) ?_
            refine .rd (.extract rfl rfl) ?_
            refine .rd (.assign rfl) ?_
            refine .rd (.assign rfl) ?_
            refine .nil ?_
            refine .seq ?_
            refine .region ?_   -- R24 more.go:33
            refine .rd (.move rfl) ?_
            refine .rd (.move rfl) ?_
            refine .rd (.add rfl rfl (by omega) (by omega)) ?_
            refine .rd (.convInt Try.underlying3 Try.underlying5 rfl) ?_
            refine .alter (t := 107) (v' := .int .u8 ((UInt8.ofNat (97 + kk)).toNat : Int)) rfl (congrArg (Value.int .u8) (byte_at kk)) ?_
            refine .ef (.buildOne (cs := bcs [UInt8.ofNat (97 + kk)]) Try.underlying37 ti5 (by decide) rfl rfl rfl (ones.of rfl)) ?_
            rintro _ _ ⟨by1, rfl, rfl⟩
            refine .rd (.bytesToStr (l := [UInt8.ofNat (97 + kk)]) Try.underlying37 Try.underlying5 Try.underlying9 rfl rfl ((Knows.blk .head).mono fun _ h => .inr ⟨by1, 0, rfl, h⟩)) ?_
            refine .rd (.catT rfl rfl (by show u.length + 1 ≤ _; omega)) ?_
            refine .rd (.fieldAddr fd36_9 rfl) ?_
            refine .ef0 (.store ts9 rfl rfl (.tail (.tail (.tail (.tail .head)))) rfl (Nat.le_of_ble_eq_true rfl)) ?_
            rintro _ _ rfl
            refine .nil ?_
            refine .cast (X' := blk b16 (Sn.cells (readR kk (tx u kk))) 36) (rfl) ?_
            refine .seq ?_
            refine .draws [3] [blk b16 (Sn.cells (readR kk (tx u kk))) 36] (by kernel_rfl) ?_   -- R25 more.go:34
            refine .rp 1 rfl (by kernel_rfl) (by kernel_rfl) (by kernel_rfl) (Reads.pure (.move rfl)) ?_
            refine .rd 3 rfl rfl (by kernel_rfl) (by kernel_rfl) (by kernel_rfl) (.ldN ia36 ts36 rfl .head rfl) (.cons .head .nil) ?_
            refine .all (rs := [0, 4]) (by kernel_rfl) (by simp) (fun i hi => ?_)
            simp only [List.mem_cons, List.not_mem_nil, or_false] at hi
            rcases hi with rfl | rfl
            · refine .ef rfl (.buildNone Try.underlying22 ti36) ?_
              rintro _ _ ⟨e2b, rfl, rfl⟩
              refine ⟨.inr ⟨_, (.cons (.tail .head) .nil)⟩, ?_⟩
              refine .all (rs := [2, 4]) (by kernel_rfl) (by simp) (fun i hi => ?_)
              simp only [List.mem_cons, List.not_mem_nil, or_false] at hi
              rcases hi with rfl | rfl
              · refine .ef rfl (.nilArr 36 12 (some ⟨e2b, 0, none⟩) (.append rfl rfl Try.underlying22 ti36 rfl (ones.of rfl) (by decide) (by decide) rfl rfl .head (n := 0) (m := ((sendL t j) ++ [readC kk]).length) rfl (.srcRow (Knows.arr (.tail (.tail (.tail (.tail (.tail (.tail (.tail (.tail .head))))))))) Try.underlying22 (by rw [flat_length Sn.cells_len]) (by decide)) (by omega))) ?_
                rintro _ _ ⟨xa, xc, rfl, xn, rfl⟩
                refine ⟨.inr ⟨_, (.cons (.tail (.tail .head)) .nil)⟩, ?_⟩
                refine .ef 4 (by kernel_rfl) rfl (.buildOne (cs := Sn.cells (readR kk (tx u kk))) Try.underlying22 ti36 (by decide) rfl rfl rfl (ones.of rfl)) ?_
                rintro _ _ ⟨bs1, rfl, rfl⟩
                refine ⟨.inl (by kernel_rfl), ?_⟩
                refine .alter (t := 114) (v' := .slice xa ((sendL t j) ++ [readC kk]).length xc) rfl (by rw [Nat.zero_add]) ?_
                refine .ef 5 (by kernel_rfl) rfl (.append rfl rfl Try.underlying22 ti36 rfl (ones.of rfl) (by decide) (by decide) rfl rfl (.tail .head) (n := ((sendL t j) ++ [readC kk]).length) (m := 1) (by rw [List.nil_append, flat_length Sn.cells_len]) (.srcBlk (ys := Sn.cells (readR kk (tx u kk))) .head Try.underlying22 rfl (by decide)) (by omega)) ?_
                rintro _ _ ⟨za, zc, rfl, zn, rfl⟩
                refine ⟨.inl (by kernel_rfl), ?_⟩
                refine .rp 6 rfl (by kernel_rfl) (by kernel_rfl) (by kernel_rfl) (Reads.pure (.assign rfl)) ?_
                refine .done (by kernel_rfl) ?_
                refine .cast (X' := arr 36 12 za zc ((((sendL t j) ++ [readC kk]) ++ [(readR kk (tx u kk))]).flatMap Sn.cells)) (by rw [List.flatMap_append]; simp) ?_
                refine .alter (t := 20) (v' := .slice za (((sendL t j) ++ [readC kk]) ++ [(readR kk (tx u kk))]).length zc) rfl (by simp only [List.length_append, List.length_cons, List.length_nil]) ?_
                refine .seq ?_
                refine .region ?_   -- R26 more.go:35
                refine .rd (.move rfl) ?_
                refine .fn rfl rfl .nil (Knows.arr .head) (Check_ok (((sendL t j) ++ [readC kk]) ++ [readR kk (tx u kk)]) za zc (by simp only [List.length_append, hlen1]; show 2 * j + 1 + 1 ≤ _; omega)) (fun v G1 hq => ?_)
                obtain ⟨rfl, rfl⟩ := hq
                simp only [List.nil_append]
                rw [read_end t j kk (by omega) hkn, if_neg (tx_ne fun e => htu e.symm)]
                refine .rd (.move rfl) ?_
                refine .rd (.extract rfl rfl) ?_
                refine .rd (.extract rfl rfl) ?_
                refine .rd (.assign rfl) ?_
                refine .rd (.assign rfl) ?_
                refine .nil ?_
                refine .seq ?_
                refine .region ?_   -- R27 more.go:36
                refine .rd (.move rfl) ?_
                refine .rd (.move rfl) ?_
                refine .on (t := 124) rfl rfl ?_
                refine .rd (.move rfl) ?_
                refine .on (t := 124) rfl rfl ?_
                refine .rd (.eqI rfl rfl) ?_
                refine .alter (t := 126) (v' := .bool true) rfl (congrArg Value.bool (decide_eq_true (by first | rfl | decide))) ?_
                refine .rd (.pickT rfl rfl) ?_
                refine .rd (.move rfl) ?_
                refine .on (t := 128) rfl rfl ?_
                refine .rd (.move rfl) ?_
                refine .on (t := 128) rfl rfl ?_
                refine .rd (.eqI rfl rfl) ?_
                refine .alter (t := 130) (v' := .bool true) rfl (congrArg Value.bool (decide_eq_true (by first | rfl | decide))) ?_
                refine .rd (.pickT rfl rfl) ?_
                refine .rd (.move rfl) ?_
                refine .on (t := 132) rfl rfl ?_
                refine .rd (.move rfl) ?_
                refine .on (t := 132) rfl rfl ?_
                refine .rd (.move rfl) ?_
                refine .on (t := 132) rfl rfl ?_
                refine .rd (.lenL rfl rfl Try.underlying22 rfl) ?_
                refine .on (t := 132) rfl rfl ?_
                refine .rd (.eqI rfl rfl) ?_
                refine .alter (t := 136) (v' := .bool true) rfl (congrArg Value.bool (decide_eq_true (by omega))) ?_
                refine .rd (.pickT rfl rfl) ?_
                refine .rd (.move rfl) ?_
                refine .on (t := 138) rfl rfl ?_
                refine .rd (.move rfl) ?_
                refine .on (t := 138) rfl rfl ?_
                refine .rd (.eqT (l := wValue) (m := wValue) rfl rfl) ?_
                refine .alter (t := 140) (v' := .bool true) rfl (congrArg Value.bool (decide_eq_true rfl)) ?_
                refine .rd (.pickT rfl rfl) ?_
                refine .rd (.assign rfl) ?_
                refine .nil ?_
                refine .retP Try.func5 (.cons (.tmp rfl) .nil) (.cons (.tail (.tail (.tail (.tail (.tail (.tail (.tail (.tail (.tail (.tail (.tail .head))))))))))) .nil) ?_
                exact ⟨[], ⟨rfl, rfl⟩, rfl⟩
              · refine .ef rfl (.buildOne (cs := Sn.cells (readR kk (tx u kk))) Try.underlying22 ti36 (by decide) rfl rfl rfl (ones.of rfl)) ?_
                rintro _ _ ⟨bs1, rfl, rfl⟩
                refine ⟨.inl (by kernel_rfl), ?_⟩
                refine .ef 2 (by kernel_rfl) rfl (.nilArr 36 12 (some ⟨e2b, 0, none⟩) (.append rfl rfl Try.underlying22 ti36 rfl (ones.of rfl) (by decide) (by decide) rfl rfl .head (n := 0) (m := ((sendL t j) ++ [readC kk]).length) rfl (.srcRow (Knows.arr (.tail (.tail (.tail (.tail (.tail (.tail (.tail (.tail (.tail .head)))))))))) Try.underlying22 (by rw [flat_length Sn.cells_len]) (by decide)) (by omega))) ?_
                rintro _ _ ⟨xa, xc, rfl, xn, rfl⟩
                refine ⟨.inr ⟨_, (.cons (.tail (.tail (.tail .head))) .nil)⟩, ?_⟩
                refine .alter (t := 114) (v' := .slice xa ((sendL t j) ++ [readC kk]).length xc) rfl (by rw [Nat.zero_add]) ?_
                refine .ef 5 (by kernel_rfl) rfl (.append rfl rfl Try.underlying22 ti36 rfl (ones.of rfl) (by decide) (by decide) rfl rfl .head (n := ((sendL t j) ++ [readC kk]).length) (m := 1) (by rw [List.nil_append, flat_length Sn.cells_len]) (.srcBlk (ys := Sn.cells (readR kk (tx u kk))) (.tail .head) Try.underlying22 rfl (by decide)) (by omega)) ?_
                rintro _ _ ⟨za, zc, rfl, zn, rfl⟩
                refine ⟨.inl (by kernel_rfl), ?_⟩
                refine .rp 6 rfl (by kernel_rfl) (by kernel_rfl) (by kernel_rfl) (Reads.pure (.assign rfl)) ?_
                refine .done (by kernel_rfl) ?_
                refine .cast (X' := arr 36 12 za zc ((((sendL t j) ++ [readC kk]) ++ [(readR kk (tx u kk))]).flatMap Sn.cells)) (by rw [List.flatMap_append]; simp) ?_
                refine .alter (t := 20) (v' := .slice za (((sendL t j) ++ [readC kk]) ++ [(readR kk (tx u kk))]).length zc) rfl (by simp only [List.length_append, List.length_cons, List.length_nil]) ?_
                refine .seq ?_
                refine .region ?_   -- R26 more.go:35
                refine .rd (.move rfl) ?_
                refine .fn rfl rfl .nil (Knows.arr .head) (Check_ok (((sendL t j) ++ [readC kk]) ++ [readR kk (tx u kk)]) za zc (by simp only [List.length_append, hlen1]; show 2 * j + 1 + 1 ≤ _; omega)) (fun v G1 hq => ?_)
                obtain ⟨rfl, rfl⟩ := hq
                simp only [List.nil_append]
                rw [read_end t j kk (by omega) hkn, if_neg (tx_ne fun e => htu e.symm)]
                refine .rd (.move rfl) ?_
                refine .rd (.extract rfl rfl) ?_
                refine .rd (.extract rfl rfl) ?_
                refine .rd (.assign rfl) ?_
                refine .rd (.assign rfl) ?_
                refine .nil ?_
                refine .seq ?_
                refine .region ?_   -- R27 more.go:36
                refine .rd (.move rfl) ?_
                refine .rd (.move rfl) ?_
                refine .on (t := 124) rfl rfl ?_
                refine .rd (.move rfl) ?_
                refine .on (t := 124) rfl rfl ?_
                refine .rd (.eqI rfl rfl) ?_
                refine .alter (t := 126) (v' := .bool true) rfl (congrArg Value.bool (decide_eq_true (by first | rfl | decide))) ?_
                refine .rd (.pickT rfl rfl) ?_
                refine .rd (.move rfl) ?_
                refine .on (t := 128) rfl rfl ?_
                refine .rd (.move rfl) ?_
                refine .on (t := 128) rfl rfl ?_
                refine .rd (.eqI rfl rfl) ?_
                refine .alter (t := 130) (v' := .bool true) rfl (congrArg Value.bool (decide_eq_true (by first | rfl | decide))) ?_
                refine .rd (.pickT rfl rfl) ?_
                refine .rd (.move rfl) ?_
                refine .on (t := 132) rfl rfl ?_
                refine .rd (.move rfl) ?_
                refine .on (t := 132) rfl rfl ?_
                refine .rd (.move rfl) ?_
                refine .on (t := 132) rfl rfl ?_
                refine .rd (.lenL rfl rfl Try.underlying22 rfl) ?_
                refine .on (t := 132) rfl rfl ?_
                refine .rd (.eqI rfl rfl) ?_
                refine .alter (t := 136) (v' := .bool true) rfl (congrArg Value.bool (decide_eq_true (by omega))) ?_
                refine .rd (.pickT rfl rfl) ?_
                refine .rd (.move rfl) ?_
                refine .on (t := 138) rfl rfl ?_
                refine .rd (.move rfl) ?_
                refine .on (t := 138) rfl rfl ?_
                refine .rd (.eqT (l := wValue) (m := wValue) rfl rfl) ?_
                refine .alter (t := 140) (v' := .bool true) rfl (congrArg Value.bool (decide_eq_true rfl)) ?_
                refine .rd (.pickT rfl rfl) ?_
                refine .rd (.assign rfl) ?_
                refine .nil ?_
                refine .retP Try.func5 (.cons (.tmp rfl) .nil) (.cons (.tail (.tail (.tail (.tail (.tail (.tail (.tail (.tail (.tail (.tail (.tail .head))))))))))) .nil) ?_
                exact ⟨[], ⟨rfl, rfl⟩, rfl⟩
            · refine .ef rfl (.buildOne (cs := Sn.cells (readR kk (tx u kk))) Try.underlying22 ti36 (by decide) rfl rfl rfl (ones.of rfl)) ?_
              rintro _ _ ⟨bs1, rfl, rfl⟩
              refine ⟨.inl (by kernel_rfl), ?_⟩
              refine .ef 0 (by kernel_rfl) rfl (.buildNone Try.underlying22 ti36) ?_
              rintro _ _ ⟨e2b, rfl, rfl⟩
              refine ⟨.inr ⟨_, (.cons (.tail (.tail .head)) .nil)⟩, ?_⟩
              refine .ef 2 (by kernel_rfl) rfl (.nilArr 36 12 (some ⟨e2b, 0, none⟩) (.append rfl rfl Try.underlying22 ti36 rfl (ones.of rfl) (by decide) (by decide) rfl rfl .head (n := 0) (m := ((sendL t j) ++ [readC kk]).length) rfl (.srcRow (Knows.arr (.tail (.tail (.tail (.tail (.tail (.tail (.tail (.tail (.tail .head)))))))))) Try.underlying22 (by rw [flat_length Sn.cells_len]) (by decide)) (by omega))) ?_
              rintro _ _ ⟨xa, xc, rfl, xn, rfl⟩
              refine ⟨.inr ⟨_, (.cons (.tail (.tail (.tail .head))) .nil)⟩, ?_⟩
              refine .alter (t := 114) (v' := .slice xa ((sendL t j) ++ [readC kk]).length xc) rfl (by rw [Nat.zero_add]) ?_
              refine .ef 5 (by kernel_rfl) rfl (.append rfl rfl Try.underlying22 ti36 rfl (ones.of rfl) (by decide) (by decide) rfl rfl .head (n := ((sendL t j) ++ [readC kk]).length) (m := 1) (by rw [List.nil_append, flat_length Sn.cells_len]) (.srcBlk (ys := Sn.cells (readR kk (tx u kk))) (.tail (.tail .head)) Try.underlying22 rfl (by decide)) (by omega)) ?_
              rintro _ _ ⟨za, zc, rfl, zn, rfl⟩
              refine ⟨.inl (by kernel_rfl), ?_⟩
              refine .rp 6 rfl (by kernel_rfl) (by kernel_rfl) (by kernel_rfl) (Reads.pure (.assign rfl)) ?_
              refine .done (by kernel_rfl) ?_
              refine .cast (X' := arr 36 12 za zc ((((sendL t j) ++ [readC kk]) ++ [(readR kk (tx u kk))]).flatMap Sn.cells)) (by rw [List.flatMap_append]; simp) ?_
              refine .alter (t := 20) (v' := .slice za (((sendL t j) ++ [readC kk]) ++ [(readR kk (tx u kk))]).length zc) rfl (by simp only [List.length_append, List.length_cons, List.length_nil]) ?_
              refine .seq ?_
              refine .region ?_   -- R26 more.go:35
              refine .rd (.move rfl) ?_
              refine .fn rfl rfl .nil (Knows.arr .head) (Check_ok (((sendL t j) ++ [readC kk]) ++ [readR kk (tx u kk)]) za zc (by simp only [List.length_append, hlen1]; show 2 * j + 1 + 1 ≤ _; omega)) (fun v G1 hq => ?_)
              obtain ⟨rfl, rfl⟩ := hq
              simp only [List.nil_append]
              rw [read_end t j kk (by omega) hkn, if_neg (tx_ne fun e => htu e.symm)]
              refine .rd (.move rfl) ?_
              refine .rd (.extract rfl rfl) ?_
              refine .rd (.extract rfl rfl) ?_
              refine .rd (.assign rfl) ?_
              refine .rd (.assign rfl) ?_
              refine .nil ?_
              refine .seq ?_
              refine .region ?_   -- R27 more.go:36
              refine .rd (.move rfl) ?_
              refine .rd (.move rfl) ?_
              refine .on (t := 124) rfl rfl ?_
              refine .rd (.move rfl) ?_
              refine .on (t := 124) rfl rfl ?_
              refine .rd (.eqI rfl rfl) ?_
              refine .alter (t := 126) (v' := .bool true) rfl (congrArg Value.bool (decide_eq_true (by first | rfl | decide))) ?_
              refine .rd (.pickT rfl rfl) ?_
              refine .rd (.move rfl) ?_
              refine .on (t := 128) rfl rfl ?_
              refine .rd (.move rfl) ?_
              refine .on (t := 128) rfl rfl ?_
              refine .rd (.eqI rfl rfl) ?_
              refine .alter (t := 130) (v' := .bool true) rfl (congrArg Value.bool (decide_eq_true (by first | rfl | decide))) ?_
              refine .rd (.pickT rfl rfl) ?_
              refine .rd (.move rfl) ?_
              refine .on (t := 132) rfl rfl ?_
              refine .rd (.move rfl) ?_
              refine .on (t := 132) rfl rfl ?_
              refine .rd (.move rfl) ?_
              refine .on (t := 132) rfl rfl ?_
              refine .rd (.lenL rfl rfl Try.underlying22 rfl) ?_
              refine .on (t := 132) rfl rfl ?_
              refine .rd (.eqI rfl rfl) ?_
              refine .alter (t := 136) (v' := .bool true) rfl (congrArg Value.bool (decide_eq_true (by omega))) ?_
              refine .rd (.pickT rfl rfl) ?_
              refine .rd (.move rfl) ?_
              refine .on (t := 138) rfl rfl ?_
              refine .rd (.move rfl) ?_
              refine .on (t := 138) rfl rfl ?_
              refine .rd (.eqT (l := wValue) (m := wValue) rfl rfl) ?_
              refine .alter (t := 140) (v' := .bool true) rfl (congrArg Value.bool (decide_eq_true rfl)) ?_
              refine .rd (.pickT rfl rfl) ?_
              refine .rd (.assign rfl) ?_
              refine .nil ?_
              refine .retP Try.func5 (.cons (.tmp rfl) .nil) (.cons (.tail (.tail (.tail (.tail (.tail (.tail (.tail (.tail (.tail (.tail (.tail .head))))))))))) .nil) ?_
              exact ⟨[], ⟨rfl, rfl⟩, rfl⟩

end Go.Proofs.Ytahpokcigdjilaa

