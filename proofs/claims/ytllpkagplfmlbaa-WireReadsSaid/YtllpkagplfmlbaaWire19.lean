/- Steps through functions of the program, under conditions that each theorem states (part wire19 of a claim). -/
import Derived.Test.YtllpkagplfmlbaaProg
import Derived.Test.YtllpkagplfmlbaaDefs3k
import Derived.Test.YtllpkagplfmlbaaWire8
import Derived.Test.YtllpkagplfmlbaaWire13
namespace Go.Proofs.Ytllpkagplfmlbaa
open Go Go.Sp

set_option linter.unusedVariables false

namespace wire19
theorem ti39 : TI Try.prog 39 8 96 (.agg #[.int .i64 0, .int .i64 0, .int .i64 0, .int .i64 0, .int .i64 0, .string ⟨#[]⟩, .string ⟨#[]⟩, .slice none 0 0]) := .of (by kernel_rfl)
theorem bld39_  (w : World) : (Instr.build 39 (([] : List Nat).zip []).toArray).run Try.prog w = .ok (.agg #[.int .i64 0, .int .i64 0, .int .i64 0, .int .i64 0, .int .i64 0, .string ⟨#[]⟩, .string ⟨#[]⟩, .slice none 0 0]) w := by kernel_rfl
theorem ts39 : TS Try.prog 39 8 := .of (by kernel_rfl)
theorem ia39 : IsAgg Try.prog 39 := ⟨_, Try.underlying39, trivial⟩
theorem bld80_0 (x0 : ByteArray) (w : World) : (Instr.build 80 (([0] : List Nat).zip [.string x0]).toArray).run Try.prog w = .ok (.agg #[.string x0, .bool false]) w := by kernel_rfl
theorem fd39_0 : FD Try.prog 39 0 0 := .of Try.underlying39 (by kernel_rfl)
theorem ts3 : TS Try.prog 3 1 := .of (by kernel_rfl)
theorem fd39_1 : FD Try.prog 39 1 1 := .of Try.underlying39 (by kernel_rfl)
theorem fd39_2 : FD Try.prog 39 2 2 := .of Try.underlying39 (by kernel_rfl)
theorem fd39_3 : FD Try.prog 39 3 3 := .of Try.underlying39 (by kernel_rfl)
theorem fd39_4 : FD Try.prog 39 4 4 := .of Try.underlying39 (by kernel_rfl)
theorem fd39_5 : FD Try.prog 39 5 5 := .of Try.underlying39 (by kernel_rfl)
theorem ts9 : TS Try.prog 9 1 := .of (by kernel_rfl)
theorem fd39_6 : FD Try.prog 39 6 6 := .of Try.underlying39 (by kernel_rfl)
theorem fd39_7 : FD Try.prog 39 7 7 := .of Try.underlying39 (by kernel_rfl)
theorem na37 : NotAgg Try.prog 37 := ⟨_, Try.underlying37, trivial⟩
theorem ti3 : TI Try.prog 3 1 8 (.int .i64 0) := .of (by kernel_rfl)
theorem ts37 : TS Try.prog 37 1 := .of (by kernel_rfl)
theorem fd80_1 : FD Try.prog 80 1 1 := .of Try.underlying80 (by kernel_rfl)
theorem na4 : NotAgg Try.prog 4 := ⟨_, Try.underlying4, trivial⟩
theorem fd80_0 : FD Try.prog 80 0 0 := .of Try.underlying80 (by kernel_rfl)
theorem na9 : NotAgg Try.prog 9 := ⟨_, Try.underlying9, trivial⟩
end wire19
open wire19



set_option maxHeartbeats 1000000 in
set_option maxRecDepth 20000 in
theorem rReadMeta_ok (s : List UInt8) (hl : s.length ≤ 9000000000000000000) : Cn Try.prog 25 [.string (str s)] (fun _ => True) [] fun v G => ∃ a' c', v = .tuple #[.agg ((readMeta s).1.cells a' c').toArray, .int .i64 (readMeta s).2] ∧ G = [arr 3 1 a' c' ((readMeta s).1.list.flatMap icell)] := by
  refine .enter Try.func25 rfl (by kernel_rfl) rfl fun R k => ?_
  refine .seq ?_
  refine .region ?_   -- R0 ref.go:226
  refine .ef (.alloc ti39 rfl (ones.of rfl)) ?_
  rintro _ _ ⟨b2, rfl, rfl⟩
  refine .rd (.assign rfl) ?_
  refine .nil ?_
  refine .seq ?_
  refine .seq ?_
  refine .region ?_   -- R1 ref.go:227
  refine .rd (.move rfl) ?_
  refine .rd (.lenT rfl rfl Try.underlying9 rfl) ?_
  refine .rd (.lt rfl rfl) ?_
  refine .nil ?_
  refine .condP rfl (fun h1 => ?_) (fun h1 => ?_)
  · refine .seq ?_
    refine .region ?_   -- R2 ref.go:228
    refine .rd (.build rfl (bld39_)) ?_
    refine .ef0 (.storeAll (vs := [.int .i64 0, .int .i64 0, .int .i64 0, .int .i64 0, .int .i64 0, .string ⟨#[]⟩, .string ⟨#[]⟩, .slice none 0 0]) ts39 rfl rfl rfl .head rfl (ones.of rfl)) ?_
    rintro _ _ rfl
    refine .rd (.assign rfl) ?_
    refine .nil ?_
    rw [readMeta_short (s := s) (by omega)]
    refine .nilArr 3 1 none ?_
    refine .retP Try.func25 (.cons (.blkN ia39 ts39 rfl (.tail .head) rfl) (.cons (.tmp rfl) .nil)) (.cons .head (.cons (.tail .head) .nil)) ?_
    exact ⟨[_], ⟨none, 0, rfl, rfl⟩, rfl⟩
  · refine .skip ?_
    refine .seq ?_
    refine .seq ?_
    refine .region ?_   -- R3 ref.go:230
    refine .rd (.move rfl) ?_
    refine .rd (.lenT rfl rfl Try.underlying9 rfl) ?_
    refine .rd (.gt rfl rfl) ?_
    refine .nil ?_
    refine .condP rfl (fun h3 => ?_) (fun h3 => ?_)
    · refine .seq ?_
      refine .region ?_   -- R4 ref.go:231
      refine .rd (.build rfl (bld39_)) ?_
      refine .ef0 (.storeAll (vs := [.int .i64 0, .int .i64 0, .int .i64 0, .int .i64 0, .int .i64 0, .string ⟨#[]⟩, .string ⟨#[]⟩, .slice none 0 0]) ts39 rfl rfl rfl .head rfl (ones.of rfl)) ?_
      rintro _ _ rfl
      refine .rd (.assign rfl) ?_
      refine .nil ?_
      rw [readMeta_long (s := s) (by omega) (by omega)]
      refine .nilArr 3 1 none ?_
      refine .retP Try.func25 (.cons (.blkN ia39 ts39 rfl (.tail .head) rfl) (.cons (.tmp rfl) .nil)) (.cons .head (.cons (.tail .head) .nil)) ?_
      exact ⟨[_], ⟨none, 0, rfl, rfl⟩, rfl⟩
    · refine .skip ?_
      refine .seq ?_
      refine .seq ?_
      have h4l := four_lt s
      obtain ⟨t, ht⟩ : ∃ t, t = s.drop 4 := ⟨_, rfl⟩
      have htl : t.length ≤ 2044 := by rw [ht, List.length_drop]; omega
      refine .region ?_   -- R5 ref.go:233
      refine .rd (.move rfl) ?_
      refine .rd (.sliceT (l := s) (a := 4) (h := s.length) Try.underlying9 rfl ⟨_, rfl⟩ rfl (by omega) (by omega)) ?_
      refine .alter (t := 17) (v' := .string (str t)) rfl (by rw [ht, List.take_of_length_le (by rw [List.length_drop]; omega)]) ?_
      refine .fn rfl rfl .nil (fun _ _ _ => trivial) (rCrc_ok t (by omega)) (fun v G1 hq => ?_)
      obtain ⟨rfl, rfl⟩ := hq
      simp only [List.nil_append]
      refine .rd (.move rfl) ?_
      refine .fn rfl rfl .nil (fun _ _ _ => trivial) (rfour_ok s (by omega)) (fun v G1 hq => ?_)
      obtain ⟨rfl, rfl⟩ := hq
      simp only [List.nil_append]
      refine .rd (.neI rfl rfl) ?_
      refine .nil ?_
      refine .condN rfl (fun h5 => ?_) (fun h5 => ?_)
      · refine .seq ?_
        refine .region ?_   -- R6 ref.go:234
        refine .rd (.build rfl (bld39_)) ?_
        refine .ef0 (.storeAll (vs := [.int .i64 0, .int .i64 0, .int .i64 0, .int .i64 0, .int .i64 0, .string ⟨#[]⟩, .string ⟨#[]⟩, .slice none 0 0]) ts39 rfl rfl rfl .head rfl (ones.of rfl)) ?_
        rintro _ _ rfl
        refine .rd (.assign rfl) ?_
        refine .nil ?_
        rw [readMeta_sum (s := s) (by omega) (by omega) (by rw [← ht]; omega)]
        refine .nilArr 3 1 none ?_
        refine .retP Try.func25 (.cons (.blkN ia39 ts39 rfl (.tail .head) rfl) (.cons (.tmp rfl) .nil)) (.cons .head (.cons (.tail .head) .nil)) ?_
        exact ⟨[_], ⟨none, 0, rfl, rfl⟩, rfl⟩
      · have hcs : (crc t).toNat = four s := by omega
        refine .skip ?_
        refine .seq ?_
        refine .region ?_   -- R7 ref.go:236
        refine .rd (.move rfl) ?_
        refine .rd (.sliceT (l := s) (a := 4) (h := s.length) Try.underlying9 rfl ⟨_, rfl⟩ rfl (by omega) (by omega)) ?_
        refine .alter (t := 24) (v' := .string (str t)) rfl (by rw [ht, List.take_of_length_le (by rw [List.length_drop]; omega)]) ?_
        refine .rd (.build rfl (bld80_0 _)) ?_
        refine .ef (.box rfl rfl (ones.of rfl)) ?_
        rintro _ _ ⟨b26, rfl, rfl⟩
        refine .rd (.assign rfl) ?_
        refine .nil ?_
        refine .seq ?_
        obtain ⟨q0, hq0⟩ : ∃ q : Rdr, q = (t, false) := ⟨_, rfl⟩
        have hF0 : Fol (!q0.2) q0.1 (pMany pI 0 t) [] := by rw [hq0]; exact .inl ⟨rfl, rfl⟩
        have hl0 : q0.1.length ≤ 4096 := by rw [hq0]; show t.length ≤ 4096; omega
        refine .cast (X' := blk b26 [.string (str q0.1), .bool q0.2] 80) (by rw [hq0]; rfl) ?_
        refine .region ?_   -- R8 ref.go:237
        refine .rd (.build rfl (bld39_)) ?_
        refine .ef (.alloc ti39 rfl (ones.of rfl)) ?_
        rintro _ _ ⟨b5, rfl, rfl⟩
        refine .ef0 (.storeAll (vs := [.int .i64 0, .int .i64 0, .int .i64 0, .int .i64 0, .int .i64 0, .string ⟨#[]⟩, .string ⟨#[]⟩, .slice none 0 0]) ts39 rfl rfl rfl .head rfl (ones.of rfl)) ?_
        rintro _ _ rfl
        refine .nil ?_
        refine .seq ?_
        refine .region ?_   -- R9 ref.go:238
        refine .rd (.move rfl) ?_
        refine .fn rfl rfl (.cons (.tail .head) .nil) (fun _ _ _ => trivial) (qdint_ok b26 q0 (by omega)) (fun v G1 hq => ?_)
        obtain ⟨rfl, rfl⟩ := hq
        simp only [List.cons_append, List.nil_append]
        have hi0 := qdI_i64 q0
        have hl1 := Nat.le_trans (qdI_len q0) hl0
        have hF1 : Fol _ _ (pMany pI 1 t) [(qdI q0).1] := hF0.qdI (f := fun xs x => xs ++ [x])
        generalize qdI q0 = z at hi0 hl1 hF1 ⊢
        obtain ⟨x0, q1⟩ := z
        dsimp only at hi0 hl1 hF1 ⊢
        refine .rd (.fieldAddr fd39_0 rfl) ?_
        refine .ef0 (.store ts3 rfl rfl (.tail .head) rfl (Nat.le_of_ble_eq_true rfl)) ?_
        rintro _ _ rfl
        refine .nil ?_
        refine .seq ?_
        refine .region ?_   -- R10 ref.go:239
        refine .rd (.move rfl) ?_
        refine .fn rfl rfl (.cons (.tail .head) .nil) (fun _ _ _ => trivial) (qdint_ok b26 q1 (by omega)) (fun v G1 hq => ?_)
        obtain ⟨rfl, rfl⟩ := hq
        simp only [List.cons_append, List.nil_append]
        have hi1 := qdI_i64 q1
        have hl2 := Nat.le_trans (qdI_len q1) hl1
        have hF2 : Fol _ _ (pMany pI 2 t) [x0, (qdI q1).1] := hF1.qdI (f := fun xs x => xs ++ [x])
        generalize qdI q1 = z at hi1 hl2 hF2 ⊢
        obtain ⟨x1, q2⟩ := z
        dsimp only at hi1 hl2 hF2 ⊢
        refine .rd (.fieldAddr fd39_1 rfl) ?_
        refine .ef0 (.store ts3 rfl rfl (.tail .head) rfl (Nat.le_of_ble_eq_true rfl)) ?_
        rintro _ _ rfl
        refine .nil ?_
        refine .seq ?_
        refine .region ?_   -- R11 ref.go:240
        refine .rd (.move rfl) ?_
        refine .fn rfl rfl (.cons (.tail .head) .nil) (fun _ _ _ => trivial) (qdint_ok b26 q2 (by omega)) (fun v G1 hq => ?_)
        obtain ⟨rfl, rfl⟩ := hq
        simp only [List.cons_append, List.nil_append]
        have hi2 := qdI_i64 q2
        have hl3 := Nat.le_trans (qdI_len q2) hl2
        have hF3 : Fol _ _ (pMany pI 3 t) [x0, x1, (qdI q2).1] := hF2.qdI (f := fun xs x => xs ++ [x])
        generalize qdI q2 = z at hi2 hl3 hF3 ⊢
        obtain ⟨x2, q3⟩ := z
        dsimp only at hi2 hl3 hF3 ⊢
        refine .rd (.fieldAddr fd39_2 rfl) ?_
        refine .ef0 (.store ts3 rfl rfl (.tail .head) rfl (Nat.le_of_ble_eq_true rfl)) ?_
        rintro _ _ rfl
        refine .nil ?_
        refine .seq ?_
        refine .region ?_   -- R12 ref.go:241
        refine .rd (.move rfl) ?_
        refine .fn rfl rfl (.cons (.tail .head) .nil) (fun _ _ _ => trivial) (qdint_ok b26 q3 (by omega)) (fun v G1 hq => ?_)
        obtain ⟨rfl, rfl⟩ := hq
        simp only [List.cons_append, List.nil_append]
        have hi3 := qdI_i64 q3
        have hl4 := Nat.le_trans (qdI_len q3) hl3
        have hF4 : Fol _ _ (pMany pI 4 t) [x0, x1, x2, (qdI q3).1] := hF3.qdI (f := fun xs x => xs ++ [x])
        generalize qdI q3 = z at hi3 hl4 hF4 ⊢
        obtain ⟨x3, q4⟩ := z
        dsimp only at hi3 hl4 hF4 ⊢
        refine .rd (.fieldAddr fd39_3 rfl) ?_
        refine .ef0 (.store ts3 rfl rfl (.tail .head) rfl (Nat.le_of_ble_eq_true rfl)) ?_
        rintro _ _ rfl
        refine .nil ?_
        refine .seq ?_
        refine .region ?_   -- R13 ref.go:242
        refine .rd (.move rfl) ?_
        refine .fn rfl rfl (.cons (.tail .head) .nil) (fun _ _ _ => trivial) (qdint_ok b26 q4 (by omega)) (fun v G1 hq => ?_)
        obtain ⟨rfl, rfl⟩ := hq
        simp only [List.cons_append, List.nil_append]
        have hi4 := qdI_i64 q4
        have hl5 := Nat.le_trans (qdI_len q4) hl4
        have hF5 : Fol _ _ (pMany pI 5 t) [x0, x1, x2, x3, (qdI q4).1] := hF4.qdI (f := fun xs x => xs ++ [x])
        generalize qdI q4 = z at hi4 hl5 hF5 ⊢
        obtain ⟨x4, q5⟩ := z
        dsimp only at hi4 hl5 hF5 ⊢
        refine .rd (.fieldAddr fd39_4 rfl) ?_
        refine .ef0 (.store ts3 rfl rfl (.tail .head) rfl (Nat.le_of_ble_eq_true rfl)) ?_
        rintro _ _ rfl
        refine .nil ?_
        refine .seq ?_
        refine .region ?_   -- R14 ref.go:243
        refine .rd (.move rfl) ?_
        refine .fn rfl rfl (.cons (.tail .head) .nil) (fun _ _ _ => trivial) (qdtext_ok b26 q5 32 (by omega)) (fun v G1 hq => ?_)
        obtain ⟨rfl, rfl⟩ := hq
        simp only [List.cons_append, List.nil_append]
        have hF6 := hF5.qdT 32 (f := fun a b => (a, b))
        have hl6 := Nat.le_trans (qdT_len 32 q5) hl5
        generalize qdT 32 q5 = z at hF6 hl6 ⊢
        obtain ⟨nm, q6⟩ := z
        dsimp only at hF6 hl6 ⊢
        refine .rd (.fieldAddr fd39_5 rfl) ?_
        refine .ef0 (.store ts9 rfl rfl (.tail .head) rfl (Nat.le_of_ble_eq_true rfl)) ?_
        rintro _ _ rfl
        refine .nil ?_
        refine .seq ?_
        refine .region ?_   -- R15 ref.go:244
        refine .rd (.move rfl) ?_
        refine .fn rfl rfl (.cons (.tail .head) .nil) (fun _ _ _ => trivial) (qdtext_ok b26 q6 1000 (by omega)) (fun v G1 hq => ?_)
        obtain ⟨rfl, rfl⟩ := hq
        simp only [List.cons_append, List.nil_append]
        have hF7 := hF6.qdT 1000 (f := fun a b => (a, b))
        have hl7 := Nat.le_trans (qdT_len 1000 q6) hl6
        generalize qdT 1000 q6 = z at hF7 hl7 ⊢
        obtain ⟨tx, q7⟩ := z
        dsimp only at hF7 hl7 ⊢
        refine .rd (.fieldAddr fd39_6 rfl) ?_
        refine .ef0 (.store ts9 rfl rfl (.tail .head) rfl (Nat.le_of_ble_eq_true rfl)) ?_
        rintro _ _ rfl
        refine .nil ?_
        refine .seq ?_
        refine .region ?_   -- R16 ref.go:245
        refine .rd (.move rfl) ?_
        refine .fn rfl rfl (.cons (.tail .head) .nil) (fun _ _ _ => trivial) (qdint_ok b26 q7 (by omega)) (fun v G1 hq => ?_)
        obtain ⟨rfl, rfl⟩ := hq
        simp only [List.cons_append, List.nil_append]
        have hi7 := qdI_i64 q7
        have hl8 := Nat.le_trans (qdI_len q7) hl7
        have hH : Fol _ _ (pMHead t) ((([x0, x1, x2, x3, x4], nm), tx), (qdI q7).1) := hF7.qdI (f := fun a b => (a, b))
        generalize qdI q7 = z at hi7 hl8 hH ⊢
        obtain ⟨n, q8⟩ := z
        dsimp only at hi7 hl8 hH ⊢
        refine .rd (.assign rfl) ?_
        refine .nil ?_
        refine .seq ?_
        refine .seq ?_
        refine .region ?_   -- R17 ref.go:246
        refine .rd (.move rfl) ?_
        refine .rd (.lt rfl rfl) ?_
        refine .rd (.move rfl) ?_
        refine .split (t := 53) rfl (fun g17 => ?_) (fun g17 => ?_)
        · replace g17 := of_decide_eq_true g17
          refine .off (t := 53) rfl rfl rfl ?_
          refine .off (t := 53) rfl rfl rfl ?_
          refine .rd (.pickT rfl rfl) ?_
          refine .nil ?_
          refine .condT rfl ?_
          refine .seq ?_
          refine .region ?_   -- R18 ref.go:247
          refine .rd (.build rfl (bld39_)) ?_
          refine .ef0 (.storeAll (vs := [.int .i64 0, .int .i64 0, .int .i64 0, .int .i64 0, .int .i64 0, .string ⟨#[]⟩, .string ⟨#[]⟩, .slice none 0 0]) ts39 rfl rfl rfl (.tail (.tail .head)) rfl (ones.of rfl)) ?_
          rintro _ _ rfl
          refine .rd (.assign rfl) ?_
          refine .nil ?_
          rw [readMeta_no (s := s) (by omega) (by omega) (by rw [← ht]; exact hcs) (by rw [← ht]; exact pMeta_range hH (by show ¬ (0 ≤ n ∧ n ≤ 64); omega))]
          refine .nilArr 3 1 none ?_
          refine .retP Try.func25 (.cons (.blkN ia39 ts39 rfl (.tail .head) rfl) (.cons (.tmp rfl) .nil)) (.cons .head (.cons (.tail (.tail (.tail .head))) .nil)) ?_
          exact ⟨[_], ⟨none, 0, rfl, rfl⟩, rfl⟩
        · replace g17 := of_decide_eq_false g17
          refine .on (t := 53) rfl rfl ?_
          refine .rd (.move rfl) ?_
          refine .on (t := 53) rfl rfl ?_
          refine .rd (.gt rfl rfl) ?_
          refine .rd (.pickF rfl rfl) ?_
          refine .nil ?_
          refine .condP rfl (fun h17 => ?_) (fun h17 => ?_)
          · refine .seq ?_
            refine .region ?_   -- R18 ref.go:247
            refine .rd (.build rfl (bld39_)) ?_
            refine .ef0 (.storeAll (vs := [.int .i64 0, .int .i64 0, .int .i64 0, .int .i64 0, .int .i64 0, .string ⟨#[]⟩, .string ⟨#[]⟩, .slice none 0 0]) ts39 rfl rfl rfl (.tail (.tail .head)) rfl (ones.of rfl)) ?_
            rintro _ _ rfl
            refine .rd (.assign rfl) ?_
            refine .nil ?_
            rw [readMeta_no (s := s) (by omega) (by omega) (by rw [← ht]; exact hcs) (by rw [← ht]; exact pMeta_range hH (by show ¬ (0 ≤ n ∧ n ≤ 64); omega))]
            refine .nilArr 3 1 none ?_
            refine .retP Try.func25 (.cons (.blkN ia39 ts39 rfl (.tail .head) rfl) (.cons (.tmp rfl) .nil)) (.cons .head (.cons (.tail (.tail (.tail .head))) .nil)) ?_
            exact ⟨[_], ⟨none, 0, rfl, rfl⟩, rfl⟩
          · refine .skip ?_
            refine .seq ?_
            refine .seq ?_
            refine .nilArr 3 1 none ?_
            refine .region ?_   -- R19 ref.go:249
            refine .rd (.assign rfl) ?_
            refine .nil ?_
            refine .block ?_
            refine .loop (σ := List Int × Rdr × Option Addr × Nat) (fun ⟨rs, p, a', c'⟩ => (rs.length : Int) ≤ n ∧ p.1.length ≤ 4096 ∧ Fol (!p.2) p.1 (pMPart rs.length t) (((([x0, x1, x2, x3, x4], nm), tx), n), rs)) (fun ⟨rs, p, a', c'⟩ => 64 - rs.length) (fun ⟨rs, p, a', c'⟩ => [(2, .pointer (some ⟨b2, 0, none⟩)), (4, .pointer (some ⟨b26, 0, none⟩)), (5, .pointer (some ⟨b5, 0, none⟩)), (6, .int .i64 n), (7, .int .i64 (rs.length : Int))]) (fun ⟨rs, p, a', c'⟩ => [blk b2 [.int .i64 0, .int .i64 0, .int .i64 0, .int .i64 0, .int .i64 0, .string ⟨#[]⟩, .string ⟨#[]⟩, .slice none 0 0] 39, blk b26 [.string (str p.1), .bool p.2] 80, blk b5 [.int .i64 x0, .int .i64 x1, .int .i64 x2, .int .i64 x3, .int .i64 x4, .string (str nm), .string (str tx), .slice a' rs.length c'] 39, arr 3 1 a' c' (rs.flatMap icell), R]) ([], q8, none, 0) ⟨by show ((0 : Nat) : Int) ≤ n; omega, hl8, pMPart_zero hH⟩ (.cons rfl (.cons rfl (.cons rfl (.cons rfl (.cons rfl .nil))))) (.cons (.tail (.tail (.tail .head))) (.cons (.tail .head) (.cons (.tail .head) (.cons .head (.cons .head .nil))))) (fun s' hI ih => ?_)
            obtain ⟨rs, p, a', c'⟩ := s'
            dsimp only at hI ih ⊢
            have hm := hI.1
            have hpl := hI.2.1
            refine .seq ?_
            refine .seq ?_
            refine .region ?_   -- R20 ref.go:249
            refine .rd (.move rfl) ?_
            refine .rd (.move rfl) ?_
            refine .rd (.lt rfl rfl) ?_
            refine .nil ?_
            refine .condP rfl (fun h20 => ?_) (fun h20 => ?_)
            · refine .skip ?_
              refine .seq ?_
              refine .block ?_
              obtain ⟨k, hk⟩ : ∃ k, k = (qdI p).1 := ⟨_, rfl⟩
              have hf0 := hI.2.2.qdI (f := fun a b => (a, b))
              rw [← hk] at hf0
              refine .draws [1] [blk b5 [.int .i64 x0, .int .i64 x1, .int .i64 x2, .int .i64 x3, .int .i64 x4, .string (str nm), .string (str tx), .slice a' rs.length c'] 39] (by kernel_rfl) ?_   -- R22 ref.go:250
              refine .rp 0 rfl (by kernel_rfl) (by kernel_rfl) (by kernel_rfl) (Reads.pure (.fieldAddr fd39_7 rfl)) ?_
              refine .rd 1 rfl rfl (by kernel_rfl) (by kernel_rfl) (by kernel_rfl) (.ld na37 rfl .head rfl) (.cons (.tail (.tail .head)) .nil) ?_
              refine .rp 2 rfl (by kernel_rfl) (by kernel_rfl) (by kernel_rfl) (Reads.pure (.move rfl)) ?_
              refine .ef 3 (by kernel_rfl) rfl (.fn rfl rfl (.cons (.tail .head) .nil) (fun _ _ _ => trivial) (qdint_ok b26 p (by omega))) ?_
              rintro v _ ⟨G1, hq, rfl⟩
              obtain ⟨rfl, rfl⟩ := hq
              simp only [List.cons_append, List.nil_append]
              refine ⟨.inr ⟨_, (.cons (.tail (.tail .head)) .nil)⟩, ?_⟩
              refine .ef 4 (by kernel_rfl) rfl (.buildOne (cs := icell k) Try.underlying37 ti3 (by decide) rfl (by rw [hk]; rfl) rfl (ones.of rfl)) ?_
              rintro _ _ ⟨bs, rfl, rfl⟩
              refine ⟨.inr ⟨_, (.cons (.tail (.tail (.tail .head))) .nil)⟩, ?_⟩
              refine .ef 5 (by kernel_rfl) rfl (.append rfl rfl Try.underlying37 ti3 rfl (ones.of rfl) (by decide) (by decide) rfl rfl (.tail (.tail (.tail (.tail .head)))) (n := rs.length) (m := 1) (by rw [flat_length icell_len]) (.srcBlk (ys := icell k) .head Try.underlying37 rfl (by decide)) (by omega)) ?_
              rintro _ _ ⟨ra, rc, rfl, rn, rfl⟩
              refine ⟨.inl (by kernel_rfl), ?_⟩
              refine .rp 6 rfl (by kernel_rfl) (by kernel_rfl) (by kernel_rfl) (Reads.pure (.fieldAddr fd39_7 rfl)) ?_
              refine .ef0 7 (by kernel_rfl) rfl (.store ts37 rfl rfl (.tail (.tail (.tail (.tail .head)))) rfl (Nat.le_of_ble_eq_true rfl)) ?_
              rintro _ _ rfl
              refine ⟨.inl (by kernel_rfl), ?_⟩
              refine .done (by kernel_rfl) ?_
              refine .perm (.cons (.tail .head) (.cons .head (.cons .head (.cons .head (.cons .head (.cons .head .nil)))))) ?_
              refine .cast (X' := arr 3 1 ra rc ((rs ++ [k]).flatMap icell)) (by rw [List.flatMap_append]; simp) ?_
              refine .perm (.cons (.tail .head) (.cons .head (.cons .head (.cons .head (.cons .head (.cons .head .nil)))))) ?_
              refine .cast (X' := blk b5 [.int .i64 x0, .int .i64 x1, .int .i64 x2, .int .i64 x3, .int .i64 x4, .string (str nm), .string (str tx), .slice ra (rs ++ [k]).length rc] 39) (by rw [List.length_append]; rfl) ?_
              refine .inBlock ?_
              refine .region ?_   -- R21 ref.go:249
              refine .rd (.move rfl) ?_
              refine .rd (.add rfl rfl (by omega) (by omega)) ?_
              refine .rd (.assign rfl) ?_
              refine .nil ?_
              exact (ih (rs ++ [k], (qdI p).2, ra, rc) ⟨by show (((rs ++ [_]).length : Nat) : Int) ≤ n; rw [List.length_append]; show ((rs.length + 1 : Nat) : Int) ≤ n; omega, Nat.le_trans (qdI_len p) hI.2.1, pMPart_next hf0⟩ (by show 64 - (rs ++ [_]).length < _; rw [List.length_append]; show 64 - (rs.length + 1) < 64 - rs.length; omega)).to (.cons rfl (.cons rfl (.cons rfl (.cons rfl (.cons (by show _ = some (Value.int .i64 ((rs ++ [k]).length : Int)); rw [List.length_append]; rfl) .nil))))) (.cons (.tail (.tail (.tail (.tail .head)))) (.cons (.tail (.tail (.tail .head))) (.cons .head (.cons .head (.cons (.tail .head) .nil)))))
            · have hrn : (rs.length : Int) = n := by omega
              refine .exit rfl ?_
              refine .seq ?_
              refine .seq ?_
              refine .region ?_   -- R23 ref.go:252
              refine RunO.join 11 80 (!decide ((!p.2) = true ∧ p.1 = [])) ?_ ?_
              · refine .rd (.move rfl) ?_
                refine .rd (.nilCheck rfl) ?_
                refine .rd (.fieldAddr fd80_1 rfl) ?_
                refine .rd (.ld na4 rfl (.tail .head) rfl) ?_
                refine .rd (.move rfl) ?_
                refine .split (t := 74) rfl (fun g23_4 => ?_) (fun g23_4 => ?_)
                · refine .off (t := 74) rfl rfl rfl ?_
                  refine .off (t := 74) rfl rfl rfl ?_
                  refine .off (t := 74) rfl rfl rfl ?_
                  refine .off (t := 74) rfl rfl rfl ?_
                  refine .off (t := 74) rfl rfl rfl ?_
                  refine .rd (.pickT rfl rfl) ?_
                  refine .nil ⟨rfl, ?_, by repeat (first | exact Le.refl _ | refine Le.skip rfl ?_)⟩
                  exact congrArg (fun x => some (Value.bool x)) (by simp [g23_4])
                · refine .on (t := 74) rfl rfl ?_
                  refine .rd (.move rfl) ?_
                  refine .on (t := 74) rfl rfl ?_
                  refine .rd (.nilCheck rfl) ?_
                  refine .on (t := 74) rfl rfl ?_
                  refine .rd (.fieldAddr fd80_0 rfl) ?_
                  refine .on (t := 74) rfl rfl ?_
                  refine .rd (.ld na9 rfl (.tail .head) rfl) ?_
                  refine .on (t := 74) rfl rfl ?_
                  refine .rd (.neT rfl rfl) ?_
                  refine .rd (.pickF rfl rfl) ?_
                  refine .nil ⟨rfl, ?_, by repeat (first | exact Le.refl _ | refine Le.skip rfl ?_)⟩
                  exact congrArg (fun x => some (Value.bool x)) (by simp [g23_4])
              refine .nil ?_
              refine .condN rfl (fun h23 => ?_) (fun h23 => ?_)
              · have hno : pMeta t = none := pMeta_no hH hI.2.2 (by show 0 ≤ n ∧ n ≤ 64; omega) h23 (fun _ => hrn) (by show (rs.length : Int) ≤ n; omega)
                refine .seq ?_
                refine .region ?_   -- R24 ref.go:253
                refine .rd (.build rfl (bld39_)) ?_
                refine .ef0 (.storeAll (vs := [.int .i64 0, .int .i64 0, .int .i64 0, .int .i64 0, .int .i64 0, .string ⟨#[]⟩, .string ⟨#[]⟩, .slice none 0 0]) ts39 rfl rfl rfl .head rfl (ones.of rfl)) ?_
                rintro _ _ rfl
                refine .rd (.assign rfl) ?_
                refine .nil ?_
                rw [readMeta_no (s := s) (by omega) (by omega) (by rw [← ht]; exact hcs) (by rw [← ht]; exact hno)]
                refine .nilArr 3 1 none ?_
                refine .retP Try.func25 (.cons (.blkN ia39 ts39 rfl (.tail .head) rfl) (.cons (.tmp rfl) .nil)) (.cons .head (.cons (.tail (.tail (.tail (.tail .head)))) .nil)) ?_
                exact ⟨[_], ⟨none, 0, rfl, rfl⟩, rfl⟩
              · have hyes : pMeta t = some (met ((([x0, x1, x2, x3, x4], nm), tx), n) rs) := pMeta_yes hI.2.2 hrn h23.1 h23.2 (by show 0 ≤ n ∧ n ≤ 64; omega)
                refine .skip ?_
                refine .seq ?_
                refine .region ?_   -- R25 ref.go:255
                refine .rd (.ldN ia39 ts39 rfl (.tail (.tail .head)) rfl) ?_
                refine .ef0 (.storeAll (vs := Met.cells (met ((([x0, x1, x2, x3, x4], nm), tx), n) rs) a' c') ts39 rfl rfl rfl .head rfl (ones.of rfl)) ?_
                rintro _ _ rfl
                refine .rd (.assign rfl) ?_
                refine .nil ?_
                rw [readMeta_yes (s := s) (by omega) (by omega) (by rw [← ht]; exact hcs) (by rw [← ht]; exact hyes)]
                refine .retP Try.func25 (.cons (.blkN ia39 ts39 rfl .head rfl) (.cons (.tmp rfl) .nil)) (.cons (.tail (.tail (.tail .head))) (.cons (.tail (.tail (.tail .head))) .nil)) ?_
                exact ⟨[_], ⟨a', c', rfl, rfl⟩, rfl⟩

end Go.Proofs.Ytllpkagplfmlbaa

