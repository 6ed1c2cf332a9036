/- Steps through functions of the program, under conditions that each theorem states (part wire15 of a claim). -/
import Derived.Test.YtllpkagplfmlbaaProg
import Derived.Test.YtllpkagplfmlbaaDefs3i
import Derived.Test.YtllpkagplfmlbaaWire8
import Derived.Test.YtllpkagplfmlbaaWire13
namespace Go.Proofs.Ytllpkagplfmlbaa
open Go Go.Sp

set_option linter.unusedVariables false

namespace wire15
theorem ti27 : TI Try.prog 27 6 64 (.agg #[.int .i64 0, .int .i64 0, .int .i64 0, .int .i64 0, .int .i64 0, .slice none 0 0]) := .of (by kernel_rfl)
theorem bld27_  (w : World) : (Instr.build 27 (([] : List Nat).zip []).toArray).run Try.prog w = .ok (.agg #[.int .i64 0, .int .i64 0, .int .i64 0, .int .i64 0, .int .i64 0, .slice none 0 0]) w := by kernel_rfl
theorem ts27 : TS Try.prog 27 6 := .of (by kernel_rfl)
theorem ia27 : IsAgg Try.prog 27 := ⟨_, Try.underlying27, trivial⟩
theorem bld80_0 (x0 : ByteArray) (w : World) : (Instr.build 80 (([0] : List Nat).zip [.string x0]).toArray).run Try.prog w = .ok (.agg #[.string x0, .bool false]) w := by kernel_rfl
theorem fd27_0 : FD Try.prog 27 0 0 := .of Try.underlying27 (by kernel_rfl)
theorem ts3 : TS Try.prog 3 1 := .of (by kernel_rfl)
theorem fd27_1 : FD Try.prog 27 1 1 := .of Try.underlying27 (by kernel_rfl)
theorem fd27_2 : FD Try.prog 27 2 2 := .of Try.underlying27 (by kernel_rfl)
theorem fd27_3 : FD Try.prog 27 3 3 := .of Try.underlying27 (by kernel_rfl)
theorem fd27_4 : FD Try.prog 27 4 4 := .of Try.underlying27 (by kernel_rfl)
theorem bld65_2 (x0 : Int) (w : World) : (Instr.build 65 (([2] : List Nat).zip [.int .i64 x0]).toArray).run Try.prog w = .ok (.agg #[.string ⟨#[]⟩, .string ⟨#[]⟩, .int .i64 x0]) w := by kernel_rfl
theorem ti65 : TI Try.prog 65 3 40 (.agg #[.string ⟨#[]⟩, .string ⟨#[]⟩, .int .i64 0]) := .of (by kernel_rfl)
theorem ts65 : TS Try.prog 65 3 := .of (by kernel_rfl)
theorem fd65_0 : FD Try.prog 65 0 0 := .of Try.underlying65 (by kernel_rfl)
theorem ts9 : TS Try.prog 9 1 := .of (by kernel_rfl)
theorem fd65_1 : FD Try.prog 65 1 1 := .of Try.underlying65 (by kernel_rfl)
theorem fd27_5 : FD Try.prog 27 5 5 := .of Try.underlying27 (by kernel_rfl)
theorem na25 : NotAgg Try.prog 25 := ⟨_, Try.underlying25, trivial⟩
theorem ia65 : IsAgg Try.prog 65 := ⟨_, Try.underlying65, trivial⟩
theorem ts25 : TS Try.prog 25 1 := .of (by kernel_rfl)
theorem fd80_1 : FD Try.prog 80 1 1 := .of Try.underlying80 (by kernel_rfl)
theorem na4 : NotAgg Try.prog 4 := ⟨_, Try.underlying4, trivial⟩
theorem fd80_0 : FD Try.prog 80 0 0 := .of Try.underlying80 (by kernel_rfl)
theorem na9 : NotAgg Try.prog 9 := ⟨_, Try.underlying9, trivial⟩
end wire15
open wire15

theorem pBatch_many {good : Bool} {l t : List UInt8} {xs : List Int} {n : Int} (h : Fol good l (pHead t) (xs, n)) (hn : ¬ (1 ≤ n ∧ n ≤ 64)) : pBatch t = none := by
  unfold pBatch
  rcases h with ⟨_, h⟩ | ⟨_, h⟩
  · rw [h]; exact if_neg hn
  · rw [h]; rfl

set_option maxHeartbeats 1000000 in
set_option maxRecDepth 20000 in
theorem rReadBatch_ok (s : List UInt8) (hl : s.length ≤ 9000000000000000000) : Cn Try.prog 23 [.string (str s)] (fun _ => True) [] fun v G => ∃ a' c', v = .tuple #[.agg ((readBatch s).1.cells a' c').toArray, .int .i64 (readBatch s).2.1, .int .i64 (readBatch s).2.2] ∧ G = [arr 65 3 a' c' ((readBatch s).1.recs.flatMap Rec.cells)] := by
  refine .enter Try.func23 rfl (by kernel_rfl) rfl fun R k => ?_
  refine .seq ?_
  refine .region ?_   -- R0 ref.go:168
  refine .ef (.alloc ti27 rfl (ones.of rfl)) ?_
  rintro _ _ ⟨b2, rfl, rfl⟩
  refine .rd (.assign rfl) ?_
  refine .rd (.assign rfl) ?_
  refine .nil ?_
  refine .seq ?_
  refine .seq ?_
  refine .region ?_   -- R1 ref.go:169
  refine .rd (.move rfl) ?_
  refine .rd (.lenT rfl rfl Try.underlying9 rfl) ?_
  refine .rd (.lt rfl rfl) ?_
  refine .nil ?_
  refine .condP rfl (fun h2 => ?_) (fun h2 => ?_)
  · refine .seq ?_
    refine .region ?_   -- R2 ref.go:170
    refine .rd (.build rfl (bld27_)) ?_
    refine .ef0 (.storeAll (vs := [.int .i64 0, .int .i64 0, .int .i64 0, .int .i64 0, .int .i64 0, .slice none 0 0]) ts27 rfl rfl rfl .head rfl (ones.of rfl)) ?_
    rintro _ _ rfl
    refine .rd (.assign rfl) ?_
    refine .rd (.assign rfl) ?_
    refine .nil ?_
    rw [readBatch_short (s := s) (by omega)]
    refine .nilArr 65 3 none ?_
    refine .retP Try.func23 (.cons (.blkN ia27 ts27 rfl (.tail .head) rfl) (.cons (.tmp rfl) (.cons (.tmp rfl) .nil))) (.cons .head (.cons (.tail .head) .nil)) ?_
    exact ⟨[_], ⟨none, 0, rfl, rfl⟩, rfl⟩
  · refine .skip ?_
    refine .seq ?_
    refine .region ?_   -- R3 ref.go:172
    refine .rd (.move rfl) ?_
    refine .fn rfl rfl .nil (fun _ _ _ => trivial) (rfour_ok s (by omega)) (fun v G1 hq => ?_)
    obtain ⟨rfl, rfl⟩ := hq
    simp only [List.nil_append]
    refine .rd (.assign rfl) ?_
    refine .nil ?_
    refine .seq ?_
    refine .seq ?_
    refine .region ?_   -- R4 ref.go:173
    refine .rd (.move rfl) ?_
    refine .rd (.gt rfl rfl) ?_
    refine .nil ?_
    refine .condP rfl (fun h4 => ?_) (fun h4 => ?_)
    · refine .seq ?_
      refine .region ?_   -- R5 ref.go:174
      refine .rd (.build rfl (bld27_)) ?_
      refine .ef0 (.storeAll (vs := [.int .i64 0, .int .i64 0, .int .i64 0, .int .i64 0, .int .i64 0, .slice none 0 0]) ts27 rfl rfl rfl .head rfl (ones.of rfl)) ?_
      rintro _ _ rfl
      refine .rd (.assign rfl) ?_
      refine .rd (.assign rfl) ?_
      refine .nil ?_
      rw [readBatch_long (s := s) (by omega) (by omega)]
      refine .nilArr 65 3 none ?_
      refine .retP Try.func23 (.cons (.blkN ia27 ts27 rfl (.tail .head) rfl) (.cons (.tmp rfl) (.cons (.tmp rfl) .nil))) (.cons .head (.cons (.tail .head) .nil)) ?_
      exact ⟨[_], ⟨none, 0, rfl, rfl⟩, rfl⟩
    · refine .skip ?_
      refine .seq ?_
      refine .seq ?_
      refine .region ?_   -- R6 ref.go:176
      refine .rd (.move rfl) ?_
      refine .rd (.lenT rfl rfl Try.underlying9 rfl) ?_
      refine .rd (.move rfl) ?_
      refine .rd (.add rfl rfl (by omega) (by omega)) ?_
      refine .rd (.lt rfl rfl) ?_
      refine .nil ?_
      refine .condP rfl (fun h6 => ?_) (fun h6 => ?_)
      · refine .seq ?_
        refine .region ?_   -- R7 ref.go:177
        refine .rd (.build rfl (bld27_)) ?_
        refine .ef0 (.storeAll (vs := [.int .i64 0, .int .i64 0, .int .i64 0, .int .i64 0, .int .i64 0, .slice none 0 0]) ts27 rfl rfl rfl .head rfl (ones.of rfl)) ?_
        rintro _ _ rfl
        refine .rd (.assign rfl) ?_
        refine .rd (.assign rfl) ?_
        refine .nil ?_
        rw [readBatch_cut (s := s) (by omega) (by omega) (by omega)]
        refine .nilArr 65 3 none ?_
        refine .retP Try.func23 (.cons (.blkN ia27 ts27 rfl (.tail .head) rfl) (.cons (.tmp rfl) (.cons (.tmp rfl) .nil))) (.cons .head (.cons (.tail .head) .nil)) ?_
        exact ⟨[_], ⟨none, 0, rfl, rfl⟩, rfl⟩
      · refine .skip ?_
        refine .seq ?_
        have h4l := four_lt s
        obtain ⟨t, ht⟩ : ∃ t, t = (s.drop 8).take (four s) := ⟨_, rfl⟩
        have htl : t.length ≤ 4088 := by rw [ht, List.length_take]; omega
        refine .region ?_   -- R8 ref.go:179
        refine .rd (.move rfl) ?_
        refine .rd (.move rfl) ?_
        refine .rd (.add rfl rfl (by omega) (by omega)) ?_
        refine .alter (t := 30) (v' := .int .i64 ((8 + four s : Nat) : Int)) rfl (by rw [Int.natCast_add]; rfl) ?_
        refine .rd (.sliceT (l := s) (a := 8) (h := (8 + four s)) Try.underlying9 rfl ⟨_, rfl⟩ ⟨_, rfl⟩ (by omega) (by omega)) ?_
        refine .alter (t := 31) (v' := .string (str t)) rfl (by rw [ht, Nat.add_sub_cancel_left]) ?_
        refine .rd (.assign rfl) ?_
        refine .nil ?_
        refine .seq ?_
        refine .seq ?_
        refine .draws [] [] (by kernel_rfl) ?_   -- R9 ref.go:180
        refine .rp 0 rfl (by kernel_rfl) (by kernel_rfl) (by kernel_rfl) (Reads.pure (.move rfl)) ?_
        refine .rp 2 rfl (by kernel_rfl) (by kernel_rfl) (by kernel_rfl) (Reads.pure (.move rfl)) ?_
        refine .rp 3 rfl (by kernel_rfl) (by kernel_rfl) (by kernel_rfl) (Reads.pure (.sliceT (l := s) (a := 4) (h := s.length) Try.underlying9 rfl ⟨_, rfl⟩ rfl (by omega) (by omega))) ?_
        refine .alter (t := 35) (v' := .string (str (s.drop 4))) rfl (by rw [List.take_of_length_le (by rw [List.length_drop]; omega)]) ?_
        refine .ef 1 (by kernel_rfl) rfl (.fn rfl rfl .nil (fun _ _ _ => trivial) (rCrc_ok t (by omega))) ?_
        rintro v _ ⟨G1, hq, rfl⟩
        obtain ⟨rfl, rfl⟩ := hq
        simp only [List.nil_append]
        refine ⟨.inl (by kernel_rfl), ?_⟩
        refine .ef 4 (by kernel_rfl) rfl (.fn rfl rfl .nil (fun _ _ _ => trivial) (rfour_ok (s.drop 4) (by rw [List.length_drop]; omega))) ?_
        rintro v _ ⟨G1, hq, rfl⟩
        obtain ⟨rfl, rfl⟩ := hq
        simp only [List.nil_append]
        refine ⟨.inl (by kernel_rfl), ?_⟩
        refine .rp 5 rfl (by kernel_rfl) (by kernel_rfl) (by kernel_rfl) (Reads.pure (.neI rfl rfl)) ?_
        refine .done (by kernel_rfl) ?_
        refine .condN rfl (fun h9 => ?_) (fun h9 => ?_)
        · refine .seq ?_
          refine .region ?_   -- R10 ref.go:181
          refine .rd (.build rfl (bld27_)) ?_
          refine .ef0 (.storeAll (vs := [.int .i64 0, .int .i64 0, .int .i64 0, .int .i64 0, .int .i64 0, .slice none 0 0]) ts27 rfl rfl rfl .head rfl (ones.of rfl)) ?_
          rintro _ _ rfl
          refine .rd (.assign rfl) ?_
          refine .rd (.assign rfl) ?_
          refine .nil ?_
          rw [readBatch_sum (s := s) (by omega) (by omega) (by omega) ht (by omega)]
          refine .nilArr 65 3 none ?_
          refine .retP Try.func23 (.cons (.blkN ia27 ts27 rfl (.tail .head) rfl) (.cons (.tmp rfl) (.cons (.tmp rfl) .nil))) (.cons .head (.cons (.tail .head) .nil)) ?_
          exact ⟨[_], ⟨none, 0, rfl, rfl⟩, rfl⟩
        · have hcs : (crc t).toNat = four (s.drop 4) := by omega
          refine .skip ?_
          refine .seq ?_
          refine .region ?_   -- R11 ref.go:183
          refine .rd (.move rfl) ?_
          refine .rd (.build rfl (bld80_0 _)) ?_
          refine .ef (.box rfl rfl (ones.of rfl)) ?_
          rintro _ _ ⟨b41, rfl, rfl⟩
          refine .rd (.assign rfl) ?_
          refine .nil ?_
          refine .seq ?_
          obtain ⟨q0, hq0⟩ : ∃ q : Rdr, q = (t, false) := ⟨_, rfl⟩
          have hF0 : Fol (!q0.2) q0.1 (pMany pI 0 t) [] := by rw [hq0]; exact .inl ⟨rfl, rfl⟩
          have hl0 : q0.1.length ≤ 4096 := by rw [hq0]; show t.length ≤ 4096; omega
          refine .cast (X' := blk b41 [.string (str q0.1), .bool q0.2] 80) (by rw [hq0]; rfl) ?_
          refine .region ?_   -- R12 ref.go:184
          refine .rd (.build rfl (bld27_)) ?_
          refine .ef (.alloc ti27 rfl (ones.of rfl)) ?_
          rintro _ _ ⟨b8, rfl, rfl⟩
          refine .ef0 (.storeAll (vs := [.int .i64 0, .int .i64 0, .int .i64 0, .int .i64 0, .int .i64 0, .slice none 0 0]) ts27 rfl rfl rfl .head rfl (ones.of rfl)) ?_
          rintro _ _ rfl
          refine .nil ?_
          refine .seq ?_
          refine .region ?_   -- R13 ref.go:185
          refine .rd (.move rfl) ?_
          refine .fn rfl rfl (.cons (.tail .head) .nil) (fun _ _ _ => trivial) (qdint_ok b41 q0 (by omega)) (fun v G1 hq => ?_)
          obtain ⟨rfl, rfl⟩ := hq
          simp only [List.cons_append, List.nil_append]
          have hi0 := qdI_i64 q0
          have hl1 := Nat.le_trans (qdI_len q0) hl0
          have hF1 : Fol _ _ (pMany pI 1 t) [(qdI q0).1] := hF0.qdI (f := fun xs x => xs ++ [x])
          generalize qdI q0 = z at hi0 hl1 hF1 ⊢
          obtain ⟨x0, q1⟩ := z
          dsimp only at hi0 hl1 hF1 ⊢
          refine .rd (.fieldAddr fd27_0 rfl) ?_
          refine .ef0 (.store ts3 rfl rfl (.tail .head) rfl (Nat.le_of_ble_eq_true rfl)) ?_
          rintro _ _ rfl
          refine .nil ?_
          refine .seq ?_
          refine .region ?_   -- R14 ref.go:186
          refine .rd (.move rfl) ?_
          refine .fn rfl rfl (.cons (.tail .head) .nil) (fun _ _ _ => trivial) (qdint_ok b41 q1 (by omega)) (fun v G1 hq => ?_)
          obtain ⟨rfl, rfl⟩ := hq
          simp only [List.cons_append, List.nil_append]
          have hi1 := qdI_i64 q1
          have hl2 := Nat.le_trans (qdI_len q1) hl1
          have hF2 : Fol _ _ (pMany pI 2 t) [x0, (qdI q1).1] := hF1.qdI (f := fun xs x => xs ++ [x])
          generalize qdI q1 = z at hi1 hl2 hF2 ⊢
          obtain ⟨x1, q2⟩ := z
          dsimp only at hi1 hl2 hF2 ⊢
          refine .rd (.fieldAddr fd27_1 rfl) ?_
          refine .ef0 (.store ts3 rfl rfl (.tail .head) rfl (Nat.le_of_ble_eq_true rfl)) ?_
          rintro _ _ rfl
          refine .nil ?_
          refine .seq ?_
          refine .region ?_   -- R15 ref.go:187
          refine .rd (.move rfl) ?_
          refine .fn rfl rfl (.cons (.tail .head) .nil) (fun _ _ _ => trivial) (qdint_ok b41 q2 (by omega)) (fun v G1 hq => ?_)
          obtain ⟨rfl, rfl⟩ := hq
          simp only [List.cons_append, List.nil_append]
          have hi2 := qdI_i64 q2
          have hl3 := Nat.le_trans (qdI_len q2) hl2
          have hF3 : Fol _ _ (pMany pI 3 t) [x0, x1, (qdI q2).1] := hF2.qdI (f := fun xs x => xs ++ [x])
          generalize qdI q2 = z at hi2 hl3 hF3 ⊢
          obtain ⟨x2, q3⟩ := z
          dsimp only at hi2 hl3 hF3 ⊢
          refine .rd (.fieldAddr fd27_2 rfl) ?_
          refine .ef0 (.store ts3 rfl rfl (.tail .head) rfl (Nat.le_of_ble_eq_true rfl)) ?_
          rintro _ _ rfl
          refine .nil ?_
          refine .seq ?_
          refine .region ?_   -- R16 ref.go:188
          refine .rd (.move rfl) ?_
          refine .fn rfl rfl (.cons (.tail .head) .nil) (fun _ _ _ => trivial) (qdint_ok b41 q3 (by omega)) (fun v G1 hq => ?_)
          obtain ⟨rfl, rfl⟩ := hq
          simp only [List.cons_append, List.nil_append]
          have hi3 := qdI_i64 q3
          have hl4 := Nat.le_trans (qdI_len q3) hl3
          have hF4 : Fol _ _ (pMany pI 4 t) [x0, x1, x2, (qdI q3).1] := hF3.qdI (f := fun xs x => xs ++ [x])
          generalize qdI q3 = z at hi3 hl4 hF4 ⊢
          obtain ⟨x3, q4⟩ := z
          dsimp only at hi3 hl4 hF4 ⊢
          refine .rd (.fieldAddr fd27_3 rfl) ?_
          refine .ef0 (.store ts3 rfl rfl (.tail .head) rfl (Nat.le_of_ble_eq_true rfl)) ?_
          rintro _ _ rfl
          refine .nil ?_
          refine .seq ?_
          refine .region ?_   -- R17 ref.go:189
          refine .rd (.move rfl) ?_
          refine .fn rfl rfl (.cons (.tail .head) .nil) (fun _ _ _ => trivial) (qdint_ok b41 q4 (by omega)) (fun v G1 hq => ?_)
          obtain ⟨rfl, rfl⟩ := hq
          simp only [List.cons_append, List.nil_append]
          have hi4 := qdI_i64 q4
          have hl5 := Nat.le_trans (qdI_len q4) hl4
          have hF5 : Fol _ _ (pMany pI 5 t) [x0, x1, x2, x3, (qdI q4).1] := hF4.qdI (f := fun xs x => xs ++ [x])
          generalize qdI q4 = z at hi4 hl5 hF5 ⊢
          obtain ⟨x4, q5⟩ := z
          dsimp only at hi4 hl5 hF5 ⊢
          refine .rd (.fieldAddr fd27_4 rfl) ?_
          refine .ef0 (.store ts3 rfl rfl (.tail .head) rfl (Nat.le_of_ble_eq_true rfl)) ?_
          rintro _ _ rfl
          refine .nil ?_
          refine .seq ?_
          refine .region ?_   -- R18 ref.go:190
          refine .rd (.move rfl) ?_
          refine .fn rfl rfl (.cons (.tail .head) .nil) (fun _ _ _ => trivial) (qdint_ok b41 q5 (by omega)) (fun v G1 hq => ?_)
          obtain ⟨rfl, rfl⟩ := hq
          simp only [List.cons_append, List.nil_append]
          have hi5 := qdI_i64 q5
          have hl6 := Nat.le_trans (qdI_len q5) hl5
          have hH : Fol _ _ (pHead t) ([x0, x1, x2, x3, x4], (qdI q5).1) := hF5.qdI (f := fun a b => (a, b))
          generalize qdI q5 = z at hi5 hl6 hH ⊢
          obtain ⟨n, q6⟩ := z
          dsimp only at hi5 hl6 hH ⊢
          refine .rd (.assign rfl) ?_
          refine .nil ?_
          refine .seq ?_
          refine .seq ?_
          refine .region ?_   -- R19 ref.go:191
          refine .rd (.move rfl) ?_
          refine .rd (.lt rfl rfl) ?_
          refine .rd (.move rfl) ?_
          refine .split (t := 62) rfl (fun g19 => ?_) (fun g19 => ?_)
          · replace g19 := of_decide_eq_true g19
            refine .off (t := 62) rfl rfl rfl ?_
            refine .off (t := 62) rfl rfl rfl ?_
            refine .rd (.pickT rfl rfl) ?_
            refine .nil ?_
            refine .condT rfl ?_
            refine .seq ?_
            refine .region ?_   -- R20 ref.go:192
            refine .rd (.build rfl (bld27_)) ?_
            refine .ef0 (.storeAll (vs := [.int .i64 0, .int .i64 0, .int .i64 0, .int .i64 0, .int .i64 0, .slice none 0 0]) ts27 rfl rfl rfl (.tail (.tail .head)) rfl (ones.of rfl)) ?_
            rintro _ _ rfl
            refine .rd (.assign rfl) ?_
            refine .rd (.assign rfl) ?_
            refine .nil ?_
            rw [readBatch_no (s := s) (by omega) (by omega) (by omega) ht hcs (pBatch_many hH (by omega))]
            refine .nilArr 65 3 none ?_
            refine .retP Try.func23 (.cons (.blkN ia27 ts27 rfl (.tail .head) rfl) (.cons (.tmp rfl) (.cons (.tmp rfl) .nil))) (.cons .head (.cons (.tail (.tail (.tail .head))) .nil)) ?_
            exact ⟨[_], ⟨none, 0, rfl, rfl⟩, rfl⟩
          · replace g19 := of_decide_eq_false g19
            refine .on (t := 62) rfl rfl ?_
            refine .rd (.move rfl) ?_
            refine .on (t := 62) rfl rfl ?_
            refine .rd (.gt rfl rfl) ?_
            refine .rd (.pickF rfl rfl) ?_
            refine .nil ?_
            refine .condP rfl (fun h19 => ?_) (fun h19 => ?_)
            · refine .seq ?_
              refine .region ?_   -- R20 ref.go:192
              refine .rd (.build rfl (bld27_)) ?_
              refine .ef0 (.storeAll (vs := [.int .i64 0, .int .i64 0, .int .i64 0, .int .i64 0, .int .i64 0, .slice none 0 0]) ts27 rfl rfl rfl (.tail (.tail .head)) rfl (ones.of rfl)) ?_
              rintro _ _ rfl
              refine .rd (.assign rfl) ?_
              refine .rd (.assign rfl) ?_
              refine .nil ?_
              rw [readBatch_no (s := s) (by omega) (by omega) (by omega) ht hcs (pBatch_many hH (by omega))]
              refine .nilArr 65 3 none ?_
              refine .retP Try.func23 (.cons (.blkN ia27 ts27 rfl (.tail .head) rfl) (.cons (.tmp rfl) (.cons (.tmp rfl) .nil))) (.cons .head (.cons (.tail (.tail (.tail .head))) .nil)) ?_
              exact ⟨[_], ⟨none, 0, rfl, rfl⟩, rfl⟩
            · refine .skip ?_
              refine .seq ?_
              refine .seq ?_
              have hxs : ∀ x ∈ [x0, x1, x2, x3, x4], i64 x := by
                intro x hx
                simp only [List.mem_cons, List.not_mem_nil, or_false] at hx
                rcases hx with rfl | rfl | rfl | rfl | rfl <;> assumption
              clear hF0 hF1 hF2 hF3 hF4 hF5 hl0 hl1 hl2 hl3 hl4 hl5
              refine .nilArr 65 3 none ?_
              refine .region ?_   -- R21 ref.go:194
              refine .rd (.assign rfl) ?_
              refine .nil ?_
              refine .block ?_
              refine .loop (σ := List Rec × Rdr × Option Addr × Nat) (fun ⟨rs, p, a', c'⟩ => (rs.length : Int) ≤ n ∧ (∀ r ∈ rs, i64 r.time ∧ r.key.length ≤ 1000 ∧ r.value.length ≤ 1000) ∧ p.1.length ≤ 4096 ∧ Fol (!p.2) p.1 (pPart rs.length t) (([x0, x1, x2, x3, x4], n), rs)) (fun ⟨rs, p, a', c'⟩ => 64 - rs.length) (fun ⟨rs, p, a', c'⟩ => [(2, .pointer (some ⟨b2, 0, none⟩)), (5, .int .i64 (four s : Int)), (7, .pointer (some ⟨b41, 0, none⟩)), (8, .pointer (some ⟨b8, 0, none⟩)), (9, .int .i64 n), (10, .int .i64 (rs.length : Int))]) (fun ⟨rs, p, a', c'⟩ => [blk b2 [.int .i64 0, .int .i64 0, .int .i64 0, .int .i64 0, .int .i64 0, .slice none 0 0] 27, blk b41 [.string (str p.1), .bool p.2] 80, blk b8 [.int .i64 x0, .int .i64 x1, .int .i64 x2, .int .i64 x3, .int .i64 x4, .slice a' rs.length c'] 27, arr 65 3 a' c' (rs.flatMap Rec.cells), R]) ([], q6, none, 0) ⟨by show ((0 : Nat) : Int) ≤ n; omega, by simp, hl6, pPart_zero hH⟩ (.cons rfl (.cons rfl (.cons rfl (.cons rfl (.cons rfl (.cons rfl .nil)))))) (.cons (.tail (.tail (.tail .head))) (.cons (.tail .head) (.cons (.tail .head) (.cons .head (.cons .head .nil))))) (fun s' hI ih => ?_)
              obtain ⟨rs, p, a', c'⟩ := s'
              dsimp only at hI ih ⊢
              have hm := hI.1
              have hpl := hI.2.2.1
              refine .seq ?_
              refine .seq ?_
              refine .region ?_   -- R22 ref.go:194
              refine .rd (.move rfl) ?_
              refine .rd (.move rfl) ?_
              refine .rd (.lt rfl rfl) ?_
              refine .nil ?_
              refine .condP rfl (fun h22 => ?_) (fun h22 => ?_)
              · refine .skip ?_
                refine .seq ?_
                refine .block ?_
                refine .seq ?_
                have hrl := qdI_len p
                have hrl2 := qdT_len 1000 (qdI p).2
                refine .region ?_   -- R24 ref.go:195
                refine .rd (.move rfl) ?_
                refine .fn rfl rfl (.cons (.tail .head) .nil) (fun _ _ _ => trivial) (qdint_ok b41 p (by omega)) (fun v G1 hq => ?_)
                obtain ⟨rfl, rfl⟩ := hq
                simp only [List.cons_append, List.nil_append]
                refine .rd (.build rfl (bld65_2 _)) ?_
                refine .ef (.alloc ti65 rfl (ones.of rfl)) ?_
                rintro _ _ ⟨b11, rfl, rfl⟩
                refine .ef0 (.storeAll ts65 rfl rfl rfl .head rfl (ones.of rfl)) ?_
                rintro _ _ rfl
                refine .nil ?_
                refine .seq ?_
                refine .region ?_   -- R25 ref.go:196
                refine .rd (.move rfl) ?_
                refine .fn rfl rfl (.cons (.tail .head) .nil) (fun _ _ _ => trivial) (qdtext_ok b41 (qdI p).2 1000 (by omega)) (fun v G1 hq => ?_)
                obtain ⟨rfl, rfl⟩ := hq
                simp only [List.cons_append, List.nil_append]
                refine .rd (.fieldAddr fd65_0 rfl) ?_
                refine .ef0 (.store ts9 rfl rfl (.tail .head) rfl (Nat.le_of_ble_eq_true rfl)) ?_
                rintro _ _ rfl
                refine .nil ?_
                refine .seq ?_
                refine .region ?_   -- R26 ref.go:197
                refine .rd (.move rfl) ?_
                refine .fn rfl rfl (.cons (.tail .head) .nil) (fun _ _ _ => trivial) (qdtext_ok b41 (qdT 1000 (qdI p).2).2 1000 (by omega)) (fun v G1 hq => ?_)
                obtain ⟨rfl, rfl⟩ := hq
                simp only [List.cons_append, List.nil_append]
                refine .rd (.fieldAddr fd65_1 rfl) ?_
                refine .ef0 (.store ts9 rfl rfl (.tail .head) rfl (Nat.le_of_ble_eq_true rfl)) ?_
                rintro _ _ rfl
                refine .nil ?_
                obtain ⟨tm, htm⟩ : ∃ tm, tm = (qdI p).1 := ⟨_, rfl⟩
                obtain ⟨k, hk⟩ : ∃ k, k = (qdT 1000 (qdI p).2).1 := ⟨_, rfl⟩
                obtain ⟨v, hv⟩ : ∃ v, v = (qdT 1000 (qdT 1000 (qdI p).2).2).1 := ⟨_, rfl⟩
                refine .cast (X' := blk b11 (Rec.cells ⟨k, v, tm⟩) 65) (by rw [htm, hk, hv]; rfl) ?_
                refine .region ?_   -- R27 ref.go:198
                refine .rd (.fieldAddr fd27_5 rfl) ?_
                refine .rd (.ld na25 rfl (.tail (.tail (.tail .head))) rfl) ?_
                refine .rd (.ldN ia65 ts65 rfl .head rfl) ?_
                refine .ef (.buildOne (cs := Rec.cells ⟨k, v, tm⟩) Try.underlying25 ti65 (by decide) rfl rfl rfl (ones.of rfl)) ?_
                rintro _ _ ⟨bs, rfl, rfl⟩
                refine .ef (.append rfl rfl Try.underlying25 ti65 rfl (ones.of rfl) (by decide) (by decide) rfl rfl (.tail (.tail (.tail (.tail (.tail .head))))) (n := rs.length) (m := 1) (by rw [flat_length Rec.cells_len]) (.srcBlk (ys := Rec.cells ⟨k, v, tm⟩) .head Try.underlying25 rfl (by decide)) (by omega)) ?_
                rintro _ _ ⟨ra, rc, rfl, rn, rfl⟩
                refine .rd (.fieldAddr fd27_5 rfl) ?_
                refine .ef0 (.store ts25 rfl rfl (.tail (.tail (.tail (.tail (.tail .head))))) rfl (Nat.le_of_ble_eq_true rfl)) ?_
                rintro _ _ rfl
                refine .nil ?_
                refine .perm (.cons (.tail .head) (.cons .head (.cons .head (.cons .head (.cons .head (.cons .head (.cons .head .nil))))))) ?_
                refine .cast (X' := arr 65 3 ra rc ((rs ++ [(⟨k, v, tm⟩ : Rec)]).flatMap Rec.cells)) (by rw [List.flatMap_append]; simp) ?_
                refine .perm (.cons (.tail .head) (.cons .head (.cons .head (.cons .head (.cons .head (.cons .head (.cons .head .nil))))))) ?_
                refine .cast (X' := blk b8 [.int .i64 x0, .int .i64 x1, .int .i64 x2, .int .i64 x3, .int .i64 x4, .slice ra (rs ++ [(⟨k, v, tm⟩ : Rec)]).length rc] 27) (by rw [List.length_append]; rfl) ?_
                refine .inBlock ?_
                refine .region ?_   -- R23 ref.go:194
                refine .rd (.move rfl) ?_
                refine .rd (.add rfl rfl (by omega) (by omega)) ?_
                refine .rd (.assign rfl) ?_
                refine .nil ?_
                have hf0 := ((hI.2.2.2.qdI (f := fun a b => (a, b))).qdT 1000 (f := fun a b => (a, b))).qdT 1000 (f := fun a b => (a, b))
                rw [← htm, ← hk, ← hv] at hf0
                have hpp := pPart_next (r := ⟨k, v, tm⟩) hf0
                exact (ih (rs ++ [(⟨k, v, tm⟩ : Rec)], (qdT 1000 (qdT 1000 (qdI p).2).2).2, ra, rc) ⟨by show (((rs ++ [_]).length : Nat) : Int) ≤ n; rw [List.length_append]; show ((rs.length + 1 : Nat) : Int) ≤ n; omega, all_snoc hI.2.1 ⟨by show i64 tm; rw [htm]; exact qdI_i64 _, by have := qdT_most (m := 1000) (qdI p).2 (by decide); show k.length ≤ 1000; rw [hk]; omega, by have := qdT_most (m := 1000) (qdT 1000 (qdI p).2).2 (by decide); show v.length ≤ 1000; rw [hv]; omega⟩, Nat.le_trans (qdT_len _ _) (Nat.le_trans (qdT_len _ _) (Nat.le_trans (qdI_len p) hI.2.2.1)), by rw [List.length_append]; exact hpp⟩ (by show 64 - (rs ++ [_]).length < _; rw [List.length_append]; show 64 - (rs.length + 1) < 64 - rs.length; omega)).to (.cons rfl (.cons rfl (.cons rfl (.cons rfl (.cons rfl (.cons (by show _ = some (Value.int .i64 ((rs ++ [(⟨k, v, tm⟩ : Rec)]).length : Int)); rw [List.length_append]; rfl) .nil)))))) (.cons (.tail (.tail (.tail (.tail (.tail .head))))) (.cons (.tail (.tail (.tail (.tail .head)))) (.cons .head (.cons .head (.cons (.tail (.tail .head)) .nil)))))
              · have hfb : (bat [x0, x1, x2, x3, x4] rs).fits := bat_fits rfl hxs hI.2.1 (by omega)
                have hrn : (rs.length : Int) = n := by omega
                refine .exit rfl ?_
                refine .seq ?_
                refine .region ?_   -- R28 ref.go:200
                refine .rd (.ldN ia27 ts27 rfl (.tail (.tail .head)) rfl) ?_
                refine .fn rfl rfl .nil (Knows.arr (.tail (.tail (.tail .head)))) (rRight_ok (bat [x0, x1, x2, x3, x4] rs) a' c' hfb) (fun v G1 hq => ?_)
                obtain ⟨rfl, rfl⟩ := hq
                simp only [List.nil_append]
                refine .rd (.assign rfl) ?_
                refine .nil ?_
                refine .seq ?_
                refine .seq ?_
                refine .region ?_   -- R29 ref.go:201
                refine RunO.join 15 103 (!decide ((!p.2) = true ∧ p.1 = [] ∧ right (bat [x0, x1, x2, x3, x4] rs) = 0)) ?_ ?_
                · refine .rd (.move rfl) ?_
                  refine .rd (.nilCheck rfl) ?_
                  refine .rd (.fieldAddr fd80_1 rfl) ?_
                  refine .rd (.ld na4 rfl (.tail .head) rfl) ?_
                  refine .rd (.move rfl) ?_
                  refine .split (t := 93) rfl (fun g29_4 => ?_) (fun g29_4 => ?_)
                  · refine .off (t := 93) rfl rfl rfl ?_
                    refine .off (t := 93) rfl rfl rfl ?_
                    refine .off (t := 93) rfl rfl rfl ?_
                    refine .off (t := 93) rfl rfl rfl ?_
                    refine .off (t := 93) rfl rfl rfl ?_
                    refine .rd (.pickT rfl rfl) ?_
                    refine .rd (.move rfl) ?_
                    refine .off (t := 100) rfl rfl rfl ?_
                    refine .off (t := 100) rfl rfl rfl ?_
                    refine .rd (.pickT rfl rfl) ?_
                    refine .nil ⟨rfl, ?_, by repeat (first | exact Le.refl _ | refine Le.skip rfl ?_)⟩
                    exact congrArg (fun x => some (Value.bool x)) (by simp [g29_4])
                  · refine .on (t := 93) rfl rfl ?_
                    refine .rd (.move rfl) ?_
                    refine .on (t := 93) rfl rfl ?_
                    refine .rd (.nilCheck rfl) ?_
                    refine .on (t := 93) rfl rfl ?_
                    refine .rd (.fieldAddr fd80_0 rfl) ?_
                    refine .on (t := 93) rfl rfl ?_
                    refine .rd (.ld na9 rfl (.tail .head) rfl) ?_
                    refine .on (t := 93) rfl rfl ?_
                    refine .rd (.neT rfl rfl) ?_
                    refine .rd (.pickF rfl rfl) ?_
                    refine .rd (.move rfl) ?_
                    refine .split (t := 100) rfl (fun g29_11 => ?_) (fun g29_11 => ?_)
                    · simp at g29_11
                      refine .off (t := 100) rfl rfl rfl ?_
                      refine .off (t := 100) rfl rfl rfl ?_
                      refine .rd (.pickT rfl rfl) ?_
                      refine .nil ⟨rfl, ?_, by repeat (first | exact Le.refl _ | refine Le.skip rfl ?_)⟩
                      exact congrArg (fun x => some (Value.bool x)) (by simp [g29_11])
                    · simp at g29_11
                      refine .on (t := 100) rfl rfl ?_
                      refine .rd (.move rfl) ?_
                      refine .on (t := 100) rfl rfl ?_
                      refine .rd (.neI rfl rfl) ?_
                      refine .rd (.pickF rfl rfl) ?_
                      refine .nil ⟨rfl, ?_, by repeat (first | exact Le.refl _ | refine Le.skip rfl ?_)⟩
                      exact congrArg (fun x => some (Value.bool x)) (by simp [g29_4, g29_11])
                refine .nil ?_
                refine .condN rfl (fun h29 => ?_) (fun h29 => ?_)
                · have hno : pBatch t = none := pBatch_no hI.2.2.2 h29 (fun _ _ _ => hrn) (fun _ _ _ => by omega) (fun hg => hH.head hI.2.2.2)
                  refine .seq ?_
                  refine .region ?_   -- R30 ref.go:202
                  refine .rd (.build rfl (bld27_)) ?_
                  refine .ef0 (.storeAll (vs := [.int .i64 0, .int .i64 0, .int .i64 0, .int .i64 0, .int .i64 0, .slice none 0 0]) ts27 rfl rfl rfl .head rfl (ones.of rfl)) ?_
                  rintro _ _ rfl
                  refine .rd (.assign rfl) ?_
                  refine .rd (.assign rfl) ?_
                  refine .nil ?_
                  rw [readBatch_no (s := s) (by omega) (by omega) (by omega) ht hcs hno]
                  refine .nilArr 65 3 none ?_
                  refine .retP Try.func23 (.cons (.blkN ia27 ts27 rfl (.tail .head) rfl) (.cons (.tmp rfl) (.cons (.tmp rfl) .nil))) (.cons .head (.cons (.tail (.tail (.tail (.tail .head)))) .nil)) ?_
                  exact ⟨[_], ⟨none, 0, rfl, rfl⟩, rfl⟩
                · have hyes : pBatch t = some (bat [x0, x1, x2, x3, x4] rs) := pBatch_yes hI.2.2.2 hrn h29.1 h29.2.1 h29.2.2 (by omega)
                  refine .skip ?_
                  refine .seq ?_
                  refine .region ?_   -- R31 ref.go:204
                  refine .rd (.ldN ia27 ts27 rfl (.tail (.tail .head)) rfl) ?_
                  refine .rd (.move rfl) ?_
                  refine .rd (.add rfl rfl (by omega) (by omega)) ?_
                  refine .ef0 (.storeAll (vs := Bat.cells (bat [x0, x1, x2, x3, x4] rs) a' c') ts27 rfl rfl rfl .head rfl (ones.of rfl)) ?_
                  rintro _ _ rfl
                  refine .rd (.assign rfl) ?_
                  refine .rd (.assign rfl) ?_
                  refine .nil ?_
                  rw [readBatch_yes (s := s) (by omega) (by omega) (by omega) ht hcs hyes]
                  refine .retP Try.func23 (.cons (.blkN ia27 ts27 rfl .head rfl) (.cons (.tmp rfl) (.cons (.tmp rfl) .nil))) (.cons (.tail (.tail (.tail .head))) (.cons (.tail (.tail (.tail .head))) .nil)) ?_
                  exact ⟨[_], ⟨a', c', rfl, rfl⟩, rfl⟩

end Go.Proofs.Ytllpkagplfmlbaa

