/- Steps through functions of the program, under conditions that each theorem states (part wire18 of a claim). -/
import Derived.Test.YtllpkagplfmlbaaProg
import Derived.Test.YtllpkagplfmlbaaDefs3k
import Derived.Test.YtllpkagplfmlbaaWire7
import Derived.Test.YtllpkagplfmlbaaWire13
namespace Go.Proofs.Ytllpkagplfmlbaa
open Go Go.Sp

set_option linter.unusedVariables false

namespace wire18
theorem ti39 : TI Try.prog 39 8 96 (.agg #[.int .i64 0, .int .i64 0, .int .i64 0, .int .i64 0, .int .i64 0, .string ⟨#[]⟩, .string ⟨#[]⟩, .slice none 0 0]) := .of (by kernel_rfl)
theorem bld39_  (w : World) : (Instr.build 39 (([] : List Nat).zip []).toArray).run Try.prog w = .ok (.agg #[.int .i64 0, .int .i64 0, .int .i64 0, .int .i64 0, .int .i64 0, .string ⟨#[]⟩, .string ⟨#[]⟩, .slice none 0 0]) w := by kernel_rfl
theorem ts39 : TS Try.prog 39 8 := .of (by kernel_rfl)
theorem ia39 : IsAgg Try.prog 39 := ⟨_, Try.underlying39, trivial⟩
theorem bld72_0_1 (x0 : ByteArray) (x1 : Bool) (w : World) : (Instr.build 72 (([0, 1] : List Nat).zip [.string x0, .bool x1]).toArray).run Try.prog w = .ok (.agg #[.string x0, .bool x1]) w := by kernel_rfl
theorem fd39_0 : FD Try.prog 39 0 0 := .of Try.underlying39 (by kernel_rfl)
theorem fd39_1 : FD Try.prog 39 1 1 := .of Try.underlying39 (by kernel_rfl)
theorem fd39_2 : FD Try.prog 39 2 2 := .of Try.underlying39 (by kernel_rfl)
theorem fd39_3 : FD Try.prog 39 3 3 := .of Try.underlying39 (by kernel_rfl)
theorem fd39_4 : FD Try.prog 39 4 4 := .of Try.underlying39 (by kernel_rfl)
theorem bld74_0_1_2_3_4 (x0 : Option Addr) (x1 : Option Addr) (x2 : Option Addr) (x3 : Option Addr) (x4 : Option Addr) (w : World) : (Instr.build 74 (([0, 1, 2, 3, 4] : List Nat).zip [.pointer x0, .pointer x1, .pointer x2, .pointer x3, .pointer x4]).toArray).run Try.prog w = .ok (.agg #[.pointer x0, .pointer x1, .pointer x2, .pointer x3, .pointer x4]) w := by kernel_rfl
theorem na73 : NotAgg Try.prog 73 := ⟨_, Try.underlying73, trivial⟩
theorem ts73 : TS Try.prog 73 1 := .of (by kernel_rfl)
theorem ts3 : TS Try.prog 3 1 := .of (by kernel_rfl)
theorem fd39_5 : FD Try.prog 39 5 5 := .of Try.underlying39 (by kernel_rfl)
theorem ts9 : TS Try.prog 9 1 := .of (by kernel_rfl)
theorem fd39_6 : FD Try.prog 39 6 6 := .of Try.underlying39 (by kernel_rfl)
theorem fd72_1 : FD Try.prog 72 1 1 := .of Try.underlying72 (by kernel_rfl)
theorem ts4 : TS Try.prog 4 1 := .of (by kernel_rfl)
theorem na4 : NotAgg Try.prog 4 := ⟨_, Try.underlying4, trivial⟩
theorem fd39_7 : FD Try.prog 39 7 7 := .of Try.underlying39 (by kernel_rfl)
theorem na37 : NotAgg Try.prog 37 := ⟨_, Try.underlying37, trivial⟩
theorem ti3 : TI Try.prog 3 1 8 (.int .i64 0) := .of (by kernel_rfl)
theorem ts37 : TS Try.prog 37 1 := .of (by kernel_rfl)
theorem fd72_0 : FD Try.prog 72 0 0 := .of Try.underlying72 (by kernel_rfl)
theorem na9 : NotAgg Try.prog 9 := ⟨_, Try.underlying9, trivial⟩
end wire18
open wire18

theorem b_and {q : Prop} [Decidable q] {b : Bool} (h : q) : b = decide (q ∧ b = true) := by simp [h]

set_option maxHeartbeats 1000000 in
set_option maxRecDepth 20000 in
theorem ReadMeta_ok (s : List UInt8) (hl : s.length ≤ 9000000000000000000) : Cn Try.prog 24 [.string (str s)] (fun _ => True) [] fun v G => ∃ a' c', v = .tuple #[.agg ((readMeta s).1.cells a' c').toArray, .int .i64 (readMeta s).2] ∧ G = [arr 3 1 a' c' ((readMeta s).1.list.flatMap icell)] := by
  refine .enter Try.func24 rfl (by kernel_rfl) rfl fun R k => ?_
  refine .seq ?_
  refine .region ?_   -- R0 wire.go:193
  refine .ef (.alloc ti39 rfl (ones.of rfl)) ?_
  rintro _ _ ⟨b2, rfl, rfl⟩
  refine .rd (.assign rfl) ?_
  refine .nil ?_
  refine .seq ?_
  refine .block ?_
  refine .seq ?_
  refine .region ?_   -- R1 wire.go:195
  refine .rd (.move rfl) ?_
  refine .rd (.lenT rfl rfl Try.underlying9 rfl) ?_
  refine .rd (.lt rfl rfl) ?_
  refine .rd (.assign rfl) ?_
  refine .nil ?_
  refine .condP rfl (fun h1 => ?_) (fun h1 => ?_)
  · refine .seq ?_
    refine .region ?_   -- R2 wire.go:196
    refine .rd (.build rfl (bld39_)) ?_
    refine .ef0 (.storeAll (vs := [.int .i64 0, .int .i64 0, .int .i64 0, .int .i64 0, .int .i64 0, .string ⟨#[]⟩, .string ⟨#[]⟩, .slice none 0 0]) ts39 rfl rfl rfl .head rfl (ones.of rfl)) ?_
    rintro _ _ rfl
    refine .rd (.assign rfl) ?_
    refine .nil ?_
    rw [readMeta_short (s := s) (by omega)]
    refine .nilArr 3 1 none ?_
    refine .retP Try.func24 (.cons (.blkN ia39 ts39 rfl (.tail .head) rfl) (.cons (.tmp rfl) .nil)) (.cons .head (.cons (.tail .head) .nil)) ?_
    exact ⟨[_], ⟨none, 0, rfl, rfl⟩, rfl⟩
  · refine .seq ?_
    refine .region ?_   -- R3 wire.go:197
    refine .rd (.move rfl) ?_
    refine .rd (.lenT rfl rfl Try.underlying9 rfl) ?_
    refine .rd (.gt rfl rfl) ?_
    refine .rd (.assign rfl) ?_
    refine .nil ?_
    refine .condP rfl (fun h3 => ?_) (fun h3 => ?_)
    · refine .seq ?_
      refine .region ?_   -- R4 wire.go:198
      refine .rd (.build rfl (bld39_)) ?_
      refine .ef0 (.storeAll (vs := [.int .i64 0, .int .i64 0, .int .i64 0, .int .i64 0, .int .i64 0, .string ⟨#[]⟩, .string ⟨#[]⟩, .slice none 0 0]) ts39 rfl rfl rfl .head rfl (ones.of rfl)) ?_
      rintro _ _ rfl
      refine .rd (.assign rfl) ?_
      refine .nil ?_
      rw [readMeta_long (s := s) (by omega) (by omega)]
      refine .nilArr 3 1 none ?_
      refine .retP Try.func24 (.cons (.blkN ia39 ts39 rfl (.tail .head) rfl) (.cons (.tmp rfl) .nil)) (.cons .head (.cons (.tail .head) .nil)) ?_
      exact ⟨[_], ⟨none, 0, rfl, rfl⟩, rfl⟩
    · refine .seq ?_
      have h4l := four_lt s
      obtain ⟨t, ht⟩ : ∃ t, t = s.drop 4 := ⟨_, rfl⟩
      have htl : t.length ≤ 2044 := by rw [ht, List.length_drop]; omega
      refine .region ?_   -- R5 wire.go:199
      refine .rd (.move rfl) ?_
      refine .rd (.sliceT (l := s) (a := 4) (h := s.length) Try.underlying9 rfl ⟨_, rfl⟩ rfl (by omega) (by omega)) ?_
      refine .alter (t := 21) (v' := .string (str t)) rfl (by rw [ht, List.take_of_length_le (by rw [List.length_drop]; omega)]) ?_
      refine .fn rfl rfl .nil (fun _ _ _ => trivial) (Crc_ok t (by omega)) (fun v G1 hq => ?_)
      obtain ⟨rfl, rfl⟩ := hq
      simp only [List.nil_append]
      refine .rd (.move rfl) ?_
      refine .fn rfl rfl .nil (fun _ _ _ => trivial) (four_ok s (by omega)) (fun v G1 hq => ?_)
      obtain ⟨rfl, rfl⟩ := hq
      simp only [List.nil_append]
      refine .rd (.neI rfl rfl) ?_
      refine .rd (.assign rfl) ?_
      refine .nil ?_
      refine .condN rfl (fun h5 => ?_) (fun h5 => ?_)
      · refine .seq ?_
        refine .region ?_   -- R6 wire.go:200
        refine .rd (.build rfl (bld39_)) ?_
        refine .ef0 (.storeAll (vs := [.int .i64 0, .int .i64 0, .int .i64 0, .int .i64 0, .int .i64 0, .string ⟨#[]⟩, .string ⟨#[]⟩, .slice none 0 0]) ts39 rfl rfl rfl .head rfl (ones.of rfl)) ?_
        rintro _ _ rfl
        refine .rd (.assign rfl) ?_
        refine .nil ?_
        rw [readMeta_sum (s := s) (by omega) (by omega) (by rw [← ht]; omega)]
        refine .nilArr 3 1 none ?_
        refine .retP Try.func24 (.cons (.blkN ia39 ts39 rfl (.tail .head) rfl) (.cons (.tmp rfl) .nil)) (.cons .head (.cons (.tail .head) .nil)) ?_
        exact ⟨[_], ⟨none, 0, rfl, rfl⟩, rfl⟩
      · have hcs : (crc t).toNat = four s := by omega
        refine .skip ?_
        refine .inBlock ?_
        refine .seq ?_
        refine .region ?_   -- R7 wire.go:202
        refine .rd (.move rfl) ?_
        refine .rd (.sliceT (l := s) (a := 4) (h := s.length) Try.underlying9 rfl ⟨_, rfl⟩ rfl (by omega) (by omega)) ?_
        refine .alter (t := 28) (v' := .string (str t)) rfl (by rw [ht, List.take_of_length_le (by rw [List.length_drop]; omega)]) ?_
        refine .rd (.build rfl (bld72_0_1 _ _)) ?_
        refine .ef (.box rfl rfl (ones.of rfl)) ?_
        rintro _ _ ⟨b30, rfl, rfl⟩
        refine .rd (.assign rfl) ?_
        refine .nil ?_
        refine .seq ?_
        refine .region ?_   -- R8 wire.go:203
        refine .ef (.alloc ti39 rfl (ones.of rfl)) ?_
        rintro _ _ ⟨b5, rfl, rfl⟩
        refine .nil ?_
        refine .seq ?_
        refine .seq ?_
        refine .region ?_   -- R9 wire.go:204
        refine .rd (.fieldAddr fd39_0 rfl) ?_
        refine .rd (.fieldAddr fd39_1 rfl) ?_
        refine .rd (.fieldAddr fd39_2 rfl) ?_
        refine .rd (.fieldAddr fd39_3 rfl) ?_
        refine .rd (.fieldAddr fd39_4 rfl) ?_
        refine .rd (.build rfl (bld74_0_1_2_3_4 _ _ _ _ _)) ?_
        refine .rd (.move rfl) ?_
        refine .nil ?_
        refine .block ?_
        refine .loop (σ := List Int × Rdr) (fun ⟨xs, p⟩ => xs.length ≤ 5 ∧ (∀ x ∈ xs, i64 x) ∧ p.1.length ≤ 4096 ∧ Fol p.2 p.1 (pMany pI xs.length t) xs) (fun ⟨xs, p⟩ => 5 - xs.length) (fun ⟨xs, p⟩ => [(2, .pointer (some ⟨b2, 0, none⟩)), (4, .pointer (some ⟨b30, 0, none⟩)), (5, .pointer (some ⟨b5, 0, none⟩)), (36, .agg #[.pointer (some ⟨b5, 0, none⟩), .pointer (some ⟨b5, 1, none⟩), .pointer (some ⟨b5, 2, none⟩), .pointer (some ⟨b5, 3, none⟩), .pointer (some ⟨b5, 4, none⟩)]), (37, .int .i64 (xs.length : Int))]) (fun ⟨xs, p⟩ => [blk b2 [.int .i64 0, .int .i64 0, .int .i64 0, .int .i64 0, .int .i64 0, .string ⟨#[]⟩, .string ⟨#[]⟩, .slice none 0 0] 39, blk b30 [.string (str p.1), .bool p.2] 72, blk b5 (vec xs ++ [.string ⟨#[]⟩, .string ⟨#[]⟩, .slice none 0 0]) 39, R]) ([], t, true) ⟨Nat.zero_le _, by simp, by show t.length ≤ 4096; omega, .inl ⟨rfl, rfl⟩⟩ (.cons rfl (.cons rfl (.cons rfl (.cons rfl (.cons rfl .nil))))) (.cons (.tail (.tail .head)) (.cons (.tail .head) (.cons .head (.cons .head .nil)))) (fun s' hI ih => ?_)
        obtain ⟨xs, p⟩ := s'
        dsimp only at hI ih ⊢
        have h5 := hI.1
        have hpl := hI.2.2.1
        refine .seq ?_
        refine .region ?_   -- R10 wire.go:204
        refine .rd (.lt rfl rfl) ?_
        refine .nil ?_
        refine .seq ?_
        refine .condP rfl (fun h10 => ?_) (fun h10 => ?_)
        · refine .skip ?_
          refine .seq ?_
          refine .block ?_
          refine .seq ?_
          refine .region ?_   -- R11 wire.go:204
          refine .rd (.indexA1 Try.underlying74 na73 ts73 rfl rfl (by omega) (by omega) (by rw [Int.toNat_natCast, Nat.mul_one]; exact ptr_at b5 (by omega))) ?_
          refine .rd (.assign rfl) ?_
          refine .nil ?_
          refine .region ?_   -- R12 wire.go:205
          refine .rd (.move rfl) ?_
          refine .rd (.move rfl) ?_
          refine .fn rfl rfl (.cons (.tail .head) .nil) (fun _ _ _ => trivial) (rdint_ok b30 p (by omega)) (fun v G1 hq => ?_)
          obtain ⟨rfl, rfl⟩ := hq
          simp only [List.cons_append, List.nil_append]
          refine .rd (.nilCheck rfl) ?_
          refine .ef0 (.store ts3 rfl rfl (.tail (.tail .head)) rfl (by rw [List.length_append, vec_len h5]; show xs.length + 1 ≤ 5 + 3; omega)) ?_
          rintro _ _ rfl
          refine .cast (X' := blk b5 (vec (xs ++ [(rdI p).1]) ++ [.string ⟨#[]⟩, .string ⟨#[]⟩, .slice none 0 0]) 39) (by rw [vec_set (by omega)]) ?_
          refine .nil ?_
          refine .inBlock ?_
          refine .region ?_   -- R13 wire.go:204
          refine .rd (.add rfl rfl (by omega) (by omega)) ?_
          refine .rd (.move rfl) ?_
          refine .nil ?_
          exact (ih (xs ++ [(rdI p).1], (rdI p).2) ⟨by show (xs ++ [_]).length ≤ 5; rw [List.length_append]; show xs.length + 1 ≤ 5; omega, all_snoc hI.2.1 (rint_i64 _), Nat.le_trans (rdI_len p) hI.2.2.1, pMany_next (hI.2.2.2.rdI (f := fun xs x => xs ++ [x]))⟩ (by show 5 - (xs ++ [_]).length < 5 - xs.length; rw [List.length_append]; show 5 - (xs.length + 1) < _; omega)).to (.cons rfl (.cons rfl (.cons rfl (.cons rfl (.cons (by show _ = some (Value.int .i64 ((xs ++ [(rdI p).1]).length : Int)); rw [List.length_append]; rfl) .nil))))) (.cons (.tail (.tail .head)) (.cons (.tail .head) (.cons .head (.cons .head .nil))))
        · obtain ⟨x0, x1, x2, x3, x4, rfl⟩ := five_of (show xs.length = 5 by omega)
          obtain ⟨_, hxs, hpl', hFol⟩ := hI
          clear ih h5 hpl
          have hpl := hpl'
          refine .perm (.cons (.tail (.tail .head)) (.cons .head (.cons .head (.cons .head .nil)))) ?_
          refine .cast (X' := blk b5 [.int .i64 x0, .int .i64 x1, .int .i64 x2, .int .i64 x3, .int .i64 x4, .string ⟨#[]⟩, .string ⟨#[]⟩, .slice none 0 0] 39) (rfl) ?_
          refine .exit rfl ?_
          refine .seq ?_
          refine .region ?_   -- R14 wire.go:207
          refine .rd (.move rfl) ?_
          refine .fn rfl rfl (.cons (.tail (.tail .head)) .nil) (fun _ _ _ => trivial) (rdtext_ok b30 p 32 (by omega)) (fun v G1 hq => ?_)
          obtain ⟨rfl, rfl⟩ := hq
          simp only [List.cons_append, List.nil_append]
          have hF1 := hFol.rdT 32 (f := fun a b => (a, b))
          have hq1 := Nat.le_trans (rdT_len 32 p) hpl
          have hm1 := rdT_most (m := 32) p (by decide)
          generalize rdT 32 p = z at hF1 hq1 hm1 ⊢
          obtain ⟨nm, q1⟩ := z
          dsimp only at hF1 hq1 hm1 ⊢
          refine .rd (.fieldAddr fd39_5 rfl) ?_
          refine .ef0 (.store ts9 rfl rfl (.tail .head) rfl (Nat.le_of_ble_eq_true rfl)) ?_
          rintro _ _ rfl
          refine .nil ?_
          refine .seq ?_
          refine .region ?_   -- R15 wire.go:208
          refine .rd (.move rfl) ?_
          refine .fn rfl rfl (.cons (.tail .head) .nil) (fun _ _ _ => trivial) (rdtext_ok b30 q1 1000 (by omega)) (fun v G1 hq => ?_)
          obtain ⟨rfl, rfl⟩ := hq
          simp only [List.cons_append, List.nil_append]
          have hF2 := hF1.rdT 1000 (f := fun a b => (a, b))
          have hq2 := Nat.le_trans (rdT_len 1000 q1) hq1
          have hm2 := rdT_most (m := 1000) q1 (by decide)
          generalize rdT 1000 q1 = z at hF2 hq2 hm2 ⊢
          obtain ⟨tx, q2⟩ := z
          dsimp only at hF2 hq2 hm2 ⊢
          refine .rd (.fieldAddr fd39_6 rfl) ?_
          refine .ef0 (.store ts9 rfl rfl (.tail .head) rfl (Nat.le_of_ble_eq_true rfl)) ?_
          rintro _ _ rfl
          refine .nil ?_
          refine .seq ?_
          refine .region ?_   -- R16 wire.go:209
          refine .rd (.move rfl) ?_
          refine .fn rfl rfl (.cons (.tail .head) .nil) (fun _ _ _ => trivial) (rdint_ok b30 q2 (by omega)) (fun v G1 hq => ?_)
          obtain ⟨rfl, rfl⟩ := hq
          simp only [List.cons_append, List.nil_append]
          refine .rd (.assign rfl) ?_
          refine .nil ?_
          have hH : Fol _ _ (pMHead t) ((([x0, x1, x2, x3, x4], nm), tx), (rdI q2).1) := hF2.rdI (f := fun a b => (a, b))
          have hni := rint_i64 q2.1
          have hq3 := Nat.le_trans (rdI_len q2) hq2
          obtain ⟨n, hn⟩ : ∃ n, n = (rdI q2).1 := ⟨_, rfl⟩
          obtain ⟨q, hq⟩ : ∃ q, q = (rdI q2).2 := ⟨_, rfl⟩
          rw [← hn, ← hq] at hH
          rw [← hq] at hq3
          have hni' : i64 n := by rw [hn]; exact hni
          obtain ⟨hn1, hn2⟩ := hni'
          rw [← hq]
          refine .alter (t := 8) (v' := .int .i64 (n - (([] : List Int).length : Int))) rfl (by rw [hn]; simp) ?_
          clear hni hn hq hFol hF1 hF2
          refine .nilArr 3 1 none ?_
          refine .seq ?_
          refine .seq ?_
          refine .region ?_   -- R17 wire.go:210
          refine .rd (.move rfl) ?_
          refine .fn rfl rfl .nil (fun _ _ _ => trivial) (within_ok _ _) (fun v G1 hq => ?_)
          obtain ⟨rfl, rfl⟩ := hq
          simp only [List.nil_append]
          refine .rd (.not rfl) ?_
          refine .nil ?_
          refine .condN rfl (fun h17 => ?_) (fun h17 => ?_)
          · have h17' : ¬ (0 ≤ n ∧ n ≤ 64) := fun h => h17 (by simpa using h)
            refine .region ?_   -- R18 wire.go:211
            refine .rd (.move rfl) ?_
            refine .rd (.nilCheck rfl) ?_
            refine .rd (.fieldAddr fd72_1 rfl) ?_
            refine .ef0 (.store ts4 rfl rfl (.tail .head) rfl (Nat.le_of_ble_eq_true rfl)) ?_
            rintro _ _ rfl
            refine .nil ?_
            refine .cast (X' := blk b30 [.string (str (q.1, false).1), .bool (q.1, false).2] 72) (rfl) ?_
            refine .seq ?_
            refine .block ?_
            refine .loop (σ := List Int × Rdr × Option Addr × Nat) (fun ⟨rs, p, a', c'⟩ => (rs = [] ∨ (rs.length : Int) ≤ n) ∧ (∀ x ∈ rs, i64 x) ∧ p.1.length ≤ 4096 ∧ ((p.2 = false ∧ pMeta t = none) ∨ ((0 ≤ n ∧ n ≤ 64) ∧ Fol p.2 p.1 (pMPart rs.length t) (((([x0, x1, x2, x3, x4], nm), tx), n), rs)))) (fun ⟨rs, p, a', c'⟩ => 64 - rs.length) (fun ⟨rs, p, a', c'⟩ => [(2, .pointer (some ⟨b2, 0, none⟩)), (4, .pointer (some ⟨b30, 0, none⟩)), (5, .pointer (some ⟨b5, 0, none⟩)), (8, .int .i64 (n - (rs.length : Int)))]) (fun ⟨rs, p, a', c'⟩ => [blk b2 [.int .i64 0, .int .i64 0, .int .i64 0, .int .i64 0, .int .i64 0, .string ⟨#[]⟩, .string ⟨#[]⟩, .slice none 0 0] 39, blk b30 [.string (str p.1), .bool p.2] 72, blk b5 [.int .i64 x0, .int .i64 x1, .int .i64 x2, .int .i64 x3, .int .i64 x4, .string (str nm), .string (str tx), .slice a' rs.length c'] 39, arr 3 1 a' c' (rs.flatMap icell), R]) ([], (q.1, false), none, 0) ⟨.inl rfl, by simp, hq3, .inl ⟨rfl, pMeta_range hH h17'⟩⟩ (.cons rfl (.cons rfl (.cons rfl (.cons rfl .nil)))) (.cons (.tail (.tail (.tail .head))) (.cons .head (.cons (.tail .head) (.cons .head (.cons .head .nil))))) (fun s' hI ih => ?_)
            obtain ⟨rs, p, a', c'⟩ := s'
            dsimp only at hI ih ⊢
            have hpl := hI.2.2.1
            refine .seq ?_
            refine .seq ?_
            refine .region ?_   -- R19 wire.go:213
            refine RunO.join 8 66 (decide (0 < n - (rs.length : Int) ∧ p.2 = true)) ?_ ?_
            · refine .rd (.move rfl) ?_
              refine .rd (.gt rfl rfl) ?_
              refine .rd (.move rfl) ?_
              refine .split (t := 61) rfl (fun g19_2 => ?_) (fun g19_2 => ?_)
              · replace g19_2 := of_decide_eq_true g19_2
                refine .on (t := 61) rfl rfl ?_
                refine .rd (.move rfl) ?_
                refine .on (t := 61) rfl rfl ?_
                refine .rd (.nilCheck rfl) ?_
                refine .on (t := 61) rfl rfl ?_
                refine .rd (.fieldAddr fd72_1 rfl) ?_
                refine .on (t := 61) rfl rfl ?_
                refine .rd (.ld na4 rfl (.tail .head) rfl) ?_
                refine .rd (.pickT rfl rfl) ?_
                refine .nil ⟨rfl, ?_, by repeat (first | exact Le.refl _ | refine Le.skip rfl ?_)⟩
                exact congrArg (fun x => some (Value.bool x)) (b_and (by omega))
              · replace g19_2 := of_decide_eq_false g19_2
                refine .off (t := 61) rfl rfl rfl ?_
                refine .off (t := 61) rfl rfl rfl ?_
                refine .off (t := 61) rfl rfl rfl ?_
                refine .off (t := 61) rfl rfl rfl ?_
                refine .rd (.pickF rfl rfl) ?_
                refine .nil ⟨rfl, ?_, by repeat (first | exact Le.refl _ | refine Le.skip rfl ?_)⟩
                exact congrArg (fun x => some (Value.bool x)) ((decide_eq_false (by omega)).symm)
            refine .nil ?_
            refine .condP rfl (fun h19 => ?_) (fun h19 => ?_)
            · refine .skip ?_
              refine .seq ?_
              refine .block ?_
              obtain ⟨hr64, hFp⟩ : (0 ≤ n ∧ n ≤ 64) ∧ Fol p.2 p.1 (pMPart rs.length t) (((([x0, x1, x2, x3, x4], nm), tx), n), rs) := by
                rcases hI.2.2.2 with ⟨h, _⟩ | h
                · rw [h19.2] at h; cases h
                · exact h
              have hrl : rs.length ≤ 64 := by rcases hI.1 with rfl | h <;> simp_all <;> omega
              obtain ⟨k, hk⟩ : ∃ k, k = (rdI p).1 := ⟨_, rfl⟩
              have hf0 := hFp.rdI (f := fun a b => (a, b))
              rw [← hk] at hf0
              refine .draws [1] [blk b5 [.int .i64 x0, .int .i64 x1, .int .i64 x2, .int .i64 x3, .int .i64 x4, .string (str nm), .string (str tx), .slice a' rs.length c'] 39] (by kernel_rfl) ?_   -- R21 wire.go:214
              refine .rp 0 rfl (by kernel_rfl) (by kernel_rfl) (by kernel_rfl) (Reads.pure (.fieldAddr fd39_7 rfl)) ?_
              refine .rd 1 rfl rfl (by kernel_rfl) (by kernel_rfl) (by kernel_rfl) (.ld na37 rfl .head rfl) (.cons (.tail (.tail .head)) .nil) ?_
              refine .rp 2 rfl (by kernel_rfl) (by kernel_rfl) (by kernel_rfl) (Reads.pure (.move rfl)) ?_
              refine .ef 3 (by kernel_rfl) rfl (.fn rfl rfl (.cons (.tail .head) .nil) (fun _ _ _ => trivial) (rdint_ok b30 p (by omega))) ?_
              rintro v _ ⟨G1, hq, rfl⟩
              obtain ⟨rfl, rfl⟩ := hq
              simp only [List.cons_append, List.nil_append]
              refine ⟨.inr ⟨_, (.cons (.tail (.tail .head)) .nil)⟩, ?_⟩
              refine .ef 4 (by kernel_rfl) rfl (.buildOne (cs := icell k) Try.underlying37 ti3 (by decide) rfl (by rw [hk]; rfl) rfl (ones.of rfl)) ?_
              rintro _ _ ⟨bs, rfl, rfl⟩
              refine ⟨.inr ⟨_, (.cons (.tail (.tail (.tail .head))) .nil)⟩, ?_⟩
              refine .ef 5 (by kernel_rfl) rfl (.append rfl rfl Try.underlying37 ti3 rfl (ones.of rfl) (by decide) (by decide) rfl rfl (.tail (.tail (.tail (.tail .head)))) (n := rs.length) (m := 1) (by rw [flat_length icell_len]) (.srcBlk (ys := icell k) .head Try.underlying37 rfl (by decide)) (by omega)) ?_
              rintro _ _ ⟨ra, rc, rfl, rn, rfl⟩
              refine ⟨.inl (by kernel_rfl), ?_⟩
              refine .rp 6 rfl (by kernel_rfl) (by kernel_rfl) (by kernel_rfl) (Reads.pure (.fieldAddr fd39_7 rfl)) ?_
              refine .ef0 7 (by kernel_rfl) rfl (.store ts37 rfl rfl (.tail (.tail (.tail (.tail .head)))) rfl (Nat.le_of_ble_eq_true rfl)) ?_
              rintro _ _ rfl
              refine ⟨.inl (by kernel_rfl), ?_⟩
              refine .done (by kernel_rfl) ?_
              refine .perm (.cons (.tail .head) (.cons .head (.cons .head (.cons .head (.cons .head (.cons .head .nil)))))) ?_
              refine .cast (X' := arr 3 1 ra rc ((rs ++ [k]).flatMap icell)) (by rw [List.flatMap_append]; simp) ?_
              refine .perm (.cons (.tail .head) (.cons .head (.cons .head (.cons .head (.cons .head (.cons .head .nil)))))) ?_
              refine .cast (X' := blk b5 [.int .i64 x0, .int .i64 x1, .int .i64 x2, .int .i64 x3, .int .i64 x4, .string (str nm), .string (str tx), .slice ra (rs ++ [k]).length rc] 39) (by rw [List.length_append]; rfl) ?_
              refine .inBlock ?_
              refine .region ?_   -- R20 wire.go:213
              refine .rd (.move rfl) ?_
              refine .rd (.sub rfl rfl (by omega) (by omega)) ?_
              refine .rd (.assign rfl) ?_
              refine .nil ?_
              exact (ih (rs ++ [k], (rdI p).2, ra, rc) ⟨.inr (by show (((rs ++ [_]).length : Nat) : Int) ≤ n; rw [List.length_append]; show ((rs.length + 1 : Nat) : Int) ≤ n; omega), all_snoc hI.2.1 (by rw [hk]; exact rint_i64 _), Nat.le_trans (rdI_len p) hI.2.2.1, .inr ⟨hr64, pMPart_next hf0⟩⟩ (by show 64 - (rs ++ [_]).length < _; rw [List.length_append]; show 64 - (rs.length + 1) < 64 - rs.length; omega)).to (.cons rfl (.cons rfl (.cons rfl (.cons (by show _ = some (Value.int .i64 (n - ((rs ++ [k]).length : Int))); rw [List.length_append]; exact congrArg (fun z => some (Value.int .i64 z)) (by show n - (rs.length : Int) - 1 = n - ((rs.length + 1 : Nat) : Int); omega)) .nil)))) (.cons (.tail (.tail (.tail (.tail .head)))) (.cons (.tail (.tail (.tail .head))) (.cons .head (.cons .head (.cons (.tail .head) .nil)))))
            · refine .exit rfl ?_
              refine .seq ?_
              refine .seq ?_
              refine .region ?_   -- R22 wire.go:216
              refine RunO.join 12 87 (!decide (p.2 = true ∧ p.1 = [])) ?_ ?_
              · refine .rd (.move rfl) ?_
                refine .rd (.nilCheck rfl) ?_
                refine .rd (.fieldAddr fd72_1 rfl) ?_
                refine .rd (.ld na4 rfl (.tail .head) rfl) ?_
                refine .rd (.not rfl) ?_
                refine .rd (.move rfl) ?_
                refine .split (t := 81) rfl (fun g22_5 => ?_) (fun g22_5 => ?_)
                · refine .off (t := 81) rfl rfl rfl ?_
                  refine .off (t := 81) rfl rfl rfl ?_
                  refine .off (t := 81) rfl rfl rfl ?_
                  refine .off (t := 81) rfl rfl rfl ?_
                  refine .off (t := 81) rfl rfl rfl ?_
                  refine .rd (.pickT rfl rfl) ?_
                  refine .nil ⟨rfl, ?_, by repeat (first | exact Le.refl _ | refine Le.skip rfl ?_)⟩
                  exact congrArg (fun x => some (Value.bool x)) (by simp [g22_5])
                · refine .on (t := 81) rfl rfl ?_
                  refine .rd (.move rfl) ?_
                  refine .on (t := 81) rfl rfl ?_
                  refine .rd (.nilCheck rfl) ?_
                  refine .on (t := 81) rfl rfl ?_
                  refine .rd (.fieldAddr fd72_0 rfl) ?_
                  refine .on (t := 81) rfl rfl ?_
                  refine .rd (.ld na9 rfl (.tail .head) rfl) ?_
                  refine .on (t := 81) rfl rfl ?_
                  refine .rd (.neT rfl rfl) ?_
                  refine .rd (.pickF rfl rfl) ?_
                  refine .nil ⟨rfl, ?_, by repeat (first | exact Le.refl _ | refine Le.skip rfl ?_)⟩
                  exact congrArg (fun x => some (Value.bool x)) (by simp [g22_5])
              refine .nil ?_
              refine .condN rfl (fun h22 => ?_) (fun h22 => ?_)
              · have hno : pMeta t = none := by
                  rcases hI.2.2.2 with ⟨_, h⟩ | ⟨h1, h2⟩
                  · exact h
                  · have hle : (rs.length : Int) ≤ n := by
                      rcases hI.1 with rfl | h
                      · simp; omega
                      · exact h
                    refine pMeta_no hH h2 h1 h22 (fun hg => ?_) hle
                    have h0 : ¬ 0 < n - (rs.length : Int) := fun h => h19 ⟨h, hg⟩
                    show (rs.length : Int) = n
                    omega
                refine .seq ?_
                refine .region ?_   -- R23 wire.go:217
                refine .rd (.build rfl (bld39_)) ?_
                refine .ef0 (.storeAll (vs := [.int .i64 0, .int .i64 0, .int .i64 0, .int .i64 0, .int .i64 0, .string ⟨#[]⟩, .string ⟨#[]⟩, .slice none 0 0]) ts39 rfl rfl rfl .head rfl (ones.of rfl)) ?_
                rintro _ _ rfl
                refine .rd (.assign rfl) ?_
                refine .nil ?_
                rw [readMeta_no (s := s) (by omega) (by omega) (by rw [← ht]; exact hcs) (by rw [← ht]; exact hno)]
                refine .nilArr 3 1 none ?_
                refine .retP Try.func24 (.cons (.blkN ia39 ts39 rfl (.tail .head) rfl) (.cons (.tmp rfl) .nil)) (.cons .head (.cons (.tail (.tail (.tail (.tail .head)))) .nil)) ?_
                exact ⟨[_], ⟨none, 0, rfl, rfl⟩, rfl⟩
              · have hyes : pMeta t = some (met ((([x0, x1, x2, x3, x4], nm), tx), n) rs) := by
                  rcases hI.2.2.2 with ⟨h, _⟩ | ⟨h1, h2⟩
                  · rw [h22.1] at h; cases h
                  · have hle : (rs.length : Int) ≤ n := by
                      rcases hI.1 with rfl | h
                      · simp; omega
                      · exact h
                    have h0 : ¬ 0 < n - (rs.length : Int) := fun h => h19 ⟨h, h22.1⟩
                    exact pMeta_yes h2 (by show (rs.length : Int) = n; omega) h22.1 h22.2 h1
                refine .skip ?_
                refine .seq ?_
                refine .region ?_   -- R24 wire.go:219
                refine .rd (.ldN ia39 ts39 rfl (.tail (.tail .head)) rfl) ?_
                refine .ef0 (.storeAll (vs := Met.cells (met ((([x0, x1, x2, x3, x4], nm), tx), n) rs) a' c') ts39 rfl rfl rfl .head rfl (ones.of rfl)) ?_
                rintro _ _ rfl
                refine .rd (.assign rfl) ?_
                refine .nil ?_
                rw [readMeta_yes (s := s) (by omega) (by omega) (by rw [← ht]; exact hcs) (by rw [← ht]; exact hyes)]
                refine .retP Try.func24 (.cons (.blkN ia39 ts39 rfl .head rfl) (.cons (.tmp rfl) .nil)) (.cons (.tail (.tail (.tail .head))) (.cons (.tail (.tail (.tail .head))) .nil)) ?_
                exact ⟨[_], ⟨a', c', rfl, rfl⟩, rfl⟩
          · have h17' : 0 ≤ n ∧ n ≤ 64 := by simpa using h17
            refine .skip ?_
            refine .seq ?_
            refine .block ?_
            refine .loop (σ := List Int × Rdr × Option Addr × Nat) (fun ⟨rs, p, a', c'⟩ => (rs = [] ∨ (rs.length : Int) ≤ n) ∧ (∀ x ∈ rs, i64 x) ∧ p.1.length ≤ 4096 ∧ ((p.2 = false ∧ pMeta t = none) ∨ ((0 ≤ n ∧ n ≤ 64) ∧ Fol p.2 p.1 (pMPart rs.length t) (((([x0, x1, x2, x3, x4], nm), tx), n), rs)))) (fun ⟨rs, p, a', c'⟩ => 64 - rs.length) (fun ⟨rs, p, a', c'⟩ => [(2, .pointer (some ⟨b2, 0, none⟩)), (4, .pointer (some ⟨b30, 0, none⟩)), (5, .pointer (some ⟨b5, 0, none⟩)), (8, .int .i64 (n - (rs.length : Int)))]) (fun ⟨rs, p, a', c'⟩ => [blk b2 [.int .i64 0, .int .i64 0, .int .i64 0, .int .i64 0, .int .i64 0, .string ⟨#[]⟩, .string ⟨#[]⟩, .slice none 0 0] 39, blk b30 [.string (str p.1), .bool p.2] 72, blk b5 [.int .i64 x0, .int .i64 x1, .int .i64 x2, .int .i64 x3, .int .i64 x4, .string (str nm), .string (str tx), .slice a' rs.length c'] 39, arr 3 1 a' c' (rs.flatMap icell), R]) ([], q, none, 0) ⟨.inl rfl, by simp, hq3, .inr ⟨h17', pMPart_zero hH⟩⟩ (.cons rfl (.cons rfl (.cons rfl (.cons rfl .nil)))) (.cons (.tail (.tail (.tail .head))) (.cons (.tail .head) (.cons (.tail .head) (.cons .head (.cons .head .nil))))) (fun s' hI ih => ?_)
            obtain ⟨rs, p, a', c'⟩ := s'
            dsimp only at hI ih ⊢
            have hpl := hI.2.2.1
            refine .seq ?_
            refine .seq ?_
            refine .region ?_   -- R19 wire.go:213
            refine RunO.join 8 66 (decide (0 < n - (rs.length : Int) ∧ p.2 = true)) ?_ ?_
            · refine .rd (.move rfl) ?_
              refine .rd (.gt rfl rfl) ?_
              refine .rd (.move rfl) ?_
              refine .split (t := 61) rfl (fun g19_2 => ?_) (fun g19_2 => ?_)
              · replace g19_2 := of_decide_eq_true g19_2
                refine .on (t := 61) rfl rfl ?_
                refine .rd (.move rfl) ?_
                refine .on (t := 61) rfl rfl ?_
                refine .rd (.nilCheck rfl) ?_
                refine .on (t := 61) rfl rfl ?_
                refine .rd (.fieldAddr fd72_1 rfl) ?_
                refine .on (t := 61) rfl rfl ?_
                refine .rd (.ld na4 rfl (.tail .head) rfl) ?_
                refine .rd (.pickT rfl rfl) ?_
                refine .nil ⟨rfl, ?_, by repeat (first | exact Le.refl _ | refine Le.skip rfl ?_)⟩
                exact congrArg (fun x => some (Value.bool x)) (b_and (by omega))
              · replace g19_2 := of_decide_eq_false g19_2
                refine .off (t := 61) rfl rfl rfl ?_
                refine .off (t := 61) rfl rfl rfl ?_
                refine .off (t := 61) rfl rfl rfl ?_
                refine .off (t := 61) rfl rfl rfl ?_
                refine .rd (.pickF rfl rfl) ?_
                refine .nil ⟨rfl, ?_, by repeat (first | exact Le.refl _ | refine Le.skip rfl ?_)⟩
                exact congrArg (fun x => some (Value.bool x)) ((decide_eq_false (by omega)).symm)
            refine .nil ?_
            refine .condP rfl (fun h19 => ?_) (fun h19 => ?_)
            · refine .skip ?_
              refine .seq ?_
              refine .block ?_
              obtain ⟨hr64, hFp⟩ : (0 ≤ n ∧ n ≤ 64) ∧ Fol p.2 p.1 (pMPart rs.length t) (((([x0, x1, x2, x3, x4], nm), tx), n), rs) := by
                rcases hI.2.2.2 with ⟨h, _⟩ | h
                · rw [h19.2] at h; cases h
                · exact h
              have hrl : rs.length ≤ 64 := by rcases hI.1 with rfl | h <;> simp_all <;> omega
              obtain ⟨k, hk⟩ : ∃ k, k = (rdI p).1 := ⟨_, rfl⟩
              have hf0 := hFp.rdI (f := fun a b => (a, b))
              rw [← hk] at hf0
              refine .draws [1] [blk b5 [.int .i64 x0, .int .i64 x1, .int .i64 x2, .int .i64 x3, .int .i64 x4, .string (str nm), .string (str tx), .slice a' rs.length c'] 39] (by kernel_rfl) ?_   -- R21 wire.go:214
              refine .rp 0 rfl (by kernel_rfl) (by kernel_rfl) (by kernel_rfl) (Reads.pure (.fieldAddr fd39_7 rfl)) ?_
              refine .rd 1 rfl rfl (by kernel_rfl) (by kernel_rfl) (by kernel_rfl) (.ld na37 rfl .head rfl) (.cons (.tail (.tail .head)) .nil) ?_
              refine .rp 2 rfl (by kernel_rfl) (by kernel_rfl) (by kernel_rfl) (Reads.pure (.move rfl)) ?_
              refine .ef 3 (by kernel_rfl) rfl (.fn rfl rfl (.cons (.tail .head) .nil) (fun _ _ _ => trivial) (rdint_ok b30 p (by omega))) ?_
              rintro v _ ⟨G1, hq, rfl⟩
              obtain ⟨rfl, rfl⟩ := hq
              simp only [List.cons_append, List.nil_append]
              refine ⟨.inr ⟨_, (.cons (.tail (.tail .head)) .nil)⟩, ?_⟩
              refine .ef 4 (by kernel_rfl) rfl (.buildOne (cs := icell k) Try.underlying37 ti3 (by decide) rfl (by rw [hk]; rfl) rfl (ones.of rfl)) ?_
              rintro _ _ ⟨bs, rfl, rfl⟩
              refine ⟨.inr ⟨_, (.cons (.tail (.tail (.tail .head))) .nil)⟩, ?_⟩
              refine .ef 5 (by kernel_rfl) rfl (.append rfl rfl Try.underlying37 ti3 rfl (ones.of rfl) (by decide) (by decide) rfl rfl (.tail (.tail (.tail (.tail .head)))) (n := rs.length) (m := 1) (by rw [flat_length icell_len]) (.srcBlk (ys := icell k) .head Try.underlying37 rfl (by decide)) (by omega)) ?_
              rintro _ _ ⟨ra, rc, rfl, rn, rfl⟩
              refine ⟨.inl (by kernel_rfl), ?_⟩
              refine .rp 6 rfl (by kernel_rfl) (by kernel_rfl) (by kernel_rfl) (Reads.pure (.fieldAddr fd39_7 rfl)) ?_
              refine .ef0 7 (by kernel_rfl) rfl (.store ts37 rfl rfl (.tail (.tail (.tail (.tail .head)))) rfl (Nat.le_of_ble_eq_true rfl)) ?_
              rintro _ _ rfl
              refine ⟨.inl (by kernel_rfl), ?_⟩
              refine .done (by kernel_rfl) ?_
              refine .perm (.cons (.tail .head) (.cons .head (.cons .head (.cons .head (.cons .head (.cons .head .nil)))))) ?_
              refine .cast (X' := arr 3 1 ra rc ((rs ++ [k]).flatMap icell)) (by rw [List.flatMap_append]; simp) ?_
              refine .perm (.cons (.tail .head) (.cons .head (.cons .head (.cons .head (.cons .head (.cons .head .nil)))))) ?_
              refine .cast (X' := blk b5 [.int .i64 x0, .int .i64 x1, .int .i64 x2, .int .i64 x3, .int .i64 x4, .string (str nm), .string (str tx), .slice ra (rs ++ [k]).length rc] 39) (by rw [List.length_append]; rfl) ?_
              refine .inBlock ?_
              refine .region ?_   -- R20 wire.go:213
              refine .rd (.move rfl) ?_
              refine .rd (.sub rfl rfl (by omega) (by omega)) ?_
              refine .rd (.assign rfl) ?_
              refine .nil ?_
              exact (ih (rs ++ [k], (rdI p).2, ra, rc) ⟨.inr (by show (((rs ++ [_]).length : Nat) : Int) ≤ n; rw [List.length_append]; show ((rs.length + 1 : Nat) : Int) ≤ n; omega), all_snoc hI.2.1 (by rw [hk]; exact rint_i64 _), Nat.le_trans (rdI_len p) hI.2.2.1, .inr ⟨hr64, pMPart_next hf0⟩⟩ (by show 64 - (rs ++ [_]).length < _; rw [List.length_append]; show 64 - (rs.length + 1) < 64 - rs.length; omega)).to (.cons rfl (.cons rfl (.cons rfl (.cons (by show _ = some (Value.int .i64 (n - ((rs ++ [k]).length : Int))); rw [List.length_append]; exact congrArg (fun z => some (Value.int .i64 z)) (by show n - (rs.length : Int) - 1 = n - ((rs.length + 1 : Nat) : Int); omega)) .nil)))) (.cons (.tail (.tail (.tail (.tail .head)))) (.cons (.tail (.tail (.tail .head))) (.cons .head (.cons .head (.cons (.tail .head) .nil)))))
            · refine .exit rfl ?_
              refine .seq ?_
              refine .seq ?_
              refine .region ?_   -- R22 wire.go:216
              refine RunO.join 12 87 (!decide (p.2 = true ∧ p.1 = [])) ?_ ?_
              · refine .rd (.move rfl) ?_
                refine .rd (.nilCheck rfl) ?_
                refine .rd (.fieldAddr fd72_1 rfl) ?_
                refine .rd (.ld na4 rfl (.tail .head) rfl) ?_
                refine .rd (.not rfl) ?_
                refine .rd (.move rfl) ?_
                refine .split (t := 81) rfl (fun g22_5 => ?_) (fun g22_5 => ?_)
                · refine .off (t := 81) rfl rfl rfl ?_
                  refine .off (t := 81) rfl rfl rfl ?_
                  refine .off (t := 81) rfl rfl rfl ?_
                  refine .off (t := 81) rfl rfl rfl ?_
                  refine .off (t := 81) rfl rfl rfl ?_
                  refine .rd (.pickT rfl rfl) ?_
                  refine .nil ⟨rfl, ?_, by repeat (first | exact Le.refl _ | refine Le.skip rfl ?_)⟩
                  exact congrArg (fun x => some (Value.bool x)) (by simp [g22_5])
                · refine .on (t := 81) rfl rfl ?_
                  refine .rd (.move rfl) ?_
                  refine .on (t := 81) rfl rfl ?_
                  refine .rd (.nilCheck rfl) ?_
                  refine .on (t := 81) rfl rfl ?_
                  refine .rd (.fieldAddr fd72_0 rfl) ?_
                  refine .on (t := 81) rfl rfl ?_
                  refine .rd (.ld na9 rfl (.tail .head) rfl) ?_
                  refine .on (t := 81) rfl rfl ?_
                  refine .rd (.neT rfl rfl) ?_
                  refine .rd (.pickF rfl rfl) ?_
                  refine .nil ⟨rfl, ?_, by repeat (first | exact Le.refl _ | refine Le.skip rfl ?_)⟩
                  exact congrArg (fun x => some (Value.bool x)) (by simp [g22_5])
              refine .nil ?_
              refine .condN rfl (fun h22 => ?_) (fun h22 => ?_)
              · have hno : pMeta t = none := by
                  rcases hI.2.2.2 with ⟨_, h⟩ | ⟨h1, h2⟩
                  · exact h
                  · have hle : (rs.length : Int) ≤ n := by
                      rcases hI.1 with rfl | h
                      · simp; omega
                      · exact h
                    refine pMeta_no hH h2 h1 h22 (fun hg => ?_) hle
                    have h0 : ¬ 0 < n - (rs.length : Int) := fun h => h19 ⟨h, hg⟩
                    show (rs.length : Int) = n
                    omega
                refine .seq ?_
                refine .region ?_   -- R23 wire.go:217
                refine .rd (.build rfl (bld39_)) ?_
                refine .ef0 (.storeAll (vs := [.int .i64 0, .int .i64 0, .int .i64 0, .int .i64 0, .int .i64 0, .string ⟨#[]⟩, .string ⟨#[]⟩, .slice none 0 0]) ts39 rfl rfl rfl .head rfl (ones.of rfl)) ?_
                rintro _ _ rfl
                refine .rd (.assign rfl) ?_
                refine .nil ?_
                rw [readMeta_no (s := s) (by omega) (by omega) (by rw [← ht]; exact hcs) (by rw [← ht]; exact hno)]
                refine .nilArr 3 1 none ?_
                refine .retP Try.func24 (.cons (.blkN ia39 ts39 rfl (.tail .head) rfl) (.cons (.tmp rfl) .nil)) (.cons .head (.cons (.tail (.tail (.tail (.tail .head)))) .nil)) ?_
                exact ⟨[_], ⟨none, 0, rfl, rfl⟩, rfl⟩
              · have hyes : pMeta t = some (met ((([x0, x1, x2, x3, x4], nm), tx), n) rs) := by
                  rcases hI.2.2.2 with ⟨h, _⟩ | ⟨h1, h2⟩
                  · rw [h22.1] at h; cases h
                  · have hle : (rs.length : Int) ≤ n := by
                      rcases hI.1 with rfl | h
                      · simp; omega
                      · exact h
                    have h0 : ¬ 0 < n - (rs.length : Int) := fun h => h19 ⟨h, h22.1⟩
                    exact pMeta_yes h2 (by show (rs.length : Int) = n; omega) h22.1 h22.2 h1
                refine .skip ?_
                refine .seq ?_
                refine .region ?_   -- R24 wire.go:219
                refine .rd (.ldN ia39 ts39 rfl (.tail (.tail .head)) rfl) ?_
                refine .ef0 (.storeAll (vs := Met.cells (met ((([x0, x1, x2, x3, x4], nm), tx), n) rs) a' c') ts39 rfl rfl rfl .head rfl (ones.of rfl)) ?_
                rintro _ _ rfl
                refine .rd (.assign rfl) ?_
                refine .nil ?_
                rw [readMeta_yes (s := s) (by omega) (by omega) (by rw [← ht]; exact hcs) (by rw [← ht]; exact hyes)]
                refine .retP Try.func24 (.cons (.blkN ia39 ts39 rfl .head rfl) (.cons (.tmp rfl) .nil)) (.cons (.tail (.tail (.tail .head))) (.cons (.tail (.tail (.tail .head))) .nil)) ?_
                exact ⟨[_], ⟨a', c', rfl, rfl⟩, rfl⟩

end Go.Proofs.Ytllpkagplfmlbaa

