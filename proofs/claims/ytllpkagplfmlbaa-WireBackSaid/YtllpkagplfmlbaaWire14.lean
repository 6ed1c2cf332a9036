/- Steps through functions of the program, under conditions that each theorem states (part wire14 of a claim). -/
import Derived.Test.YtllpkagplfmlbaaProg
import Derived.Test.YtllpkagplfmlbaaDefs3i
import Derived.Test.YtllpkagplfmlbaaWire7
import Derived.Test.YtllpkagplfmlbaaWire13
namespace Go.Proofs.Ytllpkagplfmlbaa
open Go Go.Sp

set_option linter.unusedVariables false

namespace wire14
theorem ti27 : TI Try.prog 27 6 64 (.agg #[.int .i64 0, .int .i64 0, .int .i64 0, .int .i64 0, .int .i64 0, .slice none 0 0]) := .of (by kernel_rfl)
theorem bld27_  (w : World) : (Instr.build 27 (([] : List Nat).zip []).toArray).run Try.prog w = .ok (.agg #[.int .i64 0, .int .i64 0, .int .i64 0, .int .i64 0, .int .i64 0, .slice none 0 0]) w := by kernel_rfl
theorem ts27 : TS Try.prog 27 6 := .of (by kernel_rfl)
theorem ia27 : IsAgg Try.prog 27 := ⟨_, Try.underlying27, trivial⟩
theorem bld72_0_1 (x0 : ByteArray) (x1 : Bool) (w : World) : (Instr.build 72 (([0, 1] : List Nat).zip [.string x0, .bool x1]).toArray).run Try.prog w = .ok (.agg #[.string x0, .bool x1]) w := by kernel_rfl
theorem fd27_0 : FD Try.prog 27 0 0 := .of Try.underlying27 (by kernel_rfl)
theorem fd27_1 : FD Try.prog 27 1 1 := .of Try.underlying27 (by kernel_rfl)
theorem fd27_2 : FD Try.prog 27 2 2 := .of Try.underlying27 (by kernel_rfl)
theorem fd27_3 : FD Try.prog 27 3 3 := .of Try.underlying27 (by kernel_rfl)
theorem fd27_4 : FD Try.prog 27 4 4 := .of Try.underlying27 (by kernel_rfl)
theorem bld74_0_1_2_3_4 (x0 : Option Addr) (x1 : Option Addr) (x2 : Option Addr) (x3 : Option Addr) (x4 : Option Addr) (w : World) : (Instr.build 74 (([0, 1, 2, 3, 4] : List Nat).zip [.pointer x0, .pointer x1, .pointer x2, .pointer x3, .pointer x4]).toArray).run Try.prog w = .ok (.agg #[.pointer x0, .pointer x1, .pointer x2, .pointer x3, .pointer x4]) w := by kernel_rfl
theorem na73 : NotAgg Try.prog 73 := ⟨_, Try.underlying73, trivial⟩
theorem ts73 : TS Try.prog 73 1 := .of (by kernel_rfl)
theorem ts3 : TS Try.prog 3 1 := .of (by kernel_rfl)
theorem fd72_1 : FD Try.prog 72 1 1 := .of Try.underlying72 (by kernel_rfl)
theorem na4 : NotAgg Try.prog 4 := ⟨_, Try.underlying4, trivial⟩
theorem fd27_5 : FD Try.prog 27 5 5 := .of Try.underlying27 (by kernel_rfl)
theorem na25 : NotAgg Try.prog 25 := ⟨_, Try.underlying25, trivial⟩
theorem bld65_2 (x0 : Int) (w : World) : (Instr.build 65 (([2] : List Nat).zip [.int .i64 x0]).toArray).run Try.prog w = .ok (.agg #[.string ⟨#[]⟩, .string ⟨#[]⟩, .int .i64 x0]) w := by kernel_rfl
theorem ti65 : TI Try.prog 65 3 40 (.agg #[.string ⟨#[]⟩, .string ⟨#[]⟩, .int .i64 0]) := .of (by kernel_rfl)
theorem ts65 : TS Try.prog 65 3 := .of (by kernel_rfl)
theorem fd65_0 : FD Try.prog 65 0 0 := .of Try.underlying65 (by kernel_rfl)
theorem ts9 : TS Try.prog 9 1 := .of (by kernel_rfl)
theorem fd65_1 : FD Try.prog 65 1 1 := .of Try.underlying65 (by kernel_rfl)
theorem ia65 : IsAgg Try.prog 65 := ⟨_, Try.underlying65, trivial⟩
theorem ts25 : TS Try.prog 25 1 := .of (by kernel_rfl)
theorem fd72_0 : FD Try.prog 72 0 0 := .of Try.underlying72 (by kernel_rfl)
theorem na9 : NotAgg Try.prog 9 := ⟨_, Try.underlying9, trivial⟩
end wire14
open wire14



set_option maxHeartbeats 1000000 in
set_option maxRecDepth 20000 in
theorem ReadBatch_ok (s : List UInt8) (hl : s.length ≤ 9000000000000000000) : Cn Try.prog 17 [.string (str s)] (fun _ => True) [] fun v G => ∃ a' c', v = .tuple #[.agg ((readBatch s).1.cells a' c').toArray, .int .i64 (readBatch s).2.1, .int .i64 (readBatch s).2.2] ∧ G = [arr 65 3 a' c' ((readBatch s).1.recs.flatMap Rec.cells)] := by
  refine .enter Try.func17 rfl (by kernel_rfl) rfl fun R k => ?_
  refine .seq ?_
  refine .region ?_   -- R0 wire.go:141
  refine .ef (.alloc ti27 rfl (ones.of rfl)) ?_
  rintro _ _ ⟨b2, rfl, rfl⟩
  refine .rd (.assign rfl) ?_
  refine .rd (.assign rfl) ?_
  refine .nil ?_
  refine .seq ?_
  refine .seq ?_
  refine .region ?_   -- R1 wire.go:142
  refine .rd (.move rfl) ?_
  refine .rd (.lenT rfl rfl Try.underlying9 rfl) ?_
  refine .rd (.lt rfl rfl) ?_
  refine .nil ?_
  refine .condP rfl (fun h2 => ?_) (fun h2 => ?_)
  · refine .seq ?_
    refine .region ?_   -- R2 wire.go:143
    refine .rd (.build rfl (bld27_)) ?_
    refine .ef0 (.storeAll (vs := [.int .i64 0, .int .i64 0, .int .i64 0, .int .i64 0, .int .i64 0, .slice none 0 0]) ts27 rfl rfl rfl .head rfl (ones.of rfl)) ?_
    rintro _ _ rfl
    refine .rd (.assign rfl) ?_
    refine .rd (.assign rfl) ?_
    refine .nil ?_
    rw [readBatch_short (s := s) (by omega)]
    refine .nilArr 65 3 none ?_
    refine .retP Try.func17 (.cons (.blkN ia27 ts27 rfl (.tail .head) rfl) (.cons (.tmp rfl) (.cons (.tmp rfl) .nil))) (.cons .head (.cons (.tail .head) .nil)) ?_
    exact ⟨[_], ⟨none, 0, rfl, rfl⟩, rfl⟩
  · refine .skip ?_
    refine .seq ?_
    refine .region ?_   -- R3 wire.go:145
    refine .rd (.move rfl) ?_
    refine .fn rfl rfl .nil (fun _ _ _ => trivial) (four_ok s (by omega)) (fun v G1 hq => ?_)
    obtain ⟨rfl, rfl⟩ := hq
    simp only [List.nil_append]
    refine .rd (.assign rfl) ?_
    refine .nil ?_
    refine .seq ?_
    refine .block ?_
    refine .seq ?_
    refine .region ?_   -- R4 wire.go:147
    refine .rd (.move rfl) ?_
    refine .rd (.gt rfl rfl) ?_
    refine .rd (.assign rfl) ?_
    refine .nil ?_
    refine .condP rfl (fun h4 => ?_) (fun h4 => ?_)
    · refine .seq ?_
      refine .region ?_   -- R5 wire.go:148
      refine .rd (.build rfl (bld27_)) ?_
      refine .ef0 (.storeAll (vs := [.int .i64 0, .int .i64 0, .int .i64 0, .int .i64 0, .int .i64 0, .slice none 0 0]) ts27 rfl rfl rfl .head rfl (ones.of rfl)) ?_
      rintro _ _ rfl
      refine .rd (.assign rfl) ?_
      refine .rd (.assign rfl) ?_
      refine .nil ?_
      rw [readBatch_long (s := s) (by omega) (by omega)]
      refine .nilArr 65 3 none ?_
      refine .retP Try.func17 (.cons (.blkN ia27 ts27 rfl (.tail .head) rfl) (.cons (.tmp rfl) (.cons (.tmp rfl) .nil))) (.cons .head (.cons (.tail .head) .nil)) ?_
      exact ⟨[_], ⟨none, 0, rfl, rfl⟩, rfl⟩
    · refine .seq ?_
      refine .region ?_   -- R6 wire.go:149
      refine .rd (.move rfl) ?_
      refine .rd (.lenT rfl rfl Try.underlying9 rfl) ?_
      refine .rd (.sub rfl rfl (by omega) (by omega)) ?_
      refine .rd (.move rfl) ?_
      refine .rd (.lt rfl rfl) ?_
      refine .rd (.assign rfl) ?_
      refine .nil ?_
      refine .condP rfl (fun h6 => ?_) (fun h6 => ?_)
      · refine .seq ?_
        refine .region ?_   -- R7 wire.go:150
        refine .rd (.build rfl (bld27_)) ?_
        refine .ef0 (.storeAll (vs := [.int .i64 0, .int .i64 0, .int .i64 0, .int .i64 0, .int .i64 0, .slice none 0 0]) ts27 rfl rfl rfl .head rfl (ones.of rfl)) ?_
        rintro _ _ rfl
        refine .rd (.assign rfl) ?_
        refine .rd (.assign rfl) ?_
        refine .nil ?_
        rw [readBatch_cut (s := s) (by omega) (by omega) (by omega)]
        refine .nilArr 65 3 none ?_
        refine .retP Try.func17 (.cons (.blkN ia27 ts27 rfl (.tail .head) rfl) (.cons (.tmp rfl) (.cons (.tmp rfl) .nil))) (.cons .head (.cons (.tail .head) .nil)) ?_
        exact ⟨[_], ⟨none, 0, rfl, rfl⟩, rfl⟩
      · refine .seq ?_
        have h4l := four_lt s
        obtain ⟨t, ht⟩ : ∃ t, t = (s.drop 8).take (four s) := ⟨_, rfl⟩
        have htl : t.length ≤ 4088 := by rw [ht, List.length_take]; omega
        refine .draws [] [] (by kernel_rfl) ?_   -- R8 wire.go:151
        refine .rp 0 rfl (by kernel_rfl) (by kernel_rfl) (by kernel_rfl) (Reads.pure (.move rfl)) ?_
        refine .rp 1 rfl (by kernel_rfl) (by kernel_rfl) (by kernel_rfl) (Reads.pure (.move rfl)) ?_
        refine .rp 2 rfl (by kernel_rfl) (by kernel_rfl) (by kernel_rfl) (Reads.pure (.add rfl rfl (by omega) (by omega))) ?_
        refine .alter (t := 32) (v' := .int .i64 ((8 + four s : Nat) : Int)) rfl (by rw [Int.natCast_add]; rfl) ?_
        refine .rp 3 rfl (by kernel_rfl) (by kernel_rfl) (by kernel_rfl) (Reads.pure (.sliceT (l := s) (a := 8) (h := (8 + four s)) Try.underlying9 rfl ⟨_, rfl⟩ ⟨_, rfl⟩ (by omega) (by omega))) ?_
        refine .alter (t := 33) (v' := .string (str t)) rfl (by rw [ht, Nat.add_sub_cancel_left]) ?_
        refine .rp 5 rfl (by kernel_rfl) (by kernel_rfl) (by kernel_rfl) (Reads.pure (.move rfl)) ?_
        refine .rp 6 rfl (by kernel_rfl) (by kernel_rfl) (by kernel_rfl) (Reads.pure (.sliceT (l := s) (a := 4) (h := s.length) Try.underlying9 rfl ⟨_, rfl⟩ rfl (by omega) (by omega))) ?_
        refine .alter (t := 36) (v' := .string (str (s.drop 4))) rfl (by rw [List.take_of_length_le (by rw [List.length_drop]; omega)]) ?_
        refine .ef 4 (by kernel_rfl) rfl (.fn rfl rfl .nil (fun _ _ _ => trivial) (Crc_ok t (by omega))) ?_
        rintro v _ ⟨G1, hq, rfl⟩
        obtain ⟨rfl, rfl⟩ := hq
        simp only [List.nil_append]
        refine ⟨.inl (by kernel_rfl), ?_⟩
        refine .ef 7 (by kernel_rfl) rfl (.fn rfl rfl .nil (fun _ _ _ => trivial) (four_ok (s.drop 4) (by rw [List.length_drop]; omega))) ?_
        rintro v _ ⟨G1, hq, rfl⟩
        obtain ⟨rfl, rfl⟩ := hq
        simp only [List.nil_append]
        refine ⟨.inl (by kernel_rfl), ?_⟩
        refine .rp 8 rfl (by kernel_rfl) (by kernel_rfl) (by kernel_rfl) (Reads.pure (.neI rfl rfl)) ?_
        refine .rp 9 rfl (by kernel_rfl) (by kernel_rfl) (by kernel_rfl) (Reads.pure (.assign rfl)) ?_
        refine .done (by kernel_rfl) ?_
        refine .condN rfl (fun h8 => ?_) (fun h8 => ?_)
        · refine .seq ?_
          refine .region ?_   -- R9 wire.go:152
          refine .rd (.build rfl (bld27_)) ?_
          refine .ef0 (.storeAll (vs := [.int .i64 0, .int .i64 0, .int .i64 0, .int .i64 0, .int .i64 0, .slice none 0 0]) ts27 rfl rfl rfl .head rfl (ones.of rfl)) ?_
          rintro _ _ rfl
          refine .rd (.assign rfl) ?_
          refine .rd (.assign rfl) ?_
          refine .nil ?_
          rw [readBatch_sum (s := s) (by omega) (by omega) (by omega) ht (by omega)]
          refine .nilArr 65 3 none ?_
          refine .retP Try.func17 (.cons (.blkN ia27 ts27 rfl (.tail .head) rfl) (.cons (.tmp rfl) (.cons (.tmp rfl) .nil))) (.cons .head (.cons (.tail .head) .nil)) ?_
          exact ⟨[_], ⟨none, 0, rfl, rfl⟩, rfl⟩
        · have hcs : (crc t).toNat = four (s.drop 4) := by omega
          refine .skip ?_
          refine .inBlock ?_
          refine .seq ?_
          refine .region ?_   -- R10 wire.go:154
          refine .rd (.move rfl) ?_
          refine .rd (.move rfl) ?_
          refine .rd (.add rfl rfl (by omega) (by omega)) ?_
          refine .alter (t := 42) (v' := .int .i64 ((8 + four s : Nat) : Int)) rfl (by rw [Int.natCast_add]; rfl) ?_
          refine .rd (.sliceT (l := s) (a := 8) (h := (8 + four s)) Try.underlying9 rfl ⟨_, rfl⟩ ⟨_, rfl⟩ (by omega) (by omega)) ?_
          refine .alter (t := 43) (v' := .string (str t)) rfl (by rw [ht, Nat.add_sub_cancel_left]) ?_
          refine .rd (.build rfl (bld72_0_1 _ _)) ?_
          refine .ef (.box rfl rfl (ones.of rfl)) ?_
          rintro _ _ ⟨b45, rfl, rfl⟩
          refine .rd (.assign rfl) ?_
          refine .nil ?_
          refine .seq ?_
          refine .region ?_   -- R11 wire.go:155
          refine .ef (.alloc ti27 rfl (ones.of rfl)) ?_
          rintro _ _ ⟨b7, rfl, rfl⟩
          refine .nil ?_
          refine .seq ?_
          refine .seq ?_
          refine .region ?_   -- R12 wire.go:156
          refine .rd (.fieldAddr fd27_0 rfl) ?_
          refine .rd (.fieldAddr fd27_1 rfl) ?_
          refine .rd (.fieldAddr fd27_2 rfl) ?_
          refine .rd (.fieldAddr fd27_3 rfl) ?_
          refine .rd (.fieldAddr fd27_4 rfl) ?_
          refine .rd (.build rfl (bld74_0_1_2_3_4 _ _ _ _ _)) ?_
          refine .rd (.move rfl) ?_
          refine .nil ?_
          refine .block ?_
          refine .loop (σ := List Int × Rdr) (fun ⟨xs, p⟩ => xs.length ≤ 5 ∧ (∀ x ∈ xs, i64 x) ∧ p.1.length ≤ 4096 ∧ Fol p.2 p.1 (pMany pI xs.length t) xs) (fun ⟨xs, p⟩ => 5 - xs.length) (fun ⟨xs, p⟩ => [(2, .pointer (some ⟨b2, 0, none⟩)), (5, .int .i64 (four s : Int)), (6, .pointer (some ⟨b45, 0, none⟩)), (7, .pointer (some ⟨b7, 0, none⟩)), (51, .agg #[.pointer (some ⟨b7, 0, none⟩), .pointer (some ⟨b7, 1, none⟩), .pointer (some ⟨b7, 2, none⟩), .pointer (some ⟨b7, 3, none⟩), .pointer (some ⟨b7, 4, none⟩)]), (52, .int .i64 (xs.length : Int))]) (fun ⟨xs, p⟩ => [blk b2 [.int .i64 0, .int .i64 0, .int .i64 0, .int .i64 0, .int .i64 0, .slice none 0 0] 27, blk b45 [.string (str p.1), .bool p.2] 72, blk b7 (vec xs ++ [.slice none 0 0]) 27, R]) ([], t, true) ⟨Nat.zero_le _, by simp, by show t.length ≤ 4096; omega, .inl ⟨rfl, rfl⟩⟩ (.cons rfl (.cons rfl (.cons rfl (.cons rfl (.cons rfl (.cons rfl .nil)))))) (.cons (.tail (.tail .head)) (.cons (.tail .head) (.cons .head (.cons .head .nil)))) (fun s' hI ih => ?_)
          obtain ⟨xs, p⟩ := s'
          dsimp only at hI ih ⊢
          have h5 := hI.1
          have hpl := hI.2.2.1
          refine .seq ?_
          refine .region ?_   -- R13 wire.go:156
          refine .rd (.lt rfl rfl) ?_
          refine .nil ?_
          refine .seq ?_
          refine .condP rfl (fun h13 => ?_) (fun h13 => ?_)
          · refine .skip ?_
            refine .seq ?_
            refine .block ?_
            refine .seq ?_
            refine .region ?_   -- R14 wire.go:156
            refine .rd (.indexA1 Try.underlying74 na73 ts73 rfl rfl (by omega) (by omega) (by rw [Int.toNat_natCast, Nat.mul_one]; exact ptr_at b7 (by omega))) ?_
            refine .rd (.assign rfl) ?_
            refine .nil ?_
            refine .region ?_   -- R15 wire.go:157
            refine .rd (.move rfl) ?_
            refine .rd (.move rfl) ?_
            refine .fn rfl rfl (.cons (.tail .head) .nil) (fun _ _ _ => trivial) (rdint_ok b45 p (by omega)) (fun v G1 hq => ?_)
            obtain ⟨rfl, rfl⟩ := hq
            simp only [List.cons_append, List.nil_append]
            refine .rd (.nilCheck rfl) ?_
            refine .ef0 (.store ts3 rfl rfl (.tail (.tail .head)) rfl (by rw [List.length_append, vec_len h5]; show xs.length + 1 ≤ 5 + 1; omega)) ?_
            rintro _ _ rfl
            refine .cast (X' := blk b7 (vec (xs ++ [(rdI p).1]) ++ [.slice none 0 0]) 27) (by rw [vec_set (by omega)]) ?_
            refine .nil ?_
            refine .inBlock ?_
            refine .region ?_   -- R16 wire.go:156
            refine .rd (.add rfl rfl (by omega) (by omega)) ?_
            refine .rd (.move rfl) ?_
            refine .nil ?_
            exact (ih (xs ++ [(rdI p).1], (rdI p).2) ⟨by show (xs ++ [_]).length ≤ 5; rw [List.length_append]; show xs.length + 1 ≤ 5; omega, all_snoc hI.2.1 (rint_i64 _), Nat.le_trans (rdI_len p) hI.2.2.1, pMany_next (hI.2.2.2.rdI (f := fun xs x => xs ++ [x]))⟩ (by show 5 - (xs ++ [_]).length < 5 - xs.length; rw [List.length_append]; show 5 - (xs.length + 1) < _; omega)).to (.cons rfl (.cons rfl (.cons rfl (.cons rfl (.cons rfl (.cons (by show _ = some (Value.int .i64 ((xs ++ [(rdI p).1]).length : Int)); rw [List.length_append]; rfl) .nil)))))) (.cons (.tail (.tail .head)) (.cons (.tail .head) (.cons .head (.cons .head .nil))))
          · obtain ⟨x0, x1, x2, x3, x4, rfl⟩ := five_of (show xs.length = 5 by omega)
            obtain ⟨_, hxs, hpl', hFol⟩ := hI
            clear ih h5 hpl
            have hpl := hpl'
            refine .perm (.cons (.tail (.tail .head)) (.cons .head (.cons .head (.cons .head .nil)))) ?_
            refine .cast (X' := blk b7 [.int .i64 x0, .int .i64 x1, .int .i64 x2, .int .i64 x3, .int .i64 x4, .slice none 0 0] 27) (rfl) ?_
            refine .exit rfl ?_
            refine .seq ?_
            refine .seq ?_
            refine .region ?_   -- R17 wire.go:159
            refine .rd (.move rfl) ?_
            refine .fn rfl rfl (.cons (.tail (.tail .head)) .nil) (fun _ _ _ => trivial) (rdint_ok b45 p (by omega)) (fun v G1 hq => ?_)
            obtain ⟨rfl, rfl⟩ := hq
            simp only [List.cons_append, List.nil_append]
            refine .rd (.assign rfl) ?_
            refine .nil ?_
            have hH : Fol (rdI p).2.2 (rdI p).2.1 (pHead t) ([x0, x1, x2, x3, x4], (rdI p).1) := hFol.rdI (f := fun a b => (a, b))
            have hni := rint_i64 p.1
            have hq1 := Nat.le_trans (rdI_len p) hpl
            obtain ⟨n, hn⟩ : ∃ n, n = (rdI p).1 := ⟨_, rfl⟩
            obtain ⟨q, hq⟩ : ∃ q, q = (rdI p).2 := ⟨_, rfl⟩
            rw [← hn, ← hq] at hH
            rw [← hq] at hq1
            have hni' : i64 n := by rw [hn]; exact hni
            obtain ⟨hn1, hn2⟩ := hni'
            rw [← hq]
            refine .alter (t := 10) (v' := .int .i64 (n - (([] : List Rec).length : Int))) rfl (by rw [hn]; simp) ?_
            clear hni hn hq hFol
            refine .nilArr 65 3 none ?_
            refine .block ?_
            refine .loop (σ := List Rec × Rdr × Option Addr × Nat) (fun ⟨rs, p, a', c'⟩ => Far n rs ∧ p.1.length ≤ 4096 ∧ Fol p.2 p.1 (pPart rs.length t) (([x0, x1, x2, x3, x4], n), rs)) (fun ⟨rs, p, a', c'⟩ => 65 - rs.length) (fun ⟨rs, p, a', c'⟩ => [(2, .pointer (some ⟨b2, 0, none⟩)), (5, .int .i64 (four s : Int)), (6, .pointer (some ⟨b45, 0, none⟩)), (7, .pointer (some ⟨b7, 0, none⟩)), (10, .int .i64 (n - (rs.length : Int)))]) (fun ⟨rs, p, a', c'⟩ => [blk b2 [.int .i64 0, .int .i64 0, .int .i64 0, .int .i64 0, .int .i64 0, .slice none 0 0] 27, blk b45 [.string (str p.1), .bool p.2] 72, blk b7 [.int .i64 x0, .int .i64 x1, .int .i64 x2, .int .i64 x3, .int .i64 x4, .slice a' rs.length c'] 27, arr 65 3 a' c' (rs.flatMap Rec.cells), R]) ([], q, none, 0) ⟨.nil n, hq1, pPart_zero hH⟩ (.cons rfl (.cons rfl (.cons rfl (.cons rfl (.cons rfl .nil))))) (.cons (.tail (.tail (.tail .head))) (.cons (.tail .head) (.cons (.tail .head) (.cons .head (.cons .head .nil))))) (fun s' hI ih => ?_)
            obtain ⟨rs, p, a', c'⟩ := s'
            dsimp only at hI ih ⊢
            have hm := hI.1.most
            have hpl := hI.2.1
            refine .seq ?_
            refine .seq ?_
            refine .region ?_   -- R18 wire.go:159
            refine RunO.join 14 75 (decide (0 < n - (rs.length : Int) ∧ p.2 = true ∧ rs.length ≤ 64)) ?_ ?_
            · refine .rd (.move rfl) ?_
              refine .rd (.gt rfl rfl) ?_
              refine .rd (.move rfl) ?_
              refine .split (t := 64) rfl (fun g18_2 => ?_) (fun g18_2 => ?_)
              · replace g18_2 := of_decide_eq_true g18_2
                refine .on (t := 64) rfl rfl ?_
                refine .rd (.move rfl) ?_
                refine .on (t := 64) rfl rfl ?_
                refine .rd (.nilCheck rfl) ?_
                refine .on (t := 64) rfl rfl ?_
                refine .rd (.fieldAddr fd72_1 rfl) ?_
                refine .on (t := 64) rfl rfl ?_
                refine .rd (.ld na4 rfl (.tail .head) rfl) ?_
                refine .rd (.pickT rfl rfl) ?_
                refine .rd (.move rfl) ?_
                refine .split (t := 70) rfl (fun g18_8 => ?_) (fun g18_8 => ?_)
                · refine .on (t := 70) rfl rfl ?_
                  refine .rd (.fieldAddr fd27_5 rfl) ?_
                  refine .on (t := 70) rfl rfl ?_
                  refine .rd (.ld na25 rfl (.tail (.tail .head)) rfl) ?_
                  refine .on (t := 70) rfl rfl ?_
                  refine .rd (.lenL rfl rfl Try.underlying25 rfl) ?_
                  refine .on (t := 70) rfl rfl ?_
                  refine .rd (.le rfl rfl) ?_
                  refine .rd (.pickT rfl rfl) ?_
                  refine .nil ⟨rfl, ?_, by repeat (first | exact Le.refl _ | refine Le.skip rfl ?_)⟩
                  exact congrArg (fun x => some (Value.bool x)) (decide_eq_decide.2 (by rw [g18_8]; exact ⟨fun h => ⟨by omega, rfl, by omega⟩, fun h => by have := h.2.2; omega⟩))
                · refine .off (t := 70) rfl rfl rfl ?_
                  refine .off (t := 70) rfl rfl rfl ?_
                  refine .off (t := 70) rfl rfl rfl ?_
                  refine .off (t := 70) rfl rfl rfl ?_
                  refine .rd (.pickF rfl rfl) ?_
                  refine .nil ⟨rfl, ?_, by repeat (first | exact Le.refl _ | refine Le.skip rfl ?_)⟩
                  exact congrArg (fun x => some (Value.bool x)) ((decide_eq_false (p := 0 < n - (rs.length : Int) ∧ p.2 = true ∧ rs.length ≤ 64) (by rw [g18_8]; simp)).symm)
              · replace g18_2 := of_decide_eq_false g18_2
                refine .off (t := 64) rfl rfl rfl ?_
                refine .off (t := 64) rfl rfl rfl ?_
                refine .off (t := 64) rfl rfl rfl ?_
                refine .off (t := 64) rfl rfl rfl ?_
                refine .rd (.pickF rfl rfl) ?_
                refine .rd (.move rfl) ?_
                refine .off (t := 70) rfl rfl rfl ?_
                refine .off (t := 70) rfl rfl rfl ?_
                refine .off (t := 70) rfl rfl rfl ?_
                refine .off (t := 70) rfl rfl rfl ?_
                refine .rd (.pickF rfl rfl) ?_
                refine .nil ⟨rfl, ?_, by repeat (first | exact Le.refl _ | refine Le.skip rfl ?_)⟩
                exact congrArg (fun x => some (Value.bool x)) ((decide_eq_false (by omega)).symm)
            refine .nil ?_
            refine .condP rfl (fun h18 => ?_) (fun h18 => ?_)
            · refine .skip ?_
              refine .seq ?_
              refine .block ?_
              refine .seq ?_
              have hrl := rdI_len p
              have hrl2 := rdT_len 1000 (rdI p).2
              refine .region ?_   -- R20 wire.go:160
              refine .rd (.move rfl) ?_
              refine .fn rfl rfl (.cons (.tail .head) .nil) (fun _ _ _ => trivial) (rdint_ok b45 p (by omega)) (fun v G1 hq => ?_)
              obtain ⟨rfl, rfl⟩ := hq
              simp only [List.cons_append, List.nil_append]
              refine .rd (.build rfl (bld65_2 _)) ?_
              refine .ef (.alloc ti65 rfl (ones.of rfl)) ?_
              rintro _ _ ⟨b11, rfl, rfl⟩
              refine .ef0 (.storeAll ts65 rfl rfl rfl .head rfl (ones.of rfl)) ?_
              rintro _ _ rfl
              refine .nil ?_
              refine .seq ?_
              refine .region ?_   -- R21 wire.go:161
              refine .rd (.move rfl) ?_
              refine .fn rfl rfl (.cons (.tail .head) .nil) (fun _ _ _ => trivial) (rdtext_ok b45 (rdI p).2 1000 (by omega)) (fun v G1 hq => ?_)
              obtain ⟨rfl, rfl⟩ := hq
              simp only [List.cons_append, List.nil_append]
              refine .rd (.fieldAddr fd65_0 rfl) ?_
              refine .ef0 (.store ts9 rfl rfl (.tail .head) rfl (Nat.le_of_ble_eq_true rfl)) ?_
              rintro _ _ rfl
              refine .nil ?_
              refine .seq ?_
              refine .region ?_   -- R22 wire.go:162
              refine .rd (.move rfl) ?_
              refine .fn rfl rfl (.cons (.tail .head) .nil) (fun _ _ _ => trivial) (rdtext_ok b45 (rdT 1000 (rdI p).2).2 1000 (by omega)) (fun v G1 hq => ?_)
              obtain ⟨rfl, rfl⟩ := hq
              simp only [List.cons_append, List.nil_append]
              refine .rd (.fieldAddr fd65_1 rfl) ?_
              refine .ef0 (.store ts9 rfl rfl (.tail .head) rfl (Nat.le_of_ble_eq_true rfl)) ?_
              rintro _ _ rfl
              refine .nil ?_
              obtain ⟨tm, htm⟩ : ∃ tm, tm = (rdI p).1 := ⟨_, rfl⟩
              obtain ⟨k, hk⟩ : ∃ k, k = (rdT 1000 (rdI p).2).1 := ⟨_, rfl⟩
              obtain ⟨v, hv⟩ : ∃ v, v = (rdT 1000 (rdT 1000 (rdI p).2).2).1 := ⟨_, rfl⟩
              refine .cast (X' := blk b11 (Rec.cells ⟨k, v, tm⟩) 65) (by rw [htm, hk, hv]; rfl) ?_
              refine .region ?_   -- R23 wire.go:163
              refine .rd (.fieldAddr fd27_5 rfl) ?_
              refine .rd (.ld na25 rfl (.tail (.tail (.tail .head))) rfl) ?_
              refine .rd (.ldN ia65 ts65 rfl .head rfl) ?_
              refine .ef (.buildOne (cs := Rec.cells ⟨k, v, tm⟩) Try.underlying25 ti65 (by decide) rfl rfl rfl (ones.of rfl)) ?_
              rintro _ _ ⟨bs, rfl, rfl⟩
              refine .ef (.append rfl rfl Try.underlying25 ti65 rfl (ones.of rfl) (by decide) (by decide) rfl rfl (.tail (.tail (.tail (.tail (.tail .head))))) (n := rs.length) (m := 1) (by rw [flat_length Rec.cells_len]) (.srcBlk (ys := Rec.cells ⟨k, v, tm⟩) .head Try.underlying25 rfl (by decide)) (by omega)) ?_
              rintro _ _ ⟨ra, rc, rfl, rn, rfl⟩
              refine .rd (.fieldAddr fd27_5 rfl) ?_
              refine .ef0 (.store ts25 rfl rfl (.tail (.tail (.tail (.tail (.tail .head))))) rfl (Nat.le_of_ble_eq_true rfl)) ?_
              rintro _ _ rfl
              refine .nil ?_
              refine .perm (.cons (.tail .head) (.cons .head (.cons .head (.cons .head (.cons .head (.cons .head (.cons .head .nil))))))) ?_
              refine .cast (X' := arr 65 3 ra rc ((rs ++ [(⟨k, v, tm⟩ : Rec)]).flatMap Rec.cells)) (by rw [List.flatMap_append]; simp) ?_
              refine .perm (.cons (.tail .head) (.cons .head (.cons .head (.cons .head (.cons .head (.cons .head (.cons .head .nil))))))) ?_
              refine .cast (X' := blk b7 [.int .i64 x0, .int .i64 x1, .int .i64 x2, .int .i64 x3, .int .i64 x4, .slice ra (rs ++ [(⟨k, v, tm⟩ : Rec)]).length rc] 27) (by rw [List.length_append]; rfl) ?_
              refine .inBlock ?_
              refine .region ?_   -- R19 wire.go:159
              refine .rd (.move rfl) ?_
              refine .rd (.sub rfl rfl (by omega) (by omega)) ?_
              refine .rd (.assign rfl) ?_
              refine .nil ?_
              have hf0 := ((hI.2.2.rdI (f := fun a b => (a, b))).rdT 1000 (f := fun a b => (a, b))).rdT 1000 (f := fun a b => (a, b))
              rw [← htm, ← hk, ← hv] at hf0
              have hpp := pPart_next (r := ⟨k, v, tm⟩) hf0
              exact (ih (rs ++ [(⟨k, v, tm⟩ : Rec)], (rdT 1000 (rdT 1000 (rdI p).2).2).2, ra, rc) ⟨hI.1.snoc (by omega) (by omega) ⟨by show i64 tm; rw [htm]; exact rint_i64 _, by have := rdT_most (m := 1000) (rdI p).2 (by decide); show k.length ≤ 1000; rw [hk]; omega, by have := rdT_most (m := 1000) (rdT 1000 (rdI p).2).2 (by decide); show v.length ≤ 1000; rw [hv]; omega⟩, Nat.le_trans (rdT_len _ _) (Nat.le_trans (rdT_len _ _) (Nat.le_trans (rdI_len p) hI.2.1)), by rw [List.length_append]; exact hpp⟩ (by show 65 - (rs ++ [_]).length < _; rw [List.length_append]; show 65 - (rs.length + 1) < 65 - rs.length; omega)).to (.cons rfl (.cons rfl (.cons rfl (.cons rfl (.cons (by show _ = some (Value.int .i64 (n - ((rs ++ [(⟨k, v, tm⟩ : Rec)]).length : Int))); rw [List.length_append]; exact congrArg (fun z => some (Value.int .i64 z)) (by show n - (rs.length : Int) - 1 = n - ((rs.length + 1 : Nat) : Int); omega)) .nil))))) (.cons (.tail (.tail (.tail (.tail (.tail .head))))) (.cons (.tail (.tail (.tail (.tail .head)))) (.cons .head (.cons .head (.cons (.tail (.tail .head)) .nil)))))
            · have hfb : (bat [x0, x1, x2, x3, x4] rs).fits := bat_fits rfl hxs hI.1.ok hm
              have hle := hI.1.le
              refine .exit rfl ?_
              refine .seq ?_
              refine .seq ?_
              refine .region ?_   -- R24 wire.go:165
              refine RunO.join 17 109 (!decide (p.2 = true ∧ p.1 = [] ∧ right (bat [x0, x1, x2, x3, x4] rs) = 0)) ?_ ?_
              · refine .rd (.move rfl) ?_
                refine .rd (.nilCheck rfl) ?_
                refine .rd (.fieldAddr fd72_1 rfl) ?_
                refine .rd (.ld na4 rfl (.tail .head) rfl) ?_
                refine .rd (.not rfl) ?_
                refine .rd (.move rfl) ?_
                refine .split (t := 98) rfl (fun g24_5 => ?_) (fun g24_5 => ?_)
                · refine .off (t := 98) rfl rfl rfl ?_
                  refine .off (t := 98) rfl rfl rfl ?_
                  refine .off (t := 98) rfl rfl rfl ?_
                  refine .off (t := 98) rfl rfl rfl ?_
                  refine .off (t := 98) rfl rfl rfl ?_
                  refine .rd (.pickT rfl rfl) ?_
                  refine .rd (.move rfl) ?_
                  refine .off (t := 105) rfl rfl rfl ?_
                  refine .off (t := 105) rfl rfl rfl ?_
                  refine .off (t := 105) rfl rfl rfl ?_
                  refine .rd (.pickT rfl rfl) ?_
                  refine .nil ⟨rfl, ?_, by repeat (first | exact Le.refl _ | refine Le.skip rfl ?_)⟩
                  exact congrArg (fun x => some (Value.bool x)) (by simp [g24_5])
                · refine .on (t := 98) rfl rfl ?_
                  refine .rd (.move rfl) ?_
                  refine .on (t := 98) rfl rfl ?_
                  refine .rd (.nilCheck rfl) ?_
                  refine .on (t := 98) rfl rfl ?_
                  refine .rd (.fieldAddr fd72_0 rfl) ?_
                  refine .on (t := 98) rfl rfl ?_
                  refine .rd (.ld na9 rfl (.tail .head) rfl) ?_
                  refine .on (t := 98) rfl rfl ?_
                  refine .rd (.neT rfl rfl) ?_
                  refine .rd (.pickF rfl rfl) ?_
                  refine .rd (.move rfl) ?_
                  refine .split (t := 105) rfl (fun g24_12 => ?_) (fun g24_12 => ?_)
                  · simp at g24_12
                    refine .off (t := 105) rfl rfl rfl ?_
                    refine .off (t := 105) rfl rfl rfl ?_
                    refine .off (t := 105) rfl rfl rfl ?_
                    refine .rd (.pickT rfl rfl) ?_
                    refine .nil ⟨rfl, ?_, by repeat (first | exact Le.refl _ | refine Le.skip rfl ?_)⟩
                    exact congrArg (fun x => some (Value.bool x)) (by simp [g24_12])
                  · simp at g24_12
                    refine .on (t := 105) rfl rfl ?_
                    refine .rd (.ldN ia27 ts27 rfl (.tail (.tail .head)) rfl) ?_
                    refine .on (t := 105) rfl rfl ?_
                    refine .fn rfl rfl .nil (Knows.arr (.tail (.tail (.tail .head)))) (Right_ok (bat [x0, x1, x2, x3, x4] rs) a' c' hfb) (fun v G1 hq => ?_)
                    obtain ⟨rfl, rfl⟩ := hq
                    simp only [List.nil_append]
                    refine .on (t := 105) rfl rfl ?_
                    refine .rd (.neI rfl rfl) ?_
                    refine .rd (.pickF rfl rfl) ?_
                    refine .nil ⟨rfl, ?_, by repeat (first | exact Le.refl _ | refine Le.skip rfl ?_)⟩
                    exact congrArg (fun x => some (Value.bool x)) (by simp [g24_5, g24_12])
              refine .nil ?_
              refine .condN rfl (fun h24 => ?_) (fun h24 => ?_)
              · have hno : pBatch t = none := by
                  refine pBatch_no hI.2.2 h24 (fun hg h1 h2 => ?_) (fun hg h1 h2 => ?_) (fun hg => hH.head hI.2.2)
                  · have hle' : (rs.length : Int) ≤ n := by
                      rcases hle with rfl | hle
                      · simp; omega
                      · exact hle
                    have h0 : ¬ 0 < n - (rs.length : Int) := fun h => h18 ⟨h, hg, by omega⟩
                    omega
                  · rcases hle with rfl | hle
                    · simp; omega
                    · exact hle
                refine .seq ?_
                refine .region ?_   -- R25 wire.go:166
                refine .rd (.build rfl (bld27_)) ?_
                refine .ef0 (.storeAll (vs := [.int .i64 0, .int .i64 0, .int .i64 0, .int .i64 0, .int .i64 0, .slice none 0 0]) ts27 rfl rfl rfl .head rfl (ones.of rfl)) ?_
                rintro _ _ rfl
                refine .rd (.assign rfl) ?_
                refine .rd (.assign rfl) ?_
                refine .nil ?_
                rw [readBatch_no (s := s) (by omega) (by omega) (by omega) ht hcs hno]
                refine .nilArr 65 3 none ?_
                refine .retP Try.func17 (.cons (.blkN ia27 ts27 rfl (.tail .head) rfl) (.cons (.tmp rfl) (.cons (.tmp rfl) .nil))) (.cons .head (.cons (.tail (.tail (.tail (.tail .head)))) .nil)) ?_
                exact ⟨[_], ⟨none, 0, rfl, rfl⟩, rfl⟩
              · have hrm : 1 ≤ rs.length ∧ rs.length ≤ 64 := right_many h24.2.2
                have hrn : (rs.length : Int) = n := by
                  have h0 : ¬ 0 < n - (rs.length : Int) := fun h => h18 ⟨h, h24.1, hrm.2⟩
                  rcases hle with rfl | hle
                  · simp at hrm
                  · omega
                have hyes : pBatch t = some (bat [x0, x1, x2, x3, x4] rs) := pBatch_yes hI.2.2 hrn h24.1 h24.2.1 h24.2.2 (by omega)
                refine .skip ?_
                refine .seq ?_
                refine .region ?_   -- R26 wire.go:168
                refine .rd (.ldN ia27 ts27 rfl (.tail (.tail .head)) rfl) ?_
                refine .rd (.move rfl) ?_
                refine .rd (.add rfl rfl (by omega) (by omega)) ?_
                refine .ef0 (.storeAll (vs := Bat.cells (bat [x0, x1, x2, x3, x4] rs) a' c') ts27 rfl rfl rfl .head rfl (ones.of rfl)) ?_
                rintro _ _ rfl
                refine .rd (.assign rfl) ?_
                refine .rd (.assign rfl) ?_
                refine .nil ?_
                rw [readBatch_yes (s := s) (by omega) (by omega) (by omega) ht hcs hyes]
                refine .retP Try.func17 (.cons (.blkN ia27 ts27 rfl .head rfl) (.cons (.tmp rfl) (.cons (.tmp rfl) .nil))) (.cons (.tail (.tail (.tail .head))) (.cons (.tail (.tail (.tail .head))) .nil)) ?_
                exact ⟨[_], ⟨a', c', rfl, rfl⟩, rfl⟩

end Go.Proofs.Ytllpkagplfmlbaa

