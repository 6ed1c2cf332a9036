/- Part 3 of a claim's texts: rules for the machine's steps, and steps through functions of the program, under the conditions that each theorem states. -/
import Derived.Test.YtoglbebcdjdkiaaGreatDoorProg
import Derived.KernelRfl
import Derived.Lib.Strings
import Derived.Test.YtoglbebcdjdkiaaGreatDoorAg0
import Derived.Test.YtoglbebcdjdkiaaGreatDoorAg1
import Derived.Test.YtoglbebcdjdkiaaGreatDoorAg2
set_option linter.unusedVariables false
/- Chapter 6: texts of chapter 3 (wire) under this seat's numbers. -/
namespace Go.Proofs.YtoglbebcdjdkiaaGreatDoor
open Go Go.Sp
set_option linter.unusedVariables false
namespace wire14
theorem ti27 : TI Tryz.prog 41 6 64 (.agg #[.int .i64 0, .int .i64 0, .int .i64 0, .int .i64 0, .int .i64 0, .slice none 0 0]) := .of (by kernel_rfl)
theorem bld27_  (w : World) : (Instr.build 41 (([] : List Nat).zip []).toArray).run Tryz.prog w = .ok (.agg #[.int .i64 0, .int .i64 0, .int .i64 0, .int .i64 0, .int .i64 0, .slice none 0 0]) w := by kernel_rfl
theorem ts27 : TS Tryz.prog 41 6 := .of (by kernel_rfl)
theorem ia27 : IsAgg Tryz.prog 41 := ⟨_, Tryz.underlying41, trivial⟩
theorem bld72_0_1 (x0 : ByteArray) (x1 : Bool) (w : World) : (Instr.build 186 (([0, 1] : List Nat).zip [.string x0, .bool x1]).toArray).run Tryz.prog w = .ok (.agg #[.string x0, .bool x1]) w := by kernel_rfl
theorem bld74_0_1_2_3_4 (x0 : Option Addr) (x1 : Option Addr) (x2 : Option Addr) (x3 : Option Addr) (x4 : Option Addr) (w : World) : (Instr.build 188 (([0, 1, 2, 3, 4] : List Nat).zip [.pointer x0, .pointer x1, .pointer x2, .pointer x3, .pointer x4]).toArray).run Tryz.prog w = .ok (.agg #[.pointer x0, .pointer x1, .pointer x2, .pointer x3, .pointer x4]) w := by kernel_rfl
theorem na73 : NotAgg Tryz.prog 187 := ⟨_, Tryz.underlying187, trivial⟩
theorem ts73 : TS Tryz.prog 187 1 := .of (by kernel_rfl)
theorem ts3 : TS Tryz.prog 3 1 := .of (by kernel_rfl)
theorem na4 : NotAgg Tryz.prog 4 := ⟨_, Tryz.underlying4, trivial⟩
theorem fd27_5 : FD Tryz.prog 41 5 5 := .of Tryz.underlying41 (by kernel_rfl)
theorem na25 : NotAgg Tryz.prog 39 := ⟨_, Tryz.underlying39, trivial⟩
theorem bld65_2 (x0 : Int) (w : World) : (Instr.build 99 (([2] : List Nat).zip [.int .i64 x0]).toArray).run Tryz.prog w = .ok (.agg #[.string ⟨#[]⟩, .string ⟨#[]⟩, .int .i64 x0]) w := by kernel_rfl
theorem ti65 : TI Tryz.prog 99 3 40 (.agg #[.string ⟨#[]⟩, .string ⟨#[]⟩, .int .i64 0]) := .of (by kernel_rfl)
theorem ts65 : TS Tryz.prog 99 3 := .of (by kernel_rfl)
theorem fd65_0 : FD Tryz.prog 99 0 0 := .of Tryz.underlying99 (by kernel_rfl)
theorem ts9 : TS Tryz.prog 9 1 := .of (by kernel_rfl)
theorem fd65_1 : FD Tryz.prog 99 1 1 := .of Tryz.underlying99 (by kernel_rfl)
theorem ia65 : IsAgg Tryz.prog 99 := ⟨_, Tryz.underlying99, trivial⟩
theorem ts25 : TS Tryz.prog 39 1 := .of (by kernel_rfl)
theorem na9 : NotAgg Tryz.prog 9 := ⟨_, Tryz.underlying9, trivial⟩
end wire14
open wire14
set_option maxHeartbeats 1000000 in
set_option maxRecDepth 20000 in
theorem ReadBatch_ok (s : List UInt8) (hl : s.length ≤ 9000000000000000000) : Cn Tryz.prog 85 [.string (str s)] (fun _ => True) [] fun v G => ∃ a' c', v = .tuple #[.agg ((readBatch s).1.cells a' c').toArray, .int .i64 (readBatch s).2.1, .int .i64 (readBatch s).2.2] ∧ G = [arr 99 3 a' c' ((readBatch s).1.recs.flatMap Rec.cells)] := by
 refine .enter Tryz.func85 rfl (by kernel_rfl) rfl fun R k => ?_
 refine .goO fds 2 ?_
 refine .ef (.alloc ti27 rfl (ones.of rfl)) ?_
 rintro _ _ ⟨b2, rfl, rfl⟩
 refine .goO fds 7 ?_
 refine .rd (.lenT rfl rfl Tryz.underlying9 rfl) ?_
 refine .goR fds 2 ?_
 refine .condP rfl (fun h2 => ?_) (fun h2 => ?_)
 ·
  refine .goO fds 2 ?_
  refine .rd (.build rfl (bld27_)) ?_
  refine .ef0 (.storeAll (vs := [.int .i64 0, .int .i64 0, .int .i64 0, .int .i64 0, .int .i64 0, .slice none 0 0]) ts27 rfl rfl rfl .head rfl (ones.of rfl)) ?_
  rintro _ _ rfl
  refine .goR fds 3 ?_
  rw [readBatch_short (s := s) (by omega)]
  refine .nilArr 99 3 none ?_
  refine .retP Tryz.func85 (.cons (.blkN ia27 ts27 rfl (.tail .head) rfl) (.cons (.tmp rfl) (.cons (.tmp rfl) .nil))) (.cons .head (.cons (.tail .head) .nil)) ?_
  exact ⟨[_], ⟨none, 0, rfl, rfl⟩, rfl⟩
 ·
  refine .goO fds 4 ?_
  refine .fn rfl rfl .nil (fun _ _ _ => trivial) (four_ok s (by omega)) (fun v G1 hq => ?_)
  obtain ⟨rfl, rfl⟩ := hq
  simp only [List.nil_append]
  refine .goR fds 10 ?_
  refine .condP rfl (fun h4 => ?_) (fun h4 => ?_)
  ·
   refine .goO fds 2 ?_
   refine .rd (.build rfl (bld27_)) ?_
   refine .ef0 (.storeAll (vs := [.int .i64 0, .int .i64 0, .int .i64 0, .int .i64 0, .int .i64 0, .slice none 0 0]) ts27 rfl rfl rfl .head rfl (ones.of rfl)) ?_
   rintro _ _ rfl
   refine .goR fds 3 ?_
   rw [readBatch_long (s := s) (by omega) (by omega)]
   refine .nilArr 99 3 none ?_
   refine .retP Tryz.func85 (.cons (.blkN ia27 ts27 rfl (.tail .head) rfl) (.cons (.tmp rfl) (.cons (.tmp rfl) .nil))) (.cons .head (.cons (.tail .head) .nil)) ?_
   exact ⟨[_], ⟨none, 0, rfl, rfl⟩, rfl⟩
  ·
   refine .goO fds 3 ?_
   refine .rd (.lenT rfl rfl Tryz.underlying9 rfl) ?_
   refine .rd (.sub rfl rfl (by omega) (by omega)) ?_
   refine .goR fds 4 ?_
   refine .condP rfl (fun h6 => ?_) (fun h6 => ?_)
   ·
    refine .goO fds 2 ?_
    refine .rd (.build rfl (bld27_)) ?_
    refine .ef0 (.storeAll (vs := [.int .i64 0, .int .i64 0, .int .i64 0, .int .i64 0, .int .i64 0, .slice none 0 0]) ts27 rfl rfl rfl .head rfl (ones.of rfl)) ?_
    rintro _ _ rfl
    refine .goR fds 3 ?_
    rw [readBatch_cut (s := s) (by omega) (by omega) (by omega)]
    refine .nilArr 99 3 none ?_
    refine .retP Tryz.func85 (.cons (.blkN ia27 ts27 rfl (.tail .head) rfl) (.cons (.tmp rfl) (.cons (.tmp rfl) .nil))) (.cons .head (.cons (.tail .head) .nil)) ?_
    exact ⟨[_], ⟨none, 0, rfl, rfl⟩, rfl⟩
   ·
    refine .seq ?_
    have h4l := four_lt s
    obtain ⟨t, ht⟩ : ∃ t, t = (s.drop 8).take (four s) := ⟨_, rfl⟩
    have htl : t.length ≤ 4088 := by rw [ht, List.length_take]; omega
    refine .draws [] [] (by kernel_rfl) ?_
    refine .goD fds [0, 1] ?_
    refine .rp 2 rfl (by kernel_rfl) (by kernel_rfl) (by kernel_rfl) (Reads.pure (.add rfl rfl (by omega) (by omega))) ?_
    refine .alter (t := 32) (v' := .int .i64 ((8 + four s : Nat) : Int)) rfl (by rw [Int.natCast_add]; rfl) ?_
    refine .rp 3 rfl (by kernel_rfl) (by kernel_rfl) (by kernel_rfl) (Reads.pure (.sliceT (l := s) (a := 8) (h := (8 + four s)) Tryz.underlying9 rfl ⟨_, rfl⟩ ⟨_, rfl⟩ (by omega) (by omega))) ?_
    refine .alter (t := 33) (v' := .string (str t)) rfl (by rw [ht, Nat.add_sub_cancel_left]) ?_
    refine .goD fds [5] ?_
    refine .rp 6 rfl (by kernel_rfl) (by kernel_rfl) (by kernel_rfl) (Reads.pure (.sliceT (l := s) (a := 4) (h := s.length) Tryz.underlying9 rfl ⟨_, rfl⟩ rfl (by omega) (by omega))) ?_
    refine .alter (t := 36) (v' := .string (str (s.drop 4))) rfl (by rw [List.take_of_length_le (by rw [List.length_drop]; omega)]) ?_
    refine .ef 4 (by kernel_rfl) rfl (.fn rfl rfl .nil (fun _ _ _ => trivial) (Crc_ok t (by omega))) ?_
    rintro v _ ⟨G1, hq, rfl⟩
    obtain ⟨rfl, rfl⟩ := hq
    simp only [List.nil_append]
    refine ⟨.inl (by kernel_rfl), ?_⟩
    refine .ef 7 (by kernel_rfl) rfl (.fn rfl rfl .nil (fun _ _ _ => trivial) (four_ok (s.drop 4) (by rw [List.length_drop]; omega))) ?_
    rintro v _ ⟨G1, hq, rfl⟩
    obtain ⟨rfl, rfl⟩ := hq
    simp only [List.nil_append]
    refine ⟨.inl (by kernel_rfl), ?_⟩
    refine .goD fds [8, 9] ?_
    refine .done (by kernel_rfl) ?_
    refine .condN rfl (fun h8 => ?_) (fun h8 => ?_)
    ·
     refine .goO fds 2 ?_
     refine .rd (.build rfl (bld27_)) ?_
     refine .ef0 (.storeAll (vs := [.int .i64 0, .int .i64 0, .int .i64 0, .int .i64 0, .int .i64 0, .slice none 0 0]) ts27 rfl rfl rfl .head rfl (ones.of rfl)) ?_
     rintro _ _ rfl
     refine .goR fds 3 ?_
     rw [readBatch_sum (s := s) (by omega) (by omega) (by omega) ht (by omega)]
     refine .nilArr 99 3 none ?_
     refine .retP Tryz.func85 (.cons (.blkN ia27 ts27 rfl (.tail .head) rfl) (.cons (.tmp rfl) (.cons (.tmp rfl) .nil))) (.cons .head (.cons (.tail .head) .nil)) ?_
     exact ⟨[_], ⟨none, 0, rfl, rfl⟩, rfl⟩
    ·
     have hcs : (crc t).toNat = four (s.drop 4) := by omega
     refine .goO fds 6 ?_
     refine .rd (.add rfl rfl (by omega) (by omega)) ?_
     refine .alter (t := 42) (v' := .int .i64 ((8 + four s : Nat) : Int)) rfl (by rw [Int.natCast_add]; rfl) ?_
     refine .rd (.sliceT (l := s) (a := 8) (h := (8 + four s)) Tryz.underlying9 rfl ⟨_, rfl⟩ ⟨_, rfl⟩ (by omega) (by omega)) ?_
     refine .alter (t := 43) (v' := .string (str t)) rfl (by rw [ht, Nat.add_sub_cancel_left]) ?_
     refine .rd (.build rfl (bld72_0_1 _ _)) ?_
     refine .ef (.box rfl rfl (ones.of rfl)) ?_
     rintro _ _ ⟨b45, rfl, rfl⟩
     refine .goO fds 4 ?_
     refine .ef (.alloc ti27 rfl (ones.of rfl)) ?_
     rintro _ _ ⟨b7, rfl, rfl⟩
     refine .goO fds 9 ?_
     refine .rd (.build rfl (bld74_0_1_2_3_4 _ _ _ _ _)) ?_
     refine .goR fds 3 ?_
     refine .loop (σ := List Int × Rdr) (fun ⟨xs, p⟩ => xs.length ≤ 5 ∧ (∀ x ∈ xs, i64 x) ∧ p.1.length ≤ 4096 ∧ Fol p.2 p.1 (pMany pI xs.length t) xs) (fun ⟨xs, p⟩ => 5 - xs.length) (fun ⟨xs, p⟩ => [(2, .pointer (some ⟨b2, 0, none⟩)), (5, .int .i64 (four s : Int)), (6, .pointer (some ⟨b45, 0, none⟩)), (7, .pointer (some ⟨b7, 0, none⟩)), (51, .agg #[.pointer (some ⟨b7, 0, none⟩), .pointer (some ⟨b7, 1, none⟩), .pointer (some ⟨b7, 2, none⟩), .pointer (some ⟨b7, 3, none⟩), .pointer (some ⟨b7, 4, none⟩)]), (52, .int .i64 (xs.length : Int))]) (fun ⟨xs, p⟩ => [blk b2 [.int .i64 0, .int .i64 0, .int .i64 0, .int .i64 0, .int .i64 0, .slice none 0 0] 41, blk b45 [.string (str p.1), .bool p.2] 186, blk b7 (vec xs ++ [.slice none 0 0]) 41, R]) ([], t, true) ⟨Nat.zero_le _, by simp, by show t.length ≤ 4096; omega, .inl ⟨rfl, rfl⟩⟩ (.cons rfl (.cons rfl (.cons rfl (.cons rfl (.cons rfl (.cons rfl .nil)))))) (.cons (.tail (.tail .head)) (.cons (.tail .head) (.cons .head (.cons .head .nil)))) (fun s' hI ih => ?_)
     obtain ⟨xs, p⟩ := s'
     dsimp only at hI ih ⊢
     have h5 := hI.1
     have hpl := hI.2.2.1
     refine .go fds 5 ?_
     refine .condP rfl (fun h13 => ?_) (fun h13 => ?_)
     ·
      refine .goO fds 5 ?_
      refine .rd (.indexA1 Tryz.underlying188 na73 ts73 rfl rfl (by omega) (by omega) (by rw [Int.toNat_natCast, Nat.mul_one]; exact ptr_at b7 (by omega))) ?_
      refine .goO fds 5 ?_
      refine .fn rfl rfl (.cons (.tail .head) .nil) (fun _ _ _ => trivial) (rdint_ok b45 p (by omega)) (fun v G1 hq => ?_)
      obtain ⟨rfl, rfl⟩ := hq
      simp only [List.cons_append, List.nil_append]
      refine .rd (.nilCheck rfl) ?_
      refine .ef0 (.store ts3 rfl rfl (.tail (.tail .head)) rfl (by rw [List.length_append, vec_len h5]; show xs.length + 1 ≤ 5 + 1; omega)) ?_
      rintro _ _ rfl
      refine .cast (X' := blk b7 (vec (xs ++ [(rdI p).1]) ++ [.slice none 0 0]) 41) (by rw [vec_set (by omega)]) ?_
      refine .goO fds 3 ?_
      refine .rd (.add rfl rfl (by omega) (by omega)) ?_
      refine .goR fds 2 ?_
      exact (ih (xs ++ [(rdI p).1], (rdI p).2) ⟨by show (xs ++ [_]).length ≤ 5; rw [List.length_append]; show xs.length + 1 ≤ 5; omega, all_snoc hI.2.1 (rint_i64 _), Nat.le_trans (rdI_len p) hI.2.2.1, pMany_next (hI.2.2.2.rdI (f := fun xs x => xs ++ [x]))⟩ (by show 5 - (xs ++ [_]).length < 5 - xs.length; rw [List.length_append]; show 5 - (xs.length + 1) < _; omega)).to (.cons rfl (.cons rfl (.cons rfl (.cons rfl (.cons rfl (.cons (by show _ = some (Value.int .i64 ((xs ++ [(rdI p).1]).length : Int)); rw [List.length_append]; rfl) .nil)))))) (.cons (.tail (.tail .head)) (.cons (.tail .head) (.cons .head (.cons .head .nil))))
     ·
      obtain ⟨x0, x1, x2, x3, x4, rfl⟩ := five_of (show xs.length = 5 by omega)
      obtain ⟨_, hxs, hpl', hFol⟩ := hI
      clear ih h5 hpl
      have hpl := hpl'
      refine .perm (.cons (.tail (.tail .head)) (.cons .head (.cons .head (.cons .head .nil)))) ?_
      refine .cast (X' := blk b7 [.int .i64 x0, .int .i64 x1, .int .i64 x2, .int .i64 x3, .int .i64 x4, .slice none 0 0] 41) (rfl) ?_
      refine .goO fds 5 ?_
      refine .fn rfl rfl (.cons (.tail (.tail .head)) .nil) (fun _ _ _ => trivial) (rdint_ok b45 p (by omega)) (fun v G1 hq => ?_)
      obtain ⟨rfl, rfl⟩ := hq
      simp only [List.cons_append, List.nil_append]
      refine .goR fds 2 ?_
      have hH : Fol (rdI p).2.2 (rdI p).2.1 (pHead t) ([x0, x1, x2, x3, x4], (rdI p).1) := hFol.rdI (f := fun a b => (a, b))
      have hni := rint_i64 p.1
      have hq1 := Nat.le_trans (rdI_len p) hpl
      obtain ⟨n, hn⟩ : ∃ n, n = (rdI p).1 := ⟨_, rfl⟩
      obtain ⟨q, hq⟩ : ∃ q, q = (rdI p).2 := ⟨_, rfl⟩
      rw [← hn, ← hq] at hH
      rw [← hq] at hq1
      have hni' : i64 n := by rw [hn]; exact hni
      obtain ⟨hn1, hn2⟩ := hni'
      rw [← hq]
      refine .alter (t := 10) (v' := .int .i64 (n - (([] : List Rec).length : Int))) rfl (by rw [hn]; simp) ?_
      clear hni hn hq hFol
      refine .nilArr 99 3 none ?_
      refine .block ?_
      refine .loop (σ := List Rec × Rdr × Option Addr × Nat) (fun ⟨rs, p, a', c'⟩ => Far n rs ∧ p.1.length ≤ 4096 ∧ Fol p.2 p.1 (pPart rs.length t) (([x0, x1, x2, x3, x4], n), rs)) (fun ⟨rs, p, a', c'⟩ => 65 - rs.length) (fun ⟨rs, p, a', c'⟩ => [(2, .pointer (some ⟨b2, 0, none⟩)), (5, .int .i64 (four s : Int)), (6, .pointer (some ⟨b45, 0, none⟩)), (7, .pointer (some ⟨b7, 0, none⟩)), (10, .int .i64 (n - (rs.length : Int)))]) (fun ⟨rs, p, a', c'⟩ => [blk b2 [.int .i64 0, .int .i64 0, .int .i64 0, .int .i64 0, .int .i64 0, .slice none 0 0] 41, blk b45 [.string (str p.1), .bool p.2] 186, blk b7 [.int .i64 x0, .int .i64 x1, .int .i64 x2, .int .i64 x3, .int .i64 x4, .slice a' rs.length c'] 41, arr 99 3 a' c' (rs.flatMap Rec.cells), R]) ([], q, none, 0) ⟨.nil n, hq1, pPart_zero hH⟩ (.cons rfl (.cons rfl (.cons rfl (.cons rfl (.cons rfl .nil))))) (.cons (.tail (.tail (.tail .head))) (.cons (.tail .head) (.cons (.tail .head) (.cons .head (.cons .head .nil))))) (fun s' hI ih => ?_)
      obtain ⟨rs, p, a', c'⟩ := s'
      dsimp only at hI ih ⊢
      have hm := hI.1.most
      have hpl := hI.2.1
      refine .goO fds 3 ?_
      refine RunO.join 14 75 (decide (0 < n - (rs.length : Int) ∧ p.2 = true ∧ rs.length ≤ 64)) ?_ ?_
      ·
       refine .go fds 3 ?_
       refine .split (t := 64) rfl (fun g18_2 => ?_) (fun g18_2 => ?_)
       ·
        replace g18_2 := of_decide_eq_true g18_2
        refine .go fds 3 ?_
        refine .on (t := 64) rfl rfl ?_
        refine .rd (.ld na4 rfl (.tail .head) rfl) ?_
        refine .go fds 2 ?_
        refine .split (t := 70) rfl (fun g18_8 => ?_) (fun g18_8 => ?_)
        ·
         refine .go fds 1 ?_
         refine .on (t := 70) rfl rfl ?_
         refine .rd (.ld na25 rfl (.tail (.tail .head)) rfl) ?_
         refine .on (t := 70) rfl rfl ?_
         refine .rd (.lenL rfl rfl Tryz.underlying39 rfl) ?_
         refine .go fds 2 ?_
         refine .nil ⟨rfl, ?_, by repeat (first | exact Le.refl _ | refine Le.skip rfl ?_)⟩
         exact congrArg (fun x => some (Value.bool x)) (decide_eq_decide.2 (by rw [g18_8]; exact ⟨fun h => ⟨by omega, rfl, by omega⟩, fun h => by have := h.2.2; omega⟩))
        ·
         refine .go fds 5 ?_
         refine .nil ⟨rfl, ?_, by repeat (first | exact Le.refl _ | refine Le.skip rfl ?_)⟩
         exact congrArg (fun x => some (Value.bool x)) ((decide_eq_false (p := 0 < n - (rs.length : Int) ∧ p.2 = true ∧ rs.length ≤ 64) (by rw [g18_8]; simp)).symm)
       ·
        replace g18_2 := of_decide_eq_false g18_2
        refine .go fds 11 ?_
        refine .nil ⟨rfl, ?_, by repeat (first | exact Le.refl _ | refine Le.skip rfl ?_)⟩
        exact congrArg (fun x => some (Value.bool x)) ((decide_eq_false (by omega)).symm)
      refine .nil ?_
      refine .condP rfl (fun h18 => ?_) (fun h18 => ?_)
      ·
       refine .go fds 4 ?_
       have hrl := rdI_len p
       have hrl2 := rdT_len 1000 (rdI p).2
       refine .goO fds 2 ?_
       refine .fn rfl rfl (.cons (.tail .head) .nil) (fun _ _ _ => trivial) (rdint_ok b45 p (by omega)) (fun v G1 hq => ?_)
       obtain ⟨rfl, rfl⟩ := hq
       simp only [List.cons_append, List.nil_append]
       refine .rd (.build rfl (bld65_2 _)) ?_
       refine .ef (.alloc ti65 rfl (ones.of rfl)) ?_
       rintro _ _ ⟨b11, rfl, rfl⟩
       refine .ef0 (.storeAll ts65 rfl rfl rfl .head rfl (ones.of rfl)) ?_
       rintro _ _ rfl
       refine .goO fds 4 ?_
       refine .fn rfl rfl (.cons (.tail .head) .nil) (fun _ _ _ => trivial) (rdtext_ok b45 (rdI p).2 1000 (by omega)) (fun v G1 hq => ?_)
       obtain ⟨rfl, rfl⟩ := hq
       simp only [List.cons_append, List.nil_append]
       refine .rd (.fieldAddr fd65_0 rfl) ?_
       refine .ef0 (.store ts9 rfl rfl (.tail .head) rfl (Nat.le_of_ble_eq_true rfl)) ?_
       rintro _ _ rfl
       refine .goO fds 4 ?_
       refine .fn rfl rfl (.cons (.tail .head) .nil) (fun _ _ _ => trivial) (rdtext_ok b45 (rdT 1000 (rdI p).2).2 1000 (by omega)) (fun v G1 hq => ?_)
       obtain ⟨rfl, rfl⟩ := hq
       simp only [List.cons_append, List.nil_append]
       refine .rd (.fieldAddr fd65_1 rfl) ?_
       refine .ef0 (.store ts9 rfl rfl (.tail .head) rfl (Nat.le_of_ble_eq_true rfl)) ?_
       rintro _ _ rfl
       refine .nil ?_
       obtain ⟨tm, htm⟩ : ∃ tm, tm = (rdI p).1 := ⟨_, rfl⟩
       obtain ⟨k, hk⟩ : ∃ k, k = (rdT 1000 (rdI p).2).1 := ⟨_, rfl⟩
       obtain ⟨v, hv⟩ : ∃ v, v = (rdT 1000 (rdT 1000 (rdI p).2).2).1 := ⟨_, rfl⟩
       refine .cast (X' := blk b11 (Rec.cells ⟨k, v, tm⟩) 99) (by rw [htm, hk, hv]; rfl) ?_
       refine .goO fds 2 ?_
       refine .rd (.ld na25 rfl (.tail (.tail (.tail .head))) rfl) ?_
       refine .rd (.ldN ia65 ts65 rfl .head rfl) ?_
       refine .ef (.buildOne (cs := Rec.cells ⟨k, v, tm⟩) Tryz.underlying39 ti65 (by decide) rfl rfl rfl (ones.of rfl)) ?_
       rintro _ _ ⟨bs, rfl, rfl⟩
       refine .ef (.append rfl rfl Tryz.underlying39 ti65 rfl (ones.of rfl) (by decide) (by decide) rfl rfl (.tail (.tail (.tail (.tail (.tail .head))))) (n := rs.length) (m := 1) (by rw [flat_length Rec.cells_len]) (.srcBlk (ys := Rec.cells ⟨k, v, tm⟩) .head Tryz.underlying39 rfl (by decide)) (by omega)) ?_
       rintro _ _ ⟨ra, rc, rfl, rn, rfl⟩
       refine .rd (.fieldAddr fd27_5 rfl) ?_
       refine .ef0 (.store ts25 rfl rfl (.tail (.tail (.tail (.tail (.tail .head))))) rfl (Nat.le_of_ble_eq_true rfl)) ?_
       rintro _ _ rfl
       refine .nil ?_
       refine .perm (.cons (.tail .head) (.cons .head (.cons .head (.cons .head (.cons .head (.cons .head (.cons .head .nil))))))) ?_
       refine .cast (X' := arr 99 3 ra rc ((rs ++ [(⟨k, v, tm⟩ : Rec)]).flatMap Rec.cells)) (by rw [List.flatMap_append]; simp) ?_
       refine .perm (.cons (.tail .head) (.cons .head (.cons .head (.cons .head (.cons .head (.cons .head (.cons .head .nil))))))) ?_
       refine .cast (X' := blk b7 [.int .i64 x0, .int .i64 x1, .int .i64 x2, .int .i64 x3, .int .i64 x4, .slice ra (rs ++ [(⟨k, v, tm⟩ : Rec)]).length rc] 41) (by rw [List.length_append]; rfl) ?_
       refine .goO fds 3 ?_
       refine .rd (.sub rfl rfl (by omega) (by omega)) ?_
       refine .goR fds 2 ?_
       have hf0 := ((hI.2.2.rdI (f := fun a b => (a, b))).rdT 1000 (f := fun a b => (a, b))).rdT 1000 (f := fun a b => (a, b))
       rw [← htm, ← hk, ← hv] at hf0
       have hpp := pPart_next (r := ⟨k, v, tm⟩) hf0
       exact (ih (rs ++ [(⟨k, v, tm⟩ : Rec)], (rdT 1000 (rdT 1000 (rdI p).2).2).2, ra, rc) ⟨hI.1.snoc (by omega) (by omega) ⟨by show i64 tm; rw [htm]; exact rint_i64 _, by have := rdT_most (m := 1000) (rdI p).2 (by decide); show k.length ≤ 1000; rw [hk]; omega, by have := rdT_most (m := 1000) (rdT 1000 (rdI p).2).2 (by decide); show v.length ≤ 1000; rw [hv]; omega⟩, Nat.le_trans (rdT_len _ _) (Nat.le_trans (rdT_len _ _) (Nat.le_trans (rdI_len p) hI.2.1)), by rw [List.length_append]; exact hpp⟩ (by show 65 - (rs ++ [_]).length < _; rw [List.length_append]; show 65 - (rs.length + 1) < 65 - rs.length; omega)).to (.cons rfl (.cons rfl (.cons rfl (.cons rfl (.cons (by show _ = some (Value.int .i64 (n - ((rs ++ [(⟨k, v, tm⟩ : Rec)]).length : Int))); rw [List.length_append]; exact congrArg (fun z => some (Value.int .i64 z)) (by show n - (rs.length : Int) - 1 = n - ((rs.length + 1 : Nat) : Int); omega)) .nil))))) (.cons (.tail (.tail (.tail (.tail (.tail .head))))) (.cons (.tail (.tail (.tail (.tail .head)))) (.cons .head (.cons .head (.cons (.tail (.tail .head)) .nil)))))
      ·
       have hfb : (bat [x0, x1, x2, x3, x4] rs).fits := bat_fits rfl hxs hI.1.ok hm
       have hle := hI.1.le
       refine .goO fds 4 ?_
       refine RunO.join 17 109 (!decide (p.2 = true ∧ p.1 = [] ∧ right (bat [x0, x1, x2, x3, x4] rs) = 0)) ?_ ?_
       ·
        refine .go fds 3 ?_
        refine .rd (.ld na4 rfl (.tail .head) rfl) ?_
        refine .go fds 2 ?_
        refine .split (t := 98) rfl (fun g24_5 => ?_) (fun g24_5 => ?_)
        ·
         refine .go fds 11 ?_
         refine .nil ⟨rfl, ?_, by repeat (first | exact Le.refl _ | refine Le.skip rfl ?_)⟩
         exact congrArg (fun x => some (Value.bool x)) (by simp [g24_5])
        ·
         refine .go fds 3 ?_
         refine .on (t := 98) rfl rfl ?_
         refine .rd (.ld na9 rfl (.tail .head) rfl) ?_
         refine .on (t := 98) rfl rfl ?_
         refine .rd (.neT rfl rfl) ?_
         refine .go fds 2 ?_
         refine .split (t := 105) rfl (fun g24_12 => ?_) (fun g24_12 => ?_)
         ·
          simp at g24_12
          refine .go fds 4 ?_
          refine .nil ⟨rfl, ?_, by repeat (first | exact Le.refl _ | refine Le.skip rfl ?_)⟩
          exact congrArg (fun x => some (Value.bool x)) (by simp [g24_12])
         ·
          simp at g24_12
          refine .on (t := 105) rfl rfl ?_
          refine .rd (.ldN ia27 ts27 rfl (.tail (.tail .head)) rfl) ?_
          refine .on (t := 105) rfl rfl ?_
          refine .fn rfl rfl .nil (Knows.arr (.tail (.tail (.tail .head)))) (Right_ok (bat [x0, x1, x2, x3, x4] rs) a' c' hfb) (fun v G1 hq => ?_)
          obtain ⟨rfl, rfl⟩ := hq
          simp only [List.nil_append]
          refine .go fds 2 ?_
          refine .nil ⟨rfl, ?_, by repeat (first | exact Le.refl _ | refine Le.skip rfl ?_)⟩
          exact congrArg (fun x => some (Value.bool x)) (by simp [g24_5, g24_12])
       refine .nil ?_
       refine .condN rfl (fun h24 => ?_) (fun h24 => ?_)
       ·
        have hno : pBatch t = none := by
         refine pBatch_no hI.2.2 h24 (fun hg h1 h2 => ?_) (fun hg h1 h2 => ?_) (fun hg => hH.head hI.2.2)
         ·
          have hle' : (rs.length : Int) ≤ n := by
           rcases hle with rfl | hle
           ·
            simp; omega
           ·
            exact hle
          have h0 : ¬ 0 < n - (rs.length : Int) := fun h => h18 ⟨h, hg, by omega⟩
          omega
         ·
          rcases hle with rfl | hle
          ·
           simp; omega
          ·
           exact hle
        refine .goO fds 2 ?_
        refine .rd (.build rfl (bld27_)) ?_
        refine .ef0 (.storeAll (vs := [.int .i64 0, .int .i64 0, .int .i64 0, .int .i64 0, .int .i64 0, .slice none 0 0]) ts27 rfl rfl rfl .head rfl (ones.of rfl)) ?_
        rintro _ _ rfl
        refine .goR fds 3 ?_
        rw [readBatch_no (s := s) (by omega) (by omega) (by omega) ht hcs hno]
        refine .nilArr 99 3 none ?_
        refine .retP Tryz.func85 (.cons (.blkN ia27 ts27 rfl (.tail .head) rfl) (.cons (.tmp rfl) (.cons (.tmp rfl) .nil))) (.cons .head (.cons (.tail (.tail (.tail (.tail .head)))) .nil)) ?_
        exact ⟨[_], ⟨none, 0, rfl, rfl⟩, rfl⟩
       ·
        have hrm : 1 ≤ rs.length ∧ rs.length ≤ 64 := right_many h24.2.2
        have hrn : (rs.length : Int) = n := by
         have h0 : ¬ 0 < n - (rs.length : Int) := fun h => h18 ⟨h, h24.1, hrm.2⟩
         rcases hle with rfl | hle
         ·
          simp at hrm
         ·
          omega
        have hyes : pBatch t = some (bat [x0, x1, x2, x3, x4] rs) := pBatch_yes hI.2.2 hrn h24.1 h24.2.1 h24.2.2 (by omega)
        refine .goO fds 3 ?_
        refine .rd (.ldN ia27 ts27 rfl (.tail (.tail .head)) rfl) ?_
        refine .rd (.move rfl) ?_
        refine .rd (.add rfl rfl (by omega) (by omega)) ?_
        refine .ef0 (.storeAll (vs := Bat.cells (bat [x0, x1, x2, x3, x4] rs) a' c') ts27 rfl rfl rfl .head rfl (ones.of rfl)) ?_
        rintro _ _ rfl
        refine .goR fds 3 ?_
        rw [readBatch_yes (s := s) (by omega) (by omega) (by omega) ht hcs hyes]
        refine .retP Tryz.func85 (.cons (.blkN ia27 ts27 rfl .head rfl) (.cons (.tmp rfl) (.cons (.tmp rfl) .nil))) (.cons (.tail (.tail (.tail .head))) (.cons (.tail (.tail (.tail .head))) .nil)) ?_
        exact ⟨[_], ⟨a', c', rfl, rfl⟩, rfl⟩
end Go.Proofs.YtoglbebcdjdkiaaGreatDoor
namespace Go.Proofs.YtoglbebcdjdkiaaGreatDoor
open Go Go.Sp
set_option linter.unusedVariables false
namespace seg5
theorem bld69_0_1_2 (x0 : Option Addr) (x1 : ByteArray) (x2 : Int) (w : World) : (Instr.build 110 (([0, 1, 2] : List Nat).zip [.pointer x0, .string x1, .int .i64 x2]).toArray).run Tryz.prog w = .ok (.agg #[.pointer x0, .string x1, .int .i64 x2, .slice none 0 0, .slice none 0 0]) w := by kernel_rfl
theorem na67 : NotAgg Tryz.prog 108 := ⟨_, Tryz.underlying108, trivial⟩
theorem ti34 : TI Tryz.prog 41 6 64 (.agg #[.int .i64 0, .int .i64 0, .int .i64 0, .int .i64 0, .int .i64 0, .slice none 0 0]) := .of (by kernel_rfl)
theorem ts34 : TS Tryz.prog 41 6 := .of (by kernel_rfl)
theorem na3 : NotAgg Tryz.prog 3 := ⟨_, Tryz.underlying3, trivial⟩
theorem ia34 : IsAgg Tryz.prog 41 := ⟨_, Tryz.underlying41, trivial⟩
theorem bld71_0_1_2_3 (x0 : Int) (x1 : Int) (x2 : Int) (x3 : Int) (w : World) : (Instr.build 112 (([0, 1, 2, 3] : List Nat).zip [.int .i64 x0, .int .i64 x1, .int .i64 x2, .int .i64 x3]).toArray).run Tryz.prog w = .ok (.agg #[.int .i64 x0, .int .i64 x1, .int .i64 x2, .int .i64 x3]) w := by kernel_rfl
end seg5
open seg5
theorem seg_ret {b : Nat} {x y : Int} (h : x = y) : resVal [.pointer (some ⟨b, 0, none⟩), .int .i64 x, .int .i64 0] = .tuple #[.pointer (some ⟨b, 0, none⟩), .int .i64 y, .int .i64 0] := by subst h; rfl
theorem rd_tup {x : List UInt8} {a : Option Addr} {c : Nat} {b : Bat} {n k : Int} (h : readBatch x = (b, n, k)) : Value.tuple #[.agg ((readBatch x).1.cells a c).toArray, .int .i64 (readBatch x).2.1, .int .i64 (readBatch x).2.2] = .tuple #[.agg (b.cells a c).toArray, .int .i64 n, .int .i64 k] := by rw [h]
set_option maxHeartbeats 1000000 in
set_option maxRecDepth 20000 in
theorem SegOpen_ok (db mb : Nat) (d : Dk) (nm : Nm) (base : Int) (bs : List Bat) (rest : List UInt8) (hd : d.ok) (hnm : Named nm) (hr : (d.get nm).isSome = true ∨ d.fs.length < 256) (ht : (d.file nm).b = flat bs ++ rest) (hstop : rest = [] ∨ (readBatch rest).2.2 ≠ 0) (h0 : 0 ≤ base) (h1 : base ≤ 1000000000) (hc : Chain base bs) (hg : ∀ b ∈ bs, b.good) (hl : bs.length ≤ 4096) : Cn Tryz.prog 110 [.pointer (some ⟨db, 0, none⟩), nmv nm, .int .i64 base] (fun _ => True) [blk db (d.cells mb) 74, mp nmv Fl.val mb d.fs] fun v G => ∃ sb sm aa ac ia ic, v = .tuple #[.pointer (some ⟨sb, 0, none⟩), .int .i64 (rest.length : Int), .int .i64 0] ∧ Ix sm bs.length ∧ bs.length ≤ ac ∧ G = [blk db (((d.put nm ⟨flat bs, (flat bs).length⟩)).cells mb) 74, mp nmv Fl.val mb ((d.put nm ⟨flat bs, (flat bs).length⟩)).fs] ++ [blk sb ((Sx.mk sb nm base bs sm aa ac ia ic).cells db) 110, arr 112 4 aa ac (Sx.mk sb nm base bs sm aa ac ia ic).rows, arr 3 1 ia ic (sm.flatMap icN)] := by
 refine .enter Tryz.func110 rfl (by kernel_rfl) rfl fun R k => ?_
 have hu := hd.used
 have hz := hd.size
 have hfl := Dk.file_le (d := d) nm
 have hlen : (flat bs ++ rest).length ≤ 16777216 := by rw [← ht]; omega
 have hlen2 : (flat bs ++ rest).length = (flat bs).length + rest.length := List.length_append
 have hd1 : (d.put nm ⟨(d.file nm).b ++ [], (d.file nm).safe⟩).ok := Dk.ok_touch hd nm
 refine .goO fds 11 ?_
 refine .alter (t := 18) (v' := .bool false) rfl (congrArg Value.bool (decide_eq_false (by omega))) ?_
 refine .go fds 3 ?_
 refine .alter (t := 21) (v' := .bool false) rfl (congrArg Value.bool (decide_eq_false (by omega))) ?_
 refine .goO fds 9 ?_
 refine .fn rfl rfl (.cons .head (.cons .head .nil)) (fun _ _ _ => trivial) (Append_ok db mb d nm [] hd hnm hr (by simp; omega)) (fun v G1 hq => ?_)
 obtain ⟨rfl, rfl⟩ := hq
 simp only [List.cons_append, List.nil_append]
 refine .goO fds 14 ?_
 refine .rd (.build rfl (bld69_0_1_2 _ _ _)) ?_
 refine .ef (.box (l := [.pointer (some ⟨db, 0, none⟩), nmv nm, .int .i64 base, .slice none 0 0, .slice none 0 0]) rfl rfl (ones.of rfl)) ?_
 rintro _ _ ⟨b33, rfl, rfl⟩
 refine .goO fds 6 ?_
 refine .fn rfl rfl (.cons (.tail .head) (.cons (.tail .head) .nil)) (fun _ _ _ => trivial) (Read_ok db mb (d.put nm ⟨(d.file nm).b ++ [], (d.file nm).safe⟩) nm) (fun v G1 hq => ?_)
 obtain ⟨rfl, rfl⟩ := hq
 simp only [List.cons_append, List.nil_append]
 refine .alter (t := 37) (v' := .tuple #[.string (str (flat bs ++ rest)), .int .i64 0]) rfl (by rw [Dk.file_put, if_pos (Dk.some_put _ _ _), ht, List.append_nil]) ?_
 refine .goR fds 10 ?_
 refine .perm (.cons (.tail (.tail .head)) (.cons .head (.cons .head (.cons .head .nil)))) ?_
 refine .cast (X' := blk b33 ((Sx.mk b33 nm base (bs.take 0) [] none 0 none 0).cells db) 110) (rfl) ?_
 refine .nilArr 112 4 none ?_
 refine .nilArr 3 1 none ?_
 refine .go fds 2 ?_
 refine .loop (σ := Nat × List Nat × Option Addr × Nat × Option Addr × Nat) (fun ⟨i, sm, aa, ac, ia, ic⟩ => i ≤ bs.length ∧ Ix sm i ∧ i ≤ ac) (fun ⟨i, sm, aa, ac, ia, ic⟩ => bs.length - i) (fun ⟨i, sm, aa, ac, ia, ic⟩ => [(0, .pointer (some ⟨db, 0, none⟩)), (1, nmv nm), (10, .pointer (some ⟨b33, 0, none⟩)), (11, .string (str (flat bs ++ rest))), (13, .int .i64 ((flat (bs.take i)).length : Int))]) (fun ⟨i, sm, aa, ac, ia, ic⟩ => [blk b33 ((Sx.mk b33 nm base (bs.take i) sm aa ac ia ic).cells db) 110, arr 112 4 aa ac (Sx.mk b33 nm base (bs.take i) sm aa ac ia ic).rows, arr 3 1 ia ic (sm.flatMap icN), blk db ((d.put nm ⟨(d.file nm).b ++ [], (d.file nm).safe⟩).cells mb) 74, mp nmv Fl.val mb (d.put nm ⟨(d.file nm).b ++ [], (d.file nm).safe⟩).fs, R]) (0, [], none, 0, none, 0) ⟨Nat.zero_le _, Ix.nil, Nat.le_refl _⟩ (.cons rfl (.cons rfl (.cons rfl (.cons rfl (.cons rfl .nil))))) (.cons (.tail (.tail .head)) (.cons (.tail .head) (.cons .head (.cons .head (.cons .head (.cons .head .nil)))))) (fun s' hI ih => ?_)
 obtain ⟨i, sm, aa, ac, ia, ic⟩ := s'
 dsimp only at hI ih ⊢
 obtain ⟨hin, hix, hca⟩ := hI
 have hfl2 : (flat (bs.take i)).length ≤ (flat bs).length := flat_lq i
 refine .goO fds 5 ?_
 refine .rd (.lenT rfl rfl Tryz.underlying9 rfl) ?_
 refine .go fds 2 ?_
 refine .split (t := 44) rfl (fun g9 => ?_) (fun g9 => ?_)
 ·
  replace g9 := of_decide_eq_true g9
  refine .go fds 3 ?_
  refine .on (t := 44) rfl rfl ?_
  refine .rd (.ld na67 rfl .head rfl) ?_
  refine .on (t := 44) rfl rfl ?_
  refine .rd (.lenL rfl rfl Tryz.underlying108 rfl) ?_
  refine .goR fds 3 ?_
  refine .condP rfl (fun c9 => ?_) (fun c9 => ?_)
  ·
   refine .goO fds 4 ?_
   rcases Nat.lt_or_ge i bs.length with hi | hi
   ·
    obtain ⟨b, hb⟩ : ∃ b, bs[i]? = some b := ⟨_, List.getElem?_eq_getElem hi⟩
    have hgd := hg b (List.mem_of_getElem? hb)
    have hdr := flat_drop (rest := rest) hb
    have hbn := (hc.at hb).1
    have hss := open_ok (b := b33) (nm := nm) (aa := aa) (ia := ia) (ic := ic) h0 h1 hc hg hl hin hix hca
    have hge := hgd.enc_le
    have hb0 := hgd.base
    have hb1 := hgd.en
    have hb2 := hgd.recs64
    have hb3 := hgd.lt
    have hfn : (flat (bs.take (i + 1))).length = (flat (bs.take i)).length + (enc b).length := by rw [List.take_add_one, hb, flat_app, List.length_append]; simp [flat]
    refine .go fds 2 ?_
    refine .rd (.sliceT (l := (flat bs ++ rest)) (a := (flat (bs.take i)).length) (h := (flat bs ++ rest).length) Tryz.underlying9 rfl ⟨_, rfl⟩ rfl (by omega) (by omega)) ?_
    refine .alter (t := 55) (v' := .string (str (enc b ++ (flat (bs.drop (i + 1)) ++ rest)))) rfl (by rw [List.take_of_length_le (by rw [List.length_drop]; omega), hdr]) ?_
    refine .fn rfl rfl .nil (fun _ _ _ => trivial) (ReadBatch_ok (enc b ++ (flat (bs.drop (i + 1)) ++ rest)) (by rw [← hdr, List.length_drop]; omega)) (fun v G1 hq => ?_)
    obtain ⟨ba, bc, rfl, rfl⟩ := hq
    simp only [List.cons_append, List.nil_append]
    refine .alter (t := 56) (v' := .tuple #[.agg (b.cells ba bc).toArray, .int .i64 ((enc b).length : Int), .int .i64 0]) rfl (rd_tup (read_next hgd _)) ?_
    refine .go fds 4 ?_
    refine .ef (.alloc ti34 rfl (ones.of rfl)) ?_
    rintro _ _ ⟨b14, rfl, rfl⟩
    refine .ef0 (.storeAll ts34 rfl rfl (by rfl) .head rfl (ones.of rfl)) ?_
    rintro _ _ rfl
    refine .goR fds 3 ?_
    refine .cast (X' := blk b14 (b.cells ba bc) 41) (rfl) ?_
    refine .go fds 2 ?_
    refine .draws [4, 10] [blk b14 (b.cells ba bc) 41] (by kernel_rfl) ?_
    refine .goD fds [0] ?_
    refine .goD fds [1] ?_
    refine .alter (t := 61) (v' := .bool false) rfl (congrArg Value.bool (by rfl)) ?_
    refine .goD fds [2] ?_
    refine .goD fds [3] ?_
    refine .rdG 4 (t := 62) rfl rfl rfl rfl (by kernel_rfl) (by kernel_rfl) (by kernel_rfl) (.ld na3 rfl .head rfl) (.cons .head .nil) ?_
    refine .goD fds [5] ?_
    refine .efG 6 (t := 62) (by kernel_rfl) rfl rfl rfl (.fn rfl rfl .nil ((Knows.blk (.tail (.tail .head))).and ((Knows.arr (.tail (.tail (.tail .head)))).and (Knows.arr (.tail (.tail (.tail (.tail .head))))))) (Next_ok db (Sx.mk b33 nm base (bs.take i) sm aa ac ia ic) hss)) ?_
    rintro v _ ⟨G1, hq, rfl⟩
    obtain ⟨rfl, rfl⟩ := hq
    simp only [List.nil_append]
    refine ⟨.inr ⟨_, (.cons .head .nil)⟩, ?_⟩
    refine .goD fds [7] ?_
    refine .alter (t := 67) (v' := .bool false) rfl (congrArg Value.bool (by rw [decide_eq_true (show b.base = Sx.next (Sx.mk b33 nm base (bs.take i) sm aa ac ia ic) from hbn)]; rfl)) ?_
    refine .goD fds [8] ?_
    refine .goD fds [9] ?_
    refine .rdG 10 (t := 69) rfl rfl rfl rfl (by kernel_rfl) (by kernel_rfl) (by kernel_rfl) (.ldN ia34 ts34 rfl .head rfl) (.cons .head .nil) ?_
    refine .efG 11 (t := 69) (by kernel_rfl) rfl rfl rfl (.fn rfl rfl .nil (fun _ _ _ => trivial) (end_ok b ba bc (by omega) (by omega) (by omega))) ?_
    rintro v _ ⟨G1, hq, rfl⟩
    obtain ⟨rfl, rfl⟩ := hq
    simp only [List.nil_append]
    refine ⟨.inl (by kernel_rfl), ?_⟩
    refine .goD fds [12] ?_
    refine .alter (t := 72) (v' := .bool false) rfl (congrArg Value.bool (decide_eq_false (by omega))) ?_
    refine .goD fds [13] ?_
    refine .done (by kernel_rfl) ?_
    refine .go fds 3 ?_
    refine .draws [2, 3] [blk b14 (b.cells ba bc) 41] (by kernel_rfl) ?_
    refine .goD fds [0] ?_
    refine .goD fds [1] ?_
    refine .rd 2 rfl rfl (by kernel_rfl) (by kernel_rfl) (by kernel_rfl) (.ld na3 rfl .head rfl) (.cons .head .nil) ?_
    refine .rd 3 rfl rfl (by kernel_rfl) (by kernel_rfl) (by kernel_rfl) (.ldN ia34 ts34 rfl .head rfl) (.cons .head .nil) ?_
    refine .goD fds [5] ?_
    refine .goD fds [6] ?_
    refine .goD fds [7] ?_
    refine .rp 8 rfl (by kernel_rfl) (by kernel_rfl) (by kernel_rfl) (Reads.pure (.add rfl rfl (by omega) (by omega))) ?_
    refine .ef 4 (by kernel_rfl) rfl (.fn rfl rfl .nil (fun _ _ _ => trivial) (end_ok b ba bc (by omega) (by omega) (by omega))) ?_
    rintro v _ ⟨G1, hq, rfl⟩
    obtain ⟨rfl, rfl⟩ := hq
    simp only [List.nil_append]
    refine ⟨.inr ⟨_, (.cons .head .nil)⟩, ?_⟩
    refine .rp 9 rfl (by kernel_rfl) (by kernel_rfl) (by kernel_rfl) (Reads.pure (.build rfl (bld71_0_1_2_3 _ _ _ _))) ?_
    refine .alter (t := 83) (v' := .agg (oneB (Sx.mk b33 nm base (bs.take i) sm aa ac ia ic) b).cells.toArray) rfl (rfl) ?_
    refine .ef 10 (by kernel_rfl) rfl (.fn rfl rfl (.cons (.tail (.tail .head)) (.cons (.tail (.tail .head)) (.cons (.tail (.tail .head)) .nil))) (fun _ _ _ => trivial) (add_ok db (Sx.mk b33 nm base (bs.take i) sm aa ac ia ic) b hss hgd hbn (by show (bs.take i).length < 4096; rw [List.length_take]; omega))) ?_
    rintro v _ ⟨G1, hq, rfl⟩
    obtain ⟨sm', aa', ac', ia', ic', hix', hca', rfl⟩ := hq
    simp only [List.cons_append, List.nil_append]
    refine ⟨.inl (by kernel_rfl), ?_⟩
    refine .done (by kernel_rfl) ?_
    have hlt : (bs.take i).length = i := by rw [List.length_take]; omega
    refine .cast (X' := blk b33 ((Sx.mk b33 nm base (bs.take (i + 1)) sm' aa' ac' ia' ic').cells db) 110) (by rw [← take_snoc hb]) ?_
    refine .perm (.cons (.tail .head) (.cons .head (.cons .head (.cons .head (.cons .head (.cons .head (.cons .head (.cons .head .nil)))))))) ?_
    refine .cast (X' := arr 112 4 aa' ac' (Sx.mk b33 nm base (bs.take (i + 1)) sm' aa' ac' ia' ic').rows) (by rw [← take_snoc hb]) ?_
    refine .goO fds 3 ?_
    refine .rd (.add rfl rfl (by omega) (by omega)) ?_
    refine .alter (t := 87) (v' := .int .i64 (((flat (bs.take (i + 1))).length : Nat))) rfl (congrArg (Value.int .i64) (by omega)) ?_
    refine .goR fds 3 ?_
    exact (ih (i + 1, sm', aa', ac', ia', ic') ⟨by omega, by rw [← hlt]; exact hix', by rw [← hlt]; exact hca'⟩ (by show bs.length - (i + 1) < bs.length - i; omega)).to (.cons rfl (.cons rfl (.cons rfl (.cons rfl (.cons rfl .nil))))) (.cons (.tail .head) (.cons .head (.cons .head (.cons (.tail (.tail .head)) (.cons (.tail (.tail .head)) (.cons (.tail (.tail .head)) .nil))))))
   ·
    have hie : i = bs.length := by omega
    have hta : bs.take i = bs := List.take_of_length_le (by omega)
    have hdr : (flat bs ++ rest).drop (flat (bs.take i)).length = rest := by rw [hta, List.drop_left]
    have hre : (readBatch rest).2.2 ≠ 0 := by rcases hstop with h | h; exact absurd g9 (by rw [hta, h]; simp); exact h
    refine .go fds 2 ?_
    refine .rd (.sliceT (l := (flat bs ++ rest)) (a := (flat (bs.take i)).length) (h := (flat bs ++ rest).length) Tryz.underlying9 rfl ⟨_, rfl⟩ rfl (by omega) (by omega)) ?_
    refine .alter (t := 55) (v' := .string (str (rest))) rfl (by rw [List.take_of_length_le (by rw [List.length_drop]; omega), hdr]) ?_
    refine .fn rfl rfl .nil (fun _ _ _ => trivial) (ReadBatch_ok rest (by rw [← hdr, List.length_drop]; omega)) (fun v G1 hq => ?_)
    obtain ⟨ba, bc, rfl, rfl⟩ := hq
    simp only [List.cons_append, List.nil_append]
    refine .go fds 4 ?_
    refine .ef (.alloc ti34 rfl (ones.of rfl)) ?_
    rintro _ _ ⟨b14, rfl, rfl⟩
    refine .ef0 (.storeAll ts34 rfl rfl (by rfl) .head rfl (ones.of rfl)) ?_
    rintro _ _ rfl
    refine .goR fds 5 ?_
    refine .draws [4, 10] [] (by kernel_rfl) ?_
    refine .goD fds [0] ?_
    refine .goD fds [1] ?_
    refine .alter (t := 61) (v' := .bool true) rfl (congrArg Value.bool (by rw [decide_eq_false hre]; rfl)) ?_
    refine .goD fds [2, 3, 4, 5, 6, 7] ?_
    refine .goD fds [8] ?_
    refine .goD fds [9, 10, 11, 12] ?_
    refine .goD fds [13] ?_
    refine .done (by kernel_rfl) ?_
    refine .go fds 3 ?_
    have hall : bs.take i = bs := by
     refine List.take_of_length_le ?_
     rcases Nat.lt_or_ge i bs.length with h | h
     ·
      exfalso
      obtain ⟨b, hb⟩ : ∃ b, bs[i]? = some b := ⟨_, List.getElem?_eq_getElem h⟩
      have h2 := (hg b (List.mem_of_getElem? hb)).enc_pos
      have h3 := congrArg List.length (flat_drop (rest := rest) hb)
      simp only [List.length_drop, List.length_append] at h3
      have h5 : (bs.take i).length = i := by rw [List.length_take]; omega
      simp only [List.length_append] at *
      omega
     ·
      exact h
    have hix' : Ix sm bs.length := by have := congrArg List.length hall; rw [List.length_take, Nat.min_eq_left hin] at this; rw [← this]; exact hix
    have hca' : bs.length ≤ ac := by have := congrArg List.length hall; rw [List.length_take, Nat.min_eq_left hin] at this; rw [← this]; exact hca
    refine .alter (t := 13) (v' := .int .i64 ((flat bs).length : Int)) rfl (by rw [hall]) ?_
    refine .perm (.cons (.tail (.tail .head)) (.cons .head (.cons .head (.cons .head (.cons .head (.cons .head (.cons .head (.cons .head .nil)))))))) ?_
    refine .cast (X' := blk b33 ((Sx.mk b33 nm base bs sm aa ac ia ic).cells db) 110) (by rw [hall]) ?_
    refine .perm (.cons (.tail (.tail (.tail .head))) (.cons .head (.cons .head (.cons .head (.cons .head (.cons .head (.cons .head (.cons .head .nil)))))))) ?_
    refine .cast (X' := arr 112 4 aa ac (Sx.mk b33 nm base bs sm aa ac ia ic).rows) (by rw [hall]) ?_
    refine .goO fds 4 ?_
    refine .fn rfl rfl (.cons (.tail (.tail (.tail (.tail (.tail .head))))) (.cons (.tail (.tail (.tail (.tail (.tail .head))))) .nil)) (fun _ _ _ => trivial) (Cut_ok db mb (d.put nm ⟨(d.file nm).b ++ [], (d.file nm).safe⟩) nm (flat bs).length hd1 (Dk.some_put _ _ _) (by rw [Dk.file_put]; show _ ≤ ((d.file nm).b ++ []).length; rw [List.append_nil, ht]; omega)) (fun v G1 hq => ?_)
    obtain ⟨rfl, rfl⟩ := hq
    simp only [List.cons_append, List.nil_append]
    refine .cast (X' := blk db ((d.put nm ⟨flat bs, min (d.file nm).safe (flat bs).length⟩).cells mb) 74) (by rw [Dk.put_put, Dk.file_put]; show _ = _; simp only [List.append_nil, ht, List.take_left]) ?_
    refine .perm (.cons (.tail .head) (.cons .head (.cons .head (.cons .head (.cons .head (.cons .head (.cons .head (.cons .head .nil)))))))) ?_
    refine .cast (X' := mp nmv Fl.val mb (d.put nm ⟨flat bs, min (d.file nm).safe (flat bs).length⟩).fs) (by rw [Dk.put_put, Dk.file_put]; show _ = _; simp only [List.append_nil, ht, List.take_left]) ?_
    refine .goR fds 2 ?_
    have hd2 : (d.put nm ⟨flat bs, min (d.file nm).safe (flat bs).length⟩).ok := Dk.ok_put hd (by show _ + (flat bs).length ≤ _; have := congrArg List.length ht; omega) (by show min _ _ ≤ (flat bs).length; omega)
    refine .goO fds 3 ?_
    refine .fn rfl rfl (.cons (.tail .head) (.cons .head .nil)) (fun _ _ _ => trivial) (Sync_ok db mb (d.put nm ⟨flat bs, min (d.file nm).safe (flat bs).length⟩) nm hd2 (Dk.some_put _ _ _)) (fun v G1 hq => ?_)
    obtain ⟨rfl, rfl⟩ := hq
    simp only [List.cons_append, List.nil_append]
    refine .cast (X' := blk db ((d.put nm ⟨flat bs, (flat bs).length⟩).cells mb) 74) (by rw [Dk.put_put, Dk.file_put]) ?_
    refine .perm (.cons (.tail .head) (.cons .head (.cons .head (.cons .head (.cons .head (.cons .head (.cons .head (.cons .head .nil)))))))) ?_
    refine .cast (X' := mp nmv Fl.val mb (d.put nm ⟨flat bs, (flat bs).length⟩).fs) (by rw [Dk.put_put, Dk.file_put]) ?_
    refine .goO fds 5 ?_
    refine .rd (.lenT rfl rfl Tryz.underlying9 rfl) ?_
    refine .rd (.move rfl) ?_
    refine .rd (.sub rfl rfl (by omega) (by omega)) ?_
    refine .goR fds 4 ?_
    refine .retP Tryz.func110 (.cons (.tmp rfl) (.cons (.tmp rfl) (.cons (.tmp rfl) .nil))) (.cons (.tail .head) (.cons .head (.cons (.tail .head) (.cons .head (.cons (.tail (.tail .head)) (.cons (.tail (.tail .head)) .nil)))))) ?_
    exact ⟨[_, _, _, _, _], ⟨b33, sm, aa, ac, ia, ic, seg_ret (by omega), hix', hca', rfl⟩, rfl⟩
  ·
   refine .go fds 2 ?_
   have hall : bs.take i = bs := by
    refine List.take_of_length_le ?_
    rcases Nat.lt_or_ge i bs.length with h | h
    ·
     exfalso
     obtain ⟨b, hb⟩ : ∃ b, bs[i]? = some b := ⟨_, List.getElem?_eq_getElem h⟩
     have h2 := (hg b (List.mem_of_getElem? hb)).enc_pos
     have h3 := congrArg List.length (flat_drop (rest := rest) hb)
     simp only [List.length_drop, List.length_append] at h3
     have h5 : (bs.take i).length = i := by rw [List.length_take]; omega
     simp only [List.length_append] at *
     omega
    ·
     exact h
   have hix' : Ix sm bs.length := by have := congrArg List.length hall; rw [List.length_take, Nat.min_eq_left hin] at this; rw [← this]; exact hix
   have hca' : bs.length ≤ ac := by have := congrArg List.length hall; rw [List.length_take, Nat.min_eq_left hin] at this; rw [← this]; exact hca
   refine .alter (t := 13) (v' := .int .i64 ((flat bs).length : Int)) rfl (by rw [hall]) ?_
   refine .cast (X' := blk b33 ((Sx.mk b33 nm base bs sm aa ac ia ic).cells db) 110) (by rw [hall]) ?_
   refine .perm (.cons (.tail .head) (.cons .head (.cons .head (.cons .head (.cons .head (.cons .head .nil)))))) ?_
   refine .cast (X' := arr 112 4 aa ac (Sx.mk b33 nm base bs sm aa ac ia ic).rows) (by rw [hall]) ?_
   refine .goO fds 4 ?_
   refine .fn rfl rfl (.cons (.tail (.tail (.tail .head))) (.cons (.tail (.tail (.tail .head))) .nil)) (fun _ _ _ => trivial) (Cut_ok db mb (d.put nm ⟨(d.file nm).b ++ [], (d.file nm).safe⟩) nm (flat bs).length hd1 (Dk.some_put _ _ _) (by rw [Dk.file_put]; show _ ≤ ((d.file nm).b ++ []).length; rw [List.append_nil, ht]; omega)) (fun v G1 hq => ?_)
   obtain ⟨rfl, rfl⟩ := hq
   simp only [List.cons_append, List.nil_append]
   refine .cast (X' := blk db ((d.put nm ⟨flat bs, min (d.file nm).safe (flat bs).length⟩).cells mb) 74) (by rw [Dk.put_put, Dk.file_put]; show _ = _; simp only [List.append_nil, ht, List.take_left]) ?_
   refine .perm (.cons (.tail .head) (.cons .head (.cons .head (.cons .head (.cons .head (.cons .head .nil)))))) ?_
   refine .cast (X' := mp nmv Fl.val mb (d.put nm ⟨flat bs, min (d.file nm).safe (flat bs).length⟩).fs) (by rw [Dk.put_put, Dk.file_put]; show _ = _; simp only [List.append_nil, ht, List.take_left]) ?_
   refine .goR fds 2 ?_
   have hd2 : (d.put nm ⟨flat bs, min (d.file nm).safe (flat bs).length⟩).ok := Dk.ok_put hd (by show _ + (flat bs).length ≤ _; have := congrArg List.length ht; omega) (by show min _ _ ≤ (flat bs).length; omega)
   refine .goO fds 3 ?_
   refine .fn rfl rfl (.cons (.tail .head) (.cons .head .nil)) (fun _ _ _ => trivial) (Sync_ok db mb (d.put nm ⟨flat bs, min (d.file nm).safe (flat bs).length⟩) nm hd2 (Dk.some_put _ _ _)) (fun v G1 hq => ?_)
   obtain ⟨rfl, rfl⟩ := hq
   simp only [List.cons_append, List.nil_append]
   refine .cast (X' := blk db ((d.put nm ⟨flat bs, (flat bs).length⟩).cells mb) 74) (by rw [Dk.put_put, Dk.file_put]) ?_
   refine .perm (.cons (.tail .head) (.cons .head (.cons .head (.cons .head (.cons .head (.cons .head .nil)))))) ?_
   refine .cast (X' := mp nmv Fl.val mb (d.put nm ⟨flat bs, (flat bs).length⟩).fs) (by rw [Dk.put_put, Dk.file_put]) ?_
   refine .goO fds 5 ?_
   refine .rd (.lenT rfl rfl Tryz.underlying9 rfl) ?_
   refine .rd (.move rfl) ?_
   refine .rd (.sub rfl rfl (by omega) (by omega)) ?_
   refine .goR fds 4 ?_
   refine .retP Tryz.func110 (.cons (.tmp rfl) (.cons (.tmp rfl) (.cons (.tmp rfl) .nil))) (.cons (.tail .head) (.cons .head (.cons (.tail .head) (.cons .head (.cons .head (.cons .head .nil)))))) ?_
   exact ⟨[_, _, _, _, _], ⟨b33, sm, aa, ac, ia, ic, seg_ret (by omega), hix', hca', rfl⟩, rfl⟩
 ·
  replace g9 := of_decide_eq_false g9
  refine .goR fds 11 ?_
  have hall : bs.take i = bs := by
   refine List.take_of_length_le ?_
   rcases Nat.lt_or_ge i bs.length with h | h
   ·
    exfalso
    obtain ⟨b, hb⟩ : ∃ b, bs[i]? = some b := ⟨_, List.getElem?_eq_getElem h⟩
    have h2 := (hg b (List.mem_of_getElem? hb)).enc_pos
    have h3 := congrArg List.length (flat_drop (rest := rest) hb)
    simp only [List.length_drop, List.length_append] at h3
    have h5 : (bs.take i).length = i := by rw [List.length_take]; omega
    simp only [List.length_append] at *
    omega
   ·
    exact h
  have hix' : Ix sm bs.length := by have := congrArg List.length hall; rw [List.length_take, Nat.min_eq_left hin] at this; rw [← this]; exact hix
  have hca' : bs.length ≤ ac := by have := congrArg List.length hall; rw [List.length_take, Nat.min_eq_left hin] at this; rw [← this]; exact hca
  refine .alter (t := 13) (v' := .int .i64 ((flat bs).length : Int)) rfl (by rw [hall]) ?_
  refine .cast (X' := blk b33 ((Sx.mk b33 nm base bs sm aa ac ia ic).cells db) 110) (by rw [hall]) ?_
  refine .perm (.cons (.tail .head) (.cons .head (.cons .head (.cons .head (.cons .head (.cons .head .nil)))))) ?_
  refine .cast (X' := arr 112 4 aa ac (Sx.mk b33 nm base bs sm aa ac ia ic).rows) (by rw [hall]) ?_
  refine .goO fds 4 ?_
  refine .fn rfl rfl (.cons (.tail (.tail (.tail .head))) (.cons (.tail (.tail (.tail .head))) .nil)) (fun _ _ _ => trivial) (Cut_ok db mb (d.put nm ⟨(d.file nm).b ++ [], (d.file nm).safe⟩) nm (flat bs).length hd1 (Dk.some_put _ _ _) (by rw [Dk.file_put]; show _ ≤ ((d.file nm).b ++ []).length; rw [List.append_nil, ht]; omega)) (fun v G1 hq => ?_)
  obtain ⟨rfl, rfl⟩ := hq
  simp only [List.cons_append, List.nil_append]
  refine .cast (X' := blk db ((d.put nm ⟨flat bs, min (d.file nm).safe (flat bs).length⟩).cells mb) 74) (by rw [Dk.put_put, Dk.file_put]; show _ = _; simp only [List.append_nil, ht, List.take_left]) ?_
  refine .perm (.cons (.tail .head) (.cons .head (.cons .head (.cons .head (.cons .head (.cons .head .nil)))))) ?_
  refine .cast (X' := mp nmv Fl.val mb (d.put nm ⟨flat bs, min (d.file nm).safe (flat bs).length⟩).fs) (by rw [Dk.put_put, Dk.file_put]; show _ = _; simp only [List.append_nil, ht, List.take_left]) ?_
  refine .goR fds 2 ?_
  have hd2 : (d.put nm ⟨flat bs, min (d.file nm).safe (flat bs).length⟩).ok := Dk.ok_put hd (by show _ + (flat bs).length ≤ _; have := congrArg List.length ht; omega) (by show min _ _ ≤ (flat bs).length; omega)
  refine .goO fds 3 ?_
  refine .fn rfl rfl (.cons (.tail .head) (.cons .head .nil)) (fun _ _ _ => trivial) (Sync_ok db mb (d.put nm ⟨flat bs, min (d.file nm).safe (flat bs).length⟩) nm hd2 (Dk.some_put _ _ _)) (fun v G1 hq => ?_)
  obtain ⟨rfl, rfl⟩ := hq
  simp only [List.cons_append, List.nil_append]
  refine .cast (X' := blk db ((d.put nm ⟨flat bs, (flat bs).length⟩).cells mb) 74) (by rw [Dk.put_put, Dk.file_put]) ?_
  refine .perm (.cons (.tail .head) (.cons .head (.cons .head (.cons .head (.cons .head (.cons .head .nil)))))) ?_
  refine .cast (X' := mp nmv Fl.val mb (d.put nm ⟨flat bs, (flat bs).length⟩).fs) (by rw [Dk.put_put, Dk.file_put]) ?_
  refine .goO fds 5 ?_
  refine .rd (.lenT rfl rfl Tryz.underlying9 rfl) ?_
  refine .rd (.move rfl) ?_
  refine .rd (.sub rfl rfl (by omega) (by omega)) ?_
  refine .goR fds 4 ?_
  refine .retP Tryz.func110 (.cons (.tmp rfl) (.cons (.tmp rfl) (.cons (.tmp rfl) .nil))) (.cons (.tail .head) (.cons .head (.cons (.tail .head) (.cons .head (.cons .head (.cons .head .nil)))))) ?_
  exact ⟨[_, _, _, _, _], ⟨b33, sm, aa, ac, ia, ic, seg_ret (by omega), hix', hca', rfl⟩, rfl⟩
end Go.Proofs.YtoglbebcdjdkiaaGreatDoor
namespace Go.Proofs.YtoglbebcdjdkiaaGreatDoor
open Go Go.Sp
set_option linter.unusedVariables false
namespace log2
theorem na24 : NotAgg Tryz.prog 24 := ⟨_, Tryz.underlying24, trivial⟩
theorem na9 : NotAgg Tryz.prog 9 := ⟨_, Tryz.underlying9, trivial⟩
theorem ts3 : TS Tryz.prog 3 1 := .of (by kernel_rfl)
theorem na40 : NotAgg Tryz.prog 55 := ⟨_, Tryz.underlying55, trivial⟩
theorem ti39 : TI Tryz.prog 54 1 8 (.pointer none) := .of (by kernel_rfl)
theorem ts40 : TS Tryz.prog 55 1 := .of (by kernel_rfl)
theorem ts39 : TS Tryz.prog 54 1 := .of (by kernel_rfl)
end log2
open log2
def mt (z w : Nat) : List UInt8 := Lib.decDigits z ++ [32] ++ Lib.decDigits w ++ [10]
theorem mt_len {z w : Nat} (hz : z ≤ 1000000000) (hw : w ≤ 1000000000) : (mt z w).length ≤ 22 := by
 have h1 := dec_len (u := z) (by omega)
 have h2 := dec_len (u := w) (by omega)
 unfold mt; simp only [List.length_append, List.length_cons, List.length_nil]; omega
def spb (b : Nat) : List Value := [.pointer (some ⟨b, 0, none⟩)]
theorem spb_len (b : Nat) : (spb b).length = 1 := rfl
theorem spb_snoc (bl : List Nat) (b : Nat) : (bl ++ [b]).flatMap spb = bl.flatMap spb ++ [.pointer (some ⟨b, 0, none⟩)] := by rw [List.flatMap_append]; simp [spb]
set_option maxHeartbeats 1000000 in
set_option maxRecDepth 20000 in
theorem keep_ok (lb db mb : Nat) (d : Dk) (p : Option Addr) (pre : Nm) (most start high : Int) (la : Option Addr) (n lc : Nat) (z w : Nat) (hz : z ≤ 1000000000) (hw : w ≤ 1000000000) (hd : d.ok) (hp : Pre pre) (hr : (d.get (metaOf pre)).isSome = true ∨ d.fs.length < 256) (hs : d.used + 22 ≤ d.size) : Cn Tryz.prog 90 [.pointer (some ⟨lb, 0, none⟩), .int .i64 (z : Int), .int .i64 (w : Int)] LV [blk lb (lcells p db pre most start high la n lc) 57, blk db (d.cells mb) 74, mp nmv Fl.val mb d.fs] fun v G => v = .int .i64 0 ∧ G = [blk lb (lcells p db pre most (z : Int) (w : Int) la n lc) 57, blk db ((d.put (metaOf pre) ⟨mt z w, (mt z w).length⟩).cells mb) 74, mp nmv Fl.val mb (d.put (metaOf pre) ⟨mt z w, (mt z w).length⟩).fs] := by
 refine .enter Tryz.func90 rfl (by kernel_rfl) rfl fun R k => ?_
 have h1 := dec_len (u := z) (by omega)
 have h2 := dec_len (u := w) (by omega)
 have h3 := hp.len
 have h4 := mt_len hz hw
 refine .go fds 5 ?_
 refine .draws [3, 7] [blk lb (lcells p db pre most start high la n lc) 57] (by kernel_rfl) ?_
 refine .goD fds [0] ?_
 refine .goD fds [1] ?_
 refine .goD fds [2] ?_
 refine .rd 3 rfl rfl (by kernel_rfl) (by kernel_rfl) (by kernel_rfl) (.ld na24 rfl .head rfl) (.cons .head .nil) ?_
 refine .goD fds [4] ?_
 refine .goD fds [5] ?_
 refine .goD fds [6] ?_
 refine .rd 7 rfl rfl (by kernel_rfl) (by kernel_rfl) (by kernel_rfl) (.ld na9 rfl .head rfl) (.cons .head .nil) ?_
 refine .rp 8 rfl (by kernel_rfl) (by kernel_rfl) (by kernel_rfl) (Reads.pure (.catT (l := pre) (m := [46, 109, 101, 116, 97]) rfl rfl (by (repeat rw [List.length_append]); simp only [List.length_cons, List.length_nil]; omega))) ?_
 refine .alter (t := 16) (v' := .string (str (metaOf pre))) rfl (rfl) ?_
 refine .goD fds [9] ?_
 refine .goD fds [12] ?_
 refine .ef 10 (by kernel_rfl) rfl (.fn rfl rfl .nil ((Knows.pick (.tail (.tail (.tail .head))) (k.mono fun _ h => h))) (itoa_ok z (by omega))) ?_
 rintro v _ ⟨G1, hq, rfl⟩
 obtain ⟨rfl, rfl⟩ := hq
 simp only [List.nil_append]
 refine ⟨.inr ⟨_, (.cons .head .nil)⟩, ?_⟩
 refine .rp 11 rfl (by kernel_rfl) (by kernel_rfl) (by kernel_rfl) (Reads.pure (.catT (l := Lib.decDigits z) (m := [32]) rfl rfl (by (repeat rw [List.length_append]); simp only [List.length_cons, List.length_nil]; omega))) ?_
 refine .ef 13 (by kernel_rfl) rfl (.fn rfl rfl .nil ((Knows.pick (.tail (.tail (.tail .head))) (k.mono fun _ h => h))) (itoa_ok w (by omega))) ?_
 rintro v _ ⟨G1, hq, rfl⟩
 obtain ⟨rfl, rfl⟩ := hq
 simp only [List.nil_append]
 refine ⟨.inr ⟨_, (.cons .head .nil)⟩, ?_⟩
 refine .rp 14 rfl (by kernel_rfl) (by kernel_rfl) (by kernel_rfl) (Reads.pure (.catT (l := Lib.decDigits z ++ [32]) (m := Lib.decDigits w) rfl rfl (by (repeat rw [List.length_append]); simp only [List.length_cons, List.length_nil]; omega))) ?_
 refine .rp 15 rfl (by kernel_rfl) (by kernel_rfl) (by kernel_rfl) (Reads.pure (.catT (l := Lib.decDigits z ++ [32] ++ Lib.decDigits w) (m := [10]) rfl rfl (by (repeat rw [List.length_append]); simp only [List.length_cons, List.length_nil]; omega))) ?_
 refine .alter (t := 23) (v' := .string (str (mt z w))) rfl (rfl) ?_
 refine .ef 16 (by kernel_rfl) rfl (.fn rfl rfl (.cons (.tail .head) (.cons (.tail .head) .nil)) (fun _ _ _ => trivial) (Replace_ok db mb d (metaOf pre) (mt z w) hd (metaOf_named hp) hr (by omega))) ?_
 rintro v _ ⟨G1, hq, rfl⟩
 obtain ⟨rfl, rfl⟩ := hq
 simp only [List.cons_append, List.nil_append]
 refine ⟨.inl (by kernel_rfl), ?_⟩
 refine .goD fds [17] ?_
 refine .done (by kernel_rfl) ?_
 refine .goO fds 14 ?_
 refine .ef0 (.store ts3 rfl rfl (.tail (.tail .head)) rfl (Nat.le_of_ble_eq_true rfl)) ?_
 rintro _ _ rfl
 refine .go fds 2 ?_
 refine .ef0 (.store ts3 rfl rfl .head rfl (Nat.le_of_ble_eq_true rfl)) ?_
 rintro _ _ rfl
 refine .goR fds 2 ?_
 refine .cast (X' := blk lb (lcells p db pre most (z : Int) (w : Int) la n lc) 57) (rfl) ?_
 refine .go fds 4 ?_
 refine .retP Tryz.func90 (.cons (.tmp rfl) .nil) (.cons .head (.cons .head (.cons .head (.cons .head .nil)))) ?_
 exact ⟨[_, _, _], ⟨rfl, rfl⟩, rfl⟩
set_option maxHeartbeats 1000000 in
set_option maxRecDepth 20000 in
theorem ladd_ok (lb db mb : Nat) (d : Dk) (p : Option Addr) (pre : Nm) (most start high : Int) (la : Option Addr) (lc : Nat) (bl : List Nat) (base : Nat) (bs : List Bat) (rest : List UInt8) (hd : d.ok) (hp : Pre pre) (hb : base ≤ 1000000000) (hr : (d.get (nameOf pre base)).isSome = true ∨ d.fs.length < 256) (ht : (d.file (nameOf pre base)).b = flat bs ++ rest) (hstop : rest = [] ∨ (readBatch rest).2.2 ≠ 0) (hc : Chain (base : Int) bs) (hg : ∀ b ∈ bs, b.good) (hl : bs.length ≤ 4096) (hbl : bl.length ≤ 1000000) : Cn Tryz.prog 67 [.pointer (some ⟨lb, 0, none⟩), .int .i64 (base : Int)] LV [blk lb (lcells p db pre most start high la bl.length lc) 57, arr 54 1 la lc (bl.flatMap spb), blk db (d.cells mb) 74, mp nmv Fl.val mb d.fs] fun v G => ∃ sb sm aa ac ia ic qa qc, v = .int .i64 0 ∧ Ix sm bs.length ∧ bs.length ≤ ac ∧ G = [blk lb (lcells (some ⟨sb, 0, none⟩) db pre most start high qa (bl ++ [sb]).length qc) 57, arr 54 1 qa qc ((bl ++ [sb]).flatMap spb), blk db ((d.put (nameOf pre base) ⟨flat bs, (flat bs).length⟩).cells mb) 74, mp nmv Fl.val mb (d.put (nameOf pre base) ⟨flat bs, (flat bs).length⟩).fs, blk sb ((Sx.mk sb (nameOf pre base) (base : Int) bs sm aa ac ia ic).cells db) 110, arr 112 4 aa ac (Sx.mk sb (nameOf pre base) (base : Int) bs sm aa ac ia ic).rows, arr 3 1 ia ic (sm.flatMap icN)] := by
 refine .enter Tryz.func67 rfl (by kernel_rfl) rfl fun R k => ?_
 have h3 := hp.len
 refine .go fds 5 ?_
 refine .draws [3] [blk lb (lcells p db pre most start high la bl.length lc) 57] (by kernel_rfl) ?_
 refine .goD fds [0] ?_
 refine .goD fds [1] ?_
 refine .goD fds [2] ?_
 refine .rd 3 rfl rfl (by kernel_rfl) (by kernel_rfl) (by kernel_rfl) (.ld na24 rfl .head rfl) (.cons .head .nil) ?_
 refine .goD fds [4] ?_
 refine .goD fds [5] ?_
 refine .goD fds [7] ?_
 refine .ef 6 (by kernel_rfl) rfl (.fn rfl rfl .nil ((Knows.blk .head).and (Knows.pick (.tail (.tail (.tail (.tail .head)))) k)) (name_ok lb db p pre most start high la bl.length lc base hb h3)) ?_
 rintro v _ ⟨G1, hq, rfl⟩
 obtain ⟨rfl, rfl⟩ := hq
 simp only [List.nil_append]
 refine ⟨.inr ⟨_, (.cons .head .nil)⟩, ?_⟩
 refine .ef 8 (by kernel_rfl) rfl (.fn rfl rfl (.cons (.tail (.tail .head)) (.cons (.tail (.tail .head)) .nil)) (fun _ _ _ => trivial) (SegOpen_ok db mb d (nameOf pre base) (base : Int) bs rest hd (nameOf_named hp (by omega)) hr ht hstop (by omega) (by omega) hc hg hl)) ?_
 rintro v _ ⟨G1, hq, rfl⟩
 obtain ⟨sb, sm, aa, ac, ia, ic, rfl, hix, hca, rfl⟩ := hq
 simp only [List.cons_append, List.nil_append]
 refine ⟨.inl (by kernel_rfl), ?_⟩
 refine .goD fds [9] ?_
 refine .goD fds [10] ?_
 refine .goD fds [11] ?_
 refine .goD fds [12] ?_
 refine .goD fds [13] ?_
 refine .goD fds [14] ?_
 refine .goD fds [15] ?_
 refine .done (by kernel_rfl) ?_
 refine .goO fds 13 ?_
 refine .rd (.ld na40 rfl (.tail (.tail (.tail (.tail (.tail .head))))) rfl) ?_
 refine .rd (.move rfl) ?_
 refine .ef (.buildOne (cs := [.pointer (some ⟨sb, 0, none⟩)]) Tryz.underlying55 ti39 (by decide) rfl rfl rfl (ones.of rfl)) ?_
 rintro _ _ ⟨bs, rfl, rfl⟩
 refine .ef (.append rfl rfl Tryz.underlying55 ti39 rfl (ones.of rfl) (by decide) (by decide) rfl rfl (.tail (.tail (.tail (.tail (.tail (.tail (.tail .head))))))) (n := bl.length) (m := 1) (flat_length spb_len _) (.srcBlk .head Tryz.underlying55 rfl (by decide)) (by omega)) ?_
 rintro _ _ ⟨qa, qc, rfl, qn, rfl⟩
 refine .go fds 2 ?_
 refine .ef0 (.store ts40 rfl rfl (.tail (.tail (.tail (.tail (.tail (.tail (.tail .head))))))) rfl (Nat.le_of_ble_eq_true rfl)) ?_
 rintro _ _ rfl
 refine .goO fds 6 ?_
 refine .ef0 (.store ts39 rfl rfl .head rfl (Nat.le_of_ble_eq_true rfl)) ?_
 rintro _ _ rfl
 refine .goR fds 2 ?_
 refine .cast (X' := blk lb (lcells (some ⟨sb, 0, none⟩) db pre most start high qa (bl ++ [sb]).length qc) 57) (by rw [List.length_append]; rfl) ?_
 refine .perm (.cons (.tail .head) (.cons .head (.cons .head (.cons .head (.cons .head (.cons .head (.cons .head (.cons .head (.cons .head .nil))))))))) ?_
 refine .cast (X' := arr 54 1 qa qc ((bl ++ [sb]).flatMap spb)) (by rw [spb_snoc]) ?_
 refine .go fds 4 ?_
 refine .retP Tryz.func67 (.cons (.tmp rfl) .nil) (.cons (.tail .head) (.cons .head (.cons (.tail .head) (.cons (.tail .head) (.cons (.tail .head) (.cons (.tail .head) (.cons (.tail .head) (.cons (.tail .head) .nil)))))))) ?_
 exact ⟨[_, _, _, _, _, _, _], ⟨sb, sm, aa, ac, ia, ic, qa, qc, rfl, hix, hca, rfl⟩, rfl⟩
end Go.Proofs.YtoglbebcdjdkiaaGreatDoor
/- Chapter 6: what a deletion leaves, in plain Lean. -/
namespace Go.Proofs.YtoglbebcdjdkiaaGreatDoor
open Go Go.Sp
def Own (l : Lx) (d : Dk) : Prop := ∀ u, u ≤ 1000000000 → (d.get (nameOf l.pre u)).isSome = true → ∃ s ∈ l.segs, s.base.toNat = u
def Full (l : Lx) (d : Dk) : Prop := ∀ s ∈ l.ini, (d.file s.nm).safe = (d.file s.nm).b.length
structure DelTo (l : Lx) (d : Dk) (off w : Nat) (l' : Lx) (d' : Dk) : Prop where
 ok : l'.ok d'
 dok : d'.ok
 lb : l'.lb = l.lb
 pre : l'.pre = l.pre
 most : l'.most = l.most
 start : l'.start = (off : Int)
 high : l'.high = (w : Int)
 cur : l'.cur = l.cur
 keep : keepN off l'.all = keepN off l.all
 size : d'.size = d.size
 used : d'.used ≤ d.used + 22
 len : d'.fs.length ≤ d.fs.length + 1
 own : Own l d → Own l' d'
 sub : ∀ s ∈ l'.ini, s ∈ l.ini
 num : d'.file (metaOf l.pre) = ⟨mt off w, (mt off w).length⟩
 far : ∀ n, n ≠ metaOf l.pre → (∀ s ∈ l.ini, s ∈ l'.ini ∨ n ≠ s.nm) → d'.get n = d.get n
theorem mset_len_le (fs : Fs) (n : Nm) (f : Fl) : (mset fs n f).length ≤ fs.length + 1 := by
 unfold mset; split <;> simp
theorem mset_len_in {d : Dk} {n : Nm} {f : Fl} (h : (d.get n).isSome = true) : (mset d.fs n f).length = d.fs.length := by
 unfold mset
 rw [if_pos, List.length_map]
 have h1 := mget_mem (Dk.get_some.1 h)
 exact List.any_eq_true.2 ⟨_, h1, by simp⟩
theorem mdel_len_le (fs : Fs) (n : Nm) : (mdel fs n).length ≤ fs.length := List.length_filter_le ..
theorem link_ge : ∀ (q : List Sx) (c : Sx) (n : Int), Link n (q ++ [c]) → (∀ t ∈ q, t.ok ∧ t.bs ≠ []) → ∀ t ∈ q ++ [c], n ≤ t.base
 | [], c, n, hk, _, t, ht => by rw [List.mem_singleton.1 ht]; have := hk.1; omega
 | y :: q, c, n, hk, ho, t, ht => by
  rcases List.mem_cons.1 ht with rfl | ht
  ·
   have := hk.1; omega
  ·
   have h10 := link_ge q c y.next hk.2 (fun z hz => ho z (.tail _ hz)) t ht
   have h11 := base_lt (ho y (.head _)).1 (ho y (.head _)).2
   have : y.base = n := hk.1
   omega
theorem first_ne {l : Lx} {d : Dk} (hl : l.ok d) {x : Sx} {r : List Sx} (h : l.ini = x :: r) : ∀ s ∈ r ++ [l.cur], s.nm ≠ x.nm := fun s hs e => by
 have e0 : l.segs = x :: (r ++ [l.cur]) := by unfold Lx.segs; rw [h]; rfl
 have h1 := hl.link
 rw [e0] at h1
 obtain ⟨e1, e2, _, _⟩ := hl.seg s (by rw [e0]; exact .tail _ hs)
 obtain ⟨f1, f2, _, _⟩ := hl.seg x (by rw [e0]; exact .head _)
 rw [e2, f2] at e
 have e5 := nameOf_inj e
 have hxi : x ∈ l.ini := by rw [h]; exact .head _
 have h6 := base_lt f1 (hl.ne x hxi)
 have h7 := link_ge r l.cur x.next h1.2 (fun t ht => hl.ini t (by rw [h]; exact .tail _ ht)) s hs
 have := e1.base0
 have := f1.base0
 omega
theorem DelTo.begin {l : Lx} {d : Dk} (hl : l.ok d) (hd : d.ok) {off w : Nat} (h1 : l.start ≤ (off : Int)) (h2 : (off : Int) ≤ (w : Int)) (h3 : (w : Int) ≤ l.next) (hz : off ≤ 1000000000) (hw : w ≤ 1000000000) (hs : d.used + 22 ≤ d.size) : DelTo l d off w { l with start := (off : Int), high := (w : Int) } (d.put (metaOf l.pre) ⟨mt off w, (mt off w).length⟩) := by
 have hm := mt_len hz hw
 have hu := Dk.used_put hd (metaOf l.pre) ⟨mt off w, (mt off w).length⟩
 dsimp only at hu
 refine ⟨keptL_ok hl (by omega) (by have := hl.start; omega) h2 h3, Dk.ok_put hd (by dsimp only; omega) (Nat.le_refl _), rfl, rfl, rfl, rfl, rfl, rfl, rfl, rfl, by omega, mset_len_le _ _ _, fun h u hu hg => ?_, fun s hs => hs, Dk.file_put _ _ _, fun n hn _ => (Dk.file_put_ne _ _ hn).2⟩
 rw [(Dk.file_put_ne _ _ (nameOf_meta (by omega))).2] at hg
 exact h u hu hg
theorem DelTo.step {l l' : Lx} {d d' : Dk} {off w : Nat} (h : DelTo l d off w l' d') {x : Sx} {r : List Sx} (hx : l'.ini = x :: r) (hn : x.next ≤ (off : Int)) (la : Option Addr) : DelTo l d off w (l'.less la) (d'.del x.nm) := by
 have hss := less_segs hx la
 have hxin : x ∈ l'.segs := by rw [hss]; exact .head _
 have hini : (l'.less la).ini = r := by unfold Lx.less; rw [hx]; rfl
 have hne := first_ne h.ok hx
 have hxm : x.nm ≠ metaOf l.pre := by
  obtain ⟨f1, f2, _, _⟩ := h.ok.seg x hxin
  rw [f2, h.pre]
  exact nameOf_meta (by have := f1.base0; have := f1.base1; omega)
 refine ⟨less_ok h.ok hx (by rw [h.start]; exact hn), Dk.ok_del h.dok _, h.lb, h.pre, h.most, h.start, h.high, h.cur, by rw [← less_keep h.ok hx hn]; exact h.keep, h.size, by have := Dk.used_del h.dok x.nm; have := h.used; omega, Nat.le_trans (mdel_len_le _ _) h.len, fun ho u hu hg => ?_, fun s hs => h.sub s (by rw [hx]; rw [hini] at hs; exact .tail _ hs), ?_, fun n hn hs => ?_⟩
 ·
  have hnx : nameOf (l'.less la).pre u ≠ x.nm := fun e => by rw [e, Dk.get_del, if_pos rfl] at hg; cases hg
  rw [(Dk.file_del_ne _ hnx).2] at hg
  obtain ⟨s, hs, e⟩ := h.own ho u hu hg
  rw [hss] at hs
  rcases List.mem_cons.1 hs with rfl | hs
  ·
   exfalso
   obtain ⟨f1, f2, _, _⟩ := h.ok.seg s hxin
   exact hnx (by rw [f2, e]; rfl)
  ·
   exact ⟨s, hs, e⟩
 ·
  rw [(Dk.file_del_ne _ hxm.symm).1]; exact h.num
 ·
  have hxi : x ∈ l.ini := h.sub x (by rw [hx]; exact .head _)
  have hnx : n ≠ x.nm := by
   rcases hs x hxi with hm | hm
   ·
    exfalso
    rw [hini] at hm
    exact hne x (List.mem_append_left _ hm) rfl
   ·
    exact hm
  rw [(Dk.file_del_ne _ hnx).2]
  refine h.far n hn fun s hsl => ?_
  rcases hs s hsl with hm | hm
  ·
   exact .inl (by rw [hx]; rw [hini] at hm; exact .tail _ hm)
  ·
   exact .inr hm
end Go.Proofs.YtoglbebcdjdkiaaGreatDoor
namespace Go.Proofs.YtoglbebcdjdkiaaGreatDoor
open Go Go.Sp
set_option linter.unusedVariables false
namespace seg6
theorem ts3 : TS Tryz.prog 3 1 := .of (by kernel_rfl)
theorem na3 : NotAgg Tryz.prog 3 := ⟨_, Tryz.underlying3, trivial⟩
theorem ti3 : TI Tryz.prog 3 1 8 (.int .i64 0) := .of (by kernel_rfl)
end seg6
open seg6
def stN {St : Type} (d : Nat → St → Bool × St) (s0 : St) : Nat → St
 | 0 => s0
 | i + 1 => (d i (stN d s0 i)).2
def bN {St : Type} (d : Nat → St → Bool × St) (s0 : St) (i : Nat) : Bool := (d i (stN d s0 i)).1
def kept {St : Type} (d : Nat → St → Bool × St) (s0 : St) (ps : List Nat) : Nat → List Nat
 | 0 => []
 | j + 1 => if bN d s0 j = true then kept d s0 ps j else kept d s0 ps j ++ (ps[j]?).toList
theorem kept_pre {St : Type} {d : Nat → St → Bool × St} {s0 : St} {ps : List Nat} : ∀ k, (∀ j < k, bN d s0 j = false) → kept d s0 ps k = ps.take k
 | 0, _ => rfl
 | k + 1, h => by rw [kept, if_neg (by rw [h k (by omega)]; decide), kept_pre k fun j hj => h j (by omega), List.take_add_one]
theorem kept_hit {St : Type} {d : Nat → St → Bool × St} {s0 : St} {ps : List Nat} {k : Nat} (h : ∀ j < k, bN d s0 j = false) (hk : bN d s0 k = true) : kept d s0 ps (k + 1) = ps.take k := by rw [kept, if_pos hk, kept_pre k h]
theorem set_take {α : Type} {q : List α} {i : Nat} {p : α} (h : i < q.length) : (q.set i p).take (i + 1) = q.take i ++ [p] := by rw [List.take_add_one, List.take_set_of_le (Nat.le_refl i), List.getElem?_set, if_pos rfl, if_pos h]; rfl
theorem set_drop {α : Type} {q : List α} {i j : Nat} {p : α} (h : i < j) : (q.set i p).drop j = q.drop j := by rw [List.drop_set_of_lt h]
theorem drop_at {α : Type} {q ps : List α} {j : Nat} (h : q.drop j = ps.drop j) : q[j]? = ps[j]? := by
 have := congrArg (fun l => l[0]?) h
 simpa [List.getElem?_drop] using this
theorem drop_next {α : Type} {q ps : List α} {j : Nat} (h : q.drop j = ps.drop j) : q.drop (j + 1) = ps.drop (j + 1) := by
 rw [← List.drop_drop, ← List.drop_drop, h]
def zs (n : Nat) : List Value := (Builtin.zeroCells (Value.int .i64 0).cells n).toList
theorem zs_len (n : Nat) : (zs n).length = n := by simp [zs, Builtin.zeroCells, Value.cells]
theorem flat1 (l : List Nat) : (l.flatMap icN).length = l.length := by rw [flat_length icN_len, Nat.mul_one]
theorem clear_cells (q : List Nat) (i n : Nat) (hi : i + n = q.length) {pre post : List Value} : splice (pre ++ (q.flatMap icN ++ post)) (pre.length + i) (zs n) = pre ++ ((q.take i).flatMap icN ++ (zs n ++ post)) := by
 rw [splice_mid (by rw [zs_len, flat1]; omega)]
 unfold splice
 rw [zs_len, ← Go.Sp.flat_take icN_len q i, Nat.mul_one, List.drop_eq_nil_of_le (by rw [flat1]; omega), List.append_nil, List.append_assoc]
theorem kept_filter {d : Nat → Unit → Bool × Unit} {ps : List Nat} {z : Nat} (hd : ∀ i p, ps[i]? = some p → bN d () i = decide (z ≤ p)) : ∀ k, k ≤ ps.length → kept d () ps k = (ps.take k).filter fun i => decide (i < z)
 | 0, _ => rfl
 | k + 1, hk => by
  obtain ⟨p, hp⟩ : ∃ p, ps[k]? = some p := ⟨_, List.getElem?_eq_getElem (by omega)⟩
  have ih := kept_filter hd k (by omega)
  rw [kept, hd k p hp, List.take_add_one, hp, List.filter_append, ← ih]
  by_cases h : z ≤ p
  ·
   rw [if_pos (decide_eq_true h)]; simp [show ¬ p < z by omega]
  ·
   rw [if_neg (by simpa using h)]; simp [show p < z by omega]
set_option maxRecDepth 20000 in
theorem indexf_ok (ps : List Nat) {St : Type} (X : St → SProp) (d : Nat → St → Bool × St) (s0 : St) (φ : World → Prop) (f : FuncId) (cap : Array Value) (hf : ∀ (i p : Nat), ps[i]? = some p → Cn Tryz.prog f (.int .i64 ((p : Nat) : Int) :: cap.toList) φ [X (stN d s0 i)] fun v G => v = .bool (bN d s0 i) ∧ G = [X (stN d s0 (i + 1))]) (a : Option Addr) (c : Nat) (hn : ps.length ≤ 1000000) : Cn Tryz.prog 166 [.slice a ps.length c, .func (.func f) #[] cap] (fun w => RowAt a (ps.flatMap icN) w ∧ φ w) [X s0] fun v G => (∃ k < ps.length, bN d s0 k = true ∧ (∀ j < k, bN d s0 j = false) ∧ v = .int .i64 (k : Nat) ∧ G = [X (stN d s0 (k + 1))]) ∨ ((∀ j < ps.length, bN d s0 j = false) ∧ v = .int .i64 (-1) ∧ G = [X (stN d s0 ps.length)]) := by
 refine .enter Tryz.func166 rfl (by kernel_rfl) rfl fun R k => ?_
 refine .goO fds 8 ?_
 refine .rd (.lenL rfl rfl Tryz.underlying31 rfl) ?_
 refine .goR fds 3 ?_
 refine .loop (σ := Nat) (fun i => i ≤ ps.length ∧ ∀ j < i, bN d s0 j = false) (fun i => ps.length - i) (fun i => [(0, .slice a ps.length c), (1, .func (.func f) #[] cap), (7, .int .i64 ps.length), (8, .int .i64 (i : Nat))]) (fun i => [X (stN d s0 i), R]) 0 ⟨Nat.zero_le _, fun j hj => absurd hj (Nat.not_lt_zero j)⟩ (.cons rfl (.cons rfl (.cons rfl (.cons rfl .nil)))) (.cons .head (.cons .head .nil)) (fun i hI ih => ?_)
 have hi := hI.1
 refine .go fds 5 ?_
 refine .condP rfl (fun h2 => ?_) (fun h2 => ?_)
 ·
  refine .go fds 9 ?_
  obtain ⟨p, hp⟩ : ∃ p, ps[i]? = some p := ⟨_, List.getElem?_eq_getElem (by omega)⟩
  refine .tell (φ := ∃ b o, a = some ⟨b, o, none⟩) (Knows.pick (.tail .head) (k.mono fun _ h => RowAt.addr h.1 (by rw [flat1]; omega))) (fun hh => ?_)
  obtain ⟨b9, o9, hab⟩ := hh
  refine .goO fds 4 ?_
  refine .rd (.indexAddr (b := b9) (o := o9) Tryz.underlying31 ts3 (by show some (Value.slice a _ _) = _; rw [hab]) rfl (by omega) (by omega)) ?_
  refine .rd (.load na3 rfl (Knows.one (i := 0) (Knows.elem (f := icN) icN_len (by decide) (Knows.pick (.tail .head) (k.mono fun _ h => hab ▸ h.1)) hp) rfl)) ?_
  refine .fnC rfl rfl (.cons .head .nil) (Knows.pick .head (k.mono fun _ h => h.2)) (hf i p hp) (fun v G1 hq => ?_)
  obtain ⟨rfl, rfl⟩ := hq
  simp only [List.cons_append, List.nil_append]
  refine .nil ?_
  refine .cond rfl (fun h4 => ?_) (fun h4 => ?_)
  ·
   refine .go fds 5 ?_
   refine .retP Tryz.func166 (.cons (.tmp rfl) .nil) (.cons .head (.cons .head .nil)) ?_
   exact ⟨[_], .inl ⟨i, by omega, h4, hI.2, rfl, rfl⟩, rfl⟩
  ·
   refine .goO fds 3 ?_
   refine .rd (.add rfl rfl (by omega) (by omega)) ?_
   refine .goR fds 2 ?_
   exact (ih (i + 1) ⟨by omega, fun j hj => by rcases Nat.lt_or_eq_of_le (Nat.le_of_lt_succ hj) with h | h; exact hI.2 j h; rw [h]; exact h4⟩ (by omega)).to (.cons rfl (.cons rfl (.cons rfl (.cons rfl .nil)))) (.cons .head (.cons .head .nil))
 ·
  refine .go fds 5 ?_
  obtain rfl : i = ps.length := by omega
  refine .retP Tryz.func166 (.cons (.tmp rfl) .nil) (.cons .head (.cons .head .nil)) ?_
  exact ⟨[_], .inr ⟨hI.2, rfl, rfl⟩, rfl⟩
set_option maxRecDepth 20000 in
theorem deletef_ok (ps : List Nat) {St : Type} (X : St → SProp) (d : Nat → St → Bool × St) (s0 : St) (φ : World → Prop) (f : FuncId) (cap : Array Value) (hf : ∀ (i p : Nat), ps[i]? = some p → Cn Tryz.prog f (.int .i64 ((p : Nat) : Int) :: cap.toList) φ [X (stN d s0 i)] fun v G => v = .bool (bN d s0 i) ∧ G = [X (stN d s0 (i + 1))]) (a : Option Addr) (c : Nat) (hn : ps.length ≤ 1000000) : Cn Tryz.prog 135 [.slice a ps.length c, .func (.func f) #[] cap] φ [arr 3 1 a c (ps.flatMap icN), X s0] fun v G => v = .slice a (kept d s0 ps ps.length).length c ∧ G = [arr 3 1 a c ((kept d s0 ps ps.length).flatMap icN), X (stN d s0 ps.length)] := by
 refine .enter Tryz.func135 rfl (by kernel_rfl) rfl fun R k => ?_
 refine .goO fds 8 ?_
 refine .fn rfl rfl (.cons (.tail .head) .nil) (fun A w h => ⟨(Knows.arr .head) A w h, (Knows.pick (.tail .head) k) A w h⟩) (indexf_ok ps X d s0 φ f cap hf a c hn) (fun v G1 hq => ?_)
 rcases hq with ⟨k0, hk0, hbk, hbj, rfl, rfl⟩ | ⟨hbj, rfl, rfl⟩
 ·
  simp only [List.cons_append, List.nil_append]
  refine .goR fds 8 ?_
  refine .condP rfl (fun h2 => ?_) (fun h2 => ?_)
  ·
   exact absurd h2 (by omega)
  ·
   refine .go fds 3 ?_
   refine .tell (φ := ps.length ≤ c) (fun A w h => by have := (h.map fun _ => ((.tail .head) : Pick (arr 3 1 a c (ps.flatMap icN)) _ _).sat).arr_len.1; rw [flat1] at this; omega) (fun hpc => ?_)
   refine .open_ (.tail .head) (fun h => arr.blk_of (by omega)) (fun x hx => ?_)
   obtain ⟨bb, pre, post⟩ := x
   obtain ⟨rfl, hlen⟩ := hx
   dsimp only at hlen
   rw [flat1, Nat.mul_one] at hlen
   simp only [List.cons_append, List.nil_append]
   have hkh := kept_hit (ps := ps) hbj hbk
   refine .goO fds 2 ?_
   refine .rd (.add rfl rfl (by omega) (by omega)) ?_
   refine .goR fds 3 ?_
   refine .loop (σ := Nat × List Nat) (fun ⟨j, q⟩ => k0 < j ∧ j ≤ ps.length ∧ q.length = ps.length ∧ (kept d s0 ps j).length < j ∧ q.take (kept d s0 ps j).length = kept d s0 ps j ∧ q.drop j = ps.drop j) (fun ⟨j, q⟩ => ps.length - j) (fun ⟨j, q⟩ => [(0, .slice (some ⟨bb, pre.length, none⟩ : Option Addr) ps.length c), (1, .func (.func f) #[] cap), (5, .int .i64 ((kept d s0 ps j).length : Nat)), (6, .int .i64 (j : Nat))]) (fun ⟨j, q⟩ => [blk bb (pre ++ (q.flatMap icN ++ post)) 3, X (stN d s0 j), R]) (k0 + 1, ps) ⟨Nat.lt_succ_self _, hk0, rfl, by rw [hkh, List.length_take]; omega, by rw [hkh, List.length_take, Nat.min_eq_left (by omega)], rfl⟩ (.cons rfl (.cons rfl (.cons (by show _ = some (Value.int .i64 ((kept d s0 ps (k0 + 1)).length : Nat)); rw [hkh, List.length_take, Nat.min_eq_left (by omega)]; rfl) (.cons rfl .nil)))) (.cons .head (.cons .head (.cons .head .nil))) (fun s' hI ih => ?_)
   obtain ⟨j, q⟩ := s'
   dsimp only at hI ih ⊢
   obtain ⟨hkj, hjn, hql, hkl, hqt, hqd⟩ := hI
   refine .goO fds 5 ?_
   refine .rd (.lenL rfl rfl Tryz.underlying31 rfl) ?_
   refine .goR fds 2 ?_
   refine .condP rfl (fun h5 => ?_) (fun h5 => ?_)
   ·
    refine .go fds 4 ?_
    obtain ⟨p, hp⟩ : ∃ p, ps[j]? = some p := ⟨_, List.getElem?_eq_getElem (by omega)⟩
    have hqp : q[j]? = some p := (drop_at hqd).trans hp
    refine .goO fds 3 ?_
    refine .rd (.indexAddr Tryz.underlying31 ts3 rfl rfl (by omega) (by omega)) ?_
    refine .rd (.load na3 rfl (Knows.one (i := 0) (Knows.mid icN_len .head hqp) rfl)) ?_
    refine .goO fds 6 ?_
    refine .fnC rfl rfl (.cons (.tail .head) .nil) (Knows.pick (.tail .head) (k.mono fun _ h => h)) (hf j p hp) (fun v G1 hq => ?_)
    obtain ⟨rfl, rfl⟩ := hq
    simp only [List.cons_append, List.nil_append]
    refine .goR fds 2 ?_
    rcases h8 : bN d s0 j with _ | _
    ·
     refine .condT rfl ?_
     have hkd : kept d s0 ps (j + 1) = kept d s0 ps j ++ [p] := by rw [kept, if_neg (by rw [h8]; decide), hp]; rfl
     have hkn : (kept d s0 ps (j + 1)).length = (kept d s0 ps j).length + 1 := by rw [hkd]; simp
     have hI2 : (q.set (kept d s0 ps j).length p).length = ps.length ∧ (kept d s0 ps (j + 1)).length < j + 1 ∧ (q.set (kept d s0 ps j).length p).take (kept d s0 ps (j + 1)).length = kept d s0 ps (j + 1) ∧ (q.set (kept d s0 ps j).length p).drop (j + 1) = ps.drop (j + 1) := ⟨by rw [List.length_set]; exact hql, by omega, by rw [hkn, set_take (by omega), hqt, hkd], by rw [set_drop (by omega)]; exact drop_next hqd⟩
     refine .goO fds 5 ?_
     refine .rd (.indexAddr Tryz.underlying31 ts3 rfl rfl (by omega) (by omega)) ?_
     refine .ef0 (.store (o := pre.length + (kept d s0 ps j).length) (v := .int .i64 ((p : Nat) : Int)) ts3 (by show some (Value.pointer (some _)) = _; rw [Int.toNat_natCast, Nat.mul_one]) rfl (.tail .head) rfl (by rw [List.length_append, List.length_append, flat1]; omega)) ?_
     rintro _ _ rfl
     refine .nil ?_
     refine .cast (X' := blk bb (pre ++ ((q.set (kept d s0 ps j).length p).flatMap icN ++ post)) 3) (by rw [set_mid (by rw [flat1]; omega)]; have hq2 : q[(kept d s0 ps j).length]? = some q[(kept d s0 ps j).length] := List.getElem?_eq_getElem (by omega); rw [← flat_set icN_len q _ _ p hq2 0 (.int .i64 ((p : Nat) : Int)) (by decide) rfl, Nat.mul_one]; rfl) ?_
     refine .goO fds 2 ?_
     refine .rd (.add rfl rfl (by omega) (by omega)) ?_
     refine .goO fds 5 ?_
     refine .rd (.add rfl rfl (by omega) (by omega)) ?_
     refine .goR fds 2 ?_
     exact (ih (j + 1, q.set (kept d s0 ps j).length p) ⟨by show k0 < j + 1; omega, by show j + 1 ≤ _; omega, hI2⟩ (by show ps.length - (j + 1) < ps.length - j; omega)).to (.cons rfl (.cons rfl (.cons (by show _ = some (Value.int .i64 ((kept d s0 ps (j + 1)).length : Nat)); rw [hkn]; rfl) (.cons rfl .nil)))) (.cons .head (.cons .head (.cons .head .nil)))
    ·
     refine .condF rfl ?_
     have hkd : kept d s0 ps (j + 1) = kept d s0 ps j := by rw [kept, if_pos h8]
     have hkn : (kept d s0 ps (j + 1)).length = (kept d s0 ps j).length := by rw [hkd]
     have hI2 : q.length = ps.length ∧ (kept d s0 ps (j + 1)).length < j + 1 ∧ q.take (kept d s0 ps (j + 1)).length = kept d s0 ps (j + 1) ∧ q.drop (j + 1) = ps.drop (j + 1) := ⟨hql, by omega, by rw [hkd]; exact hqt, drop_next hqd⟩
     refine .goO fds 4 ?_
     refine .rd (.add rfl rfl (by omega) (by omega)) ?_
     refine .goR fds 2 ?_
     exact (ih (j + 1, q) ⟨by show k0 < j + 1; omega, by show j + 1 ≤ _; omega, hI2⟩ (by show ps.length - (j + 1) < ps.length - j; omega)).to (.cons rfl (.cons rfl (.cons (by show _ = some (Value.int .i64 ((kept d s0 ps (j + 1)).length : Nat)); rw [hkn]; rfl) (.cons rfl .nil)))) (.cons (.tail .head) (.cons .head (.cons .head .nil)))
   ·
    refine .goO fds 5 ?_
    obtain rfl : j = ps.length := by omega
    refine .rd (.slice (l := (kept d s0 ps ps.length).length) (h := ps.length) (m := c) Tryz.underlying31 ts3 rfl rfl ⟨rfl, rfl⟩ ⟨_, rfl⟩ (by omega) (by omega) (by omega)) ?_
    refine .ef0 (.clear (b := bb) (o := pre.length + (kept d s0 ps ps.length).length) (n := ps.length - (kept d s0 ps ps.length).length) (cap := c - (kept d s0 ps ps.length).length) rfl rfl Tryz.underlying31 ti3 rfl (ones.of rfl) (by show some _ = some _; rw [if_neg (by omega)]; simp [Addr_add]) .head (by rw [List.length_append, List.length_append, flat1]; omega)) ?_
    rintro _ _ rfl
    refine .goO fds 5 ?_
    refine .rd (.slice (l := 0) (h := (kept d s0 ps ps.length).length) (m := c) Tryz.underlying31 ts3 rfl rfl ⟨_, rfl⟩ rfl (by omega) (by omega) (by omega)) ?_
    refine .goR fds 2 ?_
    refine .close (X := arr 3 1 (some ⟨bb, pre.length, none⟩ : Option Addr) c ((kept d s0 ps ps.length).flatMap icN)) (.cons .head .nil) (fun h H => sat.arr_close (post := zs (ps.length - (kept d s0 ps ps.length).length) ++ post) (by rw [flat1, List.length_append, zs_len]; omega) (by rw [← hqt.symm.trans hqt, ← congrArg (List.flatMap icN) hqt, ← clear_cells q _ _ (by omega)]; exact H)) ?_
    refine .retP Tryz.func135 (.cons (.tmp rfl) .nil) (.cons .head (.cons .head (.cons .head .nil))) ?_
    exact ⟨[_, _], ⟨by simp only [resVal]; rw [if_neg (by omega)]; simp [Addr_add], rfl⟩, rfl⟩
 ·
  simp only [List.cons_append, List.nil_append]
  refine .goR fds 8 ?_
  refine .condP rfl (fun h2 => ?_) (fun h2 => ?_)
  ·
   refine .go fds 5 ?_
   have hka : kept d s0 ps ps.length = ps := by rw [kept_pre _ hbj, List.take_length]
   refine .retP Tryz.func135 (.cons (.tmp rfl) .nil) (.cons (.tail .head) (.cons .head (.cons .head .nil))) ?_
   exact ⟨[_, _], by rw [hka]; exact ⟨rfl, rfl⟩, rfl⟩
  ·
   exact absurd rfl h2
end Go.Proofs.YtoglbebcdjdkiaaGreatDoor
namespace Go.Proofs.YtoglbebcdjdkiaaGreatDoor
open Go Go.Sp
set_option linter.unusedVariables false
namespace seg7
theorem na3 : NotAgg Tryz.prog 3 := ⟨_, Tryz.underlying3, trivial⟩
theorem na39 : NotAgg Tryz.prog 54 := ⟨_, Tryz.underlying54, trivial⟩
theorem na67 : NotAgg Tryz.prog 108 := ⟨_, Tryz.underlying108, trivial⟩
theorem ti3 : TI Tryz.prog 3 1 8 (.int .i64 0) := .of (by kernel_rfl)
theorem ts3 : TS Tryz.prog 3 1 := .of (by kernel_rfl)
theorem na24 : NotAgg Tryz.prog 24 := ⟨_, Tryz.underlying24, trivial⟩
theorem na9 : NotAgg Tryz.prog 9 := ⟨_, Tryz.underlying9, trivial⟩
theorem ts71 : TS Tryz.prog 112 4 := .of (by kernel_rfl)
theorem ts67 : TS Tryz.prog 108 1 := .of (by kernel_rfl)
theorem na22 : NotAgg Tryz.prog 31 := ⟨_, Tryz.underlying31, trivial⟩
theorem ts22 : TS Tryz.prog 31 1 := .of (by kernel_rfl)
end seg7
open seg7
theorem Cn.frame {P f} {args : List Value} {φ : World → Prop} {q : Value → Prop} {X : SProp} (h : Cn P f args φ [] fun v G => q v ∧ G = []) : Cn P f args φ [X] fun v G => q v ∧ G = [X] := fun R kR =>
 (h.ret (Γ := [X, R]) .nil kR.cons).mono fun v G ⟨G1, ⟨hq, h1⟩, h2⟩ => ⟨[X], ⟨hq, rfl⟩, by rw [h2, h1]; rfl⟩
def pC (s : Sx) (off : Int) (i : Nat) : Bool := decide (off < ((s.bs[i]?).map (·.en)).getD 0)
theorem pC_at {s : Sx} {off : Int} {i : Nat} {b : Bat} (hb : s.bs[i]? = some b) : pC s off i = decide (off < b.en) := by unfold pC; rw [hb]; rfl
theorem pC_mono {s : Sx} (h : s.ok) {off : Int} (a b : Nat) (hab : a ≤ b) (hb : b < s.bs.length) (hp : pC s off a = true) : pC s off b = true := by
 obtain ⟨x, hx⟩ : ∃ x, s.bs[a]? = some x := ⟨_, List.getElem?_eq_getElem (by omega)⟩
 obtain ⟨y, hy⟩ : ∃ y, s.bs[b]? = some y := ⟨_, List.getElem?_eq_getElem hb⟩
 rw [pC_at hx] at hp; rw [pC_at hy]
 have := Sx.en_mono h hx hy hab
 exact decide_eq_true (by have := of_decide_eq_true hp; omega)
theorem cut1 {db bx by' : Nat} {s : Sx} {z : Int} (h : s.ok) (i : Nat) (hi : i < s.bs.length) : Cn Tryz.prog 133 [.int .i64 (i : Nat), .pointer (some ⟨bx, 0, none⟩), .pointer (some ⟨by', 0, none⟩)] (fun w => CellsAt bx 0 [.pointer (some ⟨s.b, 0, none⟩)] w ∧ CellsAt by' 0 [.int .i64 z] w ∧ SegAt db s w) [] fun v G => v = .bool (pC s z i) ∧ G = [] := by
 obtain ⟨x, hx⟩ : ∃ x, s.bs[i]? = some x := ⟨_, List.getElem?_eq_getElem hi⟩
 rw [pC_at hx]; exact Cut1_ok db bx by' i s z x h hx
def dC (sm : List Nat) (z : Nat) (i : Nat) (_ : Unit) : Bool × Unit := (decide (z ≤ sm.getD i 0), ())
theorem dC_at {sm : List Nat} {z i p : Nat} (h : sm[i]? = some p) : bN (dC sm z) () i = decide (z ≤ p) := by
 show decide (z ≤ sm.getD i 0) = _; rw [List.getD_eq_getElem?_getD, h]; rfl
theorem cut2 {bx : Nat} {sm : List Nat} {z : Nat} (hz : z ≤ 100000) {X : SProp} (i p : Nat) (h : sm[i]? = some p) : Cn Tryz.prog 136 (.int .i64 ((p : Nat) : Int) :: (#[.pointer (some ⟨bx, 0, none⟩)] : Array Value).toList) (CellsAt bx 0 [.int .i64 (z : Int)]) [(fun _ => X) (stN (dC sm z) () i)] fun v G => v = .bool (bN (dC sm z) () i) ∧ G = [(fun _ => X) (stN (dC sm z) () (i + 1))] := by
 rw [dC_at h]
 have e : decide (z ≤ p) = decide ((z : Int) ≤ (p : Int)) := decide_eq_decide.2 (by omega)
 rw [e]
 exact Cn.frame (q := fun v => v = .bool (decide ((z : Int) ≤ (p : Int)))) (Cut2_ok bx p z hz)
theorem cut_kept {sm : List Nat} {z : Nat} : kept (dC sm z) () sm sm.length = sm.filter fun i => decide (i < z) := by
 rw [kept_filter (z := z) (fun i p h => dC_at h) sm.length (Nat.le_refl _), List.take_length]
theorem arr_mono {e s a c cs} {h k : Hp} (hl : Hp.le h k) (H : arr e s a c cs h) : arr e s a c cs k := by
 rcases H with H | ⟨b, pre, post, e1, e2, H⟩
 ·
  exact .inl H
 ·
  exact .inr ⟨b, pre, post, e1, e2, blk_mono hl H⟩
theorem cut_rows {s : Sx} {z : Nat} (hz : z ≤ s.bs.length) {sm : List Nat} {h k : Hp} (hl : Hp.le h k) (H : arr 112 4 s.aa s.ac s.rows h) : arr 112 4 s.aa s.ac (Sx.mk s.b s.nm s.base (s.bs.take z) sm s.aa s.ac s.ia s.ic).rows k := by
 have e : s.rows = (Sx.mk s.b s.nm s.base (s.bs.take z) sm s.aa s.ac s.ia s.ic).rows ++ ((onesOf 0 s.bs).drop z).flatMap One.cells := by
  unfold Sx.rows; dsimp only
  rw [← onesOf_take, ← List.flatMap_append, List.take_append_drop]
 rw [e] at H
 exact arr_mono hl (arr.shrink H)
set_option maxHeartbeats 1000000 in
set_option maxRecDepth 20000 in
theorem SegCut_ok (db mb : Nat) (d : Dk) (s : Sx) (off : Int) (hd : d.ok) (hs : s.ok) (hx : (d.get s.nm).isSome = true) (hf : (d.file s.nm).b = flat s.bs) (ho : s.base ≤ off) (ho2 : off ≤ 1000000000) : Cn Tryz.prog 86 [.pointer (some ⟨s.b, 0, none⟩), .int .i64 off] (fun _ => True) [blk db (d.cells mb) 74, mp nmv Fl.val mb d.fs, blk s.b (s.cells db) 110, arr 112 4 s.aa s.ac s.rows, arr 3 1 s.ia s.ic (s.sm.flatMap icN)] fun v G => v = .int .i64 0 ∧ ∃ z d' sm, z ≤ s.bs.length ∧ (∀ q < z, pC s off q = false) ∧ (∀ q, z ≤ q → q < s.bs.length → pC s off q = true) ∧ Ix sm z ∧ (z = s.bs.length ∧ d' = d ∨ z < s.bs.length ∧ d' = d.put s.nm ⟨flat (s.bs.take z), min (d.file s.nm).safe (flat (s.bs.take z)).length⟩) ∧ G = [blk db ((Dk.cells d' mb)) 74, mp nmv Fl.val mb (Dk.fs d'), blk s.b ((Sx.mk s.b s.nm s.base (s.bs.take z) sm s.aa s.ac s.ia s.ic).cells db) 110, arr 112 4 s.aa s.ac (Sx.mk s.b s.nm s.base (s.bs.take z) sm s.aa s.ac s.ia s.ic).rows, arr 3 1 s.ia s.ic (sm.flatMap icN)] := by
 refine .enter Tryz.func86 rfl (by kernel_rfl) rfl fun R k => ?_
 have hl := hs.len
 have hcap := hs.cap
 have hfl := hs.flat_len
 have hb0 := hs.base0
 refine .goO fds 2 ?_
 refine .ef (.box (l := [.pointer (some ⟨s.b, 0, none⟩)]) rfl rfl (ones.of rfl)) ?_
 rintro _ _ ⟨b2, rfl, rfl⟩
 refine .ef (.box (l := [.int .i64 off]) rfl rfl (ones.of rfl)) ?_
 rintro _ _ ⟨b3, rfl, rfl⟩
 refine .goR fds 4 ?_
 refine .draws [0, 1, 4] [blk b3 [.int .i64 off] 3, blk b2 [.pointer (some ⟨s.b, 0, none⟩)] 54, blk s.b (s.cells db) 110] (by kernel_rfl) ?_
 refine .rd 0 rfl rfl (by kernel_rfl) (by kernel_rfl) (by kernel_rfl) (.ld na3 rfl .head rfl) (.cons .head (.cons .head (.cons (.tail (.tail .head)) .nil))) ?_
 refine .rd 1 rfl rfl (by kernel_rfl) (by kernel_rfl) (by kernel_rfl) (.ld na39 rfl (.tail .head) rfl) (.cons .head (.cons .head (.cons (.tail (.tail .head)) .nil))) ?_
 refine .goD fds [2] ?_
 refine .goD fds [3] ?_
 refine .rd 4 rfl rfl (by kernel_rfl) (by kernel_rfl) (by kernel_rfl) (.ld na3 rfl (.tail (.tail .head)) rfl) (.cons .head (.cons .head (.cons (.tail (.tail .head)) .nil))) ?_
 refine .goD fds [5] ?_
 refine .alter (t := 11) (v' := .bool false) rfl (congrArg Value.bool (decide_eq_false (by omega))) ?_
 refine .done (by kernel_rfl) ?_
 refine .goO fds 4 ?_
 refine .rd (.ld na39 rfl (.tail .head) rfl) ?_
 refine .go fds 2 ?_
 refine .rd (.ld na67 rfl (.tail (.tail (.tail (.tail .head)))) rfl) ?_
 refine .rd (.lenL rfl rfl Tryz.underlying108 rfl) ?_
 refine .rd (.makeFunc (cs := [.pointer (some ⟨b2, 0, none⟩), .pointer (some ⟨b3, 0, none⟩)]) rfl rfl) ?_
 refine .fn rfl rfl .nil ((Knows.blk (.tail .head)).and ((Knows.blk .head).and ((Knows.blk (.tail (.tail (.tail (.tail .head))))).and ((Knows.arr (.tail (.tail (.tail (.tail (.tail .head)))))).and (Knows.arr (.tail (.tail (.tail (.tail (.tail (.tail .head))))))))))) (Search_ok s.bs.length (by omega) (pC s off) (pC_mono hs) (fun w => CellsAt b2 0 [.pointer (some ⟨s.b, 0, none⟩)] w ∧ CellsAt b3 0 [.int .i64 off] w ∧ SegAt db s w) 133 #[.pointer (some ⟨b2, 0, none⟩), .pointer (some ⟨b3, 0, none⟩)] (cut1 hs)) (fun v G1 hq => ?_)
 obtain ⟨z, hz, hz1, hz2, rfl, rfl⟩ := hq
 simp only [List.nil_append]
 refine .ef (.alloc ti3 rfl (ones.of rfl)) ?_
 rintro _ _ ⟨b5, rfl, rfl⟩
 refine .ef0 (.store ts3 rfl rfl .head rfl (Nat.le_of_ble_eq_true rfl)) ?_
 rintro _ _ rfl
 refine .nil ?_
 refine .cast (X' := blk b5 [.int .i64 (z : Int)] 3) (rfl) ?_
 refine .go fds 2 ?_
 refine .draws [0, 1, 4] [blk b5 [.int .i64 (z : Int)] 3, blk b2 [.pointer (some ⟨s.b, 0, none⟩)] 54, blk s.b (s.cells db) 110] (by kernel_rfl) ?_
 refine .rd 0 rfl rfl (by kernel_rfl) (by kernel_rfl) (by kernel_rfl) (.ld na3 rfl .head rfl) (.cons .head (.cons (.tail .head) (.cons (.tail (.tail (.tail .head))) .nil))) ?_
 refine .rd 1 rfl rfl (by kernel_rfl) (by kernel_rfl) (by kernel_rfl) (.ld na39 rfl (.tail .head) rfl) (.cons .head (.cons (.tail .head) (.cons (.tail (.tail (.tail .head))) .nil))) ?_
 refine .goD fds [2] ?_
 refine .goD fds [3] ?_
 refine .rd 4 rfl rfl (by kernel_rfl) (by kernel_rfl) (by kernel_rfl) (.ld na67 rfl (.tail (.tail .head)) rfl) (.cons .head (.cons (.tail .head) (.cons (.tail (.tail (.tail .head))) .nil))) ?_
 refine .rp 5 rfl (by kernel_rfl) (by kernel_rfl) (by kernel_rfl) (Reads.pure (.lenL rfl rfl Tryz.underlying108 rfl)) ?_
 refine .goD fds [6] ?_
 refine .done (by kernel_rfl) ?_
 refine .condP rfl (fun c4 => ?_) (fun c4 => ?_)
 ·
  refine .seq ?_
  obtain ⟨b, hb⟩ : ∃ b, s.bs[z]? = some b := ⟨_, List.getElem?_eq_getElem (by omega)⟩
  have hfa := flat_all hb
  have hlq := flat_lq (bs := s.bs) z
  have hsm := Sx.sm_le hs
  refine .tell (φ := ∃ b o, s.aa = some ⟨b, o, none⟩) ((Knows.arr (.tail (.tail (.tail (.tail (.tail (.tail .head))))))).mono fun _ h => RowAt.addr h (by rw [Sx.rows_len]; omega)) (fun hh => ?_)
  obtain ⟨b9, o9, h9⟩ := hh
  refine .draws [0, 3, 4, 7, 8, 11, 12, 15] [blk b5 [.int .i64 (z : Int)] 3, blk b2 [.pointer (some ⟨s.b, 0, none⟩)] 54, blk s.b (s.cells db) 110, arr 112 4 s.aa s.ac s.rows] (by kernel_rfl) ?_
  refine .rd 0 rfl rfl (by kernel_rfl) (by kernel_rfl) (by kernel_rfl) (.ld na39 rfl (.tail .head) rfl) (.cons .head (.cons (.tail .head) (.cons (.tail (.tail (.tail .head))) (.cons (.tail (.tail (.tail .head))) .nil)))) ?_
  refine .goD fds [1] ?_
  refine .goD fds [2] ?_
  refine .rd 3 rfl rfl (by kernel_rfl) (by kernel_rfl) (by kernel_rfl) (.ld na24 rfl (.tail (.tail .head)) rfl) (.cons .head (.cons (.tail .head) (.cons (.tail (.tail (.tail .head))) (.cons (.tail (.tail (.tail .head))) .nil)))) ?_
  refine .rd 4 rfl rfl (by kernel_rfl) (by kernel_rfl) (by kernel_rfl) (.ld na39 rfl (.tail .head) rfl) (.cons .head (.cons (.tail .head) (.cons (.tail (.tail (.tail .head))) (.cons (.tail (.tail (.tail .head))) .nil)))) ?_
  refine .goD fds [5] ?_
  refine .goD fds [6] ?_
  refine .rd 7 rfl rfl (by kernel_rfl) (by kernel_rfl) (by kernel_rfl) (.ld na9 rfl (.tail (.tail .head)) rfl) (.cons .head (.cons (.tail .head) (.cons (.tail (.tail (.tail .head))) (.cons (.tail (.tail (.tail .head))) .nil)))) ?_
  refine .rd 8 rfl rfl (by kernel_rfl) (by kernel_rfl) (by kernel_rfl) (.ld na39 rfl (.tail .head) rfl) (.cons .head (.cons (.tail .head) (.cons (.tail (.tail (.tail .head))) (.cons (.tail (.tail (.tail .head))) .nil)))) ?_
  refine .goD fds [9] ?_
  refine .goD fds [10] ?_
  refine .rd 11 rfl rfl (by kernel_rfl) (by kernel_rfl) (by kernel_rfl) (.ld na67 rfl (.tail (.tail .head)) rfl) (.cons .head (.cons (.tail .head) (.cons (.tail (.tail (.tail .head))) (.cons (.tail (.tail (.tail .head))) .nil)))) ?_
  refine .rd 12 rfl rfl (by kernel_rfl) (by kernel_rfl) (by kernel_rfl) (.ld na3 rfl .head rfl) (.cons .head (.cons (.tail .head) (.cons (.tail (.tail (.tail .head))) (.cons (.tail (.tail (.tail .head))) .nil)))) ?_
  refine .rp 13 rfl (by kernel_rfl) (by kernel_rfl) (by kernel_rfl) (Reads.pure (.indexAddr (b := b9) (o := o9) Tryz.underlying108 ts71 (by show some (Value.slice (s.aa) _ _) = _; rw [h9]) rfl (by omega) (by omega))) ?_
  refine .goD fds [14] ?_
  refine .rd 15 rfl rfl (by kernel_rfl) (by kernel_rfl) (by kernel_rfl) (.load na3 rfl (Knows.one (i := 2) (Knows.elem (f := One.cells) One.cells_len (by decide) ((Knows.arr (.tail (.tail (.tail .head)))).mono fun _ h => h9 ▸ h) (one_at hb)) rfl)) (.cons .head (.cons (.tail .head) (.cons (.tail (.tail (.tail .head))) (.cons (.tail (.tail (.tail .head))) .nil)))) ?_
  refine .ef 16 (by kernel_rfl) rfl (.fn rfl rfl (.cons (.tail (.tail (.tail .head))) (.cons (.tail (.tail (.tail .head))) .nil)) (fun _ _ _ => trivial) (Cut_ok db mb d s.nm (flat (s.bs.take z)).length hd hx (by rw [hf]; exact hlq))) ?_
  rintro v _ ⟨G1, hq, rfl⟩
  obtain ⟨rfl, rfl⟩ := hq
  simp only [List.cons_append, List.nil_append]
  refine ⟨.inl (by kernel_rfl), ?_⟩
  refine .done (by kernel_rfl) ?_
  refine .cast (X' := blk db ((d.put s.nm ⟨flat (s.bs.take z), min (d.file s.nm).safe (flat (s.bs.take z)).length⟩).cells mb) 74) (by rw [hf, flat_take]) ?_
  refine .perm (.cons (.tail .head) (.cons .head (.cons .head (.cons .head (.cons .head (.cons .head (.cons .head (.cons .head (.cons .head .nil))))))))) ?_
  refine .cast (X' := mp nmv Fl.val mb (d.put s.nm ⟨flat (s.bs.take z), min (d.file s.nm).safe (flat (s.bs.take z)).length⟩).fs) (by rw [hf, flat_take]) ?_
  refine .seq ?_
  refine .draws [0, 1, 4, 5] [blk b5 [.int .i64 (z : Int)] 3, blk b2 [.pointer (some ⟨s.b, 0, none⟩)] 54, blk s.b (s.cells db) 110] (by kernel_rfl) ?_
  refine .rd 0 rfl rfl (by kernel_rfl) (by kernel_rfl) (by kernel_rfl) (.ld na39 rfl (.tail .head) rfl) (.cons (.tail (.tail .head)) (.cons (.tail (.tail (.tail .head))) (.cons (.tail (.tail (.tail .head))) .nil))) ?_
  refine .rd 1 rfl rfl (by kernel_rfl) (by kernel_rfl) (by kernel_rfl) (.ld na39 rfl (.tail .head) rfl) (.cons (.tail (.tail .head)) (.cons (.tail (.tail (.tail .head))) (.cons (.tail (.tail (.tail .head))) .nil))) ?_
  refine .goD fds [2] ?_
  refine .goD fds [3] ?_
  refine .rd 4 rfl rfl (by kernel_rfl) (by kernel_rfl) (by kernel_rfl) (.ld na67 rfl (.tail (.tail .head)) rfl) (.cons (.tail (.tail .head)) (.cons (.tail (.tail (.tail .head))) (.cons (.tail (.tail (.tail .head))) .nil))) ?_
  refine .rd 5 rfl rfl (by kernel_rfl) (by kernel_rfl) (by kernel_rfl) (.ld na3 rfl .head rfl) (.cons (.tail (.tail .head)) (.cons (.tail (.tail (.tail .head))) (.cons (.tail (.tail (.tail .head))) .nil))) ?_
  refine .rp 6 rfl (by kernel_rfl) (by kernel_rfl) (by kernel_rfl) (Reads.pure (.slice (l := 0) (h := z) (m := s.ac) Tryz.underlying108 ts71 rfl rfl ⟨_, rfl⟩ rfl (by omega) (by omega) (by omega))) ?_
  refine .alter (t := 49) (v' := .slice s.aa z s.ac) rfl (by rw [h9]; simp [Addr_add]) ?_
  refine .goD fds [7] ?_
  refine .goD fds [8] ?_
  refine .ef0 9 (by kernel_rfl) rfl (.store ts67 rfl rfl (.tail (.tail (.tail (.tail (.tail .head))))) rfl (Nat.le_of_ble_eq_true rfl)) ?_
  rintro _ _ rfl
  refine ⟨.inl (by kernel_rfl), ?_⟩
  refine .done (by kernel_rfl) ?_
  refine .cast (X' := blk s.b [.pointer (some ⟨db, 0, none⟩), nmv s.nm, .int .i64 s.base, .slice s.aa z s.ac, .slice s.ia s.sm.length s.ic] 110) (rfl) ?_
  refine .nothing ?_
  refine .draws [0, 1, 4] [blk b5 [.int .i64 (z : Int)] 3, blk b2 [.pointer (some ⟨s.b, 0, none⟩)] 54, blk s.b [.pointer (some ⟨db, 0, none⟩), nmv s.nm, .int .i64 s.base, .slice s.aa z s.ac, .slice s.ia s.sm.length s.ic] 110] (by kernel_rfl) ?_
  refine .rd 0 rfl rfl (by kernel_rfl) (by kernel_rfl) (by kernel_rfl) (.ld na39 rfl (.tail .head) rfl) (.cons (.tail (.tail (.tail (.tail .head)))) (.cons (.tail (.tail (.tail (.tail (.tail .head))))) (.cons (.tail .head) .nil))) ?_
  refine .rd 1 rfl rfl (by kernel_rfl) (by kernel_rfl) (by kernel_rfl) (.ld na39 rfl (.tail .head) rfl) (.cons (.tail (.tail (.tail (.tail .head)))) (.cons (.tail (.tail (.tail (.tail (.tail .head))))) (.cons (.tail .head) .nil))) ?_
  refine .goD fds [2] ?_
  refine .goD fds [3] ?_
  refine .rd 4 rfl rfl (by kernel_rfl) (by kernel_rfl) (by kernel_rfl) (.ld na22 rfl (.tail (.tail .head)) rfl) (.cons (.tail (.tail (.tail (.tail .head)))) (.cons (.tail (.tail (.tail (.tail (.tail .head))))) (.cons (.tail .head) .nil))) ?_
  refine .rp 5 rfl (by kernel_rfl) (by kernel_rfl) (by kernel_rfl) (Reads.pure (.makeFunc (cs := [.pointer (some ⟨b5, 0, none⟩)]) rfl rfl)) ?_
  refine .ef 6 (by kernel_rfl) rfl (.fn rfl rfl (.cons (.tail (.tail (.tail (.tail (.tail (.tail (.tail (.tail .head)))))))) (.cons .head .nil)) (Knows.blk (.tail (.tail (.tail .head)))) (deletef_ok s.sm (fun _ => sat []) (dC s.sm z) () (CellsAt b5 0 [.int .i64 (z : Int)]) 136 #[.pointer (some ⟨b5, 0, none⟩)] (fun i p h => cut2 (by omega) i p h) s.ia s.ic (by omega))) ?_
  rintro v _ ⟨G1, hq, rfl⟩
  obtain ⟨rfl, rfl⟩ := hq
  simp only [List.cons_append, List.nil_append]
  refine ⟨.inr ⟨_, (.cons (.tail (.tail (.tail (.tail (.tail .head))))) (.cons (.tail (.tail (.tail (.tail (.tail (.tail .head)))))) (.cons (.tail (.tail .head)) .nil)))⟩, ?_⟩
  refine .goD fds [7] ?_
  refine .goD fds [8] ?_
  refine .ef0 9 (by kernel_rfl) rfl (.store ts22 rfl rfl (.tail (.tail .head)) rfl (Nat.le_of_ble_eq_true rfl)) ?_
  rintro _ _ rfl
  refine ⟨.inl (by kernel_rfl), ?_⟩
  refine .done (by kernel_rfl) ?_
  have hmin : (s.bs.take z).length = z := by rw [List.length_take]; omega
  refine .cast (X' := blk s.b ((Sx.mk s.b s.nm s.base (s.bs.take z) (s.sm.filter fun i => decide (i < z)) s.aa s.ac s.ia s.ic).cells db) 110) (by show _ = blk s.b [_, _, _, .slice s.aa (s.bs.take z).length s.ac, _] 110; rw [hmin, ← cut_kept]; rfl) ?_
  refine .perm (.cons (.tail .head) (.cons .head (.cons .head (.cons .head (.cons .head (.cons .head (.cons .head (.cons .head (.cons .head (.cons .head .nil)))))))))) ?_
  refine .cast (X' := arr 3 1 s.ia s.ic ((s.sm.filter fun i => decide (i < z)).flatMap icN)) (by rw [cut_kept]) ?_
  refine .close (X := arr 112 4 s.aa s.ac (Sx.mk s.b s.nm s.base (s.bs.take z) (s.sm.filter fun i => decide (i < z)) s.aa s.ac s.ia s.ic).rows) (.cons (.tail (.tail (.tail (.tail (.tail (.tail (.tail (.tail .head)))))))) .nil) (fun h H => by obtain ⟨h1, _, _, l1, _, H', _⟩ := H; exact cut_rows hz l1 H') ?_
  refine .go fds 4 ?_
  refine .retP Tryz.func86 (.cons (.tmp rfl) .nil) (.cons (.tail (.tail (.tail (.tail (.tail .head))))) (.cons (.tail (.tail (.tail (.tail .head)))) (.cons (.tail (.tail .head)) (.cons .head (.cons .head (.cons (.tail (.tail (.tail (.tail .head)))) .nil)))))) ?_
  exact ⟨[_, _, _, _, _], ⟨rfl, z, d.put s.nm ⟨flat (s.bs.take z), min (d.file s.nm).safe (flat (s.bs.take z)).length⟩, (s.sm.filter fun i => decide (i < z)), hz, hz1, hz2, hs.ix.cut hz, .inr ⟨by omega, rfl⟩, rfl⟩, rfl⟩
 ·
  refine .go fds 5 ?_
  obtain rfl : z = s.bs.length := by omega
  refine .retP Tryz.func86 (.cons (.tmp rfl) .nil) (.cons (.tail (.tail (.tail .head))) (.cons (.tail (.tail (.tail .head))) (.cons (.tail (.tail (.tail .head))) (.cons (.tail (.tail (.tail .head))) (.cons (.tail (.tail (.tail .head))) (.cons (.tail (.tail (.tail .head))) .nil)))))) ?_
  exact ⟨[_, _, _, _, _], ⟨rfl, s.bs.length, d, s.sm, hz, hz1, hz2, hs.ix, .inl ⟨rfl, rfl⟩, by rw [List.take_length]⟩, rfl⟩
end Go.Proofs.YtoglbebcdjdkiaaGreatDoor
/- Chapter 6: what a cut leaves, in plain Lean. -/
namespace Go.Proofs.YtoglbebcdjdkiaaGreatDoor
open Go Go.Sp
def cutN (n : Int) (l : List Bat) : List Bat := l.filter fun b => decide (b.en ≤ n)
theorem cutN_app (n : Int) (a b : List Bat) : cutN n (a ++ b) = cutN n a ++ cutN n b := List.filter_append ..
theorem cutN_none {n : Int} {l : List Bat} (h : ∀ b ∈ l, n < b.en) : cutN n l = [] := List.filter_eq_nil_iff.2 fun x hx => by have := h x hx; simp; omega
theorem cutN_all {n : Int} {l : List Bat} (h : ∀ b ∈ l, b.en ≤ n) : cutN n l = l := List.filter_eq_self.2 fun x hx => decide_eq_true (h x hx)
structure CutI (l : Lx) (d : Dk) (off : Int) (q : Lx) (e : Dk) : Prop where
 ok : q.ok e
 dok : e.ok
 lb : q.lb = l.lb
 pre : q.pre = l.pre
 most : q.most = l.most
 start : q.start = l.start
 high : q.high = l.start
 seg : ∃ t, l.segs = q.segs ++ t
 cut : cutN off q.all = cutN off l.all
 nx : off ≤ q.next
 base : baseOf q = baseOf l
 size : e.size = d.size
 used : e.used ≤ d.used
 len : e.fs.length ≤ d.fs.length
 own : Own l d → Own q e
 names : ∀ n, (e.get n).isSome = true → (d.get n).isSome = true
theorem CutI.begin {l : Lx} {d : Dk} (hl : l.ok d) (hd : d.ok) {off : Int} (h : off ≤ l.next) : CutI l d off { l with high := l.start } d :=
 ⟨⟨hl.pre, hl.seg, hl.link, hl.ne, hl.start, ⟨Int.le_refl _, hl.start.2.2⟩, hl.most, hl.len⟩, hd, rfl, rfl, rfl, rfl, rfl, ⟨[], (List.append_nil _).symm⟩, rfl, h, rfl, rfl, Nat.le_refl _, Nat.le_refl _, fun h => h, fun _ h => h⟩
theorem CutI.step {l q : Lx} {d e : Dk} {off : Int} (h : CutI l d off q e) {r : List Sx} {y : Sx} (hi : q.ini = r ++ [y]) (ho : off ≤ q.cur.base) (h0 : l.start ≤ off) : CutI l d off (q.pop r y) (e.del q.cur.nm) := by
 have hcb := pop_cur h.ok hi
 have hcok := h.ok.cur
 obtain ⟨t, ht⟩ := h.seg
 have hps := pop_segs hi
 refine ⟨pop_ok h.ok hi (by rw [h.start]; omega) (by rw [h.high]; omega), Dk.ok_del h.dok _, h.lb, h.pre, h.most, h.start, h.high, ⟨q.cur :: t, by rw [ht, hps, List.append_assoc]; rfl⟩, ?_, by show off ≤ y.next; omega, by rw [pop_base hi]; exact h.base, h.size, by have := Dk.used_del h.dok q.cur.nm; have := h.used; omega, Nat.le_trans (mdel_len_le _ _) h.len, fun hw u hu hg => ?_, fun n hn => h.names n (by rw [Dk.get_del] at hn; by_cases hx : n = q.cur.nm <;> simp [hx] at hn <;> exact hn)⟩
 ·
  rw [← h.cut, pop_all hi, cutN_app, cutN_none (l := q.cur.bs) fun b hb => by have := en_base hcok.1 hb; omega, List.append_nil]
 ·
  have hnx : nameOf (q.pop r y).pre u ≠ q.cur.nm := fun e' => by rw [e', Dk.get_del, if_pos rfl] at hg; cases hg
  rw [(Dk.file_del_ne _ hnx).2] at hg
  obtain ⟨s, hs, he⟩ := h.own hw u hu hg
  rw [hps] at hs
  rcases List.mem_append.1 hs with hs | hs
  ·
   exact ⟨s, hs, he⟩
  ·
   exfalso
   rw [List.mem_singleton.1 hs] at he
   exact hnx (by rw [hcok.2.1, he]; rfl)
structure CutTo (l : Lx) (d : Dk) (off : Int) (q : Lx) (e : Dk) : Prop where
 ok : q.ok e
 dok : e.ok
 lb : q.lb = l.lb
 pre : q.pre = l.pre
 most : q.most = l.most
 start : q.start = l.start
 high : q.high = min l.high q.next
 all : q.all = cutN off l.all
 base : baseOf q = baseOf l
 size : e.size = d.size
 used : e.used ≤ d.used
 len : e.fs.length ≤ d.fs.length
 own : Own l d → Own q e
 names : ∀ n, (e.get n).isSome = true → (d.get n).isSome = true
 num : q.segs.length ≤ l.segs.length
theorem chain_en {n : Int} {l : List Bat} (h : Chain n l) (hg : ∀ b ∈ l, b.good) : ∀ b ∈ l, b.en ≤ nextOf n l := fun b hb => by
 obtain ⟨i, hi⟩ := List.getElem?_of_mem hb
 have hlt := (List.getElem?_eq_some_iff.1 hi).1
 have h1 := (h.at hi).2
 have h2 := h.mono hg (i := i + 1) (j := l.length) (by omega)
 rw [List.take_length] at h2
 omega
theorem link_mid : ∀ {n : Int} {l : List Sx} {c : Sx}, Link n (l ++ [c]) → nextOf n (l.flatMap fun s => s.bs) = c.base
 | n, [], c, h => h.1.symm
 | n, x :: l, c, h => by
  have h1 : x.base = n := h.1
  subst h1
  rw [List.flatMap_cons, nextOf_app]
  exact link_mid (n := x.next) (l := l) h.2
theorem take_cut {s : Sx} {off : Int} {z : Nat} (hz : z ≤ s.bs.length) (h1 : ∀ q < z, pC s off q = false) (h2 : ∀ q, z ≤ q → q < s.bs.length → pC s off q = true) : s.bs.take z = cutN off s.bs := by
 have e : cutN off s.bs = cutN off (s.bs.take z) ++ cutN off (s.bs.drop z) := by rw [← cutN_app, List.take_append_drop]
 rw [e, cutN_all (l := s.bs.take z), cutN_none (l := s.bs.drop z), List.append_nil]
 ·
  intro b hb
  obtain ⟨i, hi⟩ := List.getElem?_of_mem hb
  rw [List.getElem?_drop] at hi
  have := h2 (z + i) (by omega) (List.getElem?_eq_some_iff.1 hi).1
  rw [pC_at hi] at this
  exact of_decide_eq_true this
 ·
  intro b hb
  obtain ⟨i, hi⟩ := List.getElem?_of_mem hb
  have hlt := (List.getElem?_eq_some_iff.1 hi).1
  rw [List.length_take] at hlt
  rw [List.getElem?_take, if_pos (by omega)] at hi
  have := h1 i (by omega)
  rw [pC_at hi] at this
  have := of_decide_eq_false this
  omega
def Lx.chop (l q : Lx) (z : Nat) (sm : List Nat) (h : Int) : Lx := { q with cur := ⟨q.cur.b, q.cur.nm, q.cur.base, q.cur.bs.take z, sm, q.cur.aa, q.cur.ac, q.cur.ia, q.cur.ic⟩, high := h, la := l.la, lc := l.lc }
theorem chop_base (l q : Lx) (z sm h) : baseOf (l.chop q z sm h) = baseOf q := by
 unfold baseOf Lx.segs Lx.chop
 cases q.ini <;> rfl
theorem CutI.last {l q : Lx} {d e d' : Dk} {off : Int} (h : CutI l d off q e) {z : Nat} {sm : List Nat} (hc : q.ini = [] ∨ q.cur.base < off) (hz : z ≤ q.cur.bs.length) (h1 : ∀ i < z, pC q.cur off i = false) (h2 : ∀ i, z ≤ i → i < q.cur.bs.length → pC q.cur off i = true) (hix : Ix sm z)
  (hd' : z = q.cur.bs.length ∧ d' = e ∨ z < q.cur.bs.length ∧ d' = e.put q.cur.nm ⟨flat (q.cur.bs.take z), min (e.file q.cur.nm).safe (flat (q.cur.bs.take z)).length⟩) (hge : l.start ≤ nextOf (baseOf l) (cutN off l.all)) (hh : l.start ≤ l.high) (nx : Int) (hnx : nx = nextOf q.cur.base (q.cur.bs.take z)) : CutTo l d off (l.chop q z sm (min l.high nx)) d' := by
 obtain ⟨c1, c2, c3, c4⟩ := h.ok.cur
 have hall : (l.chop q z sm (min l.high nx)).all = cutN off l.all := by
  show ((q.ini ++ [_]).flatMap fun s : Sx => s.bs) = _
  rw [← h.cut, List.flatMap_append]
  have e1 : q.all = q.ini.flatMap (fun s => s.bs) ++ q.cur.bs := by unfold Lx.all Lx.segs; rw [List.flatMap_append]; simp
  rw [e1, cutN_app, ← take_cut hz h1 h2]
  have e2 : cutN off (q.ini.flatMap fun s => s.bs) = q.ini.flatMap fun s => s.bs := by
   refine cutN_all fun b hb => ?_
   rcases hc with hc | hc
   ·
    rw [hc] at hb; cases hb
   ·
    have hch := h.ok.chain
    rw [e1] at hch
    have h3 := chain_en (Chain.app.1 hch).1 (fun x hx => h.ok.good x (by rw [e1]; exact List.mem_append_left _ hx)) b hb
    have h4 := link_mid (l := q.ini) (c := q.cur) h.ok.link
    omega
  rw [e2]; simp [Lx.chop]
 have hlk : Link (baseOf (l.chop q z sm (min l.high nx))) (l.chop q z sm (min l.high nx)).segs := by rw [chop_base]; exact link_cur (c := q.cur) rfl h.ok.link
 have hnext : (l.chop q z sm (min l.high nx)).next = nextOf (baseOf l) (cutN off l.all) := by
  have := link_next (l := (l.chop q z sm (min l.high nx)).ini) (c := (l.chop q z sm (min l.high nx)).cur) hlk
  rw [← hall, ← h.base, ← chop_base l q z sm (min l.high nx)]
  exact this.symm
 have hnx' : nx = (l.chop q z sm (min l.high nx)).next := hnx
 have hfl : (flat (q.cur.bs.take z)).length ≤ (e.file q.cur.nm).b.length := by rw [c4]; exact flat_lq z
 have hdok : d'.ok := by
  rcases hd' with ⟨_, rfl⟩ | ⟨_, rfl⟩
  ·
   exact h.dok
  ·
   exact Dk.ok_put h.dok (by dsimp only; have := h.dok.used; omega) (by dsimp only; omega)
 have hfar : ∀ n, n ≠ q.cur.nm → d'.file n = e.file n ∧ d'.get n = e.get n := fun n hn => by
  rcases hd' with ⟨_, rfl⟩ | ⟨_, rfl⟩
  ·
   exact ⟨rfl, rfl⟩
  ·
   exact Dk.file_put_ne _ _ hn
 have hcur : (d'.get q.cur.nm).isSome = true ∧ (d'.file q.cur.nm).b = flat (q.cur.bs.take z) := by
  rcases hd' with ⟨hz', rfl⟩ | ⟨_, rfl⟩
  ·
   exact ⟨c3, by rw [hz', List.take_length]; exact c4⟩
  ·
   exact ⟨Dk.some_put _ _ _, by rw [Dk.file_put]⟩
 refine ⟨⟨h.ok.pre, fun s hs => ?_, hlk, h.ok.ne, ⟨h.ok.start.1, by rw [chop_base]; exact h.ok.start.2.1, by show q.start ≤ _; rw [hnext, h.start]; exact hge⟩, ?_, h.ok.most, by have := h.ok.len; unfold Lx.segs at this ⊢; rw [List.length_append] at this ⊢; exact this⟩, hdok, h.lb, h.pre, h.most, h.start, by rw [← hnx']; rfl, hall, by rw [chop_base]; exact h.base, ?_, ?_, ?_, fun hw u hu hg => ?_, fun n hn => h.names n ?_, ?_⟩
 ·
  rcases List.mem_append.1 hs with hs | hs
  ·
   obtain ⟨k1, k2, k3, k4⟩ := h.ok.seg s (List.mem_append_left _ hs)
   obtain ⟨m1, m2⟩ := hfar s.nm (h.ok.nm_ne hs)
   exact ⟨k1, k2, by rw [m2]; exact k3, by rw [m1]; exact k4⟩
  ·
   rw [List.mem_singleton.1 hs]
   refine ⟨⟨c1.base0, c1.base1, c1.chain.take z, fun b hb => c1.good b (List.mem_of_mem_take hb), ?_, ?_, ?_⟩, c2, hcur.1, hcur.2⟩
   ·
    show (q.cur.bs.take z).length ≤ 4096; rw [List.length_take]; have := c1.len; omega
   ·
    show Ix sm (q.cur.bs.take z).length; rw [List.length_take, Nat.min_eq_left hz]; exact hix
   ·
    show (q.cur.bs.take z).length ≤ q.cur.ac; rw [List.length_take]; have := c1.cap; omega
 ·
  have : l.start ≤ nx := by rw [hnx', hnext]; exact hge
  refine ⟨?_, ?_⟩
  ·
   show q.start ≤ min l.high nx; rw [h.start]; omega
  ·
   rw [← hnx']; show min l.high nx ≤ nx; omega
 ·
  rcases hd' with ⟨_, rfl⟩ | ⟨_, rfl⟩ <;> exact h.size
 ·
  rcases hd' with ⟨_, rfl⟩ | ⟨_, rfl⟩
  ·
   exact h.used
  ·
   have := Dk.used_put h.dok q.cur.nm ⟨flat (q.cur.bs.take z), min (e.file q.cur.nm).safe (flat (q.cur.bs.take z)).length⟩
   have := h.used
   dsimp only at *
   omega
 ·
  rcases hd' with ⟨_, rfl⟩ | ⟨_, rfl⟩
  ·
   exact h.len
  ·
   have e1 : (e.put q.cur.nm ⟨flat (q.cur.bs.take z), min (e.file q.cur.nm).safe (flat (q.cur.bs.take z)).length⟩).fs.length = e.fs.length := mset_len_in c3
   rw [e1]; exact h.len
 ·
  have hg' : (e.get (nameOf q.pre u)).isSome = true := by
   by_cases hn : nameOf q.pre u = q.cur.nm
   ·
    rw [hn]; exact c3
   ·
    rw [← (hfar _ hn).2]; exact hg
  obtain ⟨s, hs, he⟩ := h.own hw u hu hg'
  rcases List.mem_append.1 hs with hs | hs
  ·
   exact ⟨s, List.mem_append_left _ hs, he⟩
  ·
   rw [List.mem_singleton.1 hs] at he
   exact ⟨_, List.mem_append_right _ (.head _), he⟩
 ·
  by_cases hx : n = q.cur.nm
  ·
   rw [hx]; exact c3
  ·
   rw [← (hfar _ hx).2]; exact hn
 ·
  obtain ⟨t, ht⟩ := h.seg
  rw [ht, List.length_append]
  have : (l.chop q z sm (min l.high nx)).segs.length = q.segs.length := by unfold Lx.segs Lx.chop; rw [List.length_append, List.length_append]; rfl
  omega
end Go.Proofs.YtoglbebcdjdkiaaGreatDoor
/- Chapter 6: which files are a log's, in plain Lean. -/
namespace Go.Proofs.YtoglbebcdjdkiaaGreatDoor
open Go Go.Sp
def dig10 : List UInt8 := [48, 49, 50, 51, 52, 53, 54, 55, 56, 57]
def dotlog : List UInt8 := [46, 108, 111, 103]
def mid1 (pre n : Nm) : List UInt8 := Lib.trimPrefix n (pre ++ [45])
def mid2 (pre n : Nm) : List UInt8 := Lib.trimSuffix (mid1 pre n) dotlog
def badN (pre n : Nm) : Bool := !(Lib.hasPrefix n (pre ++ [45])) || !(Lib.hasSuffix (mid1 pre n) dotlog) || !(decide ((mid2 pre n).length = 10)) || !(decide (Lib.trimS (mid2 pre n) dig10 = []))
def bn (pre n : Nm) : Option Nat := if badN pre n = true then none else if val 0 (mid2 pre n) ≤ 1000000000 then some (val 0 (mid2 pre n)) else none
theorem dig10_digit {c : UInt8} (h : c ∈ dig10) : digit c := by
 have : ∀ x ∈ dig10, 48 ≤ x.toNat ∧ x.toNat ≤ 57 := by decide
 exact this c h
theorem digit_dig10 {c : UInt8} (h : digit c) : c ∈ dig10 := by
 have key : ∀ k : Fin 256, 48 ≤ (k : Nat) ∧ (k : Nat) ≤ 57 → UInt8.ofNat k ∈ dig10 := by decide +kernel
 have := key ⟨c.toNat, c.toNat_lt⟩ h
 simpa using this
theorem bad_no {pre n : Nm} (h : badN pre n = false) : Lib.hasPrefix n (pre ++ [45]) = true ∧ Lib.hasSuffix (mid1 pre n) dotlog = true ∧ (mid2 pre n).length = 10 ∧ ∀ c ∈ mid2 pre n, digit c := by
 unfold badN at h
 simp only [Bool.or_eq_false_iff, Bool.not_eq_false', decide_eq_true_eq] at h
 obtain ⟨⟨⟨h1, h2⟩, h3⟩, h4⟩ := h
 exact ⟨h1, h2, h3, fun c hc => dig10_digit (trim_nil.1 h4 c hc)⟩
theorem bn_name {pre : Nm} {u : Nat} (hu : u ≤ 1000000000) : bn pre (nameOf pre u) = some u := by
 have e0 : nameOf pre u = (pre ++ [45]) ++ (pad u ++ dotlog) := by unfold nameOf dotlog; rw [List.append_assoc]
 have h1 : Lib.hasPrefix (nameOf pre u) (pre ++ [45]) = true := by rw [e0]; exact List.isPrefixOf_iff_prefix.2 (List.prefix_append _ _)
 have e1 : mid1 pre (nameOf pre u) = pad u ++ dotlog := by unfold mid1 Lib.trimPrefix; rw [if_pos h1, e0, List.drop_left]
 have h2 : Lib.hasSuffix (pad u ++ dotlog) dotlog = true := List.isSuffixOf_iff_suffix.2 (List.suffix_append _ _)
 have e2 : mid2 pre (nameOf pre u) = pad u := by
  unfold mid2; rw [e1]; unfold Lib.trimSuffix; rw [if_pos h2, List.length_append, Nat.add_sub_cancel, List.take_left]
 have h3 : (pad u).length = 10 := pad_len (by omega)
 have h4 : Lib.trimS (pad u) dig10 = [] := trim_nil.2 fun c hc => digit_dig10 (pad_digit u c hc)
 have h5 : badN pre (nameOf pre u) = false := by unfold badN; rw [h1, e1, h2, e2, decide_eq_true h3, decide_eq_true h4]; rfl
 unfold bn; rw [if_neg (by rw [h5]; decide), e2, val_pad, if_pos hu]
theorem bn_of {pre n : Nm} {u : Nat} (h : bn pre n = some u) : u ≤ 1000000000 ∧ ∃ t : List UInt8, n = pre ++ [45] ++ t ++ dotlog ∧ t.length = 10 ∧ val 0 t = u ∧ ∀ c ∈ t, digit c := by
 unfold bn at h
 split at h
 ·
  cases h
 ·
  rename_i hb
  split at h
  ·
   rename_i hu
   cases h
   obtain ⟨h1, h2, h3, h4⟩ := bad_no (Bool.eq_false_iff.2 hb)
   refine ⟨hu, mid2 pre n, ?_, h3, rfl, h4⟩
   obtain ⟨t, ht⟩ := List.isPrefixOf_iff_prefix.1 h1
   have e1 : mid1 pre n = t := by unfold mid1 Lib.trimPrefix; rw [if_pos h1, ← ht, List.drop_left]
   rw [e1] at h2
   obtain ⟨r, hr⟩ := List.isSuffixOf_iff_suffix.1 h2
   have e2 : mid2 pre n = r := by unfold mid2; rw [e1]; unfold Lib.trimSuffix; rw [if_pos h2, ← hr, List.length_append, Nat.add_sub_cancel, List.take_left]
   rw [e2, List.append_assoc, hr]; exact ht.symm
  ·
   cases h
def basesOf (pre : Nm) (ns : List Nm) : List Nat := ns.filterMap (bn pre)
def nmc (n : Nm) : List Value := [nmv n]
theorem nmc_len (n : Nm) : (nmc n).length = 1 := rfl
theorem map_nmc : ∀ l : List Nm, l.map nmv = l.flatMap nmc
 | [] => rfl
 | x :: l => by rw [List.map_cons, List.flatMap_cons, map_nmc l]; rfl
theorem basesOf_take {pre : Nm} {ns : List Nm} {i : Nat} {n : Nm} (h : ns[i]? = some n) : basesOf pre (ns.take (i + 1)) = basesOf pre (ns.take i) ++ (bn pre n).toList := by
 unfold basesOf; rw [List.take_add_one, h, List.filterMap_append]
 cases hb : bn pre n <;> simp [hb]
theorem trimP_le (n p : List UInt8) : (Lib.trimPrefix n p).length ≤ n.length := by unfold Lib.trimPrefix; split <;> simp
theorem trimQ_le (n p : List UInt8) : (Lib.trimSuffix n p).length ≤ n.length := by unfold Lib.trimSuffix; split <;> simp [List.length_take]
end Go.Proofs.YtoglbebcdjdkiaaGreatDoor
namespace Go.Proofs.YtoglbebcdjdkiaaGreatDoor
open Go Go.Sp
set_option linter.unusedVariables false
namespace log1
theorem na24 : NotAgg Tryz.prog 24 := ⟨_, Tryz.underlying24, trivial⟩
theorem ts9 : TS Tryz.prog 9 1 := .of (by kernel_rfl)
theorem na9 : NotAgg Tryz.prog 9 := ⟨_, Tryz.underlying9, trivial⟩
theorem ti3 : TI Tryz.prog 3 1 8 (.int .i64 0) := .of (by kernel_rfl)
end log1
open log1
theorem bf_T {pre x : Nm} (h : (!Lib.hasPrefix x (pre ++ [45])) = true) : true = badN pre x := by unfold badN; rw [h]; rfl
theorem bf_FT {pre x : Nm} (h : (!Lib.hasPrefix x (pre ++ [45])) = false) (h2 : (!Lib.hasSuffix (mid1 pre x) dotlog) = true) : true = badN pre x := by unfold badN; rw [h, h2]; rfl
theorem bf_FFT {pre x : Nm} (h : (!Lib.hasPrefix x (pre ++ [45])) = false) (h2 : (!Lib.hasSuffix (mid1 pre x) dotlog) = false) (h3 : (!decide ((mid2 pre x).length = 10)) = true) : true = badN pre x := by unfold badN; rw [h, h2, h3]; rfl
theorem bf_FFF {pre x : Nm} (h : (!Lib.hasPrefix x (pre ++ [45])) = false) (h2 : (!Lib.hasSuffix (mid1 pre x) dotlog) = false) (h3 : (!decide ((mid2 pre x).length = 10)) = false) : (!decide (Lib.trimS (mid2 pre x) dig10 = [])) = badN pre x := by unfold badN; rw [h, h2, h3]; rfl
theorem eq10 (l : List UInt8) : decide ((l.length : Int) = 10) = decide (l.length = 10) := decide_eq_decide.2 (by omega)
set_option maxHeartbeats 1000000 in
set_option maxRecDepth 20000 in
theorem bases_ok (lb db mb : Nat) (d : Dk) (p : Option Addr) (pre : Nm) (most start high : Int) (la : Option Addr) (n lc : Nat) (hk : ∀ p ∈ d.fs, p.1.length ≤ 64) (hn : d.fs.length ≤ 1000000) (hp : pre.length ≤ 40) : Cn Tryz.prog 66 [.pointer (some ⟨lb, 0, none⟩)] (CellsAt lb 0 (lcells p db pre most start high la n lc)) [blk db (d.cells mb) 74, mp nmv Fl.val mb d.fs] fun v G => ∃ ra rc, v = .slice ra (basesOf pre (sorted (d.fs.map (·.1)))).length rc ∧ G = [blk db (d.cells mb) 74, mp nmv Fl.val mb d.fs, arr 3 1 ra rc ((basesOf pre (sorted (d.fs.map (·.1)))).flatMap icN)] := by
 refine .enter Tryz.func66 rfl (by kernel_rfl) rfl fun R k => ?_
 have hs64 : ∀ x ∈ (sorted (d.fs.map (·.1))), x.length ≤ 64 := fun x hx => by
  obtain ⟨p, hp1, rfl⟩ := List.mem_map.1 ((List.mergeSort_perm _ _).mem_iff.1 hx)
  exact hk p hp1
 refine .goO fds 14 ?_
 refine .rd (.load na24 rfl (Knows.one (i := 1) (Knows.pick (.tail (.tail .head)) (k.mono fun _ h => h)) rfl)) ?_
 refine .fn rfl rfl (.cons .head (.cons .head .nil)) (fun _ _ _ => trivial) (Names_ok db mb d hk hn) (fun v G1 hq => ?_)
 obtain ⟨sa, sc, rfl, rfl⟩ := hq
 simp only [List.cons_append, List.nil_append]
 refine .rd (.lenL rfl rfl Tryz.underlying101 rfl) ?_
 refine .goR fds 2 ?_
 have hsl : (sorted (d.fs.map (·.1))).length = d.fs.length := by unfold sorted; rw [List.length_mergeSort, List.length_map]
 refine .perm (.cons (.tail (.tail .head)) (.cons .head (.cons .head (.cons .head .nil)))) ?_
 refine .cast (X' := know (RowAt sa ((sorted (d.fs.map (·.1))).flatMap nmc))) (by rw [map_nmc]) ?_
 refine .nilArr 3 1 none ?_
 refine .block ?_
 refine .loop (σ := Nat × Option Addr × Nat) (fun ⟨i, ra, rc⟩ => i ≤ d.fs.length) (fun ⟨i, ra, rc⟩ => d.fs.length - i) (fun ⟨i, ra, rc⟩ => [(0, .pointer (some ⟨lb, 0, none⟩)), (15, .slice sa d.fs.length sc), (16, .int .i64 (d.fs.length : Nat)), (3, .slice ra (basesOf pre ((sorted (d.fs.map (·.1))).take i)).length rc), (17, .int .i64 (i : Nat))]) (fun ⟨i, ra, rc⟩ => [arr 3 1 ra rc ((basesOf pre ((sorted (d.fs.map (·.1))).take i)).flatMap icN), know (RowAt sa ((sorted (d.fs.map (·.1))).flatMap nmc)), blk db (d.cells mb) 74, mp nmv Fl.val mb d.fs, R]) (0, none, 0) (Nat.zero_le _) (.cons rfl (.cons rfl (.cons rfl (.cons rfl (.cons rfl .nil))))) (.cons .head (.cons .head (.cons .head (.cons .head (.cons .head .nil))))) (fun s' hI ih => ?_)
 obtain ⟨i, ra, rc⟩ := s'
 dsimp only at hI ih ⊢
 refine .go fds 5 ?_
 refine .condP rfl (fun c3 => ?_) (fun c3 => ?_)
 ·
  refine .go fds 4 ?_
  obtain ⟨x, hx⟩ : ∃ x, (sorted (d.fs.map (·.1)))[i]? = some x := ⟨_, List.getElem?_eq_getElem (by omega)⟩
  have hxl := hs64 x (List.mem_of_getElem? hx)
  have hm1 : (mid1 pre x).length ≤ 64 := Nat.le_trans (trimP_le _ _) hxl
  have hbt := basesOf_take (pre := pre) hx
  have hbl : (basesOf pre ((sorted (d.fs.map (·.1))).take i)).length ≤ i := by unfold basesOf; refine Nat.le_trans (List.length_filterMap_le _ _) ?_; rw [List.length_take]; omega
  refine .tell (φ := ∃ b o, sa = some ⟨b, o, none⟩) ((Knows.know (.tail .head)).mono fun _ h => RowAt.addr h (by rw [flat_length nmc_len]; omega)) (fun hh => ?_)
  obtain ⟨b9, o9, h9⟩ := hh
  refine .region ?_
  refine .rd (.indexAddr (b := b9) (o := o9) Tryz.underlying101 ts9 (by show some (Value.slice (sa) _ _) = _; rw [h9]) rfl (by omega) (by omega)) ?_
  refine .rd (.load na9 rfl (Knows.one (i := 0) (Knows.elem (f := nmc) nmc_len (by decide) ((Knows.know (.tail .head)).mono fun _ h => h9 ▸ h) hx) rfl)) ?_
  refine .alter (t := 20) (v' := .string (str x)) rfl (rfl) ?_
  refine .goO fds 8 ?_
  refine .rd (.load na9 rfl (Knows.one (i := 2) (Knows.pick (.tail (.tail (.tail (.tail .head)))) (k.mono fun _ h => h)) rfl)) ?_
  refine .rd (.catT (l := pre) (m := [45]) rfl rfl (by (repeat rw [List.length_append]); simp only [List.length_cons, List.length_nil]; omega)) ?_
  refine .alter (t := 27) (v' := .string (str (pre ++ [45]))) rfl (rfl) ?_
  refine .fn rfl rfl .nil (fun _ _ _ => trivial) (cutp_ok x (pre ++ [45])) (fun v G1 hq => ?_)
  obtain ⟨rfl, rfl⟩ := hq
  simp only [List.nil_append]
  refine .goO fds 9 ?_
  refine .fn rfl rfl .nil (fun _ _ _ => trivial) (cuts_ok (mid1 pre x) dotlog (by omega)) (fun v G1 hq => ?_)
  obtain ⟨rfl, rfl⟩ := hq
  simp only [List.nil_append]
  refine .goO fds 9 ?_
  refine RunO.join 16 51 (badN pre x) ?_ ?_
  ·
   refine .go fds 3 ?_
   refine .split (t := 38) rfl (fun g7_2 => ?_) (fun g7_2 => ?_)
   ·
    refine .go fds 13 ?_
    refine .nil ⟨rfl, ?_, by repeat (first | exact Le.refl _ | refine Le.skip rfl ?_)⟩
    exact congrArg (fun x => some (Value.bool x)) (bf_T g7_2)
   ·
    refine .go fds 4 ?_
    refine .split (t := 42) rfl (fun g7_6 => ?_) (fun g7_6 => ?_)
    ·
     refine .go fds 9 ?_
     refine .nil ⟨rfl, ?_, by repeat (first | exact Le.refl _ | refine Le.skip rfl ?_)⟩
     exact congrArg (fun x => some (Value.bool x)) (bf_FT g7_2 g7_6)
    ·
     refine .go fds 1 ?_
     refine .on (t := 42) rfl rfl ?_
     refine .rd (.lenT rfl rfl Tryz.underlying9 rfl) ?_
     refine .go fds 1 ?_
     refine .alter (t := 45) (v' := .bool (!decide ((mid2 pre x).length = 10))) rfl (by rw [← eq10]; rfl) ?_
     refine .go fds 2 ?_
     refine .split (t := 47) rfl (fun g7_11 => ?_) (fun g7_11 => ?_)
     ·
      refine .go fds 4 ?_
      refine .nil ⟨rfl, ?_, by repeat (first | exact Le.refl _ | refine Le.skip rfl ?_)⟩
      exact congrArg (fun x => some (Value.bool x)) (bf_FFT g7_2 g7_6 g7_11)
     ·
      refine .go fds 1 ?_
      refine .on (t := 47) rfl rfl ?_
      refine .fn rfl rfl .nil (fun _ _ _ => trivial) (trim_ok (mid2 pre x) dig10 (by have := trimQ_le (mid1 pre x) dotlog; unfold mid2; omega) (by decide) (by decide)) (fun v G1 hq => ?_)
      obtain ⟨rfl, rfl⟩ := hq
      simp only [List.nil_append]
      refine .on (t := 47) rfl rfl ?_
      refine .rd (.neT (m := []) rfl rfl) ?_
      refine .rd (.pickF rfl rfl) ?_
      refine .nil ⟨rfl, ?_, by repeat (first | exact Le.refl _ | refine Le.skip rfl ?_)⟩
      exact congrArg (fun x => some (Value.bool x)) (bf_FFF g7_2 g7_6 g7_11)
  refine .nil ?_
  refine .cond rfl (fun c7 => ?_) (fun c7 => ?_)
  ·
   have hbn : basesOf pre ((sorted (d.fs.map (·.1))).take (i + 1)) = basesOf pre ((sorted (d.fs.map (·.1))).take i) := by rw [hbt]; unfold bn; rw [if_pos c7]; simp
   refine .cast (X' := arr 3 1 ra rc ((basesOf pre ((sorted (d.fs.map (·.1))).take (i + 1))).flatMap icN)) (by rw [hbn]) ?_
   refine .goO fds 2 ?_
   refine .rd (.add rfl rfl (by omega) (by omega)) ?_
   refine .goR fds 2 ?_
   exact (ih (i + 1, ra, rc) (by show i + 1 ≤ _; omega) (by show d.fs.length - (i + 1) < d.fs.length - i; omega)).to (.cons rfl (.cons rfl (.cons rfl (.cons (by show _ = some (Value.slice _ (List.length _) _); rw [hbn]; (try rw [List.length_append]); rfl) (.cons rfl .nil))))) (.cons .head (.cons .head (.cons .head (.cons .head (.cons .head .nil)))))
  ·
   obtain ⟨hb1, hb2, hb3, hb4⟩ := bad_no c7
   refine .goO fds 4 ?_
   refine .fn rfl rfl .nil (fun _ _ _ => trivial) (atoi_ok (mid2 pre x) (fun e => by rw [e] at hb3; cases hb3) hb4 (by omega)) (fun v G1 hq => ?_)
   obtain ⟨rfl, rfl⟩ := hq
   simp only [List.nil_append]
   refine .goO fds 9 ?_
   refine .rd (.eqNilI Tryz.underlying166 rfl) ?_
   refine .goR fds 5 ?_
   refine .condP rfl (fun c9 => ?_) (fun c9 => ?_)
   ·
    refine .goO fds 3 ?_
    refine .ef (.buildOne (cs := [.int .i64 ((val 0 (mid2 pre x) : Nat) : Int)]) Tryz.underlying31 ti3 (by decide) rfl rfl rfl (ones.of rfl)) ?_
    rintro _ _ ⟨bs, rfl, rfl⟩
    refine .ef (.append rfl rfl Tryz.underlying31 ti3 rfl (ones.of rfl) (by decide) (by decide) rfl rfl (.tail .head) (n := (basesOf pre ((sorted (d.fs.map (·.1))).take i)).length) (m := 1) (flat_length icN_len _) (.srcBlk .head Tryz.underlying31 rfl (by decide)) (by omega)) ?_
    rintro _ _ ⟨qa, qc, rfl, qn, rfl⟩
    refine .goR fds 2 ?_
    have hbn : basesOf pre ((sorted (d.fs.map (·.1))).take (i + 1)) = basesOf pre ((sorted (d.fs.map (·.1))).take i) ++ [val 0 (mid2 pre x)] := by rw [hbt]; unfold bn; rw [if_neg (by rw [c7]; decide), if_pos (by omega)]; rfl
    refine .cast (X' := arr 3 1 qa qc ((basesOf pre ((sorted (d.fs.map (·.1))).take (i + 1))).flatMap icN)) (by rw [hbn, idx_snoc]) ?_
    refine .goO fds 2 ?_
    refine .rd (.add rfl rfl (by omega) (by omega)) ?_
    refine .goR fds 2 ?_
    exact (ih (i + 1, qa, qc) (by show i + 1 ≤ _; omega) (by show d.fs.length - (i + 1) < d.fs.length - i; omega)).to (.cons rfl (.cons rfl (.cons rfl (.cons (by show _ = some (Value.slice _ (List.length _) _); rw [hbn]; (try rw [List.length_append]); rfl) (.cons rfl .nil))))) (.cons .head (.cons (.tail .head) (.cons (.tail .head) (.cons (.tail .head) (.cons (.tail .head) .nil)))))
   ·
    have hbn : basesOf pre ((sorted (d.fs.map (·.1))).take (i + 1)) = basesOf pre ((sorted (d.fs.map (·.1))).take i) := by rw [hbt]; unfold bn; rw [if_neg (by rw [c7]; decide), if_neg (by omega)]; simp
    refine .cast (X' := arr 3 1 ra rc ((basesOf pre ((sorted (d.fs.map (·.1))).take (i + 1))).flatMap icN)) (by rw [hbn]) ?_
    refine .goO fds 3 ?_
    refine .rd (.add rfl rfl (by omega) (by omega)) ?_
    refine .goR fds 2 ?_
    exact (ih (i + 1, ra, rc) (by show i + 1 ≤ _; omega) (by show d.fs.length - (i + 1) < d.fs.length - i; omega)).to (.cons rfl (.cons rfl (.cons rfl (.cons (by show _ = some (Value.slice _ (List.length _) _); rw [hbn]; (try rw [List.length_append]); rfl) (.cons rfl .nil))))) (.cons .head (.cons .head (.cons .head (.cons .head (.cons .head .nil)))))
 ·
  refine .go fds 6 ?_
  have hall : (sorted (d.fs.map (·.1))).take i = (sorted (d.fs.map (·.1))) := List.take_of_length_le (by omega)
  have hba : basesOf pre ((sorted (d.fs.map (·.1))).take i) = basesOf pre (sorted (d.fs.map (·.1))) := by rw [hall]
  refine .retP Tryz.func66 (.cons (.tmp rfl) .nil) (.cons (.tail (.tail .head)) (.cons (.tail (.tail .head)) (.cons .head (.cons (.tail .head) .nil)))) ?_
  exact ⟨[_, _, _], ⟨ra, rc, by rw [← hba]; rfl, by rw [← hba]⟩, rfl⟩
end Go.Proofs.YtoglbebcdjdkiaaGreatDoor
namespace Go.Proofs.YtoglbebcdjdkiaaGreatDoor
open Go Go.Sp
set_option linter.unusedVariables false
namespace log3
theorem ts3 : TS Tryz.prog 3 1 := .of (by kernel_rfl)
theorem na3 : NotAgg Tryz.prog 3 := ⟨_, Tryz.underlying3, trivial⟩
theorem na24 : NotAgg Tryz.prog 24 := ⟨_, Tryz.underlying24, trivial⟩
theorem ts40 : TS Tryz.prog 55 1 := .of (by kernel_rfl)
end log3
open log3
def delAll (pre : Nm) (l : List Nat) (d : Dk) : Dk := l.foldl (fun d b => d.del (nameOf pre b)) d
theorem delAll_snoc (pre : Nm) (l : List Nat) (b : Nat) (d : Dk) : delAll pre (l ++ [b]) d = (delAll pre l d).del (nameOf pre b) := by unfold delAll; rw [List.foldl_append]; rfl
theorem delAll_ok {pre : Nm} : ∀ {l : List Nat} {d : Dk}, d.ok → (delAll pre l d).ok
 | [], _, h => h
 | b :: l, d, h => delAll_ok (l := l) (d := d.del (nameOf pre b)) (Dk.ok_del h _)
theorem delAll_get {pre n : Nm} : ∀ {l : List Nat} {d : Dk}, (∀ b ∈ l, n ≠ nameOf pre b) → (delAll pre l d).get n = d.get n
 | [], _, _ => rfl
 | b :: l, d, h => (delAll_get (l := l) (d := d.del (nameOf pre b)) fun x hx => h x (.tail _ hx)).trans (Dk.file_del_ne d (h b (.head _))).2
theorem del_some {pre : Nm} {l : List Nat} {d : Dk} (hnd : l.Nodup) (hall : ∀ b ∈ l, (d.get (nameOf pre b)).isSome = true) {i b : Nat} (hb : l[i]? = some b) : ((delAll pre (l.take i) d).get (nameOf pre b)).isSome = true := by
 rw [delAll_get]
 ·
  exact hall b (List.mem_of_getElem? hb)
 ·
  intro x hx e
  have hxb := nameOf_inj e
  subst hxb
  obtain ⟨j, hj⟩ := List.getElem?_of_mem hx
  have hji : j < i := by have := (List.getElem?_eq_some_iff.1 hj).1; rw [List.length_take] at this; omega
  rw [List.getElem?_take, if_pos hji] at hj
  obtain ⟨h1, h2⟩ := List.getElem?_eq_some_iff.1 hj
  obtain ⟨h3, h4⟩ := List.getElem?_eq_some_iff.1 hb
  exact (List.pairwise_iff_getElem.1 hnd j i h1 h3 hji) (h2.trans h4.symm)
set_option maxHeartbeats 1000000 in
set_option maxRecDepth 20000 in
theorem anew_ok (lb db mb : Nat) (d : Dk) (p : Option Addr) (pre : Nm) (most start high : Int) (la : Option Addr) (n lc : Nat) (base : Nat) (bsl : List Nat) (hd : d.ok) (hp : Pre pre) (hk : ∀ p ∈ d.fs, p.1.length ≤ 64) (hn : d.fs.length ≤ 1000000) (hb : base ≤ 1000000000) (hbs : basesOf pre (sorted (d.fs.map (·.1))) = bsl) (hnd : bsl.Nodup) (h9 : ∀ b ∈ bsl, b ≤ 1000000000) (hall : ∀ b ∈ bsl, (d.get (nameOf pre b)).isSome = true) (hr2 : (delAll pre bsl d).fs.length < 256) (hf2 : ((delAll pre bsl d).file (nameOf pre base)).b = []) : Cn Tryz.prog 70 [.pointer (some ⟨lb, 0, none⟩), .int .i64 (base : Int)] LV [blk lb (lcells p db pre most start high la n lc) 57, blk db (d.cells mb) 74, mp nmv Fl.val mb d.fs] fun v G => ∃ sb sm aa ac ia ic qa qc, v = .int .i64 0 ∧ Ix sm 0 ∧ G = [blk lb (lcells (some ⟨sb, 0, none⟩) db pre most start high qa ([] ++ [sb]).length qc) 57, arr 54 1 qa qc (([] ++ [sb]).flatMap spb), blk db (((delAll pre bsl d).put (nameOf pre base) ⟨flat [], (flat []).length⟩).cells mb) 74, mp nmv Fl.val mb ((delAll pre bsl d).put (nameOf pre base) ⟨flat [], (flat []).length⟩).fs, blk sb ((Sx.mk sb (nameOf pre base) (base : Int) [] sm aa ac ia ic).cells db) 110, arr 112 4 aa ac (Sx.mk sb (nameOf pre base) (base : Int) [] sm aa ac ia ic).rows, arr 3 1 ia ic (sm.flatMap icN)] := by
 refine .enter Tryz.func70 rfl (by kernel_rfl) rfl fun R k => ?_
 have hlen : bsl.length ≤ 1000000 := by rw [← hbs]; unfold basesOf; refine Nat.le_trans (List.length_filterMap_le _ _) ?_; unfold sorted; rw [List.length_mergeSort, List.length_map]; exact hn
 refine .goO fds 8 ?_
 refine .fn rfl rfl (.cons (.tail .head) (.cons (.tail .head) .nil)) ((Knows.blk .head)) (bases_ok lb db mb d p pre most start high la n lc hk hn hp.len) (fun v G1 hq => ?_)
 obtain ⟨ra, rc, rfl, rfl⟩ := hq
 simp only [List.cons_append, List.nil_append]
 refine .rd (.lenL rfl rfl Tryz.underlying31 rfl) ?_
 refine .goR fds 2 ?_
 refine .perm (.cons (.tail (.tail .head)) (.cons .head (.cons .head (.cons .head (.cons .head .nil))))) ?_
 refine .cast (X' := arr 3 1 ra rc (bsl.flatMap icN)) (by rw [hbs]) ?_
 refine .alter (t := 8) (v' := .slice ra bsl.length rc) rfl (by rw [hbs]) ?_
 refine .alter (t := 9) (v' := .int .i64 (bsl.length : Nat)) rfl (by rw [hbs]) ?_
 refine .block ?_
 refine .loop (σ := Nat) (fun i => i ≤ bsl.length) (fun i => bsl.length - i) (fun i => [(0, .pointer (some ⟨lb, 0, none⟩)), (1, .int .i64 (base : Nat)), (8, .slice ra bsl.length rc), (9, .int .i64 (bsl.length : Nat)), (10, .int .i64 (i : Nat))]) (fun i => [blk lb (lcells p db pre most start high la n lc) 57, arr 3 1 ra rc (bsl.flatMap icN), blk db ((delAll pre (bsl.take i) d).cells mb) 74, mp nmv Fl.val mb (delAll pre (bsl.take i) d).fs, R]) 0 (Nat.zero_le _) (.cons rfl (.cons rfl (.cons rfl (.cons rfl (.cons rfl .nil))))) (.cons (.tail (.tail (.tail .head))) (.cons .head (.cons .head (.cons .head (.cons .head .nil))))) (fun i hI ih => ?_)
 refine .go fds 5 ?_
 refine .condP rfl (fun c2 => ?_) (fun c2 => ?_)
 ·
  refine .go fds 4 ?_
  obtain ⟨x, hx⟩ : ∃ x, bsl[i]? = some x := ⟨_, List.getElem?_eq_getElem (by omega)⟩
  have hx9 := h9 x (List.mem_of_getElem? hx)
  have hdi : (delAll pre (bsl.take (i + 1)) d) = (delAll pre (bsl.take i) d).del (nameOf pre x) := by rw [← take_snoc hx, delAll_snoc]
  refine .tell (φ := ∃ b o, ra = some ⟨b, o, none⟩) ((Knows.arr (.tail .head)).mono fun _ h => RowAt.addr h (by rw [flat_length icN_len]; omega)) (fun hh => ?_)
  obtain ⟨b9, o9, hb9⟩ := hh
  refine .region ?_
  refine .rd (.indexAddr (b := b9) (o := o9) Tryz.underlying31 ts3 (by show some (Value.slice (ra) _ _) = _; rw [hb9]) rfl (by omega) (by omega)) ?_
  refine .rd (.load na3 rfl (Knows.one (i := 0) (Knows.elem (f := icN) icN_len (by decide) ((Knows.arr (.tail .head)).mono fun _ h => hb9 ▸ h) hx) rfl)) ?_
  refine .goR fds 2 ?_
  refine .draws [3] [blk lb (lcells p db pre most start high la n lc) 57] (by kernel_rfl) ?_
  refine .goD fds [0] ?_
  refine .goD fds [1] ?_
  refine .goD fds [2] ?_
  refine .rd 3 rfl rfl (by kernel_rfl) (by kernel_rfl) (by kernel_rfl) (.ld na24 rfl .head rfl) (.cons .head .nil) ?_
  refine .goD fds [4] ?_
  refine .goD fds [5] ?_
  refine .ef 6 (by kernel_rfl) rfl (.fn rfl rfl .nil ((Knows.blk .head).and (Knows.pick (.tail (.tail (.tail (.tail .head)))) k)) (name_ok lb db p pre most start high la n lc x (by omega) hp.len)) ?_
  rintro v _ ⟨G1, hq, rfl⟩
  obtain ⟨rfl, rfl⟩ := hq
  simp only [List.nil_append]
  refine ⟨.inr ⟨_, (.cons .head .nil)⟩, ?_⟩
  refine .ef 7 (by kernel_rfl) rfl (.fn rfl rfl (.cons (.tail (.tail .head)) (.cons (.tail (.tail .head)) .nil)) (fun _ _ _ => trivial) (Remove_ok db mb (delAll pre (bsl.take i) d) (nameOf pre x) (delAll_ok hd) (del_some hnd hall hx))) ?_
  rintro v _ ⟨G1, hq, rfl⟩
  obtain ⟨rfl, rfl⟩ := hq
  simp only [List.cons_append, List.nil_append]
  refine ⟨.inl (by kernel_rfl), ?_⟩
  refine .done (by kernel_rfl) ?_
  refine .cast (X' := blk db ((delAll pre (bsl.take (i + 1)) d).cells mb) 74) (by rw [hdi]) ?_
  refine .perm (.cons (.tail .head) (.cons .head (.cons .head (.cons .head (.cons .head .nil))))) ?_
  refine .cast (X' := mp nmv Fl.val mb (delAll pre (bsl.take (i + 1)) d).fs) (by rw [hdi]) ?_
  refine .goO fds 2 ?_
  refine .rd (.add rfl rfl (by omega) (by omega)) ?_
  refine .goR fds 2 ?_
  exact (ih (i + 1) (by show i + 1 ≤ _; omega) (by show bsl.length - (i + 1) < bsl.length - i; omega)).to (.cons rfl (.cons rfl (.cons rfl (.cons rfl (.cons rfl .nil))))) (.cons (.tail (.tail .head)) (.cons (.tail (.tail .head)) (.cons (.tail .head) (.cons .head (.cons .head .nil)))))
 ·
  refine .go fds 2 ?_
  have hall2 : bsl.take i = bsl := List.take_of_length_le (by omega)
  refine .perm (.cons (.tail (.tail .head)) (.cons .head (.cons .head (.cons .head (.cons .head .nil))))) ?_
  refine .cast (X' := blk db ((delAll pre bsl d).cells mb) 74) (by rw [hall2]) ?_
  refine .perm (.cons (.tail (.tail (.tail .head))) (.cons .head (.cons .head (.cons .head (.cons .head .nil))))) ?_
  refine .cast (X' := mp nmv Fl.val mb (delAll pre bsl d).fs) (by rw [hall2]) ?_
  refine .goO fds 4 ?_
  refine .ef0 (.store ts40 rfl rfl (.tail (.tail .head)) rfl (Nat.le_of_ble_eq_true rfl)) ?_
  rintro _ _ rfl
  refine .goR fds 2 ?_
  refine .cast (X' := blk lb (lcells p db pre most start high none ([] : List Nat).length 0) 57) (rfl) ?_
  refine .nilArr 54 1 none ?_
  refine .cast (X' := arr 54 1 none 0 (([] : List Nat).flatMap spb)) rfl ?_
  refine .goO fds 3 ?_
  refine .fn rfl rfl (.cons (.tail .head) (.cons .head (.cons (.tail .head) (.cons .head .nil)))) (Knows.pick (.tail .head) k) (ladd_ok lb db mb (delAll pre bsl d) p pre most start high none 0 [] base [] [] (delAll_ok hd) hp hb (.inr hr2) hf2 (.inl rfl) trivial (fun _ h => by cases h) (by decide) (by decide)) (fun v G1 hq => ?_)
  obtain ⟨sb, sm, aa, ac, ia, ic, qa, qc, rfl, hix, hca, rfl⟩ := hq
  simp only [List.cons_append, List.nil_append]
  refine .goR fds 2 ?_
  refine .retP Tryz.func70 (.cons (.tmp rfl) .nil) (.cons .head (.cons .head (.cons .head (.cons .head (.cons .head (.cons .head (.cons .head (.cons (.tail .head) .nil)))))))) ?_
  exact ⟨[_, _, _, _, _, _, _], ⟨sb, sm, aa, ac, ia, ic, qa, qc, rfl, hix, rfl⟩, rfl⟩
end Go.Proofs.YtoglbebcdjdkiaaGreatDoor
/- Chapter 6: a new log, in plain Lean. -/
namespace Go.Proofs.YtoglbebcdjdkiaaGreatDoor
open Go Go.Sp
def newL (lb : Nat) (pre : Nm) (most : Int) (sb : Nat) (sm : List Nat) (aa : Option Addr) (ac : Nat) (ia : Option Addr) (ic : Nat) (qa : Option Addr) (qc : Nat) : Lx := ⟨lb, pre, most, 0, 0, [], ⟨sb, nameOf pre 0, 0, [], sm, aa, ac, ia, ic⟩, qa, qc⟩
theorem newL_ok {lb : Nat} {pre : Nm} {most : Int} {sb : Nat} {sm : List Nat} {aa : Option Addr} {ac : Nat} {ia : Option Addr} {ic : Nat} {qa : Option Addr} {qc : Nat} {d : Dk} (hp : Pre pre) (h1 : 256 ≤ most) (h2 : most ≤ 1000000) (hix : Ix sm 0) : (newL lb pre most sb sm aa ac ia ic qa qc).ok (d.put (nameOf pre 0) ⟨[], 0⟩) := by
 refine ⟨hp, fun s hs => ?_, ⟨rfl, trivial⟩, fun _ h => (by cases h), ⟨Int.le_refl _, Int.le_refl _, Int.le_refl _⟩, ⟨Int.le_refl _, Int.le_refl _⟩, ⟨h1, h2⟩, by show 1 ≤ 100000; omega⟩
 rw [List.mem_singleton.1 hs]
 exact ⟨⟨Int.le_refl _, by show (0 : Int) ≤ 1000000000; omega, trivial, fun _ h => (by cases h), Nat.zero_le _, hix, Nat.zero_le _⟩, rfl, Dk.some_put _ _ _, by show ((d.put (nameOf pre 0) _).file (nameOf pre 0)).b = flat []; rw [Dk.file_put]; rfl⟩
end Go.Proofs.YtoglbebcdjdkiaaGreatDoor
namespace Go.Proofs.YtoglbebcdjdkiaaGreatDoor
open Go Go.Sp
set_option linter.unusedVariables false
namespace log4
theorem na24 : NotAgg Tryz.prog 24 := ⟨_, Tryz.underlying24, trivial⟩
theorem na9 : NotAgg Tryz.prog 9 := ⟨_, Tryz.underlying9, trivial⟩
theorem bld42_1_2_3 (x0 : Option Addr) (x1 : ByteArray) (x2 : Int) (w : World) : (Instr.build 57 (([1, 2, 3] : List Nat).zip [.pointer x0, .string x1, .int .i64 x2]).toArray).run Tryz.prog w = .ok (.agg #[.pointer none, .pointer x0, .string x1, .int .i64 x2, .int .i64 0, .int .i64 0, .slice none 0 0]) w := by kernel_rfl
theorem na40 : NotAgg Tryz.prog 55 := ⟨_, Tryz.underlying55, trivial⟩
theorem na3 : NotAgg Tryz.prog 3 := ⟨_, Tryz.underlying3, trivial⟩
theorem na39 : NotAgg Tryz.prog 54 := ⟨_, Tryz.underlying54, trivial⟩
theorem ts3 : TS Tryz.prog 3 1 := .of (by kernel_rfl)
end log4
open log4
theorem new_ok {sb : Nat} {nm : Nm} {base : Int} {sm : List Nat} {aa : Option Addr} {ac : Nat} {ia : Option Addr} {ic : Nat} (h0 : 0 ≤ base) (h1 : base ≤ 1000000000) (hix : Ix sm 0) : (Sx.mk sb nm base [] sm aa ac ia ic).ok := ⟨h0, h1, trivial, fun _ h => (by cases h), Nat.zero_le _, hix, Nat.zero_le _⟩
set_option maxHeartbeats 1000000 in
set_option maxRecDepth 20000 in
theorem kept0_ok (lb db mb : Nat) (d : Dk) (p : Option Addr) (pre : Nm) (most start high : Int) (la : Option Addr) (n lc : Nat) (hp : Pre pre) (hm : (d.get (metaOf pre)).isSome = false) : Cn Tryz.prog 65 [.pointer (some ⟨lb, 0, none⟩)] (CellsAt lb 0 (lcells p db pre most start high la n lc)) [blk db (d.cells mb) 74, mp nmv Fl.val mb d.fs] fun v G => v = .bool true ∧ G = [blk db (d.cells mb) 74, mp nmv Fl.val mb d.fs] := by
 refine .enter Tryz.func65 rfl (by kernel_rfl) rfl fun R k => ?_
 have h3 := hp.len
 refine .go fds 5 ?_
 refine .draws [3, 7] [R] (by kernel_rfl) ?_
 refine .goD fds [0] ?_
 refine .goD fds [1] ?_
 refine .goD fds [2] ?_
 refine .rd 3 rfl rfl (by kernel_rfl) (by kernel_rfl) (by kernel_rfl) (.load na24 rfl (Knows.one (i := 1) (Knows.pick .head (k.mono fun _ h => h)) rfl)) (.cons (.tail (.tail .head)) .nil) ?_
 refine .goD fds [4] ?_
 refine .goD fds [5] ?_
 refine .goD fds [6] ?_
 refine .rd 7 rfl rfl (by kernel_rfl) (by kernel_rfl) (by kernel_rfl) (.load na9 rfl (Knows.one (i := 2) (Knows.pick .head (k.mono fun _ h => h)) rfl)) (.cons (.tail (.tail .head)) .nil) ?_
 refine .rp 8 rfl (by kernel_rfl) (by kernel_rfl) (by kernel_rfl) (Reads.pure (.catT (l := pre) (m := [46, 109, 101, 116, 97]) rfl rfl (by (repeat rw [List.length_append]); simp only [List.length_cons, List.length_nil]; omega))) ?_
 refine .alter (t := 20) (v' := .string (str (metaOf pre))) rfl (rfl) ?_
 refine .ef 9 (by kernel_rfl) rfl (.fn rfl rfl (.cons .head (.cons .head .nil)) (fun _ _ _ => trivial) (Read_ok db mb d (metaOf pre))) ?_
 rintro v _ ⟨G1, hq, rfl⟩
 obtain ⟨rfl, rfl⟩ := hq
 simp only [List.cons_append, List.nil_append]
 refine ⟨.inl (by kernel_rfl), ?_⟩
 refine .alter (t := 21) (v' := .tuple #[.string (str (d.file (metaOf pre)).b), .int .i64 8]) rfl (by rw [if_neg (by rw [hm]; decide)]) ?_
 refine .goD fds [10] ?_
 refine .goD fds [11] ?_
 refine .goD fds [12] ?_
 refine .goD fds [13] ?_
 refine .goD fds [14] ?_
 refine .done (by kernel_rfl) ?_
 refine .go fds 11 ?_
 refine .retP Tryz.func65 (.cons (.tmp rfl) .nil) (.cons .head (.cons .head (.cons .head .nil))) ?_
 exact ⟨[_, _], ⟨rfl, rfl⟩, rfl⟩
set_option maxHeartbeats 1000000 in
set_option maxRecDepth 20000 in
theorem Open0_ok (db mb : Nat) (d : Dk) (pre : Nm) (most : Int) (hd : d.ok) (hp : Pre pre) (hk : ∀ p ∈ d.fs, p.1.length ≤ 64) (hn : d.fs.length ≤ 1000000) (h1 : 256 ≤ most) (h2 : most ≤ 1000000) (hm : (d.get (metaOf pre)).isSome = false) (hbs : basesOf pre (sorted (d.fs.map (·.1))) = []) (hr : d.fs.length < 256) (hf0 : (d.file (nameOf pre 0)).b = []) : Cn Tryz.prog 32 [.pointer (some ⟨db, 0, none⟩), nmv pre, .int .i64 most] LV [blk db (d.cells mb) 74, mp nmv Fl.val mb d.fs] fun v G => ∃ lx sb sm aa ac ia ic qa qc, v = .tuple #[.pointer (some ⟨lx, 0, none⟩), .int .i64 0] ∧ Ix sm 0 ∧ G = [LG db (newL lx pre most sb sm aa ac ia ic qa qc), blk db ((d.put (nameOf pre 0) ⟨[], 0⟩).cells mb) 74, mp nmv Fl.val mb (d.put (nameOf pre 0) ⟨[], 0⟩).fs] := by
 refine .enter Tryz.func32 rfl (by kernel_rfl) rfl fun R k => ?_
 have h3 := hp.len
 refine .goO fds 9 ?_
 refine .rd (.eqT (m := []) rfl rfl) ?_
 refine .alter (t := 14) (v' := .bool false) rfl (congrArg Value.bool (decide_eq_false hp.ne)) ?_
 refine .go fds 2 ?_
 refine .on (t := 15) rfl rfl ?_
 refine .rd (.lenT rfl rfl Tryz.underlying9 rfl) ?_
 refine .go fds 1 ?_
 refine .alter (t := 18) (v' := .bool false) rfl (congrArg Value.bool (decide_eq_false (by omega))) ?_
 refine .go fds 3 ?_
 refine .on (t := 20) rfl rfl ?_
 refine .fn rfl rfl .nil (fun _ _ _ => trivial) (trim_ok pre abc (by omega) (by decide) (by decide)) (fun v G1 hq => ?_)
 obtain ⟨rfl, rfl⟩ := hq
 simp only [List.nil_append]
 refine .on (t := 20) rfl rfl ?_
 refine .rd (.neT (m := []) rfl rfl) ?_
 refine .alter (t := 23) (v' := .bool false) rfl (congrArg Value.bool (by rw [decide_eq_true (trim_nil.2 hp.abc)]; rfl)) ?_
 refine .go fds 4 ?_
 refine .alter (t := 27) (v' := .bool false) rfl (congrArg Value.bool (decide_eq_false (by omega))) ?_
 refine .go fds 4 ?_
 refine .alter (t := 31) (v' := .bool false) rfl (congrArg Value.bool (decide_eq_false (by omega))) ?_
 refine .goO fds 9 ?_
 refine .rd (.build rfl (bld42_1_2_3 _ _ _)) ?_
 refine .ef (.box (l := lcells none db pre most 0 0 none 0 0) rfl rfl (ones.of rfl)) ?_
 rintro _ _ ⟨lx, rfl, rfl⟩
 refine .goO fds 6 ?_
 refine .fn rfl rfl (.cons (.tail .head) (.cons (.tail .head) .nil)) ((Knows.blk .head)) (kept0_ok lx db mb d none pre most 0 0 none 0 0 hp hm) (fun v G1 hq => ?_)
 obtain ⟨rfl, rfl⟩ := hq
 simp only [List.cons_append, List.nil_append]
 refine .goO fds 12 ?_
 refine .fn rfl rfl (.cons .head (.cons .head .nil)) ((Knows.blk .head)) (bases_ok lx db mb d none pre most 0 0 none 0 0 hk hn hp.len) (fun v G1 hq => ?_)
 obtain ⟨ra, rc, rfl, rfl⟩ := hq
 simp only [List.cons_append, List.nil_append]
 refine .alter (t := 42) (v' := .slice ra 0 rc) rfl (by rw [hbs]; rfl) ?_
 refine .rd (.lenL rfl rfl Tryz.underlying31 rfl) ?_
 refine .goR fds 3 ?_
 refine .loop (σ := Unit) (fun _ => True) (fun _ => 0) (fun _ => [(0, .pointer (some ⟨db, 0, none⟩)), (8, .pointer (some ⟨lx, 0, none⟩)), (43, .int .i64 (0 : Nat)), (44, .int .i64 0)]) (fun _ => [blk lx (lcells none db pre most 0 0 none 0 0) 57, blk db (d.cells mb) 74, mp nmv Fl.val mb d.fs, R]) () trivial (.cons rfl (.cons rfl (.cons rfl (.cons rfl .nil)))) (.cons (.tail (.tail (.tail .head))) (.cons .head (.cons .head (.cons (.tail .head) .nil)))) (fun s' hI ih => ?_)
 refine .go fds 5 ?_
 refine .condP rfl (fun c8 => absurd c8 (by decide)) (fun c8 => ?_)
 refine .go fds 3 ?_
 refine .draws [3, 10, 15] [blk lx (lcells none db pre most 0 0 none 0 0) 57] (by kernel_rfl) ?_
 refine .goD fds [0] ?_
 refine .goD fds [1] ?_
 refine .goD fds [2] ?_
 refine .rd 3 rfl rfl (by kernel_rfl) (by kernel_rfl) (by kernel_rfl) (.ld na40 rfl .head rfl) (.cons .head .nil) ?_
 refine .rp 4 rfl (by kernel_rfl) (by kernel_rfl) (by kernel_rfl) (Reads.pure (.lenL rfl rfl Tryz.underlying55 rfl)) ?_
 refine .goD fds [5] ?_
 refine .goD fds [6, 7, 8, 9, 10, 11, 12, 13, 14, 15, 16] ?_
 refine .goD fds [17] ?_
 refine .done (by kernel_rfl) ?_
 refine .goO fds 7 ?_
 refine .rd (.ld na3 rfl .head rfl) ?_
 refine .fn rfl rfl (.cons .head (.cons .head (.cons .head .nil))) (Knows.pick .head k) (anew_ok lx db mb d none pre most 0 0 none 0 0 0 [] hd hp hk hn (by decide) hbs .nil (fun _ h => by cases h) (fun _ h => by cases h) hr hf0) (fun v G1 hq => ?_)
 obtain ⟨sb, sm, aa, ac, ia, ic, qa, qc, rfl, hix, rfl⟩ := hq
 simp only [List.cons_append, List.nil_append]
 refine .goR fds 10 ?_
 have hsk : (Sx.mk sb (nameOf pre 0) 0 [] sm aa ac ia ic).ok := new_ok (by decide) (by decide) hix
 refine .cast (X' := blk lx (lcells (some ⟨sb, 0, none⟩) db pre most 0 0 qa 1 qc) 57) (rfl) ?_
 refine .draws [4, 8] [blk lx (lcells (some ⟨sb, 0, none⟩) db pre most 0 0 qa 1 qc) 57] (by kernel_rfl) ?_
 refine .goD fds [0] ?_
 refine .goD fds [1] ?_
 refine .goD fds [2] ?_
 refine .goD fds [3] ?_
 refine .rd 4 rfl rfl (by kernel_rfl) (by kernel_rfl) (by kernel_rfl) (.ld na3 rfl .head rfl) (.cons .head .nil) ?_
 refine .goD fds [5] ?_
 refine .goD fds [6] ?_
 refine .goD fds [7] ?_
 refine .rd 8 rfl rfl (by kernel_rfl) (by kernel_rfl) (by kernel_rfl) (.ld na39 rfl .head rfl) (.cons .head .nil) ?_
 refine .ef 9 (by kernel_rfl) rfl (.fn rfl rfl .nil ((Knows.blk (.tail (.tail (.tail (.tail .head))))).and ((Knows.arr (.tail (.tail (.tail (.tail (.tail .head)))))).and (Knows.arr (.tail (.tail (.tail (.tail (.tail (.tail .head))))))))) (Next_ok db (Sx.mk sb (nameOf pre 0) 0 [] sm aa ac ia ic) hsk)) ?_
 rintro v _ ⟨G1, hq, rfl⟩
 obtain ⟨rfl, rfl⟩ := hq
 simp only [List.nil_append]
 refine ⟨.inr ⟨_, (.cons .head .nil)⟩, ?_⟩
 refine .rp 10 rfl (by kernel_rfl) (by kernel_rfl) (by kernel_rfl) (Reads.pure (.min2 rfl rfl rfl)) ?_
 refine .alter (t := 125) (v' := .int .i64 0) rfl (rfl) ?_
 refine .goD fds [11] ?_
 refine .goD fds [12] ?_
 refine .ef0 13 (by kernel_rfl) rfl (.store ts3 rfl rfl .head rfl (Nat.le_of_ble_eq_true rfl)) ?_
 rintro _ _ rfl
 refine ⟨.inl (by kernel_rfl), ?_⟩
 refine .done (by kernel_rfl) ?_
 refine .seq ?_
 refine .cast (X' := blk lx (lcells (some ⟨sb, 0, none⟩) db pre most 0 0 qa 1 qc) 57) (rfl) ?_
 refine .go fds 5 ?_
 refine .pack (L := [blk sb ((Sx.mk sb (nameOf pre 0) 0 [] sm aa ac ia ic).cells db) 110, arr 112 4 aa ac (Sx.mk sb (nameOf pre 0) 0 [] sm aa ac ia ic).rows, arr 3 1 ia ic (sm.flatMap icN)]) (.cons (.tail (.tail (.tail (.tail .head)))) (.cons (.tail (.tail (.tail (.tail .head)))) (.cons (.tail (.tail (.tail (.tail .head)))) .nil))) ?_
 refine .close (X := bag (SG db) (newL lx pre most sb sm aa ac ia ic qa qc).segs) (.cons .head .nil) (fun h H => H) ?_
 refine .pack (L := [blk lx ((newL lx pre most sb sm aa ac ia ic qa qc).cells db) 57, arr 54 1 qa qc ((newL lx pre most sb sm aa ac ia ic qa qc).segs.flatMap sp), bag (SG db) (newL lx pre most sb sm aa ac ia ic qa qc).segs]) (.cons (.tail .head) (.cons (.tail .head) (.cons .head .nil))) ?_
 refine .retP Tryz.func32 (.cons (.tmp rfl) (.cons (.tmp rfl) .nil)) (.cons .head (.cons .head (.cons .head (.cons .head .nil)))) ?_
 exact ⟨[_, _, _], ⟨lx, sb, sm, aa, ac, ia, ic, qa, qc, rfl, hix, rfl⟩, rfl⟩
end Go.Proofs.YtoglbebcdjdkiaaGreatDoor
/- Chapter 6: the bases of a log's files are those of its segments, in plain Lean. -/
namespace Go.Proofs.YtoglbebcdjdkiaaGreatDoor
open Go Go.Sp
theorem le_total_nm (a b : Nm) : (decide (a ≤ b) || decide (b ≤ a)) = true := by
 rcases List.le_total a b with h | h <;> simp [h]
theorem sorted_up (ns : List Nm) : (sorted ns).Pairwise fun x y => x ≤ y := by
 have := List.pairwise_mergeSort (le := fun x y : Nm => decide (x ≤ y)) (fun a b c h1 h2 => decide_eq_true (List.le_trans (of_decide_eq_true h1) (of_decide_eq_true h2))) le_total_nm ns
 exact this.imp fun h => of_decide_eq_true h
theorem val_cons (x : Nat) (c : UInt8) (l : List UInt8) : val x (c :: l) = val (x * 10 + (c.toNat - 48)) l := by unfold val; rw [List.foldl_cons]
theorem val_le (a : List UInt8) : ∀ (b : List UInt8) (x y : Nat), a.length = b.length → (∀ c ∈ a, digit c) → (∀ c ∈ b, digit c) → x ≤ y → (x = y → a ≤ b) → val x a ≤ val y b := by
 induction a with
 | nil =>
  intro b x y hl _ _ h _
  cases b with
  | nil => exact h
  | cons d b => cases hl
 | cons c a ih =>
  intro b x y hl ha hb hxy hle
  cases b with
  | nil => cases hl
  | cons d b =>
   obtain ⟨h1, h1'⟩ := ha c (.head _)
   obtain ⟨h2, h2'⟩ := hb d (.head _)
   have key : x < y ∨ x = y := by omega
   rw [val_cons, val_cons]
   refine ih b _ _ (by simpa using hl) (fun z hz => ha z (.tail _ hz)) (fun z hz => hb z (.tail _ hz)) ?_ ?_
   ·
    rcases key with h | h
    ·
     omega
    ·
     have h3 := hle h
     rw [List.cons_le_cons_iff] at h3
     rcases h3 with h3 | ⟨h3, _⟩
     ·
      have : c.toNat < d.toNat := h3
      omega
     ·
      rw [h3]; omega
   ·
    intro e
    have hx : x = y := by omega
    have h3 := hle hx
    rw [List.cons_le_cons_iff] at h3
    rcases h3 with h3 | ⟨_, h3⟩
    ·
     have : c.toNat < d.toNat := h3
     omega
    ·
     exact h3
theorem app_le : ∀ (p a b : List UInt8), p ++ a ≤ p ++ b → a ≤ b
 | [], _, _, h => h
 | c :: p, a, b, h => by
  rw [List.cons_append, List.cons_append, List.cons_le_cons_iff] at h
  rcases h with h | ⟨_, h⟩
  ·
   exact absurd h (by simp)
  ·
   exact app_le p a b h
theorem le_app : ∀ (a b p : List UInt8), a.length = b.length → a ++ p ≤ b ++ p → a ≤ b
 | [], [], _, _, _ => List.le_refl _
 | c :: a, d :: b, p, hl, h => by
  rw [List.cons_append, List.cons_append, List.cons_le_cons_iff] at h
  rw [List.cons_le_cons_iff]
  rcases h with h | ⟨e, h⟩
  ·
   exact .inl h
  ·
   exact .inr ⟨e, le_app a b p (by simpa using hl) h⟩
theorem bn_le {pre n m : Nm} {u v : Nat} (h1 : bn pre n = some u) (h2 : bn pre m = some v) (h : n ≤ m) : u ≤ v := by
 obtain ⟨_, t, rfl, ht, rfl, hd⟩ := bn_of h1
 obtain ⟨_, s, rfl, hs, rfl, he⟩ := bn_of h2
 have h0 : (pre ++ [45]) ++ (t ++ dotlog) ≤ (pre ++ [45]) ++ (s ++ dotlog) := by simpa [List.append_assoc] using h
 have h3 := le_app t s dotlog (ht.trans hs.symm) (app_le _ _ _ h0)
 exact val_le t s 0 0 (ht.trans hs.symm) hd he (Nat.le_refl _) fun _ => h3
theorem val_inj : ∀ (a b : List UInt8) (x y : Nat), a.length = b.length → (∀ c ∈ a, digit c) → (∀ c ∈ b, digit c) → val x a = val y b → x = y ∧ a = b
 | [], [], x, y, _, _, _, h => ⟨h, rfl⟩
 | c :: a, d :: b, x, y, hl, ha, hb, h => by
  obtain ⟨h1, h1'⟩ := ha c (.head _)
  obtain ⟨h2, h2'⟩ := hb d (.head _)
  rw [val_cons, val_cons] at h
  obtain ⟨e1, e2⟩ := val_inj a b _ _ (by simpa using hl) (fun z hz => ha z (.tail _ hz)) (fun z hz => hb z (.tail _ hz)) h
  have hx : x = y := by omega
  have hc : c.toNat = d.toNat := by omega
  exact ⟨hx, by rw [e2, UInt8.toNat_inj.1 hc]⟩
theorem bn_inj {pre n : Nm} {u : Nat} (h : bn pre n = some u) : n = nameOf pre u := by
 obtain ⟨hu, t, rfl, ht, hv, hd⟩ := bn_of h
 have := val_inj t (pad u) 0 0 (by rw [ht, pad_len (by omega)]) hd (pad_digit u) (by rw [hv, val_pad])
 rw [this.2]; unfold nameOf dotlog; rfl
theorem basesOf_mem {pre : Nm} {ns : List Nm} {u : Nat} : u ∈ basesOf pre ns ↔ u ≤ 1000000000 ∧ nameOf pre u ∈ ns := by
 unfold basesOf
 rw [List.mem_filterMap]
 constructor
 ·
  rintro ⟨n, hn, h⟩
  have := bn_inj h
  subst this
  exact ⟨(bn_of h).1, hn⟩
 ·
  rintro ⟨hu, hn⟩
  exact ⟨_, hn, bn_name hu⟩
theorem basesOf_up {pre : Nm} : ∀ {ns : List Nm}, ns.Pairwise (fun x y => x ≤ y) → ns.Nodup → (basesOf pre ns).Pairwise (· < ·)
 | [], _, _ => .nil
 | n :: ns, h1, h2 => by
  obtain ⟨h3, h4⟩ := List.pairwise_cons.1 h1
  obtain ⟨h5, h6⟩ := List.nodup_cons.1 h2
  have ih := basesOf_up (pre := pre) h4 h6
  unfold basesOf at ih ⊢
  rw [List.filterMap_cons]
  cases hb : bn pre n with
  | none => exact ih
  | some u =>
   refine List.pairwise_cons.2 ⟨fun v hv => ?_, ih⟩
   obtain ⟨m, hm, hv⟩ := List.mem_filterMap.1 hv
   have h7 := bn_le hb hv (h3 m hm)
   have h8 : u ≠ v := fun e => by
    subst e
    rw [bn_inj hb] at h5
    rw [bn_inj hv] at hm
    exact h5 hm
   omega
theorem up_eq : ∀ {a b : List Nat}, a.Pairwise (· < ·) → b.Pairwise (· < ·) → (∀ x, x ∈ a ↔ x ∈ b) → a = b
 | [], [], _, _, _ => rfl
 | [], y :: b, _, _, h => by have := (h y).2 (.head _); cases this
 | x :: a, [], _, _, h => by have := (h x).1 (.head _); cases this
 | x :: a, y :: b, h1, h2, h => by
  obtain ⟨h3, h4⟩ := List.pairwise_cons.1 h1
  obtain ⟨h5, h6⟩ := List.pairwise_cons.1 h2
  have hxy : x = y := by
   rcases List.mem_cons.1 ((h x).1 (.head _)) with e | e
   ·
    exact e
   ·
    rcases List.mem_cons.1 ((h y).2 (.head _)) with f | f
    ·
     exact f.symm
    ·
     have := h3 y f; have := h5 x e; omega
  subst hxy
  rw [up_eq h4 h6 fun z => ⟨fun hz => ?_, fun hz => ?_⟩]
  ·
   rcases List.mem_cons.1 ((h z).1 (.tail _ hz)) with e | e
   ·
    have := h3 z hz; omega
   ·
    exact e
  ·
   rcases List.mem_cons.1 ((h z).2 (.tail _ hz)) with e | e
   ·
    have := h5 z hz; omega
   ·
    exact e
theorem sorted_mem {ns : List Nm} {n : Nm} : n ∈ sorted ns ↔ n ∈ ns := List.mem_mergeSort
theorem sorted_nodup {ns : List Nm} (h : ns.Nodup) : (sorted ns).Nodup := (List.mergeSort_perm ns _).nodup_iff.2 h
theorem get_in {d : Dk} {n : Nm} : (d.get n).isSome = true ↔ n ∈ d.fs.map (·.1) :=
 ⟨fun h => List.mem_map_of_mem (mget_mem (Dk.get_some.1 h)), fun h => mget_in h⟩
theorem link_up : ∀ {n : Int} {l : List Sx} {c : Sx}, Link n (l ++ [c]) → (∀ s ∈ l, s.ok ∧ s.bs ≠ []) → 0 ≤ n → ((l ++ [c]).map fun s => s.base.toNat).Pairwise (· < ·)
 | _, [], _, _, _, _ => List.pairwise_singleton ..
 | n, x :: l, c, h, ho, hn => by
  have h1 : x.base = n := h.1
  have h2 := base_lt (ho x (.head _)).1 (ho x (.head _)).2
  rw [List.cons_append, List.map_cons]
  refine List.pairwise_cons.2 ⟨fun u hu => ?_, link_up h.2 (fun s hs => ho s (.tail _ hs)) (by omega)⟩
  obtain ⟨s, hs, rfl⟩ := List.mem_map.1 hu
  have h3 := link_ge l c x.next h.2 (fun s hs => ho s (.tail _ hs)) s hs
  omega
theorem Lx.ok.base0 {l : Lx} {d : Dk} (h : l.ok d) : 0 ≤ baseOf l := by
 unfold baseOf Lx.segs
 cases e : l.ini with
 | nil => exact h.cur.1.base0
 | cons x r => exact (h.ini x (by rw [e]; exact .head _)).1.base0
theorem own_bases {l : Lx} {d : Dk} (hl : l.ok d) (hd : d.ok) (ho : Own l d) : basesOf l.pre (sorted (d.fs.map (·.1))) = l.segs.map fun s => s.base.toNat := by
 refine up_eq (basesOf_up (sorted_up _) (sorted_nodup hd.nodup)) (link_up hl.link hl.ini hl.base0) fun u => ?_
 rw [basesOf_mem, sorted_mem, ← get_in]
 constructor
 ·
  rintro ⟨hu, hg⟩
  obtain ⟨s, hs, e⟩ := ho u hu hg
  exact List.mem_map.2 ⟨s, hs, e⟩
 ·
  intro h
  obtain ⟨s, hs, rfl⟩ := List.mem_map.1 h
  obtain ⟨h1, h2, h3, _⟩ := hl.seg s hs
  exact ⟨by have := h1.base1; have := h1.base0; omega, by rw [← h2]; exact h3⟩
end Go.Proofs.YtoglbebcdjdkiaaGreatDoor
namespace Go.Proofs.YtoglbebcdjdkiaaGreatDoor
open Go Go.Sp
set_option linter.unusedVariables false
namespace law0
theorem ti34 : TI Tryz.prog 41 6 64 (.agg #[.int .i64 0, .int .i64 0, .int .i64 0, .int .i64 0, .int .i64 0, .slice none 0 0]) := .of (by kernel_rfl)
theorem ts34 : TS Tryz.prog 41 6 := .of (by kernel_rfl)
theorem fd34_5 : FD Tryz.prog 41 5 5 := .of Tryz.underlying41 (by kernel_rfl)
theorem na32 : NotAgg Tryz.prog 39 := ⟨_, Tryz.underlying39, trivial⟩
theorem ia34 : IsAgg Tryz.prog 41 := ⟨_, Tryz.underlying41, trivial⟩
end law0
open law0
def vrec : Rec := ⟨[], [118, 97, 108, 117, 101], 0⟩
def smallB (n : Nat) : Bat := ⟨0, 1, 0, 0, 0, List.replicate n vrec⟩
theorem rep_snoc (i : Nat) : (List.replicate (i + 1) vrec).flatMap Rec.cells = (List.replicate i vrec).flatMap Rec.cells ++ vrec.cells := by
 rw [List.replicate_succ', List.flatMap_append]; simp
theorem rep_len (i : Nat) : ((List.replicate i vrec).flatMap Rec.cells).length = i * 3 := by rw [flat_length Rec.cells_len, List.length_replicate]
end Go.Proofs.YtoglbebcdjdkiaaGreatDoor
namespace Go.Proofs.YtoglbebcdjdkiaaGreatDoor
open Go Go.Sp
set_option linter.unusedVariables false
namespace seg3
theorem ia34 : IsAgg Tryz.prog 41 := ⟨_, Tryz.underlying41, trivial⟩
theorem ts34 : TS Tryz.prog 41 6 := .of (by kernel_rfl)
theorem na3 : NotAgg Tryz.prog 3 := ⟨_, Tryz.underlying3, trivial⟩
theorem na67 : NotAgg Tryz.prog 108 := ⟨_, Tryz.underlying108, trivial⟩
theorem na24 : NotAgg Tryz.prog 24 := ⟨_, Tryz.underlying24, trivial⟩
theorem na9 : NotAgg Tryz.prog 9 := ⟨_, Tryz.underlying9, trivial⟩
theorem bld71_0_1_2_3 (x0 : Int) (x1 : Int) (x2 : Int) (x3 : Int) (w : World) : (Instr.build 112 (([0, 1, 2, 3] : List Nat).zip [.int .i64 x0, .int .i64 x1, .int .i64 x2, .int .i64 x3]).toArray).run Tryz.prog w = .ok (.agg #[.int .i64 x0, .int .i64 x1, .int .i64 x2, .int .i64 x3]) w := by kernel_rfl
end seg3
open seg3
theorem enc_tup {b : Bat} (hb : b.good) : Value.tuple #[.string (str (wbatch b).1), .int .i64 (wbatch b).2] = .tuple #[.string (str (enc b)), .int .i64 0] := by unfold enc; rw [wbatch_yes hb.right]
set_option maxRecDepth 20000 in
theorem SegApp_ok (db mb : Nat) (d : Dk) (s : Sx) (b : Bat) (a : Option Addr) (c : Nat) (hd : d.ok) (hs : s.ok) (hb : b.good) (hn : b.base = s.next) (hl : s.bs.length < 4096) (hnm : Named s.nm) (hx : (d.get s.nm).isSome = true) (hf : (d.file s.nm).b = flat s.bs) (hr : d.used + (enc b).length ≤ d.size) : Cn Tryz.prog 126 [.pointer (some ⟨s.b, 0, none⟩), .agg (b.cells a c).toArray] (RowAt a (b.recs.flatMap Rec.cells)) [blk db (d.cells mb) 74, mp nmv Fl.val mb d.fs, blk s.b (s.cells db) 110, arr 112 4 s.aa s.ac s.rows, arr 3 1 s.ia s.ic (s.sm.flatMap icN)] fun v G => v = .int .i64 0 ∧ ∃ sm aa ac ia ic, Ix sm (s.bs.length + 1) ∧ s.bs.length + 1 ≤ ac ∧ G = [blk db ((d.put s.nm ⟨(d.file s.nm).b ++ enc b, (d.file s.nm).safe⟩).cells mb) 74, mp nmv Fl.val mb (d.put s.nm ⟨(d.file s.nm).b ++ enc b, (d.file s.nm).safe⟩).fs] ++ [blk s.b ((Sx.mk s.b s.nm s.base (s.bs ++ [b]) sm aa ac ia ic).cells db) 110, arr 112 4 aa ac (Sx.mk s.b s.nm s.base (s.bs ++ [b]) sm aa ac ia ic).rows, arr 3 1 ia ic (sm.flatMap icN)] := by
 refine .enter Tryz.func126 rfl (by kernel_rfl) rfl fun R k => ?_
 have hb0 := hb.base
 have hb1 := hb.en
 have hb2 := hb.recs64
 have hb3 := hb.lt
 have hb4 := hb.enc_le
 have hfl := hs.flat_len
 have hfe : (d.file s.nm).b.length = (flat s.bs).length := by rw [hf]
 refine .goO fds 2 ?_
 refine .ef (.box (l := b.cells a c) rfl rfl (ones.of rfl)) ?_
 rintro _ _ ⟨b3, rfl, rfl⟩
 refine .goO fds 4 ?_
 refine .rd (.ldN ia34 ts34 rfl .head rfl) ?_
 refine .fn rfl rfl .nil ((Knows.pick (.tail (.tail (.tail (.tail (.tail (.tail .head)))))) (k.mono fun _ h => h))) (Batch_ok b a c hb.fits) (fun v G1 hq => ?_)
 obtain ⟨rfl, rfl⟩ := hq
 simp only [List.nil_append]
 refine .alter (t := 11) (v' := .tuple #[.string (str (enc b)), .int .i64 0]) rfl (enc_tup hb) ?_
 refine .goR fds 16 ?_
 refine .draws [1] [blk b3 (b.cells a c) 41] (by kernel_rfl) ?_
 refine .goD fds [0] ?_
 refine .rd 1 rfl rfl (by kernel_rfl) (by kernel_rfl) (by kernel_rfl) (.ld na3 rfl .head rfl) (.cons .head .nil) ?_
 refine .goD fds [2] ?_
 refine .ef 3 (by kernel_rfl) rfl (.fn rfl rfl .nil ((Knows.blk (.tail (.tail (.tail .head)))).and ((Knows.arr (.tail (.tail (.tail (.tail .head))))).and (Knows.arr (.tail (.tail (.tail (.tail (.tail .head)))))))) (Next_ok db s hs)) ?_
 rintro v _ ⟨G1, hq, rfl⟩
 obtain ⟨rfl, rfl⟩ := hq
 simp only [List.nil_append]
 refine ⟨.inr ⟨_, (.cons .head .nil)⟩, ?_⟩
 refine .goD fds [4] ?_
 refine .alter (t := 23) (v' := .bool false) rfl (congrArg Value.bool (by rw [decide_eq_true hn]; rfl)) ?_
 refine .goD fds [5] ?_
 refine .done (by kernel_rfl) ?_
 refine .goO fds 3 ?_
 refine .rd (.ldN ia34 ts34 rfl .head rfl) ?_
 refine .fn rfl rfl .nil (fun _ _ _ => trivial) (end_ok b a c (by omega) (by omega) (by omega)) (fun v G1 hq => ?_)
 obtain ⟨rfl, rfl⟩ := hq
 simp only [List.nil_append]
 refine .rd (.gt rfl rfl) ?_
 refine .alter (t := 27) (v' := .bool false) rfl (congrArg Value.bool (decide_eq_false (by omega))) ?_
 refine .goO fds 8 ?_
 refine .rd (.ld na67 rfl (.tail (.tail (.tail .head))) rfl) ?_
 refine .rd (.lenL rfl rfl Tryz.underlying108 rfl) ?_
 refine .rd (.ge rfl rfl) ?_
 refine .alter (t := 34) (v' := .bool false) rfl (congrArg Value.bool (decide_eq_false (by omega))) ?_
 refine .goO fds 8 ?_
 refine .fn rfl rfl (.cons (.tail .head) (.cons (.tail .head) .nil)) ((Knows.blk (.tail .head)).and ((Knows.arr (.tail (.tail .head))).and (Knows.arr (.tail (.tail (.tail .head)))))) (Bytes_ok db mb d s) (fun v G1 hq => ?_)
 obtain ⟨rfl, rfl⟩ := hq
 simp only [List.cons_append, List.nil_append]
 refine .goR fds 4 ?_
 refine .draws [3, 7] [blk s.b (s.cells db) 110] (by kernel_rfl) ?_
 refine .goD fds [0] ?_
 refine .goD fds [1] ?_
 refine .goD fds [2] ?_
 refine .rd 3 rfl rfl (by kernel_rfl) (by kernel_rfl) (by kernel_rfl) (.ld na24 rfl .head rfl) (.cons (.tail (.tail (.tail .head))) .nil) ?_
 refine .goD fds [4] ?_
 refine .goD fds [5] ?_
 refine .goD fds [6] ?_
 refine .rd 7 rfl rfl (by kernel_rfl) (by kernel_rfl) (by kernel_rfl) (.ld na9 rfl .head rfl) (.cons (.tail (.tail (.tail .head))) .nil) ?_
 refine .goD fds [8] ?_
 refine .ef 9 (by kernel_rfl) rfl (.fn rfl rfl (.cons .head (.cons .head .nil)) (fun _ _ _ => trivial) (Append_ok db mb d s.nm (enc b) hd hnm (.inl hx) hr)) ?_
 rintro v _ ⟨G1, hq, rfl⟩
 obtain ⟨rfl, rfl⟩ := hq
 simp only [List.cons_append, List.nil_append]
 refine ⟨.inl (by kernel_rfl), ?_⟩
 refine .goD fds [10] ?_
 refine .done (by kernel_rfl) ?_
 refine .go fds 8 ?_
 refine .draws [2, 3] [blk b3 (b.cells a c) 41] (by kernel_rfl) ?_
 refine .goD fds [0] ?_
 refine .goD fds [1] ?_
 refine .rd 2 rfl rfl (by kernel_rfl) (by kernel_rfl) (by kernel_rfl) (.ld na3 rfl .head rfl) (.cons (.tail (.tail .head)) .nil) ?_
 refine .rd 3 rfl rfl (by kernel_rfl) (by kernel_rfl) (by kernel_rfl) (.ldN ia34 ts34 rfl .head rfl) (.cons (.tail (.tail .head)) .nil) ?_
 refine .goD fds [5] ?_
 refine .goD fds [6] ?_
 refine .goD fds [7] ?_
 refine .rp 8 rfl (by kernel_rfl) (by kernel_rfl) (by kernel_rfl) (Reads.pure (.lenT rfl rfl Tryz.underlying9 rfl)) ?_
 refine .rp 9 rfl (by kernel_rfl) (by kernel_rfl) (by kernel_rfl) (Reads.pure (.add rfl rfl (by omega) (by omega))) ?_
 refine .ef 4 (by kernel_rfl) rfl (.fn rfl rfl .nil (fun _ _ _ => trivial) (end_ok b a c (by omega) (by omega) (by omega))) ?_
 rintro v _ ⟨G1, hq, rfl⟩
 obtain ⟨rfl, rfl⟩ := hq
 simp only [List.nil_append]
 refine ⟨.inr ⟨_, (.cons (.tail (.tail .head)) .nil)⟩, ?_⟩
 refine .rp 10 rfl (by kernel_rfl) (by kernel_rfl) (by kernel_rfl) (Reads.pure (.build rfl (bld71_0_1_2_3 _ _ _ _))) ?_
 refine .alter (t := 70) (v' := .agg (oneB s b).cells.toArray) rfl (by rw [hfe]; rfl) ?_
 refine .ef 11 (by kernel_rfl) rfl (.fn rfl rfl (.cons (.tail (.tail (.tail .head))) (.cons (.tail (.tail (.tail .head))) (.cons (.tail (.tail (.tail .head))) .nil))) (fun _ _ _ => trivial) (add_ok db s b hs hb hn hl)) ?_
 rintro v _ ⟨G1, hq, rfl⟩
 obtain ⟨sm, aa, ac, ia, ic, hix, hca, rfl⟩ := hq
 simp only [List.cons_append, List.nil_append]
 refine ⟨.inl (by kernel_rfl), ?_⟩
 refine .done (by kernel_rfl) ?_
 refine .go fds 4 ?_
 refine .retP Tryz.func126 (.cons (.tmp rfl) .nil) (.cons (.tail (.tail (.tail .head))) (.cons (.tail (.tail (.tail .head))) (.cons .head (.cons .head (.cons .head (.cons (.tail .head) .nil)))))) ?_
 exact ⟨[_, _, _, _, _], ⟨rfl, sm, aa, ac, ia, ic, hix, hca, rfl⟩, rfl⟩
end Go.Proofs.YtoglbebcdjdkiaaGreatDoor
namespace Go.Proofs.YtoglbebcdjdkiaaGreatDoor
open Go Go.Sp
set_option linter.unusedVariables false
namespace log7
theorem na3 : NotAgg Tryz.prog 3 := ⟨_, Tryz.underlying3, trivial⟩
theorem na39 : NotAgg Tryz.prog 54 := ⟨_, Tryz.underlying54, trivial⟩
theorem ia34 : IsAgg Tryz.prog 41 := ⟨_, Tryz.underlying41, trivial⟩
theorem ts34 : TS Tryz.prog 41 6 := .of (by kernel_rfl)
end log7
open log7
theorem segs_perm (l : Lx) : l.segs.Perm (l.cur :: l.ini) := by unfold Lx.segs; exact List.perm_append_comm
theorem next_gt {s : Sx} (h : s.ok) (hf : 0 < (flat s.bs).length) : s.base < s.next := by
 by_cases h0 : 0 < s.bs.length
 ·
  obtain ⟨b, hb, he⟩ := Sx.last h0
  rw [← he]; exact en_base h (List.mem_of_getElem? hb)
 ·
  have : s.bs = [] := List.eq_nil_of_length_eq_zero (by omega)
  rw [this] at hf; exact absurd hf (by decide)
theorem segs_sp (l : Lx) : l.segs.flatMap sp = (l.segs.map (·.b)).flatMap spb := by rw [List.flatMap_map]; rfl
set_option maxHeartbeats 1000000 in
set_option maxRecDepth 20000 in
theorem Take_ok (db mb : Nat) (d : Dk) (l : Lx) (b : Bat) (a : Option Addr) (c : Nat) (hd : d.ok) (hl : l.ok d) (hb : b.good) (hbn : b.base = l.next) (hcl : l.cur.bs.length < 4096) (hsp : l.next - l.cur.base < 4096) (hroom : d.used + (enc b).length ≤ d.size) (hfs : d.fs.length < 255) (hnew : ((d.put l.cur.nm ⟨(d.file l.cur.nm).b, (d.file l.cur.nm).b.length⟩).file (nameOf l.pre l.next.toNat)).b = []) (hfs1 : (d.put l.cur.nm ⟨(d.file l.cur.nm).b, (d.file l.cur.nm).b.length⟩).fs.length < 256) : Cn Tryz.prog 80 [.pointer (some ⟨l.lb, 0, none⟩), .agg (b.cells a c).toArray] (fun w => LV w ∧ RowAt a (b.recs.flatMap Rec.cells) w) [LG db l, blk db (d.cells mb) 74, mp nmv Fl.val mb d.fs] fun v G => v = .int .i64 0 ∧ ((¬ l.most ≤ ((d.file l.cur.nm).b.length : Int) ∧ ∃ sm aa ac ia ic, Ix sm (l.cur.bs.length + 1) ∧ l.cur.bs.length + 1 ≤ ac ∧ G = [LG db (l.grow b sm aa ac ia ic), blk db ((d.put l.cur.nm ⟨(d.file l.cur.nm).b ++ enc b, (d.file l.cur.nm).safe⟩).cells mb) 74, mp nmv Fl.val mb (d.put l.cur.nm ⟨(d.file l.cur.nm).b ++ enc b, (d.file l.cur.nm).safe⟩).fs]) ∨ (l.most ≤ ((d.file l.cur.nm).b.length : Int) ∧ ∃ sb sm aa ac ia ic qa qc, Ix sm 1 ∧ 1 ≤ ac ∧ G = [LG db (l.roll sb b sm aa ac ia ic qa qc), blk db ((((d.put l.cur.nm ⟨(d.file l.cur.nm).b, (d.file l.cur.nm).b.length⟩).put (nameOf l.pre l.next.toNat) ⟨flat [], (flat []).length⟩).put (nameOf l.pre l.next.toNat) ⟨(((d.put l.cur.nm ⟨(d.file l.cur.nm).b, (d.file l.cur.nm).b.length⟩).put (nameOf l.pre l.next.toNat) ⟨flat [], (flat []).length⟩).file (nameOf l.pre l.next.toNat)).b ++ enc b, (((d.put l.cur.nm ⟨(d.file l.cur.nm).b, (d.file l.cur.nm).b.length⟩).put (nameOf l.pre l.next.toNat) ⟨flat [], (flat []).length⟩).file (nameOf l.pre l.next.toNat)).safe⟩).cells mb) 74, mp nmv Fl.val mb (((d.put l.cur.nm ⟨(d.file l.cur.nm).b, (d.file l.cur.nm).b.length⟩).put (nameOf l.pre l.next.toNat) ⟨flat [], (flat []).length⟩).put (nameOf l.pre l.next.toNat) ⟨(((d.put l.cur.nm ⟨(d.file l.cur.nm).b, (d.file l.cur.nm).b.length⟩).put (nameOf l.pre l.next.toNat) ⟨flat [], (flat []).length⟩).file (nameOf l.pre l.next.toNat)).b ++ enc b, (((d.put l.cur.nm ⟨(d.file l.cur.nm).b, (d.file l.cur.nm).b.length⟩).put (nameOf l.pre l.next.toNat) ⟨flat [], (flat []).length⟩).file (nameOf l.pre l.next.toNat)).safe⟩).fs])) := by
 refine .enter Tryz.func80 rfl (by kernel_rfl) rfl fun R k => ?_
 obtain ⟨hcok, hcn, hcx, hcf⟩ := hl.seg l.cur l.cur_in
 have hb0 := hb.base
 have hb1 := hb.en
 have hb2 := hb.recs64
 have hb3 := hb.lt
 have hnx := hcok.next_le
 have hnb := hcok.next_ge
 have hfe : (d.file l.cur.nm).b.length = (flat l.cur.bs).length := by rw [hcf]
 have hpl := hl.pre.len
 have hmo := hl.most
 refine .unpack (L := [blk l.lb (l.cells db) 57, arr 54 1 l.la l.lc (l.segs.flatMap sp), bag (SG db) l.segs]) .head ?_
 simp only [List.cons_append, List.nil_append]
 refine .takeBag (f := SG db) (x := l.cur) (m := l.ini) (.tail (.tail .head)) (segs_perm l) ?_
 refine .unpack (L := [blk l.cur.b (l.cur.cells db) 110, arr 112 4 l.cur.aa l.cur.ac l.cur.rows, arr 3 1 l.cur.ia l.cur.ic (l.cur.sm.flatMap icN)]) .head ?_
 simp only [List.cons_append, List.nil_append]
 refine .goO fds 2 ?_
 refine .ef (.box (l := b.cells a c) rfl rfl (ones.of rfl)) ?_
 rintro _ _ ⟨b3, rfl, rfl⟩
 refine .goR fds 4 ?_
 refine .draws [1, 5] [blk b3 (b.cells a c) 41, blk l.lb (l.cells db) 57] (by kernel_rfl) ?_
 refine .goD fds [0] ?_
 refine .rd 1 rfl rfl (by kernel_rfl) (by kernel_rfl) (by kernel_rfl) (.ld na3 rfl .head rfl) (.cons .head (.cons (.tail (.tail (.tail (.tail .head)))) .nil)) ?_
 refine .goD fds [2] ?_
 refine .goD fds [3] ?_
 refine .goD fds [4] ?_
 refine .rd 5 rfl rfl (by kernel_rfl) (by kernel_rfl) (by kernel_rfl) (.ld na39 rfl (.tail .head) rfl) (.cons .head (.cons (.tail (.tail (.tail (.tail .head)))) .nil)) ?_
 refine .ef 6 (by kernel_rfl) rfl (.fn rfl rfl .nil ((Knows.blk (.tail .head)).and ((Knows.arr (.tail (.tail .head))).and (Knows.arr (.tail (.tail (.tail .head)))))) (Next_ok db l.cur hcok)) ?_
 rintro v _ ⟨G1, hq, rfl⟩
 obtain ⟨rfl, rfl⟩ := hq
 simp only [List.nil_append]
 refine ⟨.inr ⟨_, (.cons .head (.cons (.tail (.tail (.tail (.tail .head)))) .nil))⟩, ?_⟩
 refine .goD fds [7] ?_
 refine .alter (t := 16) (v' := .bool false) rfl (congrArg Value.bool (by rw [decide_eq_true (show b.base = l.cur.next from hbn)]; rfl)) ?_
 refine .done (by kernel_rfl) ?_
 refine .goO fds 5 ?_
 refine .rd (.ldN ia34 ts34 rfl .head rfl) ?_
 refine .fn rfl rfl .nil ((Knows.pick (.tail (.tail (.tail (.tail (.tail (.tail (.tail (.tail (.tail .head))))))))) (k.mono fun _ h => h.2))) (Batch_ok b a c hb.fits) (fun v G1 hq => ?_)
 obtain ⟨rfl, rfl⟩ := hq
 simp only [List.nil_append]
 refine .alter (t := 19) (v' := .tuple #[.string (str (enc b)), .int .i64 0]) rfl (enc_tup hb) ?_
 refine .goO fds 16 ?_
 by_cases hroll : l.most ≤ ((d.file l.cur.nm).b.length : Int)
 ·
  have hgt : l.cur.base < l.cur.next := next_gt hcok (by omega)
  refine .rd (.ldN ia34 ts34 rfl .head rfl) ?_
  refine .fn rfl rfl .nil (fun _ _ _ => trivial) (pend_ok b a c (by omega) (by omega) (by omega)) (fun v G1 hq => ?_)
  obtain ⟨rfl, rfl⟩ := hq
  simp only [List.nil_append]
  refine .rd (.gt rfl rfl) ?_
  refine .alter (t := 27) (v' := .bool false) rfl (congrArg Value.bool (decide_eq_false (by omega))) ?_
  refine .goR fds 5 ?_
  refine .draws [3, 8, 14, 19] [blk l.lb (l.cells db) 57] (by kernel_rfl) ?_
  refine .goD fds [0] ?_
  refine .goD fds [1] ?_
  refine .goD fds [2] ?_
  refine .rd 3 rfl rfl (by kernel_rfl) (by kernel_rfl) (by kernel_rfl) (.ld na39 rfl .head rfl) (.cons (.tail (.tail (.tail (.tail (.tail .head))))) .nil) ?_
  refine .goD fds [5] ?_
  refine .goD fds [6] ?_
  refine .goD fds [7] ?_
  refine .rd 8 rfl rfl (by kernel_rfl) (by kernel_rfl) (by kernel_rfl) (.ld na3 rfl .head rfl) (.cons (.tail (.tail (.tail (.tail (.tail .head))))) .nil) ?_
  refine .ef 4 (by kernel_rfl) rfl (.fn rfl rfl (.cons (.tail (.tail (.tail (.tail (.tail (.tail (.tail .head))))))) (.cons (.tail (.tail (.tail (.tail (.tail (.tail (.tail .head))))))) .nil)) ((Knows.blk (.tail .head)).and ((Knows.arr (.tail (.tail .head))).and (Knows.arr (.tail (.tail (.tail .head)))))) (Bytes_ok db mb d l.cur)) ?_
  rintro v _ ⟨G1, hq, rfl⟩
  obtain ⟨rfl, rfl⟩ := hq
  simp only [List.cons_append, List.nil_append]
  refine ⟨.inr ⟨_, (.cons (.tail (.tail (.tail (.tail (.tail (.tail (.tail .head))))))) .nil)⟩, ?_⟩
  refine .goD fds [9] ?_
  refine .alter (t := 37) (v' := .bool true) rfl (congrArg Value.bool (decide_eq_true hroll)) ?_
  refine .goD fds [10, 11, 12, 13, 14, 15, 16, 17, 18, 19, 20, 21, 22] ?_
  refine .goD fds [23] ?_
  refine .goD fds [24] ?_
  refine .done (by kernel_rfl) ?_
  refine .seq ?_
  refine .draws [5, 10] [blk l.lb (l.cells db) 57] (by kernel_rfl) ?_
  refine .goD fds [0] ?_
  refine .goD fds [1] ?_
  refine .goD fds [2] ?_
  refine .goD fds [3] ?_
  refine .goD fds [4] ?_
  refine .rdG 5 (t := 53) rfl rfl rfl rfl (by kernel_rfl) (by kernel_rfl) (by kernel_rfl) (.ld na39 rfl .head rfl) (.cons (.tail (.tail (.tail (.tail (.tail (.tail (.tail .head))))))) .nil) ?_
  refine .goD fds [7] ?_
  refine .goD fds [8] ?_
  refine .goD fds [9] ?_
  refine .rdG 10 (t := 53) rfl rfl rfl rfl (by kernel_rfl) (by kernel_rfl) (by kernel_rfl) (.ld na39 rfl .head rfl) (.cons (.tail (.tail (.tail (.tail (.tail (.tail (.tail .head))))))) .nil) ?_
  refine .efG 6 (t := 53) (by kernel_rfl) rfl rfl rfl (.fn rfl rfl .nil ((Knows.blk (.tail (.tail (.tail .head)))).and ((Knows.arr (.tail (.tail (.tail (.tail .head))))).and (Knows.arr (.tail (.tail (.tail (.tail (.tail .head)))))))) (Next_ok db l.cur hcok)) ?_
  rintro v _ ⟨G1, hq, rfl⟩
  obtain ⟨rfl, rfl⟩ := hq
  simp only [List.nil_append]
  refine ⟨.inr ⟨_, (.cons (.tail (.tail (.tail (.tail (.tail (.tail (.tail .head))))))) .nil)⟩, ?_⟩
  refine .efG 11 (t := 53) (by kernel_rfl) rfl rfl rfl (.fn rfl rfl .nil ((Knows.blk (.tail (.tail (.tail .head)))).and ((Knows.arr (.tail (.tail (.tail (.tail .head))))).and (Knows.arr (.tail (.tail (.tail (.tail (.tail .head)))))))) (Base_ok db l.cur)) ?_
  rintro v _ ⟨G1, hq, rfl⟩
  obtain ⟨rfl, rfl⟩ := hq
  simp only [List.nil_append]
  refine ⟨.inl (by kernel_rfl), ?_⟩
  refine .goD fds [12] ?_
  refine .alter (t := 64) (v' := .bool true) rfl (congrArg Value.bool (decide_eq_true hgt)) ?_
  refine .goD fds [13] ?_
  refine .done (by kernel_rfl) ?_
  refine .go fds 2 ?_
  refine .draws [3, 8, 14, 18] [blk l.lb (l.cells db) 57] (by kernel_rfl) ?_
  refine .goD fds [0] ?_
  refine .goD fds [1] ?_
  refine .goD fds [2] ?_
  refine .rd 3 rfl rfl (by kernel_rfl) (by kernel_rfl) (by kernel_rfl) (.ld na39 rfl .head rfl) (.cons (.tail (.tail (.tail (.tail (.tail (.tail (.tail .head))))))) .nil) ?_
  refine .goD fds [5] ?_
  refine .goD fds [6] ?_
  refine .goD fds [7] ?_
  refine .rd 8 rfl rfl (by kernel_rfl) (by kernel_rfl) (by kernel_rfl) (.ld na3 rfl .head rfl) (.cons (.tail (.tail (.tail (.tail (.tail (.tail (.tail .head))))))) .nil) ?_
  refine .ef 4 (by kernel_rfl) rfl (.fn rfl rfl (.cons .head (.cons .head .nil)) ((Knows.blk (.tail .head)).and ((Knows.arr (.tail (.tail .head))).and (Knows.arr (.tail (.tail (.tail .head)))))) (Bytes_ok db mb d l.cur)) ?_
  rintro v _ ⟨G1, hq, rfl⟩
  obtain ⟨rfl, rfl⟩ := hq
  simp only [List.cons_append, List.nil_append]
  refine ⟨.inr ⟨_, (.cons (.tail (.tail (.tail (.tail (.tail (.tail (.tail .head))))))) .nil)⟩, ?_⟩
  refine .goD fds [9] ?_
  refine .alter (t := 75) (v' := .bool true) rfl (congrArg Value.bool (decide_eq_true hroll)) ?_
  refine .goD fds [10, 11, 12, 13, 14, 15, 16, 17, 18, 19, 20, 21, 22] ?_
  refine .goD fds [23] ?_
  refine .done (by kernel_rfl) ?_
  refine .goO fds 6 ?_
  refine .rd (.ld na39 rfl (.tail (.tail (.tail (.tail (.tail (.tail (.tail .head))))))) rfl) ?_
  refine .fn rfl rfl (.cons .head (.cons .head .nil)) ((Knows.blk (.tail .head)).and ((Knows.arr (.tail (.tail .head))).and (Knows.arr (.tail (.tail (.tail .head)))))) (SegSync_ok db mb d l.cur hd hcx) (fun v G1 hq => ?_)
  obtain ⟨rfl, rfl⟩ := hq
  simp only [List.cons_append, List.nil_append]
  refine .goO fds 7 ?_
  refine .rd (.ld na39 rfl (.tail (.tail (.tail (.tail (.tail (.tail (.tail .head))))))) rfl) ?_
  refine .fn rfl rfl .nil ((Knows.blk (.tail (.tail (.tail .head)))).and ((Knows.arr (.tail (.tail (.tail (.tail .head))))).and (Knows.arr (.tail (.tail (.tail (.tail (.tail .head)))))))) (Next_ok db l.cur hcok) (fun v G1 hq => ?_)
  obtain ⟨rfl, rfl⟩ := hq
  simp only [List.nil_append]
  refine .pack (L := [blk l.cur.b (l.cur.cells db) 110, arr 112 4 l.cur.aa l.cur.ac l.cur.rows, arr 3 1 l.cur.ia l.cur.ic (l.cur.sm.flatMap icN)]) (.cons (.tail (.tail (.tail .head))) (.cons (.tail (.tail (.tail .head))) (.cons (.tail (.tail (.tail .head))) .nil))) ?_
  refine .close (X := bag (SG db) l.segs) (.cons .head (.cons (.tail (.tail (.tail .head))) .nil)) (fun h H => put_segs (ini := l.ini) (s := l.cur) H) ?_
  have hd1 : (d.put l.cur.nm ⟨(d.file l.cur.nm).b, (d.file l.cur.nm).b.length⟩).ok := Dk.ok_put hd (by show _ + (d.file l.cur.nm).b.length ≤ _; have := hd.used; omega) (Nat.le_refl _)
  refine .perm (.cons (.tail (.tail (.tail (.tail (.tail .head))))) (.cons .head (.cons .head (.cons .head (.cons .head (.cons .head (.cons .head .nil))))))) ?_
  refine .cast (X' := arr 54 1 l.la l.lc ((l.segs.map (·.b)).flatMap spb)) (by rw [segs_sp]) ?_
  refine .perm (.cons (.tail (.tail (.tail (.tail (.tail .head))))) (.cons .head (.cons .head (.cons .head (.cons .head (.cons .head (.cons .head .nil))))))) ?_
  refine .cast (X' := blk l.lb (lcells (some ⟨l.cur.b, 0, none⟩) db l.pre l.most l.start l.high l.la (l.segs.map (·.b)).length l.lc) 57) (by rw [List.length_map]; unfold Lx.segs; rw [List.length_append]; rfl) ?_
  refine .alter (t := 100) (v' := .int .i64 ((l.next.toNat : Nat) : Int)) rfl (congrArg (Value.int .i64) (by show l.cur.next = ((l.cur.next.toNat : Nat) : Int); have := hcok.base0; omega)) ?_
  refine .fn rfl rfl (.cons .head (.cons .head (.cons (.tail .head) (.cons (.tail .head) .nil)))) ((Knows.pick (.tail (.tail .head)) (k.mono fun _ h => h.1))) (ladd_ok l.lb db mb (d.put l.cur.nm ⟨(d.file l.cur.nm).b, (d.file l.cur.nm).b.length⟩) (some ⟨l.cur.b, 0, none⟩) l.pre l.most l.start l.high l.la l.lc (l.segs.map (·.b)) l.next.toNat [] [] hd1 hl.pre (by show l.cur.next.toNat ≤ _; omega) (.inr hfs1) hnew (.inl rfl) trivial (fun _ h => by cases h) (by decide) (by rw [List.length_map]; have := hl.len; omega)) (fun v G1 hq => ?_)
  obtain ⟨sb, sm, aa, ac, ia, ic, qa, qc, rfl, hix, hca, rfl⟩ := hq
  simp only [List.cons_append, List.nil_append]
  refine .goR fds 10 ?_
  have hnn : ((l.next.toNat : Nat) : Int) = l.next := by show ((l.cur.next.toNat : Nat) : Int) = l.cur.next; have := hcok.base0; omega
  have hn0 : l.next = l.cur.next := rfl
  have hd2 : ((d.put l.cur.nm ⟨(d.file l.cur.nm).b, (d.file l.cur.nm).b.length⟩).put (nameOf l.pre l.next.toNat) ⟨flat [], (flat []).length⟩).ok := Dk.ok_put hd1 (Nat.le_trans (by have := Dk.used_put hd l.cur.nm ⟨(d.file l.cur.nm).b, (d.file l.cur.nm).b.length⟩; exact hd1.used) (Nat.le_add_right _ _)) (Nat.le_refl _)
  have hsn : (Sx.mk sb (nameOf l.pre l.next.toNat) ((l.next.toNat : Nat) : Int) [] sm aa ac ia ic).ok := ⟨by show (0 : Int) ≤ ((l.next.toNat : Nat) : Int); omega, by show ((l.next.toNat : Nat) : Int) ≤ _; omega, trivial, fun _ h => (by cases h), Nat.zero_le _, hix, Nat.zero_le _⟩
  have hbn2 : b.base = (Sx.mk sb (nameOf l.pre l.next.toNat) ((l.next.toNat : Nat) : Int) [] sm aa ac ia ic).next := by rw [hbn, ← hnn]; rfl
  have hrm2 : ((d.put l.cur.nm ⟨(d.file l.cur.nm).b, (d.file l.cur.nm).b.length⟩).put (nameOf l.pre l.next.toNat) ⟨flat [], (flat []).length⟩).used + (enc b).length ≤ ((d.put l.cur.nm ⟨(d.file l.cur.nm).b, (d.file l.cur.nm).b.length⟩).put (nameOf l.pre l.next.toNat) ⟨flat [], (flat []).length⟩).size := by
   have h1 := Dk.used_put hd l.cur.nm ⟨(d.file l.cur.nm).b, (d.file l.cur.nm).b.length⟩
   have h2 := Dk.used_put hd1 (nameOf l.pre l.next.toNat) ⟨flat [], (flat []).length⟩
   have h3 : (flat ([] : List Bat)).length = 0 := rfl
   show _ ≤ d.size
   dsimp only at h1 h2
   omega
  refine .draws [3, 4] [blk l.lb (lcells (some ⟨sb, 0, none⟩) db l.pre l.most l.start l.high qa (l.segs.map (·.b) ++ [sb]).length qc) 57, blk b3 (b.cells a c) 41] (by kernel_rfl) ?_
  refine .goD fds [0] ?_
  refine .goD fds [1] ?_
  refine .goD fds [2] ?_
  refine .rd 3 rfl rfl (by kernel_rfl) (by kernel_rfl) (by kernel_rfl) (.ld na39 rfl .head rfl) (.cons .head (.cons (.tail (.tail (.tail (.tail (.tail (.tail (.tail .head))))))) .nil)) ?_
  refine .rd 4 rfl rfl (by kernel_rfl) (by kernel_rfl) (by kernel_rfl) (.ldN ia34 ts34 rfl (.tail .head) rfl) (.cons .head (.cons (.tail (.tail (.tail (.tail (.tail (.tail (.tail .head))))))) .nil)) ?_
  refine .ef 5 (by kernel_rfl) rfl (.fn rfl rfl (.cons (.tail (.tail .head)) (.cons (.tail (.tail .head)) (.cons (.tail (.tail .head)) (.cons (.tail (.tail .head)) (.cons (.tail (.tail .head)) .nil))))) ((Knows.pick (.tail (.tail (.tail (.tail .head)))) (k.mono fun _ h => h.2))) (SegApp_ok db mb ((d.put l.cur.nm ⟨(d.file l.cur.nm).b, (d.file l.cur.nm).b.length⟩).put (nameOf l.pre l.next.toNat) ⟨flat [], (flat []).length⟩) (Sx.mk sb (nameOf l.pre l.next.toNat) ((l.next.toNat : Nat) : Int) [] sm aa ac ia ic) b a c hd2 hsn hb hbn2 (by show 0 < 4096; omega) (nameOf_named hl.pre (by show l.cur.next.toNat < 10 ^ 10; omega)) (Dk.some_put _ _ _) (by rw [Dk.file_put]) hrm2)) ?_
  rintro v _ ⟨G1, hq, rfl⟩
  obtain ⟨rfl, tm, ta, tc, ua, uc, hiy, hcb, rfl⟩ := hq
  simp only [List.cons_append, List.nil_append]
  refine ⟨.inl (by kernel_rfl), ?_⟩
  refine .goD fds [6] ?_
  refine .done (by kernel_rfl) ?_
  refine .pack (L := [blk (Sx.mk sb (nameOf l.pre l.next.toNat) ((l.next.toNat : Nat) : Int) ([] ++ [b]) tm ta tc ua uc).b ((Sx.mk sb (nameOf l.pre l.next.toNat) ((l.next.toNat : Nat) : Int) ([] ++ [b]) tm ta tc ua uc).cells db) 110, arr 112 4 ta tc (Sx.mk sb (nameOf l.pre l.next.toNat) ((l.next.toNat : Nat) : Int) ([] ++ [b]) tm ta tc ua uc).rows, arr 3 1 ua uc (tm.flatMap icN)]) (.cons (.tail (.tail .head)) (.cons (.tail (.tail .head)) (.cons (.tail (.tail .head)) .nil))) ?_
  refine .close (X := bag (SG db) (l.roll sb b tm ta tc ua uc qa qc).segs) (.cons .head (.cons (.tail (.tail (.tail (.tail .head)))) .nil)) (fun h H => put_segs (ini := l.segs) (s := (l.roll sb b tm ta tc ua uc qa qc).cur) H) ?_
  refine .perm (.cons (.tail (.tail (.tail (.tail .head)))) (.cons .head (.cons .head (.cons .head (.cons .head (.cons .head (.cons .head .nil))))))) ?_
  refine .cast (X' := arr 54 1 qa qc ((l.roll sb b tm ta tc ua uc qa qc).segs.flatMap sp)) (by rw [segs_sp]; show _ = arr 54 1 qa qc (((l.segs ++ [_]).map fun s : Sx => s.b).flatMap spb); rw [List.map_append]; rfl) ?_
  refine .perm (.cons (.tail (.tail (.tail (.tail .head)))) (.cons .head (.cons .head (.cons .head (.cons .head (.cons .head (.cons .head .nil))))))) ?_
  refine .cast (X' := blk l.lb ((l.roll sb b tm ta tc ua uc qa qc).cells db) 57) (by rw [List.length_append, List.length_map]; rfl) ?_
  refine .pack (L := [blk l.lb ((l.roll sb b tm ta tc ua uc qa qc).cells db) 57, arr 54 1 qa qc ((l.roll sb b tm ta tc ua uc qa qc).segs.flatMap sp), bag (SG db) (l.roll sb b tm ta tc ua uc qa qc).segs]) (.cons .head (.cons .head (.cons .head .nil))) ?_
  refine .retP Tryz.func80 (.cons (.tmp rfl) .nil) (.cons .head (.cons .head (.cons .head (.cons (.tail .head) .nil)))) ?_
  exact ⟨[_, _, _], ⟨rfl, .inr ⟨hroll, sb, tm, ta, tc, ua, uc, qa, qc, hiy, hcb, rfl⟩⟩, rfl⟩
 ·
  refine .rd (.ldN ia34 ts34 rfl .head rfl) ?_
  refine .fn rfl rfl .nil (fun _ _ _ => trivial) (pend_ok b a c (by omega) (by omega) (by omega)) (fun v G1 hq => ?_)
  obtain ⟨rfl, rfl⟩ := hq
  simp only [List.nil_append]
  refine .rd (.gt rfl rfl) ?_
  refine .alter (t := 27) (v' := .bool false) rfl (congrArg Value.bool (decide_eq_false (by omega))) ?_
  refine .goR fds 5 ?_
  refine .draws [3, 8, 14, 19] [blk l.lb (l.cells db) 57] (by kernel_rfl) ?_
  refine .goD fds [0] ?_
  refine .goD fds [1] ?_
  refine .goD fds [2] ?_
  refine .rd 3 rfl rfl (by kernel_rfl) (by kernel_rfl) (by kernel_rfl) (.ld na39 rfl .head rfl) (.cons (.tail (.tail (.tail (.tail (.tail .head))))) .nil) ?_
  refine .goD fds [5] ?_
  refine .goD fds [6] ?_
  refine .goD fds [7] ?_
  refine .rd 8 rfl rfl (by kernel_rfl) (by kernel_rfl) (by kernel_rfl) (.ld na3 rfl .head rfl) (.cons (.tail (.tail (.tail (.tail (.tail .head))))) .nil) ?_
  refine .ef 4 (by kernel_rfl) rfl (.fn rfl rfl (.cons (.tail (.tail (.tail (.tail (.tail (.tail (.tail .head))))))) (.cons (.tail (.tail (.tail (.tail (.tail (.tail (.tail .head))))))) .nil)) ((Knows.blk (.tail .head)).and ((Knows.arr (.tail (.tail .head))).and (Knows.arr (.tail (.tail (.tail .head)))))) (Bytes_ok db mb d l.cur)) ?_
  rintro v _ ⟨G1, hq, rfl⟩
  obtain ⟨rfl, rfl⟩ := hq
  simp only [List.cons_append, List.nil_append]
  refine ⟨.inr ⟨_, (.cons (.tail (.tail (.tail (.tail (.tail (.tail (.tail .head))))))) .nil)⟩, ?_⟩
  refine .goD fds [9] ?_
  refine .alter (t := 37) (v' := .bool false) rfl (congrArg Value.bool (decide_eq_false hroll)) ?_
  refine .goD fds [10] ?_
  refine .goD fds [11] ?_
  refine .goD fds [12] ?_
  refine .goD fds [13] ?_
  refine .rdG 14 (t := 38) rfl rfl rfl rfl (by kernel_rfl) (by kernel_rfl) (by kernel_rfl) (.ld na39 rfl .head rfl) (.cons (.tail (.tail (.tail (.tail (.tail (.tail (.tail .head))))))) .nil) ?_
  refine .goD fds [16] ?_
  refine .goD fds [17] ?_
  refine .goD fds [18] ?_
  refine .rdG 19 (t := 38) rfl rfl rfl rfl (by kernel_rfl) (by kernel_rfl) (by kernel_rfl) (.ld na39 rfl .head rfl) (.cons (.tail (.tail (.tail (.tail (.tail (.tail (.tail .head))))))) .nil) ?_
  refine .efG 15 (t := 38) (by kernel_rfl) rfl rfl rfl (.fn rfl rfl .nil ((Knows.blk (.tail (.tail (.tail .head)))).and ((Knows.arr (.tail (.tail (.tail (.tail .head))))).and (Knows.arr (.tail (.tail (.tail (.tail (.tail .head)))))))) (Next_ok db l.cur hcok)) ?_
  rintro v _ ⟨G1, hq, rfl⟩
  obtain ⟨rfl, rfl⟩ := hq
  simp only [List.nil_append]
  refine ⟨.inr ⟨_, (.cons (.tail (.tail (.tail (.tail (.tail (.tail (.tail .head))))))) .nil)⟩, ?_⟩
  refine .efG 20 (t := 38) (by kernel_rfl) rfl rfl rfl (.fn rfl rfl .nil ((Knows.blk (.tail (.tail (.tail .head)))).and ((Knows.arr (.tail (.tail (.tail (.tail .head))))).and (Knows.arr (.tail (.tail (.tail (.tail (.tail .head)))))))) (Base_ok db l.cur)) ?_
  rintro v _ ⟨G1, hq, rfl⟩
  obtain ⟨rfl, rfl⟩ := hq
  simp only [List.nil_append]
  refine ⟨.inl (by kernel_rfl), ?_⟩
  refine .rpG 21 (t := 38) rfl rfl rfl (by kernel_rfl) (by kernel_rfl) (by kernel_rfl) (Reads.pure (.sub rfl rfl (by omega) (by omega))) ?_
  refine .goD fds [22] ?_
  refine .alter (t := 50) (v' := .bool false) rfl (congrArg Value.bool (decide_eq_false (by show ¬ _; have : l.next = l.cur.next := rfl; omega))) ?_
  refine .goD fds [23] ?_
  refine .goD fds [24] ?_
  refine .done (by kernel_rfl) ?_
  refine .seq ?_
  refine .draws [5, 10] [blk l.lb (l.cells db) 57] (by kernel_rfl) ?_
  refine .goD fds [0] ?_
  refine .goD fds [1, 2, 3, 4, 5, 6, 7, 8, 9, 10, 11, 12] ?_
  refine .goD fds [13] ?_
  refine .done (by kernel_rfl) ?_
  refine .go fds 3 ?_
  refine .draws [3, 4] [blk l.lb (l.cells db) 57, blk b3 (b.cells a c) 41] (by kernel_rfl) ?_
  refine .goD fds [0] ?_
  refine .goD fds [1] ?_
  refine .goD fds [2] ?_
  refine .rd 3 rfl rfl (by kernel_rfl) (by kernel_rfl) (by kernel_rfl) (.ld na39 rfl .head rfl) (.cons (.tail (.tail (.tail (.tail (.tail (.tail (.tail .head))))))) (.cons (.tail (.tail .head)) .nil)) ?_
  refine .rd 4 rfl rfl (by kernel_rfl) (by kernel_rfl) (by kernel_rfl) (.ldN ia34 ts34 rfl (.tail .head) rfl) (.cons (.tail (.tail (.tail (.tail (.tail (.tail (.tail .head))))))) (.cons (.tail (.tail .head)) .nil)) ?_
  refine .ef 5 (by kernel_rfl) rfl (.fn rfl rfl (.cons .head (.cons .head (.cons (.tail .head) (.cons (.tail .head) (.cons (.tail .head) .nil))))) ((Knows.pick (.tail (.tail (.tail (.tail .head)))) (k.mono fun _ h => h.2))) (SegApp_ok db mb d l.cur b a c hd hcok hb hbn hcl (by rw [hcn]; exact nameOf_named hl.pre (by have := hcok.base1; have := hcok.base0; omega)) hcx hcf hroom)) ?_
  rintro v _ ⟨G1, hq, rfl⟩
  obtain ⟨rfl, tm, ta, tc, ua, uc, hiy, hcb, rfl⟩ := hq
  simp only [List.cons_append, List.nil_append]
  refine ⟨.inl (by kernel_rfl), ?_⟩
  refine .goD fds [6] ?_
  refine .done (by kernel_rfl) ?_
  refine .pack (L := [blk (Sx.mk l.cur.b l.cur.nm l.cur.base (l.cur.bs ++ [b]) tm ta tc ua uc).b ((Sx.mk l.cur.b l.cur.nm l.cur.base (l.cur.bs ++ [b]) tm ta tc ua uc).cells db) 110, arr 112 4 ta tc (Sx.mk l.cur.b l.cur.nm l.cur.base (l.cur.bs ++ [b]) tm ta tc ua uc).rows, arr 3 1 ua uc (tm.flatMap icN)]) (.cons (.tail (.tail .head)) (.cons (.tail (.tail .head)) (.cons (.tail (.tail .head)) .nil))) ?_
  refine .close (X := bag (SG db) (l.grow b tm ta tc ua uc).segs) (.cons .head (.cons (.tail (.tail (.tail .head))) .nil)) (fun h H => put_segs (ini := l.ini) (s := (l.grow b tm ta tc ua uc).cur) H) ?_
  refine .perm (.cons (.tail (.tail (.tail (.tail (.tail .head))))) (.cons .head (.cons .head (.cons .head (.cons .head (.cons .head (.cons .head .nil))))))) ?_
  refine .cast (X' := arr 54 1 l.la l.lc ((l.grow b tm ta tc ua uc).segs.flatMap sp)) (by rw [grow_sp]) ?_
  refine .perm (.cons (.tail (.tail (.tail (.tail (.tail .head))))) (.cons .head (.cons .head (.cons .head (.cons .head (.cons .head (.cons .head .nil))))))) ?_
  refine .cast (X' := blk l.lb ((l.grow b tm ta tc ua uc).cells db) 57) (rfl) ?_
  refine .pack (L := [blk l.lb ((l.grow b tm ta tc ua uc).cells db) 57, arr 54 1 l.la l.lc ((l.grow b tm ta tc ua uc).segs.flatMap sp), bag (SG db) (l.grow b tm ta tc ua uc).segs]) (.cons .head (.cons .head (.cons .head .nil))) ?_
  refine .retP Tryz.func80 (.cons (.tmp rfl) .nil) (.cons .head (.cons .head (.cons .head (.cons (.tail .head) .nil)))) ?_
  exact ⟨[_, _, _], ⟨rfl, .inl ⟨hroll, tm, ta, tc, ua, uc, hiy, hcb, rfl⟩⟩, rfl⟩
end Go.Proofs.YtoglbebcdjdkiaaGreatDoor
namespace Go.Proofs.YtoglbebcdjdkiaaGreatDoor
open Go Go.Sp
set_option linter.unusedVariables false
namespace log8
theorem na39 : NotAgg Tryz.prog 54 := ⟨_, Tryz.underlying54, trivial⟩
theorem fd34_0 : FD Tryz.prog 41 0 0 := .of Tryz.underlying41 (by kernel_rfl)
theorem ts3 : TS Tryz.prog 3 1 := .of (by kernel_rfl)
theorem ia34 : IsAgg Tryz.prog 41 := ⟨_, Tryz.underlying41, trivial⟩
theorem ts34 : TS Tryz.prog 41 6 := .of (by kernel_rfl)
theorem na3 : NotAgg Tryz.prog 3 := ⟨_, Tryz.underlying3, trivial⟩
end log8
open log8
def TakeTo (db mb : Nat) (d : Dk) (l : Lx) (b : Bat) (G : List SProp) : Prop := (¬ l.most ≤ ((d.file l.cur.nm).b.length : Int) ∧ ∃ sm aa ac ia ic, Ix sm (l.cur.bs.length + 1) ∧ l.cur.bs.length + 1 ≤ ac ∧ G = [LG db (l.grow b sm aa ac ia ic), blk db ((d.put l.cur.nm ⟨(d.file l.cur.nm).b ++ enc b, (d.file l.cur.nm).safe⟩).cells mb) 74, mp nmv Fl.val mb (d.put l.cur.nm ⟨(d.file l.cur.nm).b ++ enc b, (d.file l.cur.nm).safe⟩).fs]) ∨ (l.most ≤ ((d.file l.cur.nm).b.length : Int) ∧ ∃ sb sm aa ac ia ic qa qc, Ix sm 1 ∧ 1 ≤ ac ∧ G = [LG db (l.roll sb b sm aa ac ia ic qa qc), blk db ((((d.put l.cur.nm ⟨(d.file l.cur.nm).b, (d.file l.cur.nm).b.length⟩).put (nameOf l.pre l.next.toNat) ⟨flat [], (flat []).length⟩).put (nameOf l.pre l.next.toNat) ⟨(((d.put l.cur.nm ⟨(d.file l.cur.nm).b, (d.file l.cur.nm).b.length⟩).put (nameOf l.pre l.next.toNat) ⟨flat [], (flat []).length⟩).file (nameOf l.pre l.next.toNat)).b ++ enc b, (((d.put l.cur.nm ⟨(d.file l.cur.nm).b, (d.file l.cur.nm).b.length⟩).put (nameOf l.pre l.next.toNat) ⟨flat [], (flat []).length⟩).file (nameOf l.pre l.next.toNat)).safe⟩).cells mb) 74, mp nmv Fl.val mb (((d.put l.cur.nm ⟨(d.file l.cur.nm).b, (d.file l.cur.nm).b.length⟩).put (nameOf l.pre l.next.toNat) ⟨flat [], (flat []).length⟩).put (nameOf l.pre l.next.toNat) ⟨(((d.put l.cur.nm ⟨(d.file l.cur.nm).b, (d.file l.cur.nm).b.length⟩).put (nameOf l.pre l.next.toNat) ⟨flat [], (flat []).length⟩).file (nameOf l.pre l.next.toNat)).b ++ enc b, (((d.put l.cur.nm ⟨(d.file l.cur.nm).b, (d.file l.cur.nm).b.length⟩).put (nameOf l.pre l.next.toNat) ⟨flat [], (flat []).length⟩).file (nameOf l.pre l.next.toNat)).safe⟩).fs])
end Go.Proofs.YtoglbebcdjdkiaaGreatDoor
/- Chapter 6: what Append leaves, in plain Lean. -/
namespace Go.Proofs.YtoglbebcdjdkiaaGreatDoor
open Go Go.Sp
def sb (n : Nat) (u : Int) : Bat := { smallB n with base := u }
theorem sb_recs (n : Nat) (u : Int) : (sb n u).recs.length = n := List.length_replicate ..
theorem sb_en (n : Nat) (u : Int) : (sb n u).en = u + n := by unfold Bat.en; rw [sb_recs]; rfl
theorem sb_mem {n : Nat} {u : Int} {r : Rec} (h : r ∈ (sb n u).recs) : r = vrec := List.eq_of_mem_replicate h
theorem sb_fits {n : Nat} {u : Int} (hn : n ≤ 64) (h0 : 0 ≤ u) (h1 : u ≤ 1000000000) : (sb n u).fits := by
 refine ⟨⟨by show _ ≤ u; omega, by show u ≤ _; omega⟩, ⟨by show _ ≤ (1 : Int); decide, by show (1 : Int) ≤ _; decide⟩, ⟨by show _ ≤ (0 : Int); decide, by show (0 : Int) ≤ _; decide⟩, ⟨by show _ ≤ (0 : Int); decide, by show (0 : Int) ≤ _; decide⟩, ⟨by show _ ≤ (0 : Int); decide, by show (0 : Int) ≤ _; decide⟩, fun r hr => ?_, fun r hr => ?_, fun r hr => ?_, by rw [sb_recs]; omega⟩
 ·
  rw [sb_mem hr]; exact ⟨by decide, by decide⟩
 ·
  rw [sb_mem hr]; decide
 ·
  rw [sb_mem hr]; decide
theorem vbody : (recBody vrec).length = 8 := by
 unfold recBody vrec eint
 rw [show zig 0 = 0 from rfl, show zig ((([] : List UInt8).length : Nat) : Int) = 0 from rfl, show zig ((([118, 97, 108, 117, 101] : List UInt8).length : Nat) : Int) = 10 from rfl, vint_small (by decide), vint_small (by decide)]
 rfl
theorem sb_body {n : Nat} {u : Int} (hn : n ≤ 64) (h0 : 0 ≤ u) (h1 : u ≤ 1000000000) : (body (sb n u)).length ≤ 60 + n * 8 := by
 have h2 := six_len (sb_fits hn h0 h1) 6
 rw [show (six (sb n u)).take 6 = six (sb n u) from rfl] at h2
 have h3 := flat_le (f := recBody) (k := 8) (sb n u).recs fun r hr => by rw [sb_mem hr, vbody]; exact Nat.le_refl _
 rw [sb_recs] at h3
 rw [body_six, List.length_append]; omega
theorem sb_right {n : Nat} {u : Int} (h1n : 1 ≤ n) (hn : n ≤ 64) (h0 : 0 ≤ u) (h1 : u ≤ 100000000) : right (sb n u) = 0 := by
 have hb := sb_body hn h0 (show u ≤ 1000000000 by omega)
 rw [right_on (b := sb n u) _ (fun r hr => by rw [sb_mem hr]; exact ⟨by decide, by decide⟩), if_neg (by rw [sb_recs]; omega), if_neg, if_neg, if_neg (by omega)]
 ·
  rw [sb_recs]; show ¬ (_ < u ∨ _ < (0 : Int)); omega
 ·
  intro h
  obtain ⟨r, hr, h2⟩ := List.any_eq_true.1 h
  rw [sb_mem hr] at h2; exact absurd h2 (by decide)
 ·
  unfold Bat.off
  rw [sb_recs]
  show ¬ (u < 0 ∨ ¬ ((0 : Int) ≤ 1 ∧ (1 : Int) ≤ 1000000000) ∨ ¬ ((0 : Int) ≤ 0 ∧ (0 : Int) ≤ 1000000000) ∨ ¬ ((0 : Int) ≤ 0 ∧ (0 : Int) ≤ 1000000000) ∨ ¬ ((0 : Int) ≤ 0 ∧ (0 : Int) ≤ 1000000000) ∨ ((0 : Int) = 0 ∧ ((0 : Int) ≠ 0 ∨ (0 : Int) ≠ 0)) ∨ n = 0)
  omega
theorem sb_good {n : Nat} {u : Int} (h1n : 1 ≤ n) (hn : n ≤ 64) (h0 : 0 ≤ u) (h1 : u ≤ 100000000) : (sb n u).good := ⟨sb_right h1n hn h0 h1, sb_fits hn h0 (by omega), by rw [sb_en]; omega⟩
theorem sb_enc {n : Nat} {u : Int} (h1n : 1 ≤ n) (hn : n ≤ 64) (h0 : 0 ≤ u) (h1 : u ≤ 100000000) : (enc (sb n u)).length ≤ 68 + n * 8 := by
 rw [(sb_good h1n hn h0 h1).enc_len]; have := sb_body hn h0 (show u ≤ 1000000000 by omega); omega
structure AppTo (l : Lx) (d : Dk) (b : Bat) (l' : Lx) (d' : Dk) : Prop where
 ok : l'.ok d'
 dok : d'.ok
 lb : l'.lb = l.lb
 pre : l'.pre = l.pre
 most : l'.most = l.most
 start : l'.start = l.start
 high : l'.high = l.high
 all : l'.all = l.all ++ [b]
 base : baseOf l' = baseOf l
 next : l'.next = b.en
 size : d'.size = d.size
 used : d'.used = d.used + (enc b).length
 len : d'.fs.length ≤ d.fs.length + 1
 own : Own l' d'
 full : Full l d → Full l' d'
 far : ∀ n, (∀ u, u ≤ 1000000000 → n ≠ nameOf l.pre u) → d'.file n = d.file n ∧ d'.get n = d.get n
 how : (¬ l.most ≤ ((d.file l.cur.nm).b.length : Int) ∧ l'.ini = l.ini ∧ l'.cur.bs = l.cur.bs ++ [b] ∧ l'.cur.base = l.cur.base ∧ l'.cur.nm = l.cur.nm ∧ (d'.file l'.cur.nm).safe = (d.file l.cur.nm).safe) ∨ (l.most ≤ ((d.file l.cur.nm).b.length : Int) ∧ l'.ini = l.segs ∧ l'.cur.bs = [b] ∧ l'.cur.base = l.next ∧ (d'.file l'.cur.nm).safe = 0)
theorem cur_short {l : Lx} {d : Dk} (h : l.ok d) : (l.cur.bs.length : Int) ≤ l.next - l.cur.base := by
 have key : ∀ (bs : List Bat) (n : Int), Chain n bs → (∀ b ∈ bs, b.good) → (bs.length : Int) ≤ nextOf n bs - n := by
  intro bs
  induction bs with
  | nil => intro n _ _; show (0 : Int) ≤ n - n; omega
  | cons b bs ih =>
   intro n hc hg
   have h1 := ih b.en hc.2 fun x hx => hg x (.tail _ hx)
   have h2 := (hg b (.head _)).lt
   have h3 : b.base = n := hc.1
   rw [List.length_cons]
   show ((bs.length + 1 : Nat) : Int) ≤ nextOf b.en bs - n
   omega
 exact key _ _ h.cur.1.chain h.cur.1.good
theorem new_free {l : Lx} {d : Dk} (hl : l.ok d) (ho : Own l d) (f : Fl) (hf : f.b = (d.file l.cur.nm).b) : ((d.put l.cur.nm f).file (nameOf l.pre l.next.toNat)).b = [] := by
 obtain ⟨h1, h2, h3, h4⟩ := hl.cur
 have hb0 := h1.base0
 have hge := h1.next_ge
 have hle := h1.next_le
 have hnn : l.next = l.cur.next := rfl
 have hcase : ∀ s ∈ l.segs, s.base.toNat = l.next.toNat → l.cur.bs = [] := fun s hs e => by
  rcases List.mem_append.1 hs with hs | hs
  ·
   have := hl.lt.2 s hs; have := (hl.ini s hs).1.base0; omega
  ·
   rw [List.mem_singleton.1 hs] at e
   by_cases hne : l.cur.bs = []
   ·
    exact hne
   ·
    have := base_lt h1 hne; omega
 by_cases hn : nameOf l.pre l.next.toNat = l.cur.nm
 ·
  rw [hn, Dk.file_put, hf, h4]
  rw [h2] at hn
  rw [hcase l.cur l.cur_in (nameOf_inj hn).symm]; rfl
 ·
  rw [(Dk.file_put_ne _ _ hn).1]
  cases hg : (d.get (nameOf l.pre l.next.toNat)).isSome with
  | false => rw [Dk.file_none hg]; rfl
  | true =>
   obtain ⟨s, hs, e⟩ := ho _ (by omega) hg
   rw [← e, ← (hl.seg s hs).2.1, (hl.seg s hs).2.2.2]
   have hc := hcase s hs e
   rcases List.mem_append.1 hs with hi | hi
   ·
    have := hl.lt.2 s hi; have := (hl.ini s hi).1.base0; omega
   ·
    rw [List.mem_singleton.1 hi, hc]; rfl
theorem AppTo.of {db mb : Nat} {d : Dk} {l : Lx} {b : Bat} {G : List SProp} (hd : d.ok) (hl : l.ok d) (ho : Own l d) (hb : b.good) (hn : b.base = l.next) (hcl : l.cur.bs.length < 4096) (hlen : l.segs.length < 100000) (hroom : d.used + (enc b).length ≤ d.size) (h : TakeTo db mb d l b G) : ∃ l' d', AppTo l d b l' d' ∧ G = [LG db l', blk db (d'.cells mb) 74, mp nmv Fl.val mb d'.fs] := by
 obtain ⟨c1, c2, c3, c4⟩ := hl.cur
 have hsf := Dk.file_safe hd l.cur.nm
 have hle := c1.next_le
 have hge := c1.next_ge
 have hb0 := c1.base0
 have hnn : l.next = l.cur.next := rfl
 rcases h with ⟨hm, sm, aa, ac, ia, ic, hix, hca, rfl⟩ | ⟨hm, sb, sm, aa, ac, ia, ic, qa, qc, hix, hca, rfl⟩
 ·
  refine ⟨l.grow b sm aa ac ia ic, d.put l.cur.nm ⟨(d.file l.cur.nm).b ++ enc b, (d.file l.cur.nm).safe⟩, ?_, rfl⟩
  have hu := Dk.used_put hd l.cur.nm ⟨(d.file l.cur.nm).b ++ enc b, (d.file l.cur.nm).safe⟩
  dsimp only at hu
  rw [List.length_append] at hu
  refine ⟨grow_ok hl hb hn hcl hix hca, Dk.ok_put hd (by dsimp only; rw [List.length_append]; omega) (by dsimp only; rw [List.length_append]; omega), rfl, rfl, rfl, rfl, rfl, grow_all .., grow_base .., grow_next .., rfl, by omega, mset_len_le _ _ _, fun u hu hg => ?_, fun hf s hs => ?_, fun n hn => Dk.file_put_ne _ _ fun e => hn l.cur.base.toNat (by omega) (e.trans c2), .inl ⟨hm, rfl, rfl, rfl, rfl, by show ((d.put l.cur.nm _).file l.cur.nm).safe = _; rw [Dk.file_put]⟩⟩
  ·
   have hg' : (d.get (nameOf l.pre u)).isSome = true := by
    by_cases hx : nameOf l.pre u = l.cur.nm
    ·
     rw [hx]; exact c3
    ·
     rw [← (Dk.file_put_ne d _ hx).2]; exact hg
   obtain ⟨s, hs, e⟩ := ho u hu hg'
   rcases List.mem_append.1 hs with hs | hs
   ·
    exact ⟨s, List.mem_append_left _ hs, e⟩
   ·
    rw [List.mem_singleton.1 hs] at e
    exact ⟨_, List.mem_append_right _ (.head _), e⟩
  ·
   rw [(Dk.file_put_ne d _ (hl.nm_ne hs)).1]; exact hf s hs
 ·
  generalize hf1 : (⟨(d.file l.cur.nm).b, (d.file l.cur.nm).b.length⟩ : Fl) = f1
  have hd1 : (d.put l.cur.nm f1).ok := by rw [← hf1]; exact Dk.ok_put hd (by dsimp only; have := hd.used; omega) (Nat.le_refl _)
  have hb1 : f1.b = (d.file l.cur.nm).b := by rw [← hf1]
  have hu1 := Dk.used_put hd l.cur.nm f1
  rw [hb1] at hu1
  have hfree := new_free hl ho f1 hb1
  have hu2 := Dk.used_put hd1 (nameOf l.pre l.next.toNat) ⟨flat [], (flat []).length⟩
  rw [hfree, List.length_nil] at hu2
  have hd2 : ((d.put l.cur.nm f1).put (nameOf l.pre l.next.toNat) ⟨flat [], (flat []).length⟩).ok := Dk.ok_put hd1 (by have := hd1.used; show _ + 0 ≤ _; omega) (Nat.le_refl _)
  generalize hdd : (d.put l.cur.nm f1).put (nameOf l.pre l.next.toNat) ⟨flat [], (flat []).length⟩ = d2 at *
  have hf2 : d2.file (nameOf l.pre l.next.toNat) = ⟨flat [], (flat []).length⟩ := by rw [← hdd, Dk.file_put]
  have hs2 : d2.size = d.size := by rw [← hdd]; rfl
  rw [hf2]
  have hu3 := Dk.used_put hd2 (nameOf l.pre l.next.toNat) ⟨flat [] ++ enc b, (flat []).length⟩
  rw [hf2] at hu3
  have hz : (flat []).length = 0 := rfl
  dsimp only at hu3 hu2
  rw [List.length_append] at hu3
  have hnew : ∀ s ∈ l.segs, s.nm ≠ nameOf l.pre l.next.toNat := fun s hs e => by
   have hne : l.cur.bs ≠ [] := fun e => by rw [c4, e] at hm; have := hl.most; omega
   have hgt := base_lt c1 hne
   obtain ⟨k1, k2, _, _⟩ := hl.seg s hs
   rw [k2] at e
   have := nameOf_inj e
   have := k1.base0
   rcases List.mem_append.1 hs with hs | hs
   ·
    have := hl.lt.2 s hs; omega
   ·
    have hsc := List.mem_singleton.1 hs; subst hsc; omega
  have far : ∀ n, n ≠ nameOf l.pre l.next.toNat → (d2.put (nameOf l.pre l.next.toNat) ⟨flat [] ++ enc b, (flat []).length⟩).file n = (d.put l.cur.nm f1).file n ∧ (d2.put (nameOf l.pre l.next.toNat) ⟨flat [] ++ enc b, (flat []).length⟩).get n = (d.put l.cur.nm f1).get n := fun n hne => by
   obtain ⟨a1, a2⟩ := Dk.file_put_ne d2 ⟨flat [] ++ enc b, (flat []).length⟩ hne
   obtain ⟨b1, b2⟩ := Dk.file_put_ne (d.put l.cur.nm f1) ⟨flat [], (flat []).length⟩ hne
   rw [hdd] at b1 b2
   exact ⟨a1.trans b1, a2.trans b2⟩
  refine ⟨l.roll sb b sm aa ac ia ic qa qc, d2.put (nameOf l.pre l.next.toNat) ⟨flat [] ++ enc b, (flat []).length⟩, ?_, rfl⟩
  refine ⟨roll_ok hl hb hn hm hlen hix hca rfl hdd.symm rfl hb1 rfl, Dk.ok_put hd2 (by dsimp only; rw [List.length_append, hs2]; omega) (Nat.zero_le _), rfl, rfl, rfl, rfl, rfl, roll_all .., roll_base .., roll_next .., hs2, by omega, ?_, fun u hu hg => ?_, fun hf s hs => ?_, fun n hn => ?_, .inr ⟨hm, rfl, rfl, by show ((l.next.toNat : Nat) : Int) = l.next; omega, by show ((d2.put _ _).file (nameOf l.pre l.next.toNat)).safe = 0; rw [Dk.file_put]; rfl⟩⟩
  ·
   have e1 : (d2.put (nameOf l.pre l.next.toNat) ⟨flat [] ++ enc b, (flat []).length⟩).fs.length = d2.fs.length := mset_len_in (by rw [← hdd]; exact Dk.some_put _ _ _)
   have e2 : (d.put l.cur.nm f1).fs.length = d.fs.length := mset_len_in c3
   have e3 : d2.fs.length ≤ (d.put l.cur.nm f1).fs.length + 1 := by rw [← hdd]; exact mset_len_le _ _ _
   omega
  ·
   by_cases hx : nameOf l.pre u = nameOf l.pre l.next.toNat
   ·
    refine ⟨(l.roll sb b sm aa ac ia ic qa qc).cur, (l.roll sb b sm aa ac ia ic qa qc).cur_in, ?_⟩
    show ((l.next.toNat : Nat) : Int).toNat = u
    rw [Int.toNat_natCast]; exact (nameOf_inj hx).symm
   ·
    have hg1 : ((d.put l.cur.nm f1).get (nameOf l.pre u)).isSome = true := by rw [← (far _ hx).2]; exact hg
    have hg' : (d.get (nameOf l.pre u)).isSome = true := by
     by_cases hy : nameOf l.pre u = l.cur.nm
     ·
      rw [hy]; exact c3
     ·
      rw [← (Dk.file_put_ne d f1 hy).2]; exact hg1
    obtain ⟨s, hs, e⟩ := ho u hu hg'
    exact ⟨s, List.mem_append_left _ hs, e⟩
  ·
   rw [(far s.nm (hnew s hs)).1]
   rcases List.mem_append.1 hs with hi | hi
   ·
    rw [(Dk.file_put_ne d f1 (hl.nm_ne hi)).1]; exact hf s hi
   ·
    rw [List.mem_singleton.1 hi, Dk.file_put, ← hf1]
  ·
   obtain ⟨a1, a2⟩ := far n (hn _ (by omega))
   obtain ⟨b1, b2⟩ := Dk.file_put_ne d f1 (show n ≠ l.cur.nm from fun e => hn l.cur.base.toNat (by omega) (e.trans c2))
   exact ⟨a1.trans b1, a2.trans b2⟩
theorem Take_ok7 (db mb : Nat) (d : Dk) (l : Lx) (b : Bat) (a : Option Addr) (c : Nat) (hd : d.ok) (hl : l.ok d) (ho : Own l d) (hb : b.good) (hbn : b.base = l.next) (hn : l.next < 4096) (hroom : d.used + (enc b).length ≤ d.size) (hfs : d.fs.length < 255) (hlen : l.segs.length < 100000) : Cn Tryz.prog 80 [.pointer (some ⟨l.lb, 0, none⟩), .agg (b.cells a c).toArray] (fun w => LV w ∧ RowAt a (b.recs.flatMap Rec.cells) w) [LG db l, blk db (d.cells mb) 74, mp nmv Fl.val mb d.fs] fun v G => ∃ l' d', v = .int .i64 0 ∧ AppTo l d b l' d' ∧ G = [LG db l', blk db (d'.cells mb) 74, mp nmv Fl.val mb d'.fs] := by
 have hcs := cur_short hl
 have hb0 := hl.cur.1.base0
 refine (Take_ok db mb d l b a c hd hl hb hbn (by omega) (by omega) hroom hfs (new_free hl ho _ rfl) ?_).mono fun v G h => ?_
 ·
  have : (d.put l.cur.nm ⟨(d.file l.cur.nm).b, (d.file l.cur.nm).b.length⟩).fs.length = d.fs.length := mset_len_in hl.cur.2.2.1
  omega
 ·
  obtain ⟨hv, h⟩ := h
  obtain ⟨l', d', h1, h2⟩ := AppTo.of hd hl ho hb hbn (by omega) hlen hroom h
  exact ⟨l', d', hv, h1, h2⟩
end Go.Proofs.YtoglbebcdjdkiaaGreatDoor
namespace Go.Proofs.YtoglbebcdjdkiaaGreatDoor
open Go Go.Sp
set_option linter.unusedVariables false
namespace seg4
theorem na3 : NotAgg Tryz.prog 3 := ⟨_, Tryz.underlying3, trivial⟩
theorem na39 : NotAgg Tryz.prog 54 := ⟨_, Tryz.underlying54, trivial⟩
theorem na24 : NotAgg Tryz.prog 24 := ⟨_, Tryz.underlying24, trivial⟩
theorem na9 : NotAgg Tryz.prog 9 := ⟨_, Tryz.underlying9, trivial⟩
theorem na22 : NotAgg Tryz.prog 31 := ⟨_, Tryz.underlying31, trivial⟩
theorem na67 : NotAgg Tryz.prog 108 := ⟨_, Tryz.underlying108, trivial⟩
theorem ts3 : TS Tryz.prog 3 1 := .of (by kernel_rfl)
theorem ts71 : TS Tryz.prog 112 4 := .of (by kernel_rfl)
theorem ia71 : IsAgg Tryz.prog 112 := ⟨_, Tryz.underlying112, trivial⟩
theorem ti71 : TI Tryz.prog 112 4 32 (.agg #[.int .i64 0, .int .i64 0, .int .i64 0, .int .i64 0]) := .of (by kernel_rfl)
theorem fd71_3 : FD Tryz.prog 112 3 3 := .of Tryz.underlying112 (by kernel_rfl)
theorem fd71_2 : FD Tryz.prog 112 2 2 := .of Tryz.underlying112 (by kernel_rfl)
theorem ti34 : TI Tryz.prog 41 6 64 (.agg #[.int .i64 0, .int .i64 0, .int .i64 0, .int .i64 0, .int .i64 0, .slice none 0 0]) := .of (by kernel_rfl)
theorem ts34 : TS Tryz.prog 41 6 := .of (by kernel_rfl)
theorem ia34 : IsAgg Tryz.prog 41 := ⟨_, Tryz.underlying41, trivial⟩
end seg4
open seg4
def pR (s : Sx) (off : Int) (i : Nat) : Bool := decide (off < ((s.bs[s.sm.getD i 0]?).map (·.base)).getD 0)
theorem pR_at {s : Sx} {off : Int} {i j : Nat} {b : Bat} (hj : s.sm[i]? = some j) (hb : s.bs[j]? = some b) : pR s off i = decide (off < b.base) := by
 unfold pR; rw [List.getD_eq_getElem?_getD, hj]; show decide (off < ((s.bs[j]?).map (·.base)).getD 0) = _; rw [hb]; rfl
theorem Sx.ixat {s : Sx} (h : s.ok) {i : Nat} (hi : i < s.sm.length) : ∃ j b, s.sm[i]? = some j ∧ s.bs[j]? = some b := by
 have hl := h.ix.lt s.sm[i] (List.getElem_mem hi)
 exact ⟨_, _, List.getElem?_eq_getElem hi, List.getElem?_eq_getElem hl⟩
theorem pR_mono {s : Sx} (h : s.ok) {off : Int} (a b : Nat) (hab : a ≤ b) (hb : b < s.sm.length) (hp : pR s off a = true) : pR s off b = true := by
 obtain ⟨j, x, h1, h2⟩ := Sx.ixat h (i := a) (by omega)
 obtain ⟨j', y, h3, h4⟩ := Sx.ixat h hb
 rw [pR_at h1 h2] at hp; rw [pR_at h3 h4]
 have hj : j ≤ j' := by
  rcases Nat.lt_or_eq_of_le hab with hlt | rfl
  ·
   have := List.pairwise_iff_getElem.1 h.ix.up a b (by omega) hb hlt
   rw [List.getElem?_eq_getElem (by omega)] at h1 h3
   cases h1; cases h3; omega
  ·
   rw [h1] at h3; cases h3; exact Nat.le_refl _
 have := Sx.base_mono h h2 h4 hj
 exact decide_eq_true (by have := of_decide_eq_true hp; omega)
theorem read1 {db bx by' : Nat} {s : Sx} {z : Int} (h : s.ok) (i : Nat) (hi : i < s.sm.length) : Cn Tryz.prog 84 [.int .i64 (i : Nat), .pointer (some ⟨bx, 0, none⟩), .pointer (some ⟨by', 0, none⟩)] (fun w => CellsAt bx 0 [.pointer (some ⟨s.b, 0, none⟩)] w ∧ CellsAt by' 0 [.int .i64 z] w ∧ SegAt db s w) [] fun v G => v = .bool (pR s z i) ∧ G = [] := by
 obtain ⟨j, b, h1, h2⟩ := Sx.ixat h hi
 rw [pR_at h1 h2]
 exact Read1_ok db bx by' i j s z b h (by have := Sx.sm_le h; have := h.len; omega) h1 h2
theorem none_left {s : Sx} (h : s.ok) {off most : Int} (h0 : s.base ≤ off) (hp : ∀ q, 0 ≤ q → q < s.sm.length → pR s off q = true) : goR off most 0 [] s.bs = [] := by
 by_cases hn : 0 < s.bs.length
 ·
  have h1 := h.ix.zero hn
  have h2 := List.getElem?_eq_some_iff.1 h1
  have h3 := hp 0 (Nat.le_refl _) h2.1
  obtain ⟨b, hb⟩ : ∃ b, s.bs[0]? = some b := ⟨_, List.getElem?_eq_getElem hn⟩
  rw [pR_at h1 hb] at h3
  have h4 := Sx.base_at h hb
  have h5 : nextOf s.base (s.bs.take 0) = s.base := rfl
  have := of_decide_eq_true h3; omega
 ·
  have : s.bs = [] := List.eq_nil_of_length_eq_zero (by omega)
  rw [this]; rfl
theorem read_back {b : Bat} (hb : b.good) (a : Option Addr) (c : Nat) : Value.tuple #[.agg ((readBatch (enc b)).1.cells a c).toArray, .int .i64 (readBatch (enc b)).2.1, .int .i64 (readBatch (enc b)).2.2] = .tuple #[.agg (b.cells a c).toArray, .int .i64 ((enc b).length : Int), .int .i64 0] := by
 have := read_write hb.fits hb.right []
 rw [List.append_nil] at this
 unfold enc; rw [this]
theorem read_recs {b : Bat} (hb : b.good) : (readBatch (enc b)).1.recs = b.recs := by
 have := read_write hb.fits hb.right []
 rw [List.append_nil] at this
 unfold enc; rw [this]
set_option maxHeartbeats 1000000 in
set_option maxRecDepth 20000 in
theorem SegRead_ok (db mb : Nat) (d : Dk) (s : Sx) (off most : Int) (hs : s.ok) (hx : (d.get s.nm).isSome = true) (hf : (d.file s.nm).b = flat s.bs) (ho : i64 off) : Cn Tryz.prog 47 [.pointer (some ⟨s.b, 0, none⟩), .int .i64 off, .int .i64 most] (SegAt db s) [blk db (d.cells mb) 74, mp nmv Fl.val mb d.fs] fun v G => ∃ (bl : List BatM) (ra : Option Addr) (rc : Nat), bl.map (·.1) = segRead s off most ∧ v = .slice ra bl.length rc ∧ G = [blk db (d.cells mb) 74, mp nmv Fl.val mb d.fs, arr 41 6 ra rc (bl.flatMap bmc), know (Bal bl)] := by
 refine .enter Tryz.func47 rfl (by kernel_rfl) rfl fun R k => ?_
 have hl := hs.len
 have hsl := Sx.sm_le hs
 have hcap := hs.cap
 have hfl := hs.flat_len
 have hb0 := hs.base0
 obtain ⟨ho1, ho2⟩ := ho
 refine .goO fds 2 ?_
 refine .ef (.box (l := [.pointer (some ⟨s.b, 0, none⟩)]) rfl rfl (ones.of rfl)) ?_
 rintro _ _ ⟨b3, rfl, rfl⟩
 refine .ef (.box (l := [.int .i64 off]) rfl rfl (ones.of rfl)) ?_
 rintro _ _ ⟨b4, rfl, rfl⟩
 refine .goR fds 4 ?_
 refine .draws [0, 1, 4] [blk b3 [.pointer (some ⟨s.b, 0, none⟩)] 54, blk b4 [.int .i64 off] 3, R] (by kernel_rfl) ?_
 refine .rd 0 rfl rfl (by kernel_rfl) (by kernel_rfl) (by kernel_rfl) (.ld na3 rfl (.tail .head) rfl) (.cons (.tail .head) (.cons .head (.cons (.tail (.tail .head)) .nil))) ?_
 refine .rd 1 rfl rfl (by kernel_rfl) (by kernel_rfl) (by kernel_rfl) (.ld na39 rfl .head rfl) (.cons (.tail .head) (.cons .head (.cons (.tail (.tail .head)) .nil))) ?_
 refine .goD fds [2] ?_
 refine .goD fds [3] ?_
 refine .rd 4 rfl rfl (by kernel_rfl) (by kernel_rfl) (by kernel_rfl) (.load na3 rfl (Knows.one (i := 2) (Knows.pick (.tail (.tail .head)) (k.mono fun _ h => h.1)) rfl)) (.cons (.tail .head) (.cons .head (.cons (.tail (.tail .head)) .nil))) ?_
 refine .goD fds [5] ?_
 refine .done (by kernel_rfl) ?_
 refine .condP rfl (fun c1 => ?_) (fun c1 => ?_)
 ·
  refine .go fds 4 ?_
  refine .nilArr 41 6 none ?_
  refine .knowT (Bal []) (Bal.nil) ?_
  refine .retP Tryz.func47 (.cons (.tmp rfl) .nil) (.cons (.tail (.tail (.tail (.tail .head)))) (.cons (.tail (.tail (.tail (.tail .head)))) (.cons (.tail .head) (.cons .head (.cons (.tail (.tail .head)) .nil))))) ?_
  exact ⟨[_, _, _, _], ⟨[], none, 0, (if_pos c1).symm, rfl, rfl⟩, rfl⟩
 ·
  refine .go fds 2 ?_
  refine .draws [0, 3, 4, 7] [blk b3 [.pointer (some ⟨s.b, 0, none⟩)] 54, R] (by kernel_rfl) ?_
  refine .rd 0 rfl rfl (by kernel_rfl) (by kernel_rfl) (by kernel_rfl) (.ld na39 rfl .head rfl) (.cons (.tail .head) (.cons (.tail (.tail (.tail .head))) .nil)) ?_
  refine .goD fds [1] ?_
  refine .goD fds [2] ?_
  refine .rd 3 rfl rfl (by kernel_rfl) (by kernel_rfl) (by kernel_rfl) (.load na24 rfl (Knows.one (i := 0) (Knows.pick (.tail .head) (k.mono fun _ h => h.1)) rfl)) (.cons (.tail .head) (.cons (.tail (.tail (.tail .head))) .nil)) ?_
  refine .rd 4 rfl rfl (by kernel_rfl) (by kernel_rfl) (by kernel_rfl) (.ld na39 rfl .head rfl) (.cons (.tail .head) (.cons (.tail (.tail (.tail .head))) .nil)) ?_
  refine .goD fds [5] ?_
  refine .goD fds [6] ?_
  refine .rd 7 rfl rfl (by kernel_rfl) (by kernel_rfl) (by kernel_rfl) (.load na9 rfl (Knows.one (i := 1) (Knows.pick (.tail .head) (k.mono fun _ h => h.1)) rfl)) (.cons (.tail .head) (.cons (.tail (.tail (.tail .head))) .nil)) ?_
  refine .ef 8 (by kernel_rfl) rfl (.fn rfl rfl (.cons (.tail (.tail .head)) (.cons (.tail (.tail .head)) .nil)) (fun _ _ _ => trivial) (Read_ok db mb d s.nm)) ?_
  rintro v _ ⟨G1, hq, rfl⟩
  obtain ⟨rfl, rfl⟩ := hq
  simp only [List.cons_append, List.nil_append]
  refine ⟨.inl (by kernel_rfl), ?_⟩
  refine .alter (t := 32) (v' := .tuple #[.string (str (flat s.bs)), .int .i64 0]) rfl (by rw [hf, if_pos hx]) ?_
  refine .goD fds [9] ?_
  refine .goD fds [10] ?_
  refine .goD fds [11] ?_
  refine .goD fds [12] ?_
  refine .goD fds [13] ?_
  refine .done (by kernel_rfl) ?_
  refine .goO fds 2 ?_
  refine .rd (.ld na39 rfl (.tail (.tail (.tail .head))) rfl) ?_
  refine .go fds 2 ?_
  refine .rd (.load na22 rfl (Knows.one (i := 4) (Knows.pick (.tail (.tail (.tail (.tail .head)))) (k.mono fun _ h => h.1)) rfl)) ?_
  refine .rd (.lenL rfl rfl Tryz.underlying31 rfl) ?_
  refine .rd (.makeFunc (cs := [.pointer (some ⟨b3, 0, none⟩), .pointer (some ⟨b4, 0, none⟩)]) rfl rfl) ?_
  refine .fn rfl rfl .nil ((Knows.blk (.tail (.tail (.tail .head)))).and ((Knows.blk (.tail (.tail .head))).and (Knows.pick (.tail (.tail (.tail (.tail .head)))) k))) (Search_ok s.sm.length (by omega) (pR s off) (pR_mono hs) (fun w => CellsAt b3 0 [.pointer (some ⟨s.b, 0, none⟩)] w ∧ CellsAt b4 0 [.int .i64 off] w ∧ SegAt db s w) 84 #[.pointer (some ⟨b3, 0, none⟩), .pointer (some ⟨b4, 0, none⟩)] (read1 hs)) (fun v G1 hq => ?_)
  obtain ⟨z, hz, hz1, hz2, rfl, rfl⟩ := hq
  simp only [List.nil_append]
  refine .rd (.sub rfl rfl (by omega) (by omega)) ?_
  refine .goR fds 8 ?_
  refine .condP rfl (fun c5 => ?_) (fun c5 => ?_)
  ·
   refine .go fds 4 ?_
   refine .nilArr 41 6 none ?_
   refine .knowT (Bal []) (Bal.nil) ?_
   refine .retP Tryz.func47 (.cons (.tmp rfl) .nil) (.cons (.tail (.tail .head)) (.cons (.tail (.tail .head)) (.cons (.tail .head) (.cons .head (.cons (.tail (.tail .head)) .nil))))) ?_
   exact ⟨[_, _, _, _], ⟨[], none, 0, ((if_neg c1).trans (none_left hs (by omega) fun q _ hq => hz2 q (by omega) hq)).symm, rfl, rfl⟩, rfl⟩
  ·
   refine .go fds 2 ?_
   have hz0 : 0 < z := by omega
   obtain ⟨j, y, hj, hy⟩ := Sx.ixat hs (i := z - 1) (by omega)
   have hyo : y.base ≤ off := by have := hz1 (z - 1) (by omega); rw [pR_at hj hy] at this; have := of_decide_eq_false this; omega
   have hjl := (List.getElem?_eq_some_iff.1 hy).1
   have hskip := Sx.skip hs hy hyo most
   refine .tell (φ := ∃ b o, s.aa = some ⟨b, o, none⟩) (Knows.pick (.tail (.tail (.tail (.tail .head)))) (k.mono fun _ h => RowAt.addr h.2.1 (by rw [Sx.rows_len]; omega))) (fun hh => ?_)
   obtain ⟨b9, o9, h9⟩ := hh
   refine .tell (φ := ∃ b o, s.ia = some ⟨b, o, none⟩) (Knows.pick (.tail (.tail (.tail (.tail .head)))) (k.mono fun _ h => RowAt.addr h.2.2 (by rw [Sx.idx_len]; omega))) (fun hh => ?_)
   obtain ⟨b8, o8, h8⟩ := hh
   refine .go fds 9 ?_
   refine .draws [0, 3, 4, 7, 10] [blk b3 [.pointer (some ⟨s.b, 0, none⟩)] 54, R] (by kernel_rfl) ?_
   refine .rd 0 rfl rfl (by kernel_rfl) (by kernel_rfl) (by kernel_rfl) (.ld na39 rfl .head rfl) (.cons (.tail (.tail (.tail .head))) (.cons (.tail (.tail (.tail .head))) .nil)) ?_
   refine .goD fds [1] ?_
   refine .goD fds [2] ?_
   refine .rd 3 rfl rfl (by kernel_rfl) (by kernel_rfl) (by kernel_rfl) (.load na67 rfl (Knows.one (i := 3) (Knows.pick (.tail .head) (k.mono fun _ h => h.1)) rfl)) (.cons (.tail (.tail (.tail .head))) (.cons (.tail (.tail (.tail .head))) .nil)) ?_
   refine .rd 4 rfl rfl (by kernel_rfl) (by kernel_rfl) (by kernel_rfl) (.ld na39 rfl .head rfl) (.cons (.tail (.tail (.tail .head))) (.cons (.tail (.tail (.tail .head))) .nil)) ?_
   refine .goD fds [5] ?_
   refine .goD fds [6] ?_
   refine .rd 7 rfl rfl (by kernel_rfl) (by kernel_rfl) (by kernel_rfl) (.load na22 rfl (Knows.one (i := 4) (Knows.pick (.tail .head) (k.mono fun _ h => h.1)) rfl)) (.cons (.tail (.tail (.tail .head))) (.cons (.tail (.tail (.tail .head))) .nil)) ?_
   refine .goD fds [8] ?_
   refine .alter (t := 53) (v' := .int .i64 ((z - 1 : Nat))) rfl (congrArg (Value.int .i64) (by omega)) ?_
   refine .rp 9 rfl (by kernel_rfl) (by kernel_rfl) (by kernel_rfl) (Reads.pure (.indexAddr (b := b8) (o := o8) Tryz.underlying31 ts3 (by show some (Value.slice (s.ia) _ _) = _; rw [h8]) rfl (by omega) (by omega))) ?_
   refine .rd 10 rfl rfl (by kernel_rfl) (by kernel_rfl) (by kernel_rfl) (.load na3 rfl (Knows.one (i := 0) (Knows.elem (f := icN) icN_len (by decide) (Knows.pick (.tail .head) (k.mono fun _ h => h8 ▸ h.2.2)) (hj)) rfl)) (.cons (.tail (.tail (.tail .head))) (.cons (.tail (.tail (.tail .head))) .nil)) ?_
   refine .rp 11 rfl (by kernel_rfl) (by kernel_rfl) (by kernel_rfl) (Reads.pure (.slice (l := j) (h := s.bs.length) (m := s.ac) Tryz.underlying108 ts71 rfl rfl ⟨rfl, rfl⟩ ⟨_, rfl⟩ (by omega) (by omega) (by omega))) ?_
   refine .alter (t := 56) (v' := .slice (some ⟨b9, o9 + j * 4, none⟩) (s.bs.length - j) (s.ac - j)) rfl (by rw [if_neg (by omega), h9]; simp [Addr_add]) ?_
   refine .rp 12 rfl (by kernel_rfl) (by kernel_rfl) (by kernel_rfl) (Reads.pure (.lenL rfl rfl Tryz.underlying108 rfl)) ?_
   refine .goD fds [13] ?_
   refine .done (by kernel_rfl) ?_
   refine .nilArr 41 6 none ?_
   refine .knowT (Bal []) (Bal.nil) ?_
   refine .block ?_
   refine .loop (σ := Nat × Int × List BatM × Option Addr × Nat) (fun ⟨i, sum, bl, ra, rc⟩ => j + i ≤ s.bs.length ∧ goR off most sum (bl.map (·.1)) (s.bs.drop (j + i)) = goR off most 0 [] s.bs ∧ bl.length ≤ i ∧ 0 ≤ sum ∧ sum ≤ ((flat (s.bs.take (j + i))).length : Int)) (fun ⟨i, sum, bl, ra, rc⟩ => s.bs.length - i) (fun ⟨i, sum, bl, ra, rc⟩ => [(2, .int .i64 most), (4, .pointer (some ⟨b4, 0, none⟩)), (7, .string (str (flat s.bs))), (56, .slice (some ⟨b9, o9 + j * 4, none⟩) (s.bs.length - j) (s.ac - j)), (57, .int .i64 ((s.bs.length - j : Nat) : Int)), (10, .slice ra bl.length rc), (11, .int .i64 sum), (58, .int .i64 (i : Nat))]) (fun ⟨i, sum, bl, ra, rc⟩ => [blk b4 [.int .i64 off] 3, arr 41 6 ra rc (bl.flatMap bmc), know (Bal bl), blk db (d.cells mb) 74, mp nmv Fl.val mb d.fs, R]) (0, 0, [], none, 0) ⟨by omega, hskip, Nat.le_refl _, Int.le_refl _, by omega⟩ (.cons rfl (.cons rfl (.cons rfl (.cons rfl (.cons rfl (.cons rfl (.cons rfl (.cons rfl .nil)))))))) (.cons (.tail (.tail (.tail (.tail .head)))) (.cons (.tail .head) (.cons .head (.cons .head (.cons .head (.cons (.tail .head) .nil)))))) (fun s' hI ih => ?_)
   obtain ⟨i, sum, bl, ra, rc⟩ := s'
   dsimp only at hI ih ⊢
   obtain ⟨hji, hg, hbi, hs0, hs1⟩ := hI
   refine .go fds 5 ?_
   refine .condP rfl (fun c10 => ?_) (fun c10 => ?_)
   ·
    refine .go fds 4 ?_
    obtain ⟨b, hb⟩ : ∃ b, s.bs[j + i]? = some b := ⟨_, List.getElem?_eq_getElem (by omega)⟩
    have hb' : s.bs.drop (j + i) = b :: s.bs.drop (j + (i + 1)) := by obtain ⟨h1, h2⟩ := List.getElem?_eq_some_iff.1 hb; rw [← h2]; exact List.drop_eq_getElem_cons h1
    have hgd := hs.good b (List.mem_of_getElem? hb)
    have hfa := flat_all hb
    have hep := hgd.enc_le
    have hfn : (flat (s.bs.take (j + (i + 1)))).length = (flat (s.bs.take (j + i))).length + (enc b).length := flat_next hb
    refine .region ?_
    refine .rd (.indexAddr (b := b9) (o := o9 + j * 4) Tryz.underlying108 ts71 rfl rfl (by omega) (by omega)) ?_
    refine .alter (t := 60) (v' := .pointer (some ⟨b9, o9 + (j + i) * 4, none⟩)) rfl (congrArg (fun n => Value.pointer (some ⟨b9, n, none⟩)) (by rw [Int.toNat_natCast]; omega)) ?_
    refine .rd (.loadN ia71 ts71 rfl rfl (Knows.elem (f := One.cells) One.cells_len (by decide) (Knows.pick (.tail (.tail (.tail (.tail (.tail .head))))) (k.mono fun _ h => h9 ▸ h.2.1)) (one_at hb))) ?_
    refine .ef (.alloc ti71 rfl (ones.of rfl)) ?_
    rintro _ _ ⟨b13, rfl, rfl⟩
    refine .ef0 (.storeAll ts71 rfl rfl (by rfl) .head rfl (ones.of rfl)) ?_
    rintro _ _ rfl
    refine .nil ?_
    refine .cast (X' := blk b13 (One.mk b.base b.en (flat (s.bs.take (j + i))).length ((flat (s.bs.take (j + i))).length + (enc b).length)).cells 112) (rfl) ?_
    refine .goO fds 4 ?_
    refine .rd (.ld na3 rfl .head rfl) ?_
    refine .rd (.ld na3 rfl (.tail .head) rfl) ?_
    refine .goR fds 2 ?_
    refine .condP rfl (fun c12 => ?_) (fun c12 => ?_)
    ·
     refine .goO fds 2 ?_
     refine .rd (.add rfl rfl (by omega) (by omega)) ?_
     refine .goR fds 2 ?_
     have hI' : j + (i + 1) ≤ s.bs.length ∧ goR off most (sum) ((bl).map (·.1)) (s.bs.drop (j + (i + 1))) = goR off most 0 [] s.bs ∧ (bl).length ≤ i + 1 ∧ 0 ≤ sum ∧ sum ≤ ((flat (s.bs.take (j + (i + 1)))).length : Int) := ⟨by omega, by rw [← hg, hb', goR_step, if_pos (show b.en ≤ off from c12)], by omega, hs0, by omega⟩
     exact (ih (i + 1, sum, bl, ra, rc) hI' (by show s.bs.length - (i + 1) < s.bs.length - i; omega)).to (.cons rfl (.cons rfl (.cons rfl (.cons rfl (.cons rfl (.cons (by first | rfl | (show _ = some (Value.slice _ (List.length _) _); rw [List.length_append]; rfl)) (.cons rfl (.cons rfl .nil)))))))) (.cons (.tail .head) (.cons (.tail .head) (.cons (.tail .head) (.cons (.tail .head) (.cons (.tail .head) (.cons (.tail .head) .nil))))))
    ·
     have hlq : ¬ b.en ≤ off := c12
     refine .goO fds 5 ?_
     refine .rd (.ld na3 rfl .head rfl) ?_
     refine .alter (t := 68) (v' := .int .i64 (((flat (s.bs.take (j + i))).length + (enc b).length : Nat) : Int)) rfl (rfl) ?_
     refine .rd (.fieldAddr fd71_2 rfl) ?_
     refine .rd (.ld na3 rfl .head rfl) ?_
     refine .alter (t := 70) (v' := .int .i64 ((flat (s.bs.take (j + i))).length : Int)) rfl (rfl) ?_
     refine .rd (.sub rfl rfl (by omega) (by omega)) ?_
     refine .rd (.add rfl rfl (by omega) (by omega)) ?_
     refine .alter (t := 72) (v' := .int .i64 (sum + (enc b).length)) rfl (congrArg (Value.int .i64) (by omega)) ?_
     refine .goO fds 6 ?_
     refine .rd (.lenL rfl rfl Tryz.underlying47 rfl) ?_
     refine .go fds 2 ?_
     refine .split (t := 76) rfl (fun g14 => ?_) (fun g14 => ?_)
     ·
      replace g14 := of_decide_eq_true g14
      refine .goR fds 5 ?_
      refine .condP rfl (fun c14 => ?_) (fun c14 => ?_)
      ·
       have hbr : 0 < (bl.map (·.1)).length ∧ most < sum + ((enc b).length : Int) := by rw [List.length_map]; omega
       refine .go fds 6 ?_
       refine .retP Tryz.func47 (.cons (.tmp rfl) .nil) (.cons (.tail (.tail (.tail (.tail .head)))) (.cons (.tail (.tail (.tail (.tail .head)))) (.cons (.tail (.tail .head)) (.cons (.tail (.tail .head)) (.cons (.tail (.tail .head)) .nil))))) ?_
       exact ⟨[_, _, _, _], ⟨bl, ra, rc, ((by rw [← hg, hb', goR_step, if_neg hlq, if_pos hbr] : goR off most 0 [] s.bs = bl.map (·.1)).symm.trans (if_neg c1).symm), rfl, rfl⟩, rfl⟩
      ·
       refine .go fds 2 ?_
       have hbr : ¬ (0 < (bl.map (·.1)).length ∧ most < sum + ((enc b).length : Int)) := by rw [List.length_map]; omega
       refine .goO fds 3 ?_
       refine .rd (.ld na3 rfl .head rfl) ?_
       refine .rd (.fieldAddr fd71_3 rfl) ?_
       refine .rd (.ld na3 rfl .head rfl) ?_
       refine .rd (.sliceT (l := flat s.bs) (a := (flat (s.bs.take (j + i))).length) (h := (flat (s.bs.take (j + i))).length + (enc b).length) Tryz.underlying9 rfl ⟨_, rfl⟩ ⟨_, rfl⟩ (by omega) (by omega)) ?_
       refine .alter (t := 87) (v' := .string (str (enc b))) rfl (by rw [Nat.add_sub_cancel_left, flat_cut hb]) ?_
       refine .fn rfl rfl .nil (fun _ _ _ => trivial) (ReadBatch_ok (enc b) (by omega)) (fun v G1 hq => ?_)
       obtain ⟨ba, bc, rfl, rfl⟩ := hq
       simp only [List.cons_append, List.nil_append]
       refine .alter (t := 88) (v' := .tuple #[.agg (b.cells ba bc).toArray, .int .i64 ((enc b).length : Int), .int .i64 0]) rfl (read_back hgd ba bc) ?_
       refine .cast (X' := arr 99 3 ba bc (b.recs.flatMap Rec.cells)) (by rw [read_recs hgd]) ?_
       refine .settle .head (Settles.arr) ?_
       refine .go fds 4 ?_
       refine .ef (.alloc ti34 rfl (ones.of rfl)) ?_
       rintro _ _ ⟨b14, rfl, rfl⟩
       refine .ef0 (.storeAll ts34 rfl rfl (by rfl) .head rfl (ones.of rfl)) ?_
       rintro _ _ rfl
       refine .goO fds 5 ?_
       refine .rd (.ldN ia34 ts34 rfl .head rfl) ?_
       refine .ef (.buildOne (cs := b.cells ba bc) Tryz.underlying47 ti34 (by decide) rfl rfl rfl (ones.of rfl)) ?_
       rintro _ _ ⟨bo, rfl, rfl⟩
       refine .ef (.append rfl rfl Tryz.underlying47 ti34 rfl (ones.of rfl) (by decide) (by decide) rfl rfl (.tail (.tail (.tail (.tail (.tail .head))))) (n := bl.length) (m := 1) (flat_length bmc_len _) (.srcBlk .head Tryz.underlying47 rfl (by decide)) (by omega)) ?_
       rintro _ _ ⟨qa, qc, rfl, qn, rfl⟩
       refine .goR fds 2 ?_
       refine .cast (X' := arr 41 6 qa qc ((bl ++ [(b, ba, bc)]).flatMap bmc)) (by rw [List.flatMap_append]; simp [bmc]) ?_
       refine .knowAnd (Bal (bl ++ [(b, ba, bc)])) (.cons (.tail (.tail (.tail (.tail (.tail (.tail .head)))))) (.cons (.tail (.tail (.tail .head))) .nil)) (fun w h1 h2 => h1.snoc h2) ?_
       refine .goO fds 2 ?_
       refine .rd (.add rfl rfl (by omega) (by omega)) ?_
       refine .goR fds 2 ?_
       have hI' : j + (i + 1) ≤ s.bs.length ∧ goR off most (sum + ((enc b).length : Int)) ((bl ++ [(b, ba, bc)]).map (·.1)) (s.bs.drop (j + (i + 1))) = goR off most 0 [] s.bs ∧ (bl ++ [(b, ba, bc)]).length ≤ i + 1 ∧ 0 ≤ sum + ((enc b).length : Int) ∧ sum + ((enc b).length : Int) ≤ ((flat (s.bs.take (j + (i + 1)))).length : Int) := ⟨by omega, by rw [← hg, hb', goR_step, if_neg hlq, if_neg hbr, List.map_append]; rfl, by rw [List.length_append]; exact Nat.succ_le_succ hbi, by omega, by omega⟩
       exact (ih (i + 1, sum + ((enc b).length : Int), bl ++ [(b, ba, bc)], qa, qc) hI' (by show s.bs.length - (i + 1) < s.bs.length - i; omega)).to (.cons rfl (.cons rfl (.cons rfl (.cons rfl (.cons rfl (.cons (by first | rfl | (show _ = some (Value.slice _ (List.length _) _); rw [List.length_append]; rfl)) (.cons rfl (.cons rfl .nil)))))))) (.cons (.tail (.tail (.tail (.tail (.tail .head))))) (.cons (.tail .head) (.cons .head (.cons (.tail (.tail (.tail .head))) (.cons (.tail (.tail (.tail .head))) (.cons (.tail (.tail (.tail .head))) .nil))))))
     ·
      replace g14 := of_decide_eq_false g14
      refine .goR fds 8 ?_
      have hbr : ¬ (0 < (bl.map (·.1)).length ∧ most < sum + ((enc b).length : Int)) := by rw [List.length_map]; omega
      refine .goO fds 3 ?_
      refine .rd (.ld na3 rfl .head rfl) ?_
      refine .rd (.fieldAddr fd71_3 rfl) ?_
      refine .rd (.ld na3 rfl .head rfl) ?_
      refine .rd (.sliceT (l := flat s.bs) (a := (flat (s.bs.take (j + i))).length) (h := (flat (s.bs.take (j + i))).length + (enc b).length) Tryz.underlying9 rfl ⟨_, rfl⟩ ⟨_, rfl⟩ (by omega) (by omega)) ?_
      refine .alter (t := 87) (v' := .string (str (enc b))) rfl (by rw [Nat.add_sub_cancel_left, flat_cut hb]) ?_
      refine .fn rfl rfl .nil (fun _ _ _ => trivial) (ReadBatch_ok (enc b) (by omega)) (fun v G1 hq => ?_)
      obtain ⟨ba, bc, rfl, rfl⟩ := hq
      simp only [List.cons_append, List.nil_append]
      refine .alter (t := 88) (v' := .tuple #[.agg (b.cells ba bc).toArray, .int .i64 ((enc b).length : Int), .int .i64 0]) rfl (read_back hgd ba bc) ?_
      refine .cast (X' := arr 99 3 ba bc (b.recs.flatMap Rec.cells)) (by rw [read_recs hgd]) ?_
      refine .settle .head (Settles.arr) ?_
      refine .go fds 4 ?_
      refine .ef (.alloc ti34 rfl (ones.of rfl)) ?_
      rintro _ _ ⟨b14, rfl, rfl⟩
      refine .ef0 (.storeAll ts34 rfl rfl (by rfl) .head rfl (ones.of rfl)) ?_
      rintro _ _ rfl
      refine .goO fds 5 ?_
      refine .rd (.ldN ia34 ts34 rfl .head rfl) ?_
      refine .ef (.buildOne (cs := b.cells ba bc) Tryz.underlying47 ti34 (by decide) rfl rfl rfl (ones.of rfl)) ?_
      rintro _ _ ⟨bo, rfl, rfl⟩
      refine .ef (.append rfl rfl Tryz.underlying47 ti34 rfl (ones.of rfl) (by decide) (by decide) rfl rfl (.tail (.tail (.tail (.tail (.tail .head))))) (n := bl.length) (m := 1) (flat_length bmc_len _) (.srcBlk .head Tryz.underlying47 rfl (by decide)) (by omega)) ?_
      rintro _ _ ⟨qa, qc, rfl, qn, rfl⟩
      refine .goR fds 2 ?_
      refine .cast (X' := arr 41 6 qa qc ((bl ++ [(b, ba, bc)]).flatMap bmc)) (by rw [List.flatMap_append]; simp [bmc]) ?_
      refine .knowAnd (Bal (bl ++ [(b, ba, bc)])) (.cons (.tail (.tail (.tail (.tail (.tail (.tail .head)))))) (.cons (.tail (.tail (.tail .head))) .nil)) (fun w h1 h2 => h1.snoc h2) ?_
      refine .goO fds 2 ?_
      refine .rd (.add rfl rfl (by omega) (by omega)) ?_
      refine .goR fds 2 ?_
      have hI' : j + (i + 1) ≤ s.bs.length ∧ goR off most (sum + ((enc b).length : Int)) ((bl ++ [(b, ba, bc)]).map (·.1)) (s.bs.drop (j + (i + 1))) = goR off most 0 [] s.bs ∧ (bl ++ [(b, ba, bc)]).length ≤ i + 1 ∧ 0 ≤ sum + ((enc b).length : Int) ∧ sum + ((enc b).length : Int) ≤ ((flat (s.bs.take (j + (i + 1)))).length : Int) := ⟨by omega, by rw [← hg, hb', goR_step, if_neg hlq, if_neg hbr, List.map_append]; rfl, by rw [List.length_append]; exact Nat.succ_le_succ hbi, by omega, by omega⟩
      exact (ih (i + 1, sum + ((enc b).length : Int), bl ++ [(b, ba, bc)], qa, qc) hI' (by show s.bs.length - (i + 1) < s.bs.length - i; omega)).to (.cons rfl (.cons rfl (.cons rfl (.cons rfl (.cons rfl (.cons (by first | rfl | (show _ = some (Value.slice _ (List.length _) _); rw [List.length_append]; rfl)) (.cons rfl (.cons rfl .nil)))))))) (.cons (.tail (.tail (.tail (.tail (.tail .head))))) (.cons (.tail .head) (.cons .head (.cons (.tail (.tail (.tail .head))) (.cons (.tail (.tail (.tail .head))) (.cons (.tail (.tail (.tail .head))) .nil))))))
   ·
    refine .go fds 6 ?_
    refine .retP Tryz.func47 (.cons (.tmp rfl) .nil) (.cons (.tail (.tail (.tail .head))) (.cons (.tail (.tail (.tail .head))) (.cons (.tail .head) (.cons (.tail .head) (.cons (.tail .head) .nil))))) ?_
    exact ⟨[_, _, _, _], ⟨bl, ra, rc, ((by rw [← hg, List.drop_eq_nil_of_le (by omega)]; rfl : goR off most 0 [] s.bs = bl.map (·.1)).symm.trans (if_neg c1).symm), rfl, rfl⟩, rfl⟩
end Go.Proofs.YtoglbebcdjdkiaaGreatDoor
namespace Go.Proofs.YtoglbebcdjdkiaaGreatDoor
open Go Go.Sp
set_option linter.unusedVariables false
namespace log10
theorem na39 : NotAgg Tryz.prog 54 := ⟨_, Tryz.underlying54, trivial⟩
theorem na40 : NotAgg Tryz.prog 55 := ⟨_, Tryz.underlying55, trivial⟩
theorem ts39 : TS Tryz.prog 54 1 := .of (by kernel_rfl)
theorem ts34 : TS Tryz.prog 41 6 := .of (by kernel_rfl)
theorem fd34_0 : FD Tryz.prog 41 0 0 := .of Tryz.underlying41 (by kernel_rfl)
theorem na3 : NotAgg Tryz.prog 3 := ⟨_, Tryz.underlying3, trivial⟩
end log10
open log10
theorem place_next {s : Sx} (hs : s.ok) {b : Bat} {C : List Bat} (h : b ∈ s.bs ∨ (b ∈ C ∧ ∀ x ∈ s.bs, x.en ≤ b.base)) (hb : s.base ≤ b.base) {xl : List BatM} (hx : xl.map (·.1) = segRead s b.base 0) (h0 : xl.length = 0) : b ∈ C := by
 rcases h with hc | ⟨hc, _⟩
 ·
  have h1 := congrArg List.length hx
  rw [List.length_map, seg_first hs hc hb] at h1
  simp at h1; omega
 ·
  exact hc
set_option maxHeartbeats 1000000 in
set_option maxRecDepth 20000 in
theorem place_ok (db mb : Nat) (d : Dk) (l : Lx) (b : Bat) (hl : l.ok d) (hb : b ∈ l.all) : Cn Tryz.prog 89 [.pointer (some ⟨l.lb, 0, none⟩), .int .i64 b.base] (LogAt db l) [blk db (d.cells mb) 74, mp nmv Fl.val mb d.fs] fun v G => v = .bool true ∧ G = [blk db (d.cells mb) 74, mp nmv Fl.val mb d.fs] := by
 refine .enter Tryz.func89 rfl (by kernel_rfl) rfl fun R k => ?_
 have hll := hl.len
 have hbg := hl.good b hb
 have hb0 := hbg.base
 have hb1 := hbg.en
 have hb2 := hbg.lt
 refine .goO fds 11 ?_
 refine .rd (.load na39 rfl (Knows.one (i := 0) (Knows.pick (.tail (.tail .head)) (k.mono fun _ h => h.1)) rfl)) ?_
 refine .fn rfl rfl .nil (Knows.pick (.tail (.tail .head)) (k.mono fun _ h => h.2.2 _ l.cur_in)) (Next_ok db l.cur hl.cur.1) (fun v G1 hq => ?_)
 obtain ⟨rfl, rfl⟩ := hq
 simp only [List.nil_append]
 refine .goR fds 2 ?_
 refine .condP rfl (fun c1 => ?_) (fun c1 => ?_)
 ·
  refine .go fds 4 ?_
  refine .retP Tryz.func89 (.cons (.tmp rfl) .nil) (.cons .head (.cons .head (.cons .head .nil))) ?_
  exact ⟨[_, _], ⟨rfl, rfl⟩, rfl⟩
 ·
  refine .goO fds 7 ?_
  refine .rd (.load na40 rfl (Knows.one (i := 6) (Knows.pick (.tail (.tail .head)) (k.mono fun _ h => h.1)) rfl)) ?_
  refine .rd (.lenL rfl rfl Tryz.underlying55 rfl) ?_
  refine .goR fds 2 ?_
  have hsl : l.segs.length = l.ini.length + 1 := by unfold Lx.segs; simp
  refine .alter (t := 19) (v' := .int .i64 (l.segs.length : Nat)) rfl (by rw [hsl]) ?_
  refine .block ?_
  refine .loop (σ := Nat) (fun i => i ≤ l.segs.length ∧ b ∈ (l.segs.drop i).flatMap (fun s : Sx => s.bs)) (fun i => l.segs.length - i) (fun i => [(0, .pointer (some ⟨l.lb, 0, none⟩)), (1, .int .i64 b.base), (18, .slice l.la (l.ini.length + 1) l.lc), (19, .int .i64 (l.segs.length : Nat)), (20, .int .i64 (i : Nat))]) (fun i => [blk db (d.cells mb) 74, mp nmv Fl.val mb d.fs, R]) 0 ⟨Nat.zero_le _, hb⟩ (.cons rfl (.cons rfl (.cons rfl (.cons rfl (.cons rfl .nil))))) (.cons .head (.cons .head (.cons .head .nil))) (fun i hI ih => ?_)
  obtain ⟨hin, hbi⟩ := hI
  refine .go fds 5 ?_
  refine .condP rfl (fun c4 => ?_) (fun c4 => ?_)
  ·
   refine .go fds 4 ?_
   obtain ⟨s, hs⟩ : ∃ s, l.segs[i]? = some s := ⟨_, List.getElem?_eq_getElem (by omega)⟩
   have hsm := List.mem_of_getElem? hs
   obtain ⟨hsok, hsn, hsx, hsf⟩ := hl.seg s hsm
   obtain ⟨hsb, hcase⟩ := place_cases hl hs hbi
   refine .tell (φ := ∃ b o, l.la = some ⟨b, o, none⟩) (Knows.pick (.tail (.tail .head)) (k.mono fun _ h => RowAt.addr h.2.1 (by rw [flat_length sp_len]; omega))) (fun hh => ?_)
   obtain ⟨b9, o9, h9⟩ := hh
   refine .region ?_
   refine .rd (.indexAddr (b := b9) (o := o9) Tryz.underlying55 ts39 (by show some (Value.slice (l.la) _ _) = _; rw [h9]) rfl (by omega) (by omega)) ?_
   refine .rd (.load na39 rfl (Knows.one (i := 0) (Knows.elem (f := sp) sp_len (by decide) (Knows.pick (.tail (.tail .head)) (k.mono fun _ h => h9 ▸ h.2.1)) hs) rfl)) ?_
   refine .goO fds 6 ?_
   refine .fn rfl rfl (.cons .head (.cons .head .nil)) (Knows.pick .head (k.mono fun _ h => h.2.2 s hsm)) (SegRead_ok db mb d s b.base 0 hsok hsx hsf ⟨by omega, by omega⟩) (fun v G1 hq => ?_)
   obtain ⟨xl, xa, xc, hxl, rfl, rfl⟩ := hq
   simp only [List.cons_append, List.nil_append]
   refine .goR fds 2 ?_
   have hxn : xl.length ≤ 1 := by
    have h1 := congrArg List.length hxl
    rw [List.length_map] at h1
    rcases hcase with hc | ⟨_, hc⟩
    ·
     rw [seg_first hsok hc hsb] at h1; exact Nat.le_of_eq h1
    ·
     rw [seg_none hsok hc] at h1; exact Nat.le_trans (Nat.le_of_eq h1) (Nat.zero_le 1)
   refine .goO fds 3 ?_
   refine .rd (.lenL rfl rfl Tryz.underlying47 rfl) ?_
   refine .goR fds 2 ?_
   refine .condP rfl (fun c7 => ?_) (fun c7 => ?_)
   ·
    refine .seq ?_
    obtain ⟨y, hy⟩ : ∃ y, xl[0]? = some y := ⟨_, List.getElem?_eq_getElem (by omega)⟩
    have hyb : y.1 = b := by
     have h1 := congrArg (fun l => l[0]?) hxl
     simp only [List.getElem?_map, hy, Option.map_some] at h1
     rcases hcase with hc | ⟨_, hc⟩
     ·
      rw [seg_first hsok hc hsb] at h1; exact Option.some.inj h1
     ·
      rw [seg_none hsok hc] at h1; cases h1
    refine .tell (φ := ∃ b o, xa = some ⟨b, o, none⟩) ((Knows.arr (.tail (.tail .head))).mono fun _ h => RowAt.addr h (by rw [flat_length bmc_len]; omega)) (fun hh => ?_)
    obtain ⟨b8, o8, h8⟩ := hh
    refine .goO fds 2 ?_
    refine .rd (.indexAddr (b := b8) (o := o8) Tryz.underlying47 ts34 (by show some (Value.slice (xa) _ _) = _; rw [h8]) rfl (by omega) (by omega)) ?_
    refine .rd (.fieldAddr fd34_0 rfl) ?_
    refine .rd (.load na3 rfl (Knows.one (i := 0) (Knows.elem (f := bmc) bmc_len (by decide) ((Knows.arr (.tail (.tail .head))).mono fun _ h => h8 ▸ h) hy) rfl)) ?_
    refine .goR fds 4 ?_
    refine .retP Tryz.func89 (.cons (.tmp rfl) .nil) (.cons .head (.cons .head (.cons (.tail (.tail .head)) .nil))) ?_
    exact ⟨[_, _], ⟨congrArg Value.bool (decide_eq_true (by show y.1.base = b.base; rw [hyb])), rfl⟩, rfl⟩
   ·
    refine .goO fds 3 ?_
    refine .rd (.add rfl rfl (by omega) (by omega)) ?_
    refine .goR fds 2 ?_
    have hb' : b ∈ (l.segs.drop (i + 1)).flatMap (fun s : Sx => s.bs) := place_next hsok hcase hsb hxl (by omega)
    exact (ih (i + 1) ⟨by omega, hb'⟩ (by show l.segs.length - (i + 1) < l.segs.length - i; omega)).to (.cons rfl (.cons rfl (.cons rfl (.cons rfl (.cons rfl .nil))))) (.cons .head (.cons .head (.cons (.tail (.tail .head)) .nil)))
  ·
   refine .go fds 5 ?_
   exact absurd hbi (by rw [List.drop_eq_nil_of_le (by omega)]; intro h; cases h)
set_option maxHeartbeats 1000000 in
set_option maxRecDepth 20000 in
theorem placeEnd_ok (db mb : Nat) (d : Dk) (l : Lx) (hl : l.ok d) : Cn Tryz.prog 89 [.pointer (some ⟨l.lb, 0, none⟩), .int .i64 l.next] (LogAt db l) [blk db (d.cells mb) 74, mp nmv Fl.val mb d.fs] fun v G => v = .bool true ∧ G = [blk db (d.cells mb) 74, mp nmv Fl.val mb d.fs] := by
 refine .enter Tryz.func89 rfl (by kernel_rfl) rfl fun R k => ?_
 refine .goO fds 11 ?_
 refine .rd (.load na39 rfl (Knows.one (i := 0) (Knows.pick (.tail (.tail .head)) (k.mono fun _ h => h.1)) rfl)) ?_
 refine .fn rfl rfl .nil (Knows.pick (.tail (.tail .head)) (k.mono fun _ h => h.2.2 _ l.cur_in)) (Next_ok db l.cur hl.cur.1) (fun v G1 hq => ?_)
 obtain ⟨rfl, rfl⟩ := hq
 simp only [List.nil_append]
 refine .rd (.eqI rfl rfl) ?_
 refine .alter (t := 14) (v' := .bool true) rfl (congrArg Value.bool (decide_eq_true rfl)) ?_
 refine .goR fds 6 ?_
 refine .retP Tryz.func89 (.cons (.tmp rfl) .nil) (.cons .head (.cons .head (.cons .head .nil))) ?_
 exact ⟨[_, _], ⟨rfl, rfl⟩, rfl⟩
end Go.Proofs.YtoglbebcdjdkiaaGreatDoor