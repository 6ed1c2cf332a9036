/- Steps through functions of the program, under conditions that each theorem states (part wire13 of a claim). -/
import Derived.Test.YtllpkagplfmlbaaProg
import Derived.Test.YtllpkagplfmlbaaWire0
import Derived.Test.YtllpkagplfmlbaaWire11
import Derived.Test.YtllpkagplfmlbaaWire12
namespace Go.Proofs.Ytllpkagplfmlbaa
open Go Go.Sp

set_option linter.unusedVariables false

namespace wire13
theorem ia27 : IsAgg Try.prog 27 := ⟨_, Try.underlying27, trivial⟩
theorem ts27 : TS Try.prog 27 6 := .of (by kernel_rfl)
theorem ti5 : TI Try.prog 5 1 1 (.int .u8 0) := .of (by kernel_rfl)
end wire13
open wire13

theorem or_add {x y : Nat} (k a : Nat) (hx : x = a * 2 ^ k) (hy : y < 2 ^ k) (h : x + y < 9223372036854775808) : IntKind.i64.wrap ((BitVec.ofInt 64 (x : Int) ||| BitVec.ofInt 64 (y : Int)).toNat : Int) = ((x + y : Nat) : Int) := by
  rw [BitVec.toNat_or, toNat_ofInt64, toNat_ofInt64]
  have e2 : ((x : Int) % 18446744073709551616).toNat = x := by omega
  have e3 : ((y : Int) % 18446744073709551616).toNat = y := by omega
  have := Nat.shiftLeft_add_eq_or_of_lt hy a
  rw [Nat.shiftLeft_eq, ← hx] at this
  rw [e2, e3, ← this, wrap_i64 (by omega) (by omega)]
theorem shl_is (x k : Nat) (hk : k ≤ 64) (h : x * 2 ^ k < 9223372036854775808) : IntKind.i64.wrap ((x : Int) * 2 ^ (min k IntKind.i64.bits)) = ((x * 2 ^ k : Nat) : Int) := by
  rw [show IntKind.i64.bits = 64 from rfl, Nat.min_eq_left hk]
  have e : ((x : Int) * 2 ^ k) = ((x * 2 ^ k : Nat) : Int) := by push_cast; rfl
  rw [e, wrap_i64 (by omega) (by omega)]

set_option maxRecDepth 20000 in
theorem four_ok (l : List UInt8) (h4 : 4 ≤ l.length) : Cn Try.prog 43 [.string (str l)] (fun _ => True) [] fun v G => v = .int .i64 (four l : Int) ∧ G = [] := by
  refine .enter Try.func43 rfl (by kernel_rfl) rfl fun R k => ?_
  obtain ⟨b0, b1, b2, b3, t, rfl⟩ : ∃ b0 b1 b2 b3 t, l = b0 :: b1 :: b2 :: b3 :: t := by
    match l, h4 with
    | b0 :: b1 :: b2 :: b3 :: t, _ => exact ⟨b0, b1, b2, b3, t, rfl⟩
  have h0 := b0.toNat_lt; have h1 := b1.toNat_lt; have h2 := b2.toNat_lt; have h3 := b3.toNat_lt
  refine .seq ?_
  refine .region ?_   -- R0 wire.go:104
  refine .rd (.assign rfl) ?_
  refine .nil ?_
  refine .seq ?_
  refine .draws [2, 6, 11, 16] [] (by kernel_rfl) ?_   -- R1 wire.go:105
  refine .rp 0 rfl (by kernel_rfl) (by kernel_rfl) (by kernel_rfl) (Reads.pure (.move rfl)) ?_
  refine .rp 1 rfl (by kernel_rfl) (by kernel_rfl) (by kernel_rfl) (Reads.pure (.indexT Try.underlying9 rfl rfl (by decide) rfl)) ?_
  refine .rd 2 rfl rfl (by kernel_rfl) (by kernel_rfl) (by kernel_rfl) (.convInt Try.underlying5 Try.underlying3 rfl) .nil ?_
  refine .alter (t := 5) (v' := .int .i64 ((b0.toNat : Nat) : Int)) rfl (by rw [wrap_i64 (by omega) (by omega)]) ?_
  refine .rp 3 rfl (by kernel_rfl) (by kernel_rfl) (by kernel_rfl) (Reads.pure (.shl (n := 24) rfl rfl)) ?_
  refine .alter (t := 6) (v' := .int .i64 ((b0.toNat * 2 ^ 24 : Nat) : Int)) rfl (by rw [shl_is _ 24 (by decide) (by omega)]) ?_
  refine .rp 4 rfl (by kernel_rfl) (by kernel_rfl) (by kernel_rfl) (Reads.pure (.move rfl)) ?_
  refine .rp 5 rfl (by kernel_rfl) (by kernel_rfl) (by kernel_rfl) (Reads.pure (.indexT Try.underlying9 rfl rfl (by decide) rfl)) ?_
  refine .rd 6 rfl rfl (by kernel_rfl) (by kernel_rfl) (by kernel_rfl) (.convInt Try.underlying5 Try.underlying3 rfl) .nil ?_
  refine .alter (t := 9) (v' := .int .i64 ((b1.toNat : Nat) : Int)) rfl (by rw [wrap_i64 (by omega) (by omega)]) ?_
  refine .rp 7 rfl (by kernel_rfl) (by kernel_rfl) (by kernel_rfl) (Reads.pure (.shl (n := 16) rfl rfl)) ?_
  refine .alter (t := 10) (v' := .int .i64 ((b1.toNat * 2 ^ 16 : Nat) : Int)) rfl (by rw [shl_is _ 16 (by decide) (by omega)]) ?_
  refine .rp 8 rfl (by kernel_rfl) (by kernel_rfl) (by kernel_rfl) (Reads.pure (.or rfl rfl)) ?_
  refine .alter (t := 11) (v' := .int .i64 ((b0.toNat * 2 ^ 24 + b1.toNat * 2 ^ 16 : Nat) : Int)) rfl (congrArg (Value.int .i64) (or_add 24 (b0.toNat) (by omega) (by omega) (by omega))) ?_
  refine .rp 9 rfl (by kernel_rfl) (by kernel_rfl) (by kernel_rfl) (Reads.pure (.move rfl)) ?_
  refine .rp 10 rfl (by kernel_rfl) (by kernel_rfl) (by kernel_rfl) (Reads.pure (.indexT Try.underlying9 rfl rfl (by decide) rfl)) ?_
  refine .rd 11 rfl rfl (by kernel_rfl) (by kernel_rfl) (by kernel_rfl) (.convInt Try.underlying5 Try.underlying3 rfl) .nil ?_
  refine .alter (t := 14) (v' := .int .i64 ((b2.toNat : Nat) : Int)) rfl (by rw [wrap_i64 (by omega) (by omega)]) ?_
  refine .rp 12 rfl (by kernel_rfl) (by kernel_rfl) (by kernel_rfl) (Reads.pure (.shl (n := 8) rfl rfl)) ?_
  refine .alter (t := 15) (v' := .int .i64 ((b2.toNat * 2 ^ 8 : Nat) : Int)) rfl (by rw [shl_is _ 8 (by decide) (by omega)]) ?_
  refine .rp 13 rfl (by kernel_rfl) (by kernel_rfl) (by kernel_rfl) (Reads.pure (.or rfl rfl)) ?_
  refine .alter (t := 16) (v' := .int .i64 ((b0.toNat * 2 ^ 24 + b1.toNat * 2 ^ 16 + b2.toNat * 2 ^ 8 : Nat) : Int)) rfl (congrArg (Value.int .i64) (or_add 16 (b0.toNat * 2 ^ 8 + b1.toNat) (by omega) (by omega) (by omega))) ?_
  refine .rp 14 rfl (by kernel_rfl) (by kernel_rfl) (by kernel_rfl) (Reads.pure (.move rfl)) ?_
  refine .rp 15 rfl (by kernel_rfl) (by kernel_rfl) (by kernel_rfl) (Reads.pure (.indexT Try.underlying9 rfl rfl (by decide) rfl)) ?_
  refine .rd 16 rfl rfl (by kernel_rfl) (by kernel_rfl) (by kernel_rfl) (.convInt Try.underlying5 Try.underlying3 rfl) .nil ?_
  refine .alter (t := 19) (v' := .int .i64 ((b3.toNat : Nat) : Int)) rfl (by rw [wrap_i64 (by omega) (by omega)]) ?_
  refine .rp 17 rfl (by kernel_rfl) (by kernel_rfl) (by kernel_rfl) (Reads.pure (.or rfl rfl)) ?_
  refine .alter (t := 20) (v' := .int .i64 ((b0.toNat * 2 ^ 24 + b1.toNat * 2 ^ 16 + b2.toNat * 2 ^ 8 + b3.toNat : Nat) : Int)) rfl (congrArg (Value.int .i64) (or_add 8 (b0.toNat * 2 ^ 16 + b1.toNat * 2 ^ 8 + b2.toNat) (by omega) (by omega) (by omega))) ?_
  refine .rp 18 rfl (by kernel_rfl) (by kernel_rfl) (by kernel_rfl) (Reads.pure (.assign rfl)) ?_
  refine .done (by kernel_rfl) ?_
  refine .retP Try.func43 (.cons (.tmp rfl) .nil) (.cons .head .nil) ?_
  exact ⟨[], ⟨rfl, rfl⟩, rfl⟩

set_option maxRecDepth 20000 in
theorem Batch_ok (b : Bat) (a : Option Addr) (c : Nat) (hf : b.fits) : Cn Try.prog 16 [.agg (b.cells a c).toArray] (RowAt a (b.recs.flatMap Rec.cells)) [] fun v G => v = .tuple #[.string (str (wbatch b).1), .int .i64 (wbatch b).2] ∧ G = [] := by
  refine .enter Try.func16 rfl (by kernel_rfl) rfl fun R k => ?_
  refine .seq ?_
  refine .region ?_   -- R0 wire.go:109
  refine .ef (.box (l := b.cells a c) rfl rfl (ones.of rfl)) ?_
  rintro _ _ ⟨b1, rfl, rfl⟩
  refine .rd (.assign rfl) ?_
  refine .rd (.assign rfl) ?_
  refine .nil ?_
  refine .seq ?_
  refine .seq ?_
  refine .region ?_   -- R1 wire.go:110
  refine .rd (.ldN ia27 ts27 rfl .head rfl) ?_
  refine .fn rfl rfl .nil (Knows.pick (.tail .head) k) (Right_ok b a c hf) (fun v G1 hq => ?_)
  obtain ⟨rfl, rfl⟩ := hq
  simp only [List.nil_append]
  refine .rd (.assign rfl) ?_
  refine .nil ?_
  refine .seq ?_
  refine .region ?_   -- R2 wire.go:110
  refine .rd (.move rfl) ?_
  refine .rd (.neI rfl rfl) ?_
  refine .nil ?_
  refine .condN rfl (fun h2 => ?_) (fun h2 => ?_)
  · refine .seq ?_
    refine .region ?_   -- R3 wire.go:111
    refine .rd (.move rfl) ?_
    refine .rd (.assign rfl) ?_
    refine .rd (.assign rfl) ?_
    refine .nil ?_
    rw [wbatch_no h2]
    refine .retP Try.func16 (.cons (.tmp rfl) (.cons (.tmp rfl) .nil)) (.cons (.tail .head) .nil) ?_
    exact ⟨[], ⟨rfl, rfl⟩, rfl⟩
  · have h2 : right b = 0 := by omega
    obtain ⟨hs, hbl⟩ := right_zero h2
    rw [wbatch_yes h2]
    refine .skip ?_
    refine .seq ?_
    refine .region ?_   -- R4 wire.go:113
    refine .rd (.ldN ia27 ts27 rfl .head rfl) ?_
    refine .fn rfl rfl .nil (Knows.pick (.tail .head) k) (body_ok b a c hf hs) (fun v G1 hq => ?_)
    obtain ⟨a', c', rfl, rfl⟩ := hq
    simp only [List.cons_append, List.nil_append]
    refine .rd (.assign rfl) ?_
    refine .nil ?_
    refine .seq ?_
    refine .nilArr 5 1 none ?_
    refine .draws [4] [arr 5 1 a' c' (bcs (body b))] (by kernel_rfl) ?_   -- R5 wire.go:114
    refine .rp 0 rfl (by kernel_rfl) (by kernel_rfl) (by kernel_rfl) (Reads.pure (.move rfl)) ?_
    refine .rp 1 rfl (by kernel_rfl) (by kernel_rfl) (by kernel_rfl) (Reads.pure (.lenL rfl rfl Try.underlying34 rfl)) ?_
    refine .rp 3 rfl (by kernel_rfl) (by kernel_rfl) (by kernel_rfl) (Reads.pure (.move rfl)) ?_
    refine .rd 4 rfl rfl (by kernel_rfl) (by kernel_rfl) (by kernel_rfl) (.bytesToStr (l := body b) Try.underlying34 Try.underlying5 Try.underlying9 rfl rfl (Knows.arr .head)) (.cons (.tail .head) .nil) ?_
    refine .rp 7 rfl (by kernel_rfl) (by kernel_rfl) (by kernel_rfl) (Reads.pure (.move rfl)) ?_
    refine .ef 2 (by kernel_rfl) rfl (.fn rfl rfl (.cons .head .nil) (fun _ _ _ => trivial) (appendFour_ok none 0 [] (body b).length (by decide))) ?_
    rintro v _ ⟨G1, hq, rfl⟩
    obtain ⟨a1, c1, rfl, rfl⟩ := hq
    simp only [List.cons_append, List.nil_append]
    refine ⟨.inr ⟨_, (.cons (.tail .head) .nil)⟩, ?_⟩
    refine .ef 5 (by kernel_rfl) rfl (.fn rfl rfl .nil (fun _ _ _ => trivial) (Crc_ok (body b) (by omega))) ?_
    rintro v _ ⟨G1, hq, rfl⟩
    obtain ⟨rfl, rfl⟩ := hq
    simp only [List.nil_append]
    refine ⟨.inl (by kernel_rfl), ?_⟩
    refine .ef 6 (by kernel_rfl) rfl (.fn rfl rfl (.cons .head .nil) (fun _ _ _ => trivial) (appendFour_ok a1 c1 (fours (body b).length) (crc (body b)).toNat (by rw [fours_len]; decide))) ?_
    rintro v _ ⟨G1, hq, rfl⟩
    obtain ⟨a2, c2, rfl, rfl⟩ := hq
    simp only [List.cons_append, List.nil_append]
    refine ⟨.inl (by kernel_rfl), ?_⟩
    refine .ef 8 (by kernel_rfl) rfl (.append rfl rfl Try.underlying34 ti5 rfl (ones.of rfl) (by decide) (by decide) rfl rfl .head (n := (fours (body b).length ++ fours (crc (body b)).toNat).length) (m := (body b).length) (by rw [bcs_len, Nat.mul_one]) (.srcRow (Knows.arr (.tail .head)) Try.underlying34 (by rw [bcs_len, Nat.mul_one]) (by decide)) (by rw [List.length_append, fours_len, fours_len]; omega)) ?_
    rintro _ _ ⟨ra, rc, rfl, rn, rfl⟩
    rw [← bcs_append]
    refine ⟨.inl (by kernel_rfl), ?_⟩
    refine .rs (Δ := []) 9 (by kernel_rfl) rfl (.bytesToStr (l := (fours (body b).length ++ fours (crc (body b)).toNat) ++ body b) Try.underlying34 Try.underlying5 Try.underlying9 rfl (by simp only [List.length_append]) (Knows.arr .head)) (.inl (by kernel_rfl)) ?_
    refine .rp 10 rfl (by kernel_rfl) (by kernel_rfl) (by kernel_rfl) (Reads.pure (.assign rfl)) ?_
    refine .rp 11 rfl (by kernel_rfl) (by kernel_rfl) (by kernel_rfl) (Reads.pure (.assign rfl)) ?_
    refine .done (by kernel_rfl) ?_
    refine .retP Try.func16 (.cons (.tmp rfl) (.cons (.tmp rfl) .nil)) (.cons (.tail (.tail (.tail .head))) .nil) ?_
    exact ⟨[], ⟨rfl, rfl⟩, rfl⟩

set_option maxRecDepth 20000 in
theorem rBatch_ok (b : Bat) (a : Option Addr) (c : Nat) (hf : b.fits) : Cn Try.prog 72 [.agg (b.cells a c).toArray] (RowAt a (b.recs.flatMap Rec.cells)) [] fun v G => v = .tuple #[.string (str (wbatch b).1), .int .i64 (wbatch b).2] ∧ G = [] := by
  refine .enter Try.func72 rfl (by kernel_rfl) rfl fun R k => ?_
  refine .seq ?_
  refine .region ?_   -- R0 ref.go:128
  refine .ef (.box (l := b.cells a c) rfl rfl (ones.of rfl)) ?_
  rintro _ _ ⟨b1, rfl, rfl⟩
  refine .rd (.assign rfl) ?_
  refine .rd (.assign rfl) ?_
  refine .nil ?_
  refine .seq ?_
  refine .region ?_   -- R1 ref.go:129
  refine .rd (.ldN ia27 ts27 rfl .head rfl) ?_
  refine .fn rfl rfl .nil (Knows.pick (.tail .head) k) (rRight_ok b a c hf) (fun v G1 hq => ?_)
  obtain ⟨rfl, rfl⟩ := hq
  simp only [List.nil_append]
  refine .rd (.assign rfl) ?_
  refine .nil ?_
  refine .seq ?_
  refine .seq ?_
  refine .region ?_   -- R2 ref.go:130
  refine .rd (.move rfl) ?_
  refine .rd (.neI rfl rfl) ?_
  refine .nil ?_
  refine .condN rfl (fun h2 => ?_) (fun h2 => ?_)
  · refine .seq ?_
    refine .region ?_   -- R3 ref.go:131
    refine .rd (.move rfl) ?_
    refine .rd (.assign rfl) ?_
    refine .rd (.assign rfl) ?_
    refine .nil ?_
    rw [wbatch_no h2]
    refine .retP Try.func72 (.cons (.tmp rfl) (.cons (.tmp rfl) .nil)) (.cons (.tail .head) .nil) ?_
    exact ⟨[], ⟨rfl, rfl⟩, rfl⟩
  · have h2 : right b = 0 := by omega
    obtain ⟨hs, hbl⟩ := right_zero h2
    rw [wbatch_yes h2]
    have hcl : (crc (body b)).toNat < 1000000000000000 := by have := (crc (body b)).isLt; omega
    refine .skip ?_
    refine .seq ?_
    refine .region ?_   -- R4 ref.go:133
    refine .rd (.ldN ia27 ts27 rfl .head rfl) ?_
    refine .fn rfl rfl .nil (Knows.pick (.tail .head) k) (rbody_ok b a c hf hs) (fun v G1 hq => ?_)
    obtain ⟨rfl, rfl⟩ := hq
    simp only [List.nil_append]
    refine .rd (.assign rfl) ?_
    refine .nil ?_
    refine .seq ?_
    refine .region ?_   -- R5 ref.go:134
    refine .rd (.move rfl) ?_
    refine .rd (.lenT rfl rfl Try.underlying9 rfl) ?_
    refine .fn rfl rfl .nil (fun _ _ _ => trivial) (Four_ok (body b).length (by omega)) (fun v G1 hq => ?_)
    obtain ⟨rfl, rfl⟩ := hq
    simp only [List.nil_append]
    refine .rd (.move rfl) ?_
    refine .fn rfl rfl .nil (fun _ _ _ => trivial) (rCrc_ok (body b) (by omega)) (fun v G1 hq => ?_)
    obtain ⟨rfl, rfl⟩ := hq
    simp only [List.nil_append]
    refine .fn rfl rfl .nil (fun _ _ _ => trivial) (Four_ok (crc (body b)).toNat hcl) (fun v G1 hq => ?_)
    obtain ⟨rfl, rfl⟩ := hq
    simp only [List.nil_append]
    refine .rd (.catT rfl rfl (by simp only [fours_len]; omega)) ?_
    refine .rd (.move rfl) ?_
    refine .rd (.catT rfl rfl (by simp only [List.length_append, fours_len]; omega)) ?_
    refine .rd (.assign rfl) ?_
    refine .rd (.assign rfl) ?_
    refine .nil ?_
    refine .retP Try.func72 (.cons (.tmp rfl) (.cons (.tmp rfl) .nil)) (.cons (.tail .head) .nil) ?_
    exact ⟨[], ⟨rfl, rfl⟩, rfl⟩

end Go.Proofs.Ytllpkagplfmlbaa

