/- Steps through functions of the program, under conditions that each theorem states (part wire6 of a claim). -/
import Derived.Test.YtllpkagplfmlbaaProg
import Derived.Test.YtllpkagplfmlbaaL13
import Derived.Test.YtllpkagplfmlbaaDefs3d
import Derived.Test.YtllpkagplfmlbaaWire5
namespace Go.Proofs.Ytllpkagplfmlbaa
open Go Go.Sp

set_option linter.unusedVariables false

namespace wire6
theorem ti5 : TI Try.prog 5 1 1 (.int .u8 0) := .of (by kernel_rfl)
end wire6
open wire6

theorem q_byte (n d : Nat) : (Value.int .u8 (IntKind.u8.wrap ((n : Int) / (d : Int)))) = .int .u8 ((UInt8.ofNat (n / d % 256)).toNat : Int) := by
  rw [← Int.natCast_ediv, u64_u8, toNat_256]
theorem qm_byte (n d : Nat) : (Value.int .u8 (IntKind.u8.wrap ((n : Int) / (d : Int) % 256))) = .int .u8 ((UInt8.ofNat (n / d % 256)).toNat : Int) := by
  have e : (n : Int) / (d : Int) % 256 = ((n / d % 256 : Nat) : Int) := by rw [← Int.natCast_ediv]; omega
  rw [e, u64_u8, toNat_256]; congr 2; omega
theorem m_byte (n : Nat) : (Value.int .u8 (IntKind.u8.wrap ((n : Int) % 256))) = .int .u8 ((UInt8.ofNat (n % 256)).toNat : Int) := by
  have e : (n : Int) % 256 = ((n % 256 : Nat) : Int) := by omega
  rw [e, u64_u8, toNat_256]; congr 2; omega

set_option maxRecDepth 20000 in
theorem appendFour_ok (a : Option Addr) (c : Nat) (l : List UInt8) (n : Nat) (hl : l.length ≤ 1000000000000) : Cn Try.prog 42 [.slice a l.length c, .int .i64 (n : Int)] (fun _ => True) [arr 5 1 a c (bcs l)] fun v G => ∃ a' c', v = .slice a' (l ++ fours n).length c' ∧ G = [arr 5 1 a' c' (bcs (l ++ fours n))] := by
  refine .enter Try.func42 rfl (by kernel_rfl) rfl fun R k => ?_
  refine .seq ?_
  refine .region ?_   -- R0 wire.go:100
  refine .rd (.assign rfl) ?_
  refine .nil ?_
  refine .seq ?_
  refine .region ?_   -- R1 wire.go:101
  refine .rd (.move rfl) ?_
  refine .rd (.move rfl) ?_
  refine .rd (.shr (n := 24) rfl rfl) ?_
  refine .rd (.convInt Try.underlying3 Try.underlying5 rfl) ?_
  refine .alter (t := 8) (v' := .int .u8 ((UInt8.ofNat (n / 2 ^ 24 % 256)).toNat : Int)) rfl (by exact shr_byte n 24 (by decide)) ?_
  refine .rd (.move rfl) ?_
  refine .rd (.shr (n := 16) rfl rfl) ?_
  refine .rd (.convInt Try.underlying3 Try.underlying5 rfl) ?_
  refine .alter (t := 11) (v' := .int .u8 ((UInt8.ofNat (n / 2 ^ 16 % 256)).toNat : Int)) rfl (by exact shr_byte n 16 (by decide)) ?_
  refine .rd (.move rfl) ?_
  refine .rd (.shr (n := 8) rfl rfl) ?_
  refine .rd (.convInt Try.underlying3 Try.underlying5 rfl) ?_
  refine .alter (t := 14) (v' := .int .u8 ((UInt8.ofNat (n / 2 ^ 8 % 256)).toNat : Int)) rfl (by exact shr_byte n 8 (by decide)) ?_
  refine .rd (.move rfl) ?_
  refine .rd (.convInt Try.underlying3 Try.underlying5 rfl) ?_
  refine .alter (t := 16) (v' := .int .u8 ((UInt8.ofNat (n % 256)).toNat : Int)) rfl (by exact low_byte n) ?_
  refine .ef (.buildSlice (n := 4) (cs := bcs (fours n)) Try.underlying34 ti5 rfl (by decide) (fill4 _ _ _ _) (ones.of rfl)) ?_
  rintro _ _ ⟨bs, rfl, rfl⟩
  refine .ef (.append rfl rfl Try.underlying34 ti5 rfl (ones.of rfl) (by decide) (by decide) rfl rfl (.tail .head) (n := l.length) (m := 4) (by rw [bcs_len, Nat.mul_one]) (.srcBlk .head Try.underlying34 rfl (by decide)) (by omega)) ?_
  rintro _ _ ⟨ra, rc, rfl, rn, rfl⟩
  refine .rd (.assign rfl) ?_
  refine .nil ?_
  rw [← bcs_append]
  refine .retP Try.func42 (.cons (.tmp rfl) .nil) (.cons .head (.cons (.tail .head) .nil)) ?_
  exact ⟨[_], ⟨ra, rc, by simp only [resVal]; rw [List.length_append]; rfl, rfl⟩, rfl⟩

set_option maxRecDepth 20000 in
theorem Four_ok (n : Nat) (hn : n < 1000000000000000) : Cn Try.prog 22 [.int .i64 (n : Int)] (fun _ => True) [] fun v G => v = .string (str (fours n)) ∧ G = [] := by
  refine .enter Try.func22 rfl (by kernel_rfl) rfl fun R k => ?_
  refine .seq ?_
  refine .region ?_   -- R0 ref.go:119
  refine .rd (.assign rfl) ?_
  refine .nil ?_
  refine .seq ?_
  refine .region ?_   -- R1 ref.go:120
  refine .rd (.move rfl) ?_
  refine .rd (.quo rfl rfl (by omega) (by omega) (by omega)) ?_
  refine .rd (.convInt Try.underlying3 Try.underlying5 rfl) ?_
  refine .alter (t := 5) (v' := .int .u8 ((UInt8.ofNat (n / 16777216 % 256)).toNat : Int)) rfl (by exact q_byte n 16777216) ?_
  refine .rd (.move rfl) ?_
  refine .rd (.quo rfl rfl (by omega) (by omega) (by omega)) ?_
  refine .rd (.rem rfl rfl (by omega) (by omega)) ?_
  refine .rd (.convInt Try.underlying3 Try.underlying5 rfl) ?_
  refine .alter (t := 9) (v' := .int .u8 ((UInt8.ofNat (n / 65536 % 256)).toNat : Int)) rfl (by exact qm_byte n 65536) ?_
  refine .rd (.move rfl) ?_
  refine .rd (.quo rfl rfl (by omega) (by omega) (by omega)) ?_
  refine .rd (.rem rfl rfl (by omega) (by omega)) ?_
  refine .rd (.convInt Try.underlying3 Try.underlying5 rfl) ?_
  refine .alter (t := 13) (v' := .int .u8 ((UInt8.ofNat (n / 256 % 256)).toNat : Int)) rfl (by exact qm_byte n 256) ?_
  refine .rd (.move rfl) ?_
  refine .rd (.rem rfl rfl (by omega) (by omega)) ?_
  refine .rd (.convInt Try.underlying3 Try.underlying5 rfl) ?_
  refine .alter (t := 16) (v' := .int .u8 ((UInt8.ofNat (n % 256)).toNat : Int)) rfl (by exact m_byte n) ?_
  refine .ef (.buildSlice (n := 4) (cs := bcs (fours n)) Try.underlying34 ti5 rfl (by decide) (fill4 _ _ _ _) (ones.of rfl)) ?_
  rintro _ _ ⟨bs, rfl, rfl⟩
  refine .rd (.bytesToStr (l := fours n) Try.underlying34 Try.underlying5 Try.underlying9 rfl rfl (.mono (Knows.blk .head) fun _ h => .inr ⟨bs, 0, rfl, h⟩)) ?_
  refine .rd (.assign rfl) ?_
  refine .nil ?_
  refine .retP Try.func22 (.cons (.tmp rfl) .nil) (.cons (.tail .head) .nil) ?_
  exact ⟨[], ⟨rfl, rfl⟩, rfl⟩

set_option maxRecDepth 20000 in
theorem rfour_ok (l : List UInt8) (h4 : 4 ≤ l.length) : Cn Try.prog 49 [.string (str l)] (fun _ => True) [] fun v G => v = .int .i64 (four l : Int) ∧ G = [] := by
  refine .enter Try.func49 rfl (by kernel_rfl) rfl fun R k => ?_
  obtain ⟨b0, b1, b2, b3, t, rfl⟩ : ∃ b0 b1 b2 b3 t, l = b0 :: b1 :: b2 :: b3 :: t := by
    match l, h4 with
    | b0 :: b1 :: b2 :: b3 :: t, _ => exact ⟨b0, b1, b2, b3, t, rfl⟩
  have h0 := b0.toNat_lt; have h1 := b1.toNat_lt; have h2 := b2.toNat_lt; have h3 := b3.toNat_lt
  refine .seq ?_
  refine .region ?_   -- R0 ref.go:123
  refine .rd (.assign rfl) ?_
  refine .nil ?_
  refine .seq ?_
  refine .draws [2, 6, 11, 16] [] (by kernel_rfl) ?_   -- R1 ref.go:124
  refine .rp 0 rfl (by kernel_rfl) (by kernel_rfl) (by kernel_rfl) (Reads.pure (.move rfl)) ?_
  refine .rp 1 rfl (by kernel_rfl) (by kernel_rfl) (by kernel_rfl) (Reads.pure (.indexT Try.underlying9 rfl rfl (by decide) rfl)) ?_
  refine .rd 2 rfl rfl (by kernel_rfl) (by kernel_rfl) (by kernel_rfl) (.convInt Try.underlying5 Try.underlying3 rfl) .nil ?_
  refine .alter (t := 5) (v' := .int .i64 (b0.toNat : Int)) rfl (by rw [wrap_i64 (by omega) (by omega)]) ?_
  refine .rp 3 rfl (by kernel_rfl) (by kernel_rfl) (by kernel_rfl) (Reads.pure (.mul rfl rfl (by omega) (by omega))) ?_
  refine .rp 4 rfl (by kernel_rfl) (by kernel_rfl) (by kernel_rfl) (Reads.pure (.move rfl)) ?_
  refine .rp 5 rfl (by kernel_rfl) (by kernel_rfl) (by kernel_rfl) (Reads.pure (.indexT Try.underlying9 rfl rfl (by decide) rfl)) ?_
  refine .rd 6 rfl rfl (by kernel_rfl) (by kernel_rfl) (by kernel_rfl) (.convInt Try.underlying5 Try.underlying3 rfl) .nil ?_
  refine .alter (t := 9) (v' := .int .i64 (b1.toNat : Int)) rfl (by rw [wrap_i64 (by omega) (by omega)]) ?_
  refine .rp 7 rfl (by kernel_rfl) (by kernel_rfl) (by kernel_rfl) (Reads.pure (.mul rfl rfl (by omega) (by omega))) ?_
  refine .rp 8 rfl (by kernel_rfl) (by kernel_rfl) (by kernel_rfl) (Reads.pure (.add rfl rfl (by omega) (by omega))) ?_
  refine .rp 9 rfl (by kernel_rfl) (by kernel_rfl) (by kernel_rfl) (Reads.pure (.move rfl)) ?_
  refine .rp 10 rfl (by kernel_rfl) (by kernel_rfl) (by kernel_rfl) (Reads.pure (.indexT Try.underlying9 rfl rfl (by decide) rfl)) ?_
  refine .rd 11 rfl rfl (by kernel_rfl) (by kernel_rfl) (by kernel_rfl) (.convInt Try.underlying5 Try.underlying3 rfl) .nil ?_
  refine .alter (t := 14) (v' := .int .i64 (b2.toNat : Int)) rfl (by rw [wrap_i64 (by omega) (by omega)]) ?_
  refine .rp 12 rfl (by kernel_rfl) (by kernel_rfl) (by kernel_rfl) (Reads.pure (.mul rfl rfl (by omega) (by omega))) ?_
  refine .rp 13 rfl (by kernel_rfl) (by kernel_rfl) (by kernel_rfl) (Reads.pure (.add rfl rfl (by omega) (by omega))) ?_
  refine .rp 14 rfl (by kernel_rfl) (by kernel_rfl) (by kernel_rfl) (Reads.pure (.move rfl)) ?_
  refine .rp 15 rfl (by kernel_rfl) (by kernel_rfl) (by kernel_rfl) (Reads.pure (.indexT Try.underlying9 rfl rfl (by decide) rfl)) ?_
  refine .rd 16 rfl rfl (by kernel_rfl) (by kernel_rfl) (by kernel_rfl) (.convInt Try.underlying5 Try.underlying3 rfl) .nil ?_
  refine .alter (t := 19) (v' := .int .i64 (b3.toNat : Int)) rfl (by rw [wrap_i64 (by omega) (by omega)]) ?_
  refine .rp 17 rfl (by kernel_rfl) (by kernel_rfl) (by kernel_rfl) (Reads.pure (.add rfl rfl (by omega) (by omega))) ?_
  refine .rp 18 rfl (by kernel_rfl) (by kernel_rfl) (by kernel_rfl) (Reads.pure (.assign rfl)) ?_
  refine .done (by kernel_rfl) ?_
  refine .retP Try.func49 (.cons (.tmp rfl) .nil) (.cons .head .nil) ?_
  exact ⟨[], ⟨by simp only [resVal, four]; congr 1, rfl⟩, rfl⟩

end Go.Proofs.Ytllpkagplfmlbaa

