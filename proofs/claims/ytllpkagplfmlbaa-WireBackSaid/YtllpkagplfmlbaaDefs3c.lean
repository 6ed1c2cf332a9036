/- Chapter 3: bytes as ints, in plain Lean. -/
import Derived.Test.YtllpkagplfmlbaaDefs3b
namespace Go.Proofs.Ytllpkagplfmlbaa
open Go Go.Sp

/-- The next int: its value, how many bytes, what was wrong. -/
def rintGo : Nat → Nat → Nat → List UInt8 → Int × Nat × Int
  | 0, _, _, _ => (0, 0, 4)
  | _ + 1, _, _, [] => (0, 0, 5)
  | f + 1, i, z, b :: l =>
    if i = 9 ∧ 1 < b.toNat then (0, 0, 4)
    else if 127 < b.toNat then rintGo f (i + 1) (z + b.toNat % 128 * 128 ^ i) l
    else if 0 < i ∧ b.toNat = 0 then (0, 0, 4)
    else (zag (z + b.toNat % 128 * 128 ^ i), i + 1, 0)
def rint (l : List UInt8) : Int × Nat × Int := rintGo 10 0 0 l

theorem pow7 (i : Nat) : 2 ^ (7 * i) = 128 ^ i := by rw [Nat.pow_mul]

/-- What is read so far fits. -/
theorem z_next {z i b : Nat} (hz : z < 128 ^ i) : z + b % 128 * 128 ^ i < 128 ^ (i + 1) := by
  have h1 : b % 128 * 128 ^ i ≤ 127 * 128 ^ i := Nat.mul_le_mul_right _ (by omega)
  rw [Nat.pow_succ]; omega
theorem z_fits {z i b : Nat} (hz : z < 128 ^ i) (hi : i ≤ 9) (h9 : ¬ (i = 9 ∧ 1 < b)) : z + b % 128 * 128 ^ i < 18446744073709551616 := by
  by_cases h : i = 9
  · subst h
    have : (128 : Nat) ^ 9 = 9223372036854775808 := by decide
    rw [this] at hz ⊢
    have : b % 128 ≤ 1 := by omega
    omega
  · have h1 := z_next (b := b) hz
    have h2 : 128 ^ (i + 1) ≤ 128 ^ 9 := Nat.pow_le_pow_right (by omega) (by omega)
    have : (128 : Nat) ^ 9 = 9223372036854775808 := by decide
    omega

theorem and127 (b : UInt8) : IntKind.u64.wrap (IntKind.u8.wrap ((BitVec.ofInt 8 (b.toNat : Int) &&& BitVec.ofInt 8 127).toNat : Int)) = ((b.toNat % 128 : Nat) : Int) := by
  have key : ∀ m : Fin 256, (BitVec.ofInt 8 ((m : Nat) : Int) &&& BitVec.ofInt 8 127).toNat = (m : Nat) % 128 := by decide +kernel
  have h := key ⟨b.toNat, b.toNat_lt⟩
  simp only at h
  rw [h, wrap_u8 (by omega), wrap_u64 (by omega)]

theorem or_shift {z i b : Nat} (hz : z < 128 ^ i) (hi : i ≤ 9) (h9 : ¬ (i = 9 ∧ 1 < b)) :
    IntKind.u64.wrap ((BitVec.ofInt 64 (z : Int) ||| BitVec.ofInt 64 (IntKind.u64.wrap (((b % 128 : Nat) : Int) * 2 ^ (min (7 * i) 64)))).toNat : Int) = ((z + b % 128 * 128 ^ i : Nat) : Int) := by
  have hf := z_fits hz hi h9
  have e1 : (((b % 128 : Nat) : Int) * 2 ^ (min (7 * i) 64)) = ((b % 128 * 128 ^ i : Nat) : Int) := by
    rw [Nat.min_eq_left (by omega), ← pow7]; push_cast; rfl
  rw [e1, wrap_u64 (n := b % 128 * 128 ^ i) (by omega), BitVec.toNat_or, toNat_ofInt64, toNat_ofInt64]
  have e2 : ((z : Int) % 18446744073709551616).toNat = z := by omega
  have e3 : (((b % 128 * 128 ^ i : Nat) : Int) % 18446744073709551616).toNat = b % 128 * 128 ^ i := by omega
  rw [e2, e3, wrap_u64]
  · have := Nat.shiftLeft_add_eq_or_of_lt (i := 7 * i) (b := z) (by rw [pow7]; exact hz) (b % 128)
    rw [Nat.shiftLeft_eq, pow7] at this
    rw [Nat.or_comm, ← this, Nat.add_comm]
  · have := Nat.shiftLeft_add_eq_or_of_lt (i := 7 * i) (b := z) (by rw [pow7]; exact hz) (b % 128)
    rw [Nat.shiftLeft_eq, pow7] at this
    rw [Nat.or_comm, ← this]; omega

/-- int(z>>1) ^ -int(z&1). -/
theorem zag_bits {z : Nat} (hz : z < 18446744073709551616) :
    IntKind.i64.wrap ((BitVec.ofInt 64 (IntKind.i64.wrap ((z : Int).fdiv (2 ^ (min 1 64)))) ^^^ BitVec.ofInt 64 (IntKind.i64.wrap (-(IntKind.i64.wrap (IntKind.u64.wrap ((BitVec.ofInt 64 (z : Int) &&& BitVec.ofInt 64 1).toNat : Int)))))).toNat : Int) = zag z := by
  have e0 : (z : Int).fdiv (2 ^ (min 1 64)) = ((z / 2 : Nat) : Int) := by
    show (z : Int).fdiv 2 = _
    rw [Int.fdiv_eq_ediv_of_nonneg _ (by omega)]; omega
  have e1 : (BitVec.ofInt 64 (z : Int) &&& BitVec.ofInt 64 1).toNat = z % 2 := by
    rw [BitVec.toNat_and, toNat_ofInt64, show ((z : Int) % 18446744073709551616).toNat = z by omega]
    show z &&& 1 = _
    rw [Nat.and_one_is_mod]
  rw [e0, e1, wrap_u64 (by omega), wrap_i64 (n := ((z % 2 : Nat) : Int)) (by omega) (by omega), ofInt_wrap, ofInt_wrap]
  unfold zag
  by_cases h : z % 2 = 1
  · rw [if_pos h, h, show BitVec.ofInt 64 (-((1 : Nat) : Int)) = BitVec.allOnes 64 from rfl, BitVec.xor_allOnes, BitVec.toNat_not, toNat_ofInt64]
    unfold IntKind.wrap; simp [IntKind.signed, IntKind.bits]; split <;> omega
  · rw [if_neg h, show z % 2 = 0 by omega, show BitVec.ofInt 64 (-((0 : Nat) : Int)) = 0#64 from rfl, BitVec.xor_zero, toNat_ofInt64]
    rw [wrap_i64 (by omega) (by omega)]; omega

end Go.Proofs.Ytllpkagplfmlbaa
