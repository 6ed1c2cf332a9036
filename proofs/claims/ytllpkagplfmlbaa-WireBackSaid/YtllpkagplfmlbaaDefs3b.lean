/- Chapter 3: ints as bytes, in plain Lean. -/
import Derived.Test.YtllpkagplfmlbaaDefs3
namespace Go.Proofs.Ytllpkagplfmlbaa
open Go Go.Sp

def i64 (n : Int) : Prop := -9223372036854775808 ≤ n ∧ n ≤ 9223372036854775807

/-- An int as a number from 0 on, and back. -/
def zig (n : Int) : Nat := if n < 0 then (2 * (-(n + 1)) + 1).toNat else (2 * n).toNat
def zag (z : Nat) : Int := if z % 2 = 1 then -((z / 2 : Nat) : Int) - 1 else ((z / 2 : Nat) : Int)
theorem zag_zig (n : Int) : zag (zig n) = n := by unfold zag zig; split <;> split <;> omega
theorem zig_lt {n : Int} (h : i64 n) : zig n < 18446744073709551616 := by obtain ⟨h1, h2⟩ := h; unfold zig; split <;> omega
theorem zag_i64 {z : Nat} (h : z < 18446744073709551616) : i64 (zag z) := by unfold zag i64; split <;> omega

/-- A number by sevens. -/
def vint (z : Nat) : List UInt8 := if z < 128 then [UInt8.ofNat z] else UInt8.ofNat (z % 128 + 128) :: vint (z / 128)
termination_by z
theorem vint_small {z : Nat} (h : z < 128) : vint z = [UInt8.ofNat z] := by rw [vint, if_pos h]
theorem vint_big {z : Nat} (h : ¬ z < 128) : vint z = UInt8.ofNat (z % 128 + 128) :: vint (z / 128) := by rw [vint, if_neg h]
theorem vint_len (z : Nat) : ∀ k, z < 128 ^ (k + 1) → (vint z).length ≤ k + 1 := by
  induction z using Nat.strongRecOn with
  | _ z ih =>
    intro k hk
    by_cases h : z < 128
    · rw [vint_small h]; simp
    · rw [vint_big h]
      cases k with
      | zero => omega
      | succ k =>
        have := ih (z / 128) (by omega) k (by rw [Nat.pow_succ] at hk; omega)
        simp; omega
theorem vint_ten {z : Nat} (h : z < 18446744073709551616) : (vint z).length ≤ 10 := vint_len z 9 (by
  have : (128 : Nat) ^ 10 = 1180591620717411303424 := by decide
  show z < 128 ^ 10
  omega)
theorem vint_pos (z : Nat) : 0 < (vint z).length := by
  by_cases h : z < 128
  · rw [vint_small h]; simp
  · rw [vint_big h]; simp
def eint (n : Int) : List UInt8 := vint (zig n)
theorem eint_len {n : Int} (h : i64 n) : (eint n).length ≤ 10 := vint_ten (zig_lt h)

/-! ### What the program's operations yield -/

theorem wrap_u64 {n : Nat} (h : n < 18446744073709551616) : IntKind.u64.wrap (n : Int) = n := by
  unfold IntKind.wrap; simp [IntKind.signed, IntKind.bits]; omega
theorem wrap_u8 {n : Nat} (h : n < 256) : IntKind.u8.wrap (n : Int) = n := by
  unfold IntKind.wrap; simp [IntKind.signed, IntKind.bits]; omega
theorem u64_u8 (n : Nat) : IntKind.u8.wrap (n : Int) = ((n % 256 : Nat) : Int) := by
  unfold IntKind.wrap; simp [IntKind.signed, IntKind.bits]

theorem wrap_mod (n : Int) : IntKind.i64.wrap n % 18446744073709551616 = n % 18446744073709551616 := by
  unfold IntKind.wrap; simp [IntKind.signed, IntKind.bits]; split <;> omega
theorem u64_of (n : Int) : IntKind.u64.wrap n = n % 18446744073709551616 := by
  unfold IntKind.wrap; simp [IntKind.signed, IntKind.bits]
theorem ofInt_wrap (n : Int) : BitVec.ofInt 64 (IntKind.i64.wrap n) = BitVec.ofInt 64 n := by
  apply BitVec.eq_of_toNat_eq
  rw [BitVec.toNat_ofInt, BitVec.toNat_ofInt]
  show (IntKind.i64.wrap n % 18446744073709551616).toNat = (n % 18446744073709551616).toNat
  rw [wrap_mod]
theorem toNat_ofInt64 (n : Int) : (BitVec.ofInt 64 n).toNat = (n % 18446744073709551616).toNat := by
  rw [BitVec.toNat_ofInt]; rfl

/-- n<<1 ^ n>>63, as an unsigned number. -/
theorem zig_bits {n : Int} (h : i64 n) :
    IntKind.u64.wrap (IntKind.i64.wrap ((BitVec.ofInt 64 (IntKind.i64.wrap (n * 2 ^ (min 1 64))) ^^^ BitVec.ofInt 64 (n.fdiv (2 ^ (min 63 64)))).toNat : Int)) = (zig n : Int) := by
  obtain ⟨h1, h2⟩ := h
  rw [u64_of, wrap_mod, ofInt_wrap]
  have e1 : n * 2 ^ (min 1 64) = n * 2 := rfl
  have e2 : (2 : Int) ^ (min 63 64) = 9223372036854775808 := by decide
  rw [e1, e2]
  unfold zig
  by_cases hn : n < 0
  · have e3 : n.fdiv 9223372036854775808 = -1 := by rw [Int.fdiv_eq_ediv_of_nonneg _ (by omega)]; omega
    rw [e3, if_pos hn, show BitVec.ofInt 64 (-1) = BitVec.allOnes 64 from rfl, BitVec.xor_allOnes, BitVec.toNat_not, toNat_ofInt64]
    omega
  · have e3 : n.fdiv 9223372036854775808 = 0 := by rw [Int.fdiv_eq_ediv_of_nonneg _ (by omega)]; omega
    rw [e3, if_neg hn, show BitVec.ofInt 64 0 = 0#64 from rfl, BitVec.xor_zero, toNat_ofInt64]
    omega

end Go.Proofs.Ytllpkagplfmlbaa
