/- Chapter 3: four bytes, in plain Lean. -/
import Derived.Test.YtllpkagplfmlbaaDefs3c
import Derived.KernelRfl
namespace Go.Proofs.Ytllpkagplfmlbaa
open Go Go.Sp

def fours (n : Nat) : List UInt8 := [UInt8.ofNat (n / 16777216 % 256), UInt8.ofNat (n / 65536 % 256), UInt8.ofNat (n / 256 % 256), UInt8.ofNat (n % 256)]
def four : List UInt8 → Nat
  | a :: b :: c :: d :: _ => a.toNat * 16777216 + b.toNat * 65536 + c.toNat * 256 + d.toNat
  | _ => 0
theorem fours_len (n : Nat) : (fours n).length = 4 := rfl
theorem toNat_256 (n : Nat) : (UInt8.ofNat (n % 256)).toNat = n % 256 := by simp
theorem four_fours {n : Nat} (h : n < 4294967296) (l : List UInt8) : four (fours n ++ l) = n := by
  show (UInt8.ofNat (n / 16777216 % 256)).toNat * 16777216 + (UInt8.ofNat (n / 65536 % 256)).toNat * 65536 + (UInt8.ofNat (n / 256 % 256)).toNat * 256 + (UInt8.ofNat (n % 256)).toNat = n
  rw [toNat_256, toNat_256, toNat_256, toNat_256]; omega
theorem four_lt (l : List UInt8) : four l < 4294967296 := by
  unfold four
  split
  · rename_i a b c d _
    have := a.toNat_lt; have := b.toNat_lt; have := c.toNat_lt; have := d.toNat_lt; omega
  · omega
theorem fill4 (a b c d : Int) : Instr.fill (fun i => some (i * 1, 1)) (madeCells (Value.int .u8 0).cells (4 * 1)) [(0, .int .u8 a), (1, .int .u8 b), (2, .int .u8 c), (3, .int .u8 d)] = some ([.int .u8 a, .int .u8 b, .int .u8 c, .int .u8 d] : List Value).toArray := by kernel_rfl

theorem shr_byte (n k : Nat) (h : k ≤ 64) : (Value.int .u8 (IntKind.u8.wrap ((n : Int).fdiv (2 ^ (min k IntKind.i64.bits))))) = .int .u8 ((UInt8.ofNat (n / 2 ^ k % 256)).toNat : Int) := by
  have e : (n : Int).fdiv (2 ^ (min k IntKind.i64.bits)) = ((n / 2 ^ k : Nat) : Int) := by
    rw [show IntKind.i64.bits = 64 from rfl, Nat.min_eq_left h, Int.fdiv_eq_ediv_of_nonneg _ (by have : (0 : Int) < 2 ^ k := Int.pow_pos (by omega); omega)]; push_cast; rfl
  rw [e, u64_u8, toNat_256]
theorem low_byte (n : Nat) : (Value.int .u8 (IntKind.u8.wrap (n : Int))) = .int .u8 ((UInt8.ofNat (n % 256)).toNat : Int) := by rw [u64_u8, toNat_256]
end Go.Proofs.Ytllpkagplfmlbaa
