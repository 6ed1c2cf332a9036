/- A separation logic over the given machine. Part 12: unsigned arithmetic by bit vectors; bytes. -/
import Derived.Test.YtahpokcigdjilaaL11
namespace Go.Sp
open Go

/-- An unsigned kind. -/
def IsU (k : IntKind) : Prop := k.signed = false

theorem wrap_u {k : IntKind} (hk : k.signed = false) (v : BitVec k.bits) : k.wrap (v.toNat : Int) = v.toNat := by
  unfold IntKind.wrap
  have h : ((v.toNat : Int)) % (2 ^ k.bits : Int) = v.toNat := by
    rw [Int.emod_eq_of_lt (by omega)]
    have := v.isLt
    exact_mod_cast this
  simp [hk, h]

theorem wrap_un {k : IntKind} (hk : k.signed = false) (n : Int) : k.wrap n = ((BitVec.ofInt k.bits n).toNat : Int) := by
  unfold IntKind.wrap
  simp only [hk, Bool.false_and, Bool.false_eq_true, if_false]
  rw [BitVec.toNat_ofInt]
  have : 0 ≤ n % (2 ^ k.bits : Int) := Int.emod_nonneg _ (by have : (0 : Int) < 2 ^ k.bits := Int.pow_pos (by omega); omega)
  rw [Int.toNat_of_nonneg]
  · norm_cast
  · norm_cast

theorem ofInt_toNat {w : Nat} (v : BitVec w) : BitVec.ofInt w (v.toNat : Int) = v := by
  apply BitVec.eq_of_toNat_eq; simp

section
variable {P : Program} {N : Nat} {E : Env} {Γ Γ' : List SProp} {dst : Option Tmp} {ty : TypeId} {pos : String} {after : Array Edge} {guard : Option (Nat × Bool)}

theorem Reads.xorU {t x y t'} {k : IntKind} {a b : BitVec k.bits} (hk : k.signed = false) (hx : ev E x = some (.int k (a.toNat : Int))) (hy : ev E y = some (.int k (b.toNat : Int))) :
    Reads P N E Γ ⟨dst, .binOp .xor t x y t', ty, pos, after, guard⟩ (.int k ((a ^^^ b).toNat : Int)) := by
  have := Reads.xor (P := P) (N := N) (Γ := Γ) (dst := dst) (t := t) (t' := t') (ty := ty) (pos := pos) (after := after) (guard := guard) hx hy
  rwa [ofInt_toNat, ofInt_toNat, wrap_u hk] at this
theorem Reads.andU {t x y t'} {k : IntKind} {a b : BitVec k.bits} (hk : k.signed = false) (hx : ev E x = some (.int k (a.toNat : Int))) (hy : ev E y = some (.int k (b.toNat : Int))) :
    Reads P N E Γ ⟨dst, .binOp .and t x y t', ty, pos, after, guard⟩ (.int k ((a &&& b).toNat : Int)) := by
  have := Reads.and (P := P) (N := N) (Γ := Γ) (dst := dst) (t := t) (t' := t') (ty := ty) (pos := pos) (after := after) (guard := guard) hx hy
  rwa [ofInt_toNat, ofInt_toNat, wrap_u hk] at this
theorem Reads.orU {t x y t'} {k : IntKind} {a b : BitVec k.bits} (hk : k.signed = false) (hx : ev E x = some (.int k (a.toNat : Int))) (hy : ev E y = some (.int k (b.toNat : Int))) :
    Reads P N E Γ ⟨dst, .binOp .or t x y t', ty, pos, after, guard⟩ (.int k ((a ||| b).toNat : Int)) := by
  have := Reads.or (P := P) (N := N) (Γ := Γ) (dst := dst) (t := t) (t' := t') (ty := ty) (pos := pos) (after := after) (guard := guard) hx hy
  rwa [ofInt_toNat, ofInt_toNat, wrap_u hk] at this
theorem Reads.negU {t x} {k : IntKind} {a : BitVec k.bits} (hk : k.signed = false) (hx : ev E x = some (.int k (a.toNat : Int))) :
    Reads P N E Γ ⟨dst, .unOp .neg t x, ty, pos, after, guard⟩ (.int k ((-a).toNat : Int)) := by
  have := Reads.negW (P := P) (N := N) (Γ := Γ) (dst := dst) (t := t) (ty := ty) (pos := pos) (after := after) (guard := guard) hx
  rwa [wrap_un hk, BitVec.ofInt_neg, ofInt_toNat] at this
theorem Reads.shrU {t x y t'} {k j : IntKind} {a : BitVec k.bits} {n : Nat} (hn : n ≤ k.bits) (hx : ev E x = some (.int k (a.toNat : Int))) (hy : ev E y = some (.int j (n : Int))) :
    Reads P N E Γ ⟨dst, .binOp .shr t x y t', ty, pos, after, guard⟩ (.int k ((a >>> n).toNat : Int)) := by
  have := Reads.shr (P := P) (N := N) (Γ := Γ) (dst := dst) (t := t) (t' := t') (ty := ty) (pos := pos) (after := after) (guard := guard) hx hy
  rw [Nat.min_eq_left hn] at this
  have e : (a.toNat : Int).fdiv (2 ^ n) = ((a >>> n).toNat : Int) := by
    rw [BitVec.toNat_ushiftRight, Nat.shiftRight_eq_div_pow, Int.fdiv_eq_ediv_of_nonneg _ (by have : (0 : Int) < 2 ^ n := Int.pow_pos (by omega); omega)]
    norm_cast
  rwa [e] at this
/-- Exclusive or with all ones. -/
theorem Reads.comU {t x} {k : IntKind} {a : BitVec k.bits} (hk : k.signed = false) (hx : ev E x = some (.int k (a.toNat : Int))) :
    Reads P N E Γ ⟨dst, .unOp .xor t x, ty, pos, after, guard⟩ (.int k ((~~~ a).toNat : Int)) := fun _ w ac hf _ => by
  have hm : BitVec.ofInt k.bits k.max = BitVec.allOnes k.bits := by cases k <;> first | rfl | cases hk
  simp [execOp, hf.eval hx, Op.unary, hk, Op.intBits, -BitVec.toNat_xor, -BitVec.toNat_not, -BitVec.toNat_ofInt]
  rw [hm, BitVec.allOnes_xor]
  exact wrap_u hk _

end
end Go.Sp
