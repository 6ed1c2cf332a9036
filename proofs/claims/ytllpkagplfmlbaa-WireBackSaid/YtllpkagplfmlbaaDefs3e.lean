/- Chapter 3: reading on, in plain Lean. -/
import Derived.Test.YtllpkagplfmlbaaDefs3d
namespace Go.Proofs.Ytllpkagplfmlbaa
open Go Go.Sp

theorem rintGo_le : ∀ (f i z : Nat) (l : List UInt8), (rintGo f i z l).2.1 ≤ i + l.length
  | 0, _, _, _ => Nat.zero_le _
  | _ + 1, _, _, [] => Nat.zero_le _
  | f + 1, i, z, b :: l => by
    unfold rintGo
    split
    · exact Nat.zero_le _
    · split
      · have := rintGo_le f (i + 1) (z + b.toNat % 128 * 128 ^ i) l
        simp only [List.length_cons]; omega
      · split
        · exact Nat.zero_le _
        · simp only [List.length_cons]; omega
theorem rint_le (l : List UInt8) : (rint l).2.1 ≤ l.length := by have := rintGo_le 10 0 0 l; unfold rint; omega
theorem i64_zero : i64 0 := ⟨by decide, by decide⟩
theorem rintGo_i64 : ∀ (f i z : Nat) (l : List UInt8), z < 128 ^ i → i + f ≤ 10 → i64 (rintGo f i z l).1
  | 0, _, _, _, _, _ => i64_zero
  | _ + 1, _, _, [], _, _ => i64_zero
  | f + 1, i, z, b :: l, hz, hi => by
    unfold rintGo
    split
    · exact i64_zero
    · rename_i h9
      split
      · exact rintGo_i64 f (i + 1) _ l (z_next hz) (by omega)
      · split
        · exact i64_zero
        · exact zag_i64 (z_fits hz (by omega) h9)
theorem rint_i64 (l : List UInt8) : i64 (rint l).1 := rintGo_i64 10 0 0 l (by decide) (by omega)
theorem rintGo_err : ∀ (f i z : Nat) (l : List UInt8), (rintGo f i z l).2.2 ≠ 0 → (rintGo f i z l).1 = 0 ∧ (rintGo f i z l).2.1 = 0
  | 0, _, _, _, _ => ⟨rfl, rfl⟩
  | _ + 1, _, _, [], _ => ⟨rfl, rfl⟩
  | f + 1, i, z, b :: l, h => by
    unfold rintGo at h ⊢
    split
    · exact ⟨rfl, rfl⟩
    · rename_i h9
      rw [if_neg h9] at h
      split
      · rename_i h1
        rw [if_pos h1] at h
        exact rintGo_err f (i + 1) _ l h
      · rename_i h1
        rw [if_neg h1] at h
        split
        · exact ⟨rfl, rfl⟩
        · rename_i h2
          rw [if_neg h2] at h
          exact absurd rfl h
theorem rint_err {l : List UInt8} (h : (rint l).2.2 ≠ 0) : (rint l).1 = 0 ∧ (rint l).2.1 = 0 := rintGo_err 10 0 0 l h

/-- A reader: what is left, and whether all was well. -/
abbrev Rdr := List UInt8 × Bool
def rdI (r : Rdr) : Int × Rdr := ((rint r.1).1, r.1.drop (rint r.1).2.1, r.2 && decide ((rint r.1).2.2 = 0))
def rdT (most : Int) (r : Rdr) : List UInt8 × Rdr :=
  if 0 ≤ (rdI r).1 ∧ (rdI r).1 ≤ most ∧ (rdI r).1 ≤ (rdI r).2.1.length then ((rdI r).2.1.take (rdI r).1.toNat, (rdI r).2.1.drop (rdI r).1.toNat, (rdI r).2.2) else ([], (rdI r).2.1, false)
/-- The reference's: what is left, and whether anything was wrong. -/
def qdI (r : Rdr) : Int × Rdr := if (rint r.1).2.2 = 0 then ((rint r.1).1, r.1.drop (rint r.1).2.1, r.2) else (0, [], true)
def qdT (most : Int) (r : Rdr) : List UInt8 × Rdr :=
  if 0 ≤ (qdI r).1 ∧ (qdI r).1 ≤ most ∧ (qdI r).1 ≤ (qdI r).2.1.length then ((qdI r).2.1.take (qdI r).1.toNat, (qdI r).2.1.drop (qdI r).1.toNat, (qdI r).2.2) else ([], (qdI r).2.1, true)
theorem rdI_len (r : Rdr) : (rdI r).2.1.length ≤ r.1.length := by show (r.1.drop _).length ≤ _; rw [List.length_drop]; omega
theorem rdT_len (m : Int) (r : Rdr) : (rdT m r).2.1.length ≤ r.1.length := by
  unfold rdT; have := rdI_len r
  split
  · show ((rdI r).2.1.drop _).length ≤ _; rw [List.length_drop]; omega
  · exact this
end Go.Proofs.Ytllpkagplfmlbaa
