/- Chapter 3: reading a batch, in plain Lean: the cases. -/
import Derived.Test.YtllpkagplfmlbaaDefs3h
namespace Go.Proofs.Ytllpkagplfmlbaa
open Go Go.Sp

section
variable {s : List UInt8}
theorem readBatch_short (h : s.length < 8) : readBatch s = (zeroB, 0, 5) := if_pos h
theorem readBatch_long (h : ¬ s.length < 8) (h2 : 4088 < four s) : readBatch s = (zeroB, 0, 2) := by unfold readBatch; rw [if_neg h, if_pos h2]
theorem readBatch_cut (h : ¬ s.length < 8) (h2 : ¬ 4088 < four s) (h3 : s.length - 8 < four s) : readBatch s = (zeroB, 0, 5) := by unfold readBatch; rw [if_neg h, if_neg h2, if_pos h3]
theorem readBatch_sum {t : List UInt8} (h : ¬ s.length < 8) (h2 : ¬ 4088 < four s) (h3 : ¬ s.length - 8 < four s) (ht : t = (s.drop 8).take (four s)) (h4 : (crc t).toNat ≠ four (s.drop 4)) : readBatch s = (zeroB, 0, 6) := by
  subst ht; unfold readBatch; rw [if_neg h, if_neg h2, if_neg h3, if_pos h4]
theorem readBatch_no {t : List UInt8} (h : ¬ s.length < 8) (h2 : ¬ 4088 < four s) (h3 : ¬ s.length - 8 < four s) (ht : t = (s.drop 8).take (four s)) (h4 : (crc t).toNat = four (s.drop 4)) (hb : pBatch t = none) : readBatch s = (zeroB, 0, 4) := by
  subst ht; unfold readBatch; rw [if_neg h, if_neg h2, if_neg h3, if_neg (by omega), hb]
theorem readBatch_yes {t : List UInt8} {b : Bat} (h : ¬ s.length < 8) (h2 : ¬ 4088 < four s) (h3 : ¬ s.length - 8 < four s) (ht : t = (s.drop 8).take (four s)) (h4 : (crc t).toNat = four (s.drop 4)) (hb : pBatch t = some b) : readBatch s = (b, 8 + (four s : Int), 0) := by
  subst ht; unfold readBatch; rw [if_neg h, if_neg h2, if_neg h3, if_neg (by omega), hb]
end
theorem five_of {xs : List Int} (h : xs.length = 5) : ∃ a b c d e, xs = [a, b, c, d, e] := by
  match xs, h with
  | [a, b, c, d, e], _ => exact ⟨a, b, c, d, e, rfl⟩
theorem ptr_at (b : Nat) {i : Nat} (h : i < 5) : (#[Value.pointer (some ⟨b, 0, none⟩), .pointer (some ⟨b, 1, none⟩), .pointer (some ⟨b, 2, none⟩), .pointer (some ⟨b, 3, none⟩), .pointer (some ⟨b, 4, none⟩)] : Array Value)[i]? = some (.pointer (some ⟨b, i, none⟩)) := by
  match i, h with
  | 0, _ => rfl
  | 1, _ => rfl
  | 2, _ => rfl
  | 3, _ => rfl
  | 4, _ => rfl
theorem vec_len {xs : List Int} (h : xs.length ≤ 5) : (vec xs).length = 5 := by unfold vec; rw [List.length_map, List.length_append, List.length_replicate]; omega
theorem pMany_next {good : Bool} {l t : List UInt8} {xs : List Int} {x : Int} (h : Fol good l ((pMany pI xs.length t).bind fun y => (pI y.2).map fun z => (y.1 ++ [z.1], z.2)) (xs ++ [x])) : Fol good l (pMany pI (xs ++ [x]).length t) (xs ++ [x]) := by rw [List.length_append]; exact h
theorem all_snoc {α : Type} {p : α → Prop} {l : List α} {x : α} (h : ∀ y ∈ l, p y) (hx : p x) : ∀ y ∈ l ++ [x], p y := by
  intro y hy
  rcases List.mem_append.1 hy with hy | hy
  · exact h y hy
  · simp at hy; exact hy ▸ hx
/-- What was read so far. -/
structure Far (n : Int) (rs : List Rec) : Prop where
  most : rs.length ≤ 65
  le : rs = [] ∨ (rs.length : Int) ≤ n
  ok : ∀ r ∈ rs, i64 r.time ∧ r.key.length ≤ 1000 ∧ r.value.length ≤ 1000
theorem Far.nil (n : Int) : Far n [] := ⟨by simp, .inl rfl, by simp⟩
theorem Far.snoc {n : Int} {rs : List Rec} {r : Rec} (h : Far n rs) (hn : (rs.length : Int) < n) (h64 : rs.length ≤ 64) (hr : i64 r.time ∧ r.key.length ≤ 1000 ∧ r.value.length ≤ 1000) : Far n (rs ++ [r]) :=
  ⟨by simp; omega, .inr (by simp; omega), all_snoc h.ok hr⟩
theorem right_many {b : Bat} (h : right b = 0) : 1 ≤ b.recs.length ∧ b.recs.length ≤ 64 := by
  by_cases hno : b.off
  · rw [right_off hno] at h; cases h
  · have h1 : 1 ≤ b.recs.length := by unfold Bat.off at hno; omega
    exact ⟨h1, (right_zero h).1.n⟩
end Go.Proofs.Ytllpkagplfmlbaa
