/- Chapter 3: may a batch be? In plain Lean. -/
import Derived.Test.YtllpkagplfmlbaaL14
import Derived.Test.YtllpkagplfmlbaaWire10
namespace Go.Proofs.Ytllpkagplfmlbaa
open Go Go.Sp

def orI (x y : Int) : Int := IntKind.i64.wrap ((BitVec.ofInt 64 x ||| BitVec.ofInt 64 y).toNat : Int)
theorem ofInt_zero {x : Int} (h : i64 x) : BitVec.ofInt 64 x = 0#64 ↔ x = 0 := by
  obtain ⟨h1, h2⟩ := h
  constructor
  · intro e
    have := congrArg BitVec.toNat e
    rw [toNat_ofInt64] at this
    have h0 : (0#64).toNat = 0 := rfl
    omega
  · rintro rfl; rfl
theorem orI_zero {x y : Int} (hx : i64 x) (hy : i64 y) : orI x y = 0 ↔ x = 0 ∧ y = 0 := by
  have h1 : orI x y = 0 ↔ (BitVec.ofInt 64 x ||| BitVec.ofInt 64 y) = 0#64 := by
    unfold orI
    generalize BitVec.ofInt 64 x ||| BitVec.ofInt 64 y = v
    have hv := v.isLt
    constructor
    · intro e
      unfold IntKind.wrap at e; simp [IntKind.signed, IntKind.bits] at e
      apply BitVec.eq_of_toNat_eq
      have h0 : (0#64).toNat = 0 := rfl
      split at e <;> omega
    · rintro rfl; rfl
  rw [h1, BitVec.or_eq_zero_iff, ofInt_zero hx, ofInt_zero hy]
/-- Its numbers may not be. -/
def Bat.off (b : Bat) : Prop := b.base < 0 ∨ ¬ (0 ≤ b.epoch ∧ b.epoch ≤ 1000000000) ∨ ¬ (0 ≤ b.pid ∧ b.pid ≤ 1000000000) ∨ ¬ (0 ≤ b.pidEpoch ∧ b.pidEpoch ≤ 1000000000) ∨ ¬ (0 ≤ b.seq ∧ b.seq ≤ 1000000000) ∨ (b.pid = 0 ∧ (b.pidEpoch ≠ 0 ∨ b.seq ≠ 0)) ∨ b.recs.length = 0
def timely (r : Rec) : Prop := 0 ≤ r.time ∧ r.time ≤ 1000000000
def long (r : Rec) : Bool := decide (1000 < r.key.length) || decide (1000 < r.value.length)
theorem long_iff (r : Rec) : long r = true ↔ 1000 < r.key.length ∨ 1000 < r.value.length := by simp [long]
theorem long_r3 {r : Rec} (h : ¬ 1000 < r.key.length) : long r = decide (1000 < r.value.length) := by unfold long; rw [decide_eq_false h, Bool.false_or]
theorem right_off {b : Bat} (h : b.off) : right b = 1 := if_pos h
theorem right_time {b : Bat} {r : Rec} {j : Nat} (h : b.recs[j]? = some r) (ht : ¬ timely r) : right b = 1 := by
  unfold right
  split
  · rfl
  · rw [if_pos ⟨r, List.mem_of_getElem? h, ht⟩]
theorem right_on {b : Bat} (h : ¬ b.off) (ht : ∀ r ∈ b.recs, timely r) : right b = if 64 < b.recs.length then 3 else if b.recs.any long then 2 else if 1000000000 - (b.recs.length : Int) + 1 < b.base ∨ 1000000 - (b.recs.length : Int) + 1 < b.seq then 20 else if 4088 < (body b).length then 2 else 0 := by
  have h2 : ¬ ∃ r ∈ b.recs, ¬ (0 ≤ r.time ∧ r.time ≤ 1000000000) := fun ⟨r, hr, h⟩ => h (ht r hr)
  have h3 : (∃ r ∈ b.recs, 1000 < r.key.length ∨ 1000 < r.value.length) ↔ b.recs.any long = true := by
    rw [List.any_eq_true]
    exact ⟨fun ⟨r, hr, h⟩ => ⟨r, hr, (long_iff r).2 h⟩, fun ⟨r, hr, h⟩ => ⟨r, hr, (long_iff r).1 h⟩⟩
  unfold Bat.off at h
  unfold right
  rw [if_neg h, if_neg h2]
  simp only [h3]
theorem any_take {α : Type} {f : α → Bool} {l : List α} {j : Nat} {x : α} (h : l[j]? = some x) : (l.take (j + 1)).any f = ((l.take j).any f || f x) := by
  rw [List.take_add_one, h, List.any_append]; simp
theorem all_take {α : Type} {p : α → Prop} {l : List α} {j : Nat} {x : α} (h : l[j]? = some x) (hx : p x) (hj : ∀ y ∈ l.take j, p y) : ∀ y ∈ l.take (j + 1), p y := by
  rw [List.take_add_one, h]
  intro y hy
  rcases List.mem_append.1 hy with hy | hy
  · exact hj y hy
  · simp at hy; exact hy ▸ hx
theorem small_of {b : Bat} (hn : ¬ 64 < b.recs.length) (hl : ¬ b.recs.any long = true) : b.small := ⟨by omega, fun r hr => by
  have : ¬ long r = true := fun h => hl (List.any_eq_true.2 ⟨r, hr, h⟩)
  rw [long_iff] at this; omega⟩
theorem body_len {b : Bat} (hf : b.fits) (hs : b.small) : (body b).length ≤ 200000 := by
  have h1 := six_len hf 6
  rw [show (six b).take 6 = six b from rfl] at h1
  have h2 := flat_le (f := recBody) (k := 2030) b.recs fun r hr => recBody_len hf hs hr
  have h3 := hs.n
  rw [body_six, List.length_append]; omega
theorem right_zero {b : Bat} (h : right b = 0) : b.small ∧ (body b).length ≤ 4088 := by
  by_cases hno : b.off
  · rw [right_off hno] at h; cases h
  by_cases ht : ∀ r ∈ b.recs, timely r
  · rw [right_on hno ht] at h
    split at h
    · cases h
    · split at h
      · cases h
      · rename_i h1 h2
        refine ⟨small_of h1 h2, ?_⟩
        split at h
        · cases h
        · split at h
          · cases h
          · omega
  · have h2 : ∃ r, r ∈ b.recs ∧ ¬ timely r := Classical.byContradiction fun hx => ht fun r hr => Classical.byContradiction fun hy => hx ⟨r, hr, hy⟩
    obtain ⟨r, hr, h3⟩ := h2
    obtain ⟨j, hj⟩ := List.getElem?_of_mem hr
    rw [right_time hj h3] at h; cases h
theorem wbatch_no {b : Bat} (h : right b ≠ 0) : wbatch b = ([], right b) := if_neg h
theorem wbatch_yes {b : Bat} (h : right b = 0) : wbatch b = (fours (body b).length ++ fours (crc (body b)).toNat ++ body b, 0) := if_pos h
end Go.Proofs.Ytllpkagplfmlbaa
