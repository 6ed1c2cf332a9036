/- Chapter 3: records of metadata, in plain Lean. -/
import Derived.Test.YtllpkagplfmlbaaDefs3i
namespace Go.Proofs.Ytllpkagplfmlbaa
open Go Go.Sp

structure Met where
  kind : Int
  a : Int
  b : Int
  c : Int
  d : Int
  name : List UInt8
  text : List UInt8
  list : List Int
def icell (n : Int) : List Value := [.int .i64 n]
theorem icell_len (n : Int) : (icell n).length = 1 := rfl
def Met.cells (m : Met) (p : Option Addr) (k : Nat) : List Value := [.int .i64 m.kind, .int .i64 m.a, .int .i64 m.b, .int .i64 m.c, .int .i64 m.d, .string (str m.name), .string (str m.text), .slice p m.list.length k]
structure Met.fits (m : Met) : Prop where
  kind : i64 m.kind
  a : i64 m.a
  b : i64 m.b
  c : i64 m.c
  d : i64 m.d
  name : m.name.length ≤ 140737488351232
  text : m.text.length ≤ 140737488351232
  ints : ∀ n ∈ m.list, i64 n
  len : m.list.length * 8 ≤ 140737488351232
def five (m : Met) : List Int := [m.kind, m.a, m.b, m.c, m.d]
def etext (s : List UInt8) : List UInt8 := eint (s.length : Int) ++ s
def mhead (m : Met) : List UInt8 := (five m).flatMap eint ++ eint (m.name.length : Int) ++ m.name ++ eint (m.text.length : Int) ++ m.text ++ eint (m.list.length : Int)
def mbody (m : Met) : List UInt8 := mhead m ++ m.list.flatMap eint
def wmeta (m : Met) : List UInt8 × Int :=
  if 32 < m.name.length ∨ 1000 < m.text.length then ([], 2)
  else if 64 < m.list.length then ([], 3)
  else if 2044 < (mbody m).length then ([], 2)
  else (fours (crc (mbody m)).toNat ++ mbody m, 0)
theorem five_ok {m : Met} (h : m.fits) : ∀ n ∈ five m, i64 n := fun n hn => by
  simp only [five, List.mem_cons, List.not_mem_nil, or_false] at hn
  rcases hn with rfl | rfl | rfl | rfl | rfl
  · exact h.kind
  · exact h.a
  · exact h.b
  · exact h.c
  · exact h.d
theorem five_at {m : Met} {i : Nat} {n : Int} (h : (five m)[i]? = some n) : (#[Value.int .i64 m.kind, .int .i64 m.a, .int .i64 m.b, .int .i64 m.c, .int .i64 m.d] : Array Value)[i]? = some (.int .i64 n) := by
  have : (#[Value.int .i64 m.kind, .int .i64 m.a, .int .i64 m.b, .int .i64 m.c, .int .i64 m.d] : Array Value) = ((five m).map (Value.int .i64)).toArray := rfl
  rw [this, List.getElem?_toArray, List.getElem?_map, h]; rfl
theorem five_len {m : Met} (hf : m.fits) (i : Nat) : (((five m).take i).flatMap eint).length ≤ 50 := by
  have h1 := flat_le (f := eint) (k := 10) ((five m).take i) fun n hn => eint_len (five_ok hf n (List.mem_of_mem_take hn))
  have h2 : ((five m).take i).length ≤ 5 := by rw [List.length_take]; exact Nat.min_le_right _ _
  omega
structure Met.small (m : Met) : Prop where
  name : m.name.length ≤ 32
  text : m.text.length ≤ 1000
  list : m.list.length ≤ 64
theorem mhead_len {m : Met} (hf : m.fits) (hs : m.small) : (mhead m).length ≤ 2000 := by
  have h1 := five_len hf 5
  rw [show (five m).take 5 = five m from rfl] at h1
  obtain ⟨h2, h3, h4⟩ := hs
  have e1 := eint_len (n := (m.name.length : Int)) ⟨by omega, by omega⟩
  have e2 := eint_len (n := (m.text.length : Int)) ⟨by omega, by omega⟩
  have e3 := eint_len (n := (m.list.length : Int)) ⟨by omega, by omega⟩
  unfold mhead; simp only [List.length_append]; omega
theorem list_len {m : Met} (hf : m.fits) (hs : m.small) (j : Nat) : ((m.list.take j).flatMap eint).length ≤ 640 := by
  have h1 := flat_le (f := eint) (k := 10) (m.list.take j) fun n hn => eint_len (hf.ints n (List.mem_of_mem_take hn))
  have h2 : (m.list.take j).length ≤ 64 := by have := hs.list; rw [List.length_take]; omega
  omega
theorem wmeta_long {m : Met} (h : 32 < m.name.length ∨ 1000 < m.text.length) : wmeta m = ([], 2) := if_pos h
theorem wmeta_many {m : Met} (h : ¬ (32 < m.name.length ∨ 1000 < m.text.length)) (h2 : 64 < m.list.length) : wmeta m = ([], 3) := by unfold wmeta; rw [if_neg h, if_pos h2]
theorem wmeta_much {m : Met} (hs : m.small) (h : 2044 < (mbody m).length) : wmeta m = ([], 2) := by
  obtain ⟨h1, h2, h3⟩ := hs
  unfold wmeta; rw [if_neg (by omega), if_neg (by omega), if_pos h]
theorem wmeta_good {m : Met} (hs : m.small) (h : ¬ 2044 < (mbody m).length) : wmeta m = (fours (crc (mbody m)).toNat ++ mbody m, 0) := by
  obtain ⟨h1, h2, h3⟩ := hs
  unfold wmeta; rw [if_neg (by omega), if_neg (by omega), if_neg h]
/-- A written record of metadata is small. -/
theorem wmeta_zero {m : Met} (h : (wmeta m).2 = 0) : m.small ∧ (mbody m).length ≤ 2044 ∧ (wmeta m).1 = fours (crc (mbody m)).toNat ++ mbody m := by
  unfold wmeta at h ⊢
  split at h
  · cases h
  · split at h
    · cases h
    · split at h
      · cases h
      · rename_i h1 h2 h3
        rw [if_neg h1, if_neg h2, if_neg h3]
        exact ⟨⟨by omega, by omega, by omega⟩, by omega, rfl⟩
end Go.Proofs.Ytllpkagplfmlbaa
