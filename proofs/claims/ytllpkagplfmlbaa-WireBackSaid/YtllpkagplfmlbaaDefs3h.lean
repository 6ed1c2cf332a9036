/- Chapter 3: bytes as batches and as records of metadata, in plain Lean. -/
import Derived.Test.YtllpkagplfmlbaaDefs3g
namespace Go.Proofs.Ytllpkagplfmlbaa
open Go Go.Sp

abbrev Par (α : Type) := Option (α × List UInt8)
def pI (l : List UInt8) : Par Int := if (rint l).2.2 = 0 then some ((rint l).1, l.drop (rint l).2.1) else none
def pT (most : Int) (l : List UInt8) : Par (List UInt8) := (pI l).bind fun x => if 0 ≤ x.1 ∧ x.1 ≤ most ∧ x.1 ≤ x.2.length then some (x.2.take x.1.toNat, x.2.drop x.1.toNat) else none
def pMany {α : Type} (p : List UInt8 → Par α) : Nat → List UInt8 → Par (List α)
  | 0, l => some ([], l)
  | n + 1, l => (pMany p n l).bind fun x => (p x.2).map fun y => (x.1 ++ [y.1], y.2)

theorem pMany_none {α : Type} {p : List UInt8 → Par α} {l : List UInt8} {k : Nat} (h : pMany p k l = none) : ∀ m, k ≤ m → pMany p m l = none := by
  intro m hm
  induction m with
  | zero => obtain rfl : k = 0 := by omega
            exact h
  | succ m ih =>
    by_cases hk : k = m + 1
    · subst hk; exact h
    · rw [pMany, ih (by omega)]; rfl

/-- A reader has followed a reading: all was well, and this was read, or all was not. -/
def Fol {α : Type} (good : Bool) (l : List UInt8) (o : Par α) (x : α) : Prop := (good = true ∧ o = some (x, l)) ∨ (good = false ∧ o = none)

theorem Fol.rdI {α β : Type} {p : Rdr} {o : Par α} {x : α} (h : Fol p.2 p.1 o x) {f : α → Int → β} : Fol (rdI p).2.2 (rdI p).2.1 (o.bind fun y => (pI y.2).map fun z => (f y.1 z.1, z.2)) (f x (rdI p).1) := by
  rcases h with ⟨hg, rfl⟩ | ⟨hg, rfl⟩
  · by_cases he : (rint p.1).2.2 = 0
    · refine .inl ⟨by simp [Go.Proofs.Ytllpkagplfmlbaa.rdI, hg, he], ?_⟩
      simp [pI, he, Go.Proofs.Ytllpkagplfmlbaa.rdI]
    · refine .inr ⟨by simp [Go.Proofs.Ytllpkagplfmlbaa.rdI, he], ?_⟩
      simp [pI, he]
  · exact .inr ⟨by simp [Go.Proofs.Ytllpkagplfmlbaa.rdI, hg], rfl⟩
theorem Fol.rdT {α β : Type} {p : Rdr} {o : Par α} {x : α} (most : Int) (h : Fol p.2 p.1 o x) {f : α → List UInt8 → β} : Fol (rdT most p).2.2 (rdT most p).2.1 (o.bind fun y => (pT most y.2).map fun z => (f y.1 z.1, z.2)) (f x (rdT most p).1) := by
  rcases h with ⟨hg, rfl⟩ | ⟨hg, rfl⟩
  · by_cases he : (rint p.1).2.2 = 0
    · have h1 : pI p.1 = some ((Go.Proofs.Ytllpkagplfmlbaa.rdI p).1, (Go.Proofs.Ytllpkagplfmlbaa.rdI p).2.1) := by simp [pI, he, Go.Proofs.Ytllpkagplfmlbaa.rdI]
      have h2 : (Go.Proofs.Ytllpkagplfmlbaa.rdI p).2.2 = true := by simp [Go.Proofs.Ytllpkagplfmlbaa.rdI, hg, he]
      have h3 : pT most p.1 = if 0 ≤ (Go.Proofs.Ytllpkagplfmlbaa.rdI p).1 ∧ (Go.Proofs.Ytllpkagplfmlbaa.rdI p).1 ≤ most ∧ (Go.Proofs.Ytllpkagplfmlbaa.rdI p).1 ≤ (Go.Proofs.Ytllpkagplfmlbaa.rdI p).2.1.length then some ((Go.Proofs.Ytllpkagplfmlbaa.rdI p).2.1.take (Go.Proofs.Ytllpkagplfmlbaa.rdI p).1.toNat, (Go.Proofs.Ytllpkagplfmlbaa.rdI p).2.1.drop (Go.Proofs.Ytllpkagplfmlbaa.rdI p).1.toNat) else none := by simp [pT, h1]
      by_cases hc : 0 ≤ (Go.Proofs.Ytllpkagplfmlbaa.rdI p).1 ∧ (Go.Proofs.Ytllpkagplfmlbaa.rdI p).1 ≤ most ∧ (Go.Proofs.Ytllpkagplfmlbaa.rdI p).1 ≤ (Go.Proofs.Ytllpkagplfmlbaa.rdI p).2.1.length
      · refine .inl ⟨by simp [Go.Proofs.Ytllpkagplfmlbaa.rdT, hc, h2], ?_⟩
        simp [h3, hc, Go.Proofs.Ytllpkagplfmlbaa.rdT]
      · refine .inr ⟨by simp only [Go.Proofs.Ytllpkagplfmlbaa.rdT, if_neg hc], ?_⟩
        simp [h3, hc]
    · refine .inr ⟨?_, ?_⟩
      · have h2 : (Go.Proofs.Ytllpkagplfmlbaa.rdI p).2.2 = false := by simp [Go.Proofs.Ytllpkagplfmlbaa.rdI, he]
        unfold Go.Proofs.Ytllpkagplfmlbaa.rdT; split
        · exact h2
        · rfl
      · simp [pT, pI, he]
  · refine .inr ⟨?_, rfl⟩
    have h2 : (Go.Proofs.Ytllpkagplfmlbaa.rdI p).2.2 = false := by simp [Go.Proofs.Ytllpkagplfmlbaa.rdI, hg]
    unfold Go.Proofs.Ytllpkagplfmlbaa.rdT; split
    · exact h2
    · rfl
theorem Fol.qdI {α β : Type} {p : Rdr} {o : Par α} {x : α} (h : Fol (!p.2) p.1 o x) {f : α → Int → β} : Fol (!(qdI p).2.2) (qdI p).2.1 (o.bind fun y => (pI y.2).map fun z => (f y.1 z.1, z.2)) (f x (qdI p).1) := by
  rcases h with ⟨hg, rfl⟩ | ⟨hg, rfl⟩
  · have hg' : p.2 = false := by simpa using hg
    by_cases he : (rint p.1).2.2 = 0
    · refine .inl ⟨by simp [Go.Proofs.Ytllpkagplfmlbaa.qdI, hg', he], ?_⟩
      simp [pI, he, Go.Proofs.Ytllpkagplfmlbaa.qdI]
    · refine .inr ⟨by simp [Go.Proofs.Ytllpkagplfmlbaa.qdI, he], ?_⟩
      simp [pI, he]
  · have hg' : p.2 = true := by simpa using hg
    exact .inr ⟨by unfold Go.Proofs.Ytllpkagplfmlbaa.qdI; split <;> simp [hg'], rfl⟩
theorem Fol.qdT {α β : Type} {p : Rdr} {o : Par α} {x : α} (most : Int) (h : Fol (!p.2) p.1 o x) {f : α → List UInt8 → β} : Fol (!(qdT most p).2.2) (qdT most p).2.1 (o.bind fun y => (pT most y.2).map fun z => (f y.1 z.1, z.2)) (f x (qdT most p).1) := by
  have hqt : ∀ h2 : (Go.Proofs.Ytllpkagplfmlbaa.qdI p).2.2 = true, (Go.Proofs.Ytllpkagplfmlbaa.qdT most p).2.2 = true := by
    intro h2
    unfold Go.Proofs.Ytllpkagplfmlbaa.qdT; split
    · exact h2
    · rfl
  rcases h with ⟨hg, rfl⟩ | ⟨hg, rfl⟩
  · have hg' : p.2 = false := by simpa using hg
    by_cases he : (rint p.1).2.2 = 0
    · have h1 : pI p.1 = some ((Go.Proofs.Ytllpkagplfmlbaa.qdI p).1, (Go.Proofs.Ytllpkagplfmlbaa.qdI p).2.1) := by simp [pI, he, Go.Proofs.Ytllpkagplfmlbaa.qdI]
      have h2 : (Go.Proofs.Ytllpkagplfmlbaa.qdI p).2.2 = false := by simp [Go.Proofs.Ytllpkagplfmlbaa.qdI, hg', he]
      have h3 : pT most p.1 = if 0 ≤ (Go.Proofs.Ytllpkagplfmlbaa.qdI p).1 ∧ (Go.Proofs.Ytllpkagplfmlbaa.qdI p).1 ≤ most ∧ (Go.Proofs.Ytllpkagplfmlbaa.qdI p).1 ≤ (Go.Proofs.Ytllpkagplfmlbaa.qdI p).2.1.length then some ((Go.Proofs.Ytllpkagplfmlbaa.qdI p).2.1.take (Go.Proofs.Ytllpkagplfmlbaa.qdI p).1.toNat, (Go.Proofs.Ytllpkagplfmlbaa.qdI p).2.1.drop (Go.Proofs.Ytllpkagplfmlbaa.qdI p).1.toNat) else none := by simp [pT, h1]
      by_cases hc : 0 ≤ (Go.Proofs.Ytllpkagplfmlbaa.qdI p).1 ∧ (Go.Proofs.Ytllpkagplfmlbaa.qdI p).1 ≤ most ∧ (Go.Proofs.Ytllpkagplfmlbaa.qdI p).1 ≤ (Go.Proofs.Ytllpkagplfmlbaa.qdI p).2.1.length
      · refine .inl ⟨by simp [Go.Proofs.Ytllpkagplfmlbaa.qdT, hc, h2], ?_⟩
        simp [h3, hc, Go.Proofs.Ytllpkagplfmlbaa.qdT]
      · refine .inr ⟨by simp only [Go.Proofs.Ytllpkagplfmlbaa.qdT, if_neg hc, Bool.not_true], ?_⟩
        simp [h3, hc]
    · refine .inr ⟨?_, ?_⟩
      · rw [hqt (by simp [Go.Proofs.Ytllpkagplfmlbaa.qdI, he])]; rfl
      · simp [pT, pI, he]
  · have hg' : p.2 = true := by simpa using hg
    refine .inr ⟨?_, rfl⟩
    rw [hqt (by unfold Go.Proofs.Ytllpkagplfmlbaa.qdI; split <;> simp [hg'])]; rfl

theorem rdT_most {m : Int} (r : Rdr) (hm : 0 ≤ m) : ((rdT m r).1.length : Int) ≤ m := by
  unfold rdT
  split
  · rename_i h
    show (((rdI r).2.1.take _).length : Int) ≤ m
    rw [List.length_take]; omega
  · exact hm
theorem qdI_i64 (r : Rdr) : i64 (qdI r).1 := by
  unfold qdI; split
  · exact rint_i64 _
  · exact i64_zero
theorem qdI_len (r : Rdr) : (qdI r).2.1.length ≤ r.1.length := by
  unfold qdI; split
  · show (r.1.drop _).length ≤ _; rw [List.length_drop]; omega
  · exact Nat.zero_le _
theorem qdT_len (m : Int) (r : Rdr) : (qdT m r).2.1.length ≤ r.1.length := by
  unfold qdT; have := qdI_len r
  split
  · show ((qdI r).2.1.drop _).length ≤ _; rw [List.length_drop]; omega
  · exact this
theorem qdT_most {m : Int} (r : Rdr) (hm : 0 ≤ m) : ((qdT m r).1.length : Int) ≤ m := by
  unfold qdT
  split
  · rename_i h
    show (((qdI r).2.1.take _).length : Int) ≤ m
    rw [List.length_take]; omega
  · exact hm

/-! ### Batches -/

def pRec (l : List UInt8) : Par Rec := (pI l).bind fun t => (pT 1000 t.2).bind fun k => (pT 1000 k.2).map fun v => (⟨k.1, v.1, t.1⟩, v.2)
def bat (xs : List Int) (rs : List Rec) : Bat := ⟨xs.getD 0 0, xs.getD 1 0, xs.getD 2 0, xs.getD 3 0, xs.getD 4 0, rs⟩
def pHead (t : List UInt8) : Par (List Int × Int) := (pMany pI 5 t).bind fun x => (pI x.2).map fun n => ((x.1, n.1), n.2)
def pPart (k : Nat) (t : List UInt8) : Par ((List Int × Int) × List Rec) := (pHead t).bind fun x => (pMany pRec k x.2).map fun y => ((x.1, y.1), y.2)
def pBatch (t : List UInt8) : Option Bat := (pHead t).bind fun x => if 1 ≤ x.1.2 ∧ x.1.2 ≤ 64 then (pMany pRec x.1.2.toNat x.2).bind fun y => if y.2 = [] ∧ right (bat x.1.1 y.1) = 0 then some (bat x.1.1 y.1) else none else none
def zeroB : Bat := ⟨0, 0, 0, 0, 0, []⟩
def readBatch (s : List UInt8) : Bat × Int × Int :=
  if s.length < 8 then (zeroB, 0, 5)
  else if 4088 < four s then (zeroB, 0, 2)
  else if s.length - 8 < four s then (zeroB, 0, 5)
  else if (crc ((s.drop 8).take (four s))).toNat ≠ four (s.drop 4) then (zeroB, 0, 6)
  else match pBatch ((s.drop 8).take (four s)) with
    | some b => (b, 8 + (four s : Int), 0)
    | none => (zeroB, 0, 4)

theorem pPart_zero {good : Bool} {l t : List UInt8} {xs : List Int} {n : Int} (h : Fol good l (pHead t) (xs, n)) : Fol good l (pPart 0 t) ((xs, n), []) := by
  rcases h with ⟨hg, h⟩ | ⟨hg, h⟩
  · exact .inl ⟨hg, by unfold pPart; rw [h]; rfl⟩
  · exact .inr ⟨hg, by unfold pPart; rw [h]; rfl⟩
theorem pHead_of {good : Bool} {l t : List UInt8} {f : (List Int) → Int → List Int × Int} {y} (hf : f = fun a b => (a, b)) (h : Fol good l ((pMany pI 5 t).bind fun y => (pI y.2).map fun z => (f y.1 z.1, z.2)) y) : Fol good l (pHead t) y := by subst hf; exact h
/-- One record more. -/
theorem pPart_next {good : Bool} {l t : List UInt8} {k : Nat} {x : (List Int × Int) × List Rec} {r : Rec}
    (h : Fol good l ((((pPart k t).bind fun y => (pI y.2).map fun z => ((y.1, z.1), z.2)).bind fun y => (pT 1000 y.2).map fun z => ((y.1, z.1), z.2)).bind fun y => (pT 1000 y.2).map fun z => ((y.1, z.1), z.2)) (((x, r.time), r.key), r.value)) :
    Fol good l (pPart (k + 1) t) (x.1, x.2 ++ [r]) := by
  have e : pPart (k + 1) t = ((((pPart k t).bind fun y => (pI y.2).map fun z => ((y.1, z.1), z.2)).bind fun y => (pT 1000 y.2).map fun z => ((y.1, z.1), z.2)).bind fun y => (pT 1000 y.2).map fun z => ((y.1, z.1), z.2)).map fun w => ((w.1.1.1.1.1, w.1.1.1.1.2 ++ [⟨w.1.1.2, w.1.2, w.1.1.1.2⟩]), w.2) := by
    unfold pPart
    cases pHead t with
    | none => rfl
    | some x =>
      simp only [Option.bind_some, pMany]
      cases pMany pRec k x.2 with
      | none => rfl
      | some y =>
        simp only [Option.map_some, Option.bind_some, pRec]
        cases pI y.2 with
        | none => rfl
        | some z =>
          simp only [Option.map_some, Option.bind_some]
          cases pT 1000 z.2 with
          | none => rfl
          | some u =>
            simp only [Option.map_some, Option.bind_some]
            cases pT 1000 u.2 with
            | none => rfl
            | some v => rfl
  rcases h with ⟨hg, h⟩ | ⟨hg, h⟩
  · exact .inl ⟨hg, by rw [e, h]; rfl⟩
  · exact .inr ⟨hg, by rw [e, h]; rfl⟩
theorem pPart_none {k m : Nat} {t : List UInt8} (h : pPart k t = none) (hm : k ≤ m) : pPart m t = none := by
  unfold pPart at h ⊢
  cases hh : pHead t with
  | none => rfl
  | some x =>
    rw [hh] at h
    simp only [Option.bind_some, Option.map_eq_none_iff] at h ⊢
    exact pMany_none h m hm
theorem pBatch_some {t : List UInt8} {xs : List Int} {n : Int} {rs : List Rec} (h : pPart n.toNat t = some (((xs, n), rs), [])) (h1 : 1 ≤ n ∧ n ≤ 64) (hr : right (bat xs rs) = 0) : pBatch t = some (bat xs rs) := by
  unfold pPart at h; unfold pBatch
  cases hh : pHead t with
  | none => rw [hh] at h; cases h
  | some x =>
    rw [hh] at h
    simp only [Option.bind_some, Option.map_eq_some_iff] at h ⊢
    obtain ⟨y, hy, e⟩ := h
    obtain ⟨⟨x1, x2⟩, x3⟩ := x
    obtain ⟨y1, y2⟩ := y
    cases e
    rw [if_pos h1, hy]
    simp [hr]
theorem pBatch_inv {t : List UInt8} {b : Bat} (h : pBatch t = some b) : ∃ xs n rs, pPart n.toNat t = some (((xs, n), rs), []) ∧ (1 ≤ n ∧ n ≤ 64) ∧ right (bat xs rs) = 0 ∧ b = bat xs rs := by
  unfold pBatch at h
  cases hh : pHead t with
  | none => rw [hh] at h; cases h
  | some x =>
    rw [hh] at h
    simp only [Option.bind_some] at h
    split at h
    · rename_i h1
      cases hy : pMany pRec x.1.2.toNat x.2 with
      | none => rw [hy] at h; cases h
      | some y =>
        rw [hy] at h
        simp only [Option.bind_some] at h
        split at h
        · rename_i h2
          cases h
          obtain ⟨⟨x1, x2⟩, x3⟩ := x
          obtain ⟨y1, y2⟩ := y
          obtain ⟨rfl, h3⟩ := h2
          exact ⟨x1, x2, y1, by unfold pPart; rw [hh]; simp only [Option.bind_some]; rw [hy]; rfl, h1, h3, rfl⟩
        · cases h
    · cases h
theorem pPart_head {t : List UInt8} {k : Nat} {x rs l} (h : pPart k t = some ((x, rs), l)) : ∃ m, pHead t = some (x, m) := by
  unfold pPart at h
  cases hh : pHead t with
  | none => rw [hh] at h; cases h
  | some x =>
    rw [hh] at h
    simp only [Option.bind_some, Option.map_eq_some_iff] at h
    obtain ⟨y, hy, e⟩ := h
    cases e
    exact ⟨_, rfl⟩
/-- The program is at its loop's end: all was well. -/
theorem pBatch_yes {good : Bool} {l t : List UInt8} {xs n rs} (h : Fol good l (pPart rs.length t) ((xs, n), rs)) (hn : rs.length = n) (hg : good = true) (hl : l = []) (hr : right (bat xs rs) = 0) (h1 : 1 ≤ n ∧ n ≤ 64) : pBatch t = some (bat xs rs) := by
  rcases h with ⟨_, h⟩ | ⟨h, _⟩
  · subst hl; subst hn; exact pBatch_some (by rw [Int.toNat_natCast]; exact h) h1 hr
  · rw [hg] at h; cases h
/-- Or not. -/
theorem pBatch_no {good : Bool} {l t : List UInt8} {xs n rs} (h : Fol good l (pPart rs.length t) ((xs, n), rs)) (hw : ¬ (good = true ∧ l = [] ∧ right (bat xs rs) = 0)) (hx : good = true → 1 ≤ n → n ≤ 64 → rs.length = n) (hle : good = false → 1 ≤ n → n ≤ 64 → (rs.length : Int) ≤ n) (hsame : good = false → pHead t = none ∨ ∃ m, pHead t = some ((xs, n), m)) : pBatch t = none := by
  cases hb : pBatch t with
  | none => rfl
  | some b =>
    exfalso
    obtain ⟨xs', n', rs', h1, h2, h3, rfl⟩ := pBatch_inv hb
    obtain ⟨m', hm'⟩ := pPart_head h1
    rcases h with ⟨hg, h⟩ | ⟨hg, h⟩
    · obtain ⟨m, hm⟩ := pPart_head h
      rw [hm] at hm'; cases hm'
      have := hx hg h2.1 h2.2
      rw [← this] at h1
      rw [show (((rs.length : Nat) : Int)).toNat = rs.length from rfl, h] at h1
      cases h1
      exact hw ⟨hg, rfl, h3⟩
    · rcases hsame hg with h4 | ⟨m, h4⟩
      · rw [h4] at hm'; cases hm'
      · rw [h4] at hm'; cases hm'
        have := hle hg h2.1 h2.2
        rw [pPart_none h (by omega)] at h1; cases h1
theorem Fol.head {good : Bool} {l t : List UInt8} {k : Nat} {x rs} (h : Fol good l (pHead t) x) {good' : Bool} {l' : List UInt8} (_ : Fol good' l' (pPart k t) (x, rs)) : pHead t = none ∨ ∃ m, pHead t = some (x, m) := by
  rcases h with ⟨_, h⟩ | ⟨_, h⟩
  · exact .inr ⟨_, h⟩
  · exact .inl h

def vec (xs : List Int) : List Value := (xs ++ List.replicate (5 - xs.length) 0).map (Value.int .i64)
theorem vec_set {xs : List Int} (h : xs.length < 5) (x : Int) (s : List Value) : (vec xs ++ s).set xs.length (.int .i64 x) = vec (xs ++ [x]) ++ s := by
  match xs, h with
  | [], _ => rfl
  | [_], _ => rfl
  | [_, _], _ => rfl
  | [_, _, _], _ => rfl
  | [_, _, _, _], _ => rfl
theorem vec_five {xs : List Int} (h : xs.length = 5) : vec xs = [.int .i64 (xs.getD 0 0), .int .i64 (xs.getD 1 0), .int .i64 (xs.getD 2 0), .int .i64 (xs.getD 3 0), .int .i64 (xs.getD 4 0)] := by
  match xs, h with
  | [_, _, _, _, _], _ => rfl
theorem bat_cells {xs : List Int} (h : xs.length = 5) (rs : List Rec) (a c) : (bat xs rs).cells a c = vec xs ++ [.slice a rs.length c] := by rw [vec_five h]; rfl
theorem bat_fits {xs : List Int} {rs : List Rec} (h5 : xs.length = 5) (h : ∀ x ∈ xs, i64 x) (hr : ∀ r ∈ rs, i64 r.time ∧ r.key.length ≤ 1000 ∧ r.value.length ≤ 1000) (hn : rs.length ≤ 65) : (bat xs rs).fits := by
  match xs, h5 with
  | [a, b, c, d, e], _ =>
    exact ⟨h _ (by simp [bat]), h _ (by simp [bat]), h _ (by simp [bat]), h _ (by simp [bat]), h _ (by simp [bat]), fun r h => (hr r h).1, fun r h => by have := (hr r h).2.1; omega, fun r h => by have := (hr r h).2.2; omega, by show rs.length * 40 ≤ _; omega⟩
end Go.Proofs.Ytllpkagplfmlbaa
