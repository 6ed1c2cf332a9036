/- Chapter 3: bytes as a record of metadata, in plain Lean. -/
import Derived.Test.YtllpkagplfmlbaaDefs3j
namespace Go.Proofs.Ytllpkagplfmlbaa
open Go Go.Sp

abbrev MH := ((List Int × List UInt8) × List UInt8) × Int
def pMHead (t : List UInt8) : Par MH := (((pMany pI 5 t).bind fun y => (pT 32 y.2).map fun z => ((y.1, z.1), z.2)).bind fun y => (pT 1000 y.2).map fun z => ((y.1, z.1), z.2)).bind fun y => (pI y.2).map fun z => ((y.1, z.1), z.2)
def pMPart (k : Nat) (t : List UInt8) : Par (MH × List Int) := (pMHead t).bind fun x => (pMany pI k x.2).map fun y => ((x.1, y.1), y.2)
def met (x : MH) (l : List Int) : Met := ⟨x.1.1.1.getD 0 0, x.1.1.1.getD 1 0, x.1.1.1.getD 2 0, x.1.1.1.getD 3 0, x.1.1.1.getD 4 0, x.1.1.2, x.1.2, l⟩
def pMeta (t : List UInt8) : Option Met := (pMHead t).bind fun x => if 0 ≤ x.1.2 ∧ x.1.2 ≤ 64 then (pMany pI x.1.2.toNat x.2).bind fun y => if y.2 = [] then some (met x.1 y.1) else none else none
def zeroM : Met := ⟨0, 0, 0, 0, 0, [], [], []⟩
def readMeta (s : List UInt8) : Met × Int :=
  if s.length < 4 then (zeroM, 5)
  else if 2048 < s.length then (zeroM, 2)
  else if (crc (s.drop 4)).toNat ≠ four s then (zeroM, 6)
  else match pMeta (s.drop 4) with
    | some m => (m, 0)
    | none => (zeroM, 4)
section
variable {s : List UInt8}
theorem readMeta_short (h : s.length < 4) : readMeta s = (zeroM, 5) := if_pos h
theorem readMeta_long (h : ¬ s.length < 4) (h2 : 2048 < s.length) : readMeta s = (zeroM, 2) := by unfold readMeta; rw [if_neg h, if_pos h2]
theorem readMeta_sum (h : ¬ s.length < 4) (h2 : ¬ 2048 < s.length) (h3 : (crc (s.drop 4)).toNat ≠ four s) : readMeta s = (zeroM, 6) := by unfold readMeta; rw [if_neg h, if_neg h2, if_pos h3]
theorem readMeta_no (h : ¬ s.length < 4) (h2 : ¬ 2048 < s.length) (h3 : (crc (s.drop 4)).toNat = four s) (hm : pMeta (s.drop 4) = none) : readMeta s = (zeroM, 4) := by unfold readMeta; rw [if_neg h, if_neg h2, if_neg (by omega), hm]
theorem readMeta_yes {m : Met} (h : ¬ s.length < 4) (h2 : ¬ 2048 < s.length) (h3 : (crc (s.drop 4)).toNat = four s) (hm : pMeta (s.drop 4) = some m) : readMeta s = (m, 0) := by unfold readMeta; rw [if_neg h, if_neg h2, if_neg (by omega), hm]
end
theorem pMPart_zero {good : Bool} {l t : List UInt8} {x : MH} (h : Fol good l (pMHead t) x) : Fol good l (pMPart 0 t) (x, []) := by
  rcases h with ⟨hg, h⟩ | ⟨hg, h⟩
  · exact .inl ⟨hg, by unfold pMPart; rw [h]; rfl⟩
  · exact .inr ⟨hg, by unfold pMPart; rw [h]; rfl⟩
theorem pMPart_next {good : Bool} {l t : List UInt8} {x : MH} {rs : List Int} {n : Int} (h : Fol good l ((pMPart rs.length t).bind fun y => (pI y.2).map fun z => ((y.1, z.1), z.2)) ((x, rs), n)) : Fol good l (pMPart (rs ++ [n]).length t) (x, rs ++ [n]) := by
  have e : pMPart (rs ++ [n]).length t = ((pMPart rs.length t).bind fun y => (pI y.2).map fun z => ((y.1, z.1), z.2)).map fun w => ((w.1.1.1, w.1.1.2 ++ [w.1.2]), w.2) := by
    rw [List.length_append]
    unfold pMPart
    cases pMHead t with
    | none => rfl
    | some x =>
      show (Option.bind (pMany pI rs.length x.2) _).map _ = _
      simp only [Option.bind_some]
      cases pMany pI rs.length x.2 with
      | none => rfl
      | some y =>
        simp only [Option.map_some, Option.bind_some]
        cases pI y.2 with
        | none => rfl
        | some z => rfl
  rcases h with ⟨hg, h⟩ | ⟨hg, h⟩
  · exact .inl ⟨hg, by rw [e, h]; rfl⟩
  · exact .inr ⟨hg, by rw [e, h]; rfl⟩
theorem pMeta_range {good : Bool} {l t : List UInt8} {x : MH} (h : Fol good l (pMHead t) x) (hn : ¬ (0 ≤ x.2 ∧ x.2 ≤ 64)) : pMeta t = none := by
  unfold pMeta
  rcases h with ⟨_, h⟩ | ⟨_, h⟩
  · rw [h]; exact if_neg hn
  · rw [h]; rfl
theorem pMPart_none {k m : Nat} {t : List UInt8} (h : pMPart k t = none) (hm : k ≤ m) : pMPart m t = none := by
  unfold pMPart at h ⊢
  cases hh : pMHead t with
  | none => rfl
  | some x =>
    rw [hh] at h
    simp only [Option.bind_some, Option.map_eq_none_iff] at h ⊢
    exact pMany_none h m hm
theorem pMPart_meta {t : List UInt8} {x : MH} {m : List UInt8} (hh : pMHead t = some (x, m)) (hn : 0 ≤ x.2 ∧ x.2 ≤ 64) : pMeta t = (pMPart x.2.toNat t).bind fun y => if y.2 = [] then some (met y.1.1 y.1.2) else none := by
  unfold pMeta pMPart
  rw [hh]
  simp only [Option.bind_some]
  rw [if_pos hn]
  cases pMany pI x.2.toNat m with
  | none => rfl
  | some y => rfl
theorem pMeta_nohead {t : List UInt8} (hh : pMHead t = none) : pMeta t = none := by unfold pMeta; rw [hh]; rfl
theorem pMPart_head {t : List UInt8} {k : Nat} {x rs l} (h : pMPart k t = some ((x, rs), l)) : ∃ m, pMHead t = some (x, m) := by
  unfold pMPart at h
  cases hh : pMHead t with
  | none => rw [hh] at h; cases h
  | some x =>
    rw [hh] at h
    simp only [Option.bind_some, Option.map_eq_some_iff] at h
    obtain ⟨y, hy, e⟩ := h
    cases e
    exact ⟨_, rfl⟩
/-- At the end of the numbers: all was well. -/
theorem pMeta_yes {good : Bool} {l t : List UInt8} {x : MH} {rs : List Int} (h : Fol good l (pMPart rs.length t) (x, rs)) (hn : (rs.length : Int) = x.2) (hg : good = true) (hl : l = []) (hr : 0 ≤ x.2 ∧ x.2 ≤ 64) : pMeta t = some (met x rs) := by
  rcases h with ⟨_, h⟩ | ⟨h, _⟩
  · obtain ⟨m, hm⟩ := pMPart_head h
    rw [pMPart_meta hm hr, ← hn, Int.toNat_natCast, h]
    exact if_pos hl
  · rw [hg] at h; cases h
/-- Or not. -/
theorem pMeta_no {good good' : Bool} {l l' t : List UInt8} {x : MH} {rs : List Int} (hH : Fol good' l' (pMHead t) x) (h : Fol good l (pMPart rs.length t) (x, rs)) (hr : 0 ≤ x.2 ∧ x.2 ≤ 64) (hw : ¬ (good = true ∧ l = [])) (hx : good = true → (rs.length : Int) = x.2) (hle : (rs.length : Int) ≤ x.2) : pMeta t = none := by
  rcases hH with ⟨_, hH⟩ | ⟨_, hH⟩
  · rw [pMPart_meta hH hr]
    rcases h with ⟨hg, h⟩ | ⟨hg, h⟩
    · rw [← hx hg, Int.toNat_natCast, h]
      exact if_neg fun e => hw ⟨hg, e⟩
    · rw [pMPart_none h (by omega)]; rfl
  · exact pMeta_nohead hH
theorem met_cells {x0 x1 x2 x3 x4 : Int} {nm tx : List UInt8} {n : Int} (rs : List Int) (a c) : (met ((([x0, x1, x2, x3, x4], nm), tx), n) rs).cells a c = [.int .i64 x0, .int .i64 x1, .int .i64 x2, .int .i64 x3, .int .i64 x4, .string (str nm), .string (str tx), .slice a rs.length c] := rfl
end Go.Proofs.Ytllpkagplfmlbaa
