/- Chapter 3: what is written is read as it was; in plain Lean. -/
import Derived.Test.YtllpkagplfmlbaaDefs3k
namespace Go.Proofs.Ytllpkagplfmlbaa
open Go Go.Sp

theorem toNat_ofNat8 {n : Nat} (h : n < 256) : (UInt8.ofNat n).toNat = n := by rw [UInt8.toNat_ofNat']; omega
theorem rintGo_vint : ∀ (f i z w : Nat) (l : List UInt8), i + f = 10 → w * 128 ^ i < 18446744073709551616 → (i = 0 ∨ 0 < w) → 0 < f → rintGo f i z (vint w ++ l) = (zag (z + w * 128 ^ i), i + (vint w).length, 0)
  | 0, _, _, _, _, _, _, _, h => absurd h (by omega)
  | f + 1, i, z, w, l, hif, hw, hp, _ => by
    have h9 : i = 9 → w < 2 := fun e => by
      subst e
      have : (128 : Nat) ^ 9 = 9223372036854775808 := by decide
      rw [this] at hw; omega
    by_cases h : w < 128
    · rw [vint_small h]
      show rintGo (f + 1) i z (UInt8.ofNat w :: l) = _
      unfold rintGo
      rw [toNat_ofNat8 (by omega), if_neg (by intro ⟨a, b⟩; have := h9 a; omega), if_neg (by omega), if_neg (by omega), Nat.mod_eq_of_lt h]; rfl
    · rw [vint_big h]
      show rintGo (f + 1) i z (UInt8.ofNat (w % 128 + 128) :: (vint (w / 128) ++ l)) = _
      have hi : i ≠ 9 := fun e => by have := h9 e; omega
      have e1 : w * 128 ^ i = w / 128 * 128 ^ (i + 1) + w % 128 * 128 ^ i := by
        rw [Nat.pow_succ, Nat.mul_comm (128 ^ i) 128, ← Nat.mul_assoc, ← Nat.add_mul]
        congr 1; omega
      unfold rintGo
      rw [toNat_ofNat8 (by omega), if_neg (by intro ⟨a, _⟩; exact hi a), if_pos (by omega), show (w % 128 + 128) % 128 = w % 128 by omega,
        rintGo_vint f (i + 1) _ (w / 128) l (by omega) (by omega) (.inr (by omega)) (by omega), e1]
      simp only [List.length_cons]
      congr 2
      · omega
      · omega
theorem rint_eint {n : Int} (h : i64 n) (l : List UInt8) : rint (eint n ++ l) = (n, (eint n).length, 0) := by
  have := rintGo_vint 10 0 0 (zig n) l rfl (by have := zig_lt h; omega) (.inl rfl) (by omega)
  unfold rint eint; rw [this]
  simp [zag_zig]
theorem pI_eint {n : Int} (h : i64 n) (l : List UInt8) : pI (eint n ++ l) = some (n, l) := by
  unfold pI; rw [rint_eint h]; simp
theorem eint_inj {n k : Int} (hn : i64 n) (hk : i64 k) : eint n = eint k ↔ n = k :=
  ⟨fun h => by have h1 := pI_eint hn []; rw [h, pI_eint hk] at h1; cases h1; rfl, fun h => by rw [h]⟩
theorem pT_text {s : List UInt8} {most : Int} (h : (s.length : Int) ≤ most) (hm : most ≤ 9000000000000000000) (l : List UInt8) : pT most (eint (s.length : Int) ++ (s ++ l)) = some (s, l) := by
  unfold pT; rw [pI_eint ⟨by omega, by omega⟩]
  simp only [Option.bind_some]
  rw [if_pos ⟨by omega, h, by rw [List.length_append]; omega⟩]
  simp
theorem pMany_flat {α : Type} {p : List UInt8 → Par α} {e : α → List UInt8} (xs : List α) (hp : ∀ x ∈ xs, ∀ l, p (e x ++ l) = some (x, l)) (l : List UInt8) : ∀ n, n ≤ xs.length → pMany p n (xs.flatMap e ++ l) = some (xs.take n, (xs.drop n).flatMap e ++ l)
  | 0, _ => by simp [pMany]
  | n + 1, h => by
    obtain ⟨x, hx⟩ : ∃ x, xs[n]? = some x := ⟨_, List.getElem?_eq_getElem (by omega)⟩
    have hd : xs.drop n = x :: xs.drop (n + 1) := by
      rw [List.getElem?_eq_getElem (by omega)] at hx
      cases hx
      exact (List.drop_eq_getElem_cons (by omega))
    rw [pMany, pMany_flat xs hp l n (by omega)]
    simp only [Option.bind_some]
    rw [hd, List.flatMap_cons, List.append_assoc, hp x (List.mem_of_getElem? hx)]
    simp [List.take_add_one, hx]
theorem pMany_all {α : Type} {p : List UInt8 → Par α} {e : α → List UInt8} (xs : List α) (hp : ∀ x ∈ xs, ∀ l, p (e x ++ l) = some (x, l)) (l : List UInt8) : pMany p xs.length (xs.flatMap e ++ l) = some (xs, l) := by
  rw [pMany_flat xs hp l _ (Nat.le_refl _)]; simp

theorem pRec_rec {r : Rec} (ht : i64 r.time) (hk : r.key.length ≤ 1000) (hv : r.value.length ≤ 1000) (l : List UInt8) : pRec (recBody r ++ l) = some (r, l) := by
  unfold pRec recBody
  have e : eint r.time ++ eint (r.key.length : Int) ++ r.key ++ eint (r.value.length : Int) ++ r.value ++ l = eint r.time ++ (eint (r.key.length : Int) ++ (r.key ++ (eint (r.value.length : Int) ++ (r.value ++ l)))) := by simp only [List.append_assoc]
  rw [e, pI_eint ht]
  simp only [Option.bind_some]
  rw [pT_text (by omega) (by omega)]
  simp only [Option.bind_some]
  rw [pT_text (by omega) (by omega)]
  rfl
theorem pBatch_body {b : Bat} (hf : b.fits) (hr : right b = 0) : pBatch (body b) = some b := by
  obtain ⟨hs, _⟩ := right_zero hr
  have hmany := right_many hr
  have e : body b = [b.base, b.epoch, b.pid, b.pidEpoch, b.seq].flatMap eint ++ (eint (b.recs.length : Int) ++ (b.recs.flatMap recBody ++ [])) := by simp [body]
  have h1 := pMany_all (p := pI) (e := eint) [b.base, b.epoch, b.pid, b.pidEpoch, b.seq] (fun x hx l => pI_eint (six_ok hf x (by simp only [six, List.mem_cons, List.not_mem_nil, or_false] at hx ⊢; omega)) l) (eint (b.recs.length : Int) ++ (b.recs.flatMap recBody ++ []))
  have h2 : pHead (body b) = some (([b.base, b.epoch, b.pid, b.pidEpoch, b.seq], (b.recs.length : Int)), b.recs.flatMap recBody ++ []) := by
    unfold pHead; rw [e]
    rw [show pMany pI 5 _ = _ from h1]
    simp only [Option.bind_some]
    rw [pI_eint ⟨by omega, by omega⟩]; rfl
  have h3 := pMany_all (p := pRec) (e := recBody) b.recs (fun r hr l => pRec_rec (hf.time r hr) (hs.k r hr).1 (hs.k r hr).2 l) []
  unfold pBatch; rw [h2]
  simp only [Option.bind_some]
  rw [if_pos ⟨by omega, by omega⟩, Int.toNat_natCast, h3]
  exact if_pos ⟨rfl, hr⟩

theorem four_append {l m : List UInt8} (h : 4 ≤ l.length) : four (l ++ m) = four l := by
  match l, h with
  | a :: b :: c :: d :: t, _ => rfl
/-- A written batch, whatever stands behind it. -/
theorem read_write {b : Bat} (hf : b.fits) (hr : right b = 0) (more : List UInt8) : readBatch ((wbatch b).1 ++ more) = (b, ((wbatch b).1.length : Int), 0) := by
  obtain ⟨hs, hbl⟩ := right_zero hr
  rw [wbatch_yes hr]
  show readBatch (fours (body b).length ++ fours (crc (body b)).toNat ++ body b ++ more) = _
  have hcl : (crc (body b)).toNat < 4294967296 := (crc (body b)).isLt
  have e4 : four (fours (body b).length ++ fours (crc (body b)).toNat ++ body b ++ more) = (body b).length := by
    rw [List.append_assoc, List.append_assoc, four_fours (by omega)]
  have e8 : (fours (body b).length ++ fours (crc (body b)).toNat ++ body b ++ more).drop 4 = fours (crc (body b)).toNat ++ (body b ++ more) := by
    rw [List.append_assoc, List.append_assoc]; exact List.drop_left' rfl
  have e9 : (fours (body b).length ++ fours (crc (body b)).toNat ++ body b ++ more).drop 8 = body b ++ more := by
    rw [List.append_assoc (fours (body b).length ++ fours (crc (body b)).toNat)]; exact List.drop_left' rfl
  have el : (fours (body b).length ++ fours (crc (body b)).toNat ++ body b ++ more).length = 8 + (body b).length + more.length := by
    simp only [List.length_append, fours_len]
  have et : (body b ++ more).take (body b).length = body b := by simp
  rw [readBatch_yes (t := body b) (b := b) (by rw [el]; omega) (by rw [e4]; omega) (by rw [el, e4]; omega) (by rw [e4, e9, et]) (by rw [e8, four_fours hcl]) (pBatch_body hf hr), e4]
  simp only [List.length_append, fours_len]
  congr 1
theorem wbatch_len {b : Bat} (hr : right b = 0) : (wbatch b).1.length = 8 + (body b).length := by rw [wbatch_yes hr]; simp only [List.length_append, fours_len]

theorem pMHead_body {m : Met} (hf : m.fits) (hs : m.small) (l : List UInt8) : pMHead (mbody m ++ l) = some ((((five m, m.name), m.text), (m.list.length : Int)), m.list.flatMap eint ++ l) := by
  have e : mbody m ++ l = (five m).flatMap eint ++ (eint (m.name.length : Int) ++ (m.name ++ (eint (m.text.length : Int) ++ (m.text ++ (eint (m.list.length : Int) ++ (m.list.flatMap eint ++ l)))))) := by
    simp only [mbody, mhead, List.append_assoc]
  have h1 := pMany_all (p := pI) (e := eint) (five m) (fun x hx l => pI_eint (five_ok hf x hx) l) (eint (m.name.length : Int) ++ (m.name ++ (eint (m.text.length : Int) ++ (m.text ++ (eint (m.list.length : Int) ++ (m.list.flatMap eint ++ l))))))
  obtain ⟨hs1, hs2, hs3⟩ := hs
  unfold pMHead; rw [e]
  rw [show pMany pI 5 _ = _ from h1]
  simp only [Option.bind_some]
  rw [pT_text (by omega) (by omega)]
  simp only [Option.map_some, Option.bind_some]
  rw [pT_text (by omega) (by omega)]
  simp only [Option.map_some, Option.bind_some]
  rw [pI_eint ⟨by omega, by omega⟩]; rfl
theorem pMeta_body {m : Met} (hf : m.fits) (hs : m.small) (l : List UInt8) : pMeta (mbody m ++ l) = if l = [] then some m else none := by
  unfold pMeta; rw [pMHead_body hf hs]
  simp only [Option.bind_some]
  have h3 := pMany_all (p := pI) (e := eint) m.list (fun x hx l => pI_eint (hf.ints x hx) l) l
  have := hs.list
  rw [if_pos ⟨by omega, by omega⟩, Int.toNat_natCast, h3]
  rfl
theorem read_meta {m : Met} (hf : m.fits) (h : (wmeta m).2 = 0) : readMeta (wmeta m).1 = (m, 0) := by
  obtain ⟨hs, hl, e⟩ := wmeta_zero h
  rw [e]
  have hcl : (crc (mbody m)).toNat < 4294967296 := (crc (mbody m)).isLt
  have ed : (fours (crc (mbody m)).toNat ++ mbody m).drop 4 = mbody m := List.drop_left' rfl
  refine readMeta_yes (by simp only [List.length_append, fours_len]; omega) (by simp only [List.length_append, fours_len]; omega) (by rw [ed, four_fours hcl]) ?_
  rw [ed]
  have := pMeta_body hf hs []
  rwa [List.append_nil, if_pos rfl] at this
theorem read_meta_more {m : Met} (hf : m.fits) (h : (wmeta m).2 = 0) (x : UInt8) : (readMeta ((wmeta m).1 ++ [x])).2 ≠ 0 := by
  obtain ⟨hs, hl, e⟩ := wmeta_zero h
  rw [e]
  have ed : (fours (crc (mbody m)).toNat ++ mbody m ++ [x]).drop 4 = mbody m ++ [x] := by rw [List.append_assoc]; exact List.drop_left' rfl
  have hp : pMeta (mbody m ++ [x]) = none := by rw [pMeta_body hf hs]; exact if_neg (by simp)
  unfold readMeta
  rw [ed, hp]
  split
  · decide
  · split
    · decide
    · split
      · decide
      · decide
theorem wmeta_not {m : Met} (h : (wmeta m).2 ≠ 0) : (wmeta m).1 = [] := by
  unfold wmeta at h ⊢
  split
  · rfl
  · split
    · rfl
    · split
      · rfl
      · rename_i h1 h2 h3; rw [if_neg h1, if_neg h2, if_neg h3] at h; exact absurd rfl h
end Go.Proofs.Ytllpkagplfmlbaa
