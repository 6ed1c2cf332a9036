/- Chapter 3: torn bytes, in plain Lean. -/
import Derived.Test.YtllpkagplfmlbaaDefs3l
namespace Go.Proofs.Ytllpkagplfmlbaa
open Go Go.Sp

theorem crc1_inj {c d : BitVec 32} (h : crc1 c = crc1 d) : c = d := by
  have top : ∀ x : BitVec 32, (x >>> 1).getLsbD 31 = false := fun x => by
    rw [BitVec.getLsbD_ushiftRight]; exact BitVec.getLsbD_of_ge _ _ (by omega)
  have poly : (2197175160#32).getLsbD 31 = true := by decide
  have par : ∀ x y : BitVec 32, x.toNat % 2 = 1 → y.toNat % 2 = 0 → crc1 x ≠ crc1 y := fun x y hx hy e => by
    rw [crc1_odd hx, crc1_even hy] at e
    have := congrArg (fun v => v.getLsbD 31) e
    simp only [BitVec.getLsbD_xor, top, poly] at this
    exact absurd this (by decide)
  have half : ∀ x y : BitVec 32, x.toNat % 2 = y.toNat % 2 → x >>> 1 = y >>> 1 → x = y := fun x y hp e => by
    have e1 := congrArg BitVec.toNat e
    simp only [BitVec.toNat_ushiftRight, Nat.shiftRight_eq_div_pow] at e1
    apply BitVec.eq_of_toNat_eq; omega
  rcases Nat.mod_two_eq_zero_or_one c.toNat with hc | hc <;> rcases Nat.mod_two_eq_zero_or_one d.toNat with hd | hd
  · rw [crc1_even hc, crc1_even hd] at h; exact half _ _ (by omega) h
  · exact absurd h.symm (par _ _ hd hc)
  · exact absurd h (par _ _ hc hd)
  · rw [crc1_odd hc, crc1_odd hd] at h
    refine half _ _ (by omega) ?_
    have := congrArg (· ^^^ 2197175160#32) h
    simpa [BitVec.xor_assoc] using this
theorem crcN_inj : ∀ (n : Nat) {c d : BitVec 32}, crcN n c = crcN n d → c = d
  | 0, _, _, h => h
  | n + 1, _, _, h => crc1_inj (crcN_inj n h)
theorem xor_inj {a b c : BitVec 32} (h : a ^^^ c = b ^^^ c) : a = b := by
  have := congrArg (· ^^^ c) h
  simpa [BitVec.xor_assoc] using this
theorem xor_inj' {a b c : BitVec 32} (h : c ^^^ a = c ^^^ b) : a = b := by
  rw [BitVec.xor_comm c a, BitVec.xor_comm c b] at h; exact xor_inj h
theorem crcB_inj {c d : BitVec 32} {b : UInt8} (h : crcB c b = crcB d b) : c = d := xor_inj (crcN_inj 8 h)
theorem crcB_inj' {c : BitVec 32} {a b : UInt8} (h : crcB c a = crcB c b) : a = b := by
  have h1 := congrArg BitVec.toNat (xor_inj' (crcN_inj 8 h))
  rw [BitVec.toNat_ofNat, BitVec.toNat_ofNat] at h1
  have ha := a.toNat_lt; have hb := b.toNat_lt
  exact UInt8.toNat_inj.1 (by omega)
theorem foldl_inj : ∀ (l : List UInt8) {c d : BitVec 32}, l.foldl crcB c = l.foldl crcB d → c = d
  | [], _, _, h => h
  | _ :: l, _, _, h => crcB_inj (foldl_inj l h)
theorem crc_set {l : List UInt8} {j : Nat} {x : UInt8} (hj : j < l.length) (hx : x ≠ l[j]) : (crc (l.set j x)).toNat ≠ (crc l).toNat := by
  intro h
  have h1 : crc (l.set j x) = crc l := BitVec.eq_of_toNat_eq h
  have h2 : crcS (l.set j x) = crcS l := BitVec.not_inj.1 h1
  have e1 : l.set j x = l.take j ++ x :: l.drop (j + 1) := List.set_eq_take_append_cons_drop.trans (if_pos hj)
  have e2 : l = l.take j ++ l[j] :: l.drop (j + 1) := by rw [List.getElem_cons_drop hj, List.take_append_drop]
  rw [e1] at h2
  rw [show crcS l = crcS (l.take j ++ l[j] :: l.drop (j + 1)) from congrArg crcS e2] at h2
  unfold crcS at h2
  rw [List.foldl_append, List.foldl_append, List.foldl_cons, List.foldl_cons] at h2
  exact hx (crcB_inj' (foldl_inj _ h2))
theorem xor_byte {x by_ : UInt8} (h : by_ ≠ 0) : x ^^^ by_ ≠ x := fun e => h (by
  have h1 : x ^^^ (x ^^^ by_) = x ^^^ x := congrArg (fun z => x ^^^ z) e
  rw [← UInt8.xor_assoc, UInt8.xor_self, UInt8.zero_xor] at h1
  exact h1)
theorem four_set {l : List UInt8} {j : Nat} {x : UInt8} (hl : 4 ≤ l.length) (hj : j < 4) (hx : x ≠ l[j]'(by omega)) : four (l.set j x) ≠ four l := by
  match l, hl with
  | a :: b :: c :: d :: t, _ =>
    have h1 := a.toNat_lt; have h2 := b.toNat_lt; have h3 := c.toNat_lt; have h4 := d.toNat_lt; have h5 := x.toNat_lt
    have hn : ∀ y : UInt8, x ≠ y → x.toNat ≠ y.toNat := fun y h e => h (UInt8.toNat_inj.1 e)
    match j, hj with
    | 0, _ => have := hn a hx; show x.toNat * 16777216 + b.toNat * 65536 + c.toNat * 256 + d.toNat ≠ a.toNat * 16777216 + b.toNat * 65536 + c.toNat * 256 + d.toNat; omega
    | 1, _ => have := hn b hx; show a.toNat * 16777216 + x.toNat * 65536 + c.toNat * 256 + d.toNat ≠ a.toNat * 16777216 + b.toNat * 65536 + c.toNat * 256 + d.toNat; omega
    | 2, _ => have := hn c hx; show a.toNat * 16777216 + b.toNat * 65536 + x.toNat * 256 + d.toNat ≠ a.toNat * 16777216 + b.toNat * 65536 + c.toNat * 256 + d.toNat; omega
    | 3, _ => have := hn d hx; show a.toNat * 16777216 + b.toNat * 65536 + c.toNat * 256 + x.toNat ≠ a.toNat * 16777216 + b.toNat * 65536 + c.toNat * 256 + d.toNat; omega
theorem four_take {l : List UInt8} {k : Nat} (hk : 4 ≤ k) (hl : 4 ≤ l.length) : four (l.take k) = four l := by
  match l, hl, k, hk with
  | a :: b :: c :: d :: t, _, k + 4, _ => rfl
theorem four_set' {l : List UInt8} {j : Nat} {x : UInt8} (hl : 4 ≤ l.length) (hj : 4 ≤ j) : four (l.set j x) = four l := by
  match l, hl, j, hj with
  | a :: b :: c :: d :: t, _, j + 4, _ => rfl

/-- What a written batch's bytes are. -/
theorem wbatch_is {b : Bat} (hr : right b = 0) : (wbatch b).1.length = 8 + (body b).length ∧ four (wbatch b).1 = (body b).length ∧ (wbatch b).1.drop 8 = body b ∧ four ((wbatch b).1.drop 4) = (crc (body b)).toNat ∧ (body b).length ≤ 4088 := by
  obtain ⟨_, hbl⟩ := right_zero hr
  have hcl : (crc (body b)).toNat < 4294967296 := (crc (body b)).isLt
  refine ⟨wbatch_len hr, ?_, ?_, ?_, hbl⟩
  · rw [wbatch_yes hr]; show four (fours (body b).length ++ fours (crc (body b)).toNat ++ body b) = _
    rw [List.append_assoc, four_fours (by omega)]
  · rw [wbatch_yes hr]; exact List.drop_left' rfl
  · rw [wbatch_yes hr]; show four ((fours (body b).length ++ fours (crc (body b)).toNat ++ body b).drop 4) = _
    rw [List.append_assoc, show (fours (body b).length ++ (fours (crc (body b)).toNat ++ body b)).drop 4 = fours (crc (body b)).toNat ++ body b from List.drop_left' rfl, four_fours hcl]
/-- Cut. -/
theorem torn_cut {b : Bat} (hr : right b = 0) {k : Nat} (hk : k < (wbatch b).1.length) : readBatch ((wbatch b).1.take k) = (zeroB, 0, 5) := by
  obtain ⟨h1, h2, h3, h4, h5⟩ := wbatch_is hr
  have hl : ((wbatch b).1.take k).length = k := by rw [List.length_take]; omega
  by_cases h8 : k < 8
  · exact readBatch_short (by omega)
  · have e : four ((wbatch b).1.take k) = (body b).length := by rw [four_take (by omega) (by omega), h2]
    exact readBatch_cut (by omega) (by omega) (by omega)
/-- Changed. -/
theorem torn_set {b : Bat} (hr : right b = 0) {k : Nat} {x : UInt8} (hk : k < (wbatch b).1.length) (h4k : 4 ≤ k) (hx : x ≠ (wbatch b).1[k]) : readBatch ((wbatch b).1.set k x) = (zeroB, 0, 6) := by
  obtain ⟨h1, h2, h3, h4, h5⟩ := wbatch_is hr
  have hl : ((wbatch b).1.set k x).length = (wbatch b).1.length := List.length_set
  have e : four ((wbatch b).1.set k x) = (body b).length := by rw [four_set' (by omega) h4k, h2]
  by_cases h8 : k < 8
  · have e8 : ((wbatch b).1.set k x).drop 8 = body b := by rw [List.drop_set, if_pos (by omega), h3]
    have e4 : ((wbatch b).1.set k x).drop 4 = ((wbatch b).1.drop 4).set (k - 4) x := by rw [List.drop_set, if_neg (by omega)]
    refine readBatch_sum (t := body b) (by omega) (by omega) (by omega) (by rw [e8, e, List.take_length]) ?_
    rw [e4, ← h4]
    refine fun h => four_set (l := (wbatch b).1.drop 4) (by rw [List.length_drop]; omega) (by omega) ?_ h.symm
    intro he; apply hx; rw [he, List.getElem_drop]; congr 1; omega
  · have e8 : ((wbatch b).1.set k x).drop 8 = (body b).set (k - 8) x := by rw [List.drop_set, if_neg (by omega), h3]
    have e4 : four (((wbatch b).1.set k x).drop 4) = (crc (body b)).toNat := by rw [List.drop_set, if_neg (by omega), four_set' (by rw [List.length_drop]; omega) (by omega), h4]
    refine readBatch_sum (t := (body b).set (k - 8) x) (by omega) (by omega) (by omega) (by rw [e8, e, List.take_of_length_le (by rw [List.length_set]; omega)]) ?_
    rw [e4]
    refine crc_set (by omega) ?_
    intro he; apply hx; rw [he]
    have := List.getElem_drop (xs := (wbatch b).1) (i := 8) (j := k - 8) (h := by rw [List.length_drop]; omega)
    simp only [h3] at this
    rw [this]; congr 1; omega
theorem wbatch_not {b : Bat} (h : (wbatch b).2 ≠ 0) : (wbatch b).1 = [] := by
  by_cases hr : right b = 0
  · rw [wbatch_yes hr] at h; exact absurd rfl h
  · rw [wbatch_no hr]
theorem wbatch_err (b : Bat) : (wbatch b).2 = right b := by
  by_cases hr : right b = 0
  · rw [wbatch_yes hr, hr]
  · rw [wbatch_no hr]
end Go.Proofs.Ytllpkagplfmlbaa
