/- Chapter 22: texts that are sent and read, in plain Lean. -/
import Derived.Test.YtahpokcigdjilaaDefs22c
namespace Go.Proofs.Ytahpokcigdjilaa
open Go Go.Sp

theorem _root_.Go.Sp.Eff.nilArr {P N E Γ o K} (e s : Nat) (a : Option Addr) (n : Eff P N E (Sp.arr e s a 0 [] :: Γ) o K) : Eff P N E Γ o K :=
  fun A F w b nx Z hf hs hn => n A F w b nx Z hf hs.arr_none hn

def tx (t : Tx) (m : Nat) : Tx := t ++ [UInt8.ofNat (97 + m)]
theorem tx_inj {t : Tx} {m k : Nat} (hm : m < 100) (hk : k < 100) (h : tx t m = tx t k) : m = k := by
  have h1 := List.append_cancel_left h
  have h2 := congrArg UInt8.toNat (List.cons.inj h1).1
  rw [UInt8.toNat_ofNat', UInt8.toNat_ofNat'] at h2; omega
theorem tx_ne {t u : Tx} {m : Nat} (h : t ≠ u) : tx t m ≠ tx u m := fun e => h (List.append_cancel_right e)
def sendC (t : Tx) (m : Nat) : Sn := ⟨101, (m : Int) + 1, 10, 2, 0, 0, 0, 0, [], tx t m, 0, false⟩
def sendR (t : Tx) (m : Nat) : Sn := ⟨101, (m : Int) + 1, 10, 2, (m : Int), 1, 0, (m : Int), [], tx t m, 0, true⟩
def sendL (t : Tx) (n : Nat) : List Sn := (List.range n).flatMap fun m => [sendC t m, sendR t m]
theorem sendL_succ (t : Tx) (n : Nat) : sendL t (n + 1) = sendL t n ++ [sendC t n, sendR t n] := by
  unfold sendL; rw [List.range_succ, List.flatMap_append]; simp
theorem sendL_len (t : Tx) : ∀ n, (sendL t n).length = 2 * n
  | 0 => rfl
  | n + 1 => by rw [sendL_succ, List.length_append, sendL_len t n]; simp; omega
structure InvS (t : Tx) (j : Nat) (p : PS) : Prop where
  fresh : ∀ m : Nat, j ≤ m → p.calls (101, (m : Int) + 1) = none
  fresh2 : p.calls (201, 1) = none
  undone : ∀ m : Nat, j ≤ m → p.done (101, (m : Int) + 1) = false
  undone2 : p.done (201, 1) = false
  values : ∀ m : Nat, p.values (2, (m : Int)) = if m < j then some (tx t m) else none
  acked : ∀ m : Nat, p.acked (2, (m : Int)) = decide (m < j)
  sent : ∀ m : Nat, m < 100 → p.sent (2, tx t m) = if m < j then 1 else 0
  offsets : ∀ m : Nat, m < 100 → p.offsets (2, tx t m) = if m < j then [(m : Int)] else []
  sends : p.sends (2, 1, 0) = (List.range j).map (sendR t)
  deletes : ∀ x, p.deletes x = []
theorem send_step {t : Tx} {j : Nat} {p : PS} (hj : j < 100) (h : InvS t j p) : ∃ q, go p (2 * (j : Int)) [sendC t j, sendR t j] = some q ∧ InvS t (j + 1) q := by
  have kR : (sendR t j).kind = 10 := rfl
  have h1 : wrongP p (sendC t j) = [] := wrong_new rfl (h.fresh j (Nat.le_refl _))
  obtain ⟨p1, hp1⟩ : ∃ p1, p1 = noteP p (2 * (j : Int)) (sendC t j) := ⟨_, rfl⟩
  have e1 := hp1
  rw [note_send rfl rfl] at e1
  have fc : p1.calls = put p.calls (101, (j : Int) + 1) (some (2 * (j : Int))) := by rw [e1]; rfl
  have fk : p1.kinds = put p.kinds (101, (j : Int) + 1) (sendR t j).ask := by rw [e1]; rfl
  have fs : p1.sent = put p.sent (2, tx t j) (p.sent (2, tx t j) + 1) := by rw [e1]; rfl
  have fd : p1.done = p.done := by rw [e1]
  have fv : p1.values = p.values := by rw [e1]
  have fa : p1.acked = p.acked := by rw [e1]
  have fo : p1.offsets = p.offsets := by rw [e1]
  have fe : p1.sends = p.sends := by rw [e1]
  have ft : p1.deletes = p.deletes := by rw [e1]
  have s1 : p1.sent (2, tx t j) = 1 := by rw [fs, put_at, h.sent j hj, if_neg (by omega)]; rfl
  have c1 : p1.calls (sendR t j).id = some (2 * (j : Int)) := by rw [fc]; exact put_at _ (101, (j : Int) + 1) _
  have k1 : p1.kinds (sendR t j).id = (sendR t j).ask := by rw [fk]; exact put_at _ (101, (j : Int) + 1) _
  have d1 : p1.done (sendR t j).id = false := by rw [fd]; exact h.undone j (Nat.le_refl _)
  have v1 : p1.values (2, (j : Int)) = none := by rw [fv, h.values, if_neg (by omega)]
  have a1 : p1.acked (2, (j : Int)) = false := by rw [fa, h.acked]; simp
  have o1 : p1.offsets (2, tx t j) = [] := by rw [fo, h.offsets j hj, if_neg (by omega)]
  have m1 : manyP p1 (sendR t j) = 1 := by
    unfold manyP
    rw [show p1.offsets ((sendR t j).part, (sendR t j).text) = [] from o1]; rfl
  have h2 : wrongP p1 (sendR t j) = [] := by
    rw [wrong_go (badC_no rfl c1 d1 k1) (quiet_no rfl rfl), if_pos (.inl kR)]
    unfold recordsP
    rw [show p1.values ((sendR t j).part, (sendR t j).offset) = none from v1, show p1.acked ((sendR t j).part, (sendR t j).offset) = false from a1, show p1.sent ((sendR t j).part, (sendR t j).text) = 1 from s1, m1,
      if_neg (by rintro ⟨_, h, _⟩; cases h), if_neg (by rintro ⟨_, h⟩; cases h), if_neg (by rintro ⟨h, _⟩; rw [kR] at h; cases h), if_neg (by decide), if_pos kR]
    have : (p1.sends ((sendR t j).part, (sendR t j).pid, (sendR t j).pidEpoch)).any (offOrder (sendR t j)) = false := by
      rw [show p1.sends ((sendR t j).part, (sendR t j).pid, (sendR t j).pidEpoch) = (List.range j).map (sendR t) from by rw [fe]; exact h.sends]
      rw [List.any_map, List.any_eq_false]
      intro m hm
      have hmj := List.mem_range.1 hm
      have x1 : ((m : Int) = (j : Int)) = False := by simp; omega
      have x2 : ((m : Int) < (j : Int)) = True := by simp; omega
      simp [offOrder, sendR, x1, x2]
    rw [this]; rfl
  refine ⟨noteP p1 (2 * (j : Int) + 1) (sendR t j), by simp only [go, if_pos h1, ← hp1, if_pos h2], ?_⟩
  rw [note_sent rfl rfl kR]
  obtain ⟨q, hq⟩ : ∃ q, q = noteR p1 (2 * (j : Int) + 1) (sendR t j) := ⟨_, rfl⟩
  rw [← hq]
  have qc : q.calls = p1.calls := by rw [hq]; rfl
  have qd : q.done = put p1.done (101, (j : Int) + 1) true := by rw [hq]; rfl
  have qv : q.values = p1.values := by rw [hq]; rfl
  have qa : q.acked = p1.acked := by rw [hq]; rfl
  have qs : q.sent = p1.sent := by rw [hq]; rfl
  have qo : q.offsets = p1.offsets := by rw [hq]; rfl
  have qe : q.sends = p1.sends := by rw [hq]; rfl
  have qt : q.deletes = p1.deletes := by rw [hq]; rfl
  have hne : ∀ m : Nat, m ≠ j → ((101, (m : Int) + 1) : Int × Int) ≠ (101, (j : Int) + 1) := fun m hm e => by
    have := congrArg Prod.snd e; simp at this; omega
  have hne2 : ((201, 1) : Int × Int) ≠ (101, (j : Int) + 1) := fun e => by have := congrArg Prod.fst e; simp at this
  have hnp : ∀ m : Nat, m ≠ j → ((2, (m : Int)) : Int × Int) ≠ (2, (j : Int)) := fun m hm e => by
    have := congrArg Prod.snd e; simp at this; omega
  have hnt : ∀ m : Nat, m < 100 → m ≠ j → ((2, tx t m) : Int × Tx) ≠ (2, tx t j) := fun m h100 hm e => hm (tx_inj h100 hj (congrArg Prod.snd e))
  refine ⟨fun m hm => ?_, ?_, fun m hm => ?_, ?_, fun m => ?_, fun m => ?_, fun m hm => ?_, fun m hm => ?_, ?_, fun x => ?_⟩
  · show q.calls _ = none
    rw [qc, fc, put_ne (hne m (by omega))]; exact h.fresh m (by omega)
  · show q.calls _ = none
    rw [qc, fc, put_ne hne2]; exact h.fresh2
  · show q.done _ = false
    rw [qd, put_ne (hne m (by omega)), fd]; exact h.undone m (by omega)
  · show q.done _ = false
    rw [qd, put_ne hne2, fd]; exact h.undone2
  · show put q.values ((2, (j : Int)) : Int × Int) (some (tx t j)) (2, (m : Int)) = _
    by_cases hm : m = j
    · subst hm; rw [put_at, if_pos (by omega)]
    · rw [put_ne (hnp m hm), qv, fv, h.values]
      by_cases h3 : m < j
      · rw [if_pos h3, if_pos (by omega)]
      · rw [if_neg h3, if_neg (by omega)]
  · show put q.acked ((2, (j : Int)) : Int × Int) true (2, (m : Int)) = _
    by_cases hm : m = j
    · subst hm; rw [put_at]; simp
    · rw [put_ne (hnp m hm), qa, fa, h.acked]; exact decide_eq_decide.2 (by omega)
  · show q.sent (2, tx t m) = _
    rw [qs, fs]
    by_cases hmj : m = j
    · subst hmj; rw [put_at, h.sent m hm, if_neg (by omega), if_pos (by omega)]; rfl
    · rw [put_ne (hnt m hm hmj), h.sent m hm]
      by_cases h3 : m < j
      · rw [if_pos h3, if_pos (by omega)]
      · rw [if_neg h3, if_neg (by omega)]
  · have hq1 : q.offsets (2, tx t j) = [] := by rw [qo]; exact o1
    show (if (j : Int) ∈ q.offsets (2, tx t j) then q.offsets else put q.offsets (2, tx t j) (q.offsets (2, tx t j) ++ [(j : Int)])) (2, tx t m) = _
    rw [hq1, if_neg (by simp)]
    by_cases hmj : m = j
    · subst hmj; rw [put_at, if_pos (by omega)]; rfl
    · rw [put_ne (hnt m hm hmj), qo, fo, h.offsets m hm]
      by_cases h3 : m < j
      · rw [if_pos h3, if_pos (by omega)]
      · rw [if_neg h3, if_neg (by omega)]
  · show put q.sends ((2, 1, 0) : Int × Int × Int) (q.sends (2, 1, 0) ++ [sendR t j]) (2, 1, 0) = _
    rw [put_at, qe, fe, h.sends, List.range_succ, List.map_append]; rfl
  · show q.deletes x = []
    rw [qt, ft]; exact h.deletes x
theorem send_all (t : Tx) : ∀ n, n ≤ 100 → ∃ q, go .start 0 (sendL t n) = some q ∧ InvS t n q
  | 0, _ => ⟨.start, rfl, ⟨fun _ _ => rfl, rfl, fun _ _ => rfl, rfl, fun _ => rfl, fun _ => rfl, fun _ _ => rfl, fun _ _ => rfl, rfl, fun _ => rfl⟩⟩
  | n + 1, hn => by
    obtain ⟨q, hq, hI⟩ := send_all t n (by omega)
    obtain ⟨q', hq', hI'⟩ := send_step (by omega) hI
    refine ⟨q', ?_, hI'⟩
    rw [sendL_succ, go_app hq, sendL_len, show (0 : Int) + ((2 * n : Nat) : Int) = 2 * (n : Int) by omega]; exact hq'
def readC (k : Nat) : Sn := ⟨201, 1, 1, 2, (k : Int), 0, 0, 0, [], [], 0, false⟩
def readR (k : Nat) (u : Tx) : Sn := ⟨201, 1, 1, 2, (k : Int), 0, 0, 0, [], u, 0, true⟩
theorem check_sends (t : Tx) (n : Nat) (hn : n ≤ 100) : check (sendL t n) = (-1, []) := by
  obtain ⟨q, hq, _⟩ := send_all t n hn
  have := go_then (b := []) hq
  rw [List.append_nil] at this; exact this
theorem read_end (t : Tx) (n k : Nat) (hn : n ≤ 100) (hk : k < n) (u : Tx) : check (sendL t n ++ [readC k] ++ [readR k u]) = if u = tx t k then (-1, []) else (2 * (n : Int) + 1, wValue) := by
  obtain ⟨q, hq, hI⟩ := send_all t n hn
  have h1 : wrongP q (readC k) = [] := wrong_new rfl hI.fresh2
  obtain ⟨p1, hp1⟩ : ∃ p1, p1 = noteP q (2 * (n : Int)) (readC k) := ⟨_, rfl⟩
  have kC : (readC k).kind = 1 := rfl
  have e1 := hp1
  rw [note_call rfl (by rw [kC]; decide) (by rw [kC]; decide)] at e1
  have fc : p1.calls = put q.calls (201, 1) (some (2 * (n : Int))) := by rw [e1]; rfl
  have fk : p1.kinds = put q.kinds (201, 1) (readR k u).ask := by rw [e1]; rfl
  have kR : (readR k u).kind = 1 := rfl
  have c1 : p1.calls (readR k u).id = some (2 * (n : Int)) := by rw [fc]; exact put_at _ ((201, 1) : Int × Int) _
  have k1 : p1.kinds (readR k u).id = (readR k u).ask := by rw [fk]; exact put_at _ ((201, 1) : Int × Int) _
  have d1 : p1.done (readR k u).id = false := by rw [e1]; exact hI.undone2
  have v1 : p1.values (2, (k : Int)) = some (tx t k) := by rw [e1]; show q.values _ = _; rw [hI.values, if_pos hk]
  have h2 : wrongP p1 (readR k u) = if u = tx t k then [] else wValue := by
    rw [wrong_go (badC_no rfl c1 d1 k1) (quiet_no rfl rfl), if_pos (.inr kR)]
    unfold recordsP
    rw [show p1.values ((readR k u).part, (readR k u).offset) = some (tx t k) from v1]
    by_cases hu : u = tx t k
    · subst hu
      have s1 : p1.sent (2, tx t k) = 1 := by rw [e1]; show q.sent _ = _; rw [hI.sent k (by omega), if_pos hk]
      have o1 : p1.offsets (2, tx t k) = [(k : Int)] := by rw [e1]; show q.offsets _ = _; rw [hI.offsets k (by omega), if_pos hk]
      have m1 : manyP p1 (readR k (tx t k)) = 1 := by
        unfold manyP
        rw [show p1.offsets ((readR k (tx t k)).part, (readR k (tx t k)).text) = [(k : Int)] from o1, if_pos (by show (k : Int) ∈ [(k : Int)]; simp)]; rfl
      have t1 : ∀ x, p1.deletes x = [] := by rw [e1]; exact hI.deletes
      rw [if_pos rfl, show p1.sent ((readR k (tx t k)).part, (readR k (tx t k)).text) = 1 from s1, m1, t1,
        if_neg (by rintro ⟨z, h, h'⟩; cases h; exact h' rfl), if_neg (by rintro ⟨h, _⟩; rw [kR] at h; cases h), if_neg (by rintro ⟨_, h⟩; cases h), if_neg (by decide), if_neg (by rw [kR]; decide)]; rfl
    · rw [if_neg hu, if_pos ⟨tx t k, rfl, fun e => hu e.symm⟩]
  unfold check
  rw [List.append_assoc, go_then hq, sendL_len, show (0 : Int) + ((2 * n : Nat) : Int) = 2 * (n : Int) by omega]
  show checkGo q _ [readC k, readR k u] = _
  rw [checkGo, if_pos h1, ← hp1, checkGo, h2]
  by_cases hu : u = tx t k
  · rw [if_pos hu, if_pos rfl, if_pos hu]; rfl
  · rw [if_neg hu, if_neg (by decide), if_neg hu]
end Go.Proofs.Ytahpokcigdjilaa
