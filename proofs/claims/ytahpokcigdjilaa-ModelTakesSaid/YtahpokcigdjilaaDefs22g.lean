/- Chapter 22: the checker and the document's answer say the same, in plain Lean. -/
import Derived.Test.YtahpokcigdjilaaDefs22f
namespace Go.Proofs.Ytahpokcigdjilaa
open Go Go.Sp

def At (h : List Sn) (k : Nat) (y : Sn) : Prop := h[k]? = some y
theorem At.lt {h : List Sn} {k : Nat} {y : Sn} (e : At h k y) : k < h.length := (List.getElem?_eq_some_iff.1 e).1
theorem At.inj {h : List Sn} {k : Nat} {y z : Sn} (e : At h k y) (f : At h k z) : y = z := Option.some.inj (e.symm.trans f)
theorem At.mem {h : List Sn} {k : Nat} {y : Sn} (e : At h k y) : y ∈ h := List.mem_of_getElem? e
theorem At.of {h : List Sn} {y : Sn} (e : y ∈ h) : ∃ k, At h k y := List.getElem?_of_mem e
theorem At.snoc {h : List Sn} {x y : Sn} {k : Nat} : At (h ++ [x]) k y ↔ At h k y ∨ (k = h.length ∧ y = x) := by
  unfold At
  by_cases hk : k < h.length
  · rw [List.getElem?_append_left hk]
    constructor
    · exact .inl
    · rintro (e | ⟨rfl, _⟩)
      · exact e
      · omega
  · rw [List.getElem?_append_right (by omega)]
    constructor
    · intro e
      have : k - h.length = 0 := by
        cases hz : k - h.length with
        | zero => rfl
        | succ n => rw [hz] at e; simp at e
      rw [this] at e
      exact .inr ⟨by omega, (Option.some.inj e).symm⟩
    · rintro (e | ⟨rfl, rfl⟩)
      · exact absurd (At.lt e) hk
      · simp
theorem At.left {h : List Sn} {x y : Sn} {k : Nat} (e : At h k y) : At (h ++ [x]) k y := At.snoc.2 (.inl e)
theorem At.last (h : List Sn) (x : Sn) : At (h ++ [x]) h.length x := At.snoc.2 (.inr ⟨rfl, rfl⟩)
theorem At.take {h : List Sn} {y : Sn} {k n : Nat} : At (h.take n) k y ↔ k < n ∧ At h k y := by
  unfold At
  by_cases hk : k < n
  · rw [List.getElem?_take_of_lt hk]; simp [hk]
  · rw [List.getElem?_eq_none (by rw [List.length_take]; omega)]; simp [hk]
theorem any_at {P : Sn → Bool} {h : List Sn} : h.any P = true ↔ ∃ k y, At h k y ∧ P y = true := by
  rw [List.any_eq_true]
  constructor
  · rintro ⟨y, hy, hp⟩; obtain ⟨k, hk⟩ := At.of hy; exact ⟨k, y, hk, hp⟩
  · rintro ⟨k, y, hy, hp⟩; exact ⟨y, hy.mem, hp⟩
theorem any_take {P : Sn → Bool} {h : List Sn} {n : Nat} : (h.take n).any P = true ↔ ∃ k y, k < n ∧ At h k y ∧ P y = true := by
  rw [any_at]
  constructor
  · rintro ⟨k, y, hy, hp⟩; have := At.take.1 hy; exact ⟨k, y, this.1, this.2, hp⟩
  · rintro ⟨k, y, hk, hy, hp⟩; exact ⟨k, y, At.take.2 ⟨hk, hy⟩, hp⟩
theorem id_eq {x y : Sn} : y.id = x.id ↔ y.client = x.client ∧ y.call = x.call := by unfold Sn.id; rw [Prod.mk.injEq]
theorem ask_eq {x y : Sn} : y.ask = x.ask ↔ y.kind = x.kind ∧ y.name = x.name ∧ y.part = x.part := by unfold Sn.ask; rw [Asked.mk.injEq]
theorem isCall_iff {x y : Sn} : isCall x y = true ↔ y.done = false ∧ y.id = x.id := by
  unfold isCall; rw [id_eq]; simp [and_assoc]
theorem isRet_iff {z y : Sn} : isRet z y = true ↔ y.done = true ∧ y.id = z.id := by
  unfold isRet; rw [id_eq]; simp [and_assoc]
theorem callR_cases (h : List Sn) (x : Sn) : (callR h x = -1 ∧ ∀ k y, At h k y → isCall x y = false) ∨ ∃ (k : Nat) (y : Sn), callR h x = (k : Int) ∧ At h k y ∧ isCall x y = true := by
  by_cases e : callR h x = -1
  · exact .inl ⟨e, fun k y hy => place_neg e y hy.mem⟩
  · obtain ⟨i, z, h1, h2, _, h4⟩ := place_pos e
    exact .inr ⟨i, z, h4, h1, h2⟩
theorem retR_cases (h : List Sn) (k : Nat) (z : Sn) : (retR h k z = -1 ∧ ∀ m y, k < m → At h m y → isRet z y = false) ∨ ∃ (j : Nat) (y : Sn), retR h k z = (j : Int) ∧ k < j ∧ At h j y ∧ isRet z y = true := by
  unfold retR
  by_cases e : place (isRet z) (h.drop (k + 1)) = -1
  · refine .inl ⟨by rw [e]; rfl, fun m y hm hy => place_neg e y ?_⟩
    refine List.mem_of_getElem? (i := m - (k + 1)) ?_
    rw [List.getElem?_drop, show k + 1 + (m - (k + 1)) = m by omega]; exact hy
  · obtain ⟨i, y, h1, h2, _, h4⟩ := place_pos e
    refine .inr ⟨k + 1 + i, y, ?_, by omega, ?_, h2⟩
    · rw [h4]; unfold shiftP; rw [if_neg (by omega)]; omega
    · rw [List.getElem?_drop] at h1; exact h1
def sgOf (h : List Sn) (k : Nat) (z : Sn) : Sg := ⟨z.id, z.offset, k, retR h k z, if retR h k z = -1 then 0 else (h[(retR h k z).toNat]?.getD sn0).err⟩

/-- A history that is right so far, and what the checker knows of it. -/
structure Hst (h : List Sn) (p : PS) : Prop where
  calls : ∀ id i, p.calls id = some i ↔ ∃ k y, At h k y ∧ y.done = false ∧ y.id = id ∧ i = (k : Int)
  kinds : ∀ k y, At h k y → y.done = false → p.kinds y.id = y.ask
  done : ∀ id, p.done id = true ↔ ∃ k y, At h k y ∧ y.done = true ∧ y.id = id
  back : ∀ k y, At h k y → y.done = true → ∃ c z, c < k ∧ At h c z ∧ z.done = false ∧ z.id = y.id ∧ z.ask = y.ask
  once : ∀ k y k' y', At h k y → At h k' y' → y.done = true → y'.done = true → y.id = y'.id → k = k'
  values : ∀ a t, p.values a = some t ↔ ∃ k y, At h k y ∧ toldB y = true ∧ (y.part, y.offset) = a ∧ y.text = t
  acked : ∀ a, p.acked a = true ↔ ∃ k y, At h k y ∧ goodB y 10 10 = true ∧ (y.part, y.offset) = a
  sent : ∀ x : Sn, p.sent (x.part, x.text) = sentI h x
  offsets : ∀ x : Sn, p.offsets (x.part, x.text) = offsR h x
  sends : ∀ x : Sn, p.sends (x.part, x.pid, x.pidEpoch) = h.filter fun y => !skipO x y
  deletes : ∀ a m, m ∈ p.deletes a ↔ ∃ k y, At h k y ∧ goodB y 6 6 = true ∧ y.part = a ∧ m = ⟨k, y.offset⟩
  gens : ∀ a m, m ∈ p.gens a ↔ ∃ k y, At h k y ∧ goodB y 2 3 = true ∧ y.name = a ∧ m = ⟨k, y.seq⟩
  commits : ∀ a g, g ∈ p.commits a ↔ ∃ k z, At h k z ∧ z.done = false ∧ z.kind = 4 ∧ (z.name, z.part) = a ∧ g = sgOf h k z

theorem Hst.start : Hst [] .start where
  calls _ _ := ⟨fun h => (by cases h), fun ⟨k, y, h, _⟩ => (by cases h)⟩
  kinds _ _ h := by cases h
  done _ := ⟨fun h => (by cases h), fun ⟨k, y, h, _⟩ => (by cases h)⟩
  back _ _ h := by cases h
  once _ _ _ _ h := by cases h
  values _ _ := ⟨fun h => (by cases h), fun ⟨k, y, h, _⟩ => (by cases h)⟩
  acked _ := ⟨fun h => (by cases h), fun ⟨k, y, h, _⟩ => (by cases h)⟩
  sent _ := rfl
  offsets _ := rfl
  sends _ := rfl
  deletes _ _ := ⟨fun h => (by cases h), fun ⟨k, y, h, _⟩ => (by cases h)⟩
  gens _ _ := ⟨fun h => (by cases h), fun ⟨k, y, h, _⟩ => (by cases h)⟩
  commits _ _ := ⟨fun h => (by cases h), fun ⟨k, y, h, _⟩ => (by cases h)⟩

/-! ### What is noted, field by field -/
section
variable (p : PS) (i : Int) (s : Sn)
theorem goodB_iff {s : Sn} {a b : Int} : goodB s a b = true ↔ s.done = true ∧ s.err = 0 ∧ (s.kind = a ∨ s.kind = b) := by unfold goodB; simp [and_assoc]
theorem n_calls : (noteP p i s).calls = if s.done then p.calls else put p.calls s.id (some i) := by
  unfold noteP noteC noteR noteV
  cases s.done <;> simp
  repeat' split
  all_goals rfl
theorem n_kinds : (noteP p i s).kinds = if s.done then p.kinds else put p.kinds s.id s.ask := by
  unfold noteP noteC noteR noteV
  cases s.done <;> simp
  repeat' split
  all_goals rfl
theorem n_done : (noteP p i s).done = if s.done then put p.done s.id true else p.done := by
  unfold noteP noteC noteR noteV
  cases s.done <;> simp
  repeat' split
  all_goals rfl
theorem n_sent : (noteP p i s).sent = if s.done = false ∧ s.kind = 10 then put p.sent (s.part, s.text) (p.sent (s.part, s.text) + 1) else p.sent := by
  unfold noteP noteC noteR noteV
  cases s.done <;> simp
  repeat' split
  all_goals rfl
theorem n_values : (noteP p i s).values = if toldB s then put p.values (s.part, s.offset) (some s.text) else p.values := by
  unfold noteP noteC noteR noteV toldB goodB
  cases s.done <;> simp
  by_cases he : s.err = 0
  · simp [he]
    repeat' split
    all_goals rfl
  · simp [he]
theorem n_acked : (noteP p i s).acked = if goodB s 10 10 then put p.acked (s.part, s.offset) true else p.acked := by
  unfold noteP noteC noteR noteV goodB
  cases s.done <;> simp
  by_cases he : s.err = 0
  · simp [he]
    by_cases h10 : s.kind = 10
    · simp [h10]
    · simp [h10]
      repeat' split
      all_goals rfl
  · simp [he]
theorem n_offsets : (noteP p i s).offsets = if toldB s then (if s.offset ∈ p.offsets (s.part, s.text) then p.offsets else put p.offsets (s.part, s.text) (p.offsets (s.part, s.text) ++ [s.offset])) else p.offsets := by
  unfold noteP noteC noteR noteV toldB goodB
  cases s.done <;> simp
  by_cases he : s.err = 0
  · simp [he]
    by_cases hk : s.kind = 10 ∨ s.kind = 1
    · simp [hk]
    · simp [hk]
      repeat' split
      all_goals rfl
  · simp [he]
theorem n_sends : (noteP p i s).sends = if goodB s 10 10 then put p.sends (s.part, s.pid, s.pidEpoch) (p.sends (s.part, s.pid, s.pidEpoch) ++ [s]) else p.sends := by
  unfold noteP noteC noteR noteV goodB
  cases s.done <;> simp
  by_cases he : s.err = 0
  · simp [he]
    by_cases h10 : s.kind = 10
    · simp [h10]
    · simp [h10]
      repeat' split
      all_goals rfl
  · simp [he]
theorem n_deletes : (noteP p i s).deletes = if goodB s 6 6 then put p.deletes s.part (p.deletes s.part ++ [⟨i, s.offset⟩]) else p.deletes := by
  unfold noteP noteC noteR noteV goodB
  cases s.done <;> simp
  by_cases he : s.err = 0
  · simp [he]
    by_cases h6 : s.kind = 6
    · simp [h6]
    · simp [h6]
      repeat' split
      all_goals rfl
  · simp [he]
theorem n_gens : (noteP p i s).gens = if goodB s 2 3 then put p.gens s.name (p.gens s.name ++ [⟨i, s.seq⟩]) else p.gens := by
  unfold noteP noteC noteR noteV goodB
  cases s.done <;> simp
  by_cases he : s.err = 0
  · simp [he]
    by_cases h2 : s.kind = 2 ∨ s.kind = 3
    · have h10 : ¬ (s.kind = 10 ∨ s.kind = 1) := by omega
      have h6 : ¬ s.kind = 6 := by omega
      simp [h2, h10, h6]
    · simp [h2]
      repeat' split
      all_goals rfl
  · simp [he]
theorem n_commits : (noteP p i s).commits = if s.done then (fun t => (p.commits t).map (endG s.id i s.err)) else if s.kind = 4 then put p.commits (s.name, s.part) (p.commits (s.name, s.part) ++ [⟨s.id, s.offset, i, -1, 0⟩]) else p.commits := by
  unfold noteP noteC noteR noteV
  cases s.done <;> simp
  repeat' split
  all_goals rfl
end
end Go.Proofs.Ytahpokcigdjilaa
