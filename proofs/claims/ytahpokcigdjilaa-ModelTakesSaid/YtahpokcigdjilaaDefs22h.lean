/- Chapter 22: a right history goes on: what the checker knows. -/
import Derived.Test.YtahpokcigdjilaaDefs22g
namespace Go.Proofs.Ytahpokcigdjilaa
open Go Go.Sp

section
variable {h : List Sn} {p : PS} {x : Sn}
/-- The next one is no wrong call. -/
structure Joins (h : List Sn) (x : Sn) : Prop where
  new : x.done = false → ∀ k y, At h k y → y.id ≠ x.id
  ret : x.done = true → (∀ k y, At h k y → y.done = true → y.id ≠ x.id) ∧ ∃ c z, At h c z ∧ z.done = false ∧ z.id = x.id ∧ z.ask = x.ask

theorem put_of {κ ν : Type} [DecidableEq κ] (f : κ → ν) (k : κ) (v : ν) (a : κ) : put f k v a = if a = k then v else f a := rfl

theorem fits_of (hc : callB h x = false) : Joins h x := by
  unfold callB at hc
  rw [Bool.or_eq_false_iff] at hc
  obtain ⟨h1, h2⟩ := hc
  have hs : ∀ k y, At h k y → sameOr x y = false := fun k y hy => by
    rw [List.any_eq_false] at h1; simpa using h1 y hy.mem
  refine ⟨fun hd k y hy e => ?_, fun hd => ⟨fun k y hy hyd e => ?_, ?_⟩⟩
  · have := hs k y hy
    rw [id_eq] at e
    unfold sameOr sameB at this
    rw [decide_eq_true e.1, decide_eq_true e.2, hd] at this; cases this
  · have := hs k y hy
    rw [id_eq] at e
    unfold sameOr sameB at this
    rw [decide_eq_true e.1, decide_eq_true e.2, hd, hyd] at this; cases this
  · rw [hd, Bool.true_and] at h2
    rcases callR_cases h x with ⟨e, _⟩ | ⟨k, z, e, hz, hcall⟩
    · unfold badCall at h2; rw [e] at h2; cases h2
    · have hz' : h[(callR h x).toNat]?.getD sn0 = z := by rw [e]; show h[k]?.getD sn0 = z; rw [show h[k]? = some z from hz]; rfl
      rw [hz'] at h2
      unfold badCall at h2
      simp only [Bool.or_eq_false_iff, Bool.not_eq_false', decide_eq_true_eq] at h2
      have := isCall_iff.1 hcall
      exact ⟨k, z, hz, this.1, this.2, ask_eq.2 ⟨h2.1.1.2, h2.1.2, h2.2⟩⟩

theorem Hst.callR_eq (H : Hst h p) (x : Sn) : p.calls x.id = if callR h x = -1 then none else some (callR h x) := by
  rcases callR_cases h x with ⟨e, hn⟩ | ⟨k, z, e, hz, hc⟩
  · rw [if_pos e]
    cases hcs : p.calls x.id with
    | none => rfl
    | some i =>
      obtain ⟨k, y, hy, hd, hid, _⟩ := (H.calls _ _).1 hcs
      have := hn k y hy
      rw [isCall_iff.2 ⟨hd, hid⟩] at this; cases this
  · rw [if_neg (by omega), e]
    have := isCall_iff.1 hc
    exact (H.calls _ _).2 ⟨k, z, hz, this.1, this.2, rfl⟩
/-- Calls of one name are one. -/
theorem Hst.one (H : Hst h p) {k k' : Nat} {y y' : Sn} (hy : At h k y) (hy' : At h k' y') (hd : y.done = false) (hd' : y'.done = false) (e : y.id = y'.id) : k = k' := by
  have h1 := (H.calls y.id k).2 ⟨k, y, hy, hd, rfl, rfl⟩
  have h2 := (H.calls y.id k').2 ⟨k', y', hy', hd', e.symm, rfl⟩
  rw [h1] at h2
  have := Option.some.inj h2
  omega
theorem retR_snoc_old (H : Hst h p) {k : Nat} {z : Sn} (hn : isRet z x = false) : sgOf (h ++ [x]) k z = sgOf h k z := by
  have e : retR (h ++ [x]) k z = retR h k z := by
    rcases retR_cases h k z with ⟨e, ha⟩ | ⟨j, y, e, hkj, hy, hr⟩
    · rcases retR_cases (h ++ [x]) k z with ⟨e', _⟩ | ⟨j', y', e', hkj', hy', hr'⟩
      · rw [e, e']
      · rcases At.snoc.1 hy' with hy' | ⟨_, rfl⟩
        · rw [ha j' y' hkj' hy'] at hr'; cases hr'
        · rw [hn] at hr'; cases hr'
    · rcases retR_cases (h ++ [x]) k z with ⟨e', ha'⟩ | ⟨j', y', e', hkj', hy', hr'⟩
      · rw [ha' j y hkj hy.left] at hr; cases hr
      · rcases At.snoc.1 hy' with hy' | ⟨_, rfl⟩
        · have r1 := isRet_iff.1 hr; have r2 := isRet_iff.1 hr'
          have := H.once j y j' y' hy hy' r1.1 r2.1 (r1.2.trans r2.2.symm)
          rw [e, e', this]
        · rw [hn] at hr'; cases hr'
  unfold sgOf
  rw [e]
  rcases retR_cases h k z with ⟨e, ha⟩ | ⟨j, y, e, hkj, hy, hr⟩
  · rw [e]; rfl
  · rw [e]
    have h1 : (h ++ [x])[((j : Nat) : Int).toNat]? = some y := hy.left
    have h2 : h[((j : Nat) : Int).toNat]? = some y := hy
    rw [h1, h2]
theorem retR_snoc_new {k : Nat} {z : Sn} (hz : At h k z) (hx : isRet z x = true) (hn : ∀ m y, At h m y → isRet z y = false) : sgOf (h ++ [x]) k z = ⟨z.id, z.offset, k, h.length, x.err⟩ := by
  have e : retR (h ++ [x]) k z = h.length := by
    rcases retR_cases (h ++ [x]) k z with ⟨e', ha'⟩ | ⟨j', y', e', hkj', hy', hr'⟩
    · rw [ha' h.length x hz.lt (At.last h x)] at hx; cases hx
    · rcases At.snoc.1 hy' with hy' | ⟨rfl, rfl⟩
      · rw [hn j' y' hy'] at hr'; cases hr'
      · exact e'
  unfold sgOf
  rw [e, if_neg (by omega)]
  have h1 : (h ++ [x])[((h.length : Nat) : Int).toNat]? = some x := At.last h x
  rw [h1]; rfl
theorem sgOf_new (z : Sn) : sgOf (h ++ [z]) h.length z = ⟨z.id, z.offset, h.length, -1, 0⟩ := by
  have e : retR (h ++ [z]) h.length z = -1 := by
    rcases retR_cases (h ++ [z]) h.length z with ⟨e', _⟩ | ⟨j', y', e', hkj', hy', hr'⟩
    · exact e'
    · have := hy'.lt; simp at this; omega
  unfold sgOf; rw [e]; rfl
theorem sgOf_open {k : Nat} {z : Sn} (hn : ∀ m y, At h m y → isRet z y = false) : sgOf h k z = ⟨z.id, z.offset, k, -1, 0⟩ := by
  have e : retR h k z = -1 := by
    rcases retR_cases h k z with ⟨e', _⟩ | ⟨j', y', e', hkj', hy', hr'⟩
    · exact e'
    · rw [hn j' y' hy'] at hr'; cases hr'
  unfold sgOf; rw [e]; rfl

theorem told_of {s : Sn} : toldB s = true ↔ s.done = true ∧ s.err = 0 ∧ (s.kind = 10 ∨ s.kind = 1) := goodB_iff
theorem foldl_snoc_offs (h : List Sn) (x y : Sn) : offsR (h ++ [y]) x = offsS x (offsR h x) y := by unfold offsR; rw [List.foldl_append]; rfl
theorem skipT_iff {x y : Sn} : skipT x y = false ↔ toldB y = true ∧ y.part = x.part ∧ y.text = x.text := by
  unfold skipT
  simp only [Bool.or_eq_false_iff, Bool.not_eq_false', decide_eq_true_eq, and_assoc]
theorem skipO_iff {x y : Sn} : skipO x y = false ↔ goodB y 10 10 = true ∧ y.part = x.part ∧ y.pid = x.pid ∧ y.pidEpoch = x.pidEpoch := by
  unfold skipO
  simp only [Bool.or_eq_false_iff, Bool.not_eq_false', decide_eq_true_eq, and_assoc]
theorem isSent_iff {x y : Sn} : isSent x y = true ↔ y.done = false ∧ y.kind = 10 ∧ y.part = x.part ∧ y.text = x.text := by
  unfold isSent
  simp [and_assoc]

theorem Hst.next (H : Hst h p) (F : Joins h x) (hv : toldB x = true → ∀ t, p.values (x.part, x.offset) = some t → t = x.text) : Hst (h ++ [x]) (noteP p h.length x) where
  calls id i := by
    rw [n_calls]
    cases hd : x.done with
    | true =>
      rw [if_pos rfl, H.calls]
      constructor
      · rintro ⟨k, y, hy, r⟩; exact ⟨k, y, hy.left, r⟩
      · rintro ⟨k, y, hy, hyd, r⟩
        rcases At.snoc.1 hy with hy | ⟨_, rfl⟩
        · exact ⟨k, y, hy, hyd, r⟩
        · rw [hd] at hyd; cases hyd
    | false =>
      rw [if_neg (by decide), put_of]
      by_cases e : id = x.id
      · subst e
        rw [if_pos rfl]
        constructor
        · intro hi; exact ⟨h.length, x, At.last h x, hd, rfl, (Option.some.inj hi).symm⟩
        · rintro ⟨k, y, hy, hyd, hid, rfl⟩
          rcases At.snoc.1 hy with hy | ⟨rfl, rfl⟩
          · exact absurd hid (F.new hd k y hy)
          · rfl
      · rw [if_neg e, H.calls]
        constructor
        · rintro ⟨k, y, hy, r⟩; exact ⟨k, y, hy.left, r⟩
        · rintro ⟨k, y, hy, hyd, hid, r⟩
          rcases At.snoc.1 hy with hy | ⟨_, rfl⟩
          · exact ⟨k, y, hy, hyd, hid, r⟩
          · exact absurd hid.symm e
  kinds k y hy hyd := by
    rw [n_kinds]
    rcases At.snoc.1 hy with hy | ⟨_, rfl⟩
    · cases hd : x.done with
      | true => rw [if_pos rfl]; exact H.kinds k y hy hyd
      | false => rw [if_neg (by decide), put_of, if_neg (F.new hd k y hy)]; exact H.kinds k y hy hyd
    · rw [hyd, if_neg (by decide), put_of, if_pos rfl]
  done id := by
    rw [n_done]
    cases hd : x.done with
    | true =>
      rw [if_pos rfl, put_of]
      by_cases e : id = x.id
      · rw [if_pos e]; exact ⟨fun _ => ⟨h.length, x, At.last h x, hd, e.symm⟩, fun _ => rfl⟩
      · rw [if_neg e, H.done]
        constructor
        · rintro ⟨k, y, hy, r⟩; exact ⟨k, y, hy.left, r⟩
        · rintro ⟨k, y, hy, hyd, r⟩
          rcases At.snoc.1 hy with hy | ⟨_, rfl⟩
          · exact ⟨k, y, hy, hyd, r⟩
          · exact absurd r.symm e
    | false =>
      rw [if_neg (by decide), H.done]
      constructor
      · rintro ⟨k, y, hy, r⟩; exact ⟨k, y, hy.left, r⟩
      · rintro ⟨k, y, hy, hyd, r⟩
        rcases At.snoc.1 hy with hy | ⟨_, rfl⟩
        · exact ⟨k, y, hy, hyd, r⟩
        · rw [hd] at hyd; cases hyd
  back k y hy hyd := by
    rcases At.snoc.1 hy with hy | ⟨rfl, rfl⟩
    · obtain ⟨c, z, hck, hz, r⟩ := H.back k y hy hyd
      exact ⟨c, z, hck, hz.left, r⟩
    · obtain ⟨c, z, hz, r⟩ := (F.ret hyd).2
      exact ⟨c, z, hz.lt, hz.left, r⟩
  once k y k' y' hy hy' hd hd' e := by
    rcases At.snoc.1 hy with hk | ⟨e1, e2⟩
    · rcases At.snoc.1 hy' with hk' | ⟨e3, e4⟩
      · exact H.once k y k' y' hk hk' hd hd' e
      · exact absurd (e.trans (by rw [e4])) ((F.ret (by rw [← e4]; exact hd')).1 k y hk hd)
    · rcases At.snoc.1 hy' with hk' | ⟨e3, e4⟩
      · exact absurd (e.symm.trans (by rw [e2])) ((F.ret (by rw [← e2]; exact hd)).1 k' y' hk' hd')
      · rw [e1, e3]
  values a t := by
    rw [n_values]
    cases ht : toldB x with
    | true =>
      rw [if_pos rfl, put_of]
      by_cases e : a = (x.part, x.offset)
      · subst e
        rw [if_pos rfl]
        constructor
        · intro h; exact ⟨_, x, At.last _ x, ht, rfl, Option.some.inj h⟩
        · rintro ⟨k, y, hy, hyt, he, rfl⟩
          rcases At.snoc.1 hy with hy | ⟨_, rfl⟩
          · rw [hv ht y.text ((H.values _ _).2 ⟨k, y, hy, hyt, he, rfl⟩)]
          · rfl
      · rw [if_neg e, H.values]
        constructor
        · rintro ⟨k, y, hy, r⟩; exact ⟨k, y, hy.left, r⟩
        · rintro ⟨k, y, hy, hyt, he, r⟩
          rcases At.snoc.1 hy with hy | ⟨_, rfl⟩
          · exact ⟨k, y, hy, hyt, he, r⟩
          · exact absurd he.symm e
    | false =>
      rw [if_neg (by decide), H.values]
      constructor
      · rintro ⟨k, y, hy, r⟩; exact ⟨k, y, hy.left, r⟩
      · rintro ⟨k, y, hy, hyt, r⟩
        rcases At.snoc.1 hy with hy | ⟨_, rfl⟩
        · exact ⟨k, y, hy, hyt, r⟩
        · rw [ht] at hyt; cases hyt
  acked a := by
    rw [n_acked]
    cases ht : goodB x 10 10 with
    | true =>
      rw [if_pos rfl, put_of]
      by_cases e : a = (x.part, x.offset)
      · rw [if_pos e]; exact ⟨fun _ => ⟨h.length, x, At.last h x, ht, e.symm⟩, fun _ => rfl⟩
      · rw [if_neg e, H.acked]
        constructor
        · rintro ⟨k, y, hy, r⟩; exact ⟨k, y, hy.left, r⟩
        · rintro ⟨k, y, hy, hyt, r⟩
          rcases At.snoc.1 hy with hy | ⟨_, rfl⟩
          · exact ⟨k, y, hy, hyt, r⟩
          · exact absurd r.symm e
    | false =>
      rw [if_neg (by decide), H.acked]
      constructor
      · rintro ⟨k, y, hy, r⟩; exact ⟨k, y, hy.left, r⟩
      · rintro ⟨k, y, hy, hyt, r⟩
        rcases At.snoc.1 hy with hy | ⟨_, rfl⟩
        · exact ⟨k, y, hy, hyt, r⟩
        · rw [ht] at hyt; cases hyt
  sent q := by
    rw [n_sent]
    have e2 : sentI (h ++ [x]) q = sentI h q + if isSent q x then 1 else 0 := by
      unfold sentI
      rw [List.filter_append, List.length_append]
      cases hs : isSent q x <;> simp [hs]
    rw [e2]
    by_cases hc : x.done = false ∧ x.kind = 10
    · rw [if_pos hc, put_of]
      by_cases e : (q.part, q.text) = (x.part, x.text)
      · rw [if_pos e, ← e, H.sent q]
        rw [Prod.mk.injEq] at e
        rw [if_pos (isSent_iff.2 ⟨hc.1, hc.2, e.1.symm, e.2.symm⟩)]
      · rw [if_neg e, H.sent q, if_neg (fun hs => e (by have := isSent_iff.1 hs; rw [this.2.2.1, this.2.2.2]))]; omega
    · rw [if_neg hc, H.sent q, if_neg (fun hs => hc ⟨(isSent_iff.1 hs).1, (isSent_iff.1 hs).2.1⟩)]; omega
  offsets q := by
    rw [n_offsets, foldl_snoc_offs]
    unfold offsS
    cases ht : toldB x with
    | false =>
      rw [if_neg (by decide), H.offsets q, if_pos (by
        cases hs : skipT q x with
        | true => rfl
        | false => rw [(skipT_iff.1 hs).1] at ht; cases ht)]
    | true =>
      rw [if_pos rfl]
      by_cases e : (q.part, q.text) = (x.part, x.text)
      · have hs : skipT q x = false := by rw [Prod.mk.injEq] at e; exact skipT_iff.2 ⟨ht, e.1.symm, e.2.symm⟩
        rw [← e, H.offsets q, hs]
        simp only [Bool.false_eq_true, if_false]
        by_cases hm : x.offset ∈ offsR h q
        · rw [if_pos hm, if_pos hm]; exact H.offsets q
        · rw [if_neg hm, if_neg hm, put_of, if_pos rfl]
      · have hs : skipT q x = true := by
          cases hs : skipT q x with
          | true => rfl
          | false => exact absurd (by have := skipT_iff.1 hs; rw [this.2.1, this.2.2]) e
        rw [if_pos hs]
        split
        · exact H.offsets q
        · rw [put_of, if_neg e]; exact H.offsets q
  sends q := by
    rw [n_sends, List.filter_append]
    cases ht : goodB x 10 10 with
    | false =>
      have hs : skipO q x = true := by
        cases hs : skipO q x with
        | true => rfl
        | false => rw [(skipO_iff.1 hs).1] at ht; cases ht
      rw [if_neg (by decide), H.sends q]; simp [hs]
    | true =>
      rw [if_pos rfl, put_of]
      by_cases e : (q.part, q.pid, q.pidEpoch) = (x.part, x.pid, x.pidEpoch)
      · rw [if_pos e, ← e, H.sends q]
        simp only [Prod.mk.injEq] at e
        have hs : skipO q x = false := skipO_iff.2 ⟨ht, e.1.symm, e.2.1.symm, e.2.2.symm⟩
        simp [hs]
      · have hs : skipO q x = true := by
          cases hs : skipO q x with
          | true => rfl
          | false => exact absurd (by have := skipO_iff.1 hs; rw [this.2.1, this.2.2.1, this.2.2.2]) e
        rw [if_neg e, H.sends q]; simp [hs]
  deletes a m := by
    rw [n_deletes]
    cases ht : goodB x 6 6 with
    | false =>
      rw [if_neg (by decide), H.deletes]
      constructor
      · rintro ⟨k, y, hy, r⟩; exact ⟨k, y, hy.left, r⟩
      · rintro ⟨k, y, hy, hyt, r⟩
        rcases At.snoc.1 hy with hy | ⟨_, rfl⟩
        · exact ⟨k, y, hy, hyt, r⟩
        · rw [ht] at hyt; cases hyt
    | true =>
      rw [if_pos rfl, put_of]
      by_cases e : a = x.part
      · subst e
        rw [if_pos rfl, List.mem_append, H.deletes]
        constructor
        · rintro (⟨k, y, hy, r⟩ | hm)
          · exact ⟨k, y, hy.left, r⟩
          · exact ⟨h.length, x, At.last h x, ht, rfl, List.mem_singleton.1 hm⟩
        · rintro ⟨k, y, hy, hyt, hp, hm⟩
          rcases At.snoc.1 hy with hy | ⟨rfl, rfl⟩
          · exact .inl ⟨k, y, hy, hyt, hp, hm⟩
          · exact .inr (List.mem_singleton.2 hm)
      · rw [if_neg e, H.deletes]
        constructor
        · rintro ⟨k, y, hy, r⟩; exact ⟨k, y, hy.left, r⟩
        · rintro ⟨k, y, hy, hyt, hp, hm⟩
          rcases At.snoc.1 hy with hy | ⟨_, rfl⟩
          · exact ⟨k, y, hy, hyt, hp, hm⟩
          · exact absurd hp.symm e
  gens a m := by
    rw [n_gens]
    cases ht : goodB x 2 3 with
    | false =>
      rw [if_neg (by decide), H.gens]
      constructor
      · rintro ⟨k, y, hy, r⟩; exact ⟨k, y, hy.left, r⟩
      · rintro ⟨k, y, hy, hyt, r⟩
        rcases At.snoc.1 hy with hy | ⟨_, rfl⟩
        · exact ⟨k, y, hy, hyt, r⟩
        · rw [ht] at hyt; cases hyt
    | true =>
      rw [if_pos rfl, put_of]
      by_cases e : a = x.name
      · subst e
        rw [if_pos rfl, List.mem_append, H.gens]
        constructor
        · rintro (⟨k, y, hy, r⟩ | hm)
          · exact ⟨k, y, hy.left, r⟩
          · exact ⟨h.length, x, At.last h x, ht, rfl, List.mem_singleton.1 hm⟩
        · rintro ⟨k, y, hy, hyt, hp, hm⟩
          rcases At.snoc.1 hy with hy | ⟨rfl, rfl⟩
          · exact .inl ⟨k, y, hy, hyt, hp, hm⟩
          · exact .inr (List.mem_singleton.2 hm)
      · rw [if_neg e, H.gens]
        constructor
        · rintro ⟨k, y, hy, r⟩; exact ⟨k, y, hy.left, r⟩
        · rintro ⟨k, y, hy, hyt, hp, hm⟩
          rcases At.snoc.1 hy with hy | ⟨_, rfl⟩
          · exact ⟨k, y, hy, hyt, hp, hm⟩
          · exact absurd hp.symm e
  commits a g := by
    rw [n_commits]
    cases hd : x.done with
    | true =>
      rw [if_pos rfl, List.mem_map]
      have step : ∀ k z, At h k z → z.done = false → endG x.id h.length x.err (sgOf h k z) = sgOf (h ++ [x]) k z := fun k z hz hzd => by
        by_cases e : z.id = x.id
        · have hno : ∀ m y, At h m y → isRet z y = false := fun m y hy => by
            cases hr : isRet z y with
            | false => rfl
            | true => have := isRet_iff.1 hr; exact absurd (this.2.trans e) ((F.ret hd).1 m y hy this.1)
          rw [retR_snoc_new hz (isRet_iff.2 ⟨hd, e.symm⟩) hno, sgOf_open hno]
          unfold endG; rw [if_pos e]
        · rw [retR_snoc_old H (by
            cases hr : isRet z x with
            | false => rfl
            | true => exact absurd (isRet_iff.1 hr).2.symm e)]
          unfold endG; rw [if_neg (show ¬ (sgOf h k z).id = x.id from e)]
      constructor
      · rintro ⟨g0, hg0, rfl⟩
        obtain ⟨k, z, hz, hzd, h4, ha, rfl⟩ := (H.commits _ _).1 hg0
        exact ⟨k, z, hz.left, hzd, h4, ha, step k z hz hzd⟩
      · rintro ⟨k, z, hz, hzd, h4, ha, rfl⟩
        rcases At.snoc.1 hz with hz | ⟨_, rfl⟩
        · exact ⟨sgOf h k z, (H.commits _ _).2 ⟨k, z, hz, hzd, h4, ha, rfl⟩, step k z hz hzd⟩
        · rw [hd] at hzd; cases hzd
    | false =>
      rw [if_neg (by decide)]
      have step : ∀ k z, At h k z → sgOf (h ++ [x]) k z = sgOf h k z := fun k z hz => retR_snoc_old H (by
        cases hr : isRet z x with
        | false => rfl
        | true => have := (isRet_iff.1 hr).1; rw [hd] at this; cases this)
      have old : (∃ k z, At h k z ∧ z.done = false ∧ z.kind = 4 ∧ (z.name, z.part) = a ∧ g = sgOf h k z) → ∃ k z, At (h ++ [x]) k z ∧ z.done = false ∧ z.kind = 4 ∧ (z.name, z.part) = a ∧ g = sgOf (h ++ [x]) k z := by
        rintro ⟨k, z, hz, hzd, h4, ha, rfl⟩
        exact ⟨k, z, hz.left, hzd, h4, ha, (step k z hz).symm⟩
      by_cases h4 : x.kind = 4
      · rw [if_pos h4, put_of]
        by_cases e : a = (x.name, x.part)
        · rw [if_pos e, List.mem_append, ← e, H.commits]
          constructor
          · rintro (hg | hg)
            · exact old hg
            · exact ⟨h.length, x, At.last h x, hd, h4, e.symm, (List.mem_singleton.1 hg).trans (sgOf_new x).symm⟩
          · rintro ⟨k, z, hz, hzd, hz4, ha, rfl⟩
            rcases At.snoc.1 hz with hz | ⟨rfl, rfl⟩
            · exact .inl ⟨k, z, hz, hzd, hz4, ha, step k z hz⟩
            · exact .inr (List.mem_singleton.2 (sgOf_new z))
        · rw [if_neg e, H.commits]
          refine ⟨old, ?_⟩
          rintro ⟨k, z, hz, hzd, hz4, ha, rfl⟩
          rcases At.snoc.1 hz with hz | ⟨rfl, rfl⟩
          · exact ⟨k, z, hz, hzd, hz4, ha, step k z hz⟩
          · exact absurd ha.symm e
      · rw [if_neg h4, H.commits]
        refine ⟨old, ?_⟩
        rintro ⟨k, z, hz, hzd, hz4, ha, rfl⟩
        rcases At.snoc.1 hz with hz | ⟨rfl, rfl⟩
        · exact ⟨k, z, hz, hzd, hz4, ha, step k z hz⟩
        · exact absurd hz4 h4
end
end Go.Proofs.Ytahpokcigdjilaa
