/- Chapter 22: what is wrong with the next one: the checker and the document say the same. -/
import Derived.Test.YtahpokcigdjilaaDefs22h
namespace Go.Proofs.Ytahpokcigdjilaa
open Go Go.Sp

section
variable {h : List Sn} {p : PS} {x : Sn}
theorem call_same (H : Hst h p) : ((x.done = false ∧ p.calls x.id ≠ none) ∨ (x.done = true ∧ (p.calls x.id = none ∨ p.done x.id = true ∨ p.kinds x.id ≠ x.ask))) ↔ callB h x = true := by
  have hcalls : p.calls x.id ≠ none ↔ ∃ k y, At h k y ∧ y.done = false ∧ y.id = x.id := by
    constructor
    · intro hn
      cases e : p.calls x.id with
      | none => exact absurd e hn
      | some i => obtain ⟨k, y, hy, hd, hid, _⟩ := (H.calls _ _).1 e; exact ⟨k, y, hy, hd, hid⟩
    · rintro ⟨k, y, hy, hd, hid⟩ hn
      have := (H.calls x.id k).2 ⟨k, y, hy, hd, hid, rfl⟩
      rw [hn] at this; cases this
  unfold callB
  rw [Bool.or_eq_true, any_at]
  constructor
  · rintro (⟨hd, hc⟩ | ⟨hd, hc⟩)
    · obtain ⟨k, y, hy, _, hid⟩ := hcalls.1 hc
      refine .inl ⟨k, y, hy, ?_⟩
      have := id_eq.1 hid
      unfold sameOr sameB; rw [decide_eq_true this.1, decide_eq_true this.2, hd]; rfl
    · by_cases hdn : p.done x.id = true
      · obtain ⟨k, y, hy, hyd, hid⟩ := (H.done _).1 hdn
        refine .inl ⟨k, y, hy, ?_⟩
        have := id_eq.1 hid
        unfold sameOr sameB; rw [decide_eq_true this.1, decide_eq_true this.2, hyd, hd]; rfl
      · right
        rw [hd, Bool.true_and]
        rcases callR_cases h x with ⟨e, _⟩ | ⟨k, z, e, hz, hcall⟩
        · unfold badCall; rw [e]; rfl
        · have hz' : h[(callR h x).toNat]?.getD sn0 = z := by rw [e]; show h[k]?.getD sn0 = z; rw [show h[k]? = some z from hz]; rfl
          have hci := isCall_iff.1 hcall
          have hk := H.kinds k z hz hci.1
          rw [hci.2] at hk
          rcases hc with hc | hc | hc
          · exact absurd hc (hcalls.2 ⟨k, z, hz, hci.1, hci.2⟩)
          · exact absurd hc hdn
          · rw [hz']
            rw [hk] at hc
            have hc := fun e => hc (ask_eq.2 e)
            cases hb : badCall z x (callR h x) with
            | true => rfl
            | false =>
              unfold badCall at hb
              simp only [Bool.or_eq_false_iff, Bool.not_eq_false', decide_eq_true_eq] at hb
              exact absurd ⟨hb.1.1.2, hb.1.2, hb.2⟩ hc
  · rintro (⟨k, y, hy, hs⟩ | hb)
    · unfold sameOr sameB at hs
      simp only [Bool.and_eq_true, Bool.or_eq_true, Bool.not_eq_true', decide_eq_true_eq] at hs
      have hid : y.id = x.id := id_eq.2 hs.1
      have hex : ∃ k y, At h k y ∧ y.done = false ∧ y.id = x.id := by
        cases hyd : y.done with
        | false => exact ⟨k, y, hy, hyd, hid⟩
        | true =>
          obtain ⟨c, z, _, hz, hzd, hzid, _⟩ := H.back k y hy hyd
          exact ⟨c, z, hz, hzd, hzid.trans hid⟩
      cases hd : x.done with
      | false => exact .inl ⟨rfl, hcalls.2 hex⟩
      | true =>
        have hyd : y.done = true := by
          rcases hs.2 with e | e
          · rw [hd] at e; cases e
          · exact e
        exact .inr ⟨rfl, .inr (.inl ((H.done _).2 ⟨k, y, hy, hyd, hid⟩))⟩
    · rw [Bool.and_eq_true] at hb
      obtain ⟨hd, hb⟩ := hb
      refine .inr ⟨hd, ?_⟩
      rcases callR_cases h x with ⟨e, _⟩ | ⟨k, z, e, hz, hcall⟩
      · left; rw [H.callR_eq x, if_pos e]
      · have hz' : h[(callR h x).toNat]?.getD sn0 = z := by rw [e]; show h[k]?.getD sn0 = z; rw [show h[k]? = some z from hz]; rfl
        have hci := isCall_iff.1 hcall
        have hk := H.kinds k z hz hci.1
        rw [hci.2] at hk
        right; right
        rw [hk]
        intro ha
        have ha := ask_eq.1 ha
        rw [hz'] at hb
        unfold badCall at hb
        rw [decide_eq_true ha.1, decide_eq_true ha.2.1, decide_eq_true ha.2.2, decide_eq_false (by omega)] at hb; cases hb
theorem value_same (H : Hst h p) : (∃ t, p.values (x.part, x.offset) = some t ∧ t ≠ x.text) ↔ h.any (valueP x) = true := by
  rw [any_at]
  constructor
  · rintro ⟨t, ht, hne⟩
    obtain ⟨k, y, hy, hyt, he, rfl⟩ := (H.values _ _).1 ht
    rw [Prod.mk.injEq] at he
    refine ⟨k, y, hy, ?_⟩
    unfold valueP; rw [hyt, decide_eq_true he.1, decide_eq_true he.2, decide_eq_false hne]; rfl
  · rintro ⟨k, y, hy, hv⟩
    unfold valueP at hv
    simp only [Bool.and_eq_true, Bool.not_eq_true', decide_eq_true_eq, decide_eq_false_iff_not] at hv
    exact ⟨y.text, (H.values _ _).2 ⟨k, y, hy, hv.1.1.1, by rw [hv.1.1.2, hv.1.2], rfl⟩, hv.2⟩
theorem offset_same (H : Hst h p) : p.acked (x.part, x.offset) = true ↔ h.any (offsetP x) = true := by
  rw [any_at, H.acked]
  constructor
  · rintro ⟨k, y, hy, hg, he⟩
    rw [Prod.mk.injEq] at he
    refine ⟨k, y, hy, ?_⟩
    unfold offsetP; rw [hg, decide_eq_true he.1, decide_eq_true he.2]; rfl
  · rintro ⟨k, y, hy, hv⟩
    unfold offsetP at hv
    simp only [Bool.and_eq_true, decide_eq_true_eq] at hv
    exact ⟨k, y, hy, hv.1.1, by rw [hv.1.2, hv.2]⟩
theorem twice_same (H : Hst h p) (ht : toldB x = true) : p.sent (x.part, x.text) < manyP p x ↔ sentI h x < ((offsR (h ++ [x]) x).length : Int) := by
  have hm : ((offsR (h ++ [x]) x).length : Int) = manyP p x := by
    unfold manyP
    rw [foldl_snoc_offs, H.offsets x]
    unfold offsS
    rw [skipT_iff.2 ⟨ht, rfl, rfl⟩]
    simp only [Bool.false_eq_true, if_false]
    split <;> simp
  rw [hm, H.sent x]
theorem order_same (H : Hst h p) : (p.sends (x.part, x.pid, x.pidEpoch)).any (offOrder x) = h.any (orderP x) := by
  rw [H.sends x, Bool.eq_iff_iff, List.any_eq_true, List.any_eq_true]
  have hb : ∀ y : Sn, offOrder x y = badO_ x y := fun y => by
    unfold offOrder badO_
    rw [Bool.eq_iff_iff]
    simp only [Bool.or_eq_true, Bool.and_eq_true, decide_eq_true_eq, ne_eq, decide_eq_decide]
    omega
  constructor
  · rintro ⟨y, hy, ho⟩
    rw [List.mem_filter] at hy
    exact ⟨y, hy.1, by unfold orderP; rw [← hb, ho, hy.2]; rfl⟩
  · rintro ⟨y, hy, ho⟩
    unfold orderP at ho
    rw [Bool.and_eq_true] at ho
    exact ⟨y, List.mem_filter.2 ⟨hy, ho.1⟩, by rw [hb]; exact ho.2⟩
theorem deleted_same (H : Hst h p) : (p.deletes x.part).any (laterM (callR h x) x.offset) = (h.take (callR h x).toNat).any (delP x) := by
  rw [Bool.eq_iff_iff, List.any_eq_true, any_take]
  constructor
  · rintro ⟨m, hm, hl⟩
    obtain ⟨k, y, hy, hg, hp, rfl⟩ := (H.deletes _ _).1 hm
    unfold laterM at hl
    simp only [Bool.and_eq_true, decide_eq_true_eq] at hl
    refine ⟨k, y, by omega, hy, ?_⟩
    unfold delP; rw [hg, decide_eq_true hp, decide_eq_true hl.2]; rfl
  · rintro ⟨k, y, hk, hy, hd⟩
    unfold delP at hd
    simp only [Bool.and_eq_true, decide_eq_true_eq] at hd
    refine ⟨⟨k, y.offset⟩, (H.deletes _ _).2 ⟨k, y, hy, hd.1.1, hd.1.2, rfl⟩, ?_⟩
    unfold laterM
    rw [decide_eq_true (show (k : Int) < callR h x by omega), decide_eq_true hd.2]; rfl
theorem gen_same (H : Hst h p) : (p.gens x.name).any (genM (callR h x) x.seq) = anyAt (genP x (callR h x)) h := by
  rw [Bool.eq_iff_iff, List.any_eq_true, anyAt_iff]
  constructor
  · rintro ⟨m, hm, hl⟩
    obtain ⟨k, y, hy, hg, hp, rfl⟩ := (H.gens _ _).1 hm
    refine ⟨k, y, hy, ?_⟩
    unfold genP; rw [hg, decide_eq_true hp, Bool.true_and, Bool.true_and]; exact hl
  · rintro ⟨k, y, hy, hd⟩
    unfold genP at hd
    rw [Bool.and_eq_true, Bool.and_eq_true, decide_eq_true_eq] at hd
    exact ⟨⟨k, y.seq⟩, (H.gens _ _).2 ⟨k, y, hy, hd.1.1, hd.1.2, rfl⟩, hd.2⟩
theorem fenced_same (H : Hst h p) : (p.gens x.name).any (laterM (callR h x) x.seq) = (h.take (callR h x).toNat).any (fenP x) := by
  rw [Bool.eq_iff_iff, List.any_eq_true, any_take]
  constructor
  · rintro ⟨m, hm, hl⟩
    obtain ⟨k, y, hy, hg, hp, rfl⟩ := (H.gens _ _).1 hm
    unfold laterM at hl
    simp only [Bool.and_eq_true, decide_eq_true_eq] at hl
    refine ⟨k, y, by omega, hy, ?_⟩
    unfold fenP; rw [hg, decide_eq_true hp, decide_eq_true hl.2]; rfl
  · rintro ⟨k, y, hk, hy, hd⟩
    unfold fenP at hd
    simp only [Bool.and_eq_true, decide_eq_true_eq] at hd
    refine ⟨⟨k, y.seq⟩, (H.gens _ _).2 ⟨k, y, hy, hd.1.1, hd.1.2, rfl⟩, ?_⟩
    unfold laterM
    rw [decide_eq_true (show (k : Int) < callR h x by omega), decide_eq_true hd.2]; rfl
/-! ### Commits -/
/-- A good return of a commit is its call's. -/
theorem Hst.ended (H : Hst h p) {k : Nat} {y : Sn} (hy : At h k y) (hd : y.done = true) : ∃ c z, At h c z ∧ z.done = false ∧ z.id = y.id ∧ z.ask = y.ask ∧ retR h c z = k ∧ (sgOf h c z).err = y.err := by
  obtain ⟨c, z, hck, hz, hzd, hid, hask⟩ := H.back k y hy hd
  have hr : retR h c z = k := by
    rcases retR_cases h c z with ⟨_, ha⟩ | ⟨j, y', e, _, hy', hr⟩
    · have := ha k y hck hy
      rw [isRet_iff.2 ⟨hd, hid.symm⟩] at this; cases this
    · have r := isRet_iff.1 hr
      rw [e, H.once j y' k y hy' hy r.1 hd (r.2.trans hid)]
  refine ⟨c, z, hz, hzd, hid, hask, hr, ?_⟩
  unfold sgOf
  rw [hr, if_neg (by omega)]
  have : h[((k : Nat) : Int).toNat]? = some y := hy
  rw [this]; rfl
/-- What a span tells. -/
theorem Hst.span (H : Hst h p) {c : Nat} {z : Sn} (hz : At h c z) (hzd : z.done = false) : (retR h c z = -1) ∨ ∃ (k : Nat) (y : Sn), retR h c z = (k : Int) ∧ At h k y ∧ y.done = true ∧ y.id = z.id ∧ y.ask = z.ask ∧ (sgOf h c z).err = y.err ∧ c < k := by
  rcases retR_cases h c z with ⟨e, _⟩ | ⟨j, y, e, hcj, hy, hr⟩
  · exact .inl e
  · right
    have r := isRet_iff.1 hr
    obtain ⟨c', z', _, hz', hzd', hid', hask'⟩ := H.back j y hy r.1
    have hcc : c' = c := H.one hz' hz hzd' hzd (hid'.trans r.2)
    subst hcc
    have := hz.inj hz'; subst this
    refine ⟨j, y, e, hy, r.1, r.2, hask'.symm, ?_, hcj⟩
    unfold sgOf
    rw [e, if_neg (by omega)]
    have : h[((j : Nat) : Int).toNat]? = some y := hy
    rw [this]; rfl
theorem Hst.callR_take (H : Hst h p) {k c : Nat} {y z : Sn} (hz : At h c z) (hzd : z.done = false) (hid : z.id = y.id) (hck : c < k) : callR (h.take k) y = c := by
  rcases callR_cases (h.take k) y with ⟨_, ha⟩ | ⟨j, w, e, hw, hc⟩
  · have := ha c z (At.take.2 ⟨hck, hz⟩)
    rw [isCall_iff.2 ⟨hzd, hid⟩] at this; cases this
  · have hw := (At.take.1 hw).2
    have hci := isCall_iff.1 hc
    rw [e, H.one hw hz hci.1 hzd (hci.2.trans hid.symm)]
theorem ask4 {y z : Sn} (e : z.ask = y.ask) : z.kind = y.kind ∧ z.name = y.name ∧ z.part = y.part := ask_eq.1 e
/-- Good commits that returned ahead of a call. -/
theorem over_same (H : Hst h p) (a : Tx × Int) (fr : Int) (g : Sg) : (g ∈ p.commits a ∧ over fr g = true) ↔ ∃ (c : Nat) (z : Sn) (k : Nat) (y : Sn), At h c z ∧ z.done = false ∧ z.id = y.id ∧ g = sgOf h c z ∧ At h k y ∧ goodB y 4 4 = true ∧ (y.name, y.part) = a ∧ (k : Int) < fr ∧ retR h c z = k ∧ c < k := by
  constructor
  · rintro ⟨hg, ho⟩
    obtain ⟨c, z, hz, hzd, h4, ha, rfl⟩ := (H.commits _ _).1 hg
    unfold over at ho
    simp only [Bool.and_eq_true, decide_eq_true_eq] at ho
    rcases H.span hz hzd with e | ⟨k, y, e, hy, hd, hid, hask, herr, hck⟩
    · have : (sgOf h c z).to = -1 := e
      omega
    · have ht : (sgOf h c z).to = k := e
      have hA := ask4 hask
      refine ⟨c, z, k, y, hz, hzd, hid.symm, rfl, hy, goodB_iff.2 ⟨hd, by rw [← herr]; exact ho.2.1, .inl (by rw [hA.1]; exact h4)⟩, by rw [hA.2.1, hA.2.2]; exact ha, by omega, e, hck⟩
  · rintro ⟨c, z, k, y, hz, hzd, hid, rfl, hy, hg, ha, hk, hr, hck⟩
    have hgi := goodB_iff.1 hg
    obtain ⟨c', z', hz', hzd', hid', hask', hr', herr'⟩ := H.ended hy hgi.1
    have hcc : c' = c := H.one hz' hz hzd' hzd (hid'.trans hid.symm)
    subst hcc
    have := hz.inj hz'; subst this
    have hA := ask4 hask'
    refine ⟨(H.commits _ _).2 ⟨c', z, hz, hzd, by rw [hA.1]; have := hgi.2.2; omega, by rw [hA.2.1, hA.2.2]; exact ha, rfl⟩, ?_⟩
    unfold over
    have ht : (sgOf h c' z).to = k := hr
    rw [ht, herr', decide_eq_true (show (0 : Int) ≤ k by omega), decide_eq_true hgi.2.1, decide_eq_true hk]; rfl
theorem com_same (H : Hst h p) (fr : Int) : (p.commits (x.name, x.part)).any (over fr) = (h.take fr.toNat).any (comP x) := by
  rw [Bool.eq_iff_iff, List.any_eq_true, any_take]
  constructor
  · rintro ⟨g, hg, ho⟩
    obtain ⟨c, z, k, y, _, _, _, _, hy, hgd, ha, hk, _⟩ := (over_same H _ fr g).1 ⟨hg, ho⟩
    rw [Prod.mk.injEq] at ha
    exact ⟨k, y, by omega, hy, by unfold comP; rw [hgd, decide_eq_true ha.1, decide_eq_true ha.2]; rfl⟩
  · rintro ⟨k, y, hk, hy, hc⟩
    unfold comP at hc
    simp only [Bool.and_eq_true, decide_eq_true_eq] at hc
    have hgi := goodB_iff.1 hc.1.1
    obtain ⟨c, z, hck, hz, hzd, hid, hask⟩ := H.back k y hy hgi.1
    obtain ⟨c', z', hz', hzd', hid', hask', hr', herr'⟩ := H.ended hy hgi.1
    have hcc : c' = c := H.one hz' hz hzd' hzd (hid'.trans hid.symm)
    subst hcc
    have := hz.inj hz'; subst this
    have := (over_same H (x.name, x.part) fr (sgOf h c' z)).2 ⟨c', z, k, y, hz, hzd, hid, rfl, hy, hc.1.1, by rw [hc.1.2, hc.2], by omega, hr', hck⟩
    exact ⟨_, this.1, this.2⟩
theorem behind_same (H : Hst h p) (fr : Int) (g : Sg) (h0 : 0 ≤ g.to) : behind (p.commits (x.name, x.part)) fr g = overB h x.name x.part g.to fr := by
  unfold behind overB
  rw [Bool.eq_iff_iff, List.any_eq_true, anyAt_iff]
  constructor
  · rintro ⟨g', hg, ho⟩
    rw [Bool.and_eq_true, decide_eq_true_eq] at ho
    obtain ⟨c, z, k, y, hz, hzd, hid, rfl, hy, hgd, ha, hk, hr, hck⟩ := (over_same H _ fr g').1 ⟨hg, ho.1⟩
    rw [Prod.mk.injEq] at ha
    refine ⟨k, y, At.take.2 ⟨by omega, hy⟩, ?_⟩
    unfold overP
    have hf : (sgOf h c z).from_ = c := rfl
    rw [H.callR_take hz hzd hid hck, hgd, decide_eq_true ha.1, decide_eq_true ha.2, decide_eq_true h0, decide_eq_true (by rw [← hf]; exact ho.2)]; rfl
  · rintro ⟨k, y, hy, hc⟩
    obtain ⟨hk, hy⟩ := At.take.1 hy
    unfold overP at hc
    simp only [Bool.and_eq_true, decide_eq_true_eq] at hc
    have hgi := goodB_iff.1 hc.1.1.1.1
    obtain ⟨c, z, hck, hz, hzd, hid, hask⟩ := H.back k y hy hgi.1
    obtain ⟨c', z', hz', hzd', hid', hask', hr', herr'⟩ := H.ended hy hgi.1
    have hcc : c' = c := H.one hz' hz hzd' hzd (hid'.trans hid.symm)
    subst hcc
    have := hz.inj hz'; subst this
    have ho := (over_same H (x.name, x.part) fr (sgOf h c' z)).2 ⟨c', z, k, y, hz, hzd, hid, rfl, hy, hc.1.1.1.1, by rw [hc.1.1.1.2, hc.1.1.2], by omega, hr', hck⟩
    refine ⟨_, ho.1, ?_⟩
    have hcr := hc.2
    rw [H.callR_take hz hzd hid hck] at hcr
    rw [ho.2, decide_eq_true (show g.to < (sgOf h c' z).from_ from hcr)]; rfl
theorem overB_neg (name : Tx) (part r b : Int) (hr : r < 0) : overB h name part r b = false := by
  unfold overB
  refine anyAt_miss (Nat.le_refl _) fun k _ y hy => ?_
  unfold overP; rw [decide_eq_false (show ¬ (0 : Int) ≤ r by omega), Bool.and_false, Bool.false_and]
theorem still_same (H : Hst h p) : (p.commits (x.name, x.part)).any (stays (p.commits (x.name, x.part)) x.offset (callR h x)) = anyAt (stillC h x) h := by
  have one : ∀ k z, At h k z → z.done = false → z.offset = x.offset → stays (p.commits (x.name, x.part)) x.offset (callR h x) (sgOf h k z) = !overB h x.name x.part (okRet h (retR h k z)) (callR h x) := fun k z hz hzd hof => by
    unfold stays
    have ho : (sgOf h k z).offset = x.offset := hof
    rw [decide_eq_true ho, Bool.true_and]
    rcases H.span hz hzd with e | ⟨j, y, e, hy, hd, hid, hask, herr, hck⟩
    · have ht : (sgOf h k z).to = -1 := e
      have hk : okRet h (retR h k z) = -1 := by rw [e]; unfold okRet errAt; rfl
      rw [ht, hk, overB_neg _ _ _ _ (by omega)]; rfl
    · have ht : (sgOf h k z).to = j := e
      rw [herr, ht, decide_eq_false (show ¬ (j : Int) < 0 by omega), Bool.false_or]
      have hj : h[((j : Nat) : Int).toNat]?.getD sn0 = y := by have : h[((j : Nat) : Int).toNat]? = some y := hy; rw [this]; rfl
      by_cases he : y.err = 0
      · have hk : okRet h (retR h k z) = j := by rw [e]; unfold okRet errAt; rw [hj, decide_eq_true he]; simp
        rw [hk, decide_eq_false (show ¬ y.err ≠ 0 by simpa using he), Bool.false_or, behind_same H _ _ (by rw [ht]; omega), ht]
      · have hk : okRet h (retR h k z) = -1 := by rw [e]; unfold okRet errAt; rw [hj, decide_eq_false he, decide_eq_true (show (0 : Int) ≤ j by omega)]; rfl
        rw [hk, decide_eq_true (show y.err ≠ 0 from he), overB_neg _ _ _ _ (by omega)]; rfl
  rw [Bool.eq_iff_iff, List.any_eq_true, anyAt_iff]
  constructor
  · rintro ⟨g, hg, hs⟩
    obtain ⟨k, z, hz, hzd, h4, ha, rfl⟩ := (H.commits _ _).1 hg
    rw [Prod.mk.injEq] at ha
    have hof : z.offset = x.offset := by
      unfold stays at hs; rw [Bool.and_eq_true, decide_eq_true_eq] at hs; exact hs.1
    rw [one k z hz hzd hof] at hs
    refine ⟨k, z, hz, ?_⟩
    unfold stillC skipC
    rw [hs, hzd, decide_eq_true h4, decide_eq_true ha.1, decide_eq_true ha.2, decide_eq_true hof]; rfl
  · rintro ⟨k, z, hz, hs⟩
    unfold stillC skipC at hs
    rw [Bool.and_eq_true] at hs
    have h1 := hs.1
    simp only [Bool.not_eq_true', Bool.or_eq_false_iff, Bool.not_eq_false', decide_eq_true_eq] at h1
    refine ⟨sgOf h k z, (H.commits _ _).2 ⟨k, z, hz, h1.1.1.1.1, h1.1.1.1.2, by rw [h1.1.1.2, h1.1.2], rfl⟩, ?_⟩
    rw [one k z hz h1.1.1.1.1 h1.2]; exact hs.2
theorem good_no {s : Sn} {a b : Int} (h : ¬ (s.kind = a ∨ s.kind = b)) : goodB s a b = false := by
  cases e : goodB s a b with
  | false => rfl
  | true => exact absurd (goodB_iff.1 e).2.2 h
theorem good_yes {s : Sn} {a b : Int} (hd : s.done = true) (he : s.err = 0) (h : s.kind = a ∨ s.kind = b) : goodB s a b = true := goodB_iff.2 ⟨hd, he, h⟩
theorem wrong_same (H : Hst h p) : wrongP p x = atB h x := by
  unfold wrongP
  by_cases hc : callB h x = true
  · rw [if_pos ((call_same H).2 hc)]; unfold atB; rw [if_pos hc]
  · rw [if_neg fun e => hc ((call_same H).1 e)]
    have hc' : callB h x = false := by simpa using hc
    unfold atB
    rw [if_neg hc]
    by_cases hq : x.done = false ∨ x.err ≠ 0
    · rw [if_pos hq]
      have hg : ∀ a b, goodB x a b = false := fun a b => by
        cases e : goodB x a b with
        | false => rfl
        | true => have := goodB_iff.1 e; rcases hq with h | h; rw [this.1] at h; cases h; exact absurd this.2.1 h
      have ht : toldB x = false := hg 10 1
      unfold valueB offsetB unsentB twiceB orderB deletedB genB fencedB commitB
      simp [hg, ht]
    · rw [if_neg hq]
      have hd : x.done = true := by cases e : x.done with | true => rfl | false => exact absurd (.inl e) hq
      have he : x.err = 0 := Decidable.byContradiction fun e => hq (.inr e)
      have hfr : (p.calls x.id).getD 0 = callR h x := by
        rw [H.callR_eq x]
        by_cases e : callR h x = -1
        · exfalso
          refine hc ((call_same H).1 (.inr ⟨hd, .inl ?_⟩))
          rw [H.callR_eq x, if_pos e]
        · rw [if_neg e]; rfl
      rw [hfr]
      by_cases hk : x.kind = 10 ∨ x.kind = 1
      · rw [if_pos hk]
        have ht : toldB x = true := good_yes hd he hk
        unfold recordsP valueB offsetB unsentB twiceB orderB deletedB genB fencedB commitB
        rw [good_no (s := x) (a := 2) (b := 3) (by omega), good_no (s := x) (a := 4) (b := 4) (by omega), good_no (s := x) (a := 5) (b := 5) (by omega), ht]
        simp only [Bool.true_and, Bool.false_and, Bool.false_eq_true, if_false]
        by_cases hv : h.any (valueP x) = true
        · rw [if_pos ((value_same H).2 hv), if_pos hv]
        · rw [if_neg fun e => hv ((value_same H).1 e), if_neg hv]
          by_cases h10 : x.kind = 10
          · rw [good_yes (a := 10) (b := 10) hd he (.inl h10), good_no (s := x) (a := 1) (b := 1) (by omega)]
            simp only [Bool.true_and, Bool.false_and, Bool.false_eq_true, if_false, h10, true_and, if_true, decide_eq_true_eq]
            by_cases ho : h.any (offsetP x) = true
            · rw [if_pos ((offset_same H).2 ho), if_pos ho]
            · rw [if_neg fun e => ho ((offset_same H).1 e), if_neg ho, if_neg (show ¬ ((10 : Int) = 1 ∧ p.sent (x.part, x.text) = 0) from fun e => absurd e.1 (by decide))]
              by_cases hw : sentI h x < ((offsR (h ++ [x]) x).length : Int)
              · rw [if_pos ((twice_same H ht).2 hw), if_pos hw]
              · rw [if_neg fun e => hw ((twice_same H ht).1 e), if_neg hw, order_same H]
          · have h1 : x.kind = 1 := hk.resolve_left h10
            rw [good_no (s := x) (a := 10) (b := 10) (by omega), good_yes (a := 1) (b := 1) hd he (.inl h1)]
            simp only [Bool.true_and, Bool.false_and, Bool.false_eq_true, if_false, h1, true_and, decide_eq_true_eq]
            rw [if_neg (show ¬ ((1 : Int) = 10 ∧ p.acked (x.part, x.offset) = true) from fun e => absurd e.1 (by decide))]
            by_cases hu : sentI h x = 0
            · rw [if_pos (show p.sent (x.part, x.text) = 0 by rw [H.sent x]; exact hu), if_pos hu]
            · rw [if_neg (show ¬ p.sent (x.part, x.text) = 0 by rw [H.sent x]; exact hu), if_neg hu]
              by_cases hw : sentI h x < ((offsR (h ++ [x]) x).length : Int)
              · rw [if_pos ((twice_same H ht).2 hw), if_pos hw]
              · rw [if_neg fun e => hw ((twice_same H ht).1 e), if_neg hw, deleted_same H]
                rfl
      · rw [if_neg hk]
        have ht : toldB x = false := good_no hk
        unfold valueB offsetB unsentB twiceB orderB deletedB genB fencedB commitB
        rw [good_no (s := x) (a := 10) (b := 10) (by omega), good_no (s := x) (a := 1) (b := 1) (by omega), ht]
        simp only [Bool.false_and, Bool.false_eq_true, if_false]
        by_cases h2 : x.kind = 2 ∨ x.kind = 3
        · rw [if_pos h2, good_yes (a := 2) (b := 3) hd he h2, good_no (s := x) (a := 4) (b := 4) (by omega), good_no (s := x) (a := 5) (b := 5) (by omega), gen_same H]
          simp only [Bool.true_and, Bool.false_and, Bool.false_eq_true, if_false]
        · rw [if_neg h2, good_no h2]
          simp only [Bool.false_and, Bool.false_eq_true, if_false]
          by_cases h4 : x.kind = 4
          · rw [if_pos h4, good_yes (a := 4) (b := 4) hd he (.inl h4), good_no (s := x) (a := 5) (b := 5) (by omega), fenced_same H]
            simp only [Bool.true_and, Bool.false_and, Bool.false_eq_true, if_false]
          · rw [if_neg h4, good_no (s := x) (a := 4) (b := 4) (by omega)]
            simp only [Bool.false_and, Bool.false_eq_true, if_false]
            by_cases h5 : x.kind = 5
            · rw [if_pos h5, good_yes (a := 5) (b := 5) hd he (.inl h5), Bool.true_and]
              have hs : staleP p x (callR h x) = if x.offset = -1 then (h.take (callR h x).toNat).any (comP x) else !anyAt (stillC h x) h := by
                unfold staleP
                by_cases ho : x.offset = -1
                · rw [if_pos ho, if_pos ho, com_same H]
                · rw [if_neg ho, if_neg ho, still_same H]
              rw [hs]
            · rw [if_neg h5, good_no (s := x) (a := 5) (b := 5) (by omega), Bool.false_and]; rfl
theorem go_same : ∀ (l : List Sn) (h : List Sn) (p : PS), Hst h p → checkGo p h.length l = refGo h l
  | [], _, _, _ => rfl
  | x :: l, h, p, H => by
    unfold checkGo refGo
    rw [wrong_same H]
    by_cases e : atB h x = []
    · rw [if_pos e, if_pos e]
      have hc : callB h x = false := by
        cases hc : callB h x with
        | false => rfl
        | true => unfold atB at e; rw [if_pos hc] at e; cases e
      have hv : toldB x = true → ∀ t, p.values (x.part, x.offset) = some t → t = x.text := fun ht t hv => by
        by_cases hne : t = x.text
        · exact hne
        · have := (value_same H).1 ⟨t, hv, hne⟩
          unfold atB at e
          rw [if_neg (by rw [hc]; decide), if_pos (show valueB h x = true by unfold valueB; rw [ht, this]; rfl)] at e; cases e
      have := go_same l (h ++ [x]) (noteP p h.length x) (H.next (fits_of hc) hv)
      rw [← this, List.length_append]; rfl
    · rw [if_neg e, if_neg e]
theorem check_same (l : List Sn) : check l = refC l := go_same l [] .start .start
end
end Go.Proofs.Ytahpokcigdjilaa
