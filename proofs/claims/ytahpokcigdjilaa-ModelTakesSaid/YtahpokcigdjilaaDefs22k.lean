/- Chapter 22: a world goes on: a call is issued, a return is told, or kept. -/
import Derived.Test.YtahpokcigdjilaaDefs22j
namespace Go.Proofs.Ytahpokcigdjilaa
open Go Go.Sp

section
variable {i : Nat} {h : List Sn} {iss : List Ev} {opn : List Sn} {w : Wd}
theorem At.old {h : List Sn} {x y : Sn} {k : Nat} (e : At (h ++ [x]) k y) (hk : k < h.length) : At h k y := by
  rcases At.snoc.1 e with e | ⟨rfl, _⟩
  · exact e
  · omega
theorem good_snoc {h : List Sn} {x : Sn} (hg : ∀ k y, At h k y → atB (h.take k) y = []) (hx : atB h x = []) : ∀ k y, At (h ++ [x]) k y → atB ((h ++ [x]).take k) y = [] := by
  intro k y hy
  rcases At.snoc.1 hy with hy | ⟨rfl, rfl⟩
  · rw [List.take_append_of_le_length (Nat.le_of_lt hy.lt)]; exact hg k y hy
  · rw [List.take_left]; exact hx
theorem hst_snoc {h : List Sn} {x : Sn} (H : ∃ p, Hst h p) (hc : callB h x = false) (hv : valueB h x = false) : ∃ p, Hst (h ++ [x]) p := by
  obtain ⟨p, H⟩ := H
  refine ⟨_, H.next (fits_of hc) fun ht t he => ?_⟩
  by_cases hne : t = x.text
  · exact hne
  · have := (value_same H).1 ⟨t, he, hne⟩
    unfold valueB at hv; rw [ht, this] at hv; cases hv
theorem Last.ext {iss : List Ev} {n : Nat} {o : Int} {e : Ev} (L : Last iss n o) (he : n ≤ e.c) : Last (iss ++ [e]) n o := by
  rcases L with ⟨ho, hn⟩ | ⟨ho, z, hz, hzc, hlt, hzo, hmax⟩
  · refine .inl ⟨ho, fun f hf hc => ?_⟩
    rcases List.mem_append.1 hf with hf | hf
    · exact hn f hf hc
    · rw [List.mem_singleton.1 hf]; exact he
  · refine .inr ⟨ho, z, List.mem_append_left _ hz, hzc, hlt, hzo, fun f hf hc hl => ?_⟩
    rcases List.mem_append.1 hf with hf | hf
    · exact hmax f hf hc hl
    · rw [List.mem_singleton.1 hf] at hl; omega
/-- A return is told. -/
theorem Iv.told_ (V : Iv i h iss opn w) {e : Ev} (he : e ∈ iss) (hn : ∀ k y, At h k y → y.done = true → y.call ≠ e.s.call) (ho : e.s.call ∉ opn.map (·.call)) {y : Sn} (hy : y = e.r ∨ y = late e.r) : Iv i (h ++ [y]) iss opn w := by
  have E := V.ev e he
  obtain ⟨r1, r2, r3⟩ := V.right he hn hy
  have hyd : y.done = true := by rcases hy with rfl | rfl <;> exact E.rd
  have hyc : y.call = e.s.call := by rcases hy with rfl | rfl <;> exact V.callr he
  exact { V with
    good := good_snoc V.good r1
    hst := hst_snoc V.hst r2 r3
    calls := fun k z hz hd => by
      rcases At.snoc.1 hz with hz | ⟨_, rfl⟩
      · exact V.calls k z hz hd
      · rw [hyd] at hd; cases hd
    rets := fun k z hz hd => by
      rcases At.snoc.1 hz with hz | ⟨rfl, rfl⟩
      · exact V.rets k z hz hd
      · exact ⟨e, he, (V.here e he).lt, hy⟩
    here := fun f hf => (V.here f hf).left
    openE := fun o ho' => by
      obtain ⟨f, hf, rfl, hfn⟩ := V.openE o ho'
      refine ⟨f, hf, rfl, fun k z hz hd => ?_⟩
      rcases At.snoc.1 hz with hz | ⟨_, rfl⟩
      · exact hfn k z hz hd
      · rw [hyc]; intro e1
        exact ho (by rw [e1, ← V.callr hf]; exact List.mem_map_of_mem ho')
    offW := by
      rcases V.offW with ⟨h1, h2⟩ | ⟨h1, z, hz, hzc, hlt, hzo, hmax⟩
      · left
        refine ⟨h1, fun f hf hc => ?_⟩
        have := h2 f hf hc; have := (V.here f hf).lt; omega
      · right
        exact ⟨h1, z, hz, hzc, by rw [List.length_append]; omega, hzo, fun f hf hc _ => hmax f hf hc (V.here f hf).lt⟩ }
/-- A return is kept for later. -/
theorem Iv.kept (V : Iv i h iss opn w) {e : Ev} (he : e ∈ iss) (hn : ∀ k y, At h k y → y.done = true → y.call ≠ e.s.call) (ho : e.s.call ∉ opn.map (·.call)) : Iv i h iss (opn ++ [e.r]) w :=
  { V with
    openE := fun o ho' => by
      rcases List.mem_append.1 ho' with ho' | ho'
      · exact V.openE o ho'
      · exact ⟨e, he, List.mem_singleton.1 ho', hn⟩
    openN := by
      rw [List.map_append, List.nodup_append]
      refine ⟨V.openN, by simp, fun a ha b hb e1 => ?_⟩
      simp at hb
      subst hb
      rw [e1, V.callr he] at ha
      exact ho ha }
/-- What was kept is told. -/
theorem Iv.freed {o : Sn} (V : Iv i h iss (o :: opn) w) : Iv i (h ++ [o]) iss opn w := by
  have hN : (o.call :: opn.map (·.call)).Nodup := V.openN
  obtain ⟨e, he, rfl, hn⟩ := V.openE o List.mem_cons_self
  have V2 : Iv i h iss opn w := { V with openE := fun o ho => V.openE o (List.mem_cons_of_mem _ ho), openN := (List.nodup_cons.1 hN).2 }
  exact V2.told_ he hn (by rw [← V2.callr he]; exact (List.nodup_cons.1 hN).1) (.inl rfl)
/-- Time goes by. -/
theorem Iv.tick (V : Iv i h iss opn w) (hi : i < 100) : Iv (i + 1) h iss opn w :=
  { V with num := fun e he => by have := V.num e he; omega, small := hi }
/-- What a step may do. -/
structure NewOk (i : Nat) (w w' : Wd) (s r : Sn) : Prop where
  ev : ∀ c, EvOk ⟨c, s, r⟩
  num : s.call = (i : Int) + 1
  told : toldB r = true → 0 ≤ r.offset ∧ (w'.logs r.part)[r.offset.toNat]? = some r.text
  logs : ∀ p (m : Nat) t, (w.logs p)[m]? = some t → (w'.logs p)[m]? = some t
  logs' : ∀ p (m : Nat) t, (w'.logs p)[m]? = some t → (w.logs p)[m]? = some t ∨ (s.kind = 10 ∧ s.part = p ∧ s.text = t ∧ r.offset = m)
  start : ∀ p, w.start p ≤ w'.start p
  del : s.kind = 6 → r.offset ≤ w'.start s.part
  read : s.kind = 1 → r.err = 0 → w.start s.part ≤ r.offset
  gen : w.gen ≤ w'.gen
  join : s.kind = 2 → w.gen < r.seq ∧ r.seq ≤ w'.gen
  com : s.kind = 4 → r.err = 0 → w.gen ≤ r.seq ∧ w'.off = s.offset
  noCom : ¬ (s.kind = 4 ∧ r.err = 0) → w'.off = w.off
  fetch : s.kind = 5 → r.offset = w.off
theorem Iv.issued (V : Iv i h iss opn w) {w' : Wd} {s r : Sn} (N : NewOk i w w' s r) (hi : i < 100) : Iv (i + 1) (h ++ [s]) (iss ++ [⟨h.length, s, r⟩]) opn w' := by
  have E := N.ev h.length
  have hnew : ∀ k y, At h k y → y.call ≠ s.call := fun k y hy e => by
    have hc := N.num
    cases hd : y.done with
    | false =>
      obtain ⟨f, hf, _, rfl⟩ := V.calls k y hy hd
      have := V.num f hf; omega
    | true =>
      obtain ⟨f, hf, _, hr⟩ := V.rets k y hy hd
      have := V.num f hf
      have : y.call = f.s.call := by rcases hr with rfl | rfl <;> exact V.callr hf
      omega
  have hc : callB h s = false := by
    unfold callB
    rw [E.sd, Bool.false_and, Bool.or_false]
    cases ha : h.any (sameOr s) with
    | false => rfl
    | true =>
      obtain ⟨k, y, hy, hs⟩ := any_at.1 ha
      unfold sameOr sameB at hs
      simp only [Bool.and_eq_true, decide_eq_true_eq] at hs
      exact absurd hs.1.2 (hnew k y hy)
  have hv : valueB h s = false := by
    unfold valueB
    have : toldB s = false := by
      cases ht : toldB s with
      | false => rfl
      | true => have := (told_of.1 ht).1; rw [E.sd] at this; cases this
    rw [this]; rfl
  exact {
    good := good_snoc V.good (at_quiet hc (.inl E.sd))
    hst := hst_snoc V.hst hc hv
    calls := fun k y hy hd => by
      rcases At.snoc.1 hy with hy | ⟨rfl, rfl⟩
      · obtain ⟨f, hf, r⟩ := V.calls k y hy hd
        exact ⟨f, List.mem_append_left _ hf, r⟩
      · exact ⟨_, List.mem_append_right _ List.mem_cons_self, rfl, rfl⟩
    rets := fun k y hy hd => by
      rcases At.snoc.1 hy with hy | ⟨_, rfl⟩
      · obtain ⟨f, hf, r⟩ := V.rets k y hy hd
        exact ⟨f, List.mem_append_left _ hf, r⟩
      · rw [E.sd] at hd; cases hd
    here := fun f hf => by
      rcases List.mem_append.1 hf with hf | hf
      · exact (V.here f hf).left
      · rw [List.mem_singleton.1 hf]; exact At.last h s
    ev := fun f hf => by
      rcases List.mem_append.1 hf with hf | hf
      · exact V.ev f hf
      · rw [List.mem_singleton.1 hf]; exact E
    num := fun f hf => by
      rcases List.mem_append.1 hf with hf | hf
      · have := V.num f hf; omega
      · rw [List.mem_singleton.1 hf]
        have := N.num
        show 1 ≤ s.call ∧ s.call ≤ ((i + 1 : Nat) : Int)
        omega
    uniq := fun f hf g hg e => by
      have hn := N.num
      rcases List.mem_append.1 hf with hf | hf
      · rcases List.mem_append.1 hg with hg | hg
        · exact V.uniq f hf g hg e
        · rw [List.mem_singleton.1 hg] at e
          have := V.num f hf
          have : f.s.call = s.call := e
          omega
      · rcases List.mem_append.1 hg with hg | hg
        · rw [List.mem_singleton.1 hf] at e
          have := V.num g hg
          have : s.call = g.s.call := e
          omega
        · rw [List.mem_singleton.1 hf, List.mem_singleton.1 hg]
    openE := fun o ho => by
      obtain ⟨f, hf, rfl, hn⟩ := V.openE o ho
      refine ⟨f, List.mem_append_left _ hf, rfl, fun k y hy hd => ?_⟩
      rcases At.snoc.1 hy with hy | ⟨_, rfl⟩
      · exact hn k y hy hd
      · rw [E.sd] at hd; cases hd
    openN := V.openN
    two := fun f hf g hg hlt => by
      rcases List.mem_append.1 hf with hf | hf
      · rcases List.mem_append.1 hg with hg | hg
        · exact V.two f hf g hg hlt
        · rw [List.mem_singleton.1 hg]
          exact {
            del := fun h6 h1 he hp => by
              have a := V.startW f hf h6
              have b : w.start s.part ≤ r.offset := N.read h1 he
              have hp : f.s.part = s.part := hp
              rw [hp] at a
              exact Int.le_trans a b
            gens := fun f2 s2 => by
              have a := V.genW f hf f2
              have b := (N.join s2).1
              show f.r.seq < r.seq; omega
            fence := fun f2 hcm => by
              have a := V.genW f hf f2
              have b := (N.com hcm.1 hcm.2).1
              show f.r.seq ≤ r.seq; omega }
      · rw [List.mem_singleton.1 hf] at hlt
        have hlt : h.length < g.c := hlt
        rcases List.mem_append.1 hg with hg | hg
        · have := (V.here g hg).lt; omega
        · rw [List.mem_singleton.1 hg] at hlt; exact absurd hlt (Nat.lt_irrefl _)
    told := fun f hf ht => by
      rcases List.mem_append.1 hf with hf | hf
      · obtain ⟨a, b⟩ := V.told f hf ht
        exact ⟨a, N.logs _ _ _ b⟩
      · rw [List.mem_singleton.1 hf] at ht ⊢
        exact N.told ht
    fetch := fun f hf h5 => by
      rcases List.mem_append.1 hf with hf | hf
      · exact (V.fetch f hf h5).ext (Nat.le_of_lt (V.here f hf).lt)
      · rw [List.mem_singleton.1 hf] at h5 ⊢
        have := N.fetch h5
        show Last _ h.length r.offset
        rw [this]
        exact V.offW.ext (Nat.le_refl _)
    startW := fun f hf h6 => by
      rcases List.mem_append.1 hf with hf | hf
      · exact Int.le_trans (V.startW f hf h6) (N.start _)
      · rw [List.mem_singleton.1 hf] at h6 ⊢; exact N.del h6
    genW := fun f hf h2 => by
      rcases List.mem_append.1 hf with hf | hf
      · exact Int.le_trans (V.genW f hf h2) N.gen
      · rw [List.mem_singleton.1 hf] at h2 ⊢; exact (N.join h2).2
    offW := by
      rw [List.length_append]
      by_cases hcm : s.kind = 4 ∧ r.err = 0
      · right
        refine ⟨by rw [(N.com hcm.1 hcm.2).2]; exact E.comO hcm, ⟨h.length, s, r⟩, List.mem_append_right _ List.mem_cons_self, hcm, Nat.lt_succ_self _, (N.com hcm.1 hcm.2).2.symm, fun f hf _ hlt => ?_⟩
        exact Nat.le_of_lt_succ hlt
      · rw [N.noCom hcm]
        rcases V.offW with ⟨h1, h2⟩ | ⟨h1, z, hz, hzc, hlt, hzo, hmax⟩
        · left
          refine ⟨h1, fun f hf hc => ?_⟩
          rcases List.mem_append.1 hf with hf | hf
          · have := h2 f hf hc; have := (V.here f hf).lt; omega
          · rw [List.mem_singleton.1 hf] at hc; exact absurd hc hcm
        · right
          refine ⟨h1, z, List.mem_append_left _ hz, hzc, Nat.lt_succ_of_lt hlt, hzo, fun f hf hc _ => ?_⟩
          rcases List.mem_append.1 hf with hf | hf
          · exact hmax f hf hc (V.here f hf).lt
          · rw [List.mem_singleton.1 hf] at hc; exact absurd hc hcm
    logsW := fun p m t ht => by
      rcases N.logs' p m t ht with ht | ht
      · obtain ⟨f, hf, r⟩ := V.logsW p m t ht
        exact ⟨f, List.mem_append_left _ hf, r⟩
      · exact ⟨_, List.mem_append_right _ List.mem_cons_self, ht⟩
    small := hi }
/-- What was just issued was not told, nor kept. -/
theorem Iv.fresh (V : Iv i h iss opn w) {s : Sn} (hs : s.call = (i : Int) + 1) (hsd : s.done = false) : (∀ k y, At (h ++ [s]) k y → y.done = true → y.call ≠ s.call) ∧ s.call ∉ opn.map (·.call) := by
  constructor
  · intro k y hy hd e
    rcases At.snoc.1 hy with hy | ⟨_, rfl⟩
    · obtain ⟨f, hf, _, hr⟩ := V.rets k y hy hd
      have := V.num f hf
      have : y.call = f.s.call := by rcases hr with rfl | rfl <;> exact V.callr hf
      omega
    · rw [hsd] at hd; cases hd
  · intro hm
    obtain ⟨o, ho, e⟩ := List.mem_map.1 hm
    obtain ⟨f, hf, rfl, _⟩ := V.openE o ho
    have := V.num f hf
    have := V.callr hf
    have e : f.r.call = s.call := e
    omega
/-- A right history is right. -/
theorem ref_good : ∀ (l h : List Sn), (∀ k y, At l k y → atB (h ++ l.take k) y = []) → refGo h l = (-1, [])
  | [], _, _ => rfl
  | x :: l, h, hg => by
    unfold refGo
    have h0 : atB h x = [] := by have := hg 0 x rfl; simpa using this
    rw [if_pos h0]
    refine ref_good l (h ++ [x]) fun k y hy => ?_
    have := hg (k + 1) y hy
    rwa [List.take_succ_cons, ← List.singleton_append, ← List.append_assoc] at this
theorem Iv.check (V : Iv i h iss opn w) : check h = (-1, []) := by
  rw [check_same]
  exact ref_good h [] fun k y hy => by rw [List.nil_append]; exact V.good k y hy
end
end Go.Proofs.Ytahpokcigdjilaa
