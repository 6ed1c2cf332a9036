/- Chapter 22: what noting does to the checker's tables, in plain Lean. -/
import Derived.Test.YtahpokcigdjilaaDefs22
namespace Go.Proofs.Ytahpokcigdjilaa
open Go Go.Sp

section
variable {S : CS} {p : PS} {n : Nat}
/-- A table with a value under a key. -/
def Sets {κ ν : Type} [DecidableEq κ] (T' T : List (κ × ν)) (x : κ) (v : ν) : Prop := ∀ y, mget T' y = if y = x then some v else mget T y
theorem Sets.set {κ ν : Type} [DecidableEq κ] (T : List (κ × ν)) (x : κ) (v : ν) : Sets (mset T x v) T x v := fun y => mget_mset T x y v
theorem Sets.twice {κ ν : Type} [DecidableEq κ] (T : List (κ × ν)) (x : κ) (v w : ν) : Sets (mset (mset T x v) x w) T x w := fun y => by
  rw [mget_mset, mget_mset]; split <;> rfl
theorem Sets.getD {κ ν : Type} [DecidableEq κ] {T' T : List (κ × ν)} {x : κ} {v d : ν} (h : Sets T' T x v) (y : κ) : (mget T' y).getD d = if y = x then v else (mget T y).getD d := by
  rw [h y]; split <;> rfl

theorem Rel.up (h : Rel S p n) : Rel S p (n + 1) :=
  { h with
    sentN := fun x => ⟨(h.sentN x).1, by have := (h.sentN x).2; omega⟩
    offsetsN := fun x => by have := h.offsetsN x; omega
    sendsN := fun x => by have := h.sendsN x; omega
    deletesN := fun x => by have := h.deletesN x; omega
    gensN := fun x => by have := h.gensN x; omega
    commitsN := fun x => by have := h.commitsN x; omega }
theorem Rel.setCall (h : Rel S p n) {T0 T1} {x : Int × Int} {i : Int} {a : Asked} (h0 : Sets T0 S.calls x i) (h1 : Sets T1 S.kinds x a) :
    Rel { S with calls := T0, kinds := T1 } { p with calls := put p.calls x (some i), kinds := put p.kinds x a } n :=
  { h with
    calls := fun y => by show mget T0 y = if y = x then some i else p.calls y; rw [h0 y, h.calls]
    kinds := fun y => by show (mget T1 y).getD ask0 = if y = x then a else p.kinds y; rw [h1.getD y, h.kinds]
    asked := fun y b hb => by
      show (if y = x then some i else p.calls y) ≠ none
      split
      · simp
      · exact h.asked y b hb }
theorem Rel.setSent (h : Rel S p n) {T} {x : Int × Tx} (hT : Sets T S.sent x (p.sent x + 1)) : Rel { S with sent := T } { p with sent := put p.sent x (p.sent x + 1) } (n + 1) :=
  { h.up with
    sent := fun y => by show (mget T y).getD 0 = if y = x then p.sent x + 1 else p.sent y; rw [hT.getD y, h.sent]
    sentN := fun y => by
      show 0 ≤ (if y = x then p.sent x + 1 else p.sent y) ∧ (if y = x then p.sent x + 1 else p.sent y) ≤ ((n + 1 : Nat) : Int)
      have h1 := h.sentN x; have h2 := h.sentN y
      split <;> omega }
theorem Rel.setDone (h : Rel S p n) {T} {x : Int × Int} (hT : Sets T S.done x true) : Rel { S with done := T } { p with done := put p.done x true } n :=
  { h with done := fun y => by show (mget T y).getD false = if y = x then true else p.done y; rw [hT.getD y, h.done] }
theorem Rel.setValue (h : Rel S p n) {T} {x : Int × Int} {t : Tx} (hT : Sets T S.values x t) : Rel { S with values := T } { p with values := put p.values x (some t) } n :=
  { h with values := fun y => by show mget T y = if y = x then some t else p.values y; rw [hT y, h.values] }
theorem Rel.setAcked (h : Rel S p n) {T} {x : Int × Int} (hT : Sets T S.acked x true) : Rel { S with acked := T } { p with acked := put p.acked x true } n :=
  { h with acked := fun y => by show (mget T y).getD false = if y = x then true else p.acked y; rw [hT.getD y, h.acked] }
theorem Rel.setOffset (h : Rel S p n) {T} {x : Int × Tx} {a c} {z : Int} (hT : Sets T S.offsets x (a, c, p.offsets x ++ [z])) : Rel { S with offsets := T } { p with offsets := put p.offsets x (p.offsets x ++ [z]) } (n + 1) :=
  { h.up with
    offsets := fun y => by
      show ((mget T y).getD row0).2.2 = if y = x then p.offsets x ++ [z] else p.offsets y
      rw [hT.getD y]; split
      · rfl
      · exact h.offsets y
    offsetsN := fun y => by
      show (if y = x then p.offsets x ++ [z] else p.offsets y).length ≤ n + 1
      have h1 := h.offsetsN x; have h2 := h.offsetsN y
      split
      · simp; omega
      · omega }
theorem Rel.setSend {m : Nat} (h : Rel S p n) (hm : ∀ x, (p.sends x).length ≤ m) {T} {x : Int × Int × Int} {a c} {z : Sn} (hT : Sets T S.sends x (a, c, p.sends x ++ [z])) (hmn : m + 1 ≤ n) : Rel { S with sends := T } { p with sends := put p.sends x (p.sends x ++ [z]) } n :=
  { h with
    sends := fun y => by
      show ((mget T y).getD row0).2.2 = if y = x then p.sends x ++ [z] else p.sends y
      rw [hT.getD y]; split
      · rfl
      · exact h.sends y
    sendsN := fun y => by
      show (if y = x then p.sends x ++ [z] else p.sends y).length ≤ n
      have h1 := hm x; have h2 := h.sendsN y
      split
      · simp; omega
      · omega }
theorem Rel.setDelete (h : Rel S p n) {T} {x : Int} {a c} {z : Mark} (hT : Sets T S.deletes x (a, c, p.deletes x ++ [z])) : Rel { S with deletes := T } { p with deletes := put p.deletes x (p.deletes x ++ [z]) } (n + 1) :=
  { h.up with
    deletes := fun y => by
      show ((mget T y).getD row0).2.2 = if y = x then p.deletes x ++ [z] else p.deletes y
      rw [hT.getD y]; split
      · rfl
      · exact h.deletes y
    deletesN := fun y => by
      show (if y = x then p.deletes x ++ [z] else p.deletes y).length ≤ n + 1
      have h1 := h.deletesN x; have h2 := h.deletesN y
      split
      · simp; omega
      · omega }
theorem Rel.setGen (h : Rel S p n) {T} {x : Tx} {a c} {z : Mark} (hT : Sets T S.gens x (a, c, p.gens x ++ [z])) : Rel { S with gens := T } { p with gens := put p.gens x (p.gens x ++ [z]) } (n + 1) :=
  { h.up with
    gens := fun y => by
      show ((mget T y).getD row0).2.2 = if y = x then p.gens x ++ [z] else p.gens y
      rw [hT.getD y]; split
      · rfl
      · exact h.gens y
    gensN := fun y => by
      show (if y = x then p.gens x ++ [z] else p.gens y).length ≤ n + 1
      have h1 := h.gensN x; have h2 := h.gensN y
      split
      · simp; omega
      · omega }
/-- A commit's call. -/
theorem Rel.setCommit (h : Rel S p n) {T0 T1 TC TO TS} {g : Sg} {nb : Nat} {t : Tx × Int} {a c i k} {l : List Nat} (hc : p.calls g.id = none) (hnb : mget S.spans nb = none) (hl : ((mget S.commits t).getD row0).2.2 = l)
    (h0 : Sets T0 S.calls g.id i) (h1 : Sets T1 S.kinds g.id k) (hC : Sets TC S.commits t (a, c, l ++ [nb])) (hO : Sets TO S.opened g.id nb) (hS : Sets TS S.spans nb g) (hN : (TS.map (·.1)).Nodup) :
    Rel { S with calls := T0, kinds := T1, commits := TC, opened := TO, spans := TS } { p with calls := put p.calls g.id (some i), kinds := put p.kinds g.id k, commits := put p.commits t (p.commits t ++ [g]) } (n + 1) := by
  have hne : ∀ b g', mget S.spans b = some g' → b ≠ nb := fun b g' hb e => by rw [e, hnb] at hb; cases hb
  have hcont : ∀ b, b ≠ nb → cont { S with calls := T0, kinds := T1, commits := TC, opened := TO, spans := TS } b = cont S b := fun b hb => by
    show (mget TS b).getD sg0 = (mget S.spans b).getD sg0; rw [hS b, if_neg hb]
  have hcn : cont { S with calls := T0, kinds := T1, commits := TC, opened := TO, spans := TS } nb = g := by
    show (mget TS nb).getD sg0 = g; rw [hS nb, if_pos rfl]; rfl
  have hmap : ∀ x, ((mget S.commits x).getD row0).2.2.map (cont { S with calls := T0, kinds := T1, commits := TC, opened := TO, spans := TS }) = p.commits x := fun x => by
    rw [← h.commits x]
    refine List.map_congr_left fun b hb => hcont b ?_
    obtain ⟨g', hg'⟩ := h.known x b hb
    exact hne b g' hg'
  exact { h.up with
    calls := fun y => by show mget T0 y = if y = g.id then some i else p.calls y; rw [h0 y, h.calls]
    kinds := fun y => by show (mget T1 y).getD ask0 = if y = g.id then k else p.kinds y; rw [h1.getD y, h.kinds]
    commits := fun y => by
      show ((mget TC y).getD row0).2.2.map _ = if y = t then p.commits t ++ [g] else p.commits y
      rw [hC.getD y]; split
      · show (l ++ [nb]).map _ = _
        rw [List.map_append, ← hl, hmap t]; simp only [List.map_cons, List.map_nil, hcn]
      · exact hmap y
    known := fun y b hb => by
      have hb' : b ∈ ((mget TC y).getD row0).2.2 := hb
      show ∃ g', mget TS b = some g'
      by_cases hbn : b = nb
      · exact ⟨g, by rw [hS b, if_pos hbn]⟩
      · rw [hC.getD y] at hb'
        have hold : ∃ g', mget S.spans b = some g' := by
          split at hb'
          · have : b ∈ l ++ [nb] := hb'
            rcases List.mem_append.1 this with h2 | h2
            · rw [← hl] at h2; exact h.known t b h2
            · simp at h2; exact absurd h2 hbn
          · exact h.known y b hb'
        obtain ⟨g', hg'⟩ := hold
        exact ⟨g', by rw [hS b, if_neg hbn, hg']⟩
    opened := fun y b hb => by
      have hb' : mget TO y = some b := hb
      show ∃ g', mget TS b = some g' ∧ g'.id = y
      rw [hO y] at hb'
      split at hb'
      · rename_i e; cases hb'; exact ⟨g, by rw [hS nb, if_pos rfl], e.symm⟩
      · obtain ⟨g', hg', hid⟩ := h.opened y b hb'
        exact ⟨g', by rw [hS b, if_neg (hne b g' hg'), hg'], hid⟩
    back := fun b g' hb => by
      have hb' : mget TS b = some g' := hb
      show mget TO g'.id = some b
      rw [hS b] at hb'
      split at hb'
      · rename_i e; cases hb'; rw [hO g.id, if_pos rfl, e]
      · have h2 := h.back b g' hb'
        have hid : g'.id ≠ g.id := fun e => h.asked g'.id b h2 (by rw [e]; exact hc)
        rw [hO g'.id, if_neg hid, h2]
    asked := fun y b hb => by
      have hb' : mget TO y = some b := hb
      show (if y = g.id then some i else p.calls y) ≠ none
      split
      · simp
      · rename_i hy; rw [hO y, if_neg hy] at hb'; exact h.asked y b hb'
    nodup := hN
    commitsN := fun y => by
      show (if y = t then p.commits t ++ [g] else p.commits y).length ≤ n + 1
      have h1 := h.commitsN t; have h2 := h.commitsN y
      split
      · simp; omega
      · omega }
/-- A return: no commit is of its call. -/
theorem Rel.noEnd (h : Rel S p n) {x : Int × Int} {i e : Int} (hx : mget S.opened x = none) : Rel S { p with commits := fun t => (p.commits t).map (endG x i e) } n :=
  { h with
    commits := fun y => by
      show _ = (p.commits y).map (endG x i e)
      rw [← h.commits y, List.map_map]
      refine List.map_congr_left fun b hb => ?_
      obtain ⟨g, hg⟩ := h.known y b hb
      have h2 := h.back b g hg
      have hid : g.id ≠ x := fun e => by rw [e, hx] at h2; cases h2
      show cont S b = endG x i e (cont S b)
      unfold cont; rw [hg]; show g = endG x i e g; unfold endG; rw [if_neg hid]
    commitsN := fun y => by show ((p.commits y).map _).length ≤ n; rw [List.length_map]; exact h.commitsN y }
/-- A return: one is. -/
theorem Rel.atEnd (h : Rel S p n) {x : Int × Int} {i e : Int} {sb : Nat} {g : Sg} {TS} (hx : mget S.opened x = some sb) (hg : mget S.spans sb = some g) (hS : Sets TS S.spans sb { g with to := i, err := e }) (hN : (TS.map (·.1)).Nodup) :
    Rel { S with spans := TS } { p with commits := fun t => (p.commits t).map (endG x i e) } n := by
  have hgid : g.id = x := by
    obtain ⟨g', hg', hid⟩ := h.opened x sb hx
    rw [hg] at hg'; cases hg'; exact hid
  have hcont : ∀ b g', mget S.spans b = some g' → cont { S with spans := TS } b = endG x i e (cont S b) := fun b g' hb => by
    show (mget TS b).getD sg0 = endG x i e ((mget S.spans b).getD sg0)
    rw [hS b]
    by_cases hbs : b = sb
    · rw [if_pos hbs, hbs, hg]; show _ = endG x i e g; unfold endG; rw [if_pos hgid]; rfl
    · rw [if_neg hbs, hb]
      have h2 := h.back b g' hb
      have hid : g'.id ≠ x := fun e => by rw [e, hx] at h2; cases h2; exact hbs rfl
      show g' = endG x i e g'; unfold endG; rw [if_neg hid]
  exact { h with
    commits := fun y => by
      show ((mget S.commits y).getD row0).2.2.map _ = (p.commits y).map (endG x i e)
      rw [← h.commits y, List.map_map]
      refine List.map_congr_left fun b hb => ?_
      obtain ⟨g', hg'⟩ := h.known y b hb
      exact hcont b g' hg'
    known := fun y b hb => by
      obtain ⟨g', hg'⟩ := h.known y b hb
      show ∃ g', mget TS b = some g'
      rw [hS b]; split
      · exact ⟨_, rfl⟩
      · exact ⟨g', hg'⟩
    opened := fun y b hb => by
      obtain ⟨g', hg', hid⟩ := h.opened y b hb
      show ∃ g', mget TS b = some g' ∧ g'.id = y
      rw [hS b]; split
      · rename_i e'; subst e'; rw [hg] at hg'; cases hg'; exact ⟨_, rfl, hid⟩
      · exact ⟨g', hg', hid⟩
    back := fun b g' hb => by
      have hb' : mget TS b = some g' := hb
      show mget S.opened g'.id = some b
      rw [hS b] at hb'
      split at hb'
      · rename_i e'; cases hb'; subst e'; exact h.back b g hg
      · exact h.back b g' hb'
    nodup := hN
    commitsN := fun y => by show ((p.commits y).map _).length ≤ n; rw [List.length_map]; exact h.commitsN y }
theorem Rel.start : Rel ⟨[], [], [], [], [], [], [], [], [], [], [], [], []⟩ .start 0 where
  calls _ := rfl
  kinds _ := rfl
  done _ := rfl
  values _ := rfl
  acked _ := rfl
  sent _ := rfl
  offsets _ := rfl
  sends _ := rfl
  deletes _ := rfl
  gens _ := rfl
  commits _ := rfl
  known _ _ h := by cases h
  opened _ _ h := by cases h
  back _ _ h := by cases h
  asked _ _ h := by cases h
  nodup := List.nodup_nil
  sentN _ := ⟨Int.le_refl _, Int.le_refl _⟩
  offsetsN _ := Nat.zero_le _
  sendsN _ := Nat.zero_le _
  deletesN _ := Nat.zero_le _
  gensN _ := Nat.zero_le _
  commitsN _ := Nat.zero_le _
end

/-! ### Rows out of bags, and back -/

section
variable {κ ν : Type} [DecidableEq κ]
theorem mdel_none {T : List (κ × ν)} {q : κ} (h : mget T q = none) : mdel T q = T := by
  have := mget_none.1 h
  unfold mdel
  rw [List.filter_eq_self]
  intro p hp
  have h2 : ¬ (T.any (fun p => decide (q = p.1)) = true) := by rw [this]; decide
  rw [List.any_eq_true] at h2
  simp only [Bool.not_eq_true', decide_eq_false_iff_not]
  intro e; exact h2 ⟨p, hp, by simp [e]⟩
theorem mset_mset (T : List (κ × ν)) (q : κ) (v w : ν) : mset (mset T q v) q w = mset T q w := by
  unfold mset
  by_cases h : T.any (fun p => decide (q = p.1)) = true
  · rw [if_pos h, if_pos h]
    have h2 : (T.map fun p => if q = p.1 then (p.1, v) else p).any (fun p => decide (q = p.1)) = true := by
      rw [List.any_eq_true] at h ⊢
      obtain ⟨p, hp, he⟩ := h
      refine ⟨(p.1, v), List.mem_map.2 ⟨p, hp, ?_⟩, he⟩
      rw [if_pos (by simpa using he)]
    rw [if_pos h2, List.map_map]
    refine List.map_congr_left fun p _ => ?_
    show (if q = (if q = p.1 then (p.1, v) else p).1 then ((if q = p.1 then (p.1, v) else p).1, w) else (if q = p.1 then (p.1, v) else p)) = if q = p.1 then (p.1, w) else p
    by_cases hq : q = p.1
    · simp [hq]
    · simp [hq]
  · rw [if_neg h, if_neg h]
    have h2 : (T ++ [(q, v)]).any (fun p => decide (q = p.1)) = true := by rw [List.any_append]; simp
    rw [if_pos h2, List.map_append]
    have h3 : T.map (fun p => if q = p.1 then (p.1, w) else p) = T := by
      rw [List.map_congr_left (g := id)]
      · simp
      · intro p hp
        have : q ≠ p.1 := fun e => h (List.any_eq_true.2 ⟨p, hp, by simp [e]⟩)
        simp [this]
    rw [h3]; simp
theorem split_at {T : List (κ × ν)} {q : κ} {v : ν} (hn : (T.map (·.1)).Nodup) (h : mget T q = some v) : ∃ A B, T = A ++ (q, v) :: B ∧ (∀ p ∈ A, q ≠ p.1) ∧ (∀ p ∈ B, q ≠ p.1) := by
  obtain ⟨A, B, rfl⟩ := List.append_of_mem (mget_mem h)
  refine ⟨A, B, rfl, fun p hp e => ?_, fun p hp e => ?_⟩
  · rw [List.map_append, List.map_cons, List.nodup_append] at hn
    exact hn.2.2 p.1 (List.mem_map_of_mem hp) q (by simp) e.symm
  · rw [List.map_append, List.map_cons, List.nodup_append, List.nodup_cons] at hn
    exact hn.2.1.1 (by show q ∈ _; rw [e]; exact List.mem_map.2 ⟨p, hp, rfl⟩)
theorem perm_take {T : List (κ × ν)} {q : κ} {v : ν} (hn : (T.map (·.1)).Nodup) (h : mget T q = some v) : T.Perm ((q, v) :: mdel T q) := by
  obtain ⟨A, B, rfl, hA, hB⟩ := split_at hn h
  have h1 : mdel A q = A := by unfold mdel; rw [List.filter_eq_self]; intro p hp; simp [hA p hp]
  have h2 : mdel B q = B := by unfold mdel; rw [List.filter_eq_self]; intro p hp; simp [hB p hp]
  have : mdel (A ++ (q, v) :: B) q = A ++ B := by
    unfold mdel at h1 h2 ⊢; rw [List.filter_append, List.filter_cons, h1, h2]; simp
  rw [this]; exact List.perm_middle
theorem perm_put {T : List (κ × ν)} {q : κ} (hn : (T.map (·.1)).Nodup) (v : ν) : ((q, v) :: mdel T q).Perm (mset T q v) := by
  cases h : mget T q with
  | none =>
    rw [mdel_none h]
    have := mget_none.1 h
    unfold mset; rw [if_neg (by rw [this]; decide)]
    exact (List.perm_append_comm (l₁ := [(q, v)]) (l₂ := T))
  | some w =>
    obtain ⟨A, B, rfl, hA, hB⟩ := split_at hn h
    have h1 : mdel A q = A := by unfold mdel; rw [List.filter_eq_self]; intro p hp; simp [hA p hp]
    have h2 : mdel B q = B := by unfold mdel; rw [List.filter_eq_self]; intro p hp; simp [hB p hp]
    have h3 : mdel (A ++ (q, w) :: B) q = A ++ B := by
      unfold mdel at h1 h2 ⊢; rw [List.filter_append, List.filter_cons, h1, h2]; simp
    have m1 : A.map (fun p => if q = p.1 then (p.1, v) else p) = A := by
      rw [List.map_congr_left (g := id) fun p hp => by simp [hA p hp]]; simp
    have m2 : B.map (fun p => if q = p.1 then (p.1, v) else p) = B := by
      rw [List.map_congr_left (g := id) fun p hp => by simp [hB p hp]]; simp
    rw [h3]; unfold mset
    rw [if_pos (by simp), List.map_append, List.map_cons, m1, m2]
    simpa using List.perm_middle.symm
end

theorem row_take {κ α : Type} [DecidableEq κ] {e s : Nat} {f : α → List Value} {T : List (κ × Row α)} (q : κ) (hn : (T.map (·.1)).Nodup) (h : Hp) (H : bag (rowsOf e s f) T h) :
    sat [arr e s ((mget T q).getD row0).1 ((mget T q).getD row0).2.1 (((mget T q).getD row0).2.2.flatMap f), bag (rowsOf e s f) (mdel T q)] h := by
  cases hq : mget T q with
  | none =>
    rw [mdel_none hq]
    exact ⟨fun _ => none, h, fun _ => .inl rfl, fun _ _ e => by simp at e, .refl _, .inl ⟨rfl, rfl⟩, sat.one (Γ := T.map (rowsOf e s f)) H⟩
  | some r => exact bag.take (perm_take hn hq) H
theorem row_put {κ α : Type} [DecidableEq κ] {e s : Nat} {f : α → List Value} {T : List (κ × Row α)} {q : κ} {a : Option Addr} {c : Nat} {l : List α} (hn : (T.map (·.1)).Nodup) (h : Hp) (H : sat [arr e s a c (l.flatMap f), bag (rowsOf e s f) (mdel T q)] h) : bag (rowsOf e s f) (mset T q (a, c, l)) h :=
  bag.put (x := (q, (a, c, l))) (perm_put hn _) H
theorem row_back {κ α : Type} [DecidableEq κ] {e s : Nat} {f : α → List Value} {T : List (κ × Row α)} {q : κ} (hn : (T.map (·.1)).Nodup) (h : Hp) (H : sat [arr e s ((mget T q).getD row0).1 ((mget T q).getD row0).2.1 (((mget T q).getD row0).2.2.flatMap f), bag (rowsOf e s f) (mdel T q)] h) : bag (rowsOf e s f) T h := by
  cases hq : mget T q with
  | none =>
    rw [mdel_none hq] at H
    obtain ⟨h1, h2, _, _, l2, _, k1, k2, _, m1, _, x, _⟩ := H
    exact sat.mono (m1.trans l2) x
  | some r =>
    rw [hq] at H
    exact bag.put (x := (q, r)) (perm_take hn hq).symm H
theorem span_take {T : List (Nat × Sg)} {b : Nat} {g : Sg} (hn : (T.map (·.1)).Nodup) (hb : mget T b = some g) (h : Hp) (H : bag spanOf T h) : sat [blk b g.cells 82, bag spanOf (mdel T b)] h := bag.take (perm_take hn hb) H
theorem span_put {T : List (Nat × Sg)} {b : Nat} {g : Sg} (hn : (T.map (·.1)).Nodup) (h : Hp) (H : sat [blk b g.cells 82, bag spanOf (mdel T b)] h) : bag spanOf (mset T b g) h := bag.put (x := (b, g)) (perm_put hn _) H
theorem mp_nodup {κ ν : Type} [DecidableEq κ] {enc : κ → Value} {venc : ν → Value} {b : Nat} {l : List (κ × ν)} {Γ Γ' : List SProp} (p : Pick (mp enc venc b l) Γ Γ') : Knows Γ fun _ => (l.map (·.1)).Nodup := fun A w s => by
  obtain ⟨_, _, _, _, e2, _⟩ := (s.map fun _ => p.sat).mp_own
  exact e2
/-- A block that is one's own is no span's. -/
theorem span_new {T : List (Nat × Sg)} {b : Nat} {cs : List Value} {e : Nat} {Γ Γ' : List SProp} {Δ : List SProp} (p : Pick (blk b cs e) Γ Γ') (q : Pick (bag spanOf T) Γ' Δ) : Knows Γ fun _ => mget T b = none := fun A w s => by
  cases hb : mget T b with
  | none => rfl
  | some g =>
    exfalso
    have h1 := (s.map fun _ => p.sat)
    have h2 : Sat A w (blk b cs e :: bag spanOf T :: Δ) := h1.map fun _ => sat.cons fun _ => q.sat
    obtain ⟨m, hm⟩ : ∃ m, T.Perm ((b, g) :: m) := by
      obtain ⟨a, c, rfl⟩ := List.append_of_mem (mget_mem hb)
      exact ⟨a ++ c, List.perm_middle⟩
    have h3 : Sat A w (blk b cs e :: blk b g.cells 82 :: bag spanOf m :: Δ) := h2.map fun _ => sat.cons fun h hs => by
      obtain ⟨k1, k2, ok, l1, l2, x, y⟩ := hs
      have := sat.join ok l1 l2 (bag.take hm x) y
      exact this
    obtain ⟨_, h, hf, k1, k2, ok, l1, l2, ⟨_, _, _, x1⟩, k3, k4, ok2, l3, l4, ⟨_, _, _, x2⟩, _⟩ := h3
    have a2 := l3 b _ x2
    rcases ok b with h | h | ⟨_, o, h⟩
    · rw [x1] at h; cases h
    · rw [a2] at h; cases h
    · rw [x1] at h; cases h
/-! ### What is noted, case by case -/
section
variable {p : PS} {i : Int} {s : Sn}
theorem note_send (hd : s.done = false) (hk : s.kind = 10) : noteP p i s = { p with calls := put p.calls s.id (some i), kinds := put p.kinds s.id s.ask, sent := put p.sent (s.part, s.text) (p.sent (s.part, s.text) + 1) } := by
  unfold noteP noteC; rw [if_pos hd, if_pos hk, if_neg (by omega)]
theorem note_commit (hd : s.done = false) (hk : s.kind = 4) : noteP p i s = { p with calls := put p.calls s.id (some i), kinds := put p.kinds s.id s.ask, commits := put p.commits (s.name, s.part) (p.commits (s.name, s.part) ++ [⟨s.id, s.offset, i, -1, 0⟩]) } := by
  unfold noteP noteC; rw [if_pos hd, if_neg (by omega), if_pos hk]
theorem note_call (hd : s.done = false) (hk : s.kind ≠ 10) (hk4 : s.kind ≠ 4) : noteP p i s = { p with calls := put p.calls s.id (some i), kinds := put p.kinds s.id s.ask } := by
  unfold noteP noteC; rw [if_pos hd, if_neg hk, if_neg hk4]
theorem note_err (hd : s.done = true) (he : s.err ≠ 0) : noteP p i s = noteR p i s := by
  unfold noteP; rw [if_neg (by rw [hd]; decide), if_pos he]
def noteO (p : PS) (s : Sn) : PS :=
  { p with
    values := put p.values (s.part, s.offset) (some s.text)
    offsets := if s.offset ∈ p.offsets (s.part, s.text) then p.offsets else put p.offsets (s.part, s.text) (p.offsets (s.part, s.text) ++ [s.offset]) }
theorem note_read (hd : s.done = true) (he : s.err = 0) (hk : s.kind = 10 ∨ s.kind = 1) (h10 : s.kind ≠ 10) : noteP p i s = noteO (noteR p i s) s := by
  unfold noteP noteV; rw [if_neg (by rw [hd]; decide), if_neg (by omega), if_pos hk, if_neg h10, if_neg h10]; rfl
theorem note_sent (hd : s.done = true) (he : s.err = 0) (h10 : s.kind = 10) : noteP p i s = { noteO (noteR p i s) s with acked := put (noteO (noteR p i s) s).acked (s.part, s.offset) true, sends := put (noteO (noteR p i s) s).sends (s.part, s.pid, s.pidEpoch) ((noteO (noteR p i s) s).sends (s.part, s.pid, s.pidEpoch) ++ [s]) } := by
  unfold noteP noteV; rw [if_neg (by rw [hd]; decide), if_neg (by omega), if_pos (.inl h10), if_pos h10, if_pos h10]; rfl
theorem note_delete (hd : s.done = true) (he : s.err = 0) (hk : ¬ (s.kind = 10 ∨ s.kind = 1)) (h6 : s.kind = 6) : noteP p i s = { noteR p i s with deletes := put (noteR p i s).deletes s.part ((noteR p i s).deletes s.part ++ [⟨i, s.offset⟩]) } := by
  unfold noteP; rw [if_neg (by rw [hd]; decide), if_neg (by omega), if_neg hk, if_pos h6]; rfl
theorem note_gen (hd : s.done = true) (he : s.err = 0) (hk : ¬ (s.kind = 10 ∨ s.kind = 1)) (h6 : s.kind ≠ 6) (h2 : s.kind = 2 ∨ s.kind = 3) : noteP p i s = { noteR p i s with gens := put (noteR p i s).gens s.name ((noteR p i s).gens s.name ++ [⟨i, s.seq⟩]) } := by
  unfold noteP; rw [if_neg (by rw [hd]; decide), if_neg (by omega), if_neg hk, if_neg h6, if_pos h2]; rfl
theorem note_other (hd : s.done = true) (he : s.err = 0) (hk : ¬ (s.kind = 10 ∨ s.kind = 1)) (h6 : s.kind ≠ 6) (h2 : ¬ (s.kind = 2 ∨ s.kind = 3)) : noteP p i s = noteR p i s := by
  unfold noteP; rw [if_neg (by rw [hd]; decide), if_neg (by omega), if_neg hk, if_neg h6, if_neg h2]
end
end Go.Proofs.Ytahpokcigdjilaa
