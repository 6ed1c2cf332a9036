/- Chapter 20: the network and the reference side by side, in plain Lean. -/
import Derived.Test.YtfbmbhajpmlffaaNet13
import Derived.Test.YtfbmbhajpmlffaaNet16
namespace Go.Proofs.Ytfbmbhajpmlffaa
open Go Go.Sp
set_option linter.unusedVariables false

structure PL (ps : List Pm) (pt : Pt) (qs : List Pm) (ap : List (Int × Int)) (k : Nat) : Prop where
  cnt : Cnt ps
  eq : ps.map (·.1) = qs.map (·.1)
  par : ∀ q : Int × Int, (mget pt q).getD false = decide (q ∈ ap)
  un : ∀ p ∈ ps, endsS p.1.hd.frm p.1.hd.to ∉ ap
  apl : ap.length ≤ k

theorem PL.len {ps pt qs ap k} (h : PL ps pt qs ap k) : qs.length = ps.length := by have := congrArg List.length h.eq; simpa using this.symm
theorem PL.parted {ps pt qs ap k} (h : PL ps pt qs ap k) (a b : Int) : partedS pt a b = decide (endsS a b ∈ ap) := h.par _
theorem PL.start : PL [] [] [] [] 0 := ⟨⟨Nat.zero_le _, fun _ h => by cases h⟩, rfl, fun _ => rfl, fun _ h => (by cases h), Nat.le_refl _⟩
theorem PL.step {ps pt qs ap k} (h : PL ps pt qs ap k) : PL ps pt qs ap (k + 1) := ⟨h.cnt, h.eq, h.par, h.un, Nat.le_succ_of_le h.apl⟩

theorem PL.sent {ps pt qs ap k} (h : PL ps pt qs ap k) (m : Msg) : sentS ps pt m = rsent qs ap m := by
  unfold sentS rsent; rw [h.parted, h.len]

def SentR (ps : List Pm) (pt : Pt) (m : Msg) (ps' : List Pm) : Prop := (sentS ps pt m = true ∧ ∃ s', ps' = ps ++ [(m, s')]) ∨ (sentS ps pt m = false ∧ ps' = ps)
theorem Send_pl {n ps pt} {m : Msg} {s : Ms} (hok : m.ok) : Cn Try.prog 10 [.pointer (some ⟨n, 0, none⟩), .agg (mval m s).toArray] (mat m s) [net n ps pt] fun v G => ∃ ps', SentR ps pt m ps' ∧ v = .bool (sentS ps pt m) ∧ G = [net n ps' pt] :=
  (Send_ok n ps pt m s hok).mono fun v G hq => by
    rcases hq with ⟨s', h1, hv, hG⟩ | ⟨h1, hv, hG⟩
    · exact ⟨_, .inl ⟨h1, s', rfl⟩, by rw [h1]; exact hv, hG⟩
    · exact ⟨_, .inr ⟨h1, rfl⟩, by rw [h1]; exact hv, hG⟩
theorem rSend_pl {n qs ap} {m : Msg} {s : Ms} (hb : ap.length ≤ 100000) : Cn Try.prog 16 [.pointer (some ⟨n, 0, none⟩), .agg (mval m s).toArray] (fun _ => True) [rnet n qs ap, know (mat m s)] fun v G => v = .bool (rsent qs ap m) ∧ G = [rnet n (if rsent qs ap m = true then qs ++ [(m, s)] else qs) ap] :=
  (rSend_ok n qs ap m s hb).mono fun v G hq => by
    rcases hq with ⟨h1, hv, hG⟩ | ⟨h1, hv, hG⟩
    · rw [h1]; exact ⟨hv, hG⟩
    · rw [h1]; exact ⟨hv, hG⟩

theorem PL.send {ps pt qs ap k ps'} (h : PL ps pt qs ap k) {m : Msg} {s : Ms} (hok : m.ok) (hs : SentR ps pt m ps') : PL ps' pt (if rsent qs ap m = true then qs ++ [(m, s)] else qs) ap k := by
  rw [← h.sent m]
  rcases hs with ⟨h1, s', rfl⟩ | ⟨h1, rfl⟩
  · rw [if_pos h1]
    have h2 : partedS pt m.hd.frm m.hd.to = false ∧ ps.length < 500 := by simpa [sentS] using h1
    refine ⟨h.cnt.snoc h2.2 hok, by simp [h.eq], h.par, ?_, h.apl⟩
    intro p hp
    rcases List.mem_append.1 hp with hp | hp
    · exact h.un p hp
    · obtain rfl := List.mem_singleton.1 hp
      have := h.parted m.hd.frm m.hd.to
      rw [h2.1] at this
      exact of_decide_eq_false this.symm
  · rw [if_neg (by simp [h1])]; exact h

theorem map_at {ps qs : List Pm} (h : ps.map (·.1) = qs.map (·.1)) {j : Nat} {p q : Pm} (hp : ps[j]? = some p) (hq : qs[j]? = some q) : p.1 = q.1 := by
  have := congrArg (fun l => l[j]?) h
  simpa [hp, hq] using this

theorem PL.take {ps pt qs ap k ps' qs' p q ok ok'} {i : Int} (h : PL ps pt qs ap k) (h1 : TakeR ps i ps' p ok) (h2 : TakeR qs i qs' q ok') : ok = ok' ∧ p.1 = q.1 ∧ p.1.ok ∧ PL ps' pt qs' ap k := by
  have hlen := h.len
  rcases h1 with ⟨rfl, j, hj, hp, rfl⟩ | ⟨rfl, hi, rfl, rfl⟩
  · have hjl := (List.getElem?_eq_some_iff.1 hp).1
    rcases h2 with ⟨rfl, j', hj', hq, rfl⟩ | ⟨rfl, hi, _, _⟩
    · obtain rfl : j = j' := by omega
      refine ⟨rfl, map_at h.eq hp hq, h.cnt.ok p (List.mem_of_getElem? hp), ⟨⟨?_, fun q hq => h.cnt.ok q (List.mem_of_mem_eraseIdx hq)⟩, ?_, h.par, fun q hq => h.un q (List.mem_of_mem_eraseIdx hq), h.apl⟩⟩
      · rw [List.length_eraseIdx_of_lt hjl]; have := h.cnt.len; omega
      · rw [map_eraseIdx', map_eraseIdx', h.eq]
    · exfalso; omega
  · rcases h2 with ⟨rfl, j', hj', hq, rfl⟩ | ⟨rfl, _, rfl, rfl⟩
    · have := (List.getElem?_eq_some_iff.1 hq).1; exfalso; omega
    · exact ⟨rfl, rfl, ok_toM 0 0 0, h⟩

theorem PL.twice {ps pt qs ap k ps' qs' ok ok'} {i : Int} (h : PL ps pt qs ap k) (h1 : TwiceR ps i ps' ok) (h2 : rTwice qs i qs' ok') : ok = ok' ∧ PL ps' pt qs' ap k := by
  have hlen := h.len
  rcases h1 with ⟨rfl, hl, j, p, s', hj, hp, rfl⟩ | ⟨rfl, hn, rfl⟩
  · have hjl := (List.getElem?_eq_some_iff.1 hp).1
    rcases h2 with ⟨rfl, hl', j', q, hj', hq, rfl⟩ | ⟨rfl, hn, _⟩
    · obtain rfl : j = j' := by omega
      have he := map_at h.eq hp hq
      have hpm := List.mem_of_getElem? hp
      refine ⟨rfl, ⟨h.cnt.snoc hl (h.cnt.ok p hpm), by simp [h.eq, he], h.par, ?_, h.apl⟩⟩
      intro x hx
      rcases List.mem_append.1 hx with hx | hx
      · exact h.un x hx
      · obtain rfl := List.mem_singleton.1 hx; exact h.un p hpm
    · exfalso; unfold twiceB at hn; omega
  · rcases h2 with ⟨rfl, hl', j', q, hj', hq, rfl⟩ | ⟨rfl, _, rfl⟩
    · have := (List.getElem?_eq_some_iff.1 hq).1
      exfalso; unfold twiceB at hn; omega
    · exact ⟨rfl, h⟩

theorem filter_maps {ps qs : List Pm} (h : ps.map (·.1) = qs.map (·.1)) (a b : Int) : (ps.filter fun q => !hit a b q).map (·.1) = (qs.filter fun q => !hit a b q).map (·.1) := by
  have e : ∀ l : List Pm, (l.filter fun q => !hit a b q).map (·.1) = (l.map (·.1)).filter fun m => !decide (endsS m.hd.frm m.hd.to = endsS a b) := fun l => by
    rw [List.filter_map]; rfl
  rw [e, e, h]

theorem PL.part {ps pt qs ap k} (h : PL ps pt qs ap k) {a b : Int} (hab : a ≠ b) :
    PL (ps.filter fun q => !hit a b q) (mset pt (endsS a b) true) (if endsS a b ∈ ap then qs else qs.filter fun q => !hit a b q) (if endsS a b ∈ ap then ap else ap ++ [endsS a b]) (k + 1) := by
  have hf : ∀ q ∈ ps.filter (fun q => !hit a b q), q ∈ ps ∧ ¬ endsS q.1.hd.frm q.1.hd.to = endsS a b := fun q hq => by
    obtain ⟨h1, h2⟩ := List.mem_filter.1 hq
    exact ⟨h1, by simpa [hit] using h2⟩
  refine ⟨⟨Nat.le_trans (List.length_filter_le _ _) h.cnt.len, fun p hp => h.cnt.ok p (hf p hp).1⟩, ?_, ?_, ?_, ?_⟩
  · by_cases hm : endsS a b ∈ ap
    · rw [if_pos hm, filter_maps h.eq]
      have : (qs.filter fun q => !hit a b q) = qs := List.filter_eq_self.2 fun q hq => by
        have hq' : q.1 ∈ ps.map (·.1) := by rw [h.eq]; exact List.mem_map_of_mem hq
        obtain ⟨p, hp, e⟩ := List.mem_map.1 hq'
        have := h.un p hp
        simp only [hit, Bool.not_eq_true', decide_eq_false_iff_not]
        intro he
        rw [← e] at he; rw [he] at this; exact this hm
      rw [this]
    · rw [if_neg hm, filter_maps h.eq]
  · intro q
    rw [mget_mset]
    by_cases hm : endsS a b ∈ ap
    · rw [if_pos hm]
      by_cases hq : q = endsS a b
      · rw [if_pos hq, hq]; simp [hm]
      · rw [if_neg hq]; exact h.par q
    · rw [if_neg hm]
      by_cases hq : q = endsS a b
      · rw [if_pos hq, hq]; simp
      · rw [if_neg hq, h.par q]; simp [hq]
  · intro p hp
    obtain ⟨h1, h2⟩ := hf p hp
    by_cases hm : endsS a b ∈ ap
    · rw [if_pos hm]; exact h.un p h1
    · rw [if_neg hm]
      intro h3
      rcases List.mem_append.1 h3 with h3 | h3
      · exact h.un p h1 h3
      · exact h2 (List.mem_singleton.1 h3)
  · by_cases hm : endsS a b ∈ ap
    · rw [if_pos hm]; exact Nat.le_succ_of_le h.apl
    · rw [if_neg hm]; simp; exact h.apl

theorem PL.join {ps pt qs ap k} (h : PL ps pt qs ap k) (a b : Int) : PL ps (mdel pt (endsS a b)) qs (ap.filter fun q => !decide (q = endsS a b)) k := by
  refine ⟨h.cnt, h.eq, fun q => ?_, fun p hp hm => h.un p hp (List.mem_filter.1 hm).1, Nat.le_trans (List.length_filter_le _ _) h.apl⟩
  rw [mget_mdel]
  by_cases hq : q = endsS a b
  · rw [if_pos hq]; simp [hq]
  · rw [if_neg hq, h.par q]; simp [hq]

def PartR (ps : List Pm) (pt : Pt) (a b : Int) (ps' : List Pm) (pt' : Pt) : Prop := (a = b ∧ ps' = ps ∧ pt' = pt) ∨ (a ≠ b ∧ ps' = (ps.filter fun q => !hit a b q) ∧ pt' = mset pt (endsS a b) true)
def rPartR (qs : List Pm) (ap : List (Int × Int)) (a b : Int) (qs' : List Pm) (ap' : List (Int × Int)) : Prop :=
  ((a = b ∨ endsS a b ∈ ap) ∧ qs' = qs ∧ ap' = ap) ∨ (¬ (a = b ∨ endsS a b ∈ ap) ∧ qs' = (qs.filter fun q => !hit a b q) ∧ ap' = ap ++ [endsS a b])
theorem Part_pl {n ps pt} {a b : Int} (hps : ps.length ≤ 100000) : Cn Try.prog 12 [.pointer (some ⟨n, 0, none⟩), .int .i64 a, .int .i64 b] (fun _ => True) [net n ps pt] fun v G => ∃ ps' pt', PartR ps pt a b ps' pt' ∧ v = .tuple #[] ∧ G = [net n ps' pt'] :=
  (Part_ok n ps pt a b hps).mono fun v G ⟨hv, hG⟩ => by
    by_cases h : a = b
    · rw [if_pos h] at hG; exact ⟨_, _, .inl ⟨h, rfl, rfl⟩, hv, hG⟩
    · rw [if_neg h] at hG; exact ⟨_, _, .inr ⟨h, rfl, rfl⟩, hv, hG⟩
theorem rPart_pl {n qs ap} {a b : Int} (hq : qs.length ≤ 500) (hb : ap.length ≤ 100000) : Cn Try.prog 21 [.pointer (some ⟨n, 0, none⟩), .int .i64 a, .int .i64 b] (fun _ => True) [rnet n qs ap] fun v G => ∃ qs' ap', rPartR qs ap a b qs' ap' ∧ v = .tuple #[] ∧ G = [rnet n qs' ap'] :=
  (rPart_ok n qs ap a b hq hb).mono fun v G ⟨hv, hG⟩ => by
    by_cases h : a = b ∨ endsS a b ∈ ap
    · rw [if_pos h] at hG; exact ⟨_, _, .inl ⟨h, rfl, rfl⟩, hv, hG⟩
    · rw [if_neg h] at hG; exact ⟨_, _, .inr ⟨h, rfl, rfl⟩, hv, hG⟩
theorem PL.parts {ps pt qs ap k ps' pt' qs' ap'} {a b : Int} (h : PL ps pt qs ap k) (h1 : PartR ps pt a b ps' pt') (h2 : rPartR qs ap a b qs' ap') : PL ps' pt' qs' ap' (k + 1) := by
  rcases h1 with ⟨rfl, rfl, rfl⟩ | ⟨hab, rfl, rfl⟩
  · rcases h2 with ⟨_, rfl, rfl⟩ | ⟨hn, _, _⟩
    · exact h.step
    · exact absurd (.inl rfl) hn
  · have := h.part hab
    rcases h2 with ⟨h3, rfl, rfl⟩ | ⟨hn, rfl, rfl⟩
    · have hm : endsS a b ∈ ap' := h3.resolve_left hab
      rwa [if_pos hm, if_pos hm] at this
    · have hm : ¬ endsS a b ∈ ap := fun h => hn (.inr h)
      rwa [if_neg hm, if_neg hm] at this

/-- Twice, Take and so on with the facts at hand. -/
theorem Scr_know {a : Option Addr} {l : List OpD} {x : OpD} (hx : x ∈ l) {h} (H : sat [know fun w => RowAt a (l.flatMap opc) w ∧ ∀ y ∈ l, mat y.m y.s w] h) : know (mat x.m x.s) h := sat.know_mono (fun w hw => hw.2 x hx) H
theorem mat_ints {m : Msg} {s : Ms} {ra : Option Addr} {rc : Nat} {h} (H : sat [know (RowAt ra ([] ++ m.ints.flatMap icell)), know (mat m s)] h) : know (mat m { s with ai := ra, ci := rc }) h := by
  obtain ⟨k, kl, kr, e⟩ := sat.know_and H
  exact ⟨k, kl, kr, fun w f => by
    obtain ⟨e1, e2⟩ := e w f
    exact ⟨e2.len, e2.b, e2.e, by simpa using e1, e2.r⟩⟩
theorem rnet_new {b h} (H : sat [blk b [.slice none 0 0, .slice none 0 0] 45] h) : rnet b [] [] h := by
  refine rnet_close none 0 none 0 h ?_
  obtain ⟨h1, h2, ok, l1, l2, a, t⟩ := H
  exact ⟨h1, h2, ok, l1, l2, a, sat.emb_cons (.inl ⟨rfl, rfl⟩) (sat.emb_cons (.inl ⟨rfl, rfl⟩) (sat.emb_cons (know_true (fun w q hq => by cases hq) _) trivial))⟩

end Go.Proofs.Ytfbmbhajpmlffaa
