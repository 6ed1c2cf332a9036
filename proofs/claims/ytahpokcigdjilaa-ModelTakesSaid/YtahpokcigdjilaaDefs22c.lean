/- Chapter 22: commits one behind the other, in plain Lean. -/
import Derived.Test.YtahpokcigdjilaaMod7
namespace Go.Proofs.Ytahpokcigdjilaa
open Go Go.Sp

theorem put_ne {κ ν : Type} [DecidableEq κ] {f : κ → ν} {k x : κ} {v : ν} (h : x ≠ k) : put f k v x = f x := if_neg h
/-- A beginning that is right. -/
def go : PS → Int → List Sn → Option PS
  | p, _, [] => some p
  | p, i, s :: l => if wrongP p s = [] then go (noteP p i s) (i + 1) l else none
theorem go_then : ∀ {a b : List Sn} {p q : PS} {i : Int}, go p i a = some q → checkGo p i (a ++ b) = checkGo q (i + a.length) b
  | [], b, p, q, i, h => by cases h; simp
  | s :: a, b, p, q, i, h => by
    unfold go at h
    by_cases hw : wrongP p s = []
    · rw [if_pos hw] at h
      rw [List.cons_append, checkGo, if_pos hw, go_then h]
      congr 1; simp; omega
    · rw [if_neg hw] at h; cases h
theorem go_app : ∀ {a b : List Sn} {p q : PS} {i : Int}, go p i a = some q → go p i (a ++ b) = go q (i + a.length) b
  | [], b, p, q, i, h => by cases h; simp
  | s :: a, b, p, q, i, h => by
    unfold go at h
    by_cases hw : wrongP p s = []
    · rw [if_pos hw] at h
      rw [List.cons_append, go, if_pos hw, go_app h]
      congr 1; simp; omega
    · rw [if_neg hw] at h; cases h
theorem wrong_new {p : PS} {s : Sn} (hd : s.done = false) (hc : p.calls s.id = none) : wrongP p s = [] := by
  unfold wrongP
  rw [if_neg (by rintro (⟨_, h⟩ | ⟨h, _⟩); exact h hc; rw [hd] at h; cases h), if_pos (.inl hd)]
theorem badC_no {p : PS} {s : Sn} {fr : Int} (hd : s.done = true) (hc : p.calls s.id = some fr) (hn : p.done s.id = false) (hk : p.kinds s.id = s.ask) : (badC1 p s || badC2 p s) = false := by
  unfold badC1 badC2; rw [hd, hc, hn, hk]; simp
theorem quiet_no {s : Sn} (hd : s.done = true) (he : s.err = 0) : quiet s = false := by unfold quiet; rw [hd, he]; rfl

def riseC (o : Int) (m : Nat) : Sn := ⟨201, (m : Int) + 1, 4, 2, o, 1, 0, 1, [103], [], 0, false⟩
def riseR (o : Int) (m : Nat) : Sn := ⟨201, (m : Int) + 1, 4, 2, o, 1, 0, 1, [103], [], 0, true⟩
def rises (o : Nat → Int) (n : Nat) : List Sn := (List.range n).flatMap fun m => [riseC (o m) m, riseR (o m) m]
theorem rises_succ (o : Nat → Int) (n : Nat) : rises o (n + 1) = rises o n ++ [riseC (o n) n, riseR (o n) n] := by
  unfold rises; rw [List.range_succ, List.flatMap_append]; simp
theorem rises_len (o : Nat → Int) : ∀ n, (rises o n).length = 2 * n
  | 0 => rfl
  | n + 1 => by rw [rises_succ, List.length_append, rises_len o n]; simp; omega
def riseG (o : Nat → Int) (m : Nat) : Sg := ⟨(201, (m : Int) + 1), o m, 2 * (m : Int), 2 * (m : Int) + 1, 0⟩
structure Inv (o : Nat → Int) (j : Nat) (p : PS) : Prop where
  fresh : ∀ m : Nat, j ≤ m → p.calls (201, (m : Int) + 1) = none
  fresh2 : p.calls (202, 1) = none
  undone : ∀ m : Nat, j ≤ m → p.done (201, (m : Int) + 1) = false
  undone2 : p.done (202, 1) = false
  gens : ∀ t, p.gens t = []
  commits : p.commits ([103], 2) = (List.range j).map (riseG o)
theorem rise_step {o : Nat → Int} {j : Nat} {p : PS} (h : Inv o j p) : ∃ q, go p (2 * (j : Int)) [riseC (o j) j, riseR (o j) j] = some q ∧ Inv o (j + 1) q := by
  have hid : (riseC (o j) j).id = (201, (j : Int) + 1) := rfl
  have kR : (riseR (o j) j).kind = 4 := rfl
  have h1 : wrongP p (riseC (o j) j) = [] := wrong_new rfl (h.fresh j (Nat.le_refl _))
  obtain ⟨p1, hp1⟩ : ∃ p1, p1 = noteP p (2 * (j : Int)) (riseC (o j) j) := ⟨_, rfl⟩
  have e1 := hp1
  rw [note_commit rfl rfl] at e1
  have fc : p1.calls = put p.calls (201, (j : Int) + 1) (some (2 * (j : Int))) := by rw [e1]; rfl
  have fk : p1.kinds = put p.kinds (201, (j : Int) + 1) (riseR (o j) j).ask := by rw [e1]; rfl
  have fd : p1.done = p.done := by rw [e1]
  have fg : p1.gens = p.gens := by rw [e1]
  have fm : p1.commits = put p.commits ([103], 2) (p.commits ([103], 2) ++ [⟨(201, (j : Int) + 1), o j, 2 * (j : Int), -1, 0⟩]) := by rw [e1]; rfl
  have c1 : p1.calls (riseR (o j) j).id = some (2 * (j : Int)) := by rw [fc]; exact put_at _ (201, (j : Int) + 1) _
  have k1 : p1.kinds (riseR (o j) j).id = (riseR (o j) j).ask := by rw [fk]; exact put_at _ (201, (j : Int) + 1) _
  have d1 : p1.done (riseR (o j) j).id = false := by rw [fd]; exact h.undone j (Nat.le_refl _)
  have g1 : ∀ t, p1.gens t = [] := by rw [fg]; exact h.gens
  have h2 : wrongP p1 (riseR (o j) j) = [] := by
    rw [wrong_go (badC_no rfl c1 d1 k1) (quiet_no rfl rfl), if_neg (by rw [kR]; decide), if_neg (by rw [kR]; decide), if_pos kR, g1]; rfl
  refine ⟨noteP p1 (2 * (j : Int) + 1) (riseR (o j) j), by simp only [go, if_pos h1, ← hp1, if_pos h2], ?_⟩
  rw [note_other rfl rfl (by rw [kR]; decide) (by rw [kR]; decide) (by rw [kR]; decide)]
  have hne : ∀ m : Nat, m ≠ j → ((201, (m : Int) + 1) : Int × Int) ≠ (201, (j : Int) + 1) := fun m hm e => by
    have := congrArg Prod.snd e; simp at this; omega
  have hne2 : ((202, 1) : Int × Int) ≠ (201, (j : Int) + 1) := fun e => by have := congrArg Prod.fst e; simp at this
  have rc : (noteR p1 (2 * (j : Int) + 1) (riseR (o j) j)).calls = p1.calls := rfl
  have rd : (noteR p1 (2 * (j : Int) + 1) (riseR (o j) j)).done = put p1.done (201, (j : Int) + 1) true := rfl
  have rm : (noteR p1 (2 * (j : Int) + 1) (riseR (o j) j)).commits ([103], 2) = (p1.commits ([103], 2)).map (endG (201, (j : Int) + 1) (2 * (j : Int) + 1) 0) := rfl
  refine ⟨fun m hm => ?_, ?_, fun m hm => ?_, ?_, g1, ?_⟩
  · rw [rc, fc, put_ne (hne m (by omega))]; exact h.fresh m (by omega)
  · rw [rc, fc, put_ne hne2]; exact h.fresh2
  · rw [rd, put_ne (hne m (by omega)), fd]; exact h.undone m (by omega)
  · rw [rd, put_ne hne2, fd]; exact h.undone2
  · rw [rm, fm, put_at, h.commits, List.map_append, List.range_succ, List.map_append, List.map_map]
    congr 1
    · refine List.map_congr_left fun m hm => ?_
      have hmj : m < j := List.mem_range.1 hm
      have hid2 : (riseG o m).id ≠ (201, (j : Int) + 1) := hne m (by omega)
      show endG _ _ _ (riseG o m) = riseG o m
      unfold endG; rw [if_neg hid2]
    · simp [endG, riseG]
theorem rise_all (o : Nat → Int) : ∀ n, ∃ q, go .start 0 (rises o n) = some q ∧ Inv o n q
  | 0 => ⟨.start, rfl, ⟨fun _ _ => rfl, rfl, fun _ _ => rfl, rfl, fun _ => rfl, rfl⟩⟩
  | n + 1 => by
    obtain ⟨q, hq, hI⟩ := rise_all o n
    obtain ⟨q', hq', hI'⟩ := rise_step hI
    refine ⟨q', ?_, hI'⟩
    rw [rises_succ, go_app hq, rises_len]
    rw [show (0 : Int) + ((2 * n : Nat) : Int) = 2 * (n : Int) by omega]; exact hq'
def askC : Sn := ⟨202, 1, 5, 2, 0, 0, 0, 0, [103], [], 0, false⟩
def askR (off : Int) : Sn := ⟨202, 1, 5, 2, off, 0, 0, 0, [103], [], 0, true⟩
def staleL (o : Nat → Int) (n : Nat) (off : Int) : Bool := if off = -1 then ((List.range n).map (riseG o)).any (over (2 * (n : Int))) else !((List.range n).map (riseG o)).any (stays ((List.range n).map (riseG o)) off (2 * (n : Int)))
theorem rise_end (o : Nat → Int) (n : Nat) (off : Int) : check (rises o n ++ [askC] ++ [askR off]) = if staleL o n off then (2 * (n : Int) + 1, wCommit) else (-1, []) := by
  obtain ⟨q, hq, hI⟩ := rise_all o n
  have h1 : wrongP q askC = [] := wrong_new rfl hI.fresh2
  obtain ⟨p1, hp1⟩ : ∃ p1, p1 = noteP q (2 * (n : Int)) askC := ⟨_, rfl⟩
  have e1 := hp1
  rw [note_call rfl (by decide) (by decide)] at e1
  have fc : p1.calls = put q.calls (202, 1) (some (2 * (n : Int))) := by rw [e1]; rfl
  have fk : p1.kinds = put q.kinds (202, 1) (askR off).ask := by rw [e1]; rfl
  have kR : (askR off).kind = 5 := rfl
  have c1 : p1.calls (askR off).id = some (2 * (n : Int)) := by rw [fc]; exact put_at _ ((202, 1) : Int × Int) _
  have k1 : p1.kinds (askR off).id = (askR off).ask := by rw [fk]; exact put_at _ ((202, 1) : Int × Int) _
  have d1 : p1.done (askR off).id = false := by rw [e1]; exact hI.undone2
  have m1 : p1.commits ([103], 2) = (List.range n).map (riseG o) := by rw [e1]; exact hI.commits
  have h2 : wrongP p1 (askR off) = if staleL o n off then wCommit else [] := by
    rw [wrong_go (badC_no rfl c1 d1 k1) (quiet_no rfl rfl), if_neg (by rw [kR]; decide), if_neg (by rw [kR]; decide), if_neg (by rw [kR]; decide), if_pos kR]
    have : staleP p1 (askR off) ((p1.calls (askR off).id).getD 0) = staleL o n off := by
      rw [show p1.calls (askR off).id = some (2 * (n : Int)) from c1]
      unfold staleP staleL
      rw [show p1.commits ((askR off).name, (askR off).part) = (List.range n).map (riseG o) from m1]; rfl
    rw [this]
  unfold check
  rw [List.append_assoc, go_then hq, rises_len, show (0 : Int) + ((2 * n : Nat) : Int) = 2 * (n : Int) by omega]
  show checkGo q _ [askC, askR off] = _
  rw [checkGo, if_pos h1, ← hp1, checkGo]
  rw [h2]
  cases staleL o n off with
  | true => rw [if_pos rfl, if_neg (by decide)]; rfl
  | false => rfl
theorem over_rise (o : Nat → Int) {n m : Nat} (h : m < n) : over (2 * (n : Int)) (riseG o m) = true := by
  unfold over riseG; simp; omega
theorem stale_none (o : Nat → Int) (n : Nat) : staleL o n (-1) = decide (0 < n) := by
  unfold staleL; rw [if_pos rfl]
  cases n with
  | zero => rfl
  | succ n =>
    rw [List.any_map]
    have : (List.range (n + 1)).any (over (2 * ((n + 1 : Nat) : Int)) ∘ riseG o) = true := List.any_eq_true.2 ⟨0, List.mem_range.2 (by omega), over_rise o (by omega)⟩
    rw [this]; simp
theorem stale_some (o : Nat → Int) (n k : Nat) (hk : k < n) (hinj : ∀ m, m < n → o m = o k → m = k) (hn1 : o k ≠ -1) : staleL o n (o k) = decide (k + 1 < n) := by
  unfold staleL; rw [if_neg hn1]
  have hb : ∀ m, m < n → behind ((List.range n).map (riseG o)) (2 * (n : Int)) (riseG o m) = decide (m + 1 < n) := fun m hm => by
    unfold behind
    rw [List.any_map, Bool.eq_iff_iff, List.any_eq_true]
    constructor
    · rintro ⟨y, hy, h⟩
      have hyn := List.mem_range.1 hy
      simp only [Function.comp, Bool.and_eq_true, decide_eq_true_eq] at h
      have h2 : 2 * (m : Int) + 1 < 2 * (y : Int) := h.2
      simp; omega
    · intro h
      refine ⟨m + 1, List.mem_range.2 (by simpa using h), ?_⟩
      have h1 : m + 1 < n := by simpa using h
      simp only [Function.comp, over_rise o h1, Bool.true_and, decide_eq_true_eq]
      show 2 * (m : Int) + 1 < 2 * ((m + 1 : Nat) : Int)
      omega
  have hs : ((List.range n).map (riseG o)).any (stays ((List.range n).map (riseG o)) (o k) (2 * (n : Int))) = !decide (k + 1 < n) := by
    rw [List.any_map, Bool.eq_iff_iff, List.any_eq_true]
    constructor
    · rintro ⟨m, hm, h⟩
      have hmn := List.mem_range.1 hm
      simp only [Function.comp, stays, hb m hmn, Bool.and_eq_true, decide_eq_true_eq] at h
      have hmk : m = k := hinj m hmn h.1
      subst hmk
      have h2 := h.2
      have e1 : ¬ (riseG o m).to < 0 := by show ¬ (2 * (m : Int) + 1 < 0); omega
      have e2 : (riseG o m).err = 0 := rfl
      simp only [e1, e2, decide_false, Bool.false_or, ne_eq, not_true] at h2
      exact h2
    · intro h
      refine ⟨k, List.mem_range.2 hk, ?_⟩
      simp only [Function.comp, stays, hb k hk]
      have e1 : (riseG o k).offset = o k := rfl
      rw [e1, h]; simp
  rw [hs, Bool.not_not]
end Go.Proofs.Ytahpokcigdjilaa
