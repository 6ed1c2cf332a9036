/- A separation logic over the given machine. Part 5: regions that draw their order. -/
import Derived.Test.YtahpokcigdjilaaL4
namespace Go.Sp
open Go

section
variable {P : Program} {N : Nat} {ops : Array Oper} {E : Env} {Γ ΓS : List SProp} {K : Env → List SProp → Prop} {fuel : Nat} {listed : Array Bool} {L : List Nat}

/-- What waits for l, by the edges of js or of those found before. -/
def deps (ops : Array Oper) (l : Nat) : List Nat → List Nat → List Nat
  | [], acc => acc
  | j :: js, acc => deps ops l js (match ops[j]? with
    | some o => match o.after.any fun e => Region.binds .any e && (Nat.beq e.on l || acc.any (Nat.beq e.on)) with
      | true => j :: acc
      | false => acc
    | none => acc)

/-- Does operation j wait for all of L (but itself)? -/
def waits (ops : Array Oper) (L : List Nat) (j : Nat) : Bool := L.all fun l => Nat.beq l j || (deps ops l (List.range ops.size) []).any (Nat.beq j)

/-- What has come up waited for nothing that has not. -/
def Closed (ops : Array Oper) (listed : Array Bool) : Prop :=
  ∀ (j : Nat) (o : Oper), ops[j]? = some o → listed.getD j false = true → ∀ e ∈ o.after, Region.binds .any e = true → listed.getD e.on false = true

theorem getD_set_true {listed : Array Bool} {i j : Nat} (h : listed.getD j false = true) : (listed.setIfInBounds i true).getD j false = true := by
  by_cases hij : i = j
  · subst hij
    have : i < listed.size := by
      rcases Nat.lt_or_ge i listed.size with h' | h'
      · exact h'
      · simp [h'] at h
    simp [this]
  · rw [getD_set_ne false hij]; exact h

theorem Closed.set {listed : Array Bool} {i : Nat} (hc : Closed ops listed) (hr : i ∈ Region.ready .any ops listed) : Closed ops (listed.setIfInBounds i true) := by
  intro j o ho hl e he hb
  by_cases hij : i = j
  · subst hij
    obtain ⟨_, o', ho', h'⟩ := mem_ready.1 hr
    rw [ho] at ho'; cases ho'
    exact getD_set_true (h' e he hb)
  · rw [getD_set_ne false hij] at hl
    exact getD_set_true (hc j o ho hl e he hb)

theorem Closed.start (n : Nat) : Closed ops (Array.replicate n false) := by
  intro j o _ hl
  simp only [Array.getD_eq_getD_getElem?] at hl
  rcases Nat.lt_or_ge j n with h | h <;> simp [h] at hl

theorem deps_fed {listed : Array Bool} {l : Nat} (hc : Closed ops listed) : ∀ (js acc : List Nat),
    (∀ j ∈ acc, ∃ o, ops[j]? = some o ∧ ((∀ e ∈ o.after, Region.binds .any e = true → listed.getD e.on false = true) → listed.getD l false = true)) →
    ∀ j ∈ deps ops l js acc, ∃ o, ops[j]? = some o ∧ ((∀ e ∈ o.after, Region.binds .any e = true → listed.getD e.on false = true) → listed.getD l false = true)
  | [], _, h => h
  | k :: js, acc, h => by
    unfold deps
    refine deps_fed hc js _ ?_
    cases hk : ops[k]? with
    | none => exact h
    | some o =>
      simp only
      cases hx : o.after.any fun e => Region.binds .any e && (Nat.beq e.on l || acc.any (Nat.beq e.on)) with
      | false => exact h
      | true =>
        intro j hj
        rcases List.mem_cons.1 hj with rfl | hj
        · refine ⟨o, hk, fun hall => ?_⟩
          obtain ⟨e, he, hb⟩ := Array.any_eq_true'.1 hx
          simp only [Bool.and_eq_true, Bool.or_eq_true, List.any_eq_true] at hb
          obtain ⟨hb1, hb2⟩ := hb
          have hl := hall e he hb1
          rcases hb2 with hb2 | ⟨m, hm, hb2⟩
          · rw [← Nat.eq_of_beq_eq_true hb2]; exact hl
          · have := Nat.eq_of_beq_eq_true hb2
            rw [← this] at hm
            obtain ⟨o2, ho2, h2⟩ := h _ hm
            exact h2 (hc _ o2 ho2 hl)
        · exact h j hj

/-- Whatever order is picked from here on; behind every operation that need not wait for all of L, S holds. -/
def wpAnyL (P : Program) (ops : Array Oper) (Q : Exit → Act → World → Prop) (S : World → Prop) (L : List Nat) : Nat → Array Bool → Act → World → Prop
  | 0, listed, a, w => Region.ready .any ops listed = [] ∧ Q .normal a w
  | fuel + 1, listed, a, w => Closed ops listed → (
    (Region.ready .any ops listed = [] → Q .normal a w) ∧
    ∀ i ∈ Region.ready .any ops listed, wpOp P ops Q i (fun a' w' => (waits ops L i = false → S w → S w') ∧ wpAnyL P ops Q S L fuel (listed.setIfInBounds i true) a' w') a w)

theorem wpAny_of_L {Q S L} : ∀ (fuel : Nat) (listed : Array Bool) (a : Act) (w : World), Closed ops listed → wpAnyL P ops Q S L fuel listed a w → wpAny P .any ops Q fuel listed a w
  | 0, _, _, _, _, h => h
  | fuel + 1, _, _, _, hc, h => ⟨(h hc).1, fun i hi => wpOp_mono (fun a' w' h' => wpAny_of_L fuel _ a' w' (hc.set hi) h'.2) ((h hc).2 i hi)⟩

theorem waits_false {listed : Array Bool} {L : List Nat} {i j : Nat} (hc : Closed ops listed) (hi : i ∈ L) (hj : j ∈ Region.ready .any ops listed) (hne : j ≠ i) (hl : listed.getD i false = false) : waits ops L j = false := by
  cases hw : waits ops L j with
  | false => rfl
  | true =>
    have := List.all_eq_true.1 hw i hi
    simp only [Bool.or_eq_true, List.any_eq_true] at this
    rcases this with h | ⟨m, hm, h⟩
    · exact absurd (Nat.eq_of_beq_eq_true h).symm hne
    · have := Nat.eq_of_beq_eq_true h
      subst this
      obtain ⟨_, o, ho, hall⟩ := mem_ready.1 hj
      obtain ⟨o', ho', this⟩ := deps_fed hc (List.range ops.size) [] (fun _ h => by cases h) j hm
      rw [ho] at ho'; cases ho'
      rw [hl] at this; cases this hall

/-- One of L that may come up may be taken first, if it yields its value wherever S holds. -/
theorem wpAnyL_first {Q : Exit → Act → World → Prop} {S : World → Prop} {L : List Nat} {i : Nat} {oi : Oper} {v : Value} (hi : ops[i]? = some oi) (hsel : ∀ (j : Nat) (o : Oper) cs b, ops[j]? = some o → o.op ≠ .select cs b)
    (hQ : ∀ c a w, Q (.panic c) (a.put oi.dst v) w → Q (.panic c) a w) (hL : i ∈ L) :
    ∀ (fuel : Nat) (listed : Array Bool) (a : Act) (w : World),
      (∀ j oj, ops[j]? = some oj → j ≠ i → listed.getD j true = false → (∀ e ∈ oj.after, Region.binds .any e = true → e.on ≠ i) → oi.apart ops oj = true) →
      i ∈ Region.ready .any ops listed → YieldsIf P ops S oi v a → S w →
      wpAnyL P ops Q S L fuel (listed.setIfInBounds i true) (a.put oi.dst v) w → wpAnyL P ops Q S L (fuel + 1) listed a w := by
  intro fuel
  induction fuel with
  | zero =>
    intro listed a w _ hr hy hS H
    refine fun hc => ⟨fun h => (by rw [h] at hr; cases hr), fun j hj => ?_⟩
    by_cases hji : j = i
    · subst hji; exact hy.wpOp hi hS ⟨fun _ _ => hS, H⟩
    · have := ready_mono hj hji
      rw [H.1] at this
      cases this
  | succ fuel ih =>
    intro listed a w hfree hr hy hS H
    refine fun hc => ⟨fun h => (by rw [h] at hr; cases hr), fun j hj => ?_⟩
    by_cases hji : j = i
    · subst hji; exact hy.wpOp hi hS ⟨fun _ _ => hS, H⟩
    · have h1 := (H (hc.set hr)).2 j (ready_mono hj hji)
      obtain ⟨hjun, oj, hoj, hall⟩ := mem_ready.1 hj
      have hnot : ∀ e ∈ oj.after, Region.binds .any e = true → e.on ≠ i := fun e he hb heq => by
        have h1 := hall e he hb
        have h0 := (mem_ready.1 hr).1
        rw [heq] at h1
        rcases Nat.lt_or_ge i listed.size with h' | h'
        · simp [h'] at h0 h1; rw [h0] at h1; cases h1
        · simp [Array.getElem?_eq_none h'] at h1
      have h2 := wpOp_putIf hoj (hfree j oj hoj hji hjun hnot) (fun cs b => hsel i oi cs b hi) (fun cs b => hsel j oj cs b hoj) hQ hy h1
      have hfree' : ∀ k ok, ops[k]? = some ok → k ≠ i → (listed.setIfInBounds j true).getD k true = false →
          (∀ e ∈ ok.after, Region.binds .any e = true → e.on ≠ i) → oi.apart ops ok = true := fun k ok hk hki hun hno => by
        refine hfree k ok hk hki ?_ hno
        by_cases hjk : j = k
        · subst hjk; exact hjun
        · rw [getD_set_ne true hjk] at hun; exact hun
      refine wpOp_mono (fun a' w' h3 => ?_) h2
      have hS' : S w' := h3.2.1 (waits_false hc hL hj hji (by have h0 := (mem_ready.1 hr).1; rcases Nat.lt_or_ge i listed.size with h' | h' <;> simp [h'] at h0 ⊢; exact h0)) hS
      refine ⟨fun _ _ => hS', ih (listed.setIfInBounds j true) a' w' hfree' (ready_mono hr (Ne.symm hji)) h3.1 hS' ?_⟩
      rw [Array.setIfInBounds_comm _ _ hji]
      exact h3.2.2

/-- What waits for all of L and yields its value wherever it is may be taken first. -/
theorem wpAnyL_pure {Q : Exit → Act → World → Prop} {S : World → Prop} {L : List Nat} {i : Nat} {oi : Oper} {v : Value} (hi : ops[i]? = some oi) (hsel : ∀ (j : Nat) (o : Oper) cs b, ops[j]? = some o → o.op ≠ .select cs b)
    (hQ : ∀ c a w, Q (.panic c) (a.put oi.dst v) w → Q (.panic c) a w) :
    ∀ (fuel : Nat) (listed : Array Bool) (a : Act) (w : World),
      (∀ j oj, ops[j]? = some oj → j ≠ i → listed.getD j true = false → (∀ e ∈ oj.after, Region.binds .any e = true → e.on ≠ i) → oi.apart ops oj = true) →
      i ∈ Region.ready .any ops listed → Yields P ops oi v a →
      wpAnyL P ops Q S L fuel (listed.setIfInBounds i true) (a.put oi.dst v) w → wpAnyL P ops Q S L (fuel + 1) listed a w := by
  intro fuel
  induction fuel with
  | zero =>
    intro listed a w _ hr hy H
    refine fun hc => ⟨fun h => (by rw [h] at hr; cases hr), fun j hj => ?_⟩
    by_cases hji : j = i
    · subst hji; exact hy.wpOp hi ⟨fun _ h => h, H⟩
    · have := ready_mono hj hji
      rw [H.1] at this
      cases this
  | succ fuel ih =>
    intro listed a w hfree hr hy H
    refine fun hc => ⟨fun h => (by rw [h] at hr; cases hr), fun j hj => ?_⟩
    by_cases hji : j = i
    · subst hji; exact hy.wpOp hi ⟨fun _ h => h, H⟩
    · have h1 := (H (hc.set hr)).2 j (ready_mono hj hji)
      obtain ⟨hjun, oj, hoj, hall⟩ := mem_ready.1 hj
      have hnot : ∀ e ∈ oj.after, Region.binds .any e = true → e.on ≠ i := fun e he hb heq => by
        have h1 := hall e he hb
        have h0 := (mem_ready.1 hr).1
        rw [heq] at h1
        rcases Nat.lt_or_ge i listed.size with h' | h'
        · simp [h'] at h0 h1; rw [h0] at h1; cases h1
        · simp [Array.getElem?_eq_none h'] at h1
      have h2 := wpOp_put hoj (hfree j oj hoj hji hjun hnot) (fun cs b => hsel i oi cs b hi) (fun cs b => hsel j oj cs b hoj) hQ hy h1
      have hfree' : ∀ k ok, ops[k]? = some ok → k ≠ i → (listed.setIfInBounds j true).getD k true = false →
          (∀ e ∈ ok.after, Region.binds .any e = true → e.on ≠ i) → oi.apart ops ok = true := fun k ok hk hki hun hno => by
        refine hfree k ok hk hki ?_ hno
        by_cases hjk : j = k
        · subst hjk; exact hjun
        · rw [getD_set_ne true hjk] at hun; exact hun
      refine wpOp_mono (fun a' w' h3 => ?_) h2
      refine ⟨h3.2.1, ih (listed.setIfInBounds j true) a' w' hfree' (ready_mono hr (Ne.symm hji)) h3.1 ?_⟩
      rw [Array.setIfInBounds_comm _ _ hji]
      exact h3.2.2

/-- What is left of a region whose order is drawn ('listed': what has come up): whatever comes up next, K holds at the end. ΓS: what stays as it is till all of L have come up. -/
def RunD (P : Program) (N : Nat) (ops : Array Oper) (L : List Nat) (ΓS : List SProp) (fuel : Nat) (listed : Array Bool) (E : Env) (Γ : List SProp) (K : Env → List SProp → Prop) : Prop :=
  ∀ A F w a (Z : Exit → Act → World → Prop), (∀ c a w, ¬ Z (.panic c) a w) → Fr N E a → Sat A w (Γ ++ F) →
    (∀ E' Γ' w' a', K E' Γ' → Fr N E' a' → Sat A w' (Γ' ++ F) → Z .normal a' w') → wpAnyL P ops Z (fun w => Sat A w ΓS) L fuel listed a w

def StepD (P : Program) (N : Nat) (ops : Array Oper) (L : List Nat) (ΓS : List SProp) (fuel : Nat) (listed : Array Bool) (i : Nat) (E : Env) (Γ : List SProp) (K : Env → List SProp → Prop) : Prop :=
  ∀ A F w a (Z : Exit → Act → World → Prop), (∀ c a w, ¬ Z (.panic c) a w) → Fr N E a → Sat A w (Γ ++ F) →
    (∀ E' Γ' w' a', K E' Γ' → Fr N E' a' → Sat A w' (Γ' ++ F) → Z .normal a' w') →
    wpOp P ops Z i (fun a' w' => (waits ops L i = false → Sat A w ΓS → Sat A w' ΓS) ∧ wpAnyL P ops Z (fun w => Sat A w ΓS) L fuel (listed.setIfInBounds i true) a' w') a w

theorem Sat.sub {A w Γ Δ ΓS F} (p : Picks ΓS Γ Δ) (s : Sat A w (Γ ++ F)) : Sat A w ΓS := (s.swap_in p).left

theorem RunD.done (hr : Region.ready .any ops listed = []) (h : K E Γ) : RunD P N ops L ΓS fuel listed E Γ K := by
  intro _ _ w a _ _ hf hs hz
  have := hz E Γ w a h hf hs
  cases fuel with
  | zero => exact ⟨hr, this⟩
  | succ n => exact fun _ => ⟨fun _ => this, by rw [hr]; simp⟩

theorem Fr.off {N E a} (hf : Fr N E a) {dst : Option Tmp} (hd : ∀ d, dst = some d → lk E d = none) : Fr N E (a.put dst undef) := by
  cases dst with
  | none => exact hf
  | some d =>
    have hn := hd d rfl
    refine ⟨hf.defers, by simp [Act.put, hf.size], fun s v e => ?_⟩
    have hsd : s ≠ d := fun e' => by subst e'; rw [hn] at e; cases e
    simp only [Act.put]
    rw [Array.getElem?_setIfInBounds_ne (Ne.symm hsd)]
    exact hf.look s v e

/-- One of L that only reads may be taken first. -/
theorem RunD.rd {Δ} (i : Nat) {d op ty pos after v} (ho : ops[i]? = some ⟨some d, op, ty, pos, after, none⟩) (hL : L.contains i = true) (hs : Region.noSelect ops = true) (hfr : Region.free .any ops listed i = true)
    (hr : (Region.ready .any ops listed).contains i = true) (h : Reads P N E ΓS ⟨some d, op, ty, pos, after, none⟩ v) (p : Picks ΓS Γ Δ)
    (next : RunD P N ops L ΓS fuel (listed.setIfInBounds i true) ((d, v) :: E) Γ K) (hd : Nat.blt d N = true := by rfl) : RunD P N ops L ΓS (fuel + 1) listed E Γ K := by
  intro A F w a Z hZ hf hsat hz
  refine wpAnyL_first ho (Region.noSelect_spec hs) (fun c a w h => absurd h (hZ _ _ _)) (by simpa using hL) fuel listed a w (Region.free_spec ho hfr) (by simpa using hr) (.inl ⟨rfl, fun w' hS => h A w' a hf hS⟩) (hsat.sub p) ?_
  exact next A F w _ Z hZ (hf.put hd v) hsat hz

/-- The same behind a guard that lets it. -/
theorem RunD.rdG {Δ} (i : Nat) {d op ty pos after v} {g : Nat} {b : Bool} {t : Nat} (ho : ops[i]? = some ⟨some d, op, ty, pos, after, some (g, b)⟩) (hg : gslot ops g = some t) (he : lk E t = some (.bool b))
    (hL : L.contains i = true) (hs : Region.noSelect ops = true) (hfr : Region.free .any ops listed i = true)
    (hr : (Region.ready .any ops listed).contains i = true) (h : Reads P N E ΓS ⟨some d, op, ty, pos, after, some (g, b)⟩ v) (p : Picks ΓS Γ Δ)
    (next : RunD P N ops L ΓS fuel (listed.setIfInBounds i true) ((d, v) :: E) Γ K) (hd : Nat.blt d N = true := by rfl) : RunD P N ops L ΓS (fuel + 1) listed E Γ K := by
  intro A F w a Z hZ hf hsat hz
  have hy := yielded_of hg hf he
  have hw : Region.wanted ⟨some d, op, ty, pos, after, some (g, b)⟩ (yielded ops a.tmps) = true := by simp [Region.wanted, hy]
  refine wpAnyL_first ho (Region.noSelect_spec hs) (fun c a w h => absurd h (hZ _ _ _)) (by simpa using hL) fuel listed a w (Region.free_spec ho hfr) (by simpa using hr) (.inl ⟨hw, fun w' hS => h A w' a hf hS⟩) (hsat.sub p) ?_
  exact next A F w _ Z hZ (hf.put hd v) hsat hz

/-- Behind a guard that does not let it. -/
theorem RunD.off (i : Nat) {dst op ty pos after} {g : Nat} {b c : Bool} {t : Nat} (ho : ops[i]? = some ⟨dst, op, ty, pos, after, some (g, b)⟩) (hg : gslot ops g = some t) (he : lk E t = some (.bool c)) (hne : (c == b) = false)
    (hs : Region.noSelect ops = true) (hfr : Region.free .any ops listed i = true)
    (hr : (Region.ready .any ops listed).contains i = true)
    (next : RunD P N ops L ΓS fuel (listed.setIfInBounds i true) E Γ K) (hd : ∀ d, dst = some d → lk E d = none := by intro d h; cases h; rfl) : RunD P N ops L ΓS (fuel + 1) listed E Γ K := by
  intro A F w a Z hZ hf hsat hz
  have hy := yielded_of hg hf he
  have hw : Region.wanted ⟨dst, op, ty, pos, after, some (g, b)⟩ (yielded ops a.tmps) = false := by
    simp [Region.wanted, hy]; intro e; subst e; simp at hne
  refine wpAnyL_pure ho (Region.noSelect_spec hs) (v := undef) (fun c a w h => absurd h (hZ _ _ _)) fuel listed a w (Region.free_spec ho hfr) (by simpa using hr) (.inr ⟨hw, rfl⟩) ?_
  exact next A F w _ Z hZ (hf.off hd) hsat hz

/-- What looks at no memory. -/
theorem RunD.rp (i : Nat) {d op ty pos after v} (ho : ops[i]? = some ⟨some d, op, ty, pos, after, none⟩) (hs : Region.noSelect ops = true) (hfr : Region.free .any ops listed i = true)
    (hr : (Region.ready .any ops listed).contains i = true) (h : ∀ w a, Fr N E a → (execOp a.eval ⟨some d, op, ty, pos, after, none⟩).run P w = .ok (.value v) w)
    (next : RunD P N ops L ΓS fuel (listed.setIfInBounds i true) ((d, v) :: E) Γ K) (hd : Nat.blt d N = true := by rfl) : RunD P N ops L ΓS (fuel + 1) listed E Γ K := by
  intro A F w a Z hZ hf hsat hz
  refine wpAnyL_pure ho (Region.noSelect_spec hs) (fun c a w h => absurd h (hZ _ _ _)) fuel listed a w (Region.free_spec ho hfr) (by simpa using hr) (.inl ⟨rfl, fun w' => h w' a hf⟩) ?_
  exact next A F w _ Z hZ (hf.put hd v) hsat hz

theorem RunD.rpG (i : Nat) {d op ty pos after v} {g : Nat} {b : Bool} {t : Nat} (ho : ops[i]? = some ⟨some d, op, ty, pos, after, some (g, b)⟩) (hg : gslot ops g = some t) (he : lk E t = some (.bool b))
    (hs : Region.noSelect ops = true) (hfr : Region.free .any ops listed i = true)
    (hr : (Region.ready .any ops listed).contains i = true) (h : ∀ w a, Fr N E a → (execOp a.eval ⟨some d, op, ty, pos, after, some (g, b)⟩).run P w = .ok (.value v) w)
    (next : RunD P N ops L ΓS fuel (listed.setIfInBounds i true) ((d, v) :: E) Γ K) (hd : Nat.blt d N = true := by rfl) : RunD P N ops L ΓS (fuel + 1) listed E Γ K := by
  intro A F w a Z hZ hf hsat hz
  have hy := yielded_of hg hf he
  have hw : Region.wanted ⟨some d, op, ty, pos, after, some (g, b)⟩ (yielded ops a.tmps) = true := by simp [Region.wanted, hy]
  refine wpAnyL_pure ho (Region.noSelect_spec hs) (fun c a w h => absurd h (hZ _ _ _)) fuel listed a w (Region.free_spec ho hfr) (by simpa using hr) (.inl ⟨hw, fun w' => h w' a hf⟩) ?_
  exact next A F w _ Z hZ (hf.put hd v) hsat hz

theorem Sat.empty (w : World) : Sat (amb w) w [] := ⟨rfl, fun _ => none, fun _ _ e => by simp at e, trivial⟩
theorem Reads.pure {E o v} (h : Reads P N E [] o v) (w : World) (a : Act) (hf : Fr N E a) : (execOp a.eval o).run P w = .ok (.value v) w := h _ w a hf (Sat.empty w)

theorem RunD.all {rs : List Nat} (hr : Region.ready .any ops listed = rs) (hne : rs ≠ []) (h : ∀ i ∈ rs, StepD P N ops L ΓS fuel listed i E Γ K) : RunD P N ops L ΓS (fuel + 1) listed E Γ K :=
  fun A F w a Z hZ hf hsat hz _ => ⟨fun h0 => absurd (hr ▸ h0) hne, hr ▸ fun i hi => h i hi A F w a Z hZ hf hsat hz⟩

theorem StepD.ef {i d op ty pos after} {K1 : Value → List SProp → Prop} (ho : ops[i]? = some ⟨some d, op, ty, pos, after, none⟩) (h : Eff P N E Γ ⟨some d, op, ty, pos, after, none⟩ K1)
    (next : ∀ v Γ', K1 v Γ' → (waits ops L i = true ∨ ∃ Δ, Picks ΓS Γ' Δ) ∧ RunD P N ops L ΓS fuel (listed.setIfInBounds i true) ((d, v) :: E) Γ' K) (hd : Nat.blt d N = true := by rfl) : StepD P N ops L ΓS fuel listed i E Γ K := by
  intro A F w a Z hZ hf hsat hz
  simp only [wpOp, ho, wanted_none, if_true]
  refine .inl (h A F w a _ _ hf hsat ?_)
  intro v Γ' w' hk hs'
  obtain ⟨p, n⟩ := next v Γ' hk
  exact ⟨fun hw _ => (by rcases p with p | ⟨Δ, p⟩; (rw [hw] at p; cases p); exact hs'.sub p), n A F w' _ Z hZ (hf.put hd _) hs' hz⟩

theorem StepD.ef0 {i op ty pos after} {K1 : Value → List SProp → Prop} (ho : ops[i]? = some ⟨none, op, ty, pos, after, none⟩) (h : Eff P N E Γ ⟨none, op, ty, pos, after, none⟩ K1)
    (next : ∀ v Γ', K1 v Γ' → (waits ops L i = true ∨ ∃ Δ, Picks ΓS Γ' Δ) ∧ RunD P N ops L ΓS fuel (listed.setIfInBounds i true) E Γ' K) : StepD P N ops L ΓS fuel listed i E Γ K := by
  intro A F w a Z hZ hf hsat hz
  simp only [wpOp, ho, wanted_none, if_true]
  refine .inl (h A F w a _ _ hf hsat ?_)
  intro v Γ' w' hk hs'
  obtain ⟨p, n⟩ := next v Γ' hk
  exact ⟨fun hw _ => (by rcases p with p | ⟨Δ, p⟩; (rw [hw] at p; cases p); exact hs'.sub p), n A F w' _ Z hZ hf hs' hz⟩

/-- An operation that acts, behind a guard that lets it. -/
theorem StepD.efG {i d op ty pos after} {g : Nat} {b : Bool} {t : Nat} {K1 : Value → List SProp → Prop} (ho : ops[i]? = some ⟨some d, op, ty, pos, after, some (g, b)⟩) (hg : gslot ops g = some t) (he : lk E t = some (.bool b))
    (h : Eff P N E Γ ⟨some d, op, ty, pos, after, some (g, b)⟩ K1)
    (next : ∀ v Γ', K1 v Γ' → (waits ops L i = true ∨ ∃ Δ, Picks ΓS Γ' Δ) ∧ RunD P N ops L ΓS fuel (listed.setIfInBounds i true) ((d, v) :: E) Γ' K) (hd : Nat.blt d N = true := by rfl) : StepD P N ops L ΓS fuel listed i E Γ K := by
  intro A F w a Z hZ hf hsat hz
  have hy := yielded_of hg hf he
  have hw : Region.wanted ⟨some d, op, ty, pos, after, some (g, b)⟩ (yielded ops a.tmps) = true := by simp [Region.wanted, hy]
  simp only [wpOp, ho, hw, if_true]
  refine .inl (h A F w a _ _ hf hsat ?_)
  intro v Γ' w' hk hs'
  obtain ⟨p, n⟩ := next v Γ' hk
  exact ⟨fun hw _ => (by rcases p with p | ⟨Δ, p⟩; (rw [hw] at p; cases p); exact hs'.sub p), n A F w' _ Z hZ (hf.put hd _) hs' hz⟩

/-- An operation that only reads, when it comes up. -/
theorem StepD.rd {Δ} {i d op ty pos after v} (ho : ops[i]? = some ⟨some d, op, ty, pos, after, none⟩) (h : Reads P N E Γ ⟨some d, op, ty, pos, after, none⟩ v) (p : Picks ΓS Γ Δ)
    (next : RunD P N ops L ΓS fuel (listed.setIfInBounds i true) ((d, v) :: E) Γ K) (hd : Nat.blt d N = true := by rfl) : StepD P N ops L ΓS fuel listed i E Γ K :=
  .ef ho h.eff (fun u Γ' ⟨hu, hΓ⟩ => by subst hu hΓ; exact ⟨.inr ⟨Δ, p⟩, next⟩) hd

/-- The one that may come up. -/
theorem RunD.ef (i : Nat) {d op ty pos after} {K1 : Value → List SProp → Prop} (hr : Region.ready .any ops listed = [i]) (ho : ops[i]? = some ⟨some d, op, ty, pos, after, none⟩) (h : Eff P N E Γ ⟨some d, op, ty, pos, after, none⟩ K1)
    (next : ∀ v Γ', K1 v Γ' → (waits ops L i = true ∨ ∃ Δ, Picks ΓS Γ' Δ) ∧ RunD P N ops L ΓS fuel (listed.setIfInBounds i true) ((d, v) :: E) Γ' K) (hd : Nat.blt d N = true := by rfl) : RunD P N ops L ΓS (fuel + 1) listed E Γ K :=
  .all hr (by simp) fun j hj => by
    rw [List.mem_singleton] at hj; subst hj
    exact .ef ho h next hd
theorem RunD.ef0 (i : Nat) {op ty pos after} {K1 : Value → List SProp → Prop} (hr : Region.ready .any ops listed = [i]) (ho : ops[i]? = some ⟨none, op, ty, pos, after, none⟩) (h : Eff P N E Γ ⟨none, op, ty, pos, after, none⟩ K1)
    (next : ∀ v Γ', K1 v Γ' → (waits ops L i = true ∨ ∃ Δ, Picks ΓS Γ' Δ) ∧ RunD P N ops L ΓS fuel (listed.setIfInBounds i true) E Γ' K) : RunD P N ops L ΓS (fuel + 1) listed E Γ K :=
  .all hr (by simp) fun j hj => by
    rw [List.mem_singleton] at hj; subst hj
    exact .ef0 ho h next
theorem RunD.efG (i : Nat) {d op ty pos after} {g : Nat} {b : Bool} {t : Nat} {K1 : Value → List SProp → Prop} (hr : Region.ready .any ops listed = [i]) (ho : ops[i]? = some ⟨some d, op, ty, pos, after, some (g, b)⟩) (hg : gslot ops g = some t) (he : lk E t = some (.bool b))
    (h : Eff P N E Γ ⟨some d, op, ty, pos, after, some (g, b)⟩ K1)
    (next : ∀ v Γ', K1 v Γ' → (waits ops L i = true ∨ ∃ Δ, Picks ΓS Γ' Δ) ∧ RunD P N ops L ΓS fuel (listed.setIfInBounds i true) ((d, v) :: E) Γ' K) (hd : Nat.blt d N = true := by rfl) : RunD P N ops L ΓS (fuel + 1) listed E Γ K :=
  .all hr (by simp) fun j hj => by
    rw [List.mem_singleton] at hj; subst hj
    exact .efG ho hg he h next hd

/-- The one that may come up only reads. -/
theorem RunD.rs {Δ} (i : Nat) {d op ty pos after v} (hr : Region.ready .any ops listed = [i]) (ho : ops[i]? = some ⟨some d, op, ty, pos, after, none⟩) (h : Reads P N E Γ ⟨some d, op, ty, pos, after, none⟩ v)
    (w : waits ops L i = true ∨ Picks ΓS Γ Δ) (next : RunD P N ops L ΓS fuel (listed.setIfInBounds i true) ((d, v) :: E) Γ K) (hd : Nat.blt d N = true := by rfl) : RunD P N ops L ΓS (fuel + 1) listed E Γ K :=
  .ef i hr ho h.eff (fun u Γ' ⟨hu, hΓ⟩ => by subst hu hΓ; exact ⟨w.imp id fun p => ⟨Δ, p⟩, next⟩) hd

theorem RunD.split {t : Nat} {b : Bool} (he : lk E t = some (.bool b)) (hT : b = true → RunD P N ops L ΓS fuel listed ((t, .bool true) :: E) Γ K)
    (hF : b = false → RunD P N ops L ΓS fuel listed ((t, .bool false) :: E) Γ K) : RunD P N ops L ΓS fuel listed E Γ K := by
  intro A F w a Z hZ hf hs hz
  have hl : ∀ c, b = c → Fr N ((t, .bool c) :: E) a := fun c hc => hf.le (Le.cons (by rw [he, hc]) (Le.refl _))
  cases b with
  | true => exact hT rfl A F w a Z hZ (hl _ rfl) hs hz
  | false => exact hF rfl A F w a Z hZ (hl _ rfl) hs hz

theorem RunD.alter {t : Nat} {v v' : Value} (he : lk E t = some v) (hv : v = v') (next : RunD P N ops L ΓS fuel listed ((t, v') :: E) Γ K) : RunD P N ops L ΓS fuel listed E Γ K :=
  fun A F w a Z hZ hf hs hz => next A F w a Z hZ (hf.le (Le.cons (by rw [he, hv]) (Le.refl _))) hs hz

theorem RunD.perm {Γ' Δ : List SProp} (p : Picks Γ' Γ Δ) (next : RunD P N ops L ΓS fuel listed E Γ' K) : RunD P N ops L ΓS fuel listed E Γ K := by
  intro A F w a Z hZ hf hs hz
  refine next A F w a Z hZ hf ?_ hz
  obtain ⟨am, h, f, t⟩ := hs
  obtain ⟨h1, h2, ok, l1, l2, s1, s2⟩ := ((p.app F).sat t).split
  obtain ⟨_, k2, _, _, m2, _, s⟩ := s2.split
  exact ⟨am, h, f, sat.join ok l1 l2 s1 (s.mono m2)⟩

theorem RunD.open_ {X : SProp} {Γ' : List SProp} {σ : Type} {φ : σ → Prop} {B : σ → List SProp} (p : Pick X Γ Γ') (hX : ∀ h, X h → ∃ s, φ s ∧ sat (B s) h)
    (next : ∀ s, φ s → RunD P N ops L ΓS fuel listed E (B s ++ Γ') K) : RunD P N ops L ΓS fuel listed E Γ K := by
  intro A F w a Z hZ hf hs hz
  have h1 : Sat A w (X :: (Γ' ++ F)) := hs.map fun _ => (p.app F).sat
  obtain ⟨s, hφ, h2⟩ := Sat.open_ hX h1
  exact next s hφ A F w a Z hZ hf (by rwa [List.append_assoc]) hz

theorem RunD.close {X : SProp} {B Γ' : List SProp} (p : Picks B Γ Γ') (hX : ∀ h, sat B h → X h) (next : RunD P N ops L ΓS fuel listed E (X :: Γ') K) : RunD P N ops L ΓS fuel listed E Γ K :=
  fun A F w a Z hZ hf hs hz => next A F w a Z hZ hf (Sat.close hX (hs.swap_in p)) hz

theorem RunD.tell {φ : Prop} (k : Knows Γ fun _ => φ) (next : φ → RunD P N ops L ΓS fuel listed E Γ K) : RunD P N ops L ΓS fuel listed E Γ K :=
  fun A F w a Z hZ hf hs hz => next (k A w hs.left) A F w a Z hZ hf hs hz

/-- A region whose order is drawn. -/
theorem Run.draws {C : Cx} {k id} {Q : Value → List SProp → Prop} (L : List Nat) (ΓS : List SProp) (hm : C.P.follows .mixedOrders = true)
    (h : RunD C.P C.fn.ntmps ops L ΓS ops.size (Array.replicate ops.size false) E Γ fun E' Γ' => Run C k E' Γ' Q) : Run C (.code (.region id ops true) :: k) E Γ Q := by
  intro A F w a hf hs b cs hb hk
  have h1 := h A F { w with drawn := w.drawn + 1 } a (fun e a' w' => match e with | .normal => RunW C.P C.f k a' w' fun v w'' => ∃ Γ', Q v Γ' ∧ Sat A w'' (Γ' ++ F) | _ => False) (fun _ _ _ h => h) hf
    (hs.same rfl rfl) (fun E' Γ' w' a' hk' hf' hs' => hk' A F w' a' hf' hs')
  have h2 := wp_region_any (id := id) hm (wpAny_of_L _ _ _ _ (Closed.start _) h1)
  obtain ⟨e, a', w', q, arr⟩ := h2 b k cs
  cases e with
  | normal =>
    obtain ⟨v, w1, fr, r, s, x⟩ := q b cs hb hk
    exact ⟨v, w1, fr, r, arr.trans s, x⟩
  | _ => exact q.elim

end
end Go.Sp
