/- A separation logic over the given machine. Part 1: frames, code, calls. -/
import Derived.Test.YtahpokcigdjilaaL0
import Derived.Laws.Sem
namespace Go.Sp
open Go

/-! ### Frames -/

abbrev Env := List (Nat × Value)

def lk : Env → Nat → Option Value
  | [], _ => none
  | (s, v) :: E, t => bif Nat.beq t s then some v else lk E t

def ev (E : Env) : Operand → Option Value
  | .tmp t => lk E t
  | .const v => some v
  | .global g => some (.pointer (some ⟨g, 0, none⟩))
  | .func f => some (.func (.func f) #[] #[])

structure Fr (N : Nat) (E : Env) (a : Act) : Prop where
  defers : a.defers = []
  size : a.tmps.size = N
  look : ∀ t v, lk E t = some v → a.tmps[t]? = some v

theorem Fr.eval {N E a x v} (h : Fr N E a) (e : ev E x = some v) : a.eval x = v := by
  cases x with
  | tmp t => have := h.look t v e; simp [Act.eval, this]
  | const u => simpa [ev, Act.eval] using e
  | global g => simpa [ev, Act.eval] using e
  | func f => simpa [ev, Act.eval] using e

theorem Fr.put {N E a} {d : Nat} (h : Fr N E a) (hd : Nat.blt d N = true) (v : Value) : Fr N ((d, v) :: E) (a.put (some d) v) := by
  have hd' : d < a.tmps.size := by rw [h.size]; simpa [Nat.blt_eq] using hd
  refine ⟨h.defers, by simp [Act.put, h.size], fun t u e => ?_⟩
  by_cases ht : t = d
  · subst ht
    have : v = u := by simpa [lk] using e
    subst this
    simp [Act.put, hd']
  · have hb : Nat.beq t d = false := by
      cases hq : Nat.beq t d with
      | false => rfl
      | true => exact absurd (Nat.eq_of_beq_eq_true hq) ht
    have e' : lk E t = some u := by simpa [lk, hb] using e
    simp only [Act.put]
    rw [Array.getElem?_setIfInBounds_ne (Ne.symm ht)]
    exact h.look t u e'

theorem Fr.put_none {N E a v} (h : Fr N E a) : Fr N E (a.put none v) := h

/-- E' tells no more than E. -/
def Le (E' E : Env) : Prop := ∀ t v, lk E' t = some v → lk E t = some v
theorem Fr.le {N E E' a} (h : Fr N E a) (l : Le E' E) : Fr N E' a := ⟨h.defers, h.size, fun t v e => h.look t v (l t v e)⟩
theorem Le.nil {E} : Le [] E := fun _ _ e => by simp [lk] at e
theorem Le.refl (E : Env) : Le E E := fun _ _ e => e
theorem Le.trans {A B C : Env} (h : Le A B) (k : Le B C) : Le A C := fun t v e => k t v (h t v e)
theorem Le.cons {E E' : Env} {t : Nat} {v : Value} (h : lk E t = some v) (l : Le E' E) : Le ((t, v) :: E') E := fun s u e => by
  by_cases hs : s = t
  · subst hs
    have : v = u := by simpa [lk] using e
    subst this; exact h
  · have hb : Nat.beq s t = false := by
      cases hq : Nat.beq s t with
      | false => rfl
      | true => exact absurd (Nat.eq_of_beq_eq_true hq) hs
    exact l s u (by simpa [lk, hb] using e)

/-- The values of several operands. -/
def evs (E : Env) : List Operand → Option (List Value)
  | [] => some []
  | x :: xs => match ev E x with
    | some v => match evs E xs with
      | some vs => some (v :: vs)
      | none => none
    | none => none

theorem Fr.evals {N E a} (h : Fr N E a) : ∀ {xs vs}, evs E xs = some vs → xs.map a.eval = vs
  | [], vs, e => by simpa [evs] using e
  | x :: xs, vs, e => by
    simp only [evs] at e
    cases e1 : ev E x with
    | none => simp [e1] at e
    | some v =>
      cases e2 : evs E xs with
      | none => simp [e1, e2] at e
      | some us =>
        simp [e1, e2] at e
        subst e
        simp [h.eval e1, h.evals e2]

/-! ### One operation -/

/-- What an operation yields wherever the resources hold; it leaves memory alone. -/
def Reads (P : Program) (N : Nat) (E : Env) (Γ : List SProp) (o : Oper) (v : Value) : Prop :=
  ∀ A w a, Fr N E a → Sat A w Γ → (execOp a.eval o).run P w = .ok (.value v) w

/-- What an operation does. -/
def Eff (P : Program) (N : Nat) (E : Env) (Γ : List SProp) (o : Oper) (K : Value → List SProp → Prop) : Prop :=
  ∀ A F w a (nx : Act → World → Prop) Z, Fr N E a → Sat A w (Γ ++ F) →
    (∀ v Γ' w', K v Γ' → Sat A w' (Γ' ++ F) → nx (a.put o.dst v) w') → o.wp P a w nx Z

theorem Reads.eff {P N E Γ o v} (h : Reads P N E Γ o v) : Eff P N E Γ o fun u Γ' => u = v ∧ Γ' = Γ := by
  intro A F w a nx Z hf hs hn
  unfold Oper.wp
  rw [h A w a hf hs.left]
  exact hn v Γ w ⟨rfl, rfl⟩ hs

theorem Eff.mono {P N E Γ o} {K K' : Value → List SProp → Prop} (h : Eff P N E Γ o K) (hk : ∀ v Γ', K v Γ' → K' v Γ') : Eff P N E Γ o K' :=
  fun A F w a nx Z hf hs hn => h A F w a nx Z hf hs fun v Γ' w' k s => hn v Γ' w' (hk v Γ' k) s

/-! ### Regions -/

def wpL (P : Program) (ops : Array Oper) (Q : Exit → Act → World → Prop) : List Oper → Act → World → Prop
  | [], a, w => Q .normal a w
  | o :: rest, a, w => if Region.wanted o (yielded ops a.tmps) then o.wp P a w (wpL P ops Q rest) Q else wpL P ops Q rest (a.put o.dst undef) w

theorem wpOps_of_wpL {P ops Q} : ∀ (n i : Nat), i + n = ops.size → ∀ a w, wpL P ops Q (ops.toList.drop i) a w → wpOps P ops Q (List.range' i n) a w := by
  intro n
  induction n with
  | zero =>
    intro i h a w hw
    have : ops.toList.drop i = [] := by rw [List.drop_eq_nil_iff]; simp; omega
    rw [this] at hw
    exact hw
  | succ n ih =>
    intro i h a w hw
    have hi : i < ops.toList.length := by simp; omega
    rw [List.drop_eq_getElem_cons hi] at hw
    have hi' : i < ops.size := by omega
    have ho : ops[i]? = some ops[i] := Array.getElem?_eq_getElem hi'
    simp only [List.range'_succ, wpOps, ho]
    simp only [wpL] at hw
    have he : ops.toList[i] = ops[i] := rfl
    rw [he] at hw
    split at hw
    · rename_i hq
      simp only [hq, if_true]
      refine .inl (Oper.wp_mono (fun a w => ih (i + 1) (by omega) a w) hw)
    · rename_i hq
      simp only [hq]
      exact ih (i + 1) (by omega) _ _ hw

/-- Operations in the text's order: K holds behind them. -/
def RunO (P : Program) (N : Nat) (ops : Array Oper) (os : List Oper) (E : Env) (Γ : List SProp) (K : Env → List SProp → Prop) : Prop :=
  ∀ A F w a (Z : Exit → Act → World → Prop), Fr N E a → Sat A w (Γ ++ F) →
    (∀ E' Γ' w' a', K E' Γ' → Fr N E' a' → Sat A w' (Γ' ++ F) → Z .normal a' w') → wpL P ops Z os a w

section
variable {P : Program} {N : Nat} {ops : Array Oper} {os rest : List Oper} {E : Env} {Γ : List SProp} {K : Env → List SProp → Prop}

theorem RunO.nil (h : K E Γ) : RunO P N ops [] E Γ K := fun _ _ w a _ hf hs hz => hz E Γ w a h hf hs

theorem wanted_none {dst op ty pos after} {y : Nat → Option Bool} : Region.wanted ⟨dst, op, ty, pos, after, none⟩ y = true := rfl

/-- An operation that only reads. -/
theorem RunO.rd {d op ty pos after} {v : Value} (h : Reads P N E Γ ⟨some d, op, ty, pos, after, none⟩ v) (next : RunO P N ops rest ((d, v) :: E) Γ K)
    (hd : Nat.blt d N = true := by rfl) : RunO P N ops (⟨some d, op, ty, pos, after, none⟩ :: rest) E Γ K := by
  intro A F w a Z hf hs hz
  simp only [wpL, wanted_none, if_true]
  refine h.eff A F w a _ _ hf hs ?_
  rintro _ _ w' ⟨rfl, rfl⟩ hs'
  exact next A F w' _ Z (hf.put hd _) hs' hz

/-- An operation that acts, with a result. -/
theorem RunO.ef {d op ty pos after} {K1 : Value → List SProp → Prop} (h : Eff P N E Γ ⟨some d, op, ty, pos, after, none⟩ K1)
    (next : ∀ v Γ', K1 v Γ' → RunO P N ops rest ((d, v) :: E) Γ' K)
    (hd : Nat.blt d N = true := by rfl) : RunO P N ops (⟨some d, op, ty, pos, after, none⟩ :: rest) E Γ K := by
  intro A F w a Z hf hs hz
  simp only [wpL, wanted_none, if_true]
  refine h A F w a _ _ hf hs ?_
  intro v Γ' w' hk hs'
  exact next v Γ' hk A F w' _ Z (hf.put hd _) hs' hz

/-- An operation that acts, without a result. -/
theorem RunO.ef0 {op ty pos after} {K1 : Value → List SProp → Prop} (h : Eff P N E Γ ⟨none, op, ty, pos, after, none⟩ K1)
    (next : ∀ v Γ', K1 v Γ' → RunO P N ops rest E Γ' K) : RunO P N ops (⟨none, op, ty, pos, after, none⟩ :: rest) E Γ K := by
  intro A F w a Z hf hs hz
  simp only [wpL, wanted_none, if_true]
  refine h A F w a _ _ hf hs ?_
  intro v Γ' w' hk hs'
  exact next v Γ' hk A F w' _ Z hf hs' hz

/-- The slot of the operation that a guard names. -/
def gslot (ops : Array Oper) (g : Nat) : Option Nat := (ops[g]?).bind (·.dst)

theorem yielded_of {g t : Nat} {b : Bool} {a : Act} (hg : gslot ops g = some t) (hf : Fr N E a) (he : lk E t = some (.bool b)) : yielded ops a.tmps g = some b := by
  unfold gslot at hg
  simp [yielded, hg, hf.look t _ he]

/-- A guarded operation whose guard lets it. -/
theorem RunO.on {dst op ty pos after} {g : Nat} {b : Bool} {t : Nat} (hg : gslot ops g = some t) (he : lk E t = some (.bool b))
    (next : RunO P N ops (⟨dst, op, ty, pos, after, none⟩ :: rest) E Γ K) : RunO P N ops (⟨dst, op, ty, pos, after, some (g, b)⟩ :: rest) E Γ K := by
  intro A F w a Z hf hs hz
  have hy := yielded_of hg hf he
  have hw : Region.wanted ⟨dst, op, ty, pos, after, some (g, b)⟩ (yielded ops a.tmps) = true := by simp [Region.wanted, hy]
  have := next A F w a Z hf hs hz
  simp only [wpL, wanted_none, if_true] at this
  simp only [wpL, hw, if_true]
  exact this

/-- A guarded operation whose guard does not let it. -/
theorem RunO.off {dst op ty pos after} {g : Nat} {b c : Bool} {t : Nat} (hg : gslot ops g = some t) (he : lk E t = some (.bool c)) (hne : (c == b) = false)
    (next : RunO P N ops rest E Γ K) (hd : ∀ d, dst = some d → lk E d = none := by intro d h; cases h; rfl) : RunO P N ops (⟨dst, op, ty, pos, after, some (g, b)⟩ :: rest) E Γ K := by
  intro A F w a Z hf hs hz
  have hy := yielded_of hg hf he
  have hw : Region.wanted ⟨dst, op, ty, pos, after, some (g, b)⟩ (yielded ops a.tmps) = false := by
    simp [Region.wanted, hy]; intro e; subst e; simp at hne
  simp only [wpL, hw, Bool.false_eq_true, if_false]
  refine next A F w _ Z ?_ hs hz
  cases dst with
  | none => exact hf
  | some d =>
    have hn := hd d rfl
    refine ⟨hf.defers, by simp [Act.put, hf.size], fun s v e => ?_⟩
    have hsd : s ≠ d := fun e' => by subst e'; rw [hn] at e; cases e
    simp only [Act.put]
    rw [Array.getElem?_setIfInBounds_ne (Ne.symm hsd)]
    exact hf.look s v e

/-- A truth value in a slot, either way. -/
theorem RunO.split {t : Nat} {b : Bool} (he : lk E t = some (.bool b)) (hT : b = true → RunO P N ops os ((t, .bool true) :: E) Γ K)
    (hF : b = false → RunO P N ops os ((t, .bool false) :: E) Γ K) : RunO P N ops os E Γ K := by
  intro A F w a Z hf hs hz
  have hl : ∀ c, b = c → Fr N ((t, .bool c) :: E) a := fun c hc => hf.le (Le.cons (by rw [he, hc]) (Le.refl _))
  cases b with
  | true => exact hT rfl A F w a Z (hl _ rfl) hs hz
  | false => exact hF rfl A F w a Z (hl _ rfl) hs hz

/-- The value of a slot, said otherwise. -/
theorem RunO.alter {t : Nat} {v v' : Value} (he : lk E t = some v) (hv : v = v') (next : RunO P N ops os ((t, v') :: E) Γ K) : RunO P N ops os E Γ K :=
  fun A F w a Z hf hs hz => next A F w a Z (hf.le (Le.cons (by rw [he, hv]) (Le.refl _))) hs hz

theorem RunO.weak {E' : Env} (l : Le E' E) (next : RunO P N ops os E' Γ K) : RunO P N ops os E Γ K :=
  fun A F w a Z hf hs hz => next A F w a Z (hf.le l) hs hz

theorem wpL_append {Q : Exit → Act → World → Prop} : ∀ {os1 os2 : List Oper} {a w} {Q1 : Exit → Act → World → Prop}, wpL P ops Q1 os1 a w →
    (∀ a w, Q1 .normal a w → wpL P ops Q os2 a w) → (∀ e a w, e ≠ .normal → Q1 e a w → Q e a w) → wpL P ops Q (os1 ++ os2) a w := by
  intro os1
  induction os1 with
  | nil => intro os2 a w Q1 h h1 _; exact h1 a w h
  | cons o os1 ih =>
    intro os2 a w Q1 h h1 h2
    simp only [List.cons_append, wpL] at h ⊢
    split at h
    · rename_i hq
      simp only [hq, if_true]
      unfold Oper.wp at *
      generalize (execOp a.eval o).run P w = r at *
      cases r with
      | ok n w' =>
        cases n <;> simp only [Oper.upon] at h ⊢
        · exact ih h h1 h2
        · exact ih h h1 h2
        · refine Calls.mono h ?_
          intro e w'' he
          cases e with
          | returned v => exact ih he h1 h2
          | panicked c => exact h2 _ _ _ (by simp) he
          | outgrown => obtain ⟨a0, w0, q⟩ := he; exact ⟨a0, w0, h2 _ _ _ (by simp) q⟩
        · exact ih h h1 h2
        · exact Rows.mono h fun v w'' he => ih he h1 h2
      | halt x w' => cases x <;> simp only [Oper.upon] at h ⊢ <;> exact h2 _ _ _ (by simp) h
    · rename_i hq
      simp only [hq]
      exact ih h h1 h2

/-- The first n operations by themselves. -/
theorem RunO.cut (n : Nat) {K1 : Env → List SProp → Prop} (h1 : RunO P N ops (os.take n) E Γ K1) (h2 : ∀ E' Γ', K1 E' Γ' → RunO P N ops (os.drop n) E' Γ' K) :
    RunO P N ops os E Γ K := by
  intro A F w a Z hf hs hz
  have := h1 A F w a (fun e a' w' => match e with | .normal => wpL P ops Z (os.drop n) a' w' | _ => False) hf hs
    (fun E' Γ' w' a' hk hf' hs' => h2 E' Γ' hk A F w' a' Z hf' hs' hz)
  have h3 := wpL_append (os2 := os.drop n) (Q := Z) this (fun _ _ h => h) (fun e a w hne h => by cases e <;> first | exact absurd rfl hne | exact h.elim)
  rwa [List.take_append_drop] at h3

/-- The first n operations come to one truth value in one slot (whatever they leave in others). -/
theorem RunO.join (n : Nat) (t : Nat) (b : Bool) (h1 : RunO P N ops (os.take n) E Γ fun E' Γ' => Γ' = Γ ∧ lk E' t = some (.bool b) ∧ Le E E')
    (h2 : RunO P N ops (os.drop n) ((t, .bool b) :: E) Γ K) : RunO P N ops os E Γ K :=
  RunO.cut n h1 fun _ _ ⟨hΓ, ht, hl⟩ => by subst hΓ; exact h2.weak (Le.cons ht hl)

/-- Resources that nobody needs any more, or in another order. -/
theorem RunO.perm {Γ' : List SProp} {Δ : List SProp} (p : Picks Γ' Γ Δ) (next : RunO P N ops os E Γ' K) : RunO P N ops os E Γ K := by
  intro A F w a Z hf hs hz
  refine next A F w a Z hf ?_ hz
  obtain ⟨am, h, f, t⟩ := hs
  have t' := (p.app F).sat t
  obtain ⟨h1, h2, ok, l1, l2, s1, s2⟩ := t'.split
  have s3 : sat F h2 := by
    obtain ⟨_, k2, _, _, m2, _, s⟩ := s2.split
    exact s.mono m2
  exact ⟨am, h, f, sat.join ok l1 l2 s1 s3⟩

theorem Sat.swap_in {A w} {Γ Γ' Δ F : List SProp} (p : Picks Δ Γ Γ') (s : Sat A w (Γ ++ F)) : Sat A w (Δ ++ (Γ' ++ F)) := s.map fun _ => (p.app F).sat

/-- A resource is laid open. -/
theorem RunO.open_ {X : SProp} {Γ' : List SProp} {σ : Type} {φ : σ → Prop} {B : σ → List SProp} (p : Pick X Γ Γ') (hX : ∀ h, X h → ∃ s, φ s ∧ sat (B s) h)
    (next : ∀ s, φ s → RunO P N ops os E (B s ++ Γ') K) : RunO P N ops os E Γ K := by
  intro A F w a Z hf hs hz
  have h1 : Sat A w (X :: (Γ' ++ F)) := hs.map fun _ => (p.app F).sat
  obtain ⟨s, hφ, h2⟩ := Sat.open_ hX h1
  exact next s hφ A F w a Z hf (by rwa [List.append_assoc]) hz

theorem RunO.close {X : SProp} {B Γ' : List SProp} (p : Picks B Γ Γ') (hX : ∀ h, sat B h → X h) (next : RunO P N ops os E (X :: Γ') K) : RunO P N ops os E Γ K := by
  intro A F w a Z hf hs hz
  have h1 := hs.swap_in p
  exact next A F w a Z hf (Sat.close hX h1) hz

/-- What the resources tell of memory. -/
theorem RunO.tell {φ : Prop} (k : Knows Γ fun _ => φ) (next : φ → RunO P N ops os E Γ K) : RunO P N ops os E Γ K :=
  fun A F w a Z hf hs hz => next (k A w hs.left) A F w a Z hf hs hz

theorem RunO.share {b o} {Γ' : List SProp} (p : Pick (own b o) Γ Γ') (next : RunO P N ops os E (ro b o :: Γ') K) : RunO P N ops os E Γ K :=
  fun A F w a Z hf hs hz => next A F w a Z hf (Sat.share (hs.map fun _ => (p.app F).sat)) hz

end

/-! ### Control -/

/-- From here the call returns. -/
def RunW (P : Program) (f : FuncId) (k : List Item) (a : Act) (w : World) (R : Value → World → Prop) : Prop :=
  ∀ (b : Frame) (cs : List Frame), b.fn = f → b.kind = .normal → ∃ v w' fr, R v w' ∧ Steps P (lone (b.at a k) cs w) (lone fr cs w') ∧ fr.fn = f ∧ fr.leaving P w' (.returned v)

theorem RunW.step {P f k k' a a' w w' R} (h : ∀ (b : Frame) cs, step P (lone (b.at a k) cs w) = .next (lone (b.at a' k') cs w')) (n : RunW P f k' a' w' R) : RunW P f k a w R := by
  intro b cs hb hk
  obtain ⟨v, w1, fr, r, s, x⟩ := n b cs hb hk
  exact ⟨v, w1, fr, r, .head (h b cs) s, x⟩

structure Cx where
  P : Program
  f : FuncId
  fn : Func

/-- The code that is left, from a frame and resources, returns as Q says. -/
def Run (C : Cx) (k : List Item) (E : Env) (Γ : List SProp) (Q : Value → List SProp → Prop) : Prop :=
  ∀ A F w a, Fr C.fn.ntmps E a → Sat A w (Γ ++ F) → RunW C.P C.f k a w fun v w' => ∃ Γ', Q v Γ' ∧ Sat A w' (Γ' ++ F)

section
variable {C : Cx} {k : List Item} {E : Env} {Γ : List SProp} {Q : Value → List SProp → Prop}

theorem Run.weak {E' : Env} (l : Le E' E) (n : Run C k E' Γ Q) : Run C k E Γ Q := fun A F w a hf hs => n A F w a (hf.le l) hs

theorem Run.perm {Γ' Δ : List SProp} (p : Picks Γ' Γ Δ) (n : Run C k E Γ' Q) : Run C k E Γ Q := by
  intro A F w a hf hs
  refine n A F w a hf ?_
  obtain ⟨am, h, f, t⟩ := hs
  obtain ⟨h1, h2, ok, l1, l2, s1, s2⟩ := ((p.app F).sat t).split
  obtain ⟨_, k2, _, _, m2, _, s⟩ := s2.split
  exact ⟨am, h, f, sat.join ok l1 l2 s1 (s.mono m2)⟩

theorem Run.to {E' : Env} {Γ' Δ : List SProp} (l : Le E' E) (p : Picks Γ' Γ Δ) (n : Run C k E' Γ' Q) : Run C k E Γ Q := (n.perm p).weak l

theorem Run.open_ {X : SProp} {Γ' : List SProp} {σ : Type} {φ : σ → Prop} {B : σ → List SProp} (p : Pick X Γ Γ') (hX : ∀ h, X h → ∃ s, φ s ∧ sat (B s) h)
    (next : ∀ s, φ s → Run C k E (B s ++ Γ') Q) : Run C k E Γ Q := by
  intro A F w a hf hs
  have h1 : Sat A w (X :: (Γ' ++ F)) := hs.map fun _ => (p.app F).sat
  obtain ⟨s, hφ, h2⟩ := Sat.open_ hX h1
  exact next s hφ A F w a hf (by rwa [List.append_assoc])

theorem Run.close {X : SProp} {B Γ' : List SProp} (p : Picks B Γ Γ') (hX : ∀ h, sat B h → X h) (next : Run C k E (X :: Γ') Q) : Run C k E Γ Q :=
  fun A F w a hf hs => next A F w a hf (Sat.close hX (hs.swap_in p))

theorem Run.tell {φ : Prop} (h : Knows Γ fun _ => φ) (next : φ → Run C k E Γ Q) : Run C k E Γ Q :=
  fun A F w a hf hs => next (h A w hs.left) A F w a hf hs

theorem Run.share {b o} {Γ' : List SProp} (p : Pick (own b o) Γ Γ') (next : Run C k E (ro b o :: Γ') Q) : Run C k E Γ Q :=
  fun A F w a hf hs => next A F w a hf (Sat.share (hs.map fun _ => (p.app F).sat))

theorem Run.alter {t : Nat} {v v' : Value} (he : lk E t = some v) (hv : v = v') (next : Run C k ((t, v') :: E) Γ Q) : Run C k E Γ Q :=
  next.weak (Le.cons (by rw [he, hv]) (Le.refl _))

theorem Run.mono {Q' : Value → List SProp → Prop} (h : Run C k E Γ Q') (hq : ∀ v Γ', Q' v Γ' → Q v Γ') : Run C k E Γ Q := by
  intro A F w a hf hs b cs hb hk
  obtain ⟨v, w1, fr, ⟨Γ', q, s⟩, x⟩ := h A F w a hf hs b cs hb hk
  exact ⟨v, w1, fr, ⟨Γ', hq _ _ q, s⟩, x⟩

theorem Run.skip (n : Run C k E Γ Q) : Run C (.code .skip :: k) E Γ Q := fun A F w a hf hs => .step (fun _ _ => step_skip) (n A F w a hf hs)
theorem Run.inBlock {id} (n : Run C k E Γ Q) : Run C (.inBlock id :: k) E Γ Q := fun A F w a hf hs => .step (fun _ _ => step_inBlock) (n A F w a hf hs)
theorem Run.seq {x y} (n : Run C (.code x :: .code y :: k) E Γ Q) : Run C (.code (.seq x y) :: k) E Γ Q := fun A F w a hf hs => .step (fun _ _ => step_seq) (n A F w a hf hs)
theorem Run.block {id c} (n : Run C (.code c :: .inBlock id :: k) E Γ Q) : Run C (.code (.block id c) :: k) E Γ Q := fun A F w a hf hs => .step (fun _ _ => step_block) (n A F w a hf hs)
theorem Run.exit {id k'} (h : exitTo id k = some k') (n : Run C k' E Γ Q) : Run C (.code (.exit id) :: k) E Γ Q := fun A F w a hf hs => .step (fun _ _ => step_exit h) (n A F w a hf hs)
theorem Run.inLoop {c} (n : Run C (.code c :: .inLoop c :: k) E Γ Q) : Run C (.inLoop c :: k) E Γ Q := fun A F w a hf hs => .step (fun _ _ => step_inLoop) (n A F w a hf hs)
theorem Run.loop0 {c} (n : Run C (.code c :: .inLoop c :: k) E Γ Q) : Run C (.code (.loop c) :: k) E Γ Q := fun A F w a hf hs => .step (fun _ _ => step_loop) (n A F w a hf hs)

theorem Run.cond {c x y} {b : Bool} (h : ev E c = some (.bool b)) (hT : b = true → Run C (.code x :: k) E Γ Q) (hF : b = false → Run C (.code y :: k) E Γ Q) :
    Run C (.code (.cond c x y) :: k) E Γ Q := by
  intro A F w a hf hs
  refine .step (fun _ _ => step_cond (hf.eval h)) ?_
  cases b with
  | true => exact hT rfl A F w a hf hs
  | false => exact hF rfl A F w a hf hs

theorem Run.condP {c x y} {p : Prop} [Decidable p] (h : ev E c = some (.bool (decide p))) (hT : p → Run C (.code x :: k) E Γ Q) (hF : ¬ p → Run C (.code y :: k) E Γ Q) :
    Run C (.code (.cond c x y) :: k) E Γ Q := .cond h (fun e => hT (of_decide_eq_true e)) (fun e => hF (of_decide_eq_false e))

theorem Run.condN {c x y} {p : Prop} [Decidable p] (h : ev E c = some (.bool (!decide p))) (hT : ¬ p → Run C (.code x :: k) E Γ Q) (hF : p → Run C (.code y :: k) E Γ Q) :
    Run C (.code (.cond c x y) :: k) E Γ Q := .cond h (fun e => hT (by simpa using e)) (fun e => hF (by simpa using e))

theorem Run.condT {c x y} (h : ev E c = some (.bool true)) (n : Run C (.code x :: k) E Γ Q) : Run C (.code (.cond c x y) :: k) E Γ Q := .cond h (fun _ => n) (fun e => by cases e)
theorem Run.condF {c x y} (h : ev E c = some (.bool false)) (n : Run C (.code y :: k) E Γ Q) : Run C (.code (.cond c x y) :: k) E Γ Q := .cond h (fun e => by cases e) (fun _ => n)

/-- A loop: by induction on a number of one's own. -/
theorem Run.loop {c} {σ : Type} (I : σ → Prop) (μ : σ → Nat) (e : σ → Env) (g : σ → List SProp) (s0 : σ) (h0 : I s0) {Δ : List SProp} (hE : Le (e s0) E) (hΓ : Picks (g s0) Γ Δ)
    (body : ∀ s, I s → (∀ s', I s' → μ s' < μ s → Run C (.inLoop c :: k) (e s') (g s') Q) → Run C (.code c :: .inLoop c :: k) (e s) (g s) Q) :
    Run C (.code (.loop c) :: k) E Γ Q := by
  have key : ∀ n s, μ s = n → I s → Run C (.code c :: .inLoop c :: k) (e s) (g s) Q := by
    intro n
    induction n using Nat.strongRecOn with
    | _ n ih =>
      intro s hs hI
      exact body s hI fun s' hI' hlt => .inLoop (ih (μ s') (hs ▸ hlt) s' rfl hI')
  exact (Run.loop0 (key _ s0 rfl h0)).to hE hΓ

/-- A region in the text's order. -/
theorem Run.region {id ops} (h : RunO C.P C.fn.ntmps ops ops.toList E Γ fun E' Γ' => Run C k E' Γ' Q) : Run C (.code (.region id ops false) :: k) E Γ Q := by
  intro A F w a hf hs b cs hb hk
  have h1 := h A F w a (fun e a' w' => match e with | .normal => RunW C.P C.f k a' w' fun v w'' => ∃ Γ', Q v Γ' ∧ Sat A w'' (Γ' ++ F) | _ => False) hf hs
    (fun E' Γ' w' a' hk' hf' hs' => hk' A F w' a' hf' hs')
  have h2 : (Code.region id ops false).wp C.P (fun e a' w' => match e with | .normal => RunW C.P C.f k a' w' fun v w'' => ∃ Γ', Q v Γ' ∧ Sat A w'' (Γ' ++ F) | _ => False) a w := by
    refine wp_region ?_
    have := wpOps_of_wpL (P := C.P) (ops := ops) ops.size 0 (by omega) a w (by simpa using h1)
    rwa [← List.range_eq_range'] at this
  obtain ⟨e, a', w', q, arr⟩ := h2 b k cs
  cases e with
  | normal =>
    obtain ⟨v, w1, fr, r, s, x⟩ := q b cs hb hk
    exact ⟨v, w1, fr, r, arr.trans s, x⟩
  | _ => exact q.elim

end

/-! ### Calls -/

def Able (P : Program) (f : FuncId) : Prop := ∃ fn : Func, P.funcs[f]? = some fn ∧ (fn.name == "runtime.NumGoroutine") = false ∧ fn.body.isNone = false

/-- The call returns as Q says, from these resources (and whatever else there is stays). -/
structure Ret (P : Program) (f : FuncId) (args : List Value) (Γ : List SProp) (Q : Value → List SProp → Prop) : Prop where
  able : Able P f
  runs : ∀ A F w, Sat A w (Γ ++ F) → Calls P f args.toArray w fun e w' => ∃ v Γ', e = .returned v ∧ Q v Γ' ∧ Sat A w' (Γ' ++ F)

theorem Ret.mono {P f args Γ} {Q Q' : Value → List SProp → Prop} (h : Ret P f args Γ Q) (hq : ∀ v Γ', Q v Γ' → Q' v Γ') : Ret P f args Γ Q' :=
  ⟨h.able, fun A F w s => (h.runs A F w s).mono fun _ _ ⟨v, Γ', e, q, s'⟩ => ⟨v, Γ', e, hq _ _ q, s'⟩⟩

/-- With resources beside. -/
theorem Ret.frame {P f args Γ} {Q : Value → List SProp → Prop} (h : Ret P f args Γ Q) (G : List SProp) : Ret P f args (Γ ++ G) fun v Γ' => ∃ Γ1, Q v Γ1 ∧ Γ' = Γ1 ++ G :=
  ⟨h.able, fun A F w s => (h.runs A (G ++ F) w (by rwa [← List.append_assoc])).mono fun _ _ ⟨v, Γ', e, q, s'⟩ => ⟨v, Γ' ++ G, e, ⟨Γ', q, rfl⟩, by rwa [List.append_assoc]⟩⟩

/-- The slots of a call's arguments. -/
def argEnv : Nat → List Value → Env
  | _, [] => []
  | n, v :: vs => (n, v) :: argEnv (n + 1) vs

theorem lk_argEnv : ∀ (vs : List Value) (n t : Nat) (v : Value), lk (argEnv n vs) t = some v → n ≤ t ∧ vs[t - n]? = some v
  | [], _, _, _, e => by simp [argEnv, lk] at e
  | u :: vs, n, t, v, e => by
    simp only [argEnv, lk] at e
    cases hb : Nat.beq t n with
    | true =>
      have := Nat.eq_of_beq_eq_true hb
      subst this
      simpa [hb] using e
    | false =>
      have hne : t ≠ n := fun e' => by subst e'; simp at hb
      obtain ⟨h1, h2⟩ := lk_argEnv vs (n + 1) t v (by simpa [hb] using e)
      refine ⟨by omega, ?_⟩
      have : t - n = (t - (n + 1)) + 1 := by omega
      rw [this]; simpa using h2

theorem Ret.enter {P : Program} {f : FuncId} {fn : Func} {c : Code} {args : List Value} {Γ : List SProp} {Q : Value → List SProp → Prop} (hf : P.funcs[f]? = some fn) (hb : fn.body = some c)
    (hn : (fn.name == "runtime.NumGoroutine") = false) (hl : Nat.ble args.length fn.ntmps = true) (h : Run ⟨P, f, fn⟩ [.code c] (argEnv 0 args) Γ Q) : Ret P f args Γ Q := by
  refine ⟨⟨fn, hf, hn, by simp [hb]⟩, fun A F w s => ?_⟩
  intro cs
  let b : Frame := { (default : Frame) with fn := f, kind := .normal }
  have henter : Frame.enter P f args.toArray .normal = b.at { tmps := args.toArray ++ Array.replicate (fn.ntmps - args.toArray.size) undef, defers := [] } [.code c] := by
    simp [Frame.enter, Frame.at, hf, hb, b]
  have hle : args.length ≤ fn.ntmps := Nat.le_of_ble_eq_true hl
  have hfr : Fr fn.ntmps (argEnv 0 args) { tmps := args.toArray ++ Array.replicate (fn.ntmps - args.toArray.size) undef, defers := [] } := by
    refine ⟨rfl, by simp; omega, fun t v e => ?_⟩
    obtain ⟨_, h2⟩ := lk_argEnv args 0 t v e
    have hlt : t < args.length := (List.getElem?_eq_some_iff.1 h2).1
    rw [Array.getElem?_append_left (by simpa using hlt)]
    simpa using h2
  obtain ⟨v, w', fr, ⟨Γ', q, s'⟩, hst, hfn, hle'⟩ := h A F w _ hfr s b cs rfl rfl
  rw [henter]
  exact ⟨.returned v, w', fr, ⟨v, Γ', rfl, q, s'⟩, hst, hfn, hle'⟩

/-- The results of a function: slots. -/
def resOf (E : Env) : List ResultVar → Option (List Value)
  | [] => some []
  | .tmp t :: rs => match lk E t with
    | some v => match resOf E rs with
      | some vs => some (v :: vs)
      | none => none
    | none => none
  | _ => none

def resVal : List Value → Value
  | [v] => v
  | vs => .tuple vs.toArray

theorem results_of {P fn E a w} {N : Nat} (hf : Fr N E a) {vs : List Value} (h : resOf E fn.results.toList = some vs) : (results fn a.tmps).run P w = .ok (resVal vs) w := by
  have key : ∀ (rs : List ResultVar) vs, resOf E rs = some vs →
      (rs.mapM (m := Sem) fun | .tmp t => (Pure.pure (a.tmps.getD t undef) : Sem Value) | .cell x t => do loadVar t (← asAddr (a.tmps.getD x undef))) = Sem.pure vs := by
    intro rs
    induction rs with
    | nil => intro vs e; simp [resOf] at e; subst e; rfl
    | cons r rs ih =>
      intro vs e
      cases r with
      | cell x t => simp [resOf] at e
      | tmp t =>
        simp only [resOf] at e
        cases e1 : lk E t with
        | none => simp [e1] at e
        | some v =>
          cases e2 : resOf E rs with
          | none => simp [e1, e2] at e
          | some us =>
            simp [e1, e2] at e
            subst e
            have h1 := hf.look t v e1
            rw [List.mapM_cons, ih us e2]
            have : a.tmps.getD t undef = v := by simp [h1]
            simp only [this]; rfl
  have h2 := key fn.results.toList vs h
  have h3 : fn.results = fn.results.toList.toArray := rfl
  unfold results
  rw [h3, List.mapM_toArray]
  erw [h2]
  match vs with
  | [] => rfl
  | [v] => rfl
  | u :: v :: vs => simp only [resVal]; rfl

theorem Run.ret {C : Cx} {k : List Item} {E : Env} {Γ : List SProp} {Q : Value → List SProp → Prop} {vs : List Value} (hfn : C.P.funcs[C.f]? = some C.fn)
    (h : resOf E C.fn.results.toList = some vs) (q : Q (resVal vs) Γ) : Run C (.code .ret :: k) E Γ Q := by
  intro A F w a hf hs b cs hb hk
  refine ⟨resVal vs, w, { b.at a (.code .ret :: k) with mode := .returning }, ⟨Γ, q, hs⟩, .one step_ret, hb, rfl, hf.defers, hk, C.fn, ?_, results_of hf h⟩
  show C.P.funcs[b.fn]? = _
  rw [hb]; exact hfn

theorem Run.end_ {C : Cx} {E : Env} {Γ : List SProp} {Q : Value → List SProp → Prop} {vs : List Value} (hfn : C.P.funcs[C.f]? = some C.fn)
    (h : resOf E C.fn.results.toList = some vs) (q : Q (resVal vs) Γ) : Run C [] E Γ Q := by
  intro A F w a hf hs b cs hb hk
  refine ⟨resVal vs, w, { b.at a [] with mode := .returning }, ⟨Γ, q, hs⟩, .one step_end, hb, rfl, hf.defers, hk, C.fn, ?_, results_of hf h⟩
  show C.P.funcs[b.fn]? = _
  rw [hb]; exact hfn

end Go.Sp
