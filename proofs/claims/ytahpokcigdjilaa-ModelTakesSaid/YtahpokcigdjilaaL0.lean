/- A separation logic over the given machine: resources as lists of assertions, code judged under a symbolic frame. Part 0: worlds and resources. -/
import Derived.Orders
import Derived.OrdersHeld
import Derived.Calls
import Derived.Laws.World
import Derived.KernelRfl
namespace Go.Sp
open Go

/-! ### Resources -/

/-- What a part of memory holds: whole blocks, each owned (false) or shared for reading (true). -/
abbrev Hp := Nat → Option (Bool × Obj)

def Hp.ok (h k : Hp) : Prop := ∀ b, h b = none ∨ k b = none ∨ (h b = k b ∧ ∃ o, h b = some (true, o))
def Hp.le (h k : Hp) : Prop := ∀ b x, h b = some x → k b = some x
def Hp.un (h k : Hp) : Hp := fun b => (h b).or (k b)

theorem Hp.ok.symm {h k : Hp} (H : Hp.ok h k) : Hp.ok k h := fun b => by
  rcases H b with h1 | h1 | ⟨h1, o, h2⟩
  · exact .inr (.inl h1)
  · exact .inl h1
  · exact .inr (.inr ⟨h1.symm, o, h1 ▸ h2⟩)

theorem Hp.ok.mono {h k h' k' : Hp} (H : Hp.ok h k) (hh : Hp.le h' h) (hk : Hp.le k' k) : Hp.ok h' k' := fun b => by
  cases e1 : h' b with
  | none => exact .inl rfl
  | some x =>
    cases e2 : k' b with
    | none => exact .inr (.inl rfl)
    | some y =>
      have a1 := hh b x e1
      have a2 := hk b y e2
      rcases H b with h1 | h1 | ⟨h1, o, h2⟩
      · rw [a1] at h1; cases h1
      · rw [a2] at h1; cases h1
      · rw [a1, a2] at h1
        rw [a1] at h2
        exact .inr (.inr ⟨h1, o, h2⟩)

theorem Hp.le.refl (h : Hp) : Hp.le h h := fun _ _ e => e
theorem Hp.le.trans {a b c : Hp} (h : Hp.le a b) (k : Hp.le b c) : Hp.le a c := fun x y e => k x y (h x y e)
theorem Hp.le_un_left (h k : Hp) : Hp.le h (Hp.un h k) := fun b x e => by simp [Hp.un, e]
theorem Hp.le_un_right {h k : Hp} (H : Hp.ok h k) : Hp.le k (Hp.un h k) := fun b x e => by
  rcases H b with h1 | h1 | ⟨h1, o, h2⟩
  · simp [Hp.un, h1, e]
  · rw [e] at h1; cases h1
  · have : h b = some x := h1.trans e
    simp [Hp.un, this]
theorem Hp.un_le {h k l : Hp} (a : Hp.le h l) (b : Hp.le k l) : Hp.le (Hp.un h k) l := fun c x e => by
  cases e1 : h c with
  | none => simp [Hp.un, e1] at e; exact b c x e
  | some y => simp [Hp.un, e1] at e; subst e; exact a c y e1
theorem Hp.ok_un {h k l : Hp} (a : Hp.ok h k) (b : Hp.ok h l) : Hp.ok h (Hp.un k l) := fun c => by
  cases e : k c with
  | none =>
    rcases b c with h1 | h1 | ⟨h1, o, h2⟩
    · exact .inl h1
    · exact .inr (.inl (by simp [Hp.un, e, h1]))
    · exact .inr (.inr ⟨by simp [Hp.un, e, h1], o, h2⟩)
  | some y =>
    rcases a c with h1 | h1 | ⟨h1, o, h2⟩
    · exact .inl h1
    · rw [e] at h1; cases h1
    · exact .inr (.inr ⟨by simp [Hp.un, e, h1], o, h2⟩)

abbrev SProp := Hp → Prop

/-- All of a list, each in a part of its own (what is left over is dropped). -/
def sat : List SProp → Hp → Prop
  | [], _ => True
  | A :: Γ, h => ∃ h1 h2, Hp.ok h1 h2 ∧ Hp.le h1 h ∧ Hp.le h2 h ∧ A h1 ∧ sat Γ h2

theorem sat.mono {h k : Hp} (H : Hp.le h k) : ∀ {Γ}, sat Γ h → sat Γ k
  | [], _ => trivial
  | _ :: _, ⟨h1, h2, a, b, c, d, e⟩ => ⟨h1, h2, a, b.trans H, c.trans H, d, e⟩

theorem sat.swap {A B : SProp} {Γ} {h : Hp} : sat (A :: B :: Γ) h → sat (B :: A :: Γ) h := by
  rintro ⟨h1, h2, ok12, l1, l2, hA, k1, k2, okk, m1, m2, hB, hΓ⟩
  refine ⟨k1, Hp.un h1 k2, ?_, m1.trans l2, Hp.un_le l1 (m2.trans l2), hB, h1, k2, ?_, Hp.le_un_left _ _, Hp.le_un_right (ok12.mono (.refl _) m2), hA, hΓ⟩
  · exact Hp.ok_un ((ok12.mono (.refl _) m1).symm) okk
  · exact ok12.mono (.refl _) m2

theorem sat.cons {A : SProp} {Γ Γ'} {h : Hp} (H : ∀ h, sat Γ h → sat Γ' h) : sat (A :: Γ) h → sat (A :: Γ') h :=
  fun ⟨h1, h2, a, b, c, d, e⟩ => ⟨h1, h2, a, b, c, d, H _ e⟩

theorem sat.join {Γ Δ : List SProp} : ∀ {h1 h2 h : Hp}, Hp.ok h1 h2 → Hp.le h1 h → Hp.le h2 h → sat Γ h1 → sat Δ h2 → sat (Γ ++ Δ) h := by
  induction Γ with
  | nil => intro h1 h2 h _ _ l2 _ s; exact s.mono l2
  | cons A Γ ih =>
    rintro h1 h2 h ok l1 l2 ⟨k1, k2, okk, m1, m2, hA, hΓ⟩ s
    refine ⟨k1, Hp.un k2 h2, Hp.ok_un okk (ok.mono m1 (.refl _)), m1.trans l1, Hp.un_le (m2.trans l1) l2, hA, ?_⟩
    exact ih (ok.mono m2 (.refl _)) (Hp.le_un_left _ _) (Hp.le_un_right (ok.mono m2 (.refl _))) hΓ s

theorem sat.split {Γ Δ : List SProp} : ∀ {h : Hp}, sat (Γ ++ Δ) h → ∃ h1 h2, Hp.ok h1 h2 ∧ Hp.le h1 h ∧ Hp.le h2 h ∧ sat Γ h1 ∧ sat Δ h2 := by
  induction Γ with
  | nil => intro h s; exact ⟨fun _ => none, h, fun _ => .inl rfl, fun _ _ e => by simp at e, .refl _, trivial, s⟩
  | cons A Γ ih =>
    rintro h ⟨k1, k2, ok, l1, l2, hA, s⟩
    obtain ⟨m1, m2, okm, n1, n2, s1, s2⟩ := ih s
    refine ⟨Hp.un k1 m1, m2, ?_, Hp.un_le l1 (n1.trans l2), n2.trans l2, ⟨k1, m1, ok.mono (.refl _) n1, Hp.le_un_left _ _, Hp.le_un_right (ok.mono (.refl _) n1), hA, s1⟩, s2⟩
    exact (Hp.ok_un ((ok.mono (.refl _) n2).symm) okm.symm).symm

/-! ### Worlds -/

/-- What of a world no code of ours turns. -/
structure Amb where
  os : Os
  tape : Nat → Question → Nat
  output : Array (Nat × ByteArray)

def amb (w : World) : Amb := ⟨w.os, w.tape, w.output⟩

def Hp.fits (h : Hp) (w : World) : Prop := ∀ b x, h b = some x → w.heap[b]? = some x.2

def Sat (A : Amb) (w : World) (Γ : List SProp) : Prop := amb w = A ∧ ∃ h, Hp.fits h w ∧ sat Γ h

theorem Sat.map {A w Γ Γ'} (H : ∀ h, sat Γ h → sat Γ' h) : Sat A w Γ → Sat A w Γ' := fun ⟨a, h, b, c⟩ => ⟨a, h, b, H _ c⟩

/-- The same memory, the same surroundings. -/
theorem Sat.same {A w w' Γ} (hh : w'.heap = w.heap) (ha : amb w' = amb w) : Sat A w Γ → Sat A w' Γ :=
  fun ⟨a, h, b, c⟩ => ⟨ha.trans a, h, fun x y e => by rw [hh]; exact b x y e, c⟩

def own (b : Nat) (o : Obj) : SProp := fun h => h b = some (false, o)
def ro (b : Nat) (o : Obj) : SProp := fun h => h b = some (true, o)
def emb (p : Prop) : SProp := fun _ => p

/-- A is one of Γ, Γ' the others. -/
inductive Pick : SProp → List SProp → List SProp → Prop
  | head {A Γ} : Pick A (A :: Γ) Γ
  | tail {A B Γ Γ'} : Pick A Γ Γ' → Pick A (B :: Γ) (B :: Γ')

inductive Picks : List SProp → List SProp → List SProp → Prop
  | nil {Γ} : Picks [] Γ Γ
  | cons {A As Γ Γ1 Γ2} : Pick A Γ Γ1 → Picks As Γ1 Γ2 → Picks (A :: As) Γ Γ2

theorem Pick.sat {A Γ Γ'} (p : Pick A Γ Γ') : ∀ {h}, sat Γ h → sat (A :: Γ') h := by
  induction p with
  | head => exact fun s => s
  | tail _ ih => exact fun s => (s.cons fun _ => ih).swap

theorem Pick.back {A Γ Γ'} (p : Pick A Γ Γ') : ∀ {h}, Sp.sat (A :: Γ') h → Sp.sat Γ h := by
  induction p with
  | head => exact fun s => s
  | tail _ ih => exact fun s => (s.swap).cons fun _ => ih

theorem Picks.sat {As Γ Γ'} (p : Picks As Γ Γ') : ∀ {h}, sat Γ h → sat (As ++ Γ') h := by
  induction p with
  | nil => exact fun s => s
  | cons q _ ih => exact fun s => (q.sat s).cons fun _ => ih

theorem Picks.back {As Γ Γ'} (p : Picks As Γ Γ') : ∀ {h}, Sp.sat (As ++ Γ') h → Sp.sat Γ h := by
  induction p with
  | nil => exact fun s => s
  | cons q _ ih => exact fun s => q.back (s.cons fun _ => ih)

theorem Pick.app {A Γ Γ'} (p : Pick A Γ Γ') (F : List SProp) : Pick A (Γ ++ F) (Γ' ++ F) := by
  induction p with
  | head => exact .head
  | tail _ ih => exact .tail ih

theorem Picks.app {As Γ Γ'} (p : Picks As Γ Γ') (F : List SProp) : Picks As (Γ ++ F) (Γ' ++ F) := by
  induction p with
  | nil => exact .nil
  | cons q _ ih => exact .cons (q.app F) ih

theorem Picks.all (Γ F : List SProp) : Picks Γ (Γ ++ F) F := by
  induction Γ with
  | nil => exact .nil
  | cons A Γ ih => exact .cons .head ih

theorem Picks.self (Γ : List SProp) : Picks Γ Γ [] := by
  induction Γ with
  | nil => exact .nil
  | cons A Γ ih => exact .cons .head ih

theorem Sat.drop {A w B Γ} : Sat A w (B :: Γ) → Sat A w Γ := Sat.map fun _ ⟨_, _, _, _, l, _, s⟩ => s.mono l
theorem Sat.left {A w Γ F} (s : Sat A w (Γ ++ F)) : Sat A w Γ := s.map fun _ t => let ⟨_, _, _, l, _, t1, _⟩ := t.split; t1.mono l
theorem Sat.right {A w Γ F} (s : Sat A w (Γ ++ F)) : Sat A w F := s.map fun _ t => let ⟨_, _, _, _, l, _, t1⟩ := t.split; t1.mono l

theorem Sat.own {A w b o Γ} (s : Sat A w (own b o :: Γ)) : w.heap[b]? = some o := by
  obtain ⟨_, h, f, h1, h2, _, l, _, e, _⟩ := s
  exact f b _ (l b _ e)
theorem Sat.ro {A w b o Γ} (s : Sat A w (ro b o :: Γ)) : w.heap[b]? = some o := by
  obtain ⟨_, h, f, h1, h2, _, l, _, e, _⟩ := s
  exact f b _ (l b _ e)

/-- A block of one's own is turned. -/
theorem Sat.update {A w w' b o o' Γ} (s : Sat A w (Sp.own b o :: Γ)) (hb : w'.heap[b]? = some o') (hr : ∀ c, c ≠ b → w'.heap[c]? = w.heap[c]?) (ha : amb w' = amb w) :
    Sat A w' (Sp.own b o' :: Γ) := by
  obtain ⟨a, h, f, h1, h2, ok, l1, l2, e, t⟩ := s
  have hn : h2 b = none := by
    rcases ok b with x | x | ⟨_, _, x⟩
    · rw [e] at x; cases x
    · exact x
    · rw [e] at x; cases x
  refine ⟨ha.trans a, Hp.un (fun c => if c = b then some (false, o') else none) h2, ?_, (fun c => if c = b then some (false, o') else none), h2, ?_, Hp.le_un_left _ _, ?_, ?_, t⟩
  · intro c x ex
    by_cases hc : c = b
    · subst hc; simp [Hp.un] at ex; subst ex; exact hb
    · simp [Hp.un, hc] at ex; rw [hr c hc]; exact f c x (l2 c x ex)
  · intro c
    by_cases hc : c = b
    · subst hc; exact .inr (.inl hn)
    · exact .inl (by simp [hc])
  · intro c x ex
    by_cases hc : c = b
    · subst hc; rw [hn] at ex; cases ex
    · simp [Hp.un, hc, ex]
  · simp [Sp.own]

/-- A new block. -/
theorem Sat.alloc {A w Γ} (s : Sat A w Γ) (o : Obj) : Sat A (w.alloc o) (Sp.own w.heap.size o :: Γ) := by
  obtain ⟨a, h, f, t⟩ := s
  have hlt : ∀ b x, h b = some x → b < w.heap.size := fun b x e => (Array.getElem?_eq_some_iff.1 (f b x e)).1
  have hn : h w.heap.size = none := by
    cases e : h w.heap.size with
    | none => rfl
    | some x => exact absurd (hlt _ _ e) (Nat.lt_irrefl _)
  refine ⟨a, Hp.un (fun c => if c = w.heap.size then some (false, o) else none) h, ?_, (fun c => if c = w.heap.size then some (false, o) else none), h, ?_, Hp.le_un_left _ _, ?_, ?_, t⟩
  · intro c x ex
    by_cases hc : c = w.heap.size
    · subst hc; simp [Hp.un] at ex; subst ex; show (w.heap.push o)[w.heap.size]? = _; simp
    · simp [Hp.un, hc] at ex
      have := f c x ex
      show (w.heap.push o)[c]? = _; rw [Array.getElem?_push, if_neg hc]; exact this
  · intro c
    by_cases hc : c = w.heap.size
    · subst hc; exact .inr (.inl hn)
    · exact .inl (by simp [hc])
  · intro c x ex
    by_cases hc : c = w.heap.size
    · subst hc; rw [hn] at ex; cases ex
    · simp [Hp.un, hc, ex]
  · simp [Sp.own]

/-- What is one's own may be shared for reading from here on. -/
theorem Sat.share {A w b o Γ} (s : Sat A w (Sp.own b o :: Γ)) : Sat A w (Sp.ro b o :: Γ) := by
  obtain ⟨a, h, f, h1, h2, ok, l1, l2, e, t⟩ := s
  have hn : h2 b = none := by
    rcases ok b with x | x | ⟨_, _, x⟩
    · rw [e] at x; cases x
    · exact x
    · rw [e] at x; cases x
  refine ⟨a, Hp.un (fun c => if c = b then some (true, o) else none) h2, ?_, (fun c => if c = b then some (true, o) else none), h2, ?_, Hp.le_un_left _ _, ?_, ?_, t⟩
  · intro c x ex
    by_cases hc : c = b
    · subst hc; simp [Hp.un] at ex; subst ex; exact f c (false, o) (l1 c _ e)
    · simp [Hp.un, hc] at ex; exact f c x (l2 c x ex)
  · intro c
    by_cases hc : c = b
    · subst hc; exact .inr (.inl hn)
    · exact .inl (by simp [hc])
  · intro c x ex
    by_cases hc : c = b
    · subst hc; rw [hn] at ex; cases ex
    · simp [Hp.un, hc, ex]
  · simp [Sp.ro]

theorem sat.ro_dup {b o Γ h} (s : sat (ro b o :: Γ) h) : sat (ro b o :: ro b o :: Γ) h := by
  obtain ⟨h1, h2, ok, l1, l2, e, t⟩ := s
  have e' : h1 b = some (true, o) := e
  refine ⟨fun c => if c = b then some (true, o) else none, h, ?_, ?_, .refl _, by simp [ro], h1, h2, ok, l1, l2, e, t⟩
  · intro c
    by_cases hc : c = b
    · subst hc; exact .inr (.inr ⟨by simp [l1 _ _ e'], o, by simp⟩)
    · exact .inl (by simp [hc])
  · intro c x ex
    by_cases hc : c = b
    · subst hc; simp at ex; subst ex; exact l1 _ _ e'
    · simp [hc] at ex

theorem sat.own_ne {b b' o o' Γ h} (s : sat (own b o :: own b' o' :: Γ) h) : b ≠ b' := by
  rintro rfl
  obtain ⟨h1, h2, ok, l1, l2, e, k1, k2, _, m1, _, e', _⟩ := s
  have x1 : h1 b = some (false, o) := e
  have x2 : h2 b = some (false, o') := m1 _ _ e'
  rcases ok b with x | x | ⟨_, _, x⟩
  · rw [x1] at x; cases x
  · rw [x2] at x; cases x
  · rw [x1] at x; cases x

/-- The memory at the start, all of it, for reading. -/
def base (W : World) : SProp := fun h => ∀ b o, W.heap[b]? = some o → h b = some (true, o)

theorem Sat.base {A w W Γ} (s : Sat A w (Sp.base W :: Γ)) (b : Nat) (o : Obj) (h : W.heap[b]? = some o) : w.heap[b]? = some o := by
  obtain ⟨_, k, f, h1, h2, _, l, _, e, _⟩ := s
  exact f b _ (l b _ (e b o h))

theorem sat.base_dup {W Γ h} (s : sat (base W :: Γ) h) : sat (base W :: base W :: Γ) h := by
  obtain ⟨h1, h2, ok, l1, l2, e, t⟩ := s
  refine ⟨fun c => (W.heap[c]?).map fun o => (true, o), h, ?_, ?_, .refl _, ?_, h1, h2, ok, l1, l2, e, t⟩
  · intro c
    cases hc : W.heap[c]? with
    | none => exact .inl (by simp only [hc, Option.map_none])
    | some o => exact .inr (.inr ⟨by simp only [hc, Option.map_some, l1 _ _ (e c o hc)], o, by simp only [hc, Option.map_some]⟩)
  · intro c x ex
    cases hc : W.heap[c]? with
    | none => simp [hc] at ex
    | some o => simp [hc] at ex; subst ex; exact l1 _ _ (e c o hc)
  · intro b o hb; simp [hb]

theorem Sat.start (W : World) : Sat (amb W) W [Sp.base W] :=
  ⟨rfl, fun c => (W.heap[c]?).map fun o => (true, o), fun b x e => by
    cases hc : W.heap[b]? with
    | none => simp [hc] at e
    | some o => simp [hc] at e; subst e; rfl,
   fun c => (W.heap[c]?).map fun o => (true, o), fun _ => none, fun _ => .inr (.inl rfl), .refl _, fun _ _ e => by simp at e, fun b o hb => by simp [hb], trivial⟩

/-- A resource is laid open. -/
theorem Sat.open_ {A w Γ} {X : SProp} {σ : Type} {φ : σ → Prop} {B : σ → List SProp} (hX : ∀ h, X h → ∃ s, φ s ∧ sat (B s) h) (s : Sat A w (X :: Γ)) :
    ∃ s, φ s ∧ Sat A w (B s ++ Γ) := by
  obtain ⟨a, h, f, h1, h2, ok, l1, l2, e, t⟩ := s
  obtain ⟨x, hx, tx⟩ := hX _ e
  exact ⟨x, hx, a, h, f, sat.join ok l1 l2 tx t⟩

theorem Sat.close {A w Γ} {X : SProp} {B : List SProp} (hX : ∀ h, sat B h → X h) (s : Sat A w (B ++ Γ)) : Sat A w (X :: Γ) := by
  obtain ⟨a, h, f, t⟩ := s
  obtain ⟨h1, h2, ok, l1, l2, t1, t2⟩ := t.split
  exact ⟨a, h, f, h1, h2, ok, l1, l2, hX _ t1, t2⟩

/-- What a list of resources tells of memory. -/
def Knows (Γ : List SProp) (φ : World → Prop) : Prop := ∀ A w, Sat A w Γ → φ w

theorem Knows.cons {Γ φ B} (k : Knows Γ φ) : Knows (B :: Γ) φ := fun A w s => k A w s.drop
theorem Knows.pick {Γ Γ' φ B} (p : Pick B Γ Γ') (k : Knows [B] φ) : Knows Γ φ := fun A w s => k A w (Sat.left (Γ := [B]) (s.map fun _ => p.sat))
theorem Knows.picks {Γ Γ' Δ φ} (p : Picks Δ Γ Γ') (k : Knows Δ φ) : Knows Γ φ := fun A w s => k A w (Sat.left (Γ := Δ) (s.map fun _ => p.sat))
theorem Knows.own {Γ Γ' b o} (p : Pick (Sp.own b o) Γ Γ') : Knows Γ fun w => w.heap[b]? = some o := fun _ _ s => (s.map fun _ => p.sat).own
theorem Knows.mono {Γ} {φ ψ : World → Prop} (k : Knows Γ φ) (h : ∀ w, φ w → ψ w) : Knows Γ ψ := fun A w s => h w (k A w s)
theorem Knows.and {Γ} {φ ψ : World → Prop} (k : Knows Γ φ) (l : Knows Γ ψ) : Knows Γ fun w => φ w ∧ ψ w := fun A w s => ⟨k A w s, l A w s⟩

end Go.Sp
