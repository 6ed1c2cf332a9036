/- Part 0 of a claim's texts: rules for the machine's steps, and steps through functions of the program, under the conditions that each theorem states. -/
import Derived.Orders
import Derived.OrdersHeld
import Derived.Calls
import Derived.Laws.World
import Derived.KernelRfl
import Derived.Laws.Sem
import Derived.Laws.Strings
import Derived.Test.YtoglbebcdjdkiaaGreatDoorProg
import Derived.Deep.AppendSrc
import Derived.Laws.AppendOwn
import Derived.Laws.MakeOwn
import Derived.Laws.CopyOwn
import Derived.Laws.StructEq
import Derived.Laws.IdiomStrings
import Derived.Laws.BytesArg
import Derived.WideKeyEntry
import Derived.ChangeKeysEq
import Derived.Lib.UnsafeStr
import Derived.Lib.Builder
import Derived.LaidEqlPtr
import Derived.Below
import Derived.Lib.AppendZeros
set_option linter.unusedVariables false
/- A separation logic over the given machine: resources as lists of assertions, code judged under a symbolic frame. Part 0: worlds and resources. -/
namespace Go.Sp
open Go
abbrev Hp := Nat → Option (Bool × Obj)
def Hp.ok (h k : Hp) : Prop := ∀ b, h b = none ∨ k b = none ∨ (h b = k b ∧ ∃ o, h b = some (true, o))
def Hp.le (h k : Hp) : Prop := ∀ b x, h b = some x → k b = some x
def Hp.un (h k : Hp) : Hp := fun b => (h b).or (k b)
theorem Hp.ok.symm {h k : Hp} (H : Hp.ok h k) : Hp.ok k h := fun b => by
 rcases H b with h1 | h1 | ⟨h1, o, h2⟩
 ·
  exact .inr (.inl h1)
 ·
  exact .inl h1
 ·
  exact .inr (.inr ⟨h1.symm, o, h1 ▸ h2⟩)
theorem Hp.ok.mono {h k h' k' : Hp} (H : Hp.ok h k) (hh : Hp.le h' h) (hk : Hp.le k' k) : Hp.ok h' k' := fun b => by
 cases e1 : h' b with
 | none => exact .inl rfl
 | some x =>
  cases e2 : k' b with
  | none => exact .inr (.inl rfl)
  | some y =>
   have a1 := hh b x e1
   have a2 := hk b y e2
   rcases H b with h1 | h1 | ⟨h1, o, h2⟩
   ·
    rw [a1] at h1; cases h1
   ·
    rw [a2] at h1; cases h1
   ·
    rw [a1, a2] at h1
    rw [a1] at h2
    exact .inr (.inr ⟨h1, o, h2⟩)
theorem Hp.le.refl (h : Hp) : Hp.le h h := fun _ _ e => e
theorem Hp.le.trans {a b c : Hp} (h : Hp.le a b) (k : Hp.le b c) : Hp.le a c := fun x y e => k x y (h x y e)
theorem Hp.le_un_left (h k : Hp) : Hp.le h (Hp.un h k) := fun b x e => by simp [Hp.un, e]
theorem Hp.le_un_right {h k : Hp} (H : Hp.ok h k) : Hp.le k (Hp.un h k) := fun b x e => by
 rcases H b with h1 | h1 | ⟨h1, o, h2⟩
 ·
  simp [Hp.un, h1, e]
 ·
  rw [e] at h1; cases h1
 ·
  have : h b = some x := h1.trans e
  simp [Hp.un, this]
theorem Hp.un_le {h k l : Hp} (a : Hp.le h l) (b : Hp.le k l) : Hp.le (Hp.un h k) l := fun c x e => by
 cases e1 : h c with
 | none => simp [Hp.un, e1] at e; exact b c x e
 | some y => simp [Hp.un, e1] at e; subst e; exact a c y e1
theorem Hp.ok_un {h k l : Hp} (a : Hp.ok h k) (b : Hp.ok h l) : Hp.ok h (Hp.un k l) := fun c => by
 cases e : k c with
 | none =>
  rcases b c with h1 | h1 | ⟨h1, o, h2⟩
  ·
   exact .inl h1
  ·
   exact .inr (.inl (by simp [Hp.un, e, h1]))
  ·
   exact .inr (.inr ⟨by simp [Hp.un, e, h1], o, h2⟩)
 | some y =>
  rcases a c with h1 | h1 | ⟨h1, o, h2⟩
  ·
   exact .inl h1
  ·
   rw [e] at h1; cases h1
  ·
   exact .inr (.inr ⟨by simp [Hp.un, e, h1], o, h2⟩)
abbrev SProp := Hp → Prop
def sat : List SProp → Hp → Prop
 | [], _ => True
 | A :: Γ, h => ∃ h1 h2, Hp.ok h1 h2 ∧ Hp.le h1 h ∧ Hp.le h2 h ∧ A h1 ∧ sat Γ h2
theorem sat.mono {h k : Hp} (H : Hp.le h k) : ∀ {Γ}, sat Γ h → sat Γ k
 | [], _ => trivial
 | _ :: _, ⟨h1, h2, a, b, c, d, e⟩ => ⟨h1, h2, a, b.trans H, c.trans H, d, e⟩
theorem sat.swap {A B : SProp} {Γ} {h : Hp} : sat (A :: B :: Γ) h → sat (B :: A :: Γ) h := by
 rintro ⟨h1, h2, ok12, l1, l2, hA, k1, k2, okk, m1, m2, hB, hΓ⟩
 refine ⟨k1, Hp.un h1 k2, ?_, m1.trans l2, Hp.un_le l1 (m2.trans l2), hB, h1, k2, ?_, Hp.le_un_left _ _, Hp.le_un_right (ok12.mono (.refl _) m2), hA, hΓ⟩
 ·
  exact Hp.ok_un ((ok12.mono (.refl _) m1).symm) okk
 ·
  exact ok12.mono (.refl _) m2
theorem sat.cons {A : SProp} {Γ Γ'} {h : Hp} (H : ∀ h, sat Γ h → sat Γ' h) : sat (A :: Γ) h → sat (A :: Γ') h :=
 fun ⟨h1, h2, a, b, c, d, e⟩ => ⟨h1, h2, a, b, c, d, H _ e⟩
theorem sat.join {Γ Δ : List SProp} : ∀ {h1 h2 h : Hp}, Hp.ok h1 h2 → Hp.le h1 h → Hp.le h2 h → sat Γ h1 → sat Δ h2 → sat (Γ ++ Δ) h := by
 induction Γ with
 | nil => intro h1 h2 h _ _ l2 _ s; exact s.mono l2
 | cons A Γ ih =>
  rintro h1 h2 h ok l1 l2 ⟨k1, k2, okk, m1, m2, hA, hΓ⟩ s
  refine ⟨k1, Hp.un k2 h2, Hp.ok_un okk (ok.mono m1 (.refl _)), m1.trans l1, Hp.un_le (m2.trans l1) l2, hA, ?_⟩
  exact ih (ok.mono m2 (.refl _)) (Hp.le_un_left _ _) (Hp.le_un_right (ok.mono m2 (.refl _))) hΓ s
theorem sat.split {Γ Δ : List SProp} : ∀ {h : Hp}, sat (Γ ++ Δ) h → ∃ h1 h2, Hp.ok h1 h2 ∧ Hp.le h1 h ∧ Hp.le h2 h ∧ sat Γ h1 ∧ sat Δ h2 := by
 induction Γ with
 | nil => intro h s; exact ⟨fun _ => none, h, fun _ => .inl rfl, fun _ _ e => by simp at e, .refl _, trivial, s⟩
 | cons A Γ ih =>
  rintro h ⟨k1, k2, ok, l1, l2, hA, s⟩
  obtain ⟨m1, m2, okm, n1, n2, s1, s2⟩ := ih s
  refine ⟨Hp.un k1 m1, m2, ?_, Hp.un_le l1 (n1.trans l2), n2.trans l2, ⟨k1, m1, ok.mono (.refl _) n1, Hp.le_un_left _ _, Hp.le_un_right (ok.mono (.refl _) n1), hA, s1⟩, s2⟩
  exact (Hp.ok_un ((ok.mono (.refl _) n2).symm) okm.symm).symm
structure Amb where
 os : Os
 tape : Nat → Question → Nat
 output : Array (Nat × ByteArray)
def amb (w : World) : Amb := ⟨w.os, w.tape, w.output⟩
def Hp.fits (h : Hp) (w : World) : Prop := ∀ b x, h b = some x → w.heap[b]? = some x.2
def Sat (A : Amb) (w : World) (Γ : List SProp) : Prop := amb w = A ∧ ∃ h, Hp.fits h w ∧ sat Γ h
theorem Sat.map {A w Γ Γ'} (H : ∀ h, sat Γ h → sat Γ' h) : Sat A w Γ → Sat A w Γ' := fun ⟨a, h, b, c⟩ => ⟨a, h, b, H _ c⟩
theorem Sat.same {A w w' Γ} (hh : w'.heap = w.heap) (ha : amb w' = amb w) : Sat A w Γ → Sat A w' Γ :=
 fun ⟨a, h, b, c⟩ => ⟨ha.trans a, h, fun x y e => by rw [hh]; exact b x y e, c⟩
def own (b : Nat) (o : Obj) : SProp := fun h => h b = some (false, o)
def ro (b : Nat) (o : Obj) : SProp := fun h => h b = some (true, o)
def emb (p : Prop) : SProp := fun _ => p
inductive Pick : SProp → List SProp → List SProp → Prop
 | head {A Γ} : Pick A (A :: Γ) Γ
 | tail {A B Γ Γ'} : Pick A Γ Γ' → Pick A (B :: Γ) (B :: Γ')
inductive Picks : List SProp → List SProp → List SProp → Prop
 | nil {Γ} : Picks [] Γ Γ
 | cons {A As Γ Γ1 Γ2} : Pick A Γ Γ1 → Picks As Γ1 Γ2 → Picks (A :: As) Γ Γ2
theorem Pick.sat {A Γ Γ'} (p : Pick A Γ Γ') : ∀ {h}, sat Γ h → sat (A :: Γ') h := by
 induction p with
 | head => exact fun s => s
 | tail _ ih => exact fun s => (s.cons fun _ => ih).swap
theorem Picks.sat {As Γ Γ'} (p : Picks As Γ Γ') : ∀ {h}, sat Γ h → sat (As ++ Γ') h := by
 induction p with
 | nil => exact fun s => s
 | cons q _ ih => exact fun s => (q.sat s).cons fun _ => ih
theorem Pick.app {A Γ Γ'} (p : Pick A Γ Γ') (F : List SProp) : Pick A (Γ ++ F) (Γ' ++ F) := by
 induction p with
 | head => exact .head
 | tail _ ih => exact .tail ih
theorem Picks.app {As Γ Γ'} (p : Picks As Γ Γ') (F : List SProp) : Picks As (Γ ++ F) (Γ' ++ F) := by
 induction p with
 | nil => exact .nil
 | cons q _ ih => exact .cons (q.app F) ih
theorem Picks.self (Γ : List SProp) : Picks Γ Γ [] := by
 induction Γ with
 | nil => exact .nil
 | cons A Γ ih => exact .cons .head ih
theorem Sat.drop {A w B Γ} : Sat A w (B :: Γ) → Sat A w Γ := Sat.map fun _ ⟨_, _, _, _, l, _, s⟩ => s.mono l
theorem Sat.left {A w Γ F} (s : Sat A w (Γ ++ F)) : Sat A w Γ := s.map fun _ t => let ⟨_, _, _, l, _, t1, _⟩ := t.split; t1.mono l
theorem Sat.own {A w b o Γ} (s : Sat A w (own b o :: Γ)) : w.heap[b]? = some o := by
 obtain ⟨_, h, f, h1, h2, _, l, _, e, _⟩ := s
 exact f b _ (l b _ e)
theorem Sat.update {A w w' b o o' Γ} (s : Sat A w (Sp.own b o :: Γ)) (hb : w'.heap[b]? = some o') (hr : ∀ c, c ≠ b → w'.heap[c]? = w.heap[c]?) (ha : amb w' = amb w) :
  Sat A w' (Sp.own b o' :: Γ) := by
 obtain ⟨a, h, f, h1, h2, ok, l1, l2, e, t⟩ := s
 have hn : h2 b = none := by
  rcases ok b with x | x | ⟨_, _, x⟩
  ·
   rw [e] at x; cases x
  ·
   exact x
  ·
   rw [e] at x; cases x
 refine ⟨ha.trans a, Hp.un (fun c => if c = b then some (false, o') else none) h2, ?_, (fun c => if c = b then some (false, o') else none), h2, ?_, Hp.le_un_left _ _, ?_, ?_, t⟩
 ·
  intro c x ex
  by_cases hc : c = b
  ·
   subst hc; simp [Hp.un] at ex; subst ex; exact hb
  ·
   simp [Hp.un, hc] at ex; rw [hr c hc]; exact f c x (l2 c x ex)
 ·
  intro c
  by_cases hc : c = b
  ·
   subst hc; exact .inr (.inl hn)
  ·
   exact .inl (by simp [hc])
 ·
  intro c x ex
  by_cases hc : c = b
  ·
   subst hc; rw [hn] at ex; cases ex
  ·
   simp [Hp.un, hc, ex]
 ·
  simp [Sp.own]
theorem Sat.alloc {A w Γ} (s : Sat A w Γ) (o : Obj) : Sat A (w.alloc o) (Sp.own w.heap.size o :: Γ) := by
 obtain ⟨a, h, f, t⟩ := s
 have hlt : ∀ b x, h b = some x → b < w.heap.size := fun b x e => (Array.getElem?_eq_some_iff.1 (f b x e)).1
 have hn : h w.heap.size = none := by
  cases e : h w.heap.size with
  | none => rfl
  | some x => exact absurd (hlt _ _ e) (Nat.lt_irrefl _)
 refine ⟨a, Hp.un (fun c => if c = w.heap.size then some (false, o) else none) h, ?_, (fun c => if c = w.heap.size then some (false, o) else none), h, ?_, Hp.le_un_left _ _, ?_, ?_, t⟩
 ·
  intro c x ex
  by_cases hc : c = w.heap.size
  ·
   subst hc; simp [Hp.un] at ex; subst ex; show (w.heap.push o)[w.heap.size]? = _; simp
  ·
   simp [Hp.un, hc] at ex
   have := f c x ex
   show (w.heap.push o)[c]? = _; rw [Array.getElem?_push, if_neg hc]; exact this
 ·
  intro c
  by_cases hc : c = w.heap.size
  ·
   subst hc; exact .inr (.inl hn)
  ·
   exact .inl (by simp [hc])
 ·
  intro c x ex
  by_cases hc : c = w.heap.size
  ·
   subst hc; rw [hn] at ex; cases ex
  ·
   simp [Hp.un, hc, ex]
 ·
  simp [Sp.own]
theorem Sat.share {A w b o Γ} (s : Sat A w (Sp.own b o :: Γ)) : Sat A w (Sp.ro b o :: Γ) := by
 obtain ⟨a, h, f, h1, h2, ok, l1, l2, e, t⟩ := s
 have hn : h2 b = none := by
  rcases ok b with x | x | ⟨_, _, x⟩
  ·
   rw [e] at x; cases x
  ·
   exact x
  ·
   rw [e] at x; cases x
 refine ⟨a, Hp.un (fun c => if c = b then some (true, o) else none) h2, ?_, (fun c => if c = b then some (true, o) else none), h2, ?_, Hp.le_un_left _ _, ?_, ?_, t⟩
 ·
  intro c x ex
  by_cases hc : c = b
  ·
   subst hc; simp [Hp.un] at ex; subst ex; exact f c (false, o) (l1 c _ e)
  ·
   simp [Hp.un, hc] at ex; exact f c x (l2 c x ex)
 ·
  intro c
  by_cases hc : c = b
  ·
   subst hc; exact .inr (.inl hn)
  ·
   exact .inl (by simp [hc])
 ·
  intro c x ex
  by_cases hc : c = b
  ·
   subst hc; rw [hn] at ex; cases ex
  ·
   simp [Hp.un, hc, ex]
 ·
  simp [Sp.ro]
def base (W : World) : SProp := fun h => ∀ b o, W.heap[b]? = some o → h b = some (true, o)
theorem Sat.base {A w W Γ} (s : Sat A w (Sp.base W :: Γ)) (b : Nat) (o : Obj) (h : W.heap[b]? = some o) : w.heap[b]? = some o := by
 obtain ⟨_, k, f, h1, h2, _, l, _, e, _⟩ := s
 exact f b _ (l b _ (e b o h))
theorem sat.base_dup {W Γ h} (s : sat (base W :: Γ) h) : sat (base W :: base W :: Γ) h := by
 obtain ⟨h1, h2, ok, l1, l2, e, t⟩ := s
 refine ⟨fun c => (W.heap[c]?).map fun o => (true, o), h, ?_, ?_, .refl _, ?_, h1, h2, ok, l1, l2, e, t⟩
 ·
  intro c
  cases hc : W.heap[c]? with
  | none => exact .inl (by simp only [hc, Option.map_none])
  | some o => exact .inr (.inr ⟨by simp only [hc, Option.map_some, l1 _ _ (e c o hc)], o, by simp only [hc, Option.map_some]⟩)
 ·
  intro c x ex
  cases hc : W.heap[c]? with
  | none => simp [hc] at ex
  | some o => simp [hc] at ex; subst ex; exact l1 _ _ (e c o hc)
 ·
  intro b o hb; simp [hb]
theorem Sat.start (W : World) : Sat (amb W) W [Sp.base W] :=
 ⟨rfl, fun c => (W.heap[c]?).map fun o => (true, o), fun b x e => by
  cases hc : W.heap[b]? with
  | none => simp [hc] at e
  | some o => simp [hc] at e; subst e; rfl,
 fun c => (W.heap[c]?).map fun o => (true, o), fun _ => none, fun _ => .inr (.inl rfl), .refl _, fun _ _ e => by simp at e, fun b o hb => by simp [hb], trivial⟩
theorem Sat.open_ {A w Γ} {X : SProp} {σ : Type} {φ : σ → Prop} {B : σ → List SProp} (hX : ∀ h, X h → ∃ s, φ s ∧ sat (B s) h) (s : Sat A w (X :: Γ)) :
  ∃ s, φ s ∧ Sat A w (B s ++ Γ) := by
 obtain ⟨a, h, f, h1, h2, ok, l1, l2, e, t⟩ := s
 obtain ⟨x, hx, tx⟩ := hX _ e
 exact ⟨x, hx, a, h, f, sat.join ok l1 l2 tx t⟩
theorem Sat.close {A w Γ} {X : SProp} {B : List SProp} (hX : ∀ h, sat B h → X h) (s : Sat A w (B ++ Γ)) : Sat A w (X :: Γ) := by
 obtain ⟨a, h, f, t⟩ := s
 obtain ⟨h1, h2, ok, l1, l2, t1, t2⟩ := t.split
 exact ⟨a, h, f, h1, h2, ok, l1, l2, hX _ t1, t2⟩
def Knows (Γ : List SProp) (φ : World → Prop) : Prop := ∀ A w, Sat A w Γ → φ w
theorem Knows.cons {Γ φ B} (k : Knows Γ φ) : Knows (B :: Γ) φ := fun A w s => k A w s.drop
theorem Knows.pick {Γ Γ' φ B} (p : Pick B Γ Γ') (k : Knows [B] φ) : Knows Γ φ := fun A w s => k A w (Sat.left (Γ := [B]) (s.map fun _ => p.sat))
theorem Knows.mono {Γ} {φ ψ : World → Prop} (k : Knows Γ φ) (h : ∀ w, φ w → ψ w) : Knows Γ ψ := fun A w s => h w (k A w s)
theorem Knows.and {Γ} {φ ψ : World → Prop} (k : Knows Γ φ) (l : Knows Γ ψ) : Knows Γ fun w => φ w ∧ ψ w := fun A w s => ⟨k A w s, l A w s⟩
end Go.Sp
/- A separation logic over the given machine. Part 1: frames, code, calls. -/
namespace Go.Sp
open Go
abbrev Env := List (Nat × Value)
def lk : Env → Nat → Option Value
 | [], _ => none
 | (s, v) :: E, t => bif Nat.beq t s then some v else lk E t
def ev (E : Env) : Operand → Option Value
 | .tmp t => lk E t
 | .const v => some v
 | .global g => some (.pointer (some ⟨g, 0, none⟩))
 | .func f => some (.func (.func f) #[] #[])
structure Fr (N : Nat) (E : Env) (a : Act) : Prop where
 defers : a.defers = []
 size : a.tmps.size = N
 look : ∀ t v, lk E t = some v → a.tmps[t]? = some v
theorem Fr.eval {N E a x v} (h : Fr N E a) (e : ev E x = some v) : a.eval x = v := by
 cases x with
 | tmp t => have := h.look t v e; simp [Act.eval, this]
 | const u => simpa [ev, Act.eval] using e
 | global g => simpa [ev, Act.eval] using e
 | func f => simpa [ev, Act.eval] using e
theorem Fr.put {N E a} {d : Nat} (h : Fr N E a) (hd : Nat.blt d N = true) (v : Value) : Fr N ((d, v) :: E) (a.put (some d) v) := by
 have hd' : d < a.tmps.size := by rw [h.size]; simpa [Nat.blt_eq] using hd
 refine ⟨h.defers, by simp [Act.put, h.size], fun t u e => ?_⟩
 by_cases ht : t = d
 ·
  subst ht
  have : v = u := by simpa [lk] using e
  subst this
  simp [Act.put, hd']
 ·
  have hb : Nat.beq t d = false := by
   cases hq : Nat.beq t d with
   | false => rfl
   | true => exact absurd (Nat.eq_of_beq_eq_true hq) ht
  have e' : lk E t = some u := by simpa [lk, hb] using e
  simp only [Act.put]
  rw [Array.getElem?_setIfInBounds_ne (Ne.symm ht)]
  exact h.look t u e'
def Le (E' E : Env) : Prop := ∀ t v, lk E' t = some v → lk E t = some v
theorem Fr.le {N E E' a} (h : Fr N E a) (l : Le E' E) : Fr N E' a := ⟨h.defers, h.size, fun t v e => h.look t v (l t v e)⟩
theorem Le.nil {E} : Le [] E := fun _ _ e => by simp [lk] at e
theorem Le.refl (E : Env) : Le E E := fun _ _ e => e
theorem Le.cons {E E' : Env} {t : Nat} {v : Value} (h : lk E t = some v) (l : Le E' E) : Le ((t, v) :: E') E := fun s u e => by
 by_cases hs : s = t
 ·
  subst hs
  have : v = u := by simpa [lk] using e
  subst this; exact h
 ·
  have hb : Nat.beq s t = false := by
   cases hq : Nat.beq s t with
   | false => rfl
   | true => exact absurd (Nat.eq_of_beq_eq_true hq) hs
  exact l s u (by simpa [lk, hb] using e)
def evs (E : Env) : List Operand → Option (List Value)
 | [] => some []
 | x :: xs => match ev E x with
  | some v => match evs E xs with
   | some vs => some (v :: vs)
   | none => none
  | none => none
theorem Fr.evals {N E a} (h : Fr N E a) : ∀ {xs vs}, evs E xs = some vs → xs.map a.eval = vs
 | [], vs, e => by simpa [evs] using e
 | x :: xs, vs, e => by
  simp only [evs] at e
  cases e1 : ev E x with
  | none => simp [e1] at e
  | some v =>
   cases e2 : evs E xs with
   | none => simp [e1, e2] at e
   | some us =>
    simp [e1, e2] at e
    subst e
    simp [h.eval e1, h.evals e2]
def Reads (P : Program) (N : Nat) (E : Env) (Γ : List SProp) (o : Oper) (v : Value) : Prop :=
 ∀ A w a, Fr N E a → Sat A w Γ → (execOp a.eval o).run P w = .ok (.value v) w
def Eff (P : Program) (N : Nat) (E : Env) (Γ : List SProp) (o : Oper) (K : Value → List SProp → Prop) : Prop :=
 ∀ A F w a (nx : Act → World → Prop) Z, Fr N E a → Sat A w (Γ ++ F) →
  (∀ v Γ' w', K v Γ' → Sat A w' (Γ' ++ F) → nx (a.put o.dst v) w') → o.wp P a w nx Z
theorem Reads.eff {P N E Γ o v} (h : Reads P N E Γ o v) : Eff P N E Γ o fun u Γ' => u = v ∧ Γ' = Γ := by
 intro A F w a nx Z hf hs hn
 unfold Oper.wp
 rw [h A w a hf hs.left]
 exact hn v Γ w ⟨rfl, rfl⟩ hs
theorem Eff.mono {P N E Γ o} {K K' : Value → List SProp → Prop} (h : Eff P N E Γ o K) (hk : ∀ v Γ', K v Γ' → K' v Γ') : Eff P N E Γ o K' :=
 fun A F w a nx Z hf hs hn => h A F w a nx Z hf hs fun v Γ' w' k s => hn v Γ' w' (hk v Γ' k) s
def wpL (P : Program) (ops : Array Oper) (Q : Exit → Act → World → Prop) : List Oper → Act → World → Prop
 | [], a, w => Q .normal a w
 | o :: rest, a, w => if Region.wanted o (yielded ops a.tmps) then o.wp P a w (wpL P ops Q rest) Q else wpL P ops Q rest (a.put o.dst undef) w
theorem wpOps_of_wpL {P ops Q} : ∀ (n i : Nat), i + n = ops.size → ∀ a w, wpL P ops Q (ops.toList.drop i) a w → wpOps P ops Q (List.range' i n) a w := by
 intro n
 induction n with
 | zero =>
  intro i h a w hw
  have : ops.toList.drop i = [] := by rw [List.drop_eq_nil_iff]; simp; omega
  rw [this] at hw
  exact hw
 | succ n ih =>
  intro i h a w hw
  have hi : i < ops.toList.length := by simp; omega
  rw [List.drop_eq_getElem_cons hi] at hw
  have hi' : i < ops.size := by omega
  have ho : ops[i]? = some ops[i] := Array.getElem?_eq_getElem hi'
  simp only [List.range'_succ, wpOps, ho]
  simp only [wpL] at hw
  have he : ops.toList[i] = ops[i] := rfl
  rw [he] at hw
  split at hw
  ·
   rename_i hq
   simp only [hq, if_true]
   refine .inl (Oper.wp_mono (fun a w => ih (i + 1) (by omega) a w) hw)
  ·
   rename_i hq
   simp only [hq]
   exact ih (i + 1) (by omega) _ _ hw
def RunO (P : Program) (N : Nat) (ops : Array Oper) (os : List Oper) (E : Env) (Γ : List SProp) (K : Env → List SProp → Prop) : Prop :=
 ∀ A F w a (Z : Exit → Act → World → Prop), Fr N E a → Sat A w (Γ ++ F) →
  (∀ E' Γ' w' a', K E' Γ' → Fr N E' a' → Sat A w' (Γ' ++ F) → Z .normal a' w') → wpL P ops Z os a w
section
variable {P : Program} {N : Nat} {ops : Array Oper} {os rest : List Oper} {E : Env} {Γ : List SProp} {K : Env → List SProp → Prop}
theorem RunO.nil (h : K E Γ) : RunO P N ops [] E Γ K := fun _ _ w a _ hf hs hz => hz E Γ w a h hf hs
theorem wanted_none {dst op ty pos after} {y : Nat → Option Bool} : Region.wanted ⟨dst, op, ty, pos, after, none⟩ y = true := rfl
theorem RunO.rd {d op ty pos after} {v : Value} (h : Reads P N E Γ ⟨some d, op, ty, pos, after, none⟩ v) (next : RunO P N ops rest ((d, v) :: E) Γ K)
  (hd : Nat.blt d N = true := by rfl) : RunO P N ops (⟨some d, op, ty, pos, after, none⟩ :: rest) E Γ K := by
 intro A F w a Z hf hs hz
 simp only [wpL, wanted_none, if_true]
 refine h.eff A F w a _ _ hf hs ?_
 rintro _ _ w' ⟨rfl, rfl⟩ hs'
 exact next A F w' _ Z (hf.put hd _) hs' hz
theorem RunO.ef {d op ty pos after} {K1 : Value → List SProp → Prop} (h : Eff P N E Γ ⟨some d, op, ty, pos, after, none⟩ K1)
  (next : ∀ v Γ', K1 v Γ' → RunO P N ops rest ((d, v) :: E) Γ' K)
  (hd : Nat.blt d N = true := by rfl) : RunO P N ops (⟨some d, op, ty, pos, after, none⟩ :: rest) E Γ K := by
 intro A F w a Z hf hs hz
 simp only [wpL, wanted_none, if_true]
 refine h A F w a _ _ hf hs ?_
 intro v Γ' w' hk hs'
 exact next v Γ' hk A F w' _ Z (hf.put hd _) hs' hz
theorem RunO.ef0 {op ty pos after} {K1 : Value → List SProp → Prop} (h : Eff P N E Γ ⟨none, op, ty, pos, after, none⟩ K1)
  (next : ∀ v Γ', K1 v Γ' → RunO P N ops rest E Γ' K) : RunO P N ops (⟨none, op, ty, pos, after, none⟩ :: rest) E Γ K := by
 intro A F w a Z hf hs hz
 simp only [wpL, wanted_none, if_true]
 refine h A F w a _ _ hf hs ?_
 intro v Γ' w' hk hs'
 exact next v Γ' hk A F w' _ Z hf hs' hz
def gslot (ops : Array Oper) (g : Nat) : Option Nat := (ops[g]?).bind (·.dst)
theorem yielded_of {g t : Nat} {b : Bool} {a : Act} (hg : gslot ops g = some t) (hf : Fr N E a) (he : lk E t = some (.bool b)) : yielded ops a.tmps g = some b := by
 unfold gslot at hg
 simp [yielded, hg, hf.look t _ he]
theorem RunO.on {dst op ty pos after} {g : Nat} {b : Bool} {t : Nat} (hg : gslot ops g = some t) (he : lk E t = some (.bool b))
  (next : RunO P N ops (⟨dst, op, ty, pos, after, none⟩ :: rest) E Γ K) : RunO P N ops (⟨dst, op, ty, pos, after, some (g, b)⟩ :: rest) E Γ K := by
 intro A F w a Z hf hs hz
 have hy := yielded_of hg hf he
 have hw : Region.wanted ⟨dst, op, ty, pos, after, some (g, b)⟩ (yielded ops a.tmps) = true := by simp [Region.wanted, hy]
 have := next A F w a Z hf hs hz
 simp only [wpL, wanted_none, if_true] at this
 simp only [wpL, hw, if_true]
 exact this
theorem RunO.off {dst op ty pos after} {g : Nat} {b c : Bool} {t : Nat} (hg : gslot ops g = some t) (he : lk E t = some (.bool c)) (hne : (c == b) = false)
  (next : RunO P N ops rest E Γ K) (hd : ∀ d, dst = some d → lk E d = none := by intro d h; cases h; rfl) : RunO P N ops (⟨dst, op, ty, pos, after, some (g, b)⟩ :: rest) E Γ K := by
 intro A F w a Z hf hs hz
 have hy := yielded_of hg hf he
 have hw : Region.wanted ⟨dst, op, ty, pos, after, some (g, b)⟩ (yielded ops a.tmps) = false := by
  simp [Region.wanted, hy]; intro e; subst e; simp at hne
 simp only [wpL, hw, Bool.false_eq_true, if_false]
 refine next A F w _ Z ?_ hs hz
 cases dst with
 | none => exact hf
 | some d =>
  have hn := hd d rfl
  refine ⟨hf.defers, by simp [Act.put, hf.size], fun s v e => ?_⟩
  have hsd : s ≠ d := fun e' => by subst e'; rw [hn] at e; cases e
  simp only [Act.put]
  rw [Array.getElem?_setIfInBounds_ne (Ne.symm hsd)]
  exact hf.look s v e
theorem RunO.split {t : Nat} {b : Bool} (he : lk E t = some (.bool b)) (hT : b = true → RunO P N ops os ((t, .bool true) :: E) Γ K)
  (hF : b = false → RunO P N ops os ((t, .bool false) :: E) Γ K) : RunO P N ops os E Γ K := by
 intro A F w a Z hf hs hz
 have hl : ∀ c, b = c → Fr N ((t, .bool c) :: E) a := fun c hc => hf.le (Le.cons (by rw [he, hc]) (Le.refl _))
 cases b with
 | true => exact hT rfl A F w a Z (hl _ rfl) hs hz
 | false => exact hF rfl A F w a Z (hl _ rfl) hs hz
theorem RunO.alter {t : Nat} {v v' : Value} (he : lk E t = some v) (hv : v = v') (next : RunO P N ops os ((t, v') :: E) Γ K) : RunO P N ops os E Γ K :=
 fun A F w a Z hf hs hz => next A F w a Z (hf.le (Le.cons (by rw [he, hv]) (Le.refl _))) hs hz
theorem RunO.weak {E' : Env} (l : Le E' E) (next : RunO P N ops os E' Γ K) : RunO P N ops os E Γ K :=
 fun A F w a Z hf hs hz => next A F w a Z (hf.le l) hs hz
theorem wpL_append {Q : Exit → Act → World → Prop} : ∀ {os1 os2 : List Oper} {a w} {Q1 : Exit → Act → World → Prop}, wpL P ops Q1 os1 a w →
  (∀ a w, Q1 .normal a w → wpL P ops Q os2 a w) → (∀ e a w, e ≠ .normal → Q1 e a w → Q e a w) → wpL P ops Q (os1 ++ os2) a w := by
 intro os1
 induction os1 with
 | nil => intro os2 a w Q1 h h1 _; exact h1 a w h
 | cons o os1 ih =>
  intro os2 a w Q1 h h1 h2
  simp only [List.cons_append, wpL] at h ⊢
  split at h
  ·
   rename_i hq
   simp only [hq, if_true]
   unfold Oper.wp at *
   generalize (execOp a.eval o).run P w = r at *
   cases r with
   | ok n w' =>
    cases n <;> simp only [Oper.upon] at h ⊢
    ·
     exact ih h h1 h2
    ·
     exact ih h h1 h2
    ·
     refine Calls.mono h ?_
     intro e w'' he
     cases e with
     | returned v => exact ih he h1 h2
     | panicked c => exact h2 _ _ _ (by simp) he
     | outgrown => obtain ⟨a0, w0, q⟩ := he; exact ⟨a0, w0, h2 _ _ _ (by simp) q⟩
    ·
     exact ih h h1 h2
    ·
     exact Rows.mono h fun v w'' he => ih he h1 h2
   | halt x w' => cases x <;> simp only [Oper.upon] at h ⊢ <;> exact h2 _ _ _ (by simp) h
  ·
   rename_i hq
   simp only [hq]
   exact ih h h1 h2
theorem RunO.cut (n : Nat) {K1 : Env → List SProp → Prop} (h1 : RunO P N ops (os.take n) E Γ K1) (h2 : ∀ E' Γ', K1 E' Γ' → RunO P N ops (os.drop n) E' Γ' K) :
  RunO P N ops os E Γ K := by
 intro A F w a Z hf hs hz
 have := h1 A F w a (fun e a' w' => match e with | .normal => wpL P ops Z (os.drop n) a' w' | _ => False) hf hs
  (fun E' Γ' w' a' hk hf' hs' => h2 E' Γ' hk A F w' a' Z hf' hs' hz)
 have h3 := wpL_append (os2 := os.drop n) (Q := Z) this (fun _ _ h => h) (fun e a w hne h => by cases e <;> first | exact absurd rfl hne | exact h.elim)
 rwa [List.take_append_drop] at h3
theorem RunO.join (n : Nat) (t : Nat) (b : Bool) (h1 : RunO P N ops (os.take n) E Γ fun E' Γ' => Γ' = Γ ∧ lk E' t = some (.bool b) ∧ Le E E')
  (h2 : RunO P N ops (os.drop n) ((t, .bool b) :: E) Γ K) : RunO P N ops os E Γ K :=
 RunO.cut n h1 fun _ _ ⟨hΓ, ht, hl⟩ => by subst hΓ; exact h2.weak (Le.cons ht hl)
theorem RunO.perm {Γ' : List SProp} {Δ : List SProp} (p : Picks Γ' Γ Δ) (next : RunO P N ops os E Γ' K) : RunO P N ops os E Γ K := by
 intro A F w a Z hf hs hz
 refine next A F w a Z hf ?_ hz
 obtain ⟨am, h, f, t⟩ := hs
 have t' := (p.app F).sat t
 obtain ⟨h1, h2, ok, l1, l2, s1, s2⟩ := t'.split
 have s3 : sat F h2 := by
  obtain ⟨_, k2, _, _, m2, _, s⟩ := s2.split
  exact s.mono m2
 exact ⟨am, h, f, sat.join ok l1 l2 s1 s3⟩
theorem Sat.swap_in {A w} {Γ Γ' Δ F : List SProp} (p : Picks Δ Γ Γ') (s : Sat A w (Γ ++ F)) : Sat A w (Δ ++ (Γ' ++ F)) := s.map fun _ => (p.app F).sat
theorem RunO.open_ {X : SProp} {Γ' : List SProp} {σ : Type} {φ : σ → Prop} {B : σ → List SProp} (p : Pick X Γ Γ') (hX : ∀ h, X h → ∃ s, φ s ∧ sat (B s) h)
  (next : ∀ s, φ s → RunO P N ops os E (B s ++ Γ') K) : RunO P N ops os E Γ K := by
 intro A F w a Z hf hs hz
 have h1 : Sat A w (X :: (Γ' ++ F)) := hs.map fun _ => (p.app F).sat
 obtain ⟨s, hφ, h2⟩ := Sat.open_ hX h1
 exact next s hφ A F w a Z hf (by rwa [List.append_assoc]) hz
theorem RunO.close {X : SProp} {B Γ' : List SProp} (p : Picks B Γ Γ') (hX : ∀ h, sat B h → X h) (next : RunO P N ops os E (X :: Γ') K) : RunO P N ops os E Γ K := by
 intro A F w a Z hf hs hz
 have h1 := hs.swap_in p
 exact next A F w a Z hf (Sat.close hX h1) hz
theorem RunO.tell {φ : Prop} (k : Knows Γ fun _ => φ) (next : φ → RunO P N ops os E Γ K) : RunO P N ops os E Γ K :=
 fun A F w a Z hf hs hz => next (k A w hs.left) A F w a Z hf hs hz
end
def RunW (P : Program) (f : FuncId) (k : List Item) (a : Act) (w : World) (R : Value → World → Prop) : Prop :=
 ∀ (b : Frame) (cs : List Frame), b.fn = f → b.kind = .normal → ∃ v w' fr, R v w' ∧ Steps P (lone (b.at a k) cs w) (lone fr cs w') ∧ fr.fn = f ∧ fr.leaving P w' (.returned v)
theorem RunW.step {P f k k' a a' w w' R} (h : ∀ (b : Frame) cs, step P (lone (b.at a k) cs w) = .next (lone (b.at a' k') cs w')) (n : RunW P f k' a' w' R) : RunW P f k a w R := by
 intro b cs hb hk
 obtain ⟨v, w1, fr, r, s, x⟩ := n b cs hb hk
 exact ⟨v, w1, fr, r, .head (h b cs) s, x⟩
structure Cx where
 P : Program
 f : FuncId
 fn : Func
def Run (C : Cx) (k : List Item) (E : Env) (Γ : List SProp) (Q : Value → List SProp → Prop) : Prop :=
 ∀ A F w a, Fr C.fn.ntmps E a → Sat A w (Γ ++ F) → RunW C.P C.f k a w fun v w' => ∃ Γ', Q v Γ' ∧ Sat A w' (Γ' ++ F)
section
variable {C : Cx} {k : List Item} {E : Env} {Γ : List SProp} {Q : Value → List SProp → Prop}
theorem Run.weak {E' : Env} (l : Le E' E) (n : Run C k E' Γ Q) : Run C k E Γ Q := fun A F w a hf hs => n A F w a (hf.le l) hs
theorem Run.perm {Γ' Δ : List SProp} (p : Picks Γ' Γ Δ) (n : Run C k E Γ' Q) : Run C k E Γ Q := by
 intro A F w a hf hs
 refine n A F w a hf ?_
 obtain ⟨am, h, f, t⟩ := hs
 obtain ⟨h1, h2, ok, l1, l2, s1, s2⟩ := ((p.app F).sat t).split
 obtain ⟨_, k2, _, _, m2, _, s⟩ := s2.split
 exact ⟨am, h, f, sat.join ok l1 l2 s1 (s.mono m2)⟩
theorem Run.to {E' : Env} {Γ' Δ : List SProp} (l : Le E' E) (p : Picks Γ' Γ Δ) (n : Run C k E' Γ' Q) : Run C k E Γ Q := (n.perm p).weak l
theorem Run.open_ {X : SProp} {Γ' : List SProp} {σ : Type} {φ : σ → Prop} {B : σ → List SProp} (p : Pick X Γ Γ') (hX : ∀ h, X h → ∃ s, φ s ∧ sat (B s) h)
  (next : ∀ s, φ s → Run C k E (B s ++ Γ') Q) : Run C k E Γ Q := by
 intro A F w a hf hs
 have h1 : Sat A w (X :: (Γ' ++ F)) := hs.map fun _ => (p.app F).sat
 obtain ⟨s, hφ, h2⟩ := Sat.open_ hX h1
 exact next s hφ A F w a hf (by rwa [List.append_assoc])
theorem Run.close {X : SProp} {B Γ' : List SProp} (p : Picks B Γ Γ') (hX : ∀ h, sat B h → X h) (next : Run C k E (X :: Γ') Q) : Run C k E Γ Q :=
 fun A F w a hf hs => next A F w a hf (Sat.close hX (hs.swap_in p))
theorem Run.tell {φ : Prop} (h : Knows Γ fun _ => φ) (next : φ → Run C k E Γ Q) : Run C k E Γ Q :=
 fun A F w a hf hs => next (h A w hs.left) A F w a hf hs
theorem Run.alter {t : Nat} {v v' : Value} (he : lk E t = some v) (hv : v = v') (next : Run C k ((t, v') :: E) Γ Q) : Run C k E Γ Q :=
 next.weak (Le.cons (by rw [he, hv]) (Le.refl _))
theorem Run.skip (n : Run C k E Γ Q) : Run C (.code .skip :: k) E Γ Q := fun A F w a hf hs => .step (fun _ _ => step_skip) (n A F w a hf hs)
theorem Run.inBlock {id} (n : Run C k E Γ Q) : Run C (.inBlock id :: k) E Γ Q := fun A F w a hf hs => .step (fun _ _ => step_inBlock) (n A F w a hf hs)
theorem Run.seq {x y} (n : Run C (.code x :: .code y :: k) E Γ Q) : Run C (.code (.seq x y) :: k) E Γ Q := fun A F w a hf hs => .step (fun _ _ => step_seq) (n A F w a hf hs)
theorem Run.block {id c} (n : Run C (.code c :: .inBlock id :: k) E Γ Q) : Run C (.code (.block id c) :: k) E Γ Q := fun A F w a hf hs => .step (fun _ _ => step_block) (n A F w a hf hs)
theorem Run.exit {id k'} (h : exitTo id k = some k') (n : Run C k' E Γ Q) : Run C (.code (.exit id) :: k) E Γ Q := fun A F w a hf hs => .step (fun _ _ => step_exit h) (n A F w a hf hs)
theorem Run.inLoop {c} (n : Run C (.code c :: .inLoop c :: k) E Γ Q) : Run C (.inLoop c :: k) E Γ Q := fun A F w a hf hs => .step (fun _ _ => step_inLoop) (n A F w a hf hs)
theorem Run.loop0 {c} (n : Run C (.code c :: .inLoop c :: k) E Γ Q) : Run C (.code (.loop c) :: k) E Γ Q := fun A F w a hf hs => .step (fun _ _ => step_loop) (n A F w a hf hs)
theorem Run.cond {c x y} {b : Bool} (h : ev E c = some (.bool b)) (hT : b = true → Run C (.code x :: k) E Γ Q) (hF : b = false → Run C (.code y :: k) E Γ Q) :
  Run C (.code (.cond c x y) :: k) E Γ Q := by
 intro A F w a hf hs
 refine .step (fun _ _ => step_cond (hf.eval h)) ?_
 cases b with
 | true => exact hT rfl A F w a hf hs
 | false => exact hF rfl A F w a hf hs
theorem Run.condP {c x y} {p : Prop} [Decidable p] (h : ev E c = some (.bool (decide p))) (hT : p → Run C (.code x :: k) E Γ Q) (hF : ¬ p → Run C (.code y :: k) E Γ Q) :
  Run C (.code (.cond c x y) :: k) E Γ Q := .cond h (fun e => hT (of_decide_eq_true e)) (fun e => hF (of_decide_eq_false e))
theorem Run.condN {c x y} {p : Prop} [Decidable p] (h : ev E c = some (.bool (!decide p))) (hT : ¬ p → Run C (.code x :: k) E Γ Q) (hF : p → Run C (.code y :: k) E Γ Q) :
  Run C (.code (.cond c x y) :: k) E Γ Q := .cond h (fun e => hT (by simpa using e)) (fun e => hF (by simpa using e))
theorem Run.condT {c x y} (h : ev E c = some (.bool true)) (n : Run C (.code x :: k) E Γ Q) : Run C (.code (.cond c x y) :: k) E Γ Q := .cond h (fun _ => n) (fun e => by cases e)
theorem Run.condF {c x y} (h : ev E c = some (.bool false)) (n : Run C (.code y :: k) E Γ Q) : Run C (.code (.cond c x y) :: k) E Γ Q := .cond h (fun e => by cases e) (fun _ => n)
theorem Run.loop {c} {σ : Type} (I : σ → Prop) (μ : σ → Nat) (e : σ → Env) (g : σ → List SProp) (s0 : σ) (h0 : I s0) {Δ : List SProp} (hE : Le (e s0) E) (hΓ : Picks (g s0) Γ Δ)
  (body : ∀ s, I s → (∀ s', I s' → μ s' < μ s → Run C (.inLoop c :: k) (e s') (g s') Q) → Run C (.code c :: .inLoop c :: k) (e s) (g s) Q) :
  Run C (.code (.loop c) :: k) E Γ Q := by
 have key : ∀ n s, μ s = n → I s → Run C (.code c :: .inLoop c :: k) (e s) (g s) Q := by
  intro n
  induction n using Nat.strongRecOn with
  | _ n ih =>
   intro s hs hI
   exact body s hI fun s' hI' hlt => .inLoop (ih (μ s') (hs ▸ hlt) s' rfl hI')
 exact (Run.loop0 (key _ s0 rfl h0)).to hE hΓ
theorem Run.region {id ops} (h : RunO C.P C.fn.ntmps ops ops.toList E Γ fun E' Γ' => Run C k E' Γ' Q) : Run C (.code (.region id ops false) :: k) E Γ Q := by
 intro A F w a hf hs b cs hb hk
 have h1 := h A F w a (fun e a' w' => match e with | .normal => RunW C.P C.f k a' w' fun v w'' => ∃ Γ', Q v Γ' ∧ Sat A w'' (Γ' ++ F) | _ => False) hf hs
  (fun E' Γ' w' a' hk' hf' hs' => hk' A F w' a' hf' hs')
 have h2 : (Code.region id ops false).wp C.P (fun e a' w' => match e with | .normal => RunW C.P C.f k a' w' fun v w'' => ∃ Γ', Q v Γ' ∧ Sat A w'' (Γ' ++ F) | _ => False) a w := by
  refine wp_region ?_
  have := wpOps_of_wpL (P := C.P) (ops := ops) ops.size 0 (by omega) a w (by simpa using h1)
  rwa [← List.range_eq_range'] at this
 obtain ⟨e, a', w', q, arr⟩ := h2 b k cs
 cases e with
 | normal =>
  obtain ⟨v, w1, fr, r, s, x⟩ := q b cs hb hk
  exact ⟨v, w1, fr, r, arr.trans s, x⟩
 | _ => exact q.elim
end
def Able (P : Program) (f : FuncId) : Prop := ∃ fn : Func, P.funcs[f]? = some fn ∧ (fn.name == "runtime.NumGoroutine") = false ∧ fn.body.isNone = false
structure Ret (P : Program) (f : FuncId) (args : List Value) (Γ : List SProp) (Q : Value → List SProp → Prop) : Prop where
 able : Able P f
 runs : ∀ A F w, Sat A w (Γ ++ F) → Calls P f args.toArray w fun e w' => ∃ v Γ', e = .returned v ∧ Q v Γ' ∧ Sat A w' (Γ' ++ F)
theorem Ret.mono {P f args Γ} {Q Q' : Value → List SProp → Prop} (h : Ret P f args Γ Q) (hq : ∀ v Γ', Q v Γ' → Q' v Γ') : Ret P f args Γ Q' :=
 ⟨h.able, fun A F w s => (h.runs A F w s).mono fun _ _ ⟨v, Γ', e, q, s'⟩ => ⟨v, Γ', e, hq _ _ q, s'⟩⟩
def argEnv : Nat → List Value → Env
 | _, [] => []
 | n, v :: vs => (n, v) :: argEnv (n + 1) vs
theorem lk_argEnv : ∀ (vs : List Value) (n t : Nat) (v : Value), lk (argEnv n vs) t = some v → n ≤ t ∧ vs[t - n]? = some v
 | [], _, _, _, e => by simp [argEnv, lk] at e
 | u :: vs, n, t, v, e => by
  simp only [argEnv, lk] at e
  cases hb : Nat.beq t n with
  | true =>
   have := Nat.eq_of_beq_eq_true hb
   subst this
   simpa [hb] using e
  | false =>
   have hne : t ≠ n := fun e' => by subst e'; simp at hb
   obtain ⟨h1, h2⟩ := lk_argEnv vs (n + 1) t v (by simpa [hb] using e)
   refine ⟨by omega, ?_⟩
   have : t - n = (t - (n + 1)) + 1 := by omega
   rw [this]; simpa using h2
theorem Ret.enter {P : Program} {f : FuncId} {fn : Func} {c : Code} {args : List Value} {Γ : List SProp} {Q : Value → List SProp → Prop} (hf : P.funcs[f]? = some fn) (hb : fn.body = some c)
  (hn : (fn.name == "runtime.NumGoroutine") = false) (hl : Nat.ble args.length fn.ntmps = true) (h : Run ⟨P, f, fn⟩ [.code c] (argEnv 0 args) Γ Q) : Ret P f args Γ Q := by
 refine ⟨⟨fn, hf, hn, by simp [hb]⟩, fun A F w s => ?_⟩
 intro cs
 let b : Frame := { (default : Frame) with fn := f, kind := .normal }
 have henter : Frame.enter P f args.toArray .normal = b.at { tmps := args.toArray ++ Array.replicate (fn.ntmps - args.toArray.size) undef, defers := [] } [.code c] := by
  simp [Frame.enter, Frame.at, hf, hb, b]
 have hle : args.length ≤ fn.ntmps := Nat.le_of_ble_eq_true hl
 have hfr : Fr fn.ntmps (argEnv 0 args) { tmps := args.toArray ++ Array.replicate (fn.ntmps - args.toArray.size) undef, defers := [] } := by
  refine ⟨rfl, by simp; omega, fun t v e => ?_⟩
  obtain ⟨_, h2⟩ := lk_argEnv args 0 t v e
  have hlt : t < args.length := (List.getElem?_eq_some_iff.1 h2).1
  rw [Array.getElem?_append_left (by simpa using hlt)]
  simpa using h2
 obtain ⟨v, w', fr, ⟨Γ', q, s'⟩, hst, hfn, hle'⟩ := h A F w _ hfr s b cs rfl rfl
 rw [henter]
 exact ⟨.returned v, w', fr, ⟨v, Γ', rfl, q, s'⟩, hst, hfn, hle'⟩
def resOf (E : Env) : List ResultVar → Option (List Value)
 | [] => some []
 | .tmp t :: rs => match lk E t with
  | some v => match resOf E rs with
   | some vs => some (v :: vs)
   | none => none
  | none => none
 | _ => none
def resVal : List Value → Value
 | [v] => v
 | vs => .tuple vs.toArray
theorem results_of {P fn E a w} {N : Nat} (hf : Fr N E a) {vs : List Value} (h : resOf E fn.results.toList = some vs) : (results fn a.tmps).run P w = .ok (resVal vs) w := by
 have key : ∀ (rs : List ResultVar) vs, resOf E rs = some vs →
   (rs.mapM (m := Sem) fun | .tmp t => (Pure.pure (a.tmps.getD t undef) : Sem Value) | .cell x t => do loadVar t (← asAddr (a.tmps.getD x undef))) = Sem.pure vs := by
  intro rs
  induction rs with
  | nil => intro vs e; simp [resOf] at e; subst e; rfl
  | cons r rs ih =>
   intro vs e
   cases r with
   | cell x t => simp [resOf] at e
   | tmp t =>
    simp only [resOf] at e
    cases e1 : lk E t with
    | none => simp [e1] at e
    | some v =>
     cases e2 : resOf E rs with
     | none => simp [e1, e2] at e
     | some us =>
      simp [e1, e2] at e
      subst e
      have h1 := hf.look t v e1
      rw [List.mapM_cons, ih us e2]
      have : a.tmps.getD t undef = v := by simp [h1]
      simp only [this]; rfl
 have h2 := key fn.results.toList vs h
 have h3 : fn.results = fn.results.toList.toArray := rfl
 unfold results
 rw [h3, List.mapM_toArray]
 erw [h2]
 match vs with
 | [] => rfl
 | [v] => rfl
 | u :: v :: vs => simp only [resVal]; rfl
end Go.Sp
/- A separation logic over the given machine. Part 2: operations on numbers, truth values and texts; addresses; aggregates. -/
namespace Go.Sp
open Go
section
variable {P : Program} {N : Nat} {E : Env} {Γ : List SProp} {dst : Option Tmp} {ty : TypeId} {pos : String} {after : Array Edge} {guard : Option (Nat × Bool)}
theorem Reads.move {x v} (h : ev E x = some v) : Reads P N E Γ ⟨dst, .move x, ty, pos, after, guard⟩ v := fun _ w a hf _ => by
 simp [execOp, hf.eval h]
theorem Reads.assign {x v} (h : ev E x = some v) : Reads P N E Γ ⟨dst, .assign x, ty, pos, after, guard⟩ v := fun _ w a hf _ => by
 simp [execOp, hf.eval h]
theorem Reads.pick {c x y v} {b : Bool} (hc : ev E c = some (.bool b)) (hT : b = true → ev E x = some v) (hF : b = false → ev E y = some v) : Reads P N E Γ ⟨dst, .pick c x y, ty, pos, after, guard⟩ v := fun _ w a hf _ => by
 cases b with
 | true => simp [execOp, hf.eval hc, asBool, hf.eval (hT rfl)]
 | false => simp [execOp, hf.eval hc, asBool, hf.eval (hF rfl)]
theorem Reads.pickT {c x y v} (hc : ev E c = some (.bool true)) (h : ev E x = some v) : Reads P N E Γ ⟨dst, .pick c x y, ty, pos, after, guard⟩ v := .pick hc (fun _ => h) (fun e => by cases e)
theorem Reads.pickF {c x y v} (hc : ev E c = some (.bool false)) (h : ev E y = some v) : Reads P N E Γ ⟨dst, .pick c x y, ty, pos, after, guard⟩ v := .pick hc (fun e => by cases e) (fun _ => h)
theorem Reads.not {x t} {b : Bool} (h : ev E x = some (.bool b)) : Reads P N E Γ ⟨dst, .unOp .not t x, ty, pos, after, guard⟩ (.bool (!b)) := fun _ w a hf _ => by
 simp [execOp, hf.eval h, Op.unary]
theorem Reads.nilCheck {x} {p : Addr} (h : ev E x = some (.pointer (some p))) : Reads P N E Γ ⟨dst, .nilCheck x, ty, pos, after, guard⟩ (.pointer (some p)) := fun _ w a hf _ => by
 simp [execOp, hf.eval h]
theorem Reads.extract {x vs v} {i : Nat} (h : ev E x = some (.tuple vs)) (hi : vs[i]? = some v) : Reads P N E Γ ⟨dst, .extract x i, ty, pos, after, guard⟩ v := fun _ w a hf _ => by
 simp [execOp, hf.eval h, Instr.extract, hi]
theorem Reads.makeFunc {fn first cap fs cs} (h1 : evs E first.toList = some fs) (h2 : evs E cap.toList = some cs) : Reads P N E Γ ⟨dst, .makeFunc fn first cap, ty, pos, after, guard⟩ (.func fn fs.toArray cs.toArray) := fun _ w a hf _ => by
 have e1 : first.map a.eval = fs.toArray := by
  have := congrArg List.toArray (hf.evals h1)
  rw [← this, ← Array.toList_map]
 have e2 : cap.map a.eval = cs.toArray := by
  have := congrArg List.toArray (hf.evals h2)
  rw [← this, ← Array.toList_map]
 simp [execOp, Instr.makeFunc, e1, e2]
theorem eqGuard_int {op t x y} {j k : IntKind} {a b : Int} (P : Program) (w : World) : (eqGuard op t x y (.int j a) (.int k b)).run P w = .ok () w := by
 unfold eqGuard; cases op <;> rfl
theorem eqGuard_bool {op t x y} {a b : Bool} (P : Program) (w : World) : (eqGuard op t x y (.bool a) (.bool b)).run P w = .ok () w := by
 unfold eqGuard; cases op <;> rfl
theorem eqGuard_string {op t x y} {a b : ByteArray} (P : Program) (w : World) : (eqGuard op t x y (.string a) (.string b)).run P w = .ok () w := by
 unfold eqGuard; cases op <;> rfl
theorem eqGuard_pointer {op t x y} {a b : Option Addr} (P : Program) (w : World) : (eqGuard op t x y (.pointer a) (.pointer b)).run P w = .ok () w := by
 unfold eqGuard; cases op <;> rfl
theorem eqGuard_slice {op t x y} {a b : Option Addr} {m n k l} (P : Program) (w : World) : (eqGuard op t x y (.slice a m n) (.slice b k l)).run P w = .ok () w := by
 unfold eqGuard; cases op <;> rfl
theorem Reads.arith {op t x y t'} {k : IntKind} {m n : Int} {v : Value} (hx : ev E x = some (.int k m)) (hy : ev E y = some (.int k n))
  (h : ∀ w, (binOp op t (.int k m) (.int k n)).run P w = .ok v w) : Reads P N E Γ ⟨dst, .binOp op t x y t', ty, pos, after, guard⟩ v := fun _ w a hf _ => by
 simp [execOp, hf.eval hx, hf.eval hy, eqGuard_int, h]
theorem Reads.addW {t x y t'} {k : IntKind} {m n : Int} (hx : ev E x = some (.int k m)) (hy : ev E y = some (.int k n)) :
  Reads P N E Γ ⟨dst, .binOp .add t x y t', ty, pos, after, guard⟩ (.int k (k.wrap (m + n))) := .arith hx hy fun w => by simp [binOp, Op.intArith]
theorem Reads.subW {t x y t'} {k : IntKind} {m n : Int} (hx : ev E x = some (.int k m)) (hy : ev E y = some (.int k n)) :
  Reads P N E Γ ⟨dst, .binOp .sub t x y t', ty, pos, after, guard⟩ (.int k (k.wrap (m - n))) := .arith hx hy fun w => by simp [binOp, Op.intArith]
theorem Reads.mulW {t x y t'} {k : IntKind} {m n : Int} (hx : ev E x = some (.int k m)) (hy : ev E y = some (.int k n)) :
  Reads P N E Γ ⟨dst, .binOp .mul t x y t', ty, pos, after, guard⟩ (.int k (k.wrap (m * n))) := .arith hx hy fun w => by simp [binOp, Op.intArith]
theorem wrap_i64 {n : Int} (h1 : -9223372036854775808 ≤ n) (h2 : n ≤ 9223372036854775807) : IntKind.i64.wrap n = n := by
 unfold IntKind.wrap
 simp only [IntKind.bits, IntKind.signed, Bool.true_and, decide_eq_true_eq, show (2 : Int) ^ 64 = 18446744073709551616 from rfl, show (2 : Int) ^ (64 - 1) = 9223372036854775808 from rfl]
 by_cases h : n % 18446744073709551616 ≥ 9223372036854775808
 ·
  rw [if_pos h]; omega
 ·
  rw [if_neg h]; omega
theorem Reads.add {t x y t'} {m n : Int} (hx : ev E x = some (.int .i64 m)) (hy : ev E y = some (.int .i64 n)) (h1 : -9223372036854775808 ≤ m + n) (h2 : m + n ≤ 9223372036854775807) :
  Reads P N E Γ ⟨dst, .binOp .add t x y t', ty, pos, after, guard⟩ (.int .i64 (m + n)) := by
 have := Reads.addW (P := P) (N := N) (Γ := Γ) (dst := dst) (ty := ty) (pos := pos) (after := after) (guard := guard) (t := t) (t' := t') hx hy
 rwa [wrap_i64 h1 h2] at this
theorem Reads.sub {t x y t'} {m n : Int} (hx : ev E x = some (.int .i64 m)) (hy : ev E y = some (.int .i64 n)) (h1 : -9223372036854775808 ≤ m - n) (h2 : m - n ≤ 9223372036854775807) :
  Reads P N E Γ ⟨dst, .binOp .sub t x y t', ty, pos, after, guard⟩ (.int .i64 (m - n)) := by
 have := Reads.subW (P := P) (N := N) (Γ := Γ) (dst := dst) (ty := ty) (pos := pos) (after := after) (guard := guard) (t := t) (t' := t') hx hy
 rwa [wrap_i64 h1 h2] at this
theorem Reads.mul {t x y t'} {m n : Int} (hx : ev E x = some (.int .i64 m)) (hy : ev E y = some (.int .i64 n)) (h1 : -9223372036854775808 ≤ m * n) (h2 : m * n ≤ 9223372036854775807) :
  Reads P N E Γ ⟨dst, .binOp .mul t x y t', ty, pos, after, guard⟩ (.int .i64 (m * n)) := by
 have := Reads.mulW (P := P) (N := N) (Γ := Γ) (dst := dst) (ty := ty) (pos := pos) (after := after) (guard := guard) (t := t) (t' := t') hx hy
 rwa [wrap_i64 h1 h2] at this
theorem Reads.neg {t x} {n : Int} (hx : ev E x = some (.int .i64 n)) (h1 : -9223372036854775807 ≤ n) (h2 : n ≤ 9223372036854775807) :
  Reads P N E Γ ⟨dst, .unOp .neg t x, ty, pos, after, guard⟩ (.int .i64 (-n)) := fun _ w a hf _ => by
 simp [execOp, hf.eval hx, Op.unary, Op.intArith]
 rw [wrap_i64 (by omega) (by omega)]
theorem Reads.negW {t x} {k : IntKind} {n : Int} (hx : ev E x = some (.int k n)) :
  Reads P N E Γ ⟨dst, .unOp .neg t x, ty, pos, after, guard⟩ (.int k (k.wrap (-n))) := fun _ w a hf _ => by
 simp [execOp, hf.eval hx, Op.unary, Op.intArith]
theorem Reads.quo {t x y t'} {m n : Int} (hx : ev E x = some (.int .i64 m)) (hy : ev E y = some (.int .i64 n)) (h0 : 0 ≤ m) (h1 : 0 < n) (h2 : m ≤ 9223372036854775807) :
  Reads P N E Γ ⟨dst, .binOp .quo t x y t', ty, pos, after, guard⟩ (.int .i64 (m / n)) := .arith hx hy fun w => by
 have hn : n ≠ 0 := by omega
 have hd : m.tdiv n = m / n := Int.tdiv_eq_ediv_of_nonneg h0
 have e1 : 0 ≤ m / n := Int.ediv_nonneg h0 (by omega)
 have e2 : m / n ≤ m := Int.ediv_le_self n h0
 simp [binOp, Op.intDiv, hn, hd, wrap_i64 (n := m / n) (by omega) (by omega)]
theorem Reads.rem {t x y t'} {k : IntKind} {m n : Int} (hx : ev E x = some (.int k m)) (hy : ev E y = some (.int k n)) (h0 : 0 ≤ m) (h1 : 0 < n) :
  Reads P N E Γ ⟨dst, .binOp .rem t x y t', ty, pos, after, guard⟩ (.int k (m % n)) := .arith hx hy fun w => by
 have hn : n ≠ 0 := by omega
 simp [binOp, Op.intDiv, hn, Int.tmod_eq_emod_of_nonneg h0]
theorem Reads.and {t x y t'} {k : IntKind} {m n : Int} (hx : ev E x = some (.int k m)) (hy : ev E y = some (.int k n)) :
  Reads P N E Γ ⟨dst, .binOp .and t x y t', ty, pos, after, guard⟩ (.int k (k.wrap (BitVec.ofInt k.bits m &&& BitVec.ofInt k.bits n).toNat)) := .arith hx hy fun w => by simp [binOp, Op.intBits]
theorem Reads.or {t x y t'} {k : IntKind} {m n : Int} (hx : ev E x = some (.int k m)) (hy : ev E y = some (.int k n)) :
  Reads P N E Γ ⟨dst, .binOp .or t x y t', ty, pos, after, guard⟩ (.int k (k.wrap (BitVec.ofInt k.bits m ||| BitVec.ofInt k.bits n).toNat)) := .arith hx hy fun w => by simp [binOp, Op.intBits]
theorem Reads.xor {t x y t'} {k : IntKind} {m n : Int} (hx : ev E x = some (.int k m)) (hy : ev E y = some (.int k n)) :
  Reads P N E Γ ⟨dst, .binOp .xor t x y t', ty, pos, after, guard⟩ (.int k (k.wrap (BitVec.ofInt k.bits m ^^^ BitVec.ofInt k.bits n).toNat)) := .arith hx hy fun w => by simp [binOp, Op.intBits]
theorem Reads.shl {t x y t'} {k j : IntKind} {m : Int} {n : Nat} (hx : ev E x = some (.int k m)) (hy : ev E y = some (.int j (n : Int))) :
  Reads P N E Γ ⟨dst, .binOp .shl t x y t', ty, pos, after, guard⟩ (.int k (k.wrap (m * 2 ^ (min n k.bits)))) := fun _ w a hf _ => by
 have h0 : ¬ ((n : Int) < 0) := by omega
 simp [execOp, hf.eval hx, hf.eval hy, eqGuard_int, binOp, Op.shift, h0]
theorem Reads.shr {t x y t'} {k j : IntKind} {m : Int} {n : Nat} (hx : ev E x = some (.int k m)) (hy : ev E y = some (.int j (n : Int))) :
  Reads P N E Γ ⟨dst, .binOp .shr t x y t', ty, pos, after, guard⟩ (.int k (m.fdiv (2 ^ (min n k.bits)))) := fun _ w a hf _ => by
 have h0 : ¬ ((n : Int) < 0) := by omega
 simp [execOp, hf.eval hx, hf.eval hy, eqGuard_int, binOp, Op.shift, h0]
theorem Reads.eqI {t x y t'} {k : IntKind} {m n : Int} (hx : ev E x = some (.int k m)) (hy : ev E y = some (.int k n)) :
  Reads P N E Γ ⟨dst, .binOp .eql t x y t', ty, pos, after, guard⟩ (.bool (decide (m = n))) := .arith hx hy fun w => by
 simp [binOp, Op.intCmp]; rw [Bool.eq_iff_iff]; simp
theorem Reads.neI {t x y t'} {k : IntKind} {m n : Int} (hx : ev E x = some (.int k m)) (hy : ev E y = some (.int k n)) :
  Reads P N E Γ ⟨dst, .binOp .neq t x y t', ty, pos, after, guard⟩ (.bool (!decide (m = n))) := .arith hx hy fun w => by
 simp [binOp, Op.intCmp]; rw [Bool.eq_iff_iff]; simp
theorem Reads.lt {t x y t'} {k : IntKind} {m n : Int} (hx : ev E x = some (.int k m)) (hy : ev E y = some (.int k n)) :
  Reads P N E Γ ⟨dst, .binOp .lss t x y t', ty, pos, after, guard⟩ (.bool (decide (m < n))) := .arith hx hy fun w => by simp [binOp, Op.intCmp]
theorem Reads.le {t x y t'} {k : IntKind} {m n : Int} (hx : ev E x = some (.int k m)) (hy : ev E y = some (.int k n)) :
  Reads P N E Γ ⟨dst, .binOp .leq t x y t', ty, pos, after, guard⟩ (.bool (decide (m ≤ n))) := .arith hx hy fun w => by simp [binOp, Op.intCmp]
theorem Reads.gt {t x y t'} {k : IntKind} {m n : Int} (hx : ev E x = some (.int k m)) (hy : ev E y = some (.int k n)) :
  Reads P N E Γ ⟨dst, .binOp .gtr t x y t', ty, pos, after, guard⟩ (.bool (decide (n < m))) := .arith hx hy fun w => by simp [binOp, Op.intCmp]
theorem Reads.ge {t x y t'} {k : IntKind} {m n : Int} (hx : ev E x = some (.int k m)) (hy : ev E y = some (.int k n)) :
  Reads P N E Γ ⟨dst, .binOp .geq t x y t', ty, pos, after, guard⟩ (.bool (decide (n ≤ m))) := .arith hx hy fun w => by simp [binOp, Op.intCmp]
theorem Reads.convInt {s d x} {k j : IntKind} {n : Int} {ds : TypeDesc} (hs : P.underlying s = some ds) (hd : P.underlying d = some (.int k)) (hx : ev E x = some (.int j n)) :
  Reads P N E Γ ⟨dst, .convert s d x, ty, pos, after, guard⟩ (.int k (k.wrap n)) := fun _ w a hf _ => by
 simp only [execOp, hf.eval hx, convert, underlying, Sem.run_bind, run_program, Result.andThen_ok, hs, hd, Sem.run_pure]
 simp [Conv.intToInt]
theorem equalIn_bool {t} {a b : Bool} (hu : P.underlying t = some .bool) (d : Nat) (w : World) : (Op.equalIn (d + 1) t (.bool a) (.bool b)).run P w = .ok (a == b) w := by
 rw [Op.equalIn.eq_def]; simp [underlying, hu]
theorem equalIn_int {t} {k j : IntKind} {a b : Int} (hu : P.underlying t = some (.int k)) (d : Nat) (w : World) : (Op.equalIn (d + 1) t (.int j a) (.int j b)).run P w = .ok (a == b) w := by
 rw [Op.equalIn.eq_def]; simp [underlying, hu]
theorem equalIn_string {t} {a b : ByteArray} (hu : P.underlying t = some .string) (d : Nat) (w : World) : (Op.equalIn (d + 1) t (.string a) (.string b)).run P w = .ok (a == b) w := by
 rw [Op.equalIn.eq_def]; simp [underlying, hu]
theorem equalIn_nilP {t e} {p : Option Addr} (hu : P.underlying t = some (.pointer e)) (d : Nat) (w : World) : (Op.equalIn (d + 1) t (.pointer p) (.pointer none)).run P w = .ok p.isNone w := by
 rw [Op.equalIn.eq_def]; cases p <;> simp [underlying, hu]
theorem equalIn_nilL {t e} {p : Option Addr} {n c} (hu : P.underlying t = some (.slice e)) (d : Nat) (w : World) : (Op.equalIn (d + 1) t (.slice p n c) (.slice none 0 0)).run P w = .ok p.isNone w := by
 rw [Op.equalIn.eq_def]; cases p <;> simp [underlying, hu]
theorem binOp_eql {t} {x y : Value} {b : Bool} (hb : ∀ _ : World, (binOp .eql t x y) = (do Pure.pure (.bool (← Op.equal t x y)))) (w : World) (h : (Op.equalIn (9999 + 1) t x y).run P w = .ok b w) :
  (binOp .eql t x y).run P w = .ok (.bool b) w := by
 rw [hb w]
 have h' : (Op.equal t x y).run P w = .ok b w := h
 simp [h']
theorem binOp_neq {t} {x y : Value} {b : Bool} (hb : ∀ _ : World, (binOp .neq t x y) = (do Pure.pure (.bool (!(← Op.equal t x y))))) (w : World) (h : (Op.equalIn (9999 + 1) t x y).run P w = .ok b w) :
  (binOp .neq t x y).run P w = .ok (.bool (!b)) w := by
 rw [hb w]
 have h' : (Op.equal t x y).run P w = .ok b w := h
 simp [h']
theorem Reads.bin {op t x y t'} {u v z : Value} (hx : ev E x = some u) (hy : ev E y = some v) (hg : ∀ w, (eqGuard op t x y u v).run P w = .ok () w) (h : ∀ w, (binOp op t u v).run P w = .ok z w) :
  Reads P N E Γ ⟨dst, .binOp op t x y t', ty, pos, after, guard⟩ z := fun _ w a hf _ => by
 simp only [execOp, hf.eval hx, hf.eval hy, Sem.run_bind, hg, Result.andThen_ok, h, Sem.run_pure]
theorem toList_inj {s t : ByteArray} : s.toList = t.toList ↔ s = t := by
 constructor
 ·
  intro h
  rw [ByteArray.toList_eq, ByteArray.toList_eq] at h
  cases s; cases t
  simp at h; simp [h]
 ·
  rintro rfl; rfl
theorem Reads.eqS {t x y t'} {m n : ByteArray} (hx : ev E x = some (.string m)) (hy : ev E y = some (.string n)) :
  Reads P N E Γ ⟨dst, .binOp .eql t x y t', ty, pos, after, guard⟩ (.bool (decide (m = n))) := fun _ w a hf _ => by
 simp [execOp, hf.eval hx, hf.eval hy, eqGuard_string, binOp, Op.stringOp]
 rw [Bool.eq_iff_iff]; simp [toList_inj]
theorem Reads.neS {t x y t'} {m n : ByteArray} (hx : ev E x = some (.string m)) (hy : ev E y = some (.string n)) :
  Reads P N E Γ ⟨dst, .binOp .neq t x y t', ty, pos, after, guard⟩ (.bool (!decide (m = n))) := fun _ w a hf _ => by
 simp [execOp, hf.eval hx, hf.eval hy, eqGuard_string, binOp, Op.stringOp]
 rw [Bool.eq_iff_iff]; simp [toList_inj]
theorem Reads.cat {t x y t'} {m n : ByteArray} (hx : ev E x = some (.string m)) (hy : ev E y = some (.string n)) (hl : m.size + n.size ≤ 9223372036854775807) :
  Reads P N E Γ ⟨dst, .binOp .add t x y t', ty, pos, after, guard⟩ (.string (m ++ n)) := fun _ w a hf _ => by
 simp [execOp, hf.eval hx, hf.eval hy, eqGuard_string, binOp, Op.stringOp]
 omega
theorem Reads.indexS {t x i} {s : ByteArray} {k : IntKind} {n : Int} {b : UInt8} (hu : P.underlying t = some .string) (hx : ev E x = some (.string s)) (hi : ev E i = some (.int k n)) (h0 : 0 ≤ n)
  (hb : s.data[n.toNat]? = some b) : Reads P N E Γ ⟨dst, .index t x i, ty, pos, after, guard⟩ (.int .u8 b.toNat) := fun _ w a hf _ => by
 have hlt : n.toNat < s.size := by
  have := (Array.getElem?_eq_some_iff.1 hb).1; exact this
 have hb' : s[n.toNat]? = some b := by
  rw [getElem?_pos s n.toNat hlt]
  have := (Array.getElem?_eq_some_iff.1 hb).2
  exact congrArg some this
 simp [execOp, hf.eval hx, hf.eval hi, Instr.index, asIntOf, underlying, hu, h0, hb']
theorem Reads.lenS {args : Array Operand} {x t ts} {s : ByteArray} (ha : args = #[x]) (hts : ts = #[t]) (hu : P.underlying t = some .string) (hx : ev E x = some (.string s)) :
  Reads P N E Γ ⟨dst, .call ⟨.builtin .len, args, ts⟩, ty, pos, after, guard⟩ (.int .i64 s.size) := fun _ w a hf _ => by
 subst ha hts
 simp [execOp, resolve, invoke, builtin, Builtin.len_, hf.eval hx, underlying, hu, goInt]
theorem Reads.lenL {args : Array Operand} {x t e ts} {p : Option Addr} {n c : Nat} (ha : args = #[x]) (hts : ts = #[t]) (hu : P.underlying t = some (.slice e)) (hx : ev E x = some (.slice p n c)) :
  Reads P N E Γ ⟨dst, .call ⟨.builtin .len, args, ts⟩, ty, pos, after, guard⟩ (.int .i64 n) := fun _ w a hf _ => by
 subst ha hts
 simp [execOp, resolve, invoke, builtin, Builtin.len_, hf.eval hx, underlying, hu, goInt]
theorem Reads.min2 {args : Array Operand} {x y ts} {k : IntKind} {m n : Int} (ha : args = #[x, y]) (hx : ev E x = some (.int k m)) (hy : ev E y = some (.int k n)) :
  Reads P N E Γ ⟨dst, .call ⟨.builtin .min, args, ts⟩, ty, pos, after, guard⟩ (.int k (if n < m then n else m)) := fun _ w a hf _ => by
 subst ha
 simp [execOp, resolve, invoke, builtin, Builtin.min_, Builtin.min2, hf.eval hx, hf.eval hy]
theorem Reads.max2 {args : Array Operand} {x y ts} {k : IntKind} {m n : Int} (ha : args = #[x, y]) (hx : ev E x = some (.int k m)) (hy : ev E y = some (.int k n)) :
  Reads P N E Γ ⟨dst, .call ⟨.builtin .max, args, ts⟩, ty, pos, after, guard⟩ (.int k (if m < n then n else m)) := fun _ w a hf _ => by
 subst ha
 simp [execOp, resolve, invoke, builtin, Builtin.max_, Builtin.max2, hf.eval hx, hf.eval hy]
theorem Reads.sliceS {t x} {s : ByteArray} {lo hi : Option Operand} {l h : Nat} (hu : P.underlying t = some .string) (hx : ev E x = some (.string s))
  (hlo : match lo with | none => l = 0 | some o => ∃ k, ev E o = some (.int k (l : Int))) (hhi : match hi with | none => h = s.size | some o => ∃ k, ev E o = some (.int k (h : Int)))
  (h1 : l ≤ h) (h2 : h ≤ s.size) : Reads P N E Γ ⟨dst, .slice t x lo hi none, ty, pos, after, guard⟩ (.string (s.extract l h)) := fun _ w a hf _ => by
 have b3 : (0 ≤ (h : Int)) := by omega
 have b4 : (0 ≤ (l : Int)) := by omega
 cases lo with
 | none =>
  simp only at hlo; subst hlo
  cases hi with
  | none => simp only at hhi; subst hhi; simp [execOp, Instr.sliceAt, Instr.slice, Instr.sliceBounds, hf.eval hx, underlying, hu]
  | some o =>
   obtain ⟨k, ho⟩ := hhi
   simp [execOp, Instr.sliceAt, Instr.slice, Instr.sliceBounds, Instr.sliceBound, asIntOf, hf.eval hx, hf.eval ho, underlying, hu, b3, h2]
 | some o' =>
  obtain ⟨k', ho'⟩ := hlo
  cases hi with
  | none => simp only at hhi; subst hhi; simp [execOp, Instr.sliceAt, Instr.slice, Instr.sliceBounds, Instr.sliceBound, asIntOf, hf.eval hx, hf.eval ho', underlying, hu, b4, h1]
  | some o =>
   obtain ⟨k, ho⟩ := hhi
   simp [execOp, Instr.sliceAt, Instr.slice, Instr.sliceBounds, Instr.sliceBound, asIntOf, hf.eval hx, hf.eval ho, hf.eval ho', underlying, hu, b3, b4, h1, h2]
theorem Reads.eqNilP {t x y t' e} {p : Option Addr} (hu : P.underlying t = some (.pointer e)) (hx : ev E x = some (.pointer p)) (hy : ev E y = some (.pointer none)) :
  Reads P N E Γ ⟨dst, .binOp .eql t x y t', ty, pos, after, guard⟩ (.bool p.isNone) :=
 .bin hx hy (eqGuard_pointer P) fun w => binOp_eql (fun _ => rfl) w (equalIn_nilP hu 9999 w)
theorem Reads.eqNilL {t x y t' e} {p : Option Addr} {n c} (hu : P.underlying t = some (.slice e)) (hx : ev E x = some (.slice p n c)) (hy : ev E y = some (.slice none 0 0)) :
  Reads P N E Γ ⟨dst, .binOp .eql t x y t', ty, pos, after, guard⟩ (.bool p.isNone) :=
 .bin hx hy (eqGuard_slice P) fun w => binOp_eql (fun _ => rfl) w (equalIn_nilL hu 9999 w)
theorem Addr_add (b o n : Nat) : (⟨b, o, none⟩ : Addr).add n = ⟨b, o + n, none⟩ := by
 unfold Addr.add; split
 ·
  rename_i h; simp_all
 ·
  rfl
def TI (P : Program) (t : TypeId) (size bytes : Nat) (zero : Value) : Prop := ∃ i, P.info? t = some i ∧ i.size = size ∧ i.bytes = bytes ∧ i.zero = some zero
def TS (P : Program) (t : TypeId) (size : Nat) : Prop := ∃ i, P.info? t = some i ∧ i.size = size
theorem TI.of {P : Program} {t s b z} (h : (P.info? t).map (fun i => (i.size, i.bytes, i.zero)) = some (s, b, some z)) : TI P t s b z := by
 cases e : P.info? t with
 | none => simp [e] at h
 | some i => simp [e] at h; exact ⟨i, e, h⟩
theorem TS.of {P : Program} {t s} (h : (P.info? t).map (·.size) = some s) : TS P t s := by
 cases e : P.info? t with
 | none => simp [e] at h
 | some i => simp [e] at h; exact ⟨i, e, h⟩
theorem TS.run {P : Program} {t s} (h : TS P t s) (w : World) : (sizeOf t).run P w = .ok s w := by
 obtain ⟨i, h1, h2⟩ := h
 simp [sizeOf, typeInfo, h1, h2]
theorem TI.zero {P : Program} {t s b z} (h : TI P t s b z) (w : World) : (zeroValue t).run P w = .ok z w := by
 obtain ⟨i, h1, h2, h3, h4⟩ := h
 simp [zeroValue, typeInfo, h1, h4]
def FD (P : Program) (s : TypeId) (f off : Nat) : Prop := ∃ fs fd n, P.underlying s = some (.struct fs) ∧ fs[f]? = some fd ∧ fd.offset = off ∧ TS P fd.type (n + 1)
theorem FD.of {P : Program} {s f off} {fs : Array Field} (h : P.underlying s = some (.struct fs)) (h1 : (fs[f]?).map (fun d => (d.offset, ((P.info? d.type).map fun i => decide (0 < i.size)).getD false)) = some (off, true)) : FD P s f off := by
 cases e : fs[f]? with
 | none => simp [e] at h1
 | some d =>
  simp [e] at h1
  obtain ⟨h2, h3⟩ := h1
  cases e2 : P.info? d.type with
  | none => simp [e2] at h3
  | some i =>
   simp [e2] at h3
   exact ⟨fs, d, i.size - 1, h, e, h2, i, e2, by omega⟩
theorem Reads.fieldAddr {s x f off} {b o : Nat} (hd : FD P s f off) (hx : ev E x = some (.pointer (some ⟨b, o, none⟩))) :
  Reads P N E Γ ⟨dst, .fieldAddr s x f, ty, pos, after, guard⟩ (.pointer (some ⟨b, o + off, none⟩)) := fun _ w a hf _ => by
 obtain ⟨fs, fd, n, h1, h2, h3, h4⟩ := hd
 simp [execOp, hf.eval hx, Instr.fieldAt, underlying, h1, h2, Instr.sureAddr, fieldPlace, h4.run, Addr_add, h3]
theorem Reads.indexAddr {t x i e} {b o n c s : Nat} {k : IntKind} {j : Int} (hu : P.underlying t = some (.slice e)) (hs : TS P e s) (hx : ev E x = some (.slice (some ⟨b, o, none⟩) n c)) (hi : ev E i = some (.int k j))
  (h0 : 0 ≤ j) (h1 : j < n) : Reads P N E Γ ⟨dst, .indexAddr t x i, ty, pos, after, guard⟩ (.pointer (some ⟨b, o + j.toNat * s, none⟩)) := fun _ w a hf _ => by
 simp [execOp, hf.eval hx, hf.eval hi, Instr.indexAt, underlying, hu, asIntOf, h0, h1, hs.run, Addr_add]
def NotAgg (P : Program) (t : TypeId) : Prop := ∃ d, P.underlying t = some d ∧ (match d with | .struct _ | .array _ _ => False | _ => True)
def IsAgg (P : Program) (t : TypeId) : Prop := ∃ d, P.underlying t = some d ∧ (match d with | .struct _ | .array _ _ => True | _ => False)
theorem NotAgg.run {t} (h : NotAgg P t) (w : World) : (isAgg t).run P w = .ok false w := by
 obtain ⟨d, h1, h2⟩ := h
 cases d <;> first | exact h2.elim | simp [isAgg, underlying, h1]
theorem IsAgg.run {t} (h : IsAgg P t) (w : World) : (isAgg t).run P w = .ok true w := by
 obtain ⟨d, h1, h2⟩ := h
 cases d <;> first | exact h2.elim | simp [isAgg, underlying, h1]
theorem Reads.indexA1 {t x i e v} {n s : Nat} {cs : Array Value} {k : IntKind} {j : Int} (hu : P.underlying t = some (.array n e)) (hn : NotAgg P e) (hs : TS P e s) (hx : ev E x = some (.agg cs)) (hi : ev E i = some (.int k j))
  (h0 : 0 ≤ j) (h1 : j < n) (hv : cs[j.toNat * s]? = some v) : Reads P N E Γ ⟨dst, .index t x i, ty, pos, after, guard⟩ v := fun _ w a hf _ => by
 simp [execOp, hf.eval hx, hf.eval hi, Instr.index, asIntOf, underlying, hu, h0, h1, hs.run, part, hn.run, hv]
end
end Go.Sp
/- A separation logic over the given machine. Part 26: operations that only compute, many at once. -/
namespace Go.Sp
open Go
abbrev FTab := List (Nat × Nat × Nat)
def fget : FTab → Nat → Nat → Option Nat
 | [], _, _ => none
 | (s, f, o) :: r, s', f' => bif Nat.beq s s' && Nat.beq f f' then some o else fget r s' f'
def Facts (P : Program) (t : FTab) : Prop := ∀ s f o, fget t s f = some o → FD P s f o
theorem Facts.nil {P : Program} : Facts P [] := fun _ _ _ h => by cases h
theorem Facts.cons {P : Program} {s f o : Nat} {t : FTab} (h : FD P s f o) (r : Facts P t) : Facts P ((s, f, o) :: t) := fun s' f' o' e => by
 unfold fget at e
 by_cases hb : (Nat.beq s s' && Nat.beq f f') = true
 ·
  rw [hb] at e
  simp at hb
  obtain ⟨rfl, rfl⟩ := hb
  cases e
  exact h
 ·
  rw [Bool.eq_false_iff.2 hb] at e
  exact r s' f' o' e
def cmpV : BinOp → Int → Int → Option Value
 | .eql, m, n => some (.bool (decide (m = n)))
 | .neq, m, n => some (.bool (!decide (m = n)))
 | .lss, m, n => some (.bool (decide (m < n)))
 | .leq, m, n => some (.bool (decide (m ≤ n)))
 | .gtr, m, n => some (.bool (decide (n < m)))
 | .geq, m, n => some (.bool (decide (n ≤ m)))
 | _, _, _ => none
def sameK : IntKind → IntKind → Bool
 | .i64, .i64 => true
 | .u8, .u8 => true
 | .u32, .u32 => true
 | .u64, .u64 => true
 | _, _ => false
theorem sameK_eq {k l : IntKind} (h : sameK k l = true) : k = l := by cases k <;> cases l <;> first | rfl | cases h
def pureV (t : FTab) (E : Env) : Op → Option Value
 | .move x => ev E x
 | .assign x => ev E x
 | .nilCheck x => match ev E x with
  | some (.pointer (some p)) => some (.pointer (some p))
  | _ => none
 | .extract x i => match ev E x with
  | some (.tuple vs) => vs[i]?
  | _ => none
 | .unOp .not _ x => match ev E x with
  | some (.bool b) => some (.bool (!b))
  | _ => none
 | .pick c x y => match ev E c with
  | some (.bool true) => ev E x
  | some (.bool false) => ev E y
  | _ => none
 | .fieldAddr s x f => match ev E x with
  | some (.pointer (some ⟨b, o, none⟩)) => match fget t s f with
   | some off => some (.pointer (some ⟨b, o + off, none⟩))
   | none => none
  | _ => none
 | .binOp op _ x y _ => match ev E x with
  | some (.int k m) => match ev E y with
   | some (.int l n) => bif sameK k l then cmpV op m n else none
   | _ => none
  | _ => none
 | _ => none
def opV (t : FTab) (N : Nat) (o : Oper) (E : Env) : Option Env := match o.dst with
 | some d => bif Nat.blt d N then (match pureV t E o.op with
  | some v => some ((d, v) :: E)
  | none => none) else none
 | none => none
def offV (E : Env) : Option Nat → Option Env
 | some d => match lk E d with
  | none => some E
  | some _ => none
 | none => none
def opS (t : FTab) (N : Nat) (all : Array Oper) (o : Oper) (E : Env) : Option Env := match o.guard with
 | none => opV t N o E
 | some (g, b) => match gslot all g with
  | some s => match lk E s with
   | some (.bool true) => match b with
    | true => opV t N o E
    | false => offV E o.dst
   | some (.bool false) => match b with
    | false => opV t N o E
    | true => offV E o.dst
   | _ => none
  | none => none
section
variable {P : Program} {t : FTab} {N : Nat} {all : Array Oper} {o : Oper} {os : List Oper} {E E' : Env} {Γ : List SProp} {K : Env → List SProp → Prop}
theorem pureV_reads {dst ty pos after guard} {op : Op} {v : Value} (hf : Facts P t) (h : pureV t E op = some v) : Reads P N E Γ ⟨dst, op, ty, pos, after, guard⟩ v := by
 unfold pureV at h
 split at h
 ·
  exact .move h
 ·
  exact .assign h
 ·
  split at h
  ·
   rename_i hx; cases h; exact .nilCheck hx
  ·
   cases h
 ·
  split at h
  ·
   rename_i hx; exact .extract hx h
  ·
   cases h
 ·
  split at h
  ·
   rename_i hx; cases h; exact .not hx
  ·
   cases h
 ·
  split at h
  ·
   rename_i hx; exact .pickT hx h
  ·
   rename_i hx; exact .pickF hx h
  ·
   cases h
 ·
  split at h
  ·
   rename_i hx
   split at h
   ·
    rename_i hg; cases h; exact .fieldAddr (hf _ _ _ hg) hx
   ·
    cases h
  ·
   cases h
 ·
  split at h
  ·
   rename_i hx
   split at h
   ·
    rename_i hy
    cases hk : sameK _ _ with
    | false => rw [hk] at h; cases h
    | true =>
     rw [hk] at h
     have hk' := sameK_eq hk
     subst hk'
     simp only [cond_true] at h
     unfold cmpV at h
     split at h <;> cases h
     ·
      exact .eqI hx hy
     ·
      exact .neI hx hy
     ·
      exact .lt hx hy
     ·
      exact .le hx hy
     ·
      exact .gt hx hy
     ·
      exact .ge hx hy
   ·
    cases h
  ·
   cases h
 ·
  cases h
theorem opV_run {dst op ty pos after guard} (hf : Facts P t) (h : opV t N ⟨dst, op, ty, pos, after, guard⟩ E = some E') (next : RunO P N all os E' Γ K) : RunO P N all (⟨dst, op, ty, pos, after, none⟩ :: os) E Γ K := by
 unfold opV at h
 dsimp only at h
 cases dst with
 | none => cases h
 | some d =>
  dsimp only at h
  cases hb : Nat.blt d N with
  | false => rw [hb] at h; cases h
  | true =>
   rw [hb] at h
   simp only [cond_true] at h
   cases hv : pureV t E op with
   | none => rw [hv] at h; cases h
   | some v =>
    rw [hv] at h
    cases h
    exact .rd (pureV_reads hf hv) next hb
theorem RunO.step1 (hf : Facts P t) (h : opS t N all o E = some E') (next : RunO P N all os E' Γ K) : RunO P N all (o :: os) E Γ K := by
 obtain ⟨dst, op, ty, pos, after, guard⟩ := o
 unfold opS at h
 dsimp only at h
 have off : ∀ {c b : Bool} {g s : Nat}, gslot all g = some s → lk E s = some (.bool c) → (c == b) = false → offV E dst = some E' → RunO P N all (⟨dst, op, ty, pos, after, some (g, b)⟩ :: os) E Γ K := fun h1 h2 h3 h4 => by
  cases dst with
  | none => cases h4
  | some d =>
   unfold offV at h4
   dsimp only at h4
   cases hl : lk E d with
   | some _ => rw [hl] at h4; cases h4
   | none =>
    rw [hl] at h4
    cases h4
    exact .off h1 h2 h3 next fun d' e => by cases e; exact hl
 cases guard with
 | none => exact opV_run hf h next
 | some gb =>
  obtain ⟨g, b⟩ := gb
  dsimp only at h
  cases hg : gslot all g with
  | none => rw [hg] at h; cases h
  | some s =>
   rw [hg] at h
   dsimp only at h
   split at h
   ·
    rename_i hl
    cases b with
    | true => exact .on hg hl (opV_run hf h next)
    | false => exact off hg hl rfl h
   ·
    rename_i hl
    cases b with
    | false => exact .on hg hl (opV_run hf h next)
    | true => exact off hg hl rfl h
   ·
    cases h
def iterO (t : FTab) (N : Nat) (all : Array Oper) : Nat → List Oper → Env → Option (List Oper × Env)
 | 0, os, E => some (os, E)
 | _ + 1, [], _ => none
 | n + 1, o :: os, E => match opS t N all o E with
  | some E' => iterO t N all n os E'
  | none => none
theorem RunO.go_ (hf : Facts P t) : ∀ (n : Nat) {os os' : List Oper} {E E' : Env}, iterO t N all n os E = some (os', E') → RunO P N all os' E' Γ K → RunO P N all os E Γ K
 | 0, _, _, _, _, h, next => by cases h; exact next
 | _ + 1, [], _, _, _, h, _ => by cases h
 | n + 1, o :: os, _, E, _, h, next => by
  unfold iterO at h
  cases hs : opS t N all o E with
  | none => rw [hs] at h; cases h
  | some E1 =>
   rw [hs] at h
   exact .step1 hf hs (RunO.go_ hf n h next)
theorem RunO.go (hf : Facts P t) (n : Nat) {os os' : List Oper} {E E' : Env} (next : RunO P N all os' E' Γ K) (h : iterO t N all n os E = some (os', E') := by rfl) : RunO P N all os E Γ K := RunO.go_ hf n h next
end
inductive St where
 | r (k : List Item) (E : Env)
 | o (k : List Item) (all : Array Oper) (os : List Oper) (E : Env)
def stS (t : FTab) (N : Nat) : St → Option St
 | .o k _ [] E => some (.r k E)
 | .o k all (o :: os) E => match opS t N all o E with
  | some E' => some (.o k all os E')
  | none => none
 | .r (.inBlock _ :: k) E => some (.r k E)
 | .r (.code .skip :: k) E => some (.r k E)
 | .r (.code (.seq x y) :: k) E => some (.r (.code x :: .code y :: k) E)
 | .r (.code (.block id c) :: k) E => some (.r (.code c :: .inBlock id :: k) E)
 | .r (.code (.exit id) :: k) E => match exitTo id k with
  | some k' => some (.r k' E)
  | none => none
 | .r (.code (.region _ ops false) :: k) E => some (.o k ops ops.toList E)
 | .r (.code (.cond c x y) :: k) E => match ev E c with
  | some (.bool true) => some (.r (.code x :: k) E)
  | some (.bool false) => some (.r (.code y :: k) E)
  | _ => none
 | _ => none
def stN (t : FTab) (N : Nat) : Nat → St → Option St
 | 0, s => some s
 | n + 1, s => match stS t N s with
  | some s' => stN t N n s'
  | none => none
def den (C : Cx) (Q : Value → List SProp → Prop) (Γ : List SProp) : St → Prop
 | .r k E => Run C k E Γ Q
 | .o k all os E => RunO C.P C.fn.ntmps all os E Γ fun E' Γ' => Run C k E' Γ' Q
section
variable {C : Cx} {t : FTab} {Q : Value → List SProp → Prop} {Γ : List SProp}
theorem den_step (hf : Facts C.P t) {s s' : St} (h : stS t C.fn.ntmps s = some s') (next : den C Q Γ s') : den C Q Γ s := by
 unfold stS at h
 split at h
 ·
  cases h; exact RunO.nil next
 ·
  split at h
  ·
   rename_i hs; cases h; exact RunO.step1 hf hs next
  ·
   cases h
 ·
  cases h; exact Run.inBlock next
 ·
  cases h; exact Run.skip next
 ·
  cases h; exact Run.seq next
 ·
  cases h; exact Run.block next
 ·
  split at h
  ·
   rename_i hx; cases h; exact Run.exit hx next
  ·
   cases h
 ·
  cases h; exact Run.region next
 ·
  split at h
  ·
   rename_i hx; cases h; exact Run.condT hx next
  ·
   rename_i hx; cases h; exact Run.condF hx next
  ·
   cases h
 ·
  cases h
theorem den_go (hf : Facts C.P t) : ∀ (n : Nat) {s s' : St}, stN t C.fn.ntmps n s = some s' → den C Q Γ s' → den C Q Γ s
 | 0, _, _, h, next => by cases h; exact next
 | n + 1, s, _, h, next => by
  unfold stN at h
  cases hs : stS t C.fn.ntmps s with
  | none => rw [hs] at h; cases h
  | some s1 => rw [hs] at h; exact den_step hf hs (den_go hf n h next)
variable {P : Program} {f : FuncId} {fn : Func} {k k' : List Item} {all all' : Array Oper} {os os' : List Oper} {E E' : Env}
theorem Run.go (hf : Facts P t) (n : Nat) (next : Run ⟨P, f, fn⟩ k' E' Γ Q) (h : stN t fn.ntmps n (.r k E) = some (.r k' E') := by rfl) : Run ⟨P, f, fn⟩ k E Γ Q := den_go (C := ⟨P, f, fn⟩) hf n (s := .r k E) h next
theorem Run.goO (hf : Facts P t) (n : Nat) (next : RunO P fn.ntmps all' os' E' Γ fun E' Γ' => Run ⟨P, f, fn⟩ k' E' Γ' Q) (h : stN t fn.ntmps n (.r k E) = some (.o k' all' os' E') := by rfl) : Run ⟨P, f, fn⟩ k E Γ Q := den_go (C := ⟨P, f, fn⟩) hf n (s := .r k E) h next
theorem RunO.goR (hf : Facts P t) (n : Nat) (next : Run ⟨P, f, fn⟩ k' E' Γ Q) (h : stN t fn.ntmps n (.o k all os E) = some (.r k' E') := by rfl) : RunO P fn.ntmps all os E Γ fun E' Γ' => Run ⟨P, f, fn⟩ k E' Γ' Q := den_go (C := ⟨P, f, fn⟩) hf n (s := .o k all os E) h next
theorem RunO.goO (hf : Facts P t) (n : Nat) (next : RunO P fn.ntmps all' os' E' Γ fun E' Γ' => Run ⟨P, f, fn⟩ k' E' Γ' Q) (h : stN t fn.ntmps n (.o k all os E) = some (.o k' all' os' E') := by rfl) : RunO P fn.ntmps all os E Γ fun E' Γ' => Run ⟨P, f, fn⟩ k E' Γ' Q := den_go (C := ⟨P, f, fn⟩) hf n (s := .o k all os E) h next
end
end Go.Sp
namespace Go.Proofs.YtoglbebcdjdkiaaGreatDoor
open Go Go.Sp
def ftab : FTab := [(33, 0, 0), (33, 1, 1), (33, 2, 2), (33, 3, 3), (33, 4, 4), (33, 5, 5), (33, 6, 6), (41, 0, 0), (41, 1, 1), (41, 2, 2), (41, 3, 3), (41, 4, 4), (41, 5, 5), (57, 0, 0), (57, 1, 1), (57, 2, 2), (57, 3, 3), (57, 4, 4), (57, 5, 5), (57, 6, 6), (70, 0, 0), (70, 1, 1), (74, 0, 0), (74, 1, 1), (74, 2, 2), (80, 0, 0), (80, 1, 1), (80, 2, 2), (80, 3, 3), (80, 4, 4), (93, 0, 0), (95, 0, 0), (95, 1, 1), (95, 2, 2), (97, 0, 0), (97, 1, 3), (99, 0, 0), (99, 1, 1), (99, 2, 2), (104, 0, 0), (104, 1, 1), (110, 0, 0), (110, 1, 1), (110, 2, 2), (110, 3, 3), (110, 4, 4), (112, 0, 0), (112, 1, 1), (112, 2, 2), (112, 3, 3), (125, 0, 0), (125, 1, 1), (125, 2, 2), (132, 0, 0), (132, 1, 1), (177, 0, 0), (177, 1, 1), (186, 0, 0), (186, 1, 1), (248, 0, 0), (248, 1, 1)]
theorem fds : Facts Tryz.prog ftab := (.cons (.of Tryz.underlying33 (by kernel_rfl)) (.cons (.of Tryz.underlying33 (by kernel_rfl)) (.cons (.of Tryz.underlying33 (by kernel_rfl)) (.cons (.of Tryz.underlying33 (by kernel_rfl)) (.cons (.of Tryz.underlying33 (by kernel_rfl)) (.cons (.of Tryz.underlying33 (by kernel_rfl)) (.cons (.of Tryz.underlying33 (by kernel_rfl)) (.cons (.of Tryz.underlying41 (by kernel_rfl)) (.cons (.of Tryz.underlying41 (by kernel_rfl)) (.cons (.of Tryz.underlying41 (by kernel_rfl)) (.cons (.of Tryz.underlying41 (by kernel_rfl)) (.cons (.of Tryz.underlying41 (by kernel_rfl)) (.cons (.of Tryz.underlying41 (by kernel_rfl)) (.cons (.of Tryz.underlying57 (by kernel_rfl)) (.cons (.of Tryz.underlying57 (by kernel_rfl)) (.cons (.of Tryz.underlying57 (by kernel_rfl)) (.cons (.of Tryz.underlying57 (by kernel_rfl)) (.cons (.of Tryz.underlying57 (by kernel_rfl)) (.cons (.of Tryz.underlying57 (by kernel_rfl)) (.cons (.of Tryz.underlying57 (by kernel_rfl)) (.cons (.of Tryz.underlying70 (by kernel_rfl)) (.cons (.of Tryz.underlying70 (by kernel_rfl)) (.cons (.of Tryz.underlying74 (by kernel_rfl)) (.cons (.of Tryz.underlying74 (by kernel_rfl)) (.cons (.of Tryz.underlying74 (by kernel_rfl)) (.cons (.of Tryz.underlying80 (by kernel_rfl)) (.cons (.of Tryz.underlying80 (by kernel_rfl)) (.cons (.of Tryz.underlying80 (by kernel_rfl)) (.cons (.of Tryz.underlying80 (by kernel_rfl)) (.cons (.of Tryz.underlying80 (by kernel_rfl)) (.cons (.of Tryz.underlying93 (by kernel_rfl)) (.cons (.of Tryz.underlying95 (by kernel_rfl)) (.cons (.of Tryz.underlying95 (by kernel_rfl)) (.cons (.of Tryz.underlying95 (by kernel_rfl)) (.cons (.of Tryz.underlying97 (by kernel_rfl)) (.cons (.of Tryz.underlying97 (by kernel_rfl)) (.cons (.of Tryz.underlying99 (by kernel_rfl)) (.cons (.of Tryz.underlying99 (by kernel_rfl)) (.cons (.of Tryz.underlying99 (by kernel_rfl)) (.cons (.of Tryz.underlying104 (by kernel_rfl)) (.cons (.of Tryz.underlying104 (by kernel_rfl)) (.cons (.of Tryz.underlying110 (by kernel_rfl)) (.cons (.of Tryz.underlying110 (by kernel_rfl)) (.cons (.of Tryz.underlying110 (by kernel_rfl)) (.cons (.of Tryz.underlying110 (by kernel_rfl)) (.cons (.of Tryz.underlying110 (by kernel_rfl)) (.cons (.of Tryz.underlying112 (by kernel_rfl)) (.cons (.of Tryz.underlying112 (by kernel_rfl)) (.cons (.of Tryz.underlying112 (by kernel_rfl)) (.cons (.of Tryz.underlying112 (by kernel_rfl)) (.cons (.of Tryz.underlying125 (by kernel_rfl)) (.cons (.of Tryz.underlying125 (by kernel_rfl)) (.cons (.of Tryz.underlying125 (by kernel_rfl)) (.cons (.of Tryz.underlying132 (by kernel_rfl)) (.cons (.of Tryz.underlying132 (by kernel_rfl)) (.cons (.of Tryz.underlying177 (by kernel_rfl)) (.cons (.of Tryz.underlying177 (by kernel_rfl)) (.cons (.of Tryz.underlying186 (by kernel_rfl)) (.cons (.of Tryz.underlying186 (by kernel_rfl)) (.cons (.of Tryz.underlying248 (by kernel_rfl)) (.cons (.of Tryz.underlying248 (by kernel_rfl)) Facts.nil)))))))))))))))))))))))))))))))))))))))))))))))))))))))))))))
end Go.Proofs.YtoglbebcdjdkiaaGreatDoor
/- A separation logic over the given machine. Part 3: memory: variables, rows of cells, slices; calls. -/
namespace Go.Sp
open Go
def ones (l : List Value) : Prop := ∀ v ∈ l, v.oneCell' = true
theorem ones.nil : ones [] := fun _ h => by cases h
theorem ones.cons {v l} (h : v.oneCell' = true) (k : ones l) : ones (v :: l) := fun u hu => by
 rcases List.mem_cons.1 hu with rfl | hu
 ·
  exact h
 ·
  exact k u hu
theorem ones.append {l m} (h : ones l) (k : ones m) : ones (l ++ m) := fun u hu => by
 rcases List.mem_append.1 hu with hu | hu
 ·
  exact h u hu
 ·
  exact k u hu
theorem ones.left {l m} (h : ones (l ++ m)) : ones l := fun u hu => h u (List.mem_append_left _ hu)
theorem ones.right {l m} (h : ones (l ++ m)) : ones m := fun u hu => h u (List.mem_append_right _ hu)
theorem ones.take {l} (h : ones l) (n : Nat) : ones (l.take n) := fun u hu => h u (List.mem_of_mem_take hu)
theorem ones.drop {l} (h : ones l) (n : Nat) : ones (l.drop n) := fun u hu => h u (List.mem_of_mem_drop hu)
theorem ones.of {l : List Value} (h : l.all Value.oneCell' = true) : ones l := fun v hv => List.all_eq_true.1 h v hv
theorem ones.map {α : Type} {f : α → Value} (l : List α) (h : ∀ x, (f x).oneCell' = true) : ones (l.map f) := fun v hv => by
 obtain ⟨x, _, rfl⟩ := List.mem_map.1 hv; exact h x
theorem ones.flatMap {α : Type} {f : α → List Value} (l : List α) (h : ∀ x ∈ l, ones (f x)) : ones (l.flatMap f) := fun v hv => by
 obtain ⟨x, hx, hv'⟩ := List.mem_flatMap.1 hv; exact h x hx v hv'
def blk (b : Nat) (l : List Value) (e : TypeId) : SProp := fun h => ones l ∧ ∃ fz : Nat × Nat, (fz.1 = fz.2 ∨ l.length ≤ fz.1) ∧ h b = some (false, .cells l.toArray e fz)
theorem Sat.blk {A w b l e Γ} (s : Sat A w (Sp.blk b l e :: Γ)) : ones l ∧ ∃ fz : Nat × Nat, (fz.1 = fz.2 ∨ l.length ≤ fz.1) ∧ w.heap[b]? = some (.cells l.toArray e fz) ∧ Sat A w (Sp.own b (.cells l.toArray e fz) :: Γ) := by
 obtain ⟨a, h, f, h1, h2, ok, l1, l2, ⟨ho, fz, hfz, e⟩, t⟩ := s
 exact ⟨ho, fz, hfz, f b _ (l1 b _ e), a, h, f, h1, h2, ok, l1, l2, e, t⟩
theorem Sat.blk_of {A w b l e Γ} {fz : Nat × Nat} (s : Sat A w (Sp.own b (.cells l.toArray e fz) :: Γ)) (ho : ones l) (hfz : fz.1 = fz.2 ∨ l.length ≤ fz.1) : Sat A w (Sp.blk b l e :: Γ) := by
 obtain ⟨a, h, f, h1, h2, ok, l1, l2, e, t⟩ := s
 exact ⟨a, h, f, h1, h2, ok, l1, l2, ⟨ho, fz, hfz, e⟩, t⟩
theorem cell_of {w : World} {b o : Nat} {l : List Value} {e fz} (h : w.heap[b]? = some (.cells l.toArray e fz)) : w.cell? ⟨b, o, none⟩ = l[o]? := by
 simp [World.cell?, h]
def CellsAt (b o : Nat) (cs : List Value) (w : World) : Prop := (∀ i v, cs[i]? = some v → w.cell? ⟨b, o + i, none⟩ = some v) ∧ ones cs
theorem CellsAt.sub {b o cs w} (h : CellsAt b o cs w) (i n : Nat) : CellsAt b (o + i) ((cs.drop i).take n) w := by
 refine ⟨fun j v hv => ?_, (h.2.drop i).take n⟩
 have h1 : cs[i + j]? = some v := by
  by_cases hj : j < n
  ·
   simpa [List.getElem?_take, hj] using hv
  ·
   simp [List.getElem?_take, hj] at hv
 have := h.1 (i + j) v h1
 rwa [← Nat.add_assoc] at this
theorem CellsAt.one {b o v w} {cs : List Value} (h : CellsAt b o cs w) {i : Nat} (hi : cs[i]? = some v) : CellsAt b (o + i) [v] w :=
 ⟨fun j u hu => by
  cases j with
  | zero => simp at hu; subst hu; exact h.1 i v hi
  | succ j => simp at hu, fun u hu => by simp at hu; subst hu; exact h.2 _ (List.mem_of_getElem? hi)⟩
theorem Knows.blk {Γ Γ' b l e} (p : Pick (Sp.blk b l e) Γ Γ') : Knows Γ (CellsAt b 0 l) := fun _ _ s => by
 obtain ⟨ho, fz, _, hh, _⟩ := (s.map fun _ => p.sat).blk
 exact ⟨fun i v hv => by rw [cell_of hh]; simpa using hv, ho⟩
theorem Knows.blkAt {Γ Γ' b l e} (p : Pick (Sp.blk b l e) Γ Γ') {o : Nat} {cs : List Value} (h : ∀ i v, cs[i]? = some v → l[o + i]? = some v) : Knows Γ (CellsAt b o cs) := fun _ _ s => by
 obtain ⟨ho, fz, _, hh, _⟩ := (s.map fun _ => p.sat).blk
 refine ⟨fun i v hv => by rw [cell_of hh]; exact h i v hv, fun u hu => ?_⟩
 obtain ⟨i, hi, rfl⟩ := List.mem_iff_getElem.1 hu
 exact ho _ (List.mem_of_getElem? (h i _ (List.getElem?_eq_getElem hi)))
def RowAt (a : Option Addr) (cs : List Value) (w : World) : Prop := cs = [] ∨ ∃ b o, a = some ⟨b, o, none⟩ ∧ CellsAt b o cs w
section
variable {P : Program} {N : Nat} {E : Env} {Γ Γ' : List SProp} {dst : Option Tmp} {ty : TypeId} {pos : String} {after : Array Edge} {guard : Option (Nat × Bool)}
theorem Reads.load {t x v} {b o : Nat} (hn : NotAgg P t) (hx : ev E x = some (.pointer (some ⟨b, o, none⟩))) (hk : Knows Γ (CellsAt b o [v])) :
  Reads P N E Γ ⟨dst, .load t x, ty, pos, after, guard⟩ v := fun A w a hf hs => by
 have h := (hk A w hs).1 0 v rfl
 simp only [Nat.add_zero] at h
 simp [execOp, hf.eval hx, Instr.loadAt, Instr.sureAddr, loadVar, hn.run, h]
theorem Reads.loadN {t x} {b o n : Nat} {cs : List Value} (hn : IsAgg P t) (hs : TS P t n) (hx : ev E x = some (.pointer (some ⟨b, o, none⟩))) (hl : cs.length = n) (hk : Knows Γ (CellsAt b o cs)) :
  Reads P N E Γ ⟨dst, .load t x, ty, pos, after, guard⟩ (.agg cs.toArray) := fun A w a hf hs' => by
 have h := (hk A w hs').1
 have hr := run_loadCells_list (P := P) w ⟨b, o, none⟩ cs (fun j v hv => by rw [Addr_add]; exact h j v hv)
 subst hl
 simp [execOp, hf.eval hx, Instr.loadAt, Instr.sureAddr, loadVar, hn.run, hs.run, hr]
theorem Reads.ld {t x v} {b o : Nat} {l : List Value} {e : TypeId} (hn : NotAgg P t) (hx : ev E x = some (.pointer (some ⟨b, o, none⟩))) (p : Pick (blk b l e) Γ Γ') (hv : l[o]? = some v) :
  Reads P N E Γ ⟨dst, .load t x, ty, pos, after, guard⟩ v :=
 .load hn hx (.blkAt p fun i u hu => by
  cases i with
  | zero => simp at hu; subst hu; exact hv
  | succ i => simp at hu)
theorem Reads.ldN {t x} {b n : Nat} {l : List Value} {e : TypeId} (hn : IsAgg P t) (hs : TS P t n) (hx : ev E x = some (.pointer (some ⟨b, 0, none⟩))) (p : Pick (blk b l e) Γ Γ') (hl : l.length = n) :
  Reads P N E Γ ⟨dst, .load t x, ty, pos, after, guard⟩ (.agg l.toArray) := .loadN hn hs hx hl (.blk p)
theorem heap_setCell_same' (w : World) (b i : Nat) (cs : Array Value) (t : TypeId) (fz : Nat × Nat) (v : Value) (hg : w.heap[b]? = some (.cells cs t fz)) :
  (w.setCell ⟨b, i, none⟩ v).heap[b]? = some (.cells (cs.setIfInBounds i v) t fz) := by
 simp [World.setCell, Array.getElem?_modify, hg]
theorem splice_step (l : List Value) (o : Nat) (v : Value) (r : List Value) (h : o < l.length) : splice (l.set o v) (o + 1) r = splice l o (v :: r) := by
 obtain ⟨A, x, B, rfl, rfl⟩ : ∃ A x B, l = A ++ x :: B ∧ A.length = o := ⟨l.take o, l[o], l.drop (o + 1), by simp, by simp; omega⟩
 have e1 : (A ++ x :: B).set A.length v = A ++ v :: B := by simp
 rw [e1]
 unfold splice
 have e2 : ∀ y : Value, List.drop (A.length + 1 + r.length) (A ++ y :: B) = B.drop r.length := fun y => by
  rw [List.drop_append, List.drop_eq_nil_of_le (by omega), show A.length + 1 + r.length - A.length = r.length + 1 from by omega]; simp
 have e3 : List.take (A.length + 1) (A ++ v :: B) = A ++ [v] := by
  rw [List.take_append, List.take_of_length_le (by omega), show A.length + 1 - A.length = 1 from by omega]; simp
 have e4 : List.take A.length (A ++ x :: B) = A := by simp
 have e5 : A.length + (v :: r).length = A.length + 1 + r.length := by simp; omega
 rw [e2, e3, e4, e5, e2]; simp
theorem heap_setCells (b : Nat) : ∀ (vs : List Value) (o : Nat) (w : World) (l : List Value) (t : TypeId) (fz : Nat × Nat), w.heap[b]? = some (.cells l.toArray t fz) → o + vs.length ≤ l.length →
  (w.setCells b o vs).heap[b]? = some (.cells (splice l o vs).toArray t fz) ∧ ∀ k, k ≠ b → (w.setCells b o vs).heap[k]? = w.heap[k]?
 | [], o, w, l, t, fz, h, _ => ⟨by simpa [World.setCells, splice] using h, fun _ _ => rfl⟩
 | v :: r, o, w, l, t, fz, h, hl => by
  simp only [List.length_cons] at hl
  have h1 : (w.setCell ⟨b, o, none⟩ v).heap[b]? = some (.cells (l.set o v).toArray t fz) := by
   rw [heap_setCell_same' w b o l.toArray t fz v h]; simp
  obtain ⟨a1, a2⟩ := heap_setCells b r (o + 1) _ (l.set o v) t fz h1 (by simp; omega)
  refine ⟨?_, fun k hk => (a2 k hk).trans (heap_setCell_other w ⟨b, o, none⟩ k v hk)⟩
  simp only [World.setCells, a1]
  congr 3
  exact splice_step l o v r (by omega)
theorem amb_setCells (b : Nat) : ∀ (vs : List Value) (o : Nat) (w : World), amb (w.setCells b o vs) = amb w
 | [], _, _ => rfl
 | _ :: r, o, _ => (amb_setCells b r (o + 1) _).trans rfl
theorem ones_splice {l vs : List Value} (h : ones l) (k : ones vs) (o : Nat) : ones (splice l o vs) := (h.take o).append (k.append (h.drop _))
theorem splice_one {l : List Value} {o : Nat} {v : Value} (h : o < l.length) : splice l o [v] = l.set o v := by
 unfold splice
 rw [List.set_eq_take_append_cons_drop]; simp [h]
theorem run_store_blk {A w b l e F} {vs : List Value} {o : Nat} (s : Sat A w (blk b l e :: F)) (hl : o + vs.length ≤ l.length) (hv : ones vs) :
  ∃ w', (storeCells ⟨b, o, none⟩ vs).run P w = .ok () w' ∧ Sat A w' (blk b (splice l o vs) e :: F) := by
 obtain ⟨ho, fz, hfz, hh, s'⟩ := s.blk
 have hr := run_storeCells_cells (P := P) b o vs 0 w (fun j hj => by rw [cell_of hh]; simp; omega)
  (fun j hj => by
   simp only [World.frozen?, hh]
   rcases hfz with h | h
   ·
    simp [h]
   ·
    simp; omega) hv
 simp only [Nat.add_zero] at hr
 obtain ⟨a1, a2⟩ := heap_setCells b vs o w l e fz hh hl
 refine ⟨_, hr, ?_⟩
 refine Sat.blk_of (s'.update a1 a2 (amb_setCells b vs o w)) (ones_splice ho hv o) ?_
 rcases hfz with h | h
 ·
  exact .inl h
 ·
  right; rw [length_splice _ _ _ hl]; exact h
theorem Eff.storeN {t x y v} {b o : Nat} {l vs : List Value} {e : TypeId} (hs : TS P t vs.length) (hx : ev E x = some (.pointer (some ⟨b, o, none⟩))) (hy : ev E y = some v) (hc : v.cells.toList = vs) (p : Pick (blk b l e) Γ Γ')
  (hl : o + vs.length ≤ l.length) (hv : ones vs) : Eff P N E Γ ⟨dst, .store t x y, ty, pos, after, guard⟩ fun _ Γ'' => Γ'' = blk b (splice l o vs) e :: Γ' := by
 intro A F w a nx Z hf hsat hn
 have hsat' : Sat A w (blk b l e :: (Γ' ++ F)) := hsat.map fun _ => (p.app F).sat
 obtain ⟨w', hr, hs'⟩ := run_store_blk (P := P) hsat' hl hv
 have hsz : v.cells.size = vs.length := by rw [← hc]; simp
 unfold Oper.wp
 simp [execOp, hf.eval hx, hf.eval hy, Instr.storeAt, Instr.sureAddr, storeVar, hs.run, hsz, hc, hr]
 exact hn _ _ w' rfl hs'
theorem cells_one {v : Value} (h : v.oneCell' = true) : v.cells.toList = [v] := by cases v <;> first | rfl | simp [Value.oneCell'] at h
theorem Eff.store {t x y v} {b o : Nat} {l : List Value} {e : TypeId} (hs : TS P t 1) (hx : ev E x = some (.pointer (some ⟨b, o, none⟩))) (hy : ev E y = some v) (p : Pick (blk b l e) Γ Γ')
  (hv : v.oneCell' = true) (hl : o < l.length) : Eff P N E Γ ⟨dst, .store t x y, ty, pos, after, guard⟩ fun _ Γ'' => Γ'' = blk b (l.set o v) e :: Γ' := by
 have := Eff.storeN (N := N) (Γ := Γ) (dst := dst) (ty := ty) (pos := pos) (after := after) (guard := guard) (vs := [v]) hs hx hy (cells_one hv) p (by simp; omega) (.cons hv .nil)
 rwa [splice_one hl] at this
theorem Eff.storeAll {t x y v} {b n : Nat} {l vs : List Value} {e : TypeId} (hs : TS P t n) (hx : ev E x = some (.pointer (some ⟨b, 0, none⟩))) (hy : ev E y = some v) (hc : v.cells.toList = vs) (p : Pick (blk b l e) Γ Γ')
  (hl : (vs.length, l.length) = (n, n)) (hv : ones vs) : Eff P N E Γ ⟨dst, .store t x y, ty, pos, after, guard⟩ fun _ Γ'' => Γ'' = blk b vs e :: Γ' := by
 simp only [Prod.mk.injEq] at hl
 obtain ⟨h1, h2⟩ := hl
 have := Eff.storeN (N := N) (Γ := Γ) (dst := dst) (ty := ty) (pos := pos) (after := after) (guard := guard) (vs := vs) (by rw [h1]; exact hs) hx hy hc p (by omega) hv
 have e1 : splice l 0 vs = vs := by simp [splice]; omega
 rwa [e1] at this
theorem Eff.newvar {op} {v : Value} {l : List Value} {e : TypeId} (hop : ∀ a, Fr N E a → ∀ w, (execOp a.eval ⟨dst, op, ty, pos, after, guard⟩).run P w = ((newVar e v).run P w).andThen fun ad w' => .ok (.value (.pointer (some ad))) w')
  (hc : v.cells.toList = l) (hl : ones l) : Eff P N E Γ ⟨dst, op, ty, pos, after, guard⟩ fun u Γ'' => ∃ b, u = .pointer (some ⟨b, 0, none⟩) ∧ Γ'' = blk b l e :: Γ := by
 intro A F w a nx Z hf hsat hn
 unfold Oper.wp
 rw [hop a hf]
 have hc' : v.cells = l.toArray := by rw [← hc]
 simp [newVar, newRow, Oper.upon, hc']
 refine hn _ _ _ ⟨w.heap.size, rfl, rfl⟩ ?_
 exact Sat.blk_of (fz := (0, 0)) (hsat.alloc _) hl (.inl rfl)
theorem Eff.alloc {e s b z} {l : List Value} (hi : TI P e s b z) (hc : z.cells.toList = l) (hl : ones l) : Eff P N E Γ ⟨dst, .alloc e, ty, pos, after, guard⟩ fun u Γ'' => ∃ b, u = .pointer (some ⟨b, 0, none⟩) ∧ Γ'' = blk b l e :: Γ :=
 .newvar (v := z) (fun a _ w => by simp [execOp, Instr.alloc, hi.zero]) hc hl
theorem Eff.box {e x v} {l : List Value} (hx : ev E x = some v) (hc : v.cells.toList = l) (hl : ones l) : Eff P N E Γ ⟨dst, .box e x, ty, pos, after, guard⟩ fun u Γ'' => ∃ b, u = .pointer (some ⟨b, 0, none⟩) ∧ Γ'' = blk b l e :: Γ :=
 .newvar (v := v) (fun a hf w => by simp [execOp, Instr.box, hf.eval hx]) hc hl
theorem Reads.build {t v} {parts : Array (Nat × Operand)} {vs : List Value} (hp : evs E (parts.toList.map (·.2)) = some vs)
  (h : ∀ w, (Instr.build t (((parts.toList.map (·.1)).zip vs).toArray)).run P w = .ok v w) : Reads P N E Γ ⟨dst, .build t parts, ty, pos, after, guard⟩ v := fun _ w a hf _ => by
 have e1 := hf.evals hp
 have e2 : (parts.map fun (i, x) => (i, a.eval x)) = ((parts.toList.map (·.1)).zip vs).toArray := by
  apply Array.ext'
  rw [← e1]
  simp only [Array.toList_map]
  generalize parts.toList = ps
  induction ps with
  | nil => rfl
  | cons p ps ih => simp only [List.map_cons, List.zip_cons_cons, ih]
 simp only [execOp]
 rw [e2]
 simp [h]
def arr (e s : Nat) (a : Option Addr) (cap : Nat) (cs : List Value) : SProp := fun h =>
 (cap = 0 ∧ cs = []) ∨ ∃ b pre post, a = some ⟨b, pre.length, none⟩ ∧ cs.length + post.length = cap * s ∧ blk b (pre ++ (cs ++ post)) e h
theorem Sat.arr_none {A w e s Γ} {a : Option Addr} (h : Sat A w Γ) : Sat A w (Sp.arr e s a 0 [] :: Γ) := by
 obtain ⟨am, k, f, t⟩ := h
 exact ⟨am, k, f, fun _ => none, k, fun _ => .inl rfl, fun _ _ e => by simp at e, .refl _, .inl ⟨rfl, rfl⟩, t⟩
theorem RunO.nilArr {ops os K} (e s : Nat) (a : Option Addr) (n : RunO P N ops os E (arr e s a 0 [] :: Γ) K) : RunO P N ops os E Γ K := fun A F w a Z hf hs hz => n A F w a Z hf hs.arr_none hz
theorem Run.nilArr {C : Cx} {k Q} (e s : Nat) (a : Option Addr) (n : Run C k E (arr e s a 0 [] :: Γ) Q) : Run C k E Γ Q := fun A F w a hf hs => n A F w a hf hs.arr_none
theorem sat.arr_open {e s b o cap cs h} (hne : 0 < cap ∨ 0 < cs.length) (H : arr e s (some ⟨b, o, none⟩) cap cs h) : ∃ x : List Value × List Value, (x.1.length = o ∧ cs.length + x.2.length = cap * s) ∧ sat [blk b (x.1 ++ (cs ++ x.2)) e] h := by
 rcases H with ⟨h1, h2⟩ | ⟨b', pre, post, h1, h2, h3⟩
 ·
  subst h1 h2; simp at hne
 ·
  cases h1
  exact ⟨(pre, post), ⟨rfl, h2⟩, h, fun _ => none, fun _ => .inr (.inl rfl), .refl _, fun _ _ e => by simp at e, h3, trivial⟩
theorem blk_mono {b l e} {h k : Hp} (hl : Hp.le h k) : blk b l e h → blk b l e k := fun ⟨a, fz, c, d⟩ => ⟨a, fz, c, hl b _ d⟩
theorem sat.arr_close {e s b cap} {pre cs post : List Value} {h} (h2 : cs.length + post.length = cap * s) (H : sat [blk b (pre ++ (cs ++ post)) e] h) : arr e s (some ⟨b, pre.length, none⟩) cap cs h := by
 obtain ⟨h1, _, _, l, _, H', _⟩ := H
 exact .inr ⟨b, pre, post, rfl, h2, blk_mono l H'⟩
theorem Sat.arr_row {A w e s a cap cs Γ} (H : Sat A w (arr e s a cap cs :: Γ)) : RowAt a cs w := by
 obtain ⟨am, h, f, h1, h2, ok, l1, l2, H', t⟩ := H
 rcases H' with ⟨_, h3⟩ | ⟨b, pre, post, e1, e2, e3⟩
 ·
  exact .inl h3
 ·
  obtain ⟨ho, fz, hfz, e4⟩ := e3
  refine .inr ⟨b, pre.length, e1, fun i v hv => ?_, ho.right.left⟩
  have hh := f b _ (l1 b _ e4)
  rw [cell_of hh]
  have hi : i < cs.length := (List.getElem?_eq_some_iff.1 hv).1
  rw [List.getElem?_append_right (by omega), List.getElem?_append_left (by omega)]
  simpa using hv
theorem Knows.arr {e s a cap cs} (p : Pick (Sp.arr e s a cap cs) Γ Γ') : Knows Γ (RowAt a cs) := fun _ _ h => (h.map fun _ => p.sat).arr_row
theorem Sat.arr_len {A w e s a cap cs Γ} (H : Sat A w (arr e s a cap cs :: Γ)) : cs.length ≤ cap * s ∧ ones cs := by
 obtain ⟨am, h, f, h1, h2, ok, l1, l2, H', t⟩ := H
 rcases H' with ⟨h4, h3⟩ | ⟨b, pre, post, e1, e2, e3⟩
 ·
  subst h3; exact ⟨by simp, .nil⟩
 ·
  exact ⟨by omega, e3.1.right.left⟩
theorem arr.shrink {e s a cap cs ds h} (H : arr e s a cap (cs ++ ds) h) : arr e s a cap cs h := by
 rcases H with ⟨h2, h3⟩ | ⟨b, pre, post, e1, e2, e3⟩
 ·
  exact .inl ⟨h2, (List.append_eq_nil_iff.1 h3).1⟩
 ·
  exact .inr ⟨b, pre, ds ++ post, e1, by simp at e2 ⊢; omega, by simpa [List.append_assoc] using e3⟩
structure SrcAt (P : Program) (s : Nat) (t : TypeId) (v : Value) (m : Nat) (ys : List Value) (w : World) : Prop where
 src : Src P s t v m ys w
 src' : Src P s t v m ys w.drew
theorem SrcAt.row {s t e' a m c ys} {w : World} (hu : P.underlying t = some (.slice e')) (hl : ys.length = m * s) (h : RowAt a ys w) (hm : a = none → m = 0) : SrcAt P s t (.slice a m c) m ys w := by
 rcases h with rfl | ⟨b, o, rfl, h⟩
 ·
  have hz : ∀ w : World, (Builtin.firstCells s m (.slice a m c)).run P w = .ok #[] w := fun w => by
   cases a with
   | none => exact run_firstCells_none w s m m c
   | some p =>
    have := run_firstCells_some (P := P) w s m p m c [] hl (by simp)
    exact this
  have one : ∀ w, Src P s t (.slice a m c) m [] w := fun w => ⟨.inl ⟨e', hu⟩, fun _ => rfl, hz w, hz w.drew, hl, fun _ h => by cases h⟩
  exact ⟨one w, one w.drew⟩
 ·
  have one : ∀ w', (∀ x, w'.cell? x = w.cell? x) → Src P s t (.slice (some ⟨b, o, none⟩) m c) m ys w' := fun w' hw =>
   Src.ofSlice w' hu ⟨b, o, none⟩ m c ys hl (fun j u hj => by rw [Addr_add, hw]; exact h.1 j u hj) h.2
  exact ⟨one w fun _ => rfl, one w.drew fun x => World.cell?_drew w x⟩
theorem SrcAt.string {t} {s : ByteArray} {w : World} (hu : P.underlying t = some .string) : SrcAt P 1 t (.string s) s.size (byteCells s) w := ⟨Src.ofString w hu s, Src.ofString w.drew hu s⟩
theorem Sat.drew {A w Γ} (s : Sat A w Γ) : Sat A w.drew Γ := s.same rfl rfl
theorem zeroCells_ones {z : Array Value} (h : ones z.toList) (n : Nat) : ones (Builtin.zeroCells z n).toList := by
 intro v hv
 simp only [Builtin.zeroCells, Array.toList_map, List.mem_map] at hv
 obtain ⟨i, hi, rfl⟩ := hv
 by_cases hz : z.size = 0
 ·
  simp [hz] at hi
 ·
  have hlt : i % z.size < z.size := Nat.mod_lt _ (by omega)
  rw [getElem!_pos z _ hlt]
  exact h _ (by simp)
theorem Eff.append {args : Array Operand} {ts : Array TypeId} {x y t tx e s by_ z} {a : Option Addr} {n m cap : Nat} {cs ys : List Value} {src : Value} (ha : args = #[x, y]) (hts : ts = #[t, tx]) (hu : P.underlying t = some (.slice e)) (hi : TI P e s by_ z)
  (hz : z.cells.size = s) (hzo : ones z.cells.toList) (hs0 : 0 < s) (hb0 : 0 < by_) (hx : ev E x = some (.slice a n cap)) (hy : ev E y = some src) (p : Pick (arr e s a cap cs) Γ Γ') (hn : cs.length = n * s) (hsrc : Knows Γ (SrcAt P s tx src m ys))
  (hbound : (n + m) * by_ ≤ 140737488355328) :
  Eff P N E Γ ⟨dst, .call ⟨.builtin .append, args, ts⟩, ty, pos, after, guard⟩ fun u Γ'' => ∃ a' cap', u = .slice a' (n + m) cap' ∧ (a' = none → n + m = 0) ∧ Γ'' = arr e s a' cap' (cs ++ ys) :: Γ' := by
 subst ha hts
 intro A F w ac nx Z hf hsat hnext
 have hS := hsrc A w hsat.left
 have hsat' : Sat A w (arr e s a cap cs :: (Γ' ++ F)) := hsat.map fun _ => (p.app F).sat
 obtain ⟨i, hinf, hsz, hby, hzv⟩ := hi
 subst hsz hby
 have hyl := hS.src.newsLen
 have run_eq : ∀ v' w', (Builtin.append_ #[t, tx] ty #[.slice a n cap, src]).run P w = .ok v' w' → (execOp ac.eval ⟨dst, .call ⟨.builtin .append, #[x, y], #[t, tx]⟩, ty, pos, after, guard⟩).run P w = .ok (.value v') w' := fun v' w' h => by
  simp [execOp, resolve, invoke, builtin, hf.eval hx, hf.eval hy, h]
 have h63 : (((n + m : Nat) : Int)) ≤ 9223372036854775807 := by
  have : n + m ≤ (n + m) * i.bytes := Nat.le_mul_of_pos_right _ hb0
  omega
 unfold Oper.wp
 by_cases hroom : n + m ≤ cap
 ·
  -- there is room
  obtain ⟨am, h, f, h1, h2, ok, l1, l2, H', tt⟩ := id hsat'
  rcases H' with ⟨e2, e3⟩ | ⟨b, pre, post, e1, e2, e3⟩
  ·
   subst e2 e3
   have hn0 : n = 0 := by omega
   have hm0 : m = 0 := by omega
   subst hn0 hm0
   have hy0 : ys = [] := List.eq_nil_of_length_eq_zero (by rw [hyl]; simp)
   subst hy0
   have hr : (Builtin.append_ #[t, tx] ty #[.slice a 0 0, src]).run P w = .ok (.slice a 0 0) w := by
    have h3 := hS.src.cells
    cases a with
    | none => rcases hS.src.kind with ⟨e', hk⟩ | hk <;> simp [Builtin.append_, run_underlying hu, run_underlying hk, sizeOf, typeInfo, hinf, hS.src.len, h3]
    | some q => rcases hS.src.kind with ⟨e', hk⟩ | hk <;> simp [Builtin.append_, run_underlying hu, run_underlying hk, sizeOf, typeInfo, hinf, hS.src.len, h3, storeCells]
   rw [run_eq _ _ hr]
   exact hnext _ _ w ⟨a, 0, rfl, fun _ => rfl, rfl⟩ (by simpa using hsat')
  ·
   subst e1
   have hh := f b _ (l1 b _ e3.2.choose_spec.2)
   have s2 : Sat A w (blk b (pre ++ (cs ++ post)) e :: (Γ' ++ F)) := ⟨am, h, f, h1, h2, ok, l1, l2, e3, tt⟩
   have hlen : (pre.length + n * i.size) + ys.length ≤ (pre ++ (cs ++ post)).length := by
    have : (n + m) * i.size ≤ cap * i.size := Nat.mul_le_mul_right _ hroom
    rw [Nat.add_mul] at this
    simp; omega
   obtain ⟨ho, fz, hfz, hh', s3⟩ := s2.blk
   have hr := run_append_room_src (P := P) w t tx ty e i hu hinf b pre.length n cap src m ys hS.src hroom
    (fun j hj => by rw [cell_of hh']; simp at hlen ⊢; omega)
    (fun j hj => by
     simp only [World.frozen?, hh']
     rcases hfz with h | h
     ·
      simp [h]
     ·
      simp at h hlen ⊢; omega)
   rw [run_eq _ _ hr]
   obtain ⟨a1, a2⟩ := heap_setCells b ys (pre.length + n * i.size) w _ e fz hh' hlen
   have s4 := Sat.blk_of (s3.update a1 a2 (amb_setCells b ys _ w)) (ones_splice ho hS.src.one _) (by
    rcases hfz with h | h
    ·
     exact .inl h
    ·
     right; rw [length_splice _ _ _ hlen]; exact h)
   refine hnext _ _ _ ⟨_, cap, rfl, fun h => (by cases h), rfl⟩ ?_
   refine Sat.close (B := [blk b (pre ++ ((cs ++ ys) ++ post.drop ys.length)) e]) (fun h' H => ?_) ?_
   ·
    exact sat.arr_close (by simp at hlen ⊢; omega) H
   ·
    have : splice (pre ++ (cs ++ post)) (pre.length + n * i.size) ys = pre ++ ((cs ++ ys) ++ post.drop ys.length) := by
     unfold splice
     rw [← hn, ← List.append_assoc pre cs post, ← List.length_append, List.take_left, List.drop_append, List.drop_eq_nil_of_le (by omega)]
     have : (pre ++ cs).length + ys.length - (pre ++ cs).length = ys.length := by omega
     simp only [this, List.nil_append, List.append_assoc]
    rw [this] at s4
    exact s4
 ·
  -- a new row
  have hg : cap < n + m := by omega
  have hold : (Builtin.firstCells i.size n (.slice a n cap)).run P w.drew = .ok cs.toArray w.drew := by
   rcases hsat'.arr_row with h0 | ⟨b, o, h0, h3⟩
   ·
    subst h0
    have hn0 : n = 0 := by
     rcases Nat.mul_eq_zero.1 (hn.symm.trans (by simp) : n * i.size = 0) with h | h <;> omega
    subst hn0
    cases a with
    | none => exact run_firstCells_none w.drew i.size 0 0 cap
    | some q => exact run_firstCells_some (P := P) w.drew i.size 0 q 0 cap [] (by simp) (by simp)
   ·
    subst h0
    exact run_firstCells_some (P := P) w.drew i.size n ⟨b, o, none⟩ n cap cs hn (fun j v hv => by rw [Addr_add, World.cell?_drew]; exact h3.1 j v hv)
  have hr := run_append_grow_src (P := P) w t tx ty e i z hu hinf hzv a n cap cs hold src m ys hS.src hg h63 (growslice_fits hg hbound)
  have e5 : ((cs ++ ys).toArray ++ Builtin.zeroCells z.cells (grownCap w (n + m) cap e - (n + m))) = ((cs ++ ys) ++ (Builtin.zeroCells z.cells (grownCap w (n + m) cap e - (n + m))).toList).toArray := by
   apply Array.ext'; simp
  rw [e5] at hr
  rw [run_eq _ _ hr]
  refine hnext _ _ _ ⟨_, _, rfl, fun h => (by cases h), rfl⟩ ?_
  have hge := grownCap_ge w (n + m) cap e
  have hcs := hsat'.arr_len.2
  have s4 := Sat.blk_of (fz := (0, 0)) ((hsat'.drop.drew (w := w)).alloc (.cells ((cs ++ ys) ++ (Builtin.zeroCells z.cells (grownCap w (n + m) cap e - (n + m))).toList).toArray e)) ((hcs.append hS.src.one).append (zeroCells_ones hzo _)) (.inl rfl)
  show Sat A _ (_ :: (Γ' ++ F))
  refine Sat.close (Γ := Γ' ++ F) (B := [blk w.heap.size ([] ++ ((cs ++ ys) ++ (Builtin.zeroCells z.cells (grownCap w (n + m) cap e - (n + m))).toList)) e]) (fun h' H => ?_) (by rw [List.nil_append]; exact s4)
  refine sat.arr_close (pre := []) ?_ H
  simp [size_zeroCells, hz, hn, hyl]
  rw [← Nat.add_mul, ← Nat.add_mul]; congr 1; omega
end
end Go.Sp
/- A separation logic over the given machine. Part 4: calls; more on slices. -/
namespace Go.Sp
open Go
section
variable {P : Program} {N : Nat} {E : Env} {Γ Γ' : List SProp} {dst : Option Tmp} {ty : TypeId} {pos : String} {after : Array Edge} {guard : Option (Nat × Bool)}
theorem Eff.call {fo : Operand} {args : Array Operand} {ts : Array TypeId} {f : FuncId} {first cap : Array Value} {vs : List Value} {Γf : List SProp} {Q : Value → List SProp → Prop} (hfo : ev E fo = some (.func (.func f) first cap))
  (ha : evs E args.toList = some vs) (p : Picks Γf Γ Γ') (h : Ret P f (first.toList ++ (vs ++ cap.toList)) Γf Q) :
  Eff P N E Γ ⟨dst, .call ⟨.value fo, args, ts⟩, ty, pos, after, guard⟩ fun v Γ'' => ∃ Γ1, Q v Γ1 ∧ Γ'' = Γ1 ++ Γ' := by
 intro A F w a nx Z hf hsat hn
 obtain ⟨⟨fn, hfn, hname, hbody⟩, hruns⟩ := h
 have e1 : args.map a.eval = vs.toArray := by
  have := congrArg List.toArray (hf.evals ha)
  rw [← this, ← Array.toList_map]
 have hargs : (first.toList ++ (vs ++ cap.toList)).toArray = first ++ vs.toArray ++ cap := by apply Array.ext'; simp
 have hrun : (execOp a.eval ⟨dst, .call ⟨.value fo, args, ts⟩, ty, pos, after, guard⟩).run P w = .ok (.enter f (first ++ vs.toArray ++ cap)) w := by
  have hname' : fn.name ≠ "runtime.NumGoroutine" := by simpa using hname
  have hbody' : fn.body ≠ none := by intro h; simp [h] at hbody
  simp [execOp, resolve, hf.eval hfo, Deferred.ofValue, invoke, callFunc, hfn, hname', hbody', e1]
 unfold Oper.wp
 rw [hrun, Oper.upon_enter]
 have hsat' : Sat A w (Γf ++ (Γ' ++ F)) := hsat.swap_in p
 have := hruns A (Γ' ++ F) w hsat'
 rw [hargs] at this
 refine this.mono ?_
 rintro e w' ⟨v, Γ1, rfl, hq, hs⟩
 exact hn v (Γ1 ++ Γ') w' ⟨Γ1, hq, rfl⟩ (by rwa [List.append_assoc])
variable {ops : Array Oper} {rest os : List Oper} {K : Env → List SProp → Prop}
theorem Reads.slice {t x e s} {a : Option Addr} {n c l h m : Nat} {lo hi mx : Option Operand} (hu : P.underlying t = some (.slice e)) (hs : TS P e s) (hx : ev E x = some (.slice a n c))
  (hmx : match mx with | none => m = c | some o => ∃ k, ev E o = some (.int k (m : Int))) (hhi : match hi with | none => h = n ∧ mx = none | some o => ∃ k, ev E o = some (.int k (h : Int))) (hlo : match lo with | none => l = 0 | some o => ∃ k, ev E o = some (.int k (l : Int)))
  (h1 : l ≤ h) (h2 : h ≤ m) (h3 : m ≤ c) :
  Reads P N E Γ ⟨dst, .slice t x lo hi mx, ty, pos, after, guard⟩ (.slice (if m = l then a else a.map (·.add (l * s))) (h - l) (m - l)) := fun _ w ac hf _ => by
 have b1 : 0 ≤ (m : Int) := by omega
 have b2 : 0 ≤ (h : Int) := by omega
 have b3 : 0 ≤ (l : Int) := by omega
 cases mx with
 | none =>
  simp only at hmx; subst hmx
  cases hi with
  | none =>
   obtain ⟨hh, _⟩ := hhi; subst hh
   cases lo with
   | none => simp only at hlo; subst hlo; simp [execOp, Instr.sliceAt, Instr.slice, Instr.sliceBounds, hf.eval hx, underlying, hu, hs.run]
   | some o =>
    obtain ⟨k, ho⟩ := hlo
    simp [execOp, Instr.sliceAt, Instr.slice, Instr.sliceBounds, Instr.sliceBound, asIntOf, hf.eval hx, hf.eval ho, underlying, hu, hs.run, h1]
  | some o2 =>
   obtain ⟨k2, ho2⟩ := hhi
   cases lo with
   | none => simp only at hlo; subst hlo; simp [execOp, Instr.sliceAt, Instr.slice, Instr.sliceBounds, Instr.sliceBound, asIntOf, hf.eval hx, hf.eval ho2, underlying, hu, hs.run, h2]
   | some o =>
    obtain ⟨k, ho⟩ := hlo
    simp [execOp, Instr.sliceAt, Instr.slice, Instr.sliceBounds, Instr.sliceBound, asIntOf, hf.eval hx, hf.eval ho, hf.eval ho2, underlying, hu, hs.run, h1, h2]
 | some o3 =>
  obtain ⟨k3, ho3⟩ := hmx
  cases hi with
  | none => exact absurd hhi.2 (by simp)
  | some o2 =>
   obtain ⟨k2, ho2⟩ := hhi
   cases lo with
   | none => simp only at hlo; subst hlo; simp [execOp, Instr.sliceAt, Instr.slice, Instr.sliceBounds, Instr.sliceBound, asIntOf, hf.eval hx, hf.eval ho2, hf.eval ho3, underlying, hu, hs.run, h2, h3]
   | some o =>
    obtain ⟨k, ho⟩ := hlo
    simp [execOp, Instr.sliceAt, Instr.slice, Instr.sliceBounds, Instr.sliceBound, asIntOf, hf.eval hx, hf.eval ho, hf.eval ho2, hf.eval ho3, underlying, hu, hs.run, h1, h2, h3]
theorem madeCells_ones {z : Array Value} (h : ones z.toList) (hz : 0 < z.size) (n : Nat) : ones (madeCells z n).toList := by
 intro v hv
 simp only [madeCells, Array.toList_map, List.mem_map] at hv
 obtain ⟨i, hi, rfl⟩ := hv
 have hlt : i % z.size < z.size := Nat.mod_lt _ hz
 rw [getElem!_pos z _ hlt]
 exact h _ (by simp)
theorem blk.arr {b e s c} {cs post : List Value} {h} (hl : cs.length + post.length = c * s) (H : blk b (cs ++ post) e h) : Sp.arr e s (some ⟨b, 0, none⟩) c cs h :=
 .inr ⟨b, [], post, rfl, hl, by simpa using H⟩
theorem blk.arr_all {b e s c} {cs : List Value} {h} (hl : cs.length = c * s) (H : blk b cs e h) : Sp.arr e s (some ⟨b, 0, none⟩) c cs h :=
 blk.arr (post := []) (by simpa using hl) (by simpa using H)
theorem Eff.buildSlice {t e s by_ z} {n : Nat} {parts : Array (Nat × Operand)} {vs : List Value} {cs : List Value} (hu : P.underlying t = some (.slice e)) (hi : TI P e s by_ z) (hp : evs E (parts.toList.map (·.2)) = some vs) (hb : n * s ≤ 16777216)
  (h : Instr.fill (fun i => some (i * s, s)) (madeCells z.cells (n * s)) ((parts.toList.map (·.1)).zip vs) = some cs.toArray) (hone : ones cs) :
  Eff P N E Γ ⟨dst, .buildSlice t n parts, ty, pos, after, guard⟩ fun v Γ'' => ∃ b, v = .slice (some ⟨b, 0, none⟩) n n ∧ Γ'' = blk b cs e :: Γ := by
 intro A F w a nx Z hf hsat hn
 obtain ⟨i, hinf, hsz, hby, hzv⟩ := hi
 subst hsz hby
 have e1 := hf.evals hp
 have e2 : (parts.map fun (i, x) => (i, a.eval x)) = ((parts.toList.map (·.1)).zip vs).toArray := by
  apply Array.ext'
  rw [← e1]
  simp only [Array.toList_map]
  generalize parts.toList = ps
  induction ps with
  | nil => rfl
  | cons p ps ih => simp only [List.map_cons, List.zip_cons_cons, ih]
 have hnb : ¬ (16777216 < n * i.size) := by omega
 have hr : (Instr.buildSlice t n ((parts.toList.map (·.1)).zip vs).toArray).run P w = .ok (.slice (some ⟨w.heap.size, 0, none⟩) n n) (w.alloc (.cells cs.toArray e)) := by
  by_cases h0 : n * i.size = 0
  ·
   have hm : madeCells z.cells (n * i.size) = #[] := by rw [h0]; simp [madeCells, Array.range_zero']
   rw [hm] at h
   simp [Instr.buildSlice, run_underlying hu, sizeOf, typeInfo, hinf, h0, newRow, Array.range_zero', h]
  ·
   unfold madeCells at h
   simp [Instr.buildSlice, run_underlying hu, sizeOf, typeInfo, zeroValue, hinf, hzv, h0, hnb, newRow, h]
 unfold Oper.wp
 simp only [execOp, e2, Sem.run_bind, hr, Result.andThen_ok, Sem.run_pure, Oper.upon]
 refine hn _ _ _ ⟨w.heap.size, rfl, rfl⟩ ?_
 exact Sat.blk_of (fz := (0, 0)) (hsat.alloc _) hone (.inl rfl)
theorem fill_one {place : Nat → Option (Nat × Nat)} {z : Array Value} {v : Value} {s : Nat} (hp : place 0 = some (0, s)) (hv : v.cells.size = s) (hz : z.size = s) : Instr.fill place z [(0, v)] = some v.cells := by
 have h1 : ¬ (v.cells.size ≠ s ∨ 0 + v.cells.size > z.size) := by omega
 have h2 : ∀ (l : List Value) (k : Nat) (cs : Array Value), k + l.length = cs.size → ∀ i, ((l.zipIdx k).foldl (fun cs (c, j) => cs.setIfInBounds (0 + j) c) cs)[i]? = if i < k then cs[i]? else l[i - k]? := by
  intro l
  induction l with
  | nil => intro k cs hk i; simp at hk ⊢; intro h; omega
  | cons c l ih =>
   intro k cs hk i
   simp only [List.zipIdx_cons, List.foldl_cons]
   rw [ih (k + 1) _ (by simp at hk ⊢; omega)]
   simp only [List.length_cons] at hk
   by_cases h3 : i < k
   ·
    have : i < k + 1 := by omega
    simp only [this, h3, if_true]
    rw [Array.getElem?_setIfInBounds_ne (by omega)]
   ·
    by_cases h4 : i = k
    ·
     subst h4
     have : i < cs.size := by omega
     simp [this]
    ·
     have e1 : ¬ i < k + 1 := by omega
     have e2 : i - k = (i - (k + 1)) + 1 := by omega
     simp only [e1, h3, if_false, e2, List.getElem?_cons_succ]
 simp only [Instr.fill, hp]
 rw [if_neg (by simpa using h1)]
 congr 1
 apply Array.ext'
 apply List.ext_getElem?
 intro i
 rw [Array.getElem?_toList, ← Array.foldl_toList]
 have := h2 v.cells.toList 0 z (by simp; omega) i
 simp only [Nat.not_lt_zero, if_false, Nat.sub_zero] at this
 rw [show v.cells.zipIdx.toList = v.cells.toList.zipIdx from by simp]
 rw [this]
theorem Eff.buildOne {t e s by_ z x v} {cs : List Value} (hu : P.underlying t = some (.slice e)) (hi : TI P e s by_ z) (hs1 : s ≤ 16777216) (hx : ev E x = some v) (hc : v.cells.toList = cs) (hl : cs.length = s) (hone : ones cs) :
  Eff P N E Γ ⟨dst, .buildSlice t 1 #[(0, x)], ty, pos, after, guard⟩ fun u Γ'' => ∃ b, u = .slice (some ⟨b, 0, none⟩) 1 1 ∧ Γ'' = blk b cs e :: Γ := by
 refine Eff.buildSlice (vs := [v]) hu hi ?_ (by omega) ?_ hone
 ·
  simp [evs, hx]
 ·
  have hv : v.cells.size = s := by rw [← hl, ← hc]; simp
  have := fill_one (place := fun i => some (i * s, s)) (z := madeCells z.cells (1 * s)) (v := v) (s := s) (by simp) hv (by simp [madeCells])
  simp only [List.map_cons, List.map_nil, List.zip_cons_cons, List.zip_nil_right]
  rw [this, ← hc]
theorem Eff.buildNone {t e s by_ z} (hu : P.underlying t = some (.slice e)) (hi : TI P e s by_ z) :
  Eff P N E Γ ⟨dst, .buildSlice t 0 #[], ty, pos, after, guard⟩ fun u Γ'' => ∃ b, u = .slice (some ⟨b, 0, none⟩) 0 0 ∧ Γ'' = blk b [] e :: Γ :=
 Eff.buildSlice (vs := []) hu hi rfl (by omega) (by simp [Instr.fill, madeCells]) .nil
end
end Go.Sp
/- A separation logic over the given machine. Part 5: regions that draw their order. -/
namespace Go.Sp
open Go
section
variable {P : Program} {N : Nat} {ops : Array Oper} {E : Env} {Γ ΓS : List SProp} {K : Env → List SProp → Prop} {fuel : Nat} {listed : Array Bool} {L : List Nat}
def deps (ops : Array Oper) (l : Nat) : List Nat → List Nat → List Nat
 | [], acc => acc
 | j :: js, acc => deps ops l js (match ops[j]? with
  | some o => match o.after.any fun e => Region.binds .any e && (Nat.beq e.on l || acc.any (Nat.beq e.on)) with
   | true => j :: acc
   | false => acc
  | none => acc)
def waits (ops : Array Oper) (L : List Nat) (j : Nat) : Bool := L.all fun l => Nat.beq l j || (deps ops l (List.range ops.size) []).any (Nat.beq j)
def Closed (ops : Array Oper) (listed : Array Bool) : Prop :=
 ∀ (j : Nat) (o : Oper), ops[j]? = some o → listed.getD j false = true → ∀ e ∈ o.after, Region.binds .any e = true → listed.getD e.on false = true
theorem getD_set_true {listed : Array Bool} {i j : Nat} (h : listed.getD j false = true) : (listed.setIfInBounds i true).getD j false = true := by
 by_cases hij : i = j
 ·
  subst hij
  have : i < listed.size := by
   rcases Nat.lt_or_ge i listed.size with h' | h'
   ·
    exact h'
   ·
    simp [h'] at h
  simp [this]
 ·
  rw [getD_set_ne false hij]; exact h
theorem Closed.set {listed : Array Bool} {i : Nat} (hc : Closed ops listed) (hr : i ∈ Region.ready .any ops listed) : Closed ops (listed.setIfInBounds i true) := by
 intro j o ho hl e he hb
 by_cases hij : i = j
 ·
  subst hij
  obtain ⟨_, o', ho', h'⟩ := mem_ready.1 hr
  rw [ho] at ho'; cases ho'
  exact getD_set_true (h' e he hb)
 ·
  rw [getD_set_ne false hij] at hl
  exact getD_set_true (hc j o ho hl e he hb)
theorem Closed.start (n : Nat) : Closed ops (Array.replicate n false) := by
 intro j o _ hl
 simp only [Array.getD_eq_getD_getElem?] at hl
 rcases Nat.lt_or_ge j n with h | h <;> simp [h] at hl
theorem deps_fed {listed : Array Bool} {l : Nat} (hc : Closed ops listed) : ∀ (js acc : List Nat),
  (∀ j ∈ acc, ∃ o, ops[j]? = some o ∧ ((∀ e ∈ o.after, Region.binds .any e = true → listed.getD e.on false = true) → listed.getD l false = true)) →
  ∀ j ∈ deps ops l js acc, ∃ o, ops[j]? = some o ∧ ((∀ e ∈ o.after, Region.binds .any e = true → listed.getD e.on false = true) → listed.getD l false = true)
 | [], _, h => h
 | k :: js, acc, h => by
  unfold deps
  refine deps_fed hc js _ ?_
  cases hk : ops[k]? with
  | none => exact h
  | some o =>
   simp only
   cases hx : o.after.any fun e => Region.binds .any e && (Nat.beq e.on l || acc.any (Nat.beq e.on)) with
   | false => exact h
   | true =>
    intro j hj
    rcases List.mem_cons.1 hj with rfl | hj
    ·
     refine ⟨o, hk, fun hall => ?_⟩
     obtain ⟨e, he, hb⟩ := Array.any_eq_true'.1 hx
     simp only [Bool.and_eq_true, Bool.or_eq_true, List.any_eq_true] at hb
     obtain ⟨hb1, hb2⟩ := hb
     have hl := hall e he hb1
     rcases hb2 with hb2 | ⟨m, hm, hb2⟩
     ·
      rw [← Nat.eq_of_beq_eq_true hb2]; exact hl
     ·
      have := Nat.eq_of_beq_eq_true hb2
      rw [← this] at hm
      obtain ⟨o2, ho2, h2⟩ := h _ hm
      exact h2 (hc _ o2 ho2 hl)
    ·
     exact h j hj
def wpAnyL (P : Program) (ops : Array Oper) (Q : Exit → Act → World → Prop) (S : World → Prop) (L : List Nat) : Nat → Array Bool → Act → World → Prop
 | 0, listed, a, w => Region.ready .any ops listed = [] ∧ Q .normal a w
 | fuel + 1, listed, a, w => Closed ops listed → (
  (Region.ready .any ops listed = [] → Q .normal a w) ∧
  ∀ i ∈ Region.ready .any ops listed, wpOp P ops Q i (fun a' w' => (waits ops L i = false → S w → S w') ∧ wpAnyL P ops Q S L fuel (listed.setIfInBounds i true) a' w') a w)
theorem wpAny_of_L {Q S L} : ∀ (fuel : Nat) (listed : Array Bool) (a : Act) (w : World), Closed ops listed → wpAnyL P ops Q S L fuel listed a w → wpAny P .any ops Q fuel listed a w
 | 0, _, _, _, _, h => h
 | fuel + 1, _, _, _, hc, h => ⟨(h hc).1, fun i hi => wpOp_mono (fun a' w' h' => wpAny_of_L fuel _ a' w' (hc.set hi) h'.2) ((h hc).2 i hi)⟩
theorem waits_false {listed : Array Bool} {L : List Nat} {i j : Nat} (hc : Closed ops listed) (hi : i ∈ L) (hj : j ∈ Region.ready .any ops listed) (hne : j ≠ i) (hl : listed.getD i false = false) : waits ops L j = false := by
 cases hw : waits ops L j with
 | false => rfl
 | true =>
  have := List.all_eq_true.1 hw i hi
  simp only [Bool.or_eq_true, List.any_eq_true] at this
  rcases this with h | ⟨m, hm, h⟩
  ·
   exact absurd (Nat.eq_of_beq_eq_true h).symm hne
  ·
   have := Nat.eq_of_beq_eq_true h
   subst this
   obtain ⟨_, o, ho, hall⟩ := mem_ready.1 hj
   obtain ⟨o', ho', this⟩ := deps_fed hc (List.range ops.size) [] (fun _ h => by cases h) j hm
   rw [ho] at ho'; cases ho'
   rw [hl] at this; cases this hall
theorem wpAnyL_first {Q : Exit → Act → World → Prop} {S : World → Prop} {L : List Nat} {i : Nat} {oi : Oper} {v : Value} (hi : ops[i]? = some oi) (hsel : ∀ (j : Nat) (o : Oper) cs b, ops[j]? = some o → o.op ≠ .select cs b)
  (hQ : ∀ c a w, Q (.panic c) (a.put oi.dst v) w → Q (.panic c) a w) (hL : i ∈ L) :
  ∀ (fuel : Nat) (listed : Array Bool) (a : Act) (w : World),
   (∀ j oj, ops[j]? = some oj → j ≠ i → listed.getD j true = false → (∀ e ∈ oj.after, Region.binds .any e = true → e.on ≠ i) → oi.apart ops oj = true) →
   i ∈ Region.ready .any ops listed → YieldsIf P ops S oi v a → S w →
   wpAnyL P ops Q S L fuel (listed.setIfInBounds i true) (a.put oi.dst v) w → wpAnyL P ops Q S L (fuel + 1) listed a w := by
 intro fuel
 induction fuel with
 | zero =>
  intro listed a w _ hr hy hS H
  refine fun hc => ⟨fun h => (by rw [h] at hr; cases hr), fun j hj => ?_⟩
  by_cases hji : j = i
  ·
   subst hji; exact hy.wpOp hi hS ⟨fun _ _ => hS, H⟩
  ·
   have := ready_mono hj hji
   rw [H.1] at this
   cases this
 | succ fuel ih =>
  intro listed a w hfree hr hy hS H
  refine fun hc => ⟨fun h => (by rw [h] at hr; cases hr), fun j hj => ?_⟩
  by_cases hji : j = i
  ·
   subst hji; exact hy.wpOp hi hS ⟨fun _ _ => hS, H⟩
  ·
   have h1 := (H (hc.set hr)).2 j (ready_mono hj hji)
   obtain ⟨hjun, oj, hoj, hall⟩ := mem_ready.1 hj
   have hnot : ∀ e ∈ oj.after, Region.binds .any e = true → e.on ≠ i := fun e he hb heq => by
    have h1 := hall e he hb
    have h0 := (mem_ready.1 hr).1
    rw [heq] at h1
    rcases Nat.lt_or_ge i listed.size with h' | h'
    ·
     simp [h'] at h0 h1; rw [h0] at h1; cases h1
    ·
     simp [Array.getElem?_eq_none h'] at h1
   have h2 := wpOp_putIf hoj (hfree j oj hoj hji hjun hnot) (fun cs b => hsel i oi cs b hi) (fun cs b => hsel j oj cs b hoj) hQ hy h1
   have hfree' : ∀ k ok, ops[k]? = some ok → k ≠ i → (listed.setIfInBounds j true).getD k true = false →
     (∀ e ∈ ok.after, Region.binds .any e = true → e.on ≠ i) → oi.apart ops ok = true := fun k ok hk hki hun hno => by
    refine hfree k ok hk hki ?_ hno
    by_cases hjk : j = k
    ·
     subst hjk; exact hjun
    ·
     rw [getD_set_ne true hjk] at hun; exact hun
   refine wpOp_mono (fun a' w' h3 => ?_) h2
   have hS' : S w' := h3.2.1 (waits_false hc hL hj hji (by have h0 := (mem_ready.1 hr).1; rcases Nat.lt_or_ge i listed.size with h' | h' <;> simp [h'] at h0 ⊢; exact h0)) hS
   refine ⟨fun _ _ => hS', ih (listed.setIfInBounds j true) a' w' hfree' (ready_mono hr (Ne.symm hji)) h3.1 hS' ?_⟩
   rw [Array.setIfInBounds_comm _ _ hji]
   exact h3.2.2
theorem wpAnyL_pure {Q : Exit → Act → World → Prop} {S : World → Prop} {L : List Nat} {i : Nat} {oi : Oper} {v : Value} (hi : ops[i]? = some oi) (hsel : ∀ (j : Nat) (o : Oper) cs b, ops[j]? = some o → o.op ≠ .select cs b)
  (hQ : ∀ c a w, Q (.panic c) (a.put oi.dst v) w → Q (.panic c) a w) :
  ∀ (fuel : Nat) (listed : Array Bool) (a : Act) (w : World),
   (∀ j oj, ops[j]? = some oj → j ≠ i → listed.getD j true = false → (∀ e ∈ oj.after, Region.binds .any e = true → e.on ≠ i) → oi.apart ops oj = true) →
   i ∈ Region.ready .any ops listed → Yields P ops oi v a →
   wpAnyL P ops Q S L fuel (listed.setIfInBounds i true) (a.put oi.dst v) w → wpAnyL P ops Q S L (fuel + 1) listed a w := by
 intro fuel
 induction fuel with
 | zero =>
  intro listed a w _ hr hy H
  refine fun hc => ⟨fun h => (by rw [h] at hr; cases hr), fun j hj => ?_⟩
  by_cases hji : j = i
  ·
   subst hji; exact hy.wpOp hi ⟨fun _ h => h, H⟩
  ·
   have := ready_mono hj hji
   rw [H.1] at this
   cases this
 | succ fuel ih =>
  intro listed a w hfree hr hy H
  refine fun hc => ⟨fun h => (by rw [h] at hr; cases hr), fun j hj => ?_⟩
  by_cases hji : j = i
  ·
   subst hji; exact hy.wpOp hi ⟨fun _ h => h, H⟩
  ·
   have h1 := (H (hc.set hr)).2 j (ready_mono hj hji)
   obtain ⟨hjun, oj, hoj, hall⟩ := mem_ready.1 hj
   have hnot : ∀ e ∈ oj.after, Region.binds .any e = true → e.on ≠ i := fun e he hb heq => by
    have h1 := hall e he hb
    have h0 := (mem_ready.1 hr).1
    rw [heq] at h1
    rcases Nat.lt_or_ge i listed.size with h' | h'
    ·
     simp [h'] at h0 h1; rw [h0] at h1; cases h1
    ·
     simp [Array.getElem?_eq_none h'] at h1
   have h2 := wpOp_put hoj (hfree j oj hoj hji hjun hnot) (fun cs b => hsel i oi cs b hi) (fun cs b => hsel j oj cs b hoj) hQ hy h1
   have hfree' : ∀ k ok, ops[k]? = some ok → k ≠ i → (listed.setIfInBounds j true).getD k true = false →
     (∀ e ∈ ok.after, Region.binds .any e = true → e.on ≠ i) → oi.apart ops ok = true := fun k ok hk hki hun hno => by
    refine hfree k ok hk hki ?_ hno
    by_cases hjk : j = k
    ·
     subst hjk; exact hjun
    ·
     rw [getD_set_ne true hjk] at hun; exact hun
   refine wpOp_mono (fun a' w' h3 => ?_) h2
   refine ⟨h3.2.1, ih (listed.setIfInBounds j true) a' w' hfree' (ready_mono hr (Ne.symm hji)) h3.1 ?_⟩
   rw [Array.setIfInBounds_comm _ _ hji]
   exact h3.2.2
def RunD (P : Program) (N : Nat) (ops : Array Oper) (L : List Nat) (ΓS : List SProp) (fuel : Nat) (listed : Array Bool) (E : Env) (Γ : List SProp) (K : Env → List SProp → Prop) : Prop :=
 ∀ A F w a (Z : Exit → Act → World → Prop), (∀ c a w, ¬ Z (.panic c) a w) → Fr N E a → Sat A w (Γ ++ F) →
  (∀ E' Γ' w' a', K E' Γ' → Fr N E' a' → Sat A w' (Γ' ++ F) → Z .normal a' w') → wpAnyL P ops Z (fun w => Sat A w ΓS) L fuel listed a w
def StepD (P : Program) (N : Nat) (ops : Array Oper) (L : List Nat) (ΓS : List SProp) (fuel : Nat) (listed : Array Bool) (i : Nat) (E : Env) (Γ : List SProp) (K : Env → List SProp → Prop) : Prop :=
 ∀ A F w a (Z : Exit → Act → World → Prop), (∀ c a w, ¬ Z (.panic c) a w) → Fr N E a → Sat A w (Γ ++ F) →
  (∀ E' Γ' w' a', K E' Γ' → Fr N E' a' → Sat A w' (Γ' ++ F) → Z .normal a' w') →
  wpOp P ops Z i (fun a' w' => (waits ops L i = false → Sat A w ΓS → Sat A w' ΓS) ∧ wpAnyL P ops Z (fun w => Sat A w ΓS) L fuel (listed.setIfInBounds i true) a' w') a w
theorem Sat.sub {A w Γ Δ ΓS F} (p : Picks ΓS Γ Δ) (s : Sat A w (Γ ++ F)) : Sat A w ΓS := (s.swap_in p).left
theorem RunD.done (hr : Region.ready .any ops listed = []) (h : K E Γ) : RunD P N ops L ΓS fuel listed E Γ K := by
 intro _ _ w a _ _ hf hs hz
 have := hz E Γ w a h hf hs
 cases fuel with
 | zero => exact ⟨hr, this⟩
 | succ n => exact fun _ => ⟨fun _ => this, by rw [hr]; simp⟩
theorem Fr.off {N E a} (hf : Fr N E a) {dst : Option Tmp} (hd : ∀ d, dst = some d → lk E d = none) : Fr N E (a.put dst undef) := by
 cases dst with
 | none => exact hf
 | some d =>
  have hn := hd d rfl
  refine ⟨hf.defers, by simp [Act.put, hf.size], fun s v e => ?_⟩
  have hsd : s ≠ d := fun e' => by subst e'; rw [hn] at e; cases e
  simp only [Act.put]
  rw [Array.getElem?_setIfInBounds_ne (Ne.symm hsd)]
  exact hf.look s v e
theorem RunD.rd {Δ} (i : Nat) {d op ty pos after v} (ho : ops[i]? = some ⟨some d, op, ty, pos, after, none⟩) (hL : L.contains i = true) (hs : Region.noSelect ops = true) (hfr : Region.free .any ops listed i = true)
  (hr : (Region.ready .any ops listed).contains i = true) (h : Reads P N E ΓS ⟨some d, op, ty, pos, after, none⟩ v) (p : Picks ΓS Γ Δ)
  (next : RunD P N ops L ΓS fuel (listed.setIfInBounds i true) ((d, v) :: E) Γ K) (hd : Nat.blt d N = true := by rfl) : RunD P N ops L ΓS (fuel + 1) listed E Γ K := by
 intro A F w a Z hZ hf hsat hz
 refine wpAnyL_first ho (Region.noSelect_spec hs) (fun c a w h => absurd h (hZ _ _ _)) (by simpa using hL) fuel listed a w (Region.free_spec ho hfr) (by simpa using hr) (.inl ⟨rfl, fun w' hS => h A w' a hf hS⟩) (hsat.sub p) ?_
 exact next A F w _ Z hZ (hf.put hd v) hsat hz
theorem RunD.rdG {Δ} (i : Nat) {d op ty pos after v} {g : Nat} {b : Bool} {t : Nat} (ho : ops[i]? = some ⟨some d, op, ty, pos, after, some (g, b)⟩) (hg : gslot ops g = some t) (he : lk E t = some (.bool b))
  (hL : L.contains i = true) (hs : Region.noSelect ops = true) (hfr : Region.free .any ops listed i = true)
  (hr : (Region.ready .any ops listed).contains i = true) (h : Reads P N E ΓS ⟨some d, op, ty, pos, after, some (g, b)⟩ v) (p : Picks ΓS Γ Δ)
  (next : RunD P N ops L ΓS fuel (listed.setIfInBounds i true) ((d, v) :: E) Γ K) (hd : Nat.blt d N = true := by rfl) : RunD P N ops L ΓS (fuel + 1) listed E Γ K := by
 intro A F w a Z hZ hf hsat hz
 have hy := yielded_of hg hf he
 have hw : Region.wanted ⟨some d, op, ty, pos, after, some (g, b)⟩ (yielded ops a.tmps) = true := by simp [Region.wanted, hy]
 refine wpAnyL_first ho (Region.noSelect_spec hs) (fun c a w h => absurd h (hZ _ _ _)) (by simpa using hL) fuel listed a w (Region.free_spec ho hfr) (by simpa using hr) (.inl ⟨hw, fun w' hS => h A w' a hf hS⟩) (hsat.sub p) ?_
 exact next A F w _ Z hZ (hf.put hd v) hsat hz
theorem RunD.off (i : Nat) {dst op ty pos after} {g : Nat} {b c : Bool} {t : Nat} (ho : ops[i]? = some ⟨dst, op, ty, pos, after, some (g, b)⟩) (hg : gslot ops g = some t) (he : lk E t = some (.bool c)) (hne : (c == b) = false)
  (hs : Region.noSelect ops = true) (hfr : Region.free .any ops listed i = true)
  (hr : (Region.ready .any ops listed).contains i = true)
  (next : RunD P N ops L ΓS fuel (listed.setIfInBounds i true) E Γ K) (hd : ∀ d, dst = some d → lk E d = none := by intro d h; cases h; rfl) : RunD P N ops L ΓS (fuel + 1) listed E Γ K := by
 intro A F w a Z hZ hf hsat hz
 have hy := yielded_of hg hf he
 have hw : Region.wanted ⟨dst, op, ty, pos, after, some (g, b)⟩ (yielded ops a.tmps) = false := by
  simp [Region.wanted, hy]; intro e; subst e; simp at hne
 refine wpAnyL_pure ho (Region.noSelect_spec hs) (v := undef) (fun c a w h => absurd h (hZ _ _ _)) fuel listed a w (Region.free_spec ho hfr) (by simpa using hr) (.inr ⟨hw, rfl⟩) ?_
 exact next A F w _ Z hZ (hf.off hd) hsat hz
theorem RunD.rp (i : Nat) {d op ty pos after v} (ho : ops[i]? = some ⟨some d, op, ty, pos, after, none⟩) (hs : Region.noSelect ops = true) (hfr : Region.free .any ops listed i = true)
  (hr : (Region.ready .any ops listed).contains i = true) (h : ∀ w a, Fr N E a → (execOp a.eval ⟨some d, op, ty, pos, after, none⟩).run P w = .ok (.value v) w)
  (next : RunD P N ops L ΓS fuel (listed.setIfInBounds i true) ((d, v) :: E) Γ K) (hd : Nat.blt d N = true := by rfl) : RunD P N ops L ΓS (fuel + 1) listed E Γ K := by
 intro A F w a Z hZ hf hsat hz
 refine wpAnyL_pure ho (Region.noSelect_spec hs) (fun c a w h => absurd h (hZ _ _ _)) fuel listed a w (Region.free_spec ho hfr) (by simpa using hr) (.inl ⟨rfl, fun w' => h w' a hf⟩) ?_
 exact next A F w _ Z hZ (hf.put hd v) hsat hz
theorem RunD.rpG (i : Nat) {d op ty pos after v} {g : Nat} {b : Bool} {t : Nat} (ho : ops[i]? = some ⟨some d, op, ty, pos, after, some (g, b)⟩) (hg : gslot ops g = some t) (he : lk E t = some (.bool b))
  (hs : Region.noSelect ops = true) (hfr : Region.free .any ops listed i = true)
  (hr : (Region.ready .any ops listed).contains i = true) (h : ∀ w a, Fr N E a → (execOp a.eval ⟨some d, op, ty, pos, after, some (g, b)⟩).run P w = .ok (.value v) w)
  (next : RunD P N ops L ΓS fuel (listed.setIfInBounds i true) ((d, v) :: E) Γ K) (hd : Nat.blt d N = true := by rfl) : RunD P N ops L ΓS (fuel + 1) listed E Γ K := by
 intro A F w a Z hZ hf hsat hz
 have hy := yielded_of hg hf he
 have hw : Region.wanted ⟨some d, op, ty, pos, after, some (g, b)⟩ (yielded ops a.tmps) = true := by simp [Region.wanted, hy]
 refine wpAnyL_pure ho (Region.noSelect_spec hs) (fun c a w h => absurd h (hZ _ _ _)) fuel listed a w (Region.free_spec ho hfr) (by simpa using hr) (.inl ⟨hw, fun w' => h w' a hf⟩) ?_
 exact next A F w _ Z hZ (hf.put hd v) hsat hz
theorem Sat.empty (w : World) : Sat (amb w) w [] := ⟨rfl, fun _ => none, fun _ _ e => by simp at e, trivial⟩
theorem Reads.pure {E o v} (h : Reads P N E [] o v) (w : World) (a : Act) (hf : Fr N E a) : (execOp a.eval o).run P w = .ok (.value v) w := h _ w a hf (Sat.empty w)
theorem RunD.all {rs : List Nat} (hr : Region.ready .any ops listed = rs) (hne : rs ≠ []) (h : ∀ i ∈ rs, StepD P N ops L ΓS fuel listed i E Γ K) : RunD P N ops L ΓS (fuel + 1) listed E Γ K :=
 fun A F w a Z hZ hf hsat hz _ => ⟨fun h0 => absurd (hr ▸ h0) hne, hr ▸ fun i hi => h i hi A F w a Z hZ hf hsat hz⟩
theorem StepD.ef {i d op ty pos after} {K1 : Value → List SProp → Prop} (ho : ops[i]? = some ⟨some d, op, ty, pos, after, none⟩) (h : Eff P N E Γ ⟨some d, op, ty, pos, after, none⟩ K1)
  (next : ∀ v Γ', K1 v Γ' → (waits ops L i = true ∨ ∃ Δ, Picks ΓS Γ' Δ) ∧ RunD P N ops L ΓS fuel (listed.setIfInBounds i true) ((d, v) :: E) Γ' K) (hd : Nat.blt d N = true := by rfl) : StepD P N ops L ΓS fuel listed i E Γ K := by
 intro A F w a Z hZ hf hsat hz
 simp only [wpOp, ho, wanted_none, if_true]
 refine .inl (h A F w a _ _ hf hsat ?_)
 intro v Γ' w' hk hs'
 obtain ⟨p, n⟩ := next v Γ' hk
 exact ⟨fun hw _ => (by rcases p with p | ⟨Δ, p⟩; (rw [hw] at p; cases p); exact hs'.sub p), n A F w' _ Z hZ (hf.put hd _) hs' hz⟩
theorem StepD.ef0 {i op ty pos after} {K1 : Value → List SProp → Prop} (ho : ops[i]? = some ⟨none, op, ty, pos, after, none⟩) (h : Eff P N E Γ ⟨none, op, ty, pos, after, none⟩ K1)
  (next : ∀ v Γ', K1 v Γ' → (waits ops L i = true ∨ ∃ Δ, Picks ΓS Γ' Δ) ∧ RunD P N ops L ΓS fuel (listed.setIfInBounds i true) E Γ' K) : StepD P N ops L ΓS fuel listed i E Γ K := by
 intro A F w a Z hZ hf hsat hz
 simp only [wpOp, ho, wanted_none, if_true]
 refine .inl (h A F w a _ _ hf hsat ?_)
 intro v Γ' w' hk hs'
 obtain ⟨p, n⟩ := next v Γ' hk
 exact ⟨fun hw _ => (by rcases p with p | ⟨Δ, p⟩; (rw [hw] at p; cases p); exact hs'.sub p), n A F w' _ Z hZ hf hs' hz⟩
theorem StepD.efG {i d op ty pos after} {g : Nat} {b : Bool} {t : Nat} {K1 : Value → List SProp → Prop} (ho : ops[i]? = some ⟨some d, op, ty, pos, after, some (g, b)⟩) (hg : gslot ops g = some t) (he : lk E t = some (.bool b))
  (h : Eff P N E Γ ⟨some d, op, ty, pos, after, some (g, b)⟩ K1)
  (next : ∀ v Γ', K1 v Γ' → (waits ops L i = true ∨ ∃ Δ, Picks ΓS Γ' Δ) ∧ RunD P N ops L ΓS fuel (listed.setIfInBounds i true) ((d, v) :: E) Γ' K) (hd : Nat.blt d N = true := by rfl) : StepD P N ops L ΓS fuel listed i E Γ K := by
 intro A F w a Z hZ hf hsat hz
 have hy := yielded_of hg hf he
 have hw : Region.wanted ⟨some d, op, ty, pos, after, some (g, b)⟩ (yielded ops a.tmps) = true := by simp [Region.wanted, hy]
 simp only [wpOp, ho, hw, if_true]
 refine .inl (h A F w a _ _ hf hsat ?_)
 intro v Γ' w' hk hs'
 obtain ⟨p, n⟩ := next v Γ' hk
 exact ⟨fun hw _ => (by rcases p with p | ⟨Δ, p⟩; (rw [hw] at p; cases p); exact hs'.sub p), n A F w' _ Z hZ (hf.put hd _) hs' hz⟩
theorem RunD.ef (i : Nat) {d op ty pos after} {K1 : Value → List SProp → Prop} (hr : Region.ready .any ops listed = [i]) (ho : ops[i]? = some ⟨some d, op, ty, pos, after, none⟩) (h : Eff P N E Γ ⟨some d, op, ty, pos, after, none⟩ K1)
  (next : ∀ v Γ', K1 v Γ' → (waits ops L i = true ∨ ∃ Δ, Picks ΓS Γ' Δ) ∧ RunD P N ops L ΓS fuel (listed.setIfInBounds i true) ((d, v) :: E) Γ' K) (hd : Nat.blt d N = true := by rfl) : RunD P N ops L ΓS (fuel + 1) listed E Γ K :=
 .all hr (by simp) fun j hj => by
  rw [List.mem_singleton] at hj; subst hj
  exact .ef ho h next hd
theorem RunD.ef0 (i : Nat) {op ty pos after} {K1 : Value → List SProp → Prop} (hr : Region.ready .any ops listed = [i]) (ho : ops[i]? = some ⟨none, op, ty, pos, after, none⟩) (h : Eff P N E Γ ⟨none, op, ty, pos, after, none⟩ K1)
  (next : ∀ v Γ', K1 v Γ' → (waits ops L i = true ∨ ∃ Δ, Picks ΓS Γ' Δ) ∧ RunD P N ops L ΓS fuel (listed.setIfInBounds i true) E Γ' K) : RunD P N ops L ΓS (fuel + 1) listed E Γ K :=
 .all hr (by simp) fun j hj => by
  rw [List.mem_singleton] at hj; subst hj
  exact .ef0 ho h next
theorem RunD.efG (i : Nat) {d op ty pos after} {g : Nat} {b : Bool} {t : Nat} {K1 : Value → List SProp → Prop} (hr : Region.ready .any ops listed = [i]) (ho : ops[i]? = some ⟨some d, op, ty, pos, after, some (g, b)⟩) (hg : gslot ops g = some t) (he : lk E t = some (.bool b))
  (h : Eff P N E Γ ⟨some d, op, ty, pos, after, some (g, b)⟩ K1)
  (next : ∀ v Γ', K1 v Γ' → (waits ops L i = true ∨ ∃ Δ, Picks ΓS Γ' Δ) ∧ RunD P N ops L ΓS fuel (listed.setIfInBounds i true) ((d, v) :: E) Γ' K) (hd : Nat.blt d N = true := by rfl) : RunD P N ops L ΓS (fuel + 1) listed E Γ K :=
 .all hr (by simp) fun j hj => by
  rw [List.mem_singleton] at hj; subst hj
  exact .efG ho hg he h next hd
theorem RunD.rs {Δ} (i : Nat) {d op ty pos after v} (hr : Region.ready .any ops listed = [i]) (ho : ops[i]? = some ⟨some d, op, ty, pos, after, none⟩) (h : Reads P N E Γ ⟨some d, op, ty, pos, after, none⟩ v)
  (w : waits ops L i = true ∨ Picks ΓS Γ Δ) (next : RunD P N ops L ΓS fuel (listed.setIfInBounds i true) ((d, v) :: E) Γ K) (hd : Nat.blt d N = true := by rfl) : RunD P N ops L ΓS (fuel + 1) listed E Γ K :=
 .ef i hr ho h.eff (fun u Γ' ⟨hu, hΓ⟩ => by subst hu hΓ; exact ⟨w.imp id fun p => ⟨Δ, p⟩, next⟩) hd
theorem RunD.split {t : Nat} {b : Bool} (he : lk E t = some (.bool b)) (hT : b = true → RunD P N ops L ΓS fuel listed ((t, .bool true) :: E) Γ K)
  (hF : b = false → RunD P N ops L ΓS fuel listed ((t, .bool false) :: E) Γ K) : RunD P N ops L ΓS fuel listed E Γ K := by
 intro A F w a Z hZ hf hs hz
 have hl : ∀ c, b = c → Fr N ((t, .bool c) :: E) a := fun c hc => hf.le (Le.cons (by rw [he, hc]) (Le.refl _))
 cases b with
 | true => exact hT rfl A F w a Z hZ (hl _ rfl) hs hz
 | false => exact hF rfl A F w a Z hZ (hl _ rfl) hs hz
theorem RunD.alter {t : Nat} {v v' : Value} (he : lk E t = some v) (hv : v = v') (next : RunD P N ops L ΓS fuel listed ((t, v') :: E) Γ K) : RunD P N ops L ΓS fuel listed E Γ K :=
 fun A F w a Z hZ hf hs hz => next A F w a Z hZ (hf.le (Le.cons (by rw [he, hv]) (Le.refl _))) hs hz
theorem RunD.tell {φ : Prop} (k : Knows Γ fun _ => φ) (next : φ → RunD P N ops L ΓS fuel listed E Γ K) : RunD P N ops L ΓS fuel listed E Γ K :=
 fun A F w a Z hZ hf hs hz => next (k A w hs.left) A F w a Z hZ hf hs hz
theorem Run.draws {C : Cx} {k id} {Q : Value → List SProp → Prop} (L : List Nat) (ΓS : List SProp) (hm : C.P.follows .mixedOrders = true)
  (h : RunD C.P C.fn.ntmps ops L ΓS ops.size (Array.replicate ops.size false) E Γ fun E' Γ' => Run C k E' Γ' Q) : Run C (.code (.region id ops true) :: k) E Γ Q := by
 intro A F w a hf hs b cs hb hk
 have h1 := h A F { w with drawn := w.drawn + 1 } a (fun e a' w' => match e with | .normal => RunW C.P C.f k a' w' fun v w'' => ∃ Γ', Q v Γ' ∧ Sat A w'' (Γ' ++ F) | _ => False) (fun _ _ _ h => h) hf
  (hs.same rfl rfl) (fun E' Γ' w' a' hk' hf' hs' => hk' A F w' a' hf' hs')
 have h2 := wp_region_any (id := id) hm (wpAny_of_L _ _ _ _ (Closed.start _) h1)
 obtain ⟨e, a', w', q, arr⟩ := h2 b k cs
 cases e with
 | normal =>
  obtain ⟨v, w1, fr, r, s, x⟩ := q b cs hb hk
  exact ⟨v, w1, fr, r, arr.trans s, x⟩
 | _ => exact q.elim
end
end Go.Sp
/- A separation logic over the given machine. Part 27: in a region whose order is drawn, operations that only compute, many at once. -/
namespace Go.Sp
open Go
def iterD (t : FTab) (N : Nat) (ops : Array Oper) : List Nat → Array Bool → Env → Option (Array Bool × Env)
 | [], l, E => some (l, E)
 | i :: js, l, E => match ops[i]? with
  | some o => match opS t N ops o E with
   | some E' => iterD t N ops js (l.setIfInBounds i true) E'
   | none => none
  | none => none
def mayD (ops : Array Oper) : List Nat → Array Bool → Bool
 | [], _ => true
 | i :: js, l => Region.free .any ops l i && (Region.ready .any ops l).contains i && mayD ops js (l.setIfInBounds i true)
section
variable {P : Program} {t : FTab} {N : Nat} {ops : Array Oper} {L : List Nat} {ΓS Γ : List SProp} {K : Env → List SProp → Prop}
theorem opV_rd {d' op ty pos after guard} {E E' : Env} (h : opV t N ⟨d', op, ty, pos, after, guard⟩ E = some E') : ∃ d v, d' = some d ∧ Nat.blt d N = true ∧ pureV t E op = some v ∧ E' = (d, v) :: E := by
 unfold opV at h
 dsimp only at h
 cases d' with
 | none => cases h
 | some d =>
  dsimp only at h
  cases hb : Nat.blt d N with
  | false => rw [hb] at h; cases h
  | true =>
   rw [hb] at h
   simp only [cond_true] at h
   cases hv : pureV t E op with
   | none => rw [hv] at h; cases h
   | some v => rw [hv] at h; cases h; exact ⟨d, v, rfl, hb, rfl, rfl⟩
theorem pure_run {dst ty pos after guard} {op : Op} {v : Value} {E : Env} (hf : Facts P t) (h : pureV t E op = some v) : ∀ w a, Fr N E a → (execOp a.eval ⟨dst, op, ty, pos, after, guard⟩).run P w = .ok (.value v) w := fun w a hfr => Reads.pure (pureV_reads hf h) w a hfr
theorem RunD.step1 (hf : Facts P t) (hs : Region.noSelect ops = true) {i fuel : Nat} {o : Oper} {l : Array Bool} {E E' : Env} (ho : ops[i]? = some o) (h : opS t N ops o E = some E') (hfr : Region.free .any ops l i = true) (hr : (Region.ready .any ops l).contains i = true) (next : RunD P N ops L ΓS fuel (l.setIfInBounds i true) E' Γ K) : RunD P N ops L ΓS (fuel + 1) l E Γ K := by
 obtain ⟨dst, op, ty, pos, after, guard⟩ := o
 unfold opS at h
 dsimp only at h
 cases guard with
 | none =>
  obtain ⟨d, v, rfl, hb, hv, rfl⟩ := opV_rd h
  exact .rp i ho hs hfr hr (pure_run hf hv) next hb
 | some gb =>
  obtain ⟨g, b⟩ := gb
  dsimp only at h
  have off : ∀ {c b : Bool} {g s : Nat}, ops[i]? = some ⟨dst, op, ty, pos, after, some (g, b)⟩ → gslot ops g = some s → lk E s = some (.bool c) → (c == b) = false → offV E dst = some E' → RunD P N ops L ΓS (fuel + 1) l E Γ K := fun h0 h1 h2 h3 h4 => by
   cases dst with
   | none => cases h4
   | some d =>
    unfold offV at h4
    dsimp only at h4
    cases hl : lk E d with
    | some _ => rw [hl] at h4; cases h4
    | none =>
     rw [hl] at h4
     cases h4
     exact .off i h0 h1 h2 h3 hs hfr hr next fun d' e => by cases e; exact hl
  have on : ∀ {b : Bool} {g s : Nat}, ops[i]? = some ⟨dst, op, ty, pos, after, some (g, b)⟩ → gslot ops g = some s → lk E s = some (.bool b) → opV t N ⟨dst, op, ty, pos, after, some (g, b)⟩ E = some E' → RunD P N ops L ΓS (fuel + 1) l E Γ K := fun h0 h1 h2 h3 => by
   obtain ⟨d, v, rfl, hb, hv, rfl⟩ := opV_rd h3
   exact .rpG i h0 h1 h2 hs hfr hr (pure_run hf hv) next hb
  cases hg : gslot ops g with
  | none => rw [hg] at h; cases h
  | some s =>
   rw [hg] at h
   dsimp only at h
   split at h
   ·
    rename_i hl
    cases b with
    | true => exact on ho hg hl h
    | false => exact off ho hg hl rfl h
   ·
    rename_i hl
    cases b with
    | false => exact on ho hg hl h
    | true => exact off ho hg hl rfl h
   ·
    cases h
theorem RunD.go_ (hf : Facts P t) (hs : Region.noSelect ops = true) : ∀ (js : List Nat) {fuel : Nat} {l l' : Array Bool} {E E' : Env}, mayD ops js l = true → iterD t N ops js l E = some (l', E') → RunD P N ops L ΓS fuel l' E' Γ K → RunD P N ops L ΓS (fuel + js.length) l E Γ K
 | [], _, _, _, _, _, _, h, next => by cases h; exact next
 | i :: js, fuel, l, _, E, _, hm, h, next => by
  unfold mayD at hm
  unfold iterD at h
  obtain ⟨hm1, hm2⟩ := Bool.and_eq_true_iff.1 hm
  obtain ⟨hm3, hm4⟩ := Bool.and_eq_true_iff.1 hm1
  cases ho : ops[i]? with
  | none => rw [ho] at h; cases h
  | some o =>
   rw [ho] at h
   dsimp only at h
   cases hs1 : opS t N ops o E with
   | none => rw [hs1] at h; cases h
   | some E1 =>
    rw [hs1] at h
    exact RunD.step1 hf hs ho hs1 hm3 hm4 (RunD.go_ hf hs js hm2 h next)
theorem RunD.goD (hf : Facts P t) (js : List Nat) {fuel : Nat} {l l' : Array Bool} {E E' : Env} (next : RunD P N ops L ΓS (fuel - js.length) l' E' Γ K) (h : iterD t N ops js l E = some (l', E') := by rfl) (hm : (Region.noSelect ops && mayD ops js l && Nat.ble js.length fuel) = true := by kernel_rfl) : RunD P N ops L ΓS fuel l E Γ K := by
 obtain ⟨h1, h2⟩ := Bool.and_eq_true_iff.1 hm
 obtain ⟨h3, h4⟩ := Bool.and_eq_true_iff.1 h1
 have := RunD.go_ hf h3 js h4 h next
 rwa [Nat.sub_add_cancel (Nat.le_of_ble_eq_true h2)] at this
end
end Go.Sp
/- A separation logic over the given machine. Part 6: results; contracts that read what stays. -/
namespace Go.Sp
open Go
def ResAt (P : Program) (E : Env) (Γ : List SProp) (r : ResultVar) (v : Value) : Prop :=
 ∀ A w a N, Fr N E a → Sat A w Γ →
  (match r with | .tmp t => (Pure.pure (a.tmps.getD t undef) : Sem Value) | .cell x t => do loadVar t (← asAddr (a.tmps.getD x undef))).run P w = .ok v w
section
variable {P : Program} {E : Env} {Γ Γ' : List SProp}
theorem ResAt.tmp {t v} (h : lk E t = some v) : ResAt P E Γ (.tmp t) v := fun _ w a _ hf _ => by
 have := hf.look t v h
 simp [this]
theorem ResAt.cellN {x t b o n} {cs : List Value} (hn : IsAgg P t) (hs' : TS P t n) (h : lk E x = some (.pointer (some ⟨b, o, none⟩))) (hl : cs.length = n) (k : Knows Γ (CellsAt b o cs)) : ResAt P E Γ (.cell x t) (.agg cs.toArray) := fun A w a _ hf hs => by
 have h1 := hf.look x _ h
 have h2 := (k A w hs).1
 have hr := run_loadCells_list (P := P) w ⟨b, o, none⟩ cs (fun j v hv => by rw [Addr_add]; exact h2 j v hv)
 subst hl
 simp [h1, asAddr, loadVar, hn.run, hs'.run, hr]
theorem ResAt.blkN {x t b e n} {cs : List Value} (hn : IsAgg P t) (hs : TS P t n) (h : lk E x = some (.pointer (some ⟨b, 0, none⟩))) (p : Pick (blk b cs e) Γ Γ') (hl : cs.length = n) : ResAt P E Γ (.cell x t) (.agg cs.toArray) := .cellN hn hs h hl (.blk p)
inductive ResAll (P : Program) (E : Env) (Γ : List SProp) : List ResultVar → List Value → Prop
 | nil : ResAll P E Γ [] []
 | cons {r v rs vs} : ResAt P E Γ r v → ResAll P E Γ rs vs → ResAll P E Γ (r :: rs) (v :: vs)
theorem results_all {fn A a w} {N : Nat} (hf : Fr N E a) (hs : Sat A w Γ) {vs : List Value} (h : ResAll P E Γ fn.results.toList vs) : (results fn a.tmps).run P w = .ok (resVal vs) w := by
 have key : ∀ (rs : List ResultVar) vs, ResAll P E Γ rs vs →
   (rs.mapM (m := Sem) fun | .tmp t => (Pure.pure (a.tmps.getD t undef) : Sem Value) | .cell x t => do loadVar t (← asAddr (a.tmps.getD x undef))).run P w = .ok vs w := by
  intro rs vs h
  induction h with
  | nil => rfl
  | cons h1 _ ih =>
   rw [List.mapM_cons]
   simp only [Sem.run_bind]
   erw [h1 A w a N hf hs]
   simp only [Result.andThen_ok]
   erw [ih]
   rfl
 have h2 := key fn.results.toList vs h
 have h3 : fn.results = fn.results.toList.toArray := rfl
 unfold results
 rw [h3, List.mapM_toArray]
 simp only [Sem.run_bind, Sem.run_map]
 erw [h2]
 match vs with
 | [] => rfl
 | [v] => rfl
 | u :: v :: vs => simp only [resVal]; rfl
theorem Run.retP {C : Cx} {k : List Item} {Q : Value → List SProp → Prop} {vs : List Value} {Δ : List SProp} (hfn : C.P.funcs[C.f]? = some C.fn)
  (h : ResAll C.P E Γ C.fn.results.toList vs) (p : Picks Γ' Γ Δ) (q : Q (resVal vs) Γ') : Run C (.code .ret :: k) E Γ Q := by
 intro A F w a hf hs b cs hb hk
 refine ⟨resVal vs, w, { b.at a (.code .ret :: k) with mode := .returning }, ⟨Γ', q, ?_⟩, .one step_ret, hb, rfl, hf.defers, hk, C.fn, ?_, results_all hf hs.left h⟩
 ·
  obtain ⟨am, h, f, t⟩ := hs
  obtain ⟨h1, h2, ok, l1, l2, s1, s2⟩ := ((p.app F).sat t).split
  obtain ⟨_, k2, _, _, m2, _, s⟩ := s2.split
  exact ⟨am, h, f, sat.join ok l1 l2 s1 (s.mono m2)⟩
 ·
  show C.P.funcs[b.fn]? = _
  rw [hb]; exact hfn
theorem Run.endP {C : Cx} {Q : Value → List SProp → Prop} {vs : List Value} {Δ : List SProp} (hfn : C.P.funcs[C.f]? = some C.fn)
  (h : ResAll C.P E Γ C.fn.results.toList vs) (p : Picks Γ' Γ Δ) (q : Q (resVal vs) Γ') : Run C [] E Γ Q := by
 intro A F w a hf hs b cs hb hk
 refine ⟨resVal vs, w, { b.at a [] with mode := .returning }, ⟨Γ', q, ?_⟩, .one step_end, hb, rfl, hf.defers, hk, C.fn, ?_, results_all hf hs.left h⟩
 ·
  obtain ⟨am, h, f, t⟩ := hs
  obtain ⟨h1, h2, ok, l1, l2, s1, s2⟩ := ((p.app F).sat t).split
  obtain ⟨_, k2, _, _, m2, _, s⟩ := s2.split
  exact ⟨am, h, f, sat.join ok l1 l2 s1 (s.mono m2)⟩
 ·
  show C.P.funcs[b.fn]? = _
  rw [hb]; exact hfn
end
def Cn (P : Program) (f : FuncId) (args : List Value) (φ : World → Prop) (Γf : List SProp) (Q : Value → List SProp → Prop) : Prop :=
 ∀ R : SProp, Knows [R] φ → Ret P f args (Γf ++ [R]) fun v Γ' => ∃ Γ1, Q v Γ1 ∧ Γ' = Γ1 ++ [R]
theorem Cn.mono {P f args φ Γf} {Q Q' : Value → List SProp → Prop} (h : Cn P f args φ Γf Q) (hq : ∀ v Γ1, Q v Γ1 → Q' v Γ1) : Cn P f args φ Γf Q' :=
 fun R k => (h R k).mono fun v _ ⟨Γ1, q, e⟩ => ⟨Γ1, hq v Γ1 q, e⟩
theorem Cn.enter {P : Program} {f : FuncId} {fn : Func} {c : Code} {args : List Value} {φ : World → Prop} {Γf : List SProp} {Q : Value → List SProp → Prop} (hf : P.funcs[f]? = some fn) (hb : fn.body = some c)
  (hn : (fn.name == "runtime.NumGoroutine") = false) (hl : Nat.ble args.length fn.ntmps = true)
  (h : ∀ R, Knows [R] φ → Run ⟨P, f, fn⟩ [.code c] (argEnv 0 args) (Γf ++ [R]) fun v Γ' => ∃ Γ1, Q v Γ1 ∧ Γ' = Γ1 ++ [R]) : Cn P f args φ Γf Q :=
 fun R k => .enter hf hb hn hl (h R k)
theorem sat.fold {Γ : List SProp} {F h} (s : Sp.sat (Γ ++ F) h) : Sp.sat (Sp.sat Γ :: F) h := by
 obtain ⟨h1, h2, ok, l1, l2, s1, s2⟩ := s.split
 exact ⟨h1, h2, ok, l1, l2, s1, s2⟩
theorem sat.unfold {Γ : List SProp} {F h} (s : Sp.sat (Sp.sat Γ :: F) h) : Sp.sat (Γ ++ F) h := by
 obtain ⟨h1, h2, ok, l1, l2, s1, s2⟩ := s
 exact sat.join ok l1 l2 s1 s2
theorem sat.app_right {Γ Δ Δ' : List SProp} {h} (H : ∀ h, Sp.sat Δ h → Sp.sat Δ' h) (s : Sp.sat (Γ ++ Δ) h) : Sp.sat (Γ ++ Δ') h := by
 obtain ⟨h1, h2, ok, l1, l2, s1, s2⟩ := s.split
 exact sat.join ok l1 l2 s1 (H _ s2)
theorem Knows.fold {Γ φ} (k : Knows Γ φ) : Knows [Sp.sat Γ] φ := fun A w s => k A w (s.map fun _ t => by
 have := sat.unfold (F := []) t
 simpa using this)
theorem Cn.ret {P f args φ Γf} {Q : Value → List SProp → Prop} (h : Cn P f args φ Γf Q) {Γ Γ' : List SProp} (p : Picks Γf Γ Γ') (k : Knows Γ' φ) : Ret P f args Γ fun v Γ'' => ∃ Γ1, Q v Γ1 ∧ Γ'' = Γ1 ++ Γ' := by
 have h1 := h (sat Γ') k.fold
 refine ⟨h1.able, fun A F w s => ?_⟩
 have s1 : Sat A w ((Γf ++ [sat Γ']) ++ F) := by
  have := s.swap_in p
  rw [List.append_assoc]
  exact this.map fun _ => sat.app_right fun _ => sat.fold
 refine (h1.runs A F w s1).mono ?_
 rintro e w' ⟨v, _, he, ⟨Γ1, hq, rfl⟩, s'⟩
 refine ⟨v, Γ1 ++ Γ', he, ⟨Γ1, hq, rfl⟩, ?_⟩
 rw [List.append_assoc] at s' ⊢
 exact s'.map fun _ => sat.app_right fun _ => sat.unfold
section
variable {P : Program} {N : Nat} {E : Env} {Γ Γ' : List SProp} {ty : TypeId} {pos : String} {after : Array Edge} {dst : Option Tmp} {guard : Option (Nat × Bool)}
variable {ops : Array Oper} {rest os : List Oper} {K : Env → List SProp → Prop}
theorem Eff.fn {fo : Operand} {args : Array Operand} {ts : Array TypeId} {f : FuncId} {vs : List Value} {φ : World → Prop} {Γf : List SProp} {Q : Value → List SProp → Prop} (hfo : ev E fo = some (.func (.func f) #[] #[]))
  (ha : evs E args.toList = some vs) (p : Picks Γf Γ Γ') (k : Knows Γ' φ) (h : Cn P f vs φ Γf Q) :
  Eff P N E Γ ⟨dst, .call ⟨.value fo, args, ts⟩, ty, pos, after, guard⟩ fun v Γ'' => ∃ Γ1, Q v Γ1 ∧ Γ'' = Γ1 ++ Γ' := by
 have h1 : Ret P f ((#[] : Array Value).toList ++ (vs ++ (#[] : Array Value).toList)) Γ fun v Γ'' => ∃ Γ1, Q v Γ1 ∧ Γ'' = Γ1 ++ Γ' := by simpa using h.ret p k
 refine (Eff.call hfo ha (Picks.self Γ) h1).mono ?_
 rintro v _ ⟨_, ⟨Γ1, hq, rfl⟩, rfl⟩
 exact ⟨Γ1, hq, by simp⟩
theorem RunO.fn {d} {fo : Operand} {args : Array Operand} {ts : Array TypeId} {f : FuncId} {vs : List Value} {φ : World → Prop} {Γf : List SProp} {Q : Value → List SProp → Prop} (hfo : ev E fo = some (.func (.func f) #[] #[]))
  (ha : evs E args.toList = some vs) (p : Picks Γf Γ Γ') (k : Knows Γ' φ) (h : Cn P f vs φ Γf Q) (next : ∀ v Γ1, Q v Γ1 → RunO P N ops rest ((d, v) :: E) (Γ1 ++ Γ') K)
  (hd : Nat.blt d N = true := by rfl) : RunO P N ops (⟨some d, .call ⟨.value fo, args, ts⟩, ty, pos, after, none⟩ :: rest) E Γ K := by
 refine RunO.ef (Eff.fn hfo ha p k h) ?_ hd
 rintro v _ ⟨Γ1, hq, rfl⟩
 exact next v Γ1 hq
end
end Go.Sp
/- A separation logic over the given machine. Part 7: equality of structs; maps. -/
namespace Go.Sp
open Go
def EqV (P : Program) (k : Nat) (t : TypeId) (x y : Value) (b : Bool) : Prop := ∀ d w, (Op.equalIn (d + k) t x y).run P w = .ok b w
section
variable {P : Program}
theorem beqS (a b : ByteArray) : (a == b) = decide (a = b) := by
 rw [beq_toListBytes, Bool.eq_iff_iff]; simp [toList_inj]
theorem EqV.int {t} {k : IntKind} {a b : Int} (hu : P.underlying t = some (.int k)) : EqV P 1 t (.int k a) (.int k b) (decide (a = b)) := fun d w => by
 rw [equalIn_int hu d w]; congr 1
theorem EqV.string {t} {a b : ByteArray} (hu : P.underlying t = some .string) : EqV P 1 t (.string a) (.string b) (decide (a = b)) := fun d w => by
 rw [equalIn_string hu d w, beqS]
def EqF (P : Program) (k : Nat) (xs ys : Array Value) (fs : List Field) (b : Bool) : Prop := ∀ d w, (Op.eqFields (d + k) xs ys fs).run P w = .ok b w
theorem EqF.nil {k xs ys} : EqF P k xs ys [] true := fun _ _ => rfl
theorem EqF.cons {k xs ys} {f : Field} {fs : List Field} {a c : Value} {r s : Bool} (hn : f.name ≠ "_") (h1 : ∀ w, (part f.type xs f.offset).run P w = .ok a w) (h2 : ∀ w, (part f.type ys f.offset).run P w = .ok c w)
  (h : EqV P k f.type a c r) (hs : EqF P k xs ys fs s) : EqF P k xs ys (f :: fs) (r && s) := fun d w => by
 simp only [Op.eqFields, if_pos hn, Sem.run_bind, h1, h2, h d w, Result.andThen_ok]
 cases r with
 | false => simp
 | true => simpa using hs d w
theorem part1 {t off v} {cs : Array Value} (hn : NotAgg P t) (hv : cs[off]? = some v) (w : World) : (part t cs off).run P w = .ok v w := by
 simp [part, hn.run, hv]
theorem EqV.struct {k t xs ys b} {fs : Array Field} (hu : P.underlying t = some (.struct fs)) (hp : P.stoodInHeld t = false) (h : EqF P k xs ys fs.toList b) : EqV P (k + 1) t (.agg xs) (.agg ys) b := fun d w => by
 have hf : P.fieldsOf t = fs := by simp [Program.fieldsOf, hu]
 have := run_equalIn_struct (P := P) w (d + k) t xs ys (by rw [hf]; exact hu) hp
 rw [show d + (k + 1) = (d + k) + 1 from by omega, this, hf]
 exact h d w
section
variable {N : Nat} {E : Env} {Γ : List SProp} {dst : Option Tmp} {ty : TypeId} {pos : String} {after : Array Edge} {guard : Option (Nat × Bool)}
theorem Reads.eqA {k t x y t'} {xs ys : Array Value} {b : Bool} (hg : P.eqGuardType P.depth t = false) (hk : Nat.ble k 10000 = true) (h : EqV P k t (.agg xs) (.agg ys) b) (hx : ev E x = some (.agg xs)) (hy : ev E y = some (.agg ys)) :
  Reads P N E Γ ⟨dst, .binOp .eql t x y t', ty, pos, after, guard⟩ (.bool b) :=
 .bin hx hy (fun w => run_eqGuard_agg w .eql t x y xs ys hg) fun w => by
  have hk' := Nat.le_of_ble_eq_true hk
  have := h (10000 - k) w
  rw [show 10000 - k + k = 10000 from by omega] at this
  rw [run_eql_struct, this]; rfl
theorem Reads.neA {k t x y t'} {xs ys : Array Value} {b : Bool} (hg : P.eqGuardType P.depth t = false) (hk : Nat.ble k 10000 = true) (h : EqV P k t (.agg xs) (.agg ys) b) (hx : ev E x = some (.agg xs)) (hy : ev E y = some (.agg ys)) :
  Reads P N E Γ ⟨dst, .binOp .neq t x y t', ty, pos, after, guard⟩ (.bool (!b)) :=
 .bin hx hy (fun w => run_eqGuard_agg w .neq t x y xs ys hg) fun w => by
  have hk' := Nat.le_of_ble_eq_true hk
  have := h (10000 - k) w
  rw [show 10000 - k + k = 10000 from by omega] at this
  rw [run_neq_struct, this]; rfl
end
def CkV (P : Program) (k : Nat) (t : TypeId) (v : Value) : Prop := ∀ em n w, (Instr.checkKey em (n + k) t v).run P w = .ok () w
inductive CkF (P : Program) (k : Nat) (xs : Array Value) : List Field → Prop
 | nil : CkF P k xs []
 | cons {f fs a} : f.name ≠ "_" → (∀ w, (part f.type xs f.offset).run P w = .ok a w) → CkV P k f.type a → CkF P k xs fs → CkF P k xs (f :: fs)
structure KL (P : Program) (k : TypeId) {κ : Type} [DecidableEq κ] (enc : κ → Value) : Prop where
 inj : ∀ x y, enc x = enc y → x = y
 check : ∀ em x w, (Instr.checkKey em 10000 k (enc x)).run P w = .ok () w
 find : ∀ x (es : List MapEntry) (ks : List κ), es.map (·.key) = ks.map enc → ∀ w, (Instr.findKey k (enc x) es).run P w = .ok ((ks.findIdx? fun y => decide (x = y)).bind fun i => (es[i]?).map fun e => (i, e.val)) w
 stays : ∀ x w, (Instr.keyThatStays (enc x) (enc x)).run P w = .ok (enc x) w
theorem findNow_spec {κ : Type} [DecidableEq κ] {enc : κ → Value} {kd : TypeDesc} (h : ∀ x y, Instr.sameNow kd (enc x) (enc y) = some (decide (x = y))) (x : κ) : ∀ (es : List MapEntry) (ks : List κ) (i : Nat), es.map (·.key) = ks.map enc →
  Instr.findNow kd (enc x) es i = some ((ks.findIdx? fun y => decide (x = y)).bind fun j => (es[j]?).map fun e => (i + j, e.val))
 | [], [], _, _ => rfl
 | [], _ :: _, _, e => by simp at e
 | _ :: _, [], _, e => by simp at e
 | e :: es, y :: ks, i, h0 => by
  simp only [List.map_cons, List.cons.injEq] at h0
  obtain ⟨h1, h2⟩ := h0
  simp only [Instr.findNow, h1, h x y]
  by_cases hxy : x = y
  ·
   subst hxy; simp [List.findIdx?_cons]
  ·
   simp only [hxy, decide_false, List.findIdx?_cons, Bool.false_eq_true, if_false]
   rw [findNow_spec h x es ks (i + 1) h2]
   cases List.findIdx? (fun y => decide (x = y)) ks with
   | none => rfl
   | some j => simp [Nat.add_assoc, Nat.add_comm 1 j]
theorem findAsking_spec {κ : Type} [DecidableEq κ] {enc : κ → Value} {k : TypeId} (h : ∀ x y w, (Op.equal k (enc x) (enc y)).run P w = .ok (decide (x = y)) w) (x : κ) (w : World) : ∀ (es : List MapEntry) (ks : List κ) (i : Nat), es.map (·.key) = ks.map enc →
  (Instr.findAsking k (enc x) es i).run P w = .ok ((ks.findIdx? fun y => decide (x = y)).bind fun j => (es[j]?).map fun e => (i + j, e.val)) w
 | [], [], _, _ => rfl
 | [], _ :: _, _, e => by simp at e
 | _ :: _, [], _, e => by simp at e
 | e :: es, y :: ks, i, h0 => by
  simp only [List.map_cons, List.cons.injEq] at h0
  obtain ⟨h1, h2⟩ := h0
  simp only [Instr.findAsking, h1, Sem.run_bind, h x y w, Result.andThen_ok]
  by_cases hxy : x = y
  ·
   subst hxy; simp [List.findIdx?_cons]
  ·
   simp only [hxy, decide_false, List.findIdx?_cons, Bool.false_eq_true, if_false]
   rw [findAsking_spec h x w es ks (i + 1) h2]
   cases List.findIdx? (fun y => decide (x = y)) ks with
   | none => rfl
   | some j => simp [Nat.add_assoc, Nat.add_comm 1 j]
theorem sameNow_find {κ : Type} [DecidableEq κ] {enc : κ → Value} {k : TypeId} {kd : TypeDesc} (hu : P.underlying k = some kd) (h : ∀ x y, Instr.sameNow kd (enc x) (enc y) = some (decide (x = y))) (x : κ) (es : List MapEntry) (ks : List κ) (hk : es.map (·.key) = ks.map enc) (w : World) :
  (Instr.findKey k (enc x) es).run P w = .ok ((ks.findIdx? fun y => decide (x = y)).bind fun i => (es[i]?).map fun e => (i, e.val)) w := by
 simp only [Instr.findKey, underlying, Sem.run_bind, run_program, Result.andThen_ok, hu, Sem.run_pure, findNow_spec h x es ks 0 hk]
 simp
theorem KL.int {k : TypeId} {q : IntKind} (hu : P.underlying k = some (.int q)) : KL P k (fun n : Int => .int q n) where
 inj _ _ e := by simpa using e
 check em x w := by
  have : ∀ n, (Instr.checkKey em (n + 1) k (.int q x)).run P w = .ok () w := fun n => by simp [Instr.checkKey, underlying, hu]
  exact this 9999
 find := sameNow_find hu fun x y => by simp only [Instr.sameNow, if_true]; congr 1
 stays x w := by simp [Instr.keyThatStays, Instr.sameBits]
theorem KL.string {k : TypeId} (hu : P.underlying k = some .string) : KL P k (fun s : ByteArray => .string s) where
 inj _ _ e := by simpa using e
 check em x w := by
  have : ∀ n, (Instr.checkKey em (n + 1) k (.string x)).run P w = .ok () w := fun n => by simp [Instr.checkKey, underlying, hu]
  exact this 9999
 find := sameNow_find hu fun x y => by simp only [Instr.sameNow, beqS]
 stays x w := by simp [Instr.keyThatStays, Instr.sameBits, beqS]
def mp {κ ν : Type} [DecidableEq κ] (enc : κ → Value) (venc : ν → Value) (b : Nat) (l : List (κ × ν)) : SProp := fun h =>
 ∃ es clock, h b = some (false, .map es clock) ∧ es.toList.map (fun e => (e.key, e.val)) = l.map (fun p => (enc p.1, venc p.2)) ∧ (l.map (·.1)).Nodup ∧
  (es.toList.map (·.born)).Nodup ∧ ∀ e ∈ es.toList, e.born < clock
section
variable {κ ν : Type} [DecidableEq κ] {enc : κ → Value} {venc : ν → Value}
def mget (l : List (κ × ν)) (x : κ) : Option ν := (l.find? fun p => decide (x = p.1)).map (·.2)
def mset (l : List (κ × ν)) (x : κ) (v : ν) : List (κ × ν) := if l.any (fun p => decide (x = p.1)) then l.map (fun p => if x = p.1 then (p.1, v) else p) else l ++ [(x, v)]
def mdel (l : List (κ × ν)) (x : κ) : List (κ × ν) := l.filter fun p => !decide (x = p.1)
theorem mget_nil (x : κ) : mget ([] : List (κ × ν)) x = none := rfl
theorem mget_cons (p : κ × ν) (l : List (κ × ν)) (x : κ) : mget (p :: l) x = if x = p.1 then some p.2 else mget l x := by
 unfold mget
 by_cases h : x = p.1 <;> simp [h]
theorem mget_append (l l' : List (κ × ν)) (x : κ) : mget (l ++ l') x = (mget l x).or (mget l' x) := by
 induction l with
 | nil => simp [mget_nil]
 | cons p l ih => rw [List.cons_append, mget_cons, mget_cons, ih]; by_cases h : x = p.1 <;> simp [h]
theorem mget_none {l : List (κ × ν)} {x : κ} : mget l x = none ↔ l.any (fun p => decide (x = p.1)) = false := by
 induction l with
 | nil => simp [mget_nil]
 | cons p l ih => rw [mget_cons]; by_cases h : x = p.1 <;> simp [h, ih]
theorem mget_mset (l : List (κ × ν)) (x y : κ) (v : ν) : mget (mset l x v) y = if y = x then some v else mget l y := by
 unfold mset
 split
 ·
  rename_i h
  induction l with
  | nil => simp at h
  | cons p l ih =>
   rw [List.map_cons, mget_cons, mget_cons]
   by_cases hp : x = p.1
   ·
    subst hp
    by_cases hy : y = p.1
    ·
     simp [hy]
    ·
     simp only [if_true, hy, if_false]
     by_cases h2 : l.any (fun q => decide (p.1 = q.1)) = true
     ·
      rw [ih h2]; simp [hy]
     ·
      have : l.map (fun q => if p.1 = q.1 then (q.1, v) else q) = l := by
       refine (List.map_congr_left (g := id) fun q hq => ?_).trans (List.map_id _)
       have : ¬ p.1 = q.1 := fun e => h2 (List.any_eq_true.2 ⟨q, hq, by simp [e]⟩)
       simp [this]
      rw [this]
   ·
    simp only [hp, if_false]
    have h2 : l.any (fun q => decide (x = q.1)) = true := by simpa [hp] using h
    rw [ih h2]
    by_cases hy : y = p.1
    ·
     have : y ≠ x := fun e => hp (e ▸ hy)
     simp [hy, Ne.symm hp]
    ·
     simp [hy]
 ·
  rename_i h
  rw [mget_append, mget_cons, mget_nil]
  by_cases hy : y = x
  ·
   subst hy
   have : mget l y = none := mget_none.2 (Bool.eq_false_iff.2 h)
   simp [this]
  ·
   simp [hy]
theorem mget_mdel (l : List (κ × ν)) (x y : κ) : mget (mdel l x) y = if y = x then none else mget l y := by
 unfold mdel
 induction l with
 | nil => simp [mget_nil]
 | cons p l ih =>
  rw [List.filter_cons]
  by_cases hp : x = p.1
  ·
   subst hp
   simp only [decide_true, Bool.not_true, Bool.false_eq_true, if_false]
   rw [ih, mget_cons]
   by_cases hy : y = p.1 <;> simp [hy]
  ·
   simp only [hp, decide_false, Bool.not_false, if_true]
   rw [mget_cons, mget_cons, ih]
   by_cases hy : y = p.1
   ·
    have : y ≠ x := fun e => hp (e ▸ hy)
    simp [hy, Ne.symm hp]
   ·
    simp [hy]
theorem mset_keys (l : List (κ × ν)) (x : κ) (v : ν) : (mset l x v).map (·.1) = if l.any (fun p => decide (x = p.1)) then l.map (·.1) else l.map (·.1) ++ [x] := by
 unfold mset
 split
 ·
  rw [List.map_map]
  refine List.map_congr_left fun p _ => ?_
  simp only [Function.comp]
  split <;> rfl
 ·
  simp
theorem mset_nodup {l : List (κ × ν)} (h : (l.map (·.1)).Nodup) (x : κ) (v : ν) : ((mset l x v).map (·.1)).Nodup := by
 rw [mset_keys]
 split
 ·
  exact h
 ·
  rename_i hn
  rw [List.nodup_append]
  refine ⟨h, by simp, fun a ha b hb e => ?_⟩
  simp at hb
  subst hb e
  obtain ⟨p, hp, hp1⟩ := List.mem_map.1 ha
  exact hn (List.any_eq_true.2 ⟨p, hp, by simp [hp1]⟩)
theorem mdel_nodup {l : List (κ × ν)} (h : (l.map (·.1)).Nodup) (x : κ) : ((mdel l x).map (·.1)).Nodup := by
 unfold mdel
 exact h.sublist ((List.filter_sublist).map _)
theorem Sat.mp_own {A w b Γ} {l : List (κ × ν)} (s : Sat A w (Sp.mp enc venc b l :: Γ)) : ∃ es clock, w.heap[b]? = some (.map es clock) ∧ es.toList.map (fun e => (e.key, e.val)) = l.map (fun p => (enc p.1, venc p.2)) ∧ (l.map (·.1)).Nodup ∧
  (es.toList.map (·.born)).Nodup ∧ (∀ e ∈ es.toList, e.born < clock) ∧ Sat A w (Sp.own b (.map es clock) :: Γ) := by
 obtain ⟨a, h, f, h1, h2, ok, l1, l2, ⟨es, clock, e0, e1, e2, e3, e4⟩, t⟩ := s
 exact ⟨es, clock, f b _ (l1 b _ e0), e1, e2, e3, e4, a, h, f, h1, h2, ok, l1, l2, e0, t⟩
theorem Sat.mp_of {A w b Γ} {l : List (κ × ν)} {es : Array MapEntry} {clock : Nat} (s : Sat A w (Sp.own b (.map es clock) :: Γ)) (e1 : es.toList.map (fun e => (e.key, e.val)) = l.map (fun p => (enc p.1, venc p.2))) (e2 : (l.map (·.1)).Nodup)
  (e3 : (es.toList.map (·.born)).Nodup) (e4 : ∀ e ∈ es.toList, e.born < clock) : Sat A w (Sp.mp enc venc b l :: Γ) := by
 obtain ⟨a, h, f, h1, h2, ok, l1, l2, e0, t⟩ := s
 exact ⟨a, h, f, h1, h2, ok, l1, l2, ⟨es, clock, e0, e1, e2, e3, e4⟩, t⟩
theorem keys_of {κ' ν' : Type} {enc' : κ' → Value} {venc' : ν' → Value} {es : List MapEntry} {l : List (κ' × ν')} (e : es.map (fun e => (e.key, e.val)) = l.map (fun p => (enc' p.1, venc' p.2))) : es.map (·.key) = (l.map (·.1)).map enc' := by
 have := congrArg (List.map Prod.fst) e
 simpa [List.map_map, Function.comp_def] using this
theorem findIdx_mget {es : List MapEntry} {l : List (κ × ν)} (e : es.map (fun e => (e.key, e.val)) = l.map (fun p => (enc p.1, venc p.2))) (x : κ) :
  (((l.map (·.1)).findIdx? fun y => decide (x = y)).bind fun i => (es[i]?).map fun e => (i, e.val)) = ((l.map (·.1)).findIdx? fun y => decide (x = y)).bind fun i => (l[i]?).map fun p => (i, venc p.2) := by
 cases hh : (l.map (·.1)).findIdx? fun y => decide (x = y) with
 | none => rfl
 | some i =>
  simp only [Option.bind_some]
  have := congrArg (fun l => l[i]?) e
  simp only [List.getElem?_map] at this
  cases e1 : es[i]? with
  | none => cases e2 : l[i]? with
   | none => rfl
   | some p => simp [e1, e2] at this
  | some en => cases e2 : l[i]? with
   | none => simp [e1, e2] at this
   | some p => simp [e1, e2] at this ⊢; exact this.2
theorem findIdx_keys (l : List (κ × ν)) (x : κ) : (((l.map (·.1)).findIdx? fun y => decide (x = y)).bind fun i => (l[i]?).map (·.2)) = mget l x := by
 induction l with
 | nil => rfl
 | cons p l ih =>
  rw [mget_cons, List.map_cons, List.findIdx?_cons]
  by_cases h : x = p.1
  ·
   simp [h]
  ·
   simp only [h, decide_false, Bool.false_eq_true, if_false, ← ih]
   cases List.findIdx? (fun y => decide (x = y)) (l.map (·.1)) <;> simp
variable {N : Nat} {E : Env} {Γ Γ' : List SProp} {dst : Option Tmp} {ty : TypeId} {pos : String} {after : Array Edge} {guard : Option (Nat × Bool)}
theorem Reads.lookup {t k e x ix b z} {l : List (κ × ν)} {q : κ} (K : KL P k enc) (hu : P.underlying t = some (.map k e)) (hz : ∀ w, (zeroValue e).run P w = .ok z w) (hx : ev E x = some (.map (some b))) (hi : ev E ix = some (enc q)) (p : Pick (mp enc venc b l) Γ Γ') :
  Reads P N E Γ ⟨dst, .lookup t x ix false, ty, pos, after, guard⟩ (((mget l q).map venc).getD z) := fun A w a hf hs => by
 obtain ⟨es, clock, hh, e1, e2, e3, e4, _⟩ := (hs.map fun _ => p.sat).mp_own
 have hfnd := K.find q es.toList (l.map (·.1)) (keys_of e1) w
 rw [findIdx_mget e1] at hfnd
 have hg : (getObj b).run P w = .ok (.map es clock) w := by simp [getObj, Sem.run, hh]
 have h2 := findIdx_keys l q
 simp only [execOp, hf.eval hx, hf.eval hi, Instr.lookup, Sem.run_bind, underlying, run_program, Result.andThen_ok, hu, Sem.run_pure, hg, K.check, hfnd]
 cases hj : (l.map (·.1)).findIdx? fun y => decide (q = y) with
 | none => simp [hj] at h2 ⊢; rw [hz]; simp [← h2]
 | some i =>
  simp only [hj, Option.bind_some] at h2 ⊢
  cases hp : l[i]? with
  | none =>
   have hlt := (List.findIdx?_eq_some_iff_findIdx_eq.1 hj).1
   have : l.length ≤ i := List.getElem?_eq_none_iff.1 hp
   simp at hlt; omega
  | some pr => simp [hp] at h2 ⊢; simp [← h2]
theorem Reads.lookupOk {t k e x ix b z} {l : List (κ × ν)} {q : κ} (K : KL P k enc) (hu : P.underlying t = some (.map k e)) (hz : ∀ w, (zeroValue e).run P w = .ok z w) (hx : ev E x = some (.map (some b))) (hi : ev E ix = some (enc q)) (p : Pick (mp enc venc b l) Γ Γ') :
  Reads P N E Γ ⟨dst, .lookup t x ix true, ty, pos, after, guard⟩ (.tuple #[((mget l q).map venc).getD z, .bool (mget l q).isSome]) := fun A w a hf hs => by
 obtain ⟨es, clock, hh, e1, e2, e3, e4, _⟩ := (hs.map fun _ => p.sat).mp_own
 have hfnd := K.find q es.toList (l.map (·.1)) (keys_of e1) w
 rw [findIdx_mget e1] at hfnd
 have hg : (getObj b).run P w = .ok (.map es clock) w := by simp [getObj, Sem.run, hh]
 have h2 := findIdx_keys l q
 simp only [execOp, hf.eval hx, hf.eval hi, Instr.lookup, Sem.run_bind, underlying, run_program, Result.andThen_ok, hu, Sem.run_pure, hg, K.check, hfnd]
 cases hj : (l.map (·.1)).findIdx? fun y => decide (q = y) with
 | none => simp [hj] at h2 ⊢; rw [hz]; simp [← h2]
 | some i =>
  simp only [hj, Option.bind_some] at h2 ⊢
  cases hp : l[i]? with
  | none =>
   have hlt := (List.findIdx?_eq_some_iff_findIdx_eq.1 hj).1
   have : l.length ≤ i := List.getElem?_eq_none_iff.1 hp
   simp at hlt; omega
  | some pr => simp [hp] at h2 ⊢; simp [← h2]
theorem Sat.setObj {A w b o o' Γ} (s : Sat A w (Sp.own b o :: Γ)) (ho : ∀ c e f, o ≠ Obj.cells c e f) : (Go.setObj b o').run P w = .ok () { w with heap := w.heap.setIfInBounds b o' } ∧ Sat A { w with heap := w.heap.setIfInBounds b o' } (Sp.own b o' :: Γ) := by
 have hh := s.own
 have hlt : b < w.heap.size := (Array.getElem?_eq_some_iff.1 hh).1
 refine ⟨?_, s.update ?_ ?_ rfl⟩
 ·
  cases o <;> first | exact absurd rfl (ho _ _ _) | simp [Go.setObj, Sem.run, hh]
 ·
  show (w.heap.setIfInBounds b o')[b]? = _
  simp [hlt]
 ·
  intro c hc
  show (w.heap.setIfInBounds b o')[c]? = _
  rw [Array.getElem?_setIfInBounds_ne (Ne.symm hc)]
theorem mset_found {l : List (κ × ν)} {q : κ} {v : ν} {i : Nat} (hn : (l.map (·.1)).Nodup) (h : ((l.map (·.1)).findIdx? fun y => decide (q = y)) = some i) : i < l.length ∧ (l[i]?).map (·.1) = some q ∧ mset l q v = l.set i (q, v) := by
 obtain ⟨hlt, h2⟩ := List.findIdx?_eq_some_iff_findIdx_eq.1 h
 have hlt' : i < l.length := by simpa using hlt
 obtain ⟨hq, _⟩ := (List.findIdx?_eq_some_iff_getElem.1 h).2
 simp at hq
 refine ⟨hlt', by simp [hlt', hq], ?_⟩
 unfold mset
 rw [if_pos (List.any_eq_true.2 ⟨l[i], List.getElem_mem hlt', by simp [hq]⟩)]
 apply List.ext_getElem?
 intro j
 rw [List.getElem?_map, List.getElem?_set]
 by_cases hj : i = j
 ·
  subst hj; simp [hlt', hq]
 ·
  simp only [hj, if_false]
  by_cases hjl : j < l.length
  ·
   have hne : q ≠ l[j].1 := by
    intro e
    have := List.pairwise_iff_getElem.1 hn
    rcases Nat.lt_or_ge i j with hij | hij
    ·
     exact this i j (by simpa using hlt') (by simpa using hjl) hij (by simp [← hq, e])
    ·
     exact this j i (by simpa using hjl) (by simpa using hlt') (by omega) (by simp [← hq, e])
   simp [hjl, hne]
  ·
   simp [hjl]
theorem mset_new {l : List (κ × ν)} {q : κ} {v : ν} (h : ((l.map (·.1)).findIdx? fun y => decide (q = y)) = none) : mset l q v = l ++ [(q, v)] := by
 unfold mset
 rw [if_neg]
 intro h1
 obtain ⟨p, hp, hq⟩ := List.any_eq_true.1 h1
 have := List.findIdx?_eq_none_iff.1 h p.1 (List.mem_map_of_mem hp)
 simp at this hq
 exact this hq
theorem Eff.mapUpdate {t k e x ix y b} {l : List (κ × ν)} {q : κ} {u : ν} (K : KL P k enc) (hu : P.underlying t = some (.map k e)) (hx : ev E x = some (.map (some b))) (hi : ev E ix = some (enc q)) (hy : ev E y = some (venc u)) (p : Pick (mp enc venc b l) Γ Γ') :
  Eff P N E Γ ⟨dst, .mapUpdate t x ix y, ty, pos, after, guard⟩ fun _ Γ'' => Γ'' = mp enc venc b (mset l q u) :: Γ' := by
 intro A F w a nx Z hf hsat hn
 obtain ⟨es, clock, hh, e1, e2, e3, e4, hs⟩ := (hsat.map fun _ => (p.app F).sat).mp_own
 have hfnd := K.find q es.toList (l.map (·.1)) (keys_of e1) w
 have hg : (getObj b).run P w = .ok (.map es clock) w := by simp [getObj, Sem.run, hh]
 have hlen : es.toList.length = l.length := by simpa using congrArg List.length e1
 unfold Oper.wp
 cases hj : (l.map (·.1)).findIdx? fun y => decide (q = y) with
 | none =>
  obtain ⟨r1, s1⟩ := Sat.setObj (P := P) (o' := .map (es.push { key := enc q, val := venc u, born := clock }) (clock + 1)) hs (by simp)
  simp only [hj, Option.bind_none] at hfnd
  simp [execOp, hf.eval hx, hf.eval hi, hf.eval hy, Instr.mapUpdate, underlying, hu, hg, K.check, hfnd, r1, Oper.upon]
  refine hn _ _ _ rfl (Sat.mp_of s1 ?_ (mset_nodup e2 _ _) ?_ ?_)
  ·
   rw [mset_new hj]; simp [e1]
  ·
   simp only [Array.toList_push, List.map_append, List.map_cons, List.map_nil]
   rw [List.nodup_append]
   refine ⟨e3, by simp, fun x hx y hy e => ?_⟩
   simp at hy; subst hy e
   obtain ⟨en, hen, he⟩ := List.mem_map.1 hx
   have := e4 en hen
   omega
  ·
   intro en hen
   simp at hen
   rcases hen with hen | rfl
   ·
    have := e4 en (by simpa using hen); omega
   ·
    simp
 | some i =>
  obtain ⟨hlt, hq, hset⟩ := mset_found (v := u) e2 hj
  have hi' : i < es.toList.length := by omega
  have hkey : (es[i]?).map (·.key) = some (enc q) := by
   have h0 : es.toList[i]? = es[i]? := Array.getElem?_toList
   have := congrArg (fun l => (l[i]?).map Prod.fst) e1
   simp only [List.getElem?_map, Option.map_map] at this
   rw [← h0]
   cases hl : l[i]? with
   | none => simp [hl] at hq
   | some pr => simp [hl] at hq this; rw [hq] at this; simpa [Function.comp_def] using this
  have hval : ∃ en, es[i]? = some en := by
   cases h : es[i]? with
   | none => simp [h] at hkey
   | some en => exact ⟨en, rfl⟩
  obtain ⟨en, hen⟩ := hval
  simp only [hj, Option.bind_some, Array.getElem?_toList, hen, Option.map_some] at hfnd
  have hkeq : en.key = enc q := by simpa [hen] using hkey
  obtain ⟨r1, s1⟩ := Sat.setObj (P := P) (o' := .map (es.modify i fun e => { e with key := enc q, val := venc u }) clock) hs (by simp)
  simp [execOp, hf.eval hx, hf.eval hi, hf.eval hy, Instr.mapUpdate, underlying, hu, hg, K.check, hfnd, hen, hkeq, K.stays, r1, Oper.upon]
  have hmod : (es.modify i fun e => { e with key := enc q, val := venc u }).toList = es.toList.set i { en with key := enc q, val := venc u } := by
   apply List.ext_getElem?
   intro j
   rw [Array.getElem?_toList, Array.getElem?_modify, List.getElem?_set]
   by_cases hji : i = j
   ·
    subst hji; simp [hen]; simpa using hi'
   ·
    simp [hji]
  refine hn _ _ _ rfl (Sat.mp_of s1 ?_ (mset_nodup e2 _ _) ?_ ?_)
  ·
   rw [hset, hmod, List.map_set, List.map_set, e1]
  ·
   rw [hmod, List.map_set]
   have : (es.toList.map (·.born)).set i en.born = es.toList.map (·.born) := by
    apply List.ext_getElem?
    intro j
    rw [List.getElem?_set]
    by_cases hji : i = j
    ·
     subst hji
     have h0 : es.toList[i]? = some en := by rw [Array.getElem?_toList]; exact hen
     simp [h0]
     simpa using hi'
    ·
     simp [hji]
   simp only [this]; exact e3
  ·
   intro x hx
   rw [hmod] at hx
   rcases List.mem_or_eq_of_mem_set hx with hx | rfl
   ·
    exact e4 x hx
   ·
    exact e4 en (by rw [Array.mem_toList_iff]; exact Array.mem_of_getElem? hen)
theorem map_eraseIdx' {α β : Type} (f : α → β) : ∀ (l : List α) (j : Nat), (l.eraseIdx j).map f = (l.map f).eraseIdx j
 | [], _ => by simp
 | _ :: _, 0 => by simp
 | x :: l, j + 1 => by simp [map_eraseIdx' f l j]
theorem Eff.mapDelete {args : Array Operand} {ts : Array TypeId} {t tk k e x ix b} {l : List (κ × ν)} {q : κ} (K : KL P k enc) (ha : args = #[x, ix]) (hts : ts = #[t, tk]) (hu : P.underlying t = some (.map k e)) (hx : ev E x = some (.map (some b))) (hi : ev E ix = some (enc q)) (p : Pick (mp enc venc b l) Γ Γ') :
  Eff P N E Γ ⟨dst, .call ⟨.builtin .delete, args, ts⟩, ty, pos, after, guard⟩ fun _ Γ'' => Γ'' = mp enc venc b (mdel l q) :: Γ' := by
 subst ha hts
 intro A F w a nx Z hf hsat hn
 obtain ⟨es, clock, hh, e1, e2, e3, e4, hs⟩ := (hsat.map fun _ => (p.app F).sat).mp_own
 have hfnd := K.find q es.toList (l.map (·.1)) (keys_of e1) w
 have hg : (getObj b).run P w = .ok (.map es clock) w := by simp [getObj, Sem.run, hh]
 have hlen : es.toList.length = l.length := by simpa using congrArg List.length e1
 unfold Oper.wp
 cases hj : (l.map (·.1)).findIdx? fun y => decide (q = y) with
 | none =>
  obtain ⟨r1, s1⟩ := Sat.setObj (P := P) (o' := .map es clock) hs (by simp)
  simp only [hj, Option.bind_none] at hfnd
  simp [execOp, resolve, invoke, builtin, hf.eval hx, hf.eval hi, Builtin.delete_, underlying, hu, hg, K.check, hfnd, r1, Oper.upon]
  refine hn _ _ _ rfl (Sat.mp_of s1 ?_ (mdel_nodup e2 _) e3 e4)
  have : mdel l q = l := by
   unfold mdel
   rw [List.filter_eq_self]
   intro pr hpr
   have := List.findIdx?_eq_none_iff.1 hj pr.1 (List.mem_map_of_mem hpr)
   simpa using this
  rw [this]; exact e1
 | some i =>
  obtain ⟨hlt, hq, _⟩ := mset_found (v := (l[i]'(by simpa using (List.findIdx?_eq_some_iff_findIdx_eq.1 hj).1)).2) e2 hj
  have hi' : i < es.toList.length := by omega
  have hval : ∃ en, es[i]? = some en := ⟨es.toList[i], by rw [← Array.getElem?_toList]; simp⟩
  obtain ⟨en, hen⟩ := hval
  simp only [hj, Option.bind_some, Array.getElem?_toList, hen, Option.map_some] at hfnd
  obtain ⟨r1, s1⟩ := Sat.setObj (P := P) (o' := .map (es.eraseIdxIfInBounds i) clock) hs (by simp)
  simp [execOp, resolve, invoke, builtin, hf.eval hx, hf.eval hi, Builtin.delete_, underlying, hu, hg, K.check, hfnd, r1, Oper.upon]
  have her : (es.eraseIdxIfInBounds i).toList = es.toList.eraseIdx i := by
   have hi2 : i < es.size := by simpa using hi'
   simp [Array.eraseIdxIfInBounds, hi2]
  have hdel : mdel l q = l.eraseIdx i := by
   unfold mdel
   have hq' : l[i].1 = q := by simpa [hlt] using hq
   obtain ⟨A', x, B', rfl, hA⟩ : ∃ A' x B', l = A' ++ x :: B' ∧ A'.length = i := ⟨l.take i, l[i], l.drop (i + 1), by simp, by simp; omega⟩
   subst hA
   have hx1 : x.1 = q := by simpa using hq'
   simp only [List.map_append, List.map_cons, List.nodup_append, List.nodup_cons] at e2
   obtain ⟨_, ⟨n2, _⟩, n3⟩ := e2
   rw [List.eraseIdx_append_of_length_le (Nat.le_refl _)]
   simp only [Nat.sub_self, List.eraseIdx_cons_zero, List.filter_append, List.filter_cons]
   have f1 : A'.filter (fun p => !decide (q = p.1)) = A' := List.filter_eq_self.2 fun p hp => by
    have := n3 p.1 (List.mem_map_of_mem hp) x.1 (by simp)
    simp; intro e; exact this (by rw [hx1]; exact e.symm)
   have f2 : B'.filter (fun p => !decide (q = p.1)) = B' := List.filter_eq_self.2 fun p hp => by
    simp; intro e; apply n2; rw [hx1, e]; exact List.mem_map_of_mem hp
   simp [f1, f2, hx1]
  refine hn _ _ _ rfl (Sat.mp_of s1 ?_ (mdel_nodup e2 _) ?_ ?_)
  ·
   rw [hdel, her, map_eraseIdx', map_eraseIdx', e1]
  ·
   rw [her, map_eraseIdx']; exact e3.sublist (List.eraseIdx_sublist _ _)
  ·
   intro x hx
   rw [her] at hx
   exact e4 x (List.mem_of_mem_eraseIdx hx)
theorem Eff.makeMap {t : TypeId} : Eff P N E Γ ⟨dst, .makeMap t none, ty, pos, after, guard⟩ fun v Γ'' => ∃ b, v = .map (some b) ∧ Γ'' = mp enc venc b [] :: Γ := by
 intro A F w a nx Z hf hsat hn
 unfold Oper.wp
 simp [execOp, Instr.makeMap, Oper.upon]
 refine hn _ _ _ ⟨w.heap.size, rfl, rfl⟩ ?_
 exact Sat.mp_of (hsat.alloc (.map #[] 0)) rfl (by simp) (by simp) (by simp)
theorem Reads.lenM {args : Array Operand} {ts : Array TypeId} {x t k e b} {l : List (κ × ν)} (ha : args = #[x]) (hts : ts = #[t]) (hu : P.underlying t = some (.map k e)) (hx : ev E x = some (.map (some b))) (p : Pick (mp enc venc b l) Γ Γ') :
  Reads P N E Γ ⟨dst, .call ⟨.builtin .len, args, ts⟩, ty, pos, after, guard⟩ (.int .i64 l.length) := fun A w a hf hs => by
 subst ha hts
 obtain ⟨es, clock, hh, e1, e2, e3, e4, _⟩ := (hs.map fun _ => p.sat).mp_own
 have hg : (getObj b).run P w = .ok (.map es clock) w := by simp [getObj, Sem.run, hh]
 have hlen : es.toList.length = l.length := by simpa using congrArg List.length e1
 simp [execOp, resolve, invoke, builtin, Builtin.len_, hf.eval hx, underlying, hu, hg, goInt]
 simp at hlen; omega
end
end
end Go.Sp
/- A separation logic over the given machine. Part 8: sources of append, appending where there is room, clear; lists of equally wide elements. -/
namespace Go.Sp
open Go
theorem flat_length {α : Type} {f : α → List Value} {w : Nat} (hw : ∀ x, (f x).length = w) (l : List α) : (l.flatMap f).length = l.length * w := by
 induction l with
 | nil => simp
 | cons x l ih => simp [List.flatMap_cons, hw, ih, Nat.succ_mul, Nat.add_comm]
theorem flat_at {α : Type} {f : α → List Value} {w : Nat} (hw : ∀ x, (f x).length = w) : ∀ (l : List α) (i : Nat) (x : α), l[i]? = some x → ∀ j v, (f x)[j]? = some v → (l.flatMap f)[i * w + j]? = some v
 | [], _, _, h => by simp at h
 | y :: l, 0, x, h => fun j v hv => by
  simp at h; subst h
  have : j < (f y).length := (List.getElem?_eq_some_iff.1 hv).1
  rw [List.flatMap_cons, Nat.zero_mul, Nat.zero_add, List.getElem?_append_left this]; exact hv
 | y :: l, i + 1, x, h => fun j v hv => by
  rw [List.flatMap_cons, List.getElem?_append_right (by rw [hw, Nat.succ_mul]; omega)]
  have := flat_at hw l i x (by simpa using h) j v hv
  rwa [hw, show (i + 1) * w + j - w = i * w + j from by rw [Nat.succ_mul]; omega]
theorem flat_take {α : Type} {f : α → List Value} {w : Nat} (hw : ∀ x, (f x).length = w) : ∀ (l : List α) (i : Nat), (l.flatMap f).take (i * w) = (l.take i).flatMap f
 | [], i => by simp
 | y :: l, 0 => by simp
 | y :: l, i + 1 => by
  rw [List.flatMap_cons, List.take_succ_cons, List.flatMap_cons, List.take_append, hw, ← flat_take hw l i, List.take_of_length_le (by rw [hw, Nat.succ_mul]; omega)]
  congr 2
  rw [Nat.succ_mul]; omega
theorem flat_drop {α : Type} {f : α → List Value} {w : Nat} (hw : ∀ x, (f x).length = w) : ∀ (l : List α) (i : Nat), (l.flatMap f).drop (i * w) = (l.drop i).flatMap f
 | [], i => by simp
 | y :: l, 0 => by simp
 | y :: l, i + 1 => by
  rw [List.flatMap_cons, List.drop_succ_cons, List.drop_append, hw, ← flat_drop hw l i, List.drop_eq_nil_of_le (by rw [hw, Nat.succ_mul]; omega), List.nil_append]
  congr 1
  rw [Nat.succ_mul]; omega
theorem flat_set {α : Type} {f : α → List Value} {w : Nat} (hw : ∀ x, (f x).length = w) : ∀ (l : List α) (i : Nat) (x x' : α), l[i]? = some x → ∀ j v, j < w → (f x).set j v = f x' → (l.flatMap f).set (i * w + j) v = (l.set i x').flatMap f
 | [], _, _, _, h => by simp at h
 | y :: l, 0, x, x', h => fun j v hj e => by
  simp at h; subst h
  rw [List.flatMap_cons, Nat.zero_mul, Nat.zero_add, List.set_append_left _ _ (by rw [hw]; exact hj), e]; rfl
 | y :: l, i + 1, x, x', h => fun j v hj e => by
  rw [List.flatMap_cons, List.set_append_right _ _ (by rw [hw, Nat.succ_mul]; omega), List.set_cons_succ, List.flatMap_cons]
  congr 1
  have := flat_set hw l i x x' (by simpa using h) j v hj e
  rw [← this, hw]; congr 1
  rw [Nat.succ_mul]; omega
theorem set_mid {pre cs post : List Value} {k : Nat} {v : Value} (hk : k < cs.length) : (pre ++ (cs ++ post)).set (pre.length + k) v = pre ++ (cs.set k v ++ post) := by
 rw [List.set_append_right _ _ (by omega), List.set_append_left _ _ (by omega)]; congr 3; omega
theorem at_mid {pre cs post : List Value} {k : Nat} {v : Value} (h : cs[k]? = some v) : (pre ++ (cs ++ post))[pre.length + k]? = some v := by
 have hk : k < cs.length := (List.getElem?_eq_some_iff.1 h).1
 rw [List.getElem?_append_right (by omega), List.getElem?_append_left (by omega)]; rw [← h]; congr 1; omega
theorem RowAt.elem {α : Type} {f : α → List Value} {wd : Nat} (hw : ∀ x, (f x).length = wd) (hp : 0 < wd) {l : List α} {b o : Nat} {w : World} (h : RowAt (some ⟨b, o, none⟩) (l.flatMap f) w) {i : Nat} {x : α} (hx : l[i]? = some x) : CellsAt b (o + i * wd) (f x) w := by
 have hi : i < l.length := (List.getElem?_eq_some_iff.1 hx).1
 rcases h with h | ⟨b', o', he, h⟩
 ·
  have := flat_length hw l
  rw [h] at this
  have : 0 < l.length * wd := Nat.mul_pos (by omega) hp
  simp at *; omega
 ·
  cases he
  refine ⟨fun j v hv => ?_, fun v hv => ?_⟩
  ·
   rw [Nat.add_assoc]; exact h.1 _ v (flat_at hw l i x hx j v hv)
  ·
   obtain ⟨j, hj, rfl⟩ := List.mem_iff_getElem.1 hv
   exact h.2 _ (List.mem_of_getElem? (flat_at hw l i x hx j _ (List.getElem?_eq_getElem hj)))
theorem RowAt.addr {a : Option Addr} {cs : List Value} {w : World} (h : RowAt a cs w) (hn : 0 < cs.length) : ∃ b o, a = some ⟨b, o, none⟩ := by
 rcases h with rfl | ⟨b, o, he, _⟩
 ·
  simp at hn
 ·
  exact ⟨b, o, he⟩
theorem Knows.elem {α : Type} {f : α → List Value} {wd : Nat} (hw : ∀ x, (f x).length = wd) (hp : 0 < wd) {Γ : List SProp} {l : List α} {b o : Nat} (k : Knows Γ (RowAt (some ⟨b, o, none⟩) (l.flatMap f))) {i : Nat} {x : α} (hx : l[i]? = some x) : Knows Γ (CellsAt b (o + i * wd) (f x)) :=
 k.mono fun _ h => h.elem hw hp hx
theorem Knows.one {Γ : List SProp} {b o : Nat} {cs : List Value} (k : Knows Γ (CellsAt b o cs)) {i : Nat} {v : Value} (h : cs[i]? = some v) : Knows Γ (CellsAt b (o + i) [v]) := k.mono fun _ x => x.one h
section
variable {P : Program} {N : Nat} {E : Env} {Γ Γ' : List SProp} {dst : Option Tmp} {ty : TypeId} {pos : String} {after : Array Edge} {guard : Option (Nat × Bool)}
theorem Knows.srcRow {s t e a m c ys} (k : Knows Γ (RowAt a ys)) (hu : P.underlying t = some (.slice e)) (hl : ys.length = m * s) (hs : 0 < s) : Knows Γ (SrcAt P s t (.slice a m c) m ys) := k.mono fun w h => .row hu hl h fun ha => by
 subst ha
 rcases h with rfl | ⟨_, _, he, _⟩
 ·
  rcases Nat.mul_eq_zero.1 (hl.symm.trans (by simp) : m * s = 0) with h | h <;> omega
 ·
  cases he
theorem Knows.srcBlk {s t e e' m c} {b : Nat} {ys : List Value} (p : Pick (Sp.blk b ys e') Γ Γ') (hu : P.underlying t = some (.slice e)) (hl : ys.length = m * s) (hs : 0 < s) : Knows Γ (SrcAt P s t (.slice (some ⟨b, 0, none⟩) m c) m ys) :=
 .srcRow ((Knows.blk p).mono fun _ h => .inr ⟨b, 0, rfl, h⟩) hu hl hs
theorem Knows.srcStr {t} {s : ByteArray} (hu : P.underlying t = some .string) : Knows Γ (SrcAt P 1 t (.string s) s.size (byteCells s)) := fun _ _ _ => .string hu
theorem Eff.clear {args : Array Operand} {ts : Array TypeId} {x t e s by_ z b o} {n cap : Nat} {l : List Value} (ha : args = #[x]) (hts : ts = #[t]) (hu : P.underlying t = some (.slice e)) (hi : TI P e s by_ z) (hz : z.cells.size = s) (hzo : ones z.cells.toList)
  (hx : ev E x = some (.slice (some ⟨b, o, none⟩) n cap)) (p : Pick (blk b l e) Γ Γ') (hfit : o + n * s ≤ l.length) :
  Eff P N E Γ ⟨dst, .call ⟨.builtin .clear, args, ts⟩, ty, pos, after, guard⟩ fun _ Γ'' => Γ'' = blk b (splice l o (Builtin.zeroCells z.cells n).toList) e :: Γ' := by
 subst ha hts
 intro A F w ac nx Z hf hsat hnext
 have hsat' : Sat A w (blk b l e :: (Γ' ++ F)) := hsat.map fun _ => (p.app F).sat
 have hlen : (Builtin.zeroCells z.cells n).toList.length = n * s := by simp [Builtin.zeroCells, hz]
 obtain ⟨w', hr, hs'⟩ := run_store_blk (P := P) (o := o) hsat' (vs := (Builtin.zeroCells z.cells n).toList) (by omega) (zeroCells_ones hzo n)
 unfold Oper.wp
 cases n with
 | zero =>
  have e0 : (Builtin.zeroCells z.cells 0).toList = [] := by simp [Builtin.zeroCells, Array.range_zero']
  simp [execOp, resolve, invoke, builtin, hf.eval hx, Builtin.clear_, underlying, hu, Oper.upon]
  refine hnext _ _ w rfl ?_
  rw [e0]
  simpa [splice] using hsat'
 | succ n =>
  simp [execOp, resolve, invoke, builtin, hf.eval hx, Builtin.clear_, underlying, hu, hi.zero, hr, Oper.upon]
  exact hnext _ _ w' rfl hs'
theorem Sat.nothing {A w} {Γ : List SProp} (h : Sat A w Γ) : Sat A w (Sp.sat [] :: Γ) := by
 obtain ⟨a, k, f, t⟩ := h
 exact ⟨a, k, f, fun _ => none, k, fun _ => .inl rfl, fun _ _ e => by simp at e, .refl _, trivial, t⟩
theorem Run.nothing {C : Cx} {k Q E} {Γ : List SProp} (n : Run C k E (sat [] :: Γ) Q) : Run C k E Γ Q := fun A F w a hf hs => n A F w a hf hs.nothing
theorem arr.blk_of {e s a cap cs h} (hne : 0 < cap) (H : arr e s a cap cs h) : ∃ x : Nat × List Value × List Value, (a = some ⟨x.1, x.2.1.length, none⟩ ∧ cs.length + x.2.2.length = cap * s) ∧ sat [blk x.1 (x.2.1 ++ (cs ++ x.2.2)) e] h := by
 rcases H with ⟨h1, h2⟩ | ⟨b, pre, post, h1, h2, h3⟩
 ·
  omega
 ·
  exact ⟨(b, pre, post), ⟨h1, h2⟩, h, fun _ => none, fun _ => .inr (.inl rfl), .refl _, fun _ _ e => by simp at e, h3, trivial⟩
end
end Go.Sp
/- A separation logic over the given machine. Part 9: closures; what is known for good; more on rows. -/
namespace Go.Sp
open Go
section
variable {P : Program} {N : Nat} {E : Env} {Γ Γ' : List SProp} {dst : Option Tmp} {ty : TypeId} {pos : String} {after : Array Edge} {guard : Option (Nat × Bool)}
variable {ops : Array Oper} {rest os : List Oper} {K : Env → List SProp → Prop}
theorem Eff.fnC {fo : Operand} {args : Array Operand} {ts : Array TypeId} {f : FuncId} {first cap : Array Value} {vs : List Value} {φ : World → Prop} {Γf : List SProp} {Q : Value → List SProp → Prop} (hfo : ev E fo = some (.func (.func f) first cap))
  (ha : evs E args.toList = some vs) (p : Picks Γf Γ Γ') (k : Knows Γ' φ) (h : Cn P f (first.toList ++ (vs ++ cap.toList)) φ Γf Q) :
  Eff P N E Γ ⟨dst, .call ⟨.value fo, args, ts⟩, ty, pos, after, guard⟩ fun v Γ'' => ∃ Γ1, Q v Γ1 ∧ Γ'' = Γ1 ++ Γ' := by
 refine (Eff.call hfo ha (Picks.self Γ) (h.ret p k)).mono ?_
 rintro v _ ⟨_, ⟨Γ1, hq, rfl⟩, rfl⟩
 exact ⟨Γ1, hq, by simp⟩
theorem RunO.fnC {d} {fo : Operand} {args : Array Operand} {ts : Array TypeId} {f : FuncId} {first cap : Array Value} {vs : List Value} {φ : World → Prop} {Γf : List SProp} {Q : Value → List SProp → Prop} (hfo : ev E fo = some (.func (.func f) first cap))
  (ha : evs E args.toList = some vs) (p : Picks Γf Γ Γ') (k : Knows Γ' φ) (h : Cn P f (first.toList ++ (vs ++ cap.toList)) φ Γf Q) (next : ∀ v Γ1, Q v Γ1 → RunO P N ops rest ((d, v) :: E) (Γ1 ++ Γ') K)
  (hd : Nat.blt d N = true := by rfl) : RunO P N ops (⟨some d, .call ⟨.value fo, args, ts⟩, ty, pos, after, none⟩ :: rest) E Γ K := by
 refine RunO.ef (Eff.fnC hfo ha p k h) ?_ hd
 rintro v _ ⟨Γ1, hq, rfl⟩
 exact next v Γ1 hq
theorem Run.cast {C : Cx} {k Q} {X X' : SProp} (h : X = X') (n : Run C k E (X' :: Γ) Q) : Run C k E (X :: Γ) Q := h ▸ n
theorem RunO.cast {X X' : SProp} (h : X = X') (n : RunO P N ops os E (X' :: Γ) K) : RunO P N ops os E (X :: Γ) K := h ▸ n
def know (φ : World → Prop) : SProp := fun h => ∃ k : Hp, Hp.le k h ∧ (∀ b x, k b = some x → x.1 = true) ∧ ∀ w : World, Hp.fits k w → φ w
theorem Knows.know {φ : World → Prop} (p : Pick (Sp.know φ) Γ Γ') : Knows Γ φ := fun A w s => by
 obtain ⟨_, h, f, h1, h2, _, l, _, ⟨k, kl, _, e⟩, _⟩ := (s.map fun _ => p.sat)
 exact e w fun b x hx => f b x (l b x (kl b x hx))
theorem sat.know_dup {φ Γ h} (s : sat (know φ :: Γ) h) : sat (know φ :: know φ :: Γ) h := by
 obtain ⟨h1, h2, ok, l1, l2, ⟨k, kl, kr, e⟩, t⟩ := s
 refine ⟨k, h, ?_, kl.trans l1, .refl _, ⟨k, .refl _, kr, e⟩, h1, h2, ok, l1, l2, ⟨k, kl, kr, e⟩, t⟩
 intro b
 cases hb : k b with
 | none => exact .inl rfl
 | some x =>
  have := kr b x hb
  exact .inr (.inr ⟨by rw [l1 b x (kl b x hb)], x.2, by rw [← this]⟩)
theorem sat.know_mono {φ ψ : World → Prop} (H : ∀ w, φ w → ψ w) {h} (s : sat [know φ] h) : know ψ h := by
 obtain ⟨h1, h2, ok, l1, l2, ⟨k, kl, kr, e⟩, t⟩ := s
 exact ⟨k, kl.trans l1, kr, fun w f => H w (e w f)⟩
theorem sat.know_and {φ ψ : World → Prop} {h} (s : sat [know φ, know ψ] h) : know (fun w => φ w ∧ ψ w) h := by
 obtain ⟨h1, h2, ok, l1, l2, ⟨k, kl, kr, e⟩, h3, h4, ok2, m1, m2, ⟨j, jl, jr, e2⟩, _⟩ := s
 have okk : Hp.ok k j := ok.mono kl (jl.trans m1)
 refine ⟨Hp.un k j, Hp.un_le (kl.trans l1) (jl.trans (m1.trans l2)), fun b x hb => ?_, fun w f => ⟨e w fun b x hx => f b x (Hp.le_un_left _ _ b x hx), e2 w fun b x hx => f b x (Hp.le_un_right okk b x hx)⟩⟩
 cases h5 : k b with
 | none => simp [Hp.un, h5] at hb; exact jr b x hb
 | some y => simp [Hp.un, h5] at hb; subst hb; exact kr b y h5
def Settles (X : SProp) (φ : World → Prop) : Prop := ∀ A w Γ, Sat A w (X :: Γ) → Sat A w (know φ :: Γ)
theorem sat.ro_know {b o φ h} (H : ∀ w : World, w.heap[b]? = some o → φ w) (s : ro b o h) : know φ h := by
 refine ⟨fun c => if c = b then some (true, o) else none, fun c x hx => ?_, fun c x hx => ?_, fun w f => H w (f b (true, o) (by simp))⟩
 ·
  by_cases hc : c = b
  ·
   subst hc; simp at hx; subst hx; exact s
  ·
   simp [hc] at hx
 ·
  by_cases hc : c = b
  ·
   subst hc; simp at hx; subst hx; rfl
  ·
   simp [hc] at hx
theorem Settles.blk {b l e} : Settles (Sp.blk b l e) (CellsAt b 0 l) := fun A w Γ h => by
 obtain ⟨ho, fz, hfz, hh, h2⟩ := h.blk
 have h3 := Sat.share h2
 have h4 : Sat A w ([ro b (.cells l.toArray e fz)] ++ Γ) := h3
 refine Sat.close (fun h s => ?_) h4
 obtain ⟨k1, _, _, l1, _, s1, _⟩ := s
 have := sat.ro_know (φ := CellsAt b 0 l) (fun w' hw => ⟨fun i v hi => by rw [cell_of hw]; simpa using hi, ho⟩) s1
 obtain ⟨k, kl, kr, e⟩ := this
 exact ⟨k, kl.trans l1, kr, e⟩
theorem Settles.arr {e s a cap cs} : Settles (Sp.arr e s a cap cs) (RowAt a cs) := fun A w Γ h => by
 by_cases hc : 0 < cap
 ·
  obtain ⟨x, ⟨hx1, hx2⟩, h1⟩ := Sat.open_ (X := Sp.arr e s a cap cs) (fun h s => arr.blk_of hc s) h
  have h2 := Settles.blk A w Γ (by simpa using h1)
  have h3 : Sat A w ([know (CellsAt x.1 0 (x.2.1 ++ (cs ++ x.2.2)))] ++ Γ) := h2
  refine Sat.close (fun h s => sat.know_mono (fun w' hw => ?_) s) h3
  refine .inr ⟨x.1, x.2.1.length, hx1, fun i v hi => ?_, hw.2.right.left⟩
  have := hw.1 (x.2.1.length + i) v (at_mid hi)
  simpa using this
 ·
  have h1 := h.arr_row
  have hcap : cap = 0 := by omega
  have hcs : cs = [] := by
   have := h.arr_len.1
   subst hcap
   simp at this; exact this
  subst hcs
  have h2 := h.drop.nothing
  have h3 : Sat A w ([sat []] ++ Γ) := h2
  exact Sat.close (fun h _ => ⟨fun _ => none, fun _ _ e => by simp at e, fun _ _ e => by simp at e, fun _ _ => .inl rfl⟩) h3
theorem Run.settle {C : Cx} {k Q} {X : SProp} {φ : World → Prop} (p : Pick X Γ Γ') (s : Settles X φ) (n : Run C k E (know φ :: Γ') Q) : Run C k E Γ Q := fun A F w a hf hs =>
 n A F w a hf (s A w _ (hs.map fun _ => (p.app F).sat))
theorem RunO.settle {X : SProp} {φ : World → Prop} (p : Pick X Γ Γ') (s : Settles X φ) (n : RunO P N ops os E (know φ :: Γ') K) : RunO P N ops os E Γ K := fun A F w a Z hf hs hz =>
 n A F w a Z hf (s A w _ (hs.map fun _ => (p.app F).sat)) hz
theorem Run.dup {C : Cx} {k Q} {φ : World → Prop} (p : Pick (know φ) Γ Γ') (n : Run C k E (know φ :: know φ :: Γ') Q) : Run C k E Γ Q := fun A F w a hf hs =>
 n A F w a hf ((hs.map fun _ => (p.app F).sat).map fun _ => sat.know_dup)
theorem sat.base_know {W : World} {φ : World → Prop} (H : ∀ w : World, (∀ (b : Nat) (o : Obj), W.heap[b]? = some o → w.heap[b]? = some o) → φ w) {h} (s : base W h) : know φ h := by
 refine ⟨fun c => (W.heap[c]?).map fun o => (true, o), fun c x hx => ?_, fun c x hx => ?_, fun w f => H w fun b o hb => f b (true, o) (by simp [hb])⟩
 ·
  cases hc : W.heap[c]? with
  | none => simp [hc] at hx
  | some o => simp [hc] at hx; subst hx; exact s c o hc
 ·
  cases hc : W.heap[c]? with
  | none => simp [hc] at hx
  | some o => simp [hc] at hx; subst hx; rfl
theorem splice_mid {pre cs post ys : List Value} {k : Nat} (hk : k + ys.length ≤ cs.length) : splice (pre ++ (cs ++ post)) (pre.length + k) ys = pre ++ (splice cs k ys ++ post) := by
 unfold splice
 rw [List.take_append, List.take_of_length_le (by omega), Nat.add_sub_cancel_left, List.take_append_of_le_length (by omega), List.drop_append, List.drop_eq_nil_of_le (by omega),
  show pre.length + k + ys.length - pre.length = k + ys.length by omega, List.drop_append_of_le_length (by omega)]
 simp [List.append_assoc]
theorem Knows.mid {α : Type} {f : α → List Value} {wd : Nat} (hw : ∀ x, (f x).length = wd) {b : Nat} {pre post : List Value} {l : List α} {e : TypeId} (p : Pick (Sp.blk b (pre ++ (l.flatMap f ++ post)) e) Γ Γ') {j : Nat} {x : α} (hx : l[j]? = some x) :
  Knows Γ (CellsAt b (pre.length + j * wd) (f x)) :=
 .blkAt p fun i v hv => by
  rw [Nat.add_assoc]
  exact at_mid (flat_at hw l j x hx i v hv)
end
end Go.Sp
/- A separation logic over the given machine. Part 11: stores into rows of one's own. -/
namespace Go.Sp
open Go
section
variable {P : Program} {N : Nat} {E : Env} {Γ Γ' : List SProp} {dst : Option Tmp} {ty : TypeId} {pos : String} {after : Array Edge} {guard : Option (Nat × Bool)}
theorem Eff.storeArr {t x y v} {b o k s cap : Nat} {cs : List Value} {e : TypeId} (hs : TS P t 1) (hx : ev E x = some (.pointer (some ⟨b, o + k, none⟩))) (hy : ev E y = some v) (p : Pick (arr e s (some ⟨b, o, none⟩) cap cs) Γ Γ')
  (hk : k < cs.length) (hv : v.oneCell' = true := by rfl) :
  Eff P N E Γ ⟨dst, .store t x y, ty, pos, after, guard⟩ fun _ Γ'' => Γ'' = arr e s (some ⟨b, o, none⟩) cap (cs.set k v) :: Γ' := by
 intro A F w a nx Z hf hsat hn
 have h1 : Sat A w (arr e s (some ⟨b, o, none⟩) cap cs :: (Γ' ++ F)) := hsat.map fun _ => (p.app F).sat
 obtain ⟨⟨pre, post⟩, ⟨rfl, h3⟩, h4⟩ := Sat.open_ (fun h => sat.arr_open (.inr (by omega))) h1
 dsimp only at h3
 have h5 : Sat A w ((blk b (pre ++ (cs ++ post)) e :: Γ') ++ F) := h4
 refine Eff.store hs hx hy .head hv (by simp; omega) A F w a nx Z hf h5 ?_
 rintro u _ w' rfl h6
 refine hn u _ w' rfl ?_
 rw [set_mid hk] at h6
 have h7 : Sat A w' ([blk b (pre ++ (cs.set k v ++ post)) e] ++ (Γ' ++ F)) := h6
 exact Sat.close (fun h s => sat.arr_close (by simpa using h3) s) h7
end
end Go.Sp
/- A separation logic over the given machine. Part 12: unsigned arithmetic by bit vectors; bytes. -/
namespace Go.Sp
open Go
def IsU (k : IntKind) : Prop := k.signed = false
theorem wrap_u {k : IntKind} (hk : k.signed = false) (v : BitVec k.bits) : k.wrap (v.toNat : Int) = v.toNat := by
 unfold IntKind.wrap
 have h : ((v.toNat : Int)) % (2 ^ k.bits : Int) = v.toNat := by
  rw [Int.emod_eq_of_lt (by omega)]
  have := v.isLt
  exact_mod_cast this
 simp [hk, h]
theorem wrap_un {k : IntKind} (hk : k.signed = false) (n : Int) : k.wrap n = ((BitVec.ofInt k.bits n).toNat : Int) := by
 unfold IntKind.wrap
 simp only [hk, Bool.false_and, Bool.false_eq_true, if_false]
 rw [BitVec.toNat_ofInt]
 have : 0 ≤ n % (2 ^ k.bits : Int) := Int.emod_nonneg _ (by have : (0 : Int) < 2 ^ k.bits := Int.pow_pos (by omega); omega)
 rw [Int.toNat_of_nonneg]
 ·
  norm_cast
 ·
  norm_cast
theorem ofInt_toNat {w : Nat} (v : BitVec w) : BitVec.ofInt w (v.toNat : Int) = v := by
 apply BitVec.eq_of_toNat_eq; simp
section
variable {P : Program} {N : Nat} {E : Env} {Γ Γ' : List SProp} {dst : Option Tmp} {ty : TypeId} {pos : String} {after : Array Edge} {guard : Option (Nat × Bool)}
theorem Reads.xorU {t x y t'} {k : IntKind} {a b : BitVec k.bits} (hk : k.signed = false) (hx : ev E x = some (.int k (a.toNat : Int))) (hy : ev E y = some (.int k (b.toNat : Int))) :
  Reads P N E Γ ⟨dst, .binOp .xor t x y t', ty, pos, after, guard⟩ (.int k ((a ^^^ b).toNat : Int)) := by
 have := Reads.xor (P := P) (N := N) (Γ := Γ) (dst := dst) (t := t) (t' := t') (ty := ty) (pos := pos) (after := after) (guard := guard) hx hy
 rwa [ofInt_toNat, ofInt_toNat, wrap_u hk] at this
theorem Reads.andU {t x y t'} {k : IntKind} {a b : BitVec k.bits} (hk : k.signed = false) (hx : ev E x = some (.int k (a.toNat : Int))) (hy : ev E y = some (.int k (b.toNat : Int))) :
  Reads P N E Γ ⟨dst, .binOp .and t x y t', ty, pos, after, guard⟩ (.int k ((a &&& b).toNat : Int)) := by
 have := Reads.and (P := P) (N := N) (Γ := Γ) (dst := dst) (t := t) (t' := t') (ty := ty) (pos := pos) (after := after) (guard := guard) hx hy
 rwa [ofInt_toNat, ofInt_toNat, wrap_u hk] at this
theorem Reads.negU {t x} {k : IntKind} {a : BitVec k.bits} (hk : k.signed = false) (hx : ev E x = some (.int k (a.toNat : Int))) :
  Reads P N E Γ ⟨dst, .unOp .neg t x, ty, pos, after, guard⟩ (.int k ((-a).toNat : Int)) := by
 have := Reads.negW (P := P) (N := N) (Γ := Γ) (dst := dst) (t := t) (ty := ty) (pos := pos) (after := after) (guard := guard) hx
 rwa [wrap_un hk, BitVec.ofInt_neg, ofInt_toNat] at this
theorem Reads.shrU {t x y t'} {k j : IntKind} {a : BitVec k.bits} {n : Nat} (hn : n ≤ k.bits) (hx : ev E x = some (.int k (a.toNat : Int))) (hy : ev E y = some (.int j (n : Int))) :
  Reads P N E Γ ⟨dst, .binOp .shr t x y t', ty, pos, after, guard⟩ (.int k ((a >>> n).toNat : Int)) := by
 have := Reads.shr (P := P) (N := N) (Γ := Γ) (dst := dst) (t := t) (t' := t') (ty := ty) (pos := pos) (after := after) (guard := guard) hx hy
 rw [Nat.min_eq_left hn] at this
 have e : (a.toNat : Int).fdiv (2 ^ n) = ((a >>> n).toNat : Int) := by
  rw [BitVec.toNat_ushiftRight, Nat.shiftRight_eq_div_pow, Int.fdiv_eq_ediv_of_nonneg _ (by have : (0 : Int) < 2 ^ n := Int.pow_pos (by omega); omega)]
  norm_cast
 rwa [e] at this
theorem Reads.comU {t x} {k : IntKind} {a : BitVec k.bits} (hk : k.signed = false) (hx : ev E x = some (.int k (a.toNat : Int))) :
  Reads P N E Γ ⟨dst, .unOp .xor t x, ty, pos, after, guard⟩ (.int k ((~~~ a).toNat : Int)) := fun _ w ac hf _ => by
 have hm : BitVec.ofInt k.bits k.max = BitVec.allOnes k.bits := by cases k <;> first | rfl | cases hk
 simp [execOp, hf.eval hx, Op.unary, hk, Op.intBits, -BitVec.toNat_xor, -BitVec.toNat_not, -BitVec.toNat_ofInt]
 rw [hm, BitVec.allOnes_xor]
 exact wrap_u hk _
end
end Go.Sp
/- A separation logic over the given machine. Part 13: texts and rows of bytes, as lists of bytes. -/
namespace Go.Sp
open Go
def str (l : List UInt8) : ByteArray := ⟨l.toArray⟩
def bcs (l : List UInt8) : List Value := l.map fun b => .int .u8 (b.toNat : Int)
theorem str_size (l : List UInt8) : (str l).size = l.length := by simp [str, ByteArray.size]
theorem str_inj {l m : List UInt8} : str l = str m ↔ l = m := by
 constructor
 ·
  intro h
  have := congrArg (fun s : ByteArray => s.data.toList) h
  simpa [str] using this
 ·
  rintro rfl; rfl
theorem str_append (l m : List UInt8) : str l ++ str m = str (l ++ m) := by
 apply ByteArray.ext
 simp [str, ByteArray.data_append]
theorem str_extract (l : List UInt8) (a b : Nat) : (str l).extract a b = str ((l.drop a).take (b - a)) := by
 apply ByteArray.ext
 simp [str, ByteArray.data_extract, List.extract_eq_take_drop]
theorem bcs_len (l : List UInt8) : (bcs l).length = l.length := by simp [bcs]
theorem bcs_ones (l : List UInt8) : ones (bcs l) := ones.map l fun _ => rfl
theorem bcs_append (l m : List UInt8) : bcs (l ++ m) = bcs l ++ bcs m := by simp [bcs]
theorem byteCells_str (l : List UInt8) : byteCells (str l) = bcs l := by simp [byteCells, str, bcs]
section
variable {P : Program} {N : Nat} {E : Env} {Γ Γ' : List SProp} {dst : Option Tmp} {ty : TypeId} {pos : String} {after : Array Edge} {guard : Option (Nat × Bool)}
theorem Reads.lenT {args : Array Operand} {x t ts} {l : List UInt8} (ha : args = #[x]) (hts : ts = #[t]) (hu : P.underlying t = some .string) (hx : ev E x = some (.string (str l))) :
  Reads P N E Γ ⟨dst, .call ⟨.builtin .len, args, ts⟩, ty, pos, after, guard⟩ (.int .i64 l.length) := by
 have := Reads.lenS (P := P) (N := N) (Γ := Γ) (dst := dst) (ty := ty) (pos := pos) (after := after) (guard := guard) ha hts hu hx
 rwa [str_size] at this
theorem Reads.indexT {t x i} {l : List UInt8} {k : IntKind} {n : Int} {b : UInt8} (hu : P.underlying t = some .string) (hx : ev E x = some (.string (str l))) (hi : ev E i = some (.int k n)) (h0 : 0 ≤ n)
  (hb : l[n.toNat]? = some b) : Reads P N E Γ ⟨dst, .index t x i, ty, pos, after, guard⟩ (.int .u8 b.toNat) := .indexS hu hx hi h0 (by simpa [str] using hb)
theorem Reads.sliceT {t x} {l : List UInt8} {lo hi : Option Operand} {a h : Nat} (hu : P.underlying t = some .string) (hx : ev E x = some (.string (str l)))
  (hlo : match lo with | none => a = 0 | some o => ∃ k, ev E o = some (.int k (a : Int))) (hhi : match hi with | none => h = l.length | some o => ∃ k, ev E o = some (.int k (h : Int)))
  (h1 : a ≤ h) (h2 : h ≤ l.length) : Reads P N E Γ ⟨dst, .slice t x lo hi none, ty, pos, after, guard⟩ (.string (str ((l.drop a).take (h - a)))) := by
 have := Reads.sliceS (P := P) (N := N) (Γ := Γ) (dst := dst) (ty := ty) (pos := pos) (after := after) (guard := guard) hu hx hlo (by rw [str_size]; exact hhi) h1 (by rw [str_size]; exact h2)
 rwa [str_extract] at this
theorem Reads.catT {t x y t'} {l m : List UInt8} (hx : ev E x = some (.string (str l))) (hy : ev E y = some (.string (str m))) (hl : l.length + m.length ≤ 9223372036854775807) :
  Reads P N E Γ ⟨dst, .binOp .add t x y t', ty, pos, after, guard⟩ (.string (str (l ++ m))) := by
 have := Reads.cat (P := P) (N := N) (Γ := Γ) (dst := dst) (t := t) (t' := t') (ty := ty) (pos := pos) (after := after) (guard := guard) hx hy (by rw [str_size, str_size]; exact hl)
 rwa [str_append] at this
theorem Reads.eqT {t x y t'} {l m : List UInt8} (hx : ev E x = some (.string (str l))) (hy : ev E y = some (.string (str m))) :
  Reads P N E Γ ⟨dst, .binOp .eql t x y t', ty, pos, after, guard⟩ (.bool (decide (l = m))) := by
 have := Reads.eqS (P := P) (N := N) (Γ := Γ) (dst := dst) (t := t) (t' := t') (ty := ty) (pos := pos) (after := after) (guard := guard) hx hy
 rwa [decide_eq_decide.2 str_inj] at this
theorem Reads.neT {t x y t'} {l m : List UInt8} (hx : ev E x = some (.string (str l))) (hy : ev E y = some (.string (str m))) :
  Reads P N E Γ ⟨dst, .binOp .neq t x y t', ty, pos, after, guard⟩ (.bool (!decide (l = m))) := by
 have := Reads.neS (P := P) (N := N) (Γ := Γ) (dst := dst) (t := t) (t' := t') (ty := ty) (pos := pos) (after := after) (guard := guard) hx hy
 rwa [decide_eq_decide.2 str_inj] at this
theorem Reads.bytesToStr {s d e x} {a : Option Addr} {n c : Nat} {l : List UInt8} (hs : P.underlying s = some (.slice e)) (he : P.underlying e = some (.int .u8)) (hd : P.underlying d = some .string)
  (hx : ev E x = some (.slice a n c)) (hn : n = l.length) (k : Knows Γ (RowAt a (bcs l))) : Reads P N E Γ ⟨dst, .convert s d x, ty, pos, after, guard⟩ (.string (str l)) := fun A w ac hf hsat => by
 subst hn
 have hr := k A w hsat
 have key : (convert s d (.slice a l.length c)).run P w = .ok (.string (str l)) w := by
  rcases hr with h | ⟨b, o, rfl, h⟩
  ·
   have : l = [] := by simpa [bcs] using h
   subst this
   cases a with
   | none => exact run_convert_bytes_nil w s e hs he _ _ d hd
   | some q => exact run_convert_bytes_back w s d e q c [] hs he hd (fun j hj => by cases hj)
  ·
   refine run_convert_bytes_back w s d e _ c l hs he hd fun j hj => ?_
   rw [Addr_add]
   exact h.1 j _ (by simp [bcs, List.getElem?_eq_getElem hj])
 simp [execOp, hf.eval hx, key]
theorem Knows.srcT {t} {l : List UInt8} (hu : P.underlying t = some .string) : Knows Γ (SrcAt P 1 t (.string (str l)) l.length (bcs l)) := by
 have := Knows.srcStr (P := P) (Γ := Γ) (s := str l) hu
 rwa [str_size, byteCells_str] at this
end
end Go.Sp
/- A separation logic over the given machine. Part 14: operations whose guard was itself not let. -/
namespace Go.Sp
open Go
theorem Le.skip {A B : Env} {d : Nat} {v : Value} (h : lk A d = none) (l : Le A B) : Le A ((d, v) :: B) := fun t u e => by
 have hd : t ≠ d := fun e' => by subst e'; rw [h] at e; cases e
 show (bif Nat.beq t d then some v else lk B t) = some u
 rw [Bool.eq_false_iff.2 fun h => hd (Nat.eq_of_beq_eq_true h)]; exact l t u e
section
variable {P : Program} {N : Nat} {ops : Array Oper} {rest : List Oper} {E : Env} {Γ : List SProp} {K : Env → List SProp → Prop} {ty : TypeId} {pos : String} {after : Array Edge}
theorem wpL_off {dst op} {g : Nat} {b : Bool} {Q : Exit → Act → World → Prop} {a : Act} {w : World} (hy : yielded ops a.tmps g ≠ some b) (h : wpL P ops Q rest (a.put dst undef) w) :
  wpL P ops Q (⟨dst, op, ty, pos, after, some (g, b)⟩ :: rest) a w := by
 have hw : Region.wanted ⟨dst, op, ty, pos, after, some (g, b)⟩ (yielded ops a.tmps) = false := by
  simp only [Region.wanted]
  exact beq_eq_false_iff_ne.2 hy
 simp only [wpL, hw, Bool.false_eq_true, if_false]
 exact h
theorem RunO.offU {d op} {g : Nat} {b c : Bool} {t : Nat} (hg : gslot ops g = some t) (he : lk E t = some (.bool c)) (hne : (c == b) = false) (hd : Nat.blt d N = true)
  (next : RunO P N ops rest ((d, undef) :: E) Γ K) : RunO P N ops (⟨some d, op, ty, pos, after, some (g, b)⟩ :: rest) E Γ K := by
 intro A F w a Z hf hs hz
 have hy := yielded_of hg hf he
 exact wpL_off (by rw [hy]; intro e; cases e; simp at hne) (next A F w _ Z (hf.put hd undef) hs hz)
theorem RunO.offX {d op} {g : Nat} {b : Bool} {t : Nat} (hg : gslot ops g = some t) (he : lk E t = some undef) (hd : Nat.blt d N = true)
  (next : RunO P N ops rest ((d, undef) :: E) Γ K) : RunO P N ops (⟨some d, op, ty, pos, after, some (g, b)⟩ :: rest) E Γ K := by
 intro A F w a Z hf hs hz
 have hy : yielded ops a.tmps g ≠ some b := by
  unfold gslot at hg
  simp [yielded, hg, hf.look t _ he, undef]
 exact wpL_off hy (next A F w _ Z (hf.put hd undef) hs hz)
end
end Go.Sp
/- A separation logic over the given machine. Part 15: a string's bytes as a row. -/
namespace Go.Sp
open Go
section
variable {P : Program} {N : Nat} {E : Env} {Γ Γ' : List SProp} {dst : Option Tmp} {ty : TypeId} {pos : String} {after : Array Edge} {guard : Option (Nat × Bool)}
theorem bytesRow_list (l : List UInt8) (c : Nat) : bytesRow (str l) c = (bcs l ++ List.replicate (c - l.length) (Value.int .u8 0)).toArray := by
 apply Array.ext'
 simp [bytesRow, str, bcs, ByteArray.size]
theorem Eff.strToBytes {s d e x} {l : List UInt8} (hs : P.underlying s = some .string) (hd : P.underlying d = some (.slice e)) (he : P.underlying e = some (.int .u8)) (hx : ev E x = some (.string (str l))) :
  Eff P N E Γ ⟨dst, .convert s d x, ty, pos, after, guard⟩ fun v Γ'' => ∃ b c, v = .slice (some ⟨b, 0, none⟩) l.length c ∧ Γ'' = arr e 1 (some ⟨b, 0, none⟩) c (bcs l) :: Γ := by
 intro A F w a nx Z hf hsat hn
 have hr := run_bytes_of_string (P := P) w s d e (str l) hs hd he
 unfold Oper.wp
 simp only [execOp, hf.eval hx, Sem.run_bind, hr, Result.andThen_ok, Sem.run_pure, Oper.upon]
 rw [str_size] at hr ⊢
 have hge := grownCap_ge w l.length 0 e
 rw [bytesRow_list]
 refine hn _ _ _ ⟨w.heap.size, _, rfl, rfl⟩ ?_
 have hl : (bcs l ++ List.replicate (grownCap w l.length 0 e - l.length) (Value.int .u8 0)).length = grownCap w l.length 0 e := by
  rw [List.length_append, bcs_len, List.length_replicate]; omega
 have ho : ones (bcs l ++ List.replicate (grownCap w l.length 0 e - l.length) (Value.int .u8 0)) := (bcs_ones l).append fun v hv => by
  rw [(List.mem_replicate.1 hv).2]; rfl
 have s4 := Sat.blk_of ((hsat.drew (w := w)).alloc (.cells (bcs l ++ List.replicate (grownCap w l.length 0 e - l.length) (Value.int .u8 0)).toArray e ((bcs l ++ List.replicate (grownCap w l.length 0 e - l.length) (Value.int .u8 0)).toArray.size, (bcs l ++ List.replicate (grownCap w l.length 0 e - l.length) (Value.int .u8 0)).toArray.size + 1))) ho (.inr (by simp))
 refine Sat.close (Γ := Γ ++ F) (B := [blk w.heap.size ([] ++ (bcs l ++ List.replicate (grownCap w l.length 0 e - l.length) (Value.int .u8 0))) e]) (fun h' H => ?_) (by rw [List.nil_append]; exact s4)
 exact sat.arr_close (pre := []) (by rw [← List.length_append, hl, Nat.mul_one]) H
end
end Go.Sp
/- A separation logic over the given machine. Part 16: entries of maps; guards of drawn regions that were themselves not let; bags. -/
namespace Go.Sp
open Go
section
variable {P : Program} {N : Nat} {ops : Array Oper} {E : Env} {Γ ΓS : List SProp} {K : Env → List SProp → Prop} {fuel : Nat} {listed : Array Bool} {L : List Nat}
end
def mpe {κ ν : Type} [DecidableEq κ] (enc : κ → Value) (venc : ν → Value) (b : Nat) (l : List (κ × ν)) (q : κ) (s : Nat) : SProp := fun h =>
 ∃ es clock, h b = some (false, .map es clock) ∧ es.toList.map (fun e => (e.key, e.val)) = l.map (fun p => (enc p.1, venc p.2)) ∧ (l.map (·.1)).Nodup ∧
  (es.toList.map (·.born)).Nodup ∧ (∀ e ∈ es.toList, e.born < clock) ∧ ∃ i : Nat, (es.toList.map (·.born))[i]? = some s ∧ (l.map (·.1))[i]? = some q
section
variable {κ ν : Type} [DecidableEq κ] {enc : κ → Value} {venc : ν → Value}
theorem modify_list {es : Array MapEntry} {i : Nat} {en : MapEntry} (f : MapEntry → MapEntry) (hen : es[i]? = some en) : (es.modify i f).toList = es.toList.set i (f en) := by
 have hi' : i < es.toList.length := by
  have := (Array.getElem?_eq_some_iff.1 hen).1
  simpa using this
 apply List.ext_getElem?
 intro j
 rw [Array.getElem?_toList, Array.getElem?_modify, List.getElem?_set]
 by_cases hji : i = j
 ·
  subst hji; simp [hen]; simpa using hi'
 ·
  simp [hji]
theorem set_same {α : Type} {l : List α} {i : Nat} {x : α} (h : l[i]? = some x) : l.set i x = l := by
 apply List.ext_getElem?
 intro j
 rw [List.getElem?_set]
 by_cases hji : i = j
 ·
  subst hji
  obtain ⟨hlt, h2⟩ := List.getElem?_eq_some_iff.1 h
  simp [hlt, h2]
 ·
  simp [hji]
theorem findIdx_nodup {q : κ} : ∀ {ks : List κ} {i : Nat}, ks.Nodup → ks[i]? = some q → (ks.findIdx? fun y => decide (q = y)) = some i
 | [], _, _, h => by simp at h
 | k :: ks, 0, _, h => by simp at h; subst h; simp [List.findIdx?_cons]
 | k :: ks, i + 1, hn, h => by
  simp only [List.nodup_cons] at hn
  simp only [List.getElem?_cons_succ] at h
  have hne : q ≠ k := fun e => hn.1 (e ▸ List.mem_of_getElem? h)
  rw [List.findIdx?_cons]
  simp [hne, findIdx_nodup hn.2 h]
variable {P : Program} {N : Nat} {E : Env} {Γ Γ' : List SProp} {dst : Option Tmp} {ty : TypeId} {pos : String} {after : Array Edge} {guard : Option (Nat × Bool)}
end
end Go.Sp
/- A separation logic over the given machine. Part 17: kinds of keys; bags. -/
namespace Go.Sp
open Go
section
variable {P : Program}
theorem KL.comap {k : TypeId} {κ κ' : Type} [DecidableEq κ] [DecidableEq κ'] {enc : κ → Value} (f : κ' → κ) (hf : ∀ x y, f x = f y → x = y) (K : KL P k enc) : KL P k (fun x => enc (f x)) where
 inj x y e := hf _ _ (K.inj _ _ e)
 check em x w := K.check em (f x) w
 find x es ks hk w := by
  have := K.find (f x) es (ks.map f) (by rw [hk, List.map_map]; rfl) w
  rw [this]
  congr 2
  rw [List.findIdx?_map]
  congr 1
  funext y
  exact decide_eq_decide.2 ⟨fun h => hf _ _ h, fun h => by rw [h]⟩
 stays x w := K.stays (f x) w
def encT (x : Int × Int × Int) : Array Value := #[.int .i64 x.1, .int .i64 x.2.1, .int .i64 x.2.2]
theorem encT_inj (x y : Int × Int × Int) (h : encT x = encT y) : x = y := by
 obtain ⟨a, b, c⟩ := x; obtain ⟨d, e, f⟩ := y
 simp [encT] at h ⊢
 exact h
theorem partT {e : TypeId} (hn : NotAgg P e) (x : Int × Int × Int) {i : Nat} {v : Value} (h : (encT x)[i]? = some v) (w : World) : (part e (encT x) i).run P w = .ok v w := part1 hn h w
theorem partsT {e : TypeId} (hn : NotAgg P e) (x : Int × Int × Int) (w : World) : (part e (encT x) (0 * 1)).run P w = .ok (.int .i64 x.1) w ∧ (part e (encT x) (1 * 1)).run P w = .ok (.int .i64 x.2.1) w ∧ (part e (encT x) (2 * 1)).run P w = .ok (.int .i64 x.2.2) w :=
 ⟨partT hn x rfl w, partT hn x rfl w, partT hn x rfl w⟩
end
def bag {α : Type} (f : α → SProp) (l : List α) : SProp := fun h => sat (l.map f) h
theorem sat.one {Γ : List SProp} {h : Hp} (s : sat Γ h) : sat [fun k => sat Γ k] h :=
 ⟨h, fun _ => none, fun _ => .inr (.inl rfl), .refl _, fun _ _ e => by simp at e, s, trivial⟩
theorem sat.perm {As Bs : List SProp} (p : As.Perm Bs) : ∀ {h}, sat As h → sat Bs h := by
 induction p with
 | nil => exact fun s => s
 | cons x _ ih => exact fun s => sat.cons (fun _ => ih) s
 | swap x y l => exact fun s => s.swap
 | trans _ _ i1 i2 => exact fun s => i2 (i1 s)
theorem bag.nil {α : Type} {f : α → SProp} {h : Hp} : bag f [] h := trivial
theorem bag.perm {α : Type} {f : α → SProp} {l m : List α} (p : l.Perm m) {h : Hp} (s : bag f l h) : bag f m h := sat.perm (p.map f) s
theorem bag.take {α : Type} {f : α → SProp} {l m : List α} {x : α} (p : l.Perm (x :: m)) {h : Hp} (s : bag f l h) : sat [f x, bag f m] h := by
 have := bag.perm p s
 exact sat.cons (fun _ s => sat.one s) this
theorem bag.put {α : Type} {f : α → SProp} {l m : List α} {x : α} (p : (x :: m).Perm l) {h : Hp} (s : sat [f x, bag f m] h) : bag f l h := by
 refine bag.perm p ?_
 obtain ⟨h1, h2, ok, l1, l2, hx, hb⟩ := s
 obtain ⟨k1, _, _, m1, _, hb', _⟩ := hb
 exact ⟨h1, h2, ok, l1, l2, hx, sat.mono m1 hb'⟩
section
variable {P : Program} {N : Nat} {ops : Array Oper} {os : List Oper} {E : Env} {Γ Γ' : List SProp} {K : Env → List SProp → Prop} {C : Cx} {k : List Item} {Q : Value → List SProp → Prop}
theorem Run.takeBag {α : Type} {f : α → SProp} {l m : List α} {x : α} (p : Pick (bag f l) Γ Γ') (hp : l.Perm (x :: m)) (next : Run C k E (f x :: bag f m :: Γ') Q) : Run C k E Γ Q :=
 Run.open_ (σ := Unit) (φ := fun _ => True) (B := fun _ => [f x, bag f m]) p (fun _ h => ⟨(), trivial, bag.take hp h⟩) fun _ _ => next
theorem Knows.bag {α : Type} {f : α → SProp} {l : List α} {x : α} (p : Pick (Sp.bag f l) Γ Γ') (hx : x ∈ l) {φ : World → Prop} (hk : Knows [f x] φ) : Knows Γ φ := fun A w s => by
 obtain ⟨m, hm⟩ : ∃ m, l.Perm (x :: m) := by
  obtain ⟨a, b, rfl⟩ := List.append_of_mem hx
  exact ⟨a ++ b, List.perm_middle⟩
 have h1 := s.map fun _ => p.sat
 have h2 := Sat.open_ (σ := Unit) (φ := fun _ => True) (B := fun _ => [f x, Sp.bag f m]) (fun _ h => ⟨(), trivial, bag.take hm h⟩) h1
 obtain ⟨_, _, h3⟩ := h2
 exact hk A w (Sat.left (Γ := [f x]) h3)
end
end Go.Sp
/- A separation logic over the given machine. Part 18: where ways come together again. -/
namespace Go.Sp
open Go
section
variable {P : Program} {N : Nat} {ops : Array Oper} {E : Env} {Γ ΓS : List SProp} {K : Env → List SProp → Prop} {fuel : Nat} {listed : Array Bool} {L : List Nat}
theorem RunD.mono {K1 : Env → List SProp → Prop} (h : RunD P N ops L ΓS fuel listed E Γ K1) (hk : ∀ E' Γ', K1 E' Γ' → K E' Γ') : RunD P N ops L ΓS fuel listed E Γ K :=
 fun A F w a Z hZ hf hs hz => h A F w a Z hZ hf hs fun E' Γ' w' a' k => hz E' Γ' w' a' (hk E' Γ' k)
theorem Run.joinAt {C : Cx} {k : List Item} {c : Code} {Q : Value → List SProp → Prop} {E' : Env} {Γ' : List SProp} (tail : Run C k E' Γ' Q)
  (next : (∀ {E1 : Env} {Γ1 Δ : List SProp}, Le E' E1 → Picks Γ' Γ1 Δ → Run C k E1 Γ1 Q) → Run C (.code c :: k) E Γ Q) : Run C (.code c :: k) E Γ Q :=
 next fun l p => tail.to l p
theorem Run.drawsJoin {C : Cx} {k id} {Q : Value → List SProp → Prop} (L : List Nat) (ΓS : List SProp) (t : Nat) (b : Bool) (hm : C.P.follows .mixedOrders = true)
  (h : RunD C.P C.fn.ntmps ops L ΓS ops.size (Array.replicate ops.size false) E Γ fun E' Γ' => Γ' = Γ ∧ lk E' t = some (.bool b) ∧ Le E E')
  (n : Run C k ((t, .bool b) :: E) Γ Q) : Run C (.code (.region id ops true) :: k) E Γ Q :=
 Run.draws L ΓS hm (h.mono fun E' Γ' ⟨e, hl, le⟩ => by subst e; exact n.weak (Le.cons hl le))
end
end Go.Sp
/- A separation logic over the given machine. Part 19: what strings.Builder does; arrays of pointers; slices of whole arrays. -/
namespace Go.Sp
open Go
section
variable {P : Program} {N : Nat} {E : Env} {Γ Γ' : List SProp} {dst : Option Tmp} {ty : TypeId} {pos : String} {after : Array Edge} {guard : Option (Nat × Bool)}
theorem shape_of {w : World} {b : Nat} {l : List Value} {e : TypeId} {fz : Nat × Nat} (h : w.heap[b]? = some (.cells l.toArray e fz)) : w.shape? b = some (e, l.length) := by
 simp [World.shape?, h]
theorem Reads.sliceData {args : Array Operand} {ts : Array TypeId} {x : Operand} {a : Option Addr} {n c : Nat} (ha : args = #[x]) (hx : ev E x = some (.slice a n c)) (h : a = none ∨ c ≠ 0) :
  Reads P N E Γ ⟨dst, .call ⟨.builtin .unsafeSliceData, args, ts⟩, ty, pos, after, guard⟩ (.pointer a) := fun A w ac hf _ => by
 subst ha
 have : (Builtin.unsafeSliceData_ ts ty #[.slice a n c]).run P w = .ok (.pointer a) w := by
  cases a with
  | none => exact Go.Lib.run_unsafeSliceData_nil w ts ty n c
  | some q => exact Go.Lib.run_unsafeSliceData_row w ts ty q n c (by rcases h with h | h; cases h; exact h)
 simp [execOp, resolve, invoke, builtin, hf.eval hx, this]
theorem liesAt_bytes_off {e : TypeId} (hc : P.cellsOf e = 1) (count off n : Nat) (hn : off + n ≤ count) : liesAt P P.depth e count off e n = true := by
 have hd : P.depth = (2 * (P.types.size + Made.depth) + 1) + 1 := rfl
 rw [hd]
 simp only [liesAt, Bool.or_eq_true]
 left
 rw [hd]
 simp [rowAt, hc, hn, sameLayout, Nat.mod_one]
theorem bcs_at {l : List UInt8} {j : Nat} {x : UInt8} (h : l[j]? = some x) : (bcs l)[j]? = some (.int .u8 x.toNat) := by
 unfold bcs; rw [List.getElem?_map, h]; rfl
end
end Go.Sp
/- A separation logic over the given machine. Part 20: ways that come together; what is known for good. -/
namespace Go.Sp
open Go
theorem Run.joinEx {C : Cx} {k : List Item} {c : Code} {Q : Value → List SProp → Prop} {E : Env} {Γ : List SProp} {σ : Type} {φ : σ → Prop} {E' : σ → Env} {Γ' : σ → List SProp} (tail : ∀ s, φ s → Run C k (E' s) (Γ' s) Q)
  (next : (∀ s, φ s → ∀ {E1 : Env} {Γ1 Δ : List SProp}, Le (E' s) E1 → Picks (Γ' s) Γ1 Δ → Run C k E1 Γ1 Q) → Run C (.code c :: k) E Γ Q) : Run C (.code c :: k) E Γ Q :=
 next fun s hs _ _ _ l p => (tail s hs).to l p
theorem Sat.knowT {A w Γ} {φ : World → Prop} (H : ∀ w, φ w) (s : Sat A w Γ) : Sat A w (know φ :: Γ) := by
 obtain ⟨a, h, f, t⟩ := s
 exact ⟨a, h, f, fun _ => none, h, fun _ => .inl rfl, fun _ _ e => by simp at e, .refl _, ⟨fun _ => none, .refl _, fun _ _ e => by simp at e, fun w _ => H w⟩, t⟩
section
variable {C : Cx} {k : List Item} {E : Env} {Γ Γ' : List SProp} {Q : Value → List SProp → Prop} {P : Program} {N : Nat} {ops : Array Oper} {os : List Oper} {K : Env → List SProp → Prop}
theorem Run.knowT (φ : World → Prop) (H : ∀ w, φ w) (n : Run C k E (know φ :: Γ) Q) : Run C k E Γ Q := fun A F w a hf hs => n A F w a hf (Sat.knowT H hs)
theorem RunO.knowT (φ : World → Prop) (H : ∀ w, φ w) (n : RunO P N ops os E (know φ :: Γ) K) : RunO P N ops os E Γ K := fun A F w a Z hf hs hz => n A F w a Z hf (Sat.knowT H hs) hz
theorem Run.knowAnd {φ ψ : World → Prop} (χ : World → Prop) (p : Picks [know φ, know ψ] Γ Γ') (H : ∀ w, φ w → ψ w → χ w) (n : Run C k E (know χ :: Γ') Q) : Run C k E Γ Q :=
 .close p (fun _ s => by
  obtain ⟨j, jl, jr, e⟩ := sat.know_and s
  exact ⟨j, jl, jr, fun w f => H w (e w f).1 (e w f).2⟩) n
theorem Run.knowMono {φ : World → Prop} (χ : World → Prop) (p : Pick (know φ) Γ Γ') (H : ∀ w, φ w → χ w) (n : Run C k E (know χ :: Γ') Q) : Run C k E Γ Q :=
 .close (.cons p .nil) (fun _ s => sat.know_mono H s) n
end
end Go.Sp
/- A separation logic over the given machine. Part 21: blocks whose address may be compared; maps cleared; packed resources; regions whose ends come together. -/
namespace Go.Sp
open Go
def blk0 (b : Nat) (l : List Value) (e : TypeId) : SProp := fun h => ones l ∧ h b = some (false, .cells l.toArray e (0, 0))
def Clean (b : Nat) (w : World) : Prop := ∃ cs e, w.heap[b]? = some (.cells cs e (0, 0))
section
variable {P : Program} {N : Nat} {E : Env} {Γ Γ' : List SProp} {dst : Option Tmp} {ty : TypeId} {pos : String} {after : Array Edge} {guard : Option (Nat × Bool)}
end
def pk (L : List SProp) : SProp := fun h => sat L h
section
variable {P : Program} {N : Nat} {ops : Array Oper} {os : List Oper} {E : Env} {Γ Γ' L : List SProp} {K : Env → List SProp → Prop} {C : Cx} {k : List Item} {Q : Value → List SProp → Prop}
theorem Run.unpack (p : Pick (pk L) Γ Γ') (n : Run C k E (L ++ Γ') Q) : Run C k E Γ Q := .open_ (σ := Unit) (φ := fun _ => True) (B := fun _ => L) p (fun _ h => ⟨(), trivial, h⟩) fun _ _ => n
theorem Run.pack (p : Picks L Γ Γ') (n : Run C k E (pk L :: Γ') Q) : Run C k E Γ Q := .close p (fun _ s => s) n
theorem RunO.pack (p : Picks L Γ Γ') (n : RunO P N ops os E (pk L :: Γ') K) : RunO P N ops os E Γ K := .close p (fun _ s => s) n
theorem Run.drawsTo {id} (L1 : List Nat) (ΓS : List SProp) (E2 : Env) (Γ2 : List SProp) (hm : C.P.follows .mixedOrders = true)
  (h : RunD C.P C.fn.ntmps ops L1 ΓS ops.size (Array.replicate ops.size false) E Γ fun E' Γ' => Le E2 E' ∧ ∃ Δ, Picks Γ2 Γ' Δ) (n : Run C k E2 Γ2 Q) : Run C (.code (.region id ops true) :: k) E Γ Q :=
 Run.draws L1 ΓS hm (h.mono fun _ _ ⟨l, _, p⟩ => n.to l p)
end
end Go.Sp
/- A separation logic over the given machine. Part 22: more on regions that draw. -/
namespace Go.Sp
open Go
section
variable {P : Program} {N : Nat} {ops : Array Oper} {E : Env} {Γ ΓS : List SProp} {K : Env → List SProp → Prop} {fuel : Nat} {listed : Array Bool} {L : List Nat}
theorem RunD.cast {X X' : SProp} (h : X = X') (n : RunD P N ops L ΓS fuel listed E (X' :: Γ) K) : RunD P N ops L ΓS fuel listed E (X :: Γ) K := by subst h; exact n
end
end Go.Sp
/- A separation logic over the given machine. Part 23: contracts of the library that leave what was there as it was; interfaces held against nil. -/
namespace Go.Sp
open Go Go.RowKit
theorem Sat.keptBelow {A w w' Γ} (s : Sat A w Γ) (b : Below w.heap.size w w') : Sat A w' Γ := by
 obtain ⟨ha, h, hf, hs⟩ := s
 refine ⟨?_, h, fun k x hk => ?_, hs⟩
 ·
  rw [← ha]; unfold amb; rw [b.os, b.tape, b.output]
 ·
  have h1 := hf k x hk
  rw [b.block k (by have := (Array.getElem?_eq_some_iff.1 h1).1; exact this)]; exact h1
theorem Cn.calls {P f} {args : List Value} {φ : World → Prop} {q : Value → Prop} (able : Able P f) (h : ∀ w, φ w → Calls P f args.toArray w fun e w' => ∃ v, e = .returned v ∧ q v ∧ Below w.heap.size w w') : Cn P f args φ [] fun v G => q v ∧ G = [] := fun R kR => by
 refine ⟨able, fun A F w s => ?_⟩
 have s1 : Sat A w ([R] ++ F) := s
 refine (h w (kR A w s1.left)).mono fun e w' ⟨v, he, hq, hb⟩ => ⟨v, [R], he, ⟨[], ⟨hq, rfl⟩, rfl⟩, s1.keptBelow hb⟩
section
variable {P : Program} {N : Nat} {E : Env} {Γ : List SProp} {dst : Option Tmp} {ty : TypeId} {pos : String} {after : Array Edge} {guard : Option (Nat × Bool)}
def notNil : Value → Bool
 | .nilIface => false
 | _ => true
end
end Go.Sp
/- A separation logic over the given machine. Part 25: contracts of the library that hand back a new row, which is known from then on. -/
namespace Go.Sp
open Go Go.RowKit
theorem Sat.adopt {A w w' Γ g o} (s : Sat A w Γ) (b : Below w.heap.size w w') (hg : w.heap.size ≤ g) (ho : w'.heap[g]? = some o) : Sat A w' (Sp.own g o :: Γ) := by
 obtain ⟨a, h, f, t⟩ := s.keptBelow b
 obtain ⟨_, h0, f0, t0⟩ := s
 have hlt : ∀ b x, h0 b = some x → b < w.heap.size := fun b x e => (Array.getElem?_eq_some_iff.1 (f0 b x e)).1
 have hn : h0 g = none := by
  cases e : h0 g with
  | none => rfl
  | some x => exact absurd (hlt _ _ e) (by omega)
 have f1 : Hp.fits h0 w' := fun c x ex => by rw [b.block c (hlt c x ex)]; exact f0 c x ex
 refine ⟨a, Hp.un (fun c => if c = g then some (false, o) else none) h0, ?_, (fun c => if c = g then some (false, o) else none), h0, ?_, Hp.le_un_left _ _, ?_, ?_, t0⟩
 ·
  intro c x ex
  by_cases hc : c = g
  ·
   subst hc; simp [Hp.un] at ex; subst ex; exact ho
  ·
   simp [Hp.un, hc] at ex; exact f1 c x ex
 ·
  intro c
  by_cases hc : c = g
  ·
   subst hc; exact .inr (.inl hn)
  ·
   exact .inl (by simp [hc])
 ·
  intro c x ex
  by_cases hc : c = g
  ·
   subst hc; rw [hn] at ex; cases ex
  ·
   simp [Hp.un, hc, ex]
 ·
  simp [Sp.own]
theorem Cn.callsKnow {P f} {args : List Value} {φ : World → Prop} {e : TypeId} {n : Nat} {xs : List Value} (able : Able P f) (ho : ones xs) (h : ∀ w, φ w → Calls P f args.toArray w fun x w' => ∃ v, x = .returned v ∧ w'.ownsRow w.heap.size e 1 v n xs ∧ Below w.heap.size w w') :
  Cn P f args φ [] fun v G => ∃ a c, v = .slice a n c ∧ G = [know (RowAt a xs)] := fun R kR => by
 refine ⟨able, fun A F w s => ?_⟩
 have s1 : Sat A w ([R] ++ F) := s
 refine (h w (kR A w s1.left)).mono fun x w' ⟨v, he, hr, hb⟩ => ?_
 obtain ⟨hl, ⟨rfl, rfl⟩ | ⟨g, cap, cur, rfl, hg, hc, hn, hcap, hsz, hx⟩⟩ := hr
 ·
  have : xs = [] := List.eq_nil_of_length_eq_zero (by omega)
  subst this
  exact ⟨_, [know (RowAt none []), R], he, ⟨[_], ⟨none, 0, rfl, rfl⟩, rfl⟩, Sat.knowT (φ := RowAt none []) (fun w => .inl rfl) (s1.keptBelow hb)⟩
 ·
  have s2 := Sat.share (s1.adopt hb hg hc)
  refine ⟨_, [know (RowAt (some ⟨g, 0, none⟩) xs), R], he, ⟨[_], ⟨_, _, rfl, rfl⟩, rfl⟩, ?_⟩
  refine Sat.map (Γ := Sp.ro g (.cells cur e (0, 0)) :: ([R] ++ F)) (fun k hk => ?_) s2
  obtain ⟨h1, h2, ok, l1, l2, e1, t⟩ := hk
  refine ⟨h1, h2, ok, l1, l2, sat.ro_know (b := g) (o := .cells cur e (0, 0)) (fun w0 hw0 => .inr ⟨g, 0, rfl, fun i v hv => ?_, ho⟩) e1, t⟩
  rw [← hx, List.getElem?_take] at hv
  split at hv
  ·
   obtain ⟨l⟩ := cur
   rw [cell_of (l := l) hw0, Nat.zero_add]; exact hv
  ·
   cases hv
end Go.Sp
/- A separation logic over the given machine. Part 29: texts made of rows of bytes; rows made anew; what a library's contract does to one block. -/
namespace Go.Sp
open Go Go.RowKit
def raw (e : TypeId) (a : Option Addr) (cs : List Value) : SProp := fun h => ∃ b o cur fz, a = some ⟨b, o, none⟩ ∧ ones cur ∧ o + cs.length ≤ cur.length ∧ (∀ i v, cs[i]? = some v → cur[o + i]? = some v) ∧ h b = some (false, .cells cur.toArray e fz)
theorem raw_of {e a c cs} {h : Hp} (hne : cs ≠ []) (H : arr e 1 a c cs h) : raw e a cs h := by
 rcases H with ⟨_, h2⟩ | ⟨b, pre, post, e1, e2, ho, fz, _, e3⟩
 ·
  exact absurd h2 hne
 ·
  refine ⟨b, pre.length, _, fz, e1, ho, by simp, fun i v hv => ?_, e3⟩
  have hl := (List.getElem?_eq_some_iff.1 hv).1
  rw [List.getElem?_append_right (by omega), Nat.add_sub_cancel_left, List.getElem?_append_left hl]; exact hv
theorem arr_mono {e s : Nat} {a : Option Addr} {c : Nat} {cs : List Value} {h k : Hp} (hl : Hp.le h k) (H : arr e s a c cs h) : arr e s a c cs k := by
 rcases H with h1 | ⟨b, pre, post, e1, e2, e3⟩
 ·
  exact .inl h1
 ·
  exact .inr ⟨b, pre, post, e1, e2, blk_mono hl e3⟩
theorem Sat.raw_own {A w e a cs Γ} (s : Sat A w (Sp.raw e a cs :: Γ)) : ∃ b o cur fz, a = some ⟨b, o, none⟩ ∧ ones cur ∧ o + cs.length ≤ cur.length ∧ (∀ i v, cs[i]? = some v → cur[o + i]? = some v) ∧ Sat A w (Sp.own b (.cells cur.toArray e fz) :: Γ) := by
 obtain ⟨am, h, f, h1, h2, ok, l1, l2, ⟨b, o, cur, fz, e1, e2, e3, e4, e5⟩, t⟩ := s
 exact ⟨b, o, cur, fz, e1, e2, e3, e4, am, h, f, h1, h2, ok, l1, l2, e5, t⟩
theorem Sat.raw_of {A w e b o cs Γ} {cur : List Value} {fz : Nat × Nat} (h2 : ones cur) (h3 : o + cs.length ≤ cur.length) (h4 : ∀ i v, cs[i]? = some v → cur[o + i]? = some v) (s : Sat A w (Sp.own b (.cells cur.toArray e fz) :: Γ)) : Sat A w (Sp.raw e (some ⟨b, o, none⟩) cs :: Γ) := by
 obtain ⟨am, h, f, h1, k2, ok, l1, l2, ho, t⟩ := s
 exact ⟨am, h, f, h1, k2, ok, l1, l2, ⟨b, o, cur, fz, rfl, h2, h3, h4, ho⟩, t⟩
theorem slice0 (a : Option Addr) (h m s : Nat) : Value.slice (if m = 0 then a else a.map (·.add (0 * s))) (h - 0) (m - 0) = .slice a h m := by
 cases a with
 | none => simp
 | some p => by_cases hm : m = 0 <;> simp [hm, Addr.add]
theorem RowAt.left {a : Option Addr} {xs ys : List Value} {w : World} (h : RowAt a (xs ++ ys) w) : RowAt a xs w := by
 rcases h with h | ⟨b, o, e, h⟩
 ·
  exact .inl (List.append_eq_nil_iff.1 h).1
 ·
  refine .inr ⟨b, o, e, fun i v hv => h.1 i v ?_, fun v hv => h.2 v (List.mem_append_left _ hv)⟩
  rw [List.getElem?_append_left (List.getElem?_eq_some_iff.1 hv).1]; exact hv
theorem RowAt.takeF {α : Type} {f : α → List Value} {a : Option Addr} {l : List α} {w : World} (n : Nat) (h : RowAt a (l.flatMap f) w) : RowAt a ((l.take n).flatMap f) w := by
 rw [← List.take_append_drop n l, List.flatMap_append] at h; exact h.left
theorem RowAt.dropF {α : Type} {f : α → List Value} {k : Nat} (hk : ∀ x, (f x).length = k) {b o : Nat} {l : List α} {w : World} (n : Nat) (hn : n ≤ l.length) (h : RowAt (some ⟨b, o, none⟩) (l.flatMap f) w) : RowAt (some ⟨b, o + n * k, none⟩) ((l.drop n).flatMap f) w := by
 rw [← List.take_append_drop n l, List.flatMap_append] at h
 rcases h with h | ⟨b', o', e, h⟩
 ·
  exact .inl (List.append_eq_nil_iff.1 h).2
 ·
  cases e
  have hl : ((l.take n).flatMap f).length = n * k := by rw [flat_length hk, List.length_take, Nat.min_eq_left hn]
  refine .inr ⟨b, o + n * k, rfl, fun i v hv => ?_, fun v hv => h.2 v (List.mem_append_right _ hv)⟩
  have := h.1 (n * k + i) v (by rw [List.getElem?_append_right (by omega), hl, Nat.add_sub_cancel_left]; exact hv)
  rwa [← Nat.add_assoc] at this
theorem RowAt.tailF {α : Type} {f : α → List Value} {k : Nat} (hk : ∀ x, (f x).length = k) (h0 : 0 < k) {a : Option Addr} {c : Nat} {l : List α} {w : World} (n : Nat) (hn : n ≤ l.length) (hc : l.length ≤ c) (h : RowAt a (l.flatMap f) w) : RowAt (if c = n then a else a.map (·.add (n * k))) ((l.drop n).flatMap f) w := by
 by_cases hx : n = l.length
 ·
  subst hx; rw [List.drop_length]; exact .inl rfl
 ·
  have hp : 0 < (l.flatMap f).length := by rw [flat_length hk]; exact Nat.mul_pos (by omega) h0
  obtain ⟨b, o, rfl⟩ := h.addr hp
  rw [if_neg (by omega)]
  show RowAt (some ((⟨b, o, none⟩ : Addr).add (n * k))) _ w
  rw [Addr_add]; exact h.dropF hk n hn
theorem Knows.cap {Γ Γ' : List SProp} {e s : Nat} {a : Option Addr} {c : Nat} {cs : List Value} (p : Pick (Sp.arr e s a c cs) Γ Γ') : Knows Γ fun _ => cs.length ≤ c * s := fun _ _ h => (h.map fun _ => p.sat).arr_len.1
section
variable {P : Program} {N : Nat} {E : Env} {Γ Γ' : List SProp} {dst : Option Tmp} {ty : TypeId} {pos : String} {after : Array Edge} {guard : Option (Nat × Bool)}
theorem Reads.capL {args : Array Operand} {x t e ts} {p : Option Addr} {n c : Nat} (ha : args = #[x]) (hts : ts = #[t]) (hu : P.underlying t = some (.slice e)) (hx : ev E x = some (.slice p n c)) :
  Reads P N E Γ ⟨dst, .call ⟨.builtin .cap, args, ts⟩, ty, pos, after, guard⟩ (.int .i64 c) := fun _ w a hf _ => by
 subst ha hts
 simp [execOp, resolve, invoke, builtin, Builtin.cap_, hf.eval hx, underlying, hu, goInt]
theorem liesAt_row {e : TypeId} (hc : P.cellsOf e = 1) (count o n : Nat) (hn : o + n ≤ count) : liesAt P P.depth e count o e n = true := by
 have hd : P.depth = (2 * (P.types.size + Made.depth) + 1) + 1 := rfl
 rw [hd]
 simp only [liesAt, Bool.or_eq_true]
 left
 rw [hd]
 simp [rowAt, hc, hn, sameLayout, Nat.mod_one]
theorem Eff.unsafeStrR {args : Array Operand} {ts : Array TypeId} {pt it e x y} {p : Option Addr} {l : List UInt8} (ha : args = #[x, y]) (hts : ts = #[pt, it]) (hp : P.underlying pt = some (.pointer e)) (hc : P.cellsOf e = 1) (h0 : l ≠ []) (hl : l.length ≤ 1000000000000) (hx : ev E x = some (.pointer p)) (hy : ev E y = some (.int .i64 (l.length : Int))) (pk : Pick (raw e p (bcs l)) Γ Γ') :
  Eff P N E Γ ⟨dst, .call ⟨.builtin .unsafeString, args, ts⟩, ty, pos, after, guard⟩ fun v Γ'' => v = .string (str l) ∧ Γ'' = raw e p (bcs l) :: Γ' := by
 subst ha hts
 intro A F w a nx Z hf hsat hn
 obtain ⟨b, o, cur, fz, rfl, h2, h3, h4, hs⟩ := (hsat.map fun _ => (pk.app F).sat).raw_own
 have hb := hs.own
 have hlen : (bcs l).length = l.length := bcs_len l
 have hlies := liesAt_row (P := P) hc (cur.length / P.cellsOf e) o l.length (by rw [hc, Nat.div_one]; omega)
 have hld := Lib.run_loadBytes (P := P) w l ⟨b, o, none⟩ .empty (fun j x hj => by
  rw [Addr_add, cell_of hb]
  exact h4 j _ (by simp [bcs, hj]))
 have hl0 : l.length ≠ 0 := by simpa using h0
 have h63 : ¬ (9223372036854775807 : Int) < (l.length : Int) := by omega
 have hmax : IntKind.i64.max = 9223372036854775807 := rfl
 have hr : (Builtin.unsafeString_ #[pt, it] ty #[.pointer (some ⟨b, o, none⟩), .int .i64 (l.length : Int)]).run P w = .ok (.string (str l)) (w.freeze ⟨b, o, none⟩ l.length) := by
  have hdef : Builtin.unsafeString_ #[pt, it] ty #[.pointer (some ⟨b, o, none⟩), .int .i64 l.length] =
   (do
    let n ← asInt (.int .i64 l.length)
    if n < 0 then runtimePanic (.error "unsafe.String: len out of range")
    if n > IntKind.i64.max then unsupported (.unsafePointer "String: a length above the largest int")
    if n = 0 then pure (.string .empty)
    else if ← variablesAt ⟨b, o, none⟩ (← elemOf pt) n.toNat then do
     let s ← loadBytes ⟨b, o, none⟩ .empty n.toNat
     freeze ⟨b, o, none⟩ n.toNat
     pure (.string s)
    else unsupported (.unsafePointer "String: not so many bytes at ptr")) := rfl
  rw [hdef]
  simp only [asInt, asIntOf]
  have hneg : ¬ (l.length : Int) < 0 := by omega
  simp [hmax, h63, hneg, h0, variablesAt, shape_of hb, elemOf, underlying, hp, hld, str]
  rw [hc, Nat.div_one] at hlies ⊢
  simpa using hlies
 unfold Oper.wp
 simp [execOp, resolve, invoke, builtin, hf.eval hx, hf.eval hy, hr, Oper.upon]
 have hfz : (w.freeze ⟨b, o, none⟩ l.length).heap[b]? = some (.cells cur.toArray e (if fz.1 == fz.2 then (o, o + l.length) else (min fz.1 o, max fz.2 (o + l.length)))) := by
  unfold World.freeze
  rw [if_neg hl0]
  simp [Array.getElem?_modify, hb]
 exact hn _ _ _ ⟨rfl, rfl⟩ (Sat.raw_of h2 h3 h4 (hs.update hfz (fun c hc2 => by unfold World.freeze; rw [if_neg hl0]; simp [Array.getElem?_modify, Ne.symm hc2]) (by unfold World.freeze; rw [if_neg hl0]; rfl)))
theorem Eff.appendZ {args : Array Operand} {ts : Array TypeId} {x y t tn e s by_ z n k kn} (ha : args = #[x, y]) (hts : ts = #[t, tn]) (hu : P.underlying t = some (.slice e)) (hun : P.underlying tn = some (.int kn)) (hi : TI P e s by_ z) (hz : z.cells.size = s) (hzo : ones z.cells.toList) (hs0 : 0 < s)
  (h0 : 0 < n) (hb : n * by_ ≤ 140737488355328) (hn9 : n ≤ 1000000000000) (hx : ev E x = some (.slice none 0 0)) (hy : ev E y = some (.int k (n : Nat))) :
  Eff P N E Γ ⟨dst, .call ⟨.builtin .append, args, ts⟩, ty, pos, after, guard⟩ fun u Γ'' => ∃ b c, u = .slice (some ⟨b, 0, none⟩) n c ∧ n ≤ c ∧ Γ'' = arr e s (some ⟨b, 0, none⟩) c [] :: Γ := by
 subst ha hts
 intro A F w ac nx Z hf hsat hnext
 obtain ⟨i, hinf, hsz, hby, hzv⟩ := hi
 subst hsz hby
 have hr := Lib.run_append_nil_zeros (P := P) w t tn ty e i z k kn hu hun hinf hzv n h0 hs0 (by omega) (by omega)
 have hge := grownCap_ge w n 0 e
 unfold Oper.wp
 simp only [execOp, resolve, invoke, builtin, List.map_toArray, List.map_cons, List.map_nil, hf.eval hx, hf.eval hy, Sem.run_bind, Sem.run_pure, Result.andThen_ok, hr, Oper.upon]
 refine hnext _ _ _ ⟨_, _, rfl, hge, rfl⟩ ?_
 have e5 : (Builtin.zeroCells z.cells n ++ Builtin.zeroCells z.cells (grownCap w n 0 e - n)) = ((Builtin.zeroCells z.cells n).toList ++ (Builtin.zeroCells z.cells (grownCap w n 0 e - n)).toList).toArray := by
  apply Array.ext'; simp
 rw [e5]
 have s4 := Sat.blk_of (fz := (0, 0)) ((hsat.drew (w := w)).alloc (.cells ((Builtin.zeroCells z.cells n).toList ++ (Builtin.zeroCells z.cells (grownCap w n 0 e - n)).toList).toArray e)) ((zeroCells_ones hzo _).append (zeroCells_ones hzo _)) (.inl rfl)
 show Sat A _ (_ :: (Γ ++ F))
 refine Sat.close (Γ := Γ ++ F) (B := [blk w.heap.size ([] ++ ([] ++ ((Builtin.zeroCells z.cells n).toList ++ (Builtin.zeroCells z.cells (grownCap w n 0 e - n)).toList))) e]) (fun h' H => ?_) (by rw [List.nil_append, List.nil_append]; exact s4)
 refine sat.arr_close (pre := []) ?_ H
 simp [size_zeroCells, hz]
 rw [← Nat.add_mul]; congr 1; omega
end
theorem Cn.callsSet {P f} {args : List Value} {b i : Nat} {l : List Value} {e : TypeId} {u r : Value} (able : Able P f) (hi : i < l.length) (hu : u.oneCell' = true) (h : ∀ w fz, (fz.1 = fz.2 ∨ l.length ≤ fz.1) → w.heap[b]? = some (.cells l.toArray e fz) → Calls P f args.toArray w fun x w' => x = .returned r ∧ w' = w.setCell ⟨b, i, none⟩ u) :
  Cn P f args (fun _ => True) [blk b l e] fun v G => v = r ∧ G = [blk b (l.set i u) e] := fun R kR => by
 refine ⟨able, fun A F w s => ?_⟩
 have s1 : Sat A w (blk b l e :: ([R] ++ F)) := s
 obtain ⟨ho, fz, hfz, hb, s2⟩ := s1.blk
 refine (h w fz hfz hb).mono fun x w' ⟨he, hw⟩ => ?_
 subst hw
 refine ⟨r, [blk b (l.set i u) e, R], he, ⟨[_], ⟨rfl, rfl⟩, rfl⟩, ?_⟩
 obtain ⟨a1, a2⟩ := heap_setCells b [u] i w l e fz hb (by simp; omega)
 have s4 := Sat.blk_of (s2.update a1 a2 (amb_setCells b [u] i w)) (ones_splice ho (fun v hv => by rw [List.mem_singleton.1 hv]; exact hu) _) (by
  rcases hfz with h | h
  ·
   exact .inl h
  ·
   right; rw [length_splice _ _ _ (by simp; omega)]; exact h)
 rw [splice_one hi] at s4
 exact s4
theorem Knows.pk {L Γ Γ' : List SProp} {φ : World → Prop} (p : Pick (Sp.pk L) Γ Γ') (k : Knows L φ) : Knows Γ φ := fun A w h =>
 have h1 : ∃ _ : Unit, True ∧ Sat A w (L ++ Γ') := Sat.open_ (σ := Unit) (φ := fun _ => True) (B := fun _ => L) (fun _ h => ⟨(), trivial, h⟩) (h.map fun _ => p.sat)
 h1.elim fun _ h => k A w (Sat.left h.2)
theorem Cn.ex {P f} {args : List Value} {ψ : World → Prop} {Q : Value → List SProp → Prop} {X : SProp} {σ : Type} {φ : σ → Prop} {B : σ → List SProp} (able : Able P f) (hX : ∀ h, X h → ∃ s, φ s ∧ sat (B s) h) (h : ∀ s, φ s → Cn P f args ψ (B s) Q) : Cn P f args ψ [X] Q := fun R kR => by
 refine ⟨able, fun A F w s => ?_⟩
 have s1 : Sat A w (X :: ([R] ++ F)) := s
 obtain ⟨u, hu, s2⟩ := Sat.open_ (σ := σ) (φ := φ) (B := B) hX s1
 exact (h u hu R kR).2 A F w (by rw [List.append_assoc]; exact s2)
end Go.Sp
/- Chapter 3: checksums, in plain Lean. -/
namespace Go.Proofs.YtoglbebcdjdkiaaGreatDoor
open Go Go.Sp
def crc1 (c : BitVec 32) : BitVec 32 := (c >>> 1) ^^^ (2197175160#32 &&& -(c &&& 1#32))
def crcN : Nat → BitVec 32 → BitVec 32
 | 0, c => c
 | n + 1, c => crcN n (crc1 c)
def crcB (c : BitVec 32) (b : UInt8) : BitVec 32 := crcN 8 (c ^^^ BitVec.ofNat 32 b.toNat)
def crcS (l : List UInt8) : BitVec 32 := l.foldl crcB 4294967295#32
def crc (l : List UInt8) : BitVec 32 := ~~~ crcS l
theorem crcS_snoc (l : List UInt8) (i : Nat) {b : UInt8} (h : l[i]? = some b) : crcS (l.take (i + 1)) = crcB (crcS (l.take i)) b := by
 unfold crcS; rw [List.take_add_one, h, List.foldl_append]; rfl
theorem u8_u32 (b : UInt8) : IntKind.u32.wrap (b.toNat : Int) = ((BitVec.ofNat 32 b.toNat).toNat : Int) := by
 rw [wrap_un rfl]; rfl
end Go.Proofs.YtoglbebcdjdkiaaGreatDoor
/- Chapter 3: ints as bytes, in plain Lean. -/
namespace Go.Proofs.YtoglbebcdjdkiaaGreatDoor
open Go Go.Sp
def i64 (n : Int) : Prop := -9223372036854775808 ≤ n ∧ n ≤ 9223372036854775807
def zig (n : Int) : Nat := if n < 0 then (2 * (-(n + 1)) + 1).toNat else (2 * n).toNat
def zag (z : Nat) : Int := if z % 2 = 1 then -((z / 2 : Nat) : Int) - 1 else ((z / 2 : Nat) : Int)
theorem zag_zig (n : Int) : zag (zig n) = n := by unfold zag zig; split <;> split <;> omega
theorem zig_lt {n : Int} (h : i64 n) : zig n < 18446744073709551616 := by obtain ⟨h1, h2⟩ := h; unfold zig; split <;> omega
theorem zag_i64 {z : Nat} (h : z < 18446744073709551616) : i64 (zag z) := by unfold zag i64; split <;> omega
def vint (z : Nat) : List UInt8 := if z < 128 then [UInt8.ofNat z] else UInt8.ofNat (z % 128 + 128) :: vint (z / 128)
termination_by z
theorem vint_small {z : Nat} (h : z < 128) : vint z = [UInt8.ofNat z] := by rw [vint, if_pos h]
theorem vint_big {z : Nat} (h : ¬ z < 128) : vint z = UInt8.ofNat (z % 128 + 128) :: vint (z / 128) := by rw [vint, if_neg h]
theorem vint_len (z : Nat) : ∀ k, z < 128 ^ (k + 1) → (vint z).length ≤ k + 1 := by
 induction z using Nat.strongRecOn with
 | _ z ih =>
  intro k hk
  by_cases h : z < 128
  ·
   rw [vint_small h]; simp
  ·
   rw [vint_big h]
   cases k with
   | zero => omega
   | succ k =>
    have := ih (z / 128) (by omega) k (by rw [Nat.pow_succ] at hk; omega)
    simp; omega
theorem vint_ten {z : Nat} (h : z < 18446744073709551616) : (vint z).length ≤ 10 := vint_len z 9 (by
 have : (128 : Nat) ^ 10 = 1180591620717411303424 := by decide
 show z < 128 ^ 10
 omega)
theorem vint_pos (z : Nat) : 0 < (vint z).length := by
 by_cases h : z < 128
 ·
  rw [vint_small h]; simp
 ·
  rw [vint_big h]; simp
def eint (n : Int) : List UInt8 := vint (zig n)
theorem eint_len {n : Int} (h : i64 n) : (eint n).length ≤ 10 := vint_ten (zig_lt h)
theorem wrap_u64 {n : Nat} (h : n < 18446744073709551616) : IntKind.u64.wrap (n : Int) = n := by
 unfold IntKind.wrap; simp [IntKind.signed, IntKind.bits]; omega
theorem wrap_u8 {n : Nat} (h : n < 256) : IntKind.u8.wrap (n : Int) = n := by
 unfold IntKind.wrap; simp [IntKind.signed, IntKind.bits]; omega
theorem u64_u8 (n : Nat) : IntKind.u8.wrap (n : Int) = ((n % 256 : Nat) : Int) := by
 unfold IntKind.wrap; simp [IntKind.signed, IntKind.bits]
theorem wrap_mod (n : Int) : IntKind.i64.wrap n % 18446744073709551616 = n % 18446744073709551616 := by
 unfold IntKind.wrap; simp [IntKind.signed, IntKind.bits]; split <;> omega
theorem u64_of (n : Int) : IntKind.u64.wrap n = n % 18446744073709551616 := by
 unfold IntKind.wrap; simp [IntKind.signed, IntKind.bits]
theorem ofInt_wrap (n : Int) : BitVec.ofInt 64 (IntKind.i64.wrap n) = BitVec.ofInt 64 n := by
 apply BitVec.eq_of_toNat_eq
 rw [BitVec.toNat_ofInt, BitVec.toNat_ofInt]
 show (IntKind.i64.wrap n % 18446744073709551616).toNat = (n % 18446744073709551616).toNat
 rw [wrap_mod]
theorem toNat_ofInt64 (n : Int) : (BitVec.ofInt 64 n).toNat = (n % 18446744073709551616).toNat := by
 rw [BitVec.toNat_ofInt]; rfl
theorem zig_bits {n : Int} (h : i64 n) :
  IntKind.u64.wrap (IntKind.i64.wrap ((BitVec.ofInt 64 (IntKind.i64.wrap (n * 2 ^ (min 1 64))) ^^^ BitVec.ofInt 64 (n.fdiv (2 ^ (min 63 64)))).toNat : Int)) = (zig n : Int) := by
 obtain ⟨h1, h2⟩ := h
 rw [u64_of, wrap_mod, ofInt_wrap]
 have e1 : n * 2 ^ (min 1 64) = n * 2 := rfl
 have e2 : (2 : Int) ^ (min 63 64) = 9223372036854775808 := by decide
 rw [e1, e2]
 unfold zig
 by_cases hn : n < 0
 ·
  have e3 : n.fdiv 9223372036854775808 = -1 := by rw [Int.fdiv_eq_ediv_of_nonneg _ (by omega)]; omega
  rw [e3, if_pos hn, show BitVec.ofInt 64 (-1) = BitVec.allOnes 64 from rfl, BitVec.xor_allOnes, BitVec.toNat_not, toNat_ofInt64]
  omega
 ·
  have e3 : n.fdiv 9223372036854775808 = 0 := by rw [Int.fdiv_eq_ediv_of_nonneg _ (by omega)]; omega
  rw [e3, if_neg hn, show BitVec.ofInt 64 0 = 0#64 from rfl, BitVec.xor_zero, toNat_ofInt64]
  omega
end Go.Proofs.YtoglbebcdjdkiaaGreatDoor