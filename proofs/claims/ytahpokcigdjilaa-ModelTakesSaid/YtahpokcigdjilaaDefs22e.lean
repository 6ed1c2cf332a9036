/- Chapter 22: a partition's states; what is wrong at a place of a beginning, in plain Lean. -/
import Derived.Test.YtahpokcigdjilaaDefs22d
import Derived.Test.YtahpokcigdjilaaMod7
namespace Go.Proofs.Ytahpokcigdjilaa
open Go Go.Sp

structure Pt where
  id : Int
  leader : Int
  epoch : Int
  version : Int
  isr : Row Int
  replicas : Row Int
  adding : Row Int
  removing : Row Int
  min : Int
def Pt.cells (p : Pt) : List Value := [.int .i64 p.id, .int .i64 p.leader, .int .i64 p.epoch, .int .i64 p.version, .slice p.isr.1 p.isr.2.2.length p.isr.2.1, .slice p.replicas.1 p.replicas.2.2.length p.replicas.2.1, .slice p.adding.1 p.adding.2.2.length p.adding.2.1, .slice p.removing.1 p.removing.2.2.length p.removing.2.1, .int .i64 p.min]
theorem Pt.cells_len (p : Pt) : p.cells.length = 9 := rfl
theorem Pt.cells_ones (p : Pt) : ones p.cells := .of rfl
def Pt.at_ (p : Pt) (w : World) : Prop := RowAt p.isr.1 (p.isr.2.2.flatMap icell) w ∧ RowAt p.replicas.1 (p.replicas.2.2.flatMap icell) w ∧ RowAt p.adding.1 (p.adding.2.2.flatMap icell) w
structure Pt.ok (p : Pt) : Prop where
  isr : p.isr.2.2.length ≤ 17592186044416
  replicas : p.replicas.2.2.length ≤ 17592186044416
  adding : p.adding.2.2.length ≤ 17592186044416
  room : p.replicas.2.2.length ≤ p.replicas.2.1
def pt0 : Pt := ⟨0, 0, 0, 0, row0, row0, row0, row0, 0⟩

def turned (p q : Pt) : Bool := !decide (q.leader = p.leader)
def otherP (p q : Pt) : Bool := !decide (q.id = p.id) || (!decide (q.min = p.min) || !decide (q.version = IntKind.i64.wrap (p.version + 1)))
def epochP (p q : Pt) : Bool := (turned p q && !decide (q.epoch = IntKind.i64.wrap (p.epoch + 1))) || (!turned p q && !decide (q.epoch = p.epoch))
def newP (p q : Pt) : Bool := (turned p q && !decide (q.leader = 0)) && !decide (q.leader ∈ p.isr.2.2)
def stillP (p q : Pt) (x : Int) : Bool := decide (x ∈ q.replicas.2.2) || decide (x ∈ p.adding.2.2)
def withinP (l m : List Int) : Bool := !l.any fun x => !decide (x ∈ m)
def followsP (p q : Pt) : Bool := !otherP p q && (!epochP p q && (!newP p q && (decide (((p.replicas.2.2.filter fun x => !stillP p q x).length : Int) = 0) || withinP q.replicas.2.2 p.isr.2.2)))
def badQ (q : Pt) : Bool := decide ((q.isr.2.2.length : Int) = 0) || (decide (q.epoch < 1) || (decide (q.version < 1) || (!decide (q.leader = 0) && !decide (q.leader ∈ q.isr.2.2))))
def badAt (l : List Pt) (i : Nat) : Bool := badQ (l[i]?.getD pt0) || (decide (0 < (i : Int)) && !followsP (l[i - 1]?.getD pt0) (l[i]?.getD pt0))
def metaP (l : List Pt) : Int := place (badAt l) (List.range l.length)

/-! ### Places -/

theorem place_neg {α : Type} {f : α → Bool} : ∀ {l : List α}, place f l = -1 → ∀ y ∈ l, f y = false
  | [], _, y, h => by cases h
  | x :: l, h, y, hy => by
    unfold place at h
    have h0 := place_ge f l
    cases hx : f x with
    | true => rw [hx] at h; simp at h
    | false =>
      rw [hx] at h
      by_cases hp : place f l = -1
      · rcases List.mem_cons.1 hy with rfl | hy
        · exact hx
        · exact place_neg hp y hy
      · simp [hp] at h; omega
theorem place_pos {α : Type} {f : α → Bool} : ∀ {l : List α}, place f l ≠ -1 → ∃ (i : Nat) (x : α), l[i]? = some x ∧ f x = true ∧ (∀ y ∈ l.take i, f y = false) ∧ place f l = i
  | [], h => absurd rfl h
  | x :: l, h => by
    unfold place at h ⊢
    cases hx : f x with
    | true => exact ⟨0, x, rfl, hx, by simp, by simp⟩
    | false =>
      rw [hx] at h
      by_cases hp : place f l = -1
      · simp [hp] at h
      · obtain ⟨i, y, h1, h2, h3, h4⟩ := place_pos hp
        refine ⟨i + 1, y, h1, h2, fun z hz => ?_, ?_⟩
        · rw [List.take_succ_cons] at hz
          rcases List.mem_cons.1 hz with rfl | hz
          · exact hx
          · exact h3 z hz
        · simp [h4]
theorem filter_start {l : List Int} {f : Int → Bool} {i : Nat} {p : Int} (hp : l[i]? = some p) (hh : f p = true) (hn : ∀ q ∈ l.take i, f q = false) : i = ((l.take (i + 1)).filter (fun q => !f q)).length := by
  have hi : i < l.length := (List.getElem?_eq_some_iff.1 hp).1
  rw [List.take_add_one, hp, List.filter_append]
  have : (l.take i).filter (fun q => !f q) = l.take i := List.filter_eq_self.2 fun q hq => by simp [hn q hq]
  rw [this]; simp [hh]; omega
theorem badAt_take (l : List Pt) {m i : Nat} (h : i < m) : badAt (l.take m) i = badAt l i := by
  unfold badAt
  rw [List.getElem?_take_of_lt h, List.getElem?_take_of_lt (by omega)]
theorem mem_take_range {n i j : Nat} (h : j ∈ (List.range n).take i) : j < i ∧ j < n := by
  rw [List.take_range, List.mem_range] at h; omega
/-- What is wrong at a place is wrong there, whatever follows. -/
theorem meta_begins (l : List Pt) (m : Nat) (hm : m ≤ l.length) : (0 ≤ metaP l ∧ metaP l < m ∧ metaP (l.take m) = metaP l) ∨ ((metaP l < 0 ∨ m ≤ metaP l) ∧ metaP (l.take m) = -1) := by
  have hlen : (l.take m).length = m := by rw [List.length_take]; omega
  by_cases h : metaP l = -1
  · right
    refine ⟨.inl (by omega), ?_⟩
    unfold metaP
    refine place_none fun j hj => ?_
    rw [hlen] at hj
    have hj := List.mem_range.1 hj
    rw [badAt_take l hj]
    exact place_neg h j (List.mem_range.2 (by omega))
  · obtain ⟨i, x, h1, h2, h3, h4⟩ := place_pos h
    have h4 : metaP l = i := h4
    obtain ⟨hi, rfl⟩ : i < l.length ∧ i = x := by
      obtain ⟨a, b⟩ := List.getElem?_eq_some_iff.1 h1
      simp at a b; exact ⟨a, b⟩
    by_cases him : i < m
    · left
      refine ⟨by omega, by omega, ?_⟩
      rw [h4]
      unfold metaP
      refine place_here (x := i) (by rw [hlen]; exact List.getElem?_range him) (by rw [badAt_take l him]; exact h2) fun j hj => ?_
      have hj' := mem_take_range hj
      rw [badAt_take l (by omega)]
      exact h3 j (by rw [List.take_range, List.mem_range]; omega)
    · right
      refine ⟨.inr (by omega), ?_⟩
      unfold metaP
      refine place_none fun j hj => ?_
      rw [hlen] at hj
      have hj := List.mem_range.1 hj
      rw [badAt_take l hj]
      exact h3 j (by rw [List.take_range, List.mem_range]; omega)
theorem go_begins : ∀ (l : List Sn) (p : PS) (i : Int) (n : Nat), (checkGo p i l = (-1, []) ∧ checkGo p i (l.take n) = (-1, [])) ∨
    ∃ (k : Nat) (w : Tx), checkGo p i l = (i + k, w) ∧ (k < n → checkGo p i (l.take n) = (i + k, w)) ∧ (n ≤ k → checkGo p i (l.take n) = (-1, []))
  | [], p, i, n => .inl ⟨rfl, by simp [checkGo]⟩
  | s :: l, p, i, 0 => by
    rcases go_begins (s :: l) p i (s :: l).length with ⟨h, _⟩ | ⟨k, w, h, _⟩
    · exact .inl ⟨h, rfl⟩
    · exact .inr ⟨k, w, h, fun h => by omega, fun _ => rfl⟩
  | s :: l, p, i, n + 1 => by
    rw [List.take_succ_cons]
    unfold checkGo
    by_cases h : wrongP p s = []
    · rw [if_pos h, if_pos h]
      rcases go_begins l (noteP p i s) (i + 1) n with ⟨h1, h2⟩ | ⟨k, w, h1, h2, h3⟩
      · exact .inl ⟨h1, h2⟩
      · refine .inr ⟨k + 1, w, ?_, fun hk => ?_, fun hk => h3 (by omega)⟩
        · rw [h1]; simp; omega
        · rw [h2 (by omega)]; simp; omega
    · rw [if_neg h, if_neg h]
      exact .inr ⟨0, wrongP p s, by simp, fun _ => by simp, fun h => by omega⟩
termination_by l _ _ n => (l.length, if n = 0 then 1 else 0)
decreasing_by all_goals simp_wf; first | (right; omega) | (left; omega) | skip
theorem check_begins (l : List Sn) (n : Nat) : (0 ≤ (check l).1 ∧ (check l).1 < n ∧ check (l.take n) = check l) ∨ (((check l).1 < 0 ∨ n ≤ (check l).1) ∧ check (l.take n) = (-1, [])) := by
  rcases go_begins l .start 0 n with ⟨h1, h2⟩ | ⟨k, w, h1, h2, h3⟩
  · right
    refine ⟨.inl ?_, h2⟩
    show (checkGo .start 0 l).1 < 0; rw [h1]; decide
  · have h1' : check l = ((k : Int), w) := by show checkGo _ _ _ = _; rw [h1]; simp
    by_cases hk : k < n
    · left
      refine ⟨by rw [h1']; exact Int.natCast_nonneg k, by rw [h1']; exact Int.ofNat_lt.2 hk, ?_⟩
      rw [h1']; show checkGo _ _ _ = _; rw [h2 hk]; simp
    · right
      exact ⟨.inr (by rw [h1']; exact Int.ofNat_le.2 (by omega)), h3 (by omega)⟩
theorem _root_.Go.Sp.Reads.predN {P N E Γ dst ty pos after guard} {x y : Operand} {t : TypeId} {n : Nat} (hx : ev E x = some (.int .i64 (n : Int))) (hy : ev E y = some (.int .i64 1)) (h : 0 < n) (h2 : n ≤ 17592186044416) :
    Reads P N E Γ ⟨dst, .binOp .sub t x y t, ty, pos, after, guard⟩ (.int .i64 ((n - 1 : Nat) : Int)) := by
  have := Reads.sub (P := P) (N := N) (Γ := Γ) (dst := dst) (ty := ty) (pos := pos) (after := after) (guard := guard) (t := t) (t' := t) hx hy (by omega) (by omega)
  rwa [show (n : Int) - 1 = ((n - 1 : Nat) : Int) by omega] at this
end Go.Proofs.Ytahpokcigdjilaa
