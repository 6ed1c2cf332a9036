/- A separation logic over the given machine. Part 8: sources of append, appending where there is room, clear; lists of equally wide elements. -/
import Derived.Test.YtahpokcigdjilaaL7
namespace Go.Sp
open Go

/-! ### Elements of one width, one behind the other -/

theorem flat_length {α : Type} {f : α → List Value} {w : Nat} (hw : ∀ x, (f x).length = w) (l : List α) : (l.flatMap f).length = l.length * w := by
  induction l with
  | nil => simp
  | cons x l ih => simp [List.flatMap_cons, hw, ih, Nat.succ_mul, Nat.add_comm]

theorem flat_at {α : Type} {f : α → List Value} {w : Nat} (hw : ∀ x, (f x).length = w) : ∀ (l : List α) (i : Nat) (x : α), l[i]? = some x → ∀ j v, (f x)[j]? = some v → (l.flatMap f)[i * w + j]? = some v
  | [], _, _, h => by simp at h
  | y :: l, 0, x, h => fun j v hv => by
    simp at h; subst h
    have : j < (f y).length := (List.getElem?_eq_some_iff.1 hv).1
    rw [List.flatMap_cons, Nat.zero_mul, Nat.zero_add, List.getElem?_append_left this]; exact hv
  | y :: l, i + 1, x, h => fun j v hv => by
    rw [List.flatMap_cons, List.getElem?_append_right (by rw [hw, Nat.succ_mul]; omega)]
    have := flat_at hw l i x (by simpa using h) j v hv
    rwa [hw, show (i + 1) * w + j - w = i * w + j from by rw [Nat.succ_mul]; omega]

theorem flat_take {α : Type} {f : α → List Value} {w : Nat} (hw : ∀ x, (f x).length = w) : ∀ (l : List α) (i : Nat), (l.flatMap f).take (i * w) = (l.take i).flatMap f
  | [], i => by simp
  | y :: l, 0 => by simp
  | y :: l, i + 1 => by
    rw [List.flatMap_cons, List.take_succ_cons, List.flatMap_cons, List.take_append, hw, ← flat_take hw l i, List.take_of_length_le (by rw [hw, Nat.succ_mul]; omega)]
    congr 2
    rw [Nat.succ_mul]; omega
theorem flat_drop {α : Type} {f : α → List Value} {w : Nat} (hw : ∀ x, (f x).length = w) : ∀ (l : List α) (i : Nat), (l.flatMap f).drop (i * w) = (l.drop i).flatMap f
  | [], i => by simp
  | y :: l, 0 => by simp
  | y :: l, i + 1 => by
    rw [List.flatMap_cons, List.drop_succ_cons, List.drop_append, hw, ← flat_drop hw l i, List.drop_eq_nil_of_le (by rw [hw, Nat.succ_mul]; omega), List.nil_append]
    congr 1
    rw [Nat.succ_mul]; omega
theorem flat_set {α : Type} {f : α → List Value} {w : Nat} (hw : ∀ x, (f x).length = w) : ∀ (l : List α) (i : Nat) (x x' : α), l[i]? = some x → ∀ j v, j < w → (f x).set j v = f x' → (l.flatMap f).set (i * w + j) v = (l.set i x').flatMap f
  | [], _, _, _, h => by simp at h
  | y :: l, 0, x, x', h => fun j v hj e => by
    simp at h; subst h
    rw [List.flatMap_cons, Nat.zero_mul, Nat.zero_add, List.set_append_left _ _ (by rw [hw]; exact hj), e]; rfl
  | y :: l, i + 1, x, x', h => fun j v hj e => by
    rw [List.flatMap_cons, List.set_append_right _ _ (by rw [hw, Nat.succ_mul]; omega), List.set_cons_succ, List.flatMap_cons]
    congr 1
    have := flat_set hw l i x x' (by simpa using h) j v hj e
    rw [← this, hw]; congr 1
    rw [Nat.succ_mul]; omega
theorem set_mid {pre cs post : List Value} {k : Nat} {v : Value} (hk : k < cs.length) : (pre ++ (cs ++ post)).set (pre.length + k) v = pre ++ (cs.set k v ++ post) := by
  rw [List.set_append_right _ _ (by omega), List.set_append_left _ _ (by omega)]; congr 3; omega
theorem at_mid {pre cs post : List Value} {k : Nat} {v : Value} (h : cs[k]? = some v) : (pre ++ (cs ++ post))[pre.length + k]? = some v := by
  have hk : k < cs.length := (List.getElem?_eq_some_iff.1 h).1
  rw [List.getElem?_append_right (by omega), List.getElem?_append_left (by omega)]; rw [← h]; congr 1; omega

theorem flat_ones {α : Type} {f : α → List Value} (h : ∀ x, ones (f x)) (l : List α) : ones (l.flatMap f) := ones.flatMap l fun x _ => h x

/-- Element i of a row. -/
theorem RowAt.elem {α : Type} {f : α → List Value} {wd : Nat} (hw : ∀ x, (f x).length = wd) (hp : 0 < wd) {l : List α} {b o : Nat} {w : World} (h : RowAt (some ⟨b, o, none⟩) (l.flatMap f) w) {i : Nat} {x : α} (hx : l[i]? = some x) : CellsAt b (o + i * wd) (f x) w := by
  have hi : i < l.length := (List.getElem?_eq_some_iff.1 hx).1
  rcases h with h | ⟨b', o', he, h⟩
  · have := flat_length hw l
    rw [h] at this
    have : 0 < l.length * wd := Nat.mul_pos (by omega) hp
    simp at *; omega
  · cases he
    refine ⟨fun j v hv => ?_, fun v hv => ?_⟩
    · rw [Nat.add_assoc]; exact h.1 _ v (flat_at hw l i x hx j v hv)
    · obtain ⟨j, hj, rfl⟩ := List.mem_iff_getElem.1 hv
      exact h.2 _ (List.mem_of_getElem? (flat_at hw l i x hx j _ (List.getElem?_eq_getElem hj)))

theorem RowAt.addr {a : Option Addr} {cs : List Value} {w : World} (h : RowAt a cs w) (hn : 0 < cs.length) : ∃ b o, a = some ⟨b, o, none⟩ := by
  rcases h with rfl | ⟨b, o, he, _⟩
  · simp at hn
  · exact ⟨b, o, he⟩

theorem Knows.elem {α : Type} {f : α → List Value} {wd : Nat} (hw : ∀ x, (f x).length = wd) (hp : 0 < wd) {Γ : List SProp} {l : List α} {b o : Nat} (k : Knows Γ (RowAt (some ⟨b, o, none⟩) (l.flatMap f))) {i : Nat} {x : α} (hx : l[i]? = some x) : Knows Γ (CellsAt b (o + i * wd) (f x)) :=
  k.mono fun _ h => h.elem hw hp hx

theorem Knows.one {Γ : List SProp} {b o : Nat} {cs : List Value} (k : Knows Γ (CellsAt b o cs)) {i : Nat} {v : Value} (h : cs[i]? = some v) : Knows Γ (CellsAt b (o + i) [v]) := k.mono fun _ x => x.one h

theorem Knows.sub {Γ : List SProp} {b o : Nat} {cs : List Value} (k : Knows Γ (CellsAt b o cs)) {i : Nat} {ds : List Value} (h : (cs.drop i).take ds.length = ds) : Knows Γ (CellsAt b (o + i) ds) := k.mono fun _ x => by
  have := x.sub i ds.length
  rwa [h] at this

section
variable {P : Program} {N : Nat} {E : Env} {Γ Γ' : List SProp} {dst : Option Tmp} {ty : TypeId} {pos : String} {after : Array Edge} {guard : Option (Nat × Bool)}

/-! ### Sources of append -/

theorem Knows.srcRow {s t e a m c ys} (k : Knows Γ (RowAt a ys)) (hu : P.underlying t = some (.slice e)) (hl : ys.length = m * s) (hs : 0 < s) : Knows Γ (SrcAt P s t (.slice a m c) m ys) := k.mono fun w h => .row hu hl h fun ha => by
  subst ha
  rcases h with rfl | ⟨_, _, he, _⟩
  · rcases Nat.mul_eq_zero.1 (hl.symm.trans (by simp) : m * s = 0) with h | h <;> omega
  · cases he
theorem Knows.srcBlk {s t e e' m c} {b : Nat} {ys : List Value} (p : Pick (Sp.blk b ys e') Γ Γ') (hu : P.underlying t = some (.slice e)) (hl : ys.length = m * s) (hs : 0 < s) : Knows Γ (SrcAt P s t (.slice (some ⟨b, 0, none⟩) m c) m ys) :=
  .srcRow ((Knows.blk p).mono fun _ h => .inr ⟨b, 0, rfl, h⟩) hu hl hs
theorem Knows.srcStr {t} {s : ByteArray} (hu : P.underlying t = some .string) : Knows Γ (SrcAt P 1 t (.string s) s.size (byteCells s)) := fun _ _ _ => .string hu

/-- append where there is room, in a block that is known whole (what is appended may lie in that very block). -/
theorem Eff.appendRoom {args : Array Operand} {ts : Array TypeId} {x y t tx e s b o} {n m cap : Nat} {l ys : List Value} {src : Value} (ha : args = #[x, y]) (hts : ts = #[t, tx]) (hu : P.underlying t = some (.slice e)) (hi : TS P e s)
    (hx : ev E x = some (.slice (some ⟨b, o, none⟩) n cap)) (hy : ev E y = some src) (p : Pick (blk b l e) Γ Γ') (hsrc : Knows Γ (SrcAt P s tx src m ys)) (hroom : n + m ≤ cap) (hfit : o + n * s + ys.length ≤ l.length) :
    Eff P N E Γ ⟨dst, .call ⟨.builtin .append, args, ts⟩, ty, pos, after, guard⟩ fun u Γ'' => u = .slice (some ⟨b, o, none⟩) (n + m) cap ∧ Γ'' = blk b (splice l (o + n * s) ys) e :: Γ' := by
  subst ha hts
  intro A F w ac nx Z hf hsat hnext
  have hS := hsrc A w hsat.left
  have hsat' : Sat A w (blk b l e :: (Γ' ++ F)) := hsat.map fun _ => (p.app F).sat
  obtain ⟨i, hinf, hsz⟩ := hi
  subst hsz
  obtain ⟨ho, fz, hfz, hh', s3⟩ := hsat'.blk
  have hr := run_append_room_src (P := P) w t tx ty e i hu hinf b o n cap src m ys hS.src hroom
    (fun j hj => by rw [cell_of hh']; simp; omega)
    (fun j hj => by
      simp only [World.frozen?, hh']
      rcases hfz with h | h
      · simp [h]
      · simp; omega)
  have run_eq : (execOp ac.eval ⟨dst, .call ⟨.builtin .append, #[x, y], #[t, tx]⟩, ty, pos, after, guard⟩).run P w = .ok (.value (.slice (some ⟨b, o, none⟩) (n + m) cap)) (w.setCells b (o + n * i.size) ys) := by
    simp [execOp, resolve, invoke, builtin, hf.eval hx, hf.eval hy, hr]
  unfold Oper.wp
  rw [run_eq]
  obtain ⟨a1, a2⟩ := heap_setCells b ys (o + n * i.size) w _ e fz hh' hfit
  refine hnext _ _ _ ⟨rfl, rfl⟩ ?_
  exact Sat.blk_of (s3.update a1 a2 (amb_setCells b ys _ w)) (ones_splice ho hS.src.one _) (by
    rcases hfz with h | h
    · exact .inl h
    · right; rw [length_splice _ _ _ hfit]; exact h)

/-- clear of a slice in a block that is known whole. -/
theorem Eff.clear {args : Array Operand} {ts : Array TypeId} {x t e s by_ z b o} {n cap : Nat} {l : List Value} (ha : args = #[x]) (hts : ts = #[t]) (hu : P.underlying t = some (.slice e)) (hi : TI P e s by_ z) (hz : z.cells.size = s) (hzo : ones z.cells.toList)
    (hx : ev E x = some (.slice (some ⟨b, o, none⟩) n cap)) (p : Pick (blk b l e) Γ Γ') (hfit : o + n * s ≤ l.length) :
    Eff P N E Γ ⟨dst, .call ⟨.builtin .clear, args, ts⟩, ty, pos, after, guard⟩ fun _ Γ'' => Γ'' = blk b (splice l o (Builtin.zeroCells z.cells n).toList) e :: Γ' := by
  subst ha hts
  intro A F w ac nx Z hf hsat hnext
  have hsat' : Sat A w (blk b l e :: (Γ' ++ F)) := hsat.map fun _ => (p.app F).sat
  have hlen : (Builtin.zeroCells z.cells n).toList.length = n * s := by simp [Builtin.zeroCells, hz]
  obtain ⟨w', hr, hs'⟩ := run_store_blk (P := P) (o := o) hsat' (vs := (Builtin.zeroCells z.cells n).toList) (by omega) (zeroCells_ones hzo n)
  unfold Oper.wp
  cases n with
  | zero =>
    have e0 : (Builtin.zeroCells z.cells 0).toList = [] := by simp [Builtin.zeroCells, Array.range_zero']
    simp [execOp, resolve, invoke, builtin, hf.eval hx, Builtin.clear_, underlying, hu, Oper.upon]
    refine hnext _ _ w rfl ?_
    rw [e0]
    simpa [splice] using hsat'
  | succ n =>
    simp [execOp, resolve, invoke, builtin, hf.eval hx, Builtin.clear_, underlying, hu, hi.zero, hr, Oper.upon]
    exact hnext _ _ w' rfl hs'

/-- clear of nothing. -/
theorem Eff.clear0 {args : Array Operand} {ts : Array TypeId} {x t e} {a : Option Addr} {cap : Nat} (ha : args = #[x]) (hts : ts = #[t]) (hu : P.underlying t = some (.slice e))
    (hx : ev E x = some (.slice a 0 cap)) :
    Eff P N E Γ ⟨dst, .call ⟨.builtin .clear, args, ts⟩, ty, pos, after, guard⟩ fun _ Γ'' => Γ'' = Γ := by
  subst ha hts
  intro A F w ac nx Z hf hsat hnext
  unfold Oper.wp
  cases a with
  | none => simp [execOp, resolve, invoke, builtin, hf.eval hx, Builtin.clear_, underlying, hu, Oper.upon]; exact hnext _ _ w rfl hsat
  | some q => simp [execOp, resolve, invoke, builtin, hf.eval hx, Builtin.clear_, underlying, hu, Oper.upon]; exact hnext _ _ w rfl hsat

/-! ### Many at once -/

theorem sat.two {A B : SProp} {h} (s : sat [A, B] h) : sat [B, A] h := s.swap
theorem sat.all_cons {A : SProp} {Γ h} (s : sat [A, sat Γ] h) : sat (A :: Γ) h := by
  obtain ⟨h1, h2, ok, l1, l2, a, h3, h4, ok', m1, m2, b, _⟩ := s
  exact ⟨h1, h3, ok.mono (.refl _) m1, l1, m1.trans l2, a, b⟩
theorem sat.all_uncons {A : SProp} {Γ h} (s : sat (A :: Γ) h) : sat [A, sat Γ] h := by
  obtain ⟨h1, h2, ok, l1, l2, a, b⟩ := s
  exact ⟨h1, h2, ok, l1, l2, a, h2, fun _ => none, fun _ => .inr (.inl rfl), .refl _, fun _ _ e => by simp at e, b, trivial⟩
theorem sat.all_app {Γ Δ : List SProp} {h} (s : sat [sat Γ, sat Δ] h) : sat (Γ ++ Δ) h := by
  obtain ⟨h1, h2, ok, l1, l2, a, h3, h4, ok', m1, m2, b, _⟩ := s
  exact sat.join ok l1 l2 a (b.mono m1)
theorem sat.all_unapp {Γ Δ : List SProp} {h} (s : sat (Γ ++ Δ) h) : sat [sat Γ, sat Δ] h := by
  obtain ⟨h1, h2, ok, l1, l2, a, b⟩ := s.split
  exact ⟨h1, h2, ok, l1, l2, a, h2, fun _ => none, fun _ => .inr (.inl rfl), .refl _, fun _ _ e => by simp at e, b, trivial⟩
theorem sat.all_snoc {A : SProp} {Γ h} (s : sat [A, sat Γ] h) : sat (Γ ++ [A]) h := by
  have := s.two
  obtain ⟨h1, h2, ok, l1, l2, a, h3, h4, ok', m1, m2, b, _⟩ := this
  exact sat.join (Δ := [A]) ok l1 l2 a ⟨h3, fun _ => none, fun _ => .inr (.inl rfl), m1, fun _ _ e => by simp at e, b, trivial⟩
/-- Some of them. -/
theorem sat.filter {α : Type} (f : α → SProp) (p : α → Bool) : ∀ (l : List α) {h}, sat (l.map f) h → sat ((l.filter p).map f) h
  | [], _, _ => trivial
  | x :: l, h, s => by
    obtain ⟨h1, h2, ok, l1, l2, a, b⟩ := s
    have := sat.filter f p l b
    rw [List.filter_cons]
    split
    · exact ⟨h1, h2, ok, l1, l2, a, this⟩
    · exact this.mono l2
/-- One of them by itself. -/
theorem sat.out {α : Type} (f : α → SProp) : ∀ (l : List α) (i : Nat) (x : α), l[i]? = some x → ∀ {h}, sat (l.map f) h → sat [f x, sat ((l.eraseIdx i).map f)] h
  | [], _, _, e => by simp at e
  | y :: l, 0, x, e => fun s => by simp at e; subst e; exact s.all_uncons
  | y :: l, i + 1, x, e => fun s => by
    obtain ⟨h1, h2, ok, l1, l2, a, b⟩ := s
    have b' := sat.out f l i x (by simpa using e) b
    have : sat (f y :: [f x, sat ((l.eraseIdx i).map f)]) _ := ⟨h1, h2, ok, l1, l2, a, b'⟩
    have := this.swap
    exact this.cons fun k t => by
      obtain ⟨k1, k2, ok, m1, m2, a, b⟩ := t.all_cons
      exact ⟨k, fun _ => none, fun _ => .inr (.inl rfl), .refl _, fun _ _ e => by simp at e, ⟨k1, k2, ok, m1, m2, a, b⟩, trivial⟩

theorem Sat.nothing {A w} {Γ : List SProp} (h : Sat A w Γ) : Sat A w (Sp.sat [] :: Γ) := by
  obtain ⟨a, k, f, t⟩ := h
  exact ⟨a, k, f, fun _ => none, k, fun _ => .inl rfl, fun _ _ e => by simp at e, .refl _, trivial, t⟩
theorem Run.nothing {C : Cx} {k Q E} {Γ : List SProp} (n : Run C k E (sat [] :: Γ) Q) : Run C k E Γ Q := fun A F w a hf hs => n A F w a hf hs.nothing

/-- A row of one's own, laid open and shut. -/
theorem arr.blk_of {e s a cap cs h} (hne : 0 < cap) (H : arr e s a cap cs h) : ∃ x : Nat × List Value × List Value, (a = some ⟨x.1, x.2.1.length, none⟩ ∧ cs.length + x.2.2.length = cap * s) ∧ sat [blk x.1 (x.2.1 ++ (cs ++ x.2.2)) e] h := by
  rcases H with ⟨h1, h2⟩ | ⟨b, pre, post, h1, h2, h3⟩
  · omega
  · exact ⟨(b, pre, post), ⟨h1, h2⟩, h, fun _ => none, fun _ => .inr (.inl rfl), .refl _, fun _ _ e => by simp at e, h3, trivial⟩

end
end Go.Sp
