/- A separation logic over the given machine. Part 3: memory: variables, rows of cells, slices; calls. -/
import Derived.Test.YtahpokcigdjilaaL2
import Derived.Deep.AppendSrc
import Derived.Laws.AppendOwn
import Derived.Laws.MakeOwn
import Derived.Laws.CopyOwn
namespace Go.Sp
open Go

/-! ### Rows of cells -/

def ones (l : List Value) : Prop := ∀ v ∈ l, v.oneCell' = true
theorem ones.nil : ones [] := fun _ h => by cases h
theorem ones.cons {v l} (h : v.oneCell' = true) (k : ones l) : ones (v :: l) := fun u hu => by
  rcases List.mem_cons.1 hu with rfl | hu
  · exact h
  · exact k u hu
theorem ones.append {l m} (h : ones l) (k : ones m) : ones (l ++ m) := fun u hu => by
  rcases List.mem_append.1 hu with hu | hu
  · exact h u hu
  · exact k u hu
theorem ones.left {l m} (h : ones (l ++ m)) : ones l := fun u hu => h u (List.mem_append_left _ hu)
theorem ones.right {l m} (h : ones (l ++ m)) : ones m := fun u hu => h u (List.mem_append_right _ hu)
theorem ones.take {l} (h : ones l) (n : Nat) : ones (l.take n) := fun u hu => h u (List.mem_of_mem_take hu)
theorem ones.drop {l} (h : ones l) (n : Nat) : ones (l.drop n) := fun u hu => h u (List.mem_of_mem_drop hu)
theorem ones.of {l : List Value} (h : l.all Value.oneCell' = true) : ones l := fun v hv => List.all_eq_true.1 h v hv
theorem ones.map {α : Type} {f : α → Value} (l : List α) (h : ∀ x, (f x).oneCell' = true) : ones (l.map f) := fun v hv => by
  obtain ⟨x, _, rfl⟩ := List.mem_map.1 hv; exact h x
theorem ones.flatMap {α : Type} {f : α → List Value} (l : List α) (h : ∀ x ∈ l, ones (f x)) : ones (l.flatMap f) := fun v hv => by
  obtain ⟨x, hx, hv'⟩ := List.mem_flatMap.1 hv; exact h x hx v hv'
theorem ones.set {l : List Value} (h : ones l) (i : Nat) {v : Value} (hv : v.oneCell' = true) : ones (l.set i v) := fun u hu => by
  rcases List.mem_or_eq_of_mem_set hu with hu | rfl
  · exact h u hu
  · exact hv

/-- A block of one's own: its cells. -/
def blk (b : Nat) (l : List Value) (e : TypeId) : SProp := fun h => ones l ∧ ∃ fz : Nat × Nat, (fz.1 = fz.2 ∨ l.length ≤ fz.1) ∧ h b = some (false, .cells l.toArray e fz)

theorem Sat.blk {A w b l e Γ} (s : Sat A w (Sp.blk b l e :: Γ)) : ones l ∧ ∃ fz : Nat × Nat, (fz.1 = fz.2 ∨ l.length ≤ fz.1) ∧ w.heap[b]? = some (.cells l.toArray e fz) ∧ Sat A w (Sp.own b (.cells l.toArray e fz) :: Γ) := by
  obtain ⟨a, h, f, h1, h2, ok, l1, l2, ⟨ho, fz, hfz, e⟩, t⟩ := s
  exact ⟨ho, fz, hfz, f b _ (l1 b _ e), a, h, f, h1, h2, ok, l1, l2, e, t⟩

theorem Sat.blk_of {A w b l e Γ} {fz : Nat × Nat} (s : Sat A w (Sp.own b (.cells l.toArray e fz) :: Γ)) (ho : ones l) (hfz : fz.1 = fz.2 ∨ l.length ≤ fz.1) : Sat A w (Sp.blk b l e :: Γ) := by
  obtain ⟨a, h, f, h1, h2, ok, l1, l2, e, t⟩ := s
  exact ⟨a, h, f, h1, h2, ok, l1, l2, ⟨ho, fz, hfz, e⟩, t⟩

theorem cell_of {w : World} {b o : Nat} {l : List Value} {e fz} (h : w.heap[b]? = some (.cells l.toArray e fz)) : w.cell? ⟨b, o, none⟩ = l[o]? := by
  simp [World.cell?, h]

/-- Cells of a block, from a place on. -/
def CellsAt (b o : Nat) (cs : List Value) (w : World) : Prop := (∀ i v, cs[i]? = some v → w.cell? ⟨b, o + i, none⟩ = some v) ∧ ones cs

theorem CellsAt.sub {b o cs w} (h : CellsAt b o cs w) (i n : Nat) : CellsAt b (o + i) ((cs.drop i).take n) w := by
  refine ⟨fun j v hv => ?_, (h.2.drop i).take n⟩
  have h1 : cs[i + j]? = some v := by
    by_cases hj : j < n
    · simpa [List.getElem?_take, hj] using hv
    · simp [List.getElem?_take, hj] at hv
  have := h.1 (i + j) v h1
  rwa [← Nat.add_assoc] at this

theorem CellsAt.one {b o v w} {cs : List Value} (h : CellsAt b o cs w) {i : Nat} (hi : cs[i]? = some v) : CellsAt b (o + i) [v] w :=
  ⟨fun j u hu => by
    cases j with
    | zero => simp at hu; subst hu; exact h.1 i v hi
    | succ j => simp at hu, fun u hu => by simp at hu; subst hu; exact h.2 _ (List.mem_of_getElem? hi)⟩

theorem Knows.blk {Γ Γ' b l e} (p : Pick (Sp.blk b l e) Γ Γ') : Knows Γ (CellsAt b 0 l) := fun _ _ s => by
  obtain ⟨ho, fz, _, hh, _⟩ := (s.map fun _ => p.sat).blk
  exact ⟨fun i v hv => by rw [cell_of hh]; simpa using hv, ho⟩

theorem Knows.blkAt {Γ Γ' b l e} (p : Pick (Sp.blk b l e) Γ Γ') {o : Nat} {cs : List Value} (h : ∀ i v, cs[i]? = some v → l[o + i]? = some v) : Knows Γ (CellsAt b o cs) := fun _ _ s => by
  obtain ⟨ho, fz, _, hh, _⟩ := (s.map fun _ => p.sat).blk
  refine ⟨fun i v hv => by rw [cell_of hh]; exact h i v hv, fun u hu => ?_⟩
  obtain ⟨i, hi, rfl⟩ := List.mem_iff_getElem.1 hu
  exact ho _ (List.mem_of_getElem? (h i _ (List.getElem?_eq_getElem hi)))

theorem Knows.base {Γ Γ' W} (p : Pick (Sp.base W) Γ Γ') {b o cs} (h : CellsAt b o cs W) : Knows Γ (CellsAt b o cs) := fun _ w s => by
  have s' := s.map fun _ => p.sat
  refine ⟨fun i v hv => ?_, h.2⟩
  have h1 := h.1 i v hv
  unfold World.cell? at h1 ⊢
  cases hb : W.heap[b]? with
  | none => simp [hb] at h1
  | some o' => simp only [hb] at h1; simp only [s'.base b o' hb]; exact h1

/-- A row that a slice's address leads to. -/
def RowAt (a : Option Addr) (cs : List Value) (w : World) : Prop := cs = [] ∨ ∃ b o, a = some ⟨b, o, none⟩ ∧ CellsAt b o cs w

theorem RowAt.ones {a cs w} (h : RowAt a cs w) : Sp.ones cs := by
  rcases h with rfl | ⟨_, _, _, h⟩
  · exact .nil
  · exact h.2

section
variable {P : Program} {N : Nat} {E : Env} {Γ Γ' : List SProp} {dst : Option Tmp} {ty : TypeId} {pos : String} {after : Array Edge} {guard : Option (Nat × Bool)}

/-! ### Loads and stores -/

theorem Reads.load {t x v} {b o : Nat} (hn : NotAgg P t) (hx : ev E x = some (.pointer (some ⟨b, o, none⟩))) (hk : Knows Γ (CellsAt b o [v])) :
    Reads P N E Γ ⟨dst, .load t x, ty, pos, after, guard⟩ v := fun A w a hf hs => by
  have h := (hk A w hs).1 0 v rfl
  simp only [Nat.add_zero] at h
  simp [execOp, hf.eval hx, Instr.loadAt, Instr.sureAddr, loadVar, hn.run, h]

theorem Reads.loadN {t x} {b o n : Nat} {cs : List Value} (hn : IsAgg P t) (hs : TS P t n) (hx : ev E x = some (.pointer (some ⟨b, o, none⟩))) (hl : cs.length = n) (hk : Knows Γ (CellsAt b o cs)) :
    Reads P N E Γ ⟨dst, .load t x, ty, pos, after, guard⟩ (.agg cs.toArray) := fun A w a hf hs' => by
  have h := (hk A w hs').1
  have hr := run_loadCells_list (P := P) w ⟨b, o, none⟩ cs (fun j v hv => by rw [Addr_add]; exact h j v hv)
  subst hl
  simp [execOp, hf.eval hx, Instr.loadAt, Instr.sureAddr, loadVar, hn.run, hs.run, hr]

/-- From a block of one's own that is written out. -/
theorem Reads.ld {t x v} {b o : Nat} {l : List Value} {e : TypeId} (hn : NotAgg P t) (hx : ev E x = some (.pointer (some ⟨b, o, none⟩))) (p : Pick (blk b l e) Γ Γ') (hv : l[o]? = some v) :
    Reads P N E Γ ⟨dst, .load t x, ty, pos, after, guard⟩ v :=
  .load hn hx (.blkAt p fun i u hu => by
    cases i with
    | zero => simp at hu; subst hu; exact hv
    | succ i => simp at hu)
theorem Reads.ldN {t x} {b n : Nat} {l : List Value} {e : TypeId} (hn : IsAgg P t) (hs : TS P t n) (hx : ev E x = some (.pointer (some ⟨b, 0, none⟩))) (p : Pick (blk b l e) Γ Γ') (hl : l.length = n) :
    Reads P N E Γ ⟨dst, .load t x, ty, pos, after, guard⟩ (.agg l.toArray) := .loadN hn hs hx hl (.blk p)

theorem heap_setCell_same' (w : World) (b i : Nat) (cs : Array Value) (t : TypeId) (fz : Nat × Nat) (v : Value) (hg : w.heap[b]? = some (.cells cs t fz)) :
    (w.setCell ⟨b, i, none⟩ v).heap[b]? = some (.cells (cs.setIfInBounds i v) t fz) := by
  simp [World.setCell, Array.getElem?_modify, hg]

theorem splice_step (l : List Value) (o : Nat) (v : Value) (r : List Value) (h : o < l.length) : splice (l.set o v) (o + 1) r = splice l o (v :: r) := by
  obtain ⟨A, x, B, rfl, rfl⟩ : ∃ A x B, l = A ++ x :: B ∧ A.length = o := ⟨l.take o, l[o], l.drop (o + 1), by simp, by simp; omega⟩
  have e1 : (A ++ x :: B).set A.length v = A ++ v :: B := by simp
  rw [e1]
  unfold splice
  have e2 : ∀ y : Value, List.drop (A.length + 1 + r.length) (A ++ y :: B) = B.drop r.length := fun y => by
    rw [List.drop_append, List.drop_eq_nil_of_le (by omega), show A.length + 1 + r.length - A.length = r.length + 1 from by omega]; simp
  have e3 : List.take (A.length + 1) (A ++ v :: B) = A ++ [v] := by
    rw [List.take_append, List.take_of_length_le (by omega), show A.length + 1 - A.length = 1 from by omega]; simp
  have e4 : List.take A.length (A ++ x :: B) = A := by simp
  have e5 : A.length + (v :: r).length = A.length + 1 + r.length := by simp; omega
  rw [e2, e3, e4, e5, e2]; simp

theorem heap_setCells (b : Nat) : ∀ (vs : List Value) (o : Nat) (w : World) (l : List Value) (t : TypeId) (fz : Nat × Nat), w.heap[b]? = some (.cells l.toArray t fz) → o + vs.length ≤ l.length →
    (w.setCells b o vs).heap[b]? = some (.cells (splice l o vs).toArray t fz) ∧ ∀ k, k ≠ b → (w.setCells b o vs).heap[k]? = w.heap[k]?
  | [], o, w, l, t, fz, h, _ => ⟨by simpa [World.setCells, splice] using h, fun _ _ => rfl⟩
  | v :: r, o, w, l, t, fz, h, hl => by
    simp only [List.length_cons] at hl
    have h1 : (w.setCell ⟨b, o, none⟩ v).heap[b]? = some (.cells (l.set o v).toArray t fz) := by
      rw [heap_setCell_same' w b o l.toArray t fz v h]; simp
    obtain ⟨a1, a2⟩ := heap_setCells b r (o + 1) _ (l.set o v) t fz h1 (by simp; omega)
    refine ⟨?_, fun k hk => (a2 k hk).trans (heap_setCell_other w ⟨b, o, none⟩ k v hk)⟩
    simp only [World.setCells, a1]
    congr 3
    exact splice_step l o v r (by omega)

theorem amb_setCells (b : Nat) : ∀ (vs : List Value) (o : Nat) (w : World), amb (w.setCells b o vs) = amb w
  | [], _, _ => rfl
  | _ :: r, o, _ => (amb_setCells b r (o + 1) _).trans rfl

theorem ones_splice {l vs : List Value} (h : ones l) (k : ones vs) (o : Nat) : ones (splice l o vs) := (h.take o).append (k.append (h.drop _))

theorem splice_one {l : List Value} {o : Nat} {v : Value} (h : o < l.length) : splice l o [v] = l.set o v := by
  unfold splice
  rw [List.set_eq_take_append_cons_drop]; simp [h]

/-- Cells of a block of one's own are written. -/
theorem run_store_blk {A w b l e F} {vs : List Value} {o : Nat} (s : Sat A w (blk b l e :: F)) (hl : o + vs.length ≤ l.length) (hv : ones vs) :
    ∃ w', (storeCells ⟨b, o, none⟩ vs).run P w = .ok () w' ∧ Sat A w' (blk b (splice l o vs) e :: F) := by
  obtain ⟨ho, fz, hfz, hh, s'⟩ := s.blk
  have hr := run_storeCells_cells (P := P) b o vs 0 w (fun j hj => by rw [cell_of hh]; simp; omega)
    (fun j hj => by
      simp only [World.frozen?, hh]
      rcases hfz with h | h
      · simp [h]
      · simp; omega) hv
  simp only [Nat.add_zero] at hr
  obtain ⟨a1, a2⟩ := heap_setCells b vs o w l e fz hh hl
  refine ⟨_, hr, ?_⟩
  refine Sat.blk_of (s'.update a1 a2 (amb_setCells b vs o w)) (ones_splice ho hv o) ?_
  rcases hfz with h | h
  · exact .inl h
  · right; rw [length_splice _ _ _ hl]; exact h

theorem Eff.storeN {t x y v} {b o : Nat} {l vs : List Value} {e : TypeId} (hs : TS P t vs.length) (hx : ev E x = some (.pointer (some ⟨b, o, none⟩))) (hy : ev E y = some v) (hc : v.cells.toList = vs) (p : Pick (blk b l e) Γ Γ')
    (hl : o + vs.length ≤ l.length) (hv : ones vs) : Eff P N E Γ ⟨dst, .store t x y, ty, pos, after, guard⟩ fun _ Γ'' => Γ'' = blk b (splice l o vs) e :: Γ' := by
  intro A F w a nx Z hf hsat hn
  have hsat' : Sat A w (blk b l e :: (Γ' ++ F)) := hsat.map fun _ => (p.app F).sat
  obtain ⟨w', hr, hs'⟩ := run_store_blk (P := P) hsat' hl hv
  have hsz : v.cells.size = vs.length := by rw [← hc]; simp
  unfold Oper.wp
  simp [execOp, hf.eval hx, hf.eval hy, Instr.storeAt, Instr.sureAddr, storeVar, hs.run, hsz, hc, hr]
  exact hn _ _ w' rfl hs'

theorem cells_one {v : Value} (h : v.oneCell' = true) : v.cells.toList = [v] := by cases v <;> first | rfl | simp [Value.oneCell'] at h

theorem Eff.store {t x y v} {b o : Nat} {l : List Value} {e : TypeId} (hs : TS P t 1) (hx : ev E x = some (.pointer (some ⟨b, o, none⟩))) (hy : ev E y = some v) (p : Pick (blk b l e) Γ Γ')
    (hv : v.oneCell' = true) (hl : o < l.length) : Eff P N E Γ ⟨dst, .store t x y, ty, pos, after, guard⟩ fun _ Γ'' => Γ'' = blk b (l.set o v) e :: Γ' := by
  have := Eff.storeN (N := N) (Γ := Γ) (dst := dst) (ty := ty) (pos := pos) (after := after) (guard := guard) (vs := [v]) hs hx hy (cells_one hv) p (by simp; omega) (.cons hv .nil)
  rwa [splice_one hl] at this

/-- The whole of a variable is written. -/
theorem Eff.storeAll {t x y v} {b n : Nat} {l vs : List Value} {e : TypeId} (hs : TS P t n) (hx : ev E x = some (.pointer (some ⟨b, 0, none⟩))) (hy : ev E y = some v) (hc : v.cells.toList = vs) (p : Pick (blk b l e) Γ Γ')
    (hl : (vs.length, l.length) = (n, n)) (hv : ones vs) : Eff P N E Γ ⟨dst, .store t x y, ty, pos, after, guard⟩ fun _ Γ'' => Γ'' = blk b vs e :: Γ' := by
  simp only [Prod.mk.injEq] at hl
  obtain ⟨h1, h2⟩ := hl
  have := Eff.storeN (N := N) (Γ := Γ) (dst := dst) (ty := ty) (pos := pos) (after := after) (guard := guard) (vs := vs) (by rw [h1]; exact hs) hx hy hc p (by omega) hv
  have e1 : splice l 0 vs = vs := by simp [splice]; omega
  rwa [e1] at this

theorem Eff.newvar {op} {v : Value} {l : List Value} {e : TypeId} (hop : ∀ a, Fr N E a → ∀ w, (execOp a.eval ⟨dst, op, ty, pos, after, guard⟩).run P w = ((newVar e v).run P w).andThen fun ad w' => .ok (.value (.pointer (some ad))) w')
    (hc : v.cells.toList = l) (hl : ones l) : Eff P N E Γ ⟨dst, op, ty, pos, after, guard⟩ fun u Γ'' => ∃ b, u = .pointer (some ⟨b, 0, none⟩) ∧ Γ'' = blk b l e :: Γ := by
  intro A F w a nx Z hf hsat hn
  unfold Oper.wp
  rw [hop a hf]
  have hc' : v.cells = l.toArray := by rw [← hc]
  simp [newVar, newRow, Oper.upon, hc']
  refine hn _ _ _ ⟨w.heap.size, rfl, rfl⟩ ?_
  exact Sat.blk_of (fz := (0, 0)) (hsat.alloc _) hl (.inl rfl)

theorem Eff.alloc {e s b z} {l : List Value} (hi : TI P e s b z) (hc : z.cells.toList = l) (hl : ones l) : Eff P N E Γ ⟨dst, .alloc e, ty, pos, after, guard⟩ fun u Γ'' => ∃ b, u = .pointer (some ⟨b, 0, none⟩) ∧ Γ'' = blk b l e :: Γ :=
  .newvar (v := z) (fun a _ w => by simp [execOp, Instr.alloc, hi.zero]) hc hl

theorem Eff.box {e x v} {l : List Value} (hx : ev E x = some v) (hc : v.cells.toList = l) (hl : ones l) : Eff P N E Γ ⟨dst, .box e x, ty, pos, after, guard⟩ fun u Γ'' => ∃ b, u = .pointer (some ⟨b, 0, none⟩) ∧ Γ'' = blk b l e :: Γ :=
  .newvar (v := v) (fun a hf w => by simp [execOp, Instr.box, hf.eval hx]) hc hl

/-- A struct or array written out (the equation by the kernel). -/
theorem Reads.build {t v} {parts : Array (Nat × Operand)} {vs : List Value} (hp : evs E (parts.toList.map (·.2)) = some vs)
    (h : ∀ w, (Instr.build t (((parts.toList.map (·.1)).zip vs).toArray)).run P w = .ok v w) : Reads P N E Γ ⟨dst, .build t parts, ty, pos, after, guard⟩ v := fun _ w a hf _ => by
  have e1 := hf.evals hp
  have e2 : (parts.map fun (i, x) => (i, a.eval x)) = ((parts.toList.map (·.1)).zip vs).toArray := by
    apply Array.ext'
    rw [← e1]
    simp only [Array.toList_map]
    generalize parts.toList = ps
    induction ps with
    | nil => rfl
    | cons p ps ih => simp only [List.map_cons, List.zip_cons_cons, ih]
  simp only [execOp]
  rw [e2]
  simp [h]

/-! ### Slices -/

/-- A slice's row, one's own: from its first element on the cells cs; what lies before and behind (up to the capacity) is one's own too. -/
def arr (e s : Nat) (a : Option Addr) (cap : Nat) (cs : List Value) : SProp := fun h =>
  (cap = 0 ∧ cs = []) ∨ ∃ b pre post, a = some ⟨b, pre.length, none⟩ ∧ cs.length + post.length = cap * s ∧ blk b (pre ++ (cs ++ post)) e h

theorem Sat.arr_none {A w e s Γ} {a : Option Addr} (h : Sat A w Γ) : Sat A w (Sp.arr e s a 0 [] :: Γ) := by
  obtain ⟨am, k, f, t⟩ := h
  exact ⟨am, k, f, fun _ => none, k, fun _ => .inl rfl, fun _ _ e => by simp at e, .refl _, .inl ⟨rfl, rfl⟩, t⟩

theorem RunO.nilArr {ops os K} (e s : Nat) (a : Option Addr) (n : RunO P N ops os E (arr e s a 0 [] :: Γ) K) : RunO P N ops os E Γ K := fun A F w a Z hf hs hz => n A F w a Z hf hs.arr_none hz
theorem Run.nilArr {C : Cx} {k Q} (e s : Nat) (a : Option Addr) (n : Run C k E (arr e s a 0 [] :: Γ) Q) : Run C k E Γ Q := fun A F w a hf hs => n A F w a hf hs.arr_none

theorem sat.arr_open {e s b o cap cs h} (hne : 0 < cap ∨ 0 < cs.length) (H : arr e s (some ⟨b, o, none⟩) cap cs h) : ∃ x : List Value × List Value, (x.1.length = o ∧ cs.length + x.2.length = cap * s) ∧ sat [blk b (x.1 ++ (cs ++ x.2)) e] h := by
  rcases H with ⟨h1, h2⟩ | ⟨b', pre, post, h1, h2, h3⟩
  · subst h1 h2; simp at hne
  · cases h1
    exact ⟨(pre, post), ⟨rfl, h2⟩, h, fun _ => none, fun _ => .inr (.inl rfl), .refl _, fun _ _ e => by simp at e, h3, trivial⟩

theorem blk_mono {b l e} {h k : Hp} (hl : Hp.le h k) : blk b l e h → blk b l e k := fun ⟨a, fz, c, d⟩ => ⟨a, fz, c, hl b _ d⟩

theorem sat.arr_close {e s b cap} {pre cs post : List Value} {h} (h2 : cs.length + post.length = cap * s) (H : sat [blk b (pre ++ (cs ++ post)) e] h) : arr e s (some ⟨b, pre.length, none⟩) cap cs h := by
  obtain ⟨h1, _, _, l, _, H', _⟩ := H
  exact .inr ⟨b, pre, post, rfl, h2, blk_mono l H'⟩

theorem Sat.arr_row {A w e s a cap cs Γ} (H : Sat A w (arr e s a cap cs :: Γ)) : RowAt a cs w := by
  obtain ⟨am, h, f, h1, h2, ok, l1, l2, H', t⟩ := H
  rcases H' with ⟨_, h3⟩ | ⟨b, pre, post, e1, e2, e3⟩
  · exact .inl h3
  · obtain ⟨ho, fz, hfz, e4⟩ := e3
    refine .inr ⟨b, pre.length, e1, fun i v hv => ?_, ho.right.left⟩
    have hh := f b _ (l1 b _ e4)
    rw [cell_of hh]
    have hi : i < cs.length := (List.getElem?_eq_some_iff.1 hv).1
    rw [List.getElem?_append_right (by omega), List.getElem?_append_left (by omega)]
    simpa using hv

theorem Knows.arr {e s a cap cs} (p : Pick (Sp.arr e s a cap cs) Γ Γ') : Knows Γ (RowAt a cs) := fun _ _ h => (h.map fun _ => p.sat).arr_row

theorem Sat.arr_len {A w e s a cap cs Γ} (H : Sat A w (arr e s a cap cs :: Γ)) : cs.length ≤ cap * s ∧ ones cs := by
  obtain ⟨am, h, f, h1, h2, ok, l1, l2, H', t⟩ := H
  rcases H' with ⟨h4, h3⟩ | ⟨b, pre, post, e1, e2, e3⟩
  · subst h3; exact ⟨by simp, .nil⟩
  · exact ⟨by omega, e3.1.right.left⟩

/-- A row seen as its first part (what follows becomes spare). -/
theorem arr.shrink {e s a cap cs ds h} (H : arr e s a cap (cs ++ ds) h) : arr e s a cap cs h := by
  rcases H with ⟨h2, h3⟩ | ⟨b, pre, post, e1, e2, e3⟩
  · exact .inl ⟨h2, (List.append_eq_nil_iff.1 h3).1⟩
  · exact .inr ⟨b, pre, ds ++ post, e1, by simp at e2 ⊢; omega, by simpa [List.append_assoc] using e3⟩

/-- What 'append' may take from a value. -/
structure SrcAt (P : Program) (s : Nat) (t : TypeId) (v : Value) (m : Nat) (ys : List Value) (w : World) : Prop where
  src : Src P s t v m ys w
  src' : Src P s t v m ys w.drew

theorem SrcAt.row {s t e' a m c ys} {w : World} (hu : P.underlying t = some (.slice e')) (hl : ys.length = m * s) (h : RowAt a ys w) (hm : a = none → m = 0) : SrcAt P s t (.slice a m c) m ys w := by
  rcases h with rfl | ⟨b, o, rfl, h⟩
  · have hz : ∀ w : World, (Builtin.firstCells s m (.slice a m c)).run P w = .ok #[] w := fun w => by
      cases a with
      | none => exact run_firstCells_none w s m m c
      | some p =>
        have := run_firstCells_some (P := P) w s m p m c [] hl (by simp)
        exact this
    have one : ∀ w, Src P s t (.slice a m c) m [] w := fun w => ⟨.inl ⟨e', hu⟩, fun _ => rfl, hz w, hz w.drew, hl, fun _ h => by cases h⟩
    exact ⟨one w, one w.drew⟩
  · have one : ∀ w', (∀ x, w'.cell? x = w.cell? x) → Src P s t (.slice (some ⟨b, o, none⟩) m c) m ys w' := fun w' hw =>
      Src.ofSlice w' hu ⟨b, o, none⟩ m c ys hl (fun j u hj => by rw [Addr_add, hw]; exact h.1 j u hj) h.2
    exact ⟨one w fun _ => rfl, one w.drew fun x => World.cell?_drew w x⟩

theorem SrcAt.string {t} {s : ByteArray} {w : World} (hu : P.underlying t = some .string) : SrcAt P 1 t (.string s) s.size (byteCells s) w := ⟨Src.ofString w hu s, Src.ofString w.drew hu s⟩

theorem heap_drew' (w : World) : w.drew.heap = w.heap := rfl
theorem amb_drew (w : World) : amb w.drew = amb w := rfl
theorem Sat.drew {A w Γ} (s : Sat A w Γ) : Sat A w.drew Γ := s.same rfl rfl

theorem zeroCells_ones {z : Array Value} (h : ones z.toList) (n : Nat) : ones (Builtin.zeroCells z n).toList := by
  intro v hv
  simp only [Builtin.zeroCells, Array.toList_map, List.mem_map] at hv
  obtain ⟨i, hi, rfl⟩ := hv
  by_cases hz : z.size = 0
  · simp [hz] at hi
  · have hlt : i % z.size < z.size := Nat.mod_lt _ (by omega)
    rw [getElem!_pos z _ hlt]
    exact h _ (by simp)

/-- 'append' onto a row of one's own. -/
theorem Eff.append {args : Array Operand} {ts : Array TypeId} {x y t tx e s by_ z} {a : Option Addr} {n m cap : Nat} {cs ys : List Value} {src : Value} (ha : args = #[x, y]) (hts : ts = #[t, tx]) (hu : P.underlying t = some (.slice e)) (hi : TI P e s by_ z)
    (hz : z.cells.size = s) (hzo : ones z.cells.toList) (hs0 : 0 < s) (hb0 : 0 < by_) (hx : ev E x = some (.slice a n cap)) (hy : ev E y = some src) (p : Pick (arr e s a cap cs) Γ Γ') (hn : cs.length = n * s) (hsrc : Knows Γ (SrcAt P s tx src m ys))
    (hbound : (n + m) * by_ ≤ 140737488355328) :
    Eff P N E Γ ⟨dst, .call ⟨.builtin .append, args, ts⟩, ty, pos, after, guard⟩ fun u Γ'' => ∃ a' cap', u = .slice a' (n + m) cap' ∧ (a' = none → n + m = 0) ∧ Γ'' = arr e s a' cap' (cs ++ ys) :: Γ' := by
  subst ha hts
  intro A F w ac nx Z hf hsat hnext
  have hS := hsrc A w hsat.left
  have hsat' : Sat A w (arr e s a cap cs :: (Γ' ++ F)) := hsat.map fun _ => (p.app F).sat
  obtain ⟨i, hinf, hsz, hby, hzv⟩ := hi
  subst hsz hby
  have hyl := hS.src.newsLen
  have run_eq : ∀ v' w', (Builtin.append_ #[t, tx] ty #[.slice a n cap, src]).run P w = .ok v' w' → (execOp ac.eval ⟨dst, .call ⟨.builtin .append, #[x, y], #[t, tx]⟩, ty, pos, after, guard⟩).run P w = .ok (.value v') w' := fun v' w' h => by
    simp [execOp, resolve, invoke, builtin, hf.eval hx, hf.eval hy, h]
  have h63 : (((n + m : Nat) : Int)) ≤ 9223372036854775807 := by
    have : n + m ≤ (n + m) * i.bytes := Nat.le_mul_of_pos_right _ hb0
    omega
  unfold Oper.wp
  by_cases hroom : n + m ≤ cap
  · -- there is room
    obtain ⟨am, h, f, h1, h2, ok, l1, l2, H', tt⟩ := id hsat'
    rcases H' with ⟨e2, e3⟩ | ⟨b, pre, post, e1, e2, e3⟩
    · subst e2 e3
      have hn0 : n = 0 := by omega
      have hm0 : m = 0 := by omega
      subst hn0 hm0
      have hy0 : ys = [] := List.eq_nil_of_length_eq_zero (by rw [hyl]; simp)
      subst hy0
      have hr : (Builtin.append_ #[t, tx] ty #[.slice a 0 0, src]).run P w = .ok (.slice a 0 0) w := by
        have h3 := hS.src.cells
        cases a with
        | none => rcases hS.src.kind with ⟨e', hk⟩ | hk <;> simp [Builtin.append_, run_underlying hu, run_underlying hk, sizeOf, typeInfo, hinf, hS.src.len, h3]
        | some q => rcases hS.src.kind with ⟨e', hk⟩ | hk <;> simp [Builtin.append_, run_underlying hu, run_underlying hk, sizeOf, typeInfo, hinf, hS.src.len, h3, storeCells]
      rw [run_eq _ _ hr]
      exact hnext _ _ w ⟨a, 0, rfl, fun _ => rfl, rfl⟩ (by simpa using hsat')
    · subst e1
      have hh := f b _ (l1 b _ e3.2.choose_spec.2)
      have s2 : Sat A w (blk b (pre ++ (cs ++ post)) e :: (Γ' ++ F)) := ⟨am, h, f, h1, h2, ok, l1, l2, e3, tt⟩
      have hlen : (pre.length + n * i.size) + ys.length ≤ (pre ++ (cs ++ post)).length := by
        have : (n + m) * i.size ≤ cap * i.size := Nat.mul_le_mul_right _ hroom
        rw [Nat.add_mul] at this
        simp; omega
      obtain ⟨ho, fz, hfz, hh', s3⟩ := s2.blk
      have hr := run_append_room_src (P := P) w t tx ty e i hu hinf b pre.length n cap src m ys hS.src hroom
        (fun j hj => by rw [cell_of hh']; simp at hlen ⊢; omega)
        (fun j hj => by
          simp only [World.frozen?, hh']
          rcases hfz with h | h
          · simp [h]
          · simp at h hlen ⊢; omega)
      rw [run_eq _ _ hr]
      obtain ⟨a1, a2⟩ := heap_setCells b ys (pre.length + n * i.size) w _ e fz hh' hlen
      have s4 := Sat.blk_of (s3.update a1 a2 (amb_setCells b ys _ w)) (ones_splice ho hS.src.one _) (by
        rcases hfz with h | h
        · exact .inl h
        · right; rw [length_splice _ _ _ hlen]; exact h)
      refine hnext _ _ _ ⟨_, cap, rfl, fun h => (by cases h), rfl⟩ ?_
      refine Sat.close (B := [blk b (pre ++ ((cs ++ ys) ++ post.drop ys.length)) e]) (fun h' H => ?_) ?_
      · exact sat.arr_close (by simp at hlen ⊢; omega) H
      · have : splice (pre ++ (cs ++ post)) (pre.length + n * i.size) ys = pre ++ ((cs ++ ys) ++ post.drop ys.length) := by
          unfold splice
          rw [← hn, ← List.append_assoc pre cs post, ← List.length_append, List.take_left, List.drop_append, List.drop_eq_nil_of_le (by omega)]
          have : (pre ++ cs).length + ys.length - (pre ++ cs).length = ys.length := by omega
          simp only [this, List.nil_append, List.append_assoc]
        rw [this] at s4
        exact s4
  · -- a new row
    have hg : cap < n + m := by omega
    have hold : (Builtin.firstCells i.size n (.slice a n cap)).run P w.drew = .ok cs.toArray w.drew := by
      rcases hsat'.arr_row with h0 | ⟨b, o, h0, h3⟩
      · subst h0
        have hn0 : n = 0 := by
          rcases Nat.mul_eq_zero.1 (hn.symm.trans (by simp) : n * i.size = 0) with h | h <;> omega
        subst hn0
        cases a with
        | none => exact run_firstCells_none w.drew i.size 0 0 cap
        | some q => exact run_firstCells_some (P := P) w.drew i.size 0 q 0 cap [] (by simp) (by simp)
      · subst h0
        exact run_firstCells_some (P := P) w.drew i.size n ⟨b, o, none⟩ n cap cs hn (fun j v hv => by rw [Addr_add, World.cell?_drew]; exact h3.1 j v hv)
    have hr := run_append_grow_src (P := P) w t tx ty e i z hu hinf hzv a n cap cs hold src m ys hS.src hg h63 (growslice_fits hg hbound)
    have e5 : ((cs ++ ys).toArray ++ Builtin.zeroCells z.cells (grownCap w (n + m) cap e - (n + m))) = ((cs ++ ys) ++ (Builtin.zeroCells z.cells (grownCap w (n + m) cap e - (n + m))).toList).toArray := by
      apply Array.ext'; simp
    rw [e5] at hr
    rw [run_eq _ _ hr]
    refine hnext _ _ _ ⟨_, _, rfl, fun h => (by cases h), rfl⟩ ?_
    have hge := grownCap_ge w (n + m) cap e
    have hcs := hsat'.arr_len.2
    have s4 := Sat.blk_of (fz := (0, 0)) ((hsat'.drop.drew (w := w)).alloc (.cells ((cs ++ ys) ++ (Builtin.zeroCells z.cells (grownCap w (n + m) cap e - (n + m))).toList).toArray e)) ((hcs.append hS.src.one).append (zeroCells_ones hzo _)) (.inl rfl)
    show Sat A _ (_ :: (Γ' ++ F))
    refine Sat.close (Γ := Γ' ++ F) (B := [blk w.heap.size ([] ++ ((cs ++ ys) ++ (Builtin.zeroCells z.cells (grownCap w (n + m) cap e - (n + m))).toList)) e]) (fun h' H => ?_) (by rw [List.nil_append]; exact s4)
    refine sat.arr_close (pre := []) ?_ H
    simp [size_zeroCells, hz, hn, hyl]
    rw [← Nat.add_mul, ← Nat.add_mul]; congr 1; omega

end
end Go.Sp
