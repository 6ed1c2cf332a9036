/- A separation logic over the given machine. Part 4: calls; more on slices. -/
import Derived.Test.YtahpokcigdjilaaL3
namespace Go.Sp
open Go

section
variable {P : Program} {N : Nat} {E : Env} {Γ Γ' : List SProp} {dst : Option Tmp} {ty : TypeId} {pos : String} {after : Array Edge} {guard : Option (Nat × Bool)}

/-! ### Calls -/

theorem Eff.call {fo : Operand} {args : Array Operand} {ts : Array TypeId} {f : FuncId} {first cap : Array Value} {vs : List Value} {Γf : List SProp} {Q : Value → List SProp → Prop} (hfo : ev E fo = some (.func (.func f) first cap))
    (ha : evs E args.toList = some vs) (p : Picks Γf Γ Γ') (h : Ret P f (first.toList ++ (vs ++ cap.toList)) Γf Q) :
    Eff P N E Γ ⟨dst, .call ⟨.value fo, args, ts⟩, ty, pos, after, guard⟩ fun v Γ'' => ∃ Γ1, Q v Γ1 ∧ Γ'' = Γ1 ++ Γ' := by
  intro A F w a nx Z hf hsat hn
  obtain ⟨⟨fn, hfn, hname, hbody⟩, hruns⟩ := h
  have e1 : args.map a.eval = vs.toArray := by
    have := congrArg List.toArray (hf.evals ha)
    rw [← this, ← Array.toList_map]
  have hargs : (first.toList ++ (vs ++ cap.toList)).toArray = first ++ vs.toArray ++ cap := by apply Array.ext'; simp
  have hrun : (execOp a.eval ⟨dst, .call ⟨.value fo, args, ts⟩, ty, pos, after, guard⟩).run P w = .ok (.enter f (first ++ vs.toArray ++ cap)) w := by
    have hname' : fn.name ≠ "runtime.NumGoroutine" := by simpa using hname
    have hbody' : fn.body ≠ none := by intro h; simp [h] at hbody
    simp [execOp, resolve, hf.eval hfo, Deferred.ofValue, invoke, callFunc, hfn, hname', hbody', e1]
  unfold Oper.wp
  rw [hrun, Oper.upon_enter]
  have hsat' : Sat A w (Γf ++ (Γ' ++ F)) := hsat.swap_in p
  have := hruns A (Γ' ++ F) w hsat'
  rw [hargs] at this
  refine this.mono ?_
  rintro e w' ⟨v, Γ1, rfl, hq, hs⟩
  exact hn v (Γ1 ++ Γ') w' ⟨Γ1, hq, rfl⟩ (by rwa [List.append_assoc])

variable {ops : Array Oper} {rest os : List Oper} {K : Env → List SProp → Prop}

theorem RunO.call {d} {fo : Operand} {args : Array Operand} {ts : Array TypeId} {f : FuncId} {vs : List Value} {Γf : List SProp} {Q : Value → List SProp → Prop} (hfo : ev E fo = some (.func (.func f) #[] #[]))
    (ha : evs E args.toList = some vs) (p : Picks Γf Γ Γ') (h : Ret P f vs Γf Q) (next : ∀ v Γ1, Q v Γ1 → RunO P N ops rest ((d, v) :: E) (Γ1 ++ Γ') K)
    (hd : Nat.blt d N = true := by rfl) : RunO P N ops (⟨some d, .call ⟨.value fo, args, ts⟩, ty, pos, after, none⟩ :: rest) E Γ K := by
  refine RunO.ef (Eff.call hfo ha p (by simpa using h)) ?_ hd
  rintro v _ ⟨Γ1, hq, rfl⟩
  exact next v Γ1 hq

/-- With all that there is handed on. -/
theorem RunO.callW {d} {fo : Operand} {args : Array Operand} {ts : Array TypeId} {f : FuncId} {vs : List Value} {Q : Value → List SProp → Prop} (hfo : ev E fo = some (.func (.func f) #[] #[]))
    (ha : evs E args.toList = some vs) (h : Ret P f vs Γ Q) (next : ∀ v Γ1, Q v Γ1 → RunO P N ops rest ((d, v) :: E) Γ1 K)
    (hd : Nat.blt d N = true := by rfl) : RunO P N ops (⟨some d, .call ⟨.value fo, args, ts⟩, ty, pos, after, none⟩ :: rest) E Γ K := by
  refine RunO.call hfo ha (Picks.self Γ) h ?_ hd
  intro v Γ1 hq
  rw [List.append_nil]
  exact next v Γ1 hq

/-! ### Slices: cut, made, copied, written out -/

/-- x[lo:hi:max]. -/
theorem Reads.slice {t x e s} {a : Option Addr} {n c l h m : Nat} {lo hi mx : Option Operand} (hu : P.underlying t = some (.slice e)) (hs : TS P e s) (hx : ev E x = some (.slice a n c))
    (hmx : match mx with | none => m = c | some o => ∃ k, ev E o = some (.int k (m : Int))) (hhi : match hi with | none => h = n ∧ mx = none | some o => ∃ k, ev E o = some (.int k (h : Int))) (hlo : match lo with | none => l = 0 | some o => ∃ k, ev E o = some (.int k (l : Int)))
    (h1 : l ≤ h) (h2 : h ≤ m) (h3 : m ≤ c) :
    Reads P N E Γ ⟨dst, .slice t x lo hi mx, ty, pos, after, guard⟩ (.slice (if m = l then a else a.map (·.add (l * s))) (h - l) (m - l)) := fun _ w ac hf _ => by
  have b1 : 0 ≤ (m : Int) := by omega
  have b2 : 0 ≤ (h : Int) := by omega
  have b3 : 0 ≤ (l : Int) := by omega
  cases mx with
  | none =>
    simp only at hmx; subst hmx
    cases hi with
    | none =>
      obtain ⟨hh, _⟩ := hhi; subst hh
      cases lo with
      | none => simp only at hlo; subst hlo; simp [execOp, Instr.sliceAt, Instr.slice, Instr.sliceBounds, hf.eval hx, underlying, hu, hs.run]
      | some o =>
        obtain ⟨k, ho⟩ := hlo
        simp [execOp, Instr.sliceAt, Instr.slice, Instr.sliceBounds, Instr.sliceBound, asIntOf, hf.eval hx, hf.eval ho, underlying, hu, hs.run, h1]
    | some o2 =>
      obtain ⟨k2, ho2⟩ := hhi
      cases lo with
      | none => simp only at hlo; subst hlo; simp [execOp, Instr.sliceAt, Instr.slice, Instr.sliceBounds, Instr.sliceBound, asIntOf, hf.eval hx, hf.eval ho2, underlying, hu, hs.run, h2]
      | some o =>
        obtain ⟨k, ho⟩ := hlo
        simp [execOp, Instr.sliceAt, Instr.slice, Instr.sliceBounds, Instr.sliceBound, asIntOf, hf.eval hx, hf.eval ho, hf.eval ho2, underlying, hu, hs.run, h1, h2]
  | some o3 =>
    obtain ⟨k3, ho3⟩ := hmx
    cases hi with
    | none => exact absurd hhi.2 (by simp)
    | some o2 =>
      obtain ⟨k2, ho2⟩ := hhi
      cases lo with
      | none => simp only at hlo; subst hlo; simp [execOp, Instr.sliceAt, Instr.slice, Instr.sliceBounds, Instr.sliceBound, asIntOf, hf.eval hx, hf.eval ho2, hf.eval ho3, underlying, hu, hs.run, h2, h3]
      | some o =>
        obtain ⟨k, ho⟩ := hlo
        simp [execOp, Instr.sliceAt, Instr.slice, Instr.sliceBounds, Instr.sliceBound, asIntOf, hf.eval hx, hf.eval ho, hf.eval ho2, hf.eval ho3, underlying, hu, hs.run, h1, h2, h3]

theorem madeCells_ones {z : Array Value} (h : ones z.toList) (hz : 0 < z.size) (n : Nat) : ones (madeCells z n).toList := by
  intro v hv
  simp only [madeCells, Array.toList_map, List.mem_map] at hv
  obtain ⟨i, hi, rfl⟩ := hv
  have hlt : i % z.size < z.size := Nat.mod_lt _ hz
  rw [getElem!_pos z _ hlt]
  exact h _ (by simp)

/-- make([]T, l, c): all cells zero. -/
theorem Eff.make {t e s by_ z l' c'} {k1 k2 : IntKind} {l c : Nat} (hu : P.underlying t = some (.slice e)) (hi : TI P e s by_ z) (hz : z.cells.size = s) (hs0 : 0 < s) (hzo : ones z.cells.toList)
    (hl : ev E l' = some (.int k1 (l : Int))) (hc : ev E c' = some (.int k2 (c : Int))) (hlc : l ≤ c) (hb : by_ * c ≤ 281474976710656) (hc63 : c ≤ 9223372036854775807) :
    Eff P N E Γ ⟨dst, .makeSlice t l' c', ty, pos, after, guard⟩ fun v Γ'' => ∃ b, v = .slice (some ⟨b, 0, none⟩) l c ∧ Γ'' = blk b (madeCells z.cells (c * s)).toList e :: Γ := by
  intro A F w a nx Z hf hsat hn
  obtain ⟨i, hinf, hsz, hby, hzv⟩ := hi
  subst hsz hby
  have hr := run_make (P := P) w t e i z hu hinf hzv k1 k2 l c (by omega) (by omega) (by rw [← Int.natCast_mul]; omega) (by omega)
  simp only [Int.toNat_natCast] at hr
  unfold Oper.wp
  simp only [execOp, hf.eval hl, hf.eval hc, Sem.run_bind, hr, Result.andThen_ok, Sem.run_pure, Oper.upon]
  refine hn _ _ _ ⟨w.heap.size, rfl, rfl⟩ ?_
  refine Sat.blk_of (fz := (0, 0)) ?_ (madeCells_ones hzo (by omega) _) (.inl rfl)
  exact hsat.alloc _

theorem blk.arr {b e s c} {cs post : List Value} {h} (hl : cs.length + post.length = c * s) (H : blk b (cs ++ post) e h) : Sp.arr e s (some ⟨b, 0, none⟩) c cs h :=
  .inr ⟨b, [], post, rfl, hl, by simpa using H⟩

theorem blk.arr_all {b e s c} {cs : List Value} {h} (hl : cs.length = c * s) (H : blk b cs e h) : Sp.arr e s (some ⟨b, 0, none⟩) c cs h :=
  blk.arr (post := []) (by simpa using hl) (by simpa using H)

theorem RunO.blkArr {b e} (s c : Nat) {cs : List Value} (p : Pick (blk b cs e) Γ Γ') (hl : cs.length = c * s) (n : RunO P N ops os E (arr e s (some ⟨b, 0, none⟩) c cs :: Γ') K) : RunO P N ops os E Γ K :=
  RunO.close (B := [blk b cs e]) (.cons p .nil) (fun _ ⟨_, _, _, l, _, H, _⟩ => blk.arr_all hl (blk_mono l H)) n

/-- A slice written out: its elements' cells one behind the other (the equation by the kernel). -/
theorem Eff.buildSlice {t e s by_ z} {n : Nat} {parts : Array (Nat × Operand)} {vs : List Value} {cs : List Value} (hu : P.underlying t = some (.slice e)) (hi : TI P e s by_ z) (hp : evs E (parts.toList.map (·.2)) = some vs) (hb : n * s ≤ 16777216)
    (h : Instr.fill (fun i => some (i * s, s)) (madeCells z.cells (n * s)) ((parts.toList.map (·.1)).zip vs) = some cs.toArray) (hone : ones cs) :
    Eff P N E Γ ⟨dst, .buildSlice t n parts, ty, pos, after, guard⟩ fun v Γ'' => ∃ b, v = .slice (some ⟨b, 0, none⟩) n n ∧ Γ'' = blk b cs e :: Γ := by
  intro A F w a nx Z hf hsat hn
  obtain ⟨i, hinf, hsz, hby, hzv⟩ := hi
  subst hsz hby
  have e1 := hf.evals hp
  have e2 : (parts.map fun (i, x) => (i, a.eval x)) = ((parts.toList.map (·.1)).zip vs).toArray := by
    apply Array.ext'
    rw [← e1]
    simp only [Array.toList_map]
    generalize parts.toList = ps
    induction ps with
    | nil => rfl
    | cons p ps ih => simp only [List.map_cons, List.zip_cons_cons, ih]
  have hnb : ¬ (16777216 < n * i.size) := by omega
  have hr : (Instr.buildSlice t n ((parts.toList.map (·.1)).zip vs).toArray).run P w = .ok (.slice (some ⟨w.heap.size, 0, none⟩) n n) (w.alloc (.cells cs.toArray e)) := by
    by_cases h0 : n * i.size = 0
    · have hm : madeCells z.cells (n * i.size) = #[] := by rw [h0]; simp [madeCells, Array.range_zero']
      rw [hm] at h
      simp [Instr.buildSlice, run_underlying hu, sizeOf, typeInfo, hinf, h0, newRow, Array.range_zero', h]
    · unfold madeCells at h
      simp [Instr.buildSlice, run_underlying hu, sizeOf, typeInfo, zeroValue, hinf, hzv, h0, hnb, newRow, h]
  unfold Oper.wp
  simp only [execOp, e2, Sem.run_bind, hr, Result.andThen_ok, Sem.run_pure, Oper.upon]
  refine hn _ _ _ ⟨w.heap.size, rfl, rfl⟩ ?_
  exact Sat.blk_of (fz := (0, 0)) (hsat.alloc _) hone (.inl rfl)

/-- One element. -/
theorem fill_one {place : Nat → Option (Nat × Nat)} {z : Array Value} {v : Value} {s : Nat} (hp : place 0 = some (0, s)) (hv : v.cells.size = s) (hz : z.size = s) : Instr.fill place z [(0, v)] = some v.cells := by
  have h1 : ¬ (v.cells.size ≠ s ∨ 0 + v.cells.size > z.size) := by omega
  have h2 : ∀ (l : List Value) (k : Nat) (cs : Array Value), k + l.length = cs.size → ∀ i, ((l.zipIdx k).foldl (fun cs (c, j) => cs.setIfInBounds (0 + j) c) cs)[i]? = if i < k then cs[i]? else l[i - k]? := by
    intro l
    induction l with
    | nil => intro k cs hk i; simp at hk ⊢; intro h; omega
    | cons c l ih =>
      intro k cs hk i
      simp only [List.zipIdx_cons, List.foldl_cons]
      rw [ih (k + 1) _ (by simp at hk ⊢; omega)]
      simp only [List.length_cons] at hk
      by_cases h3 : i < k
      · have : i < k + 1 := by omega
        simp only [this, h3, if_true]
        rw [Array.getElem?_setIfInBounds_ne (by omega)]
      · by_cases h4 : i = k
        · subst h4
          have : i < cs.size := by omega
          simp [this]
        · have e1 : ¬ i < k + 1 := by omega
          have e2 : i - k = (i - (k + 1)) + 1 := by omega
          simp only [e1, h3, if_false, e2, List.getElem?_cons_succ]
  simp only [Instr.fill, hp]
  rw [if_neg (by simpa using h1)]
  congr 1
  apply Array.ext'
  apply List.ext_getElem?
  intro i
  rw [Array.getElem?_toList, ← Array.foldl_toList]
  have := h2 v.cells.toList 0 z (by simp; omega) i
  simp only [Nat.not_lt_zero, if_false, Nat.sub_zero] at this
  rw [show v.cells.zipIdx.toList = v.cells.toList.zipIdx from by simp]
  rw [this]

theorem Eff.buildOne {t e s by_ z x v} {cs : List Value} (hu : P.underlying t = some (.slice e)) (hi : TI P e s by_ z) (hs1 : s ≤ 16777216) (hx : ev E x = some v) (hc : v.cells.toList = cs) (hl : cs.length = s) (hone : ones cs) :
    Eff P N E Γ ⟨dst, .buildSlice t 1 #[(0, x)], ty, pos, after, guard⟩ fun u Γ'' => ∃ b, u = .slice (some ⟨b, 0, none⟩) 1 1 ∧ Γ'' = blk b cs e :: Γ := by
  refine Eff.buildSlice (vs := [v]) hu hi ?_ (by omega) ?_ hone
  · simp [evs, hx]
  · have hv : v.cells.size = s := by rw [← hl, ← hc]; simp
    have := fill_one (place := fun i => some (i * s, s)) (z := madeCells z.cells (1 * s)) (v := v) (s := s) (by simp) hv (by simp [madeCells])
    simp only [List.map_cons, List.map_nil, List.zip_cons_cons, List.zip_nil_right]
    rw [this, ← hc]

theorem Eff.buildNone {t e s by_ z} (hu : P.underlying t = some (.slice e)) (hi : TI P e s by_ z) :
    Eff P N E Γ ⟨dst, .buildSlice t 0 #[], ty, pos, after, guard⟩ fun u Γ'' => ∃ b, u = .slice (some ⟨b, 0, none⟩) 0 0 ∧ Γ'' = blk b [] e :: Γ :=
  Eff.buildSlice (vs := []) hu hi rfl (by omega) (by simp [Instr.fill, madeCells]) .nil

end
end Go.Sp
