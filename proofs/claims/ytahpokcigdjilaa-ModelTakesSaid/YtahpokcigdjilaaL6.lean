/- A separation logic over the given machine. Part 6: results; contracts that read what stays. -/
import Derived.Test.YtahpokcigdjilaaL5
namespace Go.Sp
open Go

/-! ### Results -/

/-- A result: a slot, or a variable in memory. -/
def ResAt (P : Program) (E : Env) (Γ : List SProp) (r : ResultVar) (v : Value) : Prop :=
  ∀ A w a N, Fr N E a → Sat A w Γ →
    (match r with | .tmp t => (Pure.pure (a.tmps.getD t undef) : Sem Value) | .cell x t => do loadVar t (← asAddr (a.tmps.getD x undef))).run P w = .ok v w

section
variable {P : Program} {E : Env} {Γ Γ' : List SProp}

theorem ResAt.tmp {t v} (h : lk E t = some v) : ResAt P E Γ (.tmp t) v := fun _ w a _ hf _ => by
  have := hf.look t v h
  simp [this]
theorem ResAt.cell {x t b o v} (hn : NotAgg P t) (h : lk E x = some (.pointer (some ⟨b, o, none⟩))) (k : Knows Γ (CellsAt b o [v])) : ResAt P E Γ (.cell x t) v := fun A w a _ hf hs => by
  have h1 := hf.look x _ h
  have h2 := (k A w hs).1 0 v rfl
  simp only [Nat.add_zero] at h2
  simp [h1, asAddr, loadVar, hn.run, h2]
theorem ResAt.cellN {x t b o n} {cs : List Value} (hn : IsAgg P t) (hs' : TS P t n) (h : lk E x = some (.pointer (some ⟨b, o, none⟩))) (hl : cs.length = n) (k : Knows Γ (CellsAt b o cs)) : ResAt P E Γ (.cell x t) (.agg cs.toArray) := fun A w a _ hf hs => by
  have h1 := hf.look x _ h
  have h2 := (k A w hs).1
  have hr := run_loadCells_list (P := P) w ⟨b, o, none⟩ cs (fun j v hv => by rw [Addr_add]; exact h2 j v hv)
  subst hl
  simp [h1, asAddr, loadVar, hn.run, hs'.run, hr]

theorem ResAt.blk1 {x t b e v} (hn : NotAgg P t) (h : lk E x = some (.pointer (some ⟨b, 0, none⟩))) (p : Pick (blk b [v] e) Γ Γ') : ResAt P E Γ (.cell x t) v := .cell hn h (.blk p)
theorem ResAt.blkN {x t b e n} {cs : List Value} (hn : IsAgg P t) (hs : TS P t n) (h : lk E x = some (.pointer (some ⟨b, 0, none⟩))) (p : Pick (blk b cs e) Γ Γ') (hl : cs.length = n) : ResAt P E Γ (.cell x t) (.agg cs.toArray) := .cellN hn hs h hl (.blk p)

inductive ResAll (P : Program) (E : Env) (Γ : List SProp) : List ResultVar → List Value → Prop
  | nil : ResAll P E Γ [] []
  | cons {r v rs vs} : ResAt P E Γ r v → ResAll P E Γ rs vs → ResAll P E Γ (r :: rs) (v :: vs)

theorem results_all {fn A a w} {N : Nat} (hf : Fr N E a) (hs : Sat A w Γ) {vs : List Value} (h : ResAll P E Γ fn.results.toList vs) : (results fn a.tmps).run P w = .ok (resVal vs) w := by
  have key : ∀ (rs : List ResultVar) vs, ResAll P E Γ rs vs →
      (rs.mapM (m := Sem) fun | .tmp t => (Pure.pure (a.tmps.getD t undef) : Sem Value) | .cell x t => do loadVar t (← asAddr (a.tmps.getD x undef))).run P w = .ok vs w := by
    intro rs vs h
    induction h with
    | nil => rfl
    | cons h1 _ ih =>
      rw [List.mapM_cons]
      simp only [Sem.run_bind]
      erw [h1 A w a N hf hs]
      simp only [Result.andThen_ok]
      erw [ih]
      rfl
  have h2 := key fn.results.toList vs h
  have h3 : fn.results = fn.results.toList.toArray := rfl
  unfold results
  rw [h3, List.mapM_toArray]
  simp only [Sem.run_bind, Sem.run_map]
  erw [h2]
  match vs with
  | [] => rfl
  | [v] => rfl
  | u :: v :: vs => simp only [resVal]; rfl

theorem Run.retA {C : Cx} {k : List Item} {Q : Value → List SProp → Prop} {vs : List Value} (hfn : C.P.funcs[C.f]? = some C.fn)
    (h : ResAll C.P E Γ C.fn.results.toList vs) (q : Q (resVal vs) Γ) : Run C (.code .ret :: k) E Γ Q := by
  intro A F w a hf hs b cs hb hk
  refine ⟨resVal vs, w, { b.at a (.code .ret :: k) with mode := .returning }, ⟨Γ, q, hs⟩, .one step_ret, hb, rfl, hf.defers, hk, C.fn, ?_, results_all hf hs.left h⟩
  show C.P.funcs[b.fn]? = _
  rw [hb]; exact hfn

/-- The results are read, then what is not needed is dropped. -/
theorem Run.retP {C : Cx} {k : List Item} {Q : Value → List SProp → Prop} {vs : List Value} {Δ : List SProp} (hfn : C.P.funcs[C.f]? = some C.fn)
    (h : ResAll C.P E Γ C.fn.results.toList vs) (p : Picks Γ' Γ Δ) (q : Q (resVal vs) Γ') : Run C (.code .ret :: k) E Γ Q := by
  intro A F w a hf hs b cs hb hk
  refine ⟨resVal vs, w, { b.at a (.code .ret :: k) with mode := .returning }, ⟨Γ', q, ?_⟩, .one step_ret, hb, rfl, hf.defers, hk, C.fn, ?_, results_all hf hs.left h⟩
  · obtain ⟨am, h, f, t⟩ := hs
    obtain ⟨h1, h2, ok, l1, l2, s1, s2⟩ := ((p.app F).sat t).split
    obtain ⟨_, k2, _, _, m2, _, s⟩ := s2.split
    exact ⟨am, h, f, sat.join ok l1 l2 s1 (s.mono m2)⟩
  · show C.P.funcs[b.fn]? = _
    rw [hb]; exact hfn

theorem Run.endP {C : Cx} {Q : Value → List SProp → Prop} {vs : List Value} {Δ : List SProp} (hfn : C.P.funcs[C.f]? = some C.fn)
    (h : ResAll C.P E Γ C.fn.results.toList vs) (p : Picks Γ' Γ Δ) (q : Q (resVal vs) Γ') : Run C [] E Γ Q := by
  intro A F w a hf hs b cs hb hk
  refine ⟨resVal vs, w, { b.at a [] with mode := .returning }, ⟨Γ', q, ?_⟩, .one step_end, hb, rfl, hf.defers, hk, C.fn, ?_, results_all hf hs.left h⟩
  · obtain ⟨am, h, f, t⟩ := hs
    obtain ⟨h1, h2, ok, l1, l2, s1, s2⟩ := ((p.app F).sat t).split
    obtain ⟨_, k2, _, _, m2, _, s⟩ := s2.split
    exact ⟨am, h, f, sat.join ok l1 l2 s1 (s.mono m2)⟩
  · show C.P.funcs[b.fn]? = _
    rw [hb]; exact hfn

end

/-! ### Contracts -/

/-- The call returns as Q says; it takes Γf, and reads φ of whatever there is beside, which stays. -/
def Cn (P : Program) (f : FuncId) (args : List Value) (φ : World → Prop) (Γf : List SProp) (Q : Value → List SProp → Prop) : Prop :=
  ∀ R : SProp, Knows [R] φ → Ret P f args (Γf ++ [R]) fun v Γ' => ∃ Γ1, Q v Γ1 ∧ Γ' = Γ1 ++ [R]

theorem Cn.mono {P f args φ Γf} {Q Q' : Value → List SProp → Prop} (h : Cn P f args φ Γf Q) (hq : ∀ v Γ1, Q v Γ1 → Q' v Γ1) : Cn P f args φ Γf Q' :=
  fun R k => (h R k).mono fun v _ ⟨Γ1, q, e⟩ => ⟨Γ1, hq v Γ1 q, e⟩

theorem Cn.enter {P : Program} {f : FuncId} {fn : Func} {c : Code} {args : List Value} {φ : World → Prop} {Γf : List SProp} {Q : Value → List SProp → Prop} (hf : P.funcs[f]? = some fn) (hb : fn.body = some c)
    (hn : (fn.name == "runtime.NumGoroutine") = false) (hl : Nat.ble args.length fn.ntmps = true)
    (h : ∀ R, Knows [R] φ → Run ⟨P, f, fn⟩ [.code c] (argEnv 0 args) (Γf ++ [R]) fun v Γ' => ∃ Γ1, Q v Γ1 ∧ Γ' = Γ1 ++ [R]) : Cn P f args φ Γf Q :=
  fun R k => .enter hf hb hn hl (h R k)

theorem sat.fold {Γ : List SProp} {F h} (s : Sp.sat (Γ ++ F) h) : Sp.sat (Sp.sat Γ :: F) h := by
  obtain ⟨h1, h2, ok, l1, l2, s1, s2⟩ := s.split
  exact ⟨h1, h2, ok, l1, l2, s1, s2⟩
theorem sat.unfold {Γ : List SProp} {F h} (s : Sp.sat (Sp.sat Γ :: F) h) : Sp.sat (Γ ++ F) h := by
  obtain ⟨h1, h2, ok, l1, l2, s1, s2⟩ := s
  exact sat.join ok l1 l2 s1 s2

theorem sat.app_right {Γ Δ Δ' : List SProp} {h} (H : ∀ h, Sp.sat Δ h → Sp.sat Δ' h) (s : Sp.sat (Γ ++ Δ) h) : Sp.sat (Γ ++ Δ') h := by
  obtain ⟨h1, h2, ok, l1, l2, s1, s2⟩ := s.split
  exact sat.join ok l1 l2 s1 (H _ s2)

theorem Knows.fold {Γ φ} (k : Knows Γ φ) : Knows [Sp.sat Γ] φ := fun A w s => k A w (s.map fun _ t => by
  have := sat.unfold (F := []) t
  simpa using this)

theorem Cn.ret {P f args φ Γf} {Q : Value → List SProp → Prop} (h : Cn P f args φ Γf Q) {Γ Γ' : List SProp} (p : Picks Γf Γ Γ') (k : Knows Γ' φ) : Ret P f args Γ fun v Γ'' => ∃ Γ1, Q v Γ1 ∧ Γ'' = Γ1 ++ Γ' := by
  have h1 := h (sat Γ') k.fold
  refine ⟨h1.able, fun A F w s => ?_⟩
  have s1 : Sat A w ((Γf ++ [sat Γ']) ++ F) := by
    have := s.swap_in p
    rw [List.append_assoc]
    exact this.map fun _ => sat.app_right fun _ => sat.fold
  refine (h1.runs A F w s1).mono ?_
  rintro e w' ⟨v, _, he, ⟨Γ1, hq, rfl⟩, s'⟩
  refine ⟨v, Γ1 ++ Γ', he, ⟨Γ1, hq, rfl⟩, ?_⟩
  rw [List.append_assoc] at s' ⊢
  exact s'.map fun _ => sat.app_right fun _ => sat.unfold

section
variable {P : Program} {N : Nat} {E : Env} {Γ Γ' : List SProp} {ty : TypeId} {pos : String} {after : Array Edge} {dst : Option Tmp} {guard : Option (Nat × Bool)}
variable {ops : Array Oper} {rest os : List Oper} {K : Env → List SProp → Prop}

theorem Eff.fn {fo : Operand} {args : Array Operand} {ts : Array TypeId} {f : FuncId} {vs : List Value} {φ : World → Prop} {Γf : List SProp} {Q : Value → List SProp → Prop} (hfo : ev E fo = some (.func (.func f) #[] #[]))
    (ha : evs E args.toList = some vs) (p : Picks Γf Γ Γ') (k : Knows Γ' φ) (h : Cn P f vs φ Γf Q) :
    Eff P N E Γ ⟨dst, .call ⟨.value fo, args, ts⟩, ty, pos, after, guard⟩ fun v Γ'' => ∃ Γ1, Q v Γ1 ∧ Γ'' = Γ1 ++ Γ' := by
  have h1 : Ret P f ((#[] : Array Value).toList ++ (vs ++ (#[] : Array Value).toList)) Γ fun v Γ'' => ∃ Γ1, Q v Γ1 ∧ Γ'' = Γ1 ++ Γ' := by simpa using h.ret p k
  refine (Eff.call hfo ha (Picks.self Γ) h1).mono ?_
  rintro v _ ⟨_, ⟨Γ1, hq, rfl⟩, rfl⟩
  exact ⟨Γ1, hq, by simp⟩

theorem RunO.fn {d} {fo : Operand} {args : Array Operand} {ts : Array TypeId} {f : FuncId} {vs : List Value} {φ : World → Prop} {Γf : List SProp} {Q : Value → List SProp → Prop} (hfo : ev E fo = some (.func (.func f) #[] #[]))
    (ha : evs E args.toList = some vs) (p : Picks Γf Γ Γ') (k : Knows Γ' φ) (h : Cn P f vs φ Γf Q) (next : ∀ v Γ1, Q v Γ1 → RunO P N ops rest ((d, v) :: E) (Γ1 ++ Γ') K)
    (hd : Nat.blt d N = true := by rfl) : RunO P N ops (⟨some d, .call ⟨.value fo, args, ts⟩, ty, pos, after, none⟩ :: rest) E Γ K := by
  refine RunO.ef (Eff.fn hfo ha p k h) ?_ hd
  rintro v _ ⟨Γ1, hq, rfl⟩
  exact next v Γ1 hq

theorem Run.drop {C : Cx} {k Q X} (n : Run C k E Γ Q) : Run C k E (X :: Γ) Q := fun A F w a hf hs => n A F w a hf hs.drop
theorem RunO.drop {X} (n : RunO P N ops os E Γ K) : RunO P N ops os E (X :: Γ) K := fun A F w a Z hf hs hz => n A F w a Z hf hs.drop hz

end
end Go.Sp
