/- A separation logic over the given machine. Part 9: closures; what is known for good; more on rows. -/
import Derived.Test.YtahpokcigdjilaaL8
namespace Go.Sp
open Go

section
variable {P : Program} {N : Nat} {E : Env} {Γ Γ' : List SProp} {dst : Option Tmp} {ty : TypeId} {pos : String} {after : Array Edge} {guard : Option (Nat × Bool)}
variable {ops : Array Oper} {rest os : List Oper} {K : Env → List SProp → Prop}

/-! ### Closures -/

theorem Eff.fnC {fo : Operand} {args : Array Operand} {ts : Array TypeId} {f : FuncId} {first cap : Array Value} {vs : List Value} {φ : World → Prop} {Γf : List SProp} {Q : Value → List SProp → Prop} (hfo : ev E fo = some (.func (.func f) first cap))
    (ha : evs E args.toList = some vs) (p : Picks Γf Γ Γ') (k : Knows Γ' φ) (h : Cn P f (first.toList ++ (vs ++ cap.toList)) φ Γf Q) :
    Eff P N E Γ ⟨dst, .call ⟨.value fo, args, ts⟩, ty, pos, after, guard⟩ fun v Γ'' => ∃ Γ1, Q v Γ1 ∧ Γ'' = Γ1 ++ Γ' := by
  refine (Eff.call hfo ha (Picks.self Γ) (h.ret p k)).mono ?_
  rintro v _ ⟨_, ⟨Γ1, hq, rfl⟩, rfl⟩
  exact ⟨Γ1, hq, by simp⟩

theorem RunO.fnC {d} {fo : Operand} {args : Array Operand} {ts : Array TypeId} {f : FuncId} {first cap : Array Value} {vs : List Value} {φ : World → Prop} {Γf : List SProp} {Q : Value → List SProp → Prop} (hfo : ev E fo = some (.func (.func f) first cap))
    (ha : evs E args.toList = some vs) (p : Picks Γf Γ Γ') (k : Knows Γ' φ) (h : Cn P f (first.toList ++ (vs ++ cap.toList)) φ Γf Q) (next : ∀ v Γ1, Q v Γ1 → RunO P N ops rest ((d, v) :: E) (Γ1 ++ Γ') K)
    (hd : Nat.blt d N = true := by rfl) : RunO P N ops (⟨some d, .call ⟨.value fo, args, ts⟩, ty, pos, after, none⟩ :: rest) E Γ K := by
  refine RunO.ef (Eff.fnC hfo ha p k h) ?_ hd
  rintro v _ ⟨Γ1, hq, rfl⟩
  exact next v Γ1 hq

theorem Ret.mono' {f args} {Q Q' : Value → List SProp → Prop} (h : Ret P f args Γ Q) (hq : ∀ v G, Q v G → ∃ G', (∃ Δ, Picks G' G Δ) ∧ Q' v G') : Ret P f args Γ Q' :=
  ⟨h.able, fun A F w s => (h.runs A F w s).mono fun _ _ ⟨v, G, e, q, s'⟩ => by
    obtain ⟨G', ⟨Δ, p⟩, q'⟩ := hq _ _ q
    refine ⟨v, G', e, q', ?_⟩
    obtain ⟨am, h, f, t⟩ := s'
    obtain ⟨h1, h2, ok, l1, l2, s1, s2⟩ := ((p.app F).sat t).split
    obtain ⟨_, k2, _, _, m2, _, s⟩ := s2.split
    exact ⟨am, h, f, sat.join ok l1 l2 s1 (s.mono m2)⟩⟩

/-- The first resource written otherwise. -/
theorem Run.cast {C : Cx} {k Q} {X X' : SProp} (h : X = X') (n : Run C k E (X' :: Γ) Q) : Run C k E (X :: Γ) Q := h ▸ n
theorem RunO.cast {X X' : SProp} (h : X = X') (n : RunO P N ops os E (X' :: Γ) K) : RunO P N ops os E (X :: Γ) K := h ▸ n

/-! ### What is known for good -/

/-- What no later step can undo: it lies in blocks that are only read. -/
def know (φ : World → Prop) : SProp := fun h => ∃ k : Hp, Hp.le k h ∧ (∀ b x, k b = some x → x.1 = true) ∧ ∀ w : World, Hp.fits k w → φ w

theorem Knows.know {φ : World → Prop} (p : Pick (Sp.know φ) Γ Γ') : Knows Γ φ := fun A w s => by
  obtain ⟨_, h, f, h1, h2, _, l, _, ⟨k, kl, _, e⟩, _⟩ := (s.map fun _ => p.sat)
  exact e w fun b x hx => f b x (l b x (kl b x hx))

theorem sat.know_dup {φ Γ h} (s : sat (know φ :: Γ) h) : sat (know φ :: know φ :: Γ) h := by
  obtain ⟨h1, h2, ok, l1, l2, ⟨k, kl, kr, e⟩, t⟩ := s
  refine ⟨k, h, ?_, kl.trans l1, .refl _, ⟨k, .refl _, kr, e⟩, h1, h2, ok, l1, l2, ⟨k, kl, kr, e⟩, t⟩
  intro b
  cases hb : k b with
  | none => exact .inl rfl
  | some x =>
    have := kr b x hb
    exact .inr (.inr ⟨by rw [l1 b x (kl b x hb)], x.2, by rw [← this]⟩)

theorem sat.know_mono {φ ψ : World → Prop} (H : ∀ w, φ w → ψ w) {h} (s : sat [know φ] h) : know ψ h := by
  obtain ⟨h1, h2, ok, l1, l2, ⟨k, kl, kr, e⟩, t⟩ := s
  exact ⟨k, kl.trans l1, kr, fun w f => H w (e w f)⟩

theorem sat.know_and {φ ψ : World → Prop} {h} (s : sat [know φ, know ψ] h) : know (fun w => φ w ∧ ψ w) h := by
  obtain ⟨h1, h2, ok, l1, l2, ⟨k, kl, kr, e⟩, h3, h4, ok2, m1, m2, ⟨j, jl, jr, e2⟩, _⟩ := s
  have okk : Hp.ok k j := ok.mono kl (jl.trans m1)
  refine ⟨Hp.un k j, Hp.un_le (kl.trans l1) (jl.trans (m1.trans l2)), fun b x hb => ?_, fun w f => ⟨e w fun b x hx => f b x (Hp.le_un_left _ _ b x hx), e2 w fun b x hx => f b x (Hp.le_un_right okk b x hx)⟩⟩
  cases h5 : k b with
  | none => simp [Hp.un, h5] at hb; exact jr b x hb
  | some y => simp [Hp.un, h5] at hb; subst hb; exact kr b y h5

/-- A resource given up: what it tells is known for good. -/
def Settles (X : SProp) (φ : World → Prop) : Prop := ∀ A w Γ, Sat A w (X :: Γ) → Sat A w (know φ :: Γ)

theorem Settles.mono {X : SProp} {φ ψ : World → Prop} (s : Settles X φ) (H : ∀ w, φ w → ψ w) : Settles X ψ := fun A w Γ h => by
  have h1 : Sat A w ([know φ] ++ Γ) := s A w Γ h
  exact Sat.close (fun h s => sat.know_mono H s) h1

theorem sat.ro_know {b o φ h} (H : ∀ w : World, w.heap[b]? = some o → φ w) (s : ro b o h) : know φ h := by
  refine ⟨fun c => if c = b then some (true, o) else none, fun c x hx => ?_, fun c x hx => ?_, fun w f => H w (f b (true, o) (by simp))⟩
  · by_cases hc : c = b
    · subst hc; simp at hx; subst hx; exact s
    · simp [hc] at hx
  · by_cases hc : c = b
    · subst hc; simp at hx; subst hx; rfl
    · simp [hc] at hx

theorem Settles.blk {b l e} : Settles (Sp.blk b l e) (CellsAt b 0 l) := fun A w Γ h => by
  obtain ⟨ho, fz, hfz, hh, h2⟩ := h.blk
  have h3 := Sat.share h2
  have h4 : Sat A w ([ro b (.cells l.toArray e fz)] ++ Γ) := h3
  refine Sat.close (fun h s => ?_) h4
  obtain ⟨k1, _, _, l1, _, s1, _⟩ := s
  have := sat.ro_know (φ := CellsAt b 0 l) (fun w' hw => ⟨fun i v hi => by rw [cell_of hw]; simpa using hi, ho⟩) s1
  obtain ⟨k, kl, kr, e⟩ := this
  exact ⟨k, kl.trans l1, kr, e⟩

theorem Settles.arr {e s a cap cs} : Settles (Sp.arr e s a cap cs) (RowAt a cs) := fun A w Γ h => by
  by_cases hc : 0 < cap
  · obtain ⟨x, ⟨hx1, hx2⟩, h1⟩ := Sat.open_ (X := Sp.arr e s a cap cs) (fun h s => arr.blk_of hc s) h
    have h2 := Settles.blk A w Γ (by simpa using h1)
    have h3 : Sat A w ([know (CellsAt x.1 0 (x.2.1 ++ (cs ++ x.2.2)))] ++ Γ) := h2
    refine Sat.close (fun h s => sat.know_mono (fun w' hw => ?_) s) h3
    refine .inr ⟨x.1, x.2.1.length, hx1, fun i v hi => ?_, hw.2.right.left⟩
    have := hw.1 (x.2.1.length + i) v (at_mid hi)
    simpa using this
  · have h1 := h.arr_row
    have hcap : cap = 0 := by omega
    have hcs : cs = [] := by
      have := h.arr_len.1
      subst hcap
      simp at this; exact this
    subst hcs
    have h2 := h.drop.nothing
    have h3 : Sat A w ([sat []] ++ Γ) := h2
    exact Sat.close (fun h _ => ⟨fun _ => none, fun _ _ e => by simp at e, fun _ _ e => by simp at e, fun _ _ => .inl rfl⟩) h3

theorem Run.settle {C : Cx} {k Q} {X : SProp} {φ : World → Prop} (p : Pick X Γ Γ') (s : Settles X φ) (n : Run C k E (know φ :: Γ') Q) : Run C k E Γ Q := fun A F w a hf hs =>
  n A F w a hf (s A w _ (hs.map fun _ => (p.app F).sat))
theorem RunO.settle {X : SProp} {φ : World → Prop} (p : Pick X Γ Γ') (s : Settles X φ) (n : RunO P N ops os E (know φ :: Γ') K) : RunO P N ops os E Γ K := fun A F w a Z hf hs hz =>
  n A F w a Z hf (s A w _ (hs.map fun _ => (p.app F).sat)) hz
theorem Run.dup {C : Cx} {k Q} {φ : World → Prop} (p : Pick (know φ) Γ Γ') (n : Run C k E (know φ :: know φ :: Γ') Q) : Run C k E Γ Q := fun A F w a hf hs =>
  n A F w a hf ((hs.map fun _ => (p.app F).sat).map fun _ => sat.know_dup)
theorem RunO.dup {φ : World → Prop} (p : Pick (know φ) Γ Γ') (n : RunO P N ops os E (know φ :: know φ :: Γ') K) : RunO P N ops os E Γ K := fun A F w a Z hf hs hz =>
  n A F w a Z hf ((hs.map fun _ => (p.app F).sat).map fun _ => sat.know_dup) hz

/-- What the memory at the start tells. -/
theorem sat.base_know {W : World} {φ : World → Prop} (H : ∀ w : World, (∀ (b : Nat) (o : Obj), W.heap[b]? = some o → w.heap[b]? = some o) → φ w) {h} (s : base W h) : know φ h := by
  refine ⟨fun c => (W.heap[c]?).map fun o => (true, o), fun c x hx => ?_, fun c x hx => ?_, fun w f => H w fun b o hb => f b (true, o) (by simp [hb])⟩
  · cases hc : W.heap[c]? with
    | none => simp [hc] at hx
    | some o => simp [hc] at hx; subst hx; exact s c o hc
  · cases hc : W.heap[c]? with
    | none => simp [hc] at hx
    | some o => simp [hc] at hx; subst hx; rfl

/-! ### Cutting -/

theorem splice_mid {pre cs post ys : List Value} {k : Nat} (hk : k + ys.length ≤ cs.length) : splice (pre ++ (cs ++ post)) (pre.length + k) ys = pre ++ (splice cs k ys ++ post) := by
  unfold splice
  rw [List.take_append, List.take_of_length_le (by omega), Nat.add_sub_cancel_left, List.take_append_of_le_length (by omega), List.drop_append, List.drop_eq_nil_of_le (by omega),
    show pre.length + k + ys.length - pre.length = k + ys.length by omega, List.drop_append_of_le_length (by omega)]
  simp [List.append_assoc]

/-- One element of a row is cut out, the others move up, the last place is filled. -/
theorem cut_cells {α : Type} {f : α → List Value} {w : Nat} (hw : ∀ x, (f x).length = w) (l : List α) (i : Nat) (hi : i < l.length) (zs : List Value) (hz : zs.length = w) :
    splice (splice (l.flatMap f) (i * w) ((l.drop (i + 1)).flatMap f)) ((l.length - 1) * w) zs = (l.eraseIdx i).flatMap f ++ zs := by
  have e1 : splice (l.flatMap f) (i * w) ((l.drop (i + 1)).flatMap f) = (l.eraseIdx i).flatMap f ++ (l.drop (l.length - 1)).flatMap f := by
    unfold splice
    rw [flat_take hw, flat_length hw, ← Nat.add_mul, flat_drop hw, List.length_drop]
    rw [show i + (l.length - (i + 1)) = l.length - 1 by omega, List.eraseIdx_eq_take_drop_succ, List.flatMap_append, List.append_assoc]
  have e2 : ((l.eraseIdx i).flatMap f).length = (l.length - 1) * w := by rw [flat_length hw, List.length_eraseIdx_of_lt hi]
  have e3 : ((l.drop (l.length - 1)).flatMap f).length = w := by
    rw [flat_length hw, List.length_drop, show l.length - (l.length - 1) = 1 by omega, Nat.one_mul]
  rw [e1]
  unfold splice
  rw [← e2, List.take_left', List.drop_eq_nil_of_le]
  · simp
  · simp only [List.length_append]; omega
  · rfl

theorem splice_elem {α : Type} {f : α → List Value} {w : Nat} (hw : ∀ x, (f x).length = w) (l : List α) (i : Nat) (hi : i < l.length) (x : α) : splice (l.flatMap f) (i * w) (f x) = (l.set i x).flatMap f := by
  unfold splice
  rw [flat_take hw, hw, show i * w + w = (i + 1) * w by rw [Nat.succ_mul], flat_drop hw, List.set_eq_take_append_cons_drop, if_pos hi]
  simp [List.flatMap_append]

theorem Knows.mid {α : Type} {f : α → List Value} {wd : Nat} (hw : ∀ x, (f x).length = wd) {b : Nat} {pre post : List Value} {l : List α} {e : TypeId} (p : Pick (Sp.blk b (pre ++ (l.flatMap f ++ post)) e) Γ Γ') {j : Nat} {x : α} (hx : l[j]? = some x) :
    Knows Γ (CellsAt b (pre.length + j * wd) (f x)) :=
  .blkAt p fun i v hv => by
    rw [Nat.add_assoc]
    exact at_mid (flat_at hw l j x hx i v hv)

end
end Go.Sp
