/- A separation logic over the given machine. Part 17: kinds of keys; bags. -/
import Derived.Test.YtahpokcigdjilaaL16
import Derived.ChangeKeysEq
namespace Go.Sp
open Go

section
variable {P : Program}

/-- Keys that are another kind's, said otherwise. -/
theorem KL.comap {k : TypeId} {κ κ' : Type} [DecidableEq κ] [DecidableEq κ'] {enc : κ → Value} (f : κ' → κ) (hf : ∀ x y, f x = f y → x = y) (K : KL P k enc) : KL P k (fun x => enc (f x)) where
  inj x y e := hf _ _ (K.inj _ _ e)
  check em x w := K.check em (f x) w
  find x es ks hk w := by
    have := K.find (f x) es (ks.map f) (by rw [hk, List.map_map]; rfl) w
    rw [this]
    congr 2
    rw [List.findIdx?_map]
    congr 1
    funext y
    exact decide_eq_decide.2 ⟨fun h => hf _ _ h, fun h => by rw [h]⟩
  stays x w := K.stays (f x) w

def encT (x : Int × Int × Int) : Array Value := #[.int .i64 x.1, .int .i64 x.2.1, .int .i64 x.2.2]
theorem encT_inj (x y : Int × Int × Int) (h : encT x = encT y) : x = y := by
  obtain ⟨a, b, c⟩ := x; obtain ⟨d, e, f⟩ := y
  simp [encT] at h ⊢
  exact h
theorem partT {e : TypeId} (hn : NotAgg P e) (x : Int × Int × Int) {i : Nat} {v : Value} (h : (encT x)[i]? = some v) (w : World) : (part e (encT x) i).run P w = .ok v w := part1 hn h w
theorem partsT {e : TypeId} (hn : NotAgg P e) (x : Int × Int × Int) (w : World) : (part e (encT x) (0 * 1)).run P w = .ok (.int .i64 x.1) w ∧ (part e (encT x) (1 * 1)).run P w = .ok (.int .i64 x.2.1) w ∧ (part e (encT x) (2 * 1)).run P w = .ok (.int .i64 x.2.2) w :=
  ⟨partT hn x rfl w, partT hn x rfl w, partT hn x rfl w⟩
/-- Keys of three ints. -/
theorem KL.three {k e : TypeId} {i : TypeInfo} (hu : P.underlying k = some (.array 3 e)) (he : P.underlying e = some (.int .i64)) (hi : P.info? e = some i) (hc : P.cellsOf e = 1) : KL P k (fun x => .agg (encT x)) where
  inj x y h := encT_inj x y (by simpa using h)
  check em x w := by
    have hn : NotAgg P e := ⟨_, he, trivial⟩
    have hs : ∀ w, (sizeOf e).run P w = .ok 1 w := fun w => by rw [← hc]; exact run_sizeOf w hi
    have key : ∀ n, (Instr.checkKey em (n + 2) k (.agg (encT x))).run P w = .ok () w := fun n => by
      have c1 : ∀ (v : Int), (Instr.checkKey em (n + 1) e (.int .i64 v)).run P w = .ok () w := fun v => CkV.int he em n w
      rw [Instr.checkKey.eq_def]
      simp only [underlying, Sem.run_bind, run_program, Result.andThen_ok, hu, Sem.run_pure]
      simp only [Std.Legacy.Range.forIn_eq_forIn_range', Std.Legacy.Range.size, Nat.sub_zero, Nat.add_one_sub_one, Nat.div_one]
      rw [show List.range' 0 3 = [0, 1, 2] from rfl]
      simp only [List.forIn_cons, List.forIn_nil, Sem.run_bind, hs, Result.andThen_ok, (partsT hn x w).1, (partsT hn x w).2.1, (partsT hn x w).2.2, c1, Sem.run_pure]
    exact key 9998
  find x es ks hk w := by
    have hn : NotAgg P e := ⟨_, he, trivial⟩
    have heq : ∀ x y w, (Op.equal k (.agg (encT x)) (.agg (encT y))).run P w = .ok (decide (x = y)) w := fun x y w => by
      have := run_equalIn_array (P := P) w 9999 (encT x) (encT y) hu hi
      have h2 : (Op.equal k (.agg (encT x)) (.agg (encT y))).run P w = (Op.equalIn (9999 + 1) k (.agg (encT x)) (.agg (encT y))).run P w := rfl
      rw [h2, this, hc, show List.range 3 = [0, 1, 2] from rfl]
      have ei : ∀ a b : Int, (Op.equalIn 9999 e (.int .i64 a) (.int .i64 b)).run P w = .ok (a == b) w := fun a b => equalIn_int he 9998 w
      simp only [Op.eqItems, Sem.run_bind, (partsT hn x w).1, (partsT hn y w).1, Result.andThen_ok, ei]
      have q1 : ∀ x, (part e (encT x) 1).run P w = .ok (.int .i64 x.2.1) w := fun x => partT hn x rfl w
      have q2 : ∀ x, (part e (encT x) 2).run P w = .ok (.int .i64 x.2.2) w := fun x => partT hn x rfl w
      obtain ⟨a, b, c⟩ := x; obtain ⟨d, f, g⟩ := y
      by_cases h1 : a = d <;> by_cases h2 : b = f <;> by_cases h3 : c = g <;> simp [h1, h2, h3, q1, q2, ei]
    cases es with
    | nil =>
      cases ks with
      | nil => simp [Instr.findKey, underlying, hu, Instr.findNow]
      | cons _ _ => simp at hk
    | cons e1 es =>
      cases ks with
      | nil => simp at hk
      | cons y ks =>
        have hn : Instr.findNow (.array 3 e) (.agg (encT x)) (e1 :: es) 0 = none := by simp [Instr.findNow, Instr.sameNow]
        simp only [Instr.findKey, underlying, Sem.run_bind, run_program, Result.andThen_ok, hu, Sem.run_pure, hn]
        rw [findAsking_spec heq x w (e1 :: es) (y :: ks) 0 hk]
        simp
  stays x w := by
    have : Instr.sameBits (9999 + 1) (.agg (encT x)) (.agg (encT x)) = true := by simp [Instr.sameBits, encT]
    simp [Instr.keyThatStays, this]
end

/-! ### Bags -/

/-- One resource for each of a list. -/
def bag {α : Type} (f : α → SProp) (l : List α) : SProp := fun h => sat (l.map f) h

theorem sat.one {Γ : List SProp} {h : Hp} (s : sat Γ h) : sat [fun k => sat Γ k] h :=
  ⟨h, fun _ => none, fun _ => .inr (.inl rfl), .refl _, fun _ _ e => by simp at e, s, trivial⟩
theorem sat.one' {X : SProp} {h : Hp} (s : sat [X] h) (hm : ∀ {h k : Hp}, Hp.le h k → X h → X k) : X h := by
  obtain ⟨h1, h2, _, l1, _, x, _⟩ := s
  exact hm l1 x
theorem sat.perm {As Bs : List SProp} (p : As.Perm Bs) : ∀ {h}, sat As h → sat Bs h := by
  induction p with
  | nil => exact fun s => s
  | cons x _ ih => exact fun s => sat.cons (fun _ => ih) s
  | swap x y l => exact fun s => s.swap
  | trans _ _ i1 i2 => exact fun s => i2 (i1 s)

theorem bag.nil {α : Type} {f : α → SProp} {h : Hp} : bag f [] h := trivial
theorem bag.perm {α : Type} {f : α → SProp} {l m : List α} (p : l.Perm m) {h : Hp} (s : bag f l h) : bag f m h := sat.perm (p.map f) s
/-- One of them by itself, and the rest. -/
theorem bag.take {α : Type} {f : α → SProp} {l m : List α} {x : α} (p : l.Perm (x :: m)) {h : Hp} (s : bag f l h) : sat [f x, bag f m] h := by
  have := bag.perm p s
  exact sat.cons (fun _ s => sat.one s) this
theorem bag.put {α : Type} {f : α → SProp} {l m : List α} {x : α} (p : (x :: m).Perm l) {h : Hp} (s : sat [f x, bag f m] h) : bag f l h := by
  refine bag.perm p ?_
  obtain ⟨h1, h2, ok, l1, l2, hx, hb⟩ := s
  obtain ⟨k1, _, _, m1, _, hb', _⟩ := hb
  exact ⟨h1, h2, ok, l1, l2, hx, sat.mono m1 hb'⟩

section
variable {P : Program} {N : Nat} {ops : Array Oper} {os : List Oper} {E : Env} {Γ Γ' : List SProp} {K : Env → List SProp → Prop} {C : Cx} {k : List Item} {Q : Value → List SProp → Prop}
theorem RunO.takeBag {α : Type} {f : α → SProp} {l m : List α} {x : α} (p : Pick (bag f l) Γ Γ') (hp : l.Perm (x :: m)) (next : RunO P N ops os E (f x :: bag f m :: Γ') K) : RunO P N ops os E Γ K :=
  RunO.open_ (σ := Unit) (φ := fun _ => True) (B := fun _ => [f x, bag f m]) p (fun _ h => ⟨(), trivial, bag.take hp h⟩) fun _ _ => next
theorem Run.takeBag {α : Type} {f : α → SProp} {l m : List α} {x : α} (p : Pick (bag f l) Γ Γ') (hp : l.Perm (x :: m)) (next : Run C k E (f x :: bag f m :: Γ') Q) : Run C k E Γ Q :=
  Run.open_ (σ := Unit) (φ := fun _ => True) (B := fun _ => [f x, bag f m]) p (fun _ h => ⟨(), trivial, bag.take hp h⟩) fun _ _ => next
theorem Knows.bag {α : Type} {f : α → SProp} {l : List α} {x : α} (p : Pick (Sp.bag f l) Γ Γ') (hx : x ∈ l) {φ : World → Prop} (hk : Knows [f x] φ) : Knows Γ φ := fun A w s => by
  obtain ⟨m, hm⟩ : ∃ m, l.Perm (x :: m) := by
    obtain ⟨a, b, rfl⟩ := List.append_of_mem hx
    exact ⟨a ++ b, List.perm_middle⟩
  have h1 := s.map fun _ => p.sat
  have h2 := Sat.open_ (σ := Unit) (φ := fun _ => True) (B := fun _ => [f x, Sp.bag f m]) (fun _ h => ⟨(), trivial, bag.take hm h⟩) h1
  obtain ⟨_, _, h3⟩ := h2
  exact hk A w (Sat.left (Γ := [f x]) h3)
end
end Go.Sp
