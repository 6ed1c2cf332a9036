/- A separation logic over the given machine. Part 7: equality of structs; maps. -/
import Derived.Test.YtahpokcigdjilaaL6
import Derived.Laws.StructEq
namespace Go.Sp
open Go

/-! ### Equality, field by field -/

/-- At any depth from k on, comparing the two values answers b. -/
def EqV (P : Program) (k : Nat) (t : TypeId) (x y : Value) (b : Bool) : Prop := ∀ d w, (Op.equalIn (d + k) t x y).run P w = .ok b w

section
variable {P : Program}

theorem beqS (a b : ByteArray) : (a == b) = decide (a = b) := by
  rw [beq_toListBytes, Bool.eq_iff_iff]; simp [toList_inj]

theorem EqV.int {t} {k : IntKind} {a b : Int} (hu : P.underlying t = some (.int k)) : EqV P 1 t (.int k a) (.int k b) (decide (a = b)) := fun d w => by
  rw [equalIn_int hu d w]; congr 1
theorem EqV.bool {t} {a b : Bool} (hu : P.underlying t = some .bool) : EqV P 1 t (.bool a) (.bool b) (decide (a = b)) := fun d w => by
  rw [equalIn_bool hu d w]; congr 1
theorem EqV.string {t} {a b : ByteArray} (hu : P.underlying t = some .string) : EqV P 1 t (.string a) (.string b) (decide (a = b)) := fun d w => by
  rw [equalIn_string hu d w, beqS]
theorem EqV.up {k j t x y b} (h : EqV P k t x y b) (hj : k ≤ j) : EqV P j t x y b := fun d w => by
  have := h (d + (j - k)) w
  rwa [show d + (j - k) + k = d + j from by omega] at this

/-- Fields, one behind the other. -/
def EqF (P : Program) (k : Nat) (xs ys : Array Value) (fs : List Field) (b : Bool) : Prop := ∀ d w, (Op.eqFields (d + k) xs ys fs).run P w = .ok b w

theorem EqF.nil {k xs ys} : EqF P k xs ys [] true := fun _ _ => rfl
theorem EqF.cons {k xs ys} {f : Field} {fs : List Field} {a c : Value} {r s : Bool} (hn : f.name ≠ "_") (h1 : ∀ w, (part f.type xs f.offset).run P w = .ok a w) (h2 : ∀ w, (part f.type ys f.offset).run P w = .ok c w)
    (h : EqV P k f.type a c r) (hs : EqF P k xs ys fs s) : EqF P k xs ys (f :: fs) (r && s) := fun d w => by
  simp only [Op.eqFields, if_pos hn, Sem.run_bind, h1, h2, h d w, Result.andThen_ok]
  cases r with
  | false => simp
  | true => simpa using hs d w

theorem part1 {t off v} {cs : Array Value} (hn : NotAgg P t) (hv : cs[off]? = some v) (w : World) : (part t cs off).run P w = .ok v w := by
  simp [part, hn.run, hv]
theorem partN {t off n} {cs : Array Value} (hn : IsAgg P t) (hs : TS P t n) (w : World) : (part t cs off).run P w = .ok (.agg (cs.extract off (off + n))) w := by
  simp [part, hn.run, hs.run]

theorem EqV.struct {k t xs ys b} {fs : Array Field} (hu : P.underlying t = some (.struct fs)) (hp : P.stoodInHeld t = false) (h : EqF P k xs ys fs.toList b) : EqV P (k + 1) t (.agg xs) (.agg ys) b := fun d w => by
  have hf : P.fieldsOf t = fs := by simp [Program.fieldsOf, hu]
  have := run_equalIn_struct (P := P) w (d + k) t xs ys (by rw [hf]; exact hu) hp
  rw [show d + (k + 1) = (d + k) + 1 from by omega, this, hf]
  exact h d w

section
variable {N : Nat} {E : Env} {Γ : List SProp} {dst : Option Tmp} {ty : TypeId} {pos : String} {after : Array Edge} {guard : Option (Nat × Bool)}
theorem Reads.eqA {k t x y t'} {xs ys : Array Value} {b : Bool} (hg : P.eqGuardType P.depth t = false) (hk : Nat.ble k 10000 = true) (h : EqV P k t (.agg xs) (.agg ys) b) (hx : ev E x = some (.agg xs)) (hy : ev E y = some (.agg ys)) :
    Reads P N E Γ ⟨dst, .binOp .eql t x y t', ty, pos, after, guard⟩ (.bool b) :=
  .bin hx hy (fun w => run_eqGuard_agg w .eql t x y xs ys hg) fun w => by
    have hk' := Nat.le_of_ble_eq_true hk
    have := h (10000 - k) w
    rw [show 10000 - k + k = 10000 from by omega] at this
    rw [run_eql_struct, this]; rfl
theorem Reads.neA {k t x y t'} {xs ys : Array Value} {b : Bool} (hg : P.eqGuardType P.depth t = false) (hk : Nat.ble k 10000 = true) (h : EqV P k t (.agg xs) (.agg ys) b) (hx : ev E x = some (.agg xs)) (hy : ev E y = some (.agg ys)) :
    Reads P N E Γ ⟨dst, .binOp .neq t x y t', ty, pos, after, guard⟩ (.bool (!b)) :=
  .bin hx hy (fun w => run_eqGuard_agg w .neq t x y xs ys hg) fun w => by
    have hk' := Nat.le_of_ble_eq_true hk
    have := h (10000 - k) w
    rw [show 10000 - k + k = 10000 from by omega] at this
    rw [run_neq_struct, this]; rfl
end

/-! ### Keys -/

/-- At any depth from k on, the value may be a key. -/
def CkV (P : Program) (k : Nat) (t : TypeId) (v : Value) : Prop := ∀ em n w, (Instr.checkKey em (n + k) t v).run P w = .ok () w
theorem CkV.int {t} {q q' : IntKind} {a : Int} (hu : P.underlying t = some (.int q)) : CkV P 1 t (.int q' a) := fun em n w => by rw [Instr.checkKey.eq_def]; simp [underlying, hu]
theorem CkV.bool {t} {a : Bool} (hu : P.underlying t = some .bool) : CkV P 1 t (.bool a) := fun em n w => by rw [Instr.checkKey.eq_def]; simp [underlying, hu]
theorem CkV.string {t} {a : ByteArray} (hu : P.underlying t = some .string) : CkV P 1 t (.string a) := fun em n w => by rw [Instr.checkKey.eq_def]; simp [underlying, hu]
theorem CkV.up {k j t v} (h : CkV P k t v) (hj : k ≤ j) : CkV P j t v := fun em n w => by
  have := h em (n + (j - k)) w
  rwa [show n + (j - k) + k = n + j from by omega] at this
inductive CkF (P : Program) (k : Nat) (xs : Array Value) : List Field → Prop
  | nil : CkF P k xs []
  | cons {f fs a} : f.name ≠ "_" → (∀ w, (part f.type xs f.offset).run P w = .ok a w) → CkV P k f.type a → CkF P k xs fs → CkF P k xs (f :: fs)
theorem CkV.struct {k t xs} {fs : Array Field} (hu : P.underlying t = some (.struct fs)) (h : CkF P k xs fs.toList) : CkV P (k + 1) t (.agg xs) := fun em n w => by
  rw [show n + (k + 1) = (n + k) + 1 from by omega, Instr.checkKey.eq_def]
  simp only [underlying, Sem.run_bind, run_program, Result.andThen_ok, hu, Sem.run_pure]
  rw [← Array.forIn_toList]
  generalize fs.toList = l at h
  clear hu
  induction h with
  | nil => rfl
  | cons h1 h2 h3 _ ih =>
    rw [List.forIn_cons]
    simp only [Sem.run_bind, if_pos h1, h2, Result.andThen_ok, h3 em n, Sem.run_pure]
    exact ih

/-- What the laws on maps ask of a kind of keys. -/
structure KL (P : Program) (k : TypeId) {κ : Type} [DecidableEq κ] (enc : κ → Value) : Prop where
  inj : ∀ x y, enc x = enc y → x = y
  check : ∀ em x w, (Instr.checkKey em 10000 k (enc x)).run P w = .ok () w
  find : ∀ x (es : List MapEntry) (ks : List κ), es.map (·.key) = ks.map enc → ∀ w, (Instr.findKey k (enc x) es).run P w = .ok ((ks.findIdx? fun y => decide (x = y)).bind fun i => (es[i]?).map fun e => (i, e.val)) w
  stays : ∀ x w, (Instr.keyThatStays (enc x) (enc x)).run P w = .ok (enc x) w

theorem findNow_spec {κ : Type} [DecidableEq κ] {enc : κ → Value} {kd : TypeDesc} (h : ∀ x y, Instr.sameNow kd (enc x) (enc y) = some (decide (x = y))) (x : κ) : ∀ (es : List MapEntry) (ks : List κ) (i : Nat), es.map (·.key) = ks.map enc →
    Instr.findNow kd (enc x) es i = some ((ks.findIdx? fun y => decide (x = y)).bind fun j => (es[j]?).map fun e => (i + j, e.val))
  | [], [], _, _ => rfl
  | [], _ :: _, _, e => by simp at e
  | _ :: _, [], _, e => by simp at e
  | e :: es, y :: ks, i, h0 => by
    simp only [List.map_cons, List.cons.injEq] at h0
    obtain ⟨h1, h2⟩ := h0
    simp only [Instr.findNow, h1, h x y]
    by_cases hxy : x = y
    · subst hxy; simp [List.findIdx?_cons]
    · simp only [hxy, decide_false, List.findIdx?_cons, Bool.false_eq_true, if_false]
      rw [findNow_spec h x es ks (i + 1) h2]
      cases List.findIdx? (fun y => decide (x = y)) ks with
      | none => rfl
      | some j => simp [Nat.add_assoc, Nat.add_comm 1 j]

theorem findAsking_spec {κ : Type} [DecidableEq κ] {enc : κ → Value} {k : TypeId} (h : ∀ x y w, (Op.equal k (enc x) (enc y)).run P w = .ok (decide (x = y)) w) (x : κ) (w : World) : ∀ (es : List MapEntry) (ks : List κ) (i : Nat), es.map (·.key) = ks.map enc →
    (Instr.findAsking k (enc x) es i).run P w = .ok ((ks.findIdx? fun y => decide (x = y)).bind fun j => (es[j]?).map fun e => (i + j, e.val)) w
  | [], [], _, _ => rfl
  | [], _ :: _, _, e => by simp at e
  | _ :: _, [], _, e => by simp at e
  | e :: es, y :: ks, i, h0 => by
    simp only [List.map_cons, List.cons.injEq] at h0
    obtain ⟨h1, h2⟩ := h0
    simp only [Instr.findAsking, h1, Sem.run_bind, h x y w, Result.andThen_ok]
    by_cases hxy : x = y
    · subst hxy; simp [List.findIdx?_cons]
    · simp only [hxy, decide_false, List.findIdx?_cons, Bool.false_eq_true, if_false]
      rw [findAsking_spec h x w es ks (i + 1) h2]
      cases List.findIdx? (fun y => decide (x = y)) ks with
      | none => rfl
      | some j => simp [Nat.add_assoc, Nat.add_comm 1 j]

theorem sameNow_find {κ : Type} [DecidableEq κ] {enc : κ → Value} {k : TypeId} {kd : TypeDesc} (hu : P.underlying k = some kd) (h : ∀ x y, Instr.sameNow kd (enc x) (enc y) = some (decide (x = y))) (x : κ) (es : List MapEntry) (ks : List κ) (hk : es.map (·.key) = ks.map enc) (w : World) :
    (Instr.findKey k (enc x) es).run P w = .ok ((ks.findIdx? fun y => decide (x = y)).bind fun i => (es[i]?).map fun e => (i, e.val)) w := by
  simp only [Instr.findKey, underlying, Sem.run_bind, run_program, Result.andThen_ok, hu, Sem.run_pure, findNow_spec h x es ks 0 hk]
  simp

theorem KL.int {k : TypeId} {q : IntKind} (hu : P.underlying k = some (.int q)) : KL P k (fun n : Int => .int q n) where
  inj _ _ e := by simpa using e
  check em x w := by
    have : ∀ n, (Instr.checkKey em (n + 1) k (.int q x)).run P w = .ok () w := fun n => by simp [Instr.checkKey, underlying, hu]
    exact this 9999
  find := sameNow_find hu fun x y => by simp only [Instr.sameNow, if_true]; congr 1
  stays x w := by simp [Instr.keyThatStays, Instr.sameBits]

theorem KL.string {k : TypeId} (hu : P.underlying k = some .string) : KL P k (fun s : ByteArray => .string s) where
  inj _ _ e := by simpa using e
  check em x w := by
    have : ∀ n, (Instr.checkKey em (n + 1) k (.string x)).run P w = .ok () w := fun n => by simp [Instr.checkKey, underlying, hu]
    exact this 9999
  find := sameNow_find hu fun x y => by simp only [Instr.sameNow, beqS]
  stays x w := by simp [Instr.keyThatStays, Instr.sameBits, beqS]

theorem KL.struct {κ : Type} [DecidableEq κ] {enc : κ → Array Value} {k : TypeId} {fs : Array Field} (hu : P.underlying k = some (.struct fs)) (hinj : ∀ x y, enc x = enc y → x = y)
    (hc : ∀ x, CkV P 20 k (.agg (enc x))) (he : ∀ x y, EqV P 20 k (.agg (enc x)) (.agg (enc y)) (decide (x = y)))
    (hs : ∀ x n, Instr.sameBits (n + 1) (.agg (enc x)) (.agg (enc x)) = true) : KL P k (fun x => .agg (enc x)) where
  inj x y e := hinj x y (by simpa using e)
  check em x w := hc x em 9980 w
  find x es ks hk w := by
    have heq : ∀ x y w, (Op.equal k (.agg (enc x)) (.agg (enc y))).run P w = .ok (decide (x = y)) w := fun x y w => he x y 9980 w
    cases es with
    | nil =>
      cases ks with
      | nil => simp [Instr.findKey, underlying, hu, Instr.findNow]
      | cons _ _ => simp at hk
    | cons e es =>
      cases ks with
      | nil => simp at hk
      | cons y ks =>
        have h1 : e.key = .agg (enc y) := by simp at hk; exact hk.1
        have hn : Instr.findNow (.struct fs) (.agg (enc x)) (e :: es) 0 = none := by simp [Instr.findNow, Instr.sameNow]
        simp only [Instr.findKey, underlying, Sem.run_bind, run_program, Result.andThen_ok, hu, Sem.run_pure, hn]
        rw [findAsking_spec heq x w (e :: es) (y :: ks) 0 hk]
        simp
  stays x w := by simp [Instr.keyThatStays, hs x 9999]

/-! ### A map one's own -/

/-- A map: keys and values of one's own kinds; m says what is under each key. -/
def mp {κ ν : Type} [DecidableEq κ] (enc : κ → Value) (venc : ν → Value) (b : Nat) (l : List (κ × ν)) : SProp := fun h =>
  ∃ es clock, h b = some (false, .map es clock) ∧ es.toList.map (fun e => (e.key, e.val)) = l.map (fun p => (enc p.1, venc p.2)) ∧ (l.map (·.1)).Nodup ∧
    (es.toList.map (·.born)).Nodup ∧ ∀ e ∈ es.toList, e.born < clock

section
variable {κ ν : Type} [DecidableEq κ] {enc : κ → Value} {venc : ν → Value}

/-- What a list of pairs has under a key. -/
def mget (l : List (κ × ν)) (x : κ) : Option ν := (l.find? fun p => decide (x = p.1)).map (·.2)
/-- .. with another value there. -/
def mset (l : List (κ × ν)) (x : κ) (v : ν) : List (κ × ν) := if l.any (fun p => decide (x = p.1)) then l.map (fun p => if x = p.1 then (p.1, v) else p) else l ++ [(x, v)]
def mdel (l : List (κ × ν)) (x : κ) : List (κ × ν) := l.filter fun p => !decide (x = p.1)

theorem mget_nil (x : κ) : mget ([] : List (κ × ν)) x = none := rfl
theorem mget_cons (p : κ × ν) (l : List (κ × ν)) (x : κ) : mget (p :: l) x = if x = p.1 then some p.2 else mget l x := by
  unfold mget
  by_cases h : x = p.1 <;> simp [h]

theorem mget_append (l l' : List (κ × ν)) (x : κ) : mget (l ++ l') x = (mget l x).or (mget l' x) := by
  induction l with
  | nil => simp [mget_nil]
  | cons p l ih => rw [List.cons_append, mget_cons, mget_cons, ih]; by_cases h : x = p.1 <;> simp [h]

theorem mget_none {l : List (κ × ν)} {x : κ} : mget l x = none ↔ l.any (fun p => decide (x = p.1)) = false := by
  induction l with
  | nil => simp [mget_nil]
  | cons p l ih => rw [mget_cons]; by_cases h : x = p.1 <;> simp [h, ih]

theorem mget_mset (l : List (κ × ν)) (x y : κ) (v : ν) : mget (mset l x v) y = if y = x then some v else mget l y := by
  unfold mset
  split
  · rename_i h
    induction l with
    | nil => simp at h
    | cons p l ih =>
      rw [List.map_cons, mget_cons, mget_cons]
      by_cases hp : x = p.1
      · subst hp
        by_cases hy : y = p.1
        · simp [hy]
        · simp only [if_true, hy, if_false]
          by_cases h2 : l.any (fun q => decide (p.1 = q.1)) = true
          · rw [ih h2]; simp [hy]
          · have : l.map (fun q => if p.1 = q.1 then (q.1, v) else q) = l := by
              refine (List.map_congr_left (g := id) fun q hq => ?_).trans (List.map_id _)
              have : ¬ p.1 = q.1 := fun e => h2 (List.any_eq_true.2 ⟨q, hq, by simp [e]⟩)
              simp [this]
            rw [this]
      · simp only [hp, if_false]
        have h2 : l.any (fun q => decide (x = q.1)) = true := by simpa [hp] using h
        rw [ih h2]
        by_cases hy : y = p.1
        · have : y ≠ x := fun e => hp (e ▸ hy)
          simp [hy, Ne.symm hp]
        · simp [hy]
  · rename_i h
    rw [mget_append, mget_cons, mget_nil]
    by_cases hy : y = x
    · subst hy
      have : mget l y = none := mget_none.2 (Bool.eq_false_iff.2 h)
      simp [this]
    · simp [hy]

theorem mget_mdel (l : List (κ × ν)) (x y : κ) : mget (mdel l x) y = if y = x then none else mget l y := by
  unfold mdel
  induction l with
  | nil => simp [mget_nil]
  | cons p l ih =>
    rw [List.filter_cons]
    by_cases hp : x = p.1
    · subst hp
      simp only [decide_true, Bool.not_true, Bool.false_eq_true, if_false]
      rw [ih, mget_cons]
      by_cases hy : y = p.1 <;> simp [hy]
    · simp only [hp, decide_false, Bool.not_false, if_true]
      rw [mget_cons, mget_cons, ih]
      by_cases hy : y = p.1
      · have : y ≠ x := fun e => hp (e ▸ hy)
        simp [hy, Ne.symm hp]
      · simp [hy]

theorem mset_keys (l : List (κ × ν)) (x : κ) (v : ν) : (mset l x v).map (·.1) = if l.any (fun p => decide (x = p.1)) then l.map (·.1) else l.map (·.1) ++ [x] := by
  unfold mset
  split
  · rw [List.map_map]
    refine List.map_congr_left fun p _ => ?_
    simp only [Function.comp]
    split <;> rfl
  · simp

theorem mset_nodup {l : List (κ × ν)} (h : (l.map (·.1)).Nodup) (x : κ) (v : ν) : ((mset l x v).map (·.1)).Nodup := by
  rw [mset_keys]
  split
  · exact h
  · rename_i hn
    rw [List.nodup_append]
    refine ⟨h, by simp, fun a ha b hb e => ?_⟩
    simp at hb
    subst hb e
    obtain ⟨p, hp, hp1⟩ := List.mem_map.1 ha
    exact hn (List.any_eq_true.2 ⟨p, hp, by simp [hp1]⟩)

theorem mdel_nodup {l : List (κ × ν)} (h : (l.map (·.1)).Nodup) (x : κ) : ((mdel l x).map (·.1)).Nodup := by
  unfold mdel
  exact h.sublist ((List.filter_sublist).map _)

theorem Sat.mp_own {A w b Γ} {l : List (κ × ν)} (s : Sat A w (Sp.mp enc venc b l :: Γ)) : ∃ es clock, w.heap[b]? = some (.map es clock) ∧ es.toList.map (fun e => (e.key, e.val)) = l.map (fun p => (enc p.1, venc p.2)) ∧ (l.map (·.1)).Nodup ∧
    (es.toList.map (·.born)).Nodup ∧ (∀ e ∈ es.toList, e.born < clock) ∧ Sat A w (Sp.own b (.map es clock) :: Γ) := by
  obtain ⟨a, h, f, h1, h2, ok, l1, l2, ⟨es, clock, e0, e1, e2, e3, e4⟩, t⟩ := s
  exact ⟨es, clock, f b _ (l1 b _ e0), e1, e2, e3, e4, a, h, f, h1, h2, ok, l1, l2, e0, t⟩

theorem Sat.mp_of {A w b Γ} {l : List (κ × ν)} {es : Array MapEntry} {clock : Nat} (s : Sat A w (Sp.own b (.map es clock) :: Γ)) (e1 : es.toList.map (fun e => (e.key, e.val)) = l.map (fun p => (enc p.1, venc p.2))) (e2 : (l.map (·.1)).Nodup)
    (e3 : (es.toList.map (·.born)).Nodup) (e4 : ∀ e ∈ es.toList, e.born < clock) : Sat A w (Sp.mp enc venc b l :: Γ) := by
  obtain ⟨a, h, f, h1, h2, ok, l1, l2, e0, t⟩ := s
  exact ⟨a, h, f, h1, h2, ok, l1, l2, ⟨es, clock, e0, e1, e2, e3, e4⟩, t⟩

theorem keys_of {κ' ν' : Type} {enc' : κ' → Value} {venc' : ν' → Value} {es : List MapEntry} {l : List (κ' × ν')} (e : es.map (fun e => (e.key, e.val)) = l.map (fun p => (enc' p.1, venc' p.2))) : es.map (·.key) = (l.map (·.1)).map enc' := by
  have := congrArg (List.map Prod.fst) e
  simpa [List.map_map, Function.comp_def] using this

theorem findIdx_mget {es : List MapEntry} {l : List (κ × ν)} (e : es.map (fun e => (e.key, e.val)) = l.map (fun p => (enc p.1, venc p.2))) (x : κ) :
    (((l.map (·.1)).findIdx? fun y => decide (x = y)).bind fun i => (es[i]?).map fun e => (i, e.val)) = ((l.map (·.1)).findIdx? fun y => decide (x = y)).bind fun i => (l[i]?).map fun p => (i, venc p.2) := by
  cases hh : (l.map (·.1)).findIdx? fun y => decide (x = y) with
  | none => rfl
  | some i =>
    simp only [Option.bind_some]
    have := congrArg (fun l => l[i]?) e
    simp only [List.getElem?_map] at this
    cases e1 : es[i]? with
    | none => cases e2 : l[i]? with
      | none => rfl
      | some p => simp [e1, e2] at this
    | some en => cases e2 : l[i]? with
      | none => simp [e1, e2] at this
      | some p => simp [e1, e2] at this ⊢; exact this.2

theorem findIdx_keys (l : List (κ × ν)) (x : κ) : (((l.map (·.1)).findIdx? fun y => decide (x = y)).bind fun i => (l[i]?).map (·.2)) = mget l x := by
  induction l with
  | nil => rfl
  | cons p l ih =>
    rw [mget_cons, List.map_cons, List.findIdx?_cons]
    by_cases h : x = p.1
    · simp [h]
    · simp only [h, decide_false, Bool.false_eq_true, if_false, ← ih]
      cases List.findIdx? (fun y => decide (x = y)) (l.map (·.1)) <;> simp

variable {N : Nat} {E : Env} {Γ Γ' : List SProp} {dst : Option Tmp} {ty : TypeId} {pos : String} {after : Array Edge} {guard : Option (Nat × Bool)}

/-- m[k], of a map one's own. -/
theorem Reads.lookup {t k e x ix b z} {l : List (κ × ν)} {q : κ} (K : KL P k enc) (hu : P.underlying t = some (.map k e)) (hz : ∀ w, (zeroValue e).run P w = .ok z w) (hx : ev E x = some (.map (some b))) (hi : ev E ix = some (enc q)) (p : Pick (mp enc venc b l) Γ Γ') :
    Reads P N E Γ ⟨dst, .lookup t x ix false, ty, pos, after, guard⟩ (((mget l q).map venc).getD z) := fun A w a hf hs => by
  obtain ⟨es, clock, hh, e1, e2, e3, e4, _⟩ := (hs.map fun _ => p.sat).mp_own
  have hfnd := K.find q es.toList (l.map (·.1)) (keys_of e1) w
  rw [findIdx_mget e1] at hfnd
  have hg : (getObj b).run P w = .ok (.map es clock) w := by simp [getObj, Sem.run, hh]
  have h2 := findIdx_keys l q
  simp only [execOp, hf.eval hx, hf.eval hi, Instr.lookup, Sem.run_bind, underlying, run_program, Result.andThen_ok, hu, Sem.run_pure, hg, K.check, hfnd]
  cases hj : (l.map (·.1)).findIdx? fun y => decide (q = y) with
  | none => simp [hj] at h2 ⊢; rw [hz]; simp [← h2]
  | some i =>
    simp only [hj, Option.bind_some] at h2 ⊢
    cases hp : l[i]? with
    | none =>
      have hlt := (List.findIdx?_eq_some_iff_findIdx_eq.1 hj).1
      have : l.length ≤ i := List.getElem?_eq_none_iff.1 hp
      simp at hlt; omega
    | some pr => simp [hp] at h2 ⊢; simp [← h2]

/-- v, ok := m[k]. -/
theorem Reads.lookupOk {t k e x ix b z} {l : List (κ × ν)} {q : κ} (K : KL P k enc) (hu : P.underlying t = some (.map k e)) (hz : ∀ w, (zeroValue e).run P w = .ok z w) (hx : ev E x = some (.map (some b))) (hi : ev E ix = some (enc q)) (p : Pick (mp enc venc b l) Γ Γ') :
    Reads P N E Γ ⟨dst, .lookup t x ix true, ty, pos, after, guard⟩ (.tuple #[((mget l q).map venc).getD z, .bool (mget l q).isSome]) := fun A w a hf hs => by
  obtain ⟨es, clock, hh, e1, e2, e3, e4, _⟩ := (hs.map fun _ => p.sat).mp_own
  have hfnd := K.find q es.toList (l.map (·.1)) (keys_of e1) w
  rw [findIdx_mget e1] at hfnd
  have hg : (getObj b).run P w = .ok (.map es clock) w := by simp [getObj, Sem.run, hh]
  have h2 := findIdx_keys l q
  simp only [execOp, hf.eval hx, hf.eval hi, Instr.lookup, Sem.run_bind, underlying, run_program, Result.andThen_ok, hu, Sem.run_pure, hg, K.check, hfnd]
  cases hj : (l.map (·.1)).findIdx? fun y => decide (q = y) with
  | none => simp [hj] at h2 ⊢; rw [hz]; simp [← h2]
  | some i =>
    simp only [hj, Option.bind_some] at h2 ⊢
    cases hp : l[i]? with
    | none =>
      have hlt := (List.findIdx?_eq_some_iff_findIdx_eq.1 hj).1
      have : l.length ≤ i := List.getElem?_eq_none_iff.1 hp
      simp at hlt; omega
    | some pr => simp [hp] at h2 ⊢; simp [← h2]

theorem Sat.setObj {A w b o o' Γ} (s : Sat A w (Sp.own b o :: Γ)) (ho : ∀ c e f, o ≠ Obj.cells c e f) : (Go.setObj b o').run P w = .ok () { w with heap := w.heap.setIfInBounds b o' } ∧ Sat A { w with heap := w.heap.setIfInBounds b o' } (Sp.own b o' :: Γ) := by
  have hh := s.own
  have hlt : b < w.heap.size := (Array.getElem?_eq_some_iff.1 hh).1
  refine ⟨?_, s.update ?_ ?_ rfl⟩
  · cases o <;> first | exact absurd rfl (ho _ _ _) | simp [Go.setObj, Sem.run, hh]
  · show (w.heap.setIfInBounds b o')[b]? = _
    simp [hlt]
  · intro c hc
    show (w.heap.setIfInBounds b o')[c]? = _
    rw [Array.getElem?_setIfInBounds_ne (Ne.symm hc)]

theorem mset_found {l : List (κ × ν)} {q : κ} {v : ν} {i : Nat} (hn : (l.map (·.1)).Nodup) (h : ((l.map (·.1)).findIdx? fun y => decide (q = y)) = some i) : i < l.length ∧ (l[i]?).map (·.1) = some q ∧ mset l q v = l.set i (q, v) := by
  obtain ⟨hlt, h2⟩ := List.findIdx?_eq_some_iff_findIdx_eq.1 h
  have hlt' : i < l.length := by simpa using hlt
  obtain ⟨hq, _⟩ := (List.findIdx?_eq_some_iff_getElem.1 h).2
  simp at hq
  refine ⟨hlt', by simp [hlt', hq], ?_⟩
  unfold mset
  rw [if_pos (List.any_eq_true.2 ⟨l[i], List.getElem_mem hlt', by simp [hq]⟩)]
  apply List.ext_getElem?
  intro j
  rw [List.getElem?_map, List.getElem?_set]
  by_cases hj : i = j
  · subst hj; simp [hlt', hq]
  · simp only [hj, if_false]
    by_cases hjl : j < l.length
    · have hne : q ≠ l[j].1 := by
        intro e
        have := List.pairwise_iff_getElem.1 hn
        rcases Nat.lt_or_ge i j with hij | hij
        · exact this i j (by simpa using hlt') (by simpa using hjl) hij (by simp [← hq, e])
        · exact this j i (by simpa using hjl) (by simpa using hlt') (by omega) (by simp [← hq, e])
      simp [hjl, hne]
    · simp [hjl]

theorem mset_new {l : List (κ × ν)} {q : κ} {v : ν} (h : ((l.map (·.1)).findIdx? fun y => decide (q = y)) = none) : mset l q v = l ++ [(q, v)] := by
  unfold mset
  rw [if_neg]
  intro h1
  obtain ⟨p, hp, hq⟩ := List.any_eq_true.1 h1
  have := List.findIdx?_eq_none_iff.1 h p.1 (List.mem_map_of_mem hp)
  simp at this hq
  exact this hq

/-- m[k] = v. -/
theorem Eff.mapUpdate {t k e x ix y b} {l : List (κ × ν)} {q : κ} {u : ν} (K : KL P k enc) (hu : P.underlying t = some (.map k e)) (hx : ev E x = some (.map (some b))) (hi : ev E ix = some (enc q)) (hy : ev E y = some (venc u)) (p : Pick (mp enc venc b l) Γ Γ') :
    Eff P N E Γ ⟨dst, .mapUpdate t x ix y, ty, pos, after, guard⟩ fun _ Γ'' => Γ'' = mp enc venc b (mset l q u) :: Γ' := by
  intro A F w a nx Z hf hsat hn
  obtain ⟨es, clock, hh, e1, e2, e3, e4, hs⟩ := (hsat.map fun _ => (p.app F).sat).mp_own
  have hfnd := K.find q es.toList (l.map (·.1)) (keys_of e1) w
  have hg : (getObj b).run P w = .ok (.map es clock) w := by simp [getObj, Sem.run, hh]
  have hlen : es.toList.length = l.length := by simpa using congrArg List.length e1
  unfold Oper.wp
  cases hj : (l.map (·.1)).findIdx? fun y => decide (q = y) with
  | none =>
    obtain ⟨r1, s1⟩ := Sat.setObj (P := P) (o' := .map (es.push { key := enc q, val := venc u, born := clock }) (clock + 1)) hs (by simp)
    simp only [hj, Option.bind_none] at hfnd
    simp [execOp, hf.eval hx, hf.eval hi, hf.eval hy, Instr.mapUpdate, underlying, hu, hg, K.check, hfnd, r1, Oper.upon]
    refine hn _ _ _ rfl (Sat.mp_of s1 ?_ (mset_nodup e2 _ _) ?_ ?_)
    · rw [mset_new hj]; simp [e1]
    · simp only [Array.toList_push, List.map_append, List.map_cons, List.map_nil]
      rw [List.nodup_append]
      refine ⟨e3, by simp, fun x hx y hy e => ?_⟩
      simp at hy; subst hy e
      obtain ⟨en, hen, he⟩ := List.mem_map.1 hx
      have := e4 en hen
      omega
    · intro en hen
      simp at hen
      rcases hen with hen | rfl
      · have := e4 en (by simpa using hen); omega
      · simp
  | some i =>
    obtain ⟨hlt, hq, hset⟩ := mset_found (v := u) e2 hj
    have hi' : i < es.toList.length := by omega
    have hkey : (es[i]?).map (·.key) = some (enc q) := by
      have h0 : es.toList[i]? = es[i]? := Array.getElem?_toList
      have := congrArg (fun l => (l[i]?).map Prod.fst) e1
      simp only [List.getElem?_map, Option.map_map] at this
      rw [← h0]
      cases hl : l[i]? with
      | none => simp [hl] at hq
      | some pr => simp [hl] at hq this; rw [hq] at this; simpa [Function.comp_def] using this
    have hval : ∃ en, es[i]? = some en := by
      cases h : es[i]? with
      | none => simp [h] at hkey
      | some en => exact ⟨en, rfl⟩
    obtain ⟨en, hen⟩ := hval
    simp only [hj, Option.bind_some, Array.getElem?_toList, hen, Option.map_some] at hfnd
    have hkeq : en.key = enc q := by simpa [hen] using hkey
    obtain ⟨r1, s1⟩ := Sat.setObj (P := P) (o' := .map (es.modify i fun e => { e with key := enc q, val := venc u }) clock) hs (by simp)
    simp [execOp, hf.eval hx, hf.eval hi, hf.eval hy, Instr.mapUpdate, underlying, hu, hg, K.check, hfnd, hen, hkeq, K.stays, r1, Oper.upon]
    have hmod : (es.modify i fun e => { e with key := enc q, val := venc u }).toList = es.toList.set i { en with key := enc q, val := venc u } := by
      apply List.ext_getElem?
      intro j
      rw [Array.getElem?_toList, Array.getElem?_modify, List.getElem?_set]
      by_cases hji : i = j
      · subst hji; simp [hen]; simpa using hi'
      · simp [hji]
    refine hn _ _ _ rfl (Sat.mp_of s1 ?_ (mset_nodup e2 _ _) ?_ ?_)
    · rw [hset, hmod, List.map_set, List.map_set, e1]
    · rw [hmod, List.map_set]
      have : (es.toList.map (·.born)).set i en.born = es.toList.map (·.born) := by
        apply List.ext_getElem?
        intro j
        rw [List.getElem?_set]
        by_cases hji : i = j
        · subst hji
          have h0 : es.toList[i]? = some en := by rw [Array.getElem?_toList]; exact hen
          simp [h0]
          simpa using hi'
        · simp [hji]
      simp only [this]; exact e3
    · intro x hx
      rw [hmod] at hx
      rcases List.mem_or_eq_of_mem_set hx with hx | rfl
      · exact e4 x hx
      · exact e4 en (by rw [Array.mem_toList_iff]; exact Array.mem_of_getElem? hen)

theorem map_eraseIdx' {α β : Type} (f : α → β) : ∀ (l : List α) (j : Nat), (l.eraseIdx j).map f = (l.map f).eraseIdx j
  | [], _ => by simp
  | _ :: _, 0 => by simp
  | x :: l, j + 1 => by simp [map_eraseIdx' f l j]

/-- delete(m, k). -/
theorem Eff.mapDelete {args : Array Operand} {ts : Array TypeId} {t tk k e x ix b} {l : List (κ × ν)} {q : κ} (K : KL P k enc) (ha : args = #[x, ix]) (hts : ts = #[t, tk]) (hu : P.underlying t = some (.map k e)) (hx : ev E x = some (.map (some b))) (hi : ev E ix = some (enc q)) (p : Pick (mp enc venc b l) Γ Γ') :
    Eff P N E Γ ⟨dst, .call ⟨.builtin .delete, args, ts⟩, ty, pos, after, guard⟩ fun _ Γ'' => Γ'' = mp enc venc b (mdel l q) :: Γ' := by
  subst ha hts
  intro A F w a nx Z hf hsat hn
  obtain ⟨es, clock, hh, e1, e2, e3, e4, hs⟩ := (hsat.map fun _ => (p.app F).sat).mp_own
  have hfnd := K.find q es.toList (l.map (·.1)) (keys_of e1) w
  have hg : (getObj b).run P w = .ok (.map es clock) w := by simp [getObj, Sem.run, hh]
  have hlen : es.toList.length = l.length := by simpa using congrArg List.length e1
  unfold Oper.wp
  cases hj : (l.map (·.1)).findIdx? fun y => decide (q = y) with
  | none =>
    obtain ⟨r1, s1⟩ := Sat.setObj (P := P) (o' := .map es clock) hs (by simp)
    simp only [hj, Option.bind_none] at hfnd
    simp [execOp, resolve, invoke, builtin, hf.eval hx, hf.eval hi, Builtin.delete_, underlying, hu, hg, K.check, hfnd, r1, Oper.upon]
    refine hn _ _ _ rfl (Sat.mp_of s1 ?_ (mdel_nodup e2 _) e3 e4)
    have : mdel l q = l := by
      unfold mdel
      rw [List.filter_eq_self]
      intro pr hpr
      have := List.findIdx?_eq_none_iff.1 hj pr.1 (List.mem_map_of_mem hpr)
      simpa using this
    rw [this]; exact e1
  | some i =>
    obtain ⟨hlt, hq, _⟩ := mset_found (v := (l[i]'(by simpa using (List.findIdx?_eq_some_iff_findIdx_eq.1 hj).1)).2) e2 hj
    have hi' : i < es.toList.length := by omega
    have hval : ∃ en, es[i]? = some en := ⟨es.toList[i], by rw [← Array.getElem?_toList]; simp⟩
    obtain ⟨en, hen⟩ := hval
    simp only [hj, Option.bind_some, Array.getElem?_toList, hen, Option.map_some] at hfnd
    obtain ⟨r1, s1⟩ := Sat.setObj (P := P) (o' := .map (es.eraseIdxIfInBounds i) clock) hs (by simp)
    simp [execOp, resolve, invoke, builtin, hf.eval hx, hf.eval hi, Builtin.delete_, underlying, hu, hg, K.check, hfnd, r1, Oper.upon]
    have her : (es.eraseIdxIfInBounds i).toList = es.toList.eraseIdx i := by
      have hi2 : i < es.size := by simpa using hi'
      simp [Array.eraseIdxIfInBounds, hi2]
    have hdel : mdel l q = l.eraseIdx i := by
      unfold mdel
      have hq' : l[i].1 = q := by simpa [hlt] using hq
      obtain ⟨A', x, B', rfl, hA⟩ : ∃ A' x B', l = A' ++ x :: B' ∧ A'.length = i := ⟨l.take i, l[i], l.drop (i + 1), by simp, by simp; omega⟩
      subst hA
      have hx1 : x.1 = q := by simpa using hq'
      simp only [List.map_append, List.map_cons, List.nodup_append, List.nodup_cons] at e2
      obtain ⟨_, ⟨n2, _⟩, n3⟩ := e2
      rw [List.eraseIdx_append_of_length_le (Nat.le_refl _)]
      simp only [Nat.sub_self, List.eraseIdx_cons_zero, List.filter_append, List.filter_cons]
      have f1 : A'.filter (fun p => !decide (q = p.1)) = A' := List.filter_eq_self.2 fun p hp => by
        have := n3 p.1 (List.mem_map_of_mem hp) x.1 (by simp)
        simp; intro e; exact this (by rw [hx1]; exact e.symm)
      have f2 : B'.filter (fun p => !decide (q = p.1)) = B' := List.filter_eq_self.2 fun p hp => by
        simp; intro e; apply n2; rw [hx1, e]; exact List.mem_map_of_mem hp
      simp [f1, f2, hx1]
    refine hn _ _ _ rfl (Sat.mp_of s1 ?_ (mdel_nodup e2 _) ?_ ?_)
    · rw [hdel, her, map_eraseIdx', map_eraseIdx', e1]
    · rw [her, map_eraseIdx']; exact e3.sublist (List.eraseIdx_sublist _ _)
    · intro x hx
      rw [her] at hx
      exact e4 x (List.mem_of_mem_eraseIdx hx)

/-- make(map[K]V). -/
theorem Eff.makeMap {t : TypeId} : Eff P N E Γ ⟨dst, .makeMap t none, ty, pos, after, guard⟩ fun v Γ'' => ∃ b, v = .map (some b) ∧ Γ'' = mp enc venc b [] :: Γ := by
  intro A F w a nx Z hf hsat hn
  unfold Oper.wp
  simp [execOp, Instr.makeMap, Oper.upon]
  refine hn _ _ _ ⟨w.heap.size, rfl, rfl⟩ ?_
  exact Sat.mp_of (hsat.alloc (.map #[] 0)) rfl (by simp) (by simp) (by simp)

theorem Reads.lenM {args : Array Operand} {ts : Array TypeId} {x t k e b} {l : List (κ × ν)} (ha : args = #[x]) (hts : ts = #[t]) (hu : P.underlying t = some (.map k e)) (hx : ev E x = some (.map (some b))) (p : Pick (mp enc venc b l) Γ Γ') :
    Reads P N E Γ ⟨dst, .call ⟨.builtin .len, args, ts⟩, ty, pos, after, guard⟩ (.int .i64 l.length) := fun A w a hf hs => by
  subst ha hts
  obtain ⟨es, clock, hh, e1, e2, e3, e4, _⟩ := (hs.map fun _ => p.sat).mp_own
  have hg : (getObj b).run P w = .ok (.map es clock) w := by simp [getObj, Sem.run, hh]
  have hlen : es.toList.length = l.length := by simpa using congrArg List.length e1
  simp [execOp, resolve, invoke, builtin, Builtin.len_, hf.eval hx, underlying, hu, hg, goInt]
  simp at hlen; omega
end
end
end Go.Sp
