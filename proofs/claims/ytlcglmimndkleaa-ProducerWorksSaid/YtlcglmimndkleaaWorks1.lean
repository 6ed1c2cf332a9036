/- Part 1 of a claim's texts: rules for the machine's steps, and steps through functions of the program, under the conditions that each theorem states. -/
import Derived.Laws.IdiomStrings
import Derived.Laws.BytesArg
import Derived.WideKeyEntry
import Derived.ChangeKeysEq
import Derived.Lib.UnsafeStr
import Derived.Lib.Builder
import Derived.LaidEqlPtr
import Derived.KernelRfl
import Derived.Test.YtlcglmimndkleaaProg
import Derived.Test.YtlcglmimndkleaaWorks0
set_option linter.unusedVariables false
/- A separation logic over the given machine. Part 9: closures; what is known for good; more on rows. -/
namespace Go.Sp
open Go

section
variable {P : Program} {N : Nat} {E : Env} {Γ Γ' : List SProp} {dst : Option Tmp} {ty : TypeId} {pos : String} {after : Array Edge} {guard : Option (Nat × Bool)}
variable {ops : Array Oper} {rest os : List Oper} {K : Env → List SProp → Prop}

/-! ### Closures -/

theorem Eff.fnC {fo : Operand} {args : Array Operand} {ts : Array TypeId} {f : FuncId} {first cap : Array Value} {vs : List Value} {φ : World → Prop} {Γf : List SProp} {Q : Value → List SProp → Prop} (hfo : ev E fo = some (.func (.func f) first cap))
    (ha : evs E args.toList = some vs) (p : Picks Γf Γ Γ') (k : Knows Γ' φ) (h : Cn P f (first.toList ++ (vs ++ cap.toList)) φ Γf Q) :
    Eff P N E Γ ⟨dst, .call ⟨.value fo, args, ts⟩, ty, pos, after, guard⟩ fun v Γ'' => ∃ Γ1, Q v Γ1 ∧ Γ'' = Γ1 ++ Γ' := by
  refine (Eff.call hfo ha (Picks.self Γ) (h.ret p k)).mono ?_
  rintro v _ ⟨_, ⟨Γ1, hq, rfl⟩, rfl⟩
  exact ⟨Γ1, hq, by simp⟩

theorem RunO.fnC {d} {fo : Operand} {args : Array Operand} {ts : Array TypeId} {f : FuncId} {first cap : Array Value} {vs : List Value} {φ : World → Prop} {Γf : List SProp} {Q : Value → List SProp → Prop} (hfo : ev E fo = some (.func (.func f) first cap))
    (ha : evs E args.toList = some vs) (p : Picks Γf Γ Γ') (k : Knows Γ' φ) (h : Cn P f (first.toList ++ (vs ++ cap.toList)) φ Γf Q) (next : ∀ v Γ1, Q v Γ1 → RunO P N ops rest ((d, v) :: E) (Γ1 ++ Γ') K)
    (hd : Nat.blt d N = true := by rfl) : RunO P N ops (⟨some d, .call ⟨.value fo, args, ts⟩, ty, pos, after, none⟩ :: rest) E Γ K := by
  refine RunO.ef (Eff.fnC hfo ha p k h) ?_ hd
  rintro v _ ⟨Γ1, hq, rfl⟩
  exact next v Γ1 hq

theorem Ret.mono' {f args} {Q Q' : Value → List SProp → Prop} (h : Ret P f args Γ Q) (hq : ∀ v G, Q v G → ∃ G', (∃ Δ, Picks G' G Δ) ∧ Q' v G') : Ret P f args Γ Q' :=
  ⟨h.able, fun A F w s => (h.runs A F w s).mono fun _ _ ⟨v, G, e, q, s'⟩ => by
    obtain ⟨G', ⟨Δ, p⟩, q'⟩ := hq _ _ q
    refine ⟨v, G', e, q', ?_⟩
    obtain ⟨am, h, f, t⟩ := s'
    obtain ⟨h1, h2, ok, l1, l2, s1, s2⟩ := ((p.app F).sat t).split
    obtain ⟨_, k2, _, _, m2, _, s⟩ := s2.split
    exact ⟨am, h, f, sat.join ok l1 l2 s1 (s.mono m2)⟩⟩

/-- The first resource written otherwise. -/
theorem Run.cast {C : Cx} {k Q} {X X' : SProp} (h : X = X') (n : Run C k E (X' :: Γ) Q) : Run C k E (X :: Γ) Q := h ▸ n
theorem RunO.cast {X X' : SProp} (h : X = X') (n : RunO P N ops os E (X' :: Γ) K) : RunO P N ops os E (X :: Γ) K := h ▸ n

/-! ### What is known for good -/

/-- What no later step can undo: it lies in blocks that are only read. -/
def know (φ : World → Prop) : SProp := fun h => ∃ k : Hp, Hp.le k h ∧ (∀ b x, k b = some x → x.1 = true) ∧ ∀ w : World, Hp.fits k w → φ w

theorem Knows.know {φ : World → Prop} (p : Pick (Sp.know φ) Γ Γ') : Knows Γ φ := fun A w s => by
  obtain ⟨_, h, f, h1, h2, _, l, _, ⟨k, kl, _, e⟩, _⟩ := (s.map fun _ => p.sat)
  exact e w fun b x hx => f b x (l b x (kl b x hx))

theorem sat.know_dup {φ Γ h} (s : sat (know φ :: Γ) h) : sat (know φ :: know φ :: Γ) h := by
  obtain ⟨h1, h2, ok, l1, l2, ⟨k, kl, kr, e⟩, t⟩ := s
  refine ⟨k, h, ?_, kl.trans l1, .refl _, ⟨k, .refl _, kr, e⟩, h1, h2, ok, l1, l2, ⟨k, kl, kr, e⟩, t⟩
  intro b
  cases hb : k b with
  | none => exact .inl rfl
  | some x =>
    have := kr b x hb
    exact .inr (.inr ⟨by rw [l1 b x (kl b x hb)], x.2, by rw [← this]⟩)

theorem sat.know_mono {φ ψ : World → Prop} (H : ∀ w, φ w → ψ w) {h} (s : sat [know φ] h) : know ψ h := by
  obtain ⟨h1, h2, ok, l1, l2, ⟨k, kl, kr, e⟩, t⟩ := s
  exact ⟨k, kl.trans l1, kr, fun w f => H w (e w f)⟩

theorem sat.know_and {φ ψ : World → Prop} {h} (s : sat [know φ, know ψ] h) : know (fun w => φ w ∧ ψ w) h := by
  obtain ⟨h1, h2, ok, l1, l2, ⟨k, kl, kr, e⟩, h3, h4, ok2, m1, m2, ⟨j, jl, jr, e2⟩, _⟩ := s
  have okk : Hp.ok k j := ok.mono kl (jl.trans m1)
  refine ⟨Hp.un k j, Hp.un_le (kl.trans l1) (jl.trans (m1.trans l2)), fun b x hb => ?_, fun w f => ⟨e w fun b x hx => f b x (Hp.le_un_left _ _ b x hx), e2 w fun b x hx => f b x (Hp.le_un_right okk b x hx)⟩⟩
  cases h5 : k b with
  | none => simp [Hp.un, h5] at hb; exact jr b x hb
  | some y => simp [Hp.un, h5] at hb; subst hb; exact kr b y h5

/-- A resource given up: what it tells is known for good. -/
def Settles (X : SProp) (φ : World → Prop) : Prop := ∀ A w Γ, Sat A w (X :: Γ) → Sat A w (know φ :: Γ)

theorem Settles.mono {X : SProp} {φ ψ : World → Prop} (s : Settles X φ) (H : ∀ w, φ w → ψ w) : Settles X ψ := fun A w Γ h => by
  have h1 : Sat A w ([know φ] ++ Γ) := s A w Γ h
  exact Sat.close (fun h s => sat.know_mono H s) h1

theorem sat.ro_know {b o φ h} (H : ∀ w : World, w.heap[b]? = some o → φ w) (s : ro b o h) : know φ h := by
  refine ⟨fun c => if c = b then some (true, o) else none, fun c x hx => ?_, fun c x hx => ?_, fun w f => H w (f b (true, o) (by simp))⟩
  · by_cases hc : c = b
    · subst hc; simp at hx; subst hx; exact s
    · simp [hc] at hx
  · by_cases hc : c = b
    · subst hc; simp at hx; subst hx; rfl
    · simp [hc] at hx

theorem Settles.blk {b l e} : Settles (Sp.blk b l e) (CellsAt b 0 l) := fun A w Γ h => by
  obtain ⟨ho, fz, hfz, hh, h2⟩ := h.blk
  have h3 := Sat.share h2
  have h4 : Sat A w ([ro b (.cells l.toArray e fz)] ++ Γ) := h3
  refine Sat.close (fun h s => ?_) h4
  obtain ⟨k1, _, _, l1, _, s1, _⟩ := s
  have := sat.ro_know (φ := CellsAt b 0 l) (fun w' hw => ⟨fun i v hi => by rw [cell_of hw]; simpa using hi, ho⟩) s1
  obtain ⟨k, kl, kr, e⟩ := this
  exact ⟨k, kl.trans l1, kr, e⟩

theorem Settles.arr {e s a cap cs} : Settles (Sp.arr e s a cap cs) (RowAt a cs) := fun A w Γ h => by
  by_cases hc : 0 < cap
  · obtain ⟨x, ⟨hx1, hx2⟩, h1⟩ := Sat.open_ (X := Sp.arr e s a cap cs) (fun h s => arr.blk_of hc s) h
    have h2 := Settles.blk A w Γ (by simpa using h1)
    have h3 : Sat A w ([know (CellsAt x.1 0 (x.2.1 ++ (cs ++ x.2.2)))] ++ Γ) := h2
    refine Sat.close (fun h s => sat.know_mono (fun w' hw => ?_) s) h3
    refine .inr ⟨x.1, x.2.1.length, hx1, fun i v hi => ?_, hw.2.right.left⟩
    have := hw.1 (x.2.1.length + i) v (at_mid hi)
    simpa using this
  · have h1 := h.arr_row
    have hcap : cap = 0 := by omega
    have hcs : cs = [] := by
      have := h.arr_len.1
      subst hcap
      simp at this; exact this
    subst hcs
    have h2 := h.drop.nothing
    have h3 : Sat A w ([sat []] ++ Γ) := h2
    exact Sat.close (fun h _ => ⟨fun _ => none, fun _ _ e => by simp at e, fun _ _ e => by simp at e, fun _ _ => .inl rfl⟩) h3

theorem Run.settle {C : Cx} {k Q} {X : SProp} {φ : World → Prop} (p : Pick X Γ Γ') (s : Settles X φ) (n : Run C k E (know φ :: Γ') Q) : Run C k E Γ Q := fun A F w a hf hs =>
  n A F w a hf (s A w _ (hs.map fun _ => (p.app F).sat))
theorem RunO.settle {X : SProp} {φ : World → Prop} (p : Pick X Γ Γ') (s : Settles X φ) (n : RunO P N ops os E (know φ :: Γ') K) : RunO P N ops os E Γ K := fun A F w a Z hf hs hz =>
  n A F w a Z hf (s A w _ (hs.map fun _ => (p.app F).sat)) hz
theorem Run.dup {C : Cx} {k Q} {φ : World → Prop} (p : Pick (know φ) Γ Γ') (n : Run C k E (know φ :: know φ :: Γ') Q) : Run C k E Γ Q := fun A F w a hf hs =>
  n A F w a hf ((hs.map fun _ => (p.app F).sat).map fun _ => sat.know_dup)
theorem RunO.dup {φ : World → Prop} (p : Pick (know φ) Γ Γ') (n : RunO P N ops os E (know φ :: know φ :: Γ') K) : RunO P N ops os E Γ K := fun A F w a Z hf hs hz =>
  n A F w a Z hf ((hs.map fun _ => (p.app F).sat).map fun _ => sat.know_dup) hz

/-- What the memory at the start tells. -/
theorem sat.base_know {W : World} {φ : World → Prop} (H : ∀ w : World, (∀ (b : Nat) (o : Obj), W.heap[b]? = some o → w.heap[b]? = some o) → φ w) {h} (s : base W h) : know φ h := by
  refine ⟨fun c => (W.heap[c]?).map fun o => (true, o), fun c x hx => ?_, fun c x hx => ?_, fun w f => H w fun b o hb => f b (true, o) (by simp [hb])⟩
  · cases hc : W.heap[c]? with
    | none => simp [hc] at hx
    | some o => simp [hc] at hx; subst hx; exact s c o hc
  · cases hc : W.heap[c]? with
    | none => simp [hc] at hx
    | some o => simp [hc] at hx; subst hx; rfl

/-! ### Cutting -/

theorem splice_mid {pre cs post ys : List Value} {k : Nat} (hk : k + ys.length ≤ cs.length) : splice (pre ++ (cs ++ post)) (pre.length + k) ys = pre ++ (splice cs k ys ++ post) := by
  unfold splice
  rw [List.take_append, List.take_of_length_le (by omega), Nat.add_sub_cancel_left, List.take_append_of_le_length (by omega), List.drop_append, List.drop_eq_nil_of_le (by omega),
    show pre.length + k + ys.length - pre.length = k + ys.length by omega, List.drop_append_of_le_length (by omega)]
  simp [List.append_assoc]

/-- One element of a row is cut out, the others move up, the last place is filled. -/
theorem cut_cells {α : Type} {f : α → List Value} {w : Nat} (hw : ∀ x, (f x).length = w) (l : List α) (i : Nat) (hi : i < l.length) (zs : List Value) (hz : zs.length = w) :
    splice (splice (l.flatMap f) (i * w) ((l.drop (i + 1)).flatMap f)) ((l.length - 1) * w) zs = (l.eraseIdx i).flatMap f ++ zs := by
  have e1 : splice (l.flatMap f) (i * w) ((l.drop (i + 1)).flatMap f) = (l.eraseIdx i).flatMap f ++ (l.drop (l.length - 1)).flatMap f := by
    unfold splice
    rw [flat_take hw, flat_length hw, ← Nat.add_mul, flat_drop hw, List.length_drop]
    rw [show i + (l.length - (i + 1)) = l.length - 1 by omega, List.eraseIdx_eq_take_drop_succ, List.flatMap_append, List.append_assoc]
  have e2 : ((l.eraseIdx i).flatMap f).length = (l.length - 1) * w := by rw [flat_length hw, List.length_eraseIdx_of_lt hi]
  have e3 : ((l.drop (l.length - 1)).flatMap f).length = w := by
    rw [flat_length hw, List.length_drop, show l.length - (l.length - 1) = 1 by omega, Nat.one_mul]
  rw [e1]
  unfold splice
  rw [← e2, List.take_left', List.drop_eq_nil_of_le]
  · simp
  · simp only [List.length_append]; omega
  · rfl

theorem splice_elem {α : Type} {f : α → List Value} {w : Nat} (hw : ∀ x, (f x).length = w) (l : List α) (i : Nat) (hi : i < l.length) (x : α) : splice (l.flatMap f) (i * w) (f x) = (l.set i x).flatMap f := by
  unfold splice
  rw [flat_take hw, hw, show i * w + w = (i + 1) * w by rw [Nat.succ_mul], flat_drop hw, List.set_eq_take_append_cons_drop, if_pos hi]
  simp [List.flatMap_append]

theorem Knows.mid {α : Type} {f : α → List Value} {wd : Nat} (hw : ∀ x, (f x).length = wd) {b : Nat} {pre post : List Value} {l : List α} {e : TypeId} (p : Pick (Sp.blk b (pre ++ (l.flatMap f ++ post)) e) Γ Γ') {j : Nat} {x : α} (hx : l[j]? = some x) :
    Knows Γ (CellsAt b (pre.length + j * wd) (f x)) :=
  .blkAt p fun i v hv => by
    rw [Nat.add_assoc]
    exact at_mid (flat_at hw l j x hx i v hv)

end
end Go.Sp

/- A separation logic over the given machine. Part 11: stores into rows of one's own. -/
namespace Go.Sp
open Go

section
variable {P : Program} {N : Nat} {E : Env} {Γ Γ' : List SProp} {dst : Option Tmp} {ty : TypeId} {pos : String} {after : Array Edge} {guard : Option (Nat × Bool)}

/-- An element (one cell) of a row of one's own. -/
theorem Eff.storeArr {t x y v} {b o k s cap : Nat} {cs : List Value} {e : TypeId} (hs : TS P t 1) (hx : ev E x = some (.pointer (some ⟨b, o + k, none⟩))) (hy : ev E y = some v) (p : Pick (arr e s (some ⟨b, o, none⟩) cap cs) Γ Γ')
    (hk : k < cs.length) (hv : v.oneCell' = true := by rfl) :
    Eff P N E Γ ⟨dst, .store t x y, ty, pos, after, guard⟩ fun _ Γ'' => Γ'' = arr e s (some ⟨b, o, none⟩) cap (cs.set k v) :: Γ' := by
  intro A F w a nx Z hf hsat hn
  have h1 : Sat A w (arr e s (some ⟨b, o, none⟩) cap cs :: (Γ' ++ F)) := hsat.map fun _ => (p.app F).sat
  obtain ⟨⟨pre, post⟩, ⟨rfl, h3⟩, h4⟩ := Sat.open_ (fun h => sat.arr_open (.inr (by omega))) h1
  dsimp only at h3
  have h5 : Sat A w ((blk b (pre ++ (cs ++ post)) e :: Γ') ++ F) := h4
  refine Eff.store hs hx hy .head hv (by simp; omega) A F w a nx Z hf h5 ?_
  rintro u _ w' rfl h6
  refine hn u _ w' rfl ?_
  rw [set_mid hk] at h6
  have h7 : Sat A w' ([blk b (pre ++ (cs.set k v ++ post)) e] ++ (Γ' ++ F)) := h6
  exact Sat.close (fun h s => sat.arr_close (by simpa using h3) s) h7

/-- An element (more cells) of a row of one's own. -/
theorem Eff.storeArrN {t x y v} {b o k s cap : Nat} {cs vs : List Value} {e : TypeId} (hs : TS P t vs.length) (hx : ev E x = some (.pointer (some ⟨b, o + k, none⟩))) (hy : ev E y = some v) (hc : v.cells.toList = vs) (p : Pick (arr e s (some ⟨b, o, none⟩) cap cs) Γ Γ')
    (hk : k + vs.length ≤ cs.length) (h0 : 0 < cs.length) (hv : ones vs) :
    Eff P N E Γ ⟨dst, .store t x y, ty, pos, after, guard⟩ fun _ Γ'' => Γ'' = arr e s (some ⟨b, o, none⟩) cap (splice cs k vs) :: Γ' := by
  intro A F w a nx Z hf hsat hn
  have h1 : Sat A w (arr e s (some ⟨b, o, none⟩) cap cs :: (Γ' ++ F)) := hsat.map fun _ => (p.app F).sat
  obtain ⟨⟨pre, post⟩, ⟨rfl, h3⟩, h4⟩ := Sat.open_ (fun h => sat.arr_open (.inr h0)) h1
  dsimp only at h3
  have h5 : Sat A w ((blk b (pre ++ (cs ++ post)) e :: Γ') ++ F) := h4
  refine Eff.storeN hs hx hy hc .head (by simp only [List.length_append]; omega) hv A F w a nx Z hf h5 ?_
  rintro u _ w' rfl h6
  refine hn u _ w' rfl ?_
  rw [splice_mid hk] at h6
  have h7 : Sat A w' ([blk b (pre ++ (splice cs k vs ++ post)) e] ++ (Γ' ++ F)) := h6
  exact Sat.close (fun h s => sat.arr_close (by rw [length_splice _ _ _ hk]; exact h3) s) h7

end
end Go.Sp

/- A separation logic over the given machine. Part 12: unsigned arithmetic by bit vectors; bytes. -/
namespace Go.Sp
open Go

/-- An unsigned kind. -/
def IsU (k : IntKind) : Prop := k.signed = false

theorem wrap_u {k : IntKind} (hk : k.signed = false) (v : BitVec k.bits) : k.wrap (v.toNat : Int) = v.toNat := by
  unfold IntKind.wrap
  have h : ((v.toNat : Int)) % (2 ^ k.bits : Int) = v.toNat := by
    rw [Int.emod_eq_of_lt (by omega)]
    have := v.isLt
    exact_mod_cast this
  simp [hk, h]

theorem wrap_un {k : IntKind} (hk : k.signed = false) (n : Int) : k.wrap n = ((BitVec.ofInt k.bits n).toNat : Int) := by
  unfold IntKind.wrap
  simp only [hk, Bool.false_and, Bool.false_eq_true, if_false]
  rw [BitVec.toNat_ofInt]
  have : 0 ≤ n % (2 ^ k.bits : Int) := Int.emod_nonneg _ (by have : (0 : Int) < 2 ^ k.bits := Int.pow_pos (by omega); omega)
  rw [Int.toNat_of_nonneg]
  · norm_cast
  · norm_cast

theorem ofInt_toNat {w : Nat} (v : BitVec w) : BitVec.ofInt w (v.toNat : Int) = v := by
  apply BitVec.eq_of_toNat_eq; simp

section
variable {P : Program} {N : Nat} {E : Env} {Γ Γ' : List SProp} {dst : Option Tmp} {ty : TypeId} {pos : String} {after : Array Edge} {guard : Option (Nat × Bool)}

theorem Reads.xorU {t x y t'} {k : IntKind} {a b : BitVec k.bits} (hk : k.signed = false) (hx : ev E x = some (.int k (a.toNat : Int))) (hy : ev E y = some (.int k (b.toNat : Int))) :
    Reads P N E Γ ⟨dst, .binOp .xor t x y t', ty, pos, after, guard⟩ (.int k ((a ^^^ b).toNat : Int)) := by
  have := Reads.xor (P := P) (N := N) (Γ := Γ) (dst := dst) (t := t) (t' := t') (ty := ty) (pos := pos) (after := after) (guard := guard) hx hy
  rwa [ofInt_toNat, ofInt_toNat, wrap_u hk] at this
theorem Reads.andU {t x y t'} {k : IntKind} {a b : BitVec k.bits} (hk : k.signed = false) (hx : ev E x = some (.int k (a.toNat : Int))) (hy : ev E y = some (.int k (b.toNat : Int))) :
    Reads P N E Γ ⟨dst, .binOp .and t x y t', ty, pos, after, guard⟩ (.int k ((a &&& b).toNat : Int)) := by
  have := Reads.and (P := P) (N := N) (Γ := Γ) (dst := dst) (t := t) (t' := t') (ty := ty) (pos := pos) (after := after) (guard := guard) hx hy
  rwa [ofInt_toNat, ofInt_toNat, wrap_u hk] at this
theorem Reads.orU {t x y t'} {k : IntKind} {a b : BitVec k.bits} (hk : k.signed = false) (hx : ev E x = some (.int k (a.toNat : Int))) (hy : ev E y = some (.int k (b.toNat : Int))) :
    Reads P N E Γ ⟨dst, .binOp .or t x y t', ty, pos, after, guard⟩ (.int k ((a ||| b).toNat : Int)) := by
  have := Reads.or (P := P) (N := N) (Γ := Γ) (dst := dst) (t := t) (t' := t') (ty := ty) (pos := pos) (after := after) (guard := guard) hx hy
  rwa [ofInt_toNat, ofInt_toNat, wrap_u hk] at this
theorem Reads.negU {t x} {k : IntKind} {a : BitVec k.bits} (hk : k.signed = false) (hx : ev E x = some (.int k (a.toNat : Int))) :
    Reads P N E Γ ⟨dst, .unOp .neg t x, ty, pos, after, guard⟩ (.int k ((-a).toNat : Int)) := by
  have := Reads.negW (P := P) (N := N) (Γ := Γ) (dst := dst) (t := t) (ty := ty) (pos := pos) (after := after) (guard := guard) hx
  rwa [wrap_un hk, BitVec.ofInt_neg, ofInt_toNat] at this
theorem Reads.shrU {t x y t'} {k j : IntKind} {a : BitVec k.bits} {n : Nat} (hn : n ≤ k.bits) (hx : ev E x = some (.int k (a.toNat : Int))) (hy : ev E y = some (.int j (n : Int))) :
    Reads P N E Γ ⟨dst, .binOp .shr t x y t', ty, pos, after, guard⟩ (.int k ((a >>> n).toNat : Int)) := by
  have := Reads.shr (P := P) (N := N) (Γ := Γ) (dst := dst) (t := t) (t' := t') (ty := ty) (pos := pos) (after := after) (guard := guard) hx hy
  rw [Nat.min_eq_left hn] at this
  have e : (a.toNat : Int).fdiv (2 ^ n) = ((a >>> n).toNat : Int) := by
    rw [BitVec.toNat_ushiftRight, Nat.shiftRight_eq_div_pow, Int.fdiv_eq_ediv_of_nonneg _ (by have : (0 : Int) < 2 ^ n := Int.pow_pos (by omega); omega)]
    norm_cast
  rwa [e] at this
/-- Exclusive or with all ones. -/
theorem Reads.comU {t x} {k : IntKind} {a : BitVec k.bits} (hk : k.signed = false) (hx : ev E x = some (.int k (a.toNat : Int))) :
    Reads P N E Γ ⟨dst, .unOp .xor t x, ty, pos, after, guard⟩ (.int k ((~~~ a).toNat : Int)) := fun _ w ac hf _ => by
  have hm : BitVec.ofInt k.bits k.max = BitVec.allOnes k.bits := by cases k <;> first | rfl | cases hk
  simp [execOp, hf.eval hx, Op.unary, hk, Op.intBits, -BitVec.toNat_xor, -BitVec.toNat_not, -BitVec.toNat_ofInt]
  rw [hm, BitVec.allOnes_xor]
  exact wrap_u hk _

end
end Go.Sp

/- A separation logic over the given machine. Part 13: texts and rows of bytes, as lists of bytes. -/
namespace Go.Sp
open Go

/-- A text of these bytes. -/
def str (l : List UInt8) : ByteArray := ⟨l.toArray⟩
/-- The cells of these bytes. -/
def bcs (l : List UInt8) : List Value := l.map fun b => .int .u8 (b.toNat : Int)

theorem str_data (s : ByteArray) : str s.data.toList = s := by cases s; simp [str]
theorem str_size (l : List UInt8) : (str l).size = l.length := by simp [str, ByteArray.size]
theorem str_inj {l m : List UInt8} : str l = str m ↔ l = m := by
  constructor
  · intro h
    have := congrArg (fun s : ByteArray => s.data.toList) h
    simpa [str] using this
  · rintro rfl; rfl
theorem str_append (l m : List UInt8) : str l ++ str m = str (l ++ m) := by
  apply ByteArray.ext
  simp [str, ByteArray.data_append]
theorem str_extract (l : List UInt8) (a b : Nat) : (str l).extract a b = str ((l.drop a).take (b - a)) := by
  apply ByteArray.ext
  simp [str, ByteArray.data_extract, List.extract_eq_take_drop]
theorem bcs_len (l : List UInt8) : (bcs l).length = l.length := by simp [bcs]
theorem bcs_ones (l : List UInt8) : ones (bcs l) := ones.map l fun _ => rfl
theorem bcs_append (l m : List UInt8) : bcs (l ++ m) = bcs l ++ bcs m := by simp [bcs]
theorem byteCells_str (l : List UInt8) : byteCells (str l) = bcs l := by simp [byteCells, str, bcs]

section
variable {P : Program} {N : Nat} {E : Env} {Γ Γ' : List SProp} {dst : Option Tmp} {ty : TypeId} {pos : String} {after : Array Edge} {guard : Option (Nat × Bool)}

theorem Reads.lenT {args : Array Operand} {x t ts} {l : List UInt8} (ha : args = #[x]) (hts : ts = #[t]) (hu : P.underlying t = some .string) (hx : ev E x = some (.string (str l))) :
    Reads P N E Γ ⟨dst, .call ⟨.builtin .len, args, ts⟩, ty, pos, after, guard⟩ (.int .i64 l.length) := by
  have := Reads.lenS (P := P) (N := N) (Γ := Γ) (dst := dst) (ty := ty) (pos := pos) (after := after) (guard := guard) ha hts hu hx
  rwa [str_size] at this
theorem Reads.indexT {t x i} {l : List UInt8} {k : IntKind} {n : Int} {b : UInt8} (hu : P.underlying t = some .string) (hx : ev E x = some (.string (str l))) (hi : ev E i = some (.int k n)) (h0 : 0 ≤ n)
    (hb : l[n.toNat]? = some b) : Reads P N E Γ ⟨dst, .index t x i, ty, pos, after, guard⟩ (.int .u8 b.toNat) := .indexS hu hx hi h0 (by simpa [str] using hb)
theorem Reads.sliceT {t x} {l : List UInt8} {lo hi : Option Operand} {a h : Nat} (hu : P.underlying t = some .string) (hx : ev E x = some (.string (str l)))
    (hlo : match lo with | none => a = 0 | some o => ∃ k, ev E o = some (.int k (a : Int))) (hhi : match hi with | none => h = l.length | some o => ∃ k, ev E o = some (.int k (h : Int)))
    (h1 : a ≤ h) (h2 : h ≤ l.length) : Reads P N E Γ ⟨dst, .slice t x lo hi none, ty, pos, after, guard⟩ (.string (str ((l.drop a).take (h - a)))) := by
  have := Reads.sliceS (P := P) (N := N) (Γ := Γ) (dst := dst) (ty := ty) (pos := pos) (after := after) (guard := guard) hu hx hlo (by rw [str_size]; exact hhi) h1 (by rw [str_size]; exact h2)
  rwa [str_extract] at this
theorem Reads.catT {t x y t'} {l m : List UInt8} (hx : ev E x = some (.string (str l))) (hy : ev E y = some (.string (str m))) (hl : l.length + m.length ≤ 9223372036854775807) :
    Reads P N E Γ ⟨dst, .binOp .add t x y t', ty, pos, after, guard⟩ (.string (str (l ++ m))) := by
  have := Reads.cat (P := P) (N := N) (Γ := Γ) (dst := dst) (t := t) (t' := t') (ty := ty) (pos := pos) (after := after) (guard := guard) hx hy (by rw [str_size, str_size]; exact hl)
  rwa [str_append] at this
theorem Reads.eqT {t x y t'} {l m : List UInt8} (hx : ev E x = some (.string (str l))) (hy : ev E y = some (.string (str m))) :
    Reads P N E Γ ⟨dst, .binOp .eql t x y t', ty, pos, after, guard⟩ (.bool (decide (l = m))) := by
  have := Reads.eqS (P := P) (N := N) (Γ := Γ) (dst := dst) (t := t) (t' := t') (ty := ty) (pos := pos) (after := after) (guard := guard) hx hy
  rwa [decide_eq_decide.2 str_inj] at this
theorem Reads.neT {t x y t'} {l m : List UInt8} (hx : ev E x = some (.string (str l))) (hy : ev E y = some (.string (str m))) :
    Reads P N E Γ ⟨dst, .binOp .neq t x y t', ty, pos, after, guard⟩ (.bool (!decide (l = m))) := by
  have := Reads.neS (P := P) (N := N) (Γ := Γ) (dst := dst) (t := t) (t' := t') (ty := ty) (pos := pos) (after := after) (guard := guard) hx hy
  rwa [decide_eq_decide.2 str_inj] at this

/-- string(b). -/
theorem Reads.bytesToStr {s d e x} {a : Option Addr} {n c : Nat} {l : List UInt8} (hs : P.underlying s = some (.slice e)) (he : P.underlying e = some (.int .u8)) (hd : P.underlying d = some .string)
    (hx : ev E x = some (.slice a n c)) (hn : n = l.length) (k : Knows Γ (RowAt a (bcs l))) : Reads P N E Γ ⟨dst, .convert s d x, ty, pos, after, guard⟩ (.string (str l)) := fun A w ac hf hsat => by
  subst hn
  have hr := k A w hsat
  have key : (convert s d (.slice a l.length c)).run P w = .ok (.string (str l)) w := by
    rcases hr with h | ⟨b, o, rfl, h⟩
    · have : l = [] := by simpa [bcs] using h
      subst this
      cases a with
      | none => exact run_convert_bytes_nil w s e hs he _ _ d hd
      | some q => exact run_convert_bytes_back w s d e q c [] hs he hd (fun j hj => by cases hj)
    · refine run_convert_bytes_back w s d e _ c l hs he hd fun j hj => ?_
      rw [Addr_add]
      exact h.1 j _ (by simp [bcs, List.getElem?_eq_getElem hj])
  simp [execOp, hf.eval hx, key]

theorem Knows.srcT {t} {l : List UInt8} (hu : P.underlying t = some .string) : Knows Γ (SrcAt P 1 t (.string (str l)) l.length (bcs l)) := by
  have := Knows.srcStr (P := P) (Γ := Γ) (s := str l) hu
  rwa [str_size, byteCells_str] at this

end
end Go.Sp

/- A separation logic over the given machine. Part 14: operations whose guard was itself not let. -/
namespace Go.Sp
open Go

/-- What was known is known still. -/
theorem Le.skip {A B : Env} {d : Nat} {v : Value} (h : lk A d = none) (l : Le A B) : Le A ((d, v) :: B) := fun t u e => by
  have hd : t ≠ d := fun e' => by subst e'; rw [h] at e; cases e
  show (bif Nat.beq t d then some v else lk B t) = some u
  rw [Bool.eq_false_iff.2 fun h => hd (Nat.eq_of_beq_eq_true h)]; exact l t u e

section
variable {P : Program} {N : Nat} {ops : Array Oper} {rest : List Oper} {E : Env} {Γ : List SProp} {K : Env → List SProp → Prop} {ty : TypeId} {pos : String} {after : Array Edge}

theorem wpL_off {dst op} {g : Nat} {b : Bool} {Q : Exit → Act → World → Prop} {a : Act} {w : World} (hy : yielded ops a.tmps g ≠ some b) (h : wpL P ops Q rest (a.put dst undef) w) :
    wpL P ops Q (⟨dst, op, ty, pos, after, some (g, b)⟩ :: rest) a w := by
  have hw : Region.wanted ⟨dst, op, ty, pos, after, some (g, b)⟩ (yielded ops a.tmps) = false := by
    simp only [Region.wanted]
    exact beq_eq_false_iff_ne.2 hy
  simp only [wpL, hw, Bool.false_eq_true, if_false]
  exact h

/-- Not let; its slot is known to hold nothing. -/
theorem RunO.offU {d op} {g : Nat} {b c : Bool} {t : Nat} (hg : gslot ops g = some t) (he : lk E t = some (.bool c)) (hne : (c == b) = false) (hd : Nat.blt d N = true)
    (next : RunO P N ops rest ((d, undef) :: E) Γ K) : RunO P N ops (⟨some d, op, ty, pos, after, some (g, b)⟩ :: rest) E Γ K := by
  intro A F w a Z hf hs hz
  have hy := yielded_of hg hf he
  exact wpL_off (by rw [hy]; intro e; cases e; simp at hne) (next A F w _ Z (hf.put hd undef) hs hz)

/-- Not let, because its guard's slot holds nothing. -/
theorem RunO.offX {d op} {g : Nat} {b : Bool} {t : Nat} (hg : gslot ops g = some t) (he : lk E t = some undef) (hd : Nat.blt d N = true)
    (next : RunO P N ops rest ((d, undef) :: E) Γ K) : RunO P N ops (⟨some d, op, ty, pos, after, some (g, b)⟩ :: rest) E Γ K := by
  intro A F w a Z hf hs hz
  have hy : yielded ops a.tmps g ≠ some b := by
    unfold gslot at hg
    simp [yielded, hg, hf.look t _ he, undef]
  exact wpL_off hy (next A F w _ Z (hf.put hd undef) hs hz)
theorem RunO.offX0 {op} {g : Nat} {b : Bool} {t : Nat} (hg : gslot ops g = some t) (he : lk E t = some undef)
    (next : RunO P N ops rest E Γ K) : RunO P N ops (⟨none, op, ty, pos, after, some (g, b)⟩ :: rest) E Γ K := by
  intro A F w a Z hf hs hz
  have hy : yielded ops a.tmps g ≠ some b := by
    unfold gslot at hg
    simp [yielded, hg, hf.look t _ he, undef]
  exact wpL_off hy (next A F w _ Z hf.put_none hs hz)
end
end Go.Sp

/- A separation logic over the given machine. Part 15: a string's bytes as a row. -/
namespace Go.Sp
open Go

section
variable {P : Program} {N : Nat} {E : Env} {Γ Γ' : List SProp} {dst : Option Tmp} {ty : TypeId} {pos : String} {after : Array Edge} {guard : Option (Nat × Bool)}

theorem bytesRow_list (l : List UInt8) (c : Nat) : bytesRow (str l) c = (bcs l ++ List.replicate (c - l.length) (Value.int .u8 0)).toArray := by
  apply Array.ext'
  simp [bytesRow, str, bcs, ByteArray.size]

/-- []byte(s). -/
theorem Eff.strToBytes {s d e x} {l : List UInt8} (hs : P.underlying s = some .string) (hd : P.underlying d = some (.slice e)) (he : P.underlying e = some (.int .u8)) (hx : ev E x = some (.string (str l))) :
    Eff P N E Γ ⟨dst, .convert s d x, ty, pos, after, guard⟩ fun v Γ'' => ∃ b c, v = .slice (some ⟨b, 0, none⟩) l.length c ∧ Γ'' = arr e 1 (some ⟨b, 0, none⟩) c (bcs l) :: Γ := by
  intro A F w a nx Z hf hsat hn
  have hr := run_bytes_of_string (P := P) w s d e (str l) hs hd he
  unfold Oper.wp
  simp only [execOp, hf.eval hx, Sem.run_bind, hr, Result.andThen_ok, Sem.run_pure, Oper.upon]
  rw [str_size] at hr ⊢
  have hge := grownCap_ge w l.length 0 e
  rw [bytesRow_list]
  refine hn _ _ _ ⟨w.heap.size, _, rfl, rfl⟩ ?_
  have hl : (bcs l ++ List.replicate (grownCap w l.length 0 e - l.length) (Value.int .u8 0)).length = grownCap w l.length 0 e := by
    rw [List.length_append, bcs_len, List.length_replicate]; omega
  have ho : ones (bcs l ++ List.replicate (grownCap w l.length 0 e - l.length) (Value.int .u8 0)) := (bcs_ones l).append fun v hv => by
    rw [(List.mem_replicate.1 hv).2]; rfl
  have s4 := Sat.blk_of ((hsat.drew (w := w)).alloc (.cells (bcs l ++ List.replicate (grownCap w l.length 0 e - l.length) (Value.int .u8 0)).toArray e ((bcs l ++ List.replicate (grownCap w l.length 0 e - l.length) (Value.int .u8 0)).toArray.size, (bcs l ++ List.replicate (grownCap w l.length 0 e - l.length) (Value.int .u8 0)).toArray.size + 1))) ho (.inr (by simp))
  refine Sat.close (Γ := Γ ++ F) (B := [blk w.heap.size ([] ++ (bcs l ++ List.replicate (grownCap w l.length 0 e - l.length) (Value.int .u8 0))) e]) (fun h' H => ?_) (by rw [List.nil_append]; exact s4)
  exact sat.arr_close (pre := []) (by rw [← List.length_append, hl, Nat.mul_one]) H

end
end Go.Sp

/- A separation logic over the given machine. Part 16: entries of maps; guards of drawn regions that were themselves not let; bags. -/
namespace Go.Sp
open Go

section
variable {P : Program} {N : Nat} {ops : Array Oper} {E : Env} {Γ ΓS : List SProp} {K : Env → List SProp → Prop} {fuel : Nat} {listed : Array Bool} {L : List Nat}

/-- Not let; its slot is known to hold nothing. -/
theorem RunD.offU (i : Nat) {d op ty pos after} {g : Nat} {b c : Bool} {t : Nat} (ho : ops[i]? = some ⟨some d, op, ty, pos, after, some (g, b)⟩) (hg : gslot ops g = some t) (he : lk E t = some (.bool c)) (hne : (c == b) = false)
    (hs : Region.noSelect ops = true) (hfr : Region.free .any ops listed i = true)
    (hr : (Region.ready .any ops listed).contains i = true)
    (next : RunD P N ops L ΓS fuel (listed.setIfInBounds i true) ((d, undef) :: E) Γ K) (hd : Nat.blt d N = true := by rfl) : RunD P N ops L ΓS (fuel + 1) listed E Γ K := by
  intro A F w a Z hZ hf hsat hz
  have hy := yielded_of hg hf he
  have hw : Region.wanted ⟨some d, op, ty, pos, after, some (g, b)⟩ (yielded ops a.tmps) = false := by
    simp [Region.wanted, hy]; intro e; subst e; simp at hne
  refine wpAnyL_pure ho (Region.noSelect_spec hs) (v := undef) (fun c a w h => absurd h (hZ _ _ _)) fuel listed a w (Region.free_spec ho hfr) (by simpa using hr) (.inr ⟨hw, rfl⟩) ?_
  exact next A F w _ Z hZ (hf.put hd undef) hsat hz

/-- Not let, because its guard's slot holds nothing. -/
theorem RunD.offX (i : Nat) {d op ty pos after} {g : Nat} {b : Bool} {t : Nat} (ho : ops[i]? = some ⟨some d, op, ty, pos, after, some (g, b)⟩) (hg : gslot ops g = some t) (he : lk E t = some undef)
    (hs : Region.noSelect ops = true) (hfr : Region.free .any ops listed i = true)
    (hr : (Region.ready .any ops listed).contains i = true)
    (next : RunD P N ops L ΓS fuel (listed.setIfInBounds i true) ((d, undef) :: E) Γ K) (hd : Nat.blt d N = true := by rfl) : RunD P N ops L ΓS (fuel + 1) listed E Γ K := by
  intro A F w a Z hZ hf hsat hz
  have hy : yielded ops a.tmps g ≠ some b := by
    unfold gslot at hg
    simp [yielded, hg, hf.look t _ he, undef]
  have hw : Region.wanted ⟨some d, op, ty, pos, after, some (g, b)⟩ (yielded ops a.tmps) = false := by
    simp only [Region.wanted]; exact beq_eq_false_iff_ne.2 hy
  refine wpAnyL_pure ho (Region.noSelect_spec hs) (v := undef) (fun c a w h => absurd h (hZ _ _ _)) fuel listed a w (Region.free_spec ho hfr) (by simpa using hr) (.inr ⟨hw, rfl⟩) ?_
  exact next A F w _ Z hZ (hf.put hd undef) hsat hz
end

/-! ### Entries of maps -/

/-- A map one's own, of which one entry is held by its stamp. -/
def mpe {κ ν : Type} [DecidableEq κ] (enc : κ → Value) (venc : ν → Value) (b : Nat) (l : List (κ × ν)) (q : κ) (s : Nat) : SProp := fun h =>
  ∃ es clock, h b = some (false, .map es clock) ∧ es.toList.map (fun e => (e.key, e.val)) = l.map (fun p => (enc p.1, venc p.2)) ∧ (l.map (·.1)).Nodup ∧
    (es.toList.map (·.born)).Nodup ∧ (∀ e ∈ es.toList, e.born < clock) ∧ ∃ i : Nat, (es.toList.map (·.born))[i]? = some s ∧ (l.map (·.1))[i]? = some q

section
variable {κ ν : Type} [DecidableEq κ] {enc : κ → Value} {venc : ν → Value}

theorem Sat.mpe_own {A w b Γ} {l : List (κ × ν)} {q : κ} {s : Nat} (h : Sat A w (Sp.mpe enc venc b l q s :: Γ)) : ∃ es clock, w.heap[b]? = some (.map es clock) ∧ es.toList.map (fun e => (e.key, e.val)) = l.map (fun p => (enc p.1, venc p.2)) ∧ (l.map (·.1)).Nodup ∧
    (es.toList.map (·.born)).Nodup ∧ (∀ e ∈ es.toList, e.born < clock) ∧ (∃ i : Nat, (es.toList.map (·.born))[i]? = some s ∧ (l.map (·.1))[i]? = some q) ∧ Sat A w (Sp.own b (.map es clock) :: Γ) := by
  obtain ⟨a, h, f, h1, h2, ok, l1, l2, ⟨es, clock, e0, e1, e2, e3, e4, e5⟩, t⟩ := h
  exact ⟨es, clock, f b _ (l1 b _ e0), e1, e2, e3, e4, e5, a, h, f, h1, h2, ok, l1, l2, e0, t⟩

theorem Sat.mpe_of {A w b Γ} {l : List (κ × ν)} {q : κ} {s : Nat} {es : Array MapEntry} {clock : Nat} (h : Sat A w (Sp.own b (.map es clock) :: Γ)) (e1 : es.toList.map (fun e => (e.key, e.val)) = l.map (fun p => (enc p.1, venc p.2))) (e2 : (l.map (·.1)).Nodup)
    (e3 : (es.toList.map (·.born)).Nodup) (e4 : ∀ e ∈ es.toList, e.born < clock) (e5 : ∃ i : Nat, (es.toList.map (·.born))[i]? = some s ∧ (l.map (·.1))[i]? = some q) : Sat A w (Sp.mpe enc venc b l q s :: Γ) := by
  obtain ⟨a, h, f, h1, h2, ok, l1, l2, e0, t⟩ := h
  exact ⟨a, h, f, h1, h2, ok, l1, l2, ⟨es, clock, e0, e1, e2, e3, e4, e5⟩, t⟩

theorem modify_list {es : Array MapEntry} {i : Nat} {en : MapEntry} (f : MapEntry → MapEntry) (hen : es[i]? = some en) : (es.modify i f).toList = es.toList.set i (f en) := by
  have hi' : i < es.toList.length := by
    have := (Array.getElem?_eq_some_iff.1 hen).1
    simpa using this
  apply List.ext_getElem?
  intro j
  rw [Array.getElem?_toList, Array.getElem?_modify, List.getElem?_set]
  by_cases hji : i = j
  · subst hji; simp [hen]; simpa using hi'
  · simp [hji]

theorem set_same {α : Type} {l : List α} {i : Nat} {x : α} (h : l[i]? = some x) : l.set i x = l := by
  apply List.ext_getElem?
  intro j
  rw [List.getElem?_set]
  by_cases hji : i = j
  · subst hji
    obtain ⟨hlt, h2⟩ := List.getElem?_eq_some_iff.1 h
    simp [hlt, h2]
  · simp [hji]

theorem findIdx_nodup {q : κ} : ∀ {ks : List κ} {i : Nat}, ks.Nodup → ks[i]? = some q → (ks.findIdx? fun y => decide (q = y)) = some i
  | [], _, _, h => by simp at h
  | k :: ks, 0, _, h => by simp at h; subst h; simp [List.findIdx?_cons]
  | k :: ks, i + 1, hn, h => by
    simp only [List.nodup_cons] at hn
    simp only [List.getElem?_cons_succ] at h
    have hne : q ≠ k := fun e => hn.1 (e ▸ List.mem_of_getElem? h)
    rw [List.findIdx?_cons]
    simp [hne, findIdx_nodup hn.2 h]

variable {P : Program} {N : Nat} {E : Env} {Γ Γ' : List SProp} {dst : Option Tmp} {ty : TypeId} {pos : String} {after : Array Edge} {guard : Option (Nat × Bool)}

/-- The entry of a key, which is made if there is none. -/
theorem Eff.mapEntry {t k e x ix b} {z : Value} {z0 : ν} {l : List (κ × ν)} {q : κ} (K : KL P k enc) (hu : P.underlying t = some (.map k e)) (hz : ∀ w, (zeroValue e).run P w = .ok z w) (hzv : z = venc z0)
    (hx : ev E x = some (.map (some b))) (hi : ev E ix = some (enc q)) (p : Pick (mp enc venc b l) Γ Γ') :
    Eff P N E Γ ⟨dst, .mapEntry t x ix, ty, pos, after, guard⟩ fun v Γ'' => ∃ s : Nat, v = .tuple #[venc ((mget l q).getD z0), .int .i64 (s : Int)] ∧ Γ'' = mpe enc venc b (mset l q ((mget l q).getD z0)) q s :: Γ' := by
  subst hzv
  intro A F w a nx Z hf hsat hn
  obtain ⟨es, clock, hh, e1, e2, e3, e4, hs⟩ := (hsat.map fun _ => (p.app F).sat).mp_own
  have hfnd := K.find q es.toList (l.map (·.1)) (keys_of e1) w
  have hg : (getObj b).run P w = .ok (.map es clock) w := by simp [getObj, Sem.run, hh]
  have hlen : es.toList.length = l.length := by simpa using congrArg List.length e1
  have hmg := findIdx_keys l q
  unfold Oper.wp
  cases hj : (l.map (·.1)).findIdx? fun y => decide (q = y) with
  | none =>
    obtain ⟨r1, s1⟩ := Sat.setObj (P := P) (o' := .map (es.push { key := enc q, val := venc z0, born := clock }) (clock + 1)) hs (by simp)
    simp only [hj, Option.bind_none] at hfnd hmg
    simp [execOp, hf.eval hx, hf.eval hi, Instr.mapEntry, underlying, hu, hg, K.check, hfnd, r1, hz, Oper.upon, goInt]
    refine hn _ _ _ ⟨clock, by rw [← hmg]; rfl, rfl⟩ (Sat.mpe_of s1 ?_ (mset_nodup e2 _ _) ?_ ?_ ?_)
    · rw [mset_new hj, ← hmg]; simp [e1]
    · simp only [Array.toList_push, List.map_append, List.map_cons, List.map_nil]
      rw [List.nodup_append]
      refine ⟨e3, by simp, fun x hx y hy e => ?_⟩
      simp at hy; subst hy e
      obtain ⟨en, hen, he⟩ := List.mem_map.1 hx
      have := e4 en hen
      omega
    · intro en hen
      simp at hen
      rcases hen with hen | rfl
      · have := e4 en (by simpa using hen); omega
      · simp
    · refine ⟨l.length, ?_, ?_⟩
      · simp only [Array.toList_push, List.map_append, List.map_cons, List.map_nil]
        have hsz : es.size = l.length := by simpa using hlen
        rw [List.getElem?_append_right (by simp; omega)]
        simp [hsz]
      · rw [mset_new hj]; simp
  | some i =>
    obtain ⟨hlt, hq, hset⟩ := mset_found (v := (mget l q).getD z0) e2 hj
    obtain ⟨pr, hpr⟩ : ∃ pr, l[i]? = some pr := ⟨_, List.getElem?_eq_getElem hlt⟩
    simp only [hj, Option.bind_some, hpr, Option.map_some] at hmg hq
    cases hq
    have hval : ∃ en, es[i]? = some en := by
      have : i < es.size := by have : i < es.toList.length := by omega
                               simpa using this
      exact ⟨_, Array.getElem?_eq_getElem this⟩
    obtain ⟨en, hen⟩ := hval
    have he1 : en.key = enc pr.1 ∧ en.val = venc pr.2 := by
      have := congrArg (fun l => l[i]?) e1
      simp only [List.getElem?_map, Array.getElem?_toList, hen, hpr, Option.map_some, Option.some.injEq, Prod.mk.injEq] at this
      exact this
    simp only [hj, Option.bind_some, Array.getElem?_toList, hen, Option.map_some] at hfnd
    obtain ⟨r1, s1⟩ := Sat.setObj (P := P) (o' := .map (es.modify i fun e => { e with key := enc pr.1 }) clock) hs (by simp)
    simp [execOp, hf.eval hx, hf.eval hi, Instr.mapEntry, underlying, hu, hg, K.check, hfnd, hen, he1, K.stays, r1, Oper.upon, goInt]
    have hmod : (es.modify i fun e => { e with key := enc pr.1 }).toList = es.toList := by
      rw [modify_list _ hen]
      have : ({ en with key := enc pr.1 } : MapEntry) = en := by cases en; simp at he1; simp [he1]
      rw [this]
      exact set_same (by rw [Array.getElem?_toList]; exact hen)
    have hsame : mset l pr.1 ((mget l pr.1).getD z0) = l := by
      rw [hset, ← hmg]; exact set_same (by rw [hpr]; rfl)
    refine hn _ _ _ ⟨en.born, by rw [← hmg]; rfl, rfl⟩ ?_
    rw [hsame]
    refine Sat.mpe_of s1 (by rw [hmod, e1]) e2 (by rw [hmod]; exact e3) (by rw [hmod]; exact e4) ⟨i, ?_, ?_⟩
    · rw [hmod, List.getElem?_map, Array.getElem?_toList, hen]; rfl
    · rw [List.getElem?_map, hpr]; rfl

/-- .. is given a value. -/
theorem Eff.entryStore {t x st y b} {l : List (κ × ν)} {q : κ} {s : Nat} {u : ν} (hx : ev E x = some (.map (some b))) (hi : ev E st = some (.int .i64 (s : Int))) (hy : ev E y = some (venc u)) (p : Pick (mpe enc venc b l q s) Γ Γ') :
    Eff P N E Γ ⟨dst, .entryStore t x st y, ty, pos, after, guard⟩ fun _ Γ'' => Γ'' = mp enc venc b (mset l q u) :: Γ' := by
  intro A F w a nx Z hf hsat hn
  obtain ⟨es, clock, hh, e1, e2, e3, e4, ⟨i, hb, hk⟩, hs⟩ := (hsat.map fun _ => (p.app F).sat).mpe_own
  have hg : (getObj b).run P w = .ok (.map es clock) w := by simp [getObj, Sem.run, hh]
  obtain ⟨hlt, hq, hset⟩ := mset_found (v := u) e2 (findIdx_nodup e2 hk)
  obtain ⟨pr, hpr⟩ : ∃ pr, l[i]? = some pr := ⟨_, List.getElem?_eq_getElem hlt⟩
  simp only [hpr, Option.map_some] at hq
  cases hq
  rw [List.getElem?_map, Option.map_eq_some_iff] at hb
  obtain ⟨en, hen', hborn⟩ := hb
  have hen : es[i]? = some en := by rw [← Array.getElem?_toList]; exact hen'
  have he1 : en.key = enc pr.1 ∧ en.val = venc pr.2 := by
    have := congrArg (fun l => l[i]?) e1
    simp only [List.getElem?_map, Array.getElem?_toList, hen, hpr, Option.map_some, Option.some.injEq, Prod.mk.injEq] at this
    exact this
  have hidx : (es.findIdx? fun e => (e.born : Int) == (s : Int)) = some i := by
    rw [WideElems.findIdx_arr, ← hborn]
    exact WideElems.findIdx_born e3 hen'
  unfold Oper.wp
  obtain ⟨r1, s1⟩ := Sat.setObj (P := P) (o' := .map (es.modify i fun e => { e with val := venc u }) clock) hs (by simp)
  simp [execOp, hf.eval hx, hf.eval hi, hf.eval hy, Instr.entryStore, hg, asInt, asIntOf, hidx, r1, Oper.upon]
  have hmod : (es.modify i fun e => { e with val := venc u }).toList = es.toList.set i { en with val := venc u } := modify_list _ hen
  refine hn _ _ _ rfl (Sat.mp_of s1 ?_ (mset_nodup e2 _ _) ?_ ?_)
  · rw [hset, hmod, List.map_set, List.map_set, e1, he1.1]
  · rw [hmod, List.map_set]
    have : (es.toList.map (·.born)).set i en.born = es.toList.map (·.born) := set_same (by rw [List.getElem?_map, hen']; rfl)
    simp only [this]; exact e3
  · intro x hx
    rw [hmod] at hx
    rcases List.mem_or_eq_of_mem_set hx with hx | rfl
    · exact e4 x hx
    · exact e4 en (List.mem_of_getElem? hen')
end
end Go.Sp

/- A separation logic over the given machine. Part 17: kinds of keys; bags. -/
namespace Go.Sp
open Go

section
variable {P : Program}

/-- Keys that are another kind's, said otherwise. -/
theorem KL.comap {k : TypeId} {κ κ' : Type} [DecidableEq κ] [DecidableEq κ'] {enc : κ → Value} (f : κ' → κ) (hf : ∀ x y, f x = f y → x = y) (K : KL P k enc) : KL P k (fun x => enc (f x)) where
  inj x y e := hf _ _ (K.inj _ _ e)
  check em x w := K.check em (f x) w
  find x es ks hk w := by
    have := K.find (f x) es (ks.map f) (by rw [hk, List.map_map]; rfl) w
    rw [this]
    congr 2
    rw [List.findIdx?_map]
    congr 1
    funext y
    exact decide_eq_decide.2 ⟨fun h => hf _ _ h, fun h => by rw [h]⟩
  stays x w := K.stays (f x) w

def encT (x : Int × Int × Int) : Array Value := #[.int .i64 x.1, .int .i64 x.2.1, .int .i64 x.2.2]
theorem encT_inj (x y : Int × Int × Int) (h : encT x = encT y) : x = y := by
  obtain ⟨a, b, c⟩ := x; obtain ⟨d, e, f⟩ := y
  simp [encT] at h ⊢
  exact h
theorem partT {e : TypeId} (hn : NotAgg P e) (x : Int × Int × Int) {i : Nat} {v : Value} (h : (encT x)[i]? = some v) (w : World) : (part e (encT x) i).run P w = .ok v w := part1 hn h w
theorem partsT {e : TypeId} (hn : NotAgg P e) (x : Int × Int × Int) (w : World) : (part e (encT x) (0 * 1)).run P w = .ok (.int .i64 x.1) w ∧ (part e (encT x) (1 * 1)).run P w = .ok (.int .i64 x.2.1) w ∧ (part e (encT x) (2 * 1)).run P w = .ok (.int .i64 x.2.2) w :=
  ⟨partT hn x rfl w, partT hn x rfl w, partT hn x rfl w⟩
/-- Keys of three ints. -/
theorem KL.three {k e : TypeId} {i : TypeInfo} (hu : P.underlying k = some (.array 3 e)) (he : P.underlying e = some (.int .i64)) (hi : P.info? e = some i) (hc : P.cellsOf e = 1) : KL P k (fun x => .agg (encT x)) where
  inj x y h := encT_inj x y (by simpa using h)
  check em x w := by
    have hn : NotAgg P e := ⟨_, he, trivial⟩
    have hs : ∀ w, (sizeOf e).run P w = .ok 1 w := fun w => by rw [← hc]; exact run_sizeOf w hi
    have key : ∀ n, (Instr.checkKey em (n + 2) k (.agg (encT x))).run P w = .ok () w := fun n => by
      have c1 : ∀ (v : Int), (Instr.checkKey em (n + 1) e (.int .i64 v)).run P w = .ok () w := fun v => CkV.int he em n w
      rw [Instr.checkKey.eq_def]
      simp only [underlying, Sem.run_bind, run_program, Result.andThen_ok, hu, Sem.run_pure]
      simp only [Std.Legacy.Range.forIn_eq_forIn_range', Std.Legacy.Range.size, Nat.sub_zero, Nat.add_one_sub_one, Nat.div_one]
      rw [show List.range' 0 3 = [0, 1, 2] from rfl]
      simp only [List.forIn_cons, List.forIn_nil, Sem.run_bind, hs, Result.andThen_ok, (partsT hn x w).1, (partsT hn x w).2.1, (partsT hn x w).2.2, c1, Sem.run_pure]
    exact key 9998
  find x es ks hk w := by
    have hn : NotAgg P e := ⟨_, he, trivial⟩
    have heq : ∀ x y w, (Op.equal k (.agg (encT x)) (.agg (encT y))).run P w = .ok (decide (x = y)) w := fun x y w => by
      have := run_equalIn_array (P := P) w 9999 (encT x) (encT y) hu hi
      have h2 : (Op.equal k (.agg (encT x)) (.agg (encT y))).run P w = (Op.equalIn (9999 + 1) k (.agg (encT x)) (.agg (encT y))).run P w := rfl
      rw [h2, this, hc, show List.range 3 = [0, 1, 2] from rfl]
      have ei : ∀ a b : Int, (Op.equalIn 9999 e (.int .i64 a) (.int .i64 b)).run P w = .ok (a == b) w := fun a b => equalIn_int he 9998 w
      simp only [Op.eqItems, Sem.run_bind, (partsT hn x w).1, (partsT hn y w).1, Result.andThen_ok, ei]
      have q1 : ∀ x, (part e (encT x) 1).run P w = .ok (.int .i64 x.2.1) w := fun x => partT hn x rfl w
      have q2 : ∀ x, (part e (encT x) 2).run P w = .ok (.int .i64 x.2.2) w := fun x => partT hn x rfl w
      obtain ⟨a, b, c⟩ := x; obtain ⟨d, f, g⟩ := y
      by_cases h1 : a = d <;> by_cases h2 : b = f <;> by_cases h3 : c = g <;> simp [h1, h2, h3, q1, q2, ei]
    cases es with
    | nil =>
      cases ks with
      | nil => simp [Instr.findKey, underlying, hu, Instr.findNow]
      | cons _ _ => simp at hk
    | cons e1 es =>
      cases ks with
      | nil => simp at hk
      | cons y ks =>
        have hn : Instr.findNow (.array 3 e) (.agg (encT x)) (e1 :: es) 0 = none := by simp [Instr.findNow, Instr.sameNow]
        simp only [Instr.findKey, underlying, Sem.run_bind, run_program, Result.andThen_ok, hu, Sem.run_pure, hn]
        rw [findAsking_spec heq x w (e1 :: es) (y :: ks) 0 hk]
        simp
  stays x w := by
    have : Instr.sameBits (9999 + 1) (.agg (encT x)) (.agg (encT x)) = true := by simp [Instr.sameBits, encT]
    simp [Instr.keyThatStays, this]
end

/-! ### Bags -/

/-- One resource for each of a list. -/
def bag {α : Type} (f : α → SProp) (l : List α) : SProp := fun h => sat (l.map f) h

theorem sat.one {Γ : List SProp} {h : Hp} (s : sat Γ h) : sat [fun k => sat Γ k] h :=
  ⟨h, fun _ => none, fun _ => .inr (.inl rfl), .refl _, fun _ _ e => by simp at e, s, trivial⟩
theorem sat.one' {X : SProp} {h : Hp} (s : sat [X] h) (hm : ∀ {h k : Hp}, Hp.le h k → X h → X k) : X h := by
  obtain ⟨h1, h2, _, l1, _, x, _⟩ := s
  exact hm l1 x
theorem sat.perm {As Bs : List SProp} (p : As.Perm Bs) : ∀ {h}, sat As h → sat Bs h := by
  induction p with
  | nil => exact fun s => s
  | cons x _ ih => exact fun s => sat.cons (fun _ => ih) s
  | swap x y l => exact fun s => s.swap
  | trans _ _ i1 i2 => exact fun s => i2 (i1 s)

theorem bag.nil {α : Type} {f : α → SProp} {h : Hp} : bag f [] h := trivial
theorem bag.perm {α : Type} {f : α → SProp} {l m : List α} (p : l.Perm m) {h : Hp} (s : bag f l h) : bag f m h := sat.perm (p.map f) s
/-- One of them by itself, and the rest. -/
theorem bag.take {α : Type} {f : α → SProp} {l m : List α} {x : α} (p : l.Perm (x :: m)) {h : Hp} (s : bag f l h) : sat [f x, bag f m] h := by
  have := bag.perm p s
  exact sat.cons (fun _ s => sat.one s) this
theorem bag.put {α : Type} {f : α → SProp} {l m : List α} {x : α} (p : (x :: m).Perm l) {h : Hp} (s : sat [f x, bag f m] h) : bag f l h := by
  refine bag.perm p ?_
  obtain ⟨h1, h2, ok, l1, l2, hx, hb⟩ := s
  obtain ⟨k1, _, _, m1, _, hb', _⟩ := hb
  exact ⟨h1, h2, ok, l1, l2, hx, sat.mono m1 hb'⟩

section
variable {P : Program} {N : Nat} {ops : Array Oper} {os : List Oper} {E : Env} {Γ Γ' : List SProp} {K : Env → List SProp → Prop} {C : Cx} {k : List Item} {Q : Value → List SProp → Prop}
theorem RunO.takeBag {α : Type} {f : α → SProp} {l m : List α} {x : α} (p : Pick (bag f l) Γ Γ') (hp : l.Perm (x :: m)) (next : RunO P N ops os E (f x :: bag f m :: Γ') K) : RunO P N ops os E Γ K :=
  RunO.open_ (σ := Unit) (φ := fun _ => True) (B := fun _ => [f x, bag f m]) p (fun _ h => ⟨(), trivial, bag.take hp h⟩) fun _ _ => next
theorem Run.takeBag {α : Type} {f : α → SProp} {l m : List α} {x : α} (p : Pick (bag f l) Γ Γ') (hp : l.Perm (x :: m)) (next : Run C k E (f x :: bag f m :: Γ') Q) : Run C k E Γ Q :=
  Run.open_ (σ := Unit) (φ := fun _ => True) (B := fun _ => [f x, bag f m]) p (fun _ h => ⟨(), trivial, bag.take hp h⟩) fun _ _ => next
theorem Knows.bag {α : Type} {f : α → SProp} {l : List α} {x : α} (p : Pick (Sp.bag f l) Γ Γ') (hx : x ∈ l) {φ : World → Prop} (hk : Knows [f x] φ) : Knows Γ φ := fun A w s => by
  obtain ⟨m, hm⟩ : ∃ m, l.Perm (x :: m) := by
    obtain ⟨a, b, rfl⟩ := List.append_of_mem hx
    exact ⟨a ++ b, List.perm_middle⟩
  have h1 := s.map fun _ => p.sat
  have h2 := Sat.open_ (σ := Unit) (φ := fun _ => True) (B := fun _ => [f x, Sp.bag f m]) (fun _ h => ⟨(), trivial, bag.take hm h⟩) h1
  obtain ⟨_, _, h3⟩ := h2
  exact hk A w (Sat.left (Γ := [f x]) h3)
end
end Go.Sp

/- A separation logic over the given machine. Part 18: where ways come together again. -/
namespace Go.Sp
open Go

section
variable {P : Program} {N : Nat} {ops : Array Oper} {E : Env} {Γ ΓS : List SProp} {K : Env → List SProp → Prop} {fuel : Nat} {listed : Array Bool} {L : List Nat}
theorem RunD.mono {K1 : Env → List SProp → Prop} (h : RunD P N ops L ΓS fuel listed E Γ K1) (hk : ∀ E' Γ', K1 E' Γ' → K E' Γ') : RunD P N ops L ΓS fuel listed E Γ K :=
  fun A F w a Z hZ hf hs hz => h A F w a Z hZ hf hs fun E' Γ' w' a' k => hz E' Γ' w' a' (hk E' Γ' k)

/-- A piece of code whose ways all come to the same rest. -/
theorem Run.joinAt {C : Cx} {k : List Item} {c : Code} {Q : Value → List SProp → Prop} {E' : Env} {Γ' : List SProp} (tail : Run C k E' Γ' Q)
    (next : (∀ {E1 : Env} {Γ1 Δ : List SProp}, Le E' E1 → Picks Γ' Γ1 Δ → Run C k E1 Γ1 Q) → Run C (.code c :: k) E Γ Q) : Run C (.code c :: k) E Γ Q :=
  next fun l p => tail.to l p

/-- A region that draws and comes to one truth value in one slot. -/
theorem Run.drawsJoin {C : Cx} {k id} {Q : Value → List SProp → Prop} (L : List Nat) (ΓS : List SProp) (t : Nat) (b : Bool) (hm : C.P.follows .mixedOrders = true)
    (h : RunD C.P C.fn.ntmps ops L ΓS ops.size (Array.replicate ops.size false) E Γ fun E' Γ' => Γ' = Γ ∧ lk E' t = some (.bool b) ∧ Le E E')
    (n : Run C k ((t, .bool b) :: E) Γ Q) : Run C (.code (.region id ops true) :: k) E Γ Q :=
  Run.draws L ΓS hm (h.mono fun E' Γ' ⟨e, hl, le⟩ => by subst e; exact n.weak (Le.cons hl le))
end
/-- m[k], of a map of which one entry is held. -/
theorem Reads.lookupE {P : Program} {N : Nat} {E : Env} {Γ Γ' : List SProp} {dst : Option Tmp} {ty : TypeId} {pos : String} {after : Array Edge} {guard : Option (Nat × Bool)} {κ ν : Type} [DecidableEq κ] {enc : κ → Value} {venc : ν → Value}
    {t k e x ix b z} {l : List (κ × ν)} {q q' : κ} {s : Nat} (K : KL P k enc) (hu : P.underlying t = some (.map k e)) (hz : ∀ w, (zeroValue e).run P w = .ok z w) (hx : ev E x = some (.map (some b))) (hi : ev E ix = some (enc q)) (p : Pick (mpe enc venc b l q' s) Γ Γ') :
    Reads P N E Γ ⟨dst, .lookup t x ix false, ty, pos, after, guard⟩ (((mget l q).map venc).getD z) := fun A w a hf hs => by
  have h1 : Sat A w (mp enc venc b l :: Γ') := Sat.map (Γ := mpe enc venc b l q' s :: Γ') (fun h hh => by
    obtain ⟨h1, h2, ok, l1, l2, ⟨es, clock, e0, e1, e2, e3, e4, _⟩, r⟩ := hh
    exact ⟨h1, h2, ok, l1, l2, ⟨es, clock, e0, e1, e2, e3, e4⟩, r⟩) (hs.map fun _ => p.sat)
  exact Reads.lookup (N := N) K hu hz hx hi .head A w a hf h1
end Go.Sp

/- A separation logic over the given machine. Part 19: what strings.Builder does; arrays of pointers; slices of whole arrays. -/
namespace Go.Sp
open Go

section
variable {P : Program} {N : Nat} {E : Env} {Γ Γ' : List SProp} {dst : Option Tmp} {ty : TypeId} {pos : String} {after : Array Edge} {guard : Option (Nat × Bool)}

theorem shape_of {w : World} {b : Nat} {l : List Value} {e : TypeId} {fz : Nat × Nat} (h : w.heap[b]? = some (.cells l.toArray e fz)) : w.shape? b = some (e, l.length) := by
  simp [World.shape?, h]

/-- A pointer of one's own to unsafe.Pointer. -/
theorem Reads.toUnsafe {s d t e : TypeId} {n by_ : Nat} {z : Value} {xo : Operand} {b o : Nat} {l : List Value} (hs : P.underlying s = some (.pointer t)) (hd : P.underlying d = some .unsafePointer) (hi : TI P t n by_ z) (hn : n ≠ 0)
    (hx : ev E xo = some (.pointer (some ⟨b, o, none⟩))) (p : Pick (blk b l e) Γ Γ') (ho : o < l.length) :
    Reads P N E Γ ⟨dst, .convert s d xo, ty, pos, after, guard⟩ (.pointer (some ⟨b, o, none⟩)) := fun A w a hf hsat => by
  obtain ⟨_, fz, _, hh, _⟩ := (hsat.map fun _ => p.sat).blk
  obtain ⟨i, hinf, hsz, _, _⟩ := hi
  have := Go.Lib.run_to_unsafe (P := P) w ⟨b, o, none⟩ hs hd hinf (by omega) (shape_of hh) ho
  simp only [execOp, hf.eval hx]
  simp [this]

/-- .. and back. -/
theorem Reads.fromUnsafe {s d u e : TypeId} {n by_ : Nat} {z : Value} {xo : Operand} {b o : Nat} {l : List Value} (hs : P.underlying s = some .unsafePointer) (hd : P.underlying d = some (.pointer u)) (hi : TI P u n by_ z)
    (hx : ev E xo = some (.pointer (some ⟨b, o, none⟩))) (p : Pick (blk b l e) Γ Γ') (hl : liesAt P P.depth e (l.length / P.cellsOf e) o u 1 = true) :
    Reads P N E Γ ⟨dst, .convert s d xo, ty, pos, after, guard⟩ (.pointer (some ⟨b, o, none⟩)) := fun A w a hf hsat => by
  obtain ⟨_, fz, _, hh, _⟩ := (hsat.map fun _ => p.sat).blk
  obtain ⟨i, hinf, _, _, _⟩ := hi
  have := Go.Lib.run_from_unsafe (P := P) w ⟨b, o, none⟩ hs hd hinf (shape_of hh) hl
  simp only [execOp, hf.eval hx]
  simp [this]

/-- A function outside that gives back what it is given. -/
theorem Reads.same {fo : Operand} {args : Array Operand} {ts : Array TypeId} {f : FuncId} {fn : Func} {v : Value} (hfo : ev E fo = some (.func (.func f) #[] #[])) (ha : evs E args.toList = some [v]) (hf : P.funcs[f]? = some fn) (hname : (fn.name == "runtime.NumGoroutine") = false) (hb : fn.body.isNone = true)
    (hn : Extern.findNext fn = none) (he : Extern.find fn = some Extern.AbiNoEscape.same) : Reads P N E Γ ⟨dst, .call ⟨.value fo, args, ts⟩, ty, pos, after, guard⟩ v := fun A w a hfr _ => by
  have e1 : args.map a.eval = [v].toArray := by
    have := congrArg List.toArray (hfr.evals ha)
    rw [← this, ← Array.toList_map]
  have hname' : fn.name ≠ "runtime.NumGoroutine" := by simpa using hname
  have hb' : fn.body = none := by simpa using hb
  have hs : (Extern.AbiNoEscape.same [v].toArray).run P w = .ok v w := rfl
  simp [execOp, resolve, hfr.eval hfo, Deferred.ofValue, invoke, callFunc, hf, hname', hb', hn, he, e1]
  simp [hs]

theorem Reads.neqPSame {t x y t' te} {n by_ : Nat} {z : Value} {q : Addr} (hu : P.underlying t = some (.pointer te)) (hi : TI P te n by_ z) (hx : ev E x = some (.pointer (some q))) (hy : ev E y = some (.pointer (some q))) :
    Reads P N E Γ ⟨dst, .binOp .neq t x y t', ty, pos, after, guard⟩ (.bool false) := .bin hx hy (eqGuard_pointer P) fun w => by
  obtain ⟨i, hinf, _, _, _⟩ := hi
  exact Go.Lib.run_neq_ptr_same w q hu hinf

/-- unsafe.SliceData. -/
theorem Reads.sliceData {args : Array Operand} {ts : Array TypeId} {x : Operand} {a : Option Addr} {n c : Nat} (ha : args = #[x]) (hx : ev E x = some (.slice a n c)) (h : a = none ∨ c ≠ 0) :
    Reads P N E Γ ⟨dst, .call ⟨.builtin .unsafeSliceData, args, ts⟩, ty, pos, after, guard⟩ (.pointer a) := fun A w ac hf _ => by
  subst ha
  have : (Builtin.unsafeSliceData_ ts ty #[.slice a n c]).run P w = .ok (.pointer a) w := by
    cases a with
    | none => exact Go.Lib.run_unsafeSliceData_nil w ts ty n c
    | some q => exact Go.Lib.run_unsafeSliceData_row w ts ty q n c (by rcases h with h | h; cases h; exact h)
  simp [execOp, resolve, invoke, builtin, hf.eval hx, this]

theorem liesAt_bytes_off {e : TypeId} (hc : P.cellsOf e = 1) (count off n : Nat) (hn : off + n ≤ count) : liesAt P P.depth e count off e n = true := by
  have hd : P.depth = (2 * (P.types.size + Made.depth) + 1) + 1 := rfl
  rw [hd]
  simp only [liesAt, Bool.or_eq_true]
  left
  rw [hd]
  simp [rowAt, hc, hn, sameLayout, Nat.mod_one]

theorem bcs_at {l : List UInt8} {j : Nat} {x : UInt8} (h : l[j]? = some x) : (bcs l)[j]? = some (.int .u8 x.toNat) := by
  unfold bcs; rw [List.getElem?_map, h]; rfl

/-- unsafe.String of a row of bytes of one's own: the row is given up. -/
theorem Eff.unsafeString {args : Array Operand} {ts : Array TypeId} {pt it : TypeId} {x y : Operand} {e : TypeId} {a : Option Addr} {l : List UInt8} {cap : Nat} (ha : args = #[x, y]) (hts : ts = #[pt, it]) (hp : P.underlying pt = some (.pointer e)) (hc : P.cellsOf e = 1)
    (hx : ev E x = some (.pointer a)) (hy : ev E y = some (.int .i64 (l.length : Nat))) (p : Pick (arr e 1 a cap (bcs l)) Γ Γ') (h63 : l.length ≤ 9223372036854775807) :
    Eff P N E Γ ⟨dst, .call ⟨.builtin .unsafeString, args, ts⟩, ty, pos, after, guard⟩ fun v Γ'' => v = .string (str l) ∧ Γ'' = Γ' := by
  subst ha hts
  intro A F w ac nx Z hf hsat hn
  have hsat' : Sat A w (arr e 1 a cap (bcs l) :: (Γ' ++ F)) := hsat.map fun _ => (p.app F).sat
  have run_eq : ∀ v' w', (Builtin.unsafeString_ #[pt, it] ty #[.pointer a, .int .i64 (l.length : Nat)]).run P w = .ok v' w' → (execOp ac.eval ⟨dst, .call ⟨.builtin .unsafeString, #[x, y], #[pt, it]⟩, ty, pos, after, guard⟩).run P w = .ok (.value v') w' := fun v' w' h => by
    simp [execOp, resolve, invoke, builtin, hf.eval hx, hf.eval hy, h]
  unfold Oper.wp
  by_cases h0 : l = []
  · subst h0
    have hr : (Builtin.unsafeString_ #[pt, it] ty #[.pointer a, .int .i64 (([] : List UInt8).length : Nat)]).run P w = .ok (.string .empty) w := Go.Lib.run_unsafeString_none w pt it ty a
    rw [run_eq _ _ hr]
    exact hn _ Γ' w ⟨rfl, rfl⟩ hsat'.drop
  · obtain ⟨am, h, f, h1, h2, ok, l1, l2, H', tt⟩ := id hsat'
    rcases H' with ⟨e2, e3⟩ | ⟨b, pre, post, e1, e2, e3⟩
    · have : l.length = 0 := by have := congrArg List.length e3; simpa [bcs] using this
      exact absurd (List.eq_nil_of_length_eq_zero this) h0
    · subst e1
      have s2 : Sat A w (blk b (pre ++ (bcs l ++ post)) e :: (Γ' ++ F)) := ⟨am, h, f, h1, h2, ok, l1, l2, e3, tt⟩
      obtain ⟨ho, fz, hfz, hh, s3⟩ := s2.blk
      have hcell : ∀ j z, l[j]? = some z → w.cell? ((⟨b, pre.length, none⟩ : Addr).add j) = some (.int .u8 z.toNat) := fun j z hz => by
        rw [Addr_add, cell_of hh, List.getElem?_append_right (by omega)]
        rw [show pre.length + j - pre.length = j by omega, List.getElem?_append_left (by have := (List.getElem?_eq_some_iff.1 (bcs_at hz)).1; exact this)]
        exact bcs_at hz
      have hbl : (bcs l).length = l.length := by simp [bcs]
      have hlies := liesAt_bytes_off (P := P) hc (pre ++ (bcs l ++ post)).length pre.length l.length (by simp [hbl])
      have hlb := Go.Lib.run_loadBytes (P := P) w l ⟨b, pre.length, none⟩ .empty hcell
      have hmax : IntKind.i64.max = 9223372036854775807 := rfl
      have hl : l.length ≠ 0 := by simpa using h0
      have hr : (Builtin.unsafeString_ #[pt, it] ty #[.pointer (some ⟨b, pre.length, none⟩), .int .i64 (l.length : Nat)]).run P w = .ok (.string ⟨l.toArray⟩) (w.freeze ⟨b, pre.length, none⟩ l.length) := by
        have hdef : Builtin.unsafeString_ #[pt, it] ty #[.pointer (some ⟨b, pre.length, none⟩), .int .i64 (l.length : Nat)] =
            (do
              let n ← asInt (.int .i64 (l.length : Nat))
              if n < 0 then runtimePanic (.error "unsafe.String: len out of range")
              if n > IntKind.i64.max then unsupported (.unsafePointer "String: a length above the largest int")
              if n = 0 then pure (.string .empty)
              else if ← variablesAt ⟨b, pre.length, none⟩ (← elemOf pt) n.toNat then do
                let s ← loadBytes ⟨b, pre.length, none⟩ .empty n.toNat
                freeze ⟨b, pre.length, none⟩ n.toNat
                pure (.string s)
              else unsupported (.unsafePointer "String: not so many bytes at ptr")) := rfl
        rw [hdef]
        have h63' : ¬ (9223372036854775807 : Int) < (l.length : Int) := by omega
        have hneg : ¬ (l.length : Int) < 0 := by omega
        simp only [asInt, asIntOf]
        simp [hmax, h63', hneg, hl, variablesAt, shape_of hh, elemOf, underlying, hp, hlb]
        rw [hc, Nat.div_one]
        simpa using hlies
      rw [run_eq _ _ hr]
      refine hn _ Γ' _ ⟨rfl, rfl⟩ ?_
      have hfzw : (w.freeze ⟨b, pre.length, none⟩ l.length).heap[b]? = some (.cells (pre ++ (bcs l ++ post)).toArray e (if fz.1 == fz.2 then (pre.length, pre.length + l.length) else (min fz.1 pre.length, max fz.2 (pre.length + l.length)))) := by
        unfold World.freeze
        rw [if_neg hl]
        simp [Array.getElem?_modify, hh]
      exact (s3.update hfzw (fun c hc2 => by unfold World.freeze; rw [if_neg hl]; simp [Array.getElem?_modify, Ne.symm hc2]) (by unfold World.freeze; rw [if_neg hl]; rfl)).drop

/-- a[:] of an array. -/
theorem Reads.sliceWhole {t x e s b n} (hu : P.underlying t = some (.array n e)) (hs : TS P e s) (hx : ev E x = some (.pointer (some ⟨b, 0, none⟩))) :
    Reads P N E Γ ⟨dst, .slice t x none none none, ty, pos, after, guard⟩ (.slice (some ⟨b, 0, none⟩) n n) := fun _ w a hf _ => by
  have : (0 : Nat) * s = 0 := Nat.zero_mul s
  simp [execOp, Instr.sliceAt, Instr.sureAddr, Instr.sliceBounds, hf.eval hx, underlying, hu, hs.run, Addr_add]

/-- x[i] of an array's value, elements of one cell. -/
theorem Reads.indexV {t x i e} {n : Nat} {k : IntKind} {j : Nat} {cs : Array Value} {v : Value} (hu : P.underlying t = some (.array n e)) (hna : NotAgg P e) (hs : TS P e 1) (hx : ev E x = some (.agg cs)) (hi : ev E i = some (.int k (j : Int))) (hj : j < n) (hv : cs[j]? = some v) :
    Reads P N E Γ ⟨dst, .index t x i, ty, pos, after, guard⟩ v := fun _ w a hf _ => by
  have := part1 hna hv w
  simp [execOp, hf.eval hx, hf.eval hi, Instr.index, asIntOf, underlying, hu, hj, hs.run, this]
/-- 'append' onto a full row that is only read: a new row. -/
theorem Eff.appendFull {args : Array Operand} {ts : Array TypeId} {x y t tx e s by_ z} {b o n m : Nat} {cs ys : List Value} {src : Value} (ha : args = #[x, y]) (hts : ts = #[t, tx]) (hu : P.underlying t = some (.slice e)) (hi : TI P e s by_ z)
    (hz : z.cells.size = s) (hzo : ones z.cells.toList) (hb0 : 0 < by_) (hx : ev E x = some (.slice (some ⟨b, o, none⟩) n n)) (hy : ev E y = some src) (hk : Knows Γ (CellsAt b o cs)) (hn : cs.length = n * s) (hsrc : Knows Γ (SrcAt P s tx src m ys)) (hm : 0 < m)
    (hbound : (n + m) * by_ ≤ 140737488355328) :
    Eff P N E Γ ⟨dst, .call ⟨.builtin .append, args, ts⟩, ty, pos, after, guard⟩ fun u Γ'' => ∃ a' cap', u = .slice a' (n + m) cap' ∧ Γ'' = arr e s a' cap' (cs ++ ys) :: Γ := by
  subst ha hts
  intro A F w ac nx Z hf hsat hnext
  have hS := hsrc A w hsat.left
  have hK := hk A w hsat.left
  obtain ⟨i, hinf, hsz, hby, hzv⟩ := hi
  subst hsz hby
  have hyl := hS.src.newsLen
  have run_eq : ∀ v' w', (Builtin.append_ #[t, tx] ty #[.slice (some ⟨b, o, none⟩) n n, src]).run P w = .ok v' w' → (execOp ac.eval ⟨dst, .call ⟨.builtin .append, #[x, y], #[t, tx]⟩, ty, pos, after, guard⟩).run P w = .ok (.value v') w' := fun v' w' h => by
    simp [execOp, resolve, invoke, builtin, hf.eval hx, hf.eval hy, h]
  have h63 : (((n + m : Nat) : Int)) ≤ 9223372036854775807 := by
    have : n + m ≤ (n + m) * i.bytes := Nat.le_mul_of_pos_right _ hb0
    omega
  unfold Oper.wp
  have hg : n < n + m := by omega
  have hold : (Builtin.firstCells i.size n (.slice (some ⟨b, o, none⟩) n n)).run P w.drew = .ok cs.toArray w.drew :=
    run_firstCells_some (P := P) w.drew i.size n ⟨b, o, none⟩ n n cs hn (fun j v hv => by rw [Addr_add, World.cell?_drew]; exact hK.1 j v hv)
  have hr := run_append_grow_src (P := P) w t tx ty e i z hu hinf hzv (some ⟨b, o, none⟩) n n cs hold src m ys hS.src hg h63 (growslice_fits hg hbound)
  have e5 : ((cs ++ ys).toArray ++ Builtin.zeroCells z.cells (grownCap w (n + m) n e - (n + m))) = ((cs ++ ys) ++ (Builtin.zeroCells z.cells (grownCap w (n + m) n e - (n + m))).toList).toArray := by
    apply Array.ext'; simp
  rw [e5] at hr
  rw [run_eq _ _ hr]
  refine hnext _ _ _ ⟨_, _, rfl, rfl⟩ ?_
  have hge := grownCap_ge w (n + m) n e
  have s4 := Sat.blk_of (fz := (0, 0)) ((hsat.drew (w := w)).alloc (.cells ((cs ++ ys) ++ (Builtin.zeroCells z.cells (grownCap w (n + m) n e - (n + m))).toList).toArray e)) ((hK.2.append hS.src.one).append (zeroCells_ones hzo _)) (.inl rfl)
  show Sat A _ (_ :: (Γ ++ F))
  refine Sat.close (Γ := Γ ++ F) (B := [blk w.heap.size ([] ++ ((cs ++ ys) ++ (Builtin.zeroCells z.cells (grownCap w (n + m) n e - (n + m))).toList)) e]) (fun h' H => ?_) (by rw [List.nil_append]; exact s4)
  refine sat.arr_close (pre := []) ?_ H
  simp [size_zeroCells, hz, hn, hyl]
  rw [← Nat.add_mul, ← Nat.add_mul]; congr 1; omega
end
end Go.Sp

/- A separation logic over the given machine. Part 20: ways that come together; what is known for good. -/
namespace Go.Sp
open Go

theorem Run.joinEx {C : Cx} {k : List Item} {c : Code} {Q : Value → List SProp → Prop} {E : Env} {Γ : List SProp} {σ : Type} {φ : σ → Prop} {E' : σ → Env} {Γ' : σ → List SProp} (tail : ∀ s, φ s → Run C k (E' s) (Γ' s) Q)
    (next : (∀ s, φ s → ∀ {E1 : Env} {Γ1 Δ : List SProp}, Le (E' s) E1 → Picks (Γ' s) Γ1 Δ → Run C k E1 Γ1 Q) → Run C (.code c :: k) E Γ Q) : Run C (.code c :: k) E Γ Q :=
  next fun s hs _ _ _ l p => (tail s hs).to l p

theorem Sat.knowT {A w Γ} {φ : World → Prop} (H : ∀ w, φ w) (s : Sat A w Γ) : Sat A w (know φ :: Γ) := by
  obtain ⟨a, h, f, t⟩ := s
  exact ⟨a, h, f, fun _ => none, h, fun _ => .inl rfl, fun _ _ e => by simp at e, .refl _, ⟨fun _ => none, .refl _, fun _ _ e => by simp at e, fun w _ => H w⟩, t⟩

section
variable {C : Cx} {k : List Item} {E : Env} {Γ Γ' : List SProp} {Q : Value → List SProp → Prop} {P : Program} {N : Nat} {ops : Array Oper} {os : List Oper} {K : Env → List SProp → Prop}

theorem Run.knowT (φ : World → Prop) (H : ∀ w, φ w) (n : Run C k E (know φ :: Γ) Q) : Run C k E Γ Q := fun A F w a hf hs => n A F w a hf (Sat.knowT H hs)
theorem RunO.knowT (φ : World → Prop) (H : ∀ w, φ w) (n : RunO P N ops os E (know φ :: Γ) K) : RunO P N ops os E Γ K := fun A F w a Z hf hs hz => n A F w a Z hf (Sat.knowT H hs) hz
theorem Run.knowAnd {φ ψ : World → Prop} (χ : World → Prop) (p : Picks [know φ, know ψ] Γ Γ') (H : ∀ w, φ w → ψ w → χ w) (n : Run C k E (know χ :: Γ') Q) : Run C k E Γ Q :=
  .close p (fun _ s => by
    obtain ⟨j, jl, jr, e⟩ := sat.know_and s
    exact ⟨j, jl, jr, fun w f => H w (e w f).1 (e w f).2⟩) n
theorem RunO.knowAnd {φ ψ : World → Prop} (χ : World → Prop) (p : Picks [know φ, know ψ] Γ Γ') (H : ∀ w, φ w → ψ w → χ w) (n : RunO P N ops os E (know χ :: Γ') K) : RunO P N ops os E Γ K :=
  .close p (fun _ s => by
    obtain ⟨j, jl, jr, e⟩ := sat.know_and s
    exact ⟨j, jl, jr, fun w f => H w (e w f).1 (e w f).2⟩) n
theorem Run.knowMono {φ : World → Prop} (χ : World → Prop) (p : Pick (know φ) Γ Γ') (H : ∀ w, φ w → χ w) (n : Run C k E (know χ :: Γ') Q) : Run C k E Γ Q :=
  .close (.cons p .nil) (fun _ s => sat.know_mono H s) n
theorem RunO.knowMono {φ : World → Prop} (χ : World → Prop) (p : Pick (know φ) Γ Γ') (H : ∀ w, φ w → χ w) (n : RunO P N ops os E (know χ :: Γ') K) : RunO P N ops os E Γ K :=
  .close (.cons p .nil) (fun _ s => sat.know_mono H s) n
/-- The first n operations come to one truth value in one slot; one more slot is kept. -/
theorem RunO.join2 (n : Nat) (t : Nat) (b : Bool) (t2 : Nat) (v2 : Value) (h1 : RunO P N ops (os.take n) E Γ fun E' Γ' => Γ' = Γ ∧ lk E' t = some (.bool b) ∧ lk E' t2 = some v2 ∧ Le E E')
    (h2 : RunO P N ops (os.drop n) ((t, .bool b) :: (t2, v2) :: E) Γ K) : RunO P N ops os E Γ K :=
  RunO.cut n h1 fun _ _ ⟨hΓ, ht, ht2, hl⟩ => by subst hΓ; exact h2.weak (Le.cons ht (Le.cons ht2 hl))
end
end Go.Sp

/- A separation logic over the given machine. Part 21: blocks whose address may be compared; maps cleared; packed resources; regions whose ends come together. -/
namespace Go.Sp
open Go

/-- A block of which no text was ever made. -/
def blk0 (b : Nat) (l : List Value) (e : TypeId) : SProp := fun h => ones l ∧ h b = some (false, .cells l.toArray e (0, 0))
def Clean (b : Nat) (w : World) : Prop := ∃ cs e, w.heap[b]? = some (.cells cs e (0, 0))

theorem Sat.blk0 {A w b l e Γ} (s : Sat A w (Sp.blk0 b l e :: Γ)) : ones l ∧ w.heap[b]? = some (.cells l.toArray e (0, 0)) ∧ Sat A w (Sp.own b (.cells l.toArray e (0, 0)) :: Γ) := by
  obtain ⟨a, h, f, h1, h2, ok, l1, l2, ⟨ho, e0⟩, t⟩ := s
  exact ⟨ho, f b _ (l1 b _ e0), a, h, f, h1, h2, ok, l1, l2, e0, t⟩
theorem Sat.blk0_of {A w b l e Γ} (s : Sat A w (Sp.own b (.cells l.toArray e (0, 0)) :: Γ)) (ho : ones l) : Sat A w (Sp.blk0 b l e :: Γ) := by
  obtain ⟨a, h, f, h1, h2, ok, l1, l2, e0, t⟩ := s
  exact ⟨a, h, f, h1, h2, ok, l1, l2, ⟨ho, e0⟩, t⟩
theorem Knows.blk0 {Γ Γ' b l e} (p : Pick (Sp.blk0 b l e) Γ Γ') : Knows Γ (CellsAt b 0 l) := fun _ _ s => by
  obtain ⟨ho, hh, _⟩ := (s.map fun _ => p.sat).blk0
  exact ⟨fun i v hv => by rw [Nat.zero_add, cell_of hh]; exact hv, ho⟩
theorem Knows.clean {Γ Γ' b l e} (p : Pick (Sp.blk0 b l e) Γ Γ') : Knows Γ (Clean b) := fun _ _ s => ⟨_, _, (s.map fun _ => p.sat).blk0.2.1⟩
/-- A new block is none of those that one has. -/
theorem Knows.fresh {α : Type} {g : α → Nat} {c : α → List Value} {e e' : TypeId} {b : Nat} {l : List Value} {xs : List α} {Γ Γ' : List SProp} (p : Picks [Sp.blk0 b l e, Sp.bag (fun y => Sp.blk0 (g y) (c y) e') xs] Γ Γ') :
    Knows Γ fun _ => ∀ y ∈ xs, g y ≠ b := fun A w s y hy hb => by
  obtain ⟨m, hm⟩ : ∃ m, xs.Perm (y :: m) := by
    obtain ⟨a, c, rfl⟩ := List.append_of_mem hy
    exact ⟨a ++ c, List.perm_middle⟩
  have h1 : Sat A w ([Sp.blk0 b l e, Sp.bag (fun y => Sp.blk0 (g y) (c y) e') xs] ++ Γ') := s.map fun _ => p.sat
  obtain ⟨_, h, _, h1, h2, ok, l1, l2, ⟨_, e0⟩, h3, h4, _, m1, _, hb', _⟩ := h1
  obtain ⟨k1, _, _, n1, _, ⟨_, e1⟩, _⟩ := bag.take hm hb'
  have x1 : h2 b = some (false, .cells (c y).toArray e' (0, 0)) := m1 _ _ (n1 _ _ (hb ▸ e1))
  rcases ok b with x | x | ⟨_, _, x⟩
  · rw [e0] at x; cases x
  · rw [x1] at x; cases x
  · rw [e0] at x; cases x

section
variable {P : Program} {N : Nat} {E : Env} {Γ Γ' : List SProp} {dst : Option Tmp} {ty : TypeId} {pos : String} {after : Array Edge} {guard : Option (Nat × Bool)}

theorem Eff.box0 {e x v} {l : List Value} (hx : ev E x = some v) (hc : v.cells.toList = l) (hl : ones l) : Eff P N E Γ ⟨dst, .box e x, ty, pos, after, guard⟩ fun u Γ'' => ∃ b, u = .pointer (some ⟨b, 0, none⟩) ∧ Γ'' = blk0 b l e :: Γ := by
  intro A F w a nx Z hf hsat hn
  unfold Oper.wp
  have hc' : v.cells = l.toArray := by rw [← hc]
  simp [execOp, Instr.box, hf.eval hx, newVar, newRow, Oper.upon, hc']
  refine hn _ _ _ ⟨w.heap.size, rfl, rfl⟩ ?_
  exact Sat.blk0_of (hsat.alloc _) hl
theorem Eff.store0 {t x y v} {b o : Nat} {l : List Value} {e : TypeId} (hs : TS P t 1) (hx : ev E x = some (.pointer (some ⟨b, o, none⟩))) (hy : ev E y = some v) (p : Pick (blk0 b l e) Γ Γ')
    (hv : v.oneCell' = true) (hl : o < l.length) : Eff P N E Γ ⟨dst, .store t x y, ty, pos, after, guard⟩ fun _ Γ'' => Γ'' = blk0 b (l.set o v) e :: Γ' := by
  intro A F w a nx Z hf hsat hn
  have hsat' : Sat A w (blk0 b l e :: (Γ' ++ F)) := hsat.map fun _ => (p.app F).sat
  obtain ⟨ho, hh, s'⟩ := hsat'.blk0
  have hr := run_storeCells_cells (P := P) b o [v] 0 w (fun j hj => by rw [cell_of hh]; simp at hj; subst hj; simp; omega)
    (fun j hj => by simp [World.frozen?, hh]) (fun u hu => by rcases List.mem_singleton.1 hu with rfl; exact hv)
  simp only [Nat.add_zero] at hr
  obtain ⟨a1, a2⟩ := heap_setCells b [v] o w l e (0, 0) hh (by simp; omega)
  rw [splice_one hl] at a1
  have hsz : v.cells.size = 1 := by rw [← Array.length_toList, cells_one hv]; rfl
  unfold Oper.wp
  simp [execOp, hf.eval hx, hf.eval hy, Instr.storeAt, Instr.sureAddr, storeVar, hs.run, hsz, cells_one hv, hr]
  refine hn _ _ _ rfl (Sat.blk0_of (s'.update a1 a2 (amb_setCells b [v] o w)) ?_)
  exact fun u hu => by
    rcases List.mem_or_eq_of_mem_set hu with h | h
    · exact ho u h
    · rw [h]; exact hv

theorem Reads.eqPSame {t x y t' te} {n by_ : Nat} {z : Value} {q : Addr} (hu : P.underlying t = some (.pointer te)) (hi : TI P te n by_ z) (hx : ev E x = some (.pointer (some q))) (hy : ev E y = some (.pointer (some q))) :
    Reads P N E Γ ⟨dst, .binOp .eql t x y t', ty, pos, after, guard⟩ (.bool true) := .bin hx hy (eqGuard_pointer P) fun w => by
  obtain ⟨i, hinf, _, _, _⟩ := hi
  exact run_eql_ptr_same w q hu hinf
theorem Reads.eqPOther {t x y t' te} {n by_ : Nat} {z : Value} {a b : Nat} (hu : P.underlying t = some (.pointer te)) (hi : TI P te n by_ z) (hn : n ≠ 0) (hx : ev E x = some (.pointer (some ⟨a, 0, none⟩))) (hy : ev E y = some (.pointer (some ⟨b, 0, none⟩)))
    (hne : a ≠ b) (ka : Knows Γ (Clean a)) (kb : Knows Γ (Clean b)) : Reads P N E Γ ⟨dst, .binOp .eql t x y t', ty, pos, after, guard⟩ (.bool false) := fun A w ac hf hs => by
  obtain ⟨i, hinf, hsz, _, _⟩ := hi
  obtain ⟨ca, ta, ha⟩ := ka A w hs
  obtain ⟨cb, tb, hb⟩ := kb A w hs
  have := run_eql_ptr_other (P := P) w (a := ⟨a, 0, none⟩) (b := ⟨b, 0, none⟩) hu hinf (by omega) (by simpa using hne) ha hb
  simp [execOp, hf.eval hx, hf.eval hy, eqGuard_pointer, this]

theorem Eff.mapClear {κ ν : Type} [DecidableEq κ] {enc : κ → Value} {venc : ν → Value} {args : Array Operand} {ts : Array TypeId} {x : Operand} {t k e : TypeId} {b : Nat} {l : List (κ × ν)} (ha : args = #[x]) (hts : ts = #[t]) (hu : P.underlying t = some (.map k e))
    (hx : ev E x = some (.map (some b))) (p : Pick (mp enc venc b l) Γ Γ') : Eff P N E Γ ⟨dst, .call ⟨.builtin .clear, args, ts⟩, ty, pos, after, guard⟩ fun _ Γ'' => Γ'' = mp enc venc b [] :: Γ' := by
  subst ha hts
  intro A F w ac nx Z hf hsat hnext
  have hsat' : Sat A w (mp enc venc b l :: (Γ' ++ F)) := hsat.map fun _ => (p.app F).sat
  obtain ⟨es, clock, hh, e1, e2, e3, e4, s'⟩ := hsat'.mp_own
  have hg : (getObj b).run P w = .ok (.map es clock) w := by simp [getObj, Sem.run, hh]
  obtain ⟨h1, h2⟩ := Sat.setObj (P := P) (o' := .map #[] clock) s' (fun c e f h => by cases h)
  unfold Oper.wp
  simp [execOp, resolve, invoke, builtin, hf.eval hx, Builtin.clear_, underlying, hu, hg, h1, Oper.upon]
  exact hnext _ _ _ rfl (Sat.mp_of h2 rfl (by simp) (by simp) (by simp))
end

/-- Several resources in one. -/
def pk (L : List SProp) : SProp := fun h => sat L h
theorem sat.pk {L : List SProp} {h : Hp} (s : sat L h) : sat [Sp.pk L] h := sat.one s
section
variable {P : Program} {N : Nat} {ops : Array Oper} {os : List Oper} {E : Env} {Γ Γ' L : List SProp} {K : Env → List SProp → Prop} {C : Cx} {k : List Item} {Q : Value → List SProp → Prop}
theorem Run.unpack (p : Pick (pk L) Γ Γ') (n : Run C k E (L ++ Γ') Q) : Run C k E Γ Q := .open_ (σ := Unit) (φ := fun _ => True) (B := fun _ => L) p (fun _ h => ⟨(), trivial, h⟩) fun _ _ => n
theorem RunO.unpack (p : Pick (pk L) Γ Γ') (n : RunO P N ops os E (L ++ Γ') K) : RunO P N ops os E Γ K := .open_ (σ := Unit) (φ := fun _ => True) (B := fun _ => L) p (fun _ h => ⟨(), trivial, h⟩) fun _ _ => n
theorem Run.pack (p : Picks L Γ Γ') (n : Run C k E (pk L :: Γ') Q) : Run C k E Γ Q := .close p (fun _ s => s) n
theorem RunO.pack (p : Picks L Γ Γ') (n : RunO P N ops os E (pk L :: Γ') K) : RunO P N ops os E Γ K := .close p (fun _ s => s) n

theorem Cn.pack {f args φ} (h : Cn P f args φ L Q) : Cn P f args φ [pk L] fun v G => ∃ G', Q v G' ∧ G = [pk G'] := fun R kR => by
  have h1 := h R kR
  refine ⟨h1.able, fun A F w s => ?_⟩
  have s1 : Sat A w ((L ++ [R]) ++ F) := by
    rw [List.append_assoc]
    exact s.map fun _ t => sat.unfold (Γ := L) t
  refine (h1.runs A F w s1).mono ?_
  rintro e w' ⟨v, _, he, ⟨G', hq, rfl⟩, s'⟩
  refine ⟨v, [pk G'] ++ [R], he, ⟨_, ⟨G', hq, rfl⟩, rfl⟩, ?_⟩
  rw [List.append_assoc] at s'
  exact s'.map fun _ t => sat.fold t

theorem Run.drawsTo {id} (L1 : List Nat) (ΓS : List SProp) (E2 : Env) (Γ2 : List SProp) (hm : C.P.follows .mixedOrders = true)
    (h : RunD C.P C.fn.ntmps ops L1 ΓS ops.size (Array.replicate ops.size false) E Γ fun E' Γ' => Le E2 E' ∧ ∃ Δ, Picks Γ2 Γ' Δ) (n : Run C k E2 Γ2 Q) : Run C (.code (.region id ops true) :: k) E Γ Q :=
  Run.draws L1 ΓS hm (h.mono fun _ _ ⟨l, _, p⟩ => n.to l p)
end
end Go.Sp

/- Chapter 3: checksums, in plain Lean. -/
namespace Go.Proofs.Ytlcglmimndkleaa
open Go Go.Sp

/-- One bit of a checksum. -/
def crc1 (c : BitVec 32) : BitVec 32 := (c >>> 1) ^^^ (2197175160#32 &&& -(c &&& 1#32))
def crcN : Nat → BitVec 32 → BitVec 32
  | 0, c => c
  | n + 1, c => crcN n (crc1 c)
def crcB (c : BitVec 32) (b : UInt8) : BitVec 32 := crcN 8 (c ^^^ BitVec.ofNat 32 b.toNat)
def crcS (l : List UInt8) : BitVec 32 := l.foldl crcB 4294967295#32
def crc (l : List UInt8) : BitVec 32 := ~~~ crcS l

theorem and_one (c : BitVec 32) : c &&& 1#32 = BitVec.ofNat 32 (c.toNat % 2) := by
  apply BitVec.eq_of_toNat_eq
  rw [BitVec.toNat_and]
  show c.toNat &&& 1 = _
  rw [Nat.and_one_is_mod, BitVec.toNat_ofNat]; omega

/-- The same, as the document reckons it. -/
theorem crc1_odd {c : BitVec 32} (h : c.toNat % 2 = 1) : crc1 c = (c >>> 1) ^^^ 2197175160#32 := by
  unfold crc1; rw [and_one, h]; rfl
theorem crc1_even {c : BitVec 32} (h : c.toNat % 2 = 0) : crc1 c = c >>> 1 := by
  unfold crc1; rw [and_one, h]
  show (c >>> 1) ^^^ (2197175160#32 &&& 0#32) = _
  simp

theorem crcS_snoc (l : List UInt8) (i : Nat) {b : UInt8} (h : l[i]? = some b) : crcS (l.take (i + 1)) = crcB (crcS (l.take i)) b := by
  unfold crcS; rw [List.take_add_one, h, List.foldl_append]; rfl

theorem u8_u32 (b : UInt8) : IntKind.u32.wrap (b.toNat : Int) = ((BitVec.ofNat 32 b.toNat).toNat : Int) := by
  rw [wrap_un rfl]; rfl
end Go.Proofs.Ytlcglmimndkleaa

/- Chapter 3: ints as bytes, in plain Lean. -/
namespace Go.Proofs.Ytlcglmimndkleaa
open Go Go.Sp

def i64 (n : Int) : Prop := -9223372036854775808 ≤ n ∧ n ≤ 9223372036854775807

/-- An int as a number from 0 on, and back. -/
def zig (n : Int) : Nat := if n < 0 then (2 * (-(n + 1)) + 1).toNat else (2 * n).toNat
def zag (z : Nat) : Int := if z % 2 = 1 then -((z / 2 : Nat) : Int) - 1 else ((z / 2 : Nat) : Int)
theorem zag_zig (n : Int) : zag (zig n) = n := by unfold zag zig; split <;> split <;> omega
theorem zig_lt {n : Int} (h : i64 n) : zig n < 18446744073709551616 := by obtain ⟨h1, h2⟩ := h; unfold zig; split <;> omega
theorem zag_i64 {z : Nat} (h : z < 18446744073709551616) : i64 (zag z) := by unfold zag i64; split <;> omega

/-- A number by sevens. -/
def vint (z : Nat) : List UInt8 := if z < 128 then [UInt8.ofNat z] else UInt8.ofNat (z % 128 + 128) :: vint (z / 128)
termination_by z
theorem vint_small {z : Nat} (h : z < 128) : vint z = [UInt8.ofNat z] := by rw [vint, if_pos h]
theorem vint_big {z : Nat} (h : ¬ z < 128) : vint z = UInt8.ofNat (z % 128 + 128) :: vint (z / 128) := by rw [vint, if_neg h]
theorem vint_len (z : Nat) : ∀ k, z < 128 ^ (k + 1) → (vint z).length ≤ k + 1 := by
  induction z using Nat.strongRecOn with
  | _ z ih =>
    intro k hk
    by_cases h : z < 128
    · rw [vint_small h]; simp
    · rw [vint_big h]
      cases k with
      | zero => omega
      | succ k =>
        have := ih (z / 128) (by omega) k (by rw [Nat.pow_succ] at hk; omega)
        simp; omega
theorem vint_ten {z : Nat} (h : z < 18446744073709551616) : (vint z).length ≤ 10 := vint_len z 9 (by
  have : (128 : Nat) ^ 10 = 1180591620717411303424 := by decide
  show z < 128 ^ 10
  omega)
theorem vint_pos (z : Nat) : 0 < (vint z).length := by
  by_cases h : z < 128
  · rw [vint_small h]; simp
  · rw [vint_big h]; simp
def eint (n : Int) : List UInt8 := vint (zig n)
theorem eint_len {n : Int} (h : i64 n) : (eint n).length ≤ 10 := vint_ten (zig_lt h)

/-! ### What the program's operations yield -/

theorem wrap_u64 {n : Nat} (h : n < 18446744073709551616) : IntKind.u64.wrap (n : Int) = n := by
  unfold IntKind.wrap; simp [IntKind.signed, IntKind.bits]; omega
theorem wrap_u8 {n : Nat} (h : n < 256) : IntKind.u8.wrap (n : Int) = n := by
  unfold IntKind.wrap; simp [IntKind.signed, IntKind.bits]; omega
theorem u64_u8 (n : Nat) : IntKind.u8.wrap (n : Int) = ((n % 256 : Nat) : Int) := by
  unfold IntKind.wrap; simp [IntKind.signed, IntKind.bits]

theorem wrap_mod (n : Int) : IntKind.i64.wrap n % 18446744073709551616 = n % 18446744073709551616 := by
  unfold IntKind.wrap; simp [IntKind.signed, IntKind.bits]; split <;> omega
theorem u64_of (n : Int) : IntKind.u64.wrap n = n % 18446744073709551616 := by
  unfold IntKind.wrap; simp [IntKind.signed, IntKind.bits]
theorem ofInt_wrap (n : Int) : BitVec.ofInt 64 (IntKind.i64.wrap n) = BitVec.ofInt 64 n := by
  apply BitVec.eq_of_toNat_eq
  rw [BitVec.toNat_ofInt, BitVec.toNat_ofInt]
  show (IntKind.i64.wrap n % 18446744073709551616).toNat = (n % 18446744073709551616).toNat
  rw [wrap_mod]
theorem toNat_ofInt64 (n : Int) : (BitVec.ofInt 64 n).toNat = (n % 18446744073709551616).toNat := by
  rw [BitVec.toNat_ofInt]; rfl

/-- n<<1 ^ n>>63, as an unsigned number. -/
theorem zig_bits {n : Int} (h : i64 n) :
    IntKind.u64.wrap (IntKind.i64.wrap ((BitVec.ofInt 64 (IntKind.i64.wrap (n * 2 ^ (min 1 64))) ^^^ BitVec.ofInt 64 (n.fdiv (2 ^ (min 63 64)))).toNat : Int)) = (zig n : Int) := by
  obtain ⟨h1, h2⟩ := h
  rw [u64_of, wrap_mod, ofInt_wrap]
  have e1 : n * 2 ^ (min 1 64) = n * 2 := rfl
  have e2 : (2 : Int) ^ (min 63 64) = 9223372036854775808 := by decide
  rw [e1, e2]
  unfold zig
  by_cases hn : n < 0
  · have e3 : n.fdiv 9223372036854775808 = -1 := by rw [Int.fdiv_eq_ediv_of_nonneg _ (by omega)]; omega
    rw [e3, if_pos hn, show BitVec.ofInt 64 (-1) = BitVec.allOnes 64 from rfl, BitVec.xor_allOnes, BitVec.toNat_not, toNat_ofInt64]
    omega
  · have e3 : n.fdiv 9223372036854775808 = 0 := by rw [Int.fdiv_eq_ediv_of_nonneg _ (by omega)]; omega
    rw [e3, if_neg hn, show BitVec.ofInt 64 0 = 0#64 from rfl, BitVec.xor_zero, toNat_ofInt64]
    omega

end Go.Proofs.Ytlcglmimndkleaa

/- Chapter 3: bytes as ints, in plain Lean. -/
namespace Go.Proofs.Ytlcglmimndkleaa
open Go Go.Sp

/-- The next int: its value, how many bytes, what was wrong. -/
def rintGo : Nat → Nat → Nat → List UInt8 → Int × Nat × Int
  | 0, _, _, _ => (0, 0, 4)
  | _ + 1, _, _, [] => (0, 0, 5)
  | f + 1, i, z, b :: l =>
    if i = 9 ∧ 1 < b.toNat then (0, 0, 4)
    else if 127 < b.toNat then rintGo f (i + 1) (z + b.toNat % 128 * 128 ^ i) l
    else if 0 < i ∧ b.toNat = 0 then (0, 0, 4)
    else (zag (z + b.toNat % 128 * 128 ^ i), i + 1, 0)
def rint (l : List UInt8) : Int × Nat × Int := rintGo 10 0 0 l

theorem pow7 (i : Nat) : 2 ^ (7 * i) = 128 ^ i := by rw [Nat.pow_mul]

/-- What is read so far fits. -/
theorem z_next {z i b : Nat} (hz : z < 128 ^ i) : z + b % 128 * 128 ^ i < 128 ^ (i + 1) := by
  have h1 : b % 128 * 128 ^ i ≤ 127 * 128 ^ i := Nat.mul_le_mul_right _ (by omega)
  rw [Nat.pow_succ]; omega
theorem z_fits {z i b : Nat} (hz : z < 128 ^ i) (hi : i ≤ 9) (h9 : ¬ (i = 9 ∧ 1 < b)) : z + b % 128 * 128 ^ i < 18446744073709551616 := by
  by_cases h : i = 9
  · subst h
    have : (128 : Nat) ^ 9 = 9223372036854775808 := by decide
    rw [this] at hz ⊢
    have : b % 128 ≤ 1 := by omega
    omega
  · have h1 := z_next (b := b) hz
    have h2 : 128 ^ (i + 1) ≤ 128 ^ 9 := Nat.pow_le_pow_right (by omega) (by omega)
    have : (128 : Nat) ^ 9 = 9223372036854775808 := by decide
    omega

theorem and127 (b : UInt8) : IntKind.u64.wrap (IntKind.u8.wrap ((BitVec.ofInt 8 (b.toNat : Int) &&& BitVec.ofInt 8 127).toNat : Int)) = ((b.toNat % 128 : Nat) : Int) := by
  have key : ∀ m : Fin 256, (BitVec.ofInt 8 ((m : Nat) : Int) &&& BitVec.ofInt 8 127).toNat = (m : Nat) % 128 := by decide +kernel
  have h := key ⟨b.toNat, b.toNat_lt⟩
  simp only at h
  rw [h, wrap_u8 (by omega), wrap_u64 (by omega)]

theorem or_shift {z i b : Nat} (hz : z < 128 ^ i) (hi : i ≤ 9) (h9 : ¬ (i = 9 ∧ 1 < b)) :
    IntKind.u64.wrap ((BitVec.ofInt 64 (z : Int) ||| BitVec.ofInt 64 (IntKind.u64.wrap (((b % 128 : Nat) : Int) * 2 ^ (min (7 * i) 64)))).toNat : Int) = ((z + b % 128 * 128 ^ i : Nat) : Int) := by
  have hf := z_fits hz hi h9
  have e1 : (((b % 128 : Nat) : Int) * 2 ^ (min (7 * i) 64)) = ((b % 128 * 128 ^ i : Nat) : Int) := by
    rw [Nat.min_eq_left (by omega), ← pow7]; push_cast; rfl
  rw [e1, wrap_u64 (n := b % 128 * 128 ^ i) (by omega), BitVec.toNat_or, toNat_ofInt64, toNat_ofInt64]
  have e2 : ((z : Int) % 18446744073709551616).toNat = z := by omega
  have e3 : (((b % 128 * 128 ^ i : Nat) : Int) % 18446744073709551616).toNat = b % 128 * 128 ^ i := by omega
  rw [e2, e3, wrap_u64]
  · have := Nat.shiftLeft_add_eq_or_of_lt (i := 7 * i) (b := z) (by rw [pow7]; exact hz) (b % 128)
    rw [Nat.shiftLeft_eq, pow7] at this
    rw [Nat.or_comm, ← this, Nat.add_comm]
  · have := Nat.shiftLeft_add_eq_or_of_lt (i := 7 * i) (b := z) (by rw [pow7]; exact hz) (b % 128)
    rw [Nat.shiftLeft_eq, pow7] at this
    rw [Nat.or_comm, ← this]; omega

/-- int(z>>1) ^ -int(z&1). -/
theorem zag_bits {z : Nat} (hz : z < 18446744073709551616) :
    IntKind.i64.wrap ((BitVec.ofInt 64 (IntKind.i64.wrap ((z : Int).fdiv (2 ^ (min 1 64)))) ^^^ BitVec.ofInt 64 (IntKind.i64.wrap (-(IntKind.i64.wrap (IntKind.u64.wrap ((BitVec.ofInt 64 (z : Int) &&& BitVec.ofInt 64 1).toNat : Int)))))).toNat : Int) = zag z := by
  have e0 : (z : Int).fdiv (2 ^ (min 1 64)) = ((z / 2 : Nat) : Int) := by
    show (z : Int).fdiv 2 = _
    rw [Int.fdiv_eq_ediv_of_nonneg _ (by omega)]; omega
  have e1 : (BitVec.ofInt 64 (z : Int) &&& BitVec.ofInt 64 1).toNat = z % 2 := by
    rw [BitVec.toNat_and, toNat_ofInt64, show ((z : Int) % 18446744073709551616).toNat = z by omega]
    show z &&& 1 = _
    rw [Nat.and_one_is_mod]
  rw [e0, e1, wrap_u64 (by omega), wrap_i64 (n := ((z % 2 : Nat) : Int)) (by omega) (by omega), ofInt_wrap, ofInt_wrap]
  unfold zag
  by_cases h : z % 2 = 1
  · rw [if_pos h, h, show BitVec.ofInt 64 (-((1 : Nat) : Int)) = BitVec.allOnes 64 from rfl, BitVec.xor_allOnes, BitVec.toNat_not, toNat_ofInt64]
    unfold IntKind.wrap; simp [IntKind.signed, IntKind.bits]; split <;> omega
  · rw [if_neg h, show z % 2 = 0 by omega, show BitVec.ofInt 64 (-((0 : Nat) : Int)) = 0#64 from rfl, BitVec.xor_zero, toNat_ofInt64]
    rw [wrap_i64 (by omega) (by omega)]; omega

end Go.Proofs.Ytlcglmimndkleaa

/- Chapter 3: four bytes, in plain Lean. -/
namespace Go.Proofs.Ytlcglmimndkleaa
open Go Go.Sp

def fours (n : Nat) : List UInt8 := [UInt8.ofNat (n / 16777216 % 256), UInt8.ofNat (n / 65536 % 256), UInt8.ofNat (n / 256 % 256), UInt8.ofNat (n % 256)]
def four : List UInt8 → Nat
  | a :: b :: c :: d :: _ => a.toNat * 16777216 + b.toNat * 65536 + c.toNat * 256 + d.toNat
  | _ => 0
theorem fours_len (n : Nat) : (fours n).length = 4 := rfl
theorem toNat_256 (n : Nat) : (UInt8.ofNat (n % 256)).toNat = n % 256 := by simp
theorem four_fours {n : Nat} (h : n < 4294967296) (l : List UInt8) : four (fours n ++ l) = n := by
  show (UInt8.ofNat (n / 16777216 % 256)).toNat * 16777216 + (UInt8.ofNat (n / 65536 % 256)).toNat * 65536 + (UInt8.ofNat (n / 256 % 256)).toNat * 256 + (UInt8.ofNat (n % 256)).toNat = n
  rw [toNat_256, toNat_256, toNat_256, toNat_256]; omega
theorem four_lt (l : List UInt8) : four l < 4294967296 := by
  unfold four
  split
  · rename_i a b c d _
    have := a.toNat_lt; have := b.toNat_lt; have := c.toNat_lt; have := d.toNat_lt; omega
  · omega
theorem fill4 (a b c d : Int) : Instr.fill (fun i => some (i * 1, 1)) (madeCells (Value.int .u8 0).cells (4 * 1)) [(0, .int .u8 a), (1, .int .u8 b), (2, .int .u8 c), (3, .int .u8 d)] = some ([.int .u8 a, .int .u8 b, .int .u8 c, .int .u8 d] : List Value).toArray := by kernel_rfl

theorem shr_byte (n k : Nat) (h : k ≤ 64) : (Value.int .u8 (IntKind.u8.wrap ((n : Int).fdiv (2 ^ (min k IntKind.i64.bits))))) = .int .u8 ((UInt8.ofNat (n / 2 ^ k % 256)).toNat : Int) := by
  have e : (n : Int).fdiv (2 ^ (min k IntKind.i64.bits)) = ((n / 2 ^ k : Nat) : Int) := by
    rw [show IntKind.i64.bits = 64 from rfl, Nat.min_eq_left h, Int.fdiv_eq_ediv_of_nonneg _ (by have : (0 : Int) < 2 ^ k := Int.pow_pos (by omega); omega)]; push_cast; rfl
  rw [e, u64_u8, toNat_256]
theorem low_byte (n : Nat) : (Value.int .u8 (IntKind.u8.wrap (n : Int))) = .int .u8 ((UInt8.ofNat (n % 256)).toNat : Int) := by rw [u64_u8, toNat_256]
end Go.Proofs.Ytlcglmimndkleaa

/- Chapter 3: reading on, in plain Lean. -/
namespace Go.Proofs.Ytlcglmimndkleaa
open Go Go.Sp

theorem rintGo_le : ∀ (f i z : Nat) (l : List UInt8), (rintGo f i z l).2.1 ≤ i + l.length
  | 0, _, _, _ => Nat.zero_le _
  | _ + 1, _, _, [] => Nat.zero_le _
  | f + 1, i, z, b :: l => by
    unfold rintGo
    split
    · exact Nat.zero_le _
    · split
      · have := rintGo_le f (i + 1) (z + b.toNat % 128 * 128 ^ i) l
        simp only [List.length_cons]; omega
      · split
        · exact Nat.zero_le _
        · simp only [List.length_cons]; omega
theorem rint_le (l : List UInt8) : (rint l).2.1 ≤ l.length := by have := rintGo_le 10 0 0 l; unfold rint; omega
theorem i64_zero : i64 0 := ⟨by decide, by decide⟩
theorem rintGo_i64 : ∀ (f i z : Nat) (l : List UInt8), z < 128 ^ i → i + f ≤ 10 → i64 (rintGo f i z l).1
  | 0, _, _, _, _, _ => i64_zero
  | _ + 1, _, _, [], _, _ => i64_zero
  | f + 1, i, z, b :: l, hz, hi => by
    unfold rintGo
    split
    · exact i64_zero
    · rename_i h9
      split
      · exact rintGo_i64 f (i + 1) _ l (z_next hz) (by omega)
      · split
        · exact i64_zero
        · exact zag_i64 (z_fits hz (by omega) h9)
theorem rint_i64 (l : List UInt8) : i64 (rint l).1 := rintGo_i64 10 0 0 l (by decide) (by omega)
theorem rintGo_err : ∀ (f i z : Nat) (l : List UInt8), (rintGo f i z l).2.2 ≠ 0 → (rintGo f i z l).1 = 0 ∧ (rintGo f i z l).2.1 = 0
  | 0, _, _, _, _ => ⟨rfl, rfl⟩
  | _ + 1, _, _, [], _ => ⟨rfl, rfl⟩
  | f + 1, i, z, b :: l, h => by
    unfold rintGo at h ⊢
    split
    · exact ⟨rfl, rfl⟩
    · rename_i h9
      rw [if_neg h9] at h
      split
      · rename_i h1
        rw [if_pos h1] at h
        exact rintGo_err f (i + 1) _ l h
      · rename_i h1
        rw [if_neg h1] at h
        split
        · exact ⟨rfl, rfl⟩
        · rename_i h2
          rw [if_neg h2] at h
          exact absurd rfl h
theorem rint_err {l : List UInt8} (h : (rint l).2.2 ≠ 0) : (rint l).1 = 0 ∧ (rint l).2.1 = 0 := rintGo_err 10 0 0 l h

/-- A reader: what is left, and whether all was well. -/
abbrev Rdr := List UInt8 × Bool
def rdI (r : Rdr) : Int × Rdr := ((rint r.1).1, r.1.drop (rint r.1).2.1, r.2 && decide ((rint r.1).2.2 = 0))
def rdT (most : Int) (r : Rdr) : List UInt8 × Rdr :=
  if 0 ≤ (rdI r).1 ∧ (rdI r).1 ≤ most ∧ (rdI r).1 ≤ (rdI r).2.1.length then ((rdI r).2.1.take (rdI r).1.toNat, (rdI r).2.1.drop (rdI r).1.toNat, (rdI r).2.2) else ([], (rdI r).2.1, false)
/-- The reference's: what is left, and whether anything was wrong. -/
def qdI (r : Rdr) : Int × Rdr := if (rint r.1).2.2 = 0 then ((rint r.1).1, r.1.drop (rint r.1).2.1, r.2) else (0, [], true)
def qdT (most : Int) (r : Rdr) : List UInt8 × Rdr :=
  if 0 ≤ (qdI r).1 ∧ (qdI r).1 ≤ most ∧ (qdI r).1 ≤ (qdI r).2.1.length then ((qdI r).2.1.take (qdI r).1.toNat, (qdI r).2.1.drop (qdI r).1.toNat, (qdI r).2.2) else ([], (qdI r).2.1, true)
theorem rdI_len (r : Rdr) : (rdI r).2.1.length ≤ r.1.length := by show (r.1.drop _).length ≤ _; rw [List.length_drop]; omega
theorem rdT_len (m : Int) (r : Rdr) : (rdT m r).2.1.length ≤ r.1.length := by
  unfold rdT; have := rdI_len r
  split
  · show ((rdI r).2.1.drop _).length ≤ _; rw [List.length_drop]; omega
  · exact this
end Go.Proofs.Ytlcglmimndkleaa

/- Chapter 3: batches and records of metadata, in plain Lean. -/
namespace Go.Proofs.Ytlcglmimndkleaa
open Go Go.Sp

structure Rec where
  key : List UInt8
  value : List UInt8
  time : Int
  deriving DecidableEq
structure Bat where
  base : Int
  epoch : Int
  pid : Int
  pidEpoch : Int
  seq : Int
  recs : List Rec
def Rec.cells (r : Rec) : List Value := [.string (str r.key), .string (str r.value), .int .i64 r.time]
theorem Rec.cells_len (r : Rec) : r.cells.length = 3 := rfl
theorem Rec.cells_ones (r : Rec) : ones r.cells := .of rfl
def Bat.cells (b : Bat) (a : Option Addr) (c : Nat) : List Value := [.int .i64 b.base, .int .i64 b.epoch, .int .i64 b.pid, .int .i64 b.pidEpoch, .int .i64 b.seq, .slice a b.recs.length c]
theorem Bat.cells_ones (b : Bat) (a c) : ones (b.cells a c) := .of rfl
/-- What fits. -/
structure Bat.fits (b : Bat) : Prop where
  base : i64 b.base
  epoch : i64 b.epoch
  pid : i64 b.pid
  pidEpoch : i64 b.pidEpoch
  seq : i64 b.seq
  time : ∀ r ∈ b.recs, i64 r.time
  key : ∀ r ∈ b.recs, r.key.length ≤ 140737488351232
  value : ∀ r ∈ b.recs, r.value.length ≤ 140737488351232
  len : b.recs.length * 40 ≤ 140737488351232

def recBody (r : Rec) : List UInt8 := eint r.time ++ eint (r.key.length : Int) ++ r.key ++ eint (r.value.length : Int) ++ r.value
def body (b : Bat) : List UInt8 := eint b.base ++ eint b.epoch ++ eint b.pid ++ eint b.pidEpoch ++ eint b.seq ++ eint (b.recs.length : Int) ++ b.recs.flatMap recBody
def wth (n m : Int) : Bool := decide (0 ≤ n ∧ n ≤ m)
/-- May it be? -/
def right (b : Bat) : Int :=
  if b.base < 0 ∨ ¬ (0 ≤ b.epoch ∧ b.epoch ≤ 1000000000) ∨ ¬ (0 ≤ b.pid ∧ b.pid ≤ 1000000000) ∨ ¬ (0 ≤ b.pidEpoch ∧ b.pidEpoch ≤ 1000000000) ∨ ¬ (0 ≤ b.seq ∧ b.seq ≤ 1000000000) ∨ (b.pid = 0 ∧ (b.pidEpoch ≠ 0 ∨ b.seq ≠ 0)) ∨ b.recs.length = 0 then 1
  else if ∃ r ∈ b.recs, ¬ (0 ≤ r.time ∧ r.time ≤ 1000000000) then 1
  else if 64 < b.recs.length then 3
  else if ∃ r ∈ b.recs, 1000 < r.key.length ∨ 1000 < r.value.length then 2
  else if 1000000000 - (b.recs.length : Int) + 1 < b.base ∨ 1000000 - (b.recs.length : Int) + 1 < b.seq then 20
  else if 4088 < (body b).length then 2
  else 0
def wbatch (b : Bat) : List UInt8 × Int := if right b = 0 then (fours (body b).length ++ fours (crc (body b)).toNat ++ body b, 0) else ([], right b)
end Go.Proofs.Ytlcglmimndkleaa

namespace Go.Proofs.Ytlcglmimndkleaa
open Go Go.Sp

set_option linter.unusedVariables false

namespace wire1
theorem ti5 : TI Try.prog 5 1 1 (.int .u8 0) := .of (by kernel_rfl)
end wire1
open wire1

theorem or128 (n : Nat) : (Value.int .u8 (IntKind.u8.wrap ((BitVec.ofInt 8 (IntKind.u8.wrap (n : Int)) ||| BitVec.ofInt 8 128).toNat : Int))) = .int .u8 ((UInt8.ofNat (n % 128 + 128)).toNat : Int) := by
  have key : ∀ m : Fin 256, (BitVec.ofInt 8 ((m : Nat) : Int) ||| BitVec.ofInt 8 128).toNat = (m : Nat) % 128 + 128 := by decide +kernel
  have h := key ⟨n % 256, by omega⟩
  rw [u64_u8 n]
  simp only at h
  rw [h, wrap_u8 (by omega)]
  have : (UInt8.ofNat (n % 128 + 128)).toNat = n % 128 + 128 := by simp; omega
  rw [this]; congr 2; omega
theorem u8_small {n : Nat} (h : n < 128) : (Value.int .u8 (IntKind.u8.wrap (n : Int))) = .int .u8 ((UInt8.ofNat n).toNat : Int) := by
  rw [wrap_u8 (by omega)]
  have : (UInt8.ofNat n).toNat = n := by simp; omega
  rw [this]
theorem shr7 (z : Nat) : (Value.int .u64 ((z : Int).fdiv (2 ^ (min 7 IntKind.u64.bits)))) = .int .u64 ((z / 128 : Nat) : Int) := by
  have : (2 : Int) ^ (min 7 IntKind.u64.bits) = 128 := by decide
  rw [this, Int.fdiv_eq_ediv_of_nonneg _ (by omega)]; rfl

set_option maxRecDepth 20000 in
theorem appendInt_ok (a : Option Addr) (c : Nat) (l : List UInt8) (n : Int) (hn : i64 n) (hl : l.length ≤ 1000000000000) : Cn Try.prog 38 [.slice a l.length c, .int .i64 n] (fun _ => True) [arr 5 1 a c (bcs l)] fun v G => ∃ a' c', v = .slice a' (l ++ eint n).length c' ∧ G = [arr 5 1 a' c' (bcs (l ++ eint n))] := by
  refine .enter Try.func38 rfl (by kernel_rfl) rfl fun R k => ?_
  refine .seq ?_
  refine .region ?_
  refine .rd (.assign rfl) ?_
  refine .nil ?_
  refine .seq ?_
  refine .region ?_
  refine .rd (.move rfl) ?_
  refine .rd (.shl (n := 1) rfl rfl) ?_
  refine .rd (.move rfl) ?_
  refine .rd (.shr (n := 63) rfl rfl) ?_
  refine .rd (.xor rfl rfl) ?_
  refine .rd (.convInt Try.underlying3 Try.underlying90 rfl) ?_
  refine .alter (t := 11) (v' := .int .u64 (zig n : Int)) rfl (by exact congrArg (Value.int .u64) (zig_bits hn)) ?_
  refine .rd (.assign rfl) ?_
  refine .nil ?_
  refine .seq ?_
  refine .block ?_
  refine .loop (σ := Nat × List UInt8 × Option Addr × Nat) (fun ⟨z, done, a', c'⟩ => done ++ vint z = l ++ eint n ∧ z < 18446744073709551616) (fun ⟨z, done, a', c'⟩ => z) (fun ⟨z, done, a', c'⟩ => [(0, .slice a' done.length c'), (5, .int .u64 (z : Int))]) (fun ⟨z, done, a', c'⟩ => [arr 5 1 a' c' (bcs done), R]) (zig n, l, a, c) ⟨rfl, zig_lt hn⟩ (.cons rfl (.cons rfl .nil)) (.cons .head (.cons .head .nil)) (fun s hI ih => ?_)
  obtain ⟨z, done, a', c'⟩ := s
  dsimp only at hI ih ⊢
  have hz := hI.2
  have hlen : done.length ≤ l.length + 10 := by have := congrArg List.length hI.1; simp only [List.length_append] at this; have := eint_len hn; omega
  refine .seq ?_
  refine .seq ?_
  refine .region ?_
  refine .rd (.move rfl) ?_
  refine .rd (.ge rfl rfl) ?_
  refine .nil ?_
  refine .condP rfl (fun h2 => ?_) (fun h2 => ?_)
  · refine .skip ?_
    refine .seq ?_
    refine .block ?_
    refine .region ?_
    refine .rd (.move rfl) ?_
    refine .rd (.move rfl) ?_
    refine .rd (.convInt Try.underlying90 Try.underlying5 rfl) ?_
    refine .rd (.or rfl rfl) ?_
    refine .alter (t := 19) (v' := .int .u8 ((UInt8.ofNat (z % 128 + 128)).toNat : Int)) rfl (by exact or128 z) ?_
    refine .ef (.buildOne (cs := bcs [UInt8.ofNat (z % 128 + 128)]) Try.underlying81 ti5 (by decide) rfl rfl rfl (ones.of rfl)) ?_
    rintro _ _ ⟨bs, rfl, rfl⟩
    refine .ef (.append rfl rfl Try.underlying81 ti5 rfl (ones.of rfl) (by decide) (by decide) rfl rfl (.tail .head) (n := done.length) (m := 1) (by rw [bcs_len, Nat.mul_one]) (.srcBlk .head Try.underlying81 rfl (by decide)) (by omega)) ?_
    rintro _ _ ⟨ra, rc, rfl, rn, rfl⟩
    refine .rd (.assign rfl) ?_
    refine .nil ?_
    refine .inBlock ?_
    refine .region ?_
    refine .rd (.move rfl) ?_
    refine .rd (.shr (n := 7) rfl rfl) ?_
    refine .alter (t := 15) (v' := .int .u64 ((z / 128 : Nat) : Int)) rfl (by exact shr7 z) ?_
    refine .rd (.assign rfl) ?_
    refine .nil ?_
    have hbig : ¬ z < 128 := by omega
    have hv := vint_big hbig
    rw [← bcs_append]
    exact (ih (z / 128, done ++ [UInt8.ofNat (z % 128 + 128)], ra, rc) ⟨by show done ++ [_] ++ vint (z / 128) = _; rw [List.append_assoc, ← hI.1, hv]; rfl, by show z / 128 < _; omega⟩ (by show z / 128 < z; omega)).to (.cons (by show _ = some (Value.slice ra (done ++ [UInt8.ofNat (z % 128 + 128)]).length rc); rw [List.length_append]; rfl) (.cons rfl .nil)) (.cons .head (.cons (.tail .head) .nil))
  · refine .exit rfl ?_
    refine .seq ?_
    refine .region ?_
    refine .rd (.move rfl) ?_
    refine .rd (.move rfl) ?_
    have hsm : z < 128 := by omega
    refine .rd (.convInt Try.underlying90 Try.underlying5 rfl) ?_
    refine .alter (t := 24) (v' := .int .u8 ((UInt8.ofNat z).toNat : Int)) rfl (by exact u8_small hsm) ?_
    refine .ef (.buildOne (cs := bcs [UInt8.ofNat z]) Try.underlying81 ti5 (by decide) rfl rfl rfl (ones.of rfl)) ?_
    rintro _ _ ⟨bs, rfl, rfl⟩
    refine .ef (.append rfl rfl Try.underlying81 ti5 rfl (ones.of rfl) (by decide) (by decide) rfl rfl (.tail .head) (n := done.length) (m := 1) (by rw [bcs_len, Nat.mul_one]) (.srcBlk .head Try.underlying81 rfl (by decide)) (by omega)) ?_
    rintro _ _ ⟨ra, rc, rfl, rn, rfl⟩
    refine .rd (.assign rfl) ?_
    refine .nil ?_
    rw [vint_small hsm] at hI
    rw [← bcs_append, hI.1]
    refine .retP Try.func38 (.cons (.tmp rfl) .nil) (.cons .head (.cons (.tail .head) .nil)) ?_
    exact ⟨[_], ⟨ra, rc, by simp only [resVal]; rw [← hI.1, List.length_append]; rfl, rfl⟩, rfl⟩

end Go.Proofs.Ytlcglmimndkleaa


namespace Go.Proofs.Ytlcglmimndkleaa
open Go Go.Sp

set_option linter.unusedVariables false

namespace wire3
theorem ti5 : TI Try.prog 5 1 1 (.int .u8 0) := .of (by kernel_rfl)
end wire3
open wire3



set_option maxRecDepth 20000 in
theorem appendText_ok (a : Option Addr) (c : Nat) (l s : List UInt8) (hs : s.length ≤ 100000000000000) (hl : l.length ≤ 1000000000000) : Cn Try.prog 39 [.slice a l.length c, .string (str s)] (fun _ => True) [arr 5 1 a c (bcs l)] fun v G => ∃ a' c', v = .slice a' (l ++ eint (s.length : Int) ++ s).length c' ∧ G = [arr 5 1 a' c' (bcs (l ++ eint (s.length : Int) ++ s))] := by
  refine .enter Try.func39 rfl (by kernel_rfl) rfl fun R k => ?_
  refine .seq ?_
  refine .region ?_
  refine .rd (.assign rfl) ?_
  refine .nil ?_
  refine .seq ?_
  refine .region ?_
  refine .rd (.move rfl) ?_
  refine .rd (.move rfl) ?_
  refine .rd (.lenT rfl rfl Try.underlying9 rfl) ?_
  refine .fn rfl rfl (.cons .head .nil) (fun _ _ _ => trivial) (appendInt_ok a c l (s.length : Int) (by unfold i64; omega) hl) (fun v G1 hq => ?_)
  obtain ⟨a', c', rfl, rfl⟩ := hq
  simp only [List.cons_append, List.nil_append]
  refine .rd (.move rfl) ?_
  refine .ef (.append rfl rfl Try.underlying81 ti5 rfl (ones.of rfl) (by decide) (by decide) rfl rfl .head (n := (l ++ eint (s.length : Int)).length) (m := s.length) (by rw [bcs_len, Nat.mul_one]) (.srcT Try.underlying9) (by rw [List.length_append]; have := eint_len (n := (s.length : Int)) (by unfold i64; omega); omega)) ?_
  rintro _ _ ⟨ra, rc, rfl, rn, rfl⟩
  refine .rd (.assign rfl) ?_
  refine .nil ?_
  rw [← bcs_append]
  refine .retP Try.func39 (.cons (.tmp rfl) .nil) (.cons .head (.cons .head .nil)) ?_
  exact ⟨[_], ⟨ra, rc, by simp only [resVal]; rw [← List.length_append], rfl⟩, rfl⟩

end Go.Proofs.Ytlcglmimndkleaa


namespace Go.Proofs.Ytlcglmimndkleaa
open Go Go.Sp

set_option linter.unusedVariables false

namespace wire9
theorem fd27_0 : FD Try.prog 52 0 0 := .of Try.underlying52 (by kernel_rfl)
theorem na3 : NotAgg Try.prog 3 := ⟨_, Try.underlying3, trivial⟩
theorem fd27_1 : FD Try.prog 52 1 1 := .of Try.underlying52 (by kernel_rfl)
theorem fd27_2 : FD Try.prog 52 2 2 := .of Try.underlying52 (by kernel_rfl)
theorem fd27_3 : FD Try.prog 52 3 3 := .of Try.underlying52 (by kernel_rfl)
theorem fd27_4 : FD Try.prog 52 4 4 := .of Try.underlying52 (by kernel_rfl)
theorem fd27_5 : FD Try.prog 52 5 5 := .of Try.underlying52 (by kernel_rfl)
theorem na25 : NotAgg Try.prog 33 := ⟨_, Try.underlying33, trivial⟩
theorem bld94_0_1_2_3_4_5 (x0 : Int) (x1 : Int) (x2 : Int) (x3 : Int) (x4 : Int) (x5 : Int) (w : World) : (Instr.build 87 (([0, 1, 2, 3, 4, 5] : List Nat).zip [.int .i64 x0, .int .i64 x1, .int .i64 x2, .int .i64 x3, .int .i64 x4, .int .i64 x5]).toArray).run Try.prog w = .ok (.agg #[.int .i64 x0, .int .i64 x1, .int .i64 x2, .int .i64 x3, .int .i64 x4, .int .i64 x5]) w := by kernel_rfl
theorem ts3 : TS Try.prog 3 1 := .of (by kernel_rfl)
theorem ts65 : TS Try.prog 41 3 := .of (by kernel_rfl)
theorem ia65 : IsAgg Try.prog 41 := ⟨_, Try.underlying41, trivial⟩
theorem ti65 : TI Try.prog 41 3 40 (.agg #[.string ⟨#[]⟩, .string ⟨#[]⟩, .int .i64 0]) := .of (by kernel_rfl)
theorem fd65_2 : FD Try.prog 41 2 2 := .of Try.underlying41 (by kernel_rfl)
theorem fd65_0 : FD Try.prog 41 0 0 := .of Try.underlying41 (by kernel_rfl)
theorem na9 : NotAgg Try.prog 9 := ⟨_, Try.underlying9, trivial⟩
theorem fd65_1 : FD Try.prog 41 1 1 := .of Try.underlying41 (by kernel_rfl)
end wire9
open wire9

def six (b : Bat) : List Int := [b.base, b.epoch, b.pid, b.pidEpoch, b.seq, (b.recs.length : Int)]
theorem six_ok {b : Bat} (h : b.fits) : ∀ n ∈ six b, i64 n := fun n hn => by
  have hl := h.len
  simp only [six, List.mem_cons, List.not_mem_nil, or_false] at hn
  rcases hn with rfl | rfl | rfl | rfl | rfl | rfl
  · exact h.base
  · exact h.epoch
  · exact h.pid
  · exact h.pidEpoch
  · exact h.seq
  · exact ⟨by omega, by omega⟩
theorem body_six (b : Bat) : body b = (six b).flatMap eint ++ b.recs.flatMap recBody := by simp [body, six]
theorem six_at {b : Bat} {i : Nat} {n : Int} (h : (six b)[i]? = some n) : (#[Value.int .i64 b.base, .int .i64 b.epoch, .int .i64 b.pid, .int .i64 b.pidEpoch, .int .i64 b.seq, .int .i64 (b.recs.length : Int)] : Array Value)[i]? = some (.int .i64 n) := by
  have : (#[Value.int .i64 b.base, .int .i64 b.epoch, .int .i64 b.pid, .int .i64 b.pidEpoch, .int .i64 b.seq, .int .i64 (b.recs.length : Int)] : Array Value) = ((six b).map (Value.int .i64)).toArray := rfl
  rw [this, List.getElem?_toArray, List.getElem?_map, h]; rfl
structure Bat.small (b : Bat) : Prop where
  n : b.recs.length ≤ 64
  k : ∀ r ∈ b.recs, r.key.length ≤ 1000 ∧ r.value.length ≤ 1000
theorem recBody_len {b : Bat} (hf : b.fits) (hs : b.small) {r : Rec} (hr : r ∈ b.recs) : (recBody r).length ≤ 2030 := by
  have h1 := eint_len (hf.time r hr)
  obtain ⟨h2, h3⟩ := hs.k r hr
  have h4 := eint_len (n := (r.key.length : Int)) ⟨by omega, by omega⟩
  have h5 := eint_len (n := (r.value.length : Int)) ⟨by omega, by omega⟩
  unfold recBody; simp only [List.length_append]; omega
theorem flat_le {α : Type} {f : α → List UInt8} {k : Nat} : ∀ (l : List α), (∀ x ∈ l, (f x).length ≤ k) → (l.flatMap f).length ≤ l.length * k
  | [], _ => by simp
  | x :: l, h => by
    have h1 := h x (by simp)
    have h2 := flat_le l fun y hy => h y (by simp [hy])
    rw [List.flatMap_cons, List.length_append, List.length_cons, Nat.succ_mul]; omega
theorem six_len {b : Bat} (hf : b.fits) (i : Nat) : (((six b).take i).flatMap eint).length ≤ 60 := by
  have h1 := flat_le (f := eint) (k := 10) ((six b).take i) fun n hn => eint_len (six_ok hf n (List.mem_of_mem_take hn))
  have h2 : ((six b).take i).length ≤ 6 := by rw [List.length_take]; exact Nat.min_le_right _ _
  omega
theorem take_flat {α : Type} {f : α → List UInt8} {l : List α} {i : Nat} {x : α} (h : l[i]? = some x) : (l.take (i + 1)).flatMap f = (l.take i).flatMap f ++ f x := by
  rw [List.take_add_one, h, List.flatMap_append]; simp

set_option maxRecDepth 20000 in
theorem body_ok (b : Bat) (a : Option Addr) (c : Nat) (hf : b.fits) (hs : b.small) : Cn Try.prog 33 [.agg (b.cells a c).toArray] (RowAt a (b.recs.flatMap Rec.cells)) [] fun v G => ∃ a' c', v = .slice a' (body b).length c' ∧ G = [arr 5 1 a' c' (bcs (body b))] := by
  refine .enter Try.func33 rfl (by kernel_rfl) rfl fun R k => ?_
  refine .seq ?_
  refine .region ?_
  refine .ef (.box (l := b.cells a c) rfl rfl (ones.of rfl)) ?_
  rintro _ _ ⟨b1, rfl, rfl⟩
  refine .rd (.assign rfl) ?_
  refine .nil ?_
  refine .seq ?_
  refine .region ?_
  refine .rd (.assign rfl) ?_
  refine .nil ?_
  refine .nilArr 5 1 none ?_
  refine .seq ?_
  refine .seq ?_
  refine .region ?_
  refine .rd (.fieldAddr fd27_0 rfl) ?_
  refine .rd (.ld na3 rfl (.tail .head) rfl) ?_
  refine .rd (.fieldAddr fd27_1 rfl) ?_
  refine .rd (.ld na3 rfl (.tail .head) rfl) ?_
  refine .rd (.fieldAddr fd27_2 rfl) ?_
  refine .rd (.ld na3 rfl (.tail .head) rfl) ?_
  refine .rd (.fieldAddr fd27_3 rfl) ?_
  refine .rd (.ld na3 rfl (.tail .head) rfl) ?_
  refine .rd (.fieldAddr fd27_4 rfl) ?_
  refine .rd (.ld na3 rfl (.tail .head) rfl) ?_
  refine .rd (.fieldAddr fd27_5 rfl) ?_
  refine .rd (.ld na25 rfl (.tail .head) rfl) ?_
  refine .rd (.lenL rfl rfl Try.underlying33 rfl) ?_
  refine .rd (.build rfl (bld94_0_1_2_3_4_5 _ _ _ _ _ _)) ?_
  refine .rd (.move rfl) ?_
  refine .nil ?_
  refine .block ?_
  refine .loop (σ := Nat × Option Addr × Nat) (fun ⟨i, a', c'⟩ => i ≤ 6) (fun ⟨i, a', c'⟩ => 6 - i) (fun ⟨i, a', c'⟩ => [(1, .pointer (some ⟨b1, 0, none⟩)), (3, .slice a' (((six b).take i).flatMap eint).length c'), (21, .agg #[.int .i64 b.base, .int .i64 b.epoch, .int .i64 b.pid, .int .i64 b.pidEpoch, .int .i64 b.seq, .int .i64 (b.recs.length : Int)]), (22, .int .i64 (i : Nat))]) (fun ⟨i, a', c'⟩ => [arr 5 1 a' c' (bcs (((six b).take i).flatMap eint)), blk b1 (b.cells a c) 52, R]) (0, none, 0) (Nat.zero_le _) (.cons rfl (.cons rfl (.cons rfl (.cons rfl .nil)))) (.cons .head (.cons .head (.cons .head .nil))) (fun s hI ih => ?_)
  obtain ⟨i, a', c'⟩ := s
  dsimp only at hI ih ⊢
  refine .seq ?_
  refine .region ?_
  refine .rd (.lt rfl rfl) ?_
  refine .nil ?_
  refine .seq ?_
  refine .condP rfl (fun h3 => ?_) (fun h3 => ?_)
  · refine .skip ?_
    refine .seq ?_
    refine .block ?_
    refine .seq ?_
    have hlt : i < (six b).length := by show i < 6; omega
    obtain ⟨n, hn⟩ : ∃ n, (six b)[i]? = some n := ⟨_, List.getElem?_eq_getElem hlt⟩
    have hdl := six_len hf i
    refine .region ?_
    refine .rd (.indexA1 Try.underlying87 na3 ts3 rfl rfl (by omega) (by omega) (by rw [Int.toNat_natCast, Nat.mul_one]; exact six_at hn)) ?_
    refine .rd (.assign rfl) ?_
    refine .nil ?_
    refine .region ?_
    refine .rd (.move rfl) ?_
    refine .rd (.move rfl) ?_
    refine .fn rfl rfl (.cons .head .nil) (fun _ _ _ => trivial) (appendInt_ok a' c' (((six b).take i).flatMap eint) n (six_ok hf n (List.mem_of_getElem? hn)) (by omega)) (fun v G1 hq => ?_)
    obtain ⟨a2, c2, rfl, rfl⟩ := hq
    simp only [List.cons_append, List.nil_append]
    refine .rd (.assign rfl) ?_
    refine .nil ?_
    refine .inBlock ?_
    refine .region ?_
    refine .rd (.add rfl rfl (by omega) (by omega)) ?_
    refine .rd (.move rfl) ?_
    refine .nil ?_
    rw [← take_flat hn]
    exact (ih (i + 1, a2, c2) (by show i + 1 ≤ 6; omega) (by show 6 - (i + 1) < 6 - i; omega)).to (.cons rfl (.cons (by show _ = some (Value.slice a2 (((six b).take (i + 1)).flatMap eint).length c2); rw [take_flat hn]; rfl) (.cons rfl (.cons rfl .nil)))) (.cons .head (.cons .head (.cons .head .nil)))
  · obtain rfl : i = 6 := by omega
    have h6 : (six b).take 6 = six b := rfl
    rw [h6]
    refine .alter (t := 3) (v' := .slice a' ((six b).flatMap eint ++ (b.recs.take 0).flatMap recBody).length c') rfl (by rw [List.take_zero, List.flatMap_nil, List.append_nil]) ?_
    have he0 : (six b).flatMap eint = (six b).flatMap eint ++ (b.recs.take 0).flatMap recBody := by rw [List.take_zero, List.flatMap_nil, List.append_nil]
    refine .exit rfl ?_
    refine .seq ?_
    refine .seq ?_
    refine .region ?_
    refine .rd (.fieldAddr fd27_5 rfl) ?_
    refine .rd (.ld na25 rfl (.tail .head) rfl) ?_
    refine .rd (.lenL rfl rfl Try.underlying33 rfl) ?_
    refine .rd (.move rfl) ?_
    refine .nil ?_
    refine .cast (X' := arr 5 1 a' c' (bcs ((six b).flatMap eint ++ (b.recs.take 0).flatMap recBody))) (by rw [← he0]) ?_
    refine .block ?_
    refine .loop (σ := Nat × Option Addr × Nat) (fun ⟨j, a', c'⟩ => j ≤ b.recs.length) (fun ⟨j, a', c'⟩ => b.recs.length - j) (fun ⟨j, a', c'⟩ => [(3, .slice a' ((six b).flatMap eint ++ (b.recs.take j).flatMap recBody).length c'), (30, .slice a b.recs.length c), (31, .int .i64 b.recs.length), (32, .int .i64 (j : Nat))]) (fun ⟨j, a', c'⟩ => [arr 5 1 a' c' (bcs ((six b).flatMap eint ++ (b.recs.take j).flatMap recBody)), R]) (0, a', c') (Nat.zero_le _) (.cons rfl (.cons rfl (.cons rfl (.cons rfl .nil)))) (.cons .head (.cons (.tail .head) .nil)) (fun s hI ih => ?_)
    obtain ⟨j, a', c'⟩ := s
    dsimp only at hI ih ⊢
    have hsn := hs.n
    refine .seq ?_
    refine .region ?_
    refine .rd (.lt rfl rfl) ?_
    refine .nil ?_
    refine .seq ?_
    refine .condP rfl (fun h8 => ?_) (fun h8 => ?_)
    · refine .skip ?_
      refine .seq ?_
      refine .block ?_
      refine .seq ?_
      have hjl : j < b.recs.length := by omega
      obtain ⟨r, hr⟩ : ∃ r, b.recs[j]? = some r := ⟨_, List.getElem?_eq_getElem hjl⟩
      have hrm := List.mem_of_getElem? hr
      obtain ⟨hk1, hk2⟩ := hs.k r hrm
      have hd1 := six_len hf 6
      rw [show (six b).take 6 = six b from rfl] at hd1
      have hd2 := flat_le (f := recBody) (k := 2030) (b.recs.take j) fun x hx => recBody_len hf hs (List.mem_of_mem_take hx)
      have hd3 : (b.recs.take j).length ≤ 64 := by rw [List.length_take]; have := hs.n; omega
      have hd4 : ((six b).flatMap eint ++ (b.recs.take j).flatMap recBody).length ≤ 200000 := by rw [List.length_append]; omega
      have he1 := eint_len (hf.time r hrm)
      have he2 := eint_len (n := (r.key.length : Int)) ⟨by omega, by omega⟩
      refine .tell (φ := ∃ b o, a = some ⟨b, o, none⟩) (Knows.pick (.tail .head) (k.mono fun _ h => h.addr (by rw [flat_length Rec.cells_len]; omega))) (fun hx => ?_)
      obtain ⟨bb, oo, rfl⟩ := hx
      refine .region ?_
      refine .rd (.indexAddr Try.underlying33 ts65 rfl rfl (by omega) (by omega)) ?_
      refine .rd (.loadN ia65 ts65 rfl rfl (Knows.elem Rec.cells_len (by decide) (Knows.pick (.tail .head) k) hr)) ?_
      refine .ef (.alloc ti65 rfl (ones.of rfl)) ?_
      rintro _ _ ⟨b7, rfl, rfl⟩
      refine .ef0 (.storeAll (vs := r.cells) ts65 rfl rfl rfl .head rfl (ones.of rfl)) ?_
      rintro _ _ rfl
      refine .nil ?_
      refine .draws [2, 5, 8] [blk b7 r.cells 41] (by kernel_rfl) ?_
      refine .rp 0 rfl (by kernel_rfl) (by kernel_rfl) (by kernel_rfl) (Reads.pure (.move rfl)) ?_
      refine .rp 1 rfl (by kernel_rfl) (by kernel_rfl) (by kernel_rfl) (Reads.pure (.fieldAddr fd65_2 rfl)) ?_
      refine .rd 2 rfl rfl (by kernel_rfl) (by kernel_rfl) (by kernel_rfl) (.ld na3 rfl .head rfl) (.cons .head .nil) ?_
      refine .rp 4 rfl (by kernel_rfl) (by kernel_rfl) (by kernel_rfl) (Reads.pure (.fieldAddr fd65_0 rfl)) ?_
      refine .rd 5 rfl rfl (by kernel_rfl) (by kernel_rfl) (by kernel_rfl) (.ld na9 rfl .head rfl) (.cons .head .nil) ?_
      refine .rp 7 rfl (by kernel_rfl) (by kernel_rfl) (by kernel_rfl) (Reads.pure (.fieldAddr fd65_1 rfl)) ?_
      refine .rd 8 rfl rfl (by kernel_rfl) (by kernel_rfl) (by kernel_rfl) (.ld na9 rfl .head rfl) (.cons .head .nil) ?_
      refine .ef 3 (by kernel_rfl) rfl (.fn rfl rfl (.cons (.tail .head) .nil) (fun _ _ _ => trivial) (appendInt_ok a' c' ((six b).flatMap eint ++ (b.recs.take j).flatMap recBody) r.time (hf.time r hrm) (by omega))) ?_
      rintro v _ ⟨G1, hq, rfl⟩
      obtain ⟨a2, c2, rfl, rfl⟩ := hq
      simp only [List.cons_append, List.nil_append]
      refine ⟨.inr ⟨_, (.cons (.tail .head) .nil)⟩, ?_⟩
      refine .ef 6 (by kernel_rfl) rfl (.fn rfl rfl (.cons .head .nil) (fun _ _ _ => trivial) (appendText_ok a2 c2 (((six b).flatMap eint ++ (b.recs.take j).flatMap recBody) ++ eint r.time) r.key (by omega) (by rw [List.length_append]; omega))) ?_
      rintro v _ ⟨G1, hq, rfl⟩
      obtain ⟨a3, c3, rfl, rfl⟩ := hq
      simp only [List.cons_append, List.nil_append]
      refine ⟨.inr ⟨_, (.cons (.tail .head) .nil)⟩, ?_⟩
      refine .ef 9 (by kernel_rfl) rfl (.fn rfl rfl (.cons .head .nil) (fun _ _ _ => trivial) (appendText_ok a3 c3 ((((six b).flatMap eint ++ (b.recs.take j).flatMap recBody) ++ eint r.time) ++ eint (r.key.length : Int) ++ r.key) r.value (by omega) (by simp only [List.length_append] at hd4 ⊢; omega))) ?_
      rintro v _ ⟨G1, hq, rfl⟩
      obtain ⟨a4, c4, rfl, rfl⟩ := hq
      simp only [List.cons_append, List.nil_append]
      refine ⟨.inl (by kernel_rfl), ?_⟩
      refine .rp 10 rfl (by kernel_rfl) (by kernel_rfl) (by kernel_rfl) (Reads.pure (.assign rfl)) ?_
      refine .done (by kernel_rfl) ?_
      refine .inBlock ?_
      refine .region ?_
      refine .rd (.add rfl rfl (by omega) (by omega)) ?_
      refine .rd (.move rfl) ?_
      refine .nil ?_
      have hfin : ((((six b).flatMap eint ++ (b.recs.take j).flatMap recBody) ++ eint r.time) ++ eint (r.key.length : Int) ++ r.key) ++ eint (r.value.length : Int) ++ r.value = (six b).flatMap eint ++ (b.recs.take (j + 1)).flatMap recBody := by rw [take_flat hr]; simp only [recBody, List.append_assoc]
      rw [hfin]
      exact (ih (j + 1, a4, c4) (by show j + 1 ≤ _; omega) (by show b.recs.length - (j + 1) < b.recs.length - j; omega)).to (.cons (by show _ = some (Value.slice a4 ((six b).flatMap eint ++ (b.recs.take (j + 1)).flatMap recBody).length c4); rw [← hfin]; rfl) (.cons rfl (.cons rfl (.cons rfl .nil)))) (.cons .head (.cons (.tail .head) .nil))
    · refine .exit rfl ?_
      refine .seq ?_
      refine .region ?_
      refine .rd (.move rfl) ?_
      refine .rd (.assign rfl) ?_
      refine .nil ?_
      obtain rfl : j = b.recs.length := by omega
      rw [List.take_length, ← body_six]
      refine .retP Try.func33 (.cons (.tmp rfl) .nil) (.cons .head (.cons .head .nil)) ?_
      exact ⟨[_], ⟨a', c', rfl, rfl⟩, rfl⟩

end Go.Proofs.Ytlcglmimndkleaa


/- Chapter 3: may a batch be? In plain Lean. -/
namespace Go.Proofs.Ytlcglmimndkleaa
open Go Go.Sp

def orI (x y : Int) : Int := IntKind.i64.wrap ((BitVec.ofInt 64 x ||| BitVec.ofInt 64 y).toNat : Int)
theorem ofInt_zero {x : Int} (h : i64 x) : BitVec.ofInt 64 x = 0#64 ↔ x = 0 := by
  obtain ⟨h1, h2⟩ := h
  constructor
  · intro e
    have := congrArg BitVec.toNat e
    rw [toNat_ofInt64] at this
    have h0 : (0#64).toNat = 0 := rfl
    omega
  · rintro rfl; rfl
theorem orI_zero {x y : Int} (hx : i64 x) (hy : i64 y) : orI x y = 0 ↔ x = 0 ∧ y = 0 := by
  have h1 : orI x y = 0 ↔ (BitVec.ofInt 64 x ||| BitVec.ofInt 64 y) = 0#64 := by
    unfold orI
    generalize BitVec.ofInt 64 x ||| BitVec.ofInt 64 y = v
    have hv := v.isLt
    constructor
    · intro e
      unfold IntKind.wrap at e; simp [IntKind.signed, IntKind.bits] at e
      apply BitVec.eq_of_toNat_eq
      have h0 : (0#64).toNat = 0 := rfl
      split at e <;> omega
    · rintro rfl; rfl
  rw [h1, BitVec.or_eq_zero_iff, ofInt_zero hx, ofInt_zero hy]
/-- Its numbers may not be. -/
def Bat.off (b : Bat) : Prop := b.base < 0 ∨ ¬ (0 ≤ b.epoch ∧ b.epoch ≤ 1000000000) ∨ ¬ (0 ≤ b.pid ∧ b.pid ≤ 1000000000) ∨ ¬ (0 ≤ b.pidEpoch ∧ b.pidEpoch ≤ 1000000000) ∨ ¬ (0 ≤ b.seq ∧ b.seq ≤ 1000000000) ∨ (b.pid = 0 ∧ (b.pidEpoch ≠ 0 ∨ b.seq ≠ 0)) ∨ b.recs.length = 0
def timely (r : Rec) : Prop := 0 ≤ r.time ∧ r.time ≤ 1000000000
def long (r : Rec) : Bool := decide (1000 < r.key.length) || decide (1000 < r.value.length)
theorem long_iff (r : Rec) : long r = true ↔ 1000 < r.key.length ∨ 1000 < r.value.length := by simp [long]
theorem long_r3 {r : Rec} (h : ¬ 1000 < r.key.length) : long r = decide (1000 < r.value.length) := by unfold long; rw [decide_eq_false h, Bool.false_or]
theorem right_off {b : Bat} (h : b.off) : right b = 1 := if_pos h
theorem right_time {b : Bat} {r : Rec} {j : Nat} (h : b.recs[j]? = some r) (ht : ¬ timely r) : right b = 1 := by
  unfold right
  split
  · rfl
  · rw [if_pos ⟨r, List.mem_of_getElem? h, ht⟩]
theorem right_on {b : Bat} (h : ¬ b.off) (ht : ∀ r ∈ b.recs, timely r) : right b = if 64 < b.recs.length then 3 else if b.recs.any long then 2 else if 1000000000 - (b.recs.length : Int) + 1 < b.base ∨ 1000000 - (b.recs.length : Int) + 1 < b.seq then 20 else if 4088 < (body b).length then 2 else 0 := by
  have h2 : ¬ ∃ r ∈ b.recs, ¬ (0 ≤ r.time ∧ r.time ≤ 1000000000) := fun ⟨r, hr, h⟩ => h (ht r hr)
  have h3 : (∃ r ∈ b.recs, 1000 < r.key.length ∨ 1000 < r.value.length) ↔ b.recs.any long = true := by
    rw [List.any_eq_true]
    exact ⟨fun ⟨r, hr, h⟩ => ⟨r, hr, (long_iff r).2 h⟩, fun ⟨r, hr, h⟩ => ⟨r, hr, (long_iff r).1 h⟩⟩
  unfold Bat.off at h
  unfold right
  rw [if_neg h, if_neg h2]
  simp only [h3]
theorem any_take {α : Type} {f : α → Bool} {l : List α} {j : Nat} {x : α} (h : l[j]? = some x) : (l.take (j + 1)).any f = ((l.take j).any f || f x) := by
  rw [List.take_add_one, h, List.any_append]; simp
theorem all_take {α : Type} {p : α → Prop} {l : List α} {j : Nat} {x : α} (h : l[j]? = some x) (hx : p x) (hj : ∀ y ∈ l.take j, p y) : ∀ y ∈ l.take (j + 1), p y := by
  rw [List.take_add_one, h]
  intro y hy
  rcases List.mem_append.1 hy with hy | hy
  · exact hj y hy
  · simp at hy; exact hy ▸ hx
theorem small_of {b : Bat} (hn : ¬ 64 < b.recs.length) (hl : ¬ b.recs.any long = true) : b.small := ⟨by omega, fun r hr => by
  have : ¬ long r = true := fun h => hl (List.any_eq_true.2 ⟨r, hr, h⟩)
  rw [long_iff] at this; omega⟩
theorem body_len {b : Bat} (hf : b.fits) (hs : b.small) : (body b).length ≤ 200000 := by
  have h1 := six_len hf 6
  rw [show (six b).take 6 = six b from rfl] at h1
  have h2 := flat_le (f := recBody) (k := 2030) b.recs fun r hr => recBody_len hf hs hr
  have h3 := hs.n
  rw [body_six, List.length_append]; omega
theorem right_zero {b : Bat} (h : right b = 0) : b.small ∧ (body b).length ≤ 4088 := by
  by_cases hno : b.off
  · rw [right_off hno] at h; cases h
  by_cases ht : ∀ r ∈ b.recs, timely r
  · rw [right_on hno ht] at h
    split at h
    · cases h
    · split at h
      · cases h
      · rename_i h1 h2
        refine ⟨small_of h1 h2, ?_⟩
        split at h
        · cases h
        · split at h
          · cases h
          · omega
  · have h2 : ∃ r, r ∈ b.recs ∧ ¬ timely r := Classical.byContradiction fun hx => ht fun r hr => Classical.byContradiction fun hy => hx ⟨r, hr, hy⟩
    obtain ⟨r, hr, h3⟩ := h2
    obtain ⟨j, hj⟩ := List.getElem?_of_mem hr
    rw [right_time hj h3] at h; cases h
theorem wbatch_no {b : Bat} (h : right b ≠ 0) : wbatch b = ([], right b) := if_neg h
theorem wbatch_yes {b : Bat} (h : right b = 0) : wbatch b = (fours (body b).length ++ fours (crc (body b)).toNat ++ body b, 0) := if_pos h
end Go.Proofs.Ytlcglmimndkleaa


/- Chapter 18: a producer of one partition, in plain Lean and in memory. -/
namespace Go.Proofs.Ytlcglmimndkleaa
open Go Go.Sp

structure Call where
  n : Int
  text : List UInt8
  pid : Int
  epoch : Int
  seq : Int
  over : Bool
structure Req where
  n : Int
  to : Int
  tries : Int
  deadline : Int
  of : Option Nat
structure Seen where
  call : Int
  offset : Int
  pid : Int
  epoch : Int
  seq : Int
  text : List UInt8
  err : Int
structure Out where
  to : Int
  id : Int
  pid : Int
  epoch : Int
  seq : Int
  text : Option (List UInt8)
structure PS where
  wait : Int
  tries : Int
  brokers : List Int
  pid : Int
  epoch : Int
  fresh : Bool
  calls : List Call
  next : List (Int × Int)
  aims : List (Int × Int)
  under : Option Req
  number : Int
  open_ : Int
  ended : List Seen

/-! ### What it does -/
def idxOf (l : List Int) (v : Int) : Int := match l.findIdx? fun x => decide (v = x) with
  | some i => (i : Int)
  | none => -1
def partOf (r : Req) : Int := if r.of.isNone then 0 else 2
def PS.aim (s : PS) (p : Int) : Int := (mget s.aims p).getD (s.brokers.getD 0 0)
def behind (l : List Int) (to : Int) : Int := l.getD ((idxOf l to + 1) % (l.length : Int)).toNat 0
def nextN (n : Int) : Int := if 1000000000 < n + 1 then 1 else n + 1
def askR (s : PS) (now : Int) (r : Req) : Req := { n := nextN s.number, to := s.aim (partOf r), tries := r.tries - 1, deadline := now + s.wait, of := r.of }
def askO (s : PS) (_now : Int) (r : Req) (c : Option Call) : Out := match c with
  | none => ⟨s.aim (partOf r), nextN s.number, s.pid, 0, 0, none⟩
  | some c => ⟨s.aim (partOf r), nextN s.number, c.pid, c.epoch, c.seq, some c.text⟩
def askS (s : PS) : PS := { s with number := nextN s.number }
/-- A request is begun: for the id, or for a call. -/
def beginR (s : PS) (of : Option Nat) : Req := ⟨0, 0, s.tries, 0, of⟩
def beginS (s : PS) (now : Int) (of : Option Nat) : PS := { askS s with under := some (askR s now (beginR s of)) }
def callAt (s : PS) (i : Nat) : Call := s.calls.getD i ⟨0, [], 0, 0, 0, true⟩
def nextOf (s : PS) : Int := (mget s.next 2).getD 0
def stamped (s : PS) (i : Nat) : Call := { callAt s i with pid := s.pid, epoch := s.epoch, seq := nextOf s }
def stampS (s : PS) (i : Nat) : PS := { s with calls := s.calls.set i (stamped s i) }
def firstOpen (s : PS) : Option Nat := s.calls.findIdx? fun c => !c.over
/-- What the walk through the calls does. -/
def pump1 (s : PS) (now : Int) : PS × Option Out := match s.under, firstOpen s with
  | none, some i => if s.fresh = false then (s, none) else if 1000000 < nextOf s then ({ s with fresh := false }, none) else (beginS (stampS s i) now (some i), some (askO (stampS s i) now (beginR s (some i)) (some (stamped s i))))
  | _, _ => (s, none)
def pump2 (s : PS) (now : Int) : PS × Option Out := if s.fresh = false ∧ s.under.isNone = true ∧ 0 < s.open_ then (beginS s now none, some (askO s now (beginR s none) none)) else (s, none)
def pump (s : PS) (now : Int) : PS × Option Out := match pump1 s now with
  | (t, some o) => (t, some o)
  | (t, none) => pump2 t now
def endS (s : PS) (i : Nat) (err off : Int) : PS :=
  { s with fresh := if err = 0 then s.fresh else false, calls := s.calls.set i { callAt s i with over := true }, open_ := s.open_ - 1,
           ended := s.ended ++ [⟨(callAt s i).n, if err = 0 then off else 0, (callAt s i).pid, (callAt s i).epoch, (callAt s i).seq, (callAt s i).text, err⟩] }
def endsGo (of : Option Nat) (err : Int) : Nat → PS → PS
  | 0, s => s
  | k + 1, s => if (callAt (endsGo of err k s) k).over = false ∧ (of = none ∨ of = some k) then endS (endsGo of err k s) k err 0 else endsGo of err k s
def endsS (s : PS) (of : Option Nat) (err : Int) : PS := endsGo of err s.calls.length s
def newCall (s : PS) (text : List UInt8) : Call := ⟨(s.calls.length : Int) + 1, text, 0, 0, 0, false⟩
def sendS (s : PS) (text : List UInt8) : PS := { s with calls := s.calls ++ [newCall s text], open_ := s.open_ + 1 }
def send (s : PS) (now : Int) (text : List UInt8) : PS × Option Out × Int × Int := if 20 ≤ s.open_ then (s, none, 0, 3) else ((pump (sendS s text) now).1, (pump (sendS s text) now).2, (s.calls.length : Int) + 1, 0)
def moved (s : PS) (r : Req) : PS := if r.to = s.aim (partOf r) then { s with aims := mset s.aims (partOf r) (behind s.brokers r.to) } else s
def callOf (s : PS) (r : Req) : Option Call := r.of.map (callAt s)
/-- What is done with a request when time goes by: is it gone; the producer, the message. -/
def due (s : PS) (now : Int) (r : Req) : PS × Option Req × Option Out :=
  if now < r.deadline then (s, some r, none)
  else if r.tries = 0 then (endsS s r.of 21, none, none)
  else (askS (moved s r), some (askR (moved s r) now r), some (askO (moved s r) now r (callOf s r)))
def tick (s : PS) (now : Int) : PS × Option Out := match s.under with
  | none => pump s now
  | some r => match due s now r with
    | (t, r', some o) => ({ t with under := r' }, some o)
    | (t, r', none) => pump { t with under := r' } now
structure Ans where
  kind : Int
  fr : Int
  to : Int
  id : Int
  err : Int
  offset : Int
  last : Int
def fitsA (r : Req) (m : Ans) : Bool := decide (r.n = m.id) && decide (r.to = m.fr) && decide (m.to = 101) && decide (m.kind = if r.of.isNone then 16 else 18)
def waits (e : Int) : Bool := decide (e = 16) || decide (e = 7) || decide (e = 3) || decide (e = 19) || decide (e = 14)
def led (s : PS) (now : Int) (r : Req) (last : Int) : PS :=
  if last ∈ s.brokers then { s with aims := mset (mset s.aims (partOf r) (behind s.brokers r.to)) (partOf r) last, under := some { r with deadline := now + 1 } }
  else { s with aims := mset s.aims (partOf r) (behind s.brokers r.to), under := some { r with deadline := now + s.wait } }
def ended (s : PS) (r : Req) (m : Ans) : PS :=
  if m.err ≠ 0 then endsS s r.of m.err
  else match r.of with
    | some i => endS { s with next := mset s.next 2 ((callAt s i).seq + 1) } i 0 m.offset
    | none => { s with pid := if s.pid = 0 then m.offset else s.pid, epoch := if s.pid = 0 then 0 else m.offset, next := [], fresh := true }
def step (s : PS) (now : Int) (m : Ans) : PS × Option Out := match s.under with
  | none => (s, none)
  | some r => if fitsA r m = false then (s, none)
    else if m.err = 15 then (led s now r m.last, none)
    else if waits m.err = true then (s, none)
    else pump (ended { s with under := none } r m) now
def newS (wait tries : Int) (brokers : List Int) : PS := ⟨wait, tries, brokers, 0, 0, false, [], [], [], none, 0, 0, []⟩
def doneS (s : PS) : PS := { s with ended := [] }

/-! ### In memory -/
structure CallX where
  a : Nat
  c : Call
  ra : Option Addr
  rc : Nat
def CallX.cells (y : CallX) : List Value := [.int .i64 y.c.n, .int .i64 2, .slice y.ra 1 y.rc, .int .i64 y.c.pid, .int .i64 y.c.epoch, .int .i64 y.c.seq, .bool y.c.over]
theorem CallX.cells_ones (y : CallX) : ones y.cells := .of rfl
def CB (y : CallX) : SProp := blk0 y.a y.cells 65
def cptr (y : CallX) : List Value := [.pointer (some ⟨y.a, 0, none⟩)]
theorem cptr_len (y : CallX) : (cptr y).length = 1 := rfl
def recC (t : List UInt8) : List Value := [.string (str []), .string (str t), .int .i64 0]
def icell (n : Int) : List Value := [.int .i64 n]
theorem icell_len (n : Int) : (icell n).length = 1 := rfl
def Req.cells (r : Req) (q : Option Nat) : List Value := [.int .i64 r.n, .int .i64 r.to, .int .i64 r.tries, .int .i64 r.deadline, .pointer (q.map fun a => ⟨a, 0, none⟩)]
def Seen.cells (e : Seen) : List Value := [.int .i64 101, .int .i64 e.call, .int .i64 10, .int .i64 2, .int .i64 e.offset, .int .i64 e.pid, .int .i64 e.epoch, .int .i64 e.seq, .string (str []), .string (str e.text), .int .i64 e.err, .bool true]
theorem Seen.cells_len (e : Seen) : e.cells.length = 12 := rfl
theorem Seen.cells_ones (e : Seen) : ones e.cells := .of rfl
structure OutX where
  o : Out
  b : Nat
  ra : Option Addr
  rc : Nat
def OutX.kind (z : OutX) : Int := if z.o.text.isNone then 15 else 17
def OutX.cells (z : OutX) : List Value :=
  [.int .i64 z.kind, .int .i64 101, .int .i64 z.o.to, .int .i64 z.o.id, .int .i64 (if z.o.text.isNone then 0 else 2), .int .i64 0, .int .i64 0, .int .i64 0, .int .i64 0, .int .i64 (if z.o.text.isNone then z.o.pid else 0), .int .i64 0, .int .i64 (if z.o.text.isNone then 8 else 0), .int .i64 0, .int .i64 0, .int .i64 0, .int .i64 0,
   .string (str []), .string (str []), if z.o.text.isNone then .slice none 0 0 else .slice (some ⟨z.b, 0, none⟩) 1 1, .slice none 0 0, .slice none 0 0]
theorem OutX.cells_len (z : OutX) : z.cells.length = 21 := rfl
theorem OutX.cells_ones (z : OutX) : ones z.cells := by
  unfold OutX.cells
  cases z.o.text <;> exact .of rfl
def OutX.at_ (z : OutX) (w : World) : Prop := match z.o.text with
  | none => True
  | some t => RowAt (some ⟨z.b, 0, none⟩) [.int .i64 0, .int .i64 0, .int .i64 z.o.pid, .int .i64 z.o.epoch, .int .i64 z.o.seq, .slice z.ra 1 z.rc] w ∧ RowAt z.ra (recC t) w
/-- Where a producer's rows and maps lie. -/
structure PX where
  ba : Option Addr
  bc : Nat
  ca : Option Addr
  cc : Nat
  nb : Nat
  ab : Nat
  ua : Option Addr
  uc : Nat
  ea : Option Addr
  ec : Nat
def unders (u : Option Req) : Nat := if u.isNone then 0 else 1
def PS.cells (s : PS) (x : PX) (oa : Option Addr) (on oc : Nat) : List Value :=
  [.int .i64 101, .int .i64 s.wait, .int .i64 s.tries, .slice x.ba s.brokers.length x.bc, .int .i64 s.pid, .int .i64 s.epoch, .bool s.fresh, .slice x.ca s.calls.length x.cc, .map (some x.nb), .map (some x.ab), .slice x.ua (unders s.under) x.uc, .int .i64 s.number, .int .i64 s.open_, .slice x.ea s.ended.length x.ec, .slice oa on oc]
def IM (b : Nat) (l : List (Int × Int)) : SProp := mp (Value.int .i64) (Value.int .i64) b l
def ubs (u : Option Req) (rb : Nat) : List Value := if u.isNone then [] else [.pointer (some ⟨rb, 0, none⟩)]
/-- A request in memory: its call's address is that of its call. -/
def ofAt (cl : List CallX) (of q : Option Nat) : Prop := match of with
  | none => q = none
  | some i => ∃ y, cl[i]? = some y ∧ q = some y.a
def reqR (cl : List CallX) (u : Option Req) (rb : Nat) : SProp := fun h => match u with
  | none => True
  | some r => ∃ q, ofAt cl r.of q ∧ blk rb (r.cells q) 71 h
/-- All of a producer but its block. -/
def KN (s : PS) (x : PX) (cl : List CallX) : World → Prop := fun w => RowAt x.ba (s.brokers.flatMap icell) w ∧ ∀ y ∈ cl, RowAt y.ra (recC y.c.text) w
structure PW (s : PS) (cl : List CallX) : Prop where
  cls : cl.map (·.c) = s.calls
  nodup : (cl.map (·.a)).Nodup
structure PB (s : PS) : Prop where
  wait : 1 ≤ s.wait ∧ s.wait ≤ 1000000000
  tries : 1 ≤ s.tries ∧ s.tries ≤ 1000
  bne : s.brokers ≠ []
  bn : s.brokers.length ≤ 100
  number : 0 ≤ s.number ∧ s.number ≤ 1000000000
  open_ : 0 ≤ s.open_ ∧ s.open_ ≤ 20
  many : s.calls.length ≤ 1000
  stale : ∀ r, s.under = some r → r.of = none → s.fresh = false
  rtries : ∀ r, s.under = some r → 0 ≤ r.tries ∧ r.tries ≤ 1000
  rof : ∀ r i, s.under = some r → r.of = some i → i < s.calls.length
  next : ∀ p ∈ s.next, 0 ≤ p.2 ∧ p.2 ≤ 2000000
  seqs : ∀ c ∈ s.calls, 0 ≤ c.seq ∧ c.seq ≤ 1000000
  ends : s.ended.length ≤ 10000
end Go.Proofs.Ytlcglmimndkleaa

/- Chapter 18: what a producer's memory tells. -/
namespace Go.Proofs.Ytlcglmimndkleaa
open Go Go.Sp

theorem idx_hit {l : List Int} {v : Int} {i : Nat} (hx : l[i]? = some v) (hn : ∀ x ∈ l.take i, v ≠ x) : idxOf l v = i := by
  unfold idxOf
  have : l.findIdx? (fun x => decide (v = x)) = some i := by
    rw [List.findIdx?_eq_some_iff_getElem]
    obtain ⟨hi, e⟩ := List.getElem?_eq_some_iff.1 hx
    refine ⟨hi, by simp [e], fun j hj => ?_⟩
    have := hn l[j] (List.mem_iff_getElem?.2 ⟨j, by rw [List.getElem?_take, if_pos hj]; exact List.getElem?_eq_getElem (by omega)⟩)
    simpa using this
  rw [this]
theorem idx_none {l : List Int} {v : Int} (hn : ∀ x ∈ l, v ≠ x) : idxOf l v = -1 := by
  unfold idxOf
  have : l.findIdx? (fun x => decide (v = x)) = none := List.findIdx?_eq_none_iff.2 fun x hx => by simpa using hn x hx
  rw [this]
theorem idx_range (l : List Int) (v : Int) : -1 ≤ idxOf l v ∧ idxOf l v < l.length := by
  unfold idxOf
  split
  · rename_i i h
    have := (List.findIdx?_eq_some_iff_getElem.1 h).1
    omega
  · omega
theorem idx_in {l : List Int} {v : Int} : 0 ≤ idxOf l v ↔ v ∈ l := by
  by_cases h : v ∈ l
  · refine ⟨fun _ => h, fun _ => ?_⟩
    unfold idxOf
    split
    · omega
    · rename_i h2
      have := List.findIdx?_eq_none_iff.1 h2 v h
      simp at this
  · refine ⟨fun h2 => ?_, fun h2 => absurd h2 h⟩
    rw [idx_none fun x hx e => h (by rw [e]; exact hx)] at h2
    omega
theorem Knows.part {Γ Γ' : List SProp} {cl : List CallX} {of q : Option Nat} (p : Pick (bag CB cl) Γ Γ') (h : ofAt cl of q) : Knows Γ fun w => ∀ a, q = some a → CellsAt a 1 [.int .i64 2] w := fun A w s a ha => by
  cases of with
  | none => simp only [ofAt] at h; rw [h] at ha; cases ha
  | some i =>
    obtain ⟨y, hy, hq⟩ := h
    rw [hq] at ha
    cases ha
    have := Knows.bag p (List.mem_of_getElem? hy) (Knows.blk0 (l := y.cells) (e := 65) .head) A w s
    exact this.one (i := 1) rfl
theorem Knows.callx {Γ Γ' : List SProp} {cl : List CallX} {y : CallX} (p : Pick (bag CB cl) Γ Γ') (hy : y ∈ cl) : Knows Γ (CellsAt y.a 0 y.cells) := Knows.bag p hy (Knows.blk0 (l := y.cells) (e := 65) .head)
theorem PW.at_ {s : PS} {cl : List CallX} (h : PW s cl) {i : Nat} {y : CallX} (hy : cl[i]? = some y) : s.calls[i]? = some y.c ∧ callAt s i = y.c ∧ i < s.calls.length := by
  have e : s.calls[i]? = some y.c := by rw [← h.cls, List.getElem?_map, hy]; rfl
  refine ⟨e, ?_, (List.getElem?_eq_some_iff.1 e).1⟩
  unfold callAt; rw [List.getD_eq_getElem?_getD, e]; rfl
theorem PW.len {s : PS} {cl : List CallX} (h : PW s cl) : cl.length = s.calls.length := by rw [← h.cls, List.length_map]
theorem ofAt_none {cl : List CallX} {of q : Option Nat} (h : ofAt cl of q) : q.isNone = of.isNone := by
  cases of with
  | none => simp only [ofAt] at h; rw [h]
  | some i => obtain ⟨y, _, hq⟩ := h; rw [hq]; rfl
theorem perm_out {α : Type} : ∀ {l : List α} {i : Nat} {y : α}, l[i]? = some y → l.Perm (y :: l.eraseIdx i)
  | [], _, _, h => by simp at h
  | x :: l, 0, y, h => by simp at h; subst h; exact .refl _
  | x :: l, i + 1, y, h => by
    have := perm_out (l := l) (i := i) (y := y) (by simpa using h)
    exact (this.cons x).trans (.swap y x _)
theorem perm_in {α : Type} {l : List α} {i : Nat} {y z : α} (h : l[i]? = some y) : (z :: l.eraseIdx i).Perm (l.set i z) := by
  obtain ⟨hi, _⟩ := List.getElem?_eq_some_iff.1 h
  have h2 : (l.set i z)[i]? = some z := by rw [List.getElem?_set, if_pos rfl, if_pos hi]
  have := perm_out h2
  rw [List.eraseIdx_set_eq] at this
  exact this.symm
end Go.Proofs.Ytlcglmimndkleaa

/- Chapter 18: calls that end, in plain Lean and in memory. -/
namespace Go.Proofs.Ytlcglmimndkleaa
open Go Go.Sp

def CallX.over (y : CallX) : CallX := { y with c := { y.c with over := true } }
def CallX.tag (y : CallX) : Nat × Option Addr × Nat × List UInt8 := (y.a, y.ra, y.rc, y.c.text)
def SameX (cl cl' : List CallX) : Prop := cl'.map CallX.tag = cl.map CallX.tag
theorem SameX.refl (cl : List CallX) : SameX cl cl := rfl
theorem SameX.set {cl cl' : List CallX} (h : SameX cl cl') {k : Nat} {y z : CallX} (hy : cl'[k]? = some y) (hz : z.tag = y.tag) : SameX cl (cl'.set k z) := by
  unfold SameX
  rw [List.map_set, hz, ← h]
  apply List.ext_getElem?
  intro j
  rw [List.getElem?_set]
  split
  · rename_i e; subst e
    rw [List.getElem?_map, hy]
    split
    · rfl
    · rename_i hn; rw [List.length_map] at hn; exact absurd (List.getElem?_eq_some_iff.1 hy).1 hn
  · rfl
theorem SameX.addrs {cl cl' : List CallX} (h : SameX cl cl') : cl'.map (·.a) = cl.map (·.a) := by
  have := congrArg (List.map (·.1)) h
  simpa [List.map_map, Function.comp_def, CallX.tag] using this
theorem SameX.ptrs {cl cl' : List CallX} (h : SameX cl cl') : cl'.flatMap cptr = cl.flatMap cptr := by
  have e : ∀ l : List CallX, l.flatMap cptr = (l.map (·.a)).flatMap fun a => [Value.pointer (some ⟨a, 0, none⟩)] := fun l => by rw [List.flatMap_map]; rfl
  rw [e, e, h.addrs]
theorem SameX.kn {s : PS} {x : PX} {cl cl' : List CallX} (h : SameX cl cl') {w : World} (k : KN s x cl w) : KN s x cl' w := by
  refine ⟨k.1, fun y hy => ?_⟩
  obtain ⟨i, hi⟩ := List.mem_iff_getElem?.1 hy
  have e : (cl'.map CallX.tag)[i]? = some y.tag := by rw [List.getElem?_map, hi]; rfl
  rw [h, List.getElem?_map] at e
  cases h2 : cl[i]? with
  | none => rw [h2] at e; cases e
  | some z =>
    rw [h2] at e
    have e2 : z.tag = y.tag := by simpa using e
    have := k.2 z (List.mem_of_getElem? h2)
    unfold CallX.tag at e2
    simp only [Prod.mk.injEq] at e2
    rw [← e2.2.1, ← e2.2.2.2]; exact this
theorem SameX.ofAt {cl cl' : List CallX} (h : SameX cl cl') {of q : Option Nat} (k : Go.Proofs.Ytlcglmimndkleaa.ofAt cl of q) : Go.Proofs.Ytlcglmimndkleaa.ofAt cl' of q := by
  cases of with
  | none => exact k
  | some i =>
    obtain ⟨y, hy, hq⟩ := k
    have e := h.addrs
    have e1 : (cl'.map (·.a))[i]? = some y.a := by rw [e, List.getElem?_map, hy]; rfl
    rw [List.getElem?_map] at e1
    cases h2 : cl'[i]? with
    | none => rw [h2] at e1; cases e1
    | some z => rw [h2] at e1; exact ⟨z, h2, by rw [hq]; simpa using e1.symm⟩
theorem PW.set {s : PS} {cl : List CallX} (h : PW s cl) {k : Nat} {y z : CallX} (hy : cl[k]? = some y) (ha : z.a = y.a) (t : PS) (ht : t.calls = s.calls.set k z.c) : PW t (cl.set k z) where
  cls := by rw [List.map_set, h.cls, ht]
  nodup := by
    have : (cl.set k z).map (·.a) = cl.map (·.a) := by
      rw [List.map_set, ha]
      apply List.ext_getElem?
      intro j
      rw [List.getElem?_set]
      split
      · rename_i e; subst e
        rw [List.getElem?_map, hy]
        split
        · rfl
        · rename_i hn; rw [List.length_map] at hn; exact absurd (List.getElem?_eq_some_iff.1 hy).1 hn
      · rfl
    rw [this]; exact h.nodup
theorem _root_.Go.Sp.Reads.eqCall {P : Program} {N : Nat} {E : Env} {Γ Γ' : List SProp} {dst : Option Tmp} {ty : TypeId} {pos : String} {after : Array Edge} {guard : Option (Nat × Bool)} {t x y t' te} {n by_ : Nat} {z : Value} {cl : List CallX} {i k : Nat} {yi yk : CallX}
    (hu : P.underlying t = some (.pointer te)) (hi : TI P te n by_ z) (hn : n ≠ 0) (hyi : cl[i]? = some yi) (hyk : cl[k]? = some yk) (hnd : (cl.map (·.a)).Nodup) (p : Pick (bag CB cl) Γ Γ') (hx : ev E x = some (.pointer (some ⟨yi.a, 0, none⟩))) (hy : ev E y = some (.pointer (some ⟨yk.a, 0, none⟩))) :
    Reads P N E Γ ⟨dst, .binOp .eql t x y t', ty, pos, after, guard⟩ (.bool (decide (i = k))) := by
  by_cases h : i = k
  · subst h
    rw [hyi] at hyk; cases hyk
    rw [decide_eq_true rfl]
    exact .eqPSame hu hi hx hy
  · rw [decide_eq_false h]
    refine .eqPOther hu hi hn hx hy ?_ (Knows.bag p (List.mem_of_getElem? hyi) (Knows.clean (l := yi.cells) (e := 65) .head)) (Knows.bag p (List.mem_of_getElem? hyk) (Knows.clean (l := yk.cells) (e := 65) .head))
    intro e
    refine h ?_
    have h1 : (cl.map (·.a))[i]? = some yi.a := by rw [List.getElem?_map, hyi]; rfl
    have h2 : (cl.map (·.a))[k]? = some yi.a := by rw [List.getElem?_map, hyk, e]; rfl
    exact (List.getElem?_inj (by rw [List.length_map]; exact (List.getElem?_eq_some_iff.1 hyi).1) hnd).1 (h1.trans h2.symm)
theorem endsGo_calls (of : Option Nat) (err : Int) (s : PS) : ∀ k, (endsGo of err k s).calls.length = s.calls.length
  | 0 => rfl
  | k + 1 => by
    rw [endsGo]; split
    · show ((endsGo of err k s).calls.set k _).length = _; rw [List.length_set, endsGo_calls of err s k]
    · exact endsGo_calls of err s k
end Go.Proofs.Ytlcglmimndkleaa

namespace Go.Proofs.Ytlcglmimndkleaa
open Go Go.Sp

set_option linter.unusedVariables false

namespace prod0
theorem ts3 : TS Try.prog 3 1 := .of (by kernel_rfl)
theorem na3 : NotAgg Try.prog 3 := ⟨_, Try.underlying3, trivial⟩
theorem fd71_4 : FD Try.prog 71 4 4 := .of Try.underlying71 (by kernel_rfl)
theorem na62 : NotAgg Try.prog 62 := ⟨_, Try.underlying62, trivial⟩
theorem fd65_1 : FD Try.prog 65 1 1 := .of Try.underlying65 (by kernel_rfl)
theorem kl3 : KL Try.prog 3 (fun n : Int => Value.int .i64 n) := .int Try.underlying3
theorem fd60_9 : FD Try.prog 60 9 9 := .of Try.underlying60 (by kernel_rfl)
theorem na56 : NotAgg Try.prog 56 := ⟨_, Try.underlying56, trivial⟩
theorem ti3 : TI Try.prog 3 1 8 (.int .i64 0) := .of (by kernel_rfl)
theorem fd60_3 : FD Try.prog 60 3 3 := .of Try.underlying60 (by kernel_rfl)
theorem na28 : NotAgg Try.prog 28 := ⟨_, Try.underlying28, trivial⟩
theorem fd60_12 : FD Try.prog 60 12 12 := .of Try.underlying60 (by kernel_rfl)
theorem fd60_14 : FD Try.prog 60 14 14 := .of Try.underlying60 (by kernel_rfl)
theorem na36 : NotAgg Try.prog 36 := ⟨_, Try.underlying36, trivial⟩
theorem ts36 : TS Try.prog 36 1 := .of (by kernel_rfl)
theorem fd60_13 : FD Try.prog 60 13 13 := .of Try.underlying60 (by kernel_rfl)
theorem na44 : NotAgg Try.prog 44 := ⟨_, Try.underlying44, trivial⟩
theorem ts44 : TS Try.prog 44 1 := .of (by kernel_rfl)
end prod0
open prod0



set_option maxRecDepth 20000 in
theorem index_ok (a : Option Addr) (c : Nat) (l : List Int) (v : Int) (hl : l.length ≤ 1000000) : Cn Try.prog 37 [.slice a l.length c, .int .i64 v] (RowAt a (l.flatMap icell)) [] fun r G => r = .int .i64 (idxOf l v) ∧ G = [] := by
  refine .enter Try.func37 rfl (by kernel_rfl) rfl fun R k => ?_
  refine .seq ?_
  refine .region ?_
  refine .rd (.assign rfl) ?_
  refine .nil ?_
  refine .seq ?_
  refine .seq ?_
  refine .region ?_
  refine .rd (.move rfl) ?_
  refine .rd (.lenL rfl rfl Try.underlying28 rfl) ?_
  refine .rd (.move rfl) ?_
  refine .nil ?_
  refine .block ?_
  refine .loop (σ := Nat) (fun i => i ≤ l.length ∧ ∀ x ∈ l.take i, v ≠ x) (fun i => l.length - i) (fun i => [(0, .slice a l.length c), (1, .int .i64 v), (7, .int .i64 l.length), (8, .int .i64 (i : Nat))]) (fun i => [R]) 0 ⟨Nat.zero_le _, by simp⟩ (.cons rfl (.cons rfl (.cons rfl (.cons rfl .nil)))) (.cons .head .nil) (fun i hI ih => ?_)
  have hi := hI.1
  refine .seq ?_
  refine .region ?_
  refine .rd (.lt rfl rfl) ?_
  refine .nil ?_
  refine .seq ?_
  refine .condP rfl (fun h2 => ?_) (fun h2 => ?_)
  · refine .skip ?_
    refine .seq ?_
    refine .block ?_
    refine .seq ?_
    refine .region ?_
    refine .rd (.move rfl) ?_
    refine .rd (.assign rfl) ?_
    refine .nil ?_
    refine .seq ?_
    obtain ⟨y, hy⟩ : ∃ y, l[i]? = some y := ⟨_, List.getElem?_eq_getElem (by omega)⟩
    refine .tell (φ := ∃ b o, a = some ⟨b, o, none⟩) (Knows.pick .head (k.mono fun _ h => RowAt.addr h (by rw [flat_length icell_len]; omega))) (fun hh => ?_)
    obtain ⟨b, o, rfl⟩ := hh
    refine .region ?_
    refine .rd (.move rfl) ?_
    refine .rd (.move rfl) ?_
    refine .rd (.move rfl) ?_
    refine .rd (.indexAddr Try.underlying28 ts3 rfl rfl (by omega) (by omega)) ?_
    refine .rd (.load na3 rfl (Knows.one (i := 0) (Knows.elem (f := icell) icell_len (by decide) (Knows.pick .head k) hy) rfl)) ?_
    refine .rd (.eqI rfl rfl) ?_
    refine .nil ?_
    refine .condP rfl (fun h4 => ?_) (fun h4 => ?_)
    · refine .seq ?_
      refine .region ?_
      refine .rd (.move rfl) ?_
      refine .rd (.assign rfl) ?_
      refine .nil ?_
      rw [show idxOf l v = i from idx_hit (by rw [h4]; exact hy) hI.2]
      refine .retP Try.func37 (.cons (.tmp rfl) .nil) (.cons .head .nil) ?_
      exact ⟨[], ⟨rfl, rfl⟩, rfl⟩
    · refine .skip ?_
      refine .inBlock ?_
      refine .region ?_
      refine .rd (.add rfl rfl (by omega) (by omega)) ?_
      refine .rd (.move rfl) ?_
      refine .nil ?_
      exact (ih (i + 1) ⟨by omega, fun x hx => by rw [List.take_add_one, hy] at hx; rcases List.mem_append.1 hx with h | h; exact hI.2 x h; simp at h; rw [h]; exact h4⟩ (by omega)).to (.cons rfl (.cons rfl (.cons rfl (.cons rfl .nil)))) (.cons .head .nil)
  · refine .exit rfl ?_
    refine .seq ?_
    refine .region ?_
    refine .rd (.assign rfl) ?_
    refine .nil ?_
    rw [show idxOf l v = -1 from idx_none fun x hx => hI.2 x (by rw [List.take_of_length_le (by omega)]; exact hx)]
    refine .retP Try.func37 (.cons (.tmp rfl) .nil) (.cons .head .nil) ?_
    exact ⟨[], ⟨rfl, rfl⟩, rfl⟩

set_option maxRecDepth 20000 in
theorem contains_ok (a : Option Addr) (c : Nat) (l : List Int) (v : Int) (hl : l.length ≤ 1000000) : Cn Try.prog 29 [.slice a l.length c, .int .i64 v] (RowAt a (l.flatMap icell)) [] fun r G => r = .bool (decide (0 ≤ idxOf l v)) ∧ G = [] := by
  refine .enter Try.func29 rfl (by kernel_rfl) rfl fun R k => ?_
  refine .seq ?_
  refine .region ?_
  refine .rd (.assign rfl) ?_
  refine .nil ?_
  refine .seq ?_
  refine .region ?_
  refine .rd (.move rfl) ?_
  refine .rd (.move rfl) ?_
  refine .fn rfl rfl .nil (Knows.pick .head k) (index_ok a c l v (by omega)) (fun v G1 hq => ?_)
  obtain ⟨rfl, rfl⟩ := hq
  simp only [List.nil_append]
  refine .rd (.ge rfl rfl) ?_
  refine .rd (.assign rfl) ?_
  refine .nil ?_
  refine .retP Try.func29 (.cons (.tmp rfl) .nil) (.cons .head .nil) ?_
  exact ⟨[], ⟨rfl, rfl⟩, rfl⟩

set_option maxRecDepth 20000 in
theorem part_ok (rb : Nat) (q : Option Nat) : Cn Try.prog 24 [.pointer (some ⟨rb, 0, none⟩)] (fun w => CellsAt rb 4 [.pointer (q.map fun a => (⟨a, 0, none⟩ : Addr))] w ∧ ∀ a, q = some a → CellsAt a 1 [.int .i64 2] w) [] fun r G => r = .int .i64 (if q.isNone then 0 else 2) ∧ G = [] := by
  refine .enter Try.func24 rfl (by kernel_rfl) rfl fun R k => ?_
  refine .seq ?_
  refine .region ?_
  refine .rd (.assign rfl) ?_
  refine .nil ?_
  refine .seq ?_
  refine .seq ?_
  refine .region ?_
  refine .rd (.move rfl) ?_
  refine .rd (.nilCheck rfl) ?_
  refine .rd (.fieldAddr fd71_4 rfl) ?_
  refine .rd (.load na62 rfl (Knows.pick .head (k.mono fun _ h => h.1))) ?_
  refine .rd (.eqNilP Try.underlying62 rfl rfl) ?_
  refine .nil ?_
  refine .cond rfl (fun h1 => ?_) (fun h1 => ?_)
  · obtain rfl : q = none := by cases q with | none => rfl | some a => simp at h1
    refine .seq ?_
    refine .region ?_
    refine .rd (.assign rfl) ?_
    refine .nil ?_
    refine .retP Try.func24 (.cons (.tmp rfl) .nil) (.cons .head .nil) ?_
    exact ⟨[], ⟨rfl, rfl⟩, rfl⟩
  · obtain ⟨a, rfl⟩ : ∃ a, q = some a := by cases q with | none => simp at h1 | some a => exact ⟨a, rfl⟩
    refine .skip ?_
    refine .seq ?_
    refine .region ?_
    refine .rd (.move rfl) ?_
    refine .rd (.nilCheck rfl) ?_
    refine .rd (.fieldAddr fd71_4 rfl) ?_
    refine .rd (.load na62 rfl (Knows.pick .head (k.mono fun _ h => h.1))) ?_
    refine .rd (.nilCheck rfl) ?_
    refine .rd (.fieldAddr fd65_1 rfl) ?_
    refine .rd (.load na3 rfl (Knows.pick .head (k.mono fun _ h => h.2 a rfl))) ?_
    refine .rd (.assign rfl) ?_
    refine .nil ?_
    refine .retP Try.func24 (.cons (.tmp rfl) .nil) (.cons .head .nil) ?_
    exact ⟨[], ⟨rfl, rfl⟩, rfl⟩

set_option maxRecDepth 20000 in
theorem aim_ok (pb : Nat) (s : PS) (x : PX) (oa : Option Addr) (on oc : Nat) (p : Int) (hb : s.brokers ≠ []) : Cn Try.prog 23 [.pointer (some ⟨pb, 0, none⟩), .int .i64 p] (fun w => CellsAt pb 0 (s.cells x oa on oc) w ∧ RowAt x.ba (s.brokers.flatMap icell) w) [IM x.ab s.aims] fun r G => r = .int .i64 (s.aim p) ∧ G = [IM x.ab s.aims] := by
  refine .enter Try.func23 rfl (by kernel_rfl) rfl fun R k => ?_
  refine .seq ?_
  refine .region ?_
  refine .rd (.assign rfl) ?_
  refine .nil ?_
  refine .seq ?_
  refine .seq ?_
  refine .region ?_
  refine .rd (.move rfl) ?_
  refine .rd (.nilCheck rfl) ?_
  refine .rd (.fieldAddr fd60_9 rfl) ?_
  refine .rd (.load na56 rfl (Knows.one (i := 9) (Knows.pick (.tail .head) (k.mono fun _ h => h.1)) rfl)) ?_
  refine .rd (.move rfl) ?_
  refine .rd (.lookupOk (q := p) kl3 Try.underlying56 (fun w => ti3.zero w) rfl rfl .head) ?_
  refine .rd (.move rfl) ?_
  refine .rd (.extract rfl rfl) ?_
  refine .rd (.extract rfl rfl) ?_
  refine .rd (.assign rfl) ?_
  refine .rd (.assign rfl) ?_
  refine .nil ?_
  refine .seq ?_
  refine .region ?_
  refine .rd (.move rfl) ?_
  refine .nil ?_
  refine .cond rfl (fun h2 => ?_) (fun h2 => ?_)
  · obtain ⟨v, hv⟩ : ∃ v, mget s.aims p = some v := by cases h : mget s.aims p with | none => rw [h] at h2; cases h2 | some v => exact ⟨v, rfl⟩
    have hv2 : s.aim p = v := by unfold PS.aim; rw [hv]; rfl
    refine .seq ?_
    refine .region ?_
    refine .rd (.move rfl) ?_
    refine .rd (.assign rfl) ?_
    refine .nil ?_
    rw [hv2]
    refine .alter (t := 4) (v' := .int .i64 v) rfl (by rw [hv]; rfl) ?_
    refine .retP Try.func23 (.cons (.tmp rfl) .nil) (.cons .head (.cons .head .nil)) ?_
    exact ⟨[_], ⟨rfl, rfl⟩, rfl⟩
  · have hv : mget s.aims p = none := by cases h : mget s.aims p with | none => rfl | some v => rw [h] at h2; cases h2
    have hv2 : s.aim p = s.brokers.getD 0 0 := by unfold PS.aim; rw [hv]; rfl
    obtain ⟨y, hy⟩ : ∃ y, s.brokers[0]? = some y := ⟨_, List.getElem?_eq_getElem (List.length_pos_iff.2 hb)⟩
    have hbl := List.length_pos_iff.2 hb
    have hv3 : s.aim p = y := by rw [hv2, List.getD_eq_getElem?_getD, hy]; rfl
    refine .tell (φ := ∃ b o, x.ba = some ⟨b, o, none⟩) (Knows.pick (.tail .head) (k.mono fun _ h => RowAt.addr h.2 (by rw [flat_length icell_len]; omega))) (fun hh => ?_)
    obtain ⟨b9, o9, hab⟩ := hh
    refine .skip ?_
    refine .seq ?_
    refine .region ?_
    refine .rd (.move rfl) ?_
    refine .rd (.nilCheck rfl) ?_
    refine .rd (.fieldAddr fd60_3 rfl) ?_
    refine .rd (.load na28 rfl (Knows.one (i := 3) (Knows.pick (.tail .head) (k.mono fun _ h => h.1)) rfl)) ?_
    refine .rd (.indexAddr (b := b9) (o := o9) Try.underlying28 ts3 (by show some (Value.slice x.ba _ _) = _; rw [hab]) rfl (by decide) (by omega)) ?_
    refine .rd (.load na3 rfl (Knows.one (i := 0) (Knows.elem (f := icell) icell_len (by decide) (Knows.pick (.tail .head) (k.mono fun _ h => hab ▸ h.2)) hy) rfl)) ?_
    refine .rd (.assign rfl) ?_
    refine .nil ?_
    rw [hv3]
    refine .retP Try.func23 (.cons (.tmp rfl) .nil) (.cons .head (.cons .head .nil)) ?_
    exact ⟨[_], ⟨rfl, rfl⟩, rfl⟩

set_option maxRecDepth 20000 in
theorem behind_ok (pb : Nat) (s : PS) (x : PX) (oa : Option Addr) (on oc : Nat) (to : Int) (hb : s.brokers ≠ []) (hn : s.brokers.length ≤ 100) : Cn Try.prog 25 [.pointer (some ⟨pb, 0, none⟩), .int .i64 to] (fun w => CellsAt pb 0 (s.cells x oa on oc) w ∧ RowAt x.ba (s.brokers.flatMap icell) w) [] fun r G => r = .int .i64 (behind s.brokers to) ∧ G = [] := by
  refine .enter Try.func25 rfl (by kernel_rfl) rfl fun R k => ?_
  have hir := idx_range s.brokers to
  have hbl := List.length_pos_iff.2 hb
  obtain ⟨j, hj⟩ : ∃ j : Nat, (idxOf s.brokers to + 1) % (s.brokers.length : Int) = j := ⟨((idxOf s.brokers to + 1) % (s.brokers.length : Int)).toNat, by have := Int.emod_nonneg (idxOf s.brokers to + 1) (b := (s.brokers.length : Int)) (by omega); omega⟩
  have hjl : j < s.brokers.length := by have := Int.emod_lt_of_pos (idxOf s.brokers to + 1) (b := (s.brokers.length : Int)) (by omega); omega
  obtain ⟨y, hy⟩ : ∃ y, s.brokers[j]? = some y := ⟨_, List.getElem?_eq_getElem hjl⟩
  have hv : behind s.brokers to = y := by unfold behind; rw [hj, Int.toNat_natCast, List.getD_eq_getElem?_getD, hy]; rfl
  refine .tell (φ := ∃ b o, x.ba = some ⟨b, o, none⟩) (Knows.pick .head (k.mono fun _ h => RowAt.addr h.2 (by rw [flat_length icell_len]; omega))) (fun hh => ?_)
  obtain ⟨b9, o9, hab⟩ := hh
  refine .seq ?_
  refine .region ?_
  refine .rd (.assign rfl) ?_
  refine .nil ?_
  refine .seq ?_
  refine .draws [3, 7, 14, 18] [R] (by kernel_rfl) ?_
  refine .rp 0 rfl (by kernel_rfl) (by kernel_rfl) (by kernel_rfl) (Reads.pure (.move rfl)) ?_
  refine .rp 1 rfl (by kernel_rfl) (by kernel_rfl) (by kernel_rfl) (Reads.pure (.nilCheck rfl)) ?_
  refine .rp 2 rfl (by kernel_rfl) (by kernel_rfl) (by kernel_rfl) (Reads.pure (.fieldAddr fd60_3 rfl)) ?_
  refine .rd 3 rfl rfl (by kernel_rfl) (by kernel_rfl) (by kernel_rfl) (.load na28 rfl (Knows.one (i := 3) (Knows.pick .head (k.mono fun _ h => h.1)) rfl)) (.cons .head .nil) ?_
  refine .rp 4 rfl (by kernel_rfl) (by kernel_rfl) (by kernel_rfl) (Reads.pure (.move rfl)) ?_
  refine .rp 5 rfl (by kernel_rfl) (by kernel_rfl) (by kernel_rfl) (Reads.pure (.nilCheck rfl)) ?_
  refine .rp 6 rfl (by kernel_rfl) (by kernel_rfl) (by kernel_rfl) (Reads.pure (.fieldAddr fd60_3 rfl)) ?_
  refine .rd 7 rfl rfl (by kernel_rfl) (by kernel_rfl) (by kernel_rfl) (.load na28 rfl (Knows.one (i := 3) (Knows.pick .head (k.mono fun _ h => h.1)) rfl)) (.cons .head .nil) ?_
  refine .rp 8 rfl (by kernel_rfl) (by kernel_rfl) (by kernel_rfl) (Reads.pure (.move rfl)) ?_
  refine .rp 11 rfl (by kernel_rfl) (by kernel_rfl) (by kernel_rfl) (Reads.pure (.move rfl)) ?_
  refine .rp 12 rfl (by kernel_rfl) (by kernel_rfl) (by kernel_rfl) (Reads.pure (.nilCheck rfl)) ?_
  refine .rp 13 rfl (by kernel_rfl) (by kernel_rfl) (by kernel_rfl) (Reads.pure (.fieldAddr fd60_3 rfl)) ?_
  refine .rd 14 rfl rfl (by kernel_rfl) (by kernel_rfl) (by kernel_rfl) (.load na28 rfl (Knows.one (i := 3) (Knows.pick .head (k.mono fun _ h => h.1)) rfl)) (.cons .head .nil) ?_
  refine .rp 15 rfl (by kernel_rfl) (by kernel_rfl) (by kernel_rfl) (Reads.pure (.lenL rfl rfl Try.underlying28 rfl)) ?_
  refine .ef 9 (by kernel_rfl) rfl (.fn rfl rfl .nil (Knows.pick .head (k.mono fun _ h => h.2)) (index_ok x.ba x.bc s.brokers to (by omega))) ?_
  rintro v _ ⟨G1, hq, rfl⟩
  obtain ⟨rfl, rfl⟩ := hq
  simp only [List.nil_append]
  refine ⟨.inr ⟨_, (.cons .head .nil)⟩, ?_⟩
  refine .rp 10 rfl (by kernel_rfl) (by kernel_rfl) (by kernel_rfl) (Reads.pure (.add rfl rfl (by omega) (by omega))) ?_
  refine .rp 16 rfl (by kernel_rfl) (by kernel_rfl) (by kernel_rfl) (Reads.pure (.rem rfl rfl (by omega) (by omega))) ?_
  refine .alter (t := 21) (v' := .int .i64 (j : Nat)) rfl (by rw [hj]) ?_
  refine .rp 17 rfl (by kernel_rfl) (by kernel_rfl) (by kernel_rfl) (Reads.pure (.indexAddr (b := b9) (o := o9) Try.underlying28 ts3 (by show some (Value.slice x.ba _ _) = _; rw [hab]) rfl (by omega) (by omega))) ?_
  refine .rd 18 rfl rfl (by kernel_rfl) (by kernel_rfl) (by kernel_rfl) (.load na3 rfl (Knows.one (i := 0) (Knows.elem (f := icell) icell_len (by decide) (Knows.pick .head (k.mono fun _ h => hab ▸ h.2)) hy) rfl)) (.cons .head .nil) ?_
  refine .rp 19 rfl (by kernel_rfl) (by kernel_rfl) (by kernel_rfl) (Reads.pure (.assign rfl)) ?_
  refine .done (by kernel_rfl) ?_
  rw [hv]
  refine .retP Try.func25 (.cons (.tmp rfl) .nil) (.cons .head .nil) ?_
  exact ⟨[], ⟨rfl, rfl⟩, rfl⟩

set_option maxRecDepth 20000 in
theorem Open_ok (pb : Nat) (s : PS) (x : PX) (oa : Option Addr) (on oc : Nat) : Cn Try.prog 13 [.pointer (some ⟨pb, 0, none⟩)] (fun _ => True) [blk pb (s.cells x oa on oc) 60] fun r G => r = .int .i64 s.open_ ∧ G = [blk pb (s.cells x oa on oc) 60] := by
  refine .enter Try.func13 rfl (by kernel_rfl) rfl fun R k => ?_
  refine .seq ?_
  refine .region ?_
  refine .rd (.assign rfl) ?_
  refine .nil ?_
  refine .seq ?_
  refine .region ?_
  refine .rd (.move rfl) ?_
  refine .rd (.nilCheck rfl) ?_
  refine .rd (.fieldAddr fd60_12 rfl) ?_
  refine .rd (.ld na3 rfl .head rfl) ?_
  refine .rd (.assign rfl) ?_
  refine .nil ?_
  refine .retP Try.func13 (.cons (.tmp rfl) .nil) (.cons .head (.cons .head .nil)) ?_
  exact ⟨[_], ⟨rfl, rfl⟩, rfl⟩

set_option maxRecDepth 20000 in
theorem said_ok (pb : Nat) (s : PS) (x : PX) (oa : Option Addr) (on oc : Nat) : Cn Try.prog 19 [.pointer (some ⟨pb, 0, none⟩)] (fun _ => True) [blk pb (s.cells x oa on oc) 60] fun r G => r = .slice oa on oc ∧ G = [blk pb (s.cells x none 0 0) 60] := by
  refine .enter Try.func19 rfl (by kernel_rfl) rfl fun R k => ?_
  refine .seq ?_
  refine .region ?_
  refine .rd (.assign rfl) ?_
  refine .nil ?_
  refine .seq ?_
  refine .region ?_
  refine .rd (.move rfl) ?_
  refine .rd (.nilCheck rfl) ?_
  refine .rd (.fieldAddr fd60_14 rfl) ?_
  refine .rd (.ld na36 rfl .head rfl) ?_
  refine .rd (.assign rfl) ?_
  refine .nil ?_
  refine .seq ?_
  refine .region ?_
  refine .rd (.move rfl) ?_
  refine .rd (.nilCheck rfl) ?_
  refine .rd (.fieldAddr fd60_14 rfl) ?_
  refine .ef0 (.store ts36 rfl rfl .head rfl (Nat.le_of_ble_eq_true rfl)) ?_
  rintro _ _ rfl
  refine .nil ?_
  refine .cast (X' := blk pb (s.cells x none 0 0) 60) (rfl) ?_
  refine .seq ?_
  refine .region ?_
  refine .rd (.move rfl) ?_
  refine .rd (.assign rfl) ?_
  refine .nil ?_
  refine .retP Try.func19 (.cons (.tmp rfl) .nil) (.cons .head (.cons .head .nil)) ?_
  exact ⟨[_], ⟨rfl, rfl⟩, rfl⟩

set_option maxRecDepth 20000 in
theorem Done_ok (pb : Nat) (s : PS) (x : PX) (oa : Option Addr) (on oc : Nat) : Cn Try.prog 11 [.pointer (some ⟨pb, 0, none⟩)] (fun _ => True) [blk pb (s.cells x oa on oc) 60] fun r G => r = .slice x.ea s.ended.length x.ec ∧ G = [blk pb ((doneS s).cells { x with ea := none, ec := 0 } oa on oc) 60] := by
  refine .enter Try.func11 rfl (by kernel_rfl) rfl fun R k => ?_
  refine .seq ?_
  refine .region ?_
  refine .rd (.assign rfl) ?_
  refine .nil ?_
  refine .seq ?_
  refine .region ?_
  refine .rd (.move rfl) ?_
  refine .rd (.nilCheck rfl) ?_
  refine .rd (.fieldAddr fd60_13 rfl) ?_
  refine .rd (.ld na44 rfl .head rfl) ?_
  refine .rd (.assign rfl) ?_
  refine .nil ?_
  refine .seq ?_
  refine .region ?_
  refine .rd (.move rfl) ?_
  refine .rd (.nilCheck rfl) ?_
  refine .rd (.fieldAddr fd60_13 rfl) ?_
  refine .ef0 (.store ts44 rfl rfl .head rfl (Nat.le_of_ble_eq_true rfl)) ?_
  rintro _ _ rfl
  refine .nil ?_
  refine .cast (X' := blk pb ((doneS s).cells { x with ea := none, ec := 0 } oa on oc) 60) (rfl) ?_
  refine .seq ?_
  refine .region ?_
  refine .rd (.move rfl) ?_
  refine .rd (.assign rfl) ?_
  refine .nil ?_
  refine .retP Try.func11 (.cons (.tmp rfl) .nil) (.cons .head (.cons .head .nil)) ?_
  exact ⟨[_], ⟨rfl, rfl⟩, rfl⟩

end Go.Proofs.Ytlcglmimndkleaa


namespace Go.Proofs.Ytlcglmimndkleaa
open Go Go.Sp

set_option linter.unusedVariables false

namespace prod3
theorem fd65_6 : FD Try.prog 65 6 6 := .of Try.underlying65 (by kernel_rfl)
theorem ts4 : TS Try.prog 4 1 := .of (by kernel_rfl)
theorem fd60_12 : FD Try.prog 60 12 12 := .of Try.underlying60 (by kernel_rfl)
theorem na3 : NotAgg Try.prog 3 := ⟨_, Try.underlying3, trivial⟩
theorem ts3 : TS Try.prog 3 1 := .of (by kernel_rfl)
theorem fd60_13 : FD Try.prog 60 13 13 := .of Try.underlying60 (by kernel_rfl)
theorem na44 : NotAgg Try.prog 44 := ⟨_, Try.underlying44, trivial⟩
theorem fd60_0 : FD Try.prog 60 0 0 := .of Try.underlying60 (by kernel_rfl)
theorem fd65_0 : FD Try.prog 65 0 0 := .of Try.underlying65 (by kernel_rfl)
theorem fd65_1 : FD Try.prog 65 1 1 := .of Try.underlying65 (by kernel_rfl)
theorem fd65_3 : FD Try.prog 65 3 3 := .of Try.underlying65 (by kernel_rfl)
theorem fd65_4 : FD Try.prog 65 4 4 := .of Try.underlying65 (by kernel_rfl)
theorem fd65_5 : FD Try.prog 65 5 5 := .of Try.underlying65 (by kernel_rfl)
theorem fd65_2 : FD Try.prog 65 2 2 := .of Try.underlying65 (by kernel_rfl)
theorem na33 : NotAgg Try.prog 33 := ⟨_, Try.underlying33, trivial⟩
theorem ts41 : TS Try.prog 41 3 := .of (by kernel_rfl)
theorem fd41_1 : FD Try.prog 41 1 1 := .of Try.underlying41 (by kernel_rfl)
theorem na9 : NotAgg Try.prog 9 := ⟨_, Try.underlying9, trivial⟩
theorem bld47_0_1_2_3_4_5_6_7_9_10_11 (x0 : Int) (x1 : Int) (x2 : Int) (x3 : Int) (x4 : Int) (x5 : Int) (x6 : Int) (x7 : Int) (x8 : ByteArray) (x9 : Int) (x10 : Bool) (w : World) : (Instr.build 47 (([0, 1, 2, 3, 4, 5, 6, 7, 9, 10, 11] : List Nat).zip [.int .i64 x0, .int .i64 x1, .int .i64 x2, .int .i64 x3, .int .i64 x4, .int .i64 x5, .int .i64 x6, .int .i64 x7, .string x8, .int .i64 x9, .bool x10]).toArray).run Try.prog w = .ok (.agg #[.int .i64 x0, .int .i64 x1, .int .i64 x2, .int .i64 x3, .int .i64 x4, .int .i64 x5, .int .i64 x6, .int .i64 x7, .string ⟨#[]⟩, .string x8, .int .i64 x9, .bool x10]) w := by kernel_rfl
theorem ti47 : TI Try.prog 47 12 112 (.agg #[.int .i64 0, .int .i64 0, .int .i64 0, .int .i64 0, .int .i64 0, .int .i64 0, .int .i64 0, .int .i64 0, .string ⟨#[]⟩, .string ⟨#[]⟩, .int .i64 0, .bool false]) := .of (by kernel_rfl)
theorem ts44 : TS Try.prog 44 1 := .of (by kernel_rfl)
theorem fd60_6 : FD Try.prog 60 6 6 := .of Try.underlying60 (by kernel_rfl)
theorem fd60_7 : FD Try.prog 60 7 7 := .of Try.underlying60 (by kernel_rfl)
theorem na57 : NotAgg Try.prog 57 := ⟨_, Try.underlying57, trivial⟩
theorem ts62 : TS Try.prog 62 1 := .of (by kernel_rfl)
theorem na62 : NotAgg Try.prog 62 := ⟨_, Try.underlying62, trivial⟩
theorem na4 : NotAgg Try.prog 4 := ⟨_, Try.underlying4, trivial⟩
theorem fd71_4 : FD Try.prog 71 4 4 := .of Try.underlying71 (by kernel_rfl)
theorem ti65 : TI Try.prog 65 7 72 (.agg #[.int .i64 0, .int .i64 0, .slice none 0 0, .int .i64 0, .int .i64 0, .int .i64 0, .bool false]) := .of (by kernel_rfl)
end prod3
open prod3

theorem RowAt.cellsAt' {b o : Nat} {t : List UInt8} {w : World} (h : RowAt (some ⟨b, o, none⟩) (recC t) w) : CellsAt b o (recC t) w := by
  rcases h with h | ⟨b', o', e, h⟩
  · cases h
  · cases e; exact h

set_option maxHeartbeats 1000000 in
set_option maxRecDepth 20000 in
theorem end_ok (pb : Nat) (s s0 : PS) (x x0 : PX) (oa : Option Addr) (on oc : Nat) (cl : List CallX) (i : Nat) (y : CallX) (err off : Int) (hW : PW s cl) (hy : cl[i]? = some y) (ho : -1000000 ≤ s.open_ ∧ s.open_ ≤ 1000000) (he : s.ended.length ≤ 100000000) : Cn Try.prog 31 [.pointer (some ⟨pb, 0, none⟩), .pointer (some ⟨y.a, 0, none⟩), .int .i64 err, .int .i64 off] (fun _ => True) [blk pb (PS.cells s x oa on oc) 60, CB y, arr 47 12 x.ea x.ec (s.ended.flatMap Seen.cells), know (KN s0 x0 cl)] fun v G => ∃ ea ec, G = [blk pb (PS.cells (endS s i err off) { x with ea := ea, ec := ec } oa on oc) 60, CB y.over, arr 47 12 ea ec ((endS s i err off).ended.flatMap Seen.cells), know (KN s0 x0 cl)] := by
  refine .enter Try.func31 rfl (by kernel_rfl) rfl fun R k => ?_
  have hym := List.mem_of_getElem? hy
  have hci := (hW.at_ hy).2.1
  refine .seq ?_
  refine .seq ?_
  refine .region ?_
  refine .rd (.move rfl) ?_
  refine .rd (.neI rfl rfl) ?_
  refine .nil ?_
  refine .joinAt (E' := [(0, .pointer (some ⟨pb, 0, none⟩)), (1, .pointer (some ⟨y.a, 0, none⟩)), (2, .int .i64 err), (3, .int .i64 (if err = 0 then off else 0))]) (Γ' := [blk pb (PS.cells ({ s with fresh := if err = 0 then s.fresh else false }) x oa on oc) 60, CB y, arr 47 12 x.ea x.ec (s.ended.flatMap Seen.cells), know (KN s0 x0 cl), R]) ?_ (fun fin => ?_)
  · refine .seq ?_
    refine .region ?_
    refine .rd (.move rfl) ?_
    refine .rd (.nilCheck rfl) ?_
    refine .rd (.fieldAddr fd65_6 rfl) ?_
    refine .ef0 (.store0 (l := y.cells) (e := 65) ts4 rfl rfl (.tail .head) rfl (Nat.le_of_ble_eq_true rfl)) ?_
    rintro _ _ rfl
    refine .nil ?_
    refine .cast (X' := CB y.over) (rfl) ?_
    refine .seq ?_
    refine .region ?_
    refine .rd (.move rfl) ?_
    refine .rd (.nilCheck rfl) ?_
    refine .rd (.fieldAddr fd60_12 rfl) ?_
    refine .rd (.ld na3 rfl (.tail .head) rfl) ?_
    refine .rd (.sub rfl rfl (by show _ ≤ s.open_ - 1; omega) (by show s.open_ - 1 ≤ _; omega)) ?_
    refine .rd (.nilCheck rfl) ?_
    refine .rd (.fieldAddr fd60_12 rfl) ?_
    refine .ef0 (.store ts3 rfl rfl (.tail .head) rfl (Nat.le_of_ble_eq_true rfl)) ?_
    rintro _ _ rfl
    refine .nil ?_
    refine .cast (X' := blk pb (PS.cells ({ s with fresh := if err = 0 then s.fresh else false, open_ := s.open_ - 1 }) x oa on oc) 60) (rfl) ?_
    refine .tell (φ := ∃ b o, y.ra = some ⟨b, o, none⟩) ((Knows.know (.tail (.tail (.tail .head)))).mono fun _ h => RowAt.addr (h.2 y hym) (by show 0 < 3; decide)) (fun hh => ?_)
    obtain ⟨b9, o9, hab⟩ := hh
    refine .draws [4, 8, 12, 16, 21, 25, 29, 33, 36] [blk pb (PS.cells ({ s with fresh := if err = 0 then s.fresh else false, open_ := s.open_ - 1 }) x oa on oc) 60, CB y.over, know (KN s0 x0 cl)] (by kernel_rfl) ?_
    refine .rp 0 rfl (by kernel_rfl) (by kernel_rfl) (by kernel_rfl) (Reads.pure (.move rfl)) ?_
    refine .rp 1 rfl (by kernel_rfl) (by kernel_rfl) (by kernel_rfl) (Reads.pure (.move rfl)) ?_
    refine .rp 2 rfl (by kernel_rfl) (by kernel_rfl) (by kernel_rfl) (Reads.pure (.nilCheck rfl)) ?_
    refine .rp 3 rfl (by kernel_rfl) (by kernel_rfl) (by kernel_rfl) (Reads.pure (.fieldAddr fd60_13 rfl)) ?_
    refine .rd 4 rfl rfl (by kernel_rfl) (by kernel_rfl) (by kernel_rfl) (.ld na44 rfl .head rfl) (.cons .head (.cons .head (.cons (.tail .head) .nil))) ?_
    refine .rp 5 rfl (by kernel_rfl) (by kernel_rfl) (by kernel_rfl) (Reads.pure (.move rfl)) ?_
    refine .rp 6 rfl (by kernel_rfl) (by kernel_rfl) (by kernel_rfl) (Reads.pure (.nilCheck rfl)) ?_
    refine .rp 7 rfl (by kernel_rfl) (by kernel_rfl) (by kernel_rfl) (Reads.pure (.fieldAddr fd60_0 rfl)) ?_
    refine .rd 8 rfl rfl (by kernel_rfl) (by kernel_rfl) (by kernel_rfl) (.ld na3 rfl .head rfl) (.cons .head (.cons .head (.cons (.tail .head) .nil))) ?_
    refine .rp 9 rfl (by kernel_rfl) (by kernel_rfl) (by kernel_rfl) (Reads.pure (.move rfl)) ?_
    refine .rp 10 rfl (by kernel_rfl) (by kernel_rfl) (by kernel_rfl) (Reads.pure (.nilCheck rfl)) ?_
    refine .rp 11 rfl (by kernel_rfl) (by kernel_rfl) (by kernel_rfl) (Reads.pure (.fieldAddr fd65_0 rfl)) ?_
    refine .rd 12 rfl rfl (by kernel_rfl) (by kernel_rfl) (by kernel_rfl) (.load na3 rfl (Knows.one (i := 0) (Knows.blk0 (l := y.over.cells) (e := 65) (.tail .head)) rfl)) (.cons .head (.cons .head (.cons (.tail .head) .nil))) ?_
    refine .rp 13 rfl (by kernel_rfl) (by kernel_rfl) (by kernel_rfl) (Reads.pure (.move rfl)) ?_
    refine .rp 14 rfl (by kernel_rfl) (by kernel_rfl) (by kernel_rfl) (Reads.pure (.nilCheck rfl)) ?_
    refine .rp 15 rfl (by kernel_rfl) (by kernel_rfl) (by kernel_rfl) (Reads.pure (.fieldAddr fd65_1 rfl)) ?_
    refine .rd 16 rfl rfl (by kernel_rfl) (by kernel_rfl) (by kernel_rfl) (.load na3 rfl (Knows.one (i := 1) (Knows.blk0 (l := y.over.cells) (e := 65) (.tail .head)) rfl)) (.cons .head (.cons .head (.cons (.tail .head) .nil))) ?_
    refine .rp 17 rfl (by kernel_rfl) (by kernel_rfl) (by kernel_rfl) (Reads.pure (.move rfl)) ?_
    refine .rp 18 rfl (by kernel_rfl) (by kernel_rfl) (by kernel_rfl) (Reads.pure (.move rfl)) ?_
    refine .rp 19 rfl (by kernel_rfl) (by kernel_rfl) (by kernel_rfl) (Reads.pure (.nilCheck rfl)) ?_
    refine .rp 20 rfl (by kernel_rfl) (by kernel_rfl) (by kernel_rfl) (Reads.pure (.fieldAddr fd65_3 rfl)) ?_
    refine .rd 21 rfl rfl (by kernel_rfl) (by kernel_rfl) (by kernel_rfl) (.load na3 rfl (Knows.one (i := 3) (Knows.blk0 (l := y.over.cells) (e := 65) (.tail .head)) rfl)) (.cons .head (.cons .head (.cons (.tail .head) .nil))) ?_
    refine .rp 22 rfl (by kernel_rfl) (by kernel_rfl) (by kernel_rfl) (Reads.pure (.move rfl)) ?_
    refine .rp 23 rfl (by kernel_rfl) (by kernel_rfl) (by kernel_rfl) (Reads.pure (.nilCheck rfl)) ?_
    refine .rp 24 rfl (by kernel_rfl) (by kernel_rfl) (by kernel_rfl) (Reads.pure (.fieldAddr fd65_4 rfl)) ?_
    refine .rd 25 rfl rfl (by kernel_rfl) (by kernel_rfl) (by kernel_rfl) (.load na3 rfl (Knows.one (i := 4) (Knows.blk0 (l := y.over.cells) (e := 65) (.tail .head)) rfl)) (.cons .head (.cons .head (.cons (.tail .head) .nil))) ?_
    refine .rp 26 rfl (by kernel_rfl) (by kernel_rfl) (by kernel_rfl) (Reads.pure (.move rfl)) ?_
    refine .rp 27 rfl (by kernel_rfl) (by kernel_rfl) (by kernel_rfl) (Reads.pure (.nilCheck rfl)) ?_
    refine .rp 28 rfl (by kernel_rfl) (by kernel_rfl) (by kernel_rfl) (Reads.pure (.fieldAddr fd65_5 rfl)) ?_
    refine .rd 29 rfl rfl (by kernel_rfl) (by kernel_rfl) (by kernel_rfl) (.load na3 rfl (Knows.one (i := 5) (Knows.blk0 (l := y.over.cells) (e := 65) (.tail .head)) rfl)) (.cons .head (.cons .head (.cons (.tail .head) .nil))) ?_
    refine .rp 30 rfl (by kernel_rfl) (by kernel_rfl) (by kernel_rfl) (Reads.pure (.move rfl)) ?_
    refine .rp 31 rfl (by kernel_rfl) (by kernel_rfl) (by kernel_rfl) (Reads.pure (.nilCheck rfl)) ?_
    refine .rp 32 rfl (by kernel_rfl) (by kernel_rfl) (by kernel_rfl) (Reads.pure (.fieldAddr fd65_2 rfl)) ?_
    refine .rd 33 rfl rfl (by kernel_rfl) (by kernel_rfl) (by kernel_rfl) (.load na33 rfl (Knows.one (i := 2) (Knows.blk0 (l := y.over.cells) (e := 65) (.tail .head)) rfl)) (.cons .head (.cons .head (.cons (.tail .head) .nil))) ?_
    refine .rp 34 rfl (by kernel_rfl) (by kernel_rfl) (by kernel_rfl) (Reads.pure (.indexAddr (b := b9) (o := o9) Try.underlying33 ts41 (by show some (Value.slice y.ra _ _) = _; rw [hab]) rfl (by decide) (by decide))) ?_
    refine .rp 35 rfl (by kernel_rfl) (by kernel_rfl) (by kernel_rfl) (Reads.pure (.fieldAddr fd41_1 rfl)) ?_
    refine .rd 36 rfl rfl (by kernel_rfl) (by kernel_rfl) (by kernel_rfl) (.load na9 rfl (Knows.one (i := 1) ((Knows.know (.tail (.tail .head))).mono fun _ h => RowAt.cellsAt' (hab ▸ h.2 y hym)) rfl)) (.cons .head (.cons .head (.cons (.tail .head) .nil))) ?_
    refine .rp 37 rfl (by kernel_rfl) (by kernel_rfl) (by kernel_rfl) (Reads.pure (.move rfl)) ?_
    refine .rp 38 rfl (by kernel_rfl) (by kernel_rfl) (by kernel_rfl) (Reads.pure (.build rfl (bld47_0_1_2_3_4_5_6_7_9_10_11 _ _ _ _ _ _ _ _ _ _ _))) ?_
    refine .ef 39 (by kernel_rfl) rfl (.buildOne (cs := Seen.cells (⟨y.c.n, if err = 0 then off else 0, y.c.pid, y.c.epoch, y.c.seq, y.c.text, err⟩ : Seen)) Try.underlying44 ti47 (by decide) rfl rfl rfl (ones.of rfl)) ?_
    rintro _ _ ⟨be, rfl, rfl⟩
    refine ⟨.inr ⟨_, (.cons (.tail .head) (.cons (.tail .head) (.cons (.tail (.tail .head)) .nil)))⟩, ?_⟩
    refine .ef 40 (by kernel_rfl) rfl (.append rfl rfl Try.underlying44 ti47 rfl (ones.of rfl) (by decide) (by decide) rfl rfl (.tail (.tail (.tail .head))) (n := s.ended.length) (m := 1) (by rw [flat_length Seen.cells_len]) (.srcBlk (ys := Seen.cells (⟨y.c.n, if err = 0 then off else 0, y.c.pid, y.c.epoch, y.c.seq, y.c.text, err⟩ : Seen)) .head Try.underlying44 rfl (by decide)) (by omega)) ?_
    rintro _ _ ⟨ea, ec, rfl, en, rfl⟩
    refine ⟨.inl (by kernel_rfl), ?_⟩
    refine .rp 41 rfl (by kernel_rfl) (by kernel_rfl) (by kernel_rfl) (Reads.pure (.nilCheck rfl)) ?_
    refine .rp 42 rfl (by kernel_rfl) (by kernel_rfl) (by kernel_rfl) (Reads.pure (.fieldAddr fd60_13 rfl)) ?_
    refine .ef0 43 (by kernel_rfl) rfl (.store ts44 rfl rfl (.tail (.tail .head)) rfl (Nat.le_of_ble_eq_true rfl)) ?_
    rintro _ _ rfl
    refine ⟨.inl (by kernel_rfl), ?_⟩
    refine .done (by kernel_rfl) ?_
    have hes : (endS s i err off).ended = s.ended ++ [(⟨y.c.n, if err = 0 then off else 0, y.c.pid, y.c.epoch, y.c.seq, y.c.text, err⟩ : Seen)] := by unfold endS; rw [hci]
    refine .perm (.cons (.tail .head) (.cons .head (.cons .head (.cons .head (.cons .head (.cons .head .nil)))))) ?_
    refine .cast (X' := arr 47 12 ea ec ((endS s i err off).ended.flatMap Seen.cells)) (by rw [hes, List.flatMap_append]; simp) ?_
    refine .perm (.cons (.tail .head) (.cons .head (.cons .head (.cons .head (.cons .head (.cons .head .nil)))))) ?_
    refine .cast (X' := blk pb (PS.cells (endS s i err off) { x with ea := ea, ec := ec } oa on oc) 60) (congrArg (fun l => blk pb l 60) (by unfold PS.cells; rw [hes, List.length_append]; simp [endS])) ?_
    refine .endP Try.func31 .nil (.cons .head (.cons (.tail (.tail .head)) (.cons .head (.cons (.tail .head) (.cons (.tail .head) .nil))))) ?_
    exact ⟨[_, _, _, _], ⟨ea, ec, rfl⟩, rfl⟩
  · refine .condN rfl (fun h0 => ?_) (fun h0 => ?_)
    · refine .region ?_
      refine .rd (.move rfl) ?_
      refine .rd (.nilCheck rfl) ?_
      refine .rd (.fieldAddr fd60_6 rfl) ?_
      refine .ef0 (.store ts4 rfl rfl .head rfl (Nat.le_of_ble_eq_true rfl)) ?_
      rintro _ _ rfl
      refine .rd (.assign rfl) ?_
      refine .nil ?_
      refine .cast (X' := blk pb (PS.cells ({ s with fresh := if err = 0 then s.fresh else false }) x oa on oc) 60) (by first | (simp only [if_neg h0]; done) | (simp only [if_neg h0]; rfl)) ?_
      refine .alter (t := 3) (v' := .int .i64 (if err = 0 then off else 0)) rfl (by rw [if_neg h0]) ?_
      exact fin (.cons rfl (.cons rfl (.cons rfl (.cons rfl .nil)))) (.cons .head (.cons .head (.cons .head (.cons .head (.cons .head .nil)))))
    · refine .skip ?_
      refine .cast (X' := blk pb (PS.cells ({ s with fresh := if err = 0 then s.fresh else false }) x oa on oc) 60) (by first | (simp only [if_pos h0]; done) | (simp only [if_pos h0]; rfl)) ?_
      refine .alter (t := 3) (v' := .int .i64 (if err = 0 then off else 0)) rfl (by rw [if_pos h0]) ?_
      exact fin (.cons rfl (.cons rfl (.cons rfl (.cons rfl .nil)))) (.cons .head (.cons .head (.cons .head (.cons .head (.cons .head .nil)))))

set_option maxHeartbeats 2000000 in
set_option maxRecDepth 20000 in
theorem ends_ok (pb rb : Nat) (s : PS) (x : PX) (oa : Option Addr) (on oc : Nat) (cl : List CallX) (r : Req) (q : Option Nat) (err : Int) (hB : PB s) (hW : PW s cl) (hof : ofAt cl r.of q) : Cn Try.prog 22 [.pointer (some ⟨pb, 0, none⟩), .pointer (some ⟨rb, 0, none⟩), .int .i64 err] (fun _ => True) [blk pb (PS.cells s x oa on oc) 60, blk rb (r.cells q) 71, bag CB cl, arr 62 1 x.ca x.cc (cl.flatMap cptr), arr 47 12 x.ea x.ec (s.ended.flatMap Seen.cells), know (KN s x cl)] fun v G => ∃ cl' ea ec, SameX cl cl' ∧ PW (endsS s r.of err) cl' ∧ G = [blk pb (PS.cells (endsS s r.of err) { x with ea := ea, ec := ec } oa on oc) 60, blk rb (r.cells q) 71, bag CB cl', arr 62 1 x.ca x.cc (cl.flatMap cptr), arr 47 12 ea ec ((endsS s r.of err).ended.flatMap Seen.cells), know (KN s x cl')] := by
  refine .enter Try.func22 rfl (by kernel_rfl) rfl fun R k => ?_
  obtain ⟨ho1, ho2⟩ := hB.open_
  have hmany := hB.many
  have hends := hB.ends
  refine .seq ?_
  refine .region ?_
  refine .rd (.move rfl) ?_
  refine .rd (.nilCheck rfl) ?_
  refine .rd (.fieldAddr fd60_7 rfl) ?_
  refine .rd (.ld na57 rfl .head rfl) ?_
  refine .rd (.lenL rfl rfl Try.underlying57 rfl) ?_
  refine .rd (.move rfl) ?_
  refine .nil ?_
  refine .block ?_
  refine .loop (σ := Nat × List CallX × Option Addr × Nat) (fun ⟨k, cl', ea, ec⟩ => k ≤ s.calls.length ∧ SameX cl cl' ∧ PW (endsGo r.of err k s) cl' ∧ (-2000 ≤ (endsGo r.of err k s).open_ + k ∧ (endsGo r.of err k s).open_ ≤ 2000 ∧ (endsGo r.of err k s).ended.length ≤ 20000 + k)) (fun ⟨k, cl', ea, ec⟩ => s.calls.length - k) (fun ⟨k, cl', ea, ec⟩ => [(0, .pointer (some ⟨pb, 0, none⟩)), (1, .pointer (some ⟨rb, 0, none⟩)), (2, .int .i64 err), (11, .slice x.ca s.calls.length x.cc), (12, .int .i64 s.calls.length), (13, .int .i64 (k : Nat))]) (fun ⟨k, cl', ea, ec⟩ => [blk pb (PS.cells (endsGo r.of err k s) { x with ea := ea, ec := ec } oa on oc) 60, blk rb (r.cells q) 71, bag CB cl', arr 62 1 x.ca x.cc (cl.flatMap cptr), arr 47 12 ea ec ((endsGo r.of err k s).ended.flatMap Seen.cells), know (KN s x cl'), R]) (0, cl, x.ea, x.ec) ⟨Nat.zero_le _, .refl cl, hW, by show -2000 ≤ s.open_ + ((0 : Nat) : Int) ∧ s.open_ ≤ 2000 ∧ s.ended.length ≤ 20000 + 0; omega⟩ (.cons rfl (.cons rfl (.cons rfl (.cons rfl (.cons rfl (.cons rfl .nil)))))) (.cons .head (.cons .head (.cons .head (.cons .head (.cons .head (.cons .head (.cons .head .nil))))))) (fun s' hI ih => ?_)
  obtain ⟨k, cl', ea, ec⟩ := s'
  dsimp only at hI ih ⊢
  have hk := hI.1
  have hbd0 := hI.2.2.2
  have hcl := hI.2.1.addrs
  have hlen : cl'.length = s.calls.length := by have := congrArg List.length hcl; simp only [List.length_map] at this; rw [this]; exact hW.len
  refine .seq ?_
  refine .region ?_
  refine .rd (.lt rfl rfl) ?_
  refine .nil ?_
  refine .seq ?_
  refine .condP rfl (fun h1 => ?_) (fun h1 => ?_)
  · refine .skip ?_
    refine .seq ?_
    refine .block ?_
    refine .seq ?_
    obtain ⟨y, hy⟩ : ∃ y, cl'[k]? = some y := ⟨_, List.getElem?_eq_getElem (by omega)⟩
    have hym := List.mem_of_getElem? hy
    have hca := (hI.2.2.1.at_ hy).2.1
    obtain ⟨y0, hy0⟩ : ∃ y0, cl[k]? = some y0 := ⟨_, List.getElem?_eq_getElem (by rw [hW.len]; omega)⟩
    have hya : y0.a = y.a := by
      have e1 : (cl'.map (·.a))[k]? = some y.a := by rw [List.getElem?_map, hy]; rfl
      rw [hcl, List.getElem?_map, hy0] at e1; simpa using e1
    refine .tell (φ := ∃ b o, x.ca = some ⟨b, o, none⟩) ((Knows.arr (.tail (.tail (.tail .head)))).mono fun _ h => RowAt.addr h (by rw [flat_length cptr_len, hW.len]; omega)) (fun hh => ?_)
    obtain ⟨b9, o9, hab⟩ := hh
    refine .region ?_
    refine .rd (.indexAddr (b := b9) (o := o9) Try.underlying57 ts62 (by show some (Value.slice x.ca _ _) = _; rw [hab]) rfl (by omega) (by omega)) ?_
    refine .rd (.load na62 rfl (Knows.one (i := 0) (Knows.elem (f := cptr) cptr_len (by decide) ((Knows.arr (.tail (.tail (.tail .head)))).mono fun _ h => hab ▸ h) hy0) rfl)) ?_
    refine .alter (t := 16) (v' := .pointer (some ⟨y.a, 0, none⟩)) rfl (by rw [hya]) ?_
    refine .rd (.assign rfl) ?_
    refine .nil ?_
    refine .seq ?_
    refine .region ?_
    refine RunO.join 20 36 ((!y.c.over) && decide (r.of = none ∨ r.of = some k)) ?_ ?_
    · refine .rd (.move rfl) ?_
      refine .rd (.nilCheck rfl) ?_
      refine .rd (.fieldAddr fd65_6 rfl) ?_
      refine .rd (.load na4 rfl (Knows.one (i := 6) (Knows.callx (.tail (.tail .head)) hym) rfl)) ?_
      refine .rd (.not rfl) ?_
      refine .rd (.move rfl) ?_
      refine .split (t := 22) rfl (fun g5 => ?_) (fun g5 => ?_)
      · refine .on (t := 22) rfl rfl ?_
        refine .rd (.move rfl) ?_
        refine .on (t := 22) rfl rfl ?_
        refine .rd (.nilCheck rfl) ?_
        refine .on (t := 22) rfl rfl ?_
        refine .rd (.fieldAddr fd71_4 rfl) ?_
        refine .on (t := 22) rfl rfl ?_
        refine .rd (.ld na62 rfl (.tail .head) rfl) ?_
        refine .on (t := 22) rfl rfl ?_
        refine .rd (.eqNilP Try.underlying62 rfl rfl) ?_
        refine .alter (t := 27) (v' := .bool r.of.isNone) rfl (by rw [← ofAt_none hof]; cases q <;> rfl) ?_
        refine .on (t := 22) rfl rfl ?_
        refine .rd (.move rfl) ?_
        refine .split (t := 28) rfl (fun g11 => ?_) (fun g11 => ?_)
        · refine .off (t := 28) rfl rfl rfl ?_
          refine .off (t := 28) rfl rfl rfl ?_
          refine .off (t := 28) rfl rfl rfl ?_
          refine .off (t := 28) rfl rfl rfl ?_
          refine .off (t := 28) rfl rfl rfl ?_
          refine .off (t := 28) rfl rfl rfl ?_
          refine .on (t := 22) rfl rfl ?_
          refine .rd (.pickT rfl rfl) ?_
          refine .rd (.pickT rfl rfl) ?_
          refine .nil ⟨rfl, ?_, by repeat (first | exact Le.refl _ | refine Le.skip rfl ?_)⟩
          exact congrArg (fun x => some (Value.bool x)) (by rw [show (!y.c.over) = true from g5, Bool.true_and]; exact (decide_eq_true (.inl (Option.isNone_iff_eq_none.1 g11))).symm)
        · obtain ⟨i, yi, hri, hyi, hqi⟩ : ∃ i yi, r.of = some i ∧ cl'[i]? = some yi ∧ q = some yi.a := by
            have h2 := hI.2.1.ofAt hof
            cases hro : r.of with
            | none => rw [hro] at g11; cases g11
            | some i => rw [hro] at h2; obtain ⟨z, h3, h4⟩ := h2; exact ⟨i, z, rfl, h3, h4⟩
          refine .on (t := 28) rfl rfl ?_
          refine .rd (.move rfl) ?_
          refine .on (t := 28) rfl rfl ?_
          refine .rd (.nilCheck rfl) ?_
          refine .on (t := 28) rfl rfl ?_
          refine .rd (.fieldAddr fd71_4 rfl) ?_
          refine .on (t := 28) rfl rfl ?_
          refine .rd (.ld na62 rfl (.tail .head) rfl) ?_
          refine .on (t := 28) rfl rfl ?_
          refine .rd (.move rfl) ?_
          refine .on (t := 28) rfl rfl ?_
          refine .rd (.eqCall Try.underlying62 ti65 (by decide) hyi hy hI.2.2.1.nodup (.tail (.tail .head)) (by show some (Value.pointer (q.map fun a => (⟨a, 0, none⟩ : Addr))) = _; rw [hqi]; rfl) rfl) ?_
          refine .on (t := 22) rfl rfl ?_
          refine .rd (.pickF rfl rfl) ?_
          refine .rd (.pickT rfl rfl) ?_
          refine .nil ⟨rfl, ?_, by repeat (first | exact Le.refl _ | refine Le.skip rfl ?_)⟩
          exact congrArg (fun x => some (Value.bool x)) (by rw [show (!y.c.over) = true from g5, Bool.true_and]; exact decide_eq_decide.2 (by rw [hri]; simp))
      · refine .off (t := 22) rfl rfl rfl ?_
        refine .off (t := 22) rfl rfl rfl ?_
        refine .off (t := 22) rfl rfl rfl ?_
        refine .off (t := 22) rfl rfl rfl ?_
        refine .off (t := 22) rfl rfl rfl ?_
        refine .offU (t := 22) rfl rfl rfl rfl ?_
        refine .offX (t := 28) rfl rfl rfl ?_
        refine .offX (t := 28) rfl rfl rfl ?_
        refine .offX (t := 28) rfl rfl rfl ?_
        refine .offX (t := 28) rfl rfl rfl ?_
        refine .offX (t := 28) rfl rfl rfl ?_
        refine .offX (t := 28) rfl rfl rfl ?_
        refine .off (t := 22) rfl rfl rfl ?_
        refine .rd (.pickF rfl rfl) ?_
        refine .nil ⟨rfl, ?_, by repeat (first | exact Le.refl _ | refine Le.skip rfl ?_)⟩
        exact congrArg (fun x => some (Value.bool x)) (by rw [show (!y.c.over) = false from g5, Bool.false_and])
    refine .nil ?_
    refine .cond rfl (fun h3 => ?_) (fun h3 => ?_)
    · have hcond : (callAt (endsGo r.of err k s) k).over = false ∧ (r.of = none ∨ r.of = some k) := by rw [hca]; simpa using h3
      have hgo : (endsGo r.of err (k + 1) s) = endS (endsGo r.of err k s) k err 0 := by rw [endsGo, if_pos hcond]
      refine .takeBag (x := y) (m := cl'.eraseIdx k) (.tail (.tail .head)) (perm_out hy) ?_
      refine .region ?_
      refine .rd (.move rfl) ?_
      refine .rd (.move rfl) ?_
      refine .rd (.move rfl) ?_
      refine .fn rfl rfl (.cons (.tail (.tail .head)) (.cons .head (.cons (.tail (.tail (.tail .head))) (.cons (.tail (.tail (.tail .head))) .nil)))) (fun _ _ _ => trivial) (end_ok pb (endsGo r.of err k s) s ({ x with ea := ea, ec := ec }) x oa on oc cl' k y err 0 hI.2.2.1 hy (by omega) (by omega)) (fun v G1 hq => ?_)
      obtain ⟨ea2, ec2, rfl⟩ := hq
      simp only [List.cons_append, List.nil_append]
      refine .nil ?_
      refine .close (X := bag CB (cl'.set k y.over)) (B := [CB y.over, bag CB (cl'.eraseIdx k)]) (.cons (.tail .head) (.cons (.tail (.tail (.tail .head))) .nil)) (fun _ H => bag.put (perm_in hy) H) ?_
      refine .perm (.cons (.tail .head) (.cons .head (.cons .head (.cons .head (.cons .head (.cons .head (.cons .head .nil))))))) ?_
      refine .cast (X' := blk pb (PS.cells (endsGo r.of err (k + 1) s) { x with ea := ea2, ec := ec2 } oa on oc) 60) (by rw [hgo]) ?_
      refine .perm (.cons (.tail (.tail .head)) (.cons .head (.cons .head (.cons .head (.cons .head (.cons .head (.cons .head .nil))))))) ?_
      refine .cast (X' := arr 47 12 ea2 ec2 ((endsGo r.of err (k + 1) s).ended.flatMap Seen.cells)) (by rw [hgo]) ?_
      refine .knowMono (KN s x (cl'.set k y.over)) (.tail (.tail (.tail .head))) (fun w h => SameX.kn (SameX.set (z := y.over) (.refl cl') hy rfl) h) ?_
      have hPW : PW (endsGo r.of err (k + 1) s) (cl'.set k y.over) := by rw [hgo]; exact hI.2.2.1.set (z := y.over) hy rfl _ (by show (endsGo r.of err k s).calls.set k _ = _; rw [hca]; rfl)
      have hbd : -2000 ≤ (endsGo r.of err (k + 1) s).open_ + ((k + 1 : Nat) : Int) ∧ (endsGo r.of err (k + 1) s).open_ ≤ 2000 ∧ (endsGo r.of err (k + 1) s).ended.length ≤ 20000 + (k + 1) := by rw [hgo]; unfold endS; dsimp only; rw [List.length_append]; show _ ∧ _ ∧ _ + 1 ≤ _; omega
      refine .inBlock ?_
      refine .region ?_
      refine .rd (.add rfl rfl (by omega) (by omega)) ?_
      refine .rd (.move rfl) ?_
      refine .nil ?_
      exact (ih (k + 1, cl'.set k y.over, ea2, ec2) ⟨by show k + 1 ≤ _; omega, hI.2.1.set hy rfl, hPW, hbd⟩ (by show s.calls.length - (k + 1) < s.calls.length - k; omega)).to (.cons rfl (.cons rfl (.cons rfl (.cons rfl (.cons rfl (.cons rfl .nil)))))) (.cons (.tail (.tail .head)) (.cons (.tail (.tail (.tail .head))) (.cons (.tail (.tail .head)) (.cons (.tail (.tail .head)) (.cons (.tail .head) (.cons .head (.cons .head .nil)))))))
    · have hgo : (endsGo r.of err (k + 1) s) = (endsGo r.of err k s) := by rw [endsGo, if_neg]; rw [hca]; intro hc; simp [hc.1] at h3; rcases hc.2 with h | h; exact h3.1 h; exact h3.2 h
      have hbd : -2000 ≤ (endsGo r.of err (k + 1) s).open_ + ((k + 1 : Nat) : Int) ∧ (endsGo r.of err (k + 1) s).open_ ≤ 2000 ∧ (endsGo r.of err (k + 1) s).ended.length ≤ 20000 + (k + 1) := by rw [hgo]; omega
      refine .cast (X' := blk pb (PS.cells (endsGo r.of err (k + 1) s) { x with ea := ea, ec := ec } oa on oc) 60) (by rw [hgo]) ?_
      refine .perm (.cons (.tail (.tail (.tail (.tail .head)))) (.cons .head (.cons .head (.cons .head (.cons .head (.cons .head (.cons .head .nil))))))) ?_
      refine .cast (X' := arr 47 12 ea ec ((endsGo r.of err (k + 1) s).ended.flatMap Seen.cells)) (by rw [hgo]) ?_
      refine .skip ?_
      refine .inBlock ?_
      refine .region ?_
      refine .rd (.add rfl rfl (by omega) (by omega)) ?_
      refine .rd (.move rfl) ?_
      refine .nil ?_
      exact (ih (k + 1, cl', ea, ec) ⟨by show k + 1 ≤ _; omega, hI.2.1, (by rw [hgo]; exact hI.2.2.1), hbd⟩ (by show s.calls.length - (k + 1) < s.calls.length - k; omega)).to (.cons rfl (.cons rfl (.cons rfl (.cons rfl (.cons rfl (.cons rfl .nil)))))) (.cons (.tail .head) (.cons (.tail .head) (.cons (.tail .head) (.cons (.tail .head) (.cons .head (.cons .head (.cons .head .nil)))))))
  · refine .exit rfl ?_
    obtain rfl : k = s.calls.length := by omega
    refine .endP Try.func22 .nil (.cons .head (.cons .head (.cons .head (.cons .head (.cons .head (.cons .head (.cons .head .nil))))))) ?_
    exact ⟨[_, _, _, _, _, _], ⟨cl', ea, ec, hI.2.1, hI.2.2.1, rfl⟩, rfl⟩

end Go.Proofs.Ytlcglmimndkleaa

