/- Part 1 of a claim's texts: rules for the machine's steps, and steps through functions of the program, under the conditions that each theorem states. -/
import Derived.WideKeyEntry
import Derived.ChangeKeysEq
import Derived.Lib.UnsafeStr
import Derived.Lib.Builder
import Derived.LaidEqlPtr
import Derived.Below
import Derived.Test.YtankogdnhgmkhaaDoorProg
import Derived.KernelRfl
import Derived.Test.YtankogdnhgmkhaaDoorRows
import Derived.Lib.SplitLaws
import Derived.Deep.Draws
import Derived.Lib.AtoiErrMem
import Derived.Lib.AtoiAllCases
import Derived.Test.YtankogdnhgmkhaaDoorEnds0
set_option linter.unusedVariables false
/- A separation logic over the given machine. Part 16: entries of maps; guards of drawn regions that were themselves not let; bags. -/
namespace Go.Sp
open Go

section
variable {P : Program} {N : Nat} {ops : Array Oper} {E : Env} {Γ ΓS : List SProp} {K : Env → List SProp → Prop} {fuel : Nat} {listed : Array Bool} {L : List Nat}

/-- Not let; its slot is known to hold nothing. -/
theorem RunD.offU (i : Nat) {d op ty pos after} {g : Nat} {b c : Bool} {t : Nat} (ho : ops[i]? = some ⟨some d, op, ty, pos, after, some (g, b)⟩) (hg : gslot ops g = some t) (he : lk E t = some (.bool c)) (hne : (c == b) = false)
    (hs : Region.noSelect ops = true) (hfr : Region.free .any ops listed i = true)
    (hr : (Region.ready .any ops listed).contains i = true)
    (next : RunD P N ops L ΓS fuel (listed.setIfInBounds i true) ((d, undef) :: E) Γ K) (hd : Nat.blt d N = true := by rfl) : RunD P N ops L ΓS (fuel + 1) listed E Γ K := by
  intro A F w a Z hZ hf hsat hz
  have hy := yielded_of hg hf he
  have hw : Region.wanted ⟨some d, op, ty, pos, after, some (g, b)⟩ (yielded ops a.tmps) = false := by
    simp [Region.wanted, hy]; intro e; subst e; simp at hne
  refine wpAnyL_pure ho (Region.noSelect_spec hs) (v := undef) (fun c a w h => absurd h (hZ _ _ _)) fuel listed a w (Region.free_spec ho hfr) (by simpa using hr) (.inr ⟨hw, rfl⟩) ?_
  exact next A F w _ Z hZ (hf.put hd undef) hsat hz

/-- Not let, because its guard's slot holds nothing. -/
theorem RunD.offX (i : Nat) {d op ty pos after} {g : Nat} {b : Bool} {t : Nat} (ho : ops[i]? = some ⟨some d, op, ty, pos, after, some (g, b)⟩) (hg : gslot ops g = some t) (he : lk E t = some undef)
    (hs : Region.noSelect ops = true) (hfr : Region.free .any ops listed i = true)
    (hr : (Region.ready .any ops listed).contains i = true)
    (next : RunD P N ops L ΓS fuel (listed.setIfInBounds i true) ((d, undef) :: E) Γ K) (hd : Nat.blt d N = true := by rfl) : RunD P N ops L ΓS (fuel + 1) listed E Γ K := by
  intro A F w a Z hZ hf hsat hz
  have hy : yielded ops a.tmps g ≠ some b := by
    unfold gslot at hg
    simp [yielded, hg, hf.look t _ he, undef]
  have hw : Region.wanted ⟨some d, op, ty, pos, after, some (g, b)⟩ (yielded ops a.tmps) = false := by
    simp only [Region.wanted]; exact beq_eq_false_iff_ne.2 hy
  refine wpAnyL_pure ho (Region.noSelect_spec hs) (v := undef) (fun c a w h => absurd h (hZ _ _ _)) fuel listed a w (Region.free_spec ho hfr) (by simpa using hr) (.inr ⟨hw, rfl⟩) ?_
  exact next A F w _ Z hZ (hf.put hd undef) hsat hz
end

/-! ### Entries of maps -/

/-- A map one's own, of which one entry is held by its stamp. -/
def mpe {κ ν : Type} [DecidableEq κ] (enc : κ → Value) (venc : ν → Value) (b : Nat) (l : List (κ × ν)) (q : κ) (s : Nat) : SProp := fun h =>
  ∃ es clock, h b = some (false, .map es clock) ∧ es.toList.map (fun e => (e.key, e.val)) = l.map (fun p => (enc p.1, venc p.2)) ∧ (l.map (·.1)).Nodup ∧
    (es.toList.map (·.born)).Nodup ∧ (∀ e ∈ es.toList, e.born < clock) ∧ ∃ i : Nat, (es.toList.map (·.born))[i]? = some s ∧ (l.map (·.1))[i]? = some q

section
variable {κ ν : Type} [DecidableEq κ] {enc : κ → Value} {venc : ν → Value}

theorem Sat.mpe_own {A w b Γ} {l : List (κ × ν)} {q : κ} {s : Nat} (h : Sat A w (Sp.mpe enc venc b l q s :: Γ)) : ∃ es clock, w.heap[b]? = some (.map es clock) ∧ es.toList.map (fun e => (e.key, e.val)) = l.map (fun p => (enc p.1, venc p.2)) ∧ (l.map (·.1)).Nodup ∧
    (es.toList.map (·.born)).Nodup ∧ (∀ e ∈ es.toList, e.born < clock) ∧ (∃ i : Nat, (es.toList.map (·.born))[i]? = some s ∧ (l.map (·.1))[i]? = some q) ∧ Sat A w (Sp.own b (.map es clock) :: Γ) := by
  obtain ⟨a, h, f, h1, h2, ok, l1, l2, ⟨es, clock, e0, e1, e2, e3, e4, e5⟩, t⟩ := h
  exact ⟨es, clock, f b _ (l1 b _ e0), e1, e2, e3, e4, e5, a, h, f, h1, h2, ok, l1, l2, e0, t⟩

theorem Sat.mpe_of {A w b Γ} {l : List (κ × ν)} {q : κ} {s : Nat} {es : Array MapEntry} {clock : Nat} (h : Sat A w (Sp.own b (.map es clock) :: Γ)) (e1 : es.toList.map (fun e => (e.key, e.val)) = l.map (fun p => (enc p.1, venc p.2))) (e2 : (l.map (·.1)).Nodup)
    (e3 : (es.toList.map (·.born)).Nodup) (e4 : ∀ e ∈ es.toList, e.born < clock) (e5 : ∃ i : Nat, (es.toList.map (·.born))[i]? = some s ∧ (l.map (·.1))[i]? = some q) : Sat A w (Sp.mpe enc venc b l q s :: Γ) := by
  obtain ⟨a, h, f, h1, h2, ok, l1, l2, e0, t⟩ := h
  exact ⟨a, h, f, h1, h2, ok, l1, l2, ⟨es, clock, e0, e1, e2, e3, e4, e5⟩, t⟩

theorem modify_list {es : Array MapEntry} {i : Nat} {en : MapEntry} (f : MapEntry → MapEntry) (hen : es[i]? = some en) : (es.modify i f).toList = es.toList.set i (f en) := by
  have hi' : i < es.toList.length := by
    have := (Array.getElem?_eq_some_iff.1 hen).1
    simpa using this
  apply List.ext_getElem?
  intro j
  rw [Array.getElem?_toList, Array.getElem?_modify, List.getElem?_set]
  by_cases hji : i = j
  · subst hji; simp [hen]; simpa using hi'
  · simp [hji]

theorem set_same {α : Type} {l : List α} {i : Nat} {x : α} (h : l[i]? = some x) : l.set i x = l := by
  apply List.ext_getElem?
  intro j
  rw [List.getElem?_set]
  by_cases hji : i = j
  · subst hji
    obtain ⟨hlt, h2⟩ := List.getElem?_eq_some_iff.1 h
    simp [hlt, h2]
  · simp [hji]

theorem findIdx_nodup {q : κ} : ∀ {ks : List κ} {i : Nat}, ks.Nodup → ks[i]? = some q → (ks.findIdx? fun y => decide (q = y)) = some i
  | [], _, _, h => by simp at h
  | k :: ks, 0, _, h => by simp at h; subst h; simp [List.findIdx?_cons]
  | k :: ks, i + 1, hn, h => by
    simp only [List.nodup_cons] at hn
    simp only [List.getElem?_cons_succ] at h
    have hne : q ≠ k := fun e => hn.1 (e ▸ List.mem_of_getElem? h)
    rw [List.findIdx?_cons]
    simp [hne, findIdx_nodup hn.2 h]

variable {P : Program} {N : Nat} {E : Env} {Γ Γ' : List SProp} {dst : Option Tmp} {ty : TypeId} {pos : String} {after : Array Edge} {guard : Option (Nat × Bool)}

/-- The entry of a key, which is made if there is none. -/
theorem Eff.mapEntry {t k e x ix b} {z : Value} {z0 : ν} {l : List (κ × ν)} {q : κ} (K : KL P k enc) (hu : P.underlying t = some (.map k e)) (hz : ∀ w, (zeroValue e).run P w = .ok z w) (hzv : z = venc z0)
    (hx : ev E x = some (.map (some b))) (hi : ev E ix = some (enc q)) (p : Pick (mp enc venc b l) Γ Γ') :
    Eff P N E Γ ⟨dst, .mapEntry t x ix, ty, pos, after, guard⟩ fun v Γ'' => ∃ s : Nat, v = .tuple #[venc ((mget l q).getD z0), .int .i64 (s : Int)] ∧ Γ'' = mpe enc venc b (mset l q ((mget l q).getD z0)) q s :: Γ' := by
  subst hzv
  intro A F w a nx Z hf hsat hn
  obtain ⟨es, clock, hh, e1, e2, e3, e4, hs⟩ := (hsat.map fun _ => (p.app F).sat).mp_own
  have hfnd := K.find q es.toList (l.map (·.1)) (keys_of e1) w
  have hg : (getObj b).run P w = .ok (.map es clock) w := by simp [getObj, Sem.run, hh]
  have hlen : es.toList.length = l.length := by simpa using congrArg List.length e1
  have hmg := findIdx_keys l q
  unfold Oper.wp
  cases hj : (l.map (·.1)).findIdx? fun y => decide (q = y) with
  | none =>
    obtain ⟨r1, s1⟩ := Sat.setObj (P := P) (o' := .map (es.push { key := enc q, val := venc z0, born := clock }) (clock + 1)) hs (by simp)
    simp only [hj, Option.bind_none] at hfnd hmg
    simp [execOp, hf.eval hx, hf.eval hi, Instr.mapEntry, underlying, hu, hg, K.check, hfnd, r1, hz, Oper.upon, goInt]
    refine hn _ _ _ ⟨clock, by rw [← hmg]; rfl, rfl⟩ (Sat.mpe_of s1 ?_ (mset_nodup e2 _ _) ?_ ?_ ?_)
    · rw [mset_new hj, ← hmg]; simp [e1]
    · simp only [Array.toList_push, List.map_append, List.map_cons, List.map_nil]
      rw [List.nodup_append]
      refine ⟨e3, by simp, fun x hx y hy e => ?_⟩
      simp at hy; subst hy e
      obtain ⟨en, hen, he⟩ := List.mem_map.1 hx
      have := e4 en hen
      omega
    · intro en hen
      simp at hen
      rcases hen with hen | rfl
      · have := e4 en (by simpa using hen); omega
      · simp
    · refine ⟨l.length, ?_, ?_⟩
      · simp only [Array.toList_push, List.map_append, List.map_cons, List.map_nil]
        have hsz : es.size = l.length := by simpa using hlen
        rw [List.getElem?_append_right (by simp; omega)]
        simp [hsz]
      · rw [mset_new hj]; simp
  | some i =>
    obtain ⟨hlt, hq, hset⟩ := mset_found (v := (mget l q).getD z0) e2 hj
    obtain ⟨pr, hpr⟩ : ∃ pr, l[i]? = some pr := ⟨_, List.getElem?_eq_getElem hlt⟩
    simp only [hj, Option.bind_some, hpr, Option.map_some] at hmg hq
    cases hq
    have hval : ∃ en, es[i]? = some en := by
      have : i < es.size := by have : i < es.toList.length := by omega
                               simpa using this
      exact ⟨_, Array.getElem?_eq_getElem this⟩
    obtain ⟨en, hen⟩ := hval
    have he1 : en.key = enc pr.1 ∧ en.val = venc pr.2 := by
      have := congrArg (fun l => l[i]?) e1
      simp only [List.getElem?_map, Array.getElem?_toList, hen, hpr, Option.map_some, Option.some.injEq, Prod.mk.injEq] at this
      exact this
    simp only [hj, Option.bind_some, Array.getElem?_toList, hen, Option.map_some] at hfnd
    obtain ⟨r1, s1⟩ := Sat.setObj (P := P) (o' := .map (es.modify i fun e => { e with key := enc pr.1 }) clock) hs (by simp)
    simp [execOp, hf.eval hx, hf.eval hi, Instr.mapEntry, underlying, hu, hg, K.check, hfnd, hen, he1, K.stays, r1, Oper.upon, goInt]
    have hmod : (es.modify i fun e => { e with key := enc pr.1 }).toList = es.toList := by
      rw [modify_list _ hen]
      have : ({ en with key := enc pr.1 } : MapEntry) = en := by cases en; simp at he1; simp [he1]
      rw [this]
      exact set_same (by rw [Array.getElem?_toList]; exact hen)
    have hsame : mset l pr.1 ((mget l pr.1).getD z0) = l := by
      rw [hset, ← hmg]; exact set_same (by rw [hpr]; rfl)
    refine hn _ _ _ ⟨en.born, by rw [← hmg]; rfl, rfl⟩ ?_
    rw [hsame]
    refine Sat.mpe_of s1 (by rw [hmod, e1]) e2 (by rw [hmod]; exact e3) (by rw [hmod]; exact e4) ⟨i, ?_, ?_⟩
    · rw [hmod, List.getElem?_map, Array.getElem?_toList, hen]; rfl
    · rw [List.getElem?_map, hpr]; rfl

/-- .. is given a value. -/
theorem Eff.entryStore {t x st y b} {l : List (κ × ν)} {q : κ} {s : Nat} {u : ν} (hx : ev E x = some (.map (some b))) (hi : ev E st = some (.int .i64 (s : Int))) (hy : ev E y = some (venc u)) (p : Pick (mpe enc venc b l q s) Γ Γ') :
    Eff P N E Γ ⟨dst, .entryStore t x st y, ty, pos, after, guard⟩ fun _ Γ'' => Γ'' = mp enc venc b (mset l q u) :: Γ' := by
  intro A F w a nx Z hf hsat hn
  obtain ⟨es, clock, hh, e1, e2, e3, e4, ⟨i, hb, hk⟩, hs⟩ := (hsat.map fun _ => (p.app F).sat).mpe_own
  have hg : (getObj b).run P w = .ok (.map es clock) w := by simp [getObj, Sem.run, hh]
  obtain ⟨hlt, hq, hset⟩ := mset_found (v := u) e2 (findIdx_nodup e2 hk)
  obtain ⟨pr, hpr⟩ : ∃ pr, l[i]? = some pr := ⟨_, List.getElem?_eq_getElem hlt⟩
  simp only [hpr, Option.map_some] at hq
  cases hq
  rw [List.getElem?_map, Option.map_eq_some_iff] at hb
  obtain ⟨en, hen', hborn⟩ := hb
  have hen : es[i]? = some en := by rw [← Array.getElem?_toList]; exact hen'
  have he1 : en.key = enc pr.1 ∧ en.val = venc pr.2 := by
    have := congrArg (fun l => l[i]?) e1
    simp only [List.getElem?_map, Array.getElem?_toList, hen, hpr, Option.map_some, Option.some.injEq, Prod.mk.injEq] at this
    exact this
  have hidx : (es.findIdx? fun e => (e.born : Int) == (s : Int)) = some i := by
    rw [WideElems.findIdx_arr, ← hborn]
    exact WideElems.findIdx_born e3 hen'
  unfold Oper.wp
  obtain ⟨r1, s1⟩ := Sat.setObj (P := P) (o' := .map (es.modify i fun e => { e with val := venc u }) clock) hs (by simp)
  simp [execOp, hf.eval hx, hf.eval hi, hf.eval hy, Instr.entryStore, hg, asInt, asIntOf, hidx, r1, Oper.upon]
  have hmod : (es.modify i fun e => { e with val := venc u }).toList = es.toList.set i { en with val := venc u } := modify_list _ hen
  refine hn _ _ _ rfl (Sat.mp_of s1 ?_ (mset_nodup e2 _ _) ?_ ?_)
  · rw [hset, hmod, List.map_set, List.map_set, e1, he1.1]
  · rw [hmod, List.map_set]
    have : (es.toList.map (·.born)).set i en.born = es.toList.map (·.born) := set_same (by rw [List.getElem?_map, hen']; rfl)
    simp only [this]; exact e3
  · intro x hx
    rw [hmod] at hx
    rcases List.mem_or_eq_of_mem_set hx with hx | rfl
    · exact e4 x hx
    · exact e4 en (List.mem_of_getElem? hen')
end
end Go.Sp

/- A separation logic over the given machine. Part 17: kinds of keys; bags. -/
namespace Go.Sp
open Go

section
variable {P : Program}

/-- Keys that are another kind's, said otherwise. -/
theorem KL.comap {k : TypeId} {κ κ' : Type} [DecidableEq κ] [DecidableEq κ'] {enc : κ → Value} (f : κ' → κ) (hf : ∀ x y, f x = f y → x = y) (K : KL P k enc) : KL P k (fun x => enc (f x)) where
  inj x y e := hf _ _ (K.inj _ _ e)
  check em x w := K.check em (f x) w
  find x es ks hk w := by
    have := K.find (f x) es (ks.map f) (by rw [hk, List.map_map]; rfl) w
    rw [this]
    congr 2
    rw [List.findIdx?_map]
    congr 1
    funext y
    exact decide_eq_decide.2 ⟨fun h => hf _ _ h, fun h => by rw [h]⟩
  stays x w := K.stays (f x) w

def encT (x : Int × Int × Int) : Array Value := #[.int .i64 x.1, .int .i64 x.2.1, .int .i64 x.2.2]
theorem encT_inj (x y : Int × Int × Int) (h : encT x = encT y) : x = y := by
  obtain ⟨a, b, c⟩ := x; obtain ⟨d, e, f⟩ := y
  simp [encT] at h ⊢
  exact h
theorem partT {e : TypeId} (hn : NotAgg P e) (x : Int × Int × Int) {i : Nat} {v : Value} (h : (encT x)[i]? = some v) (w : World) : (part e (encT x) i).run P w = .ok v w := part1 hn h w
theorem partsT {e : TypeId} (hn : NotAgg P e) (x : Int × Int × Int) (w : World) : (part e (encT x) (0 * 1)).run P w = .ok (.int .i64 x.1) w ∧ (part e (encT x) (1 * 1)).run P w = .ok (.int .i64 x.2.1) w ∧ (part e (encT x) (2 * 1)).run P w = .ok (.int .i64 x.2.2) w :=
  ⟨partT hn x rfl w, partT hn x rfl w, partT hn x rfl w⟩
/-- Keys of three ints. -/
theorem KL.three {k e : TypeId} {i : TypeInfo} (hu : P.underlying k = some (.array 3 e)) (he : P.underlying e = some (.int .i64)) (hi : P.info? e = some i) (hc : P.cellsOf e = 1) : KL P k (fun x => .agg (encT x)) where
  inj x y h := encT_inj x y (by simpa using h)
  check em x w := by
    have hn : NotAgg P e := ⟨_, he, trivial⟩
    have hs : ∀ w, (sizeOf e).run P w = .ok 1 w := fun w => by rw [← hc]; exact run_sizeOf w hi
    have key : ∀ n, (Instr.checkKey em (n + 2) k (.agg (encT x))).run P w = .ok () w := fun n => by
      have c1 : ∀ (v : Int), (Instr.checkKey em (n + 1) e (.int .i64 v)).run P w = .ok () w := fun v => CkV.int he em n w
      rw [Instr.checkKey.eq_def]
      simp only [underlying, Sem.run_bind, run_program, Result.andThen_ok, hu, Sem.run_pure]
      simp only [Std.Legacy.Range.forIn_eq_forIn_range', Std.Legacy.Range.size, Nat.sub_zero, Nat.add_one_sub_one, Nat.div_one]
      rw [show List.range' 0 3 = [0, 1, 2] from rfl]
      simp only [List.forIn_cons, List.forIn_nil, Sem.run_bind, hs, Result.andThen_ok, (partsT hn x w).1, (partsT hn x w).2.1, (partsT hn x w).2.2, c1, Sem.run_pure]
    exact key 9998
  find x es ks hk w := by
    have hn : NotAgg P e := ⟨_, he, trivial⟩
    have heq : ∀ x y w, (Op.equal k (.agg (encT x)) (.agg (encT y))).run P w = .ok (decide (x = y)) w := fun x y w => by
      have := run_equalIn_array (P := P) w 9999 (encT x) (encT y) hu hi
      have h2 : (Op.equal k (.agg (encT x)) (.agg (encT y))).run P w = (Op.equalIn (9999 + 1) k (.agg (encT x)) (.agg (encT y))).run P w := rfl
      rw [h2, this, hc, show List.range 3 = [0, 1, 2] from rfl]
      have ei : ∀ a b : Int, (Op.equalIn 9999 e (.int .i64 a) (.int .i64 b)).run P w = .ok (a == b) w := fun a b => equalIn_int he 9998 w
      simp only [Op.eqItems, Sem.run_bind, (partsT hn x w).1, (partsT hn y w).1, Result.andThen_ok, ei]
      have q1 : ∀ x, (part e (encT x) 1).run P w = .ok (.int .i64 x.2.1) w := fun x => partT hn x rfl w
      have q2 : ∀ x, (part e (encT x) 2).run P w = .ok (.int .i64 x.2.2) w := fun x => partT hn x rfl w
      obtain ⟨a, b, c⟩ := x; obtain ⟨d, f, g⟩ := y
      by_cases h1 : a = d <;> by_cases h2 : b = f <;> by_cases h3 : c = g <;> simp [h1, h2, h3, q1, q2, ei]
    cases es with
    | nil =>
      cases ks with
      | nil => simp [Instr.findKey, underlying, hu, Instr.findNow]
      | cons _ _ => simp at hk
    | cons e1 es =>
      cases ks with
      | nil => simp at hk
      | cons y ks =>
        have hn : Instr.findNow (.array 3 e) (.agg (encT x)) (e1 :: es) 0 = none := by simp [Instr.findNow, Instr.sameNow]
        simp only [Instr.findKey, underlying, Sem.run_bind, run_program, Result.andThen_ok, hu, Sem.run_pure, hn]
        rw [findAsking_spec heq x w (e1 :: es) (y :: ks) 0 hk]
        simp
  stays x w := by
    have : Instr.sameBits (9999 + 1) (.agg (encT x)) (.agg (encT x)) = true := by simp [Instr.sameBits, encT]
    simp [Instr.keyThatStays, this]
end

/-! ### Bags -/

/-- One resource for each of a list. -/
def bag {α : Type} (f : α → SProp) (l : List α) : SProp := fun h => sat (l.map f) h

theorem sat.one {Γ : List SProp} {h : Hp} (s : sat Γ h) : sat [fun k => sat Γ k] h :=
  ⟨h, fun _ => none, fun _ => .inr (.inl rfl), .refl _, fun _ _ e => by simp at e, s, trivial⟩
theorem sat.one' {X : SProp} {h : Hp} (s : sat [X] h) (hm : ∀ {h k : Hp}, Hp.le h k → X h → X k) : X h := by
  obtain ⟨h1, h2, _, l1, _, x, _⟩ := s
  exact hm l1 x
theorem sat.perm {As Bs : List SProp} (p : As.Perm Bs) : ∀ {h}, sat As h → sat Bs h := by
  induction p with
  | nil => exact fun s => s
  | cons x _ ih => exact fun s => sat.cons (fun _ => ih) s
  | swap x y l => exact fun s => s.swap
  | trans _ _ i1 i2 => exact fun s => i2 (i1 s)

theorem bag.nil {α : Type} {f : α → SProp} {h : Hp} : bag f [] h := trivial
theorem bag.perm {α : Type} {f : α → SProp} {l m : List α} (p : l.Perm m) {h : Hp} (s : bag f l h) : bag f m h := sat.perm (p.map f) s
/-- One of them by itself, and the rest. -/
theorem bag.take {α : Type} {f : α → SProp} {l m : List α} {x : α} (p : l.Perm (x :: m)) {h : Hp} (s : bag f l h) : sat [f x, bag f m] h := by
  have := bag.perm p s
  exact sat.cons (fun _ s => sat.one s) this
theorem bag.put {α : Type} {f : α → SProp} {l m : List α} {x : α} (p : (x :: m).Perm l) {h : Hp} (s : sat [f x, bag f m] h) : bag f l h := by
  refine bag.perm p ?_
  obtain ⟨h1, h2, ok, l1, l2, hx, hb⟩ := s
  obtain ⟨k1, _, _, m1, _, hb', _⟩ := hb
  exact ⟨h1, h2, ok, l1, l2, hx, sat.mono m1 hb'⟩

section
variable {P : Program} {N : Nat} {ops : Array Oper} {os : List Oper} {E : Env} {Γ Γ' : List SProp} {K : Env → List SProp → Prop} {C : Cx} {k : List Item} {Q : Value → List SProp → Prop}
theorem RunO.takeBag {α : Type} {f : α → SProp} {l m : List α} {x : α} (p : Pick (bag f l) Γ Γ') (hp : l.Perm (x :: m)) (next : RunO P N ops os E (f x :: bag f m :: Γ') K) : RunO P N ops os E Γ K :=
  RunO.open_ (σ := Unit) (φ := fun _ => True) (B := fun _ => [f x, bag f m]) p (fun _ h => ⟨(), trivial, bag.take hp h⟩) fun _ _ => next
theorem Run.takeBag {α : Type} {f : α → SProp} {l m : List α} {x : α} (p : Pick (bag f l) Γ Γ') (hp : l.Perm (x :: m)) (next : Run C k E (f x :: bag f m :: Γ') Q) : Run C k E Γ Q :=
  Run.open_ (σ := Unit) (φ := fun _ => True) (B := fun _ => [f x, bag f m]) p (fun _ h => ⟨(), trivial, bag.take hp h⟩) fun _ _ => next
theorem Knows.bag {α : Type} {f : α → SProp} {l : List α} {x : α} (p : Pick (Sp.bag f l) Γ Γ') (hx : x ∈ l) {φ : World → Prop} (hk : Knows [f x] φ) : Knows Γ φ := fun A w s => by
  obtain ⟨m, hm⟩ : ∃ m, l.Perm (x :: m) := by
    obtain ⟨a, b, rfl⟩ := List.append_of_mem hx
    exact ⟨a ++ b, List.perm_middle⟩
  have h1 := s.map fun _ => p.sat
  have h2 := Sat.open_ (σ := Unit) (φ := fun _ => True) (B := fun _ => [f x, Sp.bag f m]) (fun _ h => ⟨(), trivial, bag.take hm h⟩) h1
  obtain ⟨_, _, h3⟩ := h2
  exact hk A w (Sat.left (Γ := [f x]) h3)
end
end Go.Sp

/- A separation logic over the given machine. Part 18: where ways come together again. -/
namespace Go.Sp
open Go

section
variable {P : Program} {N : Nat} {ops : Array Oper} {E : Env} {Γ ΓS : List SProp} {K : Env → List SProp → Prop} {fuel : Nat} {listed : Array Bool} {L : List Nat}
theorem RunD.mono {K1 : Env → List SProp → Prop} (h : RunD P N ops L ΓS fuel listed E Γ K1) (hk : ∀ E' Γ', K1 E' Γ' → K E' Γ') : RunD P N ops L ΓS fuel listed E Γ K :=
  fun A F w a Z hZ hf hs hz => h A F w a Z hZ hf hs fun E' Γ' w' a' k => hz E' Γ' w' a' (hk E' Γ' k)

/-- A piece of code whose ways all come to the same rest. -/
theorem Run.joinAt {C : Cx} {k : List Item} {c : Code} {Q : Value → List SProp → Prop} {E' : Env} {Γ' : List SProp} (tail : Run C k E' Γ' Q)
    (next : (∀ {E1 : Env} {Γ1 Δ : List SProp}, Le E' E1 → Picks Γ' Γ1 Δ → Run C k E1 Γ1 Q) → Run C (.code c :: k) E Γ Q) : Run C (.code c :: k) E Γ Q :=
  next fun l p => tail.to l p

/-- A region that draws and comes to one truth value in one slot. -/
theorem Run.drawsJoin {C : Cx} {k id} {Q : Value → List SProp → Prop} (L : List Nat) (ΓS : List SProp) (t : Nat) (b : Bool) (hm : C.P.follows .mixedOrders = true)
    (h : RunD C.P C.fn.ntmps ops L ΓS ops.size (Array.replicate ops.size false) E Γ fun E' Γ' => Γ' = Γ ∧ lk E' t = some (.bool b) ∧ Le E E')
    (n : Run C k ((t, .bool b) :: E) Γ Q) : Run C (.code (.region id ops true) :: k) E Γ Q :=
  Run.draws L ΓS hm (h.mono fun E' Γ' ⟨e, hl, le⟩ => by subst e; exact n.weak (Le.cons hl le))
end
/-- m[k], of a map of which one entry is held. -/
theorem Reads.lookupE {P : Program} {N : Nat} {E : Env} {Γ Γ' : List SProp} {dst : Option Tmp} {ty : TypeId} {pos : String} {after : Array Edge} {guard : Option (Nat × Bool)} {κ ν : Type} [DecidableEq κ] {enc : κ → Value} {venc : ν → Value}
    {t k e x ix b z} {l : List (κ × ν)} {q q' : κ} {s : Nat} (K : KL P k enc) (hu : P.underlying t = some (.map k e)) (hz : ∀ w, (zeroValue e).run P w = .ok z w) (hx : ev E x = some (.map (some b))) (hi : ev E ix = some (enc q)) (p : Pick (mpe enc venc b l q' s) Γ Γ') :
    Reads P N E Γ ⟨dst, .lookup t x ix false, ty, pos, after, guard⟩ (((mget l q).map venc).getD z) := fun A w a hf hs => by
  have h1 : Sat A w (mp enc venc b l :: Γ') := Sat.map (Γ := mpe enc venc b l q' s :: Γ') (fun h hh => by
    obtain ⟨h1, h2, ok, l1, l2, ⟨es, clock, e0, e1, e2, e3, e4, _⟩, r⟩ := hh
    exact ⟨h1, h2, ok, l1, l2, ⟨es, clock, e0, e1, e2, e3, e4⟩, r⟩) (hs.map fun _ => p.sat)
  exact Reads.lookup (N := N) K hu hz hx hi .head A w a hf h1
end Go.Sp

/- A separation logic over the given machine. Part 19: what strings.Builder does; arrays of pointers; slices of whole arrays. -/
namespace Go.Sp
open Go

section
variable {P : Program} {N : Nat} {E : Env} {Γ Γ' : List SProp} {dst : Option Tmp} {ty : TypeId} {pos : String} {after : Array Edge} {guard : Option (Nat × Bool)}

theorem shape_of {w : World} {b : Nat} {l : List Value} {e : TypeId} {fz : Nat × Nat} (h : w.heap[b]? = some (.cells l.toArray e fz)) : w.shape? b = some (e, l.length) := by
  simp [World.shape?, h]

/-- A pointer of one's own to unsafe.Pointer. -/
theorem Reads.toUnsafe {s d t e : TypeId} {n by_ : Nat} {z : Value} {xo : Operand} {b o : Nat} {l : List Value} (hs : P.underlying s = some (.pointer t)) (hd : P.underlying d = some .unsafePointer) (hi : TI P t n by_ z) (hn : n ≠ 0)
    (hx : ev E xo = some (.pointer (some ⟨b, o, none⟩))) (p : Pick (blk b l e) Γ Γ') (ho : o < l.length) :
    Reads P N E Γ ⟨dst, .convert s d xo, ty, pos, after, guard⟩ (.pointer (some ⟨b, o, none⟩)) := fun A w a hf hsat => by
  obtain ⟨_, fz, _, hh, _⟩ := (hsat.map fun _ => p.sat).blk
  obtain ⟨i, hinf, hsz, _, _⟩ := hi
  have := Go.Lib.run_to_unsafe (P := P) w ⟨b, o, none⟩ hs hd hinf (by omega) (shape_of hh) ho
  simp only [execOp, hf.eval hx]
  simp [this]

/-- .. and back. -/
theorem Reads.fromUnsafe {s d u e : TypeId} {n by_ : Nat} {z : Value} {xo : Operand} {b o : Nat} {l : List Value} (hs : P.underlying s = some .unsafePointer) (hd : P.underlying d = some (.pointer u)) (hi : TI P u n by_ z)
    (hx : ev E xo = some (.pointer (some ⟨b, o, none⟩))) (p : Pick (blk b l e) Γ Γ') (hl : liesAt P P.depth e (l.length / P.cellsOf e) o u 1 = true) :
    Reads P N E Γ ⟨dst, .convert s d xo, ty, pos, after, guard⟩ (.pointer (some ⟨b, o, none⟩)) := fun A w a hf hsat => by
  obtain ⟨_, fz, _, hh, _⟩ := (hsat.map fun _ => p.sat).blk
  obtain ⟨i, hinf, _, _, _⟩ := hi
  have := Go.Lib.run_from_unsafe (P := P) w ⟨b, o, none⟩ hs hd hinf (shape_of hh) hl
  simp only [execOp, hf.eval hx]
  simp [this]

/-- A function outside that gives back what it is given. -/
theorem Reads.same {fo : Operand} {args : Array Operand} {ts : Array TypeId} {f : FuncId} {fn : Func} {v : Value} (hfo : ev E fo = some (.func (.func f) #[] #[])) (ha : evs E args.toList = some [v]) (hf : P.funcs[f]? = some fn) (hname : (fn.name == "runtime.NumGoroutine") = false) (hb : fn.body.isNone = true)
    (hn : Extern.findNext fn = none) (he : Extern.find fn = some Extern.AbiNoEscape.same) : Reads P N E Γ ⟨dst, .call ⟨.value fo, args, ts⟩, ty, pos, after, guard⟩ v := fun A w a hfr _ => by
  have e1 : args.map a.eval = [v].toArray := by
    have := congrArg List.toArray (hfr.evals ha)
    rw [← this, ← Array.toList_map]
  have hname' : fn.name ≠ "runtime.NumGoroutine" := by simpa using hname
  have hb' : fn.body = none := by simpa using hb
  have hs : (Extern.AbiNoEscape.same [v].toArray).run P w = .ok v w := rfl
  simp [execOp, resolve, hfr.eval hfo, Deferred.ofValue, invoke, callFunc, hf, hname', hb', hn, he, e1]
  simp [hs]

theorem Reads.neqPSame {t x y t' te} {n by_ : Nat} {z : Value} {q : Addr} (hu : P.underlying t = some (.pointer te)) (hi : TI P te n by_ z) (hx : ev E x = some (.pointer (some q))) (hy : ev E y = some (.pointer (some q))) :
    Reads P N E Γ ⟨dst, .binOp .neq t x y t', ty, pos, after, guard⟩ (.bool false) := .bin hx hy (eqGuard_pointer P) fun w => by
  obtain ⟨i, hinf, _, _, _⟩ := hi
  exact Go.Lib.run_neq_ptr_same w q hu hinf

/-- unsafe.SliceData. -/
theorem Reads.sliceData {args : Array Operand} {ts : Array TypeId} {x : Operand} {a : Option Addr} {n c : Nat} (ha : args = #[x]) (hx : ev E x = some (.slice a n c)) (h : a = none ∨ c ≠ 0) :
    Reads P N E Γ ⟨dst, .call ⟨.builtin .unsafeSliceData, args, ts⟩, ty, pos, after, guard⟩ (.pointer a) := fun A w ac hf _ => by
  subst ha
  have : (Builtin.unsafeSliceData_ ts ty #[.slice a n c]).run P w = .ok (.pointer a) w := by
    cases a with
    | none => exact Go.Lib.run_unsafeSliceData_nil w ts ty n c
    | some q => exact Go.Lib.run_unsafeSliceData_row w ts ty q n c (by rcases h with h | h; cases h; exact h)
  simp [execOp, resolve, invoke, builtin, hf.eval hx, this]

theorem liesAt_bytes_off {e : TypeId} (hc : P.cellsOf e = 1) (count off n : Nat) (hn : off + n ≤ count) : liesAt P P.depth e count off e n = true := by
  have hd : P.depth = (2 * (P.types.size + Made.depth) + 1) + 1 := rfl
  rw [hd]
  simp only [liesAt, Bool.or_eq_true]
  left
  rw [hd]
  simp [rowAt, hc, hn, sameLayout, Nat.mod_one]

theorem bcs_at {l : List UInt8} {j : Nat} {x : UInt8} (h : l[j]? = some x) : (bcs l)[j]? = some (.int .u8 x.toNat) := by
  unfold bcs; rw [List.getElem?_map, h]; rfl

/-- unsafe.String of a row of bytes of one's own: the row is given up. -/
theorem Eff.unsafeString {args : Array Operand} {ts : Array TypeId} {pt it : TypeId} {x y : Operand} {e : TypeId} {a : Option Addr} {l : List UInt8} {cap : Nat} (ha : args = #[x, y]) (hts : ts = #[pt, it]) (hp : P.underlying pt = some (.pointer e)) (hc : P.cellsOf e = 1)
    (hx : ev E x = some (.pointer a)) (hy : ev E y = some (.int .i64 (l.length : Nat))) (p : Pick (arr e 1 a cap (bcs l)) Γ Γ') (h63 : l.length ≤ 9223372036854775807) :
    Eff P N E Γ ⟨dst, .call ⟨.builtin .unsafeString, args, ts⟩, ty, pos, after, guard⟩ fun v Γ'' => v = .string (str l) ∧ Γ'' = Γ' := by
  subst ha hts
  intro A F w ac nx Z hf hsat hn
  have hsat' : Sat A w (arr e 1 a cap (bcs l) :: (Γ' ++ F)) := hsat.map fun _ => (p.app F).sat
  have run_eq : ∀ v' w', (Builtin.unsafeString_ #[pt, it] ty #[.pointer a, .int .i64 (l.length : Nat)]).run P w = .ok v' w' → (execOp ac.eval ⟨dst, .call ⟨.builtin .unsafeString, #[x, y], #[pt, it]⟩, ty, pos, after, guard⟩).run P w = .ok (.value v') w' := fun v' w' h => by
    simp [execOp, resolve, invoke, builtin, hf.eval hx, hf.eval hy, h]
  unfold Oper.wp
  by_cases h0 : l = []
  · subst h0
    have hr : (Builtin.unsafeString_ #[pt, it] ty #[.pointer a, .int .i64 (([] : List UInt8).length : Nat)]).run P w = .ok (.string .empty) w := Go.Lib.run_unsafeString_none w pt it ty a
    rw [run_eq _ _ hr]
    exact hn _ Γ' w ⟨rfl, rfl⟩ hsat'.drop
  · obtain ⟨am, h, f, h1, h2, ok, l1, l2, H', tt⟩ := id hsat'
    rcases H' with ⟨e2, e3⟩ | ⟨b, pre, post, e1, e2, e3⟩
    · have : l.length = 0 := by have := congrArg List.length e3; simpa [bcs] using this
      exact absurd (List.eq_nil_of_length_eq_zero this) h0
    · subst e1
      have s2 : Sat A w (blk b (pre ++ (bcs l ++ post)) e :: (Γ' ++ F)) := ⟨am, h, f, h1, h2, ok, l1, l2, e3, tt⟩
      obtain ⟨ho, fz, hfz, hh, s3⟩ := s2.blk
      have hcell : ∀ j z, l[j]? = some z → w.cell? ((⟨b, pre.length, none⟩ : Addr).add j) = some (.int .u8 z.toNat) := fun j z hz => by
        rw [Addr_add, cell_of hh, List.getElem?_append_right (by omega)]
        rw [show pre.length + j - pre.length = j by omega, List.getElem?_append_left (by have := (List.getElem?_eq_some_iff.1 (bcs_at hz)).1; exact this)]
        exact bcs_at hz
      have hbl : (bcs l).length = l.length := by simp [bcs]
      have hlies := liesAt_bytes_off (P := P) hc (pre ++ (bcs l ++ post)).length pre.length l.length (by simp [hbl])
      have hlb := Go.Lib.run_loadBytes (P := P) w l ⟨b, pre.length, none⟩ .empty hcell
      have hmax : IntKind.i64.max = 9223372036854775807 := rfl
      have hl : l.length ≠ 0 := by simpa using h0
      have hr : (Builtin.unsafeString_ #[pt, it] ty #[.pointer (some ⟨b, pre.length, none⟩), .int .i64 (l.length : Nat)]).run P w = .ok (.string ⟨l.toArray⟩) (w.freeze ⟨b, pre.length, none⟩ l.length) := by
        have hdef : Builtin.unsafeString_ #[pt, it] ty #[.pointer (some ⟨b, pre.length, none⟩), .int .i64 (l.length : Nat)] =
            (do
              let n ← asInt (.int .i64 (l.length : Nat))
              if n < 0 then runtimePanic (.error "unsafe.String: len out of range")
              if n > IntKind.i64.max then unsupported (.unsafePointer "String: a length above the largest int")
              if n = 0 then pure (.string .empty)
              else if ← variablesAt ⟨b, pre.length, none⟩ (← elemOf pt) n.toNat then do
                let s ← loadBytes ⟨b, pre.length, none⟩ .empty n.toNat
                freeze ⟨b, pre.length, none⟩ n.toNat
                pure (.string s)
              else unsupported (.unsafePointer "String: not so many bytes at ptr")) := rfl
        rw [hdef]
        have h63' : ¬ (9223372036854775807 : Int) < (l.length : Int) := by omega
        have hneg : ¬ (l.length : Int) < 0 := by omega
        simp only [asInt, asIntOf]
        simp [hmax, h63', hneg, hl, variablesAt, shape_of hh, elemOf, underlying, hp, hlb]
        rw [hc, Nat.div_one]
        simpa using hlies
      rw [run_eq _ _ hr]
      refine hn _ Γ' _ ⟨rfl, rfl⟩ ?_
      have hfzw : (w.freeze ⟨b, pre.length, none⟩ l.length).heap[b]? = some (.cells (pre ++ (bcs l ++ post)).toArray e (if fz.1 == fz.2 then (pre.length, pre.length + l.length) else (min fz.1 pre.length, max fz.2 (pre.length + l.length)))) := by
        unfold World.freeze
        rw [if_neg hl]
        simp [Array.getElem?_modify, hh]
      exact (s3.update hfzw (fun c hc2 => by unfold World.freeze; rw [if_neg hl]; simp [Array.getElem?_modify, Ne.symm hc2]) (by unfold World.freeze; rw [if_neg hl]; rfl)).drop

/-- a[:] of an array. -/
theorem Reads.sliceWhole {t x e s b n} (hu : P.underlying t = some (.array n e)) (hs : TS P e s) (hx : ev E x = some (.pointer (some ⟨b, 0, none⟩))) :
    Reads P N E Γ ⟨dst, .slice t x none none none, ty, pos, after, guard⟩ (.slice (some ⟨b, 0, none⟩) n n) := fun _ w a hf _ => by
  have : (0 : Nat) * s = 0 := Nat.zero_mul s
  simp [execOp, Instr.sliceAt, Instr.sureAddr, Instr.sliceBounds, hf.eval hx, underlying, hu, hs.run, Addr_add]

/-- x[i] of an array's value, elements of one cell. -/
theorem Reads.indexV {t x i e} {n : Nat} {k : IntKind} {j : Nat} {cs : Array Value} {v : Value} (hu : P.underlying t = some (.array n e)) (hna : NotAgg P e) (hs : TS P e 1) (hx : ev E x = some (.agg cs)) (hi : ev E i = some (.int k (j : Int))) (hj : j < n) (hv : cs[j]? = some v) :
    Reads P N E Γ ⟨dst, .index t x i, ty, pos, after, guard⟩ v := fun _ w a hf _ => by
  have := part1 hna hv w
  simp [execOp, hf.eval hx, hf.eval hi, Instr.index, asIntOf, underlying, hu, hj, hs.run, this]
/-- 'append' onto a full row that is only read: a new row. -/
theorem Eff.appendFull {args : Array Operand} {ts : Array TypeId} {x y t tx e s by_ z} {b o n m : Nat} {cs ys : List Value} {src : Value} (ha : args = #[x, y]) (hts : ts = #[t, tx]) (hu : P.underlying t = some (.slice e)) (hi : TI P e s by_ z)
    (hz : z.cells.size = s) (hzo : ones z.cells.toList) (hb0 : 0 < by_) (hx : ev E x = some (.slice (some ⟨b, o, none⟩) n n)) (hy : ev E y = some src) (hk : Knows Γ (CellsAt b o cs)) (hn : cs.length = n * s) (hsrc : Knows Γ (SrcAt P s tx src m ys)) (hm : 0 < m)
    (hbound : (n + m) * by_ ≤ 140737488355328) :
    Eff P N E Γ ⟨dst, .call ⟨.builtin .append, args, ts⟩, ty, pos, after, guard⟩ fun u Γ'' => ∃ a' cap', u = .slice a' (n + m) cap' ∧ Γ'' = arr e s a' cap' (cs ++ ys) :: Γ := by
  subst ha hts
  intro A F w ac nx Z hf hsat hnext
  have hS := hsrc A w hsat.left
  have hK := hk A w hsat.left
  obtain ⟨i, hinf, hsz, hby, hzv⟩ := hi
  subst hsz hby
  have hyl := hS.src.newsLen
  have run_eq : ∀ v' w', (Builtin.append_ #[t, tx] ty #[.slice (some ⟨b, o, none⟩) n n, src]).run P w = .ok v' w' → (execOp ac.eval ⟨dst, .call ⟨.builtin .append, #[x, y], #[t, tx]⟩, ty, pos, after, guard⟩).run P w = .ok (.value v') w' := fun v' w' h => by
    simp [execOp, resolve, invoke, builtin, hf.eval hx, hf.eval hy, h]
  have h63 : (((n + m : Nat) : Int)) ≤ 9223372036854775807 := by
    have : n + m ≤ (n + m) * i.bytes := Nat.le_mul_of_pos_right _ hb0
    omega
  unfold Oper.wp
  have hg : n < n + m := by omega
  have hold : (Builtin.firstCells i.size n (.slice (some ⟨b, o, none⟩) n n)).run P w.drew = .ok cs.toArray w.drew :=
    run_firstCells_some (P := P) w.drew i.size n ⟨b, o, none⟩ n n cs hn (fun j v hv => by rw [Addr_add, World.cell?_drew]; exact hK.1 j v hv)
  have hr := run_append_grow_src (P := P) w t tx ty e i z hu hinf hzv (some ⟨b, o, none⟩) n n cs hold src m ys hS.src hg h63 (growslice_fits hg hbound)
  have e5 : ((cs ++ ys).toArray ++ Builtin.zeroCells z.cells (grownCap w (n + m) n e - (n + m))) = ((cs ++ ys) ++ (Builtin.zeroCells z.cells (grownCap w (n + m) n e - (n + m))).toList).toArray := by
    apply Array.ext'; simp
  rw [e5] at hr
  rw [run_eq _ _ hr]
  refine hnext _ _ _ ⟨_, _, rfl, rfl⟩ ?_
  have hge := grownCap_ge w (n + m) n e
  have s4 := Sat.blk_of (fz := (0, 0)) ((hsat.drew (w := w)).alloc (.cells ((cs ++ ys) ++ (Builtin.zeroCells z.cells (grownCap w (n + m) n e - (n + m))).toList).toArray e)) ((hK.2.append hS.src.one).append (zeroCells_ones hzo _)) (.inl rfl)
  show Sat A _ (_ :: (Γ ++ F))
  refine Sat.close (Γ := Γ ++ F) (B := [blk w.heap.size ([] ++ ((cs ++ ys) ++ (Builtin.zeroCells z.cells (grownCap w (n + m) n e - (n + m))).toList)) e]) (fun h' H => ?_) (by rw [List.nil_append]; exact s4)
  refine sat.arr_close (pre := []) ?_ H
  simp [size_zeroCells, hz, hn, hyl]
  rw [← Nat.add_mul, ← Nat.add_mul]; congr 1; omega
end
end Go.Sp

/- A separation logic over the given machine. Part 20: ways that come together; what is known for good. -/
namespace Go.Sp
open Go

theorem Run.joinEx {C : Cx} {k : List Item} {c : Code} {Q : Value → List SProp → Prop} {E : Env} {Γ : List SProp} {σ : Type} {φ : σ → Prop} {E' : σ → Env} {Γ' : σ → List SProp} (tail : ∀ s, φ s → Run C k (E' s) (Γ' s) Q)
    (next : (∀ s, φ s → ∀ {E1 : Env} {Γ1 Δ : List SProp}, Le (E' s) E1 → Picks (Γ' s) Γ1 Δ → Run C k E1 Γ1 Q) → Run C (.code c :: k) E Γ Q) : Run C (.code c :: k) E Γ Q :=
  next fun s hs _ _ _ l p => (tail s hs).to l p

theorem Sat.knowT {A w Γ} {φ : World → Prop} (H : ∀ w, φ w) (s : Sat A w Γ) : Sat A w (know φ :: Γ) := by
  obtain ⟨a, h, f, t⟩ := s
  exact ⟨a, h, f, fun _ => none, h, fun _ => .inl rfl, fun _ _ e => by simp at e, .refl _, ⟨fun _ => none, .refl _, fun _ _ e => by simp at e, fun w _ => H w⟩, t⟩

section
variable {C : Cx} {k : List Item} {E : Env} {Γ Γ' : List SProp} {Q : Value → List SProp → Prop} {P : Program} {N : Nat} {ops : Array Oper} {os : List Oper} {K : Env → List SProp → Prop}

theorem Run.knowT (φ : World → Prop) (H : ∀ w, φ w) (n : Run C k E (know φ :: Γ) Q) : Run C k E Γ Q := fun A F w a hf hs => n A F w a hf (Sat.knowT H hs)
theorem RunO.knowT (φ : World → Prop) (H : ∀ w, φ w) (n : RunO P N ops os E (know φ :: Γ) K) : RunO P N ops os E Γ K := fun A F w a Z hf hs hz => n A F w a Z hf (Sat.knowT H hs) hz
theorem Run.knowAnd {φ ψ : World → Prop} (χ : World → Prop) (p : Picks [know φ, know ψ] Γ Γ') (H : ∀ w, φ w → ψ w → χ w) (n : Run C k E (know χ :: Γ') Q) : Run C k E Γ Q :=
  .close p (fun _ s => by
    obtain ⟨j, jl, jr, e⟩ := sat.know_and s
    exact ⟨j, jl, jr, fun w f => H w (e w f).1 (e w f).2⟩) n
theorem RunO.knowAnd {φ ψ : World → Prop} (χ : World → Prop) (p : Picks [know φ, know ψ] Γ Γ') (H : ∀ w, φ w → ψ w → χ w) (n : RunO P N ops os E (know χ :: Γ') K) : RunO P N ops os E Γ K :=
  .close p (fun _ s => by
    obtain ⟨j, jl, jr, e⟩ := sat.know_and s
    exact ⟨j, jl, jr, fun w f => H w (e w f).1 (e w f).2⟩) n
theorem Run.knowMono {φ : World → Prop} (χ : World → Prop) (p : Pick (know φ) Γ Γ') (H : ∀ w, φ w → χ w) (n : Run C k E (know χ :: Γ') Q) : Run C k E Γ Q :=
  .close (.cons p .nil) (fun _ s => sat.know_mono H s) n
theorem RunO.knowMono {φ : World → Prop} (χ : World → Prop) (p : Pick (know φ) Γ Γ') (H : ∀ w, φ w → χ w) (n : RunO P N ops os E (know χ :: Γ') K) : RunO P N ops os E Γ K :=
  .close (.cons p .nil) (fun _ s => sat.know_mono H s) n
/-- The first n operations come to one truth value in one slot; one more slot is kept. -/
theorem RunO.join2 (n : Nat) (t : Nat) (b : Bool) (t2 : Nat) (v2 : Value) (h1 : RunO P N ops (os.take n) E Γ fun E' Γ' => Γ' = Γ ∧ lk E' t = some (.bool b) ∧ lk E' t2 = some v2 ∧ Le E E')
    (h2 : RunO P N ops (os.drop n) ((t, .bool b) :: (t2, v2) :: E) Γ K) : RunO P N ops os E Γ K :=
  RunO.cut n h1 fun _ _ ⟨hΓ, ht, ht2, hl⟩ => by subst hΓ; exact h2.weak (Le.cons ht (Le.cons ht2 hl))
end
end Go.Sp

/- A separation logic over the given machine. Part 21: blocks whose address may be compared; maps cleared; packed resources; regions whose ends come together. -/
namespace Go.Sp
open Go

/-- A block of which no text was ever made. -/
def blk0 (b : Nat) (l : List Value) (e : TypeId) : SProp := fun h => ones l ∧ h b = some (false, .cells l.toArray e (0, 0))
def Clean (b : Nat) (w : World) : Prop := ∃ cs e, w.heap[b]? = some (.cells cs e (0, 0))

theorem Sat.blk0 {A w b l e Γ} (s : Sat A w (Sp.blk0 b l e :: Γ)) : ones l ∧ w.heap[b]? = some (.cells l.toArray e (0, 0)) ∧ Sat A w (Sp.own b (.cells l.toArray e (0, 0)) :: Γ) := by
  obtain ⟨a, h, f, h1, h2, ok, l1, l2, ⟨ho, e0⟩, t⟩ := s
  exact ⟨ho, f b _ (l1 b _ e0), a, h, f, h1, h2, ok, l1, l2, e0, t⟩
theorem Sat.blk0_of {A w b l e Γ} (s : Sat A w (Sp.own b (.cells l.toArray e (0, 0)) :: Γ)) (ho : ones l) : Sat A w (Sp.blk0 b l e :: Γ) := by
  obtain ⟨a, h, f, h1, h2, ok, l1, l2, e0, t⟩ := s
  exact ⟨a, h, f, h1, h2, ok, l1, l2, ⟨ho, e0⟩, t⟩
theorem Knows.blk0 {Γ Γ' b l e} (p : Pick (Sp.blk0 b l e) Γ Γ') : Knows Γ (CellsAt b 0 l) := fun _ _ s => by
  obtain ⟨ho, hh, _⟩ := (s.map fun _ => p.sat).blk0
  exact ⟨fun i v hv => by rw [Nat.zero_add, cell_of hh]; exact hv, ho⟩
theorem Knows.clean {Γ Γ' b l e} (p : Pick (Sp.blk0 b l e) Γ Γ') : Knows Γ (Clean b) := fun _ _ s => ⟨_, _, (s.map fun _ => p.sat).blk0.2.1⟩
/-- A new block is none of those that one has. -/
theorem Knows.fresh {α : Type} {g : α → Nat} {c : α → List Value} {e e' : TypeId} {b : Nat} {l : List Value} {xs : List α} {Γ Γ' : List SProp} (p : Picks [Sp.blk0 b l e, Sp.bag (fun y => Sp.blk0 (g y) (c y) e') xs] Γ Γ') :
    Knows Γ fun _ => ∀ y ∈ xs, g y ≠ b := fun A w s y hy hb => by
  obtain ⟨m, hm⟩ : ∃ m, xs.Perm (y :: m) := by
    obtain ⟨a, c, rfl⟩ := List.append_of_mem hy
    exact ⟨a ++ c, List.perm_middle⟩
  have h1 : Sat A w ([Sp.blk0 b l e, Sp.bag (fun y => Sp.blk0 (g y) (c y) e') xs] ++ Γ') := s.map fun _ => p.sat
  obtain ⟨_, h, _, h1, h2, ok, l1, l2, ⟨_, e0⟩, h3, h4, _, m1, _, hb', _⟩ := h1
  obtain ⟨k1, _, _, n1, _, ⟨_, e1⟩, _⟩ := bag.take hm hb'
  have x1 : h2 b = some (false, .cells (c y).toArray e' (0, 0)) := m1 _ _ (n1 _ _ (hb ▸ e1))
  rcases ok b with x | x | ⟨_, _, x⟩
  · rw [e0] at x; cases x
  · rw [x1] at x; cases x
  · rw [e0] at x; cases x

section
variable {P : Program} {N : Nat} {E : Env} {Γ Γ' : List SProp} {dst : Option Tmp} {ty : TypeId} {pos : String} {after : Array Edge} {guard : Option (Nat × Bool)}

theorem Eff.box0 {e x v} {l : List Value} (hx : ev E x = some v) (hc : v.cells.toList = l) (hl : ones l) : Eff P N E Γ ⟨dst, .box e x, ty, pos, after, guard⟩ fun u Γ'' => ∃ b, u = .pointer (some ⟨b, 0, none⟩) ∧ Γ'' = blk0 b l e :: Γ := by
  intro A F w a nx Z hf hsat hn
  unfold Oper.wp
  have hc' : v.cells = l.toArray := by rw [← hc]
  simp [execOp, Instr.box, hf.eval hx, newVar, newRow, Oper.upon, hc']
  refine hn _ _ _ ⟨w.heap.size, rfl, rfl⟩ ?_
  exact Sat.blk0_of (hsat.alloc _) hl
theorem Eff.store0 {t x y v} {b o : Nat} {l : List Value} {e : TypeId} (hs : TS P t 1) (hx : ev E x = some (.pointer (some ⟨b, o, none⟩))) (hy : ev E y = some v) (p : Pick (blk0 b l e) Γ Γ')
    (hv : v.oneCell' = true) (hl : o < l.length) : Eff P N E Γ ⟨dst, .store t x y, ty, pos, after, guard⟩ fun _ Γ'' => Γ'' = blk0 b (l.set o v) e :: Γ' := by
  intro A F w a nx Z hf hsat hn
  have hsat' : Sat A w (blk0 b l e :: (Γ' ++ F)) := hsat.map fun _ => (p.app F).sat
  obtain ⟨ho, hh, s'⟩ := hsat'.blk0
  have hr := run_storeCells_cells (P := P) b o [v] 0 w (fun j hj => by rw [cell_of hh]; simp at hj; subst hj; simp; omega)
    (fun j hj => by simp [World.frozen?, hh]) (fun u hu => by rcases List.mem_singleton.1 hu with rfl; exact hv)
  simp only [Nat.add_zero] at hr
  obtain ⟨a1, a2⟩ := heap_setCells b [v] o w l e (0, 0) hh (by simp; omega)
  rw [splice_one hl] at a1
  have hsz : v.cells.size = 1 := by rw [← Array.length_toList, cells_one hv]; rfl
  unfold Oper.wp
  simp [execOp, hf.eval hx, hf.eval hy, Instr.storeAt, Instr.sureAddr, storeVar, hs.run, hsz, cells_one hv, hr]
  refine hn _ _ _ rfl (Sat.blk0_of (s'.update a1 a2 (amb_setCells b [v] o w)) ?_)
  exact fun u hu => by
    rcases List.mem_or_eq_of_mem_set hu with h | h
    · exact ho u h
    · rw [h]; exact hv

theorem Reads.eqPSame {t x y t' te} {n by_ : Nat} {z : Value} {q : Addr} (hu : P.underlying t = some (.pointer te)) (hi : TI P te n by_ z) (hx : ev E x = some (.pointer (some q))) (hy : ev E y = some (.pointer (some q))) :
    Reads P N E Γ ⟨dst, .binOp .eql t x y t', ty, pos, after, guard⟩ (.bool true) := .bin hx hy (eqGuard_pointer P) fun w => by
  obtain ⟨i, hinf, _, _, _⟩ := hi
  exact run_eql_ptr_same w q hu hinf
theorem Reads.eqPOther {t x y t' te} {n by_ : Nat} {z : Value} {a b : Nat} (hu : P.underlying t = some (.pointer te)) (hi : TI P te n by_ z) (hn : n ≠ 0) (hx : ev E x = some (.pointer (some ⟨a, 0, none⟩))) (hy : ev E y = some (.pointer (some ⟨b, 0, none⟩)))
    (hne : a ≠ b) (ka : Knows Γ (Clean a)) (kb : Knows Γ (Clean b)) : Reads P N E Γ ⟨dst, .binOp .eql t x y t', ty, pos, after, guard⟩ (.bool false) := fun A w ac hf hs => by
  obtain ⟨i, hinf, hsz, _, _⟩ := hi
  obtain ⟨ca, ta, ha⟩ := ka A w hs
  obtain ⟨cb, tb, hb⟩ := kb A w hs
  have := run_eql_ptr_other (P := P) w (a := ⟨a, 0, none⟩) (b := ⟨b, 0, none⟩) hu hinf (by omega) (fun e => hne (by cases e; rfl)) ha hb
  simp [execOp, hf.eval hx, hf.eval hy, eqGuard_pointer, this]

theorem Eff.mapClear {κ ν : Type} [DecidableEq κ] {enc : κ → Value} {venc : ν → Value} {args : Array Operand} {ts : Array TypeId} {x : Operand} {t k e : TypeId} {b : Nat} {l : List (κ × ν)} (ha : args = #[x]) (hts : ts = #[t]) (hu : P.underlying t = some (.map k e))
    (hx : ev E x = some (.map (some b))) (p : Pick (mp enc venc b l) Γ Γ') : Eff P N E Γ ⟨dst, .call ⟨.builtin .clear, args, ts⟩, ty, pos, after, guard⟩ fun _ Γ'' => Γ'' = mp enc venc b [] :: Γ' := by
  subst ha hts
  intro A F w ac nx Z hf hsat hnext
  have hsat' : Sat A w (mp enc venc b l :: (Γ' ++ F)) := hsat.map fun _ => (p.app F).sat
  obtain ⟨es, clock, hh, e1, e2, e3, e4, s'⟩ := hsat'.mp_own
  have hg : (getObj b).run P w = .ok (.map es clock) w := by simp [getObj, Sem.run, hh]
  obtain ⟨h1, h2⟩ := Sat.setObj (P := P) (o' := .map #[] clock) s' (fun c e f h => by cases h)
  unfold Oper.wp
  simp [execOp, resolve, invoke, builtin, hf.eval hx, Builtin.clear_, underlying, hu, hg, h1, Oper.upon]
  exact hnext _ _ _ rfl (Sat.mp_of h2 rfl (by simp) (by simp) (by simp))
end

/-- Several resources in one. -/
def pk (L : List SProp) : SProp := fun h => sat L h
theorem sat.pk {L : List SProp} {h : Hp} (s : sat L h) : sat [Sp.pk L] h := sat.one s
section
variable {P : Program} {N : Nat} {ops : Array Oper} {os : List Oper} {E : Env} {Γ Γ' L : List SProp} {K : Env → List SProp → Prop} {C : Cx} {k : List Item} {Q : Value → List SProp → Prop}
theorem Run.unpack (p : Pick (pk L) Γ Γ') (n : Run C k E (L ++ Γ') Q) : Run C k E Γ Q := .open_ (σ := Unit) (φ := fun _ => True) (B := fun _ => L) p (fun _ h => ⟨(), trivial, h⟩) fun _ _ => n
theorem RunO.unpack (p : Pick (pk L) Γ Γ') (n : RunO P N ops os E (L ++ Γ') K) : RunO P N ops os E Γ K := .open_ (σ := Unit) (φ := fun _ => True) (B := fun _ => L) p (fun _ h => ⟨(), trivial, h⟩) fun _ _ => n
theorem Run.pack (p : Picks L Γ Γ') (n : Run C k E (pk L :: Γ') Q) : Run C k E Γ Q := .close p (fun _ s => s) n
theorem RunO.pack (p : Picks L Γ Γ') (n : RunO P N ops os E (pk L :: Γ') K) : RunO P N ops os E Γ K := .close p (fun _ s => s) n

theorem Cn.pack {f args φ} (h : Cn P f args φ L Q) : Cn P f args φ [pk L] fun v G => ∃ G', Q v G' ∧ G = [pk G'] := fun R kR => by
  have h1 := h R kR
  refine ⟨h1.able, fun A F w s => ?_⟩
  have s1 : Sat A w ((L ++ [R]) ++ F) := by
    rw [List.append_assoc]
    exact s.map fun _ t => sat.unfold (Γ := L) t
  refine (h1.runs A F w s1).mono ?_
  rintro e w' ⟨v, _, he, ⟨G', hq, rfl⟩, s'⟩
  refine ⟨v, [pk G'] ++ [R], he, ⟨_, ⟨G', hq, rfl⟩, rfl⟩, ?_⟩
  rw [List.append_assoc] at s'
  exact s'.map fun _ t => sat.fold t

theorem Run.drawsTo {id} (L1 : List Nat) (ΓS : List SProp) (E2 : Env) (Γ2 : List SProp) (hm : C.P.follows .mixedOrders = true)
    (h : RunD C.P C.fn.ntmps ops L1 ΓS ops.size (Array.replicate ops.size false) E Γ fun E' Γ' => Le E2 E' ∧ ∃ Δ, Picks Γ2 Γ' Δ) (n : Run C k E2 Γ2 Q) : Run C (.code (.region id ops true) :: k) E Γ Q :=
  Run.draws L1 ΓS hm (h.mono fun _ _ ⟨l, _, p⟩ => n.to l p)
end
end Go.Sp

/- A separation logic over the given machine. Part 22: more on regions that draw. -/
namespace Go.Sp
open Go
section
variable {P : Program} {N : Nat} {ops : Array Oper} {E : Env} {Γ ΓS : List SProp} {K : Env → List SProp → Prop} {fuel : Nat} {listed : Array Bool} {L : List Nat}
theorem RunD.cast {X X' : SProp} (h : X = X') (n : RunD P N ops L ΓS fuel listed E (X' :: Γ) K) : RunD P N ops L ΓS fuel listed E (X :: Γ) K := by subst h; exact n
theorem RunD.nilArr (e s : Nat) (a : Option Addr) (n : RunD P N ops L ΓS fuel listed E (arr e s a 0 [] :: Γ) K) : RunD P N ops L ΓS fuel listed E Γ K := fun A F w ac Z hz hf hs k => n A F w ac Z hz hf hs.arr_none k
end
end Go.Sp

/- A separation logic over the given machine. Part 23: contracts of the library that leave what was there as it was; interfaces held against nil. -/
namespace Go.Sp
open Go Go.RowKit
theorem Sat.keptBelow {A w w' Γ} (s : Sat A w Γ) (b : Below w.heap.size w w') : Sat A w' Γ := by
  obtain ⟨ha, h, hf, hs⟩ := s
  refine ⟨?_, h, fun k x hk => ?_, hs⟩
  · rw [← ha]; unfold amb; rw [b.os, b.tape, b.output]
  · have h1 := hf k x hk
    rw [b.block k (by have := (Array.getElem?_eq_some_iff.1 h1).1; exact this)]; exact h1
theorem Cn.calls {P f} {args : List Value} {φ : World → Prop} {q : Value → Prop} (able : Able P f) (h : ∀ w, φ w → Calls P f args.toArray w fun e w' => ∃ v, e = .returned v ∧ q v ∧ Below w.heap.size w w') : Cn P f args φ [] fun v G => q v ∧ G = [] := fun R kR => by
  refine ⟨able, fun A F w s => ?_⟩
  have s1 : Sat A w ([R] ++ F) := s
  refine (h w (kR A w s1.left)).mono fun e w' ⟨v, he, hq, hb⟩ => ⟨v, [R], he, ⟨[], ⟨hq, rfl⟩, rfl⟩, s1.keptBelow hb⟩
/-- A call that makes one row. -/
theorem Cn.callsRow {P f} {args : List Value} {φ : World → Prop} {e : TypeId} {cs : List Value} (able : Able P f) (ho : ones cs) (h : ∀ w, φ w → Calls P f args.toArray w fun x w' => x = .returned (.slice (some ⟨w.heap.size, 0, none⟩) cs.length cs.length) ∧ w' = w.alloc (.cells cs.toArray e)) :
    Cn P f args φ [] fun v G => ∃ b, v = .slice (some ⟨b, 0, none⟩) cs.length cs.length ∧ G = [arr e 1 (some ⟨b, 0, none⟩) cs.length cs] := fun R kR => by
  refine ⟨able, fun A F w s => ?_⟩
  have s1 : Sat A w ([R] ++ F) := s
  refine (h w (kR A w s1.left)).mono fun x w' ⟨he, hw⟩ => ?_
  subst hw
  refine ⟨_, [arr e 1 (some ⟨w.heap.size, 0, none⟩) cs.length cs, R], he, ⟨[_], ⟨w.heap.size, rfl, rfl⟩, rfl⟩, ?_⟩
  have s2 : Sat A (w.alloc (.cells cs.toArray e)) (own w.heap.size (.cells cs.toArray e (0, 0)) :: ([R] ++ F)) := Sat.alloc s1 _
  have s3 := Sat.blk_of s2 ho (.inl rfl)
  have s4 : Sat A (w.alloc (.cells cs.toArray e)) ([blk w.heap.size cs e] ++ ([R] ++ F)) := s3
  exact Sat.close (fun h H => blk.arr_all (b := w.heap.size) (e := e) (s := 1) (c := cs.length) (by rw [Nat.mul_one]) (by obtain ⟨h1, _, _, l, _, H', _⟩ := H; exact blk_mono l H')) s4
section
variable {P : Program} {N : Nat} {E : Env} {Γ : List SProp} {dst : Option Tmp} {ty : TypeId} {pos : String} {after : Array Edge} {guard : Option (Nat × Bool)}
def notNil : Value → Bool
  | .nilIface => false
  | _ => true
theorem Reads.neNilI {t x t' ms} {v : Value} (hu : P.underlying t = some (.interface ms)) (hx : ev E x = some v) (hv : v = .nilIface ∨ ∃ te pe, v = .iface te pe) :
    Reads P N E Γ ⟨dst, .binOp .neq t x (.const .nilIface) t', ty, pos, after, guard⟩ (.bool (notNil v)) := by
  rcases hv with rfl | ⟨te, pe, rfl⟩
  · refine .bin hx rfl (fun w => by unfold eqGuard; simp) fun w => ?_
    refine binOp_neq (b := true) (fun _ => rfl) w ?_
    rw [Op.equalIn.eq_def]; simp [underlying, hu]
  · refine .bin hx rfl (fun w => by unfold eqGuard; simp) fun w => ?_
    refine binOp_neq (b := false) (fun _ => rfl) w ?_
    rw [Op.equalIn.eq_def]; simp [underlying, hu]
end
end Go.Sp

/- Chapter 19: a consumer, in plain Lean and in memory. -/
namespace Go.Proofs.YtankogdnhgmkhaaDoor
open Go Go.Sp

def icell (n : Int) : List Value := [.int .i64 n]
theorem icell_len (n : Int) : (icell n).length = 1 := rfl
abbrev Sl19 := Option Addr × Nat × Nat
/-- A client's call, as it is told (12 cells). -/
structure Sn19 where
  client : Int
  call : Int
  kind : Int
  part : Int
  offset : Int
  pid : Int
  pidEpoch : Int
  seq : Int
  name : List UInt8
  text : List UInt8
  err : Int
  done : Bool
def Sn19.cells (s : Sn19) : List Value := [.int .i64 s.client, .int .i64 s.call, .int .i64 s.kind, .int .i64 s.part, .int .i64 s.offset, .int .i64 s.pid, .int .i64 s.pidEpoch, .int .i64 s.seq, .string (str s.name), .string (str s.text), .int .i64 s.err, .bool s.done]
theorem Sn19.cells_len (s : Sn19) : s.cells.length = 12 := rfl
theorem Sn19.cells_ones (s : Sn19) : ones s.cells := .of rfl
/-- What is asked (21 cells): ints is the row of whole numbers, or none. -/
structure Mg19 where
  kind : Int
  fr : Int
  to : Int
  id : Int
  part : Int
  offset : Int
  high : Int
  index : Int
  pid : Int
  seq : Int
  name : List UInt8
  ints : Sl19
def Mg19.cells (m : Mg19) : List Value := [.int .i64 m.kind, .int .i64 m.fr, .int .i64 m.to, .int .i64 m.id, .int .i64 m.part, .int .i64 0, .int .i64 m.offset, .int .i64 0, .int .i64 0, .int .i64 m.high, .int .i64 0, .int .i64 m.index, .int .i64 m.pid, .int .i64 0, .int .i64 m.seq, .int .i64 0, .string (str m.name), .string (str []), .slice none 0 0, .slice none 0 0, .slice m.ints.1 m.ints.2.1 m.ints.2.2]
theorem Mg19.cells_len (m : Mg19) : m.cells.length = 21 := rfl
theorem Mg19.cells_ones (m : Mg19) : ones m.cells := .of rfl
/-- A call under way (40 cells). -/
structure Cl19 where
  n : Int
  s : Sn19
  m : Mg19
  aim : Int
  refused : Bool
  id : Int
  to : Int
  tries : Int
  deadline : Int
def Cl19.cells (c : Cl19) : List Value := [.int .i64 c.n] ++ c.s.cells ++ c.m.cells ++ [.int .i64 c.aim, .bool c.refused, .int .i64 c.id, .int .i64 c.to, .int .i64 c.tries, .int .i64 c.deadline]
theorem Cl19.cells_len (c : Cl19) : c.cells.length = 40 := rfl
theorem Cl19.cells_ones (c : Cl19) : ones c.cells := .of rfl
structure CS19 where
  id : Int
  wait : Int
  tries : Int
  brokers : List Int
  aims : List (Int × Int)
  open_ : List Cl19
  calls : Int
  number : Int
  ended : List Sn19

/-! ### What it does -/
def CS19.whom (s : CS19) (aim : Int) : Int := (mget s.aims aim).getD (s.brokers.getD 0 0)
def idxOf (l : List Int) (v : Int) : Int := match l.findIdx? fun x => decide (v = x) with
  | some i => (i : Int)
  | none => -1
def behind (l : List Int) (to : Int) : Int := l.getD ((idxOf l to + 1) % (l.length : Int)).toNat 0
def next19 (n : Int) : Int := if 1000000000 < n + 1 then 1 else n + 1
/-- A call asks, for the first time or anew. -/
def askC (s : CS19) (now : Int) (x : Cl19) : Cl19 := { x with id := next19 s.number, to := s.whom x.aim, deadline := now + s.wait, refused := false, tries := x.tries - 1, m := { x.m with fr := s.id, to := s.whom x.aim, id := next19 s.number } }
def askS (s : CS19) : CS19 := { s with number := next19 s.number }
def number19 (n most : Int) : Bool := decide (0 ≤ n) && decide (n ≤ most)
/-- A call that may be. -/
def may19 (s : Sn19) : Bool := decide (1 ≤ s.kind) && decide (s.kind ≤ 9) && decide (s.name.length ≤ 32) && number19 s.part 16 && number19 s.offset 1000000000 && number19 s.pid 1000000000 && number19 s.seq 1000000000
/-- What is asked, and of whom (what lies in ints is not told). -/
def asksM (s : Sn19) (ints : Sl19) : Mg19 :=
  if s.kind = 1 then ⟨19, 0, 0, 0, s.part, s.offset, 0, 0, 0, 0, [], (none, 0, 0)⟩
  else if s.kind = 6 then ⟨25, 0, 0, 0, s.part, s.offset, 0, 0, 0, 0, [], (none, 0, 0)⟩
  else if s.kind = 7 then ⟨15, 0, 0, 0, 0, 0, s.part, 4, s.seq, s.offset, s.name, (none, 0, 0)⟩
  else if s.kind = 8 ∨ s.kind = 9 then ⟨15, 0, 0, 0, 0, 0, s.part, s.kind - 2, 0, 0, [], ints⟩
  else ⟨23, 0, 0, 0, 0, s.offset, if s.kind = 2 then 0 else s.part, s.kind - 1, s.pid, s.seq, s.name, ints⟩
def aimOf (s : Sn19) : Int := if s.kind = 1 ∨ s.kind = 6 then s.part else if s.kind = 7 ∨ s.kind = 8 ∨ s.kind = 9 then -1 else -2
/-- A call begins. -/
def plain19 (s : Sn19) : Sn19 := ⟨0, 0, s.kind, s.part, s.offset, s.pid, 0, s.seq, s.name, [], 0, false⟩
def newC (s : CS19) (q : Sn19) (ints : Sl19) : Cl19 := { n := s.calls + 1, s := plain19 q, m := asksM q ints, aim := aimOf q, refused := false, id := 0, to := 0, tries := s.tries, deadline := 0 }
def callS (s : CS19) (now : Int) (q : Sn19) (ints : Sl19) : CS19 := { askS s with calls := s.calls + 1, open_ := s.open_ ++ [askC s now (newC s q ints)] }
/-- A batch of an answer: its base, its records' texts (and where they lie). -/
structure Bt19 where
  base : Int
  ra : Option Addr
  rc : Nat
  recs : List (List UInt8)
def recC (t : List UInt8) : List Value := [.string (str []), .string (str t), .int .i64 0]
theorem recC_len (t : List UInt8) : (recC t).length = 3 := rfl
def Bt19.cells (b : Bt19) : List Value := [.int .i64 b.base, .int .i64 0, .int .i64 0, .int .i64 0, .int .i64 0, .slice b.ra b.recs.length b.rc]
theorem Bt19.cells_len (b : Bt19) : b.cells.length = 6 := rfl
/-- What batches tell of an offset. -/
def toldAt (offset : Int) : List Bt19 → Option (List UInt8)
  | [] => none
  | b :: l => if 0 ≤ offset - b.base ∧ offset - b.base < b.recs.length then some (b.recs.getD (offset - b.base).toNat []) else toldAt offset l
/-- An answer: what it tells (its numbers of groups are not spoken of). -/
structure An19 where
  kind : Int
  fr : Int
  to : Int
  id : Int
  last : Int
  err : Int
  batches : List Bt19
def An19.cells (m : An19) (a : Option Addr) (c : Nat) : List Value := [.int .i64 m.kind, .int .i64 m.fr, .int .i64 m.to, .int .i64 m.id, .int .i64 0, .int .i64 0, .int .i64 0, .int .i64 m.last, .int .i64 0, .int .i64 0, .int .i64 0, .int .i64 0, .int .i64 0, .int .i64 0, .int .i64 0, .int .i64 m.err, .string (str []), .string (str []), .slice a m.batches.length c, .slice none 0 0, .slice none 0 0]
theorem An19.cells_ones (m : An19) (a : Option Addr) (c : Nat) : ones (m.cells a c) := .of rfl
def An19.at_ (m : An19) (a : Option Addr) (w : World) : Prop := RowAt a (m.batches.flatMap Bt19.cells) w ∧ ∀ b ∈ m.batches, RowAt b.ra (b.recs.flatMap recC) w
structure An19.ok (m : An19) : Prop where
  many : m.batches.length ≤ 1000
  base : ∀ b ∈ m.batches, 0 ≤ b.base ∧ b.base ≤ 1000000000
  recs : ∀ b ∈ m.batches, b.recs.length ≤ 1000000
def told19 (s : Sn19) (m : An19) : Sn19 :=
  if s.kind = 1 then match toldAt s.offset m.batches with
    | some t => { s with pid := 0, seq := 0, text := t, err := 0 }
    | none => { s with pid := 0, seq := 0, err := 8 }
  else if s.kind = 2 then { s with offset := 0, pid := 0, seq := 0, text := [] }
  else if s.kind = 3 then { s with offset := 0, seq := 0 }
  else if s.kind = 6 then { s with pid := 0, seq := 0 }
  else if s.kind = 5 ∨ s.kind = 7 ∨ s.kind = 8 ∨ s.kind = 9 then { s with offset := 0, pid := 0, seq := 0 }
  else s
def endSn (s : CS19) (x : Cl19) (err : Int) : Sn19 := { x.s with client := s.id, call := x.n, err := err, done := true }
def ended19 (s : CS19) (x : Cl19) (err : Int) (m : An19) : Sn19 := if err = 0 then told19 (endSn s x err) m else endSn s x err
def endS (s : CS19) (x : Cl19) (err : Int) (m : An19) : CS19 := { s with ended := s.ended ++ [ended19 s x err m] }
def none19 : An19 := ⟨0, 0, 0, 0, 0, 0, []⟩
def harm (kind : Int) : Bool := decide (kind = 1) || decide (kind = 5) || decide (kind = 6)
def moved (s : CS19) (x : Cl19) : CS19 := if s.whom x.aim = x.to then { s with aims := mset s.aims x.aim (behind s.brokers x.to) } else s
/-- What is done with one call when time goes by: the consumer, the call, is it over, what is asked. -/
def due (s : CS19) (now : Int) (x : Cl19) : CS19 × Cl19 × Bool × Option Mg19 :=
  if now < x.deadline then (s, x, false, none)
  else if x.tries = 0 ∨ (harm x.s.kind = false ∧ x.refused = false) then (endS s x 21 none19, x, true, none)
  else (askS (moved s x), askC (moved s x) now x, false, some (askC (moved s x) now x).m)
def tickL (now : Int) : CS19 → List Cl19 → CS19 × List Cl19 × List Mg19
  | s, [] => (s, [], [])
  | s, x :: l =>
    let d := due s now x
    let r := tickL now d.1 l
    (r.1, if d.2.2.1 then r.2.1 else d.2.1 :: r.2.1, d.2.2.2.toList ++ r.2.2)
def tick (s : CS19) (now : Int) : CS19 × List Mg19 := ({ (tickL now s s.open_).1 with open_ := (tickL now s s.open_).2.1 }, (tickL now s s.open_).2.2)
def fits19 (s : CS19) (m : An19) (x : Cl19) : Bool := decide (x.id = m.id) && decide (x.to = m.fr) && decide (m.to = s.id) && decide (m.kind = x.m.kind + 1)
def led (s : CS19) (now : Int) (i : Nat) (x : Cl19) (last : Int) : CS19 :=
  if 0 ≤ idxOf s.brokers last then { s with aims := mset (mset s.aims x.aim (behind s.brokers x.to)) x.aim last, open_ := s.open_.set i { x with deadline := now + 1, refused := true } }
  else { s with aims := mset s.aims x.aim (behind s.brokers x.to), open_ := s.open_.set i { x with deadline := now + s.wait, refused := true } }
def stepAt (s : CS19) (now : Int) (m : An19) (i : Nat) (x : Cl19) : CS19 :=
  if m.err = 15 ∨ m.err = 22 then led s now i x m.last
  else if (m.err = 19 ∧ x.m.kind = 23) ∨ (m.err = 3 ∧ x.s.kind = 7) then { s with open_ := s.open_.set i { x with deadline := now + s.wait, refused := true } }
  else endS { s with open_ := s.open_.eraseIdx i } x m.err m
def step (s : CS19) (now : Int) (m : An19) : CS19 := match s.open_.findIdx? (fits19 s m) with
  | none => s
  | some i => match s.open_[i]? with
    | none => s
    | some x => stepAt s now m i x
def new19 (id wait tries : Int) (brokers : List Int) : CS19 := ⟨id, wait, tries, brokers, [], [], 0, 0, []⟩
def done19 (s : CS19) : CS19 := { s with ended := [] }

/-! ### In memory -/
structure CallX where
  a : Nat
  c : Cl19
def CB (y : CallX) : SProp := blk y.a y.c.cells 65
def pcell (a : Nat) : List Value := [.pointer (some ⟨a, 0, none⟩)]
theorem pcell_len (a : Nat) : (pcell a).length = 1 := rfl
def ptrs (cl : List CallX) : List Value := (cl.map (·.a)).flatMap pcell
/-- Where a consumer's rows and map lie. -/
structure PX19 where
  ba : Option Addr
  bc : Nat
  ab : Nat
  ua : Option Addr
  un : Nat
  uc : Nat
  ea : Option Addr
  ec : Nat
def CS19.cells (s : CS19) (x : PX19) (oa : Option Addr) (on oc : Nat) : List Value := [.int .i64 s.id, .int .i64 s.wait, .int .i64 s.tries, .slice x.ba s.brokers.length x.bc, .map (some x.ab), .slice x.ua x.un x.uc, .int .i64 s.calls, .int .i64 s.number, .slice x.ea s.ended.length x.ec, .slice oa on oc]
def IM (b : Nat) (l : List (Int × Int)) : SProp := mp (Value.int .i64) (Value.int .i64) b l
def EL (s : CS19) (x : PX19) : SProp := arr 31 12 x.ea x.ec (s.ended.flatMap Sn19.cells)
def Said (oa : Option Addr) (oc : Nat) (zs : List Mg19) : SProp := arr 35 21 oa oc (zs.flatMap Mg19.cells)
/-- What stays of a consumer. -/
def KN (s : CS19) (x : PX19) : World → Prop := RowAt x.ba (s.brokers.flatMap icell)
structure PB (s : CS19) : Prop where
  id : 0 ≤ s.id ∧ s.id ≤ 1000
  wait : 1 ≤ s.wait ∧ s.wait ≤ 1000000000
  tries : 1 ≤ s.tries ∧ s.tries ≤ 1000
  bne : s.brokers ≠ []
  bn : s.brokers.length ≤ 100
  number : 0 ≤ s.number ∧ s.number ≤ 1000000000
  calls : 0 ≤ s.calls ∧ s.calls ≤ 1000000
  opn : s.open_.length ≤ 20
def PO (x : Cl19) : Prop := (0 ≤ x.tries ∧ x.tries ≤ 1000) ∧ (0 ≤ x.s.offset ∧ x.s.offset ≤ 1000000000) ∧ (1 ≤ x.m.kind ∧ x.m.kind ≤ 28 ∧ x.m.kind % 2 = 1)
def PL (pb : Nat) (s : CS19) (x : PX19) (cl : List CallX) (oa : Option Addr) (on oc : Nat) : List SProp :=
  [blk pb (s.cells x oa on oc) 60, bag CB cl, IM x.ab s.aims, arr 63 1 x.ua x.uc (ptrs cl), EL s x, know (KN s x)]
/-- A consumer that has nothing to say. -/
def PR (pb : Nat) (s : CS19) : SProp := fun h => ∃ y : PX19 × List CallX, (y.2.map (·.c) = s.open_ ∧ y.1.un = s.open_.length) ∧ sat (PL pb s y.1 y.2 none 0 0) h

/-! ### Places -/
theorem idx_hit {l : List Int} {v : Int} {i : Nat} (hx : l[i]? = some v) (hn : ∀ x ∈ l.take i, v ≠ x) : idxOf l v = i := by
  unfold idxOf
  have : l.findIdx? (fun x => decide (v = x)) = some i := by
    rw [List.findIdx?_eq_some_iff_getElem]
    obtain ⟨hi, e⟩ := List.getElem?_eq_some_iff.1 hx
    refine ⟨hi, by simp [e], fun j hj => ?_⟩
    have := hn l[j] (List.mem_iff_getElem?.2 ⟨j, by rw [List.getElem?_take, if_pos hj]; exact List.getElem?_eq_getElem (by omega)⟩)
    simpa using this
  rw [this]
theorem idx_none {l : List Int} {v : Int} (hn : ∀ x ∈ l, v ≠ x) : idxOf l v = -1 := by
  unfold idxOf
  have : l.findIdx? (fun x => decide (v = x)) = none := List.findIdx?_eq_none_iff.2 fun x hx => by simpa using hn x hx
  rw [this]
theorem idx_range (l : List Int) (v : Int) : -1 ≤ idxOf l v ∧ idxOf l v < l.length := by
  unfold idxOf
  split
  · rename_i i h
    have := (List.findIdx?_eq_some_iff_getElem.1 h).1
    omega
  · omega
theorem idx_in {l : List Int} {v : Int} : 0 ≤ idxOf l v ↔ v ∈ l := by
  by_cases h : v ∈ l
  · refine ⟨fun _ => h, fun _ => ?_⟩
    unfold idxOf
    split
    · omega
    · rename_i h2
      have := List.findIdx?_eq_none_iff.1 h2 v h
      simp at this
  · refine ⟨fun h2 => ?_, fun h2 => absurd h2 h⟩
    rw [idx_none fun x hx e => h (by rw [e]; exact hx)] at h2
    omega
end Go.Proofs.YtankogdnhgmkhaaDoor

namespace Go.Proofs.YtankogdnhgmkhaaDoor
open Go Go.Sp

set_option linter.unusedVariables false

namespace con4
theorem ts63 : TS Tryd.prog 63 1 := .of (by kernel_rfl)
theorem na63 : NotAgg Tryd.prog 63 := ⟨_, Tryd.underlying63, trivial⟩
theorem ti63 : TI Tryd.prog 63 1 8 (.pointer none) := .of (by kernel_rfl)
end con4
open con4

/-- A closure over elements one behind another, from state to state. -/
def stN {St : Type} (d : Nat → St → Bool × St) (s0 : St) : Nat → St
  | 0 => s0
  | i + 1 => (d i (stN d s0 i)).2
def bN {St : Type} (d : Nat → St → Bool × St) (s0 : St) (i : Nat) : Bool := (d i (stN d s0 i)).1
/-- Those that it keeps. -/
def kept {St : Type} (d : Nat → St → Bool × St) (s0 : St) (ps : List Nat) : Nat → List Nat
  | 0 => []
  | j + 1 => if bN d s0 j = true then kept d s0 ps j else kept d s0 ps j ++ (ps[j]?).toList
theorem kept_pre {St : Type} {d : Nat → St → Bool × St} {s0 : St} {ps : List Nat} : ∀ k, (∀ j < k, bN d s0 j = false) → kept d s0 ps k = ps.take k
  | 0, _ => rfl
  | k + 1, h => by rw [kept, if_neg (by rw [h k (by omega)]; decide), kept_pre k fun j hj => h j (by omega), List.take_add_one]
theorem kept_len {St : Type} {d : Nat → St → Bool × St} {s0 : St} {ps : List Nat} : ∀ k, (kept d s0 ps k).length ≤ k
  | 0 => Nat.le_refl _
  | k + 1 => by
    have := kept_len (d := d) (s0 := s0) (ps := ps) k
    rw [kept]; split
    · omega
    · rw [List.length_append]; cases ps[k]? <;> simp <;> omega
theorem kept_hit {St : Type} {d : Nat → St → Bool × St} {s0 : St} {ps : List Nat} {k : Nat} (h : ∀ j < k, bN d s0 j = false) (hk : bN d s0 k = true) : kept d s0 ps (k + 1) = ps.take k := by rw [kept, if_pos hk, kept_pre k h]
theorem set_take {α : Type} {q : List α} {i : Nat} {p : α} (h : i < q.length) : (q.set i p).take (i + 1) = q.take i ++ [p] := by rw [List.take_add_one, List.take_set_of_le (Nat.le_refl i), List.getElem?_set, if_pos rfl, if_pos h]; rfl
theorem set_drop {α : Type} {q : List α} {i j : Nat} {p : α} (h : i < j) : (q.set i p).drop j = q.drop j := by rw [List.drop_set_of_lt h]
theorem drop_at {α : Type} {q ps : List α} {j : Nat} (h : q.drop j = ps.drop j) : q[j]? = ps[j]? := by
  have := congrArg (fun l => l[0]?) h
  simpa [List.getElem?_drop] using this
theorem drop_next {α : Type} {q ps : List α} {j : Nat} (h : q.drop j = ps.drop j) : q.drop (j + 1) = ps.drop (j + 1) := by
  rw [← List.drop_drop, ← List.drop_drop, h]
theorem ones_ptrs (l : List Nat) : ones (l.flatMap pcell) := flat_ones (fun _ => .of rfl) l
def zs (n : Nat) : List Value := (Builtin.zeroCells (Value.pointer none).cells n).toList
theorem zs_len (n : Nat) : (zs n).length = n := by simp [zs, Builtin.zeroCells, Value.cells]
theorem flat1 (l : List Nat) : (l.flatMap pcell).length = l.length := by rw [flat_length pcell_len, Nat.mul_one]
theorem clear_cells (q : List Nat) (i n : Nat) (hi : i + n = q.length) {pre post : List Value} : splice (pre ++ (q.flatMap pcell ++ post)) (pre.length + i) (zs n) = pre ++ ((q.take i).flatMap pcell ++ (zs n ++ post)) := by
  rw [splice_mid (by rw [zs_len, flat1]; omega)]
  unfold splice
  rw [zs_len, ← flat_take pcell_len q i, Nat.mul_one, List.drop_eq_nil_of_le (by rw [flat1]; omega), List.append_nil, List.append_assoc]
theorem srcTail {R : SProp} (l : List Nat) (i : Nat) (hi : i < l.length) (b c : Nat) (pre post : List Value) (hc : l.length ≤ c) :
    Knows (blk b (pre ++ (l.flatMap pcell ++ post)) 63 :: [R]) (SrcAt Tryd.prog 1 58 (.slice (if c = i + 1 then some ⟨b, pre.length, none⟩ else Option.map (fun x : Addr => x.add ((i + 1) * 1)) (some ⟨b, pre.length, none⟩)) (l.length - (i + 1)) (c - (i + 1))) (l.length - (i + 1)) ((l.drop (i + 1)).flatMap pcell)) := by
  have hl : ((l.drop (i + 1)).flatMap pcell).length = (l.length - (i + 1)) * 1 := by rw [flat_length pcell_len, List.length_drop]
  refine Knows.srcRow (e := 63) ?_ Tryd.underlying58 hl (by decide)
  by_cases h : c = i + 1
  · rw [List.drop_eq_nil_of_le (by omega)]; exact fun _ _ _ => .inl rfl
  · rw [if_neg h]
    refine (Knows.blkAt (o := pre.length + (i + 1) * 1) (cs := (l.drop (i + 1)).flatMap pcell) .head ?_).mono fun w hw => .inr ⟨b, pre.length + (i + 1) * 1, by simp [Addr_add], hw⟩
    intro j v hv
    rw [← flat_drop pcell_len, List.getElem?_drop] at hv
    rw [Nat.add_assoc]
    exact at_mid hv
theorem del_cells (l : List Nat) (i : Nat) (hi : i < l.length) {pre post : List Value} :
    splice (splice (pre ++ (l.flatMap pcell ++ post)) (pre.length + i * 1) ((l.drop (i + 1)).flatMap pcell)) (pre.length + (l.length - 1)) (zs 1) = pre ++ ((l.eraseIdx i).flatMap pcell ++ (zs 1 ++ post)) := by
  have hl : ((l.drop (i + 1)).flatMap pcell).length = (l.length - (i + 1)) * 1 := by rw [flat_length pcell_len, List.length_drop]
  have hf := flat_length pcell_len l
  rw [splice_mid (by omega), splice_mid, ← Nat.mul_one (l.length - 1), cut_cells pcell_len l i hi (zs 1) (zs_len 1)]
  · simp [List.append_assoc]
  · rw [length_splice _ _ _ (by omega), zs_len, hf]; omega
theorem cut_len (l : List Nat) (i : Nat) (hi : i < l.length) {pre post : List Value} : (splice (pre ++ (l.flatMap pcell ++ post)) (pre.length + i * 1) ((l.drop (i + 1)).flatMap pcell)).length = pre.length + l.length + post.length := by
  rw [length_splice _ _ _ (by rw [flat_length pcell_len, List.length_append, List.length_append, flat_length pcell_len, List.length_drop]; omega), List.length_append, List.length_append, flat_length pcell_len]; omega

set_option maxRecDepth 20000 in
theorem indexf_ok (ps : List Nat) {St : Type} (X : St → SProp) (d : Nat → St → Bool × St) (s0 : St) (φ : World → Prop) (f : FuncId) (cap : Array Value) (hf : ∀ (i p : Nat), ps[i]? = some p → Cn Tryd.prog f (.pointer (some ⟨p, 0, none⟩) :: cap.toList) φ [X (stN d s0 i)] fun v G => v = .bool (bN d s0 i) ∧ G = [X (stN d s0 (i + 1))]) (a : Option Addr) (c : Nat) (hn : ps.length ≤ 1000000) : Cn Tryd.prog 27 [.slice a ps.length c, .func (.func f) #[] cap] (fun w => RowAt a (ps.flatMap pcell) w ∧ φ w) [X s0] fun v G => (∃ k < ps.length, bN d s0 k = true ∧ (∀ j < k, bN d s0 j = false) ∧ v = .int .i64 (k : Nat) ∧ G = [X (stN d s0 (k + 1))]) ∨ ((∀ j < ps.length, bN d s0 j = false) ∧ v = .int .i64 (-1) ∧ G = [X (stN d s0 ps.length)]) := by
  refine .enter Tryd.func27 rfl (by kernel_rfl) rfl fun R k => ?_
  refine .seq ?_
  refine .region ?_
  refine .rd (.assign rfl) ?_
  refine .nil ?_
  refine .seq ?_
  refine .seq ?_
  refine .region ?_
  refine .rd (.move rfl) ?_
  refine .rd (.lenL rfl rfl Tryd.underlying58 rfl) ?_
  refine .rd (.move rfl) ?_
  refine .nil ?_
  refine .block ?_
  refine .loop (σ := Nat) (fun i => i ≤ ps.length ∧ ∀ j < i, bN d s0 j = false) (fun i => ps.length - i) (fun i => [(0, .slice a ps.length c), (1, .func (.func f) #[] cap), (7, .int .i64 ps.length), (8, .int .i64 (i : Nat))]) (fun i => [X (stN d s0 i), R]) 0 ⟨Nat.zero_le _, fun j hj => absurd hj (Nat.not_lt_zero j)⟩ (.cons rfl (.cons rfl (.cons rfl (.cons rfl .nil)))) (.cons .head (.cons .head .nil)) (fun i hI ih => ?_)
  have hi := hI.1
  refine .seq ?_
  refine .region ?_
  refine .rd (.lt rfl rfl) ?_
  refine .nil ?_
  refine .seq ?_
  refine .condP rfl (fun h2 => ?_) (fun h2 => ?_)
  · refine .skip ?_
    refine .seq ?_
    refine .block ?_
    refine .seq ?_
    refine .region ?_
    refine .rd (.move rfl) ?_
    refine .rd (.assign rfl) ?_
    refine .nil ?_
    refine .seq ?_
    obtain ⟨p, hp⟩ : ∃ p, ps[i]? = some p := ⟨_, List.getElem?_eq_getElem (by omega)⟩
    refine .tell (φ := ∃ b o, a = some ⟨b, o, none⟩) (Knows.pick (.tail .head) (k.mono fun _ h => RowAt.addr h.1 (by rw [flat1]; omega))) (fun hh => ?_)
    obtain ⟨b9, o9, hab⟩ := hh
    refine .region ?_
    refine .rd (.move rfl) ?_
    refine .rd (.move rfl) ?_
    refine .rd (.move rfl) ?_
    refine .rd (.indexAddr (b := b9) (o := o9) Tryd.underlying58 ts63 (by show some (Value.slice a _ _) = _; rw [hab]) rfl (by omega) (by omega)) ?_
    refine .rd (.load na63 rfl (Knows.one (i := 0) (Knows.elem (f := pcell) pcell_len (by decide) (Knows.pick (.tail .head) (k.mono fun _ h => hab ▸ h.1)) hp) rfl)) ?_
    refine .fnC rfl rfl (.cons .head .nil) (Knows.pick .head (k.mono fun _ h => h.2)) (hf i p hp) (fun v G1 hq => ?_)
    obtain ⟨rfl, rfl⟩ := hq
    simp only [List.cons_append, List.nil_append]
    refine .nil ?_
    refine .cond rfl (fun h4 => ?_) (fun h4 => ?_)
    · refine .seq ?_
      refine .region ?_
      refine .rd (.move rfl) ?_
      refine .rd (.assign rfl) ?_
      refine .nil ?_
      refine .retP Tryd.func27 (.cons (.tmp rfl) .nil) (.cons .head (.cons .head .nil)) ?_
      exact ⟨[_], .inl ⟨i, by omega, h4, hI.2, rfl, rfl⟩, rfl⟩
    · refine .skip ?_
      refine .inBlock ?_
      refine .region ?_
      refine .rd (.add rfl rfl (by omega) (by omega)) ?_
      refine .rd (.move rfl) ?_
      refine .nil ?_
      exact (ih (i + 1) ⟨by omega, fun j hj => by rcases Nat.lt_or_eq_of_le (Nat.le_of_lt_succ hj) with h | h; exact hI.2 j h; rw [h]; exact h4⟩ (by omega)).to (.cons rfl (.cons rfl (.cons rfl (.cons rfl .nil)))) (.cons .head (.cons .head .nil))
  · refine .exit rfl ?_
    refine .seq ?_
    refine .region ?_
    refine .rd (.assign rfl) ?_
    refine .nil ?_
    obtain rfl : i = ps.length := by omega
    refine .retP Tryd.func27 (.cons (.tmp rfl) .nil) (.cons .head (.cons .head .nil)) ?_
    exact ⟨[_], .inr ⟨hI.2, rfl, rfl⟩, rfl⟩

set_option maxRecDepth 20000 in
theorem deletef_ok (ps : List Nat) {St : Type} (X : St → SProp) (d : Nat → St → Bool × St) (s0 : St) (φ : World → Prop) (f : FuncId) (cap : Array Value) (hf : ∀ (i p : Nat), ps[i]? = some p → Cn Tryd.prog f (.pointer (some ⟨p, 0, none⟩) :: cap.toList) φ [X (stN d s0 i)] fun v G => v = .bool (bN d s0 i) ∧ G = [X (stN d s0 (i + 1))]) (a : Option Addr) (c : Nat) (hn : ps.length ≤ 1000000) : Cn Tryd.prog 21 [.slice a ps.length c, .func (.func f) #[] cap] φ [arr 63 1 a c (ps.flatMap pcell), X s0] fun v G => v = .slice a (kept d s0 ps ps.length).length c ∧ G = [arr 63 1 a c ((kept d s0 ps ps.length).flatMap pcell), X (stN d s0 ps.length)] := by
  refine .enter Tryd.func21 rfl (by kernel_rfl) rfl fun R k => ?_
  refine .seq ?_
  refine .region ?_
  refine .rd (.assign rfl) ?_
  refine .nil ?_
  refine .seq ?_
  refine .region ?_
  refine .rd (.move rfl) ?_
  refine .rd (.move rfl) ?_
  refine .fn rfl rfl (.cons (.tail .head) .nil) (fun A w h => ⟨(Knows.arr .head) A w h, (Knows.pick (.tail .head) k) A w h⟩) (indexf_ok ps X d s0 φ f cap hf a c hn) (fun v G1 hq => ?_)
  rcases hq with ⟨k0, hk0, hbk, hbj, rfl, rfl⟩ | ⟨hbj, rfl, rfl⟩
  · simp only [List.cons_append, List.nil_append]
    refine .rd (.assign rfl) ?_
    refine .nil ?_
    refine .seq ?_
    refine .seq ?_
    refine .region ?_
    refine .rd (.move rfl) ?_
    refine .rd (.eqI rfl rfl) ?_
    refine .nil ?_
    refine .condP rfl (fun h2 => ?_) (fun h2 => ?_)
    · exact absurd h2 (by omega)
    · refine .skip ?_
      refine .seq ?_
      refine .seq ?_
      refine .tell (φ := ps.length ≤ c) (fun A w h => by have := (h.map fun _ => ((.tail .head) : Pick (arr 63 1 a c (ps.flatMap pcell)) _ _).sat).arr_len.1; rw [flat1] at this; omega) (fun hpc => ?_)
      refine .open_ (.tail .head) (fun h => arr.blk_of (by omega)) (fun x hx => ?_)
      obtain ⟨bb, pre, post⟩ := x
      obtain ⟨rfl, hlen⟩ := hx
      dsimp only at hlen
      rw [flat1, Nat.mul_one] at hlen
      simp only [List.cons_append, List.nil_append]
      have hkh := kept_hit (ps := ps) hbj hbk
      refine .region ?_
      refine .rd (.move rfl) ?_
      refine .rd (.add rfl rfl (by omega) (by omega)) ?_
      refine .rd (.assign rfl) ?_
      refine .nil ?_
      refine .block ?_
      refine .loop (σ := Nat × List Nat) (fun ⟨j, q⟩ => k0 < j ∧ j ≤ ps.length ∧ q.length = ps.length ∧ (kept d s0 ps j).length < j ∧ q.take (kept d s0 ps j).length = kept d s0 ps j ∧ q.drop j = ps.drop j) (fun ⟨j, q⟩ => ps.length - j) (fun ⟨j, q⟩ => [(0, .slice (some ⟨bb, pre.length, none⟩ : Option Addr) ps.length c), (1, .func (.func f) #[] cap), (5, .int .i64 ((kept d s0 ps j).length : Nat)), (6, .int .i64 (j : Nat))]) (fun ⟨j, q⟩ => [blk bb (pre ++ (q.flatMap pcell ++ post)) 63, X (stN d s0 j), R]) (k0 + 1, ps) ⟨Nat.lt_succ_self _, hk0, rfl, by rw [hkh, List.length_take]; omega, by rw [hkh, List.length_take, Nat.min_eq_left (by omega)], rfl⟩ (.cons rfl (.cons rfl (.cons (by show _ = some (Value.int .i64 ((kept d s0 ps (k0 + 1)).length : Nat)); rw [hkh, List.length_take, Nat.min_eq_left (by omega)]; rfl) (.cons rfl .nil)))) (.cons .head (.cons .head (.cons .head .nil))) (fun s' hI ih => ?_)
      obtain ⟨j, q⟩ := s'
      dsimp only at hI ih ⊢
      obtain ⟨hkj, hjn, hql, hkl, hqt, hqd⟩ := hI
      refine .seq ?_
      refine .seq ?_
      refine .region ?_
      refine .rd (.move rfl) ?_
      refine .rd (.move rfl) ?_
      refine .rd (.lenL rfl rfl Tryd.underlying58 rfl) ?_
      refine .rd (.lt rfl rfl) ?_
      refine .nil ?_
      refine .condP rfl (fun h5 => ?_) (fun h5 => ?_)
      · refine .skip ?_
        refine .seq ?_
        refine .block ?_
        refine .seq ?_
        obtain ⟨p, hp⟩ : ∃ p, ps[j]? = some p := ⟨_, List.getElem?_eq_getElem (by omega)⟩
        have hqp : q[j]? = some p := (drop_at hqd).trans hp
        refine .region ?_
        refine .rd (.move rfl) ?_
        refine .rd (.move rfl) ?_
        refine .rd (.indexAddr Tryd.underlying58 ts63 rfl rfl (by omega) (by omega)) ?_
        refine .rd (.load na63 rfl (Knows.one (i := 0) (Knows.mid pcell_len .head hqp) rfl)) ?_
        refine .rd (.assign rfl) ?_
        refine .nil ?_
        refine .seq ?_
        refine .region ?_
        refine .rd (.move rfl) ?_
        refine .rd (.move rfl) ?_
        refine .fnC rfl rfl (.cons (.tail .head) .nil) (Knows.pick (.tail .head) (k.mono fun _ h => h)) (hf j p hp) (fun v G1 hq => ?_)
        obtain ⟨rfl, rfl⟩ := hq
        simp only [List.cons_append, List.nil_append]
        refine .rd (.not rfl) ?_
        refine .nil ?_
        rcases h8 : bN d s0 j with _ | _
        · refine .condT rfl ?_
          have hkd : kept d s0 ps (j + 1) = kept d s0 ps j ++ [p] := by rw [kept, if_neg (by rw [h8]; decide), hp]; rfl
          have hkn : (kept d s0 ps (j + 1)).length = (kept d s0 ps j).length + 1 := by rw [hkd]; simp
          have hI2 : (q.set (kept d s0 ps j).length p).length = ps.length ∧ (kept d s0 ps (j + 1)).length < j + 1 ∧ (q.set (kept d s0 ps j).length p).take (kept d s0 ps (j + 1)).length = kept d s0 ps (j + 1) ∧ (q.set (kept d s0 ps j).length p).drop (j + 1) = ps.drop (j + 1) := ⟨by rw [List.length_set]; exact hql, by omega, by rw [hkn, set_take (by omega), hqt, hkd], by rw [set_drop (by omega)]; exact drop_next hqd⟩
          refine .seq ?_
          refine .region ?_
          refine .rd (.move rfl) ?_
          refine .rd (.move rfl) ?_
          refine .rd (.move rfl) ?_
          refine .rd (.indexAddr Tryd.underlying58 ts63 rfl rfl (by omega) (by omega)) ?_
          refine .ef0 (.store (o := pre.length + (kept d s0 ps j).length) (v := .pointer (some ⟨p, 0, none⟩)) ts63 (by show some (Value.pointer (some _)) = _; rw [Int.toNat_natCast, Nat.mul_one]) rfl (.tail .head) rfl (by rw [List.length_append, List.length_append, flat1]; omega)) ?_
          rintro _ _ rfl
          refine .nil ?_
          refine .cast (X' := blk bb (pre ++ ((q.set (kept d s0 ps j).length p).flatMap pcell ++ post)) 63) (by rw [set_mid (by rw [flat1]; omega)]; have hq2 : q[(kept d s0 ps j).length]? = some q[(kept d s0 ps j).length] := List.getElem?_eq_getElem (by omega); rw [← flat_set pcell_len q _ _ p hq2 0 (.pointer (some ⟨p, 0, none⟩)) (by decide) rfl, Nat.mul_one]; rfl) ?_
          refine .region ?_
          refine .rd (.move rfl) ?_
          refine .rd (.add rfl rfl (by omega) (by omega)) ?_
          refine .rd (.assign rfl) ?_
          refine .nil ?_
          refine .inBlock ?_
          refine .region ?_
          refine .rd (.move rfl) ?_
          refine .rd (.add rfl rfl (by omega) (by omega)) ?_
          refine .rd (.assign rfl) ?_
          refine .nil ?_
          exact (ih (j + 1, q.set (kept d s0 ps j).length p) ⟨by show k0 < j + 1; omega, by show j + 1 ≤ _; omega, hI2⟩ (by show ps.length - (j + 1) < ps.length - j; omega)).to (.cons rfl (.cons rfl (.cons (by show _ = some (Value.int .i64 ((kept d s0 ps (j + 1)).length : Nat)); rw [hkn]; rfl) (.cons rfl .nil)))) (.cons .head (.cons .head (.cons .head .nil)))
        · refine .condF rfl ?_
          have hkd : kept d s0 ps (j + 1) = kept d s0 ps j := by rw [kept, if_pos h8]
          have hkn : (kept d s0 ps (j + 1)).length = (kept d s0 ps j).length := by rw [hkd]
          have hI2 : q.length = ps.length ∧ (kept d s0 ps (j + 1)).length < j + 1 ∧ q.take (kept d s0 ps (j + 1)).length = kept d s0 ps (j + 1) ∧ q.drop (j + 1) = ps.drop (j + 1) := ⟨hql, by omega, by rw [hkd]; exact hqt, drop_next hqd⟩
          refine .skip ?_
          refine .inBlock ?_
          refine .region ?_
          refine .rd (.move rfl) ?_
          refine .rd (.add rfl rfl (by omega) (by omega)) ?_
          refine .rd (.assign rfl) ?_
          refine .nil ?_
          exact (ih (j + 1, q) ⟨by show k0 < j + 1; omega, by show j + 1 ≤ _; omega, hI2⟩ (by show ps.length - (j + 1) < ps.length - j; omega)).to (.cons rfl (.cons rfl (.cons (by show _ = some (Value.int .i64 ((kept d s0 ps (j + 1)).length : Nat)); rw [hkn]; rfl) (.cons rfl .nil)))) (.cons (.tail .head) (.cons .head (.cons .head .nil)))
      · refine .exit rfl ?_
        refine .seq ?_
        refine .region ?_
        refine .rd (.move rfl) ?_
        refine .rd (.move rfl) ?_
        obtain rfl : j = ps.length := by omega
        refine .rd (.slice (l := (kept d s0 ps ps.length).length) (h := ps.length) (m := c) Tryd.underlying58 ts63 rfl rfl ⟨rfl, rfl⟩ ⟨_, rfl⟩ (by omega) (by omega) (by omega)) ?_
        refine .ef0 (.clear (b := bb) (o := pre.length + (kept d s0 ps ps.length).length) (n := ps.length - (kept d s0 ps ps.length).length) (cap := c - (kept d s0 ps ps.length).length) rfl rfl Tryd.underlying58 ti63 rfl (ones.of rfl) (by show some _ = some _; rw [if_neg (by omega)]; simp [Addr_add]) .head (by rw [List.length_append, List.length_append, flat1]; omega)) ?_
        rintro _ _ rfl
        refine .nil ?_
        refine .seq ?_
        refine .region ?_
        refine .rd (.move rfl) ?_
        refine .rd (.move rfl) ?_
        refine .rd (.slice (l := 0) (h := (kept d s0 ps ps.length).length) (m := c) Tryd.underlying58 ts63 rfl rfl ⟨_, rfl⟩ rfl (by omega) (by omega) (by omega)) ?_
        refine .rd (.assign rfl) ?_
        refine .nil ?_
        refine .close (X := arr 63 1 (some ⟨bb, pre.length, none⟩ : Option Addr) c ((kept d s0 ps ps.length).flatMap pcell)) (.cons .head .nil) (fun h H => sat.arr_close (post := zs (ps.length - (kept d s0 ps ps.length).length) ++ post) (by rw [flat1, List.length_append, zs_len]; omega) (by rw [← hqt.symm.trans hqt, ← congrArg (List.flatMap pcell) hqt, ← clear_cells q _ _ (by omega)]; exact H)) ?_
        refine .retP Tryd.func21 (.cons (.tmp rfl) .nil) (.cons .head (.cons .head (.cons .head .nil))) ?_
        exact ⟨[_, _], ⟨by simp only [resVal]; rw [if_neg (by omega)]; simp [Addr_add], rfl⟩, rfl⟩
  · simp only [List.cons_append, List.nil_append]
    refine .rd (.assign rfl) ?_
    refine .nil ?_
    refine .seq ?_
    refine .seq ?_
    refine .region ?_
    refine .rd (.move rfl) ?_
    refine .rd (.eqI rfl rfl) ?_
    refine .nil ?_
    refine .condP rfl (fun h2 => ?_) (fun h2 => ?_)
    · refine .seq ?_
      refine .region ?_
      refine .rd (.move rfl) ?_
      refine .rd (.assign rfl) ?_
      refine .nil ?_
      have hka : kept d s0 ps ps.length = ps := by rw [kept_pre _ hbj, List.take_length]
      refine .retP Tryd.func21 (.cons (.tmp rfl) .nil) (.cons (.tail .head) (.cons .head (.cons .head .nil))) ?_
      exact ⟨[_, _], by rw [hka]; exact ⟨rfl, rfl⟩, rfl⟩
    · exact absurd rfl h2

set_option maxRecDepth 20000 in
theorem delete_ok (a : Option Addr) (c : Nat) (ps : List Nat) (i : Nat) (hi : i < ps.length) (hn : ps.length ≤ 1000000) : Cn Tryd.prog 31 [.slice a ps.length c, .int .i64 i, .int .i64 ((i : Int) + 1)] (fun _ => True) [arr 63 1 a c (ps.flatMap pcell)] fun v G => v = .slice a (ps.length - 1) c ∧ G = [arr 63 1 a c ((ps.eraseIdx i).flatMap pcell)] := by
  refine .enter Tryd.func31 rfl (by kernel_rfl) rfl fun R k => ?_
  refine .tell (φ := ps.length ≤ c) (fun A w h => by have := (h.map fun _ => (.head : Pick (arr 63 1 a c (ps.flatMap pcell)) _ _).sat).arr_len.1; rw [flat1] at this; omega) (fun hpc => ?_)
  refine .open_ .head (fun h => arr.blk_of (by omega)) (fun x hx => ?_)
  obtain ⟨bb, pre, post⟩ := x
  obtain ⟨rfl, hlen⟩ := hx
  dsimp only at hlen
  rw [flat1, Nat.mul_one] at hlen
  simp only [List.cons_append, List.nil_append]
  refine .seq ?_
  refine .region ?_
  refine .rd (.assign rfl) ?_
  refine .nil ?_
  refine .seq ?_
  refine .region ?_
  refine .rd (.move rfl) ?_
  refine .rd (.move rfl) ?_
  refine .rd (.move rfl) ?_
  refine .rd (.move rfl) ?_
  refine .rd (.lenL rfl rfl Tryd.underlying58 rfl) ?_
  refine .rd (.slice (l := i) (h := i + 1) (m := ps.length) Tryd.underlying58 ts63 rfl ⟨_, rfl⟩ ⟨_, rfl⟩ ⟨_, rfl⟩ (by omega) (by omega) (by omega)) ?_
  refine .nil ?_
  refine .seq ?_
  refine .seq ?_
  refine .region ?_
  refine .rd (.move rfl) ?_
  refine .rd (.move rfl) ?_
  refine .rd (.eqI rfl rfl) ?_
  refine .nil ?_
  refine .condP rfl (fun c2 => absurd c2 (by omega)) (fun c2 => ?_)
  refine .skip ?_
  refine .seq ?_
  refine .region ?_
  refine .rd (.move rfl) ?_
  refine .rd (.lenL rfl rfl Tryd.underlying58 rfl) ?_
  refine .rd (.assign rfl) ?_
  refine .nil ?_
  refine .seq ?_
  refine .draws [] [] (by kernel_rfl) ?_
  refine .rp 0 rfl (by kernel_rfl) (by kernel_rfl) (by kernel_rfl) (Reads.pure (.move rfl)) ?_
  refine .rp 1 rfl (by kernel_rfl) (by kernel_rfl) (by kernel_rfl) (Reads.pure (.move rfl)) ?_
  refine .rp 2 rfl (by kernel_rfl) (by kernel_rfl) (by kernel_rfl) (Reads.pure (.slice (l := 0) (h := i) (m := c) Tryd.underlying58 ts63 rfl rfl ⟨_, rfl⟩ rfl (by omega) (by omega) (by omega))) ?_
  refine .rp 3 rfl (by kernel_rfl) (by kernel_rfl) (by kernel_rfl) (Reads.pure (.move rfl)) ?_
  refine .rp 4 rfl (by kernel_rfl) (by kernel_rfl) (by kernel_rfl) (Reads.pure (.move rfl)) ?_
  refine .rp 5 rfl (by kernel_rfl) (by kernel_rfl) (by kernel_rfl) (Reads.pure (.slice (l := i + 1) (h := ps.length) (m := c) Tryd.underlying58 ts63 rfl rfl ⟨rfl, rfl⟩ ⟨_, rfl⟩ (by omega) (by omega) (by omega))) ?_
  refine .ef 6 (by kernel_rfl) rfl (.appendRoom (b := bb) (o := pre.length) (n := i) (cap := c) rfl rfl Tryd.underlying58 ts63 (by show some _ = some _; rw [if_neg (by omega)]; simp [Addr_add]) rfl .head (srcTail ps i hi bb c pre post hpc) (by omega) (by rw [flat1, List.length_drop, List.length_append, List.length_append, flat1]; omega)) ?_
  rintro _ _ ⟨rfl, rfl⟩
  refine ⟨.inl (by kernel_rfl), ?_⟩
  refine .rp 7 rfl (by kernel_rfl) (by kernel_rfl) (by kernel_rfl) (Reads.pure (.assign rfl)) ?_
  refine .done (by kernel_rfl) ?_
  refine .seq ?_
  refine .region ?_
  refine .rd (.move rfl) ?_
  refine .rd (.move rfl) ?_
  refine .rd (.lenL rfl rfl Tryd.underlying58 rfl) ?_
  refine .rd (.move rfl) ?_
  refine .rd (.slice (l := i + (ps.length - (i + 1))) (h := ps.length) (m := c) Tryd.underlying58 ts63 rfl rfl ⟨_, rfl⟩ ⟨_, rfl⟩ (by omega) (by omega) (by omega)) ?_
  refine .ef0 (.clear (b := bb) (o := pre.length + (ps.length - 1)) (n := 1) (cap := c - (i + (ps.length - (i + 1)))) rfl rfl Tryd.underlying58 ti63 rfl (ones.of rfl) (by show some _ = some _; rw [if_neg (by omega), show i + (ps.length - (i + 1)) = ps.length - 1 by omega, show ps.length - (ps.length - 1) = 1 by omega]; simp [Addr_add]) .head (by have := cut_len ps i hi (pre := pre) (post := post); omega)) ?_
  rintro _ _ rfl
  refine .nil ?_
  refine .seq ?_
  refine .region ?_
  refine .rd (.move rfl) ?_
  refine .rd (.assign rfl) ?_
  refine .nil ?_
  refine .close (X := arr 63 1 (some ⟨bb, pre.length, none⟩ : Option Addr) c ((ps.eraseIdx i).flatMap pcell)) (.cons .head .nil) (fun h H => sat.arr_close (post := zs 1 ++ post) (by rw [flat1, List.length_eraseIdx_of_lt hi, List.length_append, zs_len]; omega) (by rw [← del_cells ps i hi]; exact H)) ?_
  refine .retP Tryd.func31 (.cons (.tmp rfl) .nil) (.cons .head (.cons .head .nil)) ?_
  exact ⟨[_], ⟨by simp only [resVal]; congr 1; omega, rfl⟩, rfl⟩

end Go.Proofs.YtankogdnhgmkhaaDoor


/- Chapter 19: a tick, call by call, in plain Lean and in memory. -/
namespace Go.Proofs.YtankogdnhgmkhaaDoor
open Go Go.Sp

theorem perm_out {α : Type} : ∀ {l : List α} {i : Nat} {y : α}, l[i]? = some y → l.Perm (y :: l.eraseIdx i)
  | [], _, _, h => by simp at h
  | x :: l, 0, y, h => by simp at h; subst h; exact .refl _
  | x :: l, i + 1, y, h => by
    have := perm_out (l := l) (i := i) (y := y) (by simpa using h)
    exact (this.cons x).trans (.swap y x _)
theorem perm_in {α : Type} {l : List α} {i : Nat} {y z : α} (h : l[i]? = some y) : (z :: l.eraseIdx i).Perm (l.set i z) := by
  obtain ⟨hi, _⟩ := List.getElem?_eq_some_iff.1 h
  have h2 : (l.set i z)[i]? = some z := by rw [List.getElem?_set, if_pos rfl, if_pos hi]
  have := perm_out h2
  rw [List.eraseIdx_set_eq] at this
  exact this.symm
theorem set_self {α : Type} {l : List α} {i : Nat} {y : α} (h : l[i]? = some y) : l.set i y = l := by
  apply List.ext_getElem?
  intro j
  rw [List.getElem?_set]
  split
  · rename_i e; subst e; obtain ⟨hi, _⟩ := List.getElem?_eq_some_iff.1 h; rw [if_pos hi, h]
  · rfl
theorem due_no {s : CS19} {now : Int} {x : Cl19} (h : now < x.deadline) : due s now x = (s, x, false, none) := if_pos h
theorem due_end {s : CS19} {now : Int} {x : Cl19} (h : ¬ now < x.deadline) (h2 : x.tries = 0 ∨ (harm x.s.kind = false ∧ x.refused = false)) : due s now x = (endS s x 21 none19, x, true, none) := by unfold due; rw [if_neg h, if_pos h2]
theorem due_ask {s : CS19} {now : Int} {x : Cl19} (h : ¬ now < x.deadline) (h2 : ¬ (x.tries = 0 ∨ (harm x.s.kind = false ∧ x.refused = false))) : due s now x = (askS (moved s x), askC (moved s x) now x, false, some (askC (moved s x) now x).m) := by unfold due; rw [if_neg h, if_neg h2]
theorem moved_eq (s : CS19) (x : Cl19) : ∃ a, moved s x = { s with aims := a } := by unfold moved; split; exact ⟨_, rfl⟩; exact ⟨s.aims, rfl⟩
theorem PB.moved {s : CS19} (h : PB s) (x : Cl19) : PB (moved s x) := by obtain ⟨a, e⟩ := moved_eq s x; rw [e]; exact { h with }
theorem next19_ok {n : Int} (h : 0 ≤ n ∧ n ≤ 1000000000) : 0 ≤ next19 n ∧ next19 n ≤ 1000000000 := by unfold next19; split <;> omega
theorem PB.ask {s : CS19} (h : PB s) : PB (askS s) := { h with number := next19_ok h.number }
theorem PB.endS {s : CS19} (h : PB s) (x : Cl19) (err : Int) (m : An19) : PB (endS s x err m) := { h with }
theorem PB.due {s : CS19} (h : PB s) (now : Int) (x : Cl19) : PB (due s now x).1 := by
  unfold Go.Proofs.YtankogdnhgmkhaaDoor.due
  split
  · exact h
  · split
    · exact h.endS ..
    · exact (h.moved x).ask
theorem due_keep (s : CS19) (now : Int) (x : Cl19) : (due s now x).1.brokers = s.brokers ∧ (due s now x).1.open_ = s.open_ ∧ (due s now x).1.ended.length ≤ s.ended.length + 1 ∧ (due s now x).1.id = s.id ∧ (due s now x).1.wait = s.wait ∧ (due s now x).1.tries = s.tries ∧ (due s now x).1.calls = s.calls := by
  unfold due
  split
  · exact ⟨rfl, rfl, Nat.le_succ _, rfl, rfl, rfl, rfl⟩
  · split
    · refine ⟨rfl, rfl, ?_, rfl, rfl, rfl, rfl⟩
      show (s.ended ++ [_]).length ≤ _; rw [List.length_append]; exact Nat.le_refl _
    · obtain ⟨a, e⟩ := moved_eq s x; rw [e]; exact ⟨rfl, rfl, Nat.le_succ _, rfl, rfl, rfl, rfl⟩
theorem due_po {s : CS19} {now : Int} {x : Cl19} (h : PO x) : PO (due s now x).2.1 := by
  unfold due
  split
  · exact h
  · split
    · exact h
    · rename_i h2
      refine ⟨?_, h.2⟩
      show 0 ≤ x.tries - 1 ∧ x.tries - 1 ≤ 1000
      have : x.tries ≠ 0 := fun e => h2 (.inl e)
      have := h.1; omega
/-- The closure's state: the consumer, the calls (those too that are over), what was said. -/
abbrev TS19 := CS19 × List CallX × List Mg19
def dTick (now : Int) (i : Nat) (st : TS19) : Bool × TS19 := match st.2.1[i]? with
  | none => (false, st)
  | some y => ((due st.1 now y.c).2.2.1, (due st.1 now y.c).1, st.2.1.set i ⟨y.a, (due st.1 now y.c).2.1⟩, st.2.2 ++ (due st.1 now y.c).2.2.2.toList)
theorem dTick_at {now : Int} {i : Nat} {st : TS19} {y : CallX} (h : st.2.1[i]? = some y) : dTick now i st = ((due st.1 now y.c).2.2.1, (due st.1 now y.c).1, st.2.1.set i ⟨y.a, (due st.1 now y.c).2.1⟩, st.2.2 ++ (due st.1 now y.c).2.2.2.toList) := by unfold dTick; rw [h]
def TL (pb : Nat) (x : PX19) (st : TS19) (ea : Option Addr) (ec : Nat) (oa : Option Addr) (oc : Nat) : List SProp :=
  [blk pb (st.1.cells { x with ea := ea, ec := ec } oa st.2.2.length oc) 60, bag CB st.2.1, IM x.ab st.1.aims, EL st.1 { x with ea := ea, ec := ec }, Said oa oc st.2.2, know (KN st.1 x)]
def TX (pb : Nat) (x : PX19) (st : TS19) : SProp := fun h => ∃ y : (Option Addr × Nat) × (Option Addr × Nat), sat (TL pb x st y.1.1 y.1.2 y.2.1 y.2.2) h
structure TInv (s0 : CS19) (cl0 : List CallX) (i : Nat) (st : TS19) : Prop where
  addrs : st.2.1.map (·.a) = cl0.map (·.a)
  pb : PB st.1
  po : ∀ y ∈ st.2.1, PO y.c
  many : st.2.2.length ≤ i
  ends : st.1.ended.length ≤ s0.ended.length + i
theorem map_set_a {cl : List CallX} {i : Nat} {y : CallX} (h : cl[i]? = some y) (c : Cl19) : (cl.set i ⟨y.a, c⟩).map (·.a) = cl.map (·.a) := by
  rw [List.map_set]
  exact set_self (by rw [List.getElem?_map, h]; rfl)
theorem TInv.next {s0 cl0 i st} (h : TInv s0 cl0 i st) (now : Int) : TInv s0 cl0 (i + 1) (dTick now i st).2 := by
  unfold dTick
  split
  · exact { h with many := Nat.le_succ_of_le h.many, ends := Nat.le_succ_of_le h.ends }
  · rename_i y hy
    exact { addrs := by show (st.2.1.set i _).map (·.a) = _; rw [map_set_a hy, h.addrs]
            pb := h.pb.due now y.c
            po := fun z hz => by
              rcases List.mem_or_eq_of_mem_set hz with hz | hz
              · exact h.po z hz
              · rw [hz]; exact due_po (h.po y (List.mem_of_getElem? hy))
            many := by
              show (st.2.2 ++ _).length ≤ _
              rw [List.length_append]; have := h.many
              cases (due st.1 now y.c).2.2.2 <;> simp <;> omega
            ends := by have := (due_keep st.1 now y.c).2.2.1; have := h.ends; show (due st.1 now y.c).1.ended.length ≤ _; omega }
theorem TInv.run {s0 cl0 st} (now : Int) (h : TInv s0 cl0 0 st) : ∀ i, TInv s0 cl0 i (stN (dTick now) st i)
  | 0 => h
  | i + 1 => (TInv.run now h i).next now
theorem TInv.at_ {s0 cl0 i st} (h : TInv s0 cl0 i st) {j p : Nat} (hp : (cl0.map (·.a))[j]? = some p) : ∃ y, st.2.1[j]? = some y ∧ y.a = p := by
  rw [← h.addrs, List.getElem?_map] at hp
  cases e : st.2.1[j]? with
  | none => rw [e] at hp; cases hp
  | some y => rw [e] at hp; exact ⟨y, rfl, by simpa using hp⟩
/-! ### The closure's run is the tick -/
theorem take_succ_some {α : Type} {l : List α} {i : Nat} {y : α} (h : l[i]? = some y) : l.drop i = y :: l.drop (i + 1) := by
  obtain ⟨hk, e⟩ := List.getElem?_eq_some_iff.1 h
  rw [List.drop_eq_getElem_cons hk, e]
/-- Those that are kept, with what they are by now. -/
def keptC (now : Int) (st0 : TS19) (n : Nat) : Nat → List CallX
  | 0 => []
  | j + 1 => if bN (dTick now) st0 j = true then keptC now st0 n j else keptC now st0 n j ++ ((stN (dTick now) st0 n).2.1[j]?).toList
theorem stN_later (now : Int) (st0 : TS19) (i : Nat) : ∀ k j, j < i → (stN (dTick now) st0 (i + k)).2.1[j]? = (stN (dTick now) st0 i).2.1[j]?
  | 0, _, _ => rfl
  | k + 1, j, hj => by
    rw [← Nat.add_assoc, stN, ← stN_later now st0 i k j hj]
    unfold dTick
    split
    · rfl
    · show (List.set _ _ _)[j]? = _; rw [List.getElem?_set, if_neg (by omega)]
theorem stN_ahead (now : Int) (st0 : TS19) : ∀ i j, i ≤ j → (stN (dTick now) st0 i).2.1[j]? = st0.2.1[j]?
  | 0, _, _ => rfl
  | i + 1, j, hj => by
    rw [stN, ← stN_ahead now st0 i j (by omega)]
    unfold dTick
    split
    · rfl
    · show (List.set _ _ _)[j]? = _; rw [List.getElem?_set, if_neg (by omega)]
theorem run_tick (now : Int) (st0 : TS19) (n : Nat) (hn : n = st0.2.1.length) : ∀ k i, i + k = n →
    (stN (dTick now) st0 n).1 = (tickL now (stN (dTick now) st0 i).1 ((st0.2.1.drop i).map (·.c))).1 ∧
    (stN (dTick now) st0 n).2.2 = (stN (dTick now) st0 i).2.2 ++ (tickL now (stN (dTick now) st0 i).1 ((st0.2.1.drop i).map (·.c))).2.2 ∧
    (keptC now st0 n n).map (·.c) = (keptC now st0 n i).map (·.c) ++ (tickL now (stN (dTick now) st0 i).1 ((st0.2.1.drop i).map (·.c))).2.1
  | 0, i, h => by
    obtain rfl : i = n := by omega
    rw [List.drop_eq_nil_of_le (by omega)]
    simp [tickL]
  | k + 1, i, h => by
    obtain ⟨y, hy⟩ : ∃ y, st0.2.1[i]? = some y := ⟨_, List.getElem?_eq_getElem (by omega)⟩
    have hy2 : (stN (dTick now) st0 i).2.1[i]? = some y := (stN_ahead now st0 i i (Nat.le_refl _)).trans hy
    obtain ⟨e1, e2, e3⟩ := run_tick now st0 n hn k (i + 1) (by omega)
    have hd := dTick_at (now := now) hy2
    have hs : stN (dTick now) st0 (i + 1) = (dTick now i (stN (dTick now) st0 i)).2 := rfl
    have hc : (stN (dTick now) st0 n).2.1[i]? = some ⟨y.a, (due (stN (dTick now) st0 i).1 now y.c).2.1⟩ := by
      obtain ⟨m, rfl⟩ : ∃ m, n = (i + 1) + m := ⟨n - (i + 1), by omega⟩
      rw [stN_later now st0 (i + 1) m i (by omega), hs, hd]
      show (List.set _ _ _)[i]? = _
      rw [List.getElem?_set, if_pos rfl, if_pos (List.getElem?_eq_some_iff.1 hy2).1]
    have hb : bN (dTick now) st0 i = (due (stN (dTick now) st0 i).1 now y.c).2.2.1 := by unfold bN; rw [hd]
    rw [take_succ_some hy, List.map_cons, tickL]
    dsimp only
    rw [hs, hd] at e1 e2 e3
    dsimp only at e1 e2 e3
    refine ⟨e1, by rw [e2, List.append_assoc], ?_⟩
    rw [e3, keptC, hb, hc]
    split <;> simp
theorem kept_map (now : Int) (st0 : TS19) (s0 : CS19) (h : TInv s0 st0.2.1 0 st0) (n : Nat) (hn : n = st0.2.1.length) : ∀ j ≤ n, (keptC now st0 n j).map (·.a) = kept (dTick now) st0 (st0.2.1.map (·.a)) j
  | 0, _ => rfl
  | j + 1, hj => by
    rw [keptC, kept]
    split
    · exact kept_map now st0 s0 h n hn j (by omega)
    · rw [List.map_append, kept_map now st0 s0 h n hn j (by omega), ← (h.run now n).addrs, List.getElem?_map]
      cases (stN (dTick now) st0 n).2.1[j]? <;> rfl
theorem kept_sub (now : Int) (st0 : TS19) (n : Nat) : ∀ j, ∃ r, ((stN (dTick now) st0 n).2.1.take j).Perm (keptC now st0 n j ++ r)
  | 0 => ⟨[], by simp [keptC]⟩
  | j + 1 => by
    obtain ⟨r, hr⟩ := kept_sub now st0 n j
    rw [keptC, List.take_add_one]
    split
    · exact ⟨r ++ ((stN (dTick now) st0 n).2.1[j]?).toList, by rw [← List.append_assoc]; exact hr.append_right _⟩
    · refine ⟨r, (hr.append_right _).trans ?_⟩
      rw [List.append_assoc, List.append_assoc]
      exact (List.perm_append_comm).append_left _
end Go.Proofs.YtankogdnhgmkhaaDoor

/- Chapter 19: whose answer it is, in plain Lean. -/
namespace Go.Proofs.YtankogdnhgmkhaaDoor
open Go Go.Sp

def dFit (s : CS19) (m : An19) (cl : List CallX) (i : Nat) (u : Unit) : Bool × Unit := ((cl[i]?).any fun y => fits19 s m y.c, u)
theorem dFit_at {s : CS19} {m : An19} {cl : List CallX} {i : Nat} {u : Unit} {y : CallX} (h : cl[i]? = some y) : dFit s m cl i u = (fits19 s m y.c, u) := by unfold dFit; rw [h]; rfl
theorem fit_hit {s : CS19} {m : An19} {cl : List CallX} {now : Int} {k : Nat} (hc : cl.map (·.c) = s.open_) (hk : k < cl.length) (hb : bN (dFit s m cl) () k = true) (hj : ∀ j < k, bN (dFit s m cl) () j = false) :
    ∃ y, cl[k]? = some y ∧ step s now m = stepAt s now m k y.c := by
  obtain ⟨y, hy⟩ : ∃ y, cl[k]? = some y := ⟨_, List.getElem?_eq_getElem hk⟩
  refine ⟨y, hy, ?_⟩
  have hy2 : s.open_[k]? = some y.c := by rw [← hc, List.getElem?_map, hy]; rfl
  have hb2 : fits19 s m y.c = true := by unfold bN at hb; rw [dFit_at hy] at hb; exact hb
  have : s.open_.findIdx? (fits19 s m) = some k := by
    rw [List.findIdx?_eq_some_iff_getElem]
    obtain ⟨hi, e⟩ := List.getElem?_eq_some_iff.1 hy2
    refine ⟨hi, by rw [e]; exact hb2, fun j hjk => ?_⟩
    obtain ⟨z, hz⟩ : ∃ z, cl[j]? = some z := ⟨_, List.getElem?_eq_getElem (by omega)⟩
    have h1 := hj j hjk
    unfold bN at h1; rw [dFit_at hz] at h1
    have hz2 : s.open_[j]? = some z.c := by rw [← hc, List.getElem?_map, hz]; rfl
    obtain ⟨_, e2⟩ := List.getElem?_eq_some_iff.1 hz2
    rw [e2]; simpa using h1
  unfold step; rw [this]; dsimp only; rw [hy2]
theorem fit_miss {s : CS19} {m : An19} {cl : List CallX} {now : Int} (hc : cl.map (·.c) = s.open_) (hj : ∀ j < cl.length, bN (dFit s m cl) () j = false) : step s now m = s := by
  have : s.open_.findIdx? (fits19 s m) = none := by
    rw [List.findIdx?_eq_none_iff]
    intro z hz
    rw [← hc] at hz
    obtain ⟨y, hy, rfl⟩ := List.mem_map.1 hz
    obtain ⟨j, hy⟩ := List.mem_iff_getElem?.1 hy
    have h1 := hj j (List.getElem?_eq_some_iff.1 hy).1
    unfold bN at h1; rw [dFit_at hy] at h1
    exact h1
  unfold step; rw [this]
theorem mset_mset {κ ν : Type} [DecidableEq κ] (T : List (κ × ν)) (q : κ) (v w : ν) : mset (mset T q v) q w = mset T q w := by
  unfold mset
  by_cases h : T.any (fun p => decide (q = p.1)) = true
  · rw [if_pos h, if_pos h]
    have h2 : (T.map fun p => if q = p.1 then (p.1, v) else p).any (fun p => decide (q = p.1)) = true := by
      rw [List.any_eq_true] at h ⊢
      obtain ⟨p, hp, he⟩ := h
      refine ⟨(p.1, v), List.mem_map.2 ⟨p, hp, ?_⟩, he⟩
      rw [if_pos (by simpa using he)]
    rw [if_pos h2, List.map_map]
    refine List.map_congr_left fun p _ => ?_
    show (if q = (if q = p.1 then (p.1, v) else p).1 then ((if q = p.1 then (p.1, v) else p).1, w) else (if q = p.1 then (p.1, v) else p)) = if q = p.1 then (p.1, w) else p
    by_cases hq : q = p.1
    · simp [hq]
    · simp [hq]
  · rw [if_neg h, if_neg h]
    have h2 : (T ++ [(q, v)]).any (fun p => decide (q = p.1)) = true := by rw [List.any_append]; simp
    rw [if_pos h2, List.map_append]
    have h3 : T.map (fun p => if q = p.1 then (p.1, w) else p) = T := by
      rw [List.map_congr_left (g := id)]
      · simp
      · intro p hp
        have : q ≠ p.1 := fun e => h (List.any_eq_true.2 ⟨p, hp, by simp [e]⟩)
        simp [this]
    rw [h3]; simp
theorem map_erase {α β : Type} (f : α → β) : ∀ (l : List α) (i : Nat), (l.eraseIdx i).map f = (l.map f).eraseIdx i
  | [], _ => rfl
  | _ :: _, 0 => rfl
  | x :: l, i + 1 => by rw [List.eraseIdx_cons_succ, List.map_cons, List.map_cons, List.eraseIdx_cons_succ, map_erase f l i]
theorem stepAt_led {s : CS19} {now : Int} {m : An19} {i : Nat} {x : Cl19} (h : m.err = 15 ∨ m.err = 22) : stepAt s now m i x = led s now i x m.last := if_pos h
theorem stepAt_wait {s : CS19} {now : Int} {m : An19} {i : Nat} {x : Cl19} (h : ¬ (m.err = 15 ∨ m.err = 22)) (h2 : (m.err = 19 ∧ x.m.kind = 23) ∨ (m.err = 3 ∧ x.s.kind = 7)) : stepAt s now m i x = { s with open_ := s.open_.set i { x with deadline := now + s.wait, refused := true } } := by unfold stepAt; rw [if_neg h, if_pos h2]
theorem stepAt_end {s : CS19} {now : Int} {m : An19} {i : Nat} {x : Cl19} (h : ¬ (m.err = 15 ∨ m.err = 22)) (h2 : ¬ ((m.err = 19 ∧ x.m.kind = 23) ∨ (m.err = 3 ∧ x.s.kind = 7))) : stepAt s now m i x = endS { s with open_ := s.open_.eraseIdx i } x m.err m := by unfold stepAt; rw [if_neg h, if_neg h2]
end Go.Proofs.YtankogdnhgmkhaaDoor

/- Chapter 19: what stays true of a consumer, in plain Lean. -/
namespace Go.Proofs.YtankogdnhgmkhaaDoor
open Go Go.Sp

structure PI (s : CS19) : Prop where
  pb : PB s
  po : ∀ c ∈ s.open_, PO c
theorem may_of {q : Sn19} (h : may19 q = true) : (1 ≤ q.kind ∧ q.kind ≤ 9) ∧ (0 ≤ q.offset ∧ q.offset ≤ 1000000000) ∧ (0 ≤ q.part ∧ q.part ≤ 16) := by
  simp only [may19, number19, Bool.and_eq_true, decide_eq_true_eq] at h
  omega
theorem asksM_kind (q : Sn19) (z : Sl19) : (asksM q z).kind = 19 ∨ (asksM q z).kind = 25 ∨ (asksM q z).kind = 15 ∨ (asksM q z).kind = 23 := by
  unfold asksM
  split
  · exact .inl rfl
  · split
    · exact .inr (.inl rfl)
    · split
      · exact .inr (.inr (.inl rfl))
      · split
        · exact .inr (.inr (.inl rfl))
        · exact .inr (.inr (.inr rfl))
theorem PI.call {s : CS19} (h : PI s) {q : Sn19} (hm : may19 q = true) (ho : s.open_.length < 20) (hc : s.calls < 1000000) (now : Int) (z : Sl19) : PI (callS s now q z) where
  pb := { h.pb with
    number := next19_ok h.pb.number
    calls := by have := h.pb.calls; show 0 ≤ s.calls + 1 ∧ s.calls + 1 ≤ 1000000; omega
    opn := by show (s.open_ ++ [_]).length ≤ 20; rw [List.length_append]; show s.open_.length + 1 ≤ 20; omega }
  po := fun c hc => by
    rcases List.mem_append.1 hc with hc | hc
    · exact h.po c hc
    · rw [List.mem_singleton.1 hc]
      have h2 := h.pb.tries
      refine ⟨by show 0 ≤ s.tries - 1 ∧ s.tries - 1 ≤ 1000; omega, (may_of hm).2.1, ?_⟩
      show 1 ≤ (asksM q z).kind ∧ (asksM q z).kind ≤ 28 ∧ (asksM q z).kind % 2 = 1
      rcases asksM_kind q z with e | e | e | e <;> rw [e] <;> decide
theorem tickL_pi (now : Int) : ∀ (l : List Cl19) (s : CS19), PB s → (∀ c ∈ l, PO c) → PB (tickL now s l).1 ∧ (∀ c ∈ (tickL now s l).2.1, PO c) ∧ (tickL now s l).2.1.length ≤ l.length ∧ (tickL now s l).1.ended.length ≤ s.ended.length + l.length ∧ (tickL now s l).1.calls = s.calls ∧ (tickL now s l).1.wait = s.wait ∧ (tickL now s l).1.tries = s.tries ∧ (tickL now s l).1.id = s.id
  | [], s, h, _ => ⟨h, fun _ hc => (by cases hc), Nat.le_refl _, Nat.le_refl _, rfl, rfl, rfl, rfl⟩
  | x :: l, s, h, hp => by
    have hx := hp x (.head _)
    obtain ⟨h1, h2, h3, h4, h5, h6, h7, h8⟩ := tickL_pi now l (due s now x).1 (h.due now x) fun c hc => hp c (.tail _ hc)
    obtain ⟨k1, k2, k3, k4, k5, k6, k7⟩ := due_keep s now x
    rw [tickL]
    dsimp only
    refine ⟨h1, ?_, ?_, by rw [List.length_cons]; omega, h5.trans k7, h6.trans k5, h7.trans k6, h8.trans k4⟩
    · intro c hc
      split at hc
      · exact h2 c hc
      · rcases List.mem_cons.1 hc with rfl | hc
        · exact due_po hx
        · exact h2 c hc
    · split
      · rw [List.length_cons]; omega
      · rw [List.length_cons, List.length_cons]; omega
theorem PI.tick {s : CS19} (h : PI s) (now : Int) : PI (tick s now).1 := by
  obtain ⟨h1, h2, h3, _⟩ := tickL_pi now s.open_ s h.pb h.po
  exact ⟨{ h1 with opn := Nat.le_trans h3 h.pb.opn }, h2⟩
theorem tick_keep {s : CS19} (h : PI s) (now : Int) : (tick s now).1.ended.length ≤ s.ended.length + 20 ∧ (tick s now).1.calls = s.calls ∧ (tick s now).1.open_.length ≤ s.open_.length := by
  obtain ⟨_, _, h3, h4, h5, _⟩ := tickL_pi now s.open_ s h.pb h.po
  refine ⟨?_, h5, h3⟩
  show (tickL now s s.open_).1.ended.length ≤ _
  have := h.pb.opn; omega
theorem PI.set {s : CS19} (h : PI s) {i : Nat} {x : Cl19} {y : Cl19} (hx : s.open_[i]? = some x) (h1 : y.tries = x.tries) (h2 : y.s = x.s) (h3 : y.m = x.m) (a : List (Int × Int)) : PI { s with aims := a, open_ := s.open_.set i y } where
  pb := { h.pb with opn := by show (s.open_.set i y).length ≤ 20; rw [List.length_set]; exact h.pb.opn }
  po := fun c hc => by
    rcases List.mem_or_eq_of_mem_set hc with hc | hc
    · exact h.po c hc
    · rw [hc]; unfold PO; rw [h1, h2, h3]; exact h.po x (List.mem_of_getElem? hx)
theorem PI.stepAt {s : CS19} (h : PI s) {i : Nat} {x : Cl19} (hx : s.open_[i]? = some x) (now : Int) (m : An19) : PI (stepAt s now m i x) ∧ (stepAt s now m i x).calls = s.calls ∧ (stepAt s now m i x).ended.length ≤ s.ended.length + 1 ∧ (stepAt s now m i x).open_.length ≤ s.open_.length := by
  unfold Go.Proofs.YtankogdnhgmkhaaDoor.stepAt
  split
  · unfold led
    split
    · exact ⟨h.set hx (y := { x with deadline := now + 1, refused := true }) rfl rfl rfl _, rfl, Nat.le_succ _, by show (List.set _ _ _).length ≤ _; rw [List.length_set]; exact Nat.le_refl _⟩
    · exact ⟨h.set hx (y := { x with deadline := now + s.wait, refused := true }) rfl rfl rfl _, rfl, Nat.le_succ _, by show (List.set _ _ _).length ≤ _; rw [List.length_set]; exact Nat.le_refl _⟩
  · split
    · exact ⟨h.set hx (y := { x with deadline := now + s.wait, refused := true }) rfl rfl rfl s.aims, rfl, Nat.le_succ _, by show (List.set _ _ _).length ≤ _; rw [List.length_set]; exact Nat.le_refl _⟩
    · refine ⟨⟨{ h.pb with opn := ?_ }, fun c hc => h.po c (List.mem_of_mem_eraseIdx hc)⟩, rfl, ?_, ?_⟩
      · show (s.open_.eraseIdx i).length ≤ 20
        have := List.length_eraseIdx_le s.open_ i; have := h.pb.opn; omega
      · show (s.ended ++ [_]).length ≤ _; rw [List.length_append]; exact Nat.le_refl _
      · exact List.length_eraseIdx_le s.open_ i
theorem PI.step {s : CS19} (h : PI s) (now : Int) (m : An19) : PI (step s now m) ∧ (step s now m).calls = s.calls ∧ (step s now m).ended.length ≤ s.ended.length + 1 ∧ (step s now m).open_.length ≤ s.open_.length := by
  unfold Go.Proofs.YtankogdnhgmkhaaDoor.step
  split
  · exact ⟨h, rfl, Nat.le_succ _, Nat.le_refl _⟩
  · split
    · exact ⟨h, rfl, Nat.le_succ _, Nat.le_refl _⟩
    · rename_i x hx; exact h.stepAt hx now m
theorem PI.done {s : CS19} (h : PI s) : PI (done19 s) := ⟨{ h.pb with }, h.po⟩
theorem PI.new {id wait tries : Int} {l : List Int} (hid : 0 ≤ id ∧ id ≤ 1000) (hw : 1 ≤ wait ∧ wait ≤ 1000000000) (ht : 1 ≤ tries ∧ tries ≤ 1000) (hl : l ≠ []) (hn : l.length ≤ 100) : PI (new19 id wait tries l) where
  pb := ⟨hid, hw, ht, hl, hn, ⟨by show (0 : Int) ≤ 0; omega, by show (0 : Int) ≤ 1000000000; omega⟩, ⟨by show (0 : Int) ≤ 0; omega, by show (0 : Int) ≤ 1000000; omega⟩, Nat.zero_le _⟩
  po := fun _ hc => by cases hc

/-! ### What the run shows -/
def q0 : CS19 := new19 102 10 3 [1, 2]
def rq (part offset : Int) : Sn19 := ⟨0, 0, 1, part, offset, 0, 0, 0, [], [], 0, false⟩
def cq (offset : Int) : Sn19 := ⟨0, 0, 4, 2, offset, 1, 0, 1, [103], [], 0, false⟩
def q1 (z : Sl19) : CS19 := callS q0 0 (rq 2 5) z
def m1 : An19 := ⟨20, 1, 102, 1, 2, 15, []⟩
def q2 (z : Sl19) : CS19 := step (q1 z) 2 m1
def q3 (z : Sl19) : CS19 := (tick (q2 z) 3).1
def m2 (a : Option Addr) (c : Nat) : An19 := ⟨20, 2, 102, 2, 0, 0, [⟨4, a, c, [[97], [98]]⟩]⟩
def q4 (z : Sl19) (a : Option Addr) (c : Nat) : CS19 := step (q3 z) 4 (m2 a c)
def q6 (z : Sl19) (a : Option Addr) (c : Nat) (y : Sl19) : CS19 := callS (done19 (q4 z a c)) 4 (cq 9) y
def q7 (z : Sl19) (a : Option Addr) (c : Nat) (y : Sl19) : CS19 := (tick (q6 z a c y) 14).1
theorem q1_out (z : Sl19) : (askC q0 0 (newC q0 (rq 2 5) z)).m = ⟨19, 102, 1, 1, 2, 5, 0, 0, 0, 0, [], (none, 0, 0)⟩ := by rfl
theorem q3_out (z : Sl19) : (tick (q2 z) 3).2 = [⟨19, 102, 2, 2, 2, 5, 0, 0, 0, 0, [], (none, 0, 0)⟩] := by rfl
theorem q4_end (z a c) : (q4 z a c).ended = [⟨102, 1, 1, 2, 5, 0, 0, 0, [], [98], 0, true⟩] := by rfl
theorem q4_open (z a c) : (q4 z a c).open_ = [] := by rfl
theorem q4_calls (z a c) : (q4 z a c).calls = 1 := by rfl
theorem q6_out (z a c y) : (askC (done19 (q4 z a c)) 4 (newC (done19 (q4 z a c)) (cq 9) y)).m = ⟨23, 102, 2, 3, 0, 9, 2, 3, 1, 1, [103], y⟩ ∨ (askC (done19 (q4 z a c)) 4 (newC (done19 (q4 z a c)) (cq 9) y)).m = ⟨23, 102, 1, 3, 0, 9, 2, 3, 1, 1, [103], y⟩ := by first | exact .inl rfl | exact .inr rfl
theorem q7_out (z a c y) : (tick (q6 z a c y) 14).2 = [] := by rfl
theorem q7_end (z a c y) : (q7 z a c y).ended = [⟨102, 2, 4, 2, 9, 1, 0, 1, [103], [], 21, true⟩] := by rfl
theorem q7_open (z a c y) : (q7 z a c y).open_ = [] := by rfl
theorem q0_pi : PI q0 := .new (by decide) (by decide) (by decide) (by decide) (by decide)
theorem q1_pi (z) : PI (q1 z) := q0_pi.call (by decide) (by decide) (by decide) 0 z
theorem q2_pi (z) : PI (q2 z) := ((q1_pi z).step 2 m1).1
theorem q3_pi (z) : PI (q3 z) := (q2_pi z).tick 3
theorem q4_pi (z a c) : PI (q4 z a c) := ((q3_pi z).step 4 _).1
theorem q6_pi (z a c y) : PI (q6 z a c y) := (q4_pi z a c).done.call (by decide) (by show (q4 z a c).open_.length < 20; rw [q4_open]; decide) (by show (q4 z a c).calls < 1000000; rw [q4_calls]; decide) 4 y
theorem q7_pi (z a c y) : PI (q7 z a c y) := (q6_pi z a c y).tick 14
end Go.Proofs.YtankogdnhgmkhaaDoor

/- Chapter 19: a read that is answered, in plain Lean. -/
namespace Go.Proofs.YtankogdnhgmkhaaDoor
open Go Go.Sp

def scell (t : List UInt8) : List Value := [.string (str t)]
theorem scell_len (t : List UInt8) : (scell t).length = 1 := rfl
theorem RowAt.prefix {a : Option Addr} {l m : List Value} {w : World} (h : RowAt a (l ++ m) w) : RowAt a l w := by
  by_cases hl : l = []
  · exact .inl hl
  · rcases h with h | ⟨b, o, e, h1, h2⟩
    · exact absurd (List.append_eq_nil_iff.1 h).1 hl
    · exact .inr ⟨b, o, e, fun i v hv => h1 i v (by rw [List.getElem?_append_left (List.getElem?_eq_some_iff.1 hv).1]; exact hv), h2.left⟩
theorem RowAt.take_flat {α : Type} {f : α → List Value} {a : Option Addr} {l : List α} {w : World} (n : Nat) (h : RowAt a (l.flatMap f) w) : RowAt a ((l.take n).flatMap f) w := by
  rw [← List.take_append_drop n l, List.flatMap_append] at h; exact Go.Proofs.YtankogdnhgmkhaaDoor.RowAt.prefix h
def fs1 (off : Int) (z : Sl19) : CS19 := callS (new19 101 10 3 [1]) 0 (rq 3 off) z
def fx (off : Int) (z : Sl19) : Cl19 := askC (new19 101 10 3 [1]) 0 (newC (new19 101 10 3 [1]) (rq 3 off) z)
def fm (err base : Int) (ra : Option Addr) (rc : Nat) (vs : List (List UInt8)) : An19 := ⟨20, 1, 101, 1, 0, err, [⟨base, ra, rc, vs⟩]⟩
theorem fx_m (off z) : (fx off z).m = ⟨19, 101, 1, 1, 3, off, 0, 0, 0, 0, [], (none, 0, 0)⟩ := by rfl
theorem fx_open (off z) : (fs1 off z).open_ = [fx off z] := by rfl
theorem fx_s (off z) : (fx off z).s = ⟨0, 0, 1, 3, off, 0, 0, 0, [], [], 0, false⟩ := by rfl
theorem may_rq {off : Int} (h : 0 ≤ off ∧ off ≤ 1000000000) : may19 (rq 3 off) = true := by
  unfold may19 number19 rq
  simp [h]
theorem fs0_pi : PI (new19 101 10 3 [1]) := .new (by decide) (by decide) (by decide) (by decide) (by decide)
theorem fs1_pi {off : Int} (h : 0 ≤ off ∧ off ≤ 1000000000) (z) : PI (fs1 off z) := fs0_pi.call (may_rq h) (by decide) (by decide) 0 z
theorem finds_step {err base off : Int} {ra : Option Addr} {rc : Nat} {vs : List (List UInt8)} {z : Sl19} (h1 : err ≠ 15) (h2 : err ≠ 22) :
    step (fs1 off z) 1 (fm err base ra rc vs) = endS { fs1 off z with open_ := [] } (fx off z) err (fm err base ra rc vs) := by
  have hf : fits19 (fs1 off z) (fm err base ra rc vs) (fx off z) = true := by rfl
  have : (fs1 off z).open_.findIdx? (fits19 (fs1 off z) (fm err base ra rc vs)) = some 0 := by rw [fx_open, List.findIdx?_cons, hf]; rfl
  unfold step
  rw [this]
  dsimp only
  rw [show (fs1 off z).open_[0]? = some (fx off z) by rw [fx_open]; rfl]
  dsimp only
  rw [stepAt_end]
  · rw [show (fs1 off z).open_.eraseIdx 0 = [] by rw [fx_open]; rfl]; rfl
  · rintro (h | h)
    · exact h1 h
    · exact h2 h
  · rw [fx_m, fx_s]
    rintro (⟨_, h⟩ | ⟨_, h⟩)
    · exact absurd (show (19 : Int) = 23 from h) (by decide)
    · exact absurd (show (1 : Int) = 7 from h) (by decide)
/-- What is told. -/
def fe (err base off : Int) (ra : Option Addr) (rc : Nat) (vs : List (List UInt8)) (z : Sl19) : Sn19 := ended19 { fs1 off z with open_ := [] } (fx off z) err (fm err base ra rc vs)
theorem finds_ended {err base off : Int} {ra rc vs z} (h1 : err ≠ 15) (h2 : err ≠ 22) : (step (fs1 off z) 1 (fm err base ra rc vs)).ended = [fe err base off ra rc vs z] := by rw [finds_step h1 h2]; rfl
theorem finds_open {err base off : Int} {ra rc vs z} (h1 : err ≠ 15) (h2 : err ≠ 22) : (step (fs1 off z) 1 (fm err base ra rc vs)).open_ = [] := by rw [finds_step h1 h2]; rfl
theorem fe_err {err base off : Int} {ra rc vs z} (h : err ≠ 0) : fe err base off ra rc vs z = ⟨101, 1, 1, 3, off, 0, 0, 0, [], [], err, true⟩ := by
  unfold fe ended19; rw [if_neg h]; unfold endSn; rw [fx_s]; rfl
theorem fe_some {base off : Int} {ra rc vs z} {t : List UInt8} (h : 0 ≤ off - base ∧ off - base < (vs.length : Int)) (ht : vs[(off - base).toNat]? = some t) : fe 0 base off ra rc vs z = ⟨101, 1, 1, 3, off, 0, 0, 0, [], t, 0, true⟩ := by
  have : toldAt off [⟨base, ra, rc, vs⟩] = some t := by
    unfold toldAt; rw [if_pos h]
    show some (vs.getD _ _) = _
    rw [List.getD_eq_getElem?_getD, ht]; rfl
  unfold fe ended19; rw [if_pos rfl]; unfold told19 endSn; rw [fx_s]; dsimp only; rw [if_pos rfl]
  show (match toldAt off [⟨base, ra, rc, vs⟩] with | some t => _ | none => _) = _
  rw [this]; rfl
theorem fe_none {base off : Int} {ra rc vs z} (h : ¬ (0 ≤ off - base ∧ off - base < (vs.length : Int))) : fe 0 base off ra rc vs z = ⟨101, 1, 1, 3, off, 0, 0, 0, [], [], 8, true⟩ := by
  have : toldAt off [⟨base, ra, rc, vs⟩] = none := by
    unfold toldAt; rw [if_neg h]; rfl
  unfold fe ended19; rw [if_pos rfl]; unfold told19 endSn; rw [fx_s]; dsimp only; rw [if_pos rfl]
  show (match toldAt off [⟨base, ra, rc, vs⟩] with | some t => _ | none => _) = _
  rw [this]; rfl
theorem fe_keep {err base off : Int} {ra rc vs z} : (fe err base off ra rc vs z).offset = off ∧ (fe err base off ra rc vs z).part = 3 := by
  by_cases h : err = 0
  · subst h
    by_cases h2 : 0 ≤ off - base ∧ off - base < (vs.length : Int)
    · obtain ⟨t, ht⟩ : ∃ t, vs[(off - base).toNat]? = some t := ⟨_, List.getElem?_eq_getElem (by omega)⟩
      rw [fe_some h2 ht]; exact ⟨rfl, rfl⟩
    · rw [fe_none h2]; exact ⟨rfl, rfl⟩
  · rw [fe_err h]; exact ⟨rfl, rfl⟩
theorem fm_ok {err base : Int} {ra rc vs} (h : 0 ≤ base ∧ base ≤ 1000000000) (hv : vs.length ≤ 1000000) : (fm err base ra rc vs).ok :=
  ⟨by show 1 ≤ 1000; decide, fun b hb => by rcases List.mem_singleton.1 hb with rfl; exact h, fun b hb => by rcases List.mem_singleton.1 hb with rfl; exact hv⟩
end Go.Proofs.YtankogdnhgmkhaaDoor

/- Chapter 19: contracts of the library at this program, for the walks: strings.Split, strconv.Atoi, strconv.Itoa. -/
namespace Go.Proofs.YtankogdnhgmkhaaDoor
open Go Go.Sp Go.RowKit

/-- The name of the table of tens. -/
abbrev powName : String := (Go.Proofs.YtankogdnhgmkhaaDoor.Rows.consumerEndsRow.laid.getD 2 ("", DataW.nil)).1
/-- What the package variables hold that these contracts read. -/
def LV (w : World) : Prop := (∃ m, w.cell? ⟨2, 0, none⟩ = some (.int .i64 m)) ∧ (∃ te pe, w.cell? ⟨0, 0, none⟩ = some (.iface te pe)) ∧ (∃ te pe, w.cell? ⟨1, 0, none⟩ = some (.iface te pe)) ∧ Lib.TabIs Tryd.prog w powName .u64 Lib.pow10Tab
theorem below_drewN (w : World) (k : Nat) : Below w.heap.size w (w.drewN k) := ⟨rfl, rfl, rfl, Nat.le_refl _, fun _ _ => rfl⟩
theorem below_grow {w : World} (k : Nat) (os : Array Obj) : Below w.heap.size w (Go.Sort.grow (w.drewN k) os) := by
  have h := below_drewN w k
  refine ⟨h.os, h.tape, h.output, Nat.le_trans h.size (by unfold Go.Sort.grow; simp), fun j hj => ?_⟩
  have hs := h.size
  rw [← h.block j hj]
  unfold Go.Sort.grow
  rw [Array.getElem?_append_left (by omega)]
theorem able32 : Able Tryd.prog 32 := ⟨_, Tryd.func32, by kernel_rfl, rfl⟩
theorem able33 : Able Tryd.prog 33 := ⟨_, Tryd.func33, by kernel_rfl, rfl⟩
theorem able34 : Able Tryd.prog 34 := ⟨_, Tryd.func34, by kernel_rfl, rfl⟩
theorem atoi_ok (t : List UInt8) (ht : t.length ≤ 281474976710656) : Cn Tryd.prog 33 [.string (str t)] LV [] fun v G => (∃ n e, v = .tuple #[.int .i64 n, e] ∧ (e = .nilIface ∨ ∃ te pe, e = .iface te pe) ∧ (-9223372036854775808 ≤ n ∧ n ≤ 9223372036854775807)) ∧ G = [] := by
  have hs : (str t).size ≤ 281474976710656 := by rw [str_size]; exact ht
  refine Cn.calls able33 fun w ⟨_, ⟨te, pe, h0⟩, ⟨te1, pe1, h1⟩, _⟩ => ?_
  cases h : Lib.atoiAll (str t).data.toList with
  | ok v =>
    obtain ⟨b0, b1⟩ := Lib.atoiAll_bounds h
    refine (Tryd.strconv_Atoi_ok (str t) (by omega) v h w).mono fun e w' ⟨he, hw⟩ => ⟨_, he, ⟨v, .nilIface, rfl, .inl rfl, b0, b1⟩, ?_⟩
    rcases hw with rfl | ⟨t, rfl⟩
    · exact Below.refl _ _
    · exact Lib.bytesWorld_below _ _ _
  | «syntax» => exact (Tryd.strconv_Atoi_syntax (str t) hs h _ w h0 (.inr ⟨_, _, rfl⟩)).mono fun e w' ⟨N, he, _, _, hb⟩ => ⟨_, he, ⟨0, _, rfl, .inr ⟨_, _, rfl⟩, by omega, by omega⟩, hb⟩
  | range =>
    obtain ⟨sb0, sb1⟩ := Lib.atoiSat_bounds (str t).data.toList
    exact (Tryd.strconv_Atoi_range (str t) hs h _ w h1 (.inr ⟨_, _, rfl⟩)).mono fun e w' ⟨N, he, _, _, hb⟩ => ⟨_, he, ⟨_, _, rfl, .inr ⟨_, _, rfl⟩, sb0, sb1⟩, hb⟩
theorem itoa_ok (n : Int) (h0 : -9223372036854775808 ≤ n) (h1 : n ≤ 9223372036854775807) : Cn Tryd.prog 34 [.int .i64 n] LV [] fun v G => (∃ l, v = .string (str l)) ∧ G = [] :=
  Cn.calls able34 fun w ⟨_, _, _, ht⟩ => (Any.strconv_Itoa Tryd.laysM171 n h0 h1 w ht).mono fun e w' ⟨he, k, os, hw⟩ => ⟨_, he, ⟨Lib.itoa n, rfl⟩, by rw [hw]; exact below_grow k os⟩
theorem extract_le (s : ByteArray) (a b : Nat) : (s.extract a b).size ≤ s.size := by rw [ByteArray.size_extract]; omega
theorem split_sizes (sep : ByteArray) : ∀ (k : Nat) (s t : ByteArray), t ∈ Lib.splitB sep 0 k s → t.size ≤ s.size
  | 0, s, t, h => by rw [Lib.splitB_zero] at h; rw [List.mem_singleton.1 h]; exact Nat.le_refl _
  | k + 1, s, t, h => by
    unfold Lib.splitB at h
    split at h
    · rw [List.mem_singleton.1 h]; exact Nat.le_refl _
    · rcases List.mem_cons.1 h with rfl | h
      · exact extract_le _ _ _
      · exact Nat.le_trans (split_sizes sep k _ t h) (extract_le _ _ _)
theorem split_ok (s : List UInt8) (hs : s.length < 4294967281) : Cn Tryd.prog 32 [.string (str s), .string (str [44])] LV [] fun v G => ∃ (b : Nat) (l : List (List UInt8)), l.length ≤ s.length + 1 ∧ (∀ t ∈ l, t.length ≤ s.length) ∧ v = .slice (some ⟨b, 0, none⟩) l.length l.length ∧ G = [arr 9 1 (some ⟨b, 0, none⟩) l.length (l.flatMap scell)] := by
  obtain ⟨L, hL⟩ : ∃ L, L = Lib.splitB (str [44]) 0 (Lib.countB (str s) (str [44])) (str s) := ⟨_, rfl⟩
  have hlen : L.length = Lib.countB (str s) (str [44]) + 1 := by rw [hL]; exact Lib.splitB_all (str [44]) (by decide) 0 _ _ rfl
  have hle : Lib.countB (str s) (str [44]) ≤ (str s).size := Lib.countB_le (str [44]) (by decide) _ _ (Nat.le_refl _)
  have hcs : (L.map Value.string) = (L.map (·.data.toList)).flatMap scell := by
    rw [List.flatMap_map]
    have : ∀ l : List ByteArray, l.map Value.string = l.flatMap fun t => scell t.data.toList := fun l => by
      induction l with
      | nil => rfl
      | cons x l ih => rw [List.map_cons, List.flatMap_cons, ih]; show _ = [Value.string (str x.data.toList)] ++ _; rw [str_data]; rfl
    exact this L
  have hl1 : (L.map Value.string).length = L.length := List.length_map ..
  have key := Cn.callsRow (P := Tryd.prog) (f := 32) (args := [.string (str s), .string (str [44])]) (φ := LV) (e := 9) (cs := L.map Value.string) able32 (by intro v hv; obtain ⟨x, _, rfl⟩ := List.mem_map.1 hv; rfl) (fun w ⟨⟨m, hm⟩, _⟩ =>
    (Tryd.strings_Split (str s) (str [44]) m w (by rw [str_size]; exact hs) hm (by decide)).mono fun x w' ⟨he, hw⟩ => ⟨by rw [he, hl1, hlen], by rw [hw, ← hL]⟩)
  refine key.mono fun v G ⟨b, hv, hG⟩ => ⟨b, L.map (·.data.toList), ?_, ?_, ?_, ?_⟩
  · rw [List.length_map, hlen]; rw [str_size] at hle; omega
  · intro t ht
    obtain ⟨x, hx, rfl⟩ := List.mem_map.1 ht
    have := split_sizes (str [44]) _ _ x (hL ▸ hx)
    rw [str_size] at this
    exact this
  · rw [hv, hl1, List.length_map]
  · rw [hG, hl1, List.length_map, hcs]
end Go.Proofs.YtankogdnhgmkhaaDoor

namespace Go.Proofs.YtankogdnhgmkhaaDoor
open Go Go.Sp

set_option linter.unusedVariables false

namespace con0
theorem ts3 : TS Tryd.prog 3 1 := .of (by kernel_rfl)
theorem na3 : NotAgg Tryd.prog 3 := ⟨_, Tryd.underlying3, trivial⟩
theorem ti3 : TI Tryd.prog 3 1 8 (.int .i64 0) := .of (by kernel_rfl)
end con0
open con0

def pickN (c n : Int) : Int := if c < 0 then (-(c + 1)) % n else c % n
theorem pickN_nn {c n : Int} (hn : 0 < n) : 0 ≤ pickN c n := by unfold pickN; split <;> exact Int.emod_nonneg _ (by omega)
theorem pickN_lt {c n : Int} (hn : 0 < n) : pickN c n < n := by unfold pickN; split <;> exact Int.emod_lt_of_pos _ hn
theorem row_nil {α : Type} {f : α → List Value} {n : Nat} (hw : ∀ x, (f x).length = n) (hp : 0 < n) {l : List α} {w : World} (h : RowAt none (l.flatMap f) w) : l = [] := by
  rcases h with h | ⟨b, o, e, _⟩
  · have := congrArg List.length h
    rw [flat_length hw] at this
    cases l with
    | nil => rfl
    | cons x l =>
      rw [List.length_nil, List.length_cons, Nat.succ_mul] at this; omega
  · cases e

set_option maxRecDepth 20000 in
theorem index_ok (a : Option Addr) (c : Nat) (l : List Int) (v : Int) (hl : l.length ≤ 1000000) : Cn Tryd.prog 36 [.slice a l.length c, .int .i64 v] (RowAt a (l.flatMap icell)) [] fun r G => r = .int .i64 (idxOf l v) ∧ G = [] := by
  refine .enter Tryd.func36 rfl (by kernel_rfl) rfl fun R k => ?_
  refine .seq ?_
  refine .region ?_
  refine .rd (.assign rfl) ?_
  refine .nil ?_
  refine .seq ?_
  refine .seq ?_
  refine .region ?_
  refine .rd (.move rfl) ?_
  refine .rd (.lenL rfl rfl Tryd.underlying28 rfl) ?_
  refine .rd (.move rfl) ?_
  refine .nil ?_
  refine .block ?_
  refine .loop (σ := Nat) (fun i => i ≤ l.length ∧ ∀ x ∈ l.take i, v ≠ x) (fun i => l.length - i) (fun i => [(0, .slice a l.length c), (1, .int .i64 v), (7, .int .i64 l.length), (8, .int .i64 (i : Nat))]) (fun i => [R]) 0 ⟨Nat.zero_le _, by simp⟩ (.cons rfl (.cons rfl (.cons rfl (.cons rfl .nil)))) (.cons .head .nil) (fun i hI ih => ?_)
  have hi := hI.1
  refine .seq ?_
  refine .region ?_
  refine .rd (.lt rfl rfl) ?_
  refine .nil ?_
  refine .seq ?_
  refine .condP rfl (fun h2 => ?_) (fun h2 => ?_)
  · refine .skip ?_
    refine .seq ?_
    refine .block ?_
    refine .seq ?_
    refine .region ?_
    refine .rd (.move rfl) ?_
    refine .rd (.assign rfl) ?_
    refine .nil ?_
    refine .seq ?_
    obtain ⟨y, hy⟩ : ∃ y, l[i]? = some y := ⟨_, List.getElem?_eq_getElem (by omega)⟩
    refine .tell (φ := ∃ b o, a = some ⟨b, o, none⟩) (Knows.pick .head (k.mono fun _ h => RowAt.addr h (by rw [flat_length icell_len]; omega))) (fun hh => ?_)
    obtain ⟨b, o, rfl⟩ := hh
    refine .region ?_
    refine .rd (.move rfl) ?_
    refine .rd (.move rfl) ?_
    refine .rd (.move rfl) ?_
    refine .rd (.indexAddr Tryd.underlying28 ts3 rfl rfl (by omega) (by omega)) ?_
    refine .rd (.load na3 rfl (Knows.one (i := 0) (Knows.elem (f := icell) icell_len (by decide) (Knows.pick .head k) hy) rfl)) ?_
    refine .rd (.eqI rfl rfl) ?_
    refine .nil ?_
    refine .condP rfl (fun h4 => ?_) (fun h4 => ?_)
    · refine .seq ?_
      refine .region ?_
      refine .rd (.move rfl) ?_
      refine .rd (.assign rfl) ?_
      refine .nil ?_
      rw [show idxOf l v = i from idx_hit (by rw [h4]; exact hy) hI.2]
      refine .retP Tryd.func36 (.cons (.tmp rfl) .nil) (.cons .head .nil) ?_
      exact ⟨[], ⟨rfl, rfl⟩, rfl⟩
    · refine .skip ?_
      refine .inBlock ?_
      refine .region ?_
      refine .rd (.add rfl rfl (by omega) (by omega)) ?_
      refine .rd (.move rfl) ?_
      refine .nil ?_
      exact (ih (i + 1) ⟨by omega, fun x hx => by rw [List.take_add_one, hy] at hx; rcases List.mem_append.1 hx with h | h; exact hI.2 x h; simp at h; rw [h]; exact h4⟩ (by omega)).to (.cons rfl (.cons rfl (.cons rfl (.cons rfl .nil)))) (.cons .head .nil)
  · refine .exit rfl ?_
    refine .seq ?_
    refine .region ?_
    refine .rd (.assign rfl) ?_
    refine .nil ?_
    rw [show idxOf l v = -1 from idx_none fun x hx => hI.2 x (by rw [List.take_of_length_le (by omega)]; exact hx)]
    refine .retP Tryd.func36 (.cons (.tmp rfl) .nil) (.cons .head .nil) ?_
    exact ⟨[], ⟨rfl, rfl⟩, rfl⟩

set_option maxRecDepth 20000 in
theorem contains_ok (a : Option Addr) (c : Nat) (l : List Int) (v : Int) (hl : l.length ≤ 1000000) : Cn Tryd.prog 30 [.slice a l.length c, .int .i64 v] (RowAt a (l.flatMap icell)) [] fun r G => r = .bool (decide (0 ≤ idxOf l v)) ∧ G = [] := by
  refine .enter Tryd.func30 rfl (by kernel_rfl) rfl fun R k => ?_
  refine .seq ?_
  refine .region ?_
  refine .rd (.assign rfl) ?_
  refine .nil ?_
  refine .seq ?_
  refine .region ?_
  refine .rd (.move rfl) ?_
  refine .rd (.move rfl) ?_
  refine .fn rfl rfl .nil (Knows.pick .head k) (index_ok a c l v (by omega)) (fun v G1 hq => ?_)
  obtain ⟨rfl, rfl⟩ := hq
  simp only [List.nil_append]
  refine .rd (.ge rfl rfl) ?_
  refine .rd (.assign rfl) ?_
  refine .nil ?_
  refine .retP Tryd.func30 (.cons (.tmp rfl) .nil) (.cons .head .nil) ?_
  exact ⟨[], ⟨rfl, rfl⟩, rfl⟩

set_option maxRecDepth 20000 in
theorem pick_ok (c n : Int) (hc : -9223372036854775808 ≤ c ∧ c ≤ 9223372036854775807) (hn : 0 < n) : Cn Tryd.prog 8 [.int .i64 c, .int .i64 n] (fun _ => True) [] fun v G => v = .int .i64 (pickN c n) ∧ G = [] := by
  refine .enter Tryd.func8 rfl (by kernel_rfl) rfl fun R k => ?_
  obtain ⟨hc1, hc2⟩ := hc
  refine .seq ?_
  refine .region ?_
  refine .rd (.assign rfl) ?_
  refine .nil ?_
  refine .seq ?_
  refine .seq ?_
  refine .region ?_
  refine .rd (.move rfl) ?_
  refine .rd (.lt rfl rfl) ?_
  refine .nil ?_
  refine .condP rfl (fun h1 => ?_) (fun h1 => ?_)
  · refine .region ?_
    refine .rd (.move rfl) ?_
    refine .rd (.add rfl rfl (by omega) (by omega)) ?_
    refine .rd (.neg rfl (by omega) (by omega)) ?_
    refine .rd (.assign rfl) ?_
    refine .nil ?_
    refine .seq ?_
    refine .region ?_
    refine .rd (.move rfl) ?_
    refine .rd (.move rfl) ?_
    refine .rd (.rem rfl rfl (by omega) (by omega)) ?_
    refine .rd (.assign rfl) ?_
    refine .nil ?_
    have hv : pickN c n = (-(c + 1)) % n := by unfold pickN; rw [if_pos h1]
    rw [hv]
    refine .retP Tryd.func8 (.cons (.tmp rfl) .nil) (.cons .head .nil) ?_
    exact ⟨[], ⟨rfl, rfl⟩, rfl⟩
  · refine .skip ?_
    refine .seq ?_
    refine .region ?_
    refine .rd (.move rfl) ?_
    refine .rd (.move rfl) ?_
    refine .rd (.rem rfl rfl (by omega) (by omega)) ?_
    refine .rd (.assign rfl) ?_
    refine .nil ?_
    have hv : pickN c n = c % n := by unfold pickN; rw [if_neg h1]
    rw [hv]
    refine .retP Tryd.func8 (.cons (.tmp rfl) .nil) (.cons .head .nil) ?_
    exact ⟨[], ⟨rfl, rfl⟩, rfl⟩

set_option maxRecDepth 20000 in
theorem cloneI_ok (a : Option Addr) (c : Nat) (l : List Int) (hl : l.length ≤ 1000000) : Cn Tryd.prog 15 [.slice a l.length c] (RowAt a (l.flatMap icell)) [] fun v G => ∃ a' c', v = .slice a' l.length c' ∧ G = [arr 3 1 a' c' (l.flatMap icell)] := by
  refine .enter Tryd.func15 rfl (by kernel_rfl) rfl fun R k => ?_
  refine .seq ?_
  refine .region ?_
  refine .rd (.assign rfl) ?_
  refine .nil ?_
  refine .seq ?_
  refine .seq ?_
  refine .region ?_
  refine .rd (.move rfl) ?_
  refine .rd (.eqNilL Tryd.underlying28 rfl rfl) ?_
  refine .nil ?_
  refine .cond rfl (fun h1 => ?_) (fun h1 => ?_)
  · obtain rfl : a = none := by cases a with | none => rfl | some x => simp at h1
    refine .seq ?_
    refine .region ?_
    refine .rd (.assign rfl) ?_
    refine .nil ?_
    refine .tell (φ := l = []) (Knows.pick .head (k.mono fun _ h => row_nil icell_len (by decide) h)) (fun hl => ?_)
    subst hl
    refine .nilArr 3 1 none ?_
    refine .retP Tryd.func15 (.cons (.tmp rfl) .nil) (.cons .head (.cons .head .nil)) ?_
    exact ⟨[_], ⟨none, 0, rfl, rfl⟩, rfl⟩
  · refine .skip ?_
    refine .seq ?_
    refine .region ?_
    refine .ef (.buildNone Tryd.underlying28 ti3) ?_
    rintro _ _ ⟨b5, rfl, rfl⟩
    refine .rd (.move rfl) ?_
    refine .nilArr 3 1 (some ⟨b5, 0, none⟩) ?_
    refine .ef (.append rfl rfl Tryd.underlying28 ti3 rfl (ones.of rfl) (by decide) (by decide) rfl rfl .head (n := 0) (m := l.length) (cs := []) rfl (.srcRow (ys := l.flatMap icell) (Knows.pick (.tail (.tail .head)) k) Tryd.underlying28 (by rw [flat_length icell_len]) (by decide)) (by omega)) ?_
    rintro _ _ ⟨ra, rc, rfl, rn, rfl⟩
    refine .alter (t := 7) (v' := .slice ra l.length rc) rfl (by rw [Nat.zero_add]) ?_
    refine .rd (.assign rfl) ?_
    refine .nil ?_
    refine .cast (X' := arr 3 1 ra rc (l.flatMap icell)) (by rw [List.nil_append]) ?_
    refine .retP Tryd.func15 (.cons (.tmp rfl) .nil) (.cons .head (.cons (.tail .head) .nil)) ?_
    exact ⟨[_], ⟨ra, rc, rfl, rfl⟩, rfl⟩

end Go.Proofs.YtankogdnhgmkhaaDoor


namespace Go.Proofs.YtankogdnhgmkhaaDoor
open Go Go.Sp

set_option linter.unusedVariables false

namespace con2
theorem kl3 : KL Tryd.prog 3 (fun n : Int => Value.int .i64 n) := .int Tryd.underlying3
theorem fd60_4 : FD Tryd.prog 60 4 4 := .of Tryd.underlying60 (by kernel_rfl)
theorem na57 : NotAgg Tryd.prog 57 := ⟨_, Tryd.underlying57, trivial⟩
theorem ti3 : TI Tryd.prog 3 1 8 (.int .i64 0) := .of (by kernel_rfl)
theorem fd60_3 : FD Tryd.prog 60 3 3 := .of Tryd.underlying60 (by kernel_rfl)
theorem na28 : NotAgg Tryd.prog 28 := ⟨_, Tryd.underlying28, trivial⟩
theorem ts3 : TS Tryd.prog 3 1 := .of (by kernel_rfl)
theorem na3 : NotAgg Tryd.prog 3 := ⟨_, Tryd.underlying3, trivial⟩
end con2
open con2



set_option maxRecDepth 20000 in
theorem whom_ok (pb : Nat) (s : CS19) (x : PX19) (oa : Option Addr) (on oc : Nat) (p : Int) (hb : s.brokers ≠ []) : Cn Tryd.prog 25 [.pointer (some ⟨pb, 0, none⟩), .int .i64 p] (fun w => CellsAt pb 0 (CS19.cells s x oa on oc) w ∧ RowAt x.ba (s.brokers.flatMap icell) w) [IM x.ab s.aims] fun r G => r = .int .i64 (s.whom p) ∧ G = [IM x.ab s.aims] := by
  refine .enter Tryd.func25 rfl (by kernel_rfl) rfl fun R k => ?_
  refine .seq ?_
  refine .region ?_
  refine .rd (.assign rfl) ?_
  refine .nil ?_
  refine .seq ?_
  refine .seq ?_
  refine .region ?_
  refine .rd (.move rfl) ?_
  refine .rd (.nilCheck rfl) ?_
  refine .rd (.fieldAddr fd60_4 rfl) ?_
  refine .rd (.load na57 rfl (Knows.one (i := 4) (Knows.pick (.tail .head) (k.mono fun _ h => h.1)) rfl)) ?_
  refine .rd (.move rfl) ?_
  refine .rd (.lookupOk (q := p) kl3 Tryd.underlying57 (fun w => ti3.zero w) rfl rfl .head) ?_
  refine .rd (.move rfl) ?_
  refine .rd (.extract rfl rfl) ?_
  refine .rd (.extract rfl rfl) ?_
  refine .rd (.assign rfl) ?_
  refine .rd (.assign rfl) ?_
  refine .nil ?_
  refine .seq ?_
  refine .region ?_
  refine .rd (.move rfl) ?_
  refine .nil ?_
  refine .cond rfl (fun h2 => ?_) (fun h2 => ?_)
  · obtain ⟨v, hv⟩ : ∃ v, mget s.aims p = some v := by cases h : mget s.aims p with | none => rw [h] at h2; cases h2 | some v => exact ⟨v, rfl⟩
    have hv2 : s.whom p = v := by unfold CS19.whom; rw [hv]; rfl
    refine .seq ?_
    refine .region ?_
    refine .rd (.move rfl) ?_
    refine .rd (.assign rfl) ?_
    refine .nil ?_
    rw [hv2]
    refine .alter (t := 4) (v' := .int .i64 v) rfl (by rw [hv]; rfl) ?_
    refine .retP Tryd.func25 (.cons (.tmp rfl) .nil) (.cons .head (.cons .head .nil)) ?_
    exact ⟨[_], ⟨rfl, rfl⟩, rfl⟩
  · have hv : mget s.aims p = none := by cases h : mget s.aims p with | none => rfl | some v => rw [h] at h2; cases h2
    have hv2 : s.whom p = s.brokers.getD 0 0 := by unfold CS19.whom; rw [hv]; rfl
    obtain ⟨y, hy⟩ : ∃ y, s.brokers[0]? = some y := ⟨_, List.getElem?_eq_getElem (List.length_pos_iff.2 hb)⟩
    have hbl := List.length_pos_iff.2 hb
    have hv3 : s.whom p = y := by rw [hv2, List.getD_eq_getElem?_getD, hy]; rfl
    refine .tell (φ := ∃ b o, x.ba = some ⟨b, o, none⟩) (Knows.pick (.tail .head) (k.mono fun _ h => RowAt.addr h.2 (by rw [flat_length icell_len]; omega))) (fun hh => ?_)
    obtain ⟨b9, o9, hab⟩ := hh
    refine .skip ?_
    refine .seq ?_
    refine .region ?_
    refine .rd (.move rfl) ?_
    refine .rd (.nilCheck rfl) ?_
    refine .rd (.fieldAddr fd60_3 rfl) ?_
    refine .rd (.load na28 rfl (Knows.one (i := 3) (Knows.pick (.tail .head) (k.mono fun _ h => h.1)) rfl)) ?_
    refine .rd (.indexAddr (b := b9) (o := o9) Tryd.underlying28 ts3 (by show some (Value.slice x.ba _ _) = _; rw [hab]) rfl (by decide) (by omega)) ?_
    refine .rd (.load na3 rfl (Knows.one (i := 0) (Knows.elem (f := icell) icell_len (by decide) (Knows.pick (.tail .head) (k.mono fun _ h => hab ▸ h.2)) hy) rfl)) ?_
    refine .rd (.assign rfl) ?_
    refine .nil ?_
    rw [hv3]
    refine .retP Tryd.func25 (.cons (.tmp rfl) .nil) (.cons .head (.cons .head .nil)) ?_
    exact ⟨[_], ⟨rfl, rfl⟩, rfl⟩

set_option maxRecDepth 20000 in
theorem behind_ok (pb : Nat) (s : CS19) (x : PX19) (oa : Option Addr) (on oc : Nat) (to : Int) (hb : s.brokers ≠ []) (hn : s.brokers.length ≤ 100) : Cn Tryd.prog 26 [.pointer (some ⟨pb, 0, none⟩), .int .i64 to] (fun w => CellsAt pb 0 (CS19.cells s x oa on oc) w ∧ RowAt x.ba (s.brokers.flatMap icell) w) [] fun r G => r = .int .i64 (behind s.brokers to) ∧ G = [] := by
  refine .enter Tryd.func26 rfl (by kernel_rfl) rfl fun R k => ?_
  have hir := idx_range s.brokers to
  have hbl := List.length_pos_iff.2 hb
  obtain ⟨j, hj⟩ : ∃ j : Nat, (idxOf s.brokers to + 1) % (s.brokers.length : Int) = j := ⟨((idxOf s.brokers to + 1) % (s.brokers.length : Int)).toNat, by have := Int.emod_nonneg (idxOf s.brokers to + 1) (b := (s.brokers.length : Int)) (by omega); omega⟩
  have hjl : j < s.brokers.length := by have := Int.emod_lt_of_pos (idxOf s.brokers to + 1) (b := (s.brokers.length : Int)) (by omega); omega
  obtain ⟨y, hy⟩ : ∃ y, s.brokers[j]? = some y := ⟨_, List.getElem?_eq_getElem hjl⟩
  have hv : behind s.brokers to = y := by unfold behind; rw [hj, Int.toNat_natCast, List.getD_eq_getElem?_getD, hy]; rfl
  refine .tell (φ := ∃ b o, x.ba = some ⟨b, o, none⟩) (Knows.pick .head (k.mono fun _ h => RowAt.addr h.2 (by rw [flat_length icell_len]; omega))) (fun hh => ?_)
  obtain ⟨b9, o9, hab⟩ := hh
  refine .seq ?_
  refine .region ?_
  refine .rd (.assign rfl) ?_
  refine .nil ?_
  refine .seq ?_
  refine .draws [3, 7, 14, 18] [R] (by kernel_rfl) ?_
  refine .rp 0 rfl (by kernel_rfl) (by kernel_rfl) (by kernel_rfl) (Reads.pure (.move rfl)) ?_
  refine .rp 1 rfl (by kernel_rfl) (by kernel_rfl) (by kernel_rfl) (Reads.pure (.nilCheck rfl)) ?_
  refine .rp 2 rfl (by kernel_rfl) (by kernel_rfl) (by kernel_rfl) (Reads.pure (.fieldAddr fd60_3 rfl)) ?_
  refine .rd 3 rfl rfl (by kernel_rfl) (by kernel_rfl) (by kernel_rfl) (.load na28 rfl (Knows.one (i := 3) (Knows.pick .head (k.mono fun _ h => h.1)) rfl)) (.cons .head .nil) ?_
  refine .rp 4 rfl (by kernel_rfl) (by kernel_rfl) (by kernel_rfl) (Reads.pure (.move rfl)) ?_
  refine .rp 5 rfl (by kernel_rfl) (by kernel_rfl) (by kernel_rfl) (Reads.pure (.nilCheck rfl)) ?_
  refine .rp 6 rfl (by kernel_rfl) (by kernel_rfl) (by kernel_rfl) (Reads.pure (.fieldAddr fd60_3 rfl)) ?_
  refine .rd 7 rfl rfl (by kernel_rfl) (by kernel_rfl) (by kernel_rfl) (.load na28 rfl (Knows.one (i := 3) (Knows.pick .head (k.mono fun _ h => h.1)) rfl)) (.cons .head .nil) ?_
  refine .rp 8 rfl (by kernel_rfl) (by kernel_rfl) (by kernel_rfl) (Reads.pure (.move rfl)) ?_
  refine .rp 11 rfl (by kernel_rfl) (by kernel_rfl) (by kernel_rfl) (Reads.pure (.move rfl)) ?_
  refine .rp 12 rfl (by kernel_rfl) (by kernel_rfl) (by kernel_rfl) (Reads.pure (.nilCheck rfl)) ?_
  refine .rp 13 rfl (by kernel_rfl) (by kernel_rfl) (by kernel_rfl) (Reads.pure (.fieldAddr fd60_3 rfl)) ?_
  refine .rd 14 rfl rfl (by kernel_rfl) (by kernel_rfl) (by kernel_rfl) (.load na28 rfl (Knows.one (i := 3) (Knows.pick .head (k.mono fun _ h => h.1)) rfl)) (.cons .head .nil) ?_
  refine .rp 15 rfl (by kernel_rfl) (by kernel_rfl) (by kernel_rfl) (Reads.pure (.lenL rfl rfl Tryd.underlying28 rfl)) ?_
  refine .ef 9 (by kernel_rfl) rfl (.fn rfl rfl .nil (Knows.pick .head (k.mono fun _ h => h.2)) (index_ok x.ba x.bc s.brokers to (by omega))) ?_
  rintro v _ ⟨G1, hq, rfl⟩
  obtain ⟨rfl, rfl⟩ := hq
  simp only [List.nil_append]
  refine ⟨.inr ⟨_, (.cons .head .nil)⟩, ?_⟩
  refine .rp 10 rfl (by kernel_rfl) (by kernel_rfl) (by kernel_rfl) (Reads.pure (.add rfl rfl (by omega) (by omega))) ?_
  refine .rp 16 rfl (by kernel_rfl) (by kernel_rfl) (by kernel_rfl) (Reads.pure (.rem rfl rfl (by omega) (by omega))) ?_
  refine .alter (t := 21) (v' := .int .i64 (j : Nat)) rfl (by rw [hj]) ?_
  refine .rp 17 rfl (by kernel_rfl) (by kernel_rfl) (by kernel_rfl) (Reads.pure (.indexAddr (b := b9) (o := o9) Tryd.underlying28 ts3 (by show some (Value.slice x.ba _ _) = _; rw [hab]) rfl (by omega) (by omega))) ?_
  refine .rd 18 rfl rfl (by kernel_rfl) (by kernel_rfl) (by kernel_rfl) (.load na3 rfl (Knows.one (i := 0) (Knows.elem (f := icell) icell_len (by decide) (Knows.pick .head (k.mono fun _ h => hab ▸ h.2)) hy) rfl)) (.cons .head .nil) ?_
  refine .rp 19 rfl (by kernel_rfl) (by kernel_rfl) (by kernel_rfl) (Reads.pure (.assign rfl)) ?_
  refine .done (by kernel_rfl) ?_
  rw [hv]
  refine .retP Tryd.func26 (.cons (.tmp rfl) .nil) (.cons .head .nil) ?_
  exact ⟨[], ⟨rfl, rfl⟩, rfl⟩

end Go.Proofs.YtankogdnhgmkhaaDoor


namespace Go.Proofs.YtankogdnhgmkhaaDoor
open Go Go.Sp

set_option linter.unusedVariables false

namespace con3

end con3
open con3



set_option maxRecDepth 20000 in
theorem harmless_ok (kind : Int) : Cn Tryd.prog 23 [.int .i64 kind] (fun _ => True) [] fun v G => v = .bool (harm kind) ∧ G = [] := by
  refine .enter Tryd.func23 rfl (by kernel_rfl) rfl fun R k => ?_
  refine .seq ?_
  refine .region ?_
  refine .rd (.assign rfl) ?_
  refine .nil ?_
  refine .seq ?_
  refine .region ?_
  refine RunO.join 10 12 (harm kind) ?_ ?_
  · refine .rd (.move rfl) ?_
    refine .rd (.eqI rfl rfl) ?_
    refine .rd (.move rfl) ?_
    refine .split (t := 5) rfl (fun g1a => ?_) (fun g1a => ?_)
    · replace g1a := of_decide_eq_true g1a
      refine .off (t := 5) rfl rfl rfl ?_
      refine .off (t := 5) rfl rfl rfl ?_
      refine .rd (.pickT rfl rfl) ?_
      refine .rd (.move rfl) ?_
      refine .off (t := 9) rfl rfl rfl ?_
      refine .off (t := 9) rfl rfl rfl ?_
      refine .rd (.pickT rfl rfl) ?_
      refine .nil ⟨rfl, ?_, by repeat (first | exact Le.refl _ | refine Le.skip rfl ?_)⟩
      exact congrArg (fun x => some (Value.bool x)) (Eq.symm (show harm kind = _ by unfold harm; simp [g1a]))
    · replace g1a := of_decide_eq_false g1a
      refine .on (t := 5) rfl rfl ?_
      refine .rd (.move rfl) ?_
      refine .on (t := 5) rfl rfl ?_
      refine .rd (.eqI rfl rfl) ?_
      refine .rd (.pickF rfl rfl) ?_
      refine .rd (.move rfl) ?_
      refine .split (t := 9) rfl (fun g1b => ?_) (fun g1b => ?_)
      · replace g1b := of_decide_eq_true g1b
        refine .off (t := 9) rfl rfl rfl ?_
        refine .off (t := 9) rfl rfl rfl ?_
        refine .rd (.pickT rfl rfl) ?_
        refine .nil ⟨rfl, ?_, by repeat (first | exact Le.refl _ | refine Le.skip rfl ?_)⟩
        exact congrArg (fun x => some (Value.bool x)) (Eq.symm (show harm kind = _ by unfold harm; simp [g1b]))
      · replace g1b := of_decide_eq_false g1b
        refine .on (t := 9) rfl rfl ?_
        refine .rd (.move rfl) ?_
        refine .on (t := 9) rfl rfl ?_
        refine .rd (.eqI rfl rfl) ?_
        refine .rd (.pickF rfl rfl) ?_
        refine .nil ⟨rfl, ?_, by repeat (first | exact Le.refl _ | refine Le.skip rfl ?_)⟩
        exact congrArg (fun x => some (Value.bool x)) (Eq.symm (show harm kind = _ by unfold harm; simp [g1a, g1b]))
  refine .rd (.assign rfl) ?_
  refine .nil ?_
  refine .retP Tryd.func23 (.cons (.tmp rfl) .nil) (.cons .head .nil) ?_
  exact ⟨[], ⟨rfl, rfl⟩, rfl⟩

set_option maxRecDepth 20000 in
theorem within19_ok (n a b : Int) : Cn Tryd.prog 37 [.int .i64 n, .int .i64 a, .int .i64 b] (fun _ => True) [] fun v G => v = .bool (decide (a ≤ n ∧ n ≤ b)) ∧ G = [] := by
  refine .enter Tryd.func37 rfl (by kernel_rfl) rfl fun R k => ?_
  refine .seq ?_
  refine .region ?_
  refine .rd (.assign rfl) ?_
  refine .nil ?_
  refine .seq ?_
  refine .region ?_
  refine RunO.join 8 14 (decide (a ≤ n ∧ n ≤ b)) ?_ ?_
  · refine .rd (.move rfl) ?_
    refine .rd (.move rfl) ?_
    refine .rd (.ge rfl rfl) ?_
    refine .rd (.move rfl) ?_
    refine .split (t := 10) rfl (fun g1a => ?_) (fun g1a => ?_)
    · replace g1a := of_decide_eq_true g1a
      refine .on (t := 10) rfl rfl ?_
      refine .rd (.move rfl) ?_
      refine .on (t := 10) rfl rfl ?_
      refine .rd (.move rfl) ?_
      refine .on (t := 10) rfl rfl ?_
      refine .rd (.le rfl rfl) ?_
      refine .rd (.pickT rfl rfl) ?_
      refine .nil ⟨rfl, ?_, by repeat (first | exact Le.refl _ | refine Le.skip rfl ?_)⟩
      exact congrArg (fun x => some (Value.bool x)) (Eq.symm (show decide (a ≤ n ∧ n ≤ b) = _ by simp [g1a]))
    · replace g1a := of_decide_eq_false g1a
      refine .off (t := 10) rfl rfl rfl ?_
      refine .off (t := 10) rfl rfl rfl ?_
      refine .off (t := 10) rfl rfl rfl ?_
      refine .rd (.pickF rfl rfl) ?_
      refine .nil ⟨rfl, ?_, by repeat (first | exact Le.refl _ | refine Le.skip rfl ?_)⟩
      exact congrArg (fun x => some (Value.bool x)) (Eq.symm (show decide (a ≤ n ∧ n ≤ b) = _ by simp [g1a]))
  refine .rd (.assign rfl) ?_
  refine .nil ?_
  refine .retP Tryd.func37 (.cons (.tmp rfl) .nil) (.cons .head .nil) ?_
  exact ⟨[], ⟨rfl, rfl⟩, rfl⟩

end Go.Proofs.YtankogdnhgmkhaaDoor


namespace Go.Proofs.YtankogdnhgmkhaaDoor
open Go Go.Sp

set_option linter.unusedVariables false

namespace con6
theorem ti35 : TI Tryd.prog 35 21 232 (.agg #[.int .i64 0, .int .i64 0, .int .i64 0, .int .i64 0, .int .i64 0, .int .i64 0, .int .i64 0, .int .i64 0, .int .i64 0, .int .i64 0, .int .i64 0, .int .i64 0, .int .i64 0, .int .i64 0, .int .i64 0, .int .i64 0, .string ⟨#[]⟩, .string ⟨#[]⟩, .slice none 0 0, .slice none 0 0, .slice none 0 0]) := .of (by kernel_rfl)
theorem fd35_0 : FD Tryd.prog 35 0 0 := .of Tryd.underlying35 (by kernel_rfl)
theorem na3 : NotAgg Tryd.prog 3 := ⟨_, Tryd.underlying3, trivial⟩
theorem fd35_2 : FD Tryd.prog 35 2 2 := .of Tryd.underlying35 (by kernel_rfl)
theorem fd35_1 : FD Tryd.prog 35 1 1 := .of Tryd.underlying35 (by kernel_rfl)
theorem fd35_3 : FD Tryd.prog 35 3 3 := .of Tryd.underlying35 (by kernel_rfl)
theorem fd35_4 : FD Tryd.prog 35 4 4 := .of Tryd.underlying35 (by kernel_rfl)
theorem bld35_0_1_2_3_4_15 (x0 : Int) (x1 : Int) (x2 : Int) (x3 : Int) (x4 : Int) (x5 : Int) (w : World) : (Instr.build 35 (([0, 1, 2, 3, 4, 15] : List Nat).zip [.int .i64 x0, .int .i64 x1, .int .i64 x2, .int .i64 x3, .int .i64 x4, .int .i64 x5]).toArray).run Tryd.prog w = .ok (.agg #[.int .i64 x0, .int .i64 x1, .int .i64 x2, .int .i64 x3, .int .i64 x4, .int .i64 0, .int .i64 0, .int .i64 0, .int .i64 0, .int .i64 0, .int .i64 0, .int .i64 0, .int .i64 0, .int .i64 0, .int .i64 0, .int .i64 x5, .string ⟨#[]⟩, .string ⟨#[]⟩, .slice none 0 0, .slice none 0 0, .slice none 0 0]) w := by kernel_rfl
theorem ts35 : TS Tryd.prog 35 21 := .of (by kernel_rfl)
theorem ia35 : IsAgg Tryd.prog 35 := ⟨_, Tryd.underlying35, trivial⟩
theorem fd31_2 : FD Tryd.prog 31 2 2 := .of Tryd.underlying31 (by kernel_rfl)
theorem fd31_3 : FD Tryd.prog 31 3 3 := .of Tryd.underlying31 (by kernel_rfl)
theorem fd31_4 : FD Tryd.prog 31 4 4 := .of Tryd.underlying31 (by kernel_rfl)
theorem bld35_0_4_6 (x0 : Int) (x1 : Int) (x2 : Int) (w : World) : (Instr.build 35 (([0, 4, 6] : List Nat).zip [.int .i64 x0, .int .i64 x1, .int .i64 x2]).toArray).run Tryd.prog w = .ok (.agg #[.int .i64 x0, .int .i64 0, .int .i64 0, .int .i64 0, .int .i64 x1, .int .i64 0, .int .i64 x2, .int .i64 0, .int .i64 0, .int .i64 0, .int .i64 0, .int .i64 0, .int .i64 0, .int .i64 0, .int .i64 0, .int .i64 0, .string ⟨#[]⟩, .string ⟨#[]⟩, .slice none 0 0, .slice none 0 0, .slice none 0 0]) w := by kernel_rfl
theorem fd31_8 : FD Tryd.prog 31 8 8 := .of Tryd.underlying31 (by kernel_rfl)
theorem na9 : NotAgg Tryd.prog 9 := ⟨_, Tryd.underlying9, trivial⟩
theorem fd31_7 : FD Tryd.prog 31 7 7 := .of Tryd.underlying31 (by kernel_rfl)
theorem bld35_0_11_16_9_14_12 (x0 : Int) (x1 : Int) (x2 : ByteArray) (x3 : Int) (x4 : Int) (x5 : Int) (w : World) : (Instr.build 35 (([0, 11, 16, 9, 14, 12] : List Nat).zip [.int .i64 x0, .int .i64 x1, .string x2, .int .i64 x3, .int .i64 x4, .int .i64 x5]).toArray).run Tryd.prog w = .ok (.agg #[.int .i64 x0, .int .i64 0, .int .i64 0, .int .i64 0, .int .i64 0, .int .i64 0, .int .i64 0, .int .i64 0, .int .i64 0, .int .i64 x3, .int .i64 0, .int .i64 x1, .int .i64 x5, .int .i64 0, .int .i64 x4, .int .i64 0, .string x2, .string ⟨#[]⟩, .slice none 0 0, .slice none 0 0, .slice none 0 0]) w := by kernel_rfl
theorem bld35_0_11_9_20 (x0 : Int) (x1 : Int) (x2 : Int) (x3a : Option Addr) (x3n : Nat) (x3c : Nat) (w : World) : (Instr.build 35 (([0, 11, 9, 20] : List Nat).zip [.int .i64 x0, .int .i64 x1, .int .i64 x2, .slice x3a x3n x3c]).toArray).run Tryd.prog w = .ok (.agg #[.int .i64 x0, .int .i64 0, .int .i64 0, .int .i64 0, .int .i64 0, .int .i64 0, .int .i64 0, .int .i64 0, .int .i64 0, .int .i64 x2, .int .i64 0, .int .i64 x1, .int .i64 0, .int .i64 0, .int .i64 0, .int .i64 0, .string ⟨#[]⟩, .string ⟨#[]⟩, .slice none 0 0, .slice none 0 0, .slice x3a x3n x3c]) w := by kernel_rfl
theorem fd31_5 : FD Tryd.prog 31 5 5 := .of Tryd.underlying31 (by kernel_rfl)
theorem bld35_0_11_16_12_14_9_6 (x0 : Int) (x1 : Int) (x2 : ByteArray) (x3 : Int) (x4 : Int) (x5 : Int) (x6 : Int) (w : World) : (Instr.build 35 (([0, 11, 16, 12, 14, 9, 6] : List Nat).zip [.int .i64 x0, .int .i64 x1, .string x2, .int .i64 x3, .int .i64 x4, .int .i64 x5, .int .i64 x6]).toArray).run Tryd.prog w = .ok (.agg #[.int .i64 x0, .int .i64 0, .int .i64 0, .int .i64 0, .int .i64 0, .int .i64 0, .int .i64 x6, .int .i64 0, .int .i64 0, .int .i64 x5, .int .i64 0, .int .i64 x1, .int .i64 x3, .int .i64 0, .int .i64 x4, .int .i64 0, .string x2, .string ⟨#[]⟩, .slice none 0 0, .slice none 0 0, .slice none 0 0]) w := by kernel_rfl
theorem fd35_9 : FD Tryd.prog 35 9 9 := .of Tryd.underlying35 (by kernel_rfl)
theorem ts3 : TS Tryd.prog 3 1 := .of (by kernel_rfl)
theorem fd35_20 : FD Tryd.prog 35 20 20 := .of Tryd.underlying35 (by kernel_rfl)
theorem na28 : NotAgg Tryd.prog 28 := ⟨_, Tryd.underlying28, trivial⟩
theorem ti3 : TI Tryd.prog 3 1 8 (.int .i64 0) := .of (by kernel_rfl)
theorem ts28 : TS Tryd.prog 28 1 := .of (by kernel_rfl)
end con6
open con6



set_option maxRecDepth 20000 in
theorem answer_ok (m : Mg19) (hk : 1 ≤ m.kind ∧ m.kind ≤ 28) (ho : m.kind % 2 = 1) : Cn Tryd.prog 29 [.agg m.cells.toArray, .int .i64 0] (fun _ => True) [] fun v G => v = .agg (Mg19.cells (Mg19.mk (m.kind + 1) m.to m.fr m.id m.part 0 0 0 0 0 [] (none, 0, 0))).toArray ∧ G = [] := by
  refine .enter Tryd.func29 rfl (by kernel_rfl) rfl fun R k => ?_
  refine .seq ?_
  refine .region ?_
  refine .ef (.box (l := m.cells) rfl rfl m.cells_ones) ?_
  rintro _ _ ⟨b2, rfl, rfl⟩
  refine .ef (.alloc ti35 rfl (ones.of rfl)) ?_
  rintro _ _ ⟨b4, rfl, rfl⟩
  refine .nil ?_
  refine .seq ?_
  refine .seq ?_
  refine .region ?_
  refine .rd (.fieldAddr fd35_0 rfl) ?_
  refine .rd (.ld na3 rfl (.tail .head) rfl) ?_
  refine .fn rfl rfl .nil (fun _ _ _ => trivial) (within19_ok m.kind 1 28) (fun v G1 hq => ?_)
  obtain ⟨rfl, rfl⟩ := hq
  simp only [List.nil_append]
  refine .alter (t := 7) (v' := .bool true) rfl (congrArg Value.bool (decide_eq_true (by omega))) ?_
  refine .rd (.not rfl) ?_
  refine .rd (.move rfl) ?_
  refine .on (t := 9) rfl rfl ?_
  refine .rd (.fieldAddr fd35_0 rfl) ?_
  refine .on (t := 9) rfl rfl ?_
  refine .rd (.ld na3 rfl (.tail .head) rfl) ?_
  refine .on (t := 9) rfl rfl ?_
  refine .rd (.rem rfl rfl (by omega) (by omega)) ?_
  refine .on (t := 9) rfl rfl ?_
  refine .rd (.eqI rfl rfl) ?_
  refine .alter (t := 13) (v' := .bool false) rfl (congrArg Value.bool (decide_eq_false (by omega))) ?_
  refine .rd (.pickF rfl rfl) ?_
  refine .nil ?_
  refine .condF rfl ?_
  refine .skip ?_
  refine .seq ?_
  refine .region ?_
  refine .rd (.fieldAddr fd35_0 rfl) ?_
  refine .rd (.ld na3 rfl (.tail .head) rfl) ?_
  refine .rd (.add rfl rfl (by omega) (by omega)) ?_
  refine .rd (.fieldAddr fd35_2 rfl) ?_
  refine .rd (.ld na3 rfl (.tail .head) rfl) ?_
  refine .rd (.fieldAddr fd35_1 rfl) ?_
  refine .rd (.ld na3 rfl (.tail .head) rfl) ?_
  refine .rd (.fieldAddr fd35_3 rfl) ?_
  refine .rd (.ld na3 rfl (.tail .head) rfl) ?_
  refine .rd (.fieldAddr fd35_4 rfl) ?_
  refine .rd (.ld na3 rfl (.tail .head) rfl) ?_
  refine .rd (.move rfl) ?_
  refine .rd (.build rfl (bld35_0_1_2_3_4_15 _ _ _ _ _ _)) ?_
  refine .ef0 (.storeAll (vs := Mg19.cells (Mg19.mk (m.kind + 1) m.to m.fr m.id m.part 0 0 0 0 0 [] (none, 0, 0))) ts35 rfl rfl rfl .head rfl (ones.of rfl)) ?_
  rintro _ _ rfl
  refine .nil ?_
  refine .retP Tryd.func29 (.cons (.blkN ia35 ts35 rfl .head rfl) .nil) (.cons (.tail (.tail .head)) .nil) ?_
  exact ⟨[], ⟨rfl, rfl⟩, rfl⟩

set_option maxRecDepth 20000 in
theorem asks_ok (s : Sn19) (ia : Option Addr) (inn ic : Nat) (hm : may19 s = true) : Cn Tryd.prog 18 [.agg s.cells.toArray, .slice ia inn ic] (fun _ => True) [] fun v G => ∃ z, v = .tuple #[.agg (asksM s z).cells.toArray, .int .i64 (aimOf s)] ∧ G = [] := by
  refine .enter Tryd.func18 rfl (by kernel_rfl) rfl fun R k => ?_
  simp only [may19, number19, Bool.and_eq_true, decide_eq_true_eq] at hm
  refine .seq ?_
  refine .region ?_
  refine .ef (.box (l := s.cells) rfl rfl s.cells_ones) ?_
  rintro _ _ ⟨b2, rfl, rfl⟩
  refine .ef (.alloc ti35 rfl (ones.of rfl)) ?_
  rintro _ _ ⟨b4, rfl, rfl⟩
  refine .rd (.assign rfl) ?_
  refine .nil ?_
  refine .seq ?_
  refine .seq ?_
  refine .region ?_
  refine .rd (.fieldAddr fd31_2 rfl) ?_
  refine .rd (.ld na3 rfl (.tail .head) rfl) ?_
  refine .nil ?_
  refine .block ?_
  refine .seq ?_
  refine .region ?_
  refine .rd (.eqI rfl rfl) ?_
  refine .rd (.assign rfl) ?_
  refine .nil ?_
  refine .condP rfl (fun h2 => ?_) (fun h2 => ?_)
  · refine .seq ?_
    refine .draws [1, 3] [blk b2 s.cells 31] (by kernel_rfl) ?_
    refine .rp 0 rfl (by kernel_rfl) (by kernel_rfl) (by kernel_rfl) (Reads.pure (.fieldAddr fd31_3 rfl)) ?_
    refine .rd 1 rfl rfl (by kernel_rfl) (by kernel_rfl) (by kernel_rfl) (.ld na3 rfl .head rfl) (.cons (.tail .head) .nil) ?_
    refine .rp 2 rfl (by kernel_rfl) (by kernel_rfl) (by kernel_rfl) (Reads.pure (.fieldAddr fd31_4 rfl)) ?_
    refine .rd 3 rfl rfl (by kernel_rfl) (by kernel_rfl) (by kernel_rfl) (.ld na3 rfl .head rfl) (.cons (.tail .head) .nil) ?_
    refine .rp 4 rfl (by kernel_rfl) (by kernel_rfl) (by kernel_rfl) (Reads.pure (.build rfl (bld35_0_4_6 _ _ _))) ?_
    refine .rp 5 rfl (by kernel_rfl) (by kernel_rfl) (by kernel_rfl) (Reads.pure (.fieldAddr fd31_3 rfl)) ?_
    refine .all (rs := [6, 7]) (by kernel_rfl) (by simp) (fun i hi => ?_)
    simp only [List.mem_cons, List.not_mem_nil, or_false] at hi
    rcases hi with rfl | rfl
    · refine .rd rfl (.ld na3 rfl (.tail .head) rfl) (.cons (.tail .head) .nil) ?_
      have hm2 : asksM s (none, 0, 0) = ⟨19, 0, 0, 0, s.part, s.offset, 0, 0, 0, 0, [], (none, 0, 0)⟩ := by unfold asksM; rw [if_pos h2]
      refine .ef0 7 (by kernel_rfl) rfl (.storeAll (vs := Mg19.cells (⟨19, 0, 0, 0, s.part, s.offset, 0, 0, 0, 0, [], (none, 0, 0)⟩ : Mg19)) ts35 rfl rfl rfl .head rfl (ones.of rfl)) ?_
      rintro _ _ rfl
      refine ⟨.inl (by kernel_rfl), ?_⟩
      refine .rp 8 rfl (by kernel_rfl) (by kernel_rfl) (by kernel_rfl) (Reads.pure (.assign rfl)) ?_
      refine .done (by kernel_rfl) ?_
      have ha : aimOf s = s.part := by unfold aimOf; rw [if_pos (.inl h2)]
      refine .retP Tryd.func18 (.cons (.blkN ia35 ts35 rfl .head rfl) (.cons (.tmp rfl) .nil)) (.cons (.tail (.tail .head)) .nil) ?_
      exact ⟨[], ⟨(none, 0, 0), by rw [hm2, ha]; rfl, rfl⟩, rfl⟩
    · have hm2 : asksM s (none, 0, 0) = ⟨19, 0, 0, 0, s.part, s.offset, 0, 0, 0, 0, [], (none, 0, 0)⟩ := by unfold asksM; rw [if_pos h2]
      refine .ef0 rfl (.storeAll (vs := Mg19.cells (⟨19, 0, 0, 0, s.part, s.offset, 0, 0, 0, 0, [], (none, 0, 0)⟩ : Mg19)) ts35 rfl rfl rfl .head rfl (ones.of rfl)) ?_
      rintro _ _ rfl
      refine ⟨.inl (by kernel_rfl), ?_⟩
      refine .rs 6 (by kernel_rfl) rfl (.ld na3 rfl (.tail .head) rfl) (.inr (.cons (.tail .head) .nil)) ?_
      refine .rp 8 rfl (by kernel_rfl) (by kernel_rfl) (by kernel_rfl) (Reads.pure (.assign rfl)) ?_
      refine .done (by kernel_rfl) ?_
      have ha : aimOf s = s.part := by unfold aimOf; rw [if_pos (.inl h2)]
      refine .retP Tryd.func18 (.cons (.blkN ia35 ts35 rfl .head rfl) (.cons (.tmp rfl) .nil)) (.cons (.tail (.tail .head)) .nil) ?_
      exact ⟨[], ⟨(none, 0, 0), by rw [hm2, ha]; rfl, rfl⟩, rfl⟩
  · refine .seq ?_
    refine .region ?_
    refine .rd (.eqI rfl rfl) ?_
    refine .rd (.assign rfl) ?_
    refine .nil ?_
    refine .condP rfl (fun h4 => ?_) (fun h4 => ?_)
    · refine .seq ?_
      refine .draws [1, 3] [blk b2 s.cells 31] (by kernel_rfl) ?_
      refine .rp 0 rfl (by kernel_rfl) (by kernel_rfl) (by kernel_rfl) (Reads.pure (.fieldAddr fd31_3 rfl)) ?_
      refine .rd 1 rfl rfl (by kernel_rfl) (by kernel_rfl) (by kernel_rfl) (.ld na3 rfl .head rfl) (.cons (.tail .head) .nil) ?_
      refine .rp 2 rfl (by kernel_rfl) (by kernel_rfl) (by kernel_rfl) (Reads.pure (.fieldAddr fd31_4 rfl)) ?_
      refine .rd 3 rfl rfl (by kernel_rfl) (by kernel_rfl) (by kernel_rfl) (.ld na3 rfl .head rfl) (.cons (.tail .head) .nil) ?_
      refine .rp 4 rfl (by kernel_rfl) (by kernel_rfl) (by kernel_rfl) (Reads.pure (.build rfl (bld35_0_4_6 _ _ _))) ?_
      refine .rp 5 rfl (by kernel_rfl) (by kernel_rfl) (by kernel_rfl) (Reads.pure (.fieldAddr fd31_3 rfl)) ?_
      refine .all (rs := [6, 7]) (by kernel_rfl) (by simp) (fun i hi => ?_)
      simp only [List.mem_cons, List.not_mem_nil, or_false] at hi
      rcases hi with rfl | rfl
      · refine .rd rfl (.ld na3 rfl (.tail .head) rfl) (.cons (.tail .head) .nil) ?_
        have hm2 : asksM s (none, 0, 0) = ⟨25, 0, 0, 0, s.part, s.offset, 0, 0, 0, 0, [], (none, 0, 0)⟩ := by unfold asksM; rw [if_neg h2, if_pos h4]
        refine .ef0 7 (by kernel_rfl) rfl (.storeAll (vs := Mg19.cells (⟨25, 0, 0, 0, s.part, s.offset, 0, 0, 0, 0, [], (none, 0, 0)⟩ : Mg19)) ts35 rfl rfl rfl .head rfl (ones.of rfl)) ?_
        rintro _ _ rfl
        refine ⟨.inl (by kernel_rfl), ?_⟩
        refine .rp 8 rfl (by kernel_rfl) (by kernel_rfl) (by kernel_rfl) (Reads.pure (.assign rfl)) ?_
        refine .done (by kernel_rfl) ?_
        have ha : aimOf s = s.part := by unfold aimOf; rw [if_pos (.inr h4)]
        refine .retP Tryd.func18 (.cons (.blkN ia35 ts35 rfl .head rfl) (.cons (.tmp rfl) .nil)) (.cons (.tail (.tail .head)) .nil) ?_
        exact ⟨[], ⟨(none, 0, 0), by rw [hm2, ha]; rfl, rfl⟩, rfl⟩
      · have hm2 : asksM s (none, 0, 0) = ⟨25, 0, 0, 0, s.part, s.offset, 0, 0, 0, 0, [], (none, 0, 0)⟩ := by unfold asksM; rw [if_neg h2, if_pos h4]
        refine .ef0 rfl (.storeAll (vs := Mg19.cells (⟨25, 0, 0, 0, s.part, s.offset, 0, 0, 0, 0, [], (none, 0, 0)⟩ : Mg19)) ts35 rfl rfl rfl .head rfl (ones.of rfl)) ?_
        rintro _ _ rfl
        refine ⟨.inl (by kernel_rfl), ?_⟩
        refine .rs 6 (by kernel_rfl) rfl (.ld na3 rfl (.tail .head) rfl) (.inr (.cons (.tail .head) .nil)) ?_
        refine .rp 8 rfl (by kernel_rfl) (by kernel_rfl) (by kernel_rfl) (Reads.pure (.assign rfl)) ?_
        refine .done (by kernel_rfl) ?_
        have ha : aimOf s = s.part := by unfold aimOf; rw [if_pos (.inr h4)]
        refine .retP Tryd.func18 (.cons (.blkN ia35 ts35 rfl .head rfl) (.cons (.tmp rfl) .nil)) (.cons (.tail (.tail .head)) .nil) ?_
        exact ⟨[], ⟨(none, 0, 0), by rw [hm2, ha]; rfl, rfl⟩, rfl⟩
    · refine .seq ?_
      refine .region ?_
      refine .rd (.eqI rfl rfl) ?_
      refine .rd (.assign rfl) ?_
      refine .nil ?_
      refine .condP rfl (fun h6 => ?_) (fun h6 => ?_)
      · refine .seq ?_
        refine .region ?_
        refine .rd (.fieldAddr fd31_8 rfl) ?_
        refine .rd (.ld na9 rfl (.tail .head) rfl) ?_
        refine .rd (.fieldAddr fd31_3 rfl) ?_
        refine .rd (.ld na3 rfl (.tail .head) rfl) ?_
        refine .rd (.fieldAddr fd31_4 rfl) ?_
        refine .rd (.ld na3 rfl (.tail .head) rfl) ?_
        refine .rd (.fieldAddr fd31_7 rfl) ?_
        refine .rd (.ld na3 rfl (.tail .head) rfl) ?_
        refine .rd (.build rfl (bld35_0_11_16_9_14_12 _ _ _ _ _ _)) ?_
        have hm2 : asksM s (none, 0, 0) = ⟨15, 0, 0, 0, 0, 0, s.part, 4, s.seq, s.offset, s.name, (none, 0, 0)⟩ := by unfold asksM; rw [if_neg h2, if_neg h4, if_pos h6]
        refine .ef0 (.storeAll (vs := Mg19.cells (⟨15, 0, 0, 0, 0, 0, s.part, 4, s.seq, s.offset, s.name, (none, 0, 0)⟩ : Mg19)) ts35 rfl rfl rfl .head rfl (ones.of rfl)) ?_
        rintro _ _ rfl
        refine .rd (.assign rfl) ?_
        refine .nil ?_
        have ha : aimOf s = -1 := by unfold aimOf; rw [if_neg (by omega), if_pos (.inl h6)]
        refine .retP Tryd.func18 (.cons (.blkN ia35 ts35 rfl .head rfl) (.cons (.tmp rfl) .nil)) (.cons (.tail (.tail .head)) .nil) ?_
        exact ⟨[], ⟨(none, 0, 0), by rw [hm2, ha]; rfl, rfl⟩, rfl⟩
      · refine .seq ?_
        refine .seq ?_
        refine .region ?_
        refine .rd (.eqI rfl rfl) ?_
        refine .rd (.assign rfl) ?_
        refine .nil ?_
        refine .joinAt (E' := [(1, .slice ia inn ic), (2, .pointer (some ⟨b2, 0, none⟩)), (4, .pointer (some ⟨b4, 0, none⟩)), (39, .bool (decide (s.kind = 8 ∨ s.kind = 9)))]) (Γ' := [blk b2 s.cells 31, blk b4 (Mg19.cells ⟨0, 0, 0, 0, 0, 0, 0, 0, 0, 0, [], (none, 0, 0)⟩) 35, R]) ?_ (fun fin => ?_)
        · refine .condP rfl (fun h10 => ?_) (fun h10 => ?_)
          · refine .seq ?_
            refine .region ?_
            refine .rd (.fieldAddr fd31_2 rfl) ?_
            refine .rd (.ld na3 rfl .head rfl) ?_
            refine .rd (.sub rfl rfl (by omega) (by omega)) ?_
            refine .rd (.fieldAddr fd31_3 rfl) ?_
            refine .rd (.ld na3 rfl .head rfl) ?_
            refine .rd (.move rfl) ?_
            refine .rd (.build rfl (bld35_0_11_9_20 _ _ _ _ _ _)) ?_
            have hm2 : asksM s (ia, inn, ic) = ⟨15, 0, 0, 0, 0, 0, s.part, s.kind - 2, 0, 0, [], (ia, inn, ic)⟩ := by unfold asksM; rw [if_neg h2, if_neg h4, if_neg h6, if_pos h10]
            refine .ef0 (.storeAll (vs := Mg19.cells (⟨15, 0, 0, 0, 0, 0, s.part, s.kind - 2, 0, 0, [], (ia, inn, ic)⟩ : Mg19)) ts35 rfl rfl rfl (.tail .head) rfl (ones.of rfl)) ?_
            rintro _ _ rfl
            refine .rd (.assign rfl) ?_
            refine .nil ?_
            have ha : aimOf s = -1 := by unfold aimOf; rw [if_neg (by omega), if_pos (.inr h10)]
            refine .retP Tryd.func18 (.cons (.blkN ia35 ts35 rfl .head rfl) (.cons (.tmp rfl) .nil)) (.cons (.tail (.tail .head)) .nil) ?_
            exact ⟨[], ⟨(ia, inn, ic), by rw [hm2, ha]; rfl, rfl⟩, rfl⟩
          · refine .skip ?_
            refine .inBlock ?_
            refine .seq ?_
            refine .region ?_
            refine .rd (.fieldAddr fd31_2 rfl) ?_
            refine .rd (.ld na3 rfl .head rfl) ?_
            refine .rd (.sub rfl rfl (by omega) (by omega)) ?_
            refine .rd (.fieldAddr fd31_8 rfl) ?_
            refine .rd (.ld na9 rfl .head rfl) ?_
            refine .rd (.fieldAddr fd31_5 rfl) ?_
            refine .rd (.ld na3 rfl .head rfl) ?_
            refine .rd (.fieldAddr fd31_7 rfl) ?_
            refine .rd (.ld na3 rfl .head rfl) ?_
            refine .rd (.fieldAddr fd31_3 rfl) ?_
            refine .rd (.ld na3 rfl .head rfl) ?_
            refine .rd (.fieldAddr fd31_4 rfl) ?_
            refine .rd (.ld na3 rfl .head rfl) ?_
            refine .rd (.build rfl (bld35_0_11_16_12_14_9_6 _ _ _ _ _ _ _)) ?_
            refine .ef (.alloc ti35 rfl (ones.of rfl)) ?_
            rintro _ _ ⟨b6, rfl, rfl⟩
            refine .ef0 (.storeAll (vs := Mg19.cells (⟨23, 0, 0, 0, 0, s.offset, s.part, s.kind - 1, s.pid, s.seq, s.name, (none, 0, 0)⟩ : Mg19)) ts35 rfl rfl rfl .head rfl (ones.of rfl)) ?_
            rintro _ _ rfl
            refine .nil ?_
            refine .seq ?_
            refine .seq ?_
            refine .region ?_
            refine .rd (.fieldAddr fd31_2 rfl) ?_
            refine .rd (.ld na3 rfl (.tail .head) rfl) ?_
            refine .rd (.eqI rfl rfl) ?_
            refine .nil ?_
            refine .condP rfl (fun h12 => ?_) (fun h12 => ?_)
            · refine .seq ?_
              refine .region ?_
              refine .rd (.fieldAddr fd35_9 rfl) ?_
              refine .ef0 (.store ts3 rfl rfl .head rfl (Nat.le_of_ble_eq_true rfl)) ?_
              rintro _ _ rfl
              refine .nil ?_
              refine .cast (X' := blk b6 (Mg19.cells (⟨23, 0, 0, 0, 0, s.offset, 0, s.kind - 1, s.pid, s.seq, s.name, (none, 0, 0)⟩ : Mg19)) 35) (rfl) ?_
              refine .nilArr 3 1 none ?_
              refine .seq ?_
              refine .region ?_
              refine .rd (.assign rfl) ?_
              refine .nil ?_
              refine .block ?_
              refine .loop (σ := Nat × Option Addr × Nat × List Value) (fun ⟨j, ra, rc, cs⟩ => (j : Int) ≤ 16 ∧ cs.length = j) (fun ⟨j, ra, rc, cs⟩ => 20 - j) (fun ⟨j, ra, rc, cs⟩ => [(1, .slice ia inn ic), (2, .pointer (some ⟨b2, 0, none⟩)), (4, .pointer (some ⟨b4, 0, none⟩)), (6, .pointer (some ⟨b6, 0, none⟩)), (7, .int .i64 ((j : Int) + 2))]) (fun ⟨j, ra, rc, cs⟩ => [blk b2 s.cells 31, blk b4 (Mg19.cells ⟨0, 0, 0, 0, 0, 0, 0, 0, 0, 0, [], (none, 0, 0)⟩) 35, blk b6 (Mg19.cells (⟨23, 0, 0, 0, 0, s.offset, 0, s.kind - 1, s.pid, s.seq, s.name, (ra, j, rc)⟩ : Mg19)) 35, arr 3 1 ra rc cs, R]) (0, none, 0, []) ⟨by decide, rfl⟩ (.cons rfl (.cons rfl (.cons rfl (.cons rfl (.cons rfl .nil))))) (.cons (.tail (.tail .head)) (.cons (.tail (.tail .head)) (.cons (.tail .head) (.cons .head (.cons .head .nil))))) (fun s' hI ih => ?_)
              obtain ⟨j, ra, rc, cs⟩ := s'
              dsimp only at hI ih ⊢
              obtain ⟨hj, hcs⟩ := hI
              refine .seq ?_
              refine .seq ?_
              refine .region ?_
              refine .rd (.move rfl) ?_
              refine .rd (.fieldAddr fd31_3 rfl) ?_
              refine .rd (.ld na3 rfl .head rfl) ?_
              refine .rd (.le rfl rfl) ?_
              refine .nil ?_
              refine .condP rfl (fun h15 => ?_) (fun h15 => ?_)
              · refine .skip ?_
                refine .seq ?_
                refine .block ?_
                refine .region ?_
                refine .rd (.fieldAddr fd35_20 rfl) ?_
                refine .rd (.ld na28 rfl (.tail (.tail .head)) rfl) ?_
                refine .rd (.move rfl) ?_
                refine .ef (.buildOne (cs := [.int .i64 ((j : Int) + 2)]) Tryd.underlying28 ti3 (by decide) rfl rfl rfl (ones.of rfl)) ?_
                rintro _ _ ⟨bs, rfl, rfl⟩
                refine .ef (.append rfl rfl Tryd.underlying28 ti3 rfl (ones.of rfl) (by decide) (by decide) rfl rfl (.tail (.tail (.tail (.tail .head)))) (n := j) (m := 1) (by rw [hcs, Nat.mul_one]) (.srcBlk (ys := [.int .i64 ((j : Int) + 2)]) .head Tryd.underlying28 rfl (by decide)) (by omega)) ?_
                rintro _ _ ⟨qa, qc, rfl, qn, rfl⟩
                refine .rd (.fieldAddr fd35_20 rfl) ?_
                refine .ef0 (.store ts28 rfl rfl (.tail (.tail (.tail (.tail .head)))) rfl (Nat.le_of_ble_eq_true rfl)) ?_
                rintro _ _ rfl
                refine .nil ?_
                refine .cast (X' := blk b6 (Mg19.cells (⟨23, 0, 0, 0, 0, s.offset, 0, s.kind - 1, s.pid, s.seq, s.name, (qa, j + 1, qc)⟩ : Mg19)) 35) (rfl) ?_
                obtain ⟨ra2, rc2, hra, hrc⟩ : ∃ r s, r = qa ∧ s = qc := ⟨_, _, rfl, rfl⟩
                subst hra; subst hrc
                refine .inBlock ?_
                refine .region ?_
                refine .rd (.move rfl) ?_
                refine .rd (.add rfl rfl (by omega) (by omega)) ?_
                refine .rd (.assign rfl) ?_
                refine .nil ?_
                exact (ih (j + 1, ra2, rc2, cs ++ [.int .i64 ((j : Int) + 2)]) ⟨by show ((j + 1 : Nat) : Int) ≤ 16; omega, by rw [List.length_append, hcs]; rfl⟩ (by show 20 - (j + 1) < 20 - j; omega)).to (.cons rfl (.cons rfl (.cons rfl (.cons rfl (.cons (by show _ = some (Value.int .i64 (((j + 1 : Nat) : Int) + 2)); rw [show (((j + 1 : Nat) : Int) + 2) = (j : Int) + 2 + 1 by omega]; rfl) .nil))))) (.cons (.tail (.tail (.tail .head))) (.cons (.tail (.tail (.tail .head))) (.cons .head (.cons .head (.cons (.tail .head) .nil)))))
              · refine .exit rfl ?_
                refine .seq ?_
                obtain ⟨z, hz⟩ : ∃ z : Sl19, z = (ra, j, rc) := ⟨_, rfl⟩
                refine .perm (.cons (.tail (.tail .head)) (.cons .head (.cons .head (.cons .head (.cons .head .nil))))) ?_
                refine .cast (X' := blk b6 (Mg19.cells (⟨23, 0, 0, 0, 0, s.offset, 0, s.kind - 1, s.pid, s.seq, s.name, z⟩ : Mg19)) 35) (by rw [hz]) ?_
                refine .region ?_
                refine .rd (.ldN ia35 ts35 rfl .head rfl) ?_
                refine .ef0 (.storeAll (vs := Mg19.cells (⟨23, 0, 0, 0, 0, s.offset, 0, s.kind - 1, s.pid, s.seq, s.name, z⟩ : Mg19)) ts35 rfl rfl rfl (.tail (.tail .head)) rfl (ones.of rfl)) ?_
                rintro _ _ rfl
                refine .rd (.assign rfl) ?_
                refine .nil ?_
                have ha : aimOf s = -2 := by unfold aimOf; rw [if_neg (by omega), if_neg (by omega)]
                have hm2 : asksM s z = (⟨23, 0, 0, 0, 0, s.offset, 0, s.kind - 1, s.pid, s.seq, s.name, z⟩ : Mg19) := by unfold asksM; rw [if_neg h2, if_neg h4, if_neg h6, if_neg h10, if_pos h12]
                refine .retP Tryd.func18 (.cons (.blkN ia35 ts35 rfl .head rfl) (.cons (.tmp rfl) .nil)) (.cons (.tail (.tail (.tail (.tail .head)))) .nil) ?_
                exact ⟨[], ⟨z, by rw [hm2, ha]; rfl, rfl⟩, rfl⟩
            · refine .skip ?_
              refine .seq ?_
              obtain ⟨z, hz⟩ : ∃ z : Sl19, z = (none, 0, 0) := ⟨_, rfl⟩
              refine .cast (X' := blk b6 (Mg19.cells (⟨23, 0, 0, 0, 0, s.offset, s.part, s.kind - 1, s.pid, s.seq, s.name, z⟩ : Mg19)) 35) (by rw [hz]) ?_
              refine .region ?_
              refine .rd (.ldN ia35 ts35 rfl .head rfl) ?_
              refine .ef0 (.storeAll (vs := Mg19.cells (⟨23, 0, 0, 0, 0, s.offset, s.part, s.kind - 1, s.pid, s.seq, s.name, z⟩ : Mg19)) ts35 rfl rfl rfl (.tail (.tail .head)) rfl (ones.of rfl)) ?_
              rintro _ _ rfl
              refine .rd (.assign rfl) ?_
              refine .nil ?_
              have ha : aimOf s = -2 := by unfold aimOf; rw [if_neg (by omega), if_neg (by omega)]
              have hm2 : asksM s z = (⟨23, 0, 0, 0, 0, s.offset, s.part, s.kind - 1, s.pid, s.seq, s.name, z⟩ : Mg19) := by unfold asksM; rw [if_neg h2, if_neg h4, if_neg h6, if_neg h10, if_neg h12]
              refine .retP Tryd.func18 (.cons (.blkN ia35 ts35 rfl .head rfl) (.cons (.tmp rfl) .nil)) (.cons (.tail (.tail (.tail .head))) .nil) ?_
              exact ⟨[], ⟨z, by rw [hm2, ha]; rfl, rfl⟩, rfl⟩
        · refine .condP rfl (fun h8 => ?_) (fun h8 => ?_)
          · refine .skip ?_
            refine .cast (X' := blk b4 (Mg19.cells ⟨0, 0, 0, 0, 0, 0, 0, 0, 0, 0, [], (none, 0, 0)⟩) 35) (rfl) ?_
            refine .alter (t := 39) (v' := .bool (decide (s.kind = 8 ∨ s.kind = 9))) rfl (congrArg Value.bool (by simp [h8])) ?_
            exact fin (.cons rfl (.cons rfl (.cons rfl (.cons rfl .nil)))) (.cons (.tail .head) (.cons .head (.cons .head .nil)))
          · refine .region ?_
            refine .rd (.eqI rfl rfl) ?_
            refine .rd (.assign rfl) ?_
            refine .nil ?_
            refine .cast (X' := blk b4 (Mg19.cells ⟨0, 0, 0, 0, 0, 0, 0, 0, 0, 0, [], (none, 0, 0)⟩) 35) (rfl) ?_
            refine .alter (t := 39) (v' := .bool (decide (s.kind = 8 ∨ s.kind = 9))) rfl (congrArg Value.bool (by simp [h8])) ?_
            exact fin (.cons rfl (.cons rfl (.cons rfl (.cons rfl .nil)))) (.cons (.tail .head) (.cons .head (.cons .head .nil)))

end Go.Proofs.YtankogdnhgmkhaaDoor


namespace Go.Proofs.YtankogdnhgmkhaaDoor
open Go Go.Sp

set_option linter.unusedVariables false

namespace con7
theorem fd60_7 : FD Tryd.prog 60 7 7 := .of Tryd.underlying60 (by kernel_rfl)
theorem na3 : NotAgg Tryd.prog 3 := ⟨_, Tryd.underlying3, trivial⟩
theorem ts3 : TS Tryd.prog 3 1 := .of (by kernel_rfl)
theorem fd65_3 : FD Tryd.prog 65 3 34 := .of Tryd.underlying65 (by kernel_rfl)
theorem fd60_1 : FD Tryd.prog 60 1 1 := .of Tryd.underlying60 (by kernel_rfl)
theorem fd65_5 : FD Tryd.prog 65 5 36 := .of Tryd.underlying65 (by kernel_rfl)
theorem fd65_6 : FD Tryd.prog 65 6 37 := .of Tryd.underlying65 (by kernel_rfl)
theorem fd65_8 : FD Tryd.prog 65 8 39 := .of Tryd.underlying65 (by kernel_rfl)
theorem fd65_4 : FD Tryd.prog 65 4 35 := .of Tryd.underlying65 (by kernel_rfl)
theorem ts4 : TS Tryd.prog 4 1 := .of (by kernel_rfl)
theorem fd65_7 : FD Tryd.prog 65 7 38 := .of Tryd.underlying65 (by kernel_rfl)
theorem fd60_0 : FD Tryd.prog 60 0 0 := .of Tryd.underlying60 (by kernel_rfl)
theorem fd65_2 : FD Tryd.prog 65 2 13 := .of Tryd.underlying65 (by kernel_rfl)
theorem fd35_1 : FD Tryd.prog 35 1 1 := .of Tryd.underlying35 (by kernel_rfl)
theorem fd35_2 : FD Tryd.prog 35 2 2 := .of Tryd.underlying35 (by kernel_rfl)
theorem fd35_3 : FD Tryd.prog 35 3 3 := .of Tryd.underlying35 (by kernel_rfl)
theorem fd60_9 : FD Tryd.prog 60 9 9 := .of Tryd.underlying60 (by kernel_rfl)
theorem na29 : NotAgg Tryd.prog 29 := ⟨_, Tryd.underlying29, trivial⟩
theorem ia35 : IsAgg Tryd.prog 35 := ⟨_, Tryd.underlying35, trivial⟩
theorem ts35 : TS Tryd.prog 35 21 := .of (by kernel_rfl)
theorem ti35 : TI Tryd.prog 35 21 232 (.agg #[.int .i64 0, .int .i64 0, .int .i64 0, .int .i64 0, .int .i64 0, .int .i64 0, .int .i64 0, .int .i64 0, .int .i64 0, .int .i64 0, .int .i64 0, .int .i64 0, .int .i64 0, .int .i64 0, .int .i64 0, .int .i64 0, .string ⟨#[]⟩, .string ⟨#[]⟩, .slice none 0 0, .slice none 0 0, .slice none 0 0]) := .of (by kernel_rfl)
theorem ts29 : TS Tryd.prog 29 1 := .of (by kernel_rfl)
end con7
open con7

theorem rowBlk {b : Nat} {cs : List Value} {w : World} (h : CellsAt b 0 cs w) : RowAt (some ⟨b, 0, none⟩) cs w := .inr ⟨b, 0, rfl, h⟩
theorem next19_hi {n : Int} (h : 1000000000 < n + 1) : next19 n = 1 := if_pos h
theorem next19_lo {n : Int} (h : ¬ 1000000000 < n + 1) : next19 n = n + 1 := if_neg h
theorem flat_mg (l : List Mg19) : (l.flatMap Mg19.cells).length = l.length * 21 := flat_length Mg19.cells_len l

set_option maxHeartbeats 2000000 in
set_option maxRecDepth 20000 in
theorem ask_ok (pb xb : Nat) (now : Int) (s : CS19) (x : PX19) (oa : Option Addr) (oc : Nat) (zs : List Mg19) (c : Cl19) (hB : PB s) (hnow : 0 ≤ now ∧ now ≤ 1000000000000) (htr : 1 ≤ c.tries ∧ c.tries ≤ 1000) (hz : zs.length ≤ 1000) : Cn Tryd.prog 19 [.pointer (some ⟨pb, 0, none⟩), .int .i64 now, .pointer (some ⟨xb, 0, none⟩)] (fun _ => True) [blk pb (CS19.cells s x oa zs.length oc) 60, blk xb (Cl19.cells c) 65, IM x.ab s.aims, Said oa oc zs, know (KN s x)] fun v G => ∃ oa' oc', G = [blk pb (CS19.cells (askS s) x oa' (zs ++ [(askC s now c).m]).length oc') 60, blk xb (Cl19.cells (askC s now c)) 65, IM x.ab s.aims, Said oa' oc' (zs ++ [(askC s now c).m]), know (KN s x)] := by
  refine .enter Tryd.func19 rfl (by kernel_rfl) rfl fun R k => ?_
  obtain ⟨hn1, hn2⟩ := hB.number
  obtain ⟨hw1, hw2⟩ := hB.wait
  refine .seq ?_
  refine .seq ?_
  refine .region ?_
  refine .rd (.move rfl) ?_
  refine .rd (.nilCheck rfl) ?_
  refine .rd (.fieldAddr fd60_7 rfl) ?_
  refine .rd (.ld na3 rfl .head rfl) ?_
  refine .rd (.add rfl rfl (by omega) (by omega)) ?_
  refine .rd (.nilCheck rfl) ?_
  refine .rd (.fieldAddr fd60_7 rfl) ?_
  refine .ef0 (.store ts3 rfl rfl .head rfl (Nat.le_of_ble_eq_true rfl)) ?_
  rintro _ _ rfl
  refine .nil ?_
  refine .seq ?_
  refine .region ?_
  refine .rd (.move rfl) ?_
  refine .rd (.nilCheck rfl) ?_
  refine .rd (.fieldAddr fd60_7 rfl) ?_
  refine .rd (.ld na3 rfl .head rfl) ?_
  refine .rd (.gt rfl rfl) ?_
  refine .nil ?_
  refine .joinAt (E' := [(0, .pointer (some ⟨pb, 0, none⟩)), (1, .int .i64 now), (2, .pointer (some ⟨xb, 0, none⟩))]) (Γ' := [blk pb (CS19.cells (askS s) x oa zs.length oc) 60, blk xb (Cl19.cells c) 65, IM x.ab s.aims, Said oa oc zs, know (KN s x), R]) ?_ (fun fin => ?_)
  · refine .seq ?_
    refine .drawsTo [7, 12, 18] [blk pb (CS19.cells (askS s) x oa zs.length oc) 60, blk xb (Cl19.cells c) 65] [(0, .pointer (some ⟨pb, 0, none⟩)), (1, .int .i64 now), (2, .pointer (some ⟨xb, 0, none⟩))] [blk pb (CS19.cells (askS s) x oa zs.length oc) 60, blk xb (Cl19.cells ({ c with id := next19 s.number, to := s.whom c.aim, deadline := now + s.wait, refused := false })) 65, IM x.ab s.aims, Said oa oc zs, know (KN s x), R] (by kernel_rfl) ?_ ?_
    · refine .rp 0 rfl (by kernel_rfl) (by kernel_rfl) (by kernel_rfl) (Reads.pure (.move rfl)) ?_
      refine .rp 1 rfl (by kernel_rfl) (by kernel_rfl) (by kernel_rfl) (Reads.pure (.move rfl)) ?_
      refine .rp 2 rfl (by kernel_rfl) (by kernel_rfl) (by kernel_rfl) (Reads.pure (.move rfl)) ?_
      refine .rp 3 rfl (by kernel_rfl) (by kernel_rfl) (by kernel_rfl) (Reads.pure (.move rfl)) ?_
      refine .rp 4 rfl (by kernel_rfl) (by kernel_rfl) (by kernel_rfl) (Reads.pure (.move rfl)) ?_
      refine .rp 5 rfl (by kernel_rfl) (by kernel_rfl) (by kernel_rfl) (Reads.pure (.nilCheck rfl)) ?_
      refine .rp 6 rfl (by kernel_rfl) (by kernel_rfl) (by kernel_rfl) (Reads.pure (.fieldAddr fd60_7 rfl)) ?_
      refine .rd 7 rfl rfl (by kernel_rfl) (by kernel_rfl) (by kernel_rfl) (.ld na3 rfl .head rfl) (.cons .head (.cons .head .nil)) ?_
      refine .rp 8 rfl (by kernel_rfl) (by kernel_rfl) (by kernel_rfl) (Reads.pure (.move rfl)) ?_
      refine .rp 9 rfl (by kernel_rfl) (by kernel_rfl) (by kernel_rfl) (Reads.pure (.move rfl)) ?_
      refine .rp 10 rfl (by kernel_rfl) (by kernel_rfl) (by kernel_rfl) (Reads.pure (.nilCheck rfl)) ?_
      refine .rp 11 rfl (by kernel_rfl) (by kernel_rfl) (by kernel_rfl) (Reads.pure (.fieldAddr fd65_3 rfl)) ?_
      refine .rd 12 rfl rfl (by kernel_rfl) (by kernel_rfl) (by kernel_rfl) (.ld na3 rfl (.tail .head) rfl) (.cons .head (.cons .head .nil)) ?_
      refine .rp 14 rfl (by kernel_rfl) (by kernel_rfl) (by kernel_rfl) (Reads.pure (.move rfl)) ?_
      refine .rp 15 rfl (by kernel_rfl) (by kernel_rfl) (by kernel_rfl) (Reads.pure (.move rfl)) ?_
      refine .rp 16 rfl (by kernel_rfl) (by kernel_rfl) (by kernel_rfl) (Reads.pure (.nilCheck rfl)) ?_
      refine .rp 17 rfl (by kernel_rfl) (by kernel_rfl) (by kernel_rfl) (Reads.pure (.fieldAddr fd60_1 rfl)) ?_
      refine .rd 18 rfl rfl (by kernel_rfl) (by kernel_rfl) (by kernel_rfl) (.ld na3 rfl .head rfl) (.cons .head (.cons .head .nil)) ?_
      refine .rp 19 rfl (by kernel_rfl) (by kernel_rfl) (by kernel_rfl) (Reads.pure (.add rfl rfl (by show _ ≤ now + s.wait; omega) (by show now + s.wait ≤ _; omega))) ?_
      refine .ef 13 (by kernel_rfl) rfl (.fn rfl rfl (.cons (.tail (.tail .head)) .nil) (fun A w h => ⟨(Knows.blk .head) A w h, (Knows.know (.tail (.tail (.tail .head)))) A w h⟩) (whom_ok pb (askS s) x oa zs.length oc c.aim hB.bne)) ?_
      rintro v _ ⟨G1, hq, rfl⟩
      obtain ⟨rfl, rfl⟩ := hq
      simp only [List.cons_append, List.nil_append]
      refine ⟨.inr ⟨_, (.cons (.tail .head) (.cons (.tail .head) .nil))⟩, ?_⟩
      refine .rp 20 rfl (by kernel_rfl) (by kernel_rfl) (by kernel_rfl) (Reads.pure (.nilCheck rfl)) ?_
      refine .rp 21 rfl (by kernel_rfl) (by kernel_rfl) (by kernel_rfl) (Reads.pure (.fieldAddr fd65_5 rfl)) ?_
      refine .ef0 22 (by kernel_rfl) rfl (.store ts3 rfl rfl (.tail (.tail .head)) rfl (Nat.le_of_ble_eq_true rfl)) ?_
      rintro _ _ rfl
      refine ⟨.inl (by kernel_rfl), ?_⟩
      refine .rp 23 rfl (by kernel_rfl) (by kernel_rfl) (by kernel_rfl) (Reads.pure (.nilCheck rfl)) ?_
      refine .rp 24 rfl (by kernel_rfl) (by kernel_rfl) (by kernel_rfl) (Reads.pure (.fieldAddr fd65_6 rfl)) ?_
      refine .ef0 25 (by kernel_rfl) rfl (.store ts3 rfl rfl .head rfl (Nat.le_of_ble_eq_true rfl)) ?_
      rintro _ _ rfl
      refine ⟨.inl (by kernel_rfl), ?_⟩
      refine .rp 26 rfl (by kernel_rfl) (by kernel_rfl) (by kernel_rfl) (Reads.pure (.nilCheck rfl)) ?_
      refine .rp 27 rfl (by kernel_rfl) (by kernel_rfl) (by kernel_rfl) (Reads.pure (.fieldAddr fd65_8 rfl)) ?_
      refine .ef0 28 (by kernel_rfl) rfl (.store ts3 rfl rfl .head rfl (Nat.le_of_ble_eq_true rfl)) ?_
      rintro _ _ rfl
      refine ⟨.inl (by kernel_rfl), ?_⟩
      refine .rp 29 rfl (by kernel_rfl) (by kernel_rfl) (by kernel_rfl) (Reads.pure (.nilCheck rfl)) ?_
      refine .rp 30 rfl (by kernel_rfl) (by kernel_rfl) (by kernel_rfl) (Reads.pure (.fieldAddr fd65_4 rfl)) ?_
      refine .ef0 31 (by kernel_rfl) rfl (.store ts4 rfl rfl .head rfl (Nat.le_of_ble_eq_true rfl)) ?_
      rintro _ _ rfl
      refine ⟨.inl (by kernel_rfl), ?_⟩
      exact .done (by kernel_rfl) ⟨(.cons rfl (.cons rfl (.cons rfl .nil))), _, (.cons (.tail (.tail .head)) (.cons .head (.cons .head (.cons .head (.cons .head (.cons .head .nil))))))⟩
    · refine .seq ?_
      refine .region ?_
      refine .rd (.move rfl) ?_
      refine .rd (.nilCheck rfl) ?_
      refine .rd (.fieldAddr fd65_7 rfl) ?_
      refine .rd (.ld na3 rfl (.tail .head) rfl) ?_
      refine .rd (.sub rfl rfl (by show _ ≤ c.tries - 1; omega) (by show c.tries - 1 ≤ _; omega)) ?_
      refine .rd (.nilCheck rfl) ?_
      refine .rd (.fieldAddr fd65_7 rfl) ?_
      refine .ef0 (.store ts3 rfl rfl (.tail .head) rfl (Nat.le_of_ble_eq_true rfl)) ?_
      rintro _ _ rfl
      refine .nil ?_
      refine .cast (X' := blk xb (Cl19.cells ({ c with id := next19 s.number, to := s.whom c.aim, deadline := now + s.wait, refused := false, tries := c.tries - 1 })) 65) (rfl) ?_
      refine .seq ?_
      refine .drawsTo [6, 10, 14] [blk pb (CS19.cells (askS s) x oa zs.length oc) 60, blk xb (Cl19.cells ({ c with id := next19 s.number, to := s.whom c.aim, deadline := now + s.wait, refused := false, tries := c.tries - 1 })) 65] [(0, .pointer (some ⟨pb, 0, none⟩)), (1, .int .i64 now), (2, .pointer (some ⟨xb, 0, none⟩))] [blk pb (CS19.cells (askS s) x oa zs.length oc) 60, blk xb (Cl19.cells (askC s now c)) 65, IM x.ab s.aims, Said oa oc zs, know (KN s x), R] (by kernel_rfl) ?_ ?_
      · refine .rp 0 rfl (by kernel_rfl) (by kernel_rfl) (by kernel_rfl) (Reads.pure (.move rfl)) ?_
        refine .rp 1 rfl (by kernel_rfl) (by kernel_rfl) (by kernel_rfl) (Reads.pure (.move rfl)) ?_
        refine .rp 2 rfl (by kernel_rfl) (by kernel_rfl) (by kernel_rfl) (Reads.pure (.move rfl)) ?_
        refine .rp 3 rfl (by kernel_rfl) (by kernel_rfl) (by kernel_rfl) (Reads.pure (.move rfl)) ?_
        refine .rp 4 rfl (by kernel_rfl) (by kernel_rfl) (by kernel_rfl) (Reads.pure (.nilCheck rfl)) ?_
        refine .rp 5 rfl (by kernel_rfl) (by kernel_rfl) (by kernel_rfl) (Reads.pure (.fieldAddr fd60_0 rfl)) ?_
        refine .rd 6 rfl rfl (by kernel_rfl) (by kernel_rfl) (by kernel_rfl) (.ld na3 rfl .head rfl) (.cons (.tail .head) (.cons .head .nil)) ?_
        refine .rp 7 rfl (by kernel_rfl) (by kernel_rfl) (by kernel_rfl) (Reads.pure (.move rfl)) ?_
        refine .rp 8 rfl (by kernel_rfl) (by kernel_rfl) (by kernel_rfl) (Reads.pure (.nilCheck rfl)) ?_
        refine .rp 9 rfl (by kernel_rfl) (by kernel_rfl) (by kernel_rfl) (Reads.pure (.fieldAddr fd65_6 rfl)) ?_
        refine .rd 10 rfl rfl (by kernel_rfl) (by kernel_rfl) (by kernel_rfl) (.ld na3 rfl (.tail .head) rfl) (.cons (.tail .head) (.cons .head .nil)) ?_
        refine .rp 11 rfl (by kernel_rfl) (by kernel_rfl) (by kernel_rfl) (Reads.pure (.move rfl)) ?_
        refine .rp 12 rfl (by kernel_rfl) (by kernel_rfl) (by kernel_rfl) (Reads.pure (.nilCheck rfl)) ?_
        refine .rp 13 rfl (by kernel_rfl) (by kernel_rfl) (by kernel_rfl) (Reads.pure (.fieldAddr fd65_5 rfl)) ?_
        refine .rd 14 rfl rfl (by kernel_rfl) (by kernel_rfl) (by kernel_rfl) (.ld na3 rfl (.tail .head) rfl) (.cons (.tail .head) (.cons .head .nil)) ?_
        refine .rp 15 rfl (by kernel_rfl) (by kernel_rfl) (by kernel_rfl) (Reads.pure (.nilCheck rfl)) ?_
        refine .rp 16 rfl (by kernel_rfl) (by kernel_rfl) (by kernel_rfl) (Reads.pure (.fieldAddr fd65_2 rfl)) ?_
        refine .rp 17 rfl (by kernel_rfl) (by kernel_rfl) (by kernel_rfl) (Reads.pure (.fieldAddr fd35_1 rfl)) ?_
        refine .ef0 18 (by kernel_rfl) rfl (.store ts3 rfl rfl .head rfl (Nat.le_of_ble_eq_true rfl)) ?_
        rintro _ _ rfl
        refine ⟨.inl (by kernel_rfl), ?_⟩
        refine .rp 19 rfl (by kernel_rfl) (by kernel_rfl) (by kernel_rfl) (Reads.pure (.nilCheck rfl)) ?_
        refine .rp 20 rfl (by kernel_rfl) (by kernel_rfl) (by kernel_rfl) (Reads.pure (.fieldAddr fd65_2 rfl)) ?_
        refine .rp 21 rfl (by kernel_rfl) (by kernel_rfl) (by kernel_rfl) (Reads.pure (.fieldAddr fd35_2 rfl)) ?_
        refine .ef0 22 (by kernel_rfl) rfl (.store ts3 rfl rfl .head rfl (Nat.le_of_ble_eq_true rfl)) ?_
        rintro _ _ rfl
        refine ⟨.inl (by kernel_rfl), ?_⟩
        refine .rp 23 rfl (by kernel_rfl) (by kernel_rfl) (by kernel_rfl) (Reads.pure (.nilCheck rfl)) ?_
        refine .rp 24 rfl (by kernel_rfl) (by kernel_rfl) (by kernel_rfl) (Reads.pure (.fieldAddr fd65_2 rfl)) ?_
        refine .rp 25 rfl (by kernel_rfl) (by kernel_rfl) (by kernel_rfl) (Reads.pure (.fieldAddr fd35_3 rfl)) ?_
        refine .ef0 26 (by kernel_rfl) rfl (.store ts3 rfl rfl .head rfl (Nat.le_of_ble_eq_true rfl)) ?_
        rintro _ _ rfl
        refine ⟨.inl (by kernel_rfl), ?_⟩
        exact .done (by kernel_rfl) ⟨(.cons rfl (.cons rfl (.cons rfl .nil))), _, (.cons (.tail .head) (.cons .head (.cons .head (.cons .head (.cons .head (.cons .head .nil))))))⟩
      · refine .draws [4, 8] [blk pb (CS19.cells (askS s) x oa zs.length oc) 60, blk xb (Cl19.cells (askC s now c)) 65] (by kernel_rfl) ?_
        refine .rp 0 rfl (by kernel_rfl) (by kernel_rfl) (by kernel_rfl) (Reads.pure (.move rfl)) ?_
        refine .rp 1 rfl (by kernel_rfl) (by kernel_rfl) (by kernel_rfl) (Reads.pure (.move rfl)) ?_
        refine .rp 2 rfl (by kernel_rfl) (by kernel_rfl) (by kernel_rfl) (Reads.pure (.nilCheck rfl)) ?_
        refine .rp 3 rfl (by kernel_rfl) (by kernel_rfl) (by kernel_rfl) (Reads.pure (.fieldAddr fd60_9 rfl)) ?_
        refine .rd 4 rfl rfl (by kernel_rfl) (by kernel_rfl) (by kernel_rfl) (.ld na29 rfl .head rfl) (.cons .head (.cons .head .nil)) ?_
        refine .rp 5 rfl (by kernel_rfl) (by kernel_rfl) (by kernel_rfl) (Reads.pure (.move rfl)) ?_
        refine .rp 6 rfl (by kernel_rfl) (by kernel_rfl) (by kernel_rfl) (Reads.pure (.nilCheck rfl)) ?_
        refine .rp 7 rfl (by kernel_rfl) (by kernel_rfl) (by kernel_rfl) (Reads.pure (.fieldAddr fd65_2 rfl)) ?_
        refine .rd 8 rfl rfl (by kernel_rfl) (by kernel_rfl) (by kernel_rfl) (.loadN ia35 ts35 rfl rfl (Knows.sub (Knows.blk (.tail .head)) (i := 13) (ds := (Mg19.cells (askC s now c).m)) rfl)) (.cons .head (.cons .head .nil)) ?_
        refine .ef 9 (by kernel_rfl) rfl (.buildOne (cs := (Mg19.cells (askC s now c).m)) Tryd.underlying29 ti35 (by decide) rfl rfl rfl (Mg19.cells_ones _)) ?_
        rintro _ _ ⟨bz, rfl, rfl⟩
        refine ⟨.inr ⟨_, (.cons (.tail .head) (.cons (.tail .head) .nil))⟩, ?_⟩
        refine .ef 10 (by kernel_rfl) rfl (.append rfl rfl Tryd.underlying29 ti35 rfl (ones.of rfl) (by decide) (by decide) rfl rfl (.tail (.tail (.tail (.tail .head)))) (n := zs.length) (m := 1) (flat_mg zs) (.srcBlk (ys := (Mg19.cells (askC s now c).m)) .head Tryd.underlying29 rfl (by decide)) (by omega)) ?_
        rintro _ _ ⟨ra, rc, rfl, rn, rfl⟩
        refine ⟨.inl (by kernel_rfl), ?_⟩
        refine .rp 11 rfl (by kernel_rfl) (by kernel_rfl) (by kernel_rfl) (Reads.pure (.nilCheck rfl)) ?_
        refine .rp 12 rfl (by kernel_rfl) (by kernel_rfl) (by kernel_rfl) (Reads.pure (.fieldAddr fd60_9 rfl)) ?_
        refine .ef0 13 (by kernel_rfl) rfl (.store ts29 rfl rfl (.tail (.tail .head)) rfl (Nat.le_of_ble_eq_true rfl)) ?_
        rintro _ _ rfl
        refine ⟨.inl (by kernel_rfl), ?_⟩
        refine .done (by kernel_rfl) ?_
        refine .perm (.cons (.tail .head) (.cons .head (.cons .head (.cons .head (.cons .head (.cons .head (.cons .head .nil))))))) ?_
        refine .cast (X' := Said ra rc (zs ++ [(askC s now c).m])) (by unfold Said; rw [List.flatMap_append]; simp) ?_
        refine .perm (.cons (.tail .head) (.cons .head (.cons .head (.cons .head (.cons .head (.cons .head (.cons .head .nil))))))) ?_
        refine .cast (X' := blk pb (CS19.cells (askS s) x ra (zs ++ [(askC s now c).m]).length rc) 60) (by rw [List.length_append]; rfl) ?_
        refine .endP Tryd.func19 .nil (.cons .head (.cons (.tail (.tail .head)) (.cons (.tail (.tail .head)) (.cons .head (.cons (.tail .head) (.cons (.tail .head) .nil)))))) ?_
        exact ⟨[_, _, _, _, _], ⟨ra, rc, rfl⟩, rfl⟩
  · refine .condP rfl (fun h1 => ?_) (fun h1 => ?_)
    · refine .region ?_
      refine .rd (.move rfl) ?_
      refine .rd (.nilCheck rfl) ?_
      refine .rd (.fieldAddr fd60_7 rfl) ?_
      refine .ef0 (.store ts3 rfl rfl .head rfl (Nat.le_of_ble_eq_true rfl)) ?_
      rintro _ _ rfl
      refine .nil ?_
      refine .cast (X' := blk pb (CS19.cells (askS s) x oa zs.length oc) 60) (by unfold askS; rw [next19_hi h1]; rfl) ?_
      exact fin (.cons rfl (.cons rfl (.cons rfl .nil))) (.cons .head (.cons .head (.cons .head (.cons .head (.cons .head (.cons .head .nil))))))
    · refine .skip ?_
      refine .cast (X' := blk pb (CS19.cells (askS s) x oa zs.length oc) 60) (by unfold askS; rw [next19_lo h1]; rfl) ?_
      exact fin (.cons rfl (.cons rfl (.cons rfl .nil))) (.cons .head (.cons .head (.cons .head (.cons .head (.cons .head (.cons .head .nil))))))

end Go.Proofs.YtankogdnhgmkhaaDoor

