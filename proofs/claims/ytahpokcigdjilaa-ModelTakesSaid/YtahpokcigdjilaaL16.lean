/- A separation logic over the given machine. Part 16: entries of maps; guards of drawn regions that were themselves not let; bags. -/
import Derived.Test.YtahpokcigdjilaaL15
import Derived.Test.YtahpokcigdjilaaL8
import Derived.WideKeyEntry
namespace Go.Sp
open Go

section
variable {P : Program} {N : Nat} {ops : Array Oper} {E : Env} {Γ ΓS : List SProp} {K : Env → List SProp → Prop} {fuel : Nat} {listed : Array Bool} {L : List Nat}

/-- Not let; its slot is known to hold nothing. -/
theorem RunD.offU (i : Nat) {d op ty pos after} {g : Nat} {b c : Bool} {t : Nat} (ho : ops[i]? = some ⟨some d, op, ty, pos, after, some (g, b)⟩) (hg : gslot ops g = some t) (he : lk E t = some (.bool c)) (hne : (c == b) = false)
    (hs : Region.noSelect ops = true) (hfr : Region.free .any ops listed i = true)
    (hr : (Region.ready .any ops listed).contains i = true)
    (next : RunD P N ops L ΓS fuel (listed.setIfInBounds i true) ((d, undef) :: E) Γ K) (hd : Nat.blt d N = true := by rfl) : RunD P N ops L ΓS (fuel + 1) listed E Γ K := by
  intro A F w a Z hZ hf hsat hz
  have hy := yielded_of hg hf he
  have hw : Region.wanted ⟨some d, op, ty, pos, after, some (g, b)⟩ (yielded ops a.tmps) = false := by
    simp [Region.wanted, hy]; intro e; subst e; simp at hne
  refine wpAnyL_pure ho (Region.noSelect_spec hs) (v := undef) (fun c a w h => absurd h (hZ _ _ _)) fuel listed a w (Region.free_spec ho hfr) (by simpa using hr) (.inr ⟨hw, rfl⟩) ?_
  exact next A F w _ Z hZ (hf.put hd undef) hsat hz

/-- Not let, because its guard's slot holds nothing. -/
theorem RunD.offX (i : Nat) {d op ty pos after} {g : Nat} {b : Bool} {t : Nat} (ho : ops[i]? = some ⟨some d, op, ty, pos, after, some (g, b)⟩) (hg : gslot ops g = some t) (he : lk E t = some undef)
    (hs : Region.noSelect ops = true) (hfr : Region.free .any ops listed i = true)
    (hr : (Region.ready .any ops listed).contains i = true)
    (next : RunD P N ops L ΓS fuel (listed.setIfInBounds i true) ((d, undef) :: E) Γ K) (hd : Nat.blt d N = true := by rfl) : RunD P N ops L ΓS (fuel + 1) listed E Γ K := by
  intro A F w a Z hZ hf hsat hz
  have hy : yielded ops a.tmps g ≠ some b := by
    unfold gslot at hg
    simp [yielded, hg, hf.look t _ he, undef]
  have hw : Region.wanted ⟨some d, op, ty, pos, after, some (g, b)⟩ (yielded ops a.tmps) = false := by
    simp only [Region.wanted]; exact beq_eq_false_iff_ne.2 hy
  refine wpAnyL_pure ho (Region.noSelect_spec hs) (v := undef) (fun c a w h => absurd h (hZ _ _ _)) fuel listed a w (Region.free_spec ho hfr) (by simpa using hr) (.inr ⟨hw, rfl⟩) ?_
  exact next A F w _ Z hZ (hf.put hd undef) hsat hz
end

/-! ### Entries of maps -/

/-- A map one's own, of which one entry is held by its stamp. -/
def mpe {κ ν : Type} [DecidableEq κ] (enc : κ → Value) (venc : ν → Value) (b : Nat) (l : List (κ × ν)) (q : κ) (s : Nat) : SProp := fun h =>
  ∃ es clock, h b = some (false, .map es clock) ∧ es.toList.map (fun e => (e.key, e.val)) = l.map (fun p => (enc p.1, venc p.2)) ∧ (l.map (·.1)).Nodup ∧
    (es.toList.map (·.born)).Nodup ∧ (∀ e ∈ es.toList, e.born < clock) ∧ ∃ i : Nat, (es.toList.map (·.born))[i]? = some s ∧ (l.map (·.1))[i]? = some q

section
variable {κ ν : Type} [DecidableEq κ] {enc : κ → Value} {venc : ν → Value}

theorem Sat.mpe_own {A w b Γ} {l : List (κ × ν)} {q : κ} {s : Nat} (h : Sat A w (Sp.mpe enc venc b l q s :: Γ)) : ∃ es clock, w.heap[b]? = some (.map es clock) ∧ es.toList.map (fun e => (e.key, e.val)) = l.map (fun p => (enc p.1, venc p.2)) ∧ (l.map (·.1)).Nodup ∧
    (es.toList.map (·.born)).Nodup ∧ (∀ e ∈ es.toList, e.born < clock) ∧ (∃ i : Nat, (es.toList.map (·.born))[i]? = some s ∧ (l.map (·.1))[i]? = some q) ∧ Sat A w (Sp.own b (.map es clock) :: Γ) := by
  obtain ⟨a, h, f, h1, h2, ok, l1, l2, ⟨es, clock, e0, e1, e2, e3, e4, e5⟩, t⟩ := h
  exact ⟨es, clock, f b _ (l1 b _ e0), e1, e2, e3, e4, e5, a, h, f, h1, h2, ok, l1, l2, e0, t⟩

theorem Sat.mpe_of {A w b Γ} {l : List (κ × ν)} {q : κ} {s : Nat} {es : Array MapEntry} {clock : Nat} (h : Sat A w (Sp.own b (.map es clock) :: Γ)) (e1 : es.toList.map (fun e => (e.key, e.val)) = l.map (fun p => (enc p.1, venc p.2))) (e2 : (l.map (·.1)).Nodup)
    (e3 : (es.toList.map (·.born)).Nodup) (e4 : ∀ e ∈ es.toList, e.born < clock) (e5 : ∃ i : Nat, (es.toList.map (·.born))[i]? = some s ∧ (l.map (·.1))[i]? = some q) : Sat A w (Sp.mpe enc venc b l q s :: Γ) := by
  obtain ⟨a, h, f, h1, h2, ok, l1, l2, e0, t⟩ := h
  exact ⟨a, h, f, h1, h2, ok, l1, l2, ⟨es, clock, e0, e1, e2, e3, e4, e5⟩, t⟩

theorem modify_list {es : Array MapEntry} {i : Nat} {en : MapEntry} (f : MapEntry → MapEntry) (hen : es[i]? = some en) : (es.modify i f).toList = es.toList.set i (f en) := by
  have hi' : i < es.toList.length := by
    have := (Array.getElem?_eq_some_iff.1 hen).1
    simpa using this
  apply List.ext_getElem?
  intro j
  rw [Array.getElem?_toList, Array.getElem?_modify, List.getElem?_set]
  by_cases hji : i = j
  · subst hji; simp [hen]; simpa using hi'
  · simp [hji]

theorem set_same {α : Type} {l : List α} {i : Nat} {x : α} (h : l[i]? = some x) : l.set i x = l := by
  apply List.ext_getElem?
  intro j
  rw [List.getElem?_set]
  by_cases hji : i = j
  · subst hji
    obtain ⟨hlt, h2⟩ := List.getElem?_eq_some_iff.1 h
    simp [hlt, h2]
  · simp [hji]

theorem findIdx_nodup {q : κ} : ∀ {ks : List κ} {i : Nat}, ks.Nodup → ks[i]? = some q → (ks.findIdx? fun y => decide (q = y)) = some i
  | [], _, _, h => by simp at h
  | k :: ks, 0, _, h => by simp at h; subst h; simp [List.findIdx?_cons]
  | k :: ks, i + 1, hn, h => by
    simp only [List.nodup_cons] at hn
    simp only [List.getElem?_cons_succ] at h
    have hne : q ≠ k := fun e => hn.1 (e ▸ List.mem_of_getElem? h)
    rw [List.findIdx?_cons]
    simp [hne, findIdx_nodup hn.2 h]

variable {P : Program} {N : Nat} {E : Env} {Γ Γ' : List SProp} {dst : Option Tmp} {ty : TypeId} {pos : String} {after : Array Edge} {guard : Option (Nat × Bool)}

/-- The entry of a key, which is made if there is none. -/
theorem Eff.mapEntry {t k e x ix b} {z : Value} {z0 : ν} {l : List (κ × ν)} {q : κ} (K : KL P k enc) (hu : P.underlying t = some (.map k e)) (hz : ∀ w, (zeroValue e).run P w = .ok z w) (hzv : z = venc z0)
    (hx : ev E x = some (.map (some b))) (hi : ev E ix = some (enc q)) (p : Pick (mp enc venc b l) Γ Γ') :
    Eff P N E Γ ⟨dst, .mapEntry t x ix, ty, pos, after, guard⟩ fun v Γ'' => ∃ s : Nat, v = .tuple #[venc ((mget l q).getD z0), .int .i64 (s : Int)] ∧ Γ'' = mpe enc venc b (mset l q ((mget l q).getD z0)) q s :: Γ' := by
  subst hzv
  intro A F w a nx Z hf hsat hn
  obtain ⟨es, clock, hh, e1, e2, e3, e4, hs⟩ := (hsat.map fun _ => (p.app F).sat).mp_own
  have hfnd := K.find q es.toList (l.map (·.1)) (keys_of e1) w
  have hg : (getObj b).run P w = .ok (.map es clock) w := by simp [getObj, Sem.run, hh]
  have hlen : es.toList.length = l.length := by simpa using congrArg List.length e1
  have hmg := findIdx_keys l q
  unfold Oper.wp
  cases hj : (l.map (·.1)).findIdx? fun y => decide (q = y) with
  | none =>
    obtain ⟨r1, s1⟩ := Sat.setObj (P := P) (o' := .map (es.push { key := enc q, val := venc z0, born := clock }) (clock + 1)) hs (by simp)
    simp only [hj, Option.bind_none] at hfnd hmg
    simp [execOp, hf.eval hx, hf.eval hi, Instr.mapEntry, underlying, hu, hg, K.check, hfnd, r1, hz, Oper.upon, goInt]
    refine hn _ _ _ ⟨clock, by rw [← hmg]; rfl, rfl⟩ (Sat.mpe_of s1 ?_ (mset_nodup e2 _ _) ?_ ?_ ?_)
    · rw [mset_new hj, ← hmg]; simp [e1]
    · simp only [Array.toList_push, List.map_append, List.map_cons, List.map_nil]
      rw [List.nodup_append]
      refine ⟨e3, by simp, fun x hx y hy e => ?_⟩
      simp at hy; subst hy e
      obtain ⟨en, hen, he⟩ := List.mem_map.1 hx
      have := e4 en hen
      omega
    · intro en hen
      simp at hen
      rcases hen with hen | rfl
      · have := e4 en (by simpa using hen); omega
      · simp
    · refine ⟨l.length, ?_, ?_⟩
      · simp only [Array.toList_push, List.map_append, List.map_cons, List.map_nil]
        have hsz : es.size = l.length := by simpa using hlen
        rw [List.getElem?_append_right (by simp; omega)]
        simp [hsz]
      · rw [mset_new hj]; simp
  | some i =>
    obtain ⟨hlt, hq, hset⟩ := mset_found (v := (mget l q).getD z0) e2 hj
    obtain ⟨pr, hpr⟩ : ∃ pr, l[i]? = some pr := ⟨_, List.getElem?_eq_getElem hlt⟩
    simp only [hj, Option.bind_some, hpr, Option.map_some] at hmg hq
    cases hq
    have hval : ∃ en, es[i]? = some en := by
      have : i < es.size := by have : i < es.toList.length := by omega
                               simpa using this
      exact ⟨_, Array.getElem?_eq_getElem this⟩
    obtain ⟨en, hen⟩ := hval
    have he1 : en.key = enc pr.1 ∧ en.val = venc pr.2 := by
      have := congrArg (fun l => l[i]?) e1
      simp only [List.getElem?_map, Array.getElem?_toList, hen, hpr, Option.map_some, Option.some.injEq, Prod.mk.injEq] at this
      exact this
    simp only [hj, Option.bind_some, Array.getElem?_toList, hen, Option.map_some] at hfnd
    obtain ⟨r1, s1⟩ := Sat.setObj (P := P) (o' := .map (es.modify i fun e => { e with key := enc pr.1 }) clock) hs (by simp)
    simp [execOp, hf.eval hx, hf.eval hi, Instr.mapEntry, underlying, hu, hg, K.check, hfnd, hen, he1, K.stays, r1, Oper.upon, goInt]
    have hmod : (es.modify i fun e => { e with key := enc pr.1 }).toList = es.toList := by
      rw [modify_list _ hen]
      have : ({ en with key := enc pr.1 } : MapEntry) = en := by cases en; simp at he1; simp [he1]
      rw [this]
      exact set_same (by rw [Array.getElem?_toList]; exact hen)
    have hsame : mset l pr.1 ((mget l pr.1).getD z0) = l := by
      rw [hset, ← hmg]; exact set_same (by rw [hpr]; rfl)
    refine hn _ _ _ ⟨en.born, by rw [← hmg]; rfl, rfl⟩ ?_
    rw [hsame]
    refine Sat.mpe_of s1 (by rw [hmod, e1]) e2 (by rw [hmod]; exact e3) (by rw [hmod]; exact e4) ⟨i, ?_, ?_⟩
    · rw [hmod, List.getElem?_map, Array.getElem?_toList, hen]; rfl
    · rw [List.getElem?_map, hpr]; rfl

/-- .. is given a value. -/
theorem Eff.entryStore {t x st y b} {l : List (κ × ν)} {q : κ} {s : Nat} {u : ν} (hx : ev E x = some (.map (some b))) (hi : ev E st = some (.int .i64 (s : Int))) (hy : ev E y = some (venc u)) (p : Pick (mpe enc venc b l q s) Γ Γ') :
    Eff P N E Γ ⟨dst, .entryStore t x st y, ty, pos, after, guard⟩ fun _ Γ'' => Γ'' = mp enc venc b (mset l q u) :: Γ' := by
  intro A F w a nx Z hf hsat hn
  obtain ⟨es, clock, hh, e1, e2, e3, e4, ⟨i, hb, hk⟩, hs⟩ := (hsat.map fun _ => (p.app F).sat).mpe_own
  have hg : (getObj b).run P w = .ok (.map es clock) w := by simp [getObj, Sem.run, hh]
  obtain ⟨hlt, hq, hset⟩ := mset_found (v := u) e2 (findIdx_nodup e2 hk)
  obtain ⟨pr, hpr⟩ : ∃ pr, l[i]? = some pr := ⟨_, List.getElem?_eq_getElem hlt⟩
  simp only [hpr, Option.map_some] at hq
  cases hq
  rw [List.getElem?_map, Option.map_eq_some_iff] at hb
  obtain ⟨en, hen', hborn⟩ := hb
  have hen : es[i]? = some en := by rw [← Array.getElem?_toList]; exact hen'
  have he1 : en.key = enc pr.1 ∧ en.val = venc pr.2 := by
    have := congrArg (fun l => l[i]?) e1
    simp only [List.getElem?_map, Array.getElem?_toList, hen, hpr, Option.map_some, Option.some.injEq, Prod.mk.injEq] at this
    exact this
  have hidx : (es.findIdx? fun e => (e.born : Int) == (s : Int)) = some i := by
    rw [WideElems.findIdx_arr, ← hborn]
    exact WideElems.findIdx_born e3 hen'
  unfold Oper.wp
  obtain ⟨r1, s1⟩ := Sat.setObj (P := P) (o' := .map (es.modify i fun e => { e with val := venc u }) clock) hs (by simp)
  simp [execOp, hf.eval hx, hf.eval hi, hf.eval hy, Instr.entryStore, hg, asInt, asIntOf, hidx, r1, Oper.upon]
  have hmod : (es.modify i fun e => { e with val := venc u }).toList = es.toList.set i { en with val := venc u } := modify_list _ hen
  refine hn _ _ _ rfl (Sat.mp_of s1 ?_ (mset_nodup e2 _ _) ?_ ?_)
  · rw [hset, hmod, List.map_set, List.map_set, e1, he1.1]
  · rw [hmod, List.map_set]
    have : (es.toList.map (·.born)).set i en.born = es.toList.map (·.born) := set_same (by rw [List.getElem?_map, hen']; rfl)
    simp only [this]; exact e3
  · intro x hx
    rw [hmod] at hx
    rcases List.mem_or_eq_of_mem_set hx with hx | rfl
    · exact e4 x hx
    · exact e4 en (List.mem_of_getElem? hen')
end
end Go.Sp
