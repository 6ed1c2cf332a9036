/- Chapter 22: the document's ten words, in plain Lean. -/
import Derived.Test.YtahpokcigdjilaaDefs22e
namespace Go.Proofs.Ytahpokcigdjilaa
open Go Go.Sp

def goodB (s : Sn) (a b : Int) : Bool := (s.done && decide (s.err = 0)) && (decide (s.kind = a) || decide (s.kind = b))
def toldB (s : Sn) : Bool := goodB s 10 1
def anyAt (P : Nat → Sn → Bool) (h : List Sn) : Bool := h.zipIdx.any fun q => P q.2 q.1
theorem anyAt_iff {P : Nat → Sn → Bool} {h : List Sn} : anyAt P h = true ↔ ∃ k y, h[k]? = some y ∧ P k y = true := by
  unfold anyAt
  rw [List.any_eq_true]
  constructor
  · rintro ⟨⟨y, k⟩, hm, hp⟩
    exact ⟨k, y, by simpa using List.mem_zipIdx_iff_getElem?.1 hm, hp⟩
  · rintro ⟨k, y, hy, hp⟩
    exact ⟨(y, k), List.mem_zipIdx_iff_getElem?.2 (by simpa using hy), hp⟩
theorem anyAt_hit {P : Nat → Sn → Bool} {h : List Sn} {k : Nat} {y : Sn} (hy : h[k]? = some y) (hp : P k y = true) : anyAt P h = true := anyAt_iff.2 ⟨k, y, hy, hp⟩
theorem anyAt_miss {P : Nat → Sn → Bool} {h : List Sn} {n : Nat} (hn : h.length ≤ n) (hp : ∀ k < n, ∀ y, h[k]? = some y → P k y = false) : anyAt P h = false := by
  cases e : anyAt P h with
  | false => rfl
  | true =>
    obtain ⟨k, y, hy, h2⟩ := anyAt_iff.1 e
    rw [hp k (Nat.lt_of_lt_of_le (List.getElem?_eq_some_iff.1 hy).1 hn) y hy] at h2; cases h2
theorem any_hit {P : Sn → Bool} {h : List Sn} {k : Nat} {y : Sn} (hy : h[k]? = some y) (hp : P y = true) : h.any P = true := List.any_eq_true.2 ⟨y, List.mem_of_getElem? hy, hp⟩
theorem any_miss {P : Sn → Bool} {h : List Sn} {n : Nat} (hn : h.length ≤ n) (hp : ∀ k < n, ∀ y, h[k]? = some y → P y = false) : h.any P = false := by
  rw [List.any_eq_false]
  intro y hy
  obtain ⟨k, hk⟩ := List.getElem?_of_mem hy
  rw [hp k (Nat.lt_of_lt_of_le (List.getElem?_eq_some_iff.1 hk).1 hn) y hk]; decide

def isCall (x y : Sn) : Bool := (!y.done && decide (y.client = x.client)) && decide (y.call = x.call)
def callR (h : List Sn) (x : Sn) : Int := place (isCall x) h
def sn0 : Sn := ⟨0, 0, 0, 0, 0, 0, 0, 0, [], [], 0, false⟩
def sameB (x y : Sn) : Bool := decide (y.client = x.client) && decide (y.call = x.call)
def sameOr (x y : Sn) : Bool := sameB x y && (!x.done || y.done)
def badCall (z x : Sn) (c : Int) : Bool := ((decide (c < 0) || !decide (z.kind = x.kind)) || !decide (z.name = x.name)) || !decide (z.part = x.part)
def callB (h : List Sn) (x : Sn) : Bool := h.any (sameOr x) || (x.done && badCall (h[(callR h x).toNat]?.getD sn0) x (callR h x))
def valueP (x y : Sn) : Bool := ((toldB y && decide (y.part = x.part)) && decide (y.offset = x.offset)) && !decide (y.text = x.text)
def valueB (h : List Sn) (x : Sn) : Bool := toldB x && h.any (valueP x)
def offsetP (x y : Sn) : Bool := (goodB y 10 10 && decide (y.part = x.part)) && decide (y.offset = x.offset)
def offsetB (h : List Sn) (x : Sn) : Bool := goodB x 10 10 && h.any (offsetP x)
def isSent (x y : Sn) : Bool := ((!y.done && decide (y.kind = 10)) && decide (y.part = x.part)) && decide (y.text = x.text)
def sentI (h : List Sn) (x : Sn) : Int := ((h.filter (isSent x)).length : Int)
def unsentB (h : List Sn) (x : Sn) : Bool := goodB x 1 1 && decide (sentI h x = 0)
def skipT (x y : Sn) : Bool := (!toldB y || !decide (y.part = x.part)) || !decide (y.text = x.text)
def offsS (x : Sn) (a : List Int) (y : Sn) : List Int := if skipT x y then a else if y.offset ∈ a then a else a ++ [y.offset]
def offsR (h : List Sn) (x : Sn) : List Int := h.foldl (offsS x) []
def twiceB (h : List Sn) (x : Sn) : Bool := toldB x && decide (sentI h x < ((offsR (h ++ [x]) x).length : Int))
def skipO (x y : Sn) : Bool := ((!goodB y 10 10 || !decide (y.part = x.part)) || !decide (y.pid = x.pid)) || !decide (y.pidEpoch = x.pidEpoch)
def badO_ (x y : Sn) : Bool := (decide (y.seq = x.seq) || (decide (y.seq < x.seq) && decide (x.offset ≤ y.offset))) || (decide (x.seq < y.seq) && decide (y.offset ≤ x.offset))
def orderP (x y : Sn) : Bool := !skipO x y && badO_ x y
def orderB (h : List Sn) (x : Sn) : Bool := goodB x 10 10 && h.any (orderP x)
def delP (x y : Sn) : Bool := (goodB y 6 6 && decide (y.part = x.part)) && decide (x.offset < y.offset)
def deletedB (h : List Sn) (x : Sn) : Bool := goodB x 1 1 && (h.take (callR h x).toNat).any (delP x)
def genP (x : Sn) (c : Int) (k : Nat) (y : Sn) : Bool := (goodB y 2 3 && decide (y.name = x.name)) && (decide (y.seq = x.seq) || (decide ((k : Int) < c) && decide (x.seq < y.seq)))
def genB (h : List Sn) (x : Sn) : Bool := goodB x 2 3 && anyAt (genP x (callR h x)) h
def fenP (x y : Sn) : Bool := (goodB y 2 3 && decide (y.name = x.name)) && decide (x.seq < y.seq)
def fencedB (h : List Sn) (x : Sn) : Bool := goodB x 4 4 && (h.take (callR h x).toNat).any (fenP x)
def shiftP (n : Nat) (p : Int) : Int := if p = -1 then -1 else p + n
def isRet (z y : Sn) : Bool := (y.done && decide (y.client = z.client)) && decide (y.call = z.call)
def retR (h : List Sn) (c : Nat) (z : Sn) : Int := shiftP (c + 1) (place (isRet z) (h.drop (c + 1)))
def overP (h : List Sn) (name : Tx) (part r : Int) (k : Nat) (y : Sn) : Bool := (((goodB y 4 4 && decide (y.name = name)) && decide (y.part = part)) && decide (0 ≤ r)) && decide (r < callR (h.take k) y)
def overB (h : List Sn) (name : Tx) (part r b : Int) : Bool := anyAt (overP h name part r) (h.take b.toNat)
def comP (x y : Sn) : Bool := (goodB y 4 4 && decide (y.name = x.name)) && decide (y.part = x.part)
def skipC (x z : Sn) : Bool := (((z.done || !decide (z.kind = 4)) || !decide (z.name = x.name)) || !decide (z.part = x.part)) || !decide (z.offset = x.offset)
def errAt (z : Sn) (r : Int) : Bool := decide (0 ≤ r) && !decide (z.err = 0)
def okRet (h : List Sn) (r : Int) : Int := if errAt (h[r.toNat]?.getD sn0) r then -1 else r
def stillC (h : List Sn) (x : Sn) (k : Nat) (z : Sn) : Bool := !skipC x z && !overB h x.name x.part (okRet h (retR h k z)) (callR h x)
def commitB (h : List Sn) (x : Sn) : Bool := goodB x 5 5 && if x.offset = -1 then (h.take (callR h x).toNat).any (comP x) else !anyAt (stillC h x) h
def atB (h : List Sn) (x : Sn) : Tx :=
  if callB h x then wCall else if valueB h x then wValue else if offsetB h x then wOffset else if unsentB h x then wUnsent else if twiceB h x then wTwice
  else if orderB h x then wOrder else if deletedB h x then wDeleted else if genB h x then wGeneration else if fencedB h x then wFenced else if commitB h x then wCommit else []
def refGo : List Sn → List Sn → Int × Tx
  | _, [] => (-1, [])
  | h, x :: l => if atB h x = [] then refGo (h ++ [x]) l else ((h.length : Int), atB h x)
def refC (l : List Sn) : Int × Tx := refGo [] l

theorem callR_lt (h : List Sn) (x : Sn) : -1 ≤ callR h x ∧ callR h x < h.length := by
  by_cases e : callR h x = -1
  · omega
  · obtain ⟨i, z, h1, _, _, h4⟩ := place_pos e
    have : callR h x = i := h4
    have := (List.getElem?_eq_some_iff.1 h1).1
    omega
theorem retR_lt (h : List Sn) (c : Nat) (z : Sn) : -1 ≤ retR h c z ∧ (0 ≤ retR h c z → retR h c z < h.length) := by
  unfold retR shiftP
  by_cases e : place (isRet z) (h.drop (c + 1)) = -1
  · rw [if_pos e]; omega
  · rw [if_neg e]
    obtain ⟨i, y, h1, _, _, h4⟩ := place_pos e
    have := (List.getElem?_eq_some_iff.1 h1).1
    rw [List.length_drop] at this
    omega
theorem take_at {h : List Sn} {k : Nat} {y : Sn} (hy : h[k]? = some y) : h.take k ++ [y] = h.take (k + 1) := by rw [List.take_add_one, hy]; rfl
theorem upto_next {h : List Sn} {P : Nat → Sn → Bool} {m : Nat} {y : Sn} (hI : ∀ k < m, ∀ y, h[k]? = some y → P k y = false) (hy : h[m]? = some y) (hp : P m y = false) : ∀ k < m + 1, ∀ y, h[k]? = some y → P k y = false := by
  intro k hk z hz
  rcases Nat.lt_succ_iff_lt_or_eq.1 hk with hk | rfl
  · exact hI k hk z hz
  · rw [hy] at hz; cases hz; exact hp
theorem all_upto {h : List Sn} {P : Sn → Bool} {m : Nat} (hI : ∀ k < m, ∀ y, h[k]? = some y → P y = false) : ∀ y ∈ h.take m, P y = false := by
  intro y hy
  obtain ⟨k, hk⟩ := List.getElem?_of_mem hy
  have hkm : k < m := by have := (List.getElem?_eq_some_iff.1 hk).1; rw [List.length_take] at this; omega
  rw [List.getElem?_take_of_lt hkm] at hk
  exact hI k hkm y hk
theorem all_end {h : List Sn} {P : Sn → Bool} {m : Nat} (hm : h.length ≤ m) (hI : ∀ k < m, ∀ y, h[k]? = some y → P y = false) : ∀ y ∈ h, P y = false := by
  have := all_upto hI; rwa [List.take_of_length_le hm] at this
theorem any_hit_take {P : Sn → Bool} {h : List Sn} {m k : Nat} {y : Sn} (hk : k < m) (hy : h[k]? = some y) (hp : P y = true) : (h.take m).any P = true := any_hit (k := k) (by rw [List.getElem?_take_of_lt hk]; exact hy) hp
theorem any_miss_take {P : Sn → Bool} {h : List Sn} {m n : Nat} (hm : m ≤ n) (hI : ∀ k < n, ∀ y, h[k]? = some y → P y = false) : (h.take m).any P = false := by
  refine any_miss (n := n) (by rw [List.length_take]; omega) fun k hk y hy => ?_
  by_cases hkm : k < m
  · rw [List.getElem?_take_of_lt hkm] at hy; exact hI k hk y hy
  · rw [List.getElem?_eq_none (by rw [List.length_take]; omega)] at hy; cases hy
theorem anyAt_hit_take {P : Nat → Sn → Bool} {h : List Sn} {m k : Nat} {y : Sn} (hk : k < m) (hy : h[k]? = some y) (hp : P k y = true) : anyAt P (h.take m) = true := anyAt_hit (k := k) (by rw [List.getElem?_take_of_lt hk]; exact hy) hp
theorem anyAt_miss_take {P : Nat → Sn → Bool} {h : List Sn} {m n : Nat} (hm : m ≤ n) (hI : ∀ k < n, ∀ y, h[k]? = some y → P k y = false) : anyAt P (h.take m) = false := by
  refine anyAt_miss (n := n) (by rw [List.length_take]; omega) fun k hk y hy => ?_
  by_cases hkm : k < m
  · rw [List.getElem?_take_of_lt hkm] at hy; exact hI k hk y hy
  · rw [List.getElem?_eq_none (by rw [List.length_take]; omega)] at hy; cases hy
theorem offs_next {h : List Sn} {x y : Sn} {k : Nat} (hy : h[k]? = some y) : offsR (h.take (k + 1)) x = offsS x (offsR (h.take k) x) y := by
  unfold offsR; rw [← take_at hy, List.foldl_append]; rfl
theorem ret_hit {h : List Sn} {k j : Nat} {z y : Sn} (hy : h[k + 1 + j]? = some y) (hp : isRet z y = true) (ha : ∀ m < j, ∀ y, h[k + 1 + m]? = some y → isRet z y = false) : retR h k z = ((k + 1 + j : Nat) : Int) := by
  unfold retR
  rw [place_here (i := j) (x := y) (by rw [List.getElem?_drop]; exact hy) hp (fun w hw => by
    obtain ⟨m, hm⟩ := List.getElem?_of_mem hw
    have hmj : m < j := by have := (List.getElem?_eq_some_iff.1 hm).1; rw [List.length_take] at this; omega
    rw [List.getElem?_take_of_lt hmj, List.getElem?_drop] at hm
    exact ha m hmj w hm)]
  unfold shiftP; rw [if_neg (by omega)]; omega
theorem ret_miss {h : List Sn} {k j : Nat} {z : Sn} (hj : h.length ≤ k + 1 + j) (ha : ∀ m < j, ∀ y, h[k + 1 + m]? = some y → isRet z y = false) : retR h k z = -1 := by
  unfold retR
  rw [place_none (fun w hw => by
    obtain ⟨m, hm⟩ := List.getElem?_of_mem hw
    have hmj : m < j := by have := (List.getElem?_eq_some_iff.1 hm).1; rw [List.length_drop] at this; omega
    rw [List.getElem?_drop] at hm
    exact ha m hmj w hm)]
  rfl
def pickW : List (Bool × Tx) → Tx
  | [] => []
  | (b, t) :: l => if b then t else pickW l
theorem pickW_hit : ∀ {l : List (Bool × Tx)} {k : Nat} {t : Tx}, l[k]? = some (true, t) → (∀ j < k, ∀ p, l[j]? = some p → p.1 = false) → pickW l = t
  | [], _, _, h, _ => by simp at h
  | (b, u) :: l, 0, t, h, _ => by simp at h; obtain ⟨rfl, rfl⟩ := h; rfl
  | (b, u) :: l, k + 1, t, h, ha => by
    have hb : b = false := ha 0 (by omega) (b, u) rfl
    subst hb
    show pickW l = t
    exact pickW_hit (by simpa using h) fun j hj p hp => ha (j + 1) (by omega) p (by simpa using hp)
theorem pickW_miss : ∀ {l : List (Bool × Tx)}, (∀ j < l.length, ∀ p, l[j]? = some p → p.1 = false) → pickW l = []
  | [], _ => rfl
  | (b, u) :: l, ha => by
    have hb : b = false := ha 0 (by simp) (b, u) rfl
    subst hb
    show pickW l = []
    exact pickW_miss fun j hj p hp => ha (j + 1) (by simp; omega) p (by simpa using hp)
def wordsP (h : List Sn) (x : Sn) : List (Bool × Tx) := [(callB h x, wCall), (valueB h x, wValue), (offsetB h x, wOffset), (unsentB h x, wUnsent), (twiceB h x, wTwice), (orderB h x, wOrder), (deletedB h x, wDeleted), (genB h x, wGeneration), (fencedB h x, wFenced), (commitB h x, wCommit)]
theorem at_words (h : List Sn) (x : Sn) : atB h x = pickW (wordsP h x) := rfl
theorem ref_here {l : List Sn} {i : Nat} {x : Sn} (hx : l[i]? = some x) (hw : atB (l.take i) x ≠ []) : refGo (l.take i) (l.drop i) = ((i : Int), atB (l.take i) x) := by
  obtain ⟨hi, e⟩ := List.getElem?_eq_some_iff.1 hx
  rw [List.drop_eq_getElem_cons hi, e, refGo, if_neg hw, List.length_take, Nat.min_eq_left (by omega)]
theorem ref_on {l : List Sn} {i : Nat} {x : Sn} (hx : l[i]? = some x) (hw : atB (l.take i) x = []) : refGo (l.take i) (l.drop i) = refGo (l.take (i + 1)) (l.drop (i + 1)) := by
  obtain ⟨hi, e⟩ := List.getElem?_eq_some_iff.1 hx
  rw [List.drop_eq_getElem_cons hi, e, refGo, if_pos hw, take_at hx]
theorem _root_.Go.Sp.Run.drawsJoinW {C : Cx} {k id} {Q : Value → List SProp → Prop} {ops : Array Oper} {E : Env} {Γ : List SProp} (L : List Nat) (ΓS : List SProp) (t : Nat) (b : Bool) (E1 : Env) (hm : C.P.follows .mixedOrders = true)
    (h : RunD C.P C.fn.ntmps ops L ΓS ops.size (Array.replicate ops.size false) E Γ fun E' Γ' => Γ' = Γ ∧ lk E' t = some (.bool b) ∧ Le E1 E')
    (n : Run C k ((t, .bool b) :: E1) Γ Q) : Run C (.code (.region id ops true) :: k) E Γ Q :=
  Run.draws L ΓS hm (h.mono fun E' Γ' ⟨e, hl, le⟩ => by subst e; exact n.weak (Le.cons hl le))
theorem at_last {h : List Sn} {x : Sn} {i : Nat} (hi : h.length = i) : (h ++ [x])[i]? = some x := by subst hi; simp
theorem at_left {h : List Sn} {x y : Sn} {k : Nat} (hk : k < h.length) (hy : h[k]? = some y) : (h ++ [x])[k]? = some y := by rw [List.getElem?_append_left hk]; exact hy
end Go.Proofs.Ytahpokcigdjilaa
