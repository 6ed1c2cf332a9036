/- Chapter 22: a world that does what it should: step by step, in plain Lean. -/
import Derived.Test.YtahpokcigdjilaaDefs22k
import Derived.Test.YtahpokcigdjilaaMod9
namespace Go.Proofs.Ytahpokcigdjilaa
open Go Go.Sp

theorem ev_of {c : Nat} {s r : Sn} (sd : s.done = false) (rd : r.done = true) (id : r.id = s.id) (ask : r.ask = s.ask) (kinds : s.kind = 10 ∨ s.kind = 1 ∨ s.kind = 6 ∨ s.kind = 2 ∨ s.kind = 4 ∨ s.kind = 5)
    (send : s.kind = 10 → r.err = 0 ∧ r.seq = r.offset ∧ s.text = r.text ∧ ∃ n, s.text = txt (s.call - 1).toNat n) (grp : s.kind = 4 ∨ s.kind = 5 → s.name = gName ∧ s.part = 0) (comO : s.kind = 4 → r.err = 0 → 0 ≤ s.offset) : EvOk ⟨c, s, r⟩ :=
  ⟨sd, rd, id, ask, kinds, send, grp, fun h => comO h.1 h.2⟩
theorem told_no {s : Sn} (h : ¬ (s.kind = 10 ∨ s.kind = 1)) : toldB s = false := good_no h
section
variable {w w' : Wd} {i : Nat} {cl p : Int}
theorem ok_send {n : Int} {L : Int} (hL : ((w.logs p).length : Int) = L) (hl : w'.logs = put w.logs p (w.logs p ++ [txt i n])) (hs : w'.start = w.start) (hg : w'.gen = w.gen) (ho : w'.off = w.off) :
    NewOk i w w' ⟨cl, (i : Int) + 1, 10, p, 0, 0, 0, 0, [], txt i n, 0, false⟩ ⟨cl, (i : Int) + 1, 10, p, L, 1, 0, L, [], txt i n, 0, true⟩ where
  ev _ := ev_of rfl rfl rfl rfl (.inl rfl) (fun _ => ⟨rfl, rfl, rfl, n, by show txt i n = txt ((i : Int) + 1 - 1).toNat n; rw [show ((i : Int) + 1 - 1).toNat = i by omega]⟩) (fun h => by rcases h with h | h <;> exact absurd h (by show ¬ ((10 : Int) = _); decide)) (fun h => absurd h (by show ¬ ((10 : Int) = _); decide))
  num := rfl
  told _ := by
    show 0 ≤ L ∧ (w'.logs p)[L.toNat]? = some (txt i n)
    refine ⟨by omega, ?_⟩
    rw [hl, put_at, show L.toNat = (w.logs p).length by omega, List.getElem?_append_right (Nat.le_refl _)]; simp
  logs q m t h := by
    rw [hl, put_of]
    by_cases e : q = p
    · subst e; rw [if_pos rfl, List.getElem?_append_left (List.getElem?_eq_some_iff.1 h).1]; exact h
    · rw [if_neg e]; exact h
  logs' q m t h := by
    rw [hl, put_of] at h
    by_cases e : q = p
    · subst e
      rw [if_pos rfl] at h
      by_cases hm : m < (w.logs q).length
      · rw [List.getElem?_append_left hm] at h; exact .inl h
      · right
        have h2 := (List.getElem?_eq_some_iff.1 h).1
        rw [List.length_append, List.length_singleton] at h2
        have hm' : m = (w.logs q).length := by omega
        rw [hm', List.getElem?_append_right (Nat.le_refl _)] at h
        simp at h
        exact ⟨rfl, rfl, h, by show L = (m : Int); omega⟩
    · rw [if_neg e] at h; exact .inl h
  start _ := by rw [hs]; exact Int.le_refl _
  del h := absurd h (by show ¬ ((10 : Int) = _); decide)
  read h := absurd h (by show ¬ ((10 : Int) = _); decide)
  gen := by rw [hg]; exact Int.le_refl _
  join h := absurd h (by show ¬ ((10 : Int) = _); decide)
  com h := absurd h (by show ¬ ((10 : Int) = _); decide)
  noCom _ := ho
  fetch h := absurd h (by show ¬ ((10 : Int) = _); decide)
theorem ok_read {o : Int} {t : Tx} {e : Int} (ht : e = 0 → 0 ≤ o ∧ (w.logs p)[o.toNat]? = some t ∧ w.start p ≤ o) :
    NewOk i w w ⟨cl, (i : Int) + 1, 1, p, o, 0, 0, 0, [], [], 0, false⟩ ⟨cl, (i : Int) + 1, 1, p, o, 0, 0, 0, [], t, e, true⟩ where
  ev _ := ev_of rfl rfl rfl rfl (.inr (.inl rfl)) (fun h => absurd h (by show ¬ ((1 : Int) = _); decide)) (fun h => by rcases h with h | h <;> exact absurd h (by show ¬ ((1 : Int) = _); decide)) (fun h => absurd h (by show ¬ ((1 : Int) = _); decide))
  num := rfl
  told h := by
    have := ht (told_of.1 h).2.1
    exact ⟨this.1, this.2.1⟩
  logs _ _ _ h := h
  logs' _ _ _ h := .inl h
  start _ := Int.le_refl _
  del h := absurd h (by show ¬ ((1 : Int) = _); decide)
  read _ h := (ht h).2.2
  gen := Int.le_refl _
  join h := absurd h (by show ¬ ((1 : Int) = _); decide)
  com h := absurd h (by show ¬ ((1 : Int) = _); decide)
  noCom _ := rfl
  fetch h := absurd h (by show ¬ ((1 : Int) = _); decide)
theorem ok_del {o : Int} (hl : w'.logs = w.logs) (hs : ∀ q, w.start q ≤ w'.start q) (hp : o ≤ w'.start p) (hg : w'.gen = w.gen) (ho : w'.off = w.off) :
    NewOk i w w' ⟨cl, (i : Int) + 1, 6, p, o, 0, 0, 0, [], [], 0, false⟩ ⟨cl, (i : Int) + 1, 6, p, o, 0, 0, 0, [], [], 0, true⟩ where
  ev _ := ev_of rfl rfl rfl rfl (.inr (.inr (.inl rfl))) (fun h => absurd h (by show ¬ ((6 : Int) = _); decide)) (fun h => by rcases h with h | h <;> exact absurd h (by show ¬ ((6 : Int) = _); decide)) (fun h => absurd h (by show ¬ ((6 : Int) = _); decide))
  num := rfl
  told h := by rw [told_no (by show ¬ ((6 : Int) = 10 ∨ (6 : Int) = 1); decide)] at h; cases h
  logs _ _ _ h := by rw [hl]; exact h
  logs' _ _ _ h := by rw [hl] at h; exact .inl h
  start := hs
  del _ := hp
  read h := absurd h (by show ¬ ((6 : Int) = _); decide)
  gen := by rw [hg]; exact Int.le_refl _
  join h := absurd h (by show ¬ ((6 : Int) = _); decide)
  com h := absurd h (by show ¬ ((6 : Int) = _); decide)
  noCom _ := ho
  fetch h := absurd h (by show ¬ ((6 : Int) = _); decide)
theorem ok_join (hl : w'.logs = w.logs) (hs : w'.start = w.start) (hg : w'.gen = w.gen + 1) (ho : w'.off = w.off) :
    NewOk i w w' ⟨cl, (i : Int) + 1, 2, p, 0, 0, 0, 0, gName, [], 0, false⟩ ⟨cl, (i : Int) + 1, 2, p, 0, 0, 0, w.gen + 1, gName, [], 0, true⟩ where
  ev _ := ev_of rfl rfl rfl rfl (.inr (.inr (.inr (.inl rfl)))) (fun h => absurd h (by show ¬ ((2 : Int) = _); decide)) (fun h => by rcases h with h | h <;> exact absurd h (by show ¬ ((2 : Int) = _); decide)) (fun h => absurd h (by show ¬ ((2 : Int) = _); decide))
  num := rfl
  told h := by rw [told_no (by show ¬ ((2 : Int) = 10 ∨ (2 : Int) = 1); decide)] at h; cases h
  logs _ _ _ h := by rw [hl]; exact h
  logs' _ _ _ h := by rw [hl] at h; exact .inl h
  start _ := by rw [hs]; exact Int.le_refl _
  del h := absurd h (by show ¬ ((2 : Int) = _); decide)
  read h := absurd h (by show ¬ ((2 : Int) = _); decide)
  gen := by omega
  join _ := by show w.gen < w.gen + 1 ∧ w.gen + 1 ≤ w'.gen; omega
  com h := absurd h (by show ¬ ((2 : Int) = _); decide)
  noCom _ := ho
  fetch h := absurd h (by show ¬ ((2 : Int) = _); decide)
theorem ok_com {o q e : Int} (hl : w'.logs = w.logs) (hs : w'.start = w.start) (hg : w'.gen = w.gen) (h0 : 0 ≤ o) (hy : e = 0 → w.gen ≤ q ∧ w'.off = o) (hn : e ≠ 0 → w'.off = w.off) :
    NewOk i w w' ⟨cl, (i : Int) + 1, 4, 0, o, 0, 0, q, gName, [], 0, false⟩ ⟨cl, (i : Int) + 1, 4, 0, o, 0, 0, q, gName, [], e, true⟩ where
  ev _ := ev_of rfl rfl rfl rfl (.inr (.inr (.inr (.inr (.inl rfl))))) (fun h => absurd h (by show ¬ ((4 : Int) = _); decide)) (fun _ => ⟨rfl, rfl⟩) (fun _ _ => h0)
  num := rfl
  told h := by rw [told_no (by show ¬ ((4 : Int) = 10 ∨ (4 : Int) = 1); decide)] at h; cases h
  logs _ _ _ h := by rw [hl]; exact h
  logs' _ _ _ h := by rw [hl] at h; exact .inl h
  start _ := by rw [hs]; exact Int.le_refl _
  del h := absurd h (by show ¬ ((4 : Int) = _); decide)
  read h := absurd h (by show ¬ ((4 : Int) = _); decide)
  gen := by omega
  join h := absurd h (by show ¬ ((4 : Int) = _); decide)
  com _ he := hy he
  noCom h := hn fun e => h ⟨rfl, e⟩
  fetch h := absurd h (by show ¬ ((4 : Int) = _); decide)
theorem ok_fetch : NewOk i w w ⟨cl, (i : Int) + 1, 5, 0, 0, 0, 0, 0, gName, [], 0, false⟩ ⟨cl, (i : Int) + 1, 5, 0, w.off, 0, 0, 0, gName, [], 0, true⟩ where
  ev _ := ev_of rfl rfl rfl rfl (.inr (.inr (.inr (.inr (.inr rfl))))) (fun h => absurd h (by show ¬ ((5 : Int) = _); decide)) (fun _ => ⟨rfl, rfl⟩) (fun h => absurd h (by show ¬ ((5 : Int) = _); decide))
  num := rfl
  told h := by rw [told_no (by show ¬ ((5 : Int) = 10 ∨ (5 : Int) = 1); decide)] at h; cases h
  logs _ _ _ h := h
  logs' _ _ _ h := .inl h
  start _ := Int.le_refl _
  del h := absurd h (by show ¬ ((5 : Int) = _); decide)
  read h := absurd h (by show ¬ ((5 : Int) = _); decide)
  gen := Int.le_refl _
  join h := absurd h (by show ¬ ((5 : Int) = _); decide)
  com h := absurd h (by show ¬ ((5 : Int) = _); decide)
  noCom _ := rfl
  fetch _ := rfl
end
/-! ### How it lies in memory -/
structure Stp where
  kind : Int
  client : Int
  part : Int
  n : Int
def Stp.cells (o : Stp) : List Value := [.int .i64 o.kind, .int .i64 o.client, .int .i64 o.part, .int .i64 o.n]
theorem Stp.cells_len (o : Stp) : o.cells.length = 4 := rfl
theorem Stp.cells_ones (o : Stp) : ones o.cells := .of rfl
def Stp.ok (o : Stp) : Prop := i64 o.kind ∧ i64 o.client ∧ i64 o.part ∧ i64 o.n
def tcell (t : Tx) : List Value := [.string (str t)]
theorem tcell_len (t : Tx) : (tcell t).length = 1 := rfl
def logC (T : List (Int × Row Tx)) : List Value := T.map fun q => rowV q.2
def mkW (T : List (Int × Row Tx)) (st : List Int) (g f : Int) : Wd := ⟨fun p => ((mget T p).getD row0).2.2, fun p => st.getD p.toNat 0, g, f⟩
def four (T : List (Int × Row Tx)) : Prop := T.map (·.1) = [0, 1, 2, 3]
theorem four.get {T : List (Int × Row Tx)} (h : four T) {p : Nat} (hp : p < 4) : (logC T)[p]? = some (rowV ((mget T (p : Int)).getD row0)) := by
  unfold four at h
  match T, h with
  | [(a, ra), (b, rb), (c, rc), (d, rd)], h =>
    simp at h
    obtain ⟨rfl, rfl, rfl, rfl⟩ := h
    match p, hp with
    | 0, _ => rfl
    | 1, _ => rfl
    | 2, _ => rfl
    | 3, _ => rfl
theorem four.set {T : List (Int × Row Tx)} (h : four T) {p : Nat} (hp : p < 4) (r : Row Tx) : logC (mset T (p : Int) r) = (logC T).set p (rowV r) ∧ four (mset T (p : Int) r) := by
  unfold four at h ⊢
  match T, h with
  | [(a, ra), (b, rb), (c, rc), (d, rd)], h =>
    simp at h
    obtain ⟨rfl, rfl, rfl, rfl⟩ := h
    match p, hp with
    | 0, _ => exact ⟨rfl, rfl⟩
    | 1, _ => exact ⟨rfl, rfl⟩
    | 2, _ => exact ⟨rfl, rfl⟩
    | 3, _ => exact ⟨rfl, rfl⟩
theorem four.nodup {T : List (Int × Row Tx)} (h : four T) : (T.map (·.1)).Nodup := by rw [h]; decide
theorem four.logs {T : List (Int × Row Tx)} (p : Int) (r : Row Tx) (st : List Int) (g f : Int) : (mkW (mset T p r) st g f).logs = put (mkW T st g f).logs p r.2.2 := by
  funext q
  show ((mget (mset T p r) q).getD row0).2.2 = _
  rw [mget_mset, put_of]
  split <;> rfl
theorem start_mono {T T' : List (Int × Row Tx)} {st : List Int} {g f : Int} (hst : st.length = 4) {p : Nat} (hp : p < 4) (o : Int) : (∀ q, (mkW T st g f).start q ≤ (mkW T' (st.set p (max (st.getD p 0) o)) g f).start q) ∧ o ≤ (mkW T' (st.set p (max (st.getD p 0) o)) g f).start (p : Int) := by
  constructor
  · intro q
    show st.getD q.toNat 0 ≤ (st.set p (max (st.getD p 0) o)).getD q.toNat 0
    rw [List.getD_eq_getElem?_getD, List.getD_eq_getElem?_getD (l := st.set _ _), List.getElem?_set]
    by_cases e : p = q.toNat
    · rw [if_pos e, if_pos (by omega), ← e]
      show st[p]?.getD 0 ≤ max (st.getD p 0) o
      rw [← List.getD_eq_getElem?_getD]; omega
    · rw [if_neg e]; exact Int.le_refl _
  · show o ≤ (st.set p (max (st.getD p 0) o)).getD p 0
    rw [List.getD_eq_getElem?_getD (l := st.set _ _), List.getElem?_set, if_pos rfl, if_pos (by omega)]
    show o ≤ max (st.getD p 0) o
    omega
theorem _root_.Go.Sp.Run.joinEx {C : Cx} {k : List Item} {c : Code} {Q : Value → List SProp → Prop} {E : Env} {Γ : List SProp} {σ : Type} {φ : σ → Prop} {E' : σ → Env} {Γ' : σ → List SProp} (tail : ∀ s, φ s → Run C k (E' s) (Γ' s) Q)
    (next : (∀ s, φ s → ∀ {E1 : Env} {Γ1 Δ : List SProp}, Le (E' s) E1 → Picks (Γ' s) Γ1 Δ → Run C k E1 Γ1 Q) → Run C (.code c :: k) E Γ Q) : Run C (.code c :: k) E Γ Q :=
  next fun s hs _ _ _ l p => (tail s hs).to l p
/-- A row of one's own without its first element. -/
theorem arr_rest {e s b o c : Nat} {x cs : List Value} (hx : x.length = s) (hc : 0 < c) (h : Hp) (H : arr e s (some ⟨b, o, none⟩) c (x ++ cs) h) : arr e s (if c = 1 then some ⟨b, o, none⟩ else some ⟨b, o + 1 * s, none⟩) (c - 1) cs h := by
  rcases H with ⟨h1, _⟩ | ⟨b', pre, post, h1, h2, h3⟩
  · omega
  · cases h1
    by_cases e : c = 1
    · rw [if_pos e]
      subst e
      rw [List.length_append] at h2
      have : cs = [] := List.eq_nil_of_length_eq_zero (by omega)
      exact .inl ⟨rfl, this⟩
    · rw [if_neg e]
      refine .inr ⟨b, pre ++ x, post, by rw [List.length_append, hx, Nat.one_mul], ?_, by rw [List.append_assoc, ← List.append_assoc x]; exact h3⟩
      rw [List.length_append] at h2
      have : c * s = (c - 1) * s + s := by rw [← Nat.succ_mul]; congr 1; omega
      omega
theorem arr_mono {e s : Nat} {a : Option Addr} {c : Nat} {cs : List Value} {h k : Hp} (l : Hp.le h k) (H : arr e s a c cs h) : arr e s a c cs k := by
  rcases H with H | ⟨b, pre, post, h1, h2, h3⟩
  · exact .inl H
  · exact .inr ⟨b, pre, post, h1, h2, blk_mono l h3⟩
theorem rest_of {e s b o c : Nat} {x cs : List Value} (hx : x.length = s) (hc : 0 < c) (h : Hp) (H : sat [arr e s (some ⟨b, o, none⟩) c (x ++ cs)] h) : arr e s (if c = 1 then some ⟨b, o, none⟩ else some ⟨b, o + 1 * s, none⟩) (c - 1) cs h := by
  obtain ⟨h1, _, _, l, _, X, _⟩ := H
  exact arr_mono l (arr_rest hx hc h1 X)
theorem Knows.arrRoom {α : Type} {f : α → List Value} {e s : Nat} (hf : ∀ x, (f x).length = s) (hs : 0 < s) {Γ Γ' : List SProp} {a c} {l : List α} (p : Pick (arr e s a c (l.flatMap f)) Γ Γ') : Knows Γ fun _ => l.length ≤ c := fun A w h => by
  have := (h.map fun _ => p.sat).arr_len.1
  rw [flat_length hf] at this
  exact Nat.le_of_mul_le_mul_right this hs
theorem byte97 (m : Int) (h0 : 0 ≤ m) (h1 : m < 26) : IntKind.u8.wrap (97 + m) = ((UInt8.ofNat (97 + m.toNat)).toNat : Int) := by
  rw [UInt8.toNat_ofNat']
  unfold IntKind.wrap; simp [IntKind.signed, IntKind.bits]; omega
theorem byte48 (m : Nat) : IntKind.u8.wrap (48 + (m : Int)) = ((UInt8.ofNat (48 + m)).toNat : Int) := by
  rw [UInt8.toNat_ofNat']
  unfold IntKind.wrap; simp [IntKind.signed, IntKind.bits]
/-- Where a world is, and how its things lie. -/
structure TW (n i : Nat) (h opn : List Sn) (T : List (Int × Row Tx)) (st : List Int) (g f : Int) : Prop where
  iv : ∃ iss, Iv i h iss opn (mkW T st g f)
  four : four T
  st : st.length = 4
  g0 : 0 ≤ g
  g1 : g ≤ i
  hl : h.length ≤ 2 * i
  ol : opn.length ≤ i
  ll : ∀ p, ((mget T p).getD row0).2.2.length ≤ i
  le : i ≤ n
theorem TW.small {n i : Nat} {h opn : List Sn} {T : List (Int × Row Tx)} {st : List Int} {g f : Int} (W : TW n i h opn T st g f) : h.length ≤ 200 := by
  obtain ⟨iss, V⟩ := W.iv
  have := V.small; have := W.hl; omega
theorem TW.check {n i : Nat} {h opn : List Sn} {T : List (Int × Row Tx)} {st : List Int} {g f : Int} (W : TW n i h opn T st g f) : Go.Proofs.Ytahpokcigdjilaa.check h = (-1, []) := by
  obtain ⟨iss, V⟩ := W.iv
  exact V.check
def T0 : List (Int × Row Tx) := [(0, row0), (1, row0), (2, row0), (3, row0)]
theorem TW.start (n : Nat) : TW n 0 [] [] T0 [0, 0, 0, 0] 0 (-1) where
  iv := by
    have hl : ∀ p, ((mget T0 p).getD row0).2.2 = ([] : List Tx) := fun p => by
      cases e : mget T0 p with
      | none => rfl
      | some r =>
        have := mget_mem e
        unfold T0 at this
        simp at this
        rcases this with h | h | h | h <;> rw [h.2] <;> rfl
    have : mkW T0 [0, 0, 0, 0] 0 (-1) = ⟨fun _ => [], fun _ => 0, 0, -1⟩ := by
      unfold mkW
      congr
      · funext p; exact hl p
      · funext p
        cases p.toNat with
        | zero => rfl
        | succ n => cases n with
          | zero => rfl
          | succ n => cases n with
            | zero => rfl
            | succ n => cases n <;> rfl
    exact ⟨[], by rw [this]; exact Iv.start⟩
  four := rfl
  st := rfl
  g0 := Int.le_refl _
  g1 := Int.le_refl _
  hl := Nat.zero_le _
  ol := Nat.zero_le _
  ll p := by
    cases e : mget T0 p with
    | none => exact Nat.zero_le _
    | some r =>
      have := mget_mem e
      unfold T0 at this
      simp at this
      rcases this with h | h | h | h <;> rw [h.2] <;> exact Nat.zero_le _
  le := Nat.zero_le _
/-- A step: what it leaves behind. -/
structure Left (i : Nat) (T : List (Int × Row Tx)) (st : List Int) (g f : Int) (s r : Sn) (T' : List (Int × Row Tx)) (st' : List Int) (g' f' : Int) : Prop where
  new : NewOk i (mkW T st g f) (mkW T' st' g' f') s { r with done := true }
  four : Go.Proofs.Ytahpokcigdjilaa.four T'
  st : st'.length = 4
  g0 : 0 ≤ g'
  g1 : g' ≤ i + 1
  ll : ∀ p, ((mget T' p).getD row0).2.2.length ≤ i + 1
theorem TW.next {n i : Nat} {h opn : List Sn} {T T' : List (Int × Row Tx)} {st st' : List Int} {g f g' f' : Int} {s r : Sn} (W : TW n i h opn T st g f) (L : Left i T st g f s r T' st' g' f') (hi : i < n) (h100 : i < 100) {h' o' : List Sn}
    (hy : (h' = h ++ [s] ++ [{ r with done := true }] ∧ o' = opn) ∨ (h' = h ++ [s] ++ [late { r with done := true }] ∧ o' = opn) ∨ (h' = h ++ [s] ∧ o' = opn ++ [{ r with done := true }])) : TW n (i + 1) h' o' T' st' g' f' := by
  obtain ⟨iss, V⟩ := W.iv
  have E := L.new.ev h.length
  have V2 := V.issued L.new h100
  have F := V.fresh L.new.num E.sd
  have hm : (⟨h.length, s, { r with done := true }⟩ : Ev) ∈ iss ++ [⟨h.length, s, { r with done := true }⟩] := List.mem_append_right _ List.mem_cons_self
  have hh := W.hl
  have ho := W.ol
  have hl2 : ∀ z : Sn, (h ++ [s] ++ [z]).length = h.length + 2 := fun z => by simp
  have hl1 : (h ++ [s]).length = h.length + 1 := by simp
  have ho1 : ∀ z : Sn, (opn ++ [z]).length = opn.length + 1 := fun z => by simp
  rcases hy with ⟨rfl, rfl⟩ | ⟨rfl, rfl⟩ | ⟨rfl, rfl⟩
  · exact ⟨⟨_, V2.told_ hm F.1 F.2 (.inl rfl)⟩, L.four, L.st, L.g0, L.g1, by rw [hl2]; omega, by omega, L.ll, hi⟩
  · exact ⟨⟨_, V2.told_ hm F.1 F.2 (.inr rfl)⟩, L.four, L.st, L.g0, L.g1, by rw [hl2]; omega, by omega, L.ll, hi⟩
  · exact ⟨⟨_, V2.kept hm F.1 F.2⟩, L.four, L.st, L.g0, L.g1, by rw [hl1]; omega, by rw [ho1]; omega, L.ll, hi⟩
theorem TW.freed {n i : Nat} {h opn : List Sn} {T : List (Int × Row Tx)} {st : List Int} {g f : Int} {y : Sn} (W : TW n i h (y :: opn) T st g f) (hi : i < n) (h100 : i < 100) : TW n (i + 1) (h ++ [y]) opn T st g f := by
  obtain ⟨iss, V⟩ := W.iv
  have hh := W.hl
  have ho := W.ol
  rw [List.length_cons] at ho
  have g1 := W.g1
  exact ⟨⟨_, V.freed.tick h100⟩, W.four, W.st, W.g0, by omega, by rw [List.length_append]; show h.length + 1 ≤ _; omega, by omega, fun p => Nat.le_succ_of_le (W.ll p), hi⟩
theorem TW.idle {n i : Nat} {h opn : List Sn} {T : List (Int × Row Tx)} {st : List Int} {g f : Int} (W : TW n i h opn T st g f) (hi : i < n) (h100 : i < 100) : TW n (i + 1) h opn T st g f := by
  obtain ⟨iss, V⟩ := W.iv
  have hh := W.hl
  have ho := W.ol
  have g1 := W.g1
  exact ⟨⟨_, V.tick h100⟩, W.four, W.st, W.g0, by omega, by omega, by omega, fun p => Nat.le_succ_of_le (W.ll p), hi⟩
section
variable {n i : Nat} {h opn : List Sn} {T : List (Int × Row Tx)} {st : List Int} {g f : Int} {cl : Int} {p : Nat}
theorem TW.send (W : TW n i h opn T st g f) (hp : p < 4) {qa ra : Option Addr} {qc rc : Nat} {ql : List Tx} (hr : (mget T (p : Int)).getD row0 = (qa, qc, ql)) {m : Int} {s r : Sn}
    (hs : s = ⟨cl, (i : Int) + 1, 10, p, 0, 0, 0, 0, [], txt i m, 0, false⟩) (hr2 : r = ⟨cl, (i : Int) + 1, 10, p, ql.length, 1, 0, ql.length, [], txt i m, 0, false⟩) :
    Left i T st g f s r (mset T (p : Int) (ra, rc, ql ++ [txt i m])) st g f := by
  subst hs hr2
  have hq : (mkW T st g f).logs (p : Int) = ql := by show ((mget T (p : Int)).getD row0).2.2 = ql; rw [hr]
  have g1 := W.g1
  refine ⟨ok_send (L := (ql.length : Int)) (by rw [hq]) (by rw [four.logs, hq]) rfl rfl rfl, (W.four.set hp _).2, W.st, W.g0, by omega, fun q => ?_⟩
  have hl := W.ll q; have hlp := W.ll (p : Int)
  rw [hr] at hlp
  rw [mget_mset]
  split
  · show (ql ++ [txt i m]).length ≤ i + 1
    rw [List.length_append]; exact Nat.succ_le_succ hlp
  · omega
theorem TW.same (W : TW n i h opn T st g f) {s r : Sn} (N : NewOk i (mkW T st g f) (mkW T st g f) s { r with done := true }) : Left i T st g f s r T st g f := by
  have g1 := W.g1
  exact ⟨N, W.four, W.st, W.g0, by omega, fun q => Nat.le_succ_of_le (W.ll q)⟩
theorem TW.read (W : TW n i h opn T st g f) {qa : Option Addr} {qc : Nat} {ql : List Tx} (hr : (mget T (p : Int)).getD row0 = (qa, qc, ql)) {o : Nat} {t : Tx} {e : Int} (ht : e = 0 → ql[o]? = some t ∧ st.getD p 0 ≤ o) {s r : Sn}
    (hs : s = ⟨cl, (i : Int) + 1, 1, p, o, 0, 0, 0, [], [], 0, false⟩) (hr2 : r = ⟨cl, (i : Int) + 1, 1, p, o, 0, 0, 0, [], t, e, false⟩) : Left i T st g f s r T st g f := by
  subst hs hr2
  refine W.same (ok_read fun he => ⟨by omega, ?_, (ht he).2⟩)
  show ((mget T (p : Int)).getD row0).2.2[o]? = some t
  rw [hr]; exact (ht he).1
theorem TW.delete (W : TW n i h opn T st g f) (hp : p < 4) {o : Nat} {s r : Sn} (hs : s = ⟨cl, (i : Int) + 1, 6, p, o, 0, 0, 0, [], [], 0, false⟩) (hr2 : r = s) :
    Left i T st g f s r T (st.set p (max (st.getD p 0) o)) g f := by
  subst hs hr2
  have g1 := W.g1
  have hm := start_mono (T := T) (T' := T) (g := g) (f := f) W.st hp (o : Int)
  exact ⟨ok_del rfl hm.1 hm.2 rfl rfl, W.four, by rw [List.length_set]; exact W.st, W.g0, by omega, fun q => Nat.le_succ_of_le (W.ll q)⟩
theorem TW.join (W : TW n i h opn T st g f) {s r : Sn} (hs : s = ⟨cl, (i : Int) + 1, 2, p, 0, 0, 0, 0, gName, [], 0, false⟩) (hr2 : r = ⟨cl, (i : Int) + 1, 2, p, 0, 0, 0, g + 1, gName, [], 0, false⟩) : Left i T st g f s r T st (g + 1) f := by
  subst hs hr2
  have g1 := W.g1
  have g0 := W.g0
  exact ⟨ok_join rfl rfl rfl rfl, W.four, W.st, by omega, by omega, fun q => Nat.le_succ_of_le (W.ll q)⟩
theorem TW.commit (W : TW n i h opn T st g f) {o q e : Int} (h0 : 0 ≤ o) {f' : Int} (hy : e = 0 → g ≤ q ∧ f' = o) (hn : e ≠ 0 → f' = f) {s r : Sn}
    (hs : s = ⟨cl, (i : Int) + 1, 4, 0, o, 0, 0, q, gName, [], 0, false⟩) (hr2 : r = ⟨cl, (i : Int) + 1, 4, 0, o, 0, 0, q, gName, [], e, false⟩) : Left i T st g f s r T st g f' := by
  subst hs hr2
  have g1 := W.g1
  exact ⟨ok_com rfl rfl rfl h0 hy hn, W.four, W.st, W.g0, by omega, fun q => Nat.le_succ_of_le (W.ll q)⟩
theorem TW.fetch (W : TW n i h opn T st g f) {s r : Sn} (hs : s = ⟨cl, (i : Int) + 1, 5, 0, 0, 0, 0, 0, gName, [], 0, false⟩) (hr2 : r = ⟨cl, (i : Int) + 1, 5, 0, f, 0, 0, 0, gName, [], 0, false⟩) : Left i T st g f s r T st g f := by
  subst hs hr2
  exact W.same ok_fetch
end
end Go.Proofs.Ytahpokcigdjilaa
