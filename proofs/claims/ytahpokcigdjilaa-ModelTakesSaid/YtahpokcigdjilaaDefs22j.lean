/- Chapter 22: a world that does what it should, in plain Lean. -/
import Derived.Test.YtahpokcigdjilaaDefs22i
namespace Go.Proofs.Ytahpokcigdjilaa
open Go Go.Sp

structure Ev where
  c : Nat
  s : Sn
  r : Sn
def late (r : Sn) : Sn := { r with err := 21 }
structure Wd where
  logs : Int → List Tx
  start : Int → Int
  gen : Int
  off : Int
def gName : Tx := [103]
def txt (i : Nat) (n : Int) : Tx := [UInt8.ofNat (97 + (pickN n 26).toNat), UInt8.ofNat (48 + i % 10), UInt8.ofNat (48 + i / 10)]
/-- A commit that was done. -/
def Ev.com (e : Ev) : Prop := e.s.kind = 4 ∧ e.r.err = 0
structure EvOk (e : Ev) : Prop where
  sd : e.s.done = false
  rd : e.r.done = true
  id : e.r.id = e.s.id
  ask : e.r.ask = e.s.ask
  kinds : e.s.kind = 10 ∨ e.s.kind = 1 ∨ e.s.kind = 6 ∨ e.s.kind = 2 ∨ e.s.kind = 4 ∨ e.s.kind = 5
  send : e.s.kind = 10 → e.r.err = 0 ∧ e.r.seq = e.r.offset ∧ e.s.text = e.r.text ∧ ∃ n, e.s.text = txt (e.s.call - 1).toNat n
  grp : e.s.kind = 4 ∨ e.s.kind = 5 → e.s.name = gName ∧ e.s.part = 0
  comO : e.com → 0 ≤ e.s.offset
/-- What an earlier one and a later one are to each other. -/
structure Two (e f : Ev) : Prop where
  del : e.s.kind = 6 → f.s.kind = 1 → f.r.err = 0 → e.s.part = f.s.part → e.r.offset ≤ f.r.offset
  gens : e.s.kind = 2 → f.s.kind = 2 → e.r.seq < f.r.seq
  fence : e.s.kind = 2 → f.com → e.r.seq ≤ f.r.seq
def Last (iss : List Ev) (n : Nat) (o : Int) : Prop := (o = -1 ∧ ∀ e ∈ iss, e.com → n ≤ e.c) ∨ (0 ≤ o ∧ ∃ z ∈ iss, z.com ∧ z.c < n ∧ z.s.offset = o ∧ ∀ e ∈ iss, e.com → e.c < n → e.c ≤ z.c)

structure Iv (i : Nat) (h : List Sn) (iss : List Ev) (opn : List Sn) (w : Wd) : Prop where
  good : ∀ k y, At h k y → atB (h.take k) y = []
  hst : ∃ p, Hst h p
  calls : ∀ k y, At h k y → y.done = false → ∃ e ∈ iss, e.c = k ∧ e.s = y
  rets : ∀ k y, At h k y → y.done = true → ∃ e ∈ iss, e.c < k ∧ (y = e.r ∨ y = late e.r)
  here : ∀ e ∈ iss, At h e.c e.s
  ev : ∀ e ∈ iss, EvOk e
  num : ∀ e ∈ iss, 1 ≤ e.s.call ∧ e.s.call ≤ i
  uniq : ∀ e ∈ iss, ∀ f ∈ iss, e.s.call = f.s.call → e = f
  openE : ∀ o ∈ opn, ∃ e ∈ iss, o = e.r ∧ ∀ k y, At h k y → y.done = true → y.call ≠ e.s.call
  openN : (opn.map (·.call)).Nodup
  two : ∀ e ∈ iss, ∀ f ∈ iss, e.c < f.c → Two e f
  told : ∀ e ∈ iss, toldB e.r = true → 0 ≤ e.r.offset ∧ (w.logs e.r.part)[e.r.offset.toNat]? = some e.r.text
  fetch : ∀ e ∈ iss, e.s.kind = 5 → Last iss e.c e.r.offset
  startW : ∀ e ∈ iss, e.s.kind = 6 → e.r.offset ≤ w.start e.s.part
  genW : ∀ e ∈ iss, e.s.kind = 2 → e.r.seq ≤ w.gen
  offW : Last iss h.length w.off
  logsW : ∀ p (m : Nat) t, (w.logs p)[m]? = some t → ∃ e ∈ iss, e.s.kind = 10 ∧ e.s.part = p ∧ e.s.text = t ∧ e.r.offset = m
  small : i ≤ 100

theorem Iv.start : Iv 0 [] [] [] ⟨fun _ => [], fun _ => 0, 0, -1⟩ where
  good _ _ h := by cases h
  hst := ⟨_, Hst.start⟩
  calls _ _ h := by cases h
  rets _ _ h := by cases h
  here _ h := by cases h
  ev _ h := by cases h
  num _ h := by cases h
  uniq _ h := by cases h
  openE _ h := by cases h
  openN := List.nodup_nil
  two _ h := by cases h
  told _ h := by cases h
  fetch _ h := by cases h
  startW _ h := by cases h
  genW _ h := by cases h
  offW := .inl ⟨rfl, fun _ h => by cases h⟩
  logsW _ _ _ h := by simp at h
  small := by omega

theorem call_of_id {x y : Sn} (e : x.id = y.id) : x.call = y.call := by unfold Sn.id at e; exact (Prod.mk.inj e).2
theorem kind_of_ask {x y : Sn} (e : x.ask = y.ask) : x.kind = y.kind ∧ x.name = y.name ∧ x.part = y.part := ask_eq.1 e
theorem txt_inj {i j : Nat} {m n : Int} (hi : i < 100) (hj : j < 100) (e : txt i m = txt j n) : i = j := by
  unfold txt at e
  injection e with _ e
  injection e with e1 e
  injection e with e2 _
  have e1 := congrArg UInt8.toNat e1
  have e2 := congrArg UInt8.toNat e2
  rw [UInt8.toNat_ofNat', UInt8.toNat_ofNat'] at e1 e2
  omega
section
variable {i : Nat} {h : List Sn} {iss : List Ev} {opn : List Sn} {w : Wd}
/-- A send's place tells its call. -/
theorem Iv.same_text (V : Iv i h iss opn w) {e f : Ev} (he : e ∈ iss) (hf : f ∈ iss) (h10 : e.s.kind = 10) (h11 : f.s.kind = 10) (ht : e.s.text = f.s.text) : e = f := by
  obtain ⟨_, _, _, n, e1⟩ := (V.ev e he).send h10
  obtain ⟨_, _, _, m, e2⟩ := (V.ev f hf).send h11
  have a := V.num e he; have b := V.num f hf; have c := V.small
  rw [e1, e2] at ht
  have := txt_inj (by omega) (by omega) ht
  exact V.uniq e he f hf (by omega)
theorem Iv.ret_of (V : Iv i h iss opn w) {k : Nat} {y : Sn} {a b : Int} (hy : At h k y) (hg : goodB y a b = true) : ∃ e ∈ iss, e.c < k ∧ y = e.r := by
  have hgi := goodB_iff.1 hg
  obtain ⟨e, he, hc, hr⟩ := V.rets k y hy hgi.1
  refine ⟨e, he, hc, ?_⟩
  rcases hr with hr | hr
  · exact hr
  · exfalso; have := hgi.2.1; rw [hr] at this; exact absurd this (show ¬ ((21 : Int) = 0) by decide)
theorem Iv.callR (V : Iv i h iss opn w) {e : Ev} (he : e ∈ iss) {x : Sn} (hx : x.id = e.s.id) : callR h x = e.c := by
  rcases callR_cases h x with ⟨_, ha⟩ | ⟨k, y, ek, hy, hc⟩
  · have := ha e.c e.s (V.here e he)
    rw [isCall_iff.2 ⟨(V.ev e he).sd, hx.symm⟩] at this; cases this
  · have hci := isCall_iff.1 hc
    obtain ⟨f, hf, rfl, rfl⟩ := V.calls k y hy hci.1
    have := V.uniq f hf e he (call_of_id (hci.2.trans hx))
    rw [ek, this]
theorem Iv.kindr (V : Iv i h iss opn w) {e : Ev} (he : e ∈ iss) : e.r.kind = e.s.kind ∧ e.r.name = e.s.name ∧ e.r.part = e.s.part := kind_of_ask (V.ev e he).ask
theorem Iv.callr (V : Iv i h iss opn w) {e : Ev} (he : e ∈ iss) : e.r.call = e.s.call := call_of_id (V.ev e he).id

theorem Iv.no_call (V : Iv i h iss opn w) {e : Ev} (he : e ∈ iss) (hn : ∀ k y, At h k y → y.done = true → y.call ≠ e.s.call) {x : Sn} (hd : x.done = true) (hid : x.id = e.s.id) (hask : x.ask = e.s.ask) : callB h x = false := by
  unfold callB
  rw [Bool.or_eq_false_iff]
  constructor
  · cases ha : h.any (sameOr x) with
    | false => rfl
    | true =>
      obtain ⟨k, y, hy, hs⟩ := any_at.1 ha
      unfold sameOr sameB at hs
      simp only [Bool.and_eq_true, Bool.or_eq_true, Bool.not_eq_true', decide_eq_true_eq] at hs
      have hyd : y.done = true := by
        rcases hs.2 with e | e
        · rw [hd] at e; cases e
        · exact e
      exact absurd (hs.1.2.trans (call_of_id hid)) (hn k y hy hyd)
  · rw [hd, Bool.true_and, V.callR he hid]
    have : h[((e.c : Nat) : Int).toNat]?.getD sn0 = e.s := by have := V.here e he; unfold At at this; show h[e.c]?.getD sn0 = e.s; rw [this]; rfl
    rw [this]
    have hk := kind_of_ask hask
    unfold badCall
    rw [decide_eq_true hk.1.symm, decide_eq_true hk.2.1.symm, decide_eq_true hk.2.2.symm, decide_eq_false (by omega)]; rfl
theorem at_quiet {x : Sn} (hc : callB h x = false) (hq : x.done = false ∨ x.err ≠ 0) : atB h x = [] := by
  unfold atB
  rw [if_neg (by rw [hc]; decide)]
  have hg : ∀ a b, goodB x a b = false := fun a b => by
    cases e : goodB x a b with
    | false => rfl
    | true => have := goodB_iff.1 e; rcases hq with h | h; rw [this.1] at h; cases h; exact absurd this.2.1 h
  have ht : toldB x = false := hg 10 1
  unfold valueB offsetB unsentB twiceB orderB deletedB genB fencedB commitB
  simp [hg, ht]
theorem offs_one {x : Sn} {o : Int} : ∀ (l : List Sn) (a : List Int), (a = [] ∨ a = [o]) → (∀ y ∈ l, skipT x y = false → y.offset = o) → (l.foldl (offsS x) a = [] ∨ l.foldl (offsS x) a = [o])
  | [], _, ha, _ => ha
  | y :: l, a, ha, hl => by
    rw [List.foldl_cons]
    refine offs_one l _ ?_ fun z hz => hl z (List.mem_cons_of_mem _ hz)
    unfold offsS
    cases hs : skipT x y with
    | true => simpa using ha
    | false =>
      have := hl y List.mem_cons_self hs
      rw [this]
      rcases ha with rfl | rfl <;> simp

theorem Iv.no_value (V : Iv i h iss opn w) {e : Ev} (he : e ∈ iss) : valueB h e.r = false := by
  unfold valueB
  cases ht : toldB e.r with
  | false => rfl
  | true =>
    rw [Bool.true_and]
    cases ha : h.any (valueP e.r) with
    | false => rfl
    | true =>
      obtain ⟨k, y, hy, hv⟩ := any_at.1 ha
      unfold valueP at hv
      simp only [Bool.and_eq_true, Bool.not_eq_true', decide_eq_true_eq, decide_eq_false_iff_not] at hv
      obtain ⟨f, hf, _, rfl⟩ := V.ret_of hy hv.1.1.1
      have h1 := (V.told e he ht).2
      have h2 := (V.told f hf hv.1.1.1).2
      rw [hv.1.1.2, hv.1.2, h1] at h2
      exact absurd (Option.some.inj h2).symm hv.2
/-- Sends of one offset are one. -/
theorem Iv.one_send (V : Iv i h iss opn w) {e f : Ev} (he : e ∈ iss) (hf : f ∈ iss) (hg : goodB e.r 10 10 = true) (hg2 : goodB f.r 10 10 = true) (hp : f.r.part = e.r.part) (ho : f.r.offset = e.r.offset) : f = e := by
  have g1 := goodB_iff.1 hg; have g2 := goodB_iff.1 hg2
  have k1 := V.kindr he; have k2 := V.kindr hf
  have h1 := (V.told e he (told_of.2 ⟨g1.1, g1.2.1, by omega⟩)).2
  have h2 := (V.told f hf (told_of.2 ⟨g2.1, g2.2.1, by omega⟩)).2
  rw [hp, ho, h1] at h2
  have e10 : e.s.kind = 10 := by omega
  have f10 : f.s.kind = 10 := by omega
  refine V.same_text hf he f10 e10 ?_
  rw [((V.ev e he).send e10).2.2.1, ((V.ev f hf).send f10).2.2.1]
  exact (Option.some.inj h2).symm
theorem Iv.no_offset (V : Iv i h iss opn w) {e : Ev} (he : e ∈ iss) (hn : ∀ k y, At h k y → y.done = true → y.call ≠ e.s.call) : offsetB h e.r = false := by
  unfold offsetB
  cases hg : goodB e.r 10 10 with
  | false => rfl
  | true =>
    rw [Bool.true_and]
    cases ha : h.any (offsetP e.r) with
    | false => rfl
    | true =>
      obtain ⟨k, y, hy, hv⟩ := any_at.1 ha
      unfold offsetP at hv
      simp only [Bool.and_eq_true, decide_eq_true_eq] at hv
      obtain ⟨f, hf, _, rfl⟩ := V.ret_of hy hv.1.1
      have := V.one_send he hf hg hv.1.1 hv.1.2 hv.2
      subst this
      exact absurd (V.callr hf) (hn k _ hy (V.ev f hf).rd)
theorem Iv.was_sent (V : Iv i h iss opn w) {e : Ev} (he : e ∈ iss) (ht : toldB e.r = true) : 1 ≤ sentI h e.r := by
  obtain ⟨h0, h1⟩ := V.told e he ht
  obtain ⟨f, hf, h10, hp, htx, _⟩ := V.logsW _ _ _ h1
  have hm : f.s ∈ h.filter (isSent e.r) := List.mem_filter.2 ⟨(V.here f hf).mem, isSent_iff.2 ⟨(V.ev f hf).sd, h10, hp, htx⟩⟩
  have := List.length_pos_of_mem hm
  unfold sentI; omega
theorem Iv.no_unsent (V : Iv i h iss opn w) {e : Ev} (he : e ∈ iss) : unsentB h e.r = false := by
  unfold unsentB
  cases hg : goodB e.r 1 1 with
  | false => rfl
  | true =>
    have g := goodB_iff.1 hg
    have := V.was_sent he (told_of.2 ⟨g.1, g.2.1, by omega⟩)
    rw [decide_eq_false (by omega)]; rfl
theorem Iv.no_twice (V : Iv i h iss opn w) {e : Ev} (he : e ∈ iss) : twiceB h e.r = false := by
  unfold twiceB
  cases ht : toldB e.r with
  | false => rfl
  | true =>
    have hs := V.was_sent he ht
    have hl : (offsR (h ++ [e.r]) e.r).length ≤ 1 := by
      have same : ∀ f ∈ iss, toldB f.r = true → f.r.part = e.r.part → f.r.text = e.r.text → f.r.offset = e.r.offset := fun f hf hft hp htx => by
        obtain ⟨a0, a1⟩ := V.told e he ht
        obtain ⟨b0, b1⟩ := V.told f hf hft
        obtain ⟨u, hu, u10, up, ut, uo⟩ := V.logsW _ _ _ a1
        obtain ⟨v, hv, v10, vp, vt, vo⟩ := V.logsW _ _ _ b1
        have := V.same_text hu hv u10 v10 (by rw [ut, vt, htx])
        subst this
        omega
      have : offsR (h ++ [e.r]) e.r = [] ∨ offsR (h ++ [e.r]) e.r = [e.r.offset] := by
        refine offs_one _ [] (.inl rfl) fun y hy hsk => ?_
        have hk := skipT_iff.1 hsk
        rcases List.mem_append.1 hy with hy | hy
        · obtain ⟨k, hy⟩ := At.of hy
          obtain ⟨f, hf, _, rfl⟩ := V.ret_of hy hk.1
          exact same f hf hk.1 hk.2.1 hk.2.2
        · rw [List.mem_singleton.1 hy]
      rcases this with e | e <;> rw [e] <;> simp
    rw [decide_eq_false (by omega)]; rfl
theorem Iv.no_order (V : Iv i h iss opn w) {e : Ev} (he : e ∈ iss) (hn : ∀ k y, At h k y → y.done = true → y.call ≠ e.s.call) : orderB h e.r = false := by
  unfold orderB
  cases hg : goodB e.r 10 10 with
  | false => rfl
  | true =>
    rw [Bool.true_and]
    cases ha : h.any (orderP e.r) with
    | false => rfl
    | true =>
      obtain ⟨k, y, hy, hv⟩ := any_at.1 ha
      unfold orderP at hv
      rw [Bool.and_eq_true, Bool.not_eq_true'] at hv
      have hsk := skipO_iff.1 hv.1
      obtain ⟨f, hf, _, rfl⟩ := V.ret_of hy hsk.1
      have k1 := V.kindr he; have k2 := V.kindr hf
      have g1 := goodB_iff.1 hg; have g2 := goodB_iff.1 hsk.1
      have s1 := ((V.ev e he).send (by omega)).2.1
      have s2 := ((V.ev f hf).send (by omega)).2.1
      have hb := hv.2
      unfold badO_ at hb
      simp only [Bool.or_eq_true, Bool.and_eq_true, decide_eq_true_eq] at hb
      have ho : f.r.offset = e.r.offset := by omega
      have := V.one_send he hf hg hsk.1 hsk.2.1 ho
      subst this
      exact absurd (V.callr hf) (hn k _ hy (V.ev f hf).rd)
theorem Iv.no_deleted (V : Iv i h iss opn w) {e : Ev} (he : e ∈ iss) : deletedB h e.r = false := by
  unfold deletedB
  cases hg : goodB e.r 1 1 with
  | false => rfl
  | true =>
    rw [Bool.true_and, V.callR he (V.ev e he).id]
    cases ha : (h.take ((e.c : Nat) : Int).toNat).any (delP e.r) with
    | false => rfl
    | true =>
      obtain ⟨k, y, hk, hy, hv⟩ := any_take.1 ha
      unfold delP at hv
      simp only [Bool.and_eq_true, decide_eq_true_eq] at hv
      obtain ⟨f, hf, hc, rfl⟩ := V.ret_of hy hv.1.1
      have k1 := V.kindr he; have k2 := V.kindr hf
      have g1 := goodB_iff.1 hg; have g2 := goodB_iff.1 hv.1.1
      have := (V.two f hf e he (by omega)).del (by omega) (by omega) g1.2.1 (by rw [← k1.2.2, ← k2.2.2]; exact hv.1.2)
      omega
theorem Iv.no_gen (V : Iv i h iss opn w) {e : Ev} (he : e ∈ iss) (hn : ∀ k y, At h k y → y.done = true → y.call ≠ e.s.call) : genB h e.r = false := by
  unfold genB
  cases hg : goodB e.r 2 3 with
  | false => rfl
  | true =>
    rw [Bool.true_and, V.callR he (V.ev e he).id]
    cases ha : anyAt (genP e.r e.c) h with
    | false => rfl
    | true =>
      obtain ⟨k, y, hy, hv⟩ := anyAt_iff.1 ha
      unfold genP at hv
      simp only [Bool.and_eq_true, Bool.or_eq_true, decide_eq_true_eq] at hv
      obtain ⟨f, hf, hc, rfl⟩ := V.ret_of hy hv.1.1
      have k1 := V.kindr he; have k2 := V.kindr hf
      have g1 := goodB_iff.1 hg; have g2 := goodB_iff.1 hv.1.1
      have e2 : e.s.kind = 2 := by have := (V.ev e he).kinds; omega
      have f2 : f.s.kind = 2 := by have := (V.ev f hf).kinds; omega
      rcases Nat.lt_trichotomy f.c e.c with hlt | heq | hgt
      · have := (V.two f hf e he hlt).gens f2 e2
        omega
      · have hs : f.s = e.s := by have h1 := V.here f hf; have h2 := V.here e he; rw [heq] at h1; exact h1.inj h2
        have := V.uniq f hf e he (by rw [hs])
        subst this
        exact absurd (V.callr hf) (hn k _ hy (V.ev f hf).rd)
      · have := (V.two e he f hf hgt).gens e2 f2
        omega
theorem Iv.no_fenced (V : Iv i h iss opn w) {e : Ev} (he : e ∈ iss) : fencedB h e.r = false := by
  unfold fencedB
  cases hg : goodB e.r 4 4 with
  | false => rfl
  | true =>
    rw [Bool.true_and, V.callR he (V.ev e he).id]
    cases ha : (h.take ((e.c : Nat) : Int).toNat).any (fenP e.r) with
    | false => rfl
    | true =>
      obtain ⟨k, y, hk, hy, hv⟩ := any_take.1 ha
      unfold fenP at hv
      simp only [Bool.and_eq_true, decide_eq_true_eq] at hv
      obtain ⟨f, hf, hc, rfl⟩ := V.ret_of hy hv.1.1
      have k1 := V.kindr he; have k2 := V.kindr hf
      have g1 := goodB_iff.1 hg; have g2 := goodB_iff.1 hv.1.1
      have f2 : f.s.kind = 2 := by have := (V.ev f hf).kinds; omega
      have := (V.two f hf e he (by omega)).fence f2 ⟨by omega, g1.2.1⟩
      omega
theorem Iv.no_commit (V : Iv i h iss opn w) {e : Ev} (he : e ∈ iss) : commitB h e.r = false := by
  unfold commitB
  cases hg : goodB e.r 5 5 with
  | false => rfl
  | true =>
    have k1 := V.kindr he
    have g1 := goodB_iff.1 hg
    have e5 : e.s.kind = 5 := by omega
    have egrp := (V.ev e he).grp (.inr e5)
    obtain ⟨p, H⟩ := V.hst
    rw [Bool.true_and, V.callR he (V.ev e he).id]
    rcases V.fetch e he e5 with ⟨ho, hno⟩ | ⟨ho, z, hz, hzc, hlt, hzo, hmax⟩
    · rw [if_pos ho]
      cases ha : (h.take ((e.c : Nat) : Int).toNat).any (comP e.r) with
      | false => rfl
      | true =>
        obtain ⟨k, y, hk, hy, hv⟩ := any_take.1 ha
        unfold comP at hv
        simp only [Bool.and_eq_true, decide_eq_true_eq] at hv
        obtain ⟨f, hf, hc, rfl⟩ := V.ret_of hy hv.1.1
        have k2 := V.kindr hf
        have g2 := goodB_iff.1 hv.1.1
        have := hno f hf ⟨by omega, g2.2.1⟩
        omega
    · rw [if_neg (by omega)]
      have zgrp := (V.ev z hz).grp (.inl hzc.1)
      have hst : stillC h e.r z.c z.s = true := by
        unfold stillC skipC
        rw [(V.ev z hz).sd, decide_eq_true hzc.1, decide_eq_true (show z.s.name = e.r.name by rw [k1.2.1, zgrp.1, egrp.1]), decide_eq_true (show z.s.part = e.r.part by rw [k1.2.2, zgrp.2, egrp.2]), decide_eq_true hzo, V.callR he (V.ev e he).id]
        have : overB h e.r.name e.r.part (okRet h (retR h z.c z.s)) (e.c : Nat) = false := by
          unfold overB
          cases ha : anyAt (overP h e.r.name e.r.part (okRet h (retR h z.c z.s))) (h.take ((e.c : Nat) : Int).toNat) with
          | false => rfl
          | true =>
            exfalso
            obtain ⟨k, y, hy, hv⟩ := anyAt_iff.1 ha
            obtain ⟨hk, hy⟩ := At.take.1 hy
            unfold overP at hv
            simp only [Bool.and_eq_true, decide_eq_true_eq] at hv
            obtain ⟨f, hf, hc, rfl⟩ := V.ret_of hy hv.1.1.1.1
            have k2 := V.kindr hf
            have g2 := goodB_iff.1 hv.1.1.1.1
            have hcr := hv.2
            rw [H.callR_take (V.here f hf) (V.ev f hf).sd (V.ev f hf).id.symm hc] at hcr
            have hm := hmax f hf ⟨by omega, g2.2.1⟩ (by omega)
            have h0 := hv.1.2
            rcases retR_cases h z.c z.s with ⟨er, _⟩ | ⟨j, u, er, hj, _, _⟩
            · rw [er] at h0; unfold okRet errAt at h0; simp at h0
            · have : okRet h (retR h z.c z.s) = j ∨ okRet h (retR h z.c z.s) = -1 := by
                rw [er]; unfold okRet; split
                · exact .inr rfl
                · exact .inl rfl
              omega
        rw [this]; rfl
      rw [anyAt_hit (V.here z hz) hst]; rfl
/-- What is told is right. -/
theorem Iv.right (V : Iv i h iss opn w) {e : Ev} (he : e ∈ iss) (hn : ∀ k y, At h k y → y.done = true → y.call ≠ e.s.call) {y : Sn} (hy : y = e.r ∨ y = late e.r) : atB h y = [] ∧ callB h y = false ∧ valueB h y = false := by
  have E := V.ev e he
  rcases hy with rfl | rfl
  · have hc := V.no_call he hn E.rd E.id E.ask
    refine ⟨?_, hc, V.no_value he⟩
    unfold atB
    rw [hc, V.no_value he, V.no_offset he hn, V.no_unsent he, V.no_twice he, V.no_order he hn, V.no_deleted he, V.no_gen he hn, V.no_fenced he, V.no_commit he]; rfl
  · have hc : callB h (late e.r) = false := V.no_call he hn E.rd E.id E.ask
    refine ⟨at_quiet hc (.inr (by show (21 : Int) ≠ 0; decide)), hc, ?_⟩
    unfold valueB
    have : toldB (late e.r) = false := by
      cases ht : toldB (late e.r) with
      | false => rfl
      | true => have := (told_of.1 ht).2.1; exact absurd this (by show ¬ ((21 : Int) = 0); decide)
    rw [this]; rfl
end
end Go.Proofs.Ytahpokcigdjilaa
