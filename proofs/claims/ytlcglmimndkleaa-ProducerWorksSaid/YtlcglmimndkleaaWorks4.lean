/- Part 4 of a claim's texts: rules for the machine's steps, and steps through functions of the program, under the conditions that each theorem states. -/
import Derived.Test.YtlcglmimndkleaaProg
import Derived.KernelRfl
import Derived.Test.YtlcglmimndkleaaWorks1
import Derived.Test.YtlcglmimndkleaaWorks3
set_option linter.unusedVariables false
/- Chapter 18: steps of a script, in plain Lean and in memory. -/
namespace Go.Proofs.Ytlcglmimndkleaa
open Go Go.Sp

abbrev Sl := Option Addr × Nat × Nat
def Sl.v (y : Sl) : Value := .slice y.1 y.2.1 y.2.2
structure MX where
  m0 : Int
  m1 : Int
  m2 : Int
  m3 : Int
  m4 : Int
  m5 : Int
  m6 : Int
  m7 : Int
  m8 : Int
  m9 : Int
  m10 : Int
  m11 : Int
  m12 : Int
  m13 : Int
  m14 : Int
  err : Int
  nm : List UInt8
  tx : List UInt8
  b : Sl
  e : Sl
  i : Sl
def MX.cells (m : MX) : List Value := [.int .i64 m.m0, .int .i64 m.m1, .int .i64 m.m2, .int .i64 m.m3, .int .i64 m.m4, .int .i64 m.m5, .int .i64 m.m6, .int .i64 m.m7, .int .i64 m.m8, .int .i64 m.m9, .int .i64 m.m10, .int .i64 m.m11, .int .i64 m.m12, .int .i64 m.m13, .int .i64 m.m14, .int .i64 m.err, .string (str m.nm), .string (str m.tx), .slice m.b.1 m.b.2.1 m.b.2.2, .slice m.e.1 m.e.2.1 m.e.2.2, .slice m.i.1 m.i.2.1 m.i.2.2]
structure OpX where
  kind : Int
  forth : Int
  part : Int
  l : Sl
  m : MX
  fits : Bool
def OpX.cells (x : OpX) : List Value := [.int .i64 x.kind, .int .i64 x.forth, .int .i64 x.part, .slice x.l.1 x.l.2.1 x.l.2.2] ++ x.m.cells ++ [.bool x.fits]
theorem OpX.cells_len (x : OpX) : x.cells.length = 26 := rfl
theorem OpX.cells_ones (x : OpX) : ones x.cells := .of rfl
structure OpX.good (x : OpX) : Prop where
  kind : i64 x.kind
  forth : i64 x.forth
  off : i64 x.m.m6
/-- The last message: none yet, or one that was said. -/
def lastC : Option OutX → List Value
  | none => (Ans.mk 0 0 0 0 0 0 0).cells
  | some z => z.cells
def lastK : Option OutX → Int
  | none => 0
  | some z => z.kind
def lastTo : Option OutX → Int
  | none => 0
  | some z => z.o.to
def lastId : Option OutX → Int
  | none => 0
  | some z => z.o.id
theorem lastK_at (u : Option OutX) : (lastC u)[0]? = some (.int .i64 (lastK u)) := by cases u <;> rfl
theorem lastTo_at (u : Option OutX) : (lastC u)[2]? = some (.int .i64 (lastTo u)) := by cases u <;> rfl
theorem lastId_at (u : Option OutX) : (lastC u)[3]? = some (.int .i64 (lastId u)) := by cases u <;> rfl
theorem lastK_in (u : Option OutX) : 0 ≤ lastK u ∧ lastK u ≤ 17 := by
  cases u with
  | none => exact ⟨by show (0 : Int) ≤ 0; omega, by show (0 : Int) ≤ 17; omega⟩
  | some z => show 0 ≤ z.kind ∧ z.kind ≤ 17; unfold OutX.kind; split <;> omega
theorem nlx {s t : PS} {o : Option Out} {zs : List OutX} (h : NL s t o) (hz : zs.map (·.o) = o.toList) : zs.length ≤ 1 ∧ (zs = [] → t.number = s.number) ∧ ∀ z ∈ zs, z.o.id = nextN s.number ∧ t.number = nextN s.number := by
  cases o with
  | none =>
    have e : zs = [] := by simpa using hz
    subst e
    exact ⟨by simp, fun _ => h, fun z hz => by cases hz⟩
  | some o =>
    match zs, hz with
    | [z], hz =>
      have e : z.o = o := by simpa using hz
      refine ⟨Nat.le_refl _, fun h => (by cases h), fun y hy => ?_⟩
      rw [List.mem_singleton.1 hy, e]; exact h
theorem endsS_calls (s : PS) (of : Option Nat) (err : Int) : (endsS s of err).calls.length = s.calls.length := endsGo_calls of err s _
theorem tick_calls (s : PS) (now : Int) : (tick s now).1.calls.length = s.calls.length := by
  cases hu : s.under with
  | none => rw [tick_none hu]; exact pump_calls s now
  | some r =>
    rw [(tick_some (now := now) (t := (due s now r).1) (r' := (due s now r).2.1) (o := (due s now r).2.2) hu rfl).1, pump_calls]
    show (due s now r).1.calls.length = _
    unfold due
    split
    · rfl
    · split
      · exact endsS_calls s r.of 21
      · obtain ⟨a, e⟩ := moved_eq s r; rw [e]; rfl
theorem step_calls (s : PS) (now : Int) (m : Ans) : (step s now m).1.calls.length = s.calls.length := by
  unfold step
  split
  · rfl
  · rename_i r hu
    split
    · rfl
    · split
      · unfold led; split <;> rfl
      · split
        · rfl
        · rw [pump_calls]
          unfold ended
          split
          · exact endsS_calls _ _ _
          · split
            · show (List.set _ _ _).length = _; rw [List.length_set]
            · rfl
theorem send_calls (s : PS) (now : Int) (t : List UInt8) : (send s now t).1.calls.length ≤ s.calls.length + 1 := by
  unfold send
  split
  · show s.calls.length ≤ _; omega
  · show (pump (sendS s t) now).1.calls.length ≤ _; rw [pump_calls]; show (s.calls ++ [_]).length ≤ _; simp
end Go.Proofs.Ytlcglmimndkleaa

/- Chapter 18: that everything is written, in plain Lean. -/
namespace Go.Proofs.Ytlcglmimndkleaa
open Go Go.Sp

/-- What a request waits for. -/
def Waits (r : Req) (a f : Nat) : Option Out → Prop
  | none => 1000 ≤ r.tries + f
  | some o => o.id = r.n ∧ o.to = r.to ∧ 999 ≤ r.tries + f ∧ (r.of = none → o.text = none) ∧ (∀ i, r.of = some i → o.text = some (dig a) ∧ o.seq = a ∧ o.pid = 7)
structure Live (n : Nat) (p : PS) (pend : Option Out) (now : Int) (f a : Nat) (r : Req) : Prop where
  under : p.under = some r
  phase : (r.of = none ∧ p.pid = 0 ∧ p.fresh = false ∧ a = 0 ∧ f ≤ 100) ∨ (r.of = some a ∧ p.pid = 7 ∧ p.fresh = true ∧ f ≤ 101 + a ∧ ∃ c, p.calls[a]? = some c ∧ c.seq = a ∧ c.pid = 7)
  dead : r.deadline ≤ now + 10
  waits : Waits r a f pend
structure WI (n : Nat) (p : PS) (pend : Option Out) (now : Int) (f a : Nat) : Prop where
  pi : PI p 0 a
  len : p.calls.length = n
  n19 : n ≤ 19
  txt : ∀ (i : Nat) (c : Call), p.calls[i]? = some c → c.text = dig i
  wait : p.wait = 10
  tries : p.tries = 1000
  ends : ∀ (j : Nat) (e : Seen), p.ended[j]? = some e → e.offset = 100 + (j : Int) ∧ e.seq = j ∧ e.text = dig j ∧ e.err = 0
  nextv : nextOf p = a
  live : a < n → ∃ r, Live n p pend now f a r
/-- The rounds that are left. -/
def left (n : Nat) (p : PS) (pend : Option Out) (now : Int) (f a : Nat) : Nat :=
  12 * (100 - f) + 2 * (n - a + (if p.fresh then 0 else 1)) + (if pend.isSome then 0 else match p.under with
    | none => 0
    | some r => max 1 (r.deadline - now).toNat)
theorem callAt_of {p : PS} {i : Nat} {c : Call} (h : p.calls[i]? = some c) : callAt p i = c := by unfold callAt; rw [List.getD_eq_getElem?_getD, h]; rfl
/-- A call is asked for. -/
theorem go_on {n k : Nat} {p : PS} {now : Int} {f : Nat} (hPI : PI p 0 k) (hl : p.calls.length = n) (h19 : n ≤ 19) (ht : ∀ (i : Nat) (c : Call), p.calls[i]? = some c → c.text = dig i) (hw : p.wait = 10) (htr : p.tries = 1000)
    (he : ∀ (j : Nat) (e : Seen), p.ended[j]? = some e → e.offset = 100 + (j : Int) ∧ e.seq = j ∧ e.text = dig j ∧ e.err = 0) (hn : nextOf p = k) (hu : p.under = none) (hfr : p.fresh = true) (hp : p.pid = 7) (hf : f ≤ 101 + k) :
    WI n (pump p now).1 (pump p now).2 now f k ∧ (pump p now).1.fresh = true ∧ (k < n → (pump p now).2.isSome = true) ∧ (¬ k < n → (pump p now).1 = p ∧ (pump p now).2 = none) := by
  by_cases hk : k < n
  · have hkl : k < p.calls.length := by omega
    have hc := hPI.callAt_ hkl
    have hfo : firstOpen p = some k := firstOpen_some hkl (fun j hj => by rw [(hPI.callAt_ (i := j) (by omega)).2.1]; exact decide_eq_true hj) (by rw [hc.2.1]; exact decide_eq_false (by omega))
    have h1 := pump1_go (now := now) hu hfo hfr (by rw [hn]; omega)
    have h2 : pump p now = (beginS (stampS p k) now (some k), some (askO (stampS p k) now (beginR p (some k)) (some (stamped p k)))) := by unfold pump; rw [h1]
    have hP2 : PI (beginS (stampS p k) now (some k)) 0 k := by have := hPI.pump now; rw [h2] at this; exact this
    rw [h2]
    have hat : (stampS p k).calls[k]? = some (stamped p k) := by show (p.calls.set k _)[k]? = _; rw [List.getElem?_set, if_pos rfl, if_pos hkl]
    refine ⟨⟨hP2, by show (p.calls.set k _).length = n; rw [List.length_set]; exact hl, h19, fun i c hi => ?_, hw, htr, he, hn, fun _ => ⟨_, rfl, .inr ⟨rfl, hp, hfr, hf, _, hat, hn, hp⟩, ?_, ?_⟩⟩, hfr, fun _ => rfl, fun h => absurd hk h⟩
    · rcases set_at hi with ⟨e, e2, _⟩ | ⟨_, e⟩
      · subst e; subst e2; exact (ht _ _ hc.1 : (callAt p k).text = _)
      · exact ht i c e
    · show now + p.wait ≤ now + 10; rw [hw]; omega
    · refine ⟨rfl, rfl, ?_, fun h => (by cases h), fun i hi => ⟨congrArg some (ht _ _ hc.1 : (callAt p k).text = _), hn, hp⟩⟩
      show 999 ≤ (p.tries - 1) + (f : Int); rw [htr]; omega
  · have hfo : firstOpen p = none := firstOpen_none fun j hj => by rw [(hPI.callAt_ hj).2.1]; exact decide_eq_true (by omega)
    have h2 : pump p now = (p, none) := by unfold pump; rw [pump1_all hfo]; show pump2 p now = _; unfold pump2; rw [if_neg]; rintro ⟨h, _⟩; rw [hfr] at h; cases h
    rw [h2]
    exact ⟨⟨hPI, hl, h19, ht, hw, htr, he, hn, fun h => absurd h hk⟩, hfr, fun h => absurd h hk, fun _ => ⟨rfl, rfl⟩⟩
/-- Time goes by. -/
theorem WI.tick {n f a : Nat} {p : PS} {now : Int} (h : WI n p none now f a) (ha : a < n) : WI n (Go.Proofs.Ytlcglmimndkleaa.tick p (now + 1)).1 (Go.Proofs.Ytlcglmimndkleaa.tick p (now + 1)).2 (now + 1) f a ∧ left n (Go.Proofs.Ytlcglmimndkleaa.tick p (now + 1)).1 (Go.Proofs.Ytlcglmimndkleaa.tick p (now + 1)).2 (now + 1) f a < left n p none now f a := by
  obtain ⟨r, hr⟩ := h.live ha
  have hw : 1000 ≤ r.tries + (f : Int) := hr.waits
  have hf : f ≤ 130 := by have := h.n19; rcases hr.phase with x | x; omega; omega
  by_cases hd : now + 1 < r.deadline
  · have e : Go.Proofs.Ytlcglmimndkleaa.tick p (now + 1) = (p, none) := by
      unfold Go.Proofs.Ytlcglmimndkleaa.tick; rw [hr.under]; simp only [due_no hd]
      rw [← hr.under]; exact pump_busy hr.under
    rw [e]
    refine ⟨{ h with live := fun _ => ⟨r, { hr with dead := by have := hr.dead; omega }⟩ }, ?_⟩
    unfold left; rw [hr.under]; simp only [Option.isSome_none]
    have := hr.dead
    show _ + _ + max 1 (r.deadline - (now + 1)).toNat < _ + _ + max 1 (r.deadline - now).toNat
    omega
  · have htr : ¬ r.tries = 0 := by omega
    obtain ⟨m, hm⟩ := moved_eq p r
    have e : Go.Proofs.Ytlcglmimndkleaa.tick p (now + 1) = ({ askS (moved p r) with under := some (askR (moved p r) (now + 1) r) }, some (askO (moved p r) (now + 1) r (callOf p r))) := by
      unfold Go.Proofs.Ytlcglmimndkleaa.tick; rw [hr.under]; simp only [due_ask hd htr]
    have hP : PI (Go.Proofs.Ytlcglmimndkleaa.tick p (now + 1)).1 0 a := by
      obtain ⟨k', hk'⟩ := h.pi.tick (now + 1)
      have e1 := hk'.bk; have e2 := h.pi.bk
      have : (Go.Proofs.Ytlcglmimndkleaa.tick p (now + 1)).1.ended = p.ended := by rw [e, hm]; rfl
      rw [this] at e1
      have : k' = a := by omega
      rw [← this]; exact hk'
    rw [e] at hP ⊢
    rw [hm] at hP ⊢
    refine ⟨⟨hP, h.len, h.n19, h.txt, h.wait, h.tries, h.ends, h.nextv, fun _ => ⟨_, rfl, ?_, ?_, ?_⟩⟩, ?_⟩
    · exact hr.phase
    · show now + 1 + p.wait ≤ now + 1 + 10; rw [h.wait]; omega
    · cases ho : r.of with
      | none =>
        have : callOf p r = none := by unfold callOf; rw [ho]; rfl
        rw [this]
        refine ⟨rfl, rfl, ?_, fun _ => rfl, fun i hi => ?_⟩
        · show 999 ≤ r.tries - 1 + (f : Int); omega
        · rw [show (askR { p with aims := m } (now + 1) r).of = r.of from rfl, ho] at hi; cases hi
      | some i =>
        rcases hr.phase with x | x
        · rw [ho] at x; cases x.1
        · have hi : i = a := by have := x.1; rw [ho] at this; cases this; rfl
          subst hi
          obtain ⟨c, hc, hs, hp⟩ := x.2.2.2.2
          have : callOf p r = some c := by unfold callOf; rw [ho]; exact congrArg some (callAt_of hc)
          rw [this]
          refine ⟨rfl, rfl, ?_, fun hi => ?_, fun _ _ => ⟨congrArg some (h.txt _ _ hc), hs, hp⟩⟩
          · show 999 ≤ r.tries - 1 + (f : Int); omega
          · rw [show (askR { p with aims := m } (now + 1) r).of = r.of from rfl, ho] at hi; cases hi
    · unfold left; rw [hr.under]
      show _ + _ + 0 < _ + _ + max 1 (r.deadline - now).toNat
      have : 1 ≤ max 1 (r.deadline - now).toNat := Nat.le_max_left _ _
      show 12 * (100 - f) + 2 * (n - a + (if p.fresh then 0 else 1)) + 0 < 12 * (100 - f) + 2 * (n - a + (if p.fresh then 0 else 1)) + _
      omega
/-- The answer to a message. -/
def ansTo (o : Out) (err off last : Int) : Ans := ⟨if o.text.isNone then 16 else 18, o.to, 101, o.id, err, off, last⟩
theorem Live.fits {n f a : Nat} {p : PS} {o : Out} {now : Int} {r : Req} (h : Live n p (some o) now f a r) (err off last : Int) : fitsA r (ansTo o err off last) = true := by
  obtain ⟨h1, h2, _, h4, h5⟩ := h.waits
  unfold fitsA ansTo
  have : o.text.isNone = r.of.isNone := by
    cases ho : r.of with
    | none => rw [h4 ho]; rfl
    | some i => rw [(h5 i ho).1]; rfl
  rw [h1, h2, this]; simp
theorem WI.led {n f a : Nat} {p : PS} {o : Out} {now : Int} (h : WI n p (some o) now f a) (ha : a < n) (hf : f < 100) (off last : Int) :
    WI n (step p now (ansTo o 15 off last)).1 none now (f + 1) a ∧ (step p now (ansTo o 15 off last)).2 = none ∧ left n (step p now (ansTo o 15 off last)).1 none now (f + 1) a < left n p (some o) now f a := by
  obtain ⟨r, hr⟩ := h.live ha
  rw [step_led hr.under (hr.fits 15 off last) rfl]
  have hP := h.pi.led hr.under now last
  have hw := hr.waits.2.2.1
  have hph : (r.of = none ∧ p.pid = 0 ∧ p.fresh = false ∧ a = 0 ∧ f + 1 ≤ 100) ∨ (r.of = some a ∧ p.pid = 7 ∧ p.fresh = true ∧ f + 1 ≤ 101 + a ∧ ∃ c, p.calls[a]? = some c ∧ c.seq = a ∧ c.pid = 7) := by
    rcases hr.phase with x | x
    · exact .inl ⟨x.1, x.2.1, x.2.2.1, x.2.2.2.1, by omega⟩
    · exact .inr ⟨x.1, x.2.1, x.2.2.1, by omega, x.2.2.2.2⟩
  show WI n (Go.Proofs.Ytlcglmimndkleaa.led p now r last) none now (f + 1) a ∧ none = none ∧ left n (Go.Proofs.Ytlcglmimndkleaa.led p now r last) none now (f + 1) a < _
  unfold Go.Proofs.Ytlcglmimndkleaa.led at hP ⊢
  split
  · rw [if_pos (by assumption)] at hP
    refine ⟨⟨hP, h.len, h.n19, h.txt, h.wait, h.tries, h.ends, h.nextv, fun _ => ⟨_, rfl, hph, by show now + 1 ≤ _; omega, by show 1000 ≤ r.tries + ((f + 1 : Nat) : Int); omega⟩⟩, rfl, ?_⟩
    unfold left
    show 12 * (100 - (f + 1)) + 2 * (n - a + (if p.fresh then 0 else 1)) + max 1 (now + 1 - now).toNat < 12 * (100 - f) + 2 * (n - a + (if p.fresh then 0 else 1)) + 0
    omega
  · rw [if_neg (by assumption)] at hP
    refine ⟨⟨hP, h.len, h.n19, h.txt, h.wait, h.tries, h.ends, h.nextv, fun _ => ⟨_, rfl, hph, by show now + p.wait ≤ _; rw [h.wait]; omega, by show 1000 ≤ r.tries + ((f + 1 : Nat) : Int); omega⟩⟩, rfl, ?_⟩
    unfold left
    have hw10 := h.wait
    show 12 * (100 - (f + 1)) + 2 * (n - a + (if p.fresh then 0 else 1)) + max 1 (now + p.wait - now).toNat < 12 * (100 - f) + 2 * (n - a + (if p.fresh then 0 else 1)) + 0
    rw [hw10]; omega
theorem WI.wait_ {n f a : Nat} {p : PS} {o : Out} {now : Int} (h : WI n p (some o) now f a) (ha : a < n) (hf : f < 100) (off last : Int) :
    WI n (step p now (ansTo o 16 off last)).1 none now (f + 1) a ∧ (step p now (ansTo o 16 off last)).2 = none ∧ left n (step p now (ansTo o 16 off last)).1 none now (f + 1) a < left n p (some o) now f a := by
  obtain ⟨r, hr⟩ := h.live ha
  rw [step_wait hr.under (hr.fits 16 off last) (by show ¬ (16 : Int) = 15; omega) rfl]
  have hw := hr.waits.2.2.1
  have hd := hr.dead
  refine ⟨{ h with live := fun _ => ⟨r, { hr with phase := ?_, waits := by show 1000 ≤ r.tries + ((f + 1 : Nat) : Int); omega }⟩ }, rfl, ?_⟩
  · rcases hr.phase with x | x
    · exact .inl ⟨x.1, x.2.1, x.2.2.1, x.2.2.2.1, by omega⟩
    · exact .inr ⟨x.1, x.2.1, x.2.2.1, by omega, x.2.2.2.2⟩
  · unfold left
    rw [hr.under]
    show 12 * (100 - (f + 1)) + 2 * (n - a + (if p.fresh then 0 else 1)) + max 1 (r.deadline - now).toNat < 12 * (100 - f) + 2 * (n - a + (if p.fresh then 0 else 1)) + 0
    omega
/-- The right answer. -/
theorem WI.done {n f a : Nat} {p : PS} {o : Out} {now : Int} (h : WI n p (some o) now f a) (ha : a < n) (last : Int) :
    ∃ a', a' = (if o.text.isNone then a else a + 1) ∧ WI n (step p now (ansTo o 0 (if o.text.isNone then 7 else 100 + a) last)).1 (step p now (ansTo o 0 (if o.text.isNone then 7 else 100 + a) last)).2 now (f + 1) a' ∧
      (a' < n → (step p now (ansTo o 0 (if o.text.isNone then 7 else 100 + a) last)).2.isSome = true) ∧ (¬ a' < n → (step p now (ansTo o 0 (if o.text.isNone then 7 else 100 + a) last)).2 = none) ∧
      left n (step p now (ansTo o 0 (if o.text.isNone then 7 else 100 + a) last)).1 (step p now (ansTo o 0 (if o.text.isNone then 7 else 100 + a) last)).2 now (f + 1) a' < left n p (some o) now f a := by
  obtain ⟨r, hr⟩ := h.live ha
  obtain ⟨h1, h2, h3, h4, h5⟩ := hr.waits
  rcases hr.phase with ⟨ho, hpid, hfr, ha0, hf⟩ | ⟨ho, hpid, hfr, hf, c, hc, hs, hcp⟩
  · have htx := h4 ho
    have en : o.text.isNone = true := by rw [htx]; rfl
    rw [en, if_pos rfl, if_pos rfl]
    rw [step_end hr.under (hr.fits 0 7 last) (by show ¬ (0 : Int) = 15; omega) rfl]
    have e1 : ended { p with under := none } r (ansTo o 0 7 last) = { p with under := none, pid := 7, epoch := 0, next := [], fresh := true } := by
      rw [ended_id rfl ho]; show ({ p with under := none, pid := if p.pid = 0 then 7 else p.pid, epoch := if p.pid = 0 then 0 else 7, next := [], fresh := true } : PS) = _; rw [if_pos hpid, if_pos hpid]
    have hP := h.pi.ended hr.under (ansTo o 0 7 last)
    rw [e1] at hP ⊢
    have hP2 : PI { p with under := none, pid := 7, epoch := 0, next := [], fresh := true } 0 a := by
      obtain ⟨k', hk'⟩ := hP
      have b1 := hk'.bk; have b2 := h.pi.bk
      have : k' = a := by rw [b1, b2]
      rw [← this]; exact hk'
    obtain ⟨w1, w2, w3, w4⟩ := go_on (now := now) (f := f + 1) hP2 h.len h.n19 h.txt h.wait h.tries h.ends (by subst ha0; rfl) rfl rfl rfl (by omega)
    refine ⟨a, by simp, w1, w3, fun hn => absurd ha hn, ?_⟩
    unfold left
    rw [w2, w3 ha, hfr]
    show 12 * (100 - (f + 1)) + 2 * (n - a + 0) + 0 < 12 * (100 - f) + 2 * (n - a + 1) + 0
    omega
  · obtain ⟨htx, hoseq, hopid⟩ := h5 a ho
    have en : o.text.isNone = false := by rw [htx]; rfl
    rw [en]; simp only [if_neg (show ¬ (false = true) by decide)]
    rw [step_end hr.under (hr.fits 0 (100 + a) last) (by show ¬ (0 : Int) = 15; omega) rfl]
    have hca := callAt_of hc
    have e1 : ended { p with under := none } r (ansTo o 0 (100 + a) last) = endS { p with under := none, next := mset p.next 2 (c.seq + 1) } a 0 (100 + a) := by
      rw [ended_call rfl ho, show callAt ({ p with under := none } : PS) a = callAt p a from rfl, hca]; rfl
    have hP := h.pi.ended hr.under (ansTo o 0 (100 + a) last)
    rw [e1] at hP ⊢
    have hP2 : PI (endS { p with under := none, next := mset p.next 2 (c.seq + 1) } a 0 (100 + a)) 0 (a + 1) := by
      obtain ⟨k', hk'⟩ := hP
      have b1 := hk'.bk; have b2 := h.pi.bk
      have : k' = a + 1 := by rw [b1]; show 0 + (p.ended ++ [_]).length = _; rw [List.length_append, b2]; simp
      rw [← this]; exact hk'
    have hcl : ∀ (i : Nat) (c' : Call), (endS { p with under := none, next := mset p.next 2 (c.seq + 1) } a 0 (100 + a)).calls[i]? = some c' → c'.text = dig i := fun i c' hi => by
      rcases set_at hi with ⟨e, e2, _⟩ | ⟨_, e⟩
      · subst e; subst e2; show (callAt p a).text = _; rw [hca]; exact h.txt _ _ hc
      · exact h.txt i c' e
    have hen : ∀ (j : Nat) (e : Seen), (endS { p with under := none, next := mset p.next 2 (c.seq + 1) } a 0 (100 + a)).ended[j]? = some e → e.offset = 100 + (j : Int) ∧ e.seq = j ∧ e.text = dig j ∧ e.err = 0 := fun j e he => by
      have he : (p.ended ++ [_])[j]? = some e := he
      rw [List.getElem?_append] at he
      split at he
      · exact h.ends j e he
      · rename_i hj
        have hj2 := (List.getElem?_eq_some_iff.1 he).1
        have b2 := h.pi.bk
        have hja : j = a := by simp at hj2; omega
        have hj3 : j - p.ended.length = 0 := by omega
        rw [hj3] at he
        cases he
        subst hja
        exact ⟨rfl, by show (callAt p j).seq = _; rw [hca]; exact hs, by show (callAt p j).text = _; rw [hca]; exact h.txt _ _ hc, rfl⟩
    have hnx : nextOf (endS { p with under := none, next := mset p.next 2 (c.seq + 1) } a 0 (100 + a)) = ((a + 1 : Nat) : Int) := by
      show (mget (mset p.next 2 (c.seq + 1)) 2).getD 0 = _
      rw [mget_mset, if_pos rfl, hs]; rfl
    obtain ⟨w1, w2, w3, w4⟩ := go_on (now := now) (f := f + 1) hP2 (by show (List.set _ _ _).length = n; rw [List.length_set]; exact h.len) h.n19 hcl h.wait h.tries hen hnx rfl hfr hpid (by omega)
    refine ⟨a + 1, rfl, w1, w3, fun hn => (w4 hn).2, ?_⟩
    unfold left
    rw [w2]
    by_cases hk : a + 1 < n
    · rw [w3 hk, hfr]
      show 12 * (100 - (f + 1)) + 2 * (n - (a + 1) + 0) + 0 < 12 * (100 - f) + 2 * (n - a + 0) + 0
      omega
    · rw [(w4 hk).1, (w4 hk).2, hfr]
      show 12 * (100 - (f + 1)) + 2 * (n - (a + 1) + 0) + 0 < 12 * (100 - f) + 2 * (n - a + 0) + 0
      omega
/-- Calls are sent. -/
structure SI (i : Nat) (p : PS) (pend : Option Out) : Prop where
  wi : WI i p pend 0 0 0
  fr : p.fresh = false
  pid : p.pid = 0
  st : i = 0 → p.under = none ∧ pend = none
theorem SI.start : SI 0 (newS 10 1000 [1, 2, 3]) none where
  wi := ⟨PI.new (by decide) (by decide) (by decide) (by decide), rfl, by omega, fun i c h => by simp [newS] at h, rfl, rfl, fun j e h => by simp [newS] at h, rfl, fun h => absurd h (by omega)⟩
  fr := rfl
  pid := rfl
  st := fun _ => ⟨rfl, rfl⟩
theorem SI.send {i : Nat} {p : PS} {pend : Option Out} (h : SI i p pend) (hi : i < 19) :
    ∃ pend', SI (i + 1) (send p 0 (dig i)).1 pend' ∧ pend.toList ++ (send p 0 (dig i)).2.1.toList = pend'.toList ∧ (send p 0 (dig i)).2.2.2 = 0 := by
  have ho : ¬ 20 ≤ p.open_ := by have := h.wi.pi.opn; have := h.wi.len; omega
  have hPI := h.wi.pi.sendS (by omega) (by have := h.wi.len; omega) (dig i)
  have htx : ∀ (j : Nat) (c : Call), (sendS p (dig i)).calls[j]? = some c → c.text = dig j := fun j c hj => by
    have hj : (p.calls ++ [_])[j]? = some c := hj
    rw [List.getElem?_append] at hj
    split at hj
    · exact h.wi.txt j c hj
    · have hj2 := (List.getElem?_eq_some_iff.1 hj).1
      have := h.wi.len
      have e : j = i := by simp at hj2; omega
      have e2 : j - p.calls.length = 0 := by omega
      rw [e2] at hj; cases hj; rw [e]; rfl
  have hln : (sendS p (dig i)).calls.length = i + 1 := by show (p.calls ++ [_]).length = _; rw [List.length_append, h.wi.len]; rfl
  rw [send_go ho]
  by_cases h0 : i = 0
  · subst h0
    obtain ⟨hu, hp⟩ := h.st rfl
    have e1 : pump1 (sendS p (dig 0)) 0 = (sendS p (dig 0), none) := by
      unfold pump1; rw [show (sendS p (dig 0)).under = none from hu]
      cases firstOpen (sendS p (dig 0)) with
      | none => rfl
      | some k => exact if_pos h.fr
    have hop : 0 < (sendS p (dig 0)).open_ := by have := hPI.opn; rw [hln] at this; omega
    have e2 : pump (sendS p (dig 0)) 0 = (beginS (sendS p (dig 0)) 0 none, some (askO (sendS p (dig 0)) 0 (beginR (sendS p (dig 0)) none) none)) := by
      unfold pump; rw [e1]; show pump2 _ _ = _; unfold pump2; rw [if_pos ⟨h.fr, by rw [show (sendS p (dig 0)).under = none from hu]; rfl, hop⟩]
    have hP := hPI.pump 0
    rw [e2] at hP ⊢
    refine ⟨some _, ⟨⟨hP, hln, by omega, htx, h.wi.wait, h.wi.tries, h.wi.ends, h.wi.nextv, fun _ => ⟨_, rfl, .inl ⟨rfl, h.pid, h.fr, rfl, by omega⟩, ?_, rfl, rfl, ?_, fun _ => rfl, fun i hi => by cases hi⟩⟩, h.fr, h.pid, fun h => by cases h⟩, by rw [hp]; rfl, rfl⟩
    · show 0 + p.wait ≤ 0 + 10; rw [h.wi.wait]; omega
    · show 999 ≤ p.tries - 1 + ((0 : Nat) : Int); rw [h.wi.tries]; omega
  · obtain ⟨r, hr⟩ := h.wi.live (by omega)
    have e2 : pump (sendS p (dig i)) 0 = (sendS p (dig i), none) := pump_busy (r := r) hr.under
    rw [e2]
    refine ⟨pend, ⟨⟨hPI, hln, by omega, htx, h.wi.wait, h.wi.tries, h.wi.ends, h.wi.nextv, fun _ => ⟨r, hr.under, ?_, hr.dead, hr.waits⟩⟩, h.fr, h.pid, fun h => by cases h⟩, by simp, rfl⟩
    rcases hr.phase with x | x
    · exact .inl x
    · have := x.2.2.1; rw [h.fr] at this; cases this
end Go.Proofs.Ytlcglmimndkleaa

namespace Go.Proofs.Ytlcglmimndkleaa
open Go Go.Sp

set_option linter.unusedVariables false

namespace prod12
theorem ti3 : TI Try.prog 3 1 8 (.int .i64 0) := .of (by kernel_rfl)
theorem bld41_1 (x0 : ByteArray) (w : World) : (Instr.build 41 (([1] : List Nat).zip [.string x0]).toArray).run Try.prog w = .ok (.agg #[.string ⟨#[]⟩, .string x0, .int .i64 0]) w := by kernel_rfl
theorem ti41 : TI Try.prog 41 3 40 (.agg #[.string ⟨#[]⟩, .string ⟨#[]⟩, .int .i64 0]) := .of (by kernel_rfl)
theorem ti32 : TI Try.prog 32 21 232 (.agg #[.int .i64 0, .int .i64 0, .int .i64 0, .int .i64 0, .int .i64 0, .int .i64 0, .int .i64 0, .int .i64 0, .int .i64 0, .int .i64 0, .int .i64 0, .int .i64 0, .int .i64 0, .int .i64 0, .int .i64 0, .int .i64 0, .string ⟨#[]⟩, .string ⟨#[]⟩, .slice none 0 0, .slice none 0 0, .slice none 0 0]) := .of (by kernel_rfl)
theorem ts32 : TS Try.prog 32 21 := .of (by kernel_rfl)
theorem fd32_0 : FD Try.prog 32 0 0 := .of Try.underlying32 (by kernel_rfl)
theorem na3 : NotAgg Try.prog 3 := ⟨_, Try.underlying3, trivial⟩
theorem fd32_2 : FD Try.prog 32 2 2 := .of Try.underlying32 (by kernel_rfl)
theorem fd32_3 : FD Try.prog 32 3 3 := .of Try.underlying32 (by kernel_rfl)
theorem bld32_0_1_2_3_6 (x0 : Int) (x1 : Int) (x2 : Int) (x3 : Int) (x4 : Int) (w : World) : (Instr.build 32 (([0, 1, 2, 3, 6] : List Nat).zip [.int .i64 x0, .int .i64 x1, .int .i64 x2, .int .i64 x3, .int .i64 x4]).toArray).run Try.prog w = .ok (.agg #[.int .i64 x0, .int .i64 x1, .int .i64 x2, .int .i64 x3, .int .i64 0, .int .i64 0, .int .i64 x4, .int .i64 0, .int .i64 0, .int .i64 0, .int .i64 0, .int .i64 0, .int .i64 0, .int .i64 0, .int .i64 0, .int .i64 0, .string ⟨#[]⟩, .string ⟨#[]⟩, .slice none 0 0, .slice none 0 0, .slice none 0 0]) w := by kernel_rfl
theorem ts3 : TS Try.prog 3 1 := .of (by kernel_rfl)
theorem ia32 : IsAgg Try.prog 32 := ⟨_, Try.underlying32, trivial⟩
theorem fd32_15 : FD Try.prog 32 15 15 := .of Try.underlying32 (by kernel_rfl)
theorem ts25 : TS Try.prog 25 1 := .of (by kernel_rfl)
theorem fd32_7 : FD Try.prog 32 7 7 := .of Try.underlying32 (by kernel_rfl)
theorem fd32_18 : FD Try.prog 32 18 18 := .of Try.underlying32 (by kernel_rfl)
theorem na29 : NotAgg Try.prog 29 := ⟨_, Try.underlying29, trivial⟩
theorem ts52 : TS Try.prog 52 6 := .of (by kernel_rfl)
theorem fd52_4 : FD Try.prog 52 4 4 := .of Try.underlying52 (by kernel_rfl)
theorem fd52_5 : FD Try.prog 52 5 5 := .of Try.underlying52 (by kernel_rfl)
theorem na33 : NotAgg Try.prog 33 := ⟨_, Try.underlying33, trivial⟩
theorem ts41 : TS Try.prog 41 3 := .of (by kernel_rfl)
theorem fd41_1 : FD Try.prog 41 1 1 := .of Try.underlying41 (by kernel_rfl)
theorem na9 : NotAgg Try.prog 9 := ⟨_, Try.underlying9, trivial⟩
theorem fd52_2 : FD Try.prog 52 2 2 := .of Try.underlying52 (by kernel_rfl)
theorem fd32_6 : FD Try.prog 32 6 6 := .of Try.underlying32 (by kernel_rfl)
theorem ts47 : TS Try.prog 47 12 := .of (by kernel_rfl)
theorem fd47_10 : FD Try.prog 47 10 10 := .of Try.underlying47 (by kernel_rfl)
theorem na25 : NotAgg Try.prog 25 := ⟨_, Try.underlying25, trivial⟩
theorem fd47_4 : FD Try.prog 47 4 4 := .of Try.underlying47 (by kernel_rfl)
theorem fd47_9 : FD Try.prog 47 9 9 := .of Try.underlying47 (by kernel_rfl)
theorem fd47_7 : FD Try.prog 47 7 7 := .of Try.underlying47 (by kernel_rfl)
end prod12
open prod12

theorem ne_no {p : Prop} [Decidable p] (h : p) : (!decide p) = false := by simp [h]
def fm (l : List Int) (f : Nat) : Int := (l.getD f 0).tmod 3
theorem works_open {n f a : Nat} {p : PS} {pend : Option Out} {now : Int} (h : WI n p pend now f a) : p.open_ = (n : Int) - a := by rw [h.pi.opn, h.len]
theorem kind_ans (z : OutX) : z.kind + 1 = if z.o.text.isNone then 16 else 18 := by unfold OutX.kind; split <;> rfl
theorem ans_eq (z : OutX) (err off last : Int) : (⟨z.kind + 1, z.o.to, 101, z.o.id, err, off, last⟩ : Ans) = ansTo z.o err off last := by unfold ansTo; rw [kind_ans]
def BatAt (z : OutX) (t : List UInt8) (w : World) : Prop := CellsAt z.b 0 [.int .i64 0, .int .i64 0, .int .i64 z.o.pid, .int .i64 z.o.epoch, .int .i64 z.o.seq, .slice z.ra 1 z.rc] w ∧ RowAt z.ra (recC t) w
theorem batAt {z : OutX} {t : List UInt8} (h : z.o.text = some t) {w : World} (H : SaidK [z] w) : BatAt z t w := by
  have := H z (.head _)
  unfold OutX.at_ at this; rw [h] at this
  exact ⟨RowAt.cells2 this.1, this.2⟩
theorem cells18 {z : OutX} {t : List UInt8} (h : z.o.text = some t) : z.cells[18]? = some (.slice (some ⟨z.b, 0, none⟩) 1 1) := by unfold OutX.cells; rw [h]; rfl
theorem left_start {n : Nat} {p : PS} {pend : Option Out} (h : SI n p pend) (hn : n ≤ 19) : 0 + left n p pend 0 0 0 ≤ 1300 := by
  have h1 : (match p.under with | none => 0 | some r => max 1 (r.deadline - 0).toNat) ≤ 10 := by
    cases hu : p.under with
    | none => exact Nat.zero_le _
    | some r =>
      by_cases h0 : n = 0
      · have := (h.st h0).1; rw [hu] at this; cases this
      · obtain ⟨q, hq⟩ := h.wi.live (by omega)
        have h2 := hq.under; rw [hu] at h2; cases h2
        have := hq.dead
        show max 1 (r.deadline - 0).toNat ≤ 10; omega
  have h2 : (if pend.isSome = true then 0 else match p.under with | none => 0 | some r => max 1 (r.deadline - 0).toNat) ≤ 10 := by
    split
    · omega
    · exact h1
  unfold left; rw [h.fr]
  show 0 + (12 * (100 - 0) + 2 * (n - 0 + 1) + _) ≤ 1300
  have : 12 * (100 - 0) + 2 * (n - 0 + 1) ≤ 1240 := by omega
  exact Nat.le_trans (by rw [Nat.zero_add]; exact Nat.add_le_add this h2) (by omega)
/-- What comes of an answer. -/
theorem answered {n f a a2 : Nat} {p : PS} {o : Out} {now err off last : Int} (h : WI n p (some o) now f a) (ha : a < n) (ho : off = if o.text.isNone then (7 : Int) else 100 + (a : Int))
    (hc : (err = 15 ∧ f < 100 ∧ a2 = a) ∨ (err = 16 ∧ f < 100 ∧ a2 = a) ∨ (err = 0 ∧ a2 = if o.text.isNone then a else a + 1)) :
    WI n (step p now (ansTo o err off last)).1 (step p now (ansTo o err off last)).2 now (f + 1) a2 ∧ left n (step p now (ansTo o err off last)).1 (step p now (ansTo o err off last)).2 now (f + 1) a2 < left n p (some o) now f a := by
  rcases hc with ⟨rfl, hf, rfl⟩ | ⟨rfl, hf, rfl⟩ | ⟨rfl, rfl⟩
  · obtain ⟨h1, h2, h3⟩ := h.led ha hf off last; rw [h2]; exact ⟨h1, h3⟩
  · obtain ⟨h1, h2, h3⟩ := h.wait_ ha hf off last; rw [h2]; exact ⟨h1, h3⟩
  · subst ho
    obtain ⟨a', e, h1, _, _, h3⟩ := h.done ha last; subst e; exact ⟨h1, h3⟩
theorem toL {zs : List OutX} {o : Option Out} (h : zs.map (·.o) = o.toList) : zs.length ≤ 1 ∧ (zs = [] → o = none) ∧ ∀ z, zs = [z] → o = some z.o := by
  cases o with
  | none => have : zs = [] := by simpa using h
            subst this; exact ⟨by simp, fun _ => rfl, fun z h => by cases h⟩
  | some o => match zs, h with
    | [z], h => exact ⟨Nat.le_refl _, fun h => (by cases h), fun y hy => by cases hy; simp at h; rw [h]⟩
theorem dig_len {i : Nat} (h : i < 100) : (dig i).length ≤ 100 := by
  have : ∀ i < 100, (dig i).length ≤ 100 := by decide
  exact this i h

set_option maxHeartbeats 4000000 in
set_option maxRecDepth 20000 in
theorem ProducerWorks_ok (t : Int) (sa : Option Addr) (sc : Nat) (l : List Int) (ht : i64 t) (hl : l.length ≤ 140737488351232) : Cn Try.prog 4 [.int .i64 t, .slice sa l.length sc] (RowAt sa (l.flatMap icell)) [] fun v G => v = .bool true ∧ G = [] := by
  refine .enter Try.func4 rfl (by kernel_rfl) rfl fun R k => ?_
  have k' := k
  obtain ⟨n, hn⟩ : ∃ n : Nat, pickN t 20 = n := ⟨(pickN t 20).toNat, by have := pickN_nn (c := t) (n := 20) (by decide); omega⟩
  have hn19 : n ≤ 19 := by have := pickN_lt (c := t) (n := 20) (by decide); omega
  refine .seq ?_
  refine .region ?_
  refine .rd (.assign rfl) ?_
  refine .nil ?_
  refine .seq ?_
  refine .region ?_
  refine .fn rfl rfl .nil (fun _ _ _ => trivial) (shown_ok) (fun v G1 hq => ?_)
  obtain ⟨rfl, rfl⟩ := hq
  simp only [List.nil_append]
  refine .rd (.assign rfl) ?_
  refine .nil ?_
  refine .seq ?_
  refine .region ?_
  refine .ef (.buildSlice (vs := [.int .i64 1, .int .i64 2, .int .i64 3]) (cs := [.int .i64 1, .int .i64 2, .int .i64 3]) Try.underlying28 ti3 rfl (by decide) (by first | rfl | kernel_rfl) (ones.of rfl)) ?_
  rintro _ _ ⟨bl, rfl, rfl⟩
  refine .fn rfl rfl .nil (((Knows.blk .head).mono fun _ h => rowBlk h)) (New_ok (some ⟨bl, 0, none⟩) _ [1, 2, 3] 10 1000 rise3 (by decide) (by decide)) (fun v G1 hq => ?_)
  obtain ⟨pb, x, ⟨hx1, hx2, hx3⟩, rfl, rfl⟩ := hq
  simp only [List.cons_append, List.nil_append]
  refine .rd (.move rfl) ?_
  refine .rd (.extract rfl rfl) ?_
  refine .rd (.extract rfl rfl) ?_
  refine .rd (.assign rfl) ?_
  refine .rd (.assign rfl) ?_
  refine .nil ?_
  refine .cast (X' := blk pb (PS.cells (newS 10 1000 [1, 2, 3]) x none 0 0) 60) (rfl) ?_
  refine .perm (.cons (.tail .head) (.cons .head (.cons .head (.cons .head (.cons .head (.cons .head .nil)))))) ?_
  refine .cast (X' := IM x.nb (PS.next (newS 10 1000 [1, 2, 3]))) (rfl) ?_
  refine .perm (.cons (.tail (.tail .head)) (.cons .head (.cons .head (.cons .head (.cons .head (.cons .head .nil)))))) ?_
  refine .cast (X' := IM x.ab (PS.aims (newS 10 1000 [1, 2, 3]))) (rfl) ?_
  refine .nilArr 62 1 x.ca ?_
  refine .cast (X' := RowC x []) (by unfold RowC; rw [hx1]; rfl) ?_
  refine .nilArr 69 1 x.ua ?_
  refine .cast (X' := UL (newS 10 1000 [1, 2, 3]) x 0) (by unfold UL; rw [hx2]; rfl) ?_
  refine .nilArr 47 12 x.ea ?_
  refine .cast (X' := EL (newS 10 1000 [1, 2, 3]) x) (by unfold EL; rw [hx3]; rfl) ?_
  refine .close (X := bag CB []) (B := []) .nil (fun _ _ => trivial) ?_
  refine .close (X := reqR [] (PS.under (newS 10 1000 [1, 2, 3])) 0) (B := []) .nil (fun _ _ => trivial) ?_
  refine .knowMono (KN (newS 10 1000 [1, 2, 3]) x []) (.tail (.tail (.tail (.tail (.tail (.tail (.tail (.tail .head)))))))) (fun w h => ⟨h, fun y hy => by cases hy⟩) ?_
  refine .close (X := PR pb (newS 10 1000 [1, 2, 3])) (.cons (.tail (.tail (.tail (.tail (.tail (.tail (.tail (.tail .head)))))))) (.cons (.tail .head) (.cons (.tail .head) (.cons (.tail (.tail (.tail (.tail .head)))) (.cons (.tail (.tail (.tail (.tail .head)))) (.cons (.tail (.tail (.tail .head))) (.cons (.tail (.tail .head)) (.cons (.tail .head) (.cons .head .nil))))))))) (fun _ H => ⟨(x, 0, []), ⟨rfl, by simp⟩, H⟩) ?_
  refine .seq ?_
  refine .seq ?_
  refine .region ?_
  refine .rd (.move rfl) ?_
  refine .rd (.not rfl) ?_
  refine .rd (.move rfl) ?_
  refine .on (t := 28) rfl rfl ?_
  refine .rd (.move rfl) ?_
  refine .on (t := 28) rfl rfl ?_
  refine .rd (.eqNilP Try.underlying24 rfl rfl) ?_
  refine .rd (.pickF rfl rfl) ?_
  refine .rd (.move rfl) ?_
  refine .on (t := 32) rfl rfl ?_
  refine .rd (.move rfl) ?_
  refine .on (t := 32) rfl rfl ?_
  refine .rd (.neI rfl rfl) ?_
  refine .alter (t := 34) (v' := .bool false) rfl (congrArg Value.bool (by first | rfl | decide)) ?_
  refine .rd (.pickF rfl rfl) ?_
  refine .nil ?_
  refine .condF rfl ?_
  refine .skip ?_
  refine .seq ?_
  refine .region ?_
  refine .rd (.move rfl) ?_
  refine .fn rfl rfl .nil (fun _ _ _ => trivial) (pick_ok t 20 ht (by decide)) (fun v G1 hq => ?_)
  obtain ⟨rfl, rfl⟩ := hq
  simp only [List.nil_append]
  refine .rd (.assign rfl) ?_
  refine .nil ?_
  refine .alter (t := 0) (v' := .int .i64 (n : Nat)) rfl (by rw [hn]) ?_
  refine .seq ?_
  refine .region ?_
  refine .rd (.assign rfl) ?_
  refine .nil ?_
  refine .seq ?_
  refine .seq ?_
  refine .region ?_
  refine .rd (.assign rfl) ?_
  refine .nil ?_
  refine .nilArr 32 21 none ?_
  refine .knowT (SaidK []) (fun w z hz => by cases hz) ?_
  refine .block ?_
  refine .loop (σ := Nat × PS × Option Out × List OutX × Option Addr × Nat) (fun ⟨i, p, pend, zs, A, C⟩ => i ≤ n ∧ SI i p pend ∧ zs.map (·.o) = pend.toList) (fun ⟨i, p, pend, zs, A, C⟩ => n - i) (fun ⟨i, p, pend, zs, A, C⟩ => [(0, .int .i64 (n : Nat)), (1, .slice sa l.length sc), (6, .pointer (some ⟨pb, 0, none⟩)), (8, .slice A zs.length C), (9, .int .i64 (i : Nat))]) (fun ⟨i, p, pend, zs, A, C⟩ => [PR pb p, arr 32 21 A C (zs.flatMap OutX.cells), know (SaidK zs), R]) (0, newS 10 1000 [1, 2, 3], none, [], none, 0) ⟨Nat.zero_le _, SI.start, rfl⟩ (.cons rfl (.cons rfl (.cons rfl (.cons rfl (.cons rfl .nil))))) (.cons (.tail (.tail .head)) (.cons (.tail .head) (.cons .head (.cons (.tail .head) .nil)))) (fun s' hI ih => ?_)
  obtain ⟨i, p, pend, zs, A, C⟩ := s'
  dsimp only at hI ih ⊢
  obtain ⟨hin, hSI, hzs⟩ := hI
  have hzl := (toL hzs).1
  refine .seq ?_
  refine .seq ?_
  refine .region ?_
  refine .rd (.move rfl) ?_
  refine .rd (.move rfl) ?_
  refine .rd (.lt rfl rfl) ?_
  refine .nil ?_
  refine .condP rfl (fun h8 => ?_) (fun h8 => ?_)
  · refine .skip ?_
    refine .seq ?_
    refine .block ?_
    refine .seq ?_
    obtain ⟨pend2, hSI2, hpe, her⟩ := hSI.send (by omega : i < 19)
    have hdl : (dig i).length ≤ 100 := dig_len (by omega)
    refine .region ?_
    refine .rd (.move rfl) ?_
    refine .rd (.move rfl) ?_
    refine .fn rfl rfl .nil (fun _ _ _ => trivial) (digits_ok i (by omega)) (fun v G1 hq => ?_)
    obtain ⟨rfl, rfl⟩ := hq
    simp only [List.nil_append]
    refine .rd (.build rfl (bld41_1 _)) ?_
    refine .ef (.buildOne (cs := recC (dig i)) Try.underlying33 ti41 (by decide) rfl rfl rfl (ones.of rfl)) ?_
    rintro _ _ ⟨br, rfl, rfl⟩
    refine .fn rfl rfl (.cons (.tail .head) .nil) (((Knows.blk .head).mono fun _ h => rowBlk h)) (send_ok pb 0 p (dig i) (some ⟨br, 0, none⟩) 1 hSI.wi.pi.pb (fun h => (hSI.wi.pi.sendS h (by have := hSI.wi.len; omega) (dig i)).pb) (by decide) hdl (right_bat hdl)) (fun v G1 hq => ?_)
    obtain ⟨oa, oc, zs2, rfl, hz2, rfl⟩ := hq
    simp only [List.cons_append, List.nil_append]
    refine .rd (.move rfl) ?_
    refine .rd (.extract rfl rfl) ?_
    refine .rd (.extract rfl rfl) ?_
    refine .rd (.extract rfl rfl) ?_
    refine .rd (.assign rfl) ?_
    refine .rd (.assign rfl) ?_
    refine .rd (.assign rfl) ?_
    refine .nil ?_
    have hzl2 : zs2.length ≤ 1 := by have := congrArg List.length hz2; simp only [List.length_map] at this; rw [this]; cases (send p 0 (dig i)).2.1 <;> simp
    refine .alter (t := 12) (v' := .int .i64 0) rfl (by rw [her]; rfl) ?_
    refine .seq ?_
    refine .seq ?_
    refine .region ?_
    refine .rd (.move rfl) ?_
    refine .rd (.neI rfl rfl) ?_
    refine .alter (t := 54) (v' := .bool false) rfl (congrArg Value.bool (by first | rfl | decide)) ?_
    refine .nil ?_
    refine .condF rfl ?_
    refine .skip ?_
    refine .region ?_
    refine .rd (.move rfl) ?_
    refine .rd (.move rfl) ?_
    refine .ef (.append rfl rfl Try.underlying36 ti32 rfl (ones.of rfl) (by decide) (by decide) rfl rfl (.tail (.tail (.tail (.tail .head)))) (n := zs.length) (m := zs2.length) (by rw [flat_length OutX.cells_len]) (.srcRow (ys := zs2.flatMap OutX.cells) (Knows.arr (.tail .head)) Try.underlying36 (by rw [flat_length OutX.cells_len]) (by decide)) (by omega)) ?_
    rintro _ _ ⟨ra, rc, rfl, rn, rfl⟩
    refine .rd (.assign rfl) ?_
    refine .nil ?_
    refine .cast (X' := arr 32 21 ra rc ((zs ++ zs2).flatMap OutX.cells)) (by rw [List.flatMap_append]) ?_
    refine .knowAnd (SaidK (zs ++ zs2)) (.cons (.tail (.tail (.tail (.tail (.tail .head))))) (.cons (.tail (.tail (.tail .head))) .nil)) (fun w h1 h2 y hy => by rcases List.mem_append.1 hy with h | h; exact h1 y h; exact h2 y h) ?_
    refine .alter (t := 8) (v' := .slice ra (zs ++ zs2).length rc) rfl (by rw [List.length_append]) ?_
    refine .inBlock ?_
    refine .region ?_
    refine .rd (.move rfl) ?_
    refine .rd (.add rfl rfl (by omega) (by omega)) ?_
    refine .rd (.assign rfl) ?_
    refine .nil ?_
    exact (ih (i + 1, (send p 0 (dig i)).1, pend2, zs ++ zs2, ra, rc) ⟨by show i + 1 ≤ _; omega, hSI2, by rw [List.map_append, hzs, hz2]; exact hpe⟩ (by show n - (i + 1) < n - i; omega)).to (.cons rfl (.cons rfl (.cons rfl (.cons rfl (.cons rfl .nil))))) (.cons (.tail (.tail .head)) (.cons (.tail .head) (.cons .head (.cons (.tail (.tail .head)) .nil))))
  · obtain rfl : n = i := by omega
    have WI0 := hSI.wi
    have hleft := left_start hSI hn19
    refine .exit rfl ?_
    refine .seq ?_
    refine .region ?_
    refine .rd (.assign rfl) ?_
    refine .nil ?_
    refine .seq ?_
    refine .region ?_
    refine .rd (.assign rfl) ?_
    refine .nil ?_
    refine .seq ?_
    refine .region ?_
    refine .rd (.assign rfl) ?_
    refine .nil ?_
    refine .seq ?_
    refine .seq ?_
    refine .region ?_
    refine .rd (.assign rfl) ?_
    refine .nil ?_
    refine .block ?_
    refine .loop (σ := PS × Option Out × List OutX × Option Addr × Nat × Int × Nat × Nat × Nat) (fun ⟨p, pend, zs, A, C, now, f, a, r⟩ => WI n p pend now f a ∧ zs.map (·.o) = pend.toList ∧ r + left n p pend now f a ≤ 1300 ∧ (0 ≤ now ∧ now ≤ r) ∧ f ≤ r ∧ a ≤ n) (fun ⟨p, pend, zs, A, C, now, f, a, r⟩ => left n p pend now f a) (fun ⟨p, pend, zs, A, C, now, f, a, r⟩ => [(0, .int .i64 (n : Nat)), (1, .slice sa l.length sc), (6, .pointer (some ⟨pb, 0, none⟩)), (8, .slice A zs.length C), (13, .int .i64 now), (14, .int .i64 (f : Nat)), (15, .int .i64 (a : Nat)), (16, .int .i64 (r : Nat))]) (fun ⟨p, pend, zs, A, C, now, f, a, r⟩ => [PR pb p, arr 32 21 A C (zs.flatMap OutX.cells), know (SaidK zs), R]) (p, pend, zs, A, C, 0, 0, 0, 0) ⟨WI0, hzs, hleft, ⟨by show (0 : Int) ≤ 0; omega, by show (0 : Int) ≤ 0; omega⟩, Nat.le_refl _, Nat.zero_le _⟩ (.cons rfl (.cons rfl (.cons rfl (.cons rfl (.cons rfl (.cons rfl (.cons rfl (.cons rfl .nil)))))))) (.cons .head (.cons .head (.cons .head (.cons .head .nil)))) (fun s' hI ih => ?_)
    obtain ⟨p, pend, zs, A, C, now, f, a, r⟩ := s'
    dsimp only at hI ih ⊢
    obtain ⟨hWI, hzs, hrl, ⟨hnow0, hnow1⟩, hfr, han⟩ := hI
    obtain ⟨hzl, hz0, hz1⟩ := toL hzs
    have hop := works_open hWI
    have ih2 := ih
    refine .seq ?_
    refine .seq ?_
    refine .region ?_
    refine .rd (.move rfl) ?_
    refine .rd (.lt rfl rfl) ?_
    refine .alter (t := 59) (v' := .bool true) rfl (congrArg Value.bool (decide_eq_true (by omega))) ?_
    refine .rd (.move rfl) ?_
    refine .on (t := 60) rfl rfl ?_
    refine .rd (.move rfl) ?_
    refine .on (t := 60) rfl rfl ?_
    refine .fn rfl rfl (.cons .head .nil) (fun _ _ _ => trivial) (open_ok pb p) (fun v G1 hq => ?_)
    obtain ⟨rfl, rfl⟩ := hq
    simp only [List.cons_append, List.nil_append]
    refine .on (t := 60) rfl rfl ?_
    refine .rd (.gt rfl rfl) ?_
    refine .rd (.pickT rfl rfl) ?_
    refine .nil ?_
    refine .condP rfl (fun h18 => ?_) (fun h18 => ?_)
    · have hpa : a < n := by omega
      refine .skip ?_
      refine .seq ?_
      refine .block ?_
      refine .seq ?_
      refine .seq ?_
      refine .region ?_
      refine .rd (.move rfl) ?_
      refine .rd (.lenL rfl rfl Try.underlying36 rfl) ?_
      refine .rd (.eqI rfl rfl) ?_
      refine .nil ?_
      refine .condP rfl (fun h20 => ?_) (fun h20 => ?_)
      · obtain rfl : zs = [] := by match zs, hzl, h20 with | [], _, _ => rfl | _ :: _, _, h => simp at h; omega
        obtain rfl := hz0 rfl
        have hT := hWI.tick hpa
        refine .seq ?_
        refine .region ?_
        refine .rd (.move rfl) ?_
        refine .rd (.add rfl rfl (by omega) (by omega)) ?_
        refine .rd (.assign rfl) ?_
        refine .nil ?_
        refine .seq ?_
        refine .region ?_
        refine .rd (.move rfl) ?_
        refine .rd (.move rfl) ?_
        refine .fn rfl rfl (.cons .head .nil) (fun _ _ _ => trivial) (tick_ok pb (now + 1) p hWI.pi.pb (hWI.pi.mid (now + 1)).choose_spec.pb (by omega)) (fun v G1 hq => ?_)
        obtain ⟨oa, oc, zs2, rfl, hz2, rfl⟩ := hq
        simp only [List.cons_append, List.nil_append]
        refine .rd (.assign rfl) ?_
        refine .nil ?_
        refine .exit rfl ?_
        refine .region ?_
        refine .rd (.move rfl) ?_
        refine .rd (.add rfl rfl (by omega) (by omega)) ?_
        refine .rd (.assign rfl) ?_
        refine .nil ?_
        exact (ih2 ((tick p (now + 1)).1, (tick p (now + 1)).2, zs2, oa, oc, now + 1, f, a, r + 1) ⟨hT.1, hz2, by have := hT.2; show r + 1 + left n (tick p (now + 1)).1 (tick p (now + 1)).2 (now + 1) f a ≤ 1300; omega, ⟨by show 0 ≤ now + 1; omega, by show now + 1 ≤ ((r + 1 : Nat) : Int); omega⟩, by show f ≤ r + 1; omega, han⟩ hT.2).to (.cons rfl (.cons rfl (.cons rfl (.cons rfl (.cons rfl (.cons rfl (.cons rfl (.cons rfl .nil)))))))) (.cons .head (.cons .head (.cons .head (.cons (.tail (.tail .head)) .nil))))
      · obtain ⟨z, rfl⟩ : ∃ z, zs = [z] := by match zs, hzl, h20 with | [z], _, _ => exact ⟨z, rfl⟩ | [], _, h => exact absurd rfl h | _ :: _ :: _, h, _ => simp at h
        obtain rfl := hz1 z rfl
        obtain ⟨q, hq⟩ := hWI.live hpa
        have hqw := hq.waits
        have hkz : 15 ≤ z.kind ∧ z.kind ≤ 17 := by unfold OutX.kind; split <;> omega
        refine .tell (φ := ∃ b o, A = some ⟨b, o, none⟩) ((Knows.arr (cs := [z].flatMap OutX.cells) (.tail .head)).mono fun _ h => RowAt.addr h (by rw [flat_length OutX.cells_len]; show 0 < 1 * 21; decide)) (fun hh => ?_)
        obtain ⟨b8, o8, hob⟩ := hh
        refine .skip ?_
        refine .seq ?_
        refine .draws [3, 8, 12] [arr 32 21 A C ([z].flatMap OutX.cells)] (by kernel_rfl) ?_
        refine .rp 0 rfl (by kernel_rfl) (by kernel_rfl) (by kernel_rfl) (Reads.pure (.move rfl)) ?_
        refine .rp 1 rfl (by kernel_rfl) (by kernel_rfl) (by kernel_rfl) (Reads.pure (.indexAddr (b := b8) (o := o8) Try.underlying36 ts32 (by show some (Value.slice A _ _) = _; rw [hob]) rfl (by decide) (by show (0 : Int) < ((1 : Nat) : Int); decide))) ?_
        refine .rp 2 rfl (by kernel_rfl) (by kernel_rfl) (by kernel_rfl) (Reads.pure (.fieldAddr fd32_0 rfl)) ?_
        refine .rd 3 rfl rfl (by kernel_rfl) (by kernel_rfl) (by kernel_rfl) (.load na3 rfl (Knows.one (i := 0) (Knows.elem (f := OutX.cells) OutX.cells_len (by decide) ((Knows.arr (cs := [z].flatMap OutX.cells) .head).mono fun _ h => hob ▸ h) (i := 0) rfl) rfl)) (.cons (.tail .head) .nil) ?_
        refine .rp 4 rfl (by kernel_rfl) (by kernel_rfl) (by kernel_rfl) (Reads.pure (.add rfl rfl (by omega) (by omega))) ?_
        refine .rp 5 rfl (by kernel_rfl) (by kernel_rfl) (by kernel_rfl) (Reads.pure (.move rfl)) ?_
        refine .rp 6 rfl (by kernel_rfl) (by kernel_rfl) (by kernel_rfl) (Reads.pure (.indexAddr (b := b8) (o := o8) Try.underlying36 ts32 (by show some (Value.slice A _ _) = _; rw [hob]) rfl (by decide) (by show (0 : Int) < ((1 : Nat) : Int); decide))) ?_
        refine .rp 7 rfl (by kernel_rfl) (by kernel_rfl) (by kernel_rfl) (Reads.pure (.fieldAddr fd32_2 rfl)) ?_
        refine .rd 8 rfl rfl (by kernel_rfl) (by kernel_rfl) (by kernel_rfl) (.load na3 rfl (Knows.one (i := 2) (Knows.elem (f := OutX.cells) OutX.cells_len (by decide) ((Knows.arr (cs := [z].flatMap OutX.cells) .head).mono fun _ h => hob ▸ h) (i := 0) rfl) rfl)) (.cons (.tail .head) .nil) ?_
        refine .rp 9 rfl (by kernel_rfl) (by kernel_rfl) (by kernel_rfl) (Reads.pure (.move rfl)) ?_
        refine .rp 10 rfl (by kernel_rfl) (by kernel_rfl) (by kernel_rfl) (Reads.pure (.indexAddr (b := b8) (o := o8) Try.underlying36 ts32 (by show some (Value.slice A _ _) = _; rw [hob]) rfl (by decide) (by show (0 : Int) < ((1 : Nat) : Int); decide))) ?_
        refine .rp 11 rfl (by kernel_rfl) (by kernel_rfl) (by kernel_rfl) (Reads.pure (.fieldAddr fd32_3 rfl)) ?_
        refine .rd 12 rfl rfl (by kernel_rfl) (by kernel_rfl) (by kernel_rfl) (.load na3 rfl (Knows.one (i := 3) (Knows.elem (f := OutX.cells) OutX.cells_len (by decide) ((Knows.arr (cs := [z].flatMap OutX.cells) .head).mono fun _ h => hob ▸ h) (i := 0) rfl) rfl)) (.cons (.tail .head) .nil) ?_
        refine .rp 13 rfl (by kernel_rfl) (by kernel_rfl) (by kernel_rfl) (Reads.pure (.build rfl (bld32_0_1_2_3_6 _ _ _ _ _))) ?_
        refine .ef 14 (by kernel_rfl) rfl (.alloc ti32 rfl (ones.of rfl)) ?_
        rintro _ _ ⟨b17, rfl, rfl⟩
        refine ⟨.inr ⟨_, (.cons (.tail (.tail .head)) .nil)⟩, ?_⟩
        refine .ef0 15 (by kernel_rfl) rfl (.storeAll (vs := Ans.cells (Ans.mk (z.kind + 1) z.o.to 101 z.o.id 0 7 0)) ts32 rfl rfl rfl .head rfl (Ans.cells_ones _)) ?_
        rintro _ _ rfl
        refine ⟨.inl (by kernel_rfl), ?_⟩
        refine .done (by kernel_rfl) ?_
        refine .cast (X' := blk b17 (Ans.cells (Ans.mk (z.kind + 1) z.o.to 101 z.o.id 0 7 0)) 32) (rfl) ?_
        refine .seq ?_
        refine .seq ?_
        refine .region ?_
        refine .rd (.move rfl) ?_
        refine .rd (.indexAddr (b := b8) (o := o8) Try.underlying36 ts32 (by show some (Value.slice A _ _) = _; rw [hob]) rfl (by decide) (by show (0 : Int) < ((1 : Nat) : Int); decide)) ?_
        refine .rd (.fieldAddr fd32_0 rfl) ?_
        refine .rd (.load na3 rfl (Knows.one (i := 0) (Knows.elem (f := OutX.cells) OutX.cells_len (by decide) ((Knows.arr (cs := [z].flatMap OutX.cells) (.tail (.tail .head))).mono fun _ h => hob ▸ h) (i := 0) rfl) rfl)) ?_
        refine .rd (.eqI rfl rfl) ?_
        refine .nil ?_
        refine .joinAt (E' := [(0, .int .i64 (n : Nat)), (1, .slice sa l.length sc), (6, .pointer (some ⟨pb, 0, none⟩)), (8, .slice A [z].length C), (13, .int .i64 now), (14, .int .i64 (f : Nat)), (15, .int .i64 (a : Nat)), (16, .int .i64 (r : Nat)), (17, .pointer (some ⟨b17, 0, none⟩))]) (Γ' := [PR pb p, arr 32 21 A C ([z].flatMap OutX.cells), know (SaidK [z]), blk b17 (Ans.cells (Ans.mk (z.kind + 1) z.o.to 101 z.o.id 0 (if z.o.text.isNone then 7 else 100 + (a : Int)) 0)) 32, R]) ?_ (fun fin => ?_)
        · refine .seq ?_
          refine .seq ?_
          refine .region ?_
          refine RunO.join 16 154 ((decide (f < l.length ∧ f < 100) && decide (fm l f = 0))) ?_ ?_
          · refine .rd (.move rfl) ?_
            refine .rd (.move rfl) ?_
            refine .rd (.lenL rfl rfl Try.underlying28 rfl) ?_
            refine .rd (.lt rfl rfl) ?_
            refine .rd (.move rfl) ?_
            refine .split (t := 143) rfl (fun g28a => ?_) (fun g28a => ?_)
            · replace g28a := of_decide_eq_true g28a
              refine .on (t := 143) rfl rfl ?_
              refine .rd (.move rfl) ?_
              refine .on (t := 143) rfl rfl ?_
              refine .rd (.lt rfl rfl) ?_
              refine .rd (.pickT rfl rfl) ?_
              refine .rd (.move rfl) ?_
              refine .split (t := 147) rfl (fun g28b => ?_) (fun g28b => ?_)
              · replace g28b := of_decide_eq_true g28b
                have hfl : f < l.length ∧ f < 100 := by omega
                obtain ⟨y, hy⟩ : ∃ y, l[f]? = some y := ⟨_, List.getElem?_eq_getElem hfl.1⟩
                have hfm : fm l f = y.tmod 3 := by unfold fm; rw [List.getD_eq_getElem?_getD, hy]; rfl
                refine .tell (φ := ∃ b o, sa = some ⟨b, o, none⟩) (Knows.pick (.tail (.tail (.tail (.tail .head)))) (k'.mono fun _ h => RowAt.addr h (by rw [flat_length icell_len]; omega))) (fun hh => ?_)
                obtain ⟨b5, o5, hsa⟩ := hh
                refine .on (t := 147) rfl rfl ?_
                refine .rd (.move rfl) ?_
                refine .on (t := 147) rfl rfl ?_
                refine .rd (.move rfl) ?_
                refine .on (t := 147) rfl rfl ?_
                refine .rd (.indexAddr (b := b5) (o := o5) Try.underlying28 ts3 (by show some (Value.slice sa _ _) = _; rw [hsa]) rfl (by omega) (by omega)) ?_
                refine .on (t := 147) rfl rfl ?_
                refine .rd (.load na3 rfl (Knows.one (i := 0) (Knows.elem (f := icell) icell_len (by decide) (Knows.pick (.tail (.tail (.tail (.tail .head)))) (k'.mono fun _ h => hsa ▸ h)) hy) rfl)) ?_
                refine .on (t := 147) rfl rfl ?_
                refine .rd (.remW rfl rfl (by decide)) ?_
                refine .alter (t := 152) (v' := .int .i64 (fm l f)) rfl (by rw [hfm]) ?_
                refine .on (t := 147) rfl rfl ?_
                refine .rd (.eqI rfl rfl) ?_
                refine .rd (.pickT rfl rfl) ?_
                refine .nil ⟨rfl, ?_, by repeat (first | exact Le.refl _ | refine Le.skip rfl ?_)⟩
                exact congrArg (fun x => some (Value.bool x)) (by rw [show decide (f < l.length ∧ f < 100) = true from decide_eq_true (by omega), Bool.true_and])
              · replace g28b := of_decide_eq_false g28b
                refine .off (t := 147) rfl rfl rfl ?_
                refine .off (t := 147) rfl rfl rfl ?_
                refine .off (t := 147) rfl rfl rfl ?_
                refine .off (t := 147) rfl rfl rfl ?_
                refine .off (t := 147) rfl rfl rfl ?_
                refine .off (t := 147) rfl rfl rfl ?_
                refine .rd (.pickF rfl rfl) ?_
                refine .nil ⟨rfl, ?_, by repeat (first | exact Le.refl _ | refine Le.skip rfl ?_)⟩
                exact congrArg (fun x => some (Value.bool x)) (by rw [show decide (f < l.length ∧ f < 100) = false from decide_eq_false (by omega), Bool.false_and])
            · replace g28a := of_decide_eq_false g28a
              refine .off (t := 143) rfl rfl rfl ?_
              refine .off (t := 143) rfl rfl rfl ?_
              refine .rd (.pickF rfl rfl) ?_
              refine .rd (.move rfl) ?_
              refine .off (t := 147) rfl rfl rfl ?_
              refine .off (t := 147) rfl rfl rfl ?_
              refine .off (t := 147) rfl rfl rfl ?_
              refine .off (t := 147) rfl rfl rfl ?_
              refine .off (t := 147) rfl rfl rfl ?_
              refine .off (t := 147) rfl rfl rfl ?_
              refine .rd (.pickF rfl rfl) ?_
              refine .nil ⟨rfl, ?_, by repeat (first | exact Le.refl _ | refine Le.skip rfl ?_)⟩
              exact congrArg (fun x => some (Value.bool x)) (by rw [show decide (f < l.length ∧ f < 100) = false from decide_eq_false (by omega), Bool.false_and])
          refine .nil ?_
          refine .joinEx (σ := Int × Int × Nat) (φ := fun ⟨err, last, a2⟩ => ((err = 15 ∧ f < 100 ∧ a2 = a) ∨ (err = 16 ∧ f < 100 ∧ a2 = a) ∨ (err = 0 ∧ a2 = if z.o.text.isNone then a else a + 1)) ∧ a2 ≤ n) (E' := fun ⟨err, last, a2⟩ => [(0, .int .i64 (n : Nat)), (1, .slice sa l.length sc), (6, .pointer (some ⟨pb, 0, none⟩)), (8, .slice A [z].length C), (13, .int .i64 now), (14, .int .i64 (f : Nat)), (15, .int .i64 (a2 : Nat)), (16, .int .i64 (r : Nat)), (17, .pointer (some ⟨b17, 0, none⟩))]) (Γ' := fun ⟨err, last, a2⟩ => [PR pb p, arr 32 21 A C ([z].flatMap OutX.cells), know (SaidK [z]), blk b17 (Ans.cells (Ans.mk (z.kind + 1) z.o.to 101 z.o.id err (if z.o.text.isNone then 7 else 100 + (a : Int)) last)) 32, R]) (fun sj hj => ?_) (fun fin => ?_)
          · obtain ⟨err, last, a2⟩ := sj
            dsimp only at hj ⊢
            obtain ⟨hj, ha2⟩ := hj
            obtain ⟨M, hM⟩ : ∃ M, M = (Ans.mk (z.kind + 1) z.o.to 101 z.o.id err (if z.o.text.isNone then 7 else 100 + (a : Int)) last) := ⟨_, rfl⟩
            have hA := answered (off := (if z.o.text.isNone then 7 else 100 + (a : Int))) (last := last) hWI hpa rfl hj
            rw [← ans_eq, ← hM] at hA
            refine .perm (.cons (.tail (.tail (.tail .head))) (.cons .head (.cons .head (.cons .head (.cons .head .nil))))) ?_
            refine .cast (X' := blk b17 (Ans.cells M) 32) (by rw [hM]) ?_
            refine .seq ?_
            refine .region ?_
            refine .rd (.move rfl) ?_
            refine .rd (.add rfl rfl (by omega) (by omega)) ?_
            refine .rd (.assign rfl) ?_
            refine .nil ?_
            refine .region ?_
            refine .rd (.move rfl) ?_
            refine .rd (.move rfl) ?_
            refine .rd (.ldN ia32 ts32 rfl .head rfl) ?_
            refine .fn rfl rfl (.cons (.tail .head) .nil) (fun _ _ _ => trivial) (step_ok pb now p M hWI.pi.pb (hWI.pi.pb3 M) (by omega)) (fun v G1 hq => ?_)
            obtain ⟨oa, oc, zs2, rfl, hz2, rfl⟩ := hq
            simp only [List.cons_append, List.nil_append]
            refine .rd (.assign rfl) ?_
            refine .nil ?_
            refine .inBlock ?_
            refine .region ?_
            refine .rd (.move rfl) ?_
            refine .rd (.add rfl rfl (by omega) (by omega)) ?_
            refine .rd (.assign rfl) ?_
            refine .nil ?_
            exact (ih2 ((step p now M).1, (step p now M).2, zs2, oa, oc, now, f + 1, a2, r + 1) ⟨hA.1, hz2, by have := hA.2; show r + 1 + left n (step p now M).1 (step p now M).2 now (f + 1) a2 ≤ 1300; omega, ⟨hnow0, by show now ≤ ((r + 1 : Nat) : Int); omega⟩, by show f + 1 ≤ r + 1; omega, ha2⟩ hA.2).to (.cons rfl (.cons rfl (.cons rfl (.cons rfl (.cons rfl (.cons rfl (.cons rfl (.cons rfl .nil)))))))) (.cons .head (.cons .head (.cons .head (.cons (.tail (.tail (.tail .head))) .nil))))
          · refine .cond rfl (fun h100 => ?_) (fun h100 => ?_)
            · refine .seq ?_
              refine .region ?_
              refine .rd (.fieldAddr fd32_15 rfl) ?_
              refine .ef0 (.store ts25 rfl rfl (.tail (.tail (.tail .head))) rfl (Nat.le_of_ble_eq_true rfl)) ?_
              rintro _ _ rfl
              refine .nil ?_
              have hfl : f < l.length ∧ f < 100 := by simp at h100; omega
              obtain ⟨y, hy⟩ : ∃ y, l[f]? = some y := ⟨_, List.getElem?_eq_getElem hfl.1⟩
              refine .tell (φ := ∃ b o, sa = some ⟨b, o, none⟩) (Knows.pick (.tail (.tail (.tail (.tail .head)))) (k'.mono fun _ h => RowAt.addr h (by rw [flat_length icell_len]; omega))) (fun hh => ?_)
              obtain ⟨b5, o5, hsa⟩ := hh
              refine .region ?_
              refine .rd (.move rfl) ?_
              refine .rd (.move rfl) ?_
              refine .rd (.indexAddr (b := b5) (o := o5) Try.underlying28 ts3 (by show some (Value.slice sa _ _) = _; rw [hsa]) rfl (by omega) (by omega)) ?_
              refine .rd (.load na3 rfl (Knows.one (i := 0) (Knows.elem (f := icell) icell_len (by decide) (Knows.pick (.tail (.tail (.tail (.tail .head)))) (k'.mono fun _ h => hsa ▸ h)) hy) rfl)) ?_
              refine .rd (.remW rfl rfl (by decide)) ?_
              refine .rd (.fieldAddr fd32_7 rfl) ?_
              refine .ef0 (.store ts3 rfl rfl .head rfl (Nat.le_of_ble_eq_true rfl)) ?_
              rintro _ _ rfl
              refine .nil ?_
              exact fin (15, y.tmod 5, a) ⟨.inl ⟨rfl, (by omega), rfl⟩, han⟩ (.cons rfl (.cons rfl (.cons rfl (.cons rfl (.cons rfl (.cons rfl (.cons rfl (.cons rfl (.cons rfl .nil))))))))) (.cons (.tail .head) (.cons (.tail .head) (.cons (.tail .head) (.cons .head (.cons .head .nil)))))
            · refine .seq ?_
              refine .region ?_
              refine RunO.join 16 177 ((decide (f < l.length ∧ f < 100) && decide (fm l f = 1))) ?_ ?_
              · refine .rd (.move rfl) ?_
                refine .rd (.move rfl) ?_
                refine .rd (.lenL rfl rfl Try.underlying28 rfl) ?_
                refine .rd (.lt rfl rfl) ?_
                refine .rd (.move rfl) ?_
                refine .split (t := 166) rfl (fun g31a => ?_) (fun g31a => ?_)
                · replace g31a := of_decide_eq_true g31a
                  refine .on (t := 166) rfl rfl ?_
                  refine .rd (.move rfl) ?_
                  refine .on (t := 166) rfl rfl ?_
                  refine .rd (.lt rfl rfl) ?_
                  refine .rd (.pickT rfl rfl) ?_
                  refine .rd (.move rfl) ?_
                  refine .split (t := 170) rfl (fun g31b => ?_) (fun g31b => ?_)
                  · replace g31b := of_decide_eq_true g31b
                    have hfl : f < l.length ∧ f < 100 := by omega
                    obtain ⟨y, hy⟩ : ∃ y, l[f]? = some y := ⟨_, List.getElem?_eq_getElem hfl.1⟩
                    have hfm : fm l f = y.tmod 3 := by unfold fm; rw [List.getD_eq_getElem?_getD, hy]; rfl
                    refine .tell (φ := ∃ b o, sa = some ⟨b, o, none⟩) (Knows.pick (.tail (.tail (.tail (.tail .head)))) (k'.mono fun _ h => RowAt.addr h (by rw [flat_length icell_len]; omega))) (fun hh => ?_)
                    obtain ⟨b5, o5, hsa⟩ := hh
                    refine .on (t := 170) rfl rfl ?_
                    refine .rd (.move rfl) ?_
                    refine .on (t := 170) rfl rfl ?_
                    refine .rd (.move rfl) ?_
                    refine .on (t := 170) rfl rfl ?_
                    refine .rd (.indexAddr (b := b5) (o := o5) Try.underlying28 ts3 (by show some (Value.slice sa _ _) = _; rw [hsa]) rfl (by omega) (by omega)) ?_
                    refine .on (t := 170) rfl rfl ?_
                    refine .rd (.load na3 rfl (Knows.one (i := 0) (Knows.elem (f := icell) icell_len (by decide) (Knows.pick (.tail (.tail (.tail (.tail .head)))) (k'.mono fun _ h => hsa ▸ h)) hy) rfl)) ?_
                    refine .on (t := 170) rfl rfl ?_
                    refine .rd (.remW rfl rfl (by decide)) ?_
                    refine .alter (t := 175) (v' := .int .i64 (fm l f)) rfl (by rw [hfm]) ?_
                    refine .on (t := 170) rfl rfl ?_
                    refine .rd (.eqI rfl rfl) ?_
                    refine .rd (.pickT rfl rfl) ?_
                    refine .nil ⟨rfl, ?_, by repeat (first | exact Le.refl _ | refine Le.skip rfl ?_)⟩
                    exact congrArg (fun x => some (Value.bool x)) (by rw [show decide (f < l.length ∧ f < 100) = true from decide_eq_true (by omega), Bool.true_and])
                  · replace g31b := of_decide_eq_false g31b
                    refine .off (t := 170) rfl rfl rfl ?_
                    refine .off (t := 170) rfl rfl rfl ?_
                    refine .off (t := 170) rfl rfl rfl ?_
                    refine .off (t := 170) rfl rfl rfl ?_
                    refine .off (t := 170) rfl rfl rfl ?_
                    refine .off (t := 170) rfl rfl rfl ?_
                    refine .rd (.pickF rfl rfl) ?_
                    refine .nil ⟨rfl, ?_, by repeat (first | exact Le.refl _ | refine Le.skip rfl ?_)⟩
                    exact congrArg (fun x => some (Value.bool x)) (by rw [show decide (f < l.length ∧ f < 100) = false from decide_eq_false (by omega), Bool.false_and])
                · replace g31a := of_decide_eq_false g31a
                  refine .off (t := 166) rfl rfl rfl ?_
                  refine .off (t := 166) rfl rfl rfl ?_
                  refine .rd (.pickF rfl rfl) ?_
                  refine .rd (.move rfl) ?_
                  refine .off (t := 170) rfl rfl rfl ?_
                  refine .off (t := 170) rfl rfl rfl ?_
                  refine .off (t := 170) rfl rfl rfl ?_
                  refine .off (t := 170) rfl rfl rfl ?_
                  refine .off (t := 170) rfl rfl rfl ?_
                  refine .off (t := 170) rfl rfl rfl ?_
                  refine .rd (.pickF rfl rfl) ?_
                  refine .nil ⟨rfl, ?_, by repeat (first | exact Le.refl _ | refine Le.skip rfl ?_)⟩
                  exact congrArg (fun x => some (Value.bool x)) (by rw [show decide (f < l.length ∧ f < 100) = false from decide_eq_false (by omega), Bool.false_and])
              refine .nil ?_
              refine .cond rfl (fun h31 => ?_) (fun h31 => ?_)
              · refine .region ?_
                refine .rd (.fieldAddr fd32_15 rfl) ?_
                refine .ef0 (.store ts25 rfl rfl (.tail (.tail (.tail .head))) rfl (Nat.le_of_ble_eq_true rfl)) ?_
                rintro _ _ rfl
                refine .nil ?_
                exact fin (16, 0, a) ⟨.inr (.inl ⟨rfl, (by have := h31; simp at this; omega), rfl⟩), han⟩ (.cons rfl (.cons rfl (.cons rfl (.cons rfl (.cons rfl (.cons rfl (.cons rfl (.cons rfl (.cons rfl .nil))))))))) (.cons (.tail .head) (.cons (.tail .head) (.cons (.tail .head) (.cons .head (.cons .head .nil)))))
              · refine .seq ?_
                refine .region ?_
                refine .rd (.move rfl) ?_
                refine .rd (.indexAddr (b := b8) (o := o8) Try.underlying36 ts32 (by show some (Value.slice A _ _) = _; rw [hob]) rfl (by decide) (by show (0 : Int) < ((1 : Nat) : Int); decide)) ?_
                refine .rd (.fieldAddr fd32_0 rfl) ?_
                refine .rd (.load na3 rfl (Knows.one (i := 0) (Knows.elem (f := OutX.cells) OutX.cells_len (by decide) ((Knows.arr (cs := [z].flatMap OutX.cells) (.tail .head)).mono fun _ h => hob ▸ h) (i := 0) rfl) rfl)) ?_
                refine .rd (.eqI rfl rfl) ?_
                refine .nil ?_
                refine .condP rfl (fun h33 => ?_) (fun h33 => ?_)
                · refine .region ?_
                  refine .rd (.move rfl) ?_
                  refine .rd (.add rfl rfl (by omega) (by omega)) ?_
                  refine .rd (.assign rfl) ?_
                  refine .nil ?_
                  exact fin (0, 0, a + 1) ⟨.inr (.inr ⟨rfl, by rw [show z.o.text.isNone = false by unfold OutX.kind at h33; split at h33; omega; rename_i h; exact Bool.eq_false_iff.2 h]; rfl⟩), (by show a + 1 ≤ n; omega)⟩ (.cons rfl (.cons rfl (.cons rfl (.cons rfl (.cons rfl (.cons rfl (.cons rfl (.cons rfl (.cons rfl .nil))))))))) (.cons .head (.cons .head (.cons .head (.cons .head (.cons .head .nil)))))
                · refine .skip ?_
                  exact fin (0, 0, a) ⟨.inr (.inr ⟨rfl, by rw [show z.o.text.isNone = true by unfold OutX.kind at h33; split at h33; assumption; exact absurd rfl h33]; rfl⟩), han⟩ (.cons rfl (.cons rfl (.cons rfl (.cons rfl (.cons rfl (.cons rfl (.cons rfl (.cons rfl (.cons rfl .nil))))))))) (.cons .head (.cons .head (.cons .head (.cons .head (.cons .head .nil)))))
        · refine .condP rfl (fun h24 => ?_) (fun h24 => ?_)
          · have htx0 : z.o.text.isNone = false := by unfold OutX.kind at h24; split at h24; omega; rename_i h; exact Bool.eq_false_iff.2 h
            obtain ⟨hqo, htx, hsq, hpd⟩ : q.of = some a ∧ z.o.text = some (dig a) ∧ z.o.seq = a ∧ z.o.pid = 7 := by
              obtain ⟨_, _, _, h4, h5⟩ := hqw
              rcases hq.phase with x | x
              · rw [h4 x.1] at htx0; cases htx0
              · have := h5 a x.1; exact ⟨x.1, this.1, this.2.1, this.2.2⟩
            refine .seq ?_
            refine .seq ?_
            refine .dup (.tail (.tail (.tail .head))) ?_
            refine .knowMono (BatAt z (dig a)) (.tail .head) (fun w h => batAt htx h) ?_
            refine .tell (φ := ∃ b o, z.ra = some ⟨b, o, none⟩) ((Knows.know .head).mono fun _ h => RowAt.addr h.2 (by show 0 < 3; decide)) (fun hh => ?_)
            obtain ⟨b7, o7, hra⟩ := hh
            refine .draws [3, 10, 13, 21, 24, 27, 36, 39] [arr 32 21 A C ([z].flatMap OutX.cells), know (BatAt z (dig a))] (by kernel_rfl) ?_
            refine .rp 0 rfl (by kernel_rfl) (by kernel_rfl) (by kernel_rfl) (Reads.pure (.move rfl)) ?_
            refine .rp 1 rfl (by kernel_rfl) (by kernel_rfl) (by kernel_rfl) (Reads.pure (.indexAddr (b := b8) (o := o8) Try.underlying36 ts32 (by show some (Value.slice A _ _) = _; rw [hob]) rfl (by decide) (by show (0 : Int) < ((1 : Nat) : Int); decide))) ?_
            refine .rp 2 rfl (by kernel_rfl) (by kernel_rfl) (by kernel_rfl) (Reads.pure (.fieldAddr fd32_18 rfl)) ?_
            refine .rd 3 rfl rfl (by kernel_rfl) (by kernel_rfl) (by kernel_rfl) (.load na29 rfl (Knows.one (i := 18) (Knows.elem (f := OutX.cells) OutX.cells_len (by decide) ((Knows.arr (cs := [z].flatMap OutX.cells) .head).mono fun _ h => hob ▸ h) (i := 0) rfl) (cells18 htx))) (.cons (.tail (.tail (.tail (.tail .head)))) (.cons .head .nil)) ?_
            refine .rp 4 rfl (by kernel_rfl) (by kernel_rfl) (by kernel_rfl) (Reads.pure (.lenL rfl rfl Try.underlying29 rfl)) ?_
            refine .rp 5 rfl (by kernel_rfl) (by kernel_rfl) (by kernel_rfl) (Reads.pure (.neI rfl rfl)) ?_
            refine .alter (t := 99) (v' := .bool false) rfl (congrArg Value.bool (ne_no rfl)) ?_
            refine .rp 6 rfl (by kernel_rfl) (by kernel_rfl) (by kernel_rfl) (Reads.pure (.move rfl)) ?_
            refine .rpG 7 (t := 100) rfl rfl rfl (by kernel_rfl) (by kernel_rfl) (by kernel_rfl) (Reads.pure (.move rfl)) ?_
            refine .rpG 8 (t := 100) rfl rfl rfl (by kernel_rfl) (by kernel_rfl) (by kernel_rfl) (Reads.pure (.indexAddr (b := b8) (o := o8) Try.underlying36 ts32 (by show some (Value.slice A _ _) = _; rw [hob]) rfl (by decide) (by show (0 : Int) < ((1 : Nat) : Int); decide))) ?_
            refine .rpG 9 (t := 100) rfl rfl rfl (by kernel_rfl) (by kernel_rfl) (by kernel_rfl) (Reads.pure (.fieldAddr fd32_18 rfl)) ?_
            refine .rdG 10 (t := 100) rfl rfl rfl rfl (by kernel_rfl) (by kernel_rfl) (by kernel_rfl) (.load na29 rfl (Knows.one (i := 18) (Knows.elem (f := OutX.cells) OutX.cells_len (by decide) ((Knows.arr (cs := [z].flatMap OutX.cells) .head).mono fun _ h => hob ▸ h) (i := 0) rfl) (cells18 htx))) (.cons (.tail (.tail (.tail (.tail .head)))) (.cons .head .nil)) ?_
            refine .rpG 11 (t := 100) rfl rfl rfl (by kernel_rfl) (by kernel_rfl) (by kernel_rfl) (Reads.pure (.indexAddr (b := z.b) (o := 0) Try.underlying29 ts52 rfl rfl (by decide) (by decide))) ?_
            refine .rpG 12 (t := 100) rfl rfl rfl (by kernel_rfl) (by kernel_rfl) (by kernel_rfl) (Reads.pure (.fieldAddr fd52_4 rfl)) ?_
            refine .rdG 13 (t := 100) rfl rfl rfl rfl (by kernel_rfl) (by kernel_rfl) (by kernel_rfl) (.load na3 rfl (Knows.one (i := 4) ((Knows.know (.tail .head)).mono fun _ h => h.1) rfl)) (.cons (.tail (.tail (.tail (.tail .head)))) (.cons .head .nil)) ?_
            refine .rpG 14 (t := 100) rfl rfl rfl (by kernel_rfl) (by kernel_rfl) (by kernel_rfl) (Reads.pure (.move rfl)) ?_
            refine .rpG 15 (t := 100) rfl rfl rfl (by kernel_rfl) (by kernel_rfl) (by kernel_rfl) (Reads.pure (.neI rfl rfl)) ?_
            refine .alter (t := 109) (v' := .bool false) rfl (congrArg Value.bool (ne_no hsq)) ?_
            refine .rp 16 rfl (by kernel_rfl) (by kernel_rfl) (by kernel_rfl) (Reads.pure (.pickF rfl rfl)) ?_
            refine .rp 17 rfl (by kernel_rfl) (by kernel_rfl) (by kernel_rfl) (Reads.pure (.move rfl)) ?_
            refine .rpG 18 (t := 111) rfl rfl rfl (by kernel_rfl) (by kernel_rfl) (by kernel_rfl) (Reads.pure (.move rfl)) ?_
            refine .rpG 19 (t := 111) rfl rfl rfl (by kernel_rfl) (by kernel_rfl) (by kernel_rfl) (Reads.pure (.indexAddr (b := b8) (o := o8) Try.underlying36 ts32 (by show some (Value.slice A _ _) = _; rw [hob]) rfl (by decide) (by show (0 : Int) < ((1 : Nat) : Int); decide))) ?_
            refine .rpG 20 (t := 111) rfl rfl rfl (by kernel_rfl) (by kernel_rfl) (by kernel_rfl) (Reads.pure (.fieldAddr fd32_18 rfl)) ?_
            refine .rdG 21 (t := 111) rfl rfl rfl rfl (by kernel_rfl) (by kernel_rfl) (by kernel_rfl) (.load na29 rfl (Knows.one (i := 18) (Knows.elem (f := OutX.cells) OutX.cells_len (by decide) ((Knows.arr (cs := [z].flatMap OutX.cells) .head).mono fun _ h => hob ▸ h) (i := 0) rfl) (cells18 htx))) (.cons (.tail (.tail (.tail (.tail .head)))) (.cons .head .nil)) ?_
            refine .rpG 22 (t := 111) rfl rfl rfl (by kernel_rfl) (by kernel_rfl) (by kernel_rfl) (Reads.pure (.indexAddr (b := z.b) (o := 0) Try.underlying29 ts52 rfl rfl (by decide) (by decide))) ?_
            refine .rpG 23 (t := 111) rfl rfl rfl (by kernel_rfl) (by kernel_rfl) (by kernel_rfl) (Reads.pure (.fieldAddr fd52_5 rfl)) ?_
            refine .rdG 24 (t := 111) rfl rfl rfl rfl (by kernel_rfl) (by kernel_rfl) (by kernel_rfl) (.load na33 rfl (Knows.one (i := 5) ((Knows.know (.tail .head)).mono fun _ h => h.1) rfl)) (.cons (.tail (.tail (.tail (.tail .head)))) (.cons .head .nil)) ?_
            refine .rpG 25 (t := 111) rfl rfl rfl (by kernel_rfl) (by kernel_rfl) (by kernel_rfl) (Reads.pure (.indexAddr (b := b7) (o := o7) Try.underlying33 ts41 (by show some (Value.slice z.ra _ _) = _; rw [hra]) rfl (by decide) (by decide))) ?_
            refine .rpG 26 (t := 111) rfl rfl rfl (by kernel_rfl) (by kernel_rfl) (by kernel_rfl) (Reads.pure (.fieldAddr fd41_1 rfl)) ?_
            refine .rdG 27 (t := 111) rfl rfl rfl rfl (by kernel_rfl) (by kernel_rfl) (by kernel_rfl) (.load na9 rfl (Knows.one (i := 1) ((Knows.know (.tail .head)).mono fun _ h => RowAt.cells2 (hra ▸ h.2)) rfl)) (.cons (.tail (.tail (.tail (.tail .head)))) (.cons .head .nil)) ?_
            refine .rpG 28 (t := 111) rfl rfl rfl (by kernel_rfl) (by kernel_rfl) (by kernel_rfl) (Reads.pure (.move rfl)) ?_
            refine .efG 29 (t := 111) (by kernel_rfl) rfl rfl rfl (.fn rfl rfl .nil (fun _ _ _ => trivial) (digits_ok a (by omega))) ?_
            rintro v _ ⟨G1, hq, rfl⟩
            obtain ⟨rfl, rfl⟩ := hq
            simp only [List.nil_append]
            refine ⟨.inr ⟨_, (.cons (.tail (.tail (.tail (.tail .head)))) (.cons .head .nil))⟩, ?_⟩
            refine .rpG 30 (t := 111) rfl rfl rfl (by kernel_rfl) (by kernel_rfl) (by kernel_rfl) (Reads.pure (.neT rfl rfl)) ?_
            refine .alter (t := 124) (v' := .bool false) rfl (congrArg Value.bool (by simp)) ?_
            refine .rp 31 rfl (by kernel_rfl) (by kernel_rfl) (by kernel_rfl) (Reads.pure (.pickF rfl rfl)) ?_
            refine .rp 32 rfl (by kernel_rfl) (by kernel_rfl) (by kernel_rfl) (Reads.pure (.move rfl)) ?_
            refine .rpG 33 (t := 126) rfl rfl rfl (by kernel_rfl) (by kernel_rfl) (by kernel_rfl) (Reads.pure (.move rfl)) ?_
            refine .rpG 34 (t := 126) rfl rfl rfl (by kernel_rfl) (by kernel_rfl) (by kernel_rfl) (Reads.pure (.indexAddr (b := b8) (o := o8) Try.underlying36 ts32 (by show some (Value.slice A _ _) = _; rw [hob]) rfl (by decide) (by show (0 : Int) < ((1 : Nat) : Int); decide))) ?_
            refine .rpG 35 (t := 126) rfl rfl rfl (by kernel_rfl) (by kernel_rfl) (by kernel_rfl) (Reads.pure (.fieldAddr fd32_18 rfl)) ?_
            refine .rdG 36 (t := 126) rfl rfl rfl rfl (by kernel_rfl) (by kernel_rfl) (by kernel_rfl) (.load na29 rfl (Knows.one (i := 18) (Knows.elem (f := OutX.cells) OutX.cells_len (by decide) ((Knows.arr (cs := [z].flatMap OutX.cells) .head).mono fun _ h => hob ▸ h) (i := 0) rfl) (cells18 htx))) (.cons (.tail (.tail (.tail (.tail .head)))) (.cons .head .nil)) ?_
            refine .rpG 37 (t := 126) rfl rfl rfl (by kernel_rfl) (by kernel_rfl) (by kernel_rfl) (Reads.pure (.indexAddr (b := z.b) (o := 0) Try.underlying29 ts52 rfl rfl (by decide) (by decide))) ?_
            refine .rpG 38 (t := 126) rfl rfl rfl (by kernel_rfl) (by kernel_rfl) (by kernel_rfl) (Reads.pure (.fieldAddr fd52_2 rfl)) ?_
            refine .rdG 39 (t := 126) rfl rfl rfl rfl (by kernel_rfl) (by kernel_rfl) (by kernel_rfl) (.load na3 rfl (Knows.one (i := 2) ((Knows.know (.tail .head)).mono fun _ h => h.1) rfl)) (.cons (.tail (.tail (.tail (.tail .head)))) (.cons .head .nil)) ?_
            refine .rpG 40 (t := 126) rfl rfl rfl (by kernel_rfl) (by kernel_rfl) (by kernel_rfl) (Reads.pure (.neI rfl rfl)) ?_
            refine .alter (t := 134) (v' := .bool false) rfl (congrArg Value.bool (ne_no hpd)) ?_
            refine .rp 41 rfl (by kernel_rfl) (by kernel_rfl) (by kernel_rfl) (Reads.pure (.pickF rfl rfl)) ?_
            refine .done (by kernel_rfl) ?_
            refine .condF rfl ?_
            refine .skip ?_
            refine .region ?_
            refine .rd (.move rfl) ?_
            refine .rd (.add rfl rfl (by omega) (by omega)) ?_
            refine .rd (.fieldAddr fd32_6 rfl) ?_
            refine .ef0 (.store ts3 rfl rfl (.tail (.tail .head)) rfl (Nat.le_of_ble_eq_true rfl)) ?_
            rintro _ _ rfl
            refine .nil ?_
            refine .cast (X' := blk b17 (Ans.cells (Ans.mk (z.kind + 1) z.o.to 101 z.o.id 0 (if z.o.text.isNone then 7 else 100 + (a : Int)) 0)) 32) (by rw [show z.o.text.isNone = false from htx0]; rfl) ?_
            exact fin (.cons rfl (.cons rfl (.cons rfl (.cons rfl (.cons rfl (.cons rfl (.cons rfl (.cons rfl (.cons rfl .nil))))))))) (.cons (.tail (.tail (.tail .head))) (.cons (.tail (.tail (.tail .head))) (.cons (.tail (.tail .head)) (.cons .head (.cons (.tail .head) .nil)))))
          · have htx0 : z.o.text.isNone = true := by unfold OutX.kind at h24; split at h24; assumption; exact absurd rfl h24
            refine .skip ?_
            refine .cast (X' := blk b17 (Ans.cells (Ans.mk (z.kind + 1) z.o.to 101 z.o.id 0 (if z.o.text.isNone then 7 else 100 + (a : Int)) 0)) 32) (by rw [show z.o.text.isNone = true from htx0]; rfl) ?_
            exact fin (.cons rfl (.cons rfl (.cons rfl (.cons rfl (.cons rfl (.cons rfl (.cons rfl (.cons rfl (.cons rfl .nil))))))))) (.cons (.tail .head) (.cons (.tail .head) (.cons (.tail .head) (.cons .head (.cons .head .nil)))))
    · have hpa : a = n := by omega
      refine .exit rfl ?_
      refine .seq ?_
      refine .region ?_
      refine .rd (.move rfl) ?_
      refine .fn rfl rfl (.cons .head .nil) (fun _ _ _ => trivial) (done_ok pb p) (fun v G1 hq => ?_)
      obtain ⟨ea, ec, rfl, rfl⟩ := hq
      simp only [List.cons_append, List.nil_append]
      refine .rd (.assign rfl) ?_
      refine .nil ?_
      have hen : p.ended.length = n := by have := hWI.pi.bk; omega
      refine .seq ?_
      refine .seq ?_
      refine .region ?_
      refine .rd (.move rfl) ?_
      refine .rd (.lenL rfl rfl Try.underlying44 rfl) ?_
      refine .rd (.move rfl) ?_
      refine .rd (.neI rfl rfl) ?_
      refine .alter (t := 197) (v' := .bool false) rfl (congrArg Value.bool (ne_no (by omega))) ?_
      refine .rd (.move rfl) ?_
      refine .on (t := 198) rfl rfl ?_
      refine .rd (.move rfl) ?_
      refine .on (t := 198) rfl rfl ?_
      refine .fn rfl rfl (.cons .head .nil) (fun _ _ _ => trivial) (open_ok pb (doneS p)) (fun v G1 hq => ?_)
      obtain ⟨rfl, rfl⟩ := hq
      simp only [List.cons_append, List.nil_append]
      refine .on (t := 198) rfl rfl ?_
      refine .rd (.neI rfl rfl) ?_
      refine .alter (t := 201) (v' := .bool false) rfl (congrArg Value.bool (ne_no (by show p.open_ = 0; omega))) ?_
      refine .rd (.pickF rfl rfl) ?_
      refine .nil ?_
      refine .condF rfl ?_
      refine .skip ?_
      refine .seq ?_
      refine .seq ?_
      refine .region ?_
      refine .rd (.assign rfl) ?_
      refine .nil ?_
      refine .block ?_
      refine .loop (σ := Nat) (fun j => j ≤ n) (fun j => n - j) (fun j => [(0, .int .i64 (n : Nat)), (18, .slice ea p.ended.length ec), (19, .int .i64 (j : Nat))]) (fun j => [arr 47 12 ea ec (p.ended.flatMap Seen.cells), R]) 0 (Nat.zero_le _) (.cons rfl (.cons rfl (.cons rfl .nil))) (.cons (.tail .head) (.cons (.tail (.tail (.tail .head))) .nil)) (fun j hI ih => ?_)
      skip
      refine .seq ?_
      refine .seq ?_
      refine .region ?_
      refine .rd (.move rfl) ?_
      refine .rd (.move rfl) ?_
      refine .rd (.lt rfl rfl) ?_
      refine .nil ?_
      refine .condP rfl (fun h41 => ?_) (fun h41 => ?_)
      · refine .skip ?_
        refine .seq ?_
        refine .block ?_
        refine .seq ?_
        obtain ⟨e, he⟩ : ∃ e, p.ended[j]? = some e := ⟨_, List.getElem?_eq_getElem (by omega)⟩
        obtain ⟨he1, he2, he3, he4⟩ := hWI.ends j e he
        refine .tell (φ := ∃ b o, ea = some ⟨b, o, none⟩) ((Knows.arr .head).mono fun _ h => RowAt.addr h (by rw [flat_length Seen.cells_len]; omega)) (fun hh => ?_)
        obtain ⟨b4, o4, hea⟩ := hh
        refine .draws [4, 11, 21, 31] [arr 47 12 ea ec (p.ended.flatMap Seen.cells)] (by kernel_rfl) ?_
        refine .rp 0 rfl (by kernel_rfl) (by kernel_rfl) (by kernel_rfl) (Reads.pure (.move rfl)) ?_
        refine .rp 1 rfl (by kernel_rfl) (by kernel_rfl) (by kernel_rfl) (Reads.pure (.move rfl)) ?_
        refine .rp 2 rfl (by kernel_rfl) (by kernel_rfl) (by kernel_rfl) (Reads.pure (.indexAddr (b := b4) (o := o4) Try.underlying44 ts47 (by show some (Value.slice ea _ _) = _; rw [hea]) rfl (by omega) (by omega))) ?_
        refine .rp 3 rfl (by kernel_rfl) (by kernel_rfl) (by kernel_rfl) (Reads.pure (.fieldAddr fd47_10 rfl)) ?_
        refine .rd 4 rfl rfl (by kernel_rfl) (by kernel_rfl) (by kernel_rfl) (.load na25 rfl (Knows.one (i := 10) (Knows.elem (f := Seen.cells) Seen.cells_len (by decide) ((Knows.arr .head).mono fun _ h => hea ▸ h) he) rfl)) (.cons .head .nil) ?_
        refine .rp 5 rfl (by kernel_rfl) (by kernel_rfl) (by kernel_rfl) (Reads.pure (.neI rfl rfl)) ?_
        refine .alter (t := 213) (v' := .bool false) rfl (congrArg Value.bool (ne_no he4)) ?_
        refine .rp 6 rfl (by kernel_rfl) (by kernel_rfl) (by kernel_rfl) (Reads.pure (.move rfl)) ?_
        refine .rpG 7 (t := 214) rfl rfl rfl (by kernel_rfl) (by kernel_rfl) (by kernel_rfl) (Reads.pure (.move rfl)) ?_
        refine .rpG 8 (t := 214) rfl rfl rfl (by kernel_rfl) (by kernel_rfl) (by kernel_rfl) (Reads.pure (.move rfl)) ?_
        refine .rpG 9 (t := 214) rfl rfl rfl (by kernel_rfl) (by kernel_rfl) (by kernel_rfl) (Reads.pure (.indexAddr (b := b4) (o := o4) Try.underlying44 ts47 (by show some (Value.slice ea _ _) = _; rw [hea]) rfl (by omega) (by omega))) ?_
        refine .rpG 10 (t := 214) rfl rfl rfl (by kernel_rfl) (by kernel_rfl) (by kernel_rfl) (Reads.pure (.fieldAddr fd47_4 rfl)) ?_
        refine .rdG 11 (t := 214) rfl rfl rfl rfl (by kernel_rfl) (by kernel_rfl) (by kernel_rfl) (.load na3 rfl (Knows.one (i := 4) (Knows.elem (f := Seen.cells) Seen.cells_len (by decide) ((Knows.arr .head).mono fun _ h => hea ▸ h) he) rfl)) (.cons .head .nil) ?_
        refine .rpG 12 (t := 214) rfl rfl rfl (by kernel_rfl) (by kernel_rfl) (by kernel_rfl) (Reads.pure (.move rfl)) ?_
        refine .rpG 13 (t := 214) rfl rfl rfl (by kernel_rfl) (by kernel_rfl) (by kernel_rfl) (Reads.pure (.add rfl rfl (by omega) (by omega))) ?_
        refine .rpG 14 (t := 214) rfl rfl rfl (by kernel_rfl) (by kernel_rfl) (by kernel_rfl) (Reads.pure (.neI rfl rfl)) ?_
        refine .alter (t := 222) (v' := .bool false) rfl (congrArg Value.bool (ne_no (by omega))) ?_
        refine .rp 15 rfl (by kernel_rfl) (by kernel_rfl) (by kernel_rfl) (Reads.pure (.pickF rfl rfl)) ?_
        refine .rp 16 rfl (by kernel_rfl) (by kernel_rfl) (by kernel_rfl) (Reads.pure (.move rfl)) ?_
        refine .rpG 17 (t := 224) rfl rfl rfl (by kernel_rfl) (by kernel_rfl) (by kernel_rfl) (Reads.pure (.move rfl)) ?_
        refine .rpG 18 (t := 224) rfl rfl rfl (by kernel_rfl) (by kernel_rfl) (by kernel_rfl) (Reads.pure (.move rfl)) ?_
        refine .rpG 19 (t := 224) rfl rfl rfl (by kernel_rfl) (by kernel_rfl) (by kernel_rfl) (Reads.pure (.indexAddr (b := b4) (o := o4) Try.underlying44 ts47 (by show some (Value.slice ea _ _) = _; rw [hea]) rfl (by omega) (by omega))) ?_
        refine .rpG 20 (t := 224) rfl rfl rfl (by kernel_rfl) (by kernel_rfl) (by kernel_rfl) (Reads.pure (.fieldAddr fd47_9 rfl)) ?_
        refine .rdG 21 (t := 224) rfl rfl rfl rfl (by kernel_rfl) (by kernel_rfl) (by kernel_rfl) (.load na9 rfl (Knows.one (i := 9) (Knows.elem (f := Seen.cells) Seen.cells_len (by decide) ((Knows.arr .head).mono fun _ h => hea ▸ h) he) rfl)) (.cons .head .nil) ?_
        refine .rpG 22 (t := 224) rfl rfl rfl (by kernel_rfl) (by kernel_rfl) (by kernel_rfl) (Reads.pure (.move rfl)) ?_
        refine .efG 23 (t := 224) (by kernel_rfl) rfl rfl rfl (.fn rfl rfl .nil (fun _ _ _ => trivial) (digits_ok j (by omega))) ?_
        rintro v _ ⟨G1, hq, rfl⟩
        obtain ⟨rfl, rfl⟩ := hq
        simp only [List.nil_append]
        refine ⟨.inr ⟨_, (.cons .head .nil)⟩, ?_⟩
        refine .rpG 24 (t := 224) rfl rfl rfl (by kernel_rfl) (by kernel_rfl) (by kernel_rfl) (Reads.pure (.neT rfl rfl)) ?_
        refine .alter (t := 232) (v' := .bool false) rfl (congrArg Value.bool (by simp [he3])) ?_
        refine .rp 25 rfl (by kernel_rfl) (by kernel_rfl) (by kernel_rfl) (Reads.pure (.pickF rfl rfl)) ?_
        refine .rp 26 rfl (by kernel_rfl) (by kernel_rfl) (by kernel_rfl) (Reads.pure (.move rfl)) ?_
        refine .rpG 27 (t := 234) rfl rfl rfl (by kernel_rfl) (by kernel_rfl) (by kernel_rfl) (Reads.pure (.move rfl)) ?_
        refine .rpG 28 (t := 234) rfl rfl rfl (by kernel_rfl) (by kernel_rfl) (by kernel_rfl) (Reads.pure (.move rfl)) ?_
        refine .rpG 29 (t := 234) rfl rfl rfl (by kernel_rfl) (by kernel_rfl) (by kernel_rfl) (Reads.pure (.indexAddr (b := b4) (o := o4) Try.underlying44 ts47 (by show some (Value.slice ea _ _) = _; rw [hea]) rfl (by omega) (by omega))) ?_
        refine .rpG 30 (t := 234) rfl rfl rfl (by kernel_rfl) (by kernel_rfl) (by kernel_rfl) (Reads.pure (.fieldAddr fd47_7 rfl)) ?_
        refine .rdG 31 (t := 234) rfl rfl rfl rfl (by kernel_rfl) (by kernel_rfl) (by kernel_rfl) (.load na3 rfl (Knows.one (i := 7) (Knows.elem (f := Seen.cells) Seen.cells_len (by decide) ((Knows.arr .head).mono fun _ h => hea ▸ h) he) rfl)) (.cons .head .nil) ?_
        refine .rpG 32 (t := 234) rfl rfl rfl (by kernel_rfl) (by kernel_rfl) (by kernel_rfl) (Reads.pure (.move rfl)) ?_
        refine .rpG 33 (t := 234) rfl rfl rfl (by kernel_rfl) (by kernel_rfl) (by kernel_rfl) (Reads.pure (.neI rfl rfl)) ?_
        refine .alter (t := 241) (v' := .bool false) rfl (congrArg Value.bool (ne_no he2)) ?_
        refine .rp 34 rfl (by kernel_rfl) (by kernel_rfl) (by kernel_rfl) (Reads.pure (.pickF rfl rfl)) ?_
        refine .done (by kernel_rfl) ?_
        refine .condF rfl ?_
        refine .skip ?_
        refine .inBlock ?_
        refine .region ?_
        refine .rd (.move rfl) ?_
        refine .rd (.add rfl rfl (by omega) (by omega)) ?_
        refine .rd (.assign rfl) ?_
        refine .nil ?_
        exact (ih (j + 1) (by omega) (by omega)).to (.cons rfl (.cons rfl (.cons rfl .nil))) (.cons .head (.cons .head .nil))
      · refine .exit rfl ?_
        refine .seq ?_
        refine .region ?_
        refine .rd (.assign rfl) ?_
        refine .nil ?_
        refine .retP Try.func4 (.cons (.tmp rfl) .nil) (.cons (.tail .head) .nil) ?_
        exact ⟨[], ⟨rfl, rfl⟩, rfl⟩

end Go.Proofs.Ytlcglmimndkleaa


namespace Go.Proofs.Ytlcglmimndkleaa
open Go Go.Sp

set_option linter.unusedVariables false

namespace read18

end read18
open read18



theorem i64_wf {n : Int} (h : (Lit.int .i64 n).wf = true) : i64 n := by simpa [i64, Lit.wf, IntKind.min, IntKind.max, IntKind.signed, IntKind.bits] using h
theorem Rd.num {H : Type} {enc : TypeId × Value → H} {P : Program} {W : World} {spare : Nat → Bool} {held : Bool} {t} (ht : P.underlying t = some (.int .i64)) : Rd enc P W spare held t (fun n : Int => [.int .i64 n]) i64 := fun n cs x h hf => by
  obtain ⟨m, e, hm⟩ := Rd.int ht n cs x h hf
  exact ⟨m, e, i64_wf hm⟩
theorem Rd.text {H : Type} {enc : TypeId × Value → H} {P : Program} {W : World} {spare : Nat → Bool} {held : Bool} {t} (ht : P.underlying t = some .string) : Rd enc P W spare held t (fun s : List UInt8 => [.string (str s)]) (fun s => s.length ≤ 140737488351232) := fun n cs x h hf => by
  obtain ⟨s, e, hs⟩ := Rd.string ht n cs x h hf
  refine ⟨s.data.toList, ?_, ?_⟩
  · show cs = [Value.string (str s.data.toList)]; rw [str_data]; exact e
  · show s.data.toList.length ≤ _; rw [← str_size, str_data]; exact hs
theorem Rd.anyRow {H : Type} {enc : TypeId × Value → H} {P : Program} {W : World} {spare : Nat → Bool} {held : Bool} {t e} (ht : P.underlying t = some (.slice e)) : Rd enc P W spare held t (fun y : Sl => [.slice y.1 y.2.1 y.2.2]) (fun _ => True) := fun n cs x h _ => by
  rcases DataW.trod_slice ht h with ⟨rfl, _⟩ | ⟨a, len, cap, elems, rest, m, rfl, rfl, rfl, _⟩
  · exact ⟨(none, 0, 0), rfl, trivial⟩
  · exact ⟨(some a, len, cap), rfl, trivial⟩
theorem icell_ones (n : Int) : ones (icell n) := .of rfl

theorem rd32 {H : Type} {enc : TypeId × Value → H} {W : World} {spare : Nat → Bool} {held : Bool} : Rd enc Try.prog W spare held 32 MX.cells (fun m => i64 m.m6) := by
  intro n cs x h hf
  have hl : cs.length = 21 := (Rd.structLen Try.underlying32 h).trans (by kernel_rfl)
  obtain ⟨c0, cs0, rfl, hl0⟩ := cons_of_len hl
  obtain ⟨c1, cs1, rfl, hl1⟩ := cons_of_len hl0
  obtain ⟨c2, cs2, rfl, hl2⟩ := cons_of_len hl1
  obtain ⟨c3, cs3, rfl, hl3⟩ := cons_of_len hl2
  obtain ⟨c4, cs4, rfl, hl4⟩ := cons_of_len hl3
  obtain ⟨c5, cs5, rfl, hl5⟩ := cons_of_len hl4
  obtain ⟨c6, cs6, rfl, hl6⟩ := cons_of_len hl5
  obtain ⟨c7, cs7, rfl, hl7⟩ := cons_of_len hl6
  obtain ⟨c8, cs8, rfl, hl8⟩ := cons_of_len hl7
  obtain ⟨c9, cs9, rfl, hl9⟩ := cons_of_len hl8
  obtain ⟨c10, cs10, rfl, hl10⟩ := cons_of_len hl9
  obtain ⟨c11, cs11, rfl, hl11⟩ := cons_of_len hl10
  obtain ⟨c12, cs12, rfl, hl12⟩ := cons_of_len hl11
  obtain ⟨c13, cs13, rfl, hl13⟩ := cons_of_len hl12
  obtain ⟨c14, cs14, rfl, hl14⟩ := cons_of_len hl13
  obtain ⟨c15, cs15, rfl, hl15⟩ := cons_of_len hl14
  obtain ⟨c16, cs16, rfl, hl16⟩ := cons_of_len hl15
  obtain ⟨c17, cs17, rfl, hl17⟩ := cons_of_len hl16
  obtain ⟨c18, cs18, rfl, hl18⟩ := cons_of_len hl17
  obtain ⟨c19, cs19, rfl, hl19⟩ := cons_of_len hl18
  obtain ⟨c20, cs20, rfl, hl20⟩ := cons_of_len hl19
  obtain rfl : cs20 = [] := List.eq_nil_of_length_eq_zero hl20
  obtain ⟨f0, e0, w0⟩ := Rd.field Try.underlying32 h hf 0 0 1 rfl (by kernel_rfl) (Rd.num Try.underlying3)
  simp only [List.drop_zero, List.take_succ_cons, List.take_zero, List.cons.injEq, and_true] at e0
  obtain ⟨f1, e1, w1⟩ := Rd.field Try.underlying32 h hf 1 1 1 rfl (by kernel_rfl) (Rd.num Try.underlying3)
  simp only [List.drop_succ_cons, List.drop_zero, List.take_succ_cons, List.take_zero, List.cons.injEq, and_true] at e1
  obtain ⟨f2, e2, w2⟩ := Rd.field Try.underlying32 h hf 2 2 1 rfl (by kernel_rfl) (Rd.num Try.underlying3)
  simp only [List.drop_succ_cons, List.drop_zero, List.take_succ_cons, List.take_zero, List.cons.injEq, and_true] at e2
  obtain ⟨f3, e3, w3⟩ := Rd.field Try.underlying32 h hf 3 3 1 rfl (by kernel_rfl) (Rd.num Try.underlying3)
  simp only [List.drop_succ_cons, List.drop_zero, List.take_succ_cons, List.take_zero, List.cons.injEq, and_true] at e3
  obtain ⟨f4, e4, w4⟩ := Rd.field Try.underlying32 h hf 4 4 1 rfl (by kernel_rfl) (Rd.num Try.underlying3)
  simp only [List.drop_succ_cons, List.drop_zero, List.take_succ_cons, List.take_zero, List.cons.injEq, and_true] at e4
  obtain ⟨f5, e5, w5⟩ := Rd.field Try.underlying32 h hf 5 5 1 rfl (by kernel_rfl) (Rd.num Try.underlying3)
  simp only [List.drop_succ_cons, List.drop_zero, List.take_succ_cons, List.take_zero, List.cons.injEq, and_true] at e5
  obtain ⟨f6, e6, w6⟩ := Rd.field Try.underlying32 h hf 6 6 1 rfl (by kernel_rfl) (Rd.num Try.underlying3)
  simp only [List.drop_succ_cons, List.drop_zero, List.take_succ_cons, List.take_zero, List.cons.injEq, and_true] at e6
  obtain ⟨f7, e7, w7⟩ := Rd.field Try.underlying32 h hf 7 7 1 rfl (by kernel_rfl) (Rd.num Try.underlying3)
  simp only [List.drop_succ_cons, List.drop_zero, List.take_succ_cons, List.take_zero, List.cons.injEq, and_true] at e7
  obtain ⟨f8, e8, w8⟩ := Rd.field Try.underlying32 h hf 8 8 1 rfl (by kernel_rfl) (Rd.num Try.underlying3)
  simp only [List.drop_succ_cons, List.drop_zero, List.take_succ_cons, List.take_zero, List.cons.injEq, and_true] at e8
  obtain ⟨f9, e9, w9⟩ := Rd.field Try.underlying32 h hf 9 9 1 rfl (by kernel_rfl) (Rd.num Try.underlying3)
  simp only [List.drop_succ_cons, List.drop_zero, List.take_succ_cons, List.take_zero, List.cons.injEq, and_true] at e9
  obtain ⟨f10, e10, w10⟩ := Rd.field Try.underlying32 h hf 10 10 1 rfl (by kernel_rfl) (Rd.num Try.underlying3)
  simp only [List.drop_succ_cons, List.drop_zero, List.take_succ_cons, List.take_zero, List.cons.injEq, and_true] at e10
  obtain ⟨f11, e11, w11⟩ := Rd.field Try.underlying32 h hf 11 11 1 rfl (by kernel_rfl) (Rd.num Try.underlying3)
  simp only [List.drop_succ_cons, List.drop_zero, List.take_succ_cons, List.take_zero, List.cons.injEq, and_true] at e11
  obtain ⟨f12, e12, w12⟩ := Rd.field Try.underlying32 h hf 12 12 1 rfl (by kernel_rfl) (Rd.num Try.underlying3)
  simp only [List.drop_succ_cons, List.drop_zero, List.take_succ_cons, List.take_zero, List.cons.injEq, and_true] at e12
  obtain ⟨f13, e13, w13⟩ := Rd.field Try.underlying32 h hf 13 13 1 rfl (by kernel_rfl) (Rd.num Try.underlying3)
  simp only [List.drop_succ_cons, List.drop_zero, List.take_succ_cons, List.take_zero, List.cons.injEq, and_true] at e13
  obtain ⟨f14, e14, w14⟩ := Rd.field Try.underlying32 h hf 14 14 1 rfl (by kernel_rfl) (Rd.num Try.underlying3)
  simp only [List.drop_succ_cons, List.drop_zero, List.take_succ_cons, List.take_zero, List.cons.injEq, and_true] at e14
  obtain ⟨f15, e15, w15⟩ := Rd.field Try.underlying32 h hf 15 15 1 rfl (by kernel_rfl) (Rd.num Try.underlying25)
  simp only [List.drop_succ_cons, List.drop_zero, List.take_succ_cons, List.take_zero, List.cons.injEq, and_true] at e15
  obtain ⟨nm, e16, w16⟩ := Rd.field Try.underlying32 h hf 16 16 1 rfl (by kernel_rfl) (Rd.text Try.underlying9)
  simp only [List.drop_succ_cons, List.drop_zero, List.take_succ_cons, List.take_zero, List.cons.injEq, and_true] at e16
  obtain ⟨tx, e17, w17⟩ := Rd.field Try.underlying32 h hf 17 17 1 rfl (by kernel_rfl) (Rd.text Try.underlying9)
  simp only [List.drop_succ_cons, List.drop_zero, List.take_succ_cons, List.take_zero, List.cons.injEq, and_true] at e17
  obtain ⟨s0, e18, w18⟩ := Rd.field Try.underlying32 h hf 18 18 1 rfl (by kernel_rfl) (Rd.anyRow Try.underlying29)
  simp only [List.drop_succ_cons, List.drop_zero, List.take_succ_cons, List.take_zero, List.cons.injEq, and_true] at e18
  obtain ⟨s1, e19, w19⟩ := Rd.field Try.underlying32 h hf 19 19 1 rfl (by kernel_rfl) (Rd.anyRow Try.underlying30)
  simp only [List.drop_succ_cons, List.drop_zero, List.take_succ_cons, List.take_zero, List.cons.injEq, and_true] at e19
  obtain ⟨s2, e20, w20⟩ := Rd.field Try.underlying32 h hf 20 20 1 rfl (by kernel_rfl) (Rd.anyRow Try.underlying28)
  simp only [List.drop_succ_cons, List.drop_zero, List.take_succ_cons, List.take_zero, List.cons.injEq, and_true] at e20
  subst e0
  subst e1
  subst e2
  subst e3
  subst e4
  subst e5
  subst e6
  subst e7
  subst e8
  subst e9
  subst e10
  subst e11
  subst e12
  subst e13
  subst e14
  subst e15
  subst e16
  subst e17
  subst e18
  subst e19
  subst e20
  exact ⟨⟨f0, f1, f2, f3, f4, f5, f6, f7, f8, f9, f10, f11, f12, f13, f14, f15, nm, tx, s0, s1, s2⟩, rfl, w6⟩

theorem rd35 {H : Type} {enc : TypeId × Value → H} {W : World} {spare : Nat → Bool} {held : Bool} : Rd enc Try.prog W spare held 35 OpX.cells OpX.good := by
  intro n cs x h hf
  have hl : cs.length = 26 := (Rd.structLen Try.underlying35 h).trans (by kernel_rfl)
  obtain ⟨c0, cs0, rfl, hl0⟩ := cons_of_len hl
  obtain ⟨c1, cs1, rfl, hl1⟩ := cons_of_len hl0
  obtain ⟨c2, cs2, rfl, hl2⟩ := cons_of_len hl1
  obtain ⟨c3, cs3, rfl, hl3⟩ := cons_of_len hl2
  obtain ⟨c4, cs4, rfl, hl4⟩ := cons_of_len hl3
  obtain ⟨c5, cs5, rfl, hl5⟩ := cons_of_len hl4
  obtain ⟨c6, cs6, rfl, hl6⟩ := cons_of_len hl5
  obtain ⟨c7, cs7, rfl, hl7⟩ := cons_of_len hl6
  obtain ⟨c8, cs8, rfl, hl8⟩ := cons_of_len hl7
  obtain ⟨c9, cs9, rfl, hl9⟩ := cons_of_len hl8
  obtain ⟨c10, cs10, rfl, hl10⟩ := cons_of_len hl9
  obtain ⟨c11, cs11, rfl, hl11⟩ := cons_of_len hl10
  obtain ⟨c12, cs12, rfl, hl12⟩ := cons_of_len hl11
  obtain ⟨c13, cs13, rfl, hl13⟩ := cons_of_len hl12
  obtain ⟨c14, cs14, rfl, hl14⟩ := cons_of_len hl13
  obtain ⟨c15, cs15, rfl, hl15⟩ := cons_of_len hl14
  obtain ⟨c16, cs16, rfl, hl16⟩ := cons_of_len hl15
  obtain ⟨c17, cs17, rfl, hl17⟩ := cons_of_len hl16
  obtain ⟨c18, cs18, rfl, hl18⟩ := cons_of_len hl17
  obtain ⟨c19, cs19, rfl, hl19⟩ := cons_of_len hl18
  obtain ⟨c20, cs20, rfl, hl20⟩ := cons_of_len hl19
  obtain ⟨c21, cs21, rfl, hl21⟩ := cons_of_len hl20
  obtain ⟨c22, cs22, rfl, hl22⟩ := cons_of_len hl21
  obtain ⟨c23, cs23, rfl, hl23⟩ := cons_of_len hl22
  obtain ⟨c24, cs24, rfl, hl24⟩ := cons_of_len hl23
  obtain ⟨c25, cs25, rfl, hl25⟩ := cons_of_len hl24
  obtain rfl : cs25 = [] := List.eq_nil_of_length_eq_zero hl25
  obtain ⟨f0, e0, w0⟩ := Rd.field Try.underlying35 h hf 0 0 1 rfl (by kernel_rfl) (Rd.num Try.underlying3)
  simp only [List.drop_zero, List.take_succ_cons, List.take_zero, List.cons.injEq, and_true] at e0
  obtain ⟨f1, e1, w1⟩ := Rd.field Try.underlying35 h hf 1 1 1 rfl (by kernel_rfl) (Rd.num Try.underlying3)
  simp only [List.drop_succ_cons, List.drop_zero, List.take_succ_cons, List.take_zero, List.cons.injEq, and_true] at e1
  obtain ⟨f2, e2, w2⟩ := Rd.field Try.underlying35 h hf 2 2 1 rfl (by kernel_rfl) (Rd.num Try.underlying3)
  simp only [List.drop_succ_cons, List.drop_zero, List.take_succ_cons, List.take_zero, List.cons.injEq, and_true] at e2
  obtain ⟨s0, e3, w3⟩ := Rd.field Try.underlying35 h hf 3 3 1 rfl (by kernel_rfl) (Rd.anyRow Try.underlying33)
  simp only [List.drop_succ_cons, List.drop_zero, List.take_succ_cons, List.take_zero, List.cons.injEq, and_true] at e3
  obtain ⟨m, e4, w4⟩ := Rd.field Try.underlying35 h hf 4 4 21 rfl (by kernel_rfl) rd32
  simp only [List.drop_succ_cons, List.drop_zero, List.take_succ_cons, List.take_zero] at e4
  obtain ⟨b, e5, w5⟩ := Rd.field Try.underlying35 h hf 5 25 1 rfl (by kernel_rfl) (Rd.bool Try.underlying4)
  simp only [List.drop_succ_cons, List.drop_zero, List.take_succ_cons, List.take_zero, List.cons.injEq, and_true] at e5
  subst e0
  subst e1
  subst e2
  subst e3
  subst e5
  simp only [MX.cells, List.cons.injEq, and_true] at e4
  obtain ⟨rfl, rfl, rfl, rfl, rfl, rfl, rfl, rfl, rfl, rfl, rfl, rfl, rfl, rfl, rfl, rfl, rfl, rfl, rfl, rfl, rfl⟩ := e4
  exact ⟨⟨f0, f1, f2, s0, m, b⟩, rfl, ⟨w0, w1, w4⟩⟩

end Go.Proofs.Ytlcglmimndkleaa

