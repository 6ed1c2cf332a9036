/- Chapter 22: histories, in plain Lean. -/
import Derived.Test.YtahpokcigdjilaaL17
namespace Go.Proofs.Ytahpokcigdjilaa
open Go Go.Sp

abbrev Tx := List UInt8
/-- An element of a history. -/
structure Sn where
  client : Int
  call : Int
  kind : Int
  part : Int
  offset : Int
  pid : Int
  pidEpoch : Int
  seq : Int
  name : Tx
  text : Tx
  err : Int
  done : Bool
  deriving DecidableEq
def Sn.cells (s : Sn) : List Value := [.int .i64 s.client, .int .i64 s.call, .int .i64 s.kind, .int .i64 s.part, .int .i64 s.offset, .int .i64 s.pid, .int .i64 s.pidEpoch, .int .i64 s.seq, .string (str s.name), .string (str s.text), .int .i64 s.err, .bool s.done]
theorem Sn.cells_len (s : Sn) : s.cells.length = 12 := rfl
theorem Sn.cells_ones (s : Sn) : ones s.cells := .of rfl
structure Asked where
  kind : Int
  name : Tx
  part : Int
  deriving DecidableEq
def Asked.cells (a : Asked) : List Value := [.int .i64 a.kind, .string (str a.name), .int .i64 a.part]
def askV (a : Asked) : Value := .agg a.cells.toArray
def ask0 : Asked := ⟨0, [], 0⟩
structure Mark where
  at_ : Int
  n : Int
  deriving DecidableEq
def Mark.cells (m : Mark) : List Value := [.int .i64 m.at_, .int .i64 m.n]
theorem Mark.cells_len (m : Mark) : m.cells.length = 2 := rfl
/-- A commit: of which call, its offset, the places of its call and its return, with what it returned. -/
structure Sg where
  id : Int × Int
  offset : Int
  from_ : Int
  to : Int
  err : Int
  deriving DecidableEq
def Sg.cells (g : Sg) : List Value := [.int .i64 g.offset, .int .i64 g.from_, .int .i64 g.to, .int .i64 g.err]
def sg0 : Sg := ⟨(0, 0), 0, 0, 0, 0⟩
def icell (n : Int) : List Value := [.int .i64 n]
theorem icell_len (n : Int) : (icell n).length = 1 := rfl
def ptrV (b : Nat) : Value := .pointer (some ⟨b, 0, none⟩)
def pcell (b : Nat) : List Value := [ptrV b]
theorem pcell_len (b : Nat) : (pcell b).length = 1 := rfl

/-- A row and where it lies. -/
abbrev Row (α : Type) := Option Addr × Nat × List α
def rowV {α : Type} (r : Row α) : Value := .slice r.1 r.2.2.length r.2.1
def row0 {α : Type} : Row α := (none, 0, [])
def encI (p : Int × Int) : Value := .agg #[.int .i64 p.1, .int .i64 p.2]
def encL (p : Int × Tx) : Value := .agg #[.int .i64 p.1, .string (str p.2)]
def encP (p : Tx × Int) : Value := .agg #[.string (str p.1), .int .i64 p.2]
def encS (t : Tx) : Value := .string (str t)
def encN (n : Int) : Value := .int .i64 n
def enc3 (x : Int × Int × Int) : Value := .agg (encT x)

/-! ### What the checker knows -/

structure PS where
  calls : Int × Int → Option Int
  kinds : Int × Int → Asked
  done : Int × Int → Bool
  values : Int × Int → Option Tx
  acked : Int × Int → Bool
  sent : Int × Tx → Int
  offsets : Int × Tx → List Int
  sends : Int × Int × Int → List Sn
  deletes : Int → List Mark
  gens : Tx → List Mark
  commits : Tx × Int → List Sg
def PS.start : PS := ⟨fun _ => none, fun _ => ask0, fun _ => false, fun _ => none, fun _ => false, fun _ => 0, fun _ => [], fun _ => [], fun _ => [], fun _ => [], fun _ => []⟩

def wCall : Tx := [99, 97, 108, 108]
def wValue : Tx := [118, 97, 108, 117, 101]
def wOffset : Tx := [111, 102, 102, 115, 101, 116]
def wUnsent : Tx := [117, 110, 115, 101, 110, 116]
def wTwice : Tx := [116, 119, 105, 99, 101]
def wOrder : Tx := [111, 114, 100, 101, 114]
def wDeleted : Tx := [100, 101, 108, 101, 116, 101, 100]
def wGeneration : Tx := [103, 101, 110, 101, 114, 97, 116, 105, 111, 110]
def wFenced : Tx := [102, 101, 110, 99, 101, 100]
def wCommit : Tx := [99, 111, 109, 109, 105, 116]

def over (fr : Int) (g : Sg) : Bool := decide (0 ≤ g.to) && (decide (g.err = 0) && decide (g.to < fr))
def behind (l : List Sg) (fr : Int) (x : Sg) : Bool := l.any fun y => over fr y && decide (x.to < y.from_)
def stays (l : List Sg) (o fr : Int) (x : Sg) : Bool := decide (x.offset = o) && (decide (x.to < 0) || (decide (x.err ≠ 0) || !behind l fr x))
def staleP (p : PS) (s : Sn) (fr : Int) : Bool :=
  if s.offset = -1 then (p.commits (s.name, s.part)).any (over fr) else !(p.commits (s.name, s.part)).any (stays (p.commits (s.name, s.part)) s.offset fr)
def manyP (p : PS) (s : Sn) : Int := ((p.offsets (s.part, s.text)).length : Int) + if s.offset ∈ p.offsets (s.part, s.text) then 0 else 1
def offOrder (s y : Sn) : Bool := decide (y.seq = s.seq) || (decide (decide (y.seq < s.seq) ≠ decide (y.offset < s.offset)) || decide (y.offset = s.offset))
def laterM (fr o : Int) (m : Mark) : Bool := decide (m.at_ < fr) && decide (o < m.n)
def genM (fr o : Int) (m : Mark) : Bool := decide (m.n = o) || laterM fr o m
def badV (p : PS) (s : Sn) : Bool := (p.values (s.part, s.offset)).isSome && !decide ((p.values (s.part, s.offset)).getD [] = s.text)
theorem badV_iff (p : PS) (s : Sn) : badV p s = true ↔ ∃ t, p.values (s.part, s.offset) = some t ∧ t ≠ s.text := by
  unfold badV
  cases p.values (s.part, s.offset) <;> simp
def badO (p : PS) (s : Sn) : Bool := decide (s.kind = 10) && p.acked (s.part, s.offset)
def badU (p : PS) (s : Sn) : Bool := decide (s.kind = 1) && decide (p.sent (s.part, s.text) = 0)
theorem badO_iff (p : PS) (s : Sn) : badO p s = true ↔ s.kind = 10 ∧ p.acked (s.part, s.offset) = true := by simp [badO]
theorem badU_iff (p : PS) (s : Sn) : badU p s = true ↔ s.kind = 1 ∧ p.sent (s.part, s.text) = 0 := by simp [badU]
def recordsP (p : PS) (s : Sn) (fr : Int) : Tx :=
  if ∃ t, p.values (s.part, s.offset) = some t ∧ t ≠ s.text then wValue
  else if s.kind = 10 ∧ p.acked (s.part, s.offset) = true then wOffset
  else if s.kind = 1 ∧ p.sent (s.part, s.text) = 0 then wUnsent
  else if p.sent (s.part, s.text) < manyP p s then wTwice
  else if s.kind = 10 then (if (p.sends (s.part, s.pid, s.pidEpoch)).any (offOrder s) then wOrder else [])
  else if (p.deletes s.part).any (laterM fr s.offset) then wDeleted else []
def Sn.id (s : Sn) : Int × Int := (s.client, s.call)
def Sn.ask (s : Sn) : Asked := ⟨s.kind, s.name, s.part⟩
def wrongP (p : PS) (s : Sn) : Tx :=
  if (s.done = false ∧ p.calls s.id ≠ none) ∨ (s.done = true ∧ (p.calls s.id = none ∨ p.done s.id = true ∨ p.kinds s.id ≠ s.ask)) then wCall
  else if s.done = false ∨ s.err ≠ 0 then []
  else if s.kind = 10 ∨ s.kind = 1 then recordsP p s ((p.calls s.id).getD 0)
  else if s.kind = 2 ∨ s.kind = 3 then (if (p.gens s.name).any (genM ((p.calls s.id).getD 0) s.seq) then wGeneration else [])
  else if s.kind = 4 then (if (p.gens s.name).any (laterM ((p.calls s.id).getD 0) s.seq) then wFenced else [])
  else if s.kind = 5 then (if staleP p s ((p.calls s.id).getD 0) then wCommit else [])
  else []

def badC1 (p : PS) (s : Sn) : Bool := !s.done && (p.calls s.id).isSome
def badC2 (p : PS) (s : Sn) : Bool := s.done && (!(p.calls s.id).isSome || (p.done s.id || !decide (p.kinds s.id = s.ask)))
def quiet (s : Sn) : Bool := !s.done || !decide (s.err = 0)
theorem badC_iff (p : PS) (s : Sn) : (badC1 p s || badC2 p s) = true ↔ (s.done = false ∧ p.calls s.id ≠ none) ∨ (s.done = true ∧ (p.calls s.id = none ∨ p.done s.id = true ∨ p.kinds s.id ≠ s.ask)) := by
  unfold badC1 badC2
  cases hd : s.done <;> cases hc : p.calls s.id <;> cases p.done s.id <;> simp
theorem quiet_iff (s : Sn) : quiet s = true ↔ s.done = false ∨ s.err ≠ 0 := by unfold quiet; cases s.done <;> simp
theorem wrong_call {p : PS} {s : Sn} (h : (badC1 p s || badC2 p s) = true) : wrongP p s = wCall := if_pos ((badC_iff p s).1 h)
theorem wrong_quiet {p : PS} {s : Sn} (h : (badC1 p s || badC2 p s) = false) (hq : quiet s = true) : wrongP p s = [] := by
  unfold wrongP
  rw [if_neg (fun e => by rw [(badC_iff p s).2 e] at h; cases h), if_pos ((quiet_iff s).1 hq)]
theorem wrong_go {p : PS} {s : Sn} (h : (badC1 p s || badC2 p s) = false) (hq : quiet s = false) : wrongP p s =
    if s.kind = 10 ∨ s.kind = 1 then recordsP p s ((p.calls s.id).getD 0)
    else if s.kind = 2 ∨ s.kind = 3 then (if (p.gens s.name).any (genM ((p.calls s.id).getD 0) s.seq) then wGeneration else [])
    else if s.kind = 4 then (if (p.gens s.name).any (laterM ((p.calls s.id).getD 0) s.seq) then wFenced else [])
    else if s.kind = 5 then (if staleP p s ((p.calls s.id).getD 0) then wCommit else [])
    else [] := by
  unfold wrongP
  rw [if_neg (fun e => by rw [(badC_iff p s).2 e] at h; cases h), if_neg (fun e => by rw [(quiet_iff s).2 e] at hq; cases hq)]

def put {κ ν : Type} [DecidableEq κ] (f : κ → ν) (k : κ) (v : ν) : κ → ν := fun x => if x = k then v else f x
theorem put_at {κ ν : Type} [DecidableEq κ] (f : κ → ν) (k : κ) (v : ν) : put f k v k = v := if_pos rfl
def endG (x : Int × Int) (i e : Int) (g : Sg) : Sg := if g.id = x then { g with to := i, err := e } else g
/-- A call is noted. -/
def noteC (p : PS) (i : Int) (s : Sn) : PS :=
  { p with
    calls := put p.calls s.id (some i)
    kinds := put p.kinds s.id s.ask
    sent := if s.kind = 10 then put p.sent (s.part, s.text) (p.sent (s.part, s.text) + 1) else p.sent
    commits := if s.kind = 4 then put p.commits (s.name, s.part) (p.commits (s.name, s.part) ++ [⟨s.id, s.offset, i, -1, 0⟩]) else p.commits }
def noteR (p : PS) (i : Int) (s : Sn) : PS :=
  { p with done := put p.done s.id true, commits := fun t => (p.commits t).map (endG s.id i s.err) }
def noteV (p : PS) (s : Sn) : PS :=
  { p with
    values := put p.values (s.part, s.offset) (some s.text)
    offsets := if s.offset ∈ p.offsets (s.part, s.text) then p.offsets else put p.offsets (s.part, s.text) (p.offsets (s.part, s.text) ++ [s.offset])
    acked := if s.kind = 10 then put p.acked (s.part, s.offset) true else p.acked
    sends := if s.kind = 10 then put p.sends (s.part, s.pid, s.pidEpoch) (p.sends (s.part, s.pid, s.pidEpoch) ++ [s]) else p.sends }
def noteP (p : PS) (i : Int) (s : Sn) : PS :=
  if s.done = false then noteC p i s
  else if s.err ≠ 0 then noteR p i s
  else if s.kind = 10 ∨ s.kind = 1 then noteV (noteR p i s) s
  else if s.kind = 6 then { noteR p i s with deletes := put p.deletes s.part (p.deletes s.part ++ [⟨i, s.offset⟩]) }
  else if s.kind = 2 ∨ s.kind = 3 then { noteR p i s with gens := put p.gens s.name (p.gens s.name ++ [⟨i, s.seq⟩]) }
  else noteR p i s
def checkGo : PS → Int → List Sn → Int × Tx
  | _, _, [] => (-1, [])
  | p, i, s :: l => if wrongP p s = [] then checkGo (noteP p i s) (i + 1) l else (i, wrongP p s)
def check (l : List Sn) : Int × Tx := checkGo .start 0 l

/-! ### How it lies in memory -/

structure CS where
  calls : List ((Int × Int) × Int)
  kinds : List ((Int × Int) × Asked)
  done : List ((Int × Int) × Bool)
  values : List ((Int × Int) × Tx)
  acked : List ((Int × Int) × Bool)
  sent : List ((Int × Tx) × Int)
  offsets : List ((Int × Tx) × Row Int)
  sends : List ((Int × Int × Int) × Row Sn)
  deletes : List (Int × Row Mark)
  gens : List (Tx × Row Mark)
  commits : List ((Tx × Int) × Row Nat)
  opened : List ((Int × Int) × Nat)
  spans : List (Nat × Sg)
structure Bl where
  m0 : Nat
  m1 : Nat
  m2 : Nat
  m3 : Nat
  m4 : Nat
  m5 : Nat
  m6 : Nat
  m7 : Nat
  m8 : Nat
  m9 : Nat
  m10 : Nat
  m11 : Nat
def Bl.cells (b : Bl) : List Value := [.map (some b.m0), .map (some b.m1), .map (some b.m2), .map (some b.m3), .map (some b.m4), .map (some b.m5), .map (some b.m6), .map (some b.m7), .map (some b.m8), .map (some b.m9), .map (some b.m10), .map (some b.m11)]
def rowsOf {κ α : Type} (e s : Nat) (f : α → List Value) (p : κ × Row α) : SProp := arr e s p.2.1 p.2.2.1 (p.2.2.2.flatMap f)
def spanOf (p : Nat × Sg) : SProp := blk p.1 p.2.cells 82
def txV (t : Tx) : Value := .string (str t)
def inV (n : Int) : Value := .int .i64 n
def chkL (c : Nat) (S : CS) (b : Bl) : List SProp :=
  [blk c b.cells 59, mp encI inV b.m0 S.calls, mp encI askV b.m1 S.kinds, mp encI Value.bool b.m2 S.done, mp encI txV b.m3 S.values, mp encI Value.bool b.m4 S.acked, mp encL inV b.m5 S.sent, mp encL rowV b.m6 S.offsets, mp enc3 rowV b.m7 S.sends,
   mp encN rowV b.m8 S.deletes, mp encS rowV b.m9 S.gens, mp encP rowV b.m10 S.commits, mp encI ptrV b.m11 S.opened,
   bag (rowsOf 3 1 icell) S.offsets, bag (rowsOf 36 12 Sn.cells) S.sends, bag (rowsOf 76 2 Mark.cells) S.deletes, bag (rowsOf 76 2 Mark.cells) S.gens, bag (rowsOf 80 1 pcell) S.commits, bag spanOf S.spans]
def cont (S : CS) (b : Nat) : Sg := (mget S.spans b).getD sg0
structure Rel (S : CS) (p : PS) (n : Nat) : Prop where
  calls : ∀ x, mget S.calls x = p.calls x
  kinds : ∀ x, (mget S.kinds x).getD ask0 = p.kinds x
  done : ∀ x, (mget S.done x).getD false = p.done x
  values : ∀ x, mget S.values x = p.values x
  acked : ∀ x, (mget S.acked x).getD false = p.acked x
  sent : ∀ x, (mget S.sent x).getD 0 = p.sent x
  offsets : ∀ x, ((mget S.offsets x).getD row0).2.2 = p.offsets x
  sends : ∀ x, ((mget S.sends x).getD row0).2.2 = p.sends x
  deletes : ∀ x, ((mget S.deletes x).getD row0).2.2 = p.deletes x
  gens : ∀ x, ((mget S.gens x).getD row0).2.2 = p.gens x
  commits : ∀ x, ((mget S.commits x).getD row0).2.2.map (cont S) = p.commits x
  known : ∀ x, ∀ b ∈ ((mget S.commits x).getD row0).2.2, ∃ g, mget S.spans b = some g
  opened : ∀ x b, mget S.opened x = some b → ∃ g, mget S.spans b = some g ∧ g.id = x
  back : ∀ b g, mget S.spans b = some g → mget S.opened g.id = some b
  asked : ∀ x b, mget S.opened x = some b → p.calls x ≠ none
  nodup : (S.spans.map (·.1)).Nodup
  sentN : ∀ x, 0 ≤ p.sent x ∧ p.sent x ≤ n
  offsetsN : ∀ x, (p.offsets x).length ≤ n
  sendsN : ∀ x, (p.sends x).length ≤ n
  deletesN : ∀ x, (p.deletes x).length ≤ n
  gensN : ∀ x, (p.gens x).length ≤ n
  commitsN : ∀ x, (p.commits x).length ≤ n
def chk (c : Nat) (p : PS) (n : Nat) : SProp := fun h => ∃ S b, Rel S p n ∧ sat (chkL c S b) h
theorem chk_open {c : Nat} {p : PS} {n : Nat} (h : Hp) (H : chk c p n h) : ∃ x : CS × Bl, Rel x.1 p n ∧ sat (chkL c x.1 x.2) h := by
  obtain ⟨S, b, hR, hs⟩ := H; exact ⟨(S, b), hR, hs⟩
theorem chk_close {c : Nat} {p : PS} {n : Nat} {S : CS} {b : Bl} (hR : Rel S p n) (h : Hp) (H : sat (chkL c S b) h) : chk c p n h := ⟨S, b, hR, H⟩

theorem getD_map {α β : Type} (f : α → β) (o : Option α) (d : α) : (o.map f).getD (f d) = f (o.getD d) := by cases o <;> rfl
/-- A row in a bag is in memory. -/
theorem Knows.row {κ α : Type} [DecidableEq κ] {e s : Nat} {f : α → List Value} {T : List (κ × Row α)} {q : κ} {Γ Γ' : List SProp} (p : Pick (bag (rowsOf e s f) T) Γ Γ') : Knows Γ (RowAt ((mget T q).getD row0).1 (((mget T q).getD row0).2.2.flatMap f)) := by
  cases hq : mget T q with
  | none => exact fun _ _ _ => .inl rfl
  | some r =>
    obtain ⟨pr, hp, rfl⟩ : ∃ pr ∈ T, pr.2 = r := by
      unfold mget at hq
      rw [Option.map_eq_some_iff] at hq
      obtain ⟨pr, h1, h2⟩ := hq
      exact ⟨pr, List.mem_of_find?_eq_some h1, h2⟩
    exact Knows.bag p hp (Knows.arr .head)
theorem mget_mem {κ ν : Type} [DecidableEq κ] {T : List (κ × ν)} {q : κ} {v : ν} (h : mget T q = some v) : (q, v) ∈ T := by
  unfold mget at h
  rw [Option.map_eq_some_iff] at h
  obtain ⟨pr, h1, h2⟩ := h
  have := List.find?_some h1
  simp at this
  have hm := List.mem_of_find?_eq_some h1
  obtain ⟨a, b⟩ := pr
  simp at this h2; subst this h2; exact hm
/-- A span in its bag is in memory. -/
theorem Knows.span {T : List (Nat × Sg)} {b : Nat} {g : Sg} {Γ Γ' : List SProp} (p : Pick (bag spanOf T) Γ Γ') (h : mget T b = some g) : Knows Γ (CellsAt b 0 g.cells) :=
  Knows.bag (x := (b, g)) p (mget_mem h) (Knows.blk .head)
end Go.Proofs.Ytahpokcigdjilaa
