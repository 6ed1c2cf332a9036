/- Chapter 20: what messages and the network are, in plain Lean. -/
import Derived.Test.YtfbmbhajpmlffaaL8
namespace Go.Proofs.Ytfbmbhajpmlffaa
open Go Go.Sp

structure Rec where
  key : ByteArray
  value : ByteArray
  time : Int
structure Batch where
  base : Int
  epoch : Int
  pid : Int
  pidEpoch : Int
  seq : Int
  records : List Rec
structure Entry where
  term : Int
  index : Int
  data : ByteArray
  deriving DecidableEq
/-- A message, but for its three lists. -/
structure Hd where
  kind : Int
  frm : Int
  to : Int
  id : Int
  part : Int
  epoch : Int
  offset : Int
  last : Int
  start : Int
  high : Int
  term : Int
  index : Int
  pid : Int
  pidEpoch : Int
  seq : Int
  err : Int
  name : ByteArray
  text : ByteArray
structure Msg where
  hd : Hd
  batches : List Batch
  entries : List Entry
  ints : List Int

def mcells (m : Hd) (b e i : Value) : List Value :=
  [.int .i64 m.kind, .int .i64 m.frm, .int .i64 m.to, .int .i64 m.id, .int .i64 m.part, .int .i64 m.epoch, .int .i64 m.offset, .int .i64 m.last, .int .i64 m.start, .int .i64 m.high, .int .i64 m.term, .int .i64 m.index,
   .int .i64 m.pid, .int .i64 m.pidEpoch, .int .i64 m.seq, .int .i64 m.err, .string m.name, .string m.text, b, e, i]

abbrev _root_.Go.Value.sn : Value := .slice none 0 0

def toS (a b c : Int) : Hd := ⟨0, a, b, c, 0, 0, 0, 0, 0, 0, 0, 0, 0, 0, 0, 0, ⟨#[]⟩, ⟨#[]⟩⟩

/-! ### Cells -/

def Rec.cells (r : Rec) : List Value := [.string r.key, .string r.value, .int .i64 r.time]
def Batch.cells (b : Batch) (a : Option Addr) (c : Nat) : List Value := [.int .i64 b.base, .int .i64 b.epoch, .int .i64 b.pid, .int .i64 b.pidEpoch, .int .i64 b.seq, .slice a b.records.length c]
def Entry.cells (e : Entry) : List Value := [.int .i64 e.term, .int .i64 e.index, .string e.data]
def bcell (p : Batch × Option Addr × Nat) : List Value := p.1.cells p.2.1 p.2.2
def icell (n : Int) : List Value := [.int .i64 n]

theorem Rec.cells_len (r : Rec) : r.cells.length = 3 := rfl
theorem bcell_len (p : Batch × Option Addr × Nat) : (bcell p).length = 6 := rfl
theorem Entry.cells_len (e : Entry) : e.cells.length = 3 := rfl
theorem icell_len (n : Int) : (icell n).length = 1 := rfl
theorem Rec.cells_ones (r : Rec) : ones r.cells := .of rfl
theorem bcell_ones (p : Batch × Option Addr × Nat) : ones (bcell p) := .of rfl
theorem Entry.cells_ones (e : Entry) : ones e.cells := .of rfl
theorem icell_ones (n : Int) : ones (icell n) := .of rfl

/-- Where a message's lists lie. -/
structure Ms where
  ab : Option Addr
  cb : Nat
  ae : Option Addr
  ce : Nat
  ai : Option Addr
  ci : Nat
  rs : List (Option Addr × Nat)

def mval (m : Msg) (s : Ms) : List Value := mcells m.hd (.slice s.ab m.batches.length s.cb) (.slice s.ae m.entries.length s.ce) (.slice s.ai m.ints.length s.ci)
theorem mval_len (m : Msg) (s : Ms) : (mval m s).length = 21 := rfl
theorem mval_ones (m : Msg) (s : Ms) : ones (mval m s) := .of rfl

/-- A message as it reads: its lists lie somewhere. -/
structure mat (m : Msg) (s : Ms) (w : World) : Prop where
  len : s.rs.length = m.batches.length
  b : RowAt s.ab ((m.batches.zip s.rs).flatMap bcell) w
  e : RowAt s.ae (m.entries.flatMap Entry.cells) w
  i : RowAt s.ai (m.ints.flatMap icell) w
  r : ∀ x ∈ m.batches.zip s.rs, RowAt x.2.1 (x.1.records.flatMap Rec.cells) w

/-- What fits into memory. -/
structure Msg.ok (m : Msg) : Prop where
  b : m.batches.length * 64 ≤ 140737488355328
  e : m.entries.length * 32 ≤ 140737488355328
  i : m.ints.length * 8 ≤ 140737488355328
  r : ∀ x ∈ m.batches, x.records.length * 40 ≤ 140737488355328

def recs (l : List (Batch × Option Addr × Nat)) : List SProp := l.map fun x => arr 76 3 x.2.1 x.2.2 (x.1.records.flatMap Rec.cells)
/-- A message of one's own. -/
def owm (m : Msg) (s : Ms) : SProp := sat (emb (s.rs.length = m.batches.length) :: arr 65 6 s.ab s.cb ((m.batches.zip s.rs).flatMap bcell) :: arr 67 3 s.ae s.ce (m.entries.flatMap Entry.cells) :: arr 3 1 s.ai s.ci (m.ints.flatMap icell) :: recs (m.batches.zip s.rs))

theorem owm_close {m : Msg} {s : Ms} (hl : s.rs.length = m.batches.length) : ∀ h, sat [arr 65 6 s.ab s.cb ((m.batches.zip s.rs).flatMap bcell), arr 67 3 s.ae s.ce (m.entries.flatMap Entry.cells), arr 3 1 s.ai s.ci (m.ints.flatMap icell), sat (recs (m.batches.zip s.rs))] h → owm m s h := by
  intro h H
  refine ⟨fun _ => none, h, fun _ => .inl rfl, fun _ _ e => by simp at e, .refl _, hl, ?_⟩
  obtain ⟨h1, h2, ok, l1, l2, a, h3, h4, ok', m1, m2, b, H'⟩ := H
  exact ⟨h1, h2, ok, l1, l2, a, h3, h4, ok', m1, m2, b, H'.all_cons⟩
theorem owm_open {m : Msg} {s : Ms} : ∀ h, owm m s h → ∃ _ : Unit, s.rs.length = m.batches.length ∧ sat [arr 65 6 s.ab s.cb ((m.batches.zip s.rs).flatMap bcell), arr 67 3 s.ae s.ce (m.entries.flatMap Entry.cells), arr 3 1 s.ai s.ci (m.ints.flatMap icell), sat (recs (m.batches.zip s.rs))] h := by
  rintro h ⟨k1, k2, ok0, n1, n2, hl, H⟩
  refine ⟨(), hl, ?_⟩
  obtain ⟨h1, h2, ok, l1, l2, a, h3, h4, ok', m1, m2, b, H'⟩ := H
  exact ⟨h1, h2, ok, l1.trans n2, l2.trans n2, a, h3, h4, ok', m1, m2, b, H'.all_uncons⟩

/-- What of a message's reading concerns no memory. -/
structure mfacts (m : Msg) (s : Ms) : Prop where
  len : s.rs.length = m.batches.length
  nb : s.ab = none → (m.batches.zip s.rs).flatMap bcell = []
  ne : s.ae = none → m.entries.flatMap Entry.cells = []
  ni : s.ai = none → m.ints.flatMap icell = []
  nr : ∀ x ∈ m.batches.zip s.rs, x.2.1 = none → x.1.records.flatMap Rec.cells = []
theorem row_nil {cs w} (h : RowAt none cs w) : cs = [] := by
  rcases h with h | ⟨_, _, h, _⟩
  · exact h
  · cases h
theorem mat.facts {m s w} (h : mat m s w) : mfacts m s :=
  ⟨h.len, fun e => row_nil (e ▸ h.b), fun e => row_nil (e ▸ h.e), fun e => row_nil (e ▸ h.i), fun x hx e => row_nil (e ▸ h.r x hx)⟩
theorem mfacts.zl {m s} (h : mfacts m s) : (m.batches.zip s.rs).length = m.batches.length := by simp [h.len]

theorem owm_mat {Γ Γ' : List SProp} {m s} (p : Pick (owm m s) Γ Γ') : Knows Γ (mat m s) := by
  refine .pick p fun A w h => ?_
  have h1 : Sat A w (emb (s.rs.length = m.batches.length) :: arr 65 6 s.ab s.cb ((m.batches.zip s.rs).flatMap bcell) :: arr 67 3 s.ae s.ce (m.entries.flatMap Entry.cells) :: arr 3 1 s.ai s.ci (m.ints.flatMap icell) :: recs (m.batches.zip s.rs)) := by
    have := h.map fun _ t => sat.unfold (F := []) t
    simpa using this
  refine ⟨?_, Knows.arr (.tail .head) A w h1, Knows.arr (.tail (.tail .head)) A w h1, Knows.arr (.tail (.tail (.tail .head))) A w h1, ?_⟩
  · obtain ⟨_, _, _, _, _, _, _, _, e, _⟩ := h1; exact e
  · intro x hx
    have h2 := h1.drop.drop.drop.drop
    clear h1 h
    generalize m.batches.zip s.rs = l at hx h2
    induction l with
    | nil => cases hx
    | cons y l ih =>
      rcases List.mem_cons.1 hx with rfl | hx
      · exact h2.arr_row
      · exact ih hx h2.drop

/-- pick: which of n things. -/
def pickS (c n : Int) : Int := (if c < 0 then -(c + 1) else c) % n

def endsS (a b : Int) : Int × Int := (if b < a then b else a, if a < b then b else a)
def encP (p : Int × Int) : Value := .agg #[.int .i64 p.1, .int .i64 p.2]
theorem encP_one (p : Int × Int) : encP p = .agg #[.int .i64 p.1, .int .i64 p.2] := rfl
theorem ends_eq (a b : Int) : Value.agg #[.int .i64 (if b < a then b else a), .int .i64 (if a < b then b else a)] = encP (endsS a b) := rfl


/-! ### The network -/

abbrev Pm := Msg × Ms
def pcell (p : Pm) : List Value := mval p.1 p.2
theorem pcell_len (p : Pm) : (pcell p).length = 21 := rfl
theorem pcell_ones (p : Pm) : ones (pcell p) := .of rfl
def owms (l : List Pm) : List SProp := l.map fun p => owm p.1 p.2
abbrev Pt := List ((Int × Int) × Bool)

def net (n : Nat) (ps : List Pm) (pt : Pt) : SProp := fun h =>
  ∃ x : Option Addr × Nat × Nat, sat [blk n [.slice x.1 ps.length x.2.1, .map (some x.2.2)] 57, arr 32 21 x.1 x.2.1 (ps.flatMap pcell), sat (owms ps), mp encP Value.bool x.2.2 pt] h

theorem net_open {n ps pt} : ∀ h, net n ps pt h → ∃ x : Option Addr × Nat × Nat, True ∧ sat [blk n [.slice x.1 ps.length x.2.1, .map (some x.2.2)] 57, arr 32 21 x.1 x.2.1 (ps.flatMap pcell), sat (owms ps), mp encP Value.bool x.2.2 pt] h :=
  fun _ ⟨x, H⟩ => ⟨x, trivial, H⟩
theorem net_close {n ps pt} (a : Option Addr) (c m : Nat) : ∀ h, sat [blk n [.slice a ps.length c, .map (some m)] 57, arr 32 21 a c (ps.flatMap pcell), sat (owms ps), mp encP Value.bool m pt] h → net n ps pt h :=
  fun _ H => ⟨(a, c, m), H⟩

def partedS (pt : Pt) (a b : Int) : Bool := (mget pt (endsS a b)).getD false

end Go.Proofs.Ytfbmbhajpmlffaa
