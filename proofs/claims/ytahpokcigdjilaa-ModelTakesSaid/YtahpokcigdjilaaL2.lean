/- A separation logic over the given machine. Part 2: operations on numbers, truth values and texts; addresses; aggregates. -/
import Derived.Test.YtahpokcigdjilaaL1
import Derived.Laws.Strings
namespace Go.Sp
open Go

section
variable {P : Program} {N : Nat} {E : Env} {Γ : List SProp} {dst : Option Tmp} {ty : TypeId} {pos : String} {after : Array Edge} {guard : Option (Nat × Bool)}

theorem Reads.move {x v} (h : ev E x = some v) : Reads P N E Γ ⟨dst, .move x, ty, pos, after, guard⟩ v := fun _ w a hf _ => by
  simp [execOp, hf.eval h]
theorem Reads.assign {x v} (h : ev E x = some v) : Reads P N E Γ ⟨dst, .assign x, ty, pos, after, guard⟩ v := fun _ w a hf _ => by
  simp [execOp, hf.eval h]

theorem Reads.pick {c x y v} {b : Bool} (hc : ev E c = some (.bool b)) (hT : b = true → ev E x = some v) (hF : b = false → ev E y = some v) : Reads P N E Γ ⟨dst, .pick c x y, ty, pos, after, guard⟩ v := fun _ w a hf _ => by
  cases b with
  | true => simp [execOp, hf.eval hc, asBool, hf.eval (hT rfl)]
  | false => simp [execOp, hf.eval hc, asBool, hf.eval (hF rfl)]
theorem Reads.pickT {c x y v} (hc : ev E c = some (.bool true)) (h : ev E x = some v) : Reads P N E Γ ⟨dst, .pick c x y, ty, pos, after, guard⟩ v := .pick hc (fun _ => h) (fun e => by cases e)
theorem Reads.pickF {c x y v} (hc : ev E c = some (.bool false)) (h : ev E y = some v) : Reads P N E Γ ⟨dst, .pick c x y, ty, pos, after, guard⟩ v := .pick hc (fun e => by cases e) (fun _ => h)

theorem Reads.not {x t} {b : Bool} (h : ev E x = some (.bool b)) : Reads P N E Γ ⟨dst, .unOp .not t x, ty, pos, after, guard⟩ (.bool (!b)) := fun _ w a hf _ => by
  simp [execOp, hf.eval h, Op.unary]

theorem Reads.nilCheck {x} {p : Addr} (h : ev E x = some (.pointer (some p))) : Reads P N E Γ ⟨dst, .nilCheck x, ty, pos, after, guard⟩ (.pointer (some p)) := fun _ w a hf _ => by
  simp [execOp, hf.eval h]

theorem Reads.extract {x vs v} {i : Nat} (h : ev E x = some (.tuple vs)) (hi : vs[i]? = some v) : Reads P N E Γ ⟨dst, .extract x i, ty, pos, after, guard⟩ v := fun _ w a hf _ => by
  simp [execOp, hf.eval h, Instr.extract, hi]

theorem Reads.makeFunc {fn first cap fs cs} (h1 : evs E first.toList = some fs) (h2 : evs E cap.toList = some cs) : Reads P N E Γ ⟨dst, .makeFunc fn first cap, ty, pos, after, guard⟩ (.func fn fs.toArray cs.toArray) := fun _ w a hf _ => by
  have e1 : first.map a.eval = fs.toArray := by
    have := congrArg List.toArray (hf.evals h1)
    rw [← this, ← Array.toList_map]
  have e2 : cap.map a.eval = cs.toArray := by
    have := congrArg List.toArray (hf.evals h2)
    rw [← this, ← Array.toList_map]
  simp [execOp, Instr.makeFunc, e1, e2]

/-! ### Whole numbers -/

theorem eqGuard_plain {op t x y} {a b : Value} (h : ∀ P w, (eqGuard op t x y a b).run P w = .ok () w) (P : Program) (w : World) : (eqGuard op t x y a b).run P w = .ok () w := h P w

theorem eqGuard_int {op t x y} {j k : IntKind} {a b : Int} (P : Program) (w : World) : (eqGuard op t x y (.int j a) (.int k b)).run P w = .ok () w := by
  unfold eqGuard; cases op <;> rfl
theorem eqGuard_bool {op t x y} {a b : Bool} (P : Program) (w : World) : (eqGuard op t x y (.bool a) (.bool b)).run P w = .ok () w := by
  unfold eqGuard; cases op <;> rfl
theorem eqGuard_string {op t x y} {a b : ByteArray} (P : Program) (w : World) : (eqGuard op t x y (.string a) (.string b)).run P w = .ok () w := by
  unfold eqGuard; cases op <;> rfl
theorem eqGuard_pointer {op t x y} {a b : Option Addr} (P : Program) (w : World) : (eqGuard op t x y (.pointer a) (.pointer b)).run P w = .ok () w := by
  unfold eqGuard; cases op <;> rfl
theorem eqGuard_slice {op t x y} {a b : Option Addr} {m n k l} (P : Program) (w : World) : (eqGuard op t x y (.slice a m n) (.slice b k l)).run P w = .ok () w := by
  unfold eqGuard; cases op <;> rfl

theorem Reads.arith {op t x y t'} {k : IntKind} {m n : Int} {v : Value} (hx : ev E x = some (.int k m)) (hy : ev E y = some (.int k n))
    (h : ∀ w, (binOp op t (.int k m) (.int k n)).run P w = .ok v w) : Reads P N E Γ ⟨dst, .binOp op t x y t', ty, pos, after, guard⟩ v := fun _ w a hf _ => by
  simp [execOp, hf.eval hx, hf.eval hy, eqGuard_int, h]

theorem Reads.addW {t x y t'} {k : IntKind} {m n : Int} (hx : ev E x = some (.int k m)) (hy : ev E y = some (.int k n)) :
    Reads P N E Γ ⟨dst, .binOp .add t x y t', ty, pos, after, guard⟩ (.int k (k.wrap (m + n))) := .arith hx hy fun w => by simp [binOp, Op.intArith]
theorem Reads.subW {t x y t'} {k : IntKind} {m n : Int} (hx : ev E x = some (.int k m)) (hy : ev E y = some (.int k n)) :
    Reads P N E Γ ⟨dst, .binOp .sub t x y t', ty, pos, after, guard⟩ (.int k (k.wrap (m - n))) := .arith hx hy fun w => by simp [binOp, Op.intArith]
theorem Reads.mulW {t x y t'} {k : IntKind} {m n : Int} (hx : ev E x = some (.int k m)) (hy : ev E y = some (.int k n)) :
    Reads P N E Γ ⟨dst, .binOp .mul t x y t', ty, pos, after, guard⟩ (.int k (k.wrap (m * n))) := .arith hx hy fun w => by simp [binOp, Op.intArith]

theorem wrap_i64 {n : Int} (h1 : -9223372036854775808 ≤ n) (h2 : n ≤ 9223372036854775807) : IntKind.i64.wrap n = n := by
  unfold IntKind.wrap
  simp only [IntKind.bits, IntKind.signed, Bool.true_and, decide_eq_true_eq, show (2 : Int) ^ 64 = 18446744073709551616 from rfl, show (2 : Int) ^ (64 - 1) = 9223372036854775808 from rfl]
  by_cases h : n % 18446744073709551616 ≥ 9223372036854775808
  · rw [if_pos h]; omega
  · rw [if_neg h]; omega

theorem Reads.add {t x y t'} {m n : Int} (hx : ev E x = some (.int .i64 m)) (hy : ev E y = some (.int .i64 n)) (h1 : -9223372036854775808 ≤ m + n) (h2 : m + n ≤ 9223372036854775807) :
    Reads P N E Γ ⟨dst, .binOp .add t x y t', ty, pos, after, guard⟩ (.int .i64 (m + n)) := by
  have := Reads.addW (P := P) (N := N) (Γ := Γ) (dst := dst) (ty := ty) (pos := pos) (after := after) (guard := guard) (t := t) (t' := t') hx hy
  rwa [wrap_i64 h1 h2] at this
theorem Reads.sub {t x y t'} {m n : Int} (hx : ev E x = some (.int .i64 m)) (hy : ev E y = some (.int .i64 n)) (h1 : -9223372036854775808 ≤ m - n) (h2 : m - n ≤ 9223372036854775807) :
    Reads P N E Γ ⟨dst, .binOp .sub t x y t', ty, pos, after, guard⟩ (.int .i64 (m - n)) := by
  have := Reads.subW (P := P) (N := N) (Γ := Γ) (dst := dst) (ty := ty) (pos := pos) (after := after) (guard := guard) (t := t) (t' := t') hx hy
  rwa [wrap_i64 h1 h2] at this
theorem Reads.mul {t x y t'} {m n : Int} (hx : ev E x = some (.int .i64 m)) (hy : ev E y = some (.int .i64 n)) (h1 : -9223372036854775808 ≤ m * n) (h2 : m * n ≤ 9223372036854775807) :
    Reads P N E Γ ⟨dst, .binOp .mul t x y t', ty, pos, after, guard⟩ (.int .i64 (m * n)) := by
  have := Reads.mulW (P := P) (N := N) (Γ := Γ) (dst := dst) (ty := ty) (pos := pos) (after := after) (guard := guard) (t := t) (t' := t') hx hy
  rwa [wrap_i64 h1 h2] at this

theorem Reads.neg {t x} {n : Int} (hx : ev E x = some (.int .i64 n)) (h1 : -9223372036854775807 ≤ n) (h2 : n ≤ 9223372036854775807) :
    Reads P N E Γ ⟨dst, .unOp .neg t x, ty, pos, after, guard⟩ (.int .i64 (-n)) := fun _ w a hf _ => by
  simp [execOp, hf.eval hx, Op.unary, Op.intArith]
  rw [wrap_i64 (by omega) (by omega)]
theorem Reads.negW {t x} {k : IntKind} {n : Int} (hx : ev E x = some (.int k n)) :
    Reads P N E Γ ⟨dst, .unOp .neg t x, ty, pos, after, guard⟩ (.int k (k.wrap (-n))) := fun _ w a hf _ => by
  simp [execOp, hf.eval hx, Op.unary, Op.intArith]

theorem Reads.quo {t x y t'} {m n : Int} (hx : ev E x = some (.int .i64 m)) (hy : ev E y = some (.int .i64 n)) (h0 : 0 ≤ m) (h1 : 0 < n) (h2 : m ≤ 9223372036854775807) :
    Reads P N E Γ ⟨dst, .binOp .quo t x y t', ty, pos, after, guard⟩ (.int .i64 (m / n)) := .arith hx hy fun w => by
  have hn : n ≠ 0 := by omega
  have hd : m.tdiv n = m / n := Int.tdiv_eq_ediv_of_nonneg h0
  have e1 : 0 ≤ m / n := Int.ediv_nonneg h0 (by omega)
  have e2 : m / n ≤ m := Int.ediv_le_self n h0
  simp [binOp, Op.intDiv, hn, hd, wrap_i64 (n := m / n) (by omega) (by omega)]
theorem Reads.rem {t x y t'} {k : IntKind} {m n : Int} (hx : ev E x = some (.int k m)) (hy : ev E y = some (.int k n)) (h0 : 0 ≤ m) (h1 : 0 < n) :
    Reads P N E Γ ⟨dst, .binOp .rem t x y t', ty, pos, after, guard⟩ (.int k (m % n)) := .arith hx hy fun w => by
  have hn : n ≠ 0 := by omega
  simp [binOp, Op.intDiv, hn, Int.tmod_eq_emod_of_nonneg h0]
theorem Reads.quoW {t x y t'} {k : IntKind} {m n : Int} (hx : ev E x = some (.int k m)) (hy : ev E y = some (.int k n)) (h1 : n ≠ 0) :
    Reads P N E Γ ⟨dst, .binOp .quo t x y t', ty, pos, after, guard⟩ (.int k (k.wrap (m.tdiv n))) := .arith hx hy fun w => by simp [binOp, Op.intDiv, h1]
theorem Reads.remW {t x y t'} {k : IntKind} {m n : Int} (hx : ev E x = some (.int k m)) (hy : ev E y = some (.int k n)) (h1 : n ≠ 0) :
    Reads P N E Γ ⟨dst, .binOp .rem t x y t', ty, pos, after, guard⟩ (.int k (m.tmod n)) := .arith hx hy fun w => by simp [binOp, Op.intDiv, h1]

theorem Reads.and {t x y t'} {k : IntKind} {m n : Int} (hx : ev E x = some (.int k m)) (hy : ev E y = some (.int k n)) :
    Reads P N E Γ ⟨dst, .binOp .and t x y t', ty, pos, after, guard⟩ (.int k (k.wrap (BitVec.ofInt k.bits m &&& BitVec.ofInt k.bits n).toNat)) := .arith hx hy fun w => by simp [binOp, Op.intBits]
theorem Reads.or {t x y t'} {k : IntKind} {m n : Int} (hx : ev E x = some (.int k m)) (hy : ev E y = some (.int k n)) :
    Reads P N E Γ ⟨dst, .binOp .or t x y t', ty, pos, after, guard⟩ (.int k (k.wrap (BitVec.ofInt k.bits m ||| BitVec.ofInt k.bits n).toNat)) := .arith hx hy fun w => by simp [binOp, Op.intBits]
theorem Reads.xor {t x y t'} {k : IntKind} {m n : Int} (hx : ev E x = some (.int k m)) (hy : ev E y = some (.int k n)) :
    Reads P N E Γ ⟨dst, .binOp .xor t x y t', ty, pos, after, guard⟩ (.int k (k.wrap (BitVec.ofInt k.bits m ^^^ BitVec.ofInt k.bits n).toNat)) := .arith hx hy fun w => by simp [binOp, Op.intBits]

theorem Reads.shl {t x y t'} {k j : IntKind} {m : Int} {n : Nat} (hx : ev E x = some (.int k m)) (hy : ev E y = some (.int j (n : Int))) :
    Reads P N E Γ ⟨dst, .binOp .shl t x y t', ty, pos, after, guard⟩ (.int k (k.wrap (m * 2 ^ (min n k.bits)))) := fun _ w a hf _ => by
  have h0 : ¬ ((n : Int) < 0) := by omega
  simp [execOp, hf.eval hx, hf.eval hy, eqGuard_int, binOp, Op.shift, h0]
theorem Reads.shr {t x y t'} {k j : IntKind} {m : Int} {n : Nat} (hx : ev E x = some (.int k m)) (hy : ev E y = some (.int j (n : Int))) :
    Reads P N E Γ ⟨dst, .binOp .shr t x y t', ty, pos, after, guard⟩ (.int k (m.fdiv (2 ^ (min n k.bits)))) := fun _ w a hf _ => by
  have h0 : ¬ ((n : Int) < 0) := by omega
  simp [execOp, hf.eval hx, hf.eval hy, eqGuard_int, binOp, Op.shift, h0]

theorem Reads.eqI {t x y t'} {k : IntKind} {m n : Int} (hx : ev E x = some (.int k m)) (hy : ev E y = some (.int k n)) :
    Reads P N E Γ ⟨dst, .binOp .eql t x y t', ty, pos, after, guard⟩ (.bool (decide (m = n))) := .arith hx hy fun w => by
  simp [binOp, Op.intCmp]; rw [Bool.eq_iff_iff]; simp
theorem Reads.neI {t x y t'} {k : IntKind} {m n : Int} (hx : ev E x = some (.int k m)) (hy : ev E y = some (.int k n)) :
    Reads P N E Γ ⟨dst, .binOp .neq t x y t', ty, pos, after, guard⟩ (.bool (!decide (m = n))) := .arith hx hy fun w => by
  simp [binOp, Op.intCmp]; rw [Bool.eq_iff_iff]; simp
theorem Reads.lt {t x y t'} {k : IntKind} {m n : Int} (hx : ev E x = some (.int k m)) (hy : ev E y = some (.int k n)) :
    Reads P N E Γ ⟨dst, .binOp .lss t x y t', ty, pos, after, guard⟩ (.bool (decide (m < n))) := .arith hx hy fun w => by simp [binOp, Op.intCmp]
theorem Reads.le {t x y t'} {k : IntKind} {m n : Int} (hx : ev E x = some (.int k m)) (hy : ev E y = some (.int k n)) :
    Reads P N E Γ ⟨dst, .binOp .leq t x y t', ty, pos, after, guard⟩ (.bool (decide (m ≤ n))) := .arith hx hy fun w => by simp [binOp, Op.intCmp]
theorem Reads.gt {t x y t'} {k : IntKind} {m n : Int} (hx : ev E x = some (.int k m)) (hy : ev E y = some (.int k n)) :
    Reads P N E Γ ⟨dst, .binOp .gtr t x y t', ty, pos, after, guard⟩ (.bool (decide (n < m))) := .arith hx hy fun w => by simp [binOp, Op.intCmp]
theorem Reads.ge {t x y t'} {k : IntKind} {m n : Int} (hx : ev E x = some (.int k m)) (hy : ev E y = some (.int k n)) :
    Reads P N E Γ ⟨dst, .binOp .geq t x y t', ty, pos, after, guard⟩ (.bool (decide (n ≤ m))) := .arith hx hy fun w => by simp [binOp, Op.intCmp]

theorem Reads.convInt {s d x} {k j : IntKind} {n : Int} {ds : TypeDesc} (hs : P.underlying s = some ds) (hd : P.underlying d = some (.int k)) (hx : ev E x = some (.int j n)) :
    Reads P N E Γ ⟨dst, .convert s d x, ty, pos, after, guard⟩ (.int k (k.wrap n)) := fun _ w a hf _ => by
  simp only [execOp, hf.eval hx, convert, underlying, Sem.run_bind, run_program, Result.andThen_ok, hs, hd, Sem.run_pure]
  simp [Conv.intToInt]

/-! ### Truth values -/

theorem equalIn_bool {t} {a b : Bool} (hu : P.underlying t = some .bool) (d : Nat) (w : World) : (Op.equalIn (d + 1) t (.bool a) (.bool b)).run P w = .ok (a == b) w := by
  rw [Op.equalIn.eq_def]; simp [underlying, hu]
theorem equalIn_int {t} {k j : IntKind} {a b : Int} (hu : P.underlying t = some (.int k)) (d : Nat) (w : World) : (Op.equalIn (d + 1) t (.int j a) (.int j b)).run P w = .ok (a == b) w := by
  rw [Op.equalIn.eq_def]; simp [underlying, hu]
theorem equalIn_string {t} {a b : ByteArray} (hu : P.underlying t = some .string) (d : Nat) (w : World) : (Op.equalIn (d + 1) t (.string a) (.string b)).run P w = .ok (a == b) w := by
  rw [Op.equalIn.eq_def]; simp [underlying, hu]
theorem equalIn_nilP {t e} {p : Option Addr} (hu : P.underlying t = some (.pointer e)) (d : Nat) (w : World) : (Op.equalIn (d + 1) t (.pointer p) (.pointer none)).run P w = .ok p.isNone w := by
  rw [Op.equalIn.eq_def]; cases p <;> simp [underlying, hu]
theorem equalIn_nilL {t e} {p : Option Addr} {n c} (hu : P.underlying t = some (.slice e)) (d : Nat) (w : World) : (Op.equalIn (d + 1) t (.slice p n c) (.slice none 0 0)).run P w = .ok p.isNone w := by
  rw [Op.equalIn.eq_def]; cases p <;> simp [underlying, hu]

theorem binOp_eql {t} {x y : Value} {b : Bool} (hb : ∀ _ : World, (binOp .eql t x y) = (do Pure.pure (.bool (← Op.equal t x y)))) (w : World) (h : (Op.equalIn (9999 + 1) t x y).run P w = .ok b w) :
    (binOp .eql t x y).run P w = .ok (.bool b) w := by
  rw [hb w]
  have h' : (Op.equal t x y).run P w = .ok b w := h
  simp [h']
theorem binOp_neq {t} {x y : Value} {b : Bool} (hb : ∀ _ : World, (binOp .neq t x y) = (do Pure.pure (.bool (!(← Op.equal t x y))))) (w : World) (h : (Op.equalIn (9999 + 1) t x y).run P w = .ok b w) :
    (binOp .neq t x y).run P w = .ok (.bool (!b)) w := by
  rw [hb w]
  have h' : (Op.equal t x y).run P w = .ok b w := h
  simp [h']

theorem Reads.bin {op t x y t'} {u v z : Value} (hx : ev E x = some u) (hy : ev E y = some v) (hg : ∀ w, (eqGuard op t x y u v).run P w = .ok () w) (h : ∀ w, (binOp op t u v).run P w = .ok z w) :
    Reads P N E Γ ⟨dst, .binOp op t x y t', ty, pos, after, guard⟩ z := fun _ w a hf _ => by
  simp only [execOp, hf.eval hx, hf.eval hy, Sem.run_bind, hg, Result.andThen_ok, h, Sem.run_pure]

theorem Reads.eqB {t x y t'} {m n : Bool} (hu : P.underlying t = some .bool) (hx : ev E x = some (.bool m)) (hy : ev E y = some (.bool n)) :
    Reads P N E Γ ⟨dst, .binOp .eql t x y t', ty, pos, after, guard⟩ (.bool (m == n)) :=
  .bin hx hy (eqGuard_bool P) fun w => binOp_eql (fun _ => rfl) w (equalIn_bool hu 9999 w)
theorem Reads.neB {t x y t'} {m n : Bool} (hu : P.underlying t = some .bool) (hx : ev E x = some (.bool m)) (hy : ev E y = some (.bool n)) :
    Reads P N E Γ ⟨dst, .binOp .neq t x y t', ty, pos, after, guard⟩ (.bool (!(m == n))) :=
  .bin hx hy (eqGuard_bool P) fun w => binOp_neq (fun _ => rfl) w (equalIn_bool hu 9999 w)

/-! ### Texts -/

theorem toList_inj {s t : ByteArray} : s.toList = t.toList ↔ s = t := by
  constructor
  · intro h
    rw [ByteArray.toList_eq, ByteArray.toList_eq] at h
    cases s; cases t
    simp at h; simp [h]
  · rintro rfl; rfl

theorem Reads.eqS {t x y t'} {m n : ByteArray} (hx : ev E x = some (.string m)) (hy : ev E y = some (.string n)) :
    Reads P N E Γ ⟨dst, .binOp .eql t x y t', ty, pos, after, guard⟩ (.bool (decide (m = n))) := fun _ w a hf _ => by
  simp [execOp, hf.eval hx, hf.eval hy, eqGuard_string, binOp, Op.stringOp]
  rw [Bool.eq_iff_iff]; simp [toList_inj]
theorem Reads.neS {t x y t'} {m n : ByteArray} (hx : ev E x = some (.string m)) (hy : ev E y = some (.string n)) :
    Reads P N E Γ ⟨dst, .binOp .neq t x y t', ty, pos, after, guard⟩ (.bool (!decide (m = n))) := fun _ w a hf _ => by
  simp [execOp, hf.eval hx, hf.eval hy, eqGuard_string, binOp, Op.stringOp]
  rw [Bool.eq_iff_iff]; simp [toList_inj]
theorem Reads.cat {t x y t'} {m n : ByteArray} (hx : ev E x = some (.string m)) (hy : ev E y = some (.string n)) (hl : m.size + n.size ≤ 9223372036854775807) :
    Reads P N E Γ ⟨dst, .binOp .add t x y t', ty, pos, after, guard⟩ (.string (m ++ n)) := fun _ w a hf _ => by
  simp [execOp, hf.eval hx, hf.eval hy, eqGuard_string, binOp, Op.stringOp]
  omega

theorem Reads.indexS {t x i} {s : ByteArray} {k : IntKind} {n : Int} {b : UInt8} (hu : P.underlying t = some .string) (hx : ev E x = some (.string s)) (hi : ev E i = some (.int k n)) (h0 : 0 ≤ n)
    (hb : s.data[n.toNat]? = some b) : Reads P N E Γ ⟨dst, .index t x i, ty, pos, after, guard⟩ (.int .u8 b.toNat) := fun _ w a hf _ => by
  have hlt : n.toNat < s.size := by
    have := (Array.getElem?_eq_some_iff.1 hb).1; exact this
  have hb' : s[n.toNat]? = some b := by
    rw [getElem?_pos s n.toNat hlt]
    have := (Array.getElem?_eq_some_iff.1 hb).2
    exact congrArg some this
  simp [execOp, hf.eval hx, hf.eval hi, Instr.index, asIntOf, underlying, hu, h0, hb']

theorem Reads.lenS {args : Array Operand} {x t ts} {s : ByteArray} (ha : args = #[x]) (hts : ts = #[t]) (hu : P.underlying t = some .string) (hx : ev E x = some (.string s)) :
    Reads P N E Γ ⟨dst, .call ⟨.builtin .len, args, ts⟩, ty, pos, after, guard⟩ (.int .i64 s.size) := fun _ w a hf _ => by
  subst ha hts
  simp [execOp, resolve, invoke, builtin, Builtin.len_, hf.eval hx, underlying, hu, goInt]

theorem Reads.lenL {args : Array Operand} {x t e ts} {p : Option Addr} {n c : Nat} (ha : args = #[x]) (hts : ts = #[t]) (hu : P.underlying t = some (.slice e)) (hx : ev E x = some (.slice p n c)) :
    Reads P N E Γ ⟨dst, .call ⟨.builtin .len, args, ts⟩, ty, pos, after, guard⟩ (.int .i64 n) := fun _ w a hf _ => by
  subst ha hts
  simp [execOp, resolve, invoke, builtin, Builtin.len_, hf.eval hx, underlying, hu, goInt]

theorem Reads.min2 {args : Array Operand} {x y ts} {k : IntKind} {m n : Int} (ha : args = #[x, y]) (hx : ev E x = some (.int k m)) (hy : ev E y = some (.int k n)) :
    Reads P N E Γ ⟨dst, .call ⟨.builtin .min, args, ts⟩, ty, pos, after, guard⟩ (.int k (if n < m then n else m)) := fun _ w a hf _ => by
  subst ha
  simp [execOp, resolve, invoke, builtin, Builtin.min_, Builtin.min2, hf.eval hx, hf.eval hy]
theorem Reads.max2 {args : Array Operand} {x y ts} {k : IntKind} {m n : Int} (ha : args = #[x, y]) (hx : ev E x = some (.int k m)) (hy : ev E y = some (.int k n)) :
    Reads P N E Γ ⟨dst, .call ⟨.builtin .max, args, ts⟩, ty, pos, after, guard⟩ (.int k (if m < n then n else m)) := fun _ w a hf _ => by
  subst ha
  simp [execOp, resolve, invoke, builtin, Builtin.max_, Builtin.max2, hf.eval hx, hf.eval hy]

/-- A slice of a text. -/
theorem Reads.sliceS {t x} {s : ByteArray} {lo hi : Option Operand} {l h : Nat} (hu : P.underlying t = some .string) (hx : ev E x = some (.string s))
    (hlo : match lo with | none => l = 0 | some o => ∃ k, ev E o = some (.int k (l : Int))) (hhi : match hi with | none => h = s.size | some o => ∃ k, ev E o = some (.int k (h : Int)))
    (h1 : l ≤ h) (h2 : h ≤ s.size) : Reads P N E Γ ⟨dst, .slice t x lo hi none, ty, pos, after, guard⟩ (.string (s.extract l h)) := fun _ w a hf _ => by
  have b3 : (0 ≤ (h : Int)) := by omega
  have b4 : (0 ≤ (l : Int)) := by omega
  cases lo with
  | none =>
    simp only at hlo; subst hlo
    cases hi with
    | none => simp only at hhi; subst hhi; simp [execOp, Instr.sliceAt, Instr.slice, Instr.sliceBounds, hf.eval hx, underlying, hu]
    | some o =>
      obtain ⟨k, ho⟩ := hhi
      simp [execOp, Instr.sliceAt, Instr.slice, Instr.sliceBounds, Instr.sliceBound, asIntOf, hf.eval hx, hf.eval ho, underlying, hu, b3, h2]
  | some o' =>
    obtain ⟨k', ho'⟩ := hlo
    cases hi with
    | none => simp only at hhi; subst hhi; simp [execOp, Instr.sliceAt, Instr.slice, Instr.sliceBounds, Instr.sliceBound, asIntOf, hf.eval hx, hf.eval ho', underlying, hu, b4, h1]
    | some o =>
      obtain ⟨k, ho⟩ := hhi
      simp [execOp, Instr.sliceAt, Instr.slice, Instr.sliceBounds, Instr.sliceBound, asIntOf, hf.eval hx, hf.eval ho, hf.eval ho', underlying, hu, b3, b4, h1, h2]

/-! ### Pointers, addresses -/

theorem Reads.eqNilP {t x y t' e} {p : Option Addr} (hu : P.underlying t = some (.pointer e)) (hx : ev E x = some (.pointer p)) (hy : ev E y = some (.pointer none)) :
    Reads P N E Γ ⟨dst, .binOp .eql t x y t', ty, pos, after, guard⟩ (.bool p.isNone) :=
  .bin hx hy (eqGuard_pointer P) fun w => binOp_eql (fun _ => rfl) w (equalIn_nilP hu 9999 w)
theorem Reads.neNilP {t x y t' e} {p : Option Addr} (hu : P.underlying t = some (.pointer e)) (hx : ev E x = some (.pointer p)) (hy : ev E y = some (.pointer none)) :
    Reads P N E Γ ⟨dst, .binOp .neq t x y t', ty, pos, after, guard⟩ (.bool (!p.isNone)) :=
  .bin hx hy (eqGuard_pointer P) fun w => binOp_neq (fun _ => rfl) w (equalIn_nilP hu 9999 w)
theorem Reads.eqNilL {t x y t' e} {p : Option Addr} {n c} (hu : P.underlying t = some (.slice e)) (hx : ev E x = some (.slice p n c)) (hy : ev E y = some (.slice none 0 0)) :
    Reads P N E Γ ⟨dst, .binOp .eql t x y t', ty, pos, after, guard⟩ (.bool p.isNone) :=
  .bin hx hy (eqGuard_slice P) fun w => binOp_eql (fun _ => rfl) w (equalIn_nilL hu 9999 w)
theorem Reads.neNilL {t x y t' e} {p : Option Addr} {n c} (hu : P.underlying t = some (.slice e)) (hx : ev E x = some (.slice p n c)) (hy : ev E y = some (.slice none 0 0)) :
    Reads P N E Γ ⟨dst, .binOp .neq t x y t', ty, pos, after, guard⟩ (.bool (!p.isNone)) :=
  .bin hx hy (eqGuard_slice P) fun w => binOp_neq (fun _ => rfl) w (equalIn_nilL hu 9999 w)

theorem Addr_add (b o n : Nat) : (⟨b, o, none⟩ : Addr).add n = ⟨b, o + n, none⟩ := by
  unfold Addr.add; split
  · rename_i h; simp [h]
  · rfl

/-- What the table says of a type: its cells, its bytes, its zero value. -/
def TI (P : Program) (t : TypeId) (size bytes : Nat) (zero : Value) : Prop := ∃ i, P.info? t = some i ∧ i.size = size ∧ i.bytes = bytes ∧ i.zero = some zero
/-- Its cells alone. -/
def TS (P : Program) (t : TypeId) (size : Nat) : Prop := ∃ i, P.info? t = some i ∧ i.size = size
theorem TI.ts {P t s b z} (h : TI P t s b z) : TS P t s := let ⟨i, a, b, _⟩ := h; ⟨i, a, b⟩
theorem TI.of {P : Program} {t s b z} (h : (P.info? t).map (fun i => (i.size, i.bytes, i.zero)) = some (s, b, some z)) : TI P t s b z := by
  cases e : P.info? t with
  | none => simp [e] at h
  | some i => simp [e] at h; exact ⟨i, e, h⟩
theorem TS.of {P : Program} {t s} (h : (P.info? t).map (·.size) = some s) : TS P t s := by
  cases e : P.info? t with
  | none => simp [e] at h
  | some i => simp [e] at h; exact ⟨i, e, h⟩
theorem TS.run {P : Program} {t s} (h : TS P t s) (w : World) : (sizeOf t).run P w = .ok s w := by
  obtain ⟨i, h1, h2⟩ := h
  simp [sizeOf, typeInfo, h1, h2]
theorem TI.zero {P : Program} {t s b z} (h : TI P t s b z) (w : World) : (zeroValue t).run P w = .ok z w := by
  obtain ⟨i, h1, h2, h3, h4⟩ := h
  simp [zeroValue, typeInfo, h1, h4]

/-- A field's place: its number f lies at off, and has cells. -/
def FD (P : Program) (s : TypeId) (f off : Nat) : Prop := ∃ fs fd n, P.underlying s = some (.struct fs) ∧ fs[f]? = some fd ∧ fd.offset = off ∧ TS P fd.type (n + 1)

theorem FD.of {P : Program} {s f off} {fs : Array Field} (h : P.underlying s = some (.struct fs)) (h1 : (fs[f]?).map (fun d => (d.offset, ((P.info? d.type).map fun i => decide (0 < i.size)).getD false)) = some (off, true)) : FD P s f off := by
  cases e : fs[f]? with
  | none => simp [e] at h1
  | some d =>
    simp [e] at h1
    obtain ⟨h2, h3⟩ := h1
    cases e2 : P.info? d.type with
    | none => simp [e2] at h3
    | some i =>
      simp [e2] at h3
      exact ⟨fs, d, i.size - 1, h, e, h2, i, e2, by omega⟩

theorem Reads.fieldAddr {s x f off} {b o : Nat} (hd : FD P s f off) (hx : ev E x = some (.pointer (some ⟨b, o, none⟩))) :
    Reads P N E Γ ⟨dst, .fieldAddr s x f, ty, pos, after, guard⟩ (.pointer (some ⟨b, o + off, none⟩)) := fun _ w a hf _ => by
  obtain ⟨fs, fd, n, h1, h2, h3, h4⟩ := hd
  simp [execOp, hf.eval hx, Instr.fieldAt, underlying, h1, h2, Instr.sureAddr, fieldPlace, h4.run, Addr_add, h3]

theorem Reads.indexAddr {t x i e} {b o n c s : Nat} {k : IntKind} {j : Int} (hu : P.underlying t = some (.slice e)) (hs : TS P e s) (hx : ev E x = some (.slice (some ⟨b, o, none⟩) n c)) (hi : ev E i = some (.int k j))
    (h0 : 0 ≤ j) (h1 : j < n) : Reads P N E Γ ⟨dst, .indexAddr t x i, ty, pos, after, guard⟩ (.pointer (some ⟨b, o + j.toNat * s, none⟩)) := fun _ w a hf _ => by
  simp [execOp, hf.eval hx, hf.eval hi, Instr.indexAt, underlying, hu, asIntOf, h0, h1, hs.run, Addr_add]

theorem Reads.indexAddrA {t x i e} {b o n s : Nat} {k : IntKind} {j : Int} (hu : P.underlying t = some (.array n e)) (hs : TS P e s) (hx : ev E x = some (.pointer (some ⟨b, o, none⟩))) (hi : ev E i = some (.int k j))
    (h0 : 0 ≤ j) (h1 : j < n) : Reads P N E Γ ⟨dst, .indexAddr t x i, ty, pos, after, guard⟩ (.pointer (some ⟨b, o + j.toNat * s, none⟩)) := fun _ w a hf _ => by
  simp [execOp, hf.eval hx, hf.eval hi, Instr.indexAt, Instr.sureAddr, underlying, hu, asIntOf, h0, h1, hs.run, Addr_add]

/-! ### Aggregates by value -/

def NotAgg (P : Program) (t : TypeId) : Prop := ∃ d, P.underlying t = some d ∧ (match d with | .struct _ | .array _ _ => False | _ => True)
def IsAgg (P : Program) (t : TypeId) : Prop := ∃ d, P.underlying t = some d ∧ (match d with | .struct _ | .array _ _ => True | _ => False)

theorem NotAgg.run {t} (h : NotAgg P t) (w : World) : (isAgg t).run P w = .ok false w := by
  obtain ⟨d, h1, h2⟩ := h
  cases d <;> first | exact h2.elim | simp [isAgg, underlying, h1]
theorem IsAgg.run {t} (h : IsAgg P t) (w : World) : (isAgg t).run P w = .ok true w := by
  obtain ⟨d, h1, h2⟩ := h
  cases d <;> first | exact h2.elim | simp [isAgg, underlying, h1]

theorem Reads.field1 {t x f off v} {cs : Array Value} {fs : Array Field} {ft : TypeId} (hu : P.underlying t = some (.struct fs)) (hf' : (fs[f]?).map (fun d => (d.type, d.offset)) = some (ft, off)) (hn : NotAgg P ft)
    (hx : ev E x = some (.agg cs)) (hv : cs[off]? = some v) : Reads P N E Γ ⟨dst, .field t x f, ty, pos, after, guard⟩ v := fun _ w a hf _ => by
  cases e : fs[f]? with
  | none => simp [e] at hf'
  | some d =>
    simp [e] at hf'
    obtain ⟨e1, e2⟩ := hf'
    subst e1 e2
    simp [execOp, hf.eval hx, Instr.field, underlying, hu, e, asAgg, part, hn.run, hv]

theorem Reads.fieldN {t x f off n} {cs cs' : Array Value} {fs : Array Field} {ft : TypeId} (hu : P.underlying t = some (.struct fs)) (hf' : (fs[f]?).map (fun d => (d.type, d.offset)) = some (ft, off)) (hn : IsAgg P ft) (hs : TS P ft n)
    (hx : ev E x = some (.agg cs)) (hv : cs.extract off (off + n) = cs') : Reads P N E Γ ⟨dst, .field t x f, ty, pos, after, guard⟩ (.agg cs') := fun _ w a hf _ => by
  cases e : fs[f]? with
  | none => simp [e] at hf'
  | some d =>
    simp [e] at hf'
    obtain ⟨e1, e2⟩ := hf'
    subst e1 e2
    simp [execOp, hf.eval hx, Instr.field, underlying, hu, e, asAgg, part, hn.run, hs.run, hv]

theorem Reads.indexA1 {t x i e v} {n s : Nat} {cs : Array Value} {k : IntKind} {j : Int} (hu : P.underlying t = some (.array n e)) (hn : NotAgg P e) (hs : TS P e s) (hx : ev E x = some (.agg cs)) (hi : ev E i = some (.int k j))
    (h0 : 0 ≤ j) (h1 : j < n) (hv : cs[j.toNat * s]? = some v) : Reads P N E Γ ⟨dst, .index t x i, ty, pos, after, guard⟩ v := fun _ w a hf _ => by
  simp [execOp, hf.eval hx, hf.eval hi, Instr.index, asIntOf, underlying, hu, h0, h1, hs.run, part, hn.run, hv]

end
end Go.Sp
