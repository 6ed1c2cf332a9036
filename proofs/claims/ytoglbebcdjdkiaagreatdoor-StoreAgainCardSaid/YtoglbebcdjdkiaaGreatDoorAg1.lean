/- Part 1 of a claim's texts: rules for the machine's steps, and steps through functions of the program, under the conditions that each theorem states. -/
import Derived.KernelRfl
import Derived.Test.YtoglbebcdjdkiaaGreatDoorProg
import Derived.Maps.RangeRun
import Derived.Test.YtoglbebcdjdkiaaGreatDoorAg0
set_option linter.unusedVariables false
/- Chapter 6: a disk, in plain Lean. -/
namespace Go.Proofs.YtoglbebcdjdkiaaGreatDoor
open Go Go.Sp
structure Fl where
 b : List UInt8
 safe : Nat
def Fl.val (f : Fl) : Value := .agg #[.string (str f.b), .int .i64 (f.safe : Int)]
def fl0 : Fl := ⟨[], 0⟩
abbrev Nm := List UInt8
def nmv (n : Nm) : Value := .string (str n)
theorem str_one : ∀ x y : Nm, str x = str y → x = y := fun _ _ => str_inj.1
abbrev Fs := List (Nm × Fl)
def total (fs : Fs) : Nat := (fs.map fun p => p.2.b.length).sum
structure Dk where
 size : Nat
 fs : Fs
def Dk.get (d : Dk) (n : Nm) : Option Fl := mget d.fs n
def Dk.file (d : Dk) (n : Nm) : Fl := (mget d.fs n).getD fl0
def Dk.put (d : Dk) (n : Nm) (f : Fl) : Dk := { d with fs := mset d.fs n f }
def Dk.del (d : Dk) (n : Nm) : Dk := { d with fs := mdel d.fs n }
def Dk.used (d : Dk) : Nat := total d.fs
structure Dk.ok (d : Dk) : Prop where
 nodup : (d.fs.map (·.1)).Nodup
 used : d.used ≤ d.size
 size : d.size ≤ 16777216
 safe : ∀ p ∈ d.fs, p.2.safe ≤ p.2.b.length
theorem total_cons (p : Nm × Fl) (fs : Fs) : total (p :: fs) = p.2.b.length + total fs := by simp [total]
theorem total_mem {n : Nm} {f : Fl} : ∀ {fs : Fs}, (n, f) ∈ fs → f.b.length ≤ total fs
 | p :: fs, h => by
  rw [total_cons]
  rcases List.mem_cons.1 h with rfl | h
  ·
   exact Nat.le_add_right ..
  ·
   exact Nat.le_trans (total_mem h) (Nat.le_add_left ..)
theorem total_none {n : Nm} {f : Fl} : ∀ {fs : Fs}, n ∉ fs.map (·.1) → fs.map (fun p => if n = p.1 then (p.1, f) else p) = fs := fun {fs} h => by
 refine (List.map_congr_left (g := id) fun p hp => ?_).trans (List.map_id _)
 rw [if_neg (fun e : n = p.1 => h (by rw [e]; exact List.mem_map_of_mem hp))]; rfl
theorem mget_notin {fs : Fs} {n : Nm} (h : n ∉ fs.map (·.1)) : mget fs n = none := mget_none.2 (Bool.eq_false_iff.2 fun e => by
 obtain ⟨p, hp, hn⟩ := List.any_eq_true.1 e
 exact h (by rw [of_decide_eq_true hn]; exact List.mem_map_of_mem hp))
theorem mget_in {fs : Fs} {n : Nm} (h : n ∈ fs.map (·.1)) : (mget fs n).isSome = true := by
 cases e : mget fs n with
 | some _ => rfl
 | none =>
  obtain ⟨p, hp, rfl⟩ := List.mem_map.1 h
  have := mget_none.1 e
  exact absurd (List.any_eq_true.2 ⟨p, hp, by simp⟩) (Bool.eq_false_iff.1 this)
theorem mget_mem {fs : Fs} {n : Nm} {f : Fl} (h : mget fs n = some f) : (n, f) ∈ fs := by
 unfold mget at h
 obtain ⟨p, hp, rfl⟩ := Option.map_eq_some_iff.1 h
 have h1 := List.find?_some hp
 have h2 := List.mem_of_find?_eq_some hp
 rw [of_decide_eq_true h1]; exact h2
theorem total_mset (n : Nm) (f : Fl) : ∀ {fs : Fs}, (fs.map (·.1)).Nodup → total (mset fs n f) + ((mget fs n).getD fl0).b.length = total fs + f.b.length
 | [], _ => by simp [mset, total, mget, fl0]
 | p :: fs, h => by
  rw [List.map_cons, List.nodup_cons] at h
  by_cases hp : n = p.1
  ·
   subst hp
   unfold mset
   rw [if_pos (by simp), List.map_cons, if_pos rfl, total_none h.1, total_cons, total_cons, mget_cons, if_pos rfl]
   show f.b.length + total fs + p.2.b.length = _
   omega
  ·
   have ih := total_mset n f h.2
   have e : mset (p :: fs) n f = p :: mset fs n f := by
    unfold mset
    rw [List.any_cons, decide_eq_false hp, Bool.false_or, List.map_cons, if_neg hp]
    split <;> rfl
   rw [e, total_cons, total_cons, mget_cons, if_neg hp]; omega
theorem total_mdel (n : Nm) : ∀ {fs : Fs}, (fs.map (·.1)).Nodup → total (mdel fs n) + ((mget fs n).getD fl0).b.length = total fs
 | [], _ => rfl
 | p :: fs, h => by
  rw [List.map_cons, List.nodup_cons] at h
  unfold mdel
  rw [List.filter_cons]
  by_cases hp : n = p.1
  ·
   subst hp
   have ih := total_mdel p.1 h.2
   rw [mget_notin h.1] at ih
   unfold mdel at ih
   rw [decide_eq_true rfl, mget_cons, if_pos rfl, total_cons]
   simp only [Bool.not_true, Bool.false_eq_true, if_false, Option.getD_some]
   have : (none : Option Fl).getD fl0 = fl0 := rfl
   rw [this] at ih
   have : fl0.b.length = 0 := rfl
   omega
  ·
   have ih := total_mdel n h.2
   unfold mdel at ih
   rw [decide_eq_false hp, mget_cons, if_neg hp, total_cons]
   simp only [Bool.not_false, if_true, total_cons]
   omega
theorem Dk.file_le {d : Dk} (n : Nm) : (d.file n).b.length ≤ d.used := by
 unfold Dk.file
 cases h : mget d.fs n with
 | none => exact Nat.zero_le _
 | some f =>
  have := mget_mem h
  exact total_mem this
theorem Dk.file_of {d : Dk} {n : Nm} {f : Fl} (h : d.get n = some f) : d.file n = f := by unfold Dk.file; unfold Dk.get at h; rw [h]; rfl
theorem Dk.used_put {d : Dk} (h : d.ok) (n : Nm) (f : Fl) : (d.put n f).used + (d.file n).b.length = d.used + f.b.length := total_mset n f h.nodup
theorem Dk.used_del {d : Dk} (h : d.ok) (n : Nm) : (d.del n).used + (d.file n).b.length = d.used := total_mdel n h.nodup
theorem Dk.ok_put {d : Dk} (h : d.ok) {n : Nm} {f : Fl} (hu : d.used + f.b.length ≤ d.size + (d.file n).b.length) (hs : f.safe ≤ f.b.length) : (d.put n f).ok := by
 refine ⟨mset_nodup h.nodup _ _, ?_, h.size, fun p hp => ?_⟩
 ·
  have := Dk.used_put h n f
  show _ ≤ d.size
  omega
 ·
  have : p = (n, f) ∨ p ∈ d.fs := by
   unfold Dk.put mset at hp
   dsimp only at hp
   split at hp
   ·
    obtain ⟨q, hq, e⟩ := List.mem_map.1 hp
    split at e
    ·
     rename_i hn; exact .inl (by rw [← e, ← hn])
    ·
     exact .inr (e ▸ hq)
   ·
    rcases List.mem_append.1 hp with hp | hp
    ·
     exact .inr hp
    ·
     exact .inl (List.mem_singleton.1 hp)
  rcases this with rfl | hp
  ·
   exact hs
  ·
   exact h.safe p hp
theorem Dk.ok_del {d : Dk} (h : d.ok) (n : Nm) : (d.del n).ok :=
 ⟨mdel_nodup h.nodup _, by have := Dk.used_del h n; have := h.used; show _ ≤ d.size; omega, h.size, fun p hp => h.safe p (List.mem_filter.1 hp).1⟩
theorem Dk.get_put (d : Dk) (n m : Nm) (f : Fl) : (d.put n f).get m = if m = n then some f else d.get m := mget_mset _ _ _ _
theorem Dk.get_del (d : Dk) (n m : Nm) : (d.del n).get m = if m = n then none else d.get m := mget_mdel _ _ _
theorem Dk.safe_le {d : Dk} (h : d.ok) {n : Nm} {f : Fl} (hg : d.get n = some f) : f.safe ≤ f.b.length := h.safe _ (mget_mem hg)
def Dk.cells (d : Dk) (mb : Nat) : List Value := [.int .i64 (d.size : Int), .int .i64 (d.used : Int), .map (some mb)]
theorem lkNo (d : Dk) (n : Nm) : ((mget d.fs n).map Fl.val).getD (.agg #[.string ⟨#[]⟩, .int .i64 0]) = (d.file n).val := by
 unfold Dk.file; cases mget d.fs n <;> rfl
theorem lkOk (d : Dk) (n : Nm) : Value.tuple #[((mget d.fs n).map Fl.val).getD (.agg #[.string ⟨#[]⟩, .int .i64 0]), .bool (mget d.fs n).isSome] = .tuple #[(d.file n).val, .bool (d.get n).isSome] := by
 rw [lkNo]; rfl
theorem Dk.file_none {d : Dk} {n : Nm} (h : (d.get n).isSome = false) : d.file n = fl0 := by
 unfold Dk.get at h; unfold Dk.file; cases e : mget d.fs n with
 | none => rfl
 | some _ => rw [e] at h; cases h
theorem rdNo {d : Dk} {n : Nm} (h : (!(d.get n).isSome) = true) : d.file n = fl0 ∧ (if (d.get n).isSome = true then (0 : Int) else 8) = 8 := by
 have h0 : (d.get n).isSome = false := by simpa using h
 exact ⟨Dk.file_none h0, by rw [h0]; rfl⟩
theorem rdYes {d : Dk} {n : Nm} (h : (!(d.get n).isSome) = false) : (if (d.get n).isSome = true then (0 : Int) else 8) = 0 := by
 rw [if_pos (by simpa using h)]
theorem Dk.get_some {d : Dk} {n : Nm} : (d.get n).isSome = true ↔ d.get n = some (d.file n) := by
 unfold Dk.get Dk.file; cases mget d.fs n <;> simp
end Go.Proofs.YtoglbebcdjdkiaaGreatDoor
/- Chapter 3: bytes as ints, in plain Lean. -/
namespace Go.Proofs.YtoglbebcdjdkiaaGreatDoor
open Go Go.Sp
def rintGo : Nat → Nat → Nat → List UInt8 → Int × Nat × Int
 | 0, _, _, _ => (0, 0, 4)
 | _ + 1, _, _, [] => (0, 0, 5)
 | f + 1, i, z, b :: l =>
  if i = 9 ∧ 1 < b.toNat then (0, 0, 4)
  else if 127 < b.toNat then rintGo f (i + 1) (z + b.toNat % 128 * 128 ^ i) l
  else if 0 < i ∧ b.toNat = 0 then (0, 0, 4)
  else (zag (z + b.toNat % 128 * 128 ^ i), i + 1, 0)
def rint (l : List UInt8) : Int × Nat × Int := rintGo 10 0 0 l
theorem pow7 (i : Nat) : 2 ^ (7 * i) = 128 ^ i := by rw [Nat.pow_mul]
theorem z_next {z i b : Nat} (hz : z < 128 ^ i) : z + b % 128 * 128 ^ i < 128 ^ (i + 1) := by
 have h1 : b % 128 * 128 ^ i ≤ 127 * 128 ^ i := Nat.mul_le_mul_right _ (by omega)
 rw [Nat.pow_succ]; omega
theorem z_fits {z i b : Nat} (hz : z < 128 ^ i) (hi : i ≤ 9) (h9 : ¬ (i = 9 ∧ 1 < b)) : z + b % 128 * 128 ^ i < 18446744073709551616 := by
 by_cases h : i = 9
 ·
  subst h
  have : (128 : Nat) ^ 9 = 9223372036854775808 := by decide
  rw [this] at hz ⊢
  have : b % 128 ≤ 1 := by omega
  omega
 ·
  have h1 := z_next (b := b) hz
  have h2 : 128 ^ (i + 1) ≤ 128 ^ 9 := Nat.pow_le_pow_right (by omega) (by omega)
  have : (128 : Nat) ^ 9 = 9223372036854775808 := by decide
  omega
theorem and127 (b : UInt8) : IntKind.u64.wrap (IntKind.u8.wrap ((BitVec.ofInt 8 (b.toNat : Int) &&& BitVec.ofInt 8 127).toNat : Int)) = ((b.toNat % 128 : Nat) : Int) := by
 have key : ∀ m : Fin 256, (BitVec.ofInt 8 ((m : Nat) : Int) &&& BitVec.ofInt 8 127).toNat = (m : Nat) % 128 := by decide +kernel
 have h := key ⟨b.toNat, b.toNat_lt⟩
 simp only at h
 rw [h, wrap_u8 (by omega), wrap_u64 (by omega)]
theorem or_shift {z i b : Nat} (hz : z < 128 ^ i) (hi : i ≤ 9) (h9 : ¬ (i = 9 ∧ 1 < b)) :
  IntKind.u64.wrap ((BitVec.ofInt 64 (z : Int) ||| BitVec.ofInt 64 (IntKind.u64.wrap (((b % 128 : Nat) : Int) * 2 ^ (min (7 * i) 64)))).toNat : Int) = ((z + b % 128 * 128 ^ i : Nat) : Int) := by
 have hf := z_fits hz hi h9
 have e1 : (((b % 128 : Nat) : Int) * 2 ^ (min (7 * i) 64)) = ((b % 128 * 128 ^ i : Nat) : Int) := by
  rw [Nat.min_eq_left (by omega), ← pow7]; push_cast; rfl
 rw [e1, wrap_u64 (n := b % 128 * 128 ^ i) (by omega), BitVec.toNat_or, toNat_ofInt64, toNat_ofInt64]
 have e2 : ((z : Int) % 18446744073709551616).toNat = z := by omega
 have e3 : (((b % 128 * 128 ^ i : Nat) : Int) % 18446744073709551616).toNat = b % 128 * 128 ^ i := by omega
 rw [e2, e3, wrap_u64]
 ·
  have := Nat.shiftLeft_add_eq_or_of_lt (i := 7 * i) (b := z) (by rw [pow7]; exact hz) (b % 128)
  rw [Nat.shiftLeft_eq, pow7] at this
  rw [Nat.or_comm, ← this, Nat.add_comm]
 ·
  have := Nat.shiftLeft_add_eq_or_of_lt (i := 7 * i) (b := z) (by rw [pow7]; exact hz) (b % 128)
  rw [Nat.shiftLeft_eq, pow7] at this
  rw [Nat.or_comm, ← this]; omega
theorem zag_bits {z : Nat} (hz : z < 18446744073709551616) :
  IntKind.i64.wrap ((BitVec.ofInt 64 (IntKind.i64.wrap ((z : Int).fdiv (2 ^ (min 1 64)))) ^^^ BitVec.ofInt 64 (IntKind.i64.wrap (-(IntKind.i64.wrap (IntKind.u64.wrap ((BitVec.ofInt 64 (z : Int) &&& BitVec.ofInt 64 1).toNat : Int)))))).toNat : Int) = zag z := by
 have e0 : (z : Int).fdiv (2 ^ (min 1 64)) = ((z / 2 : Nat) : Int) := by
  show (z : Int).fdiv 2 = _
  rw [Int.fdiv_eq_ediv_of_nonneg _ (by omega)]; omega
 have e1 : (BitVec.ofInt 64 (z : Int) &&& BitVec.ofInt 64 1).toNat = z % 2 := by
  rw [BitVec.toNat_and, toNat_ofInt64, show ((z : Int) % 18446744073709551616).toNat = z by omega]
  show z &&& 1 = _
  rw [Nat.and_one_is_mod]
 rw [e0, e1, wrap_u64 (by omega), wrap_i64 (n := ((z % 2 : Nat) : Int)) (by omega) (by omega), ofInt_wrap, ofInt_wrap]
 unfold zag
 by_cases h : z % 2 = 1
 ·
  rw [if_pos h, h, show BitVec.ofInt 64 (-((1 : Nat) : Int)) = BitVec.allOnes 64 from rfl, BitVec.xor_allOnes, BitVec.toNat_not, toNat_ofInt64]
  unfold IntKind.wrap; simp [IntKind.signed, IntKind.bits]; split <;> omega
 ·
  rw [if_neg h, show z % 2 = 0 by omega, show BitVec.ofInt 64 (-((0 : Nat) : Int)) = 0#64 from rfl, BitVec.xor_zero, toNat_ofInt64]
  rw [wrap_i64 (by omega) (by omega)]; omega
end Go.Proofs.YtoglbebcdjdkiaaGreatDoor
/- Chapter 3: four bytes, in plain Lean. -/
namespace Go.Proofs.YtoglbebcdjdkiaaGreatDoor
open Go Go.Sp
def fours (n : Nat) : List UInt8 := [UInt8.ofNat (n / 16777216 % 256), UInt8.ofNat (n / 65536 % 256), UInt8.ofNat (n / 256 % 256), UInt8.ofNat (n % 256)]
def four : List UInt8 → Nat
 | a :: b :: c :: d :: _ => a.toNat * 16777216 + b.toNat * 65536 + c.toNat * 256 + d.toNat
 | _ => 0
theorem fours_len (n : Nat) : (fours n).length = 4 := rfl
theorem toNat_256 (n : Nat) : (UInt8.ofNat (n % 256)).toNat = n % 256 := by simp
theorem four_fours {n : Nat} (h : n < 4294967296) (l : List UInt8) : four (fours n ++ l) = n := by
 show (UInt8.ofNat (n / 16777216 % 256)).toNat * 16777216 + (UInt8.ofNat (n / 65536 % 256)).toNat * 65536 + (UInt8.ofNat (n / 256 % 256)).toNat * 256 + (UInt8.ofNat (n % 256)).toNat = n
 rw [toNat_256, toNat_256, toNat_256, toNat_256]; omega
theorem four_lt (l : List UInt8) : four l < 4294967296 := by
 unfold four
 split
 ·
  rename_i a b c d _
  have := a.toNat_lt; have := b.toNat_lt; have := c.toNat_lt; have := d.toNat_lt; omega
 ·
  omega
theorem fill4 (a b c d : Int) : Instr.fill (fun i => some (i * 1, 1)) (madeCells (Value.int .u8 0).cells (4 * 1)) [(0, .int .u8 a), (1, .int .u8 b), (2, .int .u8 c), (3, .int .u8 d)] = some ([.int .u8 a, .int .u8 b, .int .u8 c, .int .u8 d] : List Value).toArray := by kernel_rfl
theorem shr_byte (n k : Nat) (h : k ≤ 64) : (Value.int .u8 (IntKind.u8.wrap ((n : Int).fdiv (2 ^ (min k IntKind.i64.bits))))) = .int .u8 ((UInt8.ofNat (n / 2 ^ k % 256)).toNat : Int) := by
 have e : (n : Int).fdiv (2 ^ (min k IntKind.i64.bits)) = ((n / 2 ^ k : Nat) : Int) := by
  rw [show IntKind.i64.bits = 64 from rfl, Nat.min_eq_left h, Int.fdiv_eq_ediv_of_nonneg _ (by have : (0 : Int) < 2 ^ k := Int.pow_pos (by omega); omega)]; push_cast; rfl
 rw [e, u64_u8, toNat_256]
theorem low_byte (n : Nat) : (Value.int .u8 (IntKind.u8.wrap (n : Int))) = .int .u8 ((UInt8.ofNat (n % 256)).toNat : Int) := by rw [u64_u8, toNat_256]
end Go.Proofs.YtoglbebcdjdkiaaGreatDoor
/- Chapter 3: reading on, in plain Lean. -/
namespace Go.Proofs.YtoglbebcdjdkiaaGreatDoor
open Go Go.Sp
theorem rintGo_le : ∀ (f i z : Nat) (l : List UInt8), (rintGo f i z l).2.1 ≤ i + l.length
 | 0, _, _, _ => Nat.zero_le _
 | _ + 1, _, _, [] => Nat.zero_le _
 | f + 1, i, z, b :: l => by
  unfold rintGo
  split
  ·
   exact Nat.zero_le _
  ·
   split
   ·
    have := rintGo_le f (i + 1) (z + b.toNat % 128 * 128 ^ i) l
    simp only [List.length_cons]; omega
   ·
    split
    ·
     exact Nat.zero_le _
    ·
     simp only [List.length_cons]; omega
theorem rint_le (l : List UInt8) : (rint l).2.1 ≤ l.length := by have := rintGo_le 10 0 0 l; unfold rint; omega
theorem i64_zero : i64 0 := ⟨by decide, by decide⟩
theorem rintGo_i64 : ∀ (f i z : Nat) (l : List UInt8), z < 128 ^ i → i + f ≤ 10 → i64 (rintGo f i z l).1
 | 0, _, _, _, _, _ => i64_zero
 | _ + 1, _, _, [], _, _ => i64_zero
 | f + 1, i, z, b :: l, hz, hi => by
  unfold rintGo
  split
  ·
   exact i64_zero
  ·
   rename_i h9
   split
   ·
    exact rintGo_i64 f (i + 1) _ l (z_next hz) (by omega)
   ·
    split
    ·
     exact i64_zero
    ·
     exact zag_i64 (z_fits hz (by omega) h9)
theorem rint_i64 (l : List UInt8) : i64 (rint l).1 := rintGo_i64 10 0 0 l (by decide) (by omega)
abbrev Rdr := List UInt8 × Bool
def rdI (r : Rdr) : Int × Rdr := ((rint r.1).1, r.1.drop (rint r.1).2.1, r.2 && decide ((rint r.1).2.2 = 0))
def rdT (most : Int) (r : Rdr) : List UInt8 × Rdr :=
 if 0 ≤ (rdI r).1 ∧ (rdI r).1 ≤ most ∧ (rdI r).1 ≤ (rdI r).2.1.length then ((rdI r).2.1.take (rdI r).1.toNat, (rdI r).2.1.drop (rdI r).1.toNat, (rdI r).2.2) else ([], (rdI r).2.1, false)
def qdI (r : Rdr) : Int × Rdr := if (rint r.1).2.2 = 0 then ((rint r.1).1, r.1.drop (rint r.1).2.1, r.2) else (0, [], true)
def qdT (most : Int) (r : Rdr) : List UInt8 × Rdr :=
 if 0 ≤ (qdI r).1 ∧ (qdI r).1 ≤ most ∧ (qdI r).1 ≤ (qdI r).2.1.length then ((qdI r).2.1.take (qdI r).1.toNat, (qdI r).2.1.drop (qdI r).1.toNat, (qdI r).2.2) else ([], (qdI r).2.1, true)
theorem rdI_len (r : Rdr) : (rdI r).2.1.length ≤ r.1.length := by show (r.1.drop _).length ≤ _; rw [List.length_drop]; omega
theorem rdT_len (m : Int) (r : Rdr) : (rdT m r).2.1.length ≤ r.1.length := by
 unfold rdT; have := rdI_len r
 split
 ·
  show ((rdI r).2.1.drop _).length ≤ _; rw [List.length_drop]; omega
 ·
  exact this
end Go.Proofs.YtoglbebcdjdkiaaGreatDoor
/- Chapter 3: batches and records of metadata, in plain Lean. -/
namespace Go.Proofs.YtoglbebcdjdkiaaGreatDoor
open Go Go.Sp
structure Rec where
 key : List UInt8
 value : List UInt8
 time : Int
 deriving DecidableEq
structure Bat where
 base : Int
 epoch : Int
 pid : Int
 pidEpoch : Int
 seq : Int
 recs : List Rec
def Rec.cells (r : Rec) : List Value := [.string (str r.key), .string (str r.value), .int .i64 r.time]
theorem Rec.cells_len (r : Rec) : r.cells.length = 3 := rfl
def Bat.cells (b : Bat) (a : Option Addr) (c : Nat) : List Value := [.int .i64 b.base, .int .i64 b.epoch, .int .i64 b.pid, .int .i64 b.pidEpoch, .int .i64 b.seq, .slice a b.recs.length c]
structure Bat.fits (b : Bat) : Prop where
 base : i64 b.base
 epoch : i64 b.epoch
 pid : i64 b.pid
 pidEpoch : i64 b.pidEpoch
 seq : i64 b.seq
 time : ∀ r ∈ b.recs, i64 r.time
 key : ∀ r ∈ b.recs, r.key.length ≤ 140737488351232
 value : ∀ r ∈ b.recs, r.value.length ≤ 140737488351232
 len : b.recs.length * 40 ≤ 140737488351232
def recBody (r : Rec) : List UInt8 := eint r.time ++ eint (r.key.length : Int) ++ r.key ++ eint (r.value.length : Int) ++ r.value
def body (b : Bat) : List UInt8 := eint b.base ++ eint b.epoch ++ eint b.pid ++ eint b.pidEpoch ++ eint b.seq ++ eint (b.recs.length : Int) ++ b.recs.flatMap recBody
def wth (n m : Int) : Bool := decide (0 ≤ n ∧ n ≤ m)
def right (b : Bat) : Int :=
 if b.base < 0 ∨ ¬ (0 ≤ b.epoch ∧ b.epoch ≤ 1000000000) ∨ ¬ (0 ≤ b.pid ∧ b.pid ≤ 1000000000) ∨ ¬ (0 ≤ b.pidEpoch ∧ b.pidEpoch ≤ 1000000000) ∨ ¬ (0 ≤ b.seq ∧ b.seq ≤ 1000000000) ∨ (b.pid = 0 ∧ (b.pidEpoch ≠ 0 ∨ b.seq ≠ 0)) ∨ b.recs.length = 0 then 1
 else if ∃ r ∈ b.recs, ¬ (0 ≤ r.time ∧ r.time ≤ 1000000000) then 1
 else if 64 < b.recs.length then 3
 else if ∃ r ∈ b.recs, 1000 < r.key.length ∨ 1000 < r.value.length then 2
 else if 1000000000 - (b.recs.length : Int) + 1 < b.base ∨ 1000000 - (b.recs.length : Int) + 1 < b.seq then 20
 else if 4088 < (body b).length then 2
 else 0
def wbatch (b : Bat) : List UInt8 × Int := if right b = 0 then (fours (body b).length ++ fours (crc (body b)).toNat ++ body b, 0) else ([], right b)
end Go.Proofs.YtoglbebcdjdkiaaGreatDoor
/- Chapter 6: texts of chapter 3 (wire) under this seat's numbers. -/
namespace Go.Proofs.YtoglbebcdjdkiaaGreatDoor
open Go Go.Sp
set_option linter.unusedVariables false
namespace wire1
theorem ti5 : TI Tryz.prog 5 1 1 (.int .u8 0) := .of (by kernel_rfl)
end wire1
open wire1
theorem or128 (n : Nat) : (Value.int .u8 (IntKind.u8.wrap ((BitVec.ofInt 8 (IntKind.u8.wrap (n : Int)) ||| BitVec.ofInt 8 128).toNat : Int))) = .int .u8 ((UInt8.ofNat (n % 128 + 128)).toNat : Int) := by
 have key : ∀ m : Fin 256, (BitVec.ofInt 8 ((m : Nat) : Int) ||| BitVec.ofInt 8 128).toNat = (m : Nat) % 128 + 128 := by decide +kernel
 have h := key ⟨n % 256, by omega⟩
 rw [u64_u8 n]
 simp only at h
 rw [h, wrap_u8 (by omega)]
 have : (UInt8.ofNat (n % 128 + 128)).toNat = n % 128 + 128 := by simp; omega
 rw [this]; congr 2; omega
theorem u8_small {n : Nat} (h : n < 128) : (Value.int .u8 (IntKind.u8.wrap (n : Int))) = .int .u8 ((UInt8.ofNat n).toNat : Int) := by
 rw [wrap_u8 (by omega)]
 have : (UInt8.ofNat n).toNat = n := by simp; omega
 rw [this]
theorem shr7 (z : Nat) : (Value.int .u64 ((z : Int).fdiv (2 ^ (min 7 IntKind.u64.bits)))) = .int .u64 ((z / 128 : Nat) : Int) := by
 have : (2 : Int) ^ (min 7 IntKind.u64.bits) = 128 := by decide
 rw [this, Int.fdiv_eq_ediv_of_nonneg _ (by omega)]; rfl
set_option maxRecDepth 20000 in
theorem appendInt_ok (a : Option Addr) (c : Nat) (l : List UInt8) (n : Int) (hn : i64 n) (hl : l.length ≤ 1000000000000) : Cn Tryz.prog 93 [.slice a l.length c, .int .i64 n] (fun _ => True) [arr 5 1 a c (bcs l)] fun v G => ∃ a' c', v = .slice a' (l ++ eint n).length c' ∧ G = [arr 5 1 a' c' (bcs (l ++ eint n))] := by
 refine .enter Tryz.func93 rfl (by kernel_rfl) rfl fun R k => ?_
 refine .goO fds 7 ?_
 refine .rd (.shl (n := 1) rfl rfl) ?_
 refine .rd (.move rfl) ?_
 refine .rd (.shr (n := 63) rfl rfl) ?_
 refine .rd (.xor rfl rfl) ?_
 refine .rd (.convInt Tryz.underlying3 Tryz.underlying192 rfl) ?_
 refine .alter (t := 11) (v' := .int .u64 (zig n : Int)) rfl (by exact congrArg (Value.int .u64) (zig_bits hn)) ?_
 refine .goR fds 4 ?_
 refine .loop (σ := Nat × List UInt8 × Option Addr × Nat) (fun ⟨z, done, a', c'⟩ => done ++ vint z = l ++ eint n ∧ z < 18446744073709551616) (fun ⟨z, done, a', c'⟩ => z) (fun ⟨z, done, a', c'⟩ => [(0, .slice a' done.length c'), (5, .int .u64 (z : Int))]) (fun ⟨z, done, a', c'⟩ => [arr 5 1 a' c' (bcs done), R]) (zig n, l, a, c) ⟨rfl, zig_lt hn⟩ (.cons rfl (.cons rfl .nil)) (.cons .head (.cons .head .nil)) (fun s hI ih => ?_)
 obtain ⟨z, done, a', c'⟩ := s
 dsimp only at hI ih ⊢
 have hz := hI.2
 have hlen : done.length ≤ l.length + 10 := by have := congrArg List.length hI.1; simp only [List.length_append] at this; have := eint_len hn; omega
 refine .go fds 6 ?_
 refine .condP rfl (fun h2 => ?_) (fun h2 => ?_)
 ·
  refine .goO fds 6 ?_
  refine .rd (.convInt Tryz.underlying192 Tryz.underlying5 rfl) ?_
  refine .rd (.or rfl rfl) ?_
  refine .alter (t := 19) (v' := .int .u8 ((UInt8.ofNat (z % 128 + 128)).toNat : Int)) rfl (by exact or128 z) ?_
  refine .ef (.buildOne (cs := bcs [UInt8.ofNat (z % 128 + 128)]) Tryz.underlying115 ti5 (by decide) rfl rfl rfl (ones.of rfl)) ?_
  rintro _ _ ⟨bs, rfl, rfl⟩
  refine .ef (.append rfl rfl Tryz.underlying115 ti5 rfl (ones.of rfl) (by decide) (by decide) rfl rfl (.tail .head) (n := done.length) (m := 1) (by rw [bcs_len, Nat.mul_one]) (.srcBlk .head Tryz.underlying115 rfl (by decide)) (by omega)) ?_
  rintro _ _ ⟨ra, rc, rfl, rn, rfl⟩
  refine .goO fds 5 ?_
  refine .rd (.shr (n := 7) rfl rfl) ?_
  refine .alter (t := 15) (v' := .int .u64 ((z / 128 : Nat) : Int)) rfl (by exact shr7 z) ?_
  refine .goR fds 2 ?_
  have hbig : ¬ z < 128 := by omega
  have hv := vint_big hbig
  rw [← bcs_append]
  exact (ih (z / 128, done ++ [UInt8.ofNat (z % 128 + 128)], ra, rc) ⟨by show done ++ [_] ++ vint (z / 128) = _; rw [List.append_assoc, ← hI.1, hv]; rfl, by show z / 128 < _; omega⟩ (by show z / 128 < z; omega)).to (.cons (by show _ = some (Value.slice ra (done ++ [UInt8.ofNat (z % 128 + 128)]).length rc); rw [List.length_append]; rfl) (.cons rfl .nil)) (.cons .head (.cons (.tail .head) .nil))
 ·
  refine .goO fds 5 ?_
  have hsm : z < 128 := by omega
  refine .rd (.convInt Tryz.underlying192 Tryz.underlying5 rfl) ?_
  refine .alter (t := 24) (v' := .int .u8 ((UInt8.ofNat z).toNat : Int)) rfl (by exact u8_small hsm) ?_
  refine .ef (.buildOne (cs := bcs [UInt8.ofNat z]) Tryz.underlying115 ti5 (by decide) rfl rfl rfl (ones.of rfl)) ?_
  rintro _ _ ⟨bs, rfl, rfl⟩
  refine .ef (.append rfl rfl Tryz.underlying115 ti5 rfl (ones.of rfl) (by decide) (by decide) rfl rfl (.tail .head) (n := done.length) (m := 1) (by rw [bcs_len, Nat.mul_one]) (.srcBlk .head Tryz.underlying115 rfl (by decide)) (by omega)) ?_
  rintro _ _ ⟨ra, rc, rfl, rn, rfl⟩
  refine .goR fds 2 ?_
  rw [vint_small hsm] at hI
  rw [← bcs_append, hI.1]
  refine .retP Tryz.func93 (.cons (.tmp rfl) .nil) (.cons .head (.cons (.tail .head) .nil)) ?_
  exact ⟨[_], ⟨ra, rc, by simp only [resVal]; rw [← hI.1, List.length_append]; rfl, rfl⟩, rfl⟩
end Go.Proofs.YtoglbebcdjdkiaaGreatDoor
/- Chapter 6: texts of chapter 3 (wire) under this seat's numbers. -/
namespace Go.Proofs.YtoglbebcdjdkiaaGreatDoor
open Go Go.Sp
set_option linter.unusedVariables false
namespace wire3
theorem ti5 : TI Tryz.prog 5 1 1 (.int .u8 0) := .of (by kernel_rfl)
end wire3
open wire3
set_option maxRecDepth 20000 in
theorem appendText_ok (a : Option Addr) (c : Nat) (l s : List UInt8) (hs : s.length ≤ 100000000000000) (hl : l.length ≤ 1000000000000) : Cn Tryz.prog 162 [.slice a l.length c, .string (str s)] (fun _ => True) [arr 5 1 a c (bcs l)] fun v G => ∃ a' c', v = .slice a' (l ++ eint (s.length : Int) ++ s).length c' ∧ G = [arr 5 1 a' c' (bcs (l ++ eint (s.length : Int) ++ s))] := by
 refine .enter Tryz.func162 rfl (by kernel_rfl) rfl fun R k => ?_
 refine .goO fds 8 ?_
 refine .rd (.lenT rfl rfl Tryz.underlying9 rfl) ?_
 refine .fn rfl rfl (.cons .head .nil) (fun _ _ _ => trivial) (appendInt_ok a c l (s.length : Int) (by unfold i64; omega) hl) (fun v G1 hq => ?_)
 obtain ⟨a', c', rfl, rfl⟩ := hq
 simp only [List.cons_append, List.nil_append]
 refine .rd (.move rfl) ?_
 refine .ef (.append rfl rfl Tryz.underlying115 ti5 rfl (ones.of rfl) (by decide) (by decide) rfl rfl .head (n := (l ++ eint (s.length : Int)).length) (m := s.length) (by rw [bcs_len, Nat.mul_one]) (.srcT Tryz.underlying9) (by rw [List.length_append]; have := eint_len (n := (s.length : Int)) (by unfold i64; omega); omega)) ?_
 rintro _ _ ⟨ra, rc, rfl, rn, rfl⟩
 refine .goR fds 2 ?_
 rw [← bcs_append]
 refine .retP Tryz.func162 (.cons (.tmp rfl) .nil) (.cons .head (.cons .head .nil)) ?_
 exact ⟨[_], ⟨ra, rc, by simp only [resVal]; rw [← List.length_append], rfl⟩, rfl⟩
end Go.Proofs.YtoglbebcdjdkiaaGreatDoor
/- Chapter 6: texts of chapter 3 (wire) under this seat's numbers. -/
namespace Go.Proofs.YtoglbebcdjdkiaaGreatDoor
open Go Go.Sp
set_option linter.unusedVariables false
namespace wire9
theorem na3 : NotAgg Tryz.prog 3 := ⟨_, Tryz.underlying3, trivial⟩
theorem fd27_1 : FD Tryz.prog 41 1 1 := .of Tryz.underlying41 (by kernel_rfl)
theorem fd27_2 : FD Tryz.prog 41 2 2 := .of Tryz.underlying41 (by kernel_rfl)
theorem fd27_3 : FD Tryz.prog 41 3 3 := .of Tryz.underlying41 (by kernel_rfl)
theorem fd27_4 : FD Tryz.prog 41 4 4 := .of Tryz.underlying41 (by kernel_rfl)
theorem fd27_5 : FD Tryz.prog 41 5 5 := .of Tryz.underlying41 (by kernel_rfl)
theorem na25 : NotAgg Tryz.prog 39 := ⟨_, Tryz.underlying39, trivial⟩
theorem bld94_0_1_2_3_4_5 (x0 : Int) (x1 : Int) (x2 : Int) (x3 : Int) (x4 : Int) (x5 : Int) (w : World) : (Instr.build 207 (([0, 1, 2, 3, 4, 5] : List Nat).zip [.int .i64 x0, .int .i64 x1, .int .i64 x2, .int .i64 x3, .int .i64 x4, .int .i64 x5]).toArray).run Tryz.prog w = .ok (.agg #[.int .i64 x0, .int .i64 x1, .int .i64 x2, .int .i64 x3, .int .i64 x4, .int .i64 x5]) w := by kernel_rfl
theorem ts3 : TS Tryz.prog 3 1 := .of (by kernel_rfl)
theorem ts65 : TS Tryz.prog 99 3 := .of (by kernel_rfl)
theorem ia65 : IsAgg Tryz.prog 99 := ⟨_, Tryz.underlying99, trivial⟩
theorem ti65 : TI Tryz.prog 99 3 40 (.agg #[.string ⟨#[]⟩, .string ⟨#[]⟩, .int .i64 0]) := .of (by kernel_rfl)
theorem na9 : NotAgg Tryz.prog 9 := ⟨_, Tryz.underlying9, trivial⟩
end wire9
open wire9
def six (b : Bat) : List Int := [b.base, b.epoch, b.pid, b.pidEpoch, b.seq, (b.recs.length : Int)]
theorem six_ok {b : Bat} (h : b.fits) : ∀ n ∈ six b, i64 n := fun n hn => by
 have hl := h.len
 simp only [six, List.mem_cons, List.not_mem_nil, or_false] at hn
 rcases hn with rfl | rfl | rfl | rfl | rfl | rfl
 ·
  exact h.base
 ·
  exact h.epoch
 ·
  exact h.pid
 ·
  exact h.pidEpoch
 ·
  exact h.seq
 ·
  exact ⟨by omega, by omega⟩
theorem body_six (b : Bat) : body b = (six b).flatMap eint ++ b.recs.flatMap recBody := by simp [body, six]
theorem six_at {b : Bat} {i : Nat} {n : Int} (h : (six b)[i]? = some n) : (#[Value.int .i64 b.base, .int .i64 b.epoch, .int .i64 b.pid, .int .i64 b.pidEpoch, .int .i64 b.seq, .int .i64 (b.recs.length : Int)] : Array Value)[i]? = some (.int .i64 n) := by
 have : (#[Value.int .i64 b.base, .int .i64 b.epoch, .int .i64 b.pid, .int .i64 b.pidEpoch, .int .i64 b.seq, .int .i64 (b.recs.length : Int)] : Array Value) = ((six b).map (Value.int .i64)).toArray := rfl
 rw [this, List.getElem?_toArray, List.getElem?_map, h]; rfl
structure Bat.small (b : Bat) : Prop where
 n : b.recs.length ≤ 64
 k : ∀ r ∈ b.recs, r.key.length ≤ 1000 ∧ r.value.length ≤ 1000
theorem recBody_len {b : Bat} (hf : b.fits) (hs : b.small) {r : Rec} (hr : r ∈ b.recs) : (recBody r).length ≤ 2030 := by
 have h1 := eint_len (hf.time r hr)
 obtain ⟨h2, h3⟩ := hs.k r hr
 have h4 := eint_len (n := (r.key.length : Int)) ⟨by omega, by omega⟩
 have h5 := eint_len (n := (r.value.length : Int)) ⟨by omega, by omega⟩
 unfold recBody; simp only [List.length_append]; omega
theorem flat_le {α : Type} {f : α → List UInt8} {k : Nat} : ∀ (l : List α), (∀ x ∈ l, (f x).length ≤ k) → (l.flatMap f).length ≤ l.length * k
 | [], _ => by simp
 | x :: l, h => by
  have h1 := h x (by simp)
  have h2 := flat_le l fun y hy => h y (by simp [hy])
  rw [List.flatMap_cons, List.length_append, List.length_cons, Nat.succ_mul]; omega
theorem six_len {b : Bat} (hf : b.fits) (i : Nat) : (((six b).take i).flatMap eint).length ≤ 60 := by
 have h1 := flat_le (f := eint) (k := 10) ((six b).take i) fun n hn => eint_len (six_ok hf n (List.mem_of_mem_take hn))
 have h2 : ((six b).take i).length ≤ 6 := by rw [List.length_take]; exact Nat.min_le_right _ _
 omega
theorem take_flat {α : Type} {f : α → List UInt8} {l : List α} {i : Nat} {x : α} (h : l[i]? = some x) : (l.take (i + 1)).flatMap f = (l.take i).flatMap f ++ f x := by
 rw [List.take_add_one, h, List.flatMap_append]; simp
set_option maxRecDepth 20000 in
theorem body_ok (b : Bat) (a : Option Addr) (c : Nat) (hf : b.fits) (hs : b.small) : Cn Tryz.prog 123 [.agg (b.cells a c).toArray] (RowAt a (b.recs.flatMap Rec.cells)) [] fun v G => ∃ a' c', v = .slice a' (body b).length c' ∧ G = [arr 5 1 a' c' (bcs (body b))] := by
 refine .enter Tryz.func123 rfl (by kernel_rfl) rfl fun R k => ?_
 refine .goO fds 2 ?_
 refine .ef (.box (l := b.cells a c) rfl rfl (ones.of rfl)) ?_
 rintro _ _ ⟨b1, rfl, rfl⟩
 refine .goR fds 6 ?_
 refine .nilArr 5 1 none ?_
 refine .goO fds 4 ?_
 refine .rd (.ld na3 rfl (.tail .head) rfl) ?_
 refine .rd (.fieldAddr fd27_1 rfl) ?_
 refine .rd (.ld na3 rfl (.tail .head) rfl) ?_
 refine .rd (.fieldAddr fd27_2 rfl) ?_
 refine .rd (.ld na3 rfl (.tail .head) rfl) ?_
 refine .rd (.fieldAddr fd27_3 rfl) ?_
 refine .rd (.ld na3 rfl (.tail .head) rfl) ?_
 refine .rd (.fieldAddr fd27_4 rfl) ?_
 refine .rd (.ld na3 rfl (.tail .head) rfl) ?_
 refine .rd (.fieldAddr fd27_5 rfl) ?_
 refine .rd (.ld na25 rfl (.tail .head) rfl) ?_
 refine .rd (.lenL rfl rfl Tryz.underlying39 rfl) ?_
 refine .rd (.build rfl (bld94_0_1_2_3_4_5 _ _ _ _ _ _)) ?_
 refine .goR fds 3 ?_
 refine .loop (σ := Nat × Option Addr × Nat) (fun ⟨i, a', c'⟩ => i ≤ 6) (fun ⟨i, a', c'⟩ => 6 - i) (fun ⟨i, a', c'⟩ => [(1, .pointer (some ⟨b1, 0, none⟩)), (3, .slice a' (((six b).take i).flatMap eint).length c'), (21, .agg #[.int .i64 b.base, .int .i64 b.epoch, .int .i64 b.pid, .int .i64 b.pidEpoch, .int .i64 b.seq, .int .i64 (b.recs.length : Int)]), (22, .int .i64 (i : Nat))]) (fun ⟨i, a', c'⟩ => [arr 5 1 a' c' (bcs (((six b).take i).flatMap eint)), blk b1 (b.cells a c) 41, R]) (0, none, 0) (Nat.zero_le _) (.cons rfl (.cons rfl (.cons rfl (.cons rfl .nil)))) (.cons .head (.cons .head (.cons .head .nil))) (fun s hI ih => ?_)
 obtain ⟨i, a', c'⟩ := s
 dsimp only at hI ih ⊢
 refine .go fds 5 ?_
 refine .condP rfl (fun h3 => ?_) (fun h3 => ?_)
 ·
  refine .go fds 4 ?_
  have hlt : i < (six b).length := by show i < 6; omega
  obtain ⟨n, hn⟩ : ∃ n, (six b)[i]? = some n := ⟨_, List.getElem?_eq_getElem hlt⟩
  have hdl := six_len hf i
  refine .region ?_
  refine .rd (.indexA1 Tryz.underlying207 na3 ts3 rfl rfl (by omega) (by omega) (by rw [Int.toNat_natCast, Nat.mul_one]; exact six_at hn)) ?_
  refine .goO fds 5 ?_
  refine .fn rfl rfl (.cons .head .nil) (fun _ _ _ => trivial) (appendInt_ok a' c' (((six b).take i).flatMap eint) n (six_ok hf n (List.mem_of_getElem? hn)) (by omega)) (fun v G1 hq => ?_)
  obtain ⟨a2, c2, rfl, rfl⟩ := hq
  simp only [List.cons_append, List.nil_append]
  refine .goO fds 4 ?_
  refine .rd (.add rfl rfl (by omega) (by omega)) ?_
  refine .goR fds 2 ?_
  rw [← take_flat hn]
  exact (ih (i + 1, a2, c2) (by show i + 1 ≤ 6; omega) (by show 6 - (i + 1) < 6 - i; omega)).to (.cons rfl (.cons (by show _ = some (Value.slice a2 (((six b).take (i + 1)).flatMap eint).length c2); rw [take_flat hn]; rfl) (.cons rfl (.cons rfl .nil)))) (.cons .head (.cons .head (.cons .head .nil)))
 ·
  obtain rfl : i = 6 := by omega
  have h6 : (six b).take 6 = six b := rfl
  rw [h6]
  refine .alter (t := 3) (v' := .slice a' ((six b).flatMap eint ++ (b.recs.take 0).flatMap recBody).length c') rfl (by rw [List.take_zero, List.flatMap_nil, List.append_nil]) ?_
  have he0 : (six b).flatMap eint = (six b).flatMap eint ++ (b.recs.take 0).flatMap recBody := by rw [List.take_zero, List.flatMap_nil, List.append_nil]
  refine .goO fds 5 ?_
  refine .rd (.ld na25 rfl (.tail .head) rfl) ?_
  refine .rd (.lenL rfl rfl Tryz.underlying39 rfl) ?_
  refine .goR fds 2 ?_
  refine .cast (X' := arr 5 1 a' c' (bcs ((six b).flatMap eint ++ (b.recs.take 0).flatMap recBody))) (by rw [← he0]) ?_
  refine .block ?_
  refine .loop (σ := Nat × Option Addr × Nat) (fun ⟨j, a', c'⟩ => j ≤ b.recs.length) (fun ⟨j, a', c'⟩ => b.recs.length - j) (fun ⟨j, a', c'⟩ => [(3, .slice a' ((six b).flatMap eint ++ (b.recs.take j).flatMap recBody).length c'), (30, .slice a b.recs.length c), (31, .int .i64 b.recs.length), (32, .int .i64 (j : Nat))]) (fun ⟨j, a', c'⟩ => [arr 5 1 a' c' (bcs ((six b).flatMap eint ++ (b.recs.take j).flatMap recBody)), R]) (0, a', c') (Nat.zero_le _) (.cons rfl (.cons rfl (.cons rfl (.cons rfl .nil)))) (.cons .head (.cons (.tail .head) .nil)) (fun s hI ih => ?_)
  obtain ⟨j, a', c'⟩ := s
  dsimp only at hI ih ⊢
  have hsn := hs.n
  refine .go fds 5 ?_
  refine .condP rfl (fun h8 => ?_) (fun h8 => ?_)
  ·
   refine .go fds 4 ?_
   have hjl : j < b.recs.length := by omega
   obtain ⟨r, hr⟩ : ∃ r, b.recs[j]? = some r := ⟨_, List.getElem?_eq_getElem hjl⟩
   have hrm := List.mem_of_getElem? hr
   obtain ⟨hk1, hk2⟩ := hs.k r hrm
   have hd1 := six_len hf 6
   rw [show (six b).take 6 = six b from rfl] at hd1
   have hd2 := flat_le (f := recBody) (k := 2030) (b.recs.take j) fun x hx => recBody_len hf hs (List.mem_of_mem_take hx)
   have hd3 : (b.recs.take j).length ≤ 64 := by rw [List.length_take]; have := hs.n; omega
   have hd4 : ((six b).flatMap eint ++ (b.recs.take j).flatMap recBody).length ≤ 200000 := by rw [List.length_append]; omega
   have he1 := eint_len (hf.time r hrm)
   have he2 := eint_len (n := (r.key.length : Int)) ⟨by omega, by omega⟩
   refine .tell (φ := ∃ b o, a = some ⟨b, o, none⟩) (Knows.pick (.tail .head) (k.mono fun _ h => h.addr (by rw [flat_length Rec.cells_len]; omega))) (fun hx => ?_)
   obtain ⟨bb, oo, rfl⟩ := hx
   refine .region ?_
   refine .rd (.indexAddr Tryz.underlying39 ts65 rfl rfl (by omega) (by omega)) ?_
   refine .rd (.loadN ia65 ts65 rfl rfl (Knows.elem Rec.cells_len (by decide) (Knows.pick (.tail .head) k) hr)) ?_
   refine .ef (.alloc ti65 rfl (ones.of rfl)) ?_
   rintro _ _ ⟨b7, rfl, rfl⟩
   refine .ef0 (.storeAll (vs := r.cells) ts65 rfl rfl rfl .head rfl (ones.of rfl)) ?_
   rintro _ _ rfl
   refine .nil ?_
   refine .draws [2, 5, 8] [blk b7 r.cells 99] (by kernel_rfl) ?_
   refine .goD fds [0, 1] ?_
   refine .rd 2 rfl rfl (by kernel_rfl) (by kernel_rfl) (by kernel_rfl) (.ld na3 rfl .head rfl) (.cons .head .nil) ?_
   refine .goD fds [4] ?_
   refine .rd 5 rfl rfl (by kernel_rfl) (by kernel_rfl) (by kernel_rfl) (.ld na9 rfl .head rfl) (.cons .head .nil) ?_
   refine .goD fds [7] ?_
   refine .rd 8 rfl rfl (by kernel_rfl) (by kernel_rfl) (by kernel_rfl) (.ld na9 rfl .head rfl) (.cons .head .nil) ?_
   refine .ef 3 (by kernel_rfl) rfl (.fn rfl rfl (.cons (.tail .head) .nil) (fun _ _ _ => trivial) (appendInt_ok a' c' ((six b).flatMap eint ++ (b.recs.take j).flatMap recBody) r.time (hf.time r hrm) (by omega))) ?_
   rintro v _ ⟨G1, hq, rfl⟩
   obtain ⟨a2, c2, rfl, rfl⟩ := hq
   simp only [List.cons_append, List.nil_append]
   refine ⟨.inr ⟨_, (.cons (.tail .head) .nil)⟩, ?_⟩
   refine .ef 6 (by kernel_rfl) rfl (.fn rfl rfl (.cons .head .nil) (fun _ _ _ => trivial) (appendText_ok a2 c2 (((six b).flatMap eint ++ (b.recs.take j).flatMap recBody) ++ eint r.time) r.key (by omega) (by rw [List.length_append]; omega))) ?_
   rintro v _ ⟨G1, hq, rfl⟩
   obtain ⟨a3, c3, rfl, rfl⟩ := hq
   simp only [List.cons_append, List.nil_append]
   refine ⟨.inr ⟨_, (.cons (.tail .head) .nil)⟩, ?_⟩
   refine .ef 9 (by kernel_rfl) rfl (.fn rfl rfl (.cons .head .nil) (fun _ _ _ => trivial) (appendText_ok a3 c3 ((((six b).flatMap eint ++ (b.recs.take j).flatMap recBody) ++ eint r.time) ++ eint (r.key.length : Int) ++ r.key) r.value (by omega) (by simp only [List.length_append] at hd4 ⊢; omega))) ?_
   rintro v _ ⟨G1, hq, rfl⟩
   obtain ⟨a4, c4, rfl, rfl⟩ := hq
   simp only [List.cons_append, List.nil_append]
   refine ⟨.inl (by kernel_rfl), ?_⟩
   refine .goD fds [10] ?_
   refine .done (by kernel_rfl) ?_
   refine .goO fds 2 ?_
   refine .rd (.add rfl rfl (by omega) (by omega)) ?_
   refine .goR fds 2 ?_
   have hfin : ((((six b).flatMap eint ++ (b.recs.take j).flatMap recBody) ++ eint r.time) ++ eint (r.key.length : Int) ++ r.key) ++ eint (r.value.length : Int) ++ r.value = (six b).flatMap eint ++ (b.recs.take (j + 1)).flatMap recBody := by rw [take_flat hr]; simp only [recBody, List.append_assoc]
   rw [hfin]
   exact (ih (j + 1, a4, c4) (by show j + 1 ≤ _; omega) (by show b.recs.length - (j + 1) < b.recs.length - j; omega)).to (.cons (by show _ = some (Value.slice a4 ((six b).flatMap eint ++ (b.recs.take (j + 1)).flatMap recBody).length c4); rw [← hfin]; rfl) (.cons rfl (.cons rfl (.cons rfl .nil)))) (.cons .head (.cons (.tail .head) .nil))
  ·
   refine .go fds 6 ?_
   obtain rfl : j = b.recs.length := by omega
   rw [List.take_length, ← body_six]
   refine .retP Tryz.func123 (.cons (.tmp rfl) .nil) (.cons .head (.cons .head .nil)) ?_
   exact ⟨[_], ⟨a', c', rfl, rfl⟩, rfl⟩
end Go.Proofs.YtoglbebcdjdkiaaGreatDoor
/- Chapter 3: may a batch be? In plain Lean. -/
namespace Go.Proofs.YtoglbebcdjdkiaaGreatDoor
open Go Go.Sp
def orI (x y : Int) : Int := IntKind.i64.wrap ((BitVec.ofInt 64 x ||| BitVec.ofInt 64 y).toNat : Int)
theorem ofInt_zero {x : Int} (h : i64 x) : BitVec.ofInt 64 x = 0#64 ↔ x = 0 := by
 obtain ⟨h1, h2⟩ := h
 constructor
 ·
  intro e
  have := congrArg BitVec.toNat e
  rw [toNat_ofInt64] at this
  have h0 : (0#64).toNat = 0 := rfl
  omega
 ·
  rintro rfl; rfl
theorem orI_zero {x y : Int} (hx : i64 x) (hy : i64 y) : orI x y = 0 ↔ x = 0 ∧ y = 0 := by
 have h1 : orI x y = 0 ↔ (BitVec.ofInt 64 x ||| BitVec.ofInt 64 y) = 0#64 := by
  unfold orI
  generalize BitVec.ofInt 64 x ||| BitVec.ofInt 64 y = v
  have hv := v.isLt
  constructor
  ·
   intro e
   unfold IntKind.wrap at e; simp [IntKind.signed, IntKind.bits] at e
   apply BitVec.eq_of_toNat_eq
   have h0 : (0#64).toNat = 0 := rfl
   split at e <;> omega
  ·
   rintro rfl; rfl
 rw [h1, BitVec.or_eq_zero_iff, ofInt_zero hx, ofInt_zero hy]
def Bat.off (b : Bat) : Prop := b.base < 0 ∨ ¬ (0 ≤ b.epoch ∧ b.epoch ≤ 1000000000) ∨ ¬ (0 ≤ b.pid ∧ b.pid ≤ 1000000000) ∨ ¬ (0 ≤ b.pidEpoch ∧ b.pidEpoch ≤ 1000000000) ∨ ¬ (0 ≤ b.seq ∧ b.seq ≤ 1000000000) ∨ (b.pid = 0 ∧ (b.pidEpoch ≠ 0 ∨ b.seq ≠ 0)) ∨ b.recs.length = 0
def timely (r : Rec) : Prop := 0 ≤ r.time ∧ r.time ≤ 1000000000
def long (r : Rec) : Bool := decide (1000 < r.key.length) || decide (1000 < r.value.length)
theorem long_iff (r : Rec) : long r = true ↔ 1000 < r.key.length ∨ 1000 < r.value.length := by simp [long]
theorem long_r3 {r : Rec} (h : ¬ 1000 < r.key.length) : long r = decide (1000 < r.value.length) := by unfold long; rw [decide_eq_false h, Bool.false_or]
theorem right_off {b : Bat} (h : b.off) : right b = 1 := if_pos h
theorem right_time {b : Bat} {r : Rec} {j : Nat} (h : b.recs[j]? = some r) (ht : ¬ timely r) : right b = 1 := by
 unfold right
 split
 ·
  rfl
 ·
  rw [if_pos ⟨r, List.mem_of_getElem? h, ht⟩]
theorem right_on {b : Bat} (h : ¬ b.off) (ht : ∀ r ∈ b.recs, timely r) : right b = if 64 < b.recs.length then 3 else if b.recs.any long then 2 else if 1000000000 - (b.recs.length : Int) + 1 < b.base ∨ 1000000 - (b.recs.length : Int) + 1 < b.seq then 20 else if 4088 < (body b).length then 2 else 0 := by
 have h2 : ¬ ∃ r ∈ b.recs, ¬ (0 ≤ r.time ∧ r.time ≤ 1000000000) := fun ⟨r, hr, h⟩ => h (ht r hr)
 have h3 : (∃ r ∈ b.recs, 1000 < r.key.length ∨ 1000 < r.value.length) ↔ b.recs.any long = true := by
  rw [List.any_eq_true]
  exact ⟨fun ⟨r, hr, h⟩ => ⟨r, hr, (long_iff r).2 h⟩, fun ⟨r, hr, h⟩ => ⟨r, hr, (long_iff r).1 h⟩⟩
 unfold Bat.off at h
 unfold right
 rw [if_neg h, if_neg h2]
 simp only [h3]
theorem any_take {α : Type} {f : α → Bool} {l : List α} {j : Nat} {x : α} (h : l[j]? = some x) : (l.take (j + 1)).any f = ((l.take j).any f || f x) := by
 rw [List.take_add_one, h, List.any_append]; simp
theorem all_take {α : Type} {p : α → Prop} {l : List α} {j : Nat} {x : α} (h : l[j]? = some x) (hx : p x) (hj : ∀ y ∈ l.take j, p y) : ∀ y ∈ l.take (j + 1), p y := by
 rw [List.take_add_one, h]
 intro y hy
 rcases List.mem_append.1 hy with hy | hy
 ·
  exact hj y hy
 ·
  simp at hy; exact hy ▸ hx
theorem small_of {b : Bat} (hn : ¬ 64 < b.recs.length) (hl : ¬ b.recs.any long = true) : b.small := ⟨by omega, fun r hr => by
 have : ¬ long r = true := fun h => hl (List.any_eq_true.2 ⟨r, hr, h⟩)
 rw [long_iff] at this; omega⟩
theorem right_zero {b : Bat} (h : right b = 0) : b.small ∧ (body b).length ≤ 4088 := by
 by_cases hno : b.off
 ·
  rw [right_off hno] at h; cases h
 by_cases ht : ∀ r ∈ b.recs, timely r
 ·
  rw [right_on hno ht] at h
  split at h
  ·
   cases h
  ·
   split at h
   ·
    cases h
   ·
    rename_i h1 h2
    refine ⟨small_of h1 h2, ?_⟩
    split at h
    ·
     cases h
    ·
     split at h
     ·
      cases h
     ·
      omega
 ·
  have h2 : ∃ r, r ∈ b.recs ∧ ¬ timely r := Classical.byContradiction fun hx => ht fun r hr => Classical.byContradiction fun hy => hx ⟨r, hr, hy⟩
  obtain ⟨r, hr, h3⟩ := h2
  obtain ⟨j, hj⟩ := List.getElem?_of_mem hr
  rw [right_time hj h3] at h; cases h
theorem wbatch_no {b : Bat} (h : right b ≠ 0) : wbatch b = ([], right b) := if_neg h
theorem wbatch_yes {b : Bat} (h : right b = 0) : wbatch b = (fours (body b).length ++ fours (crc (body b)).toNat ++ body b, 0) := if_pos h
end Go.Proofs.YtoglbebcdjdkiaaGreatDoor
/- Chapter 3: bytes as batches and as records of metadata, in plain Lean. -/
namespace Go.Proofs.YtoglbebcdjdkiaaGreatDoor
open Go Go.Sp
abbrev Par (α : Type) := Option (α × List UInt8)
def pI (l : List UInt8) : Par Int := if (rint l).2.2 = 0 then some ((rint l).1, l.drop (rint l).2.1) else none
def pT (most : Int) (l : List UInt8) : Par (List UInt8) := (pI l).bind fun x => if 0 ≤ x.1 ∧ x.1 ≤ most ∧ x.1 ≤ x.2.length then some (x.2.take x.1.toNat, x.2.drop x.1.toNat) else none
def pMany {α : Type} (p : List UInt8 → Par α) : Nat → List UInt8 → Par (List α)
 | 0, l => some ([], l)
 | n + 1, l => (pMany p n l).bind fun x => (p x.2).map fun y => (x.1 ++ [y.1], y.2)
theorem pMany_none {α : Type} {p : List UInt8 → Par α} {l : List UInt8} {k : Nat} (h : pMany p k l = none) : ∀ m, k ≤ m → pMany p m l = none := by
 intro m hm
 induction m with
 | zero =>
  obtain rfl : k = 0 := by omega
  exact h
 | succ m ih =>
  by_cases hk : k = m + 1
  ·
   subst hk; exact h
  ·
   rw [pMany, ih (by omega)]; rfl
def Fol {α : Type} (good : Bool) (l : List UInt8) (o : Par α) (x : α) : Prop := (good = true ∧ o = some (x, l)) ∨ (good = false ∧ o = none)
theorem Fol.rdI {α β : Type} {p : Rdr} {o : Par α} {x : α} (h : Fol p.2 p.1 o x) {f : α → Int → β} : Fol (rdI p).2.2 (rdI p).2.1 (o.bind fun y => (pI y.2).map fun z => (f y.1 z.1, z.2)) (f x (rdI p).1) := by
 rcases h with ⟨hg, rfl⟩ | ⟨hg, rfl⟩
 ·
  by_cases he : (rint p.1).2.2 = 0
  ·
   refine .inl ⟨by simp [Go.Proofs.YtoglbebcdjdkiaaGreatDoor.rdI, hg, he], ?_⟩
   simp [pI, he, Go.Proofs.YtoglbebcdjdkiaaGreatDoor.rdI]
  ·
   refine .inr ⟨by simp [Go.Proofs.YtoglbebcdjdkiaaGreatDoor.rdI, he], ?_⟩
   simp [pI, he]
 ·
  exact .inr ⟨by simp [Go.Proofs.YtoglbebcdjdkiaaGreatDoor.rdI, hg], rfl⟩
theorem Fol.rdT {α β : Type} {p : Rdr} {o : Par α} {x : α} (most : Int) (h : Fol p.2 p.1 o x) {f : α → List UInt8 → β} : Fol (rdT most p).2.2 (rdT most p).2.1 (o.bind fun y => (pT most y.2).map fun z => (f y.1 z.1, z.2)) (f x (rdT most p).1) := by
 rcases h with ⟨hg, rfl⟩ | ⟨hg, rfl⟩
 ·
  by_cases he : (rint p.1).2.2 = 0
  ·
   have h1 : pI p.1 = some ((Go.Proofs.YtoglbebcdjdkiaaGreatDoor.rdI p).1, (Go.Proofs.YtoglbebcdjdkiaaGreatDoor.rdI p).2.1) := by simp [pI, he, Go.Proofs.YtoglbebcdjdkiaaGreatDoor.rdI]
   have h2 : (Go.Proofs.YtoglbebcdjdkiaaGreatDoor.rdI p).2.2 = true := by simp [Go.Proofs.YtoglbebcdjdkiaaGreatDoor.rdI, hg, he]
   have h3 : pT most p.1 = if 0 ≤ (Go.Proofs.YtoglbebcdjdkiaaGreatDoor.rdI p).1 ∧ (Go.Proofs.YtoglbebcdjdkiaaGreatDoor.rdI p).1 ≤ most ∧ (Go.Proofs.YtoglbebcdjdkiaaGreatDoor.rdI p).1 ≤ (Go.Proofs.YtoglbebcdjdkiaaGreatDoor.rdI p).2.1.length then some ((Go.Proofs.YtoglbebcdjdkiaaGreatDoor.rdI p).2.1.take (Go.Proofs.YtoglbebcdjdkiaaGreatDoor.rdI p).1.toNat, (Go.Proofs.YtoglbebcdjdkiaaGreatDoor.rdI p).2.1.drop (Go.Proofs.YtoglbebcdjdkiaaGreatDoor.rdI p).1.toNat) else none := by simp [pT, h1]
   by_cases hc : 0 ≤ (Go.Proofs.YtoglbebcdjdkiaaGreatDoor.rdI p).1 ∧ (Go.Proofs.YtoglbebcdjdkiaaGreatDoor.rdI p).1 ≤ most ∧ (Go.Proofs.YtoglbebcdjdkiaaGreatDoor.rdI p).1 ≤ (Go.Proofs.YtoglbebcdjdkiaaGreatDoor.rdI p).2.1.length
   ·
    refine .inl ⟨by simp [Go.Proofs.YtoglbebcdjdkiaaGreatDoor.rdT, hc, h2], ?_⟩
    simp [h3, hc, Go.Proofs.YtoglbebcdjdkiaaGreatDoor.rdT]
   ·
    refine .inr ⟨by simp only [Go.Proofs.YtoglbebcdjdkiaaGreatDoor.rdT, if_neg hc], ?_⟩
    simp [h3, hc]
  ·
   refine .inr ⟨?_, ?_⟩
   ·
    have h2 : (Go.Proofs.YtoglbebcdjdkiaaGreatDoor.rdI p).2.2 = false := by simp [Go.Proofs.YtoglbebcdjdkiaaGreatDoor.rdI, he]
    unfold Go.Proofs.YtoglbebcdjdkiaaGreatDoor.rdT; split
    ·
     exact h2
    ·
     rfl
   ·
    simp [pT, pI, he]
 ·
  refine .inr ⟨?_, rfl⟩
  have h2 : (Go.Proofs.YtoglbebcdjdkiaaGreatDoor.rdI p).2.2 = false := by simp [Go.Proofs.YtoglbebcdjdkiaaGreatDoor.rdI, hg]
  unfold Go.Proofs.YtoglbebcdjdkiaaGreatDoor.rdT; split
  ·
   exact h2
  ·
   rfl
theorem rdT_most {m : Int} (r : Rdr) (hm : 0 ≤ m) : ((rdT m r).1.length : Int) ≤ m := by
 unfold rdT
 split
 ·
  rename_i h
  show (((rdI r).2.1.take _).length : Int) ≤ m
  rw [List.length_take]; omega
 ·
  exact hm
def pRec (l : List UInt8) : Par Rec := (pI l).bind fun t => (pT 1000 t.2).bind fun k => (pT 1000 k.2).map fun v => (⟨k.1, v.1, t.1⟩, v.2)
def bat (xs : List Int) (rs : List Rec) : Bat := ⟨xs.getD 0 0, xs.getD 1 0, xs.getD 2 0, xs.getD 3 0, xs.getD 4 0, rs⟩
def pHead (t : List UInt8) : Par (List Int × Int) := (pMany pI 5 t).bind fun x => (pI x.2).map fun n => ((x.1, n.1), n.2)
def pPart (k : Nat) (t : List UInt8) : Par ((List Int × Int) × List Rec) := (pHead t).bind fun x => (pMany pRec k x.2).map fun y => ((x.1, y.1), y.2)
def pBatch (t : List UInt8) : Option Bat := (pHead t).bind fun x => if 1 ≤ x.1.2 ∧ x.1.2 ≤ 64 then (pMany pRec x.1.2.toNat x.2).bind fun y => if y.2 = [] ∧ right (bat x.1.1 y.1) = 0 then some (bat x.1.1 y.1) else none else none
def zeroB : Bat := ⟨0, 0, 0, 0, 0, []⟩
def readBatch (s : List UInt8) : Bat × Int × Int :=
 if s.length < 8 then (zeroB, 0, 5)
 else if 4088 < four s then (zeroB, 0, 2)
 else if s.length - 8 < four s then (zeroB, 0, 5)
 else if (crc ((s.drop 8).take (four s))).toNat ≠ four (s.drop 4) then (zeroB, 0, 6)
 else match pBatch ((s.drop 8).take (four s)) with
  | some b => (b, 8 + (four s : Int), 0)
  | none => (zeroB, 0, 4)
theorem pPart_zero {good : Bool} {l t : List UInt8} {xs : List Int} {n : Int} (h : Fol good l (pHead t) (xs, n)) : Fol good l (pPart 0 t) ((xs, n), []) := by
 rcases h with ⟨hg, h⟩ | ⟨hg, h⟩
 ·
  exact .inl ⟨hg, by unfold pPart; rw [h]; rfl⟩
 ·
  exact .inr ⟨hg, by unfold pPart; rw [h]; rfl⟩
theorem pPart_next {good : Bool} {l t : List UInt8} {k : Nat} {x : (List Int × Int) × List Rec} {r : Rec}
  (h : Fol good l ((((pPart k t).bind fun y => (pI y.2).map fun z => ((y.1, z.1), z.2)).bind fun y => (pT 1000 y.2).map fun z => ((y.1, z.1), z.2)).bind fun y => (pT 1000 y.2).map fun z => ((y.1, z.1), z.2)) (((x, r.time), r.key), r.value)) :
  Fol good l (pPart (k + 1) t) (x.1, x.2 ++ [r]) := by
 have e : pPart (k + 1) t = ((((pPart k t).bind fun y => (pI y.2).map fun z => ((y.1, z.1), z.2)).bind fun y => (pT 1000 y.2).map fun z => ((y.1, z.1), z.2)).bind fun y => (pT 1000 y.2).map fun z => ((y.1, z.1), z.2)).map fun w => ((w.1.1.1.1.1, w.1.1.1.1.2 ++ [⟨w.1.1.2, w.1.2, w.1.1.1.2⟩]), w.2) := by
  unfold pPart
  cases pHead t with
  | none => rfl
  | some x =>
   simp only [Option.bind_some, pMany]
   cases pMany pRec k x.2 with
   | none => rfl
   | some y =>
    simp only [Option.map_some, Option.bind_some, pRec]
    cases pI y.2 with
    | none => rfl
    | some z =>
     simp only [Option.map_some, Option.bind_some]
     cases pT 1000 z.2 with
     | none => rfl
     | some u =>
      simp only [Option.map_some, Option.bind_some]
      cases pT 1000 u.2 with
      | none => rfl
      | some v => rfl
 rcases h with ⟨hg, h⟩ | ⟨hg, h⟩
 ·
  exact .inl ⟨hg, by rw [e, h]; rfl⟩
 ·
  exact .inr ⟨hg, by rw [e, h]; rfl⟩
theorem pPart_none {k m : Nat} {t : List UInt8} (h : pPart k t = none) (hm : k ≤ m) : pPart m t = none := by
 unfold pPart at h ⊢
 cases hh : pHead t with
 | none => rfl
 | some x =>
  rw [hh] at h
  simp only [Option.bind_some, Option.map_eq_none_iff] at h ⊢
  exact pMany_none h m hm
theorem pBatch_some {t : List UInt8} {xs : List Int} {n : Int} {rs : List Rec} (h : pPart n.toNat t = some (((xs, n), rs), [])) (h1 : 1 ≤ n ∧ n ≤ 64) (hr : right (bat xs rs) = 0) : pBatch t = some (bat xs rs) := by
 unfold pPart at h; unfold pBatch
 cases hh : pHead t with
 | none => rw [hh] at h; cases h
 | some x =>
  rw [hh] at h
  simp only [Option.bind_some, Option.map_eq_some_iff] at h ⊢
  obtain ⟨y, hy, e⟩ := h
  obtain ⟨⟨x1, x2⟩, x3⟩ := x
  obtain ⟨y1, y2⟩ := y
  cases e
  rw [if_pos h1, hy]
  simp [hr]
theorem pBatch_inv {t : List UInt8} {b : Bat} (h : pBatch t = some b) : ∃ xs n rs, pPart n.toNat t = some (((xs, n), rs), []) ∧ (1 ≤ n ∧ n ≤ 64) ∧ right (bat xs rs) = 0 ∧ b = bat xs rs := by
 unfold pBatch at h
 cases hh : pHead t with
 | none => rw [hh] at h; cases h
 | some x =>
  rw [hh] at h
  simp only [Option.bind_some] at h
  split at h
  ·
   rename_i h1
   cases hy : pMany pRec x.1.2.toNat x.2 with
   | none => rw [hy] at h; cases h
   | some y =>
    rw [hy] at h
    simp only [Option.bind_some] at h
    split at h
    ·
     rename_i h2
     cases h
     obtain ⟨⟨x1, x2⟩, x3⟩ := x
     obtain ⟨y1, y2⟩ := y
     obtain ⟨rfl, h3⟩ := h2
     exact ⟨x1, x2, y1, by unfold pPart; rw [hh]; simp only [Option.bind_some]; rw [hy]; rfl, h1, h3, rfl⟩
    ·
     cases h
  ·
   cases h
theorem pPart_head {t : List UInt8} {k : Nat} {x rs l} (h : pPart k t = some ((x, rs), l)) : ∃ m, pHead t = some (x, m) := by
 unfold pPart at h
 cases hh : pHead t with
 | none => rw [hh] at h; cases h
 | some x =>
  rw [hh] at h
  simp only [Option.bind_some, Option.map_eq_some_iff] at h
  obtain ⟨y, hy, e⟩ := h
  cases e
  exact ⟨_, rfl⟩
theorem pBatch_yes {good : Bool} {l t : List UInt8} {xs n rs} (h : Fol good l (pPart rs.length t) ((xs, n), rs)) (hn : rs.length = n) (hg : good = true) (hl : l = []) (hr : right (bat xs rs) = 0) (h1 : 1 ≤ n ∧ n ≤ 64) : pBatch t = some (bat xs rs) := by
 rcases h with ⟨_, h⟩ | ⟨h, _⟩
 ·
  subst hl; subst hn; exact pBatch_some (by rw [Int.toNat_natCast]; exact h) h1 hr
 ·
  rw [hg] at h; cases h
theorem pBatch_no {good : Bool} {l t : List UInt8} {xs n rs} (h : Fol good l (pPart rs.length t) ((xs, n), rs)) (hw : ¬ (good = true ∧ l = [] ∧ right (bat xs rs) = 0)) (hx : good = true → 1 ≤ n → n ≤ 64 → rs.length = n) (hle : good = false → 1 ≤ n → n ≤ 64 → (rs.length : Int) ≤ n) (hsame : good = false → pHead t = none ∨ ∃ m, pHead t = some ((xs, n), m)) : pBatch t = none := by
 cases hb : pBatch t with
 | none => rfl
 | some b =>
  exfalso
  obtain ⟨xs', n', rs', h1, h2, h3, rfl⟩ := pBatch_inv hb
  obtain ⟨m', hm'⟩ := pPart_head h1
  rcases h with ⟨hg, h⟩ | ⟨hg, h⟩
  ·
   obtain ⟨m, hm⟩ := pPart_head h
   rw [hm] at hm'; cases hm'
   have := hx hg h2.1 h2.2
   rw [← this] at h1
   rw [show (((rs.length : Nat) : Int)).toNat = rs.length from rfl, h] at h1
   cases h1
   exact hw ⟨hg, rfl, h3⟩
  ·
   rcases hsame hg with h4 | ⟨m, h4⟩
   ·
    rw [h4] at hm'; cases hm'
   ·
    rw [h4] at hm'; cases hm'
    have := hle hg h2.1 h2.2
    rw [pPart_none h (by omega)] at h1; cases h1
theorem Fol.head {good : Bool} {l t : List UInt8} {k : Nat} {x rs} (h : Fol good l (pHead t) x) {good' : Bool} {l' : List UInt8} (_ : Fol good' l' (pPart k t) (x, rs)) : pHead t = none ∨ ∃ m, pHead t = some (x, m) := by
 rcases h with ⟨_, h⟩ | ⟨_, h⟩
 ·
  exact .inr ⟨_, h⟩
 ·
  exact .inl h
def vec (xs : List Int) : List Value := (xs ++ List.replicate (5 - xs.length) 0).map (Value.int .i64)
theorem vec_set {xs : List Int} (h : xs.length < 5) (x : Int) (s : List Value) : (vec xs ++ s).set xs.length (.int .i64 x) = vec (xs ++ [x]) ++ s := by
 match xs, h with
 | [], _ => rfl
 | [_], _ => rfl
 | [_, _], _ => rfl
 | [_, _, _], _ => rfl
 | [_, _, _, _], _ => rfl
theorem bat_fits {xs : List Int} {rs : List Rec} (h5 : xs.length = 5) (h : ∀ x ∈ xs, i64 x) (hr : ∀ r ∈ rs, i64 r.time ∧ r.key.length ≤ 1000 ∧ r.value.length ≤ 1000) (hn : rs.length ≤ 65) : (bat xs rs).fits := by
 match xs, h5 with
 | [a, b, c, d, e], _ =>
  exact ⟨h _ (by simp [bat]), h _ (by simp [bat]), h _ (by simp [bat]), h _ (by simp [bat]), h _ (by simp [bat]), fun r h => (hr r h).1, fun r h => by have := (hr r h).2.1; omega, fun r h => by have := (hr r h).2.2; omega, by show rs.length * 40 ≤ _; omega⟩
end Go.Proofs.YtoglbebcdjdkiaaGreatDoor
/- Chapter 3: reading a batch, in plain Lean: the cases. -/
namespace Go.Proofs.YtoglbebcdjdkiaaGreatDoor
open Go Go.Sp
section
variable {s : List UInt8}
theorem readBatch_short (h : s.length < 8) : readBatch s = (zeroB, 0, 5) := if_pos h
theorem readBatch_long (h : ¬ s.length < 8) (h2 : 4088 < four s) : readBatch s = (zeroB, 0, 2) := by unfold readBatch; rw [if_neg h, if_pos h2]
theorem readBatch_cut (h : ¬ s.length < 8) (h2 : ¬ 4088 < four s) (h3 : s.length - 8 < four s) : readBatch s = (zeroB, 0, 5) := by unfold readBatch; rw [if_neg h, if_neg h2, if_pos h3]
theorem readBatch_sum {t : List UInt8} (h : ¬ s.length < 8) (h2 : ¬ 4088 < four s) (h3 : ¬ s.length - 8 < four s) (ht : t = (s.drop 8).take (four s)) (h4 : (crc t).toNat ≠ four (s.drop 4)) : readBatch s = (zeroB, 0, 6) := by
 subst ht; unfold readBatch; rw [if_neg h, if_neg h2, if_neg h3, if_pos h4]
theorem readBatch_no {t : List UInt8} (h : ¬ s.length < 8) (h2 : ¬ 4088 < four s) (h3 : ¬ s.length - 8 < four s) (ht : t = (s.drop 8).take (four s)) (h4 : (crc t).toNat = four (s.drop 4)) (hb : pBatch t = none) : readBatch s = (zeroB, 0, 4) := by
 subst ht; unfold readBatch; rw [if_neg h, if_neg h2, if_neg h3, if_neg (by omega), hb]
theorem readBatch_yes {t : List UInt8} {b : Bat} (h : ¬ s.length < 8) (h2 : ¬ 4088 < four s) (h3 : ¬ s.length - 8 < four s) (ht : t = (s.drop 8).take (four s)) (h4 : (crc t).toNat = four (s.drop 4)) (hb : pBatch t = some b) : readBatch s = (b, 8 + (four s : Int), 0) := by
 subst ht; unfold readBatch; rw [if_neg h, if_neg h2, if_neg h3, if_neg (by omega), hb]
end
theorem five_of {xs : List Int} (h : xs.length = 5) : ∃ a b c d e, xs = [a, b, c, d, e] := by
 match xs, h with
 | [a, b, c, d, e], _ => exact ⟨a, b, c, d, e, rfl⟩
theorem ptr_at (b : Nat) {i : Nat} (h : i < 5) : (#[Value.pointer (some ⟨b, 0, none⟩), .pointer (some ⟨b, 1, none⟩), .pointer (some ⟨b, 2, none⟩), .pointer (some ⟨b, 3, none⟩), .pointer (some ⟨b, 4, none⟩)] : Array Value)[i]? = some (.pointer (some ⟨b, i, none⟩)) := by
 match i, h with
 | 0, _ => rfl
 | 1, _ => rfl
 | 2, _ => rfl
 | 3, _ => rfl
 | 4, _ => rfl
theorem vec_len {xs : List Int} (h : xs.length ≤ 5) : (vec xs).length = 5 := by unfold vec; rw [List.length_map, List.length_append, List.length_replicate]; omega
theorem pMany_next {good : Bool} {l t : List UInt8} {xs : List Int} {x : Int} (h : Fol good l ((pMany pI xs.length t).bind fun y => (pI y.2).map fun z => (y.1 ++ [z.1], z.2)) (xs ++ [x])) : Fol good l (pMany pI (xs ++ [x]).length t) (xs ++ [x]) := by rw [List.length_append]; exact h
theorem all_snoc {α : Type} {p : α → Prop} {l : List α} {x : α} (h : ∀ y ∈ l, p y) (hx : p x) : ∀ y ∈ l ++ [x], p y := by
 intro y hy
 rcases List.mem_append.1 hy with hy | hy
 ·
  exact h y hy
 ·
  simp at hy; exact hy ▸ hx
structure Far (n : Int) (rs : List Rec) : Prop where
 most : rs.length ≤ 65
 le : rs = [] ∨ (rs.length : Int) ≤ n
 ok : ∀ r ∈ rs, i64 r.time ∧ r.key.length ≤ 1000 ∧ r.value.length ≤ 1000
theorem Far.nil (n : Int) : Far n [] := ⟨by simp, .inl rfl, by simp⟩
theorem Far.snoc {n : Int} {rs : List Rec} {r : Rec} (h : Far n rs) (hn : (rs.length : Int) < n) (h64 : rs.length ≤ 64) (hr : i64 r.time ∧ r.key.length ≤ 1000 ∧ r.value.length ≤ 1000) : Far n (rs ++ [r]) :=
 ⟨by simp; omega, .inr (by simp; omega), all_snoc h.ok hr⟩
theorem right_many {b : Bat} (h : right b = 0) : 1 ≤ b.recs.length ∧ b.recs.length ≤ 64 := by
 by_cases hno : b.off
 ·
  rw [right_off hno] at h; cases h
 ·
  have h1 : 1 ≤ b.recs.length := by unfold Bat.off at hno; omega
  exact ⟨h1, (right_zero h).1.n⟩
end Go.Proofs.YtoglbebcdjdkiaaGreatDoor
/- Chapter 3: records of metadata, in plain Lean. -/
namespace Go.Proofs.YtoglbebcdjdkiaaGreatDoor
open Go Go.Sp
structure Met where
 kind : Int
 a : Int
 b : Int
 c : Int
 d : Int
 name : List UInt8
 text : List UInt8
 list : List Int
def icell (n : Int) : List Value := [.int .i64 n]
def Met.cells (m : Met) (p : Option Addr) (k : Nat) : List Value := [.int .i64 m.kind, .int .i64 m.a, .int .i64 m.b, .int .i64 m.c, .int .i64 m.d, .string (str m.name), .string (str m.text), .slice p m.list.length k]
structure Met.fits (m : Met) : Prop where
 kind : i64 m.kind
 a : i64 m.a
 b : i64 m.b
 c : i64 m.c
 d : i64 m.d
 name : m.name.length ≤ 140737488351232
 text : m.text.length ≤ 140737488351232
 ints : ∀ n ∈ m.list, i64 n
 len : m.list.length * 8 ≤ 140737488351232
def five (m : Met) : List Int := [m.kind, m.a, m.b, m.c, m.d]
def etext (s : List UInt8) : List UInt8 := eint (s.length : Int) ++ s
def mhead (m : Met) : List UInt8 := (five m).flatMap eint ++ eint (m.name.length : Int) ++ m.name ++ eint (m.text.length : Int) ++ m.text ++ eint (m.list.length : Int)
def mbody (m : Met) : List UInt8 := mhead m ++ m.list.flatMap eint
def wmeta (m : Met) : List UInt8 × Int :=
 if 32 < m.name.length ∨ 1000 < m.text.length then ([], 2)
 else if 64 < m.list.length then ([], 3)
 else if 2044 < (mbody m).length then ([], 2)
 else (fours (crc (mbody m)).toNat ++ mbody m, 0)
structure Met.small (m : Met) : Prop where
 name : m.name.length ≤ 32
 text : m.text.length ≤ 1000
 list : m.list.length ≤ 64
end Go.Proofs.YtoglbebcdjdkiaaGreatDoor
/- Chapter 3: bytes as a record of metadata, in plain Lean. -/
namespace Go.Proofs.YtoglbebcdjdkiaaGreatDoor
open Go Go.Sp
abbrev MH := ((List Int × List UInt8) × List UInt8) × Int
def pMHead (t : List UInt8) : Par MH := (((pMany pI 5 t).bind fun y => (pT 32 y.2).map fun z => ((y.1, z.1), z.2)).bind fun y => (pT 1000 y.2).map fun z => ((y.1, z.1), z.2)).bind fun y => (pI y.2).map fun z => ((y.1, z.1), z.2)
def pMPart (k : Nat) (t : List UInt8) : Par (MH × List Int) := (pMHead t).bind fun x => (pMany pI k x.2).map fun y => ((x.1, y.1), y.2)
def met (x : MH) (l : List Int) : Met := ⟨x.1.1.1.getD 0 0, x.1.1.1.getD 1 0, x.1.1.1.getD 2 0, x.1.1.1.getD 3 0, x.1.1.1.getD 4 0, x.1.1.2, x.1.2, l⟩
def pMeta (t : List UInt8) : Option Met := (pMHead t).bind fun x => if 0 ≤ x.1.2 ∧ x.1.2 ≤ 64 then (pMany pI x.1.2.toNat x.2).bind fun y => if y.2 = [] then some (met x.1 y.1) else none else none
def zeroM : Met := ⟨0, 0, 0, 0, 0, [], [], []⟩
def readMeta (s : List UInt8) : Met × Int :=
 if s.length < 4 then (zeroM, 5)
 else if 2048 < s.length then (zeroM, 2)
 else if (crc (s.drop 4)).toNat ≠ four s then (zeroM, 6)
 else match pMeta (s.drop 4) with
  | some m => (m, 0)
  | none => (zeroM, 4)
section
variable {s : List UInt8}
end
end Go.Proofs.YtoglbebcdjdkiaaGreatDoor
/- Chapter 3: what is written is read as it was; in plain Lean. -/
namespace Go.Proofs.YtoglbebcdjdkiaaGreatDoor
open Go Go.Sp
theorem toNat_ofNat8 {n : Nat} (h : n < 256) : (UInt8.ofNat n).toNat = n := by rw [UInt8.toNat_ofNat']; omega
theorem rintGo_vint : ∀ (f i z w : Nat) (l : List UInt8), i + f = 10 → w * 128 ^ i < 18446744073709551616 → (i = 0 ∨ 0 < w) → 0 < f → rintGo f i z (vint w ++ l) = (zag (z + w * 128 ^ i), i + (vint w).length, 0)
 | 0, _, _, _, _, _, _, _, h => absurd h (by omega)
 | f + 1, i, z, w, l, hif, hw, hp, _ => by
  have h9 : i = 9 → w < 2 := fun e => by
   subst e
   have : (128 : Nat) ^ 9 = 9223372036854775808 := by decide
   rw [this] at hw; omega
  by_cases h : w < 128
  ·
   rw [vint_small h]
   show rintGo (f + 1) i z (UInt8.ofNat w :: l) = _
   unfold rintGo
   rw [toNat_ofNat8 (by omega), if_neg (by intro ⟨a, b⟩; have := h9 a; omega), if_neg (by omega), if_neg (by omega), Nat.mod_eq_of_lt h]; rfl
  ·
   rw [vint_big h]
   show rintGo (f + 1) i z (UInt8.ofNat (w % 128 + 128) :: (vint (w / 128) ++ l)) = _
   have hi : i ≠ 9 := fun e => by have := h9 e; omega
   have e1 : w * 128 ^ i = w / 128 * 128 ^ (i + 1) + w % 128 * 128 ^ i := by
    rw [Nat.pow_succ, Nat.mul_comm (128 ^ i) 128, ← Nat.mul_assoc, ← Nat.add_mul]
    congr 1; omega
   unfold rintGo
   rw [toNat_ofNat8 (by omega), if_neg (by intro ⟨a, _⟩; exact hi a), if_pos (by omega), show (w % 128 + 128) % 128 = w % 128 by omega,
    rintGo_vint f (i + 1) _ (w / 128) l (by omega) (by omega) (.inr (by omega)) (by omega), e1]
   simp only [List.length_cons]
   congr 2
   ·
    omega
   ·
    omega
theorem rint_eint {n : Int} (h : i64 n) (l : List UInt8) : rint (eint n ++ l) = (n, (eint n).length, 0) := by
 have := rintGo_vint 10 0 0 (zig n) l rfl (by have := zig_lt h; omega) (.inl rfl) (by omega)
 unfold rint eint; rw [this]
 simp [zag_zig]
theorem pI_eint {n : Int} (h : i64 n) (l : List UInt8) : pI (eint n ++ l) = some (n, l) := by
 unfold pI; rw [rint_eint h]; simp
theorem pT_text {s : List UInt8} {most : Int} (h : (s.length : Int) ≤ most) (hm : most ≤ 9000000000000000000) (l : List UInt8) : pT most (eint (s.length : Int) ++ (s ++ l)) = some (s, l) := by
 unfold pT; rw [pI_eint ⟨by omega, by omega⟩]
 simp only [Option.bind_some]
 rw [if_pos ⟨by omega, h, by rw [List.length_append]; omega⟩]
 simp
theorem pMany_flat {α : Type} {p : List UInt8 → Par α} {e : α → List UInt8} (xs : List α) (hp : ∀ x ∈ xs, ∀ l, p (e x ++ l) = some (x, l)) (l : List UInt8) : ∀ n, n ≤ xs.length → pMany p n (xs.flatMap e ++ l) = some (xs.take n, (xs.drop n).flatMap e ++ l)
 | 0, _ => by simp [pMany]
 | n + 1, h => by
  obtain ⟨x, hx⟩ : ∃ x, xs[n]? = some x := ⟨_, List.getElem?_eq_getElem (by omega)⟩
  have hd : xs.drop n = x :: xs.drop (n + 1) := by
   rw [List.getElem?_eq_getElem (by omega)] at hx
   cases hx
   exact (List.drop_eq_getElem_cons (by omega))
  rw [pMany, pMany_flat xs hp l n (by omega)]
  simp only [Option.bind_some]
  rw [hd, List.flatMap_cons, List.append_assoc, hp x (List.mem_of_getElem? hx)]
  simp [List.take_add_one, hx]
theorem pMany_all {α : Type} {p : List UInt8 → Par α} {e : α → List UInt8} (xs : List α) (hp : ∀ x ∈ xs, ∀ l, p (e x ++ l) = some (x, l)) (l : List UInt8) : pMany p xs.length (xs.flatMap e ++ l) = some (xs, l) := by
 rw [pMany_flat xs hp l _ (Nat.le_refl _)]; simp
theorem pRec_rec {r : Rec} (ht : i64 r.time) (hk : r.key.length ≤ 1000) (hv : r.value.length ≤ 1000) (l : List UInt8) : pRec (recBody r ++ l) = some (r, l) := by
 unfold pRec recBody
 have e : eint r.time ++ eint (r.key.length : Int) ++ r.key ++ eint (r.value.length : Int) ++ r.value ++ l = eint r.time ++ (eint (r.key.length : Int) ++ (r.key ++ (eint (r.value.length : Int) ++ (r.value ++ l)))) := by simp only [List.append_assoc]
 rw [e, pI_eint ht]
 simp only [Option.bind_some]
 rw [pT_text (by omega) (by omega)]
 simp only [Option.bind_some]
 rw [pT_text (by omega) (by omega)]
 rfl
theorem pBatch_body {b : Bat} (hf : b.fits) (hr : right b = 0) : pBatch (body b) = some b := by
 obtain ⟨hs, _⟩ := right_zero hr
 have hmany := right_many hr
 have e : body b = [b.base, b.epoch, b.pid, b.pidEpoch, b.seq].flatMap eint ++ (eint (b.recs.length : Int) ++ (b.recs.flatMap recBody ++ [])) := by simp [body]
 have h1 := pMany_all (p := pI) (e := eint) [b.base, b.epoch, b.pid, b.pidEpoch, b.seq] (fun x hx l => pI_eint (six_ok hf x (by simp only [six, List.mem_cons, List.not_mem_nil, or_false] at hx ⊢; omega)) l) (eint (b.recs.length : Int) ++ (b.recs.flatMap recBody ++ []))
 have h2 : pHead (body b) = some (([b.base, b.epoch, b.pid, b.pidEpoch, b.seq], (b.recs.length : Int)), b.recs.flatMap recBody ++ []) := by
  unfold pHead; rw [e]
  rw [show pMany pI 5 _ = _ from h1]
  simp only [Option.bind_some]
  rw [pI_eint ⟨by omega, by omega⟩]; rfl
 have h3 := pMany_all (p := pRec) (e := recBody) b.recs (fun r hr l => pRec_rec (hf.time r hr) (hs.k r hr).1 (hs.k r hr).2 l) []
 unfold pBatch; rw [h2]
 simp only [Option.bind_some]
 rw [if_pos ⟨by omega, by omega⟩, Int.toNat_natCast, h3]
 exact if_pos ⟨rfl, hr⟩
theorem read_write {b : Bat} (hf : b.fits) (hr : right b = 0) (more : List UInt8) : readBatch ((wbatch b).1 ++ more) = (b, ((wbatch b).1.length : Int), 0) := by
 obtain ⟨hs, hbl⟩ := right_zero hr
 rw [wbatch_yes hr]
 show readBatch (fours (body b).length ++ fours (crc (body b)).toNat ++ body b ++ more) = _
 have hcl : (crc (body b)).toNat < 4294967296 := (crc (body b)).isLt
 have e4 : four (fours (body b).length ++ fours (crc (body b)).toNat ++ body b ++ more) = (body b).length := by
  rw [List.append_assoc, List.append_assoc, four_fours (by omega)]
 have e8 : (fours (body b).length ++ fours (crc (body b)).toNat ++ body b ++ more).drop 4 = fours (crc (body b)).toNat ++ (body b ++ more) := by
  rw [List.append_assoc, List.append_assoc]; exact List.drop_left' rfl
 have e9 : (fours (body b).length ++ fours (crc (body b)).toNat ++ body b ++ more).drop 8 = body b ++ more := by
  rw [List.append_assoc (fours (body b).length ++ fours (crc (body b)).toNat)]; exact List.drop_left' rfl
 have el : (fours (body b).length ++ fours (crc (body b)).toNat ++ body b ++ more).length = 8 + (body b).length + more.length := by
  simp only [List.length_append, fours_len]
 have et : (body b ++ more).take (body b).length = body b := by simp
 rw [readBatch_yes (t := body b) (b := b) (by rw [el]; omega) (by rw [e4]; omega) (by rw [el, e4]; omega) (by rw [e4, e9, et]) (by rw [e8, four_fours hcl]) (pBatch_body hf hr), e4]
 simp only [List.length_append, fours_len]
 congr 1
theorem wbatch_len {b : Bat} (hr : right b = 0) : (wbatch b).1.length = 8 + (body b).length := by rw [wbatch_yes hr]; simp only [List.length_append, fours_len]
end Go.Proofs.YtoglbebcdjdkiaaGreatDoor
/- Chapter 6: batches one behind the other in a file, in plain Lean. -/
namespace Go.Proofs.YtoglbebcdjdkiaaGreatDoor
open Go Go.Sp
def Bat.en (b : Bat) : Int := b.base + b.recs.length
def enc (b : Bat) : List UInt8 := (wbatch b).1
def flat (bs : List Bat) : List UInt8 := bs.flatMap enc
structure One where
 base : Int
 en : Int
 fr : Nat
 tl : Nat
def One.cells (x : One) : List Value := [.int .i64 x.base, .int .i64 x.en, .int .i64 (x.fr : Int), .int .i64 (x.tl : Int)]
theorem One.cells_len (x : One) : x.cells.length = 4 := rfl
def onesOf : Nat → List Bat → List One
 | _, [] => []
 | k, b :: bs => ⟨b.base, b.en, k, k + (enc b).length⟩ :: onesOf (k + (enc b).length) bs
structure Bat.good (b : Bat) : Prop where
 right : right b = 0
 fits : b.fits
 en : b.en ≤ 1000000000
def Chain : Int → List Bat → Prop
 | _, [] => True
 | n, b :: bs => b.base = n ∧ Chain b.en bs
def nextOf : Int → List Bat → Int
 | n, [] => n
 | _, b :: bs => nextOf b.en bs
theorem Bat.good.recs {b : Bat} (h : b.good) : 1 ≤ b.recs.length := by
 have := h.right
 unfold Go.Proofs.YtoglbebcdjdkiaaGreatDoor.right at this
 split at this
 ·
  cases this
 ·
  rename_i h1; omega
theorem Bat.good.base {b : Bat} (h : b.good) : 0 ≤ b.base := by
 have := h.right
 unfold Go.Proofs.YtoglbebcdjdkiaaGreatDoor.right at this
 split at this
 ·
  cases this
 ·
  rename_i h1; omega
theorem Bat.good.recs64 {b : Bat} (h : b.good) : b.recs.length ≤ 64 := by
 have := (right_zero h.right).1.n; omega
theorem Bat.good.enc_len {b : Bat} (h : b.good) : (enc b).length = 8 + (body b).length := wbatch_len h.right
theorem Bat.good.enc_le {b : Bat} (h : b.good) : (enc b).length ≤ 4096 := by rw [h.enc_len]; have := (right_zero h.right).2; omega
theorem Bat.good.enc_pos {b : Bat} (h : b.good) : 8 ≤ (enc b).length := by rw [h.enc_len]; omega
theorem Bat.good.lt {b : Bat} (h : b.good) : b.base < b.en := by have := h.recs; unfold Bat.en; omega
theorem flat_cons (b : Bat) (bs : List Bat) : flat (b :: bs) = enc b ++ flat bs := List.flatMap_cons ..
theorem flat_app (a b : List Bat) : flat (a ++ b) = flat a ++ flat b := List.flatMap_append ..
theorem flat_snoc (a : List Bat) (b : Bat) : flat (a ++ [b]) = flat a ++ enc b := by rw [flat_app]; simp [flat]
theorem onesOf_len : ∀ (k : Nat) (bs : List Bat), (onesOf k bs).length = bs.length
 | _, [] => rfl
 | k, b :: bs => congrArg (· + 1) (onesOf_len (k + (enc b).length) bs)
theorem onesOf_get : ∀ (k : Nat) (bs : List Bat) (i : Nat), (onesOf k bs)[i]? = bs[i]?.map fun b => ⟨b.base, b.en, k + (flat (bs.take i)).length, k + (flat (bs.take i)).length + (enc b).length⟩
 | _, [], i => by simp [onesOf]
 | k, b :: bs, 0 => by simp [onesOf, flat]
 | k, b :: bs, i + 1 => by
  show (onesOf (k + (enc b).length) bs)[i]? = _
  rw [onesOf_get, List.getElem?_cons_succ, List.take_succ_cons, flat_cons, List.length_append]
  cases bs[i]? with
  | none => rfl
  | some x => simp [Nat.add_assoc]
theorem onesOf_app : ∀ (k : Nat) (a b : List Bat), onesOf k (a ++ b) = onesOf k a ++ onesOf (k + (flat a).length) b
 | _, [], _ => rfl
 | k, x :: a, b => by
  show _ :: onesOf _ (a ++ b) = _ :: (onesOf _ a ++ _)
  rw [onesOf_app, flat_cons, List.length_append, Nat.add_assoc]
theorem onesOf_snoc (k : Nat) (a : List Bat) (b : Bat) : onesOf k (a ++ [b]) = onesOf k a ++ [⟨b.base, b.en, k + (flat a).length, k + (flat a).length + (enc b).length⟩] := onesOf_app k a [b]
theorem onesOf_take (k : Nat) (bs : List Bat) (n : Nat) : (onesOf k bs).take n = onesOf k (bs.take n) := by
 by_cases h : n ≤ bs.length
 ·
  have := onesOf_app k (bs.take n) (bs.drop n)
  rw [List.take_append_drop] at this
  rw [this, List.take_left' (by rw [onesOf_len, List.length_take]; omega)]
 ·
  rw [List.take_of_length_le (by rw [onesOf_len]; omega), List.take_of_length_le (by omega)]
theorem flat_get {bs : List Bat} {i : Nat} {b : Bat} (h : bs[i]? = some b) : flat bs = flat (bs.take i) ++ (enc b ++ flat (bs.drop (i + 1))) := by
 obtain ⟨hi, rfl⟩ := List.getElem?_eq_some_iff.1 h
 rw [← flat_cons, ← flat_app, ← List.drop_eq_getElem_cons hi, List.take_append_drop]
theorem flat_cut {bs : List Bat} {i : Nat} {b : Bat} (h : bs[i]? = some b) : ((flat bs).drop (flat (bs.take i)).length).take (enc b).length = enc b := by
 rw [flat_get h, List.drop_left, List.take_left]
theorem flat_take (bs : List Bat) (i : Nat) : (flat bs).take (flat (bs.take i)).length = flat (bs.take i) := by
 have : flat bs = flat (bs.take i) ++ flat (bs.drop i) := by rw [← flat_app, List.take_append_drop]
 rw [this, List.take_left]
theorem flat_lq {bs : List Bat} (i : Nat) : (flat (bs.take i)).length ≤ (flat bs).length := by
 have := congrArg List.length (flat_take bs i); rw [List.length_take] at this; omega
theorem nextOf_snoc : ∀ (n : Int) (bs : List Bat) (b : Bat), nextOf n (bs ++ [b]) = b.en
 | _, [], _ => rfl
 | _, x :: bs, b => nextOf_snoc x.en bs b
theorem nextOf_app : ∀ (n : Int) (a b : List Bat), nextOf n (a ++ b) = nextOf (nextOf n a) b
 | _, [], _ => rfl
 | _, x :: a, b => nextOf_app x.en a b
theorem Chain.app : ∀ {n : Int} {a b : List Bat}, Chain n (a ++ b) ↔ Chain n a ∧ Chain (nextOf n a) b
 | _, [], _ => by simp [Chain, nextOf]
 | n, x :: a, b => by
  show _ ∧ Chain x.en (a ++ b) ↔ (_ ∧ Chain x.en a) ∧ Chain (nextOf x.en a) b
  rw [Chain.app, and_assoc]
theorem nextOf_last {n : Int} {bs : List Bat} {i : Nat} {b : Bat} (h : bs[i]? = some b) (hi : i + 1 = bs.length) : nextOf n bs = b.en := by
 have : bs = bs.take i ++ [b] := by
  obtain ⟨h1, rfl⟩ := List.getElem?_eq_some_iff.1 h
  rw [List.take_append_getElem h1, List.take_of_length_le (by omega)]
 rw [this, nextOf_snoc]
theorem nextOf_le : ∀ {n : Int} {bs : List Bat}, Chain n bs → (∀ b ∈ bs, b.good) → n ≤ nextOf n bs
 | _, [], _, _ => Int.le_refl _
 | n, b :: bs, h, hg => by
  have h1 := nextOf_le h.2 fun x hx => hg x (.tail _ hx)
  have h2 := (hg b (.head _)).lt
  have := h.1
  show n ≤ nextOf b.en bs
  omega
theorem Chain.at {n : Int} {bs : List Bat} (h : Chain n bs) {i : Nat} {b : Bat} (hb : bs[i]? = some b) : b.base = nextOf n (bs.take i) ∧ b.en = nextOf n (bs.take (i + 1)) := by
 obtain ⟨hi, rfl⟩ := List.getElem?_eq_some_iff.1 hb
 have : bs = bs.take i ++ bs[i] :: bs.drop (i + 1) := by rw [← List.drop_eq_getElem_cons hi, List.take_append_drop]
 rw [this] at h
 exact ⟨(Chain.app.1 h).2.1, by rw [← List.take_append_getElem hi, nextOf_snoc]⟩
theorem Chain.mono {n : Int} {bs : List Bat} (h : Chain n bs) (hg : ∀ b ∈ bs, b.good) {i j : Nat} (hij : i ≤ j) : nextOf n (bs.take i) ≤ nextOf n (bs.take j) := by
 have e : bs.take j = bs.take i ++ (bs.take j).drop i := by
  have := (List.take_append_drop i (bs.take j)).symm
  rw [List.take_take, Nat.min_eq_left hij] at this; exact this
 have hc : Chain n (bs.take j) := by rw [← List.take_append_drop j bs] at h; exact (Chain.app.1 h).1
 rw [e] at hc ⊢
 rw [nextOf_app]
 exact nextOf_le (Chain.app.1 hc).2 fun b hb => hg b (List.mem_of_mem_take (List.mem_of_mem_drop hb))
theorem Chain.take {n : Int} {bs : List Bat} (h : Chain n bs) (i : Nat) : Chain n (bs.take i) := by
 rw [← List.take_append_drop i bs] at h; exact (Chain.app.1 h).1
theorem Chain.snoc {n : Int} {bs : List Bat} {b : Bat} (h : Chain n bs) (hb : b.base = nextOf n bs) : Chain n (bs ++ [b]) := Chain.app.2 ⟨h, hb, trivial⟩
structure Ix (sm : List Nat) (n : Nat) : Prop where
 lt : ∀ i ∈ sm, i < n
 up : sm.Pairwise (· < ·)
 zero : 0 < n → sm[0]? = some 0
theorem Ix.snoc {sm : List Nat} {n : Nat} (h : Ix sm n) (h0 : 0 < n) : Ix sm (n + 1) := ⟨fun i hi => by have := h.lt i hi; omega, h.up, fun _ => h.zero h0⟩
theorem Ix.more {sm : List Nat} {n : Nat} (h : Ix sm n) : Ix (sm ++ [n]) (n + 1) := by
 refine ⟨fun i hi => ?_, ?_, fun _ => ?_⟩
 ·
  rcases List.mem_append.1 hi with hi | hi
  ·
   have := h.lt i hi; omega
  ·
   simp at hi; omega
 ·
  rw [List.pairwise_append]
  exact ⟨h.up, by simp, fun a ha b hb => by simp at hb; subst hb; exact h.lt a ha⟩
 ·
  by_cases hn : n = 0
  ·
   subst hn
   have : sm = [] := List.eq_nil_iff_forall_not_mem.2 fun i hi => by have := h.lt i hi; omega
   rw [this]; rfl
  ·
   have h1 := h.zero (by omega)
   rw [List.getElem?_append_left (List.getElem?_eq_some_iff.1 h1).1]; exact h1
theorem Ix.cut {sm : List Nat} {n m : Nat} (h : Ix sm n) (hm : m ≤ n) : Ix (sm.filter fun i => decide (i < m)) m := by
 refine ⟨fun i hi => of_decide_eq_true (List.mem_filter.1 hi).2, h.up.filter _, fun h0 => ?_⟩
 have h1 := h.zero (by omega)
 cases sm with
 | nil => cases h1
 | cons x xs =>
  simp at h1; subst h1
  simp [h0]
theorem Ix.nil : Ix [] 0 := ⟨fun _ h => (by cases h), .nil, fun h => absurd h (by omega)⟩
end Go.Proofs.YtoglbebcdjdkiaaGreatDoor
/- Chapter 6: a segment in memory. -/
namespace Go.Proofs.YtoglbebcdjdkiaaGreatDoor
open Go Go.Sp
structure Sx where
 b : Nat
 nm : Nm
 base : Int
 bs : List Bat
 sm : List Nat
 aa : Option Addr
 ac : Nat
 ia : Option Addr
 ic : Nat
def icN (i : Nat) : List Value := [.int .i64 (i : Int)]
theorem icN_len (i : Nat) : (icN i).length = 1 := rfl
def Sx.cells (s : Sx) (db : Nat) : List Value := [.pointer (some ⟨db, 0, none⟩), nmv s.nm, .int .i64 s.base, .slice s.aa s.bs.length s.ac, .slice s.ia s.sm.length s.ic]
def Sx.rows (s : Sx) : List Value := (onesOf 0 s.bs).flatMap One.cells
def Sx.next (s : Sx) : Int := nextOf s.base s.bs
structure Sx.ok (s : Sx) : Prop where
 base0 : 0 ≤ s.base
 base1 : s.base ≤ 1000000000
 chain : Chain s.base s.bs
 good : ∀ b ∈ s.bs, b.good
 len : s.bs.length ≤ 4096
 ix : Ix s.sm s.bs.length
 cap : s.bs.length ≤ s.ac
def SegAt (db : Nat) (s : Sx) (w : World) : Prop := CellsAt s.b 0 (s.cells db) w ∧ RowAt s.aa s.rows w ∧ RowAt s.ia (s.sm.flatMap icN) w
theorem Sx.rows_len (s : Sx) : s.rows.length = s.bs.length * 4 := by unfold Sx.rows; rw [flat_length One.cells_len, onesOf_len]
theorem Sx.idx_len (s : Sx) : (s.sm.flatMap icN).length = s.sm.length := by rw [flat_length icN_len, Nat.mul_one]
theorem one_at {s : Sx} {i : Nat} {b : Bat} (h : s.bs[i]? = some b) : (onesOf 0 s.bs)[i]? = some ⟨b.base, b.en, (flat (s.bs.take i)).length, (flat (s.bs.take i)).length + (enc b).length⟩ := by rw [onesOf_get, h]; simp
theorem Sx.last {s : Sx} (h : 0 < s.bs.length) : ∃ b, s.bs[s.bs.length - 1]? = some b ∧ b.en = s.next := by
 obtain ⟨b, hb⟩ : ∃ b, s.bs[s.bs.length - 1]? = some b := ⟨_, List.getElem?_eq_getElem (by omega)⟩
 exact ⟨b, hb, (nextOf_last hb (by omega)).symm⟩
theorem Sx.next0 {s : Sx} (h : ¬ 0 < s.bs.length) : s.next = s.base := by
 have : s.bs = [] := List.eq_nil_of_length_eq_zero (by omega)
 unfold Sx.next; rw [this]; rfl
theorem Sx.ok.next_ge {s : Sx} (h : s.ok) : s.base ≤ s.next := nextOf_le h.chain h.good
theorem Sx.ok.next_le {s : Sx} (h : s.ok) : s.next ≤ 1000000000 := by
 by_cases h0 : 0 < s.bs.length
 ·
  obtain ⟨b, hb, he⟩ := Sx.last h0
  rw [← he]; exact (h.good b (List.mem_of_getElem? hb)).en
 ·
  rw [Sx.next0 h0]; exact h.base1
def addB (s : Sx) : Bool := decide (s.sm.length = 0) || decide (256 ≤ ((flat s.bs).length : Int) - ((flat (s.bs.take (s.sm.getD (s.sm.length - 1) 0))).length : Int))
def oneB (s : Sx) (b : Bat) : One := ⟨b.base, b.en, (flat s.bs).length, (flat s.bs).length + (enc b).length⟩
theorem Sx.ixlast {s : Sx} (h : s.ok) (h0 : s.sm.length ≠ 0) : ∃ j x, s.sm[s.sm.length - 1]? = some j ∧ s.bs[j]? = some x ∧ s.sm.getD (s.sm.length - 1) 0 = j := by
 obtain ⟨j, hj⟩ : ∃ j, s.sm[s.sm.length - 1]? = some j := ⟨_, List.getElem?_eq_getElem (by omega)⟩
 have hl := h.ix.lt j (List.mem_of_getElem? hj)
 exact ⟨j, s.bs[j], hj, List.getElem?_eq_getElem hl, by rw [List.getD_eq_getElem?_getD, hj]; rfl⟩
theorem Sx.sm_le {s : Sx} (h : s.ok) : s.sm.length ≤ s.bs.length := by
 have key : ∀ (l : List Nat) (m n : Nat), (∀ i ∈ l, m ≤ i ∧ i < n) → l.Pairwise (· < ·) → m ≤ n → l.length ≤ n - m := by
  intro l
  induction l with
  | nil => intro m n _ _ _; exact Nat.zero_le _
  | cons x l ih =>
   intro m n h1 h2 hmn
   obtain ⟨h3, h4⟩ := List.pairwise_cons.1 h2
   have hx := h1 x (.head _)
   have := ih (x + 1) n (fun i hi => ⟨h3 i hi, (h1 i (.tail _ hi)).2⟩) h4 (by omega)
   rw [List.length_cons]; omega
 have := key s.sm 0 s.bs.length (fun i hi => ⟨Nat.zero_le _, h.ix.lt i hi⟩) h.ix.up (Nat.zero_le _)
 omega
theorem Sx.rows_snoc (s : Sx) (b : Bat) : (onesOf 0 (s.bs ++ [b])).flatMap One.cells = s.rows ++ (oneB s b).cells := by
 rw [onesOf_snoc, List.flatMap_append, Nat.zero_add]; simp [Sx.rows, oneB]
theorem Sx.ok.add {s : Sx} (h : s.ok) {b : Bat} (hb : b.good) (hn : b.base = s.next) (hl : s.bs.length < 4096) {sm : List Nat} (hsm : Ix sm (s.bs.length + 1)) {aa : Option Addr} {ac : Nat} {ia : Option Addr} {ic : Nat} (hc : s.bs.length + 1 ≤ ac) : (Sx.mk s.b s.nm s.base (s.bs ++ [b]) sm aa ac ia ic).ok :=
 ⟨h.base0, h.base1, h.chain.snoc hn, fun x hx => by
  rcases List.mem_append.1 hx with hx | hx
  ·
   exact h.good x hx
  ·
   rw [List.mem_singleton.1 hx]; exact hb, by show (s.bs ++ [b]).length ≤ 4096; rw [List.length_append]; show s.bs.length + 1 ≤ 4096; omega, by show Ix sm (s.bs ++ [b]).length; rw [List.length_append]; exact hsm, by show (s.bs ++ [b]).length ≤ ac; rw [List.length_append]; exact hc⟩
theorem Sx.ok.flat_len {s : Sx} (h : s.ok) : (flat s.bs).length ≤ 16777216 := by
 have key : ∀ l : List Bat, (∀ b ∈ l, b.good) → (flat l).length ≤ 4096 * l.length := by
  intro l
  induction l with
  | nil => intro _; exact Nat.le_refl _
  | cons x l ih =>
   intro hl
   have h1 := (hl x (.head _)).enc_le
   have h2 := ih fun b hb => hl b (.tail _ hb)
   rw [flat_cons, List.length_append, List.length_cons]; omega
 have := key s.bs h.good; have := h.len; omega
theorem Ix.pos {sm : List Nat} {n : Nat} (h : Ix sm n) (h0 : sm.length ≠ 0) : 0 < n := by
 cases sm with
 | nil => exact absurd rfl h0
 | cons x l => have := h.lt x (.head _); omega
theorem addB_no {s : Sx} (h : s.ok) (hb : addB s = false) : Ix s.sm (s.bs.length + 1) := by
 have : s.sm.length ≠ 0 := fun e => by unfold addB at hb; rw [decide_eq_true e] at hb; cases hb
 exact h.ix.snoc (h.ix.pos this)
theorem idx_snoc (sm : List Nat) (n : Nat) : (sm ++ [n]).flatMap icN = sm.flatMap icN ++ [.int .i64 (n : Int)] := by rw [List.flatMap_append]; simp [icN]
end Go.Proofs.YtoglbebcdjdkiaaGreatDoor
/- Chapter 6: what is read out of a segment, in plain Lean. -/
namespace Go.Proofs.YtoglbebcdjdkiaaGreatDoor
open Go Go.Sp
abbrev BatM := Bat × Option Addr × Nat
def bmc (y : BatM) : List Value := y.1.cells y.2.1 y.2.2
theorem bmc_len (y : BatM) : (bmc y).length = 6 := rfl
def Bal (l : List BatM) (w : World) : Prop := ∀ y ∈ l, RowAt y.2.1 (y.1.recs.flatMap Rec.cells) w
theorem Bal.nil (w : World) : Bal [] w := fun _ h => by cases h
theorem Bal.snoc {l : List BatM} {y : BatM} {w : World} (h : Bal l w) (hy : RowAt y.2.1 (y.1.recs.flatMap Rec.cells) w) : Bal (l ++ [y]) w := fun x hx => by
 rcases List.mem_append.1 hx with hx | hx
 ·
  exact h x hx
 ·
  rw [List.mem_singleton.1 hx]; exact hy
def goR (off most : Int) : Int → List Bat → List Bat → List Bat
 | _, acc, [] => acc
 | sum, acc, b :: bs => if b.en ≤ off then goR off most sum acc bs else if 0 < acc.length ∧ most < sum + (enc b).length then acc else goR off most (sum + (enc b).length) (acc ++ [b]) bs
def segRead (s : Sx) (off most : Int) : List Bat := if off < s.base then [] else goR off most 0 [] s.bs
theorem goR_skip {off most : Int} : ∀ (pre bs : List Bat), (∀ b ∈ pre, b.en ≤ off) → ∀ sum acc, goR off most sum acc (pre ++ bs) = goR off most sum acc bs
 | [], _, _, _, _ => rfl
 | b :: pre, bs, h, sum, acc => by
  show (if b.en ≤ off then goR off most sum acc (pre ++ bs) else _) = _
  rw [if_pos (h b (.head _))]; exact goR_skip pre bs (fun x hx => h x (.tail _ hx)) sum acc
theorem goR_step {off most sum : Int} {acc bs : List Bat} {b : Bat} : goR off most sum acc (b :: bs) = if b.en ≤ off then goR off most sum acc bs else if 0 < acc.length ∧ most < sum + (enc b).length then acc else goR off most (sum + (enc b).length) (acc ++ [b]) bs := rfl
theorem goR_all {off most : Int} : ∀ (bs : List Bat) (sum : Int) (acc : List Bat), sum + ((flat bs).length : Int) ≤ most → goR off most sum acc bs = acc ++ bs.filter fun b => decide (off < b.en)
 | [], _, acc, _ => (List.append_nil acc).symm
 | b :: bs, sum, acc, h => by
  rw [flat_cons, List.length_append] at h
  rw [goR_step, List.filter_cons]
  by_cases h1 : b.en ≤ off
  ·
   rw [if_pos h1, if_neg (by simp; omega)]; exact goR_all bs sum acc (by omega)
  ·
   rw [if_neg h1, if_neg (by omega), if_pos (by simp; omega), goR_all bs _ _ (by omega), List.append_assoc]; rfl
theorem goR_first {off : Int} : ∀ (bs : List Bat), (∀ b ∈ bs, b.good) → goR off 0 0 [] bs = (bs.filter fun b => decide (off < b.en)).take 1
 | [], _ => rfl
 | b :: bs, hg => by
  rw [goR_step, List.filter_cons]
  by_cases h1 : b.en ≤ off
  ·
   rw [if_pos h1, if_neg (by simp; omega)]; exact goR_first bs fun x hx => hg x (.tail _ hx)
  ·
   rw [if_neg h1, if_neg (by simp), if_pos (by simp; omega)]
   have key : ∀ (l : List Bat) (sum : Int), 0 < sum → (∀ x ∈ l, x.good) → goR off 0 sum [b] l = [b] := by
    intro l
    induction l with
    | nil => intro _ _ _; rfl
    | cons x l ih =>
     intro sum hs hl
     have hp := (hl x (.head _)).enc_pos
     rw [goR_step]
     split
     ·
      exact ih sum hs fun y hy => hl y (.tail _ hy)
     ·
      rw [if_pos (by simp; omega)]
   have hp := (hg b (.head _)).enc_pos
   rw [show ([] : List Bat) ++ [b] = [b] from rfl, key bs _ (by omega) fun x hx => hg x (.tail _ hx)]
   simp
theorem Sx.base_at {s : Sx} (h : s.ok) {i : Nat} {b : Bat} (hb : s.bs[i]? = some b) : b.base = nextOf s.base (s.bs.take i) := (h.chain.at hb).1
theorem Sx.base_mono {s : Sx} (h : s.ok) {i j : Nat} {x y : Bat} (hx : s.bs[i]? = some x) (hy : s.bs[j]? = some y) (hij : i ≤ j) : x.base ≤ y.base := by
 rw [(h.chain.at hx).1, (h.chain.at hy).1]; exact h.chain.mono h.good hij
theorem Sx.en_le {s : Sx} (h : s.ok) {i j : Nat} {x y : Bat} (hx : s.bs[i]? = some x) (hy : s.bs[j]? = some y) (hij : i < j) : x.en ≤ y.base := by
 rw [(h.chain.at hx).2, (h.chain.at hy).1]; exact h.chain.mono h.good hij
theorem Sx.en_mono {s : Sx} (h : s.ok) {i j : Nat} {x y : Bat} (hx : s.bs[i]? = some x) (hy : s.bs[j]? = some y) (hij : i ≤ j) : x.en ≤ y.en := by
 rw [(h.chain.at hx).2, (h.chain.at hy).2]; exact h.chain.mono h.good (by omega)
theorem Sx.skip {s : Sx} (h : s.ok) {j : Nat} {y : Bat} {off : Int} (hy : s.bs[j]? = some y) (ho : y.base ≤ off) (most : Int) : goR off most 0 [] (s.bs.drop j) = goR off most 0 [] s.bs := by
 have := goR_skip (off := off) (most := most) (s.bs.take j) (s.bs.drop j) (fun b hb => by
  obtain ⟨i, hi⟩ := List.getElem?_of_mem hb
  have hlt : i < j := by have := (List.getElem?_eq_some_iff.1 hi).1; rw [List.length_take] at this; omega
  rw [List.getElem?_take, if_pos hlt] at hi
  have := Sx.en_le h hi hy hlt; omega) 0 []
 rw [List.take_append_drop] at this; exact this.symm
theorem flat_all {s : Sx} {i : Nat} {b : Bat} (hb : s.bs[i]? = some b) : (flat (s.bs.take i)).length + (enc b).length ≤ (flat s.bs).length := by
 have := congrArg List.length (flat_get hb)
 simp only [List.length_append] at this; omega
theorem flat_next {s : Sx} {i : Nat} {b : Bat} (hb : s.bs[i]? = some b) : (flat (s.bs.take (i + 1))).length = (flat (s.bs.take i)).length + (enc b).length := by
 rw [List.take_add_one, hb, flat_app, List.length_append]; simp [flat]
end Go.Proofs.YtoglbebcdjdkiaaGreatDoor
/- Chapter 6: what opening a segment finds, in plain Lean. -/
namespace Go.Proofs.YtoglbebcdjdkiaaGreatDoor
open Go Go.Sp
theorem mset_mset (l : Fs) (n : Nm) (f g : Fl) : mset (mset l n f) n g = mset l n g := by
 by_cases h : l.any (fun p => decide (n = p.1)) = true
 ·
  have h1 : mset l n f = l.map (fun p => if n = p.1 then (p.1, f) else p) := if_pos h
  have h2 : (mset l n f).any (fun p => decide (n = p.1)) = true := by
   rw [h1, List.any_map]
   obtain ⟨p, hp, hn⟩ := List.any_eq_true.1 h
   exact List.any_eq_true.2 ⟨p, hp, by simp only [Function.comp]; split <;> exact hn⟩
  have h3 : mset (mset l n f) n g = (mset l n f).map (fun p => if n = p.1 then (p.1, g) else p) := if_pos h2
  rw [h3, h1, List.map_map]
  have h4 : mset l n g = l.map (fun p => if n = p.1 then (p.1, g) else p) := if_pos h
  rw [h4]
  refine List.map_congr_left fun p _ => ?_
  simp only [Function.comp]
  by_cases hp : n = p.1
  ·
   rw [if_pos hp]; dsimp only; rw [if_pos hp, if_pos hp]
  ·
   rw [if_neg hp, if_neg hp]
 ·
  have h1 : mset l n f = l ++ [(n, f)] := if_neg h
  have h2 : (mset l n f).any (fun p => decide (n = p.1)) = true := by rw [h1, List.any_append]; simp
  have h3 : mset (mset l n f) n g = (mset l n f).map (fun p => if n = p.1 then (p.1, g) else p) := if_pos h2
  have h4 : mset l n g = l ++ [(n, g)] := if_neg h
  have h5 : n ∉ l.map (·.1) := fun hm => h (by obtain ⟨p, hp, rfl⟩ := List.mem_map.1 hm; exact List.any_eq_true.2 ⟨p, hp, by simp⟩)
  rw [h3, h1, h4, List.map_append, total_none h5]; simp
theorem Dk.put_put (d : Dk) (n : Nm) (f g : Fl) : (d.put n f).put n g = d.put n g := by
 unfold Dk.put; dsimp only; rw [mset_mset]
theorem Dk.file_put (d : Dk) (n : Nm) (f : Fl) : (d.put n f).file n = f := Dk.file_of (by rw [Dk.get_put, if_pos rfl])
theorem Dk.some_put (d : Dk) (n : Nm) (f : Fl) : ((d.put n f).get n).isSome = true := by rw [Dk.get_put, if_pos rfl]; rfl
theorem Dk.file_put_ne (d : Dk) {n m : Nm} (f : Fl) (h : m ≠ n) : (d.put n f).file m = d.file m ∧ (d.put n f).get m = d.get m := by
 have : (d.put n f).get m = d.get m := by rw [Dk.get_put, if_neg h]
 exact ⟨congrArg (fun o => o.getD fl0) this, this⟩
theorem Dk.file_del_ne (d : Dk) {n m : Nm} (h : m ≠ n) : (d.del n).file m = d.file m ∧ (d.del n).get m = d.get m := by
 have : (d.del n).get m = d.get m := by rw [Dk.get_del, if_neg h]
 exact ⟨congrArg (fun o => o.getD fl0) this, this⟩
theorem Dk.file_safe {d : Dk} (hd : d.ok) (n : Nm) : (d.file n).safe ≤ (d.file n).b.length := by
 unfold Dk.file
 cases h : mget d.fs n with
 | none => exact Nat.le_refl _
 | some f => exact Dk.safe_le hd (n := n) h
theorem Dk.ok_touch {d : Dk} (hd : d.ok) (n : Nm) : (d.put n ⟨(d.file n).b ++ [], (d.file n).safe⟩).ok := by
 have hu := hd.used
 exact Dk.ok_put hd (by show _ + ((d.file n).b ++ []).length ≤ _; rw [List.append_nil]; omega) (by show (d.file n).safe ≤ ((d.file n).b ++ []).length; rw [List.append_nil]; exact Dk.file_safe hd n)
theorem take_snoc {α : Type} {l : List α} {i : Nat} {x : α} (h : l[i]? = some x) : l.take i ++ [x] = l.take (i + 1) := by
 rw [List.take_add_one, h]; rfl
theorem open_ok {b : Nat} {nm : Nm} {base : Int} {bs : List Bat} (h0 : 0 ≤ base) (h1 : base ≤ 1000000000) (hc : Chain base bs) (hg : ∀ b ∈ bs, b.good) (hl : bs.length ≤ 4096) {i : Nat} (hi : i ≤ bs.length) {sm : List Nat} {aa : Option Addr} {ac : Nat} {ia : Option Addr} {ic : Nat} (hix : Ix sm i) (hca : i ≤ ac) : (Sx.mk b nm base (bs.take i) sm aa ac ia ic).ok :=
 ⟨h0, h1, hc.take i, fun x hx => hg x (List.mem_of_mem_take hx), by show (bs.take i).length ≤ 4096; rw [List.length_take]; omega, by show Ix sm (bs.take i).length; rw [List.length_take, Nat.min_eq_left hi]; exact hix, by show (bs.take i).length ≤ ac; rw [List.length_take]; omega⟩
theorem flat_drop {bs : List Bat} {rest : List UInt8} {i : Nat} {b : Bat} (hb : bs[i]? = some b) : (flat bs ++ rest).drop (flat (bs.take i)).length = enc b ++ (flat (bs.drop (i + 1)) ++ rest) := by
 rw [flat_get hb, List.append_assoc, List.drop_left, List.append_assoc]
theorem read_next {b : Bat} (hb : b.good) (more : List UInt8) : readBatch (enc b ++ more) = (b, ((enc b).length : Int), 0) := read_write hb.fits hb.right more
end Go.Proofs.YtoglbebcdjdkiaaGreatDoor
/- Chapter 3: torn bytes, in plain Lean. -/
namespace Go.Proofs.YtoglbebcdjdkiaaGreatDoor
open Go Go.Sp
theorem four_take {l : List UInt8} {k : Nat} (hk : 4 ≤ k) (hl : 4 ≤ l.length) : four (l.take k) = four l := by
 match l, hl, k, hk with
 | a :: b :: c :: d :: t, _, k + 4, _ => rfl
theorem wbatch_is {b : Bat} (hr : right b = 0) : (wbatch b).1.length = 8 + (body b).length ∧ four (wbatch b).1 = (body b).length ∧ (wbatch b).1.drop 8 = body b ∧ four ((wbatch b).1.drop 4) = (crc (body b)).toNat ∧ (body b).length ≤ 4088 := by
 obtain ⟨_, hbl⟩ := right_zero hr
 have hcl : (crc (body b)).toNat < 4294967296 := (crc (body b)).isLt
 refine ⟨wbatch_len hr, ?_, ?_, ?_, hbl⟩
 ·
  rw [wbatch_yes hr]; show four (fours (body b).length ++ fours (crc (body b)).toNat ++ body b) = _
  rw [List.append_assoc, four_fours (by omega)]
 ·
  rw [wbatch_yes hr]; exact List.drop_left' rfl
 ·
  rw [wbatch_yes hr]; show four ((fours (body b).length ++ fours (crc (body b)).toNat ++ body b).drop 4) = _
  rw [List.append_assoc, show (fours (body b).length ++ (fours (crc (body b)).toNat ++ body b)).drop 4 = fours (crc (body b)).toNat ++ body b from List.drop_left' rfl, four_fours hcl]
theorem torn_cut {b : Bat} (hr : right b = 0) {k : Nat} (hk : k < (wbatch b).1.length) : readBatch ((wbatch b).1.take k) = (zeroB, 0, 5) := by
 obtain ⟨h1, h2, h3, h4, h5⟩ := wbatch_is hr
 have hl : ((wbatch b).1.take k).length = k := by rw [List.length_take]; omega
 by_cases h8 : k < 8
 ·
  exact readBatch_short (by omega)
 ·
  have e : four ((wbatch b).1.take k) = (body b).length := by rw [four_take (by omega) (by omega), h2]
  exact readBatch_cut (by omega) (by omega) (by omega)
end Go.Proofs.YtoglbebcdjdkiaaGreatDoor
/- Chapter 13: the epochs that are kept, in plain Lean. -/
namespace Go.Proofs.YtoglbebcdjdkiaaGreatDoor
open Go Go.Sp
abbrev Ep := Int × Int
def epc (e : Ep) : List Value := [.int .i64 e.1, .int .i64 e.2, .string (str [])]
theorem epc_len (e : Ep) : (epc e).length = 3 := rfl
def enE (e : Ep) : List UInt8 := eint e.1 ++ eint e.2
def bodyE (es : List Ep) : List UInt8 := eint (es.length : Int) ++ es.flatMap enE
def summed (b : List UInt8) : List UInt8 := fours (crc b).toNat ++ b
def lastE (es : List Ep) : Int := (es.getLast?.map (·.1)).getD (-1)
def cutE (off : Int) (es : List Ep) : List Ep := es.filter fun e => decide (e.2 < off)
def goneE (off : Int) (es : List Ep) : Nat := (cutE (off + 1) es).length - 1
def delE (off : Int) (es : List Ep) : List Ep := match es.drop (goneE off es) with
 | [] => []
 | x :: r => (x.1, max x.2 off) :: r
def mayN (n : Int) : Prop := 0 ≤ n ∧ n ≤ 1000000000
structure EpsOk (es : List Ep) : Prop where
 len : es.length ≤ 200
 may : ∀ e ∈ es, mayN e.1 ∧ mayN e.2
 up : es.Pairwise fun a b => a.1 < b.1 ∧ a.2 < b.2
theorem EpsOk.nil : EpsOk [] := ⟨Nat.zero_le _, fun _ h => (by cases h), .nil⟩
theorem EpsOk.sub {es fs : List Ep} (h : EpsOk es) (hs : fs.Sublist es) : EpsOk fs := ⟨Nat.le_trans hs.length_le h.len, fun e he => h.may e (hs.subset he), h.up.sublist hs⟩
theorem EpsOk.cut {es : List Ep} (h : EpsOk es) (off : Int) : EpsOk (cutE off es) := h.sub List.filter_sublist
theorem last_of {es : List Ep} {i : Nat} {x : Ep} (h : es[i]? = some x) (hi : i + 1 = es.length) : lastE es = x.1 := by
 unfold lastE; rw [List.getLast?_eq_getElem?, show es.length - 1 = i by omega, h]; rfl
theorem last_snoc (es : List Ep) (x : Ep) : lastE (es ++ [x]) = x.1 := by unfold lastE; rw [List.getLast?_append]; rfl
theorem EpsOk.le_last {es : List Ep} (h : EpsOk es) : ∀ e ∈ es, e.1 ≤ lastE es := fun e he => by
 obtain ⟨i, hi⟩ := List.getElem?_of_mem he
 obtain ⟨hl, rfl⟩ := List.getElem?_eq_some_iff.1 hi
 rw [last_of (i := es.length - 1) (List.getElem?_eq_getElem (by omega)) (by omega)]
 by_cases hq : i = es.length - 1
 ·
  subst hq; exact Int.le_refl _
 ·
  exact Int.le_of_lt (List.pairwise_iff_getElem.1 h.up i (es.length - 1) hl (by omega) (by omega)).1
theorem EpsOk.more {es : List Ep} (h : EpsOk es) {x : Ep} (h1 : mayN x.1) (h2 : mayN x.2) (hl : lastE es < x.1) (ho : ∀ e ∈ es, e.2 < x.2) (hn : es.length < 200) : EpsOk (es ++ [x]) := by
 refine ⟨by rw [List.length_append]; exact hn, fun e he => ?_, ?_⟩
 ·
  rcases List.mem_append.1 he with he | he
  ·
   exact h.may e he
  ·
   rw [List.mem_singleton.1 he]; exact ⟨h1, h2⟩
 ·
  rw [List.pairwise_append]
  refine ⟨h.up, .cons (fun _ h => by cases h) .nil, fun a ha b hb => ?_⟩
  rw [List.mem_singleton.1 hb]
  have := h.le_last a ha
  exact ⟨by omega, ho a ha⟩
theorem cut_at {es : List Ep} {off : Int} {z : Nat} (h1 : ∀ q e, q < z → es[q]? = some e → e.2 < off) (h2 : ∀ q e, z ≤ q → es[q]? = some e → off ≤ e.2) : es.take z = cutE off es := by
 have e0 : cutE off es = cutE off (es.take z) ++ cutE off (es.drop z) := by unfold cutE; rw [← List.filter_append, List.take_append_drop]
 have e1 : cutE off (es.take z) = es.take z := List.filter_eq_self.2 fun e he => by
  obtain ⟨q, hq⟩ := List.getElem?_of_mem he
  rw [List.getElem?_take] at hq
  split at hq
  ·
   rename_i hz; exact decide_eq_true (h1 q e hz hq)
  ·
   cases hq
 have e2 : cutE off (es.drop z) = [] := List.filter_eq_nil_iff.2 fun e he => by
  obtain ⟨q, hq⟩ := List.getElem?_of_mem he
  rw [List.getElem?_drop] at hq
  have := h2 (z + q) e (by omega) hq
  simp; omega
 rw [e0, e1, e2, List.append_nil]
def pE (es : List Ep) (off : Int) (i : Nat) : Bool := match es[i]? with
 | some e => decide (off ≤ e.2)
 | none => true
theorem pE_at {es : List Ep} {i : Nat} {e : Ep} (h : es[i]? = some e) (off : Int) : pE es off i = decide (off ≤ e.2) := by unfold pE; rw [h]
theorem pE_mono {es : List Ep} (h : EpsOk es) (off : Int) (a b : Nat) (hab : a ≤ b) (hb : b < es.length) (ha : pE es off a = true) : pE es off b = true := by
 by_cases e : a = b
 ·
  subst e; exact ha
 rw [pE_at (List.getElem?_eq_getElem (show a < es.length by omega))] at ha
 rw [pE_at (List.getElem?_eq_getElem hb)]
 have h1 := (List.pairwise_iff_getElem.1 h.up a b (by omega) hb (by omega)).2
 have h2 := of_decide_eq_true ha
 exact decide_eq_true (by omega)
theorem ahead_is {es : List Ep} (h : EpsOk es) {off : Int} {z : Nat} (hz : z ≤ es.length) (h1 : ∀ q < z, pE es off q = false) (h2 : ∀ q, z ≤ q → q < es.length → pE es off q = true) : es.take z = cutE off es ∧ z = (cutE off es).length := by
 have e := cut_at (off := off) (fun q e hq he => by have := h1 q hq; rw [pE_at he] at this; have := of_decide_eq_false this; omega) fun q e hq he => by
  have := h2 q hq (List.getElem?_eq_some_iff.1 he).1; rw [pE_at he] at this; exact of_decide_eq_true this
 exact ⟨e, by rw [← e, List.length_take]; omega⟩
theorem cutE_take {es : List Ep} (h : EpsOk es) (off : Int) : ∃ z, z ≤ es.length ∧ cutE off es = es.take z := by
 induction es with
 | nil => exact ⟨0, Nat.le_refl _, rfl⟩
 | cons x es ih =>
  by_cases hx : x.2 < off
  ·
   obtain ⟨z, hz, e⟩ := ih (h.sub (List.sublist_cons_self _ _))
   exact ⟨z + 1, Nat.succ_le_succ hz, by unfold cutE at e ⊢; rw [List.filter_cons, if_pos (by simp [hx]), e]; rfl⟩
  ·
   refine ⟨0, Nat.zero_le _, List.filter_eq_nil_iff.2 fun y hy => ?_⟩
   rcases List.mem_cons.1 hy with rfl | hy
   ·
    simp [hx]
   ·
    have := (List.rel_of_pairwise_cons h.up hy).2
    simp; omega
theorem enE_le {e : Ep} (h : mayN e.1 ∧ mayN e.2) : (enE e).length ≤ 20 := by
 unfold enE mayN at *
 have h1 := eint_len (n := e.1) ⟨by omega, by omega⟩
 have h2 := eint_len (n := e.2) ⟨by omega, by omega⟩
 rw [List.length_append]; omega
theorem bodyE_le {es : List Ep} (h : EpsOk es) : (bodyE es).length ≤ 10 + es.length * 20 := by
 have h1 := eint_len (n := (es.length : Int)) ⟨by omega, by have := h.len; omega⟩
 have h2 := flat_le (f := enE) (k := 20) es fun e he => enE_le (h.may e he)
 unfold bodyE; rw [List.length_append]; omega
theorem summed_len (b : List UInt8) : (summed b).length = 4 + b.length := by unfold summed; rw [List.length_append, fours_len]
def epStep (es : List Ep) (b : Bat) : List Ep := if lastE es = b.epoch then es else es ++ [(b.epoch, b.base)]
def epsOf (bs : List Bat) : List Ep := bs.foldl epStep []
theorem epsOf_snoc (bs : List Bat) (b : Bat) : epsOf (bs ++ [b]) = epStep (epsOf bs) b := by unfold epsOf; rw [List.foldl_append]; rfl
end Go.Proofs.YtoglbebcdjdkiaaGreatDoor
/- Chapter 13: what producers wrote, in plain Lean. -/
namespace Go.Proofs.YtoglbebcdjdkiaaGreatDoor
open Go Go.Sp
structure Nt where
 ep : Int
 seq : Int
 n : Int
 off : Int
 deriving DecidableEq
def ntc (x : Nt) : List Value := [.int .i64 x.ep, .int .i64 x.seq, .int .i64 x.n, .int .i64 x.off]
theorem ntc_len (x : Nt) : (ntc x).length = 4 := rfl
abbrev Tm := List (Int × List Nt)
def notesOf (t : Tm) (p : Int) : List Nt := (mget t p).getD []
def sameE (l : List Nt) (i : Nat) : Bool := decide ((l[i]?).map (·.ep) = l.getLast?.map (·.ep))
def lateFrom (l : List Nt) : Nat → Nat → Nat
 | 0, i => i
 | k + 1, i => if 0 < i ∧ sameE l (i - 1) = true then lateFrom l k (i - 1) else i
def lateN (l : List Nt) : Nat := lateFrom l 5 l.length
def latest (l : List Nt) : List Nt := l.drop (lateN l)
theorem lateFrom_le (l : List Nt) : ∀ k i, lateFrom l k i ≤ i
 | 0, _ => Nat.le_refl _
 | k + 1, i => by
  unfold lateFrom
  split
  ·
   exact Nat.le_trans (lateFrom_le l k (i - 1)) (by omega)
  ·
   exact Nat.le_refl _
theorem lateN_le (l : List Nt) : lateN l ≤ l.length := lateFrom_le ..
theorem latest_len (l : List Nt) : (latest l).length = l.length - lateN l := List.length_drop ..
def findN (l : List Nt) (ep seq n : Int) : Option Nt := l.find? fun x => decide (x.ep = ep ∧ x.seq = seq ∧ x.n = n)
def askL (l : List Nt) (ep seq n : Int) : Int × Int :=
 match l with
 | [] => (-1, if 0 < seq then 11 else 0)
 | x :: r =>
  if x.ep < ep then (-1, if 0 < seq then 11 else 0)
  else if ep < x.ep then (-1, 13)
  else match findN (x :: r) ep seq n with
   | some y => (y.off, 0)
   | none =>
    let z := (x :: r).getLast?.getD x
    if seq = z.seq + z.n then (-1, 0) else if z.seq + z.n < seq then (-1, 11) else (-1, 12)
def askBad (pid ep seq n : Int) : Prop := ¬ (0 ≤ pid ∧ pid ≤ 1000000000) ∨ ¬ (0 ≤ ep ∧ ep ≤ 1000000000) ∨ ¬ (0 ≤ seq ∧ seq ≤ 1000000000) ∨ n < 1 ∨ 64 < n ∨ (pid = 0 ∧ (ep ≠ 0 ∨ seq ≠ 0))
instance (pid ep seq n : Int) : Decidable (askBad pid ep seq n) := by unfold askBad; exact inferInstance
def ask (t : Tm) (pid ep seq n : Int) : Int × Int :=
 if askBad pid ep seq n then (-1, 1) else if pid = 0 then (-1, 0) else if 1000000 - n + 1 < seq then (-1, 20) else askL (latest (notesOf t pid)) ep seq n
def ntOf (b : Bat) : Nt := ⟨b.pidEpoch, b.seq, b.recs.length, b.base⟩
def late (l : List Nt) (b : Bat) : Bool := match l.getLast? with
 | none => false
 | some x => decide (b.base ≤ x.off ∨ b.pidEpoch < x.ep ∨ (x.ep = b.pidEpoch ∧ b.seq < x.seq + x.n))
def note (t : Tm) (b : Bat) : Tm := if late (notesOf t b.pid) b then t else mset t b.pid (notesOf t b.pid ++ [ntOf b])
def ahN (off : Int) (l : List Nt) : List Nt := l.takeWhile fun x => decide (x.off < off)
def bhN (off : Int) (l : List Nt) : List Nt := l.dropWhile fun x => decide (x.off < off)
def cutT (off : Int) (t : Tm) : Tm := t.filterMap fun p => if ahN off p.2 = [] then none else some (p.1, ahN off p.2)
def delT (off : Int) (t : Tm) : Tm := t.map fun p => (p.1, latest (ahN off p.2) ++ bhN off p.2)
def enN (x : Nt) : List UInt8 := eint x.ep ++ eint x.seq ++ eint x.n ++ eint x.off
def enP (p : Int × List Nt) : List UInt8 := eint p.1 ++ eint (p.2.length : Int) ++ p.2.flatMap enN
theorem ahN_len (off : Int) (l : List Nt) : (ahN off l).length ≤ l.length := (List.takeWhile_prefix _).length_le
def sortI (l : List Int) : List Int := l.mergeSort fun a b => decide (a ≤ b)
def rowsT (t : Tm) : Tm := (sortI (t.map (·.1))).map fun p => (p, notesOf t p)
def bodyT (t : Tm) : List UInt8 := eint (t.length : Int) ++ (rowsT t).flatMap enP
def keepT (t : Tm) : List UInt8 := summed (bodyT t)
structure NtOk (x : Nt) : Prop where
 ep : mayN x.ep
 seq : 0 ≤ x.seq ∧ x.seq ≤ 1000000
 n : 1 ≤ x.n ∧ x.n ≤ 64
 top : x.seq ≤ 1000000 - x.n + 1
 off : 0 ≤ x.off ∧ x.off ≤ 1000000000 - x.n + 1
structure TabOk (t : Tm) : Prop where
 nodup : (t.map (·.1)).Nodup
 pid : ∀ p ∈ t, 0 < p.1 ∧ p.1 ≤ 1000000000
 ne : ∀ p ∈ t, p.2 ≠ []
 ok : ∀ p ∈ t, ∀ x ∈ p.2, NtOk x
 len : ∀ p ∈ t, p.2.length ≤ 10000
theorem TabOk.notes {t : Tm} (h : TabOk t) (q : Int) : (∀ x ∈ notesOf t q, NtOk x) ∧ (notesOf t q).length ≤ 10000 := by
 unfold notesOf
 cases e : mget t q with
 | none => exact ⟨fun _ h => (by cases h), Nat.zero_le _⟩
 | some l =>
  have hm : (q, l) ∈ t := by
   unfold mget at e
   obtain ⟨p, hp, rfl⟩ := Option.map_eq_some_iff.1 e
   have h1 := List.find?_some hp
   have h2 := List.mem_of_find?_eq_some hp
   rw [of_decide_eq_true h1]; exact h2
  exact ⟨h.ok _ hm, h.len _ hm⟩
theorem ask_of {t : Tm} {pid ep seq n : Int} (h1 : ¬ askBad pid ep seq n) (h2 : ¬ pid = 0) (h3 : ¬ 1000000 - n + 1 < seq) : ask t pid ep seq n = askL (latest (notesOf t pid)) ep seq n := by
 unfold ask; rw [if_neg h1, if_neg h2, if_neg h3]
theorem askL1 {L : List Nt} {ep seq n : Int} (h : L = [] ∨ ∃ x, L[0]? = some x ∧ x.ep < ep) : askL L ep seq n = (-1, if 0 < seq then 11 else 0) := by
 cases L with
 | nil => rfl
 | cons x r =>
  rcases h with h | ⟨y, hy, h⟩
  ·
   cases h
  ·
   cases hy; simp only [askL]; rw [if_pos h]
theorem askL2 {L : List Nt} {ep seq n : Int} {x : Nt} (hx : L[0]? = some x) (h : ep < x.ep) : askL L ep seq n = (-1, 13) := by
 cases L with
 | nil => cases hx
 | cons y r => cases hx; simp only [askL]; rw [if_neg (by omega), if_pos h]
theorem askL3 {L : List Nt} {ep seq n : Int} {x y : Nt} (hx : L[0]? = some x) (h1 : ¬ x.ep < ep) (h2 : ¬ ep < x.ep) (hy : findN L ep seq n = some y) : askL L ep seq n = (y.off, 0) := by
 cases L with
 | nil => cases hx
 | cons z r => cases hx; simp only [askL]; rw [if_neg h1, if_neg h2, hy]
theorem askL4 {L : List Nt} {ep seq n : Int} {x z : Nt} (hx : L[0]? = some x) (h1 : ¬ x.ep < ep) (h2 : ¬ ep < x.ep) (hy : findN L ep seq n = none) (hz : L[L.length - 1]? = some z) : askL L ep seq n = if seq = z.seq + z.n then (-1, 0) else if z.seq + z.n < seq then (-1, 11) else (-1, 12) := by
 cases L with
 | nil => cases hx
 | cons y r => cases hx; simp only [askL]; rw [if_neg h1, if_neg h2, hy, List.getLast?_eq_getElem?, hz]; rfl
abbrev hitN (ep seq n : Int) (x : Nt) : Prop := x.ep = ep ∧ x.seq = seq ∧ x.n = n
theorem findN_here {L : List Nt} {ep seq n : Int} {i : Nat} {x : Nt} (hno : ∀ j y, j < i → L[j]? = some y → ¬ hitN ep seq n y) (hx : L[i]? = some x) (h : hitN ep seq n x) : findN L ep seq n = some x := by
 obtain ⟨hi, rfl⟩ := List.getElem?_eq_some_iff.1 hx
 refine List.find?_eq_some_iff_getElem.2 ⟨decide_eq_true h, i, hi, rfl, fun j hj => ?_⟩
 have := hno j L[j] hj (List.getElem?_eq_getElem (by omega))
 rw [decide_eq_false this]; rfl
theorem findN_none {L : List Nt} {ep seq n : Int} (hno : ∀ j y, j < L.length → L[j]? = some y → ¬ hitN ep seq n y) : findN L ep seq n = none := List.find?_eq_none.2 fun x hx => by
 obtain ⟨j, hj⟩ := List.getElem?_of_mem hx
 have := hno j x (List.getElem?_eq_some_iff.1 hj).1 hj
 simpa using this
end Go.Proofs.YtoglbebcdjdkiaaGreatDoor
/- Chapter 13: what a cache of epochs and a builder of texts are in memory. -/
namespace Go.Proofs.YtoglbebcdjdkiaaGreatDoor
open Go Go.Sp
structure Cx where
 cb : Nat
 nm : Nm
 es : List Ep
 la : Option Addr
 lc : Nat
def Cx.cells (c : Cx) (db : Nat) : List Value := [.pointer (some ⟨db, 0, none⟩), nmv c.nm, .slice c.la c.es.length c.lc]
def CacheAt (db : Nat) (c : Cx) (w : World) : Prop := CellsAt c.cb 0 (c.cells db) w ∧ RowAt c.la (c.es.flatMap epc) w
def CG (db : Nat) (c : Cx) : SProp := pk [blk c.cb (c.cells db) 125, arr 70 3 c.la c.lc (c.es.flatMap epc)]
theorem CG.at {Γ Γ' db c} (p : Pick (CG db c) Γ Γ') : Knows Γ (CacheAt db c) := .pk p ((Knows.blk .head).and (Knows.arr (.tail .head)))
def keptE (d : Dk) (c : Cx) (es : List Ep) : Dk := if es = c.es then d else d.put c.nm ⟨summed (bodyE es), (summed (bodyE es)).length⟩
def BL (b : Nat) (l : List UInt8) : SProp := fun h => ∃ s : Value × Option Addr × Nat, (s.1 = .pointer none ∨ s.1 = .pointer (some ⟨b, 0, none⟩)) ∧ sat [blk b [s.1, .slice s.2.1 l.length s.2.2] 177, arr 5 1 s.2.1 s.2.2 (bcs l)] h
def BS (b : Nat) (l : List UInt8) : SProp := fun h => ∃ s : Value × Addr × Nat, s.2.2 ≠ 0 ∧ sat [blk b [s.1, .slice (some s.2.1) l.length s.2.2] 177, raw 5 (some s.2.1) (bcs l)] h
theorem BL.done {b : Nat} {l : List UInt8} (hl : l ≠ []) {h : Hp} (H : sat [BL b l] h) : BS b l h := by
 obtain ⟨h1, _, _, m1, _, ⟨⟨p, a, c⟩, _, k1, k2, ok, n1, n2, hb, k3, k4, ok2, n3, n4, ha, _⟩, _⟩ := H
 have hne : bcs l ≠ [] := fun e => hl (by have := congrArg List.length e; rw [bcs_len] at this; exact List.eq_nil_of_length_eq_zero this)
 have hr := raw_of hne (arr_mono n3 ha)
 have hc : c ≠ 0 := by
  rcases ha with ⟨_, e⟩ | ⟨_, _, _, _, e, _⟩
  ·
   exact absurd e hne
  ·
   intro h0; subst h0; rw [Nat.zero_mul] at e
   exact hne (List.eq_nil_of_length_eq_zero (by omega))
 obtain ⟨g, o, cur, fz, e1, r⟩ := id hr
 have e1' : a = some ⟨g, o, none⟩ := e1
 subst e1'
 exact ⟨(p, ⟨g, o, none⟩, c), hc, k1, k2, ok, n1.trans m1, n2.trans m1, hb, k2, fun _ => none, fun _ => .inr (.inl rfl), .refl _, fun _ _ e => by simp at e, hr, trivial⟩
end Go.Proofs.YtoglbebcdjdkiaaGreatDoor
/- A separation logic over the given machine. Part 28: a loop over a map of one's own, whose rounds write, or delete, what is there. -/
namespace Go.Sp
open Go
open Go.ChangeMaps (setBlock)
structure MI {κ ν : Type} [DecidableEq κ] (enc : κ → Value) (venc : ν → Value) (l : List (κ × ν)) (D : List κ) (es : Array MapEntry) (clock since : Nat) (seen : Array Nat) (c0 : Nat) : Prop where
 ents : es.toList.map (fun e => (e.key, e.val)) = l.map (fun p => (enc p.1, venc p.2))
 nodup : (l.map (·.1)).Nodup
 born : (es.toList.map (·.born)).Nodup
 lt : ∀ e ∈ es.toList, e.born < clock
 old : ∀ e ∈ es.toList, e.born < since
 c0 : since ≤ c0
 cl : since ≤ clock
 done : ∀ (i : Nat) (e : MapEntry) (p : κ × ν), es.toList[i]? = some e → l[i]? = some p → (seen.contains e.born = true ↔ p.1 ∈ D)
section
variable {κ ν : Type} [DecidableEq κ] {enc : κ → Value} {venc : ν → Value}
def mpi (enc : κ → Value) (venc : ν → Value) (b r : Nat) (l : List (κ × ν)) (D : List κ) : SProp := fun h => ∃ (es : Array MapEntry) (clock since : Nat) (seen : Array Nat) (c0 : Nat), MI enc venc l D es clock since seen c0 ∧ sat [own b (.map es clock), own r (.mapIter (some b) since seen c0)] h
def mpc (enc : κ → Value) (venc : ν → Value) (b r : Nat) (l : List (κ × ν)) (D : List κ) (q : κ) : SProp := fun h => ∃ (es : Array MapEntry) (clock since : Nat) (seen : Array Nat) (i : Nat) (e : MapEntry), MI enc venc l D es clock since (seen.push e.born) clock ∧ es.toList[i]? = some e ∧ (l[i]?).map (·.1) = some q ∧ sat [own b (.map es clock), own r (.mapIter (some b) since (seen.push e.born) clock)] h
theorem sat.duo_ {X Y : SProp} {Γ : List SProp} {Z : SProp} (hZ : ∀ h, sat [X, Y] h → Z h) {h : Hp} (s : sat (X :: Y :: Γ) h) : sat (Z :: Γ) h := by
 obtain ⟨h1, h2, ok, l1, l2, s1, s2⟩ := (show sat ([X, Y] ++ Γ) h from s).split
 exact ⟨h1, h2, ok, l1, l2, hZ h1 s1, s2⟩
theorem Sat.mpi_own {A w b r Γ} {l : List (κ × ν)} {D : List κ} (s : Sat A w (Sp.mpi enc venc b r l D :: Γ)) : ∃ (es : Array MapEntry) (clock since : Nat) (seen : Array Nat) (c0 : Nat), MI enc venc l D es clock since seen c0 ∧ Sat A w (Sp.own b (.map es clock) :: Sp.own r (.mapIter (some b) since seen c0) :: Γ) := by
 obtain ⟨a, h, f, h1, h2, ok, l1, l2, ⟨es, clock, since, seen, c0, hm, hs⟩, t⟩ := s
 exact ⟨es, clock, since, seen, c0, hm, a, h, f, sat.join (Γ := [_, _]) ok l1 l2 hs t⟩
theorem Sat.mpi_of {A w b r Γ} {l : List (κ × ν)} {D : List κ} {es : Array MapEntry} {clock since : Nat} {seen : Array Nat} {c0 : Nat} (hm : MI enc venc l D es clock since seen c0) (s : Sat A w (Sp.own b (.map es clock) :: Sp.own r (.mapIter (some b) since seen c0) :: Γ)) : Sat A w (Sp.mpi enc venc b r l D :: Γ) :=
 s.map fun _ t => sat.duo_ (fun h hs => ⟨es, clock, since, seen, c0, hm, hs⟩) t
theorem Sat.mpc_own {A w b r Γ} {l : List (κ × ν)} {D : List κ} {q : κ} (s : Sat A w (Sp.mpc enc venc b r l D q :: Γ)) : ∃ (es : Array MapEntry) (clock since : Nat) (seen : Array Nat) (i : Nat) (e : MapEntry), MI enc venc l D es clock since (seen.push e.born) clock ∧ es.toList[i]? = some e ∧ (l[i]?).map (·.1) = some q ∧ Sat A w (Sp.own b (.map es clock) :: Sp.own r (.mapIter (some b) since (seen.push e.born) clock) :: Γ) := by
 obtain ⟨a, h, f, h1, h2, ok, l1, l2, ⟨es, clock, since, seen, i, e, hm, he, hq, hs⟩, t⟩ := s
 exact ⟨es, clock, since, seen, i, e, hm, he, hq, a, h, f, sat.join (Γ := [_, _]) ok l1 l2 hs t⟩
theorem Sat.mpc_of {A w b r Γ} {l : List (κ × ν)} {D : List κ} {q : κ} {es : Array MapEntry} {clock since : Nat} {seen : Array Nat} {i : Nat} {e : MapEntry} (hm : MI enc venc l D es clock since (seen.push e.born) clock) (he : es.toList[i]? = some e) (hq : (l[i]?).map (·.1) = some q) (s : Sat A w (Sp.own b (.map es clock) :: Sp.own r (.mapIter (some b) since (seen.push e.born) clock) :: Γ)) : Sat A w (Sp.mpc enc venc b r l D q :: Γ) :=
 s.map fun _ t => sat.duo_ (fun h hs => ⟨es, clock, since, seen, i, e, hm, he, hq, hs⟩) t
theorem mpc_mpi {b r : Nat} {l : List (κ × ν)} {D : List κ} {q : κ} {h : Hp} (s : mpc enc venc b r l D q h) : mpi enc venc b r l D h := by
 obtain ⟨es, clock, since, seen, i, e, hm, _, _, hs⟩ := s
 exact ⟨es, clock, since, _, clock, hm, hs⟩
theorem mpc_open {b r : Nat} {l : List (κ × ν)} {D : List κ} {q : κ} {h : Hp} (s : mpc enc venc b r l D q h) : ∃ _ : Unit, True ∧ sat [mpi enc venc b r l D] h :=
 ⟨(), trivial, h, fun _ => none, fun _ => .inr (.inl rfl), .refl _, fun _ _ e => by simp at e, mpc_mpi s, trivial⟩
theorem mpi_mp {b r : Nat} {l : List (κ × ν)} {D : List κ} {h : Hp} (s : sat [mpi enc venc b r l D] h) : mp enc venc b l h := by
 obtain ⟨h1, _, _, l1, _, ⟨es, clock, since, seen, c0, hm, k1, _, _, m1, _, ho, _⟩, _⟩ := s
 exact ⟨es, clock, l1 b _ (m1 b _ ho), hm.ents, hm.nodup, hm.born, hm.lt⟩
variable {P : Program} {N : Nat} {E : Env} {Γ Γ' : List SProp} {dst : Option Tmp} {ty : TypeId} {pos : String} {after : Array Edge} {guard : Option (Nat × Bool)}
theorem Eff.rangeM {t k e x b} {l : List (κ × ν)} (hu : P.underlying t = some (.map k e)) (hx : ev E x = some (.map (some b))) (p : Pick (mp enc venc b l) Γ Γ') :
  Eff P N E Γ ⟨dst, .range t x, ty, pos, after, guard⟩ fun v Γ'' => ∃ r, v = .pointer (some ⟨r, 0, none⟩) ∧ Γ'' = mpi enc venc b r l [] :: Γ' := by
 intro A F w a nx Z hf hsat hn
 obtain ⟨es, clock, hh, e1, e2, e3, e4, hs⟩ := (hsat.map fun _ => (p.app F).sat).mp_own
 have hg : (getObj b).run P w = .ok (.map es clock) w := by simp [getObj, Sem.run, hh]
 unfold Oper.wp
 simp [execOp, hf.eval hx, Instr.range, underlying, hu, hg, newObj, Oper.upon]
 refine hn _ _ _ ⟨w.heap.size, rfl, rfl⟩ (Sat.mpi_of (c0 := clock) (seen := #[]) (since := clock) ⟨e1, e2, e3, e4, e4, Nat.le_refl _, Nat.le_refl _, fun i e p _ _ => by simp⟩ ?_)
 exact ((hs.alloc (.mapIter (some b) clock #[] clock)).map fun _ t => sat.swap t)
theorem mget_at : ∀ {l : List (κ × ν)} {i : Nat} {p : κ × ν}, (l.map (·.1)).Nodup → l[i]? = some p → mget l p.1 = some p.2
 | x :: l, 0, p, _, h => by cases h; rw [mget_cons, if_pos rfl]
 | x :: l, i + 1, p, hn, h => by
  rw [List.map_cons, List.nodup_cons] at hn
  have hp : p.1 ≠ x.1 := fun e => hn.1 (by rw [← e]; exact List.mem_map_of_mem (List.mem_of_getElem? h))
  rw [mget_cons, if_neg hp]
  exact mget_at hn.2 h
theorem nodup_ix {α : Type} {l : List α} (h : l.Nodup) {i j : Nat} {x : α} (hi : l[i]? = some x) (hj : l[j]? = some x) : i = j := by
 obtain ⟨a1, a2⟩ := List.getElem?_eq_some_iff.1 hi
 obtain ⟨b1, b2⟩ := List.getElem?_eq_some_iff.1 hj
 rcases Nat.lt_trichotomy i j with hl | hl | hl
 ·
  exact absurd (a2.trans b2.symm) (List.pairwise_iff_getElem.1 h i j a1 b1 hl)
 ·
  exact hl
 ·
  exact absurd (b2.trans a2.symm) (List.pairwise_iff_getElem.1 h j i b1 a1 hl)
theorem MI.pair {l : List (κ × ν)} {D : List κ} {es : Array MapEntry} {clock since : Nat} {seen : Array Nat} {c0 : Nat} (h : MI enc venc l D es clock since seen c0) {i : Nat} {e : MapEntry} (he : es.toList[i]? = some e) : ∃ p, l[i]? = some p ∧ e.key = enc p.1 ∧ e.val = venc p.2 := by
 have h1 := congrArg (fun l => l[i]?) h.ents
 simp only [List.getElem?_map, he, Option.map_some] at h1
 obtain ⟨p, hp, e1⟩ := Option.map_eq_some_iff.1 h1.symm
 exact ⟨p, hp, (congrArg (·.1) e1).symm, (congrArg (·.2) e1).symm⟩
theorem MI.len {l : List (κ × ν)} {D : List κ} {es : Array MapEntry} {clock since : Nat} {seen : Array Nat} {c0 : Nat} (h : MI enc venc l D es clock since seen c0) : es.toList.length = l.length := by simpa using congrArg List.length h.ents
theorem Eff.nextM {x b r} {l : List (κ × ν)} {D : List κ} (hx : ev E x = some (.pointer (some ⟨r, 0, none⟩))) (p : Pick (mpi enc venc b r l D) Γ Γ') :
  Eff P N E Γ ⟨dst, .next x false, ty, pos, after, guard⟩ fun v Γ'' => (v = .tuple #[.bool false] ∧ (∀ q ∈ l.map (·.1), q ∈ D) ∧ Γ'' = mpi enc venc b r l D :: Γ') ∨ ∃ q u, mget l q = some u ∧ q ∉ D ∧ v = .tuple #[.bool true, enc q, venc u] ∧ Γ'' = mpc enc venc b r l (q :: D) q :: Γ' := by
 intro A F w a nx Z hf hsat hn
 obtain ⟨es, clock, since, seen, c0, hm, hs⟩ := (hsat.map fun _ => (p.app F).sat).mpi_own
 have hb := hs.own
 have hs2 : Sat A w (Sp.own r (.mapIter (some b) since seen c0) :: Sp.own b (.map es clock) :: (Γ' ++ F)) := hs.map fun _ t => sat.swap t
 have hr := hs2.own
 unfold Oper.wp
 rcases run_next_at (P := P) w ty r b since c0 seen es clock hr hb hm.old hm.c0 with ⟨h0, hrun⟩ | ⟨e, he, w1, hw1, hrun⟩
 ·
  simp [execOp, hf.eval hx, hrun, Oper.upon]
  refine hn _ _ _ (.inl ⟨rfl, fun q hq => ?_, rfl⟩) (Sat.mpi_of hm hs)
  obtain ⟨pr, hpr, rfl⟩ := List.mem_map.1 hq
  obtain ⟨i, hi⟩ := List.getElem?_of_mem hpr
  have hil := (List.getElem?_eq_some_iff.1 hi).1
  obtain ⟨en, hen⟩ : ∃ en, es.toList[i]? = some en := ⟨_, List.getElem?_eq_getElem (by rw [hm.len]; exact hil)⟩
  refine (hm.done i en pr hen hi).1 ?_
  cases hc : seen.contains en.born with
  | true => rfl
  | false =>
   have hin : en ∈ (leftOf es seen).toList := by
    unfold leftOf
    rw [Array.toList_filter]
    exact List.mem_filter.2 ⟨List.mem_of_getElem? hen, by rw [hc]; rfl⟩
   have : (leftOf es seen).toList.length = 0 := by rw [Array.length_toList]; exact h0
   rw [List.eq_nil_of_length_eq_zero this] at hin; cases hin
 ·
  simp [execOp, hf.eval hx, hrun, Oper.upon]
  have he2 : e ∈ es.toList ∧ seen.contains e.born = false := by
   unfold leftOf at he
   rw [Array.toList_filter] at he
   obtain ⟨k1, k2⟩ := List.mem_filter.1 he
   exact ⟨k1, by simpa using k2⟩
  obtain ⟨i, hi⟩ := List.getElem?_of_mem he2.1
  obtain ⟨pr, hpr, hk, hv⟩ := hm.pair hi
  have hnd : pr.1 ∉ D := fun hD => by
   have := (hm.done i e pr hi hpr).2 hD
   rw [he2.2] at this; cases this
  have hup : Sat A (setBlock w1 r (.mapIter (some b) since (seen.push e.born) clock)) (Sp.own r (.mapIter (some b) since (seen.push e.born) clock) :: Sp.own b (.map es clock) :: (Γ' ++ F)) := by
   have hsz : r < w.heap.size := by
    cases hlt : decide (r < w.heap.size) with
    | true => exact of_decide_eq_true hlt
    | false => rw [Array.getElem?_eq_none (by have := of_decide_eq_false hlt; omega)] at hr; cases hr
   have hw : w1.heap = w.heap ∧ amb w1 = amb w := by rcases hw1 with rfl | rfl <;> exact ⟨rfl, rfl⟩
   refine hs2.update ?_ (fun c hc => ?_) ?_
   ·
    show (w1.heap.setIfInBounds r _)[r]? = _
    rw [hw.1]; simp [hsz]
   ·
    show (w1.heap.setIfInBounds r _)[c]? = _
    rw [hw.1, Array.getElem?_setIfInBounds_ne (Ne.symm hc)]
   ·
    exact hw.2
  refine hn _ _ _ (.inr ⟨pr.1, pr.2, mget_at hm.nodup hpr, hnd, by rw [hk, hv], rfl⟩) (Sat.mpc_of (i := i) ⟨hm.ents, hm.nodup, hm.born, hm.lt, hm.old, hm.cl, hm.cl, fun j en p2 hj hp2 => ?_⟩ hi (by rw [hpr]; rfl) (hup.map fun _ t => sat.swap t))
  ·
   by_cases hij : j = i
   ·
    subst hij
    rw [hi] at hj; cases hj
    rw [hpr] at hp2; cases hp2
    simp
   ·
    have hbne : en.born ≠ e.born := fun hbb => hij (nodup_ix hm.born (x := e.born) (by rw [List.getElem?_map, hj]; exact congrArg some hbb) (by rw [List.getElem?_map, hi]; rfl))
    have hkne : p2.1 ≠ pr.1 := fun hkk => hij (nodup_ix hm.nodup (x := pr.1) (by rw [List.getElem?_map, hp2]; exact congrArg some hkk) (by rw [List.getElem?_map, hpr]; rfl))
    have hd := hm.done j en p2 hj hp2
    rw [List.mem_cons]
    constructor
    ·
     intro hc
     refine .inr (hd.1 ?_)
     simpa [hbne] using hc
    ·
     rintro (hc | hc)
     ·
      exact absurd hc hkne
     ·
      have := hd.2 hc
      simp at this ⊢
      exact .inl this
theorem Reads.entryM {x b r} {l : List (κ × ν)} {D : List κ} {q : κ} {u : ν} (hx : ev E x = some (.pointer (some ⟨r, 0, none⟩))) (p : Pick (mpc enc venc b r l D q) Γ Γ') (hq : mget l q = some u) :
  Reads P N E Γ ⟨dst, .entry x, ty, pos, after, guard⟩ (.tuple #[enc q, venc u]) := fun A w a hf hsat => by
 obtain ⟨es, clock, since, seen, i, e, hm, he, hk, hs⟩ := (hsat.map fun _ => p.sat).mpc_own
 have hb := hs.own
 have hr := (hs.map fun _ t => sat.swap t).own
 obtain ⟨pr, hpr, h1, h2⟩ := hm.pair he
 rw [hpr] at hk
 have hkq : pr.1 = q := Option.some.inj hk
 have hu := mget_at hm.nodup hpr
 rw [hkq, hq] at hu
 have hpu : u = pr.2 := Option.some.inj hu
 have := run_entry_at (P := P) w r b since seen es clock e hr hb (List.mem_of_getElem? he) hm.born
 simp [execOp, hf.eval hx, this, h1, h2, hkq, hpu]
theorem MI.update {l : List (κ × ν)} {D : List κ} {es : Array MapEntry} {clock since : Nat} {seen : Array Nat} {c0 : Nat} (h : MI enc venc l D es clock since seen c0) {i : Nat} {q : κ} {u : ν} {en : MapEntry} (hl : (l[i]?).map (·.1) = some q) (hset : mset l q u = l.set i (q, u)) (hen : es[i]? = some en) : MI enc venc (mset l q u) D (es.modify i fun e => { e with key := enc q, val := venc u }) clock since seen c0 := by
 have hi' : i < es.toList.length := by
  have : es.toList[i]? = some en := by rw [Array.getElem?_toList]; exact hen
  exact (List.getElem?_eq_some_iff.1 this).1
 have hen' : es.toList[i]? = some en := by rw [Array.getElem?_toList]; exact hen
 have hmod : (es.modify i fun e => { e with key := enc q, val := venc u }).toList = es.toList.set i { en with key := enc q, val := venc u } := by
  apply List.ext_getElem?
  intro j
  rw [Array.getElem?_toList, Array.getElem?_modify, List.getElem?_set]
  by_cases hji : i = j
  ·
   subst hji; simp [hen]; simpa using hi'
  ·
   simp [hji]
 have hborn : (es.toList.set i { en with key := enc q, val := venc u }).map (·.born) = es.toList.map (·.born) := by
  rw [List.map_set]
  apply List.ext_getElem?
  intro j
  rw [List.getElem?_set]
  by_cases hji : i = j
  ·
   subst hji
   simp [hen']
   simpa using hi'
  ·
   simp [hji]
 refine ⟨by rw [hset, hmod, List.map_set, List.map_set, h.ents], mset_nodup h.nodup _ _, by rw [hmod, hborn]; exact h.born, fun x hx => ?_, fun x hx => ?_, h.c0, h.cl, fun j e p he hp => ?_⟩
 ·
  rw [hmod] at hx
  rcases List.mem_or_eq_of_mem_set hx with hx | rfl
  ·
   exact h.lt x hx
  ·
   exact h.lt en (List.mem_of_getElem? hen')
 ·
  rw [hmod] at hx
  rcases List.mem_or_eq_of_mem_set hx with hx | rfl
  ·
   exact h.old x hx
  ·
   exact h.old en (List.mem_of_getElem? hen')
 ·
  rw [hmod] at he
  rw [hset] at hp
  rw [List.getElem?_set] at he hp
  by_cases hji : i = j
  ·
   subst hji
   obtain ⟨p0, hp0, h0⟩ := Option.map_eq_some_iff.1 hl
   have hil := (List.getElem?_eq_some_iff.1 hp0).1
   rw [if_pos rfl, if_pos hi'] at he
   rw [if_pos rfl, if_pos hil] at hp
   cases he; cases hp
   have := h.done i en p0 hen' hp0
   rw [h0] at this
   exact this
  ·
   rw [if_neg hji] at he hp
   exact h.done j e p he hp
theorem mdel_erase {l : List (κ × ν)} {i : Nat} {q : κ} (e2 : (l.map (·.1)).Nodup) (hlt : i < l.length) (hq : (l[i]?).map (·.1) = some q) : mdel l q = l.eraseIdx i := by
 unfold mdel
 have hq' : l[i].1 = q := by simpa [hlt] using hq
 obtain ⟨A', x, B', rfl, hA⟩ : ∃ A' x B', l = A' ++ x :: B' ∧ A'.length = i := ⟨l.take i, l[i], l.drop (i + 1), by simp, by simp; omega⟩
 subst hA
 have hx1 : x.1 = q := by simpa using hq'
 simp only [List.map_append, List.map_cons, List.nodup_append, List.nodup_cons] at e2
 obtain ⟨_, ⟨n2, _⟩, n3⟩ := e2
 rw [List.eraseIdx_append_of_length_le (Nat.le_refl _)]
 simp only [Nat.sub_self, List.eraseIdx_cons_zero, List.filter_append, List.filter_cons]
 have f1 : A'.filter (fun p => !decide (q = p.1)) = A' := List.filter_eq_self.2 fun p hp => by
  have := n3 p.1 (List.mem_map_of_mem hp) x.1 (by simp)
  simp; intro e; exact this (by rw [hx1]; exact e.symm)
 have f2 : B'.filter (fun p => !decide (q = p.1)) = B' := List.filter_eq_self.2 fun p hp => by
  simp; intro e; apply n2; rw [hx1, e]; exact List.mem_map_of_mem hp
 simp [f1, f2, hx1]
theorem MI.delete {l : List (κ × ν)} {D : List κ} {es : Array MapEntry} {clock since : Nat} {seen : Array Nat} {c0 : Nat} (h : MI enc venc l D es clock since seen c0) {i : Nat} {q : κ} (hdel : mdel l q = l.eraseIdx i) (hi : i < es.size) : MI enc venc (mdel l q) D (es.eraseIdxIfInBounds i) clock since seen c0 := by
 have her : (es.eraseIdxIfInBounds i).toList = es.toList.eraseIdx i := by simp [Array.eraseIdxIfInBounds, hi]
 refine ⟨by rw [hdel, her, map_eraseIdx', map_eraseIdx', h.ents], mdel_nodup h.nodup _, by rw [her, map_eraseIdx']; exact h.born.sublist (List.eraseIdx_sublist _ _), fun x hx => h.lt x (by rw [her] at hx; exact List.mem_of_mem_eraseIdx hx), fun x hx => h.old x (by rw [her] at hx; exact List.mem_of_mem_eraseIdx hx), h.c0, h.cl, fun j e p he hp => ?_⟩
 rw [her] at he
 rw [hdel] at hp
 rw [List.getElem?_eraseIdx] at he hp
 by_cases hji : j < i
 ·
  rw [if_pos hji] at he hp
  exact h.done j e p he hp
 ·
  rw [if_neg hji] at he hp
  exact h.done (j + 1) e p he hp
theorem Eff.updateM {t k e x ix y b r} {l : List (κ × ν)} {D : List κ} {q : κ} {u : ν} (K : KL P k enc) (hu : P.underlying t = some (.map k e)) (hx : ev E x = some (.map (some b))) (hi : ev E ix = some (enc q)) (hy : ev E y = some (venc u)) (hq : (mget l q).isSome = true) (p : Pick (mpi enc venc b r l D) Γ Γ') :
  Eff P N E Γ ⟨dst, .mapUpdate t x ix y, ty, pos, after, guard⟩ fun _ Γ'' => Γ'' = mpi enc venc b r (mset l q u) D :: Γ' := by
 intro A F w a nx Z hf hsat hn
 obtain ⟨es, clock, since, seen, c0, hm, hs⟩ := (hsat.map fun _ => (p.app F).sat).mpi_own
 have hh := hs.own
 have hfnd := K.find q es.toList (l.map (·.1)) (keys_of hm.ents) w
 have hg : (getObj b).run P w = .ok (.map es clock) w := by simp [getObj, Sem.run, hh]
 unfold Oper.wp
 cases hj : (l.map (·.1)).findIdx? fun y => decide (q = y) with
 | none =>
  exfalso
  have := findIdx_keys l q
  rw [hj] at this
  rw [← this] at hq; cases hq
 | some i =>
  obtain ⟨hlt, hlq, hset⟩ := mset_found (v := u) hm.nodup hj
  have hi' : i < es.toList.length := by rw [hm.len]; exact hlt
  obtain ⟨en, hen'⟩ : ∃ en, es.toList[i]? = some en := ⟨_, List.getElem?_eq_getElem hi'⟩
  have hen : es[i]? = some en := by rw [← Array.getElem?_toList]; exact hen'
  obtain ⟨pr, hpr, hk1, _⟩ := hm.pair hen'
  rw [hpr] at hlq
  have hkeq : en.key = enc q := by rw [hk1]; exact congrArg enc (Option.some.inj hlq)
  simp only [hj, Option.bind_some, Array.getElem?_toList, hen, Option.map_some] at hfnd
  obtain ⟨r1, s1⟩ := Sat.setObj (P := P) (o' := .map (es.modify i fun e => { e with key := enc q, val := venc u }) clock) hs (by simp)
  simp [execOp, hf.eval hx, hf.eval hi, hf.eval hy, Instr.mapUpdate, underlying, hu, hg, K.check, hfnd, hen, hkeq, K.stays, r1, Oper.upon]
  exact hn _ _ _ rfl (Sat.mpi_of (hm.update (by rw [hpr]; exact hlq) hset hen) s1)
theorem Eff.deleteM {args : Array Operand} {ts : Array TypeId} {t tk k e x ix b r} {l : List (κ × ν)} {D : List κ} {q : κ} (K : KL P k enc) (ha : args = #[x, ix]) (hts : ts = #[t, tk]) (hu : P.underlying t = some (.map k e)) (hx : ev E x = some (.map (some b))) (hi : ev E ix = some (enc q)) (hq : (mget l q).isSome = true) (p : Pick (mpi enc venc b r l D) Γ Γ') :
  Eff P N E Γ ⟨dst, .call ⟨.builtin .delete, args, ts⟩, ty, pos, after, guard⟩ fun _ Γ'' => Γ'' = mpi enc venc b r (mdel l q) D :: Γ' := by
 subst ha hts
 intro A F w a nx Z hf hsat hn
 obtain ⟨es, clock, since, seen, c0, hm, hs⟩ := (hsat.map fun _ => (p.app F).sat).mpi_own
 have hh := hs.own
 have hfnd := K.find q es.toList (l.map (·.1)) (keys_of hm.ents) w
 have hg : (getObj b).run P w = .ok (.map es clock) w := by simp [getObj, Sem.run, hh]
 unfold Oper.wp
 cases hj : (l.map (·.1)).findIdx? fun y => decide (q = y) with
 | none =>
  exfalso
  have := findIdx_keys l q
  rw [hj] at this
  rw [← this] at hq; cases hq
 | some i =>
  obtain ⟨hlt, hlq, _⟩ := mset_found (v := (l[i]'(by simpa using (List.findIdx?_eq_some_iff_findIdx_eq.1 hj).1)).2) hm.nodup hj
  have hi' : i < es.toList.length := by rw [hm.len]; exact hlt
  obtain ⟨en, hen'⟩ : ∃ en, es.toList[i]? = some en := ⟨_, List.getElem?_eq_getElem hi'⟩
  have hen : es[i]? = some en := by rw [← Array.getElem?_toList]; exact hen'
  simp only [hj, Option.bind_some, Array.getElem?_toList, hen, Option.map_some] at hfnd
  obtain ⟨r1, s1⟩ := Sat.setObj (P := P) (o' := .map (es.eraseIdxIfInBounds i) clock) hs (by simp)
  simp [execOp, resolve, invoke, builtin, hf.eval hx, hf.eval hi, Builtin.delete_, underlying, hu, hg, K.check, hfnd, r1, Oper.upon]
  exact hn _ _ _ rfl (Sat.mpi_of (hm.delete (mdel_erase hm.nodup hlt hlq) (by simpa using hi')) s1)
end
end Go.Sp
/- Chapter 13: what a table of producers is in memory. -/
namespace Go.Proofs.YtoglbebcdjdkiaaGreatDoor
open Go Go.Sp
structure TV where
 a : Option Addr
 c : Nat
 ns : List Nt
def tvv (v : TV) : Value := .slice v.a v.ns.length v.c
def tv0 : TV := ⟨none, 0, []⟩
def pidv (p : Int) : Value := .int .i64 p
abbrev TM := List (Int × TV)
def pur (m : TM) : Tm := m.map fun p => (p.1, p.2.ns)
def tva (p : Int × TV) : SProp := arr 97 4 p.2.a p.2.c (p.2.ns.flatMap ntc)
def ent (m : TM) (q : Int) : TV := (mget m q).getD tv0
structure Tb where
 tb : Nat
 mb : Nat
 m : TM
def TG (t : Tb) : SProp := pk [blk t.tb [.map (some t.mb)] 93, mp pidv tvv t.mb t.m, bag tva t.m]
theorem klI : KL Tryz.prog 3 pidv := KL.int Tryz.underlying3
section
variable {κ ν : Type} [DecidableEq κ]
theorem mdel_none {m : List (κ × ν)} {q : κ} (h : mget m q = none) : mdel m q = m := List.filter_eq_self.2 fun p hp => by
 have := mget_none.1 h
 have h2 := List.any_eq_false.1 this p hp
 simpa using h2
theorem mget_mem' {m : List (κ × ν)} {q : κ} {v : ν} (h : mget m q = some v) : (q, v) ∈ m := by
 unfold mget at h
 obtain ⟨p, hp, rfl⟩ := Option.map_eq_some_iff.1 h
 have h1 := List.find?_some hp
 have h2 := List.mem_of_find?_eq_some hp
 rw [of_decide_eq_true h1]; exact h2
theorem perm_get {m : List (κ × ν)} {q : κ} {v : ν} (hn : (m.map (·.1)).Nodup) (h : mget m q = some v) : m.Perm ((q, v) :: mdel m q) := by
 induction m with
 | nil => cases h
 | cons p m ih =>
  rw [List.map_cons, List.nodup_cons] at hn
  rw [mget_cons] at h
  unfold mdel
  rw [List.filter_cons]
  by_cases hp : q = p.1
  ·
   rw [if_pos hp] at h
   cases h
   subst hp
   rw [if_neg (by simp)]
   have : m.filter (fun x => !decide (p.1 = x.1)) = m := List.filter_eq_self.2 fun x hx => by
    have : p.1 ≠ x.1 := fun e => hn.1 (by rw [e]; exact List.mem_map_of_mem hx)
    simp [this]
   rw [this]
  ·
   rw [if_neg hp] at h
   rw [if_pos (by simp [hp])]
   exact ((ih hn.2 h).cons p).trans (.swap ..)
theorem mset_of_none {m : List (κ × ν)} {q : κ} {v : ν} (h : mget m q = none) : mset m q v = m ++ [(q, v)] := by
 unfold mset; rw [if_neg (by rw [mget_none.1 h]; exact Bool.noConfusion)]
theorem mdel_mset (m : List (κ × ν)) (q : κ) (v : ν) : mdel (mset m q v) q = mdel m q := by
 unfold mset mdel
 split
 ·
  rw [List.filter_map]
  have : ∀ l : List (κ × ν), List.map (fun p => if q = p.1 then (p.1, v) else p) (l.filter (fun p => !decide (q = p.1))) = l.filter (fun p => !decide (q = p.1)) := fun l => by
   refine (List.map_congr_left (g := id) fun p hp => ?_).trans (List.map_id _)
   have := (List.mem_filter.1 hp).2
   rw [if_neg (by simpa using this)]; rfl
  have e : ((fun p : κ × ν => !decide (q = p.1)) ∘ fun p : κ × ν => if q = p.1 then (p.1, v) else p) = fun p => !decide (q = p.1) := by
   funext p; simp only [Function.comp]; split <;> rfl
  rw [e]; exact this _
 ·
  rw [List.filter_append]; simp
theorem perm_set {m : List (κ × ν)} (hn : (m.map (·.1)).Nodup) (q : κ) (v : ν) : (mset m q v).Perm ((q, v) :: mdel m q) := by
 have := perm_get (q := q) (v := v) (mset_nodup hn q v) (by rw [mget_mset, if_pos rfl])
 rwa [mdel_mset] at this
end
theorem bag_out {m : TM} {q : Int} (hn : (m.map (·.1)).Nodup) {h : Hp} (H : bag tva m h) : sat [tva (q, ent m q), bag tva (mdel m q)] h := by
 unfold ent
 cases e : mget m q with
 | some v => exact bag.take (perm_get hn e) H
 | none =>
  rw [mdel_none e]
  exact ⟨fun _ => none, h, fun _ => .inl rfl, fun _ _ e => by simp at e, .refl _, .inl ⟨rfl, rfl⟩, h, fun _ => none, fun _ => .inr (.inl rfl), .refl _, fun _ _ e => by simp at e, H, trivial⟩
theorem bag_in {m : TM} {q : Int} {v : TV} (hn : (m.map (·.1)).Nodup) {h : Hp} (H : sat [tva (q, v), bag tva (mdel m q)] h) : bag tva (mset m q v) h := bag.put (perm_set hn q v).symm H
theorem Knows.ent {m : TM} {Γ Γ' : List SProp} (p : Pick (bag tva m) Γ Γ') (q : Int) : Knows Γ fun w => RowAt (ent m q).a ((ent m q).ns.flatMap ntc) w ∧ (ent m q).ns.length ≤ (ent m q).c := by
 unfold Go.Proofs.YtoglbebcdjdkiaaGreatDoor.ent
 cases e : mget m q with
 | none => exact fun _ _ _ => ⟨.inl rfl, Nat.le_refl _⟩
 | some v => exact Knows.bag p (mget_mem' e) (((Knows.arr (cs := v.ns.flatMap ntc) .head).and (Knows.cap (cs := v.ns.flatMap ntc) .head)).mono fun w h => ⟨h.1, by have h2 : (v.ns.flatMap ntc).length ≤ v.c * 4 := h.2; rw [flat_length ntc_len] at h2; show v.ns.length ≤ v.c; omega⟩)
theorem pur_get (m : TM) (q : Int) : mget (pur m) q = (mget m q).map (·.ns) := by
 unfold pur
 induction m with
 | nil => rfl
 | cons p m ih => rw [List.map_cons, mget_cons, mget_cons]; dsimp only; rw [ih]; split <;> rfl
theorem pur_ent (m : TM) (q : Int) : notesOf (pur m) q = (ent m q).ns := by
 unfold notesOf Go.Proofs.YtoglbebcdjdkiaaGreatDoor.ent; rw [pur_get]; cases mget m q <;> rfl
theorem pur_set (m : TM) (q : Int) (v : TV) : pur (mset m q v) = mset (pur m) q v.ns := by
 unfold mset pur
 rw [List.any_map]
 have e : ((fun p : Int × List Nt => decide (q = p.1)) ∘ fun p : Int × TV => (p.1, p.2.ns)) = fun p => decide (q = p.1) := rfl
 rw [e]
 split
 ·
  rw [List.map_map, List.map_map]
  refine List.map_congr_left fun p _ => ?_
  simp only [Function.comp]; split <;> rfl
 ·
  rw [List.map_append]; rfl
theorem pur_del (m : TM) (q : Int) : pur (mdel m q) = mdel (pur m) q := by
 unfold mdel pur; rw [List.filter_map]; rfl
theorem pur_keys (m : TM) : (pur m).map (·.1) = m.map (·.1) := by unfold pur; rw [List.map_map]; rfl
theorem lkT (m : TM) (q : Int) : ((mget m q).map tvv).getD (.slice none 0 0) = tvv (ent m q) := by
 unfold ent; cases mget m q <;> rfl
end Go.Proofs.YtoglbebcdjdkiaaGreatDoor
namespace Go.Proofs.YtoglbebcdjdkiaaGreatDoor
open Go Go.Sp
set_option linter.unusedVariables false
namespace td1
theorem ts97 : TS Tryz.prog 97 4 := .of (by kernel_rfl)
theorem na3 : NotAgg Tryz.prog 3 := ⟨_, Tryz.underlying3, trivial⟩
theorem ia97 : IsAgg Tryz.prog 97 := ⟨_, Tryz.underlying97, trivial⟩
end td1
open td1
theorem lateFrom_end {l : List Nt} {k i : Nat} (h : k = 0 ∨ ¬ (0 < i ∧ sameE l (i - 1) = true)) : lateFrom l k i = i := by
 cases k with
 | zero => rfl
 | succ k =>
  unfold lateFrom
  rw [if_neg]
  rcases h with h | h
  ·
   omega
  ·
   exact h
theorem lateFrom_go {l : List Nt} {k i : Nat} (hk : 0 < k) (h : 0 < i ∧ sameE l (i - 1) = true) : lateFrom l k i = lateFrom l (k - 1) (i - 1) := by
 obtain ⟨j, rfl⟩ : ∃ j, k = j + 1 := ⟨k - 1, by omega⟩
 rw [lateFrom, if_pos h, Nat.add_sub_cancel]
theorem sameE_at {l : List Nt} {i : Nat} {x y : Nt} (hx : l[i]? = some x) (hy : l[l.length - 1]? = some y) : sameE l i = decide (x.ep = y.ep) := by
 unfold sameE; rw [hx, List.getLast?_eq_getElem?, hy]; exact decide_eq_decide.2 ⟨fun h => Option.some.inj h, fun h => congrArg some h⟩
theorem idx_ahead {off : Int} {l : List Nt} : (match l.findIdx? fun x => decide (off ≤ x.off) with | some k => (k : Int) | none => (l.length : Int) : Int) = (((ahN off l).length : Nat) : Int) := by
 unfold ahN
 induction l with
 | nil => rfl
 | cons x l ih =>
  rw [List.findIdx?_cons, List.takeWhile_cons]
  by_cases h : off ≤ x.off
  ·
   rw [decide_eq_true h, if_pos rfl, decide_eq_false (by omega)]; rfl
  ·
   rw [decide_eq_false h, if_neg Bool.false_ne_true, decide_eq_true (by omega), if_pos rfl]
   cases hk : List.findIdx? (fun x => decide (off ≤ x.off)) l with
   | none => rw [hk] at ih; simp only [Option.map_none, List.length_cons] at ih ⊢; omega
   | some k => rw [hk] at ih; simp only [Option.map_some, List.length_cons] at ih ⊢; omega
theorem findIdx_take {p : Nt → Bool} {l : List Nt} : (∀ x ∈ l, p x = false) → l.findIdx? p = none := fun h => List.findIdx?_eq_none_iff.2 h
theorem findIdx_here {p : Nt → Bool} {l : List Nt} {i : Nat} {x : Nt} (h : ∀ j y, j < i → l[j]? = some y → p y = false) (hx : l[i]? = some x) (hp : p x = true) : l.findIdx? p = some i := by
 obtain ⟨hi, rfl⟩ := List.getElem?_eq_some_iff.1 hx
 exact List.findIdx?_eq_some_iff_getElem.2 ⟨hi, hp, fun j hj => by rw [h j l[j] hj (List.getElem?_eq_getElem (by omega))]; exact Bool.noConfusion⟩
set_option maxHeartbeats 1000000 in
set_option maxRecDepth 20000 in
theorem latest_ok (a : Option Addr) (c : Nat) (ns : List Nt) (hc : ns.length ≤ c) (hl : ns.length ≤ 1000000000) : Cn Tryz.prog 43 [.slice a ns.length c, .int .i64 5] (RowAt a (ns.flatMap ntc)) [] fun v G => v = .slice (if c = lateN ns then a else a.map (·.add (lateN ns * 4))) (latest ns).length (c - lateN ns) ∧ G = [] := by
 refine .enter Tryz.func43 rfl (by kernel_rfl) rfl fun R k => ?_
 refine .goO fds 7 ?_
 refine .rd (.lenL rfl rfl Tryz.underlying89 rfl) ?_
 refine .goR fds 4 ?_
 refine .loop (σ := Nat) (fun i => i ≤ ns.length ∧ ns.length - i ≤ 5 ∧ lateFrom ns (5 - (ns.length - i)) i = lateN ns) (fun i => i) (fun i => [(0, .slice a ns.length c), (1, .int .i64 5), (5, .int .i64 (i : Nat))]) (fun i => [R]) ns.length ⟨Nat.le_refl _, by omega, by rw [Nat.sub_self]; rfl⟩ (.cons rfl (.cons rfl (.cons rfl .nil))) (.cons .head .nil) (fun i hI ih => ?_)
 obtain ⟨hil, hi5, hlf⟩ := hI
 refine .go fds 2 ?_
 refine .drawsJoin [17, 25] [R] 35 (decide (0 < i ∧ ns.length - i < 5 ∧ sameE ns (i - 1) = true)) (by kernel_rfl) ?_ ?_
 ·
  refine .goD fds [0] ?_
  refine .goD fds [1] ?_
  refine .goD fds [2] ?_
  refine .split (t := 10) rfl (fun hb1 => ?_) (fun hb1 => ?_)
  ·
   replace hb1 := of_decide_eq_true hb1
   refine .goD fds [3] ?_
   refine .rpG 4 (t := 10) rfl rfl rfl (by kernel_rfl) (by kernel_rfl) (by kernel_rfl) (Reads.pure (.lenL rfl rfl Tryz.underlying89 rfl)) ?_
   refine .goD fds [5] ?_
   refine .rpG 6 (t := 10) rfl rfl rfl (by kernel_rfl) (by kernel_rfl) (by kernel_rfl) (Reads.pure (.sub rfl rfl (by omega) (by omega))) ?_
   refine .goD fds [7] ?_
   refine .goD fds [8] ?_
   refine .goD fds [9] ?_
   refine .goD fds [10] ?_
   refine .split (t := 18) rfl (fun hb2 => ?_) (fun hb2 => ?_)
   ·
    obtain ⟨x, hx⟩ : ∃ x, ns[i - 1]? = some x := ⟨_, List.getElem?_eq_getElem (by omega)⟩
    obtain ⟨y, hy⟩ : ∃ y, ns[ns.length - 1]? = some y := ⟨_, List.getElem?_eq_getElem (by omega)⟩
    replace hb2 := of_decide_eq_true hb2
    refine .tell (φ := ∃ b o, a = some ⟨b, o, none⟩) (Knows.pick .head (k.mono fun _ h => RowAt.addr h (by rw [flat_length ntc_len]; omega))) (fun hh => ?_)
    obtain ⟨b9, o9, h9⟩ := hh
    refine .goD fds [11] ?_
    refine .goD fds [12] ?_
    refine .rpG 13 (t := 18) rfl rfl rfl (by kernel_rfl) (by kernel_rfl) (by kernel_rfl) (Reads.pure (.sub rfl rfl (by omega) (by omega))) ?_
    refine .alter (t := 21) (v' := .int .i64 ((i - 1 : Nat))) rfl (congrArg (Value.int .i64) (by omega)) ?_
    refine .rpG 14 (t := 18) rfl rfl rfl (by kernel_rfl) (by kernel_rfl) (by kernel_rfl) (Reads.pure (.indexAddr (b := b9) (o := o9) Tryz.underlying89 ts97 (by show some (Value.slice (a) _ _) = _; rw [h9]) rfl (by omega) (by omega))) ?_
    refine .goD fds [15] ?_
    refine .goD fds [16] ?_
    refine .rdG 17 (t := 18) rfl rfl rfl rfl (by kernel_rfl) (by kernel_rfl) (by kernel_rfl) (.load na3 rfl (Knows.one (i := 0) (Knows.elem (f := ntc) ntc_len (by decide) (Knows.pick .head (k.mono fun _ h => h9 ▸ h)) (hx)) rfl)) (.cons .head .nil) ?_
    refine .goD fds [18] ?_
    refine .goD fds [19] ?_
    refine .rpG 20 (t := 18) rfl rfl rfl (by kernel_rfl) (by kernel_rfl) (by kernel_rfl) (Reads.pure (.lenL rfl rfl Tryz.underlying89 rfl)) ?_
    refine .rpG 21 (t := 18) rfl rfl rfl (by kernel_rfl) (by kernel_rfl) (by kernel_rfl) (Reads.pure (.sub rfl rfl (by omega) (by omega))) ?_
    refine .alter (t := 29) (v' := .int .i64 ((ns.length - 1 : Nat))) rfl (congrArg (Value.int .i64) (by omega)) ?_
    refine .rpG 22 (t := 18) rfl rfl rfl (by kernel_rfl) (by kernel_rfl) (by kernel_rfl) (Reads.pure (.indexAddr (b := b9) (o := o9) Tryz.underlying89 ts97 (by show some (Value.slice (a) _ _) = _; rw [h9]) rfl (by omega) (by omega))) ?_
    refine .goD fds [23] ?_
    refine .goD fds [24] ?_
    refine .rdG 25 (t := 18) rfl rfl rfl rfl (by kernel_rfl) (by kernel_rfl) (by kernel_rfl) (.load na3 rfl (Knows.one (i := 0) (Knows.elem (f := ntc) ntc_len (by decide) (Knows.pick .head (k.mono fun _ h => h9 ▸ h)) (hy)) rfl)) (.cons .head .nil) ?_
    refine .goD fds [26] ?_
    refine .goD fds [27] ?_
    refine .done (by kernel_rfl) ⟨rfl, ?_, by repeat (first | exact Le.refl _ | refine Le.skip rfl ?_)⟩
    exact congrArg (fun x => some (Value.bool x)) ((decide_eq_decide.2 ⟨fun h => ⟨by omega, by omega, by rw [sameE_at hx hy]; exact decide_eq_true h⟩, fun h => of_decide_eq_true ((sameE_at hx hy).symm.trans h.2.2)⟩))
   ·
    replace hb2 := of_decide_eq_false hb2
    refine .goD fds [11, 12, 13, 14, 15, 16, 17, 18, 19, 20, 21, 22, 23, 24, 25, 26] ?_
    refine .goD fds [27] ?_
    refine .done (by kernel_rfl) ⟨rfl, ?_, by repeat (first | exact Le.refl _ | refine Le.skip rfl ?_)⟩
    exact congrArg (fun x => some (Value.bool x)) ((decide_eq_false fun h => hb2 (by omega)).symm)
  ·
   replace hb1 := of_decide_eq_false hb1
   refine .goD fds [3, 4, 5, 6, 7, 8] ?_
   refine .goD fds [9] ?_
   refine .goD fds [10, 11, 12, 13, 14, 15, 16, 17, 18, 19, 20, 21, 22, 23, 24, 25, 26] ?_
   refine .goD fds [27] ?_
   refine .done (by kernel_rfl) ⟨rfl, ?_, by repeat (first | exact Le.refl _ | refine Le.skip rfl ?_)⟩
   exact congrArg (fun x => some (Value.bool x)) ((decide_eq_false fun h => by omega).symm)
 refine .condP rfl (fun c2 => ?_) (fun c2 => ?_)
 ·
  refine .goO fds 4 ?_
  refine .rd (.sub rfl rfl (by omega) (by omega)) ?_
  refine .goR fds 3 ?_
  exact (ih (i - 1) ⟨by omega, by omega, by rw [← hlf, lateFrom_go (by omega) ⟨c2.1, c2.2.2⟩]; congr 1; omega⟩ (by omega)).to (.cons rfl (.cons rfl (.cons (by show some (Value.int .i64 _) = _; congr 2; omega) .nil))) (.cons .head .nil)
 ·
  have hend : lateN ns = i := by
   rw [← hlf]
   refine lateFrom_end ?_
   by_cases h5 : ns.length - i < 5
   ·
    exact .inr fun h => c2 ⟨h.1, h5, h.2⟩
   ·
    exact .inl (by omega)
  refine .goO fds 5 ?_
  refine .rd (.slice (l := i) (h := ns.length) (m := c) Tryz.underlying89 ts97 rfl rfl ⟨rfl, rfl⟩ ⟨_, rfl⟩ (by omega) (by omega) (Nat.le_refl _)) ?_
  refine .goR fds 2 ?_
  refine .retP Tryz.func43 (.cons (.tmp rfl) .nil) (.cons .head .nil) ?_
  exact ⟨[], ⟨by rw [latest_len, hend]; rfl, rfl⟩, rfl⟩
set_option maxHeartbeats 1000000 in
set_option maxRecDepth 20000 in
theorem tahead1_ok (bx : Nat) (x : Nt) (z : Int) : Cn Tryz.prog 121 [.agg (ntc x).toArray, .pointer (some ⟨bx, 0, none⟩)] (CellsAt bx 0 [.int .i64 z]) [] fun v G => v = .bool (decide (z ≤ x.off)) ∧ G = [] := by
 refine .enter Tryz.func121 rfl (by kernel_rfl) rfl fun R k => ?_
 refine .goO fds 2 ?_
 refine .ef (.box (l := ntc x) rfl rfl (ones.of rfl)) ?_
 rintro _ _ ⟨b2, rfl, rfl⟩
 refine .goO fds 5 ?_
 refine .rd (.ld na3 rfl .head rfl) ?_
 refine .rd (.load na3 rfl (Knows.one (i := 0) (Knows.pick (.tail .head) (k.mono fun _ h => h)) rfl)) ?_
 refine .goR fds 3 ?_
 refine .retP Tryz.func121 (.cons (.tmp rfl) .nil) (.cons (.tail .head) .nil) ?_
 exact ⟨[], ⟨rfl, rfl⟩, rfl⟩
set_option maxHeartbeats 1000000 in
set_option maxRecDepth 20000 in
theorem indexN_ok (ns : List Nt) (p : Nt → Bool) (φ : World → Prop) (f : FuncId) (cap : Array Value) (hf : ∀ x ∈ ns, Cn Tryz.prog f (.agg (ntc x).toArray :: cap.toList) φ [] fun v G => v = .bool (p x) ∧ G = []) (a : Option Addr) (c : Nat) (hl : ns.length ≤ 1000000000) : Cn Tryz.prog 120 [.slice a ns.length c, .func (.func f) #[] cap] (fun w => RowAt a (ns.flatMap ntc) w ∧ φ w) [] fun v G => v = .int .i64 (match ns.findIdx? p with | some k => (k : Int) | none => -1) ∧ G = [] := by
 refine .enter Tryz.func120 rfl (by kernel_rfl) rfl fun R k => ?_
 refine .goO fds 8 ?_
 refine .rd (.lenL rfl rfl Tryz.underlying89 rfl) ?_
 refine .goR fds 3 ?_
 refine .loop (σ := Nat) (fun i => i ≤ ns.length ∧ ∀ j y, j < i → ns[j]? = some y → p y = false) (fun i => ns.length - i) (fun i => [(0, .slice a ns.length c), (1, .func (.func f) #[] cap), (7, .int .i64 (ns.length : Nat)), (8, .int .i64 (i : Nat))]) (fun i => [R]) 0 ⟨Nat.zero_le _, fun j y h => absurd h (Nat.not_lt_zero j)⟩ (.cons rfl (.cons rfl (.cons rfl (.cons rfl .nil)))) (.cons .head .nil) (fun i hI ih => ?_)
 obtain ⟨hil, hno⟩ := hI
 refine .go fds 5 ?_
 refine .condP rfl (fun c2 => ?_) (fun c2 => ?_)
 ·
  refine .go fds 9 ?_
  obtain ⟨x, hx⟩ : ∃ x, ns[i]? = some x := ⟨_, List.getElem?_eq_getElem (by omega)⟩
  refine .tell (φ := ∃ b o, a = some ⟨b, o, none⟩) (Knows.pick .head (k.mono fun _ h => RowAt.addr h.1 (by rw [flat_length ntc_len]; omega))) (fun hh => ?_)
  obtain ⟨b9, o9, h9⟩ := hh
  refine .goO fds 4 ?_
  refine .rd (.indexAddr (b := b9) (o := o9) Tryz.underlying89 ts97 (by show some (Value.slice (a) _ _) = _; rw [h9]) rfl (by omega) (by omega)) ?_
  refine .rd (.loadN ia97 ts97 rfl rfl (Knows.elem (f := ntc) ntc_len (by decide) (Knows.pick .head (k.mono fun _ h => h9 ▸ h.1)) (hx))) ?_
  refine .fnC rfl rfl .nil (Knows.pick .head (k.mono fun _ h => h.2)) (hf x (List.mem_of_getElem? hx)) (fun v G1 hq => ?_)
  obtain ⟨rfl, rfl⟩ := hq
  simp only [List.nil_append]
  refine .nil ?_
  refine .cond rfl (fun c4 => ?_) (fun c4 => ?_)
  ·
   refine .go fds 5 ?_
   refine .retP Tryz.func120 (.cons (.tmp rfl) .nil) (.cons .head .nil) ?_
   exact ⟨[], ⟨by rw [findIdx_here hno hx c4]; rfl, rfl⟩, rfl⟩
  ·
   refine .goO fds 3 ?_
   refine .rd (.add rfl rfl (by omega) (by omega)) ?_
   refine .goR fds 2 ?_
   exact (ih (i + 1) ⟨by omega, fun j y hj hy => (Nat.lt_succ_iff_lt_or_eq.1 hj).elim (fun h => hno j y h hy) (fun h => by subst h; rw [hx] at hy; cases hy; exact c4)⟩ (by omega)).to (.cons rfl (.cons rfl (.cons rfl (.cons rfl .nil)))) (.cons .head .nil)
 ·
  refine .go fds 5 ?_
  refine .retP Tryz.func120 (.cons (.tmp rfl) .nil) (.cons .head .nil) ?_
  exact ⟨[], ⟨by rw [findIdx_take fun x hx => (by obtain ⟨j, hj⟩ := List.getElem?_of_mem hx; exact hno j x (by have := (List.getElem?_eq_some_iff.1 hj).1; omega) hj)]; rfl, rfl⟩, rfl⟩
set_option maxHeartbeats 1000000 in
set_option maxRecDepth 20000 in
theorem tahead_ok (a : Option Addr) (c : Nat) (ns : List Nt) (z : Int) (hl : ns.length ≤ 1000000000) : Cn Tryz.prog 77 [.slice a ns.length c, .int .i64 z] (RowAt a (ns.flatMap ntc)) [] fun v G => v = .int .i64 ((ahN z ns).length : Nat) ∧ G = [] := by
 refine .enter Tryz.func77 rfl (by kernel_rfl) rfl fun R k => ?_
 refine .goO fds 2 ?_
 refine .ef (.box (l := [.int .i64 z]) rfl rfl (ones.of rfl)) ?_
 rintro _ _ ⟨b3, rfl, rfl⟩
 refine .goO fds 5 ?_
 refine .rd (.makeFunc (cs := [.pointer (some ⟨b3, 0, none⟩)]) rfl rfl) ?_
 refine .fn rfl rfl .nil ((Knows.pick (.tail .head) k).and (Knows.blk .head)) (indexN_ok ns (fun x => decide (z ≤ x.off)) (CellsAt b3 0 [.int .i64 z]) 121 #[.pointer (some ⟨b3, 0, none⟩)] (fun x _ => tahead1_ok b3 x z) a c hl) (fun v G1 hq => ?_)
 obtain ⟨rfl, rfl⟩ := hq
 simp only [List.nil_append]
 refine .goR fds 8 ?_
 refine .condP rfl (fun c2 => ?_) (fun c2 => ?_)
 ·
  refine .goO fds 3 ?_
  refine .rd (.lenL rfl rfl Tryz.underlying89 rfl) ?_
  refine .goR fds 2 ?_
  refine .retP Tryz.func77 (.cons (.tmp rfl) .nil) (.cons (.tail .head) .nil) ?_
  exact ⟨[], ⟨by rw [← idx_ahead (off := z)]; rw [(show ns.findIdx? (fun x => decide (z ≤ x.off)) = none by cases h : ns.findIdx? (fun x => decide (z ≤ x.off)) with | none => rfl | some k => rw [h] at c2; exact absurd c2 (by show ¬ ((k : Int) < 0); omega))]; rfl, rfl⟩, rfl⟩
 ·
  refine .go fds 6 ?_
  refine .retP Tryz.func77 (.cons (.tmp rfl) .nil) (.cons (.tail .head) .nil) ?_
  exact ⟨[], ⟨by rw [← idx_ahead (off := z)]; obtain ⟨k, hk⟩ : ∃ k, ns.findIdx? (fun x => decide (z ≤ x.off)) = some k := (by cases h : ns.findIdx? (fun x => decide (z ≤ x.off)) with | none => rw [h] at c2; exact absurd (show (-1 : Int) < 0 by decide) c2 | some k => exact ⟨k, rfl⟩); rw [hk]; rfl, rfl⟩, rfl⟩
end Go.Proofs.YtoglbebcdjdkiaaGreatDoor
/- Chapter 6: texts of chapter 3 (wire) under this seat's numbers. -/
namespace Go.Proofs.YtoglbebcdjdkiaaGreatDoor
open Go Go.Sp
set_option linter.unusedVariables false
namespace wire2
end wire2
open wire2
set_option maxRecDepth 20000 in
theorem ReadInt_ok (l : List UInt8) (hl : l.length ≤ 9000000000000000000) : Cn Tryz.prog 115 [.string (str l)] (fun _ => True) [] fun v G => v = .tuple #[.int .i64 (rint l).1, .int .i64 ((rint l).2.1 : Nat), .int .i64 (rint l).2.2] ∧ G = [] := by
 refine .enter Tryz.func115 rfl (by kernel_rfl) rfl fun R k => ?_
 refine .go fds 16 ?_
 refine .loop (σ := Nat × Nat) (fun ⟨i, z⟩ => rintGo (10 - i) i z (l.drop i) = rint l ∧ z < 128 ^ i ∧ i ≤ 10 ∧ i ≤ l.length) (fun ⟨i, z⟩ => 10 - i) (fun ⟨i, z⟩ => [(0, .string (str l)), (5, .int .u64 (z : Int)), (7, .int .i64 (i : Nat))]) (fun ⟨i, z⟩ => [R]) (0, 0) ⟨rfl, by decide, Nat.zero_le _, Nat.zero_le _⟩ (.cons rfl (.cons rfl (.cons rfl .nil))) (.cons .head .nil) (fun s hI ih => ?_)
 obtain ⟨i, z⟩ := s
 dsimp only at hI ih ⊢
 have hi10 := hI.2.2.1
 have hil := hI.2.2.2
 refine .go fds 5 ?_
 refine .condP rfl (fun h3 => ?_) (fun h3 => ?_)
 ·
  refine .goO fds 14 ?_
  refine .rd (.lenT rfl rfl Tryz.underlying9 rfl) ?_
  refine .goR fds 3 ?_
  refine .condP rfl (fun h5 => ?_) (fun h5 => ?_)
  ·
   have hrv : (0, 0, 5) = rint l := by
    have := hI.1
    rw [show 10 - i = (10 - (i + 1)) + 1 by omega, List.drop_eq_nil_of_le (by omega)] at this
    exact this
   refine .go fds 6 ?_
   refine .retP Tryz.func115 (.cons (.tmp rfl) (.cons (.tmp rfl) (.cons (.tmp rfl) .nil))) (.cons .head .nil) ?_
   exact ⟨[], ⟨by rw [← hrv]; rfl, rfl⟩, rfl⟩
  ·
   have hlt : i < l.length := by omega
   obtain ⟨b, hb⟩ : ∃ b, l[i]? = some b := ⟨_, List.getElem?_eq_getElem hlt⟩
   have hdr : l.drop i = b :: l.drop (i + 1) := by rw [List.drop_eq_getElem_cons hlt]; congr 1; rw [List.getElem?_eq_getElem hlt] at hb; exact Option.some.inj hb
   have hb8 := b.toNat_lt
   have hgo := hI.1
   rw [show 10 - i = (10 - (i + 1)) + 1 by omega, hdr] at hgo
   unfold rintGo at hgo
   refine .goO fds 5 ?_
   refine .split (t := 18) rfl (fun h7 => ?_) (fun h7 => ?_)
   ·
    replace h7 := of_decide_eq_true h7
    refine .go fds 2 ?_
    refine .on (t := 18) rfl rfl ?_
    refine .rd (.indexT Tryz.underlying9 rfl rfl (by omega) hb) ?_
    refine .goR fds 4 ?_
    refine .condP rfl (fun h7b => ?_) (fun h7b => ?_)
    ·
     refine .seq ?_
     have hrv : (0, 0, 4) = rint l := by rw [← hgo, if_pos (by omega)]
     refine .go fds 5 ?_
     refine .retP Tryz.func115 (.cons (.tmp rfl) (.cons (.tmp rfl) (.cons (.tmp rfl) .nil))) (.cons .head .nil) ?_
     exact ⟨[], ⟨by rw [← hrv]; rfl, rfl⟩, rfl⟩
    ·
     refine .go fds 3 ?_
     have h9 : ¬ (i = 9 ∧ 1 < b.toNat) := by omega
     refine .goO fds 4 ?_
     refine .rd (.indexT Tryz.underlying9 rfl rfl (by omega) hb) ?_
     refine .rd (.and rfl rfl) ?_
     refine .rd (.convInt Tryz.underlying5 Tryz.underlying192 rfl) ?_
     refine .alter (t := 29) (v' := .int .u64 ((b.toNat % 128 : Nat) : Int)) rfl (by exact congrArg (Value.int .u64) (and127 b)) ?_
     refine .rd (.move rfl) ?_
     refine .rd (.mul rfl rfl (by omega) (by omega)) ?_
     refine .rd (.shl (n := 7 * i) rfl rfl) ?_
     refine .rd (.or rfl rfl) ?_
     refine .alter (t := 33) (v' := .int .u64 ((z + b.toNat % 128 * 128 ^ i : Nat) : Int)) rfl (by exact congrArg (Value.int .u64) (or_shift hI.2.1 (by omega) h9)) ?_
     refine .goO fds 7 ?_
     refine .rd (.indexT Tryz.underlying9 rfl rfl (by omega) hb) ?_
     refine .goR fds 3 ?_
     refine .condP rfl (fun h11 => ?_) (fun h11 => ?_)
     ·
      refine .goO fds 4 ?_
      refine .rd (.add rfl rfl (by omega) (by omega)) ?_
      refine .goR fds 2 ?_
      rw [if_neg h9, if_pos (by omega)] at hgo
      exact (ih (i + 1, z + b.toNat % 128 * 128 ^ i) ⟨hgo, z_next hI.2.1, by show i + 1 ≤ 10; omega, by show i + 1 ≤ l.length; omega⟩ (by show 10 - (i + 1) < 10 - i; omega)).to (.cons rfl (.cons rfl (.cons rfl .nil))) (.cons .head .nil)
     ·
      refine .goO fds 5 ?_
      refine .split (t := 52) rfl (fun h12 => ?_) (fun h12 => ?_)
      ·
       replace h12 := of_decide_eq_true h12
       refine .go fds 2 ?_
       refine .on (t := 52) rfl rfl ?_
       refine .rd (.indexT Tryz.underlying9 rfl rfl (by omega) hb) ?_
       refine .goR fds 4 ?_
       refine .condP rfl (fun h12b => ?_) (fun h12b => ?_)
       ·
        refine .seq ?_
        have hrv : (0, 0, 4) = rint l := by rw [← hgo, if_neg h9, if_neg (by omega), if_pos (by omega)]
        refine .go fds 5 ?_
        refine .retP Tryz.func115 (.cons (.tmp rfl) (.cons (.tmp rfl) (.cons (.tmp rfl) .nil))) (.cons .head .nil) ?_
        exact ⟨[], ⟨by rw [← hrv]; rfl, rfl⟩, rfl⟩
       ·
        refine .seq ?_
        have hrv : (zag (z + b.toNat % 128 * 128 ^ i), i + 1, 0) = rint l := by rw [← hgo, if_neg h9, if_neg (by omega), if_neg (by omega)]
        have hzf := z_fits hI.2.1 (by omega) h9
        refine .goO fds 2 ?_
        refine .rd (.shr (n := 1) rfl rfl) ?_
        refine .rd (.convInt Tryz.underlying192 Tryz.underlying3 rfl) ?_
        refine .rd (.move rfl) ?_
        refine .rd (.and rfl rfl) ?_
        refine .rd (.convInt Tryz.underlying192 Tryz.underlying3 rfl) ?_
        refine .rd (.negW rfl) ?_
        refine .rd (.xor rfl rfl) ?_
        refine .alter (t := 41) (v' := .int .i64 (zag (z + b.toNat % 128 * 128 ^ i))) rfl (by exact congrArg (Value.int .i64) (zag_bits hzf)) ?_
        refine .rd (.move rfl) ?_
        refine .rd (.add rfl rfl (by omega) (by omega)) ?_
        refine .goR fds 4 ?_
        refine .retP Tryz.func115 (.cons (.tmp rfl) (.cons (.tmp rfl) (.cons (.tmp rfl) .nil))) (.cons .head .nil) ?_
        exact ⟨[], ⟨by rw [← hrv]; rfl, rfl⟩, rfl⟩
      ·
       replace h12 := of_decide_eq_false h12
       refine .goR fds 9 ?_
       have hrv : (zag (z + b.toNat % 128 * 128 ^ i), i + 1, 0) = rint l := by rw [← hgo, if_neg h9, if_neg (by omega), if_neg (by omega)]
       have hzf := z_fits hI.2.1 (by omega) h9
       refine .goO fds 2 ?_
       refine .rd (.shr (n := 1) rfl rfl) ?_
       refine .rd (.convInt Tryz.underlying192 Tryz.underlying3 rfl) ?_
       refine .rd (.move rfl) ?_
       refine .rd (.and rfl rfl) ?_
       refine .rd (.convInt Tryz.underlying192 Tryz.underlying3 rfl) ?_
       refine .rd (.negW rfl) ?_
       refine .rd (.xor rfl rfl) ?_
       refine .alter (t := 41) (v' := .int .i64 (zag (z + b.toNat % 128 * 128 ^ i))) rfl (by exact congrArg (Value.int .i64) (zag_bits hzf)) ?_
       refine .rd (.move rfl) ?_
       refine .rd (.add rfl rfl (by omega) (by omega)) ?_
       refine .goR fds 4 ?_
       refine .retP Tryz.func115 (.cons (.tmp rfl) (.cons (.tmp rfl) (.cons (.tmp rfl) .nil))) (.cons .head .nil) ?_
       exact ⟨[], ⟨by rw [← hrv]; rfl, rfl⟩, rfl⟩
   ·
    replace h7 := of_decide_eq_false h7
    refine .goR fds 11 ?_
    have h9 : ¬ (i = 9 ∧ 1 < b.toNat) := by omega
    refine .goO fds 4 ?_
    refine .rd (.indexT Tryz.underlying9 rfl rfl (by omega) hb) ?_
    refine .rd (.and rfl rfl) ?_
    refine .rd (.convInt Tryz.underlying5 Tryz.underlying192 rfl) ?_
    refine .alter (t := 29) (v' := .int .u64 ((b.toNat % 128 : Nat) : Int)) rfl (by exact congrArg (Value.int .u64) (and127 b)) ?_
    refine .rd (.move rfl) ?_
    refine .rd (.mul rfl rfl (by omega) (by omega)) ?_
    refine .rd (.shl (n := 7 * i) rfl rfl) ?_
    refine .rd (.or rfl rfl) ?_
    refine .alter (t := 33) (v' := .int .u64 ((z + b.toNat % 128 * 128 ^ i : Nat) : Int)) rfl (by exact congrArg (Value.int .u64) (or_shift hI.2.1 (by omega) h9)) ?_
    refine .goO fds 7 ?_
    refine .rd (.indexT Tryz.underlying9 rfl rfl (by omega) hb) ?_
    refine .goR fds 3 ?_
    refine .condP rfl (fun h11 => ?_) (fun h11 => ?_)
    ·
     refine .goO fds 4 ?_
     refine .rd (.add rfl rfl (by omega) (by omega)) ?_
     refine .goR fds 2 ?_
     rw [if_neg h9, if_pos (by omega)] at hgo
     exact (ih (i + 1, z + b.toNat % 128 * 128 ^ i) ⟨hgo, z_next hI.2.1, by show i + 1 ≤ 10; omega, by show i + 1 ≤ l.length; omega⟩ (by show 10 - (i + 1) < 10 - i; omega)).to (.cons rfl (.cons rfl (.cons rfl .nil))) (.cons .head .nil)
    ·
     refine .goO fds 5 ?_
     refine .split (t := 52) rfl (fun h12 => ?_) (fun h12 => ?_)
     ·
      replace h12 := of_decide_eq_true h12
      refine .go fds 2 ?_
      refine .on (t := 52) rfl rfl ?_
      refine .rd (.indexT Tryz.underlying9 rfl rfl (by omega) hb) ?_
      refine .goR fds 4 ?_
      refine .condP rfl (fun h12b => ?_) (fun h12b => ?_)
      ·
       refine .seq ?_
       have hrv : (0, 0, 4) = rint l := by rw [← hgo, if_neg h9, if_neg (by omega), if_pos (by omega)]
       refine .go fds 5 ?_
       refine .retP Tryz.func115 (.cons (.tmp rfl) (.cons (.tmp rfl) (.cons (.tmp rfl) .nil))) (.cons .head .nil) ?_
       exact ⟨[], ⟨by rw [← hrv]; rfl, rfl⟩, rfl⟩
      ·
       refine .seq ?_
       have hrv : (zag (z + b.toNat % 128 * 128 ^ i), i + 1, 0) = rint l := by rw [← hgo, if_neg h9, if_neg (by omega), if_neg (by omega)]
       have hzf := z_fits hI.2.1 (by omega) h9
       refine .goO fds 2 ?_
       refine .rd (.shr (n := 1) rfl rfl) ?_
       refine .rd (.convInt Tryz.underlying192 Tryz.underlying3 rfl) ?_
       refine .rd (.move rfl) ?_
       refine .rd (.and rfl rfl) ?_
       refine .rd (.convInt Tryz.underlying192 Tryz.underlying3 rfl) ?_
       refine .rd (.negW rfl) ?_
       refine .rd (.xor rfl rfl) ?_
       refine .alter (t := 41) (v' := .int .i64 (zag (z + b.toNat % 128 * 128 ^ i))) rfl (by exact congrArg (Value.int .i64) (zag_bits hzf)) ?_
       refine .rd (.move rfl) ?_
       refine .rd (.add rfl rfl (by omega) (by omega)) ?_
       refine .goR fds 4 ?_
       refine .retP Tryz.func115 (.cons (.tmp rfl) (.cons (.tmp rfl) (.cons (.tmp rfl) .nil))) (.cons .head .nil) ?_
       exact ⟨[], ⟨by rw [← hrv]; rfl, rfl⟩, rfl⟩
     ·
      replace h12 := of_decide_eq_false h12
      refine .goR fds 9 ?_
      have hrv : (zag (z + b.toNat % 128 * 128 ^ i), i + 1, 0) = rint l := by rw [← hgo, if_neg h9, if_neg (by omega), if_neg (by omega)]
      have hzf := z_fits hI.2.1 (by omega) h9
      refine .goO fds 2 ?_
      refine .rd (.shr (n := 1) rfl rfl) ?_
      refine .rd (.convInt Tryz.underlying192 Tryz.underlying3 rfl) ?_
      refine .rd (.move rfl) ?_
      refine .rd (.and rfl rfl) ?_
      refine .rd (.convInt Tryz.underlying192 Tryz.underlying3 rfl) ?_
      refine .rd (.negW rfl) ?_
      refine .rd (.xor rfl rfl) ?_
      refine .alter (t := 41) (v' := .int .i64 (zag (z + b.toNat % 128 * 128 ^ i))) rfl (by exact congrArg (Value.int .i64) (zag_bits hzf)) ?_
      refine .rd (.move rfl) ?_
      refine .rd (.add rfl rfl (by omega) (by omega)) ?_
      refine .goR fds 4 ?_
      refine .retP Tryz.func115 (.cons (.tmp rfl) (.cons (.tmp rfl) (.cons (.tmp rfl) .nil))) (.cons .head .nil) ?_
      exact ⟨[], ⟨by rw [← hrv]; rfl, rfl⟩, rfl⟩
 ·
  refine .go fds 2 ?_
  have hrv : (0, 0, 4) = rint l := by
   have := hI.1
   rw [show 10 - i = 0 by omega] at this
   exact this
  refine .go fds 5 ?_
  refine .retP Tryz.func115 (.cons (.tmp rfl) (.cons (.tmp rfl) (.cons (.tmp rfl) .nil))) (.cons .head .nil) ?_
  exact ⟨[], ⟨by rw [← hrv]; rfl, rfl⟩, rfl⟩
end Go.Proofs.YtoglbebcdjdkiaaGreatDoor
/- Chapter 6: texts of chapter 3 (wire) under this seat's numbers. -/
namespace Go.Proofs.YtoglbebcdjdkiaaGreatDoor
open Go Go.Sp
set_option linter.unusedVariables false
namespace wire0
end wire0
open wire0
theorem crc_int (c : BitVec 32) : resVal [Value.int .i64 (IntKind.i64.wrap ((~~~ c).toNat : Int))] = .int .i64 ((~~~ c).toNat : Int) := by
 simp only [resVal]
 rw [wrap_i64 (by omega) (by have := (~~~ c).isLt; omega)]
set_option maxRecDepth 20000 in
theorem Crc_ok (l : List UInt8) (hl : l.length ≤ 9000000000000000000) : Cn Tryz.prog 97 [.string (str l)] (fun _ => True) [] fun v G => v = .int .i64 ((crc l).toNat : Int) ∧ G = [] := by
 refine .enter Tryz.func97 rfl (by kernel_rfl) rfl fun R k => ?_
 refine .goO fds 12 ?_
 refine .rd (.lenT rfl rfl Tryz.underlying9 rfl) ?_
 refine .goR fds 3 ?_
 refine .loop (σ := Nat) (fun i => i ≤ l.length) (fun i => l.length - i) (fun i => [(0, .string (str l)), (3, .int .u32 ((crcS (l.take i)).toNat : Int)), (6, .int .i64 l.length), (7, .int .i64 (i : Nat))]) (fun i => [R]) 0 (Nat.zero_le _) (.cons rfl (.cons rfl (.cons rfl (.cons rfl .nil)))) (.cons .head .nil) (fun i hI ih => ?_)
 have hI0 := hI
 have ih0 := ih
 refine .go fds 5 ?_
 refine .condP rfl (fun h3 => ?_) (fun h3 => ?_)
 ·
  refine .go fds 9 ?_
  have hlt : i < l.length := by omega
  obtain ⟨b, hb⟩ : ∃ b, l[i]? = some b := ⟨_, List.getElem?_eq_getElem hlt⟩
  refine .goO fds 4 ?_
  refine .rd (.indexT Tryz.underlying9 rfl rfl (by omega) hb) ?_
  refine .rd (.convInt (k := .u32) (j := .u8) (n := (b.toNat : Int)) Tryz.underlying5 Tryz.underlying196 rfl) ?_
  refine .alter (t := 14) (v' := .int .u32 ((BitVec.ofNat 32 b.toNat).toNat : Int)) rfl (by rw [u8_u32]) ?_
  refine .rd (.xorU (k := .u32) (a := (crcS (l.take i))) (b := BitVec.ofNat 32 b.toNat) rfl rfl rfl) ?_
  refine .goR fds 7 ?_
  refine .loop (σ := Nat × BitVec 32) (fun ⟨j, c⟩ => j ≤ 8 ∧ crcN (8 - j) c = crcB (crcS (l.take i)) b) (fun ⟨j, c⟩ => 8 - j) (fun ⟨j, c⟩ => [(0, .string (str l)), (3, .int .u32 (c.toNat : Int)), (6, .int .i64 l.length), (7, .int .i64 (i : Nat)), (16, .int .i64 (j : Nat))]) (fun ⟨j, c⟩ => [R]) (0, (crcS (l.take i)) ^^^ BitVec.ofNat 32 b.toNat) ⟨Nat.zero_le _, rfl⟩ (.cons rfl (.cons rfl (.cons rfl (.cons rfl (.cons rfl .nil))))) (.cons .head .nil) (fun s hI ih => ?_)
  obtain ⟨j, c⟩ := s
  dsimp only at hI ih ⊢
  have hj := hI.1
  refine .go fds 5 ?_
  refine .condP rfl (fun h7 => ?_) (fun h7 => ?_)
  ·
   refine .goO fds 5 ?_
   refine .rd (.shrU (k := .u32) (a := c) (n := 1) (by decide) rfl rfl) ?_
   refine .rd (.move rfl) ?_
   refine .rd (.andU (k := .u32) (a := c) (b := 1#32) rfl rfl rfl) ?_
   refine .rd (.negU (k := .u32) (a := (c &&& 1#32)) rfl rfl) ?_
   refine .rd (.andU (k := .u32) (a := 2197175160#32) (b := (-(c &&& 1#32))) rfl rfl rfl) ?_
   refine .rd (.xorU (k := .u32) (a := (c >>> 1)) (b := (2197175160#32 &&& -(c &&& 1#32))) rfl rfl rfl) ?_
   refine .goO fds 4 ?_
   refine .rd (.add rfl rfl (by omega) (by omega)) ?_
   refine .goR fds 2 ?_
   exact (ih (j + 1, crc1 c) ⟨by show j + 1 ≤ 8; omega, by show crcN (8 - (j + 1)) (crc1 c) = _; rw [← hI.2, show 8 - j = (8 - (j + 1)) + 1 by omega]; rfl⟩ (by show 8 - (j + 1) < 8 - j; omega)).to (.cons rfl (.cons rfl (.cons rfl (.cons rfl (.cons rfl .nil))))) (.cons .head .nil)
  ·
   have hc8 : c = crcB (crcS (l.take i)) b := by have := hI.2; rw [show 8 - j = 0 by omega] at this; exact this
   refine .goO fds 3 ?_
   refine .rd (.add rfl rfl (by omega) (by omega)) ?_
   refine .goR fds 2 ?_
   exact (ih0 (i + 1) (by omega) (by omega)).to (.cons rfl (.cons (by show _ = some (Value.int .u32 ((crcS (l.take (i + 1))).toNat : Int)); rw [crcS_snoc l i hb, ← hc8]; rfl) (.cons rfl (.cons rfl .nil)))) (.cons .head .nil)
 ·
  refine .goO fds 4 ?_
  refine .rd (.comU (k := .u32) (a := (crcS (l.take i))) rfl rfl) ?_
  refine .rd (.convInt (k := .i64) (j := .u32) (n := ((~~~ (crcS (l.take i))).toNat : Int)) Tryz.underlying196 Tryz.underlying3 rfl) ?_
  refine .goR fds 2 ?_
  refine .retP Tryz.func97 (.cons (.tmp rfl) .nil) (.cons .head .nil) ?_
  refine ⟨[], ⟨?_, rfl⟩, rfl⟩
  rw [List.take_of_length_le (by omega)]
  exact crc_int _
end Go.Proofs.YtoglbebcdjdkiaaGreatDoor
namespace Go.Proofs.YtoglbebcdjdkiaaGreatDoor
open Go Go.Sp
set_option linter.unusedVariables false
namespace ep0
theorem ti5 : TI Tryz.prog 5 1 1 (.int .u8 0) := .of (by kernel_rfl)
end ep0
open ep0
set_option maxRecDepth 20000 in
theorem Int_ok (n : Int) (hn : i64 n) : Cn Tryz.prog 59 [.int .i64 n] (fun _ => True) [] fun v G => v = .string (str (eint n)) ∧ G = [] := by
 refine .enter Tryz.func59 rfl (by kernel_rfl) rfl fun R k => ?_
 refine .go fds 4 ?_
 refine .nilArr 5 1 none ?_
 refine .goO fds 3 ?_
 refine .fn rfl rfl (.cons .head .nil) (fun _ _ _ => trivial) (appendInt_ok none 0 [] n hn (Nat.zero_le _)) (fun v G1 hq => ?_)
 obtain ⟨a', c', rfl, rfl⟩ := hq
 simp only [List.cons_append, List.nil_append]
 refine .rd (.bytesToStr (l := eint n) Tryz.underlying115 Tryz.underlying5 Tryz.underlying9 rfl rfl (Knows.arr .head)) ?_
 refine .goR fds 2 ?_
 refine .retP Tryz.func59 (.cons (.tmp rfl) .nil) (.cons (.tail .head) .nil) ?_
 exact ⟨[], ⟨rfl, rfl⟩, rfl⟩
set_option maxRecDepth 20000 in
theorem esum_ok (l : List UInt8) (hl : l.length ≤ 1000000000000) : Cn Tryz.prog 113 [.string (str l)] (fun _ => True) [] fun v G => v = .string (str (fours (crc l).toNat)) ∧ G = [] := by
 refine .enter Tryz.func113 rfl (by kernel_rfl) rfl fun R k => ?_
 refine .goO fds 7 ?_
 refine .fn rfl rfl .nil (fun _ _ _ => trivial) (Crc_ok l (by omega)) (fun v G1 hq => ?_)
 obtain ⟨rfl, rfl⟩ := hq
 simp only [List.nil_append]
 refine .goO fds 5 ?_
 refine .rd (.shr (n := 24) rfl rfl) ?_
 refine .rd (.convInt Tryz.underlying3 Tryz.underlying5 rfl) ?_
 refine .alter (t := 8) (v' := .int .u8 ((UInt8.ofNat ((crc l).toNat / 2 ^ 24 % 256)).toNat : Int)) rfl (by exact shr_byte (crc l).toNat 24 (by decide)) ?_
 refine .rd (.move rfl) ?_
 refine .rd (.shr (n := 16) rfl rfl) ?_
 refine .rd (.convInt Tryz.underlying3 Tryz.underlying5 rfl) ?_
 refine .alter (t := 11) (v' := .int .u8 ((UInt8.ofNat ((crc l).toNat / 2 ^ 16 % 256)).toNat : Int)) rfl (by exact shr_byte (crc l).toNat 16 (by decide)) ?_
 refine .rd (.move rfl) ?_
 refine .rd (.shr (n := 8) rfl rfl) ?_
 refine .rd (.convInt Tryz.underlying3 Tryz.underlying5 rfl) ?_
 refine .alter (t := 14) (v' := .int .u8 ((UInt8.ofNat ((crc l).toNat / 2 ^ 8 % 256)).toNat : Int)) rfl (by exact shr_byte (crc l).toNat 8 (by decide)) ?_
 refine .rd (.move rfl) ?_
 refine .rd (.convInt Tryz.underlying3 Tryz.underlying5 rfl) ?_
 refine .alter (t := 16) (v' := .int .u8 ((UInt8.ofNat ((crc l).toNat % 256)).toNat : Int)) rfl (by exact low_byte (crc l).toNat) ?_
 refine .ef (.buildSlice (n := 4) (cs := bcs (fours (crc l).toNat)) Tryz.underlying115 ti5 rfl (by decide) (fill4 _ _ _ _) (ones.of rfl)) ?_
 rintro _ _ ⟨bs, rfl, rfl⟩
 refine .rd (.bytesToStr (l := fours (crc l).toNat) Tryz.underlying115 Tryz.underlying5 Tryz.underlying9 rfl rfl (.mono (Knows.blk .head) fun _ h => .inr ⟨bs, 0, rfl, h⟩)) ?_
 refine .goR fds 2 ?_
 refine .retP Tryz.func113 (.cons (.tmp rfl) .nil) (.cons (.tail .head) .nil) ?_
 exact ⟨[], ⟨rfl, rfl⟩, rfl⟩
set_option maxRecDepth 20000 in
theorem tsum_ok (a : Option Addr) (c : Nat) (l : List UInt8) (hl : l.length ≤ 1000000000000) : Cn Tryz.prog 62 [.slice a l.length c] (RowAt a (bcs l)) [] fun v G => ∃ b, v = .slice (some ⟨b, 0, none⟩) 4 4 ∧ G = [arr 5 1 (some ⟨b, 0, none⟩) 4 (bcs (fours (crc l).toNat))] := by
 refine .enter Tryz.func62 rfl (by kernel_rfl) rfl fun R k => ?_
 refine .goO fds 7 ?_
 refine .rd (.bytesToStr (l := l) Tryz.underlying115 Tryz.underlying5 Tryz.underlying9 rfl rfl (Knows.pick .head k)) ?_
 refine .fn rfl rfl .nil (fun _ _ _ => trivial) (Crc_ok l (by omega)) (fun v G1 hq => ?_)
 obtain ⟨rfl, rfl⟩ := hq
 simp only [List.nil_append]
 refine .goO fds 5 ?_
 refine .rd (.shr (n := 24) rfl rfl) ?_
 refine .rd (.convInt Tryz.underlying3 Tryz.underlying5 rfl) ?_
 refine .alter (t := 9) (v' := .int .u8 ((UInt8.ofNat ((crc l).toNat / 2 ^ 24 % 256)).toNat : Int)) rfl (by exact shr_byte (crc l).toNat 24 (by decide)) ?_
 refine .rd (.move rfl) ?_
 refine .rd (.shr (n := 16) rfl rfl) ?_
 refine .rd (.convInt Tryz.underlying3 Tryz.underlying5 rfl) ?_
 refine .alter (t := 12) (v' := .int .u8 ((UInt8.ofNat ((crc l).toNat / 2 ^ 16 % 256)).toNat : Int)) rfl (by exact shr_byte (crc l).toNat 16 (by decide)) ?_
 refine .rd (.move rfl) ?_
 refine .rd (.shr (n := 8) rfl rfl) ?_
 refine .rd (.convInt Tryz.underlying3 Tryz.underlying5 rfl) ?_
 refine .alter (t := 15) (v' := .int .u8 ((UInt8.ofNat ((crc l).toNat / 2 ^ 8 % 256)).toNat : Int)) rfl (by exact shr_byte (crc l).toNat 8 (by decide)) ?_
 refine .rd (.move rfl) ?_
 refine .rd (.convInt Tryz.underlying3 Tryz.underlying5 rfl) ?_
 refine .alter (t := 17) (v' := .int .u8 ((UInt8.ofNat ((crc l).toNat % 256)).toNat : Int)) rfl (by exact low_byte (crc l).toNat) ?_
 refine .ef (.buildSlice (n := 4) (cs := bcs (fours (crc l).toNat)) Tryz.underlying115 ti5 rfl (by decide) (fill4 _ _ _ _) (ones.of rfl)) ?_
 rintro _ _ ⟨bs, rfl, rfl⟩
 refine .goR fds 2 ?_
 refine .close (X := arr 5 1 (some ⟨bs, 0, none⟩) 4 (bcs (fours (crc l).toNat))) (.cons .head .nil) (fun h H => by obtain ⟨h1, _, _, l, _, H', _⟩ := H; exact blk.arr_all rfl (blk_mono l H')) ?_
 refine .retP Tryz.func62 (.cons (.tmp rfl) .nil) (.cons .head (.cons .head .nil)) ?_
 exact ⟨[_], ⟨bs, rfl, rfl⟩, rfl⟩
set_option maxRecDepth 20000 in
noncomputable instance (n : Int) : Decidable (mayN n) := by unfold mayN; exact inferInstance
set_option maxRecDepth 20000 in
theorem may_ok (n : Int) : Cn Tryz.prog 74 [.int .i64 n] (fun _ => True) [] fun v G => v = .bool (decide (mayN n)) ∧ G = [] := by
 refine .enter Tryz.func74 rfl (by kernel_rfl) rfl fun R k => ?_
 refine .goO fds 9 ?_
 refine .split (t := 5) rfl (fun h2 => ?_) (fun h2 => ?_)
 ·
  replace h2 := of_decide_eq_true h2
  refine .goR fds 5 ?_
  refine .retP Tryz.func74 (.cons (.tmp rfl) .nil) (.cons .head .nil) ?_
  exact ⟨[], ⟨congrArg Value.bool (by unfold mayN; simp [h2]), rfl⟩, rfl⟩
 ·
  replace h2 := of_decide_eq_false h2
  refine .goR fds 5 ?_
  refine .retP Tryz.func74 (.cons (.tmp rfl) .nil) (.cons .head .nil) ?_
  exact ⟨[], ⟨congrArg Value.bool (by unfold mayN; simp [h2]), rfl⟩, rfl⟩
set_option maxRecDepth 20000 in
theorem dwithin_ok (n m : Int) : Cn Tryz.prog 42 [.int .i64 n, .int .i64 m] (fun _ => True) [] fun v G => v = .bool (decide (0 ≤ n ∧ n ≤ m)) ∧ G = [] := by
 refine .enter Tryz.func42 rfl (by kernel_rfl) rfl fun R k => ?_
 refine .goO fds 9 ?_
 refine .split (t := 7) rfl (fun h2 => ?_) (fun h2 => ?_)
 ·
  replace h2 := of_decide_eq_true h2
  refine .goR fds 6 ?_
  refine .retP Tryz.func42 (.cons (.tmp rfl) .nil) (.cons .head .nil) ?_
  exact ⟨[], ⟨by simp only [resVal]; congr 1; simp [h2], rfl⟩, rfl⟩
 ·
  replace h2 := of_decide_eq_false h2
  refine .goR fds 6 ?_
  refine .retP Tryz.func42 (.cons (.tmp rfl) .nil) (.cons .head .nil) ?_
  exact ⟨[], ⟨by simp only [resVal]; congr 1; simp [h2], rfl⟩, rfl⟩
end Go.Proofs.YtoglbebcdjdkiaaGreatDoor
namespace Go.Proofs.YtoglbebcdjdkiaaGreatDoor
open Go Go.Sp
set_option linter.unusedVariables false
namespace td2
theorem na3 : NotAgg Tryz.prog 3 := ⟨_, Tryz.underlying3, trivial⟩
theorem na91 : NotAgg Tryz.prog 91 := ⟨_, Tryz.underlying91, trivial⟩
theorem ti89 : TI Tryz.prog 89 1 24 (.slice none 0 0) := .of (by kernel_rfl)
theorem ts97 : TS Tryz.prog 97 4 := .of (by kernel_rfl)
theorem ia97 : IsAgg Tryz.prog 97 := ⟨_, Tryz.underlying97, trivial⟩
theorem ti97 : TI Tryz.prog 97 4 32 (.agg #[.int .i64 0, .int .i64 0, .int .i64 0, .int .i64 0]) := .of (by kernel_rfl)
theorem ia95 : IsAgg Tryz.prog 95 := ⟨_, Tryz.underlying95, trivial⟩
theorem ts95 : TS Tryz.prog 95 3 := .of (by kernel_rfl)
theorem bld95_0_1_2 (x0 : Int) (x1 : Int) (x2 : Int) (w : World) : (Instr.build 95 (([0, 1, 2] : List Nat).zip [.int .i64 x0, .int .i64 x1, .int .i64 x2]).toArray).run Tryz.prog w = .ok (.agg #[.int .i64 x0, .int .i64 x1, .int .i64 x2]) w := by kernel_rfl
end td2
open td2
theorem speq (a b c d e f : Int) : EqV Tryz.prog 2 95 (.agg #[.int .i64 a, .int .i64 b, .int .i64 c]) (.agg #[.int .i64 d, .int .i64 e, .int .i64 f]) (decide (a = d ∧ b = e ∧ c = f)) := by
 have h : EqV Tryz.prog 2 95 (.agg #[.int .i64 a, .int .i64 b, .int .i64 c]) (.agg #[.int .i64 d, .int .i64 e, .int .i64 f]) (decide (a = d) && (decide (b = e) && (decide (c = f) && true))) :=
  .struct Tryz.underlying95 (by kernel_rfl) (.cons (by decide) (part1 na3 rfl) (part1 na3 rfl) (.int Tryz.underlying3) (.cons (by decide) (part1 na3 rfl) (part1 na3 rfl) (.int Tryz.underlying3) (.cons (by decide) (part1 na3 rfl) (part1 na3 rfl) (.int Tryz.underlying3) .nil)))
 have e : (decide (a = d) && (decide (b = e) && (decide (c = f) && true))) = decide (a = d ∧ b = e ∧ c = f) := by
  rw [Bool.eq_iff_iff]; simp
 rwa [e] at h
theorem knowsLatest {m : TM} {Γ Γ' : List SProp} (p : Pick (bag tva m) Γ Γ') (q : Int) {la : Option Addr} (h : la = if (ent m q).c = lateN (ent m q).ns then (ent m q).a else (ent m q).a.map (·.add (lateN (ent m q).ns * 4))) : Knows Γ (RowAt la ((latest (ent m q).ns).flatMap ntc)) := (Knows.ent p q).mono fun w hw => by
 rw [h]; exact hw.1.tailF ntc_len (by decide) (lateN _) (lateN_le _) hw.2
theorem CellsAt.three {b : Nat} {p q r s : Value} {w : World} (h : CellsAt b 0 [p, q, r, s] w) : CellsAt b 0 [p, q, r] w :=
 ⟨fun i v hv => h.1 i v (by match i, hv with | 0, h => exact h | 1, h => exact h | 2, h => exact h), fun v hv => h.2 v (List.mem_append_left [s] hv)⟩
theorem or_ne {x y : Int} {z : Int} (h : z = 0 ↔ x = 0 ∧ y = 0) : (!decide (z = 0)) = decide (x ≠ 0 ∨ y ≠ 0) := by
 rw [← decide_not]; exact decide_eq_decide.2 ⟨fun a => Classical.byContradiction fun b => a (h.2 ⟨Classical.byContradiction fun c => b (.inl c), Classical.byContradiction fun c => b (.inr c)⟩), fun a b => by have := h.1 b; omega⟩
set_option maxHeartbeats 2000000 in
set_option maxRecDepth 20000 in
theorem Ask_ok (t : Tb) (pid ep seq n : Int) (hT : TabOk (pur t.m)) (hpid : i64 pid) (hep : i64 ep) (hseq : i64 seq) (hn : i64 n) : Cn Tryz.prog 12 [.pointer (some ⟨t.tb, 0, none⟩), .int .i64 pid, .int .i64 ep, .int .i64 seq, .int .i64 n] (fun _ => True) [TG t] fun v G => v = .tuple #[.int .i64 (ask (pur t.m) pid ep seq n).1, .int .i64 (ask (pur t.m) pid ep seq n).2] ∧ G = [TG t] := by
 refine .enter Tryz.func12 rfl (by kernel_rfl) rfl fun R k => ?_
 refine .unpack (L := [blk t.tb [.map (some t.mb)] 93, mp pidv tvv t.mb t.m, bag tva t.m]) .head ?_
 simp only [List.cons_append, List.nil_append]
 have hor := orI_zero hep hseq
 have hN := hT.notes pid
 rw [pur_ent] at hN
 have hNl := hN.2
 refine .goO fds 9 ?_
 refine RunO.join 32 17 (decide (askBad pid ep seq n)) ?_ ?_
 ·
  refine .rd (.move rfl) ?_
  refine .fn rfl rfl .nil (fun _ _ _ => trivial) (dwithin_ok pid 1000000000) (fun v G1 hq => ?_)
  obtain ⟨rfl, rfl⟩ := hq
  simp only [List.nil_append]
  refine .go fds 2 ?_
  refine .split (t := 21) rfl (fun g3 => ?_) (fun g3 => ?_)
  ·
   replace g3 := of_decide_eq_false (Bool.not_eq_true' _ ▸ g3)
   refine .go fds 20 ?_
   refine .offU (t := 39) rfl rfl rfl rfl ?_
   refine .offX (t := 42) rfl rfl rfl ?_
   refine .offX (t := 42) rfl rfl rfl ?_
   refine .offX (t := 42) rfl rfl rfl ?_
   refine .offX (t := 42) rfl rfl rfl ?_
   refine .go fds 3 ?_
   refine .nil ⟨rfl, ?_, by repeat (first | exact Le.refl _ | refine Le.skip rfl ?_)⟩
   exact congrArg (fun x => some (Value.bool x)) ((decide_eq_true (by unfold askBad; omega)).symm)
  ·
   replace g3 := of_decide_eq_true (Bool.not_eq_false' _ ▸ g3)
   refine .go fds 1 ?_
   refine .on (t := 21) rfl rfl ?_
   refine .fn rfl rfl .nil (fun _ _ _ => trivial) (dwithin_ok ep 1000000000) (fun v G1 hq => ?_)
   obtain ⟨rfl, rfl⟩ := hq
   simp only [List.nil_append]
   refine .go fds 3 ?_
   refine .split (t := 26) rfl (fun g8 => ?_) (fun g8 => ?_)
   ·
    replace g8 := of_decide_eq_false (Bool.not_eq_true' _ ▸ g8)
    refine .go fds 15 ?_
    refine .offU (t := 39) rfl rfl rfl rfl ?_
    refine .offX (t := 42) rfl rfl rfl ?_
    refine .offX (t := 42) rfl rfl rfl ?_
    refine .offX (t := 42) rfl rfl rfl ?_
    refine .offX (t := 42) rfl rfl rfl ?_
    refine .go fds 3 ?_
    refine .nil ⟨rfl, ?_, by repeat (first | exact Le.refl _ | refine Le.skip rfl ?_)⟩
    exact congrArg (fun x => some (Value.bool x)) ((decide_eq_true (by unfold askBad; omega)).symm)
   ·
    replace g8 := of_decide_eq_true (Bool.not_eq_false' _ ▸ g8)
    refine .go fds 1 ?_
    refine .on (t := 26) rfl rfl ?_
    refine .fn rfl rfl .nil (fun _ _ _ => trivial) (dwithin_ok seq 1000000000) (fun v G1 hq => ?_)
    obtain ⟨rfl, rfl⟩ := hq
    simp only [List.nil_append]
    refine .go fds 3 ?_
    refine .split (t := 31) rfl (fun g13 => ?_) (fun g13 => ?_)
    ·
     replace g13 := of_decide_eq_false (Bool.not_eq_true' _ ▸ g13)
     refine .go fds 10 ?_
     refine .offU (t := 39) rfl rfl rfl rfl ?_
     refine .offX (t := 42) rfl rfl rfl ?_
     refine .offX (t := 42) rfl rfl rfl ?_
     refine .offX (t := 42) rfl rfl rfl ?_
     refine .offX (t := 42) rfl rfl rfl ?_
     refine .go fds 3 ?_
     refine .nil ⟨rfl, ?_, by repeat (first | exact Le.refl _ | refine Le.skip rfl ?_)⟩
     exact congrArg (fun x => some (Value.bool x)) ((decide_eq_true (by unfold askBad; omega)).symm)
    ·
     replace g13 := of_decide_eq_true (Bool.not_eq_false' _ ▸ g13)
     refine .go fds 4 ?_
     refine .split (t := 35) rfl (fun g17 => ?_) (fun g17 => ?_)
     ·
      replace g17 := of_decide_eq_true g17
      refine .go fds 6 ?_
      refine .offU (t := 39) rfl rfl rfl rfl ?_
      refine .offX (t := 42) rfl rfl rfl ?_
      refine .offX (t := 42) rfl rfl rfl ?_
      refine .offX (t := 42) rfl rfl rfl ?_
      refine .offX (t := 42) rfl rfl rfl ?_
      refine .go fds 3 ?_
      refine .nil ⟨rfl, ?_, by repeat (first | exact Le.refl _ | refine Le.skip rfl ?_)⟩
      exact congrArg (fun x => some (Value.bool x)) ((decide_eq_true (by unfold askBad; omega)).symm)
     ·
      replace g17 := of_decide_eq_false g17
      refine .go fds 4 ?_
      refine .split (t := 39) rfl (fun g21 => ?_) (fun g21 => ?_)
      ·
       replace g21 := of_decide_eq_true g21
       refine .go fds 2 ?_
       refine .offU (t := 39) rfl rfl rfl rfl ?_
       refine .offX (t := 42) rfl rfl rfl ?_
       refine .offX (t := 42) rfl rfl rfl ?_
       refine .offX (t := 42) rfl rfl rfl ?_
       refine .offX (t := 42) rfl rfl rfl ?_
       refine .go fds 3 ?_
       refine .nil ⟨rfl, ?_, by repeat (first | exact Le.refl _ | refine Le.skip rfl ?_)⟩
       exact congrArg (fun x => some (Value.bool x)) ((decide_eq_true (by unfold askBad; omega)).symm)
      ·
       replace g21 := of_decide_eq_false g21
       refine .go fds 3 ?_
       refine .split (t := 42) rfl (fun g24 => ?_) (fun g24 => ?_)
       ·
        replace g24 := of_decide_eq_true g24
        refine .go fds 2 ?_
        refine .on (t := 42) rfl rfl ?_
        refine .rd (.or rfl rfl) ?_
        refine .alter (t := 45) (v' := .int .i64 (orI ep seq)) rfl (rfl) ?_
        refine .go fds 1 ?_
        refine .alter (t := 46) (v' := .bool (decide (ep ≠ 0 ∨ seq ≠ 0))) rfl (congrArg Value.bool (or_ne hor)) ?_
        refine .go fds 3 ?_
        refine .nil ⟨rfl, ?_, by repeat (first | exact Le.refl _ | refine Le.skip rfl ?_)⟩
        exact congrArg (fun x => some (Value.bool x)) (decide_eq_decide.2 ⟨fun h => by unfold askBad; omega, fun h => by unfold askBad at h; omega⟩)
       ·
        replace g24 := of_decide_eq_false g24
        refine .go fds 7 ?_
        refine .nil ⟨rfl, ?_, by repeat (first | exact Le.refl _ | refine Le.skip rfl ?_)⟩
        exact congrArg (fun x => some (Value.bool x)) ((decide_eq_false fun h => by unfold askBad at h; omega).symm)
 refine .nil ?_
 refine .condP rfl (fun hbad => ?_) (fun hbad => ?_)
 ·
  refine .go fds 5 ?_
  refine .pack (L := [blk t.tb [.map (some t.mb)] 93, mp pidv tvv t.mb t.m, bag tva t.m]) (.cons .head (.cons .head (.cons .head .nil))) ?_
  have hfin : ask (pur t.m) pid ep seq n = (-1, 1) := by unfold ask; rw [if_pos hbad]
  refine .retP Tryz.func12 (.cons (.tmp rfl) (.cons (.tmp rfl) .nil)) (.cons .head (.cons .head .nil)) ?_
  exact ⟨[_], ⟨by rw [hfin]; rfl, rfl⟩, rfl⟩
 ·
  have hbb := hbad
  unfold askBad at hbb
  refine .go fds 6 ?_
  refine .condP rfl (fun hp0 => ?_) (fun hp0 => ?_)
  ·
   refine .go fds 5 ?_
   refine .pack (L := [blk t.tb [.map (some t.mb)] 93, mp pidv tvv t.mb t.m, bag tva t.m]) (.cons .head (.cons .head (.cons .head .nil))) ?_
   have hfin : ask (pur t.m) pid ep seq n = (-1, 0) := by unfold ask; rw [if_neg hbad, if_pos hp0]
   refine .retP Tryz.func12 (.cons (.tmp rfl) (.cons (.tmp rfl) .nil)) (.cons .head (.cons .head .nil)) ?_
   exact ⟨[_], ⟨by rw [hfin]; rfl, rfl⟩, rfl⟩
  ·
   refine .goO fds 4 ?_
   refine .rd (.sub rfl rfl (by omega) (by omega)) ?_
   refine .rd (.add rfl rfl (by omega) (by omega)) ?_
   refine .goR fds 3 ?_
   refine .condP rfl (fun hov => ?_) (fun hov => ?_)
   ·
    refine .go fds 5 ?_
    refine .pack (L := [blk t.tb [.map (some t.mb)] 93, mp pidv tvv t.mb t.m, bag tva t.m]) (.cons .head (.cons .head (.cons .head .nil))) ?_
    have hfin : ask (pur t.m) pid ep seq n = (-1, 20) := by unfold ask; rw [if_neg hbad, if_neg hp0, if_pos hov]
    refine .retP Tryz.func12 (.cons (.tmp rfl) (.cons (.tmp rfl) .nil)) (.cons .head (.cons .head .nil)) ?_
    exact ⟨[_], ⟨by rw [hfin]; rfl, rfl⟩, rfl⟩
   ·
    refine .goO fds 7 ?_
    refine .rd (.ld na91 rfl .head rfl) ?_
    refine .rd (.move rfl) ?_
    refine .rd (.lookup (q := pid) klI Tryz.underlying91 (fun w => ti89.zero w) rfl rfl (.tail .head)) ?_
    refine .alter (t := 63) (v' := .slice (ent t.m pid).a (ent t.m pid).ns.length (ent t.m pid).c) rfl (lkT t.m pid) ?_
    refine .tell ((Knows.ent (.tail (.tail .head)) pid).mono fun _ h => h.2) (fun hcap => ?_)
    refine .fn rfl rfl .nil ((Knows.ent (.tail (.tail .head)) pid).mono fun _ h => h.1) (latest_ok (ent t.m pid).a (ent t.m pid).c (ent t.m pid).ns hcap (by omega)) (fun v G1 hq => ?_)
    obtain ⟨rfl, rfl⟩ := hq
    simp only [List.nil_append]
    obtain ⟨la, hla⟩ : ∃ la, la = if (ent t.m pid).c = lateN (ent t.m pid).ns then (ent t.m pid).a else (ent t.m pid).a.map (·.add (lateN (ent t.m pid).ns * 4)) := ⟨_, rfl⟩
    refine .alter (t := 64) (v' := .slice la (latest (ent t.m pid).ns).length ((ent t.m pid).c - lateN (ent t.m pid).ns)) rfl (by rw [hla]) ?_
    have hLl := latest_len (ent t.m pid).ns
    refine .goO fds 6 ?_
    refine .rd (.lenL rfl rfl Tryz.underlying89 rfl) ?_
    refine .go fds 2 ?_
    refine .split (t := 68) rfl (fun g8 => ?_) (fun g8 => ?_)
    ·
     replace g8 := of_decide_eq_true g8
     have hnil : (latest (ent t.m pid).ns) = [] := List.eq_nil_of_length_eq_zero (by omega)
     refine .goR fds 16 ?_
     refine .condP rfl (fun h9b => ?_) (fun h9b => ?_)
     ·
      refine .go fds 5 ?_
      refine .pack (L := [blk t.tb [.map (some t.mb)] 93, mp pidv tvv t.mb t.m, bag tva t.m]) (.cons .head (.cons .head (.cons .head .nil))) ?_
      have hfin : ask (pur t.m) pid ep seq n = (-1, 11) := by rw [ask_of hbad hp0 hov, pur_ent, askL1 (.inl hnil), if_pos (by omega)]
      refine .retP Tryz.func12 (.cons (.tmp rfl) (.cons (.tmp rfl) .nil)) (.cons .head (.cons .head .nil)) ?_
      exact ⟨[_], ⟨by rw [hfin]; rfl, rfl⟩, rfl⟩
     ·
      refine .go fds 6 ?_
      refine .pack (L := [blk t.tb [.map (some t.mb)] 93, mp pidv tvv t.mb t.m, bag tva t.m]) (.cons .head (.cons .head (.cons .head .nil))) ?_
      have hfin : ask (pur t.m) pid ep seq n = (-1, 0) := by rw [ask_of hbad hp0 hov, pur_ent, askL1 (.inl hnil), if_neg (by omega)]
      refine .retP Tryz.func12 (.cons (.tmp rfl) (.cons (.tmp rfl) .nil)) (.cons .head (.cons .head .nil)) ?_
      exact ⟨[_], ⟨by rw [hfin]; rfl, rfl⟩, rfl⟩
    ·
     replace g8 := of_decide_eq_false g8
     obtain ⟨x0, hx0⟩ : ∃ x, (latest (ent t.m pid).ns)[0]? = some x := ⟨_, List.getElem?_eq_getElem (by omega)⟩
     refine .tell (φ := ∃ b o, la = some ⟨b, o, none⟩) ((knowsLatest (.tail (.tail .head)) pid hla).mono fun _ h => RowAt.addr h (by rw [flat_length ntc_len]; omega)) (fun hh => ?_)
     obtain ⟨b9, o9, h9⟩ := hh
     refine .go fds 2 ?_
     refine .on (t := 68) rfl rfl ?_
     refine .rd (.indexAddr (b := b9) (o := o9) Tryz.underlying89 ts97 (by show some (Value.slice (la) _ _) = _; rw [h9]) rfl (by omega) (by omega)) ?_
     refine .go fds 2 ?_
     refine .on (t := 68) rfl rfl ?_
     refine .rd (.load na3 rfl (Knows.one (i := 0) (Knows.elem (f := ntc) ntc_len (by decide) ((knowsLatest (.tail (.tail .head)) pid hla).mono fun _ h => h9 ▸ h) (hx0)) rfl)) ?_
     refine .goR fds 3 ?_
     refine .condP rfl (fun h8 => ?_) (fun h8 => ?_)
     ·
      refine .go fds 6 ?_
      refine .condP rfl (fun h9b => ?_) (fun h9b => ?_)
      ·
       refine .go fds 5 ?_
       refine .pack (L := [blk t.tb [.map (some t.mb)] 93, mp pidv tvv t.mb t.m, bag tva t.m]) (.cons .head (.cons .head (.cons .head .nil))) ?_
       have hfin : ask (pur t.m) pid ep seq n = (-1, 11) := by rw [ask_of hbad hp0 hov, pur_ent, askL1 (.inr ⟨x0, hx0, h8⟩), if_pos (by omega)]
       refine .retP Tryz.func12 (.cons (.tmp rfl) (.cons (.tmp rfl) .nil)) (.cons .head (.cons .head .nil)) ?_
       exact ⟨[_], ⟨by rw [hfin]; rfl, rfl⟩, rfl⟩
      ·
       refine .go fds 6 ?_
       refine .pack (L := [blk t.tb [.map (some t.mb)] 93, mp pidv tvv t.mb t.m, bag tva t.m]) (.cons .head (.cons .head (.cons .head .nil))) ?_
       have hfin : ask (pur t.m) pid ep seq n = (-1, 0) := by rw [ask_of hbad hp0 hov, pur_ent, askL1 (.inr ⟨x0, hx0, h8⟩), if_neg (by omega)]
       refine .retP Tryz.func12 (.cons (.tmp rfl) (.cons (.tmp rfl) .nil)) (.cons .head (.cons .head .nil)) ?_
       exact ⟨[_], ⟨by rw [hfin]; rfl, rfl⟩, rfl⟩
     ·
      refine .goO fds 6 ?_
      refine .rd (.indexAddr (b := b9) (o := o9) Tryz.underlying89 ts97 (by show some (Value.slice (la) _ _) = _; rw [h9]) rfl (by omega) (by omega)) ?_
      refine .go fds 2 ?_
      refine .rd (.load na3 rfl (Knows.one (i := 0) (Knows.elem (f := ntc) ntc_len (by decide) ((knowsLatest (.tail (.tail .head)) pid hla).mono fun _ h => h9 ▸ h) (hx0)) rfl)) ?_
      refine .goR fds 2 ?_
      refine .condP rfl (fun h12 => ?_) (fun h12 => ?_)
      ·
       refine .go fds 5 ?_
       refine .pack (L := [blk t.tb [.map (some t.mb)] 93, mp pidv tvv t.mb t.m, bag tva t.m]) (.cons .head (.cons .head (.cons .head .nil))) ?_
       have hfin : ask (pur t.m) pid ep seq n = (-1, 13) := by rw [ask_of hbad hp0 hov, pur_ent, askL2 hx0 (by omega)]
       refine .retP Tryz.func12 (.cons (.tmp rfl) (.cons (.tmp rfl) .nil)) (.cons .head (.cons .head .nil)) ?_
       exact ⟨[_], ⟨by rw [hfin]; rfl, rfl⟩, rfl⟩
      ·
       refine .goO fds 5 ?_
       refine .rd (.lenL rfl rfl Tryz.underlying89 rfl) ?_
       refine .goR fds 3 ?_
       refine .loop (σ := Nat) (fun i => i ≤ (latest (ent t.m pid).ns).length ∧ ∀ j y, j < i → (latest (ent t.m pid).ns)[j]? = some y → ¬ hitN ep seq n y) (fun i => (latest (ent t.m pid).ns).length - i) (fun i => [(2, .int .i64 ep), (3, .int .i64 seq), (4, .int .i64 n), (12, .slice la (latest (ent t.m pid).ns).length ((ent t.m pid).c - lateN (ent t.m pid).ns)), (86, .slice la (latest (ent t.m pid).ns).length ((ent t.m pid).c - lateN (ent t.m pid).ns)), (87, .int .i64 ((latest (ent t.m pid).ns).length : Nat)), (88, .int .i64 (i : Nat))]) (fun i => [blk t.tb [.map (some t.mb)] 93, mp pidv tvv t.mb t.m, bag tva t.m, R]) 0 ⟨Nat.zero_le _, fun j y h => absurd h (Nat.not_lt_zero j)⟩ (.cons rfl (.cons rfl (.cons rfl (.cons rfl (.cons rfl (.cons rfl (.cons rfl .nil))))))) (.cons .head (.cons .head (.cons .head (.cons .head .nil)))) (fun i hI ih => ?_)
       obtain ⟨hil, hno⟩ := hI
       refine .go fds 5 ?_
       refine .condP rfl (fun h15 => ?_) (fun h15 => ?_)
       ·
        refine .go fds 4 ?_
        obtain ⟨x, hx⟩ : ∃ x, (latest (ent t.m pid).ns)[i]? = some x := ⟨_, List.getElem?_eq_getElem (by omega)⟩
        refine .region ?_
        refine .rd (.indexAddr (b := b9) (o := o9) Tryz.underlying89 ts97 (by show some (Value.slice (la) _ _) = _; rw [h9]) rfl (by omega) (by omega)) ?_
        refine .rd (.loadN ia97 ts97 rfl rfl (Knows.elem (f := ntc) ntc_len (by decide) ((knowsLatest (.tail (.tail .head)) pid hla).mono fun _ h => h9 ▸ h) (hx))) ?_
        refine .ef (.alloc ti97 rfl (ones.of rfl)) ?_
        rintro _ _ ⟨b14, rfl, rfl⟩
        refine .ef0 (.storeAll (vs := ntc x) ts97 rfl rfl rfl .head rfl (ones.of rfl)) ?_
        rintro _ _ rfl
        refine .goO fds 4 ?_
        refine .rd (.loadN (cs := [.int .i64 x.ep, .int .i64 x.seq, .int .i64 x.n]) ia95 ts95 rfl rfl ((Knows.blk .head).mono fun _ h => CellsAt.three h)) ?_
        refine .go fds 3 ?_
        refine .rd (.build rfl (bld95_0_1_2 _ _ _)) ?_
        refine .rd (.eqA (xs := #[.int .i64 x.ep, .int .i64 x.seq, .int .i64 x.n]) (ys := #[.int .i64 ep, .int .i64 seq, .int .i64 n]) (by kernel_rfl) rfl (speq _ _ _ _ _ _) rfl rfl) ?_
        refine .nil ?_
        refine .condP rfl (fun h17 => ?_) (fun h17 => ?_)
        ·
         refine .goO fds 3 ?_
         refine .rd (.ld na3 rfl .head rfl) ?_
         refine .goR fds 3 ?_
         refine .pack (L := [blk t.tb [.map (some t.mb)] 93, mp pidv tvv t.mb t.m, bag tva t.m]) (.cons (.tail .head) (.cons (.tail .head) (.cons (.tail .head) .nil))) ?_
         have hfin : ask (pur t.m) pid ep seq n = (x.off, 0) := by rw [ask_of hbad hp0 hov, pur_ent, askL3 hx0 (by omega) (by omega) (findN_here hno hx h17)]
         refine .retP Tryz.func12 (.cons (.tmp rfl) (.cons (.tmp rfl) .nil)) (.cons .head (.cons (.tail .head) .nil)) ?_
         exact ⟨[_], ⟨by rw [hfin]; rfl, rfl⟩, rfl⟩
        ·
         refine .goO fds 3 ?_
         refine .rd (.add rfl rfl (by omega) (by omega)) ?_
         refine .goR fds 2 ?_
         exact (ih (i + 1) ⟨by omega, fun j y hj hy => (Nat.lt_succ_iff_lt_or_eq.1 hj).elim (fun h => hno j y h hy) (fun h => by subst h; rw [hx] at hy; cases hy; exact h17)⟩ (by omega)).to (.cons rfl (.cons rfl (.cons rfl (.cons rfl (.cons rfl (.cons rfl (.cons rfl .nil))))))) (.cons (.tail .head) (.cons (.tail .head) (.cons (.tail .head) (.cons (.tail .head) .nil))))
       ·
        refine .go fds 2 ?_
        have hil2 : i = (latest (ent t.m pid).ns).length := by omega
        obtain ⟨z, hz⟩ : ∃ z, (latest (ent t.m pid).ns)[(latest (ent t.m pid).ns).length - 1]? = some z := ⟨_, List.getElem?_eq_getElem (by have := (List.getElem?_eq_some_iff.1 hx0).1; omega)⟩
        have hzo := hN.1 z (List.mem_of_mem_drop (List.mem_of_getElem? hz))
        have hz1 := hzo.seq
        have hz2 := hzo.n
        have h0L := (List.getElem?_eq_some_iff.1 hx0).1
        refine .goO fds 3 ?_
        refine .rd (.lenL rfl rfl Tryz.underlying89 rfl) ?_
        refine .rd (.sub rfl rfl (by omega) (by omega)) ?_
        refine .alter (t := 105) (v' := .int .i64 (((latest (ent t.m pid).ns).length - 1 : Nat))) rfl (congrArg (Value.int .i64) (by omega)) ?_
        refine .rd (.indexAddr (b := b9) (o := o9) Tryz.underlying89 ts97 (by show some (Value.slice (la) _ _) = _; rw [h9]) rfl (by omega) (by omega)) ?_
        refine .rd (.loadN ia97 ts97 rfl rfl (Knows.elem (f := ntc) ntc_len (by decide) ((knowsLatest (.tail (.tail .head)) pid hla).mono fun _ h => h9 ▸ h) (hz))) ?_
        refine .ef (.alloc ti97 rfl (ones.of rfl)) ?_
        rintro _ _ ⟨b15, rfl, rfl⟩
        refine .ef0 (.storeAll (vs := ntc z) ts97 rfl rfl rfl .head rfl (ones.of rfl)) ?_
        rintro _ _ rfl
        refine .goO fds 6 ?_
        refine .rd (.ld na3 rfl .head rfl) ?_
        refine .go fds 2 ?_
        refine .rd (.ld na3 rfl .head rfl) ?_
        refine .rd (.add rfl rfl (by omega) (by omega)) ?_
        refine .goR fds 10 ?_
        refine .condP rfl (fun h22 => ?_) (fun h22 => ?_)
        ·
         refine .go fds 5 ?_
         refine .pack (L := [blk t.tb [.map (some t.mb)] 93, mp pidv tvv t.mb t.m, bag tva t.m]) (.cons (.tail .head) (.cons (.tail .head) (.cons (.tail .head) .nil))) ?_
         have hfin : ask (pur t.m) pid ep seq n = (-1, 0) := by rw [ask_of hbad hp0 hov, pur_ent, askL4 hx0 (by omega) (by omega) (findN_none fun j y hj => hno j y (by omega)) hz, if_pos h22]
         refine .retP Tryz.func12 (.cons (.tmp rfl) (.cons (.tmp rfl) .nil)) (.cons .head (.cons (.tail .head) .nil)) ?_
         exact ⟨[_], ⟨by rw [hfin]; rfl, rfl⟩, rfl⟩
        ·
         refine .go fds 7 ?_
         refine .condP rfl (fun h24 => ?_) (fun h24 => ?_)
         ·
          refine .go fds 5 ?_
          refine .pack (L := [blk t.tb [.map (some t.mb)] 93, mp pidv tvv t.mb t.m, bag tva t.m]) (.cons (.tail .head) (.cons (.tail .head) (.cons (.tail .head) .nil))) ?_
          have hfin : ask (pur t.m) pid ep seq n = (-1, 11) := by rw [ask_of hbad hp0 hov, pur_ent, askL4 hx0 (by omega) (by omega) (findN_none fun j y hj => hno j y (by omega)) hz, if_neg h22, if_pos h24]
          refine .retP Tryz.func12 (.cons (.tmp rfl) (.cons (.tmp rfl) .nil)) (.cons .head (.cons (.tail .head) .nil)) ?_
          exact ⟨[_], ⟨by rw [hfin]; rfl, rfl⟩, rfl⟩
         ·
          refine .go fds 7 ?_
          refine .pack (L := [blk t.tb [.map (some t.mb)] 93, mp pidv tvv t.mb t.m, bag tva t.m]) (.cons (.tail .head) (.cons (.tail .head) (.cons (.tail .head) .nil))) ?_
          have hfin : ask (pur t.m) pid ep seq n = (-1, 12) := by rw [ask_of hbad hp0 hov, pur_ent, askL4 hx0 (by omega) (by omega) (findN_none fun j y hj => hno j y (by omega)) hz, if_neg h22, if_neg h24]
          refine .retP Tryz.func12 (.cons (.tmp rfl) (.cons (.tmp rfl) .nil)) (.cons .head (.cons (.tail .head) .nil)) ?_
          exact ⟨[_], ⟨by rw [hfin]; rfl, rfl⟩, rfl⟩
end Go.Proofs.YtoglbebcdjdkiaaGreatDoor
/- Chapter 6: texts of chapter 3 (wire) under this seat's numbers. -/
namespace Go.Proofs.YtoglbebcdjdkiaaGreatDoor
open Go Go.Sp
set_option linter.unusedVariables false
namespace wire7
theorem na9 : NotAgg Tryz.prog 9 := ⟨_, Tryz.underlying9, trivial⟩
theorem na4 : NotAgg Tryz.prog 4 := ⟨_, Tryz.underlying4, trivial⟩
theorem ts4 : TS Tryz.prog 4 1 := .of (by kernel_rfl)
theorem ts9 : TS Tryz.prog 9 1 := .of (by kernel_rfl)
end wire7
open wire7
set_option maxRecDepth 20000 in
theorem rdint_ok (r : Nat) (p : Rdr) (hl : p.1.length ≤ 9000000000000000000) : Cn Tryz.prog 131 [.pointer (some ⟨r, 0, none⟩)] (fun _ => True) [blk r [.string (str p.1), .bool p.2] 186] fun v G => v = .int .i64 (rdI p).1 ∧ G = [blk r [.string (str (rdI p).2.1), .bool (rdI p).2.2] 186] := by
 refine .enter Tryz.func131 rfl (by kernel_rfl) rfl fun R k => ?_
 refine .goO fds 9 ?_
 refine .rd (.ld na9 rfl .head rfl) ?_
 refine .fn rfl rfl .nil (fun _ _ _ => trivial) (ReadInt_ok p.1 hl) (fun v G1 hq => ?_)
 obtain ⟨rfl, rfl⟩ := hq
 simp only [List.nil_append]
 refine .goO fds 14 ?_
 refine .rd (.ld na4 rfl .head rfl) ?_
 refine .rd (.move rfl) ?_
 refine .split (t := 20) rfl (fun h5 => ?_) (fun h5 => ?_)
 ·
  refine .go fds 5 ?_
  refine .ef0 (.store ts4 rfl rfl .head rfl (Nat.le_of_ble_eq_true rfl)) ?_
  rintro _ _ rfl
  refine .goR fds 2 ?_
  have hk := rint_le p.1
  refine .goO fds 5 ?_
  refine .rd (.ld na9 rfl .head rfl) ?_
  refine .rd (.move rfl) ?_
  refine .rd (.sliceT (l := p.1) (a := (rint p.1).2.1) (h := p.1.length) Tryz.underlying9 rfl ⟨_, rfl⟩ rfl (by omega) (by omega)) ?_
  refine .go fds 2 ?_
  refine .ef0 (.store ts9 rfl rfl .head rfl (Nat.le_of_ble_eq_true rfl)) ?_
  rintro _ _ rfl
  refine .goR fds 6 ?_
  have hcell : [Value.string (str ((p.1.drop (rint p.1).2.1).take (p.1.length - (rint p.1).2.1))), Value.bool (decide ((rint p.1).2.2 = 0))] = [Value.string (str (rdI p).2.1), Value.bool (rdI p).2.2] := by rw [List.take_of_length_le (by rw [List.length_drop]; omega)]; simp only [rdI, h5, Bool.true_and]
  refine .cast (X' := blk r [.string (str (rdI p).2.1), .bool (rdI p).2.2] 186) (by show blk r [_, _] 186 = _; exact congrArg (fun l => blk r l 186) hcell) ?_
  refine .retP Tryz.func131 (.cons (.tmp rfl) .nil) (.cons .head (.cons .head .nil)) ?_
  exact ⟨[_], ⟨rfl, rfl⟩, rfl⟩
 ·
  refine .go fds 5 ?_
  refine .ef0 (.store ts4 rfl rfl .head rfl (Nat.le_of_ble_eq_true rfl)) ?_
  rintro _ _ rfl
  refine .goR fds 2 ?_
  have hk := rint_le p.1
  refine .goO fds 5 ?_
  refine .rd (.ld na9 rfl .head rfl) ?_
  refine .rd (.move rfl) ?_
  refine .rd (.sliceT (l := p.1) (a := (rint p.1).2.1) (h := p.1.length) Tryz.underlying9 rfl ⟨_, rfl⟩ rfl (by omega) (by omega)) ?_
  refine .go fds 2 ?_
  refine .ef0 (.store ts9 rfl rfl .head rfl (Nat.le_of_ble_eq_true rfl)) ?_
  rintro _ _ rfl
  refine .goR fds 6 ?_
  have hcell : [Value.string (str ((p.1.drop (rint p.1).2.1).take (p.1.length - (rint p.1).2.1))), Value.bool false] = [Value.string (str (rdI p).2.1), Value.bool (rdI p).2.2] := by rw [List.take_of_length_le (by rw [List.length_drop]; omega)]; simp only [rdI, h5, Bool.false_and]
  refine .cast (X' := blk r [.string (str (rdI p).2.1), .bool (rdI p).2.2] 186) (by show blk r [_, _] 186 = _; exact congrArg (fun l => blk r l 186) hcell) ?_
  refine .retP Tryz.func131 (.cons (.tmp rfl) .nil) (.cons .head (.cons .head .nil)) ?_
  exact ⟨[_], ⟨rfl, rfl⟩, rfl⟩
set_option maxRecDepth 20000 in
theorem within_ok (n m : Int) : Cn Tryz.prog 122 [.int .i64 n, .int .i64 m] (fun _ => True) [] fun v G => v = .bool (decide (0 ≤ n ∧ n ≤ m)) ∧ G = [] := by
 refine .enter Tryz.func122 rfl (by kernel_rfl) rfl fun R k => ?_
 refine .goO fds 9 ?_
 refine .split (t := 7) rfl (fun h2 => ?_) (fun h2 => ?_)
 ·
  replace h2 := of_decide_eq_true h2
  refine .goR fds 6 ?_
  refine .retP Tryz.func122 (.cons (.tmp rfl) .nil) (.cons .head .nil) ?_
  exact ⟨[], ⟨by simp only [resVal]; congr 1; simp [h2], rfl⟩, rfl⟩
 ·
  replace h2 := of_decide_eq_false h2
  refine .goR fds 6 ?_
  refine .retP Tryz.func122 (.cons (.tmp rfl) .nil) (.cons .head .nil) ?_
  exact ⟨[], ⟨by simp only [resVal]; congr 1; simp [h2], rfl⟩, rfl⟩
set_option maxRecDepth 20000 in
theorem rdtext_ok (r : Nat) (p : Rdr) (most : Int) (hl : p.1.length ≤ 9000000000000000000) : Cn Tryz.prog 132 [.pointer (some ⟨r, 0, none⟩), .int .i64 most] (fun _ => True) [blk r [.string (str p.1), .bool p.2] 186] fun v G => v = .string (str (rdT most p).1) ∧ G = [blk r [.string (str (rdT most p).2.1), .bool (rdT most p).2.2] 186] := by
 refine .enter Tryz.func132 rfl (by kernel_rfl) rfl fun R k => ?_
 refine .goO fds 7 ?_
 refine .fn rfl rfl (.cons .head .nil) (fun _ _ _ => trivial) (rdint_ok r p hl) (fun v G1 hq => ?_)
 obtain ⟨rfl, rfl⟩ := hq
 simp only [List.cons_append, List.nil_append]
 refine .goO fds 10 ?_
 refine .rd (.ld na9 rfl .head rfl) ?_
 refine .rd (.lenT rfl rfl Tryz.underlying9 rfl) ?_
 refine .rd (.min2 rfl rfl rfl) ?_
 refine .fn rfl rfl .nil (fun _ _ _ => trivial) (within_ok (rdI p).1 (if ((rdI p).2.1.length : Int) < most then ((rdI p).2.1.length : Int) else most)) (fun v G1 hq => ?_)
 obtain ⟨rfl, rfl⟩ := hq
 simp only [List.nil_append]
 refine .goR fds 2 ?_
 refine .condN rfl (fun c2 => ?_) (fun c2 => ?_)
 ·
  have hcell : rdT most p = ([], (rdI p).2.1, false) := by unfold rdT; rw [if_neg]; intro h; exact c2 ⟨h.1, by split <;> omega⟩
  refine .goO fds 4 ?_
  refine .ef0 (.store ts4 rfl rfl .head rfl (Nat.le_of_ble_eq_true rfl)) ?_
  rintro _ _ rfl
  refine .goO fds 7 ?_
  refine .rd (.ld na9 rfl .head rfl) ?_
  refine .rd (.move rfl) ?_
  refine .rd (.sliceT (l := (rdI p).2.1) (a := 0) (h := 0) Tryz.underlying9 rfl rfl ⟨_, rfl⟩ (by omega) (by omega)) ?_
  refine .goO fds 8 ?_
  refine .rd (.ld na9 rfl .head rfl) ?_
  refine .rd (.move rfl) ?_
  refine .rd (.sliceT (l := (rdI p).2.1) (a := 0) (h := (rdI p).2.1.length) Tryz.underlying9 rfl ⟨_, rfl⟩ rfl (by omega) (by omega)) ?_
  refine .go fds 2 ?_
  refine .ef0 (.store ts9 rfl rfl .head rfl (Nat.le_of_ble_eq_true rfl)) ?_
  rintro _ _ rfl
  refine .goR fds 6 ?_
  refine .cast (X' := blk r [.string (str (rdT most p).2.1), .bool (rdT most p).2.2] 186) (by show blk r [Value.string (str (((rdI p).2.1.drop 0).take ((rdI p).2.1.length - 0))), Value.bool false] 186 = _; rw [hcell, List.take_of_length_le (by rw [List.length_drop]; omega)]; rfl) ?_
  refine .retP Tryz.func132 (.cons (.tmp rfl) .nil) (.cons .head (.cons .head .nil)) ?_
  exact ⟨[_], ⟨by simp only [resVal]; rw [hcell]; rfl, rfl⟩, rfl⟩
 ·
  have hcell : rdT most p = ((rdI p).2.1.take (rdI p).1.toNat, (rdI p).2.1.drop (rdI p).1.toNat, (rdI p).2.2) := by unfold rdT; rw [if_pos]; obtain ⟨h1, h2⟩ := c2; split at h2 <;> exact ⟨h1, by omega, by omega⟩
  obtain ⟨k, hk⟩ : ∃ k : Nat, (rdI p).1 = k := ⟨(rdI p).1.toNat, by have := c2.1; omega⟩
  have hkl : k ≤ (rdI p).2.1.length := by have := c2.2; split at this <;> omega
  refine .alter (t := 5) (v' := .int .i64 (k : Nat)) rfl (by rw [hk]) ?_
  refine .goO fds 6 ?_
  refine .rd (.ld na9 rfl .head rfl) ?_
  refine .rd (.move rfl) ?_
  refine .rd (.sliceT (l := (rdI p).2.1) (a := 0) (h := k) Tryz.underlying9 rfl rfl ⟨_, rfl⟩ (by omega) (by omega)) ?_
  refine .goO fds 8 ?_
  refine .rd (.ld na9 rfl .head rfl) ?_
  refine .rd (.move rfl) ?_
  refine .rd (.sliceT (l := (rdI p).2.1) (a := k) (h := (rdI p).2.1.length) Tryz.underlying9 rfl ⟨_, rfl⟩ rfl (by omega) (by omega)) ?_
  refine .go fds 2 ?_
  refine .ef0 (.store ts9 rfl rfl .head rfl (Nat.le_of_ble_eq_true rfl)) ?_
  rintro _ _ rfl
  refine .goR fds 6 ?_
  refine .cast (X' := blk r [.string (str (rdT most p).2.1), .bool (rdT most p).2.2] 186) (by show blk r [Value.string (str (((rdI p).2.1.drop k).take ((rdI p).2.1.length - k))), Value.bool (rdI p).2.2] 186 = _; rw [hcell, List.take_of_length_le (by rw [List.length_drop]; omega), hk]; rfl) ?_
  refine .retP Tryz.func132 (.cons (.tmp rfl) .nil) (.cons .head (.cons .head .nil)) ?_
  exact ⟨[_], ⟨by simp only [resVal]; rw [hcell, hk]; rfl, rfl⟩, rfl⟩
end Go.Proofs.YtoglbebcdjdkiaaGreatDoor
/- Chapter 6: texts of chapter 3 (wire) under this seat's numbers. -/
namespace Go.Proofs.YtoglbebcdjdkiaaGreatDoor
open Go Go.Sp
set_option linter.unusedVariables false
namespace wire11
theorem na25 : NotAgg Tryz.prog 39 := ⟨_, Tryz.underlying39, trivial⟩
theorem na3 : NotAgg Tryz.prog 3 := ⟨_, Tryz.underlying3, trivial⟩
theorem ts65 : TS Tryz.prog 99 3 := .of (by kernel_rfl)
theorem ia65 : IsAgg Tryz.prog 99 := ⟨_, Tryz.underlying99, trivial⟩
theorem ti65 : TI Tryz.prog 99 3 40 (.agg #[.string ⟨#[]⟩, .string ⟨#[]⟩, .int .i64 0]) := .of (by kernel_rfl)
theorem na9 : NotAgg Tryz.prog 9 := ⟨_, Tryz.underlying9, trivial⟩
theorem ia27 : IsAgg Tryz.prog 41 := ⟨_, Tryz.underlying41, trivial⟩
theorem ts27 : TS Tryz.prog 41 6 := .of (by kernel_rfl)
end wire11
open wire11
set_option maxRecDepth 20000 in
theorem Right_ok (b : Bat) (a : Option Addr) (c : Nat) (hf : b.fits) : Cn Tryz.prog 79 [.agg (b.cells a c).toArray] (RowAt a (b.recs.flatMap Rec.cells)) [] fun v G => v = .int .i64 (right b) ∧ G = [] := by
 refine .enter Tryz.func79 rfl (by kernel_rfl) rfl fun R k => ?_
 have hfl := hf.len
 have hor := orI_zero hf.pidEpoch hf.seq
 refine .goO fds 2 ?_
 refine .ef (.box (l := b.cells a c) rfl rfl (ones.of rfl)) ?_
 rintro _ _ ⟨b1, rfl, rfl⟩
 refine .goO fds 5 ?_
 refine .rd (.ld na25 rfl .head rfl) ?_
 refine .rd (.lenL rfl rfl Tryz.underlying39 rfl) ?_
 refine .goO fds 6 ?_
 refine .rd (.ld na3 rfl .head rfl) ?_
 refine .go fds 2 ?_
 refine .split (t := 13) rfl (fun g2_3 => ?_) (fun g2_3 => ?_)
 ·
  replace g2_3 := of_decide_eq_true g2_3
  refine .go fds 27 ?_
  refine .offU (t := 37) rfl rfl rfl rfl ?_
  refine .offX (t := 41) rfl rfl rfl ?_
  refine .offX (t := 41) rfl rfl rfl ?_
  refine .offX (t := 41) rfl rfl rfl ?_
  refine .offX (t := 41) rfl rfl rfl ?_
  refine .offX (t := 41) rfl rfl rfl ?_
  refine .offX (t := 41) rfl rfl rfl ?_
  refine .goR fds 12 ?_
  have hq : b.off := by unfold Bat.off; omega
  rw [right_off hq]
  refine .retP Tryz.func79 (.cons (.tmp rfl) .nil) (.cons (.tail .head) .nil) ?_
  exact ⟨[], ⟨rfl, rfl⟩, rfl⟩
 ·
  replace g2_3 := of_decide_eq_false g2_3
  refine .go fds 1 ?_
  refine .on (t := 13) rfl rfl ?_
  refine .rd (.ld na3 rfl .head rfl) ?_
  refine .on (t := 13) rfl rfl ?_
  refine .fn rfl rfl .nil (fun _ _ _ => trivial) (within_ok _ _) (fun v G1 hq => ?_)
  obtain ⟨rfl, rfl⟩ := hq
  simp only [List.nil_append]
  refine .go fds 3 ?_
  refine .split (t := 19) rfl (fun g2_9 => ?_) (fun g2_9 => ?_)
  ·
   simp at g2_9
   refine .go fds 21 ?_
   refine .offU (t := 37) rfl rfl rfl rfl ?_
   refine .offX (t := 41) rfl rfl rfl ?_
   refine .offX (t := 41) rfl rfl rfl ?_
   refine .offX (t := 41) rfl rfl rfl ?_
   refine .offX (t := 41) rfl rfl rfl ?_
   refine .offX (t := 41) rfl rfl rfl ?_
   refine .offX (t := 41) rfl rfl rfl ?_
   refine .goR fds 12 ?_
   have hq : b.off := by unfold Bat.off; omega
   rw [right_off hq]
   refine .retP Tryz.func79 (.cons (.tmp rfl) .nil) (.cons (.tail .head) .nil) ?_
   exact ⟨[], ⟨rfl, rfl⟩, rfl⟩
  ·
   simp at g2_9
   refine .go fds 1 ?_
   refine .on (t := 19) rfl rfl ?_
   refine .rd (.ld na3 rfl .head rfl) ?_
   refine .on (t := 19) rfl rfl ?_
   refine .fn rfl rfl .nil (fun _ _ _ => trivial) (within_ok _ _) (fun v G1 hq => ?_)
   obtain ⟨rfl, rfl⟩ := hq
   simp only [List.nil_append]
   refine .go fds 3 ?_
   refine .split (t := 25) rfl (fun g2_15 => ?_) (fun g2_15 => ?_)
   ·
    simp at g2_15
    refine .go fds 15 ?_
    refine .offU (t := 37) rfl rfl rfl rfl ?_
    refine .offX (t := 41) rfl rfl rfl ?_
    refine .offX (t := 41) rfl rfl rfl ?_
    refine .offX (t := 41) rfl rfl rfl ?_
    refine .offX (t := 41) rfl rfl rfl ?_
    refine .offX (t := 41) rfl rfl rfl ?_
    refine .offX (t := 41) rfl rfl rfl ?_
    refine .goR fds 12 ?_
    have hq : b.off := by unfold Bat.off; omega
    rw [right_off hq]
    refine .retP Tryz.func79 (.cons (.tmp rfl) .nil) (.cons (.tail .head) .nil) ?_
    exact ⟨[], ⟨rfl, rfl⟩, rfl⟩
   ·
    simp at g2_15
    refine .go fds 1 ?_
    refine .on (t := 25) rfl rfl ?_
    refine .rd (.ld na3 rfl .head rfl) ?_
    refine .on (t := 25) rfl rfl ?_
    refine .fn rfl rfl .nil (fun _ _ _ => trivial) (within_ok _ _) (fun v G1 hq => ?_)
    obtain ⟨rfl, rfl⟩ := hq
    simp only [List.nil_append]
    refine .go fds 3 ?_
    refine .split (t := 31) rfl (fun g2_21 => ?_) (fun g2_21 => ?_)
    ·
     simp at g2_21
     refine .go fds 9 ?_
     refine .offU (t := 37) rfl rfl rfl rfl ?_
     refine .offX (t := 41) rfl rfl rfl ?_
     refine .offX (t := 41) rfl rfl rfl ?_
     refine .offX (t := 41) rfl rfl rfl ?_
     refine .offX (t := 41) rfl rfl rfl ?_
     refine .offX (t := 41) rfl rfl rfl ?_
     refine .offX (t := 41) rfl rfl rfl ?_
     refine .goR fds 12 ?_
     have hq : b.off := by unfold Bat.off; omega
     rw [right_off hq]
     refine .retP Tryz.func79 (.cons (.tmp rfl) .nil) (.cons (.tail .head) .nil) ?_
     exact ⟨[], ⟨rfl, rfl⟩, rfl⟩
    ·
     simp at g2_21
     refine .go fds 1 ?_
     refine .on (t := 31) rfl rfl ?_
     refine .rd (.ld na3 rfl .head rfl) ?_
     refine .on (t := 31) rfl rfl ?_
     refine .fn rfl rfl .nil (fun _ _ _ => trivial) (within_ok _ _) (fun v G1 hq => ?_)
     obtain ⟨rfl, rfl⟩ := hq
     simp only [List.nil_append]
     refine .go fds 3 ?_
     refine .split (t := 37) rfl (fun g2_27 => ?_) (fun g2_27 => ?_)
     ·
      simp at g2_27
      refine .go fds 3 ?_
      refine .offU (t := 37) rfl rfl rfl rfl ?_
      refine .offX (t := 41) rfl rfl rfl ?_
      refine .offX (t := 41) rfl rfl rfl ?_
      refine .offX (t := 41) rfl rfl rfl ?_
      refine .offX (t := 41) rfl rfl rfl ?_
      refine .offX (t := 41) rfl rfl rfl ?_
      refine .offX (t := 41) rfl rfl rfl ?_
      refine .goR fds 12 ?_
      have hq : b.off := by unfold Bat.off; omega
      rw [right_off hq]
      refine .retP Tryz.func79 (.cons (.tmp rfl) .nil) (.cons (.tail .head) .nil) ?_
      exact ⟨[], ⟨rfl, rfl⟩, rfl⟩
     ·
      simp at g2_27
      refine .go fds 1 ?_
      refine .on (t := 37) rfl rfl ?_
      refine .rd (.ld na3 rfl .head rfl) ?_
      refine .go fds 2 ?_
      refine .split (t := 41) rfl (fun g2_31 => ?_) (fun g2_31 => ?_)
      ·
       replace g2_31 := of_decide_eq_true g2_31
       refine .go fds 1 ?_
       refine .on (t := 41) rfl rfl ?_
       refine .rd (.ld na3 rfl .head rfl) ?_
       refine .go fds 1 ?_
       refine .on (t := 41) rfl rfl ?_
       refine .rd (.ld na3 rfl .head rfl) ?_
       refine .on (t := 41) rfl rfl ?_
       refine .rd (.or rfl rfl) ?_
       refine .alter (t := 46) (v' := .int .i64 (orI b.pidEpoch b.seq)) rfl (rfl) ?_
       refine .go fds 4 ?_
       refine .split (t := 50) rfl (fun g2_40 => ?_) (fun g2_40 => ?_)
       ·
        simp at g2_40
        refine .goR fds 9 ?_
        have hq : b.off := by unfold Bat.off; omega
        rw [right_off hq]
        refine .retP Tryz.func79 (.cons (.tmp rfl) .nil) (.cons (.tail .head) .nil) ?_
        exact ⟨[], ⟨rfl, rfl⟩, rfl⟩
       ·
        simp at g2_40
        refine .goR fds 4 ?_
        refine .condP rfl (fun h2 => ?_) (fun h2 => ?_)
        ·
         refine .go fds 4 ?_
         have hq : b.off := by unfold Bat.off; omega
         rw [right_off hq]
         refine .retP Tryz.func79 (.cons (.tmp rfl) .nil) (.cons (.tail .head) .nil) ?_
         exact ⟨[], ⟨rfl, rfl⟩, rfl⟩
        ·
         have hno : ¬ b.off := by unfold Bat.off; omega
         refine .goO fds 9 ?_
         refine .rd (.ld na25 rfl .head rfl) ?_
         refine .rd (.lenL rfl rfl Tryz.underlying39 rfl) ?_
         refine .goR fds 3 ?_
         refine .loop (σ := Nat) (fun j => j ≤ b.recs.length ∧ ∀ r ∈ b.recs.take j, timely r) (fun j => b.recs.length - j) (fun j => [(1, .pointer (some ⟨b1, 0, none⟩)), (2, .int .i64 0), (3, .int .i64 b.recs.length), (4, .bool ((b.recs.take j).any long)), (55, .slice a b.recs.length c), (56, .int .i64 b.recs.length), (57, .int .i64 (j : Nat))]) (fun j => [blk b1 (b.cells a c) 41, R]) 0 ⟨Nat.zero_le _, by simp⟩ (.cons rfl (.cons rfl (.cons rfl (.cons rfl (.cons rfl (.cons rfl (.cons rfl .nil))))))) (.cons .head (.cons .head .nil)) (fun j hI ih => ?_)
         have hj := hI.1
         refine .go fds 5 ?_
         refine .condP rfl (fun h6 => ?_) (fun h6 => ?_)
         ·
          refine .go fds 4 ?_
          have hjl : j < b.recs.length := by omega
          obtain ⟨r, hr⟩ : ∃ r, b.recs[j]? = some r := ⟨_, List.getElem?_eq_getElem hjl⟩
          have hrm := List.mem_of_getElem? hr
          have hk1 := hf.key r hrm
          have hk2 := hf.value r hrm
          refine .tell (φ := ∃ b o, a = some ⟨b, o, none⟩) (Knows.pick (.tail .head) (k.mono fun _ h => h.addr (by rw [flat_length Rec.cells_len]; omega))) (fun hx => ?_)
          obtain ⟨bb, oo, rfl⟩ := hx
          refine .region ?_
          refine .rd (.indexAddr Tryz.underlying39 ts65 rfl rfl (by omega) (by omega)) ?_
          refine .rd (.loadN ia65 ts65 rfl rfl (Knows.elem Rec.cells_len (by decide) (Knows.pick (.tail .head) k) hr)) ?_
          refine .ef (.alloc ti65 rfl (ones.of rfl)) ?_
          rintro _ _ ⟨b6, rfl, rfl⟩
          refine .ef0 (.storeAll (vs := r.cells) ts65 rfl rfl rfl .head rfl (ones.of rfl)) ?_
          rintro _ _ rfl
          refine .goO fds 5 ?_
          refine .rd (.ld na3 rfl .head rfl) ?_
          refine .fn rfl rfl .nil (fun _ _ _ => trivial) (within_ok _ _) (fun v G1 hq => ?_)
          obtain ⟨rfl, rfl⟩ := hq
          simp only [List.nil_append]
          refine .goR fds 2 ?_
          refine .condN rfl (fun h8 => ?_) (fun h8 => ?_)
          ·
           refine .go fds 4 ?_
           rw [right_time hr (by show ¬ (_ ∧ _); omega)]
           refine .retP Tryz.func79 (.cons (.tmp rfl) .nil) (.cons (.tail (.tail .head)) .nil) ?_
           exact ⟨[], ⟨rfl, rfl⟩, rfl⟩
          ·
           refine .goO fds 4 ?_
           refine .split (t := 66) rfl (fun g10_1 => ?_) (fun g10_1 => ?_)
           ·
            refine .goO fds 15 ?_
            refine .rd (.add rfl rfl (by omega) (by omega)) ?_
            refine .goR fds 2 ?_
            exact (ih (j + 1) ⟨by omega, all_take (p := timely) hr (by show _ ∧ _; omega) hI.2⟩ (by omega)).to (.cons rfl (.cons rfl (.cons rfl (.cons (by rw [any_take hr, g10_1]; rfl) (.cons rfl (.cons rfl (.cons rfl .nil))))))) (.cons (.tail .head) (.cons (.tail .head) .nil))
           ·
            refine .go fds 1 ?_
            refine .on (t := 66) rfl rfl ?_
            refine .rd (.ld na9 rfl .head rfl) ?_
            refine .on (t := 66) rfl rfl ?_
            refine .rd (.lenT rfl rfl Tryz.underlying9 rfl) ?_
            refine .go fds 3 ?_
            refine .split (t := 72) rfl (fun g10_7 => ?_) (fun g10_7 => ?_)
            ·
             replace g10_7 := of_decide_eq_true g10_7
             refine .goO fds 9 ?_
             refine .rd (.add rfl rfl (by omega) (by omega)) ?_
             refine .goR fds 2 ?_
             exact (ih (j + 1) ⟨by omega, all_take (p := timely) hr (by show _ ∧ _; omega) hI.2⟩ (by omega)).to (.cons rfl (.cons rfl (.cons rfl (.cons (by rw [any_take hr, g10_1]; show _ = some (Value.bool (false || long r)); rw [show long r = true from (long_iff r).2 (.inl (by omega))]; rfl) (.cons rfl (.cons rfl (.cons rfl .nil))))))) (.cons (.tail .head) (.cons (.tail .head) .nil))
            ·
             replace g10_7 := of_decide_eq_false g10_7
             refine .go fds 1 ?_
             refine .on (t := 72) rfl rfl ?_
             refine .rd (.ld na9 rfl .head rfl) ?_
             refine .on (t := 72) rfl rfl ?_
             refine .rd (.lenT rfl rfl Tryz.underlying9 rfl) ?_
             refine .goO fds 6 ?_
             refine .rd (.add rfl rfl (by omega) (by omega)) ?_
             refine .goR fds 2 ?_
             exact (ih (j + 1) ⟨by omega, all_take (p := timely) hr (by show _ ∧ _; omega) hI.2⟩ (by omega)).to (.cons rfl (.cons rfl (.cons rfl (.cons (by rw [any_take hr, g10_1, Bool.false_or, long_r3 (by omega)]; exact congrArg (fun x => some (Value.bool x)) (decide_eq_decide.2 (by omega))) (.cons rfl (.cons rfl (.cons rfl .nil))))))) (.cons (.tail .head) (.cons (.tail .head) .nil))
         ·
          obtain rfl : j = b.recs.length := by omega
          have hrt := right_on hno (by have := hI.2; rwa [List.take_length] at this)
          refine .alter (t := 4) (v' := .bool (b.recs.any long)) rfl (by rw [List.take_length]) ?_
          refine .go fds 9 ?_
          refine .condP rfl (fun h12 => ?_) (fun h12 => ?_)
          ·
           refine .go fds 4 ?_
           have hv : right b = 3 := by rw [hrt, if_pos (by omega)]
           rw [hv]
           refine .retP Tryz.func79 (.cons (.tmp rfl) .nil) (.cons (.tail .head) .nil) ?_
           exact ⟨[], ⟨rfl, rfl⟩, rfl⟩
          ·
           refine .go fds 5 ?_
           refine .cond rfl (fun h14 => ?_) (fun h14 => ?_)
           ·
            refine .go fds 4 ?_
            have hv : right b = 2 := by rw [hrt, if_neg (by omega), if_pos h14]
            rw [hv]
            refine .retP Tryz.func79 (.cons (.tmp rfl) .nil) (.cons (.tail .head) .nil) ?_
            exact ⟨[], ⟨rfl, rfl⟩, rfl⟩
           ·
            have hl14 : ¬ b.recs.any long = true := by rw [h14]; decide
            refine .goO fds 3 ?_
            refine .rd (.ld na3 rfl .head rfl) ?_
            refine .rd (.move rfl) ?_
            refine .rd (.sub rfl rfl (by omega) (by omega)) ?_
            refine .rd (.add rfl rfl (by omega) (by omega)) ?_
            refine .go fds 2 ?_
            refine .split (t := 91) rfl (fun g16_6 => ?_) (fun g16_6 => ?_)
            ·
             replace g16_6 := of_decide_eq_true g16_6
             refine .goR fds 14 ?_
             have hv : right b = 20 := by rw [hrt, if_neg (by omega), if_neg hl14, if_pos (by omega)]
             rw [hv]
             refine .retP Tryz.func79 (.cons (.tmp rfl) .nil) (.cons (.tail .head) .nil) ?_
             exact ⟨[], ⟨rfl, rfl⟩, rfl⟩
            ·
             replace g16_6 := of_decide_eq_false g16_6
             refine .go fds 1 ?_
             refine .on (t := 91) rfl rfl ?_
             refine .rd (.ld na3 rfl .head rfl) ?_
             refine .go fds 1 ?_
             refine .on (t := 91) rfl rfl ?_
             refine .rd (.sub rfl rfl (by omega) (by omega)) ?_
             refine .on (t := 91) rfl rfl ?_
             refine .rd (.add rfl rfl (by omega) (by omega)) ?_
             refine .goR fds 4 ?_
             refine .condP rfl (fun h16 => ?_) (fun h16 => ?_)
             ·
              refine .go fds 4 ?_
              have hv : right b = 20 := by rw [hrt, if_neg (by omega), if_neg hl14, if_pos (by omega)]
              rw [hv]
              refine .retP Tryz.func79 (.cons (.tmp rfl) .nil) (.cons (.tail .head) .nil) ?_
              exact ⟨[], ⟨rfl, rfl⟩, rfl⟩
             ·
              refine .goO fds 2 ?_
              refine .rd (.ldN ia27 ts27 rfl .head rfl) ?_
              refine .fn rfl rfl .nil (Knows.pick (.tail .head) k) (body_ok b a c hf (small_of (by omega) hl14)) (fun v G1 hq => ?_)
              obtain ⟨a', c', rfl, rfl⟩ := hq
              simp only [List.cons_append, List.nil_append]
              refine .rd (.lenL rfl rfl Tryz.underlying115 rfl) ?_
              refine .goR fds 3 ?_
              refine .condP rfl (fun h18 => ?_) (fun h18 => ?_)
              ·
               refine .go fds 4 ?_
               have hv : right b = 2 := by rw [hrt, if_neg (by omega), if_neg hl14, if_neg (by omega), if_pos (by omega)]
               rw [hv]
               refine .retP Tryz.func79 (.cons (.tmp rfl) .nil) (.cons (.tail (.tail .head)) .nil) ?_
               exact ⟨[], ⟨rfl, rfl⟩, rfl⟩
              ·
               refine .go fds 6 ?_
               have hv : right b = 0 := by rw [hrt, if_neg (by omega), if_neg hl14, if_neg (by omega), if_neg (by omega)]
               rw [hv]
               refine .retP Tryz.func79 (.cons (.tmp rfl) .nil) (.cons (.tail (.tail .head)) .nil) ?_
               exact ⟨[], ⟨rfl, rfl⟩, rfl⟩
      ·
       replace g2_31 := of_decide_eq_false g2_31
       refine .goR fds 13 ?_
       refine .condP rfl (fun h2 => ?_) (fun h2 => ?_)
       ·
        refine .go fds 4 ?_
        have hq : b.off := by unfold Bat.off; omega
        rw [right_off hq]
        refine .retP Tryz.func79 (.cons (.tmp rfl) .nil) (.cons (.tail .head) .nil) ?_
        exact ⟨[], ⟨rfl, rfl⟩, rfl⟩
       ·
        have hno : ¬ b.off := by unfold Bat.off; omega
        refine .goO fds 9 ?_
        refine .rd (.ld na25 rfl .head rfl) ?_
        refine .rd (.lenL rfl rfl Tryz.underlying39 rfl) ?_
        refine .goR fds 3 ?_
        refine .loop (σ := Nat) (fun j => j ≤ b.recs.length ∧ ∀ r ∈ b.recs.take j, timely r) (fun j => b.recs.length - j) (fun j => [(1, .pointer (some ⟨b1, 0, none⟩)), (2, .int .i64 0), (3, .int .i64 b.recs.length), (4, .bool ((b.recs.take j).any long)), (55, .slice a b.recs.length c), (56, .int .i64 b.recs.length), (57, .int .i64 (j : Nat))]) (fun j => [blk b1 (b.cells a c) 41, R]) 0 ⟨Nat.zero_le _, by simp⟩ (.cons rfl (.cons rfl (.cons rfl (.cons rfl (.cons rfl (.cons rfl (.cons rfl .nil))))))) (.cons .head (.cons .head .nil)) (fun j hI ih => ?_)
        have hj := hI.1
        refine .go fds 5 ?_
        refine .condP rfl (fun h6 => ?_) (fun h6 => ?_)
        ·
         refine .go fds 4 ?_
         have hjl : j < b.recs.length := by omega
         obtain ⟨r, hr⟩ : ∃ r, b.recs[j]? = some r := ⟨_, List.getElem?_eq_getElem hjl⟩
         have hrm := List.mem_of_getElem? hr
         have hk1 := hf.key r hrm
         have hk2 := hf.value r hrm
         refine .tell (φ := ∃ b o, a = some ⟨b, o, none⟩) (Knows.pick (.tail .head) (k.mono fun _ h => h.addr (by rw [flat_length Rec.cells_len]; omega))) (fun hx => ?_)
         obtain ⟨bb, oo, rfl⟩ := hx
         refine .region ?_
         refine .rd (.indexAddr Tryz.underlying39 ts65 rfl rfl (by omega) (by omega)) ?_
         refine .rd (.loadN ia65 ts65 rfl rfl (Knows.elem Rec.cells_len (by decide) (Knows.pick (.tail .head) k) hr)) ?_
         refine .ef (.alloc ti65 rfl (ones.of rfl)) ?_
         rintro _ _ ⟨b6, rfl, rfl⟩
         refine .ef0 (.storeAll (vs := r.cells) ts65 rfl rfl rfl .head rfl (ones.of rfl)) ?_
         rintro _ _ rfl
         refine .goO fds 5 ?_
         refine .rd (.ld na3 rfl .head rfl) ?_
         refine .fn rfl rfl .nil (fun _ _ _ => trivial) (within_ok _ _) (fun v G1 hq => ?_)
         obtain ⟨rfl, rfl⟩ := hq
         simp only [List.nil_append]
         refine .goR fds 2 ?_
         refine .condN rfl (fun h8 => ?_) (fun h8 => ?_)
         ·
          refine .go fds 4 ?_
          rw [right_time hr (by show ¬ (_ ∧ _); omega)]
          refine .retP Tryz.func79 (.cons (.tmp rfl) .nil) (.cons (.tail (.tail .head)) .nil) ?_
          exact ⟨[], ⟨rfl, rfl⟩, rfl⟩
         ·
          refine .goO fds 4 ?_
          refine .split (t := 66) rfl (fun g10_1 => ?_) (fun g10_1 => ?_)
          ·
           refine .goO fds 15 ?_
           refine .rd (.add rfl rfl (by omega) (by omega)) ?_
           refine .goR fds 2 ?_
           exact (ih (j + 1) ⟨by omega, all_take (p := timely) hr (by show _ ∧ _; omega) hI.2⟩ (by omega)).to (.cons rfl (.cons rfl (.cons rfl (.cons (by rw [any_take hr, g10_1]; rfl) (.cons rfl (.cons rfl (.cons rfl .nil))))))) (.cons (.tail .head) (.cons (.tail .head) .nil))
          ·
           refine .go fds 1 ?_
           refine .on (t := 66) rfl rfl ?_
           refine .rd (.ld na9 rfl .head rfl) ?_
           refine .on (t := 66) rfl rfl ?_
           refine .rd (.lenT rfl rfl Tryz.underlying9 rfl) ?_
           refine .go fds 3 ?_
           refine .split (t := 72) rfl (fun g10_7 => ?_) (fun g10_7 => ?_)
           ·
            replace g10_7 := of_decide_eq_true g10_7
            refine .goO fds 9 ?_
            refine .rd (.add rfl rfl (by omega) (by omega)) ?_
            refine .goR fds 2 ?_
            exact (ih (j + 1) ⟨by omega, all_take (p := timely) hr (by show _ ∧ _; omega) hI.2⟩ (by omega)).to (.cons rfl (.cons rfl (.cons rfl (.cons (by rw [any_take hr, g10_1]; show _ = some (Value.bool (false || long r)); rw [show long r = true from (long_iff r).2 (.inl (by omega))]; rfl) (.cons rfl (.cons rfl (.cons rfl .nil))))))) (.cons (.tail .head) (.cons (.tail .head) .nil))
           ·
            replace g10_7 := of_decide_eq_false g10_7
            refine .go fds 1 ?_
            refine .on (t := 72) rfl rfl ?_
            refine .rd (.ld na9 rfl .head rfl) ?_
            refine .on (t := 72) rfl rfl ?_
            refine .rd (.lenT rfl rfl Tryz.underlying9 rfl) ?_
            refine .goO fds 6 ?_
            refine .rd (.add rfl rfl (by omega) (by omega)) ?_
            refine .goR fds 2 ?_
            exact (ih (j + 1) ⟨by omega, all_take (p := timely) hr (by show _ ∧ _; omega) hI.2⟩ (by omega)).to (.cons rfl (.cons rfl (.cons rfl (.cons (by rw [any_take hr, g10_1, Bool.false_or, long_r3 (by omega)]; exact congrArg (fun x => some (Value.bool x)) (decide_eq_decide.2 (by omega))) (.cons rfl (.cons rfl (.cons rfl .nil))))))) (.cons (.tail .head) (.cons (.tail .head) .nil))
        ·
         obtain rfl : j = b.recs.length := by omega
         have hrt := right_on hno (by have := hI.2; rwa [List.take_length] at this)
         refine .alter (t := 4) (v' := .bool (b.recs.any long)) rfl (by rw [List.take_length]) ?_
         refine .go fds 9 ?_
         refine .condP rfl (fun h12 => ?_) (fun h12 => ?_)
         ·
          refine .go fds 4 ?_
          have hv : right b = 3 := by rw [hrt, if_pos (by omega)]
          rw [hv]
          refine .retP Tryz.func79 (.cons (.tmp rfl) .nil) (.cons (.tail .head) .nil) ?_
          exact ⟨[], ⟨rfl, rfl⟩, rfl⟩
         ·
          refine .go fds 5 ?_
          refine .cond rfl (fun h14 => ?_) (fun h14 => ?_)
          ·
           refine .go fds 4 ?_
           have hv : right b = 2 := by rw [hrt, if_neg (by omega), if_pos h14]
           rw [hv]
           refine .retP Tryz.func79 (.cons (.tmp rfl) .nil) (.cons (.tail .head) .nil) ?_
           exact ⟨[], ⟨rfl, rfl⟩, rfl⟩
          ·
           have hl14 : ¬ b.recs.any long = true := by rw [h14]; decide
           refine .goO fds 3 ?_
           refine .rd (.ld na3 rfl .head rfl) ?_
           refine .rd (.move rfl) ?_
           refine .rd (.sub rfl rfl (by omega) (by omega)) ?_
           refine .rd (.add rfl rfl (by omega) (by omega)) ?_
           refine .go fds 2 ?_
           refine .split (t := 91) rfl (fun g16_6 => ?_) (fun g16_6 => ?_)
           ·
            replace g16_6 := of_decide_eq_true g16_6
            refine .goR fds 14 ?_
            have hv : right b = 20 := by rw [hrt, if_neg (by omega), if_neg hl14, if_pos (by omega)]
            rw [hv]
            refine .retP Tryz.func79 (.cons (.tmp rfl) .nil) (.cons (.tail .head) .nil) ?_
            exact ⟨[], ⟨rfl, rfl⟩, rfl⟩
           ·
            replace g16_6 := of_decide_eq_false g16_6
            refine .go fds 1 ?_
            refine .on (t := 91) rfl rfl ?_
            refine .rd (.ld na3 rfl .head rfl) ?_
            refine .go fds 1 ?_
            refine .on (t := 91) rfl rfl ?_
            refine .rd (.sub rfl rfl (by omega) (by omega)) ?_
            refine .on (t := 91) rfl rfl ?_
            refine .rd (.add rfl rfl (by omega) (by omega)) ?_
            refine .goR fds 4 ?_
            refine .condP rfl (fun h16 => ?_) (fun h16 => ?_)
            ·
             refine .go fds 4 ?_
             have hv : right b = 20 := by rw [hrt, if_neg (by omega), if_neg hl14, if_pos (by omega)]
             rw [hv]
             refine .retP Tryz.func79 (.cons (.tmp rfl) .nil) (.cons (.tail .head) .nil) ?_
             exact ⟨[], ⟨rfl, rfl⟩, rfl⟩
            ·
             refine .goO fds 2 ?_
             refine .rd (.ldN ia27 ts27 rfl .head rfl) ?_
             refine .fn rfl rfl .nil (Knows.pick (.tail .head) k) (body_ok b a c hf (small_of (by omega) hl14)) (fun v G1 hq => ?_)
             obtain ⟨a', c', rfl, rfl⟩ := hq
             simp only [List.cons_append, List.nil_append]
             refine .rd (.lenL rfl rfl Tryz.underlying115 rfl) ?_
             refine .goR fds 3 ?_
             refine .condP rfl (fun h18 => ?_) (fun h18 => ?_)
             ·
              refine .go fds 4 ?_
              have hv : right b = 2 := by rw [hrt, if_neg (by omega), if_neg hl14, if_neg (by omega), if_pos (by omega)]
              rw [hv]
              refine .retP Tryz.func79 (.cons (.tmp rfl) .nil) (.cons (.tail (.tail .head)) .nil) ?_
              exact ⟨[], ⟨rfl, rfl⟩, rfl⟩
             ·
              refine .go fds 6 ?_
              have hv : right b = 0 := by rw [hrt, if_neg (by omega), if_neg hl14, if_neg (by omega), if_neg (by omega)]
              rw [hv]
              refine .retP Tryz.func79 (.cons (.tmp rfl) .nil) (.cons (.tail (.tail .head)) .nil) ?_
              exact ⟨[], ⟨rfl, rfl⟩, rfl⟩
end Go.Proofs.YtoglbebcdjdkiaaGreatDoor
namespace Go.Proofs.YtoglbebcdjdkiaaGreatDoor
open Go Go.Sp
set_option linter.unusedVariables false
namespace td3
theorem bld93_0 (x0 : Option Nat) (w : World) : (Instr.build 93 (([0] : List Nat).zip [.map x0]).toArray).run Tryz.prog w = .ok (.agg #[.map x0]) w := by kernel_rfl
theorem na3 : NotAgg Tryz.prog 3 := ⟨_, Tryz.underlying3, trivial⟩
theorem ia41 : IsAgg Tryz.prog 41 := ⟨_, Tryz.underlying41, trivial⟩
theorem ts41 : TS Tryz.prog 41 6 := .of (by kernel_rfl)
theorem na91 : NotAgg Tryz.prog 91 := ⟨_, Tryz.underlying91, trivial⟩
theorem ti89 : TI Tryz.prog 89 1 24 (.slice none 0 0) := .of (by kernel_rfl)
theorem na39 : NotAgg Tryz.prog 39 := ⟨_, Tryz.underlying39, trivial⟩
theorem bld95_0_1_2 (x0 : Int) (x1 : Int) (x2 : Int) (w : World) : (Instr.build 95 (([0, 1, 2] : List Nat).zip [.int .i64 x0, .int .i64 x1, .int .i64 x2]).toArray).run Tryz.prog w = .ok (.agg #[.int .i64 x0, .int .i64 x1, .int .i64 x2]) w := by kernel_rfl
theorem fd41_0 : FD Tryz.prog 41 0 0 := .of Tryz.underlying41 (by kernel_rfl)
theorem bld97_0_1 (x0_0 : Int) (x0_1 : Int) (x0_2 : Int) (x1 : Int) (w : World) : (Instr.build 97 (([0, 1] : List Nat).zip [.agg #[.int .i64 x0_0, .int .i64 x0_1, .int .i64 x0_2], .int .i64 x1]).toArray).run Tryz.prog w = .ok (.agg #[.int .i64 x0_0, .int .i64 x0_1, .int .i64 x0_2, .int .i64 x1]) w := by kernel_rfl
theorem ti97 : TI Tryz.prog 97 4 32 (.agg #[.int .i64 0, .int .i64 0, .int .i64 0, .int .i64 0]) := .of (by kernel_rfl)
theorem ts97 : TS Tryz.prog 97 4 := .of (by kernel_rfl)
theorem ia97 : IsAgg Tryz.prog 97 := ⟨_, Tryz.underlying97, trivial⟩
theorem fd97_1 : FD Tryz.prog 97 1 3 := .of Tryz.underlying97 (by kernel_rfl)
end td3
open td3
theorem late_no {l : List Nt} {b : Bat} {x : Nt} (h : late l b = false) (hx : l[l.length - 1]? = some x) : x.off < b.base ∧ x.ep ≤ b.pidEpoch ∧ (x.ep = b.pidEpoch → x.seq + x.n ≤ b.seq) := by
 unfold late at h
 rw [List.getLast?_eq_getElem?, hx] at h
 have := of_decide_eq_false h
 omega
set_option maxHeartbeats 2000000 in
set_option maxRecDepth 20000 in
theorem NewT_ok : Cn Tryz.prog 34 [] (fun _ => True) [] fun v G => ∃ tb mb, v = .pointer (some ⟨tb, 0, none⟩) ∧ G = [TG ⟨tb, mb, []⟩] := by
 refine .enter Tryz.func34 rfl (by kernel_rfl) rfl fun R k => ?_
 refine .goO fds 6 ?_
 refine .ef (.makeMap (κ := Int) (ν := TV) (enc := pidv) (venc := tvv)) ?_
 rintro _ _ ⟨mb, rfl, rfl⟩
 refine .rd (.build rfl (bld93_0 _)) ?_
 refine .ef (.box (l := [.map (some mb)]) rfl rfl (ones.of rfl)) ?_
 rintro _ _ ⟨tb, rfl, rfl⟩
 refine .goR fds 2 ?_
 refine .close (X := bag tva []) (B := []) .nil (fun h _ => bag.nil) ?_
 refine .close (X := TG ⟨tb, mb, []⟩) (.cons (.tail .head) (.cons (.tail .head) (.cons .head .nil))) (fun h H => H) ?_
 refine .retP Tryz.func34 (.cons (.tmp rfl) .nil) (.cons .head (.cons .head .nil)) ?_
 exact ⟨[_], ⟨tb, mb, rfl, rfl⟩, rfl⟩
set_option maxHeartbeats 2000000 in
set_option maxRecDepth 20000 in
theorem Note_ok (t : Tb) (b : Bat) (a : Option Addr) (c : Nat) (hT : TabOk (pur t.m)) (hpid : 0 < b.pid) (hf : b.fits) (hr : right b = 0) (hl' : late (notesOf (pur t.m) b.pid) b = false) : Cn Tryz.prog 41 [.pointer (some ⟨t.tb, 0, none⟩), .agg (b.cells a c).toArray] (RowAt a (b.recs.flatMap Rec.cells)) [TG t] fun v G => ∃ t' : Tb, t'.tb = t.tb ∧ pur t'.m = note (pur t.m) b ∧ G = [TG t'] := by
 refine .enter Tryz.func41 rfl (by kernel_rfl) rfl fun R k => ?_
 refine .unpack (L := [blk t.tb [.map (some t.mb)] 93, mp pidv tvv t.mb t.m, bag tva t.m]) .head ?_
 simp only [List.cons_append, List.nil_append]
 have hN := hT.notes b.pid
 rw [pur_ent] at hN
 have hl := hl'
 rw [pur_ent] at hl
 have hnd : (t.m.map (·.1)).Nodup := by rw [← pur_keys]; exact hT.nodup
 have hNl := hN.2
 refine .goO fds 2 ?_
 refine .ef (.box (l := b.cells a c) rfl rfl (ones.of rfl)) ?_
 rintro _ _ ⟨bx, rfl, rfl⟩
 refine .goO fds 5 ?_
 refine .rd (.ld na3 rfl .head rfl) ?_
 refine .rd (.eqI rfl rfl) ?_
 refine .alter (t := 8) (v' := .bool false) rfl (congrArg Value.bool (decide_eq_false (by omega))) ?_
 refine .rd (.move rfl) ?_
 refine .on (t := 9) rfl rfl ?_
 refine .rd (.ldN ia41 ts41 rfl .head rfl) ?_
 refine .on (t := 9) rfl rfl ?_
 refine .fn rfl rfl .nil (Knows.pick (.tail (.tail (.tail (.tail .head)))) k) (Right_ok b a c hf) (fun v G1 hq => ?_)
 obtain ⟨rfl, rfl⟩ := hq
 simp only [List.nil_append]
 refine .alter (t := 11) (v' := .int .i64 0) rfl (by rw [hr]) ?_
 refine .goR fds 6 ?_
 refine .draws [3, 5, 6] [blk t.tb [.map (some t.mb)] 93, mp pidv tvv t.mb t.m, blk bx (b.cells a c) 41] (by kernel_rfl) ?_
 refine .goD fds [0] ?_
 refine .goD fds [1] ?_
 refine .goD fds [2] ?_
 refine .rd 3 rfl rfl (by kernel_rfl) (by kernel_rfl) (by kernel_rfl) (.ld na91 rfl .head rfl) (.cons (.tail .head) (.cons (.tail .head) (.cons .head .nil))) ?_
 refine .goD fds [4] ?_
 refine .rd 5 rfl rfl (by kernel_rfl) (by kernel_rfl) (by kernel_rfl) (.ld na3 rfl (.tail (.tail .head)) rfl) (.cons (.tail .head) (.cons (.tail .head) (.cons .head .nil))) ?_
 refine .rd 6 rfl rfl (by kernel_rfl) (by kernel_rfl) (by kernel_rfl) (.lookup (q := b.pid) klI Tryz.underlying91 (fun w => ti89.zero w) rfl rfl (.tail .head)) (.cons (.tail .head) (.cons (.tail .head) (.cons .head .nil))) ?_
 refine .alter (t := 20) (v' := .slice (ent t.m b.pid).a (ent t.m b.pid).ns.length (ent t.m b.pid).c) rfl (lkT t.m b.pid) ?_
 refine .goD fds [7] ?_
 refine .done (by kernel_rfl) ?_
 refine .goO fds 4 ?_
 refine .rd (.lenL rfl rfl Tryz.underlying89 rfl) ?_
 refine .goR fds 2 ?_
 refine .joinAt (E' := [(0, .pointer (some ⟨t.tb, 0, none⟩)), (3, .pointer (some ⟨bx, 0, none⟩)), (4, .slice (ent t.m b.pid).a (ent t.m b.pid).ns.length (ent t.m b.pid).c)]) (Γ' := [blk t.tb [.map (some t.mb)] 93, mp pidv tvv t.mb t.m, bag tva t.m, blk bx (b.cells a c) 41, R]) ?_ (fun fin => ?_)
 ·
  refine .open_ (σ := Unit) (φ := fun _ => True) (B := fun _ => [arr 97 4 (ent t.m b.pid).a (ent t.m b.pid).c ((ent t.m b.pid).ns.flatMap ntc), bag tva (mdel t.m b.pid)]) (.tail (.tail .head)) (fun h H => ⟨(), trivial, bag_out hnd H⟩) (fun _ _ => ?_)
  simp only [List.cons_append, List.nil_append]
  refine .draws [3, 5, 8, 10, 12, 16] [blk t.tb [.map (some t.mb)] 93, blk bx (b.cells a c) 41] (by kernel_rfl) ?_
  refine .goD fds [0] ?_
  refine .goD fds [1] ?_
  refine .goD fds [2] ?_
  refine .rd 3 rfl rfl (by kernel_rfl) (by kernel_rfl) (by kernel_rfl) (.ld na91 rfl .head rfl) (.cons (.tail (.tail .head)) (.cons (.tail (.tail (.tail .head))) .nil)) ?_
  refine .goD fds [4] ?_
  refine .rd 5 rfl rfl (by kernel_rfl) (by kernel_rfl) (by kernel_rfl) (.ld na3 rfl (.tail .head) rfl) (.cons (.tail (.tail .head)) (.cons (.tail (.tail (.tail .head))) .nil)) ?_
  refine .goD fds [6] ?_
  refine .goD fds [7] ?_
  refine .rd 8 rfl rfl (by kernel_rfl) (by kernel_rfl) (by kernel_rfl) (.ld na3 rfl (.tail .head) rfl) (.cons (.tail (.tail .head)) (.cons (.tail (.tail (.tail .head))) .nil)) ?_
  refine .goD fds [9] ?_
  refine .rd 10 rfl rfl (by kernel_rfl) (by kernel_rfl) (by kernel_rfl) (.ld na3 rfl (.tail .head) rfl) (.cons (.tail (.tail .head)) (.cons (.tail (.tail (.tail .head))) .nil)) ?_
  refine .goD fds [11] ?_
  refine .rd 12 rfl rfl (by kernel_rfl) (by kernel_rfl) (by kernel_rfl) (.ld na39 rfl (.tail .head) rfl) (.cons (.tail (.tail .head)) (.cons (.tail (.tail (.tail .head))) .nil)) ?_
  refine .rp 13 rfl (by kernel_rfl) (by kernel_rfl) (by kernel_rfl) (Reads.pure (.lenL rfl rfl Tryz.underlying39 rfl)) ?_
  refine .rp 14 rfl (by kernel_rfl) (by kernel_rfl) (by kernel_rfl) (Reads.pure (.build rfl (bld95_0_1_2 _ _ _))) ?_
  refine .goD fds [15] ?_
  refine .rd 16 rfl rfl (by kernel_rfl) (by kernel_rfl) (by kernel_rfl) (.ld na3 rfl (.tail .head) rfl) (.cons (.tail (.tail .head)) (.cons (.tail (.tail (.tail .head))) .nil)) ?_
  refine .rp 17 rfl (by kernel_rfl) (by kernel_rfl) (by kernel_rfl) (Reads.pure (.build rfl (bld97_0_1 _ _ _ _))) ?_
  refine .ef 18 (by kernel_rfl) rfl (.buildOne (cs := ntc (ntOf b)) Tryz.underlying89 ti97 (by decide) rfl rfl rfl (ones.of rfl)) ?_
  rintro _ _ ⟨bs, rfl, rfl⟩
  refine ⟨.inr ⟨_, (.cons (.tail (.tail (.tail .head))) (.cons (.tail (.tail (.tail (.tail .head)))) .nil))⟩, ?_⟩
  refine .ef 19 (by kernel_rfl) rfl (.append rfl rfl Tryz.underlying89 ti97 rfl (ones.of rfl) (by decide) (by decide) rfl rfl (.tail .head) (n := (ent t.m b.pid).ns.length) (m := 1) (by rw [flat_length ntc_len]) (.srcBlk .head Tryz.underlying89 rfl (by decide)) (by omega)) ?_
  rintro _ _ ⟨ra, rc, rfl, rn, rfl⟩
  refine ⟨.inr ⟨_, (.cons (.tail (.tail (.tail .head))) (.cons (.tail (.tail (.tail (.tail .head)))) .nil))⟩, ?_⟩
  refine .alter (t := 82) (v' := .slice ra ((ent t.m b.pid).ns ++ [ntOf b]).length rc) rfl (by rw [List.length_append]; rfl) ?_
  refine .ef0 20 (by kernel_rfl) rfl (.mapUpdate (u := (⟨ra, rc, (ent t.m b.pid).ns ++ [ntOf b]⟩ : TV)) klI Tryz.underlying91 rfl rfl rfl (.tail (.tail (.tail (.tail .head))))) ?_
  rintro _ _ rfl
  refine ⟨.inl (by kernel_rfl), ?_⟩
  refine .done (by kernel_rfl) ?_
  refine .perm (.cons (.tail .head) (.cons .head (.cons .head (.cons .head (.cons .head (.cons .head (.cons .head .nil))))))) ?_
  refine .cast (X' := tva (b.pid, (⟨ra, rc, (ent t.m b.pid).ns ++ [ntOf b]⟩ : TV))) (by show arr 97 4 ra rc _ = arr 97 4 ra rc _; rw [List.flatMap_append]; simp) ?_
  refine .close (X := bag tva (mset t.m b.pid ⟨ra, rc, (ent t.m b.pid).ns ++ [ntOf b]⟩)) (.cons .head (.cons (.tail (.tail .head)) .nil)) (fun h H => bag_in hnd H) ?_
  refine .close (X := TG ⟨t.tb, t.mb, mset t.m b.pid ⟨ra, rc, (ent t.m b.pid).ns ++ [ntOf b]⟩⟩) (.cons (.tail (.tail (.tail .head))) (.cons (.tail .head) (.cons .head .nil))) (fun h H => H) ?_
  refine .endP Tryz.func41 .nil (.cons .head (.cons (.tail (.tail .head)) .nil)) ?_
  exact ⟨[_], ⟨⟨t.tb, t.mb, mset t.m b.pid ⟨ra, rc, (ent t.m b.pid).ns ++ [ntOf b]⟩⟩, rfl, by rw [pur_set]; unfold note; rw [hl', if_neg Bool.false_ne_true, pur_ent], rfl⟩, rfl⟩
 ·
  refine .condP rfl (fun c3 => ?_) (fun c3 => ?_)
  ·
   refine .seq ?_
   obtain ⟨x, hx⟩ : ∃ x, (ent t.m b.pid).ns[(ent t.m b.pid).ns.length - 1]? = some x := ⟨_, List.getElem?_eq_getElem (by omega)⟩
   have hxo := hN.1 x (List.mem_of_getElem? hx)
   have hx1 := hxo.seq
   have hx2 := hxo.n
   obtain ⟨hn1, hn2, hn3⟩ := late_no hl hx
   refine .tell (φ := ∃ q r, (ent t.m b.pid).a = some ⟨q, r, none⟩) ((Knows.ent (.tail (.tail (.tail .head))) b.pid).mono fun _ h => RowAt.addr h.1 (by rw [flat_length ntc_len]; omega)) (fun hh => ?_)
   obtain ⟨b9, o9, h9⟩ := hh
   refine .goO fds 3 ?_
   refine .rd (.lenL rfl rfl Tryz.underlying89 rfl) ?_
   refine .rd (.sub rfl rfl (by omega) (by omega)) ?_
   refine .alter (t := 27) (v' := .int .i64 (((ent t.m b.pid).ns.length - 1 : Nat))) rfl (congrArg (Value.int .i64) (by omega)) ?_
   refine .rd (.indexAddr (b := b9) (o := o9) Tryz.underlying89 ts97 (by show some (Value.slice ((ent t.m b.pid).a) _ _) = _; rw [h9]) rfl (by omega) (by omega)) ?_
   refine .rd (.loadN ia97 ts97 rfl rfl (Knows.elem (f := ntc) ntc_len (by decide) ((Knows.ent (.tail (.tail (.tail .head))) b.pid).mono fun _ h => h9 ▸ h.1) hx)) ?_
   refine .ef (.alloc ti97 rfl (ones.of rfl)) ?_
   rintro _ _ ⟨b5, rfl, rfl⟩
   refine .ef0 (.storeAll (vs := ntc x) ts97 rfl rfl rfl .head rfl (ones.of rfl)) ?_
   rintro _ _ rfl
   refine .goO fds 3 ?_
   refine RunO.join 33 62 (false) ?_ ?_
   ·
    refine .rd (.fieldAddr fd97_1 rfl) ?_
    refine .rd (.ld na3 rfl .head rfl) ?_
    refine .rd (.fieldAddr fd41_0 rfl) ?_
    refine .rd (.ld na3 rfl (.tail .head) rfl) ?_
    refine .rd (.ge rfl rfl) ?_
    refine .alter (t := 34) (v' := .bool false) rfl (congrArg Value.bool (decide_eq_false (by omega))) ?_
    refine .go fds 3 ?_
    refine .on (t := 35) rfl rfl ?_
    refine .rd (.ld na3 rfl .head rfl) ?_
    refine .go fds 1 ?_
    refine .on (t := 35) rfl rfl ?_
    refine .rd (.ld na3 rfl (.tail .head) rfl) ?_
    refine .go fds 1 ?_
    refine .alter (t := 41) (v' := .bool false) rfl (congrArg Value.bool (decide_eq_false (by omega))) ?_
    refine .go fds 4 ?_
    refine .on (t := 43) rfl rfl ?_
    refine .rd (.ld na3 rfl .head rfl) ?_
    refine .go fds 1 ?_
    refine .on (t := 43) rfl rfl ?_
    refine .rd (.ld na3 rfl (.tail .head) rfl) ?_
    refine .go fds 2 ?_
    refine .split (t := 50) rfl (fun g20 => ?_) (fun g20 => ?_)
    ·
     replace g20 := of_decide_eq_true g20
     refine .go fds 1 ?_
     refine .on (t := 50) rfl rfl ?_
     refine .rd (.ld na3 rfl (.tail .head) rfl) ?_
     refine .go fds 2 ?_
     refine .on (t := 50) rfl rfl ?_
     refine .rd (.ld na3 rfl .head rfl) ?_
     refine .go fds 2 ?_
     refine .on (t := 50) rfl rfl ?_
     refine .rd (.ld na3 rfl .head rfl) ?_
     refine .on (t := 50) rfl rfl ?_
     refine .rd (.add rfl rfl (by omega) (by omega)) ?_
     refine .go fds 1 ?_
     refine .alter (t := 60) (v' := .bool false) rfl (congrArg Value.bool (decide_eq_false (by have := hn3 g20; omega))) ?_
     refine .go fds 2 ?_
     refine .nil ⟨rfl, ?_, by repeat (first | exact Le.refl _ | refine Le.skip rfl ?_)⟩
     exact congrArg (fun x => some (Value.bool x)) (rfl)
    ·
     replace g20 := of_decide_eq_false g20
     refine .go fds 12 ?_
     refine .nil ⟨rfl, ?_, by repeat (first | exact Le.refl _ | refine Le.skip rfl ?_)⟩
     exact congrArg (fun x => some (Value.bool x)) (rfl)
   refine .goR fds 3 ?_
   exact fin (.cons rfl (.cons rfl (.cons rfl .nil))) (.cons (.tail (.tail .head)) (.cons (.tail (.tail .head)) (.cons (.tail (.tail .head)) (.cons (.tail .head) (.cons (.tail .head) .nil)))))
  ·
   refine .skip ?_
   exact fin (.cons rfl (.cons rfl (.cons rfl .nil))) (.cons (.tail .head) (.cons (.tail .head) (.cons (.tail .head) (.cons .head (.cons .head .nil)))))
end Go.Proofs.YtoglbebcdjdkiaaGreatDoor
/- Chapter 6: texts of chapter 3 (wire) under this seat's numbers. -/
namespace Go.Proofs.YtoglbebcdjdkiaaGreatDoor
open Go Go.Sp
set_option linter.unusedVariables false
namespace wire6
theorem ti5 : TI Tryz.prog 5 1 1 (.int .u8 0) := .of (by kernel_rfl)
end wire6
open wire6
set_option maxRecDepth 20000 in
theorem appendFour_ok (a : Option Addr) (c : Nat) (l : List UInt8) (n : Nat) (hl : l.length ≤ 1000000000000) : Cn Tryz.prog 163 [.slice a l.length c, .int .i64 (n : Int)] (fun _ => True) [arr 5 1 a c (bcs l)] fun v G => ∃ a' c', v = .slice a' (l ++ fours n).length c' ∧ G = [arr 5 1 a' c' (bcs (l ++ fours n))] := by
 refine .enter Tryz.func163 rfl (by kernel_rfl) rfl fun R k => ?_
 refine .goO fds 8 ?_
 refine .rd (.shr (n := 24) rfl rfl) ?_
 refine .rd (.convInt Tryz.underlying3 Tryz.underlying5 rfl) ?_
 refine .alter (t := 8) (v' := .int .u8 ((UInt8.ofNat (n / 2 ^ 24 % 256)).toNat : Int)) rfl (by exact shr_byte n 24 (by decide)) ?_
 refine .rd (.move rfl) ?_
 refine .rd (.shr (n := 16) rfl rfl) ?_
 refine .rd (.convInt Tryz.underlying3 Tryz.underlying5 rfl) ?_
 refine .alter (t := 11) (v' := .int .u8 ((UInt8.ofNat (n / 2 ^ 16 % 256)).toNat : Int)) rfl (by exact shr_byte n 16 (by decide)) ?_
 refine .rd (.move rfl) ?_
 refine .rd (.shr (n := 8) rfl rfl) ?_
 refine .rd (.convInt Tryz.underlying3 Tryz.underlying5 rfl) ?_
 refine .alter (t := 14) (v' := .int .u8 ((UInt8.ofNat (n / 2 ^ 8 % 256)).toNat : Int)) rfl (by exact shr_byte n 8 (by decide)) ?_
 refine .rd (.move rfl) ?_
 refine .rd (.convInt Tryz.underlying3 Tryz.underlying5 rfl) ?_
 refine .alter (t := 16) (v' := .int .u8 ((UInt8.ofNat (n % 256)).toNat : Int)) rfl (by exact low_byte n) ?_
 refine .ef (.buildSlice (n := 4) (cs := bcs (fours n)) Tryz.underlying115 ti5 rfl (by decide) (fill4 _ _ _ _) (ones.of rfl)) ?_
 rintro _ _ ⟨bs, rfl, rfl⟩
 refine .ef (.append rfl rfl Tryz.underlying115 ti5 rfl (ones.of rfl) (by decide) (by decide) rfl rfl (.tail .head) (n := l.length) (m := 4) (by rw [bcs_len, Nat.mul_one]) (.srcBlk .head Tryz.underlying115 rfl (by decide)) (by omega)) ?_
 rintro _ _ ⟨ra, rc, rfl, rn, rfl⟩
 refine .goR fds 2 ?_
 rw [← bcs_append]
 refine .retP Tryz.func163 (.cons (.tmp rfl) .nil) (.cons .head (.cons (.tail .head) .nil)) ?_
 exact ⟨[_], ⟨ra, rc, by simp only [resVal]; rw [List.length_append]; rfl, rfl⟩, rfl⟩
end Go.Proofs.YtoglbebcdjdkiaaGreatDoor