/- Part 2 of a claim's texts: rules for the machine's steps, and steps through functions of the program, under the conditions that each theorem states. -/
import Derived.Test.YtllpkagplfmlbaaProg
import Derived.Test.YtllpkagplfmlbaaPart1
set_option linter.unusedVariables false
namespace Go.Proofs.Ytllpkagplfmlbaa
open Go Go.Sp

set_option linter.unusedVariables false

namespace wire10
theorem fd27_0 : FD Try.prog 27 0 0 := .of Try.underlying27 (by kernel_rfl)
theorem na3 : NotAgg Try.prog 3 := ⟨_, Try.underlying3, trivial⟩
theorem fd27_1 : FD Try.prog 27 1 1 := .of Try.underlying27 (by kernel_rfl)
theorem fd27_2 : FD Try.prog 27 2 2 := .of Try.underlying27 (by kernel_rfl)
theorem fd27_3 : FD Try.prog 27 3 3 := .of Try.underlying27 (by kernel_rfl)
theorem fd27_4 : FD Try.prog 27 4 4 := .of Try.underlying27 (by kernel_rfl)
theorem fd27_5 : FD Try.prog 27 5 5 := .of Try.underlying27 (by kernel_rfl)
theorem na25 : NotAgg Try.prog 25 := ⟨_, Try.underlying25, trivial⟩
theorem ts65 : TS Try.prog 65 3 := .of (by kernel_rfl)
theorem ia65 : IsAgg Try.prog 65 := ⟨_, Try.underlying65, trivial⟩
theorem ti65 : TI Try.prog 65 3 40 (.agg #[.string ⟨#[]⟩, .string ⟨#[]⟩, .int .i64 0]) := .of (by kernel_rfl)
theorem fd65_2 : FD Try.prog 65 2 2 := .of Try.underlying65 (by kernel_rfl)
theorem fd65_0 : FD Try.prog 65 0 0 := .of Try.underlying65 (by kernel_rfl)
theorem na9 : NotAgg Try.prog 9 := ⟨_, Try.underlying9, trivial⟩
theorem fd65_1 : FD Try.prog 65 1 1 := .of Try.underlying65 (by kernel_rfl)
end wire10
open wire10



set_option maxRecDepth 20000 in
theorem rbody_ok (b : Bat) (a : Option Addr) (c : Nat) (hf : b.fits) (hs : b.small) : Cn Try.prog 65 [.agg (b.cells a c).toArray] (RowAt a (b.recs.flatMap Rec.cells)) [] fun v G => v = .string (str (body b)) ∧ G = [] := by
  refine .enter Try.func65 rfl (by kernel_rfl) rfl fun R k => ?_
  refine .seq ?_
  refine .region ?_
  refine .ef (.box (l := b.cells a c) rfl rfl (ones.of rfl)) ?_
  rintro _ _ ⟨b1, rfl, rfl⟩
  refine .rd (.assign rfl) ?_
  refine .nil ?_
  refine .seq ?_
  have hsn := hs.n
  have hl6 : i64 (b.recs.length : Int) := ⟨by omega, by omega⟩
  have he2 := eint_len hf.base
  have he5 := eint_len hf.epoch
  have he9 := eint_len hf.pid
  have he13 := eint_len hf.pidEpoch
  have he17 := eint_len hf.seq
  have he22 := eint_len hl6
  refine .draws [1, 4, 8, 12, 16, 20] [blk b1 (b.cells a c) 27] (by kernel_rfl) ?_
  refine .rp 0 rfl (by kernel_rfl) (by kernel_rfl) (by kernel_rfl) (Reads.pure (.fieldAddr fd27_0 rfl)) ?_
  refine .rd 1 rfl rfl (by kernel_rfl) (by kernel_rfl) (by kernel_rfl) (.ld na3 rfl .head rfl) (.cons .head .nil) ?_
  refine .rp 3 rfl (by kernel_rfl) (by kernel_rfl) (by kernel_rfl) (Reads.pure (.fieldAddr fd27_1 rfl)) ?_
  refine .rd 4 rfl rfl (by kernel_rfl) (by kernel_rfl) (by kernel_rfl) (.ld na3 rfl .head rfl) (.cons .head .nil) ?_
  refine .rp 7 rfl (by kernel_rfl) (by kernel_rfl) (by kernel_rfl) (Reads.pure (.fieldAddr fd27_2 rfl)) ?_
  refine .rd 8 rfl rfl (by kernel_rfl) (by kernel_rfl) (by kernel_rfl) (.ld na3 rfl .head rfl) (.cons .head .nil) ?_
  refine .rp 11 rfl (by kernel_rfl) (by kernel_rfl) (by kernel_rfl) (Reads.pure (.fieldAddr fd27_3 rfl)) ?_
  refine .rd 12 rfl rfl (by kernel_rfl) (by kernel_rfl) (by kernel_rfl) (.ld na3 rfl .head rfl) (.cons .head .nil) ?_
  refine .rp 15 rfl (by kernel_rfl) (by kernel_rfl) (by kernel_rfl) (Reads.pure (.fieldAddr fd27_4 rfl)) ?_
  refine .rd 16 rfl rfl (by kernel_rfl) (by kernel_rfl) (by kernel_rfl) (.ld na3 rfl .head rfl) (.cons .head .nil) ?_
  refine .rp 19 rfl (by kernel_rfl) (by kernel_rfl) (by kernel_rfl) (Reads.pure (.fieldAddr fd27_5 rfl)) ?_
  refine .rd 20 rfl rfl (by kernel_rfl) (by kernel_rfl) (by kernel_rfl) (.ld na25 rfl .head rfl) (.cons .head .nil) ?_
  refine .rp 21 rfl (by kernel_rfl) (by kernel_rfl) (by kernel_rfl) (Reads.pure (.lenL rfl rfl Try.underlying25 rfl)) ?_
  refine .ef 2 (by kernel_rfl) rfl (.fn rfl rfl .nil (fun _ _ _ => trivial) (rInt_ok b.base hf.base)) ?_
  rintro v _ ⟨G1, hq, rfl⟩
  obtain ⟨rfl, rfl⟩ := hq
  simp only [List.nil_append]
  refine ⟨.inr ⟨_, (.cons .head .nil)⟩, ?_⟩
  refine .ef 5 (by kernel_rfl) rfl (.fn rfl rfl .nil (fun _ _ _ => trivial) (rInt_ok b.epoch hf.epoch)) ?_
  rintro v _ ⟨G1, hq, rfl⟩
  obtain ⟨rfl, rfl⟩ := hq
  simp only [List.nil_append]
  refine ⟨.inr ⟨_, (.cons .head .nil)⟩, ?_⟩
  refine .rp 6 rfl (by kernel_rfl) (by kernel_rfl) (by kernel_rfl) (Reads.pure (.catT rfl rfl (by omega))) ?_
  refine .ef 9 (by kernel_rfl) rfl (.fn rfl rfl .nil (fun _ _ _ => trivial) (rInt_ok b.pid hf.pid)) ?_
  rintro v _ ⟨G1, hq, rfl⟩
  obtain ⟨rfl, rfl⟩ := hq
  simp only [List.nil_append]
  refine ⟨.inr ⟨_, (.cons .head .nil)⟩, ?_⟩
  refine .rp 10 rfl (by kernel_rfl) (by kernel_rfl) (by kernel_rfl) (Reads.pure (.catT rfl rfl (by simp only [List.length_append]; omega))) ?_
  refine .ef 13 (by kernel_rfl) rfl (.fn rfl rfl .nil (fun _ _ _ => trivial) (rInt_ok b.pidEpoch hf.pidEpoch)) ?_
  rintro v _ ⟨G1, hq, rfl⟩
  obtain ⟨rfl, rfl⟩ := hq
  simp only [List.nil_append]
  refine ⟨.inr ⟨_, (.cons .head .nil)⟩, ?_⟩
  refine .rp 14 rfl (by kernel_rfl) (by kernel_rfl) (by kernel_rfl) (Reads.pure (.catT rfl rfl (by simp only [List.length_append]; omega))) ?_
  refine .ef 17 (by kernel_rfl) rfl (.fn rfl rfl .nil (fun _ _ _ => trivial) (rInt_ok b.seq hf.seq)) ?_
  rintro v _ ⟨G1, hq, rfl⟩
  obtain ⟨rfl, rfl⟩ := hq
  simp only [List.nil_append]
  refine ⟨.inr ⟨_, (.cons .head .nil)⟩, ?_⟩
  refine .rp 18 rfl (by kernel_rfl) (by kernel_rfl) (by kernel_rfl) (Reads.pure (.catT rfl rfl (by simp only [List.length_append]; omega))) ?_
  refine .ef 22 (by kernel_rfl) rfl (.fn rfl rfl .nil (fun _ _ _ => trivial) (rInt_ok (b.recs.length : Int) hl6)) ?_
  rintro v _ ⟨G1, hq, rfl⟩
  obtain ⟨rfl, rfl⟩ := hq
  simp only [List.nil_append]
  refine ⟨.inl (by kernel_rfl), ?_⟩
  refine .rp 23 rfl (by kernel_rfl) (by kernel_rfl) (by kernel_rfl) (Reads.pure (.catT rfl rfl (by simp only [List.length_append]; omega))) ?_
  refine .rp 24 rfl (by kernel_rfl) (by kernel_rfl) (by kernel_rfl) (Reads.pure (.assign rfl)) ?_
  refine .done (by kernel_rfl) ?_
  refine .alter (t := 3) (v' := .string (str ((eint b.base ++ eint b.epoch ++ eint b.pid ++ eint b.pidEpoch ++ eint b.seq ++ eint (b.recs.length : Int)) ++ (b.recs.take 0).flatMap recBody))) rfl (by rw [List.take_zero, List.flatMap_nil, List.append_nil]) ?_
  refine .seq ?_
  refine .seq ?_
  refine .region ?_
  refine .rd (.assign rfl) ?_
  refine .nil ?_
  refine .block ?_
  refine .loop (σ := Nat) (fun j => j ≤ b.recs.length) (fun j => b.recs.length - j) (fun j => [(1, .pointer (some ⟨b1, 0, none⟩)), (3, .string (str ((eint b.base ++ eint b.epoch ++ eint b.pid ++ eint b.pidEpoch ++ eint b.seq ++ eint (b.recs.length : Int)) ++ (b.recs.take j).flatMap recBody))), (4, .int .i64 (j : Nat))]) (fun j => [blk b1 (b.cells a c) 27, R]) 0 (Nat.zero_le _) (.cons rfl (.cons rfl (.cons rfl .nil))) (.cons .head (.cons .head .nil)) (fun j hI ih => ?_)
  refine .seq ?_
  refine .seq ?_
  refine .region ?_
  refine .rd (.move rfl) ?_
  refine .rd (.fieldAddr fd27_5 rfl) ?_
  refine .rd (.ld na25 rfl .head rfl) ?_
  refine .rd (.lenL rfl rfl Try.underlying25 rfl) ?_
  refine .rd (.lt rfl rfl) ?_
  refine .nil ?_
  refine .condP rfl (fun h3 => ?_) (fun h3 => ?_)
  · refine .skip ?_
    refine .seq ?_
    refine .block ?_
    refine .seq ?_
    have hjl : j < b.recs.length := by omega
    obtain ⟨r, hr⟩ : ∃ r, b.recs[j]? = some r := ⟨_, List.getElem?_eq_getElem hjl⟩
    have hrm := List.mem_of_getElem? hr
    obtain ⟨hk1, hk2⟩ := hs.k r hrm
    have hd2 := flat_le (f := recBody) (k := 2030) (b.recs.take j) fun x hx => recBody_len hf hs (List.mem_of_mem_take hx)
    have hd3 : (b.recs.take j).length ≤ 64 := by rw [List.length_take]; omega
    have hd4 : ((eint b.base ++ eint b.epoch ++ eint b.pid ++ eint b.pidEpoch ++ eint b.seq ++ eint (b.recs.length : Int)) ++ (b.recs.take j).flatMap recBody).length ≤ 200000 := by simp only [List.length_append]; omega
    have he1 := eint_len (hf.time r hrm)
    have hi2 : i64 (r.key.length : Int) := ⟨by omega, by omega⟩
    have hi3 : i64 (r.value.length : Int) := ⟨by omega, by omega⟩
    have he02 := eint_len hi2
    have he03 := eint_len hi3
    refine .tell (φ := ∃ b o, a = some ⟨b, o, none⟩) (Knows.pick (.tail .head) (k.mono fun _ h => h.addr (by rw [flat_length Rec.cells_len]; omega))) (fun hx => ?_)
    obtain ⟨bb, oo, rfl⟩ := hx
    generalize hD : ((eint b.base ++ eint b.epoch ++ eint b.pid ++ eint b.pidEpoch ++ eint b.seq ++ eint (b.recs.length : Int)) ++ (b.recs.take j).flatMap recBody) = D at hd4 ⊢
    refine .region ?_
    refine .rd (.fieldAddr fd27_5 rfl) ?_
    refine .rd (.ld na25 rfl .head rfl) ?_
    refine .rd (.move rfl) ?_
    refine .rd (.indexAddr Try.underlying25 ts65 rfl rfl (by omega) (by omega)) ?_
    refine .rd (.loadN ia65 ts65 rfl rfl (Knows.elem Rec.cells_len (by decide) (Knows.pick (.tail .head) k) hr)) ?_
    refine .ef (.alloc ti65 rfl (ones.of rfl)) ?_
    rintro _ _ ⟨b5, rfl, rfl⟩
    refine .ef0 (.storeAll (vs := r.cells) ts65 rfl rfl rfl .head rfl (ones.of rfl)) ?_
    rintro _ _ rfl
    refine .nil ?_
    refine .draws [2, 6, 11, 14, 19] [blk b5 r.cells 65] (by kernel_rfl) ?_
    refine .rp 0 rfl (by kernel_rfl) (by kernel_rfl) (by kernel_rfl) (Reads.pure (.move rfl)) ?_
    refine .rp 1 rfl (by kernel_rfl) (by kernel_rfl) (by kernel_rfl) (Reads.pure (.fieldAddr fd65_2 rfl)) ?_
    refine .rd 2 rfl rfl (by kernel_rfl) (by kernel_rfl) (by kernel_rfl) (.ld na3 rfl .head rfl) (.cons .head .nil) ?_
    refine .rp 5 rfl (by kernel_rfl) (by kernel_rfl) (by kernel_rfl) (Reads.pure (.fieldAddr fd65_0 rfl)) ?_
    refine .rd 6 rfl rfl (by kernel_rfl) (by kernel_rfl) (by kernel_rfl) (.ld na9 rfl .head rfl) (.cons .head .nil) ?_
    refine .rp 7 rfl (by kernel_rfl) (by kernel_rfl) (by kernel_rfl) (Reads.pure (.lenT rfl rfl Try.underlying9 rfl)) ?_
    refine .rp 10 rfl (by kernel_rfl) (by kernel_rfl) (by kernel_rfl) (Reads.pure (.fieldAddr fd65_0 rfl)) ?_
    refine .rd 11 rfl rfl (by kernel_rfl) (by kernel_rfl) (by kernel_rfl) (.ld na9 rfl .head rfl) (.cons .head .nil) ?_
    refine .rp 13 rfl (by kernel_rfl) (by kernel_rfl) (by kernel_rfl) (Reads.pure (.fieldAddr fd65_1 rfl)) ?_
    refine .rd 14 rfl rfl (by kernel_rfl) (by kernel_rfl) (by kernel_rfl) (.ld na9 rfl .head rfl) (.cons .head .nil) ?_
    refine .rp 15 rfl (by kernel_rfl) (by kernel_rfl) (by kernel_rfl) (Reads.pure (.lenT rfl rfl Try.underlying9 rfl)) ?_
    refine .rp 18 rfl (by kernel_rfl) (by kernel_rfl) (by kernel_rfl) (Reads.pure (.fieldAddr fd65_1 rfl)) ?_
    refine .rd 19 rfl rfl (by kernel_rfl) (by kernel_rfl) (by kernel_rfl) (.ld na9 rfl .head rfl) (.cons .head .nil) ?_
    refine .ef 3 (by kernel_rfl) rfl (.fn rfl rfl .nil (fun _ _ _ => trivial) (rInt_ok r.time (hf.time r hrm))) ?_
    rintro v _ ⟨G1, hq, rfl⟩
    obtain ⟨rfl, rfl⟩ := hq
    simp only [List.nil_append]
    refine ⟨.inr ⟨_, (.cons .head .nil)⟩, ?_⟩
    refine .rp 4 rfl (by kernel_rfl) (by kernel_rfl) (by kernel_rfl) (Reads.pure (.catT rfl rfl (by omega))) ?_
    refine .ef 8 (by kernel_rfl) rfl (.fn rfl rfl .nil (fun _ _ _ => trivial) (rInt_ok (r.key.length : Int) hi2)) ?_
    rintro v _ ⟨G1, hq, rfl⟩
    obtain ⟨rfl, rfl⟩ := hq
    simp only [List.nil_append]
    refine ⟨.inr ⟨_, (.cons .head .nil)⟩, ?_⟩
    refine .rp 9 rfl (by kernel_rfl) (by kernel_rfl) (by kernel_rfl) (Reads.pure (.catT rfl rfl (by simp only [List.length_append]; omega))) ?_
    refine .rp 12 rfl (by kernel_rfl) (by kernel_rfl) (by kernel_rfl) (Reads.pure (.catT rfl rfl (by simp only [List.length_append]; omega))) ?_
    refine .ef 16 (by kernel_rfl) rfl (.fn rfl rfl .nil (fun _ _ _ => trivial) (rInt_ok (r.value.length : Int) hi3)) ?_
    rintro v _ ⟨G1, hq, rfl⟩
    obtain ⟨rfl, rfl⟩ := hq
    simp only [List.nil_append]
    refine ⟨.inr ⟨_, (.cons .head .nil)⟩, ?_⟩
    refine .rp 17 rfl (by kernel_rfl) (by kernel_rfl) (by kernel_rfl) (Reads.pure (.catT rfl rfl (by simp only [List.length_append]; omega))) ?_
    refine .rp 20 rfl (by kernel_rfl) (by kernel_rfl) (by kernel_rfl) (Reads.pure (.catT rfl rfl (by simp only [List.length_append]; omega))) ?_
    refine .rp 21 rfl (by kernel_rfl) (by kernel_rfl) (by kernel_rfl) (Reads.pure (.assign rfl)) ?_
    refine .done (by kernel_rfl) ?_
    refine .inBlock ?_
    refine .region ?_
    refine .rd (.move rfl) ?_
    refine .rd (.add rfl rfl (by omega) (by omega)) ?_
    refine .rd (.assign rfl) ?_
    refine .nil ?_
    have hfin : D ++ eint r.time ++ eint (r.key.length : Int) ++ r.key ++ eint (r.value.length : Int) ++ r.value = (eint b.base ++ eint b.epoch ++ eint b.pid ++ eint b.pidEpoch ++ eint b.seq ++ eint (b.recs.length : Int)) ++ (b.recs.take (j + 1)).flatMap recBody := by rw [take_flat hr, ← hD]; simp only [recBody, List.append_assoc]
    exact (ih (j + 1) (by omega) (by omega)).to (.cons rfl (.cons (by show _ = some (Value.string (str ((eint b.base ++ eint b.epoch ++ eint b.pid ++ eint b.pidEpoch ++ eint b.seq ++ eint (b.recs.length : Int)) ++ (b.recs.take (j + 1)).flatMap recBody))); rw [← hfin]; rfl) (.cons rfl .nil))) (.cons (.tail .head) (.cons (.tail .head) .nil))
  · refine .exit rfl ?_
    refine .seq ?_
    refine .region ?_
    refine .rd (.move rfl) ?_
    refine .rd (.assign rfl) ?_
    refine .nil ?_
    obtain rfl : j = b.recs.length := by omega
    refine .retP Try.func65 (.cons (.tmp rfl) .nil) (.cons (.tail .head) .nil) ?_
    exact ⟨[], ⟨by simp only [resVal]; rw [List.take_length]; rfl, rfl⟩, rfl⟩

end Go.Proofs.Ytllpkagplfmlbaa


/- Chapter 3: may a batch be? In plain Lean. -/
namespace Go.Proofs.Ytllpkagplfmlbaa
open Go Go.Sp

def orI (x y : Int) : Int := IntKind.i64.wrap ((BitVec.ofInt 64 x ||| BitVec.ofInt 64 y).toNat : Int)
theorem ofInt_zero {x : Int} (h : i64 x) : BitVec.ofInt 64 x = 0#64 ↔ x = 0 := by
  obtain ⟨h1, h2⟩ := h
  constructor
  · intro e
    have := congrArg BitVec.toNat e
    rw [toNat_ofInt64] at this
    have h0 : (0#64).toNat = 0 := rfl
    omega
  · rintro rfl; rfl
theorem orI_zero {x y : Int} (hx : i64 x) (hy : i64 y) : orI x y = 0 ↔ x = 0 ∧ y = 0 := by
  have h1 : orI x y = 0 ↔ (BitVec.ofInt 64 x ||| BitVec.ofInt 64 y) = 0#64 := by
    unfold orI
    generalize BitVec.ofInt 64 x ||| BitVec.ofInt 64 y = v
    have hv := v.isLt
    constructor
    · intro e
      unfold IntKind.wrap at e; simp [IntKind.signed, IntKind.bits] at e
      apply BitVec.eq_of_toNat_eq
      have h0 : (0#64).toNat = 0 := rfl
      split at e <;> omega
    · rintro rfl; rfl
  rw [h1, BitVec.or_eq_zero_iff, ofInt_zero hx, ofInt_zero hy]
/-- Its numbers may not be. -/
def Bat.off (b : Bat) : Prop := b.base < 0 ∨ ¬ (0 ≤ b.epoch ∧ b.epoch ≤ 1000000000) ∨ ¬ (0 ≤ b.pid ∧ b.pid ≤ 1000000000) ∨ ¬ (0 ≤ b.pidEpoch ∧ b.pidEpoch ≤ 1000000000) ∨ ¬ (0 ≤ b.seq ∧ b.seq ≤ 1000000000) ∨ (b.pid = 0 ∧ (b.pidEpoch ≠ 0 ∨ b.seq ≠ 0)) ∨ b.recs.length = 0
def timely (r : Rec) : Prop := 0 ≤ r.time ∧ r.time ≤ 1000000000
def long (r : Rec) : Bool := decide (1000 < r.key.length) || decide (1000 < r.value.length)
theorem long_iff (r : Rec) : long r = true ↔ 1000 < r.key.length ∨ 1000 < r.value.length := by simp [long]
theorem long_r3 {r : Rec} (h : ¬ 1000 < r.key.length) : long r = decide (1000 < r.value.length) := by unfold long; rw [decide_eq_false h, Bool.false_or]
theorem right_off {b : Bat} (h : b.off) : right b = 1 := if_pos h
theorem right_time {b : Bat} {r : Rec} {j : Nat} (h : b.recs[j]? = some r) (ht : ¬ timely r) : right b = 1 := by
  unfold right
  split
  · rfl
  · rw [if_pos ⟨r, List.mem_of_getElem? h, ht⟩]
theorem right_on {b : Bat} (h : ¬ b.off) (ht : ∀ r ∈ b.recs, timely r) : right b = if 64 < b.recs.length then 3 else if b.recs.any long then 2 else if 1000000000 - (b.recs.length : Int) + 1 < b.base ∨ 1000000 - (b.recs.length : Int) + 1 < b.seq then 20 else if 4088 < (body b).length then 2 else 0 := by
  have h2 : ¬ ∃ r ∈ b.recs, ¬ (0 ≤ r.time ∧ r.time ≤ 1000000000) := fun ⟨r, hr, h⟩ => h (ht r hr)
  have h3 : (∃ r ∈ b.recs, 1000 < r.key.length ∨ 1000 < r.value.length) ↔ b.recs.any long = true := by
    rw [List.any_eq_true]
    exact ⟨fun ⟨r, hr, h⟩ => ⟨r, hr, (long_iff r).2 h⟩, fun ⟨r, hr, h⟩ => ⟨r, hr, (long_iff r).1 h⟩⟩
  unfold Bat.off at h
  unfold right
  rw [if_neg h, if_neg h2]
  simp only [h3]
theorem any_take {α : Type} {f : α → Bool} {l : List α} {j : Nat} {x : α} (h : l[j]? = some x) : (l.take (j + 1)).any f = ((l.take j).any f || f x) := by
  rw [List.take_add_one, h, List.any_append]; simp
theorem all_take {α : Type} {p : α → Prop} {l : List α} {j : Nat} {x : α} (h : l[j]? = some x) (hx : p x) (hj : ∀ y ∈ l.take j, p y) : ∀ y ∈ l.take (j + 1), p y := by
  rw [List.take_add_one, h]
  intro y hy
  rcases List.mem_append.1 hy with hy | hy
  · exact hj y hy
  · simp at hy; exact hy ▸ hx
theorem small_of {b : Bat} (hn : ¬ 64 < b.recs.length) (hl : ¬ b.recs.any long = true) : b.small := ⟨by omega, fun r hr => by
  have : ¬ long r = true := fun h => hl (List.any_eq_true.2 ⟨r, hr, h⟩)
  rw [long_iff] at this; omega⟩
theorem body_len {b : Bat} (hf : b.fits) (hs : b.small) : (body b).length ≤ 200000 := by
  have h1 := six_len hf 6
  rw [show (six b).take 6 = six b from rfl] at h1
  have h2 := flat_le (f := recBody) (k := 2030) b.recs fun r hr => recBody_len hf hs hr
  have h3 := hs.n
  rw [body_six, List.length_append]; omega
theorem right_zero {b : Bat} (h : right b = 0) : b.small ∧ (body b).length ≤ 4088 := by
  by_cases hno : b.off
  · rw [right_off hno] at h; cases h
  by_cases ht : ∀ r ∈ b.recs, timely r
  · rw [right_on hno ht] at h
    split at h
    · cases h
    · split at h
      · cases h
      · rename_i h1 h2
        refine ⟨small_of h1 h2, ?_⟩
        split at h
        · cases h
        · split at h
          · cases h
          · omega
  · have h2 : ∃ r, r ∈ b.recs ∧ ¬ timely r := Classical.byContradiction fun hx => ht fun r hr => Classical.byContradiction fun hy => hx ⟨r, hr, hy⟩
    obtain ⟨r, hr, h3⟩ := h2
    obtain ⟨j, hj⟩ := List.getElem?_of_mem hr
    rw [right_time hj h3] at h; cases h
theorem wbatch_no {b : Bat} (h : right b ≠ 0) : wbatch b = ([], right b) := if_neg h
theorem wbatch_yes {b : Bat} (h : right b = 0) : wbatch b = (fours (body b).length ++ fours (crc (body b)).toNat ++ body b, 0) := if_pos h
end Go.Proofs.Ytllpkagplfmlbaa

/- Chapter 3: bytes as batches and as records of metadata, in plain Lean. -/
namespace Go.Proofs.Ytllpkagplfmlbaa
open Go Go.Sp

abbrev Par (α : Type) := Option (α × List UInt8)
def pI (l : List UInt8) : Par Int := if (rint l).2.2 = 0 then some ((rint l).1, l.drop (rint l).2.1) else none
def pT (most : Int) (l : List UInt8) : Par (List UInt8) := (pI l).bind fun x => if 0 ≤ x.1 ∧ x.1 ≤ most ∧ x.1 ≤ x.2.length then some (x.2.take x.1.toNat, x.2.drop x.1.toNat) else none
def pMany {α : Type} (p : List UInt8 → Par α) : Nat → List UInt8 → Par (List α)
  | 0, l => some ([], l)
  | n + 1, l => (pMany p n l).bind fun x => (p x.2).map fun y => (x.1 ++ [y.1], y.2)

theorem pMany_none {α : Type} {p : List UInt8 → Par α} {l : List UInt8} {k : Nat} (h : pMany p k l = none) : ∀ m, k ≤ m → pMany p m l = none := by
  intro m hm
  induction m with
  | zero => obtain rfl : k = 0 := by omega
            exact h
  | succ m ih =>
    by_cases hk : k = m + 1
    · subst hk; exact h
    · rw [pMany, ih (by omega)]; rfl

/-- A reader has followed a reading: all was well, and this was read, or all was not. -/
def Fol {α : Type} (good : Bool) (l : List UInt8) (o : Par α) (x : α) : Prop := (good = true ∧ o = some (x, l)) ∨ (good = false ∧ o = none)

theorem Fol.rdI {α β : Type} {p : Rdr} {o : Par α} {x : α} (h : Fol p.2 p.1 o x) {f : α → Int → β} : Fol (rdI p).2.2 (rdI p).2.1 (o.bind fun y => (pI y.2).map fun z => (f y.1 z.1, z.2)) (f x (rdI p).1) := by
  rcases h with ⟨hg, rfl⟩ | ⟨hg, rfl⟩
  · by_cases he : (rint p.1).2.2 = 0
    · refine .inl ⟨by simp [Go.Proofs.Ytllpkagplfmlbaa.rdI, hg, he], ?_⟩
      simp [pI, he, Go.Proofs.Ytllpkagplfmlbaa.rdI]
    · refine .inr ⟨by simp [Go.Proofs.Ytllpkagplfmlbaa.rdI, he], ?_⟩
      simp [pI, he]
  · exact .inr ⟨by simp [Go.Proofs.Ytllpkagplfmlbaa.rdI, hg], rfl⟩
theorem Fol.rdT {α β : Type} {p : Rdr} {o : Par α} {x : α} (most : Int) (h : Fol p.2 p.1 o x) {f : α → List UInt8 → β} : Fol (rdT most p).2.2 (rdT most p).2.1 (o.bind fun y => (pT most y.2).map fun z => (f y.1 z.1, z.2)) (f x (rdT most p).1) := by
  rcases h with ⟨hg, rfl⟩ | ⟨hg, rfl⟩
  · by_cases he : (rint p.1).2.2 = 0
    · have h1 : pI p.1 = some ((Go.Proofs.Ytllpkagplfmlbaa.rdI p).1, (Go.Proofs.Ytllpkagplfmlbaa.rdI p).2.1) := by simp [pI, he, Go.Proofs.Ytllpkagplfmlbaa.rdI]
      have h2 : (Go.Proofs.Ytllpkagplfmlbaa.rdI p).2.2 = true := by simp [Go.Proofs.Ytllpkagplfmlbaa.rdI, hg, he]
      have h3 : pT most p.1 = if 0 ≤ (Go.Proofs.Ytllpkagplfmlbaa.rdI p).1 ∧ (Go.Proofs.Ytllpkagplfmlbaa.rdI p).1 ≤ most ∧ (Go.Proofs.Ytllpkagplfmlbaa.rdI p).1 ≤ (Go.Proofs.Ytllpkagplfmlbaa.rdI p).2.1.length then some ((Go.Proofs.Ytllpkagplfmlbaa.rdI p).2.1.take (Go.Proofs.Ytllpkagplfmlbaa.rdI p).1.toNat, (Go.Proofs.Ytllpkagplfmlbaa.rdI p).2.1.drop (Go.Proofs.Ytllpkagplfmlbaa.rdI p).1.toNat) else none := by simp [pT, h1]
      by_cases hc : 0 ≤ (Go.Proofs.Ytllpkagplfmlbaa.rdI p).1 ∧ (Go.Proofs.Ytllpkagplfmlbaa.rdI p).1 ≤ most ∧ (Go.Proofs.Ytllpkagplfmlbaa.rdI p).1 ≤ (Go.Proofs.Ytllpkagplfmlbaa.rdI p).2.1.length
      · refine .inl ⟨by simp [Go.Proofs.Ytllpkagplfmlbaa.rdT, hc, h2], ?_⟩
        simp [h3, hc, Go.Proofs.Ytllpkagplfmlbaa.rdT]
      · refine .inr ⟨by simp only [Go.Proofs.Ytllpkagplfmlbaa.rdT, if_neg hc], ?_⟩
        simp [h3, hc]
    · refine .inr ⟨?_, ?_⟩
      · have h2 : (Go.Proofs.Ytllpkagplfmlbaa.rdI p).2.2 = false := by simp [Go.Proofs.Ytllpkagplfmlbaa.rdI, he]
        unfold Go.Proofs.Ytllpkagplfmlbaa.rdT; split
        · exact h2
        · rfl
      · simp [pT, pI, he]
  · refine .inr ⟨?_, rfl⟩
    have h2 : (Go.Proofs.Ytllpkagplfmlbaa.rdI p).2.2 = false := by simp [Go.Proofs.Ytllpkagplfmlbaa.rdI, hg]
    unfold Go.Proofs.Ytllpkagplfmlbaa.rdT; split
    · exact h2
    · rfl
theorem Fol.qdI {α β : Type} {p : Rdr} {o : Par α} {x : α} (h : Fol (!p.2) p.1 o x) {f : α → Int → β} : Fol (!(qdI p).2.2) (qdI p).2.1 (o.bind fun y => (pI y.2).map fun z => (f y.1 z.1, z.2)) (f x (qdI p).1) := by
  rcases h with ⟨hg, rfl⟩ | ⟨hg, rfl⟩
  · have hg' : p.2 = false := by simpa using hg
    by_cases he : (rint p.1).2.2 = 0
    · refine .inl ⟨by simp [Go.Proofs.Ytllpkagplfmlbaa.qdI, hg', he], ?_⟩
      simp [pI, he, Go.Proofs.Ytllpkagplfmlbaa.qdI]
    · refine .inr ⟨by simp [Go.Proofs.Ytllpkagplfmlbaa.qdI, he], ?_⟩
      simp [pI, he]
  · have hg' : p.2 = true := by simpa using hg
    exact .inr ⟨by unfold Go.Proofs.Ytllpkagplfmlbaa.qdI; split <;> simp [hg'], rfl⟩
theorem Fol.qdT {α β : Type} {p : Rdr} {o : Par α} {x : α} (most : Int) (h : Fol (!p.2) p.1 o x) {f : α → List UInt8 → β} : Fol (!(qdT most p).2.2) (qdT most p).2.1 (o.bind fun y => (pT most y.2).map fun z => (f y.1 z.1, z.2)) (f x (qdT most p).1) := by
  have hqt : ∀ h2 : (Go.Proofs.Ytllpkagplfmlbaa.qdI p).2.2 = true, (Go.Proofs.Ytllpkagplfmlbaa.qdT most p).2.2 = true := by
    intro h2
    unfold Go.Proofs.Ytllpkagplfmlbaa.qdT; split
    · exact h2
    · rfl
  rcases h with ⟨hg, rfl⟩ | ⟨hg, rfl⟩
  · have hg' : p.2 = false := by simpa using hg
    by_cases he : (rint p.1).2.2 = 0
    · have h1 : pI p.1 = some ((Go.Proofs.Ytllpkagplfmlbaa.qdI p).1, (Go.Proofs.Ytllpkagplfmlbaa.qdI p).2.1) := by simp [pI, he, Go.Proofs.Ytllpkagplfmlbaa.qdI]
      have h2 : (Go.Proofs.Ytllpkagplfmlbaa.qdI p).2.2 = false := by simp [Go.Proofs.Ytllpkagplfmlbaa.qdI, hg', he]
      have h3 : pT most p.1 = if 0 ≤ (Go.Proofs.Ytllpkagplfmlbaa.qdI p).1 ∧ (Go.Proofs.Ytllpkagplfmlbaa.qdI p).1 ≤ most ∧ (Go.Proofs.Ytllpkagplfmlbaa.qdI p).1 ≤ (Go.Proofs.Ytllpkagplfmlbaa.qdI p).2.1.length then some ((Go.Proofs.Ytllpkagplfmlbaa.qdI p).2.1.take (Go.Proofs.Ytllpkagplfmlbaa.qdI p).1.toNat, (Go.Proofs.Ytllpkagplfmlbaa.qdI p).2.1.drop (Go.Proofs.Ytllpkagplfmlbaa.qdI p).1.toNat) else none := by simp [pT, h1]
      by_cases hc : 0 ≤ (Go.Proofs.Ytllpkagplfmlbaa.qdI p).1 ∧ (Go.Proofs.Ytllpkagplfmlbaa.qdI p).1 ≤ most ∧ (Go.Proofs.Ytllpkagplfmlbaa.qdI p).1 ≤ (Go.Proofs.Ytllpkagplfmlbaa.qdI p).2.1.length
      · refine .inl ⟨by simp [Go.Proofs.Ytllpkagplfmlbaa.qdT, hc, h2], ?_⟩
        simp [h3, hc, Go.Proofs.Ytllpkagplfmlbaa.qdT]
      · refine .inr ⟨by simp only [Go.Proofs.Ytllpkagplfmlbaa.qdT, if_neg hc, Bool.not_true], ?_⟩
        simp [h3, hc]
    · refine .inr ⟨?_, ?_⟩
      · rw [hqt (by simp [Go.Proofs.Ytllpkagplfmlbaa.qdI, he])]; rfl
      · simp [pT, pI, he]
  · have hg' : p.2 = true := by simpa using hg
    refine .inr ⟨?_, rfl⟩
    rw [hqt (by unfold Go.Proofs.Ytllpkagplfmlbaa.qdI; split <;> simp [hg'])]; rfl

theorem rdT_most {m : Int} (r : Rdr) (hm : 0 ≤ m) : ((rdT m r).1.length : Int) ≤ m := by
  unfold rdT
  split
  · rename_i h
    show (((rdI r).2.1.take _).length : Int) ≤ m
    rw [List.length_take]; omega
  · exact hm
theorem qdI_i64 (r : Rdr) : i64 (qdI r).1 := by
  unfold qdI; split
  · exact rint_i64 _
  · exact i64_zero
theorem qdI_len (r : Rdr) : (qdI r).2.1.length ≤ r.1.length := by
  unfold qdI; split
  · show (r.1.drop _).length ≤ _; rw [List.length_drop]; omega
  · exact Nat.zero_le _
theorem qdT_len (m : Int) (r : Rdr) : (qdT m r).2.1.length ≤ r.1.length := by
  unfold qdT; have := qdI_len r
  split
  · show ((qdI r).2.1.drop _).length ≤ _; rw [List.length_drop]; omega
  · exact this
theorem qdT_most {m : Int} (r : Rdr) (hm : 0 ≤ m) : ((qdT m r).1.length : Int) ≤ m := by
  unfold qdT
  split
  · rename_i h
    show (((qdI r).2.1.take _).length : Int) ≤ m
    rw [List.length_take]; omega
  · exact hm

/-! ### Batches -/

def pRec (l : List UInt8) : Par Rec := (pI l).bind fun t => (pT 1000 t.2).bind fun k => (pT 1000 k.2).map fun v => (⟨k.1, v.1, t.1⟩, v.2)
def bat (xs : List Int) (rs : List Rec) : Bat := ⟨xs.getD 0 0, xs.getD 1 0, xs.getD 2 0, xs.getD 3 0, xs.getD 4 0, rs⟩
def pHead (t : List UInt8) : Par (List Int × Int) := (pMany pI 5 t).bind fun x => (pI x.2).map fun n => ((x.1, n.1), n.2)
def pPart (k : Nat) (t : List UInt8) : Par ((List Int × Int) × List Rec) := (pHead t).bind fun x => (pMany pRec k x.2).map fun y => ((x.1, y.1), y.2)
def pBatch (t : List UInt8) : Option Bat := (pHead t).bind fun x => if 1 ≤ x.1.2 ∧ x.1.2 ≤ 64 then (pMany pRec x.1.2.toNat x.2).bind fun y => if y.2 = [] ∧ right (bat x.1.1 y.1) = 0 then some (bat x.1.1 y.1) else none else none
def zeroB : Bat := ⟨0, 0, 0, 0, 0, []⟩
def readBatch (s : List UInt8) : Bat × Int × Int :=
  if s.length < 8 then (zeroB, 0, 5)
  else if 4088 < four s then (zeroB, 0, 2)
  else if s.length - 8 < four s then (zeroB, 0, 5)
  else if (crc ((s.drop 8).take (four s))).toNat ≠ four (s.drop 4) then (zeroB, 0, 6)
  else match pBatch ((s.drop 8).take (four s)) with
    | some b => (b, 8 + (four s : Int), 0)
    | none => (zeroB, 0, 4)

theorem pPart_zero {good : Bool} {l t : List UInt8} {xs : List Int} {n : Int} (h : Fol good l (pHead t) (xs, n)) : Fol good l (pPart 0 t) ((xs, n), []) := by
  rcases h with ⟨hg, h⟩ | ⟨hg, h⟩
  · exact .inl ⟨hg, by unfold pPart; rw [h]; rfl⟩
  · exact .inr ⟨hg, by unfold pPart; rw [h]; rfl⟩
theorem pHead_of {good : Bool} {l t : List UInt8} {f : (List Int) → Int → List Int × Int} {y} (hf : f = fun a b => (a, b)) (h : Fol good l ((pMany pI 5 t).bind fun y => (pI y.2).map fun z => (f y.1 z.1, z.2)) y) : Fol good l (pHead t) y := by subst hf; exact h
/-- One record more. -/
theorem pPart_next {good : Bool} {l t : List UInt8} {k : Nat} {x : (List Int × Int) × List Rec} {r : Rec}
    (h : Fol good l ((((pPart k t).bind fun y => (pI y.2).map fun z => ((y.1, z.1), z.2)).bind fun y => (pT 1000 y.2).map fun z => ((y.1, z.1), z.2)).bind fun y => (pT 1000 y.2).map fun z => ((y.1, z.1), z.2)) (((x, r.time), r.key), r.value)) :
    Fol good l (pPart (k + 1) t) (x.1, x.2 ++ [r]) := by
  have e : pPart (k + 1) t = ((((pPart k t).bind fun y => (pI y.2).map fun z => ((y.1, z.1), z.2)).bind fun y => (pT 1000 y.2).map fun z => ((y.1, z.1), z.2)).bind fun y => (pT 1000 y.2).map fun z => ((y.1, z.1), z.2)).map fun w => ((w.1.1.1.1.1, w.1.1.1.1.2 ++ [⟨w.1.1.2, w.1.2, w.1.1.1.2⟩]), w.2) := by
    unfold pPart
    cases pHead t with
    | none => rfl
    | some x =>
      simp only [Option.bind_some, pMany]
      cases pMany pRec k x.2 with
      | none => rfl
      | some y =>
        simp only [Option.map_some, Option.bind_some, pRec]
        cases pI y.2 with
        | none => rfl
        | some z =>
          simp only [Option.map_some, Option.bind_some]
          cases pT 1000 z.2 with
          | none => rfl
          | some u =>
            simp only [Option.map_some, Option.bind_some]
            cases pT 1000 u.2 with
            | none => rfl
            | some v => rfl
  rcases h with ⟨hg, h⟩ | ⟨hg, h⟩
  · exact .inl ⟨hg, by rw [e, h]; rfl⟩
  · exact .inr ⟨hg, by rw [e, h]; rfl⟩
theorem pPart_none {k m : Nat} {t : List UInt8} (h : pPart k t = none) (hm : k ≤ m) : pPart m t = none := by
  unfold pPart at h ⊢
  cases hh : pHead t with
  | none => rfl
  | some x =>
    rw [hh] at h
    simp only [Option.bind_some, Option.map_eq_none_iff] at h ⊢
    exact pMany_none h m hm
theorem pBatch_some {t : List UInt8} {xs : List Int} {n : Int} {rs : List Rec} (h : pPart n.toNat t = some (((xs, n), rs), [])) (h1 : 1 ≤ n ∧ n ≤ 64) (hr : right (bat xs rs) = 0) : pBatch t = some (bat xs rs) := by
  unfold pPart at h; unfold pBatch
  cases hh : pHead t with
  | none => rw [hh] at h; cases h
  | some x =>
    rw [hh] at h
    simp only [Option.bind_some, Option.map_eq_some_iff] at h ⊢
    obtain ⟨y, hy, e⟩ := h
    obtain ⟨⟨x1, x2⟩, x3⟩ := x
    obtain ⟨y1, y2⟩ := y
    cases e
    rw [if_pos h1, hy]
    simp [hr]
theorem pBatch_inv {t : List UInt8} {b : Bat} (h : pBatch t = some b) : ∃ xs n rs, pPart n.toNat t = some (((xs, n), rs), []) ∧ (1 ≤ n ∧ n ≤ 64) ∧ right (bat xs rs) = 0 ∧ b = bat xs rs := by
  unfold pBatch at h
  cases hh : pHead t with
  | none => rw [hh] at h; cases h
  | some x =>
    rw [hh] at h
    simp only [Option.bind_some] at h
    split at h
    · rename_i h1
      cases hy : pMany pRec x.1.2.toNat x.2 with
      | none => rw [hy] at h; cases h
      | some y =>
        rw [hy] at h
        simp only [Option.bind_some] at h
        split at h
        · rename_i h2
          cases h
          obtain ⟨⟨x1, x2⟩, x3⟩ := x
          obtain ⟨y1, y2⟩ := y
          obtain ⟨rfl, h3⟩ := h2
          exact ⟨x1, x2, y1, by unfold pPart; rw [hh]; simp only [Option.bind_some]; rw [hy]; rfl, h1, h3, rfl⟩
        · cases h
    · cases h
theorem pPart_head {t : List UInt8} {k : Nat} {x rs l} (h : pPart k t = some ((x, rs), l)) : ∃ m, pHead t = some (x, m) := by
  unfold pPart at h
  cases hh : pHead t with
  | none => rw [hh] at h; cases h
  | some x =>
    rw [hh] at h
    simp only [Option.bind_some, Option.map_eq_some_iff] at h
    obtain ⟨y, hy, e⟩ := h
    cases e
    exact ⟨_, rfl⟩
/-- The program is at its loop's end: all was well. -/
theorem pBatch_yes {good : Bool} {l t : List UInt8} {xs n rs} (h : Fol good l (pPart rs.length t) ((xs, n), rs)) (hn : rs.length = n) (hg : good = true) (hl : l = []) (hr : right (bat xs rs) = 0) (h1 : 1 ≤ n ∧ n ≤ 64) : pBatch t = some (bat xs rs) := by
  rcases h with ⟨_, h⟩ | ⟨h, _⟩
  · subst hl; subst hn; exact pBatch_some (by rw [Int.toNat_natCast]; exact h) h1 hr
  · rw [hg] at h; cases h
/-- Or not. -/
theorem pBatch_no {good : Bool} {l t : List UInt8} {xs n rs} (h : Fol good l (pPart rs.length t) ((xs, n), rs)) (hw : ¬ (good = true ∧ l = [] ∧ right (bat xs rs) = 0)) (hx : good = true → 1 ≤ n → n ≤ 64 → rs.length = n) (hle : good = false → 1 ≤ n → n ≤ 64 → (rs.length : Int) ≤ n) (hsame : good = false → pHead t = none ∨ ∃ m, pHead t = some ((xs, n), m)) : pBatch t = none := by
  cases hb : pBatch t with
  | none => rfl
  | some b =>
    exfalso
    obtain ⟨xs', n', rs', h1, h2, h3, rfl⟩ := pBatch_inv hb
    obtain ⟨m', hm'⟩ := pPart_head h1
    rcases h with ⟨hg, h⟩ | ⟨hg, h⟩
    · obtain ⟨m, hm⟩ := pPart_head h
      rw [hm] at hm'; cases hm'
      have := hx hg h2.1 h2.2
      rw [← this] at h1
      rw [show (((rs.length : Nat) : Int)).toNat = rs.length from rfl, h] at h1
      cases h1
      exact hw ⟨hg, rfl, h3⟩
    · rcases hsame hg with h4 | ⟨m, h4⟩
      · rw [h4] at hm'; cases hm'
      · rw [h4] at hm'; cases hm'
        have := hle hg h2.1 h2.2
        rw [pPart_none h (by omega)] at h1; cases h1
theorem Fol.head {good : Bool} {l t : List UInt8} {k : Nat} {x rs} (h : Fol good l (pHead t) x) {good' : Bool} {l' : List UInt8} (_ : Fol good' l' (pPart k t) (x, rs)) : pHead t = none ∨ ∃ m, pHead t = some (x, m) := by
  rcases h with ⟨_, h⟩ | ⟨_, h⟩
  · exact .inr ⟨_, h⟩
  · exact .inl h

def vec (xs : List Int) : List Value := (xs ++ List.replicate (5 - xs.length) 0).map (Value.int .i64)
theorem vec_set {xs : List Int} (h : xs.length < 5) (x : Int) (s : List Value) : (vec xs ++ s).set xs.length (.int .i64 x) = vec (xs ++ [x]) ++ s := by
  match xs, h with
  | [], _ => rfl
  | [_], _ => rfl
  | [_, _], _ => rfl
  | [_, _, _], _ => rfl
  | [_, _, _, _], _ => rfl
theorem vec_five {xs : List Int} (h : xs.length = 5) : vec xs = [.int .i64 (xs.getD 0 0), .int .i64 (xs.getD 1 0), .int .i64 (xs.getD 2 0), .int .i64 (xs.getD 3 0), .int .i64 (xs.getD 4 0)] := by
  match xs, h with
  | [_, _, _, _, _], _ => rfl
theorem bat_cells {xs : List Int} (h : xs.length = 5) (rs : List Rec) (a c) : (bat xs rs).cells a c = vec xs ++ [.slice a rs.length c] := by rw [vec_five h]; rfl
theorem bat_fits {xs : List Int} {rs : List Rec} (h5 : xs.length = 5) (h : ∀ x ∈ xs, i64 x) (hr : ∀ r ∈ rs, i64 r.time ∧ r.key.length ≤ 1000 ∧ r.value.length ≤ 1000) (hn : rs.length ≤ 65) : (bat xs rs).fits := by
  match xs, h5 with
  | [a, b, c, d, e], _ =>
    exact ⟨h _ (by simp [bat]), h _ (by simp [bat]), h _ (by simp [bat]), h _ (by simp [bat]), h _ (by simp [bat]), fun r h => (hr r h).1, fun r h => by have := (hr r h).2.1; omega, fun r h => by have := (hr r h).2.2; omega, by show rs.length * 40 ≤ _; omega⟩
end Go.Proofs.Ytllpkagplfmlbaa

/- Chapter 3: reading a batch, in plain Lean: the cases. -/
namespace Go.Proofs.Ytllpkagplfmlbaa
open Go Go.Sp

section
variable {s : List UInt8}
theorem readBatch_short (h : s.length < 8) : readBatch s = (zeroB, 0, 5) := if_pos h
theorem readBatch_long (h : ¬ s.length < 8) (h2 : 4088 < four s) : readBatch s = (zeroB, 0, 2) := by unfold readBatch; rw [if_neg h, if_pos h2]
theorem readBatch_cut (h : ¬ s.length < 8) (h2 : ¬ 4088 < four s) (h3 : s.length - 8 < four s) : readBatch s = (zeroB, 0, 5) := by unfold readBatch; rw [if_neg h, if_neg h2, if_pos h3]
theorem readBatch_sum {t : List UInt8} (h : ¬ s.length < 8) (h2 : ¬ 4088 < four s) (h3 : ¬ s.length - 8 < four s) (ht : t = (s.drop 8).take (four s)) (h4 : (crc t).toNat ≠ four (s.drop 4)) : readBatch s = (zeroB, 0, 6) := by
  subst ht; unfold readBatch; rw [if_neg h, if_neg h2, if_neg h3, if_pos h4]
theorem readBatch_no {t : List UInt8} (h : ¬ s.length < 8) (h2 : ¬ 4088 < four s) (h3 : ¬ s.length - 8 < four s) (ht : t = (s.drop 8).take (four s)) (h4 : (crc t).toNat = four (s.drop 4)) (hb : pBatch t = none) : readBatch s = (zeroB, 0, 4) := by
  subst ht; unfold readBatch; rw [if_neg h, if_neg h2, if_neg h3, if_neg (by omega), hb]
theorem readBatch_yes {t : List UInt8} {b : Bat} (h : ¬ s.length < 8) (h2 : ¬ 4088 < four s) (h3 : ¬ s.length - 8 < four s) (ht : t = (s.drop 8).take (four s)) (h4 : (crc t).toNat = four (s.drop 4)) (hb : pBatch t = some b) : readBatch s = (b, 8 + (four s : Int), 0) := by
  subst ht; unfold readBatch; rw [if_neg h, if_neg h2, if_neg h3, if_neg (by omega), hb]
end
theorem five_of {xs : List Int} (h : xs.length = 5) : ∃ a b c d e, xs = [a, b, c, d, e] := by
  match xs, h with
  | [a, b, c, d, e], _ => exact ⟨a, b, c, d, e, rfl⟩
theorem ptr_at (b : Nat) {i : Nat} (h : i < 5) : (#[Value.pointer (some ⟨b, 0, none⟩), .pointer (some ⟨b, 1, none⟩), .pointer (some ⟨b, 2, none⟩), .pointer (some ⟨b, 3, none⟩), .pointer (some ⟨b, 4, none⟩)] : Array Value)[i]? = some (.pointer (some ⟨b, i, none⟩)) := by
  match i, h with
  | 0, _ => rfl
  | 1, _ => rfl
  | 2, _ => rfl
  | 3, _ => rfl
  | 4, _ => rfl
theorem vec_len {xs : List Int} (h : xs.length ≤ 5) : (vec xs).length = 5 := by unfold vec; rw [List.length_map, List.length_append, List.length_replicate]; omega
theorem pMany_next {good : Bool} {l t : List UInt8} {xs : List Int} {x : Int} (h : Fol good l ((pMany pI xs.length t).bind fun y => (pI y.2).map fun z => (y.1 ++ [z.1], z.2)) (xs ++ [x])) : Fol good l (pMany pI (xs ++ [x]).length t) (xs ++ [x]) := by rw [List.length_append]; exact h
theorem all_snoc {α : Type} {p : α → Prop} {l : List α} {x : α} (h : ∀ y ∈ l, p y) (hx : p x) : ∀ y ∈ l ++ [x], p y := by
  intro y hy
  rcases List.mem_append.1 hy with hy | hy
  · exact h y hy
  · simp at hy; exact hy ▸ hx
/-- What was read so far. -/
structure Far (n : Int) (rs : List Rec) : Prop where
  most : rs.length ≤ 65
  le : rs = [] ∨ (rs.length : Int) ≤ n
  ok : ∀ r ∈ rs, i64 r.time ∧ r.key.length ≤ 1000 ∧ r.value.length ≤ 1000
theorem Far.nil (n : Int) : Far n [] := ⟨by simp, .inl rfl, by simp⟩
theorem Far.snoc {n : Int} {rs : List Rec} {r : Rec} (h : Far n rs) (hn : (rs.length : Int) < n) (h64 : rs.length ≤ 64) (hr : i64 r.time ∧ r.key.length ≤ 1000 ∧ r.value.length ≤ 1000) : Far n (rs ++ [r]) :=
  ⟨by simp; omega, .inr (by simp; omega), all_snoc h.ok hr⟩
theorem right_many {b : Bat} (h : right b = 0) : 1 ≤ b.recs.length ∧ b.recs.length ≤ 64 := by
  by_cases hno : b.off
  · rw [right_off hno] at h; cases h
  · have h1 : 1 ≤ b.recs.length := by unfold Bat.off at hno; omega
    exact ⟨h1, (right_zero h).1.n⟩
end Go.Proofs.Ytllpkagplfmlbaa

/- Chapter 3: records of metadata, in plain Lean. -/
namespace Go.Proofs.Ytllpkagplfmlbaa
open Go Go.Sp

structure Met where
  kind : Int
  a : Int
  b : Int
  c : Int
  d : Int
  name : List UInt8
  text : List UInt8
  list : List Int
def icell (n : Int) : List Value := [.int .i64 n]
theorem icell_len (n : Int) : (icell n).length = 1 := rfl
def Met.cells (m : Met) (p : Option Addr) (k : Nat) : List Value := [.int .i64 m.kind, .int .i64 m.a, .int .i64 m.b, .int .i64 m.c, .int .i64 m.d, .string (str m.name), .string (str m.text), .slice p m.list.length k]
structure Met.fits (m : Met) : Prop where
  kind : i64 m.kind
  a : i64 m.a
  b : i64 m.b
  c : i64 m.c
  d : i64 m.d
  name : m.name.length ≤ 140737488351232
  text : m.text.length ≤ 140737488351232
  ints : ∀ n ∈ m.list, i64 n
  len : m.list.length * 8 ≤ 140737488351232
def five (m : Met) : List Int := [m.kind, m.a, m.b, m.c, m.d]
def etext (s : List UInt8) : List UInt8 := eint (s.length : Int) ++ s
def mhead (m : Met) : List UInt8 := (five m).flatMap eint ++ eint (m.name.length : Int) ++ m.name ++ eint (m.text.length : Int) ++ m.text ++ eint (m.list.length : Int)
def mbody (m : Met) : List UInt8 := mhead m ++ m.list.flatMap eint
def wmeta (m : Met) : List UInt8 × Int :=
  if 32 < m.name.length ∨ 1000 < m.text.length then ([], 2)
  else if 64 < m.list.length then ([], 3)
  else if 2044 < (mbody m).length then ([], 2)
  else (fours (crc (mbody m)).toNat ++ mbody m, 0)
theorem five_ok {m : Met} (h : m.fits) : ∀ n ∈ five m, i64 n := fun n hn => by
  simp only [five, List.mem_cons, List.not_mem_nil, or_false] at hn
  rcases hn with rfl | rfl | rfl | rfl | rfl
  · exact h.kind
  · exact h.a
  · exact h.b
  · exact h.c
  · exact h.d
theorem five_at {m : Met} {i : Nat} {n : Int} (h : (five m)[i]? = some n) : (#[Value.int .i64 m.kind, .int .i64 m.a, .int .i64 m.b, .int .i64 m.c, .int .i64 m.d] : Array Value)[i]? = some (.int .i64 n) := by
  have : (#[Value.int .i64 m.kind, .int .i64 m.a, .int .i64 m.b, .int .i64 m.c, .int .i64 m.d] : Array Value) = ((five m).map (Value.int .i64)).toArray := rfl
  rw [this, List.getElem?_toArray, List.getElem?_map, h]; rfl
theorem five_len {m : Met} (hf : m.fits) (i : Nat) : (((five m).take i).flatMap eint).length ≤ 50 := by
  have h1 := flat_le (f := eint) (k := 10) ((five m).take i) fun n hn => eint_len (five_ok hf n (List.mem_of_mem_take hn))
  have h2 : ((five m).take i).length ≤ 5 := by rw [List.length_take]; exact Nat.min_le_right _ _
  omega
structure Met.small (m : Met) : Prop where
  name : m.name.length ≤ 32
  text : m.text.length ≤ 1000
  list : m.list.length ≤ 64
theorem mhead_len {m : Met} (hf : m.fits) (hs : m.small) : (mhead m).length ≤ 2000 := by
  have h1 := five_len hf 5
  rw [show (five m).take 5 = five m from rfl] at h1
  obtain ⟨h2, h3, h4⟩ := hs
  have e1 := eint_len (n := (m.name.length : Int)) ⟨by omega, by omega⟩
  have e2 := eint_len (n := (m.text.length : Int)) ⟨by omega, by omega⟩
  have e3 := eint_len (n := (m.list.length : Int)) ⟨by omega, by omega⟩
  unfold mhead; simp only [List.length_append]; omega
theorem list_len {m : Met} (hf : m.fits) (hs : m.small) (j : Nat) : ((m.list.take j).flatMap eint).length ≤ 640 := by
  have h1 := flat_le (f := eint) (k := 10) (m.list.take j) fun n hn => eint_len (hf.ints n (List.mem_of_mem_take hn))
  have h2 : (m.list.take j).length ≤ 64 := by have := hs.list; rw [List.length_take]; omega
  omega
theorem wmeta_long {m : Met} (h : 32 < m.name.length ∨ 1000 < m.text.length) : wmeta m = ([], 2) := if_pos h
theorem wmeta_many {m : Met} (h : ¬ (32 < m.name.length ∨ 1000 < m.text.length)) (h2 : 64 < m.list.length) : wmeta m = ([], 3) := by unfold wmeta; rw [if_neg h, if_pos h2]
theorem wmeta_much {m : Met} (hs : m.small) (h : 2044 < (mbody m).length) : wmeta m = ([], 2) := by
  obtain ⟨h1, h2, h3⟩ := hs
  unfold wmeta; rw [if_neg (by omega), if_neg (by omega), if_pos h]
theorem wmeta_good {m : Met} (hs : m.small) (h : ¬ 2044 < (mbody m).length) : wmeta m = (fours (crc (mbody m)).toNat ++ mbody m, 0) := by
  obtain ⟨h1, h2, h3⟩ := hs
  unfold wmeta; rw [if_neg (by omega), if_neg (by omega), if_neg h]
/-- A written record of metadata is small. -/
theorem wmeta_zero {m : Met} (h : (wmeta m).2 = 0) : m.small ∧ (mbody m).length ≤ 2044 ∧ (wmeta m).1 = fours (crc (mbody m)).toNat ++ mbody m := by
  unfold wmeta at h ⊢
  split at h
  · cases h
  · split at h
    · cases h
    · split at h
      · cases h
      · rename_i h1 h2 h3
        rw [if_neg h1, if_neg h2, if_neg h3]
        exact ⟨⟨by omega, by omega, by omega⟩, by omega, rfl⟩
end Go.Proofs.Ytllpkagplfmlbaa

/- Chapter 3: bytes as a record of metadata, in plain Lean. -/
namespace Go.Proofs.Ytllpkagplfmlbaa
open Go Go.Sp

abbrev MH := ((List Int × List UInt8) × List UInt8) × Int
def pMHead (t : List UInt8) : Par MH := (((pMany pI 5 t).bind fun y => (pT 32 y.2).map fun z => ((y.1, z.1), z.2)).bind fun y => (pT 1000 y.2).map fun z => ((y.1, z.1), z.2)).bind fun y => (pI y.2).map fun z => ((y.1, z.1), z.2)
def pMPart (k : Nat) (t : List UInt8) : Par (MH × List Int) := (pMHead t).bind fun x => (pMany pI k x.2).map fun y => ((x.1, y.1), y.2)
def met (x : MH) (l : List Int) : Met := ⟨x.1.1.1.getD 0 0, x.1.1.1.getD 1 0, x.1.1.1.getD 2 0, x.1.1.1.getD 3 0, x.1.1.1.getD 4 0, x.1.1.2, x.1.2, l⟩
def pMeta (t : List UInt8) : Option Met := (pMHead t).bind fun x => if 0 ≤ x.1.2 ∧ x.1.2 ≤ 64 then (pMany pI x.1.2.toNat x.2).bind fun y => if y.2 = [] then some (met x.1 y.1) else none else none
def zeroM : Met := ⟨0, 0, 0, 0, 0, [], [], []⟩
def readMeta (s : List UInt8) : Met × Int :=
  if s.length < 4 then (zeroM, 5)
  else if 2048 < s.length then (zeroM, 2)
  else if (crc (s.drop 4)).toNat ≠ four s then (zeroM, 6)
  else match pMeta (s.drop 4) with
    | some m => (m, 0)
    | none => (zeroM, 4)
section
variable {s : List UInt8}
theorem readMeta_short (h : s.length < 4) : readMeta s = (zeroM, 5) := if_pos h
theorem readMeta_long (h : ¬ s.length < 4) (h2 : 2048 < s.length) : readMeta s = (zeroM, 2) := by unfold readMeta; rw [if_neg h, if_pos h2]
theorem readMeta_sum (h : ¬ s.length < 4) (h2 : ¬ 2048 < s.length) (h3 : (crc (s.drop 4)).toNat ≠ four s) : readMeta s = (zeroM, 6) := by unfold readMeta; rw [if_neg h, if_neg h2, if_pos h3]
theorem readMeta_no (h : ¬ s.length < 4) (h2 : ¬ 2048 < s.length) (h3 : (crc (s.drop 4)).toNat = four s) (hm : pMeta (s.drop 4) = none) : readMeta s = (zeroM, 4) := by unfold readMeta; rw [if_neg h, if_neg h2, if_neg (by omega), hm]
theorem readMeta_yes {m : Met} (h : ¬ s.length < 4) (h2 : ¬ 2048 < s.length) (h3 : (crc (s.drop 4)).toNat = four s) (hm : pMeta (s.drop 4) = some m) : readMeta s = (m, 0) := by unfold readMeta; rw [if_neg h, if_neg h2, if_neg (by omega), hm]
end
theorem pMPart_zero {good : Bool} {l t : List UInt8} {x : MH} (h : Fol good l (pMHead t) x) : Fol good l (pMPart 0 t) (x, []) := by
  rcases h with ⟨hg, h⟩ | ⟨hg, h⟩
  · exact .inl ⟨hg, by unfold pMPart; rw [h]; rfl⟩
  · exact .inr ⟨hg, by unfold pMPart; rw [h]; rfl⟩
theorem pMPart_next {good : Bool} {l t : List UInt8} {x : MH} {rs : List Int} {n : Int} (h : Fol good l ((pMPart rs.length t).bind fun y => (pI y.2).map fun z => ((y.1, z.1), z.2)) ((x, rs), n)) : Fol good l (pMPart (rs ++ [n]).length t) (x, rs ++ [n]) := by
  have e : pMPart (rs ++ [n]).length t = ((pMPart rs.length t).bind fun y => (pI y.2).map fun z => ((y.1, z.1), z.2)).map fun w => ((w.1.1.1, w.1.1.2 ++ [w.1.2]), w.2) := by
    rw [List.length_append]
    unfold pMPart
    cases pMHead t with
    | none => rfl
    | some x =>
      show (Option.bind (pMany pI rs.length x.2) _).map _ = _
      simp only [Option.bind_some]
      cases pMany pI rs.length x.2 with
      | none => rfl
      | some y =>
        simp only [Option.map_some, Option.bind_some]
        cases pI y.2 with
        | none => rfl
        | some z => rfl
  rcases h with ⟨hg, h⟩ | ⟨hg, h⟩
  · exact .inl ⟨hg, by rw [e, h]; rfl⟩
  · exact .inr ⟨hg, by rw [e, h]; rfl⟩
theorem pMeta_range {good : Bool} {l t : List UInt8} {x : MH} (h : Fol good l (pMHead t) x) (hn : ¬ (0 ≤ x.2 ∧ x.2 ≤ 64)) : pMeta t = none := by
  unfold pMeta
  rcases h with ⟨_, h⟩ | ⟨_, h⟩
  · rw [h]; exact if_neg hn
  · rw [h]; rfl
theorem pMPart_none {k m : Nat} {t : List UInt8} (h : pMPart k t = none) (hm : k ≤ m) : pMPart m t = none := by
  unfold pMPart at h ⊢
  cases hh : pMHead t with
  | none => rfl
  | some x =>
    rw [hh] at h
    simp only [Option.bind_some, Option.map_eq_none_iff] at h ⊢
    exact pMany_none h m hm
theorem pMPart_meta {t : List UInt8} {x : MH} {m : List UInt8} (hh : pMHead t = some (x, m)) (hn : 0 ≤ x.2 ∧ x.2 ≤ 64) : pMeta t = (pMPart x.2.toNat t).bind fun y => if y.2 = [] then some (met y.1.1 y.1.2) else none := by
  unfold pMeta pMPart
  rw [hh]
  simp only [Option.bind_some]
  rw [if_pos hn]
  cases pMany pI x.2.toNat m with
  | none => rfl
  | some y => rfl
theorem pMeta_nohead {t : List UInt8} (hh : pMHead t = none) : pMeta t = none := by unfold pMeta; rw [hh]; rfl
theorem pMPart_head {t : List UInt8} {k : Nat} {x rs l} (h : pMPart k t = some ((x, rs), l)) : ∃ m, pMHead t = some (x, m) := by
  unfold pMPart at h
  cases hh : pMHead t with
  | none => rw [hh] at h; cases h
  | some x =>
    rw [hh] at h
    simp only [Option.bind_some, Option.map_eq_some_iff] at h
    obtain ⟨y, hy, e⟩ := h
    cases e
    exact ⟨_, rfl⟩
/-- At the end of the numbers: all was well. -/
theorem pMeta_yes {good : Bool} {l t : List UInt8} {x : MH} {rs : List Int} (h : Fol good l (pMPart rs.length t) (x, rs)) (hn : (rs.length : Int) = x.2) (hg : good = true) (hl : l = []) (hr : 0 ≤ x.2 ∧ x.2 ≤ 64) : pMeta t = some (met x rs) := by
  rcases h with ⟨_, h⟩ | ⟨h, _⟩
  · obtain ⟨m, hm⟩ := pMPart_head h
    rw [pMPart_meta hm hr, ← hn, Int.toNat_natCast, h]
    exact if_pos hl
  · rw [hg] at h; cases h
/-- Or not. -/
theorem pMeta_no {good good' : Bool} {l l' t : List UInt8} {x : MH} {rs : List Int} (hH : Fol good' l' (pMHead t) x) (h : Fol good l (pMPart rs.length t) (x, rs)) (hr : 0 ≤ x.2 ∧ x.2 ≤ 64) (hw : ¬ (good = true ∧ l = [])) (hx : good = true → (rs.length : Int) = x.2) (hle : (rs.length : Int) ≤ x.2) : pMeta t = none := by
  rcases hH with ⟨_, hH⟩ | ⟨_, hH⟩
  · rw [pMPart_meta hH hr]
    rcases h with ⟨hg, h⟩ | ⟨hg, h⟩
    · rw [← hx hg, Int.toNat_natCast, h]
      exact if_neg fun e => hw ⟨hg, e⟩
    · rw [pMPart_none h (by omega)]; rfl
  · exact pMeta_nohead hH
theorem met_cells {x0 x1 x2 x3 x4 : Int} {nm tx : List UInt8} {n : Int} (rs : List Int) (a c) : (met ((([x0, x1, x2, x3, x4], nm), tx), n) rs).cells a c = [.int .i64 x0, .int .i64 x1, .int .i64 x2, .int .i64 x3, .int .i64 x4, .string (str nm), .string (str tx), .slice a rs.length c] := rfl
end Go.Proofs.Ytllpkagplfmlbaa

/- Chapter 3: what is written is read as it was; in plain Lean. -/
namespace Go.Proofs.Ytllpkagplfmlbaa
open Go Go.Sp

theorem toNat_ofNat8 {n : Nat} (h : n < 256) : (UInt8.ofNat n).toNat = n := by rw [UInt8.toNat_ofNat']; omega
theorem rintGo_vint : ∀ (f i z w : Nat) (l : List UInt8), i + f = 10 → w * 128 ^ i < 18446744073709551616 → (i = 0 ∨ 0 < w) → 0 < f → rintGo f i z (vint w ++ l) = (zag (z + w * 128 ^ i), i + (vint w).length, 0)
  | 0, _, _, _, _, _, _, _, h => absurd h (by omega)
  | f + 1, i, z, w, l, hif, hw, hp, _ => by
    have h9 : i = 9 → w < 2 := fun e => by
      subst e
      have : (128 : Nat) ^ 9 = 9223372036854775808 := by decide
      rw [this] at hw; omega
    by_cases h : w < 128
    · rw [vint_small h]
      show rintGo (f + 1) i z (UInt8.ofNat w :: l) = _
      unfold rintGo
      rw [toNat_ofNat8 (by omega), if_neg (by intro ⟨a, b⟩; have := h9 a; omega), if_neg (by omega), if_neg (by omega), Nat.mod_eq_of_lt h]; rfl
    · rw [vint_big h]
      show rintGo (f + 1) i z (UInt8.ofNat (w % 128 + 128) :: (vint (w / 128) ++ l)) = _
      have hi : i ≠ 9 := fun e => by have := h9 e; omega
      have e1 : w * 128 ^ i = w / 128 * 128 ^ (i + 1) + w % 128 * 128 ^ i := by
        rw [Nat.pow_succ, Nat.mul_comm (128 ^ i) 128, ← Nat.mul_assoc, ← Nat.add_mul]
        congr 1; omega
      unfold rintGo
      rw [toNat_ofNat8 (by omega), if_neg (by intro ⟨a, _⟩; exact hi a), if_pos (by omega), show (w % 128 + 128) % 128 = w % 128 by omega,
        rintGo_vint f (i + 1) _ (w / 128) l (by omega) (by omega) (.inr (by omega)) (by omega), e1]
      simp only [List.length_cons]
      congr 2
      · omega
      · omega
theorem rint_eint {n : Int} (h : i64 n) (l : List UInt8) : rint (eint n ++ l) = (n, (eint n).length, 0) := by
  have := rintGo_vint 10 0 0 (zig n) l rfl (by have := zig_lt h; omega) (.inl rfl) (by omega)
  unfold rint eint; rw [this]
  simp [zag_zig]
theorem pI_eint {n : Int} (h : i64 n) (l : List UInt8) : pI (eint n ++ l) = some (n, l) := by
  unfold pI; rw [rint_eint h]; simp
theorem eint_inj {n k : Int} (hn : i64 n) (hk : i64 k) : eint n = eint k ↔ n = k :=
  ⟨fun h => by have h1 := pI_eint hn []; rw [h, pI_eint hk] at h1; cases h1; rfl, fun h => by rw [h]⟩
theorem pT_text {s : List UInt8} {most : Int} (h : (s.length : Int) ≤ most) (hm : most ≤ 9000000000000000000) (l : List UInt8) : pT most (eint (s.length : Int) ++ (s ++ l)) = some (s, l) := by
  unfold pT; rw [pI_eint ⟨by omega, by omega⟩]
  simp only [Option.bind_some]
  rw [if_pos ⟨by omega, h, by rw [List.length_append]; omega⟩]
  simp
theorem pMany_flat {α : Type} {p : List UInt8 → Par α} {e : α → List UInt8} (xs : List α) (hp : ∀ x ∈ xs, ∀ l, p (e x ++ l) = some (x, l)) (l : List UInt8) : ∀ n, n ≤ xs.length → pMany p n (xs.flatMap e ++ l) = some (xs.take n, (xs.drop n).flatMap e ++ l)
  | 0, _ => by simp [pMany]
  | n + 1, h => by
    obtain ⟨x, hx⟩ : ∃ x, xs[n]? = some x := ⟨_, List.getElem?_eq_getElem (by omega)⟩
    have hd : xs.drop n = x :: xs.drop (n + 1) := by
      rw [List.getElem?_eq_getElem (by omega)] at hx
      cases hx
      exact (List.drop_eq_getElem_cons (by omega))
    rw [pMany, pMany_flat xs hp l n (by omega)]
    simp only [Option.bind_some]
    rw [hd, List.flatMap_cons, List.append_assoc, hp x (List.mem_of_getElem? hx)]
    simp [List.take_add_one, hx]
theorem pMany_all {α : Type} {p : List UInt8 → Par α} {e : α → List UInt8} (xs : List α) (hp : ∀ x ∈ xs, ∀ l, p (e x ++ l) = some (x, l)) (l : List UInt8) : pMany p xs.length (xs.flatMap e ++ l) = some (xs, l) := by
  rw [pMany_flat xs hp l _ (Nat.le_refl _)]; simp

theorem pRec_rec {r : Rec} (ht : i64 r.time) (hk : r.key.length ≤ 1000) (hv : r.value.length ≤ 1000) (l : List UInt8) : pRec (recBody r ++ l) = some (r, l) := by
  unfold pRec recBody
  have e : eint r.time ++ eint (r.key.length : Int) ++ r.key ++ eint (r.value.length : Int) ++ r.value ++ l = eint r.time ++ (eint (r.key.length : Int) ++ (r.key ++ (eint (r.value.length : Int) ++ (r.value ++ l)))) := by simp only [List.append_assoc]
  rw [e, pI_eint ht]
  simp only [Option.bind_some]
  rw [pT_text (by omega) (by omega)]
  simp only [Option.bind_some]
  rw [pT_text (by omega) (by omega)]
  rfl
theorem pBatch_body {b : Bat} (hf : b.fits) (hr : right b = 0) : pBatch (body b) = some b := by
  obtain ⟨hs, _⟩ := right_zero hr
  have hmany := right_many hr
  have e : body b = [b.base, b.epoch, b.pid, b.pidEpoch, b.seq].flatMap eint ++ (eint (b.recs.length : Int) ++ (b.recs.flatMap recBody ++ [])) := by simp [body]
  have h1 := pMany_all (p := pI) (e := eint) [b.base, b.epoch, b.pid, b.pidEpoch, b.seq] (fun x hx l => pI_eint (six_ok hf x (by simp only [six, List.mem_cons, List.not_mem_nil, or_false] at hx ⊢; omega)) l) (eint (b.recs.length : Int) ++ (b.recs.flatMap recBody ++ []))
  have h2 : pHead (body b) = some (([b.base, b.epoch, b.pid, b.pidEpoch, b.seq], (b.recs.length : Int)), b.recs.flatMap recBody ++ []) := by
    unfold pHead; rw [e]
    rw [show pMany pI 5 _ = _ from h1]
    simp only [Option.bind_some]
    rw [pI_eint ⟨by omega, by omega⟩]; rfl
  have h3 := pMany_all (p := pRec) (e := recBody) b.recs (fun r hr l => pRec_rec (hf.time r hr) (hs.k r hr).1 (hs.k r hr).2 l) []
  unfold pBatch; rw [h2]
  simp only [Option.bind_some]
  rw [if_pos ⟨by omega, by omega⟩, Int.toNat_natCast, h3]
  exact if_pos ⟨rfl, hr⟩

theorem four_append {l m : List UInt8} (h : 4 ≤ l.length) : four (l ++ m) = four l := by
  match l, h with
  | a :: b :: c :: d :: t, _ => rfl
/-- A written batch, whatever stands behind it. -/
theorem read_write {b : Bat} (hf : b.fits) (hr : right b = 0) (more : List UInt8) : readBatch ((wbatch b).1 ++ more) = (b, ((wbatch b).1.length : Int), 0) := by
  obtain ⟨hs, hbl⟩ := right_zero hr
  rw [wbatch_yes hr]
  show readBatch (fours (body b).length ++ fours (crc (body b)).toNat ++ body b ++ more) = _
  have hcl : (crc (body b)).toNat < 4294967296 := (crc (body b)).isLt
  have e4 : four (fours (body b).length ++ fours (crc (body b)).toNat ++ body b ++ more) = (body b).length := by
    rw [List.append_assoc, List.append_assoc, four_fours (by omega)]
  have e8 : (fours (body b).length ++ fours (crc (body b)).toNat ++ body b ++ more).drop 4 = fours (crc (body b)).toNat ++ (body b ++ more) := by
    rw [List.append_assoc, List.append_assoc]; exact List.drop_left' rfl
  have e9 : (fours (body b).length ++ fours (crc (body b)).toNat ++ body b ++ more).drop 8 = body b ++ more := by
    rw [List.append_assoc (fours (body b).length ++ fours (crc (body b)).toNat)]; exact List.drop_left' rfl
  have el : (fours (body b).length ++ fours (crc (body b)).toNat ++ body b ++ more).length = 8 + (body b).length + more.length := by
    simp only [List.length_append, fours_len]
  have et : (body b ++ more).take (body b).length = body b := by simp
  rw [readBatch_yes (t := body b) (b := b) (by rw [el]; omega) (by rw [e4]; omega) (by rw [el, e4]; omega) (by rw [e4, e9, et]) (by rw [e8, four_fours hcl]) (pBatch_body hf hr), e4]
  simp only [List.length_append, fours_len]
  congr 1
theorem wbatch_len {b : Bat} (hr : right b = 0) : (wbatch b).1.length = 8 + (body b).length := by rw [wbatch_yes hr]; simp only [List.length_append, fours_len]

theorem pMHead_body {m : Met} (hf : m.fits) (hs : m.small) (l : List UInt8) : pMHead (mbody m ++ l) = some ((((five m, m.name), m.text), (m.list.length : Int)), m.list.flatMap eint ++ l) := by
  have e : mbody m ++ l = (five m).flatMap eint ++ (eint (m.name.length : Int) ++ (m.name ++ (eint (m.text.length : Int) ++ (m.text ++ (eint (m.list.length : Int) ++ (m.list.flatMap eint ++ l)))))) := by
    simp only [mbody, mhead, List.append_assoc]
  have h1 := pMany_all (p := pI) (e := eint) (five m) (fun x hx l => pI_eint (five_ok hf x hx) l) (eint (m.name.length : Int) ++ (m.name ++ (eint (m.text.length : Int) ++ (m.text ++ (eint (m.list.length : Int) ++ (m.list.flatMap eint ++ l))))))
  obtain ⟨hs1, hs2, hs3⟩ := hs
  unfold pMHead; rw [e]
  rw [show pMany pI 5 _ = _ from h1]
  simp only [Option.bind_some]
  rw [pT_text (by omega) (by omega)]
  simp only [Option.map_some, Option.bind_some]
  rw [pT_text (by omega) (by omega)]
  simp only [Option.map_some, Option.bind_some]
  rw [pI_eint ⟨by omega, by omega⟩]; rfl
theorem pMeta_body {m : Met} (hf : m.fits) (hs : m.small) (l : List UInt8) : pMeta (mbody m ++ l) = if l = [] then some m else none := by
  unfold pMeta; rw [pMHead_body hf hs]
  simp only [Option.bind_some]
  have h3 := pMany_all (p := pI) (e := eint) m.list (fun x hx l => pI_eint (hf.ints x hx) l) l
  have := hs.list
  rw [if_pos ⟨by omega, by omega⟩, Int.toNat_natCast, h3]
  rfl
theorem read_meta {m : Met} (hf : m.fits) (h : (wmeta m).2 = 0) : readMeta (wmeta m).1 = (m, 0) := by
  obtain ⟨hs, hl, e⟩ := wmeta_zero h
  rw [e]
  have hcl : (crc (mbody m)).toNat < 4294967296 := (crc (mbody m)).isLt
  have ed : (fours (crc (mbody m)).toNat ++ mbody m).drop 4 = mbody m := List.drop_left' rfl
  refine readMeta_yes (by simp only [List.length_append, fours_len]; omega) (by simp only [List.length_append, fours_len]; omega) (by rw [ed, four_fours hcl]) ?_
  rw [ed]
  have := pMeta_body hf hs []
  rwa [List.append_nil, if_pos rfl] at this
theorem read_meta_more {m : Met} (hf : m.fits) (h : (wmeta m).2 = 0) (x : UInt8) : (readMeta ((wmeta m).1 ++ [x])).2 ≠ 0 := by
  obtain ⟨hs, hl, e⟩ := wmeta_zero h
  rw [e]
  have ed : (fours (crc (mbody m)).toNat ++ mbody m ++ [x]).drop 4 = mbody m ++ [x] := by rw [List.append_assoc]; exact List.drop_left' rfl
  have hp : pMeta (mbody m ++ [x]) = none := by rw [pMeta_body hf hs]; exact if_neg (by simp)
  unfold readMeta
  rw [ed, hp]
  split
  · decide
  · split
    · decide
    · split
      · decide
      · decide
theorem wmeta_not {m : Met} (h : (wmeta m).2 ≠ 0) : (wmeta m).1 = [] := by
  unfold wmeta at h ⊢
  split
  · rfl
  · split
    · rfl
    · split
      · rfl
      · rename_i h1 h2 h3; rw [if_neg h1, if_neg h2, if_neg h3] at h; exact absurd rfl h
end Go.Proofs.Ytllpkagplfmlbaa

/- Chapter 3: torn bytes, in plain Lean. -/
namespace Go.Proofs.Ytllpkagplfmlbaa
open Go Go.Sp

theorem crc1_inj {c d : BitVec 32} (h : crc1 c = crc1 d) : c = d := by
  have top : ∀ x : BitVec 32, (x >>> 1).getLsbD 31 = false := fun x => by
    rw [BitVec.getLsbD_ushiftRight]; exact BitVec.getLsbD_of_ge _ _ (by omega)
  have poly : (2197175160#32).getLsbD 31 = true := by decide
  have par : ∀ x y : BitVec 32, x.toNat % 2 = 1 → y.toNat % 2 = 0 → crc1 x ≠ crc1 y := fun x y hx hy e => by
    rw [crc1_odd hx, crc1_even hy] at e
    have := congrArg (fun v => v.getLsbD 31) e
    simp only [BitVec.getLsbD_xor, top, poly] at this
    exact absurd this (by decide)
  have half : ∀ x y : BitVec 32, x.toNat % 2 = y.toNat % 2 → x >>> 1 = y >>> 1 → x = y := fun x y hp e => by
    have e1 := congrArg BitVec.toNat e
    simp only [BitVec.toNat_ushiftRight, Nat.shiftRight_eq_div_pow] at e1
    apply BitVec.eq_of_toNat_eq; omega
  rcases Nat.mod_two_eq_zero_or_one c.toNat with hc | hc <;> rcases Nat.mod_two_eq_zero_or_one d.toNat with hd | hd
  · rw [crc1_even hc, crc1_even hd] at h; exact half _ _ (by omega) h
  · exact absurd h.symm (par _ _ hd hc)
  · exact absurd h (par _ _ hc hd)
  · rw [crc1_odd hc, crc1_odd hd] at h
    refine half _ _ (by omega) ?_
    have := congrArg (· ^^^ 2197175160#32) h
    simpa [BitVec.xor_assoc] using this
theorem crcN_inj : ∀ (n : Nat) {c d : BitVec 32}, crcN n c = crcN n d → c = d
  | 0, _, _, h => h
  | n + 1, _, _, h => crc1_inj (crcN_inj n h)
theorem xor_inj {a b c : BitVec 32} (h : a ^^^ c = b ^^^ c) : a = b := by
  have := congrArg (· ^^^ c) h
  simpa [BitVec.xor_assoc] using this
theorem xor_inj' {a b c : BitVec 32} (h : c ^^^ a = c ^^^ b) : a = b := by
  rw [BitVec.xor_comm c a, BitVec.xor_comm c b] at h; exact xor_inj h
theorem crcB_inj {c d : BitVec 32} {b : UInt8} (h : crcB c b = crcB d b) : c = d := xor_inj (crcN_inj 8 h)
theorem crcB_inj' {c : BitVec 32} {a b : UInt8} (h : crcB c a = crcB c b) : a = b := by
  have h1 := congrArg BitVec.toNat (xor_inj' (crcN_inj 8 h))
  rw [BitVec.toNat_ofNat, BitVec.toNat_ofNat] at h1
  have ha := a.toNat_lt; have hb := b.toNat_lt
  exact UInt8.toNat_inj.1 (by omega)
theorem foldl_inj : ∀ (l : List UInt8) {c d : BitVec 32}, l.foldl crcB c = l.foldl crcB d → c = d
  | [], _, _, h => h
  | _ :: l, _, _, h => crcB_inj (foldl_inj l h)
theorem crc_set {l : List UInt8} {j : Nat} {x : UInt8} (hj : j < l.length) (hx : x ≠ l[j]) : (crc (l.set j x)).toNat ≠ (crc l).toNat := by
  intro h
  have h1 : crc (l.set j x) = crc l := BitVec.eq_of_toNat_eq h
  have h2 : crcS (l.set j x) = crcS l := BitVec.not_inj.1 h1
  have e1 : l.set j x = l.take j ++ x :: l.drop (j + 1) := List.set_eq_take_append_cons_drop.trans (if_pos hj)
  have e2 : l = l.take j ++ l[j] :: l.drop (j + 1) := by rw [List.getElem_cons_drop hj, List.take_append_drop]
  rw [e1] at h2
  rw [show crcS l = crcS (l.take j ++ l[j] :: l.drop (j + 1)) from congrArg crcS e2] at h2
  unfold crcS at h2
  rw [List.foldl_append, List.foldl_append, List.foldl_cons, List.foldl_cons] at h2
  exact hx (crcB_inj' (foldl_inj _ h2))
theorem xor_byte {x by_ : UInt8} (h : by_ ≠ 0) : x ^^^ by_ ≠ x := fun e => h (by
  have h1 : x ^^^ (x ^^^ by_) = x ^^^ x := congrArg (fun z => x ^^^ z) e
  rw [← UInt8.xor_assoc, UInt8.xor_self, UInt8.zero_xor] at h1
  exact h1)
theorem four_set {l : List UInt8} {j : Nat} {x : UInt8} (hl : 4 ≤ l.length) (hj : j < 4) (hx : x ≠ l[j]'(by omega)) : four (l.set j x) ≠ four l := by
  match l, hl with
  | a :: b :: c :: d :: t, _ =>
    have h1 := a.toNat_lt; have h2 := b.toNat_lt; have h3 := c.toNat_lt; have h4 := d.toNat_lt; have h5 := x.toNat_lt
    have hn : ∀ y : UInt8, x ≠ y → x.toNat ≠ y.toNat := fun y h e => h (UInt8.toNat_inj.1 e)
    match j, hj with
    | 0, _ => have := hn a hx; show x.toNat * 16777216 + b.toNat * 65536 + c.toNat * 256 + d.toNat ≠ a.toNat * 16777216 + b.toNat * 65536 + c.toNat * 256 + d.toNat; omega
    | 1, _ => have := hn b hx; show a.toNat * 16777216 + x.toNat * 65536 + c.toNat * 256 + d.toNat ≠ a.toNat * 16777216 + b.toNat * 65536 + c.toNat * 256 + d.toNat; omega
    | 2, _ => have := hn c hx; show a.toNat * 16777216 + b.toNat * 65536 + x.toNat * 256 + d.toNat ≠ a.toNat * 16777216 + b.toNat * 65536 + c.toNat * 256 + d.toNat; omega
    | 3, _ => have := hn d hx; show a.toNat * 16777216 + b.toNat * 65536 + c.toNat * 256 + x.toNat ≠ a.toNat * 16777216 + b.toNat * 65536 + c.toNat * 256 + d.toNat; omega
theorem four_take {l : List UInt8} {k : Nat} (hk : 4 ≤ k) (hl : 4 ≤ l.length) : four (l.take k) = four l := by
  match l, hl, k, hk with
  | a :: b :: c :: d :: t, _, k + 4, _ => rfl
theorem four_set' {l : List UInt8} {j : Nat} {x : UInt8} (hl : 4 ≤ l.length) (hj : 4 ≤ j) : four (l.set j x) = four l := by
  match l, hl, j, hj with
  | a :: b :: c :: d :: t, _, j + 4, _ => rfl

/-- What a written batch's bytes are. -/
theorem wbatch_is {b : Bat} (hr : right b = 0) : (wbatch b).1.length = 8 + (body b).length ∧ four (wbatch b).1 = (body b).length ∧ (wbatch b).1.drop 8 = body b ∧ four ((wbatch b).1.drop 4) = (crc (body b)).toNat ∧ (body b).length ≤ 4088 := by
  obtain ⟨_, hbl⟩ := right_zero hr
  have hcl : (crc (body b)).toNat < 4294967296 := (crc (body b)).isLt
  refine ⟨wbatch_len hr, ?_, ?_, ?_, hbl⟩
  · rw [wbatch_yes hr]; show four (fours (body b).length ++ fours (crc (body b)).toNat ++ body b) = _
    rw [List.append_assoc, four_fours (by omega)]
  · rw [wbatch_yes hr]; exact List.drop_left' rfl
  · rw [wbatch_yes hr]; show four ((fours (body b).length ++ fours (crc (body b)).toNat ++ body b).drop 4) = _
    rw [List.append_assoc, show (fours (body b).length ++ (fours (crc (body b)).toNat ++ body b)).drop 4 = fours (crc (body b)).toNat ++ body b from List.drop_left' rfl, four_fours hcl]
/-- Cut. -/
theorem torn_cut {b : Bat} (hr : right b = 0) {k : Nat} (hk : k < (wbatch b).1.length) : readBatch ((wbatch b).1.take k) = (zeroB, 0, 5) := by
  obtain ⟨h1, h2, h3, h4, h5⟩ := wbatch_is hr
  have hl : ((wbatch b).1.take k).length = k := by rw [List.length_take]; omega
  by_cases h8 : k < 8
  · exact readBatch_short (by omega)
  · have e : four ((wbatch b).1.take k) = (body b).length := by rw [four_take (by omega) (by omega), h2]
    exact readBatch_cut (by omega) (by omega) (by omega)
/-- Changed. -/
theorem torn_set {b : Bat} (hr : right b = 0) {k : Nat} {x : UInt8} (hk : k < (wbatch b).1.length) (h4k : 4 ≤ k) (hx : x ≠ (wbatch b).1[k]) : readBatch ((wbatch b).1.set k x) = (zeroB, 0, 6) := by
  obtain ⟨h1, h2, h3, h4, h5⟩ := wbatch_is hr
  have hl : ((wbatch b).1.set k x).length = (wbatch b).1.length := List.length_set
  have e : four ((wbatch b).1.set k x) = (body b).length := by rw [four_set' (by omega) h4k, h2]
  by_cases h8 : k < 8
  · have e8 : ((wbatch b).1.set k x).drop 8 = body b := by rw [List.drop_set, if_pos (by omega), h3]
    have e4 : ((wbatch b).1.set k x).drop 4 = ((wbatch b).1.drop 4).set (k - 4) x := by rw [List.drop_set, if_neg (by omega)]
    refine readBatch_sum (t := body b) (by omega) (by omega) (by omega) (by rw [e8, e, List.take_length]) ?_
    rw [e4, ← h4]
    refine fun h => four_set (l := (wbatch b).1.drop 4) (by rw [List.length_drop]; omega) (by omega) ?_ h.symm
    intro he; apply hx; rw [he, List.getElem_drop]; congr 1; omega
  · have e8 : ((wbatch b).1.set k x).drop 8 = (body b).set (k - 8) x := by rw [List.drop_set, if_neg (by omega), h3]
    have e4 : four (((wbatch b).1.set k x).drop 4) = (crc (body b)).toNat := by rw [List.drop_set, if_neg (by omega), four_set' (by rw [List.length_drop]; omega) (by omega), h4]
    refine readBatch_sum (t := (body b).set (k - 8) x) (by omega) (by omega) (by omega) (by rw [e8, e, List.take_of_length_le (by rw [List.length_set]; omega)]) ?_
    rw [e4]
    refine crc_set (by omega) ?_
    intro he; apply hx; rw [he]
    have := List.getElem_drop (xs := (wbatch b).1) (i := 8) (j := k - 8) (h := by rw [List.length_drop]; omega)
    simp only [h3] at this
    rw [this]; congr 1; omega
theorem wbatch_not {b : Bat} (h : (wbatch b).2 ≠ 0) : (wbatch b).1 = [] := by
  by_cases hr : right b = 0
  · rw [wbatch_yes hr] at h; exact absurd rfl h
  · rw [wbatch_no hr]
theorem wbatch_err (b : Bat) : (wbatch b).2 = right b := by
  by_cases hr : right b = 0
  · rw [wbatch_yes hr, hr]
  · rw [wbatch_no hr]
end Go.Proofs.Ytllpkagplfmlbaa

namespace Go.Proofs.Ytllpkagplfmlbaa
open Go Go.Sp

set_option linter.unusedVariables false

namespace wire0

end wire0
open wire0

theorem quo_two (c : BitVec 32) : (Value.int .u32 (IntKind.u32.wrap ((c.toNat : Int).tdiv 2))) = .int .u32 ((c >>> 1).toNat : Int) := by
  have e : (c.toNat : Int).tdiv 2 = ((c >>> 1).toNat : Int) := by
    rw [Int.tdiv_eq_ediv_of_nonneg (by omega), BitVec.toNat_ushiftRight, Nat.shiftRight_eq_div_pow]; omega
  rw [e]; exact congrArg (Value.int .u32) (wrap_u (k := .u32) rfl (c >>> 1))
theorem xor_ones (c : BitVec 32) : c ^^^ 4294967295#32 = ~~~ c := by
  rw [show (4294967295#32 : BitVec 32) = BitVec.allOnes 32 from rfl, BitVec.xor_allOnes]
theorem crc_int (c : BitVec 32) : resVal [Value.int .i64 (IntKind.i64.wrap ((~~~ c).toNat : Int))] = .int .i64 ((~~~ c).toNat : Int) := by
  simp only [resVal]
  rw [wrap_i64 (by omega) (by have := (~~~ c).isLt; omega)]

set_option maxRecDepth 20000 in
theorem Crc_ok (l : List UInt8) (hl : l.length ≤ 9000000000000000000) : Cn Try.prog 14 [.string (str l)] (fun _ => True) [] fun v G => v = .int .i64 ((crc l).toNat : Int) ∧ G = [] := by
  refine .enter Try.func14 rfl (by kernel_rfl) rfl fun R k => ?_
  refine .seq ?_
  refine .region ?_
  refine .rd (.assign rfl) ?_
  refine .nil ?_
  refine .seq ?_
  refine .region ?_
  refine .rd (.assign rfl) ?_
  refine .nil ?_
  refine .seq ?_
  refine .seq ?_
  refine .region ?_
  refine .rd (.move rfl) ?_
  refine .rd (.lenT rfl rfl Try.underlying9 rfl) ?_
  refine .rd (.move rfl) ?_
  refine .nil ?_
  refine .block ?_
  refine .loop (σ := Nat) (fun i => i ≤ l.length) (fun i => l.length - i) (fun i => [(0, .string (str l)), (3, .int .u32 ((crcS (l.take i)).toNat : Int)), (6, .int .i64 l.length), (7, .int .i64 (i : Nat))]) (fun i => [R]) 0 (Nat.zero_le _) (.cons rfl (.cons rfl (.cons rfl (.cons rfl .nil)))) (.cons .head .nil) (fun i hI ih => ?_)
  have hI0 := hI
  have ih0 := ih
  refine .seq ?_
  refine .region ?_
  refine .rd (.lt rfl rfl) ?_
  refine .nil ?_
  refine .seq ?_
  refine .condP rfl (fun h3 => ?_) (fun h3 => ?_)
  · refine .skip ?_
    refine .seq ?_
    refine .block ?_
    refine .seq ?_
    refine .region ?_
    refine .rd (.move rfl) ?_
    refine .rd (.assign rfl) ?_
    refine .nil ?_
    refine .seq ?_
    have hlt : i < l.length := by omega
    obtain ⟨b, hb⟩ : ∃ b, l[i]? = some b := ⟨_, List.getElem?_eq_getElem hlt⟩
    refine .region ?_
    refine .rd (.move rfl) ?_
    refine .rd (.move rfl) ?_
    refine .rd (.move rfl) ?_
    refine .rd (.indexT Try.underlying9 rfl rfl (by omega) hb) ?_
    refine .rd (.convInt (k := .u32) (j := .u8) (n := (b.toNat : Int)) Try.underlying5 Try.underlying66 rfl) ?_
    refine .alter (t := 14) (v' := .int .u32 ((BitVec.ofNat 32 b.toNat).toNat : Int)) rfl (by rw [u8_u32]) ?_
    refine .rd (.xorU (k := .u32) (a := (crcS (l.take i))) (b := BitVec.ofNat 32 b.toNat) rfl rfl rfl) ?_
    refine .rd (.assign rfl) ?_
    refine .nil ?_
    refine .seq ?_
    refine .region ?_
    refine .rd (.move rfl) ?_
    refine .nil ?_
    refine .block ?_
    refine .loop (σ := Nat × BitVec 32) (fun ⟨j, c⟩ => j ≤ 8 ∧ crcN (8 - j) c = crcB (crcS (l.take i)) b) (fun ⟨j, c⟩ => 8 - j) (fun ⟨j, c⟩ => [(0, .string (str l)), (3, .int .u32 (c.toNat : Int)), (6, .int .i64 l.length), (7, .int .i64 (i : Nat)), (16, .int .i64 (j : Nat))]) (fun ⟨j, c⟩ => [R]) (0, (crcS (l.take i)) ^^^ BitVec.ofNat 32 b.toNat) ⟨Nat.zero_le _, rfl⟩ (.cons rfl (.cons rfl (.cons rfl (.cons rfl (.cons rfl .nil))))) (.cons .head .nil) (fun s hI ih => ?_)
    obtain ⟨j, c⟩ := s
    dsimp only at hI ih ⊢
    have hj := hI.1
    refine .seq ?_
    refine .region ?_
    refine .rd (.lt rfl rfl) ?_
    refine .nil ?_
    refine .seq ?_
    refine .condP rfl (fun h7 => ?_) (fun h7 => ?_)
    · refine .skip ?_
      refine .seq ?_
      refine .block ?_
      refine .region ?_
      refine .rd (.move rfl) ?_
      refine .rd (.shrU (k := .u32) (a := c) (n := 1) (by decide) rfl rfl) ?_
      refine .rd (.move rfl) ?_
      refine .rd (.andU (k := .u32) (a := c) (b := 1#32) rfl rfl rfl) ?_
      refine .rd (.negU (k := .u32) (a := (c &&& 1#32)) rfl rfl) ?_
      refine .rd (.andU (k := .u32) (a := 2197175160#32) (b := (-(c &&& 1#32))) rfl rfl rfl) ?_
      refine .rd (.xorU (k := .u32) (a := (c >>> 1)) (b := (2197175160#32 &&& -(c &&& 1#32))) rfl rfl rfl) ?_
      refine .rd (.assign rfl) ?_
      refine .nil ?_
      refine .inBlock ?_
      refine .region ?_
      refine .rd (.add rfl rfl (by omega) (by omega)) ?_
      refine .rd (.move rfl) ?_
      refine .nil ?_
      exact (ih (j + 1, crc1 c) ⟨by show j + 1 ≤ 8; omega, by show crcN (8 - (j + 1)) (crc1 c) = _; rw [← hI.2, show 8 - j = (8 - (j + 1)) + 1 by omega]; rfl⟩ (by show 8 - (j + 1) < 8 - j; omega)).to (.cons rfl (.cons rfl (.cons rfl (.cons rfl (.cons rfl .nil))))) (.cons .head .nil)
    · have hc8 : c = crcB (crcS (l.take i)) b := by have := hI.2; rw [show 8 - j = 0 by omega] at this; exact this
      refine .exit rfl ?_
      refine .inBlock ?_
      refine .region ?_
      refine .rd (.add rfl rfl (by omega) (by omega)) ?_
      refine .rd (.move rfl) ?_
      refine .nil ?_
      exact (ih0 (i + 1) (by omega) (by omega)).to (.cons rfl (.cons (by show _ = some (Value.int .u32 ((crcS (l.take (i + 1))).toNat : Int)); rw [crcS_snoc l i hb, ← hc8]; rfl) (.cons rfl (.cons rfl .nil)))) (.cons .head .nil)
  · refine .exit rfl ?_
    refine .seq ?_
    refine .region ?_
    refine .rd (.move rfl) ?_
    refine .rd (.comU (k := .u32) (a := (crcS (l.take i))) rfl rfl) ?_
    refine .rd (.convInt (k := .i64) (j := .u32) (n := ((~~~ (crcS (l.take i))).toNat : Int)) Try.underlying66 Try.underlying3 rfl) ?_
    refine .rd (.assign rfl) ?_
    refine .nil ?_
    refine .retP Try.func14 (.cons (.tmp rfl) .nil) (.cons .head .nil) ?_
    refine ⟨[], ⟨?_, rfl⟩, rfl⟩
    rw [List.take_of_length_le (by omega)]
    exact crc_int _

set_option maxRecDepth 20000 in
theorem rCrc_ok (l : List UInt8) (hl : l.length ≤ 9000000000000000000) : Cn Try.prog 15 [.string (str l)] (fun _ => True) [] fun v G => v = .int .i64 ((crc l).toNat : Int) ∧ G = [] := by
  refine .enter Try.func15 rfl (by kernel_rfl) rfl fun R k => ?_
  refine .seq ?_
  refine .region ?_
  refine .rd (.assign rfl) ?_
  refine .nil ?_
  refine .seq ?_
  refine .region ?_
  refine .rd (.assign rfl) ?_
  refine .nil ?_
  refine .seq ?_
  refine .seq ?_
  refine .region ?_
  refine .rd (.assign rfl) ?_
  refine .nil ?_
  refine .block ?_
  refine .loop (σ := Nat) (fun i => i ≤ l.length) (fun i => l.length - i) (fun i => [(0, .string (str l)), (3, .int .u32 ((crcS (l.take i)).toNat : Int)), (4, .int .i64 (i : Nat))]) (fun i => [R]) 0 (Nat.zero_le _) (.cons rfl (.cons rfl (.cons rfl .nil))) (.cons .head .nil) (fun i hI ih => ?_)
  have hI0 := hI
  have ih0 := ih
  refine .seq ?_
  refine .seq ?_
  refine .region ?_
  refine .rd (.move rfl) ?_
  refine .rd (.move rfl) ?_
  refine .rd (.lenT rfl rfl Try.underlying9 rfl) ?_
  refine .rd (.lt rfl rfl) ?_
  refine .nil ?_
  refine .condP rfl (fun h3 => ?_) (fun h3 => ?_)
  · refine .skip ?_
    refine .seq ?_
    refine .block ?_
    refine .seq ?_
    have hlt : i < l.length := by omega
    obtain ⟨b, hb⟩ : ∃ b, l[i]? = some b := ⟨_, List.getElem?_eq_getElem hlt⟩
    refine .region ?_
    refine .rd (.move rfl) ?_
    refine .rd (.move rfl) ?_
    refine .rd (.move rfl) ?_
    refine .rd (.indexT Try.underlying9 rfl rfl (by omega) hb) ?_
    refine .rd (.convInt (k := .u32) (j := .u8) (n := (b.toNat : Int)) Try.underlying5 Try.underlying66 rfl) ?_
    refine .alter (t := 17) (v' := .int .u32 ((BitVec.ofNat 32 b.toNat).toNat : Int)) rfl (by rw [u8_u32]) ?_
    refine .rd (.xorU (k := .u32) (a := (crcS (l.take i))) (b := BitVec.ofNat 32 b.toNat) rfl rfl rfl) ?_
    refine .rd (.assign rfl) ?_
    refine .nil ?_
    refine .seq ?_
    refine .region ?_
    refine .rd (.assign rfl) ?_
    refine .nil ?_
    refine .block ?_
    refine .loop (σ := Nat × BitVec 32) (fun ⟨j, c⟩ => j ≤ 8 ∧ crcN (8 - j) c = crcB (crcS (l.take i)) b) (fun ⟨j, c⟩ => 8 - j) (fun ⟨j, c⟩ => [(0, .string (str l)), (3, .int .u32 (c.toNat : Int)), (4, .int .i64 (i : Nat)), (5, .int .i64 (j : Nat))]) (fun ⟨j, c⟩ => [R]) (0, (crcS (l.take i)) ^^^ BitVec.ofNat 32 b.toNat) ⟨Nat.zero_le _, rfl⟩ (.cons rfl (.cons rfl (.cons rfl (.cons rfl .nil)))) (.cons .head .nil) (fun s hI ih => ?_)
    obtain ⟨j, c⟩ := s
    dsimp only at hI ih ⊢
    have hj := hI.1
    refine .seq ?_
    refine .seq ?_
    refine .region ?_
    refine .rd (.move rfl) ?_
    refine .rd (.lt rfl rfl) ?_
    refine .nil ?_
    refine .condP rfl (fun h7 => ?_) (fun h7 => ?_)
    · refine .skip ?_
      refine .seq ?_
      refine .block ?_
      refine .seq ?_
      refine .region ?_
      refine .rd (.move rfl) ?_
      refine .rd (.rem (k := .u32) (m := (c.toNat : Int)) (n := 2) rfl rfl (by omega) (by decide)) ?_
      refine .rd (.assign rfl) ?_
      refine .nil ?_
      refine .seq ?_
      refine .region ?_
      refine .rd (.move rfl) ?_
      refine .rd (.quoW (k := .u32) (m := (c.toNat : Int)) (n := 2) rfl rfl (by decide)) ?_
      refine .alter (t := 26) (v' := .int .u32 ((c >>> 1).toNat : Int)) rfl (by rw [quo_two]) ?_
      refine .rd (.assign rfl) ?_
      refine .nil ?_
      refine .seq ?_
      refine .region ?_
      refine .rd (.move rfl) ?_
      refine .rd (.eqI rfl rfl) ?_
      refine .nil ?_
      refine .condP rfl (fun h11 => ?_) (fun h11 => ?_)
      · refine .region ?_
        refine .rd (.move rfl) ?_
        refine .rd (.xorU (k := .u32) (a := (c >>> 1)) (b := 2197175160#32) rfl rfl rfl) ?_
        refine .rd (.assign rfl) ?_
        refine .nil ?_
        refine .inBlock ?_
        refine .region ?_
        refine .rd (.move rfl) ?_
        refine .rd (.add rfl rfl (by omega) (by omega)) ?_
        refine .rd (.assign rfl) ?_
        refine .nil ?_
        have hodd : c.toNat % 2 = 1 := by omega
        have hstep : crc1 c = ((c >>> 1) ^^^ 2197175160#32) := crc1_odd hodd
        exact (ih (j + 1, ((c >>> 1) ^^^ 2197175160#32)) ⟨by show j + 1 ≤ 8; omega, by show crcN (8 - (j + 1)) ((c >>> 1) ^^^ 2197175160#32) = _; rw [← hI.2, show 8 - j = (8 - (j + 1)) + 1 by omega, ← hstep]; rfl⟩ (by show 8 - (j + 1) < 8 - j; omega)).to (.cons rfl (.cons rfl (.cons rfl (.cons rfl .nil)))) (.cons .head .nil)
      · refine .skip ?_
        refine .inBlock ?_
        refine .region ?_
        refine .rd (.move rfl) ?_
        refine .rd (.add rfl rfl (by omega) (by omega)) ?_
        refine .rd (.assign rfl) ?_
        refine .nil ?_
        have hodd : c.toNat % 2 = 0 := by omega
        have hstep : crc1 c = (c >>> 1) := crc1_even hodd
        exact (ih (j + 1, (c >>> 1)) ⟨by show j + 1 ≤ 8; omega, by show crcN (8 - (j + 1)) (c >>> 1) = _; rw [← hI.2, show 8 - j = (8 - (j + 1)) + 1 by omega, ← hstep]; rfl⟩ (by show 8 - (j + 1) < 8 - j; omega)).to (.cons rfl (.cons rfl (.cons rfl (.cons rfl .nil)))) (.cons .head .nil)
    · have hc8 : c = crcB (crcS (l.take i)) b := by have := hI.2; rw [show 8 - j = 0 by omega] at this; exact this
      refine .exit rfl ?_
      refine .inBlock ?_
      refine .region ?_
      refine .rd (.move rfl) ?_
      refine .rd (.add rfl rfl (by omega) (by omega)) ?_
      refine .rd (.assign rfl) ?_
      refine .nil ?_
      exact (ih0 (i + 1) (by omega) (by omega)).to (.cons rfl (.cons (by show _ = some (Value.int .u32 ((crcS (l.take (i + 1))).toNat : Int)); rw [crcS_snoc l i hb, ← hc8]; rfl) (.cons rfl .nil))) (.cons .head .nil)
  · refine .exit rfl ?_
    refine .seq ?_
    refine .region ?_
    refine .rd (.move rfl) ?_
    refine .rd (.xorU (k := .u32) (a := (crcS (l.take i))) (b := 4294967295#32) rfl rfl rfl) ?_
    refine .rd (.convInt (k := .i64) (j := .u32) (n := (((crcS (l.take i)) ^^^ 4294967295#32).toNat : Int)) Try.underlying66 Try.underlying3 rfl) ?_
    refine .rd (.assign rfl) ?_
    refine .nil ?_
    refine .retP Try.func15 (.cons (.tmp rfl) .nil) (.cons .head .nil) ?_
    refine ⟨[], ⟨?_, rfl⟩, rfl⟩
    rw [List.take_of_length_le (by omega), xor_ones]
    exact crc_int _

end Go.Proofs.Ytllpkagplfmlbaa


namespace Go.Proofs.Ytllpkagplfmlbaa
open Go Go.Sp

set_option linter.unusedVariables false

namespace wire11
theorem fd27_5 : FD Try.prog 27 5 5 := .of Try.underlying27 (by kernel_rfl)
theorem na25 : NotAgg Try.prog 25 := ⟨_, Try.underlying25, trivial⟩
theorem fd27_0 : FD Try.prog 27 0 0 := .of Try.underlying27 (by kernel_rfl)
theorem na3 : NotAgg Try.prog 3 := ⟨_, Try.underlying3, trivial⟩
theorem fd27_1 : FD Try.prog 27 1 1 := .of Try.underlying27 (by kernel_rfl)
theorem fd27_2 : FD Try.prog 27 2 2 := .of Try.underlying27 (by kernel_rfl)
theorem fd27_3 : FD Try.prog 27 3 3 := .of Try.underlying27 (by kernel_rfl)
theorem fd27_4 : FD Try.prog 27 4 4 := .of Try.underlying27 (by kernel_rfl)
theorem ts65 : TS Try.prog 65 3 := .of (by kernel_rfl)
theorem ia65 : IsAgg Try.prog 65 := ⟨_, Try.underlying65, trivial⟩
theorem ti65 : TI Try.prog 65 3 40 (.agg #[.string ⟨#[]⟩, .string ⟨#[]⟩, .int .i64 0]) := .of (by kernel_rfl)
theorem fd65_2 : FD Try.prog 65 2 2 := .of Try.underlying65 (by kernel_rfl)
theorem fd65_0 : FD Try.prog 65 0 0 := .of Try.underlying65 (by kernel_rfl)
theorem na9 : NotAgg Try.prog 9 := ⟨_, Try.underlying9, trivial⟩
theorem fd65_1 : FD Try.prog 65 1 1 := .of Try.underlying65 (by kernel_rfl)
theorem ia27 : IsAgg Try.prog 27 := ⟨_, Try.underlying27, trivial⟩
theorem ts27 : TS Try.prog 27 6 := .of (by kernel_rfl)
end wire11
open wire11



set_option maxRecDepth 20000 in
theorem Right_ok (b : Bat) (a : Option Addr) (c : Nat) (hf : b.fits) : Cn Try.prog 29 [.agg (b.cells a c).toArray] (RowAt a (b.recs.flatMap Rec.cells)) [] fun v G => v = .int .i64 (right b) ∧ G = [] := by
  refine .enter Try.func29 rfl (by kernel_rfl) rfl fun R k => ?_
  have hfl := hf.len
  have hor := orI_zero hf.pidEpoch hf.seq
  refine .seq ?_
  refine .region ?_
  refine .ef (.box (l := b.cells a c) rfl rfl (ones.of rfl)) ?_
  rintro _ _ ⟨b1, rfl, rfl⟩
  refine .rd (.assign rfl) ?_
  refine .nil ?_
  refine .seq ?_
  refine .region ?_
  refine .rd (.fieldAddr fd27_5 rfl) ?_
  refine .rd (.ld na25 rfl .head rfl) ?_
  refine .rd (.lenL rfl rfl Try.underlying25 rfl) ?_
  refine .rd (.assign rfl) ?_
  refine .nil ?_
  refine .seq ?_
  refine .seq ?_
  refine .region ?_
  refine .rd (.fieldAddr fd27_0 rfl) ?_
  refine .rd (.ld na3 rfl .head rfl) ?_
  refine .rd (.lt rfl rfl) ?_
  refine .rd (.move rfl) ?_
  refine .split (t := 13) rfl (fun g2_3 => ?_) (fun g2_3 => ?_)
  · replace g2_3 := of_decide_eq_true g2_3
    refine .off (t := 13) rfl rfl rfl ?_
    refine .off (t := 13) rfl rfl rfl ?_
    refine .off (t := 13) rfl rfl rfl ?_
    refine .off (t := 13) rfl rfl rfl ?_
    refine .rd (.pickT rfl rfl) ?_
    refine .rd (.move rfl) ?_
    refine .off (t := 19) rfl rfl rfl ?_
    refine .off (t := 19) rfl rfl rfl ?_
    refine .off (t := 19) rfl rfl rfl ?_
    refine .off (t := 19) rfl rfl rfl ?_
    refine .rd (.pickT rfl rfl) ?_
    refine .rd (.move rfl) ?_
    refine .off (t := 25) rfl rfl rfl ?_
    refine .off (t := 25) rfl rfl rfl ?_
    refine .off (t := 25) rfl rfl rfl ?_
    refine .off (t := 25) rfl rfl rfl ?_
    refine .rd (.pickT rfl rfl) ?_
    refine .rd (.move rfl) ?_
    refine .off (t := 31) rfl rfl rfl ?_
    refine .off (t := 31) rfl rfl rfl ?_
    refine .off (t := 31) rfl rfl rfl ?_
    refine .off (t := 31) rfl rfl rfl ?_
    refine .rd (.pickT rfl rfl) ?_
    refine .rd (.move rfl) ?_
    refine .off (t := 37) rfl rfl rfl ?_
    refine .off (t := 37) rfl rfl rfl ?_
    refine .off (t := 37) rfl rfl rfl ?_
    refine .offU (t := 37) rfl rfl rfl rfl ?_
    refine .offX (t := 41) rfl rfl rfl ?_
    refine .offX (t := 41) rfl rfl rfl ?_
    refine .offX (t := 41) rfl rfl rfl ?_
    refine .offX (t := 41) rfl rfl rfl ?_
    refine .offX (t := 41) rfl rfl rfl ?_
    refine .offX (t := 41) rfl rfl rfl ?_
    refine .off (t := 37) rfl rfl rfl ?_
    refine .rd (.pickT rfl rfl) ?_
    refine .rd (.move rfl) ?_
    refine .off (t := 50) rfl rfl rfl ?_
    refine .off (t := 50) rfl rfl rfl ?_
    refine .rd (.pickT rfl rfl) ?_
    refine .nil ?_
    refine .condT rfl ?_
    refine .seq ?_
    refine .region ?_
    refine .rd (.assign rfl) ?_
    refine .nil ?_
    have hq : b.off := by unfold Bat.off; omega
    rw [right_off hq]
    refine .retP Try.func29 (.cons (.tmp rfl) .nil) (.cons (.tail .head) .nil) ?_
    exact ⟨[], ⟨rfl, rfl⟩, rfl⟩
  · replace g2_3 := of_decide_eq_false g2_3
    refine .on (t := 13) rfl rfl ?_
    refine .rd (.fieldAddr fd27_1 rfl) ?_
    refine .on (t := 13) rfl rfl ?_
    refine .rd (.ld na3 rfl .head rfl) ?_
    refine .on (t := 13) rfl rfl ?_
    refine .fn rfl rfl .nil (fun _ _ _ => trivial) (within_ok _ _) (fun v G1 hq => ?_)
    obtain ⟨rfl, rfl⟩ := hq
    simp only [List.nil_append]
    refine .on (t := 13) rfl rfl ?_
    refine .rd (.not rfl) ?_
    refine .rd (.pickF rfl rfl) ?_
    refine .rd (.move rfl) ?_
    refine .split (t := 19) rfl (fun g2_9 => ?_) (fun g2_9 => ?_)
    · simp at g2_9
      refine .off (t := 19) rfl rfl rfl ?_
      refine .off (t := 19) rfl rfl rfl ?_
      refine .off (t := 19) rfl rfl rfl ?_
      refine .off (t := 19) rfl rfl rfl ?_
      refine .rd (.pickT rfl rfl) ?_
      refine .rd (.move rfl) ?_
      refine .off (t := 25) rfl rfl rfl ?_
      refine .off (t := 25) rfl rfl rfl ?_
      refine .off (t := 25) rfl rfl rfl ?_
      refine .off (t := 25) rfl rfl rfl ?_
      refine .rd (.pickT rfl rfl) ?_
      refine .rd (.move rfl) ?_
      refine .off (t := 31) rfl rfl rfl ?_
      refine .off (t := 31) rfl rfl rfl ?_
      refine .off (t := 31) rfl rfl rfl ?_
      refine .off (t := 31) rfl rfl rfl ?_
      refine .rd (.pickT rfl rfl) ?_
      refine .rd (.move rfl) ?_
      refine .off (t := 37) rfl rfl rfl ?_
      refine .off (t := 37) rfl rfl rfl ?_
      refine .off (t := 37) rfl rfl rfl ?_
      refine .offU (t := 37) rfl rfl rfl rfl ?_
      refine .offX (t := 41) rfl rfl rfl ?_
      refine .offX (t := 41) rfl rfl rfl ?_
      refine .offX (t := 41) rfl rfl rfl ?_
      refine .offX (t := 41) rfl rfl rfl ?_
      refine .offX (t := 41) rfl rfl rfl ?_
      refine .offX (t := 41) rfl rfl rfl ?_
      refine .off (t := 37) rfl rfl rfl ?_
      refine .rd (.pickT rfl rfl) ?_
      refine .rd (.move rfl) ?_
      refine .off (t := 50) rfl rfl rfl ?_
      refine .off (t := 50) rfl rfl rfl ?_
      refine .rd (.pickT rfl rfl) ?_
      refine .nil ?_
      refine .condT rfl ?_
      refine .seq ?_
      refine .region ?_
      refine .rd (.assign rfl) ?_
      refine .nil ?_
      have hq : b.off := by unfold Bat.off; omega
      rw [right_off hq]
      refine .retP Try.func29 (.cons (.tmp rfl) .nil) (.cons (.tail .head) .nil) ?_
      exact ⟨[], ⟨rfl, rfl⟩, rfl⟩
    · simp at g2_9
      refine .on (t := 19) rfl rfl ?_
      refine .rd (.fieldAddr fd27_2 rfl) ?_
      refine .on (t := 19) rfl rfl ?_
      refine .rd (.ld na3 rfl .head rfl) ?_
      refine .on (t := 19) rfl rfl ?_
      refine .fn rfl rfl .nil (fun _ _ _ => trivial) (within_ok _ _) (fun v G1 hq => ?_)
      obtain ⟨rfl, rfl⟩ := hq
      simp only [List.nil_append]
      refine .on (t := 19) rfl rfl ?_
      refine .rd (.not rfl) ?_
      refine .rd (.pickF rfl rfl) ?_
      refine .rd (.move rfl) ?_
      refine .split (t := 25) rfl (fun g2_15 => ?_) (fun g2_15 => ?_)
      · simp at g2_15
        refine .off (t := 25) rfl rfl rfl ?_
        refine .off (t := 25) rfl rfl rfl ?_
        refine .off (t := 25) rfl rfl rfl ?_
        refine .off (t := 25) rfl rfl rfl ?_
        refine .rd (.pickT rfl rfl) ?_
        refine .rd (.move rfl) ?_
        refine .off (t := 31) rfl rfl rfl ?_
        refine .off (t := 31) rfl rfl rfl ?_
        refine .off (t := 31) rfl rfl rfl ?_
        refine .off (t := 31) rfl rfl rfl ?_
        refine .rd (.pickT rfl rfl) ?_
        refine .rd (.move rfl) ?_
        refine .off (t := 37) rfl rfl rfl ?_
        refine .off (t := 37) rfl rfl rfl ?_
        refine .off (t := 37) rfl rfl rfl ?_
        refine .offU (t := 37) rfl rfl rfl rfl ?_
        refine .offX (t := 41) rfl rfl rfl ?_
        refine .offX (t := 41) rfl rfl rfl ?_
        refine .offX (t := 41) rfl rfl rfl ?_
        refine .offX (t := 41) rfl rfl rfl ?_
        refine .offX (t := 41) rfl rfl rfl ?_
        refine .offX (t := 41) rfl rfl rfl ?_
        refine .off (t := 37) rfl rfl rfl ?_
        refine .rd (.pickT rfl rfl) ?_
        refine .rd (.move rfl) ?_
        refine .off (t := 50) rfl rfl rfl ?_
        refine .off (t := 50) rfl rfl rfl ?_
        refine .rd (.pickT rfl rfl) ?_
        refine .nil ?_
        refine .condT rfl ?_
        refine .seq ?_
        refine .region ?_
        refine .rd (.assign rfl) ?_
        refine .nil ?_
        have hq : b.off := by unfold Bat.off; omega
        rw [right_off hq]
        refine .retP Try.func29 (.cons (.tmp rfl) .nil) (.cons (.tail .head) .nil) ?_
        exact ⟨[], ⟨rfl, rfl⟩, rfl⟩
      · simp at g2_15
        refine .on (t := 25) rfl rfl ?_
        refine .rd (.fieldAddr fd27_3 rfl) ?_
        refine .on (t := 25) rfl rfl ?_
        refine .rd (.ld na3 rfl .head rfl) ?_
        refine .on (t := 25) rfl rfl ?_
        refine .fn rfl rfl .nil (fun _ _ _ => trivial) (within_ok _ _) (fun v G1 hq => ?_)
        obtain ⟨rfl, rfl⟩ := hq
        simp only [List.nil_append]
        refine .on (t := 25) rfl rfl ?_
        refine .rd (.not rfl) ?_
        refine .rd (.pickF rfl rfl) ?_
        refine .rd (.move rfl) ?_
        refine .split (t := 31) rfl (fun g2_21 => ?_) (fun g2_21 => ?_)
        · simp at g2_21
          refine .off (t := 31) rfl rfl rfl ?_
          refine .off (t := 31) rfl rfl rfl ?_
          refine .off (t := 31) rfl rfl rfl ?_
          refine .off (t := 31) rfl rfl rfl ?_
          refine .rd (.pickT rfl rfl) ?_
          refine .rd (.move rfl) ?_
          refine .off (t := 37) rfl rfl rfl ?_
          refine .off (t := 37) rfl rfl rfl ?_
          refine .off (t := 37) rfl rfl rfl ?_
          refine .offU (t := 37) rfl rfl rfl rfl ?_
          refine .offX (t := 41) rfl rfl rfl ?_
          refine .offX (t := 41) rfl rfl rfl ?_
          refine .offX (t := 41) rfl rfl rfl ?_
          refine .offX (t := 41) rfl rfl rfl ?_
          refine .offX (t := 41) rfl rfl rfl ?_
          refine .offX (t := 41) rfl rfl rfl ?_
          refine .off (t := 37) rfl rfl rfl ?_
          refine .rd (.pickT rfl rfl) ?_
          refine .rd (.move rfl) ?_
          refine .off (t := 50) rfl rfl rfl ?_
          refine .off (t := 50) rfl rfl rfl ?_
          refine .rd (.pickT rfl rfl) ?_
          refine .nil ?_
          refine .condT rfl ?_
          refine .seq ?_
          refine .region ?_
          refine .rd (.assign rfl) ?_
          refine .nil ?_
          have hq : b.off := by unfold Bat.off; omega
          rw [right_off hq]
          refine .retP Try.func29 (.cons (.tmp rfl) .nil) (.cons (.tail .head) .nil) ?_
          exact ⟨[], ⟨rfl, rfl⟩, rfl⟩
        · simp at g2_21
          refine .on (t := 31) rfl rfl ?_
          refine .rd (.fieldAddr fd27_4 rfl) ?_
          refine .on (t := 31) rfl rfl ?_
          refine .rd (.ld na3 rfl .head rfl) ?_
          refine .on (t := 31) rfl rfl ?_
          refine .fn rfl rfl .nil (fun _ _ _ => trivial) (within_ok _ _) (fun v G1 hq => ?_)
          obtain ⟨rfl, rfl⟩ := hq
          simp only [List.nil_append]
          refine .on (t := 31) rfl rfl ?_
          refine .rd (.not rfl) ?_
          refine .rd (.pickF rfl rfl) ?_
          refine .rd (.move rfl) ?_
          refine .split (t := 37) rfl (fun g2_27 => ?_) (fun g2_27 => ?_)
          · simp at g2_27
            refine .off (t := 37) rfl rfl rfl ?_
            refine .off (t := 37) rfl rfl rfl ?_
            refine .off (t := 37) rfl rfl rfl ?_
            refine .offU (t := 37) rfl rfl rfl rfl ?_
            refine .offX (t := 41) rfl rfl rfl ?_
            refine .offX (t := 41) rfl rfl rfl ?_
            refine .offX (t := 41) rfl rfl rfl ?_
            refine .offX (t := 41) rfl rfl rfl ?_
            refine .offX (t := 41) rfl rfl rfl ?_
            refine .offX (t := 41) rfl rfl rfl ?_
            refine .off (t := 37) rfl rfl rfl ?_
            refine .rd (.pickT rfl rfl) ?_
            refine .rd (.move rfl) ?_
            refine .off (t := 50) rfl rfl rfl ?_
            refine .off (t := 50) rfl rfl rfl ?_
            refine .rd (.pickT rfl rfl) ?_
            refine .nil ?_
            refine .condT rfl ?_
            refine .seq ?_
            refine .region ?_
            refine .rd (.assign rfl) ?_
            refine .nil ?_
            have hq : b.off := by unfold Bat.off; omega
            rw [right_off hq]
            refine .retP Try.func29 (.cons (.tmp rfl) .nil) (.cons (.tail .head) .nil) ?_
            exact ⟨[], ⟨rfl, rfl⟩, rfl⟩
          · simp at g2_27
            refine .on (t := 37) rfl rfl ?_
            refine .rd (.fieldAddr fd27_2 rfl) ?_
            refine .on (t := 37) rfl rfl ?_
            refine .rd (.ld na3 rfl .head rfl) ?_
            refine .on (t := 37) rfl rfl ?_
            refine .rd (.eqI rfl rfl) ?_
            refine .on (t := 37) rfl rfl ?_
            refine .rd (.move rfl) ?_
            refine .split (t := 41) rfl (fun g2_31 => ?_) (fun g2_31 => ?_)
            · replace g2_31 := of_decide_eq_true g2_31
              refine .on (t := 41) rfl rfl ?_
              refine .rd (.fieldAddr fd27_3 rfl) ?_
              refine .on (t := 41) rfl rfl ?_
              refine .rd (.ld na3 rfl .head rfl) ?_
              refine .on (t := 41) rfl rfl ?_
              refine .rd (.fieldAddr fd27_4 rfl) ?_
              refine .on (t := 41) rfl rfl ?_
              refine .rd (.ld na3 rfl .head rfl) ?_
              refine .on (t := 41) rfl rfl ?_
              refine .rd (.or rfl rfl) ?_
              refine .alter (t := 46) (v' := .int .i64 (orI b.pidEpoch b.seq)) rfl (rfl) ?_
              refine .on (t := 41) rfl rfl ?_
              refine .rd (.neI rfl rfl) ?_
              refine .on (t := 37) rfl rfl ?_
              refine .rd (.pickT rfl rfl) ?_
              refine .rd (.pickF rfl rfl) ?_
              refine .rd (.move rfl) ?_
              refine .split (t := 50) rfl (fun g2_40 => ?_) (fun g2_40 => ?_)
              · simp at g2_40
                refine .off (t := 50) rfl rfl rfl ?_
                refine .off (t := 50) rfl rfl rfl ?_
                refine .rd (.pickT rfl rfl) ?_
                refine .nil ?_
                refine .condT rfl ?_
                refine .seq ?_
                refine .region ?_
                refine .rd (.assign rfl) ?_
                refine .nil ?_
                have hq : b.off := by unfold Bat.off; omega
                rw [right_off hq]
                refine .retP Try.func29 (.cons (.tmp rfl) .nil) (.cons (.tail .head) .nil) ?_
                exact ⟨[], ⟨rfl, rfl⟩, rfl⟩
              · simp at g2_40
                refine .on (t := 50) rfl rfl ?_
                refine .rd (.move rfl) ?_
                refine .on (t := 50) rfl rfl ?_
                refine .rd (.eqI rfl rfl) ?_
                refine .rd (.pickF rfl rfl) ?_
                refine .nil ?_
                refine .condP rfl (fun h2 => ?_) (fun h2 => ?_)
                · refine .seq ?_
                  refine .region ?_
                  refine .rd (.assign rfl) ?_
                  refine .nil ?_
                  have hq : b.off := by unfold Bat.off; omega
                  rw [right_off hq]
                  refine .retP Try.func29 (.cons (.tmp rfl) .nil) (.cons (.tail .head) .nil) ?_
                  exact ⟨[], ⟨rfl, rfl⟩, rfl⟩
                · have hno : ¬ b.off := by unfold Bat.off; omega
                  refine .skip ?_
                  refine .seq ?_
                  refine .region ?_
                  refine .rd (.assign rfl) ?_
                  refine .nil ?_
                  refine .seq ?_
                  refine .seq ?_
                  refine .region ?_
                  refine .rd (.fieldAddr fd27_5 rfl) ?_
                  refine .rd (.ld na25 rfl .head rfl) ?_
                  refine .rd (.lenL rfl rfl Try.underlying25 rfl) ?_
                  refine .rd (.move rfl) ?_
                  refine .nil ?_
                  refine .block ?_
                  refine .loop (σ := Nat) (fun j => j ≤ b.recs.length ∧ ∀ r ∈ b.recs.take j, timely r) (fun j => b.recs.length - j) (fun j => [(1, .pointer (some ⟨b1, 0, none⟩)), (2, .int .i64 0), (3, .int .i64 b.recs.length), (4, .bool ((b.recs.take j).any long)), (55, .slice a b.recs.length c), (56, .int .i64 b.recs.length), (57, .int .i64 (j : Nat))]) (fun j => [blk b1 (b.cells a c) 27, R]) 0 ⟨Nat.zero_le _, by simp⟩ (.cons rfl (.cons rfl (.cons rfl (.cons rfl (.cons rfl (.cons rfl (.cons rfl .nil))))))) (.cons .head (.cons .head .nil)) (fun j hI ih => ?_)
                  have hj := hI.1
                  refine .seq ?_
                  refine .region ?_
                  refine .rd (.lt rfl rfl) ?_
                  refine .nil ?_
                  refine .seq ?_
                  refine .condP rfl (fun h6 => ?_) (fun h6 => ?_)
                  · refine .skip ?_
                    refine .seq ?_
                    refine .block ?_
                    refine .seq ?_
                    have hjl : j < b.recs.length := by omega
                    obtain ⟨r, hr⟩ : ∃ r, b.recs[j]? = some r := ⟨_, List.getElem?_eq_getElem hjl⟩
                    have hrm := List.mem_of_getElem? hr
                    have hk1 := hf.key r hrm
                    have hk2 := hf.value r hrm
                    refine .tell (φ := ∃ b o, a = some ⟨b, o, none⟩) (Knows.pick (.tail .head) (k.mono fun _ h => h.addr (by rw [flat_length Rec.cells_len]; omega))) (fun hx => ?_)
                    obtain ⟨bb, oo, rfl⟩ := hx
                    refine .region ?_
                    refine .rd (.indexAddr Try.underlying25 ts65 rfl rfl (by omega) (by omega)) ?_
                    refine .rd (.loadN ia65 ts65 rfl rfl (Knows.elem Rec.cells_len (by decide) (Knows.pick (.tail .head) k) hr)) ?_
                    refine .ef (.alloc ti65 rfl (ones.of rfl)) ?_
                    rintro _ _ ⟨b6, rfl, rfl⟩
                    refine .ef0 (.storeAll (vs := r.cells) ts65 rfl rfl rfl .head rfl (ones.of rfl)) ?_
                    rintro _ _ rfl
                    refine .nil ?_
                    refine .seq ?_
                    refine .seq ?_
                    refine .region ?_
                    refine .rd (.fieldAddr fd65_2 rfl) ?_
                    refine .rd (.ld na3 rfl .head rfl) ?_
                    refine .fn rfl rfl .nil (fun _ _ _ => trivial) (within_ok _ _) (fun v G1 hq => ?_)
                    obtain ⟨rfl, rfl⟩ := hq
                    simp only [List.nil_append]
                    refine .rd (.not rfl) ?_
                    refine .nil ?_
                    refine .condN rfl (fun h8 => ?_) (fun h8 => ?_)
                    · refine .seq ?_
                      refine .region ?_
                      refine .rd (.assign rfl) ?_
                      refine .nil ?_
                      rw [right_time hr (by show ¬ (_ ∧ _); omega)]
                      refine .retP Try.func29 (.cons (.tmp rfl) .nil) (.cons (.tail (.tail .head)) .nil) ?_
                      exact ⟨[], ⟨rfl, rfl⟩, rfl⟩
                    · refine .skip ?_
                      refine .region ?_
                      refine .rd (.move rfl) ?_
                      refine .rd (.move rfl) ?_
                      refine .split (t := 66) rfl (fun g10_1 => ?_) (fun g10_1 => ?_)
                      · refine .off (t := 66) rfl rfl rfl ?_
                        refine .off (t := 66) rfl rfl rfl ?_
                        refine .off (t := 66) rfl rfl rfl ?_
                        refine .off (t := 66) rfl rfl rfl ?_
                        refine .rd (.pickT rfl rfl) ?_
                        refine .rd (.move rfl) ?_
                        refine .off (t := 72) rfl rfl rfl ?_
                        refine .off (t := 72) rfl rfl rfl ?_
                        refine .off (t := 72) rfl rfl rfl ?_
                        refine .off (t := 72) rfl rfl rfl ?_
                        refine .rd (.pickT rfl rfl) ?_
                        refine .rd (.assign rfl) ?_
                        refine .nil ?_
                        refine .inBlock ?_
                        refine .region ?_
                        refine .rd (.add rfl rfl (by omega) (by omega)) ?_
                        refine .rd (.move rfl) ?_
                        refine .nil ?_
                        exact (ih (j + 1) ⟨by omega, all_take (p := timely) hr (by show _ ∧ _; omega) hI.2⟩ (by omega)).to (.cons rfl (.cons rfl (.cons rfl (.cons (by rw [any_take hr, g10_1]; rfl) (.cons rfl (.cons rfl (.cons rfl .nil))))))) (.cons (.tail .head) (.cons (.tail .head) .nil))
                      · refine .on (t := 66) rfl rfl ?_
                        refine .rd (.fieldAddr fd65_0 rfl) ?_
                        refine .on (t := 66) rfl rfl ?_
                        refine .rd (.ld na9 rfl .head rfl) ?_
                        refine .on (t := 66) rfl rfl ?_
                        refine .rd (.lenT rfl rfl Try.underlying9 rfl) ?_
                        refine .on (t := 66) rfl rfl ?_
                        refine .rd (.gt rfl rfl) ?_
                        refine .rd (.pickF rfl rfl) ?_
                        refine .rd (.move rfl) ?_
                        refine .split (t := 72) rfl (fun g10_7 => ?_) (fun g10_7 => ?_)
                        · replace g10_7 := of_decide_eq_true g10_7
                          refine .off (t := 72) rfl rfl rfl ?_
                          refine .off (t := 72) rfl rfl rfl ?_
                          refine .off (t := 72) rfl rfl rfl ?_
                          refine .off (t := 72) rfl rfl rfl ?_
                          refine .rd (.pickT rfl rfl) ?_
                          refine .rd (.assign rfl) ?_
                          refine .nil ?_
                          refine .inBlock ?_
                          refine .region ?_
                          refine .rd (.add rfl rfl (by omega) (by omega)) ?_
                          refine .rd (.move rfl) ?_
                          refine .nil ?_
                          exact (ih (j + 1) ⟨by omega, all_take (p := timely) hr (by show _ ∧ _; omega) hI.2⟩ (by omega)).to (.cons rfl (.cons rfl (.cons rfl (.cons (by rw [any_take hr, g10_1]; show _ = some (Value.bool (false || long r)); rw [show long r = true from (long_iff r).2 (.inl (by omega))]; rfl) (.cons rfl (.cons rfl (.cons rfl .nil))))))) (.cons (.tail .head) (.cons (.tail .head) .nil))
                        · replace g10_7 := of_decide_eq_false g10_7
                          refine .on (t := 72) rfl rfl ?_
                          refine .rd (.fieldAddr fd65_1 rfl) ?_
                          refine .on (t := 72) rfl rfl ?_
                          refine .rd (.ld na9 rfl .head rfl) ?_
                          refine .on (t := 72) rfl rfl ?_
                          refine .rd (.lenT rfl rfl Try.underlying9 rfl) ?_
                          refine .on (t := 72) rfl rfl ?_
                          refine .rd (.gt rfl rfl) ?_
                          refine .rd (.pickF rfl rfl) ?_
                          refine .rd (.assign rfl) ?_
                          refine .nil ?_
                          refine .inBlock ?_
                          refine .region ?_
                          refine .rd (.add rfl rfl (by omega) (by omega)) ?_
                          refine .rd (.move rfl) ?_
                          refine .nil ?_
                          exact (ih (j + 1) ⟨by omega, all_take (p := timely) hr (by show _ ∧ _; omega) hI.2⟩ (by omega)).to (.cons rfl (.cons rfl (.cons rfl (.cons (by rw [any_take hr, g10_1, Bool.false_or, long_r3 (by omega)]; exact congrArg (fun x => some (Value.bool x)) (decide_eq_decide.2 (by omega))) (.cons rfl (.cons rfl (.cons rfl .nil))))))) (.cons (.tail .head) (.cons (.tail .head) .nil))
                  · obtain rfl : j = b.recs.length := by omega
                    have hrt := right_on hno (by have := hI.2; rwa [List.take_length] at this)
                    refine .alter (t := 4) (v' := .bool (b.recs.any long)) rfl (by rw [List.take_length]) ?_
                    refine .exit rfl ?_
                    refine .seq ?_
                    refine .block ?_
                    refine .seq ?_
                    refine .region ?_
                    refine .rd (.move rfl) ?_
                    refine .rd (.gt rfl rfl) ?_
                    refine .rd (.assign rfl) ?_
                    refine .nil ?_
                    refine .condP rfl (fun h12 => ?_) (fun h12 => ?_)
                    · refine .seq ?_
                      refine .region ?_
                      refine .rd (.assign rfl) ?_
                      refine .nil ?_
                      have hv : right b = 3 := by rw [hrt, if_pos (by omega)]
                      rw [hv]
                      refine .retP Try.func29 (.cons (.tmp rfl) .nil) (.cons (.tail .head) .nil) ?_
                      exact ⟨[], ⟨rfl, rfl⟩, rfl⟩
                    · refine .seq ?_
                      refine .region ?_
                      refine .rd (.move rfl) ?_
                      refine .rd (.assign rfl) ?_
                      refine .nil ?_
                      refine .cond rfl (fun h14 => ?_) (fun h14 => ?_)
                      · refine .seq ?_
                        refine .region ?_
                        refine .rd (.assign rfl) ?_
                        refine .nil ?_
                        have hv : right b = 2 := by rw [hrt, if_neg (by omega), if_pos h14]
                        rw [hv]
                        refine .retP Try.func29 (.cons (.tmp rfl) .nil) (.cons (.tail .head) .nil) ?_
                        exact ⟨[], ⟨rfl, rfl⟩, rfl⟩
                      · have hl14 : ¬ b.recs.any long = true := by rw [h14]; decide
                        refine .seq ?_
                        refine .region ?_
                        refine .rd (.fieldAddr fd27_0 rfl) ?_
                        refine .rd (.ld na3 rfl .head rfl) ?_
                        refine .rd (.move rfl) ?_
                        refine .rd (.sub rfl rfl (by omega) (by omega)) ?_
                        refine .rd (.add rfl rfl (by omega) (by omega)) ?_
                        refine .rd (.gt rfl rfl) ?_
                        refine .rd (.move rfl) ?_
                        refine .split (t := 91) rfl (fun g16_6 => ?_) (fun g16_6 => ?_)
                        · replace g16_6 := of_decide_eq_true g16_6
                          refine .off (t := 91) rfl rfl rfl ?_
                          refine .off (t := 91) rfl rfl rfl ?_
                          refine .off (t := 91) rfl rfl rfl ?_
                          refine .off (t := 91) rfl rfl rfl ?_
                          refine .off (t := 91) rfl rfl rfl ?_
                          refine .off (t := 91) rfl rfl rfl ?_
                          refine .rd (.pickT rfl rfl) ?_
                          refine .rd (.assign rfl) ?_
                          refine .nil ?_
                          refine .condT rfl ?_
                          refine .seq ?_
                          refine .region ?_
                          refine .rd (.assign rfl) ?_
                          refine .nil ?_
                          have hv : right b = 20 := by rw [hrt, if_neg (by omega), if_neg hl14, if_pos (by omega)]
                          rw [hv]
                          refine .retP Try.func29 (.cons (.tmp rfl) .nil) (.cons (.tail .head) .nil) ?_
                          exact ⟨[], ⟨rfl, rfl⟩, rfl⟩
                        · replace g16_6 := of_decide_eq_false g16_6
                          refine .on (t := 91) rfl rfl ?_
                          refine .rd (.fieldAddr fd27_4 rfl) ?_
                          refine .on (t := 91) rfl rfl ?_
                          refine .rd (.ld na3 rfl .head rfl) ?_
                          refine .on (t := 91) rfl rfl ?_
                          refine .rd (.move rfl) ?_
                          refine .on (t := 91) rfl rfl ?_
                          refine .rd (.sub rfl rfl (by omega) (by omega)) ?_
                          refine .on (t := 91) rfl rfl ?_
                          refine .rd (.add rfl rfl (by omega) (by omega)) ?_
                          refine .on (t := 91) rfl rfl ?_
                          refine .rd (.gt rfl rfl) ?_
                          refine .rd (.pickF rfl rfl) ?_
                          refine .rd (.assign rfl) ?_
                          refine .nil ?_
                          refine .condP rfl (fun h16 => ?_) (fun h16 => ?_)
                          · refine .seq ?_
                            refine .region ?_
                            refine .rd (.assign rfl) ?_
                            refine .nil ?_
                            have hv : right b = 20 := by rw [hrt, if_neg (by omega), if_neg hl14, if_pos (by omega)]
                            rw [hv]
                            refine .retP Try.func29 (.cons (.tmp rfl) .nil) (.cons (.tail .head) .nil) ?_
                            exact ⟨[], ⟨rfl, rfl⟩, rfl⟩
                          · refine .seq ?_
                            refine .region ?_
                            refine .rd (.ldN ia27 ts27 rfl .head rfl) ?_
                            refine .fn rfl rfl .nil (Knows.pick (.tail .head) k) (body_ok b a c hf (small_of (by omega) hl14)) (fun v G1 hq => ?_)
                            obtain ⟨a', c', rfl, rfl⟩ := hq
                            simp only [List.cons_append, List.nil_append]
                            refine .rd (.lenL rfl rfl Try.underlying34 rfl) ?_
                            refine .rd (.gt rfl rfl) ?_
                            refine .rd (.assign rfl) ?_
                            refine .nil ?_
                            refine .condP rfl (fun h18 => ?_) (fun h18 => ?_)
                            · refine .seq ?_
                              refine .region ?_
                              refine .rd (.assign rfl) ?_
                              refine .nil ?_
                              have hv : right b = 2 := by rw [hrt, if_neg (by omega), if_neg hl14, if_neg (by omega), if_pos (by omega)]
                              rw [hv]
                              refine .retP Try.func29 (.cons (.tmp rfl) .nil) (.cons (.tail (.tail .head)) .nil) ?_
                              exact ⟨[], ⟨rfl, rfl⟩, rfl⟩
                            · refine .skip ?_
                              refine .inBlock ?_
                              refine .seq ?_
                              refine .region ?_
                              refine .rd (.assign rfl) ?_
                              refine .nil ?_
                              have hv : right b = 0 := by rw [hrt, if_neg (by omega), if_neg hl14, if_neg (by omega), if_neg (by omega)]
                              rw [hv]
                              refine .retP Try.func29 (.cons (.tmp rfl) .nil) (.cons (.tail (.tail .head)) .nil) ?_
                              exact ⟨[], ⟨rfl, rfl⟩, rfl⟩
            · replace g2_31 := of_decide_eq_false g2_31
              refine .off (t := 41) rfl rfl rfl ?_
              refine .off (t := 41) rfl rfl rfl ?_
              refine .off (t := 41) rfl rfl rfl ?_
              refine .off (t := 41) rfl rfl rfl ?_
              refine .off (t := 41) rfl rfl rfl ?_
              refine .off (t := 41) rfl rfl rfl ?_
              refine .on (t := 37) rfl rfl ?_
              refine .rd (.pickF rfl rfl) ?_
              refine .rd (.pickF rfl rfl) ?_
              refine .rd (.move rfl) ?_
              refine .on (t := 50) rfl rfl ?_
              refine .rd (.move rfl) ?_
              refine .on (t := 50) rfl rfl ?_
              refine .rd (.eqI rfl rfl) ?_
              refine .rd (.pickF rfl rfl) ?_
              refine .nil ?_
              refine .condP rfl (fun h2 => ?_) (fun h2 => ?_)
              · refine .seq ?_
                refine .region ?_
                refine .rd (.assign rfl) ?_
                refine .nil ?_
                have hq : b.off := by unfold Bat.off; omega
                rw [right_off hq]
                refine .retP Try.func29 (.cons (.tmp rfl) .nil) (.cons (.tail .head) .nil) ?_
                exact ⟨[], ⟨rfl, rfl⟩, rfl⟩
              · have hno : ¬ b.off := by unfold Bat.off; omega
                refine .skip ?_
                refine .seq ?_
                refine .region ?_
                refine .rd (.assign rfl) ?_
                refine .nil ?_
                refine .seq ?_
                refine .seq ?_
                refine .region ?_
                refine .rd (.fieldAddr fd27_5 rfl) ?_
                refine .rd (.ld na25 rfl .head rfl) ?_
                refine .rd (.lenL rfl rfl Try.underlying25 rfl) ?_
                refine .rd (.move rfl) ?_
                refine .nil ?_
                refine .block ?_
                refine .loop (σ := Nat) (fun j => j ≤ b.recs.length ∧ ∀ r ∈ b.recs.take j, timely r) (fun j => b.recs.length - j) (fun j => [(1, .pointer (some ⟨b1, 0, none⟩)), (2, .int .i64 0), (3, .int .i64 b.recs.length), (4, .bool ((b.recs.take j).any long)), (55, .slice a b.recs.length c), (56, .int .i64 b.recs.length), (57, .int .i64 (j : Nat))]) (fun j => [blk b1 (b.cells a c) 27, R]) 0 ⟨Nat.zero_le _, by simp⟩ (.cons rfl (.cons rfl (.cons rfl (.cons rfl (.cons rfl (.cons rfl (.cons rfl .nil))))))) (.cons .head (.cons .head .nil)) (fun j hI ih => ?_)
                have hj := hI.1
                refine .seq ?_
                refine .region ?_
                refine .rd (.lt rfl rfl) ?_
                refine .nil ?_
                refine .seq ?_
                refine .condP rfl (fun h6 => ?_) (fun h6 => ?_)
                · refine .skip ?_
                  refine .seq ?_
                  refine .block ?_
                  refine .seq ?_
                  have hjl : j < b.recs.length := by omega
                  obtain ⟨r, hr⟩ : ∃ r, b.recs[j]? = some r := ⟨_, List.getElem?_eq_getElem hjl⟩
                  have hrm := List.mem_of_getElem? hr
                  have hk1 := hf.key r hrm
                  have hk2 := hf.value r hrm
                  refine .tell (φ := ∃ b o, a = some ⟨b, o, none⟩) (Knows.pick (.tail .head) (k.mono fun _ h => h.addr (by rw [flat_length Rec.cells_len]; omega))) (fun hx => ?_)
                  obtain ⟨bb, oo, rfl⟩ := hx
                  refine .region ?_
                  refine .rd (.indexAddr Try.underlying25 ts65 rfl rfl (by omega) (by omega)) ?_
                  refine .rd (.loadN ia65 ts65 rfl rfl (Knows.elem Rec.cells_len (by decide) (Knows.pick (.tail .head) k) hr)) ?_
                  refine .ef (.alloc ti65 rfl (ones.of rfl)) ?_
                  rintro _ _ ⟨b6, rfl, rfl⟩
                  refine .ef0 (.storeAll (vs := r.cells) ts65 rfl rfl rfl .head rfl (ones.of rfl)) ?_
                  rintro _ _ rfl
                  refine .nil ?_
                  refine .seq ?_
                  refine .seq ?_
                  refine .region ?_
                  refine .rd (.fieldAddr fd65_2 rfl) ?_
                  refine .rd (.ld na3 rfl .head rfl) ?_
                  refine .fn rfl rfl .nil (fun _ _ _ => trivial) (within_ok _ _) (fun v G1 hq => ?_)
                  obtain ⟨rfl, rfl⟩ := hq
                  simp only [List.nil_append]
                  refine .rd (.not rfl) ?_
                  refine .nil ?_
                  refine .condN rfl (fun h8 => ?_) (fun h8 => ?_)
                  · refine .seq ?_
                    refine .region ?_
                    refine .rd (.assign rfl) ?_
                    refine .nil ?_
                    rw [right_time hr (by show ¬ (_ ∧ _); omega)]
                    refine .retP Try.func29 (.cons (.tmp rfl) .nil) (.cons (.tail (.tail .head)) .nil) ?_
                    exact ⟨[], ⟨rfl, rfl⟩, rfl⟩
                  · refine .skip ?_
                    refine .region ?_
                    refine .rd (.move rfl) ?_
                    refine .rd (.move rfl) ?_
                    refine .split (t := 66) rfl (fun g10_1 => ?_) (fun g10_1 => ?_)
                    · refine .off (t := 66) rfl rfl rfl ?_
                      refine .off (t := 66) rfl rfl rfl ?_
                      refine .off (t := 66) rfl rfl rfl ?_
                      refine .off (t := 66) rfl rfl rfl ?_
                      refine .rd (.pickT rfl rfl) ?_
                      refine .rd (.move rfl) ?_
                      refine .off (t := 72) rfl rfl rfl ?_
                      refine .off (t := 72) rfl rfl rfl ?_
                      refine .off (t := 72) rfl rfl rfl ?_
                      refine .off (t := 72) rfl rfl rfl ?_
                      refine .rd (.pickT rfl rfl) ?_
                      refine .rd (.assign rfl) ?_
                      refine .nil ?_
                      refine .inBlock ?_
                      refine .region ?_
                      refine .rd (.add rfl rfl (by omega) (by omega)) ?_
                      refine .rd (.move rfl) ?_
                      refine .nil ?_
                      exact (ih (j + 1) ⟨by omega, all_take (p := timely) hr (by show _ ∧ _; omega) hI.2⟩ (by omega)).to (.cons rfl (.cons rfl (.cons rfl (.cons (by rw [any_take hr, g10_1]; rfl) (.cons rfl (.cons rfl (.cons rfl .nil))))))) (.cons (.tail .head) (.cons (.tail .head) .nil))
                    · refine .on (t := 66) rfl rfl ?_
                      refine .rd (.fieldAddr fd65_0 rfl) ?_
                      refine .on (t := 66) rfl rfl ?_
                      refine .rd (.ld na9 rfl .head rfl) ?_
                      refine .on (t := 66) rfl rfl ?_
                      refine .rd (.lenT rfl rfl Try.underlying9 rfl) ?_
                      refine .on (t := 66) rfl rfl ?_
                      refine .rd (.gt rfl rfl) ?_
                      refine .rd (.pickF rfl rfl) ?_
                      refine .rd (.move rfl) ?_
                      refine .split (t := 72) rfl (fun g10_7 => ?_) (fun g10_7 => ?_)
                      · replace g10_7 := of_decide_eq_true g10_7
                        refine .off (t := 72) rfl rfl rfl ?_
                        refine .off (t := 72) rfl rfl rfl ?_
                        refine .off (t := 72) rfl rfl rfl ?_
                        refine .off (t := 72) rfl rfl rfl ?_
                        refine .rd (.pickT rfl rfl) ?_
                        refine .rd (.assign rfl) ?_
                        refine .nil ?_
                        refine .inBlock ?_
                        refine .region ?_
                        refine .rd (.add rfl rfl (by omega) (by omega)) ?_
                        refine .rd (.move rfl) ?_
                        refine .nil ?_
                        exact (ih (j + 1) ⟨by omega, all_take (p := timely) hr (by show _ ∧ _; omega) hI.2⟩ (by omega)).to (.cons rfl (.cons rfl (.cons rfl (.cons (by rw [any_take hr, g10_1]; show _ = some (Value.bool (false || long r)); rw [show long r = true from (long_iff r).2 (.inl (by omega))]; rfl) (.cons rfl (.cons rfl (.cons rfl .nil))))))) (.cons (.tail .head) (.cons (.tail .head) .nil))
                      · replace g10_7 := of_decide_eq_false g10_7
                        refine .on (t := 72) rfl rfl ?_
                        refine .rd (.fieldAddr fd65_1 rfl) ?_
                        refine .on (t := 72) rfl rfl ?_
                        refine .rd (.ld na9 rfl .head rfl) ?_
                        refine .on (t := 72) rfl rfl ?_
                        refine .rd (.lenT rfl rfl Try.underlying9 rfl) ?_
                        refine .on (t := 72) rfl rfl ?_
                        refine .rd (.gt rfl rfl) ?_
                        refine .rd (.pickF rfl rfl) ?_
                        refine .rd (.assign rfl) ?_
                        refine .nil ?_
                        refine .inBlock ?_
                        refine .region ?_
                        refine .rd (.add rfl rfl (by omega) (by omega)) ?_
                        refine .rd (.move rfl) ?_
                        refine .nil ?_
                        exact (ih (j + 1) ⟨by omega, all_take (p := timely) hr (by show _ ∧ _; omega) hI.2⟩ (by omega)).to (.cons rfl (.cons rfl (.cons rfl (.cons (by rw [any_take hr, g10_1, Bool.false_or, long_r3 (by omega)]; exact congrArg (fun x => some (Value.bool x)) (decide_eq_decide.2 (by omega))) (.cons rfl (.cons rfl (.cons rfl .nil))))))) (.cons (.tail .head) (.cons (.tail .head) .nil))
                · obtain rfl : j = b.recs.length := by omega
                  have hrt := right_on hno (by have := hI.2; rwa [List.take_length] at this)
                  refine .alter (t := 4) (v' := .bool (b.recs.any long)) rfl (by rw [List.take_length]) ?_
                  refine .exit rfl ?_
                  refine .seq ?_
                  refine .block ?_
                  refine .seq ?_
                  refine .region ?_
                  refine .rd (.move rfl) ?_
                  refine .rd (.gt rfl rfl) ?_
                  refine .rd (.assign rfl) ?_
                  refine .nil ?_
                  refine .condP rfl (fun h12 => ?_) (fun h12 => ?_)
                  · refine .seq ?_
                    refine .region ?_
                    refine .rd (.assign rfl) ?_
                    refine .nil ?_
                    have hv : right b = 3 := by rw [hrt, if_pos (by omega)]
                    rw [hv]
                    refine .retP Try.func29 (.cons (.tmp rfl) .nil) (.cons (.tail .head) .nil) ?_
                    exact ⟨[], ⟨rfl, rfl⟩, rfl⟩
                  · refine .seq ?_
                    refine .region ?_
                    refine .rd (.move rfl) ?_
                    refine .rd (.assign rfl) ?_
                    refine .nil ?_
                    refine .cond rfl (fun h14 => ?_) (fun h14 => ?_)
                    · refine .seq ?_
                      refine .region ?_
                      refine .rd (.assign rfl) ?_
                      refine .nil ?_
                      have hv : right b = 2 := by rw [hrt, if_neg (by omega), if_pos h14]
                      rw [hv]
                      refine .retP Try.func29 (.cons (.tmp rfl) .nil) (.cons (.tail .head) .nil) ?_
                      exact ⟨[], ⟨rfl, rfl⟩, rfl⟩
                    · have hl14 : ¬ b.recs.any long = true := by rw [h14]; decide
                      refine .seq ?_
                      refine .region ?_
                      refine .rd (.fieldAddr fd27_0 rfl) ?_
                      refine .rd (.ld na3 rfl .head rfl) ?_
                      refine .rd (.move rfl) ?_
                      refine .rd (.sub rfl rfl (by omega) (by omega)) ?_
                      refine .rd (.add rfl rfl (by omega) (by omega)) ?_
                      refine .rd (.gt rfl rfl) ?_
                      refine .rd (.move rfl) ?_
                      refine .split (t := 91) rfl (fun g16_6 => ?_) (fun g16_6 => ?_)
                      · replace g16_6 := of_decide_eq_true g16_6
                        refine .off (t := 91) rfl rfl rfl ?_
                        refine .off (t := 91) rfl rfl rfl ?_
                        refine .off (t := 91) rfl rfl rfl ?_
                        refine .off (t := 91) rfl rfl rfl ?_
                        refine .off (t := 91) rfl rfl rfl ?_
                        refine .off (t := 91) rfl rfl rfl ?_
                        refine .rd (.pickT rfl rfl) ?_
                        refine .rd (.assign rfl) ?_
                        refine .nil ?_
                        refine .condT rfl ?_
                        refine .seq ?_
                        refine .region ?_
                        refine .rd (.assign rfl) ?_
                        refine .nil ?_
                        have hv : right b = 20 := by rw [hrt, if_neg (by omega), if_neg hl14, if_pos (by omega)]
                        rw [hv]
                        refine .retP Try.func29 (.cons (.tmp rfl) .nil) (.cons (.tail .head) .nil) ?_
                        exact ⟨[], ⟨rfl, rfl⟩, rfl⟩
                      · replace g16_6 := of_decide_eq_false g16_6
                        refine .on (t := 91) rfl rfl ?_
                        refine .rd (.fieldAddr fd27_4 rfl) ?_
                        refine .on (t := 91) rfl rfl ?_
                        refine .rd (.ld na3 rfl .head rfl) ?_
                        refine .on (t := 91) rfl rfl ?_
                        refine .rd (.move rfl) ?_
                        refine .on (t := 91) rfl rfl ?_
                        refine .rd (.sub rfl rfl (by omega) (by omega)) ?_
                        refine .on (t := 91) rfl rfl ?_
                        refine .rd (.add rfl rfl (by omega) (by omega)) ?_
                        refine .on (t := 91) rfl rfl ?_
                        refine .rd (.gt rfl rfl) ?_
                        refine .rd (.pickF rfl rfl) ?_
                        refine .rd (.assign rfl) ?_
                        refine .nil ?_
                        refine .condP rfl (fun h16 => ?_) (fun h16 => ?_)
                        · refine .seq ?_
                          refine .region ?_
                          refine .rd (.assign rfl) ?_
                          refine .nil ?_
                          have hv : right b = 20 := by rw [hrt, if_neg (by omega), if_neg hl14, if_pos (by omega)]
                          rw [hv]
                          refine .retP Try.func29 (.cons (.tmp rfl) .nil) (.cons (.tail .head) .nil) ?_
                          exact ⟨[], ⟨rfl, rfl⟩, rfl⟩
                        · refine .seq ?_
                          refine .region ?_
                          refine .rd (.ldN ia27 ts27 rfl .head rfl) ?_
                          refine .fn rfl rfl .nil (Knows.pick (.tail .head) k) (body_ok b a c hf (small_of (by omega) hl14)) (fun v G1 hq => ?_)
                          obtain ⟨a', c', rfl, rfl⟩ := hq
                          simp only [List.cons_append, List.nil_append]
                          refine .rd (.lenL rfl rfl Try.underlying34 rfl) ?_
                          refine .rd (.gt rfl rfl) ?_
                          refine .rd (.assign rfl) ?_
                          refine .nil ?_
                          refine .condP rfl (fun h18 => ?_) (fun h18 => ?_)
                          · refine .seq ?_
                            refine .region ?_
                            refine .rd (.assign rfl) ?_
                            refine .nil ?_
                            have hv : right b = 2 := by rw [hrt, if_neg (by omega), if_neg hl14, if_neg (by omega), if_pos (by omega)]
                            rw [hv]
                            refine .retP Try.func29 (.cons (.tmp rfl) .nil) (.cons (.tail (.tail .head)) .nil) ?_
                            exact ⟨[], ⟨rfl, rfl⟩, rfl⟩
                          · refine .skip ?_
                            refine .inBlock ?_
                            refine .seq ?_
                            refine .region ?_
                            refine .rd (.assign rfl) ?_
                            refine .nil ?_
                            have hv : right b = 0 := by rw [hrt, if_neg (by omega), if_neg hl14, if_neg (by omega), if_neg (by omega)]
                            rw [hv]
                            refine .retP Try.func29 (.cons (.tmp rfl) .nil) (.cons (.tail (.tail .head)) .nil) ?_
                            exact ⟨[], ⟨rfl, rfl⟩, rfl⟩

end Go.Proofs.Ytllpkagplfmlbaa


namespace Go.Proofs.Ytllpkagplfmlbaa
open Go Go.Sp

set_option linter.unusedVariables false

namespace wire12
theorem fd27_5 : FD Try.prog 27 5 5 := .of Try.underlying27 (by kernel_rfl)
theorem na25 : NotAgg Try.prog 25 := ⟨_, Try.underlying25, trivial⟩
theorem fd27_1 : FD Try.prog 27 1 1 := .of Try.underlying27 (by kernel_rfl)
theorem na3 : NotAgg Try.prog 3 := ⟨_, Try.underlying3, trivial⟩
theorem fd27_2 : FD Try.prog 27 2 2 := .of Try.underlying27 (by kernel_rfl)
theorem fd27_3 : FD Try.prog 27 3 3 := .of Try.underlying27 (by kernel_rfl)
theorem fd27_4 : FD Try.prog 27 4 4 := .of Try.underlying27 (by kernel_rfl)
theorem ti3 : TI Try.prog 3 1 8 (.int .i64 0) := .of (by kernel_rfl)
theorem ts3 : TS Try.prog 3 1 := .of (by kernel_rfl)
theorem fd27_0 : FD Try.prog 27 0 0 := .of Try.underlying27 (by kernel_rfl)
theorem ts65 : TS Try.prog 65 3 := .of (by kernel_rfl)
theorem fd65_2 : FD Try.prog 65 2 2 := .of Try.underlying65 (by kernel_rfl)
theorem fd65_0 : FD Try.prog 65 0 0 := .of Try.underlying65 (by kernel_rfl)
theorem na9 : NotAgg Try.prog 9 := ⟨_, Try.underlying9, trivial⟩
theorem fd65_1 : FD Try.prog 65 1 1 := .of Try.underlying65 (by kernel_rfl)
theorem ia27 : IsAgg Try.prog 27 := ⟨_, Try.underlying27, trivial⟩
theorem ts27 : TS Try.prog 27 6 := .of (by kernel_rfl)
end wire12
open wire12

theorem fill4i (a b c d : Int) : Instr.fill (fun i => some (i * 1, 1)) (madeCells (Value.int .i64 0).cells (4 * 1)) [(0, .int .i64 a), (1, .int .i64 b), (2, .int .i64 c), (3, .int .i64 d)] = some ([.int .i64 a, .int .i64 b, .int .i64 c, .int .i64 d] : List Value).toArray := by kernel_rfl
def Bat.four (b : Bat) : List Int := [b.epoch, b.pid, b.pidEpoch, b.seq]
def fine (n : Int) : Prop := 0 ≤ n ∧ n ≤ 1000000000
theorem four_off {b : Bat} {n : Int} (h : n ∈ b.four) (hn : ¬ fine n) : b.off := by
  simp only [Bat.four, List.mem_cons, List.not_mem_nil, or_false] at h
  unfold fine at hn; unfold Bat.off
  rcases h with rfl | rfl | rfl | rfl <;> omega
theorem four_cells (b : Bat) : ([.int .i64 b.epoch, .int .i64 b.pid, .int .i64 b.pidEpoch, .int .i64 b.seq] : List Value) = b.four.map (Value.int .i64) := rfl
theorem map_at {α β : Type} {f : α → β} {l : List α} {i : Nat} {x : α} (h : l[i]? = some x) : (l.map f)[i]? = some (f x) := by rw [List.getElem?_map, h]; rfl
theorem fine_off {b : Bat} (h : ∀ n ∈ b.four, fine n) (h2 : ¬ (b.base < 0 ∨ b.pid = 0 ∧ (b.pidEpoch ≠ 0 ∨ b.seq ≠ 0) ∨ b.recs.length = 0)) : ¬ b.off := by
  have e1 := h b.epoch (by simp [Bat.four]); have e2 := h b.pid (by simp [Bat.four]); have e3 := h b.pidEpoch (by simp [Bat.four]); have e4 := h b.seq (by simp [Bat.four])
  unfold fine at e1 e2 e3 e4; unfold Bat.off; omega
theorem any_none {l : List Rec} {j : Nat} (h : ∀ r ∈ l.take j, ¬ long r = true) (hj : l.length ≤ j) : ¬ l.any long = true := by
  rw [List.take_of_length_le hj] at h
  intro e; obtain ⟨r, hr, hl⟩ := List.any_eq_true.1 e; exact h r hr hl

set_option maxRecDepth 20000 in
theorem rRight_ok (b : Bat) (a : Option Addr) (c : Nat) (hf : b.fits) : Cn Try.prog 52 [.agg (b.cells a c).toArray] (RowAt a (b.recs.flatMap Rec.cells)) [] fun v G => v = .int .i64 (right b) ∧ G = [] := by
  refine .enter Try.func52 rfl (by kernel_rfl) rfl fun R k => ?_
  have hfl := hf.len
  refine .seq ?_
  refine .region ?_
  refine .ef (.box (l := b.cells a c) rfl rfl (ones.of rfl)) ?_
  rintro _ _ ⟨b1, rfl, rfl⟩
  refine .rd (.assign rfl) ?_
  refine .nil ?_
  refine .seq ?_
  refine .region ?_
  refine .rd (.fieldAddr fd27_5 rfl) ?_
  refine .rd (.ld na25 rfl .head rfl) ?_
  refine .rd (.lenL rfl rfl Try.underlying25 rfl) ?_
  refine .rd (.assign rfl) ?_
  refine .nil ?_
  refine .seq ?_
  refine .region ?_
  refine .rd (.fieldAddr fd27_1 rfl) ?_
  refine .rd (.ld na3 rfl .head rfl) ?_
  refine .rd (.fieldAddr fd27_2 rfl) ?_
  refine .rd (.ld na3 rfl .head rfl) ?_
  refine .rd (.fieldAddr fd27_3 rfl) ?_
  refine .rd (.ld na3 rfl .head rfl) ?_
  refine .rd (.fieldAddr fd27_4 rfl) ?_
  refine .rd (.ld na3 rfl .head rfl) ?_
  refine .ef (.buildSlice (n := 4) (cs := [.int .i64 b.epoch, .int .i64 b.pid, .int .i64 b.pidEpoch, .int .i64 b.seq]) Try.underlying37 ti3 rfl (by decide) (fill4i _ _ _ _) (ones.of rfl)) ?_
  rintro _ _ ⟨bs, rfl, rfl⟩
  refine .rd (.assign rfl) ?_
  refine .nil ?_
  refine .seq ?_
  refine .seq ?_
  refine .region ?_
  refine .rd (.assign rfl) ?_
  refine .nil ?_
  refine .block ?_
  refine .loop (σ := Nat) (fun i => i ≤ 4 ∧ ∀ n ∈ b.four.take i, fine n) (fun i => 4 - i) (fun i => [(1, .pointer (some ⟨b1, 0, none⟩)), (3, .int .i64 b.recs.length), (4, .slice (some ⟨bs, 0, none⟩) 4 4), (5, .int .i64 (i : Nat))]) (fun i => [blk b1 (b.cells a c) 27, blk bs (b.four.map (Value.int .i64)) 3, R]) 0 ⟨Nat.zero_le _, by simp⟩ (.cons rfl (.cons rfl (.cons rfl (.cons rfl .nil)))) (.cons (.tail .head) (.cons .head (.cons .head .nil))) (fun i hI ih => ?_)
  have hi4 := hI.1
  refine .seq ?_
  refine .seq ?_
  refine .region ?_
  refine .rd (.move rfl) ?_
  refine .rd (.move rfl) ?_
  refine .rd (.lenL rfl rfl Try.underlying37 rfl) ?_
  refine .rd (.lt rfl rfl) ?_
  refine .nil ?_
  refine .condP rfl (fun h4 => ?_) (fun h4 => ?_)
  · refine .skip ?_
    refine .seq ?_
    refine .block ?_
    refine .seq ?_
    have hlt : i < b.four.length := by show i < 4; omega
    obtain ⟨n, hn⟩ : ∃ n, b.four[i]? = some n := ⟨_, List.getElem?_eq_getElem hlt⟩
    refine .region ?_
    refine .rd (.move rfl) ?_
    refine .rd (.move rfl) ?_
    refine .rd (.indexAddr Try.underlying37 ts3 rfl rfl (by omega) (by omega)) ?_
    refine .rd (.load na3 rfl ((Knows.blk (.tail .head)).one (map_at (x := n) (by rw [Int.toNat_natCast, Nat.mul_one]; exact hn)))) ?_
    refine .rd (.lt rfl rfl) ?_
    refine .rd (.move rfl) ?_
    refine .split (t := 31) rfl (fun g6_5 => ?_) (fun g6_5 => ?_)
    · replace g6_5 := of_decide_eq_true g6_5
      refine .off (t := 31) rfl rfl rfl ?_
      refine .off (t := 31) rfl rfl rfl ?_
      refine .off (t := 31) rfl rfl rfl ?_
      refine .off (t := 31) rfl rfl rfl ?_
      refine .off (t := 31) rfl rfl rfl ?_
      refine .rd (.pickT rfl rfl) ?_
      refine .nil ?_
      refine .condT rfl ?_
      refine .seq ?_
      refine .region ?_
      refine .rd (.assign rfl) ?_
      refine .nil ?_
      have hq : b.off := four_off (List.mem_of_getElem? hn) (by unfold fine; omega)
      rw [right_off hq]
      refine .retP Try.func52 (.cons (.tmp rfl) .nil) (.cons (.tail (.tail .head)) .nil) ?_
      exact ⟨[], ⟨rfl, rfl⟩, rfl⟩
    · replace g6_5 := of_decide_eq_false g6_5
      refine .on (t := 31) rfl rfl ?_
      refine .rd (.move rfl) ?_
      refine .on (t := 31) rfl rfl ?_
      refine .rd (.move rfl) ?_
      refine .on (t := 31) rfl rfl ?_
      refine .rd (.indexAddr Try.underlying37 ts3 rfl rfl (by omega) (by omega)) ?_
      refine .on (t := 31) rfl rfl ?_
      refine .rd (.load na3 rfl ((Knows.blk (.tail .head)).one (map_at (x := n) (by rw [Int.toNat_natCast, Nat.mul_one]; exact hn)))) ?_
      refine .on (t := 31) rfl rfl ?_
      refine .rd (.gt rfl rfl) ?_
      refine .rd (.pickF rfl rfl) ?_
      refine .nil ?_
      refine .condP rfl (fun h6 => ?_) (fun h6 => ?_)
      · refine .seq ?_
        refine .region ?_
        refine .rd (.assign rfl) ?_
        refine .nil ?_
        have hq : b.off := four_off (List.mem_of_getElem? hn) (by unfold fine; omega)
        rw [right_off hq]
        refine .retP Try.func52 (.cons (.tmp rfl) .nil) (.cons (.tail (.tail .head)) .nil) ?_
        exact ⟨[], ⟨rfl, rfl⟩, rfl⟩
      · refine .skip ?_
        refine .inBlock ?_
        refine .region ?_
        refine .rd (.move rfl) ?_
        refine .rd (.add rfl rfl (by omega) (by omega)) ?_
        refine .rd (.assign rfl) ?_
        refine .nil ?_
        exact (ih (i + 1) ⟨by omega, all_take (p := fine) hn (by show _ ∧ _; omega) hI.2⟩ (by omega)).to (.cons rfl (.cons rfl (.cons rfl (.cons rfl .nil)))) (.cons .head (.cons .head (.cons .head .nil)))
  · obtain rfl : i = 4 := by omega
    have hfine : ∀ n ∈ b.four, fine n := hI.2
    refine .exit rfl ?_
    refine .seq ?_
    refine .seq ?_
    refine .region ?_
    refine .rd (.fieldAddr fd27_0 rfl) ?_
    refine .rd (.ld na3 rfl .head rfl) ?_
    refine .rd (.lt rfl rfl) ?_
    refine .rd (.move rfl) ?_
    refine .split (t := 41) rfl (fun g8_3 => ?_) (fun g8_3 => ?_)
    · replace g8_3 := of_decide_eq_true g8_3
      refine .off (t := 41) rfl rfl rfl ?_
      refine .off (t := 41) rfl rfl rfl ?_
      refine .off (t := 41) rfl rfl rfl ?_
      refine .offU (t := 41) rfl rfl rfl rfl ?_
      refine .offX (t := 45) rfl rfl rfl ?_
      refine .offX (t := 45) rfl rfl rfl ?_
      refine .offX (t := 45) rfl rfl rfl ?_
      refine .offX (t := 45) rfl rfl rfl ?_
      refine .offX (t := 49) rfl rfl rfl ?_
      refine .offX (t := 49) rfl rfl rfl ?_
      refine .offX (t := 49) rfl rfl rfl ?_
      refine .offX (t := 45) rfl rfl rfl ?_
      refine .off (t := 41) rfl rfl rfl ?_
      refine .rd (.pickT rfl rfl) ?_
      refine .rd (.move rfl) ?_
      refine .off (t := 56) rfl rfl rfl ?_
      refine .off (t := 56) rfl rfl rfl ?_
      refine .rd (.pickT rfl rfl) ?_
      refine .nil ?_
      refine .condT rfl ?_
      refine .seq ?_
      refine .region ?_
      refine .rd (.assign rfl) ?_
      refine .nil ?_
      have hq : b.off := by unfold Bat.off; omega
      rw [right_off hq]
      refine .retP Try.func52 (.cons (.tmp rfl) .nil) (.cons (.tail (.tail .head)) .nil) ?_
      exact ⟨[], ⟨rfl, rfl⟩, rfl⟩
    · replace g8_3 := of_decide_eq_false g8_3
      refine .on (t := 41) rfl rfl ?_
      refine .rd (.fieldAddr fd27_2 rfl) ?_
      refine .on (t := 41) rfl rfl ?_
      refine .rd (.ld na3 rfl .head rfl) ?_
      refine .on (t := 41) rfl rfl ?_
      refine .rd (.eqI rfl rfl) ?_
      refine .on (t := 41) rfl rfl ?_
      refine .rd (.move rfl) ?_
      refine .split (t := 45) rfl (fun g8_7 => ?_) (fun g8_7 => ?_)
      · replace g8_7 := of_decide_eq_true g8_7
        refine .on (t := 45) rfl rfl ?_
        refine .rd (.fieldAddr fd27_3 rfl) ?_
        refine .on (t := 45) rfl rfl ?_
        refine .rd (.ld na3 rfl .head rfl) ?_
        refine .on (t := 45) rfl rfl ?_
        refine .rd (.neI rfl rfl) ?_
        refine .on (t := 45) rfl rfl ?_
        refine .rd (.move rfl) ?_
        refine .split (t := 49) rfl (fun g8_11 => ?_) (fun g8_11 => ?_)
        · simp at g8_11
          refine .off (t := 49) rfl rfl rfl ?_
          refine .off (t := 49) rfl rfl rfl ?_
          refine .off (t := 49) rfl rfl rfl ?_
          refine .on (t := 45) rfl rfl ?_
          refine .rd (.pickT rfl rfl) ?_
          refine .on (t := 41) rfl rfl ?_
          refine .rd (.pickT rfl rfl) ?_
          refine .rd (.pickF rfl rfl) ?_
          refine .rd (.move rfl) ?_
          refine .off (t := 56) rfl rfl rfl ?_
          refine .off (t := 56) rfl rfl rfl ?_
          refine .rd (.pickT rfl rfl) ?_
          refine .nil ?_
          refine .condT rfl ?_
          refine .seq ?_
          refine .region ?_
          refine .rd (.assign rfl) ?_
          refine .nil ?_
          have hq : b.off := by unfold Bat.off; omega
          rw [right_off hq]
          refine .retP Try.func52 (.cons (.tmp rfl) .nil) (.cons (.tail (.tail .head)) .nil) ?_
          exact ⟨[], ⟨rfl, rfl⟩, rfl⟩
        · simp at g8_11
          refine .on (t := 49) rfl rfl ?_
          refine .rd (.fieldAddr fd27_4 rfl) ?_
          refine .on (t := 49) rfl rfl ?_
          refine .rd (.ld na3 rfl .head rfl) ?_
          refine .on (t := 49) rfl rfl ?_
          refine .rd (.neI rfl rfl) ?_
          refine .on (t := 45) rfl rfl ?_
          refine .rd (.pickF rfl rfl) ?_
          refine .on (t := 41) rfl rfl ?_
          refine .rd (.pickT rfl rfl) ?_
          refine .rd (.pickF rfl rfl) ?_
          refine .rd (.move rfl) ?_
          refine .split (t := 56) rfl (fun g8_18 => ?_) (fun g8_18 => ?_)
          · simp at g8_18
            refine .off (t := 56) rfl rfl rfl ?_
            refine .off (t := 56) rfl rfl rfl ?_
            refine .rd (.pickT rfl rfl) ?_
            refine .nil ?_
            refine .condT rfl ?_
            refine .seq ?_
            refine .region ?_
            refine .rd (.assign rfl) ?_
            refine .nil ?_
            have hq : b.off := by unfold Bat.off; omega
            rw [right_off hq]
            refine .retP Try.func52 (.cons (.tmp rfl) .nil) (.cons (.tail (.tail .head)) .nil) ?_
            exact ⟨[], ⟨rfl, rfl⟩, rfl⟩
          · simp at g8_18
            refine .on (t := 56) rfl rfl ?_
            refine .rd (.move rfl) ?_
            refine .on (t := 56) rfl rfl ?_
            refine .rd (.eqI rfl rfl) ?_
            refine .rd (.pickF rfl rfl) ?_
            refine .nil ?_
            refine .condP rfl (fun h8 => ?_) (fun h8 => ?_)
            · refine .seq ?_
              refine .region ?_
              refine .rd (.assign rfl) ?_
              refine .nil ?_
              have hq : b.off := by unfold Bat.off; omega
              rw [right_off hq]
              refine .retP Try.func52 (.cons (.tmp rfl) .nil) (.cons (.tail (.tail .head)) .nil) ?_
              exact ⟨[], ⟨rfl, rfl⟩, rfl⟩
            · have hno : ¬ b.off := fine_off hfine (by omega)
              refine .skip ?_
              refine .seq ?_
              refine .seq ?_
              refine .region ?_
              refine .rd (.assign rfl) ?_
              refine .nil ?_
              refine .block ?_
              refine .loop (σ := Nat) (fun j => j ≤ b.recs.length ∧ ∀ r ∈ b.recs.take j, timely r) (fun j => b.recs.length - j) (fun j => [(1, .pointer (some ⟨b1, 0, none⟩)), (3, .int .i64 b.recs.length), (6, .int .i64 (j : Nat))]) (fun j => [blk b1 (b.cells a c) 27, R]) 0 ⟨Nat.zero_le _, by simp⟩ (.cons rfl (.cons rfl (.cons rfl .nil))) (.cons .head (.cons (.tail .head) .nil)) (fun j hI ih => ?_)
              have hj := hI.1
              refine .seq ?_
              refine .seq ?_
              refine .region ?_
              refine .rd (.move rfl) ?_
              refine .rd (.move rfl) ?_
              refine .rd (.lt rfl rfl) ?_
              refine .nil ?_
              refine .condP rfl (fun h11 => ?_) (fun h11 => ?_)
              · refine .skip ?_
                refine .seq ?_
                refine .block ?_
                refine .seq ?_
                have hjl : j < b.recs.length := by omega
                obtain ⟨r, hr⟩ : ∃ r, b.recs[j]? = some r := ⟨_, List.getElem?_eq_getElem hjl⟩
                have hrm := List.mem_of_getElem? hr
                have hk1 := hf.key r hrm
                have hk2 := hf.value r hrm
                refine .tell (φ := ∃ b o, a = some ⟨b, o, none⟩) (Knows.pick (.tail .head) (k.mono fun _ h => h.addr (by rw [flat_length Rec.cells_len]; omega))) (fun hx => ?_)
                obtain ⟨bb, oo, rfl⟩ := hx
                refine .region ?_
                refine .rd (.fieldAddr fd27_5 rfl) ?_
                refine .rd (.ld na25 rfl .head rfl) ?_
                refine .rd (.move rfl) ?_
                refine .rd (.indexAddr Try.underlying25 ts65 rfl rfl (by omega) (by omega)) ?_
                refine .rd (.fieldAddr fd65_2 rfl) ?_
                refine .rd (.load na3 rfl ((Knows.elem Rec.cells_len (by decide) (Knows.pick (.tail .head) k) hr).one (i := 2) rfl)) ?_
                refine .rd (.lt rfl rfl) ?_
                refine .rd (.move rfl) ?_
                refine .split (t := 72) rfl (fun g13_7 => ?_) (fun g13_7 => ?_)
                · replace g13_7 := of_decide_eq_true g13_7
                  refine .off (t := 72) rfl rfl rfl ?_
                  refine .off (t := 72) rfl rfl rfl ?_
                  refine .off (t := 72) rfl rfl rfl ?_
                  refine .off (t := 72) rfl rfl rfl ?_
                  refine .off (t := 72) rfl rfl rfl ?_
                  refine .off (t := 72) rfl rfl rfl ?_
                  refine .off (t := 72) rfl rfl rfl ?_
                  refine .rd (.pickT rfl rfl) ?_
                  refine .nil ?_
                  refine .condT rfl ?_
                  refine .seq ?_
                  refine .region ?_
                  refine .rd (.assign rfl) ?_
                  refine .nil ?_
                  rw [right_time hr (by show ¬ (_ ∧ _); omega)]
                  refine .retP Try.func52 (.cons (.tmp rfl) .nil) (.cons (.tail .head) .nil) ?_
                  exact ⟨[], ⟨rfl, rfl⟩, rfl⟩
                · replace g13_7 := of_decide_eq_false g13_7
                  refine .on (t := 72) rfl rfl ?_
                  refine .rd (.fieldAddr fd27_5 rfl) ?_
                  refine .on (t := 72) rfl rfl ?_
                  refine .rd (.ld na25 rfl .head rfl) ?_
                  refine .on (t := 72) rfl rfl ?_
                  refine .rd (.move rfl) ?_
                  refine .on (t := 72) rfl rfl ?_
                  refine .rd (.indexAddr Try.underlying25 ts65 rfl rfl (by omega) (by omega)) ?_
                  refine .on (t := 72) rfl rfl ?_
                  refine .rd (.fieldAddr fd65_2 rfl) ?_
                  refine .on (t := 72) rfl rfl ?_
                  refine .rd (.load na3 rfl ((Knows.elem Rec.cells_len (by decide) (Knows.pick (.tail .head) k) hr).one (i := 2) rfl)) ?_
                  refine .on (t := 72) rfl rfl ?_
                  refine .rd (.gt rfl rfl) ?_
                  refine .rd (.pickF rfl rfl) ?_
                  refine .nil ?_
                  refine .condP rfl (fun h13 => ?_) (fun h13 => ?_)
                  · refine .seq ?_
                    refine .region ?_
                    refine .rd (.assign rfl) ?_
                    refine .nil ?_
                    rw [right_time hr (by show ¬ (_ ∧ _); omega)]
                    refine .retP Try.func52 (.cons (.tmp rfl) .nil) (.cons (.tail .head) .nil) ?_
                    exact ⟨[], ⟨rfl, rfl⟩, rfl⟩
                  · refine .skip ?_
                    refine .inBlock ?_
                    refine .region ?_
                    refine .rd (.move rfl) ?_
                    refine .rd (.add rfl rfl (by omega) (by omega)) ?_
                    refine .rd (.assign rfl) ?_
                    refine .nil ?_
                    exact (ih (j + 1) ⟨by omega, all_take (p := timely) hr (by show _ ∧ _; omega) hI.2⟩ (by omega)).to (.cons rfl (.cons rfl (.cons rfl .nil))) (.cons .head (.cons .head .nil))
              · obtain rfl : j = b.recs.length := by omega
                have hrt := right_on hno (by have := hI.2; rwa [List.take_length] at this)
                clear hI ih
                refine .exit rfl ?_
                refine .seq ?_
                refine .seq ?_
                refine .region ?_
                refine .rd (.move rfl) ?_
                refine .rd (.gt rfl rfl) ?_
                refine .nil ?_
                refine .condP rfl (fun h15 => ?_) (fun h15 => ?_)
                · refine .seq ?_
                  refine .region ?_
                  refine .rd (.assign rfl) ?_
                  refine .nil ?_
                  have hv : right b = 3 := by rw [hrt, if_pos (by omega)]
                  rw [hv]
                  refine .retP Try.func52 (.cons (.tmp rfl) .nil) (.cons (.tail .head) .nil) ?_
                  exact ⟨[], ⟨rfl, rfl⟩, rfl⟩
                · refine .skip ?_
                  refine .seq ?_
                  refine .seq ?_
                  refine .region ?_
                  refine .rd (.assign rfl) ?_
                  refine .nil ?_
                  refine .block ?_
                  refine .loop (σ := Nat) (fun j => j ≤ b.recs.length ∧ ∀ r ∈ b.recs.take j, ¬ long r = true) (fun j => b.recs.length - j) (fun j => [(1, .pointer (some ⟨b1, 0, none⟩)), (3, .int .i64 b.recs.length), (7, .int .i64 (j : Nat))]) (fun j => [blk b1 (b.cells a c) 27, R]) 0 ⟨Nat.zero_le _, by simp⟩ (.cons rfl (.cons rfl (.cons rfl .nil))) (.cons .head (.cons .head .nil)) (fun j hI ih => ?_)
                  have hj := hI.1
                  refine .seq ?_
                  refine .seq ?_
                  refine .region ?_
                  refine .rd (.move rfl) ?_
                  refine .rd (.move rfl) ?_
                  refine .rd (.lt rfl rfl) ?_
                  refine .nil ?_
                  refine .condP rfl (fun h18 => ?_) (fun h18 => ?_)
                  · refine .skip ?_
                    refine .seq ?_
                    refine .block ?_
                    refine .seq ?_
                    have hjl : j < b.recs.length := by omega
                    obtain ⟨r, hr⟩ : ∃ r, b.recs[j]? = some r := ⟨_, List.getElem?_eq_getElem hjl⟩
                    have hrm := List.mem_of_getElem? hr
                    have hk1 := hf.key r hrm
                    have hk2 := hf.value r hrm
                    refine .tell (φ := ∃ b o, a = some ⟨b, o, none⟩) (Knows.pick (.tail .head) (k.mono fun _ h => h.addr (by rw [flat_length Rec.cells_len]; omega))) (fun hx => ?_)
                    obtain ⟨bb, oo, rfl⟩ := hx
                    refine .region ?_
                    refine .rd (.fieldAddr fd27_5 rfl) ?_
                    refine .rd (.ld na25 rfl .head rfl) ?_
                    refine .rd (.move rfl) ?_
                    refine .rd (.indexAddr Try.underlying25 ts65 rfl rfl (by omega) (by omega)) ?_
                    refine .rd (.fieldAddr fd65_0 rfl) ?_
                    refine .rd (.load na9 rfl ((Knows.elem Rec.cells_len (by decide) (Knows.pick (.tail .head) k) hr).one (i := 0) rfl)) ?_
                    refine .rd (.lenT rfl rfl Try.underlying9 rfl) ?_
                    refine .rd (.gt rfl rfl) ?_
                    refine .rd (.move rfl) ?_
                    refine .split (t := 96) rfl (fun g20_8 => ?_) (fun g20_8 => ?_)
                    · replace g20_8 := of_decide_eq_true g20_8
                      refine .off (t := 96) rfl rfl rfl ?_
                      refine .off (t := 96) rfl rfl rfl ?_
                      refine .off (t := 96) rfl rfl rfl ?_
                      refine .off (t := 96) rfl rfl rfl ?_
                      refine .off (t := 96) rfl rfl rfl ?_
                      refine .off (t := 96) rfl rfl rfl ?_
                      refine .off (t := 96) rfl rfl rfl ?_
                      refine .off (t := 96) rfl rfl rfl ?_
                      refine .rd (.pickT rfl rfl) ?_
                      refine .nil ?_
                      refine .condT rfl ?_
                      refine .seq ?_
                      refine .region ?_
                      refine .rd (.assign rfl) ?_
                      refine .nil ?_
                      have hv : right b = 2 := by rw [hrt, if_neg (by omega), if_pos (List.any_eq_true.2 ⟨r, hrm, (long_iff r).2 (by omega)⟩)]
                      rw [hv]
                      refine .retP Try.func52 (.cons (.tmp rfl) .nil) (.cons (.tail .head) .nil) ?_
                      exact ⟨[], ⟨rfl, rfl⟩, rfl⟩
                    · replace g20_8 := of_decide_eq_false g20_8
                      refine .on (t := 96) rfl rfl ?_
                      refine .rd (.fieldAddr fd27_5 rfl) ?_
                      refine .on (t := 96) rfl rfl ?_
                      refine .rd (.ld na25 rfl .head rfl) ?_
                      refine .on (t := 96) rfl rfl ?_
                      refine .rd (.move rfl) ?_
                      refine .on (t := 96) rfl rfl ?_
                      refine .rd (.indexAddr Try.underlying25 ts65 rfl rfl (by omega) (by omega)) ?_
                      refine .on (t := 96) rfl rfl ?_
                      refine .rd (.fieldAddr fd65_1 rfl) ?_
                      refine .on (t := 96) rfl rfl ?_
                      refine .rd (.load na9 rfl ((Knows.elem Rec.cells_len (by decide) (Knows.pick (.tail .head) k) hr).one (i := 1) rfl)) ?_
                      refine .on (t := 96) rfl rfl ?_
                      refine .rd (.lenT rfl rfl Try.underlying9 rfl) ?_
                      refine .on (t := 96) rfl rfl ?_
                      refine .rd (.gt rfl rfl) ?_
                      refine .rd (.pickF rfl rfl) ?_
                      refine .nil ?_
                      refine .condP rfl (fun h20 => ?_) (fun h20 => ?_)
                      · refine .seq ?_
                        refine .region ?_
                        refine .rd (.assign rfl) ?_
                        refine .nil ?_
                        have hv : right b = 2 := by rw [hrt, if_neg (by omega), if_pos (List.any_eq_true.2 ⟨r, hrm, (long_iff r).2 (by omega)⟩)]
                        rw [hv]
                        refine .retP Try.func52 (.cons (.tmp rfl) .nil) (.cons (.tail .head) .nil) ?_
                        exact ⟨[], ⟨rfl, rfl⟩, rfl⟩
                      · refine .skip ?_
                        refine .inBlock ?_
                        refine .region ?_
                        refine .rd (.move rfl) ?_
                        refine .rd (.add rfl rfl (by omega) (by omega)) ?_
                        refine .rd (.assign rfl) ?_
                        refine .nil ?_
                        exact (ih (j + 1) ⟨by omega, all_take (p := fun r => ¬ long r = true) hr (by rw [long_iff]; omega) hI.2⟩ (by omega)).to (.cons rfl (.cons rfl (.cons rfl .nil))) (.cons .head (.cons .head .nil))
                  · have hl14 : ¬ b.recs.any long = true := any_none hI.2 (by omega)
                    refine .exit rfl ?_
                    refine .seq ?_
                    refine .seq ?_
                    refine .region ?_
                    refine .rd (.fieldAddr fd27_0 rfl) ?_
                    refine .rd (.ld na3 rfl .head rfl) ?_
                    refine .rd (.move rfl) ?_
                    refine .rd (.sub rfl rfl (by omega) (by omega)) ?_
                    refine .rd (.sub rfl rfl (by omega) (by omega)) ?_
                    refine .rd (.gt rfl rfl) ?_
                    refine .rd (.move rfl) ?_
                    refine .split (t := 112) rfl (fun g22_6 => ?_) (fun g22_6 => ?_)
                    · replace g22_6 := of_decide_eq_true g22_6
                      refine .off (t := 112) rfl rfl rfl ?_
                      refine .off (t := 112) rfl rfl rfl ?_
                      refine .off (t := 112) rfl rfl rfl ?_
                      refine .off (t := 112) rfl rfl rfl ?_
                      refine .off (t := 112) rfl rfl rfl ?_
                      refine .off (t := 112) rfl rfl rfl ?_
                      refine .rd (.pickT rfl rfl) ?_
                      refine .nil ?_
                      refine .condT rfl ?_
                      refine .seq ?_
                      refine .region ?_
                      refine .rd (.assign rfl) ?_
                      refine .nil ?_
                      have hv : right b = 20 := by rw [hrt, if_neg (by omega), if_neg hl14, if_pos (by omega)]
                      rw [hv]
                      refine .retP Try.func52 (.cons (.tmp rfl) .nil) (.cons (.tail .head) .nil) ?_
                      exact ⟨[], ⟨rfl, rfl⟩, rfl⟩
                    · replace g22_6 := of_decide_eq_false g22_6
                      refine .on (t := 112) rfl rfl ?_
                      refine .rd (.fieldAddr fd27_4 rfl) ?_
                      refine .on (t := 112) rfl rfl ?_
                      refine .rd (.ld na3 rfl .head rfl) ?_
                      refine .on (t := 112) rfl rfl ?_
                      refine .rd (.move rfl) ?_
                      refine .on (t := 112) rfl rfl ?_
                      refine .rd (.sub rfl rfl (by omega) (by omega)) ?_
                      refine .on (t := 112) rfl rfl ?_
                      refine .rd (.sub rfl rfl (by omega) (by omega)) ?_
                      refine .on (t := 112) rfl rfl ?_
                      refine .rd (.gt rfl rfl) ?_
                      refine .rd (.pickF rfl rfl) ?_
                      refine .nil ?_
                      refine .condP rfl (fun h22 => ?_) (fun h22 => ?_)
                      · refine .seq ?_
                        refine .region ?_
                        refine .rd (.assign rfl) ?_
                        refine .nil ?_
                        have hv : right b = 20 := by rw [hrt, if_neg (by omega), if_neg hl14, if_pos (by omega)]
                        rw [hv]
                        refine .retP Try.func52 (.cons (.tmp rfl) .nil) (.cons (.tail .head) .nil) ?_
                        exact ⟨[], ⟨rfl, rfl⟩, rfl⟩
                      · refine .skip ?_
                        refine .seq ?_
                        refine .seq ?_
                        have hs := small_of (b := b) (by omega) hl14
                        have hbl := body_len hf hs
                        refine .region ?_
                        refine .rd (.ldN ia27 ts27 rfl .head rfl) ?_
                        refine .fn rfl rfl .nil (Knows.pick (.tail .head) k) (rbody_ok b a c hf hs) (fun v G1 hq => ?_)
                        obtain ⟨rfl, rfl⟩ := hq
                        simp only [List.nil_append]
                        refine .rd (.lenT rfl rfl Try.underlying9 rfl) ?_
                        refine .rd (.add rfl rfl (by omega) (by omega)) ?_
                        refine .rd (.gt rfl rfl) ?_
                        refine .nil ?_
                        refine .condP rfl (fun h24 => ?_) (fun h24 => ?_)
                        · refine .seq ?_
                          refine .region ?_
                          refine .rd (.assign rfl) ?_
                          refine .nil ?_
                          have hv : right b = 2 := by rw [hrt, if_neg (by omega), if_neg hl14, if_neg (by omega), if_pos (by omega)]
                          rw [hv]
                          refine .retP Try.func52 (.cons (.tmp rfl) .nil) (.cons (.tail .head) .nil) ?_
                          exact ⟨[], ⟨rfl, rfl⟩, rfl⟩
                        · refine .skip ?_
                          refine .seq ?_
                          refine .region ?_
                          refine .rd (.assign rfl) ?_
                          refine .nil ?_
                          have hv : right b = 0 := by rw [hrt, if_neg (by omega), if_neg hl14, if_neg (by omega), if_neg (by omega)]
                          rw [hv]
                          refine .retP Try.func52 (.cons (.tmp rfl) .nil) (.cons (.tail .head) .nil) ?_
                          exact ⟨[], ⟨rfl, rfl⟩, rfl⟩
      · replace g8_7 := of_decide_eq_false g8_7
        refine .off (t := 45) rfl rfl rfl ?_
        refine .off (t := 45) rfl rfl rfl ?_
        refine .off (t := 45) rfl rfl rfl ?_
        refine .offU (t := 45) rfl rfl rfl rfl ?_
        refine .offX (t := 49) rfl rfl rfl ?_
        refine .offX (t := 49) rfl rfl rfl ?_
        refine .offX (t := 49) rfl rfl rfl ?_
        refine .off (t := 45) rfl rfl rfl ?_
        refine .on (t := 41) rfl rfl ?_
        refine .rd (.pickF rfl rfl) ?_
        refine .rd (.pickF rfl rfl) ?_
        refine .rd (.move rfl) ?_
        refine .on (t := 56) rfl rfl ?_
        refine .rd (.move rfl) ?_
        refine .on (t := 56) rfl rfl ?_
        refine .rd (.eqI rfl rfl) ?_
        refine .rd (.pickF rfl rfl) ?_
        refine .nil ?_
        refine .condP rfl (fun h8 => ?_) (fun h8 => ?_)
        · refine .seq ?_
          refine .region ?_
          refine .rd (.assign rfl) ?_
          refine .nil ?_
          have hq : b.off := by unfold Bat.off; omega
          rw [right_off hq]
          refine .retP Try.func52 (.cons (.tmp rfl) .nil) (.cons (.tail (.tail .head)) .nil) ?_
          exact ⟨[], ⟨rfl, rfl⟩, rfl⟩
        · have hno : ¬ b.off := fine_off hfine (by omega)
          refine .skip ?_
          refine .seq ?_
          refine .seq ?_
          refine .region ?_
          refine .rd (.assign rfl) ?_
          refine .nil ?_
          refine .block ?_
          refine .loop (σ := Nat) (fun j => j ≤ b.recs.length ∧ ∀ r ∈ b.recs.take j, timely r) (fun j => b.recs.length - j) (fun j => [(1, .pointer (some ⟨b1, 0, none⟩)), (3, .int .i64 b.recs.length), (6, .int .i64 (j : Nat))]) (fun j => [blk b1 (b.cells a c) 27, R]) 0 ⟨Nat.zero_le _, by simp⟩ (.cons rfl (.cons rfl (.cons rfl .nil))) (.cons .head (.cons (.tail .head) .nil)) (fun j hI ih => ?_)
          have hj := hI.1
          refine .seq ?_
          refine .seq ?_
          refine .region ?_
          refine .rd (.move rfl) ?_
          refine .rd (.move rfl) ?_
          refine .rd (.lt rfl rfl) ?_
          refine .nil ?_
          refine .condP rfl (fun h11 => ?_) (fun h11 => ?_)
          · refine .skip ?_
            refine .seq ?_
            refine .block ?_
            refine .seq ?_
            have hjl : j < b.recs.length := by omega
            obtain ⟨r, hr⟩ : ∃ r, b.recs[j]? = some r := ⟨_, List.getElem?_eq_getElem hjl⟩
            have hrm := List.mem_of_getElem? hr
            have hk1 := hf.key r hrm
            have hk2 := hf.value r hrm
            refine .tell (φ := ∃ b o, a = some ⟨b, o, none⟩) (Knows.pick (.tail .head) (k.mono fun _ h => h.addr (by rw [flat_length Rec.cells_len]; omega))) (fun hx => ?_)
            obtain ⟨bb, oo, rfl⟩ := hx
            refine .region ?_
            refine .rd (.fieldAddr fd27_5 rfl) ?_
            refine .rd (.ld na25 rfl .head rfl) ?_
            refine .rd (.move rfl) ?_
            refine .rd (.indexAddr Try.underlying25 ts65 rfl rfl (by omega) (by omega)) ?_
            refine .rd (.fieldAddr fd65_2 rfl) ?_
            refine .rd (.load na3 rfl ((Knows.elem Rec.cells_len (by decide) (Knows.pick (.tail .head) k) hr).one (i := 2) rfl)) ?_
            refine .rd (.lt rfl rfl) ?_
            refine .rd (.move rfl) ?_
            refine .split (t := 72) rfl (fun g13_7 => ?_) (fun g13_7 => ?_)
            · replace g13_7 := of_decide_eq_true g13_7
              refine .off (t := 72) rfl rfl rfl ?_
              refine .off (t := 72) rfl rfl rfl ?_
              refine .off (t := 72) rfl rfl rfl ?_
              refine .off (t := 72) rfl rfl rfl ?_
              refine .off (t := 72) rfl rfl rfl ?_
              refine .off (t := 72) rfl rfl rfl ?_
              refine .off (t := 72) rfl rfl rfl ?_
              refine .rd (.pickT rfl rfl) ?_
              refine .nil ?_
              refine .condT rfl ?_
              refine .seq ?_
              refine .region ?_
              refine .rd (.assign rfl) ?_
              refine .nil ?_
              rw [right_time hr (by show ¬ (_ ∧ _); omega)]
              refine .retP Try.func52 (.cons (.tmp rfl) .nil) (.cons (.tail .head) .nil) ?_
              exact ⟨[], ⟨rfl, rfl⟩, rfl⟩
            · replace g13_7 := of_decide_eq_false g13_7
              refine .on (t := 72) rfl rfl ?_
              refine .rd (.fieldAddr fd27_5 rfl) ?_
              refine .on (t := 72) rfl rfl ?_
              refine .rd (.ld na25 rfl .head rfl) ?_
              refine .on (t := 72) rfl rfl ?_
              refine .rd (.move rfl) ?_
              refine .on (t := 72) rfl rfl ?_
              refine .rd (.indexAddr Try.underlying25 ts65 rfl rfl (by omega) (by omega)) ?_
              refine .on (t := 72) rfl rfl ?_
              refine .rd (.fieldAddr fd65_2 rfl) ?_
              refine .on (t := 72) rfl rfl ?_
              refine .rd (.load na3 rfl ((Knows.elem Rec.cells_len (by decide) (Knows.pick (.tail .head) k) hr).one (i := 2) rfl)) ?_
              refine .on (t := 72) rfl rfl ?_
              refine .rd (.gt rfl rfl) ?_
              refine .rd (.pickF rfl rfl) ?_
              refine .nil ?_
              refine .condP rfl (fun h13 => ?_) (fun h13 => ?_)
              · refine .seq ?_
                refine .region ?_
                refine .rd (.assign rfl) ?_
                refine .nil ?_
                rw [right_time hr (by show ¬ (_ ∧ _); omega)]
                refine .retP Try.func52 (.cons (.tmp rfl) .nil) (.cons (.tail .head) .nil) ?_
                exact ⟨[], ⟨rfl, rfl⟩, rfl⟩
              · refine .skip ?_
                refine .inBlock ?_
                refine .region ?_
                refine .rd (.move rfl) ?_
                refine .rd (.add rfl rfl (by omega) (by omega)) ?_
                refine .rd (.assign rfl) ?_
                refine .nil ?_
                exact (ih (j + 1) ⟨by omega, all_take (p := timely) hr (by show _ ∧ _; omega) hI.2⟩ (by omega)).to (.cons rfl (.cons rfl (.cons rfl .nil))) (.cons .head (.cons .head .nil))
          · obtain rfl : j = b.recs.length := by omega
            have hrt := right_on hno (by have := hI.2; rwa [List.take_length] at this)
            clear hI ih
            refine .exit rfl ?_
            refine .seq ?_
            refine .seq ?_
            refine .region ?_
            refine .rd (.move rfl) ?_
            refine .rd (.gt rfl rfl) ?_
            refine .nil ?_
            refine .condP rfl (fun h15 => ?_) (fun h15 => ?_)
            · refine .seq ?_
              refine .region ?_
              refine .rd (.assign rfl) ?_
              refine .nil ?_
              have hv : right b = 3 := by rw [hrt, if_pos (by omega)]
              rw [hv]
              refine .retP Try.func52 (.cons (.tmp rfl) .nil) (.cons (.tail .head) .nil) ?_
              exact ⟨[], ⟨rfl, rfl⟩, rfl⟩
            · refine .skip ?_
              refine .seq ?_
              refine .seq ?_
              refine .region ?_
              refine .rd (.assign rfl) ?_
              refine .nil ?_
              refine .block ?_
              refine .loop (σ := Nat) (fun j => j ≤ b.recs.length ∧ ∀ r ∈ b.recs.take j, ¬ long r = true) (fun j => b.recs.length - j) (fun j => [(1, .pointer (some ⟨b1, 0, none⟩)), (3, .int .i64 b.recs.length), (7, .int .i64 (j : Nat))]) (fun j => [blk b1 (b.cells a c) 27, R]) 0 ⟨Nat.zero_le _, by simp⟩ (.cons rfl (.cons rfl (.cons rfl .nil))) (.cons .head (.cons .head .nil)) (fun j hI ih => ?_)
              have hj := hI.1
              refine .seq ?_
              refine .seq ?_
              refine .region ?_
              refine .rd (.move rfl) ?_
              refine .rd (.move rfl) ?_
              refine .rd (.lt rfl rfl) ?_
              refine .nil ?_
              refine .condP rfl (fun h18 => ?_) (fun h18 => ?_)
              · refine .skip ?_
                refine .seq ?_
                refine .block ?_
                refine .seq ?_
                have hjl : j < b.recs.length := by omega
                obtain ⟨r, hr⟩ : ∃ r, b.recs[j]? = some r := ⟨_, List.getElem?_eq_getElem hjl⟩
                have hrm := List.mem_of_getElem? hr
                have hk1 := hf.key r hrm
                have hk2 := hf.value r hrm
                refine .tell (φ := ∃ b o, a = some ⟨b, o, none⟩) (Knows.pick (.tail .head) (k.mono fun _ h => h.addr (by rw [flat_length Rec.cells_len]; omega))) (fun hx => ?_)
                obtain ⟨bb, oo, rfl⟩ := hx
                refine .region ?_
                refine .rd (.fieldAddr fd27_5 rfl) ?_
                refine .rd (.ld na25 rfl .head rfl) ?_
                refine .rd (.move rfl) ?_
                refine .rd (.indexAddr Try.underlying25 ts65 rfl rfl (by omega) (by omega)) ?_
                refine .rd (.fieldAddr fd65_0 rfl) ?_
                refine .rd (.load na9 rfl ((Knows.elem Rec.cells_len (by decide) (Knows.pick (.tail .head) k) hr).one (i := 0) rfl)) ?_
                refine .rd (.lenT rfl rfl Try.underlying9 rfl) ?_
                refine .rd (.gt rfl rfl) ?_
                refine .rd (.move rfl) ?_
                refine .split (t := 96) rfl (fun g20_8 => ?_) (fun g20_8 => ?_)
                · replace g20_8 := of_decide_eq_true g20_8
                  refine .off (t := 96) rfl rfl rfl ?_
                  refine .off (t := 96) rfl rfl rfl ?_
                  refine .off (t := 96) rfl rfl rfl ?_
                  refine .off (t := 96) rfl rfl rfl ?_
                  refine .off (t := 96) rfl rfl rfl ?_
                  refine .off (t := 96) rfl rfl rfl ?_
                  refine .off (t := 96) rfl rfl rfl ?_
                  refine .off (t := 96) rfl rfl rfl ?_
                  refine .rd (.pickT rfl rfl) ?_
                  refine .nil ?_
                  refine .condT rfl ?_
                  refine .seq ?_
                  refine .region ?_
                  refine .rd (.assign rfl) ?_
                  refine .nil ?_
                  have hv : right b = 2 := by rw [hrt, if_neg (by omega), if_pos (List.any_eq_true.2 ⟨r, hrm, (long_iff r).2 (by omega)⟩)]
                  rw [hv]
                  refine .retP Try.func52 (.cons (.tmp rfl) .nil) (.cons (.tail .head) .nil) ?_
                  exact ⟨[], ⟨rfl, rfl⟩, rfl⟩
                · replace g20_8 := of_decide_eq_false g20_8
                  refine .on (t := 96) rfl rfl ?_
                  refine .rd (.fieldAddr fd27_5 rfl) ?_
                  refine .on (t := 96) rfl rfl ?_
                  refine .rd (.ld na25 rfl .head rfl) ?_
                  refine .on (t := 96) rfl rfl ?_
                  refine .rd (.move rfl) ?_
                  refine .on (t := 96) rfl rfl ?_
                  refine .rd (.indexAddr Try.underlying25 ts65 rfl rfl (by omega) (by omega)) ?_
                  refine .on (t := 96) rfl rfl ?_
                  refine .rd (.fieldAddr fd65_1 rfl) ?_
                  refine .on (t := 96) rfl rfl ?_
                  refine .rd (.load na9 rfl ((Knows.elem Rec.cells_len (by decide) (Knows.pick (.tail .head) k) hr).one (i := 1) rfl)) ?_
                  refine .on (t := 96) rfl rfl ?_
                  refine .rd (.lenT rfl rfl Try.underlying9 rfl) ?_
                  refine .on (t := 96) rfl rfl ?_
                  refine .rd (.gt rfl rfl) ?_
                  refine .rd (.pickF rfl rfl) ?_
                  refine .nil ?_
                  refine .condP rfl (fun h20 => ?_) (fun h20 => ?_)
                  · refine .seq ?_
                    refine .region ?_
                    refine .rd (.assign rfl) ?_
                    refine .nil ?_
                    have hv : right b = 2 := by rw [hrt, if_neg (by omega), if_pos (List.any_eq_true.2 ⟨r, hrm, (long_iff r).2 (by omega)⟩)]
                    rw [hv]
                    refine .retP Try.func52 (.cons (.tmp rfl) .nil) (.cons (.tail .head) .nil) ?_
                    exact ⟨[], ⟨rfl, rfl⟩, rfl⟩
                  · refine .skip ?_
                    refine .inBlock ?_
                    refine .region ?_
                    refine .rd (.move rfl) ?_
                    refine .rd (.add rfl rfl (by omega) (by omega)) ?_
                    refine .rd (.assign rfl) ?_
                    refine .nil ?_
                    exact (ih (j + 1) ⟨by omega, all_take (p := fun r => ¬ long r = true) hr (by rw [long_iff]; omega) hI.2⟩ (by omega)).to (.cons rfl (.cons rfl (.cons rfl .nil))) (.cons .head (.cons .head .nil))
              · have hl14 : ¬ b.recs.any long = true := any_none hI.2 (by omega)
                refine .exit rfl ?_
                refine .seq ?_
                refine .seq ?_
                refine .region ?_
                refine .rd (.fieldAddr fd27_0 rfl) ?_
                refine .rd (.ld na3 rfl .head rfl) ?_
                refine .rd (.move rfl) ?_
                refine .rd (.sub rfl rfl (by omega) (by omega)) ?_
                refine .rd (.sub rfl rfl (by omega) (by omega)) ?_
                refine .rd (.gt rfl rfl) ?_
                refine .rd (.move rfl) ?_
                refine .split (t := 112) rfl (fun g22_6 => ?_) (fun g22_6 => ?_)
                · replace g22_6 := of_decide_eq_true g22_6
                  refine .off (t := 112) rfl rfl rfl ?_
                  refine .off (t := 112) rfl rfl rfl ?_
                  refine .off (t := 112) rfl rfl rfl ?_
                  refine .off (t := 112) rfl rfl rfl ?_
                  refine .off (t := 112) rfl rfl rfl ?_
                  refine .off (t := 112) rfl rfl rfl ?_
                  refine .rd (.pickT rfl rfl) ?_
                  refine .nil ?_
                  refine .condT rfl ?_
                  refine .seq ?_
                  refine .region ?_
                  refine .rd (.assign rfl) ?_
                  refine .nil ?_
                  have hv : right b = 20 := by rw [hrt, if_neg (by omega), if_neg hl14, if_pos (by omega)]
                  rw [hv]
                  refine .retP Try.func52 (.cons (.tmp rfl) .nil) (.cons (.tail .head) .nil) ?_
                  exact ⟨[], ⟨rfl, rfl⟩, rfl⟩
                · replace g22_6 := of_decide_eq_false g22_6
                  refine .on (t := 112) rfl rfl ?_
                  refine .rd (.fieldAddr fd27_4 rfl) ?_
                  refine .on (t := 112) rfl rfl ?_
                  refine .rd (.ld na3 rfl .head rfl) ?_
                  refine .on (t := 112) rfl rfl ?_
                  refine .rd (.move rfl) ?_
                  refine .on (t := 112) rfl rfl ?_
                  refine .rd (.sub rfl rfl (by omega) (by omega)) ?_
                  refine .on (t := 112) rfl rfl ?_
                  refine .rd (.sub rfl rfl (by omega) (by omega)) ?_
                  refine .on (t := 112) rfl rfl ?_
                  refine .rd (.gt rfl rfl) ?_
                  refine .rd (.pickF rfl rfl) ?_
                  refine .nil ?_
                  refine .condP rfl (fun h22 => ?_) (fun h22 => ?_)
                  · refine .seq ?_
                    refine .region ?_
                    refine .rd (.assign rfl) ?_
                    refine .nil ?_
                    have hv : right b = 20 := by rw [hrt, if_neg (by omega), if_neg hl14, if_pos (by omega)]
                    rw [hv]
                    refine .retP Try.func52 (.cons (.tmp rfl) .nil) (.cons (.tail .head) .nil) ?_
                    exact ⟨[], ⟨rfl, rfl⟩, rfl⟩
                  · refine .skip ?_
                    refine .seq ?_
                    refine .seq ?_
                    have hs := small_of (b := b) (by omega) hl14
                    have hbl := body_len hf hs
                    refine .region ?_
                    refine .rd (.ldN ia27 ts27 rfl .head rfl) ?_
                    refine .fn rfl rfl .nil (Knows.pick (.tail .head) k) (rbody_ok b a c hf hs) (fun v G1 hq => ?_)
                    obtain ⟨rfl, rfl⟩ := hq
                    simp only [List.nil_append]
                    refine .rd (.lenT rfl rfl Try.underlying9 rfl) ?_
                    refine .rd (.add rfl rfl (by omega) (by omega)) ?_
                    refine .rd (.gt rfl rfl) ?_
                    refine .nil ?_
                    refine .condP rfl (fun h24 => ?_) (fun h24 => ?_)
                    · refine .seq ?_
                      refine .region ?_
                      refine .rd (.assign rfl) ?_
                      refine .nil ?_
                      have hv : right b = 2 := by rw [hrt, if_neg (by omega), if_neg hl14, if_neg (by omega), if_pos (by omega)]
                      rw [hv]
                      refine .retP Try.func52 (.cons (.tmp rfl) .nil) (.cons (.tail .head) .nil) ?_
                      exact ⟨[], ⟨rfl, rfl⟩, rfl⟩
                    · refine .skip ?_
                      refine .seq ?_
                      refine .region ?_
                      refine .rd (.assign rfl) ?_
                      refine .nil ?_
                      have hv : right b = 0 := by rw [hrt, if_neg (by omega), if_neg hl14, if_neg (by omega), if_neg (by omega)]
                      rw [hv]
                      refine .retP Try.func52 (.cons (.tmp rfl) .nil) (.cons (.tail .head) .nil) ?_
                      exact ⟨[], ⟨rfl, rfl⟩, rfl⟩

end Go.Proofs.Ytllpkagplfmlbaa


namespace Go.Proofs.Ytllpkagplfmlbaa
open Go Go.Sp

set_option linter.unusedVariables false

namespace wire13
theorem ia27 : IsAgg Try.prog 27 := ⟨_, Try.underlying27, trivial⟩
theorem ts27 : TS Try.prog 27 6 := .of (by kernel_rfl)
theorem ti5 : TI Try.prog 5 1 1 (.int .u8 0) := .of (by kernel_rfl)
end wire13
open wire13

theorem or_add {x y : Nat} (k a : Nat) (hx : x = a * 2 ^ k) (hy : y < 2 ^ k) (h : x + y < 9223372036854775808) : IntKind.i64.wrap ((BitVec.ofInt 64 (x : Int) ||| BitVec.ofInt 64 (y : Int)).toNat : Int) = ((x + y : Nat) : Int) := by
  rw [BitVec.toNat_or, toNat_ofInt64, toNat_ofInt64]
  have e2 : ((x : Int) % 18446744073709551616).toNat = x := by omega
  have e3 : ((y : Int) % 18446744073709551616).toNat = y := by omega
  have := Nat.shiftLeft_add_eq_or_of_lt hy a
  rw [Nat.shiftLeft_eq, ← hx] at this
  rw [e2, e3, ← this, wrap_i64 (by omega) (by omega)]
theorem shl_is (x k : Nat) (hk : k ≤ 64) (h : x * 2 ^ k < 9223372036854775808) : IntKind.i64.wrap ((x : Int) * 2 ^ (min k IntKind.i64.bits)) = ((x * 2 ^ k : Nat) : Int) := by
  rw [show IntKind.i64.bits = 64 from rfl, Nat.min_eq_left hk]
  have e : ((x : Int) * 2 ^ k) = ((x * 2 ^ k : Nat) : Int) := by push_cast; rfl
  rw [e, wrap_i64 (by omega) (by omega)]

set_option maxRecDepth 20000 in
theorem four_ok (l : List UInt8) (h4 : 4 ≤ l.length) : Cn Try.prog 43 [.string (str l)] (fun _ => True) [] fun v G => v = .int .i64 (four l : Int) ∧ G = [] := by
  refine .enter Try.func43 rfl (by kernel_rfl) rfl fun R k => ?_
  obtain ⟨b0, b1, b2, b3, t, rfl⟩ : ∃ b0 b1 b2 b3 t, l = b0 :: b1 :: b2 :: b3 :: t := by
    match l, h4 with
    | b0 :: b1 :: b2 :: b3 :: t, _ => exact ⟨b0, b1, b2, b3, t, rfl⟩
  have h0 := b0.toNat_lt; have h1 := b1.toNat_lt; have h2 := b2.toNat_lt; have h3 := b3.toNat_lt
  refine .seq ?_
  refine .region ?_
  refine .rd (.assign rfl) ?_
  refine .nil ?_
  refine .seq ?_
  refine .draws [2, 6, 11, 16] [] (by kernel_rfl) ?_
  refine .rp 0 rfl (by kernel_rfl) (by kernel_rfl) (by kernel_rfl) (Reads.pure (.move rfl)) ?_
  refine .rp 1 rfl (by kernel_rfl) (by kernel_rfl) (by kernel_rfl) (Reads.pure (.indexT Try.underlying9 rfl rfl (by decide) rfl)) ?_
  refine .rd 2 rfl rfl (by kernel_rfl) (by kernel_rfl) (by kernel_rfl) (.convInt Try.underlying5 Try.underlying3 rfl) .nil ?_
  refine .alter (t := 5) (v' := .int .i64 ((b0.toNat : Nat) : Int)) rfl (by rw [wrap_i64 (by omega) (by omega)]) ?_
  refine .rp 3 rfl (by kernel_rfl) (by kernel_rfl) (by kernel_rfl) (Reads.pure (.shl (n := 24) rfl rfl)) ?_
  refine .alter (t := 6) (v' := .int .i64 ((b0.toNat * 2 ^ 24 : Nat) : Int)) rfl (by rw [shl_is _ 24 (by decide) (by omega)]) ?_
  refine .rp 4 rfl (by kernel_rfl) (by kernel_rfl) (by kernel_rfl) (Reads.pure (.move rfl)) ?_
  refine .rp 5 rfl (by kernel_rfl) (by kernel_rfl) (by kernel_rfl) (Reads.pure (.indexT Try.underlying9 rfl rfl (by decide) rfl)) ?_
  refine .rd 6 rfl rfl (by kernel_rfl) (by kernel_rfl) (by kernel_rfl) (.convInt Try.underlying5 Try.underlying3 rfl) .nil ?_
  refine .alter (t := 9) (v' := .int .i64 ((b1.toNat : Nat) : Int)) rfl (by rw [wrap_i64 (by omega) (by omega)]) ?_
  refine .rp 7 rfl (by kernel_rfl) (by kernel_rfl) (by kernel_rfl) (Reads.pure (.shl (n := 16) rfl rfl)) ?_
  refine .alter (t := 10) (v' := .int .i64 ((b1.toNat * 2 ^ 16 : Nat) : Int)) rfl (by rw [shl_is _ 16 (by decide) (by omega)]) ?_
  refine .rp 8 rfl (by kernel_rfl) (by kernel_rfl) (by kernel_rfl) (Reads.pure (.or rfl rfl)) ?_
  refine .alter (t := 11) (v' := .int .i64 ((b0.toNat * 2 ^ 24 + b1.toNat * 2 ^ 16 : Nat) : Int)) rfl (congrArg (Value.int .i64) (or_add 24 (b0.toNat) (by omega) (by omega) (by omega))) ?_
  refine .rp 9 rfl (by kernel_rfl) (by kernel_rfl) (by kernel_rfl) (Reads.pure (.move rfl)) ?_
  refine .rp 10 rfl (by kernel_rfl) (by kernel_rfl) (by kernel_rfl) (Reads.pure (.indexT Try.underlying9 rfl rfl (by decide) rfl)) ?_
  refine .rd 11 rfl rfl (by kernel_rfl) (by kernel_rfl) (by kernel_rfl) (.convInt Try.underlying5 Try.underlying3 rfl) .nil ?_
  refine .alter (t := 14) (v' := .int .i64 ((b2.toNat : Nat) : Int)) rfl (by rw [wrap_i64 (by omega) (by omega)]) ?_
  refine .rp 12 rfl (by kernel_rfl) (by kernel_rfl) (by kernel_rfl) (Reads.pure (.shl (n := 8) rfl rfl)) ?_
  refine .alter (t := 15) (v' := .int .i64 ((b2.toNat * 2 ^ 8 : Nat) : Int)) rfl (by rw [shl_is _ 8 (by decide) (by omega)]) ?_
  refine .rp 13 rfl (by kernel_rfl) (by kernel_rfl) (by kernel_rfl) (Reads.pure (.or rfl rfl)) ?_
  refine .alter (t := 16) (v' := .int .i64 ((b0.toNat * 2 ^ 24 + b1.toNat * 2 ^ 16 + b2.toNat * 2 ^ 8 : Nat) : Int)) rfl (congrArg (Value.int .i64) (or_add 16 (b0.toNat * 2 ^ 8 + b1.toNat) (by omega) (by omega) (by omega))) ?_
  refine .rp 14 rfl (by kernel_rfl) (by kernel_rfl) (by kernel_rfl) (Reads.pure (.move rfl)) ?_
  refine .rp 15 rfl (by kernel_rfl) (by kernel_rfl) (by kernel_rfl) (Reads.pure (.indexT Try.underlying9 rfl rfl (by decide) rfl)) ?_
  refine .rd 16 rfl rfl (by kernel_rfl) (by kernel_rfl) (by kernel_rfl) (.convInt Try.underlying5 Try.underlying3 rfl) .nil ?_
  refine .alter (t := 19) (v' := .int .i64 ((b3.toNat : Nat) : Int)) rfl (by rw [wrap_i64 (by omega) (by omega)]) ?_
  refine .rp 17 rfl (by kernel_rfl) (by kernel_rfl) (by kernel_rfl) (Reads.pure (.or rfl rfl)) ?_
  refine .alter (t := 20) (v' := .int .i64 ((b0.toNat * 2 ^ 24 + b1.toNat * 2 ^ 16 + b2.toNat * 2 ^ 8 + b3.toNat : Nat) : Int)) rfl (congrArg (Value.int .i64) (or_add 8 (b0.toNat * 2 ^ 16 + b1.toNat * 2 ^ 8 + b2.toNat) (by omega) (by omega) (by omega))) ?_
  refine .rp 18 rfl (by kernel_rfl) (by kernel_rfl) (by kernel_rfl) (Reads.pure (.assign rfl)) ?_
  refine .done (by kernel_rfl) ?_
  refine .retP Try.func43 (.cons (.tmp rfl) .nil) (.cons .head .nil) ?_
  exact ⟨[], ⟨rfl, rfl⟩, rfl⟩

set_option maxRecDepth 20000 in
theorem Batch_ok (b : Bat) (a : Option Addr) (c : Nat) (hf : b.fits) : Cn Try.prog 16 [.agg (b.cells a c).toArray] (RowAt a (b.recs.flatMap Rec.cells)) [] fun v G => v = .tuple #[.string (str (wbatch b).1), .int .i64 (wbatch b).2] ∧ G = [] := by
  refine .enter Try.func16 rfl (by kernel_rfl) rfl fun R k => ?_
  refine .seq ?_
  refine .region ?_
  refine .ef (.box (l := b.cells a c) rfl rfl (ones.of rfl)) ?_
  rintro _ _ ⟨b1, rfl, rfl⟩
  refine .rd (.assign rfl) ?_
  refine .rd (.assign rfl) ?_
  refine .nil ?_
  refine .seq ?_
  refine .seq ?_
  refine .region ?_
  refine .rd (.ldN ia27 ts27 rfl .head rfl) ?_
  refine .fn rfl rfl .nil (Knows.pick (.tail .head) k) (Right_ok b a c hf) (fun v G1 hq => ?_)
  obtain ⟨rfl, rfl⟩ := hq
  simp only [List.nil_append]
  refine .rd (.assign rfl) ?_
  refine .nil ?_
  refine .seq ?_
  refine .region ?_
  refine .rd (.move rfl) ?_
  refine .rd (.neI rfl rfl) ?_
  refine .nil ?_
  refine .condN rfl (fun h2 => ?_) (fun h2 => ?_)
  · refine .seq ?_
    refine .region ?_
    refine .rd (.move rfl) ?_
    refine .rd (.assign rfl) ?_
    refine .rd (.assign rfl) ?_
    refine .nil ?_
    rw [wbatch_no h2]
    refine .retP Try.func16 (.cons (.tmp rfl) (.cons (.tmp rfl) .nil)) (.cons (.tail .head) .nil) ?_
    exact ⟨[], ⟨rfl, rfl⟩, rfl⟩
  · have h2 : right b = 0 := by omega
    obtain ⟨hs, hbl⟩ := right_zero h2
    rw [wbatch_yes h2]
    refine .skip ?_
    refine .seq ?_
    refine .region ?_
    refine .rd (.ldN ia27 ts27 rfl .head rfl) ?_
    refine .fn rfl rfl .nil (Knows.pick (.tail .head) k) (body_ok b a c hf hs) (fun v G1 hq => ?_)
    obtain ⟨a', c', rfl, rfl⟩ := hq
    simp only [List.cons_append, List.nil_append]
    refine .rd (.assign rfl) ?_
    refine .nil ?_
    refine .seq ?_
    refine .nilArr 5 1 none ?_
    refine .draws [4] [arr 5 1 a' c' (bcs (body b))] (by kernel_rfl) ?_
    refine .rp 0 rfl (by kernel_rfl) (by kernel_rfl) (by kernel_rfl) (Reads.pure (.move rfl)) ?_
    refine .rp 1 rfl (by kernel_rfl) (by kernel_rfl) (by kernel_rfl) (Reads.pure (.lenL rfl rfl Try.underlying34 rfl)) ?_
    refine .rp 3 rfl (by kernel_rfl) (by kernel_rfl) (by kernel_rfl) (Reads.pure (.move rfl)) ?_
    refine .rd 4 rfl rfl (by kernel_rfl) (by kernel_rfl) (by kernel_rfl) (.bytesToStr (l := body b) Try.underlying34 Try.underlying5 Try.underlying9 rfl rfl (Knows.arr .head)) (.cons (.tail .head) .nil) ?_
    refine .rp 7 rfl (by kernel_rfl) (by kernel_rfl) (by kernel_rfl) (Reads.pure (.move rfl)) ?_
    refine .ef 2 (by kernel_rfl) rfl (.fn rfl rfl (.cons .head .nil) (fun _ _ _ => trivial) (appendFour_ok none 0 [] (body b).length (by decide))) ?_
    rintro v _ ⟨G1, hq, rfl⟩
    obtain ⟨a1, c1, rfl, rfl⟩ := hq
    simp only [List.cons_append, List.nil_append]
    refine ⟨.inr ⟨_, (.cons (.tail .head) .nil)⟩, ?_⟩
    refine .ef 5 (by kernel_rfl) rfl (.fn rfl rfl .nil (fun _ _ _ => trivial) (Crc_ok (body b) (by omega))) ?_
    rintro v _ ⟨G1, hq, rfl⟩
    obtain ⟨rfl, rfl⟩ := hq
    simp only [List.nil_append]
    refine ⟨.inl (by kernel_rfl), ?_⟩
    refine .ef 6 (by kernel_rfl) rfl (.fn rfl rfl (.cons .head .nil) (fun _ _ _ => trivial) (appendFour_ok a1 c1 (fours (body b).length) (crc (body b)).toNat (by rw [fours_len]; decide))) ?_
    rintro v _ ⟨G1, hq, rfl⟩
    obtain ⟨a2, c2, rfl, rfl⟩ := hq
    simp only [List.cons_append, List.nil_append]
    refine ⟨.inl (by kernel_rfl), ?_⟩
    refine .ef 8 (by kernel_rfl) rfl (.append rfl rfl Try.underlying34 ti5 rfl (ones.of rfl) (by decide) (by decide) rfl rfl .head (n := (fours (body b).length ++ fours (crc (body b)).toNat).length) (m := (body b).length) (by rw [bcs_len, Nat.mul_one]) (.srcRow (Knows.arr (.tail .head)) Try.underlying34 (by rw [bcs_len, Nat.mul_one]) (by decide)) (by rw [List.length_append, fours_len, fours_len]; omega)) ?_
    rintro _ _ ⟨ra, rc, rfl, rn, rfl⟩
    rw [← bcs_append]
    refine ⟨.inl (by kernel_rfl), ?_⟩
    refine .rs (Δ := []) 9 (by kernel_rfl) rfl (.bytesToStr (l := (fours (body b).length ++ fours (crc (body b)).toNat) ++ body b) Try.underlying34 Try.underlying5 Try.underlying9 rfl (by simp only [List.length_append]) (Knows.arr .head)) (.inl (by kernel_rfl)) ?_
    refine .rp 10 rfl (by kernel_rfl) (by kernel_rfl) (by kernel_rfl) (Reads.pure (.assign rfl)) ?_
    refine .rp 11 rfl (by kernel_rfl) (by kernel_rfl) (by kernel_rfl) (Reads.pure (.assign rfl)) ?_
    refine .done (by kernel_rfl) ?_
    refine .retP Try.func16 (.cons (.tmp rfl) (.cons (.tmp rfl) .nil)) (.cons (.tail (.tail (.tail .head))) .nil) ?_
    exact ⟨[], ⟨rfl, rfl⟩, rfl⟩

set_option maxRecDepth 20000 in
theorem rBatch_ok (b : Bat) (a : Option Addr) (c : Nat) (hf : b.fits) : Cn Try.prog 72 [.agg (b.cells a c).toArray] (RowAt a (b.recs.flatMap Rec.cells)) [] fun v G => v = .tuple #[.string (str (wbatch b).1), .int .i64 (wbatch b).2] ∧ G = [] := by
  refine .enter Try.func72 rfl (by kernel_rfl) rfl fun R k => ?_
  refine .seq ?_
  refine .region ?_
  refine .ef (.box (l := b.cells a c) rfl rfl (ones.of rfl)) ?_
  rintro _ _ ⟨b1, rfl, rfl⟩
  refine .rd (.assign rfl) ?_
  refine .rd (.assign rfl) ?_
  refine .nil ?_
  refine .seq ?_
  refine .region ?_
  refine .rd (.ldN ia27 ts27 rfl .head rfl) ?_
  refine .fn rfl rfl .nil (Knows.pick (.tail .head) k) (rRight_ok b a c hf) (fun v G1 hq => ?_)
  obtain ⟨rfl, rfl⟩ := hq
  simp only [List.nil_append]
  refine .rd (.assign rfl) ?_
  refine .nil ?_
  refine .seq ?_
  refine .seq ?_
  refine .region ?_
  refine .rd (.move rfl) ?_
  refine .rd (.neI rfl rfl) ?_
  refine .nil ?_
  refine .condN rfl (fun h2 => ?_) (fun h2 => ?_)
  · refine .seq ?_
    refine .region ?_
    refine .rd (.move rfl) ?_
    refine .rd (.assign rfl) ?_
    refine .rd (.assign rfl) ?_
    refine .nil ?_
    rw [wbatch_no h2]
    refine .retP Try.func72 (.cons (.tmp rfl) (.cons (.tmp rfl) .nil)) (.cons (.tail .head) .nil) ?_
    exact ⟨[], ⟨rfl, rfl⟩, rfl⟩
  · have h2 : right b = 0 := by omega
    obtain ⟨hs, hbl⟩ := right_zero h2
    rw [wbatch_yes h2]
    have hcl : (crc (body b)).toNat < 1000000000000000 := by have := (crc (body b)).isLt; omega
    refine .skip ?_
    refine .seq ?_
    refine .region ?_
    refine .rd (.ldN ia27 ts27 rfl .head rfl) ?_
    refine .fn rfl rfl .nil (Knows.pick (.tail .head) k) (rbody_ok b a c hf hs) (fun v G1 hq => ?_)
    obtain ⟨rfl, rfl⟩ := hq
    simp only [List.nil_append]
    refine .rd (.assign rfl) ?_
    refine .nil ?_
    refine .seq ?_
    refine .region ?_
    refine .rd (.move rfl) ?_
    refine .rd (.lenT rfl rfl Try.underlying9 rfl) ?_
    refine .fn rfl rfl .nil (fun _ _ _ => trivial) (Four_ok (body b).length (by omega)) (fun v G1 hq => ?_)
    obtain ⟨rfl, rfl⟩ := hq
    simp only [List.nil_append]
    refine .rd (.move rfl) ?_
    refine .fn rfl rfl .nil (fun _ _ _ => trivial) (rCrc_ok (body b) (by omega)) (fun v G1 hq => ?_)
    obtain ⟨rfl, rfl⟩ := hq
    simp only [List.nil_append]
    refine .fn rfl rfl .nil (fun _ _ _ => trivial) (Four_ok (crc (body b)).toNat hcl) (fun v G1 hq => ?_)
    obtain ⟨rfl, rfl⟩ := hq
    simp only [List.nil_append]
    refine .rd (.catT rfl rfl (by simp only [fours_len]; omega)) ?_
    refine .rd (.move rfl) ?_
    refine .rd (.catT rfl rfl (by simp only [List.length_append, fours_len]; omega)) ?_
    refine .rd (.assign rfl) ?_
    refine .rd (.assign rfl) ?_
    refine .nil ?_
    refine .retP Try.func72 (.cons (.tmp rfl) (.cons (.tmp rfl) .nil)) (.cons (.tail .head) .nil) ?_
    exact ⟨[], ⟨rfl, rfl⟩, rfl⟩

end Go.Proofs.Ytllpkagplfmlbaa

