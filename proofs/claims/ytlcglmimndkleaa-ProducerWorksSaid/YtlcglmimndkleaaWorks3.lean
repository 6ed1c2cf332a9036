/- Part 3 of a claim's texts: rules for the machine's steps, and steps through functions of the program, under the conditions that each theorem states. -/
import Derived.Test.YtlcglmimndkleaaProg
import Derived.KernelRfl
import Derived.WalkKit
import Derived.ProofKit
import Derived.OpenShut
import Derived.ShutString
import Derived.ChangeOld
import Derived.Below
import Derived.SizedLaws
import Derived.Carry
import Derived.Test.YtlcglmimndkleaaWorks1
import Derived.Test.YtlcglmimndkleaaWorks2
set_option linter.unusedVariables false
namespace Go.Proofs.Ytlcglmimndkleaa
open Go Go.Sp

set_option linter.unusedVariables false

namespace prod1
theorem ts3 : TS Try.prog 3 1 := .of (by kernel_rfl)
theorem na3 : NotAgg Try.prog 3 := ⟨_, Try.underlying3, trivial⟩
theorem ti3 : TI Try.prog 3 1 8 (.int .i64 0) := .of (by kernel_rfl)
theorem ti41 : TI Try.prog 41 3 40 (.agg #[.string ⟨#[]⟩, .string ⟨#[]⟩, .int .i64 0]) := .of (by kernel_rfl)
theorem bld60_0_1_2_3_8_9 (x0 : Int) (x1 : Int) (x2 : Int) (x3a : Option Addr) (x3n : Nat) (x3c : Nat) (x4 : Option Nat) (x5 : Option Nat) (w : World) : (Instr.build 60 (([0, 1, 2, 3, 8, 9] : List Nat).zip [.int .i64 x0, .int .i64 x1, .int .i64 x2, .slice x3a x3n x3c, .map x4, .map x5]).toArray).run Try.prog w = .ok (.agg #[.int .i64 x0, .int .i64 x1, .int .i64 x2, .slice x3a x3n x3c, .int .i64 0, .int .i64 0, .bool false, .slice none 0 0, .map x4, .map x5, .slice none 0 0, .int .i64 0, .int .i64 0, .slice none 0 0, .slice none 0 0]) w := by kernel_rfl
end prod1
open prod1

def lastOf (l : List Int) (i : Nat) : Int := if i = 0 then 0 else l.getD (i - 1) 0
def Rise (l : List Int) : Prop := l.length ≤ 100 ∧ 0 < l.length ∧ ∀ i, i < l.length → lastOf l i < l.getD i 0 ∧ l.getD i 0 ≤ 7 ∧ 0 < l.getD i 0
theorem lastOf_next {l : List Int} {i : Nat} {y : Int} (h : l[i]? = some y) : lastOf l (i + 1) = y := by
  unfold lastOf; rw [if_neg (by omega), Nat.add_sub_cancel, List.getD_eq_getElem?_getD, h]; rfl
theorem getD_at {l : List Int} {i : Nat} {y : Int} (h : l[i]? = some y) : l.getD i 0 = y := by rw [List.getD_eq_getElem?_getD, h]; rfl
def pickN (c n : Int) : Int := if c < 0 then (-(c + 1)) % n else c % n
theorem pickN_nn {c n : Int} (hn : 0 < n) : 0 ≤ pickN c n := by unfold pickN; split <;> exact Int.emod_nonneg _ (by omega)
theorem pickN_lt {c n : Int} (hn : 0 < n) : pickN c n < n := by unfold pickN; split <;> exact Int.emod_lt_of_pos _ hn
def dig (n : Nat) : List UInt8 := if n < 10 then [UInt8.ofNat (48 + n)] else [UInt8.ofNat (48 + n / 10), UInt8.ofNat (48 + n % 10)]
theorem digit_at {d : Nat} (h : d < 10) : (([48, 49, 50, 51, 52, 53, 54, 55, 56, 57] : List UInt8).drop d).take (d + 1 - d) = [UInt8.ofNat (48 + d)] := by
  rw [show d + 1 - d = 1 by omega]
  match d, h with
  | 0, _ => rfl
  | 1, _ => rfl
  | 2, _ => rfl
  | 3, _ => rfl
  | 4, _ => rfl
  | 5, _ => rfl
  | 6, _ => rfl
  | 7, _ => rfl
  | 8, _ => rfl
  | 9, _ => rfl
/-- How far the digits are written. -/
def DigI (n m : Nat) (o : List UInt8) : Prop := (o = [] ∧ m = n) ∨ (o = [UInt8.ofNat (48 + n % 10)] ∧ m = n / 10) ∨ (10 ≤ n ∧ o = dig n ∧ m = 0)
theorem DigI.step {n m : Nat} {o : List UInt8} (h : DigI n m o) (hn : n < 100) (hc : o = [] ∨ m ≠ 0) : DigI n (m / 10) ([UInt8.ofNat (48 + m % 10)] ++ o) := by
  rcases h with ⟨rfl, rfl⟩ | ⟨rfl, rfl⟩ | ⟨h1, h2, rfl⟩
  · exact .inr (.inl ⟨rfl, rfl⟩)
  · refine .inr (.inr ⟨?_, ?_, by omega⟩)
    · rcases hc with h | h
      · cases h
      · omega
    · unfold dig
      rcases hc with h | h
      · cases h
      · rw [if_neg (by omega), show n / 10 % 10 = n / 10 by omega]; rfl
  · rcases hc with h | h
    · rw [h2] at h; unfold dig at h; split at h <;> cases h
    · exact absurd rfl h
theorem DigI.end_ {n m : Nat} {o : List UInt8} (h : DigI n m o) (hn : n < 100) (ho : o ≠ []) (hm : m = 0) : o = dig n := by
  rcases h with ⟨rfl, _⟩ | ⟨rfl, h2⟩ | ⟨_, h2, _⟩
  · exact absurd rfl ho
  · unfold dig; rw [if_pos (by omega), Nat.mod_eq_of_lt (by omega)]
  · exact h2
theorem row_nil {α : Type} {f : α → List Value} {n : Nat} (hw : ∀ x, (f x).length = n) (hp : 0 < n) {l : List α} {w : World} (h : RowAt none (l.flatMap f) w) : l = [] := by
  rcases h with h | ⟨b, o, e, _⟩
  · have := congrArg List.length h
    rw [flat_length hw] at this
    cases l with
    | nil => rfl
    | cons x l =>
      rw [List.length_nil, List.length_cons, Nat.succ_mul] at this; omega
  · cases e
theorem recC_len (t : List UInt8) : (recC t).length = 3 := rfl
theorem DigI.len {n m : Nat} {o : List UInt8} (h : DigI n m o) : o.length ≤ 2 := by
  rcases h with ⟨rfl, _⟩ | ⟨rfl, _⟩ | ⟨_, rfl, _⟩
  · decide
  · show 1 ≤ 2; decide
  · unfold dig; split <;> simp
theorem dig_mu {m : Nat} {o : List UInt8} (h : o = [] ∨ m ≠ 0) {d : UInt8} : (if [d] ++ o = [] then 1000 else 0) + m / 10 < (if o = [] then 1000 else 0) + m := by
  rw [if_neg (by simp)]
  by_cases ho : o = []
  · rw [if_pos ho]; omega
  · rw [if_neg ho]; rcases h with h | h
    · exact absurd h ho
    · omega

set_option maxRecDepth 20000 in
theorem pick_ok (c n : Int) (hc : -9223372036854775808 ≤ c ∧ c ≤ 9223372036854775807) (hn : 0 < n) : Cn Try.prog 7 [.int .i64 c, .int .i64 n] (fun _ => True) [] fun v G => v = .int .i64 (pickN c n) ∧ G = [] := by
  refine .enter Try.func7 rfl (by kernel_rfl) rfl fun R k => ?_
  obtain ⟨hc1, hc2⟩ := hc
  refine .seq ?_
  refine .region ?_
  refine .rd (.assign rfl) ?_
  refine .nil ?_
  refine .seq ?_
  refine .seq ?_
  refine .region ?_
  refine .rd (.move rfl) ?_
  refine .rd (.lt rfl rfl) ?_
  refine .nil ?_
  refine .condP rfl (fun h1 => ?_) (fun h1 => ?_)
  · refine .region ?_
    refine .rd (.move rfl) ?_
    refine .rd (.add rfl rfl (by omega) (by omega)) ?_
    refine .rd (.neg rfl (by omega) (by omega)) ?_
    refine .rd (.assign rfl) ?_
    refine .nil ?_
    refine .seq ?_
    refine .region ?_
    refine .rd (.move rfl) ?_
    refine .rd (.move rfl) ?_
    refine .rd (.rem rfl rfl (by omega) (by omega)) ?_
    refine .rd (.assign rfl) ?_
    refine .nil ?_
    have hv : pickN c n = (-(c + 1)) % n := by unfold pickN; rw [if_pos h1]
    rw [hv]
    refine .retP Try.func7 (.cons (.tmp rfl) .nil) (.cons .head .nil) ?_
    exact ⟨[], ⟨rfl, rfl⟩, rfl⟩
  · refine .skip ?_
    refine .seq ?_
    refine .region ?_
    refine .rd (.move rfl) ?_
    refine .rd (.move rfl) ?_
    refine .rd (.rem rfl rfl (by omega) (by omega)) ?_
    refine .rd (.assign rfl) ?_
    refine .nil ?_
    have hv : pickN c n = c % n := by unfold pickN; rw [if_neg h1]
    rw [hv]
    refine .retP Try.func7 (.cons (.tmp rfl) .nil) (.cons .head .nil) ?_
    exact ⟨[], ⟨rfl, rfl⟩, rfl⟩

set_option maxRecDepth 20000 in
theorem right_ok (a : Option Addr) (c : Nat) (l : List Int) (hr : Rise l) : Cn Try.prog 14 [.slice a l.length c] (RowAt a (l.flatMap icell)) [] fun v G => v = .bool true ∧ G = [] := by
  refine .enter Try.func14 rfl (by kernel_rfl) rfl fun R k => ?_
  refine .seq ?_
  refine .region ?_
  refine .rd (.assign rfl) ?_
  refine .nil ?_
  refine .seq ?_
  refine .region ?_
  refine .rd (.assign rfl) ?_
  refine .nil ?_
  refine .seq ?_
  refine .seq ?_
  refine .region ?_
  refine .rd (.move rfl) ?_
  refine .rd (.lenL rfl rfl Try.underlying28 rfl) ?_
  refine .rd (.move rfl) ?_
  refine .nil ?_
  refine .block ?_
  refine .loop (σ := Nat) (fun i => i ≤ l.length) (fun i => l.length - i) (fun i => [(3, .int .i64 (lastOf l i)), (6, .slice a l.length c), (7, .int .i64 l.length), (8, .int .i64 (i : Nat))]) (fun i => [R]) 0 (Nat.zero_le _) (.cons rfl (.cons rfl (.cons rfl (.cons rfl .nil)))) (.cons .head .nil) (fun i hI ih => ?_)
  have hi := hI
  have hll := hr.1
  refine .seq ?_
  refine .region ?_
  refine .rd (.lt rfl rfl) ?_
  refine .nil ?_
  refine .seq ?_
  refine .condP rfl (fun h3 => ?_) (fun h3 => ?_)
  · refine .skip ?_
    refine .seq ?_
    refine .block ?_
    refine .seq ?_
    obtain ⟨y, hy⟩ : ∃ y, l[i]? = some y := ⟨_, List.getElem?_eq_getElem (by omega)⟩
    have hrl := hr.2.2 i (by omega)
    rw [getD_at hy] at hrl
    refine .tell (φ := ∃ b o, a = some ⟨b, o, none⟩) (Knows.pick .head (k.mono fun _ h => RowAt.addr h (by rw [flat_length icell_len]; omega))) (fun hh => ?_)
    obtain ⟨b, o, rfl⟩ := hh
    refine .region ?_
    refine .rd (.indexAddr Try.underlying28 ts3 rfl rfl (by omega) (by omega)) ?_
    refine .rd (.load na3 rfl (Knows.one (i := 0) (Knows.elem (f := icell) icell_len (by decide) (Knows.pick .head k) hy) rfl)) ?_
    refine .rd (.assign rfl) ?_
    refine .nil ?_
    refine .seq ?_
    refine .seq ?_
    refine .region ?_
    refine .rd (.move rfl) ?_
    refine .rd (.move rfl) ?_
    refine .rd (.le rfl rfl) ?_
    refine .alter (t := 14) (v' := .bool false) rfl (congrArg Value.bool (decide_eq_false (by omega))) ?_
    refine .rd (.move rfl) ?_
    refine .on (t := 15) rfl rfl ?_
    refine .rd (.move rfl) ?_
    refine .on (t := 15) rfl rfl ?_
    refine .rd (.gt rfl rfl) ?_
    refine .alter (t := 17) (v' := .bool false) rfl (congrArg Value.bool (decide_eq_false (by omega))) ?_
    refine .rd (.pickF rfl rfl) ?_
    refine .nil ?_
    refine .condF rfl ?_
    refine .skip ?_
    refine .region ?_
    refine .rd (.move rfl) ?_
    refine .rd (.assign rfl) ?_
    refine .nil ?_
    refine .inBlock ?_
    refine .region ?_
    refine .rd (.add rfl rfl (by omega) (by omega)) ?_
    refine .rd (.move rfl) ?_
    refine .nil ?_
    exact (ih (i + 1) (by omega) (by omega)).to (.cons (by rw [lastOf_next hy]; rfl) (.cons rfl (.cons rfl (.cons rfl .nil)))) (.cons .head .nil)
  · obtain rfl : i = l.length := by omega
    have hlast : 0 < lastOf l l.length := by
      have := (hr.2.2 (l.length - 1) (by have := hr.2.1; omega)).2.2
      unfold lastOf; rw [if_neg (by have := hr.2.1; omega)]; exact this
    refine .exit rfl ?_
    refine .seq ?_
    refine .region ?_
    refine .rd (.move rfl) ?_
    refine .rd (.gt rfl rfl) ?_
    refine .alter (t := 22) (v' := .bool true) rfl (congrArg Value.bool (decide_eq_true hlast)) ?_
    refine .rd (.assign rfl) ?_
    refine .nil ?_
    refine .retP Try.func14 (.cons (.tmp rfl) .nil) (.cons .head .nil) ?_
    exact ⟨[], ⟨rfl, rfl⟩, rfl⟩

set_option maxRecDepth 20000 in
theorem cloneI_ok (a : Option Addr) (c : Nat) (l : List Int) (hl : l.length ≤ 1000000) : Cn Try.prog 15 [.slice a l.length c] (RowAt a (l.flatMap icell)) [] fun v G => ∃ a' c', v = .slice a' l.length c' ∧ G = [arr 3 1 a' c' (l.flatMap icell)] := by
  refine .enter Try.func15 rfl (by kernel_rfl) rfl fun R k => ?_
  refine .seq ?_
  refine .region ?_
  refine .rd (.assign rfl) ?_
  refine .nil ?_
  refine .seq ?_
  refine .seq ?_
  refine .region ?_
  refine .rd (.move rfl) ?_
  refine .rd (.eqNilL Try.underlying28 rfl rfl) ?_
  refine .nil ?_
  refine .cond rfl (fun h1 => ?_) (fun h1 => ?_)
  · obtain rfl : a = none := by cases a with | none => rfl | some x => simp at h1
    refine .seq ?_
    refine .region ?_
    refine .rd (.assign rfl) ?_
    refine .nil ?_
    refine .tell (φ := l = []) (Knows.pick .head (k.mono fun _ h => row_nil icell_len (by decide) h)) (fun hl => ?_)
    subst hl
    refine .nilArr 3 1 none ?_
    refine .retP Try.func15 (.cons (.tmp rfl) .nil) (.cons .head (.cons .head .nil)) ?_
    exact ⟨[_], ⟨none, 0, rfl, rfl⟩, rfl⟩
  · refine .skip ?_
    refine .seq ?_
    refine .region ?_
    refine .ef (.buildNone Try.underlying28 ti3) ?_
    rintro _ _ ⟨b5, rfl, rfl⟩
    refine .rd (.move rfl) ?_
    refine .nilArr 3 1 (some ⟨b5, 0, none⟩) ?_
    refine .ef (.append rfl rfl Try.underlying28 ti3 rfl (ones.of rfl) (by decide) (by decide) rfl rfl .head (n := 0) (m := l.length) (cs := []) rfl (.srcRow (ys := l.flatMap icell) (Knows.pick (.tail (.tail .head)) k) Try.underlying28 (by rw [flat_length icell_len]) (by decide)) (by omega)) ?_
    rintro _ _ ⟨ra, rc, rfl, rn, rfl⟩
    refine .alter (t := 7) (v' := .slice ra l.length rc) rfl (by rw [Nat.zero_add]) ?_
    refine .rd (.assign rfl) ?_
    refine .nil ?_
    refine .cast (X' := arr 3 1 ra rc (l.flatMap icell)) (by rw [List.nil_append]) ?_
    refine .retP Try.func15 (.cons (.tmp rfl) .nil) (.cons .head (.cons (.tail .head) .nil)) ?_
    exact ⟨[_], ⟨ra, rc, rfl, rfl⟩, rfl⟩

set_option maxRecDepth 20000 in
theorem cloneR_ok (a : Option Addr) (c : Nat) (l : List (List UInt8)) (hl : l.length ≤ 1000000) : Cn Try.prog 17 [.slice a l.length c] (RowAt a (l.flatMap recC)) [] fun v G => ∃ a' c', v = .slice a' l.length c' ∧ G = [arr 41 3 a' c' (l.flatMap recC)] := by
  refine .enter Try.func17 rfl (by kernel_rfl) rfl fun R k => ?_
  refine .seq ?_
  refine .region ?_
  refine .rd (.assign rfl) ?_
  refine .nil ?_
  refine .seq ?_
  refine .seq ?_
  refine .region ?_
  refine .rd (.move rfl) ?_
  refine .rd (.eqNilL Try.underlying33 rfl rfl) ?_
  refine .nil ?_
  refine .cond rfl (fun h1 => ?_) (fun h1 => ?_)
  · obtain rfl : a = none := by cases a with | none => rfl | some x => simp at h1
    refine .seq ?_
    refine .region ?_
    refine .rd (.assign rfl) ?_
    refine .nil ?_
    refine .tell (φ := l = []) (Knows.pick .head (k.mono fun _ h => row_nil recC_len (by decide) h)) (fun hl => ?_)
    subst hl
    refine .nilArr 41 3 none ?_
    refine .retP Try.func17 (.cons (.tmp rfl) .nil) (.cons .head (.cons .head .nil)) ?_
    exact ⟨[_], ⟨none, 0, rfl, rfl⟩, rfl⟩
  · refine .skip ?_
    refine .seq ?_
    refine .region ?_
    refine .ef (.buildNone Try.underlying33 ti41) ?_
    rintro _ _ ⟨b5, rfl, rfl⟩
    refine .rd (.move rfl) ?_
    refine .nilArr 41 3 (some ⟨b5, 0, none⟩) ?_
    refine .ef (.append rfl rfl Try.underlying33 ti41 rfl (ones.of rfl) (by decide) (by decide) rfl rfl .head (n := 0) (m := l.length) (cs := []) rfl (.srcRow (ys := l.flatMap recC) (Knows.pick (.tail (.tail .head)) k) Try.underlying33 (by rw [flat_length recC_len]) (by decide)) (by omega)) ?_
    rintro _ _ ⟨ra, rc, rfl, rn, rfl⟩
    refine .alter (t := 7) (v' := .slice ra l.length rc) rfl (by rw [Nat.zero_add]) ?_
    refine .rd (.assign rfl) ?_
    refine .nil ?_
    refine .cast (X' := arr 41 3 ra rc (l.flatMap recC)) (by rw [List.nil_append]) ?_
    refine .retP Try.func17 (.cons (.tmp rfl) .nil) (.cons .head (.cons (.tail .head) .nil)) ?_
    exact ⟨[_], ⟨ra, rc, rfl, rfl⟩, rfl⟩

set_option maxRecDepth 20000 in
theorem New_ok (a : Option Addr) (c : Nat) (l : List Int) (wait tries : Int) (hr : Rise l) (hw : 1 ≤ wait ∧ wait ≤ 1000000000) (ht : 1 ≤ tries ∧ tries ≤ 1000) : Cn Try.prog 6 [.int .i64 101, .slice a l.length c, .int .i64 wait, .int .i64 tries] (RowAt a (l.flatMap icell)) [] fun v G => ∃ pb x, (x.cc = 0 ∧ x.uc = 0 ∧ x.ec = 0) ∧ v = .tuple #[.pointer (some ⟨pb, 0, none⟩), .int .i64 0] ∧ G = [blk pb ((newS wait tries l).cells x none 0 0) 60, IM x.nb [], IM x.ab [], know (RowAt x.ba (l.flatMap icell))] := by
  refine .enter Try.func6 rfl (by kernel_rfl) rfl fun R k => ?_
  refine .seq ?_
  refine .region ?_
  refine .rd (.assign rfl) ?_
  refine .rd (.assign rfl) ?_
  refine .nil ?_
  refine .seq ?_
  refine .seq ?_
  refine .region ?_
  refine .rd (.move rfl) ?_
  refine .rd (.lt rfl rfl) ?_
  refine .alter (t := 11) (v' := .bool false) rfl (congrArg Value.bool (by first | rfl | decide)) ?_
  refine .rd (.move rfl) ?_
  refine .on (t := 12) rfl rfl ?_
  refine .rd (.move rfl) ?_
  refine .on (t := 12) rfl rfl ?_
  refine .rd (.gt rfl rfl) ?_
  refine .alter (t := 14) (v' := .bool false) rfl (congrArg Value.bool (by first | rfl | decide)) ?_
  refine .rd (.pickF rfl rfl) ?_
  refine .rd (.move rfl) ?_
  refine .on (t := 16) rfl rfl ?_
  refine .rd (.move rfl) ?_
  refine .on (t := 16) rfl rfl ?_
  refine .fn rfl rfl .nil (Knows.pick .head k) (right_ok a c l hr) (fun v G1 hq => ?_)
  obtain ⟨rfl, rfl⟩ := hq
  simp only [List.nil_append]
  refine .on (t := 16) rfl rfl ?_
  refine .rd (.not rfl) ?_
  refine .rd (.pickF rfl rfl) ?_
  refine .rd (.move rfl) ?_
  refine .on (t := 21) rfl rfl ?_
  refine .rd (.move rfl) ?_
  refine .on (t := 21) rfl rfl ?_
  refine .rd (.lt rfl rfl) ?_
  refine .alter (t := 23) (v' := .bool false) rfl (congrArg Value.bool (decide_eq_false (by omega))) ?_
  refine .rd (.pickF rfl rfl) ?_
  refine .rd (.move rfl) ?_
  refine .on (t := 25) rfl rfl ?_
  refine .rd (.move rfl) ?_
  refine .on (t := 25) rfl rfl ?_
  refine .rd (.gt rfl rfl) ?_
  refine .alter (t := 27) (v' := .bool false) rfl (congrArg Value.bool (decide_eq_false (by omega))) ?_
  refine .rd (.pickF rfl rfl) ?_
  refine .rd (.move rfl) ?_
  refine .on (t := 29) rfl rfl ?_
  refine .rd (.move rfl) ?_
  refine .on (t := 29) rfl rfl ?_
  refine .rd (.lt rfl rfl) ?_
  refine .alter (t := 31) (v' := .bool false) rfl (congrArg Value.bool (decide_eq_false (by omega))) ?_
  refine .rd (.pickF rfl rfl) ?_
  refine .rd (.move rfl) ?_
  refine .on (t := 33) rfl rfl ?_
  refine .rd (.move rfl) ?_
  refine .on (t := 33) rfl rfl ?_
  refine .rd (.gt rfl rfl) ?_
  refine .alter (t := 35) (v' := .bool false) rfl (congrArg Value.bool (decide_eq_false (by omega))) ?_
  refine .rd (.pickF rfl rfl) ?_
  refine .nil ?_
  refine .condF rfl ?_
  refine .skip ?_
  refine .seq ?_
  refine .region ?_
  refine .rd (.move rfl) ?_
  refine .rd (.move rfl) ?_
  refine .rd (.move rfl) ?_
  refine .rd (.move rfl) ?_
  refine .fn rfl rfl .nil (Knows.pick .head k) (cloneI_ok a c l (by have := hr.1; omega)) (fun v G1 hq => ?_)
  obtain ⟨a', c', rfl, rfl⟩ := hq
  simp only [List.cons_append, List.nil_append]
  refine .ef (.makeMap (enc := Value.int .i64) (venc := Value.int .i64)) ?_
  rintro _ _ ⟨nb, rfl, rfl⟩
  refine .ef (.makeMap (enc := Value.int .i64) (venc := Value.int .i64)) ?_
  rintro _ _ ⟨ab, rfl, rfl⟩
  refine .rd (.build rfl (bld60_0_1_2_3_8_9 _ _ _ _ _ _ _ _)) ?_
  refine .ef (.box (l := (newS wait tries l).cells ⟨a', c', none, 0, nb, ab, none, 0, none, 0⟩ none 0 0) rfl rfl (ones.of rfl)) ?_
  rintro _ _ ⟨pb, rfl, rfl⟩
  refine .rd (.assign rfl) ?_
  refine .rd (.assign rfl) ?_
  refine .nil ?_
  refine .settle (.tail (.tail (.tail .head))) (Settles.arr) ?_
  refine .retP Try.func6 (.cons (.tmp rfl) (.cons (.tmp rfl) .nil)) (.cons (.tail .head) (.cons (.tail (.tail .head)) (.cons (.tail .head) (.cons .head (.cons .head .nil))))) ?_
  exact ⟨[_, _, _, _], ⟨pb, ⟨a', c', none, 0, nb, ab, none, 0, none, 0⟩, ⟨rfl, rfl, rfl⟩, rfl, rfl⟩, rfl⟩

set_option maxRecDepth 20000 in
theorem digits_ok (n : Nat) (hn : n < 100) : Cn Try.prog 12 [.int .i64 (n : Int)] (fun _ => True) [] fun v G => v = .string (str (dig n)) ∧ G = [] := by
  refine .enter Try.func12 rfl (by kernel_rfl) rfl fun R k => ?_
  refine .seq ?_
  refine .region ?_
  refine .rd (.assign rfl) ?_
  refine .nil ?_
  refine .seq ?_
  refine .region ?_
  refine .rd (.assign rfl) ?_
  refine .nil ?_
  refine .seq ?_
  refine .block ?_
  refine .loop (σ := Nat × List UInt8) (fun ⟨m, o⟩ => DigI n m o ∧ m ≤ n ∧ o.length ≤ 2) (fun ⟨m, o⟩ => (if o = [] then 1000 else 0) + m) (fun ⟨m, o⟩ => [(0, .int .i64 (m : Nat)), (3, .string (str o))]) (fun ⟨m, o⟩ => [R]) (n, []) ⟨.inl ⟨rfl, rfl⟩, Nat.le_refl _, by decide⟩ (.cons rfl (.cons rfl .nil)) (.cons .head .nil) (fun s' hI ih => ?_)
  obtain ⟨m, o⟩ := s'
  dsimp only at hI ih ⊢
  have hm := hI.2.1
  have hol := hI.2.2
  refine .seq ?_
  refine .seq ?_
  refine .region ?_
  refine RunO.join 6 10 (decide (o = []) || !decide ((m : Int) = 0)) ?_ ?_
  · refine .rd (.move rfl) ?_
    refine .rd (.eqT (m := []) rfl rfl) ?_
    refine .rd (.move rfl) ?_
    refine .split (t := 7) rfl (fun g2 => ?_) (fun g2 => ?_)
    · replace g2 := of_decide_eq_true g2
      refine .off (t := 7) rfl rfl rfl ?_
      refine .off (t := 7) rfl rfl rfl ?_
      refine .rd (.pickT rfl rfl) ?_
      refine .nil ⟨rfl, ?_, by repeat (first | exact Le.refl _ | refine Le.skip rfl ?_)⟩
      exact congrArg (fun x => some (Value.bool x)) (Eq.symm (show (decide (o = []) || !decide ((m : Int) = 0)) = _ by (rw [decide_eq_true g2]) <;> rfl))
    · replace g2 := of_decide_eq_false g2
      refine .on (t := 7) rfl rfl ?_
      refine .rd (.move rfl) ?_
      refine .on (t := 7) rfl rfl ?_
      refine .rd (.neI rfl rfl) ?_
      refine .rd (.pickF rfl rfl) ?_
      refine .nil ⟨rfl, ?_, by repeat (first | exact Le.refl _ | refine Le.skip rfl ?_)⟩
      exact congrArg (fun x => some (Value.bool x)) (Eq.symm (show (decide (o = []) || !decide ((m : Int) = 0)) = _ by (rw [decide_eq_false g2]) <;> rfl))
  refine .nil ?_
  refine .cond rfl (fun h2b => ?_) (fun h2b => ?_)
  · have h2 : o = [] ∨ m ≠ 0 := by simp at h2b; rcases h2b with h | h; exact .inl h; exact .inr (by omega)
    refine .skip ?_
    refine .block ?_
    refine .seq ?_
    refine .region ?_
    refine .rd (.move rfl) ?_
    refine .rd (.rem rfl rfl (by omega) (by decide)) ?_
    refine .alter (t := 12) (v' := .int .i64 ((m % 10 : Nat) : Int)) rfl (by rw [Int.natCast_emod]; rfl) ?_
    refine .rd (.assign rfl) ?_
    refine .nil ?_
    refine .seq ?_
    refine .seq ?_
    refine .region ?_
    refine .rd (.move rfl) ?_
    refine .rd (.lt rfl rfl) ?_
    refine .alter (t := 14) (v' := .bool false) rfl (congrArg Value.bool (decide_eq_false (by omega))) ?_
    refine .nil ?_
    refine .condF rfl ?_
    refine .skip ?_
    refine .seq ?_
    refine .region ?_
    refine .rd (.move rfl) ?_
    refine .rd (.move rfl) ?_
    refine .rd (.add rfl rfl (by omega) (by omega)) ?_
    refine .alter (t := 19) (v' := .int .i64 ((m % 10 + 1 : Nat) : Int)) rfl (by rw [Int.natCast_add]; rfl) ?_
    refine .rd (.sliceT (l := [48, 49, 50, 51, 52, 53, 54, 55, 56, 57]) (a := m % 10) (h := m % 10 + 1) Try.underlying9 rfl ⟨_, rfl⟩ ⟨_, rfl⟩ (by omega) (by show m % 10 + 1 ≤ 10; omega)) ?_
    refine .alter (t := 20) (v' := .string (str [UInt8.ofNat (48 + m % 10)])) rfl (by rw [digit_at (by omega)]) ?_
    refine .rd (.move rfl) ?_
    refine .rd (.catT rfl rfl (by simp only [List.length_cons, List.length_nil]; omega)) ?_
    refine .rd (.assign rfl) ?_
    refine .nil ?_
    refine .region ?_
    refine .rd (.move rfl) ?_
    refine .rd (.quo rfl rfl (by omega) (by decide) (by omega)) ?_
    refine .alter (t := 24) (v' := .int .i64 ((m / 10 : Nat) : Int)) rfl (by rw [Int.natCast_ediv]; rfl) ?_
    refine .rd (.assign rfl) ?_
    refine .nil ?_
    refine .inBlock ?_
    exact (ih (m / 10, [UInt8.ofNat (48 + m % 10)] ++ o) ⟨hI.1.step hn h2, by show m / 10 ≤ n; omega, (hI.1.step hn h2).len⟩ (dig_mu h2)).to (.cons rfl (.cons rfl .nil)) (.cons .head .nil)
  · have ho : o = dig n := by simp at h2b; exact hI.1.end_ hn h2b.1 (by omega)
    refine .exit rfl ?_
    refine .seq ?_
    refine .region ?_
    refine .rd (.move rfl) ?_
    refine .rd (.assign rfl) ?_
    refine .nil ?_
    rw [ho]
    refine .retP Try.func12 (.cons (.tmp rfl) .nil) (.cons .head .nil) ?_
    exact ⟨[], ⟨rfl, rfl⟩, rfl⟩

end Go.Proofs.Ytlcglmimndkleaa


namespace Go.Proofs.Ytlcglmimndkleaa
open Go Go.Sp

set_option linter.unusedVariables false

namespace wire7
theorem na9 : NotAgg Try.prog 9 := ⟨_, Try.underlying9, trivial⟩
theorem na4 : NotAgg Try.prog 4 := ⟨_, Try.underlying4, trivial⟩
theorem ts4 : TS Try.prog 4 1 := .of (by kernel_rfl)
theorem ts9 : TS Try.prog 9 1 := .of (by kernel_rfl)
end wire7
open wire7



set_option maxRecDepth 20000 in
theorem within_ok (n m : Int) : Cn Try.prog 32 [.int .i64 n, .int .i64 m] (fun _ => True) [] fun v G => v = .bool (decide (0 ≤ n ∧ n ≤ m)) ∧ G = [] := by
  refine .enter Try.func32 rfl (by kernel_rfl) rfl fun R k => ?_
  refine .seq ?_
  refine .region ?_
  refine .rd (.assign rfl) ?_
  refine .nil ?_
  refine .seq ?_
  refine .region ?_
  refine .rd (.move rfl) ?_
  refine .rd (.ge rfl rfl) ?_
  refine .rd (.move rfl) ?_
  refine .split (t := 7) rfl (fun h2 => ?_) (fun h2 => ?_)
  · replace h2 := of_decide_eq_true h2
    refine .on (t := 7) rfl rfl ?_
    refine .rd (.move rfl) ?_
    refine .on (t := 7) rfl rfl ?_
    refine .rd (.move rfl) ?_
    refine .on (t := 7) rfl rfl ?_
    refine .rd (.le rfl rfl) ?_
    refine .rd (.pickT rfl rfl) ?_
    refine .rd (.assign rfl) ?_
    refine .nil ?_
    refine .retP Try.func32 (.cons (.tmp rfl) .nil) (.cons .head .nil) ?_
    exact ⟨[], ⟨by simp only [resVal]; congr 1; simp [h2], rfl⟩, rfl⟩
  · replace h2 := of_decide_eq_false h2
    refine .off (t := 7) rfl rfl rfl ?_
    refine .off (t := 7) rfl rfl rfl ?_
    refine .off (t := 7) rfl rfl rfl ?_
    refine .rd (.pickF rfl rfl) ?_
    refine .rd (.assign rfl) ?_
    refine .nil ?_
    refine .retP Try.func32 (.cons (.tmp rfl) .nil) (.cons .head .nil) ?_
    exact ⟨[], ⟨by simp only [resVal]; congr 1; simp [h2], rfl⟩, rfl⟩

end Go.Proofs.Ytlcglmimndkleaa


namespace Go.Proofs.Ytlcglmimndkleaa
open Go Go.Sp

set_option linter.unusedVariables false

namespace wire11
theorem fd27_5 : FD Try.prog 52 5 5 := .of Try.underlying52 (by kernel_rfl)
theorem na25 : NotAgg Try.prog 33 := ⟨_, Try.underlying33, trivial⟩
theorem fd27_0 : FD Try.prog 52 0 0 := .of Try.underlying52 (by kernel_rfl)
theorem na3 : NotAgg Try.prog 3 := ⟨_, Try.underlying3, trivial⟩
theorem fd27_1 : FD Try.prog 52 1 1 := .of Try.underlying52 (by kernel_rfl)
theorem fd27_2 : FD Try.prog 52 2 2 := .of Try.underlying52 (by kernel_rfl)
theorem fd27_3 : FD Try.prog 52 3 3 := .of Try.underlying52 (by kernel_rfl)
theorem fd27_4 : FD Try.prog 52 4 4 := .of Try.underlying52 (by kernel_rfl)
theorem ts65 : TS Try.prog 41 3 := .of (by kernel_rfl)
theorem ia65 : IsAgg Try.prog 41 := ⟨_, Try.underlying41, trivial⟩
theorem ti65 : TI Try.prog 41 3 40 (.agg #[.string ⟨#[]⟩, .string ⟨#[]⟩, .int .i64 0]) := .of (by kernel_rfl)
theorem fd65_2 : FD Try.prog 41 2 2 := .of Try.underlying41 (by kernel_rfl)
theorem fd65_0 : FD Try.prog 41 0 0 := .of Try.underlying41 (by kernel_rfl)
theorem na9 : NotAgg Try.prog 9 := ⟨_, Try.underlying9, trivial⟩
theorem fd65_1 : FD Try.prog 41 1 1 := .of Try.underlying41 (by kernel_rfl)
theorem ia27 : IsAgg Try.prog 52 := ⟨_, Try.underlying52, trivial⟩
theorem ts27 : TS Try.prog 52 6 := .of (by kernel_rfl)
end wire11
open wire11



set_option maxRecDepth 20000 in
theorem Right_ok (b : Bat) (a : Option Addr) (c : Nat) (hf : b.fits) : Cn Try.prog 16 [.agg (b.cells a c).toArray] (RowAt a (b.recs.flatMap Rec.cells)) [] fun v G => v = .int .i64 (right b) ∧ G = [] := by
  refine .enter Try.func16 rfl (by kernel_rfl) rfl fun R k => ?_
  have hfl := hf.len
  have hor := orI_zero hf.pidEpoch hf.seq
  refine .seq ?_
  refine .region ?_
  refine .ef (.box (l := b.cells a c) rfl rfl (ones.of rfl)) ?_
  rintro _ _ ⟨b1, rfl, rfl⟩
  refine .rd (.assign rfl) ?_
  refine .nil ?_
  refine .seq ?_
  refine .region ?_
  refine .rd (.fieldAddr fd27_5 rfl) ?_
  refine .rd (.ld na25 rfl .head rfl) ?_
  refine .rd (.lenL rfl rfl Try.underlying33 rfl) ?_
  refine .rd (.assign rfl) ?_
  refine .nil ?_
  refine .seq ?_
  refine .seq ?_
  refine .region ?_
  refine .rd (.fieldAddr fd27_0 rfl) ?_
  refine .rd (.ld na3 rfl .head rfl) ?_
  refine .rd (.lt rfl rfl) ?_
  refine .rd (.move rfl) ?_
  refine .split (t := 13) rfl (fun g2_3 => ?_) (fun g2_3 => ?_)
  · replace g2_3 := of_decide_eq_true g2_3
    refine .off (t := 13) rfl rfl rfl ?_
    refine .off (t := 13) rfl rfl rfl ?_
    refine .off (t := 13) rfl rfl rfl ?_
    refine .off (t := 13) rfl rfl rfl ?_
    refine .rd (.pickT rfl rfl) ?_
    refine .rd (.move rfl) ?_
    refine .off (t := 19) rfl rfl rfl ?_
    refine .off (t := 19) rfl rfl rfl ?_
    refine .off (t := 19) rfl rfl rfl ?_
    refine .off (t := 19) rfl rfl rfl ?_
    refine .rd (.pickT rfl rfl) ?_
    refine .rd (.move rfl) ?_
    refine .off (t := 25) rfl rfl rfl ?_
    refine .off (t := 25) rfl rfl rfl ?_
    refine .off (t := 25) rfl rfl rfl ?_
    refine .off (t := 25) rfl rfl rfl ?_
    refine .rd (.pickT rfl rfl) ?_
    refine .rd (.move rfl) ?_
    refine .off (t := 31) rfl rfl rfl ?_
    refine .off (t := 31) rfl rfl rfl ?_
    refine .off (t := 31) rfl rfl rfl ?_
    refine .off (t := 31) rfl rfl rfl ?_
    refine .rd (.pickT rfl rfl) ?_
    refine .rd (.move rfl) ?_
    refine .off (t := 37) rfl rfl rfl ?_
    refine .off (t := 37) rfl rfl rfl ?_
    refine .off (t := 37) rfl rfl rfl ?_
    refine .offU (t := 37) rfl rfl rfl rfl ?_
    refine .offX (t := 41) rfl rfl rfl ?_
    refine .offX (t := 41) rfl rfl rfl ?_
    refine .offX (t := 41) rfl rfl rfl ?_
    refine .offX (t := 41) rfl rfl rfl ?_
    refine .offX (t := 41) rfl rfl rfl ?_
    refine .offX (t := 41) rfl rfl rfl ?_
    refine .off (t := 37) rfl rfl rfl ?_
    refine .rd (.pickT rfl rfl) ?_
    refine .rd (.move rfl) ?_
    refine .off (t := 50) rfl rfl rfl ?_
    refine .off (t := 50) rfl rfl rfl ?_
    refine .rd (.pickT rfl rfl) ?_
    refine .nil ?_
    refine .condT rfl ?_
    refine .seq ?_
    refine .region ?_
    refine .rd (.assign rfl) ?_
    refine .nil ?_
    have hq : b.off := by unfold Bat.off; omega
    rw [right_off hq]
    refine .retP Try.func16 (.cons (.tmp rfl) .nil) (.cons (.tail .head) .nil) ?_
    exact ⟨[], ⟨rfl, rfl⟩, rfl⟩
  · replace g2_3 := of_decide_eq_false g2_3
    refine .on (t := 13) rfl rfl ?_
    refine .rd (.fieldAddr fd27_1 rfl) ?_
    refine .on (t := 13) rfl rfl ?_
    refine .rd (.ld na3 rfl .head rfl) ?_
    refine .on (t := 13) rfl rfl ?_
    refine .fn rfl rfl .nil (fun _ _ _ => trivial) (within_ok _ _) (fun v G1 hq => ?_)
    obtain ⟨rfl, rfl⟩ := hq
    simp only [List.nil_append]
    refine .on (t := 13) rfl rfl ?_
    refine .rd (.not rfl) ?_
    refine .rd (.pickF rfl rfl) ?_
    refine .rd (.move rfl) ?_
    refine .split (t := 19) rfl (fun g2_9 => ?_) (fun g2_9 => ?_)
    · simp at g2_9
      refine .off (t := 19) rfl rfl rfl ?_
      refine .off (t := 19) rfl rfl rfl ?_
      refine .off (t := 19) rfl rfl rfl ?_
      refine .off (t := 19) rfl rfl rfl ?_
      refine .rd (.pickT rfl rfl) ?_
      refine .rd (.move rfl) ?_
      refine .off (t := 25) rfl rfl rfl ?_
      refine .off (t := 25) rfl rfl rfl ?_
      refine .off (t := 25) rfl rfl rfl ?_
      refine .off (t := 25) rfl rfl rfl ?_
      refine .rd (.pickT rfl rfl) ?_
      refine .rd (.move rfl) ?_
      refine .off (t := 31) rfl rfl rfl ?_
      refine .off (t := 31) rfl rfl rfl ?_
      refine .off (t := 31) rfl rfl rfl ?_
      refine .off (t := 31) rfl rfl rfl ?_
      refine .rd (.pickT rfl rfl) ?_
      refine .rd (.move rfl) ?_
      refine .off (t := 37) rfl rfl rfl ?_
      refine .off (t := 37) rfl rfl rfl ?_
      refine .off (t := 37) rfl rfl rfl ?_
      refine .offU (t := 37) rfl rfl rfl rfl ?_
      refine .offX (t := 41) rfl rfl rfl ?_
      refine .offX (t := 41) rfl rfl rfl ?_
      refine .offX (t := 41) rfl rfl rfl ?_
      refine .offX (t := 41) rfl rfl rfl ?_
      refine .offX (t := 41) rfl rfl rfl ?_
      refine .offX (t := 41) rfl rfl rfl ?_
      refine .off (t := 37) rfl rfl rfl ?_
      refine .rd (.pickT rfl rfl) ?_
      refine .rd (.move rfl) ?_
      refine .off (t := 50) rfl rfl rfl ?_
      refine .off (t := 50) rfl rfl rfl ?_
      refine .rd (.pickT rfl rfl) ?_
      refine .nil ?_
      refine .condT rfl ?_
      refine .seq ?_
      refine .region ?_
      refine .rd (.assign rfl) ?_
      refine .nil ?_
      have hq : b.off := by unfold Bat.off; omega
      rw [right_off hq]
      refine .retP Try.func16 (.cons (.tmp rfl) .nil) (.cons (.tail .head) .nil) ?_
      exact ⟨[], ⟨rfl, rfl⟩, rfl⟩
    · simp at g2_9
      refine .on (t := 19) rfl rfl ?_
      refine .rd (.fieldAddr fd27_2 rfl) ?_
      refine .on (t := 19) rfl rfl ?_
      refine .rd (.ld na3 rfl .head rfl) ?_
      refine .on (t := 19) rfl rfl ?_
      refine .fn rfl rfl .nil (fun _ _ _ => trivial) (within_ok _ _) (fun v G1 hq => ?_)
      obtain ⟨rfl, rfl⟩ := hq
      simp only [List.nil_append]
      refine .on (t := 19) rfl rfl ?_
      refine .rd (.not rfl) ?_
      refine .rd (.pickF rfl rfl) ?_
      refine .rd (.move rfl) ?_
      refine .split (t := 25) rfl (fun g2_15 => ?_) (fun g2_15 => ?_)
      · simp at g2_15
        refine .off (t := 25) rfl rfl rfl ?_
        refine .off (t := 25) rfl rfl rfl ?_
        refine .off (t := 25) rfl rfl rfl ?_
        refine .off (t := 25) rfl rfl rfl ?_
        refine .rd (.pickT rfl rfl) ?_
        refine .rd (.move rfl) ?_
        refine .off (t := 31) rfl rfl rfl ?_
        refine .off (t := 31) rfl rfl rfl ?_
        refine .off (t := 31) rfl rfl rfl ?_
        refine .off (t := 31) rfl rfl rfl ?_
        refine .rd (.pickT rfl rfl) ?_
        refine .rd (.move rfl) ?_
        refine .off (t := 37) rfl rfl rfl ?_
        refine .off (t := 37) rfl rfl rfl ?_
        refine .off (t := 37) rfl rfl rfl ?_
        refine .offU (t := 37) rfl rfl rfl rfl ?_
        refine .offX (t := 41) rfl rfl rfl ?_
        refine .offX (t := 41) rfl rfl rfl ?_
        refine .offX (t := 41) rfl rfl rfl ?_
        refine .offX (t := 41) rfl rfl rfl ?_
        refine .offX (t := 41) rfl rfl rfl ?_
        refine .offX (t := 41) rfl rfl rfl ?_
        refine .off (t := 37) rfl rfl rfl ?_
        refine .rd (.pickT rfl rfl) ?_
        refine .rd (.move rfl) ?_
        refine .off (t := 50) rfl rfl rfl ?_
        refine .off (t := 50) rfl rfl rfl ?_
        refine .rd (.pickT rfl rfl) ?_
        refine .nil ?_
        refine .condT rfl ?_
        refine .seq ?_
        refine .region ?_
        refine .rd (.assign rfl) ?_
        refine .nil ?_
        have hq : b.off := by unfold Bat.off; omega
        rw [right_off hq]
        refine .retP Try.func16 (.cons (.tmp rfl) .nil) (.cons (.tail .head) .nil) ?_
        exact ⟨[], ⟨rfl, rfl⟩, rfl⟩
      · simp at g2_15
        refine .on (t := 25) rfl rfl ?_
        refine .rd (.fieldAddr fd27_3 rfl) ?_
        refine .on (t := 25) rfl rfl ?_
        refine .rd (.ld na3 rfl .head rfl) ?_
        refine .on (t := 25) rfl rfl ?_
        refine .fn rfl rfl .nil (fun _ _ _ => trivial) (within_ok _ _) (fun v G1 hq => ?_)
        obtain ⟨rfl, rfl⟩ := hq
        simp only [List.nil_append]
        refine .on (t := 25) rfl rfl ?_
        refine .rd (.not rfl) ?_
        refine .rd (.pickF rfl rfl) ?_
        refine .rd (.move rfl) ?_
        refine .split (t := 31) rfl (fun g2_21 => ?_) (fun g2_21 => ?_)
        · simp at g2_21
          refine .off (t := 31) rfl rfl rfl ?_
          refine .off (t := 31) rfl rfl rfl ?_
          refine .off (t := 31) rfl rfl rfl ?_
          refine .off (t := 31) rfl rfl rfl ?_
          refine .rd (.pickT rfl rfl) ?_
          refine .rd (.move rfl) ?_
          refine .off (t := 37) rfl rfl rfl ?_
          refine .off (t := 37) rfl rfl rfl ?_
          refine .off (t := 37) rfl rfl rfl ?_
          refine .offU (t := 37) rfl rfl rfl rfl ?_
          refine .offX (t := 41) rfl rfl rfl ?_
          refine .offX (t := 41) rfl rfl rfl ?_
          refine .offX (t := 41) rfl rfl rfl ?_
          refine .offX (t := 41) rfl rfl rfl ?_
          refine .offX (t := 41) rfl rfl rfl ?_
          refine .offX (t := 41) rfl rfl rfl ?_
          refine .off (t := 37) rfl rfl rfl ?_
          refine .rd (.pickT rfl rfl) ?_
          refine .rd (.move rfl) ?_
          refine .off (t := 50) rfl rfl rfl ?_
          refine .off (t := 50) rfl rfl rfl ?_
          refine .rd (.pickT rfl rfl) ?_
          refine .nil ?_
          refine .condT rfl ?_
          refine .seq ?_
          refine .region ?_
          refine .rd (.assign rfl) ?_
          refine .nil ?_
          have hq : b.off := by unfold Bat.off; omega
          rw [right_off hq]
          refine .retP Try.func16 (.cons (.tmp rfl) .nil) (.cons (.tail .head) .nil) ?_
          exact ⟨[], ⟨rfl, rfl⟩, rfl⟩
        · simp at g2_21
          refine .on (t := 31) rfl rfl ?_
          refine .rd (.fieldAddr fd27_4 rfl) ?_
          refine .on (t := 31) rfl rfl ?_
          refine .rd (.ld na3 rfl .head rfl) ?_
          refine .on (t := 31) rfl rfl ?_
          refine .fn rfl rfl .nil (fun _ _ _ => trivial) (within_ok _ _) (fun v G1 hq => ?_)
          obtain ⟨rfl, rfl⟩ := hq
          simp only [List.nil_append]
          refine .on (t := 31) rfl rfl ?_
          refine .rd (.not rfl) ?_
          refine .rd (.pickF rfl rfl) ?_
          refine .rd (.move rfl) ?_
          refine .split (t := 37) rfl (fun g2_27 => ?_) (fun g2_27 => ?_)
          · simp at g2_27
            refine .off (t := 37) rfl rfl rfl ?_
            refine .off (t := 37) rfl rfl rfl ?_
            refine .off (t := 37) rfl rfl rfl ?_
            refine .offU (t := 37) rfl rfl rfl rfl ?_
            refine .offX (t := 41) rfl rfl rfl ?_
            refine .offX (t := 41) rfl rfl rfl ?_
            refine .offX (t := 41) rfl rfl rfl ?_
            refine .offX (t := 41) rfl rfl rfl ?_
            refine .offX (t := 41) rfl rfl rfl ?_
            refine .offX (t := 41) rfl rfl rfl ?_
            refine .off (t := 37) rfl rfl rfl ?_
            refine .rd (.pickT rfl rfl) ?_
            refine .rd (.move rfl) ?_
            refine .off (t := 50) rfl rfl rfl ?_
            refine .off (t := 50) rfl rfl rfl ?_
            refine .rd (.pickT rfl rfl) ?_
            refine .nil ?_
            refine .condT rfl ?_
            refine .seq ?_
            refine .region ?_
            refine .rd (.assign rfl) ?_
            refine .nil ?_
            have hq : b.off := by unfold Bat.off; omega
            rw [right_off hq]
            refine .retP Try.func16 (.cons (.tmp rfl) .nil) (.cons (.tail .head) .nil) ?_
            exact ⟨[], ⟨rfl, rfl⟩, rfl⟩
          · simp at g2_27
            refine .on (t := 37) rfl rfl ?_
            refine .rd (.fieldAddr fd27_2 rfl) ?_
            refine .on (t := 37) rfl rfl ?_
            refine .rd (.ld na3 rfl .head rfl) ?_
            refine .on (t := 37) rfl rfl ?_
            refine .rd (.eqI rfl rfl) ?_
            refine .on (t := 37) rfl rfl ?_
            refine .rd (.move rfl) ?_
            refine .split (t := 41) rfl (fun g2_31 => ?_) (fun g2_31 => ?_)
            · replace g2_31 := of_decide_eq_true g2_31
              refine .on (t := 41) rfl rfl ?_
              refine .rd (.fieldAddr fd27_3 rfl) ?_
              refine .on (t := 41) rfl rfl ?_
              refine .rd (.ld na3 rfl .head rfl) ?_
              refine .on (t := 41) rfl rfl ?_
              refine .rd (.fieldAddr fd27_4 rfl) ?_
              refine .on (t := 41) rfl rfl ?_
              refine .rd (.ld na3 rfl .head rfl) ?_
              refine .on (t := 41) rfl rfl ?_
              refine .rd (.or rfl rfl) ?_
              refine .alter (t := 46) (v' := .int .i64 (orI b.pidEpoch b.seq)) rfl (rfl) ?_
              refine .on (t := 41) rfl rfl ?_
              refine .rd (.neI rfl rfl) ?_
              refine .on (t := 37) rfl rfl ?_
              refine .rd (.pickT rfl rfl) ?_
              refine .rd (.pickF rfl rfl) ?_
              refine .rd (.move rfl) ?_
              refine .split (t := 50) rfl (fun g2_40 => ?_) (fun g2_40 => ?_)
              · simp at g2_40
                refine .off (t := 50) rfl rfl rfl ?_
                refine .off (t := 50) rfl rfl rfl ?_
                refine .rd (.pickT rfl rfl) ?_
                refine .nil ?_
                refine .condT rfl ?_
                refine .seq ?_
                refine .region ?_
                refine .rd (.assign rfl) ?_
                refine .nil ?_
                have hq : b.off := by unfold Bat.off; omega
                rw [right_off hq]
                refine .retP Try.func16 (.cons (.tmp rfl) .nil) (.cons (.tail .head) .nil) ?_
                exact ⟨[], ⟨rfl, rfl⟩, rfl⟩
              · simp at g2_40
                refine .on (t := 50) rfl rfl ?_
                refine .rd (.move rfl) ?_
                refine .on (t := 50) rfl rfl ?_
                refine .rd (.eqI rfl rfl) ?_
                refine .rd (.pickF rfl rfl) ?_
                refine .nil ?_
                refine .condP rfl (fun h2 => ?_) (fun h2 => ?_)
                · refine .seq ?_
                  refine .region ?_
                  refine .rd (.assign rfl) ?_
                  refine .nil ?_
                  have hq : b.off := by unfold Bat.off; omega
                  rw [right_off hq]
                  refine .retP Try.func16 (.cons (.tmp rfl) .nil) (.cons (.tail .head) .nil) ?_
                  exact ⟨[], ⟨rfl, rfl⟩, rfl⟩
                · have hno : ¬ b.off := by unfold Bat.off; omega
                  refine .skip ?_
                  refine .seq ?_
                  refine .region ?_
                  refine .rd (.assign rfl) ?_
                  refine .nil ?_
                  refine .seq ?_
                  refine .seq ?_
                  refine .region ?_
                  refine .rd (.fieldAddr fd27_5 rfl) ?_
                  refine .rd (.ld na25 rfl .head rfl) ?_
                  refine .rd (.lenL rfl rfl Try.underlying33 rfl) ?_
                  refine .rd (.move rfl) ?_
                  refine .nil ?_
                  refine .block ?_
                  refine .loop (σ := Nat) (fun j => j ≤ b.recs.length ∧ ∀ r ∈ b.recs.take j, timely r) (fun j => b.recs.length - j) (fun j => [(1, .pointer (some ⟨b1, 0, none⟩)), (2, .int .i64 0), (3, .int .i64 b.recs.length), (4, .bool ((b.recs.take j).any long)), (55, .slice a b.recs.length c), (56, .int .i64 b.recs.length), (57, .int .i64 (j : Nat))]) (fun j => [blk b1 (b.cells a c) 52, R]) 0 ⟨Nat.zero_le _, by simp⟩ (.cons rfl (.cons rfl (.cons rfl (.cons rfl (.cons rfl (.cons rfl (.cons rfl .nil))))))) (.cons .head (.cons .head .nil)) (fun j hI ih => ?_)
                  have hj := hI.1
                  refine .seq ?_
                  refine .region ?_
                  refine .rd (.lt rfl rfl) ?_
                  refine .nil ?_
                  refine .seq ?_
                  refine .condP rfl (fun h6 => ?_) (fun h6 => ?_)
                  · refine .skip ?_
                    refine .seq ?_
                    refine .block ?_
                    refine .seq ?_
                    have hjl : j < b.recs.length := by omega
                    obtain ⟨r, hr⟩ : ∃ r, b.recs[j]? = some r := ⟨_, List.getElem?_eq_getElem hjl⟩
                    have hrm := List.mem_of_getElem? hr
                    have hk1 := hf.key r hrm
                    have hk2 := hf.value r hrm
                    refine .tell (φ := ∃ b o, a = some ⟨b, o, none⟩) (Knows.pick (.tail .head) (k.mono fun _ h => h.addr (by rw [flat_length Rec.cells_len]; omega))) (fun hx => ?_)
                    obtain ⟨bb, oo, rfl⟩ := hx
                    refine .region ?_
                    refine .rd (.indexAddr Try.underlying33 ts65 rfl rfl (by omega) (by omega)) ?_
                    refine .rd (.loadN ia65 ts65 rfl rfl (Knows.elem Rec.cells_len (by decide) (Knows.pick (.tail .head) k) hr)) ?_
                    refine .ef (.alloc ti65 rfl (ones.of rfl)) ?_
                    rintro _ _ ⟨b6, rfl, rfl⟩
                    refine .ef0 (.storeAll (vs := r.cells) ts65 rfl rfl rfl .head rfl (ones.of rfl)) ?_
                    rintro _ _ rfl
                    refine .nil ?_
                    refine .seq ?_
                    refine .seq ?_
                    refine .region ?_
                    refine .rd (.fieldAddr fd65_2 rfl) ?_
                    refine .rd (.ld na3 rfl .head rfl) ?_
                    refine .fn rfl rfl .nil (fun _ _ _ => trivial) (within_ok _ _) (fun v G1 hq => ?_)
                    obtain ⟨rfl, rfl⟩ := hq
                    simp only [List.nil_append]
                    refine .rd (.not rfl) ?_
                    refine .nil ?_
                    refine .condN rfl (fun h8 => ?_) (fun h8 => ?_)
                    · refine .seq ?_
                      refine .region ?_
                      refine .rd (.assign rfl) ?_
                      refine .nil ?_
                      rw [right_time hr (by show ¬ (_ ∧ _); omega)]
                      refine .retP Try.func16 (.cons (.tmp rfl) .nil) (.cons (.tail (.tail .head)) .nil) ?_
                      exact ⟨[], ⟨rfl, rfl⟩, rfl⟩
                    · refine .skip ?_
                      refine .region ?_
                      refine .rd (.move rfl) ?_
                      refine .rd (.move rfl) ?_
                      refine .split (t := 66) rfl (fun g10_1 => ?_) (fun g10_1 => ?_)
                      · refine .off (t := 66) rfl rfl rfl ?_
                        refine .off (t := 66) rfl rfl rfl ?_
                        refine .off (t := 66) rfl rfl rfl ?_
                        refine .off (t := 66) rfl rfl rfl ?_
                        refine .rd (.pickT rfl rfl) ?_
                        refine .rd (.move rfl) ?_
                        refine .off (t := 72) rfl rfl rfl ?_
                        refine .off (t := 72) rfl rfl rfl ?_
                        refine .off (t := 72) rfl rfl rfl ?_
                        refine .off (t := 72) rfl rfl rfl ?_
                        refine .rd (.pickT rfl rfl) ?_
                        refine .rd (.assign rfl) ?_
                        refine .nil ?_
                        refine .inBlock ?_
                        refine .region ?_
                        refine .rd (.add rfl rfl (by omega) (by omega)) ?_
                        refine .rd (.move rfl) ?_
                        refine .nil ?_
                        exact (ih (j + 1) ⟨by omega, all_take (p := timely) hr (by show _ ∧ _; omega) hI.2⟩ (by omega)).to (.cons rfl (.cons rfl (.cons rfl (.cons (by rw [any_take hr, g10_1]; rfl) (.cons rfl (.cons rfl (.cons rfl .nil))))))) (.cons (.tail .head) (.cons (.tail .head) .nil))
                      · refine .on (t := 66) rfl rfl ?_
                        refine .rd (.fieldAddr fd65_0 rfl) ?_
                        refine .on (t := 66) rfl rfl ?_
                        refine .rd (.ld na9 rfl .head rfl) ?_
                        refine .on (t := 66) rfl rfl ?_
                        refine .rd (.lenT rfl rfl Try.underlying9 rfl) ?_
                        refine .on (t := 66) rfl rfl ?_
                        refine .rd (.gt rfl rfl) ?_
                        refine .rd (.pickF rfl rfl) ?_
                        refine .rd (.move rfl) ?_
                        refine .split (t := 72) rfl (fun g10_7 => ?_) (fun g10_7 => ?_)
                        · replace g10_7 := of_decide_eq_true g10_7
                          refine .off (t := 72) rfl rfl rfl ?_
                          refine .off (t := 72) rfl rfl rfl ?_
                          refine .off (t := 72) rfl rfl rfl ?_
                          refine .off (t := 72) rfl rfl rfl ?_
                          refine .rd (.pickT rfl rfl) ?_
                          refine .rd (.assign rfl) ?_
                          refine .nil ?_
                          refine .inBlock ?_
                          refine .region ?_
                          refine .rd (.add rfl rfl (by omega) (by omega)) ?_
                          refine .rd (.move rfl) ?_
                          refine .nil ?_
                          exact (ih (j + 1) ⟨by omega, all_take (p := timely) hr (by show _ ∧ _; omega) hI.2⟩ (by omega)).to (.cons rfl (.cons rfl (.cons rfl (.cons (by rw [any_take hr, g10_1]; show _ = some (Value.bool (false || long r)); rw [show long r = true from (long_iff r).2 (.inl (by omega))]; rfl) (.cons rfl (.cons rfl (.cons rfl .nil))))))) (.cons (.tail .head) (.cons (.tail .head) .nil))
                        · replace g10_7 := of_decide_eq_false g10_7
                          refine .on (t := 72) rfl rfl ?_
                          refine .rd (.fieldAddr fd65_1 rfl) ?_
                          refine .on (t := 72) rfl rfl ?_
                          refine .rd (.ld na9 rfl .head rfl) ?_
                          refine .on (t := 72) rfl rfl ?_
                          refine .rd (.lenT rfl rfl Try.underlying9 rfl) ?_
                          refine .on (t := 72) rfl rfl ?_
                          refine .rd (.gt rfl rfl) ?_
                          refine .rd (.pickF rfl rfl) ?_
                          refine .rd (.assign rfl) ?_
                          refine .nil ?_
                          refine .inBlock ?_
                          refine .region ?_
                          refine .rd (.add rfl rfl (by omega) (by omega)) ?_
                          refine .rd (.move rfl) ?_
                          refine .nil ?_
                          exact (ih (j + 1) ⟨by omega, all_take (p := timely) hr (by show _ ∧ _; omega) hI.2⟩ (by omega)).to (.cons rfl (.cons rfl (.cons rfl (.cons (by rw [any_take hr, g10_1, Bool.false_or, long_r3 (by omega)]; exact congrArg (fun x => some (Value.bool x)) (decide_eq_decide.2 (by omega))) (.cons rfl (.cons rfl (.cons rfl .nil))))))) (.cons (.tail .head) (.cons (.tail .head) .nil))
                  · obtain rfl : j = b.recs.length := by omega
                    have hrt := right_on hno (by have := hI.2; rwa [List.take_length] at this)
                    refine .alter (t := 4) (v' := .bool (b.recs.any long)) rfl (by rw [List.take_length]) ?_
                    refine .exit rfl ?_
                    refine .seq ?_
                    refine .block ?_
                    refine .seq ?_
                    refine .region ?_
                    refine .rd (.move rfl) ?_
                    refine .rd (.gt rfl rfl) ?_
                    refine .rd (.assign rfl) ?_
                    refine .nil ?_
                    refine .condP rfl (fun h12 => ?_) (fun h12 => ?_)
                    · refine .seq ?_
                      refine .region ?_
                      refine .rd (.assign rfl) ?_
                      refine .nil ?_
                      have hv : right b = 3 := by rw [hrt, if_pos (by omega)]
                      rw [hv]
                      refine .retP Try.func16 (.cons (.tmp rfl) .nil) (.cons (.tail .head) .nil) ?_
                      exact ⟨[], ⟨rfl, rfl⟩, rfl⟩
                    · refine .seq ?_
                      refine .region ?_
                      refine .rd (.move rfl) ?_
                      refine .rd (.assign rfl) ?_
                      refine .nil ?_
                      refine .cond rfl (fun h14 => ?_) (fun h14 => ?_)
                      · refine .seq ?_
                        refine .region ?_
                        refine .rd (.assign rfl) ?_
                        refine .nil ?_
                        have hv : right b = 2 := by rw [hrt, if_neg (by omega), if_pos h14]
                        rw [hv]
                        refine .retP Try.func16 (.cons (.tmp rfl) .nil) (.cons (.tail .head) .nil) ?_
                        exact ⟨[], ⟨rfl, rfl⟩, rfl⟩
                      · have hl14 : ¬ b.recs.any long = true := by rw [h14]; decide
                        refine .seq ?_
                        refine .region ?_
                        refine .rd (.fieldAddr fd27_0 rfl) ?_
                        refine .rd (.ld na3 rfl .head rfl) ?_
                        refine .rd (.move rfl) ?_
                        refine .rd (.sub rfl rfl (by omega) (by omega)) ?_
                        refine .rd (.add rfl rfl (by omega) (by omega)) ?_
                        refine .rd (.gt rfl rfl) ?_
                        refine .rd (.move rfl) ?_
                        refine .split (t := 91) rfl (fun g16_6 => ?_) (fun g16_6 => ?_)
                        · replace g16_6 := of_decide_eq_true g16_6
                          refine .off (t := 91) rfl rfl rfl ?_
                          refine .off (t := 91) rfl rfl rfl ?_
                          refine .off (t := 91) rfl rfl rfl ?_
                          refine .off (t := 91) rfl rfl rfl ?_
                          refine .off (t := 91) rfl rfl rfl ?_
                          refine .off (t := 91) rfl rfl rfl ?_
                          refine .rd (.pickT rfl rfl) ?_
                          refine .rd (.assign rfl) ?_
                          refine .nil ?_
                          refine .condT rfl ?_
                          refine .seq ?_
                          refine .region ?_
                          refine .rd (.assign rfl) ?_
                          refine .nil ?_
                          have hv : right b = 20 := by rw [hrt, if_neg (by omega), if_neg hl14, if_pos (by omega)]
                          rw [hv]
                          refine .retP Try.func16 (.cons (.tmp rfl) .nil) (.cons (.tail .head) .nil) ?_
                          exact ⟨[], ⟨rfl, rfl⟩, rfl⟩
                        · replace g16_6 := of_decide_eq_false g16_6
                          refine .on (t := 91) rfl rfl ?_
                          refine .rd (.fieldAddr fd27_4 rfl) ?_
                          refine .on (t := 91) rfl rfl ?_
                          refine .rd (.ld na3 rfl .head rfl) ?_
                          refine .on (t := 91) rfl rfl ?_
                          refine .rd (.move rfl) ?_
                          refine .on (t := 91) rfl rfl ?_
                          refine .rd (.sub rfl rfl (by omega) (by omega)) ?_
                          refine .on (t := 91) rfl rfl ?_
                          refine .rd (.add rfl rfl (by omega) (by omega)) ?_
                          refine .on (t := 91) rfl rfl ?_
                          refine .rd (.gt rfl rfl) ?_
                          refine .rd (.pickF rfl rfl) ?_
                          refine .rd (.assign rfl) ?_
                          refine .nil ?_
                          refine .condP rfl (fun h16 => ?_) (fun h16 => ?_)
                          · refine .seq ?_
                            refine .region ?_
                            refine .rd (.assign rfl) ?_
                            refine .nil ?_
                            have hv : right b = 20 := by rw [hrt, if_neg (by omega), if_neg hl14, if_pos (by omega)]
                            rw [hv]
                            refine .retP Try.func16 (.cons (.tmp rfl) .nil) (.cons (.tail .head) .nil) ?_
                            exact ⟨[], ⟨rfl, rfl⟩, rfl⟩
                          · refine .seq ?_
                            refine .region ?_
                            refine .rd (.ldN ia27 ts27 rfl .head rfl) ?_
                            refine .fn rfl rfl .nil (Knows.pick (.tail .head) k) (body_ok b a c hf (small_of (by omega) hl14)) (fun v G1 hq => ?_)
                            obtain ⟨a', c', rfl, rfl⟩ := hq
                            simp only [List.cons_append, List.nil_append]
                            refine .rd (.lenL rfl rfl Try.underlying81 rfl) ?_
                            refine .rd (.gt rfl rfl) ?_
                            refine .rd (.assign rfl) ?_
                            refine .nil ?_
                            refine .condP rfl (fun h18 => ?_) (fun h18 => ?_)
                            · refine .seq ?_
                              refine .region ?_
                              refine .rd (.assign rfl) ?_
                              refine .nil ?_
                              have hv : right b = 2 := by rw [hrt, if_neg (by omega), if_neg hl14, if_neg (by omega), if_pos (by omega)]
                              rw [hv]
                              refine .retP Try.func16 (.cons (.tmp rfl) .nil) (.cons (.tail (.tail .head)) .nil) ?_
                              exact ⟨[], ⟨rfl, rfl⟩, rfl⟩
                            · refine .skip ?_
                              refine .inBlock ?_
                              refine .seq ?_
                              refine .region ?_
                              refine .rd (.assign rfl) ?_
                              refine .nil ?_
                              have hv : right b = 0 := by rw [hrt, if_neg (by omega), if_neg hl14, if_neg (by omega), if_neg (by omega)]
                              rw [hv]
                              refine .retP Try.func16 (.cons (.tmp rfl) .nil) (.cons (.tail (.tail .head)) .nil) ?_
                              exact ⟨[], ⟨rfl, rfl⟩, rfl⟩
            · replace g2_31 := of_decide_eq_false g2_31
              refine .off (t := 41) rfl rfl rfl ?_
              refine .off (t := 41) rfl rfl rfl ?_
              refine .off (t := 41) rfl rfl rfl ?_
              refine .off (t := 41) rfl rfl rfl ?_
              refine .off (t := 41) rfl rfl rfl ?_
              refine .off (t := 41) rfl rfl rfl ?_
              refine .on (t := 37) rfl rfl ?_
              refine .rd (.pickF rfl rfl) ?_
              refine .rd (.pickF rfl rfl) ?_
              refine .rd (.move rfl) ?_
              refine .on (t := 50) rfl rfl ?_
              refine .rd (.move rfl) ?_
              refine .on (t := 50) rfl rfl ?_
              refine .rd (.eqI rfl rfl) ?_
              refine .rd (.pickF rfl rfl) ?_
              refine .nil ?_
              refine .condP rfl (fun h2 => ?_) (fun h2 => ?_)
              · refine .seq ?_
                refine .region ?_
                refine .rd (.assign rfl) ?_
                refine .nil ?_
                have hq : b.off := by unfold Bat.off; omega
                rw [right_off hq]
                refine .retP Try.func16 (.cons (.tmp rfl) .nil) (.cons (.tail .head) .nil) ?_
                exact ⟨[], ⟨rfl, rfl⟩, rfl⟩
              · have hno : ¬ b.off := by unfold Bat.off; omega
                refine .skip ?_
                refine .seq ?_
                refine .region ?_
                refine .rd (.assign rfl) ?_
                refine .nil ?_
                refine .seq ?_
                refine .seq ?_
                refine .region ?_
                refine .rd (.fieldAddr fd27_5 rfl) ?_
                refine .rd (.ld na25 rfl .head rfl) ?_
                refine .rd (.lenL rfl rfl Try.underlying33 rfl) ?_
                refine .rd (.move rfl) ?_
                refine .nil ?_
                refine .block ?_
                refine .loop (σ := Nat) (fun j => j ≤ b.recs.length ∧ ∀ r ∈ b.recs.take j, timely r) (fun j => b.recs.length - j) (fun j => [(1, .pointer (some ⟨b1, 0, none⟩)), (2, .int .i64 0), (3, .int .i64 b.recs.length), (4, .bool ((b.recs.take j).any long)), (55, .slice a b.recs.length c), (56, .int .i64 b.recs.length), (57, .int .i64 (j : Nat))]) (fun j => [blk b1 (b.cells a c) 52, R]) 0 ⟨Nat.zero_le _, by simp⟩ (.cons rfl (.cons rfl (.cons rfl (.cons rfl (.cons rfl (.cons rfl (.cons rfl .nil))))))) (.cons .head (.cons .head .nil)) (fun j hI ih => ?_)
                have hj := hI.1
                refine .seq ?_
                refine .region ?_
                refine .rd (.lt rfl rfl) ?_
                refine .nil ?_
                refine .seq ?_
                refine .condP rfl (fun h6 => ?_) (fun h6 => ?_)
                · refine .skip ?_
                  refine .seq ?_
                  refine .block ?_
                  refine .seq ?_
                  have hjl : j < b.recs.length := by omega
                  obtain ⟨r, hr⟩ : ∃ r, b.recs[j]? = some r := ⟨_, List.getElem?_eq_getElem hjl⟩
                  have hrm := List.mem_of_getElem? hr
                  have hk1 := hf.key r hrm
                  have hk2 := hf.value r hrm
                  refine .tell (φ := ∃ b o, a = some ⟨b, o, none⟩) (Knows.pick (.tail .head) (k.mono fun _ h => h.addr (by rw [flat_length Rec.cells_len]; omega))) (fun hx => ?_)
                  obtain ⟨bb, oo, rfl⟩ := hx
                  refine .region ?_
                  refine .rd (.indexAddr Try.underlying33 ts65 rfl rfl (by omega) (by omega)) ?_
                  refine .rd (.loadN ia65 ts65 rfl rfl (Knows.elem Rec.cells_len (by decide) (Knows.pick (.tail .head) k) hr)) ?_
                  refine .ef (.alloc ti65 rfl (ones.of rfl)) ?_
                  rintro _ _ ⟨b6, rfl, rfl⟩
                  refine .ef0 (.storeAll (vs := r.cells) ts65 rfl rfl rfl .head rfl (ones.of rfl)) ?_
                  rintro _ _ rfl
                  refine .nil ?_
                  refine .seq ?_
                  refine .seq ?_
                  refine .region ?_
                  refine .rd (.fieldAddr fd65_2 rfl) ?_
                  refine .rd (.ld na3 rfl .head rfl) ?_
                  refine .fn rfl rfl .nil (fun _ _ _ => trivial) (within_ok _ _) (fun v G1 hq => ?_)
                  obtain ⟨rfl, rfl⟩ := hq
                  simp only [List.nil_append]
                  refine .rd (.not rfl) ?_
                  refine .nil ?_
                  refine .condN rfl (fun h8 => ?_) (fun h8 => ?_)
                  · refine .seq ?_
                    refine .region ?_
                    refine .rd (.assign rfl) ?_
                    refine .nil ?_
                    rw [right_time hr (by show ¬ (_ ∧ _); omega)]
                    refine .retP Try.func16 (.cons (.tmp rfl) .nil) (.cons (.tail (.tail .head)) .nil) ?_
                    exact ⟨[], ⟨rfl, rfl⟩, rfl⟩
                  · refine .skip ?_
                    refine .region ?_
                    refine .rd (.move rfl) ?_
                    refine .rd (.move rfl) ?_
                    refine .split (t := 66) rfl (fun g10_1 => ?_) (fun g10_1 => ?_)
                    · refine .off (t := 66) rfl rfl rfl ?_
                      refine .off (t := 66) rfl rfl rfl ?_
                      refine .off (t := 66) rfl rfl rfl ?_
                      refine .off (t := 66) rfl rfl rfl ?_
                      refine .rd (.pickT rfl rfl) ?_
                      refine .rd (.move rfl) ?_
                      refine .off (t := 72) rfl rfl rfl ?_
                      refine .off (t := 72) rfl rfl rfl ?_
                      refine .off (t := 72) rfl rfl rfl ?_
                      refine .off (t := 72) rfl rfl rfl ?_
                      refine .rd (.pickT rfl rfl) ?_
                      refine .rd (.assign rfl) ?_
                      refine .nil ?_
                      refine .inBlock ?_
                      refine .region ?_
                      refine .rd (.add rfl rfl (by omega) (by omega)) ?_
                      refine .rd (.move rfl) ?_
                      refine .nil ?_
                      exact (ih (j + 1) ⟨by omega, all_take (p := timely) hr (by show _ ∧ _; omega) hI.2⟩ (by omega)).to (.cons rfl (.cons rfl (.cons rfl (.cons (by rw [any_take hr, g10_1]; rfl) (.cons rfl (.cons rfl (.cons rfl .nil))))))) (.cons (.tail .head) (.cons (.tail .head) .nil))
                    · refine .on (t := 66) rfl rfl ?_
                      refine .rd (.fieldAddr fd65_0 rfl) ?_
                      refine .on (t := 66) rfl rfl ?_
                      refine .rd (.ld na9 rfl .head rfl) ?_
                      refine .on (t := 66) rfl rfl ?_
                      refine .rd (.lenT rfl rfl Try.underlying9 rfl) ?_
                      refine .on (t := 66) rfl rfl ?_
                      refine .rd (.gt rfl rfl) ?_
                      refine .rd (.pickF rfl rfl) ?_
                      refine .rd (.move rfl) ?_
                      refine .split (t := 72) rfl (fun g10_7 => ?_) (fun g10_7 => ?_)
                      · replace g10_7 := of_decide_eq_true g10_7
                        refine .off (t := 72) rfl rfl rfl ?_
                        refine .off (t := 72) rfl rfl rfl ?_
                        refine .off (t := 72) rfl rfl rfl ?_
                        refine .off (t := 72) rfl rfl rfl ?_
                        refine .rd (.pickT rfl rfl) ?_
                        refine .rd (.assign rfl) ?_
                        refine .nil ?_
                        refine .inBlock ?_
                        refine .region ?_
                        refine .rd (.add rfl rfl (by omega) (by omega)) ?_
                        refine .rd (.move rfl) ?_
                        refine .nil ?_
                        exact (ih (j + 1) ⟨by omega, all_take (p := timely) hr (by show _ ∧ _; omega) hI.2⟩ (by omega)).to (.cons rfl (.cons rfl (.cons rfl (.cons (by rw [any_take hr, g10_1]; show _ = some (Value.bool (false || long r)); rw [show long r = true from (long_iff r).2 (.inl (by omega))]; rfl) (.cons rfl (.cons rfl (.cons rfl .nil))))))) (.cons (.tail .head) (.cons (.tail .head) .nil))
                      · replace g10_7 := of_decide_eq_false g10_7
                        refine .on (t := 72) rfl rfl ?_
                        refine .rd (.fieldAddr fd65_1 rfl) ?_
                        refine .on (t := 72) rfl rfl ?_
                        refine .rd (.ld na9 rfl .head rfl) ?_
                        refine .on (t := 72) rfl rfl ?_
                        refine .rd (.lenT rfl rfl Try.underlying9 rfl) ?_
                        refine .on (t := 72) rfl rfl ?_
                        refine .rd (.gt rfl rfl) ?_
                        refine .rd (.pickF rfl rfl) ?_
                        refine .rd (.assign rfl) ?_
                        refine .nil ?_
                        refine .inBlock ?_
                        refine .region ?_
                        refine .rd (.add rfl rfl (by omega) (by omega)) ?_
                        refine .rd (.move rfl) ?_
                        refine .nil ?_
                        exact (ih (j + 1) ⟨by omega, all_take (p := timely) hr (by show _ ∧ _; omega) hI.2⟩ (by omega)).to (.cons rfl (.cons rfl (.cons rfl (.cons (by rw [any_take hr, g10_1, Bool.false_or, long_r3 (by omega)]; exact congrArg (fun x => some (Value.bool x)) (decide_eq_decide.2 (by omega))) (.cons rfl (.cons rfl (.cons rfl .nil))))))) (.cons (.tail .head) (.cons (.tail .head) .nil))
                · obtain rfl : j = b.recs.length := by omega
                  have hrt := right_on hno (by have := hI.2; rwa [List.take_length] at this)
                  refine .alter (t := 4) (v' := .bool (b.recs.any long)) rfl (by rw [List.take_length]) ?_
                  refine .exit rfl ?_
                  refine .seq ?_
                  refine .block ?_
                  refine .seq ?_
                  refine .region ?_
                  refine .rd (.move rfl) ?_
                  refine .rd (.gt rfl rfl) ?_
                  refine .rd (.assign rfl) ?_
                  refine .nil ?_
                  refine .condP rfl (fun h12 => ?_) (fun h12 => ?_)
                  · refine .seq ?_
                    refine .region ?_
                    refine .rd (.assign rfl) ?_
                    refine .nil ?_
                    have hv : right b = 3 := by rw [hrt, if_pos (by omega)]
                    rw [hv]
                    refine .retP Try.func16 (.cons (.tmp rfl) .nil) (.cons (.tail .head) .nil) ?_
                    exact ⟨[], ⟨rfl, rfl⟩, rfl⟩
                  · refine .seq ?_
                    refine .region ?_
                    refine .rd (.move rfl) ?_
                    refine .rd (.assign rfl) ?_
                    refine .nil ?_
                    refine .cond rfl (fun h14 => ?_) (fun h14 => ?_)
                    · refine .seq ?_
                      refine .region ?_
                      refine .rd (.assign rfl) ?_
                      refine .nil ?_
                      have hv : right b = 2 := by rw [hrt, if_neg (by omega), if_pos h14]
                      rw [hv]
                      refine .retP Try.func16 (.cons (.tmp rfl) .nil) (.cons (.tail .head) .nil) ?_
                      exact ⟨[], ⟨rfl, rfl⟩, rfl⟩
                    · have hl14 : ¬ b.recs.any long = true := by rw [h14]; decide
                      refine .seq ?_
                      refine .region ?_
                      refine .rd (.fieldAddr fd27_0 rfl) ?_
                      refine .rd (.ld na3 rfl .head rfl) ?_
                      refine .rd (.move rfl) ?_
                      refine .rd (.sub rfl rfl (by omega) (by omega)) ?_
                      refine .rd (.add rfl rfl (by omega) (by omega)) ?_
                      refine .rd (.gt rfl rfl) ?_
                      refine .rd (.move rfl) ?_
                      refine .split (t := 91) rfl (fun g16_6 => ?_) (fun g16_6 => ?_)
                      · replace g16_6 := of_decide_eq_true g16_6
                        refine .off (t := 91) rfl rfl rfl ?_
                        refine .off (t := 91) rfl rfl rfl ?_
                        refine .off (t := 91) rfl rfl rfl ?_
                        refine .off (t := 91) rfl rfl rfl ?_
                        refine .off (t := 91) rfl rfl rfl ?_
                        refine .off (t := 91) rfl rfl rfl ?_
                        refine .rd (.pickT rfl rfl) ?_
                        refine .rd (.assign rfl) ?_
                        refine .nil ?_
                        refine .condT rfl ?_
                        refine .seq ?_
                        refine .region ?_
                        refine .rd (.assign rfl) ?_
                        refine .nil ?_
                        have hv : right b = 20 := by rw [hrt, if_neg (by omega), if_neg hl14, if_pos (by omega)]
                        rw [hv]
                        refine .retP Try.func16 (.cons (.tmp rfl) .nil) (.cons (.tail .head) .nil) ?_
                        exact ⟨[], ⟨rfl, rfl⟩, rfl⟩
                      · replace g16_6 := of_decide_eq_false g16_6
                        refine .on (t := 91) rfl rfl ?_
                        refine .rd (.fieldAddr fd27_4 rfl) ?_
                        refine .on (t := 91) rfl rfl ?_
                        refine .rd (.ld na3 rfl .head rfl) ?_
                        refine .on (t := 91) rfl rfl ?_
                        refine .rd (.move rfl) ?_
                        refine .on (t := 91) rfl rfl ?_
                        refine .rd (.sub rfl rfl (by omega) (by omega)) ?_
                        refine .on (t := 91) rfl rfl ?_
                        refine .rd (.add rfl rfl (by omega) (by omega)) ?_
                        refine .on (t := 91) rfl rfl ?_
                        refine .rd (.gt rfl rfl) ?_
                        refine .rd (.pickF rfl rfl) ?_
                        refine .rd (.assign rfl) ?_
                        refine .nil ?_
                        refine .condP rfl (fun h16 => ?_) (fun h16 => ?_)
                        · refine .seq ?_
                          refine .region ?_
                          refine .rd (.assign rfl) ?_
                          refine .nil ?_
                          have hv : right b = 20 := by rw [hrt, if_neg (by omega), if_neg hl14, if_pos (by omega)]
                          rw [hv]
                          refine .retP Try.func16 (.cons (.tmp rfl) .nil) (.cons (.tail .head) .nil) ?_
                          exact ⟨[], ⟨rfl, rfl⟩, rfl⟩
                        · refine .seq ?_
                          refine .region ?_
                          refine .rd (.ldN ia27 ts27 rfl .head rfl) ?_
                          refine .fn rfl rfl .nil (Knows.pick (.tail .head) k) (body_ok b a c hf (small_of (by omega) hl14)) (fun v G1 hq => ?_)
                          obtain ⟨a', c', rfl, rfl⟩ := hq
                          simp only [List.cons_append, List.nil_append]
                          refine .rd (.lenL rfl rfl Try.underlying81 rfl) ?_
                          refine .rd (.gt rfl rfl) ?_
                          refine .rd (.assign rfl) ?_
                          refine .nil ?_
                          refine .condP rfl (fun h18 => ?_) (fun h18 => ?_)
                          · refine .seq ?_
                            refine .region ?_
                            refine .rd (.assign rfl) ?_
                            refine .nil ?_
                            have hv : right b = 2 := by rw [hrt, if_neg (by omega), if_neg hl14, if_neg (by omega), if_pos (by omega)]
                            rw [hv]
                            refine .retP Try.func16 (.cons (.tmp rfl) .nil) (.cons (.tail (.tail .head)) .nil) ?_
                            exact ⟨[], ⟨rfl, rfl⟩, rfl⟩
                          · refine .skip ?_
                            refine .inBlock ?_
                            refine .seq ?_
                            refine .region ?_
                            refine .rd (.assign rfl) ?_
                            refine .nil ?_
                            have hv : right b = 0 := by rw [hrt, if_neg (by omega), if_neg hl14, if_neg (by omega), if_neg (by omega)]
                            rw [hv]
                            refine .retP Try.func16 (.cons (.tmp rfl) .nil) (.cons (.tail (.tail .head)) .nil) ?_
                            exact ⟨[], ⟨rfl, rfl⟩, rfl⟩

end Go.Proofs.Ytlcglmimndkleaa


namespace Go.Proofs.Ytlcglmimndkleaa
open Go Go.Sp

set_option linter.unusedVariables false

namespace prod7
theorem bld52_2_5 (x0 : Int) (x1a : Option Addr) (x1n : Nat) (x1c : Nat) (w : World) : (Instr.build 52 (([2, 5] : List Nat).zip [.int .i64 x0, .slice x1a x1n x1c]).toArray).run Try.prog w = .ok (.agg #[.int .i64 0, .int .i64 0, .int .i64 x0, .int .i64 0, .int .i64 0, .slice x1a x1n x1c]) w := by kernel_rfl
theorem fd60_12 : FD Try.prog 60 12 12 := .of Try.underlying60 (by kernel_rfl)
theorem na3 : NotAgg Try.prog 3 := ⟨_, Try.underlying3, trivial⟩
theorem fd60_7 : FD Try.prog 60 7 7 := .of Try.underlying60 (by kernel_rfl)
theorem na57 : NotAgg Try.prog 57 := ⟨_, Try.underlying57, trivial⟩
theorem bld65_0_1_2 (x0 : Int) (x1 : Int) (x2a : Option Addr) (x2n : Nat) (x2c : Nat) (w : World) : (Instr.build 65 (([0, 1, 2] : List Nat).zip [.int .i64 x0, .int .i64 x1, .slice x2a x2n x2c]).toArray).run Try.prog w = .ok (.agg #[.int .i64 x0, .int .i64 x1, .slice x2a x2n x2c, .int .i64 0, .int .i64 0, .int .i64 0, .bool false]) w := by kernel_rfl
theorem ti62 : TI Try.prog 62 1 8 (.pointer none) := .of (by kernel_rfl)
theorem ts57 : TS Try.prog 57 1 := .of (by kernel_rfl)
theorem ts3 : TS Try.prog 3 1 := .of (by kernel_rfl)
end prod7
open prod7

def bat (t : List UInt8) : Bat := { base := 0, epoch := 0, pid := 1, pidEpoch := 0, seq := 0, recs := [⟨[], t, 0⟩] }
theorem bat_fits {t : List UInt8} (h : t.length ≤ 100) : (bat t).fits where
  base := by show i64 0; unfold i64; omega
  epoch := by show i64 0; unfold i64; omega
  pid := by show i64 1; unfold i64; omega
  pidEpoch := by show i64 0; unfold i64; omega
  seq := by show i64 0; unfold i64; omega
  time := fun r hr => by rw [List.mem_singleton.1 hr]; show i64 0; unfold i64; omega
  key := fun r hr => by rw [List.mem_singleton.1 hr]; exact Nat.zero_le _
  value := fun r hr => by rw [List.mem_singleton.1 hr]; show t.length ≤ _; omega
  len := by show 1 * 40 ≤ _; omega
theorem send_full {s : PS} {now : Int} {t : List UInt8} (h : 20 ≤ s.open_) : send s now t = (s, none, 0, 3) := if_pos h
theorem send_go {s : PS} {now : Int} {t : List UInt8} (h : ¬ 20 ≤ s.open_) : send s now t = ((pump (sendS s t) now).1, (pump (sendS s t) now).2, (s.calls.length : Int) + 1, 0) := if_neg h
theorem pump2_calls (s : PS) (now : Int) : (pump2 s now).1.calls = s.calls := by unfold pump2; split <;> rfl
theorem pump_calls (s : PS) (now : Int) : (pump s now).1.calls.length = s.calls.length := by
  unfold pump
  split
  · rename_i t o e; exact (pump1_keep e).2.2
  · rename_i t e; rw [pump2_calls]; exact (pump1_keep e).2.2
theorem reqR_more {cl : List CallX} {u : Option Req} {rb : Nat} (y : CallX) {h : Hp} (H : sat [reqR cl u rb] h) : reqR (cl ++ [y]) u rb h := by
  obtain ⟨h1, _, _, l, _, H', _⟩ := H
  cases u with
  | none => trivial
  | some r =>
    obtain ⟨q, hq, hb⟩ := H'
    refine ⟨q, ?_, blk_mono l hb⟩
    cases hof : r.of with
    | none => rw [hof] at hq; exact hq
    | some i =>
      rw [hof] at hq
      obtain ⟨z, hz, e⟩ := hq
      exact ⟨z, by rw [List.getElem?_append_left (List.getElem?_eq_some_iff.1 hz).1]; exact hz, e⟩

set_option maxHeartbeats 2000000 in
set_option maxRecDepth 20000 in
theorem send_ok (pb : Nat) (now : Int) (s : PS) (text : List UInt8) (a : Option Addr) (c : Nat) (hB : PB s) (hB2 : s.open_ < 20 → PB (sendS s text)) (hnow : 0 ≤ now ∧ now ≤ 1000000000000) (ht : text.length ≤ 100) (hr0 : right (bat text) = 0) : Cn Try.prog 8 [.pointer (some ⟨pb, 0, none⟩), .int .i64 now, .int .i64 2, .slice a 1 c] (RowAt a (recC text)) [PR pb s] fun v G => ∃ oa oc zs, v = .tuple #[.int .i64 (send s now text).2.2.1, .slice oa zs.length oc, .int .i64 (send s now text).2.2.2] ∧ zs.map (·.o) = (send s now text).2.1.toList ∧ G = [PR pb (send s now text).1, Said oa oc zs, know (SaidK zs)] := by
  refine .enter Try.func8 rfl (by kernel_rfl) rfl fun R k => ?_
  refine .open_ (σ := PX × Nat × List CallX) (φ := fun y => PW s y.2.2) (B := fun y => PL pb s y.1 y.2.1 y.2.2 none 0 0) .head (fun _ h => h) (fun y hW => ?_)
  obtain ⟨x, rb, cl⟩ := y
  dsimp only at hW ⊢
  unfold PL
  simp only [List.cons_append, List.nil_append]
  have hlen := hW.len
  have hmany := hB.many
  obtain ⟨ho1, ho2⟩ := hB.open_
  refine .seq ?_
  refine .region ?_
  refine .rd (.assign rfl) ?_
  refine .rd (.assign rfl) ?_
  refine .rd (.assign rfl) ?_
  refine .nil ?_
  refine .seq ?_
  refine .seq ?_
  refine .region ?_
  refine .rd (.move rfl) ?_
  refine .rd (.lt rfl rfl) ?_
  refine .alter (t := 13) (v' := .bool false) rfl (congrArg Value.bool (by first | rfl | decide)) ?_
  refine .rd (.move rfl) ?_
  refine .on (t := 14) rfl rfl ?_
  refine .rd (.move rfl) ?_
  refine .on (t := 14) rfl rfl ?_
  refine .rd (.gt rfl rfl) ?_
  refine .alter (t := 16) (v' := .bool false) rfl (congrArg Value.bool (by first | rfl | decide)) ?_
  refine .rd (.pickF rfl rfl) ?_
  refine .nil ?_
  refine .condF rfl ?_
  refine .skip ?_
  refine .seq ?_
  refine .seq ?_
  refine .region ?_
  refine .rd (.move rfl) ?_
  refine .rd (.build rfl (bld52_2_5 _ _ _ _)) ?_
  refine .fn rfl rfl .nil (Knows.pick (.tail (.tail (.tail (.tail (.tail (.tail (.tail (.tail (.tail .head))))))))) k) (Right_ok (bat text) a c (bat_fits ht)) (fun v G1 hq => ?_)
  obtain ⟨rfl, rfl⟩ := hq
  simp only [List.nil_append]
  refine .alter (t := 20) (v' := .int .i64 0) rfl (by rw [hr0]) ?_
  refine .rd (.assign rfl) ?_
  refine .nil ?_
  refine .seq ?_
  refine .region ?_
  refine .rd (.move rfl) ?_
  refine .rd (.neI rfl rfl) ?_
  refine .alter (t := 22) (v' := .bool false) rfl (congrArg Value.bool (by first | rfl | decide)) ?_
  refine .nil ?_
  refine .condF rfl ?_
  refine .skip ?_
  refine .seq ?_
  refine .seq ?_
  refine .region ?_
  refine .rd (.move rfl) ?_
  refine .rd (.nilCheck rfl) ?_
  refine .rd (.fieldAddr fd60_12 rfl) ?_
  refine .rd (.ld na3 rfl .head rfl) ?_
  refine .rd (.ge rfl rfl) ?_
  refine .nil ?_
  refine .condP rfl (fun h6 => ?_) (fun h6 => ?_)
  · refine .seq ?_
    refine .region ?_
    refine .rd (.assign rfl) ?_
    refine .rd (.assign rfl) ?_
    refine .rd (.assign rfl) ?_
    refine .nil ?_
    refine .nilArr 32 21 none ?_
    refine .cast (X' := Said none 0 []) (rfl) ?_
    refine .knowT (SaidK []) (fun w z hz => by cases hz) ?_
    refine .close (X := PR pb s) (.cons (.tail (.tail .head)) (.cons (.tail (.tail .head)) (.cons (.tail (.tail .head)) (.cons (.tail (.tail .head)) (.cons (.tail (.tail .head)) (.cons (.tail (.tail .head)) (.cons (.tail (.tail .head)) (.cons (.tail (.tail .head)) (.cons (.tail (.tail .head)) .nil))))))))) (fun _ H => ⟨(x, rb, cl), hW, H⟩) ?_
    rw [send_full h6]
    refine .retP Try.func8 (.cons (.tmp rfl) (.cons (.tmp rfl) (.cons (.tmp rfl) .nil))) (.cons .head (.cons (.tail .head) (.cons .head (.cons .head .nil)))) ?_
    exact ⟨[_, _, _], ⟨none, 0, [], rfl, rfl, rfl⟩, rfl⟩
  · refine .skip ?_
    refine .seq ?_
    refine .draws [4, 8] [blk pb (PS.cells s x none 0 0) 60] (by kernel_rfl) ?_
    refine .rp 0 rfl (by kernel_rfl) (by kernel_rfl) (by kernel_rfl) (Reads.pure (.move rfl)) ?_
    refine .rp 1 rfl (by kernel_rfl) (by kernel_rfl) (by kernel_rfl) (Reads.pure (.move rfl)) ?_
    refine .rp 2 rfl (by kernel_rfl) (by kernel_rfl) (by kernel_rfl) (Reads.pure (.nilCheck rfl)) ?_
    refine .rp 3 rfl (by kernel_rfl) (by kernel_rfl) (by kernel_rfl) (Reads.pure (.fieldAddr fd60_7 rfl)) ?_
    refine .rd 4 rfl rfl (by kernel_rfl) (by kernel_rfl) (by kernel_rfl) (.ld na57 rfl .head rfl) (.cons .head .nil) ?_
    refine .rp 5 rfl (by kernel_rfl) (by kernel_rfl) (by kernel_rfl) (Reads.pure (.move rfl)) ?_
    refine .rp 6 rfl (by kernel_rfl) (by kernel_rfl) (by kernel_rfl) (Reads.pure (.nilCheck rfl)) ?_
    refine .rp 7 rfl (by kernel_rfl) (by kernel_rfl) (by kernel_rfl) (Reads.pure (.fieldAddr fd60_7 rfl)) ?_
    refine .rd 8 rfl rfl (by kernel_rfl) (by kernel_rfl) (by kernel_rfl) (.ld na57 rfl .head rfl) (.cons .head .nil) ?_
    refine .rp 9 rfl (by kernel_rfl) (by kernel_rfl) (by kernel_rfl) (Reads.pure (.lenL rfl rfl Try.underlying57 rfl)) ?_
    refine .rp 10 rfl (by kernel_rfl) (by kernel_rfl) (by kernel_rfl) (Reads.pure (.add rfl rfl (by omega) (by omega))) ?_
    refine .rp 11 rfl (by kernel_rfl) (by kernel_rfl) (by kernel_rfl) (Reads.pure (.move rfl)) ?_
    refine .rp 12 rfl (by kernel_rfl) (by kernel_rfl) (by kernel_rfl) (Reads.pure (.move rfl)) ?_
    refine .ef 13 (by kernel_rfl) rfl (.fn rfl rfl .nil (Knows.pick (.tail (.tail (.tail (.tail (.tail (.tail (.tail (.tail (.tail .head))))))))) (k.mono fun _ h => by simpa using h)) (cloneR_ok a c [text] (by show 1 ≤ _; omega))) ?_
    rintro v _ ⟨G1, hq, rfl⟩
    obtain ⟨ra, rc, rfl, rfl⟩ := hq
    simp only [List.cons_append, List.nil_append]
    refine ⟨.inr ⟨_, (.cons (.tail .head) .nil)⟩, ?_⟩
    refine .rp 14 rfl (by kernel_rfl) (by kernel_rfl) (by kernel_rfl) (Reads.pure (.build rfl (bld65_0_1_2 _ _ _ _ _))) ?_
    refine .ef 15 (by kernel_rfl) rfl (.box0 (l := [.int .i64 ((s.calls.length : Int) + 1), .int .i64 2, .slice ra 1 rc, .int .i64 0, .int .i64 0, .int .i64 0, .bool false]) rfl rfl (ones.of rfl)) ?_
    rintro _ _ ⟨ya, rfl, rfl⟩
    refine ⟨.inr ⟨_, (.cons (.tail (.tail .head)) .nil)⟩, ?_⟩
    refine .ef 16 (by kernel_rfl) rfl (.buildOne (cs := [.pointer (some ⟨ya, 0, none⟩)]) Try.underlying57 ti62 (by decide) rfl rfl rfl (ones.of rfl)) ?_
    rintro _ _ ⟨bu, rfl, rfl⟩
    refine ⟨.inr ⟨_, (.cons (.tail (.tail (.tail .head))) .nil)⟩, ?_⟩
    refine .ef 17 (by kernel_rfl) rfl (.append rfl rfl Try.underlying57 ti62 rfl (ones.of rfl) (by decide) (by decide) rfl rfl (.tail (.tail (.tail (.tail (.tail (.tail (.tail (.tail .head)))))))) (n := s.calls.length) (m := 1) (by rw [flat_length cptr_len, hlen]) (.srcBlk (ys := [.pointer (some ⟨ya, 0, none⟩)]) .head Try.underlying57 rfl (by decide)) (by omega)) ?_
    rintro _ _ ⟨na, nc, rfl, nn, rfl⟩
    refine ⟨.inl (by kernel_rfl), ?_⟩
    refine .rp 18 rfl (by kernel_rfl) (by kernel_rfl) (by kernel_rfl) (Reads.pure (.nilCheck rfl)) ?_
    refine .rp 19 rfl (by kernel_rfl) (by kernel_rfl) (by kernel_rfl) (Reads.pure (.fieldAddr fd60_7 rfl)) ?_
    refine .ef0 20 (by kernel_rfl) rfl (.store ts57 rfl rfl (.tail (.tail (.tail (.tail .head)))) rfl (Nat.le_of_ble_eq_true rfl)) ?_
    rintro _ _ rfl
    refine ⟨.inl (by kernel_rfl), ?_⟩
    refine .done (by kernel_rfl) ?_
    refine .perm (.cons (.tail (.tail (.tail .head))) (.cons .head (.cons .head (.cons .head (.cons .head (.cons .head (.cons .head (.cons .head (.cons .head (.cons .head (.cons .head (.cons .head (.cons .head .nil))))))))))))) ?_
    refine .cast (X' := CB (⟨ya, newCall s text, ra, rc⟩ : CallX)) (rfl) ?_
    refine .tell (φ := ∀ y ∈ cl, y.a ≠ ya) (Knows.fresh (g := CallX.a) (c := CallX.cells) (e' := 65) (l := CallX.cells (⟨ya, newCall s text, ra, rc⟩ : CallX)) (.cons .head (.cons (.tail (.tail (.tail (.tail (.tail .head))))) .nil))) (fun hfr => ?_)
    have hW2 : PW (sendS s text) (cl ++ [(⟨ya, newCall s text, ra, rc⟩ : CallX)]) := ⟨by rw [List.map_append, hW.cls]; rfl, by rw [List.map_append, List.nodup_append]; exact ⟨hW.nodup, by simp, by rintro a ha b hb; simp at hb; obtain ⟨y, hy, rfl⟩ := List.mem_map.1 ha; rw [hb]; exact hfr y hy⟩⟩
    refine .close (X := bag CB (cl ++ [(⟨ya, newCall s text, ra, rc⟩ : CallX)])) (B := [CB (⟨ya, newCall s text, ra, rc⟩ : CallX), bag CB cl]) (.cons .head (.cons (.tail (.tail (.tail (.tail (.tail .head))))) .nil)) (fun _ H => bag.put (List.perm_append_singleton _ _).symm H) ?_
    refine .settle (.tail (.tail (.tail (.tail .head)))) (Settles.arr) ?_
    refine .knowAnd (KN (sendS s text) ({ x with ca := na, cc := nc }) (cl ++ [(⟨ya, newCall s text, ra, rc⟩ : CallX)])) (.cons .head (.cons (.tail (.tail (.tail (.tail (.tail (.tail (.tail (.tail (.tail .head))))))))) .nil)) (fun w h1 h2 => ⟨h2.1, fun y hy => by rcases List.mem_append.1 hy with h | h; exact h2.2 y h; rw [List.mem_singleton.1 h]; show RowAt ra (recC text) w; simpa using h1⟩) ?_
    refine .perm (.cons (.tail (.tail (.tail .head))) (.cons .head (.cons .head (.cons .head (.cons .head (.cons .head (.cons .head (.cons .head (.cons .head (.cons .head (.cons .head .nil))))))))))) ?_
    refine .cast (X' := arr 62 1 na nc ((cl ++ [(⟨ya, newCall s text, ra, rc⟩ : CallX)]).flatMap cptr)) (by rw [List.flatMap_append]; rfl) ?_
    refine .close (X := reqR (cl ++ [(⟨ya, newCall s text, ra, rc⟩ : CallX)]) s.under rb) (.cons (.tail (.tail (.tail (.tail (.tail .head))))) .nil) (fun _ H => reqR_more _ H) ?_
    refine .perm (.cons (.tail (.tail (.tail (.tail .head)))) (.cons .head (.cons .head (.cons .head (.cons .head (.cons .head (.cons .head (.cons .head (.cons .head (.cons .head (.cons .head .nil))))))))))) ?_
    refine .cast (X' := blk pb (PS.cells { s with calls := s.calls ++ [newCall s text] } ({ x with ca := na, cc := nc }) none 0 0) 60) (by unfold PS.cells; simp only [List.length_append]; rfl) ?_
    refine .seq ?_
    refine .region ?_
    refine .rd (.move rfl) ?_
    refine .rd (.nilCheck rfl) ?_
    refine .rd (.fieldAddr fd60_12 rfl) ?_
    refine .rd (.ld na3 rfl .head rfl) ?_
    refine .rd (.add rfl rfl (by show _ ≤ s.open_ + 1; omega) (by show s.open_ + 1 ≤ _; omega)) ?_
    refine .rd (.nilCheck rfl) ?_
    refine .rd (.fieldAddr fd60_12 rfl) ?_
    refine .ef0 (.store ts3 rfl rfl .head rfl (Nat.le_of_ble_eq_true rfl)) ?_
    rintro _ _ rfl
    refine .nil ?_
    refine .cast (X' := blk pb (PS.cells (sendS s text) ({ x with ca := na, cc := nc }) none ([] : List OutX).length 0) 60) (rfl) ?_
    refine .nilArr 32 21 none ?_
    refine .cast (X' := Said none 0 []) (rfl) ?_
    refine .knowT (SaidK []) (fun w z hz => by cases hz) ?_
    refine .seq ?_
    refine .region ?_
    refine .rd (.move rfl) ?_
    refine .rd (.move rfl) ?_
    refine .fn rfl rfl (.cons (.tail (.tail .head)) (.cons (.tail (.tail .head)) (.cons (.tail (.tail (.tail (.tail .head)))) (.cons (.tail (.tail (.tail (.tail (.tail .head))))) (.cons (.tail (.tail (.tail (.tail (.tail .head))))) (.cons (.tail (.tail .head)) (.cons (.tail (.tail (.tail (.tail .head)))) (.cons (.tail .head) (.cons .head (.cons .head .nil)))))))))) (fun _ _ _ => trivial) (pump_ok pb rb now (sendS s text) ({ x with ca := na, cc := nc }) (cl ++ [(⟨ya, newCall s text, ra, rc⟩ : CallX)]) [] none 0 (hB2 (by omega)) hW2 hnow (fun _ => ⟨rfl, rfl, rfl⟩)) (fun v G1 hq => ?_)
    obtain ⟨t2, cl2, ua2, uc2, rb2, zs2, oa2, oc2, hsx2, hPW2, ht2, hzs2, rfl⟩ := hq
    simp only [List.cons_append, List.nil_append]
    refine .nil ?_
    refine .seq ?_
    refine .draws [] [] (by kernel_rfl) ?_
    refine .rp 0 rfl (by kernel_rfl) (by kernel_rfl) (by kernel_rfl) (Reads.pure (.move rfl)) ?_
    refine .rp 1 rfl (by kernel_rfl) (by kernel_rfl) (by kernel_rfl) (Reads.pure (.nilCheck rfl)) ?_
    refine .rp 2 rfl (by kernel_rfl) (by kernel_rfl) (by kernel_rfl) (Reads.pure (.fieldAddr fd60_7 rfl)) ?_
    refine .rp 5 rfl (by kernel_rfl) (by kernel_rfl) (by kernel_rfl) (Reads.pure (.move rfl)) ?_
    refine .all (rs := [3, 6]) (by kernel_rfl) (by simp) (fun i hi => ?_)
    simp only [List.mem_cons, List.not_mem_nil, or_false] at hi
    rcases hi with rfl | rfl
    · refine .rd rfl (.ld na57 rfl .head rfl) .nil ?_
      refine .rp 4 rfl (by kernel_rfl) (by kernel_rfl) (by kernel_rfl) (Reads.pure (.lenL rfl rfl Try.underlying57 rfl)) ?_
      refine .ef 6 (by kernel_rfl) rfl (.fn rfl rfl (.cons .head .nil) (fun _ _ _ => trivial) (said_ok pb t2 ({ x with ca := na, cc := nc, ua := ua2, uc := uc2 }) _ zs2.length oc2)) ?_
      rintro v _ ⟨G1, hq, rfl⟩
      obtain ⟨rfl, rfl⟩ := hq
      simp only [List.cons_append, List.nil_append]
      refine ⟨.inl (by kernel_rfl), ?_⟩
      refine .rp 7 rfl (by kernel_rfl) (by kernel_rfl) (by kernel_rfl) (Reads.pure (.assign rfl)) ?_
      refine .rp 8 rfl (by kernel_rfl) (by kernel_rfl) (by kernel_rfl) (Reads.pure (.assign rfl)) ?_
      refine .rp 9 rfl (by kernel_rfl) (by kernel_rfl) (by kernel_rfl) (Reads.pure (.assign rfl)) ?_
      refine .done (by kernel_rfl) ?_
      have hpk := pump_keep (sendS s text) now
      rw [← ht2] at hpk
      refine .perm (.cons (.tail (.tail (.tail .head))) (.cons .head (.cons .head (.cons .head (.cons .head (.cons .head (.cons .head (.cons .head (.cons .head (.cons .head (.cons .head (.cons .head (.cons .head .nil))))))))))))) ?_
      refine .cast (X' := IM x.ab t2.aims) (by rw [hpk.2.1]; try rfl) ?_
      refine .perm (.cons (.tail (.tail (.tail (.tail .head)))) (.cons .head (.cons .head (.cons .head (.cons .head (.cons .head (.cons .head (.cons .head (.cons .head (.cons .head (.cons .head (.cons .head (.cons .head .nil))))))))))))) ?_
      refine .cast (X' := IM x.nb t2.next) (by rw [hpk.2.2.1]; try rfl) ?_
      refine .perm (.cons (.tail (.tail (.tail (.tail (.tail (.tail (.tail (.tail (.tail (.tail (.tail .head))))))))))) (.cons .head (.cons .head (.cons .head (.cons .head (.cons .head (.cons .head (.cons .head (.cons .head (.cons .head (.cons .head (.cons .head (.cons .head .nil))))))))))))) ?_
      refine .cast (X' := EL t2 ({ x with ca := na, cc := nc, ua := ua2, uc := uc2 })) (by unfold EL; rw [hpk.2.2.2]; try rfl) ?_
      refine .perm (.cons (.tail (.tail (.tail (.tail (.tail (.tail .head)))))) (.cons .head (.cons .head (.cons .head (.cons .head (.cons .head (.cons .head (.cons .head (.cons .head (.cons .head (.cons .head (.cons .head (.cons .head .nil))))))))))))) ?_
      refine .cast (X' := RowC ({ x with ca := na, cc := nc, ua := ua2, uc := uc2 }) cl2) (by unfold RowC; rw [hsx2.ptrs]) ?_
      refine .knowMono (KN t2 ({ x with ca := na, cc := nc, ua := ua2, uc := uc2 }) cl2) (.tail (.tail (.tail (.tail (.tail (.tail (.tail (.tail (.tail (.tail .head)))))))))) (fun w h => ⟨hpk.1 ▸ (SameX.kn hsx2 h).1, (SameX.kn hsx2 h).2⟩) ?_
      obtain ⟨X, hX⟩ : ∃ X : PX, X = { x with ca := na, cc := nc, ua := ua2, uc := uc2 } := ⟨_, rfl⟩
      refine .close (X := PR pb t2) (.cons (.tail (.tail (.tail (.tail (.tail .head))))) (.cons (.tail (.tail (.tail (.tail (.tail .head))))) (.cons (.tail (.tail (.tail (.tail (.tail .head))))) (.cons (.tail (.tail (.tail (.tail .head)))) (.cons (.tail (.tail (.tail .head))) (.cons (.tail .head) (.cons (.tail (.tail .head)) (.cons (.tail .head) (.cons .head .nil))))))))) (fun _ H => ⟨(X, rb2, cl2), hPW2, by rw [hX]; exact H⟩) ?_
      have hcl2 : t2.calls.length = s.calls.length + 1 := by rw [ht2, pump_calls]; show (s.calls ++ [_]).length = _; simp
      refine .alter (t := 8) (v' := .int .i64 ((s.calls.length : Int) + 1)) rfl (by rw [hcl2]; rfl) ?_
      rw [send_go h6]
      refine .retP Try.func8 (.cons (.tmp rfl) (.cons (.tmp rfl) (.cons (.tmp rfl) .nil))) (.cons .head (.cons .head (.cons .head (.cons (.tail .head) .nil)))) ?_
      exact ⟨[_, _, _], ⟨oa2, oc2, zs2, rfl, by simpa using hzs2, by rw [← ht2]; rfl⟩, rfl⟩
    · refine .ef rfl (.fn rfl rfl (.cons .head .nil) (fun _ _ _ => trivial) (said_ok pb t2 ({ x with ca := na, cc := nc, ua := ua2, uc := uc2 }) _ zs2.length oc2)) ?_
      rintro v _ ⟨G1, hq, rfl⟩
      obtain ⟨rfl, rfl⟩ := hq
      simp only [List.cons_append, List.nil_append]
      refine ⟨.inl (by kernel_rfl), ?_⟩
      refine .rs (Δ := []) 3 (by kernel_rfl) rfl (.ld na57 rfl .head rfl) (.inl (by kernel_rfl)) ?_
      refine .rp 4 rfl (by kernel_rfl) (by kernel_rfl) (by kernel_rfl) (Reads.pure (.lenL rfl rfl Try.underlying57 rfl)) ?_
      refine .rp 7 rfl (by kernel_rfl) (by kernel_rfl) (by kernel_rfl) (Reads.pure (.assign rfl)) ?_
      refine .rp 8 rfl (by kernel_rfl) (by kernel_rfl) (by kernel_rfl) (Reads.pure (.assign rfl)) ?_
      refine .rp 9 rfl (by kernel_rfl) (by kernel_rfl) (by kernel_rfl) (Reads.pure (.assign rfl)) ?_
      refine .done (by kernel_rfl) ?_
      have hpk := pump_keep (sendS s text) now
      rw [← ht2] at hpk
      refine .perm (.cons (.tail (.tail (.tail .head))) (.cons .head (.cons .head (.cons .head (.cons .head (.cons .head (.cons .head (.cons .head (.cons .head (.cons .head (.cons .head (.cons .head (.cons .head .nil))))))))))))) ?_
      refine .cast (X' := IM x.ab t2.aims) (by rw [hpk.2.1]; try rfl) ?_
      refine .perm (.cons (.tail (.tail (.tail (.tail .head)))) (.cons .head (.cons .head (.cons .head (.cons .head (.cons .head (.cons .head (.cons .head (.cons .head (.cons .head (.cons .head (.cons .head (.cons .head .nil))))))))))))) ?_
      refine .cast (X' := IM x.nb t2.next) (by rw [hpk.2.2.1]; try rfl) ?_
      refine .perm (.cons (.tail (.tail (.tail (.tail (.tail (.tail (.tail (.tail (.tail (.tail (.tail .head))))))))))) (.cons .head (.cons .head (.cons .head (.cons .head (.cons .head (.cons .head (.cons .head (.cons .head (.cons .head (.cons .head (.cons .head (.cons .head .nil))))))))))))) ?_
      refine .cast (X' := EL t2 ({ x with ca := na, cc := nc, ua := ua2, uc := uc2 })) (by unfold EL; rw [hpk.2.2.2]; try rfl) ?_
      refine .perm (.cons (.tail (.tail (.tail (.tail (.tail (.tail .head)))))) (.cons .head (.cons .head (.cons .head (.cons .head (.cons .head (.cons .head (.cons .head (.cons .head (.cons .head (.cons .head (.cons .head (.cons .head .nil))))))))))))) ?_
      refine .cast (X' := RowC ({ x with ca := na, cc := nc, ua := ua2, uc := uc2 }) cl2) (by unfold RowC; rw [hsx2.ptrs]) ?_
      refine .knowMono (KN t2 ({ x with ca := na, cc := nc, ua := ua2, uc := uc2 }) cl2) (.tail (.tail (.tail (.tail (.tail (.tail (.tail (.tail (.tail (.tail .head)))))))))) (fun w h => ⟨hpk.1 ▸ (SameX.kn hsx2 h).1, (SameX.kn hsx2 h).2⟩) ?_
      obtain ⟨X, hX⟩ : ∃ X : PX, X = { x with ca := na, cc := nc, ua := ua2, uc := uc2 } := ⟨_, rfl⟩
      refine .close (X := PR pb t2) (.cons (.tail (.tail (.tail (.tail (.tail .head))))) (.cons (.tail (.tail (.tail (.tail (.tail .head))))) (.cons (.tail (.tail (.tail (.tail (.tail .head))))) (.cons (.tail (.tail (.tail (.tail .head)))) (.cons (.tail (.tail (.tail .head))) (.cons (.tail .head) (.cons (.tail (.tail .head)) (.cons (.tail .head) (.cons .head .nil))))))))) (fun _ H => ⟨(X, rb2, cl2), hPW2, by rw [hX]; exact H⟩) ?_
      have hcl2 : t2.calls.length = s.calls.length + 1 := by rw [ht2, pump_calls]; show (s.calls ++ [_]).length = _; simp
      refine .alter (t := 8) (v' := .int .i64 ((s.calls.length : Int) + 1)) rfl (by rw [hcl2]; rfl) ?_
      rw [send_go h6]
      refine .retP Try.func8 (.cons (.tmp rfl) (.cons (.tmp rfl) (.cons (.tmp rfl) .nil))) (.cons .head (.cons .head (.cons .head (.cons (.tail .head) .nil)))) ?_
      exact ⟨[_, _, _], ⟨oa2, oc2, zs2, rfl, by simpa using hzs2, by rw [← ht2]; rfl⟩, rfl⟩

end Go.Proofs.Ytlcglmimndkleaa


namespace Go.Proofs.Ytlcglmimndkleaa
open Go Go.Sp

set_option linter.unusedVariables false

namespace prod6
theorem kl3 : KL Try.prog 3 (fun n : Int => Value.int .i64 n) := .int Try.underlying3
theorem fd71_3 : FD Try.prog 71 3 3 := .of Try.underlying71 (by kernel_rfl)
theorem na3 : NotAgg Try.prog 3 := ⟨_, Try.underlying3, trivial⟩
theorem fd71_2 : FD Try.prog 71 2 2 := .of Try.underlying71 (by kernel_rfl)
theorem na24 : NotAgg Try.prog 24 := ⟨_, Try.underlying24, trivial⟩
theorem fd71_1 : FD Try.prog 71 1 1 := .of Try.underlying71 (by kernel_rfl)
theorem fd60_9 : FD Try.prog 60 9 9 := .of Try.underlying60 (by kernel_rfl)
theorem na56 : NotAgg Try.prog 56 := ⟨_, Try.underlying56, trivial⟩
theorem fd60_10 : FD Try.prog 60 10 10 := .of Try.underlying60 (by kernel_rfl)
theorem na58 : NotAgg Try.prog 58 := ⟨_, Try.underlying58, trivial⟩
theorem ts58 : TS Try.prog 58 1 := .of (by kernel_rfl)
end prod6
open prod6

def TickQ (pb rb : Nat) (now : Int) (s : PS) (x : PX) (cl : List CallX) (r : Req) (q : Option Nat) (b : Bool) (X : SProp) : Prop := ∃ (t : PS) (r' : Option Req) (o : Option Out) (r2 : Req) (cl' : List CallX) (ea : Option Addr) (ec : Nat) (zs : List OutX) (oa : Option Addr) (oc : Nat), due s now r = (t, r', o) ∧ b = r'.isNone ∧ SameX cl cl' ∧ PW t cl' ∧ zs.map (·.o) = o.toList ∧ (∀ a, r' = some a → a = r2) ∧ (b = true → zs = [] ∧ oa = none ∧ oc = 0) ∧ X = pk [blk pb (PS.cells t ({ x with ea := ea, ec := ec }) oa zs.length oc) 60, blk rb (Req.cells r2 q) 71, bag CB cl', IM x.ab (PS.aims t), RowC x cl', EL t ({ x with ea := ea, ec := ec }), know (KN s x cl'), Said oa oc zs, know (SaidK zs)]
theorem due_no {s : PS} {now : Int} {r : Req} (h : now < r.deadline) : due s now r = (s, some r, none) := if_pos h
theorem due_end {s : PS} {now : Int} {r : Req} (h : ¬ now < r.deadline) (h2 : r.tries = 0) : due s now r = (endsS s r.of 21, none, none) := by unfold due; rw [if_neg h, if_pos h2]
theorem due_ask {s : PS} {now : Int} {r : Req} (h : ¬ now < r.deadline) (h2 : ¬ r.tries = 0) : due s now r = (askS (moved s r), some (askR (moved s r) now r), some (askO (moved s r) now r (callOf s r))) := by unfold due; rw [if_neg h, if_neg h2]
theorem due_keep (s : PS) (now : Int) (r : Req) : (due s now r).1.next = s.next ∧ (due s now r).1.brokers = s.brokers := by
  unfold due
  split
  · exact ⟨rfl, rfl⟩
  · split
    · obtain ⟨f, c, o, e, h⟩ := endsS_keep s r.of 21; rw [h]; exact ⟨rfl, rfl⟩
    · obtain ⟨a, e⟩ := moved_eq s r; rw [e]; exact ⟨rfl, rfl⟩
theorem due_of {s t : PS} {now : Int} {r a : Req} {o : Option Out} (hd : due s now r = (t, some a, o)) : a.of = r.of := by
  unfold due at hd
  split at hd
  · cases hd; rfl
  · split at hd
    · cases hd
    · cases hd; rfl
def tickMid (s : PS) (now : Int) : PS := match s.under with
  | none => s
  | some r => { (due s now r).1 with under := (due s now r).2.1 }
theorem tick_some {s t : PS} {now : Int} {r : Req} {r' : Option Req} {o : Option Out} (hu : s.under = some r) (hd : due s now r = (t, r', o)) : (tick s now).1 = (pump { t with under := r' } now).1 ∧ (tick s now).2.toList = o.toList ++ (pump { t with under := r' } now).2.toList := by
  have ht : tick s now = match due s now r with
    | (t, r', some o) => ({ t with under := r' }, some o)
    | (t, r', none) => pump { t with under := r' } now := by unfold tick; rw [hu]; rfl
  rw [ht, hd]
  cases o with
  | none => exact ⟨rfl, rfl⟩
  | some o =>
    have : ∃ a, r' = some a := by
      unfold due at hd
      split at hd
      · cases hd
      · split at hd
        · cases hd
        · cases hd; exact ⟨_, rfl⟩
    obtain ⟨a, rfl⟩ := this
    rw [pump_busy (r := a) rfl]; exact ⟨rfl, rfl⟩
theorem tick_none {s : PS} {now : Int} (hu : s.under = none) : tick s now = pump s now := by unfold tick; rw [hu]

set_option maxHeartbeats 2000000 in
set_option maxRecDepth 20000 in
theorem tick1_ok (pb rb b3 b2 : Nat) (now : Int) (s : PS) (x : PX) (cl : List CallX) (r : Req) (q : Option Nat) (hB : PB s) (hW : PW s cl) (hof : ofAt cl r.of q) (hnow : 0 ≤ now ∧ now ≤ 1000000000000) (hr : 0 ≤ r.tries ∧ r.tries ≤ 1000) : Cn Try.prog 21 [.pointer (some ⟨rb, 0, none⟩), .pointer (some ⟨b3, 0, none⟩), .pointer (some ⟨b2, 0, none⟩)] (fun w => CellsAt b3 0 [.int .i64 now] w ∧ CellsAt b2 0 [.pointer (some ⟨pb, 0, none⟩)] w) [pk [blk pb (PS.cells s x none 0 0) 60, blk rb (Req.cells r q) 71, bag CB cl, IM x.ab (PS.aims s), RowC x cl, EL s x, know (KN s x cl)]] fun v G => ∃ b X, v = .bool b ∧ TickQ pb rb now s x cl r q b X ∧ G = [X] := by
  refine .enter Try.func21 rfl (by kernel_rfl) rfl fun R k => ?_
  refine .unpack .head ?_
  simp only [List.cons_append, List.nil_append]
  refine .seq ?_
  refine .region ?_
  refine .rd (.assign rfl) ?_
  refine .nil ?_
  refine .seq ?_
  refine .block ?_
  refine .seq ?_
  refine .draws [3, 4] [blk rb (Req.cells r q) 71, R] (by kernel_rfl) ?_
  refine .rp 0 rfl (by kernel_rfl) (by kernel_rfl) (by kernel_rfl) (Reads.pure (.move rfl)) ?_
  refine .rp 1 rfl (by kernel_rfl) (by kernel_rfl) (by kernel_rfl) (Reads.pure (.nilCheck rfl)) ?_
  refine .rp 2 rfl (by kernel_rfl) (by kernel_rfl) (by kernel_rfl) (Reads.pure (.fieldAddr fd71_3 rfl)) ?_
  refine .rd 3 rfl rfl (by kernel_rfl) (by kernel_rfl) (by kernel_rfl) (.ld na3 rfl .head rfl) (.cons (.tail .head) (.cons (.tail (.tail (.tail (.tail (.tail (.tail .head)))))) .nil)) ?_
  refine .rd 4 rfl rfl (by kernel_rfl) (by kernel_rfl) (by kernel_rfl) (.load na3 rfl (Knows.one (i := 0) (Knows.pick (.tail .head) (k.mono fun _ h => h.1)) rfl)) (.cons (.tail .head) (.cons (.tail (.tail (.tail (.tail (.tail (.tail .head)))))) .nil)) ?_
  refine .rp 5 rfl (by kernel_rfl) (by kernel_rfl) (by kernel_rfl) (Reads.pure (.gt rfl rfl)) ?_
  refine .rp 6 rfl (by kernel_rfl) (by kernel_rfl) (by kernel_rfl) (Reads.pure (.assign rfl)) ?_
  refine .done (by kernel_rfl) ?_
  refine .condP rfl (fun h1 => ?_) (fun h1 => ?_)
  · refine .seq ?_
    refine .region ?_
    refine .rd (.assign rfl) ?_
    refine .nil ?_
    refine .nilArr 32 21 none ?_
    refine .cast (X' := Said none 0 []) (rfl) ?_
    refine .knowT (SaidK []) (fun w z hz => by cases hz) ?_
    refine .pack (L := [blk pb (PS.cells s x none ([] : List OutX).length 0) 60, blk rb (Req.cells r q) 71, bag CB cl, IM x.ab (PS.aims s), RowC x cl, EL s x, know (KN s x cl), Said none 0 [], know (SaidK [])]) (.cons (.tail (.tail .head)) (.cons (.tail (.tail .head)) (.cons (.tail (.tail .head)) (.cons (.tail (.tail .head)) (.cons (.tail (.tail .head)) (.cons (.tail (.tail .head)) (.cons (.tail (.tail .head)) (.cons (.tail .head) (.cons .head .nil))))))))) ?_
    refine .retP Try.func21 (.cons (.tmp rfl) .nil) (.cons .head (.cons .head .nil)) ?_
    exact ⟨[_], ⟨false, _, rfl, ⟨_, _, _, r, cl, x.ea, x.ec, [], none, 0, due_no h1, rfl, .refl cl, hW, rfl, (fun a ha => by cases ha; rfl), (fun hb => by cases hb), rfl⟩, rfl⟩, rfl⟩
  · refine .seq ?_
    refine .region ?_
    refine .rd (.move rfl) ?_
    refine .rd (.nilCheck rfl) ?_
    refine .rd (.fieldAddr fd71_2 rfl) ?_
    refine .rd (.ld na3 rfl (.tail .head) rfl) ?_
    refine .rd (.eqI rfl rfl) ?_
    refine .rd (.assign rfl) ?_
    refine .nil ?_
    refine .condP rfl (fun h3 => ?_) (fun h3 => ?_)
    · refine .seq ?_
      refine .region ?_
      refine .rd (.load na24 rfl (Knows.one (i := 0) (Knows.pick (.tail (.tail (.tail (.tail (.tail (.tail (.tail .head))))))) (k.mono fun _ h => h.2)) rfl)) ?_
      refine .rd (.move rfl) ?_
      refine .fn rfl rfl (.cons .head (.cons .head (.cons .head (.cons (.tail .head) (.cons (.tail .head) (.cons (.tail .head) .nil)))))) (fun _ _ _ => trivial) (ends_ok pb rb s x none 0 0 cl r q 21 hB hW hof) (fun v G1 hq => ?_)
      obtain ⟨cl', ea, ec, hsx, hPW, rfl⟩ := hq
      simp only [List.cons_append, List.nil_append]
      refine .nil ?_
      refine .seq ?_
      refine .region ?_
      refine .rd (.assign rfl) ?_
      refine .nil ?_
      refine .nilArr 32 21 none ?_
      refine .cast (X' := Said none 0 []) (rfl) ?_
      refine .knowT (SaidK []) (fun w z hz => by cases hz) ?_
      refine .perm (.cons (.tail (.tail (.tail (.tail (.tail .head))))) (.cons .head (.cons .head (.cons .head (.cons .head (.cons .head (.cons .head (.cons .head (.cons .head (.cons .head .nil)))))))))) ?_
      refine .cast (X' := RowC x cl') (by unfold RowC; rw [hsx.ptrs]) ?_
      refine .perm (.cons (.tail (.tail (.tail (.tail (.tail (.tail (.tail (.tail .head)))))))) (.cons .head (.cons .head (.cons .head (.cons .head (.cons .head (.cons .head (.cons .head (.cons .head (.cons .head .nil)))))))))) ?_
      refine .cast (X' := IM x.ab (PS.aims (endsS s r.of 21))) (by obtain ⟨f, c, o, e, h⟩ := endsS_keep s r.of 21; rw [h]) ?_
      refine .perm (.cons (.tail (.tail (.tail (.tail (.tail (.tail (.tail .head))))))) (.cons .head (.cons .head (.cons .head (.cons .head (.cons .head (.cons .head (.cons .head (.cons .head (.cons .head .nil)))))))))) ?_
      refine .cast (X' := EL (endsS s r.of 21) ({ x with ea := ea, ec := ec })) (rfl) ?_
      refine .perm (.cons (.tail (.tail (.tail (.tail (.tail .head))))) (.cons .head (.cons .head (.cons .head (.cons .head (.cons .head (.cons .head (.cons .head (.cons .head (.cons .head .nil)))))))))) ?_
      refine .cast (X' := blk pb (PS.cells (endsS s r.of 21) ({ x with ea := ea, ec := ec }) none ([] : List OutX).length 0) 60) (rfl) ?_
      refine .pack (L := [blk pb (PS.cells (endsS s r.of 21) ({ x with ea := ea, ec := ec }) none ([] : List OutX).length 0) 60, blk rb (Req.cells r q) 71, bag CB cl', IM x.ab (PS.aims (endsS s r.of 21)), RowC x cl', EL (endsS s r.of 21) ({ x with ea := ea, ec := ec }), know (KN s x cl'), Said none 0 [], know (SaidK [])]) (.cons .head (.cons (.tail (.tail (.tail (.tail (.tail .head))))) (.cons (.tail (.tail (.tail (.tail (.tail .head))))) (.cons (.tail .head) (.cons (.tail .head) (.cons .head (.cons (.tail (.tail .head)) (.cons (.tail .head) (.cons .head .nil))))))))) ?_
      refine .retP Try.func21 (.cons (.tmp rfl) .nil) (.cons .head (.cons .head .nil)) ?_
      exact ⟨[_], ⟨true, _, rfl, ⟨_, _, _, r, cl', ea, ec, [], none, 0, due_end h1 h3, rfl, hsx, hPW, rfl, (fun a ha => by cases ha), (fun _ => ⟨rfl, rfl, rfl⟩), rfl⟩, rfl⟩, rfl⟩
    · have htr : 1 ≤ r.tries ∧ r.tries ≤ 1000 := by omega
      refine .skip ?_
      refine .inBlock ?_
      refine .seq ?_
      refine .seq ?_
      refine .draws [3, 4] [R, blk rb (Req.cells r q) 71] (by kernel_rfl) ?_
      refine .rp 0 rfl (by kernel_rfl) (by kernel_rfl) (by kernel_rfl) (Reads.pure (.move rfl)) ?_
      refine .rp 1 rfl (by kernel_rfl) (by kernel_rfl) (by kernel_rfl) (Reads.pure (.nilCheck rfl)) ?_
      refine .rp 2 rfl (by kernel_rfl) (by kernel_rfl) (by kernel_rfl) (Reads.pure (.fieldAddr fd71_1 rfl)) ?_
      refine .rd 3 rfl rfl (by kernel_rfl) (by kernel_rfl) (by kernel_rfl) (.ld na3 rfl (.tail .head) rfl) (.cons (.tail (.tail (.tail (.tail (.tail (.tail (.tail .head))))))) (.cons (.tail .head) .nil)) ?_
      refine .rd 4 rfl rfl (by kernel_rfl) (by kernel_rfl) (by kernel_rfl) (.load na24 rfl (Knows.one (i := 0) (Knows.pick .head (k.mono fun _ h => h.2)) rfl)) (.cons (.tail (.tail (.tail (.tail (.tail (.tail (.tail .head))))))) (.cons (.tail .head) .nil)) ?_
      refine .rp 5 rfl (by kernel_rfl) (by kernel_rfl) (by kernel_rfl) (Reads.pure (.move rfl)) ?_
      refine .ef 6 (by kernel_rfl) rfl (.fn rfl rfl .nil (fun A w h => ⟨(Knows.one (i := 4) (Knows.blk (.tail .head)) rfl) A w h, (Knows.part (.tail (.tail .head)) hof) A w h⟩) (part_ok rb q)) ?_
      rintro v _ ⟨G1, hq, rfl⟩
      obtain ⟨rfl, rfl⟩ := hq
      simp only [List.nil_append]
      refine ⟨.inr ⟨_, (.cons (.tail (.tail (.tail (.tail (.tail (.tail (.tail .head))))))) (.cons (.tail .head) .nil))⟩, ?_⟩
      refine .alter (t := 27) (v' := .int .i64 (partOf r)) rfl (by rw [partOf_q hof]) ?_
      refine .ef 7 (by kernel_rfl) rfl (.fn rfl rfl (.cons (.tail (.tail (.tail .head))) .nil) (fun A w h => ⟨(Knows.blk .head) A w h, ((Knows.know (.tail (.tail (.tail (.tail (.tail .head)))))) A w h).1⟩) (aim_ok pb s x none 0 0 (partOf r) hB.bne)) ?_
      rintro v _ ⟨G1, hq, rfl⟩
      obtain ⟨rfl, rfl⟩ := hq
      simp only [List.cons_append, List.nil_append]
      refine ⟨.inr ⟨_, (.cons (.tail (.tail (.tail (.tail (.tail (.tail (.tail .head))))))) (.cons (.tail (.tail .head)) .nil))⟩, ?_⟩
      refine .rp 8 rfl (by kernel_rfl) (by kernel_rfl) (by kernel_rfl) (Reads.pure (.eqI rfl rfl)) ?_
      refine .done (by kernel_rfl) ?_
      refine .joinAt (E' := [(0, .pointer (some ⟨rb, 0, none⟩)), (1, .pointer (some ⟨b3, 0, none⟩)), (2, .pointer (some ⟨b2, 0, none⟩))]) (Γ' := [blk pb (PS.cells (moved s r) x none 0 0) 60, blk rb (Req.cells r q) 71, bag CB cl, IM x.ab (PS.aims (moved s r)), RowC x cl, EL s x, know (KN (moved s r) x cl), R]) ?_ (fun fin => ?_)
      · refine .seq ?_
        refine .region ?_
        refine .rd (.load na24 rfl (Knows.one (i := 0) (Knows.pick (.tail (.tail (.tail (.tail (.tail (.tail (.tail .head))))))) (k.mono fun _ h => h.2)) rfl)) ?_
        refine .rd (.load na3 rfl (Knows.one (i := 0) (Knows.pick (.tail (.tail (.tail (.tail (.tail (.tail (.tail .head))))))) (k.mono fun _ h => h.1)) rfl)) ?_
        refine .rd (.move rfl) ?_
        refine .fn rfl rfl (.cons .head (.cons .head (.cons .head (.cons .head (.cons (.tail (.tail .head)) .nil))))) (fun _ _ _ => trivial) (ask_ok pb rb now (moved s r) x cl r q (hB.moved r) (hW.moved r) hof hnow htr) (fun v G1 hq => ?_)
        obtain ⟨z, oa, oc, hz, rfl⟩ := hq
        simp only [List.cons_append, List.nil_append]
        refine .nil ?_
        refine .seq ?_
        refine .region ?_
        refine .rd (.assign rfl) ?_
        refine .nil ?_
        refine .perm (.cons (.tail (.tail (.tail (.tail (.tail .head))))) (.cons .head (.cons .head (.cons .head (.cons .head (.cons .head (.cons .head (.cons .head (.cons .head (.cons .head .nil)))))))))) ?_
        refine .cast (X' := Said oa oc [z]) (by unfold Said; simp) ?_
        refine .knowMono (SaidK [z]) (.tail (.tail (.tail (.tail (.tail (.tail .head)))))) (fun w h z' hz' => by rcases List.mem_singleton.1 hz' with rfl; exact h) ?_
        refine .perm (.cons (.tail (.tail (.tail (.tail (.tail (.tail .head)))))) (.cons .head (.cons .head (.cons .head (.cons .head (.cons .head (.cons .head (.cons .head (.cons .head (.cons .head .nil)))))))))) ?_
        refine .cast (X' := know (KN s x cl)) (by rw [moved_kn]) ?_
        refine .perm (.cons (.tail (.tail (.tail (.tail (.tail (.tail (.tail (.tail .head)))))))) (.cons .head (.cons .head (.cons .head (.cons .head (.cons .head (.cons .head (.cons .head (.cons .head (.cons .head .nil)))))))))) ?_
        refine .cast (X' := EL (askS (moved s r)) x) (by obtain ⟨a, e⟩ := moved_eq s r; rw [e]; rfl) ?_
        refine .perm (.cons (.tail (.tail (.tail (.tail (.tail (.tail (.tail .head))))))) (.cons .head (.cons .head (.cons .head (.cons .head (.cons .head (.cons .head (.cons .head (.cons .head (.cons .head .nil)))))))))) ?_
        refine .cast (X' := IM x.ab (PS.aims (askS (moved s r)))) (rfl) ?_
        refine .perm (.cons (.tail (.tail (.tail (.tail (.tail .head))))) (.cons .head (.cons .head (.cons .head (.cons .head (.cons .head (.cons .head (.cons .head (.cons .head (.cons .head .nil)))))))))) ?_
        refine .cast (X' := blk pb (PS.cells (askS (moved s r)) x oa [z].length oc) 60) (rfl) ?_
        refine .pack (L := [blk pb (PS.cells (askS (moved s r)) x oa [z].length oc) 60, blk rb (Req.cells (askR (moved s r) now r) q) 71, bag CB cl, IM x.ab (PS.aims (askS (moved s r))), RowC x cl, EL (askS (moved s r)) x, know (KN s x cl), Said oa oc [z], know (SaidK [z])]) (.cons .head (.cons (.tail (.tail (.tail (.tail (.tail .head))))) (.cons (.tail (.tail (.tail (.tail (.tail .head))))) (.cons .head (.cons (.tail (.tail (.tail (.tail .head)))) (.cons .head (.cons .head (.cons (.tail .head) (.cons .head .nil))))))))) ?_
        refine .retP Try.func21 (.cons (.tmp rfl) .nil) (.cons .head (.cons .head .nil)) ?_
        exact ⟨[_], ⟨false, _, rfl, ⟨_, _, _, (askR (moved s r) now r), cl, x.ea, x.ec, [z], oa, oc, due_ask h1 h3, rfl, .refl cl, { hW.moved r with }, (by simp only [List.map_cons, List.map_nil, Option.toList_some]; rw [hz, moved_callAt]; rfl), (fun a ha => by cases ha; rfl), (fun hb => by cases hb), rfl⟩, rfl⟩, rfl⟩
      · refine .condP rfl (fun h6 => ?_) (fun h6 => ?_)
        · refine .draws [0, 3, 6, 10] [R, blk pb (PS.cells s x none 0 0) 60, blk rb (Req.cells r q) 71] (by kernel_rfl) ?_
          refine .rd 0 rfl rfl (by kernel_rfl) (by kernel_rfl) (by kernel_rfl) (.load na24 rfl (Knows.one (i := 0) (Knows.pick .head (k.mono fun _ h => h.2)) rfl)) (.cons (.tail (.tail (.tail (.tail (.tail (.tail (.tail .head))))))) (.cons (.tail .head) (.cons (.tail .head) .nil))) ?_
          refine .rp 1 rfl (by kernel_rfl) (by kernel_rfl) (by kernel_rfl) (Reads.pure (.nilCheck rfl)) ?_
          refine .rp 2 rfl (by kernel_rfl) (by kernel_rfl) (by kernel_rfl) (Reads.pure (.fieldAddr fd60_9 rfl)) ?_
          refine .rd 3 rfl rfl (by kernel_rfl) (by kernel_rfl) (by kernel_rfl) (.ld na56 rfl (.tail .head) rfl) (.cons (.tail (.tail (.tail (.tail (.tail (.tail (.tail .head))))))) (.cons (.tail .head) (.cons (.tail .head) .nil))) ?_
          refine .rp 4 rfl (by kernel_rfl) (by kernel_rfl) (by kernel_rfl) (Reads.pure (.move rfl)) ?_
          refine .rd 6 rfl rfl (by kernel_rfl) (by kernel_rfl) (by kernel_rfl) (.load na24 rfl (Knows.one (i := 0) (Knows.pick .head (k.mono fun _ h => h.2)) rfl)) (.cons (.tail (.tail (.tail (.tail (.tail (.tail (.tail .head))))))) (.cons (.tail .head) (.cons (.tail .head) .nil))) ?_
          refine .rp 7 rfl (by kernel_rfl) (by kernel_rfl) (by kernel_rfl) (Reads.pure (.move rfl)) ?_
          refine .rp 8 rfl (by kernel_rfl) (by kernel_rfl) (by kernel_rfl) (Reads.pure (.nilCheck rfl)) ?_
          refine .rp 9 rfl (by kernel_rfl) (by kernel_rfl) (by kernel_rfl) (Reads.pure (.fieldAddr fd71_1 rfl)) ?_
          refine .rd 10 rfl rfl (by kernel_rfl) (by kernel_rfl) (by kernel_rfl) (.ld na3 rfl (.tail (.tail .head)) rfl) (.cons (.tail (.tail (.tail (.tail (.tail (.tail (.tail .head))))))) (.cons (.tail .head) (.cons (.tail .head) .nil))) ?_
          refine .ef 5 (by kernel_rfl) rfl (.fn rfl rfl .nil (fun A w h => ⟨(Knows.one (i := 4) (Knows.blk (.tail (.tail .head))) rfl) A w h, (Knows.part (.tail (.tail (.tail .head))) hof) A w h⟩) (part_ok rb q)) ?_
          rintro v _ ⟨G1, hq, rfl⟩
          obtain ⟨rfl, rfl⟩ := hq
          simp only [List.nil_append]
          refine ⟨.inr ⟨_, (.cons (.tail (.tail (.tail (.tail (.tail (.tail (.tail .head))))))) (.cons (.tail .head) (.cons (.tail .head) .nil)))⟩, ?_⟩
          refine .alter (t := 35) (v' := .int .i64 (partOf r)) rfl (by rw [partOf_q hof]) ?_
          refine .ef 11 (by kernel_rfl) rfl (.fn rfl rfl .nil (fun A w h => ⟨(Knows.blk (.tail .head)) A w h, ((Knows.know (.tail (.tail (.tail (.tail (.tail (.tail .head))))))) A w h).1⟩) (behind_ok pb s x none 0 0 r.to hB.bne hB.bn)) ?_
          rintro v _ ⟨G1, hq, rfl⟩
          obtain ⟨rfl, rfl⟩ := hq
          simp only [List.nil_append]
          refine ⟨.inr ⟨_, (.cons (.tail (.tail (.tail (.tail (.tail (.tail (.tail .head))))))) (.cons (.tail .head) (.cons (.tail .head) .nil)))⟩, ?_⟩
          refine .ef0 12 (by kernel_rfl) rfl (.mapUpdate (venc := Value.int .i64) (u := behind s.brokers r.to) kl3 Try.underlying56 rfl rfl rfl .head) ?_
          rintro _ _ rfl
          refine ⟨.inl (by kernel_rfl), ?_⟩
          refine .done (by kernel_rfl) ?_
          refine .cast (X' := IM x.ab (PS.aims (moved s r))) (by first | (unfold moved; rw [if_pos h6]; done) | (unfold moved; rw [if_pos h6]; rfl)) ?_
          refine .perm (.cons (.tail .head) (.cons .head (.cons .head (.cons .head (.cons .head (.cons .head (.cons .head (.cons .head .nil)))))))) ?_
          refine .cast (X' := blk pb (PS.cells (moved s r) x none 0 0) 60) (by rw [moved_cells]) ?_
          refine .perm (.cons (.tail (.tail (.tail (.tail (.tail (.tail .head)))))) (.cons .head (.cons .head (.cons .head (.cons .head (.cons .head (.cons .head (.cons .head .nil)))))))) ?_
          refine .cast (X' := know (KN (moved s r) x cl)) (by rw [moved_kn]) ?_
          exact fin (.cons rfl (.cons rfl (.cons rfl .nil))) (.cons (.tail .head) (.cons (.tail (.tail .head)) (.cons (.tail (.tail .head)) (.cons (.tail .head) (.cons (.tail .head) (.cons (.tail .head) (.cons .head (.cons .head .nil))))))))
        · refine .skip ?_
          refine .cast (X' := IM x.ab (PS.aims (moved s r))) (by first | (unfold moved; rw [if_neg h6]; done) | (unfold moved; rw [if_neg h6]; rfl)) ?_
          refine .perm (.cons (.tail .head) (.cons .head (.cons .head (.cons .head (.cons .head (.cons .head (.cons .head (.cons .head .nil)))))))) ?_
          refine .cast (X' := blk pb (PS.cells (moved s r) x none 0 0) 60) (by rw [moved_cells]) ?_
          refine .perm (.cons (.tail (.tail (.tail (.tail (.tail (.tail .head)))))) (.cons .head (.cons .head (.cons .head (.cons .head (.cons .head (.cons .head (.cons .head .nil)))))))) ?_
          refine .cast (X' := know (KN (moved s r) x cl)) (by rw [moved_kn]) ?_
          exact fin (.cons rfl (.cons rfl (.cons rfl .nil))) (.cons (.tail .head) (.cons (.tail (.tail .head)) (.cons (.tail (.tail .head)) (.cons (.tail .head) (.cons (.tail .head) (.cons (.tail .head) (.cons .head (.cons .head .nil))))))))

set_option maxHeartbeats 2000000 in
set_option maxRecDepth 20000 in
theorem tick_ok (pb : Nat) (now : Int) (s : PS) (hB : PB s) (hB2 : PB (tickMid s now)) (hnow : 0 ≤ now ∧ now ≤ 1000000000000) : Cn Try.prog 9 [.pointer (some ⟨pb, 0, none⟩), .int .i64 now] (fun _ => True) [PR pb s] fun v G => ∃ oa oc zs, v = .slice oa zs.length oc ∧ zs.map (·.o) = (tick s now).2.toList ∧ G = [PR pb (tick s now).1, Said oa oc zs, know (SaidK zs)] := by
  refine .enter Try.func9 rfl (by kernel_rfl) rfl fun R k => ?_
  refine .open_ (σ := PX × Nat × List CallX) (φ := fun y => PW s y.2.2) (B := fun y => PL pb s y.1 y.2.1 y.2.2 none 0 0) .head (fun _ h => h) (fun y hW => ?_)
  obtain ⟨x, rb, cl⟩ := y
  dsimp only at hW ⊢
  unfold PL
  simp only [List.cons_append, List.nil_append]
  refine .seq ?_
  refine .region ?_
  refine .ef (.box (l := [.pointer (some ⟨pb, 0, none⟩)]) rfl rfl (ones.of rfl)) ?_
  rintro _ _ ⟨b2, rfl, rfl⟩
  refine .ef (.box (l := [.int .i64 now]) rfl rfl (ones.of rfl)) ?_
  rintro _ _ ⟨b3, rfl, rfl⟩
  rcases hu : s.under with _ | r
  · have hmid : tickMid s now = s := by unfold tickMid; rw [hu]
    rw [hmid] at hB2
    refine .rd (.assign rfl) ?_
    refine .nil ?_
    refine .seq ?_
    refine .perm (.cons (.tail (.tail (.tail .head))) (.cons .head (.cons .head (.cons .head (.cons .head (.cons .head (.cons .head (.cons .head (.cons .head (.cons .head (.cons .head (.cons .head .nil)))))))))))) ?_
    refine .cast (X' := reqR cl s.under rb) (by rw [hu]) ?_
    refine .draws [0, 1] [blk b2 [.pointer (some ⟨pb, 0, none⟩)] 24] (by kernel_rfl) ?_
    refine .rd 0 rfl rfl (by kernel_rfl) (by kernel_rfl) (by kernel_rfl) (.ld na24 rfl .head rfl) (.cons (.tail (.tail .head)) .nil) ?_
    refine .rd 1 rfl rfl (by kernel_rfl) (by kernel_rfl) (by kernel_rfl) (.ld na24 rfl .head rfl) (.cons (.tail (.tail .head)) .nil) ?_
    refine .rp 2 rfl (by kernel_rfl) (by kernel_rfl) (by kernel_rfl) (Reads.pure (.nilCheck rfl)) ?_
    refine .rp 3 rfl (by kernel_rfl) (by kernel_rfl) (by kernel_rfl) (Reads.pure (.fieldAddr fd60_10 rfl)) ?_
    refine .rp 5 rfl (by kernel_rfl) (by kernel_rfl) (by kernel_rfl) (Reads.pure (.makeFunc (cs := [.pointer (some ⟨b3, 0, none⟩), .pointer (some ⟨b2, 0, none⟩)]) rfl rfl)) ?_
    refine .rs 4 (by kernel_rfl) rfl (.ld na58 rfl (.tail (.tail (.tail .head))) (show (PS.cells s x none 0 0)[10]? = some (.slice x.ua 0 x.uc) by show some (Value.slice x.ua (unders s.under) x.uc) = _; rw [hu]; rfl)) (.inr (.cons (.tail (.tail .head)) .nil)) ?_
    refine .ef 6 (by kernel_rfl) rfl (.fn rfl rfl .nil (fun _ _ _ => trivial) (deletef0_ok x.ua x.uc 21 #[.pointer (some ⟨b3, 0, none⟩), .pointer (some ⟨b2, 0, none⟩)])) ?_
    rintro v _ ⟨G1, hq, rfl⟩
    obtain ⟨rfl, rfl⟩ := hq
    simp only [List.nil_append]
    refine ⟨.inr ⟨_, (.cons (.tail (.tail .head)) .nil)⟩, ?_⟩
    refine .rp 7 rfl (by kernel_rfl) (by kernel_rfl) (by kernel_rfl) (Reads.pure (.nilCheck rfl)) ?_
    refine .rp 8 rfl (by kernel_rfl) (by kernel_rfl) (by kernel_rfl) (Reads.pure (.fieldAddr fd60_10 rfl)) ?_
    refine .ef0 9 (by kernel_rfl) rfl (.store ts58 rfl rfl (.tail (.tail (.tail .head))) rfl (Nat.le_of_ble_eq_true rfl)) ?_
    rintro _ _ rfl
    refine ⟨.inl (by kernel_rfl), ?_⟩
    refine .done (by kernel_rfl) ?_
    refine .cast (X' := blk pb (PS.cells s x none ([] : List OutX).length 0) 60) (by show _ = blk pb _ 60; unfold PS.cells; rw [hu]; rfl) ?_
    refine .nilArr 32 21 none ?_
    refine .cast (X' := Said none 0 []) (rfl) ?_
    refine .knowT (SaidK []) (fun w z hz => by cases hz) ?_
    refine .seq ?_
    refine .region ?_
    refine .rd (.ld na24 rfl (.tail (.tail (.tail (.tail (.tail .head))))) rfl) ?_
    refine .rd (.ld na3 rfl (.tail (.tail (.tail (.tail .head)))) rfl) ?_
    refine .fn rfl rfl (.cons (.tail (.tail .head)) (.cons (.tail (.tail .head)) (.cons (.tail (.tail (.tail (.tail .head)))) (.cons (.tail (.tail (.tail (.tail .head)))) (.cons (.tail (.tail (.tail (.tail .head)))) (.cons (.tail (.tail (.tail (.tail .head)))) (.cons (.tail (.tail (.tail (.tail .head)))) (.cons (.tail .head) (.cons .head (.cons (.tail (.tail (.tail .head))) .nil)))))))))) (fun _ _ _ => trivial) (pump_ok pb rb now s x cl ([] : List OutX) none 0 hB2 hW hnow (fun _ => ⟨rfl, rfl, rfl⟩)) (fun v G1 hq => ?_)
    obtain ⟨t2, cl2, ua2, uc2, rb2, zs2, oa2, oc2, hsx2, hPW2, ht2, hzs2, rfl⟩ := hq
    simp only [List.cons_append, List.nil_append]
    refine .nil ?_
    refine .seq ?_
    refine .region ?_
    refine .rd (.ld na24 rfl (.tail (.tail (.tail (.tail (.tail (.tail (.tail (.tail (.tail (.tail (.tail .head))))))))))) rfl) ?_
    refine .fn rfl rfl (.cons .head .nil) (fun _ _ _ => trivial) (said_ok pb t2 { x with ua := ua2, uc := uc2 } oa2 zs2.length oc2) (fun v G1 hq => ?_)
    obtain ⟨rfl, rfl⟩ := hq
    simp only [List.cons_append, List.nil_append]
    refine .rd (.assign rfl) ?_
    refine .nil ?_
    have hpk := pump_keep s now
    rw [← ht2] at hpk
    refine .perm (.cons (.tail (.tail (.tail .head))) (.cons .head (.cons .head (.cons .head (.cons .head (.cons .head (.cons .head (.cons .head (.cons .head (.cons .head (.cons .head (.cons .head (.cons .head (.cons .head .nil)))))))))))))) ?_
    refine .cast (X' := IM x.ab t2.aims) (by rw [hpk.2.1]) ?_
    refine .perm (.cons (.tail (.tail (.tail (.tail .head)))) (.cons .head (.cons .head (.cons .head (.cons .head (.cons .head (.cons .head (.cons .head (.cons .head (.cons .head (.cons .head (.cons .head (.cons .head (.cons .head .nil)))))))))))))) ?_
    refine .cast (X' := IM x.nb t2.next) (by rw [hpk.2.2.1]) ?_
    refine .perm (.cons (.tail (.tail (.tail (.tail (.tail (.tail (.tail (.tail (.tail (.tail (.tail (.tail .head)))))))))))) (.cons .head (.cons .head (.cons .head (.cons .head (.cons .head (.cons .head (.cons .head (.cons .head (.cons .head (.cons .head (.cons .head (.cons .head (.cons .head .nil)))))))))))))) ?_
    refine .cast (X' := EL t2 ({ x with ua := ua2, uc := uc2 })) (by unfold EL; rw [hpk.2.2.2]) ?_
    refine .perm (.cons (.tail (.tail (.tail (.tail (.tail (.tail .head)))))) (.cons .head (.cons .head (.cons .head (.cons .head (.cons .head (.cons .head (.cons .head (.cons .head (.cons .head (.cons .head (.cons .head (.cons .head (.cons .head .nil)))))))))))))) ?_
    refine .cast (X' := RowC x cl2) (by unfold RowC; rw [hsx2.ptrs]) ?_
    refine .knowMono (KN t2 ({ x with ua := ua2, uc := uc2 }) cl2) (.tail (.tail (.tail (.tail (.tail (.tail (.tail (.tail (.tail (.tail .head)))))))))) (fun w h => ⟨hpk.1 ▸ (SameX.kn hsx2 h).1, (SameX.kn hsx2 h).2⟩) ?_
    have het : t2 = (tick s now).1 := by rw [tick_none hu]; exact ht2
    have hez : zs2.map (·.o) = (tick s now).2.toList := by rw [tick_none hu]; simpa using hzs2
    obtain ⟨X, hX⟩ : ∃ X : PX, X = { x with ua := ua2, uc := uc2 } := ⟨_, rfl⟩
    refine .close (X := PR pb t2) (.cons (.tail (.tail (.tail (.tail (.tail .head))))) (.cons (.tail (.tail (.tail (.tail (.tail .head))))) (.cons (.tail (.tail (.tail (.tail (.tail .head))))) (.cons (.tail (.tail (.tail (.tail .head)))) (.cons (.tail (.tail (.tail .head))) (.cons (.tail .head) (.cons (.tail (.tail .head)) (.cons (.tail .head) (.cons .head .nil))))))))) (fun _ H => ⟨(X, rb2, cl2), hPW2, by rw [hX]; exact H⟩) ?_
    refine .retP Try.func9 (.cons (.tmp rfl) .nil) (.cons .head (.cons .head (.cons .head (.cons (.tail (.tail .head)) .nil)))) ?_
    exact ⟨[_, _, _], ⟨oa2, oc2, zs2, rfl, hez, het ▸ rfl⟩, rfl⟩
  · refine .rd (.assign rfl) ?_
    refine .nil ?_
    refine .seq ?_
    refine .perm (.cons (.tail (.tail (.tail (.tail (.tail (.tail (.tail (.tail .head)))))))) (.cons .head (.cons .head (.cons .head (.cons .head (.cons .head (.cons .head (.cons .head (.cons .head (.cons .head (.cons .head (.cons .head .nil)))))))))))) ?_
    refine .cast (X' := arr 69 1 x.ua x.uc [.pointer (some ⟨rb, 0, none⟩)]) (by first | rfl | (unfold UL; rw [hu]; rfl)) ?_
    refine .open_ (σ := Option Nat) (φ := fun q => ofAt cl r.of q) (B := fun q => [blk rb (r.cells q) 71]) (.tail (.tail (.tail (.tail .head)))) (fun _ h => reqR_open (by first | exact h | (rw [hu] at h; exact h))) (fun q hof => ?_)
    simp only [List.cons_append, List.nil_append]
    refine .draws [0, 1] [blk b2 [.pointer (some ⟨pb, 0, none⟩)] 24] (by kernel_rfl) ?_
    refine .rd 0 rfl rfl (by kernel_rfl) (by kernel_rfl) (by kernel_rfl) (.ld na24 rfl .head rfl) (.cons (.tail (.tail (.tail .head))) .nil) ?_
    refine .rd 1 rfl rfl (by kernel_rfl) (by kernel_rfl) (by kernel_rfl) (.ld na24 rfl .head rfl) (.cons (.tail (.tail (.tail .head))) .nil) ?_
    refine .rp 2 rfl (by kernel_rfl) (by kernel_rfl) (by kernel_rfl) (Reads.pure (.nilCheck rfl)) ?_
    refine .rp 3 rfl (by kernel_rfl) (by kernel_rfl) (by kernel_rfl) (Reads.pure (.fieldAddr fd60_10 rfl)) ?_
    refine .rp 5 rfl (by kernel_rfl) (by kernel_rfl) (by kernel_rfl) (Reads.pure (.makeFunc (cs := [.pointer (some ⟨b3, 0, none⟩), .pointer (some ⟨b2, 0, none⟩)]) rfl rfl)) ?_
    refine .rs 4 (by kernel_rfl) rfl (.ld na58 rfl (.tail (.tail (.tail (.tail .head)))) (show (PS.cells s x none 0 0)[10]? = some (.slice x.ua 1 x.uc) by show some (Value.slice x.ua (unders s.under) x.uc) = _; rw [hu]; rfl)) (.inr (.cons (.tail (.tail (.tail .head))) .nil)) ?_
    refine .close (X := pk [blk pb (PS.cells s x none 0 0) 60, blk rb (Req.cells r q) 71, bag CB cl, IM x.ab (PS.aims s), RowC x cl, EL s x, know (KN s x cl)]) (B := [blk pb (PS.cells s x none 0 0) 60, blk rb (Req.cells r q) 71, bag CB cl, IM x.ab (PS.aims s), RowC x cl, EL s x, know (KN s x cl)]) (.cons (.tail (.tail (.tail (.tail .head)))) (.cons .head (.cons (.tail (.tail (.tail .head))) (.cons (.tail (.tail (.tail .head))) (.cons (.tail (.tail (.tail (.tail .head)))) (.cons (.tail (.tail (.tail (.tail .head)))) (.cons (.tail (.tail (.tail (.tail .head)))) .nil))))))) (fun _ s => s) ?_
    refine .ef 6 (by kernel_rfl) rfl (.fn rfl rfl (.cons (.tail .head) (.cons .head .nil)) (fun A w h => ⟨(Knows.blk .head) A w h, (Knows.blk (.tail .head)) A w h⟩) (deletef1_ok x.ua x.uc 21 #[.pointer (some ⟨b3, 0, none⟩), .pointer (some ⟨b2, 0, none⟩)] rb _ (TickQ pb rb now s x cl r q) _ (tick1_ok pb rb b3 b2 now s x cl r q hB hW hof hnow (hB.rtries r hu)))) ?_
    rintro v _ ⟨G1, hq, rfl⟩
    obtain ⟨b, X, rfl, hq, rfl⟩ := hq
    simp only [List.cons_append, List.nil_append]
    obtain ⟨t, r', o', r2, cl', ea, ec, zs, oa, oc, hd, rfl, hsx, hPW, hzs, hr2, hb, rfl⟩ := hq
    refine ⟨.inr ⟨_, (.cons (.tail (.tail (.tail .head))) .nil)⟩, ?_⟩
    refine .rp 7 rfl (by kernel_rfl) (by kernel_rfl) (by kernel_rfl) (Reads.pure (.nilCheck rfl)) ?_
    refine .rp 8 rfl (by kernel_rfl) (by kernel_rfl) (by kernel_rfl) (Reads.pure (.fieldAddr fd60_10 rfl)) ?_
    refine .open_ (σ := Unit) (φ := fun _ => True) (B := fun _ => [blk pb (PS.cells t ({ x with ea := ea, ec := ec }) oa zs.length oc) 60, blk rb (Req.cells r2 q) 71, bag CB cl', IM x.ab (PS.aims t), RowC x cl', EL t ({ x with ea := ea, ec := ec }), know (KN s x cl'), Said oa oc zs, know (SaidK zs)]) (.tail .head) (fun _ h => ⟨(), trivial, h⟩) (fun _ _ => ?_)
    simp only [List.cons_append, List.nil_append]
    refine .ef0 9 (by kernel_rfl) rfl (.store ts58 rfl rfl .head rfl (Nat.le_of_ble_eq_true rfl)) ?_
    rintro _ _ rfl
    refine ⟨.inl (by kernel_rfl), ?_⟩
    refine .done (by kernel_rfl) ?_
    refine .cast (X' := blk pb (PS.cells ({ t with under := r' } : PS) ({ x with ea := ea, ec := ec }) oa zs.length oc) 60) (rfl) ?_
    refine .perm (.cons (.tail (.tail (.tail (.tail (.tail (.tail (.tail (.tail (.tail .head))))))))) (.cons .head (.cons .head (.cons .head (.cons .head (.cons .head (.cons .head (.cons .head (.cons .head (.cons .head (.cons .head (.cons .head (.cons .head (.cons .head .nil)))))))))))))) ?_
    refine .cast (X' := UL ({ t with under := r' } : PS) ({ x with ea := ea, ec := ec }) rb) (by cases r' <;> rfl) ?_
    refine .close (X := reqR cl' r' rb) (.cons (.tail (.tail .head)) .nil) (fun _ H => by cases r' with | none => trivial | some a => exact reqR_close (hsx.ofAt (by rw [due_of hd]; exact hof)) (hr2 a rfl ▸ H)) ?_
    have hdk := due_keep s now r
    rw [hd] at hdk
    have hmid : tickMid s now = ({ t with under := r' } : PS) := by unfold tickMid; rw [hu]; show ({ (due s now r).1 with under := (due s now r).2.1 } : PS) = _; rw [hd]
    rw [hmid] at hB2
    have htk := tick_some hu hd
    refine .perm (.cons (.tail (.tail (.tail (.tail (.tail (.tail (.tail (.tail (.tail (.tail (.tail (.tail .head)))))))))))) (.cons .head (.cons .head (.cons .head (.cons .head (.cons .head (.cons .head (.cons .head (.cons .head (.cons .head (.cons .head (.cons .head (.cons .head (.cons .head .nil)))))))))))))) ?_
    refine .cast (X' := IM x.nb (PS.next ({ t with under := r' } : PS))) (by show _ = IM x.nb t.next; rw [hdk.1]) ?_
    refine .perm (.cons (.tail (.tail (.tail (.tail (.tail (.tail (.tail (.tail .head)))))))) (.cons .head (.cons .head (.cons .head (.cons .head (.cons .head (.cons .head (.cons .head (.cons .head (.cons .head (.cons .head (.cons .head (.cons .head (.cons .head .nil)))))))))))))) ?_
    refine .cast (X' := know (KN ({ t with under := r' } : PS) ({ x with ea := ea, ec := ec }) cl')) (by show _ = know (KN _ _ _); unfold KN; rw [show (PS.brokers ({ t with under := r' } : PS)) = s.brokers from hdk.2]) ?_
    refine .perm (.cons (.tail (.tail (.tail (.tail (.tail (.tail (.tail (.tail .head)))))))) (.cons .head (.cons .head (.cons .head (.cons .head (.cons .head (.cons .head (.cons .head (.cons .head (.cons .head (.cons .head (.cons .head (.cons .head (.cons .head .nil)))))))))))))) ?_
    refine .cast (X' := EL ({ t with under := r' } : PS) ({ x with ea := ea, ec := ec })) (rfl) ?_
    refine .perm (.cons (.tail (.tail (.tail (.tail (.tail (.tail (.tail .head))))))) (.cons .head (.cons .head (.cons .head (.cons .head (.cons .head (.cons .head (.cons .head (.cons .head (.cons .head (.cons .head (.cons .head (.cons .head (.cons .head .nil)))))))))))))) ?_
    refine .cast (X' := IM x.ab (PS.aims ({ t with under := r' } : PS))) (rfl) ?_
    refine .seq ?_
    refine .region ?_
    refine .rd (.ld na24 rfl (.tail (.tail (.tail (.tail (.tail (.tail (.tail (.tail (.tail (.tail (.tail (.tail .head)))))))))))) rfl) ?_
    refine .rd (.ld na3 rfl (.tail (.tail (.tail (.tail (.tail (.tail (.tail (.tail (.tail (.tail (.tail .head))))))))))) rfl) ?_
    refine .fn rfl rfl (.cons (.tail (.tail (.tail (.tail (.tail (.tail .head)))))) (.cons (.tail (.tail (.tail (.tail .head)))) (.cons (.tail (.tail (.tail (.tail (.tail .head))))) (.cons .head (.cons (.tail (.tail .head)) (.cons (.tail (.tail (.tail .head))) (.cons (.tail (.tail .head)) (.cons (.tail (.tail .head)) (.cons (.tail (.tail .head)) (.cons (.tail .head) .nil)))))))))) (fun _ _ _ => trivial) (pump_ok pb rb now ({ t with under := r' } : PS) ({ x with ea := ea, ec := ec }) cl' zs oa oc hB2 { hPW with } hnow (fun h => hb (by rw [show r' = none from h]; rfl))) (fun v G1 hq => ?_)
    obtain ⟨t2, cl2, ua2, uc2, rb2, zs2, oa2, oc2, hsx2, hPW2, ht2, hzs2, rfl⟩ := hq
    simp only [List.cons_append, List.nil_append]
    refine .nil ?_
    refine .seq ?_
    refine .region ?_
    refine .rd (.ld na24 rfl (.tail (.tail (.tail (.tail (.tail (.tail (.tail (.tail (.tail (.tail (.tail (.tail .head)))))))))))) rfl) ?_
    refine .fn rfl rfl (.cons .head .nil) (fun _ _ _ => trivial) (said_ok pb t2 { ({ x with ea := ea, ec := ec }) with ua := ua2, uc := uc2 } oa2 zs2.length oc2) (fun v G1 hq => ?_)
    obtain ⟨rfl, rfl⟩ := hq
    simp only [List.cons_append, List.nil_append]
    refine .rd (.assign rfl) ?_
    refine .nil ?_
    have hpk := pump_keep ({ t with under := r' } : PS) now
    rw [← ht2] at hpk
    refine .perm (.cons (.tail (.tail (.tail .head))) (.cons .head (.cons .head (.cons .head (.cons .head (.cons .head (.cons .head (.cons .head (.cons .head (.cons .head (.cons .head (.cons .head (.cons .head (.cons .head .nil)))))))))))))) ?_
    refine .cast (X' := IM x.ab t2.aims) (by rw [hpk.2.1]) ?_
    refine .perm (.cons (.tail (.tail (.tail (.tail .head)))) (.cons .head (.cons .head (.cons .head (.cons .head (.cons .head (.cons .head (.cons .head (.cons .head (.cons .head (.cons .head (.cons .head (.cons .head (.cons .head .nil)))))))))))))) ?_
    refine .cast (X' := IM x.nb t2.next) (by rw [hpk.2.2.1]) ?_
    refine .perm (.cons (.tail (.tail (.tail (.tail (.tail (.tail (.tail (.tail (.tail (.tail .head)))))))))) (.cons .head (.cons .head (.cons .head (.cons .head (.cons .head (.cons .head (.cons .head (.cons .head (.cons .head (.cons .head (.cons .head (.cons .head (.cons .head .nil)))))))))))))) ?_
    refine .cast (X' := EL t2 ({ ({ x with ea := ea, ec := ec }) with ua := ua2, uc := uc2 })) (by unfold EL; rw [hpk.2.2.2]) ?_
    refine .perm (.cons (.tail (.tail (.tail (.tail (.tail (.tail .head)))))) (.cons .head (.cons .head (.cons .head (.cons .head (.cons .head (.cons .head (.cons .head (.cons .head (.cons .head (.cons .head (.cons .head (.cons .head (.cons .head .nil)))))))))))))) ?_
    refine .cast (X' := RowC x cl2) (by unfold RowC; rw [hsx2.ptrs]) ?_
    refine .knowMono (KN t2 ({ ({ x with ea := ea, ec := ec }) with ua := ua2, uc := uc2 }) cl2) (.tail (.tail (.tail (.tail (.tail (.tail (.tail (.tail (.tail (.tail .head)))))))))) (fun w h => ⟨hpk.1 ▸ (SameX.kn hsx2 h).1, (SameX.kn hsx2 h).2⟩) ?_
    have het : t2 = (tick s now).1 := ht2.trans htk.1.symm
    have hez : zs2.map (·.o) = (tick s now).2.toList := by rw [hzs2, htk.2, hzs]
    obtain ⟨X, hX⟩ : ∃ X : PX, X = { ({ x with ea := ea, ec := ec }) with ua := ua2, uc := uc2 } := ⟨_, rfl⟩
    refine .close (X := PR pb t2) (.cons (.tail (.tail (.tail (.tail (.tail .head))))) (.cons (.tail (.tail (.tail (.tail (.tail .head))))) (.cons (.tail (.tail (.tail (.tail (.tail .head))))) (.cons (.tail (.tail (.tail (.tail .head)))) (.cons (.tail (.tail (.tail .head))) (.cons (.tail .head) (.cons (.tail (.tail .head)) (.cons (.tail .head) (.cons .head .nil))))))))) (fun _ H => ⟨(X, rb2, cl2), hPW2, by rw [hX]; exact H⟩) ?_
    refine .retP Try.func9 (.cons (.tmp rfl) .nil) (.cons .head (.cons .head (.cons .head (.cons (.tail (.tail .head)) .nil)))) ?_
    exact ⟨[_, _, _], ⟨oa2, oc2, zs2, rfl, hez, het ▸ rfl⟩, rfl⟩

end Go.Proofs.Ytlcglmimndkleaa


/- Chapter 18: what stays true of a producer, in plain Lean. -/
namespace Go.Proofs.Ytlcglmimndkleaa
open Go Go.Sp

structure PI (s : PS) (b k : Nat) : Prop where
  wait : 1 ≤ s.wait ∧ s.wait ≤ 1000000000
  tries : 1 ≤ s.tries ∧ s.tries ≤ 1000
  bne : s.brokers ≠ []
  bn : s.brokers.length ≤ 100
  number : 0 ≤ s.number ∧ s.number ≤ 1000000000
  kl : k ≤ s.calls.length
  o20 : s.calls.length ≤ k + 20
  many : s.calls.length ≤ 1000
  cal : ∀ (i : Nat) (c : Call), s.calls[i]? = some c → c.over = decide (i < k) ∧ c.n = (i : Int) + 1 ∧ 0 ≤ c.seq ∧ c.seq ≤ 1000000
  opn : s.open_ = (s.calls.length : Int) - k
  stale : ∀ r, s.under = some r → r.of = none → s.fresh = false
  rtries : ∀ r, s.under = some r → 0 ≤ r.tries ∧ r.tries ≤ 1000
  rof : ∀ r i, s.under = some r → r.of = some i → i = k ∧ k < s.calls.length
  next : ∀ p ∈ s.next, 0 ≤ p.2 ∧ p.2 ≤ 2000000
  bk : k = b + s.ended.length
  end_ : ∀ (j : Nat) (e : Seen), s.ended[j]? = some e → e.call = (b : Int) + (j : Int) + 1

theorem PI.pb {s b k} (h : PI s b k) : PB s where
  wait := h.wait
  tries := h.tries
  bne := h.bne
  bn := h.bn
  number := h.number
  open_ := by have := h.opn; have := h.kl; have := h.o20; omega
  many := h.many
  stale := h.stale
  rtries := h.rtries
  rof := fun r i hr hi => by have := h.rof r i hr hi; omega
  next := h.next
  seqs := fun c hc => by obtain ⟨i, hi⟩ := List.mem_iff_getElem?.1 hc; exact (h.cal i c hi).2.2
  ends := by have := h.bk; have := h.kl; have := h.many; omega
theorem PI.callAt_ {s b k} (h : PI s b k) {i : Nat} (hi : i < s.calls.length) : s.calls[i]? = some (callAt s i) ∧ (callAt s i).over = decide (i < k) ∧ (callAt s i).n = (i : Int) + 1 := by
  have e : s.calls[i]? = some (callAt s i) := by unfold callAt; rw [List.getD_eq_getElem?_getD, List.getElem?_eq_getElem hi]; rfl
  exact ⟨e, (h.cal _ _ e).1, (h.cal _ _ e).2.1⟩
theorem PI.first {s b k} (h : PI s b k) {i : Nat} (hf : firstOpen s = some i) : i = k ∧ k < s.calls.length := by
  unfold firstOpen at hf
  obtain ⟨hi, h1, h2⟩ := List.findIdx?_eq_some_iff_getElem.1 hf
  have e1 := (h.cal i _ (List.getElem?_eq_getElem hi)).1
  rw [e1] at h1
  have hk : k ≤ i := by simpa using h1
  by_cases hlt : k < i
  · have h3 := h2 k hlt
    have e2 := (h.cal k _ (List.getElem?_eq_getElem (by omega))).1
    rw [e2] at h3; simp at h3
  · omega
theorem nextN_ok {n : Int} (h : 0 ≤ n ∧ n ≤ 1000000000) : 0 ≤ nextN n ∧ nextN n ≤ 1000000000 := by unfold nextN; split <;> omega
theorem PI.begin_ {s b k} (h : PI s b k) (now : Int) (of : Option Nat) (h1 : of = none → s.fresh = false) (h2 : ∀ i, of = some i → i = k ∧ k < s.calls.length) : PI (beginS s now of) b k := { h with
  number := nextN_ok h.number
  stale := fun r hr ho => by cases hr; exact h1 ho
  rtries := fun r hr => by cases hr; show 0 ≤ s.tries - 1 ∧ s.tries - 1 ≤ 1000; have := h.tries; omega
  rof := fun r i hr ho => by cases hr; exact h2 i ho }
theorem set_at {α : Type} {l : List α} {i j : Nat} {x c : α} (h : (l.set i x)[j]? = some c) : (i = j ∧ c = x ∧ j < l.length) ∨ (i ≠ j ∧ l[j]? = some c) := by
  rw [List.getElem?_set] at h
  split at h
  · split at h
    · cases h; rename_i a b; exact .inl ⟨a, rfl, a ▸ b⟩
    · cases h
  · rename_i a; exact .inr ⟨a, h⟩
theorem PI.stamp {s b k} (h : PI s b k) (hn : nextOf s ≤ 1000000) (i : Nat) : PI (stampS s i) b k := { h with
  kl := by show k ≤ (s.calls.set i _).length; rw [List.length_set]; exact h.kl
  o20 := by show (s.calls.set i _).length ≤ _; rw [List.length_set]; exact h.o20
  many := by show (s.calls.set i _).length ≤ _; rw [List.length_set]; exact h.many
  cal := fun j c hj => by
    rcases set_at hj with ⟨e, e2, e3⟩ | ⟨_, e⟩
    · subst e; subst e2
      have := h.callAt_ e3
      exact ⟨this.2.1, this.2.2, (nextOf_bound h.pb).1, hn⟩
    · exact h.cal j c e
  opn := by show s.open_ = ((s.calls.set i _).length : Int) - k; rw [List.length_set]; exact h.opn
  rof := fun r j hr ho => by show j = k ∧ k < (s.calls.set i _).length; rw [List.length_set]; exact h.rof r j hr ho }
theorem PI.fresh {s b k} (h : PI s b k) : PI { s with fresh := false } b k := { h with stale := fun _ _ _ => rfl }
theorem PI.pump1 {s b k} (h : PI s b k) (now : Int) : PI (pump1 s now).1 b k := by
  unfold Go.Proofs.Ytlcglmimndkleaa.pump1
  split
  · rename_i i hu hf
    split
    · exact h
    · split
      · exact h.fresh
      · have hk := h.first hf
        exact (h.stamp (by omega) i).begin_ now _ (fun h2 => by cases h2) (fun j hj => by cases hj; exact ⟨hk.1, by show k < (s.calls.set _ _).length; rw [List.length_set]; exact hk.2⟩)
  · exact h
theorem PI.pump2 {s b k} (h : PI s b k) (now : Int) : PI (pump2 s now).1 b k := by
  unfold Go.Proofs.Ytlcglmimndkleaa.pump2
  split
  · rename_i hc; exact h.begin_ now none (fun _ => hc.1) (fun i hi => by cases hi)
  · exact h
theorem pump_two (s : PS) (now : Int) : (pump s now).1 = (pump1 s now).1 ∨ (pump s now).1 = (pump2 (pump1 s now).1 now).1 := by
  unfold pump
  split
  · rename_i t o e; rw [e]; exact .inl rfl
  · rename_i t e; rw [e]; exact .inr rfl
theorem PI.pump {s b k} (h : PI s b k) (now : Int) : PI (pump s now).1 b k := by
  rcases pump_two s now with e | e <;> rw [e]
  · exact h.pump1 now
  · exact (h.pump1 now).pump2 now
theorem PI.idle {s b k} (h : PI s b k) : PI { s with under := none } b k := { h with stale := fun _ hr => (by cases hr), rtries := fun _ hr => (by cases hr), rof := fun _ _ hr => (by cases hr) }
theorem PI.endS {s b k} (h : PI s b k) (hu : s.under = none) (hk : k < s.calls.length) (err off : Int) : PI (endS s k err off) b (k + 1) := { h with
  kl := by show k + 1 ≤ (s.calls.set k _).length; rw [List.length_set]; omega
  o20 := by show (s.calls.set k _).length ≤ _; rw [List.length_set]; have := h.o20; omega
  many := by show (s.calls.set k _).length ≤ _; rw [List.length_set]; exact h.many
  cal := fun j c hj => by
    rcases set_at hj with ⟨e, e2, e3⟩ | ⟨hne, e⟩
    · subst e; subst e2
      have := h.callAt_ e3
      refine ⟨by simp, this.2.2, (h.cal _ _ this.1).2.2⟩
    · have := h.cal j c e
      refine ⟨?_, this.2⟩
      rw [this.1]; exact decide_eq_decide.2 (by omega)
  opn := by show s.open_ - 1 = ((s.calls.set k _).length : Int) - ((k + 1 : Nat) : Int); rw [List.length_set, h.opn]; omega
  stale := fun r hr => by rw [show s.under = some r from hr] at hu; cases hu
  rtries := fun r hr => by rw [show s.under = some r from hr] at hu; cases hu
  rof := fun r _ hr => by rw [show s.under = some r from hr] at hu; cases hu
  bk := by show k + 1 = b + (s.ended ++ [_]).length; rw [List.length_append]; have := h.bk; simp; omega
  end_ := fun j e he => by
    have he : (s.ended ++ [_])[j]? = some e := he
    rw [List.getElem?_append] at he
    split at he
    · exact h.end_ j e he
    · rename_i hj
      have hj2 : j - s.ended.length = 0 := by
        have := (List.getElem?_eq_some_iff.1 he).1
        simp at this; omega
      rw [hj2] at he
      cases he
      have h1 := (h.callAt_ hk).2.2
      have := h.bk
      show (callAt s k).n = _
      rw [h1]; omega }
def kj (of : Option Nat) (k j : Nat) : Nat := if j ≤ k then k else if of.isNone then j else k + 1
theorem endsGo_under (of : Option Nat) (err : Int) (s : PS) (j : Nat) : (endsGo of err j s).under = s.under := by obtain ⟨f, c, o, e, h⟩ := endsGo_keep of err s j; rw [h]
theorem PI.endsGo {s b k} (h : PI s b k) (hu : s.under = none) {of : Option Nat} (ho : of = none ∨ (of = some k ∧ k < s.calls.length)) (err : Int) : ∀ j ≤ s.calls.length, PI (endsGo of err j s) b (kj of k j)
  | 0, _ => by unfold kj; rw [if_pos (Nat.zero_le _)]; exact h
  | j + 1, hj => by
    have ih := PI.endsGo h hu ho err j (by omega)
    have hl := endsGo_calls of err s j
    have hjl : j < (Go.Proofs.Ytlcglmimndkleaa.endsGo of err j s).calls.length := by omega
    have hov := (ih.callAt_ hjl).2.1
    rw [Go.Proofs.Ytlcglmimndkleaa.endsGo]
    by_cases hjk : j < k
    · have e : kj of k j = k := if_pos (by omega)
      have e2 : kj of k (j + 1) = k := if_pos (by omega)
      rw [e] at ih hov
      rw [e2, if_neg]
      · exact ih
      · rw [hov]; simp [hjk]
    · have e2 : kj of k (j + 1) = (if of.isNone then j + 1 else k + 1) := if_neg (by omega)
      have e : kj of k j = (if j = k then k else if of.isNone then j else k + 1) := by
        unfold kj
        by_cases hc : j = k
        · rw [if_pos (by omega), if_pos hc]
        · rw [if_neg (by omega), if_neg hc]
      rcases ho with rfl | ⟨rfl, hkl⟩
      · have e3 : kj none k j = j := by rw [e]; split; omega; rfl
        rw [e3] at ih hov
        rw [e2, if_pos ⟨by rw [hov]; simp, .inl rfl⟩]
        exact ih.endS (by rw [endsGo_under]; exact hu) hjl err 0
      · by_cases hc : j = k
        · subst hc
          have e3 : kj (some j) j j = j := by rw [e, if_pos rfl]
          rw [e3] at ih hov
          rw [e2, if_pos ⟨by rw [hov]; simp, .inr rfl⟩]
          exact ih.endS (by rw [endsGo_under]; exact hu) hjl err 0
        · have e3 : kj (some k) k j = k + 1 := by rw [e, if_neg hc]; rfl
          rw [e3] at ih
          rw [e2, if_neg]
          · exact ih
          · rintro ⟨_, h2⟩; rcases h2 with h2 | h2; cases h2; cases h2; exact hc rfl
theorem endsGo_idle (of : Option Nat) (err : Int) (s : PS) : ∀ j, endsGo of err j { s with under := none } = { endsGo of err j s with under := none }
  | 0 => rfl
  | j + 1 => by
    rw [endsGo, endsGo_idle of err s j, endsGo]
    have e : callAt { endsGo of err j s with under := none } j = callAt (endsGo of err j s) j := rfl
    rw [e]
    split <;> rfl
theorem PI.ends {s b k} (h : PI s b k) (hu : s.under = none) {of : Option Nat} (ho : of = none ∨ (of = some k ∧ k < s.calls.length)) (err : Int) : ∃ k', PI (endsS s of err) b k' := ⟨_, h.endsGo hu ho err s.calls.length (Nat.le_refl _)⟩
theorem PI.ofs {s b k r} (h : PI s b k) (hu : s.under = some r) : r.of = none ∨ (r.of = some k ∧ k < s.calls.length) := by
  cases ho : r.of with
  | none => exact .inl rfl
  | some i => have := h.rof r i hu ho; exact .inr ⟨by rw [this.1], this.2⟩
theorem PI.ended {s b k r} (h : PI s b k) (hu : s.under = some r) (m : Ans) : ∃ k', PI (ended { s with under := none } r m) b k' := by
  unfold Go.Proofs.Ytlcglmimndkleaa.ended
  split
  · exact h.idle.ends rfl (h.ofs hu) m.err
  · split
    · rename_i i ho
      have hi := h.rof r i hu ho
      have hc := h.callAt_ (i := i) (by omega)
      have hs := (h.cal i _ hc.1).2.2
      have h2 : PI { s with under := none, next := mset s.next 2 ((callAt s i).seq + 1) } b k := { h.idle with
        next := fun p hp => by
          rcases mem_mset hp with e | e
          · exact h.next p e
          · rw [e]; show 0 ≤ (callAt s i).seq + 1 ∧ (callAt s i).seq + 1 ≤ _; omega }
      refine ⟨k + 1, ?_⟩
      have := h2.endS rfl hi.2 0 m.offset
      rw [← hi.1] at this ⊢; exact this
    · exact ⟨k, { h.idle with next := fun p hp => (by cases hp), stale := fun _ hr => (by cases hr) }⟩
where
  mem_mset {l : List (Int × Int)} {q v : Int} {p : Int × Int} (hp : p ∈ mset l q v) : p ∈ l ∨ p.2 = v := by
    unfold mset at hp
    split at hp
    · obtain ⟨x, hx, rfl⟩ := List.mem_map.1 hp
      split
      · exact .inr rfl
      · exact .inl hx
    · rcases List.mem_append.1 hp with h | h
      · exact .inl h
      · rw [List.mem_singleton.1 h]; exact .inr rfl
theorem PI.aims {s b k} (h : PI s b k) (a : List (Int × Int)) : PI { s with aims := a } b k := { h with }
theorem PI.mid {s b k} (h : PI s b k) (now : Int) : ∃ k', PI (tickMid s now) b k' := by
  unfold tickMid
  split
  · exact ⟨k, h⟩
  · rename_i r hu
    unfold due
    split
    · exact ⟨k, by show PI { s with under := some r } b k; rw [← hu]; exact h⟩
    · split
      · obtain ⟨k', h2⟩ := h.idle.ends rfl (h.ofs hu) 21
        refine ⟨k', ?_⟩
        unfold endsS at h2; rw [endsGo_idle] at h2; exact h2
      · obtain ⟨a, e⟩ := moved_eq s r
        refine ⟨k, ?_⟩
        rw [e]
        have hr := h.rtries r hu
        exact { h.aims a with
          number := nextN_ok h.number
          stale := fun r2 hr2 ho => by cases hr2; exact h.stale r hu ho
          rtries := fun r2 hr2 => by cases hr2; show 0 ≤ r.tries - 1 ∧ r.tries - 1 ≤ 1000; omega
          rof := fun r2 i hr2 ho => by cases hr2; exact h.rof r i hu ho }
theorem PI.tick {s b k} (h : PI s b k) (now : Int) : ∃ k', PI (tick s now).1 b k' := by
  obtain ⟨k', h2⟩ := h.mid now
  cases hu : s.under with
  | none => rw [tick_none hu]; exact ⟨k, h.pump now⟩
  | some r =>
    have := (tick_some (now := now) (t := (due s now r).1) (r' := (due s now r).2.1) (o := (due s now r).2.2) hu rfl).1
    rw [this]
    unfold tickMid at h2; rw [hu] at h2
    exact ⟨k', h2.pump now⟩
theorem PI.led {s b k r} (h : PI s b k) (hu : s.under = some r) (now last : Int) : PI (led s now r last) b k := by
  unfold Go.Proofs.Ytlcglmimndkleaa.led
  split
  · exact { h.aims (mset (mset s.aims (partOf r) (behind s.brokers r.to)) (partOf r) last) with stale := fun r2 hr2 ho => (by cases hr2; exact h.stale r hu ho), rtries := fun r2 hr2 => (by cases hr2; exact h.rtries r hu), rof := fun r2 i hr2 ho => (by cases hr2; exact h.rof r i hu ho) }
  · exact { h.aims (mset s.aims (partOf r) (behind s.brokers r.to)) with stale := fun r2 hr2 ho => (by cases hr2; exact h.stale r hu ho), rtries := fun r2 hr2 => (by cases hr2; exact h.rtries r hu), rof := fun r2 i hr2 ho => (by cases hr2; exact h.rof r i hu ho) }
theorem PI.step {s b k} (h : PI s b k) (now : Int) (m : Ans) : ∃ k', PI (step s now m).1 b k' := by
  unfold Go.Proofs.Ytlcglmimndkleaa.step
  split
  · exact ⟨k, h⟩
  · rename_i r hu
    split
    · exact ⟨k, h⟩
    · split
      · exact ⟨k, h.led hu now m.last⟩
      · split
        · exact ⟨k, h⟩
        · obtain ⟨k', h2⟩ := h.ended hu m
          exact ⟨k', h2.pump now⟩
theorem PI.sendS {s b k} (h : PI s b k) (ho : s.open_ < 20) (hm : s.calls.length < 1000) (t : List UInt8) : PI (sendS s t) b k := { h with
  kl := by show k ≤ (s.calls ++ [_]).length; rw [List.length_append]; have := h.kl; omega
  o20 := by show (s.calls ++ [_]).length ≤ _; rw [List.length_append]; have := h.opn; simp; omega
  many := by show (s.calls ++ [_]).length ≤ _; rw [List.length_append]; simp; omega
  cal := fun j c hj => by
    have hj : (s.calls ++ [_])[j]? = some c := hj
    rw [List.getElem?_append] at hj
    split at hj
    · exact h.cal j c hj
    · rename_i hl
      have hj2 : j - s.calls.length = 0 := by
        have := (List.getElem?_eq_some_iff.1 hj).1
        simp at this; omega
      rw [hj2] at hj; cases hj
      have := h.kl
      refine ⟨?_, ?_, (by show (0 : Int) ≤ 0; omega), (by show (0 : Int) ≤ 1000000; omega)⟩
      · show false = _; symm; exact decide_eq_false (by omega)
      · show (s.calls.length : Int) + 1 = _; omega
  opn := by show s.open_ + 1 = ((s.calls ++ [_]).length : Int) - k; rw [List.length_append, h.opn]; simp; omega
  rof := fun r i hr hi => by show i = k ∧ k < (s.calls ++ [_]).length; rw [List.length_append]; have := h.rof r i hr hi; omega }
theorem PI.send {s b k} (h : PI s b k) (hm : s.calls.length < 1000) (now : Int) (t : List UInt8) : PI (send s now t).1 b k := by
  unfold Go.Proofs.Ytlcglmimndkleaa.send
  split
  · exact h
  · rename_i ho; exact (h.sendS (by omega) hm t).pump now
theorem PI.done {s b k} (h : PI s b k) : PI (doneS s) k k := { h with
  bk := rfl
  end_ := fun j e he => (by simp [doneS] at he) }
theorem PI.new {wait tries : Int} {l : List Int} (hw : 1 ≤ wait ∧ wait ≤ 1000000000) (ht : 1 ≤ tries ∧ tries ≤ 1000) (h1 : l ≠ []) (h2 : l.length ≤ 100) : PI (newS wait tries l) 0 0 where
  wait := hw
  tries := ht
  bne := h1
  bn := h2
  number := ⟨by show (0 : Int) ≤ 0; omega, by show (0 : Int) ≤ 1000000000; omega⟩
  kl := Nat.le_refl 0
  o20 := Nat.zero_le _
  many := Nat.zero_le _
  cal := fun i c hc => by simp [newS] at hc
  opn := rfl
  stale := fun r hr => by cases hr
  rtries := fun r hr => by cases hr
  rof := fun r i hr => by cases hr
  next := fun p hp => by cases hp
  bk := rfl
  end_ := fun j e he => by simp [newS] at he

/-! ### Numbers -/
def NL (s t : PS) (o : Option Out) : Prop := match o with
  | some o => o.id = nextN s.number ∧ t.number = nextN s.number
  | none => t.number = s.number
theorem askO_id (s : PS) (now : Int) (r : Req) (c : Option Call) : (askO s now r c).id = nextN s.number := by cases c <;> rfl
theorem NL.pump (s : PS) (now : Int) : NL s (pump s now).1 (pump s now).2 := by
  have h1 : NL s (pump1 s now).1 (pump1 s now).2 := by
    unfold pump1
    split
    · split
      · rfl
      · split
        · rfl
        · exact ⟨rfl, rfl⟩
    · rfl
  have h2 : ∀ t, NL t (pump2 t now).1 (pump2 t now).2 := fun t => by
    unfold pump2
    split
    · exact ⟨rfl, rfl⟩
    · rfl
  unfold Go.Proofs.Ytlcglmimndkleaa.pump
  split
  · rename_i t o e; rw [e] at h1; exact h1
  · rename_i t e
    rw [e] at h1
    have h1 : t.number = s.number := h1
    have := h2 t
    unfold NL at this ⊢
    rw [h1] at this; exact this
theorem NL.of {s s' t : PS} {o : Option Out} (h : NL s' t o) (e : s'.number = s.number) : NL s t o := by unfold NL at h ⊢; rw [e] at h; exact h
theorem NL.send (s : PS) (now : Int) (t : List UInt8) : NL s (send s now t).1 (send s now t).2.1 := by
  unfold Go.Proofs.Ytlcglmimndkleaa.send
  split
  · rfl
  · exact (NL.pump (sendS s t) now).of rfl
theorem endsS_number (s : PS) (of : Option Nat) (err : Int) : (endsS s of err).number = s.number := by obtain ⟨f, c, o, e, h⟩ := endsS_keep s of err; rw [h]
theorem NL.tick (s : PS) (now : Int) : NL s (tick s now).1 (tick s now).2 := by
  unfold Go.Proofs.Ytlcglmimndkleaa.tick
  split
  · exact NL.pump s now
  · rename_i r hu
    unfold due
    split
    · rename_i t r' o e
      split at e
      · cases e
      · split at e
        · cases e
        · cases e
          obtain ⟨a, e⟩ := moved_eq s r
          rw [e]; exact ⟨askO_id _ _ _ _, rfl⟩
    · rename_i t r' e
      split at e
      · cases e; exact (NL.pump _ now).of rfl
      · split at e
        · cases e; exact (NL.pump _ now).of (endsS_number s r.of 21)
        · cases e
theorem NL.step (s : PS) (now : Int) (m : Ans) : NL s (step s now m).1 (step s now m).2 := by
  unfold Go.Proofs.Ytlcglmimndkleaa.step
  split
  · rfl
  · rename_i r hu
    split
    · rfl
    · split
      · unfold led; split <;> rfl
      · split
        · rfl
        · refine (NL.pump _ now).of ?_
          unfold ended
          split
          · exact endsS_number _ _ _
          · split <;> rfl
end Go.Proofs.Ytlcglmimndkleaa

namespace Go.Proofs.Ytlcglmimndkleaa
open Go Go.Sp

set_option linter.unusedVariables false

namespace prod9
theorem fd60_13 : FD Try.prog 60 13 13 := .of Try.underlying60 (by kernel_rfl)
theorem na44 : NotAgg Try.prog 44 := ⟨_, Try.underlying44, trivial⟩
theorem ts44 : TS Try.prog 44 1 := .of (by kernel_rfl)
theorem fd60_12 : FD Try.prog 60 12 12 := .of Try.underlying60 (by kernel_rfl)
theorem na3 : NotAgg Try.prog 3 := ⟨_, Try.underlying3, trivial⟩
end prod9
open prod9

theorem i64_len (n : Nat) (h : n ≤ 1000) : i64 (n : Int) := by unfold i64; omega
theorem right_bat {t : List UInt8} (h : t.length ≤ 100) : right (bat t) = 0 := by
  have e0 : (eint 0).length ≤ 10 := eint_len (i64_len 0 (by omega))
  have e1 : (eint 1).length ≤ 10 := eint_len (i64_len 1 (by omega))
  have et : (eint (t.length : Int)).length ≤ 10 := eint_len (i64_len t.length (by omega))
  have hb : (body (bat t)).length ≤ 4088 := by
    have : body (bat t) = eint 0 ++ eint 0 ++ eint 1 ++ eint 0 ++ eint 0 ++ eint 1 ++ (eint 0 ++ eint 0 ++ [] ++ eint (t.length : Int) ++ t) := by
      show eint 0 ++ eint 0 ++ eint 1 ++ eint 0 ++ eint 0 ++ eint ((1 : Nat) : Int) ++ (recBody ⟨[], t, 0⟩ ++ []) = _
      rw [List.append_nil]; rfl
    rw [this]; simp only [List.length_append, List.length_nil]; omega
  unfold right
  rw [if_neg, if_neg, if_neg, if_neg, if_neg, if_neg (by omega)]
  · show ¬ ((1000000000 : Int) - ((1 : Nat) : Int) + 1 < 0 ∨ (1000000 : Int) - ((1 : Nat) : Int) + 1 < 0); omega
  · rintro ⟨r, hr, h2⟩; rw [List.mem_singleton.1 hr] at h2
    rcases h2 with h2 | h2
    · exact absurd h2 (by show ¬ 1000 < 0; omega)
    · have : 1000 < t.length := h2; omega
  · show ¬ 64 < 1; omega
  · rintro ⟨r, hr, h2⟩; rw [List.mem_singleton.1 hr] at h2; exact h2 ⟨by show (0 : Int) ≤ 0; omega, by show (0 : Int) ≤ 1000000000; omega⟩
  · show ¬ ((0 : Int) < 0 ∨ ¬ ((0 : Int) ≤ 0 ∧ (0 : Int) ≤ 1000000000) ∨ ¬ ((0 : Int) ≤ 1 ∧ (1 : Int) ≤ 1000000000) ∨ ¬ ((0 : Int) ≤ 0 ∧ (0 : Int) ≤ 1000000000) ∨ ¬ ((0 : Int) ≤ 0 ∧ (0 : Int) ≤ 1000000000) ∨ ((1 : Int) = 0 ∧ ((0 : Int) ≠ 0 ∨ (0 : Int) ≠ 0)) ∨ 1 = 0); omega
theorem rise2 : Rise [1, 2] := ⟨by decide, by decide, fun i hi => by
  have : i = 0 ∨ i = 1 := by simp at hi; omega
  rcases this with rfl | rfl <;> decide⟩
theorem rise3 : Rise [1, 2, 3] := ⟨by decide, by decide, fun i hi => by
  have : i = 0 ∨ i = 1 ∨ i = 2 := by simp at hi; omega
  rcases this with rfl | rfl | rfl <;> decide⟩
/-! What the run shows. -/
def q0 : PS := newS 10 3 [1, 2]
def q1 : PS := (send q0 0 [120]).1
def m1 : Ans := ⟨16, 1, 101, 1, 0, 7, 0⟩
def q2 : PS := (step q1 1 m1).1
def m2 : Ans := ⟨18, 1, 101, 2, 15, 0, 2⟩
def q3 : PS := (step q2 3 m2).1
def q4 : PS := (tick q3 4).1
def m3 : Ans := ⟨18, 2, 101, 3, 0, 40, 0⟩
def q5 : PS := (step q4 5 m3).1
theorem q1_out : (send q0 0 [120]).2 = (some ⟨1, 1, 0, 0, 0, none⟩, 1, 0) := by rfl
theorem q2_out : (step q1 1 m1).2 = some ⟨1, 2, 7, 0, 0, some [120]⟩ := by rfl
theorem q3_out : (step q2 3 m2).2 = none := by rfl
theorem q4_out : (tick q3 4).2 = some ⟨2, 3, 7, 0, 0, some [120]⟩ := by rfl
theorem q5_out : (step q4 5 m3).2 = none := by rfl
theorem q5_end : q5.ended = [⟨1, 40, 7, 0, 0, [120], 0⟩] := by rfl
theorem q5_open : q5.open_ = 0 := by rfl
theorem q0_pi : PI q0 0 0 := PI.new (by decide) (by decide) (by decide) (by decide)
theorem q1_pi : PI q1 0 0 := q0_pi.send (by decide) 0 [120]
theorem q2_pi : ∃ k, PI q2 0 k := q1_pi.step 1 m1
theorem q3_pi : ∃ k, PI q3 0 k := by obtain ⟨k, h⟩ := q2_pi; exact h.step 3 m2
theorem q4_pi : ∃ k, PI q4 0 k := by obtain ⟨k, h⟩ := q3_pi; exact h.tick 4
theorem PI.pb3 {s b k} (h : PI s b k) (m : Ans) : ∀ r, s.under = some r → PB (Go.Proofs.Ytlcglmimndkleaa.ended { s with under := none } r m) := fun r hu => by obtain ⟨k', h2⟩ := h.ended hu m; exact h2.pb

set_option maxRecDepth 20000 in
theorem done_ok (pb : Nat) (s : PS) : Cn Try.prog 11 [.pointer (some ⟨pb, 0, none⟩)] (fun _ => True) [PR pb s] fun v G => ∃ ea ec, v = .slice ea s.ended.length ec ∧ G = [PR pb (doneS s), arr 47 12 ea ec (s.ended.flatMap Seen.cells)] := by
  refine .enter Try.func11 rfl (by kernel_rfl) rfl fun R k => ?_
  refine .open_ (σ := PX × Nat × List CallX) (φ := fun y => PW s y.2.2) (B := fun y => PL pb s y.1 y.2.1 y.2.2 none 0 0) .head (fun _ h => h) (fun y hW => ?_)
  obtain ⟨x, rb, cl⟩ := y
  dsimp only at hW ⊢
  unfold PL
  simp only [List.cons_append, List.nil_append]
  refine .seq ?_
  refine .region ?_
  refine .rd (.assign rfl) ?_
  refine .nil ?_
  refine .seq ?_
  refine .region ?_
  refine .rd (.move rfl) ?_
  refine .rd (.nilCheck rfl) ?_
  refine .rd (.fieldAddr fd60_13 rfl) ?_
  refine .rd (.ld na44 rfl .head rfl) ?_
  refine .rd (.assign rfl) ?_
  refine .nil ?_
  refine .seq ?_
  refine .region ?_
  refine .rd (.move rfl) ?_
  refine .rd (.nilCheck rfl) ?_
  refine .rd (.fieldAddr fd60_13 rfl) ?_
  refine .ef0 (.store ts44 rfl rfl .head rfl (Nat.le_of_ble_eq_true rfl)) ?_
  rintro _ _ rfl
  refine .nil ?_
  refine .seq ?_
  refine .region ?_
  refine .rd (.move rfl) ?_
  refine .rd (.assign rfl) ?_
  refine .nil ?_
  refine .nilArr 47 12 none ?_
  refine .cast (X' := EL (doneS s) ({ x with ea := none, ec := 0 })) (rfl) ?_
  refine .perm (.cons (.tail .head) (.cons .head (.cons .head (.cons .head (.cons .head (.cons .head (.cons .head (.cons .head (.cons .head (.cons .head (.cons .head .nil))))))))))) ?_
  refine .cast (X' := blk pb (PS.cells (doneS s) ({ x with ea := none, ec := 0 }) none 0 0) 60) (rfl) ?_
  refine .perm (.cons (.tail (.tail (.tail (.tail (.tail (.tail (.tail (.tail (.tail .head))))))))) (.cons .head (.cons .head (.cons .head (.cons .head (.cons .head (.cons .head (.cons .head (.cons .head (.cons .head (.cons .head .nil))))))))))) ?_
  refine .cast (X' := know (KN (doneS s) ({ x with ea := none, ec := 0 }) cl)) (rfl) ?_
  obtain ⟨X, hX⟩ : ∃ X : PX, X = { x with ea := none, ec := 0 } := ⟨_, rfl⟩
  refine .close (X := PR pb (doneS s)) (.cons (.tail .head) (.cons (.tail (.tail .head)) (.cons (.tail (.tail .head)) (.cons (.tail (.tail .head)) (.cons (.tail (.tail .head)) (.cons (.tail (.tail .head)) (.cons (.tail (.tail .head)) (.cons (.tail .head) (.cons .head .nil))))))))) (fun _ H => ⟨(X, rb, cl), { hW with }, by rw [hX]; exact H⟩) ?_
  refine .perm (.cons (.tail .head) (.cons .head (.cons .head .nil))) ?_
  refine .cast (X' := arr 47 12 x.ea x.ec (s.ended.flatMap Seen.cells)) (rfl) ?_
  refine .retP Try.func11 (.cons (.tmp rfl) .nil) (.cons (.tail .head) (.cons .head (.cons .head .nil))) ?_
  exact ⟨[_, _], ⟨x.ea, x.ec, rfl, rfl⟩, rfl⟩

set_option maxRecDepth 20000 in
theorem open_ok (pb : Nat) (s : PS) : Cn Try.prog 13 [.pointer (some ⟨pb, 0, none⟩)] (fun _ => True) [PR pb s] fun v G => v = .int .i64 s.open_ ∧ G = [PR pb s] := by
  refine .enter Try.func13 rfl (by kernel_rfl) rfl fun R k => ?_
  refine .open_ (σ := PX × Nat × List CallX) (φ := fun y => PW s y.2.2) (B := fun y => PL pb s y.1 y.2.1 y.2.2 none 0 0) .head (fun _ h => h) (fun y hW => ?_)
  obtain ⟨x, rb, cl⟩ := y
  dsimp only at hW ⊢
  unfold PL
  simp only [List.cons_append, List.nil_append]
  refine .seq ?_
  refine .region ?_
  refine .rd (.assign rfl) ?_
  refine .nil ?_
  refine .seq ?_
  refine .region ?_
  refine .rd (.move rfl) ?_
  refine .rd (.nilCheck rfl) ?_
  refine .rd (.fieldAddr fd60_12 rfl) ?_
  refine .rd (.ld na3 rfl .head rfl) ?_
  refine .rd (.assign rfl) ?_
  refine .nil ?_
  refine .close (X := PR pb s) (.cons .head (.cons .head (.cons .head (.cons .head (.cons .head (.cons .head (.cons .head (.cons .head (.cons .head .nil))))))))) (fun _ H => ⟨(x, rb, cl), hW, H⟩) ?_
  refine .retP Try.func13 (.cons (.tmp rfl) .nil) (.cons .head (.cons .head .nil)) ?_
  exact ⟨[_], ⟨rfl, rfl⟩, rfl⟩

end Go.Proofs.Ytlcglmimndkleaa


namespace Go.Proofs.Ytlcglmimndkleaa
open Go Go.Sp

set_option linter.unusedVariables false

namespace prod10
theorem ti3 : TI Try.prog 3 1 8 (.int .i64 0) := .of (by kernel_rfl)
theorem bld41_1 (x0 : ByteArray) (w : World) : (Instr.build 41 (([1] : List Nat).zip [.string x0]).toArray).run Try.prog w = .ok (.agg #[.string ⟨#[]⟩, .string x0, .int .i64 0]) w := by kernel_rfl
theorem ti41 : TI Try.prog 41 3 40 (.agg #[.string ⟨#[]⟩, .string ⟨#[]⟩, .int .i64 0]) := .of (by kernel_rfl)
theorem bld32_0_1_2_3_6 (x0 : Int) (x1 : Int) (x2 : Int) (x3 : Int) (x4 : Int) (w : World) : (Instr.build 32 (([0, 1, 2, 3, 6] : List Nat).zip [.int .i64 x0, .int .i64 x1, .int .i64 x2, .int .i64 x3, .int .i64 x4]).toArray).run Try.prog w = .ok (.agg #[.int .i64 x0, .int .i64 x1, .int .i64 x2, .int .i64 x3, .int .i64 0, .int .i64 0, .int .i64 x4, .int .i64 0, .int .i64 0, .int .i64 0, .int .i64 0, .int .i64 0, .int .i64 0, .int .i64 0, .int .i64 0, .int .i64 0, .string ⟨#[]⟩, .string ⟨#[]⟩, .slice none 0 0, .slice none 0 0, .slice none 0 0]) w := by kernel_rfl
theorem bld32_0_1_2_3_15_7 (x0 : Int) (x1 : Int) (x2 : Int) (x3 : Int) (x4 : Int) (x5 : Int) (w : World) : (Instr.build 32 (([0, 1, 2, 3, 15, 7] : List Nat).zip [.int .i64 x0, .int .i64 x1, .int .i64 x2, .int .i64 x3, .int .i64 x4, .int .i64 x5]).toArray).run Try.prog w = .ok (.agg #[.int .i64 x0, .int .i64 x1, .int .i64 x2, .int .i64 x3, .int .i64 0, .int .i64 0, .int .i64 0, .int .i64 x5, .int .i64 0, .int .i64 0, .int .i64 0, .int .i64 0, .int .i64 0, .int .i64 0, .int .i64 0, .int .i64 x4, .string ⟨#[]⟩, .string ⟨#[]⟩, .slice none 0 0, .slice none 0 0, .slice none 0 0]) w := by kernel_rfl
theorem ts32 : TS Try.prog 32 21 := .of (by kernel_rfl)
theorem fd32_0 : FD Try.prog 32 0 0 := .of Try.underlying32 (by kernel_rfl)
theorem na3 : NotAgg Try.prog 3 := ⟨_, Try.underlying3, trivial⟩
theorem fd32_2 : FD Try.prog 32 2 2 := .of Try.underlying32 (by kernel_rfl)
theorem fd32_11 : FD Try.prog 32 11 11 := .of Try.underlying32 (by kernel_rfl)
theorem fd32_18 : FD Try.prog 32 18 18 := .of Try.underlying32 (by kernel_rfl)
theorem na29 : NotAgg Try.prog 29 := ⟨_, Try.underlying29, trivial⟩
theorem ts52 : TS Try.prog 52 6 := .of (by kernel_rfl)
theorem fd52_2 : FD Try.prog 52 2 2 := .of Try.underlying52 (by kernel_rfl)
theorem fd32_3 : FD Try.prog 32 3 3 := .of Try.underlying32 (by kernel_rfl)
theorem ts47 : TS Try.prog 47 12 := .of (by kernel_rfl)
theorem fd47_4 : FD Try.prog 47 4 4 := .of Try.underlying47 (by kernel_rfl)
theorem fd47_1 : FD Try.prog 47 1 1 := .of Try.underlying47 (by kernel_rfl)
end prod10
open prod10

theorem one_out {zs : List OutX} {o : Out} (h : zs.map (·.o) = [o]) : ∃ b ra rc, zs = [⟨o, b, ra, rc⟩] := by
  match zs, h with
  | [z], h => simp at h; exact ⟨z.b, z.ra, z.rc, by rw [← h]⟩
theorem no_out {zs : List OutX} (h : zs.map (·.o) = []) : zs = [] := by simpa using h
theorem RowAt.cells2 {b o : Nat} {l : List Value} {v : Value} {w : World} (h : RowAt (some ⟨b, o, none⟩) (v :: l) w) : CellsAt b o (v :: l) w := by
  rcases h with h | ⟨b', o', e, h⟩
  · cases h
  · cases e; exact h

set_option maxHeartbeats 2000000 in
set_option maxRecDepth 20000 in
theorem shown_ok : Cn Try.prog 5 [] (fun _ => True) [] fun v G => v = .bool true ∧ G = [] := by
  refine .enter Try.func5 rfl (by kernel_rfl) rfl fun R k => ?_
  refine .seq ?_
  refine .region ?_
  refine .rd (.assign rfl) ?_
  refine .nil ?_
  refine .seq ?_
  refine .region ?_
  refine .ef (.buildSlice (vs := [.int .i64 1, .int .i64 2]) (cs := [.int .i64 1, .int .i64 2]) Try.underlying28 ti3 rfl (by decide) (by first | rfl | kernel_rfl) (ones.of rfl)) ?_
  rintro _ _ ⟨bl, rfl, rfl⟩
  refine .fn rfl rfl .nil (((Knows.blk .head).mono fun _ h => rowBlk h)) (New_ok (some ⟨bl, 0, none⟩) _ [1, 2] 10 3 rise2 (by decide) (by decide)) (fun v G1 hq => ?_)
  obtain ⟨pb, x, ⟨hx1, hx2, hx3⟩, rfl, rfl⟩ := hq
  simp only [List.cons_append, List.nil_append]
  refine .rd (.move rfl) ?_
  refine .rd (.extract rfl rfl) ?_
  refine .rd (.extract rfl rfl) ?_
  refine .rd (.assign rfl) ?_
  refine .rd (.assign rfl) ?_
  refine .nil ?_
  refine .cast (X' := blk pb (PS.cells (newS 10 3 [1, 2]) x none 0 0) 60) (rfl) ?_
  refine .perm (.cons (.tail .head) (.cons .head (.cons .head (.cons .head (.cons .head (.cons .head .nil)))))) ?_
  refine .cast (X' := IM x.nb (PS.next (newS 10 3 [1, 2]))) (rfl) ?_
  refine .perm (.cons (.tail (.tail .head)) (.cons .head (.cons .head (.cons .head (.cons .head (.cons .head .nil)))))) ?_
  refine .cast (X' := IM x.ab (PS.aims (newS 10 3 [1, 2]))) (rfl) ?_
  refine .nilArr 62 1 x.ca ?_
  refine .cast (X' := RowC x []) (by unfold RowC; rw [hx1]; rfl) ?_
  refine .nilArr 69 1 x.ua ?_
  refine .cast (X' := UL (newS 10 3 [1, 2]) x 0) (by unfold UL; rw [hx2]; rfl) ?_
  refine .nilArr 47 12 x.ea ?_
  refine .cast (X' := EL (newS 10 3 [1, 2]) x) (by unfold EL; rw [hx3]; rfl) ?_
  refine .close (X := bag CB []) (B := []) .nil (fun _ _ => trivial) ?_
  refine .close (X := reqR [] (PS.under (newS 10 3 [1, 2])) 0) (B := []) .nil (fun _ _ => trivial) ?_
  refine .knowMono (KN (newS 10 3 [1, 2]) x []) (.tail (.tail (.tail (.tail (.tail (.tail (.tail (.tail .head)))))))) (fun w h => ⟨h, fun y hy => by cases hy⟩) ?_
  refine .close (X := PR pb (newS 10 3 [1, 2])) (.cons (.tail (.tail (.tail (.tail (.tail (.tail (.tail (.tail .head)))))))) (.cons (.tail .head) (.cons (.tail .head) (.cons (.tail (.tail (.tail (.tail .head)))) (.cons (.tail (.tail (.tail (.tail .head)))) (.cons (.tail (.tail (.tail .head))) (.cons (.tail (.tail .head)) (.cons (.tail .head) (.cons .head .nil))))))))) (fun _ H => ⟨(x, 0, []), ⟨rfl, by simp⟩, H⟩) ?_
  refine .cast (X' := PR pb q0) (rfl) ?_
  refine .seq ?_
  refine .seq ?_
  refine .region ?_
  refine .rd (.move rfl) ?_
  refine .rd (.eqNilP Try.underlying24 rfl rfl) ?_
  refine .rd (.move rfl) ?_
  refine .on (t := 17) rfl rfl ?_
  refine .rd (.move rfl) ?_
  refine .on (t := 17) rfl rfl ?_
  refine .rd (.neI rfl rfl) ?_
  refine .alter (t := 19) (v' := .bool false) rfl (congrArg Value.bool (by first | rfl | decide)) ?_
  refine .rd (.pickF rfl rfl) ?_
  refine .nil ?_
  refine .condF rfl ?_
  refine .skip ?_
  refine .seq ?_
  refine .region ?_
  refine .rd (.move rfl) ?_
  refine .rd (.build rfl (bld41_1 _)) ?_
  refine .ef (.buildOne (cs := recC [120]) Try.underlying33 ti41 (by decide) rfl rfl rfl (ones.of rfl)) ?_
  rintro _ _ ⟨br, rfl, rfl⟩
  refine .fn rfl rfl (.cons (.tail .head) .nil) (((Knows.blk .head).mono fun _ h => rowBlk h)) (send_ok pb 0 q0 [120] (some ⟨br, 0, none⟩) 1 q0_pi.pb (fun _ => (q0_pi.sendS (by decide) (by decide) [120]).pb) (by decide) (by decide) (right_bat (by decide))) (fun v G1 hq => ?_)
  obtain ⟨oa1, oc1, zs1, rfl, hz1, rfl⟩ := hq
  simp only [List.cons_append, List.nil_append]
  refine .rd (.move rfl) ?_
  refine .rd (.extract rfl rfl) ?_
  refine .rd (.extract rfl rfl) ?_
  refine .rd (.extract rfl rfl) ?_
  refine .rd (.assign rfl) ?_
  refine .rd (.assign rfl) ?_
  refine .rd (.assign rfl) ?_
  refine .nil ?_
  have hz1 : zs1.map (·.o) = [⟨1, 1, 0, 0, 0, none⟩] := by rw [hz1]; show (send q0 0 [120]).2.1.toList = _; rw [q1_out]; rfl
  obtain ⟨b1, ra1, rc1, rfl⟩ := one_out hz1
  refine .cast (X' := PR pb q1) (rfl) ?_
  refine .seq ?_
  refine .region ?_
  refine .rd (.move rfl) ?_
  refine .rd (.build rfl (bld32_0_1_2_3_6 _ _ _ _ _)) ?_
  refine .fn rfl rfl (.cons .head .nil) (fun _ _ _ => trivial) (step_ok pb 1 q1 m1 q1_pi.pb (q1_pi.pb3 m1) (by decide)) (fun v G1 hq => ?_)
  obtain ⟨oa2, oc2, zs2, rfl, hz2, rfl⟩ := hq
  simp only [List.cons_append, List.nil_append]
  refine .rd (.assign rfl) ?_
  refine .nil ?_
  have hz2 : zs2.map (·.o) = [⟨1, 2, 7, 0, 0, some [120]⟩] := by rw [hz2]; show (step q1 1 m1).2.toList = _; rw [q2_out]; rfl
  obtain ⟨b2, ra2, rc2, rfl⟩ := one_out hz2
  refine .cast (X' := PR pb q2) (rfl) ?_
  refine .seq ?_
  refine .region ?_
  refine .rd (.move rfl) ?_
  refine .rd (.build rfl (bld32_0_1_2_3_15_7 _ _ _ _ _ _)) ?_
  refine .fn rfl rfl (.cons .head .nil) (fun _ _ _ => trivial) (step_ok pb 3 q2 m2 q2_pi.choose_spec.pb (q2_pi.choose_spec.pb3 m2) (by decide)) (fun v G1 hq => ?_)
  obtain ⟨oa3, oc3, zs3, rfl, hz3, rfl⟩ := hq
  simp only [List.cons_append, List.nil_append]
  refine .rd (.assign rfl) ?_
  refine .nil ?_
  have hz3 : zs3.map (·.o) = [] := by rw [hz3]; show (step q2 3 m2).2.toList = _; rw [q3_out]; rfl
  obtain rfl := no_out hz3
  refine .cast (X' := PR pb q3) (rfl) ?_
  refine .seq ?_
  refine .region ?_
  refine .rd (.move rfl) ?_
  refine .fn rfl rfl (.cons .head .nil) (fun _ _ _ => trivial) (tick_ok pb 4 q3 q3_pi.choose_spec.pb (q3_pi.choose_spec.mid 4).choose_spec.pb (by decide)) (fun v G1 hq => ?_)
  obtain ⟨oa4, oc4, zs4, rfl, hz4, rfl⟩ := hq
  simp only [List.cons_append, List.nil_append]
  refine .rd (.assign rfl) ?_
  refine .nil ?_
  have hz4 : zs4.map (·.o) = [⟨2, 3, 7, 0, 0, some [120]⟩] := by rw [hz4]; show (tick q3 4).2.toList = _; rw [q4_out]; rfl
  obtain ⟨b4, ra4, rc4, rfl⟩ := one_out hz4
  refine .cast (X' := PR pb q4) (rfl) ?_
  refine .seq ?_
  refine .region ?_
  refine .rd (.move rfl) ?_
  refine .rd (.build rfl (bld32_0_1_2_3_6 _ _ _ _ _)) ?_
  refine .fn rfl rfl (.cons .head .nil) (fun _ _ _ => trivial) (step_ok pb 5 q4 m3 q4_pi.choose_spec.pb (q4_pi.choose_spec.pb3 m3) (by decide)) (fun v G1 hq => ?_)
  obtain ⟨oa5, oc5, zs5, rfl, hz5, rfl⟩ := hq
  simp only [List.cons_append, List.nil_append]
  refine .rd (.assign rfl) ?_
  refine .nil ?_
  have hz5 : zs5.map (·.o) = [] := by rw [hz5]; show (step q4 5 m3).2.toList = _; rw [q5_out]; rfl
  obtain rfl := no_out hz5
  refine .cast (X' := PR pb q5) (rfl) ?_
  refine .seq ?_
  refine .region ?_
  refine .rd (.move rfl) ?_
  refine .fn rfl rfl (.cons .head .nil) (fun _ _ _ => trivial) (done_ok pb q5) (fun v G1 hq => ?_)
  obtain ⟨ea, ec, rfl, rfl⟩ := hq
  simp only [List.cons_append, List.nil_append]
  refine .rd (.assign rfl) ?_
  refine .nil ?_
  refine .seq ?_
  refine .tell (φ := ∃ b o, oa1 = some ⟨b, o, none⟩) ((Knows.arr (cs := [(⟨⟨1, 1, 0, 0, 0, none⟩, b1, ra1, rc1⟩ : OutX)].flatMap OutX.cells) (.tail (.tail (.tail (.tail (.tail (.tail (.tail (.tail (.tail (.tail .head))))))))))).mono fun _ h => RowAt.addr h (by rw [flat_length OutX.cells_len]; show 0 < 1 * 21; decide)) (fun hh => ?_)
  obtain ⟨d1, e1, hd1⟩ := hh
  refine .tell (φ := ∃ b o, oa2 = some ⟨b, o, none⟩) ((Knows.arr (cs := [(⟨⟨1, 2, 7, 0, 0, some [120]⟩, b2, ra2, rc2⟩ : OutX)].flatMap OutX.cells) (.tail (.tail (.tail (.tail (.tail (.tail (.tail (.tail .head))))))))).mono fun _ h => RowAt.addr h (by rw [flat_length OutX.cells_len]; show 0 < 1 * 21; decide)) (fun hh => ?_)
  obtain ⟨d2, e2, hd2⟩ := hh
  refine .tell (φ := ∃ b o, oa4 = some ⟨b, o, none⟩) ((Knows.arr (cs := [(⟨⟨2, 3, 7, 0, 0, some [120]⟩, b4, ra4, rc4⟩ : OutX)].flatMap OutX.cells) (.tail (.tail (.tail (.tail .head))))).mono fun _ h => RowAt.addr h (by rw [flat_length OutX.cells_len]; show 0 < 1 * 21; decide)) (fun hh => ?_)
  obtain ⟨d4, e4, hd4⟩ := hh
  refine .tell (φ := ∃ b o, ea = some ⟨b, o, none⟩) ((Knows.arr (.tail .head)).mono fun _ h => RowAt.addr h (by rw [flat_length Seen.cells_len, q5_end]; decide)) (fun hh => ?_)
  obtain ⟨de, ee, hde⟩ := hh
  refine .knowMono (OutX.at_ ⟨⟨1, 2, 7, 0, 0, some [120]⟩, b2, ra2, rc2⟩) (.tail (.tail (.tail (.tail (.tail (.tail (.tail (.tail (.tail .head))))))))) (fun w h => h _ (.head _)) ?_
  refine .region ?_
  refine .rd (.move rfl) ?_
  refine .rd (.eqI rfl rfl) ?_
  refine .alter (t := 43) (v' := .bool true) rfl (congrArg Value.bool (by rw [q1_out]; rfl)) ?_
  refine .rd (.move rfl) ?_
  refine .on (t := 44) rfl rfl ?_
  refine .rd (.move rfl) ?_
  refine .on (t := 44) rfl rfl ?_
  refine .rd (.eqI rfl rfl) ?_
  refine .alter (t := 46) (v' := .bool true) rfl (congrArg Value.bool (by rw [q1_out]; rfl)) ?_
  refine .rd (.pickT rfl rfl) ?_
  refine .rd (.move rfl) ?_
  refine .on (t := 48) rfl rfl ?_
  refine .rd (.move rfl) ?_
  refine .on (t := 48) rfl rfl ?_
  refine .rd (.lenL rfl rfl Try.underlying36 rfl) ?_
  refine .on (t := 48) rfl rfl ?_
  refine .rd (.eqI rfl rfl) ?_
  refine .alter (t := 51) (v' := .bool true) rfl (congrArg Value.bool (by first | rfl | decide)) ?_
  refine .rd (.pickT rfl rfl) ?_
  refine .rd (.move rfl) ?_
  refine .on (t := 53) rfl rfl ?_
  refine .rd (.move rfl) ?_
  refine .on (t := 53) rfl rfl ?_
  refine .rd (.indexAddr (b := d1) (o := e1) Try.underlying36 ts32 (by show some (Value.slice oa1 _ _) = _; rw [hd1]) rfl (by decide) (by show (0 : Int) < ((1 : Nat) : Int); decide)) ?_
  refine .on (t := 53) rfl rfl ?_
  refine .rd (.fieldAddr fd32_0 rfl) ?_
  refine .on (t := 53) rfl rfl ?_
  refine .rd (.load na3 rfl (Knows.one (i := 0) (Knows.elem (f := OutX.cells) OutX.cells_len (by decide) ((Knows.arr (cs := [(⟨⟨1, 1, 0, 0, 0, none⟩, b1, ra1, rc1⟩ : OutX)].flatMap OutX.cells) (.tail (.tail (.tail (.tail (.tail (.tail (.tail (.tail (.tail (.tail .head))))))))))).mono fun _ h => hd1 ▸ h) (i := 0) rfl) rfl)) ?_
  refine .on (t := 53) rfl rfl ?_
  refine .rd (.eqI rfl rfl) ?_
  refine .alter (t := 58) (v' := .bool true) rfl (congrArg Value.bool (by first | rfl | decide)) ?_
  refine .rd (.pickT rfl rfl) ?_
  refine .rd (.move rfl) ?_
  refine .on (t := 60) rfl rfl ?_
  refine .rd (.move rfl) ?_
  refine .on (t := 60) rfl rfl ?_
  refine .rd (.indexAddr (b := d1) (o := e1) Try.underlying36 ts32 (by show some (Value.slice oa1 _ _) = _; rw [hd1]) rfl (by decide) (by show (0 : Int) < ((1 : Nat) : Int); decide)) ?_
  refine .on (t := 60) rfl rfl ?_
  refine .rd (.fieldAddr fd32_2 rfl) ?_
  refine .on (t := 60) rfl rfl ?_
  refine .rd (.load na3 rfl (Knows.one (i := 2) (Knows.elem (f := OutX.cells) OutX.cells_len (by decide) ((Knows.arr (cs := [(⟨⟨1, 1, 0, 0, 0, none⟩, b1, ra1, rc1⟩ : OutX)].flatMap OutX.cells) (.tail (.tail (.tail (.tail (.tail (.tail (.tail (.tail (.tail (.tail .head))))))))))).mono fun _ h => hd1 ▸ h) (i := 0) rfl) rfl)) ?_
  refine .on (t := 60) rfl rfl ?_
  refine .rd (.eqI rfl rfl) ?_
  refine .alter (t := 65) (v' := .bool true) rfl (congrArg Value.bool (by first | rfl | decide)) ?_
  refine .rd (.pickT rfl rfl) ?_
  refine .rd (.move rfl) ?_
  refine .on (t := 67) rfl rfl ?_
  refine .rd (.move rfl) ?_
  refine .on (t := 67) rfl rfl ?_
  refine .rd (.indexAddr (b := d1) (o := e1) Try.underlying36 ts32 (by show some (Value.slice oa1 _ _) = _; rw [hd1]) rfl (by decide) (by show (0 : Int) < ((1 : Nat) : Int); decide)) ?_
  refine .on (t := 67) rfl rfl ?_
  refine .rd (.fieldAddr fd32_11 rfl) ?_
  refine .on (t := 67) rfl rfl ?_
  refine .rd (.load na3 rfl (Knows.one (i := 11) (Knows.elem (f := OutX.cells) OutX.cells_len (by decide) ((Knows.arr (cs := [(⟨⟨1, 1, 0, 0, 0, none⟩, b1, ra1, rc1⟩ : OutX)].flatMap OutX.cells) (.tail (.tail (.tail (.tail (.tail (.tail (.tail (.tail (.tail (.tail .head))))))))))).mono fun _ h => hd1 ▸ h) (i := 0) rfl) rfl)) ?_
  refine .on (t := 67) rfl rfl ?_
  refine .rd (.eqI rfl rfl) ?_
  refine .alter (t := 72) (v' := .bool true) rfl (congrArg Value.bool (by first | rfl | decide)) ?_
  refine .rd (.pickT rfl rfl) ?_
  refine .rd (.move rfl) ?_
  refine .on (t := 74) rfl rfl ?_
  refine .rd (.move rfl) ?_
  refine .on (t := 74) rfl rfl ?_
  refine .rd (.lenL rfl rfl Try.underlying36 rfl) ?_
  refine .on (t := 74) rfl rfl ?_
  refine .rd (.eqI rfl rfl) ?_
  refine .alter (t := 77) (v' := .bool true) rfl (congrArg Value.bool (by first | rfl | decide)) ?_
  refine .rd (.pickT rfl rfl) ?_
  refine .rd (.move rfl) ?_
  refine .on (t := 79) rfl rfl ?_
  refine .rd (.move rfl) ?_
  refine .on (t := 79) rfl rfl ?_
  refine .rd (.indexAddr (b := d2) (o := e2) Try.underlying36 ts32 (by show some (Value.slice oa2 _ _) = _; rw [hd2]) rfl (by decide) (by show (0 : Int) < ((1 : Nat) : Int); decide)) ?_
  refine .on (t := 79) rfl rfl ?_
  refine .rd (.fieldAddr fd32_0 rfl) ?_
  refine .on (t := 79) rfl rfl ?_
  refine .rd (.load na3 rfl (Knows.one (i := 0) (Knows.elem (f := OutX.cells) OutX.cells_len (by decide) ((Knows.arr (cs := [(⟨⟨1, 2, 7, 0, 0, some [120]⟩, b2, ra2, rc2⟩ : OutX)].flatMap OutX.cells) (.tail (.tail (.tail (.tail (.tail (.tail (.tail (.tail (.tail .head)))))))))).mono fun _ h => hd2 ▸ h) (i := 0) rfl) rfl)) ?_
  refine .on (t := 79) rfl rfl ?_
  refine .rd (.eqI rfl rfl) ?_
  refine .alter (t := 84) (v' := .bool true) rfl (congrArg Value.bool (by first | rfl | decide)) ?_
  refine .rd (.pickT rfl rfl) ?_
  refine .rd (.move rfl) ?_
  refine .on (t := 86) rfl rfl ?_
  refine .rd (.move rfl) ?_
  refine .on (t := 86) rfl rfl ?_
  refine .rd (.indexAddr (b := d2) (o := e2) Try.underlying36 ts32 (by show some (Value.slice oa2 _ _) = _; rw [hd2]) rfl (by decide) (by show (0 : Int) < ((1 : Nat) : Int); decide)) ?_
  refine .on (t := 86) rfl rfl ?_
  refine .rd (.fieldAddr fd32_18 rfl) ?_
  refine .on (t := 86) rfl rfl ?_
  refine .rd (.load na29 rfl (Knows.one (i := 18) (Knows.elem (f := OutX.cells) OutX.cells_len (by decide) ((Knows.arr (cs := [(⟨⟨1, 2, 7, 0, 0, some [120]⟩, b2, ra2, rc2⟩ : OutX)].flatMap OutX.cells) (.tail (.tail (.tail (.tail (.tail (.tail (.tail (.tail (.tail .head)))))))))).mono fun _ h => hd2 ▸ h) (i := 0) rfl) rfl)) ?_
  refine .on (t := 86) rfl rfl ?_
  refine .rd (.lenL rfl rfl Try.underlying29 rfl) ?_
  refine .on (t := 86) rfl rfl ?_
  refine .rd (.eqI rfl rfl) ?_
  refine .alter (t := 92) (v' := .bool true) rfl (congrArg Value.bool (by first | rfl | decide)) ?_
  refine .rd (.pickT rfl rfl) ?_
  refine .rd (.move rfl) ?_
  refine .on (t := 94) rfl rfl ?_
  refine .rd (.move rfl) ?_
  refine .on (t := 94) rfl rfl ?_
  refine .rd (.indexAddr (b := d2) (o := e2) Try.underlying36 ts32 (by show some (Value.slice oa2 _ _) = _; rw [hd2]) rfl (by decide) (by show (0 : Int) < ((1 : Nat) : Int); decide)) ?_
  refine .on (t := 94) rfl rfl ?_
  refine .rd (.fieldAddr fd32_18 rfl) ?_
  refine .on (t := 94) rfl rfl ?_
  refine .rd (.load na29 rfl (Knows.one (i := 18) (Knows.elem (f := OutX.cells) OutX.cells_len (by decide) ((Knows.arr (cs := [(⟨⟨1, 2, 7, 0, 0, some [120]⟩, b2, ra2, rc2⟩ : OutX)].flatMap OutX.cells) (.tail (.tail (.tail (.tail (.tail (.tail (.tail (.tail (.tail .head)))))))))).mono fun _ h => hd2 ▸ h) (i := 0) rfl) rfl)) ?_
  refine .on (t := 94) rfl rfl ?_
  refine .rd (.indexAddr (b := b2) (o := 0) Try.underlying29 ts52 rfl rfl (by decide) (by decide)) ?_
  refine .on (t := 94) rfl rfl ?_
  refine .rd (.fieldAddr fd52_2 rfl) ?_
  refine .on (t := 94) rfl rfl ?_
  refine .rd (.load na3 rfl (Knows.one (i := 2) ((Knows.know .head).mono fun _ h => RowAt.cells2 h.1) rfl)) ?_
  refine .on (t := 94) rfl rfl ?_
  refine .rd (.eqI rfl rfl) ?_
  refine .alter (t := 102) (v' := .bool true) rfl (congrArg Value.bool (by first | rfl | decide)) ?_
  refine .rd (.pickT rfl rfl) ?_
  refine .rd (.move rfl) ?_
  refine .on (t := 104) rfl rfl ?_
  refine .rd (.move rfl) ?_
  refine .on (t := 104) rfl rfl ?_
  refine .rd (.lenL rfl rfl Try.underlying36 rfl) ?_
  refine .on (t := 104) rfl rfl ?_
  refine .rd (.eqI rfl rfl) ?_
  refine .alter (t := 107) (v' := .bool true) rfl (congrArg Value.bool (by first | rfl | decide)) ?_
  refine .rd (.pickT rfl rfl) ?_
  refine .rd (.move rfl) ?_
  refine .on (t := 109) rfl rfl ?_
  refine .rd (.move rfl) ?_
  refine .on (t := 109) rfl rfl ?_
  refine .rd (.lenL rfl rfl Try.underlying36 rfl) ?_
  refine .on (t := 109) rfl rfl ?_
  refine .rd (.eqI rfl rfl) ?_
  refine .alter (t := 112) (v' := .bool true) rfl (congrArg Value.bool (by first | rfl | decide)) ?_
  refine .rd (.pickT rfl rfl) ?_
  refine .rd (.move rfl) ?_
  refine .on (t := 114) rfl rfl ?_
  refine .rd (.move rfl) ?_
  refine .on (t := 114) rfl rfl ?_
  refine .rd (.indexAddr (b := d4) (o := e4) Try.underlying36 ts32 (by show some (Value.slice oa4 _ _) = _; rw [hd4]) rfl (by decide) (by show (0 : Int) < ((1 : Nat) : Int); decide)) ?_
  refine .on (t := 114) rfl rfl ?_
  refine .rd (.fieldAddr fd32_2 rfl) ?_
  refine .on (t := 114) rfl rfl ?_
  refine .rd (.load na3 rfl (Knows.one (i := 2) (Knows.elem (f := OutX.cells) OutX.cells_len (by decide) ((Knows.arr (cs := [(⟨⟨2, 3, 7, 0, 0, some [120]⟩, b4, ra4, rc4⟩ : OutX)].flatMap OutX.cells) (.tail (.tail (.tail (.tail (.tail .head)))))).mono fun _ h => hd4 ▸ h) (i := 0) rfl) rfl)) ?_
  refine .on (t := 114) rfl rfl ?_
  refine .rd (.eqI rfl rfl) ?_
  refine .alter (t := 119) (v' := .bool true) rfl (congrArg Value.bool (by first | rfl | decide)) ?_
  refine .rd (.pickT rfl rfl) ?_
  refine .rd (.move rfl) ?_
  refine .on (t := 121) rfl rfl ?_
  refine .rd (.move rfl) ?_
  refine .on (t := 121) rfl rfl ?_
  refine .rd (.indexAddr (b := d4) (o := e4) Try.underlying36 ts32 (by show some (Value.slice oa4 _ _) = _; rw [hd4]) rfl (by decide) (by show (0 : Int) < ((1 : Nat) : Int); decide)) ?_
  refine .on (t := 121) rfl rfl ?_
  refine .rd (.fieldAddr fd32_3 rfl) ?_
  refine .on (t := 121) rfl rfl ?_
  refine .rd (.load na3 rfl (Knows.one (i := 3) (Knows.elem (f := OutX.cells) OutX.cells_len (by decide) ((Knows.arr (cs := [(⟨⟨2, 3, 7, 0, 0, some [120]⟩, b4, ra4, rc4⟩ : OutX)].flatMap OutX.cells) (.tail (.tail (.tail (.tail (.tail .head)))))).mono fun _ h => hd4 ▸ h) (i := 0) rfl) rfl)) ?_
  refine .on (t := 121) rfl rfl ?_
  refine .rd (.eqI rfl rfl) ?_
  refine .alter (t := 126) (v' := .bool true) rfl (congrArg Value.bool (by first | rfl | decide)) ?_
  refine .rd (.pickT rfl rfl) ?_
  refine .rd (.move rfl) ?_
  refine .on (t := 128) rfl rfl ?_
  refine .rd (.move rfl) ?_
  refine .on (t := 128) rfl rfl ?_
  refine .rd (.lenL rfl rfl Try.underlying36 rfl) ?_
  refine .on (t := 128) rfl rfl ?_
  refine .rd (.eqI rfl rfl) ?_
  refine .alter (t := 131) (v' := .bool true) rfl (congrArg Value.bool (by first | rfl | decide)) ?_
  refine .rd (.pickT rfl rfl) ?_
  refine .rd (.move rfl) ?_
  refine .on (t := 133) rfl rfl ?_
  refine .rd (.move rfl) ?_
  refine .on (t := 133) rfl rfl ?_
  refine .rd (.lenL rfl rfl Try.underlying44 rfl) ?_
  refine .on (t := 133) rfl rfl ?_
  refine .rd (.eqI rfl rfl) ?_
  refine .alter (t := 136) (v' := .bool true) rfl (congrArg Value.bool (by rw [q5_end]; rfl)) ?_
  refine .rd (.pickT rfl rfl) ?_
  refine .rd (.move rfl) ?_
  refine .on (t := 138) rfl rfl ?_
  refine .rd (.move rfl) ?_
  refine .on (t := 138) rfl rfl ?_
  refine .rd (.indexAddr (b := de) (o := ee) Try.underlying44 ts47 (by show some (Value.slice ea _ _) = _; rw [hde]) rfl (by decide) (by rw [q5_end]; decide)) ?_
  refine .on (t := 138) rfl rfl ?_
  refine .rd (.fieldAddr fd47_4 rfl) ?_
  refine .on (t := 138) rfl rfl ?_
  refine .rd (.load na3 rfl (Knows.one (i := 4) (Knows.elem (f := Seen.cells) Seen.cells_len (by decide) ((Knows.arr (.tail (.tail .head))).mono fun _ h => hde ▸ h) (i := 0) (by rw [q5_end]; rfl)) rfl)) ?_
  refine .on (t := 138) rfl rfl ?_
  refine .rd (.eqI rfl rfl) ?_
  refine .alter (t := 143) (v' := .bool true) rfl (congrArg Value.bool (by first | rfl | decide)) ?_
  refine .rd (.pickT rfl rfl) ?_
  refine .rd (.move rfl) ?_
  refine .on (t := 145) rfl rfl ?_
  refine .rd (.move rfl) ?_
  refine .on (t := 145) rfl rfl ?_
  refine .rd (.indexAddr (b := de) (o := ee) Try.underlying44 ts47 (by show some (Value.slice ea _ _) = _; rw [hde]) rfl (by decide) (by rw [q5_end]; decide)) ?_
  refine .on (t := 145) rfl rfl ?_
  refine .rd (.fieldAddr fd47_1 rfl) ?_
  refine .on (t := 145) rfl rfl ?_
  refine .rd (.load na3 rfl (Knows.one (i := 1) (Knows.elem (f := Seen.cells) Seen.cells_len (by decide) ((Knows.arr (.tail (.tail .head))).mono fun _ h => hde ▸ h) (i := 0) (by rw [q5_end]; rfl)) rfl)) ?_
  refine .on (t := 145) rfl rfl ?_
  refine .rd (.eqI rfl rfl) ?_
  refine .alter (t := 150) (v' := .bool true) rfl (congrArg Value.bool (by first | rfl | decide)) ?_
  refine .rd (.pickT rfl rfl) ?_
  refine .rd (.move rfl) ?_
  refine .on (t := 152) rfl rfl ?_
  refine .rd (.move rfl) ?_
  refine .on (t := 152) rfl rfl ?_
  refine .fn rfl rfl (.cons (.tail .head) .nil) (fun _ _ _ => trivial) (open_ok pb (doneS q5)) (fun v G1 hq => ?_)
  obtain ⟨rfl, rfl⟩ := hq
  simp only [List.cons_append, List.nil_append]
  refine .on (t := 152) rfl rfl ?_
  refine .rd (.eqI rfl rfl) ?_
  refine .alter (t := 155) (v' := .bool true) rfl (congrArg Value.bool (by show decide (q5.open_ = 0) = true; rw [q5_open]; rfl)) ?_
  refine .rd (.pickT rfl rfl) ?_
  refine .rd (.assign rfl) ?_
  refine .nil ?_
  refine .retP Try.func5 (.cons (.tmp rfl) .nil) (.cons (.tail (.tail (.tail (.tail (.tail (.tail (.tail (.tail (.tail (.tail (.tail (.tail (.tail (.tail .head)))))))))))))) .nil) ?_
  exact ⟨[], ⟨rfl, rfl⟩, rfl⟩

end Go.Proofs.Ytlcglmimndkleaa


/- A separation logic over the given machine. Part 10: what a statement's arguments are, and a law's row out of its contract. -/
namespace Go.Sp
open Go Go.ChangeShapes Go.WideShapes Go.ChangeAt Go.RowKit

section
variable {H : Type} {enc : TypeId × Value → H} {P : Program} {W : World} {spare : Nat → Bool} {held : Bool}

/-- Every string, slice and map of a reading fits into memory. -/
def Fits (P : Program) (t : TypeId) (d : DataW H) : Prop := ∀ n ∈ d.weights P t, n ≤ 140737488351232

/-- What a reading of type t tells: its cells are those of one of α. -/
def Rd {α : Type} (enc : TypeId × Value → H) (P : Program) (W : World) (spare : Nat → Bool) (held : Bool) (t : TypeId) (cells : α → List Value) (good : α → Prop) : Prop :=
  ∀ (n : Nat) (cs : List Value) (x : DataW H × List MemPlace), DataW.trod enc P W 0 spare held n t cs = some x → Fits P t x.1 → ∃ a, cs = cells a ∧ good a

theorem Rd.int {t} {k : IntKind} (ht : P.underlying t = some (.int k)) : Rd enc P W spare held t (fun n : Int => [.int k n]) (fun n => (Lit.int k n).wf = true) := fun n cs x h _ => by
  obtain ⟨m, rfl, _, hw⟩ := DataW.trod_int ht h
  exact ⟨m, rfl, hw⟩
theorem Rd.bool {t} (ht : P.underlying t = some .bool) : Rd enc P W spare held t (fun b : Bool => [.bool b]) (fun _ => True) := fun n cs x h _ => by
  obtain ⟨m, rfl, _⟩ := DataW.trod_bool ht h
  exact ⟨m, rfl, trivial⟩
theorem Rd.string {t} (ht : P.underlying t = some .string) : Rd enc P W spare held t (fun s : ByteArray => [.string s]) (fun s => s.size ≤ 140737488351232) := fun n cs x h hf => by
  obtain ⟨s, rfl, rfl, _⟩ := DataW.trod_string ht h
  refine ⟨s, rfl, ?_⟩
  have := hf s.data.toList.length (by simp [DataW.weights])
  simpa using this

theorem weightsAll_mem {e : TypeId} {l : List (DataW H)} {d : DataW H} (hd : d ∈ l) {n : Nat} (hn : n ∈ d.weights P e) : n ∈ DataW.weightsAll P e l := by
  induction l with
  | nil => cases hd
  | cons y l ih =>
    rw [DataW.weightsAll, List.mem_append]
    rcases List.mem_cons.1 hd with rfl | h
    · exact .inl hn
    · exact .inr (ih h)
theorem weightsEach_mem {n : Nat} {t : TypeId} {d : DataW H} (hn : n ∈ d.weights P t) : ∀ {ts : List TypeId} {l : List (DataW H)} {i : Nat}, ts[i]? = some t → l[i]? = some d → n ∈ DataW.weightsEach P ts l
  | [], _, _, h, _ => by simp at h
  | _ :: _, [], _, _, h => by simp at h
  | u :: ts, y :: l, 0, h, k => by
    simp at h k; subst h k
    rw [DataW.weightsEach.eq_def]; simp only [List.mem_append]; exact .inl hn
  | u :: ts, y :: l, i + 1, h, k => by
    rw [DataW.weightsEach.eq_def]; simp only [List.mem_append]
    exact .inr (weightsEach_mem hn (ts := ts) (l := l) (i := i) (by simpa using h) (by simpa using k))

/-- One field of a struct. -/
theorem Rd.field {α : Type} {t ft : TypeId} {cells : α → List Value} {good : α → Prop} {fs : Array Field} {n : Nat} {cs : List Value} {x : DataW H × List MemPlace} (ht : P.underlying t = some (.struct fs))
    (h : DataW.trod enc P W 0 spare held n t cs = some x) (hf : Fits P t x.1) (i off sz : Nat) (hi : (fs[i]?).map (fun d => (d.type, d.offset)) = some (ft, off)) (hc : P.cellsOf ft = sz) (r : Rd enc P W spare held ft cells good) :
    ∃ a, (cs.drop off).take sz = cells a ∧ good a := by
  obtain ⟨xs, m, rfl, rfl, hl, hx, hall⟩ := DataW.trod_struct ht h
  cases hfi : fs[i]? with
  | none => simp [hfi] at hi
  | some f =>
    simp [hfi] at hi
    obtain ⟨rfl, rfl⟩ := hi
    have h1 := hall i f hfi
    rw [hc] at h1
    have hlt : i < xs.length := by rw [hx]; exact (Array.getElem?_eq_some_iff.1 hfi).1
    have h2 : xs[i]? = some xs[i] := List.getElem?_eq_getElem hlt
    rw [h2] at h1
    refine r m _ _ h1 fun w hw => hf w ?_
    rw [DataW.weights.eq_def]
    simp only [ht]
    exact weightsEach_mem hw (i := i) (by simp [hfi]) (by simp [h2])

theorem Rd.structLen {t : TypeId} {fs : Array Field} {n : Nat} {cs : List Value} {x : DataW H × List MemPlace} (ht : P.underlying t = some (.struct fs)) (h : DataW.trod enc P W 0 spare held n t cs = some x) : cs.length = P.cellsOf t := by
  obtain ⟨xs, m, rfl, rfl, hl, hx, hall⟩ := DataW.trod_struct ht h
  exact hl

theorem cons_of_len {l : List Value} {n : Nat} (h : l.length = n + 1) : ∃ a t, l = a :: t ∧ t.length = n := by
  cases l with
  | nil => simp at h
  | cons a t => exact ⟨a, t, rfl, by simpa using h⟩

/-- A slice. -/
theorem Rd.slice {α : Type} {t e : TypeId} {s by_ : Nat} {cells : α → List Value} {good : α → Prop} (ht : P.underlying t = some (.slice e)) (hs : P.cellsOf e = s) (hs0 : 0 < s) (hby : P.bytesOf e = by_) (hlen : ∀ a, (cells a).length = s) (hone : ∀ a, ones (cells a))
    (r : Rd enc P W spare held e cells good) :
    Rd enc P W spare held t (fun y : Option Addr × Nat × List α => [.slice y.1 y.2.2.length y.2.1]) (fun y => RowAt y.1 (y.2.2.flatMap cells) W ∧ (∀ a ∈ y.2.2, good a) ∧ y.2.2.length * by_ ≤ 140737488351232 ∧ (y.1 = none → y.2.2 = []) ∧ y.2.2.length ≤ y.2.1) := by
  intro n cs x h hf
  rcases DataW.trod_slice ht h with ⟨rfl, _⟩ | ⟨a, len, cap, elems, rest, m, rfl, rfl, rfl, _, hlc, hcm, hel, heach, _, _⟩
  · exact ⟨(none, 0, []), rfl, .inl rfl, fun _ h => (by cases h), by show 0 * by_ ≤ _; omega, fun _ => rfl, Nat.le_refl _⟩
  · have hw : DataW.weights P t (.slice (elems.map (·.1)) (rest.map (·.1))) = (elems.length + rest.length) * by_ :: (DataW.weightsAll P e (elems.map (·.1)) ++ DataW.weightsAll P e (rest.map (·.1))) := by
      rw [DataW.weights.eq_def]; simp only [ht, hby, List.length_map]
    have hb : len * by_ ≤ 140737488351232 := by
      have h1 := hf _ (by rw [hw]; exact List.mem_cons_self)
      have h2 : len * by_ ≤ (elems.length + rest.length) * by_ := Nat.mul_le_mul_right _ (by omega)
      omega
    have each : ∀ i : Fin len, ∃ y : α, W.cells? 0 (a.add (i * s)) s = some (cells y) ∧ good y := fun i => by
      have h1 := heach i i.2
      rw [hs] at h1
      have hi : (i : Nat) < elems.length := by omega
      rw [List.getElem?_eq_getElem hi, Option.bind_eq_some_iff] at h1
      obtain ⟨cs', hc, hd⟩ := h1
      obtain ⟨y, rfl, hy⟩ := r _ _ _ hd fun w hw' => hf w (by
        rw [hw]
        exact List.mem_cons_of_mem _ (List.mem_append_left _ (weightsAll_mem (List.mem_map_of_mem (List.getElem_mem hi)) hw')))
      exact ⟨y, hc, hy⟩
    let f : Fin len → α := fun i => (each i).choose
    have hf1 : ∀ i : Fin len, W.cells? 0 (a.add (i * s)) s = some (cells (f i)) := fun i => (each i).choose_spec.1
    have hf2 : ∀ i : Fin len, good (f i) := fun i => (each i).choose_spec.2
    have hll : (List.ofFn f).length = len := List.length_ofFn
    refine ⟨(some a, cap, List.ofFn f), by show _ = [Value.slice (some a) (List.ofFn f).length cap]; rw [hll], ?_, ?_, by show (List.ofFn f).length * by_ ≤ _; rw [hll]; exact hb, fun h => (by cases h), by show (List.ofFn f).length ≤ cap; rw [hll]; exact hlc⟩
    · by_cases h0 : len = 0
      · left
        have : List.ofFn f = [] := List.eq_nil_of_length_eq_zero (by rw [hll, h0])
        rw [this]; rfl
      · right
        obtain ⟨_, _, hc0⟩ := World.cells?_some (hf1 ⟨0, by omega⟩)
        have hsp : a.spot = none := by
          have := hc0 0 hs0
          simp only [Nat.zero_mul] at this
          have hz : (cells (f ⟨0, by omega⟩))[0]? = some ((cells (f ⟨0, by omega⟩))[0]'(by rw [hlen]; exact hs0)) := List.getElem?_eq_getElem _
          rw [hz] at this
          simp only [Addr.add, if_true, World.cell?] at this
          split at this
          · split at this
            · cases this
            · simpa using ‹¬ a.spot.isSome = true›
          · cases this
        obtain ⟨b, o, sp⟩ := a
        cases hsp
        refine ⟨b, o, rfl, fun i v hv => ?_, ones.flatMap _ fun y _ => hone y⟩
        have hil : i < (List.ofFn f).length * s := by
          have := (List.getElem?_eq_some_iff.1 hv).1
          rwa [flat_length hlen] at this
        have hq : i / s < len := by rw [← hll]; exact Nat.div_lt_of_lt_mul (by rw [Nat.mul_comm]; exact hil)
        have hr : i % s < s := Nat.mod_lt _ hs0
        have hx : (List.ofFn f)[i / s]? = some (f ⟨i / s, hq⟩) := by rw [List.getElem?_ofFn]; simp [hq]
        obtain ⟨_, _, hc⟩ := World.cells?_some (hf1 ⟨i / s, hq⟩)
        have h1 := hc (i % s) hr
        have hv' : (cells (f ⟨i / s, hq⟩))[i % s]? = some v := by
          have hz : (cells (f ⟨i / s, hq⟩))[i % s]? = some ((cells (f ⟨i / s, hq⟩))[i % s]'(by rw [hlen]; exact hr)) := List.getElem?_eq_getElem _
          have h2 := flat_at hlen _ _ _ hx _ _ hz
          rw [show i / s * s + i % s = i by rw [Nat.mul_comm]; exact Nat.div_add_mod i s] at h2
          rw [h2] at hv
          rw [hz]; exact hv
        rw [hv'] at h1
        rw [Addr_add, Addr_add] at h1
        rw [← h1]
        congr 2
        have := Nat.div_add_mod i s
        rw [Nat.mul_comm] at this
        show o + i = o + i / s * s + i % s
        omega
    · intro y hy
      obtain ⟨i, rfl⟩ := List.mem_ofFn.1 hy
      exact hf2 i

end

theorem okWide_agg {P : Program} {w : World} {r : Reach} {b0 : Nat} {t : TypeId} {fs : Array Field} {v : Value} (ht : P.underlying t = some (.struct fs)) (h : Value.okWide P w r b0 t v) : ∃ cs, v = .agg cs := by
  unfold Value.okWide at h
  rw [ht] at h
  obtain ⟨cs, e, _⟩ := h
  exact ⟨cs, e⟩

/-! ### The row -/

theorem Sat.below {W w' : World} {Γ : List SProp} (h : Sat (amb W) w' (Sp.base W :: Γ)) : Below W.heap.size W w' := by
  have hb : ∀ (k : Nat) (o : Obj), W.heap[k]? = some o → w'.heap[k]? = some o := fun k o hk => h.base k o hk
  obtain ⟨ha, _⟩ := h
  refine ⟨congrArg Amb.os ha, congrArg Amb.tape ha, congrArg Amb.output ha, ?_, fun k hk => ?_⟩
  · by_cases h0 : W.heap.size = 0
    · omega
    · have hlt : W.heap.size - 1 < W.heap.size := by omega
      have h1 := hb (W.heap.size - 1) _ (Array.getElem?_eq_getElem hlt)
      have := (Array.getElem?_eq_some_iff.1 h1).1
      omega
  · have h1 : W.heap[k]? = some W.heap[k] := Array.getElem?_eq_getElem hk
    rw [hb k _ h1, h1]

/-- A law that is proved by a contract: from the memory at the start. -/
theorem Cn.law {P f} {args : List Value} {φ : World → Prop} {W : World} (h : Cn P f args φ [] fun v G => v = .bool true ∧ G = []) (hφ : ∀ w : World, (∀ (b : Nat) (o : Obj), W.heap[b]? = some o → w.heap[b]? = some o) → φ w) :
    Calls P f args.toArray W fun e w' => e = .returned (.bool true) ∧ Below W.heap.size W w' := by
  have h1 := (h (base W) fun A w s => hφ w fun b o hb => s.base b o hb).runs (amb W) [] W (by simpa using Sat.start W)
  refine h1.mono ?_
  rintro e w' ⟨v, Γ', rfl, ⟨Γ1, ⟨rfl, rfl⟩, rfl⟩, s⟩
  exact ⟨rfl, s.below⟩

/-- The same, with what the arguments tell known for good. -/
theorem Cn.lawK {P f} {args : List Value} {φ : World → Prop} {W : World} (h : Cn P f args (fun _ => True) [know φ] fun v G => v = .bool true ∧ G = []) (hφ : ∀ w : World, (∀ (b : Nat) (o : Obj), W.heap[b]? = some o → w.heap[b]? = some o) → φ w) :
    Calls P f args.toArray W fun e w' => e = .returned (.bool true) ∧ Below W.heap.size W w' := by
  have hs : Sat (amb W) W (([know φ] ++ [base W]) ++ []) := by
    have h1 : Sat (amb W) W ([base W] ++ [base W]) := (Sat.start W).map fun _ s => sat.base_dup s
    refine Sat.close (fun h s => ?_) h1
    obtain ⟨k, _, _, l, _, s, _⟩ := s
    obtain ⟨j, jl, jr, e⟩ := sat.base_know hφ s
    exact ⟨j, jl.trans l, jr, e⟩
  refine ((h (base W) fun _ _ _ => trivial).runs (amb W) [] W hs).mono ?_
  rintro e w' ⟨v, Γ', rfl, ⟨Γ1, ⟨rfl, rfl⟩, rfl⟩, s⟩
  exact ⟨rfl, s.below⟩

theorem RowAt.later {W w : World} (H : ∀ (b : Nat) (o : Obj), W.heap[b]? = some o → w.heap[b]? = some o) {a cs} (h : RowAt a cs W) : RowAt a cs w := by
  rcases h with h | ⟨b, o, e, h⟩
  · exact .inl h
  · refine .inr ⟨b, o, e, fun i v hv => ?_, h.2⟩
    have h1 := h.1 i v hv
    unfold World.cell? at h1 ⊢
    cases hb : W.heap[b]? with
    | none => simp [hb] at h1
    | some ob => rw [hb] at h1; rw [H b ob hb]; exact h1

end Go.Sp
