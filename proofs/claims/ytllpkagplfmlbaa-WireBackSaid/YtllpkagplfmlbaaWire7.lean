/- Steps through functions of the program, under conditions that each theorem states (part wire7 of a claim). -/
import Derived.Test.YtllpkagplfmlbaaProg
import Derived.Test.YtllpkagplfmlbaaL13
import Derived.Test.YtllpkagplfmlbaaDefs3e
import Derived.Test.YtllpkagplfmlbaaWire6
namespace Go.Proofs.Ytllpkagplfmlbaa
open Go Go.Sp

set_option linter.unusedVariables false

namespace wire7
theorem fd72_0 : FD Try.prog 72 0 0 := .of Try.underlying72 (by kernel_rfl)
theorem na9 : NotAgg Try.prog 9 := ⟨_, Try.underlying9, trivial⟩
theorem fd72_1 : FD Try.prog 72 1 1 := .of Try.underlying72 (by kernel_rfl)
theorem na4 : NotAgg Try.prog 4 := ⟨_, Try.underlying4, trivial⟩
theorem ts4 : TS Try.prog 4 1 := .of (by kernel_rfl)
theorem ts9 : TS Try.prog 9 1 := .of (by kernel_rfl)
end wire7
open wire7



set_option maxRecDepth 20000 in
theorem rdint_ok (r : Nat) (p : Rdr) (hl : p.1.length ≤ 9000000000000000000) : Cn Try.prog 44 [.pointer (some ⟨r, 0, none⟩)] (fun _ => True) [blk r [.string (str p.1), .bool p.2] 72] fun v G => v = .int .i64 (rdI p).1 ∧ G = [blk r [.string (str (rdI p).2.1), .bool (rdI p).2.2] 72] := by
  refine .enter Try.func44 rfl (by kernel_rfl) rfl fun R k => ?_
  refine .seq ?_
  refine .region ?_   -- R0 wire.go:123
  refine .rd (.assign rfl) ?_
  refine .nil ?_
  refine .seq ?_
  refine .region ?_   -- R1 wire.go:124
  refine .rd (.move rfl) ?_
  refine .rd (.nilCheck rfl) ?_
  refine .rd (.fieldAddr fd72_0 rfl) ?_
  refine .rd (.ld na9 rfl .head rfl) ?_
  refine .fn rfl rfl .nil (fun _ _ _ => trivial) (ReadInt_ok p.1 hl) (fun v G1 hq => ?_)
  obtain ⟨rfl, rfl⟩ := hq
  simp only [List.nil_append]
  refine .rd (.move rfl) ?_
  refine .rd (.extract rfl rfl) ?_
  refine .rd (.extract rfl rfl) ?_
  refine .rd (.extract rfl rfl) ?_
  refine .rd (.assign rfl) ?_
  refine .rd (.assign rfl) ?_
  refine .rd (.assign rfl) ?_
  refine .nil ?_
  refine .seq ?_
  refine .region ?_   -- R2 wire.go:125
  refine .rd (.move rfl) ?_
  refine .rd (.move rfl) ?_
  refine .rd (.nilCheck rfl) ?_
  refine .rd (.fieldAddr fd72_1 rfl) ?_
  refine .rd (.ld na4 rfl .head rfl) ?_
  refine .rd (.move rfl) ?_
  refine .split (t := 20) rfl (fun h5 => ?_) (fun h5 => ?_)
  · refine .on (t := 20) rfl rfl ?_
    refine .rd (.move rfl) ?_
    refine .on (t := 20) rfl rfl ?_
    refine .rd (.eqI rfl rfl) ?_
    refine .rd (.pickT rfl rfl) ?_
    refine .rd (.nilCheck rfl) ?_
    refine .rd (.fieldAddr fd72_1 rfl) ?_
    refine .ef0 (.store ts4 rfl rfl .head rfl (Nat.le_of_ble_eq_true rfl)) ?_
    rintro _ _ rfl
    refine .nil ?_
    refine .seq ?_
    have hk := rint_le p.1
    refine .region ?_   -- R3 wire.go:126
    refine .rd (.move rfl) ?_
    refine .rd (.move rfl) ?_
    refine .rd (.nilCheck rfl) ?_
    refine .rd (.fieldAddr fd72_0 rfl) ?_
    refine .rd (.ld na9 rfl .head rfl) ?_
    refine .rd (.move rfl) ?_
    refine .rd (.sliceT (l := p.1) (a := (rint p.1).2.1) (h := p.1.length) Try.underlying9 rfl ⟨_, rfl⟩ rfl (by omega) (by omega)) ?_
    refine .rd (.nilCheck rfl) ?_
    refine .rd (.fieldAddr fd72_0 rfl) ?_
    refine .ef0 (.store ts9 rfl rfl .head rfl (Nat.le_of_ble_eq_true rfl)) ?_
    rintro _ _ rfl
    refine .nil ?_
    refine .seq ?_
    refine .region ?_   -- R4 wire.go:127
    refine .rd (.move rfl) ?_
    refine .rd (.assign rfl) ?_
    refine .nil ?_
    have hcell : [Value.string (str ((p.1.drop (rint p.1).2.1).take (p.1.length - (rint p.1).2.1))), Value.bool (decide ((rint p.1).2.2 = 0))] = [Value.string (str (rdI p).2.1), Value.bool (rdI p).2.2] := by rw [List.take_of_length_le (by rw [List.length_drop]; omega)]; simp only [rdI, h5, Bool.true_and]
    refine .cast (X' := blk r [.string (str (rdI p).2.1), .bool (rdI p).2.2] 72) (by show blk r [_, _] 72 = _; exact congrArg (fun l => blk r l 72) hcell) ?_
    refine .retP Try.func44 (.cons (.tmp rfl) .nil) (.cons .head (.cons .head .nil)) ?_
    exact ⟨[_], ⟨rfl, rfl⟩, rfl⟩
  · refine .off (t := 20) rfl rfl rfl ?_
    refine .off (t := 20) rfl rfl rfl ?_
    refine .rd (.pickF rfl rfl) ?_
    refine .rd (.nilCheck rfl) ?_
    refine .rd (.fieldAddr fd72_1 rfl) ?_
    refine .ef0 (.store ts4 rfl rfl .head rfl (Nat.le_of_ble_eq_true rfl)) ?_
    rintro _ _ rfl
    refine .nil ?_
    refine .seq ?_
    have hk := rint_le p.1
    refine .region ?_   -- R3 wire.go:126
    refine .rd (.move rfl) ?_
    refine .rd (.move rfl) ?_
    refine .rd (.nilCheck rfl) ?_
    refine .rd (.fieldAddr fd72_0 rfl) ?_
    refine .rd (.ld na9 rfl .head rfl) ?_
    refine .rd (.move rfl) ?_
    refine .rd (.sliceT (l := p.1) (a := (rint p.1).2.1) (h := p.1.length) Try.underlying9 rfl ⟨_, rfl⟩ rfl (by omega) (by omega)) ?_
    refine .rd (.nilCheck rfl) ?_
    refine .rd (.fieldAddr fd72_0 rfl) ?_
    refine .ef0 (.store ts9 rfl rfl .head rfl (Nat.le_of_ble_eq_true rfl)) ?_
    rintro _ _ rfl
    refine .nil ?_
    refine .seq ?_
    refine .region ?_   -- R4 wire.go:127
    refine .rd (.move rfl) ?_
    refine .rd (.assign rfl) ?_
    refine .nil ?_
    have hcell : [Value.string (str ((p.1.drop (rint p.1).2.1).take (p.1.length - (rint p.1).2.1))), Value.bool false] = [Value.string (str (rdI p).2.1), Value.bool (rdI p).2.2] := by rw [List.take_of_length_le (by rw [List.length_drop]; omega)]; simp only [rdI, h5, Bool.false_and]
    refine .cast (X' := blk r [.string (str (rdI p).2.1), .bool (rdI p).2.2] 72) (by show blk r [_, _] 72 = _; exact congrArg (fun l => blk r l 72) hcell) ?_
    refine .retP Try.func44 (.cons (.tmp rfl) .nil) (.cons .head (.cons .head .nil)) ?_
    exact ⟨[_], ⟨rfl, rfl⟩, rfl⟩

set_option maxRecDepth 20000 in
theorem within_ok (n m : Int) : Cn Try.prog 53 [.int .i64 n, .int .i64 m] (fun _ => True) [] fun v G => v = .bool (decide (0 ≤ n ∧ n ≤ m)) ∧ G = [] := by
  refine .enter Try.func53 rfl (by kernel_rfl) rfl fun R k => ?_
  refine .seq ?_
  refine .region ?_   -- R0 wire.go:71
  refine .rd (.assign rfl) ?_
  refine .nil ?_
  refine .seq ?_
  refine .region ?_   -- R1 wire.go:71
  refine .rd (.move rfl) ?_
  refine .rd (.ge rfl rfl) ?_
  refine .rd (.move rfl) ?_
  refine .split (t := 7) rfl (fun h2 => ?_) (fun h2 => ?_)
  · replace h2 := of_decide_eq_true h2
    refine .on (t := 7) rfl rfl ?_
    refine .rd (.move rfl) ?_
    refine .on (t := 7) rfl rfl ?_
    refine .rd (.move rfl) ?_
    refine .on (t := 7) rfl rfl ?_
    refine .rd (.le rfl rfl) ?_
    refine .rd (.pickT rfl rfl) ?_
    refine .rd (.assign rfl) ?_
    refine .nil ?_
    refine .retP Try.func53 (.cons (.tmp rfl) .nil) (.cons .head .nil) ?_
    exact ⟨[], ⟨by simp only [resVal]; congr 1; simp [h2], rfl⟩, rfl⟩
  · replace h2 := of_decide_eq_false h2
    refine .off (t := 7) rfl rfl rfl ?_
    refine .off (t := 7) rfl rfl rfl ?_
    refine .off (t := 7) rfl rfl rfl ?_
    refine .rd (.pickF rfl rfl) ?_
    refine .rd (.assign rfl) ?_
    refine .nil ?_
    refine .retP Try.func53 (.cons (.tmp rfl) .nil) (.cons .head .nil) ?_
    exact ⟨[], ⟨by simp only [resVal]; congr 1; simp [h2], rfl⟩, rfl⟩

set_option maxRecDepth 20000 in
theorem rdtext_ok (r : Nat) (p : Rdr) (most : Int) (hl : p.1.length ≤ 9000000000000000000) : Cn Try.prog 45 [.pointer (some ⟨r, 0, none⟩), .int .i64 most] (fun _ => True) [blk r [.string (str p.1), .bool p.2] 72] fun v G => v = .string (str (rdT most p).1) ∧ G = [blk r [.string (str (rdT most p).2.1), .bool (rdT most p).2.2] 72] := by
  refine .enter Try.func45 rfl (by kernel_rfl) rfl fun R k => ?_
  refine .seq ?_
  refine .region ?_   -- R0 wire.go:131
  refine .rd (.assign rfl) ?_
  refine .nil ?_
  refine .seq ?_
  refine .region ?_   -- R1 wire.go:132
  refine .rd (.move rfl) ?_
  refine .fn rfl rfl (.cons .head .nil) (fun _ _ _ => trivial) (rdint_ok r p hl) (fun v G1 hq => ?_)
  obtain ⟨rfl, rfl⟩ := hq
  simp only [List.cons_append, List.nil_append]
  refine .rd (.assign rfl) ?_
  refine .nil ?_
  refine .seq ?_
  refine .seq ?_
  refine .region ?_   -- R2 wire.go:133
  refine .rd (.move rfl) ?_
  refine .rd (.move rfl) ?_
  refine .rd (.move rfl) ?_
  refine .rd (.nilCheck rfl) ?_
  refine .rd (.fieldAddr fd72_0 rfl) ?_
  refine .rd (.ld na9 rfl .head rfl) ?_
  refine .rd (.lenT rfl rfl Try.underlying9 rfl) ?_
  refine .rd (.min2 rfl rfl rfl) ?_
  refine .fn rfl rfl .nil (fun _ _ _ => trivial) (within_ok (rdI p).1 (if ((rdI p).2.1.length : Int) < most then ((rdI p).2.1.length : Int) else most)) (fun v G1 hq => ?_)
  obtain ⟨rfl, rfl⟩ := hq
  simp only [List.nil_append]
  refine .rd (.not rfl) ?_
  refine .nil ?_
  refine .condN rfl (fun c2 => ?_) (fun c2 => ?_)
  · have hcell : rdT most p = ([], (rdI p).2.1, false) := by unfold rdT; rw [if_neg]; intro h; exact c2 ⟨h.1, by split <;> omega⟩
    refine .region ?_   -- R3 wire.go:134
    refine .rd (.move rfl) ?_
    refine .rd (.nilCheck rfl) ?_
    refine .rd (.fieldAddr fd72_1 rfl) ?_
    refine .ef0 (.store ts4 rfl rfl .head rfl (Nat.le_of_ble_eq_true rfl)) ?_
    rintro _ _ rfl
    refine .rd (.assign rfl) ?_
    refine .nil ?_
    refine .seq ?_
    refine .region ?_   -- R4 wire.go:136
    refine .rd (.move rfl) ?_
    refine .rd (.nilCheck rfl) ?_
    refine .rd (.fieldAddr fd72_0 rfl) ?_
    refine .rd (.ld na9 rfl .head rfl) ?_
    refine .rd (.move rfl) ?_
    refine .rd (.sliceT (l := (rdI p).2.1) (a := 0) (h := 0) Try.underlying9 rfl rfl ⟨_, rfl⟩ (by omega) (by omega)) ?_
    refine .rd (.assign rfl) ?_
    refine .nil ?_
    refine .seq ?_
    refine .region ?_   -- R5 wire.go:137
    refine .rd (.move rfl) ?_
    refine .rd (.move rfl) ?_
    refine .rd (.nilCheck rfl) ?_
    refine .rd (.fieldAddr fd72_0 rfl) ?_
    refine .rd (.ld na9 rfl .head rfl) ?_
    refine .rd (.move rfl) ?_
    refine .rd (.sliceT (l := (rdI p).2.1) (a := 0) (h := (rdI p).2.1.length) Try.underlying9 rfl ⟨_, rfl⟩ rfl (by omega) (by omega)) ?_
    refine .rd (.nilCheck rfl) ?_
    refine .rd (.fieldAddr fd72_0 rfl) ?_
    refine .ef0 (.store ts9 rfl rfl .head rfl (Nat.le_of_ble_eq_true rfl)) ?_
    rintro _ _ rfl
    refine .nil ?_
    refine .seq ?_
    refine .region ?_   -- R6 wire.go:138
    refine .rd (.move rfl) ?_
    refine .rd (.assign rfl) ?_
    refine .nil ?_
    refine .cast (X' := blk r [.string (str (rdT most p).2.1), .bool (rdT most p).2.2] 72) (by show blk r [Value.string (str (((rdI p).2.1.drop 0).take ((rdI p).2.1.length - 0))), Value.bool false] 72 = _; rw [hcell, List.take_of_length_le (by rw [List.length_drop]; omega)]; rfl) ?_
    refine .retP Try.func45 (.cons (.tmp rfl) .nil) (.cons .head (.cons .head .nil)) ?_
    exact ⟨[_], ⟨by simp only [resVal]; rw [hcell]; rfl, rfl⟩, rfl⟩
  · have hcell : rdT most p = ((rdI p).2.1.take (rdI p).1.toNat, (rdI p).2.1.drop (rdI p).1.toNat, (rdI p).2.2) := by unfold rdT; rw [if_pos]; obtain ⟨h1, h2⟩ := c2; split at h2 <;> exact ⟨h1, by omega, by omega⟩
    obtain ⟨k, hk⟩ : ∃ k : Nat, (rdI p).1 = k := ⟨(rdI p).1.toNat, by have := c2.1; omega⟩
    have hkl : k ≤ (rdI p).2.1.length := by have := c2.2; split at this <;> omega
    refine .alter (t := 5) (v' := .int .i64 (k : Nat)) rfl (by rw [hk]) ?_
    refine .skip ?_
    refine .seq ?_
    refine .region ?_   -- R4 wire.go:136
    refine .rd (.move rfl) ?_
    refine .rd (.nilCheck rfl) ?_
    refine .rd (.fieldAddr fd72_0 rfl) ?_
    refine .rd (.ld na9 rfl .head rfl) ?_
    refine .rd (.move rfl) ?_
    refine .rd (.sliceT (l := (rdI p).2.1) (a := 0) (h := k) Try.underlying9 rfl rfl ⟨_, rfl⟩ (by omega) (by omega)) ?_
    refine .rd (.assign rfl) ?_
    refine .nil ?_
    refine .seq ?_
    refine .region ?_   -- R5 wire.go:137
    refine .rd (.move rfl) ?_
    refine .rd (.move rfl) ?_
    refine .rd (.nilCheck rfl) ?_
    refine .rd (.fieldAddr fd72_0 rfl) ?_
    refine .rd (.ld na9 rfl .head rfl) ?_
    refine .rd (.move rfl) ?_
    refine .rd (.sliceT (l := (rdI p).2.1) (a := k) (h := (rdI p).2.1.length) Try.underlying9 rfl ⟨_, rfl⟩ rfl (by omega) (by omega)) ?_
    refine .rd (.nilCheck rfl) ?_
    refine .rd (.fieldAddr fd72_0 rfl) ?_
    refine .ef0 (.store ts9 rfl rfl .head rfl (Nat.le_of_ble_eq_true rfl)) ?_
    rintro _ _ rfl
    refine .nil ?_
    refine .seq ?_
    refine .region ?_   -- R6 wire.go:138
    refine .rd (.move rfl) ?_
    refine .rd (.assign rfl) ?_
    refine .nil ?_
    refine .cast (X' := blk r [.string (str (rdT most p).2.1), .bool (rdT most p).2.2] 72) (by show blk r [Value.string (str (((rdI p).2.1.drop k).take ((rdI p).2.1.length - k))), Value.bool (rdI p).2.2] 72 = _; rw [hcell, List.take_of_length_le (by rw [List.length_drop]; omega), hk]; rfl) ?_
    refine .retP Try.func45 (.cons (.tmp rfl) .nil) (.cons .head (.cons .head .nil)) ?_
    exact ⟨[_], ⟨by simp only [resVal]; rw [hcell, hk]; rfl, rfl⟩, rfl⟩

end Go.Proofs.Ytllpkagplfmlbaa

