/- Steps through functions of the program, under conditions that each theorem states (part wire8 of a claim). -/
import Derived.Test.YtllpkagplfmlbaaProg
import Derived.Test.YtllpkagplfmlbaaL13
import Derived.Test.YtllpkagplfmlbaaDefs3e
import Derived.Test.YtllpkagplfmlbaaWire7
namespace Go.Proofs.Ytllpkagplfmlbaa
open Go Go.Sp

set_option linter.unusedVariables false

namespace wire8
theorem fd80_0 : FD Try.prog 80 0 0 := .of Try.underlying80 (by kernel_rfl)
theorem na9 : NotAgg Try.prog 9 := ⟨_, Try.underlying9, trivial⟩
theorem fd80_1 : FD Try.prog 80 1 1 := .of Try.underlying80 (by kernel_rfl)
theorem ts4 : TS Try.prog 4 1 := .of (by kernel_rfl)
theorem ts9 : TS Try.prog 9 1 := .of (by kernel_rfl)
end wire8
open wire8



set_option maxRecDepth 20000 in
theorem qdint_ok (r : Nat) (p : Rdr) (hl : p.1.length ≤ 9000000000000000000) : Cn Try.prog 50 [.pointer (some ⟨r, 0, none⟩)] (fun _ => True) [blk r [.string (str p.1), .bool p.2] 80] fun v G => v = .int .i64 (qdI p).1 ∧ G = [blk r [.string (str (qdI p).2.1), .bool (qdI p).2.2] 80] := by
  refine .enter Try.func50 rfl (by kernel_rfl) rfl fun R k => ?_
  refine .seq ?_
  refine .region ?_   -- R0 ref.go:144
  refine .rd (.assign rfl) ?_
  refine .nil ?_
  refine .seq ?_
  refine .region ?_   -- R1 ref.go:145
  refine .rd (.move rfl) ?_
  refine .rd (.nilCheck rfl) ?_
  refine .rd (.fieldAddr fd80_0 rfl) ?_
  refine .rd (.ld na9 rfl .head rfl) ?_
  refine .fn rfl rfl .nil (fun _ _ _ => trivial) (rReadInt_ok p.1 hl) (fun v G1 hq => ?_)
  obtain ⟨rfl, rfl⟩ := hq
  simp only [List.nil_append]
  refine .rd (.move rfl) ?_
  refine .rd (.extract rfl rfl) ?_
  refine .rd (.extract rfl rfl) ?_
  refine .rd (.extract rfl rfl) ?_
  refine .rd (.assign rfl) ?_
  refine .rd (.assign rfl) ?_
  refine .rd (.assign rfl) ?_
  refine .nil ?_
  refine .seq ?_
  refine .seq ?_
  refine .region ?_   -- R2 ref.go:146
  refine .rd (.move rfl) ?_
  refine .rd (.neI rfl rfl) ?_
  refine .nil ?_
  refine .condN rfl (fun c2 => ?_) (fun c2 => ?_)
  · refine .seq ?_
    refine .region ?_   -- R3 ref.go:147
    refine .rd (.move rfl) ?_
    refine .rd (.nilCheck rfl) ?_
    refine .rd (.fieldAddr fd80_1 rfl) ?_
    refine .ef0 (.store ts4 rfl rfl .head rfl (Nat.le_of_ble_eq_true rfl)) ?_
    rintro _ _ rfl
    refine .nil ?_
    refine .seq ?_
    refine .region ?_   -- R4 ref.go:148
    refine .rd (.move rfl) ?_
    refine .rd (.nilCheck rfl) ?_
    refine .rd (.fieldAddr fd80_0 rfl) ?_
    refine .ef0 (.store ts9 rfl rfl .head rfl (Nat.le_of_ble_eq_true rfl)) ?_
    rintro _ _ rfl
    refine .nil ?_
    refine .seq ?_
    refine .region ?_   -- R5 ref.go:149
    refine .rd (.assign rfl) ?_
    refine .nil ?_
    have hq : qdI p = (0, [], true) := by unfold qdI; rw [if_neg c2]
    rw [hq]
    refine .retP Try.func50 (.cons (.tmp rfl) .nil) (.cons .head (.cons .head .nil)) ?_
    exact ⟨[_], ⟨rfl, rfl⟩, rfl⟩
  · refine .skip ?_
    refine .seq ?_
    have hk := rint_le p.1
    refine .region ?_   -- R6 ref.go:151
    refine .rd (.move rfl) ?_
    refine .rd (.move rfl) ?_
    refine .rd (.nilCheck rfl) ?_
    refine .rd (.fieldAddr fd80_0 rfl) ?_
    refine .rd (.ld na9 rfl .head rfl) ?_
    refine .rd (.move rfl) ?_
    refine .rd (.sliceT (l := p.1) (a := (rint p.1).2.1) (h := p.1.length) Try.underlying9 rfl ⟨_, rfl⟩ rfl (by omega) (by omega)) ?_
    refine .rd (.nilCheck rfl) ?_
    refine .rd (.fieldAddr fd80_0 rfl) ?_
    refine .ef0 (.store ts9 rfl rfl .head rfl (Nat.le_of_ble_eq_true rfl)) ?_
    rintro _ _ rfl
    refine .nil ?_
    refine .seq ?_
    refine .region ?_   -- R7 ref.go:152
    refine .rd (.move rfl) ?_
    refine .rd (.assign rfl) ?_
    refine .nil ?_
    have hq : qdI p = ((rint p.1).1, p.1.drop (rint p.1).2.1, p.2) := by unfold qdI; rw [if_pos c2]
    rw [hq]
    refine .cast (X' := blk r [.string (str (p.1.drop (rint p.1).2.1)), .bool p.2] 80) (by show blk r [Value.string (str ((p.1.drop (rint p.1).2.1).take (p.1.length - (rint p.1).2.1))), Value.bool p.2] 80 = _; rw [List.take_of_length_le (by rw [List.length_drop]; omega)]) ?_
    refine .retP Try.func50 (.cons (.tmp rfl) .nil) (.cons .head (.cons .head .nil)) ?_
    exact ⟨[_], ⟨rfl, rfl⟩, rfl⟩

set_option maxRecDepth 20000 in
theorem qdtext_ok (r : Nat) (p : Rdr) (most : Int) (hl : p.1.length ≤ 9000000000000000000) : Cn Try.prog 51 [.pointer (some ⟨r, 0, none⟩), .int .i64 most] (fun _ => True) [blk r [.string (str p.1), .bool p.2] 80] fun v G => v = .string (str (qdT most p).1) ∧ G = [blk r [.string (str (qdT most p).2.1), .bool (qdT most p).2.2] 80] := by
  refine .enter Try.func51 rfl (by kernel_rfl) rfl fun R k => ?_
  refine .seq ?_
  refine .region ?_   -- R0 ref.go:156
  refine .rd (.assign rfl) ?_
  refine .nil ?_
  refine .seq ?_
  refine .region ?_   -- R1 ref.go:157
  refine .rd (.move rfl) ?_
  refine .fn rfl rfl (.cons .head .nil) (fun _ _ _ => trivial) (qdint_ok r p hl) (fun v G1 hq => ?_)
  obtain ⟨rfl, rfl⟩ := hq
  simp only [List.cons_append, List.nil_append]
  refine .rd (.assign rfl) ?_
  refine .nil ?_
  refine .seq ?_
  refine .seq ?_
  refine .region ?_   -- R2 ref.go:158
  refine .rd (.move rfl) ?_
  refine .rd (.lt rfl rfl) ?_
  refine .rd (.move rfl) ?_
  refine .split (t := 11) rfl (fun g2 => ?_) (fun g2 => ?_)
  · replace g2 := of_decide_eq_true g2
    refine .off (t := 11) rfl rfl rfl ?_
    refine .off (t := 11) rfl rfl rfl ?_
    refine .off (t := 11) rfl rfl rfl ?_
    refine .rd (.pickT rfl rfl) ?_
    refine .rd (.move rfl) ?_
    refine .off (t := 16) rfl rfl rfl ?_
    refine .off (t := 16) rfl rfl rfl ?_
    refine .off (t := 16) rfl rfl rfl ?_
    refine .off (t := 16) rfl rfl rfl ?_
    refine .off (t := 16) rfl rfl rfl ?_
    refine .off (t := 16) rfl rfl rfl ?_
    refine .off (t := 16) rfl rfl rfl ?_
    refine .rd (.pickT rfl rfl) ?_
    refine .nil ?_
    refine .condT rfl ?_
    refine .seq ?_
    refine .region ?_   -- R3 ref.go:159
    refine .rd (.move rfl) ?_
    refine .rd (.nilCheck rfl) ?_
    refine .rd (.fieldAddr fd80_1 rfl) ?_
    refine .ef0 (.store ts4 rfl rfl .head rfl (Nat.le_of_ble_eq_true rfl)) ?_
    rintro _ _ rfl
    refine .nil ?_
    refine .seq ?_
    refine .region ?_   -- R4 ref.go:160
    refine .rd (.assign rfl) ?_
    refine .nil ?_
    have hcell : qdT most p = ([], (qdI p).2.1, true) := by unfold qdT; rw [if_neg (by omega)]
    rw [hcell]
    refine .retP Try.func51 (.cons (.tmp rfl) .nil) (.cons .head (.cons .head .nil)) ?_
    exact ⟨[_], ⟨rfl, rfl⟩, rfl⟩
  · replace g2 := of_decide_eq_false g2
    refine .on (t := 11) rfl rfl ?_
    refine .rd (.move rfl) ?_
    refine .on (t := 11) rfl rfl ?_
    refine .rd (.move rfl) ?_
    refine .on (t := 11) rfl rfl ?_
    refine .rd (.gt rfl rfl) ?_
    refine .rd (.pickF rfl rfl) ?_
    refine .rd (.move rfl) ?_
    refine .split (t := 16) rfl (fun g7 => ?_) (fun g7 => ?_)
    · replace g7 := of_decide_eq_true g7
      refine .off (t := 16) rfl rfl rfl ?_
      refine .off (t := 16) rfl rfl rfl ?_
      refine .off (t := 16) rfl rfl rfl ?_
      refine .off (t := 16) rfl rfl rfl ?_
      refine .off (t := 16) rfl rfl rfl ?_
      refine .off (t := 16) rfl rfl rfl ?_
      refine .off (t := 16) rfl rfl rfl ?_
      refine .rd (.pickT rfl rfl) ?_
      refine .nil ?_
      refine .condT rfl ?_
      refine .seq ?_
      refine .region ?_   -- R3 ref.go:159
      refine .rd (.move rfl) ?_
      refine .rd (.nilCheck rfl) ?_
      refine .rd (.fieldAddr fd80_1 rfl) ?_
      refine .ef0 (.store ts4 rfl rfl .head rfl (Nat.le_of_ble_eq_true rfl)) ?_
      rintro _ _ rfl
      refine .nil ?_
      refine .seq ?_
      refine .region ?_   -- R4 ref.go:160
      refine .rd (.assign rfl) ?_
      refine .nil ?_
      have hcell : qdT most p = ([], (qdI p).2.1, true) := by unfold qdT; rw [if_neg (by omega)]
      rw [hcell]
      refine .retP Try.func51 (.cons (.tmp rfl) .nil) (.cons .head (.cons .head .nil)) ?_
      exact ⟨[_], ⟨rfl, rfl⟩, rfl⟩
    · replace g7 := of_decide_eq_false g7
      refine .on (t := 16) rfl rfl ?_
      refine .rd (.move rfl) ?_
      refine .on (t := 16) rfl rfl ?_
      refine .rd (.move rfl) ?_
      refine .on (t := 16) rfl rfl ?_
      refine .rd (.nilCheck rfl) ?_
      refine .on (t := 16) rfl rfl ?_
      refine .rd (.fieldAddr fd80_0 rfl) ?_
      refine .on (t := 16) rfl rfl ?_
      refine .rd (.ld na9 rfl .head rfl) ?_
      refine .on (t := 16) rfl rfl ?_
      refine .rd (.lenT rfl rfl Try.underlying9 rfl) ?_
      refine .on (t := 16) rfl rfl ?_
      refine .rd (.gt rfl rfl) ?_
      refine .rd (.pickF rfl rfl) ?_
      refine .nil ?_
      refine .condP rfl (fun c2 => ?_) (fun c2 => ?_)
      · refine .seq ?_
        refine .region ?_   -- R3 ref.go:159
        refine .rd (.move rfl) ?_
        refine .rd (.nilCheck rfl) ?_
        refine .rd (.fieldAddr fd80_1 rfl) ?_
        refine .ef0 (.store ts4 rfl rfl .head rfl (Nat.le_of_ble_eq_true rfl)) ?_
        rintro _ _ rfl
        refine .nil ?_
        refine .seq ?_
        refine .region ?_   -- R4 ref.go:160
        refine .rd (.assign rfl) ?_
        refine .nil ?_
        have hcell : qdT most p = ([], (qdI p).2.1, true) := by unfold qdT; rw [if_neg (by omega)]
        rw [hcell]
        refine .retP Try.func51 (.cons (.tmp rfl) .nil) (.cons .head (.cons .head .nil)) ?_
        exact ⟨[_], ⟨rfl, rfl⟩, rfl⟩
      · refine .skip ?_
        refine .seq ?_
        have hcell : qdT most p = ((qdI p).2.1.take (qdI p).1.toNat, (qdI p).2.1.drop (qdI p).1.toNat, (qdI p).2.2) := by unfold qdT; rw [if_pos (by omega)]
        obtain ⟨k, hk⟩ : ∃ k : Nat, (qdI p).1 = k := ⟨(qdI p).1.toNat, by omega⟩
        have hkl : k ≤ (qdI p).2.1.length := by omega
        refine .alter (t := 5) (v' := .int .i64 (k : Nat)) rfl (by rw [hk]) ?_
        refine .region ?_   -- R5 ref.go:162
        refine .rd (.move rfl) ?_
        refine .rd (.nilCheck rfl) ?_
        refine .rd (.fieldAddr fd80_0 rfl) ?_
        refine .rd (.ld na9 rfl .head rfl) ?_
        refine .rd (.move rfl) ?_
        refine .rd (.sliceT (l := (qdI p).2.1) (a := 0) (h := k) Try.underlying9 rfl rfl ⟨_, rfl⟩ (by omega) (by omega)) ?_
        refine .rd (.assign rfl) ?_
        refine .nil ?_
        refine .seq ?_
        refine .region ?_   -- R6 ref.go:163
        refine .rd (.move rfl) ?_
        refine .rd (.move rfl) ?_
        refine .rd (.nilCheck rfl) ?_
        refine .rd (.fieldAddr fd80_0 rfl) ?_
        refine .rd (.ld na9 rfl .head rfl) ?_
        refine .rd (.move rfl) ?_
        refine .rd (.sliceT (l := (qdI p).2.1) (a := k) (h := (qdI p).2.1.length) Try.underlying9 rfl ⟨_, rfl⟩ rfl (by omega) (by omega)) ?_
        refine .rd (.nilCheck rfl) ?_
        refine .rd (.fieldAddr fd80_0 rfl) ?_
        refine .ef0 (.store ts9 rfl rfl .head rfl (Nat.le_of_ble_eq_true rfl)) ?_
        rintro _ _ rfl
        refine .nil ?_
        refine .seq ?_
        refine .region ?_   -- R7 ref.go:164
        refine .rd (.move rfl) ?_
        refine .rd (.assign rfl) ?_
        refine .nil ?_
        refine .cast (X' := blk r [.string (str (qdT most p).2.1), .bool (qdT most p).2.2] 80) (by show blk r [Value.string (str (((qdI p).2.1.drop k).take ((qdI p).2.1.length - k))), Value.bool (qdI p).2.2] 80 = _; rw [hcell, List.take_of_length_le (by rw [List.length_drop]; omega), hk]; rfl) ?_
        refine .retP Try.func51 (.cons (.tmp rfl) .nil) (.cons .head (.cons .head .nil)) ?_
        exact ⟨[_], ⟨by simp only [resVal]; rw [hcell, hk]; rfl, rfl⟩, rfl⟩

end Go.Proofs.Ytllpkagplfmlbaa

