/- Steps through functions of the program, under conditions that each theorem states (part wire2 of a claim). -/
import Derived.Test.YtllpkagplfmlbaaProg
import Derived.Test.YtllpkagplfmlbaaL13
import Derived.Test.YtllpkagplfmlbaaDefs3c
import Derived.Test.YtllpkagplfmlbaaWire1
namespace Go.Proofs.Ytllpkagplfmlbaa
open Go Go.Sp

set_option linter.unusedVariables false

namespace wire2

end wire2
open wire2



set_option maxRecDepth 20000 in
theorem ReadInt_ok (l : List UInt8) (hl : l.length ≤ 9000000000000000000) : Cn Try.prog 27 [.string (str l)] (fun _ => True) [] fun v G => v = .tuple #[.int .i64 (rint l).1, .int .i64 ((rint l).2.1 : Nat), .int .i64 (rint l).2.2] ∧ G = [] := by
  refine .enter Try.func27 rfl (by kernel_rfl) rfl fun R k => ?_
  refine .seq ?_
  refine .region ?_   -- R0 wire.go:35
  refine .rd (.assign rfl) ?_
  refine .rd (.assign rfl) ?_
  refine .rd (.assign rfl) ?_
  refine .nil ?_
  refine .seq ?_
  refine .region ?_   -- R1 wire.go:36
  refine .rd (.assign rfl) ?_
  refine .nil ?_
  refine .seq ?_
  refine .seq ?_
  refine .region ?_   -- R2 wire.go:37
  refine .rd (.move rfl) ?_
  refine .nil ?_
  refine .block ?_
  refine .loop (σ := Nat × Nat) (fun ⟨i, z⟩ => rintGo (10 - i) i z (l.drop i) = rint l ∧ z < 128 ^ i ∧ i ≤ 10 ∧ i ≤ l.length) (fun ⟨i, z⟩ => 10 - i) (fun ⟨i, z⟩ => [(0, .string (str l)), (5, .int .u64 (z : Int)), (7, .int .i64 (i : Nat))]) (fun ⟨i, z⟩ => [R]) (0, 0) ⟨rfl, by decide, Nat.zero_le _, Nat.zero_le _⟩ (.cons rfl (.cons rfl (.cons rfl .nil))) (.cons .head .nil) (fun s hI ih => ?_)
  obtain ⟨i, z⟩ := s
  dsimp only at hI ih ⊢
  have hi10 := hI.2.2.1
  have hil := hI.2.2.2
  refine .seq ?_
  refine .region ?_   -- R3 wire.go:37
  refine .rd (.lt rfl rfl) ?_
  refine .nil ?_
  refine .seq ?_
  refine .condP rfl (fun h3 => ?_) (fun h3 => ?_)
  · refine .skip ?_
    refine .seq ?_
    refine .block ?_
    refine .seq ?_
    refine .region ?_   -- R4 wire.go:37
    refine .rd (.move rfl) ?_
    refine .rd (.assign rfl) ?_
    refine .nil ?_
    refine .seq ?_
    refine .block ?_
    refine .seq ?_
    refine .region ?_   -- R5 wire.go:39
    refine .rd (.move rfl) ?_
    refine .rd (.move rfl) ?_
    refine .rd (.lenT rfl rfl Try.underlying9 rfl) ?_
    refine .rd (.eqI rfl rfl) ?_
    refine .rd (.assign rfl) ?_
    refine .nil ?_
    refine .condP rfl (fun h5 => ?_) (fun h5 => ?_)
    · have hrv : (0, 0, 5) = rint l := by
        have := hI.1
        rw [show 10 - i = (10 - (i + 1)) + 1 by omega, List.drop_eq_nil_of_le (by omega)] at this
        exact this
      refine .seq ?_
      refine .region ?_   -- R6 wire.go:40
      refine .rd (.assign rfl) ?_
      refine .rd (.assign rfl) ?_
      refine .rd (.assign rfl) ?_
      refine .nil ?_
      refine .retP Try.func27 (.cons (.tmp rfl) (.cons (.tmp rfl) (.cons (.tmp rfl) .nil))) (.cons .head .nil) ?_
      exact ⟨[], ⟨by rw [← hrv]; rfl, rfl⟩, rfl⟩
    · have hlt : i < l.length := by omega
      obtain ⟨b, hb⟩ : ∃ b, l[i]? = some b := ⟨_, List.getElem?_eq_getElem hlt⟩
      have hdr : l.drop i = b :: l.drop (i + 1) := by rw [List.drop_eq_getElem_cons hlt]; congr 1; rw [List.getElem?_eq_getElem hlt] at hb; exact Option.some.inj hb
      have hb8 := b.toNat_lt
      have hgo := hI.1
      rw [show 10 - i = (10 - (i + 1)) + 1 by omega, hdr] at hgo
      unfold rintGo at hgo
      refine .seq ?_
      refine .region ?_   -- R7 wire.go:41
      refine .rd (.move rfl) ?_
      refine .rd (.eqI rfl rfl) ?_
      refine .rd (.move rfl) ?_
      refine .split (t := 18) rfl (fun h7 => ?_) (fun h7 => ?_)
      · replace h7 := of_decide_eq_true h7
        refine .on (t := 18) rfl rfl ?_
        refine .rd (.move rfl) ?_
        refine .on (t := 18) rfl rfl ?_
        refine .rd (.move rfl) ?_
        refine .on (t := 18) rfl rfl ?_
        refine .rd (.indexT Try.underlying9 rfl rfl (by omega) hb) ?_
        refine .on (t := 18) rfl rfl ?_
        refine .rd (.gt rfl rfl) ?_
        refine .rd (.pickT rfl rfl) ?_
        refine .rd (.assign rfl) ?_
        refine .nil ?_
        refine .condP rfl (fun h7b => ?_) (fun h7b => ?_)
        · refine .seq ?_
          have hrv : (0, 0, 4) = rint l := by rw [← hgo, if_pos (by omega)]
          refine .region ?_   -- R8 wire.go:42
          refine .rd (.assign rfl) ?_
          refine .rd (.assign rfl) ?_
          refine .rd (.assign rfl) ?_
          refine .nil ?_
          refine .retP Try.func27 (.cons (.tmp rfl) (.cons (.tmp rfl) (.cons (.tmp rfl) .nil))) (.cons .head .nil) ?_
          exact ⟨[], ⟨by rw [← hrv]; rfl, rfl⟩, rfl⟩
        · refine .skip ?_
          refine .inBlock ?_
          refine .seq ?_
          have h9 : ¬ (i = 9 ∧ 1 < b.toNat) := by omega
          refine .region ?_   -- R9 wire.go:44
          refine .rd (.move rfl) ?_
          refine .rd (.move rfl) ?_
          refine .rd (.move rfl) ?_
          refine .rd (.indexT Try.underlying9 rfl rfl (by omega) hb) ?_
          refine .rd (.and rfl rfl) ?_
          refine .rd (.convInt Try.underlying5 Try.underlying82 rfl) ?_
          refine .alter (t := 29) (v' := .int .u64 ((b.toNat % 128 : Nat) : Int)) rfl (by exact congrArg (Value.int .u64) (and127 b)) ?_
          refine .rd (.move rfl) ?_
          refine .rd (.mul rfl rfl (by omega) (by omega)) ?_
          refine .rd (.shl (n := 7 * i) rfl rfl) ?_
          refine .rd (.or rfl rfl) ?_
          refine .alter (t := 33) (v' := .int .u64 ((z + b.toNat % 128 * 128 ^ i : Nat) : Int)) rfl (by exact congrArg (Value.int .u64) (or_shift hI.2.1 (by omega) h9)) ?_
          refine .rd (.assign rfl) ?_
          refine .nil ?_
          refine .block ?_
          refine .seq ?_
          refine .region ?_   -- R11 wire.go:46
          refine .rd (.move rfl) ?_
          refine .rd (.move rfl) ?_
          refine .rd (.indexT Try.underlying9 rfl rfl (by omega) hb) ?_
          refine .rd (.gt rfl rfl) ?_
          refine .rd (.assign rfl) ?_
          refine .nil ?_
          refine .condP rfl (fun h11 => ?_) (fun h11 => ?_)
          · refine .skip ?_
            refine .inBlock ?_
            refine .inBlock ?_
            refine .region ?_   -- R14 wire.go:37
            refine .rd (.add rfl rfl (by omega) (by omega)) ?_
            refine .rd (.move rfl) ?_
            refine .nil ?_
            rw [if_neg h9, if_pos (by omega)] at hgo
            exact (ih (i + 1, z + b.toNat % 128 * 128 ^ i) ⟨hgo, z_next hI.2.1, by show i + 1 ≤ 10; omega, by show i + 1 ≤ l.length; omega⟩ (by show 10 - (i + 1) < 10 - i; omega)).to (.cons rfl (.cons rfl (.cons rfl .nil))) (.cons .head .nil)
          · refine .seq ?_
            refine .region ?_   -- R12 wire.go:47
            refine .rd (.move rfl) ?_
            refine .rd (.gt rfl rfl) ?_
            refine .rd (.move rfl) ?_
            refine .split (t := 52) rfl (fun h12 => ?_) (fun h12 => ?_)
            · replace h12 := of_decide_eq_true h12
              refine .on (t := 52) rfl rfl ?_
              refine .rd (.move rfl) ?_
              refine .on (t := 52) rfl rfl ?_
              refine .rd (.move rfl) ?_
              refine .on (t := 52) rfl rfl ?_
              refine .rd (.indexT Try.underlying9 rfl rfl (by omega) hb) ?_
              refine .on (t := 52) rfl rfl ?_
              refine .rd (.eqI rfl rfl) ?_
              refine .rd (.pickT rfl rfl) ?_
              refine .rd (.assign rfl) ?_
              refine .nil ?_
              refine .condP rfl (fun h12b => ?_) (fun h12b => ?_)
              · refine .seq ?_
                have hrv : (0, 0, 4) = rint l := by rw [← hgo, if_neg h9, if_neg (by omega), if_pos (by omega)]
                refine .region ?_   -- R13 wire.go:48
                refine .rd (.assign rfl) ?_
                refine .rd (.assign rfl) ?_
                refine .rd (.assign rfl) ?_
                refine .nil ?_
                refine .retP Try.func27 (.cons (.tmp rfl) (.cons (.tmp rfl) (.cons (.tmp rfl) .nil))) (.cons .head .nil) ?_
                exact ⟨[], ⟨by rw [← hrv]; rfl, rfl⟩, rfl⟩
              · refine .seq ?_
                have hrv : (zag (z + b.toNat % 128 * 128 ^ i), i + 1, 0) = rint l := by rw [← hgo, if_neg h9, if_neg (by omega), if_neg (by omega)]
                have hzf := z_fits hI.2.1 (by omega) h9
                refine .region ?_   -- R10 wire.go:50
                refine .rd (.move rfl) ?_
                refine .rd (.shr (n := 1) rfl rfl) ?_
                refine .rd (.convInt Try.underlying82 Try.underlying3 rfl) ?_
                refine .rd (.move rfl) ?_
                refine .rd (.and rfl rfl) ?_
                refine .rd (.convInt Try.underlying82 Try.underlying3 rfl) ?_
                refine .rd (.negW rfl) ?_
                refine .rd (.xor rfl rfl) ?_
                refine .alter (t := 41) (v' := .int .i64 (zag (z + b.toNat % 128 * 128 ^ i))) rfl (by exact congrArg (Value.int .i64) (zag_bits hzf)) ?_
                refine .rd (.move rfl) ?_
                refine .rd (.add rfl rfl (by omega) (by omega)) ?_
                refine .rd (.assign rfl) ?_
                refine .rd (.assign rfl) ?_
                refine .rd (.assign rfl) ?_
                refine .nil ?_
                refine .retP Try.func27 (.cons (.tmp rfl) (.cons (.tmp rfl) (.cons (.tmp rfl) .nil))) (.cons .head .nil) ?_
                exact ⟨[], ⟨by rw [← hrv]; rfl, rfl⟩, rfl⟩
            · replace h12 := of_decide_eq_false h12
              refine .off (t := 52) rfl rfl rfl ?_
              refine .off (t := 52) rfl rfl rfl ?_
              refine .off (t := 52) rfl rfl rfl ?_
              refine .off (t := 52) rfl rfl rfl ?_
              refine .rd (.pickF rfl rfl) ?_
              refine .rd (.assign rfl) ?_
              refine .nil ?_
              refine .condF rfl ?_
              refine .seq ?_
              have hrv : (zag (z + b.toNat % 128 * 128 ^ i), i + 1, 0) = rint l := by rw [← hgo, if_neg h9, if_neg (by omega), if_neg (by omega)]
              have hzf := z_fits hI.2.1 (by omega) h9
              refine .region ?_   -- R10 wire.go:50
              refine .rd (.move rfl) ?_
              refine .rd (.shr (n := 1) rfl rfl) ?_
              refine .rd (.convInt Try.underlying82 Try.underlying3 rfl) ?_
              refine .rd (.move rfl) ?_
              refine .rd (.and rfl rfl) ?_
              refine .rd (.convInt Try.underlying82 Try.underlying3 rfl) ?_
              refine .rd (.negW rfl) ?_
              refine .rd (.xor rfl rfl) ?_
              refine .alter (t := 41) (v' := .int .i64 (zag (z + b.toNat % 128 * 128 ^ i))) rfl (by exact congrArg (Value.int .i64) (zag_bits hzf)) ?_
              refine .rd (.move rfl) ?_
              refine .rd (.add rfl rfl (by omega) (by omega)) ?_
              refine .rd (.assign rfl) ?_
              refine .rd (.assign rfl) ?_
              refine .rd (.assign rfl) ?_
              refine .nil ?_
              refine .retP Try.func27 (.cons (.tmp rfl) (.cons (.tmp rfl) (.cons (.tmp rfl) .nil))) (.cons .head .nil) ?_
              exact ⟨[], ⟨by rw [← hrv]; rfl, rfl⟩, rfl⟩
      · replace h7 := of_decide_eq_false h7
        refine .off (t := 18) rfl rfl rfl ?_
        refine .off (t := 18) rfl rfl rfl ?_
        refine .off (t := 18) rfl rfl rfl ?_
        refine .off (t := 18) rfl rfl rfl ?_
        refine .rd (.pickF rfl rfl) ?_
        refine .rd (.assign rfl) ?_
        refine .nil ?_
        refine .condF rfl ?_
        refine .skip ?_
        refine .inBlock ?_
        refine .seq ?_
        have h9 : ¬ (i = 9 ∧ 1 < b.toNat) := by omega
        refine .region ?_   -- R9 wire.go:44
        refine .rd (.move rfl) ?_
        refine .rd (.move rfl) ?_
        refine .rd (.move rfl) ?_
        refine .rd (.indexT Try.underlying9 rfl rfl (by omega) hb) ?_
        refine .rd (.and rfl rfl) ?_
        refine .rd (.convInt Try.underlying5 Try.underlying82 rfl) ?_
        refine .alter (t := 29) (v' := .int .u64 ((b.toNat % 128 : Nat) : Int)) rfl (by exact congrArg (Value.int .u64) (and127 b)) ?_
        refine .rd (.move rfl) ?_
        refine .rd (.mul rfl rfl (by omega) (by omega)) ?_
        refine .rd (.shl (n := 7 * i) rfl rfl) ?_
        refine .rd (.or rfl rfl) ?_
        refine .alter (t := 33) (v' := .int .u64 ((z + b.toNat % 128 * 128 ^ i : Nat) : Int)) rfl (by exact congrArg (Value.int .u64) (or_shift hI.2.1 (by omega) h9)) ?_
        refine .rd (.assign rfl) ?_
        refine .nil ?_
        refine .block ?_
        refine .seq ?_
        refine .region ?_   -- R11 wire.go:46
        refine .rd (.move rfl) ?_
        refine .rd (.move rfl) ?_
        refine .rd (.indexT Try.underlying9 rfl rfl (by omega) hb) ?_
        refine .rd (.gt rfl rfl) ?_
        refine .rd (.assign rfl) ?_
        refine .nil ?_
        refine .condP rfl (fun h11 => ?_) (fun h11 => ?_)
        · refine .skip ?_
          refine .inBlock ?_
          refine .inBlock ?_
          refine .region ?_   -- R14 wire.go:37
          refine .rd (.add rfl rfl (by omega) (by omega)) ?_
          refine .rd (.move rfl) ?_
          refine .nil ?_
          rw [if_neg h9, if_pos (by omega)] at hgo
          exact (ih (i + 1, z + b.toNat % 128 * 128 ^ i) ⟨hgo, z_next hI.2.1, by show i + 1 ≤ 10; omega, by show i + 1 ≤ l.length; omega⟩ (by show 10 - (i + 1) < 10 - i; omega)).to (.cons rfl (.cons rfl (.cons rfl .nil))) (.cons .head .nil)
        · refine .seq ?_
          refine .region ?_   -- R12 wire.go:47
          refine .rd (.move rfl) ?_
          refine .rd (.gt rfl rfl) ?_
          refine .rd (.move rfl) ?_
          refine .split (t := 52) rfl (fun h12 => ?_) (fun h12 => ?_)
          · replace h12 := of_decide_eq_true h12
            refine .on (t := 52) rfl rfl ?_
            refine .rd (.move rfl) ?_
            refine .on (t := 52) rfl rfl ?_
            refine .rd (.move rfl) ?_
            refine .on (t := 52) rfl rfl ?_
            refine .rd (.indexT Try.underlying9 rfl rfl (by omega) hb) ?_
            refine .on (t := 52) rfl rfl ?_
            refine .rd (.eqI rfl rfl) ?_
            refine .rd (.pickT rfl rfl) ?_
            refine .rd (.assign rfl) ?_
            refine .nil ?_
            refine .condP rfl (fun h12b => ?_) (fun h12b => ?_)
            · refine .seq ?_
              have hrv : (0, 0, 4) = rint l := by rw [← hgo, if_neg h9, if_neg (by omega), if_pos (by omega)]
              refine .region ?_   -- R13 wire.go:48
              refine .rd (.assign rfl) ?_
              refine .rd (.assign rfl) ?_
              refine .rd (.assign rfl) ?_
              refine .nil ?_
              refine .retP Try.func27 (.cons (.tmp rfl) (.cons (.tmp rfl) (.cons (.tmp rfl) .nil))) (.cons .head .nil) ?_
              exact ⟨[], ⟨by rw [← hrv]; rfl, rfl⟩, rfl⟩
            · refine .seq ?_
              have hrv : (zag (z + b.toNat % 128 * 128 ^ i), i + 1, 0) = rint l := by rw [← hgo, if_neg h9, if_neg (by omega), if_neg (by omega)]
              have hzf := z_fits hI.2.1 (by omega) h9
              refine .region ?_   -- R10 wire.go:50
              refine .rd (.move rfl) ?_
              refine .rd (.shr (n := 1) rfl rfl) ?_
              refine .rd (.convInt Try.underlying82 Try.underlying3 rfl) ?_
              refine .rd (.move rfl) ?_
              refine .rd (.and rfl rfl) ?_
              refine .rd (.convInt Try.underlying82 Try.underlying3 rfl) ?_
              refine .rd (.negW rfl) ?_
              refine .rd (.xor rfl rfl) ?_
              refine .alter (t := 41) (v' := .int .i64 (zag (z + b.toNat % 128 * 128 ^ i))) rfl (by exact congrArg (Value.int .i64) (zag_bits hzf)) ?_
              refine .rd (.move rfl) ?_
              refine .rd (.add rfl rfl (by omega) (by omega)) ?_
              refine .rd (.assign rfl) ?_
              refine .rd (.assign rfl) ?_
              refine .rd (.assign rfl) ?_
              refine .nil ?_
              refine .retP Try.func27 (.cons (.tmp rfl) (.cons (.tmp rfl) (.cons (.tmp rfl) .nil))) (.cons .head .nil) ?_
              exact ⟨[], ⟨by rw [← hrv]; rfl, rfl⟩, rfl⟩
          · replace h12 := of_decide_eq_false h12
            refine .off (t := 52) rfl rfl rfl ?_
            refine .off (t := 52) rfl rfl rfl ?_
            refine .off (t := 52) rfl rfl rfl ?_
            refine .off (t := 52) rfl rfl rfl ?_
            refine .rd (.pickF rfl rfl) ?_
            refine .rd (.assign rfl) ?_
            refine .nil ?_
            refine .condF rfl ?_
            refine .seq ?_
            have hrv : (zag (z + b.toNat % 128 * 128 ^ i), i + 1, 0) = rint l := by rw [← hgo, if_neg h9, if_neg (by omega), if_neg (by omega)]
            have hzf := z_fits hI.2.1 (by omega) h9
            refine .region ?_   -- R10 wire.go:50
            refine .rd (.move rfl) ?_
            refine .rd (.shr (n := 1) rfl rfl) ?_
            refine .rd (.convInt Try.underlying82 Try.underlying3 rfl) ?_
            refine .rd (.move rfl) ?_
            refine .rd (.and rfl rfl) ?_
            refine .rd (.convInt Try.underlying82 Try.underlying3 rfl) ?_
            refine .rd (.negW rfl) ?_
            refine .rd (.xor rfl rfl) ?_
            refine .alter (t := 41) (v' := .int .i64 (zag (z + b.toNat % 128 * 128 ^ i))) rfl (by exact congrArg (Value.int .i64) (zag_bits hzf)) ?_
            refine .rd (.move rfl) ?_
            refine .rd (.add rfl rfl (by omega) (by omega)) ?_
            refine .rd (.assign rfl) ?_
            refine .rd (.assign rfl) ?_
            refine .rd (.assign rfl) ?_
            refine .nil ?_
            refine .retP Try.func27 (.cons (.tmp rfl) (.cons (.tmp rfl) (.cons (.tmp rfl) .nil))) (.cons .head .nil) ?_
            exact ⟨[], ⟨by rw [← hrv]; rfl, rfl⟩, rfl⟩
  · refine .exit rfl ?_
    refine .seq ?_
    have hrv : (0, 0, 4) = rint l := by
      have := hI.1
      rw [show 10 - i = 0 by omega] at this
      exact this
    refine .region ?_   -- R15 wire.go:53
    refine .rd (.assign rfl) ?_
    refine .rd (.assign rfl) ?_
    refine .rd (.assign rfl) ?_
    refine .nil ?_
    refine .retP Try.func27 (.cons (.tmp rfl) (.cons (.tmp rfl) (.cons (.tmp rfl) .nil))) (.cons .head .nil) ?_
    exact ⟨[], ⟨by rw [← hrv]; rfl, rfl⟩, rfl⟩

end Go.Proofs.Ytllpkagplfmlbaa

