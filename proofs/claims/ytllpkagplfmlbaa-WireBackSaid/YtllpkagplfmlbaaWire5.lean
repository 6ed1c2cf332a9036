/- Steps through functions of the program, under conditions that each theorem states (part wire5 of a claim). -/
import Derived.Test.YtllpkagplfmlbaaProg
import Derived.Test.YtllpkagplfmlbaaL13
import Derived.Test.YtllpkagplfmlbaaDefs3c
import Derived.Test.YtllpkagplfmlbaaWire4
namespace Go.Proofs.Ytllpkagplfmlbaa
open Go Go.Sp

set_option linter.unusedVariables false

namespace wire5

end wire5
open wire5

theorem pow128 {i : Nat} (hi : i ≤ 9) : 128 ^ i ≤ 9223372036854775808 := by
  have h2 : 128 ^ i ≤ 128 ^ 9 := Nat.pow_le_pow_right (by omega) hi
  have : (128 : Nat) ^ 9 = 9223372036854775808 := by decide
  omega
theorem wnext {i : Nat} (hi : i ≤ 8) : (Value.int .u64 (IntKind.u64.wrap (((128 ^ i : Nat) : Int) * 128))) = .int .u64 ((128 ^ (i + 1) : Nat) : Int) := by
  have h := pow128 (i := i + 1) (by omega)
  have e : ((128 ^ i : Nat) : Int) * 128 = ((128 ^ (i + 1) : Nat) : Int) := by rw [Nat.pow_succ]; push_cast; rfl
  rw [e, wrap_u64 (by omega)]
theorem radd {z i b : Nat} (hz : z < 128 ^ i) (hi : i ≤ 9) (h9 : ¬ (i = 9 ∧ 1 < b)) (hb : b < 256) :
    (Value.int .u64 (IntKind.u64.wrap ((z : Int) + IntKind.u64.wrap (IntKind.u64.wrap ((b : Int) % 128) * ((128 ^ i : Nat) : Int))))) = .int .u64 ((z + b % 128 * 128 ^ i : Nat) : Int) := by
  have hf := z_fits hz hi h9
  have e1 : (b : Int) % 128 = ((b % 128 : Nat) : Int) := by omega
  have e2 : ((b % 128 : Nat) : Int) * ((128 ^ i : Nat) : Int) = ((b % 128 * 128 ^ i : Nat) : Int) := by push_cast; rfl
  rw [e1, wrap_u64 (n := b % 128) (by omega), e2, wrap_u64 (n := b % 128 * 128 ^ i) (by omega), ← Int.natCast_add, wrap_u64 hf]
theorem rhalf {z : Nat} (h : z < 18446744073709551616) : (Value.int .i64 (IntKind.i64.wrap (IntKind.u64.wrap ((z : Int).tdiv 2)))) = .int .i64 ((z / 2 : Nat) : Int) := by
  have e : (z : Int).tdiv 2 = ((z / 2 : Nat) : Int) := by rw [Int.tdiv_eq_ediv_of_nonneg (by omega)]; omega
  rw [e, wrap_u64 (by omega), wrap_i64 (by omega) (by omega)]

set_option maxRecDepth 20000 in
theorem rReadInt_ok (l : List UInt8) (hl : l.length ≤ 9000000000000000000) : Cn Try.prog 64 [.string (str l)] (fun _ => True) [] fun v G => v = .tuple #[.int .i64 (rint l).1, .int .i64 ((rint l).2.1 : Nat), .int .i64 (rint l).2.2] ∧ G = [] := by
  refine .enter Try.func64 rfl (by kernel_rfl) rfl fun R k => ?_
  refine .seq ?_
  refine .region ?_   -- R0 ref.go:48
  refine .rd (.assign rfl) ?_
  refine .rd (.assign rfl) ?_
  refine .rd (.assign rfl) ?_
  refine .nil ?_
  refine .seq ?_
  refine .region ?_   -- R1 ref.go:49
  refine .rd (.assign rfl) ?_
  refine .nil ?_
  refine .seq ?_
  refine .region ?_   -- R2 ref.go:50
  refine .rd (.assign rfl) ?_
  refine .nil ?_
  refine .seq ?_
  refine .seq ?_
  refine .region ?_   -- R3 ref.go:51
  refine .rd (.assign rfl) ?_
  refine .nil ?_
  refine .block ?_
  refine .loop (σ := Nat × Nat) (fun ⟨i, z⟩ => rintGo (10 - i) i z (l.drop i) = rint l ∧ z < 128 ^ i ∧ i ≤ 10 ∧ i ≤ l.length) (fun ⟨i, z⟩ => 10 - i) (fun ⟨i, z⟩ => [(0, .string (str l)), (5, .int .u64 (z : Int)), (6, .int .u64 ((128 ^ i : Nat) : Int)), (7, .int .i64 (i : Nat))]) (fun ⟨i, z⟩ => [R]) (0, 0) ⟨rfl, by decide, Nat.zero_le _, Nat.zero_le _⟩ (.cons rfl (.cons rfl (.cons rfl (.cons rfl .nil)))) (.cons .head .nil) (fun s hI ih => ?_)
  obtain ⟨i, z⟩ := s
  dsimp only at hI ih ⊢
  have hi10 := hI.2.2.1
  have hil := hI.2.2.2
  refine .seq ?_
  refine .seq ?_
  refine .region ?_   -- R4 ref.go:51
  refine .rd (.move rfl) ?_
  refine .rd (.lt rfl rfl) ?_
  refine .nil ?_
  refine .condP rfl (fun h4 => ?_) (fun h4 => ?_)
  · refine .skip ?_
    refine .seq ?_
    refine .block ?_
    refine .seq ?_
    refine .seq ?_
    refine .region ?_   -- R6 ref.go:52
    refine .rd (.move rfl) ?_
    refine .rd (.move rfl) ?_
    refine .rd (.lenT rfl rfl Try.underlying9 rfl) ?_
    refine .rd (.ge rfl rfl) ?_
    refine .nil ?_
    refine .condP rfl (fun h6 => ?_) (fun h6 => ?_)
    · have hrv : (0, 0, 5) = rint l := by
        have := hI.1
        rw [show 10 - i = (10 - (i + 1)) + 1 by omega, List.drop_eq_nil_of_le (by omega)] at this
        exact this
      refine .seq ?_
      refine .region ?_   -- R7 ref.go:53
      refine .rd (.assign rfl) ?_
      refine .rd (.assign rfl) ?_
      refine .rd (.assign rfl) ?_
      refine .nil ?_
      refine .retP Try.func64 (.cons (.tmp rfl) (.cons (.tmp rfl) (.cons (.tmp rfl) .nil))) (.cons .head .nil) ?_
      exact ⟨[], ⟨by rw [← hrv]; rfl, rfl⟩, rfl⟩
    · have hlt : i < l.length := by omega
      obtain ⟨b, hb⟩ : ∃ b, l[i]? = some b := ⟨_, List.getElem?_eq_getElem hlt⟩
      have hdr : l.drop i = b :: l.drop (i + 1) := by rw [List.drop_eq_getElem_cons hlt]; congr 1; rw [List.getElem?_eq_getElem hlt] at hb; exact Option.some.inj hb
      have hb8 := b.toNat_lt
      have hgo := hI.1
      rw [show 10 - i = (10 - (i + 1)) + 1 by omega, hdr] at hgo
      unfold rintGo at hgo
      refine .skip ?_
      refine .seq ?_
      refine .seq ?_
      refine .region ?_   -- R8 ref.go:55
      refine .rd (.move rfl) ?_
      refine .rd (.eqI rfl rfl) ?_
      refine .rd (.move rfl) ?_
      refine .split (t := 18) rfl (fun h8 => ?_) (fun h8 => ?_)
      · replace h8 := of_decide_eq_true h8
        refine .on (t := 18) rfl rfl ?_
        refine .rd (.move rfl) ?_
        refine .on (t := 18) rfl rfl ?_
        refine .rd (.move rfl) ?_
        refine .on (t := 18) rfl rfl ?_
        refine .rd (.indexT Try.underlying9 rfl rfl (by omega) hb) ?_
        refine .on (t := 18) rfl rfl ?_
        refine .rd (.gt rfl rfl) ?_
        refine .rd (.pickT rfl rfl) ?_
        refine .nil ?_
        refine .condP rfl (fun h8b => ?_) (fun h8b => ?_)
        · refine .seq ?_
          have hrv : (0, 0, 4) = rint l := by rw [← hgo, if_pos (by omega)]
          refine .region ?_   -- R9 ref.go:56
          refine .rd (.assign rfl) ?_
          refine .rd (.assign rfl) ?_
          refine .rd (.assign rfl) ?_
          refine .nil ?_
          refine .retP Try.func64 (.cons (.tmp rfl) (.cons (.tmp rfl) (.cons (.tmp rfl) .nil))) (.cons .head .nil) ?_
          exact ⟨[], ⟨by rw [← hrv]; rfl, rfl⟩, rfl⟩
        · refine .skip ?_
          refine .seq ?_
          have h9 : ¬ (i = 9 ∧ 1 < b.toNat) := by omega
          refine .region ?_   -- R10 ref.go:58
          refine .rd (.move rfl) ?_
          refine .rd (.move rfl) ?_
          refine .rd (.move rfl) ?_
          refine .rd (.indexT Try.underlying9 rfl rfl (by omega) hb) ?_
          refine .rd (.rem rfl rfl (by omega) (by omega)) ?_
          refine .rd (.convInt Try.underlying5 Try.underlying82 rfl) ?_
          refine .rd (.move rfl) ?_
          refine .rd (.mulW rfl rfl) ?_
          refine .rd (.addW rfl rfl) ?_
          refine .alter (t := 32) (v' := .int .u64 ((z + b.toNat % 128 * 128 ^ i) : Nat)) rfl (by exact radd hI.2.1 (by omega) h9 hb8) ?_
          refine .rd (.assign rfl) ?_
          refine .nil ?_
          refine .seq ?_
          refine .region ?_   -- R11 ref.go:59
          refine .rd (.move rfl) ?_
          refine .rd (.mulW rfl rfl) ?_
          refine .rd (.assign rfl) ?_
          refine .nil ?_
          refine .seq ?_
          refine .seq ?_
          refine .region ?_   -- R12 ref.go:60
          refine .rd (.move rfl) ?_
          refine .rd (.move rfl) ?_
          refine .rd (.indexT Try.underlying9 rfl rfl (by omega) hb) ?_
          refine .rd (.ge rfl rfl) ?_
          refine .nil ?_
          refine .condP rfl (fun h12 => ?_) (fun h12 => ?_)
          · refine .exit rfl ?_
            refine .region ?_   -- R5 ref.go:51
            refine .rd (.move rfl) ?_
            refine .rd (.add rfl rfl (by omega) (by omega)) ?_
            refine .rd (.assign rfl) ?_
            refine .nil ?_
            rw [if_neg h9, if_pos (by omega)] at hgo
            exact (ih (i + 1, (z + b.toNat % 128 * 128 ^ i)) ⟨hgo, z_next hI.2.1, by show i + 1 ≤ 10; omega, by show i + 1 ≤ l.length; omega⟩ (by show 10 - (i + 1) < 10 - i; omega)).to (.cons rfl (.cons rfl (.cons (by show _ = some (Value.int .u64 ((128 ^ (i + 1) : Nat) : Int)); exact congrArg some (wnext (i := i) (by omega))) (.cons rfl .nil)))) (.cons .head .nil)
          · refine .skip ?_
            refine .seq ?_
            refine .seq ?_
            refine .region ?_   -- R13 ref.go:63
            refine .rd (.move rfl) ?_
            refine .rd (.gt rfl rfl) ?_
            refine .rd (.move rfl) ?_
            refine .split (t := 41) rfl (fun h13 => ?_) (fun h13 => ?_)
            · replace h13 := of_decide_eq_true h13
              refine .on (t := 41) rfl rfl ?_
              refine .rd (.move rfl) ?_
              refine .on (t := 41) rfl rfl ?_
              refine .rd (.move rfl) ?_
              refine .on (t := 41) rfl rfl ?_
              refine .rd (.indexT Try.underlying9 rfl rfl (by omega) hb) ?_
              refine .on (t := 41) rfl rfl ?_
              refine .rd (.eqI rfl rfl) ?_
              refine .rd (.pickT rfl rfl) ?_
              refine .nil ?_
              refine .condP rfl (fun h13b => ?_) (fun h13b => ?_)
              · refine .seq ?_
                have hrv : (0, 0, 4) = rint l := by rw [← hgo, if_neg h9, if_neg (by omega), if_pos (by omega)]
                refine .region ?_   -- R14 ref.go:64
                refine .rd (.assign rfl) ?_
                refine .rd (.assign rfl) ?_
                refine .rd (.assign rfl) ?_
                refine .nil ?_
                refine .retP Try.func64 (.cons (.tmp rfl) (.cons (.tmp rfl) (.cons (.tmp rfl) .nil))) (.cons .head .nil) ?_
                exact ⟨[], ⟨by rw [← hrv]; rfl, rfl⟩, rfl⟩
              · refine .skip ?_
                refine .seq ?_
                refine .seq ?_
                have hrv : (zag (z + b.toNat % 128 * 128 ^ i), i + 1, 0) = rint l := by rw [← hgo, if_neg h9, if_neg (by omega), if_neg (by omega)]
                have hzf := z_fits hI.2.1 (by omega) h9
                refine .region ?_   -- R15 ref.go:66
                refine .rd (.move rfl) ?_
                refine .rd (.rem rfl rfl (by omega) (by omega)) ?_
                refine .rd (.eqI rfl rfl) ?_
                refine .nil ?_
                refine .condP rfl (fun h15 => ?_) (fun h15 => ?_)
                · refine .seq ?_
                  refine .region ?_   -- R16 ref.go:67
                  refine .rd (.move rfl) ?_
                  refine .rd (.quoW rfl rfl (by decide)) ?_
                  refine .rd (.convInt Try.underlying82 Try.underlying3 rfl) ?_
                  refine .alter (t := 52) (v' := .int .i64 (((z + b.toNat % 128 * 128 ^ i) / 2 : Nat) : Int)) rfl (by exact rhalf hzf) ?_
                  refine .rd (.neg rfl (by omega) (by omega)) ?_
                  refine .rd (.sub rfl rfl (by omega) (by omega)) ?_
                  refine .alter (t := 54) (v' := .int .i64 (zag (z + b.toNat % 128 * 128 ^ i))) rfl (by unfold zag; rw [if_pos (by omega)]) ?_
                  refine .rd (.move rfl) ?_
                  refine .rd (.add rfl rfl (by omega) (by omega)) ?_
                  refine .rd (.assign rfl) ?_
                  refine .rd (.assign rfl) ?_
                  refine .rd (.assign rfl) ?_
                  refine .nil ?_
                  refine .retP Try.func64 (.cons (.tmp rfl) (.cons (.tmp rfl) (.cons (.tmp rfl) .nil))) (.cons .head .nil) ?_
                  exact ⟨[], ⟨by rw [← hrv]; rfl, rfl⟩, rfl⟩
                · refine .skip ?_
                  refine .seq ?_
                  refine .region ?_   -- R17 ref.go:69
                  refine .rd (.move rfl) ?_
                  refine .rd (.quoW rfl rfl (by decide)) ?_
                  refine .rd (.convInt Try.underlying82 Try.underlying3 rfl) ?_
                  refine .alter (t := 59) (v' := .int .i64 (((z + b.toNat % 128 * 128 ^ i) / 2 : Nat) : Int)) rfl (by exact rhalf hzf) ?_
                  refine .alter (t := 59) (v' := .int .i64 (zag (z + b.toNat % 128 * 128 ^ i))) rfl (by unfold zag; rw [if_neg (by omega)]) ?_
                  refine .rd (.move rfl) ?_
                  refine .rd (.add rfl rfl (by omega) (by omega)) ?_
                  refine .rd (.assign rfl) ?_
                  refine .rd (.assign rfl) ?_
                  refine .rd (.assign rfl) ?_
                  refine .nil ?_
                  refine .retP Try.func64 (.cons (.tmp rfl) (.cons (.tmp rfl) (.cons (.tmp rfl) .nil))) (.cons .head .nil) ?_
                  exact ⟨[], ⟨by rw [← hrv]; rfl, rfl⟩, rfl⟩
            · replace h13 := of_decide_eq_false h13
              refine .off (t := 41) rfl rfl rfl ?_
              refine .off (t := 41) rfl rfl rfl ?_
              refine .off (t := 41) rfl rfl rfl ?_
              refine .off (t := 41) rfl rfl rfl ?_
              refine .rd (.pickF rfl rfl) ?_
              refine .nil ?_
              refine .condF rfl ?_
              refine .skip ?_
              refine .seq ?_
              refine .seq ?_
              have hrv : (zag (z + b.toNat % 128 * 128 ^ i), i + 1, 0) = rint l := by rw [← hgo, if_neg h9, if_neg (by omega), if_neg (by omega)]
              have hzf := z_fits hI.2.1 (by omega) h9
              refine .region ?_   -- R15 ref.go:66
              refine .rd (.move rfl) ?_
              refine .rd (.rem rfl rfl (by omega) (by omega)) ?_
              refine .rd (.eqI rfl rfl) ?_
              refine .nil ?_
              refine .condP rfl (fun h15 => ?_) (fun h15 => ?_)
              · refine .seq ?_
                refine .region ?_   -- R16 ref.go:67
                refine .rd (.move rfl) ?_
                refine .rd (.quoW rfl rfl (by decide)) ?_
                refine .rd (.convInt Try.underlying82 Try.underlying3 rfl) ?_
                refine .alter (t := 52) (v' := .int .i64 (((z + b.toNat % 128 * 128 ^ i) / 2 : Nat) : Int)) rfl (by exact rhalf hzf) ?_
                refine .rd (.neg rfl (by omega) (by omega)) ?_
                refine .rd (.sub rfl rfl (by omega) (by omega)) ?_
                refine .alter (t := 54) (v' := .int .i64 (zag (z + b.toNat % 128 * 128 ^ i))) rfl (by unfold zag; rw [if_pos (by omega)]) ?_
                refine .rd (.move rfl) ?_
                refine .rd (.add rfl rfl (by omega) (by omega)) ?_
                refine .rd (.assign rfl) ?_
                refine .rd (.assign rfl) ?_
                refine .rd (.assign rfl) ?_
                refine .nil ?_
                refine .retP Try.func64 (.cons (.tmp rfl) (.cons (.tmp rfl) (.cons (.tmp rfl) .nil))) (.cons .head .nil) ?_
                exact ⟨[], ⟨by rw [← hrv]; rfl, rfl⟩, rfl⟩
              · refine .skip ?_
                refine .seq ?_
                refine .region ?_   -- R17 ref.go:69
                refine .rd (.move rfl) ?_
                refine .rd (.quoW rfl rfl (by decide)) ?_
                refine .rd (.convInt Try.underlying82 Try.underlying3 rfl) ?_
                refine .alter (t := 59) (v' := .int .i64 (((z + b.toNat % 128 * 128 ^ i) / 2 : Nat) : Int)) rfl (by exact rhalf hzf) ?_
                refine .alter (t := 59) (v' := .int .i64 (zag (z + b.toNat % 128 * 128 ^ i))) rfl (by unfold zag; rw [if_neg (by omega)]) ?_
                refine .rd (.move rfl) ?_
                refine .rd (.add rfl rfl (by omega) (by omega)) ?_
                refine .rd (.assign rfl) ?_
                refine .rd (.assign rfl) ?_
                refine .rd (.assign rfl) ?_
                refine .nil ?_
                refine .retP Try.func64 (.cons (.tmp rfl) (.cons (.tmp rfl) (.cons (.tmp rfl) .nil))) (.cons .head .nil) ?_
                exact ⟨[], ⟨by rw [← hrv]; rfl, rfl⟩, rfl⟩
      · replace h8 := of_decide_eq_false h8
        refine .off (t := 18) rfl rfl rfl ?_
        refine .off (t := 18) rfl rfl rfl ?_
        refine .off (t := 18) rfl rfl rfl ?_
        refine .off (t := 18) rfl rfl rfl ?_
        refine .rd (.pickF rfl rfl) ?_
        refine .nil ?_
        refine .condF rfl ?_
        refine .skip ?_
        refine .seq ?_
        have h9 : ¬ (i = 9 ∧ 1 < b.toNat) := by omega
        refine .region ?_   -- R10 ref.go:58
        refine .rd (.move rfl) ?_
        refine .rd (.move rfl) ?_
        refine .rd (.move rfl) ?_
        refine .rd (.indexT Try.underlying9 rfl rfl (by omega) hb) ?_
        refine .rd (.rem rfl rfl (by omega) (by omega)) ?_
        refine .rd (.convInt Try.underlying5 Try.underlying82 rfl) ?_
        refine .rd (.move rfl) ?_
        refine .rd (.mulW rfl rfl) ?_
        refine .rd (.addW rfl rfl) ?_
        refine .alter (t := 32) (v' := .int .u64 ((z + b.toNat % 128 * 128 ^ i) : Nat)) rfl (by exact radd hI.2.1 (by omega) h9 hb8) ?_
        refine .rd (.assign rfl) ?_
        refine .nil ?_
        refine .seq ?_
        refine .region ?_   -- R11 ref.go:59
        refine .rd (.move rfl) ?_
        refine .rd (.mulW rfl rfl) ?_
        refine .rd (.assign rfl) ?_
        refine .nil ?_
        refine .seq ?_
        refine .seq ?_
        refine .region ?_   -- R12 ref.go:60
        refine .rd (.move rfl) ?_
        refine .rd (.move rfl) ?_
        refine .rd (.indexT Try.underlying9 rfl rfl (by omega) hb) ?_
        refine .rd (.ge rfl rfl) ?_
        refine .nil ?_
        refine .condP rfl (fun h12 => ?_) (fun h12 => ?_)
        · refine .exit rfl ?_
          refine .region ?_   -- R5 ref.go:51
          refine .rd (.move rfl) ?_
          refine .rd (.add rfl rfl (by omega) (by omega)) ?_
          refine .rd (.assign rfl) ?_
          refine .nil ?_
          rw [if_neg h9, if_pos (by omega)] at hgo
          exact (ih (i + 1, (z + b.toNat % 128 * 128 ^ i)) ⟨hgo, z_next hI.2.1, by show i + 1 ≤ 10; omega, by show i + 1 ≤ l.length; omega⟩ (by show 10 - (i + 1) < 10 - i; omega)).to (.cons rfl (.cons rfl (.cons (by show _ = some (Value.int .u64 ((128 ^ (i + 1) : Nat) : Int)); exact congrArg some (wnext (i := i) (by omega))) (.cons rfl .nil)))) (.cons .head .nil)
        · refine .skip ?_
          refine .seq ?_
          refine .seq ?_
          refine .region ?_   -- R13 ref.go:63
          refine .rd (.move rfl) ?_
          refine .rd (.gt rfl rfl) ?_
          refine .rd (.move rfl) ?_
          refine .split (t := 41) rfl (fun h13 => ?_) (fun h13 => ?_)
          · replace h13 := of_decide_eq_true h13
            refine .on (t := 41) rfl rfl ?_
            refine .rd (.move rfl) ?_
            refine .on (t := 41) rfl rfl ?_
            refine .rd (.move rfl) ?_
            refine .on (t := 41) rfl rfl ?_
            refine .rd (.indexT Try.underlying9 rfl rfl (by omega) hb) ?_
            refine .on (t := 41) rfl rfl ?_
            refine .rd (.eqI rfl rfl) ?_
            refine .rd (.pickT rfl rfl) ?_
            refine .nil ?_
            refine .condP rfl (fun h13b => ?_) (fun h13b => ?_)
            · refine .seq ?_
              have hrv : (0, 0, 4) = rint l := by rw [← hgo, if_neg h9, if_neg (by omega), if_pos (by omega)]
              refine .region ?_   -- R14 ref.go:64
              refine .rd (.assign rfl) ?_
              refine .rd (.assign rfl) ?_
              refine .rd (.assign rfl) ?_
              refine .nil ?_
              refine .retP Try.func64 (.cons (.tmp rfl) (.cons (.tmp rfl) (.cons (.tmp rfl) .nil))) (.cons .head .nil) ?_
              exact ⟨[], ⟨by rw [← hrv]; rfl, rfl⟩, rfl⟩
            · refine .skip ?_
              refine .seq ?_
              refine .seq ?_
              have hrv : (zag (z + b.toNat % 128 * 128 ^ i), i + 1, 0) = rint l := by rw [← hgo, if_neg h9, if_neg (by omega), if_neg (by omega)]
              have hzf := z_fits hI.2.1 (by omega) h9
              refine .region ?_   -- R15 ref.go:66
              refine .rd (.move rfl) ?_
              refine .rd (.rem rfl rfl (by omega) (by omega)) ?_
              refine .rd (.eqI rfl rfl) ?_
              refine .nil ?_
              refine .condP rfl (fun h15 => ?_) (fun h15 => ?_)
              · refine .seq ?_
                refine .region ?_   -- R16 ref.go:67
                refine .rd (.move rfl) ?_
                refine .rd (.quoW rfl rfl (by decide)) ?_
                refine .rd (.convInt Try.underlying82 Try.underlying3 rfl) ?_
                refine .alter (t := 52) (v' := .int .i64 (((z + b.toNat % 128 * 128 ^ i) / 2 : Nat) : Int)) rfl (by exact rhalf hzf) ?_
                refine .rd (.neg rfl (by omega) (by omega)) ?_
                refine .rd (.sub rfl rfl (by omega) (by omega)) ?_
                refine .alter (t := 54) (v' := .int .i64 (zag (z + b.toNat % 128 * 128 ^ i))) rfl (by unfold zag; rw [if_pos (by omega)]) ?_
                refine .rd (.move rfl) ?_
                refine .rd (.add rfl rfl (by omega) (by omega)) ?_
                refine .rd (.assign rfl) ?_
                refine .rd (.assign rfl) ?_
                refine .rd (.assign rfl) ?_
                refine .nil ?_
                refine .retP Try.func64 (.cons (.tmp rfl) (.cons (.tmp rfl) (.cons (.tmp rfl) .nil))) (.cons .head .nil) ?_
                exact ⟨[], ⟨by rw [← hrv]; rfl, rfl⟩, rfl⟩
              · refine .skip ?_
                refine .seq ?_
                refine .region ?_   -- R17 ref.go:69
                refine .rd (.move rfl) ?_
                refine .rd (.quoW rfl rfl (by decide)) ?_
                refine .rd (.convInt Try.underlying82 Try.underlying3 rfl) ?_
                refine .alter (t := 59) (v' := .int .i64 (((z + b.toNat % 128 * 128 ^ i) / 2 : Nat) : Int)) rfl (by exact rhalf hzf) ?_
                refine .alter (t := 59) (v' := .int .i64 (zag (z + b.toNat % 128 * 128 ^ i))) rfl (by unfold zag; rw [if_neg (by omega)]) ?_
                refine .rd (.move rfl) ?_
                refine .rd (.add rfl rfl (by omega) (by omega)) ?_
                refine .rd (.assign rfl) ?_
                refine .rd (.assign rfl) ?_
                refine .rd (.assign rfl) ?_
                refine .nil ?_
                refine .retP Try.func64 (.cons (.tmp rfl) (.cons (.tmp rfl) (.cons (.tmp rfl) .nil))) (.cons .head .nil) ?_
                exact ⟨[], ⟨by rw [← hrv]; rfl, rfl⟩, rfl⟩
          · replace h13 := of_decide_eq_false h13
            refine .off (t := 41) rfl rfl rfl ?_
            refine .off (t := 41) rfl rfl rfl ?_
            refine .off (t := 41) rfl rfl rfl ?_
            refine .off (t := 41) rfl rfl rfl ?_
            refine .rd (.pickF rfl rfl) ?_
            refine .nil ?_
            refine .condF rfl ?_
            refine .skip ?_
            refine .seq ?_
            refine .seq ?_
            have hrv : (zag (z + b.toNat % 128 * 128 ^ i), i + 1, 0) = rint l := by rw [← hgo, if_neg h9, if_neg (by omega), if_neg (by omega)]
            have hzf := z_fits hI.2.1 (by omega) h9
            refine .region ?_   -- R15 ref.go:66
            refine .rd (.move rfl) ?_
            refine .rd (.rem rfl rfl (by omega) (by omega)) ?_
            refine .rd (.eqI rfl rfl) ?_
            refine .nil ?_
            refine .condP rfl (fun h15 => ?_) (fun h15 => ?_)
            · refine .seq ?_
              refine .region ?_   -- R16 ref.go:67
              refine .rd (.move rfl) ?_
              refine .rd (.quoW rfl rfl (by decide)) ?_
              refine .rd (.convInt Try.underlying82 Try.underlying3 rfl) ?_
              refine .alter (t := 52) (v' := .int .i64 (((z + b.toNat % 128 * 128 ^ i) / 2 : Nat) : Int)) rfl (by exact rhalf hzf) ?_
              refine .rd (.neg rfl (by omega) (by omega)) ?_
              refine .rd (.sub rfl rfl (by omega) (by omega)) ?_
              refine .alter (t := 54) (v' := .int .i64 (zag (z + b.toNat % 128 * 128 ^ i))) rfl (by unfold zag; rw [if_pos (by omega)]) ?_
              refine .rd (.move rfl) ?_
              refine .rd (.add rfl rfl (by omega) (by omega)) ?_
              refine .rd (.assign rfl) ?_
              refine .rd (.assign rfl) ?_
              refine .rd (.assign rfl) ?_
              refine .nil ?_
              refine .retP Try.func64 (.cons (.tmp rfl) (.cons (.tmp rfl) (.cons (.tmp rfl) .nil))) (.cons .head .nil) ?_
              exact ⟨[], ⟨by rw [← hrv]; rfl, rfl⟩, rfl⟩
            · refine .skip ?_
              refine .seq ?_
              refine .region ?_   -- R17 ref.go:69
              refine .rd (.move rfl) ?_
              refine .rd (.quoW rfl rfl (by decide)) ?_
              refine .rd (.convInt Try.underlying82 Try.underlying3 rfl) ?_
              refine .alter (t := 59) (v' := .int .i64 (((z + b.toNat % 128 * 128 ^ i) / 2 : Nat) : Int)) rfl (by exact rhalf hzf) ?_
              refine .alter (t := 59) (v' := .int .i64 (zag (z + b.toNat % 128 * 128 ^ i))) rfl (by unfold zag; rw [if_neg (by omega)]) ?_
              refine .rd (.move rfl) ?_
              refine .rd (.add rfl rfl (by omega) (by omega)) ?_
              refine .rd (.assign rfl) ?_
              refine .rd (.assign rfl) ?_
              refine .rd (.assign rfl) ?_
              refine .nil ?_
              refine .retP Try.func64 (.cons (.tmp rfl) (.cons (.tmp rfl) (.cons (.tmp rfl) .nil))) (.cons .head .nil) ?_
              exact ⟨[], ⟨by rw [← hrv]; rfl, rfl⟩, rfl⟩
  · refine .exit rfl ?_
    refine .seq ?_
    have hrv : (0, 0, 4) = rint l := by
      have := hI.1
      rw [show 10 - i = 0 by omega] at this
      exact this
    refine .region ?_   -- R18 ref.go:71
    refine .rd (.assign rfl) ?_
    refine .rd (.assign rfl) ?_
    refine .rd (.assign rfl) ?_
    refine .nil ?_
    refine .retP Try.func64 (.cons (.tmp rfl) (.cons (.tmp rfl) (.cons (.tmp rfl) .nil))) (.cons .head .nil) ?_
    exact ⟨[], ⟨by rw [← hrv]; rfl, rfl⟩, rfl⟩

end Go.Proofs.Ytllpkagplfmlbaa

