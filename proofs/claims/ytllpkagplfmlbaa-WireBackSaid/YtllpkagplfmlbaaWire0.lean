/- Steps through functions of the program, under conditions that each theorem states (part wire0 of a claim). -/
import Derived.Test.YtllpkagplfmlbaaProg
import Derived.Test.YtllpkagplfmlbaaL13
import Derived.Test.YtllpkagplfmlbaaDefs3
namespace Go.Proofs.Ytllpkagplfmlbaa
open Go Go.Sp

set_option linter.unusedVariables false

namespace wire0

end wire0
open wire0

theorem quo_two (c : BitVec 32) : (Value.int .u32 (IntKind.u32.wrap ((c.toNat : Int).tdiv 2))) = .int .u32 ((c >>> 1).toNat : Int) := by
  have e : (c.toNat : Int).tdiv 2 = ((c >>> 1).toNat : Int) := by
    rw [Int.tdiv_eq_ediv_of_nonneg (by omega), BitVec.toNat_ushiftRight, Nat.shiftRight_eq_div_pow]; omega
  rw [e]; exact congrArg (Value.int .u32) (wrap_u (k := .u32) rfl (c >>> 1))
theorem xor_ones (c : BitVec 32) : c ^^^ 4294967295#32 = ~~~ c := by
  rw [show (4294967295#32 : BitVec 32) = BitVec.allOnes 32 from rfl, BitVec.xor_allOnes]
theorem crc_int (c : BitVec 32) : resVal [Value.int .i64 (IntKind.i64.wrap ((~~~ c).toNat : Int))] = .int .i64 ((~~~ c).toNat : Int) := by
  simp only [resVal]
  rw [wrap_i64 (by omega) (by have := (~~~ c).isLt; omega)]

set_option maxRecDepth 20000 in
theorem Crc_ok (l : List UInt8) (hl : l.length ≤ 9000000000000000000) : Cn Try.prog 14 [.string (str l)] (fun _ => True) [] fun v G => v = .int .i64 ((crc l).toNat : Int) ∧ G = [] := by
  refine .enter Try.func14 rfl (by kernel_rfl) rfl fun R k => ?_
  refine .seq ?_
  refine .region ?_   -- R0 wire.go:13
  refine .rd (.assign rfl) ?_
  refine .nil ?_
  refine .seq ?_
  refine .region ?_   -- R1 wire.go:14
  refine .rd (.assign rfl) ?_
  refine .nil ?_
  refine .seq ?_
  refine .seq ?_
  refine .region ?_   -- R2 wire.go:15
  refine .rd (.move rfl) ?_
  refine .rd (.lenT rfl rfl Try.underlying9 rfl) ?_
  refine .rd (.move rfl) ?_
  refine .nil ?_
  refine .block ?_
  refine .loop (σ := Nat) (fun i => i ≤ l.length) (fun i => l.length - i) (fun i => [(0, .string (str l)), (3, .int .u32 ((crcS (l.take i)).toNat : Int)), (6, .int .i64 l.length), (7, .int .i64 (i : Nat))]) (fun i => [R]) 0 (Nat.zero_le _) (.cons rfl (.cons rfl (.cons rfl (.cons rfl .nil)))) (.cons .head .nil) (fun i hI ih => ?_)
  have hI0 := hI
  have ih0 := ih
  refine .seq ?_
  refine .region ?_   -- R3 wire.go:15
  refine .rd (.lt rfl rfl) ?_
  refine .nil ?_
  refine .seq ?_
  refine .condP rfl (fun h3 => ?_) (fun h3 => ?_)
  · refine .skip ?_
    refine .seq ?_
    refine .block ?_
    refine .seq ?_
    refine .region ?_   -- R4 wire.go:15
    refine .rd (.move rfl) ?_
    refine .rd (.assign rfl) ?_
    refine .nil ?_
    refine .seq ?_
    have hlt : i < l.length := by omega
    obtain ⟨b, hb⟩ : ∃ b, l[i]? = some b := ⟨_, List.getElem?_eq_getElem hlt⟩
    refine .region ?_   -- R5 wire.go:16
    refine .rd (.move rfl) ?_
    refine .rd (.move rfl) ?_
    refine .rd (.move rfl) ?_
    refine .rd (.indexT Try.underlying9 rfl rfl (by omega) hb) ?_
    refine .rd (.convInt (k := .u32) (j := .u8) (n := (b.toNat : Int)) Try.underlying5 Try.underlying66 rfl) ?_
    refine .alter (t := 14) (v' := .int .u32 ((BitVec.ofNat 32 b.toNat).toNat : Int)) rfl (by rw [u8_u32]) ?_
    refine .rd (.xorU (k := .u32) (a := (crcS (l.take i))) (b := BitVec.ofNat 32 b.toNat) rfl rfl rfl) ?_
    refine .rd (.assign rfl) ?_
    refine .nil ?_
    refine .seq ?_
    refine .region ?_   -- R6 wire.go:17
    refine .rd (.move rfl) ?_
    refine .nil ?_
    refine .block ?_
    refine .loop (σ := Nat × BitVec 32) (fun ⟨j, c⟩ => j ≤ 8 ∧ crcN (8 - j) c = crcB (crcS (l.take i)) b) (fun ⟨j, c⟩ => 8 - j) (fun ⟨j, c⟩ => [(0, .string (str l)), (3, .int .u32 (c.toNat : Int)), (6, .int .i64 l.length), (7, .int .i64 (i : Nat)), (16, .int .i64 (j : Nat))]) (fun ⟨j, c⟩ => [R]) (0, (crcS (l.take i)) ^^^ BitVec.ofNat 32 b.toNat) ⟨Nat.zero_le _, rfl⟩ (.cons rfl (.cons rfl (.cons rfl (.cons rfl (.cons rfl .nil))))) (.cons .head .nil) (fun s hI ih => ?_)
    obtain ⟨j, c⟩ := s
    dsimp only at hI ih ⊢
    have hj := hI.1
    refine .seq ?_
    refine .region ?_   -- R7 wire.go:17
    refine .rd (.lt rfl rfl) ?_
    refine .nil ?_
    refine .seq ?_
    refine .condP rfl (fun h7 => ?_) (fun h7 => ?_)
    · refine .skip ?_
      refine .seq ?_
      refine .block ?_
      refine .region ?_   -- R8 wire.go:18
      refine .rd (.move rfl) ?_
      refine .rd (.shrU (k := .u32) (a := c) (n := 1) (by decide) rfl rfl) ?_
      refine .rd (.move rfl) ?_
      refine .rd (.andU (k := .u32) (a := c) (b := 1#32) rfl rfl rfl) ?_
      refine .rd (.negU (k := .u32) (a := (c &&& 1#32)) rfl rfl) ?_
      refine .rd (.andU (k := .u32) (a := 2197175160#32) (b := (-(c &&& 1#32))) rfl rfl rfl) ?_
      refine .rd (.xorU (k := .u32) (a := (c >>> 1)) (b := (2197175160#32 &&& -(c &&& 1#32))) rfl rfl rfl) ?_
      refine .rd (.assign rfl) ?_
      refine .nil ?_
      refine .inBlock ?_
      refine .region ?_   -- R9 wire.go:17
      refine .rd (.add rfl rfl (by omega) (by omega)) ?_
      refine .rd (.move rfl) ?_
      refine .nil ?_
      exact (ih (j + 1, crc1 c) ⟨by show j + 1 ≤ 8; omega, by show crcN (8 - (j + 1)) (crc1 c) = _; rw [← hI.2, show 8 - j = (8 - (j + 1)) + 1 by omega]; rfl⟩ (by show 8 - (j + 1) < 8 - j; omega)).to (.cons rfl (.cons rfl (.cons rfl (.cons rfl (.cons rfl .nil))))) (.cons .head .nil)
    · have hc8 : c = crcB (crcS (l.take i)) b := by have := hI.2; rw [show 8 - j = 0 by omega] at this; exact this
      refine .exit rfl ?_
      refine .inBlock ?_
      refine .region ?_   -- R10 wire.go:15
      refine .rd (.add rfl rfl (by omega) (by omega)) ?_
      refine .rd (.move rfl) ?_
      refine .nil ?_
      exact (ih0 (i + 1) (by omega) (by omega)).to (.cons rfl (.cons (by show _ = some (Value.int .u32 ((crcS (l.take (i + 1))).toNat : Int)); rw [crcS_snoc l i hb, ← hc8]; rfl) (.cons rfl (.cons rfl .nil)))) (.cons .head .nil)
  · refine .exit rfl ?_
    refine .seq ?_
    refine .region ?_   -- R11 wire.go:21
    refine .rd (.move rfl) ?_
    refine .rd (.comU (k := .u32) (a := (crcS (l.take i))) rfl rfl) ?_
    refine .rd (.convInt (k := .i64) (j := .u32) (n := ((~~~ (crcS (l.take i))).toNat : Int)) Try.underlying66 Try.underlying3 rfl) ?_
    refine .rd (.assign rfl) ?_
    refine .nil ?_
    refine .retP Try.func14 (.cons (.tmp rfl) .nil) (.cons .head .nil) ?_
    refine ⟨[], ⟨?_, rfl⟩, rfl⟩
    rw [List.take_of_length_le (by omega)]
    exact crc_int _

set_option maxRecDepth 20000 in
theorem rCrc_ok (l : List UInt8) (hl : l.length ≤ 9000000000000000000) : Cn Try.prog 15 [.string (str l)] (fun _ => True) [] fun v G => v = .int .i64 ((crc l).toNat : Int) ∧ G = [] := by
  refine .enter Try.func15 rfl (by kernel_rfl) rfl fun R k => ?_
  refine .seq ?_
  refine .region ?_   -- R0 ref.go:18
  refine .rd (.assign rfl) ?_
  refine .nil ?_
  refine .seq ?_
  refine .region ?_   -- R1 ref.go:19
  refine .rd (.assign rfl) ?_
  refine .nil ?_
  refine .seq ?_
  refine .seq ?_
  refine .region ?_   -- R2 ref.go:20
  refine .rd (.assign rfl) ?_
  refine .nil ?_
  refine .block ?_
  refine .loop (σ := Nat) (fun i => i ≤ l.length) (fun i => l.length - i) (fun i => [(0, .string (str l)), (3, .int .u32 ((crcS (l.take i)).toNat : Int)), (4, .int .i64 (i : Nat))]) (fun i => [R]) 0 (Nat.zero_le _) (.cons rfl (.cons rfl (.cons rfl .nil))) (.cons .head .nil) (fun i hI ih => ?_)
  have hI0 := hI
  have ih0 := ih
  refine .seq ?_
  refine .seq ?_
  refine .region ?_   -- R3 ref.go:20
  refine .rd (.move rfl) ?_
  refine .rd (.move rfl) ?_
  refine .rd (.lenT rfl rfl Try.underlying9 rfl) ?_
  refine .rd (.lt rfl rfl) ?_
  refine .nil ?_
  refine .condP rfl (fun h3 => ?_) (fun h3 => ?_)
  · refine .skip ?_
    refine .seq ?_
    refine .block ?_
    refine .seq ?_
    have hlt : i < l.length := by omega
    obtain ⟨b, hb⟩ : ∃ b, l[i]? = some b := ⟨_, List.getElem?_eq_getElem hlt⟩
    refine .region ?_   -- R5 ref.go:21
    refine .rd (.move rfl) ?_
    refine .rd (.move rfl) ?_
    refine .rd (.move rfl) ?_
    refine .rd (.indexT Try.underlying9 rfl rfl (by omega) hb) ?_
    refine .rd (.convInt (k := .u32) (j := .u8) (n := (b.toNat : Int)) Try.underlying5 Try.underlying66 rfl) ?_
    refine .alter (t := 17) (v' := .int .u32 ((BitVec.ofNat 32 b.toNat).toNat : Int)) rfl (by rw [u8_u32]) ?_
    refine .rd (.xorU (k := .u32) (a := (crcS (l.take i))) (b := BitVec.ofNat 32 b.toNat) rfl rfl rfl) ?_
    refine .rd (.assign rfl) ?_
    refine .nil ?_
    refine .seq ?_
    refine .region ?_   -- R6 ref.go:22
    refine .rd (.assign rfl) ?_
    refine .nil ?_
    refine .block ?_
    refine .loop (σ := Nat × BitVec 32) (fun ⟨j, c⟩ => j ≤ 8 ∧ crcN (8 - j) c = crcB (crcS (l.take i)) b) (fun ⟨j, c⟩ => 8 - j) (fun ⟨j, c⟩ => [(0, .string (str l)), (3, .int .u32 (c.toNat : Int)), (4, .int .i64 (i : Nat)), (5, .int .i64 (j : Nat))]) (fun ⟨j, c⟩ => [R]) (0, (crcS (l.take i)) ^^^ BitVec.ofNat 32 b.toNat) ⟨Nat.zero_le _, rfl⟩ (.cons rfl (.cons rfl (.cons rfl (.cons rfl .nil)))) (.cons .head .nil) (fun s hI ih => ?_)
    obtain ⟨j, c⟩ := s
    dsimp only at hI ih ⊢
    have hj := hI.1
    refine .seq ?_
    refine .seq ?_
    refine .region ?_   -- R7 ref.go:22
    refine .rd (.move rfl) ?_
    refine .rd (.lt rfl rfl) ?_
    refine .nil ?_
    refine .condP rfl (fun h7 => ?_) (fun h7 => ?_)
    · refine .skip ?_
      refine .seq ?_
      refine .block ?_
      refine .seq ?_
      refine .region ?_   -- R9 ref.go:23
      refine .rd (.move rfl) ?_
      refine .rd (.rem (k := .u32) (m := (c.toNat : Int)) (n := 2) rfl rfl (by omega) (by decide)) ?_
      refine .rd (.assign rfl) ?_
      refine .nil ?_
      refine .seq ?_
      refine .region ?_   -- R10 ref.go:24
      refine .rd (.move rfl) ?_
      refine .rd (.quoW (k := .u32) (m := (c.toNat : Int)) (n := 2) rfl rfl (by decide)) ?_
      refine .alter (t := 26) (v' := .int .u32 ((c >>> 1).toNat : Int)) rfl (by rw [quo_two]) ?_
      refine .rd (.assign rfl) ?_
      refine .nil ?_
      refine .seq ?_
      refine .region ?_   -- R11 ref.go:25
      refine .rd (.move rfl) ?_
      refine .rd (.eqI rfl rfl) ?_
      refine .nil ?_
      refine .condP rfl (fun h11 => ?_) (fun h11 => ?_)
      · refine .region ?_   -- R12 ref.go:26
        refine .rd (.move rfl) ?_
        refine .rd (.xorU (k := .u32) (a := (c >>> 1)) (b := 2197175160#32) rfl rfl rfl) ?_
        refine .rd (.assign rfl) ?_
        refine .nil ?_
        refine .inBlock ?_
        refine .region ?_   -- R8 ref.go:22
        refine .rd (.move rfl) ?_
        refine .rd (.add rfl rfl (by omega) (by omega)) ?_
        refine .rd (.assign rfl) ?_
        refine .nil ?_
        have hodd : c.toNat % 2 = 1 := by omega
        have hstep : crc1 c = ((c >>> 1) ^^^ 2197175160#32) := crc1_odd hodd
        exact (ih (j + 1, ((c >>> 1) ^^^ 2197175160#32)) ⟨by show j + 1 ≤ 8; omega, by show crcN (8 - (j + 1)) ((c >>> 1) ^^^ 2197175160#32) = _; rw [← hI.2, show 8 - j = (8 - (j + 1)) + 1 by omega, ← hstep]; rfl⟩ (by show 8 - (j + 1) < 8 - j; omega)).to (.cons rfl (.cons rfl (.cons rfl (.cons rfl .nil)))) (.cons .head .nil)
      · refine .skip ?_
        refine .inBlock ?_
        refine .region ?_   -- R8 ref.go:22
        refine .rd (.move rfl) ?_
        refine .rd (.add rfl rfl (by omega) (by omega)) ?_
        refine .rd (.assign rfl) ?_
        refine .nil ?_
        have hodd : c.toNat % 2 = 0 := by omega
        have hstep : crc1 c = (c >>> 1) := crc1_even hodd
        exact (ih (j + 1, (c >>> 1)) ⟨by show j + 1 ≤ 8; omega, by show crcN (8 - (j + 1)) (c >>> 1) = _; rw [← hI.2, show 8 - j = (8 - (j + 1)) + 1 by omega, ← hstep]; rfl⟩ (by show 8 - (j + 1) < 8 - j; omega)).to (.cons rfl (.cons rfl (.cons rfl (.cons rfl .nil)))) (.cons .head .nil)
    · have hc8 : c = crcB (crcS (l.take i)) b := by have := hI.2; rw [show 8 - j = 0 by omega] at this; exact this
      refine .exit rfl ?_
      refine .inBlock ?_
      refine .region ?_   -- R4 ref.go:20
      refine .rd (.move rfl) ?_
      refine .rd (.add rfl rfl (by omega) (by omega)) ?_
      refine .rd (.assign rfl) ?_
      refine .nil ?_
      exact (ih0 (i + 1) (by omega) (by omega)).to (.cons rfl (.cons (by show _ = some (Value.int .u32 ((crcS (l.take (i + 1))).toNat : Int)); rw [crcS_snoc l i hb, ← hc8]; rfl) (.cons rfl .nil))) (.cons .head .nil)
  · refine .exit rfl ?_
    refine .seq ?_
    refine .region ?_   -- R13 ref.go:30
    refine .rd (.move rfl) ?_
    refine .rd (.xorU (k := .u32) (a := (crcS (l.take i))) (b := 4294967295#32) rfl rfl rfl) ?_
    refine .rd (.convInt (k := .i64) (j := .u32) (n := (((crcS (l.take i)) ^^^ 4294967295#32).toNat : Int)) Try.underlying66 Try.underlying3 rfl) ?_
    refine .rd (.assign rfl) ?_
    refine .nil ?_
    refine .retP Try.func15 (.cons (.tmp rfl) .nil) (.cons .head .nil) ?_
    refine ⟨[], ⟨?_, rfl⟩, rfl⟩
    rw [List.take_of_length_le (by omega), xor_ones]
    exact crc_int _

end Go.Proofs.Ytllpkagplfmlbaa

