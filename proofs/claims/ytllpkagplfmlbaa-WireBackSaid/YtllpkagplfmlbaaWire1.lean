/- Steps through functions of the program, under conditions that each theorem states (part wire1 of a claim). -/
import Derived.Test.YtllpkagplfmlbaaProg
import Derived.Test.YtllpkagplfmlbaaL13
import Derived.Test.YtllpkagplfmlbaaDefs3b
namespace Go.Proofs.Ytllpkagplfmlbaa
open Go Go.Sp

set_option linter.unusedVariables false

namespace wire1
theorem ti5 : TI Try.prog 5 1 1 (.int .u8 0) := .of (by kernel_rfl)
end wire1
open wire1

theorem or128 (n : Nat) : (Value.int .u8 (IntKind.u8.wrap ((BitVec.ofInt 8 (IntKind.u8.wrap (n : Int)) ||| BitVec.ofInt 8 128).toNat : Int))) = .int .u8 ((UInt8.ofNat (n % 128 + 128)).toNat : Int) := by
  have key : ∀ m : Fin 256, (BitVec.ofInt 8 ((m : Nat) : Int) ||| BitVec.ofInt 8 128).toNat = (m : Nat) % 128 + 128 := by decide +kernel
  have h := key ⟨n % 256, by omega⟩
  rw [u64_u8 n]
  simp only at h
  rw [h, wrap_u8 (by omega)]
  have : (UInt8.ofNat (n % 128 + 128)).toNat = n % 128 + 128 := by simp; omega
  rw [this]; congr 2; omega
theorem u8_small {n : Nat} (h : n < 128) : (Value.int .u8 (IntKind.u8.wrap (n : Int))) = .int .u8 ((UInt8.ofNat n).toNat : Int) := by
  rw [wrap_u8 (by omega)]
  have : (UInt8.ofNat n).toNat = n := by simp; omega
  rw [this]
theorem shr7 (z : Nat) : (Value.int .u64 ((z : Int).fdiv (2 ^ (min 7 IntKind.u64.bits)))) = .int .u64 ((z / 128 : Nat) : Int) := by
  have : (2 : Int) ^ (min 7 IntKind.u64.bits) = 128 := by decide
  rw [this, Int.fdiv_eq_ediv_of_nonneg _ (by omega)]; rfl

set_option maxRecDepth 20000 in
theorem appendInt_ok (a : Option Addr) (c : Nat) (l : List UInt8) (n : Int) (hn : i64 n) (hl : l.length ≤ 1000000000000) : Cn Try.prog 46 [.slice a l.length c, .int .i64 n] (fun _ => True) [arr 5 1 a c (bcs l)] fun v G => ∃ a' c', v = .slice a' (l ++ eint n).length c' ∧ G = [arr 5 1 a' c' (bcs (l ++ eint n))] := by
  refine .enter Try.func46 rfl (by kernel_rfl) rfl fun R k => ?_
  refine .seq ?_
  refine .region ?_   -- R0 wire.go:27
  refine .rd (.assign rfl) ?_
  refine .nil ?_
  refine .seq ?_
  refine .region ?_   -- R1 wire.go:28
  refine .rd (.move rfl) ?_
  refine .rd (.shl (n := 1) rfl rfl) ?_
  refine .rd (.move rfl) ?_
  refine .rd (.shr (n := 63) rfl rfl) ?_
  refine .rd (.xor rfl rfl) ?_
  refine .rd (.convInt Try.underlying3 Try.underlying82 rfl) ?_
  refine .alter (t := 11) (v' := .int .u64 (zig n : Int)) rfl (by exact congrArg (Value.int .u64) (zig_bits hn)) ?_
  refine .rd (.assign rfl) ?_
  refine .nil ?_
  refine .seq ?_
  refine .block ?_
  refine .loop (σ := Nat × List UInt8 × Option Addr × Nat) (fun ⟨z, done, a', c'⟩ => done ++ vint z = l ++ eint n ∧ z < 18446744073709551616) (fun ⟨z, done, a', c'⟩ => z) (fun ⟨z, done, a', c'⟩ => [(0, .slice a' done.length c'), (5, .int .u64 (z : Int))]) (fun ⟨z, done, a', c'⟩ => [arr 5 1 a' c' (bcs done), R]) (zig n, l, a, c) ⟨rfl, zig_lt hn⟩ (.cons rfl (.cons rfl .nil)) (.cons .head (.cons .head .nil)) (fun s hI ih => ?_)
  obtain ⟨z, done, a', c'⟩ := s
  dsimp only at hI ih ⊢
  have hz := hI.2
  have hlen : done.length ≤ l.length + 10 := by have := congrArg List.length hI.1; simp only [List.length_append] at this; have := eint_len hn; omega
  refine .seq ?_
  refine .seq ?_
  refine .region ?_   -- R2 wire.go:29
  refine .rd (.move rfl) ?_
  refine .rd (.ge rfl rfl) ?_
  refine .nil ?_
  refine .condP rfl (fun h2 => ?_) (fun h2 => ?_)
  · refine .skip ?_
    refine .seq ?_
    refine .block ?_
    refine .region ?_   -- R4 wire.go:30
    refine .rd (.move rfl) ?_
    refine .rd (.move rfl) ?_
    refine .rd (.convInt Try.underlying82 Try.underlying5 rfl) ?_
    refine .rd (.or rfl rfl) ?_
    refine .alter (t := 19) (v' := .int .u8 ((UInt8.ofNat (z % 128 + 128)).toNat : Int)) rfl (by exact or128 z) ?_
    refine .ef (.buildOne (cs := bcs [UInt8.ofNat (z % 128 + 128)]) Try.underlying34 ti5 (by decide) rfl rfl rfl (ones.of rfl)) ?_
    rintro _ _ ⟨bs, rfl, rfl⟩
    refine .ef (.append rfl rfl Try.underlying34 ti5 rfl (ones.of rfl) (by decide) (by decide) rfl rfl (.tail .head) (n := done.length) (m := 1) (by rw [bcs_len, Nat.mul_one]) (.srcBlk .head Try.underlying34 rfl (by decide)) (by omega)) ?_
    rintro _ _ ⟨ra, rc, rfl, rn, rfl⟩
    refine .rd (.assign rfl) ?_
    refine .nil ?_
    refine .inBlock ?_
    refine .region ?_   -- R3 wire.go:29
    refine .rd (.move rfl) ?_
    refine .rd (.shr (n := 7) rfl rfl) ?_
    refine .alter (t := 15) (v' := .int .u64 ((z / 128 : Nat) : Int)) rfl (by exact shr7 z) ?_
    refine .rd (.assign rfl) ?_
    refine .nil ?_
    have hbig : ¬ z < 128 := by omega
    have hv := vint_big hbig
    rw [← bcs_append]
    exact (ih (z / 128, done ++ [UInt8.ofNat (z % 128 + 128)], ra, rc) ⟨by show done ++ [_] ++ vint (z / 128) = _; rw [List.append_assoc, ← hI.1, hv]; rfl, by show z / 128 < _; omega⟩ (by show z / 128 < z; omega)).to (.cons (by show _ = some (Value.slice ra (done ++ [UInt8.ofNat (z % 128 + 128)]).length rc); rw [List.length_append]; rfl) (.cons rfl .nil)) (.cons .head (.cons (.tail .head) .nil))
  · refine .exit rfl ?_
    refine .seq ?_
    refine .region ?_   -- R5 wire.go:32
    refine .rd (.move rfl) ?_
    refine .rd (.move rfl) ?_
    have hsm : z < 128 := by omega
    refine .rd (.convInt Try.underlying82 Try.underlying5 rfl) ?_
    refine .alter (t := 24) (v' := .int .u8 ((UInt8.ofNat z).toNat : Int)) rfl (by exact u8_small hsm) ?_
    refine .ef (.buildOne (cs := bcs [UInt8.ofNat z]) Try.underlying34 ti5 (by decide) rfl rfl rfl (ones.of rfl)) ?_
    rintro _ _ ⟨bs, rfl, rfl⟩
    refine .ef (.append rfl rfl Try.underlying34 ti5 rfl (ones.of rfl) (by decide) (by decide) rfl rfl (.tail .head) (n := done.length) (m := 1) (by rw [bcs_len, Nat.mul_one]) (.srcBlk .head Try.underlying34 rfl (by decide)) (by omega)) ?_
    rintro _ _ ⟨ra, rc, rfl, rn, rfl⟩
    refine .rd (.assign rfl) ?_
    refine .nil ?_
    rw [vint_small hsm] at hI
    rw [← bcs_append, hI.1]
    refine .retP Try.func46 (.cons (.tmp rfl) .nil) (.cons .head (.cons (.tail .head) .nil)) ?_
    exact ⟨[_], ⟨ra, rc, by simp only [resVal]; rw [← hI.1, List.length_append]; rfl, rfl⟩, rfl⟩

end Go.Proofs.Ytllpkagplfmlbaa

