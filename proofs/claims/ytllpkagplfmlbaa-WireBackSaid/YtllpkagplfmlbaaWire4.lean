/- Steps through functions of the program, under conditions that each theorem states (part wire4 of a claim). -/
import Derived.Test.YtllpkagplfmlbaaProg
import Derived.Test.YtllpkagplfmlbaaL13
import Derived.Test.YtllpkagplfmlbaaDefs3c
import Derived.Test.YtllpkagplfmlbaaWire3
namespace Go.Proofs.Ytllpkagplfmlbaa
open Go Go.Sp

set_option linter.unusedVariables false

namespace wire4
theorem ti5 : TI Try.prog 5 1 1 (.int .u8 0) := .of (by kernel_rfl)
end wire4
open wire4

theorem rzig_pos {n : Int} (hn : i64 n) (h : ¬ n < 0) : IntKind.u64.wrap (2 * IntKind.u64.wrap n) = (zig n : Int) := by
  obtain ⟨h1, h2⟩ := hn
  rw [u64_of, u64_of]; unfold zig; rw [if_neg h]; omega
theorem rzig_neg {n : Int} (hn : i64 n) (h : n < 0) : IntKind.u64.wrap (IntKind.u64.wrap (2 * IntKind.u64.wrap (-(n + 1))) + 1) = (zig n : Int) := by
  obtain ⟨h1, h2⟩ := hn
  rw [u64_of, u64_of, u64_of]; unfold zig; rw [if_pos h]; omega
theorem rbyte (z : Nat) : (Value.int .u8 (IntKind.u8.wrap (IntKind.u64.wrap ((z : Int) % 128 + 128)))) = .int .u8 ((UInt8.ofNat (z % 128 + 128)).toNat : Int) := by
  have e : (z : Int) % 128 + 128 = ((z % 128 + 128 : Nat) : Int) := by omega
  rw [e, wrap_u64 (by omega), wrap_u8 (by omega)]
  have : (UInt8.ofNat (z % 128 + 128)).toNat = z % 128 + 128 := by simp; omega
  rw [this]
theorem rquo {z : Nat} (h : z < 18446744073709551616) : (Value.int .u64 (IntKind.u64.wrap ((z : Int).tdiv 128))) = .int .u64 ((z / 128 : Nat) : Int) := by
  have e : (z : Int).tdiv 128 = ((z / 128 : Nat) : Int) := by rw [Int.tdiv_eq_ediv_of_nonneg (by omega)]; omega
  rw [e, wrap_u64 (by omega)]

set_option maxRecDepth 20000 in
theorem rInt_ok (n : Int) (hn : i64 n) : Cn Try.prog 48 [.int .i64 n] (fun _ => True) [] fun v G => v = .string (str (eint n)) ∧ G = [] := by
  refine .enter Try.func48 rfl (by kernel_rfl) rfl fun R k => ?_
  refine .seq ?_
  refine .region ?_   -- R0 ref.go:34
  refine .rd (.assign rfl) ?_
  refine .nil ?_
  refine .seq ?_
  refine .region ?_   -- R1 ref.go:35
  refine .rd (.move rfl) ?_
  refine .rd (.convInt Try.underlying3 Try.underlying82 rfl) ?_
  refine .rd (.mulW rfl rfl) ?_
  refine .rd (.assign rfl) ?_
  refine .nil ?_
  refine .seq ?_
  refine .seq ?_
  refine .region ?_   -- R2 ref.go:36
  refine .rd (.move rfl) ?_
  refine .rd (.lt rfl rfl) ?_
  refine .nil ?_
  refine .condP rfl (fun c2 => ?_) (fun c2 => ?_)
  · refine .region ?_   -- R3 ref.go:37
    refine .rd (.move rfl) ?_
    refine .rd (.add rfl rfl (by obtain ⟨h1, h2⟩ := hn; omega) (by obtain ⟨h1, h2⟩ := hn; omega)) ?_
    refine .rd (.neg rfl (by obtain ⟨h1, h2⟩ := hn; omega) (by obtain ⟨h1, h2⟩ := hn; omega)) ?_
    refine .rd (.convInt Try.underlying3 Try.underlying82 rfl) ?_
    refine .rd (.mulW rfl rfl) ?_
    refine .rd (.addW rfl rfl) ?_
    refine .alter (t := 15) (v' := .int .u64 (zig n : Int)) rfl (by exact congrArg (Value.int .u64) (rzig_neg hn c2)) ?_
    refine .rd (.assign rfl) ?_
    refine .nil ?_
    refine .seq ?_
    refine .region ?_   -- R4 ref.go:39
    refine .rd (.assign rfl) ?_
    refine .nil ?_
    refine .nilArr 5 1 none ?_
    refine .seq ?_
    refine .block ?_
    refine .loop (σ := Nat × List UInt8 × Option Addr × Nat) (fun ⟨z, done, a', c'⟩ => done ++ vint z = eint n ∧ z < 18446744073709551616) (fun ⟨z, done, a', c'⟩ => z) (fun ⟨z, done, a', c'⟩ => [(4, .slice a' done.length c'), (3, .int .u64 (z : Int))]) (fun ⟨z, done, a', c'⟩ => [arr 5 1 a' c' (bcs done), R]) (zig n, [], none, 0) ⟨rfl, zig_lt hn⟩ (.cons rfl (.cons rfl .nil)) (.cons .head (.cons .head .nil)) (fun s hI ih => ?_)
    obtain ⟨z, done, a', c'⟩ := s
    dsimp only at hI ih ⊢
    have hz := hI.2
    have hlen : done.length ≤ 10 := by have := congrArg List.length hI.1; simp only [List.length_append] at this; have := eint_len hn; omega
    refine .seq ?_
    refine .seq ?_
    refine .region ?_   -- R5 ref.go:40
    refine .rd (.move rfl) ?_
    refine .rd (.ge rfl rfl) ?_
    refine .nil ?_
    refine .condP rfl (fun h5 => ?_) (fun h5 => ?_)
    · refine .skip ?_
      refine .block ?_
      refine .seq ?_
      refine .region ?_   -- R6 ref.go:41
      refine .rd (.move rfl) ?_
      refine .rd (.move rfl) ?_
      refine .rd (.rem rfl rfl (by omega) (by omega)) ?_
      refine .rd (.addW rfl rfl) ?_
      refine .rd (.convInt Try.underlying82 Try.underlying5 rfl) ?_
      refine .alter (t := 22) (v' := .int .u8 ((UInt8.ofNat (z % 128 + 128)).toNat : Int)) rfl (by exact rbyte z) ?_
      refine .ef (.buildOne (cs := bcs [UInt8.ofNat (z % 128 + 128)]) Try.underlying34 ti5 (by decide) rfl rfl rfl (ones.of rfl)) ?_
      rintro _ _ ⟨bs, rfl, rfl⟩
      refine .ef (.append rfl rfl Try.underlying34 ti5 rfl (ones.of rfl) (by decide) (by decide) rfl rfl (.tail .head) (n := done.length) (m := 1) (by rw [bcs_len, Nat.mul_one]) (.srcBlk .head Try.underlying34 rfl (by decide)) (by omega)) ?_
      rintro _ _ ⟨ra, rc, rfl, rn, rfl⟩
      refine .rd (.assign rfl) ?_
      refine .nil ?_
      refine .region ?_   -- R7 ref.go:42
      refine .rd (.move rfl) ?_
      refine .rd (.quoW rfl rfl (by decide)) ?_
      refine .alter (t := 26) (v' := .int .u64 ((z / 128 : Nat) : Int)) rfl (by exact rquo hz) ?_
      refine .rd (.assign rfl) ?_
      refine .nil ?_
      refine .inBlock ?_
      have hbig : ¬ z < 128 := by omega
      have hv := vint_big hbig
      rw [← bcs_append]
      exact (ih (z / 128, done ++ [UInt8.ofNat (z % 128 + 128)], ra, rc) ⟨by show done ++ [_] ++ vint (z / 128) = _; rw [List.append_assoc, ← hI.1, hv]; rfl, by show z / 128 < _; omega⟩ (by show z / 128 < z; omega)).to (.cons (by show _ = some (Value.slice ra (done ++ [UInt8.ofNat (z % 128 + 128)]).length rc); rw [List.length_append]; rfl) (.cons rfl .nil)) (.cons .head (.cons (.tail .head) .nil))
    · refine .exit rfl ?_
      refine .seq ?_
      refine .region ?_   -- R8 ref.go:44
      refine .rd (.move rfl) ?_
      refine .rd (.move rfl) ?_
      have hsm : z < 128 := by omega
      refine .rd (.convInt Try.underlying82 Try.underlying5 rfl) ?_
      refine .alter (t := 29) (v' := .int .u8 ((UInt8.ofNat z).toNat : Int)) rfl (by exact u8_small hsm) ?_
      refine .ef (.buildOne (cs := bcs [UInt8.ofNat z]) Try.underlying34 ti5 (by decide) rfl rfl rfl (ones.of rfl)) ?_
      rintro _ _ ⟨bs, rfl, rfl⟩
      refine .ef (.append rfl rfl Try.underlying34 ti5 rfl (ones.of rfl) (by decide) (by decide) rfl rfl (.tail .head) (n := done.length) (m := 1) (by rw [bcs_len, Nat.mul_one]) (.srcBlk .head Try.underlying34 rfl (by decide)) (by omega)) ?_
      rintro _ _ ⟨ra, rc, rfl, rn, rfl⟩
      rw [vint_small hsm] at hI
      have hfin : bcs done ++ bcs [UInt8.ofNat z] = bcs (eint n) := by rw [← bcs_append, hI.1]
      rw [hfin]
      refine .rd (.bytesToStr (l := eint n) Try.underlying34 Try.underlying5 Try.underlying9 rfl (by rw [← hI.1, List.length_append]; rfl) (Knows.arr .head)) ?_
      refine .rd (.assign rfl) ?_
      refine .nil ?_
      refine .retP Try.func48 (.cons (.tmp rfl) .nil) (.cons (.tail (.tail .head)) .nil) ?_
      exact ⟨[], ⟨rfl, rfl⟩, rfl⟩
  · refine .alter (t := 3) (v' := .int .u64 (zig n : Int)) rfl (by exact congrArg (Value.int .u64) (rzig_pos hn c2)) ?_
    refine .skip ?_
    refine .seq ?_
    refine .region ?_   -- R4 ref.go:39
    refine .rd (.assign rfl) ?_
    refine .nil ?_
    refine .nilArr 5 1 none ?_
    refine .seq ?_
    refine .block ?_
    refine .loop (σ := Nat × List UInt8 × Option Addr × Nat) (fun ⟨z, done, a', c'⟩ => done ++ vint z = eint n ∧ z < 18446744073709551616) (fun ⟨z, done, a', c'⟩ => z) (fun ⟨z, done, a', c'⟩ => [(4, .slice a' done.length c'), (3, .int .u64 (z : Int))]) (fun ⟨z, done, a', c'⟩ => [arr 5 1 a' c' (bcs done), R]) (zig n, [], none, 0) ⟨rfl, zig_lt hn⟩ (.cons rfl (.cons rfl .nil)) (.cons .head (.cons .head .nil)) (fun s hI ih => ?_)
    obtain ⟨z, done, a', c'⟩ := s
    dsimp only at hI ih ⊢
    have hz := hI.2
    have hlen : done.length ≤ 10 := by have := congrArg List.length hI.1; simp only [List.length_append] at this; have := eint_len hn; omega
    refine .seq ?_
    refine .seq ?_
    refine .region ?_   -- R5 ref.go:40
    refine .rd (.move rfl) ?_
    refine .rd (.ge rfl rfl) ?_
    refine .nil ?_
    refine .condP rfl (fun h5 => ?_) (fun h5 => ?_)
    · refine .skip ?_
      refine .block ?_
      refine .seq ?_
      refine .region ?_   -- R6 ref.go:41
      refine .rd (.move rfl) ?_
      refine .rd (.move rfl) ?_
      refine .rd (.rem rfl rfl (by omega) (by omega)) ?_
      refine .rd (.addW rfl rfl) ?_
      refine .rd (.convInt Try.underlying82 Try.underlying5 rfl) ?_
      refine .alter (t := 22) (v' := .int .u8 ((UInt8.ofNat (z % 128 + 128)).toNat : Int)) rfl (by exact rbyte z) ?_
      refine .ef (.buildOne (cs := bcs [UInt8.ofNat (z % 128 + 128)]) Try.underlying34 ti5 (by decide) rfl rfl rfl (ones.of rfl)) ?_
      rintro _ _ ⟨bs, rfl, rfl⟩
      refine .ef (.append rfl rfl Try.underlying34 ti5 rfl (ones.of rfl) (by decide) (by decide) rfl rfl (.tail .head) (n := done.length) (m := 1) (by rw [bcs_len, Nat.mul_one]) (.srcBlk .head Try.underlying34 rfl (by decide)) (by omega)) ?_
      rintro _ _ ⟨ra, rc, rfl, rn, rfl⟩
      refine .rd (.assign rfl) ?_
      refine .nil ?_
      refine .region ?_   -- R7 ref.go:42
      refine .rd (.move rfl) ?_
      refine .rd (.quoW rfl rfl (by decide)) ?_
      refine .alter (t := 26) (v' := .int .u64 ((z / 128 : Nat) : Int)) rfl (by exact rquo hz) ?_
      refine .rd (.assign rfl) ?_
      refine .nil ?_
      refine .inBlock ?_
      have hbig : ¬ z < 128 := by omega
      have hv := vint_big hbig
      rw [← bcs_append]
      exact (ih (z / 128, done ++ [UInt8.ofNat (z % 128 + 128)], ra, rc) ⟨by show done ++ [_] ++ vint (z / 128) = _; rw [List.append_assoc, ← hI.1, hv]; rfl, by show z / 128 < _; omega⟩ (by show z / 128 < z; omega)).to (.cons (by show _ = some (Value.slice ra (done ++ [UInt8.ofNat (z % 128 + 128)]).length rc); rw [List.length_append]; rfl) (.cons rfl .nil)) (.cons .head (.cons (.tail .head) .nil))
    · refine .exit rfl ?_
      refine .seq ?_
      refine .region ?_   -- R8 ref.go:44
      refine .rd (.move rfl) ?_
      refine .rd (.move rfl) ?_
      have hsm : z < 128 := by omega
      refine .rd (.convInt Try.underlying82 Try.underlying5 rfl) ?_
      refine .alter (t := 29) (v' := .int .u8 ((UInt8.ofNat z).toNat : Int)) rfl (by exact u8_small hsm) ?_
      refine .ef (.buildOne (cs := bcs [UInt8.ofNat z]) Try.underlying34 ti5 (by decide) rfl rfl rfl (ones.of rfl)) ?_
      rintro _ _ ⟨bs, rfl, rfl⟩
      refine .ef (.append rfl rfl Try.underlying34 ti5 rfl (ones.of rfl) (by decide) (by decide) rfl rfl (.tail .head) (n := done.length) (m := 1) (by rw [bcs_len, Nat.mul_one]) (.srcBlk .head Try.underlying34 rfl (by decide)) (by omega)) ?_
      rintro _ _ ⟨ra, rc, rfl, rn, rfl⟩
      rw [vint_small hsm] at hI
      have hfin : bcs done ++ bcs [UInt8.ofNat z] = bcs (eint n) := by rw [← bcs_append, hI.1]
      rw [hfin]
      refine .rd (.bytesToStr (l := eint n) Try.underlying34 Try.underlying5 Try.underlying9 rfl (by rw [← hI.1, List.length_append]; rfl) (Knows.arr .head)) ?_
      refine .rd (.assign rfl) ?_
      refine .nil ?_
      refine .retP Try.func48 (.cons (.tmp rfl) .nil) (.cons (.tail (.tail .head)) .nil) ?_
      exact ⟨[], ⟨rfl, rfl⟩, rfl⟩

end Go.Proofs.Ytllpkagplfmlbaa

