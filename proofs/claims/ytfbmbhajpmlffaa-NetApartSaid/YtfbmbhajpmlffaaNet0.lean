/- Steps through functions of the program, under conditions that each theorem states (part net0 of a claim). -/
import Derived.Test.YtfbmbhajpmlffaaProg
import Derived.Test.YtfbmbhajpmlffaaL7
import Derived.Test.YtfbmbhajpmlffaaDefs
namespace Go.Proofs.Ytfbmbhajpmlffaa
open Go Go.Sp

set_option linter.unusedVariables false

namespace net0
theorem ti32 : TI Try.prog 32 21 232 (.agg #[.int .i64 0, .int .i64 0, .int .i64 0, .int .i64 0, .int .i64 0, .int .i64 0, .int .i64 0, .int .i64 0, .int .i64 0, .int .i64 0, .int .i64 0, .int .i64 0, .int .i64 0, .int .i64 0, .int .i64 0, .int .i64 0, .string ⟨#[]⟩, .string ⟨#[]⟩, .slice none 0 0, .slice none 0 0, .slice none 0 0]) := .of (by kernel_rfl)
theorem bld32_1_2_3 (x0 : Int) (x1 : Int) (x2 : Int) (w : World) : (Instr.build 32 (([1, 2, 3] : List Nat).zip [.int .i64 x0, .int .i64 x1, .int .i64 x2]).toArray).run Try.prog w = .ok (.agg #[.int .i64 0, .int .i64 x0, .int .i64 x1, .int .i64 x2, .int .i64 0, .int .i64 0, .int .i64 0, .int .i64 0, .int .i64 0, .int .i64 0, .int .i64 0, .int .i64 0, .int .i64 0, .int .i64 0, .int .i64 0, .int .i64 0, .string ⟨#[]⟩, .string ⟨#[]⟩, .slice none 0 0, .slice none 0 0, .slice none 0 0]) w := by kernel_rfl
theorem ts32 : TS Try.prog 32 21 := .of (by kernel_rfl)
theorem ia32 : IsAgg Try.prog 32 := ⟨_, Try.underlying32, trivial⟩
theorem ti60 : TI Try.prog 60 2 16 (.agg #[.int .i64 0, .int .i64 0]) := .of (by kernel_rfl)
theorem bld60_0_1 (x0 : Int) (x1 : Int) (w : World) : (Instr.build 60 (([0, 1] : List Nat).zip [.int .i64 x0, .int .i64 x1]).toArray).run Try.prog w = .ok (.agg #[.int .i64 x0, .int .i64 x1]) w := by kernel_rfl
theorem ts60 : TS Try.prog 60 2 := .of (by kernel_rfl)
theorem ia60 : IsAgg Try.prog 60 := ⟨_, Try.underlying60, trivial⟩
end net0
open net0



theorem pick_ok (c n : Int) (hc1 : -9223372036854775808 ≤ c) (hc2 : c ≤ 9223372036854775807) (hn : 0 < n) :
    Cn Try.prog 9 [.int .i64 c, .int .i64 n] (fun _ => True) [] fun v G => v = .int .i64 (pickS c n) ∧ G = [] := by
  refine .enter Try.func9 rfl (by kernel_rfl) rfl fun R k => ?_
  refine .seq ?_
  refine .region ?_   -- R0 law.go:11
  refine .rd (.assign rfl) ?_
  refine .nil ?_
  refine .seq ?_
  refine .seq ?_
  refine .region ?_   -- R1 law.go:12
  refine .rd (.move rfl) ?_
  refine .rd (.lt rfl rfl) ?_
  refine .nil ?_
  refine .condP rfl (fun c1 => ?_) (fun c1 => ?_)
  · refine .region ?_   -- R2 law.go:13
    refine .rd (.move rfl) ?_
    refine .rd (.add rfl rfl (by omega) (by omega)) ?_
    refine .rd (.neg rfl (by omega) (by omega)) ?_
    refine .rd (.assign rfl) ?_
    refine .nil ?_
    refine .seq ?_
    refine .region ?_   -- R3 law.go:15
    refine .rd (.move rfl) ?_
    refine .rd (.move rfl) ?_
    refine .rd (.rem rfl rfl (by omega) (by omega)) ?_
    refine .rd (.assign rfl) ?_
    refine .nil ?_
    refine .retP Try.func9 (.cons (.tmp rfl) .nil) (.cons .head .nil) ?_
    exact ⟨[], ⟨by simp [resVal, pickS, c1], rfl⟩, rfl⟩
  · refine .skip ?_
    refine .seq ?_
    refine .region ?_   -- R3 law.go:15
    refine .rd (.move rfl) ?_
    refine .rd (.move rfl) ?_
    refine .rd (.rem rfl rfl (by omega) (by omega)) ?_
    refine .rd (.assign rfl) ?_
    refine .nil ?_
    refine .retP Try.func9 (.cons (.tmp rfl) .nil) (.cons .head .nil) ?_
    exact ⟨[], ⟨by simp [resVal, pickS, c1], rfl⟩, rfl⟩

theorem to_ok (a b c : Int) :
    Cn Try.prog 11 [.int .i64 a, .int .i64 b, .int .i64 c] (fun _ => True) [] fun v G => v = .agg (mcells (toS a b c) .sn .sn .sn).toArray ∧ G = [] := by
  refine .enter Try.func11 rfl (by kernel_rfl) rfl fun R k => ?_
  refine .seq ?_
  refine .region ?_   -- R0 law.go:55
  refine .ef (.alloc ti32 rfl (ones.of rfl)) ?_
  rintro _ _ ⟨b6, rfl, rfl⟩
  refine .nil ?_
  refine .seq ?_
  refine .region ?_   -- R1 law.go:55
  refine .rd (.move rfl) ?_
  refine .rd (.move rfl) ?_
  refine .rd (.move rfl) ?_
  refine .rd (.build rfl (bld32_1_2_3 _ _ _)) ?_
  refine .ef0 (.storeAll ts32 rfl rfl rfl .head rfl (ones.of rfl)) ?_
  rintro _ _ rfl
  refine .nil ?_
  refine .retP Try.func11 (.cons (.blkN ia32 ts32 rfl .head rfl) .nil) (.cons (.tail .head) .nil) ?_
  exact ⟨[], ⟨rfl, rfl⟩, rfl⟩

theorem ends_ok (a b : Int) :
    Cn Try.prog 28 [.int .i64 a, .int .i64 b] (fun _ => True) [] fun v G => v = encP (endsS a b) ∧ G = [] := by
  refine .enter Try.func28 rfl (by kernel_rfl) rfl fun R k => ?_
  refine .seq ?_
  refine .region ?_   -- R0 network.go:31
  refine .ef (.alloc ti60 rfl (ones.of rfl)) ?_
  rintro _ _ ⟨b4, rfl, rfl⟩
  refine .nil ?_
  refine .seq ?_
  refine .region ?_   -- R1 network.go:31
  refine .rd (.move rfl) ?_
  refine .rd (.move rfl) ?_
  refine .rd (.min2 rfl rfl rfl) ?_
  refine .rd (.move rfl) ?_
  refine .rd (.move rfl) ?_
  refine .rd (.max2 rfl rfl rfl) ?_
  refine .rd (.build rfl (bld60_0_1 _ _)) ?_
  refine .ef0 (.storeAll ts60 rfl rfl rfl .head rfl (ones.of rfl)) ?_
  rintro _ _ rfl
  refine .nil ?_
  refine .retP Try.func28 (.cons (.blkN ia60 ts60 rfl .head rfl) .nil) (.cons (.tail .head) .nil) ?_
  exact ⟨[], ⟨ends_eq a b, rfl⟩, rfl⟩

end Go.Proofs.Ytfbmbhajpmlffaa

