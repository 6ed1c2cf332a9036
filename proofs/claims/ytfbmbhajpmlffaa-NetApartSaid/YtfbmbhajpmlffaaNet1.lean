/- Steps through functions of the program, under conditions that each theorem states (part net1 of a claim). -/
import Derived.Test.YtfbmbhajpmlffaaProg
import Derived.Test.YtfbmbhajpmlffaaL8
import Derived.Test.YtfbmbhajpmlffaaDefs
import Derived.Test.YtfbmbhajpmlffaaNet0
namespace Go.Proofs.Ytfbmbhajpmlffaa
open Go Go.Sp

set_option linter.unusedVariables false

namespace net1
theorem na3 : NotAgg Try.prog 3 := ⟨_, Try.underlying3, trivial⟩
theorem bld57_1 (x0 : Option Nat) (w : World) : (Instr.build 57 (([1] : List Nat).zip [.map x0]).toArray).run Try.prog w = .ok (.agg #[.slice none 0 0, .map x0]) w := by kernel_rfl
theorem fd57_0 : FD Try.prog 57 0 0 := .of Try.underlying57 (by kernel_rfl)
theorem fd55_0 : FD Try.prog 55 0 0 := .of Try.underlying55 (by kernel_rfl)
theorem na42 : NotAgg Try.prog 42 := ⟨_, Try.underlying42, trivial⟩
theorem fd57_1 : FD Try.prog 57 1 1 := .of Try.underlying57 (by kernel_rfl)
theorem na53 : NotAgg Try.prog 53 := ⟨_, Try.underlying53, trivial⟩
theorem ti4 : TI Try.prog 4 1 1 (.bool false) := .of (by kernel_rfl)
theorem ti65 : TI Try.prog 65 6 64 (.agg #[.int .i64 0, .int .i64 0, .int .i64 0, .int .i64 0, .int .i64 0, .slice none 0 0]) := .of (by kernel_rfl)
theorem ti67 : TI Try.prog 67 3 32 (.agg #[.int .i64 0, .int .i64 0, .string ⟨#[]⟩]) := .of (by kernel_rfl)
theorem ti3 : TI Try.prog 3 1 8 (.int .i64 0) := .of (by kernel_rfl)
theorem ti76 : TI Try.prog 76 3 40 (.agg #[.string ⟨#[]⟩, .string ⟨#[]⟩, .int .i64 0]) := .of (by kernel_rfl)
end net1
open net1

theorem eq60 (p q : Int × Int) : EqV Try.prog 2 60 (encP p) (encP q) (decide (p = q)) := by
  have h : EqV Try.prog 2 60 (encP p) (encP q) (decide (p.1 = q.1) && (decide (p.2 = q.2) && true)) :=
    .struct Try.underlying60 (by kernel_rfl) (.cons (by decide) (part1 na3 rfl) (part1 na3 rfl) (.int Try.underlying3) (.cons (by decide) (part1 na3 rfl) (part1 na3 rfl) (.int Try.underlying3) .nil))
  have e : (decide (p.1 = q.1) && (decide (p.2 = q.2) && true)) = decide (p = q) := by
    rw [Bool.eq_iff_iff]; simp [Prod.ext_iff]
  rwa [e] at h
theorem kl60 : KL Try.prog 60 encP := by
  have : encP = fun p : Int × Int => Value.agg #[.int .i64 p.1, .int .i64 p.2] := rfl
  rw [this]
  refine KL.struct (enc := fun p : Int × Int => #[.int .i64 p.1, .int .i64 p.2]) Try.underlying60 (fun x y h => ?_) (fun x => ?_) (fun x y => (eq60 x y).up (by omega)) (fun x n => ?_)
  · simp at h; exact Prod.ext h.1 h.2
  · exact (CkV.struct Try.underlying60 (.cons (by decide) (part1 na3 rfl) (.int Try.underlying3) (.cons (by decide) (part1 na3 rfl) (.int Try.underlying3) .nil))).up (by omega)
  · simp [Instr.sameBits]
theorem new_net {b m h} (H : sat [blk b [.slice none 0 0, .map (some m)] 57, arr 32 21 none 0 [], mp encP Value.bool m []] h) : net b [] [] h := by
  refine net_close none 0 m h ?_
  obtain ⟨h1, h2, ok, l1, l2, a, h3, h4, ok2, m1, m2, b, c⟩ := H
  exact ⟨h1, h2, ok, l1, l2, a, h3, h4, ok2, m1, m2, b, fun _ => none, h4, fun _ => .inl rfl, fun _ _ e => by simp at e, .refl _, trivial, c⟩

theorem New_ok : Cn Try.prog 8 [] (fun _ => True) [] fun v G => ∃ n, v = .pointer (some ⟨n, 0, none⟩) ∧ G = [net n [] []] := by
  refine .enter Try.func8 rfl (by kernel_rfl) rfl fun R k => ?_
  refine .seq ?_
  refine .region ?_   -- R0 network.go:39
  refine .rd (.assign rfl) ?_
  refine .nil ?_
  refine .seq ?_
  refine .region ?_   -- R1 network.go:39
  refine .ef (.makeMap (enc := encP) (venc := Value.bool)) ?_
  rintro _ _ ⟨m1, rfl, rfl⟩
  refine .rd (.build rfl (bld57_1 _)) ?_
  refine .ef (.box rfl rfl (ones.of rfl)) ?_
  rintro _ _ ⟨b3, rfl, rfl⟩
  refine .rd (.assign rfl) ?_
  refine .nil ?_
  refine .nilArr 32 21 none ?_
  refine .close (X := net b3 [] []) (B := [blk b3 [.slice none 0 0, .map (some m1)] 57, arr 32 21 none 0 [], mp encP Value.bool m1 []]) (.cons (.tail .head) (.cons .head (.cons .head .nil))) (fun h H => ?_) ?_
  rotate_left
  refine .retP Try.func8 (.cons (.tmp rfl) .nil) (.cons .head (.cons .head .nil)) ?_
  exact ⟨[_], ⟨b3, rfl, rfl⟩, rfl⟩
  exact new_net H

theorem Len_ok (n ps pt) : Cn Try.prog 14 [.pointer (some ⟨n, 0, none⟩)] (fun _ => True) [net n ps pt] fun v G => v = .int .i64 ps.length ∧ G = [net n ps pt] := by
  refine .enter Try.func14 rfl (by kernel_rfl) rfl fun R k => ?_
  refine .open_ .head net_open (fun x _ => ?_)
  obtain ⟨sa, sc, mb⟩ := x
  simp only [List.cons_append, List.nil_append]
  refine .seq ?_
  refine .region ?_   -- R0 network.go:89
  refine .rd (.assign rfl) ?_
  refine .nil ?_
  refine .seq ?_
  refine .region ?_   -- R1 network.go:89
  refine .rd (.move rfl) ?_
  refine .rd (.nilCheck rfl) ?_
  refine .rd (.fieldAddr fd57_0 rfl) ?_
  refine .rd (.fieldAddr fd55_0 rfl) ?_
  refine .rd (.ld na42 rfl .head rfl) ?_
  refine .rd (.lenL rfl rfl Try.underlying42 rfl) ?_
  refine .rd (.assign rfl) ?_
  refine .nil ?_
  refine .close (.cons .head (.cons .head (.cons .head (.cons .head .nil)))) (net_close _ _ _) ?_
  refine .retP Try.func14 (.cons (.tmp rfl) .nil) (.cons .head (.cons .head .nil)) ?_
  exact ⟨[_], ⟨rfl, rfl⟩, rfl⟩

theorem Parted_ok (n ps pt a b) : Cn Try.prog 15 [.pointer (some ⟨n, 0, none⟩), .int .i64 a, .int .i64 b] (fun _ => True) [net n ps pt] fun v G => v = .bool (partedS pt a b) ∧ G = [net n ps pt] := by
  refine .enter Try.func15 rfl (by kernel_rfl) rfl fun R k => ?_
  refine .open_ .head net_open (fun x _ => ?_)
  obtain ⟨sa, sc, mb⟩ := x
  simp only [List.cons_append, List.nil_append]
  refine .seq ?_
  refine .region ?_   -- R0 network.go:87
  refine .rd (.assign rfl) ?_
  refine .nil ?_
  refine .seq ?_
  refine .draws [3, 7] [blk n [.slice sa ps.length sc, .map (some mb)] 57, mp encP Value.bool mb pt] (by kernel_rfl) ?_   -- R1 network.go:87
  refine .rp 0 rfl (by kernel_rfl) (by kernel_rfl) (by kernel_rfl) (Reads.pure (.move rfl)) ?_
  refine .rp 1 rfl (by kernel_rfl) (by kernel_rfl) (by kernel_rfl) (Reads.pure (.nilCheck rfl)) ?_
  refine .rp 2 rfl (by kernel_rfl) (by kernel_rfl) (by kernel_rfl) (Reads.pure (.fieldAddr fd57_1 rfl)) ?_
  refine .rd 3 rfl rfl (by kernel_rfl) (by kernel_rfl) (by kernel_rfl) (.ld na53 rfl .head rfl) (.cons .head (.cons (.tail (.tail .head)) .nil)) ?_
  refine .rp 4 rfl (by kernel_rfl) (by kernel_rfl) (by kernel_rfl) (Reads.pure (.move rfl)) ?_
  refine .rp 5 rfl (by kernel_rfl) (by kernel_rfl) (by kernel_rfl) (Reads.pure (.move rfl)) ?_
  refine .ef 6 (by kernel_rfl) rfl (.fn rfl rfl .nil (fun _ _ _ => trivial) (ends_ok _ _)) ?_
  rintro v _ ⟨G1, hq, rfl⟩
  obtain ⟨rfl, rfl⟩ := hq
  simp only [List.nil_append]
  refine ⟨.inr ⟨_, (.cons .head (.cons (.tail (.tail .head)) .nil))⟩, ?_⟩
  refine .rd 7 rfl rfl (by kernel_rfl) (by kernel_rfl) (by kernel_rfl) (.lookup kl60 Try.underlying53 (fun w => ti4.zero w) rfl rfl (.tail .head)) (.cons .head (.cons (.tail (.tail .head)) .nil)) ?_
  refine .rp 8 rfl (by kernel_rfl) (by kernel_rfl) (by kernel_rfl) (Reads.pure (.assign rfl)) ?_
  refine .done (by kernel_rfl) ?_
  refine .close (.cons .head (.cons .head (.cons .head (.cons .head .nil)))) (net_close _ _ _) ?_
  refine .retP Try.func15 (.cons (.tmp rfl) .nil) (.cons .head (.cons .head .nil)) ?_
  refine ⟨[_], ⟨?_, rfl⟩, rfl⟩
  simp only [resVal, partedS]
  cases mget pt (endsS a b) <;> rfl

theorem Clone33_ok (a : Option Addr) (n c : Nat) (cs : List Value) (hl : cs.length = n * 6) (hb : n * 64 ≤ 140737488355328) (hnil : a = none → cs = []) :
    Cn Try.prog 33 [.slice a n c] (RowAt a cs) [] fun v G => ∃ a' c', v = .slice a' n c' ∧ G = [arr 65 6 a' c' cs] := by
  refine .enter Try.func33 rfl (by kernel_rfl) rfl fun R k => ?_
  refine .seq ?_
  refine .region ?_   -- R0 slices.go:355
  refine .rd (.assign rfl) ?_
  refine .nil ?_
  refine .seq ?_
  refine .seq ?_
  refine .region ?_   -- R1 slices.go:357
  refine .rd (.move rfl) ?_
  refine .rd (.eqNilL Try.underlying29 rfl rfl) ?_
  refine .nil ?_
  refine .cond rfl (fun c1 => ?_) (fun c1 => ?_)
  · obtain rfl : a = none := by simpa using c1
    obtain rfl : cs = [] := hnil rfl
    obtain rfl : n = 0 := by simp at hl; omega
    refine .seq ?_
    refine .region ?_   -- R2 slices.go:358
    refine .rd (.assign rfl) ?_
    refine .nil ?_
    refine .nilArr 65 6 none ?_
    refine .retP Try.func33 (.cons (.tmp rfl) .nil) (.cons .head (.cons .head .nil)) ?_
    exact ⟨[_], ⟨none, 0, rfl, rfl⟩, rfl⟩
  · refine .skip ?_
    refine .seq ?_
    refine .region ?_   -- R3 slices.go:362
    refine .ef (.buildNone Try.underlying29 ti65) ?_
    rintro _ _ ⟨b5, rfl, rfl⟩
    refine .blkArr 6 0 .head rfl ?_
    refine .rd (.move rfl) ?_
    refine .ef (.append rfl rfl Try.underlying29 ti65 rfl (ones.of rfl) (by decide) (by decide) rfl rfl .head (n := 0) rfl (.srcRow (Knows.pick (.tail .head) k) Try.underlying29 hl (by decide)) (by omega)) ?_
    rintro _ _ ⟨ra, rc, rfl, rn, rfl⟩
    refine .rd (.assign rfl) ?_
    refine .nil ?_
    refine .retP Try.func33 (.cons (.tmp rfl) .nil) (.cons .head (.cons .head .nil)) ?_
    exact ⟨[_], ⟨ra, rc, by simp [resVal], by simp⟩, rfl⟩

theorem Clone34_ok (a : Option Addr) (n c : Nat) (cs : List Value) (hl : cs.length = n * 3) (hb : n * 32 ≤ 140737488355328) (hnil : a = none → cs = []) :
    Cn Try.prog 34 [.slice a n c] (RowAt a cs) [] fun v G => ∃ a' c', v = .slice a' n c' ∧ G = [arr 67 3 a' c' cs] := by
  refine .enter Try.func34 rfl (by kernel_rfl) rfl fun R k => ?_
  refine .seq ?_
  refine .region ?_   -- R0 slices.go:355
  refine .rd (.assign rfl) ?_
  refine .nil ?_
  refine .seq ?_
  refine .seq ?_
  refine .region ?_   -- R1 slices.go:357
  refine .rd (.move rfl) ?_
  refine .rd (.eqNilL Try.underlying30 rfl rfl) ?_
  refine .nil ?_
  refine .cond rfl (fun c1 => ?_) (fun c1 => ?_)
  · obtain rfl : a = none := by simpa using c1
    obtain rfl : cs = [] := hnil rfl
    obtain rfl : n = 0 := by simp at hl; omega
    refine .seq ?_
    refine .region ?_   -- R2 slices.go:358
    refine .rd (.assign rfl) ?_
    refine .nil ?_
    refine .nilArr 67 3 none ?_
    refine .retP Try.func34 (.cons (.tmp rfl) .nil) (.cons .head (.cons .head .nil)) ?_
    exact ⟨[_], ⟨none, 0, rfl, rfl⟩, rfl⟩
  · refine .skip ?_
    refine .seq ?_
    refine .region ?_   -- R3 slices.go:362
    refine .ef (.buildNone Try.underlying30 ti67) ?_
    rintro _ _ ⟨b5, rfl, rfl⟩
    refine .blkArr 3 0 .head rfl ?_
    refine .rd (.move rfl) ?_
    refine .ef (.append rfl rfl Try.underlying30 ti67 rfl (ones.of rfl) (by decide) (by decide) rfl rfl .head (n := 0) rfl (.srcRow (Knows.pick (.tail .head) k) Try.underlying30 hl (by decide)) (by omega)) ?_
    rintro _ _ ⟨ra, rc, rfl, rn, rfl⟩
    refine .rd (.assign rfl) ?_
    refine .nil ?_
    refine .retP Try.func34 (.cons (.tmp rfl) .nil) (.cons .head (.cons .head .nil)) ?_
    exact ⟨[_], ⟨ra, rc, by simp [resVal], by simp⟩, rfl⟩

theorem Clone35_ok (a : Option Addr) (n c : Nat) (cs : List Value) (hl : cs.length = n * 1) (hb : n * 8 ≤ 140737488355328) (hnil : a = none → cs = []) :
    Cn Try.prog 35 [.slice a n c] (RowAt a cs) [] fun v G => ∃ a' c', v = .slice a' n c' ∧ G = [arr 3 1 a' c' cs] := by
  refine .enter Try.func35 rfl (by kernel_rfl) rfl fun R k => ?_
  refine .seq ?_
  refine .region ?_   -- R0 slices.go:355
  refine .rd (.assign rfl) ?_
  refine .nil ?_
  refine .seq ?_
  refine .seq ?_
  refine .region ?_   -- R1 slices.go:357
  refine .rd (.move rfl) ?_
  refine .rd (.eqNilL Try.underlying22 rfl rfl) ?_
  refine .nil ?_
  refine .cond rfl (fun c1 => ?_) (fun c1 => ?_)
  · obtain rfl : a = none := by simpa using c1
    obtain rfl : cs = [] := hnil rfl
    obtain rfl : n = 0 := by simp at hl; omega
    refine .seq ?_
    refine .region ?_   -- R2 slices.go:358
    refine .rd (.assign rfl) ?_
    refine .nil ?_
    refine .nilArr 3 1 none ?_
    refine .retP Try.func35 (.cons (.tmp rfl) .nil) (.cons .head (.cons .head .nil)) ?_
    exact ⟨[_], ⟨none, 0, rfl, rfl⟩, rfl⟩
  · refine .skip ?_
    refine .seq ?_
    refine .region ?_   -- R3 slices.go:362
    refine .ef (.buildNone Try.underlying22 ti3) ?_
    rintro _ _ ⟨b5, rfl, rfl⟩
    refine .blkArr 1 0 .head rfl ?_
    refine .rd (.move rfl) ?_
    refine .ef (.append rfl rfl Try.underlying22 ti3 rfl (ones.of rfl) (by decide) (by decide) rfl rfl .head (n := 0) rfl (.srcRow (Knows.pick (.tail .head) k) Try.underlying22 hl (by decide)) (by omega)) ?_
    rintro _ _ ⟨ra, rc, rfl, rn, rfl⟩
    refine .rd (.assign rfl) ?_
    refine .nil ?_
    refine .retP Try.func35 (.cons (.tmp rfl) .nil) (.cons .head (.cons .head .nil)) ?_
    exact ⟨[_], ⟨ra, rc, by simp [resVal], by simp⟩, rfl⟩

theorem Clone36_ok (a : Option Addr) (n c : Nat) (cs : List Value) (hl : cs.length = n * 3) (hb : n * 40 ≤ 140737488355328) (hnil : a = none → cs = []) :
    Cn Try.prog 36 [.slice a n c] (RowAt a cs) [] fun v G => ∃ a' c', v = .slice a' n c' ∧ G = [arr 76 3 a' c' cs] := by
  refine .enter Try.func36 rfl (by kernel_rfl) rfl fun R k => ?_
  refine .seq ?_
  refine .region ?_   -- R0 slices.go:355
  refine .rd (.assign rfl) ?_
  refine .nil ?_
  refine .seq ?_
  refine .seq ?_
  refine .region ?_   -- R1 slices.go:357
  refine .rd (.move rfl) ?_
  refine .rd (.eqNilL Try.underlying63 rfl rfl) ?_
  refine .nil ?_
  refine .cond rfl (fun c1 => ?_) (fun c1 => ?_)
  · obtain rfl : a = none := by simpa using c1
    obtain rfl : cs = [] := hnil rfl
    obtain rfl : n = 0 := by simp at hl; omega
    refine .seq ?_
    refine .region ?_   -- R2 slices.go:358
    refine .rd (.assign rfl) ?_
    refine .nil ?_
    refine .nilArr 76 3 none ?_
    refine .retP Try.func36 (.cons (.tmp rfl) .nil) (.cons .head (.cons .head .nil)) ?_
    exact ⟨[_], ⟨none, 0, rfl, rfl⟩, rfl⟩
  · refine .skip ?_
    refine .seq ?_
    refine .region ?_   -- R3 slices.go:362
    refine .ef (.buildNone Try.underlying63 ti76) ?_
    rintro _ _ ⟨b5, rfl, rfl⟩
    refine .blkArr 3 0 .head rfl ?_
    refine .rd (.move rfl) ?_
    refine .ef (.append rfl rfl Try.underlying63 ti76 rfl (ones.of rfl) (by decide) (by decide) rfl rfl .head (n := 0) rfl (.srcRow (Knows.pick (.tail .head) k) Try.underlying63 hl (by decide)) (by omega)) ?_
    rintro _ _ ⟨ra, rc, rfl, rn, rfl⟩
    refine .rd (.assign rfl) ?_
    refine .nil ?_
    refine .retP Try.func36 (.cons (.tmp rfl) .nil) (.cons .head (.cons .head .nil)) ?_
    exact ⟨[_], ⟨ra, rc, by simp [resVal], by simp⟩, rfl⟩

end Go.Proofs.Ytfbmbhajpmlffaa

