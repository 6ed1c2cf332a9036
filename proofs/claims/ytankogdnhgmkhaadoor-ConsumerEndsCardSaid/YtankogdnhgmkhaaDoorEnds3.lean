/- Part 3 of a claim's texts: rules for the machine's steps, and steps through functions of the program, under the conditions that each theorem states. -/
import Derived.Test.YtankogdnhgmkhaaDoorProg
import Derived.KernelRfl
import Derived.WalkKit
import Derived.ProofKit
import Derived.OpenShut
import Derived.ShutString
import Derived.ChangeOld
import Derived.Below
import Derived.SizedLaws
import Derived.Carry
import Derived.LaidLaws
import Derived.Lib.LaidTab
import Derived.Stop.LaidErr
import Derived.MakeChecks
import Derived.Shelf.Vars
import Derived.FnData
import Derived.Test.YtankogdnhgmkhaaDoorEnds0
import Derived.Test.YtankogdnhgmkhaaDoorEnds1
import Derived.Test.YtankogdnhgmkhaaDoorEnds2
set_option linter.unusedVariables false
namespace Go.Proofs.YtankogdnhgmkhaaDoor
open Go Go.Sp

set_option linter.unusedVariables false

namespace con16
theorem ti3 : TI Tryd.prog 3 1 8 (.int .i64 0) := .of (by kernel_rfl)
theorem bld31_2_3_4 (x0 : Int) (x1 : Int) (x2 : Int) (w : World) : (Instr.build 31 (([2, 3, 4] : List Nat).zip [.int .i64 x0, .int .i64 x1, .int .i64 x2]).toArray).run Tryd.prog w = .ok (.agg #[.int .i64 0, .int .i64 0, .int .i64 x0, .int .i64 x1, .int .i64 x2, .int .i64 0, .int .i64 0, .int .i64 0, .string ⟨#[]⟩, .string ⟨#[]⟩, .int .i64 0, .bool false]) w := by kernel_rfl
theorem bld35_0_1_2_3_15_7 (x0 : Int) (x1 : Int) (x2 : Int) (x3 : Int) (x4 : Int) (x5 : Int) (w : World) : (Instr.build 35 (([0, 1, 2, 3, 15, 7] : List Nat).zip [.int .i64 x0, .int .i64 x1, .int .i64 x2, .int .i64 x3, .int .i64 x4, .int .i64 x5]).toArray).run Tryd.prog w = .ok (.agg #[.int .i64 x0, .int .i64 x1, .int .i64 x2, .int .i64 x3, .int .i64 0, .int .i64 0, .int .i64 0, .int .i64 x5, .int .i64 0, .int .i64 0, .int .i64 0, .int .i64 0, .int .i64 0, .int .i64 0, .int .i64 0, .int .i64 x4, .string ⟨#[]⟩, .string ⟨#[]⟩, .slice none 0 0, .slice none 0 0, .slice none 0 0]) w := by kernel_rfl
theorem bld54_1 (x0 : ByteArray) (w : World) : (Instr.build 54 (([1] : List Nat).zip [.string x0]).toArray).run Tryd.prog w = .ok (.agg #[.string ⟨#[]⟩, .string x0, .int .i64 0]) w := by kernel_rfl
theorem ti54 : TI Tryd.prog 54 3 40 (.agg #[.string ⟨#[]⟩, .string ⟨#[]⟩, .int .i64 0]) := .of (by kernel_rfl)
theorem bld52_0_5 (x0 : Int) (x1a : Option Addr) (x1n : Nat) (x1c : Nat) (w : World) : (Instr.build 52 (([0, 5] : List Nat).zip [.int .i64 x0, .slice x1a x1n x1c]).toArray).run Tryd.prog w = .ok (.agg #[.int .i64 x0, .int .i64 0, .int .i64 0, .int .i64 0, .int .i64 0, .slice x1a x1n x1c]) w := by kernel_rfl
theorem ti52 : TI Tryd.prog 52 6 64 (.agg #[.int .i64 0, .int .i64 0, .int .i64 0, .int .i64 0, .int .i64 0, .slice none 0 0]) := .of (by kernel_rfl)
theorem bld35_0_1_2_3_18 (x0 : Int) (x1 : Int) (x2 : Int) (x3 : Int) (x4a : Option Addr) (x4n : Nat) (x4c : Nat) (w : World) : (Instr.build 35 (([0, 1, 2, 3, 18] : List Nat).zip [.int .i64 x0, .int .i64 x1, .int .i64 x2, .int .i64 x3, .slice x4a x4n x4c]).toArray).run Tryd.prog w = .ok (.agg #[.int .i64 x0, .int .i64 x1, .int .i64 x2, .int .i64 x3, .int .i64 0, .int .i64 0, .int .i64 0, .int .i64 0, .int .i64 0, .int .i64 0, .int .i64 0, .int .i64 0, .int .i64 0, .int .i64 0, .int .i64 0, .int .i64 0, .string ⟨#[]⟩, .string ⟨#[]⟩, .slice x4a x4n x4c, .slice none 0 0, .slice none 0 0]) w := by kernel_rfl
theorem bld31_2_8_3_5_7_4 (x0 : Int) (x1 : ByteArray) (x2 : Int) (x3 : Int) (x4 : Int) (x5 : Int) (w : World) : (Instr.build 31 (([2, 8, 3, 5, 7, 4] : List Nat).zip [.int .i64 x0, .string x1, .int .i64 x2, .int .i64 x3, .int .i64 x4, .int .i64 x5]).toArray).run Tryd.prog w = .ok (.agg #[.int .i64 0, .int .i64 0, .int .i64 x0, .int .i64 x2, .int .i64 x5, .int .i64 x3, .int .i64 0, .int .i64 x4, .string x1, .string ⟨#[]⟩, .int .i64 0, .bool false]) w := by kernel_rfl
theorem ts35 : TS Tryd.prog 35 21 := .of (by kernel_rfl)
theorem fd35_0 : FD Tryd.prog 35 0 0 := .of Tryd.underlying35 (by kernel_rfl)
theorem na3 : NotAgg Tryd.prog 3 := ⟨_, Tryd.underlying3, trivial⟩
theorem fd35_2 : FD Tryd.prog 35 2 2 := .of Tryd.underlying35 (by kernel_rfl)
theorem fd35_3 : FD Tryd.prog 35 3 3 := .of Tryd.underlying35 (by kernel_rfl)
theorem ts31 : TS Tryd.prog 31 12 := .of (by kernel_rfl)
theorem fd31_9 : FD Tryd.prog 31 9 9 := .of Tryd.underlying31 (by kernel_rfl)
theorem na9 : NotAgg Tryd.prog 9 := ⟨_, Tryd.underlying9, trivial⟩
theorem fd31_4 : FD Tryd.prog 31 4 4 := .of Tryd.underlying31 (by kernel_rfl)
theorem fd31_10 : FD Tryd.prog 31 10 10 := .of Tryd.underlying31 (by kernel_rfl)
theorem na25 : NotAgg Tryd.prog 25 := ⟨_, Tryd.underlying25, trivial⟩
theorem fd35_11 : FD Tryd.prog 35 11 11 := .of Tryd.underlying35 (by kernel_rfl)
end con16
open con16

theorem call_go (pb : Nat) (now : Int) (s : CS19) (q : Sn19) (hB : PB s) (hcn : s.calls < 1000000) (hnow : 0 ≤ now ∧ now ≤ 1000000000000) (hm : may19 q = true) (hk : q.kind ≠ 8) (ho : s.open_.length < 20) : Cn Tryd.prog 9 [.pointer (some ⟨pb, 0, none⟩), .int .i64 now, .agg q.cells.toArray] (fun _ => True) [PR pb s] fun v G => ∃ z oa oc, (q.kind = 4 → z.2.1 = 1) ∧ v = .tuple #[.int .i64 (s.calls + 1), .slice oa 1 oc, .int .i64 0] ∧ G = [PR pb (callS s now q z), Said oa oc [(askC s now (newC s q z)).m]] :=
  (call_ok pb now s q _ hB hcn hnow (fun h => absurd h hk)).mono fun v G h => by
    rcases h with ⟨h, _⟩ | ⟨h, _⟩ | ⟨z, oa, oc, _, _, h⟩
    · exact absurd (h hm) hk
    · omega
    · exact ⟨z, oa, oc, h⟩
theorem rise12 : Rise [1, 2] := ⟨by decide, by decide, fun i hi => by
  have : i = 0 ∨ i = 1 := by simp at hi; omega
  rcases this with rfl | rfl <;> decide⟩
theorem rise123 : Rise [1, 2, 3] := ⟨by decide, by decide, fun i hi => by
  have : i = 0 ∨ i = 1 ∨ i = 2 := by simp at hi; omega
  rcases this with rfl | rfl | rfl <;> decide⟩
theorem rise1 : Rise [1] := ⟨by decide, by decide, fun i hi => by
  have : i = 0 := by simp at hi; omega
  rcases this with rfl <;> decide⟩
theorem ok_nil {m : An19} (h : m.batches = []) : m.ok := ⟨by rw [h]; decide, fun b hb => by (rw [h] at hb; cases hb), fun b hb => by (rw [h] at hb; cases hb)⟩
theorem at_nil {m : An19} (h : m.batches = []) (w : World) : m.at_ none w := ⟨by rw [h]; exact .inl rfl, fun b hb => by (rw [h] at hb; cases hb)⟩
theorem m2_ok (a c) : (m2 a c).ok := ⟨by show 1 ≤ 1000; decide, fun b hb => by rcases List.mem_singleton.1 hb with rfl; exact ⟨by show (0 : Int) ≤ 4; decide, by show (4 : Int) ≤ 1000000000; decide⟩, fun b hb => by rcases List.mem_singleton.1 hb with rfl; show 2 ≤ 1000000; decide⟩

set_option maxHeartbeats 4000000 in
set_option maxRecDepth 20000 in
theorem shown_ok : Cn Tryd.prog 6 [] (fun _ => True) [] fun v G => v = .bool true ∧ G = [] := by
  refine .enter Tryd.func6 rfl (by kernel_rfl) rfl fun R k => ?_
  refine .seq ?_
  refine .region ?_
  refine .rd (.assign rfl) ?_
  refine .nil ?_
  refine .seq ?_
  refine .region ?_
  refine .ef (.buildSlice (vs := [.int .i64 1, .int .i64 2]) (cs := [.int .i64 1, .int .i64 2]) Tryd.underlying28 ti3 rfl (by decide) (by first | rfl | kernel_rfl) (ones.of rfl)) ?_
  rintro _ _ ⟨bl, rfl, rfl⟩
  refine .fn rfl rfl .nil (((Knows.blk .head).mono fun _ h => rowBlk h)) (New_ok 102 (some ⟨bl, 0, none⟩) _ [1, 2] 10 3 rise12 (by decide) (by decide) (by decide)) (fun v G1 hq => ?_)
  obtain ⟨pb, rfl, rfl⟩ := hq
  simp only [List.cons_append, List.nil_append]
  refine .rd (.move rfl) ?_
  refine .rd (.extract rfl rfl) ?_
  refine .rd (.extract rfl rfl) ?_
  refine .rd (.assign rfl) ?_
  refine .rd (.assign rfl) ?_
  refine .nil ?_
  refine .cast (X' := PR pb q0) (rfl) ?_
  refine .seq ?_
  refine .seq ?_
  refine .region ?_
  refine .rd (.move rfl) ?_
  refine .rd (.eqNilP Tryd.underlying24 rfl rfl) ?_
  refine .rd (.move rfl) ?_
  refine .on (t := 20) rfl rfl ?_
  refine .rd (.move rfl) ?_
  refine .on (t := 20) rfl rfl ?_
  refine .rd (.neI rfl rfl) ?_
  refine .alter (t := 22) (v' := .bool false) rfl (congrArg Value.bool (by first | rfl | decide)) ?_
  refine .rd (.pickF rfl rfl) ?_
  refine .nil ?_
  refine .condF rfl ?_
  refine .skip ?_
  refine .seq ?_
  refine .region ?_
  refine .rd (.move rfl) ?_
  refine .rd (.build rfl (bld31_2_3_4 _ _ _)) ?_
  refine .fn rfl rfl (.cons .head .nil) (fun _ _ _ => trivial) (call_go pb 0 q0 (rq 2 5) q0_pi.pb (by decide) (by decide) (by decide) (by decide) (by decide)) (fun v G1 hq => ?_)
  obtain ⟨y1, oa1, oc1, hy1, rfl, rfl⟩ := hq
  simp only [List.cons_append, List.nil_append]
  refine .rd (.move rfl) ?_
  refine .rd (.extract rfl rfl) ?_
  refine .rd (.extract rfl rfl) ?_
  refine .rd (.extract rfl rfl) ?_
  refine .rd (.assign rfl) ?_
  refine .rd (.assign rfl) ?_
  refine .rd (.assign rfl) ?_
  refine .nil ?_
  refine .cast (X' := PR pb (q1 y1)) (rfl) ?_
  refine .seq ?_
  refine .region ?_
  refine .rd (.move rfl) ?_
  refine .rd (.build rfl (bld35_0_1_2_3_15_7 _ _ _ _ _ _)) ?_
  refine .fn rfl rfl (.cons .head .nil) (fun _ w _ => at_nil rfl w) (step_ok pb 2 (q1 y1) m1 none 0 (q1_pi y1).pb (q1_pi y1).po (Nat.zero_le _) (ok_nil rfl) (by decide)) (fun v G1 hq => ?_)
  obtain ⟨rfl, rfl⟩ := hq
  simp only [List.cons_append, List.nil_append]
  refine .rd (.assign rfl) ?_
  refine .nil ?_
  refine .cast (X' := PR pb (q2 y1)) (rfl) ?_
  refine .seq ?_
  refine .region ?_
  refine .rd (.move rfl) ?_
  refine .fn rfl rfl (.cons .head .nil) (fun _ _ _ => trivial) (tick_ok pb 3 (q2 y1) (q2_pi y1).pb (q2_pi y1).po (Nat.zero_le _) (by decide)) (fun v G1 hq => ?_)
  obtain ⟨oa3, oc3, rfl, rfl⟩ := hq
  simp only [List.cons_append, List.nil_append]
  refine .rd (.assign rfl) ?_
  refine .nil ?_
  refine .cast (X' := PR pb (q3 y1)) (rfl) ?_
  refine .seq ?_
  refine .region ?_
  refine .rd (.move rfl) ?_
  refine .rd (.build rfl (bld54_1 _)) ?_
  refine .rd (.build rfl (bld54_1 _)) ?_
  refine .ef (.buildSlice (vs := [.agg (recC [97]).toArray, .agg (recC [98]).toArray]) (cs := recC [97] ++ recC [98]) Tryd.underlying50 ti54 rfl (by decide) (by first | rfl | kernel_rfl) (ones.of rfl)) ?_
  rintro _ _ ⟨br, rfl, rfl⟩
  refine .rd (.build rfl (bld52_0_5 _ _ _ _)) ?_
  refine .ef (.buildOne (cs := Bt19.cells ⟨4, (some ⟨br, 0, none⟩), 2, [[97], [98]]⟩) Tryd.underlying32 ti52 (by decide) rfl rfl rfl (ones.of rfl)) ?_
  rintro _ _ ⟨bb, rfl, rfl⟩
  refine .rd (.build rfl (bld35_0_1_2_3_18 _ _ _ _ _ _ _)) ?_
  refine .fn rfl rfl (.cons (.tail (.tail .head)) .nil) (fun A w h => ⟨by unfold m2; simpa using rowBlk ((Knows.blk .head) A w h), fun b hb => by rcases List.mem_singleton.1 hb with rfl; simpa using rowBlk ((Knows.blk (.tail .head)) A w h)⟩) (step_ok pb 4 (q3 y1) (m2 (some ⟨br, 0, none⟩) 2) (some ⟨bb, 0, none⟩) 1 (q3_pi y1).pb (q3_pi y1).po (Nat.zero_le _) (m2_ok _ _) (by decide)) (fun v G1 hq => ?_)
  obtain ⟨rfl, rfl⟩ := hq
  simp only [List.cons_append, List.nil_append]
  refine .nil ?_
  refine .cast (X' := PR pb (q4 y1 (some ⟨br, 0, none⟩) 2)) (rfl) ?_
  refine .seq ?_
  refine .region ?_
  refine .rd (.move rfl) ?_
  refine .fn rfl rfl (.cons .head .nil) (fun _ _ _ => trivial) (done_ok pb (q4 y1 (some ⟨br, 0, none⟩) 2)) (fun v G1 hq => ?_)
  obtain ⟨ea1, ec1, rfl, rfl⟩ := hq
  simp only [List.cons_append, List.nil_append]
  refine .rd (.assign rfl) ?_
  refine .nil ?_
  refine .seq ?_
  refine .region ?_
  refine .rd (.move rfl) ?_
  refine .rd (.build rfl (bld31_2_8_3_5_7_4 _ _ _ _ _ _)) ?_
  refine .fn rfl rfl (.cons .head .nil) (fun _ _ _ => trivial) (call_go pb 4 (done19 (q4 y1 (some ⟨br, 0, none⟩) 2)) (cq 9) (q4_pi y1 (some ⟨br, 0, none⟩) 2).done.pb (by show (q4 y1 (some ⟨br, 0, none⟩) 2).calls < 1000000; rw [q4_calls]; decide) (by decide) (by decide) (by decide) (by show (q4 y1 (some ⟨br, 0, none⟩) 2).open_.length < 20; rw [q4_open]; decide)) (fun v G1 hq => ?_)
  obtain ⟨y2, oa2, oc2, hy2, rfl, rfl⟩ := hq
  simp only [List.cons_append, List.nil_append]
  refine .rd (.move rfl) ?_
  refine .rd (.extract rfl rfl) ?_
  refine .rd (.extract rfl rfl) ?_
  refine .rd (.extract rfl rfl) ?_
  refine .rd (.assign rfl) ?_
  refine .rd (.assign rfl) ?_
  refine .rd (.assign rfl) ?_
  refine .nil ?_
  refine .cast (X' := PR pb (q6 y1 (some ⟨br, 0, none⟩) 2 y2)) (rfl) ?_
  obtain ⟨to2, hz2⟩ : ∃ to2 : Int, (askC (done19 (q4 y1 (some ⟨br, 0, none⟩) 2)) 4 (newC (done19 (q4 y1 (some ⟨br, 0, none⟩) 2)) (cq 9) y2)).m = ⟨23, 102, to2, 3, 0, 9, 2, 3, 1, 1, [103], y2⟩ := by rcases q6_out y1 (some ⟨br, 0, none⟩) 2 y2 with h | h <;> exact ⟨_, h⟩
  refine .perm (.cons (.tail .head) (.cons .head (.cons .head (.cons .head (.cons .head (.cons .head (.cons .head (.cons .head (.cons .head .nil))))))))) ?_
  refine .cast (X' := Said oa2 oc2 ([⟨23, 102, to2, 3, 0, 9, 2, 3, 1, 1, [103], y2⟩] : List Mg19)) (by rw [hz2]) ?_
  refine .seq ?_
  refine .region ?_
  refine .rd (.move rfl) ?_
  refine .fn rfl rfl (.cons (.tail .head) .nil) (fun _ _ _ => trivial) (tick_ok pb 14 (q6 y1 (some ⟨br, 0, none⟩) 2 y2) (q6_pi y1 (some ⟨br, 0, none⟩) 2 y2).pb (q6_pi y1 (some ⟨br, 0, none⟩) 2 y2).po (Nat.zero_le _) (by decide)) (fun v G1 hq => ?_)
  obtain ⟨oa4, oc4, rfl, rfl⟩ := hq
  simp only [List.cons_append, List.nil_append]
  refine .rd (.assign rfl) ?_
  refine .nil ?_
  refine .cast (X' := PR pb (q7 y1 (some ⟨br, 0, none⟩) 2 y2)) (rfl) ?_
  refine .seq ?_
  refine .region ?_
  refine .rd (.move rfl) ?_
  refine .fn rfl rfl (.cons .head .nil) (fun _ _ _ => trivial) (done_ok pb (q7 y1 (some ⟨br, 0, none⟩) 2 y2)) (fun v G1 hq => ?_)
  obtain ⟨ea2, ec2, rfl, rfl⟩ := hq
  simp only [List.cons_append, List.nil_append]
  refine .rd (.assign rfl) ?_
  refine .nil ?_
  refine .seq ?_
  refine .perm (.cons (.tail (.tail (.tail (.tail (.tail (.tail (.tail (.tail .head)))))))) (.cons .head (.cons .head (.cons .head (.cons .head (.cons .head (.cons .head (.cons .head (.cons .head (.cons .head (.cons .head .nil))))))))))) ?_
  refine .cast (X' := Said oa1 oc1 ([⟨19, 102, 1, 1, 2, 5, 0, 0, 0, 0, [], (none, 0, 0)⟩] : List Mg19)) (by rw [q1_out]) ?_
  refine .perm (.cons (.tail (.tail (.tail (.tail (.tail .head))))) (.cons .head (.cons .head (.cons .head (.cons .head (.cons .head (.cons .head (.cons .head (.cons .head (.cons .head (.cons .head .nil))))))))))) ?_
  refine .cast (X' := arr 31 12 ea1 ec1 (([⟨102, 1, 1, 2, 5, 0, 0, 0, [], [98], 0, true⟩] : List Sn19).flatMap Sn19.cells)) (by rw [q4_end]) ?_
  refine .perm (.cons (.tail (.tail (.tail .head))) (.cons .head (.cons .head (.cons .head (.cons .head (.cons .head (.cons .head (.cons .head (.cons .head (.cons .head (.cons .head .nil))))))))))) ?_
  refine .cast (X' := arr 31 12 ea2 ec2 (([⟨102, 2, 4, 2, 9, 1, 0, 1, [103], [], 21, true⟩] : List Sn19).flatMap Sn19.cells)) (by rw [q7_end]) ?_
  refine .perm (.cons (.tail (.tail (.tail (.tail (.tail (.tail (.tail (.tail .head)))))))) (.cons .head (.cons .head (.cons .head (.cons .head (.cons .head (.cons .head (.cons .head (.cons .head (.cons .head (.cons .head .nil))))))))))) ?_
  refine .cast (X' := Said oa3 oc3 ([⟨19, 102, 2, 2, 2, 5, 0, 0, 0, 0, [], (none, 0, 0)⟩] : List Mg19)) (by rw [q3_out]) ?_
  refine .tell (φ := ∃ b o, oa1 = some ⟨b, o, none⟩) ((Knows.arr (cs := ([⟨19, 102, 1, 1, 2, 5, 0, 0, 0, 0, [], (none, 0, 0)⟩] : List Mg19).flatMap Mg19.cells) (.tail (.tail (.tail .head)))).mono fun _ h => RowAt.addr h (by rw [flat_length Mg19.cells_len]; exact Nat.lt_of_sub_eq_succ rfl)) (fun hh => ?_)
  obtain ⟨dz1, ez1, hdz1⟩ := hh
  refine .tell (φ := ∃ b o, oa2 = some ⟨b, o, none⟩) ((Knows.arr (cs := ([⟨23, 102, to2, 3, 0, 9, 2, 3, 1, 1, [103], y2⟩] : List Mg19).flatMap Mg19.cells) (.tail (.tail (.tail (.tail (.tail (.tail .head))))))).mono fun _ h => RowAt.addr h (by rw [flat_length Mg19.cells_len]; exact Nat.lt_of_sub_eq_succ rfl)) (fun hh => ?_)
  obtain ⟨dz2, ez2, hdz2⟩ := hh
  refine .tell (φ := ∃ b o, oa3 = some ⟨b, o, none⟩) ((Knows.arr (cs := ([⟨19, 102, 2, 2, 2, 5, 0, 0, 0, 0, [], (none, 0, 0)⟩] : List Mg19).flatMap Mg19.cells) .head).mono fun _ h => RowAt.addr h (by rw [flat_length Mg19.cells_len]; exact Nat.lt_of_sub_eq_succ rfl)) (fun hh => ?_)
  obtain ⟨dz3, ez3, hdz3⟩ := hh
  refine .tell (φ := ∃ b o, ea1 = some ⟨b, o, none⟩) ((Knows.arr (cs := ([⟨102, 1, 1, 2, 5, 0, 0, 0, [], [98], 0, true⟩] : List Sn19).flatMap Sn19.cells) (.tail (.tail .head))).mono fun _ h => RowAt.addr h (by rw [flat_length Sn19.cells_len]; exact Nat.lt_of_sub_eq_succ rfl)) (fun hh => ?_)
  obtain ⟨de1, ee1, hde1⟩ := hh
  refine .tell (φ := ∃ b o, ea2 = some ⟨b, o, none⟩) ((Knows.arr (cs := ([⟨102, 2, 4, 2, 9, 1, 0, 1, [103], [], 21, true⟩] : List Sn19).flatMap Sn19.cells) (.tail .head)).mono fun _ h => RowAt.addr h (by rw [flat_length Sn19.cells_len]; exact Nat.lt_of_sub_eq_succ rfl)) (fun hh => ?_)
  obtain ⟨de2, ee2, hde2⟩ := hh
  refine .region ?_
  refine .rd (.move rfl) ?_
  refine .rd (.eqI rfl rfl) ?_
  refine .alter (t := 58) (v' := .bool true) rfl (congrArg Value.bool (by first | rfl | decide)) ?_
  refine .rd (.move rfl) ?_
  refine .on (t := 59) rfl rfl ?_
  refine .rd (.move rfl) ?_
  refine .on (t := 59) rfl rfl ?_
  refine .rd (.eqI rfl rfl) ?_
  refine .alter (t := 61) (v' := .bool true) rfl (congrArg Value.bool (by first | rfl | decide)) ?_
  refine .rd (.pickT rfl rfl) ?_
  refine .rd (.move rfl) ?_
  refine .on (t := 63) rfl rfl ?_
  refine .rd (.move rfl) ?_
  refine .on (t := 63) rfl rfl ?_
  refine .rd (.lenL rfl rfl Tryd.underlying29 rfl) ?_
  refine .on (t := 63) rfl rfl ?_
  refine .rd (.eqI rfl rfl) ?_
  refine .alter (t := 66) (v' := .bool true) rfl (congrArg Value.bool (by first | rfl | decide)) ?_
  refine .rd (.pickT rfl rfl) ?_
  refine .rd (.move rfl) ?_
  refine .on (t := 68) rfl rfl ?_
  refine .rd (.move rfl) ?_
  refine .on (t := 68) rfl rfl ?_
  refine .rd (.indexAddr (b := dz1) (o := ez1) Tryd.underlying29 ts35 (by show some (Value.slice oa1 _ _) = _; rw [hdz1]) rfl (by decide) (by decide)) ?_
  refine .on (t := 68) rfl rfl ?_
  refine .rd (.fieldAddr fd35_0 rfl) ?_
  refine .on (t := 68) rfl rfl ?_
  refine .rd (.load na3 rfl (Knows.one (i := 0) (Knows.elem (f := Mg19.cells) Mg19.cells_len (by decide) ((Knows.arr (cs := ([⟨19, 102, 1, 1, 2, 5, 0, 0, 0, 0, [], (none, 0, 0)⟩] : List Mg19).flatMap Mg19.cells) (.tail (.tail (.tail .head)))).mono fun _ h => hdz1 ▸ h) (i := 0) rfl) rfl)) ?_
  refine .on (t := 68) rfl rfl ?_
  refine .rd (.eqI rfl rfl) ?_
  refine .alter (t := 73) (v' := .bool true) rfl (congrArg Value.bool (by first | rfl | decide)) ?_
  refine .rd (.pickT rfl rfl) ?_
  refine .rd (.move rfl) ?_
  refine .on (t := 75) rfl rfl ?_
  refine .rd (.move rfl) ?_
  refine .on (t := 75) rfl rfl ?_
  refine .rd (.indexAddr (b := dz1) (o := ez1) Tryd.underlying29 ts35 (by show some (Value.slice oa1 _ _) = _; rw [hdz1]) rfl (by decide) (by decide)) ?_
  refine .on (t := 75) rfl rfl ?_
  refine .rd (.fieldAddr fd35_2 rfl) ?_
  refine .on (t := 75) rfl rfl ?_
  refine .rd (.load na3 rfl (Knows.one (i := 2) (Knows.elem (f := Mg19.cells) Mg19.cells_len (by decide) ((Knows.arr (cs := ([⟨19, 102, 1, 1, 2, 5, 0, 0, 0, 0, [], (none, 0, 0)⟩] : List Mg19).flatMap Mg19.cells) (.tail (.tail (.tail .head)))).mono fun _ h => hdz1 ▸ h) (i := 0) rfl) rfl)) ?_
  refine .on (t := 75) rfl rfl ?_
  refine .rd (.eqI rfl rfl) ?_
  refine .alter (t := 80) (v' := .bool true) rfl (congrArg Value.bool (by first | rfl | decide)) ?_
  refine .rd (.pickT rfl rfl) ?_
  refine .rd (.move rfl) ?_
  refine .on (t := 82) rfl rfl ?_
  refine .rd (.move rfl) ?_
  refine .on (t := 82) rfl rfl ?_
  refine .rd (.lenL rfl rfl Tryd.underlying29 rfl) ?_
  refine .on (t := 82) rfl rfl ?_
  refine .rd (.eqI rfl rfl) ?_
  refine .alter (t := 85) (v' := .bool true) rfl (congrArg Value.bool (by first | rfl | decide)) ?_
  refine .rd (.pickT rfl rfl) ?_
  refine .rd (.move rfl) ?_
  refine .on (t := 87) rfl rfl ?_
  refine .rd (.move rfl) ?_
  refine .on (t := 87) rfl rfl ?_
  refine .rd (.lenL rfl rfl Tryd.underlying29 rfl) ?_
  refine .on (t := 87) rfl rfl ?_
  refine .rd (.eqI rfl rfl) ?_
  refine .alter (t := 90) (v' := .bool true) rfl (congrArg Value.bool (by rw [q3_out]; rfl)) ?_
  refine .rd (.pickT rfl rfl) ?_
  refine .rd (.move rfl) ?_
  refine .on (t := 92) rfl rfl ?_
  refine .rd (.move rfl) ?_
  refine .on (t := 92) rfl rfl ?_
  refine .rd (.indexAddr (b := dz3) (o := ez3) Tryd.underlying29 ts35 (by show some (Value.slice oa3 _ _) = _; rw [hdz3]) rfl (by decide) (by rw [q3_out]; decide)) ?_
  refine .on (t := 92) rfl rfl ?_
  refine .rd (.fieldAddr fd35_2 rfl) ?_
  refine .on (t := 92) rfl rfl ?_
  refine .rd (.load na3 rfl (Knows.one (i := 2) (Knows.elem (f := Mg19.cells) Mg19.cells_len (by decide) ((Knows.arr (cs := ([⟨19, 102, 2, 2, 2, 5, 0, 0, 0, 0, [], (none, 0, 0)⟩] : List Mg19).flatMap Mg19.cells) .head).mono fun _ h => hdz3 ▸ h) (i := 0) rfl) rfl)) ?_
  refine .on (t := 92) rfl rfl ?_
  refine .rd (.eqI rfl rfl) ?_
  refine .alter (t := 97) (v' := .bool true) rfl (congrArg Value.bool (by first | rfl | decide)) ?_
  refine .rd (.pickT rfl rfl) ?_
  refine .rd (.move rfl) ?_
  refine .on (t := 99) rfl rfl ?_
  refine .rd (.move rfl) ?_
  refine .on (t := 99) rfl rfl ?_
  refine .rd (.indexAddr (b := dz3) (o := ez3) Tryd.underlying29 ts35 (by show some (Value.slice oa3 _ _) = _; rw [hdz3]) rfl (by decide) (by rw [q3_out]; decide)) ?_
  refine .on (t := 99) rfl rfl ?_
  refine .rd (.fieldAddr fd35_3 rfl) ?_
  refine .on (t := 99) rfl rfl ?_
  refine .rd (.load na3 rfl (Knows.one (i := 3) (Knows.elem (f := Mg19.cells) Mg19.cells_len (by decide) ((Knows.arr (cs := ([⟨19, 102, 2, 2, 2, 5, 0, 0, 0, 0, [], (none, 0, 0)⟩] : List Mg19).flatMap Mg19.cells) .head).mono fun _ h => hdz3 ▸ h) (i := 0) rfl) rfl)) ?_
  refine .on (t := 99) rfl rfl ?_
  refine .rd (.eqI rfl rfl) ?_
  refine .alter (t := 104) (v' := .bool true) rfl (congrArg Value.bool (by first | rfl | decide)) ?_
  refine .rd (.pickT rfl rfl) ?_
  refine .rd (.move rfl) ?_
  refine .on (t := 106) rfl rfl ?_
  refine .rd (.move rfl) ?_
  refine .on (t := 106) rfl rfl ?_
  refine .rd (.lenL rfl rfl Tryd.underlying45 rfl) ?_
  refine .on (t := 106) rfl rfl ?_
  refine .rd (.eqI rfl rfl) ?_
  refine .alter (t := 109) (v' := .bool true) rfl (congrArg Value.bool (by rw [q4_end]; rfl)) ?_
  refine .rd (.pickT rfl rfl) ?_
  refine .rd (.move rfl) ?_
  refine .on (t := 111) rfl rfl ?_
  refine .rd (.move rfl) ?_
  refine .on (t := 111) rfl rfl ?_
  refine .rd (.indexAddr (b := de1) (o := ee1) Tryd.underlying45 ts31 (by show some (Value.slice ea1 _ _) = _; rw [hde1]) rfl (by decide) (by rw [q4_end]; decide)) ?_
  refine .on (t := 111) rfl rfl ?_
  refine .rd (.fieldAddr fd31_9 rfl) ?_
  refine .on (t := 111) rfl rfl ?_
  refine .rd (.load na9 rfl (Knows.one (i := 9) (Knows.elem (f := Sn19.cells) Sn19.cells_len (by decide) ((Knows.arr (cs := ([⟨102, 1, 1, 2, 5, 0, 0, 0, [], [98], 0, true⟩] : List Sn19).flatMap Sn19.cells) (.tail (.tail .head))).mono fun _ h => hde1 ▸ h) (i := 0) rfl) rfl)) ?_
  refine .on (t := 111) rfl rfl ?_
  refine .rd (.eqT (m := [98]) rfl rfl) ?_
  refine .alter (t := 116) (v' := .bool true) rfl (congrArg Value.bool (by decide)) ?_
  refine .rd (.pickT rfl rfl) ?_
  refine .rd (.move rfl) ?_
  refine .on (t := 118) rfl rfl ?_
  refine .rd (.move rfl) ?_
  refine .on (t := 118) rfl rfl ?_
  refine .rd (.indexAddr (b := de1) (o := ee1) Tryd.underlying45 ts31 (by show some (Value.slice ea1 _ _) = _; rw [hde1]) rfl (by decide) (by rw [q4_end]; decide)) ?_
  refine .on (t := 118) rfl rfl ?_
  refine .rd (.fieldAddr fd31_4 rfl) ?_
  refine .on (t := 118) rfl rfl ?_
  refine .rd (.load na3 rfl (Knows.one (i := 4) (Knows.elem (f := Sn19.cells) Sn19.cells_len (by decide) ((Knows.arr (cs := ([⟨102, 1, 1, 2, 5, 0, 0, 0, [], [98], 0, true⟩] : List Sn19).flatMap Sn19.cells) (.tail (.tail .head))).mono fun _ h => hde1 ▸ h) (i := 0) rfl) rfl)) ?_
  refine .on (t := 118) rfl rfl ?_
  refine .rd (.eqI rfl rfl) ?_
  refine .alter (t := 123) (v' := .bool true) rfl (congrArg Value.bool (by first | rfl | decide)) ?_
  refine .rd (.pickT rfl rfl) ?_
  refine .rd (.move rfl) ?_
  refine .on (t := 125) rfl rfl ?_
  refine .rd (.move rfl) ?_
  refine .on (t := 125) rfl rfl ?_
  refine .rd (.indexAddr (b := de1) (o := ee1) Tryd.underlying45 ts31 (by show some (Value.slice ea1 _ _) = _; rw [hde1]) rfl (by decide) (by rw [q4_end]; decide)) ?_
  refine .on (t := 125) rfl rfl ?_
  refine .rd (.fieldAddr fd31_10 rfl) ?_
  refine .on (t := 125) rfl rfl ?_
  refine .rd (.load na25 rfl (Knows.one (i := 10) (Knows.elem (f := Sn19.cells) Sn19.cells_len (by decide) ((Knows.arr (cs := ([⟨102, 1, 1, 2, 5, 0, 0, 0, [], [98], 0, true⟩] : List Sn19).flatMap Sn19.cells) (.tail (.tail .head))).mono fun _ h => hde1 ▸ h) (i := 0) rfl) rfl)) ?_
  refine .on (t := 125) rfl rfl ?_
  refine .rd (.eqI rfl rfl) ?_
  refine .alter (t := 130) (v' := .bool true) rfl (congrArg Value.bool (by first | rfl | decide)) ?_
  refine .rd (.pickT rfl rfl) ?_
  refine .rd (.move rfl) ?_
  refine .on (t := 132) rfl rfl ?_
  refine .rd (.move rfl) ?_
  refine .on (t := 132) rfl rfl ?_
  refine .rd (.eqI rfl rfl) ?_
  refine .alter (t := 134) (v' := .bool true) rfl (congrArg Value.bool (by first | rfl | decide)) ?_
  refine .rd (.pickT rfl rfl) ?_
  refine .rd (.move rfl) ?_
  refine .on (t := 136) rfl rfl ?_
  refine .rd (.move rfl) ?_
  refine .on (t := 136) rfl rfl ?_
  refine .rd (.lenL rfl rfl Tryd.underlying29 rfl) ?_
  refine .on (t := 136) rfl rfl ?_
  refine .rd (.eqI rfl rfl) ?_
  refine .alter (t := 139) (v' := .bool true) rfl (congrArg Value.bool (by first | rfl | decide)) ?_
  refine .rd (.pickT rfl rfl) ?_
  refine .rd (.move rfl) ?_
  refine .on (t := 141) rfl rfl ?_
  refine .rd (.move rfl) ?_
  refine .on (t := 141) rfl rfl ?_
  refine .rd (.eqI rfl rfl) ?_
  refine .alter (t := 143) (v' := .bool true) rfl (congrArg Value.bool (by first | rfl | decide)) ?_
  refine .rd (.pickT rfl rfl) ?_
  refine .rd (.move rfl) ?_
  refine .on (t := 145) rfl rfl ?_
  refine .rd (.move rfl) ?_
  refine .on (t := 145) rfl rfl ?_
  refine .rd (.indexAddr (b := dz2) (o := ez2) Tryd.underlying29 ts35 (by show some (Value.slice oa2 _ _) = _; rw [hdz2]) rfl (by decide) (by decide)) ?_
  refine .on (t := 145) rfl rfl ?_
  refine .rd (.fieldAddr fd35_11 rfl) ?_
  refine .on (t := 145) rfl rfl ?_
  refine .rd (.load na3 rfl (Knows.one (i := 11) (Knows.elem (f := Mg19.cells) Mg19.cells_len (by decide) ((Knows.arr (cs := ([⟨23, 102, to2, 3, 0, 9, 2, 3, 1, 1, [103], y2⟩] : List Mg19).flatMap Mg19.cells) (.tail (.tail (.tail (.tail (.tail (.tail .head))))))).mono fun _ h => hdz2 ▸ h) (i := 0) rfl) rfl)) ?_
  refine .on (t := 145) rfl rfl ?_
  refine .rd (.eqI rfl rfl) ?_
  refine .alter (t := 150) (v' := .bool true) rfl (congrArg Value.bool (by first | rfl | decide)) ?_
  refine .rd (.pickT rfl rfl) ?_
  refine .rd (.move rfl) ?_
  refine .on (t := 152) rfl rfl ?_
  refine .rd (.move rfl) ?_
  refine .on (t := 152) rfl rfl ?_
  refine .rd (.lenL rfl rfl Tryd.underlying29 rfl) ?_
  refine .on (t := 152) rfl rfl ?_
  refine .rd (.eqI rfl rfl) ?_
  refine .alter (t := 155) (v' := .bool true) rfl (congrArg Value.bool (by rw [q7_out]; rfl)) ?_
  refine .rd (.pickT rfl rfl) ?_
  refine .rd (.move rfl) ?_
  refine .on (t := 157) rfl rfl ?_
  refine .rd (.move rfl) ?_
  refine .on (t := 157) rfl rfl ?_
  refine .rd (.lenL rfl rfl Tryd.underlying45 rfl) ?_
  refine .on (t := 157) rfl rfl ?_
  refine .rd (.eqI rfl rfl) ?_
  refine .alter (t := 160) (v' := .bool true) rfl (congrArg Value.bool (by rw [q7_end]; rfl)) ?_
  refine .rd (.pickT rfl rfl) ?_
  refine .rd (.move rfl) ?_
  refine .on (t := 162) rfl rfl ?_
  refine .rd (.move rfl) ?_
  refine .on (t := 162) rfl rfl ?_
  refine .rd (.indexAddr (b := de2) (o := ee2) Tryd.underlying45 ts31 (by show some (Value.slice ea2 _ _) = _; rw [hde2]) rfl (by decide) (by rw [q7_end]; decide)) ?_
  refine .on (t := 162) rfl rfl ?_
  refine .rd (.fieldAddr fd31_10 rfl) ?_
  refine .on (t := 162) rfl rfl ?_
  refine .rd (.load na25 rfl (Knows.one (i := 10) (Knows.elem (f := Sn19.cells) Sn19.cells_len (by decide) ((Knows.arr (cs := ([⟨102, 2, 4, 2, 9, 1, 0, 1, [103], [], 21, true⟩] : List Sn19).flatMap Sn19.cells) (.tail .head)).mono fun _ h => hde2 ▸ h) (i := 0) rfl) rfl)) ?_
  refine .on (t := 162) rfl rfl ?_
  refine .rd (.eqI rfl rfl) ?_
  refine .alter (t := 167) (v' := .bool true) rfl (congrArg Value.bool (by first | rfl | decide)) ?_
  refine .rd (.pickT rfl rfl) ?_
  refine .rd (.move rfl) ?_
  refine .on (t := 169) rfl rfl ?_
  refine .rd (.move rfl) ?_
  refine .on (t := 169) rfl rfl ?_
  refine .fn rfl rfl (.cons (.tail (.tail (.tail (.tail .head)))) .nil) (fun _ _ _ => trivial) (open_ok pb (done19 (q7 y1 (some ⟨br, 0, none⟩) 2 y2))) (fun v G1 hq => ?_)
  obtain ⟨rfl, rfl⟩ := hq
  simp only [List.cons_append, List.nil_append]
  refine .on (t := 169) rfl rfl ?_
  refine .rd (.eqI rfl rfl) ?_
  refine .alter (t := 172) (v' := .bool true) rfl (congrArg Value.bool (by show decide ((((q7 y1 (some ⟨br, 0, none⟩) 2 y2).open_.length : Nat) : Int) = 0) = true; rw [q7_open]; rfl)) ?_
  refine .rd (.pickT rfl rfl) ?_
  refine .rd (.assign rfl) ?_
  refine .nil ?_
  refine .retP Tryd.func6 (.cons (.tmp rfl) .nil) (.cons (.tail (.tail (.tail (.tail (.tail (.tail (.tail (.tail (.tail (.tail .head)))))))))) .nil) ?_
  exact ⟨[], ⟨rfl, rfl⟩, rfl⟩

end Go.Proofs.YtankogdnhgmkhaaDoor


namespace Go.Proofs.YtankogdnhgmkhaaDoor
open Go Go.Sp

set_option linter.unusedVariables false

namespace con20
theorem ts9 : TS Tryd.prog 9 1 := .of (by kernel_rfl)
theorem na9 : NotAgg Tryd.prog 9 := ⟨_, Tryd.underlying9, trivial⟩
theorem ti3 : TI Tryd.prog 3 1 8 (.int .i64 0) := .of (by kernel_rfl)
theorem ts3 : TS Tryd.prog 3 1 := .of (by kernel_rfl)
theorem na3 : NotAgg Tryd.prog 3 := ⟨_, Tryd.underlying3, trivial⟩
theorem ts31 : TS Tryd.prog 31 12 := .of (by kernel_rfl)
theorem fd31_1 : FD Tryd.prog 31 1 1 := .of Tryd.underlying31 (by kernel_rfl)
theorem fd31_11 : FD Tryd.prog 31 11 11 := .of Tryd.underlying31 (by kernel_rfl)
theorem na4 : NotAgg Tryd.prog 4 := ⟨_, Tryd.underlying4, trivial⟩
theorem fd31_0 : FD Tryd.prog 31 0 0 := .of Tryd.underlying31 (by kernel_rfl)
end con20
open con20



set_option maxHeartbeats 1000000 in
set_option maxRecDepth 20000 in
theorem list_ok (s : List UInt8) (hs : s.length ≤ 1000) : Cn Tryd.prog 17 [.string (str s)] LV [] fun v G => ∃ a n c b, v = .tuple #[.slice a n c, .bool b] ∧ G = [] := by
  refine .enter Tryd.func17 rfl (by kernel_rfl) rfl fun R k => ?_
  refine .seq ?_
  refine .region ?_
  refine .rd (.assign rfl) ?_
  refine .rd (.assign rfl) ?_
  refine .nil ?_
  refine .seq ?_
  refine .region ?_
  refine .rd (.assign rfl) ?_
  refine .nil ?_
  refine .seq ?_
  refine .seq ?_
  refine .region ?_
  refine .rd (.move rfl) ?_
  refine .fn rfl rfl .nil (Knows.pick .head k) (split_ok s (by omega)) (fun v G1 hq => ?_)
  obtain ⟨b, L, hLn, hLt, rfl, rfl⟩ := hq
  simp only [List.cons_append, List.nil_append]
  refine .rd (.lenL rfl rfl Tryd.underlying49 rfl) ?_
  refine .rd (.move rfl) ?_
  refine .nil ?_
  refine .nilArr 3 1 none ?_
  refine .block ?_
  refine .loop (σ := Nat × Option Addr × Nat × List Value) (fun ⟨i, la, lc, cs⟩ => i ≤ L.length ∧ cs.length ≤ 7) (fun ⟨i, la, lc, cs⟩ => L.length - i) (fun ⟨i, la, lc, cs⟩ => [(0, .string (str s)), (4, .slice la cs.length lc), (10, .slice (some ⟨b, 0, none⟩) L.length L.length), (11, .int .i64 L.length), (12, .int .i64 (i : Nat))]) (fun ⟨i, la, lc, cs⟩ => [arr 9 1 (some ⟨b, 0, none⟩) L.length (L.flatMap scell), arr 3 1 la lc cs, R]) (0, none, 0, []) ⟨Nat.zero_le _, Nat.zero_le _⟩ (.cons rfl (.cons rfl (.cons rfl (.cons rfl (.cons rfl .nil))))) (.cons (.tail .head) (.cons .head (.cons .head .nil))) (fun s' hI ih => ?_)
  obtain ⟨i, la, lc, cs⟩ := s'
  dsimp only at hI ih ⊢
  obtain ⟨hi, hcs⟩ := hI
  refine .seq ?_
  refine .region ?_
  refine .rd (.lt rfl rfl) ?_
  refine .nil ?_
  refine .seq ?_
  refine .condP rfl (fun h3 => ?_) (fun h3 => ?_)
  · refine .skip ?_
    refine .seq ?_
    refine .block ?_
    refine .seq ?_
    obtain ⟨t, ht⟩ : ∃ t, L[i]? = some t := ⟨_, List.getElem?_eq_getElem (by omega)⟩
    have htl := hLt t (List.mem_of_getElem? ht)
    refine .region ?_
    refine .rd (.indexAddr Tryd.underlying49 ts9 rfl rfl (by omega) (by omega)) ?_
    refine .rd (.load na9 rfl (Knows.one (i := 0) (Knows.elem (f := scell) scell_len (by decide) (Knows.arr .head) ht) rfl)) ?_
    refine .rd (.assign rfl) ?_
    refine .nil ?_
    refine .seq ?_
    refine .region ?_
    refine .rd (.move rfl) ?_
    refine .fn rfl rfl .nil (Knows.pick (.tail (.tail .head)) k) (atoi_ok t (by omega)) (fun v G1 hq => ?_)
    obtain ⟨⟨n, ev, rfl, hev, hn1, hn2⟩, rfl⟩ := hq
    simp only [List.nil_append]
    refine .rd (.move rfl) ?_
    refine .rd (.extract rfl rfl) ?_
    refine .rd (.extract rfl rfl) ?_
    refine .rd (.assign rfl) ?_
    refine .rd (.assign rfl) ?_
    refine .nil ?_
    refine .seq ?_
    refine .seq ?_
    refine .region ?_
    refine .rd (.move rfl) ?_
    refine .rd (.neNilI Tryd.underlying81 rfl hev) ?_
    refine .rd (.move rfl) ?_
    refine .split (t := 23) rfl (fun g6a => ?_) (fun g6a => ?_)
    · refine .off (t := 23) rfl rfl rfl ?_
      refine .off (t := 23) rfl rfl rfl ?_
      refine .off (t := 23) rfl rfl rfl ?_
      refine .rd (.pickT rfl rfl) ?_
      refine .rd (.move rfl) ?_
      refine .off (t := 28) rfl rfl rfl ?_
      refine .off (t := 28) rfl rfl rfl ?_
      refine .off (t := 28) rfl rfl rfl ?_
      refine .rd (.pickT rfl rfl) ?_
      refine .rd (.move rfl) ?_
      refine .off (t := 33) rfl rfl rfl ?_
      refine .off (t := 33) rfl rfl rfl ?_
      refine .off (t := 33) rfl rfl rfl ?_
      refine .off (t := 33) rfl rfl rfl ?_
      refine .rd (.pickT rfl rfl) ?_
      refine .rd (.move rfl) ?_
      refine .off (t := 39) rfl rfl rfl ?_
      refine .off (t := 39) rfl rfl rfl ?_
      refine .rd (.pickT rfl rfl) ?_
      refine .nil ?_
      refine .condT rfl ?_
      refine .seq ?_
      refine .region ?_
      refine .rd (.assign rfl) ?_
      refine .rd (.assign rfl) ?_
      refine .nil ?_
      refine .retP Tryd.func17 (.cons (.tmp rfl) (.cons (.tmp rfl) .nil)) (.cons (.tail (.tail .head)) .nil) ?_
      exact ⟨[], ⟨_, _, _, _, rfl, rfl⟩, rfl⟩
    · refine .on (t := 23) rfl rfl ?_
      refine .rd (.move rfl) ?_
      refine .on (t := 23) rfl rfl ?_
      refine .rd (.lenT rfl rfl Tryd.underlying9 rfl) ?_
      refine .on (t := 23) rfl rfl ?_
      refine .rd (.gt rfl rfl) ?_
      refine .rd (.pickF rfl rfl) ?_
      refine .rd (.move rfl) ?_
      refine .split (t := 28) rfl (fun g6b => ?_) (fun g6b => ?_)
      · replace g6b := of_decide_eq_true g6b
        refine .off (t := 28) rfl rfl rfl ?_
        refine .off (t := 28) rfl rfl rfl ?_
        refine .off (t := 28) rfl rfl rfl ?_
        refine .rd (.pickT rfl rfl) ?_
        refine .rd (.move rfl) ?_
        refine .off (t := 33) rfl rfl rfl ?_
        refine .off (t := 33) rfl rfl rfl ?_
        refine .off (t := 33) rfl rfl rfl ?_
        refine .off (t := 33) rfl rfl rfl ?_
        refine .rd (.pickT rfl rfl) ?_
        refine .rd (.move rfl) ?_
        refine .off (t := 39) rfl rfl rfl ?_
        refine .off (t := 39) rfl rfl rfl ?_
        refine .rd (.pickT rfl rfl) ?_
        refine .nil ?_
        refine .condT rfl ?_
        refine .seq ?_
        refine .region ?_
        refine .rd (.assign rfl) ?_
        refine .rd (.assign rfl) ?_
        refine .nil ?_
        refine .retP Tryd.func17 (.cons (.tmp rfl) (.cons (.tmp rfl) .nil)) (.cons (.tail (.tail .head)) .nil) ?_
        exact ⟨[], ⟨_, _, _, _, rfl, rfl⟩, rfl⟩
      · replace g6b := of_decide_eq_false g6b
        refine .on (t := 28) rfl rfl ?_
        refine .rd (.move rfl) ?_
        refine .on (t := 28) rfl rfl ?_
        refine .rd (.lenL rfl rfl Tryd.underlying28 rfl) ?_
        refine .on (t := 28) rfl rfl ?_
        refine .rd (.eqI rfl rfl) ?_
        refine .rd (.pickF rfl rfl) ?_
        refine .rd (.move rfl) ?_
        refine .split (t := 33) rfl (fun g6c => ?_) (fun g6c => ?_)
        · replace g6c := of_decide_eq_true g6c
          refine .off (t := 33) rfl rfl rfl ?_
          refine .off (t := 33) rfl rfl rfl ?_
          refine .off (t := 33) rfl rfl rfl ?_
          refine .off (t := 33) rfl rfl rfl ?_
          refine .rd (.pickT rfl rfl) ?_
          refine .rd (.move rfl) ?_
          refine .off (t := 39) rfl rfl rfl ?_
          refine .off (t := 39) rfl rfl rfl ?_
          refine .rd (.pickT rfl rfl) ?_
          refine .nil ?_
          refine .condT rfl ?_
          refine .seq ?_
          refine .region ?_
          refine .rd (.assign rfl) ?_
          refine .rd (.assign rfl) ?_
          refine .nil ?_
          refine .retP Tryd.func17 (.cons (.tmp rfl) (.cons (.tmp rfl) .nil)) (.cons (.tail (.tail .head)) .nil) ?_
          exact ⟨[], ⟨_, _, _, _, rfl, rfl⟩, rfl⟩
        · replace g6c := of_decide_eq_false g6c
          refine .on (t := 33) rfl rfl ?_
          refine .rd (.move rfl) ?_
          refine .on (t := 33) rfl rfl ?_
          refine .fn rfl rfl .nil (Knows.pick (.tail (.tail .head)) k) (itoa_ok n hn1 hn2) (fun v G1 hq => ?_)
          obtain ⟨⟨ds, rfl⟩, rfl⟩ := hq
          simp only [List.nil_append]
          refine .on (t := 33) rfl rfl ?_
          refine .rd (.move rfl) ?_
          refine .on (t := 33) rfl rfl ?_
          refine .rd (.neT rfl rfl) ?_
          refine .rd (.pickF rfl rfl) ?_
          refine .rd (.move rfl) ?_
          refine .split (t := 39) rfl (fun g6d => ?_) (fun g6d => ?_)
          · simp at g6d
            refine .off (t := 39) rfl rfl rfl ?_
            refine .off (t := 39) rfl rfl rfl ?_
            refine .rd (.pickT rfl rfl) ?_
            refine .nil ?_
            refine .condT rfl ?_
            refine .seq ?_
            refine .region ?_
            refine .rd (.assign rfl) ?_
            refine .rd (.assign rfl) ?_
            refine .nil ?_
            refine .retP Tryd.func17 (.cons (.tmp rfl) (.cons (.tmp rfl) .nil)) (.cons (.tail (.tail .head)) .nil) ?_
            exact ⟨[], ⟨_, _, _, _, rfl, rfl⟩, rfl⟩
          · simp at g6d
            refine .on (t := 39) rfl rfl ?_
            refine .rd (.move rfl) ?_
            refine .on (t := 39) rfl rfl ?_
            refine .rd (.lt rfl rfl) ?_
            refine .rd (.pickF rfl rfl) ?_
            refine .nil ?_
            refine .condP rfl (fun h6 => ?_) (fun h6 => ?_)
            · refine .seq ?_
              refine .region ?_
              refine .rd (.assign rfl) ?_
              refine .rd (.assign rfl) ?_
              refine .nil ?_
              refine .retP Tryd.func17 (.cons (.tmp rfl) (.cons (.tmp rfl) .nil)) (.cons (.tail (.tail .head)) .nil) ?_
              exact ⟨[], ⟨_, _, _, _, rfl, rfl⟩, rfl⟩
            · refine .skip ?_
              refine .region ?_
              refine .rd (.move rfl) ?_
              refine .rd (.move rfl) ?_
              refine .ef (.buildOne (cs := [.int .i64 n]) Tryd.underlying28 ti3 (by decide) rfl rfl rfl (ones.of rfl)) ?_
              rintro _ _ ⟨bs, rfl, rfl⟩
              refine .ef (.append rfl rfl Tryd.underlying28 ti3 rfl (ones.of rfl) (by decide) (by decide) rfl rfl (.tail (.tail .head)) (n := cs.length) (m := 1) (by rw [Nat.mul_one]) (.srcBlk (ys := [.int .i64 n]) .head Tryd.underlying28 rfl (by decide)) (by omega)) ?_
              rintro _ _ ⟨qa, qc, rfl, qn, rfl⟩
              refine .rd (.assign rfl) ?_
              refine .nil ?_
              refine .inBlock ?_
              refine .region ?_
              refine .rd (.add rfl rfl (by omega) (by omega)) ?_
              refine .rd (.move rfl) ?_
              refine .nil ?_
              exact (ih (i + 1, qa, qc, cs ++ [.int .i64 n]) ⟨by show i + 1 ≤ _; omega, by rw [List.length_append]; show cs.length + 1 ≤ 7; omega⟩ (by show L.length - (i + 1) < L.length - i; omega)).to (.cons rfl (.cons (by show _ = some (Value.slice qa (cs ++ [Value.int .i64 n]).length qc); rw [List.length_append]; rfl) (.cons rfl (.cons rfl (.cons rfl .nil))))) (.cons (.tail (.tail .head)) (.cons .head (.cons (.tail .head) .nil)))
  · refine .exit rfl ?_
    refine .seq ?_
    refine .region ?_
    refine .rd (.move rfl) ?_
    refine .rd (.assign rfl) ?_
    refine .rd (.assign rfl) ?_
    refine .nil ?_
    refine .retP Tryd.func17 (.cons (.tmp rfl) (.cons (.tmp rfl) .nil)) (.cons (.tail (.tail .head)) .nil) ?_
    exact ⟨[], ⟨_, _, _, _, rfl, rfl⟩, rfl⟩

set_option maxHeartbeats 1000000 in
set_option maxRecDepth 20000 in
theorem ended_ok (over : List Int) (oa0 : Option Addr) (oc0 : Nat) (a : Option Addr) (c : Nat) (l : List Sn19) (hl : l.length ≤ 1000000) (ho : over.length ≤ 1000000) (hfresh : ∀ (i : Nat) (y : Sn19), l[i]? = some y → ∀ j ∈ over ++ (l.take i).map (·.call), j ≠ y.call) (hdone : ∀ y ∈ l, y.done = true ∧ y.client = 101) : Cn Tryd.prog 12 [.slice oa0 over.length oc0, .slice a l.length c] (RowAt a (l.flatMap Sn19.cells)) [arr 3 1 oa0 oc0 (over.flatMap icell)] fun v G => ∃ oa oc, v = .tuple #[.slice oa (over ++ l.map (·.call)).length oc, .bool true] ∧ G = [arr 3 1 oa oc ((over ++ l.map (·.call)).flatMap icell)] := by
  refine .enter Tryd.func12 rfl (by kernel_rfl) rfl fun R k => ?_
  refine .cast (X' := arr 3 1 oa0 oc0 ((over ++ (l.take 0).map (·.call)).flatMap icell)) (by rw [List.take_zero, List.map_nil, List.append_nil]) ?_
  refine .seq ?_
  refine .region ?_
  refine .rd (.assign rfl) ?_
  refine .rd (.assign rfl) ?_
  refine .nil ?_
  refine .seq ?_
  refine .seq ?_
  refine .region ?_
  refine .rd (.assign rfl) ?_
  refine .nil ?_
  refine .block ?_
  refine .loop (σ := Nat × Option Addr × Nat) (fun ⟨i, oa, oc⟩ => i ≤ l.length) (fun ⟨i, oa, oc⟩ => l.length - i) (fun ⟨i, oa, oc⟩ => [(0, .slice oa ((over ++ (l.take i).map (·.call))).length oc), (1, .slice a l.length c), (6, .int .i64 (i : Nat))]) (fun ⟨i, oa, oc⟩ => [arr 3 1 oa oc ((over ++ (l.take i).map (·.call)).flatMap icell), R]) (0, oa0, oc0) (Nat.zero_le _) (.cons (by show _ = some (Value.slice oa0 _ oc0); rw [List.take_zero, List.map_nil, List.append_nil]; rfl) (.cons rfl (.cons rfl .nil))) (.cons .head (.cons .head .nil)) (fun s' hI ih => ?_)
  obtain ⟨i, oa, oc⟩ := s'
  dsimp only at hI ih ⊢
  have ih0 := ih
  have hol : (over ++ (l.take i).map (·.call)).length ≤ 3000000 := by simp only [List.length_append, List.length_map, List.length_take]; omega
  refine .seq ?_
  refine .seq ?_
  refine .region ?_
  refine .rd (.move rfl) ?_
  refine .rd (.move rfl) ?_
  refine .rd (.lenL rfl rfl Tryd.underlying45 rfl) ?_
  refine .rd (.lt rfl rfl) ?_
  refine .nil ?_
  refine .condP rfl (fun h2 => ?_) (fun h2 => ?_)
  · refine .skip ?_
    refine .seq ?_
    refine .block ?_
    refine .seq ?_
    refine .seq ?_
    obtain ⟨y, hy⟩ : ∃ y, l[i]? = some y := ⟨_, List.getElem?_eq_getElem (by omega)⟩
    have hym := List.mem_of_getElem? hy
    have hfr := hfresh i y hy
    obtain ⟨hdn, hcli⟩ := hdone y hym
    have htk : over ++ (l.take (i + 1)).map (·.call) = (over ++ (l.take i).map (·.call)) ++ [y.call] := by rw [List.take_add_one, hy, List.map_append, ← List.append_assoc]; rfl
    refine .tell (φ := ∃ b o, a = some ⟨b, o, none⟩) (Knows.pick (.tail .head) (k.mono fun _ h => RowAt.addr h (by rw [flat_length Sn19.cells_len]; omega))) (fun hh => ?_)
    obtain ⟨b9, o9, hab⟩ := hh
    refine .region ?_
    refine .rd (.assign rfl) ?_
    refine .nil ?_
    refine .block ?_
    refine .loop (σ := Nat) (fun j => j ≤ (over ++ (l.take i).map (·.call)).length) (fun j => (over ++ (l.take i).map (·.call)).length - j) (fun j => [(0, .slice oa ((over ++ (l.take i).map (·.call))).length oc), (1, .slice a l.length c), (6, .int .i64 (i : Nat)), (7, .int .i64 (j : Nat))]) (fun j => [arr 3 1 oa oc ((over ++ (l.take i).map (·.call)).flatMap icell), R]) 0 (Nat.zero_le _) (.cons rfl (.cons rfl (.cons rfl (.cons rfl .nil)))) (.cons .head (.cons .head .nil)) (fun j hI ih => ?_)
    have hj := hI
    refine .seq ?_
    refine .seq ?_
    refine .region ?_
    refine .rd (.move rfl) ?_
    refine .rd (.move rfl) ?_
    refine .rd (.lenL rfl rfl Tryd.underlying28 rfl) ?_
    refine .rd (.lt rfl rfl) ?_
    refine .nil ?_
    refine .condP rfl (fun h5 => ?_) (fun h5 => ?_)
    · refine .skip ?_
      refine .seq ?_
      refine .block ?_
      refine .seq ?_
      obtain ⟨z, hz⟩ : ∃ z, (over ++ (l.take i).map (·.call))[j]? = some z := ⟨_, List.getElem?_eq_getElem (by omega)⟩
      have hne := hfr z (List.mem_of_getElem? hz)
      refine .tell (φ := ∃ b o, oa = some ⟨b, o, none⟩) ((Knows.arr .head).mono fun _ h => RowAt.addr h (by rw [flat_length icell_len]; omega)) (fun hh => ?_)
      obtain ⟨b8, o8, hob⟩ := hh
      refine .draws [3, 8] [arr 3 1 oa oc ((over ++ (l.take i).map (·.call)).flatMap icell), R] (by kernel_rfl) ?_
      refine .rp 0 rfl (by kernel_rfl) (by kernel_rfl) (by kernel_rfl) (Reads.pure (.move rfl)) ?_
      refine .rp 1 rfl (by kernel_rfl) (by kernel_rfl) (by kernel_rfl) (Reads.pure (.move rfl)) ?_
      refine .rp 2 rfl (by kernel_rfl) (by kernel_rfl) (by kernel_rfl) (Reads.pure (.indexAddr (b := b8) (o := o8) Tryd.underlying28 ts3 (by show some (Value.slice oa _ _) = _; rw [hob]) rfl (by omega) (by omega))) ?_
      refine .rd 3 rfl rfl (by kernel_rfl) (by kernel_rfl) (by kernel_rfl) (.load na3 rfl (Knows.one (i := 0) (Knows.elem (f := icell) icell_len (by decide) ((Knows.arr .head).mono fun _ h => hob ▸ h) hz) rfl)) (.cons .head (.cons .head .nil)) ?_
      refine .rp 4 rfl (by kernel_rfl) (by kernel_rfl) (by kernel_rfl) (Reads.pure (.move rfl)) ?_
      refine .rp 5 rfl (by kernel_rfl) (by kernel_rfl) (by kernel_rfl) (Reads.pure (.move rfl)) ?_
      refine .rp 6 rfl (by kernel_rfl) (by kernel_rfl) (by kernel_rfl) (Reads.pure (.indexAddr (b := b9) (o := o9) Tryd.underlying45 ts31 (by show some (Value.slice a _ _) = _; rw [hab]) rfl (by omega) (by omega))) ?_
      refine .rp 7 rfl (by kernel_rfl) (by kernel_rfl) (by kernel_rfl) (Reads.pure (.fieldAddr fd31_1 rfl)) ?_
      refine .rd 8 rfl rfl (by kernel_rfl) (by kernel_rfl) (by kernel_rfl) (.load na3 rfl (Knows.one (i := 1) (Knows.elem (f := Sn19.cells) Sn19.cells_len (by decide) (Knows.pick (.tail .head) (k.mono fun _ h => hab ▸ h)) hy) rfl)) (.cons .head (.cons .head .nil)) ?_
      refine .rp 9 rfl (by kernel_rfl) (by kernel_rfl) (by kernel_rfl) (Reads.pure (.eqI rfl rfl)) ?_
      refine .alter (t := 29) (v' := .bool false) rfl (congrArg Value.bool (decide_eq_false hne)) ?_
      refine .done (by kernel_rfl) ?_
      refine .condF rfl ?_
      refine .skip ?_
      refine .inBlock ?_
      refine .region ?_
      refine .rd (.move rfl) ?_
      refine .rd (.add rfl rfl (by omega) (by omega)) ?_
      refine .rd (.assign rfl) ?_
      refine .nil ?_
      exact (ih (j + 1) (by omega) (by omega)).to (.cons rfl (.cons rfl (.cons rfl (.cons rfl .nil)))) (.cons .head (.cons .head .nil))
    · refine .exit rfl ?_
      refine .seq ?_
      refine .seq ?_
      refine .region ?_
      refine .rd (.move rfl) ?_
      refine .rd (.move rfl) ?_
      refine .rd (.indexAddr (b := b9) (o := o9) Tryd.underlying45 ts31 (by show some (Value.slice a _ _) = _; rw [hab]) rfl (by omega) (by omega)) ?_
      refine .rd (.fieldAddr fd31_11 rfl) ?_
      refine .rd (.load na4 rfl (Knows.one (i := 11) (Knows.elem (f := Sn19.cells) Sn19.cells_len (by decide) (Knows.pick (.tail .head) (k.mono fun _ h => hab ▸ h)) hy) rfl)) ?_
      refine .rd (.not rfl) ?_
      refine .alter (t := 36) (v' := .bool false) rfl (congrArg Value.bool (by rw [hdn]; rfl)) ?_
      refine .rd (.move rfl) ?_
      refine .on (t := 37) rfl rfl ?_
      refine .rd (.move rfl) ?_
      refine .on (t := 37) rfl rfl ?_
      refine .rd (.move rfl) ?_
      refine .on (t := 37) rfl rfl ?_
      refine .rd (.indexAddr (b := b9) (o := o9) Tryd.underlying45 ts31 (by show some (Value.slice a _ _) = _; rw [hab]) rfl (by omega) (by omega)) ?_
      refine .on (t := 37) rfl rfl ?_
      refine .rd (.fieldAddr fd31_0 rfl) ?_
      refine .on (t := 37) rfl rfl ?_
      refine .rd (.load na3 rfl (Knows.one (i := 0) (Knows.elem (f := Sn19.cells) Sn19.cells_len (by decide) (Knows.pick (.tail .head) (k.mono fun _ h => hab ▸ h)) hy) rfl)) ?_
      refine .on (t := 37) rfl rfl ?_
      refine .rd (.neI rfl rfl) ?_
      refine .alter (t := 43) (v' := .bool false) rfl (congrArg Value.bool (by rw [hcli]; rfl)) ?_
      refine .rd (.pickF rfl rfl) ?_
      refine .nil ?_
      refine .condF rfl ?_
      refine .skip ?_
      refine .region ?_
      refine .rd (.move rfl) ?_
      refine .rd (.move rfl) ?_
      refine .rd (.move rfl) ?_
      refine .rd (.indexAddr (b := b9) (o := o9) Tryd.underlying45 ts31 (by show some (Value.slice a _ _) = _; rw [hab]) rfl (by omega) (by omega)) ?_
      refine .rd (.fieldAddr fd31_1 rfl) ?_
      refine .rd (.load na3 rfl (Knows.one (i := 1) (Knows.elem (f := Sn19.cells) Sn19.cells_len (by decide) (Knows.pick (.tail .head) (k.mono fun _ h => hab ▸ h)) hy) rfl)) ?_
      refine .ef (.buildOne (cs := icell y.call) Tryd.underlying28 ti3 (by decide) rfl rfl rfl (ones.of rfl)) ?_
      rintro _ _ ⟨bs, rfl, rfl⟩
      refine .ef (.append rfl rfl Tryd.underlying28 ti3 rfl (ones.of rfl) (by decide) (by decide) rfl rfl (.tail .head) (n := (over ++ (l.take i).map (·.call)).length) (m := 1) (flat_length icell_len _) (.srcBlk (ys := icell y.call) .head Tryd.underlying28 rfl (by decide)) (by simp only [List.length_append, List.length_map, List.length_take]; omega)) ?_
      rintro _ _ ⟨qa, qc, rfl, qn, rfl⟩
      refine .rd (.assign rfl) ?_
      refine .nil ?_
      refine .cast (X' := arr 3 1 qa qc ((over ++ (l.take (i + 1)).map (·.call)).flatMap icell)) (by rw [htk, List.flatMap_append]; simp) ?_
      refine .inBlock ?_
      refine .region ?_
      refine .rd (.move rfl) ?_
      refine .rd (.add rfl rfl (by omega) (by omega)) ?_
      refine .rd (.assign rfl) ?_
      refine .nil ?_
      exact (ih0 (i + 1, qa, qc) (by show i + 1 ≤ _; omega) (by show l.length - (i + 1) < l.length - i; omega)).to (.cons (by show some (Value.slice qa ((over ++ (l.take i).map (·.call)).length + 1) qc) = some (Value.slice qa _ qc); rw [htk]; exact congrArg (fun n => some (Value.slice qa n qc)) (@List.length_append _ (over ++ (l.take i).map (·.call)) [y.call]).symm) (.cons rfl (.cons rfl .nil))) (.cons .head (.cons (.tail .head) .nil))
  · obtain rfl : i = l.length := by omega
    rw [List.take_length]
    refine .exit rfl ?_
    refine .seq ?_
    refine .region ?_
    refine .rd (.move rfl) ?_
    refine .rd (.assign rfl) ?_
    refine .rd (.assign rfl) ?_
    refine .nil ?_
    refine .retP Tryd.func12 (.cons (.tmp rfl) (.cons (.tmp rfl) .nil)) (.cons .head (.cons .head .nil)) ?_
    exact ⟨[_], ⟨oa, oc, rfl, rfl⟩, rfl⟩

end Go.Proofs.YtankogdnhgmkhaaDoor


/- A separation logic over the given machine. Part 10: what a statement's arguments are, and a law's row out of its contract. -/
namespace Go.Sp
open Go Go.ChangeShapes Go.WideShapes Go.ChangeAt Go.RowKit

section
variable {H : Type} {enc : TypeId × Value → H} {P : Program} {W : World} {spare : Nat → Bool} {held : Bool}

/-- Every string, slice and map of a reading fits into memory. -/
def Fits (P : Program) (t : TypeId) (d : DataW H) : Prop := ∀ n ∈ d.weights P t, n ≤ 140737488351232

/-- What a reading of type t tells: its cells are those of one of α. -/
def Rd {α : Type} (enc : TypeId × Value → H) (P : Program) (W : World) (spare : Nat → Bool) (held : Bool) (t : TypeId) (cells : α → List Value) (good : α → Prop) : Prop :=
  ∀ (n : Nat) (cs : List Value) (x : DataW H × List MemPlace), DataW.trod enc P W 0 spare held n t cs = some x → Fits P t x.1 → ∃ a, cs = cells a ∧ good a

theorem Rd.int {t} {k : IntKind} (ht : P.underlying t = some (.int k)) : Rd enc P W spare held t (fun n : Int => [.int k n]) (fun n => (Lit.int k n).wf = true) := fun n cs x h _ => by
  obtain ⟨m, rfl, _, hw⟩ := DataW.trod_int ht h
  exact ⟨m, rfl, hw⟩
theorem Rd.bool {t} (ht : P.underlying t = some .bool) : Rd enc P W spare held t (fun b : Bool => [.bool b]) (fun _ => True) := fun n cs x h _ => by
  obtain ⟨m, rfl, _⟩ := DataW.trod_bool ht h
  exact ⟨m, rfl, trivial⟩
theorem Rd.string {t} (ht : P.underlying t = some .string) : Rd enc P W spare held t (fun s : ByteArray => [.string s]) (fun s => s.size ≤ 140737488351232) := fun n cs x h hf => by
  obtain ⟨s, rfl, rfl, _⟩ := DataW.trod_string ht h
  refine ⟨s, rfl, ?_⟩
  have := hf s.data.toList.length (by simp [DataW.weights])
  simpa using this

theorem weightsAll_mem {e : TypeId} {l : List (DataW H)} {d : DataW H} (hd : d ∈ l) {n : Nat} (hn : n ∈ d.weights P e) : n ∈ DataW.weightsAll P e l := by
  induction l with
  | nil => cases hd
  | cons y l ih =>
    rw [DataW.weightsAll, List.mem_append]
    rcases List.mem_cons.1 hd with rfl | h
    · exact .inl hn
    · exact .inr (ih h)
theorem weightsEach_mem {n : Nat} {t : TypeId} {d : DataW H} (hn : n ∈ d.weights P t) : ∀ {ts : List TypeId} {l : List (DataW H)} {i : Nat}, ts[i]? = some t → l[i]? = some d → n ∈ DataW.weightsEach P ts l
  | [], _, _, h, _ => by simp at h
  | _ :: _, [], _, _, h => by simp at h
  | u :: ts, y :: l, 0, h, k => by
    simp at h k; subst h k
    rw [DataW.weightsEach.eq_def]; simp only [List.mem_append]; exact .inl hn
  | u :: ts, y :: l, i + 1, h, k => by
    rw [DataW.weightsEach.eq_def]; simp only [List.mem_append]
    exact .inr (weightsEach_mem hn (ts := ts) (l := l) (i := i) (by simpa using h) (by simpa using k))

/-- One field of a struct. -/
theorem Rd.field {α : Type} {t ft : TypeId} {cells : α → List Value} {good : α → Prop} {fs : Array Field} {n : Nat} {cs : List Value} {x : DataW H × List MemPlace} (ht : P.underlying t = some (.struct fs))
    (h : DataW.trod enc P W 0 spare held n t cs = some x) (hf : Fits P t x.1) (i off sz : Nat) (hi : (fs[i]?).map (fun d => (d.type, d.offset)) = some (ft, off)) (hc : P.cellsOf ft = sz) (r : Rd enc P W spare held ft cells good) :
    ∃ a, (cs.drop off).take sz = cells a ∧ good a := by
  obtain ⟨xs, m, rfl, rfl, hl, hx, hall⟩ := DataW.trod_struct ht h
  cases hfi : fs[i]? with
  | none => simp [hfi] at hi
  | some f =>
    simp [hfi] at hi
    obtain ⟨rfl, rfl⟩ := hi
    have h1 := hall i f hfi
    rw [hc] at h1
    have hlt : i < xs.length := by rw [hx]; exact (Array.getElem?_eq_some_iff.1 hfi).1
    have h2 : xs[i]? = some xs[i] := List.getElem?_eq_getElem hlt
    rw [h2] at h1
    refine r m _ _ h1 fun w hw => hf w ?_
    rw [DataW.weights.eq_def]
    simp only [ht]
    exact weightsEach_mem hw (i := i) (by simp [hfi]) (by simp [h2])

theorem Rd.structLen {t : TypeId} {fs : Array Field} {n : Nat} {cs : List Value} {x : DataW H × List MemPlace} (ht : P.underlying t = some (.struct fs)) (h : DataW.trod enc P W 0 spare held n t cs = some x) : cs.length = P.cellsOf t := by
  obtain ⟨xs, m, rfl, rfl, hl, hx, hall⟩ := DataW.trod_struct ht h
  exact hl

theorem cons_of_len {l : List Value} {n : Nat} (h : l.length = n + 1) : ∃ a t, l = a :: t ∧ t.length = n := by
  cases l with
  | nil => simp at h
  | cons a t => exact ⟨a, t, rfl, by simpa using h⟩

/-- A slice. -/
theorem Rd.slice {α : Type} {t e : TypeId} {s by_ : Nat} {cells : α → List Value} {good : α → Prop} (ht : P.underlying t = some (.slice e)) (hs : P.cellsOf e = s) (hs0 : 0 < s) (hby : P.bytesOf e = by_) (hlen : ∀ a, (cells a).length = s) (hone : ∀ a, ones (cells a))
    (r : Rd enc P W spare held e cells good) :
    Rd enc P W spare held t (fun y : Option Addr × Nat × List α => [.slice y.1 y.2.2.length y.2.1]) (fun y => RowAt y.1 (y.2.2.flatMap cells) W ∧ (∀ a ∈ y.2.2, good a) ∧ y.2.2.length * by_ ≤ 140737488351232 ∧ (y.1 = none → y.2.2 = []) ∧ y.2.2.length ≤ y.2.1) := by
  intro n cs x h hf
  rcases DataW.trod_slice ht h with ⟨rfl, _⟩ | ⟨a, len, cap, elems, rest, m, rfl, rfl, rfl, _, hlc, hcm, hel, heach, _, _⟩
  · exact ⟨(none, 0, []), rfl, .inl rfl, fun _ h => (by cases h), by show 0 * by_ ≤ _; omega, fun _ => rfl, Nat.le_refl _⟩
  · have hw : DataW.weights P t (.slice (elems.map (·.1)) (rest.map (·.1))) = (elems.length + rest.length) * by_ :: (DataW.weightsAll P e (elems.map (·.1)) ++ DataW.weightsAll P e (rest.map (·.1))) := by
      rw [DataW.weights.eq_def]; simp only [ht, hby, List.length_map]
    have hb : len * by_ ≤ 140737488351232 := by
      have h1 := hf _ (by rw [hw]; exact List.mem_cons_self)
      have h2 : len * by_ ≤ (elems.length + rest.length) * by_ := Nat.mul_le_mul_right _ (by omega)
      omega
    have each : ∀ i : Fin len, ∃ y : α, W.cells? 0 (a.add (i * s)) s = some (cells y) ∧ good y := fun i => by
      have h1 := heach i i.2
      rw [hs] at h1
      have hi : (i : Nat) < elems.length := by omega
      rw [List.getElem?_eq_getElem hi, Option.bind_eq_some_iff] at h1
      obtain ⟨cs', hc, hd⟩ := h1
      obtain ⟨y, rfl, hy⟩ := r _ _ _ hd fun w hw' => hf w (by
        rw [hw]
        exact List.mem_cons_of_mem _ (List.mem_append_left _ (weightsAll_mem (List.mem_map_of_mem (List.getElem_mem hi)) hw')))
      exact ⟨y, hc, hy⟩
    let f : Fin len → α := fun i => (each i).choose
    have hf1 : ∀ i : Fin len, W.cells? 0 (a.add (i * s)) s = some (cells (f i)) := fun i => (each i).choose_spec.1
    have hf2 : ∀ i : Fin len, good (f i) := fun i => (each i).choose_spec.2
    have hll : (List.ofFn f).length = len := List.length_ofFn
    refine ⟨(some a, cap, List.ofFn f), by show _ = [Value.slice (some a) (List.ofFn f).length cap]; rw [hll], ?_, ?_, by show (List.ofFn f).length * by_ ≤ _; rw [hll]; exact hb, fun h => (by cases h), by show (List.ofFn f).length ≤ cap; rw [hll]; exact hlc⟩
    · by_cases h0 : len = 0
      · left
        have : List.ofFn f = [] := List.eq_nil_of_length_eq_zero (by rw [hll, h0])
        rw [this]; rfl
      · right
        obtain ⟨_, _, hc0⟩ := World.cells?_some (hf1 ⟨0, by omega⟩)
        have hsp : a.spot = none := by
          have := hc0 0 hs0
          simp only [Nat.zero_mul] at this
          have hz : (cells (f ⟨0, by omega⟩))[0]? = some ((cells (f ⟨0, by omega⟩))[0]'(by rw [hlen]; exact hs0)) := List.getElem?_eq_getElem _
          rw [hz] at this
          simp only [Addr.add, if_true, World.cell?] at this
          split at this
          · split at this
            · cases this
            · simpa using ‹¬ a.spot.isSome = true›
          · cases this
        obtain ⟨b, o, sp⟩ := a
        cases hsp
        refine ⟨b, o, rfl, fun i v hv => ?_, ones.flatMap _ fun y _ => hone y⟩
        have hil : i < (List.ofFn f).length * s := by
          have := (List.getElem?_eq_some_iff.1 hv).1
          rwa [flat_length hlen] at this
        have hq : i / s < len := by rw [← hll]; exact Nat.div_lt_of_lt_mul (by rw [Nat.mul_comm]; exact hil)
        have hr : i % s < s := Nat.mod_lt _ hs0
        have hx : (List.ofFn f)[i / s]? = some (f ⟨i / s, hq⟩) := by rw [List.getElem?_ofFn]; simp [hq]
        obtain ⟨_, _, hc⟩ := World.cells?_some (hf1 ⟨i / s, hq⟩)
        have h1 := hc (i % s) hr
        have hv' : (cells (f ⟨i / s, hq⟩))[i % s]? = some v := by
          have hz : (cells (f ⟨i / s, hq⟩))[i % s]? = some ((cells (f ⟨i / s, hq⟩))[i % s]'(by rw [hlen]; exact hr)) := List.getElem?_eq_getElem _
          have h2 := flat_at hlen _ _ _ hx _ _ hz
          rw [show i / s * s + i % s = i by rw [Nat.mul_comm]; exact Nat.div_add_mod i s] at h2
          rw [h2] at hv
          rw [hz]; exact hv
        rw [hv'] at h1
        rw [Addr_add, Addr_add] at h1
        rw [← h1]
        congr 2
        have := Nat.div_add_mod i s
        rw [Nat.mul_comm] at this
        show o + i = o + i / s * s + i % s
        omega
    · intro y hy
      obtain ⟨i, rfl⟩ := List.mem_ofFn.1 hy
      exact hf2 i

end

theorem okWide_agg {P : Program} {w : World} {r : Reach} {b0 : Nat} {t : TypeId} {fs : Array Field} {v : Value} (ht : P.underlying t = some (.struct fs)) (h : Value.okWide P w r b0 t v) : ∃ cs, v = .agg cs := by
  unfold Value.okWide at h
  rw [ht] at h
  obtain ⟨cs, e, _⟩ := h
  exact ⟨cs, e⟩

/-! ### The row -/

theorem Sat.below {W w' : World} {Γ : List SProp} (h : Sat (amb W) w' (Sp.base W :: Γ)) : Below W.heap.size W w' := by
  have hb : ∀ (k : Nat) (o : Obj), W.heap[k]? = some o → w'.heap[k]? = some o := fun k o hk => h.base k o hk
  obtain ⟨ha, _⟩ := h
  refine ⟨congrArg Amb.os ha, congrArg Amb.tape ha, congrArg Amb.output ha, ?_, fun k hk => ?_⟩
  · by_cases h0 : W.heap.size = 0
    · omega
    · have hlt : W.heap.size - 1 < W.heap.size := by omega
      have h1 := hb (W.heap.size - 1) _ (Array.getElem?_eq_getElem hlt)
      have := (Array.getElem?_eq_some_iff.1 h1).1
      omega
  · have h1 : W.heap[k]? = some W.heap[k] := Array.getElem?_eq_getElem hk
    rw [hb k _ h1, h1]

/-- A law that is proved by a contract: from the memory at the start. -/
theorem Cn.law {P f} {args : List Value} {φ : World → Prop} {W : World} (h : Cn P f args φ [] fun v G => v = .bool true ∧ G = []) (hφ : ∀ w : World, (∀ (b : Nat) (o : Obj), W.heap[b]? = some o → w.heap[b]? = some o) → φ w) :
    Calls P f args.toArray W fun e w' => e = .returned (.bool true) ∧ Below W.heap.size W w' := by
  have h1 := (h (base W) fun A w s => hφ w fun b o hb => s.base b o hb).runs (amb W) [] W (by simpa using Sat.start W)
  refine h1.mono ?_
  rintro e w' ⟨v, Γ', rfl, ⟨Γ1, ⟨rfl, rfl⟩, rfl⟩, s⟩
  exact ⟨rfl, s.below⟩

/-- The same, with what the arguments tell known for good. -/
theorem Cn.lawK {P f} {args : List Value} {φ : World → Prop} {W : World} (h : Cn P f args (fun _ => True) [know φ] fun v G => v = .bool true ∧ G = []) (hφ : ∀ w : World, (∀ (b : Nat) (o : Obj), W.heap[b]? = some o → w.heap[b]? = some o) → φ w) :
    Calls P f args.toArray W fun e w' => e = .returned (.bool true) ∧ Below W.heap.size W w' := by
  have hs : Sat (amb W) W (([know φ] ++ [base W]) ++ []) := by
    have h1 : Sat (amb W) W ([base W] ++ [base W]) := (Sat.start W).map fun _ s => sat.base_dup s
    refine Sat.close (fun h s => ?_) h1
    obtain ⟨k, _, _, l, _, s, _⟩ := s
    obtain ⟨j, jl, jr, e⟩ := sat.base_know hφ s
    exact ⟨j, jl.trans l, jr, e⟩
  refine ((h (base W) fun _ _ _ => trivial).runs (amb W) [] W hs).mono ?_
  rintro e w' ⟨v, Γ', rfl, ⟨Γ1, ⟨rfl, rfl⟩, rfl⟩, s⟩
  exact ⟨rfl, s.below⟩

theorem RowAt.later {W w : World} (H : ∀ (b : Nat) (o : Obj), W.heap[b]? = some o → w.heap[b]? = some o) {a cs} (h : RowAt a cs W) : RowAt a cs w := by
  rcases h with h | ⟨b, o, e, h⟩
  · exact .inl h
  · refine .inr ⟨b, o, e, fun i v hv => ?_, h.2⟩
    have h1 := h.1 i v hv
    unfold World.cell? at h1 ⊢
    cases hb : W.heap[b]? with
    | none => simp [hb] at h1
    | some ob => rw [hb] at h1; rw [H b ob hb]; exact h1

end Go.Sp

/- Chapter 19: what may change something is not asked again unless it was refused, in plain Lean; steps of a script. -/
namespace Go.Proofs.YtankogdnhgmkhaaDoor
open Go Go.Sp

structure MX where
  m0 : Int
  m1 : Int
  m2 : Int
  m3 : Int
  m4 : Int
  m5 : Int
  m6 : Int
  m7 : Int
  m8 : Int
  m9 : Int
  m10 : Int
  m11 : Int
  m12 : Int
  m13 : Int
  m14 : Int
  err : Int
  nm : List UInt8
  tx : List UInt8
  b : Sl19
  e : Sl19
  i : Sl19
def MX.cells (m : MX) : List Value := [.int .i64 m.m0, .int .i64 m.m1, .int .i64 m.m2, .int .i64 m.m3, .int .i64 m.m4, .int .i64 m.m5, .int .i64 m.m6, .int .i64 m.m7, .int .i64 m.m8, .int .i64 m.m9, .int .i64 m.m10, .int .i64 m.m11, .int .i64 m.m12, .int .i64 m.m13, .int .i64 m.m14, .int .i64 m.err, .string (str m.nm), .string (str m.tx), .slice m.b.1 m.b.2.1 m.b.2.2, .slice m.e.1 m.e.2.1 m.e.2.2, .slice m.i.1 m.i.2.1 m.i.2.2]
structure OpX where
  kind : Int
  forth : Int
  s : Sn19
  m : MX
  fits : Bool
def OpX.cells (x : OpX) : List Value := [.int .i64 x.kind, .int .i64 x.forth] ++ x.s.cells ++ x.m.cells ++ [.bool x.fits]
theorem OpX.cells_len (x : OpX) : x.cells.length = 36 := rfl
theorem OpX.cells_ones (x : OpX) : ones x.cells := .of rfl
def i64 (n : Int) : Prop := -9223372036854775808 ≤ n ∧ n ≤ 9223372036854775807
structure OpX.good (x : OpX) : Prop where
  kind : i64 x.kind
  forth : i64 x.forth
  off : i64 x.s.offset
  name : x.s.name.length ≤ 140737488351232
  text : x.s.text.length ≤ 140737488351232
/-- A commit's message. -/
def IsCm (m : Mg19) : Prop := m.kind = 23 ∧ m.index = 3 ∧ m.ints.2.1 = 1
structure OI (s : CS19) (r : Bool) : Prop where
  pi : PI s
  one : s.open_.length ≤ 1
  com : ∀ x ∈ s.open_, x.s.kind = 4 ∧ IsCm x.m ∧ (x.refused = true → r = true)
theorem may_cq {off : Int} (h : 0 ≤ off ∧ off ≤ 50) : may19 (cq off) = true := by
  unfold may19 number19 cq
  have : off ≤ 1000000000 := by omega
  simp [h, this]
theorem OI.call {s : CS19} {r : Bool} (h : OI s r) (he : s.open_ = []) {off : Int} (ho : 0 ≤ off ∧ off ≤ 50) (hc : s.calls < 1000000) (now : Int) {z : Sl19} (hz : z.2.1 = 1) :
    OI (callS s now (cq off) z) false ∧ IsCm (askC s now (newC s (cq off) z)).m ∧ (callS s now (cq off) z).ended = s.ended ∧ (callS s now (cq off) z).calls = s.calls + 1 := by
  have hm : IsCm (askC s now (newC s (cq off) z)).m := ⟨rfl, rfl, hz⟩
  refine ⟨⟨h.pi.call (may_cq ho) (by rw [he]; decide) hc now z, by show (s.open_ ++ [_]).length ≤ 1; rw [he]; exact Nat.le_refl _, fun x hx => ?_⟩, hm, rfl, rfl⟩
  have hx : x ∈ s.open_ ++ [askC s now (newC s (cq off) z)] := hx
  rw [he] at hx
  rw [List.mem_singleton.1 hx]
  exact ⟨rfl, hm, fun h => by cases h⟩
theorem OI.tick {s : CS19} {r : Bool} (h : OI s r) (now : Int) : (tick s now).2.length ≤ 1 ∧ ((tick s now).2 ≠ [] → r = true) ∧ (∀ m ∈ (tick s now).2, IsCm m) ∧ OI (tick s now).1 (if (tick s now).2 = [] then r else false) := by
  have hp := h.pi.tick now
  have hc := h.com
  match ho : s.open_, h.one with
  | [], _ =>
    have e : Go.Proofs.YtankogdnhgmkhaaDoor.tick s now = ({ s with open_ := [] }, []) := by unfold Go.Proofs.YtankogdnhgmkhaaDoor.tick; rw [ho]; rfl
    rw [e] at hp ⊢
    exact ⟨Nat.zero_le 1, fun h => absurd rfl h, fun m hm => by (cases hm), ⟨hp, Nat.zero_le 1, fun x hx => by cases hx⟩⟩
  | [x], _ =>
    have hx := hc x (by rw [ho]; exact .head _)
    have e : Go.Proofs.YtankogdnhgmkhaaDoor.tick s now = ({ (due s now x).1 with open_ := if (due s now x).2.2.1 then [] else [(due s now x).2.1] }, (due s now x).2.2.2.toList ++ []) := by unfold Go.Proofs.YtankogdnhgmkhaaDoor.tick; rw [ho]; rfl
    rw [e] at hp ⊢
    dsimp only
    rw [List.append_nil]
    by_cases h1 : now < x.deadline
    · rw [due_no h1] at hp ⊢
      refine ⟨Nat.zero_le 1, fun h => absurd rfl h, fun m hm => by (cases hm), ⟨hp, Nat.le_refl 1, fun y hy => ?_⟩⟩
      rw [List.mem_singleton.1 hy]; exact hx
    · by_cases h2 : x.tries = 0 ∨ (harm x.s.kind = false ∧ x.refused = false)
      · rw [due_end h1 h2] at hp ⊢
        exact ⟨Nat.zero_le 1, fun h => absurd rfl h, fun m hm => by (cases hm), ⟨hp, Nat.zero_le 1, fun y hy => by cases hy⟩⟩
      · rw [due_ask h1 h2] at hp ⊢
        have hr : x.refused = true := by
          cases hh : x.refused with
          | true => rfl
          | false => exact absurd (.inr ⟨by rw [hx.1]; rfl, hh⟩) h2
        refine ⟨Nat.le_refl _, fun _ => hx.2.2 hr, fun m hm => ?_, ⟨hp, Nat.le_refl _, fun y hy => ?_⟩⟩
        · rw [List.mem_singleton.1 hm]; exact hx.2.1
        · rw [List.mem_singleton.1 hy]; exact ⟨hx.1, hx.2.1, fun h => by cases h⟩
  | _ :: _ :: _, h => simp at h
/-- When a step may have refused. -/
def Refuses (s t : CS19) (err : Int) : Bool := decide (t.open_.length = s.open_.length) && decide (0 < s.open_.length) && (decide (err = 15) || decide (err = 22) || decide (err = 19))
theorem OI.weak {s : CS19} {r : Bool} (h : OI s r) (b : Bool) : OI s (r || b) := { h with com := fun x hx => by obtain ⟨h1, h2, h3⟩ := h.com x hx; exact ⟨h1, h2, fun e => by rw [h3 e]; rfl⟩ }
theorem OI.step {s : CS19} {r : Bool} (h : OI s r) (now : Int) (m : An19) : OI (step s now m) (r || Refuses s (step s now m) m.err) := by
  have hp := (h.pi.step now m).1
  have hl := (h.pi.step now m).2.2.2
  have hone := h.one
  cases hf : s.open_.findIdx? (fits19 s m) with
  | none =>
    have e : Go.Proofs.YtankogdnhgmkhaaDoor.step s now m = s := by unfold Go.Proofs.YtankogdnhgmkhaaDoor.step; rw [hf]
    rw [e]; exact h.weak _
  | some i =>
    have hi := (List.findIdx?_eq_some_iff_getElem.1 hf).1
    obtain ⟨x, hx⟩ : ∃ x, s.open_[i]? = some x := ⟨_, List.getElem?_eq_getElem hi⟩
    have e : Go.Proofs.YtankogdnhgmkhaaDoor.step s now m = stepAt s now m i x := by unfold Go.Proofs.YtankogdnhgmkhaaDoor.step; rw [hf]; dsimp only; rw [hx]
    have hcx := h.com x (List.mem_of_getElem? hx)
    rw [e] at hp hl ⊢
    refine ⟨hp, by omega, fun y hy => ?_⟩
    have hset : ∀ (l : List Cl19) (d : Int), (stepAt s now m i x).open_ = s.open_.set i { x with deadline := d, refused := true } → (m.err = 15 ∨ m.err = 22 ∨ m.err = 19) → y ∈ s.open_.set i { x with deadline := d, refused := true } → y.s.kind = 4 ∧ IsCm y.m ∧ (y.refused = true → (r || Refuses s (stepAt s now m i x) m.err) = true) := fun _ d ho herr hy => by
      have hrf : Refuses s (stepAt s now m i x) m.err = true := by
        unfold Refuses
        rw [ho, List.length_set]
        simp
        exact ⟨by omega, by rcases herr with h | h | h <;> simp [h]⟩
      rw [hrf, Bool.or_true]
      rcases List.mem_or_eq_of_mem_set hy with hy | hy
      · obtain ⟨a, b, _⟩ := h.com y hy; exact ⟨a, b, fun _ => rfl⟩
      · rw [hy]; exact ⟨hcx.1, hcx.2.1, fun _ => rfl⟩
    by_cases h1 : m.err = 15 ∨ m.err = 22
    · have e2 := stepAt_led (s := s) (now := now) (i := i) (x := x) h1
      by_cases h3 : 0 ≤ idxOf s.brokers m.last
      · have e3 : (stepAt s now m i x).open_ = s.open_.set i { x with deadline := now + 1, refused := true } := by rw [e2]; unfold led; rw [if_pos h3]
        exact hset [] _ e3 (by omega) (e3 ▸ hy)
      · have e3 : (stepAt s now m i x).open_ = s.open_.set i { x with deadline := now + s.wait, refused := true } := by rw [e2]; unfold led; rw [if_neg h3]
        exact hset [] _ e3 (by omega) (e3 ▸ hy)
    · by_cases h2 : (m.err = 19 ∧ x.m.kind = 23) ∨ (m.err = 3 ∧ x.s.kind = 7)
      · have e3 : (stepAt s now m i x).open_ = s.open_.set i { x with deadline := now + s.wait, refused := true } := by rw [stepAt_wait h1 h2]
        refine hset [] _ e3 ?_ (e3 ▸ hy)
        rcases h2 with h2 | h2
        · exact .inr (.inr h2.1)
        · have := hcx.1; omega
      · have e3 : (stepAt s now m i x).open_ = s.open_.eraseIdx i := by rw [stepAt_end h1 h2]; rfl
        rw [e3] at hy
        obtain ⟨a, b, c⟩ := h.com y (List.mem_of_mem_eraseIdx hy)
        exact ⟨a, b, fun e => by rw [c e]; rfl⟩
end Go.Proofs.YtankogdnhgmkhaaDoor

/- Chapter 19: each call ends once, and in time, in plain Lean. -/
namespace Go.Proofs.YtankogdnhgmkhaaDoor
open Go Go.Sp

def callN (s : Sn19) : Int := s.call
def nums (s : CS19) : List Int := s.ended.map (·.call) ++ s.open_.map (·.n)
theorem told_keep (s : Sn19) (m : An19) : (told19 s m).call = s.call ∧ (told19 s m).done = s.done ∧ (told19 s m).client = s.client := by
  unfold told19
  repeat' split
  all_goals exact ⟨rfl, rfl, rfl⟩
theorem ended_keep (s : CS19) (x : Cl19) (err : Int) (m : An19) : (ended19 s x err m).call = x.n ∧ (ended19 s x err m).done = true ∧ (ended19 s x err m).client = s.id := by
  unfold ended19
  split
  · exact told_keep _ m
  · exact ⟨rfl, rfl, rfl⟩
theorem tickL_ei (now : Int) : ∀ (l : List Cl19) (s : CS19), ∃ E : List Sn19, (tickL now s l).1.ended = s.ended ++ E ∧ (E.map (·.call) ++ (tickL now s l).2.1.map (·.n)).Perm (l.map (·.n)) ∧ (∀ e ∈ E, e.done = true ∧ e.client = s.id) ∧
    (∀ c ∈ (tickL now s l).2.1, ∃ x ∈ l, (c = x ∧ now < x.deadline) ∨ (¬ now < x.deadline ∧ x.tries ≠ 0 ∧ c.tries = x.tries - 1 ∧ c.deadline = now + s.wait)) ∧
    (∀ m ∈ (tickL now s l).2.2, ∃ x ∈ l, m.kind = x.m.kind) ∧ (tickL now s l).2.2.length ≤ l.length
  | [], s => ⟨[], by simp [tickL], .refl _, fun _ h => (by cases h), fun _ h => (by cases h), fun _ h => (by cases h), Nat.le_refl _⟩
  | x :: l, s => by
    obtain ⟨E, h1, h2, h3, h4, h5, h6⟩ := tickL_ei now l (due s now x).1
    obtain ⟨_, _, _, k4, k5, _, _⟩ := due_keep s now x
    rw [k4] at h3
    rw [k5] at h4
    rw [tickL]
    dsimp only
    by_cases hd : now < x.deadline
    · rw [due_no hd] at h1 h2 h4 h5 h6 ⊢
      refine ⟨E, h1, ?_, h3, ?_, ?_, ?_⟩
      · rw [if_neg Bool.false_ne_true, List.map_cons, List.map_cons]
        exact List.perm_middle.trans (h2.cons _)
      · intro c hc
        rw [if_neg Bool.false_ne_true] at hc
        rcases List.mem_cons.1 hc with rfl | hc
        · exact ⟨c, .head _, .inl ⟨rfl, hd⟩⟩
        · obtain ⟨y, hy, h⟩ := h4 c hc; exact ⟨y, .tail _ hy, h⟩
      · intro m hm
        obtain ⟨y, hy, h⟩ := h5 m (by simpa using hm); exact ⟨y, .tail _ hy, h⟩
      · simp only [Option.toList_none, List.nil_append, List.length_cons]; exact Nat.le_succ_of_le h6
    · by_cases he : x.tries = 0 ∨ (harm x.s.kind = false ∧ x.refused = false)
      · rw [due_end hd he] at h1 h2 h4 h5 h6 ⊢
        refine ⟨ended19 s x 21 none19 :: E, ?_, ?_, ?_, ?_, ?_, ?_⟩
        · show _ = s.ended ++ ([_] ++ E)
          rw [h1, ← List.append_assoc]; rfl
        · rw [if_pos rfl, List.map_cons, List.map_cons, List.cons_append, (ended_keep s x 21 none19).1]
          exact h2.cons _
        · intro e he
          rcases List.mem_cons.1 he with rfl | he
          · exact (ended_keep s x 21 none19).2
          · exact h3 e he
        · intro c hc
          rw [if_pos rfl] at hc
          obtain ⟨y, hy, h⟩ := h4 c hc; exact ⟨y, .tail _ hy, h⟩
        · intro m hm
          obtain ⟨y, hy, h⟩ := h5 m (by simpa using hm); exact ⟨y, .tail _ hy, h⟩
        · simp only [Option.toList_none, List.nil_append, List.length_cons]; exact Nat.le_succ_of_le h6
      · rw [due_ask hd he] at h1 h2 h4 h5 h6 ⊢
        have hms : (askS (moved s x)).ended = s.ended ∧ (moved s x).wait = s.wait := by obtain ⟨a, e⟩ := moved_eq s x; rw [e]; exact ⟨rfl, rfl⟩
        rw [hms.1] at h1
        refine ⟨E, h1, ?_, h3, ?_, ?_, ?_⟩
        · rw [if_neg Bool.false_ne_true, List.map_cons, List.map_cons]
          exact List.perm_middle.trans (h2.cons _)
        · intro c hc
          rw [if_neg Bool.false_ne_true] at hc
          rcases List.mem_cons.1 hc with rfl | hc
          · exact ⟨x, .head _, .inr ⟨hd, fun e => he (.inl e), rfl, by show now + (moved s x).wait = _; rw [hms.2]⟩⟩
          · obtain ⟨y, hy, h⟩ := h4 c hc; exact ⟨y, .tail _ hy, h⟩
        · intro m hm
          rcases List.mem_append.1 hm with hm | hm
          · rw [List.mem_singleton.1 hm]; exact ⟨x, .head _, rfl⟩
          · obtain ⟨y, hy, h⟩ := h5 m hm; exact ⟨y, .tail _ hy, h⟩
        · simp only [Option.toList_some, List.length_append, List.length_cons, List.length_nil] at h6 ⊢; omega
structure EI (s : CS19) (over : List Int) (now k : Int) : Prop where
  pi : PI s
  fix_ : s.id = 101 ∧ s.wait = 10 ∧ s.tries = 3
  nodup : (over ++ nums s).Nodup
  le : ∀ j ∈ over ++ nums s, 1 ≤ j ∧ j ≤ s.calls
  count : (over.length : Int) + s.ended.length + s.open_.length = s.calls
  done : ∀ e ∈ s.ended, e.done = true ∧ e.client = 101
  time : ∀ c ∈ s.open_, c.deadline ≤ now + 10 ∧ c.tries ≤ k
theorem EI.call {s over now} (h : EI s over now 2) {q : Sn19} (hm : may19 q = true) (ho : s.open_.length < 20) (hc : s.calls < 1000000) (z : Sl19) : EI (callS s now q z) over now 2 := by
  have hn : nums (callS s now q z) = nums s ++ [s.calls + 1] := by unfold nums; show s.ended.map _ ++ (s.open_ ++ [_]).map _ = _; rw [List.map_append, ← List.append_assoc]; rfl
  refine ⟨h.pi.call hm ho hc now z, h.fix_, ?_, ?_, ?_, h.done, ?_⟩
  · rw [hn, ← List.append_assoc, List.nodup_append]
    refine ⟨h.nodup, by simp, fun a ha b hb => ?_⟩
    have := h.le a ha
    rw [List.mem_singleton.1 hb]; omega
  · intro j hj
    rw [hn, ← List.append_assoc] at hj
    have hc0 := h.pi.pb.calls.1
    rcases List.mem_append.1 hj with hj | hj
    · have := h.le j hj; exact ⟨this.1, by show j ≤ s.calls + 1; omega⟩
    · rw [List.mem_singleton.1 hj]; exact ⟨by omega, Int.le_refl _⟩
  · show (over.length : Int) + s.ended.length + (s.open_ ++ [_]).length = s.calls + 1
    rw [List.length_append]; have := h.count; simp; omega
  · intro c hc
    rcases List.mem_append.1 hc with hc | hc
    · exact h.time c hc
    · rw [List.mem_singleton.1 hc]
      obtain ⟨_, h2, h3⟩ := h.fix_
      exact ⟨by show now + s.wait ≤ _; omega, by show s.tries - 1 ≤ 2; omega⟩
theorem EI.tick {s over now k} (h : EI s over now k) {now' : Int} (hn : now ≤ now') : EI (Go.Proofs.YtankogdnhgmkhaaDoor.tick s now').1 over now' k ∧ (now' = now + 10 → ∀ c ∈ (Go.Proofs.YtankogdnhgmkhaaDoor.tick s now').1.open_, c.tries ≤ k - 1 ∧ 0 < k) := by
  obtain ⟨E, h1, h2, h3, h4, _, _⟩ := tickL_ei now' s.open_ s
  obtain ⟨t1, t2, t3, t4, t5, t6, t7, t8⟩ := tickL_pi now' s.open_ s h.pi.pb h.pi.po
  have hen : (Go.Proofs.YtankogdnhgmkhaaDoor.tick s now').1.ended = s.ended ++ E := h1
  have hop : (Go.Proofs.YtankogdnhgmkhaaDoor.tick s now').1.open_ = (tickL now' s s.open_).2.1 := rfl
  have hp : (nums (Go.Proofs.YtankogdnhgmkhaaDoor.tick s now').1).Perm (nums s) := by
    unfold nums
    rw [hen, hop, List.map_append, List.append_assoc]
    exact h2.append_left _
  obtain ⟨f1, f2, f3⟩ := h.fix_
  have hcalls : (Go.Proofs.YtankogdnhgmkhaaDoor.tick s now').1.calls = s.calls := t5
  refine ⟨⟨h.pi.tick now', ⟨t8.trans f1, t6.trans f2, t7.trans f3⟩, ?_, ?_, ?_, ?_, ?_⟩, ?_⟩
  · exact (hp.append_left over).nodup_iff.2 h.nodup
  · intro j hj
    rw [hcalls]
    exact h.le j ((hp.append_left over).mem_iff.1 hj)
  · have hl := hp.length_eq
    unfold nums at hl
    simp only [List.length_append, List.length_map] at hl
    rw [hcalls]; have := h.count; omega
  · intro e he
    rw [hen] at he
    rcases List.mem_append.1 he with he | he
    · exact h.done e he
    · obtain ⟨a, b⟩ := h3 e he; exact ⟨a, b.trans f1⟩
  · intro c hc
    obtain ⟨x, hx, hd⟩ := h4 c hc
    have := h.time x hx
    rcases hd with ⟨rfl, hd⟩ | ⟨_, _, a, b⟩
    · omega
    · rw [f2] at b; omega
  · intro he c hc
    obtain ⟨x, hx, hd⟩ := h4 c hc
    have := h.time x hx
    have hp0 := (h.pi.po x hx).1
    rcases hd with ⟨rfl, hd⟩ | ⟨_, a, b, _⟩ <;> omega
theorem tick_msgs {s : CS19} (h : PI s) (now : Int) : (∀ m ∈ (tick s now).2, 0 ≤ m.kind ∧ m.kind ≤ 28) ∧ (tick s now).2.length ≤ 20 := by
  obtain ⟨E, _, _, _, _, h5, h6⟩ := tickL_ei now s.open_ s
  refine ⟨fun m hm => ?_, Nat.le_trans h6 h.pb.opn⟩
  obtain ⟨x, hx, e⟩ := h5 m hm
  have := (h.po x hx).2.2
  rw [e]; omega
theorem map_set_n {l : List Cl19} {i : Nat} {x y : Cl19} (h : l[i]? = some x) (e : y.n = x.n) : (l.set i y).map (·.n) = l.map (·.n) := by
  rw [List.map_set]; exact set_self (by rw [List.getElem?_map, h, e]; rfl)
theorem EI.set {s over now k} (h : EI s over now k) {i : Nat} {x y : Cl19} (hx : s.open_[i]? = some x) (hn : y.n = x.n) (h1 : y.tries = x.tries) (h2 : y.s = x.s) (h3 : y.m = x.m) (hd : y.deadline ≤ now + 10) (a : List (Int × Int)) : EI { s with aims := a, open_ := s.open_.set i y } over now k := by
  have hnu : nums { s with aims := a, open_ := s.open_.set i y } = nums s := by unfold nums; dsimp only; rw [map_set_n hx hn]
  refine ⟨h.pi.set hx h1 h2 h3 a, h.fix_, by rw [hnu]; exact h.nodup, by rw [hnu]; exact h.le, by show (over.length : Int) + s.ended.length + (s.open_.set i y).length = s.calls; rw [List.length_set]; exact h.count, h.done, fun c hc => ?_⟩
  rcases List.mem_or_eq_of_mem_set hc with hc | hc
  · exact h.time c hc
  · rw [hc, h1]; exact ⟨hd, (h.time x (List.mem_of_getElem? hx)).2⟩
theorem EI.step {s over now k} (h : EI s over now k) (m : An19) : EI (step s now m) over now k := by
  have hpi := (h.pi.step now m).1
  cases hf : s.open_.findIdx? (fits19 s m) with
  | none =>
    have e : Go.Proofs.YtankogdnhgmkhaaDoor.step s now m = s := by unfold Go.Proofs.YtankogdnhgmkhaaDoor.step; rw [hf]
    rw [e]; exact h
  | some i =>
    have hi := (List.findIdx?_eq_some_iff_getElem.1 hf).1
    obtain ⟨x, hx⟩ : ∃ x, s.open_[i]? = some x := ⟨_, List.getElem?_eq_getElem hi⟩
    have e : Go.Proofs.YtankogdnhgmkhaaDoor.step s now m = stepAt s now m i x := by unfold Go.Proofs.YtankogdnhgmkhaaDoor.step; rw [hf]; dsimp only; rw [hx]
    rw [e] at hpi ⊢
    obtain ⟨f1, f2, f3⟩ := h.fix_
    unfold stepAt at hpi ⊢
    split
    · unfold led
      split
      · exact h.set (y := { x with deadline := now + 1, refused := true }) hx rfl rfl rfl rfl (by show now + 1 ≤ _; omega) _
      · exact h.set (y := { x with deadline := now + s.wait, refused := true }) hx rfl rfl rfl rfl (by show now + s.wait ≤ _; omega) _
    · split
      · exact h.set (y := { x with deadline := now + s.wait, refused := true }) hx rfl rfl rfl rfl (by show now + s.wait ≤ _; omega) s.aims
      · rename_i h1 h2
        rw [if_neg h1, if_neg h2] at hpi
        have hk := ended_keep { s with open_ := s.open_.eraseIdx i } x m.err m
        have hp : (nums (endS { s with open_ := s.open_.eraseIdx i } x m.err m)).Perm (nums s) := by
          unfold nums endS
          dsimp only
          rw [List.map_append, List.append_assoc]
          refine List.Perm.append_left _ ?_
          rw [List.map_cons, hk.1]
          exact ((perm_out hx).map (·.n)).symm
        refine ⟨hpi, h.fix_, (hp.append_left over).nodup_iff.2 h.nodup, fun j hj => h.le j ((hp.append_left over).mem_iff.1 hj), ?_, fun e he => ?_, fun c hc => h.time c (List.mem_of_mem_eraseIdx hc)⟩
        · have hl := hp.length_eq
          unfold nums at hl
          simp only [List.length_append, List.length_map] at hl
          have hc := h.count
          show _ = s.calls
          omega
        · rcases List.mem_append.1 he with he | he
          · exact h.done e he
          · rw [List.mem_singleton.1 he]; exact ⟨hk.2.1, hk.2.2.trans f1⟩
theorem EI.tell {s over now k} (h : EI s over now k) : EI (done19 s) (over ++ s.ended.map (·.call)) now k := by
  have e : (over ++ s.ended.map (·.call)) ++ nums (done19 s) = over ++ nums s := by unfold nums done19; dsimp only; rw [List.append_assoc, List.map_nil, List.nil_append]
  refine ⟨h.pi.done, h.fix_, by rw [e]; exact h.nodup, by rw [e]; exact h.le, ?_, fun _ he => (by cases he), h.time⟩
  show ((over ++ _).length : Int) + (0 : Nat) + s.open_.length = s.calls
  rw [List.length_append, List.length_map]; have := h.count; omega
theorem EI.fresh {s over now k} (h : EI s over now k) {i : Nat} {e : Sn19} (he : s.ended[i]? = some e) : ∀ j ∈ over ++ (s.ended.take i).map (·.call), j ≠ e.call := by
  intro j hj hje
  have hn := h.nodup
  unfold nums at hn
  rw [← List.append_assoc] at hn
  have hn := (List.nodup_append.1 hn).1
  have hsp : s.ended = s.ended.take i ++ e :: s.ended.drop (i + 1) := by
    obtain ⟨hi, e2⟩ := List.getElem?_eq_some_iff.1 he
    rw [← e2, List.getElem_cons_drop, List.take_append_drop]
  rw [hsp, List.map_append, List.map_cons, ← List.append_assoc] at hn
  have := (List.nodup_append.1 hn).2.2 j hj e.call (.head _)
  exact this hje
end Go.Proofs.YtankogdnhgmkhaaDoor

namespace Go.Proofs.YtankogdnhgmkhaaDoor
open Go Go.Sp

set_option linter.unusedVariables false

namespace con22
theorem ti3 : TI Tryd.prog 3 1 8 (.int .i64 0) := .of (by kernel_rfl)
theorem ts37 : TS Tryd.prog 37 36 := .of (by kernel_rfl)
theorem ia37 : IsAgg Tryd.prog 37 := ⟨_, Tryd.underlying37, trivial⟩
theorem ti37 : TI Tryd.prog 37 36 368 (.agg #[.int .i64 0, .int .i64 0, .int .i64 0, .int .i64 0, .int .i64 0, .int .i64 0, .int .i64 0, .int .i64 0, .int .i64 0, .int .i64 0, .string ⟨#[]⟩, .string ⟨#[]⟩, .int .i64 0, .bool false, .int .i64 0, .int .i64 0, .int .i64 0, .int .i64 0, .int .i64 0, .int .i64 0, .int .i64 0, .int .i64 0, .int .i64 0, .int .i64 0, .int .i64 0, .int .i64 0, .int .i64 0, .int .i64 0, .int .i64 0, .int .i64 0, .string ⟨#[]⟩, .string ⟨#[]⟩, .slice none 0 0, .slice none 0 0, .slice none 0 0, .bool false]) := .of (by kernel_rfl)
theorem fd37_0 : FD Tryd.prog 37 0 0 := .of Tryd.underlying37 (by kernel_rfl)
theorem na3 : NotAgg Tryd.prog 3 := ⟨_, Tryd.underlying3, trivial⟩
theorem ti35 : TI Tryd.prog 35 21 232 (.agg #[.int .i64 0, .int .i64 0, .int .i64 0, .int .i64 0, .int .i64 0, .int .i64 0, .int .i64 0, .int .i64 0, .int .i64 0, .int .i64 0, .int .i64 0, .int .i64 0, .int .i64 0, .int .i64 0, .int .i64 0, .int .i64 0, .string ⟨#[]⟩, .string ⟨#[]⟩, .slice none 0 0, .slice none 0 0, .slice none 0 0]) := .of (by kernel_rfl)
theorem fd37_2 : FD Tryd.prog 37 2 2 := .of Tryd.underlying37 (by kernel_rfl)
theorem fd31_9 : FD Tryd.prog 31 9 9 := .of Tryd.underlying31 (by kernel_rfl)
theorem na9 : NotAgg Tryd.prog 9 := ⟨_, Tryd.underlying9, trivial⟩
theorem fd31_8 : FD Tryd.prog 31 8 8 := .of Tryd.underlying31 (by kernel_rfl)
theorem ia31 : IsAgg Tryd.prog 31 := ⟨_, Tryd.underlying31, trivial⟩
theorem ts31 : TS Tryd.prog 31 12 := .of (by kernel_rfl)
theorem fd37_1 : FD Tryd.prog 37 1 1 := .of Tryd.underlying37 (by kernel_rfl)
theorem ts35 : TS Tryd.prog 35 21 := .of (by kernel_rfl)
theorem ia35 : IsAgg Tryd.prog 35 := ⟨_, Tryd.underlying35, trivial⟩
theorem fd35_0 : FD Tryd.prog 35 0 0 := .of Tryd.underlying35 (by kernel_rfl)
theorem fd35_2 : FD Tryd.prog 35 2 2 := .of Tryd.underlying35 (by kernel_rfl)
theorem fd35_3 : FD Tryd.prog 35 3 3 := .of Tryd.underlying35 (by kernel_rfl)
theorem fd37_3 : FD Tryd.prog 37 3 14 := .of Tryd.underlying37 (by kernel_rfl)
theorem fd35_15 : FD Tryd.prog 35 15 15 := .of Tryd.underlying35 (by kernel_rfl)
theorem na25 : NotAgg Tryd.prog 25 := ⟨_, Tryd.underlying25, trivial⟩
theorem fd35_7 : FD Tryd.prog 35 7 7 := .of Tryd.underlying35 (by kernel_rfl)
theorem bld35_0_1_2_3_15_7 (x0 : Int) (x1 : Int) (x2 : Int) (x3 : Int) (x4 : Int) (x5 : Int) (w : World) : (Instr.build 35 (([0, 1, 2, 3, 15, 7] : List Nat).zip [.int .i64 x0, .int .i64 x1, .int .i64 x2, .int .i64 x3, .int .i64 x4, .int .i64 x5]).toArray).run Tryd.prog w = .ok (.agg #[.int .i64 x0, .int .i64 x1, .int .i64 x2, .int .i64 x3, .int .i64 0, .int .i64 0, .int .i64 0, .int .i64 x5, .int .i64 0, .int .i64 0, .int .i64 0, .int .i64 0, .int .i64 0, .int .i64 0, .int .i64 0, .int .i64 x4, .string ⟨#[]⟩, .string ⟨#[]⟩, .slice none 0 0, .slice none 0 0, .slice none 0 0]) w := by kernel_rfl
end con22
open con22

theorem EI.less {s over now k} (h : EI s over now k) {j : Int} (ht : ∀ c ∈ s.open_, c.tries ≤ j) : EI s over now j := { h with time := fun c hc => ⟨(h.time c hc).1, ht c hc⟩ }
theorem EI.none {s over now k} (h : EI s over now k) (hk : k < 0) : s.open_ = [] := by
  match ho : s.open_ with
  | [] => rfl
  | c :: l =>
    have h1 := h.time c (by rw [ho]; exact .head _)
    have h2 := (h.pi.po c (by rw [ho]; exact .head _)).1
    omega
theorem EI.small {s over now k} (h : EI s over now k) : (over.length : Int) ≤ s.calls ∧ (s.ended.length : Int) ≤ s.calls := by have := h.count; omega
theorem ask_kind {s : CS19} {now : Int} {q : Sn19} (z : Sl19) : 0 ≤ (askC s now (newC s q z)).m.kind ∧ (askC s now (newC s q z)).m.kind ≤ 28 := by
  show 0 ≤ (asksM q z).kind ∧ (asksM q z).kind ≤ 28
  rcases asksM_kind q z with e | e | e | e <;> rw [e] <;> decide
theorem e0_ei : EI (new19 101 10 3 [1, 2, 3]) [] 0 2 := ⟨.new (by decide) (by decide) (by decide) (by decide) (by decide), ⟨rfl, rfl, rfl⟩, .nil, fun j hj => (by cases hj), rfl, fun e he => (by cases he), fun c hc => (by cases hc)⟩

set_option maxHeartbeats 4000000 in
set_option maxRecDepth 20000 in
theorem ConsumerEnds_ok (a : Option Addr) (c : Nat) (l : List OpX) (hl : l.length ≤ 140737488351232) (hgood : ∀ x ∈ l, x.good) : Cn Tryd.prog 3 [.slice a l.length c] (fun w => RowAt a (l.flatMap OpX.cells) w ∧ LV w) [] fun v G => v = .bool true ∧ G = [] := by
  refine .enter Tryd.func3 rfl (by kernel_rfl) rfl fun R k => ?_
  have k' := k
  refine .seq ?_
  refine .region ?_
  refine .rd (.assign rfl) ?_
  refine .nil ?_
  refine .seq ?_
  refine .region ?_
  refine .fn rfl rfl .nil (fun _ _ _ => trivial) (shown_ok) (fun v G1 hq => ?_)
  obtain ⟨rfl, rfl⟩ := hq
  simp only [List.nil_append]
  refine .rd (.assign rfl) ?_
  refine .nil ?_
  refine .seq ?_
  refine .region ?_
  refine .ef (.buildSlice (vs := [.int .i64 1, .int .i64 2, .int .i64 3]) (cs := [.int .i64 1, .int .i64 2, .int .i64 3]) Tryd.underlying28 ti3 rfl (by decide) (by first | rfl | kernel_rfl) (ones.of rfl)) ?_
  rintro _ _ ⟨bl, rfl, rfl⟩
  refine .fn rfl rfl .nil (((Knows.blk .head).mono fun _ h => rowBlk h)) (New_ok 101 (some ⟨bl, 0, none⟩) _ [1, 2, 3] 10 3 rise123 (by decide) (by decide) (by decide)) (fun v G1 hq => ?_)
  obtain ⟨pb, rfl, rfl⟩ := hq
  simp only [List.cons_append, List.nil_append]
  refine .rd (.move rfl) ?_
  refine .rd (.extract rfl rfl) ?_
  refine .rd (.extract rfl rfl) ?_
  refine .rd (.assign rfl) ?_
  refine .rd (.assign rfl) ?_
  refine .nil ?_
  refine .seq ?_
  refine .seq ?_
  refine .region ?_
  refine .rd (.move rfl) ?_
  refine .rd (.not rfl) ?_
  refine .rd (.move rfl) ?_
  refine .on (t := 28) rfl rfl ?_
  refine .rd (.move rfl) ?_
  refine .on (t := 28) rfl rfl ?_
  refine .rd (.eqNilP Tryd.underlying24 rfl rfl) ?_
  refine .rd (.pickF rfl rfl) ?_
  refine .rd (.move rfl) ?_
  refine .on (t := 32) rfl rfl ?_
  refine .rd (.move rfl) ?_
  refine .on (t := 32) rfl rfl ?_
  refine .rd (.neI rfl rfl) ?_
  refine .alter (t := 34) (v' := .bool false) rfl (congrArg Value.bool (by first | rfl | decide)) ?_
  refine .rd (.pickF rfl rfl) ?_
  refine .nil ?_
  refine .condF rfl ?_
  refine .skip ?_
  refine .seq ?_
  refine .region ?_
  refine .rd (.assign rfl) ?_
  refine .nil ?_
  refine .seq ?_
  refine .region ?_
  refine .rd (.assign rfl) ?_
  refine .nil ?_
  refine .seq ?_
  refine .region ?_
  refine .rd (.assign rfl) ?_
  refine .nil ?_
  refine .seq ?_
  refine .region ?_
  refine .rd (.assign rfl) ?_
  refine .nil ?_
  refine .seq ?_
  refine .seq ?_
  refine .region ?_
  refine .rd (.assign rfl) ?_
  refine .nil ?_
  refine .nilArr 3 1 none ?_
  refine .nilArr 35 21 none ?_
  refine .block ?_
  refine .loop (σ := Nat × CS19 × List Int × (Option Addr × Nat) × List Mg19 × (Option Addr × Nat) × Int) (fun ⟨i, s, over, ov, us, ua, now⟩ => i ≤ l.length ∧ i ≤ 150 ∧ EI s over now 2 ∧ (0 ≤ now ∧ now ≤ 20 * i) ∧ s.calls ≤ i ∧ s.ended = [] ∧ us.length ≤ 20 * i ∧ ∀ m ∈ us, 0 ≤ m.kind ∧ m.kind ≤ 28) (fun ⟨i, s, over, ov, us, ua, now⟩ => l.length - i) (fun ⟨i, s, over, ov, us, ua, now⟩ => [(0, .slice a l.length c), (4, .pointer (some ⟨pb, 0, none⟩)), (6, .slice ov.1 (over).length ov.2), (7, .slice ua.1 (us).length ua.2), (8, .int .i64 now), (9, .int .i64 s.calls), (10, .int .i64 (i : Nat))]) (fun ⟨i, s, over, ov, us, ua, now⟩ => [PR pb s, arr 3 1 ov.1 ov.2 ((over).flatMap icell), arr 35 21 ua.1 ua.2 ((us).flatMap Mg19.cells), R]) (0, (new19 101 10 3 [1, 2, 3]), [], (none, 0), [], (none, 0), 0) ⟨Nat.zero_le _, Nat.zero_le _, e0_ei, ⟨by show (0 : Int) ≤ 0; omega, by show (0 : Int) ≤ 0; omega⟩, by show (0 : Int) ≤ 0; omega, rfl, Nat.zero_le _, fun m hm => by cases hm⟩ (.cons rfl (.cons rfl (.cons rfl (.cons rfl (.cons rfl (.cons rfl (.cons rfl .nil))))))) (.cons (.tail (.tail .head)) (.cons (.tail .head) (.cons .head (.cons (.tail .head) .nil)))) (fun s' hI ih => ?_)
  obtain ⟨i, s, over, ov, us, ua, now⟩ := s'
  dsimp only at hI ih ⊢
  obtain ⟨hil, hi150, hEI, ⟨hn1, hn2⟩, hcl0, hen, husl, hus⟩ := hI
  have ih0 := ih
  obtain ⟨hsm1, hsm2⟩ := hEI.small
  obtain ⟨hcn1, hcn2⟩ := hEI.pi.pb.calls
  refine .seq ?_
  refine .seq ?_
  refine .region ?_
  refine RunO.join 8 43 (decide (i < l.length ∧ i < 150)) ?_ ?_
  · refine .rd (.move rfl) ?_
    refine .rd (.move rfl) ?_
    refine .rd (.lenL rfl rfl Tryd.underlying22 rfl) ?_
    refine .rd (.lt rfl rfl) ?_
    refine .rd (.move rfl) ?_
    refine .split (t := 40) rfl (fun g10 => ?_) (fun g10 => ?_)
    · replace g10 := of_decide_eq_true g10
      refine .on (t := 40) rfl rfl ?_
      refine .rd (.move rfl) ?_
      refine .on (t := 40) rfl rfl ?_
      refine .rd (.lt rfl rfl) ?_
      refine .rd (.pickT rfl rfl) ?_
      refine .nil ⟨rfl, ?_, by repeat (first | exact Le.refl _ | refine Le.skip rfl ?_)⟩
      exact congrArg (fun x => some (Value.bool x)) (decide_eq_decide.2 (by omega))
    · replace g10 := of_decide_eq_false g10
      refine .off (t := 40) rfl rfl rfl ?_
      refine .off (t := 40) rfl rfl rfl ?_
      refine .rd (.pickF rfl rfl) ?_
      refine .nil ⟨rfl, ?_, by repeat (first | exact Le.refl _ | refine Le.skip rfl ?_)⟩
      exact congrArg (fun x => some (Value.bool x)) ((decide_eq_false (by omega)).symm)
  refine .nil ?_
  refine .condP rfl (fun h10 => ?_) (fun h10 => ?_)
  · refine .skip ?_
    refine .seq ?_
    refine .block ?_
    refine .seq ?_
    obtain ⟨hcl, hc150⟩ := h10
    obtain ⟨x, hx⟩ : ∃ x, l[i]? = some x := ⟨_, List.getElem?_eq_getElem hcl⟩
    have hxg := hgood x (List.mem_of_getElem? hx)
    refine .tell (φ := ∃ b o, a = some ⟨b, o, none⟩) (Knows.pick (.tail (.tail (.tail .head))) (k'.mono fun _ h => RowAt.addr h.1 (by rw [flat_length OpX.cells_len]; omega))) (fun hh => ?_)
    obtain ⟨b9, o9, hab⟩ := hh
    refine .region ?_
    refine .rd (.move rfl) ?_
    refine .rd (.move rfl) ?_
    refine .rd (.indexAddr (b := b9) (o := o9) Tryd.underlying22 ts37 (by show some (Value.slice a _ _) = _; rw [hab]) rfl (by omega) (by omega)) ?_
    refine .rd (.loadN ia37 ts37 rfl rfl (Knows.elem (f := OpX.cells) OpX.cells_len (by decide) (Knows.pick (.tail (.tail (.tail .head))) (k'.mono fun _ h => hab ▸ h.1)) hx)) ?_
    refine .ef (.alloc ti37 rfl (ones.of rfl)) ?_
    rintro _ _ ⟨b11, rfl, rfl⟩
    refine .ef0 (.storeAll (vs := x.cells) ts37 rfl rfl rfl .head rfl x.cells_ones) ?_
    rintro _ _ rfl
    refine .nil ?_
    refine .seq ?_
    refine .region ?_
    refine .rd (.assign rfl) ?_
    refine .nil ?_
    refine .seq ?_
    refine .seq ?_
    refine .region ?_
    refine .rd (.fieldAddr fd37_0 rfl) ?_
    refine .rd (.ld na3 rfl .head rfl) ?_
    refine .fn rfl rfl .nil (fun _ _ _ => trivial) (pick_ok x.kind 6 hxg.kind (by decide)) (fun v G1 hq => ?_)
    obtain ⟨rfl, rfl⟩ := hq
    simp only [List.nil_append]
    refine .nil ?_
    refine .joinEx (σ := CS19 × Int × List Mg19 × Option Addr × Nat) (φ := fun ⟨s2, now2, zs, oa, oc⟩ => EI s2 over now2 2 ∧ (now ≤ now2 ∧ now2 ≤ now + 20) ∧ (s.calls ≤ s2.calls ∧ s2.calls ≤ s.calls + 1) ∧ zs.length ≤ 20 ∧ ∀ m ∈ zs, 0 ≤ m.kind ∧ m.kind ≤ 28) (E' := fun ⟨s2, now2, zs, oa, oc⟩ => [(0, .slice a l.length c), (4, .pointer (some ⟨pb, 0, none⟩)), (6, .slice ov.1 (over).length ov.2), (7, .slice ua.1 (us).length ua.2), (8, .int .i64 now2), (9, .int .i64 s2.calls), (10, .int .i64 (i : Nat)), (12, .slice oa zs.length oc)]) (Γ' := fun ⟨s2, now2, zs, oa, oc⟩ => [PR pb s2, Said oa oc zs, arr 3 1 ov.1 ov.2 ((over).flatMap icell), arr 35 21 ua.1 ua.2 ((us).flatMap Mg19.cells), R]) (fun sj hj => ?_) (fun fin => ?_)
    · obtain ⟨s2, now2, zs, oa, oc⟩ := sj
      dsimp only at hj ⊢
      obtain ⟨hEI2, ⟨hw1, hw2⟩, ⟨hc3, hc4⟩, hz1, hz2⟩ := hj
      obtain ⟨hsm3, hsm4⟩ := hEI2.small
      have hcnt := hEI2.count
      refine .seq ?_
      refine .region ?_
      refine .rd (.move rfl) ?_
      refine .rd (.move rfl) ?_
      refine .ef (.append rfl rfl Tryd.underlying29 ti35 rfl (ones.of rfl) (by decide) (by decide) rfl rfl (.tail (.tail (.tail .head))) (n := us.length) (m := zs.length) (flat_length Mg19.cells_len _) (.srcRow (ys := zs.flatMap Mg19.cells) (Knows.arr (.tail .head)) Tryd.underlying29 (flat_length Mg19.cells_len _) (by decide)) (by omega)) ?_
      rintro _ _ ⟨ra, rc, rfl, rn, rfl⟩
      refine .rd (.assign rfl) ?_
      refine .nil ?_
      refine .cast (X' := arr 35 21 ra rc ((us ++ zs).flatMap Mg19.cells)) (by rw [List.flatMap_append]) ?_
      refine .seq ?_
      refine .region ?_
      refine .rd (.assign rfl) ?_
      refine .nil ?_
      refine .seq ?_
      refine .region ?_
      refine .rd (.move rfl) ?_
      refine .rd (.move rfl) ?_
      refine .fn rfl rfl (.cons (.tail .head) .nil) (fun _ _ _ => trivial) (done_ok pb s2) (fun v G1 hq => ?_)
      obtain ⟨ea, ec, rfl, rfl⟩ := hq
      simp only [List.cons_append, List.nil_append]
      refine .fn rfl rfl (.cons (.tail (.tail (.tail (.tail .head)))) .nil) (Knows.arr (.tail .head)) (ended_ok over ov.1 ov.2 ea ec s2.ended (by omega) (by omega) (fun i y hy => hEI2.fresh hy) hEI2.done) (fun v G1 hq => ?_)
      obtain ⟨qoa, qoc, rfl, rfl⟩ := hq
      simp only [List.cons_append, List.nil_append]
      refine .rd (.move rfl) ?_
      refine .rd (.extract rfl rfl) ?_
      refine .rd (.extract rfl rfl) ?_
      refine .rd (.assign rfl) ?_
      refine .rd (.assign rfl) ?_
      refine .nil ?_
      refine .seq ?_
      refine .region ?_
      refine .rd (.move rfl) ?_
      refine .rd (.not rfl) ?_
      refine .rd (.move rfl) ?_
      refine .on (t := 140) rfl rfl ?_
      refine .rd (.move rfl) ?_
      refine .on (t := 140) rfl rfl ?_
      refine .rd (.lenL rfl rfl Tryd.underlying28 rfl) ?_
      refine .on (t := 140) rfl rfl ?_
      refine .rd (.move rfl) ?_
      refine .on (t := 140) rfl rfl ?_
      refine .fn rfl rfl (.cons (.tail .head) .nil) (fun _ _ _ => trivial) (open_ok pb (done19 s2)) (fun v G1 hq => ?_)
      obtain ⟨rfl, rfl⟩ := hq
      simp only [List.cons_append, List.nil_append]
      refine .on (t := 140) rfl rfl ?_
      refine .rd (.add rfl rfl (by simp only [List.length_append, List.length_map]; omega) (by simp only [List.length_append, List.length_map]; show _ + ((s2.open_.length : Nat) : Int) ≤ _; omega)) ?_
      refine .on (t := 140) rfl rfl ?_
      refine .rd (.move rfl) ?_
      refine .on (t := 140) rfl rfl ?_
      refine .rd (.neI rfl rfl) ?_
      refine .alter (t := 147) (v' := .bool false) rfl (congrArg Value.bool (by simp only [List.length_append, List.length_map]; show (!decide (((over.length + s2.ended.length : Nat) : Int) + (s2.open_.length : Nat) = s2.calls)) = false; rw [decide_eq_true (by omega)]; rfl)) ?_
      refine .rd (.pickF rfl rfl) ?_
      refine .nil ?_
      refine .condF rfl ?_
      refine .skip ?_
      refine .inBlock ?_
      refine .region ?_
      refine .rd (.move rfl) ?_
      refine .rd (.add rfl rfl (by omega) (by omega)) ?_
      refine .rd (.assign rfl) ?_
      refine .nil ?_
      exact (ih0 (i + 1, done19 s2, over ++ s2.ended.map (·.call), (qoa, qoc), us ++ zs, (ra, rc), now2) ⟨by show i + 1 ≤ _; omega, by show i + 1 ≤ _; omega, hEI2.tell, ⟨by show 0 ≤ now2; omega, by show now2 ≤ 20 * ((i + 1 : Nat) : Int); omega⟩, by show s2.calls ≤ ((i + 1 : Nat) : Int); omega, rfl, by show (us ++ zs).length ≤ 20 * (i + 1); rw [List.length_append]; omega, fun m hm => (List.mem_append.1 hm).elim (hus m) (hz2 m)⟩ (by show l.length - (i + 1) < l.length - i; omega)).to (.cons rfl (.cons rfl (.cons rfl (.cons (by show some (Value.slice ra (us.length + zs.length) rc) = some (Value.slice ra (us ++ zs).length rc); rw [List.length_append]) (.cons rfl (.cons rfl (.cons rfl .nil))))))) (.cons .head (.cons .head (.cons (.tail .head) (.cons (.tail (.tail .head)) .nil))))
    · refine .block ?_
      refine .seq ?_
      refine .seq ?_
      refine .region ?_
      refine .rd (.eqI rfl rfl) ?_
      refine .rd (.assign rfl) ?_
      refine .nil ?_
      refine .joinAt (E' := [(0, .slice a l.length c), (4, .pointer (some ⟨pb, 0, none⟩)), (6, .slice ov.1 (over).length ov.2), (7, .slice ua.1 (us).length ua.2), (8, .int .i64 now), (9, .int .i64 s.calls), (10, .int .i64 (i : Nat)), (11, .pointer (some ⟨b11, 0, none⟩)), (12, .slice none 0 0), (52, .int .i64 (pickN x.kind 6)), (81, .bool (decide (pickN x.kind 6 = 0 ∨ pickN x.kind 6 = 1)))]) (Γ' := [PR pb s, blk b11 x.cells 37, arr 3 1 ov.1 ov.2 ((over).flatMap icell), arr 35 21 ua.1 ua.2 ((us).flatMap Mg19.cells), R]) ?_ (fun fin => ?_)
      · refine .condP rfl (fun h100 => ?_) (fun h100 => ?_)
        · refine .seq ?_
          refine .seq ?_
          refine .region ?_
          refine .rd (.fieldAddr fd37_2 rfl) ?_
          refine .rd (.fieldAddr fd31_9 rfl) ?_
          refine .rd (.ld na9 rfl (.tail .head) rfl) ?_
          refine .rd (.lenT rfl rfl Tryd.underlying9 rfl) ?_
          refine .rd (.gt rfl rfl) ?_
          refine .rd (.move rfl) ?_
          refine .split (t := 89) rfl (fun g20 => ?_) (fun g20 => ?_)
          · replace g20 := of_decide_eq_true g20
            refine .off (t := 89) rfl rfl rfl ?_
            refine .off (t := 89) rfl rfl rfl ?_
            refine .off (t := 89) rfl rfl rfl ?_
            refine .off (t := 89) rfl rfl rfl ?_
            refine .off (t := 89) rfl rfl rfl ?_
            refine .rd (.pickT rfl rfl) ?_
            refine .nil ?_
            refine .condT rfl ?_
            refine .exit rfl ?_
            refine .region ?_
            refine .rd (.move rfl) ?_
            refine .rd (.add rfl rfl (by omega) (by omega)) ?_
            refine .rd (.assign rfl) ?_
            refine .nil ?_
            exact (ih0 (i + 1, s, over, ov, us, ua, now) ⟨by show i + 1 ≤ _; omega, by show i + 1 ≤ _; omega, hEI, ⟨hn1, by show now ≤ 20 * ((i + 1 : Nat) : Int); omega⟩, by show s.calls ≤ ((i + 1 : Nat) : Int); omega, hen, by show us.length ≤ 20 * (i + 1); omega, hus⟩ (by show l.length - (i + 1) < l.length - i; omega)).to (.cons rfl (.cons rfl (.cons rfl (.cons rfl (.cons rfl (.cons rfl (.cons rfl .nil))))))) (.cons .head (.cons (.tail .head) (.cons (.tail .head) (.cons (.tail .head) .nil))))
          · replace g20 := of_decide_eq_false g20
            refine .on (t := 89) rfl rfl ?_
            refine .rd (.fieldAddr fd37_2 rfl) ?_
            refine .on (t := 89) rfl rfl ?_
            refine .rd (.fieldAddr fd31_8 rfl) ?_
            refine .on (t := 89) rfl rfl ?_
            refine .rd (.ld na9 rfl (.tail .head) rfl) ?_
            refine .on (t := 89) rfl rfl ?_
            refine .rd (.lenT rfl rfl Tryd.underlying9 rfl) ?_
            refine .on (t := 89) rfl rfl ?_
            refine .rd (.gt rfl rfl) ?_
            refine .rd (.pickF rfl rfl) ?_
            refine .nil ?_
            refine .condP rfl (fun h20 => ?_) (fun h20 => ?_)
            · refine .exit rfl ?_
              refine .region ?_
              refine .rd (.move rfl) ?_
              refine .rd (.add rfl rfl (by omega) (by omega)) ?_
              refine .rd (.assign rfl) ?_
              refine .nil ?_
              exact (ih0 (i + 1, s, over, ov, us, ua, now) ⟨by show i + 1 ≤ _; omega, by show i + 1 ≤ _; omega, hEI, ⟨hn1, by show now ≤ 20 * ((i + 1 : Nat) : Int); omega⟩, by show s.calls ≤ ((i + 1 : Nat) : Int); omega, hen, by show us.length ≤ 20 * (i + 1); omega, hus⟩ (by show l.length - (i + 1) < l.length - i; omega)).to (.cons rfl (.cons rfl (.cons rfl (.cons rfl (.cons rfl (.cons rfl (.cons rfl .nil))))))) (.cons .head (.cons (.tail .head) (.cons (.tail .head) (.cons (.tail .head) .nil))))
            · refine .skip ?_
              refine .seq ?_
              refine .region ?_
              refine .rd (.move rfl) ?_
              refine .rd (.move rfl) ?_
              refine .rd (.fieldAddr fd37_2 rfl) ?_
              refine .rd (.loadN ia31 ts31 rfl rfl (Knows.sub (Knows.blk (.tail .head)) (i := 2) (ds := x.s.cells) rfl)) ?_
              refine .fn rfl rfl (.cons .head .nil) (Knows.pick (.tail (.tail (.tail .head))) (k'.mono fun _ h => h.2)) (call_ok pb now s x.s LV hEI.pi.pb (by omega) (by omega) (fun _ => list_ok x.s.text (by omega))) (fun v G1 hq => ?_)
              rcases hq with ⟨_, rfl, rfl⟩ | ⟨_, rfl, rfl⟩ | ⟨z, oa, oc, hmay, hop, _, rfl, rfl⟩
              · simp only [List.cons_append, List.nil_append]
                refine .rd (.move rfl) ?_
                refine .rd (.extract rfl rfl) ?_
                refine .rd (.extract rfl rfl) ?_
                refine .rd (.extract rfl rfl) ?_
                refine .rd (.assign rfl) ?_
                refine .rd (.assign rfl) ?_
                refine .rd (.assign rfl) ?_
                refine .nil ?_
                refine .seq ?_
                refine .seq ?_
                refine .region ?_
                refine .rd (.move rfl) ?_
                refine .rd (.eqI rfl rfl) ?_
                refine .nil ?_
                refine .condF rfl ?_
                refine .skip ?_
                refine .region ?_
                refine .rd (.move rfl) ?_
                refine .rd (.assign rfl) ?_
                refine .nil ?_
                refine .inBlock ?_
                refine .nilArr 35 21 none ?_
                refine .cast (X' := Said none 0 []) (rfl) ?_
                exact fin (s, now, [], none, 0) ⟨hEI, ⟨by omega, by omega⟩, ⟨by omega, by omega⟩, Nat.zero_le _, fun m hm => by cases hm⟩ (.cons rfl (.cons rfl (.cons rfl (.cons rfl (.cons rfl (.cons rfl (.cons rfl (.cons rfl .nil)))))))) (.cons (.tail .head) (.cons .head (.cons (.tail .head) (.cons (.tail .head) (.cons (.tail .head) .nil)))))
              · simp only [List.cons_append, List.nil_append]
                refine .rd (.move rfl) ?_
                refine .rd (.extract rfl rfl) ?_
                refine .rd (.extract rfl rfl) ?_
                refine .rd (.extract rfl rfl) ?_
                refine .rd (.assign rfl) ?_
                refine .rd (.assign rfl) ?_
                refine .rd (.assign rfl) ?_
                refine .nil ?_
                refine .seq ?_
                refine .seq ?_
                refine .region ?_
                refine .rd (.move rfl) ?_
                refine .rd (.eqI rfl rfl) ?_
                refine .nil ?_
                refine .condF rfl ?_
                refine .skip ?_
                refine .region ?_
                refine .rd (.move rfl) ?_
                refine .rd (.assign rfl) ?_
                refine .nil ?_
                refine .inBlock ?_
                refine .nilArr 35 21 none ?_
                refine .cast (X' := Said none 0 []) (rfl) ?_
                exact fin (s, now, [], none, 0) ⟨hEI, ⟨by omega, by omega⟩, ⟨by omega, by omega⟩, Nat.zero_le _, fun m hm => by cases hm⟩ (.cons rfl (.cons rfl (.cons rfl (.cons rfl (.cons rfl (.cons rfl (.cons rfl (.cons rfl .nil)))))))) (.cons (.tail .head) (.cons .head (.cons (.tail .head) (.cons (.tail .head) (.cons (.tail .head) .nil)))))
              · simp only [List.cons_append, List.nil_append]
                refine .rd (.move rfl) ?_
                refine .rd (.extract rfl rfl) ?_
                refine .rd (.extract rfl rfl) ?_
                refine .rd (.extract rfl rfl) ?_
                refine .rd (.assign rfl) ?_
                refine .rd (.assign rfl) ?_
                refine .rd (.assign rfl) ?_
                refine .nil ?_
                refine .seq ?_
                refine .seq ?_
                refine .region ?_
                refine .rd (.move rfl) ?_
                refine .rd (.eqI rfl rfl) ?_
                refine .nil ?_
                refine .condT rfl ?_
                refine .seq ?_
                refine .region ?_
                refine .rd (.move rfl) ?_
                refine .rd (.add rfl rfl (by show _ ≤ s.calls + 1; omega) (by show s.calls + 1 ≤ _; omega)) ?_
                refine .rd (.assign rfl) ?_
                refine .nil ?_
                refine .seq ?_
                refine .region ?_
                refine .rd (.move rfl) ?_
                refine .rd (.move rfl) ?_
                refine .rd (.neI rfl rfl) ?_
                refine .alter (t := 111) (v' := .bool false) rfl (congrArg Value.bool (by simp)) ?_
                refine .rd (.move rfl) ?_
                refine .on (t := 112) rfl rfl ?_
                refine .rd (.move rfl) ?_
                refine .on (t := 112) rfl rfl ?_
                refine .rd (.lenL rfl rfl Tryd.underlying29 rfl) ?_
                refine .on (t := 112) rfl rfl ?_
                refine .rd (.neI rfl rfl) ?_
                refine .alter (t := 115) (v' := .bool false) rfl (congrArg Value.bool (by first | rfl | decide)) ?_
                refine .rd (.pickF rfl rfl) ?_
                refine .nil ?_
                refine .condF rfl ?_
                refine .skip ?_
                refine .region ?_
                refine .rd (.move rfl) ?_
                refine .rd (.assign rfl) ?_
                refine .nil ?_
                refine .inBlock ?_
                exact fin (callS s now x.s z, now, [(askC s now (newC s x.s z)).m], oa, oc) ⟨hEI.call hmay hop (by omega) z, ⟨by omega, by omega⟩, ⟨by show s.calls ≤ s.calls + 1; omega, by show s.calls + 1 ≤ _; omega⟩, by show 1 ≤ 20; decide, fun m hm => by rw [List.mem_singleton.1 hm]; exact ask_kind z⟩ (.cons rfl (.cons rfl (.cons rfl (.cons rfl (.cons rfl (.cons rfl (.cons rfl (.cons rfl .nil)))))))) (.cons .head (.cons .head (.cons (.tail .head) (.cons (.tail .head) (.cons (.tail .head) .nil)))))
        · refine .seq ?_
          refine .region ?_
          refine .rd (.eqI rfl rfl) ?_
          refine .rd (.assign rfl) ?_
          refine .nil ?_
          refine .condP rfl (fun h27 => ?_) (fun h27 => ?_)
          · refine .seq ?_
            have hq1 := pickN_nn (c := x.forth) (n := 20) (by decide)
            have hq2 := pickN_lt (c := x.forth) (n := 20) (by decide)
            refine .region ?_
            refine .rd (.move rfl) ?_
            refine .rd (.fieldAddr fd37_1 rfl) ?_
            refine .rd (.ld na3 rfl (.tail .head) rfl) ?_
            refine .fn rfl rfl .nil (fun _ _ _ => trivial) (pick_ok x.forth 20 hxg.forth (by decide)) (fun v G1 hq => ?_)
            obtain ⟨rfl, rfl⟩ := hq
            simp only [List.nil_append]
            refine .rd (.add rfl rfl (by omega) (by omega)) ?_
            refine .rd (.assign rfl) ?_
            refine .nil ?_
            refine .region ?_
            refine .rd (.move rfl) ?_
            refine .rd (.move rfl) ?_
            refine .fn rfl rfl (.cons .head .nil) (fun _ _ _ => trivial) (tick_ok pb (now + pickN x.forth 20) s hEI.pi.pb hEI.pi.po (by omega) (by omega)) (fun v G1 hq => ?_)
            obtain ⟨oa2, oc2, rfl, rfl⟩ := hq
            simp only [List.cons_append, List.nil_append]
            refine .rd (.assign rfl) ?_
            refine .nil ?_
            refine .inBlock ?_
            refine .alter (t := 9) (v' := .int .i64 (tick s (now + pickN x.forth 20)).1.calls) rfl (by rw [(tick_keep hEI.pi (now + pickN x.forth 20)).2.1]) ?_
            exact fin ((tick s (now + pickN x.forth 20)).1, (now + pickN x.forth 20), (tick s (now + pickN x.forth 20)).2, oa2, oc2) ⟨(hEI.tick (now' := (now + pickN x.forth 20)) (by omega)).1, ⟨by omega, by omega⟩, ⟨by rw [(tick_keep hEI.pi (now + pickN x.forth 20)).2.1]; omega, by rw [(tick_keep hEI.pi (now + pickN x.forth 20)).2.1]; omega⟩, (tick_msgs hEI.pi (now + pickN x.forth 20)).2, (tick_msgs hEI.pi (now + pickN x.forth 20)).1⟩ (.cons rfl (.cons rfl (.cons rfl (.cons rfl (.cons rfl (.cons rfl (.cons rfl (.cons rfl .nil)))))))) (.cons .head (.cons .head (.cons (.tail .head) (.cons (.tail .head) (.cons (.tail .head) .nil)))))
          · refine .seq ?_
            refine .region ?_
            refine .rd (.move rfl) ?_
            refine .rd (.lenL rfl rfl Tryd.underlying29 rfl) ?_
            refine .rd (.gt rfl rfl) ?_
            refine .nil ?_
            refine .condP rfl (fun h15 => ?_) (fun h15 => ?_)
            · refine .seq ?_
              have hq1 := pickN_nn (c := x.forth) (n := (us.length : Int)) (by omega)
              have hq2 := pickN_lt (c := x.forth) (n := (us.length : Int)) (by omega)
              obtain ⟨u, hu⟩ : ∃ u, us[(pickN x.forth (us.length : Int)).toNat]? = some u := ⟨_, List.getElem?_eq_getElem (by omega)⟩
              have huk := hus u (List.mem_of_getElem? hu)
              refine .tell (φ := ∃ b o, ua.1 = some ⟨b, o, none⟩) ((Knows.arr (.tail (.tail (.tail .head)))).mono fun _ h => RowAt.addr h (by rw [flat_length Mg19.cells_len]; omega)) (fun hh => ?_)
              obtain ⟨b8, o8, hub⟩ := hh
              refine .region ?_
              refine .rd (.move rfl) ?_
              refine .rd (.fieldAddr fd37_1 rfl) ?_
              refine .rd (.ld na3 rfl (.tail .head) rfl) ?_
              refine .rd (.move rfl) ?_
              refine .rd (.lenL rfl rfl Tryd.underlying29 rfl) ?_
              refine .fn rfl rfl .nil (fun _ _ _ => trivial) (pick_ok x.forth (us.length : Int) hxg.forth (by omega)) (fun v G1 hq => ?_)
              obtain ⟨rfl, rfl⟩ := hq
              simp only [List.nil_append]
              refine .rd (.indexAddr (b := b8) (o := o8) Tryd.underlying29 ts35 (by show some (Value.slice ua.1 _ _) = _; rw [hub]) rfl (by omega) (by omega)) ?_
              refine .rd (.loadN ia35 ts35 rfl rfl (Knows.elem (f := Mg19.cells) Mg19.cells_len (by decide) ((Knows.arr (.tail (.tail (.tail .head)))).mono fun _ h => hub ▸ h) hu)) ?_
              refine .ef (.alloc ti35 rfl (ones.of rfl)) ?_
              rintro _ _ ⟨b16, rfl, rfl⟩
              refine .ef0 (.storeAll (vs := u.cells) ts35 rfl rfl rfl .head rfl u.cells_ones) ?_
              rintro _ _ rfl
              refine .nil ?_
              refine .region ?_
              refine .rd (.move rfl) ?_
              refine .rd (.move rfl) ?_
              refine .rd (.fieldAddr fd35_0 rfl) ?_
              refine .rd (.ld na3 rfl .head rfl) ?_
              refine .rd (.add rfl rfl (by omega) (by omega)) ?_
              refine .rd (.fieldAddr fd35_2 rfl) ?_
              refine .rd (.ld na3 rfl .head rfl) ?_
              refine .rd (.fieldAddr fd35_3 rfl) ?_
              refine .rd (.ld na3 rfl .head rfl) ?_
              refine .rd (.fieldAddr fd37_3 rfl) ?_
              refine .rd (.fieldAddr fd35_15 rfl) ?_
              refine .rd (.ld na25 rfl (.tail (.tail .head)) rfl) ?_
              refine .rd (.fieldAddr fd37_3 rfl) ?_
              refine .rd (.fieldAddr fd35_7 rfl) ?_
              refine .rd (.ld na3 rfl (.tail (.tail .head)) rfl) ?_
              refine .rd (.build rfl (bld35_0_1_2_3_15_7 _ _ _ _ _ _)) ?_
              refine .fn rfl rfl (.cons (.tail .head) .nil) (fun _ w _ => at_nil rfl w) (step_ok pb now s (⟨u.kind + 1, u.to, 101, u.id, x.m.m7, x.m.err, []⟩ : An19) none 0 hEI.pi.pb hEI.pi.po (by omega) (ok_nil rfl) (by omega)) (fun v G1 hq => ?_)
              obtain ⟨rfl, rfl⟩ := hq
              simp only [List.cons_append, List.nil_append]
              refine .rd (.assign rfl) ?_
              refine .nil ?_
              refine .inBlock ?_
              refine .nilArr 35 21 none ?_
              refine .cast (X' := Said none 0 []) (rfl) ?_
              refine .alter (t := 9) (v' := .int .i64 (step s now (⟨u.kind + 1, u.to, 101, u.id, x.m.m7, x.m.err, []⟩ : An19)).calls) rfl (by rw [(hEI.pi.step now (⟨u.kind + 1, u.to, 101, u.id, x.m.m7, x.m.err, []⟩ : An19)).2.1]) ?_
              exact fin ((step s now (⟨u.kind + 1, u.to, 101, u.id, x.m.m7, x.m.err, []⟩ : An19)), now, [], none, 0) ⟨hEI.step (⟨u.kind + 1, u.to, 101, u.id, x.m.m7, x.m.err, []⟩ : An19), ⟨by omega, by omega⟩, ⟨by rw [(hEI.pi.step now (⟨u.kind + 1, u.to, 101, u.id, x.m.m7, x.m.err, []⟩ : An19)).2.1]; omega, by rw [(hEI.pi.step now (⟨u.kind + 1, u.to, 101, u.id, x.m.m7, x.m.err, []⟩ : An19)).2.1]; omega⟩, Nat.zero_le _, fun m hm => by cases hm⟩ (.cons rfl (.cons rfl (.cons rfl (.cons rfl (.cons rfl (.cons rfl (.cons rfl (.cons rfl .nil)))))))) (.cons (.tail .head) (.cons .head (.cons (.tail (.tail .head)) (.cons (.tail (.tail .head)) (.cons (.tail (.tail .head)) .nil)))))
            · refine .skip ?_
              refine .inBlock ?_
              refine .nilArr 35 21 none ?_
              refine .cast (X' := Said none 0 []) (rfl) ?_
              exact fin (s, now, [], none, 0) ⟨hEI, ⟨by omega, by omega⟩, ⟨by omega, by omega⟩, Nat.zero_le _, fun m hm => by cases hm⟩ (.cons rfl (.cons rfl (.cons rfl (.cons rfl (.cons rfl (.cons rfl (.cons rfl (.cons rfl .nil)))))))) (.cons (.tail .head) (.cons .head (.cons (.tail .head) (.cons (.tail .head) (.cons (.tail .head) .nil)))))
      · refine .condP rfl (fun h18 => ?_) (fun h18 => ?_)
        · refine .skip ?_
          refine .alter (t := 81) (v' := .bool (decide (pickN x.kind 6 = 0 ∨ pickN x.kind 6 = 1))) rfl (congrArg Value.bool (by simp [h18])) ?_
          exact fin (.cons rfl (.cons rfl (.cons rfl (.cons rfl (.cons rfl (.cons rfl (.cons rfl (.cons rfl (.cons rfl (.cons rfl (.cons rfl .nil))))))))))) (.cons (.tail .head) (.cons .head (.cons .head (.cons .head (.cons .head .nil)))))
        · refine .region ?_
          refine .rd (.eqI rfl rfl) ?_
          refine .rd (.assign rfl) ?_
          refine .nil ?_
          refine .alter (t := 81) (v' := .bool (decide (pickN x.kind 6 = 0 ∨ pickN x.kind 6 = 1))) rfl (congrArg Value.bool (by simp [h18])) ?_
          exact fin (.cons rfl (.cons rfl (.cons rfl (.cons rfl (.cons rfl (.cons rfl (.cons rfl (.cons rfl (.cons rfl (.cons rfl (.cons rfl .nil))))))))))) (.cons (.tail .head) (.cons .head (.cons .head (.cons .head (.cons .head .nil)))))
  · refine .exit rfl ?_
    refine .seq ?_
    refine .seq ?_
    obtain ⟨calls, hcal⟩ : ∃ n, n = s.calls := ⟨_, rfl⟩
    refine .region ?_
    refine .rd (.assign rfl) ?_
    refine .nil ?_
    refine .block ?_
    refine .loop (σ := Nat × CS19 × List Int × (Option Addr × Nat) × Int) (fun ⟨j, s, over, ov, now⟩ => j ≤ 4 ∧ EI s over now (2 - j) ∧ (0 ≤ now ∧ now ≤ 3000 + 10 * j) ∧ s.calls = calls ∧ s.ended = []) (fun ⟨j, s, over, ov, now⟩ => 4 - j) (fun ⟨j, s, over, ov, now⟩ => [(4, .pointer (some ⟨pb, 0, none⟩)), (6, .slice ov.1 over.length ov.2), (8, .int .i64 now), (9, .int .i64 calls), (18, .int .i64 (j : Nat))]) (fun ⟨j, s, over, ov, now⟩ => [PR pb s, arr 3 1 ov.1 ov.2 (over.flatMap icell), R]) (0, s, over, ov, now) ⟨Nat.zero_le _, hEI, ⟨hn1, by show now ≤ 3000 + 0; omega⟩, hcal.symm, hen⟩ (.cons rfl (.cons rfl (.cons rfl (.cons (by rw [hcal]; rfl) (.cons rfl .nil))))) (.cons .head (.cons .head (.cons (.tail .head) .nil))) (fun s' hI ih => ?_)
    clear hEI hen hus hsm1 hsm2
    obtain ⟨j, s, over, ov, now⟩ := s'
    dsimp only at hI ih ⊢
    obtain ⟨hj4, hEI, ⟨hn1, hn2⟩, hcal, hen⟩ := hI
    have ih3 := ih
    obtain ⟨hsm1, hsm2⟩ := hEI.small
    have hk := hEI.tick (now' := now + 10) (by omega)
    have hEI3 := hk.1
    have hEI4 : EI (tick s (now + 10)).1 over (now + 10) (2 - j - 1) := hEI3.less fun c hc => (hk.2 rfl c hc).1
    obtain ⟨hsm3, hsm4⟩ := hEI3.small
    have hct := (tick_keep hEI.pi (now + 10)).2.1
    obtain ⟨hcn1, hcn2⟩ := hEI.pi.pb.calls
    refine .seq ?_
    refine .seq ?_
    refine .region ?_
    refine .rd (.move rfl) ?_
    refine .rd (.lt rfl rfl) ?_
    refine .nil ?_
    refine .condP rfl (fun h36 => ?_) (fun h36 => ?_)
    · refine .skip ?_
      refine .seq ?_
      refine .block ?_
      refine .seq ?_
      refine .region ?_
      refine .rd (.move rfl) ?_
      refine .rd (.add rfl rfl (by omega) (by omega)) ?_
      refine .rd (.assign rfl) ?_
      refine .nil ?_
      refine .seq ?_
      refine .region ?_
      refine .rd (.move rfl) ?_
      refine .rd (.move rfl) ?_
      refine .fn rfl rfl (.cons .head .nil) (fun _ _ _ => trivial) (tick_ok pb (now + 10) s hEI.pi.pb hEI.pi.po (by omega) (by omega)) (fun v G1 hq => ?_)
      obtain ⟨oa3, oc3, rfl, rfl⟩ := hq
      simp only [List.cons_append, List.nil_append]
      refine .nil ?_
      refine .seq ?_
      refine .region ?_
      refine .rd (.assign rfl) ?_
      refine .nil ?_
      refine .seq ?_
      refine .region ?_
      refine .rd (.move rfl) ?_
      refine .rd (.move rfl) ?_
      refine .fn rfl rfl (.cons .head .nil) (fun _ _ _ => trivial) (done_ok pb (tick s (now + 10)).1) (fun v G1 hq => ?_)
      obtain ⟨ea, ec, rfl, rfl⟩ := hq
      simp only [List.cons_append, List.nil_append]
      refine .fn rfl rfl (.cons (.tail (.tail (.tail .head))) .nil) (Knows.arr (.tail .head)) (ended_ok over ov.1 ov.2 ea ec (tick s (now + 10)).1.ended (by omega) (by omega) (fun i y hy => hEI3.fresh hy) hEI3.done) (fun v G1 hq => ?_)
      obtain ⟨qoa, qoc, rfl, rfl⟩ := hq
      simp only [List.cons_append, List.nil_append]
      refine .rd (.move rfl) ?_
      refine .rd (.extract rfl rfl) ?_
      refine .rd (.extract rfl rfl) ?_
      refine .rd (.assign rfl) ?_
      refine .rd (.assign rfl) ?_
      refine .nil ?_
      refine .seq ?_
      refine .region ?_
      refine .rd (.move rfl) ?_
      refine .rd (.not rfl) ?_
      refine .nil ?_
      refine .condF rfl ?_
      refine .skip ?_
      refine .inBlock ?_
      refine .region ?_
      refine .rd (.move rfl) ?_
      refine .rd (.add rfl rfl (by omega) (by omega)) ?_
      refine .rd (.assign rfl) ?_
      refine .nil ?_
      exact (ih3 (j + 1, done19 (tick s (now + 10)).1, over ++ (tick s (now + 10)).1.ended.map (·.call), (qoa, qoc), now + 10) ⟨by show j + 1 ≤ 4; omega, (by have := hEI4.tell; rw [show (2 : Int) - ((j + 1 : Nat) : Int) = 2 - j - 1 by omega]; exact this), ⟨by show 0 ≤ now + 10; omega, by show now + 10 ≤ 3000 + 10 * ((j + 1 : Nat) : Int); omega⟩, by show (tick s (now + 10)).1.calls = calls; rw [(tick_keep hEI.pi _).2.1]; exact hcal, rfl⟩ (by show 4 - (j + 1) < 4 - j; omega)).to (.cons rfl (.cons rfl (.cons rfl (.cons rfl (.cons rfl .nil))))) (.cons (.tail .head) (.cons .head (.cons (.tail (.tail .head)) .nil)))
    · obtain rfl : j = 4 := by omega
      have hno := hEI.none (by decide)
      have hcnt := hEI.count
      rw [hno, hen] at hcnt
      simp only [List.length_nil] at hcnt
      refine .exit rfl ?_
      refine .seq ?_
      refine .region ?_
      refine .rd (.move rfl) ?_
      refine .fn rfl rfl (.cons .head .nil) (fun _ _ _ => trivial) (open_ok pb s) (fun v G1 hq => ?_)
      obtain ⟨rfl, rfl⟩ := hq
      simp only [List.cons_append, List.nil_append]
      refine .rd (.eqI rfl rfl) ?_
      refine .alter (t := 169) (v' := .bool true) rfl (congrArg Value.bool (by rw [hno]; rfl)) ?_
      refine .rd (.move rfl) ?_
      refine .on (t := 170) rfl rfl ?_
      refine .rd (.move rfl) ?_
      refine .on (t := 170) rfl rfl ?_
      refine .rd (.lenL rfl rfl Tryd.underlying28 rfl) ?_
      refine .on (t := 170) rfl rfl ?_
      refine .rd (.move rfl) ?_
      refine .on (t := 170) rfl rfl ?_
      refine .rd (.eqI rfl rfl) ?_
      refine .alter (t := 174) (v' := .bool true) rfl (congrArg Value.bool (decide_eq_true (by omega))) ?_
      refine .rd (.pickT rfl rfl) ?_
      refine .rd (.assign rfl) ?_
      refine .nil ?_
      refine .retP Tryd.func3 (.cons (.tmp rfl) .nil) (.cons (.tail (.tail .head)) .nil) ?_
      exact ⟨[], ⟨rfl, rfl⟩, rfl⟩

end Go.Proofs.YtankogdnhgmkhaaDoor


namespace Go.Proofs.YtankogdnhgmkhaaDoor
open Go Go.Sp

set_option linter.unusedVariables false

namespace read19

end read19
open read19



theorem i64_wf {n : Int} (h : (Lit.int .i64 n).wf = true) : i64 n := by simpa [i64, Lit.wf, IntKind.min, IntKind.max, IntKind.signed, IntKind.bits] using h
theorem Rd.num {H : Type} {enc : TypeId × Value → H} {P : Program} {W : World} {spare : Nat → Bool} {held : Bool} {t} (ht : P.underlying t = some (.int .i64)) : Rd enc P W spare held t (fun n : Int => [.int .i64 n]) i64 := fun n cs x h hf => by
  obtain ⟨m, e, hm⟩ := Rd.int ht n cs x h hf
  exact ⟨m, e, i64_wf hm⟩
theorem Rd.text {H : Type} {enc : TypeId × Value → H} {P : Program} {W : World} {spare : Nat → Bool} {held : Bool} {t} (ht : P.underlying t = some .string) : Rd enc P W spare held t (fun s : List UInt8 => [.string (str s)]) (fun s => s.length ≤ 140737488351232) := fun n cs x h hf => by
  obtain ⟨s, e, hs⟩ := Rd.string ht n cs x h hf
  refine ⟨s.data.toList, ?_, ?_⟩
  · show cs = [Value.string (str s.data.toList)]; rw [str_data]; exact e
  · show s.data.toList.length ≤ _; rw [← str_size, str_data]; exact hs
theorem Rd.anyRow {H : Type} {enc : TypeId × Value → H} {P : Program} {W : World} {spare : Nat → Bool} {held : Bool} {t e} (ht : P.underlying t = some (.slice e)) : Rd enc P W spare held t (fun y : Sl19 => [.slice y.1 y.2.1 y.2.2]) (fun _ => True) := fun n cs x h _ => by
  rcases DataW.trod_slice ht h with ⟨rfl, _⟩ | ⟨a, len, cap, elems, rest, m, rfl, rfl, rfl, _⟩
  · exact ⟨(none, 0, 0), rfl, trivial⟩
  · exact ⟨(some a, len, cap), rfl, trivial⟩
theorem scell_ones (t : List UInt8) : ones (scell t) := .of rfl

theorem rdS {H : Type} {enc : TypeId × Value → H} {W : World} {spare : Nat → Bool} {held : Bool} : Rd enc Tryd.prog W spare held 31 Sn19.cells (fun s => i64 s.offset ∧ s.name.length ≤ 140737488351232 ∧ s.text.length ≤ 140737488351232) := by
  intro n cs x h hf
  have hl : cs.length = 12 := (Rd.structLen Tryd.underlying31 h).trans (by kernel_rfl)
  obtain ⟨c0, cs0, rfl, hl0⟩ := cons_of_len hl
  obtain ⟨c1, cs1, rfl, hl1⟩ := cons_of_len hl0
  obtain ⟨c2, cs2, rfl, hl2⟩ := cons_of_len hl1
  obtain ⟨c3, cs3, rfl, hl3⟩ := cons_of_len hl2
  obtain ⟨c4, cs4, rfl, hl4⟩ := cons_of_len hl3
  obtain ⟨c5, cs5, rfl, hl5⟩ := cons_of_len hl4
  obtain ⟨c6, cs6, rfl, hl6⟩ := cons_of_len hl5
  obtain ⟨c7, cs7, rfl, hl7⟩ := cons_of_len hl6
  obtain ⟨c8, cs8, rfl, hl8⟩ := cons_of_len hl7
  obtain ⟨c9, cs9, rfl, hl9⟩ := cons_of_len hl8
  obtain ⟨c10, cs10, rfl, hl10⟩ := cons_of_len hl9
  obtain ⟨c11, cs11, rfl, hl11⟩ := cons_of_len hl10
  obtain rfl : cs11 = [] := List.eq_nil_of_length_eq_zero hl11
  obtain ⟨f0, e0, w0⟩ := Rd.field Tryd.underlying31 h hf 0 0 1 rfl (by kernel_rfl) (Rd.num Tryd.underlying3)
  simp only [List.drop_zero, List.take_succ_cons, List.take_zero, List.cons.injEq, and_true] at e0
  obtain ⟨f1, e1, w1⟩ := Rd.field Tryd.underlying31 h hf 1 1 1 rfl (by kernel_rfl) (Rd.num Tryd.underlying3)
  simp only [List.drop_succ_cons, List.drop_zero, List.take_succ_cons, List.take_zero, List.cons.injEq, and_true] at e1
  obtain ⟨f2, e2, w2⟩ := Rd.field Tryd.underlying31 h hf 2 2 1 rfl (by kernel_rfl) (Rd.num Tryd.underlying3)
  simp only [List.drop_succ_cons, List.drop_zero, List.take_succ_cons, List.take_zero, List.cons.injEq, and_true] at e2
  obtain ⟨f3, e3, w3⟩ := Rd.field Tryd.underlying31 h hf 3 3 1 rfl (by kernel_rfl) (Rd.num Tryd.underlying3)
  simp only [List.drop_succ_cons, List.drop_zero, List.take_succ_cons, List.take_zero, List.cons.injEq, and_true] at e3
  obtain ⟨f4, e4, w4⟩ := Rd.field Tryd.underlying31 h hf 4 4 1 rfl (by kernel_rfl) (Rd.num Tryd.underlying3)
  simp only [List.drop_succ_cons, List.drop_zero, List.take_succ_cons, List.take_zero, List.cons.injEq, and_true] at e4
  obtain ⟨f5, e5, w5⟩ := Rd.field Tryd.underlying31 h hf 5 5 1 rfl (by kernel_rfl) (Rd.num Tryd.underlying3)
  simp only [List.drop_succ_cons, List.drop_zero, List.take_succ_cons, List.take_zero, List.cons.injEq, and_true] at e5
  obtain ⟨f6, e6, w6⟩ := Rd.field Tryd.underlying31 h hf 6 6 1 rfl (by kernel_rfl) (Rd.num Tryd.underlying3)
  simp only [List.drop_succ_cons, List.drop_zero, List.take_succ_cons, List.take_zero, List.cons.injEq, and_true] at e6
  obtain ⟨f7, e7, w7⟩ := Rd.field Tryd.underlying31 h hf 7 7 1 rfl (by kernel_rfl) (Rd.num Tryd.underlying3)
  simp only [List.drop_succ_cons, List.drop_zero, List.take_succ_cons, List.take_zero, List.cons.injEq, and_true] at e7
  obtain ⟨nm, e8, wn⟩ := Rd.field Tryd.underlying31 h hf 8 8 1 rfl (by kernel_rfl) (Rd.text Tryd.underlying9)
  simp only [List.drop_succ_cons, List.drop_zero, List.take_succ_cons, List.take_zero, List.cons.injEq, and_true] at e8
  obtain ⟨tx, e9, wt⟩ := Rd.field Tryd.underlying31 h hf 9 9 1 rfl (by kernel_rfl) (Rd.text Tryd.underlying9)
  simp only [List.drop_succ_cons, List.drop_zero, List.take_succ_cons, List.take_zero, List.cons.injEq, and_true] at e9
  obtain ⟨er, e10, we⟩ := Rd.field Tryd.underlying31 h hf 10 10 1 rfl (by kernel_rfl) (Rd.num Tryd.underlying25)
  simp only [List.drop_succ_cons, List.drop_zero, List.take_succ_cons, List.take_zero, List.cons.injEq, and_true] at e10
  obtain ⟨dn, e11, wd⟩ := Rd.field Tryd.underlying31 h hf 11 11 1 rfl (by kernel_rfl) (Rd.bool Tryd.underlying4)
  simp only [List.drop_succ_cons, List.drop_zero, List.take_succ_cons, List.take_zero, List.cons.injEq, and_true] at e11
  subst e0
  subst e1
  subst e2
  subst e3
  subst e4
  subst e5
  subst e6
  subst e7
  subst e8
  subst e9
  subst e10
  subst e11
  exact ⟨⟨f0, f1, f2, f3, f4, f5, f6, f7, nm, tx, er, dn⟩, rfl, ⟨w4, wn, wt⟩⟩

theorem rdM {H : Type} {enc : TypeId × Value → H} {W : World} {spare : Nat → Bool} {held : Bool} : Rd enc Tryd.prog W spare held 35 MX.cells (fun _ => True) := by
  intro n cs x h hf
  have hl : cs.length = 21 := (Rd.structLen Tryd.underlying35 h).trans (by kernel_rfl)
  obtain ⟨c0, cs0, rfl, hl0⟩ := cons_of_len hl
  obtain ⟨c1, cs1, rfl, hl1⟩ := cons_of_len hl0
  obtain ⟨c2, cs2, rfl, hl2⟩ := cons_of_len hl1
  obtain ⟨c3, cs3, rfl, hl3⟩ := cons_of_len hl2
  obtain ⟨c4, cs4, rfl, hl4⟩ := cons_of_len hl3
  obtain ⟨c5, cs5, rfl, hl5⟩ := cons_of_len hl4
  obtain ⟨c6, cs6, rfl, hl6⟩ := cons_of_len hl5
  obtain ⟨c7, cs7, rfl, hl7⟩ := cons_of_len hl6
  obtain ⟨c8, cs8, rfl, hl8⟩ := cons_of_len hl7
  obtain ⟨c9, cs9, rfl, hl9⟩ := cons_of_len hl8
  obtain ⟨c10, cs10, rfl, hl10⟩ := cons_of_len hl9
  obtain ⟨c11, cs11, rfl, hl11⟩ := cons_of_len hl10
  obtain ⟨c12, cs12, rfl, hl12⟩ := cons_of_len hl11
  obtain ⟨c13, cs13, rfl, hl13⟩ := cons_of_len hl12
  obtain ⟨c14, cs14, rfl, hl14⟩ := cons_of_len hl13
  obtain ⟨c15, cs15, rfl, hl15⟩ := cons_of_len hl14
  obtain ⟨c16, cs16, rfl, hl16⟩ := cons_of_len hl15
  obtain ⟨c17, cs17, rfl, hl17⟩ := cons_of_len hl16
  obtain ⟨c18, cs18, rfl, hl18⟩ := cons_of_len hl17
  obtain ⟨c19, cs19, rfl, hl19⟩ := cons_of_len hl18
  obtain ⟨c20, cs20, rfl, hl20⟩ := cons_of_len hl19
  obtain rfl : cs20 = [] := List.eq_nil_of_length_eq_zero hl20
  obtain ⟨f0, e0, w0⟩ := Rd.field Tryd.underlying35 h hf 0 0 1 rfl (by kernel_rfl) (Rd.num Tryd.underlying3)
  simp only [List.drop_zero, List.take_succ_cons, List.take_zero, List.cons.injEq, and_true] at e0
  obtain ⟨f1, e1, w1⟩ := Rd.field Tryd.underlying35 h hf 1 1 1 rfl (by kernel_rfl) (Rd.num Tryd.underlying3)
  simp only [List.drop_succ_cons, List.drop_zero, List.take_succ_cons, List.take_zero, List.cons.injEq, and_true] at e1
  obtain ⟨f2, e2, w2⟩ := Rd.field Tryd.underlying35 h hf 2 2 1 rfl (by kernel_rfl) (Rd.num Tryd.underlying3)
  simp only [List.drop_succ_cons, List.drop_zero, List.take_succ_cons, List.take_zero, List.cons.injEq, and_true] at e2
  obtain ⟨f3, e3, w3⟩ := Rd.field Tryd.underlying35 h hf 3 3 1 rfl (by kernel_rfl) (Rd.num Tryd.underlying3)
  simp only [List.drop_succ_cons, List.drop_zero, List.take_succ_cons, List.take_zero, List.cons.injEq, and_true] at e3
  obtain ⟨f4, e4, w4⟩ := Rd.field Tryd.underlying35 h hf 4 4 1 rfl (by kernel_rfl) (Rd.num Tryd.underlying3)
  simp only [List.drop_succ_cons, List.drop_zero, List.take_succ_cons, List.take_zero, List.cons.injEq, and_true] at e4
  obtain ⟨f5, e5, w5⟩ := Rd.field Tryd.underlying35 h hf 5 5 1 rfl (by kernel_rfl) (Rd.num Tryd.underlying3)
  simp only [List.drop_succ_cons, List.drop_zero, List.take_succ_cons, List.take_zero, List.cons.injEq, and_true] at e5
  obtain ⟨f6, e6, w6⟩ := Rd.field Tryd.underlying35 h hf 6 6 1 rfl (by kernel_rfl) (Rd.num Tryd.underlying3)
  simp only [List.drop_succ_cons, List.drop_zero, List.take_succ_cons, List.take_zero, List.cons.injEq, and_true] at e6
  obtain ⟨f7, e7, w7⟩ := Rd.field Tryd.underlying35 h hf 7 7 1 rfl (by kernel_rfl) (Rd.num Tryd.underlying3)
  simp only [List.drop_succ_cons, List.drop_zero, List.take_succ_cons, List.take_zero, List.cons.injEq, and_true] at e7
  obtain ⟨f8, e8, w8⟩ := Rd.field Tryd.underlying35 h hf 8 8 1 rfl (by kernel_rfl) (Rd.num Tryd.underlying3)
  simp only [List.drop_succ_cons, List.drop_zero, List.take_succ_cons, List.take_zero, List.cons.injEq, and_true] at e8
  obtain ⟨f9, e9, w9⟩ := Rd.field Tryd.underlying35 h hf 9 9 1 rfl (by kernel_rfl) (Rd.num Tryd.underlying3)
  simp only [List.drop_succ_cons, List.drop_zero, List.take_succ_cons, List.take_zero, List.cons.injEq, and_true] at e9
  obtain ⟨f10, e10, w10⟩ := Rd.field Tryd.underlying35 h hf 10 10 1 rfl (by kernel_rfl) (Rd.num Tryd.underlying3)
  simp only [List.drop_succ_cons, List.drop_zero, List.take_succ_cons, List.take_zero, List.cons.injEq, and_true] at e10
  obtain ⟨f11, e11, w11⟩ := Rd.field Tryd.underlying35 h hf 11 11 1 rfl (by kernel_rfl) (Rd.num Tryd.underlying3)
  simp only [List.drop_succ_cons, List.drop_zero, List.take_succ_cons, List.take_zero, List.cons.injEq, and_true] at e11
  obtain ⟨f12, e12, w12⟩ := Rd.field Tryd.underlying35 h hf 12 12 1 rfl (by kernel_rfl) (Rd.num Tryd.underlying3)
  simp only [List.drop_succ_cons, List.drop_zero, List.take_succ_cons, List.take_zero, List.cons.injEq, and_true] at e12
  obtain ⟨f13, e13, w13⟩ := Rd.field Tryd.underlying35 h hf 13 13 1 rfl (by kernel_rfl) (Rd.num Tryd.underlying3)
  simp only [List.drop_succ_cons, List.drop_zero, List.take_succ_cons, List.take_zero, List.cons.injEq, and_true] at e13
  obtain ⟨f14, e14, w14⟩ := Rd.field Tryd.underlying35 h hf 14 14 1 rfl (by kernel_rfl) (Rd.num Tryd.underlying3)
  simp only [List.drop_succ_cons, List.drop_zero, List.take_succ_cons, List.take_zero, List.cons.injEq, and_true] at e14
  obtain ⟨f15, e15, w15⟩ := Rd.field Tryd.underlying35 h hf 15 15 1 rfl (by kernel_rfl) (Rd.num Tryd.underlying25)
  simp only [List.drop_succ_cons, List.drop_zero, List.take_succ_cons, List.take_zero, List.cons.injEq, and_true] at e15
  obtain ⟨nm, e16, w16⟩ := Rd.field Tryd.underlying35 h hf 16 16 1 rfl (by kernel_rfl) (Rd.text Tryd.underlying9)
  simp only [List.drop_succ_cons, List.drop_zero, List.take_succ_cons, List.take_zero, List.cons.injEq, and_true] at e16
  obtain ⟨tx, e17, w17⟩ := Rd.field Tryd.underlying35 h hf 17 17 1 rfl (by kernel_rfl) (Rd.text Tryd.underlying9)
  simp only [List.drop_succ_cons, List.drop_zero, List.take_succ_cons, List.take_zero, List.cons.injEq, and_true] at e17
  obtain ⟨s0, e18, w18⟩ := Rd.field Tryd.underlying35 h hf 18 18 1 rfl (by kernel_rfl) (Rd.anyRow Tryd.underlying32)
  simp only [List.drop_succ_cons, List.drop_zero, List.take_succ_cons, List.take_zero, List.cons.injEq, and_true] at e18
  obtain ⟨s1, e19, w19⟩ := Rd.field Tryd.underlying35 h hf 19 19 1 rfl (by kernel_rfl) (Rd.anyRow Tryd.underlying33)
  simp only [List.drop_succ_cons, List.drop_zero, List.take_succ_cons, List.take_zero, List.cons.injEq, and_true] at e19
  obtain ⟨s2, e20, w20⟩ := Rd.field Tryd.underlying35 h hf 20 20 1 rfl (by kernel_rfl) (Rd.anyRow Tryd.underlying28)
  simp only [List.drop_succ_cons, List.drop_zero, List.take_succ_cons, List.take_zero, List.cons.injEq, and_true] at e20
  subst e0
  subst e1
  subst e2
  subst e3
  subst e4
  subst e5
  subst e6
  subst e7
  subst e8
  subst e9
  subst e10
  subst e11
  subst e12
  subst e13
  subst e14
  subst e15
  subst e16
  subst e17
  subst e18
  subst e19
  subst e20
  exact ⟨⟨f0, f1, f2, f3, f4, f5, f6, f7, f8, f9, f10, f11, f12, f13, f14, f15, nm, tx, s0, s1, s2⟩, rfl, trivial⟩

theorem rdOp {H : Type} {enc : TypeId × Value → H} {W : World} {spare : Nat → Bool} {held : Bool} : Rd enc Tryd.prog W spare held 37 OpX.cells OpX.good := by
  intro n cs x h hf
  have hl : cs.length = 36 := (Rd.structLen Tryd.underlying37 h).trans (by kernel_rfl)
  obtain ⟨c0, cs0, rfl, hl0⟩ := cons_of_len hl
  obtain ⟨c1, cs1, rfl, hl1⟩ := cons_of_len hl0
  obtain ⟨c2, cs2, rfl, hl2⟩ := cons_of_len hl1
  obtain ⟨c3, cs3, rfl, hl3⟩ := cons_of_len hl2
  obtain ⟨c4, cs4, rfl, hl4⟩ := cons_of_len hl3
  obtain ⟨c5, cs5, rfl, hl5⟩ := cons_of_len hl4
  obtain ⟨c6, cs6, rfl, hl6⟩ := cons_of_len hl5
  obtain ⟨c7, cs7, rfl, hl7⟩ := cons_of_len hl6
  obtain ⟨c8, cs8, rfl, hl8⟩ := cons_of_len hl7
  obtain ⟨c9, cs9, rfl, hl9⟩ := cons_of_len hl8
  obtain ⟨c10, cs10, rfl, hl10⟩ := cons_of_len hl9
  obtain ⟨c11, cs11, rfl, hl11⟩ := cons_of_len hl10
  obtain ⟨c12, cs12, rfl, hl12⟩ := cons_of_len hl11
  obtain ⟨c13, cs13, rfl, hl13⟩ := cons_of_len hl12
  obtain ⟨c14, cs14, rfl, hl14⟩ := cons_of_len hl13
  obtain ⟨c15, cs15, rfl, hl15⟩ := cons_of_len hl14
  obtain ⟨c16, cs16, rfl, hl16⟩ := cons_of_len hl15
  obtain ⟨c17, cs17, rfl, hl17⟩ := cons_of_len hl16
  obtain ⟨c18, cs18, rfl, hl18⟩ := cons_of_len hl17
  obtain ⟨c19, cs19, rfl, hl19⟩ := cons_of_len hl18
  obtain ⟨c20, cs20, rfl, hl20⟩ := cons_of_len hl19
  obtain ⟨c21, cs21, rfl, hl21⟩ := cons_of_len hl20
  obtain ⟨c22, cs22, rfl, hl22⟩ := cons_of_len hl21
  obtain ⟨c23, cs23, rfl, hl23⟩ := cons_of_len hl22
  obtain ⟨c24, cs24, rfl, hl24⟩ := cons_of_len hl23
  obtain ⟨c25, cs25, rfl, hl25⟩ := cons_of_len hl24
  obtain ⟨c26, cs26, rfl, hl26⟩ := cons_of_len hl25
  obtain ⟨c27, cs27, rfl, hl27⟩ := cons_of_len hl26
  obtain ⟨c28, cs28, rfl, hl28⟩ := cons_of_len hl27
  obtain ⟨c29, cs29, rfl, hl29⟩ := cons_of_len hl28
  obtain ⟨c30, cs30, rfl, hl30⟩ := cons_of_len hl29
  obtain ⟨c31, cs31, rfl, hl31⟩ := cons_of_len hl30
  obtain ⟨c32, cs32, rfl, hl32⟩ := cons_of_len hl31
  obtain ⟨c33, cs33, rfl, hl33⟩ := cons_of_len hl32
  obtain ⟨c34, cs34, rfl, hl34⟩ := cons_of_len hl33
  obtain ⟨c35, cs35, rfl, hl35⟩ := cons_of_len hl34
  obtain rfl : cs35 = [] := List.eq_nil_of_length_eq_zero hl35
  obtain ⟨f0, e0, w0⟩ := Rd.field Tryd.underlying37 h hf 0 0 1 rfl (by kernel_rfl) (Rd.num Tryd.underlying3)
  simp only [List.drop_zero, List.take_succ_cons, List.take_zero, List.cons.injEq, and_true] at e0
  obtain ⟨f1, e1, w1⟩ := Rd.field Tryd.underlying37 h hf 1 1 1 rfl (by kernel_rfl) (Rd.num Tryd.underlying3)
  simp only [List.drop_succ_cons, List.drop_zero, List.take_succ_cons, List.take_zero, List.cons.injEq, and_true] at e1
  obtain ⟨s, e2, w2⟩ := Rd.field Tryd.underlying37 h hf 2 2 12 rfl (by kernel_rfl) rdS
  simp only [List.drop_succ_cons, List.drop_zero, List.take_succ_cons, List.take_zero] at e2
  obtain ⟨m, e3, w3⟩ := Rd.field Tryd.underlying37 h hf 3 14 21 rfl (by kernel_rfl) rdM
  simp only [List.drop_succ_cons, List.drop_zero, List.take_succ_cons, List.take_zero] at e3
  obtain ⟨b, e4, w4⟩ := Rd.field Tryd.underlying37 h hf 4 35 1 rfl (by kernel_rfl) (Rd.bool Tryd.underlying4)
  simp only [List.drop_succ_cons, List.drop_zero, List.take_succ_cons, List.take_zero, List.cons.injEq, and_true] at e4
  subst e0
  subst e1
  subst e4
  simp only [Sn19.cells, List.cons.injEq, and_true] at e2
  obtain ⟨rfl, rfl, rfl, rfl, rfl, rfl, rfl, rfl, rfl, rfl, rfl, rfl⟩ := e2
  simp only [MX.cells, List.cons.injEq, and_true] at e3
  obtain ⟨rfl, rfl, rfl, rfl, rfl, rfl, rfl, rfl, rfl, rfl, rfl, rfl, rfl, rfl, rfl, rfl, rfl, rfl, rfl, rfl, rfl⟩ := e3
  exact ⟨⟨f0, f1, s, m, b⟩, rfl, ⟨w0, w1, w2.1, w2.2.1, w2.2.2⟩⟩

end Go.Proofs.YtankogdnhgmkhaaDoor


/- Chapter 19: what the row's condition gives of the package variables (LV). -/
namespace Go.Proofs.YtankogdnhgmkhaaDoor
open Go Go.Sp Go.RowKit

theorem iface_cell {x : String × DataW Unit} {r : List (String × DataW Unit)} {nm : String} {d : DataW Unit} {W : World} {g : Nat} {ti : TypeId} {ms : Array (String × TypeId)} (e : x.2 = .iface nm d)
    (hg : Tryd.prog.globalNamed x.1 = some g) (ht : (Tryd.prog.globals[g]?).map (·.type) = some ti) (hi : Tryd.prog.underlying ti = some (.interface ms)) (h : laidMet Tryd.prog (x :: r) W) :
    ∃ te pe, W.cell? ⟨g, 0, none⟩ = some (.iface te pe) := by
  obtain ⟨n, d'⟩ := x
  subst e
  obtain ⟨ps, ⟨g0, t0, cs0, f0, p0, q0, hg0, ht0, hv0, hd0, _, _⟩, _, _⟩ := h
  obtain rfl := Option.some.inj (hg.symm.trans hg0)
  obtain rfl := Option.some.inj (ht.symm.trans ht0)
  obtain ⟨l0⟩ := cs0
  obtain ⟨_, u, v, rfl, _, _⟩ := iface_of_trod hi hd0
  exact ⟨u, v, World.var?_cell hg0 hv0 0⟩

theorem LV_of {W : World} (h : laidMetH Tryd.prog Go.Proofs.YtankogdnhgmkhaaDoor.Rows.consumerEndsRow.laid W) (hs : W.ShapedOpen Tryd.prog) : LV W := by
  have hl : laidMet Tryd.prog Go.Proofs.YtankogdnhgmkhaaDoor.Rows.consumerEndsRow.laid W := by
    rw [← MakeChecks.laidMetH_plain _ _ _ (by kernel_rfl)]; exact h
  have h2 := hl.tail.tail
  have h4 := h2.tail.tail
  have h5 := h4.tail
  refine ⟨?_, ?_, ?_, ?_⟩
  · exact Go.Proofs.cell_of_shapedOpen_int (g := 2) (zero := #[.int .i64 0]) (t := 3) hs (of_decide_eq_true (by kernel_rfl)) (by kernel_rfl) rfl (by kernel_rfl) (by kernel_rfl) Tryd.underlying3
  · exact iface_cell rfl (by kernel_rfl) (by kernel_rfl) Tryd.underlying81 h5
  · exact iface_cell rfl (by kernel_rfl) (by kernel_rfl) Tryd.underlying81 h4
  · exact Lib.tabIs_of_head (g := 3) (t := 133) (e := 108) (n := 20) (by kernel_rfl) (by kernel_rfl) (by kernel_rfl) (by kernel_rfl) (by kernel_rfl) (by kernel_rfl) (rest := _) (by
      have e : (Go.Proofs.YtankogdnhgmkhaaDoor.Rows.laid_internal_strconv_uint64pow10 : DataW Unit) = Lib.tabData .u64 Lib.pow10Tab := by kernel_rfl
      exact e ▸ h2)

theorem LV.later {W w : World} (H : ∀ (b : Nat) (o : Obj), W.heap[b]? = some o → w.heap[b]? = some o) (h : LV W) : LV w := by
  have hc : ∀ b off v, W.cell? ⟨b, off, none⟩ = some v → w.cell? ⟨b, off, none⟩ = some v := fun b off v h1 => by
    unfold World.cell? at h1 ⊢
    cases hb : W.heap[b]? with
    | none => simp [hb] at h1
    | some ob => rw [hb] at h1; rw [H b ob hb]; exact h1
  obtain ⟨⟨m, h0⟩, ⟨t1, p1, h1⟩, ⟨t2, p2, h2⟩, h3⟩ := h
  refine ⟨⟨m, hc _ _ _ h0⟩, ⟨t1, p1, hc _ _ _ h1⟩, ⟨t2, p2, hc _ _ _ h2⟩, ?_⟩
  unfold Lib.TabIs World.var? at h3 ⊢
  cases hg : Tryd.prog.globalNamed powName with
  | none => simp [hg] at h3
  | some g =>
    rw [hg] at h3
    simp only [Option.bind_some] at h3 ⊢
    cases hb : W.heap[g]? with
    | none => simp [hb] at h3
    | some ob => rw [hb] at h3; rw [H g ob hb]; exact h3
end Go.Proofs.YtankogdnhgmkhaaDoor
